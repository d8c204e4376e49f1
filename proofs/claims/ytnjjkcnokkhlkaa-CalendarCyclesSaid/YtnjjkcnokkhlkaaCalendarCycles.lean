/- The calendars repeat: 400 years later the same date has a number that is greater by the days of 400 years: for every input; no condition. -/
import Derived.Test.YtnjjkcnokkhlkaaCalJ
namespace Go.Proofs.Ytnjjkcnokkhlkaa
open Go.RowKit Go.ChangeShapes Go.WideShapes Go.ChangeAt Go.Joins

theorem cum_cyc (c y m : Int) : Cal.cum c (y + 400) m = Cal.cum c y m := by
  have h : Cal.leap c (y + 400) = Cal.leap c y := by
    have a := Cal.leap_cyc c 1 y
    rw [show 400 * (1 : Int) + y = y + 400 by omega] at a
    exact a
  unfold Cal.cum; rw [h]
theorem num_cyc (c y m d : Int) : Cal.num c (y + 400) m d - Cal.num c y m d = Cal.cyc c := by
  have h := Cal.first_cyc c 1 y
  rw [show 400 * (1 : Int) + y = y + 400 by omega] at h
  unfold Cal.num
  rw [cum_cyc, h]; omega

set_option maxRecDepth 100000 in
set_option maxHeartbeats 1600000 in
theorem cycles_walk (c y m d : Int) (w : World) :
    Calls Try.prog 4 #[.int .i64 c, dt y m d] w fun e w' => e = .returned (.bool true) ∧ Below w.heap.size w w' := by
  have N1 := fun w => Number_any c y m d w
  have N2 := fun z w => Number_any c z m d w
  by_cases h1 : dck c y m d = 0
  · have hv : Cal.vld c y m d = true := by
      rcases dck_cases c y m d with ⟨_, h⟩ | ⟨_, _, h⟩ | ⟨_, h, _⟩
      · omega
      · omega
      · exact h
    obtain ⟨y1, y2, m1, m2, d1, d2⟩ := vld_bd hv
    have hc := ((Cal.vld_iff c y m d).1 hv)
    by_cases h2 : dck c (y + 400) m d = 0
    · have e1 : numv c y m d = Cal.num c y m d := by unfold numv; rw [if_pos h1]
      have e2 : numv c (y + 400) m d = Cal.num c (y + 400) m d := by unfold numv; rw [if_pos h2]
      have M2 := N2 (y + 400)
      rw [e1, h1] at N1
      rw [e2, h2] at M2
      have f1 := Cal.first_bd c y (by omega) (by omega)
      have f2 := Cal.first_bd c (y + 400) (by omega) (by omega)
      have g1 := Cal.cum_bd c y m (by omega) (by omega)
      have g2 := Cal.cum_bd c (y + 400) m (by omega) (by omega)
      have b1 : -8000000 ≤ Cal.num c y m d ∧ Cal.num c y m d ≤ 8000000 := by unfold Cal.num; omega
      have b2 : -8000000 ≤ Cal.num c (y + 400) m d ∧ Cal.num c (y + 400) m d ≤ 8000000 := by unfold Cal.num; omega
      have hd := num_cyc c y m d
      clear e1 e2 h1 h2 hv N2 f1 f2 g1 g2
      generalize Cal.num c y m d = a at *
      generalize Cal.num c (y + 400) m d = b at *
      obtain ⟨c1, c2, _⟩ := hc
      have tok1 : True := trivial
      have hcc : c = 1 ∨ c = 2 ∨ c = 3 ∨ c = 4 ∨ c = 5 := by omega
      rcases hcc with rfl | rfl | rfl | rfl | rfl
      · have hd' : (b - a == 146097) = true := by rw [hd]; rfl
        clear hd
        go_enter Try.func4, Try.ntmps4
        go_wp2_with (first | (go_at_call 15; have _t := tok1; refine (N1 _).mono ?_; rintro e w1 ⟨rfl, hb1⟩; clear tok1 _t; obtain ⟨hc1, hf1⟩ := bcell hb1) | (go_at_call 15; refine (M2 _).mono ?_; rintro e w2 ⟨rfl, hb2⟩) | (go_at_call 19; refine (sane_any _).mono ?_; rintro e w5 ⟨rfl, hb5⟩))
        go_ret
        refine ⟨rfl, ?_⟩
        (repeat (first | exact Below.refl _ _ | assumption | refine below_drewN ?_ _ | refine Below.drew ?_ | refine btrans ?_ (by assumption) | refine below_alloc ?_ _ | refine Below.setCell ?_ (by simp <;> omega) _ | refine Below.alloc ?_ (by simp <;> omega) _ | refine Below.setCell ?_ (by simp) _ | refine Below.alloc ?_ (by simp) _))
      · have hd' : (b - a == 146100) = true := by rw [hd]; rfl
        clear hd
        go_enter Try.func4, Try.ntmps4
        go_wp2_with (first | (go_at_call 15; have _t := tok1; refine (N1 _).mono ?_; rintro e w1 ⟨rfl, hb1⟩; clear tok1 _t; obtain ⟨hc1, hf1⟩ := bcell hb1) | (go_at_call 15; refine (M2 _).mono ?_; rintro e w2 ⟨rfl, hb2⟩) | (go_at_call 19; refine (sane_any _).mono ?_; rintro e w5 ⟨rfl, hb5⟩))
        go_ret
        refine ⟨rfl, ?_⟩
        (repeat (first | exact Below.refl _ _ | assumption | refine below_drewN ?_ _ | refine Below.drew ?_ | refine btrans ?_ (by assumption) | refine below_alloc ?_ _ | refine Below.setCell ?_ (by simp <;> omega) _ | refine Below.alloc ?_ (by simp <;> omega) _ | refine Below.setCell ?_ (by simp) _ | refine Below.alloc ?_ (by simp) _))
      · have hd' : (b - a == 146000) = true := by rw [hd]; rfl
        clear hd
        go_enter Try.func4, Try.ntmps4
        go_wp2_with (first | (go_at_call 15; have _t := tok1; refine (N1 _).mono ?_; rintro e w1 ⟨rfl, hb1⟩; clear tok1 _t; obtain ⟨hc1, hf1⟩ := bcell hb1) | (go_at_call 15; refine (M2 _).mono ?_; rintro e w2 ⟨rfl, hb2⟩) | (go_at_call 19; refine (sane_any _).mono ?_; rintro e w5 ⟨rfl, hb5⟩))
        go_ret
        refine ⟨rfl, ?_⟩
        (repeat (first | exact Below.refl _ _ | assumption | refine below_drewN ?_ _ | refine Below.drew ?_ | refine btrans ?_ (by assumption) | refine below_alloc ?_ _ | refine Below.setCell ?_ (by simp <;> omega) _ | refine Below.alloc ?_ (by simp <;> omega) _ | refine Below.setCell ?_ (by simp) _ | refine Below.alloc ?_ (by simp) _))
      · have hd' : (b - a == 146400) = true := by rw [hd]; rfl
        clear hd
        go_enter Try.func4, Try.ntmps4
        go_wp2_with (first | (go_at_call 15; have _t := tok1; refine (N1 _).mono ?_; rintro e w1 ⟨rfl, hb1⟩; clear tok1 _t; obtain ⟨hc1, hf1⟩ := bcell hb1) | (go_at_call 15; refine (M2 _).mono ?_; rintro e w2 ⟨rfl, hb2⟩) | (go_at_call 19; refine (sane_any _).mono ?_; rintro e w5 ⟨rfl, hb5⟩))
        go_ret
        refine ⟨rfl, ?_⟩
        (repeat (first | exact Below.refl _ _ | assumption | refine below_drewN ?_ _ | refine Below.drew ?_ | refine btrans ?_ (by assumption) | refine below_alloc ?_ _ | refine Below.setCell ?_ (by simp <;> omega) _ | refine Below.alloc ?_ (by simp <;> omega) _ | refine Below.setCell ?_ (by simp) _ | refine Below.alloc ?_ (by simp) _))
      · have hd' : (b - a == 144000) = true := by rw [hd]; rfl
        clear hd
        go_enter Try.func4, Try.ntmps4
        go_wp2_with (first | (go_at_call 15; have _t := tok1; refine (N1 _).mono ?_; rintro e w1 ⟨rfl, hb1⟩; clear tok1 _t; obtain ⟨hc1, hf1⟩ := bcell hb1) | (go_at_call 15; refine (M2 _).mono ?_; rintro e w2 ⟨rfl, hb2⟩) | (go_at_call 19; refine (sane_any _).mono ?_; rintro e w5 ⟨rfl, hb5⟩))
        go_ret
        refine ⟨rfl, ?_⟩
        (repeat (first | exact Below.refl _ _ | assumption | refine below_drewN ?_ _ | refine Below.drew ?_ | refine btrans ?_ (by assumption) | refine below_alloc ?_ _ | refine Below.setCell ?_ (by simp <;> omega) _ | refine Below.alloc ?_ (by simp <;> omega) _ | refine Below.setCell ?_ (by simp) _ | refine Below.alloc ?_ (by simp) _))
    · have M2 := N2 (y + 400)
      rw [h1] at N1
      generalize dck c (y + 400) m d = e0 at *
      have g1 : (e0 == 0) = false := by simpa using h2
      have g2 : (e0 != 0) = true := by simpa using h2
      clear h1 h2 hv hc N2
      have tok1 : True := trivial
      go_enter Try.func4, Try.ntmps4
      go_wp2_with (first | (go_at_call 15; have _t := tok1; refine (N1 _).mono ?_; rintro e w1 ⟨rfl, hb1⟩; clear tok1 _t; obtain ⟨hc1, hf1⟩ := bcell hb1) | (go_at_call 15; refine (M2 _).mono ?_; rintro e w2 ⟨rfl, hb2⟩) | (go_at_call 19; refine (sane_any _).mono ?_; rintro e w5 ⟨rfl, hb5⟩))
      go_ret
      refine ⟨rfl, ?_⟩
      (repeat (first | exact Below.refl _ _ | assumption | refine below_drewN ?_ _ | refine Below.drew ?_ | refine btrans ?_ (by assumption) | refine below_alloc ?_ _ | refine Below.setCell ?_ (by simp <;> omega) _ | refine Below.alloc ?_ (by simp <;> omega) _ | refine Below.setCell ?_ (by simp) _ | refine Below.alloc ?_ (by simp) _))
  · generalize dck c y m d = e0 at *
    have g1 : (e0 == 0) = false := by simpa using h1
    have g2 : (e0 != 0) = true := by simpa using h1
    clear h1
    have tok1 : True := trivial
    go_enter Try.func4, Try.ntmps4
    go_wp2_with (first | (go_at_call 15; have _t := tok1; refine (N1 _).mono ?_; rintro e w1 ⟨rfl, hb1⟩; clear tok1 _t; obtain ⟨hc1, hf1⟩ := bcell hb1) | (go_at_call 15; refine (N2 _ _).mono ?_; rintro e w2 ⟨rfl, hb2⟩) | (go_at_call 19; refine (sane_any _).mono ?_; rintro e w5 ⟨rfl, hb5⟩))
    go_ret
    refine ⟨rfl, ?_⟩
    (repeat (first | exact Below.refl _ _ | assumption | refine below_drewN ?_ _ | refine Below.drew ?_ | refine btrans ?_ (by assumption) | refine below_alloc ?_ _ | refine Below.setCell ?_ (by simp <;> omega) _ | refine Below.alloc ?_ (by simp <;> omega) _ | refine Below.setCell ?_ (by simp) _ | refine Below.alloc ?_ (by simp) _))

set_option maxRecDepth 100000 in
theorem calendarCycles_lifted (os : Os) (started : os.Started) (H : Type) (enc : TypeId × Value → H) :
    ReturnsInHanded {} Try.checked os 4 .any (Rows.calendarCyclesSpec.pre6 enc Try.prog Try.f4 Rows.calendarCyclesRow.domain false) (Rows.calendarCyclesSpec.post enc Try.prog Try.f4 false true false false) := by
  refine returnsInHanded_of_change (C := Try.checked) Try.own started (by kernel_rfl) Try.func4
    (ChangeSpec.witness6 (enc := enc) (C := Try.checked) false ⟨#[], #[.int .i64 0, .agg #[.int .i64 0, .int .i64 0, .int .i64 0]], []⟩ 8 (by kernel_rfl) (by kernel_rfl) (by kernel_rfl) (by kernel_rfl)) ?_
  intro W base args ds gs before hval0 hW _ _
  have hval : ∀ (j : Nat) t v, Try.f4.params[j]? = some t → args[j]? = some v → Value.okWide Try.prog W .any base t v := hval0
  have hW' := hW
  have hlt : ∀ p ∈ before, p.block < W.heap.size := fun p hp => hW.lt p hp
  obtain ⟨p, q, hA0, hV, rfl, hfz, hnd⟩ := hW
  have hA : DataW.TrodAll enc Try.prog W 0 (fun _ => true) true Try.f4.params.toList args.toList ds p := hA0
  have hAk := hA
  rw [Try.params4] at hA hval
  obtain ⟨v0, v1, d0, d1, p0, p1, rfl, rfl, rfl, h0, h1⟩ := trodAll_two hA
  obtain ⟨rfl, rfl⟩ := trodVars_none hV
  obtain ⟨c, rfl, rfl, rfl, wfc⟩ := open_int Try.underlying3 (hval 0 3 v0 rfl rfl) h0
  obtain ⟨xc0, xc1, xc2, xy0, xy1, xy2, xn, rfl, rfl, rfl, xh0, xh1, xh2⟩ := open_agg3 Try.underlying23 (by kernel_rfl) (by kernel_rfl) (hval 1 23 v1 rfl rfl) h1
  obtain ⟨xy, xe0, rfl, xw0⟩ := DataW.trod_int Try.underlying3 xh0
  obtain ⟨xm, xe1, rfl, xw1⟩ := DataW.trod_int Try.underlying3 xh1
  obtain ⟨xd, xe2, rfl, xw2⟩ := DataW.trod_int Try.underlying3 xh2
  simp at xe0 xe1 xe2
  subst xe0 xe1 xe2
  clear hA0 hval0
  refine (cycles_walk c xy xm xd W).mono fun e W' ⟨he, hw⟩ => ?_
  subst he
  exact ⟨_, rfl, post_of_below (pv := []) hW' (fun _ _ _ => trodAll_mk1 (shut_bool Try.underlying4 _))
    (fun sp hsp => trodAll_kept Try.laidOut (by kernel_rfl) hAk (fun p hp => hw.same (hlt p (by simp at hp))) (fun p hp => by simp at hp)) (fun _ _ => rfl) rfl hw (ok_one (by kernel_rfl) rfl (okWide_bool_mk Try.underlying4 _))⟩

theorem calendarCycles_holds : Rows.CalendarCyclesSaid :=
  OpenClaim.holds_of_wide 4 Try.f4 rfl rfl rfl rfl rfl rfl rfl ⟨rfl, rfl, rfl, rfl, rfl⟩ rfl rfl rfl rfl rfl (by kernel_rfl) Try.func4 (by kernel_rfl)
    (of_decide_eq_true (by kernel_rfl)) (by unfold Func.isWrapper; first | (rw [if_pos (by decide +kernel)]; kernel_rfl) | (rw [if_neg (by decide +kernel)]; exact ⟨rfl, rfl⟩))
    (fun os started H enc _ => calendarCycles_lifted os started H enc)
#print axioms calendarCycles_holds

end Go.Proofs.Ytnjjkcnokkhlkaa
