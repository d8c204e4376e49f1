/- Between which calendars nothing is lost: for every input; no condition. -/
import Derived.Test.YtnjjkcnokkhlkaaCalL
namespace Go.Proofs.Ytnjjkcnokkhlkaa
open Go.RowKit Go.ChangeShapes Go.WideShapes Go.ChangeAt Go.Joins

theorem mlen_three (c y m : Int) (hc : c ≠ 5) : Cal.mlen 3 y m ≤ Cal.mlen c y m := by
  unfold Cal.mlen
  rw [if_neg (by decide), if_neg hc]
  split
  · omega
  · split
    · split
      · next h => exact absurd h (by unfold Cal.leap; simp)
      · split <;> omega
    · omega
theorem mlen_four (c y m : Int) (hc : c ≠ 5) : Cal.mlen c y m ≤ Cal.mlen 4 y m := by
  unfold Cal.mlen
  rw [if_neg hc, if_neg (show (4 : Int) ≠ 5 by decide)]
  split
  · omega
  · split
    · rw [if_pos (show Cal.leap 4 y = true by unfold Cal.leap; simp)]
      split <;> omega
    · omega

theorem vld_up {a b y m d : Int} (hb : kn b = true) (hl : Cal.mlen a y m ≤ Cal.mlen b y m) (h : Cal.vld a y m d = true) : Cal.vld b y m d = true := by
  rw [Cal.vld_iff] at *
  rw [kn_iff] at hb
  obtain ⟨_, _, y1, y2, m1, m2, d1, d2⟩ := h
  exact ⟨hb.1, hb.2, y1, y2, m1, m2, d1, by omega⟩

/-- What Map does where nothing can be lost. -/
theorem map_up {a b y m d : Int} (hl : Cal.mlen a y m ≤ Cal.mlen b y m) : (mpe a b y m d = 0 ∧ mpl a b y m d = 0 ∧ ∀ x, mpy a b y m d x = x) ∨ (mpe a b y m d = 21 ∧ mpl a b y m d = 0 ∧ ∀ x, mpy a b y m d x = 0) ∨ (mpe a b y m d = 20 ∧ mpl a b y m d = 0 ∧ ∀ x, mpy a b y m d x = 0) := by
  rcases mp_cases a b y m d with ⟨_, h⟩ | ⟨_, _, h⟩ | ⟨_, _, _, h⟩ | ⟨_, h1, h2, h3, _⟩ | ⟨_, _, _, _, h⟩
  · exact .inr (.inr h)
  · exact .inr (.inr h)
  · exact .inr (.inl h)
  · rw [vld_up h1 hl h2] at h3; cases h3
  · exact .inl h
theorem map_any (a b y m d : Int) : mpe a b y m d = 0 ∨ mpe a b y m d = 21 ∨ mpe a b y m d = 20 := by
  rcases mp_cases a b y m d with ⟨_, h, _⟩ | ⟨_, _, h, _⟩ | ⟨_, _, _, h, _⟩ | ⟨_, _, _, _, h, _⟩ | ⟨_, _, _, _, h, _⟩ <;> simp [h]

set_option maxRecDepth 100000 in
set_option maxHeartbeats 1600000 in
theorem losses_walk (c y m d : Int) (w : World) :
    Calls Try.prog 6 #[.int .i64 c, dt y m d] w fun e w' => e = .returned (.bool true) ∧ Below w.heap.size w w' := by
  have M1 := fun w => Map_any 3 c y m d w
  have M2 := fun w => Map_any c 4 y m d w
  have tok1 : True := trivial
  by_cases h5 : c = 5
  · subst h5
    rcases map_any 3 5 y m d with h1 | h1 | h1 <;> rcases map_any 5 4 y m d with h2 | h2 | h2 <;> rw [h1] at M1 <;> rw [h2] at M2 <;> clear h1 h2
    all_goals
      go_enter Try.func6, Try.ntmps6
      go_wp2_with (first | (go_at_call 21; have _t := tok1; refine (M1 _).mono ?_; rintro e w1 ⟨rfl, hb1⟩; clear tok1 _t; obtain ⟨hc1, hf1⟩ := bcell hb1; have hz1 := lt_of_below_alloc hb1) | (go_at_call 21; refine (M2 _).mono ?_; rintro e w2 ⟨rfl, hb2⟩) | (go_at_call 19; refine (sane_any _).mono ?_; rintro e w5 ⟨rfl, hb5⟩))
      go_ret
      refine ⟨rfl, ?_⟩
      (repeat (first | exact Below.refl _ _ | assumption | refine below_drewN ?_ _ | refine Below.drew ?_ | refine btrans ?_ (by assumption) | refine below_alloc ?_ _ | refine Below.setCell ?_ (by simp <;> omega) _ | refine Below.alloc ?_ (by simp <;> omega) _ | refine Below.setCell ?_ (by simp) _ | refine Below.alloc ?_ (by simp) _))
  · have u1 := map_up (d := d) (mlen_three c y m h5)
    have u2 := map_up (d := d) (mlen_four c y m h5)
    rcases u1 with ⟨h1, h2, h3⟩ | ⟨h1, h2, h3⟩ | ⟨h1, h2, h3⟩ <;> rcases u2 with ⟨k1, k2, k3⟩ | ⟨k1, k2, k3⟩ | ⟨k1, k2, k3⟩ <;> rw [h1, h2, h3, h3, h3] at M1 <;> rw [k1, k2, k3, k3, k3] at M2 <;> clear h1 h2 h3 k1 k2 k3
    all_goals
      go_enter Try.func6, Try.ntmps6
      go_wp2_with (first | (go_at_call 21; have _t := tok1; refine (M1 _).mono ?_; rintro e w1 ⟨rfl, hb1⟩; clear tok1 _t; obtain ⟨hc1, hf1⟩ := bcell hb1; have hz1 := lt_of_below_alloc hb1) | (go_at_call 21; refine (M2 _).mono ?_; rintro e w2 ⟨rfl, hb2⟩; obtain ⟨hc2, hf2⟩ := bcell hb2; have hz2 := Nat.lt_trans hz1 (lt_of_below_alloc hb2)) | (go_at_call 19; refine (sane_any _).mono ?_; rintro e w5 ⟨rfl, hb5⟩))
      go_ret
      refine ⟨rfl, ?_⟩
      (repeat (first | exact Below.refl _ _ | assumption | refine below_drewN ?_ _ | refine Below.drew ?_ | refine btrans ?_ (by assumption) | refine below_alloc ?_ _ | refine Below.setCell ?_ (by simp <;> omega) _ | refine Below.alloc ?_ (by simp <;> omega) _ | refine Below.setCell ?_ (by simp) _ | refine Below.alloc ?_ (by simp) _))

set_option maxRecDepth 100000 in
theorem calendarLosses_lifted (os : Os) (started : os.Started) (H : Type) (enc : TypeId × Value → H) :
    ReturnsInHanded {} Try.checked os 6 .any (Rows.calendarLossesSpec.pre6 enc Try.prog Try.f6 Rows.calendarLossesRow.domain false) (Rows.calendarLossesSpec.post enc Try.prog Try.f6 false true false false) := by
  refine returnsInHanded_of_change (C := Try.checked) Try.own started (by kernel_rfl) Try.func6
    (ChangeSpec.witness6 (enc := enc) (C := Try.checked) false ⟨#[], #[.int .i64 0, .agg #[.int .i64 0, .int .i64 0, .int .i64 0]], []⟩ 8 (by kernel_rfl) (by kernel_rfl) (by kernel_rfl) (by kernel_rfl)) ?_
  intro W base args ds gs before hval0 hW _ _
  have hval : ∀ (j : Nat) t v, Try.f6.params[j]? = some t → args[j]? = some v → Value.okWide Try.prog W .any base t v := hval0
  have hW' := hW
  have hlt : ∀ p ∈ before, p.block < W.heap.size := fun p hp => hW.lt p hp
  obtain ⟨p, q, hA0, hV, rfl, hfz, hnd⟩ := hW
  have hA : DataW.TrodAll enc Try.prog W 0 (fun _ => true) true Try.f6.params.toList args.toList ds p := hA0
  have hAk := hA
  rw [Try.params6] at hA hval
  obtain ⟨v0, v1, d0, d1, p0, p1, rfl, rfl, rfl, h0, h1⟩ := trodAll_two hA
  obtain ⟨rfl, rfl⟩ := trodVars_none hV
  obtain ⟨c, rfl, rfl, rfl, wfc⟩ := open_int Try.underlying3 (hval 0 3 v0 rfl rfl) h0
  obtain ⟨xc0, xc1, xc2, xy0, xy1, xy2, xn, rfl, rfl, rfl, xh0, xh1, xh2⟩ := open_agg3 Try.underlying23 (by kernel_rfl) (by kernel_rfl) (hval 1 23 v1 rfl rfl) h1
  obtain ⟨xy, xe0, rfl, xw0⟩ := DataW.trod_int Try.underlying3 xh0
  obtain ⟨xm, xe1, rfl, xw1⟩ := DataW.trod_int Try.underlying3 xh1
  obtain ⟨xd, xe2, rfl, xw2⟩ := DataW.trod_int Try.underlying3 xh2
  simp at xe0 xe1 xe2
  subst xe0 xe1 xe2
  clear hA0 hval0
  refine (losses_walk c xy xm xd W).mono fun e W' ⟨he, hw⟩ => ?_
  subst he
  exact ⟨_, rfl, post_of_below (pv := []) hW' (fun _ _ _ => trodAll_mk1 (shut_bool Try.underlying4 _))
    (fun sp hsp => trodAll_kept Try.laidOut (by kernel_rfl) hAk (fun p hp => hw.same (hlt p (by simp at hp))) (fun p hp => by simp at hp)) (fun _ _ => rfl) rfl hw (ok_one (by kernel_rfl) rfl (okWide_bool_mk Try.underlying4 _))⟩

theorem calendarLosses_holds : Rows.CalendarLossesSaid :=
  OpenClaim.holds_of_wide 6 Try.f6 rfl rfl rfl rfl rfl rfl rfl ⟨rfl, rfl, rfl, rfl, rfl⟩ rfl rfl rfl rfl rfl (by kernel_rfl) Try.func6 (by kernel_rfl)
    (of_decide_eq_true (by kernel_rfl)) (by unfold Func.isWrapper; first | (rw [if_pos (by decide +kernel)]; kernel_rfl) | (rw [if_neg (by decide +kernel)]; exact ⟨rfl, rfl⟩))
    (fun os started H enc _ => calendarLosses_lifted os started H enc)
#print axioms calendarLosses_holds

end Go.Proofs.Ytnjjkcnokkhlkaa
