/- What AddMonths returns agrees with the reference: for every input; no condition. -/
import Derived.Test.YtnjjkcnokkhlkaaCalP
namespace Go.Proofs.Ytnjjkcnokkhlkaa
open Go.RowKit Go.ChangeShapes Go.WideShapes Go.ChangeAt Go.Joins

set_option maxRecDepth 100000 in
set_option maxHeartbeats 1600000 in
theorem months_walk (c y m d n : Int) (w : World) :
    Calls Try.prog 8 #[.int .i64 c, dt y m d, .int .i64 n] w fun e w' => e = .returned (.bool true) ∧ Below w.heap.size w w' := by
  go_enter Try.func8, Try.ntmps8
  go_wp2_with (first | (go_at_call 29; refine (AddMonths_any _ _ _ _ _ _).mono ?_; rintro e w1 ⟨rfl, hb1⟩; obtain ⟨hc1, hf1⟩ := bcell hb1; have hz1 := lt_of_below_alloc hb1) | (go_at_call 30; refine (rAddMonths_any _ _ _ _ _ _).mono ?_; rintro e w2 ⟨rfl, hb2⟩; obtain ⟨hc2, hf2⟩ := bcell hb2; have hz2 := lt_of_below_alloc hb2; clear hc1 hf1) | (go_at_call 19; refine (sane_any _).mono ?_; rintro e w5 ⟨rfl, hb5⟩))
  go_ret
  refine ⟨rfl, ?_⟩
  (repeat (first | exact Below.refl _ _ | assumption | refine below_drewN ?_ _ | refine Below.drew ?_ | refine btrans ?_ (by assumption) | refine below_alloc ?_ _ | refine Below.setCell ?_ (by simp <;> omega) _ | refine Below.alloc ?_ (by simp <;> omega) _ | refine Below.setCell ?_ (by simp) _ | refine Below.alloc ?_ (by simp) _))

set_option maxRecDepth 100000 in
theorem calendarMonths_lifted (os : Os) (started : os.Started) (H : Type) (enc : TypeId × Value → H) :
    ReturnsInHanded {} Try.checked os 8 .any (Rows.calendarMonthsSpec.pre6 enc Try.prog Try.f8 Rows.calendarMonthsRow.domain false) (Rows.calendarMonthsSpec.post enc Try.prog Try.f8 false true false false) := by
  refine returnsInHanded_of_change (C := Try.checked) Try.own started (by kernel_rfl) Try.func8
    (ChangeSpec.witness6 (enc := enc) (C := Try.checked) false ⟨#[], #[.int .i64 0, .agg #[.int .i64 0, .int .i64 0, .int .i64 0], .int .i64 0], []⟩ 8 (by kernel_rfl) (by kernel_rfl) (by kernel_rfl) (by kernel_rfl)) ?_
  intro W base args ds gs before hval0 hW _ _
  have hval : ∀ (j : Nat) t v, Try.f8.params[j]? = some t → args[j]? = some v → Value.okWide Try.prog W .any base t v := hval0
  have hW' := hW
  have hlt : ∀ p ∈ before, p.block < W.heap.size := fun p hp => hW.lt p hp
  obtain ⟨p, q, hA0, hV, rfl, hfz, hnd⟩ := hW
  have hA : DataW.TrodAll enc Try.prog W 0 (fun _ => true) true Try.f8.params.toList args.toList ds p := hA0
  have hAk := hA
  rw [Try.params8] at hA hval
  obtain ⟨v0, v1, v2, d0, d1, d2, p0, p1, p2, rfl, rfl, rfl, h0, h1, h2⟩ := trodAll_three hA
  obtain ⟨rfl, rfl⟩ := trodVars_none hV
  obtain ⟨c, rfl, rfl, rfl, wfc⟩ := open_int Try.underlying3 (hval 0 3 v0 rfl rfl) h0
  obtain ⟨xc0, xc1, xc2, xy0, xy1, xy2, xn, rfl, rfl, rfl, xh0, xh1, xh2⟩ := open_agg3 Try.underlying23 (by kernel_rfl) (by kernel_rfl) (hval 1 23 v1 rfl rfl) h1
  obtain ⟨xy, xe0, rfl, xw0⟩ := DataW.trod_int Try.underlying3 xh0
  obtain ⟨xm, xe1, rfl, xw1⟩ := DataW.trod_int Try.underlying3 xh1
  obtain ⟨xd, xe2, rfl, xw2⟩ := DataW.trod_int Try.underlying3 xh2
  simp at xe0 xe1 xe2
  subst xe0 xe1 xe2
  obtain ⟨n, rfl, rfl, rfl, wfn⟩ := open_int Try.underlying3 (hval 2 3 v2 rfl rfl) h2
  clear hA0 hval0
  refine (months_walk c xy xm xd n W).mono fun e W' ⟨he, hw⟩ => ?_
  subst he
  exact ⟨_, rfl, post_of_below (pv := []) hW' (fun _ _ _ => trodAll_mk1 (shut_bool Try.underlying4 _))
    (fun sp hsp => trodAll_kept Try.laidOut (by kernel_rfl) hAk (fun p hp => hw.same (hlt p (by simp at hp))) (fun p hp => by simp at hp)) (fun _ _ => rfl) rfl hw (ok_one (by kernel_rfl) rfl (okWide_bool_mk Try.underlying4 _))⟩

theorem calendarMonths_holds : Rows.CalendarMonthsSaid :=
  OpenClaim.holds_of_wide 8 Try.f8 rfl rfl rfl rfl rfl rfl rfl ⟨rfl, rfl, rfl, rfl, rfl⟩ rfl rfl rfl rfl rfl (by kernel_rfl) Try.func8 (by kernel_rfl)
    (of_decide_eq_true (by kernel_rfl)) (by unfold Func.isWrapper; first | (rw [if_pos (by decide +kernel)]; kernel_rfl) | (rw [if_neg (by decide +kernel)]; exact ⟨rfl, rfl⟩))
    (fun os started H enc _ => calendarMonths_lifted os started H enc)
#print axioms calendarMonths_holds

end Go.Proofs.Ytnjjkcnokkhlkaa
