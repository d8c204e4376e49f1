/- The leap years, the lengths of months and years, and which dates are valid, agree with the reference: for every input; no condition. -/
import Derived.Test.YtnjjkcnokkhlkaaCalJ
namespace Go.Proofs.Ytnjjkcnokkhlkaa
open Go.RowKit Go.ChangeShapes Go.WideShapes Go.ChangeAt Go.Joins

set_option maxRecDepth 100000 in
set_option maxHeartbeats 1600000 in
theorem years_walk (c y m d : Int) (w : World) :
    Calls Try.prog 7 #[.int .i64 c, dt y m d] w fun e w' => e = .returned (.bool true) ∧ Below w.heap.size w w' := by
  go_enter Try.func7, Try.ntmps7
  go_wp2_with (first
    | (go_at_call 22; refine (Leap_any _ _ _).mono ?_; rintro e w' ⟨rfl, rfl⟩)
    | (go_at_call 23; refine (rLeap_any _ _ _).mono ?_; rintro e w1 ⟨rfl, hb1⟩; obtain ⟨hc1, hf1⟩ := bcell hb1; have hz1 := lt_of_below_alloc hb1)
    | (go_at_call 24; refine (Days_any _ _ _ _).mono ?_; rintro e w2 ⟨rfl, hb2⟩; obtain ⟨hc2, hf2⟩ := bcell hb2; have hz2 := Nat.lt_of_lt_of_le hz1 hb2.size)
    | (go_at_call 25; refine (rDays_any _ _ _ _).mono ?_; rintro e w3 ⟨rfl, hb3⟩; obtain ⟨hc3, hf3⟩ := bcell hb3; have hz3 := Nat.lt_of_lt_of_le hz2 hb3.size)
    | (go_at_call 20; refine (Length_any _ _ _).mono ?_; rintro e w' ⟨rfl, rfl⟩)
    | (go_at_call 26; refine (rLength_any _ _ _).mono ?_; rintro e w4 ⟨rfl, hb4⟩; obtain ⟨hc4, hf4⟩ := bcell hb4; have hz4 := Nat.lt_of_lt_of_le hz3 hb4.size))
  have q0 : w4.cell? ⟨w.heap.size, 0, none⟩ = some (.int .i64 y) := by rw [hc4 _ _ hz3, hc3 _ _ hz2, hc2 _ _ hz1, hc1 _ _ (by simp)]; simp [go_sem]
  have q1 : w4.cell? ⟨w.heap.size, 1, none⟩ = some (.int .i64 m) := by rw [hc4 _ _ hz3, hc3 _ _ hz2, hc2 _ _ hz1, hc1 _ _ (by simp)]; simp [go_sem]
  have q2 : w4.cell? ⟨w.heap.size, 2, none⟩ = some (.int .i64 d) := by rw [hc4 _ _ hz3, hc3 _ _ hz2, hc2 _ _ hz1, hc1 _ _ (by simp)]; simp [go_sem]
  have hg1 := ((Below.refl _ _).alloc (Nat.le_refl _) _).trans (hb1.mono (by simp))
  have hg2 := hg1.trans (hb2.mono hg1.size)
  have hg3 := hg2.trans (hb3.mono hg2.size)
  have hg4 := hg3.trans (hb4.mono hg3.size)
  clear hc1 hf1 hc2 hf2 hc3 hf3 hc4 hf4 hb1 hb2 hb3 hb4 hg1 hg2 hg3
  go_region_held3 (fun w' => w'.cell? ⟨w.heap.size, 0, none⟩ = some (.int .i64 y) ∧ w'.cell? ⟨w.heap.size, 1, none⟩ = some (.int .i64 m) ∧ w'.cell? ⟨w.heap.size, 2, none⟩ = some (.int .i64 d)) (first | exact ⟨s0, s1, s2⟩ | exact ⟨r0, r1, r2⟩ | exact ⟨p0, p1, p2⟩ | exact ⟨q0, q1, q2⟩ | go_keep)
    (first
      | (go_at_call 27; refine (Valid_any _ _ _ _ _).mono ?_; rintro e w5 ⟨rfl, hb5⟩; obtain ⟨p0, p1, p2, hz5⟩ := keep3 (b := w.heap.size) hb5 hz4 q0 q1 q2)
      | (go_at_call 28; refine (rValid_any _ _ _ _ _).mono ?_; rintro e w6 ⟨rfl, hb6⟩; obtain ⟨r0, r1, r2, hz6⟩ := keep3 (b := w.heap.size) hb6 hz5 p0 p1 p2)
      | (go_at_call 19; refine (sane_any _).mono ?_; rintro e w7 ⟨rfl, hb7⟩; obtain ⟨s0, s1, s2, hz7⟩ := keep3 (b := w.heap.size) hb7 hz6 r0 r1 r2))
  go_wp2
  go_ret
  refine ⟨rfl, ?_⟩
  have hg5 := hg4.drew.trans (hb5.mono hg4.drew.size)
  have hg6 := hg5.trans (hb6.mono hg5.size)
  exact hg6.trans (hb7.mono hg6.size)


set_option maxRecDepth 100000 in
theorem calendarYears_lifted (os : Os) (started : os.Started) (H : Type) (enc : TypeId × Value → H) :
    ReturnsInHanded {} Try.checked os 7 .any (Rows.calendarYearsSpec.pre6 enc Try.prog Try.f7 Rows.calendarYearsRow.domain false) (Rows.calendarYearsSpec.post enc Try.prog Try.f7 false true false false) := by
  refine returnsInHanded_of_change (C := Try.checked) Try.own started (by kernel_rfl) Try.func7
    (ChangeSpec.witness6 (enc := enc) (C := Try.checked) false ⟨#[], #[.int .i64 0, .agg #[.int .i64 0, .int .i64 0, .int .i64 0]], []⟩ 8 (by kernel_rfl) (by kernel_rfl) (by kernel_rfl) (by kernel_rfl)) ?_
  intro W base args ds gs before hval0 hW _ _
  have hval : ∀ (j : Nat) t v, Try.f7.params[j]? = some t → args[j]? = some v → Value.okWide Try.prog W .any base t v := hval0
  have hW' := hW
  have hlt : ∀ p ∈ before, p.block < W.heap.size := fun p hp => hW.lt p hp
  obtain ⟨p, q, hA0, hV, rfl, hfz, hnd⟩ := hW
  have hA : DataW.TrodAll enc Try.prog W 0 (fun _ => true) true Try.f7.params.toList args.toList ds p := hA0
  have hAk := hA
  rw [Try.params7] at hA hval
  obtain ⟨v0, v1, d0, d1, p0, p1, rfl, rfl, rfl, h0, h1⟩ := trodAll_two hA
  obtain ⟨rfl, rfl⟩ := trodVars_none hV
  obtain ⟨c, rfl, rfl, rfl, wfc⟩ := open_int Try.underlying3 (hval 0 3 v0 rfl rfl) h0
  obtain ⟨xc0, xc1, xc2, xy0, xy1, xy2, xn, rfl, rfl, rfl, xh0, xh1, xh2⟩ := open_agg3 Try.underlying23 (by kernel_rfl) (by kernel_rfl) (hval 1 23 v1 rfl rfl) h1
  obtain ⟨xy, xe0, rfl, xw0⟩ := DataW.trod_int Try.underlying3 xh0
  obtain ⟨xm, xe1, rfl, xw1⟩ := DataW.trod_int Try.underlying3 xh1
  obtain ⟨xd, xe2, rfl, xw2⟩ := DataW.trod_int Try.underlying3 xh2
  simp at xe0 xe1 xe2
  subst xe0 xe1 xe2
  clear hA0 hval0
  refine (years_walk c xy xm xd W).mono fun e W' ⟨he, hw⟩ => ?_
  subst he
  exact ⟨_, rfl, post_of_below (pv := []) hW' (fun _ _ _ => trodAll_mk1 (shut_bool Try.underlying4 _))
    (fun sp hsp => trodAll_kept Try.laidOut (by kernel_rfl) hAk (fun p hp => hw.same (hlt p (by simp at hp))) (fun p hp => by simp at hp)) (fun _ _ => rfl) rfl hw (ok_one (by kernel_rfl) rfl (okWide_bool_mk Try.underlying4 _))⟩

theorem calendarYears_holds : Rows.CalendarYearsSaid :=
  OpenClaim.holds_of_wide 7 Try.f7 rfl rfl rfl rfl rfl rfl rfl ⟨rfl, rfl, rfl, rfl, rfl⟩ rfl rfl rfl rfl rfl (by kernel_rfl) Try.func7 (by kernel_rfl)
    (of_decide_eq_true (by kernel_rfl)) (by unfold Func.isWrapper; first | (rw [if_pos (by decide +kernel)]; kernel_rfl) | (rw [if_neg (by decide +kernel)]; exact ⟨rfl, rfl⟩))
    (fun os started H enc _ => calendarYears_lifted os started H enc)
#print axioms calendarYears_holds

end Go.Proofs.Ytnjjkcnokkhlkaa
