/- The walks of the calendar's functions, part P: AddMonths of the reference; AddMonths of the program, joined. -/
import Derived.Test.YtnjjkcnokkhlkaaCalM
import Derived.StillTailTactics
namespace Go.Proofs.Ytnjjkcnokkhlkaa
open Go.RowKit

theorem AddMonths_any (c y m d n : Int) (w : World) :
    Calls Try.prog 29 #[.int .i64 c, dt y m d, .int .i64 n] w fun e w' => e = .returned (.tuple #[dt (amY c y m d n) (amM c y m d n) (amD c y m d n), .int .i64 (amE c y m d n)]) ∧ Below w.heap.size w w' := by
  by_cases he : amE c y m d n = 0
  · obtain ⟨a1, a2, a3⟩ := am_yes he
    rw [a1, a2, a3, he]
    rcases am_cases c y m d n with ⟨h1, e1⟩ | ⟨h1, h2, e1⟩ | ⟨h1, h2, h3, h4, e1⟩ | ⟨h1, h2, h3, h4, _⟩
    · omega
    · omega
    · omega
    · exact AddMonths_ok c y m d n h1 h2 h3 h4 w
  · obtain ⟨a1, a2, a3⟩ := am_no he
    rw [a1, a2, a3]
    exact AddMonths_err c y m d n he w

set_option maxRecDepth 100000 in
set_option maxHeartbeats 1600000 in
theorem rAddMonths_err (c y m d n : Int) (he : amE c y m d n ≠ 0) (w : World) :
    Calls Try.prog 30 #[.int .i64 c, dt y m d, .int .i64 n] w fun e w' => e = .returned (.tuple #[dt 0 0 0, .int .i64 (amE c y m d n)]) ∧ Below w.heap.size w w' := by
  have V := fun w => rValid_any c y m d w
  rcases am_cases c y m d n with ⟨h1, e1⟩ | ⟨h1, h2, e1⟩ | ⟨h1, h2, h3, h4, e1⟩ | ⟨_, _, _, _, e1⟩
  · rw [e1]
    rcases dck_cases c y m d with ⟨hk, hd⟩ | ⟨hk, hv, hd⟩ | ⟨_, _, hd⟩
    · rw [hd]
      have C := fun w => rname_no hk w
      clear hk hd h1 e1 he V
      go_enter Try.func30, Try.ntmps30
      go_wp2_with (go_at_call 34; refine (C _).mono ?_; rintro e w1 ⟨rfl, hb1⟩; obtain ⟨hc1, hf1⟩ := bcell hb1; obtain ⟨ha1, hz1⟩ := lt_of_below_alloc2 hb1)
      refine bodyPost_ret (v := .tuple #[dt 0 0 0, .int .i64 20]) (by simp [results, Try.results30, go_sem, hc1]) rfl ⟨rfl, ?_⟩
      (repeat (first | exact Below.refl _ _ | assumption | refine below_drewN ?_ _ | refine Below.drew ?_ | refine btrans ?_ (by assumption) | refine below_alloc ?_ _ | refine Below.setCell ?_ (by simp <;> omega) _ | refine Below.alloc ?_ (by simp <;> omega) _ | refine Below.setCell ?_ (by simp) _ | refine Below.alloc ?_ (by simp) _))
    · rw [hd]
      have C := fun w => rname_yes hk w
      rw [hv] at V
      clear hk hd h1 e1 he hv
      go_enter Try.func30, Try.ntmps30
      go_wp2_with (first | (go_at_call 34; refine (C _).mono ?_; rintro e w1 ⟨s, rfl, hs, hb1⟩; obtain ⟨hc1, hf1⟩ := bcell hb1; obtain ⟨ha1, hz1⟩ := lt_of_below_alloc2 hb1) | (go_at_call 28; refine (V _).mono ?_; rintro e w2 ⟨rfl, hb2⟩; obtain ⟨hc2, hf2⟩ := bcell hb2; have ha2 := Nat.lt_of_lt_of_le ha1 hb2.size; have hz2 := Nat.lt_of_lt_of_le hz1 hb2.size))
      refine bodyPost_ret (v := .tuple #[dt 0 0 0, .int .i64 21]) (by simp [results, Try.results30, go_sem, hc1, hc2, ha1]) rfl ⟨rfl, ?_⟩
      (repeat (first | exact Below.refl _ _ | assumption | refine below_drewN ?_ _ | refine Below.drew ?_ | refine btrans ?_ (by assumption) | refine below_alloc ?_ _ | refine Below.setCell ?_ (by simp <;> omega) _ | refine Below.alloc ?_ (by simp <;> omega) _ | refine Below.setCell ?_ (by simp) _ | refine Below.alloc ?_ (by simp) _))
    · exact absurd hd h1
  · rw [e1]
    have hv := dck_vld h1
    have hk : kn c = true := by
      rcases dck_cases c y m d with ⟨_, hd⟩ | ⟨hk, _, hd⟩ | ⟨hk, _, hd⟩
      · omega
      · exact hk
      · exact hk
    have C := fun w => rname_yes hk w
    rw [hv] at V
    clear hk h1 e1 he hv
    by_cases h : n < -240000
    · clear h2
      go_enter Try.func30, Try.ntmps30
      go_wp2_with (first | (go_at_call 34; refine (C _).mono ?_; rintro e w1 ⟨s, rfl, hs, hb1⟩; obtain ⟨hc1, hf1⟩ := bcell hb1; obtain ⟨ha1, hz1⟩ := lt_of_below_alloc2 hb1) | (go_at_call 28; refine (V _).mono ?_; rintro e w2 ⟨rfl, hb2⟩; obtain ⟨hc2, hf2⟩ := bcell hb2; have ha2 := Nat.lt_of_lt_of_le ha1 hb2.size; have hz2 := Nat.lt_of_lt_of_le hz1 hb2.size))
      refine bodyPost_ret (v := .tuple #[dt 0 0 0, .int .i64 2]) (by simp [results, Try.results30, go_sem, hc1, hc2, ha1]) rfl ⟨rfl, ?_⟩
      (repeat (first | exact Below.refl _ _ | assumption | refine below_drewN ?_ _ | refine Below.drew ?_ | refine btrans ?_ (by assumption) | refine below_alloc ?_ _ | refine Below.setCell ?_ (by simp <;> omega) _ | refine Below.alloc ?_ (by simp <;> omega) _ | refine Below.setCell ?_ (by simp) _ | refine Below.alloc ?_ (by simp) _))
    · have h' : 240000 < n := by omega
      clear h2
      go_enter Try.func30, Try.ntmps30
      go_wp2_with (first | (go_at_call 34; refine (C _).mono ?_; rintro e w1 ⟨s, rfl, hs, hb1⟩; obtain ⟨hc1, hf1⟩ := bcell hb1; obtain ⟨ha1, hz1⟩ := lt_of_below_alloc2 hb1) | (go_at_call 28; refine (V _).mono ?_; rintro e w2 ⟨rfl, hb2⟩; obtain ⟨hc2, hf2⟩ := bcell hb2; have ha2 := Nat.lt_of_lt_of_le ha1 hb2.size; have hz2 := Nat.lt_of_lt_of_le hz1 hb2.size))
      refine bodyPost_ret (v := .tuple #[dt 0 0 0, .int .i64 2]) (by simp [results, Try.results30, go_sem, hc1, hc2, ha1]) rfl ⟨rfl, ?_⟩
      (repeat (first | exact Below.refl _ _ | assumption | refine below_drewN ?_ _ | refine Below.drew ?_ | refine btrans ?_ (by assumption) | refine below_alloc ?_ _ | refine Below.setCell ?_ (by simp <;> omega) _ | refine Below.alloc ?_ (by simp <;> omega) _ | refine Below.setCell ?_ (by simp) _ | refine Below.alloc ?_ (by simp) _))
  · rw [e1]
    have hv := dck_vld h1
    have hk : kn c = true := by
      rcases dck_cases c y m d with ⟨_, hd⟩ | ⟨hk, _, hd⟩ | ⟨hk, _, hd⟩
      · omega
      · exact hk
      · exact hk
    obtain ⟨y1, y2, m1, m2, d1, d2⟩ := vld_bd hv
    have Y := fun w => inRange_any (amA y m n / 12) w
    rw [h4] at Y
    unfold amA at Y
    have C := fun w => rname_yes hk w
    rw [hv] at V
    clear hk h1 e1 he hv h4
    go_enter Try.func30, Try.ntmps30
    go_wp2_with (first | (go_at_call 34; refine (C _).mono ?_; rintro e w1 ⟨s, rfl, hs, hb1⟩; obtain ⟨hc1, hf1⟩ := bcell hb1; obtain ⟨ha1, hz1⟩ := lt_of_below_alloc2 hb1) | (go_at_call 28; refine (V _).mono ?_; rintro e w2 ⟨rfl, hb2⟩; obtain ⟨hc2, hf2⟩ := bcell hb2; have ha2 := Nat.lt_of_lt_of_le ha1 hb2.size; have hz2 := Nat.lt_of_lt_of_le hz1 hb2.size) | (go_at_call 63; refine (part_any _ _ (by omega) (by omega) (by omega) (by omega) _).mono ?_; rintro e w3 ⟨rfl, k, rfl⟩) | (go_at_call 57; refine (Y _).mono ?_; rintro e w' ⟨rfl, rfl⟩))
    refine bodyPost_ret (v := .tuple #[dt 0 0 0, .int .i64 21]) (by simp [results, Try.results30, go_sem, hc1, hc2, ha1]) rfl ⟨rfl, ?_⟩
    (repeat (first | exact Below.refl _ _ | assumption | refine below_drewN ?_ _ | refine Below.drew ?_ | refine btrans ?_ (by assumption) | refine below_alloc ?_ _ | refine Below.setCell ?_ (by simp <;> omega) _ | refine Below.alloc ?_ (by simp <;> omega) _ | refine Below.setCell ?_ (by simp) _ | refine Below.alloc ?_ (by simp) _))
  · exact absurd e1 he

set_option maxRecDepth 100000 in
set_option maxHeartbeats 1600000 in
theorem rAddMonths_ok (c y m d n : Int) (h1 : dck c y m d = 0) (h2 : -240000 ≤ n) (h3 : n ≤ 240000) (h4 : yr (amA y m n / 12) = true) (w : World) :
    Calls Try.prog 30 #[.int .i64 c, dt y m d, .int .i64 n] w fun e w' =>
      e = .returned (.tuple #[dt (amA y m n / 12) (amA y m n % 12 + 1) (min d (Cal.mlen c (amA y m n / 12) (amA y m n % 12 + 1))), .int .i64 0]) ∧ Below w.heap.size w w' := by
  have V := fun w => rValid_any c y m d w
  have hv := dck_vld h1
  have hk : kn c = true := by
    rcases dck_cases c y m d with ⟨_, hd⟩ | ⟨hk, _, hd⟩ | ⟨hk, _, hd⟩
    · omega
    · exact hk
    · exact hk
  obtain ⟨y1, y2, m1, m2, d1, d2⟩ := vld_bd hv
  have Y := fun w => inRange_any (amA y m n / 12) w
  rw [h4] at Y
  unfold amA at *
  have C := fun w => rname_yes hk w
  rw [hv] at V
  clear hk h1 hv h4
  go_enter Try.func30, Try.ntmps30
  go_wp2_with (first | (go_at_call 34; refine (C _).mono ?_; rintro e w1 ⟨s, rfl, hs, hb1⟩; obtain ⟨hc1, hf1⟩ := bcell hb1; obtain ⟨ha1, hz1⟩ := lt_of_below_alloc2 hb1) | (go_at_call 28; refine (V _).mono ?_; rintro e w2 ⟨rfl, hb2⟩; obtain ⟨hc2, hf2⟩ := bcell hb2; have ha2 := Nat.lt_of_lt_of_le ha1 hb2.size; have hz2 := Nat.lt_of_lt_of_le hz1 hb2.size) | (go_at_call 63; refine (part_any _ _ (by omega) (by omega) (by omega) (by omega) _).mono ?_; rintro e w3 ⟨rfl, k, rfl⟩) | (go_at_call 57; refine (Y _).mono ?_; rintro e w' ⟨rfl, rfl⟩))
  have q2 : w2.cell? ⟨w.heap.size, 2, none⟩ = some (.int .i64 d) := by rw [hc2 _ _ hz1, hc1 _ _ (by simp; omega)]; simp [go_sem]
  have r0 : w2.cell? ⟨w.heap.size + 1, 0, none⟩ = some (.int .i64 0) := by rw [hc2 _ _ ha1, hc1 _ _ (by simp)]; simp [go_sem]
  have r1 : w2.cell? ⟨w.heap.size + 1, 1, none⟩ = some (.int .i64 0) := by rw [hc2 _ _ ha1, hc1 _ _ (by simp)]; simp [go_sem]
  have r2 : w2.cell? ⟨w.heap.size + 1, 2, none⟩ = some (.int .i64 0) := by rw [hc2 _ _ ha1, hc1 _ _ (by simp)]; simp [go_sem]
  have rf : ∀ o, w2.frozen? ⟨w.heap.size + 1, o, none⟩ = false := by intro o; rw [hf2 _ _ ha1, hf1 _ _ (by simp)]; simp [go_sem]
  have hg : Below w.heap.size w w2 := by (repeat (first | exact Below.refl _ _ | assumption | refine below_drewN ?_ _ | refine Below.drew ?_ | refine btrans ?_ (by assumption) | refine below_alloc ?_ _ | refine Below.setCell ?_ (by simp <;> omega) _ | refine Below.alloc ?_ (by simp <;> omega) _ | refine Below.setCell ?_ (by simp) _ | refine Below.alloc ?_ (by simp) _))
  clear hc1 hf1 hc2 hf2 hb1 hb2 C V Y
  have hM1 : 0 ≤ (12 * y + m - 1 + n) % 12 := by omega
  have hM2 : (12 * y + m - 1 + n) % 12 < 12 := by omega
  generalize hQ : (12 * y + m - 1 + n) / 12 = Q at *
  generalize hM : (12 * y + m - 1 + n) % 12 = M at *
  have HQ := Lib.hid hQ
  have HM := Lib.hid hM
  clear hQ hM
  have hw : IntKind.i64.wrap (M + 1) = M + 1 := IntWalk.i64_in _ (by omega)
  obtain ⟨W, HW⟩ : ∃ W : World, Hid (W = w2.drewN k) := ⟨_, rfl⟩
  have q2' : W.cell? ⟨w.heap.size, 2, none⟩ = some (.int .i64 d) := by rw [HW.out]; exact q2
  have r0' : W.cell? ⟨w.heap.size + 1, 0, none⟩ = some (.int .i64 0) := by rw [HW.out]; exact r0
  have r1' : W.cell? ⟨w.heap.size + 1, 1, none⟩ = some (.int .i64 0) := by rw [HW.out]; exact r1
  have r2' : W.cell? ⟨w.heap.size + 1, 2, none⟩ = some (.int .i64 0) := by rw [HW.out]; exact r2
  have rf' : ∀ o, W.frozen? ⟨w.heap.size + 1, o, none⟩ = false := by rw [HW.out]; exact rf
  have hg' : Below w.heap.size w W := by rw [HW.out]; exact below_drewN hg _
  rw [← HW.out]
  clear q2 r0 r1 r2 rf hg HW
  refine wp_region_still_tail 12 (by kernel_rfl) (by kernel_rfl) ?_
  simp only [List.take_succ_cons, List.take_zero, List.drop_succ_cons, List.drop_zero]
  iterate 9 still_step
  still_call ((rdays_any c Q (M + 1) _).mono fun _ _ ⟨he, hw⟩ => ⟨he, hw.symm⟩)
  repeat still_step
  refine wpStill_nil ?_
  change wpList _ _ _ _ _ W.drew
  go_wp2
  all_goals have hmin : ∀ z : Int, z = min d (Cal.mlen c Q (M + 1)) → Ending.returned (.tuple #[dt Q (M + 1) z, .int .i64 0]) = Ending.returned (.tuple #[dt ((12 * y + m - 1 + n) / 12) ((12 * y + m - 1 + n) % 12 + 1) (min d (Cal.mlen c ((12 * y + m - 1 + n) / 12) ((12 * y + m - 1 + n) % 12 + 1))), .int .i64 0]) := fun z hz => by rw [HQ.out, HM.out, hz]
  · first
      | (refine bodyPost_ret (v := .tuple #[dt Q (M + 1) d, .int .i64 0]) (by simp [results, Try.results30, go_sem, r0', r1', r2']) rfl ⟨hmin _ (by omega), ?_⟩; (repeat (first | exact Below.refl _ _ | assumption | refine below_drewN ?_ _ | refine Below.drew ?_ | refine btrans ?_ (by assumption) | refine below_alloc ?_ _ | refine Below.setCell ?_ (by simp <;> omega) _ | refine Below.alloc ?_ (by simp <;> omega) _ | refine Below.setCell ?_ (by simp) _ | refine Below.alloc ?_ (by simp) _)); done)
      | (refine bodyPost_ret (v := .tuple #[dt Q (M + 1) (Cal.mlen c Q (M + 1)), .int .i64 0]) (by simp [results, Try.results30, go_sem, r0', r1', r2']) rfl ⟨hmin _ (by omega), ?_⟩; (repeat (first | exact Below.refl _ _ | assumption | refine below_drewN ?_ _ | refine Below.drew ?_ | refine btrans ?_ (by assumption) | refine below_alloc ?_ _ | refine Below.setCell ?_ (by simp <;> omega) _ | refine Below.alloc ?_ (by simp <;> omega) _ | refine Below.setCell ?_ (by simp) _ | refine Below.alloc ?_ (by simp) _)); done)
  · first
      | (refine bodyPost_ret (v := .tuple #[dt Q (M + 1) d, .int .i64 0]) (by simp [results, Try.results30, go_sem, r0', r1', r2']) rfl ⟨hmin _ (by omega), ?_⟩; (repeat (first | exact Below.refl _ _ | assumption | refine below_drewN ?_ _ | refine Below.drew ?_ | refine btrans ?_ (by assumption) | refine below_alloc ?_ _ | refine Below.setCell ?_ (by simp <;> omega) _ | refine Below.alloc ?_ (by simp <;> omega) _ | refine Below.setCell ?_ (by simp) _ | refine Below.alloc ?_ (by simp) _)); done)
      | (refine bodyPost_ret (v := .tuple #[dt Q (M + 1) (Cal.mlen c Q (M + 1)), .int .i64 0]) (by simp [results, Try.results30, go_sem, r0', r1', r2']) rfl ⟨hmin _ (by omega), ?_⟩; (repeat (first | exact Below.refl _ _ | assumption | refine below_drewN ?_ _ | refine Below.drew ?_ | refine btrans ?_ (by assumption) | refine below_alloc ?_ _ | refine Below.setCell ?_ (by simp <;> omega) _ | refine Below.alloc ?_ (by simp <;> omega) _ | refine Below.setCell ?_ (by simp) _ | refine Below.alloc ?_ (by simp) _)); done)

theorem rAddMonths_any (c y m d n : Int) (w : World) :
    Calls Try.prog 30 #[.int .i64 c, dt y m d, .int .i64 n] w fun e w' => e = .returned (.tuple #[dt (amY c y m d n) (amM c y m d n) (amD c y m d n), .int .i64 (amE c y m d n)]) ∧ Below w.heap.size w w' := by
  by_cases he : amE c y m d n = 0
  · obtain ⟨a1, a2, a3⟩ := am_yes he
    rw [a1, a2, a3, he]
    rcases am_cases c y m d n with ⟨h1, e1⟩ | ⟨h1, h2, e1⟩ | ⟨h1, h2, h3, h4, e1⟩ | ⟨h1, h2, h3, h4, _⟩
    · omega
    · omega
    · omega
    · exact rAddMonths_ok c y m d n h1 h2 h3 h4 w
  · obtain ⟨a1, a2, a3⟩ := am_no he
    rw [a1, a2, a3]
    exact rAddMonths_err c y m d n he w

end Go.Proofs.Ytnjjkcnokkhlkaa
