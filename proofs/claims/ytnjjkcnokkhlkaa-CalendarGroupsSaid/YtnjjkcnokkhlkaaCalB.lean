/- The walks of the calendar's functions, part B: the reference's part, cycle and first; the names; checked and what rests on it. -/
import Derived.Test.YtnjjkcnokkhlkaaCalA
import Derived.Deep.RegionHeld3
import Derived.StillTailTactics
namespace Go.Proofs.Ytnjjkcnokkhlkaa
open Go.RowKit

theorem cal_two_ret {k l : IntKind} {a b c d : Int} (h : a = b) (h' : c = d) : Ending.returned (.tuple #[.int k a, .int l c]) = .returned (.tuple #[.int k b, .int l d]) := by rw [h, h']

theorem rest_up (a b : Int) (hb : 1 ≤ b) (h : 0 ≤ a.tmod b) : a.tmod b = a % b := by
  have e := Int.mul_tdiv_add_tmod a b
  have l := Int.tmod_lt_of_pos a (show 0 < b by omega)
  exact ((Int.ediv_emod_unique (q := a.tdiv b) (show 0 < b by omega)).2 ⟨by omega, h, l⟩).2.symm
theorem rest_dn (a b : Int) (hb : 1 ≤ b) (h : a.tmod b < 0) : a.tmod b + b = a % b := by
  have e := Int.mul_tdiv_add_tmod a b
  have l := Int.lt_tmod_of_pos a (show 0 < b by omega)
  refine ((Int.ediv_emod_unique (r := a.tmod b + b) (q := a.tdiv b - 1) (show 0 < b by omega)).2 ⟨?_, by omega, by omega⟩).2.symm
  have : b * (a.tdiv b - 1) = b * a.tdiv b - b := by rw [Int.mul_sub]; simp
  omega

set_option maxHeartbeats 400000 in
/-- part(n, by) for by above 0. -/
theorem part_any (a b : Int) (hb : 1 ≤ b) (hb' : b ≤ 1000000) (h1 : -1000000000000 ≤ a) (h2 : a ≤ 1000000000000) (w : World) :
    Calls Try.prog 63 #[.int .i64 a, .int .i64 b] w fun e w' => e = .returned (.tuple #[.int .i64 (a / b), .int .i64 (a % b)]) ∧ ∃ k, w' = w.drewN k := by
  have hd := tdiv_bd a b h1 h2
  obtain ⟨d1, d2⟩ := hd
  have l1 := Int.tmod_lt_of_pos a (show 0 < b by omega)
  have l2 := Int.lt_tmod_of_pos a (show 0 < b by omega)
  have hb0 : ¬ b = 0 := by omega
  by_cases hm : a.tmod b < 0
  · have H := Lib.hid (floor_dn a b hb hm)
    have G := Lib.hid (rest_dn a b hb hm)
    go_enter Try.func63, Try.ntmps63
    go_wp2
    go_quiet (fail)
    go_wp2
    go_ret2
    exact ⟨cal_two_ret H.out G.out, _, rfl⟩
  · have H := Lib.hid (floor_up a b hb (by omega))
    have G := Lib.hid (rest_up a b hb (by omega))
    go_enter Try.func63, Try.ntmps63
    go_wp2
    go_quiet (fail)
    go_wp2
    go_ret2
    exact ⟨cal_two_ret H.out G.out, _, rfl⟩

theorem cyc_bd (c : Int) : 144000 ≤ Cal.cyc c ∧ Cal.cyc c ≤ 146400 := by
  unfold Cal.cyc
  split
  · omega
  · split
    · omega
    · split
      · omega
      · split <;> omega
theorem cyc_first (c : Int) : Cal.first c 400 = Cal.cyc c := by
  have h := Cal.first_cyc c 1 0
  rw [Cal.first_zero] at h
  simpa using h

set_option maxHeartbeats 400000 in
/-- cycle(cal). -/
theorem cycle_any (c : Int) (w : World) :
    Calls Try.prog 73 #[.int .i64 c] w fun e w' => e = .returned (.int .i64 (Cal.cyc c)) ∧ w = w' := by
  go_enter Try.func73, Try.ntmps73
  go_wp2
  go_loop [3, 4] (fun n i => ∃ y : Int, 0 ≤ y ∧ y ≤ 400 ∧ i = .int .i64 y ∧ n = .int .i64 (Cal.first c y)) (fun _ i => (400 - intOf i).toNat)
  case atStart => exact ⟨0, by omega, by omega, rfl, by rw [Cal.first_zero]⟩
  case round =>
    obtain ⟨y, hy1, hy2, rfl, rfl⟩ := hrel
    have hb := Cal.first_bd c y (by omega) (by omega)
    have hd := Cal.ylen_pos c y
    by_cases hlt : y < 400
    · have HS := Lib.hid (Cal.first_succ c y)
      go_wp2_with (go_at_call 60; refine (rlength_any _ _ _).mono ?_; rintro e w' ⟨rfl, rfl⟩)
      go_round
      case rel => exact ⟨y + 1, by omega, by omega, rfl, by rw [HS.out]⟩
      case measure => simp [intOf]; omega
    · obtain rfl : y = 400 := by omega
      have HS := Lib.hid (cyc_first c)
      go_wp2
      go_ret
      exact ⟨cal_int_ret HS.out, rfl⟩

set_option maxHeartbeats 400000 in
/-- The reference's first(cal, year). -/
theorem rfirst_any (c y : Int) (h1 : -20000 ≤ y) (h2 : y ≤ 20000) (w : World) :
    Calls Try.prog 69 #[.int .i64 c, .int .i64 y] w fun e w' => e = .returned (.int .i64 (Cal.first c y)) ∧ ∃ k, w' = w.drewN k := by
  have hc := cyc_bd c
  have HY := Lib.hid (show 400 * (y / 400) + y % 400 = y by omega)
  have q1 : -50 ≤ y / 400 := by omega
  have q2 : y / 400 ≤ 50 := by omega
  have r1 : 0 ≤ y % 400 := by omega
  have r2 : y % 400 < 400 := by omega
  have HF := Lib.hid (Cal.first_cyc c (y / 400))
  generalize hq : y / 400 = q at *
  generalize hr : y % 400 = r at *
  have HQ := Lib.hid hq
  have HR := Lib.hid hr
  clear hq hr
  have hqc : -7320000 ≤ q * Cal.cyc c ∧ q * Cal.cyc c ≤ 7320000 := by
    obtain ⟨c1, c2⟩ := hc
    generalize Cal.cyc c = x at *
    have a1 := Int.mul_le_mul_of_nonneg_right q2 (show 0 ≤ x by omega)
    have a2 := Int.mul_le_mul_of_nonneg_right q1 (show 0 ≤ x by omega)
    omega
  obtain ⟨p1, p2⟩ := hqc
  go_enter Try.func69, Try.ntmps69
  go_wp2_with (first | (go_at_call 63; refine (part_any _ _ (by omega) (by omega) (by omega) (by omega) _).mono ?_; rw [HQ.out, HR.out]; rintro e w' ⟨rfl, k, rfl⟩) | (go_at_call 73; refine (cycle_any _ _).mono ?_; rintro e w' ⟨rfl, rfl⟩))
  go_loop [7, 8] (fun n i => ∃ y : Int, 0 ≤ y ∧ y ≤ r ∧ i = .int .i64 y ∧ n = .int .i64 (q * Cal.cyc c + Cal.first c y)) (fun _ i => (r - intOf i).toNat)
  case atStart => exact ⟨0, by omega, by omega, rfl, by rw [Cal.first_zero]; simp⟩
  case round =>
    obtain ⟨z, hy1, hy2, rfl, rfl⟩ := hrel
    have hb := Cal.first_bd c z (by omega) (by omega)
    have hd := Cal.ylen_pos c z
    by_cases hlt : z < r
    · have HS := Lib.hid (Cal.first_succ c z)
      go_wp2_with (go_at_call 60; refine (rlength_any _ _ _).mono ?_; rintro e w' ⟨rfl, rfl⟩)
      go_round
      case rel => exact ⟨z + 1, by omega, by omega, rfl, by rw [HS.out]; go_num⟩
      case measure => simp [intOf]; omega
    · obtain rfl : z = r := by omega
      have HS := Lib.hid (HF.out z)
      go_wp2
      go_ret
      exact ⟨cal_int_ret (by rw [← HS.out, HY.out]), _, rfl⟩

end Go.Proofs.Ytnjjkcnokkhlkaa
