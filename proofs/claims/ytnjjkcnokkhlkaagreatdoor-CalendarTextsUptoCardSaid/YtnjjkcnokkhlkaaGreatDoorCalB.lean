/- The walks of the calendar's functions, part B: the reference's part, cycle and first; the names; checked and what rests on it. -/
import Derived.Test.YtnjjkcnokkhlkaaGreatDoorCalA
import Derived.Deep.RegionHeld3
import Derived.StillTailTactics
namespace Go.Proofs.YtnjjkcnokkhlkaaGreatDoor
open Go.RowKit

theorem cal_two_ret {k l : IntKind} {a b c d : Int} (h : a = b) (h' : c = d) : Ending.returned (.tuple #[.int k a, .int l c]) = .returned (.tuple #[.int k b, .int l d]) := by rw [h, h']

theorem rest_up (a b : Int) (hb : 1 ≤ b) (h : 0 ≤ a.tmod b) : a.tmod b = a % b := by
  have e := Int.mul_tdiv_add_tmod a b
  have l := Int.tmod_lt_of_pos a (show 0 < b by omega)
  exact ((Int.ediv_emod_unique (q := a.tdiv b) (show 0 < b by omega)).2 ⟨by omega, h, l⟩).2.symm
theorem rest_dn (a b : Int) (hb : 1 ≤ b) (h : a.tmod b < 0) : a.tmod b + b = a % b := by
  have e := Int.mul_tdiv_add_tmod a b
  have l := Int.lt_tmod_of_pos a (show 0 < b by omega)
  refine ((Int.ediv_emod_unique (r := a.tmod b + b) (q := a.tdiv b - 1) (show 0 < b by omega)).2 ⟨?_, by omega, by omega⟩).2.symm
  have : b * (a.tdiv b - 1) = b * a.tdiv b - b := by rw [Int.mul_sub]; simp
  omega

theorem cyc_bd (c : Int) : 144000 ≤ Cal.cyc c ∧ Cal.cyc c ≤ 146400 := by
  unfold Cal.cyc
  split
  · omega
  · split
    · omega
    · split
      · omega
      · split <;> omega
theorem cyc_first (c : Int) : Cal.first c 400 = Cal.cyc c := by
  have h := Cal.first_cyc c 1 0
  rw [Cal.first_zero] at h
  simpa using h

end Go.Proofs.YtnjjkcnokkhlkaaGreatDoor
