/- The walks of the calendar's functions, part I: the reference's date and DateOf. -/
import Derived.Test.YtnjjkcnokkhlkaaGreatDoorCalH
namespace Go.Proofs.YtnjjkcnokkhlkaaGreatDoor
open Go.RowKit

/-- What the loops of the reference's date keep. -/
def DV (B : Nat) (y m d : Int) (w wr : World) : Prop :=
  wr.cell? ⟨B, 0, none⟩ = some (.int .i64 0) ∧ wr.cell? ⟨B, 1, none⟩ = some (.int .i64 0) ∧ wr.cell? ⟨B, 2, none⟩ = some (.int .i64 0)
  ∧ wr.cell? ⟨B + 1, 0, none⟩ = some (.int .i64 y) ∧ wr.cell? ⟨B + 1, 1, none⟩ = some (.int .i64 m) ∧ wr.cell? ⟨B + 1, 2, none⟩ = some (.int .i64 d)
  ∧ (∀ o, wr.frozen? ⟨B, o, none⟩ = false) ∧ (∀ o, wr.frozen? ⟨B + 1, o, none⟩ = false) ∧ B + 1 < wr.heap.size ∧ Below B w wr

theorem DV_year {B : Nat} {y m d y' : Int} {w wr : World} (h : DV B y m d w wr) : DV B y' m d w (wr.setCell ⟨B + 1, 0, none⟩ (.int .i64 y')) := by
  obtain ⟨r0, r1, r2, d0, d1, d2, fr, fd, hz, hbl⟩ := h
  refine ⟨?_, ?_, ?_, ?_, ?_, ?_, ?_, ?_, ?_, ?_⟩
  · simp [go_sem, r0]
  · simp [go_sem, r1]
  · simp [go_sem, r2]
  · simp [go_sem, d0]
  · simp [go_sem, d1]
  · simp [go_sem, d2]
  · intro o; simp [go_sem, fr]
  · intro o; simp [go_sem, fd]
  · simpa [World.setCell] using hz
  · exact hbl.setCell (by simp) _
theorem DV_month {B : Nat} {y m d m' : Int} {w wr : World} (h : DV B y m d w wr) : DV B y m' d w (wr.setCell ⟨B + 1, 1, none⟩ (.int .i64 m')) := by
  obtain ⟨r0, r1, r2, d0, d1, d2, fr, fd, hz, hbl⟩ := h
  refine ⟨?_, ?_, ?_, ?_, ?_, ?_, ?_, ?_, ?_, ?_⟩
  · simp [go_sem, r0]
  · simp [go_sem, r1]
  · simp [go_sem, r2]
  · simp [go_sem, d0]
  · simp [go_sem, d1]
  · simp [go_sem, d2]
  · intro o; simp [go_sem, fr]
  · intro o; simp [go_sem, fd]
  · simpa [World.setCell] using hz
  · exact hbl.setCell (by simp) _

theorem cyc_div (c n : Int) (h1 : -7320000 ≤ n) (h2 : n ≤ 7320000) : -60 ≤ n / Cal.cyc c ∧ n / Cal.cyc c ≤ 60 := by
  have hc := cyc_bd c
  have e1 : -60 ≤ n / Cal.cyc c := by
    rw [Int.le_ediv_iff_mul_le (by omega)]; omega
  have e2 : n / Cal.cyc c < 61 := by
    rw [Int.ediv_lt_iff_lt_mul (by omega)]; omega
  omega

end Go.Proofs.YtnjjkcnokkhlkaaGreatDoor
