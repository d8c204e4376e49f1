/- The walks of the calendar's functions, part F: Number, of the program and of the reference. -/
import Derived.Test.YtnjjkcnokkhlkaaGreatDoorCalE
namespace Go.Proofs.YtnjjkcnokkhlkaaGreatDoor
open Go.RowKit

theorem lt_of_below_alloc {w w1 : World} {o : Obj} (hb : Below (w.alloc o).heap.size (w.alloc o) w1) : w.heap.size < w1.heap.size := by have := hb.size; simp at this; omega

/-- What Number returns beside the error. -/
def numv (c y m d : Int) : Int := if dck c y m d = 0 then Cal.num c y m d else 0

theorem vld_bd {c y m d : Int} (h : Cal.vld c y m d = true) : -9999 ≤ y ∧ y ≤ 9999 ∧ 1 ≤ m ∧ m ≤ 12 ∧ 1 ≤ d ∧ d ≤ 31 := by
  rw [Cal.vld_iff] at h
  obtain ⟨_, _, y1, y2, m1, m2, d1, d2⟩ := h
  have := Cal.mlen_bd c y m
  omega

set_option maxHeartbeats 800000 in
theorem Number_any (c y m d : Int) (w : World) :
    Calls Tryz.prog 20 #[.int .i64 c, dt y m d] w fun e w' => e = .returned (.tuple #[.int .i64 (numv c y m d), .int .i64 (dck c y m d)]) ∧ Below w.heap.size w w' := by
  have C := fun w => date_any c y m d w
  by_cases hc : dck c y m d = 0
  · have H := Lib.hid (show Cal.first c y + (d + Cal.cum c y m) - 1 = numv c y m d by unfold numv Cal.num; rw [if_pos hc]; omega)
    have G := Lib.hid hc.symm
    have hv : Cal.vld c y m d = true := by
      rcases dck_cases c y m d with ⟨_, h⟩ | ⟨_, _, h⟩ | ⟨_, h, _⟩
      · omega
      · omega
      · exact h
    obtain ⟨y1, y2, m1, m2, d1, d2⟩ := vld_bd hv
    have b1 := Cal.first_bd c y (by omega) (by omega)
    have b2 := Cal.cum_bd c y m m1 (by omega)
    rw [hc] at C
    clear hc hv
    go_enter Tryz.func20, Tryz.ntmps20
    go_wp2_with (go_at_call 9; refine (C _).mono ?_; rintro e w1 ⟨rfl, hb⟩; obtain ⟨hcell, hfroz⟩ := bcell hb)
    have hz : w.heap.size < w1.heap.size := by have := hb.size; simp at this; omega
    have q0 : w1.cell? ⟨w.heap.size, 0, none⟩ = some (.int .i64 y) := by rw [hcell _ _ (by simp)]; simp [go_sem]
    have q1 : w1.cell? ⟨w.heap.size, 1, none⟩ = some (.int .i64 m) := by rw [hcell _ _ (by simp)]; simp [go_sem]
    have q2 : w1.cell? ⟨w.heap.size, 2, none⟩ = some (.int .i64 d) := by rw [hcell _ _ (by simp)]; simp [go_sem]
    clear hcell hfroz
    go_region_held3 (fun w' => w'.cell? ⟨w.heap.size, 0, none⟩ = some (.int .i64 y) ∧ w'.cell? ⟨w.heap.size, 1, none⟩ = some (.int .i64 m) ∧ w'.cell? ⟨w.heap.size, 2, none⟩ = some (.int .i64 d)) (first | go_keep | (go_split_ands; refine ⟨?_, ?_, ?_⟩ <;> (rw [hcell2 _ _ (by simp; omega)]; first | assumption | (simp [go_sem, q0, q1, q2]; done))))
      (first
        | (go_at_call 31; refine (first_any _ _ (by omega) (by omega) _).mono ?_; rintro e w' ⟨rfl, rfl⟩)
        | (go_at_call 32; refine (ordinal_any _ _ _ _ (by omega) (by omega) (by omega) (by omega) _).mono ?_; rintro e w2 ⟨rfl, hb2⟩; obtain ⟨hcell2, hfroz2⟩ := bcell hb2))
    go_wp2
    go_ret2
    refine ⟨cal_two_ret (by rw [IntWalk.i64_in (Cal.first c y + (d + Cal.cum c y m)) (by omega), IntWalk.i64_in _ (by omega)]; exact H.out) G.out, ?_⟩
    exact ((((Below.refl _ _).alloc (Nat.le_refl _) _).trans (hb.mono (by simp))).drew).trans (hb2.mono (by simp; omega))
  · have H := Lib.hid (show (0 : Int) = numv c y m d by unfold numv; rw [if_neg hc])
    generalize hcv : dck c y m d = e0 at *
    clear hcv
    have he : (e0 == 0) = false := by simpa using hc
    have he' : (e0 != 0) = true := by simpa using hc
    clear hc
    go_enter Tryz.func20, Tryz.ntmps20
    go_wp2_with (go_at_call 9; refine (C _).mono ?_; rintro e w1 ⟨rfl, hb⟩)
    go_ret2
    exact ⟨cal_two_ret H.out rfl, ((Below.refl _ _).alloc (Nat.le_refl _) _).trans (‹Below _ _ _›.mono (by simp))⟩

end Go.Proofs.YtnjjkcnokkhlkaaGreatDoor
