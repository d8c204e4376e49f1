/- The walks of the calendar's functions, part F: Number, of the program and of the reference. -/
import Derived.Test.YtnjjkcnokkhlkaaCalE
namespace Go.Proofs.Ytnjjkcnokkhlkaa
open Go.RowKit

theorem lt_of_below_alloc {w w1 : World} {o : Obj} (hb : Below (w.alloc o).heap.size (w.alloc o) w1) : w.heap.size < w1.heap.size := by have := hb.size; simp at this; omega

/-- What Number returns beside the error. -/
def numv (c y m d : Int) : Int := if dck c y m d = 0 then Cal.num c y m d else 0

theorem vld_bd {c y m d : Int} (h : Cal.vld c y m d = true) : -9999 ≤ y ∧ y ≤ 9999 ∧ 1 ≤ m ∧ m ≤ 12 ∧ 1 ≤ d ∧ d ≤ 31 := by
  rw [Cal.vld_iff] at h
  obtain ⟨_, _, y1, y2, m1, m2, d1, d2⟩ := h
  have := Cal.mlen_bd c y m
  omega

set_option maxHeartbeats 800000 in
theorem Number_any (c y m d : Int) (w : World) :
    Calls Try.prog 15 #[.int .i64 c, dt y m d] w fun e w' => e = .returned (.tuple #[.int .i64 (numv c y m d), .int .i64 (dck c y m d)]) ∧ Below w.heap.size w w' := by
  have C := fun w => date_any c y m d w
  by_cases hc : dck c y m d = 0
  · have H := Lib.hid (show Cal.first c y + (d + Cal.cum c y m) - 1 = numv c y m d by unfold numv Cal.num; rw [if_pos hc]; omega)
    have G := Lib.hid hc.symm
    have hv : Cal.vld c y m d = true := by
      rcases dck_cases c y m d with ⟨_, h⟩ | ⟨_, _, h⟩ | ⟨_, h, _⟩
      · omega
      · omega
      · exact h
    obtain ⟨y1, y2, m1, m2, d1, d2⟩ := vld_bd hv
    have b1 := Cal.first_bd c y (by omega) (by omega)
    have b2 := Cal.cum_bd c y m m1 (by omega)
    rw [hc] at C
    clear hc hv
    go_enter Try.func15, Try.ntmps15
    go_wp2_with (go_at_call 46; refine (C _).mono ?_; rintro e w1 ⟨rfl, hb⟩; obtain ⟨hcell, hfroz⟩ := bcell hb)
    have hz : w.heap.size < w1.heap.size := by have := hb.size; simp at this; omega
    have q0 : w1.cell? ⟨w.heap.size, 0, none⟩ = some (.int .i64 y) := by rw [hcell _ _ (by simp)]; simp [go_sem]
    have q1 : w1.cell? ⟨w.heap.size, 1, none⟩ = some (.int .i64 m) := by rw [hcell _ _ (by simp)]; simp [go_sem]
    have q2 : w1.cell? ⟨w.heap.size, 2, none⟩ = some (.int .i64 d) := by rw [hcell _ _ (by simp)]; simp [go_sem]
    clear hcell hfroz
    go_region_held3 (fun w' => w'.cell? ⟨w.heap.size, 0, none⟩ = some (.int .i64 y) ∧ w'.cell? ⟨w.heap.size, 1, none⟩ = some (.int .i64 m) ∧ w'.cell? ⟨w.heap.size, 2, none⟩ = some (.int .i64 d)) (first | go_keep | (go_split_ands; refine ⟨?_, ?_, ?_⟩ <;> (rw [hcell2 _ _ (by simp; omega)]; first | assumption | (simp [go_sem, q0, q1, q2]; done))))
      (first
        | (go_at_call 47; refine (first_any _ _ (by omega) (by omega) _).mono ?_; rintro e w' ⟨rfl, rfl⟩)
        | (go_at_call 48; refine (ordinal_any _ _ _ _ (by omega) (by omega) (by omega) (by omega) _).mono ?_; rintro e w2 ⟨rfl, hb2⟩; obtain ⟨hcell2, hfroz2⟩ := bcell hb2))
    go_wp2
    go_ret2
    refine ⟨cal_two_ret (by rw [IntWalk.i64_in (Cal.first c y + (d + Cal.cum c y m)) (by omega), IntWalk.i64_in _ (by omega)]; exact H.out) G.out, ?_⟩
    exact ((((Below.refl _ _).alloc (Nat.le_refl _) _).trans (hb.mono (by simp))).drew).trans (hb2.mono (by simp; omega))
  · have H := Lib.hid (show (0 : Int) = numv c y m d by unfold numv; rw [if_neg hc])
    generalize hcv : dck c y m d = e0 at *
    clear hcv
    have he : (e0 == 0) = false := by simpa using hc
    have he' : (e0 != 0) = true := by simpa using hc
    clear hc
    go_enter Try.func15, Try.ntmps15
    go_wp2_with (go_at_call 46; refine (C _).mono ?_; rintro e w1 ⟨rfl, hb⟩)
    go_ret2
    exact ⟨cal_two_ret H.out rfl, ((Below.refl _ _).alloc (Nat.le_refl _) _).trans (‹Below _ _ _›.mono (by simp))⟩

set_option maxHeartbeats 800000 in
/-- The reference's number(cal, d). -/
theorem rnumber_any (c y m d : Int) (y1 : -9999 ≤ y) (y2 : y ≤ 9999) (m1 : 1 ≤ m) (m2 : m ≤ 12) (d1 : -1000000 ≤ d) (d2 : d ≤ 1000000) (w : World) :
    Calls Try.prog 49 #[.int .i64 c, dt y m d] w fun e w' => e = .returned (.int .i64 (Cal.num c y m d)) ∧ Below w.heap.size w w' := by
  have b1 := Cal.first_bd c y (by omega) (by omega)
  go_enter Try.func49, Try.ntmps49
  go_wp2_with (go_at_call 69; refine (rfirst_any _ _ (by omega) (by omega) _).mono ?_; rintro e w1 ⟨rfl, k, rfl⟩)
  go_loop [5, 6] (fun n i => ∃ k : Int, 1 ≤ k ∧ k ≤ m ∧ i = .int .i64 k ∧ n = .int .i64 (Cal.first c y + Cal.cum c y k)) (fun _ i => (m - intOf i).toNat)
  case atStart => exact ⟨1, by omega, by omega, rfl, by rw [Cal.cum_one]; simp⟩
  case round =>
    obtain ⟨k, hk1, hk2, rfl, rfl⟩ := hrel
    have hb1 := Cal.cum_bd c y k (by omega) (by omega)
    by_cases hlt : k < m
    · have HS := Lib.hid (Cal.cum_succ c y k (by omega) (by omega))
      have hb2 := Cal.mlen_bd c y k
      go_wp2_with (go_at_call 59; refine (rdays_any _ _ _ _).mono ?_; rintro e w' ⟨rfl, rfl⟩)
      go_round
      case rel => exact ⟨k + 1, by omega, by omega, rfl, by rw [HS.out]; go_num⟩
      case measure => simp [intOf]; omega
    · obtain rfl : k = m := by omega
      go_wp2
      go_ret
      exact ⟨cal_int_ret (by unfold Cal.num; omega), below_drewN ((Below.refl _ _).alloc (Nat.le_refl _) _) _⟩

set_option maxHeartbeats 800000 in
theorem rNumber_any (c y m d : Int) (w : World) :
    Calls Try.prog 16 #[.int .i64 c, dt y m d] w fun e w' => e = .returned (.tuple #[.int .i64 (numv c y m d), .int .i64 (dck c y m d)]) ∧ Below w.heap.size w w' := by
  have D := fun w => rValid_any c y m d w
  rcases dck_cases c y m d with ⟨hk, hc⟩ | ⟨hk, ho, hc⟩ | ⟨hk, ho, hc⟩
  · have H := Lib.hid (show (0 : Int) = numv c y m d by unfold numv; rw [hc]; rfl)
    have G := Lib.hid (show (20 : Int) = dck c y m d by rw [hc])
    have C := fun w => rname_no hk w
    clear hk hc D
    go_enter Try.func16, Try.ntmps16
    go_wp2_with (go_at_call 34; refine (C _).mono ?_; rintro e w1 ⟨rfl, hb⟩)
    go_ret2
    exact ⟨cal_two_ret H.out G.out, ((Below.refl _ _).alloc (Nat.le_refl _) _).trans (‹Below _ _ _›.mono (by simp))⟩
  · have H := Lib.hid (show (0 : Int) = numv c y m d by unfold numv; rw [hc]; rfl)
    have G := Lib.hid (show (21 : Int) = dck c y m d by rw [hc])
    have C := fun w => rname_yes hk w
    rw [ho] at D
    clear hk hc ho
    go_enter Try.func16, Try.ntmps16
    go_wp2_with (first | (go_at_call 34; refine (C _).mono ?_; rintro e w1 ⟨s, rfl, hs, hb⟩; obtain ⟨hcell, hfroz⟩ := bcell hb) | (go_at_call 28; refine (D _).mono ?_; rintro e w2 ⟨rfl, hb2⟩))
    go_ret2
    refine ⟨cal_two_ret H.out G.out, ?_⟩
    have hz := hb.size
    exact (((Below.refl _ _).alloc (Nat.le_refl _) _).trans (hb.mono (by simp))).trans (hb2.mono (by simp at hz; omega))
  · have H := Lib.hid (show Cal.num c y m d = numv c y m d by unfold numv; rw [hc]; rfl)
    have G := Lib.hid (show (0 : Int) = dck c y m d by rw [hc])
    have C := fun w => rname_yes hk w
    obtain ⟨y1, y2, m1, m2, d1, d2⟩ := vld_bd ho
    rw [ho] at D
    clear hk hc ho
    go_enter Try.func16, Try.ntmps16
    go_wp2_with (first | (go_at_call 34; refine (C _).mono ?_; rintro e w1 ⟨s, rfl, hs, hb⟩; obtain ⟨hcell, hfroz⟩ := bcell hb; have hz := lt_of_below_alloc hb) | (go_at_call 28; refine (D _).mono ?_; rintro e w2 ⟨rfl, hb2⟩; obtain ⟨hcell2, hfroz2⟩ := bcell hb2) | (go_at_call 49; refine (rnumber_any _ _ _ _ (by omega) (by omega) (by omega) (by omega) (by omega) (by omega) _).mono ?_; rintro e w3 ⟨rfl, hb3⟩))
    go_ret2
    refine ⟨cal_two_ret H.out G.out, ?_⟩
    have hz2 := hb2.size
    exact ((((Below.refl _ _).alloc (Nat.le_refl _) _).trans (hb.mono (by simp))).trans (hb2.mono (by omega))).trans (hb3.mono (by omega))

end Go.Proofs.Ytnjjkcnokkhlkaa
