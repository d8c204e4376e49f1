/- The walks of the calendar's functions, part E: Valid, date, ordinal, Number, of the program and of the reference. -/
import Derived.Test.YtnjjkcnokkhlkaaGreatDoorCalD
namespace Go.Proofs.YtnjjkcnokkhlkaaGreatDoor
open Go.RowKit

theorem keep3 {W w' : World} {b : Nat} {x y z : Value} (hb : Below W.heap.size W w') (h : b < W.heap.size) (h0 : W.cell? ⟨b, 0, none⟩ = some x) (h1 : W.cell? ⟨b, 1, none⟩ = some y) (h2 : W.cell? ⟨b, 2, none⟩ = some z) :
    w'.cell? ⟨b, 0, none⟩ = some x ∧ w'.cell? ⟨b, 1, none⟩ = some y ∧ w'.cell? ⟨b, 2, none⟩ = some z ∧ b < w'.heap.size :=
  ⟨((bcell hb).1 _ _ h).trans h0, ((bcell hb).1 _ _ h).trans h1, ((bcell hb).1 _ _ h).trans h2, Nat.lt_of_lt_of_le h hb.size⟩

/-- A date as a value. -/
abbrev dt (y m d : Int) : Value := .agg #[.int .i64 y, .int .i64 m, .int .i64 d]

theorem vld_chk (c y m d : Int) (h : chk c y m ≠ 0) : Cal.vld c y m d = false := by
  rw [Bool.eq_false_iff]
  intro hv
  rw [Cal.vld_iff] at hv
  obtain ⟨c1, c2, y1, y2, m1, m2, _⟩ := hv
  rcases chk_cases c y m with ⟨hk, _⟩ | ⟨hk, ho, _⟩ | ⟨_, _, hc⟩
  · rw [kn_not] at hk; omega
  · rw [show okm y m = true from (okm_iff y m).2 ⟨y1, y2, m1, m2⟩] at ho; cases ho
  · exact h hc
theorem vld_day (c y m d : Int) (h : chk c y m = 0) : Cal.vld c y m d = decide (1 ≤ d ∧ d ≤ Cal.mlen c y m) := by
  rcases chk_cases c y m with ⟨_, hc⟩ | ⟨_, _, hc⟩ | ⟨hk, ho, _⟩
  · omega
  · omega
  · rw [kn_iff] at hk; rw [okm_iff] at ho
    unfold Cal.vld
    rw [Bool.eq_iff_iff]; simp; omega

set_option maxHeartbeats 800000 in
theorem Valid_any (c y m d : Int) (w : World) :
    Calls Tryz.prog 18 #[.int .i64 c, dt y m d] w fun e w' => e = .returned (.bool (Cal.vld c y m d)) ∧ Below w.heap.size w w' := by
  have C := fun w => Days_any c y m w
  by_cases hc : chk c y m = 0
  · have hd0 : dayv c y m = Cal.mlen c y m := by unfold dayv; rw [hc]; rfl
    have hv := vld_day c y m d hc
    rw [hd0, hc] at C
    clear hd0 hc
    by_cases h1 : 1 ≤ d
    · by_cases h2 : d ≤ Cal.mlen c y m
      · have H := Lib.hid (show true = Cal.vld c y m d by rw [hv]; simp [h1, h2])
        clear hv
        go_enter Tryz.func18, Tryz.ntmps18
        go_wp2_with (go_at_call 30; refine (C _).mono ?_; rintro e w1 ⟨rfl, hb⟩; obtain ⟨hcell, hfroz⟩ := bcell hb)
        go_ret
        exact ⟨cal_bool_ret H.out, ((Below.refl _ _).alloc (Nat.le_refl _) _).trans (‹Below _ _ _›.mono (by simp))⟩
      · have H := Lib.hid (show decide (d ≤ Cal.mlen c y m) = Cal.vld c y m d by rw [hv]; simp [h1])
        clear hv
        go_enter Tryz.func18, Tryz.ntmps18
        go_wp2_with (go_at_call 30; refine (C _).mono ?_; rintro e w1 ⟨rfl, hb⟩; obtain ⟨hcell, hfroz⟩ := bcell hb)
        go_ret
        exact ⟨cal_bool_ret H.out, ((Below.refl _ _).alloc (Nat.le_refl _) _).trans (‹Below _ _ _›.mono (by simp))⟩
    · have H := Lib.hid (show false = Cal.vld c y m d by rw [hv]; simp [h1])
      clear hv
      go_enter Tryz.func18, Tryz.ntmps18
      go_wp2_with (go_at_call 30; refine (C _).mono ?_; rintro e w1 ⟨rfl, hb⟩; obtain ⟨hcell, hfroz⟩ := bcell hb)
      go_ret
      exact ⟨cal_bool_ret H.out, ((Below.refl _ _).alloc (Nat.le_refl _) _).trans (‹Below _ _ _›.mono (by simp))⟩
  · have H := Lib.hid (vld_chk c y m d hc).symm
    generalize hcv : chk c y m = e0 at *
    clear hcv
    have he : (e0 == 0) = false := by simpa using hc
    clear hc
    go_enter Tryz.func18, Tryz.ntmps18
    go_wp2_with (go_at_call 30; refine (C _).mono ?_; rintro e w1 ⟨rfl, hb⟩; obtain ⟨hcell, hfroz⟩ := bcell hb)
    go_ret
    exact ⟨cal_bool_ret H.out, ((Below.refl _ _).alloc (Nat.le_refl _) _).trans (‹Below _ _ _›.mono (by simp))⟩

set_option maxHeartbeats 800000 in
theorem rValid_any (c y m d : Int) (w : World) :
    Calls Tryz.prog 12 #[.int .i64 c, dt y m d] w fun e w' => e = .returned (.bool (Cal.vld c y m d)) ∧ Below w.heap.size w w' := by
  have C := fun w => rDays_any c y m w
  by_cases hc : chk c y m = 0
  · have hd0 : dayv c y m = Cal.mlen c y m := by unfold dayv; rw [hc]; rfl
    have hv := vld_day c y m d hc
    rw [hd0, hc] at C
    clear hd0 hc
    by_cases h1 : 1 ≤ d
    · by_cases h2 : d ≤ Cal.mlen c y m
      · have H := Lib.hid (show true = Cal.vld c y m d by rw [hv]; simp [h1, h2])
        clear hv
        go_enter Tryz.func12, Tryz.ntmps12
        go_wp2_with (go_at_call 24; refine (C _).mono ?_; rintro e w1 ⟨rfl, hb⟩; obtain ⟨hcell, hfroz⟩ := bcell hb)
        go_ret
        exact ⟨cal_bool_ret H.out, ((Below.refl _ _).alloc (Nat.le_refl _) _).trans (‹Below _ _ _›.mono (by simp))⟩
      · have H := Lib.hid (show decide (d ≤ Cal.mlen c y m) = Cal.vld c y m d by rw [hv]; simp [h1])
        clear hv
        go_enter Tryz.func12, Tryz.ntmps12
        go_wp2_with (go_at_call 24; refine (C _).mono ?_; rintro e w1 ⟨rfl, hb⟩; obtain ⟨hcell, hfroz⟩ := bcell hb)
        go_ret
        exact ⟨cal_bool_ret H.out, ((Below.refl _ _).alloc (Nat.le_refl _) _).trans (‹Below _ _ _›.mono (by simp))⟩
    · have H := Lib.hid (show false = Cal.vld c y m d by rw [hv]; simp [h1])
      clear hv
      go_enter Tryz.func12, Tryz.ntmps12
      go_wp2_with (go_at_call 24; refine (C _).mono ?_; rintro e w1 ⟨rfl, hb⟩; obtain ⟨hcell, hfroz⟩ := bcell hb)
      go_ret
      exact ⟨cal_bool_ret H.out, ((Below.refl _ _).alloc (Nat.le_refl _) _).trans (‹Below _ _ _›.mono (by simp))⟩
  · have H := Lib.hid (vld_chk c y m d hc).symm
    generalize hcv : chk c y m = e0 at *
    clear hcv
    have he : (e0 == 0) = false := by simpa using hc
    clear hc
    go_enter Tryz.func12, Tryz.ntmps12
    go_wp2_with (go_at_call 24; refine (C _).mono ?_; rintro e w1 ⟨rfl, hb⟩; obtain ⟨hcell, hfroz⟩ := bcell hb)
    go_ret
    exact ⟨cal_bool_ret H.out, ((Below.refl _ _).alloc (Nat.le_refl _) _).trans (‹Below _ _ _›.mono (by simp))⟩

/-- The first error of a calendar and a date. -/
def dck (c y m d : Int) : Int := if kn c = false then 20 else if Cal.vld c y m d = false then 21 else 0
theorem dck_cases (c y m d : Int) : (kn c = false ∧ dck c y m d = 20) ∨ (kn c = true ∧ Cal.vld c y m d = false ∧ dck c y m d = 21) ∨ (kn c = true ∧ Cal.vld c y m d = true ∧ dck c y m d = 0) := by
  unfold dck
  cases kn c <;> cases Cal.vld c y m d <;> simp

set_option maxHeartbeats 400000 in
theorem date_any (c y m d : Int) (w : World) :
    Calls Tryz.prog 9 #[.int .i64 c, dt y m d] w fun e w' => e = .returned (.int .i64 (dck c y m d)) ∧ Below w.heap.size w w' := by
  have C := fun w => known_any c w
  have D := fun w => Valid_any c y m d w
  rcases dck_cases c y m d with ⟨hk, hc⟩ | ⟨hk, ho, hc⟩ | ⟨hk, ho, hc⟩
  · have H := Lib.hid (show (20 : Int) = dck c y m d by rw [hc])
    rw [hk] at C
    clear hk hc D
    go_enter Tryz.func9, Tryz.ntmps9
    go_wp2_with (go_at_call 14; refine (C _).mono ?_; rintro e w' ⟨rfl, rfl⟩)
    go_ret
    exact ⟨cal_int_ret H.out, (Below.refl _ _).alloc (Nat.le_refl _) _⟩
  · have H := Lib.hid (show (21 : Int) = dck c y m d by rw [hc])
    rw [hk] at C
    rw [ho] at D
    clear hk hc ho
    go_enter Tryz.func9, Tryz.ntmps9
    go_wp2_with (first | (go_at_call 14; refine (C _).mono ?_; rintro e w' ⟨rfl, rfl⟩) | (go_at_call 18; refine (D _).mono ?_; rintro e w1 ⟨rfl, hb⟩))
    go_ret
    exact ⟨cal_int_ret H.out, ((Below.refl _ _).alloc (Nat.le_refl _) _).trans (‹Below _ _ _›.mono (by simp))⟩
  · have H := Lib.hid (show (0 : Int) = dck c y m d by rw [hc])
    rw [hk] at C
    rw [ho] at D
    clear hk hc ho
    go_enter Tryz.func9, Tryz.ntmps9
    go_wp2_with (first | (go_at_call 14; refine (C _).mono ?_; rintro e w' ⟨rfl, rfl⟩) | (go_at_call 18; refine (D _).mono ?_; rintro e w1 ⟨rfl, hb⟩))
    go_ret
    exact ⟨cal_int_ret H.out, ((Below.refl _ _).alloc (Nat.le_refl _) _).trans (‹Below _ _ _›.mono (by simp))⟩

set_option maxHeartbeats 800000 in
/-- ordinal(cal, d). -/
theorem ordinal_any (c y m d : Int) (m1 : 1 ≤ m) (m2 : m ≤ 12) (d1 : -1000000 ≤ d) (d2 : d ≤ 1000000) (w : World) :
    Calls Tryz.prog 32 #[.int .i64 c, dt y m d] w fun e w' => e = .returned (.int .i64 (d + Cal.cum c y m)) ∧ Below w.heap.size w w' := by
  go_enter Tryz.func32, Tryz.ntmps32
  go_wp2_with (go_at_call 35; refine (lengths_any _ _ _).mono ?_; rintro e w1 ⟨rfl, hb⟩; obtain ⟨hcell, hfroz⟩ := bcell hb)
  go_loop [5, 14] (fun n i => ∃ k : Int, 0 ≤ k ∧ k ≤ 12 ∧ i = .int .i64 k ∧ n = .int .i64 (d + Cal.cum c y (if k + 1 ≤ m then k + 1 else m))) (fun _ i => (12 - intOf i).toNat)
  case atStart => exact ⟨0, by omega, by omega, rfl, by rw [if_pos (by omega)]; simp [Cal.cum_one]⟩
  case round =>
    obtain ⟨k, hk1, hk2, rfl, rfl⟩ := hrel
    by_cases hlt : k < 12
    · have hi := fun w => index_lens c y k hk1 hlt w
      by_cases hm : k + 1 < m
      · have HS := Lib.hid (Cal.cum_succ c y (k + 1) (by omega) (by omega))
        have hb1 := Cal.cum_bd c y (k + 1) (by omega) (by omega)
        have hb2 := Cal.mlen_bd c y (k + 1)
        have HI := Lib.hid (show (if k + 1 ≤ m then k + 1 else m) = k + 1 from if_pos (by omega))
        rw [HI.out]
        go_wp2
        go_round
        case rel => exact ⟨k + 1, by omega, by omega, rfl, by rw [if_pos (by omega), HS.out]; go_num⟩
        case measure => simp [intOf]; omega
      · have HI := Lib.hid (show (if k + 1 ≤ m then k + 1 else m) = m by split <;> omega)
        rw [HI.out]
        go_wp2
        go_round
        case rel => exact ⟨k + 1, by omega, by omega, rfl, by rw [if_neg (by omega)]⟩
        case measure => simp [intOf]; omega
    · obtain rfl : k = 12 := by omega
      have HI := Lib.hid (show (if (12 : Int) + 1 ≤ m then (12 : Int) + 1 else m) = m from if_neg (by omega))
      rw [HI.out]
      go_wp2
      go_ret
      exact ⟨rfl, ((Below.refl _ _).alloc (Nat.le_refl _) _).trans (hb.mono (by simp))⟩

end Go.Proofs.YtnjjkcnokkhlkaaGreatDoor
