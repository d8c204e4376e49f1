/- The walks of the calendar's functions, part D: Days, Leap, Length and Valid, of the program and of the reference; date. -/
import Derived.Test.YtnjjkcnokkhlkaaGreatDoorCalC
namespace Go.Proofs.YtnjjkcnokkhlkaaGreatDoor
open Go.RowKit

theorem chk_cases (c y m : Int) : (kn c = false ∧ chk c y m = 20) ∨ (kn c = true ∧ okm y m = false ∧ chk c y m = 21) ∨ (kn c = true ∧ okm y m = true ∧ chk c y m = 0) := by
  unfold chk
  cases kn c <;> cases okm y m <;> simp
theorem okm_one (y : Int) : okm y 1 = yr y := by unfold okm yr; simp

/-- What Days returns beside the error. -/
def dayv (c y m : Int) : Int := if chk c y m = 0 then Cal.mlen c y m else 0

set_option maxHeartbeats 400000 in
theorem Days_any (c y m : Int) (w : World) :
    Calls Tryz.prog 30 #[.int .i64 c, .int .i64 y, .int .i64 m] w fun e w' => e = .returned (.tuple #[.int .i64 (dayv c y m), .int .i64 (chk c y m)]) ∧ Below w.heap.size w w' := by
  have C := fun w => checked_any c y m w
  rcases chk_cases c y m with ⟨hk, hc⟩ | ⟨hk, ho, hc⟩ | ⟨hk, ho, hc⟩
  · have H := Lib.hid (show (0 : Int) = dayv c y m by unfold dayv; rw [hc]; rfl)
    have G := Lib.hid (show (20 : Int) = chk c y m by rw [hc])
    rw [hc] at C
    clear hc hk
    go_enter Tryz.func30, Tryz.ntmps30
    go_wp2_with (go_at_call 58; refine (C _).mono ?_; rintro e w' ⟨rfl, rfl⟩)
    go_ret2
    exact ⟨cal_two_ret H.out G.out, Below.refl _ _⟩
  · have H := Lib.hid (show (0 : Int) = dayv c y m by unfold dayv; rw [hc]; rfl)
    have G := Lib.hid (show (21 : Int) = chk c y m by rw [hc])
    rw [hc] at C
    clear hc hk ho
    go_enter Tryz.func30, Tryz.ntmps30
    go_wp2_with (go_at_call 58; refine (C _).mono ?_; rintro e w' ⟨rfl, rfl⟩)
    go_ret2
    exact ⟨cal_two_ret H.out G.out, Below.refl _ _⟩
  · have H := Lib.hid (show Cal.mlen c y m = dayv c y m by unfold dayv; rw [hc]; rfl)
    have G := Lib.hid (show (0 : Int) = chk c y m by rw [hc])
    rw [hc] at C
    obtain ⟨y1, y2, m1, m2⟩ := (okm_iff y m).1 ho
    clear hc hk ho
    have hi := fun w => index_lens c y (m - 1) (by omega) (by omega) w
    go_enter Tryz.func30, Tryz.ntmps30
    go_wp2_with (first | (go_at_call 58; refine (C _).mono ?_; rintro e w' ⟨rfl, rfl⟩) | (go_at_call 35; refine (lengths_any _ _ _).mono ?_; rintro e w1 ⟨rfl, hb⟩))
    go_ret2
    exact ⟨cal_two_ret H.out G.out, ‹Below _ _ _›⟩

set_option maxHeartbeats 400000 in
theorem rDays_any (c y m : Int) (w : World) :
    Calls Tryz.prog 24 #[.int .i64 c, .int .i64 y, .int .i64 m] w fun e w' => e = .returned (.tuple #[.int .i64 (dayv c y m), .int .i64 (chk c y m)]) ∧ Below w.heap.size w w' := by
  rcases chk_cases c y m with ⟨hk, hc⟩ | ⟨hk, ho, hc⟩ | ⟨hk, ho, hc⟩
  · have H := Lib.hid (show (0 : Int) = dayv c y m by unfold dayv; rw [hc]; rfl)
    have G := Lib.hid (show (20 : Int) = chk c y m by rw [hc])
    have C := fun w => rname_no hk w
    clear hc hk
    go_enter Tryz.func24, Tryz.ntmps24
    go_wp2_with (go_at_call 11; refine (C _).mono ?_; rintro e w' ⟨rfl, hb⟩)
    go_ret2
    exact ⟨cal_two_ret H.out G.out, ‹Below _ _ _›⟩
  · have H := Lib.hid (show (0 : Int) = dayv c y m by unfold dayv; rw [hc]; rfl)
    have G := Lib.hid (show (21 : Int) = chk c y m by rw [hc])
    have C := fun w => rname_yes hk w
    have D := fun w => inRange_any y w
    clear hc hk
    rcases (okm_not y m).1 ho with hy | ⟨hy, hm⟩
    · rw [hy] at D
      clear hy ho
      go_enter Tryz.func24, Tryz.ntmps24
      go_wp2_with (first | (go_at_call 11; refine (C _).mono ?_; rintro e w' ⟨s, rfl, hs, hb⟩) | (go_at_call 43; refine (D _).mono ?_; rintro e w' ⟨rfl, rfl⟩))
      go_ret2
      exact ⟨cal_two_ret H.out G.out, ‹Below _ _ _›⟩
    · rw [hy] at D
      clear hy ho
      by_cases h1 : m < 1
      · clear hm
        go_enter Tryz.func24, Tryz.ntmps24
        go_wp2_with (first | (go_at_call 11; refine (C _).mono ?_; rintro e w' ⟨s, rfl, hs, hb⟩) | (go_at_call 43; refine (D _).mono ?_; rintro e w' ⟨rfl, rfl⟩))
        go_ret2
        exact ⟨cal_two_ret H.out G.out, ‹Below _ _ _›⟩
      · have h12 : 12 < m := by omega
        clear hm
        go_enter Tryz.func24, Tryz.ntmps24
        go_wp2_with (first | (go_at_call 11; refine (C _).mono ?_; rintro e w' ⟨s, rfl, hs, hb⟩) | (go_at_call 43; refine (D _).mono ?_; rintro e w' ⟨rfl, rfl⟩))
        go_ret2
        exact ⟨cal_two_ret H.out G.out, ‹Below _ _ _›⟩
  · have H := Lib.hid (show Cal.mlen c y m = dayv c y m by unfold dayv; rw [hc]; rfl)
    have G := Lib.hid (show (0 : Int) = chk c y m by rw [hc])
    have C := fun w => rname_yes hk w
    have D := fun w => inRange_any y w
    obtain ⟨y1, y2, m1, m2⟩ := (okm_iff y m).1 ho
    rw [(yr_iff y).2 ⟨y1, y2⟩] at D
    clear hc hk ho
    go_enter Tryz.func24, Tryz.ntmps24
    go_wp2_with (first | (go_at_call 11; refine (C _).mono ?_; rintro e w' ⟨s, rfl, hs, hb⟩) | (go_at_call 43; refine (D _).mono ?_; rintro e w' ⟨rfl, rfl⟩) | (go_at_call 44; refine (rdays_any _ _ _ _).mono ?_; rintro e w' ⟨rfl, rfl⟩))
    go_ret2
    exact ⟨cal_two_ret H.out G.out, ‹Below _ _ _›⟩

/-- What Leap returns beside the error. -/
def lpv (c y : Int) : Bool := if chk c y 1 = 0 then Cal.leap c y else false
theorem cal_bi_ret {l : IntKind} {a b : Bool} {c d : Int} (h : a = b) (h' : c = d) : Ending.returned (.tuple #[.bool a, .int l c]) = .returned (.tuple #[.bool b, .int l d]) := by rw [h, h']

/-- What Length returns beside the error. -/
def lenv (c y : Int) : Int := if chk c y 1 = 0 then Cal.ylen c y else 0

end Go.Proofs.YtnjjkcnokkhlkaaGreatDoor
