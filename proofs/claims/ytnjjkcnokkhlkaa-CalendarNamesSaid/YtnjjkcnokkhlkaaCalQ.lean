/- The walks of the calendar's functions, part Q: names, Name and Find of the program, Find of the reference. -/
import Derived.Test.YtnjjkcnokkhlkaaCalJ
namespace Go.Proofs.Ytnjjkcnokkhlkaa
open Go.RowKit

set_option maxRecDepth 100000 in
set_option maxHeartbeats 1600000 in
/-- Name of the program. -/
theorem Name_any (c : Int) (w : World) :
    Calls Try.prog 33 #[.int .i64 c] w fun e w' => e = .returned (.string (nameB c)) ∧ Below w.heap.size w w' := by
  have K := fun w => known_any c w
  cases hk : kn c
  · rw [hk] at K
    have H := Lib.hid (nameB_no hk)
    clear hk
    go_enter Try.func33, Try.ntmps33
    go_wp2_with (go_at_call 50; refine (K _).mono ?_; rintro e w' ⟨rfl, rfl⟩)
    go_ret
    exact ⟨cal_str_ret H.out.symm, by (repeat (first | exact Below.refl _ _ | assumption | refine below_drewN ?_ _ | refine Below.drew ?_ | refine btrans ?_ (by assumption) | refine below_alloc ?_ _ | refine Below.setCell ?_ (by simp <;> omega) _ | refine Below.alloc ?_ (by simp <;> omega) _ | refine Below.setCell ?_ (by simp) _ | refine Below.alloc ?_ (by simp) _))⟩
  · rw [hk] at K
    rcases kn_cases hk with rfl | rfl | rfl | rfl | rfl <;> clear hk <;>
    (go_enter Try.func33, Try.ntmps33
     go_wp2_with (first | (go_at_call 50; refine (K _).mono ?_; rintro e w' ⟨rfl, rfl⟩) | (go_at_call 65; go_in))
     go_ret
     exact ⟨rfl, by (repeat (first | exact Below.refl _ _ | assumption | refine below_drewN ?_ _ | refine Below.drew ?_ | refine btrans ?_ (by assumption) | refine below_alloc ?_ _ | refine Below.setCell ?_ (by simp <;> omega) _ | refine Below.alloc ?_ (by simp <;> omega) _ | refine Below.setCell ?_ (by simp) _ | refine Below.alloc ?_ (by simp) _))⟩)

/-- The calendar with a name. -/
def fnd (s : ByteArray) : Int := if (s.toList == [103, 114, 101, 103, 111, 114, 105, 97, 110]) = true then 1 else if (s.toList == [106, 117, 108, 105, 97, 110]) = true then 2 else if (s.toList == [110, 111, 108, 101, 97, 112]) = true then 3 else if (s.toList == [97, 108, 108, 108, 101, 97, 112]) = true then 4 else if (s.toList == [51, 54, 48, 100, 97, 121]) = true then 5 else 0
def fnb (s : ByteArray) : Bool := decide (fnd s ≠ 0)
theorem cal_ib_ret {k : IntKind} {a b : Int} {c d : Bool} (h : a = b) (h' : c = d) : Ending.returned (.tuple #[.int k a, .bool c]) = .returned (.tuple #[.int k b, .bool d]) := by rw [h, h']

set_option maxRecDepth 100000 in
set_option maxHeartbeats 1600000 in
theorem Find_any (s : ByteArray) (w : World) :
    Calls Try.prog 31 #[.string s] w fun e w' => e = .returned (.tuple #[.int .i64 (fnd s), .bool (fnb s)]) ∧ Below w.heap.size w w' := by
  cases h1 : (s.toList == [103, 114, 101, 103, 111, 114, 105, 97, 110])
  rotate_left
  · have H := Lib.hid (show (1 : Int) = fnd s by unfold fnd; simp only [h1]; simp)
    have G := Lib.hid (show true = fnb s by unfold fnb; rw [← H.out]; rfl)
    go_enter Try.func31, Try.ntmps31
    go_wp2_with (first | (go_at_call 65; go_in) | (go_at_call 64; go_in))
    refine wp_loop_rounds 7 ?_
    iterate 1 (rw [rounds_succ]; go_wp2)
    go_ret2
    exact ⟨cal_ib_ret H.out G.out, by (repeat (first | exact Below.refl _ _ | assumption | refine below_drewN ?_ _ | refine Below.drew ?_ | refine btrans ?_ (by assumption) | refine below_alloc ?_ _ | refine Below.setCell ?_ (by simp <;> omega) _ | refine Below.alloc ?_ (by simp <;> omega) _ | refine Below.setCell ?_ (by simp) _ | refine Below.alloc ?_ (by simp) _))⟩
  cases h2 : (s.toList == [106, 117, 108, 105, 97, 110])
  rotate_left
  · have H := Lib.hid (show (2 : Int) = fnd s by unfold fnd; simp only [h1, h2]; simp)
    have G := Lib.hid (show true = fnb s by unfold fnb; rw [← H.out]; rfl)
    go_enter Try.func31, Try.ntmps31
    go_wp2_with (first | (go_at_call 65; go_in) | (go_at_call 64; go_in))
    refine wp_loop_rounds 7 ?_
    iterate 2 (rw [rounds_succ]; go_wp2)
    go_ret2
    exact ⟨cal_ib_ret H.out G.out, by (repeat (first | exact Below.refl _ _ | assumption | refine below_drewN ?_ _ | refine Below.drew ?_ | refine btrans ?_ (by assumption) | refine below_alloc ?_ _ | refine Below.setCell ?_ (by simp <;> omega) _ | refine Below.alloc ?_ (by simp <;> omega) _ | refine Below.setCell ?_ (by simp) _ | refine Below.alloc ?_ (by simp) _))⟩
  cases h3 : (s.toList == [110, 111, 108, 101, 97, 112])
  rotate_left
  · have H := Lib.hid (show (3 : Int) = fnd s by unfold fnd; simp only [h1, h2, h3]; simp)
    have G := Lib.hid (show true = fnb s by unfold fnb; rw [← H.out]; rfl)
    go_enter Try.func31, Try.ntmps31
    go_wp2_with (first | (go_at_call 65; go_in) | (go_at_call 64; go_in))
    refine wp_loop_rounds 7 ?_
    iterate 3 (rw [rounds_succ]; go_wp2)
    go_ret2
    exact ⟨cal_ib_ret H.out G.out, by (repeat (first | exact Below.refl _ _ | assumption | refine below_drewN ?_ _ | refine Below.drew ?_ | refine btrans ?_ (by assumption) | refine below_alloc ?_ _ | refine Below.setCell ?_ (by simp <;> omega) _ | refine Below.alloc ?_ (by simp <;> omega) _ | refine Below.setCell ?_ (by simp) _ | refine Below.alloc ?_ (by simp) _))⟩
  cases h4 : (s.toList == [97, 108, 108, 108, 101, 97, 112])
  rotate_left
  · have H := Lib.hid (show (4 : Int) = fnd s by unfold fnd; simp only [h1, h2, h3, h4]; simp)
    have G := Lib.hid (show true = fnb s by unfold fnb; rw [← H.out]; rfl)
    go_enter Try.func31, Try.ntmps31
    go_wp2_with (first | (go_at_call 65; go_in) | (go_at_call 64; go_in))
    refine wp_loop_rounds 7 ?_
    iterate 4 (rw [rounds_succ]; go_wp2)
    go_ret2
    exact ⟨cal_ib_ret H.out G.out, by (repeat (first | exact Below.refl _ _ | assumption | refine below_drewN ?_ _ | refine Below.drew ?_ | refine btrans ?_ (by assumption) | refine below_alloc ?_ _ | refine Below.setCell ?_ (by simp <;> omega) _ | refine Below.alloc ?_ (by simp <;> omega) _ | refine Below.setCell ?_ (by simp) _ | refine Below.alloc ?_ (by simp) _))⟩
  cases h5 : (s.toList == [51, 54, 48, 100, 97, 121])
  rotate_left
  · have H := Lib.hid (show (5 : Int) = fnd s by unfold fnd; simp only [h1, h2, h3, h4, h5]; simp)
    have G := Lib.hid (show true = fnb s by unfold fnb; rw [← H.out]; rfl)
    go_enter Try.func31, Try.ntmps31
    go_wp2_with (first | (go_at_call 65; go_in) | (go_at_call 64; go_in))
    refine wp_loop_rounds 7 ?_
    iterate 5 (rw [rounds_succ]; go_wp2)
    go_ret2
    exact ⟨cal_ib_ret H.out G.out, by (repeat (first | exact Below.refl _ _ | assumption | refine below_drewN ?_ _ | refine Below.drew ?_ | refine btrans ?_ (by assumption) | refine below_alloc ?_ _ | refine Below.setCell ?_ (by simp <;> omega) _ | refine Below.alloc ?_ (by simp <;> omega) _ | refine Below.setCell ?_ (by simp) _ | refine Below.alloc ?_ (by simp) _))⟩
  have H := Lib.hid (show (0 : Int) = fnd s by unfold fnd; simp only [h1, h2, h3, h4, h5]; simp)
  have G := Lib.hid (show false = fnb s by unfold fnb; rw [← H.out]; rfl)
  go_enter Try.func31, Try.ntmps31
  go_wp2_with (first | (go_at_call 65; go_in) | (go_at_call 64; go_in))
  refine wp_loop_rounds 7 ?_
  iterate 6 (rw [rounds_succ]; go_wp2)
  go_ret2
  exact ⟨cal_ib_ret H.out G.out, by (repeat (first | exact Below.refl _ _ | assumption | refine below_drewN ?_ _ | refine Below.drew ?_ | refine btrans ?_ (by assumption) | refine below_alloc ?_ _ | refine Below.setCell ?_ (by simp <;> omega) _ | refine Below.alloc ?_ (by simp <;> omega) _ | refine Below.setCell ?_ (by simp) _ | refine Below.alloc ?_ (by simp) _))⟩

theorem rname_1 (w : World) : Calls Try.prog 34 #[.int .i64 1] w fun e w' => e = .returned (.string ⟨#[103, 114, 101, 103, 111, 114, 105, 97, 110]⟩) ∧ Below w.heap.size w w' := rname_any 1 w
theorem rname_2 (w : World) : Calls Try.prog 34 #[.int .i64 2] w fun e w' => e = .returned (.string ⟨#[106, 117, 108, 105, 97, 110]⟩) ∧ Below w.heap.size w w' := rname_any 2 w
theorem rname_3 (w : World) : Calls Try.prog 34 #[.int .i64 3] w fun e w' => e = .returned (.string ⟨#[110, 111, 108, 101, 97, 112]⟩) ∧ Below w.heap.size w w' := rname_any 3 w
theorem rname_4 (w : World) : Calls Try.prog 34 #[.int .i64 4] w fun e w' => e = .returned (.string ⟨#[97, 108, 108, 108, 101, 97, 112]⟩) ∧ Below w.heap.size w w' := rname_any 4 w
theorem rname_5 (w : World) : Calls Try.prog 34 #[.int .i64 5] w fun e w' => e = .returned (.string ⟨#[51, 54, 48, 100, 97, 121]⟩) ∧ Below w.heap.size w w' := rname_any 5 w

theorem lst_comm (a b : List UInt8) : (a == b) = (b == a) := by rw [Bool.eq_iff_iff, beq_iff_eq, beq_iff_eq]; exact eq_comm

set_option maxRecDepth 100000 in
set_option maxHeartbeats 1600000 in
theorem rFind_any (s : ByteArray) (w : World) :
    Calls Try.prog 32 #[.string s] w fun e w' => e = .returned (.tuple #[.int .i64 (fnd s), .bool (fnb s)]) ∧ Below w.heap.size w w' := by
  cases h1 : (s.toList == [103, 114, 101, 103, 111, 114, 105, 97, 110])
  rotate_left
  · have H := Lib.hid (show (1 : Int) = fnd s by unfold fnd; simp only [h1]; simp)
    have G := Lib.hid (show true = fnb s by unfold fnb; rw [← H.out]; rfl)
    rw [lst_comm] at h1
    go_enter Try.func32, Try.ntmps32
    go_wp2
    refine wp_loop_rounds 7 ?_
    rw [rounds_succ]
    go_wp2_with (go_at_call 34; refine (rname_1 _).mono ?_; rintro e w1 ⟨rfl, hb1⟩)
    go_ret2
    exact ⟨cal_ib_ret H.out G.out, by (repeat (first | exact Below.refl _ _ | assumption | refine below_drewN ?_ _ | refine Below.drew ?_ | refine btrans ?_ (by assumption) | refine below_alloc ?_ _ | refine Below.setCell ?_ (by simp <;> omega) _ | refine Below.alloc ?_ (by simp <;> omega) _ | refine Below.setCell ?_ (by simp) _ | refine Below.alloc ?_ (by simp) _))⟩
  cases h2 : (s.toList == [106, 117, 108, 105, 97, 110])
  rotate_left
  · have H := Lib.hid (show (2 : Int) = fnd s by unfold fnd; simp only [h1, h2]; simp)
    have G := Lib.hid (show true = fnb s by unfold fnb; rw [← H.out]; rfl)
    rw [lst_comm] at h1 h2
    go_enter Try.func32, Try.ntmps32
    go_wp2
    refine wp_loop_rounds 7 ?_
    rw [rounds_succ]
    go_wp2_with (go_at_call 34; refine (rname_1 _).mono ?_; rintro e w1 ⟨rfl, hb1⟩)
    rw [rounds_succ]
    go_wp2_with (go_at_call 34; refine (rname_2 _).mono ?_; rintro e w2 ⟨rfl, hb2⟩)
    go_ret2
    exact ⟨cal_ib_ret H.out G.out, by (repeat (first | exact Below.refl _ _ | assumption | refine below_drewN ?_ _ | refine Below.drew ?_ | refine btrans ?_ (by assumption) | refine below_alloc ?_ _ | refine Below.setCell ?_ (by simp <;> omega) _ | refine Below.alloc ?_ (by simp <;> omega) _ | refine Below.setCell ?_ (by simp) _ | refine Below.alloc ?_ (by simp) _))⟩
  cases h3 : (s.toList == [110, 111, 108, 101, 97, 112])
  rotate_left
  · have H := Lib.hid (show (3 : Int) = fnd s by unfold fnd; simp only [h1, h2, h3]; simp)
    have G := Lib.hid (show true = fnb s by unfold fnb; rw [← H.out]; rfl)
    rw [lst_comm] at h1 h2 h3
    go_enter Try.func32, Try.ntmps32
    go_wp2
    refine wp_loop_rounds 7 ?_
    rw [rounds_succ]
    go_wp2_with (go_at_call 34; refine (rname_1 _).mono ?_; rintro e w1 ⟨rfl, hb1⟩)
    rw [rounds_succ]
    go_wp2_with (go_at_call 34; refine (rname_2 _).mono ?_; rintro e w2 ⟨rfl, hb2⟩)
    rw [rounds_succ]
    go_wp2_with (go_at_call 34; refine (rname_3 _).mono ?_; rintro e w3 ⟨rfl, hb3⟩)
    go_ret2
    exact ⟨cal_ib_ret H.out G.out, by (repeat (first | exact Below.refl _ _ | assumption | refine below_drewN ?_ _ | refine Below.drew ?_ | refine btrans ?_ (by assumption) | refine below_alloc ?_ _ | refine Below.setCell ?_ (by simp <;> omega) _ | refine Below.alloc ?_ (by simp <;> omega) _ | refine Below.setCell ?_ (by simp) _ | refine Below.alloc ?_ (by simp) _))⟩
  cases h4 : (s.toList == [97, 108, 108, 108, 101, 97, 112])
  rotate_left
  · have H := Lib.hid (show (4 : Int) = fnd s by unfold fnd; simp only [h1, h2, h3, h4]; simp)
    have G := Lib.hid (show true = fnb s by unfold fnb; rw [← H.out]; rfl)
    rw [lst_comm] at h1 h2 h3 h4
    go_enter Try.func32, Try.ntmps32
    go_wp2
    refine wp_loop_rounds 7 ?_
    rw [rounds_succ]
    go_wp2_with (go_at_call 34; refine (rname_1 _).mono ?_; rintro e w1 ⟨rfl, hb1⟩)
    rw [rounds_succ]
    go_wp2_with (go_at_call 34; refine (rname_2 _).mono ?_; rintro e w2 ⟨rfl, hb2⟩)
    rw [rounds_succ]
    go_wp2_with (go_at_call 34; refine (rname_3 _).mono ?_; rintro e w3 ⟨rfl, hb3⟩)
    rw [rounds_succ]
    go_wp2_with (go_at_call 34; refine (rname_4 _).mono ?_; rintro e w4 ⟨rfl, hb4⟩)
    go_ret2
    exact ⟨cal_ib_ret H.out G.out, by (repeat (first | exact Below.refl _ _ | assumption | refine below_drewN ?_ _ | refine Below.drew ?_ | refine btrans ?_ (by assumption) | refine below_alloc ?_ _ | refine Below.setCell ?_ (by simp <;> omega) _ | refine Below.alloc ?_ (by simp <;> omega) _ | refine Below.setCell ?_ (by simp) _ | refine Below.alloc ?_ (by simp) _))⟩
  cases h5 : (s.toList == [51, 54, 48, 100, 97, 121])
  rotate_left
  · have H := Lib.hid (show (5 : Int) = fnd s by unfold fnd; simp only [h1, h2, h3, h4, h5]; simp)
    have G := Lib.hid (show true = fnb s by unfold fnb; rw [← H.out]; rfl)
    rw [lst_comm] at h1 h2 h3 h4 h5
    go_enter Try.func32, Try.ntmps32
    go_wp2
    refine wp_loop_rounds 7 ?_
    rw [rounds_succ]
    go_wp2_with (go_at_call 34; refine (rname_1 _).mono ?_; rintro e w1 ⟨rfl, hb1⟩)
    rw [rounds_succ]
    go_wp2_with (go_at_call 34; refine (rname_2 _).mono ?_; rintro e w2 ⟨rfl, hb2⟩)
    rw [rounds_succ]
    go_wp2_with (go_at_call 34; refine (rname_3 _).mono ?_; rintro e w3 ⟨rfl, hb3⟩)
    rw [rounds_succ]
    go_wp2_with (go_at_call 34; refine (rname_4 _).mono ?_; rintro e w4 ⟨rfl, hb4⟩)
    rw [rounds_succ]
    go_wp2_with (go_at_call 34; refine (rname_5 _).mono ?_; rintro e w5 ⟨rfl, hb5⟩)
    go_ret2
    exact ⟨cal_ib_ret H.out G.out, by (repeat (first | exact Below.refl _ _ | assumption | refine below_drewN ?_ _ | refine Below.drew ?_ | refine btrans ?_ (by assumption) | refine below_alloc ?_ _ | refine Below.setCell ?_ (by simp <;> omega) _ | refine Below.alloc ?_ (by simp <;> omega) _ | refine Below.setCell ?_ (by simp) _ | refine Below.alloc ?_ (by simp) _))⟩
  have H := Lib.hid (show (0 : Int) = fnd s by unfold fnd; simp only [h1, h2, h3, h4, h5]; simp)
  have G := Lib.hid (show false = fnb s by unfold fnb; rw [← H.out]; rfl)
  rw [lst_comm] at h1 h2 h3 h4 h5
  go_enter Try.func32, Try.ntmps32
  go_wp2
  refine wp_loop_rounds 7 ?_
  rw [rounds_succ]
  go_wp2_with (go_at_call 34; refine (rname_1 _).mono ?_; rintro e w1 ⟨rfl, hb1⟩)
  rw [rounds_succ]
  go_wp2_with (go_at_call 34; refine (rname_2 _).mono ?_; rintro e w2 ⟨rfl, hb2⟩)
  rw [rounds_succ]
  go_wp2_with (go_at_call 34; refine (rname_3 _).mono ?_; rintro e w3 ⟨rfl, hb3⟩)
  rw [rounds_succ]
  go_wp2_with (go_at_call 34; refine (rname_4 _).mono ?_; rintro e w4 ⟨rfl, hb4⟩)
  rw [rounds_succ]
  go_wp2_with (go_at_call 34; refine (rname_5 _).mono ?_; rintro e w5 ⟨rfl, hb5⟩)
  rw [rounds_succ]
  go_wp2
  go_ret2
  exact ⟨cal_ib_ret H.out G.out, by (repeat (first | exact Below.refl _ _ | assumption | refine below_drewN ?_ _ | refine Below.drew ?_ | refine btrans ?_ (by assumption) | refine below_alloc ?_ _ | refine Below.setCell ?_ (by simp <;> omega) _ | refine Below.alloc ?_ (by simp <;> omega) _ | refine Below.setCell ?_ (by simp) _ | refine Below.alloc ?_ (by simp) _))⟩

end Go.Proofs.Ytnjjkcnokkhlkaa
