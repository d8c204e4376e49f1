/- The walks of the calendar's functions, part C: names, checked, lengths and what rests on them. -/
import Derived.Test.YtnjjkcnokkhlkaaGreatDoorCalB
namespace Go.Proofs.YtnjjkcnokkhlkaaGreatDoor
open Go.RowKit

/-- The walk's two rules behind a call that made memory. -/
theorem bcell {W w1 : World} (hb : Below W.heap.size W w1) : (∀ b o, b < W.heap.size → w1.cell? ⟨b, o, none⟩ = W.cell? ⟨b, o, none⟩) ∧ (∀ b o, b < W.heap.size → w1.frozen? ⟨b, o, none⟩ = W.frozen? ⟨b, o, none⟩) :=
  ⟨fun b o h => hb.cell (p := ⟨b, o, none⟩) h, fun b o h => hb.frozen (p := ⟨b, o, none⟩) h⟩
theorem below_drewN {B : Nat} {a w : World} (h : Below B a w) (n : Nat) : Below B a (w.drewN n) := ⟨h.os, h.tape, h.output, h.size, h.block⟩

theorem below_alloc {a w : World} (h : Below a.heap.size a w) (o : Obj) : Below a.heap.size a (w.alloc o) := h.alloc h.size o

theorem btrans {a b c : World} (h : Below a.heap.size a b) (k : Below b.heap.size b c) : Below a.heap.size a c := h.trans (k.mono h.size)

theorem kn_cases {c : Int} (h : kn c = true) : c = 1 ∨ c = 2 ∨ c = 3 ∨ c = 4 ∨ c = 5 := by rw [kn_iff] at h; omega

theorem cal_str_ret {a b : ByteArray} (h : a = b) : Ending.returned (.string a) = .returned (.string b) := by rw [h]

/-- A calendar's name. -/
def nameB (c : Int) : ByteArray :=
  if c = 1 then ⟨#[103, 114, 101, 103, 111, 114, 105, 97, 110]⟩ else if c = 2 then ⟨#[106, 117, 108, 105, 97, 110]⟩ else if c = 3 then ⟨#[110, 111, 108, 101, 97, 112]⟩
  else if c = 4 then ⟨#[97, 108, 108, 108, 101, 97, 112]⟩ else if c = 5 then ⟨#[51, 54, 48, 100, 97, 121]⟩ else ⟨#[]⟩

set_option maxHeartbeats 400000 in
/-- The reference's Name(cal). -/
theorem rname_any (c : Int) (w : World) :
    Calls Tryz.prog 11 #[.int .i64 c] w fun e w' => e = .returned (.string (nameB c)) ∧ Below w.heap.size w w' := by
  by_cases hk : kn c = true
  · rcases kn_cases hk with rfl | rfl | rfl | rfl | rfl <;> clear hk <;>
    (go_enter Tryz.func11, Tryz.ntmps11
     go_wp2
     go_ret
     exact ⟨rfl, (Below.refl _ _).alloc (Nat.le_refl _) _⟩)
  · have hn : nameB c = ⟨#[]⟩ := by
      have h : kn c = false := by simpa using hk
      rw [kn_not] at h
      unfold nameB
      rw [if_neg (by omega), if_neg (by omega), if_neg (by omega), if_neg (by omega), if_neg (by omega)]
    have HN := Lib.hid hn
    clear hn
    have h : c < 1 ∨ 5 < c := by rw [← kn_not]; simpa using hk
    clear hk
    by_cases h1 : c < 1
    · go_enter Tryz.func11, Tryz.ntmps11
      go_wp2
      go_ret
      exact ⟨cal_str_ret HN.out.symm, (Below.refl _ _).alloc (Nat.le_refl _) _⟩
    · have h5 : 5 < c := by omega
      clear h
      go_enter Tryz.func11, Tryz.ntmps11
      go_wp2
      go_ret
      exact ⟨cal_str_ret HN.out.symm, (Below.refl _ _).alloc (Nat.le_refl _) _⟩

theorem nameB_no {c : Int} (h : kn c = false) : nameB c = ⟨#[]⟩ := by
  rw [kn_not] at h
  unfold nameB
  rw [if_neg (by omega), if_neg (by omega), if_neg (by omega), if_neg (by omega), if_neg (by omega)]
theorem nameB_yes {c : Int} (h : kn c = true) : (nameB c).toList.isEmpty = false := by
  rcases kn_cases h with rfl | rfl | rfl | rfl | rfl <;> decide +kernel
theorem rname_no {c : Int} (h : kn c = false) (w : World) :
    Calls Tryz.prog 11 #[.int .i64 c] w fun e w' => e = .returned (.string ⟨#[]⟩) ∧ Below w.heap.size w w' :=
  (rname_any c w).mono fun _ _ ⟨he, hw⟩ => ⟨by rw [he, nameB_no h], hw⟩
theorem rname_yes {c : Int} (h : kn c = true) (w : World) :
    Calls Tryz.prog 11 #[.int .i64 c] w fun e w' => ∃ s : ByteArray, e = .returned (.string s) ∧ s.toList.isEmpty = false ∧ Below w.heap.size w w' :=
  (rname_any c w).mono fun _ _ ⟨he, hw⟩ => ⟨_, he, nameB_yes h, hw⟩

/-- A year and a month within the limits. -/
def okm (y m : Int) : Bool := decide (-9999 ≤ y ∧ y ≤ 9999 ∧ 1 ≤ m ∧ m ≤ 12)
theorem okm_iff (y m : Int) : okm y m = true ↔ -9999 ≤ y ∧ y ≤ 9999 ∧ 1 ≤ m ∧ m ≤ 12 := by unfold okm; simp
theorem okm_not (y m : Int) : okm y m = false ↔ yr y = false ∨ (yr y = true ∧ (m < 1 ∨ 12 < m)) := by
  unfold okm yr; simp; omega
/-- The first error of a calendar, a year and a month. -/
def chk (c y m : Int) : Int := if kn c = false then 20 else if okm y m = false then 21 else 0

set_option maxHeartbeats 400000 in
theorem checked_any (c y m : Int) (w : World) :
    Calls Tryz.prog 58 #[.int .i64 c, .int .i64 y, .int .i64 m] w fun e w' => e = .returned (.int .i64 (chk c y m)) ∧ w = w' := by
  cases hk : kn c
  · have C := fun w => known_any c w
    rw [hk] at C
    have H := Lib.hid (show (20 : Int) = chk c y m by unfold chk; rw [if_pos hk])
    clear hk
    go_enter Tryz.func58, Tryz.ntmps58
    go_wp2_with (go_at_call 14; refine (C _).mono ?_; rintro e w' ⟨rfl, rfl⟩)
    go_ret
    exact ⟨cal_int_ret H.out, rfl⟩
  have C := fun w => known_any c w
  rw [hk] at C
  cases ho : okm y m
  · have H := Lib.hid (show (21 : Int) = chk c y m by unfold chk; rw [if_neg (by simp [hk]), if_pos ho])
    clear hk
    rcases (okm_not y m).1 ho with hy | ⟨hy, hm⟩
    · have D := fun w => years_any y w
      rw [hy] at D
      clear hy ho
      go_enter Tryz.func58, Tryz.ntmps58
      go_wp2_with (first | (go_at_call 14; refine (C _).mono ?_; rintro e w' ⟨rfl, rfl⟩) | (go_at_call 79; refine (D _).mono ?_; rintro e w' ⟨rfl, rfl⟩))
      go_ret
      exact ⟨cal_int_ret H.out, rfl⟩
    · have D := fun w => years_any y w
      rw [hy] at D
      clear hy ho
      by_cases h1 : m < 1
      · clear hm
        go_enter Tryz.func58, Tryz.ntmps58
        go_wp2_with (first | (go_at_call 14; refine (C _).mono ?_; rintro e w' ⟨rfl, rfl⟩) | (go_at_call 79; refine (D _).mono ?_; rintro e w' ⟨rfl, rfl⟩))
        go_ret
        exact ⟨cal_int_ret H.out, rfl⟩
      · have h12 : 12 < m := by omega
        clear hm
        go_enter Tryz.func58, Tryz.ntmps58
        go_wp2_with (first | (go_at_call 14; refine (C _).mono ?_; rintro e w' ⟨rfl, rfl⟩) | (go_at_call 79; refine (D _).mono ?_; rintro e w' ⟨rfl, rfl⟩))
        go_ret
        exact ⟨cal_int_ret H.out, rfl⟩
  · have H := Lib.hid (show (0 : Int) = chk c y m by unfold chk; rw [if_neg (by simp [hk]), if_neg (by simp [ho])])
    clear hk
    obtain ⟨y1, y2, m1, m2⟩ := (okm_iff y m).1 ho
    have D := fun w => years_any y w
    rw [(yr_iff y).2 ⟨y1, y2⟩] at D
    clear ho
    go_enter Tryz.func58, Tryz.ntmps58
    go_wp2_with (first | (go_at_call 14; refine (C _).mono ?_; rintro e w' ⟨rfl, rfl⟩) | (go_at_call 79; refine (D _).mono ?_; rintro e w' ⟨rfl, rfl⟩))
    go_ret
    exact ⟨cal_int_ret H.out, rfl⟩

/-- The lengths of the months of a year, as an array's cells. -/
def lens (c y : Int) : Array Value := #[.int .i64 (Cal.mlen c y 1), .int .i64 (Cal.mlen c y 2), .int .i64 (Cal.mlen c y 3), .int .i64 (Cal.mlen c y 4), .int .i64 (Cal.mlen c y 5), .int .i64 (Cal.mlen c y 6),
  .int .i64 (Cal.mlen c y 7), .int .i64 (Cal.mlen c y 8), .int .i64 (Cal.mlen c y 9), .int .i64 (Cal.mlen c y 10), .int .i64 (Cal.mlen c y 11), .int .i64 (Cal.mlen c y 12)]
theorem lens_plain (c y : Int) (h5 : c ≠ 5) (hl : Cal.leap c y = false) : lens c y = #[.int .i64 31, .int .i64 28, .int .i64 31, .int .i64 30, .int .i64 31, .int .i64 30, .int .i64 31, .int .i64 31, .int .i64 30, .int .i64 31, .int .i64 30, .int .i64 31] := by
  unfold lens Cal.mlen; simp [h5, hl]
theorem lens_leap (c y : Int) (h5 : c ≠ 5) (hl : Cal.leap c y = true) : lens c y = #[.int .i64 31, .int .i64 29, .int .i64 31, .int .i64 30, .int .i64 31, .int .i64 30, .int .i64 31, .int .i64 31, .int .i64 30, .int .i64 31, .int .i64 30, .int .i64 31] := by
  unfold lens Cal.mlen; simp [h5, hl]
theorem lens_360 (y : Int) : lens 5 y = #[.int .i64 30, .int .i64 30, .int .i64 30, .int .i64 30, .int .i64 30, .int .i64 30, .int .i64 30, .int .i64 30, .int .i64 30, .int .i64 30, .int .i64 30, .int .i64 30] := by
  unfold lens Cal.mlen; simp
theorem index_lens (c y k : Int) (h0 : 0 ≤ k) (h1 : k < 12) (w : World) : (Instr.index 58 (.agg (lens c y)) (.int .i64 k)).run Tryz.prog w = .ok (.int .i64 (Cal.mlen c y (k + 1))) w := by
  have hk : k = 0 ∨ k = 1 ∨ k = 2 ∨ k = 3 ∨ k = 4 ∨ k = 5 ∨ k = 6 ∨ k = 7 ∨ k = 8 ∨ k = 9 ∨ k = 10 ∨ k = 11 := by omega
  rcases hk with rfl | rfl | rfl | rfl | rfl | rfl | rfl | rfl | rfl | rfl | rfl | rfl <;> (show _ = _; kernel_rfl)

set_option maxHeartbeats 800000 in
/-- lengths(cal, year). -/
theorem lengths_any (c y : Int) (w : World) :
    Calls Tryz.prog 35 #[.int .i64 c, .int .i64 y] w fun e w' => e = .returned (.agg (lens c y)) ∧ Below w.heap.size w w' := by
  have C := fun w => leap_any c y w
  by_cases c5 : c = 5
  · subst c5
    have hl : Cal.leap 5 y = false := by unfold Cal.leap; simp
    rw [hl] at C
    have H := Lib.hid (lens_360 y)
    clear hl
    go_enter Tryz.func35, Tryz.ntmps35
    go_wp2_with (go_at_call 60; refine (C _).mono ?_; rintro e w' ⟨rfl, rfl⟩)
    refine wp_loop_rounds 13 ?_
    iterate 12 (rw [rounds_succ]; go_wp2)
    rw [rounds_succ]
    go_wp2
    refine bodyPost_ret (v := .agg (lens 5 y)) (by rw [H.out]; simp [results, Tryz.results35, go_sem]) rfl ⟨rfl, ?_⟩
    exact ((Below.refl _ _).alloc (Nat.le_refl _) _).alloc (by simp) _
  cases hl : Cal.leap c y
  · rw [hl] at C
    have H := Lib.hid (lens_plain c y c5 hl)
    clear hl
    go_enter Tryz.func35, Tryz.ntmps35
    go_wp2_with (go_at_call 60; refine (C _).mono ?_; rintro e w' ⟨rfl, rfl⟩)
    refine bodyPost_ret (v := .agg (lens c y)) (by rw [H.out]; simp [results, Tryz.results35, go_sem]) rfl ⟨rfl, ?_⟩
    exact ((Below.refl _ _).alloc (Nat.le_refl _) _).alloc (by simp) _
  · rw [hl] at C
    have H := Lib.hid (lens_leap c y c5 hl)
    clear hl
    go_enter Tryz.func35, Tryz.ntmps35
    go_wp2_with (go_at_call 60; refine (C _).mono ?_; rintro e w' ⟨rfl, rfl⟩)
    refine bodyPost_ret (v := .agg (lens c y)) (by rw [H.out]; simp [results, Tryz.results35, go_sem]) rfl ⟨rfl, ?_⟩
    exact ((Below.refl _ _).alloc (Nat.le_refl _) _).alloc (by simp) _

end Go.Proofs.YtnjjkcnokkhlkaaGreatDoor
