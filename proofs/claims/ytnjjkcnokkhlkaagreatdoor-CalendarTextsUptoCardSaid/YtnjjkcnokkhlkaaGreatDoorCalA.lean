/- The walks of the calendar's functions over plain numbers: each returns what its plain Lean function says; the world is as it was. -/
import Derived.Test.YtnjjkcnokkhlkaaGreatDoorRows
import Derived.Test.YtnjjkcnokkhlkaaGreatDoorCalMath
import Derived.WalkKit
import Derived.WalkSpells
import Derived.WalkLawsBesides
import Derived.Lib.Hide
import Derived.Deep.QuietTactic
import Derived.BigQuiet
namespace Go.Proofs.YtnjjkcnokkhlkaaGreatDoor
open Go.RowKit

theorem cal_int_ret {k : IntKind} {a b : Int} (h : a = b) : Ending.returned (.int k a) = .returned (.int k b) := by rw [h]
theorem cal_bool_ret {a b : Bool} (h : a = b) : Ending.returned (.bool a) = .returned (.bool b) := by rw [h]

/-- A calendar's number is one of the five. -/
def kn (c : Int) : Bool := decide (1 ≤ c ∧ c ≤ 5)
theorem kn_iff (c : Int) : kn c = true ↔ 1 ≤ c ∧ c ≤ 5 := by unfold kn; simp
theorem kn_not (c : Int) : kn c = false ↔ c < 1 ∨ 5 < c := by unfold kn; simp; omega
/-- A year within the limits. -/
def yr (y : Int) : Bool := decide (-9999 ≤ y ∧ y ≤ 9999)
theorem yr_iff (y : Int) : yr y = true ↔ -9999 ≤ y ∧ y ≤ 9999 := by unfold yr; simp
theorem yr_not (y : Int) : yr y = false ↔ y < -9999 ∨ 9999 < y := by unfold yr; simp; omega

set_option maxHeartbeats 400000 in
theorem known_any (c : Int) (w : World) : Calls Tryz.prog 14 #[.int .i64 c] w fun e w' => e = .returned (.bool (kn c)) ∧ w = w' := by
  by_cases h : 1 ≤ c
  · go_enter Tryz.func14, Tryz.ntmps14
    go_wp2
    go_ret
    exact ⟨cal_bool_ret (by unfold kn; simp [h]), rfl⟩
  · go_enter Tryz.func14, Tryz.ntmps14
    go_wp2
    go_ret
    exact ⟨cal_bool_ret (by unfold kn; simp; omega), rfl⟩

set_option maxHeartbeats 400000 in
theorem years_any (c : Int) (w : World) : Calls Tryz.prog 79 #[.int .i64 c] w fun e w' => e = .returned (.bool (yr c)) ∧ w = w' := by
  by_cases h : -9999 ≤ c
  · go_enter Tryz.func79, Tryz.ntmps79
    go_wp2
    go_ret
    exact ⟨cal_bool_ret (by unfold yr; simp [h]), rfl⟩
  · go_enter Tryz.func79, Tryz.ntmps79
    go_wp2
    go_ret
    exact ⟨cal_bool_ret (by unfold yr; simp; omega), rfl⟩

set_option maxHeartbeats 400000 in
theorem inRange_any (c : Int) (w : World) : Calls Tryz.prog 43 #[.int .i64 c] w fun e w' => e = .returned (.bool (yr c)) ∧ w = w' := by
  by_cases h : -9999 ≤ c
  · go_enter Tryz.func43, Tryz.ntmps43
    go_wp2
    go_ret
    exact ⟨cal_bool_ret (by unfold yr; simp [h]), rfl⟩
  · go_enter Tryz.func43, Tryz.ntmps43
    go_wp2
    go_ret
    exact ⟨cal_bool_ret (by unfold yr; simp; omega), rfl⟩

theorem floor_up (a b : Int) (hb : 1 ≤ b) (h : 0 ≤ a.tmod b) : a.tdiv b = a / b := by
  have e := Int.mul_tdiv_add_tmod a b
  have l := Int.tmod_lt_of_pos a (show 0 < b by omega)
  exact ((Int.ediv_emod_unique (show 0 < b by omega)).2 ⟨by omega, h, l⟩).1.symm
theorem floor_dn (a b : Int) (hb : 1 ≤ b) (h : a.tmod b < 0) : a.tdiv b - 1 = a / b := by
  have e := Int.mul_tdiv_add_tmod a b
  have l := Int.lt_tmod_of_pos a (show 0 < b by omega)
  refine ((Int.ediv_emod_unique (r := a.tmod b + b) (q := a.tdiv b - 1) (show 0 < b by omega)).2 ⟨?_, by omega, by omega⟩).1.symm
  have : b * (a.tdiv b - 1) = b * a.tdiv b - b := by rw [Int.mul_sub]; simp
  omega
theorem tdiv_bd (a b : Int) (h1 : -1000000000000 ≤ a) (h2 : a ≤ 1000000000000) : -1000000000000 ≤ a.tdiv b ∧ a.tdiv b ≤ 1000000000000 := by
  have h := Int.natAbs_tdiv a b
  have h' : a.natAbs.div b.natAbs ≤ a.natAbs := Nat.div_le_self _ _
  rw [← h] at h'
  omega

set_option maxHeartbeats 400000 in
/-- floor(a, b) for b above 0. -/
theorem floor_any (a b : Int) (hb : 1 ≤ b) (h1 : -1000000000000 ≤ a) (h2 : a ≤ 1000000000000) (w : World) :
    Calls Tryz.prog 59 #[.int .i64 a, .int .i64 b] w fun e w' => e = .returned (.int .i64 (a / b)) ∧ w = w' := by
  have hd := tdiv_bd a b h1 h2
  obtain ⟨d1, d2⟩ := hd
  by_cases hm : a.tmod b < 0
  · have H := Lib.hid (floor_dn a b hb hm)
    go_enter Tryz.func59, Tryz.ntmps59
    go_wp2
    go_ret
    exact ⟨cal_int_ret H.out, rfl⟩
  · have H := Lib.hid (floor_up a b hb (by omega))
    go_enter Tryz.func59, Tryz.ntmps59
    go_wp2
    go_ret
    exact ⟨cal_int_ret H.out, rfl⟩

set_option maxHeartbeats 400000 in
/-- first(cal, year). -/
theorem first_any (c y : Int) (h1 : -20000 ≤ y) (h2 : y ≤ 20000) (w : World) :
    Calls Tryz.prog 31 #[.int .i64 c, .int .i64 y] w fun e w' => e = .returned (.int .i64 (Cal.first c y)) ∧ w = w' := by
  by_cases c1 : c = 1
  · subst c1
    go_enter Tryz.func31, Tryz.ntmps31
    go_wp2_with (go_at_call 59; refine (floor_any _ _ (by omega) (by omega) (by omega) _).mono ?_; rintro e w' ⟨rfl, rfl⟩)
    go_ret
    exact ⟨cal_int_ret (by unfold Cal.first; simp), rfl⟩
  by_cases c2 : c = 2
  · subst c2
    go_enter Tryz.func31, Tryz.ntmps31
    go_wp2_with (go_at_call 59; refine (floor_any _ _ (by omega) (by omega) (by omega) _).mono ?_; rintro e w' ⟨rfl, rfl⟩)
    go_ret
    exact ⟨cal_int_ret (by unfold Cal.first; simp), rfl⟩
  by_cases c4 : c = 4
  · subst c4
    go_enter Tryz.func31, Tryz.ntmps31
    go_wp2_with (go_at_call 59; refine (floor_any _ _ (by omega) (by omega) (by omega) _).mono ?_; rintro e w' ⟨rfl, rfl⟩)
    go_ret
    exact ⟨cal_int_ret (by unfold Cal.first; simp), rfl⟩
  by_cases c5 : c = 5
  · subst c5
    go_enter Tryz.func31, Tryz.ntmps31
    go_wp2_with (go_at_call 59; refine (floor_any _ _ (by omega) (by omega) (by omega) _).mono ?_; rintro e w' ⟨rfl, rfl⟩)
    go_ret
    exact ⟨cal_int_ret (by unfold Cal.first; simp), rfl⟩
  · go_enter Tryz.func31, Tryz.ntmps31
    go_wp2_with (go_at_call 59; refine (floor_any _ _ (by omega) (by omega) (by omega) _).mono ?_; rintro e w' ⟨rfl, rfl⟩)
    go_ret
    exact ⟨cal_int_ret (by unfold Cal.first; simp [c1, c2, c4, c5]), rfl⟩

theorem tmod_zero (y k : Int) : (y.tmod k == 0) = decide (y % k = 0) := by
  have h : y.tmod k = 0 ↔ y % k = 0 := by rw [← Int.dvd_iff_tmod_eq_zero, ← Int.dvd_iff_emod_eq_zero]
  rw [Bool.eq_iff_iff]; simp [h]
theorem tmod_nonzero (y k : Int) : (y.tmod k != 0) = !decide (y % k = 0) := by
  have h := tmod_zero y k
  simp only [bne, h]

set_option maxHeartbeats 400000 in
/-- leap(cal, year). -/
theorem leap_any (c y : Int) (w : World) :
    Calls Tryz.prog 60 #[.int .i64 c, .int .i64 y] w fun e w' => e = .returned (.bool (Cal.leap c y)) ∧ w = w' := by
  have e4 := tmod_zero y 4
  have e100 := tmod_zero y 100
  have n100 := tmod_nonzero y 100
  have e400 := tmod_zero y 400
  have g4 : ∃ b, decide (y % 4 = 0) = b := ⟨_, rfl⟩
  obtain ⟨a, ha⟩ := g4
  have g100 : ∃ b, decide (y % 100 = 0) = b := ⟨_, rfl⟩
  obtain ⟨b, hb⟩ := g100
  have g400 : ∃ b, decide (y % 400 = 0) = b := ⟨_, rfl⟩
  obtain ⟨d, hd⟩ := g400
  rw [ha] at e4; rw [hb] at e100 n100; rw [hd] at e400
  have hf : Cal.leap c y = if c = 1 then a && (!b || d) else if c = 2 then a else decide (c = 4) := by unfold Cal.leap; rw [ha, hb, hd]
  have HF := Lib.hid hf
  clear hf ha hb hd
  by_cases c1 : c = 1
  · subst c1
    cases a <;> cases b <;> cases d <;>
    (go_enter Tryz.func60, Tryz.ntmps60
     go_wp2
     go_ret
     exact ⟨cal_bool_ret (by rw [HF.out]; rfl), rfl⟩)
  by_cases c2 : c = 2
  · subst c2
    cases a <;>
    (go_enter Tryz.func60, Tryz.ntmps60
     go_wp2
     go_ret
     exact ⟨cal_bool_ret (by rw [HF.out]; rfl), rfl⟩)
  by_cases c4 : c = 4
  · subst c4
    (go_enter Tryz.func60, Tryz.ntmps60
     go_wp2
     go_ret
     exact ⟨cal_bool_ret (by rw [HF.out]; rfl), rfl⟩)
  · (go_enter Tryz.func60, Tryz.ntmps60
     go_wp2
     go_ret
     exact ⟨cal_bool_ret (by rw [HF.out]; simp [c1, c2, c4]), rfl⟩)

set_option maxHeartbeats 400000 in
/-- The reference's leap(cal, year). -/
theorem rleap_any (c y : Int) (w : World) :
    Calls Tryz.prog 66 #[.int .i64 c, .int .i64 y] w fun e w' => e = .returned (.bool (Cal.leap c y)) ∧ w = w' := by
  have e4 := tmod_zero y 4
  have e100 := tmod_zero y 100
  have n100 := tmod_nonzero y 100
  have e400 := tmod_zero y 400
  have m400 := Cal.mod4 y
  have g4 : ∃ b, decide (y % 4 = 0) = b := ⟨_, rfl⟩
  obtain ⟨a, ha⟩ := g4
  have g100 : ∃ b, decide (y % 100 = 0) = b := ⟨_, rfl⟩
  obtain ⟨b, hb⟩ := g100
  have g400 : ∃ b, decide (y % 400 = 0) = b := ⟨_, rfl⟩
  obtain ⟨d, hd⟩ := g400
  rw [ha] at e4; rw [hb] at e100 n100; rw [hd] at e400
  have hda : d = true → a = true := by
    intro hd1; subst hd1; rw [← ha]; have := m400 (by simpa using hd); simp [this]
  have hf : Cal.leap c y = if c = 1 then a && (!b || d) else if c = 2 then a else decide (c = 4) := by unfold Cal.leap; rw [ha, hb, hd]
  have HF := Lib.hid hf
  clear hf ha hb hd m400
  by_cases c1 : c = 1
  · subst c1
    cases d
    · clear hda
      cases a <;> cases b <;>
      (go_enter Tryz.func66, Tryz.ntmps66
       go_wp2
       go_ret
       exact ⟨cal_bool_ret (by rw [HF.out]; rfl), rfl⟩)
    · obtain rfl := hda rfl
      clear hda
      (go_enter Tryz.func66, Tryz.ntmps66
       go_wp2
       go_ret
       exact ⟨cal_bool_ret (by rw [HF.out]; simp), rfl⟩)
  clear hda
  by_cases c2 : c = 2
  · subst c2
    cases a <;>
    (go_enter Tryz.func66, Tryz.ntmps66
     go_wp2
     go_ret
     exact ⟨cal_bool_ret (by rw [HF.out]; rfl), rfl⟩)
  by_cases c4 : c = 4
  · subst c4
    (go_enter Tryz.func66, Tryz.ntmps66
     go_wp2
     go_ret
     exact ⟨cal_bool_ret (by rw [HF.out]; rfl), rfl⟩)
  · (go_enter Tryz.func66, Tryz.ntmps66
     go_wp2
     go_ret
     exact ⟨cal_bool_ret (by rw [HF.out]; simp [c1, c2, c4]), rfl⟩)

theorem mlen_30 (c y m : Int) (h : m = 4 ∨ m = 6 ∨ m = 9 ∨ m = 11) : Cal.mlen c y m = 30 := by unfold Cal.mlen; rw [if_pos h]; split <;> rfl

set_option maxHeartbeats 800000 in
/-- The reference's days(cal, year, month). -/
theorem rdays_any (c y m : Int) (w : World) :
    Calls Tryz.prog 44 #[.int .i64 c, .int .i64 y, .int .i64 m] w fun e w' => e = .returned (.int .i64 (Cal.mlen c y m)) ∧ w = w' := by
  by_cases c5 : c = 5
  · subst c5
    go_enter Tryz.func44, Tryz.ntmps44
    go_wp2
    go_ret
    exact ⟨cal_int_ret (by unfold Cal.mlen; simp), rfl⟩
  by_cases hm : m = 4 ∨ m = 6 ∨ m = 9 ∨ m = 11
  · rcases hm with rfl | rfl | rfl | rfl <;>
    (go_enter Tryz.func44, Tryz.ntmps44
     go_wp2
     go_ret
     exact ⟨cal_int_ret (mlen_30 _ _ _ (by omega)).symm, rfl⟩)
  have n4 : m ≠ 4 := by omega
  have n6 : m ≠ 6 := by omega
  have n9 : m ≠ 9 := by omega
  have n11 : m ≠ 11 := by omega
  clear hm
  by_cases m2 : m = 2
  · subst m2
    cases hl : Cal.leap c y
    · have HL := Lib.hid hl
      have C := fun w => rleap_any c y w
      rw [hl] at C
      clear hl
      go_enter Tryz.func44, Tryz.ntmps44
      go_wp2_with (go_at_call 66; refine (C _).mono ?_; rintro e w' ⟨rfl, rfl⟩)
      go_ret
      exact ⟨cal_int_ret (by unfold Cal.mlen; simp [c5, HL.out]), rfl⟩
    · have HL := Lib.hid hl
      have C := fun w => rleap_any c y w
      rw [hl] at C
      clear hl
      go_enter Tryz.func44, Tryz.ntmps44
      go_wp2_with (go_at_call 66; refine (C _).mono ?_; rintro e w' ⟨rfl, rfl⟩)
      go_ret
      exact ⟨cal_int_ret (by unfold Cal.mlen; simp [c5, HL.out]), rfl⟩
  · go_enter Tryz.func44, Tryz.ntmps44
    go_wp2
    go_ret
    exact ⟨cal_int_ret (by unfold Cal.mlen; simp [c5, n4, n6, n9, n11, m2]), rfl⟩

end Go.Proofs.YtnjjkcnokkhlkaaGreatDoor
