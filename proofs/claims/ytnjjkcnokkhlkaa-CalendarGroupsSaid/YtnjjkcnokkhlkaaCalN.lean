/- The walks of the calendar's functions, part N: fields, Field and Key of the program. -/
import Derived.Test.YtnjjkcnokkhlkaaCalJ
namespace Go.Proofs.Ytnjjkcnokkhlkaa
open Go.RowKit

/-- The first error of Field and Key. -/
def fe (c n f : Int) : Int := if kn c = false then 20 else if f < 1 ∨ 4 < f then 22 else if Cal.has c n = false then 21 else 0
def seas (m : Int) : Int := m % 12 / 3 + 1
/-- The field and the key of a day number. -/
def fv (c n f : Int) : Int := if fe c n f ≠ 0 then 0 else if f = 1 then Cal.dY c n else if f = 2 then Cal.dM c n else if f = 3 then seas (Cal.dM c n) else Cal.dD c n + Cal.cum c (Cal.dY c n) (Cal.dM c n)
def kv (c n f : Int) : Int := if fe c n f ≠ 0 then 0 else if f = 1 then Cal.dY c n else if f = 2 then 12 * Cal.dY c n + Cal.dM c n - 1 else if f = 3 then 4 * (Cal.dY c n + Cal.dM c n / 12) + seas (Cal.dM c n) - 1 else n

theorem fe_cases (c n f : Int) : (kn c = false ∧ fe c n f = 20) ∨ (kn c = true ∧ (f < 1 ∨ 4 < f) ∧ fe c n f = 22) ∨ (kn c = true ∧ 1 ≤ f ∧ f ≤ 4 ∧ Cal.has c n = false ∧ fe c n f = 21) ∨ (kn c = true ∧ 1 ≤ f ∧ f ≤ 4 ∧ Cal.has c n = true ∧ fe c n f = 0) := by
  unfold fe
  cases kn c
  · simp
  · by_cases h : f < 1 ∨ 4 < f
    · simp [h]
    · cases Cal.has c n
      · simp [h]; omega
      · simp [h]; omega
theorem fv_no {c n f : Int} (h : fe c n f ≠ 0) : fv c n f = 0 ∧ kv c n f = 0 := by unfold fv kv; simp [h]
theorem date_bd {c n : Int} (h : Cal.has c n = true) : -9999 ≤ Cal.dY c n ∧ Cal.dY c n ≤ 9999 ∧ 1 ≤ Cal.dM c n ∧ Cal.dM c n ≤ 12 ∧ 1 ≤ Cal.dD c n ∧ Cal.dD c n ≤ 31 := by
  have s := (Cal.date_spec c n ((Cal.has_iff c n).1 h)).1
  exact vld_bd ((Cal.vld_iff _ _ _ _).2 s)
theorem dke_of {c n : Int} (hk : kn c = true) : (Cal.has c n = false → dke c n = 21 ∧ dvY c n = 0 ∧ dvM c n = 0 ∧ dvD c n = 0) ∧ (Cal.has c n = true → dke c n = 0 ∧ dvY c n = Cal.dY c n ∧ dvM c n = Cal.dM c n ∧ dvD c n = Cal.dD c n) := by
  constructor <;> intro h
  · have hd : dke c n = 21 := by unfold dke; simp [hk, h]
    exact ⟨hd, dv_no (by omega)⟩
  · have hd : dke c n = 0 := by unfold dke; simp [hk, h]
    exact ⟨hd, dv_yes hd⟩

theorem cal_three_ret {k l p : IntKind} {a b c d e f : Int} (h : a = b) (h' : c = d) (h'' : e = f) : Ending.returned (.tuple #[.int k a, .int l c, .int p e]) = .returned (.tuple #[.int k b, .int l d, .int p f]) := by rw [h, h', h'']

set_option maxHeartbeats 400000 in
theorem season_any (m : Int) (_h1 : 1 ≤ m) (_h2 : m ≤ 12) (w : World) : Calls Try.prog 74 #[.int .i64 m] w fun e w' => e = .returned (.int .i64 (seas m)) ∧ w = w' := by
  go_enter Try.func74, Try.ntmps74
  go_wp2
  go_ret
  exact ⟨rfl, rfl⟩
set_option maxHeartbeats 400000 in
theorem rseason_any (m : Int) (_h1 : 1 ≤ m) (_h2 : m ≤ 12) (w : World) : Calls Try.prog 68 #[.int .i64 m] w fun e w' => e = .returned (.int .i64 (seas m)) ∧ w = w' := by
  go_enter Try.func68, Try.ntmps68
  go_wp2
  go_ret
  exact ⟨rfl, rfl⟩
theorem seas_bd (m : Int) (_h1 : 1 ≤ m) (_h2 : m ≤ 12) : 1 ≤ seas m ∧ seas m ≤ 4 := by unfold seas; omega

set_option maxRecDepth 100000 in
set_option maxHeartbeats 1600000 in
theorem fields_any (c n f : Int) (w : World) :
    Calls Try.prog 66 #[.int .i64 c, .int .i64 n, .int .i64 f] w fun e w' => e = .returned (.tuple #[.int .i64 (fv c n f), .int .i64 (kv c n f), .int .i64 (fe c n f)]) ∧ Below w.heap.size w w' := by
  have K := fun w => known_any c w
  have D := fun w => DateOf_any c n w
  rcases fe_cases c n f with ⟨hk, he⟩ | ⟨hk, hf, he⟩ | ⟨hk, hf1, hf2, hh, he⟩ | ⟨hk, hf1, hf2, hh, he⟩
  · obtain ⟨h1, h2⟩ := fv_no (show fe c n f ≠ 0 by omega)
    rw [h1, h2, he]
    rw [hk] at K
    clear hk he h1 h2 D
    go_enter Try.func66, Try.ntmps66
    go_wp2_with (go_at_call 50; refine (K _).mono ?_; rintro e w' ⟨rfl, rfl⟩)
    go_ret3
    exact ⟨rfl, Below.refl _ _⟩
  · obtain ⟨h1, h2⟩ := fv_no (show fe c n f ≠ 0 by omega)
    rw [h1, h2, he]
    rw [hk] at K
    clear hk he h1 h2 D
    by_cases h : f < 1
    · clear hf
      go_enter Try.func66, Try.ntmps66
      go_wp2_with (go_at_call 50; refine (K _).mono ?_; rintro e w' ⟨rfl, rfl⟩)
      go_ret3
      exact ⟨rfl, Below.refl _ _⟩
    · have h' : 4 < f := by omega
      clear hf
      go_enter Try.func66, Try.ntmps66
      go_wp2_with (go_at_call 50; refine (K _).mono ?_; rintro e w' ⟨rfl, rfl⟩)
      go_ret3
      exact ⟨rfl, Below.refl _ _⟩
  · obtain ⟨h1, h2⟩ := fv_no (show fe c n f ≠ 0 by omega)
    obtain ⟨e0, e1, e2, e3⟩ := (dke_of hk).1 hh
    rw [e0, e1, e2, e3] at D
    rw [h1, h2, he]
    rw [hk] at K
    clear hk he h1 h2 hh e0 e1 e2 e3
    go_enter Try.func66, Try.ntmps66
    go_wp2_with (first | (go_at_call 50; refine (K _).mono ?_; rintro e w' ⟨rfl, rfl⟩) | (go_at_call 17; refine (D _).mono ?_; rintro e w1 ⟨rfl, hb1⟩))
    go_ret3
    exact ⟨rfl, by (repeat (first | exact Below.refl _ _ | assumption | refine below_drewN ?_ _ | refine Below.drew ?_ | refine btrans ?_ (by assumption) | refine below_alloc ?_ _ | refine Below.setCell ?_ (by simp <;> omega) _ | refine Below.alloc ?_ (by simp <;> omega) _ | refine Below.setCell ?_ (by simp) _ | refine Below.alloc ?_ (by simp) _))⟩
  · obtain ⟨e0, e1, e2, e3⟩ := (dke_of hk).2 hh
    obtain ⟨y1, y2, m1, m2, d1, d2⟩ := date_bd hh
    have sb := seas_bd (Cal.dM c n) m1 m2
    have cb := Cal.cum_bd c (Cal.dY c n) (Cal.dM c n) m1 (by omega)
    rw [e0, e1, e2, e3] at D
    rw [he]
    rw [hk] at K
    have HF := Lib.hid (show fv c n f = if f = 1 then Cal.dY c n else if f = 2 then Cal.dM c n else if f = 3 then seas (Cal.dM c n) else Cal.dD c n + Cal.cum c (Cal.dY c n) (Cal.dM c n) by unfold fv; rw [he]; simp)
    have HK := Lib.hid (show kv c n f = if f = 1 then Cal.dY c n else if f = 2 then 12 * Cal.dY c n + Cal.dM c n - 1 else if f = 3 then 4 * (Cal.dY c n + Cal.dM c n / 12) + seas (Cal.dM c n) - 1 else n by unfold kv; rw [he]; simp)
    clear hk he hh e0 e1 e2 e3
    generalize Cal.dY c n = y at *
    generalize Cal.dM c n = m at *
    generalize Cal.dD c n = d at *
    have hff : f = 1 ∨ f = 2 ∨ f = 3 ∨ f = 4 := by omega
    rcases hff with rfl | rfl | rfl | rfl
    · go_enter Try.func66, Try.ntmps66
      go_wp2_with (first | (go_at_call 50; refine (K _).mono ?_; rintro e w' ⟨rfl, rfl⟩) | (go_at_call 17; refine (D _).mono ?_; rintro e w1 ⟨rfl, hb1⟩))
      go_quiet (fail)
      go_wp2
      go_ret3
      exact ⟨cal_three_ret (by rw [HF.out]; rfl) (by rw [HK.out]; rfl) rfl, by (repeat (first | exact Below.refl _ _ | assumption | refine below_drewN ?_ _ | refine Below.drew ?_ | refine btrans ?_ (by assumption) | refine below_alloc ?_ _ | refine Below.setCell ?_ (by simp <;> omega) _ | refine Below.alloc ?_ (by simp <;> omega) _ | refine Below.setCell ?_ (by simp) _ | refine Below.alloc ?_ (by simp) _))⟩
    · go_enter Try.func66, Try.ntmps66
      go_wp2_with (first | (go_at_call 50; refine (K _).mono ?_; rintro e w' ⟨rfl, rfl⟩) | (go_at_call 17; refine (D _).mono ?_; rintro e w1 ⟨rfl, hb1⟩))
      go_quiet (fail)
      go_wp2
      go_ret3
      exact ⟨cal_three_ret (by rw [HF.out]; rfl) (by rw [HK.out]; rfl) rfl, by (repeat (first | exact Below.refl _ _ | assumption | refine below_drewN ?_ _ | refine Below.drew ?_ | refine btrans ?_ (by assumption) | refine below_alloc ?_ _ | refine Below.setCell ?_ (by simp <;> omega) _ | refine Below.alloc ?_ (by simp <;> omega) _ | refine Below.setCell ?_ (by simp) _ | refine Below.alloc ?_ (by simp) _))⟩
    · go_enter Try.func66, Try.ntmps66
      go_wp2_with (first | (go_at_call 50; refine (K _).mono ?_; rintro e w' ⟨rfl, rfl⟩) | (go_at_call 17; refine (D _).mono ?_; rintro e w1 ⟨rfl, hb1⟩) | (go_at_call 74; refine (season_any _ (by omega) (by omega) _).mono ?_; rintro e w' ⟨rfl, rfl⟩))
      go_quiet (fail)
      go_wp2
      go_ret3
      exact ⟨cal_three_ret (by rw [HF.out]; rfl) (by rw [HK.out]; rfl) rfl, by (repeat (first | exact Below.refl _ _ | assumption | refine below_drewN ?_ _ | refine Below.drew ?_ | refine btrans ?_ (by assumption) | refine below_alloc ?_ _ | refine Below.setCell ?_ (by simp <;> omega) _ | refine Below.alloc ?_ (by simp <;> omega) _ | refine Below.setCell ?_ (by simp) _ | refine Below.alloc ?_ (by simp) _))⟩
    · go_enter Try.func66, Try.ntmps66
      go_wp2_with (first | (go_at_call 50; refine (K _).mono ?_; rintro e w' ⟨rfl, rfl⟩) | (go_at_call 17; refine (D _).mono ?_; rintro e w1 ⟨rfl, hb1⟩) | (go_at_call 48; refine (ordinal_any _ _ _ _ (by omega) (by omega) (by omega) (by omega) _).mono ?_; rintro e w2 ⟨rfl, hb2⟩))
      go_ret3
      exact ⟨cal_three_ret (by rw [HF.out]; rfl) (by rw [HK.out]; rfl) rfl, by (repeat (first | exact Below.refl _ _ | assumption | refine below_drewN ?_ _ | refine Below.drew ?_ | refine btrans ?_ (by assumption) | refine below_alloc ?_ _ | refine Below.setCell ?_ (by simp <;> omega) _ | refine Below.alloc ?_ (by simp <;> omega) _ | refine Below.setCell ?_ (by simp) _ | refine Below.alloc ?_ (by simp) _))⟩

set_option maxHeartbeats 400000 in
theorem Field_any (c n f : Int) (w : World) :
    Calls Try.prog 39 #[.int .i64 c, .int .i64 n, .int .i64 f] w fun e w' => e = .returned (.tuple #[.int .i64 (fv c n f), .int .i64 (fe c n f)]) ∧ Below w.heap.size w w' := by
  go_enter Try.func39, Try.ntmps39
  go_wp2_with (go_at_call 66; refine (fields_any _ _ _ _).mono ?_; rintro e w1 ⟨rfl, hb1⟩)
  go_ret2
  exact ⟨rfl, hb1⟩
set_option maxHeartbeats 400000 in
theorem Key_any (c n f : Int) (w : World) :
    Calls Try.prog 41 #[.int .i64 c, .int .i64 n, .int .i64 f] w fun e w' => e = .returned (.tuple #[.int .i64 (kv c n f), .int .i64 (fe c n f)]) ∧ Below w.heap.size w w' := by
  go_enter Try.func41, Try.ntmps41
  go_wp2_with (go_at_call 66; refine (fields_any _ _ _ _).mono ?_; rintro e w1 ⟨rfl, hb1⟩)
  go_ret2
  exact ⟨rfl, hb1⟩

end Go.Proofs.Ytnjjkcnokkhlkaa
