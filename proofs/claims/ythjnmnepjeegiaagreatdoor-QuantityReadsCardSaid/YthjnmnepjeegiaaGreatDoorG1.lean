/- Plain laws of numbers in limbs of nine decimal digits: digits, their count, sums of limbs, and one step of each loop over limbs. No program. Plain laws of long division and of the greatest common divisor. No program. Plain laws of rational numbers by sign, numerator and denominator. No program. Plain laws of strings: splitting at one byte; rows of digits; their numbers; numerals of a given length. No program. Plain laws of decimal texts: the digits of a number, canonical rows of digits. No program. Slices of limbs: a slice whose cells are a function of the index; rows of the call's own. trim of the program and of the reference. short and scale of the program, small of the reference. Zero, One and Add of the program; small of the reference. Small of the program, NatOf of the reference; rows of limbs made by append. NatMul of the reference, Mul of the program. Mul of the program at 0 and 1, and whole; slices.Clone at limbs. slices.Clone at limbs. Sub of the program. -/
import Derived.Test.YthjnmnepjeegiaaGreatDoorProg
import Derived.Lib.Split
import Derived.Lib.SlTrimSet
import Derived.Lib.Atoi
import Derived.Lib.ItoaNum
import Derived.Lib.Repeat
import Derived.WalkKit
import Derived.WalkSpells
import Derived.WalkLawsBesides
import Derived.Lib.Hide
import Derived.Deep.QuietTactic
import Derived.BigQuiet
import Derived.Below
import Derived.Deep.OwnRows
import Derived.Laws.OwnMore
import Derived.Maps.AppendAt
import Derived.OwnWalk
import Derived.IntWalk
/- Plain laws of numbers in limbs of nine decimal digits: digits, their count, sums of limbs, and one step of each loop over limbs. No program. -/
namespace Go.Proofs.YthjnmnepjeegiaaGreatDoor.Dg

/-- The weight of limb i. -/
def pw (i : Nat) : Nat := 1000000000 ^ i
/-- Limb j of a. -/
def dg (a j : Nat) : Nat := a / pw j % 1000000000
/-- The number of limbs. -/
def nd (a : Nat) : Nat := if h : a = 0 then 0 else nd (a / 1000000000) + 1
termination_by a
decreasing_by omega

theorem pw_zero : pw 0 = 1 := rfl
theorem pw_succ (i : Nat) : pw (i + 1) = 1000000000 * pw i := by unfold pw; rw [Nat.pow_succ, Nat.mul_comm]
theorem pw_pos (i : Nat) : 0 < pw i := Nat.pow_pos (by decide)
theorem pw_add (i j : Nat) : pw (i + j) = pw i * pw j := Nat.pow_add _ _ _
theorem pw_le {i j : Nat} (h : i ≤ j) : pw i ≤ pw j := Nat.pow_le_pow_right (by decide) h
theorem pw_lt {i j : Nat} (h : pw i < pw j) : i < j := by
  rcases Nat.lt_or_ge i j with h1 | h1
  · exact h1
  · have := pw_le h1; omega

theorem dg_lt (a j : Nat) : dg a j < 1000000000 := Nat.mod_lt _ (by decide)
theorem div_succ (a i : Nat) : a / pw (i + 1) = a / pw i / 1000000000 := by rw [pw_succ, Nat.mul_comm, Nat.div_div_eq_div_mul]
theorem div_split (a i : Nat) : a / pw i = 1000000000 * (a / pw (i + 1)) + dg a i := by rw [div_succ]; unfold dg; omega
theorem mod_succ (a i : Nat) : a % pw (i + 1) = a % pw i + dg a i * pw i := by
  rw [pw_succ, Nat.mul_comm, Nat.mod_mul, Nat.mul_comm (pw i)]; rfl

theorem nd_zero : nd 0 = 0 := by unfold nd; simp
theorem nd_pos {a : Nat} (h : a ≠ 0) : nd a = nd (a / 1000000000) + 1 := by rw [nd]; simp [h]
theorem nd_eq_zero {a : Nat} : nd a = 0 ↔ a = 0 := by
  constructor
  · intro h
    by_cases h0 : a = 0
    · exact h0
    · rw [nd_pos h0] at h; omega
  · rintro rfl; exact nd_zero

theorem lt_pw_nd (a : Nat) : a < pw (nd a) := by
  induction a using Nat.strongRecOn with
  | ind a ih =>
    by_cases h0 : a = 0
    · subst h0; rw [nd_zero]; decide
    · rw [nd_pos h0, pw_succ]
      have := ih (a / 1000000000) (by omega)
      omega

theorem pw_le_nd {a : Nat} (h : a ≠ 0) : pw (nd a - 1) ≤ a := by
  induction a using Nat.strongRecOn with
  | ind a ih =>
    rw [nd_pos h, Nat.add_sub_cancel]
    by_cases h1 : a / 1000000000 = 0
    · rw [h1, nd_zero, pw_zero]; omega
    · have := ih (a / 1000000000) (by omega) h1
      have e := nd_pos h1
      have h2 : nd (a / 1000000000) = (nd (a / 1000000000) - 1) + 1 := by omega
      rw [h2, pw_succ]
      omega

theorem nd_le {a n : Nat} (h : a < pw n) : nd a ≤ n := by
  by_cases h0 : a = 0
  · subst h0; rw [nd_zero]; omega
  · have := pw_le_nd h0
    have := pw_lt (Nat.lt_of_le_of_lt this h)
    omega
theorem lt_of_nd {a b : Nat} (h : nd a < nd b) : a < b := by
  have hb : b ≠ 0 := by rintro rfl; rw [nd_zero] at h; omega
  have h1 := lt_pw_nd a
  have h2 := pw_le_nd hb
  have h3 : pw (nd a) ≤ pw (nd b - 1) := pw_le (by omega)
  omega
theorem nd_mono {a b : Nat} (h : a ≤ b) : nd a ≤ nd b := nd_le (by have := lt_pw_nd b; omega)
theorem dg_zero {a j : Nat} (h : nd a ≤ j) : dg a j = 0 := by
  have h1 := lt_pw_nd a
  have h2 := pw_le h
  unfold dg
  rw [Nat.div_eq_of_lt (by omega)]
theorem div_zero {a j : Nat} (h : nd a ≤ j) : a / pw j = 0 := by
  have h1 := lt_pw_nd a
  have h2 := pw_le h
  exact Nat.div_eq_of_lt (by omega)
theorem mod_all {a j : Nat} (h : nd a ≤ j) : a % pw j = a := by
  have h1 := lt_pw_nd a
  have h2 := pw_le h
  exact Nat.mod_eq_of_lt (by omega)
theorem dg_top {a : Nat} (h : a ≠ 0) : dg a (nd a - 1) ≠ 0 := by
  have e : nd a = (nd a - 1) + 1 := by have := nd_pos h; omega
  have h1 := div_split a (nd a - 1)
  rw [← e, div_zero (Nat.le_refl _)] at h1
  have h2 := pw_le_nd h
  have h3 : 1 ≤ a / pw (nd a - 1) := (Nat.le_div_iff_mul_le (pw_pos _)).2 (by omega)
  omega
theorem dg_top_is {a : Nat} (h : a ≠ 0) : dg a (nd a - 1) = a / pw (nd a - 1) := by
  have e : nd a = (nd a - 1) + 1 := by have := nd_pos h; omega
  have h1 := div_split a (nd a - 1)
  rw [← e, div_zero (Nat.le_refl _)] at h1
  omega

/-- The sum of the first n limbs. -/
def sumTo (o : Nat → Nat) : Nat → Nat
  | 0 => 0
  | n + 1 => sumTo o n + o n * pw n

theorem sumTo_congr {o o' : Nat → Nat} : ∀ {n : Nat}, (∀ j, j < n → o j = o' j) → sumTo o n = sumTo o' n
  | 0, _ => rfl
  | n + 1, h => by simp only [sumTo]; rw [sumTo_congr (fun j hj => h j (by omega)), h n (by omega)]
theorem sumTo_lt {o : Nat → Nat} : ∀ {n : Nat}, (∀ j, j < n → o j < 1000000000) → sumTo o n < pw n
  | 0, _ => by simp [sumTo, pw_zero]
  | n + 1, h => by
    have h1 := sumTo_lt (n := n) (fun j hj => h j (by omega))
    have h2 := h n (by omega)
    have h3 : o n * pw n ≤ 999999999 * pw n := Nat.mul_le_mul_right _ (by omega)
    simp only [sumTo]; rw [pw_succ]; omega
theorem sumTo_dg (a : Nat) : ∀ n, sumTo (dg a) n = a % pw n
  | 0 => by simp [sumTo, pw_zero, Nat.mod_one]
  | n + 1 => by simp only [sumTo]; rw [sumTo_dg a n, mod_succ]
theorem sumTo_zero {o : Nat → Nat} : ∀ {n : Nat}, (∀ j, j < n → o j = 0) → sumTo o n = 0
  | 0, _ => rfl
  | n + 1, h => by simp only [sumTo]; rw [sumTo_zero (fun j hj => h j (by omega)), h n (by omega)]; simp
theorem sumTo_cut {o : Nat → Nat} {k : Nat} : ∀ {n : Nat}, k ≤ n → (∀ j, k ≤ j → j < n → o j = 0) → sumTo o n = sumTo o k
  | 0, hk, _ => by have : k = 0 := by omega
                   subst this; rfl
  | n + 1, hk, h => by
    by_cases e : k = n + 1
    · subst e; rfl
    · simp only [sumTo]; rw [sumTo_cut (n := n) (by omega) (fun j h1 h2 => h j h1 (by omega)), h n (by omega) (by omega)]; simp

/-- A limb changed. -/
def upd (o : Nat → Nat) (i v : Nat) : Nat → Nat := fun j => if j = i then v else o j
theorem upd_at (o : Nat → Nat) (i v : Nat) : upd o i v i = v := by simp [upd]
theorem upd_ne (o : Nat → Nat) {i j : Nat} (v : Nat) (h : j ≠ i) : upd o i v j = o j := by simp [upd, h]
theorem sumTo_upd_out (o : Nat → Nat) {i n : Nat} (v : Nat) (h : n ≤ i) : sumTo (upd o i v) n = sumTo o n := sumTo_congr fun j hj => upd_ne o v (by omega)
theorem sumTo_upd (o : Nat → Nat) {i : Nat} (v : Nat) : ∀ {n : Nat}, i < n → sumTo (upd o i v) n + o i * pw i = sumTo o n + v * pw i
  | 0, h => by omega
  | n + 1, h => by
    simp only [sumTo]
    by_cases e : i = n
    · subst e; rw [upd_at, sumTo_upd_out o v (Nat.le_refl _)]; omega
    · rw [upd_ne o v (by omega)]
      have := sumTo_upd o v (n := n) (i := i) (by omega)
      omega

theorem dg_sumTo {o : Nat → Nat} : ∀ {n : Nat}, (∀ j, j < n → o j < 1000000000) → ∀ j, j < n → dg (sumTo o n) j = o j
  | 0, _, _, h => by omega
  | n + 1, h, j, hj => by
    have hs := sumTo_lt (n := n) (fun j hj => h j (by omega))
    by_cases e : j = n
    · subst e
      unfold dg
      simp only [sumTo]
      rw [Nat.add_mul_div_right _ _ (pw_pos _), Nat.div_eq_of_lt hs, Nat.zero_add]
      exact Nat.mod_eq_of_lt (h j (by omega))
    · have ih := dg_sumTo (n := n) (fun j hj => h j (by omega)) j (by omega)
      have h1 : sumTo o (n + 1) % pw n = sumTo o n := by
        simp only [sumTo]; rw [Nat.add_mul_mod_self_right, Nat.mod_eq_of_lt hs]
      rw [← ih]
      -- digit j of x and of x % pw n agree for j < n
      have key : ∀ x : Nat, dg (x % pw n) j = dg x j := by
        intro x
        have hp : pw n = pw (j + 1) * pw (n - (j + 1)) := by rw [← pw_add]; congr 1; omega
        have h2 : x % pw n % pw (j + 1) = x % pw (j + 1) := by rw [hp]; exact Nat.mod_mul_right_mod _ _ _
        have d : ∀ y : Nat, dg y j = y % pw (j + 1) / pw j := by
          intro y
          rw [mod_succ, Nat.add_mul_div_right _ _ (pw_pos _), Nat.div_eq_of_lt (Nat.mod_lt _ (pw_pos _)), Nat.zero_add]
        rw [d, d, h2]
      rw [← key (sumTo o (n + 1)), h1]

/-- What trim finds is the number in its own limbs. -/
theorem trim_nd {o : Nat → Nat} {n k : Nat} (hb : ∀ j, j < n → o j < 1000000000) (hk : k ≤ n) (hz : ∀ j, k ≤ j → j < n → o j = 0) (ht : k = 0 ∨ o (k - 1) ≠ 0) : nd (sumTo o n) = k := by
  have hb' : ∀ j, j < k → o j < 1000000000 := fun j hj => hb j (by omega)
  rw [sumTo_cut hk hz]
  have h1 := nd_le (sumTo_lt hb')
  rcases ht with rfl | ht
  · simp [sumTo, nd_zero]
  · by_cases hk0 : k = 0
    · subst hk0; simp [sumTo, nd_zero]
    · rcases Nat.lt_or_ge (nd (sumTo o k)) k with h2 | h2
      · have h3 := dg_sumTo hb' (k - 1) (by omega)
        rw [dg_zero (by omega)] at h3
        exact absurd h3.symm ht
      · omega
theorem trim_dg {o : Nat → Nat} {n j : Nat} (hb : ∀ j, j < n → o j < 1000000000) (hj : j < n) : dg (sumTo o n) j = o j := dg_sumTo hb j hj

/-- Comparison from the top. -/
theorem cmp_step {a b i : Nat} (h : a / pw (i + 1) = b / pw (i + 1)) (hd : dg a i < dg b i) : a < b := by
  have h1 := div_split a i
  have h2 := div_split b i
  have h3 : a / pw i < b / pw i := by omega
  rcases Nat.lt_or_ge a b with h4 | h4
  · exact h4
  · have := Nat.div_le_div_right (c := pw i) h4; omega
theorem cmp_same {a b i : Nat} (h : a / pw (i + 1) = b / pw (i + 1)) (hd : dg a i = dg b i) : a / pw i = b / pw i := by
  rw [div_split a i, div_split b i, h, hd]
theorem cmp_end {a b : Nat} (h : a / pw 0 = b / pw 0) : a = b := by simpa [pw_zero] using h

/-- A step of addition: o is what is written, c the carry before, c' the one after. -/
theorem add_step {s a b i c c' o : Nat} (h : s + c * pw i = a % pw i + b % pw i) (ho : o + 1000000000 * c' = dg a i + dg b i + c) :
    s + o * pw i + c' * pw (i + 1) = a % pw (i + 1) + b % pw (i + 1) := by
  rw [mod_succ, mod_succ, pw_succ]
  have : (o + 1000000000 * c') * pw i = (dg a i + dg b i + c) * pw i := by rw [ho]
  simp only [Nat.add_mul] at this
  have e : 1000000000 * c' * pw i = c' * (1000000000 * pw i) := by rw [Nat.mul_comm 1000000000 c', Nat.mul_assoc]
  omega
/-- A step of subtraction. -/
theorem sub_step {s a b i c c' o : Nat} (h : s + b % pw i = a % pw i + c * pw i) (ho : o + dg b i + c = dg a i + 1000000000 * c') :
    s + o * pw i + b % pw (i + 1) = a % pw (i + 1) + c' * pw (i + 1) := by
  rw [mod_succ, mod_succ, pw_succ]
  have : (o + dg b i + c) * pw i = (dg a i + 1000000000 * c') * pw i := by rw [ho]
  simp only [Nat.add_mul] at this
  have e : 1000000000 * c' * pw i = c' * (1000000000 * pw i) := by rw [Nat.mul_comm 1000000000 c', Nat.mul_assoc]
  omega
/-- A step of the product with a small number. -/
theorem scale_step {s a n i c c' o : Nat} (h : s + c * pw i = a % pw i * n) (ho : o + 1000000000 * c' = dg a i * n + c) :
    s + o * pw i + c' * pw (i + 1) = a % pw (i + 1) * n := by
  rw [mod_succ, pw_succ]
  have : (o + 1000000000 * c') * pw i = (dg a i * n + c) * pw i := by rw [ho]
  simp only [Nat.add_mul] at this ⊢
  have e : 1000000000 * c' * pw i = c' * (1000000000 * pw i) := by rw [Nat.mul_comm 1000000000 c', Nat.mul_assoc]
  have e2 : dg a i * n * pw i = dg a i * pw i * n := Nat.mul_right_comm _ _ _
  omega
/-- A step of the inner loop of a product: position i + j of the row goes from o0 to o; x is limb i of a. -/
theorem mul_step {s s' T b i j x c c' o o0 : Nat} (h : s + c * pw (i + j) = T + x * pw i * (b % pw j)) (hs : s' + o0 * pw (i + j) = s + o * pw (i + j))
    (ho : o + 1000000000 * c' = x * dg b j + o0 + c) :
    s' + c' * pw (i + (j + 1)) = T + x * pw i * (b % pw (j + 1)) := by
  rw [mod_succ, ← Nat.add_assoc i j 1, pw_succ]
  have h1 : (o + 1000000000 * c') * pw (i + j) = (x * dg b j + o0 + c) * pw (i + j) := by rw [ho]
  simp only [Nat.add_mul, Nat.mul_add] at h1 ⊢
  have e : 1000000000 * c' * pw (i + j) = c' * (1000000000 * pw (i + j)) := by rw [Nat.mul_comm 1000000000 c', Nat.mul_assoc]
  have e2 : x * dg b j * pw (i + j) = x * pw i * (dg b j * pw j) := by rw [pw_add]; ac_rfl
  omega
/-- The end of a row of a product. -/
theorem mul_row {a b i : Nat} : a % pw i * b + dg a i * pw i * b = a % pw (i + 1) * b := by rw [mod_succ, Nat.add_mul]

/-- A step of the short division: r the rest before. -/
theorem short_step {a n i r : Nat} (hn : 0 < n) (h : r = a / pw (i + 1) % n) :
    (r * 1000000000 + dg a i) / n % 1000000000 = dg (a / n) i ∧ (r * 1000000000 + dg a i) / n < 1000000000 ∧ (r * 1000000000 + dg a i) % n = a / pw i % n := by
  have e := div_split a i
  have hr : r < n := by rw [h]; exact Nat.mod_lt _ hn
  have hd := dg_lt a i
  have q : a / pw (i + 1) = n * (a / pw (i + 1) / n) + r := by rw [h]; exact (Nat.div_add_mod _ _).symm
  generalize a / pw (i + 1) / n = t at q
  have e2 : a / pw i = r * 1000000000 + dg a i + n * (1000000000 * t) := by
    rw [e, q, Nat.mul_add, ← Nat.mul_assoc, Nat.mul_comm 1000000000 n, Nat.mul_assoc]; omega
  have hlt : (r * 1000000000 + dg a i) / n < 1000000000 := by
    rw [Nat.div_lt_iff_lt_mul hn]
    have : (r + 1) * 1000000000 ≤ n * 1000000000 := Nat.mul_le_mul_right _ hr
    omega
  refine ⟨?_, hlt, ?_⟩
  · show _ = a / n / pw i % 1000000000
    rw [Nat.div_div_eq_div_mul, Nat.mul_comm n, ← Nat.div_div_eq_div_mul, e2, Nat.add_mul_div_left _ _ hn, Nat.add_mul_mod_self_left]
  · rw [e2, Nat.add_mul_mod_self_left]

end Go.Proofs.YthjnmnepjeegiaaGreatDoor.Dg

/- Plain laws of long division and of the greatest common divisor. No program. -/
namespace Go.Proofs.YthjnmnepjeegiaaGreatDoor.Dg

theorem dg_shift (v k i : Nat) : dg (v * pw k) i = if i < k then 0 else dg v (i - k) := by
  unfold dg
  split
  · rename_i h
    have e : pw k = pw (k - i - 1) * 1000000000 * pw i := by rw [Nat.mul_assoc, ← pw_succ, ← pw_add]; congr 1; omega
    rw [e, ← Nat.mul_assoc, Nat.mul_div_cancel _ (pw_pos _), ← Nat.mul_assoc, Nat.mul_mod_left]
  · rename_i h
    have e : pw i = pw k * pw (i - k) := by rw [← pw_add]; congr 1; omega
    rw [e, ← Nat.div_div_eq_div_mul, Nat.mul_div_cancel _ (pw_pos _)]
theorem nd_shift {v k : Nat} (h : v ≠ 0) : nd (v * pw k) = nd v + k := by
  have h1 := lt_pw_nd v
  have h2 := pw_le_nd h
  have hv := nd_pos h
  have h3 : v * pw k < pw (nd v + k) := by rw [pw_add]; exact (Nat.mul_lt_mul_right (pw_pos k)).2 h1
  have h4 := nd_le h3
  have h5 : pw (nd v - 1 + k) ≤ v * pw k := by rw [pw_add]; exact Nat.mul_le_mul_right _ h2
  have h6 := lt_pw_nd (v * pw k)
  have h7 := pw_lt (Nat.lt_of_le_of_lt h5 h6)
  omega

theorem nd_mul_le (a b : Nat) : nd (a * b) ≤ nd a + nd b := by
  refine nd_le ?_
  rw [pw_add]
  by_cases hb : b = 0
  · subst hb; rw [Nat.mul_zero]; exact Nat.mul_pos (pw_pos _) (pw_pos _)
  · exact Nat.mul_lt_mul'' (lt_pw_nd a) (lt_pw_nd b)
theorem nd_add_le (a b : Nat) : nd (a + b) ≤ max (nd a) (nd b) + 1 := by
  refine nd_le ?_
  have h1 := lt_pw_nd a
  have h2 := lt_pw_nd b
  have h3 : pw (nd a) ≤ pw (max (nd a) (nd b)) := pw_le (Nat.le_max_left _ _)
  have h4 : pw (nd b) ≤ pw (max (nd a) (nd b)) := pw_le (Nat.le_max_right _ _)
  rw [pw_succ]
  omega
theorem nd_small {a : Nat} (h : a < 1000000000) : nd a ≤ 1 := nd_le (by rw [pw_succ, pw_zero]; omega)
theorem nd_one_lt {a : Nat} (h : nd a ≤ 1) : a < 1000000000 := by
  have h1 := lt_pw_nd a
  have h2 : pw (nd a) ≤ pw 1 := pw_le h
  rw [pw_succ, pw_zero] at h2
  omega
theorem dg0_small {a : Nat} (h : a < 1000000000) : dg a 0 = a := by unfold dg; rw [pw_zero, Nat.div_one]; exact Nat.mod_eq_of_lt h

/-- The scale of a divisor: its top limb and one more. -/
theorem scale_lt {b f : Nat} (hb : b ≠ 0) (hf : f = 1000000000 / (dg b (nd b - 1) + 1)) : 1 ≤ f ∧ f ≤ 500000000 ∧ b * f < pw (nd b) := by
  have ht := dg_lt b (nd b - 1)
  have h0 := dg_top hb
  have hn := nd_pos hb
  have e := dg_top_is hb
  generalize dg b (nd b - 1) = t at *
  have h1 : b < (t + 1) * pw (nd b - 1) := by
    have := Nat.lt_div_mul_add (a := b) (pw_pos (nd b - 1))
    rw [Nat.add_mul, e]; omega
  have h2 : f * (t + 1) ≤ 1000000000 := by rw [hf]; exact Nat.div_mul_le_self _ _
  have hp : pw (nd b) = 1000000000 * pw (nd b - 1) := by rw [← pw_succ]; congr 1; omega
  refine ⟨?_, ?_, ?_⟩
  · rw [hf]; exact (Nat.le_div_iff_mul_le (by omega)).2 (by omega)
  · rw [hf]
    exact Nat.le_trans (Nat.div_le_div_left (show 2 ≤ t + 1 by omega) (by decide)) (by decide)
  · have hf1 : 1 ≤ f := by rw [hf]; exact (Nat.le_div_iff_mul_le (by omega)).2 (by omega)
    calc b * f < (t + 1) * pw (nd b - 1) * f := (Nat.mul_lt_mul_right hf1).2 h1
      _ = f * (t + 1) * pw (nd b - 1) := by ac_rfl
      _ ≤ 1000000000 * pw (nd b - 1) := Nat.mul_le_mul_right _ h2
      _ = pw (nd b) := hp.symm

/-- One digit of a long division: x is what is divided, v by what, u the rest so far. -/
theorem digit_is {x v j u : Nat} (hv : v ≠ 0) (hu : u = x % (v * pw (j + 1))) :
    u / pw j / v = dg (x / v) j ∧ u - v * (u / pw j / v) * pw j = x % (v * pw j) ∧ v * (u / pw j / v) * pw j ≤ u := by
  have hp := pw_pos j
  have hv0 : 0 < v := by omega
  have e1 : v * pw (j + 1) = v * pw j * 1000000000 := by rw [pw_succ]; ac_rfl
  have e2 : u / pw j / v = u / (v * pw j) := by rw [Nat.div_div_eq_div_mul, Nat.mul_comm (pw j)]
  have e3 : u / (v * pw j) = x / (v * pw j) % 1000000000 := by rw [hu, e1]; exact Nat.mod_mul_right_div_self _ _ _
  have e4 : u % (v * pw j) = x % (v * pw j) := by rw [hu, e1]; exact Nat.mod_mul_right_mod _ _ _
  have e5 := Nat.div_add_mod u (v * pw j)
  have e6 : v * (u / (v * pw j)) * pw j = v * pw j * (u / (v * pw j)) := by ac_rfl
  refine ⟨?_, ?_, ?_⟩
  · rw [e2, e3]; unfold dg; rw [Nat.div_div_eq_div_mul]
  · rw [e2, e6]; omega
  · rw [e2, e6]; omega
/-- The guess is not too small: top is the top limb of v. -/
theorem guess_ge {u v n j top : Nat} (hn : nd v = n + 1) (ht : top = dg v n) : u / pw j / v ≤ u / pw (j + n) / top := by
  have hv : v ≠ 0 := by rintro rfl; rw [nd_zero] at hn; omega
  have h0 := dg_top hv
  have h1 := dg_top_is hv
  rw [hn] at h0 h1
  simp only [Nat.add_sub_cancel] at h0 h1
  rw [← ht] at h0 h1
  have h2 : top * pw n ≤ v := by rw [h1]; exact Nat.div_mul_le_self _ _
  rw [Nat.div_div_eq_div_mul, Nat.div_div_eq_div_mul]
  refine Nat.div_le_div_left ?_ (Nat.mul_pos (pw_pos _) (by omega))
  rw [pw_add, Nat.mul_assoc, Nat.mul_comm (pw n)]
  exact Nat.mul_le_mul_left _ h2
/-- The two limbs that the guess looks at. -/
theorem two_limbs {u i : Nat} (h : u < pw (i + 2)) : dg u (i + 1) * 1000000000 + dg u i = u / pw i := by
  have h1 := div_split u i
  have h2 := div_split u (i + 1)
  have h3 : u / pw (i + 1 + 1) = 0 := Nat.div_eq_of_lt h
  omega
theorem below_v {x v j u : Nat} (hv : v ≠ 0) (hu : u = x % (v * pw (j + 1))) : u < v * pw (j + 1) := by
  rw [hu]; exact Nat.mod_lt _ (Nat.mul_pos (by omega) (pw_pos _))
theorem below_pw {v j u : Nat} (h : u < v * pw j) : u < pw (nd v + j) := by
  rw [pw_add]
  exact Nat.lt_of_lt_of_le h (Nat.mul_le_mul_right _ (Nat.le_of_lt (lt_pw_nd v)))
/-- The start of a long division. -/
theorem start_div {x v m : Nat} (h : x < v * pw m) : x = x % (v * pw m) := (Nat.mod_eq_of_lt h).symm
theorem start_lt {x v n m : Nat} (hv : v ≠ 0) (hn : nd v = n + 1) (h : x < pw (n + m)) : x < v * pw m := by
  have h1 := pw_le_nd hv
  rw [hn, Nat.add_sub_cancel] at h1
  rw [pw_add] at h
  exact Nat.lt_of_lt_of_le h (Nat.mul_le_mul_right _ h1)
/-- The end of a long division: both were scaled by f. -/
theorem end_div {a b f : Nat} (hf : 1 ≤ f) : a * f / (b * f) = a / b ∧ a * f % (b * f) / f = a % b := by
  refine ⟨Nat.mul_div_mul_right _ _ (by omega), ?_⟩
  rw [Nat.mul_mod_mul_right, Nat.mul_div_cancel _ (by omega)]
theorem quot_lt {x v m : Nat} (h : x < v * pw m) : x / v < pw m := Nat.div_lt_of_lt_mul h

end Go.Proofs.YthjnmnepjeegiaaGreatDoor.Dg

/- Plain laws of rational numbers by sign, numerator and denominator. No program. -/
namespace Go.Proofs.YthjnmnepjeegiaaGreatDoor.Q

def sg (neg : Bool) (n : Nat) : Int := if neg = true then -(n : Int) else (n : Int)
def ngt (q : Rat) : Bool := decide (q.num < 0)
/-- The numerator without its sign. -/
def top (q : Rat) : Nat := q.num.natAbs

theorem sg_abs (b : Bool) (n : Nat) : (sg b n).natAbs = n := by unfold sg; split <;> simp
theorem num_sg (q : Rat) : q.num = sg (ngt q) (top q) := by
  unfold sg ngt top
  by_cases h : q.num < 0
  · simp [h]; omega
  · simp [h]; omega
theorem ext_parts {a b : Rat} (h1 : ngt a = ngt b) (h2 : top a = top b) (h3 : a.den = b.den) : a = b :=
  Rat.ext (by rw [num_sg a, num_sg b, h1, h2]) h3
theorem top_zero {q : Rat} : top q = 0 ↔ q = 0 := by
  unfold top
  rw [Int.natAbs_eq_zero]
  exact Rat.num_eq_zero
theorem ngt_zero : ngt 0 = false := rfl
theorem ngt_top {q : Rat} (h : ngt q = true) : top q ≠ 0 := by
  unfold ngt at h; unfold top
  have := of_decide_eq_true h
  omega
theorem coprime (q : Rat) : Nat.gcd (top q) q.den = 1 := q.reduced

theorem make_zero (b : Bool) (d : Nat) : mkRat (sg b 0) d = 0 := by
  have : sg b 0 = 0 := by unfold sg; split <;> rfl
  rw [this]; exact Rat.zero_mkRat d
theorem make_top {b : Bool} {n d : Nat} (hd : d ≠ 0) : top (mkRat (sg b n) d) = n / Nat.gcd n d := by
  unfold top
  rw [Rat.num_mkRat, if_neg hd, sg_abs, Nat.gcd_comm d n]
  rcases Nat.eq_zero_or_pos n with h0 | h0
  · subst h0
    have : sg b 0 = 0 := by unfold sg; split <;> rfl
    rw [this]; simp
  · have hg : 0 < Nat.gcd n d := Nat.gcd_pos_of_pos_left _ h0
    unfold sg
    split
    · rw [Int.neg_ediv_of_dvd (Int.natCast_dvd_natCast.2 (Nat.gcd_dvd_left n d)), Int.natAbs_neg]; rfl
    · rfl
theorem make_den {b : Bool} {n d : Nat} (hd : d ≠ 0) : (mkRat (sg b n) d).den = d / Nat.gcd n d := by
  rw [Rat.den_mkRat, if_neg hd, sg_abs, Nat.gcd_comm]
theorem make_ngt {b : Bool} {n d : Nat} (hn : n ≠ 0) (hd : d ≠ 0) : ngt (mkRat (sg b n) d) = b := by
  unfold ngt
  rw [Rat.num_mkRat, if_neg hd, sg_abs, Nat.gcd_comm]
  have hg : 0 < Nat.gcd n d := Nat.gcd_pos_of_pos_left _ (Nat.pos_of_ne_zero hn)
  have h1 : 0 < n / Nat.gcd n d := Nat.div_pos (Nat.le_of_dvd (Nat.pos_of_ne_zero hn) (Nat.gcd_dvd_left n d)) hg
  have e : ((n : Int) / (Nat.gcd n d : Int)) = ((n / Nat.gcd n d : Nat) : Int) := rfl
  cases b
  · have e1 : sg false n = (n : Int) := rfl
    rw [decide_eq_false_iff_not, e1, e]; omega
  · have e1 : sg true n = -(n : Int) := rfl
    rw [decide_eq_true_iff, e1, Int.neg_ediv_of_dvd (Int.natCast_dvd_natCast.2 (Nat.gcd_dvd_left n d)), e]
    omega

theorem sg_mul (a b : Bool) (m n : Nat) : sg a m * sg b n = sg (a != b) (m * n) := by
  cases a <;> cases b <;> simp [sg, Int.natCast_mul, Int.neg_mul, Int.mul_neg]
theorem sg_nat (a : Bool) (m n : Nat) : sg a m * (n : Int) = sg a (m * n) := by cases a <;> simp [sg, Int.natCast_mul, Int.neg_mul]
theorem add_same {a b : Rat} (h : ngt a = ngt b) : a + b = mkRat (sg (ngt a) (top a * b.den + top b * a.den)) (a.den * b.den) := by
  rw [Rat.add_def', num_sg a, num_sg b, ← h, sg_nat, sg_nat]
  congr 1
  cases ngt a <;> simp [sg, Int.natCast_add] ; omega
theorem add_ge {a b : Rat} (h : ngt a ≠ ngt b) (hl : top b * a.den ≤ top a * b.den) : a + b = mkRat (sg (ngt a) (top a * b.den - top b * a.den)) (a.den * b.den) := by
  rw [Rat.add_def', num_sg a, num_sg b, sg_nat, sg_nat]
  congr 1
  generalize top a * b.den = x at *
  generalize top b * a.den = y at *
  cases ha : ngt a <;> cases hb : ngt b <;> simp [ha, hb] at h <;> simp [sg] <;> omega
theorem add_lt {a b : Rat} (h : ngt a ≠ ngt b) (hl : top a * b.den ≤ top b * a.den) : a + b = mkRat (sg (ngt b) (top b * a.den - top a * b.den)) (a.den * b.den) := by
  rw [Rat.add_comm, add_ge (fun e => h e.symm) hl, Nat.mul_comm b.den]
theorem mul_is (a b : Rat) : a * b = mkRat (sg (ngt a != ngt b) (top a * top b)) (a.den * b.den) := by
  rw [Rat.mul_def', num_sg a, num_sg b, sg_mul]
theorem inv_is {b : Rat} (hb : b ≠ 0) : b⁻¹ = mkRat (sg (ngt b) b.den) (top b) := by
  have h0 : top b ≠ 0 := fun e => hb (top_zero.1 e)
  rw [Rat.inv_def]
  have hn := num_sg b
  cases h : ngt b
  · rw [h] at hn
    simp only [sg, Bool.false_eq_true, if_false] at hn ⊢
    rw [hn, Rat.divInt_ofNat]
  · rw [h] at hn
    simp only [sg, if_true] at hn ⊢
    rw [hn, Rat.divInt_neg', Rat.divInt_ofNat]
theorem div_is {a b : Rat} (hb : b ≠ 0) : a / b = mkRat (sg (ngt a != ngt b) (top a * b.den)) (a.den * top b) := by
  rw [Rat.div_def, inv_is hb]
  conv => lhs; rw [← Rat.mkRat_self a]
  rw [Rat.mkRat_mul_mkRat, num_sg a, sg_mul]
theorem neg_ngt (a : Rat) : ngt (-a) = (!ngt a && decide (top a ≠ 0)) := by
  unfold ngt top
  rw [Rat.neg_num]
  by_cases h : a.num < 0
  · simp [h]; omega
  · by_cases h0 : a.num = 0
    · simp [h0]
    · have : 0 < a.num := by omega
      simp [h, h0]; omega
theorem neg_top (a : Rat) : top (-a) = top a := by unfold top; rw [Rat.neg_num, Int.natAbs_neg]

/-- The sign of a number. -/
def sign (q : Rat) : Int := if top q = 0 then 0 else if ngt q = true then -1 else 1
theorem sign_zero {q : Rat} : sign q = 0 ↔ q = 0 := by
  unfold sign
  split
  · rename_i h; simp [top_zero.1 h]
  · rename_i h
    constructor
    · intro e; split at e <;> omega
    · intro e; exact absurd (top_zero.2 e) h
theorem sign_pos {q : Rat} : 0 < sign q ↔ 0 < q := by
  have h1 : 0 < q ↔ 0 < q.num := by
    rw [Rat.lt_iff]; simp
  rw [h1]
  unfold sign ngt top
  split
  · omega
  · split
    · rename_i h; have := of_decide_eq_true h; omega
    · rename_i h; have : ¬ q.num < 0 := by simpa using h
      omega
theorem sign_neg {q : Rat} : sign q < 0 ↔ q < 0 := by
  have h1 : q < 0 ↔ q.num < 0 := by
    rw [Rat.lt_iff]; simp
  rw [h1]
  unfold sign ngt top
  split
  · omega
  · split
    · rename_i h; have := of_decide_eq_true h; omega
    · rename_i h; have : ¬ q.num < 0 := by simpa using h
      omega

/-- The greatest integer that is not greater, by parts. -/
theorem floor_pos {q : Rat} (h : ngt q = false) : q.floor = ((top q / q.den : Nat) : Int) := by
  rw [Rat.floor_def]
  have hn := num_sg q
  rw [h] at hn
  simp only [sg, Bool.false_eq_true, if_false] at hn
  rw [hn]; rfl
theorem floor_neg {q : Rat} (h : ngt q = true) : q.floor = -(((if top q % q.den = 0 then top q / q.den else top q / q.den + 1) : Nat) : Int) := by
  rw [Rat.floor_def]
  have hn := num_sg q
  rw [h] at hn
  simp only [sg, if_true] at hn
  rw [hn]
  have hd := q.den_pos
  generalize q.den = d at *
  generalize top q = n at *
  have e := Nat.div_add_mod n d
  split
  · rename_i hr
    rw [hr] at e
    have h2 : (n : Int) = (d : Int) * ((n / d : Nat) : Int) := by rw [← Int.natCast_mul]; omega
    rw [h2, ← Int.mul_neg, Int.mul_ediv_cancel_left _ (by omega)]
  · rename_i hr
    have hm := Nat.mod_lt n hd
    have h2 : -(n : Int) = (d : Int) * (-((n / d + 1 : Nat) : Int)) + ((d - n % d : Nat) : Int) := by
      have h3 : ((d * (n / d) : Nat) : Int) = (d : Int) * ((n / d : Nat) : Int) := Int.natCast_mul _ _
      rw [Int.mul_neg, Int.natCast_add, Int.mul_add]
      omega
    rw [h2, Int.mul_add_ediv_left _ _ (by omega), Int.ediv_eq_zero_of_lt (by omega) (by omega)]
    simp

end Go.Proofs.YthjnmnepjeegiaaGreatDoor.Q

/- Plain laws of strings: splitting at one byte; rows of digits; their numbers; numerals of a given length. No program. -/
namespace Go.Proofs.YthjnmnepjeegiaaGreatDoor.Str
open Go.Lib

/-- A list cut at each c. -/
def spl (c : UInt8) : List UInt8 → List (List UInt8)
  | [] => [[]]
  | x :: l => if x = c then [] :: spl c l else match spl c l with | [] => [[x]] | p :: ps => (x :: p) :: ps

theorem spl_ne (c : UInt8) (l : List UInt8) : spl c l ≠ [] := by
  cases l with
  | nil => simp [spl]
  | cons x l => unfold spl; split; simp; split <;> simp

theorem spl_none {c : UInt8} : ∀ {l : List UInt8}, c ∉ l → spl c l = [l]
  | [], _ => rfl
  | x :: l, h => by
    have hx : x ≠ c := fun e => h (by simp [e])
    have hl : c ∉ l := fun e => h (by simp [e])
    simp [spl, hx, spl_none hl]

theorem spl_hit {c : UInt8} : ∀ {a b : List UInt8}, c ∉ a → spl c (a ++ c :: b) = a :: spl c b
  | [], b, _ => by simp [spl]
  | x :: a, b, h => by
    have hx : x ≠ c := fun e => h (by simp [e])
    have hl : c ∉ a := fun e => h (by simp [e])
    simp [spl, hx, spl_hit hl]

theorem spl_join {c : UInt8} : ∀ {l a : List UInt8} {ps : List (List UInt8)}, spl c l = a :: ps → c ∉ a ∧ ((ps = [] ∧ l = a) ∨ ∃ b, l = a ++ c :: b ∧ spl c b = ps)
  | [], a, ps, h => by
    simp [spl] at h
    obtain ⟨rfl, rfl⟩ := h
    simp
  | x :: l, a, ps, h => by
    unfold spl at h
    by_cases hx : x = c
    · rw [if_pos hx] at h
      injection h with h1 h2
      subst h1 hx
      exact ⟨by simp, .inr ⟨l, by simp, h2⟩⟩
    · rw [if_neg hx] at h
      cases hs : spl c l with
      | nil => exact absurd hs (spl_ne c l)
      | cons p qs =>
        rw [hs] at h
        injection h with h1 h2
        subst h1 h2
        obtain ⟨h3, h4⟩ := spl_join hs
        refine ⟨fun e => ?_, ?_⟩
        · rcases List.mem_cons.1 e with e | e
          · exact hx e.symm
          · exact h3 e
        · rcases h4 with ⟨rfl, rfl⟩ | ⟨b, rfl, hb⟩
          · exact .inl ⟨rfl, rfl⟩
          · exact .inr ⟨b, rfl, hb⟩

theorem occ_one (s : List UInt8) (c : UInt8) (i : Nat) : occAt s [c] i = decide (s[i]? = some c) := by
  unfold occAt
  cases h : s[i]? with
  | none =>
    have : s.drop i = [] := List.drop_eq_nil_of_le (by rw [List.getElem?_eq_none_iff] at h; exact h)
    simp [this]
  | some x =>
    obtain ⟨hi, hx⟩ := List.getElem?_eq_some_iff.1 h
    rw [List.drop_eq_getElem_cons hi, hx]
    show (c == x && true) = decide (some x = some c)
    rw [Bool.and_true, Bool.eq_iff_iff, beq_iff_eq, decide_eq_true_eq]
    exact ⟨fun e => by rw [e], fun e => by injection e with e; exact e.symm⟩

/-- Where index finds one byte. -/
theorem index_one (s : List UInt8) (c : UInt8) : (index s [c] = -1 ∧ c ∉ s) ∨ ∃ a b, s = a ++ c :: b ∧ c ∉ a ∧ index s [c] = (a.length : Int) := by
  by_cases h : c ∈ s
  · right
    have key : ∀ s : List UInt8, c ∈ s → ∃ a b, s = a ++ c :: b ∧ c ∉ a := by
      intro s
      induction s with
      | nil => intro h; simp at h
      | cons x l ih =>
        intro h
        by_cases hx : x = c
        · exact ⟨[], l, by simp [hx], by simp⟩
        · obtain ⟨a, b, e, hn⟩ := ih (by rcases List.mem_cons.1 h with e | e; exact absurd e.symm hx; exact e)
          refine ⟨x :: a, b, by rw [e]; rfl, fun e' => ?_⟩
          rcases List.mem_cons.1 e' with e' | e'
          · exact hx e'.symm
          · exact hn e'
    obtain ⟨a, b, rfl, hn⟩ := key s h
    refine ⟨a, b, rfl, hn, index_first (by simp) ?_ ?_⟩
    · rw [occ_one]; simp
    · intro j hj
      rw [occ_one, List.getElem?_append_left hj]
      have : a[j]? ≠ some c := fun e => hn (List.mem_of_getElem? e)
      simpa using this
  · left
    refine ⟨index_none fun j _ => ?_, h⟩
    rw [occ_one]
    have : s[j]? ≠ some c := fun e => h (List.mem_of_getElem? e)
    simpa using this

theorem split_one (c : UInt8) : ∀ (n : Nat) (s : List UInt8), s.length ≤ n → split s [c] = spl c s ∧ count s [c] + 1 = (spl c s).length
  | 0, s, h => by
    have : s = [] := List.eq_nil_of_length_eq_zero (by omega)
    subst this
    have hi : index [] [c] = -1 := by rcases index_one [] c with ⟨h, _⟩ | ⟨a, b, e, _⟩; exact h; simp at e
    unfold split
    rw [count_miss hi]
    simp [splitK, spl]
  | n + 1, s, h => by
    rcases index_one s c with ⟨hi, hn⟩ | ⟨a, b, rfl, hn, hi⟩
    · unfold split
      rw [count_miss hi, spl_none hn]
      simp [splitK]
    · have hl : b.length ≤ n := by simp at h; omega
      obtain ⟨i1, i2⟩ := split_one c n b hl
      have hd : (a ++ c :: b).drop (a.length + [c].length) = b := by simp [List.drop_append]
      have hc := count_hit (s := a ++ c :: b) (sub := [c]) (by simp) hi
      rw [hd] at hc
      unfold split at i1 ⊢
      rw [hc, spl_hit hn]
      refine ⟨?_, by simp; omega⟩
      rw [Nat.add_comm 1, splitK, hi]
      rw [if_neg (by simp only [beq_iff_eq]; omega)]
      have hd2 : (a ++ c :: b).drop ((a.length : Int).toNat + [c].length) = b := by simp
      rw [hd2, i1]
      congr 1
      simp

/-! ### Digits -/
def isD (c : UInt8) : Bool := decide (48 ≤ c.toNat ∧ c.toNat ≤ 57)
def allD (l : List UInt8) : Bool := l.all isD
/-- The number that digits spell. -/
def val (l : List UInt8) : Nat := l.foldl (fun a c => 10 * a + (c.toNat - 48)) 0
def cs10 : List UInt8 := [48, 49, 50, 51, 52, 53, 54, 55, 56, 57]

theorem mem_cs10 (c : UInt8) : cs10.contains c = isD c := by
  rw [Bool.eq_iff_iff, List.contains_iff_mem]
  simp only [cs10, isD, List.mem_cons, List.not_mem_nil, or_false, decide_eq_true_eq, ← UInt8.toNat_inj]
  simp only [UInt8.reduceToNat]
  omega

theorem dropWhile_nil {p : UInt8 → Bool} : ∀ {l : List UInt8}, l.dropWhile p = [] ↔ l.all p = true
  | [] => by simp
  | x :: l => by
    rw [List.dropWhile_cons]
    cases h : p x
    · simp [h]
    · simp only [if_true, List.all_cons, h, Bool.true_and]
      exact dropWhile_nil

theorem trim_digits (l : List UInt8) : trimS l cs10 = [] ↔ allD l = true := by
  have hf : (fun x => cs10.contains x) = isD := funext mem_cs10
  unfold trimS trimLeftS trimRightS
  rw [hf, dropWhile_nil]
  constructor
  · intro h
    have hr : (l.reverse.dropWhile isD).all isD = true := by simpa [List.all_reverse] using h
    have hd : l.reverse.dropWhile isD = [] := by
      cases hx : l.reverse.dropWhile isD with
      | nil => rfl
      | cons x t =>
        have h1 : isD x = false := by
          have := List.head_dropWhile_not isD (l := l.reverse) (by rw [hx]; simp)
          simpa [hx] using this
        rw [hx] at hr
        simp [h1] at hr
    have := dropWhile_nil.1 hd
    unfold allD
    simpa [List.all_reverse] using this
  · intro h
    have : l.reverse.dropWhile isD = [] := dropWhile_nil.2 (by unfold allD at h; simpa [List.all_reverse] using h)
    rw [this]; rfl

theorem decFrom_val : ∀ (l : List UInt8) (a : Nat), allD l = true → decFrom a l = some (l.foldl (fun a c => 10 * a + (c.toNat - 48)) a)
  | [], a, _ => rfl
  | x :: l, a, h => by
    have h' : isD x = true ∧ allD l = true := by unfold allD at h ⊢; simpa using h
    have hx : digitVal x = some (x.toNat - 48) := by
      have := h'.1
      unfold isD at this
      unfold digitVal
      rw [if_pos (of_decide_eq_true this)]
    unfold decFrom
    rw [hx]
    simp only [List.foldl_cons]
    rw [Nat.mul_comm a 10]
    exact decFrom_val l _ h'.2

theorem atoi_digits (l : List UInt8) (h : allD l = true) (hne : l ≠ []) : atoi l = some (val l : Int) := by
  cases l with
  | nil => exact absurd rfl hne
  | cons x l =>
    have hx : isD x = true := by unfold allD at h; simp at h; exact h.1
    have hd := of_decide_eq_true hx
    have h45 : (x == 45) = false := by rw [beq_eq_false_iff_ne]; rintro rfl; simp at hd
    have h43 : (x == 43) = false := by rw [beq_eq_false_iff_ne]; rintro rfl; simp at hd
    simp only [atoi, h45, h43, Bool.false_eq_true, if_false]
    unfold decNat
    rw [if_neg (by simp), decFrom_val _ 0 h]
    rfl

theorem foldl_lt : ∀ (l : List UInt8) (a : Nat), allD l = true → l.foldl (fun a c => 10 * a + (c.toNat - 48)) a < (a + 1) * 10 ^ l.length
  | [], a, _ => by simp
  | x :: l, a, h => by
    have h' : isD x = true ∧ allD l = true := by unfold allD at h ⊢; simpa using h
    have hd := of_decide_eq_true h'.1
    rw [List.foldl_cons]
    have ih := foldl_lt l (10 * a + (x.toNat - 48)) h'.2
    have hle : (10 * a + (x.toNat - 48) + 1) * 10 ^ l.length ≤ ((a + 1) * 10) * 10 ^ l.length := Nat.mul_le_mul_right _ (by omega)
    rw [List.length_cons, Nat.pow_succ]
    refine Nat.lt_of_lt_of_le ih (Nat.le_trans hle (Nat.le_of_eq ?_))
    rw [Nat.mul_assoc, Nat.mul_comm 10]
theorem val_lt (l : List UInt8) (h : allD l = true) : val l < 10 ^ l.length := by have := foldl_lt l 0 h; simpa [val] using this
theorem val_snoc (l : List UInt8) (c : UInt8) : val (l ++ [c]) = 10 * val l + (c.toNat - 48) := by simp [val]

/-- n in k decimal digits. -/
def pad : Nat → Nat → List UInt8
  | 0, _ => []
  | k + 1, n => pad k (n / 10) ++ [UInt8.ofNat (48 + n % 10)]
theorem pad_length : ∀ k n, (pad k n).length = k
  | 0, _ => rfl
  | k + 1, n => by simp [pad, pad_length k]
theorem digit_byte (n : Nat) (h : n < 10) : (UInt8.ofNat (48 + n)).toNat = 48 + n := by rw [UInt8.toNat_ofNat']; exact Nat.mod_eq_of_lt (by omega)
theorem pad_allD : ∀ k n, allD (pad k n) = true
  | 0, _ => rfl
  | k + 1, n => by
    have ih := pad_allD k (n / 10)
    unfold allD at ih ⊢
    rw [pad, List.all_append, ih]
    have := digit_byte (n % 10) (by omega)
    simp only [List.all_cons, List.all_nil, Bool.and_true, Bool.true_and]
    unfold isD
    rw [this]
    simp; omega
theorem val_pad : ∀ k n, n < 10 ^ k → val (pad k n) = n
  | 0, n, h => by simp at h; subst h; rfl
  | k + 1, n, h => by
    rw [pad, val_snoc, val_pad k (n / 10) (by rw [Nat.pow_succ] at h; omega), digit_byte _ (by omega)]
    omega
theorem pad_val : ∀ (l : List UInt8) (k : Nat), allD l = true → l.length = k → pad k (val l) = l := by
  intro l k h hk
  subst hk
  have key : ∀ (k : Nat) (l : List UInt8), l.length = k → allD l = true → pad k (val l) = l := by
    intro k
    induction k with
    | zero => intro l hl _; have := List.eq_nil_of_length_eq_zero hl; subst this; rfl
    | succ k ih =>
      intro l hl h
      have hne : l ≠ [] := by intro e; subst e; simp at hl
      obtain ⟨a, c, rfl⟩ : ∃ a c, l = a ++ [c] := ⟨l.dropLast, l.getLast hne, (List.dropLast_concat_getLast hne).symm⟩
      have ha : a.length = k := by simp at hl; exact hl
      have h' : allD a = true ∧ isD c = true := by unfold allD at h ⊢; simpa using h
      have hd := of_decide_eq_true h'.2
      rw [val_snoc, pad]
      have e1 : (10 * val a + (c.toNat - 48)) / 10 = val a := by omega
      have e2 : (10 * val a + (c.toNat - 48)) % 10 = c.toNat - 48 := by omega
      rw [e1, e2, ih a ha h'.1]
      congr 2
      apply UInt8.toNat.inj
      rw [digit_byte _ (by omega)]
      omega
  exact key _ l rfl h

theorem repeat_zero : ∀ k, repeatL [48] k = List.replicate k 48
  | 0 => rfl
  | k + 1 => by rw [repeatL, repeat_zero k]; rfl
theorem decDigits_pos (u : Nat) : 0 < (decDigits u).length := by
  rw [decDigits]; split <;> simp
theorem pad_zero : ∀ k, pad k 0 = List.replicate k 48
  | 0 => rfl
  | k + 1 => by
    have h0 : UInt8.ofNat (48 + 0 % 10) = 48 := by decide
    rw [pad, h0, pad_zero k, List.replicate_succ']
/-- Zeros ahead of the numeral: the number in k digits. -/
theorem pad_decDigits : ∀ (k n : Nat), n < 10 ^ k → 0 < k → (decDigits n).length ≤ k ∧ List.replicate (k - (decDigits n).length) 48 ++ decDigits n = pad k n
  | 0, n, _, hk => by omega
  | k + 1, n, h, _ => by
    by_cases hn : n < 10
    · rw [decDigits, dif_pos hn, pad]
      have e1 : n / 10 = 0 := by omega
      have e2 : n % 10 = n := by omega
      rw [e1, e2, pad_zero]
      simp
    · have hk : 0 < k := by
        rcases Nat.eq_zero_or_pos k with e | e
        · subst e; simp at h; omega
        · exact e
      obtain ⟨i1, i2⟩ := pad_decDigits k (n / 10) (by rw [Nat.pow_succ] at h; omega) hk
      rw [decDigits, dif_neg hn, pad]
      refine ⟨by simp; omega, ?_⟩
      rw [← i2]
      simp

end Go.Proofs.YthjnmnepjeegiaaGreatDoor.Str

/- Plain laws of decimal texts: the digits of a number, canonical rows of digits. No program. -/
namespace Go.Proofs.YthjnmnepjeegiaaGreatDoor.Num
open Go.Proofs.YthjnmnepjeegiaaGreatDoor.Str Go.Proofs.YthjnmnepjeegiaaGreatDoor.Dg Go.Lib

theorem val_append (a b : List UInt8) : val (a ++ b) = val a * 10 ^ b.length + val b := by
  have key : ∀ (l : List UInt8) (x : Nat), l.foldl (fun a c => 10 * a + (c.toNat - 48)) x = x * 10 ^ l.length + l.foldl (fun a c => 10 * a + (c.toNat - 48)) 0 := by
    intro l
    induction l with
    | nil => intro x; simp
    | cons c l ih =>
      intro x
      simp only [List.foldl_cons, List.length_cons]
      rw [ih (10 * x + (c.toNat - 48)), ih (10 * 0 + (c.toNat - 48)), Nat.pow_succ, Nat.add_mul, Nat.add_mul]
      have : 10 * x * 10 ^ l.length = x * (10 ^ l.length * 10) := by ac_rfl
      omega
  unfold val
  rw [List.foldl_append, key]
theorem allD_append (a b : List UInt8) : allD (a ++ b) = (allD a && allD b) := by unfold allD; simp
theorem allD_take {l : List UInt8} (h : allD l = true) (n : Nat) : allD (l.take n) = true := by
  unfold allD at *
  rw [List.all_eq_true] at *
  exact fun x hx => h x (List.mem_of_mem_take hx)
theorem allD_drop {l : List UInt8} (h : allD l = true) (n : Nat) : allD (l.drop n) = true := by
  unfold allD at *
  rw [List.all_eq_true] at *
  exact fun x hx => h x (List.mem_of_mem_drop hx)

theorem dec_small {u : Nat} (h : u < 10) : decDigits u = [UInt8.ofNat (48 + u)] := by rw [decDigits, dif_pos h]
theorem dec_big {u : Nat} (h : ¬ u < 10) : decDigits u = decDigits (u / 10) ++ [UInt8.ofNat (48 + u % 10)] := by rw [decDigits, dif_neg h]

theorem isD_digit {n : Nat} (h : n < 10) : isD (UInt8.ofNat (48 + n)) = true := by
  unfold isD
  rw [digit_byte n h]
  simp; omega
theorem allD_dec (u : Nat) : allD (decDigits u) = true := by
  induction u using Nat.strongRecOn with
  | ind u ih =>
    by_cases h : u < 10
    · rw [dec_small h]
      show (isD _ && true) = true
      rw [isD_digit h]; rfl
    · rw [dec_big h, allD_append, ih _ (by omega)]
      show (true && (isD _ && true)) = true
      rw [isD_digit (show u % 10 < 10 by omega)]; rfl
theorem val_dec (u : Nat) : val (decDigits u) = u := by
  induction u using Nat.strongRecOn with
  | ind u ih =>
    by_cases h : u < 10
    · rw [dec_small h]; unfold val; simp only [List.foldl_cons, List.foldl_nil]; rw [digit_byte u h]; omega
    · rw [dec_big h, val_snoc, ih _ (by omega), digit_byte _ (by omega)]; omega

/-- A canonical row of digits: not empty, without a leading zero but for the row 0. -/
def canon (l : List UInt8) : Bool := allD l && !l.isEmpty && (l.head? != some 48 || l == [48])

theorem dec_head (u : Nat) (h : u ≠ 0) : (decDigits u).head? ≠ some 48 := by
  induction u using Nat.strongRecOn with
  | ind u ih =>
    by_cases h1 : u < 10
    · rw [dec_small h1]
      intro e
      have e1 : UInt8.ofNat (48 + u) = 48 := by injection e
      have e2 := congrArg UInt8.toNat e1
      rw [digit_byte u h1] at e2
      have e3 : (48 : UInt8).toNat = 48 := rfl
      omega
    · rw [dec_big h1]
      have hl := decDigits_pos (u / 10)
      rw [List.head?_append]
      have := ih (u / 10) (by omega) (by omega)
      cases hd : decDigits (u / 10) with
      | nil => rw [hd] at hl; simp at hl
      | cons x l => rw [hd] at this; simpa using this
theorem canon_dec (u : Nat) : canon (decDigits u) = true := by
  unfold canon
  have hl := decDigits_pos u
  rw [allD_dec]
  by_cases h : u = 0
  · subst h; rw [dec_small (by decide)]; rfl
  · have h1 := dec_head u h
    cases hd : decDigits u with
    | nil => rw [hd] at hl; simp at hl
    | cons x l => rw [hd] at h1; simp at h1 ⊢; exact .inl h1
theorem dec_val {l : List UInt8} (h : canon l = true) : decDigits (val l) = l := by
  unfold canon at h
  simp only [Bool.and_eq_true, Bool.not_eq_true', Bool.or_eq_true, bne_iff_ne, beq_iff_eq, ne_eq] at h
  obtain ⟨⟨h1, h2⟩, h3⟩ := h
  have hne : l ≠ [] := by rintro rfl; simp at h2
  have hpos : 0 < l.length := List.length_pos_iff.2 hne
  obtain ⟨p1, p2⟩ := pad_decDigits l.length (val l) (val_lt l h1) hpos
  rw [pad_val l l.length h1 rfl] at p2
  by_cases he : l.length - (decDigits (val l)).length = 0
  · rw [he] at p2; simpa using p2
  · rcases h3 with h3 | h3
    · obtain ⟨m, hm⟩ : ∃ m, l.length - (decDigits (val l)).length = m + 1 := ⟨_, (Nat.succ_pred he).symm⟩
      rw [hm, List.replicate_succ] at p2
      rw [← p2] at h3
      simp at h3
    · subst h3
      have e : val [48] = 0 := rfl
      rw [e, dec_small (by decide)]; rfl
theorem dec_len_le {u k : Nat} (hk : 0 < k) : (decDigits u).length ≤ k ↔ u < 10 ^ k := by
  constructor
  · intro h
    have := val_lt _ (allD_dec u)
    rw [val_dec] at this
    exact Nat.lt_of_lt_of_le this (Nat.pow_le_pow_right (by decide) h)
  · intro h; exact (pad_decDigits k u h hk).1
/-- The digits of a number in two parts. -/
theorem dec_parts {x y k : Nat} (hx : x ≠ 0) (hy : y < 10 ^ k) : decDigits (x * 10 ^ k + y) = decDigits x ++ pad k y := by
  have h := dec_val (l := decDigits x ++ pad k y) (by
    unfold canon
    have h1 := dec_head x hx
    have hl := decDigits_pos x
    rw [allD_append, allD_dec, pad_allD]
    cases hd : decDigits x with
    | nil => rw [hd] at hl; simp at hl
    | cons c l => rw [hd] at h1; simp at h1 ⊢; exact .inl h1)
  rw [val_append, val_dec, pad_length, val_pad k y hy] at h
  exact h
theorem pad_append {x y j k : Nat} (hx : x < 10 ^ j) (hy : y < 10 ^ k) : pad (j + k) (x * 10 ^ k + y) = pad j x ++ pad k y := by
  have h1 : val (pad j x ++ pad k y) = x * 10 ^ k + y := by rw [val_append, val_pad j x hx, pad_length, val_pad k y hy]
  have h2 := pad_val (pad j x ++ pad k y) (j + k) (by rw [allD_append, pad_allD, pad_allD]; rfl) (by rw [List.length_append, pad_length, pad_length])
  rw [h1] at h2
  exact h2
theorem pw_ten (i : Nat) : pw i = 10 ^ (9 * i) := by unfold pw; rw [show (1000000000 : Nat) = 10 ^ 9 by decide, ← Nat.pow_mul]

end Go.Proofs.YthjnmnepjeegiaaGreatDoor.Num

/- Slices of limbs: a slice whose cells are a function of the index; rows of the call's own. -/
namespace Go.Proofs.YthjnmnepjeegiaaGreatDoor
open Go.RowKit Go.Proofs.YthjnmnepjeegiaaGreatDoor.Dg

/-- The slice '.slice A n c' has the cells o 0, .., o (n-1), integers of kind k; they lie below block B. -/
def Fs (k : IntKind) (w : World) (B : Nat) (A : Option Addr) (n c : Nat) (o : Nat → Nat) : Prop :=
  n ≤ c ∧ (A = none → c = 0) ∧ (0 < n → ∃ b off, A = some ⟨b, off, none⟩ ∧ b < B ∧ ∀ j, j < n → w.cell? ⟨b, off + j, none⟩ = some (.int k ((o j : Nat) : Int)))

theorem Fs.nil (k : IntKind) (w : World) (B : Nat) (o : Nat → Nat) : Fs k w B none 0 0 o := ⟨Nat.le_refl _, fun _ => rfl, fun h => absurd h (by omega)⟩
theorem Fs.zero {k : IntKind} {w : World} {B n c : Nat} {A : Option Addr} {o : Nat → Nat} (o' : Nat → Nat) (h : Fs k w B A n c o) : Fs k w B A 0 c o' := ⟨Nat.zero_le _, h.2.1, fun h => absurd h (by omega)⟩
theorem Fs.keep {k : IntKind} {w w' : World} {B n c : Nat} {A : Option Addr} {o : Nat → Nat} (h : Fs k w B A n c o) (hb : Below B w w') : Fs k w' B A n c o :=
  ⟨h.1, h.2.1, fun hn => by
    obtain ⟨b, off, e, hlt, hc⟩ := h.2.2 hn
    exact ⟨b, off, e, hlt, fun j hj => (hb.cell (p := ⟨b, off + j, none⟩) hlt).trans (hc j hj)⟩⟩
theorem Fs.more {k : IntKind} {w : World} {B B' n c : Nat} {A : Option Addr} {o : Nat → Nat} (h : Fs k w B A n c o) (hB : B ≤ B') : Fs k w B' A n c o :=
  ⟨h.1, h.2.1, fun hn => by
    obtain ⟨b, off, e, hlt, hc⟩ := h.2.2 hn
    exact ⟨b, off, e, by omega, hc⟩⟩
/-- What came in stays, whatever the call makes. -/
theorem Fs.up {k : IntKind} {w w' : World} {n c : Nat} {A : Option Addr} {o : Nat → Nat} (h : Fs k w w.heap.size A n c o) (hb : Below w.heap.size w w') : Fs k w' w'.heap.size A n c o := (h.keep hb).more hb.size
theorem Fs.congr {k : IntKind} {w : World} {B n c : Nat} {A : Option Addr} {o o' : Nat → Nat} (h : Fs k w B A n c o) (e : ∀ j, j < n → o j = o' j) : Fs k w B A n c o' :=
  ⟨h.1, h.2.1, fun hn => by
    obtain ⟨b, off, e1, hlt, hc⟩ := h.2.2 hn
    exact ⟨b, off, e1, hlt, fun j hj => by rw [← e j hj]; exact hc j hj⟩⟩
theorem Fs.take {k : IntKind} {w : World} {B n c : Nat} {A : Option Addr} {o : Nat → Nat} (h : Fs k w B A n c o) {m : Nat} (hm : m ≤ n) : Fs k w B A m c o :=
  ⟨by have := h.1; omega, h.2.1, fun hn => by
    obtain ⟨b, off, e1, hlt, hc⟩ := h.2.2 (by omega)
    exact ⟨b, off, e1, hlt, fun j hj => hc j (by omega)⟩⟩
theorem Fs.at_ {k : IntKind} {w : World} {B n c j : Nat} {A : Option Addr} {o : Nat → Nat} (h : Fs k w B A n c o) (hj : j < n) : ∃ b off, A = some ⟨b, off, none⟩ ∧ b < B ∧ w.cell? ⟨b, off + j, none⟩ = some (.int k ((o j : Nat) : Int)) := by
  obtain ⟨b, off, e, hlt, hc⟩ := h.2.2 (by omega)
  exact ⟨b, off, e, hlt, hc j hj⟩
/-- The slice of the number a. -/
def Nt (k : IntKind) (w : World) (B : Nat) (A : Option Addr) (c a : Nat) : Prop := Fs k w B A (nd a) c (dg a)
/-- What a function gives that returns the number a. -/
def GiveN (k : IntKind) (w : World) (a : Nat) (e : Ending) (w' : World) : Prop := ∃ A c, e = .returned (.slice A (nd a) c) ∧ Nt k w' w'.heap.size A c a ∧ Below w.heap.size w w'

/-- A row of limbs of the call's own: block g begins with the limbs o 0, .., o (n-1). -/
def Lw (k : IntKind) (w : World) (g : Nat) (t : TypeId) (n : Nat) (o : Nat → Nat) : Prop :=
  ∃ c : Array Value, w.heap[g]? = some (.cells c t (0, 0)) ∧ n ≤ c.size ∧ ∀ i, i < n → c[i]? = some (.int k ((o i : Nat) : Int))
theorem Lw.of_block {k : IntKind} {w w' : World} {g n : Nat} {t : TypeId} {o : Nat → Nat} (h : Lw k w g t n o) (e : w'.heap[g]? = w.heap[g]?) : Lw k w' g t n o := by
  obtain ⟨c, hb, hn, hc⟩ := h
  exact ⟨c, e.trans hb, hn, hc⟩
theorem Lw.lt {k : IntKind} {w : World} {g n : Nat} {t : TypeId} {o : Nat → Nat} (h : Lw k w g t n o) : g < w.heap.size := by
  obtain ⟨c, hb, _, _⟩ := h
  exact (Array.getElem?_eq_some_iff.1 hb).1
theorem Lw.set {k : IntKind} {w : World} {g n : Nat} {t : TypeId} {o : Nat → Nat} (h : Lw k w g t n o) (i v : Nat) : Lw k (w.setCell ⟨g, i, none⟩ (.int k ((v : Nat) : Int))) g t n (upd o i v) := by
  obtain ⟨c, hb, hn, hc⟩ := h
  refine ⟨c.setIfInBounds i (.int k ((v : Nat) : Int)), ?_, by simpa using hn, fun j hj => ?_⟩
  · simp [World.setCell, Array.getElem?_modify, hb]
  · rw [Array.getElem?_setIfInBounds]
    by_cases e : i = j
    · subst e
      rw [if_pos rfl, if_pos (by omega), upd_at]
    · rw [if_neg e, hc j hj, upd_ne _ _ (fun e' => e e'.symm)]
theorem Lw.made (k : IntKind) (w : World) (n : Nat) (t : TypeId) : Lw k (w.alloc (.cells (madeCells #[.int k 0] n) t)) w.heap.size t n (fun _ => 0) := by
  obtain ⟨c, hb, hn, hc⟩ := World.rowIs_made w (.int k 0) n t
  exact ⟨c, hb, by omega, hc⟩
theorem Lw.drewN {k : IntKind} {w : World} {g n : Nat} {t : TypeId} {o : Nat → Nat} (h : Lw k w g t n o) (q : Nat) : Lw k (w.drewN q) g t n o := h
theorem Lw.alloc {k : IntKind} {w : World} {g n : Nat} {t : TypeId} {o : Nat → Nat} (h : Lw k w g t n o) (x : Obj) : Lw k (w.alloc x) g t n o := h.of_block (Deep.blk_alloc_lt _ _ _ h.lt)
theorem Lw.below {k : IntKind} {w w' : World} {g n B : Nat} {t : TypeId} {o : Nat → Nat} (h : Lw k w g t n o) (hb : Below B w w') (hg : g < B) : Lw k w' g t n o := h.of_block (hb.block g hg)
theorem Lw.cell {k : IntKind} {w : World} {g n i : Nat} {t : TypeId} {o : Nat → Nat} (h : Lw k w g t n o) (hi : i < n) : w.cell? ⟨g, i, none⟩ = some (.int k ((o i : Nat) : Int)) := by
  obtain ⟨c, hb, _, hc⟩ := h
  simp [World.cell?, hb, hc i hi]
theorem Lw.frozen {k : IntKind} {w : World} {g n : Nat} {t : TypeId} {o : Nat → Nat} (h : Lw k w g t n o) (i : Nat) : w.frozen? ⟨g, i, none⟩ = false := by
  obtain ⟨c, hb, _, _⟩ := h
  simp [World.frozen?, hb]
theorem Lw.congr {k : IntKind} {w : World} {g n : Nat} {t : TypeId} {o o' : Nat → Nat} (h : Lw k w g t n o) (e : ∀ j, j < n → o j = o' j) : Lw k w g t n o' := by
  obtain ⟨c, hb, hn, hc⟩ := h
  exact ⟨c, hb, hn, fun j hj => by rw [hc j hj, e j hj]⟩
theorem Lw.fs {k : IntKind} {w : World} {g n m c : Nat} {t : TypeId} {o : Nat → Nat} (h : Lw k w g t n o) (hm : m ≤ n) (hc : m ≤ c) : Fs k w w.heap.size (some ⟨g, 0, none⟩) m c o :=
  ⟨hc, (fun e => by cases e), fun _ => ⟨g, 0, rfl, h.lt, fun j hj => by rw [Nat.zero_add]; exact h.cell (by omega)⟩⟩

theorem below_drewN {B : Nat} {a w : World} (h : Below B a w) (n : Nat) : Below B a (w.drewN n) := ⟨h.os, h.tape, h.output, h.size, h.block⟩
theorem drewN_two (w : World) (m n : Nat) : (w.drewN m).drewN n = w.drewN (m + n) := by unfold World.drewN; simp [Nat.add_assoc]
theorem below_alloc {a w : World} (h : Below a.heap.size a w) (o : Obj) : Below a.heap.size a (w.alloc o) := h.alloc h.size o
theorem btrans {a b c : World} (h : Below a.heap.size a b) (k : Below b.heap.size b c) : Below a.heap.size a c := h.trans (k.mono h.size)
theorem bcell {W w1 : World} (hb : Below W.heap.size W w1) : (∀ b o, b < W.heap.size → w1.cell? ⟨b, o, none⟩ = W.cell? ⟨b, o, none⟩) ∧ (∀ b o, b < W.heap.size → w1.frozen? ⟨b, o, none⟩ = W.frozen? ⟨b, o, none⟩) :=
  ⟨fun b o h => hb.cell (p := ⟨b, o, none⟩) h, fun b o h => hb.frozen (p := ⟨b, o, none⟩) h⟩

end Go.Proofs.YthjnmnepjeegiaaGreatDoor

/- trim of the program and of the reference. -/
namespace Go.Proofs.YthjnmnepjeegiaaGreatDoor
open Go.RowKit Go.Proofs.YthjnmnepjeegiaaGreatDoor.Dg

def Zs (o : Nat → Nat) (k n : Nat) : Prop := ∀ j, k ≤ j → j < n → o j = 0

set_option maxRecDepth 100000 in
set_option maxHeartbeats 800000 in
theorem trim_walk (A : Option Addr) (n c : Nat) (o : Nat → Nat) (w : World) (h : Fs .u32 w w.heap.size A n c o) (hn : n ≤ 4611686018427387904) :
    Calls Tryz.prog 60 #[.slice A n c] w fun e w' => (∃ k, k ≤ n ∧ Zs o k n ∧ (k = 0 ∨ o (k - 1) ≠ 0) ∧ e = .returned (.slice A k c)) ∧ w' = w := by
  have hnc := h.1
  have H := Lib.hid h
  clear h
  go_enter Tryz.func60, Tryz.ntmps60
  go_wp2
  go_loop [3] (fun i => ∃ k : Nat, k ≤ n ∧ Zs o k n ∧ i = .int .i64 k) (fun i => (intOf i).toNat)
  case atStart => exact ⟨n, Nat.le_refl _, fun j h1 h2 => absurd h1 (by omega), rfl⟩
  case round =>
    obtain ⟨k, hk, hz, rfl⟩ := hrel
    by_cases hk0 : k = 0
    · subst hk0
      go_wp2
      go_ret
      exact ⟨⟨0, Nat.zero_le _, hz, .inl rfl, rfl⟩, rfl⟩
    · obtain ⟨m, rfl⟩ : ∃ m, k = m + 1 := ⟨k - 1, by omega⟩
      obtain ⟨b, off, rfl, _, hc⟩ := H.out.at_ (show m < n by omega)
      clear hk0
      by_cases h0 : o m = 0
      · rw [h0] at hc
        have HZ := Lib.hid (show Zs o m n from fun j h1 h2 => by
          by_cases e : j = m
          · subst e; exact h0
          · exact hz j (by omega) h2)
        clear h0 hz
        go_wp2
        go_round
        case rel => exact ⟨m, by omega, HZ.out, by go_num⟩
        case measure => simp [intOf]
      · go_wp2
        go_ret
        exact ⟨⟨m + 1, hk, hz, .inr (by simpa using h0), rfl⟩, rfl⟩
set_option maxRecDepth 100000 in
set_option maxHeartbeats 800000 in
theorem rtrim_walk (A : Option Addr) (n c : Nat) (o : Nat → Nat) (w : World) (h : Fs .u64 w w.heap.size A n c o) (hn : n ≤ 4611686018427387904) :
    Calls Tryz.prog 102 #[.slice A n c] w fun e w' => (∃ k, k ≤ n ∧ Zs o k n ∧ (k = 0 ∨ o (k - 1) ≠ 0) ∧ e = .returned (.slice A k c)) ∧ w' = w := by
  have hnc := h.1
  have H := Lib.hid h
  clear h
  go_enter Tryz.func102, Tryz.ntmps102
  go_wp2
  go_loop [3] (fun i => ∃ k : Nat, k ≤ n ∧ Zs o k n ∧ i = .int .i64 k) (fun i => (intOf i).toNat)
  case atStart => exact ⟨n, Nat.le_refl _, fun j h1 h2 => absurd h1 (by omega), rfl⟩
  case round =>
    obtain ⟨k, hk, hz, rfl⟩ := hrel
    by_cases hk0 : k = 0
    · subst hk0
      go_wp2
      go_ret
      exact ⟨⟨0, Nat.zero_le _, hz, .inl rfl, rfl⟩, rfl⟩
    · obtain ⟨m, rfl⟩ : ∃ m, k = m + 1 := ⟨k - 1, by omega⟩
      obtain ⟨b, off, rfl, _, hc⟩ := H.out.at_ (show m < n by omega)
      clear hk0
      by_cases h0 : o m = 0
      · rw [h0] at hc
        have HZ := Lib.hid (show Zs o m n from fun j h1 h2 => by
          by_cases e : j = m
          · subst e; exact h0
          · exact hz j (by omega) h2)
        clear h0 hz
        go_wp2
        go_round
        case rel => exact ⟨m, by omega, HZ.out, by go_num⟩
        case measure => simp [intOf]
      · go_wp2
        go_ret
        exact ⟨⟨m + 1, hk, hz, .inr (by simpa using h0), rfl⟩, rfl⟩

theorem Fs.trimmed {k : IntKind} {w : World} {B n c : Nat} {A : Option Addr} {o : Nat → Nat} (h : Fs k w B A n c o) (ho : ∀ j, j < n → o j < 1000000000) (hk : nd (sumTo o n) ≤ n) : Nt k w B A c (sumTo o n) :=
  (h.take hk).congr fun j hj => (trim_dg ho (by omega)).symm
theorem nd_sum {n : Nat} {o : Nat → Nat} (ho : ∀ j, j < n → o j < 1000000000) : nd (sumTo o n) ≤ n := nd_le (sumTo_lt ho)

/-- trim of the program. -/
theorem trim_any (A : Option Addr) (n c : Nat) (o : Nat → Nat) (w : World) (h : Fs .u32 w w.heap.size A n c o) (ho : ∀ j, j < n → o j < 1000000000) (hn : n ≤ 4611686018427387904) :
    Calls Tryz.prog 60 #[.slice A n c] w fun e w' => e = .returned (.slice A (nd (sumTo o n)) c) ∧ w' = w :=
  (trim_walk A n c o w h hn).mono fun e w' ⟨⟨k, hk, hz, ht, he⟩, hw⟩ => ⟨by rw [trim_nd ho hk hz ht]; exact he, hw⟩

/-- trim of the reference. -/
theorem rtrim_any (A : Option Addr) (n c : Nat) (o : Nat → Nat) (w : World) (h : Fs .u64 w w.heap.size A n c o) (ho : ∀ j, j < n → o j < 1000000000) (hn : n ≤ 4611686018427387904) :
    Calls Tryz.prog 102 #[.slice A n c] w fun e w' => e = .returned (.slice A (nd (sumTo o n)) c) ∧ w' = w :=
  (rtrim_walk A n c o w h hn).mono fun e w' ⟨⟨k, hk, hz, ht, he⟩, hw⟩ => ⟨by rw [trim_nd ho hk hz ht]; exact he, hw⟩

def cmpN (a b : Nat) : Int := if a < b then -1 else if b < a then 1 else 0
theorem cmpN_lt {a b : Nat} (h : a < b) : cmpN a b = -1 := by unfold cmpN; rw [if_pos h]
theorem cmpN_gt {a b : Nat} (h : b < a) : cmpN a b = 1 := by unfold cmpN; rw [if_neg (by omega), if_pos h]
theorem cmpN_eq {a b : Nat} (h : a = b) : cmpN a b = 0 := by unfold cmpN; rw [if_neg (by omega), if_neg (by omega)]

set_option maxRecDepth 100000 in
set_option maxHeartbeats 1600000 in
theorem cmp_any (A1 A2 : Option Addr) (c1 c2 a b : Nat) (w : World) (h1 : Nt .u32 w w.heap.size A1 c1 a) (h2 : Nt .u32 w w.heap.size A2 c2 b) (hn1 : nd a ≤ 4611686018427387904) :
    Calls Tryz.prog 79 #[.slice A1 (nd a) c1, .slice A2 (nd b) c2] w fun e w' => e = .returned (.int .i64 (cmpN a b)) ∧ ∃ q, w' = w.drewN q := by
  rcases Nat.lt_trichotomy (nd a) (nd b) with hl | hl | hl
  · rw [cmpN_lt (lt_of_nd hl)]
    generalize nd a = n1 at *
    generalize nd b = n2 at *
    clear h1 h2
    go_enter Tryz.func79, Tryz.ntmps79
    go_wp2
    go_ret
    exact ⟨rfl, 0, rfl⟩
  · have hall : a / pw (nd a) = b / pw (nd a) := by rw [div_zero (Nat.le_refl _), div_zero (by omega)]
    have G1 := Lib.hid h1
    have G2 := Lib.hid h2
    unfold Nt at G1 G2
    clear h1 h2
    rw [← hl] at G2 ⊢
    clear hl
    generalize nd a = n at *
    go_enter Tryz.func79, Tryz.ntmps79
    go_wp2
    go_loopw [5] (fun i wr => ∃ k : Nat, k ≤ n ∧ Hid (a / pw k = b / pw k) ∧ i = .int .i64 ((k : Int) - 1) ∧ ∃ q, wr = w.drewN q) (fun i _ => (intOf i + 1).toNat)
    case atStart => exact ⟨n, Nat.le_refl _, Lib.hid hall, rfl, 0, rfl⟩
    case round =>
      clear hall
      obtain ⟨k, hk, he, rfl, q, rfl⟩ := hrel
      by_cases hk0 : k = 0
      · subst hk0
        have HE := Lib.hid (cmpN_eq (cmp_end he.out))
        clear he
        go_wp2
        go_ret
        exact ⟨by rw [HE.out]; rfl, q, rfl⟩
      · obtain ⟨m, rfl⟩ : ∃ m, k = m + 1 := ⟨k - 1, by omega⟩
        obtain ⟨b1, o1, rfl, _, q1⟩ := G1.out.at_ (show m < n by omega)
        obtain ⟨b2, o2, rfl, _, q2⟩ := G2.out.at_ (show m < n by omega)
        have em : ((m + 1 : Nat) : Int) - 1 = (m : Int) := by omega
        rw [em]
        clear hk0 em
        have i1 : (m : Int) < (n : Int) := by omega
        have i0 : (0 : Int) ≤ (m : Int) := by omega
        rcases Nat.lt_trichotomy (dg a m) (dg b m) with hd | hd | hd
        · have HE := Lib.hid (cmpN_lt (cmp_step he.out hd))
          clear he
          generalize dg a m = x at *
          generalize dg b m = y at *
          go_wp2
          go_quiet (fail)
          go_wp2
          go_ret
          exact ⟨by rw [HE.out]; rfl, _, by simp only [drewN_two]; rfl⟩
        · have HE := Lib.hid (cmp_same he.out hd)
          clear he
          rw [← hd] at q2
          clear hd
          generalize dg a m = x at *
          go_wp2
          go_quiet (fail)
          go_wp2
          go_quiet (fail)
          go_wp2
          go_roundw
          case rel => exact ⟨m, by omega, HE, rfl, _, rfl⟩
          case measure => simp [intOf]
        · have HE := Lib.hid (cmpN_gt (cmp_step he.out.symm hd))
          have hd' : ¬ dg a m < dg b m := by omega
          clear he
          generalize dg a m = x at *
          generalize dg b m = y at *
          go_wp2
          go_quiet (fail)
          go_wp2
          go_quiet (fail)
          go_wp2
          go_ret
          exact ⟨by rw [HE.out]; rfl, _, by simp only [drewN_two]; rfl⟩
  · rw [cmpN_gt (lt_of_nd hl)]
    generalize nd a = n1 at *
    generalize nd b = n2 at *
    clear h1 h2
    have h3 : ¬ n1 < n2 := by omega
    have h4 : ¬ n1 = n2 := by omega
    go_enter Tryz.func79, Tryz.ntmps79
    go_wp2
    go_ret
    exact ⟨rfl, 0, rfl⟩

set_option maxRecDepth 100000 in
set_option maxHeartbeats 1600000 in
theorem rcmp_any (A1 A2 : Option Addr) (c1 c2 a b : Nat) (w : World) (h1 : Nt .u64 w w.heap.size A1 c1 a) (h2 : Nt .u64 w w.heap.size A2 c2 b) (hn1 : nd a ≤ 4611686018427387904) :
    Calls Tryz.prog 123 #[.slice A1 (nd a) c1, .slice A2 (nd b) c2] w fun e w' => e = .returned (.int .i64 (cmpN a b)) ∧ ∃ q, w' = w.drewN q := by
  rcases Nat.lt_trichotomy (nd a) (nd b) with hl | hl | hl
  · rw [cmpN_lt (lt_of_nd hl)]
    generalize nd a = n1 at *
    generalize nd b = n2 at *
    clear h1 h2
    go_enter Tryz.func123, Tryz.ntmps123
    go_wp2
    go_ret
    exact ⟨rfl, 0, rfl⟩
  · have hall : a / pw (nd a) = b / pw (nd a) := by rw [div_zero (Nat.le_refl _), div_zero (by omega)]
    have G1 := Lib.hid h1
    have G2 := Lib.hid h2
    unfold Nt at G1 G2
    clear h1 h2
    rw [← hl] at G2 ⊢
    clear hl
    generalize nd a = n at *
    go_enter Tryz.func123, Tryz.ntmps123
    go_wp2
    go_loopw [5] (fun i wr => ∃ k : Nat, k ≤ n ∧ Hid (a / pw k = b / pw k) ∧ i = .int .i64 ((k : Int) - 1) ∧ ∃ q, wr = w.drewN q) (fun i _ => (intOf i + 1).toNat)
    case atStart => exact ⟨n, Nat.le_refl _, Lib.hid hall, rfl, 0, rfl⟩
    case round =>
      clear hall
      obtain ⟨k, hk, he, rfl, q, rfl⟩ := hrel
      by_cases hk0 : k = 0
      · subst hk0
        have HE := Lib.hid (cmpN_eq (cmp_end he.out))
        clear he
        go_wp2
        go_ret
        exact ⟨by rw [HE.out]; rfl, q, rfl⟩
      · obtain ⟨m, rfl⟩ : ∃ m, k = m + 1 := ⟨k - 1, by omega⟩
        obtain ⟨b1, o1, rfl, _, q1⟩ := G1.out.at_ (show m < n by omega)
        obtain ⟨b2, o2, rfl, _, q2⟩ := G2.out.at_ (show m < n by omega)
        have em : ((m + 1 : Nat) : Int) - 1 = (m : Int) := by omega
        rw [em]
        clear hk0 em
        have i1 : (m : Int) < (n : Int) := by omega
        have i0 : (0 : Int) ≤ (m : Int) := by omega
        rcases Nat.lt_trichotomy (dg a m) (dg b m) with hd | hd | hd
        · have HE := Lib.hid (cmpN_lt (cmp_step he.out hd))
          clear he
          generalize dg a m = x at *
          generalize dg b m = y at *
          go_wp2
          go_quiet (fail)
          go_wp2
          go_ret
          exact ⟨by rw [HE.out]; rfl, _, by simp only [drewN_two]; rfl⟩
        · have HE := Lib.hid (cmp_same he.out hd)
          clear he
          rw [← hd] at q2
          clear hd
          generalize dg a m = x at *
          go_wp2
          go_quiet (fail)
          go_wp2
          go_quiet (fail)
          go_wp2
          go_roundw
          case rel => exact ⟨m, by omega, HE, rfl, _, rfl⟩
          case measure => simp [intOf]
        · have HE := Lib.hid (cmpN_gt (cmp_step he.out.symm hd))
          have hd' : ¬ dg a m < dg b m := by omega
          clear he
          generalize dg a m = x at *
          generalize dg b m = y at *
          go_wp2
          go_quiet (fail)
          go_wp2
          go_quiet (fail)
          go_wp2
          go_ret
          exact ⟨by rw [HE.out]; rfl, _, by simp only [drewN_two]; rfl⟩
  · rw [cmpN_gt (lt_of_nd hl)]
    generalize nd a = n1 at *
    generalize nd b = n2 at *
    clear h1 h2
    have h3 : ¬ n1 < n2 := by omega
    have h4 : ¬ n1 = n2 := by omega
    go_enter Tryz.func123, Tryz.ntmps123
    go_wp2
    go_ret
    exact ⟨rfl, 0, rfl⟩

end Go.Proofs.YthjnmnepjeegiaaGreatDoor

/- short and scale of the program, small of the reference. -/
namespace Go.Proofs.YthjnmnepjeegiaaGreatDoor
open Go.RowKit Go.Proofs.YthjnmnepjeegiaaGreatDoor.Dg

theorem Tryz.infoU32 : (Tryz.prog.info? 77).map (fun i => (i.zero, i.size, i.bytes)) = some (some (.int .u32 0), 1, 4) := by kernel_rfl
theorem Tryz.infoU64 : (Tryz.prog.info? 75).map (fun i => (i.zero, i.size, i.bytes)) = some (some (.int .u64 0), 1, 8) := by kernel_rfl

/-- A row of the call's own in a world that has kept all that was. -/
def Rw (k : IntKind) (w wr : World) (g : Nat) (t : TypeId) (n : Nat) (o : Nat → Nat) : Prop := Below w.heap.size w wr ∧ Lw k wr g t n o
def lowz (q k : Nat) : Nat → Nat := fun j => if k ≤ j then dg q j else 0
theorem lowz_step {q k : Nat} (j : Nat) : upd (lowz q (k + 1)) k (dg q k) j = lowz q k j := by
  unfold upd lowz
  split
  · rename_i h; subst h; rw [if_pos (Nat.le_refl _)]
  · rename_i h
    by_cases h1 : k + 1 ≤ j
    · rw [if_pos h1, if_pos (by omega)]
    · rw [if_neg h1, if_neg (by omega)]
/-- What a function gives that returns the number a and a small number r. -/
def GiveNR (k : IntKind) (w : World) (a : Nat) (r : Nat) (e : Ending) (w' : World) : Prop := ∃ A c, e = .returned (.tuple #[.slice A (nd a) c, .int .u64 (r : Int)]) ∧ Nt k w' w'.heap.size A c a ∧ Below w.heap.size w w'

set_option maxRecDepth 100000 in
set_option maxHeartbeats 1600000 in
theorem short_any (A : Option Addr) (c a m : Nat) (w : World) (h : Nt .u32 w w.heap.size A c a) (hn : nd a ≤ 1000000) (hm0 : 0 < m) (hm : m ≤ 1000000000) :
    Calls Tryz.prog 91 #[.slice A (nd a) c, .int .u64 m] w (GiveNR .u32 w (a / m) (a % m)) := by
  have hmk := fun w => run_make_row' (P := Tryz.prog) 39 77 (.int .u32 0) 4 Tryz.underlying39 Tryz.infoU32 rfl .i64 .i64 (nd a) (by omega) (by omega) w
  have H := Lib.hid h
  unfold Nt at H
  have hdz : a / pw (nd a) % m = 0 := by rw [div_zero (Nat.le_refl _)]; simp
  have hnq : nd (a / m) ≤ nd a := nd_mono (Nat.div_le_self _ _)
  have hq0 : ∀ j, nd a ≤ j → dg (a / m) j = 0 := fun j hj => dg_zero (by omega)
  have R0 : Hid (Rw .u32 w (w.alloc (.cells (madeCells #[.int .u32 0] (nd a)) 77)) w.heap.size 77 (nd a) (lowz (a / m) (nd a))) :=
    ⟨(Below.refl _ _).alloc (Nat.le_refl _) _, (Lw.made .u32 w (nd a) 77).congr fun j hj => by unfold lowz; rw [if_neg (by omega)]⟩
  have HQ := Lib.hid hq0
  have HD := Lib.hid hdz
  clear h hdz hq0
  generalize hN : nd a = n at *
  have HN := Lib.hid hN
  clear hN
  go_enter Tryz.func91, Tryz.ntmps91
  go_wp2
  clear hmk
  go_loopw [7, 8] (fun r i wr => ∃ k : Nat, k ≤ n ∧ i = .int .i64 ((k : Int) - 1) ∧ r = .int .u64 ((a / pw k % m : Nat) : Int) ∧ Hid (Rw .u32 w wr w.heap.size 77 n (lowz (a / m) k))) (fun _ i _ => (intOf i + 1).toNat)
  case atStart => exact ⟨n, Nat.le_refl _, rfl, by rw [HD.out]; rfl, R0⟩
  case round =>
    clear R0 HD
    obtain ⟨k, hk, rfl, rfl, hR⟩ := hrel
    have hB := Lib.hid hR.out.1
    have hL := Lib.hid hR.out.2
    by_cases hk0 : k = 0
    · subst hk0
      have T := fun hw0 => trim_any (some ⟨w.heap.size, 0, none⟩) n n (lowz (a / m) 0) wr (hL.out.fs (Nat.le_refl _) (Nat.le_refl _)) hw0 (by omega)
      have T1 := T (fun j hj => by unfold lowz; rw [if_pos (Nat.zero_le _)]; exact dg_lt _ _)
      have hs : sumTo (lowz (a / m) 0) n = a / m := by
        rw [sumTo_congr (o' := dg (a / m)) (fun j _ => by unfold lowz; rw [if_pos (Nat.zero_le _)]), sumTo_dg, mod_all hnq]
      rw [hs] at T1
      have hr : a / pw 0 % m = a % m := by rw [pw_zero, Nat.div_one]
      rw [hr]
      have HF := Lib.hid (show Nt .u32 wr wr.heap.size (some ⟨w.heap.size, 0, none⟩) n (a / m) from
        ((hL.out.fs (m := nd (a / m)) hnq hnq).congr fun j _ => by unfold lowz; rw [if_pos (Nat.zero_le _)]))
      clear T hs hr
      go_wp2_with (go_at_call 60; (with_reducible refine T1.mono ?_); rintro e w1 ⟨rfl, rfl⟩)
      go_ret2
      exact ⟨_, _, rfl, HF.out, hB.out⟩
    · obtain ⟨j, rfl⟩ : ∃ j, k = j + 1 := ⟨k - 1, by omega⟩
      obtain ⟨b, off, rfl, hlt, q1⟩ := H.out.at_ (show j < n by omega)
      have q2 : wr.cell? ⟨b, off + j, none⟩ = some (.int .u32 (dg a j : Int)) := (hB.out.cell (p := ⟨b, off + j, none⟩) hlt).trans q1
      have tc := hL.out.cell (show j < n by omega)
      have tf := hL.out.frozen j
      have em : ((j + 1 : Nat) : Int) - 1 = (j : Int) := by omega
      rw [em]
      obtain ⟨s1, s2, s3⟩ := short_step (a := a) (i := j) hm0 rfl
      have hx : a / pw (j + 1) % m < m := Nat.mod_lt _ hm0
      have hd := dg_lt a j
      rw [Nat.mod_eq_of_lt s2] at s1
      have S3 := Lib.hid s3
      have HS := Lib.hid (show Rw .u32 w (wr.setCell ⟨w.heap.size, j, none⟩ (.int .u32 (dg (a / m) j : Int))) w.heap.size 77 n (lowz (a / m) j) from
        ⟨hB.out.setCell (Nat.le_refl _) _, (hL.out.set j (dg (a / m) j)).congr fun i _ => lowz_step i⟩)
      clear hk0 em q1 hR hB hL s3
      generalize a / pw (j + 1) % m = x at *
      generalize dg a j = d at *
      generalize dg (a / m) j = q' at *
      generalize lowz (a / m) (j + 1) j = z at *
      have i1 : (j : Int) < (n : Int) := by omega
      have i0 : (0 : Int) ≤ (j : Int) := by omega
      have b1 : (x : Int) ≤ 999999999 := by omega
      have b2 : (d : Int) ≤ 999999999 := by omega
      have b3 : (q' : Int) ≤ 999999999 := by omega
      have b4 : (0 : Int) < (m : Int) := by omega
      have e1 : ((x : Int) * 1000000000 + (d : Int)) / (m : Int) = (q' : Int) := by rw [← s1]; simp only [Int.natCast_ediv, Int.natCast_add, Int.natCast_mul]; rfl
      have E2 := Lib.hid (show ((x : Int) * 1000000000 + (d : Int)) % (m : Int) = ((a / pw j % m : Nat) : Int) by rw [← S3.out]; simp only [Int.natCast_emod, Int.natCast_add, Int.natCast_mul]; rfl)
      clear s1 s2 hx hd
      go_wp2
      go_roundw
      case rel => exact ⟨j, by omega, rfl, by rw [E2.out], HS⟩
      case measure => simp [intOf]

/-- A row of limbs of the call's own. -/
def Rb (k : IntKind) (w wr : World) (g : Nat) (t : TypeId) (n : Nat) (o : Nat → Nat) : Prop := Below w.heap.size w wr ∧ Lw k wr g t n o ∧ w.heap.size ≤ g ∧ ∀ j, j < n → o j < 1000000000
theorem Rb.set {k : IntKind} {w wr : World} {g n : Nat} {t : TypeId} {o : Nat → Nat} (h : Rb k w wr g t n o) (i v : Nat) (hv : v < 1000000000) : Rb k w (wr.setCell ⟨g, i, none⟩ (.int k ((v : Nat) : Int))) g t n (upd o i v) :=
  ⟨h.1.setCell h.2.2.1 _, h.2.1.set i v, h.2.2.1, fun j hj => by unfold upd; split; exact hv; exact h.2.2.2 j hj⟩
theorem Rb.drewN {k : IntKind} {w wr : World} {g n : Nat} {t : TypeId} {o : Nat → Nat} (h : Rb k w wr g t n o) (q : Nat) : Rb k w (wr.drewN q) g t n o := ⟨below_drewN h.1 q, h.2.1, h.2.2⟩
theorem Rb.made (k : IntKind) (w : World) (n : Nat) (t : TypeId) : Rb k w (w.alloc (.cells (madeCells #[.int k 0] n) t)) w.heap.size t n (fun _ => 0) :=
  ⟨(Below.refl _ _).alloc (Nat.le_refl _) _, Lw.made k w n t, Nat.le_refl _, fun _ _ => (by decide : (0 : Nat) < 1000000000)⟩
/-- What a function gives that returns the number a in a row of its own. -/
def GiveO (k : IntKind) (t : TypeId) (w : World) (a : Nat) (e : Ending) (w' : World) : Prop := ∃ g n o, e = .returned (.slice (some ⟨g, 0, none⟩) (nd a) n) ∧ Rb k w w' g t n o ∧ sumTo o n = a
theorem GiveO.n {k : IntKind} {t : TypeId} {w w' : World} {a : Nat} {e : Ending} (h : GiveO k t w a e w') : GiveN k w a e w' := by
  obtain ⟨g, n, o, he, hr, hs⟩ := h
  refine ⟨_, _, he, ?_, hr.1⟩
  have h1 := nd_sum hr.2.2.2
  have h2 := (hr.2.1.fs (Nat.le_refl n) (Nat.le_refl n)).trimmed hr.2.2.2 h1
  rw [hs] at h2
  exact h2

def SumW (k : IntKind) (w wr : World) (g : Nat) (t : TypeId) (n i S : Nat) (C : Nat) : Prop := ∃ o, Rb k w wr g t n o ∧ sumTo o i + C = S

set_option maxRecDepth 100000 in
set_option maxHeartbeats 1600000 in
theorem scale_any (A : Option Addr) (c a m : Nat) (w : World) (h : Nt .u32 w w.heap.size A c a) (hn : nd a ≤ 1000000) (hm0 : 0 < m) (hm : m ≤ 1000000000) :
    Calls Tryz.prog 92 #[.slice A (nd a) c, .int .u64 m] w (GiveO .u32 77 w (a * m)) := by
  have hmk := fun w => run_make_row' (P := Tryz.prog) 39 77 (.int .u32 0) 4 Tryz.underlying39 Tryz.infoU32 rfl .i64 .i64 (nd a + 1) (by omega) (by omega) w
  push_cast at hmk
  have H := Lib.hid h
  unfold Nt at H
  have R0 : Hid (SumW .u32 w (w.alloc (.cells (madeCells #[.int .u32 0] (nd a + 1)) 77)) w.heap.size 77 (nd a + 1) 0 (a % pw 0 * m) (0 * pw 0)) :=
    ⟨_, Rb.made .u32 w (nd a + 1) 77, by rw [pw_zero, Nat.mod_one]; simp [sumTo]⟩
  have HA := Lib.hid (mod_all (Nat.le_refl (nd a)))
  clear h
  generalize hN : nd a = n at *
  have HN := Lib.hid hN
  clear hN
  go_enter Tryz.func92, Tryz.ntmps92
  go_wp2
  clear hmk
  go_loopw [6, 16] (fun r i wr => ∃ k cy : Nat, k ≤ n ∧ i = .int .i64 (k : Int) ∧ r = .int .u64 (cy : Int) ∧ cy < m ∧ Hid (SumW .u32 w wr w.heap.size 77 (n + 1) k (a % pw k * m) (cy * pw k))) (fun _ i _ => (n - intOf i).toNat)
  case atStart => exact ⟨0, 0, Nat.zero_le _, rfl, rfl, hm0, R0⟩
  case round =>
    clear R0
    obtain ⟨k, cy, hk, rfl, rfl, hcy, hR⟩ := hrel
    obtain ⟨o, hO, hS⟩ := hR.out
    have HO := Lib.hid hO
    have tc := hO.2.1.cell (show k < n + 1 by omega)
    have tf := hO.2.1.frozen k
    clear hR
    by_cases hk0 : k = n
    · subst hk0
      have h2 := hO.set k cy (by omega)
      have hs : sumTo (upd o k cy) (k + 1) = a * m := by
        rw [HA.out] at hS
        show sumTo (upd o k cy) k + upd o k cy k * pw k = a * m
        rw [sumTo_upd_out o cy (Nat.le_refl _), upd_at]; exact hS
      have T1 := trim_any (some ⟨w.heap.size, 0, none⟩) (k + 1) (k + 1) (upd o k cy) _ (h2.2.1.fs (Nat.le_refl _) (Nat.le_refl _)) h2.2.2.2 (by omega)
      rw [hs] at T1
      have H2 := Lib.hid h2
      have HS := Lib.hid hs
      clear h2 hs hS hO HO
      generalize o k = z at *
      go_wp2_with (go_at_call 60; (with_reducible refine T1.mono ?_); rintro e w1 ⟨rfl, rfl⟩)
      go_ret
      exact ⟨w.heap.size, k + 1, _, rfl, H2.out, HS.out⟩
    · obtain ⟨b, off, rfl, hlt, q1⟩ := H.out.at_ (show k < n by omega)
      have q2 : wr.cell? ⟨b, off + k, none⟩ = some (.int .u32 (dg a k : Int)) := (hO.1.cell (p := ⟨b, off + k, none⟩) hlt).trans q1
      have hd := dg_lt a k
      have hp1 : dg a k * m ≤ 999999999 * m := Nat.mul_le_mul_right _ (by omega)
      obtain ⟨v, hv⟩ : ∃ v, v = (dg a k * m + cy) % 1000000000 := ⟨_, rfl⟩
      obtain ⟨cy', hc'⟩ : ∃ cy', cy' = (dg a k * m + cy) / 1000000000 := ⟨_, rfl⟩
      have h2 := hO.set k v (by omega)
      have hs : sumTo (upd o k v) (k + 1) + cy' * pw (k + 1) = a % pw (k + 1) * m := by
        show sumTo (upd o k v) k + upd o k v k * pw k + cy' * pw (k + 1) = _
        rw [sumTo_upd_out o v (Nat.le_refl _), upd_at]
        exact scale_step hS (by omega)
      have H2 := Lib.hid (show SumW .u32 w _ w.heap.size 77 (n + 1) (k + 1) (a % pw (k + 1) * m) (cy' * pw (k + 1)) from ⟨_, h2, hs⟩)
      have eP : (dg a k : Int) * (m : Int) = ((dg a k * m : Nat) : Int) := (Int.natCast_mul _ _).symm
      generalize dg a k * m = p at *
      generalize dg a k = d at *
      clear q1 hs h2 hS hO HO
      generalize o k = z at *
      have b1 : (p : Int) ≤ 999999999000000000 := by omega
      have b2 : (cy : Int) ≤ 999999999 := by omega
      have b3 : (v : Int) ≤ 999999999 := by omega
      have b4 : (cy' : Int) ≤ 999999999 := by omega
      have hcm : cy' < m := by omega
      have e1 : ((p : Int) + (cy : Int)) % 1000000000 = (v : Int) := by omega
      have E2 := Lib.hid (show ((p : Int) + (cy : Int)) / 1000000000 = (cy' : Int) by omega)
      have i1 : k < n := by omega
      clear hv hc' hp1 hk0
      go_wp2
      go_roundw
      case rel => exact ⟨k + 1, cy', by omega, by go_num, by rw [E2.out], hcm, H2⟩
      case measure => simp [intOf]; omega

end Go.Proofs.YthjnmnepjeegiaaGreatDoor

/- Zero, One and Add of the program; small of the reference. -/
namespace Go.Proofs.YthjnmnepjeegiaaGreatDoor
open Go.RowKit Go.Proofs.YthjnmnepjeegiaaGreatDoor.Dg

set_option maxRecDepth 100000 in
set_option maxHeartbeats 800000 in
theorem zero_any (A : Option Addr) (c a : Nat) (w : World) :
    Calls Tryz.prog 41 #[.slice A (nd a) c] w fun e w' => e = .returned (.bool (decide (a = 0))) ∧ w' = w := by
  have he : decide (a = 0) = decide (nd a = 0) := by rw [decide_eq_decide]; exact nd_eq_zero.symm
  rw [he]
  generalize nd a = n at *
  clear he
  go_enter Tryz.func41, Tryz.ntmps41
  go_wp2
  go_ret
  exact ⟨by rw [show ((n : Int) == 0) = decide (n = 0) by rw [Bool.eq_iff_iff]; simp]; rfl, rfl⟩

theorem one_is {a : Nat} (h1 : nd a = 1) (h2 : dg a 0 = 1) : a = 1 := by
  have := nd_one_lt (show nd a ≤ 1 by omega)
  rw [dg0_small this] at h2
  exact h2
theorem nd_1 : nd 1 = 1 := by rw [nd_pos (by decide)]; show nd 0 + 1 = 1; rw [nd_zero]
theorem dg_1 : dg 1 0 = 1 := dg0_small (by decide)

set_option maxRecDepth 100000 in
set_option maxHeartbeats 800000 in
theorem one_any (A : Option Addr) (c a : Nat) (w : World) (h : Nt .u32 w w.heap.size A c a) :
    Calls Tryz.prog 58 #[.slice A (nd a) c] w fun e w' => e = .returned (.bool (decide (a = 1))) ∧ w' = w := by
  have H := Lib.hid h
  unfold Nt at H
  clear h
  by_cases h1 : nd a = 1
  · have hat := H.out.at_ (show 0 < nd a by omega)
    obtain ⟨b, off, rfl, _, hc⟩ := hat
    rw [Nat.add_zero] at hc
    rw [h1]
    by_cases h2 : dg a 0 = 1
    · have e : decide (a = 1) = true := decide_eq_true (one_is h1 h2)
      rw [e]
      rw [h2] at hc
      clear e h2 h1 H
      go_enter Tryz.func58, Tryz.ntmps58
      go_wp2
      go_ret
      exact ⟨rfl, rfl⟩
    · have e : decide (a = 1) = false := decide_eq_false (fun e => h2 (by rw [e, dg_1]))
      rw [e]
      clear e h1 H
      generalize dg a 0 = d at *
      go_enter Tryz.func58, Tryz.ntmps58
      go_wp2
      go_ret
      exact ⟨by simp; try omega, rfl⟩
  · have e : decide (a = 1) = false := decide_eq_false (fun e => h1 (by rw [e, nd_1]))
    rw [e]
    clear e H
    generalize nd a = n at *
    go_enter Tryz.func58, Tryz.ntmps58
    go_wp2
    go_ret
    exact ⟨by simp; try omega, rfl⟩

set_option maxRecDepth 100000 in
set_option maxHeartbeats 1600000 in
theorem small_any (A : Option Addr) (c a m : Nat) (w : World) (h : Nt .u64 w w.heap.size A c a) (hn : nd a ≤ 1000000) (hm0 : 0 < m) (hm : m ≤ 1000000000) :
    Calls Tryz.prog 124 #[.slice A (nd a) c, .int .u64 m] w (GiveNR .u64 w (a / m) (a % m)) := by
  have hmk := fun w => run_make_row' (P := Tryz.prog) 52 75 (.int .u64 0) 8 Tryz.underlying52 Tryz.infoU64 rfl .i64 .i64 (nd a) (by omega) (by omega) w
  have H := Lib.hid h
  unfold Nt at H
  have hdz : a / pw (nd a) % m = 0 := by rw [div_zero (Nat.le_refl _)]; simp
  have hnq : nd (a / m) ≤ nd a := nd_mono (Nat.div_le_self _ _)
  have hq0 : ∀ j, nd a ≤ j → dg (a / m) j = 0 := fun j hj => dg_zero (by omega)
  have R0 : Hid (Rw .u64 w (w.alloc (.cells (madeCells #[.int .u64 0] (nd a)) 75)) w.heap.size 75 (nd a) (lowz (a / m) (nd a))) :=
    ⟨(Below.refl _ _).alloc (Nat.le_refl _) _, (Lw.made .u64 w (nd a) 75).congr fun j hj => by unfold lowz; rw [if_neg (by omega)]⟩
  have HQ := Lib.hid hq0
  have HD := Lib.hid hdz
  clear h hdz hq0
  generalize hN : nd a = n at *
  have HN := Lib.hid hN
  clear hN
  go_enter Tryz.func124, Tryz.ntmps124
  go_wp2
  clear hmk
  go_loopw [7, 8] (fun r i wr => ∃ k : Nat, k ≤ n ∧ i = .int .i64 ((k : Int) - 1) ∧ r = .int .u64 ((a / pw k % m : Nat) : Int) ∧ Hid (Rw .u64 w wr w.heap.size 75 n (lowz (a / m) k))) (fun _ i _ => (intOf i + 1).toNat)
  case atStart => exact ⟨n, Nat.le_refl _, rfl, by rw [HD.out]; rfl, R0⟩
  case round =>
    clear R0 HD
    obtain ⟨k, hk, rfl, rfl, hR⟩ := hrel
    have hB := Lib.hid hR.out.1
    have hL := Lib.hid hR.out.2
    by_cases hk0 : k = 0
    · subst hk0
      have T := fun hw0 => rtrim_any (some ⟨w.heap.size, 0, none⟩) n n (lowz (a / m) 0) wr (hL.out.fs (Nat.le_refl _) (Nat.le_refl _)) hw0 (by omega)
      have T1 := T (fun j hj => by unfold lowz; rw [if_pos (Nat.zero_le _)]; exact dg_lt _ _)
      have hs : sumTo (lowz (a / m) 0) n = a / m := by
        rw [sumTo_congr (o' := dg (a / m)) (fun j _ => by unfold lowz; rw [if_pos (Nat.zero_le _)]), sumTo_dg, mod_all hnq]
      rw [hs] at T1
      have hr : a / pw 0 % m = a % m := by rw [pw_zero, Nat.div_one]
      rw [hr]
      have HF := Lib.hid (show Nt .u64 wr wr.heap.size (some ⟨w.heap.size, 0, none⟩) n (a / m) from
        ((hL.out.fs (m := nd (a / m)) hnq hnq).congr fun j _ => by unfold lowz; rw [if_pos (Nat.zero_le _)]))
      clear T hs hr
      go_wp2_with (go_at_call 102; (with_reducible refine T1.mono ?_); rintro e w1 ⟨rfl, rfl⟩)
      go_ret2
      exact ⟨_, _, rfl, HF.out, hB.out⟩
    · obtain ⟨j, rfl⟩ : ∃ j, k = j + 1 := ⟨k - 1, by omega⟩
      obtain ⟨b, off, rfl, hlt, q1⟩ := H.out.at_ (show j < n by omega)
      have q2 : wr.cell? ⟨b, off + j, none⟩ = some (.int .u64 (dg a j : Int)) := (hB.out.cell (p := ⟨b, off + j, none⟩) hlt).trans q1
      have tc := hL.out.cell (show j < n by omega)
      have tf := hL.out.frozen j
      have em : ((j + 1 : Nat) : Int) - 1 = (j : Int) := by omega
      rw [em]
      obtain ⟨s1, s2, s3⟩ := short_step (a := a) (i := j) hm0 rfl
      have hx : a / pw (j + 1) % m < m := Nat.mod_lt _ hm0
      have hd := dg_lt a j
      rw [Nat.mod_eq_of_lt s2] at s1
      have S3 := Lib.hid s3
      have HS := Lib.hid (show Rw .u64 w (wr.setCell ⟨w.heap.size, j, none⟩ (.int .u64 (dg (a / m) j : Int))) w.heap.size 75 n (lowz (a / m) j) from
        ⟨hB.out.setCell (Nat.le_refl _) _, (hL.out.set j (dg (a / m) j)).congr fun i _ => lowz_step i⟩)
      clear hk0 em q1 hR hB hL s3
      generalize a / pw (j + 1) % m = x at *
      generalize dg a j = d at *
      generalize dg (a / m) j = q' at *
      generalize lowz (a / m) (j + 1) j = z at *
      have i1 : (j : Int) < (n : Int) := by omega
      have i0 : (0 : Int) ≤ (j : Int) := by omega
      have b1 : (x : Int) ≤ 999999999 := by omega
      have b2 : (d : Int) ≤ 999999999 := by omega
      have b3 : (q' : Int) ≤ 999999999 := by omega
      have b4 : (0 : Int) < (m : Int) := by omega
      have e1 : ((x : Int) * 1000000000 + (d : Int)) / (m : Int) = (q' : Int) := by rw [← s1]; simp only [Int.natCast_ediv, Int.natCast_add, Int.natCast_mul]; rfl
      have E2 := Lib.hid (show ((x : Int) * 1000000000 + (d : Int)) % (m : Int) = ((a / pw j % m : Nat) : Int) by rw [← S3.out]; simp only [Int.natCast_emod, Int.natCast_add, Int.natCast_mul]; rfl)
      clear s1 s2 hx hd
      go_wp2
      go_roundw
      case rel => exact ⟨j, by omega, rfl, by rw [E2.out], HS⟩
      case measure => simp [intOf]

set_option maxRecDepth 100000 in
set_option maxHeartbeats 1600000 in
theorem add_ge (A1 A2 : Option Addr) (c1 c2 a b : Nat) (w : World) (h1 : Nt .u32 w w.heap.size A1 c1 a) (h2 : Nt .u32 w w.heap.size A2 c2 b) (hn1 : nd a ≤ 1000000) (hl : nd b ≤ nd a) :
    Calls Tryz.prog 78 #[.slice A1 (nd a) c1, .slice A2 (nd b) c2] w (GiveO .u32 77 w (a + b)) := by
  have hmk := fun w => run_make_row' (P := Tryz.prog) 39 77 (.int .u32 0) 4 Tryz.underlying39 Tryz.infoU32 rfl .i64 .i64 (nd a + 1) (by omega) (by omega) w
  push_cast at hmk
  have H1 := Lib.hid h1
  have H2 := Lib.hid h2
  unfold Nt at H1 H2
  have R0 : Hid (SumW .u32 w (w.alloc (.cells (madeCells #[.int .u32 0] (nd a + 1)) 77)) w.heap.size 77 (nd a + 1) 0 (a % pw 0 + b % pw 0) (0 * pw 0)) :=
    ⟨_, Rb.made .u32 w (nd a + 1) 77, by rw [pw_zero, Nat.mod_one, Nat.mod_one]; simp [sumTo]⟩
  have HA := Lib.hid (mod_all (Nat.le_refl (nd a)))
  have HB := Lib.hid (mod_all (show nd b ≤ nd a by omega))
  have HZ := Lib.hid (fun k (hk : nd b ≤ k) => dg_zero hk)
  clear h1 h2
  generalize hN : nd a = n at *
  have HN := Lib.hid hN
  clear hN
  generalize hM : nd b = m at *
  have HM := Lib.hid hM
  clear hM
  have hl' : ¬ n < m := by omega
  go_enter Tryz.func78, Tryz.ntmps78
  go_wp2
  clear hmk
  go_loopw [6, 23] (fun r i wr => ∃ k cy : Nat, k ≤ n ∧ i = .int .i64 (k : Int) ∧ r = .int .u32 (cy : Int) ∧ cy ≤ 1 ∧ Hid (SumW .u32 w wr w.heap.size 77 (n + 1) k (a % pw k + b % pw k) (cy * pw k))) (fun _ i _ => (n - intOf i).toNat)
  case atStart => exact ⟨0, 0, Nat.zero_le _, rfl, rfl, by omega, R0⟩
  case round =>
    clear R0
    obtain ⟨k, cy, hk, rfl, rfl, hcy, hR⟩ := hrel
    obtain ⟨o, hO, hS⟩ := hR.out
    have HO := Lib.hid hO
    have tc := hO.2.1.cell (show k < n + 1 by omega)
    have tf := hO.2.1.frozen k
    clear hR
    by_cases hk0 : k = n
    · subst hk0
      have h2 := hO.set k cy (by omega)
      have hs : sumTo (upd o k cy) (k + 1) = a + b := by
        rw [HA.out, HB.out] at hS
        show sumTo (upd o k cy) k + upd o k cy k * pw k = a + b
        rw [sumTo_upd_out o cy (Nat.le_refl _), upd_at]; exact hS
      have T1 := trim_any (some ⟨w.heap.size, 0, none⟩) (k + 1) (k + 1) (upd o k cy) _ (h2.2.1.fs (Nat.le_refl _) (Nat.le_refl _)) h2.2.2.2 (by omega)
      rw [hs] at T1
      have G2 := Lib.hid h2
      have HS := Lib.hid hs
      clear h2 hs hS hO HO
      generalize o k = z at *
      go_wp2_with (go_at_call 60; (with_reducible refine T1.mono ?_); rintro e w1 ⟨rfl, rfl⟩)
      go_ret
      exact ⟨w.heap.size, k + 1, _, rfl, G2.out, HS.out⟩
    · obtain ⟨b1, o1, rfl, hlt1, q1⟩ := H1.out.at_ (show k < n by omega)
      have p1 : wr.cell? ⟨b1, o1 + k, none⟩ = some (.int .u32 (dg a k : Int)) := (hO.1.cell (p := ⟨b1, o1 + k, none⟩) hlt1).trans q1
      have hd1 := dg_lt a k
      have hd2 := dg_lt b k
      obtain ⟨v, hv⟩ : ∃ v, v = (dg a k + cy + dg b k) % 1000000000 := ⟨_, rfl⟩
      obtain ⟨cy', hc'⟩ : ∃ cy', cy' = (dg a k + cy + dg b k) / 1000000000 := ⟨_, rfl⟩
      have h2 := hO.set k v (by omega)
      have hs : sumTo (upd o k v) (k + 1) + cy' * pw (k + 1) = a % pw (k + 1) + b % pw (k + 1) := by
        show sumTo (upd o k v) k + upd o k v k * pw k + cy' * pw (k + 1) = _
        rw [sumTo_upd_out o v (Nat.le_refl _), upd_at]
        exact add_step hS (by omega)
      have G2 := Lib.hid (show SumW .u32 w _ w.heap.size 77 (n + 1) (k + 1) (a % pw (k + 1) + b % pw (k + 1)) (cy' * pw (k + 1)) from ⟨_, h2, hs⟩)
      have hcm : cy' ≤ 1 := by omega
      have i1 : k < n := by omega
      by_cases hkm : k < m
      · obtain ⟨b2, o2, rfl, hlt2, q2⟩ := H2.out.at_ hkm
        have p2 : wr.cell? ⟨b2, o2 + k, none⟩ = some (.int .u32 (dg b k : Int)) := (hO.1.cell (p := ⟨b2, o2 + k, none⟩) hlt2).trans q2
        generalize dg a k = x at *
        generalize dg b k = y at *
        clear q1 q2 hs h2 hS hO HO
        generalize o k = z at *
        have c1 : (x : Int) ≤ 999999999 := by omega
        have c2 : (y : Int) ≤ 999999999 := by omega
        have c3 : (cy : Int) ≤ 1 := by omega
        have c4 : (v : Int) ≤ 999999999 := by omega
        have e1 : ((x : Int) + (cy : Int) + (y : Int)) % 1000000000 = (v : Int) := by omega
        have E2 := Lib.hid (show ((x : Int) + (cy : Int) + (y : Int)) / 1000000000 = (cy' : Int) by omega)
        clear hv hc' hk0
        go_wp2
        go_roundw
        case rel => exact ⟨k + 1, cy', by omega, by go_num, by rw [E2.out], hcm, G2⟩
        case measure => simp [intOf]; omega
      · have hy := HZ.out k (by omega)
        rw [hy] at hv hc'
        generalize dg a k = x at *
        clear q1 hs h2 hS hO HO hy hd2
        generalize o k = z at *
        have c1 : (x : Int) ≤ 999999999 := by omega
        have c3 : (cy : Int) ≤ 1 := by omega
        have c4 : (v : Int) ≤ 999999999 := by omega
        have e1 : ((x : Int) + (cy : Int)) % 1000000000 = (v : Int) := by omega
        have E2 := Lib.hid (show ((x : Int) + (cy : Int)) / 1000000000 = (cy' : Int) by omega)
        clear hv hc' hk0
        go_wp2
        go_roundw
        case rel => exact ⟨k + 1, cy', by omega, by go_num, by rw [E2.out], hcm, G2⟩
        case measure => simp [intOf]; omega

set_option maxRecDepth 100000 in
set_option maxHeartbeats 1600000 in
theorem add_lt (A1 A2 : Option Addr) (c1 c2 a b : Nat) (w : World) (h1 : Nt .u32 w w.heap.size A1 c1 a) (h2 : Nt .u32 w w.heap.size A2 c2 b) (hn1 : nd a ≤ 1000000) (hl : nd b < nd a) :
    Calls Tryz.prog 78 #[.slice A2 (nd b) c2, .slice A1 (nd a) c1] w (GiveO .u32 77 w (a + b)) := by
  have hmk := fun w => run_make_row' (P := Tryz.prog) 39 77 (.int .u32 0) 4 Tryz.underlying39 Tryz.infoU32 rfl .i64 .i64 (nd a + 1) (by omega) (by omega) w
  push_cast at hmk
  have H1 := Lib.hid h1
  have H2 := Lib.hid h2
  unfold Nt at H1 H2
  have R0 : Hid (SumW .u32 w (w.alloc (.cells (madeCells #[.int .u32 0] (nd a + 1)) 77)) w.heap.size 77 (nd a + 1) 0 (a % pw 0 + b % pw 0) (0 * pw 0)) :=
    ⟨_, Rb.made .u32 w (nd a + 1) 77, by rw [pw_zero, Nat.mod_one, Nat.mod_one]; simp [sumTo]⟩
  have HA := Lib.hid (mod_all (Nat.le_refl (nd a)))
  have HB := Lib.hid (mod_all (show nd b ≤ nd a by omega))
  have HZ := Lib.hid (fun k (hk : nd b ≤ k) => dg_zero hk)
  clear h1 h2
  generalize hN : nd a = n at *
  have HN := Lib.hid hN
  clear hN
  generalize hM : nd b = m at *
  have HM := Lib.hid hM
  clear hM
  have hl' : m < n := by omega
  go_enter Tryz.func78, Tryz.ntmps78
  go_wp2
  clear hmk
  go_loopw [6, 23] (fun r i wr => ∃ k cy : Nat, k ≤ n ∧ i = .int .i64 (k : Int) ∧ r = .int .u32 (cy : Int) ∧ cy ≤ 1 ∧ Hid (SumW .u32 w wr w.heap.size 77 (n + 1) k (a % pw k + b % pw k) (cy * pw k))) (fun _ i _ => (n - intOf i).toNat)
  case atStart => exact ⟨0, 0, Nat.zero_le _, rfl, rfl, by omega, R0⟩
  case round =>
    clear R0
    obtain ⟨k, cy, hk, rfl, rfl, hcy, hR⟩ := hrel
    obtain ⟨o, hO, hS⟩ := hR.out
    have HO := Lib.hid hO
    have tc := hO.2.1.cell (show k < n + 1 by omega)
    have tf := hO.2.1.frozen k
    clear hR
    by_cases hk0 : k = n
    · subst hk0
      have h2 := hO.set k cy (by omega)
      have hs : sumTo (upd o k cy) (k + 1) = a + b := by
        rw [HA.out, HB.out] at hS
        show sumTo (upd o k cy) k + upd o k cy k * pw k = a + b
        rw [sumTo_upd_out o cy (Nat.le_refl _), upd_at]; exact hS
      have T1 := trim_any (some ⟨w.heap.size, 0, none⟩) (k + 1) (k + 1) (upd o k cy) _ (h2.2.1.fs (Nat.le_refl _) (Nat.le_refl _)) h2.2.2.2 (by omega)
      rw [hs] at T1
      have G2 := Lib.hid h2
      have HS := Lib.hid hs
      clear h2 hs hS hO HO
      generalize o k = z at *
      go_wp2_with (go_at_call 60; (with_reducible refine T1.mono ?_); rintro e w1 ⟨rfl, rfl⟩)
      go_ret
      exact ⟨w.heap.size, k + 1, _, rfl, G2.out, HS.out⟩
    · obtain ⟨b1, o1, rfl, hlt1, q1⟩ := H1.out.at_ (show k < n by omega)
      have p1 : wr.cell? ⟨b1, o1 + k, none⟩ = some (.int .u32 (dg a k : Int)) := (hO.1.cell (p := ⟨b1, o1 + k, none⟩) hlt1).trans q1
      have hd1 := dg_lt a k
      have hd2 := dg_lt b k
      obtain ⟨v, hv⟩ : ∃ v, v = (dg a k + cy + dg b k) % 1000000000 := ⟨_, rfl⟩
      obtain ⟨cy', hc'⟩ : ∃ cy', cy' = (dg a k + cy + dg b k) / 1000000000 := ⟨_, rfl⟩
      have h2 := hO.set k v (by omega)
      have hs : sumTo (upd o k v) (k + 1) + cy' * pw (k + 1) = a % pw (k + 1) + b % pw (k + 1) := by
        show sumTo (upd o k v) k + upd o k v k * pw k + cy' * pw (k + 1) = _
        rw [sumTo_upd_out o v (Nat.le_refl _), upd_at]
        exact add_step hS (by omega)
      have G2 := Lib.hid (show SumW .u32 w _ w.heap.size 77 (n + 1) (k + 1) (a % pw (k + 1) + b % pw (k + 1)) (cy' * pw (k + 1)) from ⟨_, h2, hs⟩)
      have hcm : cy' ≤ 1 := by omega
      have i1 : k < n := by omega
      by_cases hkm : k < m
      · obtain ⟨b2, o2, rfl, hlt2, q2⟩ := H2.out.at_ hkm
        have p2 : wr.cell? ⟨b2, o2 + k, none⟩ = some (.int .u32 (dg b k : Int)) := (hO.1.cell (p := ⟨b2, o2 + k, none⟩) hlt2).trans q2
        generalize dg a k = x at *
        generalize dg b k = y at *
        clear q1 q2 hs h2 hS hO HO
        generalize o k = z at *
        have c1 : (x : Int) ≤ 999999999 := by omega
        have c2 : (y : Int) ≤ 999999999 := by omega
        have c3 : (cy : Int) ≤ 1 := by omega
        have c4 : (v : Int) ≤ 999999999 := by omega
        have e1 : ((x : Int) + (cy : Int) + (y : Int)) % 1000000000 = (v : Int) := by omega
        have E2 := Lib.hid (show ((x : Int) + (cy : Int) + (y : Int)) / 1000000000 = (cy' : Int) by omega)
        clear hv hc' hk0
        go_wp2
        go_roundw
        case rel => exact ⟨k + 1, cy', by omega, by go_num, by rw [E2.out], hcm, G2⟩
        case measure => simp [intOf]; omega
      · have hy := HZ.out k (by omega)
        rw [hy] at hv hc'
        generalize dg a k = x at *
        clear q1 hs h2 hS hO HO hy hd2
        generalize o k = z at *
        have c1 : (x : Int) ≤ 999999999 := by omega
        have c3 : (cy : Int) ≤ 1 := by omega
        have c4 : (v : Int) ≤ 999999999 := by omega
        have e1 : ((x : Int) + (cy : Int)) % 1000000000 = (v : Int) := by omega
        have E2 := Lib.hid (show ((x : Int) + (cy : Int)) / 1000000000 = (cy' : Int) by omega)
        clear hv hc' hk0
        go_wp2
        go_roundw
        case rel => exact ⟨k + 1, cy', by omega, by go_num, by rw [E2.out], hcm, G2⟩
        case measure => simp [intOf]; omega

theorem add_any (A1 A2 : Option Addr) (c1 c2 a b : Nat) (w : World) (h1 : Nt .u32 w w.heap.size A1 c1 a) (h2 : Nt .u32 w w.heap.size A2 c2 b) (hn1 : nd a ≤ 1000000) (hn2 : nd b ≤ 1000000) :
    Calls Tryz.prog 78 #[.slice A1 (nd a) c1, .slice A2 (nd b) c2] w (GiveO .u32 77 w (a + b)) := by
  rcases Nat.lt_or_ge (nd a) (nd b) with h | h
  · rw [Nat.add_comm]; exact add_lt A2 A1 c2 c1 b a w h2 h1 hn2 h
  · exact add_ge A1 A2 c1 c2 a b w h1 h2 hn1 h

end Go.Proofs.YthjnmnepjeegiaaGreatDoor

/- Small of the program, NatOf of the reference; rows of limbs made by append. -/
namespace Go.Proofs.YthjnmnepjeegiaaGreatDoor
open Go.RowKit Go.Proofs.YthjnmnepjeegiaaGreatDoor.Dg

theorem own_ge {w : World} {base e n g : Nat} {v : Value} {xs : List Value} (h : w.ownsRow base e 1 v n xs) (hg : v.ownBlock = some g) : base ≤ g ∧ g < w.heap.size := by
  rcases h.2 with ⟨rfl, _⟩ | ⟨g', cap, cur, rfl, hb, hgg, _⟩
  · simp [Value.ownBlock] at hg
  · simp [Value.ownBlock] at hg
    subst hg
    exact ⟨hb, (Array.getElem?_eq_some_iff.1 hgg).1⟩
theorem grown_below {w0 w w' : World} {n e : Nat} {v : Value} {xs : List Value} (h : w.ownsRow w0.heap.size e 1 v n xs) (hb : Below w0.heap.size w0 w) (hg : w.grownBy w' v.ownBlock) : Below w0.heap.size w0 w' := by
  refine hb.trans ⟨hg.os, hg.tape, hg.output, hg.size, fun i hi => hg.block i (Nat.lt_of_lt_of_le hi hb.size) fun e => ?_⟩
  have := (own_ge h e.symm).1
  omega

/-- The cells of a row of limbs. -/
def limbs (k : IntKind) (n : Nat) (o : Nat → Nat) : List Value := (List.range n).map fun j => .int k ((o j : Nat) : Int)
theorem limbs_succ (k : IntKind) (n : Nat) (o : Nat → Nat) : limbs k (n + 1) o = limbs k n o ++ [.int k ((o n : Nat) : Int)] := by unfold limbs; rw [List.range_succ, List.map_append]; rfl
theorem own_fs {k : IntKind} {w : World} {base n : Nat} {e : TypeId} {v : Value} {o : Nat → Nat} (h : w.ownsRow base e 1 v n (limbs k n o)) : ∃ A c, v = .slice A n c ∧ Fs k w w.heap.size A n c o := by
  have hcells := fun g => h.cells (g := g)
  rcases h.2 with ⟨hv, hn⟩ | ⟨g, cap, cur, hv, _, hg, hcap, _⟩
  · subst hn
    exact ⟨none, 0, hv, Nat.le_refl _, fun _ => rfl, fun h => absurd h (by omega)⟩
  · refine ⟨some ⟨g, 0, none⟩, cap, hv, hcap, (fun e => by cases e), fun _ => ⟨g, 0, rfl, (Array.getElem?_eq_some_iff.1 hg).1, fun j hj => ?_⟩⟩
    have hz : (limbs k n o)[j]? = some (.int k ((o j : Nat) : Int)) := by
      unfold limbs
      rw [List.getElem?_map, List.getElem?_range hj]; rfl
    have := hcells g (by rw [hv]; rfl) j _ hz
    have ha : (⟨g, 0, none⟩ : Addr).add j = ⟨g, 0 + j, none⟩ := by unfold Addr.add; split <;> simp_all
    rw [ha] at this
    exact this
/-- A row that grows by append. -/
def AppW (k : IntKind) (w wr : World) (t : TypeId) (v : Value) (n : Nat) (o : Nat → Nat) : Prop := Below w.heap.size w wr ∧ wr.ownsRow w.heap.size t 1 v n (limbs k n o)
theorem nd_64 {a : Nat} (h : a ≤ 18446744073709551615) : nd a ≤ 3 := nd_le (by show a < 1000000000 ^ 3; omega)

set_option maxRecDepth 100000 in
set_option maxHeartbeats 1600000 in
theorem natS_any (a : Nat) (ha : a ≤ 18446744073709551615) (w : World) :
    Calls Tryz.prog 27 #[.int .u64 a] w (GiveN .u32 w a) := by
  obtain ⟨i0, hi, hz0, hz1, hz2⟩ := info_parts Tryz.infoU32
  have hn3 := nd_64 ha
  have R0 : Hid (AppW .u32 w w 77 (.slice none 0 0) 0 (dg a)) := ⟨Below.refl _ _, World.ownsRow_nil w w.heap.size 77 1⟩
  have HA := Lib.hid (show a = a / pw 0 by rw [pw_zero, Nat.div_one])
  go_enter Tryz.func27, Tryz.ntmps27
  go_wp2
  go_loopw [0, 3] (fun i v wr => ∃ k : Nat, k ≤ nd a ∧ i = .int .u64 ((a / pw k : Nat) : Int) ∧ Hid (AppW .u32 w wr 77 v k (dg a))) (fun i _ _ => (intOf i).toNat)
  case atStart => exact ⟨0, Nat.zero_le _, by rw [← HA.out], R0⟩
  case round =>
    clear R0
    obtain ⟨k, hk, rfl, hR⟩ := hrel
    by_cases h0 : a / pw k = 0
    · have hkn : k = nd a := by
        rcases Nat.lt_or_ge k (nd a) with h1 | h1
        · have h2 := pw_le_nd (show a ≠ 0 by rintro rfl; rw [nd_zero] at h1; omega)
          have h3 := pw_le (show k ≤ nd a - 1 by omega)
          have h4 : 0 < a / pw k := Nat.div_pos (Nat.le_trans h3 h2) (pw_pos _)
          omega
        · omega
      have HK := Lib.hid hkn
      rw [h0]
      clear h0 hkn
      go_wp2
      go_ret
      obtain ⟨A, c, e1, e2⟩ := own_fs hR.out.2
      rw [HK.out] at e1 e2
      exact ⟨A, c, by rw [e1]; rfl, e2, hR.out.1⟩
    · have hkn : k < nd a := by
        rcases Nat.lt_or_ge k (nd a) with h1 | h1
        · exact h1
        · rw [div_zero h1] at h0; omega
      have HD := Lib.hid (div_succ a k)
      have hx : a / pw k ≤ a := Nat.div_le_self _ _
      have hdg : dg a k = a / pw k % 1000000000 := rfl
      have hdl := dg_lt a k
      generalize a / pw k = x at *
      obtain ⟨d, HG'⟩ : ∃ d, dg a k = d := ⟨_, rfl⟩
      rw [HG'] at hdg hdl
      have HG := Lib.hid HG'
      clear HG'
      have e1 : (x : Int) % 1000000000 = (d : Int) := by omega
      have b1 : (0 : Int) < (x : Int) := by omega
      have b2 : (d : Int) ≤ 999999999 := by omega
      have b3 : IntKind.u64.wrap ((x : Int) / 1000000000) = (x : Int) / 1000000000 := IntWalk.u64_in _ (by constructor <;> omega)
      have hB := Lib.hid hR.out.1
      have hO := Lib.hid hR.out.2
      clear hdg hdl h0 hR hx
      go_wp2_with (at_builtin; refine wpList_append_own_at _ rfl (.tmp 8) (.tmp 12) _ rfl w.heap.size 77 i0 (.int .u32 0) 1 4 Tryz.underlying39 hi hz0 hz1 hz2 rfl (by decide) _ _ _ rfl (hO.out.alloc _) ⟨wr.heap.size, 0, none⟩ 1 1 [.int .u32 (d : Int)] rfl rfl (cell_one_new _ _ _) (ints_oneCell .u32 [(d : Int)]) (by unfold maxLen; omega) (by omega) (below_alloc hB.out _).size ?_; intro v2 w2 a2 g2 m2 l2; have B2 := Lib.hid (grown_below (hO.out.alloc _) (below_alloc hB.out _) g2); have A2 := Lib.hid a2; clear a2 g2 m2 l2)
      go_roundw
      case rel =>
        refine ⟨k + 1, by omega, by rw [HD.out]; rfl, B2.out, ?_⟩
        have R := A2.out
        rw [limbs_succ, HG.out]
        exact R
      case measure => simp [intOf]; omega

set_option maxRecDepth 100000 in
set_option maxHeartbeats 1600000 in
theorem natOf_any (a : Nat) (ha : a ≤ 18446744073709551615) (w : World) :
    Calls Tryz.prog 73 #[.int .u64 a] w (GiveN .u64 w a) := by
  obtain ⟨i0, hi, hz0, hz1, hz2⟩ := info_parts Tryz.infoU64
  have hn3 := nd_64 ha
  have R0 : Hid (AppW .u64 w w 75 (.slice none 0 0) 0 (dg a)) := ⟨Below.refl _ _, World.ownsRow_nil w w.heap.size 75 1⟩
  have HA := Lib.hid (show a = a / pw 0 by rw [pw_zero, Nat.div_one])
  go_enter Tryz.func73, Tryz.ntmps73
  go_wp2
  go_loopw [0, 3] (fun i v wr => ∃ k : Nat, k ≤ nd a ∧ i = .int .u64 ((a / pw k : Nat) : Int) ∧ Hid (AppW .u64 w wr 75 v k (dg a))) (fun i _ _ => (intOf i).toNat)
  case atStart => exact ⟨0, Nat.zero_le _, by rw [← HA.out], R0⟩
  case round =>
    clear R0
    obtain ⟨k, hk, rfl, hR⟩ := hrel
    by_cases h0 : a / pw k = 0
    · have hkn : k = nd a := by
        rcases Nat.lt_or_ge k (nd a) with h1 | h1
        · have h2 := pw_le_nd (show a ≠ 0 by rintro rfl; rw [nd_zero] at h1; omega)
          have h3 := pw_le (show k ≤ nd a - 1 by omega)
          have h4 : 0 < a / pw k := Nat.div_pos (Nat.le_trans h3 h2) (pw_pos _)
          omega
        · omega
      have HK := Lib.hid hkn
      rw [h0]
      clear h0 hkn
      go_wp2
      go_ret
      obtain ⟨A, c, e1, e2⟩ := own_fs hR.out.2
      rw [HK.out] at e1 e2
      exact ⟨A, c, by rw [e1]; rfl, e2, hR.out.1⟩
    · have hkn : k < nd a := by
        rcases Nat.lt_or_ge k (nd a) with h1 | h1
        · exact h1
        · rw [div_zero h1] at h0; omega
      have HD := Lib.hid (div_succ a k)
      have hx : a / pw k ≤ a := Nat.div_le_self _ _
      have hdg : dg a k = a / pw k % 1000000000 := rfl
      have hdl := dg_lt a k
      generalize a / pw k = x at *
      obtain ⟨d, HG'⟩ : ∃ d, dg a k = d := ⟨_, rfl⟩
      rw [HG'] at hdg hdl
      have HG := Lib.hid HG'
      clear HG'
      have e1 : (x : Int) % 1000000000 = (d : Int) := by omega
      have b1 : (0 : Int) < (x : Int) := by omega
      have b2 : (d : Int) ≤ 999999999 := by omega
      have b3 : IntKind.u64.wrap ((x : Int) / 1000000000) = (x : Int) / 1000000000 := IntWalk.u64_in _ (by constructor <;> omega)
      have hB := Lib.hid hR.out.1
      have hO := Lib.hid hR.out.2
      clear hdg hdl h0 hR hx
      go_wp2_with (at_builtin; refine wpList_append_own_at _ rfl (.tmp 6) (.tmp 9) _ rfl w.heap.size 75 i0 (.int .u64 0) 1 8 Tryz.underlying52 hi hz0 hz1 hz2 rfl (by decide) _ _ _ rfl (hO.out.alloc _) ⟨wr.heap.size, 0, none⟩ 1 1 [.int .u64 (d : Int)] rfl rfl (cell_one_new _ _ _) (ints_oneCell .u64 [(d : Int)]) (by unfold maxLen; omega) (by omega) (below_alloc hB.out _).size ?_; intro v2 w2 a2 g2 m2 l2; have B2 := Lib.hid (grown_below (hO.out.alloc _) (below_alloc hB.out _) g2); have A2 := Lib.hid a2; clear a2 g2 m2 l2)
      go_roundw
      case rel =>
        refine ⟨k + 1, by omega, by rw [HD.out]; rfl, B2.out, ?_⟩
        have R := A2.out
        rw [limbs_succ, HG.out]
        exact R
      case measure => simp [intOf]; omega

end Go.Proofs.YthjnmnepjeegiaaGreatDoor

/- NatMul of the reference, Mul of the program. -/
namespace Go.Proofs.YthjnmnepjeegiaaGreatDoor
open Go.RowKit Go.Proofs.YthjnmnepjeegiaaGreatDoor.Dg

set_option maxRecDepth 100000 in
set_option maxHeartbeats 3200000 in
theorem rmul_any (A1 A2 : Option Addr) (c1 c2 a b : Nat) (w : World) (h1 : Nt .u64 w w.heap.size A1 c1 a) (h2 : Nt .u64 w w.heap.size A2 c2 b) (hn1 : nd a ≤ 1000000) (hn2 : nd b ≤ 1000000) :
    Calls Tryz.prog 75 #[.slice A1 (nd a) c1, .slice A2 (nd b) c2] w (GiveO .u64 75 w (a * b)) := by
  have hmk := fun w => run_make_row' (P := Tryz.prog) 52 75 (.int .u64 0) 8 Tryz.underlying52 Tryz.infoU64 rfl .i64 .i64 (nd a + nd b) (by omega) (by omega) w
  push_cast at hmk
  have H1 := Lib.hid h1
  have H2 := Lib.hid h2
  unfold Nt at H1 H2
  have R0 : Hid (SumW .u64 w (w.alloc (.cells (madeCells #[.int .u64 0] (nd a + nd b)) 75)) w.heap.size 75 (nd a + nd b) (0 + nd b) (a % pw 0 * b) 0) :=
    ⟨_, Rb.made .u64 w (nd a + nd b) 75, by rw [pw_zero, Nat.mod_one, sumTo_zero (fun _ _ => rfl)]; simp⟩
  have HA := Lib.hid (mod_all (Nat.le_refl (nd a)))
  have HB := Lib.hid (mod_all (Nat.le_refl (nd b)))
  clear h1 h2
  generalize hN : nd a = n at *
  have HN := Lib.hid hN
  clear hN
  generalize hM : nd b = m at *
  have HM := Lib.hid hM
  clear hM
  go_enter Tryz.func75, Tryz.ntmps75
  go_wp2
  clear hmk
  go_loopw [20] (fun i wr => ∃ k : Nat, k ≤ n ∧ i = .int .i64 (k : Int) ∧ Hid (SumW .u64 w wr w.heap.size 75 (n + m) (k + m) (a % pw k * b) 0)) (fun i _ => (n - intOf i).toNat)
  case atStart => exact ⟨0, Nat.zero_le _, rfl, R0⟩
  case round =>
    clear R0
    obtain ⟨k, hk, rfl, hR⟩ := hrel
    by_cases hk0 : k = n
    · subst hk0
      obtain ⟨o, hO, hS⟩ := hR.out
      rw [HA.out] at hS
      have T1 := rtrim_any (some ⟨w.heap.size, 0, none⟩) (k + m) (k + m) o wr (hO.2.1.fs (Nat.le_refl _) (Nat.le_refl _)) hO.2.2.2 (by omega)
      have hs : sumTo o (k + m) = a * b := by omega
      rw [hs] at T1
      have G2 := Lib.hid hO
      have HS := Lib.hid hs
      clear hs hS hO hR
      go_wp2_with (go_at_call 102; (with_reducible refine T1.mono ?_); rintro e w1 ⟨rfl, rfl⟩)
      go_ret
      exact ⟨w.heap.size, k + m, _, rfl, G2.out, HS.out⟩
    · obtain ⟨b1, o1, rfl, hlt1, q1⟩ := H1.out.at_ (show k < n by omega)
      have p1 : wr.cell? ⟨b1, o1 + k, none⟩ = some (.int .u64 (dg a k : Int)) := (hR.out.elim fun o h => h.1.1.cell (p := ⟨b1, o1 + k, none⟩) hlt1).trans q1
      have i1 : k < n := by omega
      have hdx := dg_lt a k
      obtain ⟨x, HX'⟩ : ∃ x, dg a k = x := ⟨_, rfl⟩
      rw [HX'] at p1 hdx
      have HX := Lib.hid HX'
      clear HX' q1 hk0
      have S0 : Hid (SumW .u64 w wr w.heap.size 75 (n + m) (k + m) (a % pw k * b + x * pw k * (b % pw 0)) (0 * pw (k + 0))) := by
        obtain ⟨o, hO, hS⟩ := hR.out
        exact ⟨o, hO, by rw [pw_zero, Nat.mod_one]; omega⟩
      go_wp2
      go_loopw [8, 27] (fun r i wi => ∃ j cy : Nat, j ≤ m ∧ i = .int .i64 (j : Int) ∧ r = .int .u64 (cy : Int) ∧ cy < 1000000000 ∧ Hid (SumW .u64 w wi w.heap.size 75 (n + m) (k + m) (a % pw k * b + x * pw k * (b % pw j)) (cy * pw (k + j)))) (fun _ i _ => (m - intOf i).toNat)
      case atStart => exact ⟨0, 0, Nat.zero_le _, rfl, rfl, by omega, S0⟩
      case round =>
        clear S0 hR p1
        obtain ⟨j, cy, hj, rfl, rfl, hcy, hI⟩ := hrel
        obtain ⟨o, hO, hS⟩ := hI.out
        clear hI
        by_cases hj0 : j = m
        · subst hj0
          have tc := hO.2.1.cell (show k + j < n + j by omega)
          have tf := hO.2.1.frozen (k + j)
          have h2 := hO.set (k + j) cy hcy
          have hs : sumTo (upd o (k + j) cy) (k + 1 + j) + 0 = a % pw (k + 1) * b := by
            rw [HB.out] at hS
            rw [show k + 1 + j = k + j + 1 by omega]
            show sumTo (upd o (k + j) cy) (k + j) + upd o (k + j) cy (k + j) * pw (k + j) + 0 = _
            rw [sumTo_upd_out o cy (Nat.le_refl _), upd_at, ← mul_row, HX.out]
            omega
          have G2 := Lib.hid (show SumW .u64 w _ w.heap.size 75 (n + j) (k + 1 + j) (a % pw (k + 1) * b) 0 from ⟨_, h2, hs⟩)
          generalize o (k + j) = z at *
          have u0 : (0 : Int) ≤ (k : Int) + (j : Int) := by omega
          have u1 : ((k : Int) + (j : Int)).toNat = k + j := by omega
          have u2 : (k : Int) + (j : Int) < (n : Int) + (j : Int) := by omega
          have c1 : (cy : Int) ≤ 999999999 := by omega
          clear h2 hs hS hO
          go_wp2
          go_roundw
          case rel => exact ⟨k + 1, by omega, by go_num, G2⟩
          case measure => simp [intOf]; omega
        · obtain ⟨b2, o2, rfl, hlt2, q2⟩ := H2.out.at_ (show j < m by omega)
          have p2 : wr.cell? ⟨b2, o2 + j, none⟩ = some (.int .u64 (dg b j : Int)) := (hO.1.cell (p := ⟨b2, o2 + j, none⟩) hlt2).trans q2
          have tc := hO.2.1.cell (show k + j < n + m by omega)
          have tf := hO.2.1.frozen (k + j)
          have hdy := dg_lt b j
          have hz := hO.2.2.2 (k + j) (by omega)
          have hxy : x * dg b j ≤ 999999999 * 999999999 := Nat.mul_le_mul (by omega) (by omega)
          obtain ⟨v, hv⟩ : ∃ v, v = (x * dg b j + o (k + j) + cy) % 1000000000 := ⟨_, rfl⟩
          obtain ⟨cy', hc'⟩ : ∃ cy', cy' = (x * dg b j + o (k + j) + cy) / 1000000000 := ⟨_, rfl⟩
          have h2 := hO.set (k + j) v (by omega)
          have hs : sumTo (upd o (k + j) v) (k + m) + cy' * pw (k + (j + 1)) = a % pw k * b + x * pw k * (b % pw (j + 1)) :=
            mul_step hS (sumTo_upd o v (show k + j < k + m by omega)) (by omega)
          have G2 := Lib.hid (show SumW .u64 w _ w.heap.size 75 (n + m) (k + m) (a % pw k * b + x * pw k * (b % pw (j + 1))) (cy' * pw (k + (j + 1))) from ⟨_, h2, hs⟩)
          have eP : (x : Int) * (dg b j : Int) = ((x * dg b j : Nat) : Int) := (Int.natCast_mul _ _).symm
          have hcm : cy' < 1000000000 := by omega
          have i2 : j < m := by omega
          generalize x * dg b j = p at *
          generalize dg b j = y at *
          generalize o (k + j) = z at *
          have u0 : (0 : Int) ≤ (k : Int) + (j : Int) := by omega
          have u1 : ((k : Int) + (j : Int)).toNat = k + j := by omega
          have u2 : (k : Int) + (j : Int) < (n : Int) + (m : Int) := by omega
          have c1 : (p : Int) ≤ 999999998000000001 := by omega
          have c2 : (cy : Int) ≤ 999999999 := by omega
          have c3 : (z : Int) ≤ 999999999 := by omega
          have c4 : (v : Int) ≤ 999999999 := by omega
          have c5 : (y : Int) ≤ 999999999 := by omega
          have c6 : (x : Int) ≤ 999999999 := by omega
          have e1 : ((z : Int) + (p : Int) + (cy : Int)) % 1000000000 = (v : Int) := by omega
          have E2 := Lib.hid (show ((z : Int) + (p : Int) + (cy : Int)) / 1000000000 = (cy' : Int) by omega)
          clear hv hc' hxy hz hdy hj0 q2 h2 hs hS hO
          go_wp2
          go_roundw
          case rel => exact ⟨j + 1, cy', by omega, by go_num, by rw [E2.out], hcm, G2⟩
          case measure => simp [intOf]; omega

set_option maxRecDepth 100000 in
set_option maxHeartbeats 3200000 in
theorem mul_main (A1 A2 : Option Addr) (c1 c2 a b : Nat) (w : World) (h1 : Nt .u32 w w.heap.size A1 c1 a) (h2 : Nt .u32 w w.heap.size A2 c2 b) (hn1 : nd a ≤ 1000000) (hn2 : nd b ≤ 1000000) (ha0 : a ≠ 0) (hb0 : b ≠ 0) (ha1 : a ≠ 1) (hb1 : b ≠ 1) :
    Calls Tryz.prog 32 #[.slice A1 (nd a) c1, .slice A2 (nd b) c2] w (GiveO .u32 77 w (a * b)) := by
  have hmk := fun w => run_make_row' (P := Tryz.prog) 39 77 (.int .u32 0) 4 Tryz.underlying39 Tryz.infoU32 rfl .i64 .i64 (nd a + nd b) (by omega) (by omega) w
  push_cast at hmk
  have H1 := Lib.hid h1
  have H2 := Lib.hid h2
  unfold Nt at H1 H2
  have R0 : Hid (SumW .u32 w (w.alloc (.cells (madeCells #[.int .u32 0] (nd a + nd b)) 77)) w.heap.size 77 (nd a + nd b) (0 + nd b) (a % pw 0 * b) 0) :=
    ⟨_, Rb.made .u32 w (nd a + nd b) 77, by rw [pw_zero, Nat.mod_one, sumTo_zero (fun _ _ => rfl)]; simp⟩
  have HA := Lib.hid (mod_all (Nat.le_refl (nd a)))
  have HB := Lib.hid (mod_all (Nat.le_refl (nd b)))
  have z1 : nd a ≠ 0 := fun e => ha0 (nd_eq_zero.1 e)
  have z2 : nd b ≠ 0 := fun e => hb0 (nd_eq_zero.1 e)
  have t1 : (((nd a : Nat) : Int) == 0) = false := by rw [beq_eq_false_iff_ne]; omega
  have t2 : (((nd b : Nat) : Int) == 0) = false := by rw [beq_eq_false_iff_ne]; omega
  have O1 := (one_any A1 c1 a w h1).mono (fun e w' h => (⟨h.1, h.2.symm⟩ : e = .returned (.bool (decide (a = 1))) ∧ w = w'))
  have O2 := (one_any A2 c2 b w h2).mono (fun e w' h => (⟨h.1, h.2.symm⟩ : e = .returned (.bool (decide (b = 1))) ∧ w = w'))
  rw [decide_eq_false ha1] at O1
  rw [decide_eq_false hb1] at O2
  clear ha0 hb0 ha1 hb1
  clear h1 h2
  generalize hN : nd a = n at *
  have HN := Lib.hid hN
  clear hN
  generalize hM : nd b = m at *
  have HM := Lib.hid hM
  clear hM
  go_enter Tryz.func32, Tryz.ntmps32
  go_wp2_with (first | (go_at_call 58; (with_reducible refine O2.mono ?_); rintro e w' ⟨rfl, rfl⟩) | (go_at_call 58; (with_reducible refine O1.mono ?_); rintro e w' ⟨rfl, rfl⟩))
  clear O1 O2
  clear hmk
  go_loopw [34] (fun i wr => ∃ k : Nat, k ≤ n ∧ i = .int .i64 (k : Int) ∧ Hid (SumW .u32 w wr w.heap.size 77 (n + m) (k + m) (a % pw k * b) 0)) (fun i _ => (n - intOf i).toNat)
  case atStart => exact ⟨0, Nat.zero_le _, rfl, R0⟩
  case round =>
    clear R0
    obtain ⟨k, hk, rfl, hR⟩ := hrel
    by_cases hk0 : k = n
    · subst hk0
      obtain ⟨o, hO, hS⟩ := hR.out
      rw [HA.out] at hS
      have T1 := trim_any (some ⟨w.heap.size, 0, none⟩) (k + m) (k + m) o wr (hO.2.1.fs (Nat.le_refl _) (Nat.le_refl _)) hO.2.2.2 (by omega)
      have hs : sumTo o (k + m) = a * b := by omega
      rw [hs] at T1
      have G2 := Lib.hid hO
      have HS := Lib.hid hs
      clear hs hS hO hR
      go_wp2_with (go_at_call 60; (with_reducible refine T1.mono ?_); rintro e w1 ⟨rfl, rfl⟩)
      go_ret
      exact ⟨w.heap.size, k + m, _, rfl, G2.out, HS.out⟩
    · obtain ⟨b1, o1, rfl, hlt1, q1⟩ := H1.out.at_ (show k < n by omega)
      have p1 : wr.cell? ⟨b1, o1 + k, none⟩ = some (.int .u32 (dg a k : Int)) := (hR.out.elim fun o h => h.1.1.cell (p := ⟨b1, o1 + k, none⟩) hlt1).trans q1
      have i1 : k < n := by omega
      have hdx := dg_lt a k
      obtain ⟨x, HX'⟩ : ∃ x, dg a k = x := ⟨_, rfl⟩
      rw [HX'] at p1 hdx
      have HX := Lib.hid HX'
      clear HX' q1 hk0
      have S0 : Hid (SumW .u32 w wr w.heap.size 77 (n + m) (k + m) (a % pw k * b + x * pw k * (b % pw 0)) (0 * pw (k + 0))) := by
        obtain ⟨o, hO, hS⟩ := hR.out
        exact ⟨o, hO, by rw [pw_zero, Nat.mod_one]; omega⟩
      go_wp2
      go_loopw [8, 41] (fun r i wi => ∃ j cy : Nat, j ≤ m ∧ i = .int .i64 (j : Int) ∧ r = .int .u64 (cy : Int) ∧ cy < 1000000000 ∧ Hid (SumW .u32 w wi w.heap.size 77 (n + m) (k + m) (a % pw k * b + x * pw k * (b % pw j)) (cy * pw (k + j)))) (fun _ i _ => (m - intOf i).toNat)
      case atStart => exact ⟨0, 0, Nat.zero_le _, rfl, rfl, by omega, S0⟩
      case round =>
        clear S0 hR p1
        obtain ⟨j, cy, hj, rfl, rfl, hcy, hI⟩ := hrel
        obtain ⟨o, hO, hS⟩ := hI.out
        clear hI
        by_cases hj0 : j = m
        · subst hj0
          have tc := hO.2.1.cell (show k + j < n + j by omega)
          have tf := hO.2.1.frozen (k + j)
          have h2 := hO.set (k + j) cy hcy
          have hs : sumTo (upd o (k + j) cy) (k + 1 + j) + 0 = a % pw (k + 1) * b := by
            rw [HB.out] at hS
            rw [show k + 1 + j = k + j + 1 by omega]
            show sumTo (upd o (k + j) cy) (k + j) + upd o (k + j) cy (k + j) * pw (k + j) + 0 = _
            rw [sumTo_upd_out o cy (Nat.le_refl _), upd_at, ← mul_row, HX.out]
            omega
          have G2 := Lib.hid (show SumW .u32 w _ w.heap.size 77 (n + j) (k + 1 + j) (a % pw (k + 1) * b) 0 from ⟨_, h2, hs⟩)
          generalize o (k + j) = z at *
          have u0 : (0 : Int) ≤ (k : Int) + (j : Int) := by omega
          have u1 : ((k : Int) + (j : Int)).toNat = k + j := by omega
          have u2 : (k : Int) + (j : Int) < (n : Int) + (j : Int) := by omega
          have c1 : (cy : Int) ≤ 999999999 := by omega
          clear h2 hs hS hO
          go_wp2
          go_roundw
          case rel => exact ⟨k + 1, by omega, by go_num, G2⟩
          case measure => simp [intOf]; omega
        · obtain ⟨b2, o2, rfl, hlt2, q2⟩ := H2.out.at_ (show j < m by omega)
          have p2 : wr.cell? ⟨b2, o2 + j, none⟩ = some (.int .u32 (dg b j : Int)) := (hO.1.cell (p := ⟨b2, o2 + j, none⟩) hlt2).trans q2
          have tc := hO.2.1.cell (show k + j < n + m by omega)
          have tf := hO.2.1.frozen (k + j)
          have hdy := dg_lt b j
          have hz := hO.2.2.2 (k + j) (by omega)
          have hxy : x * dg b j ≤ 999999999 * 999999999 := Nat.mul_le_mul (by omega) (by omega)
          obtain ⟨v, hv⟩ : ∃ v, v = (x * dg b j + o (k + j) + cy) % 1000000000 := ⟨_, rfl⟩
          obtain ⟨cy', hc'⟩ : ∃ cy', cy' = (x * dg b j + o (k + j) + cy) / 1000000000 := ⟨_, rfl⟩
          have h2 := hO.set (k + j) v (by omega)
          have hs : sumTo (upd o (k + j) v) (k + m) + cy' * pw (k + (j + 1)) = a % pw k * b + x * pw k * (b % pw (j + 1)) :=
            mul_step hS (sumTo_upd o v (show k + j < k + m by omega)) (by omega)
          have G2 := Lib.hid (show SumW .u32 w _ w.heap.size 77 (n + m) (k + m) (a % pw k * b + x * pw k * (b % pw (j + 1))) (cy' * pw (k + (j + 1))) from ⟨_, h2, hs⟩)
          have eP : (x : Int) * (dg b j : Int) = ((x * dg b j : Nat) : Int) := (Int.natCast_mul _ _).symm
          have hcm : cy' < 1000000000 := by omega
          have i2 : j < m := by omega
          generalize x * dg b j = p at *
          generalize dg b j = y at *
          generalize o (k + j) = z at *
          have u0 : (0 : Int) ≤ (k : Int) + (j : Int) := by omega
          have u1 : ((k : Int) + (j : Int)).toNat = k + j := by omega
          have u2 : (k : Int) + (j : Int) < (n : Int) + (m : Int) := by omega
          have c1 : (p : Int) ≤ 999999998000000001 := by omega
          have c2 : (cy : Int) ≤ 999999999 := by omega
          have c3 : (z : Int) ≤ 999999999 := by omega
          have c4 : (v : Int) ≤ 999999999 := by omega
          have c5 : (y : Int) ≤ 999999999 := by omega
          have c6 : (x : Int) ≤ 999999999 := by omega
          have e1 : ((p : Int) + (z : Int) + (cy : Int)) % 1000000000 = (v : Int) := by omega
          have E2 := Lib.hid (show ((p : Int) + (z : Int) + (cy : Int)) / 1000000000 = (cy' : Int) by omega)
          clear hv hc' hxy hz hdy hj0 q2 h2 hs hS hO
          go_wp2
          go_roundw
          case rel => exact ⟨j + 1, cy', by omega, by go_num, by rw [E2.out], hcm, G2⟩
          case measure => simp [intOf]; omega

end Go.Proofs.YthjnmnepjeegiaaGreatDoor

/- Mul of the program at 0 and 1, and whole; slices.Clone at limbs. -/
namespace Go.Proofs.YthjnmnepjeegiaaGreatDoor
open Go.RowKit Go.Proofs.YthjnmnepjeegiaaGreatDoor.Dg

set_option maxRecDepth 100000 in
set_option maxHeartbeats 1600000 in
theorem mul_any (A1 A2 : Option Addr) (c1 c2 a b : Nat) (w : World) (h1 : Nt .u32 w w.heap.size A1 c1 a) (h2 : Nt .u32 w w.heap.size A2 c2 b) (hn1 : nd a ≤ 1000000) (hn2 : nd b ≤ 1000000) :
    Calls Tryz.prog 32 #[.slice A1 (nd a) c1, .slice A2 (nd b) c2] w (GiveN .u32 w (a * b)) := by
  by_cases ha0 : a = 0
  · subst ha0
    have z : Nt .u32 w w.heap.size none 0 (0 * b) := by rw [Nat.zero_mul]; unfold Nt; rw [nd_zero]; exact Fs.nil _ _ _ _
    have R := Lib.hid (show GiveN .u32 w (0 * b) (.returned (.slice none 0 0)) w from ⟨none, 0, by rw [Nat.zero_mul, nd_zero], z, Below.refl _ _⟩)
    rw [nd_zero]
    generalize 0 * b = p at *
    generalize nd b = m at *
    clear z h1 h2
    go_enter Tryz.func32, Tryz.ntmps32
    go_wp2
    go_ret
    exact R.out
  by_cases hb0 : b = 0
  · subst hb0
    have z : Nt .u32 w w.heap.size none 0 (a * 0) := by rw [Nat.mul_zero]; unfold Nt; rw [nd_zero]; exact Fs.nil _ _ _ _
    have R := Lib.hid (show GiveN .u32 w (a * 0) (.returned (.slice none 0 0)) w from ⟨none, 0, by rw [Nat.mul_zero, nd_zero], z, Below.refl _ _⟩)
    have t1 : (((nd a : Nat) : Int) == 0) = false := by rw [beq_eq_false_iff_ne]; have h3 : nd a ≠ 0 := fun e => ha0 (nd_eq_zero.1 e); omega
    rw [nd_zero]
    generalize a * 0 = p at *
    generalize nd a = m at *
    clear z h1 h2 ha0
    go_enter Tryz.func32, Tryz.ntmps32
    go_wp2
    all_goals
      go_ret
      exact R.out
  have z1 : nd a ≠ 0 := fun e => ha0 (nd_eq_zero.1 e)
  have z2 : nd b ≠ 0 := fun e => hb0 (nd_eq_zero.1 e)
  have t1 : (((nd a : Nat) : Int) == 0) = false := by rw [beq_eq_false_iff_ne]; omega
  have t2 : (((nd b : Nat) : Int) == 0) = false := by rw [beq_eq_false_iff_ne]; omega
  have O1 := (one_any A1 c1 a w h1).mono (fun e w' h => (⟨h.1, h.2.symm⟩ : e = .returned (.bool (decide (a = 1))) ∧ w = w'))
  have O2 := (one_any A2 c2 b w h2).mono (fun e w' h => (⟨h.1, h.2.symm⟩ : e = .returned (.bool (decide (b = 1))) ∧ w = w'))
  by_cases hb1 : b = 1
  · subst hb1
    have R := Lib.hid (show GiveN .u32 w (a * 1) (.returned (.slice A1 (nd a) c1)) w from ⟨A1, c1, by rw [Nat.mul_one], by rw [Nat.mul_one]; exact h1, Below.refl _ _⟩)
    rw [decide_eq_true rfl] at O2
    generalize a * 1 = p at *
    generalize nd a = m at *
    generalize nd 1 = m' at *
    clear h1 h2 ha0 hb0 O1
    go_enter Tryz.func32, Tryz.ntmps32
    go_wp2_with (first | (go_at_call 58; (with_reducible refine O2.mono ?_); rintro e w' ⟨rfl, rfl⟩))
    go_ret
    exact R.out
  by_cases ha1 : a = 1
  · subst ha1
    have R := Lib.hid (show GiveN .u32 w (1 * b) (.returned (.slice A2 (nd b) c2)) w from ⟨A2, c2, by rw [Nat.one_mul], by rw [Nat.one_mul]; exact h2, Below.refl _ _⟩)
    rw [decide_eq_true rfl] at O1
    rw [decide_eq_false hb1] at O2
    generalize 1 * b = p at *
    generalize nd b = m at *
    generalize nd 1 = m' at *
    clear h1 h2 ha0 hb0 hb1
    go_enter Tryz.func32, Tryz.ntmps32
    go_wp2_with (first | (go_at_call 58; (with_reducible refine O2.mono ?_); rintro e w' ⟨rfl, rfl⟩) | (go_at_call 58; (with_reducible refine O1.mono ?_); rintro e w' ⟨rfl, rfl⟩))
    go_ret
    exact R.out
  exact (mul_main A1 A2 c1 c2 a b w h1 h2 hn1 hn2 ha0 hb0 ha1 hb1).mono fun e w' h => h.n

end Go.Proofs.YthjnmnepjeegiaaGreatDoor

/- slices.Clone at limbs. -/
namespace Go.Proofs.YthjnmnepjeegiaaGreatDoor
open Go.RowKit Go.Proofs.YthjnmnepjeegiaaGreatDoor.Dg

theorem limbs_one (k : IntKind) (n : Nat) (o : Nat → Nat) : ∀ u ∈ limbs k n o, u.oneCell' = true := by
  intro u hu
  unfold limbs at hu
  obtain ⟨x, _, rfl⟩ := List.mem_map.1 hu
  rfl
theorem limbs_len (k : IntKind) (n : Nat) (o : Nat → Nat) : (limbs k n o).length = n := by unfold limbs; simp
theorem limbs_at {k : IntKind} {n j : Nat} {o : Nat → Nat} {u : Value} (h : (limbs k n o)[j]? = some u) : j < n ∧ u = .int k ((o j : Nat) : Int) := by
  have hj : j < n := by have := (List.getElem?_eq_some_iff.1 h).1; rwa [limbs_len] at this
  unfold limbs at h
  rw [List.getElem?_map, List.getElem?_range hj] at h
  exact ⟨hj, by simpa using h.symm⟩

set_option maxRecDepth 100000 in
set_option maxHeartbeats 1600000 in
theorem clone_any (A : Option Addr) (n c : Nat) (o : Nat → Nat) (w : World) (h : Fs .u32 w w.heap.size A n c o) (hn : n ≤ 1000000) :
    Calls Tryz.prog 103 #[.slice A n c] w fun e w' => ∃ v, e = .returned v ∧ AppW .u32 w w' 77 v n o := by
  obtain ⟨i0, hi, hz0, hz1, hz2⟩ := info_parts Tryz.infoU32
  have q22 : ∀ (w : World) (a : Option Addr) (n c n' c' : Nat), (binOp .eql 39 (.slice a n c) (.slice none n' c')).run Tryz.prog w = .ok (.bool a.isNone) w := fun w a n c n' c' => Lib.run_eql_slice_nil w _ _ a n c n' c' Tryz.underlying39
  have H := Lib.hid h
  clear h
  cases A with
  | none =>
    have hc := H.out.2.1 rfl
    have hnc := H.out.1
    have h0 : n = 0 := by omega
    subst h0 hc
    clear hnc
    go_enter Tryz.func103, Tryz.ntmps103
    go_wp2
    go_ret
    exact ⟨_, rfl, Below.refl _ _, World.ownsRow_nil w w.heap.size 77 1⟩
  | some ad =>
    have hcells : Hid (∀ j u, (limbs .u32 n o)[j]? = some u → (w.alloc (.cells #[] 77)).cell? (ad.add j) = some u) := by
      intro j u hu
      obtain ⟨hj, rfl⟩ := limbs_at hu
      obtain ⟨b, off, e, hlt, hc⟩ := H.out.at_ hj
      injection e with e
      subst e
      have ha : (⟨b, off, none⟩ : Addr).add j = ⟨b, off + j, none⟩ := by unfold Addr.add; split <;> simp_all
      rw [ha]
      exact (World.cell?_alloc_lt w _ ⟨b, off + j, none⟩ hlt).trans hc
    go_enter Tryz.func103, Tryz.ntmps103
    go_wp2_with (at_builtin; refine wpList_append_own_at _ rfl _ _ 39 rfl w.heap.size 77 i0 (.int .u32 0) 1 4 Tryz.underlying39 hi hz0 hz1 hz2 rfl (by decide) _ _ _ rfl (World.ownsRow_made w #[] 0 (Nat.le_refl _) (Nat.zero_le _) rfl) ad n c (limbs .u32 n o) rfl (by rw [limbs_len]; omega) hcells.out (limbs_one _ _ _) (by unfold maxLen; omega) (by omega) (by simp) ?_; intro v2 w2 a2 g2 m2 l2; have B2 := Lib.hid (grown_below (World.ownsRow_made w #[] 0 (Nat.le_refl _) (Nat.zero_le _) rfl) ((Below.refl _ w).alloc (Nat.le_refl _) _) g2); have A2 := Lib.hid a2; clear a2 g2 m2 l2)
    go_ret
    exact ⟨v2, rfl, B2.out, by have := A2.out; simpa using this⟩

end Go.Proofs.YthjnmnepjeegiaaGreatDoor

/- Sub of the program. -/
namespace Go.Proofs.YthjnmnepjeegiaaGreatDoor
open Go.RowKit Go.Proofs.YthjnmnepjeegiaaGreatDoor.Dg

/-- An own row that is not empty, as a row of limbs. -/
theorem own_lw {k : IntKind} {w : World} {base n : Nat} {e : TypeId} {v : Value} {o : Nat → Nat} (h : w.ownsRow base e 1 v n (limbs k n o)) (hn : 0 < n) :
    ∃ g c, v = .slice (some ⟨g, 0, none⟩) n c ∧ n ≤ c ∧ base ≤ g ∧ Lw k w g e n o := by
  have hcells := fun g => h.cells (g := g)
  rcases h.2 with ⟨_, h0⟩ | ⟨g, cap, cur, hv, hb, hg, hcap, _, hcs, htk⟩
  · omega
  · refine ⟨g, cap, hv, hcap, hb, cur, hg, by omega, fun i hi => ?_⟩
    have hz : (limbs k n o)[i]? = some (.int k ((o i : Nat) : Int)) := by
      unfold limbs
      rw [List.getElem?_map, List.getElem?_range hi]; rfl
    have h1 := hcells g (by rw [hv]; rfl) i _ hz
    have ha : (⟨g, 0, none⟩ : Addr).add i = ⟨g, i, none⟩ := by unfold Addr.add; split <;> simp_all
    rw [ha] at h1
    simp [World.cell?, hg] at h1
    exact h1

def SubW (w wr : World) (g : Nat) (t : TypeId) (n k a b c : Nat) : Prop := ∃ o, Rb .u32 w wr g t n o ∧ (∀ j, k ≤ j → j < n → o j = dg a j) ∧ sumTo o k + b % pw k = a % pw k + c * pw k

set_option maxRecDepth 100000 in
set_option maxHeartbeats 3200000 in
theorem sub_any (A1 A2 : Option Addr) (c1 c2 a b : Nat) (w : World) (h1 : Nt .u32 w w.heap.size A1 c1 a) (h2 : Nt .u32 w w.heap.size A2 c2 b) (hab : b ≤ a) (hn1 : nd a ≤ 1000000) :
    Calls Tryz.prog 80 #[.slice A1 (nd a) c1, .slice A2 (nd b) c2] w (GiveN .u32 w (a - b)) := by
  have CL := clone_any A1 (nd a) c1 (dg a) w h1 hn1
  have HA := Lib.hid (mod_all (Nat.le_refl (nd a)))
  have HB := Lib.hid (mod_all (nd_mono hab))
  have H2 := Lib.hid h2
  unfold Nt at H2
  have HAB := Lib.hid hab
  have hmn := nd_mono hab
  have HZ := Lib.hid (fun k (hk : nd b ≤ k) => dg_zero hk)
  clear h1 h2 hab
  by_cases h0 : nd a = 0
  · have ha0 : a = 0 := nd_eq_zero.1 h0
    have hd : a - b = 0 := by omega
    rw [hd]
    have hnb : nd b = 0 := by omega
    rw [h0] at CL ⊢
    rw [hnb]
    clear hmn hd HA HB HAB HZ ha0 hnb h0 H2
    go_enter Tryz.func80, Tryz.ntmps80
    go_wp2_with (go_at_call 103; (with_reducible refine CL.mono ?_); rintro e w1 ⟨v, rfl, hB, hO⟩; obtain ⟨A', c', rfl, hF⟩ := own_fs hO; have F := Lib.hid hF; have B1 := Lib.hid hB; clear hF hB hO)
    go_loopw [13] (fun i wr => i = .int .i64 0 ∧ w1 = wr) (fun _ _ => 0)
    case atStart => exact ⟨rfl, rfl⟩
    case round =>
      obtain ⟨rfl, rfl⟩ := hrel
      have T1 := trim_any A' 0 c' (fun _ => 0) w1 (F.out.zero _) (fun _ h => absurd h (by omega)) (by omega)
      have z0 : nd (sumTo (fun _ => 0) 0) = 0 := nd_zero
      rw [z0] at T1
      go_wp2_with (go_at_call 60; (with_reducible refine T1.mono ?_); rintro e w2 ⟨rfl, rfl⟩)
      go_ret
      exact ⟨A', c', by rw [nd_zero]; rfl, by unfold Nt; rw [nd_zero]; exact F.out.zero _, B1.out⟩
  generalize hN : nd a = n at *
  have HN := Lib.hid hN
  clear hN
  generalize hM : nd b = m at *
  have HM := Lib.hid hM
  clear hM
  go_enter Tryz.func80, Tryz.ntmps80
  go_wp2_with (go_at_call 103; (with_reducible refine CL.mono ?_); rintro e w1 ⟨v, rfl, hB, hO⟩; obtain ⟨g, c', rfl, hc', hg, hL⟩ := own_lw hO (Nat.pos_of_ne_zero h0); have L := Lib.hid hL; have B1 := Lib.hid hB; clear hB hO hL)
  clear CL
  have R0 : Hid (SubW w w1 g 77 n 0 a b 0) := ⟨dg a, ⟨B1.out, L.out, hg, fun j _ => dg_lt a j⟩, fun _ _ _ => rfl, by rw [pw_zero, Nat.mod_one, Nat.mod_one]; simp [sumTo]⟩
  go_loopw [6, 13] (fun r i wr => ∃ k cy : Nat, k ≤ n ∧ i = .int .i64 (k : Int) ∧ r = .int .i64 (cy : Int) ∧ cy ≤ 1 ∧ Hid (SubW w wr g 77 n k a b cy)) (fun _ i _ => (n - intOf i).toNat)
  case atStart => exact ⟨0, 0, Nat.zero_le _, rfl, rfl, by omega, R0⟩
  case round =>
    clear R0 L B1
    obtain ⟨k, cy, hk, rfl, rfl, hcy, hR⟩ := hrel
    obtain ⟨o, hO, hre, hS⟩ := hR.out
    clear hR
    by_cases hk0 : k = n
    · subst hk0
      rw [HA.out, HB.out] at hS
      have hlt := sumTo_lt hO.2.2.2
      have hc0 : cy = 0 := by
        rcases Nat.lt_or_ge cy 1 with h3 | h3
        · omega
        · have : 1 * pw k ≤ cy * pw k := Nat.mul_le_mul_right _ h3
          have := HAB.out
          omega
      subst hc0
      have hs : sumTo o k = a - b := by have := HAB.out; omega
      have T1 := trim_any (some ⟨g, 0, none⟩) k c' o wr (hO.2.1.fs (Nat.le_refl _) hc') hO.2.2.2 (by omega)
      have F := Lib.hid ((hO.2.1.fs (Nat.le_refl k) hc').trimmed hO.2.2.2 (nd_sum hO.2.2.2))
      rw [hs] at T1 F
      have B2 := Lib.hid hO.1
      clear hs hS hO hre hlt
      go_wp2_with (go_at_call 60; (with_reducible refine T1.mono ?_); rintro e w2 ⟨rfl, rfl⟩)
      go_ret
      exact ⟨_, _, rfl, F.out, B2.out⟩
    · have i1 : k < n := by omega
      have tc := hO.2.1.cell i1
      rw [hre k (Nat.le_refl _) i1] at tc
      have tf := hO.2.1.frozen k
      have hdx := dg_lt a k
      have hdy := dg_lt b k
      obtain ⟨x, HX⟩ : ∃ x, dg a k = x := ⟨_, rfl⟩
      rw [HX] at tc hdx
      clear hk0
      by_cases hkm : k < m
      · obtain ⟨b2, o2, rfl, hlt2, q2⟩ := H2.out.at_ hkm
        have p2 : wr.cell? ⟨b2, o2 + k, none⟩ = some (.int .u32 (dg b k : Int)) := (hO.1.cell (p := ⟨b2, o2 + k, none⟩) hlt2).trans q2
        obtain ⟨y, HY⟩ : ∃ y, dg b k = y := ⟨_, rfl⟩
        rw [HY] at p2 hdy
        clear q2
        by_cases hneg : x < cy + y
        · obtain ⟨v, hv⟩ : ∃ v, v = x + 1000000000 - (cy + y) := ⟨_, rfl⟩
          have h2 := hO.set k v (by omega)
          have hs : sumTo (upd o k v) (k + 1) + b % pw (k + 1) = a % pw (k + 1) + 1 * pw (k + 1) := by
            show sumTo (upd o k v) k + upd o k v k * pw k + b % pw (k + 1) = _
            rw [sumTo_upd_out o v (Nat.le_refl _), upd_at]
            exact sub_step hS (by omega)
          have hrest : ∀ j, k + 1 ≤ j → j < n → upd o k v j = dg a j := fun j h3 h4 => by rw [upd_ne _ _ (by omega)]; exact hre j (by omega) h4
          have G2 := Lib.hid (show SubW w _ g 77 n (k + 1) a b 1 from ⟨_, h2, hrest, hs⟩)
          have c4 : (v : Int) ≤ 999999999 := by omega
          clear hO hre hS h2 hs hrest
          obtain ⟨s, e0⟩ : ∃ s : Int, (x : Int) - (cy : Int) - (y : Int) = s := ⟨_, rfl⟩
          have s0 : s < 0 := by omega
          have s1 : s + 1000000000 = (v : Int) := by omega
          have s2 : -1000000000 ≤ s := by omega
          have c1 : (x : Int) ≤ 999999999 := by omega
          have c2 : (cy : Int) ≤ 1 := by omega
          have c3 : (y : Int) ≤ 999999999 := by omega
          clear hv hneg HX HY
          go_wp2
          go_roundw
          case rel => exact ⟨k + 1, 1, by omega, by go_num, by rfl, by omega, G2⟩
          case measure => simp [intOf]; omega
        · obtain ⟨v, hv⟩ : ∃ v, v = x - (cy + y) := ⟨_, rfl⟩
          have h2 := hO.set k v (by omega)
          have hs : sumTo (upd o k v) (k + 1) + b % pw (k + 1) = a % pw (k + 1) + 0 * pw (k + 1) := by
            show sumTo (upd o k v) k + upd o k v k * pw k + b % pw (k + 1) = _
            rw [sumTo_upd_out o v (Nat.le_refl _), upd_at]
            exact sub_step hS (by omega)
          have hrest : ∀ j, k + 1 ≤ j → j < n → upd o k v j = dg a j := fun j h3 h4 => by rw [upd_ne _ _ (by omega)]; exact hre j (by omega) h4
          have G2 := Lib.hid (show SubW w _ g 77 n (k + 1) a b 0 from ⟨_, h2, hrest, hs⟩)
          have c4 : (v : Int) ≤ 999999999 := by omega
          clear hO hre hS h2 hs hrest
          have e0 : (x : Int) - (cy : Int) - (y : Int) = (v : Int) := by omega
          have s0 : ¬ (v : Int) < 0 := by omega
          have c1 : (x : Int) ≤ 999999999 := by omega
          have c2 : (cy : Int) ≤ 1 := by omega
          have c3 : (y : Int) ≤ 999999999 := by omega
          clear hv hneg HX HY
          go_wp2
          go_roundw
          case rel => exact ⟨k + 1, 0, by omega, by go_num, by rfl, by omega, G2⟩
          case measure => simp [intOf]; omega
      · have HY := HZ.out k (by omega)
        by_cases hneg : x < cy
        · obtain ⟨v, hv⟩ : ∃ v, v = x + 1000000000 - (cy) := ⟨_, rfl⟩
          have h2 := hO.set k v (by omega)
          have hs : sumTo (upd o k v) (k + 1) + b % pw (k + 1) = a % pw (k + 1) + 1 * pw (k + 1) := by
            show sumTo (upd o k v) k + upd o k v k * pw k + b % pw (k + 1) = _
            rw [sumTo_upd_out o v (Nat.le_refl _), upd_at]
            exact sub_step hS (by omega)
          have hrest : ∀ j, k + 1 ≤ j → j < n → upd o k v j = dg a j := fun j h3 h4 => by rw [upd_ne _ _ (by omega)]; exact hre j (by omega) h4
          have G2 := Lib.hid (show SubW w _ g 77 n (k + 1) a b 1 from ⟨_, h2, hrest, hs⟩)
          have c4 : (v : Int) ≤ 999999999 := by omega
          clear hO hre hS h2 hs hrest
          obtain ⟨s, e0⟩ : ∃ s : Int, (x : Int) - (cy : Int) = s := ⟨_, rfl⟩
          have s0 : s < 0 := by omega
          have s1 : s + 1000000000 = (v : Int) := by omega
          have s2 : -1000000000 ≤ s := by omega
          have c1 : (x : Int) ≤ 999999999 := by omega
          have c2 : (cy : Int) ≤ 1 := by omega
          clear hv hneg HX HY hdy
          go_wp2
          go_roundw
          case rel => exact ⟨k + 1, 1, by omega, by go_num, by rfl, by omega, G2⟩
          case measure => simp [intOf]; omega
        · obtain ⟨v, hv⟩ : ∃ v, v = x - (cy) := ⟨_, rfl⟩
          have h2 := hO.set k v (by omega)
          have hs : sumTo (upd o k v) (k + 1) + b % pw (k + 1) = a % pw (k + 1) + 0 * pw (k + 1) := by
            show sumTo (upd o k v) k + upd o k v k * pw k + b % pw (k + 1) = _
            rw [sumTo_upd_out o v (Nat.le_refl _), upd_at]
            exact sub_step hS (by omega)
          have hrest : ∀ j, k + 1 ≤ j → j < n → upd o k v j = dg a j := fun j h3 h4 => by rw [upd_ne _ _ (by omega)]; exact hre j (by omega) h4
          have G2 := Lib.hid (show SubW w _ g 77 n (k + 1) a b 0 from ⟨_, h2, hrest, hs⟩)
          have c4 : (v : Int) ≤ 999999999 := by omega
          clear hO hre hS h2 hs hrest
          have e0 : (x : Int) - (cy : Int) = (v : Int) := by omega
          have s0 : ¬ (v : Int) < 0 := by omega
          have c1 : (x : Int) ≤ 999999999 := by omega
          have c2 : (cy : Int) ≤ 1 := by omega
          clear hv hneg HX HY hdy
          go_wp2
          go_roundw
          case rel => exact ⟨k + 1, 0, by omega, by go_num, by rfl, by omega, G2⟩
          case measure => simp [intOf]; omega

end Go.Proofs.YthjnmnepjeegiaaGreatDoor
