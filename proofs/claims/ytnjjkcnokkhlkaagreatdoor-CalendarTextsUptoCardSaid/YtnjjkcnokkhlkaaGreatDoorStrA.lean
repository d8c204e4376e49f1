/- Plain laws of strings: splitting at one byte; rows of digits; their numbers; numerals of a given length. No program. -/
import Derived.Lib.Split
import Derived.Lib.SlTrimSet
import Derived.Lib.Atoi
import Derived.Lib.ItoaNum
import Derived.Lib.Repeat
namespace Go.Proofs.YtnjjkcnokkhlkaaGreatDoor.Str
open Go.Lib

/-- A list cut at each c. -/
def spl (c : UInt8) : List UInt8 → List (List UInt8)
  | [] => [[]]
  | x :: l => if x = c then [] :: spl c l else match spl c l with | [] => [[x]] | p :: ps => (x :: p) :: ps

theorem spl_ne (c : UInt8) (l : List UInt8) : spl c l ≠ [] := by
  cases l with
  | nil => simp [spl]
  | cons x l => unfold spl; split; simp; split <;> simp

theorem spl_none {c : UInt8} : ∀ {l : List UInt8}, c ∉ l → spl c l = [l]
  | [], _ => rfl
  | x :: l, h => by
    have hx : x ≠ c := fun e => h (by simp [e])
    have hl : c ∉ l := fun e => h (by simp [e])
    simp [spl, hx, spl_none hl]

theorem spl_hit {c : UInt8} : ∀ {a b : List UInt8}, c ∉ a → spl c (a ++ c :: b) = a :: spl c b
  | [], b, _ => by simp [spl]
  | x :: a, b, h => by
    have hx : x ≠ c := fun e => h (by simp [e])
    have hl : c ∉ a := fun e => h (by simp [e])
    simp [spl, hx, spl_hit hl]

theorem spl_join {c : UInt8} : ∀ {l a : List UInt8} {ps : List (List UInt8)}, spl c l = a :: ps → c ∉ a ∧ ((ps = [] ∧ l = a) ∨ ∃ b, l = a ++ c :: b ∧ spl c b = ps)
  | [], a, ps, h => by
    simp [spl] at h
    obtain ⟨rfl, rfl⟩ := h
    simp
  | x :: l, a, ps, h => by
    unfold spl at h
    by_cases hx : x = c
    · rw [if_pos hx] at h
      injection h with h1 h2
      subst h1 hx
      exact ⟨by simp, .inr ⟨l, by simp, h2⟩⟩
    · rw [if_neg hx] at h
      cases hs : spl c l with
      | nil => exact absurd hs (spl_ne c l)
      | cons p qs =>
        rw [hs] at h
        injection h with h1 h2
        subst h1 h2
        obtain ⟨h3, h4⟩ := spl_join hs
        refine ⟨fun e => ?_, ?_⟩
        · rcases List.mem_cons.1 e with e | e
          · exact hx e.symm
          · exact h3 e
        · rcases h4 with ⟨rfl, rfl⟩ | ⟨b, rfl, hb⟩
          · exact .inl ⟨rfl, rfl⟩
          · exact .inr ⟨b, rfl, hb⟩

theorem occ_one (s : List UInt8) (c : UInt8) (i : Nat) : occAt s [c] i = decide (s[i]? = some c) := by
  unfold occAt
  cases h : s[i]? with
  | none =>
    have : s.drop i = [] := List.drop_eq_nil_of_le (by rw [List.getElem?_eq_none_iff] at h; exact h)
    simp [this]
  | some x =>
    obtain ⟨hi, hx⟩ := List.getElem?_eq_some_iff.1 h
    rw [List.drop_eq_getElem_cons hi, hx]
    show (c == x && true) = decide (some x = some c)
    rw [Bool.and_true, Bool.eq_iff_iff, beq_iff_eq, decide_eq_true_eq]
    exact ⟨fun e => by rw [e], fun e => by injection e with e; exact e.symm⟩

/-- Where index finds one byte. -/
theorem index_one (s : List UInt8) (c : UInt8) : (index s [c] = -1 ∧ c ∉ s) ∨ ∃ a b, s = a ++ c :: b ∧ c ∉ a ∧ index s [c] = (a.length : Int) := by
  by_cases h : c ∈ s
  · right
    have key : ∀ s : List UInt8, c ∈ s → ∃ a b, s = a ++ c :: b ∧ c ∉ a := by
      intro s
      induction s with
      | nil => intro h; simp at h
      | cons x l ih =>
        intro h
        by_cases hx : x = c
        · exact ⟨[], l, by simp [hx], by simp⟩
        · obtain ⟨a, b, e, hn⟩ := ih (by rcases List.mem_cons.1 h with e | e; exact absurd e.symm hx; exact e)
          refine ⟨x :: a, b, by rw [e]; rfl, fun e' => ?_⟩
          rcases List.mem_cons.1 e' with e' | e'
          · exact hx e'.symm
          · exact hn e'
    obtain ⟨a, b, rfl, hn⟩ := key s h
    refine ⟨a, b, rfl, hn, index_first (by simp) ?_ ?_⟩
    · rw [occ_one]; simp
    · intro j hj
      rw [occ_one, List.getElem?_append_left hj]
      have : a[j]? ≠ some c := fun e => hn (List.mem_of_getElem? e)
      simpa using this
  · left
    refine ⟨index_none fun j _ => ?_, h⟩
    rw [occ_one]
    have : s[j]? ≠ some c := fun e => h (List.mem_of_getElem? e)
    simpa using this

theorem split_one (c : UInt8) : ∀ (n : Nat) (s : List UInt8), s.length ≤ n → split s [c] = spl c s ∧ count s [c] + 1 = (spl c s).length
  | 0, s, h => by
    have : s = [] := List.eq_nil_of_length_eq_zero (by omega)
    subst this
    have hi : index [] [c] = -1 := by rcases index_one [] c with ⟨h, _⟩ | ⟨a, b, e, _⟩; exact h; simp at e
    unfold split
    rw [count_miss hi]
    simp [splitK, spl]
  | n + 1, s, h => by
    rcases index_one s c with ⟨hi, hn⟩ | ⟨a, b, rfl, hn, hi⟩
    · unfold split
      rw [count_miss hi, spl_none hn]
      simp [splitK]
    · have hl : b.length ≤ n := by simp at h; omega
      obtain ⟨i1, i2⟩ := split_one c n b hl
      have hd : (a ++ c :: b).drop (a.length + [c].length) = b := by simp [List.drop_append]
      have hc := count_hit (s := a ++ c :: b) (sub := [c]) (by simp) hi
      rw [hd] at hc
      unfold split at i1 ⊢
      rw [hc, spl_hit hn]
      refine ⟨?_, by simp; omega⟩
      rw [Nat.add_comm 1, splitK, hi]
      rw [if_neg (by simp only [beq_iff_eq]; omega)]
      have hd2 : (a ++ c :: b).drop ((a.length : Int).toNat + [c].length) = b := by simp
      rw [hd2, i1]
      congr 1
      simp

/-! ### Digits -/
def isD (c : UInt8) : Bool := decide (48 ≤ c.toNat ∧ c.toNat ≤ 57)
def allD (l : List UInt8) : Bool := l.all isD
/-- The number that digits spell. -/
def val (l : List UInt8) : Nat := l.foldl (fun a c => 10 * a + (c.toNat - 48)) 0
def cs10 : List UInt8 := [48, 49, 50, 51, 52, 53, 54, 55, 56, 57]

theorem mem_cs10 (c : UInt8) : cs10.contains c = isD c := by
  rw [Bool.eq_iff_iff, List.contains_iff_mem]
  simp only [cs10, isD, List.mem_cons, List.not_mem_nil, or_false, decide_eq_true_eq, ← UInt8.toNat_inj]
  simp only [UInt8.reduceToNat]
  omega

theorem dropWhile_nil {p : UInt8 → Bool} : ∀ {l : List UInt8}, l.dropWhile p = [] ↔ l.all p = true
  | [] => by simp
  | x :: l => by
    rw [List.dropWhile_cons]
    cases h : p x
    · simp [h]
    · simp only [if_true, List.all_cons, h, Bool.true_and]
      exact dropWhile_nil

theorem trim_digits (l : List UInt8) : trimS l cs10 = [] ↔ allD l = true := by
  have hf : (fun x => cs10.contains x) = isD := funext mem_cs10
  unfold trimS trimLeftS trimRightS
  rw [hf, dropWhile_nil]
  constructor
  · intro h
    have hr : (l.reverse.dropWhile isD).all isD = true := by simpa [List.all_reverse] using h
    have hd : l.reverse.dropWhile isD = [] := by
      cases hx : l.reverse.dropWhile isD with
      | nil => rfl
      | cons x t =>
        have h1 : isD x = false := by
          have := List.head_dropWhile_not isD (l := l.reverse) (by rw [hx]; simp)
          simpa [hx] using this
        rw [hx] at hr
        simp [h1] at hr
    have := dropWhile_nil.1 hd
    unfold allD
    simpa [List.all_reverse] using this
  · intro h
    have : l.reverse.dropWhile isD = [] := dropWhile_nil.2 (by unfold allD at h; simpa [List.all_reverse] using h)
    rw [this]; rfl

theorem decFrom_val : ∀ (l : List UInt8) (a : Nat), allD l = true → decFrom a l = some (l.foldl (fun a c => 10 * a + (c.toNat - 48)) a)
  | [], a, _ => rfl
  | x :: l, a, h => by
    have h' : isD x = true ∧ allD l = true := by unfold allD at h ⊢; simpa using h
    have hx : digitVal x = some (x.toNat - 48) := by
      have := h'.1
      unfold isD at this
      unfold digitVal
      rw [if_pos (of_decide_eq_true this)]
    unfold decFrom
    rw [hx]
    simp only [List.foldl_cons]
    rw [Nat.mul_comm a 10]
    exact decFrom_val l _ h'.2

theorem atoi_digits (l : List UInt8) (h : allD l = true) (hne : l ≠ []) : atoi l = some (val l : Int) := by
  cases l with
  | nil => exact absurd rfl hne
  | cons x l =>
    have hx : isD x = true := by unfold allD at h; simp at h; exact h.1
    have hd := of_decide_eq_true hx
    have h45 : (x == 45) = false := by rw [beq_eq_false_iff_ne]; rintro rfl; simp at hd
    have h43 : (x == 43) = false := by rw [beq_eq_false_iff_ne]; rintro rfl; simp at hd
    simp only [atoi, h45, h43, Bool.false_eq_true, if_false]
    unfold decNat
    rw [if_neg (by simp), decFrom_val _ 0 h]
    rfl

theorem foldl_lt : ∀ (l : List UInt8) (a : Nat), allD l = true → l.foldl (fun a c => 10 * a + (c.toNat - 48)) a < (a + 1) * 10 ^ l.length
  | [], a, _ => by simp
  | x :: l, a, h => by
    have h' : isD x = true ∧ allD l = true := by unfold allD at h ⊢; simpa using h
    have hd := of_decide_eq_true h'.1
    rw [List.foldl_cons]
    have ih := foldl_lt l (10 * a + (x.toNat - 48)) h'.2
    have hle : (10 * a + (x.toNat - 48) + 1) * 10 ^ l.length ≤ ((a + 1) * 10) * 10 ^ l.length := Nat.mul_le_mul_right _ (by omega)
    rw [List.length_cons, Nat.pow_succ]
    refine Nat.lt_of_lt_of_le ih (Nat.le_trans hle (Nat.le_of_eq ?_))
    rw [Nat.mul_assoc, Nat.mul_comm 10]
theorem val_lt (l : List UInt8) (h : allD l = true) : val l < 10 ^ l.length := by have := foldl_lt l 0 h; simpa [val] using this
theorem val_snoc (l : List UInt8) (c : UInt8) : val (l ++ [c]) = 10 * val l + (c.toNat - 48) := by simp [val]

/-- n in k decimal digits. -/
def pad : Nat → Nat → List UInt8
  | 0, _ => []
  | k + 1, n => pad k (n / 10) ++ [UInt8.ofNat (48 + n % 10)]
theorem pad_length : ∀ k n, (pad k n).length = k
  | 0, _ => rfl
  | k + 1, n => by simp [pad, pad_length k]
theorem digit_byte (n : Nat) (h : n < 10) : (UInt8.ofNat (48 + n)).toNat = 48 + n := by rw [UInt8.toNat_ofNat']; exact Nat.mod_eq_of_lt (by omega)
theorem pad_allD : ∀ k n, allD (pad k n) = true
  | 0, _ => rfl
  | k + 1, n => by
    have ih := pad_allD k (n / 10)
    unfold allD at ih ⊢
    rw [pad, List.all_append, ih]
    have := digit_byte (n % 10) (by omega)
    simp only [List.all_cons, List.all_nil, Bool.and_true, Bool.true_and]
    unfold isD
    rw [this]
    simp; omega
theorem val_pad : ∀ k n, n < 10 ^ k → val (pad k n) = n
  | 0, n, h => by simp at h; subst h; rfl
  | k + 1, n, h => by
    rw [pad, val_snoc, val_pad k (n / 10) (by rw [Nat.pow_succ] at h; omega), digit_byte _ (by omega)]
    omega
theorem pad_val : ∀ (l : List UInt8) (k : Nat), allD l = true → l.length = k → pad k (val l) = l := by
  intro l k h hk
  subst hk
  have key : ∀ (k : Nat) (l : List UInt8), l.length = k → allD l = true → pad k (val l) = l := by
    intro k
    induction k with
    | zero => intro l hl _; have := List.eq_nil_of_length_eq_zero hl; subst this; rfl
    | succ k ih =>
      intro l hl h
      have hne : l ≠ [] := by intro e; subst e; simp at hl
      obtain ⟨a, c, rfl⟩ : ∃ a c, l = a ++ [c] := ⟨l.dropLast, l.getLast hne, (List.dropLast_concat_getLast hne).symm⟩
      have ha : a.length = k := by simp at hl; exact hl
      have h' : allD a = true ∧ isD c = true := by unfold allD at h ⊢; simpa using h
      have hd := of_decide_eq_true h'.2
      rw [val_snoc, pad]
      have e1 : (10 * val a + (c.toNat - 48)) / 10 = val a := by omega
      have e2 : (10 * val a + (c.toNat - 48)) % 10 = c.toNat - 48 := by omega
      rw [e1, e2, ih a ha h'.1]
      congr 2
      apply UInt8.toNat.inj
      rw [digit_byte _ (by omega)]
      omega
  exact key _ l rfl h

theorem repeat_zero : ∀ k, repeatL [48] k = List.replicate k 48
  | 0 => rfl
  | k + 1 => by rw [repeatL, repeat_zero k]; rfl
theorem decDigits_pos (u : Nat) : 0 < (decDigits u).length := by
  rw [decDigits]; split <;> simp
theorem pad_zero : ∀ k, pad k 0 = List.replicate k 48
  | 0 => rfl
  | k + 1 => by
    have h0 : UInt8.ofNat (48 + 0 % 10) = 48 := by decide
    rw [pad, h0, pad_zero k, List.replicate_succ']
/-- Zeros ahead of the numeral: the number in k digits. -/
theorem pad_decDigits : ∀ (k n : Nat), n < 10 ^ k → 0 < k → (decDigits n).length ≤ k ∧ List.replicate (k - (decDigits n).length) 48 ++ decDigits n = pad k n
  | 0, n, _, hk => by omega
  | k + 1, n, h, _ => by
    by_cases hn : n < 10
    · rw [decDigits, dif_pos hn, pad]
      have e1 : n / 10 = 0 := by omega
      have e2 : n % 10 = n := by omega
      rw [e1, e2, pad_zero]
      simp
    · have hk : 0 < k := by
        rcases Nat.eq_zero_or_pos k with e | e
        · subst e; simp at h; omega
        · exact e
      obtain ⟨i1, i2⟩ := pad_decDigits k (n / 10) (by rw [Nat.pow_succ] at h; omega) hk
      rw [decDigits, dif_neg hn, pad]
      refine ⟨by simp; omega, ?_⟩
      rw [← i2]
      simp

end Go.Proofs.YtnjjkcnokkhlkaaGreatDoor.Str
