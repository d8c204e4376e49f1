/- Units of the program: FormatUnit. -/
import Derived.Test.YtinoipjblkidfaaGreatDoorE17
import Derived.Test.YtinoipjblkidfaaGreatDoorProg
import Derived.Maps.AppendAt
import Derived.Laws.OwnMore
import Derived.Shelf.Strings.OnBuilder
/- Plain laws: the text of a plain unit, which reads as that unit. -/
namespace Go.Proofs.YtinoipjblkidfaaGreatDoor
open Go.Proofs.YtinoipjblkidfaaGreatDoor.Dg Go.Proofs.YtinoipjblkidfaaGreatDoor.Q Go.Proofs.YtinoipjblkidfaaGreatDoor.Num Go.Proofs.YtinoipjblkidfaaGreatDoor.Str
open Go.Lib (decDigits)

theorem P7.same7 {p q : P7} (h1 : p.a = q.a) (h2 : p.b = q.b) (h3 : p.c = q.c) (h4 : p.d = q.d) (h5 : p.e = q.e) (h6 : p.f = q.f) (h7 : p.g = q.g) : p = q := by
  cases p; cases q; simp only at *; subst h1 h2 h3 h4 h5 h6 h7; rfl
theorem plainU_two {F O : List UInt8} {p : P7} (h : plainU F O p = true) : vU F O p = true ∧ O = [48] := by
  unfold plainU at h
  rw [Bool.and_eq_true] at h
  exact ⟨h.1, of_decide_eq_true h.2⟩
/-- The text of an integer. -/
def itl (p : Int) : List UInt8 := (if p < 0 then [45] else []) ++ decDigits p.natAbs
/-- The names of the base units. -/
def names : List (List UInt8) := [[109], [107, 103], [115], [75], [109, 111, 108], [65], [99, 100]]
def word (n : List UInt8) (p : Int) : List UInt8 := if p = 1 then n else n ++ 94 :: itl p
/-- The words of powers. -/
def wordsOf (l : List (List UInt8 × Int)) : List (List UInt8) := l.flatMap fun x => if x.2 = 0 then [] else [word x.1 x.2]
/-- Words, parted by blanks. -/
def joinW : List (List UInt8) → List UInt8
  | [] => []
  | [w] => w
  | w :: v :: r => w ++ 32 :: joinW (v :: r)
/-- The text of a plain unit. -/
def fmtU (F : List UInt8) (p : P7) : List UInt8 := if F = [49] ∧ wordsOf (names.zip p.l) ≠ [] then joinW (wordsOf (names.zip p.l)) else joinW (F :: wordsOf (names.zip p.l))

/-- Two lists, member by member. -/
inductive All2 {α β : Type} (R : α → β → Prop) : List α → List β → Prop
  | nil : All2 R [] []
  | cons {a : α} {b : β} {l₁ : List α} {l₂ : List β} : R a b → All2 R l₁ l₂ → All2 R (a :: l₁) (b :: l₂)
theorem cnt_app {a b : List UInt8} (ha : allD a = true) (hb : ∀ c, b.head? = some c → isD c = false) : cnt (a ++ b) = a.length := by
  unfold cnt
  rw [(take_digits ha hb).1]
/-- A word whose first factor is x. -/
def stepOk (w : List UInt8) (x : PF) : Prop := ∀ rest : List UInt8, (rest = [] ∨ ∃ r, rest = 32 :: r) → pstep 1 (w ++ rest) = some (x, rest)
theorem rest_head {rest : List UInt8} (h : rest = [] ∨ ∃ r, rest = 32 :: r) : ∀ c, rest.head? = some c → c = 32 := by
  intro c hc
  rcases h with rfl | ⟨r, rfl⟩
  · cases hc
  · injection hc with hc; exact hc.symm
theorem pfac_words : ∀ (ws : List (List UInt8)) (xs : List PF), All2 stepOk ws xs → ws ≠ [] → ∀ (k : Nat) (acc : List PF), ws.length ≤ k → pfac k 1 acc (joinW ws) = some (acc ++ xs)
  | [], _, _, h, _, _, _ => absurd rfl h
  | [w], _, .cons (b := x) h .nil, _, k, acc, hk => by
    obtain ⟨k, rfl⟩ : ∃ k', k = k' + 1 := ⟨k - 1, by simp at hk; omega⟩
    have := h [] (.inl rfl)
    rw [List.append_nil] at this
    rw [joinW, pfac, this]
  | w :: v :: r, _, .cons (b := x) (l₂ := xs) h h2, _, k, acc, hk => by
    obtain ⟨k, rfl⟩ : ∃ k', k = k' + 1 := ⟨k - 1, by simp at hk; omega⟩
    have := h (32 :: joinW (v :: r)) (.inr ⟨_, rfl⟩)
    rw [joinW, pfac, this]
    simp only [if_true]
    rw [pfac_words (v :: r) xs h2 (by simp) k (acc ++ [x]) (by simpa using hk), List.append_assoc]
    rfl
theorem numb_txt {q : Rat} (hq : ngt q = false) {rest : List UInt8} (h : rest = [] ∨ ∃ r, rest = 32 :: r) : numb (txt q ++ rest) = (txt q).length := by
  have hr := rest_head h
  have hrd : ∀ c, rest.head? = some c → isD c = false := fun c hc => by rw [hr c hc]; rfl
  have hD := decDigits_pos (top q)
  unfold txt
  rw [hq]
  simp only [Bool.false_eq_true, if_false, List.nil_append]
  unfold numb
  by_cases hd : q.den = 1
  · rw [if_pos hd, List.append_nil]
    have hc : cnt (decDigits (top q) ++ rest) = (decDigits (top q)).length := cnt_app (allD_dec _) hrd
    rw [hc, if_neg]
    rintro ⟨_, h2⟩
    rw [List.getElem?_append_right (Nat.le_refl _), Nat.sub_self, ← List.head?_eq_getElem?] at h2
    rcases h2 with h2 | h2 <;> exact absurd (hr _ h2) (by decide)
  · rw [if_neg hd, List.append_assoc, List.cons_append]
    have hc : cnt (decDigits (top q) ++ 47 :: (decDigits q.den ++ rest)) = (decDigits (top q)).length := cnt_app (allD_dec _) (fun c hc => by injection hc with hc; rw [← hc]; rfl)
    have hE := decDigits_pos q.den
    have e2 : (decDigits (top q) ++ 47 :: (decDigits q.den ++ rest)).drop ((decDigits (top q)).length + 1) = decDigits q.den ++ rest := by
      rw [← List.drop_drop, List.drop_left, List.drop_one, List.tail_cons]
    have hc2 : cnt (decDigits q.den ++ rest) = (decDigits q.den).length := cnt_app (allD_dec _) hrd
    rw [hc, e2, hc2, if_pos ⟨hD, .inr (by rw [List.getElem?_append_right (Nat.le_refl _), Nat.sub_self]; rfl)⟩, if_pos hE, List.length_append, List.length_cons]
    omega
theorem step_num {q : Rat} (h0 : 0 < q) (hs : short q = true) : stepOk (txt q) ⟨⟨[], txt q, [48], false, ⟨0, 0, 0, 0, 0, 0, 0⟩⟩, 1, true⟩ := by
  intro rest h
  have hn : ngt q = false := by
    cases hb : ngt q
    · rfl
    · unfold ngt at hb
      have hlt : q.num < 0 := by simpa using hb
      have := Rat.num_nonneg.2 (Rat.le_of_lt h0)
      omega
  have hN := numb_txt hn h
  have hpos : 0 < (txt q).length := List.length_pos_iff.2 (txt_ne q)
  unfold pstep
  rw [hN, if_pos hpos, List.take_left, frm_txt]
  simp only
  rw [if_pos ⟨hs, fun e => by rw [e] at h0; exact absurd h0 (by decide)⟩, List.drop_left]
  rfl
theorem itl_val : ∀ m : Nat, m < 13 → ((decDigits m).dropWhile (· == 48)).length ≤ 2 ∧ val ((decDigits m).dropWhile (· == 48)) = m := by decide +kernel
theorem pexp_itl {p : Int} (hp : -12 ≤ p ∧ p ≤ 12) {rest : List UInt8} (h : rest = [] ∨ ∃ r, rest = 32 :: r) : pexp (itl p ++ rest) = some (p, (itl p).length) := by
  have hr := rest_head h
  have hrd : ∀ c, rest.head? = some c → isD c = false := fun c hc => by rw [hr c hc]; rfl
  have hc : cnt (decDigits p.natAbs ++ rest) = (decDigits p.natAbs).length := cnt_app (allD_dec _) hrd
  have hD := decDigits_pos p.natAbs
  obtain ⟨v1, v2⟩ := itl_val p.natAbs (by omega)
  unfold pexp
  by_cases hn : p < 0
  · have e : itl p ++ rest = 45 :: (decDigits p.natAbs ++ rest) := by unfold itl; rw [if_pos hn]; rfl
    have hl : (itl p).length = (decDigits p.natAbs).length + 1 := by unfold itl; rw [if_pos hn]; simp
    have e1 : isNeg (45 :: (decDigits p.natAbs ++ rest)) = true := rfl
    have e2 : body (45 :: (decDigits p.natAbs ++ rest)) = decDigits p.natAbs ++ rest := rfl
    rw [e, e1, e2, hc, if_neg (by omega), List.take_left]
    simp only [if_true]
    rw [if_pos v1, v2, hl]
    congr 2
    omega
  · have e : itl p ++ rest = decDigits p.natAbs ++ rest := by unfold itl; rw [if_neg hn]; rfl
    have hl : (itl p).length = (decDigits p.natAbs).length := by unfold itl; rw [if_neg hn]; rfl
    have e1 : isNeg (decDigits p.natAbs ++ rest) = false := by
      unfold isNeg
      cases hd : decDigits p.natAbs with
      | nil => rw [hd] at hD; simp at hD
      | cons c r =>
        have := dec_head_digit p.natAbs (c := c) (by rw [hd]; rfl)
        rw [List.cons_append, List.head?_cons]
        rw [beq_eq_false_iff_ne]
        intro e
        injection e with e
        rw [e] at this
        exact absurd this (by decide)
    have e2 : body (decDigits p.natAbs ++ rest) = decDigits p.natAbs ++ rest := by unfold body; rw [e1]; rfl
    rw [e, e1, e2, hc, if_neg (by omega), List.take_left]
    simp only [Bool.false_eq_true, if_false]
    rw [if_pos v1, v2, hl]
    congr 2
    omega
theorem tw_name {n b : List UInt8} (hn : n.all isL = true) (hb : ∀ c, b.head? = some c → isL c = false) : wrd (n ++ b) = n.length := by
  unfold wrd
  rw [List.takeWhile_append_of_pos (fun c hc => List.all_eq_true.1 hn c hc), List.length_append]
  cases b with
  | nil => simp
  | cons c b => rw [List.takeWhile_cons, if_neg (by rw [hb c rfl]; decide)]; rfl
theorem numb_name {n b : List UInt8} (hn : n.all isL = true) (h0 : n ≠ []) : numb (n ++ b) = 0 := by
  obtain ⟨c, r, rfl⟩ : ∃ c r, n = c :: r := by cases n with | nil => exact absurd rfl h0 | cons c r => exact ⟨c, r, rfl⟩
  have hl : isL c = true := List.all_eq_true.1 hn c (List.mem_cons_self ..)
  have hd : isD c = false := by
    cases hd : isD c
    · rfl
    · unfold isD at hd
      unfold isL at hl
      simp only [Bool.or_eq_true, Bool.and_eq_true, decide_eq_true_eq] at hl hd
      omega
  have hc : cnt (c :: r ++ b) = 0 := by unfold cnt; rw [List.cons_append, List.takeWhile_cons, hd]; rfl
  unfold numb
  rw [hc, if_neg (fun h => absurd h.1 (by decide))]
theorem step_word {n : List UInt8} {y : Sy} {p : Int} (hn : n.all isL = true) (h0 : n ≠ []) (hy : sfind n = some y) (hp : -12 ≤ p ∧ p ≤ 12) : stepOk (word n p) ⟨y, p, decide (p = 1)⟩ := by
  intro rest h
  have hr := rest_head h
  unfold word pstep
  by_cases h1 : p = 1
  · subst h1
    rw [if_pos rfl, numb_name hn h0, if_neg (by decide), tw_name hn (fun c hc => by rw [hr c hc]; rfl), List.take_left, hy, List.drop_left]
    simp only
    rw [if_neg (fun e => absurd (hr _ e) (by decide))]
  · have e : n ++ 94 :: itl p ++ rest = n ++ (94 :: (itl p ++ rest)) := by rw [List.append_assoc]; rfl
    rw [if_neg h1, e, numb_name hn h0, if_neg (by decide), tw_name hn (fun c hc => by injection hc with hc; rw [← hc]; rfl), List.take_left, hy, List.drop_left]
    simp only [List.head?_cons, List.tail_cons, if_true]
    rw [pexp_itl hp h]
    simp only
    rw [List.drop_left, Int.one_mul, decide_eq_false h1]
/-- The symbols of the base units. -/
def bases : List Sy := [⟨[109], [49], [48], true, ⟨1, 0, 0, 0, 0, 0, 0⟩⟩, ⟨[103], [49], [48], true, ⟨0, 1, 0, 0, 0, 0, 0⟩⟩, ⟨[115], [49], [48], true, ⟨0, 0, 1, 0, 0, 0, 0⟩⟩, ⟨[75], [49], [48], true, ⟨0, 0, 0, 1, 0, 0, 0⟩⟩, ⟨[109, 111, 108], [49], [48], true, ⟨0, 0, 0, 0, 1, 0, 0⟩⟩, ⟨[65], [49], [48], true, ⟨0, 0, 0, 0, 0, 1, 0⟩⟩, ⟨[99, 100], [49], [48], true, ⟨0, 0, 0, 0, 0, 0, 1⟩⟩]
def facsOf (l : List (Sy × Int)) : List PF := l.flatMap fun x => if x.2 = 0 then [] else [⟨x.1, x.2, decide (x.2 = 1)⟩]
def nameOk (n : List UInt8) (y : Sy) : Prop := n.all isL = true ∧ n ≠ [] ∧ sfind n = some y ∧ n.length ≤ 3
theorem names_ok : All2 nameOk names bases := by
  unfold names bases
  refine .cons ?_ (.cons ?_ (.cons ?_ (.cons ?_ (.cons ?_ (.cons ?_ (.cons ?_ .nil)))))) <;> exact ⟨by decide, by decide, by decide +kernel, by decide⟩
theorem words_ok : ∀ (ns : List (List UInt8)) (ys : List Sy) (ps : List Int), All2 nameOk ns ys → (∀ p ∈ ps, -12 ≤ p ∧ p ≤ 12) → All2 stepOk (wordsOf (ns.zip ps)) (facsOf (ys.zip ps))
  | _, _, _, .nil, _ => .nil
  | _, _, [], .cons _ _, _ => .nil
  | _, _, p :: ps, .cons (a := n) (b := y) (l₁ := ns) (l₂ := ys) h h2, hp => by
    have ih := words_ok ns ys ps h2 (fun q hq => hp q (List.mem_cons_of_mem _ hq))
    show All2 stepOk ((if p = 0 then [] else [word n p]) ++ wordsOf (ns.zip ps)) ((if p = 0 then [] else [(⟨y, p, decide (p = 1)⟩ : PF)]) ++ facsOf (ys.zip ps))
    by_cases h0 : p = 0
    · rw [if_pos h0, if_pos h0]; exact ih
    · rw [if_neg h0, if_neg h0]
      exact .cons (step_word h.1 h.2.1 h.2.2.1 (hp p (List.mem_cons_self ..))) ih
theorem one_np (k : Nat) : (1 : Rat) ^ k = 1 := by
  induction k with
  | zero => rw [Rat.pow_zero]
  | succ k ih => rw [Rat.pow_succ, ih, Rat.mul_one]
theorem one_zp (n : Int) : (1 : Rat) ^ n = 1 := by
  rcases Int.natAbs_eq n with e | e
  · rw [e, Rat.zpow_natCast, one_np]
  · rw [e, Rat.zpow_neg, Rat.zpow_natCast, one_np]
    decide +kernel
theorem facs_prod : ∀ (l : List (Sy × Int)) (a : Rat), (∀ x ∈ l, x.1.fac = [49]) → (facsOf l).foldl (fun a x => a * ((num? x.s.fac).getD 0) ^ x.exp) a = a
  | [], _, _ => rfl
  | (y, p) :: l, a, h => by
    have ih := fun b => facs_prod l b (fun x hx => h x (List.mem_cons_of_mem _ hx))
    have hy : y.fac = [49] := h (y, p) (List.mem_cons_self ..)
    show ((if p = 0 then [] else [(⟨y, p, decide (p = 1)⟩ : PF)]) ++ facsOf l).foldl _ a = a
    by_cases h0 : p = 0
    · rw [if_pos h0]; exact ih a
    · rw [if_neg h0, List.foldl_append, List.foldl_cons, List.foldl_nil, hy, show num? [49] = some 1 by decide +kernel, Option.getD_some, one_zp, Rat.mul_one]
      exact ih a
theorem P7.plus_zero (a b : P7) : a.plus 0 b = a := by apply P7.same7 <;> simp [P7.plus]
theorem facs_sum : ∀ (l : List (Sy × Int)) (a : P7), (facsOf l).foldl (fun a x => a.plus x.exp x.s.p) a = l.foldl (fun a x => a.plus x.2 x.1.p) a
  | [], _ => rfl
  | (y, p) :: l, a => by
    have ih := fun b => facs_sum l b
    show ((if p = 0 then [] else [(⟨y, p, decide (p = 1)⟩ : PF)]) ++ facsOf l).foldl _ a = l.foldl _ (a.plus p y.p)
    by_cases h0 : p = 0
    · rw [if_pos h0, h0, P7.plus_zero]; exact ih a
    · rw [if_neg h0, List.foldl_append]; exact ih _
theorem bases_sum (p : P7) : (bases.zip p.l).foldl (fun a x => a.plus x.2 x.1.p) ⟨0, 0, 0, 0, 0, 0, 0⟩ = p := by
  obtain ⟨a, b, c, d, e, f, g⟩ := p
  unfold bases P7.l
  simp only [List.zip_cons_cons, List.zip_nil_left, List.foldl_cons, List.foldl_nil, P7.plus]
  congr 1 <;> omega
theorem facs_mem : ∀ (l : List (Sy × Int)) (x : PF), x ∈ facsOf l → (x.s, x.exp) ∈ l := by
  intro l x hx
  obtain ⟨⟨y, p⟩, h1, h2⟩ := List.mem_flatMap.1 hx
  by_cases h0 : p = 0
  · rw [if_pos h0] at h2; cases h2
  · rw [if_neg h0] at h2
    obtain rfl := List.mem_singleton.1 h2
    exact h1
theorem bases_ok : ∀ y ∈ bases, y.fac = [49] ∧ y.off = [48] := by decide
theorem bases_mem (p : P7) : ∀ x ∈ bases.zip p.l, x.1.fac = [49] ∧ x.1.off = [48] ∧ x.2 ∈ p.l := by
  rintro ⟨y, k⟩ hx
  obtain ⟨h1, h2⟩ := List.of_mem_zip hx
  exact ⟨(bases_ok y h1).1, (bases_ok y h1).2, h2⟩
theorem facs_len (l : List (Sy × Int)) : (facsOf l).length ≤ l.length := by
  induction l with
  | nil => exact Nat.le_refl _
  | cons x l ih =>
    show ((if x.2 = 0 then [] else [(⟨x.1, x.2, decide (x.2 = 1)⟩ : PF)]) ++ facsOf l).length ≤ _
    rw [List.length_append, List.length_cons]
    split <;> simp <;> omega
theorem join_len : ∀ (ws : List (List UInt8)) (B : Nat), (∀ w ∈ ws, w.length ≤ B) → (joinW ws).length ≤ ws.length * (B + 1)
  | [], _, _ => Nat.zero_le _
  | [w], B, h => by have := h w (List.mem_cons_self ..); rw [joinW, List.length_singleton]; omega
  | w :: v :: r, B, h => by
    have ih := join_len (v :: r) B (fun x hx => h x (List.mem_cons_of_mem _ hx))
    have := h w (List.mem_cons_self ..)
    rw [joinW, List.length_append, List.length_cons, List.length_cons, Nat.add_mul]
    omega
theorem itl_len {p : Int} (hp : -12 ≤ p ∧ p ≤ 12) : (itl p).length ≤ 3 := by
  have h : ∀ m : Nat, m < 13 → (decDigits m).length ≤ 2 := by decide +kernel
  have := h p.natAbs (by omega)
  unfold itl
  rw [List.length_append]
  split <;> simp <;> omega
theorem words_len : ∀ (ns : List (List UInt8)) (ys : List Sy) (ps : List Int), All2 nameOk ns ys → (∀ p ∈ ps, -12 ≤ p ∧ p ≤ 12) → ∀ w ∈ wordsOf (ns.zip ps), w.length ≤ 82 := by
  intro ns ys ps h hp w hw
  obtain ⟨⟨n, p⟩, h1, h2⟩ := List.mem_flatMap.1 hw
  obtain ⟨hn, hq⟩ := List.of_mem_zip h1
  have hl : n.length ≤ 3 := by
    clear h1 h2 hw hq hp
    induction h with
    | nil => cases hn
    | cons a _ ih => rcases List.mem_cons.1 hn with rfl | hn; exact a.2.2.2; exact ih hn
  have := itl_len (hp p hq)
  by_cases h0 : p = 0
  · rw [if_pos h0] at h2; cases h2
  · rw [if_neg h0] at h2
    obtain rfl := List.mem_singleton.1 h2
    show (word n p).length ≤ 82
    unfold word
    split
    · omega
    · rw [List.length_append, List.length_cons]; omega
theorem words_count (l : List (List UInt8 × Int)) : (wordsOf l).length ≤ l.length := by
  induction l with
  | nil => exact Nat.le_refl _
  | cons x l ih =>
    show ((if x.2 = 0 then [] else [word x.1 x.2]) ++ wordsOf l).length ≤ _
    rw [List.length_append, List.length_cons]
    split <;> simp <;> omega
theorem join_pos : ∀ (ws : List (List UInt8)), ws.length ≤ (joinW ws).length + 1
  | [] => Nat.zero_le _
  | [w] => by simp
  | w :: v :: r => by
    have ih := join_pos (v :: r)
    simp only [joinW, List.length_append, List.length_cons] at ih ⊢
    omega
/-- Factors that read as the unit. -/
theorem pof_facs {q : Rat} {p : P7} {xs : List PF} (hv : vU (put q) [48] p = true) (hx : ∀ x ∈ xs, x.s.off = [48] ∧ wi x.exp = true) (hl : xs.length ≤ 12) (h0 : xs ≠ []) (hp : pprod xs = q) (hs : psum xs = p) : pof xs = (⟨put q, [48], p⟩, 0) := by
  have hh : (xs.head?.map (·.s.off)).getD [] = [48] := by
    cases xs with
    | nil => exact absurd rfl h0
    | cons x xs => exact (hx x (List.mem_cons_self ..)).1
  unfold pof
  rw [if_neg, if_neg (by omega), hp, hs, hh, if_pos ⟨List.all_eq_true.2 fun x hx' => (hx x hx').2, hv⟩]
  rw [List.any_eq_true]
  rintro ⟨x, h1, h2⟩
  rw [(hx x h1).1] at h2
  exact absurd h2 (by simp)
theorem punit_fmt {F : List UInt8} {p : P7} (h : plainU F [48] p = true) : punit (fmtU F p) = (⟨F, [48], p⟩, 0) := by
  have hv := (plainU_two h).1
  obtain ⟨q, hq, h0, hw⟩ := plainU_parts h
  obtain ⟨hF, hsh⟩ := num_iff.1 hq
  have hput : put q = F := by unfold put; rw [if_pos hsh, hF]
  have hpl : ∀ k ∈ p.l, -12 ≤ k ∧ k ≤ 12 := by
    obtain ⟨w1, w2, w3, w4, w5, w6, w7⟩ := hw
    intro k hk
    simp only [P7.l, List.mem_cons, List.not_mem_nil, or_false] at hk
    rcases hk with rfl | rfl | rfl | rfl | rfl | rfl | rfl <;> assumption
  have hwo := words_ok names bases p.l names_ok hpl
  have hwl := words_len names bases p.l names_ok hpl
  have hwc := words_count (names.zip p.l)
  have hz : (names.zip p.l).length = 7 := rfl
  have hfc := facs_len (bases.zip p.l)
  have hzb : (bases.zip p.l).length = 7 := rfl
  have hfo : ∀ x ∈ facsOf (bases.zip p.l), x.s.off = [48] ∧ wi x.exp = true := fun x hx => by
    have hm := bases_mem p _ (facs_mem _ x hx)
    exact ⟨hm.2.1, wi_iff.2 (hpl _ hm.2.2)⟩
  have hpr := fun a => facs_prod (bases.zip p.l) a (fun x hx => (bases_mem p x hx).1)
  have hsm := facs_sum (bases.zip p.l) ⟨0, 0, 0, 0, 0, 0, 0⟩
  rw [bases_sum] at hsm
  have hFl : F.length ≤ 82 := by rw [← hF]; exact short_len hsh
  rw [← hput] at hv
  unfold fmtU
  by_cases hc : F = [49] ∧ wordsOf (names.zip p.l) ≠ []
  · rw [if_pos hc]
    have hlen := join_len _ 82 hwl
    have hne : facsOf (bases.zip p.l) ≠ [] := fun e => by
      rw [e] at hwo
      cases hws : wordsOf (names.zip p.l) with
      | nil => exact hc.2 hws
      | cons a b => rw [hws] at hwo; cases hwo
    have q1 : q = 1 := by
      have := (show num? [49] = some 1 by decide +kernel)
      rw [← hc.1, hq] at this
      injection this
    unfold punit
    rw [if_neg (by omega), pfac_words _ _ hwo hc.2 _ _ (join_pos _), List.nil_append]
    simp only
    rw [pof_facs hv hfo (by omega) hne (by unfold pprod; rw [hpr, q1]) hsm, hput]
  · rw [if_neg hc]
    have hst := step_num h0 hsh
    rw [hF] at hst
    have hlen := join_len (F :: wordsOf (names.zip p.l)) 82 (fun w hw => by rcases List.mem_cons.1 hw with rfl | hw; exact hFl; exact hwl w hw)
    rw [List.length_cons] at hlen
    unfold punit
    rw [if_neg (by omega), pfac_words _ _ (All2.cons hst hwo) (by simp) _ _ (join_pos _), List.nil_append]
    simp only
    rw [pof_facs hv (fun x hx => by rcases List.mem_cons.1 hx with rfl | hx; exact ⟨rfl, rfl⟩; exact hfo x hx) (by rw [List.length_cons]; omega) (by simp) ?_ ?_, hput]
    · unfold pprod
      rw [List.foldl_cons]
      simp only [hq, Option.getD_some]
      rw [hpr, Rat.zpow_one, Rat.one_mul]
    · unfold psum
      rw [List.foldl_cons]
      exact hsm
end Go.Proofs.YtinoipjblkidfaaGreatDoor

/- Rows that an append grows, with what all their cells are. -/
namespace Go.Proofs.YtinoipjblkidfaaGreatDoor
open Go.RowKit Go.Proofs.YtinoipjblkidfaaGreatDoor.Dg Go.Proofs.YtinoipjblkidfaaGreatDoor.Q

/-- All cells of the block of an owned row are so. -/
def rowP (w : World) (v : Value) (p : Value → Bool) : Prop := ∀ g cur t fz, v.ownBlock = some g → w.heap[g]? = some (.cells cur t fz) → cur.all p = true
theorem rowP_nil (w : World) (p : Value → Bool) : rowP w (.slice none 0 0) p := fun g cur t fz h => by cases h
theorem rowP.up {w w' : World} {v : Value} {p : Value → Bool} (h : rowP w v p) (hb : Below w.heap.size w w') (hg : ∀ g, v.ownBlock = some g → g < w.heap.size) : rowP w' v p :=
  fun g cur t fz e k => h g cur t fz e ((hb.block g (hg g e)).symm.trans k)
theorem rowP_new (w : World) (C : Array Value) (e : TypeId) (n c : Nat) {p : Value → Bool} (hC : C.all p = true) : rowP (w.alloc (.cells C e)) (.slice (some ⟨w.heap.size, 0, none⟩) n c) p := by
  intro g cur t fz h k
  have h' : w.heap.size = g := by simpa [Value.ownBlock] using h
  subst h'
  rw [Deep.blk_alloc_new w (.cells C e)] at k
  injection k with k
  injection k with k1 k2 k3
  subst k1
  exact hC
theorem zero_all {z : Array Value} {p : Value → Bool} (h : z.all p = true) (n : Nat) : (Builtin.zeroCells z n).all p = true := by
  rw [Array.all_eq_true_iff_forall_mem] at *
  intro x hx
  unfold Builtin.zeroCells at hx
  rw [Array.mem_map] at hx
  obtain ⟨i, hi, rfl⟩ := hx
  rw [Array.mem_range] at hi
  have hz : 0 < z.size := by
    rcases Nat.eq_zero_or_pos z.size with e | e
    · rw [e, Nat.mul_zero] at hi; omega
    · exact e
  have hlt := Nat.mod_lt i hz
  rw [getElem!_pos z (i % z.size) hlt]
  exact h _ (Array.getElem_mem hlt)

section
variable {P : Program} (w : World)
theorem run_append_own_p (base : Nat) (t ty e : TypeId) (i : TypeInfo) (z : Value) (size bytes : Nat) (ht : P.underlying t = some (.slice e)) (hi : P.info? e = some i) (hz : i.zero = some z)
    (hsize : i.size = size) (hby : i.bytes = bytes) (hzs : z.cells.size = size) (hsz : 0 < size)
    (v : Value) (n : Nat) (xs : List Value) (hown : w.ownsRow base e size v n xs)
    (a : Addr) (c : Nat) (news : List Value) (hl : news.length = size) (hnews : ∀ j u, news[j]? = some u → w.cell? (a.add j) = some u) (h1 : ∀ u ∈ news, u.oneCell' = true)
    (h63 : n + 1 ≤ maxLen) (hbytes : (n + 1) * bytes ≤ 140737488355328) (hbase : base ≤ w.heap.size) (p : Value → Bool) (hr : rowP w v p) (hzp : z.cells.all p = true) (hnp : ∀ u ∈ news, p u = true) :
    ∃ v' w', (Builtin.append_ #[t, t] ty #[v, .slice (some a) 1 c]).run P w = .ok v' w' ∧ w'.ownsRow base e size v' (n + 1) (xs ++ news) ∧ w.grownBy w' v.ownBlock ∧ rowP w' v' p := by
  have hl' : news.length = 1 * size := by rw [hl, Nat.one_mul]
  obtain ⟨v', w', hrun, h2, h3, _, _⟩ := run_append_own_at w base t ty e i z size bytes ht hi hz hsize hby hzs hsz v n xs hown a 1 c news hl' hnews h1 h63 hbytes hbase
  refine ⟨v', w', hrun, h2, h3, ?_⟩
  subst hsize
  subst hby
  have hsmall : n + 1 ≤ 9223372036854775807 := by simp only [maxLen] at h63; omega
  have hN : news.toArray.all p = true := by rw [List.all_toArray, List.all_eq_true]; exact hnp
  rcases hown.2 with ⟨rfl, rfl⟩ | ⟨g, cap, cur, rfl, hbg, hg, hnc, hcm, hcs, htake⟩
  · have hx := run_append_nil (P := P) w t ty e i z ht hi hz a 1 c news hl' hnews (by omega) (by omega) (by have hb := hbytes; simp only [Nat.zero_add] at hb; omega)
    rw [hx] at hrun
    injection hrun with e1 e2
    subst e1 e2
    exact rowP_new w.drew _ e _ _ (by rw [Array.all_append, hN, zero_all hzp, Bool.and_true])
  · have hcur := hr g cur e (0, 0) rfl hg
    have hmem : ∀ u ∈ cur.toList, p u = true := fun u hu => (Array.all_eq_true_iff_forall_mem.1 hcur) u (Array.mem_def.2 hu)
    by_cases hroom : n + 1 ≤ cap
    · have hfit : n * i.size + news.length ≤ cur.size := by rw [hl', hcs, ← Nat.add_mul]; exact Nat.mul_le_mul_right _ hroom
      have hx := run_append_room (P := P) w t ty e i ht hi g n cap cur hg a 1 c news hl' hnews h1 hroom hfit
      rw [hx] at hrun
      injection hrun with e1 e2
      subst e1 e2
      intro g' cur' t' fz' h k
      have h' : g = g' := by simpa [Value.ownBlock] using h
      subst h'
      rw [setRow_heap w g cur _ e _ hg] at k
      injection k with k
      injection k with k1 k2 k3
      subst k1
      rw [List.all_toArray, List.all_eq_true]
      intro u hu
      rcases List.mem_append.1 hu with hu | hu
      · rcases List.mem_append.1 hu with hu | hu
        · exact hmem u (List.mem_of_mem_take hu)
        · exact hnp u hu
      · exact hmem u (List.mem_of_mem_drop hu)
    · have holds : ∀ j u, xs[j]? = some u → w.cell? ((⟨g, 0, none⟩ : Addr).add j) = some u := hown.cells (g := g) rfl
      have hx := run_append_grow (P := P) w t ty e i z ht hi hz ⟨g, 0, none⟩ n cap xs hown.1 holds a 1 c news hl' hnews (by omega) (by omega) (growslice_fits (by omega) hbytes)
      rw [hx] at hrun
      injection hrun with e1 e2
      subst e1 e2
      refine rowP_new w.drew _ e _ _ ?_
      rw [Array.all_append, Array.all_append, hN, zero_all hzp, Bool.and_true, Bool.and_true, List.all_toArray, List.all_eq_true]
      intro u hu
      rw [← htake] at hu
      exact hmem u (List.mem_of_mem_take hu)
theorem wpList_append_own_p {ops : Array Oper} {rest : List Oper} {o : Oper} {a : Act} {Q : Exit → Act → World → Prop} (hgd : o.guard = none) (s x : Operand) (t : TypeId)
    (ho : o.op = .call { callee := .builtin .append, args := #[s, x], argTypes := #[t, t] })
    (base : Nat) (e : TypeId) (i : TypeInfo) (z : Value) (size bytes : Nat) (ht : P.underlying t = some (.slice e)) (hi : P.info? e = some i) (hz : i.zero = some z)
    (hsize : i.size = size) (hby : i.bytes = bytes) (hzs : z.cells.size = size) (hsz : 0 < size)
    (v : Value) (n : Nat) (xs : List Value) (hs : a.eval s = v) (hown : w.ownsRow base e size v n xs)
    (ad : Addr) (c : Nat) (news : List Value) (hx : a.eval x = .slice (some ad) 1 c) (hl : news.length = size) (hnews : ∀ j u, news[j]? = some u → w.cell? (ad.add j) = some u) (h1 : ∀ u ∈ news, u.oneCell' = true)
    (h63 : n + 1 ≤ maxLen) (hbytes : (n + 1) * bytes ≤ 140737488355328) (hbase : base ≤ w.heap.size) (p : Value → Bool) (hr : rowP w v p) (hzp : z.cells.all p = true) (hnp : ∀ u ∈ news, p u = true)
    (h : ∀ v' w', w'.ownsRow base e size v' (n + 1) (xs ++ news) → w.grownBy w' v.ownBlock → rowP w' v' p → wpList P ops Q rest (a.put o.dst v') w') :
    wpList P ops Q (o :: rest) a w := by
  refine wpList_plain hgd fun K hK => ?_
  obtain ⟨v', w', hrun, h2, h3, h4⟩ := run_append_own_p (P := P) w base t o.type e i z size bytes ht hi hz hsize hby hzs hsz v n xs hown ad c news hl hnews h1 h63 hbytes hbase p hr hzp hnp
  unfold Oper.wp execOp
  simp only [ho, resolve, invoke, builtin, Sem.run_bind, Sem.run_pure, Result.andThen_ok, List.map_toArray, List.map_cons, List.map_nil, hs, hx, hrun]
  exact hK _ _ (h v' w' h2 h3 h4)
end
end Go.Proofs.YtinoipjblkidfaaGreatDoor

/- Plain laws: sums of lists of numbers. -/
namespace Go.Proofs.YtinoipjblkidfaaGreatDoor
open Go.Proofs.YtinoipjblkidfaaGreatDoor.Dg Go.Proofs.YtinoipjblkidfaaGreatDoor.Q Go.Proofs.YtinoipjblkidfaaGreatDoor.Num

/-- The sum of a list. -/
def sumQ (l : List Rat) : Rat := l.foldr (· + ·) 0
theorem sumQ_nil : sumQ [] = 0 := rfl
theorem sumQ_cons (a : Rat) (l : List Rat) : sumQ (a :: l) = a + sumQ l := rfl
theorem sumQ_one (a : Rat) : sumQ [a] = a := by rw [sumQ_cons, sumQ_nil, Rat.add_zero]
theorem sumQ_append (l m : List Rat) : sumQ (l ++ m) = sumQ l + sumQ m := by
  induction l with
  | nil => rw [List.nil_append, sumQ_nil, Rat.zero_add]
  | cons a l ih => rw [List.cons_append, sumQ_cons, sumQ_cons, ih, Rat.add_assoc]
theorem sumQ_reverse (l : List Rat) : sumQ l.reverse = sumQ l := by
  induction l with
  | nil => rfl
  | cons a l ih => rw [List.reverse_cons, sumQ_append, sumQ_one, ih, sumQ_cons, Rat.add_comm]
theorem sumQ_halves (l : List Rat) (k : Nat) : sumQ (l.take k) + sumQ (l.drop k) = sumQ l := by
  rw [← sumQ_append, List.take_append_drop]
/-- The numbers among texts. -/
def nums (l : List (List UInt8)) : List Rat := l.filterMap num?
theorem nums_append (l m : List (List UInt8)) : nums (l ++ m) = nums l ++ nums m := List.filterMap_append
theorem nums_reverse (l : List (List UInt8)) : nums l.reverse = (nums l).reverse := List.filterMap_reverse
/-- The sum of the numbers among texts. -/
def sumT (l : List (List UInt8)) : Rat := sumQ (nums l)
theorem sumT_append (l m : List (List UInt8)) : sumT (l ++ m) = sumT l + sumT m := by unfold sumT; rw [nums_append, sumQ_append]
theorem sumT_turned (l : List (List UInt8)) (k : Nat) : sumT ((l.drop k).reverse ++ l.take k) = sumT l := by
  rw [sumT_append, show sumT (l.drop k).reverse = sumT (l.drop k) from by unfold sumT; rw [nums_reverse, sumQ_reverse], Rat.add_comm, ← sumT_append, List.take_append_drop]
theorem nums_snoc_some {l : List (List UInt8)} {x : List UInt8} {q : Rat} (h : num? x = some q) : nums (l ++ [x]) = nums l ++ [q] := by rw [nums_append]; simp [nums, h]
theorem nums_snoc_none {l : List (List UInt8)} {x : List UInt8} (h : num? x = none) : nums (l ++ [x]) = nums l := by rw [nums_append]; simp [nums, h]
theorem nums_len (l : List (List UInt8)) : (nums l).length ≤ l.length := List.length_filterMap_le _ _
end Go.Proofs.YtinoipjblkidfaaGreatDoor

/- Slices of values and of fractions: what a slice reads as. -/
namespace Go.Proofs.YtinoipjblkidfaaGreatDoor
open Go.RowKit Go.Proofs.YtinoipjblkidfaaGreatDoor.Dg Go.Proofs.YtinoipjblkidfaaGreatDoor.Q Go.Proofs.YtinoipjblkidfaaGreatDoor.Num

theorem addr_add_none (b off k : Nat) : (⟨b, off, none⟩ : Addr).add k = ⟨b, off + k, none⟩ := by
  unfold Addr.add
  by_cases h : k = 0 <;> simp [h]
/-- The slice value '.slice A n c' of elements of m cells reads as the list of cells xs; its cells lie below block B. -/
def Vw (w : World) (B : Nat) (A : Option Addr) (n c m : Nat) (xs : List Value) : Prop :=
  xs.length = n * m ∧ n ≤ c ∧ (A = none → c = 0) ∧ (0 < n → ∃ b off, A = some ⟨b, off, none⟩ ∧ b < B ∧ ∀ j u, xs[j]? = some u → w.cell? ⟨b, off + j, none⟩ = some u)
theorem Vw.keep {w w' : World} {B n c m : Nat} {A : Option Addr} {xs : List Value} (h : Vw w B A n c m xs) (hb : Below B w w') : Vw w' B A n c m xs :=
  ⟨h.1, h.2.1, h.2.2.1, fun hn => by
    obtain ⟨b, off, e, hlt, hc⟩ := h.2.2.2 hn
    exact ⟨b, off, e, hlt, fun j u hu => (hb.cell hlt).trans (hc j u hu)⟩⟩
theorem Vw.up {w w' : World} {n c m : Nat} {A : Option Addr} {xs : List Value} (h : Vw w w.heap.size A n c m xs) (hb : Below w.heap.size w w') : Vw w' w'.heap.size A n c m xs := by
  obtain ⟨h1, h2, h3, h4⟩ := h.keep hb
  exact ⟨h1, h2, h3, fun hn => by obtain ⟨b, off, e, hlt, hc⟩ := h4 hn; exact ⟨b, off, e, Nat.lt_of_lt_of_le hlt hb.size, hc⟩⟩
theorem Vw.own {w : World} {base n m : Nat} {e : TypeId} {v : Value} {xs : List Value} (h : w.ownsRow base e m v n xs) : ∃ A c, v = .slice A n c ∧ Vw w w.heap.size A n c m xs := by
  have hcells := fun g => h.cells (g := g)
  rcases h.2 with ⟨hv, hn⟩ | ⟨g, cap, cur, hv, hb, hg, hcap, _⟩
  · subst hn
    exact ⟨none, 0, hv, h.1, Nat.le_refl _, fun _ => rfl, fun h => absurd h (by omega)⟩
  · refine ⟨some ⟨g, 0, none⟩, cap, hv, h.1, hcap, (fun h => by cases h), fun _ => ⟨g, 0, rfl, (Array.getElem?_eq_some_iff.1 hg).1, fun j u hu => ?_⟩⟩
    have := hcells g (by rw [hv]; rfl) j u hu
    rwa [addr_add_none] at this
theorem Vw.take {w : World} {B n c m : Nat} {A : Option Addr} {xs : List Value} (h : Vw w B A n c m xs) {p : Nat} (hp : p ≤ n) : Vw w B A p c m (xs.take (p * m)) :=
  ⟨by rw [List.length_take, h.1]; exact Nat.min_eq_left (Nat.mul_le_mul_right _ hp), by have := h.2.1; omega, h.2.2.1, fun hn => by
    obtain ⟨b, off, e, hlt, hc⟩ := h.2.2.2 (by omega)
    refine ⟨b, off, e, hlt, fun j u hu => hc j u ?_⟩
    rw [List.getElem?_take] at hu
    split at hu
    · exact hu
    · cases hu⟩
theorem Vw.cut {w : World} {B n c m : Nat} {A : Option Addr} {xs : List Value} (h : Vw w B A n c m xs) {p : Nat} (hp : p ≤ n) : Vw w B (if c = p then A else A.map (·.add (p * m))) (n - p) (c - p) m (xs.drop (p * m)) := by
  refine ⟨by rw [List.length_drop, h.1, Nat.sub_mul], by have := h.2.1; omega, fun hA => ?_, fun hn => ?_⟩
  · split at hA
    · omega
    · have := h.2.2.1 (by simpa using hA); omega
  · obtain ⟨b, off, rfl, hlt, hc⟩ := h.2.2.2 (by omega)
    have := h.2.1
    rw [if_neg (by omega)]
    refine ⟨b, off + p * m, by rw [Option.map_some, addr_add_none], hlt, fun j u hu => ?_⟩
    rw [Nat.add_assoc]
    exact hc _ u (by rw [← hu, List.getElem?_drop])
/-- Cells that read as fractions of the program. -/
def FL (w : World) : List Value → List Rat → Prop
  | [], [] => True
  | a :: b :: c :: xs, q :: qs => Fr w (.agg #[a, b, c]) q ∧ FL w xs qs
  | _, _ => False
theorem FL.up {w w' : World} (hb : Below w.heap.size w w') : ∀ {xs : List Value} {qs : List Rat}, FL w xs qs → FL w' xs qs
  | [], [], _ => trivial
  | _ :: _ :: _ :: _, _ :: _, h => ⟨h.1.up hb, FL.up hb h.2⟩
  | [], _ :: _, h => h.elim
  | [_], [], h => h.elim
  | [_], _ :: _, h => h.elim
  | [_, _], [], h => h.elim
  | [_, _], _ :: _, h => h.elim
  | _ :: _ :: _ :: _, [], h => h.elim
theorem FL.snoc {w : World} {a b c : Value} {q : Rat} (hq : Fr w (.agg #[a, b, c]) q) : ∀ {xs : List Value} {qs : List Rat}, FL w xs qs → FL w (xs ++ [a, b, c]) (qs ++ [q])
  | [], [], _ => ⟨hq, trivial⟩
  | _ :: _ :: _ :: _, _ :: _, h => ⟨h.1, FL.snoc hq h.2⟩
  | [], _ :: _, h => h.elim
  | [_], [], h => h.elim
  | [_], _ :: _, h => h.elim
  | [_, _], [], h => h.elim
  | [_, _], _ :: _, h => h.elim
  | _ :: _ :: _ :: _, [], h => h.elim
theorem FL.parts {w : World} : ∀ (k : Nat) {xs : List Value} {qs : List Rat}, FL w xs qs → FL w (xs.take (k * 3)) (qs.take k) ∧ FL w (xs.drop (k * 3)) (qs.drop k)
  | 0, _, _, h => ⟨by simp [FL], by simpa using h⟩
  | k + 1, [], [], _ => ⟨by simp [FL], by simp [FL]⟩
  | k + 1, _ :: _ :: _ :: _, _ :: _, h => by
    have ih := FL.parts k h.2
    rw [show (k + 1) * 3 = k * 3 + 1 + 1 + 1 by omega]
    exact ⟨⟨h.1, ih.1⟩, ih.2⟩
  | _ + 1, [], _ :: _, h => h.elim
  | _ + 1, [_], [], h => h.elim
  | _ + 1, [_], _ :: _, h => h.elim
  | _ + 1, [_, _], [], h => h.elim
  | _ + 1, [_, _], _ :: _, h => h.elim
  | _ + 1, _ :: _ :: _ :: _, [], h => h.elim
theorem FL.no {w : World} {a : Value} : ∀ {l : List Value}, FL w (a :: l) [] → False
  | [], h => h
  | [_], h => h
  | _ :: _ :: _, h => h
theorem FL.one {w : World} : ∀ {xs : List Value} {q : Rat}, FL w xs [q] → ∃ a b c, xs = [a, b, c] ∧ Fr w (.agg #[a, b, c]) q
  | [a, b, c], _, h => ⟨a, b, c, rfl, h.1⟩
  | [], _, h => h.elim
  | [_], _, h => h.elim
  | [_, _], _, h => h.elim
  | _ :: _ :: _ :: _ :: _, _, h => (FL.no h.2).elim
theorem FL.len {w : World} : ∀ {xs : List Value} {qs : List Rat}, FL w xs qs → xs.length = qs.length * 3
  | [], [], _ => rfl
  | _ :: _ :: _ :: _, _ :: _, h => by
    have ih := FL.len h.2
    simp only [List.length_cons, ih, Nat.add_mul]
  | [], _ :: _, h => h.elim
  | [_], [], h => h.elim
  | [_], _ :: _, h => h.elim
  | [_, _], [], h => h.elim
  | [_, _], _ :: _, h => h.elim
  | _ :: _ :: _ :: _, [], h => h.elim
/-- A bound of a sum. -/
theorem sumQ_sz {B : Nat} : ∀ {l : List Rat}, (∀ q ∈ l, sz q ≤ B) → sz (sumQ l) ≤ l.length * (B + 1) + 1
  | [], _ => by
    have : sz (0 : Rat) ≤ 1 := by decide +kernel
    rw [sumQ_nil]
    simpa using this
  | a :: l, h => by
    have ih := sumQ_sz (l := l) (fun q hq => h q (List.mem_cons_of_mem _ hq))
    have h1 := h a (List.mem_cons_self ..)
    have := sz_add a (sumQ l)
    rw [sumQ_cons, List.length_cons, Nat.add_mul]
    omega
theorem nums_sz {l : List (List UInt8)} : ∀ q ∈ nums l, sz q ≤ 5 := by
  intro q hq
  obtain ⟨x, _, h⟩ := List.mem_filterMap.1 hq
  exact num_sz h
end Go.Proofs.YtinoipjblkidfaaGreatDoor

/- Rows of strings that a call makes. -/
namespace Go.Proofs.YtinoipjblkidfaaGreatDoor
open Go.RowKit Go.Proofs.YtinoipjblkidfaaGreatDoor.Dg Go.Proofs.YtinoipjblkidfaaGreatDoor.Q Go.Proofs.YtinoipjblkidfaaGreatDoor.Num

theorem wpList_append_vw {P : Program} (w : World) {ops : Array Oper} {rest : List Oper} {o : Oper} {a : Act} {Q : Exit → Act → World → Prop} (hgd : o.guard = none) (s x : Operand) (t : TypeId)
    (ho : o.op = .call { callee := .builtin .append, args := #[s, x], argTypes := #[t, t] })
    (base : Nat) (e : TypeId) (i : TypeInfo) (z : Value) (bytes : Nat) (ht : P.underlying t = some (.slice e)) (hi : P.info? e = some i) (hz : i.zero = some z)
    (hsize : i.size = 1) (hby : i.bytes = bytes) (hzs : z.cells.size = 1)
    (v : Value) (n : Nat) (xs : List Value) (hs : a.eval s = v) (hown : w.ownsRow base e 1 v n xs)
    (B : Nat) (A : Option Addr) (m c : Nat) (news : List Value) (hx : a.eval x = .slice A m c) (hr : Vw w B A m c 1 news) (h1 : ∀ u ∈ news, u.oneCell' = true)
    (h63 : n + m ≤ maxLen) (hbytes : (n + m) * bytes ≤ 140737488355328) (hbase : base ≤ w.heap.size)
    (h : ∀ v' w', w'.ownsRow base e 1 v' (n + m) (xs ++ news) → w.grownBy w' v.ownBlock → wpList P ops Q rest (a.put o.dst v') w') :
    wpList P ops Q (o :: rest) a w := by
  cases A with
  | some ad =>
    refine wpList_append_own_at w hgd s x t ho base e i z 1 bytes ht hi hz hsize hby hzs (by omega) v n xs hs hown ad m c news hx hr.1 ?_ h1 h63 hbytes hbase (fun v' w' h2 h3 _ _ => h v' w' h2 h3)
    intro j u hu
    have hj := (List.getElem?_eq_some_iff.1 hu).1
    obtain ⟨b, off, e1, _, hc⟩ := hr.2.2.2 (by have := hr.1; omega)
    injection e1 with e1
    subst e1
    rw [addr_add_none]
    exact hc j u hu
  | none =>
    have hm : m = 0 := by
      rcases Nat.eq_zero_or_pos m with h0 | h0
      · exact h0
      · obtain ⟨b, off, h, _⟩ := hr.2.2.2 h0
        cases h
    have hc0 := hr.2.2.1 rfl
    subst hm hc0
    have hn : news = [] := List.eq_nil_of_length_eq_zero (by simpa using hr.1)
    subst hn
    refine wpList_plain hgd fun K hK => ?_
    have hrun := run_append_owned_none (P := P) w base t o.type e i 1 ht hi v n xs hown
    unfold Oper.wp execOp
    simp only [ho, resolve, invoke, builtin, Sem.run_bind, Sem.run_pure, Result.andThen_ok, List.map_toArray, List.map_cons, List.map_nil, hs, hx, hrun]
    exact hK _ _ (h v w (by simpa using hown) ⟨rfl, rfl, rfl, Nat.le_refl _, fun _ _ _ => rfl⟩)
/-- A row of strings that the call makes. -/
def RowS (w wr : World) (v : Value) (ls : List ByteArray) : Prop := wr.ownsRow w.heap.size 9 1 v ls.length (ls.map Value.string) ∧ Below w.heap.size w wr
theorem RowS.start (w : World) : RowS w w (.slice none 0 0) [] := ⟨World.ownsRow_nil _ _ _ _, Below.refl _ _⟩
theorem RowS.up {w w1 w2 : World} {v : Value} {ls : List ByteArray} (h : RowS w w1 v ls) (hb : Below w1.heap.size w1 w2) : RowS w w2 v ls := ⟨ownM_below h.1 hb, btrans h.2 hb⟩
theorem RowS.b {w w1 : World} {v : Value} {ls : List ByteArray} (h : RowS w w1 v ls) : Below w.heap.size w w1 := h.2
theorem cell1_new (w : World) (a : Value) (t : TypeId) : ∀ j u, [a][j]? = some u → (w.alloc (.cells #[a] t)).cell? ((⟨w.heap.size, 0, none⟩ : Addr).add j) = some u := by
  intro j u hj
  rw [addr_add_none, Nat.zero_add, (Bk.new w #[a] t).cell j, ← hj, List.getElem?_toArray]
theorem Tryz.infoStr1 : (Tryz.prog.info? 9).map (fun i => (i.zero, i.size, i.bytes)) = some (some (.string ⟨#[]⟩), 1, 16) := by kernel_rfl
end Go.Proofs.YtinoipjblkidfaaGreatDoor

/- DERIVED: THE SHELF's CONTRACTS AT THIS DUMP, IN PLAIN WORDS (tools/lay-plain.mjs out of 'TryzShelfCut.lean', which tools/lay-shelf.mjs wrote): THE SAME DECLARATIONS UNDER THE SAME NAMES: 'import', 'namespace', 'open', 'def', 'theorem' AND NOTHING ELSE: no command of the shelf's: FOR A HAND-IN. Each laying: the table of numbers ('.._ren') and one theorem, a field a fact of the dump's own or the kernel's comparison; each contract: ONE APPLICATION. -/
namespace Go.Proofs
open Go.Shelf
def Tryz.lays156_ren : Go.Shelf.Ren := ⟨fun | 156 => 122 | 165 => 161 | 166 => 162 | 169 => 163 | 240 => 192 | 241 => 193 | 276 => 215 | 277 => 216 | n => n, fun | 31 => 42 | 9 => 9 | 3 => 3 | 4 => 4 | 0 => 0 | 20 => 20 | 72 => 164 | 76 => 101 | 70 => 161 | 37 => 162 | 75 => 100 | 127 => 185 | 164 => 210 | 5 => 5 | 80 => 83 | n => n, fun | n => n⟩
theorem Tryz.lays156 : Go.Proofs.Lays.n156 Tryz.prog Tryz.lays156_ren := {
  mixed := by kernel_rfl
  f156 := Tryz.func122.trans (congrArg some (by kernel_rfl))
  f165 := Tryz.func161.trans (congrArg some (by kernel_rfl))
  f166 := Tryz.func162.trans (congrArg some (by kernel_rfl))
  f169 := Tryz.func163.trans (congrArg some (by kernel_rfl))
  f240 := Tryz.func192.trans (congrArg some (by kernel_rfl))
  f241 := Tryz.func193.trans (congrArg some (by kernel_rfl))
  f276 := Tryz.func215.trans (congrArg some (by kernel_rfl))
  f277 := Tryz.func216.trans (congrArg some (by kernel_rfl))
  t0 := Tryz.underlying0
  a0 := Tryz.isAgg0
  z0 := Tryz.sizeOf0
  v0 := Tryz.zeroValue0
  t3 := Tryz.underlying3
  a3 := Tryz.isAgg3
  z3 := Tryz.sizeOf3
  v3 := Tryz.zeroValue3
  t4 := Tryz.underlying4
  a4 := Tryz.isAgg4
  z4 := Tryz.sizeOf4
  v4 := Tryz.zeroValue4
  t9 := Tryz.underlying9
  a9 := Tryz.isAgg9
  z9 := Tryz.sizeOf9
  v9 := Tryz.zeroValue9
  t20 := Tryz.underlying20
  a20 := Tryz.isAgg20
  z20 := Tryz.sizeOf20
  v20 := Tryz.zeroValue20
  t31 := Tryz.underlying42
  a31 := Tryz.isAgg42
  z31 := Tryz.sizeOf42
  v31 := Tryz.zeroValue42
  t37 := Tryz.underlying162
  a37 := Tryz.isAgg162
  z37 := Tryz.sizeOf162
  v37 := Tryz.zeroValue162
  t70 := Tryz.underlying161
  a70 := Tryz.isAgg161
  z70 := Tryz.sizeOf161
  v70 := Tryz.zeroValue161
  t72 := Tryz.underlying164
  a72 := Tryz.isAgg164
  z72 := Tryz.sizeOf164
  v72 := Tryz.zeroValue164
  t75 := Tryz.underlying100
  a75 := Tryz.isAgg100
  z75 := Tryz.sizeOf100
  v75 := Tryz.zeroValue100
  t76 := Tryz.underlying101
  a76 := Tryz.isAgg101
  z76 := Tryz.sizeOf101
  v76 := Tryz.zeroValue101
  t127 := Tryz.underlying185
  a127 := Tryz.isAgg185
  z127 := Tryz.sizeOf185
  v127 := Tryz.zeroValue185
  t164 := Tryz.underlying210
  a164 := Tryz.isAgg210
  z164 := Tryz.sizeOf210
  v164 := Tryz.zeroValue210 }
theorem Tryz.Builder_Extra_156 : Builder.Extra Tryz.prog Tryz.lays156_ren := {
  sizeBuilder := by kernel_rfl
  liesBuilder := by kernel_rfl
  t5 := Tryz.underlying5
  a5 := Tryz.isAgg5
  z5 := Tryz.sizeOf5
  v5 := Tryz.zeroValue5
  infoByte := by kernel_rfl
  cellsByte := by kernel_rfl
  sizeByte := by kernel_rfl
  neB5 := by decide }
open Go.RowKit in
/-- strings.Join: "Join concatenates the elements of its first argument to create a single string. The separator string sep is placed between elements in the resulting string.": HOWEVER MANY ELEMENTS. Below the heap's end the world is as it was. (LAID: no walk: one application.) -/
theorem Tryz.strings_Join (bk o c : Nat) (xs : List ByteArray) (sep : ByteArray) (w : World) (hcells : ∀ (j : Nat) x, xs[j]? = some x → w.cell? ⟨bk, o + j, none⟩ = some (.string x)) (hbk : bk < w.heap.size) (hN : xs.length ≤ 140737488355328) (hcap : xs.length ≤ c) (hlen : (Lib.join (xs.map (·.data.toList)) sep.data.toList).length ≤ 140737488355328) :
    Calls Tryz.prog 122 #[.slice (some ⟨bk, o, none⟩) xs.length c, .string sep] w fun e w' => e = .returned (.string ⟨(Lib.join (xs.map (·.data.toList)) sep.data.toList).toArray⟩) ∧ Below w.heap.size w w' := Any.strings_Join Tryz.lays156 Tryz.Builder_Extra_156 bk o c xs sep w hcells hbk hN hcap hlen
end Go.Proofs

/- Units of the program: FormatUnit. -/
namespace Go.Proofs.YtinoipjblkidfaaGreatDoor
open Go.RowKit Go.Proofs.YtinoipjblkidfaaGreatDoor.Dg Go.Proofs.YtinoipjblkidfaaGreatDoor.Q Go.Proofs.YtinoipjblkidfaaGreatDoor.Num
open Go.Lib (decDigits)

/-- What FormatUnit gives. -/
def fmtR (F O : List UInt8) (p : P7) : List UInt8 × Int := if plainU F O p = true then (fmtU F p, 0) else ([], 10)
def toB (l : List UInt8) : ByteArray := ⟨l.toArray⟩
theorem itl_small : ∀ k : Fin 25, Lib.itoa ((k : Int) - 12) = itl ((k : Int) - 12) := by decide +kernel
theorem itl_itoa {p : Int} (hp : -12 ≤ p ∧ p ≤ 12) : Lib.itoa p = itl p := by
  have h := itl_small ⟨(p + 12).toNat, by omega⟩
  have e : (((⟨(p + 12).toNat, by omega⟩ : Fin 25) : Nat) : Int) - 12 = p := by show (((p + 12).toNat : Nat) : Int) - 12 = p; omega
  rw [e] at h
  exact h
theorem words_step {l : List (List UInt8 × Int)} {k : Nat} {x : List UInt8 × Int} (h : l[k]? = some x) : wordsOf (l.take (k + 1)) = wordsOf (l.take k) ++ (if x.2 = 0 then [] else [word x.1 x.2]) := by
  unfold wordsOf
  rw [List.take_add_one, h, List.flatMap_append]
  simp
theorem join_words : ∀ ws : List (List UInt8), Lib.join ws [32] = joinW ws
  | [] => rfl
  | [w] => by rw [Lib.join_one]; rfl
  | w :: v :: r => by
    have ih := join_words (v :: r)
    unfold Lib.join at *
    rw [joinW, ← ih]
    simp [List.intercalate]
theorem toB_data (ws : List (List UInt8)) : (ws.map toB).map (·.data.toList) = ws := by
  rw [List.map_map]
  exact List.map_id' ws
theorem itoa_small (p : Int) (hp : -12 ≤ p ∧ p ≤ 12) (w : World) (hw : Wf w) : Calls Tryz.prog 89 #[.int .i64 p] w fun e w' => e = .returned (.string (toB (itl p))) ∧ Below w.heap.size w w' := by
  refine (Tryz.strconv_Itoa p (by omega) (by omega) w hw.1).mono ?_
  rintro e w' ⟨rfl, k, os, rfl⟩
  rw [itl_itoa hp]
  exact ⟨rfl, Lib.below_grow _ w (Nat.le_refl _) k os⟩
theorem toB_append (a b : List UInt8) : toB a ++ toB b = toB (a ++ b) := by
  apply ByteArray.ext
  simp [toB, ByteArray.data_append]

set_option maxRecDepth 100000 in
set_option maxHeartbeats 12800000 in
theorem qformat_any (F O : ByteArray) (p : P7) (hF : F.size ≤ 9223372036854775807) (hO : O.size ≤ 9223372036854775807) (w : World) (hw : Wf w) :
    Calls Tryz.prog 68 #[uv F O p] w fun e w' => e = .returned (.tuple #[.string (toB (fmtR (bl F) (bl O) p).1), .int .i64 (fmtR (bl F) (bl O) p).2]) ∧ Below w.heap.size w w' := by
  have k0 := Lib.hid (KU.start w F O p)
  have b0 := Lib.hid k0.out.2.1
  have P1 := fun w' (hb : Below w.heap.size w w') => plainU_any F O p hF hO w' (hw.up hb)
  cases h1 : plainU (bl F) (bl O) p
  · have hf : fmtR (bl F) (bl O) p = ([], 10) := by unfold fmtR; rw [h1]; rfl
    rw [hf]
    rw [h1] at P1
    clear h1 hf hF hO hw
    obtain ⟨p0, p1, p2, p3, p4, p5, p6⟩ := p
    unfold uv at *
    dsimp only at *
    go_enter Tryz.func68, Tryz.ntmps68
    go_wp2_with (go_at_call 117; go_loud ((with_reducible refine (P1 _ b0.out).mono ?_); rintro e w1 ⟨rfl, hb⟩; have k1 := Lib.hid (k0.out.up hb); clear hb))
    go_ret2
    exact ⟨rfl, (k1.out).2.1⟩
  · obtain ⟨q, hq, q0, hwi⟩ := plainU_parts h1
    have hf : fmtR (bl F) (bl O) p = (fmtU (bl F) p, 0) := by unfold fmtR; rw [h1]; rfl
    rw [hf]
    rw [h1] at P1
    have hFl : F.size ≤ 82 := by rw [← bl_len, ← (num_iff.1 hq).1]; exact short_len (num_iff.1 hq).2
    clear h1 hf hO hq q0 hF
    obtain ⟨p0, p1, p2, p3, p4, p5, p6⟩ := p
    unfold P7.within at hwi
    unfold uv
    dsimp only at hwi k0 P1 ⊢
    unfold uv at P1
    dsimp only at P1
    obtain ⟨r0, r1, r2, r3, r4, r5, r6⟩ := hwi
    have HFm := Lib.hid (show fmtU (bl F) ⟨p0, p1, p2, p3, p4, p5, p6⟩ = if bl F = [49] ∧ wordsOf (names.zip (P7.l ⟨p0, p1, p2, p3, p4, p5, p6⟩)) ≠ [] then joinW (wordsOf (names.zip (P7.l ⟨p0, p1, p2, p3, p4, p5, p6⟩))) else joinW (bl F :: wordsOf (names.zip (P7.l ⟨p0, p1, p2, p3, p4, p5, p6⟩))) from rfl)
    generalize fmtU (bl F) ⟨p0, p1, p2, p3, p4, p5, p6⟩ = RES at *
    obtain ⟨i0, hi, hz0, hz1, hz2⟩ := info_parts Tryz.infoStr1
    go_enter Tryz.func68, Tryz.ntmps68
    go_wp2_with (go_at_call 117; go_loud ((with_reducible refine (P1 _ b0.out).mono ?_); rintro e w1 ⟨rfl, hb⟩; have k1 := Lib.hid (k0.out.up hb); clear hb))
    have bx := (Below.refl w1.heap.size w1).alloc (Nat.le_refl _) (.cells #[.string ⟨#[109]⟩, .string ⟨#[107, 103]⟩, .string ⟨#[115]⟩, .string ⟨#[75]⟩, .string ⟨#[109, 111, 108]⟩, .string ⟨#[65]⟩, .string ⟨#[99, 100]⟩] 9)
    have kU := Lib.hid ((k1.out.up bx).1)
    have bU := Lib.hid (k1.out.up bx).2.1
    have kN := Lib.hid (Bk.new w1 #[.string ⟨#[109]⟩, .string ⟨#[107, 103]⟩, .string ⟨#[115]⟩, .string ⟨#[75]⟩, .string ⟨#[109, 111, 108]⟩, .string ⟨#[65]⟩, .string ⟨#[99, 100]⟩] 9)
    have hU := k1.out.2.2
    have hNU : w.heap.size ≠ w1.heap.size := by omega
    clear bx k0 k1 P1 b0
    generalize w1.heap.size = gN at *
    generalize w1.alloc _ = W0 at *
    go_loopw [4, 13] (fun v i wr => ∃ k : Nat, k ≤ 7 ∧ i = .int .i64 (k : Int) ∧ Hid (RowS W0 wr v ((wordsOf ((names.zip (P7.l ⟨p0, p1, p2, p3, p4, p5, p6⟩)).take k)).map toB))) (fun _ i _ => (7 - intOf i).toNat)
    case atStart => exact ⟨0, by omega, rfl, Lib.hid (RowS.start W0)⟩
    case round =>
      obtain ⟨k, hk, ei, hR⟩ := hrel
      have kU2 := Lib.hid (kU.out.up hR.out.b)
      have kN2 := Lib.hid (kN.out.up hR.out.b)
      obtain ⟨_, _, c0, c1, c2, c3, c4, c5, c6⟩ := Ub.cells kU2.out
      obtain ⟨n0, n1, n2, n3, n4, n5, n6⟩ := (show _ ∧ _ ∧ _ ∧ _ ∧ _ ∧ _ ∧ _ from ⟨kN2.out.cell 0, kN2.out.cell 1, kN2.out.cell 2, kN2.out.cell 3, kN2.out.cell 4, kN2.out.cell 5, kN2.out.cell 6⟩)
      have hgs : gN < wr.heap.size := kN2.out.lt
      have hgu : w.heap.size < wr.heap.size := Ub.lt kU2.out
      rcases (show k = 0 ∨ k = 1 ∨ k = 2 ∨ k = 3 ∨ k = 4 ∨ k = 5 ∨ k = 6 ∨ k = 7 by omega) with rfl | rfl | rfl | rfl | rfl | rfl | rfl | rfl
      all_goals clear hk
      · have ej : _ = Value.int .i64 0 := ei
        subst ej
        clear ei
        have hst := words_step (l := names.zip (P7.l ⟨p0, p1, p2, p3, p4, p5, p6⟩)) (k := 0) (x := ([109], p0)) rfl
        have hwc : ((wordsOf ((names.zip (P7.l ⟨p0, p1, p2, p3, p4, p5, p6⟩)).take 0)).map toB).length ≤ 7 := by
          rw [List.length_map]
          have := words_count ((names.zip (P7.l ⟨p0, p1, p2, p3, p4, p5, p6⟩)).take 0)
          rw [List.length_take] at this
          omega
        by_cases e0 : p0 = 0
        · rw [if_pos e0, List.append_nil] at hst
          have HST := Lib.hid hst
          subst e0
          clear hst
          go_wp2
          go_roundw
          case rel => exact ⟨1, by omega, by go_num, Lib.hid (by rw [HST.out]; exact hR.out)⟩
          case measure => simp [intOf]
        · rw [if_neg e0] at hst
          have HST := Lib.hid (show (wordsOf ((names.zip (P7.l ⟨p0, p1, p2, p3, p4, p5, p6⟩)).take 1)).map toB = (wordsOf ((names.zip (P7.l ⟨p0, p1, p2, p3, p4, p5, p6⟩)).take 0)).map toB ++ [toB (word [109] p0)] by rw [hst, List.map_append]; rfl)
          clear hst
          generalize (wordsOf ((names.zip (P7.l ⟨p0, p1, p2, p3, p4, p5, p6⟩)).take 0)).map toB = ws at *
          by_cases e1 : p0 = 1
          · have hw1 : word [109] p0 = [109] := by unfold word; rw [if_pos e1]
            rw [hw1] at HST
            subst e1
            clear hw1 e0
            go_wp2_with (first
          | (at_builtin; go_loud (refine wpList_append_own_at _ rfl (.tmp 35) (.tmp 37) _ rfl W0.heap.size 9 i0 (.string ⟨#[]⟩) 1 16 Tryz.underlying42 hi hz0 hz1 hz2 rfl (by decide) _ _ _ rfl (ownM_below hR.out.1 ((Below.refl _ _).alloc (Nat.le_refl _) _)) ⟨wr.heap.size, 0, none⟩ 1 1 [.string ⟨#[109]⟩] rfl rfl (cell1_new _ _ _) (by simp [Value.oneCell']) (by unfold maxLen; omega) (by omega) (below_alloc hR.out.b _).size ?_; intro v2 w2 a2 a3 _ _; have rb := Lib.hid (show RowS W0 w2 v2 (ws ++ [⟨#[109]⟩]) from ⟨by rw [List.length_append, List.map_append]; exact a2, grownM_below (ownM_below hR.out.1 ((Below.refl _ _).alloc (Nat.le_refl _) _)) (below_alloc hR.out.b _) a3⟩))))
            go_roundw
            case rel => exact ⟨1, by omega, by go_num, Lib.hid (by rw [HST.out]; exact rb.out)⟩
            case measure => simp [intOf]
          · have hw1 : word [109] p0 = [109] ++ 94 :: itl p0 := by unfold word; rw [if_neg e1]
            rw [hw1] at HST
            have IT := fun w' (hb : Below w.heap.size w w') => itoa_small p0 r0 w' (hw.up hb)
            obtain ⟨T, hT⟩ : ∃ T, toB (itl p0) = T := ⟨_, rfl⟩
            rw [hT] at IT
            have HV := Lib.hid (show toB ([109] ++ 94 :: itl p0) = (⟨#[109]⟩ ++ ⟨#[94]⟩ : ByteArray) ++ T by
              rw [← hT, show [109] ++ 94 :: itl p0 = ([109] ++ [94]) ++ itl p0 by rw [List.append_assoc]; rfl, ← toB_append, ← toB_append]
              rfl)
            have hTs : T.size ≤ 3 := by rw [← hT]; exact itl_len r0
            obtain ⟨tz, htz⟩ : ∃ t, T.size = t := ⟨_, rfl⟩
            have htb : (tz : Int) ≤ 3 := by omega
            have hbw := Lib.hid (btrans bU.out hR.out.b)
            clear hw1 hT hTs
            go_wp2_with (first
              | (at_builtin; go_loud (refine wpList_append_own_at _ rfl (.tmp 23) (.tmp 29) _ rfl W0.heap.size 9 i0 (.string ⟨#[]⟩) 1 16 Tryz.underlying42 hi hz0 hz1 hz2 rfl (by decide) _ _ _ rfl (ownM_below h3.out.1 ((Below.refl _ _).alloc (Nat.le_refl _) _)) ⟨w3.heap.size, 0, none⟩ 1 1 [.string (⟨#[109]⟩ ++ ⟨#[94]⟩ ++ T)] rfl rfl (cell1_new _ _ _) (by simp [Value.oneCell']) (by unfold maxLen; omega) (by omega) (below_alloc h3.out.b _).size ?_; intro v2 w2 a2 a3 _ _; have rb := Lib.hid (show RowS W0 w2 v2 (ws ++ [(⟨#[109]⟩ ++ ⟨#[94]⟩ ++ T)]) from ⟨by rw [List.length_append, List.map_append]; exact a2, grownM_below (ownM_below h3.out.1 ((Below.refl _ _).alloc (Nat.le_refl _) _)) (below_alloc h3.out.b _) a3⟩)))
              | (go_at_call 89; go_loud ((with_reducible refine (IT _ hbw.out).mono ?_); rintro e w3 ⟨rfl, hb⟩; have h3 := Lib.hid (hR.out.up hb); clear hb)))
            go_roundw
            case rel => exact ⟨1, by omega, by go_num, Lib.hid (by rw [HST.out, HV.out]; exact rb.out)⟩
            case measure => simp [intOf]
      · have ej : _ = Value.int .i64 1 := ei
        subst ej
        clear ei
        have hst := words_step (l := names.zip (P7.l ⟨p0, p1, p2, p3, p4, p5, p6⟩)) (k := 1) (x := ([107, 103], p1)) rfl
        have hwc : ((wordsOf ((names.zip (P7.l ⟨p0, p1, p2, p3, p4, p5, p6⟩)).take 1)).map toB).length ≤ 7 := by
          rw [List.length_map]
          have := words_count ((names.zip (P7.l ⟨p0, p1, p2, p3, p4, p5, p6⟩)).take 1)
          rw [List.length_take] at this
          omega
        by_cases e0 : p1 = 0
        · rw [if_pos e0, List.append_nil] at hst
          have HST := Lib.hid hst
          subst e0
          clear hst
          go_wp2
          go_roundw
          case rel => exact ⟨2, by omega, by go_num, Lib.hid (by rw [HST.out]; exact hR.out)⟩
          case measure => simp [intOf]
        · rw [if_neg e0] at hst
          have HST := Lib.hid (show (wordsOf ((names.zip (P7.l ⟨p0, p1, p2, p3, p4, p5, p6⟩)).take 2)).map toB = (wordsOf ((names.zip (P7.l ⟨p0, p1, p2, p3, p4, p5, p6⟩)).take 1)).map toB ++ [toB (word [107, 103] p1)] by rw [hst, List.map_append]; rfl)
          clear hst
          generalize (wordsOf ((names.zip (P7.l ⟨p0, p1, p2, p3, p4, p5, p6⟩)).take 1)).map toB = ws at *
          by_cases e1 : p1 = 1
          · have hw1 : word [107, 103] p1 = [107, 103] := by unfold word; rw [if_pos e1]
            rw [hw1] at HST
            subst e1
            clear hw1 e0
            go_wp2_with (first
          | (at_builtin; go_loud (refine wpList_append_own_at _ rfl (.tmp 35) (.tmp 37) _ rfl W0.heap.size 9 i0 (.string ⟨#[]⟩) 1 16 Tryz.underlying42 hi hz0 hz1 hz2 rfl (by decide) _ _ _ rfl (ownM_below hR.out.1 ((Below.refl _ _).alloc (Nat.le_refl _) _)) ⟨wr.heap.size, 0, none⟩ 1 1 [.string ⟨#[107, 103]⟩] rfl rfl (cell1_new _ _ _) (by simp [Value.oneCell']) (by unfold maxLen; omega) (by omega) (below_alloc hR.out.b _).size ?_; intro v2 w2 a2 a3 _ _; have rb := Lib.hid (show RowS W0 w2 v2 (ws ++ [⟨#[107, 103]⟩]) from ⟨by rw [List.length_append, List.map_append]; exact a2, grownM_below (ownM_below hR.out.1 ((Below.refl _ _).alloc (Nat.le_refl _) _)) (below_alloc hR.out.b _) a3⟩))))
            go_roundw
            case rel => exact ⟨2, by omega, by go_num, Lib.hid (by rw [HST.out]; exact rb.out)⟩
            case measure => simp [intOf]
          · have hw1 : word [107, 103] p1 = [107, 103] ++ 94 :: itl p1 := by unfold word; rw [if_neg e1]
            rw [hw1] at HST
            have IT := fun w' (hb : Below w.heap.size w w') => itoa_small p1 r1 w' (hw.up hb)
            obtain ⟨T, hT⟩ : ∃ T, toB (itl p1) = T := ⟨_, rfl⟩
            rw [hT] at IT
            have HV := Lib.hid (show toB ([107, 103] ++ 94 :: itl p1) = (⟨#[107, 103]⟩ ++ ⟨#[94]⟩ : ByteArray) ++ T by
              rw [← hT, show [107, 103] ++ 94 :: itl p1 = ([107, 103] ++ [94]) ++ itl p1 by rw [List.append_assoc]; rfl, ← toB_append, ← toB_append]
              rfl)
            have hTs : T.size ≤ 3 := by rw [← hT]; exact itl_len r1
            obtain ⟨tz, htz⟩ : ∃ t, T.size = t := ⟨_, rfl⟩
            have htb : (tz : Int) ≤ 3 := by omega
            have hbw := Lib.hid (btrans bU.out hR.out.b)
            clear hw1 hT hTs
            go_wp2_with (first
              | (at_builtin; go_loud (refine wpList_append_own_at _ rfl (.tmp 23) (.tmp 29) _ rfl W0.heap.size 9 i0 (.string ⟨#[]⟩) 1 16 Tryz.underlying42 hi hz0 hz1 hz2 rfl (by decide) _ _ _ rfl (ownM_below h3.out.1 ((Below.refl _ _).alloc (Nat.le_refl _) _)) ⟨w3.heap.size, 0, none⟩ 1 1 [.string (⟨#[107, 103]⟩ ++ ⟨#[94]⟩ ++ T)] rfl rfl (cell1_new _ _ _) (by simp [Value.oneCell']) (by unfold maxLen; omega) (by omega) (below_alloc h3.out.b _).size ?_; intro v2 w2 a2 a3 _ _; have rb := Lib.hid (show RowS W0 w2 v2 (ws ++ [(⟨#[107, 103]⟩ ++ ⟨#[94]⟩ ++ T)]) from ⟨by rw [List.length_append, List.map_append]; exact a2, grownM_below (ownM_below h3.out.1 ((Below.refl _ _).alloc (Nat.le_refl _) _)) (below_alloc h3.out.b _) a3⟩)))
              | (go_at_call 89; go_loud ((with_reducible refine (IT _ hbw.out).mono ?_); rintro e w3 ⟨rfl, hb⟩; have h3 := Lib.hid (hR.out.up hb); clear hb)))
            go_roundw
            case rel => exact ⟨2, by omega, by go_num, Lib.hid (by rw [HST.out, HV.out]; exact rb.out)⟩
            case measure => simp [intOf]
      · have ej : _ = Value.int .i64 2 := ei
        subst ej
        clear ei
        have hst := words_step (l := names.zip (P7.l ⟨p0, p1, p2, p3, p4, p5, p6⟩)) (k := 2) (x := ([115], p2)) rfl
        have hwc : ((wordsOf ((names.zip (P7.l ⟨p0, p1, p2, p3, p4, p5, p6⟩)).take 2)).map toB).length ≤ 7 := by
          rw [List.length_map]
          have := words_count ((names.zip (P7.l ⟨p0, p1, p2, p3, p4, p5, p6⟩)).take 2)
          rw [List.length_take] at this
          omega
        by_cases e0 : p2 = 0
        · rw [if_pos e0, List.append_nil] at hst
          have HST := Lib.hid hst
          subst e0
          clear hst
          go_wp2
          go_roundw
          case rel => exact ⟨3, by omega, by go_num, Lib.hid (by rw [HST.out]; exact hR.out)⟩
          case measure => simp [intOf]
        · rw [if_neg e0] at hst
          have HST := Lib.hid (show (wordsOf ((names.zip (P7.l ⟨p0, p1, p2, p3, p4, p5, p6⟩)).take 3)).map toB = (wordsOf ((names.zip (P7.l ⟨p0, p1, p2, p3, p4, p5, p6⟩)).take 2)).map toB ++ [toB (word [115] p2)] by rw [hst, List.map_append]; rfl)
          clear hst
          generalize (wordsOf ((names.zip (P7.l ⟨p0, p1, p2, p3, p4, p5, p6⟩)).take 2)).map toB = ws at *
          by_cases e1 : p2 = 1
          · have hw1 : word [115] p2 = [115] := by unfold word; rw [if_pos e1]
            rw [hw1] at HST
            subst e1
            clear hw1 e0
            go_wp2_with (first
          | (at_builtin; go_loud (refine wpList_append_own_at _ rfl (.tmp 35) (.tmp 37) _ rfl W0.heap.size 9 i0 (.string ⟨#[]⟩) 1 16 Tryz.underlying42 hi hz0 hz1 hz2 rfl (by decide) _ _ _ rfl (ownM_below hR.out.1 ((Below.refl _ _).alloc (Nat.le_refl _) _)) ⟨wr.heap.size, 0, none⟩ 1 1 [.string ⟨#[115]⟩] rfl rfl (cell1_new _ _ _) (by simp [Value.oneCell']) (by unfold maxLen; omega) (by omega) (below_alloc hR.out.b _).size ?_; intro v2 w2 a2 a3 _ _; have rb := Lib.hid (show RowS W0 w2 v2 (ws ++ [⟨#[115]⟩]) from ⟨by rw [List.length_append, List.map_append]; exact a2, grownM_below (ownM_below hR.out.1 ((Below.refl _ _).alloc (Nat.le_refl _) _)) (below_alloc hR.out.b _) a3⟩))))
            go_roundw
            case rel => exact ⟨3, by omega, by go_num, Lib.hid (by rw [HST.out]; exact rb.out)⟩
            case measure => simp [intOf]
          · have hw1 : word [115] p2 = [115] ++ 94 :: itl p2 := by unfold word; rw [if_neg e1]
            rw [hw1] at HST
            have IT := fun w' (hb : Below w.heap.size w w') => itoa_small p2 r2 w' (hw.up hb)
            obtain ⟨T, hT⟩ : ∃ T, toB (itl p2) = T := ⟨_, rfl⟩
            rw [hT] at IT
            have HV := Lib.hid (show toB ([115] ++ 94 :: itl p2) = (⟨#[115]⟩ ++ ⟨#[94]⟩ : ByteArray) ++ T by
              rw [← hT, show [115] ++ 94 :: itl p2 = ([115] ++ [94]) ++ itl p2 by rw [List.append_assoc]; rfl, ← toB_append, ← toB_append]
              rfl)
            have hTs : T.size ≤ 3 := by rw [← hT]; exact itl_len r2
            obtain ⟨tz, htz⟩ : ∃ t, T.size = t := ⟨_, rfl⟩
            have htb : (tz : Int) ≤ 3 := by omega
            have hbw := Lib.hid (btrans bU.out hR.out.b)
            clear hw1 hT hTs
            go_wp2_with (first
              | (at_builtin; go_loud (refine wpList_append_own_at _ rfl (.tmp 23) (.tmp 29) _ rfl W0.heap.size 9 i0 (.string ⟨#[]⟩) 1 16 Tryz.underlying42 hi hz0 hz1 hz2 rfl (by decide) _ _ _ rfl (ownM_below h3.out.1 ((Below.refl _ _).alloc (Nat.le_refl _) _)) ⟨w3.heap.size, 0, none⟩ 1 1 [.string (⟨#[115]⟩ ++ ⟨#[94]⟩ ++ T)] rfl rfl (cell1_new _ _ _) (by simp [Value.oneCell']) (by unfold maxLen; omega) (by omega) (below_alloc h3.out.b _).size ?_; intro v2 w2 a2 a3 _ _; have rb := Lib.hid (show RowS W0 w2 v2 (ws ++ [(⟨#[115]⟩ ++ ⟨#[94]⟩ ++ T)]) from ⟨by rw [List.length_append, List.map_append]; exact a2, grownM_below (ownM_below h3.out.1 ((Below.refl _ _).alloc (Nat.le_refl _) _)) (below_alloc h3.out.b _) a3⟩)))
              | (go_at_call 89; go_loud ((with_reducible refine (IT _ hbw.out).mono ?_); rintro e w3 ⟨rfl, hb⟩; have h3 := Lib.hid (hR.out.up hb); clear hb)))
            go_roundw
            case rel => exact ⟨3, by omega, by go_num, Lib.hid (by rw [HST.out, HV.out]; exact rb.out)⟩
            case measure => simp [intOf]
      · have ej : _ = Value.int .i64 3 := ei
        subst ej
        clear ei
        have hst := words_step (l := names.zip (P7.l ⟨p0, p1, p2, p3, p4, p5, p6⟩)) (k := 3) (x := ([75], p3)) rfl
        have hwc : ((wordsOf ((names.zip (P7.l ⟨p0, p1, p2, p3, p4, p5, p6⟩)).take 3)).map toB).length ≤ 7 := by
          rw [List.length_map]
          have := words_count ((names.zip (P7.l ⟨p0, p1, p2, p3, p4, p5, p6⟩)).take 3)
          rw [List.length_take] at this
          omega
        by_cases e0 : p3 = 0
        · rw [if_pos e0, List.append_nil] at hst
          have HST := Lib.hid hst
          subst e0
          clear hst
          go_wp2
          go_roundw
          case rel => exact ⟨4, by omega, by go_num, Lib.hid (by rw [HST.out]; exact hR.out)⟩
          case measure => simp [intOf]
        · rw [if_neg e0] at hst
          have HST := Lib.hid (show (wordsOf ((names.zip (P7.l ⟨p0, p1, p2, p3, p4, p5, p6⟩)).take 4)).map toB = (wordsOf ((names.zip (P7.l ⟨p0, p1, p2, p3, p4, p5, p6⟩)).take 3)).map toB ++ [toB (word [75] p3)] by rw [hst, List.map_append]; rfl)
          clear hst
          generalize (wordsOf ((names.zip (P7.l ⟨p0, p1, p2, p3, p4, p5, p6⟩)).take 3)).map toB = ws at *
          by_cases e1 : p3 = 1
          · have hw1 : word [75] p3 = [75] := by unfold word; rw [if_pos e1]
            rw [hw1] at HST
            subst e1
            clear hw1 e0
            go_wp2_with (first
          | (at_builtin; go_loud (refine wpList_append_own_at _ rfl (.tmp 35) (.tmp 37) _ rfl W0.heap.size 9 i0 (.string ⟨#[]⟩) 1 16 Tryz.underlying42 hi hz0 hz1 hz2 rfl (by decide) _ _ _ rfl (ownM_below hR.out.1 ((Below.refl _ _).alloc (Nat.le_refl _) _)) ⟨wr.heap.size, 0, none⟩ 1 1 [.string ⟨#[75]⟩] rfl rfl (cell1_new _ _ _) (by simp [Value.oneCell']) (by unfold maxLen; omega) (by omega) (below_alloc hR.out.b _).size ?_; intro v2 w2 a2 a3 _ _; have rb := Lib.hid (show RowS W0 w2 v2 (ws ++ [⟨#[75]⟩]) from ⟨by rw [List.length_append, List.map_append]; exact a2, grownM_below (ownM_below hR.out.1 ((Below.refl _ _).alloc (Nat.le_refl _) _)) (below_alloc hR.out.b _) a3⟩))))
            go_roundw
            case rel => exact ⟨4, by omega, by go_num, Lib.hid (by rw [HST.out]; exact rb.out)⟩
            case measure => simp [intOf]
          · have hw1 : word [75] p3 = [75] ++ 94 :: itl p3 := by unfold word; rw [if_neg e1]
            rw [hw1] at HST
            have IT := fun w' (hb : Below w.heap.size w w') => itoa_small p3 r3 w' (hw.up hb)
            obtain ⟨T, hT⟩ : ∃ T, toB (itl p3) = T := ⟨_, rfl⟩
            rw [hT] at IT
            have HV := Lib.hid (show toB ([75] ++ 94 :: itl p3) = (⟨#[75]⟩ ++ ⟨#[94]⟩ : ByteArray) ++ T by
              rw [← hT, show [75] ++ 94 :: itl p3 = ([75] ++ [94]) ++ itl p3 by rw [List.append_assoc]; rfl, ← toB_append, ← toB_append]
              rfl)
            have hTs : T.size ≤ 3 := by rw [← hT]; exact itl_len r3
            obtain ⟨tz, htz⟩ : ∃ t, T.size = t := ⟨_, rfl⟩
            have htb : (tz : Int) ≤ 3 := by omega
            have hbw := Lib.hid (btrans bU.out hR.out.b)
            clear hw1 hT hTs
            go_wp2_with (first
              | (at_builtin; go_loud (refine wpList_append_own_at _ rfl (.tmp 23) (.tmp 29) _ rfl W0.heap.size 9 i0 (.string ⟨#[]⟩) 1 16 Tryz.underlying42 hi hz0 hz1 hz2 rfl (by decide) _ _ _ rfl (ownM_below h3.out.1 ((Below.refl _ _).alloc (Nat.le_refl _) _)) ⟨w3.heap.size, 0, none⟩ 1 1 [.string (⟨#[75]⟩ ++ ⟨#[94]⟩ ++ T)] rfl rfl (cell1_new _ _ _) (by simp [Value.oneCell']) (by unfold maxLen; omega) (by omega) (below_alloc h3.out.b _).size ?_; intro v2 w2 a2 a3 _ _; have rb := Lib.hid (show RowS W0 w2 v2 (ws ++ [(⟨#[75]⟩ ++ ⟨#[94]⟩ ++ T)]) from ⟨by rw [List.length_append, List.map_append]; exact a2, grownM_below (ownM_below h3.out.1 ((Below.refl _ _).alloc (Nat.le_refl _) _)) (below_alloc h3.out.b _) a3⟩)))
              | (go_at_call 89; go_loud ((with_reducible refine (IT _ hbw.out).mono ?_); rintro e w3 ⟨rfl, hb⟩; have h3 := Lib.hid (hR.out.up hb); clear hb)))
            go_roundw
            case rel => exact ⟨4, by omega, by go_num, Lib.hid (by rw [HST.out, HV.out]; exact rb.out)⟩
            case measure => simp [intOf]
      · have ej : _ = Value.int .i64 4 := ei
        subst ej
        clear ei
        have hst := words_step (l := names.zip (P7.l ⟨p0, p1, p2, p3, p4, p5, p6⟩)) (k := 4) (x := ([109, 111, 108], p4)) rfl
        have hwc : ((wordsOf ((names.zip (P7.l ⟨p0, p1, p2, p3, p4, p5, p6⟩)).take 4)).map toB).length ≤ 7 := by
          rw [List.length_map]
          have := words_count ((names.zip (P7.l ⟨p0, p1, p2, p3, p4, p5, p6⟩)).take 4)
          rw [List.length_take] at this
          omega
        by_cases e0 : p4 = 0
        · rw [if_pos e0, List.append_nil] at hst
          have HST := Lib.hid hst
          subst e0
          clear hst
          go_wp2
          go_roundw
          case rel => exact ⟨5, by omega, by go_num, Lib.hid (by rw [HST.out]; exact hR.out)⟩
          case measure => simp [intOf]
        · rw [if_neg e0] at hst
          have HST := Lib.hid (show (wordsOf ((names.zip (P7.l ⟨p0, p1, p2, p3, p4, p5, p6⟩)).take 5)).map toB = (wordsOf ((names.zip (P7.l ⟨p0, p1, p2, p3, p4, p5, p6⟩)).take 4)).map toB ++ [toB (word [109, 111, 108] p4)] by rw [hst, List.map_append]; rfl)
          clear hst
          generalize (wordsOf ((names.zip (P7.l ⟨p0, p1, p2, p3, p4, p5, p6⟩)).take 4)).map toB = ws at *
          by_cases e1 : p4 = 1
          · have hw1 : word [109, 111, 108] p4 = [109, 111, 108] := by unfold word; rw [if_pos e1]
            rw [hw1] at HST
            subst e1
            clear hw1 e0
            go_wp2_with (first
          | (at_builtin; go_loud (refine wpList_append_own_at _ rfl (.tmp 35) (.tmp 37) _ rfl W0.heap.size 9 i0 (.string ⟨#[]⟩) 1 16 Tryz.underlying42 hi hz0 hz1 hz2 rfl (by decide) _ _ _ rfl (ownM_below hR.out.1 ((Below.refl _ _).alloc (Nat.le_refl _) _)) ⟨wr.heap.size, 0, none⟩ 1 1 [.string ⟨#[109, 111, 108]⟩] rfl rfl (cell1_new _ _ _) (by simp [Value.oneCell']) (by unfold maxLen; omega) (by omega) (below_alloc hR.out.b _).size ?_; intro v2 w2 a2 a3 _ _; have rb := Lib.hid (show RowS W0 w2 v2 (ws ++ [⟨#[109, 111, 108]⟩]) from ⟨by rw [List.length_append, List.map_append]; exact a2, grownM_below (ownM_below hR.out.1 ((Below.refl _ _).alloc (Nat.le_refl _) _)) (below_alloc hR.out.b _) a3⟩))))
            go_roundw
            case rel => exact ⟨5, by omega, by go_num, Lib.hid (by rw [HST.out]; exact rb.out)⟩
            case measure => simp [intOf]
          · have hw1 : word [109, 111, 108] p4 = [109, 111, 108] ++ 94 :: itl p4 := by unfold word; rw [if_neg e1]
            rw [hw1] at HST
            have IT := fun w' (hb : Below w.heap.size w w') => itoa_small p4 r4 w' (hw.up hb)
            obtain ⟨T, hT⟩ : ∃ T, toB (itl p4) = T := ⟨_, rfl⟩
            rw [hT] at IT
            have HV := Lib.hid (show toB ([109, 111, 108] ++ 94 :: itl p4) = (⟨#[109, 111, 108]⟩ ++ ⟨#[94]⟩ : ByteArray) ++ T by
              rw [← hT, show [109, 111, 108] ++ 94 :: itl p4 = ([109, 111, 108] ++ [94]) ++ itl p4 by rw [List.append_assoc]; rfl, ← toB_append, ← toB_append]
              rfl)
            have hTs : T.size ≤ 3 := by rw [← hT]; exact itl_len r4
            obtain ⟨tz, htz⟩ : ∃ t, T.size = t := ⟨_, rfl⟩
            have htb : (tz : Int) ≤ 3 := by omega
            have hbw := Lib.hid (btrans bU.out hR.out.b)
            clear hw1 hT hTs
            go_wp2_with (first
              | (at_builtin; go_loud (refine wpList_append_own_at _ rfl (.tmp 23) (.tmp 29) _ rfl W0.heap.size 9 i0 (.string ⟨#[]⟩) 1 16 Tryz.underlying42 hi hz0 hz1 hz2 rfl (by decide) _ _ _ rfl (ownM_below h3.out.1 ((Below.refl _ _).alloc (Nat.le_refl _) _)) ⟨w3.heap.size, 0, none⟩ 1 1 [.string (⟨#[109, 111, 108]⟩ ++ ⟨#[94]⟩ ++ T)] rfl rfl (cell1_new _ _ _) (by simp [Value.oneCell']) (by unfold maxLen; omega) (by omega) (below_alloc h3.out.b _).size ?_; intro v2 w2 a2 a3 _ _; have rb := Lib.hid (show RowS W0 w2 v2 (ws ++ [(⟨#[109, 111, 108]⟩ ++ ⟨#[94]⟩ ++ T)]) from ⟨by rw [List.length_append, List.map_append]; exact a2, grownM_below (ownM_below h3.out.1 ((Below.refl _ _).alloc (Nat.le_refl _) _)) (below_alloc h3.out.b _) a3⟩)))
              | (go_at_call 89; go_loud ((with_reducible refine (IT _ hbw.out).mono ?_); rintro e w3 ⟨rfl, hb⟩; have h3 := Lib.hid (hR.out.up hb); clear hb)))
            go_roundw
            case rel => exact ⟨5, by omega, by go_num, Lib.hid (by rw [HST.out, HV.out]; exact rb.out)⟩
            case measure => simp [intOf]
      · have ej : _ = Value.int .i64 5 := ei
        subst ej
        clear ei
        have hst := words_step (l := names.zip (P7.l ⟨p0, p1, p2, p3, p4, p5, p6⟩)) (k := 5) (x := ([65], p5)) rfl
        have hwc : ((wordsOf ((names.zip (P7.l ⟨p0, p1, p2, p3, p4, p5, p6⟩)).take 5)).map toB).length ≤ 7 := by
          rw [List.length_map]
          have := words_count ((names.zip (P7.l ⟨p0, p1, p2, p3, p4, p5, p6⟩)).take 5)
          rw [List.length_take] at this
          omega
        by_cases e0 : p5 = 0
        · rw [if_pos e0, List.append_nil] at hst
          have HST := Lib.hid hst
          subst e0
          clear hst
          go_wp2
          go_roundw
          case rel => exact ⟨6, by omega, by go_num, Lib.hid (by rw [HST.out]; exact hR.out)⟩
          case measure => simp [intOf]
        · rw [if_neg e0] at hst
          have HST := Lib.hid (show (wordsOf ((names.zip (P7.l ⟨p0, p1, p2, p3, p4, p5, p6⟩)).take 6)).map toB = (wordsOf ((names.zip (P7.l ⟨p0, p1, p2, p3, p4, p5, p6⟩)).take 5)).map toB ++ [toB (word [65] p5)] by rw [hst, List.map_append]; rfl)
          clear hst
          generalize (wordsOf ((names.zip (P7.l ⟨p0, p1, p2, p3, p4, p5, p6⟩)).take 5)).map toB = ws at *
          by_cases e1 : p5 = 1
          · have hw1 : word [65] p5 = [65] := by unfold word; rw [if_pos e1]
            rw [hw1] at HST
            subst e1
            clear hw1 e0
            go_wp2_with (first
          | (at_builtin; go_loud (refine wpList_append_own_at _ rfl (.tmp 35) (.tmp 37) _ rfl W0.heap.size 9 i0 (.string ⟨#[]⟩) 1 16 Tryz.underlying42 hi hz0 hz1 hz2 rfl (by decide) _ _ _ rfl (ownM_below hR.out.1 ((Below.refl _ _).alloc (Nat.le_refl _) _)) ⟨wr.heap.size, 0, none⟩ 1 1 [.string ⟨#[65]⟩] rfl rfl (cell1_new _ _ _) (by simp [Value.oneCell']) (by unfold maxLen; omega) (by omega) (below_alloc hR.out.b _).size ?_; intro v2 w2 a2 a3 _ _; have rb := Lib.hid (show RowS W0 w2 v2 (ws ++ [⟨#[65]⟩]) from ⟨by rw [List.length_append, List.map_append]; exact a2, grownM_below (ownM_below hR.out.1 ((Below.refl _ _).alloc (Nat.le_refl _) _)) (below_alloc hR.out.b _) a3⟩))))
            go_roundw
            case rel => exact ⟨6, by omega, by go_num, Lib.hid (by rw [HST.out]; exact rb.out)⟩
            case measure => simp [intOf]
          · have hw1 : word [65] p5 = [65] ++ 94 :: itl p5 := by unfold word; rw [if_neg e1]
            rw [hw1] at HST
            have IT := fun w' (hb : Below w.heap.size w w') => itoa_small p5 r5 w' (hw.up hb)
            obtain ⟨T, hT⟩ : ∃ T, toB (itl p5) = T := ⟨_, rfl⟩
            rw [hT] at IT
            have HV := Lib.hid (show toB ([65] ++ 94 :: itl p5) = (⟨#[65]⟩ ++ ⟨#[94]⟩ : ByteArray) ++ T by
              rw [← hT, show [65] ++ 94 :: itl p5 = ([65] ++ [94]) ++ itl p5 by rw [List.append_assoc]; rfl, ← toB_append, ← toB_append]
              rfl)
            have hTs : T.size ≤ 3 := by rw [← hT]; exact itl_len r5
            obtain ⟨tz, htz⟩ : ∃ t, T.size = t := ⟨_, rfl⟩
            have htb : (tz : Int) ≤ 3 := by omega
            have hbw := Lib.hid (btrans bU.out hR.out.b)
            clear hw1 hT hTs
            go_wp2_with (first
              | (at_builtin; go_loud (refine wpList_append_own_at _ rfl (.tmp 23) (.tmp 29) _ rfl W0.heap.size 9 i0 (.string ⟨#[]⟩) 1 16 Tryz.underlying42 hi hz0 hz1 hz2 rfl (by decide) _ _ _ rfl (ownM_below h3.out.1 ((Below.refl _ _).alloc (Nat.le_refl _) _)) ⟨w3.heap.size, 0, none⟩ 1 1 [.string (⟨#[65]⟩ ++ ⟨#[94]⟩ ++ T)] rfl rfl (cell1_new _ _ _) (by simp [Value.oneCell']) (by unfold maxLen; omega) (by omega) (below_alloc h3.out.b _).size ?_; intro v2 w2 a2 a3 _ _; have rb := Lib.hid (show RowS W0 w2 v2 (ws ++ [(⟨#[65]⟩ ++ ⟨#[94]⟩ ++ T)]) from ⟨by rw [List.length_append, List.map_append]; exact a2, grownM_below (ownM_below h3.out.1 ((Below.refl _ _).alloc (Nat.le_refl _) _)) (below_alloc h3.out.b _) a3⟩)))
              | (go_at_call 89; go_loud ((with_reducible refine (IT _ hbw.out).mono ?_); rintro e w3 ⟨rfl, hb⟩; have h3 := Lib.hid (hR.out.up hb); clear hb)))
            go_roundw
            case rel => exact ⟨6, by omega, by go_num, Lib.hid (by rw [HST.out, HV.out]; exact rb.out)⟩
            case measure => simp [intOf]
      · have ej : _ = Value.int .i64 6 := ei
        subst ej
        clear ei
        have hst := words_step (l := names.zip (P7.l ⟨p0, p1, p2, p3, p4, p5, p6⟩)) (k := 6) (x := ([99, 100], p6)) rfl
        have hwc : ((wordsOf ((names.zip (P7.l ⟨p0, p1, p2, p3, p4, p5, p6⟩)).take 6)).map toB).length ≤ 7 := by
          rw [List.length_map]
          have := words_count ((names.zip (P7.l ⟨p0, p1, p2, p3, p4, p5, p6⟩)).take 6)
          rw [List.length_take] at this
          omega
        by_cases e0 : p6 = 0
        · rw [if_pos e0, List.append_nil] at hst
          have HST := Lib.hid hst
          subst e0
          clear hst
          go_wp2
          go_roundw
          case rel => exact ⟨7, by omega, by go_num, Lib.hid (by rw [HST.out]; exact hR.out)⟩
          case measure => simp [intOf]
        · rw [if_neg e0] at hst
          have HST := Lib.hid (show (wordsOf ((names.zip (P7.l ⟨p0, p1, p2, p3, p4, p5, p6⟩)).take 7)).map toB = (wordsOf ((names.zip (P7.l ⟨p0, p1, p2, p3, p4, p5, p6⟩)).take 6)).map toB ++ [toB (word [99, 100] p6)] by rw [hst, List.map_append]; rfl)
          clear hst
          generalize (wordsOf ((names.zip (P7.l ⟨p0, p1, p2, p3, p4, p5, p6⟩)).take 6)).map toB = ws at *
          by_cases e1 : p6 = 1
          · have hw1 : word [99, 100] p6 = [99, 100] := by unfold word; rw [if_pos e1]
            rw [hw1] at HST
            subst e1
            clear hw1 e0
            go_wp2_with (first
          | (at_builtin; go_loud (refine wpList_append_own_at _ rfl (.tmp 35) (.tmp 37) _ rfl W0.heap.size 9 i0 (.string ⟨#[]⟩) 1 16 Tryz.underlying42 hi hz0 hz1 hz2 rfl (by decide) _ _ _ rfl (ownM_below hR.out.1 ((Below.refl _ _).alloc (Nat.le_refl _) _)) ⟨wr.heap.size, 0, none⟩ 1 1 [.string ⟨#[99, 100]⟩] rfl rfl (cell1_new _ _ _) (by simp [Value.oneCell']) (by unfold maxLen; omega) (by omega) (below_alloc hR.out.b _).size ?_; intro v2 w2 a2 a3 _ _; have rb := Lib.hid (show RowS W0 w2 v2 (ws ++ [⟨#[99, 100]⟩]) from ⟨by rw [List.length_append, List.map_append]; exact a2, grownM_below (ownM_below hR.out.1 ((Below.refl _ _).alloc (Nat.le_refl _) _)) (below_alloc hR.out.b _) a3⟩))))
            go_roundw
            case rel => exact ⟨7, by omega, by go_num, Lib.hid (by rw [HST.out]; exact rb.out)⟩
            case measure => simp [intOf]
          · have hw1 : word [99, 100] p6 = [99, 100] ++ 94 :: itl p6 := by unfold word; rw [if_neg e1]
            rw [hw1] at HST
            have IT := fun w' (hb : Below w.heap.size w w') => itoa_small p6 r6 w' (hw.up hb)
            obtain ⟨T, hT⟩ : ∃ T, toB (itl p6) = T := ⟨_, rfl⟩
            rw [hT] at IT
            have HV := Lib.hid (show toB ([99, 100] ++ 94 :: itl p6) = (⟨#[99, 100]⟩ ++ ⟨#[94]⟩ : ByteArray) ++ T by
              rw [← hT, show [99, 100] ++ 94 :: itl p6 = ([99, 100] ++ [94]) ++ itl p6 by rw [List.append_assoc]; rfl, ← toB_append, ← toB_append]
              rfl)
            have hTs : T.size ≤ 3 := by rw [← hT]; exact itl_len r6
            obtain ⟨tz, htz⟩ : ∃ t, T.size = t := ⟨_, rfl⟩
            have htb : (tz : Int) ≤ 3 := by omega
            have hbw := Lib.hid (btrans bU.out hR.out.b)
            clear hw1 hT hTs
            go_wp2_with (first
              | (at_builtin; go_loud (refine wpList_append_own_at _ rfl (.tmp 23) (.tmp 29) _ rfl W0.heap.size 9 i0 (.string ⟨#[]⟩) 1 16 Tryz.underlying42 hi hz0 hz1 hz2 rfl (by decide) _ _ _ rfl (ownM_below h3.out.1 ((Below.refl _ _).alloc (Nat.le_refl _) _)) ⟨w3.heap.size, 0, none⟩ 1 1 [.string (⟨#[99, 100]⟩ ++ ⟨#[94]⟩ ++ T)] rfl rfl (cell1_new _ _ _) (by simp [Value.oneCell']) (by unfold maxLen; omega) (by omega) (below_alloc h3.out.b _).size ?_; intro v2 w2 a2 a3 _ _; have rb := Lib.hid (show RowS W0 w2 v2 (ws ++ [(⟨#[99, 100]⟩ ++ ⟨#[94]⟩ ++ T)]) from ⟨by rw [List.length_append, List.map_append]; exact a2, grownM_below (ownM_below h3.out.1 ((Below.refl _ _).alloc (Nat.le_refl _) _)) (below_alloc h3.out.b _) a3⟩)))
              | (go_at_call 89; go_loud ((with_reducible refine (IT _ hbw.out).mono ?_); rintro e w3 ⟨rfl, hb⟩; have h3 := Lib.hid (hR.out.up hb); clear hb)))
            go_roundw
            case rel => exact ⟨7, by omega, by go_num, Lib.hid (by rw [HST.out, HV.out]; exact rb.out)⟩
            case measure => simp [intOf]
      · have ej : _ = Value.int .i64 7 := ei
        subst ej
        clear ei
        rw [show (names.zip (P7.l ⟨p0, p1, p2, p3, p4, p5, p6⟩)).take 7 = names.zip (P7.l ⟨p0, p1, p2, p3, p4, p5, p6⟩) from rfl] at hR
        have hpl : ∀ k ∈ P7.l ⟨p0, p1, p2, p3, p4, p5, p6⟩, -12 ≤ k ∧ k ≤ 12 := by
          intro k hk
          simp only [P7.l, List.mem_cons, List.not_mem_nil, or_false] at hk
          rcases hk with rfl | rfl | rfl | rfl | rfl | rfl | rfl <;> assumption
        have hwl := words_len names bases (P7.l ⟨p0, p1, p2, p3, p4, p5, p6⟩) names_ok hpl
        have hwc := words_count (names.zip (P7.l ⟨p0, p1, p2, p3, p4, p5, p6⟩))
        rw [show (names.zip (P7.l ⟨p0, p1, p2, p3, p4, p5, p6⟩)).length = 7 from rfl] at hwc
        have hl1 := join_len _ 82 hwl
        have hl2 := join_len (bl F :: wordsOf (names.zip (P7.l ⟨p0, p1, p2, p3, p4, p5, p6⟩))) 82 (fun x hx => by rcases List.mem_cons.1 hx with rfl | hx; (rw [bl_len]; exact hFl); exact hwl x hx)
        rw [List.length_cons] at hl2
        have eF : (F.toList == [49]) = decide (bl F = [49]) := eqS F [49]
        clear hpl hwl r0 r1 r2 r3 r4 r5 r6 n0 n1 n2 n3 n4 n5 n6 kN2 kN kU hgs hNU hU
        generalize wordsOf (names.zip (P7.l ⟨p0, p1, p2, p3, p4, p5, p6⟩)) = WS at *
        obtain ⟨A9, c9, rfl, hV⟩ := Vw.own hR.out.1
        have hwn : (WS.map toB).length = WS.length := List.length_map _
        rw [hwn] at hV
        have hb := Lib.hid (btrans bU.out hR.out.b)
        by_cases hc : bl F = [49] ∧ WS ≠ []
        · rw [decide_eq_true hc.1] at eF
          have hRES := HFm.out
          rw [if_pos hc] at hRES
          have hpos : 0 < WS.length := List.length_pos_iff.2 hc.2
          have hp1 : ¬ (WS.length : Int) = 0 := by omega
          obtain ⟨bk, o, rfl, hlt, hcell⟩ := hV.2.2.2 hpos
          have hcp := hV.2.1
          have JN := Tryz.strings_Join bk o c9 (WS.map toB) ⟨#[32]⟩ wr (fun j x hx => hcell j _ (by rw [List.getElem?_map, hx]; rfl)) hlt (by omega) (by omega) (by rw [toB_data, join_words]; omega)
          rw [toB_data, show (⟨#[32]⟩ : ByteArray).data.toList = [32] from rfl, join_words, ← hRES, hwn] at JN
          rw [hwn]
          clear hRES hc hcell hlt hcp hV hl1 hl2 hwc hR hpos hwn HFm
          go_wp2_with (go_at_call 122; go_loud ((with_reducible refine JN.mono ?_); rintro e w4 ⟨rfl, hb4⟩; have b4 := Lib.hid (btrans hb.out hb4); clear hb4))
          go_ret2
          exact ⟨rfl, b4.out⟩
        · have hRES := HFm.out
          rw [if_neg hc] at hRES
          have hor : decide (bl F = [49]) = false ∨ (decide (bl F = [49]) = true ∧ (WS.length : Int) = 0) := by
            by_cases h : bl F = [49]
            · exact .inr ⟨decide_eq_true h, by
                rcases Nat.eq_zero_or_pos WS.length with h0 | h0
                · omega
                · exact absurd ⟨h, List.length_pos_iff.1 h0⟩ hc⟩
            · exact .inl (decide_eq_false h)
          have HV9 := Lib.hid hV
          have hown : (wr.alloc (.cells #[.string F] 9)).ownsRow wr.heap.size 9 1 (.slice (some ⟨wr.heap.size, 0, none⟩) 1 1) 1 [.string F] := ⟨rfl, .inr ⟨wr.heap.size, 1, #[.string F], rfl, Nat.le_refl _, Deep.blk_alloc_new wr _, Nat.le_refl _, by unfold maxLen; omega, rfl, rfl⟩⟩
          have HO9 := Lib.hid hown
          have JN := fun (w' : World) (A : Option Addr) (c : Nat) (h : Vw w' w'.heap.size A (WS.length + 1) c 1 ((F :: WS.map toB).map Value.string)) => (show Calls Tryz.prog 122 #[.slice A (WS.length + 1) c, .string ⟨#[32]⟩] w' (fun e w2 => e = .returned (.string (toB RES)) ∧ Below w'.heap.size w' w2) from by
            obtain ⟨bk, o, rfl, hlt, hcell⟩ := h.2.2.2 (by omega)
            have hcp := h.2.1
            have hwn : (F :: WS.map toB).length = WS.length + 1 := by rw [List.length_cons, List.length_map]
            have hd : (F :: WS.map toB).map (·.data.toList) = bl F :: WS := by rw [List.map_cons, toB_data]; rfl
            have JN := Tryz.strings_Join bk o c (F :: WS.map toB) ⟨#[32]⟩ w' (fun j x hx => hcell j _ (by rw [List.getElem?_map, hx]; rfl)) hlt (by omega) (by omega) (by rw [hd, join_words]; omega)
            rw [hd, show (⟨#[32]⟩ : ByteArray).data.toList = [32] from rfl, join_words, ← hRES, hwn] at JN
            exact JN)
          have hwb : WS.length ≤ 7 := hwc
          rw [hwn]
          clear hRES hc hV hl1 hl2 hwc hown hwn HFm
          rcases hor with hor | ⟨hor, hz⟩
          all_goals rw [hor] at eF
          all_goals go_wp2_with (first
            | (go_at_call 122; go_loud ((with_reducible refine (JN _ _ _ V2.out).mono ?_); rintro e w4 ⟨rfl, hb4⟩; have b4 := Lib.hid (btrans b2.out hb4); clear hb4))
            | (at_builtin; go_loud (refine wpList_append_vw _ rfl (.tmp 50) (.tmp 51) _ rfl wr.heap.size 9 i0 (.string ⟨#[]⟩) 16 Tryz.underlying42 hi hz0 hz1 hz2 rfl _ 1 [.string F] rfl HO9.out _ _ _ _ _ rfl (HV9.out.up ((Below.refl _ _).alloc (Nat.le_refl _) _)) (by intro u hu; obtain ⟨S, _, rfl⟩ := List.mem_map.1 hu; rfl) (by unfold maxLen; omega) (by omega) (by simp) ?_; intro v2 w2 a2 a3; rw [Nat.add_comm 1] at a2; obtain ⟨A8, c8, rfl, hV2⟩ := Vw.own a2; have b2 := Lib.hid (btrans hb.out (grownM_below (w0 := wr) HO9.out ((Below.refl _ _).alloc (Nat.le_refl _) _) a3)); have V2 := Lib.hid hV2; clear a2 a3 hV2)))
          all_goals go_ret2
          all_goals exact ⟨rfl, b4.out⟩

end Go.Proofs.YtinoipjblkidfaaGreatDoor
