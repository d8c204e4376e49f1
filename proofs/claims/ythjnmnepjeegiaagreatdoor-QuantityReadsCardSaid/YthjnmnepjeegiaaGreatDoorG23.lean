/- Plain laws: the reference's parser of units says what the program's does. Plain laws: one factor of the reference is one of the program. Plain laws: the reference's parser of units is the program's. -/
import Derived.Test.YthjnmnepjeegiaaGreatDoorG22
import Derived.Test.YthjnmnepjeegiaaGreatDoorG20
import Derived.Test.YthjnmnepjeegiaaGreatDoorG10
/- Plain laws: the reference's parser of units says what the program's does. -/
namespace Go.Proofs.YthjnmnepjeegiaaGreatDoor
open Go.Proofs.YthjnmnepjeegiaaGreatDoor.Dg Go.Proofs.YthjnmnepjeegiaaGreatDoor.Q Go.Proofs.YthjnmnepjeegiaaGreatDoor.Num Go.Proofs.YthjnmnepjeegiaaGreatDoor.Str

/-- A factor of the reference. -/
structure RF where
  num : Rat
  p : P7
  off : Bool
  ofs : Rat
  exp : Int
  raised : Bool
/-- The exponent of the reference: its digits, and what is left. -/
def rexp (t : List UInt8) : Option (Int × List UInt8) :=
  if cnt (body t) = 0 then none
  else some (if isNeg t = true then (-((min (val ((body t).take (cnt (body t)))) 1000 : Nat) : Int), (body t).drop (cnt (body t))) else (((min (val ((body t).take (cnt (body t)))) 1000 : Nat) : Int), (body t).drop (cnt (body t))))
/-- The first factor of a text, and what is left. -/
def rstep (l : List UInt8) : Option (RF × List UInt8) :=
  if 0 < numb l then match frm (l.take (numb l)) with
    | some q => if short q = true ∧ 0 < q then some (⟨q, ⟨0, 0, 0, 0, 0, 0, 0⟩, false, 0, 1, false⟩, l.drop (numb l)) else none
    | none => none
  else match rfind (l.take (wrd l)) with
    | none => none
    | some (r, q) => if (l.drop (wrd l)).head? = some 94 then match rexp (l.drop (wrd l)).tail with
        | none => none
        | some (e, rest) => some (⟨q, r.p, r.off, r.ofs, e, true⟩, rest)
      else some (⟨q, r.p, r.off, r.ofs, 1, false⟩, l.drop (wrd l))
/-- Exponents that say the same. -/
def expR (a b : Int) : Prop := a = b ∨ (wi a = false ∧ wi b = false)
/-- A factor of the program behind a sign, and one of the reference. -/
def facR (sg : Int) (x : PF) (f : RF) : Prop :=
  num? x.s.fac = some f.num ∧ 0 < f.num ∧ x.s.p = f.p ∧ (x.s.off != [48]) = f.off ∧ num? x.s.off = some f.ofs ∧ (f.off = false → f.ofs = 0) ∧ (∃ e, x.exp = sg * e ∧ expR e f.exp) ∧ x.bare = (decide (sg = 1) && !f.raised)
theorem expR_wi {a b : Int} (h : expR a b) : wi a = wi b := by
  rcases h with rfl | ⟨h1, h2⟩
  · rfl
  · rw [h1, h2]
theorem val_lead {l : List UInt8} : val l = val (l.dropWhile (· == 48)) := by
  induction l with
  | nil => rfl
  | cons c l ih =>
    rw [List.dropWhile_cons]
    split
    · rename_i h
      have hc : c = 48 := by simpa using h
      rw [← ih, hc, show (48 : UInt8) :: l = [48] ++ l from rfl, val_append]
      show val [48] * _ + _ = _
      rw [show val [48] = 0 from rfl, Nat.zero_mul, Nat.zero_add]
    · rfl
theorem val_three {l : List UInt8} (hd : allD l = true) (h : 2 < (l.dropWhile (· == 48)).length) : 100 ≤ val l := by
  rw [val_lead]
  cases ht : l.dropWhile (· == 48) with
  | nil => rw [ht] at h; simp at h
  | cons c r =>
    have hc : (c == 48) = false := by
      have := List.head?_dropWhile_not (fun x : UInt8 => x == 48) l
      rw [ht] at this
      simpa using this
    have hD : allD (c :: r) = true := by rw [← ht]; exact allD_dw hd
    have h1 : isD c = true := allD_mem hD (List.mem_cons_self ..)
    rw [show c :: r = [c] ++ r from rfl, val_append]
    have h2 : 1 ≤ val [c] := by
      unfold isD at h1
      simp only [decide_eq_true_eq] at h1
      have h3 : c ≠ 48 := by simpa using hc
      have h4 : c.toNat ≠ 48 := fun e => h3 (UInt8.toNat_inj.1 e)
      show 1 ≤ 10 * 0 + (c.toNat - 48)
      omega
    have h5 : 2 ≤ r.length := by rw [ht, List.length_cons] at h; omega
    have h6 : 100 ≤ 10 ^ r.length := Nat.le_trans (by decide) (Nat.pow_le_pow_right (by decide) h5)
    have := Nat.mul_le_mul h2 h6
    omega
theorem exp_same (t : List UInt8) : match pexp t, rexp t with
    | some (e, n), some (e', rest) => expR e e' ∧ t.drop n = rest
    | none, none => True
    | _, _ => False := by
  unfold pexp rexp
  by_cases h : cnt (body t) = 0
  · rw [if_pos h, if_pos h]; trivial
  · rw [if_neg h, if_neg h]
    have hv := @val_lead ((body t).take (cnt (body t)))
    have hD := allD_tw (body t)
    have key : ∀ b : Bool, expR (if b = true then -((if ((((body t).take (cnt (body t))).dropWhile (· == 48)).length ≤ 2) then val (((body t).take (cnt (body t))).dropWhile (· == 48)) else 1000 : Nat) : Int) else ((if ((((body t).take (cnt (body t))).dropWhile (· == 48)).length ≤ 2) then val (((body t).take (cnt (body t))).dropWhile (· == 48)) else 1000 : Nat) : Int)) (if b = true then -((min (val ((body t).take (cnt (body t)))) 1000 : Nat) : Int) else ((min (val ((body t).take (cnt (body t)))) 1000 : Nat) : Int)) := by
      intro b
      by_cases h2 : (((body t).take (cnt (body t))).dropWhile (· == 48)).length ≤ 2
      · rw [if_pos h2, ← hv]
        have hlt : val ((body t).take (cnt (body t))) < 100 := by
          rw [hv]
          have := val_lt _ (allD_dw (p := (· == 48)) hD)
          exact Nat.lt_of_lt_of_le this (Nat.le_trans (Nat.pow_le_pow_right (by decide) h2) (by decide))
        rw [Nat.min_eq_left (by omega)]
        exact .inl rfl
      · rw [if_neg h2]
        have := val_three hD (by omega)
        refine .inr ⟨?_, ?_⟩
        · unfold wi
          cases b <;> simp
        · unfold wi
          have hm : 100 ≤ min (val ((body t).take (cnt (body t)))) 1000 := by omega
          generalize min (val ((body t).take (cnt (body t)))) 1000 = m at *
          cases b
          · simp only [Bool.false_eq_true, if_false, Bool.and_eq_false_iff, decide_eq_false_iff_not]
            omega
          · simp only [if_true, Bool.and_eq_false_iff, decide_eq_false_iff_not]
            omega
    cases hb : isNeg t
    · have hbt : body t = t := by unfold body; rw [hb]; rfl
      refine ⟨?_, ?_⟩
      · have := key false
        simpa using this
      · simp [hbt]
    · have hbt : body t = t.tail := by unfold body; rw [hb]; rfl
      refine ⟨?_, ?_⟩
      · have := key true
        simpa using this
      · rw [hbt]
        exact List.drop_tail.symm
end Go.Proofs.YthjnmnepjeegiaaGreatDoor

/- Plain laws: one factor of the reference is one of the program. -/
namespace Go.Proofs.YthjnmnepjeegiaaGreatDoor
open Go.Proofs.YthjnmnepjeegiaaGreatDoor.Dg Go.Proofs.YthjnmnepjeegiaaGreatDoor.Q Go.Proofs.YthjnmnepjeegiaaGreatDoor.Num Go.Proofs.YthjnmnepjeegiaaGreatDoor.Str

theorem corr_parts {s : Sy} {r : Sr} (h : corrB s r = true) : num? s.fac = some r.fac ∧ s.p = r.p ∧ s.pre = r.pre ∧ (s.off != [48]) = r.off ∧ num? s.off = some r.ofs := by
  unfold corrB at h
  simp only [Bool.and_eq_true, decide_eq_true_eq] at h
  exact ⟨h.1, h.2.1, h.2.2.1, h.2.2.2.1, h.2.2.2.2⟩
theorem num_put_is {q g : Rat} (h : num? (put q) = some g) : g = q := by
  unfold put at h
  by_cases hs : short q = true
  · rw [if_pos hs] at h
    have := num_put hs
    unfold put at this
    rw [if_pos hs] at this
    rw [this] at h
    injection h with h
    exact h.symm
  · rw [if_neg hs] at h
    cases h
/-- What find of both gives. -/
theorem find_same (l : List UInt8) : (∃ y r q, sfind l = some y ∧ rfind l = some (r, q) ∧ num? y.fac = some q ∧ 0 < q ∧ y.p = r.p ∧ (y.off != [48]) = r.off ∧ num? y.off = some r.ofs) ∨ (sfind l = none ∧ rfind l = none) := by
  have good := fun y (h : sfind l = some y) => sfind_good h
  unfold rfind
  rcases find_corr l with ⟨s, r, h1, h2, h3⟩ | ⟨h1, h2⟩
  · obtain ⟨c1, c2, c3, c4, c5⟩ := corr_parts h3
    have hs : sfind l = some s := by unfold sfind; rw [h1]
    obtain ⟨⟨f, hf, f0⟩, _⟩ := good s hs
    rw [c1] at hf
    injection hf with hf
    rw [h2]
    exact .inl ⟨s, r, r.fac, hs, rfl, c1, by rw [hf]; exact f0, c2, c4, c5⟩
  · rw [h2]
    dsimp only
    have hsf : sfind l = if l.length < 2 then none else match pfx (l.headD 0) with
      | none => none
      | some b => (syms.find? (fun s => s.pre && s.name == l.tail)).map fun s => { s with fac := bin dMul s.fac b } := by
      unfold sfind
      rw [h1]
      rfl
    by_cases hl : l = []
    · rw [if_pos hl]
      exact .inr ⟨by rw [hsf, if_pos (by rw [hl]; decide)], rfl⟩
    · rw [if_neg hl]
      by_cases hl2 : l.length < 2
      · have ht : l.tail = [] := by
          cases l with
          | nil => exact absurd rfl hl
          | cons c r => cases r with
            | nil => rfl
            | cons d r => rw [List.length_cons, List.length_cons] at hl2; omega
        rw [ht]
        refine .inr ⟨by rw [hsf, if_pos hl2], ?_⟩
        cases pfxQ (l.headD 0) with
        | none => rfl
        | some q =>
          show (rsyms.find? _).map _ = none
          rw [show rsyms.find? (fun r => r.pre && r.name == []) = none by decide +kernel]
          rfl
      · rw [if_neg hl2] at hsf
        obtain ⟨p1, p2⟩ := pfx_num (l.headD 0)
        cases hp : pfx (l.headD 0) with
        | none =>
          rw [hp] at p1 hsf
          rw [← p1]
          exact .inr ⟨hsf, rfl⟩
        | some b =>
          rw [hp] at p1 p2 hsf
          cases hq : pfxQ (l.headD 0) with
          | none => rw [hq] at p2; cases p2
          | some q =>
            rw [hq] at p1
            have hb : num? b = some q := p1
            dsimp only at hsf ⊢
            rcases find_corr' l.tail with ⟨s, r, g1, g2, g3⟩ | ⟨g1, g2⟩
            · obtain ⟨c1, c2, c3, c4, c5⟩ := corr_parts g3
              rw [g1] at hsf
              rw [g2]
              obtain ⟨⟨f, hf, f0⟩, _⟩ := good _ hsf
              have hbin : bin dMul s.fac b = put (r.fac * q) := by unfold bin; rw [c1, hb]; rfl
              have hf' : num? (bin dMul s.fac b) = some f := hf
              have he : f = r.fac * q := by rw [hbin] at hf'; exact num_put_is hf'
              exact .inl ⟨_, r, q * r.fac, hsf, rfl, by rw [Rat.mul_comm q, ← he]; exact hf', by rw [Rat.mul_comm q, ← he]; exact f0, c2, c4, c5⟩
            · rw [g1] at hsf
              rw [g2]
              exact .inr ⟨hsf, rfl⟩
theorem ofs_zero {r : Sr} (h : r.off = false) : r.ofs = 0 := by unfold Sr.ofs; rw [if_neg (by rw [h]; decide)]
theorem numb_isNeg {l : List UInt8} (hn : 0 < numb l) : isNeg (l.take (numb l)) = false := by
  obtain ⟨c, r, rfl, hc⟩ := cnt_head (numb_pos hn)
  obtain ⟨n, hn'⟩ : ∃ n, numb (c :: r) = n + 1 := ⟨numb (c :: r) - 1, by omega⟩
  rw [hn', List.take_succ_cons]
  unfold isNeg
  cases h45 : (c == 45)
  · simp at h45
    simpa using h45
  · simp at h45
    subst h45
    cases hc
/-- One step of both. -/
theorem step_same (sg : Int) (l : List UInt8) : (∃ x f rest, pstep sg l = some (x, rest) ∧ rstep l = some (f, rest) ∧ facR sg x f) ∨ (pstep sg l = none ∧ rstep l = none) := by
  unfold pstep rstep
  by_cases hn : 0 < numb l
  · rw [if_pos hn, if_pos hn]
    cases hf : frm (l.take (numb l)) with
    | none => exact .inr ⟨rfl, rfl⟩
    | some q =>
      dsimp only
      have h0 := frm_pos (numb_isNeg hn) hf
      by_cases hq : short q = true ∧ 0 < q
      · have hne : q ≠ 0 := Rat.ne_of_gt hq.2
        rw [if_pos hq, if_pos ⟨hq.1, hne⟩]
        exact .inl ⟨_, _, _, rfl, rfl, num_iff.2 ⟨rfl, hq.1⟩, hq.2, rfl, rfl, num_zero, fun _ => rfl, ⟨1, by rw [Int.mul_one], .inl rfl⟩, by simp⟩
      · rw [if_neg hq, if_neg (fun h => hq ⟨h.1, by
          rcases Rat.le_iff_lt_or_eq.1 h0 with h1 | h1
          · exact h1
          · exact absurd h1.symm h.2⟩)]
        exact .inr ⟨rfl, rfl⟩
  · rw [if_neg hn, if_neg hn]
    rcases find_same (l.take (wrd l)) with ⟨y, r, q, h1, h2, h3, h4, h5, h6, h7⟩ | ⟨h1, h2⟩
    · rw [h1, h2]
      dsimp only
      by_cases hh : (l.drop (wrd l)).head? = some 94
      · rw [if_pos hh, if_pos hh]
        have hx := exp_same (l.drop (wrd l)).tail
        cases hp : pexp (l.drop (wrd l)).tail with
        | none =>
          cases hr : rexp (l.drop (wrd l)).tail with
          | none => exact .inr ⟨rfl, rfl⟩
          | some b => rw [hp, hr] at hx; exact hx.elim
        | some a =>
          obtain ⟨e, n⟩ := a
          cases hr : rexp (l.drop (wrd l)).tail with
          | none => rw [hp, hr] at hx; exact hx.elim
          | some b =>
            obtain ⟨e', rest⟩ := b
            rw [hp, hr] at hx
            dsimp only at hx ⊢
            rw [hx.2]
            exact .inl ⟨_, _, _, rfl, rfl, h3, h4, h5, h6, h7, ofs_zero, ⟨e, rfl, hx.1⟩, by simp⟩
      · rw [if_neg hh, if_neg hh]
        exact .inl ⟨_, _, _, rfl, rfl, h3, h4, h5, h6, h7, ofs_zero, ⟨1, by rw [Int.mul_one], .inl rfl⟩, by simp⟩
    · rw [h1, h2]
      exact .inr ⟨rfl, rfl⟩
end Go.Proofs.YthjnmnepjeegiaaGreatDoor

/- Plain laws: the reference's parser of units is the program's. -/
namespace Go.Proofs.YthjnmnepjeegiaaGreatDoor
open Go.Proofs.YthjnmnepjeegiaaGreatDoor.Dg Go.Proofs.YthjnmnepjeegiaaGreatDoor.Q Go.Proofs.YthjnmnepjeegiaaGreatDoor.Num Go.Proofs.YthjnmnepjeegiaaGreatDoor.Str

/-- The factors of a text, each behind its sign. -/
def rfac : Nat → Int → List (Int × RF) → List UInt8 → Option (List (Int × RF))
  | 0, _, _, _ => none
  | k + 1, sg, acc, l => match rstep l with
    | none => none
    | some (f, []) => some (acc ++ [(sg, f)])
    | some (f, c :: r) => if c = 32 then rfac k 1 (acc ++ [(sg, f)]) r else if c = 47 then rfac k (-1) (acc ++ [(sg, f)]) r else none
def rprodF (fs : List (Int × RF)) : Rat := fs.foldl (fun a x => a * x.2.num ^ (x.1 * x.2.exp)) 1
def rsumF (fs : List (Int × RF)) : P7 := fs.foldl (fun a x => a.plus (x.1 * x.2.exp) x.2.p) ⟨0, 0, 0, 0, 0, 0, 0⟩
def rofsF (fs : List (Int × RF)) : Rat := fs.foldl (fun a x => if x.2.off = true then x.2.ofs else a) 0
/-- The unit of factors. -/
def rof (fs : List (Int × RF)) : Un × Int :=
  if fs.any (fun x => x.2.off && (decide (1 < fs.length) || x.2.raised)) = true then (Un.none, 10)
  else if 12 < fs.length then (Un.none, 4)
  else if fs.all (fun x => wi x.2.exp) = true then gvU (rprodF fs) (rofsF fs) (rsumF fs)
  else (Un.none, 4)
/-- What the reference's ParseUnit gives. -/
def rpunit (l : List UInt8) : Un × Int := if 1000 < l.length then (Un.none, 4) else match rfac (l.length + 1) 1 [] l with
  | none => (Un.none, 10)
  | some fs => rof fs
/-- Factors of both, member by member. -/
inductive AllF : List PF → List (Int × RF) → Prop
  | nil : AllF [] []
  | cons {x : PF} {s : Int} {f : RF} {xs : List PF} {fs : List (Int × RF)} : (s = 1 ∨ s = -1) → facR s x f → AllF xs fs → AllF (x :: xs) ((s, f) :: fs)
theorem AllF.snoc {x : PF} {s : Int} {f : RF} (hs : s = 1 ∨ s = -1) (h : facR s x f) : ∀ {xs : List PF} {fs : List (Int × RF)}, AllF xs fs → AllF (xs ++ [x]) (fs ++ [(s, f)])
  | _, _, .nil => .cons hs h .nil
  | _, _, .cons a b c => .cons a b (AllF.snoc hs h c)
theorem AllF.len : ∀ {xs : List PF} {fs : List (Int × RF)}, AllF xs fs → xs.length = fs.length
  | _, _, .nil => rfl
  | _, _, .cons _ _ c => by rw [List.length_cons, List.length_cons, c.len]
/-- The first factor stands behind no sign. -/
def headOk (sg : Int) (acc : List (Int × RF)) : Prop := match acc with
  | [] => sg = 1
  | (s, _) :: _ => s = 1
theorem headOk.snoc {sg sg' : Int} {acc : List (Int × RF)} {f : RF} (h : headOk sg acc) : headOk sg' (acc ++ [(sg, f)]) := by
  cases acc with
  | nil => exact h
  | cons a r => exact h
theorem rfac_same : ∀ (k : Nat) (sg : Int) (acc : List PF) (accR : List (Int × RF)) (l : List UInt8), (sg = 1 ∨ sg = -1) → AllF acc accR → headOk sg accR →
    (∃ xs fs, pfac k sg acc l = some xs ∧ rfac k sg accR l = some fs ∧ AllF xs fs ∧ headOk 0 fs ∧ xs ≠ []) ∨ (pfac k sg acc l = none ∧ rfac k sg accR l = none)
  | 0, _, _, _, _, _, _, _ => .inr ⟨rfl, rfl⟩
  | k + 1, sg, acc, accR, l, hs, ha, hh => by
    rcases step_same sg l with ⟨x, f, rest, h1, h2, h3⟩ | ⟨h1, h2⟩
    · have hn := ha.snoc hs h3
      cases rest with
      | nil =>
        refine .inl ⟨acc ++ [x], accR ++ [(sg, f)], by rw [pfac, h1], by rw [rfac, h2], hn, ?_, by simp⟩
        exact hh.snoc
      | cons c r =>
        by_cases c1 : c = 32
        · have ih := rfac_same k 1 _ _ r (.inl rfl) hn hh.snoc
          have e1 : pfac (k + 1) sg acc l = pfac k 1 (acc ++ [x]) r := by rw [pfac, h1]; simp only; rw [if_pos c1]
          have e2 : rfac (k + 1) sg accR l = rfac k 1 (accR ++ [(sg, f)]) r := by rw [rfac, h2]; simp only; rw [if_pos c1]
          rw [e1, e2]
          exact ih
        · by_cases c2 : c = 47
          · have ih := rfac_same k (-1) _ _ r (.inr rfl) hn hh.snoc
            have e1 : pfac (k + 1) sg acc l = pfac k (-1) (acc ++ [x]) r := by rw [pfac, h1]; simp only; rw [if_neg c1, if_pos c2]
            have e2 : rfac (k + 1) sg accR l = rfac k (-1) (accR ++ [(sg, f)]) r := by rw [rfac, h2]; simp only; rw [if_neg c1, if_pos c2]
            rw [e1, e2]
            exact ih
          · exact .inr ⟨by rw [pfac, h1]; simp only; rw [if_neg c1, if_neg c2], by rw [rfac, h2]; simp only; rw [if_neg c1, if_neg c2]⟩
    · exact .inr ⟨by rw [pfac, h1], by rw [rfac, h2]⟩
theorem wi_sign {s e : Int} (hs : s = 1 ∨ s = -1) : wi (s * e) = wi e := by
  rcases hs with rfl | rfl
  · rw [Int.one_mul]
  · unfold wi
    rw [Bool.eq_iff_iff]
    simp only [Bool.and_eq_true, decide_eq_true_eq]
    omega
theorem facR_wi {s : Int} {x : PF} {f : RF} (hs : s = 1 ∨ s = -1) (h : facR s x f) : wi x.exp = wi f.exp := by
  obtain ⟨_, _, _, _, _, _, ⟨e, h1, h2⟩, _⟩ := h
  rw [h1, wi_sign hs, expR_wi h2]
theorem facR_exp {s : Int} {x : PF} {f : RF} (h : facR s x f) (hw : wi f.exp = true) : x.exp = s * f.exp := by
  obtain ⟨_, _, _, _, _, _, ⟨e, h1, h2⟩, _⟩ := h
  rcases h2 with h2 | ⟨_, h2⟩
  · rw [h1, h2]
  · rw [h2] at hw; cases hw
theorem all_same : ∀ {xs : List PF} {fs : List (Int × RF)}, AllF xs fs → xs.all (fun x => wi x.exp) = fs.all (fun x => wi x.2.exp)
  | _, _, .nil => rfl
  | _, _, .cons a b c => by rw [List.all_cons, List.all_cons, facR_wi a b, all_same c]
theorem prod_same : ∀ {xs : List PF} {fs : List (Int × RF)} (a : Rat), AllF xs fs → fs.all (fun x => wi x.2.exp) = true → 0 < a → xs.foldl (fun a x => a * ((num? x.s.fac).getD 0) ^ x.exp) a = fs.foldl (fun a x => a * x.2.num ^ (x.1 * x.2.exp)) a ∧ 0 < fs.foldl (fun a x => a * x.2.num ^ (x.1 * x.2.exp)) a
  | _, _, _, .nil, _, h => ⟨rfl, h⟩
  | _, _, a, .cons (x := x) (s := s) (f := f) _ h2 c, hw, ha => by
    rw [List.all_cons, Bool.and_eq_true] at hw
    have he := facR_exp h2 hw.1
    rw [List.foldl_cons, List.foldl_cons, h2.1, he]
    exact prod_same _ c hw.2 (Rat.mul_pos ha (Rat.zpow_pos h2.2.1))
theorem sum_same : ∀ {xs : List PF} {fs : List (Int × RF)} (a : P7), AllF xs fs → fs.all (fun x => wi x.2.exp) = true → xs.foldl (fun a x => a.plus x.exp x.s.p) a = fs.foldl (fun a x => a.plus (x.1 * x.2.exp) x.2.p) a
  | _, _, _, .nil, _ => rfl
  | _, _, a, .cons (x := x) (s := s) (f := f) _ h2 c, hw => by
    rw [List.all_cons, Bool.and_eq_true] at hw
    have he := facR_exp h2 hw.1
    rw [List.foldl_cons, List.foldl_cons, he, h2.2.2.1]
    exact sum_same _ c hw.2
theorem any_many (b : Bool) (hb : b = true) : ∀ {xs : List PF} {fs : List (Int × RF)}, AllF xs fs → xs.any (fun x => x.s.off != [48] && (b || !x.bare)) = fs.any (fun x => x.2.off && (b || x.2.raised))
  | _, _, .nil => rfl
  | _, _, .cons _ h2 c => by rw [List.any_cons, List.any_cons, h2.2.2.2.1, any_many b hb c, hb]; rfl
theorem ofs_none : ∀ {fs : List (Int × RF)} (a : Rat), fs.any (fun x => x.2.off) = false → fs.foldl (fun a x => if x.2.off = true then x.2.ofs else a) a = a
  | [], _, _ => rfl
  | (s, f) :: fs, a, h => by
    rw [List.any_cons, Bool.or_eq_false_iff] at h
    rw [List.foldl_cons, if_neg (by rw [h.1]; decide)]
    exact ofs_none a h.2
theorem off_plain {l : List UInt8} (h : (l != [48]) = false) : l = [48] := by simpa using h
/-- The end of both. -/
theorem fin_same {q o : Rat} {O : List UInt8} {p : P7} (hq : 0 < q) (ho : num? O = some o) : (if vU (put q) O p = true then ((⟨put q, O, p⟩ : Un), (0 : Int)) else (Un.none, 4)) = gvU q o p := by
  obtain ⟨h1, h2⟩ := num_iff.1 ho
  unfold gvU vU
  rw [ho]
  cases hs : short q
  · have e : put q = [] := by unfold put; rw [if_neg (by rw [hs]; decide)]
    rw [e, num_nil, if_neg (by simp), if_neg (by simp)]
  · rw [num_put hs, show put q = txt q from by unfold put; rw [if_pos hs], h1, h2]
    cases p.l.all wi
    · rfl
    · simp [hq]
theorem rof_same {xs : List PF} {fs : List (Int × RF)} (h : AllF xs fs) (hh : headOk 0 fs) (h0 : xs ≠ []) : rof fs = pof xs := by
  have hl := h.len
  have hal := all_same h
  have hfin : fs.any (fun x => x.2.off && (decide (1 < fs.length) || x.2.raised)) = xs.any (fun x => x.s.off != [48] && (decide (1 < xs.length) || !x.bare)) := by
    rw [hl]
    by_cases h1 : 1 < fs.length
    · rw [decide_eq_true h1]
      exact (any_many true rfl h).symm
    · rw [decide_eq_false h1]
      cases h with
      | nil => exact absurd rfl h0
      | cons a b c =>
        cases c with
        | nil =>
          obtain rfl : _ = (1 : Int) := hh
          rw [List.any_cons, List.any_cons, b.2.2.2.1, b.2.2.2.2.2.2.2]
          simp
        | cons _ _ _ => exact absurd (by simp) h1
  unfold rof pof
  rw [hfin, ← hl, ← hal]
  by_cases c1 : xs.any (fun x => x.s.off != [48] && (decide (1 < xs.length) || !x.bare)) = true
  · rw [if_pos c1, if_pos c1]
  · rw [if_neg c1, if_neg c1]
    by_cases c2 : 12 < xs.length
    · rw [if_pos c2, if_pos c2]
    · rw [if_neg c2, if_neg c2]
      by_cases c3 : xs.all (fun x => wi x.exp) = true
      · rw [if_pos c3]
        have c3' := c3
        rw [hal] at c3'
        obtain ⟨e1, e2⟩ := prod_same 1 h c3' (by decide)
        have e3 := sum_same ⟨0, 0, 0, 0, 0, 0, 0⟩ h c3'
        have ho : num? ((xs.head?.map (·.s.off)).getD []) = some (rofsF fs) := by
          cases h with
          | nil => exact absurd rfl h0
          | cons a b c =>
            rename_i x s f xs fs
            show num? x.s.off = some (rofsF ((s, f) :: fs))
            rw [b.2.2.2.2.1]
            congr 1
            cases c with
            | nil =>
              unfold rofsF
              rw [List.foldl_cons, List.foldl_nil]
              by_cases ho : f.off = true
              · rw [if_pos ho]
              · rw [if_neg ho]; exact b.2.2.2.2.2.1 (by simpa using ho)
            | cons a' b' c' =>
              rename_i x' s' f' xs' fs'
              have hany : ((s, f) :: (s', f') :: fs').any (fun x => x.2.off) = false := by
                have := hfin
                rw [Bool.not_eq_true] at c1
                rw [c1] at this
                rw [show decide (1 < ((s, f) :: (s', f') :: fs').length) = true by simp] at this
                simpa using this
              unfold rofsF
              rw [ofs_none 0 hany]
              rw [List.any_cons, Bool.or_eq_false_iff] at hany
              exact b.2.2.2.2.2.1 hany.1
        have e4 : rprodF fs = pprod xs := e1.symm
        have e5 : rsumF fs = psum xs := e3.symm
        have e6 : 0 < pprod xs := by rw [← e4]; exact e2
        rw [e4, e5, ← fin_same e6 ho]
        by_cases c4 : vU (put (pprod xs)) ((xs.head?.map (·.s.off)).getD []) (psum xs) = true
        · rw [if_pos c4, if_pos ⟨c3, c4⟩]
        · rw [if_neg c4, if_neg (fun h => c4 h.2)]
      · rw [if_neg c3, if_neg (fun h => c3 h.1)]
theorem rpunit_same (l : List UInt8) : rpunit l = punit l := by
  unfold rpunit punit
  by_cases h : 1000 < l.length
  · rw [if_pos h, if_pos h]
  · rw [if_neg h, if_neg h]
    rcases rfac_same (l.length + 1) 1 [] [] l (.inl rfl) .nil rfl with ⟨xs, fs, h1, h2, h3, h4, h5⟩ | ⟨h1, h2⟩
    · rw [h1, h2]
      exact rof_same h3 h4 h5
    · rw [h1, h2]
end Go.Proofs.YthjnmnepjeegiaaGreatDoor
