/- Plain laws: the operations obey the laws of the rational numbers. Plain laws: units and conversions. Laws of the operations: what their small functions return. The sanity check of each law. -/
import Derived.Test.YtinoipjblkidfaaGreatDoorC11
/- Plain laws: the operations obey the laws of the rational numbers. -/
namespace Go.Proofs.YtinoipjblkidfaaGreatDoor
open Go.Proofs.YtinoipjblkidfaaGreatDoor.Dg Go.Proofs.YtinoipjblkidfaaGreatDoor.Q Go.Proofs.YtinoipjblkidfaaGreatDoor.Num

theorem put_cases (q : Rat) : put q = [] ∨ (short q = true ∧ num? (put q) = some q) := by
  cases h : short q
  · exact .inl (by unfold put; rw [if_neg (by rw [h]; decide)])
  · exact .inr ⟨rfl, num_put h⟩
theorem num_is {l : List UInt8} {a : Rat} (h : num? l = some a) : put a = l := by
  obtain ⟨h1, h2⟩ := num_iff.1 h
  unfold put
  rw [if_pos h2, h1]
theorem bin_of {D : Rat → Rat → Option Rat} {l m : List UInt8} {a b q : Rat} (h1 : num? l = some a) (h2 : num? m = some b) (h3 : D a b = some q) : bin D l m = put q := by
  unfold bin
  simp only [h1, h2, h3]
theorem bin_cases (D : Rat → Rat → Option Rat) (l m : List UInt8) : bin D l m = [] ∨ ∃ a b q, num? l = some a ∧ num? m = some b ∧ D a b = some q ∧ bin D l m = put q ∧ num? (bin D l m) = some q := by
  cases h1 : num? l with
  | none => exact .inl (by unfold bin; simp only [h1])
  | some a =>
    cases h2 : num? m with
    | none => exact .inl (by unfold bin; simp only [h1, h2])
    | some b =>
      cases h3 : D a b with
      | none => exact .inl (by unfold bin; simp only [h1, h2, h3])
      | some q =>
        have e := bin_of h1 h2 h3
        rcases put_cases q with h | ⟨_, h⟩
        · exact .inl (by rw [e, h])
        · exact .inr ⟨a, b, q, rfl, rfl, h3, e, by rw [e, h]⟩
theorem bin_some {D : Rat → Rat → Option Rat} {l m : List UInt8} {q : Rat} (h : num? (bin D l m) = some q) : ∃ a b, num? l = some a ∧ num? m = some b ∧ D a b = some q := by
  rcases bin_cases D l m with h1 | ⟨a, b, q', h1, h2, h3, _, h4⟩
  · rw [h1, num_nil] at h; cases h
  · rw [h4] at h; cases h
    exact ⟨a, b, h1, h2, h3⟩
/-- Equal, or one is missing. -/
def eqM (l m : List UInt8) : Bool := decide (l = []) || decide (m = []) || decide (l = m)
theorem eqM_of {l m : List UInt8} (h : l ≠ [] → m ≠ [] → l = m) : eqM l m = true := by
  unfold eqM
  by_cases h1 : l = []
  · rw [decide_eq_true h1]; rfl
  · by_cases h2 : m = []
    · rw [decide_eq_true h2, Bool.or_true]; rfl
    · rw [decide_eq_true (h h1 h2), Bool.or_true]
def mis (l : List UInt8) : List UInt8 := if (num? l).isSome = true then l else []
theorem mis_some {l : List UInt8} {a : Rat} (h : num? l = some a) : mis l = put a := by unfold mis; rw [if_pos (by rw [h]; rfl), num_is h]
theorem mis_none {l : List UInt8} (h : num? l = none) : mis l = [] := by unfold mis; rw [if_neg (by rw [h]; decide)]
theorem add_comm_law (x y : List UInt8) : bin dAdd x y = bin dAdd y x := by
  cases h1 : num? x <;> cases h2 : num? y <;> unfold bin <;> simp only [h1, h2, dAdd, Rat.add_comm]
theorem mul_comm_law (x y : List UInt8) : bin dMul x y = bin dMul y x := by
  cases h1 : num? x <;> cases h2 : num? y <;> unfold bin <;> simp only [h1, h2, dMul, Rat.mul_comm]
theorem add_assoc_law (x y z : List UInt8) : eqM (bin dAdd (bin dAdd x y) z) (bin dAdd x (bin dAdd y z)) = true := by
  refine eqM_of fun h1 h2 => ?_
  obtain ⟨a, b, q, g1, g2, g3, g4, _⟩ := (bin_cases dAdd (bin dAdd x y) z).resolve_left h1
  obtain ⟨a', b', q', k1, k2, k3, k4, _⟩ := (bin_cases dAdd x (bin dAdd y z)).resolve_left h2
  obtain ⟨c, d, m1, m2, m3⟩ := bin_some g1
  obtain ⟨e, f, n1, n2, n3⟩ := bin_some k2
  rw [g4, k4]
  rw [m1] at k1; rw [m2] at n1; rw [g2] at n2
  cases k1; cases n1; cases n2; cases g3; cases k3; cases m3; cases n3
  rw [Rat.add_assoc]
theorem mul_assoc_law (x y z : List UInt8) : eqM (bin dMul (bin dMul x y) z) (bin dMul x (bin dMul y z)) = true := by
  refine eqM_of fun h1 h2 => ?_
  obtain ⟨a, b, q, g1, g2, g3, g4, _⟩ := (bin_cases dMul (bin dMul x y) z).resolve_left h1
  obtain ⟨a', b', q', k1, k2, k3, k4, _⟩ := (bin_cases dMul x (bin dMul y z)).resolve_left h2
  obtain ⟨c, d, m1, m2, m3⟩ := bin_some g1
  obtain ⟨e, f, n1, n2, n3⟩ := bin_some k2
  rw [g4, k4]
  rw [m1] at k1; rw [m2] at n1; rw [g2] at n2
  cases k1; cases n1; cases n2; cases g3; cases k3; cases m3; cases n3
  rw [Rat.mul_assoc]
theorem distrib_law (x y z : List UInt8) : eqM (bin dMul x (bin dAdd y z)) (bin dAdd (bin dMul x y) (bin dMul x z)) = true := by
  refine eqM_of fun h1 h2 => ?_
  obtain ⟨a, b, q, g1, g2, g3, g4, _⟩ := (bin_cases dMul x (bin dAdd y z)).resolve_left h1
  obtain ⟨a', b', q', k1, k2, k3, k4, _⟩ := (bin_cases dAdd (bin dMul x y) (bin dMul x z)).resolve_left h2
  obtain ⟨c, d, m1, m2, m3⟩ := bin_some g2
  obtain ⟨e, f, n1, n2, n3⟩ := bin_some k1
  obtain ⟨e', f', o1, o2, o3⟩ := bin_some k2
  rw [g4, k4]
  rw [g1] at n1 o1; rw [m1] at n2; rw [m2] at o2
  cases n1; cases o1; cases n2; cases o2; cases g3; cases k3; cases m3; cases n3; cases o3
  rw [Rat.mul_add]
theorem sub_back_law (x y : List UInt8) : eqM (bin dSub (bin dAdd x y) y) (mis x) = true := by
  refine eqM_of fun h1 h2 => ?_
  obtain ⟨a, b, q, g1, g2, g3, g4, _⟩ := (bin_cases dSub (bin dAdd x y) y).resolve_left h1
  obtain ⟨c, d, m1, m2, m3⟩ := bin_some g1
  rw [g4, mis_some m1]
  rw [g2] at m2
  cases m2; cases g3; cases m3
  congr 1
  grind
theorem div_back_law (x y : List UInt8) : eqM (bin dDiv (bin dMul x y) y) (mis x) = true := by
  refine eqM_of fun h1 h2 => ?_
  obtain ⟨a, b, q, g1, g2, g3, g4, _⟩ := (bin_cases dDiv (bin dMul x y) y).resolve_left h1
  obtain ⟨c, d, m1, m2, m3⟩ := bin_some g1
  rw [g4, mis_some m1]
  rw [g2] at m2
  cases m2; cases m3
  unfold dDiv at g3
  split at g3
  · cases g3
  · rename_i hb
    cases g3
    congr 1
    grind
theorem add_zero_law (x : List UInt8) : bin dAdd x [48] = mis x := by
  have h0 : num? [48] = some 0 := by decide +kernel
  cases h : num? x with
  | none => rw [mis_none h]; unfold bin; simp only [h]
  | some a => rw [mis_some h, bin_of h h0 rfl, Rat.add_zero]
theorem mul_one_law (x : List UInt8) : bin dMul x [49] = mis x := by
  have h0 : num? [49] = some 1 := by decide +kernel
  cases h : num? x with
  | none => rw [mis_none h]; unfold bin; simp only [h]
  | some a => rw [mis_some h, bin_of h h0 rfl, Rat.mul_one]

/-- The sign of a difference. -/
theorem sgn_pos {a b : Rat} : 0 < sign (a - b) ↔ b < a := by rw [sign_pos]; grind
theorem sgn_neg {a b : Rat} : sign (a - b) < 0 ↔ a < b := by rw [sign_neg]; grind
theorem sgn_zero {a b : Rat} : sign (a - b) = 0 ↔ a = b := by rw [sign_zero]; grind
theorem sgn_val (q : Rat) : sign q = -1 ∨ sign q = 0 ∨ sign q = 1 := by unfold sign; split; simp; split <;> simp
theorem sgn_back (a b : Rat) : sign (b - a) = -sign (a - b) := by
  have h1 := @sgn_pos a b
  have h2 := @sgn_neg a b
  have h3 := @sgn_pos b a
  have h4 := @sgn_neg b a
  rcases sgn_val (a - b) with e | e | e <;> rcases sgn_val (b - a) with f | f | f <;> rw [e] at h1 h2 ⊢ <;> rw [f] at h3 h4 ⊢ <;> grind
theorem sgn_trans {a b c : Rat} (h1 : sign (a - b) ≤ 0) (h2 : sign (b - c) ≤ 0) : sign (a - c) ≤ 0 := by
  have h3 := @sgn_pos a b
  have h4 := @sgn_pos b c
  have h5 := @sgn_pos a c
  grind
theorem sgn_trans' {a b c : Rat} (h1 : sign (a - b) < 0) (h2 : sign (b - c) < 0) : sign (a - c) < 0 := by
  have h3 := @sgn_neg a b
  have h4 := @sgn_neg b c
  have h5 := @sgn_neg a c
  grind
end Go.Proofs.YtinoipjblkidfaaGreatDoor

/- Plain laws: units and conversions. -/
namespace Go.Proofs.YtinoipjblkidfaaGreatDoor
open Go.Proofs.YtinoipjblkidfaaGreatDoor.Dg Go.Proofs.YtinoipjblkidfaaGreatDoor.Q Go.Proofs.YtinoipjblkidfaaGreatDoor.Num

theorem P7.ext' {p q : P7} (h1 : p.a = q.a) (h2 : p.b = q.b) (h3 : p.c = q.c) (h4 : p.d = q.d) (h5 : p.e = q.e) (h6 : p.f = q.f) (h7 : p.g = q.g) : p = q := by
  cases p; cases q; simp only at *; subst h1 h2 h3 h4 h5 h6 h7; rfl
theorem P7.plus_comm (p q : P7) : p.plus 1 q = q.plus 1 p := by apply P7.ext' <;> simp only [P7.plus] <;> omega
theorem P7.plus_back (p q : P7) : (p.plus 1 q).plus (-1) q = p := by apply P7.ext' <;> simp only [P7.plus] <;> omega
theorem P7.times_add (p : P7) (m n : Int) : (p.times m).plus 1 (p.times n) = p.times (m + n) := by apply P7.ext' <;> simp only [P7.plus, P7.times, Int.mul_add] <;> omega
theorem unJ_ok {q : Rat} {p : P7} (h : (unJ q p).2 = 0) : vU (put q) [48] p = true ∧ unJ q p = (⟨put q, [48], p⟩, 0) := by
  unfold unJ at *
  split at h
  · rename_i h1; exact ⟨h1, by rw [if_pos h1]⟩
  · cases h
theorem vU_put {q : Rat} {O : List UInt8} {p : P7} (h : vU (put q) O p = true) : num? (put q) = some q := by
  rcases put_cases q with e | ⟨_, e⟩
  · rw [e] at h; unfold vU at h; rw [num_nil] at h; cases h
  · exact e
theorem plainU_of {F O : List UInt8} {p : P7} (h1 : vU F O p = true) (h2 : O = [48]) : plainU F O p = true := by unfold plainU; rw [h1, decide_eq_true h2]; rfl
theorem plainU_iff {F O : List UInt8} {p : P7} (h : plainU F O p = true) : vU F O p = true ∧ O = [48] := by
  unfold plainU at h
  rw [Bool.and_eq_true] at h
  exact ⟨h.1, of_decide_eq_true h.2⟩
theorem unC2_of {F O F' O' : List UInt8} {p p' : P7} {n : Int} {f g : Rat} (h1 : plainU F O p = true) (h2 : plainU F' O' p' = true) (h3 : num? F = some f) (h4 : num? F' = some g) : unC2 F O p F' O' p' n = unJ (f * g ^ n) (p.plus n p') := by
  unfold unC2
  rw [if_pos ⟨h1, h2⟩, h3, h4]
theorem unC2_parts {F O F' O' : List UInt8} {p p' : P7} {n : Int} (h : (unC2 F O p F' O' p' n).2 = 0) : ∃ f g, plainU F O p = true ∧ plainU F' O' p' = true ∧ num? F = some f ∧ num? F' = some g ∧ 0 < f ∧ 0 < g := by
  unfold unC2 at h
  split at h
  · rename_i h1
    obtain ⟨f, e1, e2, _⟩ := plainU_parts h1.1
    obtain ⟨g, e3, e4, _⟩ := plainU_parts h1.2
    exact ⟨f, g, h1.1, h1.2, e1, e3, e2, e4⟩
  · cases h
theorem times_comm_law (F O F' O' : List UInt8) (p p' : P7) : unC2 F O p F' O' p' 1 = unC2 F' O' p' F O p 1 := by
  by_cases h : plainU F O p = true ∧ plainU F' O' p' = true
  · obtain ⟨f, e1, _, _⟩ := plainU_parts h.1
    obtain ⟨g, e3, _, _⟩ := plainU_parts h.2
    rw [unC2_of h.1 h.2 e1 e3, unC2_of h.2 h.1 e3 e1, P7.plus_comm, Rat.zpow_one, Rat.zpow_one, Rat.mul_comm]
  · unfold unC2
    rw [if_neg h, if_neg (fun e => h ⟨e.2, e.1⟩)]
theorem over_back_law {F O F' O' : List UInt8} {p p' : P7} (h : (unC2 F O p F' O' p' 1).2 = 0) :
    unC2 (unC2 F O p F' O' p' 1).1.F (unC2 F O p F' O' p' 1).1.O (unC2 F O p F' O' p' 1).1.p F' O' p' (-1) = (⟨F, O, p⟩, 0) := by
  obtain ⟨f, g, h1, h2, h3, h4, h5, h6⟩ := unC2_parts h
  have e := unC2_of (n := 1) h1 h2 h3 h4
  rw [e] at h ⊢
  obtain ⟨k1, k2⟩ := unJ_ok h
  rw [k2]
  rw [unC2_of (plainU_of k1 rfl) h2 (vU_put k1) h4, P7.plus_back]
  have hg : g ≠ 0 := by grind
  have e2 : f * g ^ (1 : Int) * g ^ (-1 : Int) = f := by rw [Rat.zpow_one, Rat.zpow_neg, Rat.zpow_one]; grind
  rw [e2]
  obtain ⟨v1, rfl⟩ := plainU_iff h1
  unfold unJ
  rw [num_is h3, if_pos v1]
theorem unP_parts {F O : List UInt8} {p : P7} {n : Int} (h : (unP F O p n).2 = 0) : ∃ f, plainU F O p = true ∧ num? F = some f ∧ 0 < f ∧ unP F O p n = unJ (f ^ n) (p.times n) := by
  unfold unP at *
  by_cases h1 : plainU F O p = true
  · obtain ⟨f, e1, e2, _⟩ := plainU_parts h1
    rw [if_pos h1] at h
    by_cases h2 : -12 ≤ n ∧ n ≤ 12
    · refine ⟨f, h1, e1, e2, ?_⟩
      rw [if_pos h1, if_pos h2, e1]
    · rw [if_neg h2] at h; cases h
  · rw [if_neg h1] at h; cases h
theorem power_add_law {F O : List UInt8} {p : P7} {m n : Int} (h1 : (unP F O p m).2 = 0) (h2 : (unP F O p n).2 = 0) (h3 : (unP F O p (m + n)).2 = 0) :
    unC2 (unP F O p m).1.F (unP F O p m).1.O (unP F O p m).1.p (unP F O p n).1.F (unP F O p n).1.O (unP F O p n).1.p 1 = ((unP F O p (m + n)).1, 0) := by
  obtain ⟨f, k1, k2, k3, k4⟩ := unP_parts h1
  obtain ⟨f', _, k2', _, k5⟩ := unP_parts h2
  obtain ⟨f'', _, k2'', _, k6⟩ := unP_parts h3
  rw [k2] at k2' k2''
  cases k2'; cases k2''
  rw [k4] at h1 ⊢
  rw [k5] at h2 ⊢
  rw [k6] at h3 ⊢
  obtain ⟨a1, a2⟩ := unJ_ok h1
  obtain ⟨b1, b2⟩ := unJ_ok h2
  obtain ⟨c1, c2⟩ := unJ_ok h3
  rw [a2, b2, c2]
  have hf : f ≠ 0 := by grind
  rw [unC2_of (plainU_of a1 rfl) (plainU_of b1 rfl) (vU_put a1) (vU_put b1), P7.times_add, Rat.zpow_one, ← Rat.zpow_add hf, c2]

theorem conv_ok {X F O F' O' : List UInt8} {p p' : P7} (h1 : (qconv X F O p F' O' p').2 = 0) (h2 : (qconv X F O p F' O' p').1 ≠ []) :
    ∃ v f a g b, num? X = some v ∧ num? F = some f ∧ num? O = some a ∧ num? F' = some g ∧ num? O' = some b ∧ 0 < f ∧ 0 < g ∧ vU F O p = true ∧ vU F' O' p' = true ∧ p = p' ∧ qconv X F O p F' O' p' = (put ((f * v + a - b) / g), 0) ∧ num? (qconv X F O p F' O' p').1 = some ((f * v + a - b) / g) := by
  have hq : qconv X F O p F' O' p' = qconv X F O p F' O' p' := rfl
  unfold qconv at h1 h2
  split at h1
  · rename_i v1
    split at h1
    · rename_i v2
      split at h1
      · rename_i hp
        rw [if_pos v1, if_pos v2, if_pos hp] at h2
        obtain ⟨f, a, e1, e2, e3, _⟩ := vU_parts v1
        obtain ⟨g, b, e4, e5, e6, _⟩ := vU_parts v2
        cases hx : num? X with
        | none => rw [hx] at h2; exact absurd rfl h2
        | some v =>
          rw [hx, e1, e3, e4, e6] at h2
          have hQ : qconv X F O p F' O' p' = (put ((f * v + a - b) / g), 0) := by
            unfold qconv
            rw [if_pos v1, if_pos v2, if_pos hp, hx, e1, e3, e4, e6]
          refine ⟨v, f, a, g, b, rfl, e1, e3, e4, e6, e2, e5, v1, v2, hp, hQ, ?_⟩
          rw [hQ]
          rcases put_cases ((f * v + a - b) / g) with h | ⟨_, h⟩
          · exact absurd h h2
          · exact h
      · cases h1
    · cases h1
  · cases h1
theorem conv_of {X F O F' O' : List UInt8} {p : P7} {v f a g b : Rat} (h1 : num? X = some v) (h2 : num? F = some f) (h3 : num? O = some a) (h4 : num? F' = some g) (h5 : num? O' = some b) (v1 : vU F O p = true) (v2 : vU F' O' p = true) :
    qconv X F O p F' O' p = (put ((f * v + a - b) / g), 0) := by
  unfold qconv
  rw [if_pos v1, if_pos v2, if_pos rfl, h1, h2, h3, h4, h5]
/-- There and back. -/
theorem conv_back_law {X F O F' O' : List UInt8} {p p' : P7} (h1 : (qconv X F O p F' O' p').2 = 0) (h2 : (qconv X F O p F' O' p').1 ≠ []) :
    (qconv (qconv X F O p F' O' p').1 F' O' p' F O p).2 = 0 ∧ eqM (qconv (qconv X F O p F' O' p').1 F' O' p' F O p).1 X = true := by
  obtain ⟨v, f, a, g, b, e1, e2, e3, e4, e5, e6, e7, v1, v2, rfl, hQ, hN⟩ := conv_ok h1 h2
  rw [conv_of hN e4 e5 e2 e3 v2 v1]
  refine ⟨rfl, eqM_of fun _ _ => ?_⟩
  have hg : g ≠ 0 := by grind
  have hf : f ≠ 0 := by grind
  have e : (g * ((f * v + a - b) / g) + b - a) / f = v := by grind
  rw [e]
  exact num_is e1
/-- By a third unit. -/
theorem conv_third_law {X F O F' O' G P : List UInt8} {p p' r : P7} (h1 : (qconv X F O p F' O' p').2 = 0) (h2 : (qconv X F O p F' O' p').1 ≠ []) :
    (qconv (qconv X F O p F' O' p').1 F' O' p' G P r).2 = (qconv X F O p G P r).2 ∧ eqM (qconv (qconv X F O p F' O' p').1 F' O' p' G P r).1 (qconv X F O p G P r).1 = true := by
  obtain ⟨v, f, a, g, b, e1, e2, e3, e4, e5, e6, e7, v1, v2, rfl, hQ, hN⟩ := conv_ok h1 h2
  by_cases v3 : vU G P r = true
  · by_cases hp : p = r
    · subst hp
      obtain ⟨k, c, k1, k2, k3, _⟩ := vU_parts v3
      rw [conv_of hN e4 e5 k1 k3 v2 v3, conv_of e1 e2 e3 k1 k3 v1 v3]
      refine ⟨rfl, eqM_of fun _ _ => ?_⟩
      have hg : g ≠ 0 := by grind
      have e : (g * ((f * v + a - b) / g) + b - c) / k = (f * v + a - c) / k := by congr 1; grind
      show put _ = put _
      rw [e]
    · have q1 : ∀ Y, qconv Y F' O' p G P r = ([], 11) := fun Y => by unfold qconv; rw [if_pos v2, if_pos v3, if_neg hp]
      have q2 : ∀ Y, qconv Y F O p G P r = ([], 11) := fun Y => by unfold qconv; rw [if_pos v1, if_pos v3, if_neg hp]
      rw [q1, q2]
      exact ⟨rfl, rfl⟩
  · have q1 : ∀ Y, qconv Y F' O' p G P r = ([], 10) := fun Y => by unfold qconv; rw [if_pos v2, if_neg v3]
    have q2 : ∀ Y, qconv Y F O p G P r = ([], 10) := fun Y => by unfold qconv; rw [if_pos v1, if_neg v3]
    rw [q1, q2]
    exact ⟨rfl, rfl⟩
end Go.Proofs.YtinoipjblkidfaaGreatDoor

/- Laws of the operations: what their small functions return. -/
namespace Go.Proofs.YtinoipjblkidfaaGreatDoor
open Go.RowKit Go.Proofs.YtinoipjblkidfaaGreatDoor.Dg Go.Proofs.YtinoipjblkidfaaGreatDoor.Q Go.Proofs.YtinoipjblkidfaaGreatDoor.Num

theorem put_len (q : Rat) : (put q).length ≤ 82 := by
  unfold put
  split
  · exact short_len (by assumption)
  · exact Nat.zero_le _
/-- What an operation returns, as a string. -/
def qb (D : Rat → Rat → Option Rat) (S T : ByteArray) : ByteArray := ⟨(bin D (bl S) (bl T)).toArray⟩
theorem bl_qb (D : Rat → Rat → Option Rat) (S T : ByteArray) : bl (qb D S T) = bin D (bl S) (bl T) := rfl
theorem qb_size (D : Rat → Rat → Option Rat) (S T : ByteArray) : (qb D S T).size ≤ 9223372036854775807 := by
  rw [← bl_len, bl_qb]
  rcases bin_cases D (bl S) (bl T) with h | ⟨_, _, q, _, _, _, h, _⟩
  · rw [h]; exact Nat.zero_le _
  · rw [h]; have := put_len q; omega
def misB (S : ByteArray) : ByteArray := ⟨(mis (bl S)).toArray⟩
theorem bl_misB (S : ByteArray) : bl (misB S) = mis (bl S) := rfl
theorem ba_eq {S T : ByteArray} (h : bl S = bl T) : S = T := by
  cases S; cases T
  rename_i a b
  have : a.toList = b.toList := h
  rw [Array.toList_inj.1 this]
theorem same_S {S T : ByteArray} (h : bl S = bl T) : (S.toList == T.toList) = true := by rw [toList_eq]; exact decide_eq_true h

set_option maxRecDepth 100000 in
theorem equal_any (S T : ByteArray) (w : World) : Calls Tryz.prog 29 #[.string S, .string T] w fun e w' => e = .returned (.bool (eqM (bl S) (bl T))) ∧ w' = w := by
  have h1 : (S.toList == []) = decide (bl S = []) := eqS S []
  have h1' : S.toList.isEmpty = decide (bl S = []) := emptyS S
  have h2 : (T.toList == []) = decide (bl T = []) := eqS T []
  have h2' : T.toList.isEmpty = decide (bl T = []) := emptyS T
  have h3 := toList_eq S T
  unfold eqM
  generalize decide (bl S = []) = a at *
  generalize decide (bl T = []) = b at *
  generalize decide (bl S = bl T) = c at *
  cases a
  · cases b
    · go_enter Tryz.func29, Tryz.ntmps29
      go_wp2
      go_ret
      exact ⟨rfl, rfl⟩
    · go_enter Tryz.func29, Tryz.ntmps29
      go_wp2
      go_ret
      exact ⟨rfl, rfl⟩
  · go_enter Tryz.func29, Tryz.ntmps29
    go_wp2
    go_ret
    exact ⟨rfl, rfl⟩

set_option maxRecDepth 100000 in
theorem missing_any (S : ByteArray) (hs : S.size ≤ 9223372036854775807) (w : World) (hw : Wf w) : Calls Tryz.prog 33 #[.string S] w fun e w' => e = .returned (.string (misB S)) ∧ Below w.heap.size w w' := by
  have V := qValid_any S hs w hw
  cases h : num? (bl S) with
  | none =>
    have hm : misB S = ⟨#[]⟩ := by unfold misB; rw [mis_none h]
    rw [h] at V
    rw [hm]
    clear h hm hs hw
    go_enter Tryz.func33, Tryz.ntmps33
    go_wp2_with (go_at_call 23; ((with_reducible refine V.mono ?_); rintro e w1 ⟨rfl, hb⟩; have B1 := Lib.hid hb; clear hb))
    go_ret
    exact ⟨rfl, B1.out⟩
  | some a =>
    have hm : misB S = S := by apply ba_eq; rw [bl_misB, mis_some h, num_is h]
    rw [h] at V
    rw [hm]
    clear h hm hs hw
    go_enter Tryz.func33, Tryz.ntmps33
    go_wp2_with (go_at_call 23; ((with_reducible refine V.mono ?_); rintro e w1 ⟨rfl, hb⟩; have B1 := Lib.hid hb; clear hb))
    go_ret
    exact ⟨rfl, B1.out⟩
end Go.Proofs.YtinoipjblkidfaaGreatDoor

/- The sanity check of each law. -/
namespace Go.Proofs.YtinoipjblkidfaaGreatDoor
open Go.RowKit Go.Proofs.YtinoipjblkidfaaGreatDoor.Dg Go.Proofs.YtinoipjblkidfaaGreatDoor.Q Go.Proofs.YtinoipjblkidfaaGreatDoor.Num

theorem km_h : punit [107, 109, 47, 104] = (⟨[53, 47, 49, 56], [48], ⟨1, 0, -1, 0, 0, 0, 0⟩⟩, 0) := by decide +kernel
theorem third : bin dAdd [49, 47, 51] [49, 47, 54] = [49, 47, 50] := by decide +kernel

set_option maxRecDepth 100000 in
set_option maxHeartbeats 3200000 in
theorem awake_any (w : World) (hw : Wf w) : Calls Tryz.prog 20 #[] w fun e w' => e = .returned (.bool true) ∧ Below w.heap.size w w' := by
  have P := parseUnit_any ⟨#[107, 109, 47, 104]⟩ (by decide) w hw
  rw [show punit (bl ⟨#[107, 109, 47, 104]⟩) = _ from km_h] at P
  have P := P.mono fun e w2 h => (show e = .returned (.tuple #[.agg #[.string ⟨#[53, 47, 49, 56]⟩, .string ⟨#[48]⟩, .int .i64 1, .int .i64 0, .int .i64 (-1), .int .i64 0, .int .i64 0, .int .i64 0, .int .i64 0], .int .i64 0]) ∧ Below w.heap.size w w2 from h)
  have A := fun w' (hb : Below w.heap.size w w') => qAdd_any ⟨#[49, 47, 51]⟩ ⟨#[49, 47, 54]⟩ (by decide) (by decide) w' (hw.up hb)
  rw [show bin dAdd (bl ⟨#[49, 47, 51]⟩) (bl ⟨#[49, 47, 54]⟩) = _ from third] at A
  have A := fun w' hb => (A w' hb).mono fun e w2 h => (show e = .returned (.string ⟨#[49, 47, 50]⟩) ∧ Below w'.heap.size w' w2 from h)
  have e3 : ∀ w, (Op.equalIn 9999 22 (.agg #[.int .i64 1, .int .i64 0, .int .i64 (-1), .int .i64 0, .int .i64 0, .int .i64 0, .int .i64 0]) (.agg #[.int .i64 1, .int .i64 0, .int .i64 (-1), .int .i64 0, .int .i64 0, .int .i64 0, .int .i64 0])).run Tryz.prog w = .ok true w := fun w => eq7 9997 ⟨1, 0, -1, 0, 0, 0, 0⟩ ⟨1, 0, -1, 0, 0, 0, 0⟩ w
  have l1 : ((⟨#[49, 47, 50]⟩ : ByteArray).toList == [49, 47, 50]) = true := by rw [eqS]; rfl
  have l2 : ((⟨#[53, 47, 49, 56]⟩ : ByteArray).toList == (⟨#[53, 47, 49, 56]⟩ : ByteArray).toList) = true := by simp
  have l3 : ((⟨#[48]⟩ : ByteArray).toList == (⟨#[48]⟩ : ByteArray).toList) = true := by simp
  clear hw
  go_enter Tryz.func20, Tryz.ntmps20
  go_wp2_with (first
    | (go_at_call 30; go_loud ((with_reducible refine (A _ b2.out).mono ?_); rintro e w3 ⟨rfl, hb⟩; have U3 := U2.out.up hb; obtain ⟨c0, c1, c2, c3, c4, c5, c6, c7, c8⟩ := Ub.cells U3; have b3 := Lib.hid (btrans b2.out hb); clear hb U3))
    | (go_at_call 17; go_loud ((with_reducible refine P.mono ?_); rintro e w1 ⟨rfl, hb⟩; have U2 := Lib.hid (show Ub _ w1.heap.size ⟨#[53, 47, 49, 56]⟩ ⟨#[48]⟩ ⟨1, 0, -1, 0, 0, 0, 0⟩ from Bk.new w1 #[.string ⟨#[53, 47, 49, 56]⟩, .string ⟨#[48]⟩, .int .i64 1, .int .i64 0, .int .i64 (-1), .int .i64 0, .int .i64 0, .int .i64 0, .int .i64 0] 24); have b2 := Lib.hid (below_alloc hb (.cells #[.string ⟨#[53, 47, 49, 56]⟩, .string ⟨#[48]⟩, .int .i64 1, .int .i64 0, .int .i64 (-1), .int .i64 0, .int .i64 0, .int .i64 0, .int .i64 0] 24)); clear hb)))
  go_ret
  exact ⟨rfl, b3.out⟩
end Go.Proofs.YtinoipjblkidfaaGreatDoor
