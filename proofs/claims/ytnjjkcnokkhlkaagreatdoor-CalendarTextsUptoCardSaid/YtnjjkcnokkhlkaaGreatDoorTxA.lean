/- Plain laws of the texts of dates: what Format and Parse compute, and that both lead back to each other. -/
import Derived.Test.YtnjjkcnokkhlkaaGreatDoorStrA
import Derived.Test.YtnjjkcnokkhlkaaGreatDoorCalJ
namespace Go.Proofs.YtnjjkcnokkhlkaaGreatDoor.Tx
open Go.Proofs.YtnjjkcnokkhlkaaGreatDoor.Str

/-- The text of a date. -/
def fmt (y m d : Int) : List UInt8 := (if y < 0 then [45] else []) ++ (pad 4 y.natAbs ++ ([45] ++ (pad 2 m.toNat ++ ([45] ++ pad 2 d.toNat))))
def fS (c y m d : Int) : List UInt8 := if dck c y m d = 0 then fmt y m d else []

def neg : List UInt8 → Bool
  | [] => false
  | x :: _ => x == 45
def rest (s : List UInt8) : List UInt8 := if neg s = true then s.tail else s
/-- The shape of ten bytes of a date. -/
def psh (r : List UInt8) : Bool := decide (r.length = 10) && allD (r.take 4) && (r.getD 4 0 == 45) && allD ((r.drop 5).take 2) && (r.getD 7 0 == 45) && allD (r.drop 8)
def yv (r : List UInt8) : Nat := val (r.take 4)
def mv (r : List UInt8) : Nat := val ((r.drop 5).take 2)
def dv (r : List UInt8) : Nat := val (r.drop 8)
/-- Does the text have the form of a date? -/
def psn (s : List UInt8) : Bool := psh (rest s) && !(neg s && decide (yv (rest s) = 0))
def sy (s : List UInt8) : Int := if neg s = true then -(yv (rest s) : Int) else (yv (rest s) : Int)
/-- What Parse returns. -/
def pE (c : Int) (s : List UInt8) : Int := if kn c = false then 20 else if psn s = false then 3 else if Cal.vld c (sy s) (mv (rest s)) (dv (rest s)) = false then 21 else 0
def pY (c : Int) (s : List UInt8) : Int := if pE c s = 0 then sy s else 0
def pM (c : Int) (s : List UInt8) : Int := if pE c s = 0 then (mv (rest s) : Int) else 0
def pD (c : Int) (s : List UInt8) : Int := if pE c s = 0 then (dv (rest s) : Int) else 0

theorem psh_mk {a b d : List UInt8} (ha : a.length = 4) (hb : b.length = 2) (hd : d.length = 2) (h1 : allD a = true) (h2 : allD b = true) (h3 : allD d = true) :
    psh (a ++ ([45] ++ (b ++ ([45] ++ d)))) = true ∧ (a ++ ([45] ++ (b ++ ([45] ++ d)))).take 4 = a ∧ ((a ++ ([45] ++ (b ++ ([45] ++ d)))).drop 5).take 2 = b ∧ (a ++ ([45] ++ (b ++ ([45] ++ d)))).drop 8 = d := by
  match a, ha with
  | [a0, a1, a2, a3], _ =>
    match b, hb with
    | [b0, b1], _ =>
      match d, hd with
      | [d0, d1], _ => exact ⟨by unfold psh; simp [h1, h2, h3], by simp, by simp, by simp⟩

theorem psh_cut {r : List UInt8} (h : psh r = true) : r = r.take 4 ++ ([45] ++ ((r.drop 5).take 2 ++ ([45] ++ r.drop 8))) ∧ (r.take 4).length = 4 ∧ ((r.drop 5).take 2).length = 2 ∧ (r.drop 8).length = 2 ∧
    allD (r.take 4) = true ∧ allD ((r.drop 5).take 2) = true ∧ allD (r.drop 8) = true := by
  unfold psh at h
  simp only [Bool.and_eq_true, decide_eq_true_eq, beq_iff_eq] at h
  obtain ⟨⟨⟨⟨⟨h1, h2⟩, h3⟩, h4⟩, h5⟩, h6⟩ := h
  match r, h1 with
  | [x0, x1, x2, x3, x4, x5, x6, x7, x8, x9], _ =>
    simp at h3 h5
    subst h3 h5
    exact ⟨rfl, rfl, rfl, rfl, h2, h4, h6⟩

theorem neg_digits {a t : List UInt8} (h : allD a = true) (hl : 0 < a.length) : neg (a ++ t) = false := by
  cases a with
  | nil => simp at hl
  | cons x a =>
    have hx : isD x = true := by unfold allD at h; simp at h; exact h.1
    have hd := of_decide_eq_true hx
    show (x == 45) = false
    rw [beq_eq_false_iff_ne]
    rintro rfl
    simp at hd

theorem psn_of {s : List UInt8} (h : psn s = true) : psh (rest s) = true ∧ (neg s = true → yv (rest s) ≠ 0) := by
  unfold psn at h
  simp only [Bool.and_eq_true, Bool.not_eq_true', Bool.and_eq_false_iff, decide_eq_false_iff_not] at h
  refine ⟨h.1, fun hn => ?_⟩
  rcases h.2 with h2 | h2
  · rw [hn] at h2; simp at h2
  · exact h2

theorem rest_eq (s : List UInt8) : s = (if neg s = true then [45] else []) ++ rest s := by
  unfold rest
  cases s with
  | nil => rfl
  | cons x l =>
    cases h : neg (x :: l)
    · simp
    · have : x = 45 := by simpa [neg] using h
      simp [this]

/-- Parse of the text of a date. -/
theorem parse_fmt {c y m d : Int} (h : dck c y m d = 0) : pE c (fmt y m d) = 0 ∧ pY c (fmt y m d) = y ∧ pM c (fmt y m d) = m ∧ pD c (fmt y m d) = d := by
  have hk : kn c = true ∧ Cal.vld c y m d = true := by
    rcases dck_cases c y m d with ⟨_, e⟩ | ⟨_, _, e⟩ | ⟨h1, h2, _⟩
    · omega
    · omega
    · exact ⟨h1, h2⟩
  obtain ⟨y1, y2, m1, m2, d1, d2⟩ := vld_bd hk.2
  have hy : y.natAbs < 10 ^ 4 := by omega
  have hm : m.toNat < 10 ^ 2 := by omega
  have hd : d.toNat < 10 ^ 2 := by omega
  obtain ⟨s1, s2, s3, s4⟩ := psh_mk (pad_length 4 y.natAbs) (pad_length 2 m.toNat) (pad_length 2 d.toNat) (pad_allD _ _) (pad_allD _ _) (pad_allD _ _)
  have hr : rest (fmt y m d) = pad 4 y.natAbs ++ ([45] ++ (pad 2 m.toNat ++ ([45] ++ pad 2 d.toNat))) ∧ neg (fmt y m d) = decide (y < 0) := by
    unfold fmt
    by_cases hy0 : y < 0
    · simp [hy0, rest, neg]
    · have hn := neg_digits (t := [45] ++ (pad 2 m.toNat ++ ([45] ++ pad 2 d.toNat))) (pad_allD 4 y.natAbs) (by rw [pad_length]; omega)
      rw [if_neg hy0, List.nil_append]
      unfold rest
      rw [hn]
      simp [hy0]
  obtain ⟨hr, hn⟩ := hr
  have e1 : yv (rest (fmt y m d)) = y.natAbs := by rw [hr]; unfold yv; rw [s2, val_pad _ _ hy]
  have e2 : mv (rest (fmt y m d)) = m.toNat := by rw [hr]; unfold mv; rw [s3, val_pad _ _ hm]
  have e3 : dv (rest (fmt y m d)) = d.toNat := by rw [hr]; unfold dv; rw [s4, val_pad _ _ hd]
  have esy : sy (fmt y m d) = y := by
    unfold sy
    rw [e1, hn]
    by_cases hy0 : y < 0
    · simp [hy0]; omega
    · simp [hy0]; omega
  have epsn : psn (fmt y m d) = true := by
    unfold psn
    rw [e1, hn, hr, s1]
    by_cases hy0 : y < 0
    · simp [hy0]; omega
    · simp [hy0]
  have em : (mv (rest (fmt y m d)) : Int) = m := by rw [e2]; omega
  have ed : (dv (rest (fmt y m d)) : Int) = d := by rw [e3]; omega
  have eE : pE c (fmt y m d) = 0 := by unfold pE; rw [esy, em, ed, hk.1, epsn, hk.2]; simp
  exact ⟨eE, by unfold pY; rw [if_pos eE, esy], by unfold pM; rw [if_pos eE, em], by unfold pD; rw [if_pos eE, ed]⟩

/-- The text of what was parsed. -/
theorem fmt_parse {c : Int} {s : List UInt8} (h : pE c s = 0) : dck c (pY c s) (pM c s) (pD c s) = 0 ∧ fmt (pY c s) (pM c s) (pD c s) = s := by
  unfold pY pM pD
  rw [if_pos h, if_pos h, if_pos h]
  unfold pE at h
  cases hk : kn c
  · rw [hk] at h; simp at h
  cases hp : psn s
  · rw [hk, hp] at h; simp at h
  cases hv : Cal.vld c (sy s) (mv (rest s)) (dv (rest s))
  · rw [hk, hp, hv] at h; simp at h
  refine ⟨by unfold dck; rw [hk, hv]; simp, ?_⟩
  obtain ⟨hs, hy0⟩ := psn_of hp
  obtain ⟨hr, l1, l2, l3, a1, a2, a3⟩ := psh_cut hs
  have p1 : pad 4 (yv (rest s)) = (rest s).take 4 := pad_val _ 4 a1 l1
  have p2 : pad 2 (mv (rest s)) = ((rest s).drop 5).take 2 := pad_val _ 2 a2 l2
  have p3 : pad 2 (dv (rest s)) = (rest s).drop 8 := pad_val _ 2 a3 l3
  have hf : ∀ b : Bool, neg s = b → fmt (sy s) (mv (rest s)) (dv (rest s)) = (if neg s = true then [45] else []) ++ rest s := by
    intro b hb
    unfold fmt
    cases b
    · have e : sy s = (yv (rest s) : Int) := by unfold sy; rw [hb]; simp
      rw [e, hb, if_neg (by omega)]
      simp only [Int.natAbs_natCast, Int.toNat_natCast]
      rw [p1, p2, p3, ← hr]
      rfl
    · have hne := hy0 hb
      have e : sy s = -(yv (rest s) : Int) := by unfold sy; rw [hb]; simp
      rw [e, hb, if_pos (by omega)]
      simp only [Int.natAbs_neg, Int.natAbs_natCast, Int.toNat_natCast]
      rw [p1, p2, p3, ← hr]
      rfl
  rw [hf _ rfl, ← rest_eq]

/-- The pieces of a text with the shape. -/
theorem spl_shape {r : List UInt8} (h : psh r = true) : spl 45 r = [r.take 4, (r.drop 5).take 2, r.drop 8] := by
  obtain ⟨hr, l1, l2, l3, a1, a2, a3⟩ := psh_cut h
  have nd : ∀ {l : List UInt8}, allD l = true → (45 : UInt8) ∉ l := by
    intro l hl hm
    unfold allD at hl
    have := List.all_eq_true.1 hl 45 hm
    simp [isD] at this
  generalize r.take 4 = a at *
  generalize (r.drop 5).take 2 = b at *
  generalize r.drop 8 = d at *
  subst hr
  rw [List.singleton_append, spl_hit (nd a1), List.singleton_append, spl_hit (nd a2), spl_none (nd a3)]
/-- Three pieces of digits make the shape. -/
theorem shape_spl {r a b d : List UInt8} (h : spl 45 r = [a, b, d]) (l1 : a.length = 4) (l2 : b.length = 2) (l3 : d.length = 2) (a1 : allD a = true) (a2 : allD b = true) (a3 : allD d = true) :
    psh r = true ∧ r.take 4 = a ∧ (r.drop 5).take 2 = b ∧ r.drop 8 = d := by
  obtain ⟨_, h1⟩ := spl_join h
  rcases h1 with ⟨e, _⟩ | ⟨t, rfl, h2⟩
  · simp at e
  obtain ⟨_, h3⟩ := spl_join h2
  rcases h3 with ⟨e, _⟩ | ⟨u, rfl, h4⟩
  · simp at e
  obtain ⟨_, h5⟩ := spl_join h4
  rcases h5 with ⟨_, rfl⟩ | ⟨v, _, h6⟩
  · exact psh_mk l1 l2 l3 a1 a2 a3
  · exact absurd h6 (spl_ne _ _)

end Go.Proofs.YtnjjkcnokkhlkaaGreatDoor.Tx
