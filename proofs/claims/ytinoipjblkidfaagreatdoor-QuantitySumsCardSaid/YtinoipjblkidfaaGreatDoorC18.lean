/- Units of the reference: within, raise. Plain laws: sums of lists of numbers. Rows that an append grows, with what all their cells are. Slices of values and of fractions: what a slice reads as. Sums of the program: ratio.Sum. Sums of the program: Sum. Sums of the reference: Total, Sum. Rows of laws: a slice of strings, opened. -/
import Derived.Test.YtinoipjblkidfaaGreatDoorC17
import Derived.Maps.AppendAt
import Derived.Laws.OwnMore
import Derived.Deep.RegionWith
import Derived.SliceStrings
import Derived.OpenShut
import Derived.WideShapes
/- Units of the reference: within, raise. -/
namespace Go.Proofs.YtinoipjblkidfaaGreatDoor
open Go.RowKit Go.Proofs.YtinoipjblkidfaaGreatDoor.Dg Go.Proofs.YtinoipjblkidfaaGreatDoor.Q Go.Proofs.YtinoipjblkidfaaGreatDoor.Num

set_option maxRecDepth 100000 in
theorem rwithin_any (n : Int) (w : World) : Calls Tryz.prog 78 #[.int .i64 n] w fun e w' => e = .returned (.bool (wi n)) ∧ w = w' := by
  have HW := Lib.hid (show wi n = (decide (-12 ≤ n) && decide (n ≤ 12)) from rfl)
  by_cases h1 : -12 ≤ n
  · rw [decide_eq_true h1, Bool.true_and] at HW
    go_enter Tryz.func78, Tryz.ntmps78
    go_wp2
    go_ret
    exact ⟨by rw [HW.out]; rfl, rfl⟩
  · rw [decide_eq_false h1, Bool.false_and] at HW
    go_enter Tryz.func78, Tryz.ntmps78
    go_wp2
    go_ret
    exact ⟨by rw [HW.out]; rfl, rfl⟩

/-- What a later world keeps of a box, a result and a number of the reference in a block behind them. -/
def PowR (w wr : World) (g : Nat) (a0 a1 a2 : Value) (x : Bool) (A : Option Addr) (l c : Nat) (A' : Option Addr) (l' c' : Nat) (q : Rat) : Prop :=
  K2 w wr a0 a1 a2 (.bool false) (.slice none 0 0) (.slice none 0 0) 51 ∧ w.heap.size + 2 ≤ g ∧ g < wr.heap.size ∧ Rs wr g (.bool x) (.slice A l c) (.slice A' l' c') 51 ∧ Qr wr (.agg #[.bool x, .slice A l c, .slice A' l' c']) q
theorem PowR.up {w w1 w2 : World} {g : Nat} {a0 a1 a2 : Value} {x : Bool} {A : Option Addr} {l c : Nat} {A' : Option Addr} {l' c' : Nat} {q : Rat} (h : PowR w w1 g a0 a1 a2 x A l c A' l' c' q) (hb : Below w1.heap.size w1 w2) : PowR w w2 g a0 a1 a2 x A l c A' l' c' q :=
  ⟨h.1.up hb, h.2.1, Nat.lt_of_lt_of_le h.2.2.1 hb.size, h.2.2.2.1.below hb h.2.2.1, h.2.2.2.2.up hb⟩
theorem PowR.start {w w1 : World} {a0 a1 a2 : Value} {x : Bool} {A : Option Addr} {l c : Nat} {A' : Option Addr} {l' c' : Nat} {q : Rat} (h : K2 w w1 a0 a1 a2 (.bool false) (.slice none 0 0) (.slice none 0 0) 51) (hq : Qr w1 (.agg #[.bool x, .slice A l c, .slice A' l' c']) q) :
    PowR w (w1.alloc (.cells #[.bool x, .slice A l c, .slice A' l' c'] 51)) w1.heap.size a0 a1 a2 x A l c A' l' c' q := by
  have hb := box_rs w1 (.bool x) (.slice A l c) (.slice A' l' c') 51
  exact ⟨h.up hb.2.1, h.2.2.1, hb.2.2, hb.1, hq.up hb.2.1⟩
theorem PowR.stored {w wr : World} {g : Nat} {a0 a1 a2 : Value} {x : Bool} {A : Option Addr} {l c : Nat} {A' : Option Addr} {l' c' : Nat} {q : Rat} (h : PowR w wr g a0 a1 a2 x A l c A' l' c' q) {y : Bool} {B : Option Addr} {m d : Nat} {B' : Option Addr} {m' d' : Nat} {p : Rat} (hp : Qr wr (.agg #[.bool y, .slice B m d, .slice B' m' d']) p) :
    PowR w (put3 wr g (.bool y) (.slice B m d) (.slice B' m' d')) g a0 a1 a2 y B m d B' m' d' p := by
  obtain ⟨⟨k1, k2, k3, k4⟩, h2, h3, hr, _⟩ := h
  exact ⟨⟨k1.put3_other (by omega), k2.put3_other (by omega), by rw [put3_size]; exact k3, put3_below k4 (by omega)⟩, h2, by rw [put3_size]; exact h3, hr.put3_same, hp.put3 hr rfl rfl rfl⟩
theorem PowR.q {w wr : World} {g : Nat} {a0 a1 a2 : Value} {x : Bool} {A : Option Addr} {l c : Nat} {A' : Option Addr} {l' c' : Nat} {q : Rat} (h : PowR w wr g a0 a1 a2 x A l c A' l' c' q) : Qr wr (.agg #[.bool x, .slice A l c, .slice A' l' c']) q := h.2.2.2.2
theorem PowR.three {w wr : World} {g : Nat} {a0 a1 a2 : Value} {x : Bool} {A : Option Addr} {l c : Nat} {A' : Option Addr} {l' c' : Nat} {q : Rat} (h : PowR w wr g a0 a1 a2 x A l c A' l' c' q) : wr.cell? ⟨g, 0, none⟩ = some (.bool x) ∧ wr.cell? ⟨g, 1, none⟩ = some (.slice A l c) ∧ wr.cell? ⟨g, 2, none⟩ = some (.slice A' l' c') := h.2.2.2.1.cells
theorem PowR.put {w wr : World} {g : Nat} {a0 a1 a2 : Value} {x : Bool} {A : Option Addr} {l c : Nat} {A' : Option Addr} {l' c' : Nat} {q : Rat} (h : PowR w wr g a0 a1 a2 x A l c A' l' c' q) (u v z : Value) : (put3 wr (w.heap.size + 1) u v z).cell? ⟨g, 0, none⟩ = some (.bool x) ∧ (put3 wr (w.heap.size + 1) u v z).cell? ⟨g, 1, none⟩ = some (.slice A l c) ∧ (put3 wr (w.heap.size + 1) u v z).cell? ⟨g, 2, none⟩ = some (.slice A' l' c') :=
  (h.2.2.2.1.put3_other (by have := h.2.1; omega)).cells

set_option maxRecDepth 100000 in
set_option maxHeartbeats 6400000 in
theorem rraise_any (v1 : Value) (a : Rat) (n : Int) (hn : n.natAbs ≤ 12) (w : World) (h1 : Qr w v1 a) (hs : sz a ≤ 100) :
    Calls Tryz.prog 134 #[v1, .int .i64 n] w (GiveQ w (a ^ n)) := by
  have H1 := h1
  obtain ⟨A1, c1, A2, c2, d0, rfl, _, _, _⟩ := h1
  have k0 := Lib.hid (K2.start w (.bool (ngt a)) (.slice A1 (nd (top a)) c1) (.slice A2 (nd d0) c2) (.bool false) (.slice none 0 0) (.slice none 0 0) 51)
  have MU := fun w' v k (hb : Below w.heap.size w w') (h : Qr w' v (a ^ k)) (hk : k ≤ 12) => rprod_any v _ (a ^ k) a w' h (H1.up hb) (by have := sz_npow hs k; omega)
  have DV := fun w' v v' k (h : Qr w' v 1) (h' : Qr w' v' (a ^ k)) (hk : k ≤ 12) => rquot_any v v' 1 (a ^ k) w' h h' (by have := sz_npow hs k; rw [sz_one]; omega)
  obtain ⟨m, hm⟩ : ∃ m, n.natAbs = m := ⟨_, rfl⟩
  rw [hm] at hn
  have P0 : ∃ p, a ^ 0 = p := ⟨_, rfl⟩
  obtain ⟨p, hp⟩ := P0
  have I1 := fun w' => rintq_any 1 (by decide) (by decide) w'
  rw [show ((1 : Int) : Rat) = p by rw [← hp, Rat.pow_zero]; rfl] at I1
  rw [show (1 : Rat) = p by rw [← hp, Rat.pow_zero]] at DV
  clear hs H1
  generalize hl1 : nd (top a) = l1 at *
  generalize hl2 : nd d0 = l2 at *
  generalize hx1 : ngt a = x1 at *
  have HP := Lib.hid hp
  clear hp hl1 hl2 hx1
  rcases (show n = (m : Int) ∨ (n = -(m : Int) ∧ m ≠ 0) by omega) with e | ⟨e, m0⟩
  · have hz : a ^ n = a ^ m := by rw [e, Rat.zpow_natCast]
    rw [hz]
    subst e
    have i1 : ¬ (m : Int) < 0 := by omega
    have i2 : -(m : Int) ≤ (m : Int) := by omega
    have i3 : max (m : Int) (-(m : Int)) = (m : Int) := by omega
    have i4 : (m : Int) ≤ 12 := by omega
    clear hm hz DV
    go_enter Tryz.func134, Tryz.ntmps134
    go_wp2_with (go_at_call 91; go_loud ((refine (I1 _).mono ?_); rintro e w1 ⟨v, rfl, ⟨A3, c3, A4, c4, dd, rfl, n3, n4, hd⟩, hb⟩; have k1 := Lib.hid (PowR.start (k0.out.up hb) (show Qr w1 _ p from ⟨A3, c3, A4, c4, dd, rfl, n3, n4, hd⟩)); clear n3 n4 hd hb))
    go_loopw [11] (fun i wr => ∃ (k : Nat) (x : Bool) (A : Option Addr) (l c : Nat) (A' : Option Addr) (l' c' : Nat), k ≤ m ∧ i = .int .i64 (k : Int) ∧ Hid (PowR w wr w1.heap.size (.bool x1) (.slice A1 l1 c1) (.slice A2 l2 c2) x A l c A' l' c' (a ^ k))) (fun i _ => (m - intOf i).toNat)
    case atStart => exact ⟨0, _, _, _, _, _, _, _, Nat.zero_le _, rfl, by rw [HP.out]; exact k1⟩
    case round =>
      obtain ⟨k, x, A, l, c, A', l', c', hk, rfl, hS⟩ := hrel
      clear k1
      obtain ⟨d0, d1, d2⟩ := hS.out.three
      obtain ⟨f0, f1, f2⟩ := hS.out.2.2.2.1.frozen
      obtain ⟨b0, b1, b2⟩ := hS.out.1.1.cells
      obtain ⟨q0, q1, q2⟩ := hS.out.1.2.1.cells
      obtain ⟨g0, g1, g2⟩ := hS.out.1.2.1.frozen
      by_cases hkm : (k : Int) < (m : Int)
      · have M := MU wr _ k hS.out.1.2.2.2 hS.out.2.2.2.2 (by omega)
        rw [← Rat.pow_succ] at M
        obtain ⟨q', hq'⟩ : ∃ q, a ^ (k + 1) = q := ⟨_, rfl⟩
        rw [hq'] at M
        have HQ := Lib.hid hq'
        clear hq' MU
        generalize a ^ k = q at *
        go_wp2_with (go_at_call 56; go_loud ((with_reducible refine M.mono ?_); rintro e w2 ⟨v, rfl, ⟨A7, c7, A8, c8, dd, rfl, n7, n8, hd⟩, hb⟩; have k2 := Lib.hid (hS.out.up hb); have K3 := Lib.hid (k2.out.stored (show Qr w2 _ q' from ⟨A7, c7, A8, c8, dd, rfl, n7, n8, hd⟩)); obtain ⟨f0, f1, f2⟩ := k2.out.2.2.2.1.frozen; obtain ⟨d0, d1, d2⟩ := k2.out.three; clear n7 n8 hd hb))
        go_roundw
        case rel => exact ⟨k + 1, _, _, _, _, _, _, _, by omega, rfl, by rw [HQ.out]; exact K3⟩
        case measure => simp only [intOf]; omega
      · obtain rfl : k = m := by omega
        clear MU
        generalize a ^ k = q at *
        go_wp2
        refine bodyPost_ret (v := .agg #[.bool x, .slice A l c, .slice A' l' c']) (by simp [results, Tryz.results134, go_sem, q0, q1, q2]) rfl ?_
        exact hS.out.1.giveQ hS.out.2.2.2.2
  · have hz : a ^ n = (a ^ m)⁻¹ := by rw [e, Rat.zpow_neg, Rat.zpow_natCast]
    rw [hz]
    subst e
    have i1 : -(m : Int) < 0 := by omega
    have i2 : -(m : Int) ≤ (m : Int) := by omega
    have i3 : max (-(m : Int)) (m : Int) = (m : Int) := by omega
    have i4 : (m : Int) ≤ 12 := by omega
    clear hm hz
    go_enter Tryz.func134, Tryz.ntmps134
    go_wp2_with (go_at_call 91; go_loud ((refine (I1 _).mono ?_); rintro e w1 ⟨v, rfl, ⟨A3, c3, A4, c4, dd, rfl, n3, n4, hd⟩, hb⟩; have k1 := Lib.hid (PowR.start (k0.out.up hb) (show Qr w1 _ p from ⟨A3, c3, A4, c4, dd, rfl, n3, n4, hd⟩)); clear n3 n4 hd hb))
    go_loopw [11] (fun i wr => ∃ (k : Nat) (x : Bool) (A : Option Addr) (l c : Nat) (A' : Option Addr) (l' c' : Nat), k ≤ m ∧ i = .int .i64 (k : Int) ∧ Hid (PowR w wr w1.heap.size (.bool x1) (.slice A1 l1 c1) (.slice A2 l2 c2) x A l c A' l' c' (a ^ k))) (fun i _ => (m - intOf i).toNat)
    case atStart => exact ⟨0, _, _, _, _, _, _, _, Nat.zero_le _, rfl, by rw [HP.out]; exact k1⟩
    case round =>
      obtain ⟨k, x, A, l, c, A', l', c', hk, rfl, hS⟩ := hrel
      clear k1
      obtain ⟨d0, d1, d2⟩ := hS.out.three
      obtain ⟨f0, f1, f2⟩ := hS.out.2.2.2.1.frozen
      obtain ⟨b0, b1, b2⟩ := hS.out.1.1.cells
      obtain ⟨q0, q1, q2⟩ := hS.out.1.2.1.cells
      obtain ⟨g0, g1, g2⟩ := hS.out.1.2.1.frozen
      by_cases hkm : (k : Int) < (m : Int)
      · have M := MU wr _ k hS.out.1.2.2.2 hS.out.2.2.2.2 (by omega)
        rw [← Rat.pow_succ] at M
        obtain ⟨q', hq'⟩ : ∃ q, a ^ (k + 1) = q := ⟨_, rfl⟩
        rw [hq'] at M
        have HQ := Lib.hid hq'
        clear hq' MU DV
        generalize a ^ k = q at *
        go_wp2_with (go_at_call 56; go_loud ((with_reducible refine M.mono ?_); rintro e w2 ⟨v, rfl, ⟨A7, c7, A8, c8, dd, rfl, n7, n8, hd⟩, hb⟩; have k2 := Lib.hid (hS.out.up hb); have K3 := Lib.hid (k2.out.stored (show Qr w2 _ q' from ⟨A7, c7, A8, c8, dd, rfl, n7, n8, hd⟩)); obtain ⟨f0, f1, f2⟩ := k2.out.2.2.2.1.frozen; obtain ⟨d0, d1, d2⟩ := k2.out.three; clear n7 n8 hd hb))
        go_roundw
        case rel => exact ⟨k + 1, _, _, _, _, _, _, _, by omega, rfl, by rw [HQ.out]; exact K3⟩
        case measure => simp only [intOf]; omega
      · obtain rfl : k = m := by omega
        clear MU
        have DV := fun w' v v' h h' => DV w' v v' k h h' hn
        generalize a ^ k = q at *
        have hI : p / q = q⁻¹ := by rw [← HP.out, Rat.pow_zero, Rat.div_def, Rat.one_mul]
        rw [hI] at DV
        generalize q⁻¹ = y at *
        have kd := Lib.hid (hS.out.up (Below.drew (Below.refl _ _)))
        clear f0 f1 f2 b0 b1 b2 q0 q1 q2 g0 g1 g2
        go_wp2_with fail
        go_region_held3 (fun w' => w'.cell? ⟨w1.heap.size, 0, none⟩ = some (.bool x) ∧ w'.cell? ⟨w1.heap.size, 1, none⟩ = some (.slice A l c) ∧ w'.cell? ⟨w1.heap.size, 2, none⟩ = some (.slice A' l' c'))
          (first | (exact k3.out.put _ _ _) | (with_reducible exact k3.out.three) | (with_reducible exact k2.out.three) | (with_reducible exact kd.out.three) | go_keep)
          (first
            | (go_at_call 54; go_loud ((with_reducible refine (DV _ _ _ N2.out k2.out.q).mono ?_); rintro e w3 ⟨v, rfl, ⟨A7, c7, A8, c8, dd, rfl, n7, n8, hd⟩, hb⟩; have k3 := Lib.hid (k2.out.up hb); have NQ := Lib.hid (show Qr w3 _ y from ⟨A7, c7, A8, c8, dd, rfl, n7, n8, hd⟩); obtain ⟨d0, d1, d2⟩ := k3.out.three; obtain ⟨q0, q1, q2⟩ := k3.out.1.2.1.cells; obtain ⟨g0, g1, g2⟩ := k3.out.1.2.1.frozen; clear n7 n8 hd hb))
            | (go_at_call 91; go_loud ((refine (I1 _).mono ?_); rintro e w2 ⟨v, rfl, n2, hb⟩; have N2 := Lib.hid n2; have k2 := Lib.hid (kd.out.up hb); obtain ⟨d0, d1, d2⟩ := k2.out.three; clear n2 hb)))
        go_wp2
        refine bodyPost_ret (v := .agg #[.bool (ngt y), .slice A7 (nd (top y)) c7, .slice A8 (nd dd) c8]) (by simp [results, Tryz.results134, go_sem, q0, q1, q2]) rfl ?_
        exact k3.out.1.giveQ NQ.out

end Go.Proofs.YtinoipjblkidfaaGreatDoor

/- Plain laws: sums of lists of numbers. -/
namespace Go.Proofs.YtinoipjblkidfaaGreatDoor
open Go.Proofs.YtinoipjblkidfaaGreatDoor.Dg Go.Proofs.YtinoipjblkidfaaGreatDoor.Q Go.Proofs.YtinoipjblkidfaaGreatDoor.Num

/-- The sum of a list. -/
def sumQ (l : List Rat) : Rat := l.foldr (· + ·) 0
theorem sumQ_nil : sumQ [] = 0 := rfl
theorem sumQ_cons (a : Rat) (l : List Rat) : sumQ (a :: l) = a + sumQ l := rfl
theorem sumQ_one (a : Rat) : sumQ [a] = a := by rw [sumQ_cons, sumQ_nil, Rat.add_zero]
theorem sumQ_append (l m : List Rat) : sumQ (l ++ m) = sumQ l + sumQ m := by
  induction l with
  | nil => rw [List.nil_append, sumQ_nil, Rat.zero_add]
  | cons a l ih => rw [List.cons_append, sumQ_cons, sumQ_cons, ih, Rat.add_assoc]
theorem sumQ_reverse (l : List Rat) : sumQ l.reverse = sumQ l := by
  induction l with
  | nil => rfl
  | cons a l ih => rw [List.reverse_cons, sumQ_append, sumQ_one, ih, sumQ_cons, Rat.add_comm]
theorem sumQ_halves (l : List Rat) (k : Nat) : sumQ (l.take k) + sumQ (l.drop k) = sumQ l := by
  rw [← sumQ_append, List.take_append_drop]
/-- The numbers among texts. -/
def nums (l : List (List UInt8)) : List Rat := l.filterMap num?
theorem nums_append (l m : List (List UInt8)) : nums (l ++ m) = nums l ++ nums m := List.filterMap_append
theorem nums_reverse (l : List (List UInt8)) : nums l.reverse = (nums l).reverse := List.filterMap_reverse
/-- The sum of the numbers among texts. -/
def sumT (l : List (List UInt8)) : Rat := sumQ (nums l)
theorem sumT_append (l m : List (List UInt8)) : sumT (l ++ m) = sumT l + sumT m := by unfold sumT; rw [nums_append, sumQ_append]
theorem sumT_turned (l : List (List UInt8)) (k : Nat) : sumT ((l.drop k).reverse ++ l.take k) = sumT l := by
  rw [sumT_append, show sumT (l.drop k).reverse = sumT (l.drop k) from by unfold sumT; rw [nums_reverse, sumQ_reverse], Rat.add_comm, ← sumT_append, List.take_append_drop]
theorem nums_snoc_some {l : List (List UInt8)} {x : List UInt8} {q : Rat} (h : num? x = some q) : nums (l ++ [x]) = nums l ++ [q] := by rw [nums_append]; simp [nums, h]
theorem nums_snoc_none {l : List (List UInt8)} {x : List UInt8} (h : num? x = none) : nums (l ++ [x]) = nums l := by rw [nums_append]; simp [nums, h]
theorem nums_len (l : List (List UInt8)) : (nums l).length ≤ l.length := List.length_filterMap_le _ _
end Go.Proofs.YtinoipjblkidfaaGreatDoor

/- Rows that an append grows, with what all their cells are. -/
namespace Go.Proofs.YtinoipjblkidfaaGreatDoor
open Go.RowKit Go.Proofs.YtinoipjblkidfaaGreatDoor.Dg Go.Proofs.YtinoipjblkidfaaGreatDoor.Q

/-- All cells of the block of an owned row are so. -/
def rowP (w : World) (v : Value) (p : Value → Bool) : Prop := ∀ g cur t fz, v.ownBlock = some g → w.heap[g]? = some (.cells cur t fz) → cur.all p = true
theorem rowP_nil (w : World) (p : Value → Bool) : rowP w (.slice none 0 0) p := fun g cur t fz h => by cases h
theorem rowP.up {w w' : World} {v : Value} {p : Value → Bool} (h : rowP w v p) (hb : Below w.heap.size w w') (hg : ∀ g, v.ownBlock = some g → g < w.heap.size) : rowP w' v p :=
  fun g cur t fz e k => h g cur t fz e ((hb.block g (hg g e)).symm.trans k)
theorem rowP_new (w : World) (C : Array Value) (e : TypeId) (n c : Nat) {p : Value → Bool} (hC : C.all p = true) : rowP (w.alloc (.cells C e)) (.slice (some ⟨w.heap.size, 0, none⟩) n c) p := by
  intro g cur t fz h k
  have h' : w.heap.size = g := by simpa [Value.ownBlock] using h
  subst h'
  rw [Deep.blk_alloc_new w (.cells C e)] at k
  injection k with k
  injection k with k1 k2 k3
  subst k1
  exact hC
theorem zero_all {z : Array Value} {p : Value → Bool} (h : z.all p = true) (n : Nat) : (Builtin.zeroCells z n).all p = true := by
  rw [Array.all_eq_true_iff_forall_mem] at *
  intro x hx
  unfold Builtin.zeroCells at hx
  rw [Array.mem_map] at hx
  obtain ⟨i, hi, rfl⟩ := hx
  rw [Array.mem_range] at hi
  have hz : 0 < z.size := by
    rcases Nat.eq_zero_or_pos z.size with e | e
    · rw [e, Nat.mul_zero] at hi; omega
    · exact e
  have hlt := Nat.mod_lt i hz
  rw [getElem!_pos z (i % z.size) hlt]
  exact h _ (Array.getElem_mem hlt)

section
variable {P : Program} (w : World)
theorem run_append_own_p (base : Nat) (t ty e : TypeId) (i : TypeInfo) (z : Value) (size bytes : Nat) (ht : P.underlying t = some (.slice e)) (hi : P.info? e = some i) (hz : i.zero = some z)
    (hsize : i.size = size) (hby : i.bytes = bytes) (hzs : z.cells.size = size) (hsz : 0 < size)
    (v : Value) (n : Nat) (xs : List Value) (hown : w.ownsRow base e size v n xs)
    (a : Addr) (c : Nat) (news : List Value) (hl : news.length = size) (hnews : ∀ j u, news[j]? = some u → w.cell? (a.add j) = some u) (h1 : ∀ u ∈ news, u.oneCell' = true)
    (h63 : n + 1 ≤ maxLen) (hbytes : (n + 1) * bytes ≤ 140737488355328) (hbase : base ≤ w.heap.size) (p : Value → Bool) (hr : rowP w v p) (hzp : z.cells.all p = true) (hnp : ∀ u ∈ news, p u = true) :
    ∃ v' w', (Builtin.append_ #[t, t] ty #[v, .slice (some a) 1 c]).run P w = .ok v' w' ∧ w'.ownsRow base e size v' (n + 1) (xs ++ news) ∧ w.grownBy w' v.ownBlock ∧ rowP w' v' p := by
  have hl' : news.length = 1 * size := by rw [hl, Nat.one_mul]
  obtain ⟨v', w', hrun, h2, h3, _, _⟩ := run_append_own_at w base t ty e i z size bytes ht hi hz hsize hby hzs hsz v n xs hown a 1 c news hl' hnews h1 h63 hbytes hbase
  refine ⟨v', w', hrun, h2, h3, ?_⟩
  subst hsize
  subst hby
  have hsmall : n + 1 ≤ 9223372036854775807 := by simp only [maxLen] at h63; omega
  have hN : news.toArray.all p = true := by rw [List.all_toArray, List.all_eq_true]; exact hnp
  rcases hown.2 with ⟨rfl, rfl⟩ | ⟨g, cap, cur, rfl, hbg, hg, hnc, hcm, hcs, htake⟩
  · have hx := run_append_nil (P := P) w t ty e i z ht hi hz a 1 c news hl' hnews (by omega) (by omega) (by have hb := hbytes; simp only [Nat.zero_add] at hb; omega)
    rw [hx] at hrun
    injection hrun with e1 e2
    subst e1 e2
    exact rowP_new w.drew _ e _ _ (by rw [Array.all_append, hN, zero_all hzp, Bool.and_true])
  · have hcur := hr g cur e (0, 0) rfl hg
    have hmem : ∀ u ∈ cur.toList, p u = true := fun u hu => (Array.all_eq_true_iff_forall_mem.1 hcur) u (Array.mem_def.2 hu)
    by_cases hroom : n + 1 ≤ cap
    · have hfit : n * i.size + news.length ≤ cur.size := by rw [hl', hcs, ← Nat.add_mul]; exact Nat.mul_le_mul_right _ hroom
      have hx := run_append_room (P := P) w t ty e i ht hi g n cap cur hg a 1 c news hl' hnews h1 hroom hfit
      rw [hx] at hrun
      injection hrun with e1 e2
      subst e1 e2
      intro g' cur' t' fz' h k
      have h' : g = g' := by simpa [Value.ownBlock] using h
      subst h'
      rw [setRow_heap w g cur _ e _ hg] at k
      injection k with k
      injection k with k1 k2 k3
      subst k1
      rw [List.all_toArray, List.all_eq_true]
      intro u hu
      rcases List.mem_append.1 hu with hu | hu
      · rcases List.mem_append.1 hu with hu | hu
        · exact hmem u (List.mem_of_mem_take hu)
        · exact hnp u hu
      · exact hmem u (List.mem_of_mem_drop hu)
    · have holds : ∀ j u, xs[j]? = some u → w.cell? ((⟨g, 0, none⟩ : Addr).add j) = some u := hown.cells (g := g) rfl
      have hx := run_append_grow (P := P) w t ty e i z ht hi hz ⟨g, 0, none⟩ n cap xs hown.1 holds a 1 c news hl' hnews (by omega) (by omega) (growslice_fits (by omega) hbytes)
      rw [hx] at hrun
      injection hrun with e1 e2
      subst e1 e2
      refine rowP_new w.drew _ e _ _ ?_
      rw [Array.all_append, Array.all_append, hN, zero_all hzp, Bool.and_true, Bool.and_true, List.all_toArray, List.all_eq_true]
      intro u hu
      rw [← htake] at hu
      exact hmem u (List.mem_of_mem_take hu)
theorem wpList_append_own_p {ops : Array Oper} {rest : List Oper} {o : Oper} {a : Act} {Q : Exit → Act → World → Prop} (hgd : o.guard = none) (s x : Operand) (t : TypeId)
    (ho : o.op = .call { callee := .builtin .append, args := #[s, x], argTypes := #[t, t] })
    (base : Nat) (e : TypeId) (i : TypeInfo) (z : Value) (size bytes : Nat) (ht : P.underlying t = some (.slice e)) (hi : P.info? e = some i) (hz : i.zero = some z)
    (hsize : i.size = size) (hby : i.bytes = bytes) (hzs : z.cells.size = size) (hsz : 0 < size)
    (v : Value) (n : Nat) (xs : List Value) (hs : a.eval s = v) (hown : w.ownsRow base e size v n xs)
    (ad : Addr) (c : Nat) (news : List Value) (hx : a.eval x = .slice (some ad) 1 c) (hl : news.length = size) (hnews : ∀ j u, news[j]? = some u → w.cell? (ad.add j) = some u) (h1 : ∀ u ∈ news, u.oneCell' = true)
    (h63 : n + 1 ≤ maxLen) (hbytes : (n + 1) * bytes ≤ 140737488355328) (hbase : base ≤ w.heap.size) (p : Value → Bool) (hr : rowP w v p) (hzp : z.cells.all p = true) (hnp : ∀ u ∈ news, p u = true)
    (h : ∀ v' w', w'.ownsRow base e size v' (n + 1) (xs ++ news) → w.grownBy w' v.ownBlock → rowP w' v' p → wpList P ops Q rest (a.put o.dst v') w') :
    wpList P ops Q (o :: rest) a w := by
  refine wpList_plain hgd fun K hK => ?_
  obtain ⟨v', w', hrun, h2, h3, h4⟩ := run_append_own_p (P := P) w base t o.type e i z size bytes ht hi hz hsize hby hzs hsz v n xs hown ad c news hl hnews h1 h63 hbytes hbase p hr hzp hnp
  unfold Oper.wp execOp
  simp only [ho, resolve, invoke, builtin, Sem.run_bind, Sem.run_pure, Result.andThen_ok, List.map_toArray, List.map_cons, List.map_nil, hs, hx, hrun]
  exact hK _ _ (h v' w' h2 h3 h4)
end
end Go.Proofs.YtinoipjblkidfaaGreatDoor

/- Slices of values and of fractions: what a slice reads as. -/
namespace Go.Proofs.YtinoipjblkidfaaGreatDoor
open Go.RowKit Go.Proofs.YtinoipjblkidfaaGreatDoor.Dg Go.Proofs.YtinoipjblkidfaaGreatDoor.Q Go.Proofs.YtinoipjblkidfaaGreatDoor.Num

theorem addr_add_none (b off k : Nat) : (⟨b, off, none⟩ : Addr).add k = ⟨b, off + k, none⟩ := by
  unfold Addr.add
  by_cases h : k = 0 <;> simp [h]
/-- The slice value '.slice A n c' of elements of m cells reads as the list of cells xs; its cells lie below block B. -/
def Vw (w : World) (B : Nat) (A : Option Addr) (n c m : Nat) (xs : List Value) : Prop :=
  xs.length = n * m ∧ n ≤ c ∧ (A = none → c = 0) ∧ (0 < n → ∃ b off, A = some ⟨b, off, none⟩ ∧ b < B ∧ ∀ j u, xs[j]? = some u → w.cell? ⟨b, off + j, none⟩ = some u)
theorem Vw.keep {w w' : World} {B n c m : Nat} {A : Option Addr} {xs : List Value} (h : Vw w B A n c m xs) (hb : Below B w w') : Vw w' B A n c m xs :=
  ⟨h.1, h.2.1, h.2.2.1, fun hn => by
    obtain ⟨b, off, e, hlt, hc⟩ := h.2.2.2 hn
    exact ⟨b, off, e, hlt, fun j u hu => (hb.cell hlt).trans (hc j u hu)⟩⟩
theorem Vw.up {w w' : World} {n c m : Nat} {A : Option Addr} {xs : List Value} (h : Vw w w.heap.size A n c m xs) (hb : Below w.heap.size w w') : Vw w' w'.heap.size A n c m xs := by
  obtain ⟨h1, h2, h3, h4⟩ := h.keep hb
  exact ⟨h1, h2, h3, fun hn => by obtain ⟨b, off, e, hlt, hc⟩ := h4 hn; exact ⟨b, off, e, Nat.lt_of_lt_of_le hlt hb.size, hc⟩⟩
theorem Vw.own {w : World} {base n m : Nat} {e : TypeId} {v : Value} {xs : List Value} (h : w.ownsRow base e m v n xs) : ∃ A c, v = .slice A n c ∧ Vw w w.heap.size A n c m xs := by
  have hcells := fun g => h.cells (g := g)
  rcases h.2 with ⟨hv, hn⟩ | ⟨g, cap, cur, hv, hb, hg, hcap, _⟩
  · subst hn
    exact ⟨none, 0, hv, h.1, Nat.le_refl _, fun _ => rfl, fun h => absurd h (by omega)⟩
  · refine ⟨some ⟨g, 0, none⟩, cap, hv, h.1, hcap, (fun h => by cases h), fun _ => ⟨g, 0, rfl, (Array.getElem?_eq_some_iff.1 hg).1, fun j u hu => ?_⟩⟩
    have := hcells g (by rw [hv]; rfl) j u hu
    rwa [addr_add_none] at this
theorem Vw.take {w : World} {B n c m : Nat} {A : Option Addr} {xs : List Value} (h : Vw w B A n c m xs) {p : Nat} (hp : p ≤ n) : Vw w B A p c m (xs.take (p * m)) :=
  ⟨by rw [List.length_take, h.1]; exact Nat.min_eq_left (Nat.mul_le_mul_right _ hp), by have := h.2.1; omega, h.2.2.1, fun hn => by
    obtain ⟨b, off, e, hlt, hc⟩ := h.2.2.2 (by omega)
    refine ⟨b, off, e, hlt, fun j u hu => hc j u ?_⟩
    rw [List.getElem?_take] at hu
    split at hu
    · exact hu
    · cases hu⟩
theorem Vw.cut {w : World} {B n c m : Nat} {A : Option Addr} {xs : List Value} (h : Vw w B A n c m xs) {p : Nat} (hp : p ≤ n) : Vw w B (if c = p then A else A.map (·.add (p * m))) (n - p) (c - p) m (xs.drop (p * m)) := by
  refine ⟨by rw [List.length_drop, h.1, Nat.sub_mul], by have := h.2.1; omega, fun hA => ?_, fun hn => ?_⟩
  · split at hA
    · omega
    · have := h.2.2.1 (by simpa using hA); omega
  · obtain ⟨b, off, rfl, hlt, hc⟩ := h.2.2.2 (by omega)
    have := h.2.1
    rw [if_neg (by omega)]
    refine ⟨b, off + p * m, by rw [Option.map_some, addr_add_none], hlt, fun j u hu => ?_⟩
    rw [Nat.add_assoc]
    exact hc _ u (by rw [← hu, List.getElem?_drop])
/-- Cells that read as fractions of the program. -/
def FL (w : World) : List Value → List Rat → Prop
  | [], [] => True
  | a :: b :: c :: xs, q :: qs => Fr w (.agg #[a, b, c]) q ∧ FL w xs qs
  | _, _ => False
theorem FL.up {w w' : World} (hb : Below w.heap.size w w') : ∀ {xs : List Value} {qs : List Rat}, FL w xs qs → FL w' xs qs
  | [], [], _ => trivial
  | _ :: _ :: _ :: _, _ :: _, h => ⟨h.1.up hb, FL.up hb h.2⟩
  | [], _ :: _, h => h.elim
  | [_], [], h => h.elim
  | [_], _ :: _, h => h.elim
  | [_, _], [], h => h.elim
  | [_, _], _ :: _, h => h.elim
  | _ :: _ :: _ :: _, [], h => h.elim
theorem FL.snoc {w : World} {a b c : Value} {q : Rat} (hq : Fr w (.agg #[a, b, c]) q) : ∀ {xs : List Value} {qs : List Rat}, FL w xs qs → FL w (xs ++ [a, b, c]) (qs ++ [q])
  | [], [], _ => ⟨hq, trivial⟩
  | _ :: _ :: _ :: _, _ :: _, h => ⟨h.1, FL.snoc hq h.2⟩
  | [], _ :: _, h => h.elim
  | [_], [], h => h.elim
  | [_], _ :: _, h => h.elim
  | [_, _], [], h => h.elim
  | [_, _], _ :: _, h => h.elim
  | _ :: _ :: _ :: _, [], h => h.elim
theorem FL.parts {w : World} : ∀ (k : Nat) {xs : List Value} {qs : List Rat}, FL w xs qs → FL w (xs.take (k * 3)) (qs.take k) ∧ FL w (xs.drop (k * 3)) (qs.drop k)
  | 0, _, _, h => ⟨by simp [FL], by simpa using h⟩
  | k + 1, [], [], _ => ⟨by simp [FL], by simp [FL]⟩
  | k + 1, _ :: _ :: _ :: _, _ :: _, h => by
    have ih := FL.parts k h.2
    rw [show (k + 1) * 3 = k * 3 + 1 + 1 + 1 by omega]
    exact ⟨⟨h.1, ih.1⟩, ih.2⟩
  | _ + 1, [], _ :: _, h => h.elim
  | _ + 1, [_], [], h => h.elim
  | _ + 1, [_], _ :: _, h => h.elim
  | _ + 1, [_, _], [], h => h.elim
  | _ + 1, [_, _], _ :: _, h => h.elim
  | _ + 1, _ :: _ :: _ :: _, [], h => h.elim
theorem FL.no {w : World} {a : Value} : ∀ {l : List Value}, FL w (a :: l) [] → False
  | [], h => h
  | [_], h => h
  | _ :: _ :: _, h => h
theorem FL.one {w : World} : ∀ {xs : List Value} {q : Rat}, FL w xs [q] → ∃ a b c, xs = [a, b, c] ∧ Fr w (.agg #[a, b, c]) q
  | [a, b, c], _, h => ⟨a, b, c, rfl, h.1⟩
  | [], _, h => h.elim
  | [_], _, h => h.elim
  | [_, _], _, h => h.elim
  | _ :: _ :: _ :: _ :: _, _, h => (FL.no h.2).elim
theorem FL.len {w : World} : ∀ {xs : List Value} {qs : List Rat}, FL w xs qs → xs.length = qs.length * 3
  | [], [], _ => rfl
  | _ :: _ :: _ :: _, _ :: _, h => by
    have ih := FL.len h.2
    simp only [List.length_cons, ih, Nat.add_mul]
  | [], _ :: _, h => h.elim
  | [_], [], h => h.elim
  | [_], _ :: _, h => h.elim
  | [_, _], [], h => h.elim
  | [_, _], _ :: _, h => h.elim
  | _ :: _ :: _ :: _, [], h => h.elim
/-- A bound of a sum. -/
theorem sumQ_sz {B : Nat} : ∀ {l : List Rat}, (∀ q ∈ l, sz q ≤ B) → sz (sumQ l) ≤ l.length * (B + 1) + 1
  | [], _ => by
    have : sz (0 : Rat) ≤ 1 := by decide +kernel
    rw [sumQ_nil]
    simpa using this
  | a :: l, h => by
    have ih := sumQ_sz (l := l) (fun q hq => h q (List.mem_cons_of_mem _ hq))
    have h1 := h a (List.mem_cons_self ..)
    have := sz_add a (sumQ l)
    rw [sumQ_cons, List.length_cons, Nat.add_mul]
    omega
theorem nums_sz {l : List (List UInt8)} : ∀ q ∈ nums l, sz q ≤ 5 := by
  intro q hq
  obtain ⟨x, _, h⟩ := List.mem_filterMap.1 hq
  exact num_sz h
end Go.Proofs.YtinoipjblkidfaaGreatDoor

/- Sums of the program: ratio.Sum. -/
namespace Go.Proofs.YtinoipjblkidfaaGreatDoor
open Go.RowKit Go.Proofs.YtinoipjblkidfaaGreatDoor.Dg Go.Proofs.YtinoipjblkidfaaGreatDoor.Q Go.Proofs.YtinoipjblkidfaaGreatDoor.Num

/-- A result of three cells. -/
def KS0 (w w' : World) : Prop := Bk w' w.heap.size #[.bool false, .slice none 0 0, .slice none 0 0] 77 ∧ Below w.heap.size w w'
theorem KS0.up {w w1 w2 : World} (h : KS0 w w1) (hb : Below w1.heap.size w1 w2) : KS0 w w2 := ⟨h.1.up hb, btrans h.2 hb⟩
theorem KS0.b {w w1 : World} (h : KS0 w w1) : Below w.heap.size w w1 := h.2
theorem KS0.start (w : World) : KS0 w (w.alloc (.cells #[.bool false, .slice none 0 0, .slice none 0 0] 77)) := ⟨Bk.new w _ _, (Below.refl _ w).alloc (Nat.le_refl _) _⟩
theorem KS0.three {w w' : World} (h : KS0 w w') : w'.cell? ⟨w.heap.size, 0, none⟩ = some (.bool false) ∧ w'.cell? ⟨w.heap.size, 1, none⟩ = some (.slice none 0 0) ∧ w'.cell? ⟨w.heap.size, 2, none⟩ = some (.slice none 0 0) ∧ w'.frozen? ⟨w.heap.size, 0, none⟩ = false ∧ w'.frozen? ⟨w.heap.size, 1, none⟩ = false ∧ w'.frozen? ⟨w.heap.size, 2, none⟩ = false :=
  ⟨h.1.cell 0, h.1.cell 1, h.1.cell 2, h.1.frozen 0, h.1.frozen 1, h.1.frozen 2⟩
theorem KS0.give {w w' : World} (h : KS0 w w') {a b c : Value} {q : Rat} (hq : Fr w' (.agg #[a, b, c]) q) : GiveF w q (.returned (.agg #[a, b, c])) (((w'.setCell ⟨w.heap.size, 0, none⟩ a).setCell ⟨w.heap.size, 1, none⟩ b).setCell ⟨w.heap.size, 2, none⟩ c) :=
  ⟨_, rfl, hq.putL h.1 (by simp [notK]) 0 [a, b, c], putL_below (Nat.le_refl _) [a, b, c] 0 h.2⟩
theorem sum_half {l : List Rat} {h : Nat} : sumQ (l.take h) + sumQ (l.drop h) = sumQ l := sumQ_halves l h

set_option maxRecDepth 100000 in
set_option maxHeartbeats 6400000 in
theorem fsum_any : ∀ (N n c : Nat) (A : Option Addr) (xs : List Value) (qs : List Rat) (w : World), n ≤ N → Vw w w.heap.size A n c 3 xs → FL w xs qs → qs.length = n → n ≤ 60 → (∀ q ∈ qs, sz q ≤ 5) →
    Calls Tryz.prog 99 #[.slice A n c] w (GiveF w (sumQ qs)) := by
  intro N
  induction N with
  | zero =>
    intro n c A xs qs w hN hV hL hl hn hs
    obtain rfl : n = 0 := by omega
    obtain rfl : qs = [] := List.eq_nil_of_length_eq_zero hl
    have k0 := Lib.hid (KS0.start w)
    have I0 : ∀ w', Calls Tryz.prog 72 #[.int .i64 0] w' (GiveF w' (sumQ [])) := fun w' => fint_any 0 (by decide) w'
    clear hV hL hl hn hs hN
    go_enter Tryz.func99, Tryz.ntmps99
    go_wp2_with (go_at_call 72; go_loud ((refine (I0 _).mono ?_); rintro e w1 ⟨v, rfl, ⟨A1, d1, A2, d2, rfl, n1, n2⟩, hb⟩; have k1 := Lib.hid (k0.out.up hb); have F1 := Lib.hid (show Fr w1 _ (sumQ []) from ⟨A1, d1, A2, d2, rfl, n1, n2⟩); obtain ⟨z0, z1, z2, f0, f1, f2⟩ := k1.out.three; clear hb n1 n2))
    refine bodyPost_ret (v := .agg #[.bool (ngt (sumQ [])), .slice A1 (nd (top (sumQ []))) d1, .slice A2 (nd (sumQ []).den) d2]) (by simp [results, Tryz.results99, go_sem, z0, z1, z2]) rfl ?_
    exact k1.out.give F1.out
  | succ N ih =>
    intro n c A xs qs w hN hV hL hl hn hs
    rcases Nat.lt_or_ge n 2 with h2 | h2
    · rcases Nat.eq_zero_or_pos n with h0 | h0
      · exact ih n c A xs qs w (by omega) hV hL hl hn hs
      · obtain rfl : n = 1 := by omega
        obtain ⟨b, off, rfl, hlt, hc⟩ := hV.2.2.2 (by omega)
        obtain ⟨q, rfl⟩ : ∃ q, qs = [q] := List.length_eq_one_iff.1 hl
        obtain ⟨x0, x1, x2, rfl, hq⟩ := FL.one hL
        have c0 := hc 0 x0 rfl
        have c1 := hc 1 x1 rfl
        have c2 := hc 2 x2 rfl
        rw [Nat.add_zero] at c0
        have Q0 := Lib.hid (hq.up ((Below.refl w.heap.size w).alloc (Nat.le_refl _) (.cells #[x0, x1, x2] 77)))
        have hcap := hV.2.1
        rw [sumQ_one]
        obtain ⟨A1, d1, A2, d2, e, _, _⟩ := hq
        simp only [Value.agg.injEq, Array.mk.injEq, List.cons.injEq, and_true] at e
        obtain ⟨rfl, rfl, rfl⟩ := e
        clear hV hL hl hn hs hN ih hc h2 h0
        go_enter Tryz.func99, Tryz.ntmps99
        go_wp2
        refine bodyPost_ret (v := .agg #[.bool (ngt q), .slice A1 (nd (top q)) d1, .slice A2 (nd q.den) d2]) (by simp [results, Tryz.results99, go_sem]) rfl ?_
        exact ⟨_, rfl, Q0.out, (Below.refl _ w).alloc (Nat.le_refl _) _⟩
    · obtain ⟨b, off, rfl, hlt, hc⟩ := hV.2.2.2 (by omega)
      obtain ⟨h, hh⟩ : ∃ h, n / 2 = h := ⟨_, rfl⟩
      have h1 : h < n := by omega
      have h0 : 0 < h := by omega
      have hcap := hV.2.1
      obtain ⟨f1, f2⟩ := FL.parts h hL
      have IH1 := fun w' (hb : Below w.heap.size w w') => ih h c (some ⟨b, off, none⟩) _ (qs.take h) w' (by omega) ((hV.take (p := h) (by omega)).up hb) (f1.up hb) (by rw [List.length_take]; omega) (by omega) (fun q hq => hs q (List.mem_of_mem_take hq))
      have cut := hV.cut (p := h) (by omega)
      rw [if_neg (by omega), Option.map_some, addr_add_none] at cut
      have IH2 := fun w' (hb : Below w.heap.size w w') => ih (n - h) (c - h) (some ⟨b, off + h * 3, none⟩) _ (qs.drop h) w' (by omega) (cut.up hb) (f2.up hb) (by rw [List.length_drop]; omega) (by omega) (fun q hq => hs q (List.mem_of_mem_drop hq))
      have s1 := sumQ_sz (l := qs.take h) (B := 5) (fun q hq => hs q (List.mem_of_mem_take hq))
      have s2 := sumQ_sz (l := qs.drop h) (B := 5) (fun q hq => hs q (List.mem_of_mem_drop hq))
      rw [List.length_take] at s1
      rw [List.length_drop] at s2
      have AD := fun w' v v' (h1 : Fr w' v (sumQ (qs.take h))) (h2 : Fr w' v' (sumQ (qs.drop h))) => fadd_any v v' _ _ w' h1 h2 (by omega)
      rw [sumQ_halves] at AD
      have k0 := Lib.hid (KS0.start w)
      have kd := Lib.hid (k0.out.up (Below.drew (Below.refl _ _)))
      have hq2 : (n : Int).tdiv 2 = (h : Int) := by rw [← hh]; rfl
      have hb1 : (h : Int) ≤ (c : Int) := by omega
      have hb2 : (h : Int) ≤ (n : Int) := by omega
      have hb3 : (n : Int) ≤ (c : Int) := by omega
      have hb4 : ¬ (n : Int) = 0 := by omega
      have hb5 : ¬ (n : Int) = 1 := by omega
      have hb6 : ¬ c = h := by omega
      have hb7 : (n : Int) ≤ 60 := by omega
      generalize sumQ (qs.take h) = t1 at *
      generalize sumQ (qs.drop h) = t2 at *
      generalize sumQ qs = t3 at *
      clear hV hL hl hs hN ih hc f1 f2 cut s1 s2 hn
      go_enter Tryz.func99, Tryz.ntmps99
      go_wp2_with fail
      go_region_with (first
        | (go_at_call 94; go_loud ((with_reducible refine (AD _ _ _ FZ1.out FZ2.out).mono ?_); rintro e w9 ⟨v, rfl, ⟨A9, d9, A10, d10, rfl, n9, n10⟩, hb⟩; have k9 := Lib.hid (kz.out.up hb); have F9 := Lib.hid (show Fr w9 _ t3 from ⟨A9, d9, A10, d10, rfl, n9, n10⟩); obtain ⟨z0, z1, z2, g0, g1, g2⟩ := k9.out.three; clear hb n9 n10))
        | (go_at_call 99; ((with_reducible refine (IH2 _ k1.out.b).mono ?_); rintro e w2 ⟨v2, rfl, hF, hb⟩; have kz := Lib.hid (k1.out.up hb); have FZ1 := Lib.hid (F1.out.up hb); have FZ2 := Lib.hid hF; clear hF hb))
        | (go_at_call 99; ((with_reducible refine (IH1 _ k2.out.b).mono ?_); rintro e w2 ⟨v1, rfl, hF, hb⟩; have kz := Lib.hid (k2.out.up hb); have FZ2 := Lib.hid (F2.out.up hb); have FZ1 := Lib.hid hF; clear hF hb))
        | (go_at_call 99; ((with_reducible refine (IH1 _ kd.out.b).mono ?_); rintro e w1 ⟨v1, rfl, hF, hb⟩; have k1 := Lib.hid (kd.out.up hb); have F1 := Lib.hid hF; clear hF hb))
        | (go_at_call 99; go_loud ((with_reducible refine (IH2 _ kd.out.b).mono ?_); rintro e w1 ⟨v2, rfl, hF, hb⟩; have k2 := Lib.hid (kd.out.up hb); have F2 := Lib.hid hF; clear hF hb)))
      all_goals go_wp2
      all_goals refine bodyPost_ret (v := .agg #[.bool (ngt t3), .slice A9 (nd (top t3)) d9, .slice A10 (nd t3.den) d10]) (by simp [results, Tryz.results99, go_sem, z0, z1, z2]) rfl ?_
      all_goals exact k9.out.give F9.out

end Go.Proofs.YtinoipjblkidfaaGreatDoor

/- Sums of the program: Sum. -/
namespace Go.Proofs.YtinoipjblkidfaaGreatDoor
open Go.RowKit Go.Proofs.YtinoipjblkidfaaGreatDoor.Dg Go.Proofs.YtinoipjblkidfaaGreatDoor.Q Go.Proofs.YtinoipjblkidfaaGreatDoor.Num

theorem Tryz.infoFr : (Tryz.prog.info? 77).map (fun i => (i.zero, i.size, i.bytes)) = some (some (.agg #[.bool false, .slice none 0 0, .slice none 0 0]), 3, 56) := by kernel_rfl
/-- A row of fractions that a call makes. -/
def RowF (w wr : World) (v : Value) (qs : List Rat) : Prop := ∃ xs, wr.ownsRow w.heap.size 77 3 v qs.length xs ∧ rowP wr v (notK .u32) ∧ FL wr xs qs ∧ Below w.heap.size w wr
theorem RowF.b {w wr : World} {v : Value} {qs : List Rat} (h : RowF w wr v qs) : Below w.heap.size w wr := h.elim fun _ k => k.2.2.2
theorem RowF.up {w w1 w2 : World} {v : Value} {qs : List Rat} (h : RowF w w1 v qs) (hb : Below w1.heap.size w1 w2) : RowF w w2 v qs := by
  obtain ⟨xs, h1, h2, h3, h4⟩ := h
  exact ⟨xs, ownM_below h1 hb, h2.up hb (fun g hg => (h1.lt g hg).2), h3.up hb, btrans h4 hb⟩
theorem RowF.start (w : World) : RowF w w (.slice none 0 0) [] := ⟨[], World.ownsRow_nil _ _ _ _, rowP_nil _ _, trivial, Below.refl _ _⟩
theorem Fs.grown {k : IntKind} {w w' : World} {n c : Nat} {A : Option Addr} {o : Nat → Nat} {v : Value} (h : Fs k w w.heap.size A n c o) (hg : w.grownBy w' v.ownBlock) (hr : ∀ g, v.ownBlock = some g → ∃ cur t fz, w.heap[g]? = some (.cells cur t fz) ∧ cur.all (notK k) = true) : Fs k w' w'.heap.size A n c o :=
  ⟨h.1, h.2.1, fun hn => by
    obtain ⟨b, off, e, hlt, hc⟩ := h.2.2 hn
    refine ⟨b, off, e, Nat.lt_of_lt_of_le hlt hg.size, fun j hj => hg.cell (hc j hj) (fun e2 => ?_)⟩
    obtain ⟨cur, t, fz, e3, e4⟩ := hr b e2.symm
    have h5 := hc j hj
    simp only [World.cell?, e3] at h5
    have := Array.all_eq_true'.1 e4 _ (Array.mem_of_getElem? h5)
    simp [notK] at this⟩
theorem Fr.grown {w w' : World} {u v : Value} {q : Rat} (h : Fr w u q) (hg : w.grownBy w' v.ownBlock) (hr : ∀ g, v.ownBlock = some g → ∃ cur t fz, w.heap[g]? = some (.cells cur t fz) ∧ cur.all (notK .u32) = true) : Fr w' u q := by
  obtain ⟨A, c, A', c', e, h1, h2⟩ := h
  exact ⟨A, c, A', c', e, Fs.grown h1 hg hr, Fs.grown h2 hg hr⟩
theorem FL.grown {w w' : World} {v : Value} (hg : w.grownBy w' v.ownBlock) (hr : ∀ g, v.ownBlock = some g → ∃ cur t fz, w.heap[g]? = some (.cells cur t fz) ∧ cur.all (notK .u32) = true) : ∀ {xs : List Value} {qs : List Rat}, FL w xs qs → FL w' xs qs
  | [], [], _ => trivial
  | _ :: _ :: _ :: _, _ :: _, h => ⟨h.1.grown hg hr, FL.grown hg hr h.2⟩
  | [], _ :: _, h => h.elim
  | [_], [], h => h.elim
  | [_], _ :: _, h => h.elim
  | [_, _], [], h => h.elim
  | [_, _], _ :: _, h => h.elim
  | _ :: _ :: _ :: _, [], h => h.elim
theorem rowP.cur {w : World} {base m n : Nat} {e : TypeId} {v : Value} {xs : List Value} {p : Value → Bool} (h : w.ownsRow base e m v n xs) (hr : rowP w v p) : ∀ g, v.ownBlock = some g → ∃ cur t fz, w.heap[g]? = some (.cells cur t fz) ∧ cur.all p = true := by
  intro g hg
  rcases h.2 with ⟨rfl, _⟩ | ⟨g', cap, cur, rfl, _, e3, _⟩
  · cases hg
  · have : g' = g := by simpa [Value.ownBlock] using hg
    subst this
    exact ⟨cur, _, _, e3, hr g' cur _ _ rfl e3⟩
/-- A row that has grown by a fraction. -/
theorem RowF.grow {w w1 w2 : World} {v v2 a b c : Value} {qs : List Rat} {q : Rat} {xs : List Value} (h1 : w1.ownsRow w.heap.size 77 3 v qs.length xs) (h2 : rowP w1 v (notK .u32)) (h3 : FL w1 xs qs) (h4 : Below w.heap.size w w1) (hq : Fr w1 (.agg #[a, b, c]) q)
    (o2 : w2.ownsRow w.heap.size 77 3 v2 (qs.length + 1) (xs ++ [a, b, c])) (hg : w1.grownBy w2 v.ownBlock) (p2 : rowP w2 v2 (notK .u32)) : RowF w w2 v2 (qs ++ [q]) := by
  have hr := rowP.cur h1 h2
  exact ⟨xs ++ [a, b, c], by rw [List.length_append]; exact o2, p2, (h3.grown hg hr).snoc (hq.grown hg hr), grownM_below h1 h4 hg⟩
theorem cells3_new (w : World) (a b c : Value) (t : TypeId) (g : Nat) (hg : w.heap.size = g) : ∀ j u, [a, b, c][j]? = some u → (w.alloc (.cells #[a, b, c] t)).cell? ((⟨g, 0, none⟩ : Addr).add j) = some u := by
  subst hg
  intro j u hj
  rw [addr_add_none, Nat.zero_add, (Bk.new w #[a, b, c] t).cell j, ← hj, List.getElem?_toArray]

set_option maxRecDepth 100000 in
set_option maxHeartbeats 6400000 in
theorem qSum_any (n c : Nat) (A : Option Addr) (ls : List ByteArray) (w : World) (hw : Wf w) (hV : Vw w w.heap.size A n c 1 (ls.map Value.string)) (hl : ls.length = n) (hn : n ≤ 60) (hs : ∀ S ∈ ls, S.size ≤ 9223372036854775807) :
    Calls Tryz.prog 36 #[.slice A n c] w fun e w' => e = .returned (.string ⟨(put (sumT (ls.map bl))).toArray⟩) ∧ Below w.heap.size w w' := by
  have hbn : (n : Int) ≤ 60 := by omega
  obtain ⟨i0, hi, hz0, hz1, hz2⟩ := info_parts Tryz.infoFr
  have HV := Lib.hid hV
  have HS := Lib.hid hs
  obtain ⟨s, hs0⟩ : ∃ s, sumT (ls.map bl) = s := ⟨_, rfl⟩
  rw [hs0]
  have HS0 := Lib.hid (show sumQ (nums (ls.map bl)) = s from hs0)
  clear hV hs hs0
  go_enter Tryz.func36, Tryz.ntmps36
  go_wp2
  go_loopw [3, 10] (fun v i wr => ∃ k : Nat, k ≤ n ∧ i = .int .i64 (k : Int) ∧ Hid (RowF w wr v (nums ((ls.map bl).take k)))) (fun _ i _ => (n - intOf i).toNat)
  case atStart => exact ⟨0, Nat.zero_le _, rfl, Lib.hid (RowF.start w)⟩
  case round =>
    obtain ⟨k, hk, rfl, hR⟩ := hrel
    by_cases hkn : (k : Int) < (n : Int)
    · obtain ⟨b, off, rfl, hlt, hc⟩ := HV.out.2.2.2 (by omega)
      have hkl : k < ls.length := by omega
      obtain ⟨T, hT⟩ : ∃ T, ls[k]? = some T := ⟨ls[k], List.getElem?_eq_getElem hkl⟩
      have hcell := hc k (.string T) (by rw [List.getElem?_map, hT]; rfl)
      have hcw := (hR.out.b.cell (p := ⟨b, off + k, none⟩) hlt).trans hcell
      have hkb : (0 : Int) ≤ (k : Int) := by omega
      have hTs := HS.out T (List.mem_of_getElem? hT)
      have RD := fun w' (hb : Below w.heap.size w w') => read_any T hTs w' (hw.up hb)
      have htk : (ls.map bl).take (k + 1) = (ls.map bl).take k ++ [bl T] := by rw [List.take_add_one, List.getElem?_map, hT]; rfl
      clear hc hcell hTs hT
      cases hq : num? (bl T) with
      | none =>
        rw [hq] at RD
        have hnx := nums_snoc_none (l := (ls.map bl).take k) hq
        rw [← htk] at hnx
        have HN := Lib.hid hnx
        clear hnx htk hq
        go_wp2_with (go_at_call 73; go_loud ((with_reducible refine (RD _ hR.out.b).mono ?_); rintro e w1 ⟨b1, A1, n1, d1, A2, n2, d2, rfl, hb, _⟩; have r1 := Lib.hid (hR.out.up hb); clear hb))
        go_roundw
        case rel => exact ⟨k + 1, by omega, by go_num, Lib.hid (by rw [HN.out]; exact r1.out.up ((Below.refl _ _).alloc (Nat.le_refl _) _))⟩
        case measure => simp only [intOf]; omega
      | some q =>
        rw [hq] at RD
        have hnx := nums_snoc_some (l := (ls.map bl).take k) hq
        rw [← htk] at hnx
        have HN := Lib.hid hnx
        have hlen := nums_len ((ls.map bl).take k)
        have hlen2 : (nums ((ls.map bl).take k)).length ≤ 60 := by rw [List.length_take] at hlen; omega
        clear hnx htk hq hlen
        generalize nums ((ls.map bl).take k) = qs at *
        have RD := fun w' hb => rdU q w' T (RD w' hb)
        go_wp2_with (first
          | (go_at_call 73; go_loud ((with_reducible refine (RD _ hR.out.b).mono ?_); rintro e w1 ⟨b1, A1, n1, d1, A2, n2, d2, rfl, hb, hF⟩; have r1 := Lib.hid ((hR.out.up hb).up ((Below.refl w1.heap.size w1).alloc (Nat.le_refl _) (.cells #[.bool b1, .slice A1 n1 d1, .slice A2 n2 d2] 77))); have S2 : (w1.alloc (.cells #[.bool b1, .slice A1 n1 d1, .slice A2 n2 d2] 77)).heap.size = w1.heap.size + 1 := (by simp); have F1 := Lib.hid ((hF.up ((Below.refl w1.heap.size w1).alloc (Nat.le_refl _) (.cells #[.bool b1, .slice A1 n1 d1, .slice A2 n2 d2] 77)))); clear hb hF))
          | (at_builtin; go_loud (obtain ⟨xs, q1, q2, q3, q4⟩ := r1.out; refine wpList_append_own_p _ rfl (.tmp 20) (.tmp 22) _ rfl w.heap.size 77 i0 (.agg #[.bool false, .slice none 0 0, .slice none 0 0]) 3 56 Tryz.underlying113 hi hz0 hz1 hz2 rfl (by decide) _ _ _ rfl (ownM_below q1 ((Below.refl _ _).alloc (Nat.le_refl _) _)) ⟨w1.heap.size + 1, 0, none⟩ 1 [.bool b1, .slice A1 n1 d1, .slice A2 n2 d2] rfl rfl (cells3_new _ _ _ _ _ _ S2) (by simp [Value.oneCell']) (by unfold maxLen; omega) (by omega) (below_alloc q4 _).size (notK .u32) (q2.up ((Below.refl _ _).alloc (Nat.le_refl _) _) (fun g hg => (q1.lt g hg).2)) (by simp [notK, Value.cells]) (by simp [notK]) ?_; intro v2 w2 a2 a3 a4; have ra := Lib.hid (RowF.grow (ownM_below q1 ((Below.refl _ _).alloc (Nat.le_refl _) (.cells #[.bool b1, .slice A1 n1 d1, .slice A2 n2 d2] 77))) (q2.up ((Below.refl _ _).alloc (Nat.le_refl _) _) (fun g hg => (q1.lt g hg).2)) (q3.up ((Below.refl _ _).alloc (Nat.le_refl _) _)) (below_alloc q4 _) (F1.out.up ((Below.refl _ _).alloc (Nat.le_refl _) _)) a2 a3 a4))))
        go_roundw
        case rel => exact ⟨k + 1, by omega, by go_num, Lib.hid (by rw [HN.out]; exact ra.out)⟩
        case measure => simp only [intOf]; omega
    · obtain rfl : k = n := by omega
      have he : (ls.map bl).take k = ls.map bl := List.take_of_length_le (by rw [List.length_map]; omega)
      rw [he] at hR
      have hlen := nums_len (ls.map bl)
      rw [List.length_map, hl] at hlen
      have hnz : ∀ q ∈ nums (ls.map bl), sz q ≤ 5 := nums_sz
      have hz := sumQ_sz hnz
      obtain ⟨xs, q1, q2, q3, q4⟩ := hR.out
      obtain ⟨A9, c9, rfl, hVw⟩ := Vw.own q1
      have SU := fsum_any 60 _ c9 A9 xs (nums (ls.map bl)) wr (by omega) hVw q3 rfl (by omega) hnz
      have VL := fun w' v (hb : Below w.heap.size w w') (h : Fr w' v (sumQ (nums (ls.map bl)))) => fvalue_any v _ w' (hw.up hb) h (by omega)
      have B4 := Lib.hid q4
      rw [HS0.out] at SU VL
      clear HS0
      generalize (nums (ls.map bl)).length = m at *
      clear hR q1 q2 q3 q4 hVw hlen hnz hz he
      go_wp2_with (first
        | (go_at_call 76; go_loud ((with_reducible refine (VL _ _ b5.out F5.out).mono ?_); rintro e w6 ⟨rfl, hb⟩; have b6 := Lib.hid (btrans b5.out hb); clear hb))
        | (go_at_call 99; go_loud ((with_reducible refine SU.mono ?_); rintro e w5 ⟨v, rfl, hF, hb⟩; have b5 := Lib.hid (btrans B4.out hb); have F5 := Lib.hid hF; clear hF hb)))
      go_ret
      exact ⟨rfl, b6.out⟩

end Go.Proofs.YtinoipjblkidfaaGreatDoor

/- Sums of the reference: Total, Sum. -/
namespace Go.Proofs.YtinoipjblkidfaaGreatDoor
open Go.RowKit Go.Proofs.YtinoipjblkidfaaGreatDoor.Dg Go.Proofs.YtinoipjblkidfaaGreatDoor.Q Go.Proofs.YtinoipjblkidfaaGreatDoor.Num

theorem Qr.putM {w : World} {v : Value} {q : Rat} {g : Nat} {C : Array Value} {t : TypeId} (h : Qr w v q) (hr : Bk w g C t) (hC : C.all (notK .u64) = true) (i : Nat) (l : List Value) : Qr (Go.Proofs.YtinoipjblkidfaaGreatDoor.putL w g i l) v q := by
  obtain ⟨A, c, A', c', d, e, h1, h2, h3⟩ := h
  exact ⟨A, c, A', c', d, e, h1.putL hr hC i l, h2.putL hr hC i l, h3⟩
/-- The world of Total: a result, and the sum so far. -/
def KT (w w' : World) (x : Bool) (A : Option Addr) (l c : Nat) (A' : Option Addr) (l' c' : Nat) (q : Rat) : Prop :=
  Bk w' w.heap.size #[.bool false, .slice none 0 0, .slice none 0 0] 51 ∧ Bk w' (w.heap.size + 1) #[.bool x, .slice A l c, .slice A' l' c'] 51 ∧ Below w.heap.size w w' ∧ Qr w' (.agg #[.bool x, .slice A l c, .slice A' l' c']) q
theorem KT.up {w w1 w2 : World} {x : Bool} {A : Option Addr} {l c : Nat} {A' : Option Addr} {l' c' : Nat} {q : Rat} (h : KT w w1 x A l c A' l' c' q) (hb : Below w1.heap.size w1 w2) : KT w w2 x A l c A' l' c' q := ⟨h.1.up hb, h.2.1.up hb, btrans h.2.2.1 hb, h.2.2.2.up hb⟩
theorem KT.b {w w1 : World} {x : Bool} {A : Option Addr} {l c : Nat} {A' : Option Addr} {l' c' : Nat} {q : Rat} (h : KT w w1 x A l c A' l' c' q) : Below w.heap.size w w1 := h.2.2.1
theorem KT.q {w w1 : World} {x : Bool} {A : Option Addr} {l c : Nat} {A' : Option Addr} {l' c' : Nat} {q : Rat} (h : KT w w1 x A l c A' l' c' q) : Qr w1 (.agg #[.bool x, .slice A l c, .slice A' l' c']) q := h.2.2.2
theorem KT.start (w : World) : KT w ((w.alloc (.cells #[.bool false, .slice none 0 0, .slice none 0 0] 51)).alloc (.cells #[.bool false, .slice none 0 0, .slice none 0 0] 51)) false none 0 0 none 0 0 0 := by
  have s1 : (w.alloc (.cells #[.bool false, .slice none 0 0, .slice none 0 0] 51)).heap.size = w.heap.size + 1 := by simp
  have b := Bk.new (w.alloc (.cells #[.bool false, .slice none 0 0, .slice none 0 0] 51)) #[.bool false, .slice none 0 0, .slice none 0 0] 51
  rw [s1] at b
  exact ⟨(Bk.new w _ _).alloc, b, ((Below.refl _ w).alloc (Nat.le_refl _) _).alloc (by rw [s1]; omega) _, Qr.zero _⟩
theorem KT.three {w w1 : World} {x : Bool} {A : Option Addr} {l c : Nat} {A' : Option Addr} {l' c' : Nat} {q : Rat} (h : KT w w1 x A l c A' l' c' q) : (w1.cell? ⟨w.heap.size + 1, 0, none⟩ = some (.bool x) ∧ w1.cell? ⟨w.heap.size + 1, 1, none⟩ = some (.slice A l c) ∧ w1.cell? ⟨w.heap.size + 1, 2, none⟩ = some (.slice A' l' c')) ∧ w1.frozen? ⟨w.heap.size + 1, 0, none⟩ = false ∧ w1.frozen? ⟨w.heap.size + 1, 1, none⟩ = false ∧ w1.frozen? ⟨w.heap.size + 1, 2, none⟩ = false :=
  ⟨⟨h.2.1.cell 0, h.2.1.cell 1, h.2.1.cell 2⟩, h.2.1.frozen 0, h.2.1.frozen 1, h.2.1.frozen 2⟩
theorem KT.zero {w w1 : World} {x : Bool} {A : Option Addr} {l c : Nat} {A' : Option Addr} {l' c' : Nat} {q : Rat} (h : KT w w1 x A l c A' l' c' q) : (w1.cell? ⟨w.heap.size, 0, none⟩ = some (.bool false) ∧ w1.cell? ⟨w.heap.size, 1, none⟩ = some (.slice none 0 0) ∧ w1.cell? ⟨w.heap.size, 2, none⟩ = some (.slice none 0 0)) ∧ w1.frozen? ⟨w.heap.size, 0, none⟩ = false ∧ w1.frozen? ⟨w.heap.size, 1, none⟩ = false ∧ w1.frozen? ⟨w.heap.size, 2, none⟩ = false :=
  ⟨⟨h.1.cell 0, h.1.cell 1, h.1.cell 2⟩, h.1.frozen 0, h.1.frozen 1, h.1.frozen 2⟩
theorem KT.stored {w w1 : World} {x y : Bool} {A B : Option Addr} {l c m d : Nat} {A' B' : Option Addr} {l' c' m' d' : Nat} {q p : Rat} (h : KT w w1 x A l c A' l' c' q) (hp : Qr w1 (.agg #[.bool y, .slice B m d, .slice B' m' d']) p) :
    KT w (((w1.setCell ⟨w.heap.size + 1, 0, none⟩ (.bool y)).setCell ⟨w.heap.size + 1, 1, none⟩ (.slice B m d)).setCell ⟨w.heap.size + 1, 2, none⟩ (.slice B' m' d')) y B m d B' m' d' p := by
  have e : ((w1.setCell ⟨w.heap.size + 1, 0, none⟩ (.bool y)).setCell ⟨w.heap.size + 1, 1, none⟩ (.slice B m d)).setCell ⟨w.heap.size + 1, 2, none⟩ (.slice B' m' d') = putL w1 (w.heap.size + 1) 0 [.bool y, .slice B m d, .slice B' m' d'] := rfl
  rw [e]
  obtain ⟨h1, h2, h3, _⟩ := h
  exact ⟨h1.put_other 0 _ (by omega), h2.put [.bool y, .slice B m d, .slice B' m' d'] rfl, putL_below (by omega) _ 0 h3, hp.putM h2 (by simp [notK]) 0 _⟩
/-- What Total gives. -/
def TotS (w : World) (q : Rat) (m : Nat) (e : Ending) (w' : World) : Prop := ∃ (y : Bool) (A1 : Option Addr) (l1 c1 : Nat) (A2 : Option Addr) (l2 c2 : Nat), e = .returned (.tuple #[.agg #[.bool y, .slice A1 l1 c1, .slice A2 l2 c2], .int .i64 (m : Int)]) ∧ Qr w' (.agg #[.bool y, .slice A1 l1 c1, .slice A2 l2 c2]) q ∧ Below w.heap.size w w'
theorem KT.give {w w1 : World} {x : Bool} {A : Option Addr} {l c : Nat} {A' : Option Addr} {l' c' : Nat} {q : Rat} (h : KT w w1 x A l c A' l' c' q) (m : Nat) :
    TotS w q m (.returned (.tuple #[.agg #[.bool x, .slice A l c, .slice A' l' c'], .int .i64 (m : Int)])) (((w1.setCell ⟨w.heap.size, 0, none⟩ (.bool x)).setCell ⟨w.heap.size, 1, none⟩ (.slice A l c)).setCell ⟨w.heap.size, 2, none⟩ (.slice A' l' c')) :=
  ⟨x, A, l, c, A', l', c', rfl, h.q.putM h.1 (by simp [notK]) 0 [.bool x, .slice A l c, .slice A' l' c'], putL_below (Nat.le_refl _) [.bool x, .slice A l c, .slice A' l' c'] 0 h.b⟩

set_option maxRecDepth 100000 in
set_option maxHeartbeats 6400000 in
theorem rtotal_any (n c : Nat) (A : Option Addr) (ls : List ByteArray) (w : World) (hV : Vw w w.heap.size A n c 1 (ls.map Value.string)) (hl : ls.length = n) (hn : n ≤ 60) (hs : ∀ S ∈ ls, S.size ≤ 9223372036854775807) :
    Calls Tryz.prog 100 #[.slice A n c] w (TotS w (sumT (ls.map bl)) (nums (ls.map bl)).length) := by
  have hbn : (n : Int) ≤ 60 := by omega
  have HV := Lib.hid hV
  have HS := Lib.hid hs
  have k0 := Lib.hid (KT.start w)
  have HE := Lib.hid (show nums (ls.map bl) = nums ((ls.map bl).take n) by rw [List.take_of_length_le (by rw [List.length_map]; omega)])
  clear hV hs
  go_enter Tryz.func100, Tryz.ntmps100
  go_wp2
  go_loopw [5, 12] (fun cn i wr => ∃ (k : Nat) (m : Nat) (y : Bool) (A1 : Option Addr) (l1 c1 : Nat) (A2 : Option Addr) (l2 c2 : Nat), k ≤ n ∧ i = .int .i64 (k : Int) ∧ cn = .int .i64 (m : Int) ∧ m ≤ k ∧ Hid (m = (nums ((ls.map bl).take k)).length) ∧ Hid (KT w wr y A1 l1 c1 A2 l2 c2 (sumQ (nums ((ls.map bl).take k))))) (fun _ i _ => (n - intOf i).toNat)
  case atStart => exact ⟨0, 0, _, _, _, _, _, _, _, Nat.zero_le _, rfl, rfl, Nat.le_refl _, Lib.hid rfl, k0⟩
  case round =>
    obtain ⟨k, m, y, A1, l1, c1, A2, l2, c2, hk, rfl, rfl, hmk, hM, hR⟩ := hrel
    clear k0
    obtain ⟨⟨t0, t1, t2⟩, f0, f1, f2⟩ := hR.out.three
    by_cases hkn : (k : Int) < (n : Int)
    · obtain ⟨b, off, rfl, hlt, hc⟩ := HV.out.2.2.2 (by omega)
      have hkl : k < ls.length := by omega
      obtain ⟨T, hT⟩ : ∃ T, ls[k]? = some T := ⟨ls[k], List.getElem?_eq_getElem hkl⟩
      have hcell := hc k (.string T) (by rw [List.getElem?_map, hT]; rfl)
      have hcw := (hR.out.b.cell (p := ⟨b, off + k, none⟩) hlt).trans hcell
      have hkb : (0 : Int) ≤ (k : Int) := by omega
      have hmb : (m : Int) ≤ 60 := by omega
      have hTs := HS.out T (List.mem_of_getElem? hT)
      have RD := fun w' => rget_any T hTs w'
      have htk : (ls.map bl).take (k + 1) = (ls.map bl).take k ++ [bl T] := by rw [List.take_add_one, List.getElem?_map, hT]; rfl
      clear hc hcell hTs hT HE
      cases hq : num? (bl T) with
      | none =>
        rw [hq] at RD
        have RD := fun w' => (RD w').mono fun e w2 h => ReadR.none h
        have hnx := nums_snoc_none (l := (ls.map bl).take k) hq
        rw [← htk] at hnx
        have HN := Lib.hid hnx
        clear hnx htk hq
        go_wp2_with (go_at_call 49; go_loud ((with_reducible refine (RD _).mono ?_); rintro e w1 ⟨y9, A9, l9, d9, A10, l10, d10, qx, rfl, hb, _, _⟩; have r1 := Lib.hid (hR.out.up hb); clear hb))
        go_roundw
        case rel => exact ⟨k + 1, m, _, _, _, _, _, _, _, by omega, by go_num, rfl, by omega, Lib.hid (by rw [HN.out]; exact hM.out), Lib.hid (by rw [HN.out]; exact r1.out.up ((Below.refl _ _).alloc (Nat.le_refl _) _))⟩
        case measure => simp only [intOf]; omega
      | some q =>
        rw [hq] at RD
        have RD := fun w' => (RD w').mono fun e w2 h => ReadR.some h
        have hnx := nums_snoc_some (l := (ls.map bl).take k) hq
        rw [← htk] at hnx
        have HN := Lib.hid hnx
        have hlen := nums_len ((ls.map bl).take k)
        have hlen2 : (nums ((ls.map bl).take k)).length ≤ 60 := by rw [List.length_take] at hlen; omega
        have hz := sumQ_sz (l := nums ((ls.map bl).take k)) (B := 5) nums_sz
        have hzq := num_sz hq
        have hsum : sumQ (nums ((ls.map bl).take (k + 1))) = sumQ (nums ((ls.map bl).take k)) + q := by rw [hnx, sumQ_append, sumQ_one]
        obtain ⟨s2, hs2⟩ : ∃ s, sumQ (nums ((ls.map bl).take (k + 1))) = s := ⟨_, rfl⟩
        have PL := fun w' v v' (h1 : Qr w' v (sumQ (nums ((ls.map bl).take k)))) (h2 : Qr w' v' q) => rplus_any v v' _ q w' h1 h2 (by omega)
        rw [← hsum, hs2] at PL
        have HS2 := Lib.hid hs2
        clear hnx htk hq hlen hlen2 hz hzq hsum hs2
        generalize sumQ (nums ((ls.map bl).take k)) = s1 at *
        go_wp2_with (first
          | (go_at_call 102; go_loud ((with_reducible refine (PL _ _ _ r1.out.q F1.out).mono ?_); rintro e w3 ⟨v, rfl, ⟨A7, d7, A8, d8, dd, rfl, n7, n8, hd⟩, hb⟩; have r3 := Lib.hid (r1.out.up hb); have Q3 := Lib.hid (show Qr w3 _ s2 from ⟨A7, d7, A8, d8, dd, rfl, n7, n8, hd⟩); obtain ⟨⟨t0, t1, t2⟩, f0, f1, f2⟩ := r3.out.three; clear hb n7 n8 hd))
          | (go_at_call 49; go_loud ((with_reducible refine (RD _).mono ?_); rintro e w1 ⟨y9, A9, l9, d9, A10, l10, d10, rfl, hb, hF⟩; have bx := (Below.refl w1.heap.size w1).alloc (Nat.le_refl _) (.cells #[.bool y9, .slice A9 l9 d9, .slice A10 l10 d10] 51); have r0 := hR.out.up hb; have r1 := Lib.hid (r0.up bx); have F1 := Lib.hid (hF.up bx); obtain ⟨⟨t0, t1, t2⟩, f0, f1, f2⟩ := r0.three; have lt1 := r0.2.1.lt; clear hb hF bx r0)))
        go_roundw
        case rel => exact ⟨k + 1, m + 1, _, _, _, _, _, _, _, by omega, by go_num, by go_num, by omega, Lib.hid (by rw [HN.out, List.length_append, ← hM.out]; rfl), Lib.hid (by rw [HS2.out]; exact r3.out.stored Q3.out)⟩
        case measure => simp only [intOf]; omega
    · obtain rfl : k = n := by omega
      obtain ⟨⟨z0, z1, z2⟩, g0, g1, g2⟩ := hR.out.zero
      have HR := Lib.hid (show TotS w (sumT (ls.map bl)) (nums (ls.map bl)).length = TotS w (sumQ (nums ((ls.map bl).take k))) m by unfold sumT; rw [HE.out, ← hM.out])
      go_wp2
      refine bodyPost_ret (v := .tuple #[.agg #[.bool y, .slice A1 l1 c1, .slice A2 l2 c2], .int .i64 (m : Int)]) (by simp [results, Tryz.results100, go_sem, z0, z1, z2]) rfl ?_
      rw [HR.out]
      exact hR.out.give m

set_option maxRecDepth 100000 in
set_option maxHeartbeats 3200000 in
theorem rSum_any (n c : Nat) (A : Option Addr) (ls : List ByteArray) (w : World) (hV : Vw w w.heap.size A n c 1 (ls.map Value.string)) (hl : ls.length = n) (hn : n ≤ 60) (hs : ∀ S ∈ ls, S.size ≤ 9223372036854775807) :
    Calls Tryz.prog 37 #[.slice A n c] w fun e w' => e = .returned (.string ⟨(put (sumT (ls.map bl))).toArray⟩) ∧ Below w.heap.size w w' := by
  have T0 := rtotal_any n c A ls w hV hl hn hs
  have hz := sumQ_sz (l := nums (ls.map bl)) (B := 5) nums_sz
  have hlen := nums_len (ls.map bl)
  rw [List.length_map] at hlen
  have PU := fun w' v (h : Qr w' v (sumT (ls.map bl))) => rput_any v (sumT (ls.map bl)) w' h (by unfold sumT; omega)
  generalize sumT (ls.map bl) = s at *
  generalize (nums (ls.map bl)).length = m at *
  clear hV hl hn hs hz hlen
  unfold TotS at T0
  go_enter Tryz.func37, Tryz.ntmps37
  go_wp2_with (first
    | (go_at_call 90; go_loud ((with_reducible refine (PU _ _ Q1.out).mono ?_); rintro e w2 ⟨rfl, hb⟩; have b2 := Lib.hid (btrans (below_alloc b1.out _) hb); clear hb))
    | (go_at_call 100; go_loud ((with_reducible refine T0.mono ?_); rintro e w1 ⟨y, A1, l1, c1, A2, l2, c2, rfl, hq, hb⟩; have b1 := Lib.hid hb; have Q1 := Lib.hid (hq.up ((Below.refl w1.heap.size w1).alloc (Nat.le_refl _) (.cells #[.bool y, .slice A1 l1 c1, .slice A2 l2 c2] 51))); clear hq hb)))
  go_ret
  exact ⟨rfl, b2.out⟩

end Go.Proofs.YtinoipjblkidfaaGreatDoor

/- Rows of laws: a slice of strings, opened. -/
namespace Go.Proofs.YtinoipjblkidfaaGreatDoor
open Go.RowKit Go.ChangeShapes Go.WideShapes Go.ChangeAt Go.Joins

theorem Tryz.cellsStrs1 : Tryz.prog.cellsOf 9 = 1 := by kernel_rfl
set_option maxRecDepth 100000 in
/-- A slice of strings, nil or not. -/
theorem open_slstr {H : Type} {enc : TypeId × Value → H} {w : World} {r : Reach} {b0 base : Nat} {spare : Nat → Bool} {held : Bool} {v : Value} {d : DataW H} {p : List MemPlace}
    (hv : Value.okWide Tryz.prog w r b0 42 v) (h : DataW.Trod enc Tryz.prog w base spare held 42 v d p) :
    ∃ (A : Option Addr) (n c : Nat) (ls : List ByteArray), v = .slice A n c ∧ Vw w w.heap.size A n c 1 (ls.map Value.string) ∧ ls.length = n ∧ (∀ S ∈ ls, S.size ≤ 9223372036854775807) ∧ n ≤ 9223372036854775807 := by
  obtain ⟨a0, len0, cap0, rfl⟩ := okWide_slice Tryz.underlying42 hv
  obtain ⟨fuel, hf⟩ := h
  rcases open_strings Tryz.underlying42 Tryz.underlying9 Tryz.cellsStrs1 hf with ⟨hcs, _⟩ | ⟨a, len, cap, ss, hcs, _, hl, hm, hz, _, hcell, hsz⟩
  · have e : (Value.slice a0 len0 cap0) = .slice none 0 0 := by simpa [Value.cells] using hcs
    exact ⟨none, 0, 0, [], e, ⟨rfl, Nat.le_refl _, fun _ => rfl, fun h => absurd h (by omega)⟩, rfl, (fun _ h => by cases h), by omega⟩
  · have e : (Value.slice a0 len0 cap0) = .slice (some a) len cap := by simpa [Value.cells] using hcs
    have hle : len ≤ ss.length := by rw [hz]; split <;> omega
    have hmx : cap ≤ 9223372036854775807 := Nat.le_trans hm (by unfold maxLen; omega)
    refine ⟨some a, len, cap, ss.take len, e, ⟨by simp; omega, hl, fun h => (by cases h), fun hn => ?_⟩, by simp; omega, fun S hS => Nat.le_trans (hsz S (List.mem_of_mem_take hS)) (by unfold maxLen; omega), by omega⟩
    have h0 := hcell 0 (by omega)
    obtain ⟨b, off, sp⟩ := a
    have es : sp = none := by
      cases sp with
      | none => rfl
      | some x => simp [Addr.add, World.cell?] at h0; split at h0 <;> simp at h0
    subst es
    have hb : b < w.heap.size := by
      simp only [Addr.add, if_true, World.cell?] at h0
      cases hh : w.heap[b]? with
      | none => simp [hh] at h0
      | some o => exact (Array.getElem?_eq_some_iff.1 hh).1
    refine ⟨b, off, rfl, hb, fun j u hj => ?_⟩
    rw [List.getElem?_map, List.getElem?_take] at hj
    split at hj
    · rename_i hjl
      have hx := hcell j (by omega)
      rw [addr_add_none] at hx
      rw [hx, ← hj, List.getElem?_eq_getElem (by omega : j < ss.length)]
      simp [List.getD, List.getElem?_eq_getElem (by omega : j < ss.length)]
    · cases hj
end Go.Proofs.YtinoipjblkidfaaGreatDoor
