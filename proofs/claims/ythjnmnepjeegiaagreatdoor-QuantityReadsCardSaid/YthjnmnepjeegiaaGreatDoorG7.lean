/- Powers of fractions of the program. Units of the program: ValidUnit. Blocks of memory that a call makes, and stores into them. Units of the program: plain, joined. Units of the program: combined, Times, Over. -/
import Derived.Test.YthjnmnepjeegiaaGreatDoorG6
import Derived.Deep.RegionWith
import Derived.Deep.RegionHeld3
/- Powers of fractions of the program. -/
namespace Go.Proofs.YthjnmnepjeegiaaGreatDoor
open Go.RowKit Go.Proofs.YthjnmnepjeegiaaGreatDoor.Dg Go.Proofs.YthjnmnepjeegiaaGreatDoor.Q Go.Proofs.YthjnmnepjeegiaaGreatDoor.Num

theorem sz_one : sz (1 : Rat) = 1 := by
  show max (nd 1) (nd 1) = 1
  rw [nd_one]; rfl
theorem sz_npow {a : Rat} {B : Nat} (h : sz a ≤ B) (n : Nat) : sz (a ^ n) ≤ n * B + 1 := by
  induction n with
  | zero => rw [Rat.pow_zero, sz_one]; omega
  | succ n ih =>
    rw [Rat.pow_succ, Nat.succ_mul]
    have := sz_mul (a ^ n) a
    omega
theorem npow_ne {a : Rat} (h : a ≠ 0) (n : Nat) : a ^ n ≠ 0 := by
  induction n with
  | zero => rw [Rat.pow_zero]; decide
  | succ n ih => rw [Rat.pow_succ]; exact fun e => (Rat.mul_eq_zero.1 e).elim ih h

/-- What a later world keeps of a box, a result and a number in a block behind them. -/
def PowS (w wr : World) (g : Nat) (a0 a1 a2 : Value) (q : Rat) : Prop :=
  K2 w wr a0 a1 a2 (.bool false) (.slice none 0 0) (.slice none 0 0) 41 ∧ w.heap.size + 2 ≤ g ∧ g < wr.heap.size ∧ ∃ A c A' c', Rs wr g (.bool (ngt q)) (.slice A (nd (top q)) c) (.slice A' (nd q.den) c') 41 ∧ Nt .u32 wr wr.heap.size A c (top q) ∧ Nt .u32 wr wr.heap.size A' c' q.den
theorem PowS.fr {w wr : World} {g : Nat} {a0 a1 a2 : Value} {q : Rat} (h : PowS w wr g a0 a1 a2 q) : ∃ A c A' c', wr.cell? ⟨g, 0, none⟩ = some (.bool (ngt q)) ∧ wr.cell? ⟨g, 1, none⟩ = some (.slice A (nd (top q)) c) ∧ wr.cell? ⟨g, 2, none⟩ = some (.slice A' (nd q.den) c') ∧ Fr wr (.agg #[.bool (ngt q), .slice A (nd (top q)) c, .slice A' (nd q.den) c']) q := by
  obtain ⟨_, _, _, A, c, A', c', hr, n1, n2⟩ := h
  obtain ⟨p0, p1, p2⟩ := hr.cells
  exact ⟨A, c, A', c', p0, p1, p2, A, c, A', c', rfl, n1, n2⟩
theorem PowS.up {w w1 w2 : World} {g : Nat} {a0 a1 a2 : Value} {q : Rat} (h : PowS w w1 g a0 a1 a2 q) (hb : Below w1.heap.size w1 w2) : PowS w w2 g a0 a1 a2 q := by
  obtain ⟨h1, h2, h3, A, c, A', c', hr, n1, n2⟩ := h
  exact ⟨h1.up hb, h2, Nat.lt_of_lt_of_le h3 hb.size, A, c, A', c', hr.below hb h3, n1.up hb, n2.up hb⟩
theorem PowS.frozen {w wr : World} {g : Nat} {a0 a1 a2 : Value} {q : Rat} (h : PowS w wr g a0 a1 a2 q) : wr.frozen? ⟨g, 0, none⟩ = false ∧ wr.frozen? ⟨g, 1, none⟩ = false ∧ wr.frozen? ⟨g, 2, none⟩ = false := by
  obtain ⟨_, _, _, A, c, A', c', hr, _, _⟩ := h
  exact hr.frozen
theorem PowS.giveN {w wr : World} {g : Nat} {a0 a1 a2 : Value} {q p : Rat} {A A' : Option Addr} {c c' : Nat} (h : PowS w wr g a0 a1 a2 q) (n1 : Nt .u32 wr wr.heap.size A c (top p)) (n2 : Nt .u32 wr wr.heap.size A' c' p.den) :
    GiveF w p (.returned (.agg #[.bool (ngt p), .slice A (nd (top p)) c, .slice A' (nd p.den) c'])) (put3 (put3 wr g (.bool (ngt p)) (.slice A (nd (top p)) c) (.slice A' (nd p.den) c')) (w.heap.size + 1) (.bool (ngt p)) (.slice A (nd (top p)) c) (.slice A' (nd p.den) c')) := by
  obtain ⟨h1, h2, h3, A1, c1, A2, c2, hr, _, _⟩ := h
  obtain ⟨k1, k2, k3, k4⟩ := h1
  have hk : K2 w (put3 wr g (.bool (ngt p)) (.slice A (nd (top p)) c) (.slice A' (nd p.den) c')) a0 a1 a2 (.bool false) (.slice none 0 0) (.slice none 0 0) 41 := ⟨k1.put3_other (by omega), k2.put3_other (by omega), by rw [put3_size]; exact k3, put3_below k4 (by omega)⟩
  exact hk.give rfl rfl rfl (n1.put3 hr rfl rfl rfl) (n2.put3 hr rfl rfl rfl)
/-- Another number is stored. -/
theorem PowS.stored {w wr : World} {g : Nat} {a0 a1 a2 : Value} {q p : Rat} {A A' : Option Addr} {c c' : Nat} (h : PowS w wr g a0 a1 a2 q) (n1 : Nt .u32 wr wr.heap.size A c (top p)) (n2 : Nt .u32 wr wr.heap.size A' c' p.den) :
    PowS w (put3 wr g (.bool (ngt p)) (.slice A (nd (top p)) c) (.slice A' (nd p.den) c')) g a0 a1 a2 p := by
  obtain ⟨h1, h2, h3, A1, c1, A2, c2, hr, _, _⟩ := h
  obtain ⟨k1, k2, k3, k4⟩ := h1
  exact ⟨⟨k1.put3_other (by omega), k2.put3_other (by omega), by rw [put3_size]; exact k3, put3_below k4 (by omega)⟩, h2, by rw [put3_size]; exact h3, A, c, A', c', hr.put3_same, n1.put3 hr rfl rfl rfl, n2.put3 hr rfl rfl rfl⟩
theorem PowS.start {w w1 : World} {a0 a1 a2 : Value} {p : Rat} {A A' : Option Addr} {c c' : Nat} (h : K2 w w1 a0 a1 a2 (.bool false) (.slice none 0 0) (.slice none 0 0) 41) (n1 : Nt .u32 w1 w1.heap.size A c (top p)) (n2 : Nt .u32 w1 w1.heap.size A' c' p.den) :
    PowS w (w1.alloc (.cells #[.bool (ngt p), .slice A (nd (top p)) c, .slice A' (nd p.den) c'] 41)) w1.heap.size a0 a1 a2 p := by
  have hb := box_rs w1 (.bool (ngt p)) (.slice A (nd (top p)) c) (.slice A' (nd p.den) c') 41
  exact ⟨h.up hb.2.1, h.2.2.1, hb.2.2, A, c, A', c', hb.1, n1.up hb.2.1, n2.up hb.2.1⟩
theorem PowS.give {w wr : World} {g : Nat} {a0 a1 a2 : Value} {q : Rat} {A A' : Option Addr} {c c' : Nat} (h : PowS w wr g a0 a1 a2 q) (hc : wr.cell? ⟨g, 1, none⟩ = some (.slice A (nd (top q)) c)) (hc' : wr.cell? ⟨g, 2, none⟩ = some (.slice A' (nd q.den) c')) :
    GiveF w q (.returned (.agg #[.bool (ngt q), .slice A (nd (top q)) c, .slice A' (nd q.den) c'])) (put3 wr (w.heap.size + 1) (.bool (ngt q)) (.slice A (nd (top q)) c) (.slice A' (nd q.den) c')) := by
  obtain ⟨h1, _, _, A1, c1, A2, c2, hr, n1, n2⟩ := h
  obtain ⟨p0, p1, p2⟩ := hr.cells
  rw [p1] at hc
  rw [p2] at hc'
  cases hc
  cases hc'
  exact h1.give rfl rfl rfl n1 n2

set_option maxRecDepth 100000 in
set_option maxHeartbeats 6400000 in
theorem fpow_any (v1 : Value) (a : Rat) (n : Int) (hn : n.natAbs ≤ 12) (w : World) (h1 : Fr w v1 a) (h0 : a ≠ 0) (hs : sz a ≤ 100) :
    Calls Tryz.prog 12 #[v1, .int .i64 n] w (GiveF w (a ^ n)) := by
  obtain ⟨A1, c1, A2, c2, rfl, n1, n2⟩ := h1
  have F1 : Fr w (.agg #[.bool (ngt a), .slice A1 (nd (top a)) c1, .slice A2 (nd a.den) c2]) a := ⟨A1, c1, A2, c2, rfl, n1, n2⟩
  have k0 := Lib.hid (K2.start w (.bool (ngt a)) (.slice A1 (nd (top a)) c1) (.slice A2 (nd a.den) c2) (.bool false) (.slice none 0 0) (.slice none 0 0) 41)
  have MU := fun w' v k (hb : Below w.heap.size w w') (h : Fr w' v (a ^ k)) (hk : k ≤ 12) => fmul_any v _ (a ^ k) a w' h (F1.up hb) (by have := sz_npow hs k; omega)
  have DV := fun w' v v' k (h : Fr w' v 1) (h' : Fr w' v' (a ^ k)) (hk : k ≤ 12) => fdiv_any v v' 1 (a ^ k) w' h h' (npow_ne h0 k) (by have := sz_npow hs k; rw [sz_one]; omega)
  obtain ⟨m, hm⟩ : ∃ m, n.natAbs = m := ⟨_, rfl⟩
  rw [hm] at hn
  have P0 : ∃ p, a ^ 0 = p := ⟨_, rfl⟩
  obtain ⟨p, hp⟩ := P0
  have I1 := fun w' => fint_any 1 (by decide) w'
  rw [show ((1 : Nat) : Rat) = p by rw [← hp, Rat.pow_zero]; rfl] at I1
  rw [show (1 : Rat) = p by rw [← hp, Rat.pow_zero]] at DV
  clear h0 hs n1 n2 F1
  generalize hl1 : nd (top a) = l1 at *
  generalize hl2 : nd a.den = l2 at *
  generalize hx1 : ngt a = x1 at *
  have HP := Lib.hid hp
  clear hp
  rcases (show n = (m : Int) ∨ (n = -(m : Int) ∧ m ≠ 0) by omega) with e | ⟨e, m0⟩
  · skip
    have hz : a ^ n = a ^ m := by rw [e, Rat.zpow_natCast]
    rw [hz]
    subst e
    have i1 : ¬ (m : Int) < 0 := by omega
    have i2 : -(m : Int) ≤ (m : Int) := by omega
    have i3 : max (m : Int) (-(m : Int)) = (m : Int) := by omega
    have i4 : (m : Int) ≤ 12 := by omega
    clear hm hz DV
    go_enter Tryz.func12, Tryz.ntmps12
    go_wp2_with (go_at_call 9; go_loud ((refine (I1 _).mono ?_); rintro e w1 ⟨v, rfl, ⟨A3, c3, A4, c4, rfl, n3, n4⟩, hb⟩; have k1 := Lib.hid (PowS.start (k0.out.up hb) n3 n4); have s1 := k1.out.2.2.1; have sb := hb.size; clear n3 n4 hb))
    go_loopw [11] (fun i wr => ∃ k : Nat, k ≤ m ∧ i = .int .i64 (k : Int) ∧ Hid (PowS w wr w1.heap.size (.bool x1) (.slice A1 l1 c1) (.slice A2 l2 c2) (a ^ k))) (fun i _ => (m - intOf i).toNat)
    case atStart => exact ⟨0, Nat.zero_le _, rfl, by rw [HP.out]; exact k1⟩
    case round =>
      obtain ⟨k, hk, rfl, hS⟩ := hrel
      clear k1 s1
      obtain ⟨A5, c5, A6, c6, d0, d1, d2, F5⟩ := hS.out.fr
      have HG := Lib.hid (hS.out.give d1 d2)
      obtain ⟨f0, f1, f2⟩ := hS.out.frozen
      obtain ⟨b0, b1, b2⟩ := hS.out.1.1.cells
      obtain ⟨q0, q1, q2⟩ := hS.out.1.2.1.cells
      obtain ⟨g0, g1, g2⟩ := hS.out.1.2.1.frozen
      by_cases hkm : (k : Int) < (m : Int)
      · have M := MU wr _ k hS.out.1.2.2.2 F5 (by omega)
        rw [← Rat.pow_succ] at M
        obtain ⟨q', hq'⟩ : ∃ q, a ^ (k + 1) = q := ⟨_, rfl⟩
        rw [hq'] at M
        have HQ := Lib.hid hq'
        clear hq' HG F5 MU
        generalize a ^ k = q at *
        go_wp2_with (go_at_call 11; go_loud ((with_reducible refine M.mono ?_); rintro e w2 ⟨v, rfl, ⟨A7, c7, A8, c8, rfl, n7, n8⟩, hb⟩; have k2 := Lib.hid (hS.out.up hb); have K3 := Lib.hid (k2.out.stored n7 n8); obtain ⟨f0, f1, f2⟩ := k2.out.frozen; obtain ⟨_, _, _, _, d0, d1, d2, _⟩ := k2.out.fr; clear n7 n8 hb))
        go_roundw
        case rel => exact ⟨k + 1, by omega, rfl, by rw [HQ.out]; exact K3⟩
        case measure => simp only [intOf]; omega
      · obtain rfl : k = m := by omega
        clear MU F5
        generalize a ^ k = q at *
        go_wp2
        refine bodyPost_ret (v := .agg #[.bool (ngt q), .slice A5 (nd (top q)) c5, .slice A6 (nd q.den) c6]) (by simp [results, Tryz.results12, go_sem, q0, q1, q2]) rfl ?_
        exact HG.out
  · have hz : a ^ n = (a ^ m)⁻¹ := by rw [e, Rat.zpow_neg, Rat.zpow_natCast]
    rw [hz]
    subst e
    have i1 : -(m : Int) < 0 := by omega
    have i2 : -(m : Int) ≤ (m : Int) := by omega
    have i3 : max (-(m : Int)) (m : Int) = (m : Int) := by omega
    have i4 : (m : Int) ≤ 12 := by omega
    clear hm hz
    go_enter Tryz.func12, Tryz.ntmps12
    go_wp2_with (go_at_call 9; go_loud ((refine (I1 _).mono ?_); rintro e w1 ⟨v, rfl, ⟨A3, c3, A4, c4, rfl, n3, n4⟩, hb⟩; have k1 := Lib.hid (PowS.start (k0.out.up hb) n3 n4); have s1 := k1.out.2.2.1; have sb := hb.size; clear n3 n4 hb))
    go_loopw [11] (fun i wr => ∃ k : Nat, k ≤ m ∧ i = .int .i64 (k : Int) ∧ Hid (PowS w wr w1.heap.size (.bool x1) (.slice A1 l1 c1) (.slice A2 l2 c2) (a ^ k))) (fun i _ => (m - intOf i).toNat)
    case atStart => exact ⟨0, Nat.zero_le _, rfl, by rw [HP.out]; exact k1⟩
    case round =>
      obtain ⟨k, hk, rfl, hS⟩ := hrel
      clear k1 s1
      obtain ⟨A5, c5, A6, c6, d0, d1, d2, F5⟩ := hS.out.fr
      have HG := Lib.hid (hS.out.give d1 d2)
      obtain ⟨f0, f1, f2⟩ := hS.out.frozen
      obtain ⟨b0, b1, b2⟩ := hS.out.1.1.cells
      obtain ⟨q0, q1, q2⟩ := hS.out.1.2.1.cells
      obtain ⟨g0, g1, g2⟩ := hS.out.1.2.1.frozen
      by_cases hkm : (k : Int) < (m : Int)
      · have M := MU wr _ k hS.out.1.2.2.2 F5 (by omega)
        rw [← Rat.pow_succ] at M
        obtain ⟨q', hq'⟩ : ∃ q, a ^ (k + 1) = q := ⟨_, rfl⟩
        rw [hq'] at M
        have HQ := Lib.hid hq'
        clear hq' HG F5 MU
        generalize a ^ k = q at *
        go_wp2_with (go_at_call 11; go_loud ((with_reducible refine M.mono ?_); rintro e w2 ⟨v, rfl, ⟨A7, c7, A8, c8, rfl, n7, n8⟩, hb⟩; have k2 := Lib.hid (hS.out.up hb); have K3 := Lib.hid (k2.out.stored n7 n8); obtain ⟨f0, f1, f2⟩ := k2.out.frozen; obtain ⟨_, _, _, _, d0, d1, d2, _⟩ := k2.out.fr; clear n7 n8 hb))
        go_roundw
        case rel => exact ⟨k + 1, by omega, rfl, by rw [HQ.out]; exact K3⟩
        case measure => simp only [intOf]; omega
      · obtain rfl : k = m := by omega
        clear MU HG
        have DV := fun w' v v' h h' => DV w' v v' k h h' hn
        generalize a ^ k = q at *
        have hI : p / q = q⁻¹ := by rw [← HP.out, Rat.pow_zero, Rat.div_def, Rat.one_mul]
        rw [hI] at DV
        generalize q⁻¹ = y at *
        have kd := Lib.hid (hS.out.up (below_drewN (Below.refl _ _) 1))
        have F6 := Lib.hid F5
        have KD := fun w' (hb : Below wr.heap.size wr w') => (show w'.cell? ⟨w1.heap.size, 0, none⟩ = some (.bool (ngt q)) ∧ w'.cell? ⟨w1.heap.size, 1, none⟩ = some (.slice A5 (nd (top q)) c5) ∧ w'.cell? ⟨w1.heap.size, 2, none⟩ = some (.slice A6 (nd q.den) c6) from ⟨(hb.cell hS.out.2.2.1).trans d0, (hb.cell hS.out.2.2.1).trans d1, (hb.cell hS.out.2.2.1).trans d2⟩)
        have hne : w.heap.size + 1 < w1.heap.size := hS.out.2.1
        clear F5 hS
        go_wp2_with fail
        go_region_with (first
            | (go_at_call 33; go_loud (refine (DV _ _ _ N2.out (F6.out.up B2.out)).mono ?_; rintro e w3 ⟨v, rfl, ⟨A7, c7, A8, c8, rfl, n7, n8⟩, hb⟩; have k3 := Lib.hid (k2.out.up hb); obtain ⟨f0, f1, f2⟩ := k3.out.frozen; obtain ⟨d0, d1, d2⟩ := KD _ (B2.out.trans (hb.mono B2.out.size)); obtain ⟨q0, q1, q2⟩ := k3.out.1.2.1.cells; obtain ⟨g0, g1, g2⟩ := k3.out.1.2.1.frozen; have N7 := Lib.hid n7; have N8 := Lib.hid n8; clear hb n7 n8))
            | (go_at_call 9; go_loud ((refine (I1 _).mono ?_); rintro e w2 ⟨v, rfl, n2, hb⟩; obtain ⟨A9, c9, A10, c10, rfl, n9, n10⟩ := n2; have N2 := Lib.hid (show Fr w2 _ p from ⟨A9, c9, A10, c10, rfl, n9, n10⟩); have k2 := Lib.hid (kd.out.up hb); have B2 := Lib.hid ((below_drewN (Below.refl wr.heap.size wr) 1).trans hb); obtain ⟨d0, d1, d2⟩ := KD _ B2.out; clear n9 n10 hb)))
        all_goals go_wp2
        all_goals refine bodyPost_ret (v := .agg #[.bool (ngt y), .slice A7 (nd (top y)) c7, .slice A8 (nd y.den) c8]) (by simp [results, Tryz.results12, go_sem, q0, q1, q2]) rfl ?_
        all_goals exact k3.out.giveN N7.out N8.out

end Go.Proofs.YthjnmnepjeegiaaGreatDoor

/- Units of the program: ValidUnit. -/
namespace Go.Proofs.YthjnmnepjeegiaaGreatDoor
open Go.RowKit Go.Proofs.YthjnmnepjeegiaaGreatDoor.Dg Go.Proofs.YthjnmnepjeegiaaGreatDoor.Q Go.Proofs.YthjnmnepjeegiaaGreatDoor.Num

/-- The powers of a unit. -/
structure P7 where
  (a b c d e f g : Int)
deriving DecidableEq
def P7.l (p : P7) : List Int := [p.a, p.b, p.c, p.d, p.e, p.f, p.g]
/-- The value of a unit. -/
def uv (F O : ByteArray) (p : P7) : Value := .agg #[.string F, .string O, .int .i64 p.a, .int .i64 p.b, .int .i64 p.c, .int .i64 p.d, .int .i64 p.e, .int .i64 p.f, .int .i64 p.g]
def wi (x : Int) : Bool := decide (-12 ≤ x) && decide (x ≤ 12)
def vU (F O : List UInt8) (p : P7) : Bool := match num? F with
  | some q => p.l.all wi && decide (0 < q) && (num? O).isSome
  | none => false
theorem wi_yes {x : Int} (h1 : -12 ≤ x) (h2 : x ≤ 12) : wi x = true := by unfold wi; rw [decide_eq_true h1, decide_eq_true h2]; rfl
theorem wi_low {x : Int} (h1 : ¬ -12 ≤ x) : wi x = false := by unfold wi; rw [decide_eq_false h1]; rfl
theorem wi_high {x : Int} (h1 : ¬ x ≤ 12) : wi x = false := by unfold wi; rw [decide_eq_false h1, Bool.and_false]
/-- A block that holds a unit. -/
def Ub (w : World) (g : Nat) (F O : ByteArray) (p : P7) : Prop := w.heap[g]? = some (.cells #[.string F, .string O, .int .i64 p.a, .int .i64 p.b, .int .i64 p.c, .int .i64 p.d, .int .i64 p.e, .int .i64 p.f, .int .i64 p.g] 24 (0, 0))
theorem Ub.below {w w' : World} {g B : Nat} {F O : ByteArray} {p : P7} (h : Ub w g F O p) (hb : Below B w w') (hg : g < B) : Ub w' g F O p := (hb.block g hg).trans h
theorem Ub.cells {w : World} {g : Nat} {F O : ByteArray} {p : P7} (h : Ub w g F O p) : w.cell? ⟨g, 0, none⟩ = some (.string F) ∧ w.cell? ⟨g, 1, none⟩ = some (.string O) ∧ w.cell? ⟨g, 2, none⟩ = some (.int .i64 p.a) ∧ w.cell? ⟨g, 3, none⟩ = some (.int .i64 p.b) ∧ w.cell? ⟨g, 4, none⟩ = some (.int .i64 p.c) ∧ w.cell? ⟨g, 5, none⟩ = some (.int .i64 p.d) ∧ w.cell? ⟨g, 6, none⟩ = some (.int .i64 p.e) ∧ w.cell? ⟨g, 7, none⟩ = some (.int .i64 p.f) ∧ w.cell? ⟨g, 8, none⟩ = some (.int .i64 p.g) := by
  unfold Ub at h
  refine ⟨?_, ?_, ?_, ?_, ?_, ?_, ?_, ?_, ?_⟩ <;> simp [World.cell?, h]
/-- What a later world keeps of the box of a unit. -/
def KU (w w' : World) (F O : ByteArray) (p : P7) : Prop := Ub w' w.heap.size F O p ∧ Below w.heap.size w w' ∧ w.heap.size < w'.heap.size
theorem KU.start (w : World) (F O : ByteArray) (p : P7) : KU w (w.alloc (.cells #[.string F, .string O, .int .i64 p.a, .int .i64 p.b, .int .i64 p.c, .int .i64 p.d, .int .i64 p.e, .int .i64 p.f, .int .i64 p.g] 24)) F O p :=
  ⟨Deep.blk_alloc_new w _, (Below.refl _ w).alloc (Nat.le_refl _) _, by simp⟩
theorem KU.up {w w1 w2 : World} {F O : ByteArray} {p : P7} (h : KU w w1 F O p) (hb : Below w1.heap.size w1 w2) : KU w w2 F O p := ⟨h.1.below hb h.2.2, btrans h.2.1 hb, Nat.lt_of_lt_of_le h.2.2 hb.size⟩
/-- The verdict behind k powers. -/
def P7.upto (p : P7) (b : Bool) (k : Nat) : Bool := b && (p.l.take k).all wi
theorem P7.upto_no {p : P7} {b : Bool} {k : Nat} (h : p.upto b k = false) : p.upto b (k + 1) = false := by
  unfold P7.upto at *
  cases b
  · rfl
  · simp only [Bool.true_and] at *
    rw [List.take_add, List.all_append, h, Bool.false_and]
theorem P7.upto_at {p : P7} {b : Bool} {k : Nat} {x : Int} (h : p.upto b k = true) (hx : p.l[k]? = some x) : p.upto b (k + 1) = wi x := by
  unfold P7.upto at *
  cases b
  · cases h
  · simp only [Bool.true_and] at *
    rw [List.take_add_one, List.all_append, h, hx, Bool.true_and]
    exact Bool.and_true _

theorem Tryz.ix7 (p0 p1 p2 p3 p4 p5 p6 : Value) (w : World) :
    (Instr.index 22 (.agg #[p0, p1, p2, p3, p4, p5, p6]) (.int .i64 0)).run Tryz.prog w = .ok p0 w ∧ (Instr.index 22 (.agg #[p0, p1, p2, p3, p4, p5, p6]) (.int .i64 1)).run Tryz.prog w = .ok p1 w ∧ (Instr.index 22 (.agg #[p0, p1, p2, p3, p4, p5, p6]) (.int .i64 2)).run Tryz.prog w = .ok p2 w ∧ (Instr.index 22 (.agg #[p0, p1, p2, p3, p4, p5, p6]) (.int .i64 3)).run Tryz.prog w = .ok p3 w ∧ (Instr.index 22 (.agg #[p0, p1, p2, p3, p4, p5, p6]) (.int .i64 4)).run Tryz.prog w = .ok p4 w ∧ (Instr.index 22 (.agg #[p0, p1, p2, p3, p4, p5, p6]) (.int .i64 5)).run Tryz.prog w = .ok p5 w ∧ (Instr.index 22 (.agg #[p0, p1, p2, p3, p4, p5, p6]) (.int .i64 6)).run Tryz.prog w = .ok p6 w := by
  refine ⟨?_, ?_, ?_, ?_, ?_, ?_, ?_⟩ <;> kernel_rfl

set_option maxRecDepth 100000 in
set_option maxHeartbeats 6400000 in
theorem validU_any (F O : ByteArray) (p : P7) (hF : F.size ≤ 9223372036854775807) (hO : O.size ≤ 9223372036854775807) (w : World) (hw : Wf w) :
    Calls Tryz.prog 6 #[uv F O p] w fun e w' => e = .returned (.bool (vU (bl F) (bl O) p)) ∧ Below w.heap.size w w' := by
  have k0 := Lib.hid (KU.start w F O p)
  obtain ⟨vv, hvv⟩ : ∃ v, vU (bl F) (bl O) p = v := ⟨_, rfl⟩
  have HV : Hid ((p.upto (num? (bl F)).isSome 7 = false → vv = false) ∧ ∀ q, num? (bl F) = some q → p.upto (num? (bl F)).isSome 7 = true → vv = (decide (0 < sign q) && (num? (bl O)).isSome)) := by
    refine ⟨fun h => ?_, fun q hq h => ?_⟩ <;> rw [← hvv] <;> unfold vU
    · unfold P7.upto at h
      cases hn : num? (bl F) with
      | none => rfl
      | some q =>
        rw [hn] at h
        show (p.l.all wi && _ && _) = false
        rw [show p.l.all wi = false by simpa [P7.l] using h]
        rfl
    · rw [hq] at h ⊢
      show (p.l.all wi && _ && _) = _
      rw [show p.l.all wi = true by simpa [P7.upto, P7.l] using h, show decide (0 < sign q) = decide (0 < q) from decide_eq_decide.2 sign_pos]
      rfl
  rw [hvv]
  obtain ⟨p0, p1, p2, p3, p4, p5, p6⟩ := p
  unfold uv
  dsimp only
  have R1 := fun w' (hb : Below w.heap.size w w') => read_any F hF w' (hw.up hb)
  have V1 := fun w' (hb : Below w.heap.size w w') => qValid_any O hO w' (hw.up hb)
  have U0 : ∀ x, Hid ((⟨p0, p1, p2, p3, p4, p5, p6⟩ : P7).upto x 0 = x) := fun x => Bool.and_true x
  have UF : ∀ k, Hid ((⟨p0, p1, p2, p3, p4, p5, p6⟩ : P7).upto false k = false) := fun k => rfl
  clear hF hO hw hvv
  generalize hnf : num? (bl F) = nf at *
  generalize hno : num? (bl O) = no at *
  clear hnf hno
  generalize hx0 : nf.isSome = x0 at *
  go_enter Tryz.func6, Tryz.ntmps6
  go_wp2_with (go_at_call 10; go_loud (refine (R1 _ k0.out.2.1).mono ?_; rintro e w1 ⟨b, A, n, c, A', n', c', rfl, hb, hF⟩; have k1 := Lib.hid (k0.out.up hb); obtain ⟨c0, c1, c2, c3, c4, c5, c6, c7, c8⟩ := k1.out.1.cells; have s1 := k1.out.2.2; have HF := Lib.hid hF; rw [hx0]; clear hb hF))
  go_loopw [4, 15] (fun ok i wr => ∃ k : Nat, k ≤ 7 ∧ i = .int .i64 (k : Int) ∧ (∃ x, ok = .bool x ∧ Hid (P7.upto ⟨p0, p1, p2, p3, p4, p5, p6⟩ x0 k = x)) ∧ w1.alloc (.cells #[.bool b, .slice A n c, .slice A' n' c'] 41) = wr) (fun _ i _ => (7 - intOf i).toNat)
  case atStart => exact ⟨0, by omega, rfl, ⟨_, rfl, U0 _⟩, rfl⟩
  case round =>
    obtain ⟨k, hk, ei, ⟨x, rfl, hx⟩, rfl⟩ := hrel
    rcases (show k = 0 ∨ k = 1 ∨ k = 2 ∨ k = 3 ∨ k = 4 ∨ k = 5 ∨ k = 6 ∨ k = 7 by omega) with rfl | rfl | rfl | rfl | rfl | rfl | rfl | rfl
    all_goals clear hk U0 UF
    · have ej : _ = Value.int .i64 0 := ei
      subst ej
      have ix := fun w => (Tryz.ix7 (.int .i64 p0) (.int .i64 p1) (.int .i64 p2) (.int .i64 p3) (.int .i64 p4) (.int .i64 p5) (.int .i64 p6) w).1
      have hk7 : P7.l ⟨p0, p1, p2, p3, p4, p5, p6⟩ = [p0, p1, p2, p3, p4, p5, p6] := rfl
      try clear ei
      cases x
      · clear hk7
        go_wp2
        go_roundw
        case rel => exact ⟨1, by omega, by go_num, ⟨false, rfl, P7.upto_no hx.out⟩, by first | rfl | trivial⟩
        case measure => simp [intOf]
      · have ST := P7.upto_at (x := p0) hx.out (by rw [hk7]; rfl)
        clear hk7 HV
        by_cases h1 : -12 ≤ p0
        · by_cases h2 : p0 ≤ 12
          · have HS := Lib.hid (ST.trans (wi_yes h1 h2))
            clear ST
            go_wp2
            go_roundw
            case rel => exact ⟨1, by omega, by go_num, ⟨true, rfl, HS.out⟩, by first | rfl | trivial⟩
            case measure => simp [intOf]
          · have HS := Lib.hid (ST.trans (wi_high h2))
            clear ST
            go_wp2
            go_roundw
            case rel => exact ⟨1, by omega, by go_num, ⟨false, rfl, HS.out⟩, by first | rfl | trivial⟩
            case measure => simp [intOf]
        · have HS := Lib.hid (ST.trans (wi_low h1))
          clear ST
          go_wp2
          go_roundw
          case rel => exact ⟨1, by omega, by go_num, ⟨false, rfl, HS.out⟩, by first | rfl | trivial⟩
          case measure => simp [intOf]
    · have ej : _ = Value.int .i64 1 := ei
      subst ej
      have ix := fun w => (Tryz.ix7 (.int .i64 p0) (.int .i64 p1) (.int .i64 p2) (.int .i64 p3) (.int .i64 p4) (.int .i64 p5) (.int .i64 p6) w).2.1
      have hk7 : P7.l ⟨p0, p1, p2, p3, p4, p5, p6⟩ = [p0, p1, p2, p3, p4, p5, p6] := rfl
      try clear ei
      cases x
      · clear hk7
        go_wp2
        go_roundw
        case rel => exact ⟨2, by omega, by go_num, ⟨false, rfl, P7.upto_no hx.out⟩, by first | rfl | trivial⟩
        case measure => simp [intOf]
      · have ST := P7.upto_at (x := p1) hx.out (by rw [hk7]; rfl)
        clear hk7 HV
        by_cases h1 : -12 ≤ p1
        · by_cases h2 : p1 ≤ 12
          · have HS := Lib.hid (ST.trans (wi_yes h1 h2))
            clear ST
            go_wp2
            go_roundw
            case rel => exact ⟨2, by omega, by go_num, ⟨true, rfl, HS.out⟩, by first | rfl | trivial⟩
            case measure => simp [intOf]
          · have HS := Lib.hid (ST.trans (wi_high h2))
            clear ST
            go_wp2
            go_roundw
            case rel => exact ⟨2, by omega, by go_num, ⟨false, rfl, HS.out⟩, by first | rfl | trivial⟩
            case measure => simp [intOf]
        · have HS := Lib.hid (ST.trans (wi_low h1))
          clear ST
          go_wp2
          go_roundw
          case rel => exact ⟨2, by omega, by go_num, ⟨false, rfl, HS.out⟩, by first | rfl | trivial⟩
          case measure => simp [intOf]
    · have ej : _ = Value.int .i64 2 := ei
      subst ej
      have ix := fun w => (Tryz.ix7 (.int .i64 p0) (.int .i64 p1) (.int .i64 p2) (.int .i64 p3) (.int .i64 p4) (.int .i64 p5) (.int .i64 p6) w).2.2.1
      have hk7 : P7.l ⟨p0, p1, p2, p3, p4, p5, p6⟩ = [p0, p1, p2, p3, p4, p5, p6] := rfl
      try clear ei
      cases x
      · clear hk7
        go_wp2
        go_roundw
        case rel => exact ⟨3, by omega, by go_num, ⟨false, rfl, P7.upto_no hx.out⟩, by first | rfl | trivial⟩
        case measure => simp [intOf]
      · have ST := P7.upto_at (x := p2) hx.out (by rw [hk7]; rfl)
        clear hk7 HV
        by_cases h1 : -12 ≤ p2
        · by_cases h2 : p2 ≤ 12
          · have HS := Lib.hid (ST.trans (wi_yes h1 h2))
            clear ST
            go_wp2
            go_roundw
            case rel => exact ⟨3, by omega, by go_num, ⟨true, rfl, HS.out⟩, by first | rfl | trivial⟩
            case measure => simp [intOf]
          · have HS := Lib.hid (ST.trans (wi_high h2))
            clear ST
            go_wp2
            go_roundw
            case rel => exact ⟨3, by omega, by go_num, ⟨false, rfl, HS.out⟩, by first | rfl | trivial⟩
            case measure => simp [intOf]
        · have HS := Lib.hid (ST.trans (wi_low h1))
          clear ST
          go_wp2
          go_roundw
          case rel => exact ⟨3, by omega, by go_num, ⟨false, rfl, HS.out⟩, by first | rfl | trivial⟩
          case measure => simp [intOf]
    · have ej : _ = Value.int .i64 3 := ei
      subst ej
      have ix := fun w => (Tryz.ix7 (.int .i64 p0) (.int .i64 p1) (.int .i64 p2) (.int .i64 p3) (.int .i64 p4) (.int .i64 p5) (.int .i64 p6) w).2.2.2.1
      have hk7 : P7.l ⟨p0, p1, p2, p3, p4, p5, p6⟩ = [p0, p1, p2, p3, p4, p5, p6] := rfl
      try clear ei
      cases x
      · clear hk7
        go_wp2
        go_roundw
        case rel => exact ⟨4, by omega, by go_num, ⟨false, rfl, P7.upto_no hx.out⟩, by first | rfl | trivial⟩
        case measure => simp [intOf]
      · have ST := P7.upto_at (x := p3) hx.out (by rw [hk7]; rfl)
        clear hk7 HV
        by_cases h1 : -12 ≤ p3
        · by_cases h2 : p3 ≤ 12
          · have HS := Lib.hid (ST.trans (wi_yes h1 h2))
            clear ST
            go_wp2
            go_roundw
            case rel => exact ⟨4, by omega, by go_num, ⟨true, rfl, HS.out⟩, by first | rfl | trivial⟩
            case measure => simp [intOf]
          · have HS := Lib.hid (ST.trans (wi_high h2))
            clear ST
            go_wp2
            go_roundw
            case rel => exact ⟨4, by omega, by go_num, ⟨false, rfl, HS.out⟩, by first | rfl | trivial⟩
            case measure => simp [intOf]
        · have HS := Lib.hid (ST.trans (wi_low h1))
          clear ST
          go_wp2
          go_roundw
          case rel => exact ⟨4, by omega, by go_num, ⟨false, rfl, HS.out⟩, by first | rfl | trivial⟩
          case measure => simp [intOf]
    · have ej : _ = Value.int .i64 4 := ei
      subst ej
      have ix := fun w => (Tryz.ix7 (.int .i64 p0) (.int .i64 p1) (.int .i64 p2) (.int .i64 p3) (.int .i64 p4) (.int .i64 p5) (.int .i64 p6) w).2.2.2.2.1
      have hk7 : P7.l ⟨p0, p1, p2, p3, p4, p5, p6⟩ = [p0, p1, p2, p3, p4, p5, p6] := rfl
      try clear ei
      cases x
      · clear hk7
        go_wp2
        go_roundw
        case rel => exact ⟨5, by omega, by go_num, ⟨false, rfl, P7.upto_no hx.out⟩, by first | rfl | trivial⟩
        case measure => simp [intOf]
      · have ST := P7.upto_at (x := p4) hx.out (by rw [hk7]; rfl)
        clear hk7 HV
        by_cases h1 : -12 ≤ p4
        · by_cases h2 : p4 ≤ 12
          · have HS := Lib.hid (ST.trans (wi_yes h1 h2))
            clear ST
            go_wp2
            go_roundw
            case rel => exact ⟨5, by omega, by go_num, ⟨true, rfl, HS.out⟩, by first | rfl | trivial⟩
            case measure => simp [intOf]
          · have HS := Lib.hid (ST.trans (wi_high h2))
            clear ST
            go_wp2
            go_roundw
            case rel => exact ⟨5, by omega, by go_num, ⟨false, rfl, HS.out⟩, by first | rfl | trivial⟩
            case measure => simp [intOf]
        · have HS := Lib.hid (ST.trans (wi_low h1))
          clear ST
          go_wp2
          go_roundw
          case rel => exact ⟨5, by omega, by go_num, ⟨false, rfl, HS.out⟩, by first | rfl | trivial⟩
          case measure => simp [intOf]
    · have ej : _ = Value.int .i64 5 := ei
      subst ej
      have ix := fun w => (Tryz.ix7 (.int .i64 p0) (.int .i64 p1) (.int .i64 p2) (.int .i64 p3) (.int .i64 p4) (.int .i64 p5) (.int .i64 p6) w).2.2.2.2.2.1
      have hk7 : P7.l ⟨p0, p1, p2, p3, p4, p5, p6⟩ = [p0, p1, p2, p3, p4, p5, p6] := rfl
      try clear ei
      cases x
      · clear hk7
        go_wp2
        go_roundw
        case rel => exact ⟨6, by omega, by go_num, ⟨false, rfl, P7.upto_no hx.out⟩, by first | rfl | trivial⟩
        case measure => simp [intOf]
      · have ST := P7.upto_at (x := p5) hx.out (by rw [hk7]; rfl)
        clear hk7 HV
        by_cases h1 : -12 ≤ p5
        · by_cases h2 : p5 ≤ 12
          · have HS := Lib.hid (ST.trans (wi_yes h1 h2))
            clear ST
            go_wp2
            go_roundw
            case rel => exact ⟨6, by omega, by go_num, ⟨true, rfl, HS.out⟩, by first | rfl | trivial⟩
            case measure => simp [intOf]
          · have HS := Lib.hid (ST.trans (wi_high h2))
            clear ST
            go_wp2
            go_roundw
            case rel => exact ⟨6, by omega, by go_num, ⟨false, rfl, HS.out⟩, by first | rfl | trivial⟩
            case measure => simp [intOf]
        · have HS := Lib.hid (ST.trans (wi_low h1))
          clear ST
          go_wp2
          go_roundw
          case rel => exact ⟨6, by omega, by go_num, ⟨false, rfl, HS.out⟩, by first | rfl | trivial⟩
          case measure => simp [intOf]
    · have ej : _ = Value.int .i64 6 := ei
      subst ej
      have ix := fun w => (Tryz.ix7 (.int .i64 p0) (.int .i64 p1) (.int .i64 p2) (.int .i64 p3) (.int .i64 p4) (.int .i64 p5) (.int .i64 p6) w).2.2.2.2.2.2
      have hk7 : P7.l ⟨p0, p1, p2, p3, p4, p5, p6⟩ = [p0, p1, p2, p3, p4, p5, p6] := rfl
      try clear ei
      cases x
      · clear hk7
        go_wp2
        go_roundw
        case rel => exact ⟨7, by omega, by go_num, ⟨false, rfl, P7.upto_no hx.out⟩, by first | rfl | trivial⟩
        case measure => simp [intOf]
      · have ST := P7.upto_at (x := p6) hx.out (by rw [hk7]; rfl)
        clear hk7 HV
        by_cases h1 : -12 ≤ p6
        · by_cases h2 : p6 ≤ 12
          · have HS := Lib.hid (ST.trans (wi_yes h1 h2))
            clear ST
            go_wp2
            go_roundw
            case rel => exact ⟨7, by omega, by go_num, ⟨true, rfl, HS.out⟩, by first | rfl | trivial⟩
            case measure => simp [intOf]
          · have HS := Lib.hid (ST.trans (wi_high h2))
            clear ST
            go_wp2
            go_roundw
            case rel => exact ⟨7, by omega, by go_num, ⟨false, rfl, HS.out⟩, by first | rfl | trivial⟩
            case measure => simp [intOf]
        · have HS := Lib.hid (ST.trans (wi_low h1))
          clear ST
          go_wp2
          go_roundw
          case rel => exact ⟨7, by omega, by go_num, ⟨false, rfl, HS.out⟩, by first | rfl | trivial⟩
          case measure => simp [intOf]
    · have ej : _ = Value.int .i64 7 := ei
      subst ej
      try clear ei
      cases x
      · have HX := Lib.hid (HV.out.1 hx.out)
        clear HV
        go_wp2
        go_ret
        exact ⟨by rw [HX.out]; rfl, btrans k1.out.2.1 (box_rs w1 _ _ _ _).2.1⟩
      · obtain ⟨q, rfl⟩ : ∃ q, nf = some q := by
          cases nf with
          | none => rw [← hx0] at hx; cases hx.out
          | some q => exact ⟨q, rfl⟩
        have HX := HV.out.2 q rfl hx.out
        have bx := box_rs w1 (.bool b) (.slice A n c) (.slice A' n' c') 41
        have k2 := Lib.hid (k1.out.up bx.2.1)
        have FQ := (HF.out q rfl).up bx.2.1
        have SG := fsign_any _ q _ FQ
        clear HV HF FQ bx R1
        have V2 := V1
        generalize sign q = sg at *
        generalize no.isSome = nb at *
        by_cases hs : 0 < sg
        · rw [decide_eq_true hs, Bool.true_and] at HX
          subst HX
          go_wp2_with (first
            | (go_at_call 19; go_loud (refine (V1 _ k3.out.2.1).mono ?_; rintro e w3 ⟨rfl, hb⟩; have k4 := Lib.hid (k3.out.up hb); clear hb))
            | (go_at_call 18; go_loud (refine SG.mono ?_; rintro e w2 ⟨rfl, hb⟩; have k3 := Lib.hid (k2.out.up hb); have s2 := k3.out.2.2; obtain ⟨c0, c1, c2, c3, c4, c5, c6, c7, c8⟩ := k3.out.1.cells; clear hb)))
          go_ret
          exact ⟨rfl, k4.out.2.1⟩
        · rw [decide_eq_false hs, Bool.false_and] at HX
          subst HX
          go_wp2_with (go_at_call 18; go_loud (refine SG.mono ?_; rintro e w2 ⟨rfl, hb⟩; have k3 := Lib.hid (k2.out.up hb); have s2 := k3.out.2.2; obtain ⟨c0, c1, c2, c3, c4, c5, c6, c7, c8⟩ := k3.out.1.cells; clear hb))
          go_ret
          exact ⟨rfl, k3.out.2.1⟩

end Go.Proofs.YthjnmnepjeegiaaGreatDoor

/- Blocks of memory that a call makes, and stores into them. -/
namespace Go.Proofs.YthjnmnepjeegiaaGreatDoor
open Go.RowKit Go.Proofs.YthjnmnepjeegiaaGreatDoor.Dg Go.Proofs.YthjnmnepjeegiaaGreatDoor.Q

/-- A block of plain cells. -/
def Bk (w : World) (g : Nat) (C : Array Value) (t : TypeId) : Prop := w.heap[g]? = some (.cells C t (0, 0))
theorem Bk.below {w w' : World} {g B : Nat} {C : Array Value} {t : TypeId} (h : Bk w g C t) (hb : Below B w w') (hg : g < B) : Bk w' g C t := (hb.block g hg).trans h
theorem Bk.cell {w : World} {g : Nat} {C : Array Value} {t : TypeId} (h : Bk w g C t) (i : Nat) : w.cell? ⟨g, i, none⟩ = C[i]? := by
  unfold Bk at h
  simp [World.cell?, h]
theorem Bk.frozen {w : World} {g : Nat} {C : Array Value} {t : TypeId} (h : Bk w g C t) (i : Nat) : w.frozen? ⟨g, i, none⟩ = false := by
  unfold Bk at h
  simp [World.frozen?, h]
theorem Bk.new (w : World) (C : Array Value) (t : TypeId) : Bk (w.alloc (.cells C t)) w.heap.size C t := Deep.blk_alloc_new w _
theorem Bk.lt {w : World} {g : Nat} {C : Array Value} {t : TypeId} (h : Bk w g C t) : g < w.heap.size := by
  rcases Nat.lt_or_ge g w.heap.size with h1 | h1
  · exact h1
  · unfold Bk at h
    rw [Array.getElem?_eq_none h1] at h
    cases h
theorem Bk.alloc {w : World} {g : Nat} {C D : Array Value} {t u : TypeId} (h : Bk w g C t) : Bk (w.alloc (.cells D u)) g C t := (Deep.blk_alloc_lt w _ g h.lt).trans h
theorem Bk.up {w w' : World} {g : Nat} {C : Array Value} {t : TypeId} (h : Bk w g C t) (hb : Below w.heap.size w w') : Bk w' g C t := h.below hb h.lt
theorem Bk.set {w : World} {g i : Nat} {C : Array Value} {t : TypeId} (h : Bk w g C t) (v : Value) : Bk (w.setCell ⟨g, i, none⟩ v) g (C.setIfInBounds i v) t := by
  unfold Bk at *
  simp [World.setCell, Array.getElem?_modify, h]
theorem Bk.set_other {w : World} {g h i : Nat} {C : Array Value} {t : TypeId} (k : Bk w g C t) (v : Value) (hne : g ≠ h) : Bk (w.setCell ⟨h, i, none⟩ v) g C t := by
  unfold Bk at *
  simp only [World.setCell, Array.getElem?_modify]
  rw [if_neg (fun e => hne e.symm)]
  exact k
/-- The world behind a value that was stored cell by cell. -/
def putL (w : World) (g : Nat) : Nat → List Value → World
  | _, [] => w
  | i, v :: l => putL (w.setCell ⟨g, i, none⟩ v) g (i + 1) l
theorem putL_size (g : Nat) (l : List Value) : ∀ (w : World) (i : Nat), (putL w g i l).heap.size = w.heap.size := by
  induction l with
  | nil => intro w i; rfl
  | cons v l ih => intro w i; rw [putL, ih]; simp [World.setCell]
theorem putL_below {B g : Nat} (hg : B ≤ g) (l : List Value) : ∀ {w0 w : World} (i : Nat), Below B w0 w → Below B w0 (putL w g i l) := by
  induction l with
  | nil => intro w0 w i h; exact h
  | cons v l ih => intro w0 w i h; exact ih (i + 1) (h.setCell hg v)
theorem putL_block {g k : Nat} (hk : k ≠ g) (l : List Value) : ∀ (w : World) (i : Nat), (putL w g i l).heap[k]? = w.heap[k]? := by
  induction l with
  | nil => intro w i; rfl
  | cons v l ih =>
    intro w i
    rw [putL, ih]
    simp only [World.setCell, Array.getElem?_modify]
    rw [if_neg (fun e => hk e.symm)]
theorem Bk.put_other {w : World} {g h : Nat} {C : Array Value} {t : TypeId} (k : Bk w g C t) (i : Nat) (l : List Value) (hne : g ≠ h) : Bk (putL w h i l) g C t := (putL_block hne l w i).trans k
theorem Bk.put_at {g : Nat} {t : TypeId} (l : List Value) : ∀ {w : World} (pre old : List Value), Bk w g (pre ++ old).toArray t → old.length = l.length → Bk (putL w g pre.length l) g (pre ++ l).toArray t := by
  induction l with
  | nil => intro w pre old h e; rw [List.length_eq_zero_iff.1 e] at h; exact h
  | cons v l ih =>
    intro w pre old h e
    cases old with
    | nil => cases e
    | cons o old =>
      have h2 := h.set (i := pre.length) v
      have e2 : (pre ++ o :: old).toArray.setIfInBounds pre.length v = ((pre ++ [v]) ++ old).toArray := by
        rw [List.setIfInBounds_toArray]
        congr 1
        rw [List.set_append_right _ _ (Nat.le_refl _), Nat.sub_self, List.set_cons_zero, List.append_assoc]
        rfl
      rw [e2] at h2
      have h3 := ih (pre ++ [v]) old h2 (by simpa using e)
      rw [List.length_append, List.append_assoc] at h3
      exact h3
theorem Bk.put {w : World} {g : Nat} {C : Array Value} {t : TypeId} (h : Bk w g C t) (l : List Value) (e : C.size = l.length) : Bk (putL w g 0 l) g l.toArray t := by
  cases C with
  | mk c => exact Bk.put_at l [] c h (by simpa using e)
theorem put9 (w : World) (g : Nat) (v0 v1 v2 v3 v4 v5 v6 v7 v8 : Value) : (((((((((w.setCell ⟨g, 0, none⟩ v0).setCell ⟨g, 1, none⟩ v1).setCell ⟨g, 2, none⟩ v2).setCell ⟨g, 3, none⟩ v3).setCell ⟨g, 4, none⟩ v4).setCell ⟨g, 5, none⟩ v5).setCell ⟨g, 6, none⟩ v6).setCell ⟨g, 7, none⟩ v7).setCell ⟨g, 8, none⟩ v8) = putL w g 0 [v0, v1, v2, v3, v4, v5, v6, v7, v8] := rfl
theorem put9_below {w0 w : World} {B g : Nat} {v0 v1 v2 v3 v4 v5 v6 v7 v8 : Value} (h : Below B w0 w) (hg : B ≤ g) : Below B w0 (((((((((w.setCell ⟨g, 0, none⟩ v0).setCell ⟨g, 1, none⟩ v1).setCell ⟨g, 2, none⟩ v2).setCell ⟨g, 3, none⟩ v3).setCell ⟨g, 4, none⟩ v4).setCell ⟨g, 5, none⟩ v5).setCell ⟨g, 6, none⟩ v6).setCell ⟨g, 7, none⟩ v7).setCell ⟨g, 8, none⟩ v8) := putL_below hg [v0, v1, v2, v3, v4, v5, v6, v7, v8] 0 h
theorem put7 (w : World) (g : Nat) (v0 v1 v2 v3 v4 v5 v6 : Value) : (((((((w.setCell ⟨g, 2, none⟩ v0).setCell ⟨g, 3, none⟩ v1).setCell ⟨g, 4, none⟩ v2).setCell ⟨g, 5, none⟩ v3).setCell ⟨g, 6, none⟩ v4).setCell ⟨g, 7, none⟩ v5).setCell ⟨g, 8, none⟩ v6) = putL w g 2 [v0, v1, v2, v3, v4, v5, v6] := rfl
/-- No integer of a kind. -/
def notK (k : IntKind) : Value → Bool
  | .int k' _ => k' != k
  | _ => true
theorem Fs.ne_block {k : IntKind} {w : World} {g b off : Nat} {C : Array Value} {t : TypeId} (hr : Bk w g C t) (hC : C.all (notK k) = true) {j : Nat} {v : Int} (hc : w.cell? ⟨b, off + j, none⟩ = some (.int k v)) : b ≠ g := by
  rintro rfl
  rw [hr.cell] at hc
  have := Array.all_eq_true'.1 hC _ (Array.mem_of_getElem? hc)
  simp [notK] at this
theorem Fs.putL {k : IntKind} {w : World} {B n c g : Nat} {A : Option Addr} {o : Nat → Nat} {C : Array Value} {t : TypeId} (h : Fs k w B A n c o) (hr : Bk w g C t) (hC : C.all (notK k) = true) (i : Nat) (l : List Value) : Fs k (Go.Proofs.YthjnmnepjeegiaaGreatDoor.putL w g i l) B A n c o :=
  ⟨h.1, h.2.1, fun hn => by
    obtain ⟨bk, off, e, hlt, hc⟩ := h.2.2 hn
    refine ⟨bk, off, e, hlt, fun j hj => ?_⟩
    have hne : bk ≠ g := Fs.ne_block hr hC (hc j hj)
    rw [← hc j hj]
    simp only [World.cell?]
    rw [putL_block hne l w i]⟩
theorem Nt.putL {k : IntKind} {w : World} {A : Option Addr} {c v g : Nat} {C : Array Value} {t : TypeId} (h : Nt k w w.heap.size A c v) (hr : Bk w g C t) (hC : C.all (notK k) = true) (i : Nat) (l : List Value) :
    Nt k (Go.Proofs.YthjnmnepjeegiaaGreatDoor.putL w g i l) (Go.Proofs.YthjnmnepjeegiaaGreatDoor.putL w g i l).heap.size A c v := by
  rw [putL_size]
  exact Fs.putL h hr hC i l
theorem Fr.putL {w : World} {v : Value} {q : Rat} {g : Nat} {C : Array Value} {t : TypeId} (h : Fr w v q) (hr : Bk w g C t) (hC : C.all (notK .u32) = true) (i : Nat) (l : List Value) : Fr (Go.Proofs.YthjnmnepjeegiaaGreatDoor.putL w g i l) v q := by
  obtain ⟨A, c, A', c', e, h1, h2⟩ := h
  exact ⟨A, c, A', c', e, h1.putL hr hC i l, h2.putL hr hC i l⟩

end Go.Proofs.YthjnmnepjeegiaaGreatDoor

/- Units of the program: plain, joined. -/
namespace Go.Proofs.YthjnmnepjeegiaaGreatDoor
open Go.RowKit Go.Proofs.YthjnmnepjeegiaaGreatDoor.Dg Go.Proofs.YthjnmnepjeegiaaGreatDoor.Q Go.Proofs.YthjnmnepjeegiaaGreatDoor.Num

def plainU (F O : List UInt8) (p : P7) : Bool := vU F O p && decide (O = [48])

/-- A unit, as bytes. -/
structure Un where
  (F O : List UInt8)
  p : P7
deriving DecidableEq
def Un.none : Un := ⟨[], [], ⟨0, 0, 0, 0, 0, 0, 0⟩⟩
def Un.v (u : Un) : Value := uv ⟨u.F.toArray⟩ ⟨u.O.toArray⟩ u.p
/-- What a function gives that returns a unit and an error. -/
def GiveU (w : World) (r : Un × Int) (e : Ending) (w' : World) : Prop := e = .returned (.tuple #[r.1.v, .int .i64 r.2]) ∧ Below w.heap.size w w'
def unJ (q : Rat) (p : P7) : Un × Int := if vU (put q) [48] p = true then (⟨put q, [48], p⟩, 0) else (Un.none, 4)

def P7.C (p : P7) : Array Value := #[.int .i64 p.a, .int .i64 p.b, .int .i64 p.c, .int .i64 p.d, .int .i64 p.e, .int .i64 p.f, .int .i64 p.g]
def unC (F O : ByteArray) (p : P7) : Array Value := #[.string F, .string O, .int .i64 p.a, .int .i64 p.b, .int .i64 p.c, .int .i64 p.d, .int .i64 p.e, .int .i64 p.f, .int .i64 p.g]
def u0C : Array Value := #[.string ⟨#[]⟩, .string ⟨#[]⟩, .int .i64 0, .int .i64 0, .int .i64 0, .int .i64 0, .int .i64 0, .int .i64 0, .int .i64 0]
theorem Ub.up {w w' : World} {g : Nat} {F O : ByteArray} {p : P7} (h : Ub w g F O p) (hb : Below w.heap.size w w') : Ub w' g F O p := Bk.up (C := unC F O p) h hb
theorem Ub.lt {w : World} {g : Nat} {F O : ByteArray} {p : P7} (h : Ub w g F O p) : g < w.heap.size := Bk.lt (C := unC F O p) h
theorem u0_cells {w : World} {g : Nat} {t : TypeId} (h : Bk w g u0C t) : w.cell? ⟨g, 0, none⟩ = some (.string ⟨#[]⟩) ∧ w.cell? ⟨g, 1, none⟩ = some (.string ⟨#[]⟩) ∧ w.cell? ⟨g, 2, none⟩ = some (.int .i64 0) ∧ w.cell? ⟨g, 3, none⟩ = some (.int .i64 0) ∧ w.cell? ⟨g, 4, none⟩ = some (.int .i64 0) ∧ w.cell? ⟨g, 5, none⟩ = some (.int .i64 0) ∧ w.cell? ⟨g, 6, none⟩ = some (.int .i64 0) ∧ w.cell? ⟨g, 7, none⟩ = some (.int .i64 0) ∧ w.cell? ⟨g, 8, none⟩ = some (.int .i64 0) :=
  ⟨h.cell 0, h.cell 1, h.cell 2, h.cell 3, h.cell 4, h.cell 5, h.cell 6, h.cell 7, h.cell 8⟩
theorem Bk.frozen9 {w : World} {g : Nat} {t : TypeId} {C : Array Value} (h : Bk w g C t) : w.frozen? ⟨g, 0, none⟩ = false ∧ w.frozen? ⟨g, 1, none⟩ = false ∧ w.frozen? ⟨g, 2, none⟩ = false ∧ w.frozen? ⟨g, 3, none⟩ = false ∧ w.frozen? ⟨g, 4, none⟩ = false ∧ w.frozen? ⟨g, 5, none⟩ = false ∧ w.frozen? ⟨g, 6, none⟩ = false ∧ w.frozen? ⟨g, 7, none⟩ = false ∧ w.frozen? ⟨g, 8, none⟩ = false :=
  ⟨h.frozen 0, h.frozen 1, h.frozen 2, h.frozen 3, h.frozen 4, h.frozen 5, h.frozen 6, h.frozen 7, h.frozen 8⟩
theorem Ub.frozen9 {w : World} {g : Nat} {F O : ByteArray} {p : P7} (h : Ub w g F O p) : w.frozen? ⟨g, 0, none⟩ = false ∧ w.frozen? ⟨g, 1, none⟩ = false ∧ w.frozen? ⟨g, 2, none⟩ = false ∧ w.frozen? ⟨g, 3, none⟩ = false ∧ w.frozen? ⟨g, 4, none⟩ = false ∧ w.frozen? ⟨g, 5, none⟩ = false ∧ w.frozen? ⟨g, 6, none⟩ = false ∧ w.frozen? ⟨g, 7, none⟩ = false ∧ w.frozen? ⟨g, 8, none⟩ = false := Bk.frozen9 (C := unC F O p) h
/-- The world of joined: a box of a fraction, one of powers, a result. -/
def KJ (w w' : World) (a0 a1 a2 : Value) (p : P7) : Prop := Bk w' w.heap.size #[a0, a1, a2] 41 ∧ Bk w' (w.heap.size + 1) p.C 22 ∧ Bk w' (w.heap.size + 2) u0C 24 ∧ Below w.heap.size w w'
theorem KJ.up {w w1 w2 : World} {a0 a1 a2 : Value} {p : P7} (h : KJ w w1 a0 a1 a2 p) (hb : Below w1.heap.size w1 w2) : KJ w w2 a0 a1 a2 p :=
  ⟨h.1.up hb, h.2.1.up hb, h.2.2.1.up hb, btrans h.2.2.2 hb⟩
theorem KJ.b {w w1 : World} {a0 a1 a2 : Value} {p : P7} (h : KJ w w1 a0 a1 a2 p) : Below w.heap.size w w1 := h.2.2.2
theorem KJ.put {w w1 : World} {a0 a1 a2 : Value} {p : P7} {g : Nat} (h : KJ w w1 a0 a1 a2 p) (hg : w.heap.size + 3 ≤ g) (l : List Value) : KJ w (putL w1 g 0 l) a0 a1 a2 p :=
  ⟨h.1.put_other _ _ (by omega), h.2.1.put_other _ _ (by omega), h.2.2.1.put_other _ _ (by omega), putL_below (by omega) _ _ h.2.2.2⟩
theorem KJ.start (w : World) (a0 a1 a2 : Value) (p : P7) : KJ w (((w.alloc (.cells #[a0, a1, a2] 41)).alloc (.cells p.C 22)).alloc (.cells u0C 24)) a0 a1 a2 p ∧ (((w.alloc (.cells #[a0, a1, a2] 41)).alloc (.cells p.C 22)).alloc (.cells u0C 24)).heap.size = w.heap.size + 3 := by
  have s1 : (w.alloc (.cells #[a0, a1, a2] 41)).heap.size = w.heap.size + 1 := by simp
  have s2 : ((w.alloc (.cells #[a0, a1, a2] 41)).alloc (.cells p.C 22)).heap.size = w.heap.size + 2 := by simp
  refine ⟨⟨?_, ?_, ?_, ?_⟩, by simp⟩
  · exact ((Bk.new w _ _).alloc).alloc
  · have := Bk.new (w.alloc (.cells #[a0, a1, a2] 41)) p.C 22
    rw [s1] at this
    exact this.alloc
  · have := Bk.new ((w.alloc (.cells #[a0, a1, a2] 41)).alloc (.cells p.C 22)) u0C 24
    rw [s2] at this
    exact this
  · exact ((((Below.refl _ w).alloc (Nat.le_refl _) _).alloc (by rw [s1]; omega) _).alloc (by rw [s2]; omega) _)
theorem KJ.grow {w w1 : World} {a0 a1 a2 : Value} {p : P7} (h : KJ w w1 a0 a1 a2 p) (C : Array Value) (t : TypeId) : KJ w (w1.alloc (.cells C t)) a0 a1 a2 p := h.up ((Below.refl _ _).alloc (Nat.le_refl _) _)
theorem KJ.drew {w w1 : World} {a0 a1 a2 : Value} {p : P7} (h : KJ w w1 a0 a1 a2 p) : KJ w w1.drew a0 a1 a2 p := h.up (Below.drew (Below.refl _ _))
theorem KJ.ten {w w' : World} {a0 a1 a2 : Value} {p : P7} (h : KJ w w' a0 a1 a2 p) : w'.cell? ⟨w.heap.size, 0, none⟩ = some a0 ∧ w'.cell? ⟨w.heap.size, 1, none⟩ = some a1 ∧ w'.cell? ⟨w.heap.size, 2, none⟩ = some a2 ∧ w'.cell? ⟨w.heap.size + 1, 0, none⟩ = some (.int .i64 p.a) ∧ w'.cell? ⟨w.heap.size + 1, 1, none⟩ = some (.int .i64 p.b) ∧ w'.cell? ⟨w.heap.size + 1, 2, none⟩ = some (.int .i64 p.c) ∧ w'.cell? ⟨w.heap.size + 1, 3, none⟩ = some (.int .i64 p.d) ∧ w'.cell? ⟨w.heap.size + 1, 4, none⟩ = some (.int .i64 p.e) ∧ w'.cell? ⟨w.heap.size + 1, 5, none⟩ = some (.int .i64 p.f) ∧ w'.cell? ⟨w.heap.size + 1, 6, none⟩ = some (.int .i64 p.g) :=
  ⟨h.1.cell 0, h.1.cell 1, h.1.cell 2, h.2.1.cell 0, h.2.1.cell 1, h.2.1.cell 2, h.2.1.cell 3, h.2.1.cell 4, h.2.1.cell 5, h.2.1.cell 6⟩
theorem KJ.ten_put {w w1 : World} {a0 a1 a2 v0 v1 v2 v3 v4 v5 v6 v7 v8 : Value} {p : P7} {g : Nat} (h : KJ w w1 a0 a1 a2 p) (hg : w.heap.size + 3 ≤ g) : ((((((((((w1.setCell ⟨g, 0, none⟩ v0).setCell ⟨g, 1, none⟩ v1).setCell ⟨g, 2, none⟩ v2).setCell ⟨g, 3, none⟩ v3).setCell ⟨g, 4, none⟩ v4).setCell ⟨g, 5, none⟩ v5).setCell ⟨g, 6, none⟩ v6).setCell ⟨g, 7, none⟩ v7).setCell ⟨g, 8, none⟩ v8)).cell? ⟨w.heap.size, 0, none⟩ = some a0 ∧ ((((((((((w1.setCell ⟨g, 0, none⟩ v0).setCell ⟨g, 1, none⟩ v1).setCell ⟨g, 2, none⟩ v2).setCell ⟨g, 3, none⟩ v3).setCell ⟨g, 4, none⟩ v4).setCell ⟨g, 5, none⟩ v5).setCell ⟨g, 6, none⟩ v6).setCell ⟨g, 7, none⟩ v7).setCell ⟨g, 8, none⟩ v8)).cell? ⟨w.heap.size, 1, none⟩ = some a1 ∧ ((((((((((w1.setCell ⟨g, 0, none⟩ v0).setCell ⟨g, 1, none⟩ v1).setCell ⟨g, 2, none⟩ v2).setCell ⟨g, 3, none⟩ v3).setCell ⟨g, 4, none⟩ v4).setCell ⟨g, 5, none⟩ v5).setCell ⟨g, 6, none⟩ v6).setCell ⟨g, 7, none⟩ v7).setCell ⟨g, 8, none⟩ v8)).cell? ⟨w.heap.size, 2, none⟩ = some a2 ∧ ((((((((((w1.setCell ⟨g, 0, none⟩ v0).setCell ⟨g, 1, none⟩ v1).setCell ⟨g, 2, none⟩ v2).setCell ⟨g, 3, none⟩ v3).setCell ⟨g, 4, none⟩ v4).setCell ⟨g, 5, none⟩ v5).setCell ⟨g, 6, none⟩ v6).setCell ⟨g, 7, none⟩ v7).setCell ⟨g, 8, none⟩ v8)).cell? ⟨w.heap.size + 1, 0, none⟩ = some (.int .i64 p.a) ∧ ((((((((((w1.setCell ⟨g, 0, none⟩ v0).setCell ⟨g, 1, none⟩ v1).setCell ⟨g, 2, none⟩ v2).setCell ⟨g, 3, none⟩ v3).setCell ⟨g, 4, none⟩ v4).setCell ⟨g, 5, none⟩ v5).setCell ⟨g, 6, none⟩ v6).setCell ⟨g, 7, none⟩ v7).setCell ⟨g, 8, none⟩ v8)).cell? ⟨w.heap.size + 1, 1, none⟩ = some (.int .i64 p.b) ∧ ((((((((((w1.setCell ⟨g, 0, none⟩ v0).setCell ⟨g, 1, none⟩ v1).setCell ⟨g, 2, none⟩ v2).setCell ⟨g, 3, none⟩ v3).setCell ⟨g, 4, none⟩ v4).setCell ⟨g, 5, none⟩ v5).setCell ⟨g, 6, none⟩ v6).setCell ⟨g, 7, none⟩ v7).setCell ⟨g, 8, none⟩ v8)).cell? ⟨w.heap.size + 1, 2, none⟩ = some (.int .i64 p.c) ∧ ((((((((((w1.setCell ⟨g, 0, none⟩ v0).setCell ⟨g, 1, none⟩ v1).setCell ⟨g, 2, none⟩ v2).setCell ⟨g, 3, none⟩ v3).setCell ⟨g, 4, none⟩ v4).setCell ⟨g, 5, none⟩ v5).setCell ⟨g, 6, none⟩ v6).setCell ⟨g, 7, none⟩ v7).setCell ⟨g, 8, none⟩ v8)).cell? ⟨w.heap.size + 1, 3, none⟩ = some (.int .i64 p.d) ∧ ((((((((((w1.setCell ⟨g, 0, none⟩ v0).setCell ⟨g, 1, none⟩ v1).setCell ⟨g, 2, none⟩ v2).setCell ⟨g, 3, none⟩ v3).setCell ⟨g, 4, none⟩ v4).setCell ⟨g, 5, none⟩ v5).setCell ⟨g, 6, none⟩ v6).setCell ⟨g, 7, none⟩ v7).setCell ⟨g, 8, none⟩ v8)).cell? ⟨w.heap.size + 1, 4, none⟩ = some (.int .i64 p.e) ∧ ((((((((((w1.setCell ⟨g, 0, none⟩ v0).setCell ⟨g, 1, none⟩ v1).setCell ⟨g, 2, none⟩ v2).setCell ⟨g, 3, none⟩ v3).setCell ⟨g, 4, none⟩ v4).setCell ⟨g, 5, none⟩ v5).setCell ⟨g, 6, none⟩ v6).setCell ⟨g, 7, none⟩ v7).setCell ⟨g, 8, none⟩ v8)).cell? ⟨w.heap.size + 1, 5, none⟩ = some (.int .i64 p.f) ∧ ((((((((((w1.setCell ⟨g, 0, none⟩ v0).setCell ⟨g, 1, none⟩ v1).setCell ⟨g, 2, none⟩ v2).setCell ⟨g, 3, none⟩ v3).setCell ⟨g, 4, none⟩ v4).setCell ⟨g, 5, none⟩ v5).setCell ⟨g, 6, none⟩ v6).setCell ⟨g, 7, none⟩ v7).setCell ⟨g, 8, none⟩ v8)).cell? ⟨w.heap.size + 1, 6, none⟩ = some (.int .i64 p.g) :=
  (h.put hg [v0, v1, v2, v3, v4, v5, v6, v7, v8]).ten

end Go.Proofs.YthjnmnepjeegiaaGreatDoor

/- Units of the program: combined, Times, Over. -/
namespace Go.Proofs.YthjnmnepjeegiaaGreatDoor
open Go.RowKit Go.Proofs.YthjnmnepjeegiaaGreatDoor.Dg Go.Proofs.YthjnmnepjeegiaaGreatDoor.Q Go.Proofs.YthjnmnepjeegiaaGreatDoor.Num

theorem sz_inv {a : Rat} (h : a ≠ 0) : sz (a⁻¹) ≤ sz a + 1 := by
  have := sz_div (a := 1) h
  rw [Rat.div_def, Rat.one_mul, sz_one] at this
  omega
theorem sz_zpow {a : Rat} (h0 : a ≠ 0) {B : Nat} (h : sz a ≤ B) (n : Int) : sz (a ^ n) ≤ n.natAbs * B + 2 := by
  rcases Int.natAbs_eq n with e | e
  · rw [e, Rat.zpow_natCast, Int.natAbs_natCast]
    have := sz_npow h n.natAbs
    omega
  · rw [e, Rat.zpow_neg, Rat.zpow_natCast, Int.natAbs_neg, Int.natAbs_natCast]
    have h1 := sz_npow h n.natAbs
    have h2 := sz_inv (npow_ne h0 n.natAbs)
    omega
/-- Powers plus a multiple of others. -/
def P7.plus (p : P7) (n : Int) (q : P7) : P7 := ⟨p.a + n * q.a, p.b + n * q.b, p.c + n * q.c, p.d + n * q.d, p.e + n * q.e, p.f + n * q.f, p.g + n * q.g⟩
def P7.within (p : P7) : Prop := (-12 ≤ p.a ∧ p.a ≤ 12) ∧ (-12 ≤ p.b ∧ p.b ≤ 12) ∧ (-12 ≤ p.c ∧ p.c ≤ 12) ∧ (-12 ≤ p.d ∧ p.d ≤ 12) ∧ (-12 ≤ p.e ∧ p.e ≤ 12) ∧ (-12 ≤ p.f ∧ p.f ≤ 12) ∧ (-12 ≤ p.g ∧ p.g ≤ 12)
theorem wi_iff {x : Int} : wi x = true ↔ -12 ≤ x ∧ x ≤ 12 := by unfold wi; simp
theorem vU_parts {F O : List UInt8} {p : P7} (h : vU F O p = true) : ∃ q o, num? F = some q ∧ 0 < q ∧ num? O = some o ∧ p.within := by
  unfold vU at h
  cases hF : num? F with
  | none => rw [hF] at h; cases h
  | some q =>
    rw [hF] at h
    simp only [Bool.and_eq_true, decide_eq_true_eq] at h
    obtain ⟨⟨h1, h2⟩, h3⟩ := h
    cases hO : num? O with
    | none => rw [hO] at h3; cases h3
    | some o =>
      refine ⟨q, o, rfl, h2, rfl, ?_⟩
      simp only [P7.l, List.all_cons, List.all_nil, Bool.and_eq_true, wi_iff, Bool.and_true] at h1
      exact h1
theorem plainU_parts {F O : List UInt8} {p : P7} (h : plainU F O p = true) : ∃ q, num? F = some q ∧ 0 < q ∧ p.within := by
  unfold plainU at h
  rw [Bool.and_eq_true] at h
  obtain ⟨q, _, h1, h2, _, h3⟩ := vU_parts h.1
  exact ⟨q, h1, h2, h3⟩
theorem mul_bound {n x : Int} (hn : -12 ≤ n ∧ n ≤ 12) (hx : -12 ≤ x ∧ x ≤ 12) : -144 ≤ n * x ∧ n * x ≤ 144 := by
  obtain ⟨a, b⟩ := hn
  obtain ⟨c, d⟩ := hx
  rcases (show n = -12 ∨ n = -11 ∨ n = -10 ∨ n = -9 ∨ n = -8 ∨ n = -7 ∨ n = -6 ∨ n = -5 ∨ n = -4 ∨ n = -3 ∨ n = -2 ∨ n = -1 ∨ n = 0 ∨ n = 1 ∨ n = 2 ∨ n = 3 ∨ n = 4 ∨ n = 5 ∨ n = 6 ∨ n = 7 ∨ n = 8 ∨ n = 9 ∨ n = 10 ∨ n = 11 ∨ n = 12 by omega) with h | h | h | h | h | h | h | h | h | h | h | h | h | h | h | h | h | h | h | h | h | h | h | h | h <;> subst h <;> omega

/-- What combined gives. -/
def unC2 (F O : List UInt8) (p : P7) (F' O' : List UInt8) (p' : P7) (n : Int) : Un × Int :=
  if plainU F O p = true ∧ plainU F' O' p' = true then match num? F, num? F' with
    | some f, some g => unJ (f * g ^ n) (p.plus n p')
    | _, _ => (Un.none, 10)
  else (Un.none, 10)

/-- The world of combined: two boxes and a result. -/
def KC (w w' : World) (F O : ByteArray) (p : P7) (F' O' : ByteArray) (p' : P7) : Prop := Ub w' w.heap.size F O p ∧ Ub w' (w.heap.size + 1) F' O' p' ∧ Bk w' (w.heap.size + 2) u0C 24 ∧ Below w.heap.size w w'
theorem KC.b {w w' : World} {F O F' O' : ByteArray} {p p' : P7} (h : KC w w' F O p F' O' p') : Below w.heap.size w w' := h.2.2.2
theorem KC.up {w w1 w2 : World} {F O F' O' : ByteArray} {p p' : P7} (h : KC w w1 F O p F' O' p') (hb : Below w1.heap.size w1 w2) : KC w w2 F O p F' O' p' :=
  ⟨h.1.up hb, h.2.1.up hb, h.2.2.1.up hb, btrans h.2.2.2 hb⟩
theorem KC.start (w : World) (F O F' O' : ByteArray) (p p' : P7) : KC w (((w.alloc (.cells (unC F O p) 24)).alloc (.cells (unC F' O' p') 24)).alloc (.cells u0C 24)) F O p F' O' p' := by
  have s1 : (w.alloc (.cells (unC F O p) 24)).heap.size = w.heap.size + 1 := by simp
  have s2 : ((w.alloc (.cells (unC F O p) 24)).alloc (.cells (unC F' O' p') 24)).heap.size = w.heap.size + 2 := by simp
  refine ⟨?_, ?_, ?_, ?_⟩
  · exact ((Bk.new w _ _).alloc).alloc
  · have := Bk.new (w.alloc (.cells (unC F O p) 24)) (unC F' O' p') 24
    rw [s1] at this
    exact this.alloc
  · have := Bk.new ((w.alloc (.cells (unC F O p) 24)).alloc (.cells (unC F' O' p') 24)) u0C 24
    rw [s2] at this
    exact this
  · exact ((((Below.refl _ w).alloc (Nat.le_refl _) _).alloc (by rw [s1]; omega) _).alloc (by rw [s2]; omega) _)

/-- The world of combined behind its loop. -/
def KD (w w' : World) (F O : ByteArray) (r : P7) (g8 g9 : Nat) (a0 a1 a2 b0 b1 b2 : Value) : Prop := Ub w' w.heap.size F O r ∧ Bk w' (w.heap.size + 2) u0C 24 ∧ Bk w' g8 #[a0, a1, a2] 41 ∧ Bk w' g9 #[b0, b1, b2] 41 ∧ Below w.heap.size w w' ∧ w.heap.size + 2 < g8 ∧ w.heap.size + 2 < g9
theorem KD.b {w w' : World} {F O : ByteArray} {r : P7} {g8 g9 : Nat} {a0 a1 a2 b0 b1 b2 : Value} (h : KD w w' F O r g8 g9 a0 a1 a2 b0 b1 b2) : Below w.heap.size w w' := h.2.2.2.2.1
theorem KD.up {w w1 w2 : World} {F O : ByteArray} {r : P7} {g8 g9 : Nat} {a0 a1 a2 b0 b1 b2 : Value} (h : KD w w1 F O r g8 g9 a0 a1 a2 b0 b1 b2) (hb : Below w1.heap.size w1 w2) : KD w w2 F O r g8 g9 a0 a1 a2 b0 b1 b2 :=
  ⟨h.1.up hb, h.2.1.up hb, h.2.2.1.up hb, h.2.2.2.1.up hb, btrans h.b hb, h.2.2.2.2.2⟩
theorem KD.limbs {w w' : World} {F O : ByteArray} {r : P7} {g8 g9 : Nat} {a0 a1 a2 b0 b1 b2 : Value} (h : KD w w' F O r g8 g9 a0 a1 a2 b0 b1 b2) : w'.cell? ⟨w.heap.size, 2, none⟩ = some (.int .i64 r.a) ∧ w'.cell? ⟨w.heap.size, 3, none⟩ = some (.int .i64 r.b) ∧ w'.cell? ⟨w.heap.size, 4, none⟩ = some (.int .i64 r.c) ∧ w'.cell? ⟨w.heap.size, 5, none⟩ = some (.int .i64 r.d) ∧ w'.cell? ⟨w.heap.size, 6, none⟩ = some (.int .i64 r.e) ∧ w'.cell? ⟨w.heap.size, 7, none⟩ = some (.int .i64 r.f) ∧ w'.cell? ⟨w.heap.size, 8, none⟩ = some (.int .i64 r.g) ∧ w'.cell? ⟨g8, 0, none⟩ = some a0 ∧ w'.cell? ⟨g8, 1, none⟩ = some a1 ∧ w'.cell? ⟨g8, 2, none⟩ = some a2 ∧ w'.cell? ⟨g9, 0, none⟩ = some b0 ∧ w'.cell? ⟨g9, 1, none⟩ = some b1 ∧ w'.cell? ⟨g9, 2, none⟩ = some b2 := by
  obtain ⟨_, _, c2, c3, c4, c5, c6, c7, c8⟩ := h.1.cells
  exact ⟨c2, c3, c4, c5, c6, c7, c8, h.2.2.1.cell 0, h.2.2.1.cell 1, h.2.2.1.cell 2, h.2.2.2.1.cell 0, h.2.2.2.1.cell 1, h.2.2.2.1.cell 2⟩
theorem KD.limbs_put {w w1 : World} {F O : ByteArray} {r : P7} {g8 g9 : Nat} {a0 a1 a2 b0 b1 b2 v0 v1 v2 v3 v4 v5 v6 v7 v8 : Value} (h : KD w w1 F O r g8 g9 a0 a1 a2 b0 b1 b2) : (((((((((w1.setCell ⟨w.heap.size + 2, 0, none⟩ v0).setCell ⟨w.heap.size + 2, 1, none⟩ v1).setCell ⟨w.heap.size + 2, 2, none⟩ v2).setCell ⟨w.heap.size + 2, 3, none⟩ v3).setCell ⟨w.heap.size + 2, 4, none⟩ v4).setCell ⟨w.heap.size + 2, 5, none⟩ v5).setCell ⟨w.heap.size + 2, 6, none⟩ v6).setCell ⟨w.heap.size + 2, 7, none⟩ v7).setCell ⟨w.heap.size + 2, 8, none⟩ v8).cell? ⟨w.heap.size, 2, none⟩ = some (.int .i64 r.a) ∧ (((((((((w1.setCell ⟨w.heap.size + 2, 0, none⟩ v0).setCell ⟨w.heap.size + 2, 1, none⟩ v1).setCell ⟨w.heap.size + 2, 2, none⟩ v2).setCell ⟨w.heap.size + 2, 3, none⟩ v3).setCell ⟨w.heap.size + 2, 4, none⟩ v4).setCell ⟨w.heap.size + 2, 5, none⟩ v5).setCell ⟨w.heap.size + 2, 6, none⟩ v6).setCell ⟨w.heap.size + 2, 7, none⟩ v7).setCell ⟨w.heap.size + 2, 8, none⟩ v8).cell? ⟨w.heap.size, 3, none⟩ = some (.int .i64 r.b) ∧ (((((((((w1.setCell ⟨w.heap.size + 2, 0, none⟩ v0).setCell ⟨w.heap.size + 2, 1, none⟩ v1).setCell ⟨w.heap.size + 2, 2, none⟩ v2).setCell ⟨w.heap.size + 2, 3, none⟩ v3).setCell ⟨w.heap.size + 2, 4, none⟩ v4).setCell ⟨w.heap.size + 2, 5, none⟩ v5).setCell ⟨w.heap.size + 2, 6, none⟩ v6).setCell ⟨w.heap.size + 2, 7, none⟩ v7).setCell ⟨w.heap.size + 2, 8, none⟩ v8).cell? ⟨w.heap.size, 4, none⟩ = some (.int .i64 r.c) ∧ (((((((((w1.setCell ⟨w.heap.size + 2, 0, none⟩ v0).setCell ⟨w.heap.size + 2, 1, none⟩ v1).setCell ⟨w.heap.size + 2, 2, none⟩ v2).setCell ⟨w.heap.size + 2, 3, none⟩ v3).setCell ⟨w.heap.size + 2, 4, none⟩ v4).setCell ⟨w.heap.size + 2, 5, none⟩ v5).setCell ⟨w.heap.size + 2, 6, none⟩ v6).setCell ⟨w.heap.size + 2, 7, none⟩ v7).setCell ⟨w.heap.size + 2, 8, none⟩ v8).cell? ⟨w.heap.size, 5, none⟩ = some (.int .i64 r.d) ∧ (((((((((w1.setCell ⟨w.heap.size + 2, 0, none⟩ v0).setCell ⟨w.heap.size + 2, 1, none⟩ v1).setCell ⟨w.heap.size + 2, 2, none⟩ v2).setCell ⟨w.heap.size + 2, 3, none⟩ v3).setCell ⟨w.heap.size + 2, 4, none⟩ v4).setCell ⟨w.heap.size + 2, 5, none⟩ v5).setCell ⟨w.heap.size + 2, 6, none⟩ v6).setCell ⟨w.heap.size + 2, 7, none⟩ v7).setCell ⟨w.heap.size + 2, 8, none⟩ v8).cell? ⟨w.heap.size, 6, none⟩ = some (.int .i64 r.e) ∧ (((((((((w1.setCell ⟨w.heap.size + 2, 0, none⟩ v0).setCell ⟨w.heap.size + 2, 1, none⟩ v1).setCell ⟨w.heap.size + 2, 2, none⟩ v2).setCell ⟨w.heap.size + 2, 3, none⟩ v3).setCell ⟨w.heap.size + 2, 4, none⟩ v4).setCell ⟨w.heap.size + 2, 5, none⟩ v5).setCell ⟨w.heap.size + 2, 6, none⟩ v6).setCell ⟨w.heap.size + 2, 7, none⟩ v7).setCell ⟨w.heap.size + 2, 8, none⟩ v8).cell? ⟨w.heap.size, 7, none⟩ = some (.int .i64 r.f) ∧ (((((((((w1.setCell ⟨w.heap.size + 2, 0, none⟩ v0).setCell ⟨w.heap.size + 2, 1, none⟩ v1).setCell ⟨w.heap.size + 2, 2, none⟩ v2).setCell ⟨w.heap.size + 2, 3, none⟩ v3).setCell ⟨w.heap.size + 2, 4, none⟩ v4).setCell ⟨w.heap.size + 2, 5, none⟩ v5).setCell ⟨w.heap.size + 2, 6, none⟩ v6).setCell ⟨w.heap.size + 2, 7, none⟩ v7).setCell ⟨w.heap.size + 2, 8, none⟩ v8).cell? ⟨w.heap.size, 8, none⟩ = some (.int .i64 r.g) ∧ (((((((((w1.setCell ⟨w.heap.size + 2, 0, none⟩ v0).setCell ⟨w.heap.size + 2, 1, none⟩ v1).setCell ⟨w.heap.size + 2, 2, none⟩ v2).setCell ⟨w.heap.size + 2, 3, none⟩ v3).setCell ⟨w.heap.size + 2, 4, none⟩ v4).setCell ⟨w.heap.size + 2, 5, none⟩ v5).setCell ⟨w.heap.size + 2, 6, none⟩ v6).setCell ⟨w.heap.size + 2, 7, none⟩ v7).setCell ⟨w.heap.size + 2, 8, none⟩ v8).cell? ⟨g8, 0, none⟩ = some a0 ∧ (((((((((w1.setCell ⟨w.heap.size + 2, 0, none⟩ v0).setCell ⟨w.heap.size + 2, 1, none⟩ v1).setCell ⟨w.heap.size + 2, 2, none⟩ v2).setCell ⟨w.heap.size + 2, 3, none⟩ v3).setCell ⟨w.heap.size + 2, 4, none⟩ v4).setCell ⟨w.heap.size + 2, 5, none⟩ v5).setCell ⟨w.heap.size + 2, 6, none⟩ v6).setCell ⟨w.heap.size + 2, 7, none⟩ v7).setCell ⟨w.heap.size + 2, 8, none⟩ v8).cell? ⟨g8, 1, none⟩ = some a1 ∧ (((((((((w1.setCell ⟨w.heap.size + 2, 0, none⟩ v0).setCell ⟨w.heap.size + 2, 1, none⟩ v1).setCell ⟨w.heap.size + 2, 2, none⟩ v2).setCell ⟨w.heap.size + 2, 3, none⟩ v3).setCell ⟨w.heap.size + 2, 4, none⟩ v4).setCell ⟨w.heap.size + 2, 5, none⟩ v5).setCell ⟨w.heap.size + 2, 6, none⟩ v6).setCell ⟨w.heap.size + 2, 7, none⟩ v7).setCell ⟨w.heap.size + 2, 8, none⟩ v8).cell? ⟨g8, 2, none⟩ = some a2 ∧ (((((((((w1.setCell ⟨w.heap.size + 2, 0, none⟩ v0).setCell ⟨w.heap.size + 2, 1, none⟩ v1).setCell ⟨w.heap.size + 2, 2, none⟩ v2).setCell ⟨w.heap.size + 2, 3, none⟩ v3).setCell ⟨w.heap.size + 2, 4, none⟩ v4).setCell ⟨w.heap.size + 2, 5, none⟩ v5).setCell ⟨w.heap.size + 2, 6, none⟩ v6).setCell ⟨w.heap.size + 2, 7, none⟩ v7).setCell ⟨w.heap.size + 2, 8, none⟩ v8).cell? ⟨g9, 0, none⟩ = some b0 ∧ (((((((((w1.setCell ⟨w.heap.size + 2, 0, none⟩ v0).setCell ⟨w.heap.size + 2, 1, none⟩ v1).setCell ⟨w.heap.size + 2, 2, none⟩ v2).setCell ⟨w.heap.size + 2, 3, none⟩ v3).setCell ⟨w.heap.size + 2, 4, none⟩ v4).setCell ⟨w.heap.size + 2, 5, none⟩ v5).setCell ⟨w.heap.size + 2, 6, none⟩ v6).setCell ⟨w.heap.size + 2, 7, none⟩ v7).setCell ⟨w.heap.size + 2, 8, none⟩ v8).cell? ⟨g9, 1, none⟩ = some b1 ∧ (((((((((w1.setCell ⟨w.heap.size + 2, 0, none⟩ v0).setCell ⟨w.heap.size + 2, 1, none⟩ v1).setCell ⟨w.heap.size + 2, 2, none⟩ v2).setCell ⟨w.heap.size + 2, 3, none⟩ v3).setCell ⟨w.heap.size + 2, 4, none⟩ v4).setCell ⟨w.heap.size + 2, 5, none⟩ v5).setCell ⟨w.heap.size + 2, 6, none⟩ v6).setCell ⟨w.heap.size + 2, 7, none⟩ v7).setCell ⟨w.heap.size + 2, 8, none⟩ v8).cell? ⟨g9, 2, none⟩ = some b2 := by
  have k1 : Ub (putL w1 (w.heap.size + 2) 0 [v0, v1, v2, v3, v4, v5, v6, v7, v8]) w.heap.size F O r := Bk.put_other (C := unC F O r) h.1 0 _ (by omega)
  have k2 := h.2.2.1.put_other 0 [v0, v1, v2, v3, v4, v5, v6, v7, v8] (Nat.ne_of_gt h.2.2.2.2.2.1)
  have k3 := h.2.2.2.1.put_other 0 [v0, v1, v2, v3, v4, v5, v6, v7, v8] (Nat.ne_of_gt h.2.2.2.2.2.2)
  obtain ⟨_, _, c2, c3, c4, c5, c6, c7, c8⟩ := k1.cells
  exact ⟨c2, c3, c4, c5, c6, c7, c8, k2.cell 0, k2.cell 1, k2.cell 2, k3.cell 0, k3.cell 1, k3.cell 2⟩
theorem KD.drew {w w1 : World} {F O : ByteArray} {r : P7} {g8 g9 : Nat} {a0 a1 a2 b0 b1 b2 : Value} (h : KD w w1 F O r g8 g9 a0 a1 a2 b0 b1 b2) : KD w w1.drew F O r g8 g9 a0 a1 a2 b0 b1 b2 := h.up (Below.drew (Below.refl _ _))
theorem unC_notK (F O : ByteArray) (p : P7) : (unC F O p).all (notK .u32) = true := by simp [unC, notK]
theorem Ub.put7 {w : World} {g : Nat} {F O : ByteArray} {p : P7} (h : Ub w g F O p) (r : P7) : Ub (putL w g 2 [.int .i64 r.a, .int .i64 r.b, .int .i64 r.c, .int .i64 r.d, .int .i64 r.e, .int .i64 r.f, .int .i64 r.g]) g F O r :=
  Bk.put_at [.int .i64 r.a, .int .i64 r.b, .int .i64 r.c, .int .i64 r.d, .int .i64 r.e, .int .i64 r.f, .int .i64 r.g] [.string F, .string O] [.int .i64 p.a, .int .i64 p.b, .int .i64 p.c, .int .i64 p.d, .int .i64 p.e, .int .i64 p.f, .int .i64 p.g] h rfl

end Go.Proofs.YthjnmnepjeegiaaGreatDoor
