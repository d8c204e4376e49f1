/- Units of the reference: within, raise. -/
import Derived.Test.YthjnmnepjeegiaaGreatDoorG18
import Derived.Test.YthjnmnepjeegiaaGreatDoorG7
/- Units of the reference: within, raise. -/
namespace Go.Proofs.YthjnmnepjeegiaaGreatDoor
open Go.RowKit Go.Proofs.YthjnmnepjeegiaaGreatDoor.Dg Go.Proofs.YthjnmnepjeegiaaGreatDoor.Q Go.Proofs.YthjnmnepjeegiaaGreatDoor.Num

set_option maxRecDepth 100000 in
theorem rwithin_any (n : Int) (w : World) : Calls Tryz.prog 15 #[.int .i64 n] w fun e w' => e = .returned (.bool (wi n)) ∧ w = w' := by
  have HW := Lib.hid (show wi n = (decide (-12 ≤ n) && decide (n ≤ 12)) from rfl)
  by_cases h1 : -12 ≤ n
  · rw [decide_eq_true h1, Bool.true_and] at HW
    go_enter Tryz.func15, Tryz.ntmps15
    go_wp2
    go_ret
    exact ⟨by rw [HW.out]; rfl, rfl⟩
  · rw [decide_eq_false h1, Bool.false_and] at HW
    go_enter Tryz.func15, Tryz.ntmps15
    go_wp2
    go_ret
    exact ⟨by rw [HW.out]; rfl, rfl⟩

/-- What a later world keeps of a box, a result and a number of the reference in a block behind them. -/
def PowR (w wr : World) (g : Nat) (a0 a1 a2 : Value) (x : Bool) (A : Option Addr) (l c : Nat) (A' : Option Addr) (l' c' : Nat) (q : Rat) : Prop :=
  K2 w wr a0 a1 a2 (.bool false) (.slice none 0 0) (.slice none 0 0) 54 ∧ w.heap.size + 2 ≤ g ∧ g < wr.heap.size ∧ Rs wr g (.bool x) (.slice A l c) (.slice A' l' c') 54 ∧ Qr wr (.agg #[.bool x, .slice A l c, .slice A' l' c']) q
theorem PowR.up {w w1 w2 : World} {g : Nat} {a0 a1 a2 : Value} {x : Bool} {A : Option Addr} {l c : Nat} {A' : Option Addr} {l' c' : Nat} {q : Rat} (h : PowR w w1 g a0 a1 a2 x A l c A' l' c' q) (hb : Below w1.heap.size w1 w2) : PowR w w2 g a0 a1 a2 x A l c A' l' c' q :=
  ⟨h.1.up hb, h.2.1, Nat.lt_of_lt_of_le h.2.2.1 hb.size, h.2.2.2.1.below hb h.2.2.1, h.2.2.2.2.up hb⟩
theorem PowR.start {w w1 : World} {a0 a1 a2 : Value} {x : Bool} {A : Option Addr} {l c : Nat} {A' : Option Addr} {l' c' : Nat} {q : Rat} (h : K2 w w1 a0 a1 a2 (.bool false) (.slice none 0 0) (.slice none 0 0) 54) (hq : Qr w1 (.agg #[.bool x, .slice A l c, .slice A' l' c']) q) :
    PowR w (w1.alloc (.cells #[.bool x, .slice A l c, .slice A' l' c'] 54)) w1.heap.size a0 a1 a2 x A l c A' l' c' q := by
  have hb := box_rs w1 (.bool x) (.slice A l c) (.slice A' l' c') 54
  exact ⟨h.up hb.2.1, h.2.2.1, hb.2.2, hb.1, hq.up hb.2.1⟩
theorem PowR.stored {w wr : World} {g : Nat} {a0 a1 a2 : Value} {x : Bool} {A : Option Addr} {l c : Nat} {A' : Option Addr} {l' c' : Nat} {q : Rat} (h : PowR w wr g a0 a1 a2 x A l c A' l' c' q) {y : Bool} {B : Option Addr} {m d : Nat} {B' : Option Addr} {m' d' : Nat} {p : Rat} (hp : Qr wr (.agg #[.bool y, .slice B m d, .slice B' m' d']) p) :
    PowR w (put3 wr g (.bool y) (.slice B m d) (.slice B' m' d')) g a0 a1 a2 y B m d B' m' d' p := by
  obtain ⟨⟨k1, k2, k3, k4⟩, h2, h3, hr, _⟩ := h
  exact ⟨⟨k1.put3_other (by omega), k2.put3_other (by omega), by rw [put3_size]; exact k3, put3_below k4 (by omega)⟩, h2, by rw [put3_size]; exact h3, hr.put3_same, hp.put3 hr rfl rfl rfl⟩
theorem PowR.q {w wr : World} {g : Nat} {a0 a1 a2 : Value} {x : Bool} {A : Option Addr} {l c : Nat} {A' : Option Addr} {l' c' : Nat} {q : Rat} (h : PowR w wr g a0 a1 a2 x A l c A' l' c' q) : Qr wr (.agg #[.bool x, .slice A l c, .slice A' l' c']) q := h.2.2.2.2
theorem PowR.three {w wr : World} {g : Nat} {a0 a1 a2 : Value} {x : Bool} {A : Option Addr} {l c : Nat} {A' : Option Addr} {l' c' : Nat} {q : Rat} (h : PowR w wr g a0 a1 a2 x A l c A' l' c' q) : wr.cell? ⟨g, 0, none⟩ = some (.bool x) ∧ wr.cell? ⟨g, 1, none⟩ = some (.slice A l c) ∧ wr.cell? ⟨g, 2, none⟩ = some (.slice A' l' c') := h.2.2.2.1.cells
theorem PowR.put {w wr : World} {g : Nat} {a0 a1 a2 : Value} {x : Bool} {A : Option Addr} {l c : Nat} {A' : Option Addr} {l' c' : Nat} {q : Rat} (h : PowR w wr g a0 a1 a2 x A l c A' l' c' q) (u v z : Value) : (put3 wr (w.heap.size + 1) u v z).cell? ⟨g, 0, none⟩ = some (.bool x) ∧ (put3 wr (w.heap.size + 1) u v z).cell? ⟨g, 1, none⟩ = some (.slice A l c) ∧ (put3 wr (w.heap.size + 1) u v z).cell? ⟨g, 2, none⟩ = some (.slice A' l' c') :=
  (h.2.2.2.1.put3_other (by have := h.2.1; omega)).cells

set_option maxRecDepth 100000 in
set_option maxHeartbeats 6400000 in
theorem rraise_any (v1 : Value) (a : Rat) (n : Int) (hn : n.natAbs ≤ 12) (w : World) (h1 : Qr w v1 a) (hs : sz a ≤ 100) :
    Calls Tryz.prog 39 #[v1, .int .i64 n] w (GiveQ w (a ^ n)) := by
  have H1 := h1
  obtain ⟨A1, c1, A2, c2, d0, rfl, _, _, _⟩ := h1
  have k0 := Lib.hid (K2.start w (.bool (ngt a)) (.slice A1 (nd (top a)) c1) (.slice A2 (nd d0) c2) (.bool false) (.slice none 0 0) (.slice none 0 0) 54)
  have MU := fun w' v k (hb : Below w.heap.size w w') (h : Qr w' v (a ^ k)) (hk : k ≤ 12) => rprod_any v _ (a ^ k) a w' h (H1.up hb) (by have := sz_npow hs k; omega)
  have DV := fun w' v v' k (h : Qr w' v 1) (h' : Qr w' v' (a ^ k)) (hk : k ≤ 12) => rquot_any v v' 1 (a ^ k) w' h h' (by have := sz_npow hs k; rw [sz_one]; omega)
  obtain ⟨m, hm⟩ : ∃ m, n.natAbs = m := ⟨_, rfl⟩
  rw [hm] at hn
  have P0 : ∃ p, a ^ 0 = p := ⟨_, rfl⟩
  obtain ⟨p, hp⟩ := P0
  have I1 := fun w' => rintq_any 1 (by decide) (by decide) w'
  rw [show ((1 : Int) : Rat) = p by rw [← hp, Rat.pow_zero]; rfl] at I1
  rw [show (1 : Rat) = p by rw [← hp, Rat.pow_zero]] at DV
  clear hs H1
  generalize hl1 : nd (top a) = l1 at *
  generalize hl2 : nd d0 = l2 at *
  generalize hx1 : ngt a = x1 at *
  have HP := Lib.hid hp
  clear hp hl1 hl2 hx1
  rcases (show n = (m : Int) ∨ (n = -(m : Int) ∧ m ≠ 0) by omega) with e | ⟨e, m0⟩
  · have hz : a ^ n = a ^ m := by rw [e, Rat.zpow_natCast]
    rw [hz]
    subst e
    have i1 : ¬ (m : Int) < 0 := by omega
    have i2 : -(m : Int) ≤ (m : Int) := by omega
    have i3 : max (m : Int) (-(m : Int)) = (m : Int) := by omega
    have i4 : (m : Int) ≤ 12 := by omega
    clear hm hz DV
    go_enter Tryz.func39, Tryz.ntmps39
    go_wp2_with (go_at_call 37; go_loud ((refine (I1 _).mono ?_); rintro e w1 ⟨v, rfl, ⟨A3, c3, A4, c4, dd, rfl, n3, n4, hd⟩, hb⟩; have k1 := Lib.hid (PowR.start (k0.out.up hb) (show Qr w1 _ p from ⟨A3, c3, A4, c4, dd, rfl, n3, n4, hd⟩)); clear n3 n4 hd hb))
    go_loopw [11] (fun i wr => ∃ (k : Nat) (x : Bool) (A : Option Addr) (l c : Nat) (A' : Option Addr) (l' c' : Nat), k ≤ m ∧ i = .int .i64 (k : Int) ∧ Hid (PowR w wr w1.heap.size (.bool x1) (.slice A1 l1 c1) (.slice A2 l2 c2) x A l c A' l' c' (a ^ k))) (fun i _ => (m - intOf i).toNat)
    case atStart => exact ⟨0, _, _, _, _, _, _, _, Nat.zero_le _, rfl, by rw [HP.out]; exact k1⟩
    case round =>
      obtain ⟨k, x, A, l, c, A', l', c', hk, rfl, hS⟩ := hrel
      clear k1
      obtain ⟨d0, d1, d2⟩ := hS.out.three
      obtain ⟨f0, f1, f2⟩ := hS.out.2.2.2.1.frozen
      obtain ⟨b0, b1, b2⟩ := hS.out.1.1.cells
      obtain ⟨q0, q1, q2⟩ := hS.out.1.2.1.cells
      obtain ⟨g0, g1, g2⟩ := hS.out.1.2.1.frozen
      by_cases hkm : (k : Int) < (m : Int)
      · have M := MU wr _ k hS.out.1.2.2.2 hS.out.2.2.2.2 (by omega)
        rw [← Rat.pow_succ] at M
        obtain ⟨q', hq'⟩ : ∃ q, a ^ (k + 1) = q := ⟨_, rfl⟩
        rw [hq'] at M
        have HQ := Lib.hid hq'
        clear hq' MU
        generalize a ^ k = q at *
        go_wp2_with (go_at_call 38; go_loud ((with_reducible refine M.mono ?_); rintro e w2 ⟨v, rfl, ⟨A7, c7, A8, c8, dd, rfl, n7, n8, hd⟩, hb⟩; have k2 := Lib.hid (hS.out.up hb); have K3 := Lib.hid (k2.out.stored (show Qr w2 _ q' from ⟨A7, c7, A8, c8, dd, rfl, n7, n8, hd⟩)); obtain ⟨f0, f1, f2⟩ := k2.out.2.2.2.1.frozen; obtain ⟨d0, d1, d2⟩ := k2.out.three; clear n7 n8 hd hb))
        go_roundw
        case rel => exact ⟨k + 1, _, _, _, _, _, _, _, by omega, rfl, by rw [HQ.out]; exact K3⟩
        case measure => simp only [intOf]; omega
      · obtain rfl : k = m := by omega
        clear MU
        generalize a ^ k = q at *
        go_wp2
        refine bodyPost_ret (v := .agg #[.bool x, .slice A l c, .slice A' l' c']) (by simp [results, Tryz.results39, go_sem, q0, q1, q2]) rfl ?_
        exact hS.out.1.giveQ hS.out.2.2.2.2
  · have hz : a ^ n = (a ^ m)⁻¹ := by rw [e, Rat.zpow_neg, Rat.zpow_natCast]
    rw [hz]
    subst e
    have i1 : -(m : Int) < 0 := by omega
    have i2 : -(m : Int) ≤ (m : Int) := by omega
    have i3 : max (-(m : Int)) (m : Int) = (m : Int) := by omega
    have i4 : (m : Int) ≤ 12 := by omega
    clear hm hz
    go_enter Tryz.func39, Tryz.ntmps39
    go_wp2_with (go_at_call 37; go_loud ((refine (I1 _).mono ?_); rintro e w1 ⟨v, rfl, ⟨A3, c3, A4, c4, dd, rfl, n3, n4, hd⟩, hb⟩; have k1 := Lib.hid (PowR.start (k0.out.up hb) (show Qr w1 _ p from ⟨A3, c3, A4, c4, dd, rfl, n3, n4, hd⟩)); clear n3 n4 hd hb))
    go_loopw [11] (fun i wr => ∃ (k : Nat) (x : Bool) (A : Option Addr) (l c : Nat) (A' : Option Addr) (l' c' : Nat), k ≤ m ∧ i = .int .i64 (k : Int) ∧ Hid (PowR w wr w1.heap.size (.bool x1) (.slice A1 l1 c1) (.slice A2 l2 c2) x A l c A' l' c' (a ^ k))) (fun i _ => (m - intOf i).toNat)
    case atStart => exact ⟨0, _, _, _, _, _, _, _, Nat.zero_le _, rfl, by rw [HP.out]; exact k1⟩
    case round =>
      obtain ⟨k, x, A, l, c, A', l', c', hk, rfl, hS⟩ := hrel
      clear k1
      obtain ⟨d0, d1, d2⟩ := hS.out.three
      obtain ⟨f0, f1, f2⟩ := hS.out.2.2.2.1.frozen
      obtain ⟨b0, b1, b2⟩ := hS.out.1.1.cells
      obtain ⟨q0, q1, q2⟩ := hS.out.1.2.1.cells
      obtain ⟨g0, g1, g2⟩ := hS.out.1.2.1.frozen
      by_cases hkm : (k : Int) < (m : Int)
      · have M := MU wr _ k hS.out.1.2.2.2 hS.out.2.2.2.2 (by omega)
        rw [← Rat.pow_succ] at M
        obtain ⟨q', hq'⟩ : ∃ q, a ^ (k + 1) = q := ⟨_, rfl⟩
        rw [hq'] at M
        have HQ := Lib.hid hq'
        clear hq' MU DV
        generalize a ^ k = q at *
        go_wp2_with (go_at_call 38; go_loud ((with_reducible refine M.mono ?_); rintro e w2 ⟨v, rfl, ⟨A7, c7, A8, c8, dd, rfl, n7, n8, hd⟩, hb⟩; have k2 := Lib.hid (hS.out.up hb); have K3 := Lib.hid (k2.out.stored (show Qr w2 _ q' from ⟨A7, c7, A8, c8, dd, rfl, n7, n8, hd⟩)); obtain ⟨f0, f1, f2⟩ := k2.out.2.2.2.1.frozen; obtain ⟨d0, d1, d2⟩ := k2.out.three; clear n7 n8 hd hb))
        go_roundw
        case rel => exact ⟨k + 1, _, _, _, _, _, _, _, by omega, rfl, by rw [HQ.out]; exact K3⟩
        case measure => simp only [intOf]; omega
      · obtain rfl : k = m := by omega
        clear MU
        have DV := fun w' v v' h h' => DV w' v v' k h h' hn
        generalize a ^ k = q at *
        have hI : p / q = q⁻¹ := by rw [← HP.out, Rat.pow_zero, Rat.div_def, Rat.one_mul]
        rw [hI] at DV
        generalize q⁻¹ = y at *
        have kd := Lib.hid (hS.out.up (Below.drew (Below.refl _ _)))
        clear f0 f1 f2 b0 b1 b2 q0 q1 q2 g0 g1 g2
        go_wp2_with fail
        go_region_held3 (fun w' => w'.cell? ⟨w1.heap.size, 0, none⟩ = some (.bool x) ∧ w'.cell? ⟨w1.heap.size, 1, none⟩ = some (.slice A l c) ∧ w'.cell? ⟨w1.heap.size, 2, none⟩ = some (.slice A' l' c'))
          (first | (exact k3.out.put _ _ _) | (with_reducible exact k3.out.three) | (with_reducible exact k2.out.three) | (with_reducible exact kd.out.three) | go_keep)
          (first
            | (go_at_call 76; go_loud ((with_reducible refine (DV _ _ _ N2.out k2.out.q).mono ?_); rintro e w3 ⟨v, rfl, ⟨A7, c7, A8, c8, dd, rfl, n7, n8, hd⟩, hb⟩; have k3 := Lib.hid (k2.out.up hb); have NQ := Lib.hid (show Qr w3 _ y from ⟨A7, c7, A8, c8, dd, rfl, n7, n8, hd⟩); obtain ⟨d0, d1, d2⟩ := k3.out.three; obtain ⟨q0, q1, q2⟩ := k3.out.1.2.1.cells; obtain ⟨g0, g1, g2⟩ := k3.out.1.2.1.frozen; clear n7 n8 hd hb))
            | (go_at_call 37; go_loud ((refine (I1 _).mono ?_); rintro e w2 ⟨v, rfl, n2, hb⟩; have N2 := Lib.hid n2; have k2 := Lib.hid (kd.out.up hb); obtain ⟨d0, d1, d2⟩ := k2.out.three; clear n2 hb)))
        go_wp2
        refine bodyPost_ret (v := .agg #[.bool (ngt y), .slice A7 (nd (top y)) c7, .slice A8 (nd dd) c8]) (by simp [results, Tryz.results39, go_sem, q0, q1, q2]) rfl ?_
        exact k3.out.1.giveQ NQ.out

end Go.Proofs.YthjnmnepjeegiaaGreatDoor
