/- Fits of the reference; the law of the values of a type. -/
import Derived.Test.YtinoipjblkidfaaGreatDoorC19
import Derived.OpenShut
/- Fits of the reference; the law of the values of a type. -/
namespace Go.Proofs.YtinoipjblkidfaaGreatDoor
open Go.RowKit Go.Proofs.YtinoipjblkidfaaGreatDoor.Dg Go.Proofs.YtinoipjblkidfaaGreatDoor.Q Go.Proofs.YtinoipjblkidfaaGreatDoor.Num Go.Proofs.YtinoipjblkidfaaGreatDoor.Str

/-- A box, its number, and a power of two beside it. -/
def FiS (w wr : World) (g : Nat) (y : Bool) (A1 : Option Addr) (l1 c1 : Nat) (A2 : Option Addr) (l2 c2 : Nat) (q : Rat) (A : Option Addr) (c v : Nat) : Prop :=
  Rs wr g (.bool y) (.slice A1 l1 c1) (.slice A2 l2 c2) 51 ∧ g < wr.heap.size ∧ Below w.heap.size w wr ∧ Qr wr (.agg #[.bool y, .slice A1 l1 c1, .slice A2 l2 c2]) q ∧ Nt .u64 wr wr.heap.size A c v
theorem FiS.up {w w1 w2 : World} {g : Nat} {y : Bool} {A1 : Option Addr} {l1 c1 : Nat} {A2 : Option Addr} {l2 c2 : Nat} {q : Rat} {A : Option Addr} {c v : Nat} (h : FiS w w1 g y A1 l1 c1 A2 l2 c2 q A c v) (hb : Below w1.heap.size w1 w2) : FiS w w2 g y A1 l1 c1 A2 l2 c2 q A c v :=
  ⟨h.1.below hb h.2.1, Nat.lt_of_lt_of_le h.2.1 hb.size, btrans h.2.2.1 hb, h.2.2.2.1.up hb, h.2.2.2.2.up hb⟩
theorem FiS.n {w w1 : World} {g : Nat} {y : Bool} {A1 : Option Addr} {l1 c1 : Nat} {A2 : Option Addr} {l2 c2 : Nat} {q : Rat} {A A' : Option Addr} {c v c' v' : Nat} (h : FiS w w1 g y A1 l1 c1 A2 l2 c2 q A c v) (hn : Nt .u64 w1 w1.heap.size A' c' v') : FiS w w1 g y A1 l1 c1 A2 l2 c2 q A' c' v' :=
  ⟨h.1, h.2.1, h.2.2.1, h.2.2.2.1, hn⟩
theorem FiS.nt {w w1 : World} {g : Nat} {y : Bool} {A1 : Option Addr} {l1 c1 : Nat} {A2 : Option Addr} {l2 c2 : Nat} {q : Rat} {A : Option Addr} {c v : Nat} (h : FiS w w1 g y A1 l1 c1 A2 l2 c2 q A c v) : Nt .u64 w1 w1.heap.size A c v := h.2.2.2.2
theorem FiS.t {w w1 w4 : World} {g : Nat} {y : Bool} {A1 : Option Addr} {l1 c1 : Nat} {A2 : Option Addr} {l2 c2 : Nat} {q : Rat} {A : Option Addr} {c v : Nat} (h : FiS w w1 g y A1 l1 c1 A2 l2 c2 q A c v) (hb : Below w1.heap.size w1 w4) : Rs w4 g (.bool y) (.slice A1 l1 c1) (.slice A2 l2 c2) 51 ∧ g < w4.heap.size ∧ Below w.heap.size w w4 ∧ Qr w4 (.agg #[.bool y, .slice A1 l1 c1, .slice A2 l2 c2]) q := by
  have k := h.up hb
  exact ⟨k.1, k.2.1, k.2.2.1, k.2.2.2.1⟩
/-- Two boxes with their numbers. -/
def FiT (w wr : World) (g h : Nat) (y : Bool) (A1 : Option Addr) (l1 c1 : Nat) (A2 : Option Addr) (l2 c2 : Nat) (q : Rat) (y8 : Bool) (A3 : Option Addr) (l3 c3 : Nat) (A4 : Option Addr) (l4 c4 : Nat) (r : Rat) : Prop :=
  Rs wr g (.bool y) (.slice A1 l1 c1) (.slice A2 l2 c2) 51 ∧ Rs wr h (.bool y8) (.slice A3 l3 c3) (.slice A4 l4 c4) 51 ∧ g < wr.heap.size ∧ h < wr.heap.size ∧ Below w.heap.size w wr ∧ Qr wr (.agg #[.bool y, .slice A1 l1 c1, .slice A2 l2 c2]) q ∧ Qr wr (.agg #[.bool y8, .slice A3 l3 c3, .slice A4 l4 c4]) r
theorem FiT.up {w w1 w2 : World} {g h : Nat} {y : Bool} {A1 : Option Addr} {l1 c1 : Nat} {A2 : Option Addr} {l2 c2 : Nat} {q : Rat} {y8 : Bool} {A3 : Option Addr} {l3 c3 : Nat} {A4 : Option Addr} {l4 c4 : Nat} {r : Rat} (k : FiT w w1 g h y A1 l1 c1 A2 l2 c2 q y8 A3 l3 c3 A4 l4 c4 r) (hb : Below w1.heap.size w1 w2) : FiT w w2 g h y A1 l1 c1 A2 l2 c2 q y8 A3 l3 c3 A4 l4 c4 r :=
  ⟨k.1.below hb k.2.2.1, k.2.1.below hb k.2.2.2.1, Nat.lt_of_lt_of_le k.2.2.1 hb.size, Nat.lt_of_lt_of_le k.2.2.2.1 hb.size, btrans k.2.2.2.2.1 hb, k.2.2.2.2.2.1.up hb, k.2.2.2.2.2.2.up hb⟩
theorem FiT.six {w w1 : World} {g h : Nat} {y : Bool} {A1 : Option Addr} {l1 c1 : Nat} {A2 : Option Addr} {l2 c2 : Nat} {q : Rat} {y8 : Bool} {A3 : Option Addr} {l3 c3 : Nat} {A4 : Option Addr} {l4 c4 : Nat} {r : Rat} (k : FiT w w1 g h y A1 l1 c1 A2 l2 c2 q y8 A3 l3 c3 A4 l4 c4 r) :
    w1.cell? ⟨g, 0, none⟩ = some (.bool y) ∧ w1.cell? ⟨g, 1, none⟩ = some (.slice A1 l1 c1) ∧ w1.cell? ⟨g, 2, none⟩ = some (.slice A2 l2 c2) ∧ w1.cell? ⟨h, 0, none⟩ = some (.bool y8) ∧ w1.cell? ⟨h, 1, none⟩ = some (.slice A3 l3 c3) ∧ w1.cell? ⟨h, 2, none⟩ = some (.slice A4 l4 c4) := by
  obtain ⟨p0, p1, p2⟩ := k.1.cells
  obtain ⟨q0, q1, q2⟩ := k.2.1.cells
  exact ⟨p0, p1, p2, q0, q1, q2⟩
theorem FiT.f {w w1 : World} {g h : Nat} {y : Bool} {A1 : Option Addr} {l1 c1 : Nat} {A2 : Option Addr} {l2 c2 : Nat} {q : Rat} {y8 : Bool} {A3 : Option Addr} {l3 c3 : Nat} {A4 : Option Addr} {l4 c4 : Nat} {r : Rat} (k : FiT w w1 g h y A1 l1 c1 A2 l2 c2 q y8 A3 l3 c3 A4 l4 c4 r) : Qr w1 (.agg #[.bool y, .slice A1 l1 c1, .slice A2 l2 c2]) q := k.2.2.2.2.2.1
theorem FiT.r {w w1 : World} {g h : Nat} {y : Bool} {A1 : Option Addr} {l1 c1 : Nat} {A2 : Option Addr} {l2 c2 : Nat} {q : Rat} {y8 : Bool} {A3 : Option Addr} {l3 c3 : Nat} {A4 : Option Addr} {l4 c4 : Nat} {r : Rat} (k : FiT w w1 g h y A1 l1 c1 A2 l2 c2 q y8 A3 l3 c3 A4 l4 c4 r) : Qr w1 (.agg #[.bool y8, .slice A3 l3 c3, .slice A4 l4 c4]) r := k.2.2.2.2.2.2
theorem FiT.b {w w1 : World} {g h : Nat} {y : Bool} {A1 : Option Addr} {l1 c1 : Nat} {A2 : Option Addr} {l2 c2 : Nat} {q : Rat} {y8 : Bool} {A3 : Option Addr} {l3 c3 : Nat} {A4 : Option Addr} {l4 c4 : Nat} {r : Rat} (k : FiT w w1 g h y A1 l1 c1 A2 l2 c2 q y8 A3 l3 c3 A4 l4 c4 r) : Below w.heap.size w w1 := k.2.2.2.2.1
theorem sign_ge {q : Rat} : 0 ≤ sign q ↔ 0 ≤ q := by
  have := sign_neg (q := q)
  constructor
  · intro h
    exact Rat.not_lt.1 fun g => by have := this.2 g; omega
  · intro h
    rcases Int.lt_or_le (sign q) 0 with g | g
    · exact absurd (this.1 g) (Rat.not_lt.2 h)
    · exact g
theorem whole_is {q : Rat} (h : q.den = 1) : q = (q.num : Rat) := by
  have := Rat.mkRat_self q
  rw [h, mk_one] at this
  exact this.symm
/-- The bounds of a type, as signs of differences. -/
theorem fits_low {q : Rat} (h : q.den = 1) (L : Nat) : 0 ≤ sign (q - -((L : Int) : Rat)) ↔ -(L : Int) ≤ q.num := by
  rw [sign_ge]
  have e := whole_is h
  have : (0 ≤ q - -((L : Int) : Rat)) ↔ (((-(L : Int) : Int)) : Rat) ≤ (q.num : Rat) := by
    rw [← e, Rat.intCast_neg]
    constructor <;> intro g <;> grind
  rw [this, Rat.intCast_le_intCast]
theorem fits_high {q : Rat} (h : q.den = 1) (L : Nat) : sign (q - ((L : Int) : Rat)) < 0 ↔ q.num < (L : Int) := by
  rw [sign_neg]
  have e := whole_is h
  have : (q - ((L : Int) : Rat) < 0) ↔ (q.num : Rat) < ((L : Int) : Rat) := by
    rw [← e]
    constructor <;> intro g <;> grind
  rw [this, Rat.intCast_lt_intCast]
theorem sz_pow (L : Nat) (h : L ≤ 18446744073709551615) : sz ((L : Int) : Rat) ≤ 3 := sz_int _ (by omega)

set_option maxRecDepth 100000 in
set_option maxHeartbeats 3200000 in
theorem rFits_easy (k : Int) (S : ByteArray) (hs : S.size ≤ 9223372036854775807) (w : World) (h : (k < 1 ∨ 5 < k) ∨ (bl S ≠ [] ∧ num? (bl S) = none) ∨ bl S = [] ∨ k = 5) :
    Calls Tryz.prog 59 #[.int .i64 k, .string S] w fun e w' => e = .returned (.bool (qfits k (bl S))) ∧ Below w.heap.size w w' := by
  have IV := fun w' => risvalue_any S hs w'
  have e1 := emptyS S
  have b := Lib.hid (Below.refl w.heap.size w)
  obtain ⟨X, hX⟩ : ∃ X, qfits k (bl S) = X := ⟨_, rfl⟩
  rw [hX]
  unfold qfits at hX
  by_cases h1 : k < 1
  · have hb : bitsOf k = 0 := by unfold bitsOf; rw [if_neg (by omega), if_neg (by omega), if_neg (by omega), if_neg (by omega)]
    have HX := Lib.hid (show X = false by rw [← hX]; exact if_pos (.inl ⟨hb, by omega⟩))
    clear hs h hX hb
    go_enter Tryz.func59, Tryz.ntmps59
    go_wp2_with (go_at_call 115; go_loud ((refine (IV _).mono ?_); rintro e wn ⟨rfl, hb⟩; replace b := Lib.hid (btrans b.out hb); clear hb))
    go_ret
    exact ⟨by rw [HX.out]; rfl, b.out⟩
  · by_cases h2 : 5 < k
    · have hb : bitsOf k = 0 := by unfold bitsOf; rw [if_neg (by omega), if_neg (by omega), if_neg (by omega), if_neg (by omega)]
      have HX := Lib.hid (show X = false by rw [← hX]; exact if_pos (.inl ⟨hb, by omega⟩))
      clear hs h hX hb
      go_enter Tryz.func59, Tryz.ntmps59
      go_wp2_with (go_at_call 115; go_loud ((refine (IV _).mono ?_); rintro e wn ⟨rfl, hb⟩; replace b := Lib.hid (btrans b.out hb); clear hb))
      go_ret
      exact ⟨by rw [HX.out]; rfl, b.out⟩
    · have hk : ¬ (bitsOf k = 0 ∧ k ≠ 5) := by
        rintro ⟨g1, g2⟩
        unfold bitsOf at g1
        split at g1
        · cases g1
        · split at g1
          · cases g1
          · split at g1
            · cases g1
            · split at g1
              · cases g1
              · omega
      by_cases he : bl S = []
      · have HX := Lib.hid (show X = true by rw [← hX, if_neg (fun g => g.elim hk (fun g => g.1 he)), if_pos (.inl he)])
        rw [decide_eq_true he] at e1 IV
        clear hs h hX hk he
        go_enter Tryz.func59, Tryz.ntmps59
        go_wp2_with (go_at_call 115; go_loud ((refine (IV _).mono ?_); rintro e wn ⟨rfl, hb⟩; replace b := Lib.hid (btrans b.out hb); clear hb))
        go_ret
        exact ⟨by rw [HX.out]; rfl, b.out⟩
      · rw [decide_eq_false he] at e1 IV
        cases hn : num? (bl S) with
        | none =>
          rw [hn] at IV hX
          have HX := Lib.hid (show X = false by rw [← hX]; exact if_pos (.inr ⟨he, rfl⟩))
          clear hs h hX hk he hn
          go_enter Tryz.func59, Tryz.ntmps59
          go_wp2_with (go_at_call 115; go_loud ((refine (IV _).mono ?_); rintro e wn ⟨rfl, hb⟩; replace b := Lib.hid (btrans b.out hb); clear hb))
          go_ret
          exact ⟨by rw [HX.out]; rfl, b.out⟩
        | some q =>
          have h5 : k = 5 := by
            rcases h with (h | h) | h | h | h
            · omega
            · omega
            · rw [hn] at h; cases h.2
            · exact absurd h he
            · exact h
          subst h5
          rw [hn] at IV hX
          have HX := Lib.hid (show X = true by rw [← hX, if_neg (fun g => g.elim hk (fun g => nomatch g.2)), if_pos (.inr rfl)])
          clear hs h hX hk he hn
          go_enter Tryz.func59, Tryz.ntmps59
          go_wp2_with (go_at_call 115; go_loud ((refine (IV _).mono ?_); rintro e wn ⟨rfl, hb⟩; replace b := Lib.hid (btrans b.out hb); clear hb))
          go_ret
          exact ⟨by rw [HX.out]; rfl, b.out⟩

set_option maxRecDepth 100000 in
set_option maxHeartbeats 12800000 in
theorem rFits_7 (S : ByteArray) (hs : S.size ≤ 9223372036854775807) (w : World) (he : bl S ≠ []) (q : Rat) (hn : num? (bl S) = some q) :
    Calls Tryz.prog 59 #[.int .i64 1, .string S] w fun e w' => e = .returned (.bool (qfits 1 (bl S))) ∧ Below w.heap.size w w' := by
  have IV := fun w' => risvalue_any S hs w'
  have e1 := emptyS S
  have b := Lib.hid (Below.refl w.heap.size w)
  have G1 := fun w' => rget_any S hs w'
  rw [hn] at G1
  have G1 := fun w' => (G1 w').mono fun _ _ h => h.some
  obtain ⟨X, hX⟩ : ∃ X, qfits 1 (bl S) = X := ⟨_, rfl⟩
  rw [hX]
  unfold qfits at hX
  rw [show bitsOf 1 = 7 + 1 by decide, hn, if_neg (fun h => h.elim (fun g => absurd g.1 (by decide)) (fun g => nomatch g.2)), if_neg (fun h => h.elim he (fun g => absurd g (by decide)))] at hX
  rw [hn, decide_eq_false he] at IV
  rw [decide_eq_false he] at e1
  have ON := fun w' => rone_any w'
  have NT := fun w' => natOf_any 2 (by decide) w'
  have z1 := num_sz hn
  obtain ⟨LL, hLn⟩ : ∃ LL : Nat, 2 ^ 7 = LL := ⟨_, rfl⟩
  obtain ⟨L, hLL⟩ : ∃ L : Rat, ((LL : Int) : Rat) = L := ⟨_, rfl⟩
  have hLb : LL ≤ 18446744073709551615 := by rw [← hLn]; decide
  have z2 := sz_pow LL hLb
  rw [hLL] at z2
  have MK := fun w' A A' c c' h h' => rmake_any false A A' c c' (2 ^ 7) 1 w' h h' (by have := nd_64 (a := 2 ^ 7) (by decide); omega) (by rw [nd_one]; decide)
  rw [show mkRat (sg false (2 ^ 7)) 1 = L by rw [hLn, ← hLL]; exact mk_one _] at MK
  have WH := fun w' v f => rwhole_any v q w' f (by omega)
  have OP := fun w' v f => ropp_any v L w' f
  have z3 := sz_neg L
  have C1 := fun w' v v' f f' => rcmpq_any v v' q (-L) w' f f' (by omega)
  have C2 := fun w' v v' f f' => rcmpq_any v v' q L w' f f' (by omega)
  change (decide (q.den = 1 ∧ -((2 ^ 7 : Nat) : Int) ≤ q.num ∧ q.num < ((2 ^ 7 : Nat) : Int))) = X at hX
  rw [hLn] at hX
  clear hs he hn z1 z2 z3 hLb hLn
  go_enter Tryz.func59, Tryz.ntmps59
  go_wp2_with (first
    | (go_at_call 110; go_loud ((with_reducible refine (ON _).mono ?_); rintro e w2 ⟨A, c, rfl, hN, hb⟩; have K2 := Lib.hid (show FiS w w2 w1.heap.size y A1 l1 c1 A2 l2 c2 q A c 1 from ⟨L1.out.below hb S1.out, Nat.lt_of_lt_of_le S1.out hb.size, btrans b.out hb, F1.out.up hb, hN⟩); clear hN hb))
    | (go_at_call 49; go_loud ((with_reducible refine (G1 _).mono ?_); rintro e w1 ⟨y, A1, l1, c1, A2, l2, c2, rfl, hb, hF⟩; have bx := box_rs w1 (.bool y) (.slice A1 l1 c1) (.slice A2 l2 c2) 51; replace b := Lib.hid (btrans (btrans b.out hb) bx.2.1); have F1 := Lib.hid (hF.up bx.2.1); have L1 := Lib.hid bx.1; have S1 := Lib.hid bx.2.2; clear hb hF bx))
    | (go_at_call 115; go_loud ((refine (IV _).mono ?_); rintro e wn ⟨rfl, hb⟩; replace b := Lib.hid (btrans b.out hb); clear hb)))
  go_loopw [7, 37] (fun m i wr => ∃ (j : Nat) (A : Option Addr) (c : Nat), j ≤ 7 ∧ i = .int .i64 (j : Int) ∧ m = .slice A (nd (2 ^ j)) c ∧ Hid (FiS w wr w1.heap.size y A1 l1 c1 A2 l2 c2 q A c (2 ^ j))) (fun _ i _ => (7 - intOf i).toNat)
  case atStart => exact ⟨0, A, c, by decide, rfl, rfl, K2⟩
  case round =>
    clear K2
    obtain ⟨j, A, c, hj, rfl, rfl, hK⟩ := hrel
    by_cases hjN : j = 7
    · subst hjN
      have HK := Lib.hid hK.out
      clear hK
      go_wp2_with (first
        | (go_at_call 111; go_loud ((with_reducible refine (MK _ _ _ _ _ K3.out.nt N3.out).mono ?_); rintro e w4 ⟨v, rfl, ⟨AQa, cQa, AQb, cQb, dQ, rfl, n1, n2, hd⟩, hb⟩; have bx := box_rs w4 (.bool (ngt L)) (.slice AQa (nd (top L)) cQa) (.slice AQb (nd dQ) cQb) 51; have T0 := Lib.hid (show FiT w (w4.alloc (.cells #[.bool (ngt L), .slice AQa (nd (top L)) cQa, .slice AQb (nd dQ) cQb] 51)) w1.heap.size w4.heap.size y A1 l1 c1 A2 l2 c2 q (ngt L) AQa (nd (top L)) cQa AQb (nd dQ) cQb L from ⟨(K3.out.t hb).1.below bx.2.1 (K3.out.t hb).2.1, bx.1, Nat.lt_of_lt_of_le (K3.out.t hb).2.1 bx.2.1.size, bx.2.2, btrans (K3.out.t hb).2.2.1 bx.2.1, (K3.out.t hb).2.2.2.up bx.2.1, (show Qr w4 _ L from ⟨AQa, cQa, AQb, cQb, dQ, rfl, n1, n2, hd⟩).up bx.2.1⟩); clear n1 n2 hd hb bx))
        | (go_at_call 110; go_loud ((with_reducible refine (ON _).mono ?_); rintro e w3 ⟨A9, c9, rfl, hN, hb⟩; have K3 := Lib.hid (HK.out.up hb); have N3 := Lib.hid hN; clear hN hb)))
      generalize w4.alloc (.cells #[.bool (ngt L), .slice AQa (nd (top L)) cQa, .slice AQb (nd dQ) cQb] 51) = W0 at *
      generalize w1.heap.size = g5 at *
      generalize w4.heap.size = g8 at *
      clear HK K3 N3 b F1 L1 S1
      obtain ⟨p0, p1, p2, p3, p4, p5⟩ := T0.out.six
      by_cases hd : q.den = 1
      · rw [decide_eq_true hd] at WH
        have hl := fits_low hd LL
        have hh := fits_high hd LL
        rw [hLL] at hl hh
        by_cases c1x : 0 ≤ sign (q - -L)
        · have HX := Lib.hid (show X = decide (sign (q - L) < 0) by rw [← hX, decide_eq_decide]; exact ⟨fun g => hh.2 g.2.2, fun g => ⟨hd, hl.1 c1x, hh.1 g⟩⟩)
          clear hl hh hX hd
          generalize sign (q - -L) = s1 at *
          generalize sign (q - L) = s2 at *
          generalize -L = nL at *
          generalize hy8 : ngt L = y8 at *
          generalize hl3 : nd (top L) = l3 at *
          generalize hl4 : nd dQ = l4 at *
          clear hy8 hl3 hl4
          have T1 := Lib.hid (T0.out.up (Below.drew (Below.refl _ _)))
          go_region_held3 (fun w' => w'.cell? ⟨g5, 0, none⟩ = some (.bool y) ∧ w'.cell? ⟨g5, 1, none⟩ = some (.slice A1 l1 c1) ∧ w'.cell? ⟨g5, 2, none⟩ = some (.slice A2 l2 c2) ∧ w'.cell? ⟨g8, 0, none⟩ = some (.bool y8) ∧ w'.cell? ⟨g8, 1, none⟩ = some (.slice AQa l3 cQa) ∧ w'.cell? ⟨g8, 2, none⟩ = some (.slice AQb l4 cQb))
            (first | (with_reducible exact T5.out.six) | (with_reducible exact T4.out.six) | (with_reducible exact T3.out.six) | (with_reducible exact T2.out.six) | (with_reducible exact T1.out.six) | go_keep)
            (first
              | (go_at_call 55; go_loud ((with_reducible refine (C2 _ _ _ T4.out.f T4.out.r).mono ?_); rintro e u5 ⟨rfl, hb⟩; have T5 := Lib.hid (T4.out.up hb); obtain ⟨t0, t1, t2, t3, t4, t5⟩ := T5.out.six; clear hb))
              | (go_at_call 55; go_loud ((with_reducible refine (C1 _ _ _ T3.out.f F3.out).mono ?_); rintro e u4 ⟨rfl, hb⟩; have T4 := Lib.hid (T3.out.up hb); obtain ⟨t0, t1, t2, t3, t4, t5⟩ := T4.out.six; clear hb))
              | (go_at_call 52; go_loud ((with_reducible refine (OP _ _ T2.out.r).mono ?_); rintro e u3 ⟨v3, rfl, hF, hb⟩; have T3 := Lib.hid (T2.out.up hb); have F3 := Lib.hid hF; obtain ⟨t0, t1, t2, t3, t4, t5⟩ := T3.out.six; clear hF hb))
              | (go_at_call 53; go_loud ((with_reducible refine (WH _ _ T1.out.f).mono ?_); rintro e u2 ⟨rfl, hb⟩; have T2 := Lib.hid (T1.out.up hb); obtain ⟨t0, t1, t2, t3, t4, t5⟩ := T2.out.six; clear hb)))
          go_wp2
          go_ret
          exact ⟨by rw [HX.out]; rfl, T5.out.b⟩
        · have HX := Lib.hid (show X = false by rw [← hX]; exact decide_eq_false (fun g => c1x (hl.2 g.2.1)))
          clear hl hh hX hd C2
          generalize sign (q - -L) = s1 at *
          generalize -L = nL at *
          generalize hy8 : ngt L = y8 at *
          generalize hl3 : nd (top L) = l3 at *
          generalize hl4 : nd dQ = l4 at *
          clear hy8 hl3 hl4
          first
            | (go_region_with (first
                | (go_at_call 55; ((with_reducible refine (C1 _ _ _ (T3.out.up (by first | exact Below.refl _ _ | exact Below.drew (Below.refl _ _) | exact below_drewN (Below.refl _ _) _)).f (F3.out.up (by first | exact Below.refl _ _ | exact Below.drew (Below.refl _ _) | exact below_drewN (Below.refl _ _) _))).mono ?_); rintro e u4 ⟨rfl, hb⟩; have T4 := Lib.hid ((T3.out.up (by first | exact Below.refl _ _ | exact Below.drew (Below.refl _ _) | exact below_drewN (Below.refl _ _) _)).up hb); obtain ⟨t0, t1, t2, t3, t4, t5⟩ := T4.out.six; clear hb))
                | (go_at_call 52; ((with_reducible refine (OP _ _ (T2.out.up (by first | exact Below.refl _ _ | exact Below.drew (Below.refl _ _) | exact below_drewN (Below.refl _ _) _)).r).mono ?_); rintro e u3 ⟨v3, rfl, hF, hb⟩; have T3 := Lib.hid ((T2.out.up (by first | exact Below.refl _ _ | exact Below.drew (Below.refl _ _) | exact below_drewN (Below.refl _ _) _)).up hb); have F3 := Lib.hid hF; obtain ⟨t0, t1, t2, t3, t4, t5⟩ := T3.out.six; clear hF hb))
                | (go_at_call 53; ((with_reducible refine (WH _ _ (T0.out.up (by first | exact Below.refl _ _ | exact Below.drew (Below.refl _ _) | exact below_drewN (Below.refl _ _) _)).f).mono ?_); rintro e u2 ⟨rfl, hb⟩; have T2 := Lib.hid ((T0.out.up (by first | exact Below.refl _ _ | exact Below.drew (Below.refl _ _) | exact below_drewN (Below.refl _ _) _)).up hb); obtain ⟨t0, t1, t2, t3, t4, t5⟩ := T2.out.six; clear hb))))
            | fail
          all_goals go_wp2
          all_goals go_ret
          all_goals exact ⟨by rw [HX.out]; rfl, (T4.out.up (by first | exact Below.refl _ _ | exact Below.drew (Below.refl _ _) | exact below_drewN (Below.refl _ _) _)).b⟩
      · rw [decide_eq_false hd] at WH
        have HX := Lib.hid (show X = false by rw [← hX]; exact decide_eq_false (fun g => hd g.1))
        clear hX hd C1 C2
        generalize hy8 : ngt L = y8 at *
        generalize hl3 : nd (top L) = l3 at *
        generalize hl4 : nd dQ = l4 at *
        clear hy8 hl3 hl4
        first
          | (go_region_with (go_at_call 53; ((with_reducible refine (WH _ _ (T0.out.up (by first | exact Below.refl _ _ | exact Below.drew (Below.refl _ _) | exact below_drewN (Below.refl _ _) _)).f).mono ?_); rintro e u2 ⟨rfl, hb⟩; have T2 := Lib.hid ((T0.out.up (by first | exact Below.refl _ _ | exact Below.drew (Below.refl _ _) | exact below_drewN (Below.refl _ _) _)).up hb); obtain ⟨t0, t1, t2, t3, t4, t5⟩ := T2.out.six; clear hb)))
          | fail
        all_goals go_wp2
        all_goals go_ret
        all_goals exact ⟨by rw [HX.out]; rfl, (T2.out.up (by first | exact Below.refl _ _ | exact Below.drew (Below.refl _ _) | exact below_drewN (Below.refl _ _) _)).b⟩
    · have i1 : (j : Int) < 7 := by omega
      have np : nd (2 ^ j) ≤ 100 := by
        have h1 : 2 ^ j ≤ 2 ^ 7 := Nat.pow_le_pow_right (by decide) hj
        have h2 : (2 : Nat) ^ 7 ≤ 18446744073709551615 := by decide
        have := nd_64 (a := 2 ^ j) (by omega)
        omega
      have MU := fun w' A A' c c' f f' => (rmul_any A A' c c' (2 ^ j) 2 w' f f' (by omega) (by have := nd_small (a := 2) (by decide); omega)).mono fun _ _ h => GiveO.n h
      rw [← Nat.pow_succ] at MU
      have HK := Lib.hid hK.out
      clear hK hjN np
      go_wp2_with (first
        | (go_at_call 112; go_loud ((with_reducible refine (MU _ _ _ _ _ K3.out.nt N3.out).mono ?_); rintro e w4 ⟨A8, c8, rfl, hN, hb⟩; have K4 := Lib.hid ((K3.out.up hb).n hN); clear hN hb))
        | (go_at_call 88; go_loud ((refine (NT _).mono ?_); rintro e w3 ⟨A9, c9, rfl, hN, hb⟩; have K3 := Lib.hid (HK.out.up hb); have N3 := Lib.hid hN; clear hN hb)))
      go_roundw
      case rel => exact ⟨j + 1, A8, c8, by omega, by go_num, rfl, K4⟩
      case measure => simp only [intOf]; omega

set_option maxRecDepth 100000 in
set_option maxHeartbeats 12800000 in
theorem rFits_15 (S : ByteArray) (hs : S.size ≤ 9223372036854775807) (w : World) (he : bl S ≠ []) (q : Rat) (hn : num? (bl S) = some q) :
    Calls Tryz.prog 59 #[.int .i64 2, .string S] w fun e w' => e = .returned (.bool (qfits 2 (bl S))) ∧ Below w.heap.size w w' := by
  have IV := fun w' => risvalue_any S hs w'
  have e1 := emptyS S
  have b := Lib.hid (Below.refl w.heap.size w)
  have G1 := fun w' => rget_any S hs w'
  rw [hn] at G1
  have G1 := fun w' => (G1 w').mono fun _ _ h => h.some
  obtain ⟨X, hX⟩ : ∃ X, qfits 2 (bl S) = X := ⟨_, rfl⟩
  rw [hX]
  unfold qfits at hX
  rw [show bitsOf 2 = 15 + 1 by decide, hn, if_neg (fun h => h.elim (fun g => absurd g.1 (by decide)) (fun g => nomatch g.2)), if_neg (fun h => h.elim he (fun g => absurd g (by decide)))] at hX
  rw [hn, decide_eq_false he] at IV
  rw [decide_eq_false he] at e1
  have ON := fun w' => rone_any w'
  have NT := fun w' => natOf_any 2 (by decide) w'
  have z1 := num_sz hn
  obtain ⟨LL, hLn⟩ : ∃ LL : Nat, 2 ^ 15 = LL := ⟨_, rfl⟩
  obtain ⟨L, hLL⟩ : ∃ L : Rat, ((LL : Int) : Rat) = L := ⟨_, rfl⟩
  have hLb : LL ≤ 18446744073709551615 := by rw [← hLn]; decide
  have z2 := sz_pow LL hLb
  rw [hLL] at z2
  have MK := fun w' A A' c c' h h' => rmake_any false A A' c c' (2 ^ 15) 1 w' h h' (by have := nd_64 (a := 2 ^ 15) (by decide); omega) (by rw [nd_one]; decide)
  rw [show mkRat (sg false (2 ^ 15)) 1 = L by rw [hLn, ← hLL]; exact mk_one _] at MK
  have WH := fun w' v f => rwhole_any v q w' f (by omega)
  have OP := fun w' v f => ropp_any v L w' f
  have z3 := sz_neg L
  have C1 := fun w' v v' f f' => rcmpq_any v v' q (-L) w' f f' (by omega)
  have C2 := fun w' v v' f f' => rcmpq_any v v' q L w' f f' (by omega)
  change (decide (q.den = 1 ∧ -((2 ^ 15 : Nat) : Int) ≤ q.num ∧ q.num < ((2 ^ 15 : Nat) : Int))) = X at hX
  rw [hLn] at hX
  clear hs he hn z1 z2 z3 hLb hLn
  go_enter Tryz.func59, Tryz.ntmps59
  go_wp2_with (first
    | (go_at_call 110; go_loud ((with_reducible refine (ON _).mono ?_); rintro e w2 ⟨A, c, rfl, hN, hb⟩; have K2 := Lib.hid (show FiS w w2 w1.heap.size y A1 l1 c1 A2 l2 c2 q A c 1 from ⟨L1.out.below hb S1.out, Nat.lt_of_lt_of_le S1.out hb.size, btrans b.out hb, F1.out.up hb, hN⟩); clear hN hb))
    | (go_at_call 49; go_loud ((with_reducible refine (G1 _).mono ?_); rintro e w1 ⟨y, A1, l1, c1, A2, l2, c2, rfl, hb, hF⟩; have bx := box_rs w1 (.bool y) (.slice A1 l1 c1) (.slice A2 l2 c2) 51; replace b := Lib.hid (btrans (btrans b.out hb) bx.2.1); have F1 := Lib.hid (hF.up bx.2.1); have L1 := Lib.hid bx.1; have S1 := Lib.hid bx.2.2; clear hb hF bx))
    | (go_at_call 115; go_loud ((refine (IV _).mono ?_); rintro e wn ⟨rfl, hb⟩; replace b := Lib.hid (btrans b.out hb); clear hb)))
  go_loopw [7, 37] (fun m i wr => ∃ (j : Nat) (A : Option Addr) (c : Nat), j ≤ 15 ∧ i = .int .i64 (j : Int) ∧ m = .slice A (nd (2 ^ j)) c ∧ Hid (FiS w wr w1.heap.size y A1 l1 c1 A2 l2 c2 q A c (2 ^ j))) (fun _ i _ => (15 - intOf i).toNat)
  case atStart => exact ⟨0, A, c, by decide, rfl, rfl, K2⟩
  case round =>
    clear K2
    obtain ⟨j, A, c, hj, rfl, rfl, hK⟩ := hrel
    by_cases hjN : j = 15
    · subst hjN
      have HK := Lib.hid hK.out
      clear hK
      go_wp2_with (first
        | (go_at_call 111; go_loud ((with_reducible refine (MK _ _ _ _ _ K3.out.nt N3.out).mono ?_); rintro e w4 ⟨v, rfl, ⟨AQa, cQa, AQb, cQb, dQ, rfl, n1, n2, hd⟩, hb⟩; have bx := box_rs w4 (.bool (ngt L)) (.slice AQa (nd (top L)) cQa) (.slice AQb (nd dQ) cQb) 51; have T0 := Lib.hid (show FiT w (w4.alloc (.cells #[.bool (ngt L), .slice AQa (nd (top L)) cQa, .slice AQb (nd dQ) cQb] 51)) w1.heap.size w4.heap.size y A1 l1 c1 A2 l2 c2 q (ngt L) AQa (nd (top L)) cQa AQb (nd dQ) cQb L from ⟨(K3.out.t hb).1.below bx.2.1 (K3.out.t hb).2.1, bx.1, Nat.lt_of_lt_of_le (K3.out.t hb).2.1 bx.2.1.size, bx.2.2, btrans (K3.out.t hb).2.2.1 bx.2.1, (K3.out.t hb).2.2.2.up bx.2.1, (show Qr w4 _ L from ⟨AQa, cQa, AQb, cQb, dQ, rfl, n1, n2, hd⟩).up bx.2.1⟩); clear n1 n2 hd hb bx))
        | (go_at_call 110; go_loud ((with_reducible refine (ON _).mono ?_); rintro e w3 ⟨A9, c9, rfl, hN, hb⟩; have K3 := Lib.hid (HK.out.up hb); have N3 := Lib.hid hN; clear hN hb)))
      generalize w4.alloc (.cells #[.bool (ngt L), .slice AQa (nd (top L)) cQa, .slice AQb (nd dQ) cQb] 51) = W0 at *
      generalize w1.heap.size = g5 at *
      generalize w4.heap.size = g8 at *
      clear HK K3 N3 b F1 L1 S1
      obtain ⟨p0, p1, p2, p3, p4, p5⟩ := T0.out.six
      by_cases hd : q.den = 1
      · rw [decide_eq_true hd] at WH
        have hl := fits_low hd LL
        have hh := fits_high hd LL
        rw [hLL] at hl hh
        by_cases c1x : 0 ≤ sign (q - -L)
        · have HX := Lib.hid (show X = decide (sign (q - L) < 0) by rw [← hX, decide_eq_decide]; exact ⟨fun g => hh.2 g.2.2, fun g => ⟨hd, hl.1 c1x, hh.1 g⟩⟩)
          clear hl hh hX hd
          generalize sign (q - -L) = s1 at *
          generalize sign (q - L) = s2 at *
          generalize -L = nL at *
          generalize hy8 : ngt L = y8 at *
          generalize hl3 : nd (top L) = l3 at *
          generalize hl4 : nd dQ = l4 at *
          clear hy8 hl3 hl4
          have T1 := Lib.hid (T0.out.up (Below.drew (Below.refl _ _)))
          go_region_held3 (fun w' => w'.cell? ⟨g5, 0, none⟩ = some (.bool y) ∧ w'.cell? ⟨g5, 1, none⟩ = some (.slice A1 l1 c1) ∧ w'.cell? ⟨g5, 2, none⟩ = some (.slice A2 l2 c2) ∧ w'.cell? ⟨g8, 0, none⟩ = some (.bool y8) ∧ w'.cell? ⟨g8, 1, none⟩ = some (.slice AQa l3 cQa) ∧ w'.cell? ⟨g8, 2, none⟩ = some (.slice AQb l4 cQb))
            (first | (with_reducible exact T5.out.six) | (with_reducible exact T4.out.six) | (with_reducible exact T3.out.six) | (with_reducible exact T2.out.six) | (with_reducible exact T1.out.six) | go_keep)
            (first
              | (go_at_call 55; go_loud ((with_reducible refine (C2 _ _ _ T4.out.f T4.out.r).mono ?_); rintro e u5 ⟨rfl, hb⟩; have T5 := Lib.hid (T4.out.up hb); obtain ⟨t0, t1, t2, t3, t4, t5⟩ := T5.out.six; clear hb))
              | (go_at_call 55; go_loud ((with_reducible refine (C1 _ _ _ T3.out.f F3.out).mono ?_); rintro e u4 ⟨rfl, hb⟩; have T4 := Lib.hid (T3.out.up hb); obtain ⟨t0, t1, t2, t3, t4, t5⟩ := T4.out.six; clear hb))
              | (go_at_call 52; go_loud ((with_reducible refine (OP _ _ T2.out.r).mono ?_); rintro e u3 ⟨v3, rfl, hF, hb⟩; have T3 := Lib.hid (T2.out.up hb); have F3 := Lib.hid hF; obtain ⟨t0, t1, t2, t3, t4, t5⟩ := T3.out.six; clear hF hb))
              | (go_at_call 53; go_loud ((with_reducible refine (WH _ _ T1.out.f).mono ?_); rintro e u2 ⟨rfl, hb⟩; have T2 := Lib.hid (T1.out.up hb); obtain ⟨t0, t1, t2, t3, t4, t5⟩ := T2.out.six; clear hb)))
          go_wp2
          go_ret
          exact ⟨by rw [HX.out]; rfl, T5.out.b⟩
        · have HX := Lib.hid (show X = false by rw [← hX]; exact decide_eq_false (fun g => c1x (hl.2 g.2.1)))
          clear hl hh hX hd C2
          generalize sign (q - -L) = s1 at *
          generalize -L = nL at *
          generalize hy8 : ngt L = y8 at *
          generalize hl3 : nd (top L) = l3 at *
          generalize hl4 : nd dQ = l4 at *
          clear hy8 hl3 hl4
          first
            | (go_region_with (first
                | (go_at_call 55; ((with_reducible refine (C1 _ _ _ (T3.out.up (by first | exact Below.refl _ _ | exact Below.drew (Below.refl _ _) | exact below_drewN (Below.refl _ _) _)).f (F3.out.up (by first | exact Below.refl _ _ | exact Below.drew (Below.refl _ _) | exact below_drewN (Below.refl _ _) _))).mono ?_); rintro e u4 ⟨rfl, hb⟩; have T4 := Lib.hid ((T3.out.up (by first | exact Below.refl _ _ | exact Below.drew (Below.refl _ _) | exact below_drewN (Below.refl _ _) _)).up hb); obtain ⟨t0, t1, t2, t3, t4, t5⟩ := T4.out.six; clear hb))
                | (go_at_call 52; ((with_reducible refine (OP _ _ (T2.out.up (by first | exact Below.refl _ _ | exact Below.drew (Below.refl _ _) | exact below_drewN (Below.refl _ _) _)).r).mono ?_); rintro e u3 ⟨v3, rfl, hF, hb⟩; have T3 := Lib.hid ((T2.out.up (by first | exact Below.refl _ _ | exact Below.drew (Below.refl _ _) | exact below_drewN (Below.refl _ _) _)).up hb); have F3 := Lib.hid hF; obtain ⟨t0, t1, t2, t3, t4, t5⟩ := T3.out.six; clear hF hb))
                | (go_at_call 53; ((with_reducible refine (WH _ _ (T0.out.up (by first | exact Below.refl _ _ | exact Below.drew (Below.refl _ _) | exact below_drewN (Below.refl _ _) _)).f).mono ?_); rintro e u2 ⟨rfl, hb⟩; have T2 := Lib.hid ((T0.out.up (by first | exact Below.refl _ _ | exact Below.drew (Below.refl _ _) | exact below_drewN (Below.refl _ _) _)).up hb); obtain ⟨t0, t1, t2, t3, t4, t5⟩ := T2.out.six; clear hb))))
            | fail
          all_goals go_wp2
          all_goals go_ret
          all_goals exact ⟨by rw [HX.out]; rfl, (T4.out.up (by first | exact Below.refl _ _ | exact Below.drew (Below.refl _ _) | exact below_drewN (Below.refl _ _) _)).b⟩
      · rw [decide_eq_false hd] at WH
        have HX := Lib.hid (show X = false by rw [← hX]; exact decide_eq_false (fun g => hd g.1))
        clear hX hd C1 C2
        generalize hy8 : ngt L = y8 at *
        generalize hl3 : nd (top L) = l3 at *
        generalize hl4 : nd dQ = l4 at *
        clear hy8 hl3 hl4
        first
          | (go_region_with (go_at_call 53; ((with_reducible refine (WH _ _ (T0.out.up (by first | exact Below.refl _ _ | exact Below.drew (Below.refl _ _) | exact below_drewN (Below.refl _ _) _)).f).mono ?_); rintro e u2 ⟨rfl, hb⟩; have T2 := Lib.hid ((T0.out.up (by first | exact Below.refl _ _ | exact Below.drew (Below.refl _ _) | exact below_drewN (Below.refl _ _) _)).up hb); obtain ⟨t0, t1, t2, t3, t4, t5⟩ := T2.out.six; clear hb)))
          | fail
        all_goals go_wp2
        all_goals go_ret
        all_goals exact ⟨by rw [HX.out]; rfl, (T2.out.up (by first | exact Below.refl _ _ | exact Below.drew (Below.refl _ _) | exact below_drewN (Below.refl _ _) _)).b⟩
    · have i1 : (j : Int) < 15 := by omega
      have np : nd (2 ^ j) ≤ 100 := by
        have h1 : 2 ^ j ≤ 2 ^ 15 := Nat.pow_le_pow_right (by decide) hj
        have h2 : (2 : Nat) ^ 15 ≤ 18446744073709551615 := by decide
        have := nd_64 (a := 2 ^ j) (by omega)
        omega
      have MU := fun w' A A' c c' f f' => (rmul_any A A' c c' (2 ^ j) 2 w' f f' (by omega) (by have := nd_small (a := 2) (by decide); omega)).mono fun _ _ h => GiveO.n h
      rw [← Nat.pow_succ] at MU
      have HK := Lib.hid hK.out
      clear hK hjN np
      go_wp2_with (first
        | (go_at_call 112; go_loud ((with_reducible refine (MU _ _ _ _ _ K3.out.nt N3.out).mono ?_); rintro e w4 ⟨A8, c8, rfl, hN, hb⟩; have K4 := Lib.hid ((K3.out.up hb).n hN); clear hN hb))
        | (go_at_call 88; go_loud ((refine (NT _).mono ?_); rintro e w3 ⟨A9, c9, rfl, hN, hb⟩; have K3 := Lib.hid (HK.out.up hb); have N3 := Lib.hid hN; clear hN hb)))
      go_roundw
      case rel => exact ⟨j + 1, A8, c8, by omega, by go_num, rfl, K4⟩
      case measure => simp only [intOf]; omega

set_option maxRecDepth 100000 in
set_option maxHeartbeats 12800000 in
theorem rFits_31 (S : ByteArray) (hs : S.size ≤ 9223372036854775807) (w : World) (he : bl S ≠ []) (q : Rat) (hn : num? (bl S) = some q) :
    Calls Tryz.prog 59 #[.int .i64 3, .string S] w fun e w' => e = .returned (.bool (qfits 3 (bl S))) ∧ Below w.heap.size w w' := by
  have IV := fun w' => risvalue_any S hs w'
  have e1 := emptyS S
  have b := Lib.hid (Below.refl w.heap.size w)
  have G1 := fun w' => rget_any S hs w'
  rw [hn] at G1
  have G1 := fun w' => (G1 w').mono fun _ _ h => h.some
  obtain ⟨X, hX⟩ : ∃ X, qfits 3 (bl S) = X := ⟨_, rfl⟩
  rw [hX]
  unfold qfits at hX
  rw [show bitsOf 3 = 31 + 1 by decide, hn, if_neg (fun h => h.elim (fun g => absurd g.1 (by decide)) (fun g => nomatch g.2)), if_neg (fun h => h.elim he (fun g => absurd g (by decide)))] at hX
  rw [hn, decide_eq_false he] at IV
  rw [decide_eq_false he] at e1
  have ON := fun w' => rone_any w'
  have NT := fun w' => natOf_any 2 (by decide) w'
  have z1 := num_sz hn
  obtain ⟨LL, hLn⟩ : ∃ LL : Nat, 2 ^ 31 = LL := ⟨_, rfl⟩
  obtain ⟨L, hLL⟩ : ∃ L : Rat, ((LL : Int) : Rat) = L := ⟨_, rfl⟩
  have hLb : LL ≤ 18446744073709551615 := by rw [← hLn]; decide
  have z2 := sz_pow LL hLb
  rw [hLL] at z2
  have MK := fun w' A A' c c' h h' => rmake_any false A A' c c' (2 ^ 31) 1 w' h h' (by have := nd_64 (a := 2 ^ 31) (by decide); omega) (by rw [nd_one]; decide)
  rw [show mkRat (sg false (2 ^ 31)) 1 = L by rw [hLn, ← hLL]; exact mk_one _] at MK
  have WH := fun w' v f => rwhole_any v q w' f (by omega)
  have OP := fun w' v f => ropp_any v L w' f
  have z3 := sz_neg L
  have C1 := fun w' v v' f f' => rcmpq_any v v' q (-L) w' f f' (by omega)
  have C2 := fun w' v v' f f' => rcmpq_any v v' q L w' f f' (by omega)
  change (decide (q.den = 1 ∧ -((2 ^ 31 : Nat) : Int) ≤ q.num ∧ q.num < ((2 ^ 31 : Nat) : Int))) = X at hX
  rw [hLn] at hX
  clear hs he hn z1 z2 z3 hLb hLn
  go_enter Tryz.func59, Tryz.ntmps59
  go_wp2_with (first
    | (go_at_call 110; go_loud ((with_reducible refine (ON _).mono ?_); rintro e w2 ⟨A, c, rfl, hN, hb⟩; have K2 := Lib.hid (show FiS w w2 w1.heap.size y A1 l1 c1 A2 l2 c2 q A c 1 from ⟨L1.out.below hb S1.out, Nat.lt_of_lt_of_le S1.out hb.size, btrans b.out hb, F1.out.up hb, hN⟩); clear hN hb))
    | (go_at_call 49; go_loud ((with_reducible refine (G1 _).mono ?_); rintro e w1 ⟨y, A1, l1, c1, A2, l2, c2, rfl, hb, hF⟩; have bx := box_rs w1 (.bool y) (.slice A1 l1 c1) (.slice A2 l2 c2) 51; replace b := Lib.hid (btrans (btrans b.out hb) bx.2.1); have F1 := Lib.hid (hF.up bx.2.1); have L1 := Lib.hid bx.1; have S1 := Lib.hid bx.2.2; clear hb hF bx))
    | (go_at_call 115; go_loud ((refine (IV _).mono ?_); rintro e wn ⟨rfl, hb⟩; replace b := Lib.hid (btrans b.out hb); clear hb)))
  go_loopw [7, 37] (fun m i wr => ∃ (j : Nat) (A : Option Addr) (c : Nat), j ≤ 31 ∧ i = .int .i64 (j : Int) ∧ m = .slice A (nd (2 ^ j)) c ∧ Hid (FiS w wr w1.heap.size y A1 l1 c1 A2 l2 c2 q A c (2 ^ j))) (fun _ i _ => (31 - intOf i).toNat)
  case atStart => exact ⟨0, A, c, by decide, rfl, rfl, K2⟩
  case round =>
    clear K2
    obtain ⟨j, A, c, hj, rfl, rfl, hK⟩ := hrel
    by_cases hjN : j = 31
    · subst hjN
      have HK := Lib.hid hK.out
      clear hK
      go_wp2_with (first
        | (go_at_call 111; go_loud ((with_reducible refine (MK _ _ _ _ _ K3.out.nt N3.out).mono ?_); rintro e w4 ⟨v, rfl, ⟨AQa, cQa, AQb, cQb, dQ, rfl, n1, n2, hd⟩, hb⟩; have bx := box_rs w4 (.bool (ngt L)) (.slice AQa (nd (top L)) cQa) (.slice AQb (nd dQ) cQb) 51; have T0 := Lib.hid (show FiT w (w4.alloc (.cells #[.bool (ngt L), .slice AQa (nd (top L)) cQa, .slice AQb (nd dQ) cQb] 51)) w1.heap.size w4.heap.size y A1 l1 c1 A2 l2 c2 q (ngt L) AQa (nd (top L)) cQa AQb (nd dQ) cQb L from ⟨(K3.out.t hb).1.below bx.2.1 (K3.out.t hb).2.1, bx.1, Nat.lt_of_lt_of_le (K3.out.t hb).2.1 bx.2.1.size, bx.2.2, btrans (K3.out.t hb).2.2.1 bx.2.1, (K3.out.t hb).2.2.2.up bx.2.1, (show Qr w4 _ L from ⟨AQa, cQa, AQb, cQb, dQ, rfl, n1, n2, hd⟩).up bx.2.1⟩); clear n1 n2 hd hb bx))
        | (go_at_call 110; go_loud ((with_reducible refine (ON _).mono ?_); rintro e w3 ⟨A9, c9, rfl, hN, hb⟩; have K3 := Lib.hid (HK.out.up hb); have N3 := Lib.hid hN; clear hN hb)))
      generalize w4.alloc (.cells #[.bool (ngt L), .slice AQa (nd (top L)) cQa, .slice AQb (nd dQ) cQb] 51) = W0 at *
      generalize w1.heap.size = g5 at *
      generalize w4.heap.size = g8 at *
      clear HK K3 N3 b F1 L1 S1
      obtain ⟨p0, p1, p2, p3, p4, p5⟩ := T0.out.six
      by_cases hd : q.den = 1
      · rw [decide_eq_true hd] at WH
        have hl := fits_low hd LL
        have hh := fits_high hd LL
        rw [hLL] at hl hh
        by_cases c1x : 0 ≤ sign (q - -L)
        · have HX := Lib.hid (show X = decide (sign (q - L) < 0) by rw [← hX, decide_eq_decide]; exact ⟨fun g => hh.2 g.2.2, fun g => ⟨hd, hl.1 c1x, hh.1 g⟩⟩)
          clear hl hh hX hd
          generalize sign (q - -L) = s1 at *
          generalize sign (q - L) = s2 at *
          generalize -L = nL at *
          generalize hy8 : ngt L = y8 at *
          generalize hl3 : nd (top L) = l3 at *
          generalize hl4 : nd dQ = l4 at *
          clear hy8 hl3 hl4
          have T1 := Lib.hid (T0.out.up (Below.drew (Below.refl _ _)))
          go_region_held3 (fun w' => w'.cell? ⟨g5, 0, none⟩ = some (.bool y) ∧ w'.cell? ⟨g5, 1, none⟩ = some (.slice A1 l1 c1) ∧ w'.cell? ⟨g5, 2, none⟩ = some (.slice A2 l2 c2) ∧ w'.cell? ⟨g8, 0, none⟩ = some (.bool y8) ∧ w'.cell? ⟨g8, 1, none⟩ = some (.slice AQa l3 cQa) ∧ w'.cell? ⟨g8, 2, none⟩ = some (.slice AQb l4 cQb))
            (first | (with_reducible exact T5.out.six) | (with_reducible exact T4.out.six) | (with_reducible exact T3.out.six) | (with_reducible exact T2.out.six) | (with_reducible exact T1.out.six) | go_keep)
            (first
              | (go_at_call 55; go_loud ((with_reducible refine (C2 _ _ _ T4.out.f T4.out.r).mono ?_); rintro e u5 ⟨rfl, hb⟩; have T5 := Lib.hid (T4.out.up hb); obtain ⟨t0, t1, t2, t3, t4, t5⟩ := T5.out.six; clear hb))
              | (go_at_call 55; go_loud ((with_reducible refine (C1 _ _ _ T3.out.f F3.out).mono ?_); rintro e u4 ⟨rfl, hb⟩; have T4 := Lib.hid (T3.out.up hb); obtain ⟨t0, t1, t2, t3, t4, t5⟩ := T4.out.six; clear hb))
              | (go_at_call 52; go_loud ((with_reducible refine (OP _ _ T2.out.r).mono ?_); rintro e u3 ⟨v3, rfl, hF, hb⟩; have T3 := Lib.hid (T2.out.up hb); have F3 := Lib.hid hF; obtain ⟨t0, t1, t2, t3, t4, t5⟩ := T3.out.six; clear hF hb))
              | (go_at_call 53; go_loud ((with_reducible refine (WH _ _ T1.out.f).mono ?_); rintro e u2 ⟨rfl, hb⟩; have T2 := Lib.hid (T1.out.up hb); obtain ⟨t0, t1, t2, t3, t4, t5⟩ := T2.out.six; clear hb)))
          go_wp2
          go_ret
          exact ⟨by rw [HX.out]; rfl, T5.out.b⟩
        · have HX := Lib.hid (show X = false by rw [← hX]; exact decide_eq_false (fun g => c1x (hl.2 g.2.1)))
          clear hl hh hX hd C2
          generalize sign (q - -L) = s1 at *
          generalize -L = nL at *
          generalize hy8 : ngt L = y8 at *
          generalize hl3 : nd (top L) = l3 at *
          generalize hl4 : nd dQ = l4 at *
          clear hy8 hl3 hl4
          first
            | (go_region_with (first
                | (go_at_call 55; ((with_reducible refine (C1 _ _ _ (T3.out.up (by first | exact Below.refl _ _ | exact Below.drew (Below.refl _ _) | exact below_drewN (Below.refl _ _) _)).f (F3.out.up (by first | exact Below.refl _ _ | exact Below.drew (Below.refl _ _) | exact below_drewN (Below.refl _ _) _))).mono ?_); rintro e u4 ⟨rfl, hb⟩; have T4 := Lib.hid ((T3.out.up (by first | exact Below.refl _ _ | exact Below.drew (Below.refl _ _) | exact below_drewN (Below.refl _ _) _)).up hb); obtain ⟨t0, t1, t2, t3, t4, t5⟩ := T4.out.six; clear hb))
                | (go_at_call 52; ((with_reducible refine (OP _ _ (T2.out.up (by first | exact Below.refl _ _ | exact Below.drew (Below.refl _ _) | exact below_drewN (Below.refl _ _) _)).r).mono ?_); rintro e u3 ⟨v3, rfl, hF, hb⟩; have T3 := Lib.hid ((T2.out.up (by first | exact Below.refl _ _ | exact Below.drew (Below.refl _ _) | exact below_drewN (Below.refl _ _) _)).up hb); have F3 := Lib.hid hF; obtain ⟨t0, t1, t2, t3, t4, t5⟩ := T3.out.six; clear hF hb))
                | (go_at_call 53; ((with_reducible refine (WH _ _ (T0.out.up (by first | exact Below.refl _ _ | exact Below.drew (Below.refl _ _) | exact below_drewN (Below.refl _ _) _)).f).mono ?_); rintro e u2 ⟨rfl, hb⟩; have T2 := Lib.hid ((T0.out.up (by first | exact Below.refl _ _ | exact Below.drew (Below.refl _ _) | exact below_drewN (Below.refl _ _) _)).up hb); obtain ⟨t0, t1, t2, t3, t4, t5⟩ := T2.out.six; clear hb))))
            | fail
          all_goals go_wp2
          all_goals go_ret
          all_goals exact ⟨by rw [HX.out]; rfl, (T4.out.up (by first | exact Below.refl _ _ | exact Below.drew (Below.refl _ _) | exact below_drewN (Below.refl _ _) _)).b⟩
      · rw [decide_eq_false hd] at WH
        have HX := Lib.hid (show X = false by rw [← hX]; exact decide_eq_false (fun g => hd g.1))
        clear hX hd C1 C2
        generalize hy8 : ngt L = y8 at *
        generalize hl3 : nd (top L) = l3 at *
        generalize hl4 : nd dQ = l4 at *
        clear hy8 hl3 hl4
        first
          | (go_region_with (go_at_call 53; ((with_reducible refine (WH _ _ (T0.out.up (by first | exact Below.refl _ _ | exact Below.drew (Below.refl _ _) | exact below_drewN (Below.refl _ _) _)).f).mono ?_); rintro e u2 ⟨rfl, hb⟩; have T2 := Lib.hid ((T0.out.up (by first | exact Below.refl _ _ | exact Below.drew (Below.refl _ _) | exact below_drewN (Below.refl _ _) _)).up hb); obtain ⟨t0, t1, t2, t3, t4, t5⟩ := T2.out.six; clear hb)))
          | fail
        all_goals go_wp2
        all_goals go_ret
        all_goals exact ⟨by rw [HX.out]; rfl, (T2.out.up (by first | exact Below.refl _ _ | exact Below.drew (Below.refl _ _) | exact below_drewN (Below.refl _ _) _)).b⟩
    · have i1 : (j : Int) < 31 := by omega
      have np : nd (2 ^ j) ≤ 100 := by
        have h1 : 2 ^ j ≤ 2 ^ 31 := Nat.pow_le_pow_right (by decide) hj
        have h2 : (2 : Nat) ^ 31 ≤ 18446744073709551615 := by decide
        have := nd_64 (a := 2 ^ j) (by omega)
        omega
      have MU := fun w' A A' c c' f f' => (rmul_any A A' c c' (2 ^ j) 2 w' f f' (by omega) (by have := nd_small (a := 2) (by decide); omega)).mono fun _ _ h => GiveO.n h
      rw [← Nat.pow_succ] at MU
      have HK := Lib.hid hK.out
      clear hK hjN np
      go_wp2_with (first
        | (go_at_call 112; go_loud ((with_reducible refine (MU _ _ _ _ _ K3.out.nt N3.out).mono ?_); rintro e w4 ⟨A8, c8, rfl, hN, hb⟩; have K4 := Lib.hid ((K3.out.up hb).n hN); clear hN hb))
        | (go_at_call 88; go_loud ((refine (NT _).mono ?_); rintro e w3 ⟨A9, c9, rfl, hN, hb⟩; have K3 := Lib.hid (HK.out.up hb); have N3 := Lib.hid hN; clear hN hb)))
      go_roundw
      case rel => exact ⟨j + 1, A8, c8, by omega, by go_num, rfl, K4⟩
      case measure => simp only [intOf]; omega

set_option maxRecDepth 100000 in
set_option maxHeartbeats 12800000 in
theorem rFits_63 (S : ByteArray) (hs : S.size ≤ 9223372036854775807) (w : World) (he : bl S ≠ []) (q : Rat) (hn : num? (bl S) = some q) :
    Calls Tryz.prog 59 #[.int .i64 4, .string S] w fun e w' => e = .returned (.bool (qfits 4 (bl S))) ∧ Below w.heap.size w w' := by
  have IV := fun w' => risvalue_any S hs w'
  have e1 := emptyS S
  have b := Lib.hid (Below.refl w.heap.size w)
  have G1 := fun w' => rget_any S hs w'
  rw [hn] at G1
  have G1 := fun w' => (G1 w').mono fun _ _ h => h.some
  obtain ⟨X, hX⟩ : ∃ X, qfits 4 (bl S) = X := ⟨_, rfl⟩
  rw [hX]
  unfold qfits at hX
  rw [show bitsOf 4 = 63 + 1 by decide, hn, if_neg (fun h => h.elim (fun g => absurd g.1 (by decide)) (fun g => nomatch g.2)), if_neg (fun h => h.elim he (fun g => absurd g (by decide)))] at hX
  rw [hn, decide_eq_false he] at IV
  rw [decide_eq_false he] at e1
  have ON := fun w' => rone_any w'
  have NT := fun w' => natOf_any 2 (by decide) w'
  have z1 := num_sz hn
  obtain ⟨LL, hLn⟩ : ∃ LL : Nat, 2 ^ 63 = LL := ⟨_, rfl⟩
  obtain ⟨L, hLL⟩ : ∃ L : Rat, ((LL : Int) : Rat) = L := ⟨_, rfl⟩
  have hLb : LL ≤ 18446744073709551615 := by rw [← hLn]; decide
  have z2 := sz_pow LL hLb
  rw [hLL] at z2
  have MK := fun w' A A' c c' h h' => rmake_any false A A' c c' (2 ^ 63) 1 w' h h' (by have := nd_64 (a := 2 ^ 63) (by decide); omega) (by rw [nd_one]; decide)
  rw [show mkRat (sg false (2 ^ 63)) 1 = L by rw [hLn, ← hLL]; exact mk_one _] at MK
  have WH := fun w' v f => rwhole_any v q w' f (by omega)
  have OP := fun w' v f => ropp_any v L w' f
  have z3 := sz_neg L
  have C1 := fun w' v v' f f' => rcmpq_any v v' q (-L) w' f f' (by omega)
  have C2 := fun w' v v' f f' => rcmpq_any v v' q L w' f f' (by omega)
  change (decide (q.den = 1 ∧ -((2 ^ 63 : Nat) : Int) ≤ q.num ∧ q.num < ((2 ^ 63 : Nat) : Int))) = X at hX
  rw [hLn] at hX
  clear hs he hn z1 z2 z3 hLb hLn
  go_enter Tryz.func59, Tryz.ntmps59
  go_wp2_with (first
    | (go_at_call 110; go_loud ((with_reducible refine (ON _).mono ?_); rintro e w2 ⟨A, c, rfl, hN, hb⟩; have K2 := Lib.hid (show FiS w w2 w1.heap.size y A1 l1 c1 A2 l2 c2 q A c 1 from ⟨L1.out.below hb S1.out, Nat.lt_of_lt_of_le S1.out hb.size, btrans b.out hb, F1.out.up hb, hN⟩); clear hN hb))
    | (go_at_call 49; go_loud ((with_reducible refine (G1 _).mono ?_); rintro e w1 ⟨y, A1, l1, c1, A2, l2, c2, rfl, hb, hF⟩; have bx := box_rs w1 (.bool y) (.slice A1 l1 c1) (.slice A2 l2 c2) 51; replace b := Lib.hid (btrans (btrans b.out hb) bx.2.1); have F1 := Lib.hid (hF.up bx.2.1); have L1 := Lib.hid bx.1; have S1 := Lib.hid bx.2.2; clear hb hF bx))
    | (go_at_call 115; go_loud ((refine (IV _).mono ?_); rintro e wn ⟨rfl, hb⟩; replace b := Lib.hid (btrans b.out hb); clear hb)))
  go_loopw [7, 37] (fun m i wr => ∃ (j : Nat) (A : Option Addr) (c : Nat), j ≤ 63 ∧ i = .int .i64 (j : Int) ∧ m = .slice A (nd (2 ^ j)) c ∧ Hid (FiS w wr w1.heap.size y A1 l1 c1 A2 l2 c2 q A c (2 ^ j))) (fun _ i _ => (63 - intOf i).toNat)
  case atStart => exact ⟨0, A, c, by decide, rfl, rfl, K2⟩
  case round =>
    clear K2
    obtain ⟨j, A, c, hj, rfl, rfl, hK⟩ := hrel
    by_cases hjN : j = 63
    · subst hjN
      have HK := Lib.hid hK.out
      clear hK
      go_wp2_with (first
        | (go_at_call 111; go_loud ((with_reducible refine (MK _ _ _ _ _ K3.out.nt N3.out).mono ?_); rintro e w4 ⟨v, rfl, ⟨AQa, cQa, AQb, cQb, dQ, rfl, n1, n2, hd⟩, hb⟩; have bx := box_rs w4 (.bool (ngt L)) (.slice AQa (nd (top L)) cQa) (.slice AQb (nd dQ) cQb) 51; have T0 := Lib.hid (show FiT w (w4.alloc (.cells #[.bool (ngt L), .slice AQa (nd (top L)) cQa, .slice AQb (nd dQ) cQb] 51)) w1.heap.size w4.heap.size y A1 l1 c1 A2 l2 c2 q (ngt L) AQa (nd (top L)) cQa AQb (nd dQ) cQb L from ⟨(K3.out.t hb).1.below bx.2.1 (K3.out.t hb).2.1, bx.1, Nat.lt_of_lt_of_le (K3.out.t hb).2.1 bx.2.1.size, bx.2.2, btrans (K3.out.t hb).2.2.1 bx.2.1, (K3.out.t hb).2.2.2.up bx.2.1, (show Qr w4 _ L from ⟨AQa, cQa, AQb, cQb, dQ, rfl, n1, n2, hd⟩).up bx.2.1⟩); clear n1 n2 hd hb bx))
        | (go_at_call 110; go_loud ((with_reducible refine (ON _).mono ?_); rintro e w3 ⟨A9, c9, rfl, hN, hb⟩; have K3 := Lib.hid (HK.out.up hb); have N3 := Lib.hid hN; clear hN hb)))
      generalize w4.alloc (.cells #[.bool (ngt L), .slice AQa (nd (top L)) cQa, .slice AQb (nd dQ) cQb] 51) = W0 at *
      generalize w1.heap.size = g5 at *
      generalize w4.heap.size = g8 at *
      clear HK K3 N3 b F1 L1 S1
      obtain ⟨p0, p1, p2, p3, p4, p5⟩ := T0.out.six
      by_cases hd : q.den = 1
      · rw [decide_eq_true hd] at WH
        have hl := fits_low hd LL
        have hh := fits_high hd LL
        rw [hLL] at hl hh
        by_cases c1x : 0 ≤ sign (q - -L)
        · have HX := Lib.hid (show X = decide (sign (q - L) < 0) by rw [← hX, decide_eq_decide]; exact ⟨fun g => hh.2 g.2.2, fun g => ⟨hd, hl.1 c1x, hh.1 g⟩⟩)
          clear hl hh hX hd
          generalize sign (q - -L) = s1 at *
          generalize sign (q - L) = s2 at *
          generalize -L = nL at *
          generalize hy8 : ngt L = y8 at *
          generalize hl3 : nd (top L) = l3 at *
          generalize hl4 : nd dQ = l4 at *
          clear hy8 hl3 hl4
          have T1 := Lib.hid (T0.out.up (Below.drew (Below.refl _ _)))
          go_region_held3 (fun w' => w'.cell? ⟨g5, 0, none⟩ = some (.bool y) ∧ w'.cell? ⟨g5, 1, none⟩ = some (.slice A1 l1 c1) ∧ w'.cell? ⟨g5, 2, none⟩ = some (.slice A2 l2 c2) ∧ w'.cell? ⟨g8, 0, none⟩ = some (.bool y8) ∧ w'.cell? ⟨g8, 1, none⟩ = some (.slice AQa l3 cQa) ∧ w'.cell? ⟨g8, 2, none⟩ = some (.slice AQb l4 cQb))
            (first | (with_reducible exact T5.out.six) | (with_reducible exact T4.out.six) | (with_reducible exact T3.out.six) | (with_reducible exact T2.out.six) | (with_reducible exact T1.out.six) | go_keep)
            (first
              | (go_at_call 55; go_loud ((with_reducible refine (C2 _ _ _ T4.out.f T4.out.r).mono ?_); rintro e u5 ⟨rfl, hb⟩; have T5 := Lib.hid (T4.out.up hb); obtain ⟨t0, t1, t2, t3, t4, t5⟩ := T5.out.six; clear hb))
              | (go_at_call 55; go_loud ((with_reducible refine (C1 _ _ _ T3.out.f F3.out).mono ?_); rintro e u4 ⟨rfl, hb⟩; have T4 := Lib.hid (T3.out.up hb); obtain ⟨t0, t1, t2, t3, t4, t5⟩ := T4.out.six; clear hb))
              | (go_at_call 52; go_loud ((with_reducible refine (OP _ _ T2.out.r).mono ?_); rintro e u3 ⟨v3, rfl, hF, hb⟩; have T3 := Lib.hid (T2.out.up hb); have F3 := Lib.hid hF; obtain ⟨t0, t1, t2, t3, t4, t5⟩ := T3.out.six; clear hF hb))
              | (go_at_call 53; go_loud ((with_reducible refine (WH _ _ T1.out.f).mono ?_); rintro e u2 ⟨rfl, hb⟩; have T2 := Lib.hid (T1.out.up hb); obtain ⟨t0, t1, t2, t3, t4, t5⟩ := T2.out.six; clear hb)))
          go_wp2
          go_ret
          exact ⟨by rw [HX.out]; rfl, T5.out.b⟩
        · have HX := Lib.hid (show X = false by rw [← hX]; exact decide_eq_false (fun g => c1x (hl.2 g.2.1)))
          clear hl hh hX hd C2
          generalize sign (q - -L) = s1 at *
          generalize -L = nL at *
          generalize hy8 : ngt L = y8 at *
          generalize hl3 : nd (top L) = l3 at *
          generalize hl4 : nd dQ = l4 at *
          clear hy8 hl3 hl4
          first
            | (go_region_with (first
                | (go_at_call 55; ((with_reducible refine (C1 _ _ _ (T3.out.up (by first | exact Below.refl _ _ | exact Below.drew (Below.refl _ _) | exact below_drewN (Below.refl _ _) _)).f (F3.out.up (by first | exact Below.refl _ _ | exact Below.drew (Below.refl _ _) | exact below_drewN (Below.refl _ _) _))).mono ?_); rintro e u4 ⟨rfl, hb⟩; have T4 := Lib.hid ((T3.out.up (by first | exact Below.refl _ _ | exact Below.drew (Below.refl _ _) | exact below_drewN (Below.refl _ _) _)).up hb); obtain ⟨t0, t1, t2, t3, t4, t5⟩ := T4.out.six; clear hb))
                | (go_at_call 52; ((with_reducible refine (OP _ _ (T2.out.up (by first | exact Below.refl _ _ | exact Below.drew (Below.refl _ _) | exact below_drewN (Below.refl _ _) _)).r).mono ?_); rintro e u3 ⟨v3, rfl, hF, hb⟩; have T3 := Lib.hid ((T2.out.up (by first | exact Below.refl _ _ | exact Below.drew (Below.refl _ _) | exact below_drewN (Below.refl _ _) _)).up hb); have F3 := Lib.hid hF; obtain ⟨t0, t1, t2, t3, t4, t5⟩ := T3.out.six; clear hF hb))
                | (go_at_call 53; ((with_reducible refine (WH _ _ (T0.out.up (by first | exact Below.refl _ _ | exact Below.drew (Below.refl _ _) | exact below_drewN (Below.refl _ _) _)).f).mono ?_); rintro e u2 ⟨rfl, hb⟩; have T2 := Lib.hid ((T0.out.up (by first | exact Below.refl _ _ | exact Below.drew (Below.refl _ _) | exact below_drewN (Below.refl _ _) _)).up hb); obtain ⟨t0, t1, t2, t3, t4, t5⟩ := T2.out.six; clear hb))))
            | fail
          all_goals go_wp2
          all_goals go_ret
          all_goals exact ⟨by rw [HX.out]; rfl, (T4.out.up (by first | exact Below.refl _ _ | exact Below.drew (Below.refl _ _) | exact below_drewN (Below.refl _ _) _)).b⟩
      · rw [decide_eq_false hd] at WH
        have HX := Lib.hid (show X = false by rw [← hX]; exact decide_eq_false (fun g => hd g.1))
        clear hX hd C1 C2
        generalize hy8 : ngt L = y8 at *
        generalize hl3 : nd (top L) = l3 at *
        generalize hl4 : nd dQ = l4 at *
        clear hy8 hl3 hl4
        first
          | (go_region_with (go_at_call 53; ((with_reducible refine (WH _ _ (T0.out.up (by first | exact Below.refl _ _ | exact Below.drew (Below.refl _ _) | exact below_drewN (Below.refl _ _) _)).f).mono ?_); rintro e u2 ⟨rfl, hb⟩; have T2 := Lib.hid ((T0.out.up (by first | exact Below.refl _ _ | exact Below.drew (Below.refl _ _) | exact below_drewN (Below.refl _ _) _)).up hb); obtain ⟨t0, t1, t2, t3, t4, t5⟩ := T2.out.six; clear hb)))
          | fail
        all_goals go_wp2
        all_goals go_ret
        all_goals exact ⟨by rw [HX.out]; rfl, (T2.out.up (by first | exact Below.refl _ _ | exact Below.drew (Below.refl _ _) | exact below_drewN (Below.refl _ _) _)).b⟩
    · have i1 : (j : Int) < 63 := by omega
      have np : nd (2 ^ j) ≤ 100 := by
        have h1 : 2 ^ j ≤ 2 ^ 63 := Nat.pow_le_pow_right (by decide) hj
        have h2 : (2 : Nat) ^ 63 ≤ 18446744073709551615 := by decide
        have := nd_64 (a := 2 ^ j) (by omega)
        omega
      have MU := fun w' A A' c c' f f' => (rmul_any A A' c c' (2 ^ j) 2 w' f f' (by omega) (by have := nd_small (a := 2) (by decide); omega)).mono fun _ _ h => GiveO.n h
      rw [← Nat.pow_succ] at MU
      have HK := Lib.hid hK.out
      clear hK hjN np
      go_wp2_with (first
        | (go_at_call 112; go_loud ((with_reducible refine (MU _ _ _ _ _ K3.out.nt N3.out).mono ?_); rintro e w4 ⟨A8, c8, rfl, hN, hb⟩; have K4 := Lib.hid ((K3.out.up hb).n hN); clear hN hb))
        | (go_at_call 88; go_loud ((refine (NT _).mono ?_); rintro e w3 ⟨A9, c9, rfl, hN, hb⟩; have K3 := Lib.hid (HK.out.up hb); have N3 := Lib.hid hN; clear hN hb)))
      go_roundw
      case rel => exact ⟨j + 1, A8, c8, by omega, by go_num, rfl, K4⟩
      case measure => simp only [intOf]; omega

theorem rFits_any (k : Int) (S : ByteArray) (hs : S.size ≤ 9223372036854775807) (w : World) :
    Calls Tryz.prog 59 #[.int .i64 k, .string S] w fun e w' => e = .returned (.bool (qfits k (bl S))) ∧ Below w.heap.size w w' := by
  by_cases h : (k < 1 ∨ 5 < k) ∨ (bl S ≠ [] ∧ num? (bl S) = none) ∨ bl S = [] ∨ k = 5
  · exact rFits_easy k S hs w h
  · have he : bl S ≠ [] := fun g => h (.inr (.inr (.inl g)))
    cases hn : num? (bl S) with
    | none => exact absurd (.inr (.inl ⟨he, hn⟩)) h
    | some q =>
      by_cases h1 : k = 1
      · subst h1; exact rFits_7 S hs w he q hn
      · by_cases h2 : k = 2
        · subst h2; exact rFits_15 S hs w he q hn
        · by_cases h3 : k = 3
          · subst h3; exact rFits_31 S hs w he q hn
          · by_cases h4 : k = 4
            · subst h4; exact rFits_63 S hs w he q hn
            · refine absurd ?_ h
              by_cases h5 : k = 5
              · exact .inr (.inr (.inr h5))
              · exact .inl (by omega)

set_option maxRecDepth 100000 in
set_option maxHeartbeats 1600000 in
theorem fits_walk (k : Int) (x : ByteArray) (hx : x.size ≤ 9223372036854775807) (w : World) (hw : Wf w) :
    Calls Tryz.prog 13 #[.int .i64 k, .string x] w fun e w' => e = .returned (.bool true) ∧ Below w.heap.size w w' := by
  have F1 := fun w' (hb : Below w.heap.size w w') => qFits_any k x hx w' (hw.up hb)
  have F2 := fun w' => rFits_any k x hx w'
  have AW := fun w' (hb : Below w.heap.size w w') => awake_any w' (hw.up hb)
  have b := Lib.hid (Below.refl w.heap.size w)
  generalize qfits k (bl x) = r at *
  have e1 : (r == r) = true := beq_self_eq_true _
  clear hw hx
  go_enter Tryz.func13, Tryz.ntmps13
  go_wp2_with (first
    | (go_at_call 58; ((with_reducible refine (F1 _ b.out).mono ?_); rintro e wn ⟨rfl, hb⟩; replace b := Lib.hid (btrans b.out hb); clear hb))
    | (go_at_call 59; ((with_reducible refine (F2 _).mono ?_); rintro e wn ⟨rfl, hb⟩; replace b := Lib.hid (btrans b.out hb); clear hb))
    | (go_at_call 20; ((with_reducible refine (AW _ b.out).mono ?_); rintro e wn ⟨rfl, hb⟩; replace b := Lib.hid (btrans b.out hb); clear hb)))
  go_ret
  exact ⟨rfl, b.out⟩

end Go.Proofs.YtinoipjblkidfaaGreatDoor
