/- Plain laws: strconv's readers of whole numbers at canonical texts. No program. Plain laws of rounding, of whole numbers, and of the values of a type. No program. Whole numbers and rounding of the reference: IntQ, Frac, Whole, Bottom, Floor, Rounded, Round. Rounding of the reference: Rounded, Round. Rounding of the program: Round. -/
import Derived.Test.YtinoipjblkidfaaGreatDoorC16
import Derived.Lib.ParseIntB
/- Plain laws: strconv's readers of whole numbers at canonical texts. No program. -/
namespace Go.Proofs.YtinoipjblkidfaaGreatDoor.Num
open Go.Proofs.YtinoipjblkidfaaGreatDoor.Str Go.Proofs.YtinoipjblkidfaaGreatDoor.Dg Go.Proofs.YtinoipjblkidfaaGreatDoor.Q Go.Lib

theorem fold_ge : ∀ (l : List UInt8) (a : Nat), a ≤ l.foldl (fun a c => 10 * a + (c.toNat - 48)) a
  | [], _ => Nat.le_refl _
  | c :: r, a => by rw [List.foldl_cons]; exact Nat.le_trans (by omega) (fold_ge r _)
theorem parseM_ok : ∀ {l : List UInt8} {M acc u : Nat}, parseUintM M acc l = .ok u → allD l = true ∧ u = l.foldl (fun a c => 10 * a + (c.toNat - 48)) acc ∧ (l ≠ [] → u ≤ M)
  | [], M, acc, u, h => by
    unfold parseUintM at h
    injection h with h
    exact ⟨rfl, h.symm, fun h => absurd rfl h⟩
  | c :: r, M, acc, u, h => by
    unfold parseUintM at h
    split at h
    · rename_i hd
      split at h
      · cases h
      · split at h
        · cases h
        · rename_i hM
          obtain ⟨h1, h2, h3⟩ := parseM_ok h
          have e : acc * 10 + (c.toNat - 48) = 10 * acc + (c.toNat - 48) := by omega
          refine ⟨?_, ?_, fun _ => ?_⟩
          · unfold allD at h1 ⊢; rw [List.all_cons, h1, Bool.and_true]; exact decide_eq_true hd
          · rw [List.foldl_cons, ← e]; exact h2
          · by_cases hr : r = []
            · subst hr; rw [h2, List.foldl_nil]; omega
            · exact h3 hr
    · cases h
theorem parseM_of : ∀ {l : List UInt8} {M acc : Nat}, allD l = true → M ≤ 18446744073709551615 → l.foldl (fun a c => 10 * a + (c.toNat - 48)) acc ≤ M → parseUintM M acc l = .ok (l.foldl (fun a c => 10 * a + (c.toNat - 48)) acc)
  | [], M, acc, _, _, _ => rfl
  | c :: r, M, acc, h, hM, hv => by
    have h1 : isD c = true ∧ allD r = true := by simpa [allD] using h
    rw [List.foldl_cons] at hv ⊢
    have e : acc * 10 + (c.toNat - 48) = 10 * acc + (c.toNat - 48) := by omega
    have hg := fold_ge r (10 * acc + (c.toNat - 48))
    unfold parseUintM
    rw [if_pos (of_decide_eq_true h1.1), if_neg (by omega), if_neg (by omega), e]
    exact parseM_of h1.2 hM hv
theorem uintB_ok {B : Nat} (hB : B ≤ 64) {l : List UInt8} {u : Nat} : parseUintB B l = .ok u ↔ l ≠ [] ∧ allD l = true ∧ u = val l ∧ val l ≤ 2 ^ B - 1 := by
  have h64 : 2 ^ B - 1 ≤ 18446744073709551615 := by
    have := Nat.pow_le_pow_right (n := 2) (by decide) hB
    have e : (2 : Nat) ^ 64 = 18446744073709551616 := by decide
    omega
  unfold parseUintB
  by_cases h : l = []
  · rw [if_pos h]; exact ⟨fun g => (by cases g), fun g => absurd h g.1⟩
  · rw [if_neg h]
    constructor
    · intro g
      obtain ⟨h1, h2, h3⟩ := parseM_ok g
      have h4 : u = val l := h2
      exact ⟨h, h1, h4, by rw [← h4]; exact h3 h⟩
    · rintro ⟨_, h1, rfl, h3⟩
      exact parseM_of h1 h64 h3
theorem parse10_is : ∀ (l : List UInt8) (acc : Nat), parseUint10 acc l = parseUintM (2 ^ 64 - 1) acc l
  | [], _ => rfl
  | c :: r, acc => by
    unfold parseUint10 parseUintM
    have e : (18446744073709551616 ≤ acc * 10 + (c.toNat - 48)) = (2 ^ 64 - 1 < acc * 10 + (c.toNat - 48)) := by apply propext; omega
    simp only [e, parse10_is r]
theorem atoi_is (l : List UInt8) : atoiAll l = parseIntB 64 l := by
  cases l with
  | nil => rfl
  | cons c r =>
    have e : ∀ l, parseMag l = parseUintB 64 l := fun l => by unfold parseMag parseUintB; rw [parse10_is]
    have p : (2 : Nat) ^ (64 - 1) = 9223372036854775808 := by decide
    unfold atoiAll parseIntB
    simp only [e, p]
    rfl
theorem intB_minus (B : Nat) (r : List UInt8) (v : Int) : parseIntB B (45 :: r) = .ok v ↔ ∃ u, parseUintB B r = .ok u ∧ u ≤ 2 ^ (B - 1) ∧ v = -(u : Int) := by
  have e1 : (45 : UInt8).toNat = 45 := rfl
  unfold parseIntB
  simp only [e1]
  cases h : parseUintB B r
  case ok u =>
    simp [h]
    constructor
    · intro g
      split at g
      · cases g
      · rename_i hu
        injection g with g
        exact ⟨by omega, g.symm⟩
    · rintro ⟨h1, rfl⟩
      rw [if_neg (by omega)]
  all_goals simp [h]
theorem intB_plain (B : Nat) (c : UInt8) (r : List UInt8) (h43 : c.toNat ≠ 43) (h45 : c.toNat ≠ 45) (v : Int) : parseIntB B (c :: r) = .ok v ↔ ∃ u, parseUintB B (c :: r) = .ok u ∧ u < 2 ^ (B - 1) ∧ v = (u : Int) := by
  unfold parseIntB
  simp only [h43, h45]
  cases h : parseUintB B (c :: r)
  case ok u =>
    simp [h]
    constructor
    · intro g
      split at g
      · cases g
      · rename_i hu
        injection g with g
        exact ⟨by omega, g.symm⟩
    · rintro ⟨h1, rfl⟩
      rw [if_neg (by omega)]
  all_goals simp [h]
/-- When strconv.ParseInt reads a canonical text: whole numbers of the size. -/
theorem intB_iff {B : Nat} (h0 : 1 ≤ B) (hB : B ≤ 64) (q : Rat) (v : Int) : parseIntB B (txt q) = .ok v ↔ q.den = 1 ∧ v = q.num ∧ -((2 ^ (B - 1) : Nat) : Int) ≤ v ∧ v < ((2 ^ (B - 1) : Nat) : Int) := by
  have hnum := num_sg q
  have hp : 2 ^ B = 2 * 2 ^ (B - 1) := by obtain ⟨b, rfl⟩ : ∃ b, B = b + 1 := ⟨B - 1, by omega⟩; rw [Nat.pow_succ, Nat.add_sub_cancel, Nat.mul_comm]
  have hb := txt_body q
  have hneg := txt_neg q
  have hu : ∀ u, parseUintB B (body (txt q)) = .ok u ↔ q.den = 1 ∧ u = top q ∧ top q ≤ 2 ^ B - 1 := by
    intro u
    rw [uintB_ok hB, hb]
    by_cases h1 : q.den = 1
    · rw [if_pos h1, List.append_nil, val_dec]
      exact ⟨fun g => ⟨h1, g.2.2⟩, fun g => ⟨dec_ne _, allD_dec _, g.2⟩⟩
    · rw [if_neg h1]
      refine ⟨fun g => ?_, fun g => absurd g.1 h1⟩
      have := allD_mem g.2.1 (c := 47) (by simp)
      cases this
  have hpos : 1 ≤ 2 ^ (B - 1) := Nat.one_le_two_pow
  rw [hp] at hu
  cases hn : ngt q
  · have e : txt q = body (txt q) := by
      have : body (txt q) = txt q := by unfold body; rw [hneg, hn]; rfl
      exact this.symm
    obtain ⟨c, r, ec, hc⟩ : ∃ c r, body (txt q) = c :: r ∧ isD c = true := by
      rw [hb]
      cases hd : decDigits (top q) with
      | nil => exact absurd hd (dec_ne _)
      | cons x l => exact ⟨x, _, rfl, dec_head_digit (top q) (by rw [hd]; rfl)⟩
    have hc' := of_decide_eq_true hc
    rw [hn] at hnum
    have hnum' : q.num = (top q : Int) := hnum
    rw [e, ec, intB_plain B c r (by omega) (by omega), ← ec]
    constructor
    · rintro ⟨u, g1, g2, rfl⟩
      obtain ⟨k1, k2, _⟩ := (hu u).1 g1
      exact ⟨k1, by rw [hnum', k2], by omega, by omega⟩
    · rintro ⟨g1, rfl, g3, g4⟩
      rw [hnum'] at g3 g4
      exact ⟨top q, (hu _).2 ⟨g1, rfl, by omega⟩, by omega, hnum'⟩
  · have e : txt q = 45 :: body (txt q) := by
      have := body_is (txt q)
      rw [hneg, hn] at this
      exact this
    rw [hn] at hnum
    have hnum' : q.num = -(top q : Int) := hnum
    have ht := ngt_top hn
    rw [e, intB_minus]
    constructor
    · rintro ⟨u, g1, g2, rfl⟩
      obtain ⟨k1, k2, _⟩ := (hu u).1 g1
      exact ⟨k1, by rw [hnum', k2], by omega, by omega⟩
    · rintro ⟨g1, rfl, g3, g4⟩
      rw [hnum'] at g3 g4
      exact ⟨top q, (hu _).2 ⟨g1, rfl, by omega⟩, by omega, hnum'⟩
end Go.Proofs.YtinoipjblkidfaaGreatDoor.Num

/- Plain laws of rounding, of whole numbers, and of the values of a type. No program. -/
namespace Go.Proofs.YtinoipjblkidfaaGreatDoor
open Go.Proofs.YtinoipjblkidfaaGreatDoor.Dg Go.Proofs.YtinoipjblkidfaaGreatDoor.Q Go.Proofs.YtinoipjblkidfaaGreatDoor.Num

/-- The multiple of a step that is nearest. -/
def rnd (a b : Rat) : Rat := flr (a / b + 1 / 2) * b
theorem rnd_near {a b : Rat} (hb : 0 < b) : (rnd a b / b).den = 1 ∧ a - rnd a b ≤ b * (1 / 2) ∧ -(a - rnd a b) ≤ b * (1 / 2) := by
  have hne : b ≠ 0 := by intro e; rw [e] at hb; exact absurd hb (by decide)
  unfold rnd
  obtain ⟨t, ht⟩ : ∃ t, a / b + 1 / 2 = t := ⟨_, rfl⟩
  rw [ht]
  have h1 : flr t ≤ t := Rat.floor_le t
  have h2 : t < flr t + 1 := by
    have := Rat.lt_floor_add_one t
    rw [Rat.intCast_add] at this
    exact this
  have ha : a = (t - 1 / 2) * b := by rw [← ht]; grind
  have e : flr t * b / b = flr t := by grind
  have hd := flr_den t
  have k0 : (0 : Rat) ≤ b := Rat.le_of_lt hb
  have k1 : (t - flr t) * b ≤ 1 * b := Rat.mul_le_mul_of_nonneg_right (by grind) k0
  have k2 : 0 * b ≤ (t - flr t) * b := Rat.mul_le_mul_of_nonneg_right (by grind) k0
  refine ⟨by rw [e]; exact hd, ?_, ?_⟩
  · rw [ha]; grind
  · rw [ha]; grind

/-- What Int gives. -/
def qint (l : List UInt8) : Int × Bool := match num? l with
  | some q => if q.den = 1 ∧ top q ≤ 9007199254740992 then (q.num, true) else (0, false)
  | none => (0, false)
/-- The bits of a type. -/
def bitsOf (k : Int) : Nat := if k = 1 then 8 else if k = 2 then 16 else if k = 3 then 32 else if k = 4 then 64 else 0
/-- Which values fit a type. -/
def qfits (k : Int) (l : List UInt8) : Bool :=
  if (bitsOf k = 0 ∧ k ≠ 5) ∨ (l ≠ [] ∧ num? l = none) then false
  else if l = [] ∨ bitsOf k = 0 then true
  else match num? l with
    | some q => decide (q.den = 1 ∧ -((2 ^ (bitsOf k - 1) : Nat) : Int) ≤ q.num ∧ q.num < ((2 ^ (bitsOf k - 1) : Nat) : Int))
    | none => false
/-- strconv.Atoi reads a number that is whole and not too long, and no other. -/
theorem atoi_small {q : Rat} (h : q.den = 1 ∧ top q ≤ 9007199254740992) : Lib.atoiAll (txt q) = .ok q.num := by
  rw [atoi_is]
  refine (intB_iff (by decide) (by decide) q q.num).2 ⟨h.1, rfl, ?_, ?_⟩
  · have p : (2 : Nat) ^ (64 - 1) = 9223372036854775808 := by decide
    rw [p]
    have : q.num.natAbs ≤ 9007199254740992 := h.2
    omega
  · have p : (2 : Nat) ^ (64 - 1) = 9223372036854775808 := by decide
    rw [p]
    have : q.num.natAbs ≤ 9007199254740992 := h.2
    omega
theorem atoi_reads {q : Rat} {v : Int} (h : Lib.atoiAll (txt q) = .ok v) : q.den = 1 ∧ v = q.num := by
  rw [atoi_is] at h
  obtain ⟨h1, h2, _⟩ := (intB_iff (by decide) (by decide) q v).1 h
  exact ⟨h1, h2⟩
end Go.Proofs.YtinoipjblkidfaaGreatDoor

/- Whole numbers and rounding of the reference: IntQ, Frac, Whole, Bottom, Floor, Rounded, Round. -/
namespace Go.Proofs.YtinoipjblkidfaaGreatDoor
open Go.RowKit Go.Proofs.YtinoipjblkidfaaGreatDoor.Dg Go.Proofs.YtinoipjblkidfaaGreatDoor.Q Go.Proofs.YtinoipjblkidfaaGreatDoor.Num Go.Proofs.YtinoipjblkidfaaGreatDoor.Str

theorem K1.giveQ {w w' : World} {q : Rat} {b : Bool} {A A' : Option Addr} {l c l' c' : Nat} (h : K1 w w' (.bool false) (.slice none 0 0) (.slice none 0 0) 51) (hq : Qr w' (.agg #[.bool b, .slice A l c, .slice A' l' c']) q) :
    GiveQ w q (.returned (.agg #[.bool b, .slice A l c, .slice A' l' c'])) (put3 w' w.heap.size (.bool b) (.slice A l c) (.slice A' l' c')) :=
  ⟨_, rfl, hq.put3 h.1 rfl rfl rfl, put3_below h.2.1 (Nat.le_refl _)⟩
theorem K2.three {w w' : World} {a0 a1 a2 c0 c1 c2 : Value} {t : TypeId} (h : K2 w w' a0 a1 a2 c0 c1 c2 t) : w'.cell? ⟨w.heap.size, 0, none⟩ = some a0 ∧ w'.cell? ⟨w.heap.size, 1, none⟩ = some a1 ∧ w'.cell? ⟨w.heap.size, 2, none⟩ = some a2 := h.1.cells
theorem K2.b {w w' : World} {a0 a1 a2 c0 c1 c2 : Value} {t : TypeId} (h : K2 w w' a0 a1 a2 c0 c1 c2 t) : Below w.heap.size w w' := h.2.2.2
theorem K2.stored {w w' : World} {a0 a1 a2 c0 c1 c2 : Value} {t : TypeId} (h : K2 w w' a0 a1 a2 c0 c1 c2 t) (x y z : Value) : K2 w (put3 w' (w.heap.size + 1) x y z) a0 a1 a2 x y z t := by
  obtain ⟨h1, h2, h4, h5⟩ := h
  exact ⟨h1.put3_other (by omega), h2.put3_same, by rw [put3_size]; exact h4, put3_below h5 (by omega)⟩
theorem K2.giveQ {w w' : World} {a0 a1 a2 x y z : Value} {t : TypeId} {q : Rat} (h : K2 w w' a0 a1 a2 (.bool false) (.slice none 0 0) (.slice none 0 0) t) (hq : Qr w' (.agg #[x, y, z]) q) :
    GiveQ w q (.returned (.agg #[x, y, z])) (put3 w' (w.heap.size + 1) x y z) :=
  ⟨_, rfl, hq.put3 h.2.1 rfl rfl rfl, (h.stored _ _ _).2.2.2⟩
theorem mk_one (z : Int) : mkRat z 1 = (z : Rat) := by
  have := Rat.mkRat_self (z : Rat)
  exact this
theorem flr_make (q : Rat) : mkRat (sg (ngt q) (top (flr q))) 1 = flr q := by
  have h := mk_top_den (flr q)
  rw [flr_den, flr_ngt] at h
  by_cases h0 : top (flr q) = 0
  · rw [h0, make_zero]
    exact (top_zero.1 h0).symm
  · rw [decide_eq_true h0, Bool.and_true] at h
    exact h
theorem sz_int (z : Int) (h : z.natAbs ≤ 18446744073709551615) : sz (z : Rat) ≤ 3 := by
  unfold sz
  rw [int_top, int_den, nd_one]
  have := nd_64 h
  omega

set_option maxRecDepth 100000 in
set_option maxHeartbeats 3200000 in
theorem rintq_any (n : Int) (h1 : -9223372036854775808 ≤ n) (h2 : n ≤ 9223372036854775807) (w : World) : Calls Tryz.prog 91 #[.int .i64 n] w (GiveQ w (n : Rat)) := by
  have k0 := Lib.hid (show K1 w (w.alloc (.cells #[.bool false, .slice none 0 0, .slice none 0 0] 51)) _ _ _ _ from box_rs w _ _ _ _)
  have ON := fun w' => rone_any w'
  have hm := mk_one n
  obtain ⟨q, hq⟩ : ∃ q, (n : Rat) = q := ⟨_, rfl⟩
  rw [hq] at hm ⊢
  by_cases hn : n < 0
  · obtain ⟨z, hz⟩ : ∃ z : Nat, -(n + 1) = (z : Int) := ⟨(-(n + 1)).toNat, by omega⟩
    have hz1 : z ≤ 9223372036854775807 := by omega
    have e2 : sg true (z + 1) = n := by unfold sg; rw [if_pos rfl]; push_cast; omega
    have e3 : IntKind.i64.wrap (n + 1) = n + 1 := IntWalk.i64_in _ (by constructor <;> omega)
    have e4 : IntKind.i64.wrap (z : Int) = (z : Int) := IntWalk.i64_in _ (by constructor <;> omega)
    have e5 : IntKind.u64.wrap (z : Int) = (z : Int) := IntWalk.u64_in _ (by constructor <;> omega)
    have e6 : (z : Int) + 1 = ((z + 1 : Nat) : Int) := by push_cast; rfl
    have e7 : IntKind.u64.wrap ((z : Int) + 1) = (z : Int) + 1 := IntWalk.u64_in _ (by constructor <;> omega)
    have NO : ∀ w', Calls Tryz.prog 88 #[.int .u64 ((z : Int) + 1)] w' (GiveN .u64 w' (z + 1)) := fun w' => by have h := natOf_any (z + 1) (by omega) w'; rw [← e6] at h; exact h
    have nb := nd_64 (a := z + 1) (by omega)
    have MK := fun w' A A' c c' h h' => rmake_any true A A' c c' (z + 1) 1 w' h h' (by omega) (by rw [nd_one]; decide)
    rw [e2, hm] at MK
    clear hq hm e2 e6 nb
    generalize z + 1 = z1 at *
    go_enter Tryz.func91, Tryz.ntmps91
    go_wp2_with (first
      | (go_at_call 111; go_loud ((with_reducible refine (MK _ _ _ _ _ N1'.out N2.out).mono ?_); rintro e w3 ⟨v, rfl, ⟨AQa, cQa, AQb, cQb, dQ, rfl, n1, n2, hd⟩, hb⟩; have k3 := Lib.hid (k2.out.up hb); have NQ := Lib.hid (show Qr w3 _ q from ⟨AQa, cQa, AQb, cQb, dQ, rfl, n1, n2, hd⟩); obtain ⟨t0, t1, t2⟩ := k3.out.three; obtain ⟨g0, g1, g2⟩ := k3.out.1.frozen; clear n1 n2 hd hb))
      | (go_at_call 110; go_loud ((with_reducible refine (ON _).mono ?_); rintro e w2 ⟨A2, c2, rfl, hN, hb⟩; have k2 := Lib.hid (k1.out.up hb); have N1' := Lib.hid (N1.out.up hb); have N2 := Lib.hid hN; clear hN hb))
      | (go_at_call 88; go_loud ((with_reducible refine (NO _).mono ?_); rintro e w1 ⟨A1, c1, rfl, hN, hb⟩; have k1 := Lib.hid (k0.out.up hb); have N1 := Lib.hid hN; clear hN hb)))
    refine bodyPost_ret (v := .agg #[.bool (ngt q), .slice AQa (nd (top q)) cQa, .slice AQb (nd dQ) cQb]) (by simp [results, Tryz.results91, go_sem, t0, t1, t2]) rfl ?_
    exact k3.out.giveQ NQ.out
  · obtain ⟨z, rfl⟩ : ∃ z : Nat, n = (z : Int) := ⟨n.toNat, by omega⟩
    have e2 : sg false z = (z : Int) := rfl
    have NO := fun w' => natOf_any z (by omega) w'
    have nb := nd_64 (a := z) (by omega)
    have MK := fun w' A A' c c' h h' => rmake_any false A A' c c' z 1 w' h h' (by omega) (by rw [nd_one]; decide)
    rw [e2, hm] at MK
    clear hq hm e2 nb
    go_enter Tryz.func91, Tryz.ntmps91
    go_wp2_with (first
      | (go_at_call 111; go_loud ((with_reducible refine (MK _ _ _ _ _ N1'.out N2.out).mono ?_); rintro e w3 ⟨v, rfl, ⟨AQa, cQa, AQb, cQb, dQ, rfl, n1, n2, hd⟩, hb⟩; have k3 := Lib.hid (k2.out.up hb); have NQ := Lib.hid (show Qr w3 _ q from ⟨AQa, cQa, AQb, cQb, dQ, rfl, n1, n2, hd⟩); obtain ⟨t0, t1, t2⟩ := k3.out.three; obtain ⟨g0, g1, g2⟩ := k3.out.1.frozen; clear n1 n2 hd hb))
      | (go_at_call 110; go_loud ((with_reducible refine (ON _).mono ?_); rintro e w2 ⟨A2, c2, rfl, hN, hb⟩; have k2 := Lib.hid (k1.out.up hb); have N1' := Lib.hid (N1.out.up hb); have N2 := Lib.hid hN; clear hN hb))
      | (go_at_call 88; go_loud ((with_reducible refine (NO _).mono ?_); rintro e w1 ⟨A1, c1, rfl, hN, hb⟩; have k1 := Lib.hid (k0.out.up hb); have N1 := Lib.hid hN; clear hN hb)))
    refine bodyPost_ret (v := .agg #[.bool (ngt q), .slice AQa (nd (top q)) cQa, .slice AQb (nd dQ) cQb]) (by simp [results, Tryz.results91, go_sem, t0, t1, t2]) rfl ?_
    exact k3.out.giveQ NQ.out

set_option maxRecDepth 100000 in
set_option maxHeartbeats 3200000 in
theorem rfrac_any (m n : Int) (h1 : -9223372036854775808 ≤ m) (h2 : m ≤ 9223372036854775807) (h3 : -9223372036854775808 ≤ n) (h4 : n ≤ 9223372036854775807) (w : World) : Calls Tryz.prog 57 #[.int .i64 m, .int .i64 n] w (GiveQ w ((m : Rat) / (n : Rat))) := by
  have k0 := Lib.hid (show K1 w (w.alloc (.cells #[.bool false, .slice none 0 0, .slice none 0 0] 51)) _ _ _ _ from box_rs w _ _ _ _)
  have I1 := fun w' => rintq_any m h1 h2 w'
  have I2 := fun w' => rintq_any n h3 h4 w'
  have s1 := sz_int m (by omega)
  have s2 := sz_int n (by omega)
  have QU := fun w' v1 v2 f1 f2 => rquot_any v1 v2 (m : Rat) (n : Rat) w' f1 f2 (by omega)
  clear h1 h2 h3 h4 s1 s2
  have tok := True.intro
  generalize (m : Rat) / (n : Rat) = q at *
  generalize (m : Rat) = a at *
  generalize (n : Rat) = b at *
  go_enter Tryz.func57, Tryz.ntmps57
  go_wp2_with (first
    | (go_at_call 54; go_loud ((with_reducible refine (QU _ _ _ F1'.out F2.out).mono ?_); rintro e w3 ⟨v, rfl, ⟨AQa, cQa, AQb, cQb, dQ, rfl, n1, n2, hd⟩, hb⟩; have k3 := Lib.hid (k2.out.up hb); have NQ := Lib.hid (show Qr w3 _ q from ⟨AQa, cQa, AQb, cQb, dQ, rfl, n1, n2, hd⟩); obtain ⟨t0, t1, t2⟩ := k3.out.three; obtain ⟨g0, g1, g2⟩ := k3.out.1.frozen; clear n1 n2 hd hb))
    | (go_at_call 91; (have _t := F1; (with_reducible refine (I2 _).mono ?_); rintro e w2 ⟨v2, rfl, hF, hb⟩; have k2 := Lib.hid (k1.out.up hb); have F1' := Lib.hid (F1.out.up hb); have F2 := Lib.hid hF; clear hF hb))
    | (go_at_call 91; go_loud ((have _t := tok; with_reducible refine (I1 _).mono ?_); rintro e w1 ⟨v1, rfl, hF, hb⟩; have k1 := Lib.hid (k0.out.up hb); have F1 := Lib.hid hF; clear tok _t hF hb)))
  refine bodyPost_ret (v := .agg #[.bool (ngt q), .slice AQa (nd (top q)) cQa, .slice AQb (nd dQ) cQb]) (by simp [results, Tryz.results57, go_sem, t0, t1, t2]) rfl ?_
  exact k3.out.giveQ NQ.out
theorem rhalf_any (w : World) : Calls Tryz.prog 57 #[.int .i64 1, .int .i64 2] w (GiveQ w (1 / 2)) := rfrac_any 1 2 (by decide) (by decide) (by decide) (by decide) w

set_option maxRecDepth 100000 in
set_option maxHeartbeats 3200000 in
theorem rwhole_any (v1 : Value) (a : Rat) (w : World) (h1 : Qr w v1 a) (hs : sz a ≤ 390000) : Calls Tryz.prog 53 #[v1] w fun e w' => e = .returned (.bool (decide (a.den = 1))) ∧ Below w.heap.size w w' := by
  have DE := fun w' (hb : Below w.heap.size w w') => rden_any v1 a w' (h1.up hb)
  have ON := fun w' => rone_any w'
  have s2 := sz_den a
  have CP := fun w' A A' c c' h h' => rcmp_any A A' c c' a.den 1 w' h h' (by omega)
  obtain ⟨A1, c1, A2, c2, d, rfl, _, _, _⟩ := h1
  have b0 := Lib.hid (box_rs w (.bool (ngt a)) (.slice A1 (nd (top a)) c1) (.slice A2 (nd d) c2) 51).2.1
  clear hs s2
  generalize nd (top a) = l1 at *
  generalize nd d = l2 at *
  generalize ngt a = x at *
  generalize a.den = dn at *
  by_cases h1 : dn = 1
  · rw [cmpN_eq h1] at CP
    rw [decide_eq_true h1]
    clear h1
    go_enter Tryz.func53, Tryz.ntmps53
    go_wp2_with (first
      | (go_at_call 87; go_loud ((with_reducible refine (CP _ _ _ _ _ N1'.out N2.out).mono ?_); rintro e w3 ⟨rfl, qq, rfl⟩))
      | (go_at_call 110; go_loud ((with_reducible refine (ON _).mono ?_); rintro e w2 ⟨A4, c4, rfl, hN, hb⟩; have b2 := Lib.hid (btrans b1.out hb); have N1' := Lib.hid (N1.out.up hb); have N2 := Lib.hid hN; clear hN hb))
      | (go_at_call 109; go_loud ((refine (DE _ b0.out).mono ?_); rintro e w1 ⟨A3, c3, rfl, hN, hb⟩; have b1 := Lib.hid (btrans b0.out hb); have N1 := Lib.hid hN; clear hN hb)))
    go_ret
    exact ⟨rfl, below_drewN b2.out _⟩
  · obtain ⟨z, hz⟩ : ∃ z, cmpN dn 1 = z := ⟨_, rfl⟩
    have hz0 : ¬ z = 0 := by
      intro e
      unfold cmpN at hz
      split at hz
      · omega
      · split at hz
        · omega
        · exact h1 (by omega)
    rw [hz] at CP
    rw [decide_eq_false h1]
    have hz1 : (z == 0) = false := beq_eq_false_iff_ne.2 hz0
    clear h1 hz
    go_enter Tryz.func53, Tryz.ntmps53
    go_wp2_with (first
      | (go_at_call 87; go_loud ((with_reducible refine (CP _ _ _ _ _ N1'.out N2.out).mono ?_); rintro e w3 ⟨rfl, qq, rfl⟩))
      | (go_at_call 110; go_loud ((with_reducible refine (ON _).mono ?_); rintro e w2 ⟨A4, c4, rfl, hN, hb⟩; have b2 := Lib.hid (btrans b1.out hb); have N1' := Lib.hid (N1.out.up hb); have N2 := Lib.hid hN; clear hN hb))
      | (go_at_call 109; go_loud ((refine (DE _ b0.out).mono ?_); rintro e w1 ⟨A3, c3, rfl, hN, hb⟩; have b1 := Lib.hid (btrans b0.out hb); have N1 := Lib.hid hN; clear hN hb)))
    go_ret
    exact ⟨rfl, below_drewN b2.out _⟩


set_option maxRecDepth 100000 in
set_option maxHeartbeats 6400000 in
theorem rbottom_any (v1 : Value) (a : Rat) (w : World) (h1 : Qr w v1 a) (hs : sz a ≤ 390000) : Calls Tryz.prog 107 #[v1] w (GiveQ w (flr a)) := by
  have DE := fun w' (hb : Below w.heap.size w w') => rden_any v1 a w' (h1.up hb)
  have ON := fun w' => rone_any w'
  obtain ⟨A1, c1, A2, c2, d, rfl, n1, n2, hd⟩ := h1
  have s1 := sz_top a
  have DV := fun w' (hb : Below w.heap.size w w') A c h => rdiv_any A1 A c1 c (top a) a.den w' (n1.up hb) h (by omega) a.den_nz
  have k0 := Lib.hid (K2.start w (.bool (ngt a)) (.slice A1 (nd (top a)) c1) (.slice A2 (nd d) c2) (.bool false) (.slice none 0 0) (.slice none 0 0) 51)
  have kd := Lib.hid (k0.out.up (Below.drew (Below.refl _ _)))
  obtain ⟨p0, p1, p2⟩ := k0.out.three
  have HT := flr_top a
  have HM := flr_make a
  have hyb : nd (top a / a.den) ≤ 390000 := Nat.le_trans (nd_mono (Nat.div_le_self _ _)) (Nat.le_trans s1 hs)
  have z0 := nd_zero
  clear n1 n2 s1 hs hd
  generalize top a / a.den = y at *
  generalize hr : top a % a.den = r at *
  generalize hl1 : nd (top a) = l1 at *
  generalize nd d = l2 at *
  generalize hx : ngt a = x at *
  obtain ⟨q, hq⟩ : ∃ q, flr a = q := ⟨_, rfl⟩
  rw [hq] at HT HM ⊢
  rw [HT] at HM
  clear HT hq hr hl1 hx
  cases x
  · rw [if_neg (fun h => by cases h.1)] at HM
    have MK := fun w' A A' c c' h h' => rmake_any false A A' c c' y 1 w' h h' (by omega) (by rw [nd_one]; decide)
    rw [HM] at MK
    clear HM
    go_enter Tryz.func107, Tryz.ntmps107
    go_wp2_with fail
    go_region_held3 (fun w' => w'.cell? ⟨w.heap.size, 0, none⟩ = some (.bool false) ∧ w'.cell? ⟨w.heap.size, 1, none⟩ = some (.slice A1 l1 c1) ∧ w'.cell? ⟨w.heap.size, 2, none⟩ = some (.slice A2 l2 c2))
      (first | (with_reducible exact k2.out.three) | (with_reducible exact k1.out.three) | (with_reducible exact kd.out.three) | go_keep)
      (first
        | (go_at_call 157; go_loud ((with_reducible refine (DV _ k1.out.b _ _ N1.out).mono ?_); rintro e w2 ⟨A6, c6, A7, c7, rfl, hN6, hN7, hb⟩; have k2 := Lib.hid (k1.out.up hb); have N6 := Lib.hid hN6; have N7 := Lib.hid hN7; obtain ⟨t0, t1, t2⟩ := k2.out.three; clear hN6 hN7 hb))
        | (go_at_call 109; go_loud ((with_reducible refine (DE _ kd.out.b).mono ?_); rintro e w1 ⟨A3, c3, rfl, hN, hb⟩; have k1 := Lib.hid (kd.out.up hb); have N1 := Lib.hid hN; obtain ⟨t0, t1, t2⟩ := k1.out.three; clear hN hb)))
    go_wp2_with fail
    have kf := Lib.hid (k2.out.up (Below.drew (Below.refl _ _)))
    have NF := Lib.hid (N6.out.up (Below.drew (Below.refl _ _)))
    obtain ⟨y0, y1, y2⟩ := kf.out.three
    go_region_held3 (fun w' => w'.cell? ⟨w.heap.size, 0, none⟩ = some (.bool false) ∧ w'.cell? ⟨w.heap.size, 1, none⟩ = some (.slice A1 l1 c1) ∧ w'.cell? ⟨w.heap.size, 2, none⟩ = some (.slice A2 l2 c2))
      (first | (exact (k6.out.stored _ _ _).three) | (with_reducible exact k6.out.three) | (with_reducible exact k5.out.three) | (with_reducible exact kf.out.three) | go_keep)
      (first
        | (go_at_call 111; go_loud ((with_reducible refine (MK _ _ _ _ _ NG.out N5.out).mono ?_); rintro e w6 ⟨v, rfl, ⟨AQa, cQa, AQb, cQb, dQ, rfl, n1, n2, hd⟩, hb⟩; have k6 := Lib.hid (k5.out.up hb); have NQ := Lib.hid (show Qr w6 _ q from ⟨AQa, cQa, AQb, cQb, dQ, rfl, n1, n2, hd⟩); obtain ⟨t0, t1, t2⟩ := k6.out.three; obtain ⟨r0, r1, r2⟩ := k6.out.2.1.cells; obtain ⟨g0, g1, g2⟩ := k6.out.2.1.frozen; clear n1 n2 hd hb))
        | (go_at_call 110; go_loud ((with_reducible refine (ON _).mono ?_); rintro e w5 ⟨A5, c5, rfl, hN, hb⟩; have k5 := Lib.hid (kf.out.up hb); have NG := Lib.hid (NF.out.up hb); have N5 := Lib.hid hN; obtain ⟨t0, t1, t2⟩ := k5.out.three; clear hN hb)))
    go_wp2
    refine bodyPost_ret (v := .agg #[.bool (ngt q), .slice AQa (nd (top q)) cQa, .slice AQb (nd dQ) cQb]) (by simp [results, Tryz.results107, go_sem, r0, r1, r2]) rfl ?_
    exact k6.out.giveQ NQ.out
  · by_cases hr0 : r = 0
    · rw [if_neg (fun h => h.2 hr0)] at HM
      have MK := fun w' A A' c c' h h' => rmake_any true A A' c c' y 1 w' h h' (by omega) (by rw [nd_one]; decide)
      rw [HM] at MK
      rw [hr0] at DV
      clear HM hr0
      go_enter Tryz.func107, Tryz.ntmps107
      go_wp2_with fail
      go_region_held3 (fun w' => w'.cell? ⟨w.heap.size, 0, none⟩ = some (.bool true) ∧ w'.cell? ⟨w.heap.size, 1, none⟩ = some (.slice A1 l1 c1) ∧ w'.cell? ⟨w.heap.size, 2, none⟩ = some (.slice A2 l2 c2))
        (first | (with_reducible exact k2.out.three) | (with_reducible exact k1.out.three) | (with_reducible exact kd.out.three) | go_keep)
        (first
          | (go_at_call 157; go_loud ((with_reducible refine (DV _ k1.out.b _ _ N1.out).mono ?_); rintro e w2 ⟨A6, c6, A7, c7, rfl, hN6, hN7, hb⟩; have k2 := Lib.hid (k1.out.up hb); have N6 := Lib.hid hN6; have N7 := Lib.hid hN7; obtain ⟨t0, t1, t2⟩ := k2.out.three; clear hN6 hN7 hb))
          | (go_at_call 109; go_loud ((with_reducible refine (DE _ kd.out.b).mono ?_); rintro e w1 ⟨A3, c3, rfl, hN, hb⟩; have k1 := Lib.hid (kd.out.up hb); have N1 := Lib.hid hN; obtain ⟨t0, t1, t2⟩ := k1.out.three; clear hN hb)))
      go_wp2_with fail
      have kf := Lib.hid (k2.out.up (Below.drew (Below.refl _ _)))
      have NF := Lib.hid (N6.out.up (Below.drew (Below.refl _ _)))
      obtain ⟨y0, y1, y2⟩ := kf.out.three
      go_region_held3 (fun w' => w'.cell? ⟨w.heap.size, 0, none⟩ = some (.bool true) ∧ w'.cell? ⟨w.heap.size, 1, none⟩ = some (.slice A1 l1 c1) ∧ w'.cell? ⟨w.heap.size, 2, none⟩ = some (.slice A2 l2 c2))
        (first | (exact (k6.out.stored _ _ _).three) | (with_reducible exact k6.out.three) | (with_reducible exact k5.out.three) | (with_reducible exact kf.out.three) | go_keep)
        (first
          | (go_at_call 111; go_loud ((with_reducible refine (MK _ _ _ _ _ NG.out N5.out).mono ?_); rintro e w6 ⟨v, rfl, ⟨AQa, cQa, AQb, cQb, dQ, rfl, n1, n2, hd⟩, hb⟩; have k6 := Lib.hid (k5.out.up hb); have NQ := Lib.hid (show Qr w6 _ q from ⟨AQa, cQa, AQb, cQb, dQ, rfl, n1, n2, hd⟩); obtain ⟨t0, t1, t2⟩ := k6.out.three; obtain ⟨r0, r1, r2⟩ := k6.out.2.1.cells; obtain ⟨g0, g1, g2⟩ := k6.out.2.1.frozen; clear n1 n2 hd hb))
          | (go_at_call 110; go_loud ((with_reducible refine (ON _).mono ?_); rintro e w5 ⟨A5, c5, rfl, hN, hb⟩; have k5 := Lib.hid (kf.out.up hb); have NG := Lib.hid (NF.out.up hb); have N5 := Lib.hid hN; obtain ⟨t0, t1, t2⟩ := k5.out.three; clear hN hb)))
      go_wp2
      refine bodyPost_ret (v := .agg #[.bool (ngt q), .slice AQa (nd (top q)) cQa, .slice AQb (nd dQ) cQb]) (by simp [results, Tryz.results107, go_sem, r0, r1, r2]) rfl ?_
      exact k6.out.giveQ NQ.out
    · rw [if_pos ⟨rfl, hr0⟩] at HM
      have hp : 0 < nd r := by have := nd_pos hr0; omega
      have AD := fun w' A A' c c' h h' => (radd_any A A' c c' y 1 w' h h' (by omega) (by rw [nd_one]; decide))
      have hy1 := nd_add_le y 1
      rw [nd_one] at hy1
      have MK := fun w' A A' c c' h h' => rmake_any true A A' c c' (y + 1) 1 w' h h' (by omega) (by rw [nd_one]; decide)
      rw [HM] at MK
      clear HM hr0 hy1
      have tok := True.intro
      generalize y + 1 = y1 at *
      go_enter Tryz.func107, Tryz.ntmps107
      go_wp2_with fail
      go_region_held3 (fun w' => w'.cell? ⟨w.heap.size, 0, none⟩ = some (.bool true) ∧ w'.cell? ⟨w.heap.size, 1, none⟩ = some (.slice A1 l1 c1) ∧ w'.cell? ⟨w.heap.size, 2, none⟩ = some (.slice A2 l2 c2))
        (first | (with_reducible exact k2.out.three) | (with_reducible exact k1.out.three) | (with_reducible exact kd.out.three) | go_keep)
        (first
          | (go_at_call 157; go_loud ((with_reducible refine (DV _ k1.out.b _ _ N1.out).mono ?_); rintro e w2 ⟨A6, c6, A7, c7, rfl, hN6, hN7, hb⟩; have k2 := Lib.hid (k1.out.up hb); have N6 := Lib.hid hN6; have N7 := Lib.hid hN7; obtain ⟨t0, t1, t2⟩ := k2.out.three; clear hN6 hN7 hb))
          | (go_at_call 109; go_loud ((with_reducible refine (DE _ kd.out.b).mono ?_); rintro e w1 ⟨A3, c3, rfl, hN, hb⟩; have k1 := Lib.hid (kd.out.up hb); have N1 := Lib.hid hN; obtain ⟨t0, t1, t2⟩ := k1.out.three; clear hN hb)))
      go_wp2_with (first
        | (go_at_call 152; go_loud ((with_reducible refine (AD _ _ _ _ _ N6'.out N8.out).mono ?_); rintro e w4 ⟨A9, c9, rfl, hN, hb⟩; have k4 := Lib.hid (k3.out.up hb); have N9 := Lib.hid hN; obtain ⟨t0, t1, t2⟩ := k4.out.three; clear hN hb))
        | (go_at_call 110; go_loud ((with_reducible refine (ON _).mono ?_); rintro e w3 ⟨A8, c8, rfl, hN, hb⟩; have tok2 := tok; have k3 := Lib.hid (k2.out.up hb); have N6' := Lib.hid (N6.out.up hb); have N8 := Lib.hid hN; clear hN hb tok)))
      have kf := Lib.hid (k4.out.up (Below.drew (Below.refl _ _)))
      have NF := Lib.hid (N9.out.up (Below.drew (Below.refl _ _)))
      obtain ⟨y0, y1, y2⟩ := kf.out.three
      go_region_held3 (fun w' => w'.cell? ⟨w.heap.size, 0, none⟩ = some (.bool true) ∧ w'.cell? ⟨w.heap.size, 1, none⟩ = some (.slice A1 l1 c1) ∧ w'.cell? ⟨w.heap.size, 2, none⟩ = some (.slice A2 l2 c2))
        (first | (exact (k6.out.stored _ _ _).three) | (with_reducible exact k6.out.three) | (with_reducible exact k5.out.three) | (with_reducible exact kf.out.three) | go_keep)
        (first
          | (go_at_call 111; go_loud ((with_reducible refine (MK _ _ _ _ _ NG.out N5.out).mono ?_); rintro e w6 ⟨v, rfl, ⟨AQa, cQa, AQb, cQb, dQ, rfl, n1, n2, hd⟩, hb⟩; have k6 := Lib.hid (k5.out.up hb); have NQ := Lib.hid (show Qr w6 _ q from ⟨AQa, cQa, AQb, cQb, dQ, rfl, n1, n2, hd⟩); obtain ⟨t0, t1, t2⟩ := k6.out.three; obtain ⟨r0, r1, r2⟩ := k6.out.2.1.cells; obtain ⟨g0, g1, g2⟩ := k6.out.2.1.frozen; clear n1 n2 hd hb))
          | (go_at_call 110; go_loud ((with_reducible refine (ON _).mono ?_); rintro e w5 ⟨A5, c5, rfl, hN, hb⟩; have k5 := Lib.hid (kf.out.up hb); have NG := Lib.hid (NF.out.up hb); have N5 := Lib.hid hN; obtain ⟨t0, t1, t2⟩ := k5.out.three; clear hN hb)))
      go_wp2
      refine bodyPost_ret (v := .agg #[.bool (ngt q), .slice AQa (nd (top q)) cQa, .slice AQb (nd dQ) cQb]) (by simp [results, Tryz.results107, go_sem, r0, r1, r2]) rfl ?_
      exact k6.out.giveQ NQ.out

set_option maxRecDepth 100000 in
set_option maxHeartbeats 3200000 in
theorem rFloor_any (S : ByteArray) (hs : S.size ≤ 9223372036854775807) (w : World) :
    Calls Tryz.prog 47 #[.string S] w (GiveT w (qfl (bl S))) := by
  have G1 := fun w' => rget_any S hs w'
  obtain ⟨X, hX⟩ : ∃ X, qfl (bl S) = X := ⟨_, rfl⟩
  rw [hX]
  cases h1 : num? (bl S) with
  | none =>
    have HX := Lib.hid (show X = [] by rw [← hX]; unfold qfl; rw [h1])
    rw [h1] at G1
    have G1 := fun w' => (G1 w').mono fun _ _ h => h.none
    clear hs h1 hX
    go_enter Tryz.func47, Tryz.ntmps47
    go_wp2_with (go_at_call 49; ((with_reducible refine (G1 _).mono ?_); rintro e w1 ⟨y, A1, l1, c1, A2, l2, c2, q0, rfl, hb, hF, hz⟩; have B1 := Lib.hid (btrans hb (box_rs w1 (.bool y) (.slice A1 l1 c1) (.slice A2 l2 c2) 51).2.1); clear hb hF hz))
    go_ret
    exact ⟨by rw [HX.out]; rfl, B1.out⟩
  | some a =>
    have HX := Lib.hid (show X = put (flr a) by rw [← hX]; unfold qfl; rw [h1])
    have z1 := num_sz h1
    have z2 := sz_flr a
    rw [h1] at G1
    have G1 := fun w' => (G1 w').mono fun _ _ h => h.some
    have FL := fun w' v h => rbottom_any v a w' h (by omega)
    have PU := fun w' v h => rput_any v (flr a) w' h (by omega)
    clear hs h1 hX z1 z2
    generalize flr a = q at *
    go_enter Tryz.func47, Tryz.ntmps47
    go_wp2_with (first
      | (go_at_call 90; ((with_reducible refine (PU _ _ F2.out).mono ?_); rintro e w3 ⟨rfl, hb⟩; have B3 := Lib.hid (btrans B2.out hb); clear hb))
      | (go_at_call 107; ((with_reducible refine (FL _ _ F1.out).mono ?_); rintro e w2 ⟨v, rfl, hF, hb⟩; have B2 := Lib.hid (btrans B1.out hb); have F2 := Lib.hid hF; clear hb hF))
      | (go_at_call 49; ((with_reducible refine (G1 _).mono ?_); rintro e w1 ⟨y, A1, l1, c1, A2, l2, c2, rfl, hb, hF⟩; have bx := box_rs w1 (.bool y) (.slice A1 l1 c1) (.slice A2 l2 c2) 51; have F1 := Lib.hid (hF.up bx.2.1); have B1 := Lib.hid (btrans hb bx.2.1); clear hb hF bx)))
    go_ret
    exact ⟨by rw [HX.out]; rfl, B3.out⟩

end Go.Proofs.YtinoipjblkidfaaGreatDoor

/- Rounding of the reference: Rounded, Round. -/
namespace Go.Proofs.YtinoipjblkidfaaGreatDoor
open Go.RowKit Go.Proofs.YtinoipjblkidfaaGreatDoor.Dg Go.Proofs.YtinoipjblkidfaaGreatDoor.Q Go.Proofs.YtinoipjblkidfaaGreatDoor.Num Go.Proofs.YtinoipjblkidfaaGreatDoor.Str

theorem sz_half : sz (1 / 2) ≤ 1 := by
  have h : (1 / 2 : Rat) = mkRat (sg false 1) 2 := by decide +kernel
  rw [h]
  have := sz_make (b := false) (n := 1) (d := 2) (by decide)
  have h1 := nd_small (a := 2) (by decide)
  rw [nd_one] at this
  omega

set_option maxRecDepth 100000 in
set_option maxHeartbeats 12800000 in
theorem rrounded_any (v1 v2 : Value) (a b : Rat) (w : World) (h1 : Qr w v1 a) (h2 : Qr w v2 b) (hs : sz a + sz b ≤ 1000) (hb0 : b ≠ 0) :
    Calls Tryz.prog 108 #[v1, v2] w (GiveQ w (rnd a b)) := by
  have z1 := sz_div (a := a) hb0
  have z2 := sz_add (a / b) (1 / 2)
  have z3 := sz_flr (a / b + 1 / 2)
  have z4 := sz_half
  have QU := fun w' (hb : Below w.heap.size w w') => rquot_any v1 v2 a b w' (h1.up hb) (h2.up hb) (by omega)
  have HF := fun w' => rhalf_any w'
  have PL := fun w' v v' f f' => rplus_any v v' (a / b) (1 / 2) w' f f' (by omega)
  have BO := fun w' v f => rbottom_any v (a / b + 1 / 2) w' f (by omega)
  have PR := fun w' v f (hb : Below w.heap.size w w') => rprod_any v v2 (flr (a / b + 1 / 2)) b w' f (h2.up hb) (by omega)
  unfold rnd
  obtain ⟨A1, c1, A2, c2, da, rfl, n1, n2, hda⟩ := h1
  obtain ⟨A3, c3, A4, c4, db, rfl, n3, n4, hdb⟩ := h2
  have k0 := Lib.hid (K3.start w (.bool (ngt a)) (.slice A1 (nd (top a)) c1) (.slice A2 (nd da) c2) (.bool (ngt b)) (.slice A3 (nd (top b)) c3) (.slice A4 (nd db) c4) (.bool false) (.slice none 0 0) (.slice none 0 0) 51)
  obtain ⟨p0, p1, p2, p3, p4, p5⟩ := k0.out.six
  clear n1 n2 n3 n4 hda hdb z1 z2 z3 z4 hs hb0
  unfold W3 at k0 p0 p1 p2 p3 p4 p5
  have kd := Lib.hid (k0.out.up (Below.drew (Below.refl _ _)))
  obtain ⟨qQ, hq⟩ : ∃ q, flr (a / b + 1 / 2) * b = q := ⟨_, rfl⟩
  rw [hq] at PR ⊢
  clear hq
  generalize flr (a / b + 1 / 2) = r1 at *
  generalize a / b + 1 / 2 = r2 at *
  generalize a / b = r3 at *
  generalize (1 : Rat) / 2 = r4 at *
  generalize ngt a = x1 at *
  generalize ngt b = x2 at *
  generalize hl1 : nd (top a) = l1 at *
  generalize hl2 : nd (top b) = l2 at *
  generalize hl3 : nd da = l3 at *
  generalize hl4 : nd db = l4 at *
  clear hl1 hl2 hl3 hl4
  clear k0
  go_enter Tryz.func108, Tryz.ntmps108
  go_wp2_with fail
  go_region_held3 (fun w' => w'.cell? ⟨w.heap.size, 0, none⟩ = some (.bool x1) ∧ w'.cell? ⟨w.heap.size, 1, none⟩ = some (.slice A1 l1 c1) ∧ w'.cell? ⟨w.heap.size, 2, none⟩ = some (.slice A2 l3 c2) ∧ w'.cell? ⟨w.heap.size + 1, 0, none⟩ = some (.bool x2) ∧ w'.cell? ⟨w.heap.size + 1, 1, none⟩ = some (.slice A3 l2 c3) ∧ w'.cell? ⟨w.heap.size + 1, 2, none⟩ = some (.slice A4 l4 c4))
    (first | (exact (k5.out.stored _ _ _).six) | (with_reducible exact k5.out.six) | (with_reducible exact k4.out.six) | (with_reducible exact k3.out.six) | (with_reducible exact k2.out.six) | (with_reducible exact k1.out.six) | (with_reducible exact kd.out.six) | go_keep)
    (first
      | (go_at_call 56; go_loud ((with_reducible refine (PR _ _ F4.out k4.out.b).mono ?_); rintro e w5 ⟨v, rfl, ⟨AQa, cQa, AQb, cQb, dQ, rfl, n1, n2, hd⟩, hb⟩; have k5 := Lib.hid (k4.out.up hb); have NQ := Lib.hid (show Qr w5 _ qQ from ⟨AQa, cQa, AQb, cQb, dQ, rfl, n1, n2, hd⟩); obtain ⟨t0, t1, t2, t3, t4, t5⟩ := k5.out.six; obtain ⟨r0, r1', r2'⟩ := k5.out.2.2.1.cells; obtain ⟨f0, f1, f2⟩ := k5.out.2.2.1.frozen; clear n1 n2 hd hb))
      | (go_at_call 107; go_loud ((with_reducible refine (BO _ _ F3.out).mono ?_); rintro e w4 ⟨v4, rfl, hF, hb⟩; have k4 := Lib.hid (k3.out.up hb); have F4 := Lib.hid hF; obtain ⟨t0, t1, t2, t3, t4, t5⟩ := k4.out.six; clear hF hb))
      | (go_at_call 102; go_loud ((with_reducible refine (PL _ _ _ F1'.out F2.out).mono ?_); rintro e w3 ⟨v3, rfl, hF, hb⟩; have k3 := Lib.hid (k2.out.up hb); have F3 := Lib.hid hF; obtain ⟨t0, t1, t2, t3, t4, t5⟩ := k3.out.six; clear hF hb))
      | (go_at_call 57; go_loud ((with_reducible refine (HF _).mono ?_); rintro e w2 ⟨v2, rfl, hF, hb⟩; have k2 := Lib.hid (k1.out.up hb); have F1' := Lib.hid (F1.out.up hb); have F2 := Lib.hid hF; obtain ⟨t0, t1, t2, t3, t4, t5⟩ := k2.out.six; clear hF hb))
      | (go_at_call 54; go_loud ((with_reducible refine (QU _ kd.out.b).mono ?_); rintro e w1 ⟨v1, rfl, hF, hb⟩; have k1 := Lib.hid (kd.out.up hb); have F1 := Lib.hid hF; obtain ⟨t0, t1, t2, t3, t4, t5⟩ := k1.out.six; clear hF hb)))
  go_wp2
  refine bodyPost_ret (v := .agg #[.bool (ngt qQ), .slice AQa (nd (top qQ)) cQa, .slice AQb (nd dQ) cQb]) (by simp [results, Tryz.results108, go_sem, r0, r1', r2']) rfl ?_
  exact k5.out.giveQ NQ.out

/-- The operation of Round. -/
def dRound (a b : Rat) : Option Rat := if 0 < b then some (rnd a b) else none
theorem rnd_sz {a b : Rat} (hb : b ≠ 0) (z1 : sz a ≤ 5) (z2 : sz b ≤ 5) : sz (rnd a b) ≤ 30 := by
  unfold rnd
  have h1 := sz_div (a := a) hb
  have h2 := sz_add (a / b) (1 / 2)
  have h3 := sz_flr (a / b + 1 / 2)
  have h4 := sz_half
  have h5 := sz_mul (flr (a / b + 1 / 2)) b
  omega
theorem dRound_sz : ∀ a b q, dRound a b = some q → sz a ≤ 5 → sz b ≤ 5 → sz q ≤ 700000 := by
  intro a b q h h1 h2
  unfold dRound at h
  split at h
  · rename_i hb
    injection h with h; subst h
    have := rnd_sz (a := a) (b := b) (fun e => by rw [e] at hb; exact absurd hb (by decide)) h1 h2
    omega
  · cases h

set_option maxRecDepth 100000 in
set_option maxHeartbeats 6400000 in
theorem rRound_any (S T : ByteArray) (hs : S.size ≤ 9223372036854775807) (ht : T.size ≤ 9223372036854775807) (w : World) :
    Calls Tryz.prog 48 #[.string S, .string T] w (GiveT w (bin dRound (bl S) (bl T))) := by
  have TW := fun w' => rtwo_any S T hs ht w'
  obtain ⟨X, hX⟩ : ∃ X, bin dRound (bl S) (bl T) = X := ⟨_, rfl⟩
  rw [hX]
  rcases opt_cases (num? (bl S)) (num? (bl T)) with hn | ⟨a, b, ha, hb⟩
  · have TW := fun w' => (TW w').mono fun _ _ h => h.no hn
    have HX := Lib.hid (show X = [] by rw [← hX]; exact bin_none hn)
    clear hs ht hn hX
    go_enter Tryz.func48, Tryz.ntmps48
    go_wp2_with (go_at_call 103; go_loud ((with_reducible refine (TW _).mono ?_); rintro e w1 ⟨y1, A1, l1, c1, A2, l2, c2, y2, A3, l3, c3, A4, l4, c4, rfl, hb⟩; have kx := K2.start w1 (.bool y1) (.slice A1 l1 c1) (.slice A2 l2 c2) (.bool y2) (.slice A3 l3 c3) (.slice A4 l4 c4) 51; have B1 := Lib.hid (btrans hb kx.2.2.2); clear hb kx))
    go_ret
    exact ⟨by rw [HX.out]; rfl, B1.out⟩
  · have z1 := num_sz ha
    have z2 := num_sz hb
    rw [ha, hb] at TW
    have TW := fun w' => (TW w').mono fun _ _ h => h.yes
    have SG := fun w' v h => rsgn_any v b w' h
    obtain ⟨sb, hsb⟩ : ∃ z, sign b = z := ⟨_, rfl⟩
    rw [hsb] at SG
    by_cases h0 : 0 < b
    · have hs0 : ¬ sb ≤ 0 := by have := sign_pos.2 h0; omega
      have hne : b ≠ 0 := fun e => by rw [e] at h0; exact absurd h0 (by decide)
      have HX := Lib.hid (show X = put (rnd a b) by rw [← hX, bin_some2 ha hb]; unfold dRound; rw [if_pos h0])
      have z3 := rnd_sz (a := a) hne z1 z2
      have RO := fun w' v1 v2 h1 h2 => rrounded_any v1 v2 a b w' h1 h2 (by omega) hne
      have PU := fun w' v h => rput_any v (rnd a b) w' h (by omega)
      clear hs ht hX ha hb z1 z2 z3 h0 hsb hne
      generalize rnd a b = q at *
      go_enter Tryz.func48, Tryz.ntmps48
      go_wp2_with (first
        | (go_at_call 90; go_loud ((with_reducible refine (PU _ _ F3.out).mono ?_); rintro e w3 ⟨rfl, hb⟩; have B3 := Lib.hid (btrans B2.out hb); clear hb))
        | (go_at_call 108; go_loud ((with_reducible refine (RO _ _ _ F1'.out F2'.out).mono ?_); rintro e w2 ⟨v, rfl, hF, hb⟩; have F3 := Lib.hid hF; have B2 := Lib.hid (btrans Bs.out hb); clear hF hb))
        | (go_at_call 51; go_loud ((with_reducible refine (SG _ _ F2.out).mono ?_); rintro e ws ⟨rfl, hb⟩; have Bs := Lib.hid (btrans B1.out hb); have F1' := Lib.hid (F1.out.up hb); have F2' := Lib.hid (F2.out.up hb); have Ks := Lib.hid (K.out.up hb); obtain ⟨u0, u1, u2⟩ := Ks.out.1.cells; obtain ⟨x0, x1, x2⟩ := Ks.out.2.1.cells; clear hb))
        | (go_at_call 103; go_loud ((with_reducible refine (TW _).mono ?_); rintro e w1 ⟨y1, A1, l1, c1, A2, l2, c2, y2, A3, l3, c3, A4, l4, c4, rfl, hb, hF1, hF2⟩; have kx := K2.start w1 (.bool y1) (.slice A1 l1 c1) (.slice A2 l2 c2) (.bool y2) (.slice A3 l3 c3) (.slice A4 l4 c4) 51; have K := Lib.hid kx; have B1 := Lib.hid (btrans hb kx.2.2.2); have F1 := Lib.hid (hF1.up kx.2.2.2); have F2 := Lib.hid (hF2.up kx.2.2.2); obtain ⟨s0, s1, s2⟩ := K.out.1.cells; obtain ⟨t0, t1, t2⟩ := K.out.2.1.cells; clear hb hF1 hF2 kx)))
      go_ret
      exact ⟨by rw [HX.out]; rfl, B3.out⟩
    · have hs0 : sb ≤ 0 := by
        rcases Int.lt_or_le 0 sb with h | h
        · exact absurd (sign_pos.1 (by rw [hsb]; exact h)) h0
        · exact h
      have HX := Lib.hid (show X = [] by rw [← hX, bin_some2 ha hb]; unfold dRound; rw [if_neg h0])
      clear hs ht hX ha hb z1 z2 h0 hsb
      go_enter Tryz.func48, Tryz.ntmps48
      go_wp2_with (first
        | (go_at_call 51; go_loud ((with_reducible refine (SG _ _ F2.out).mono ?_); rintro e w2 ⟨rfl, hb⟩; have B2 := Lib.hid (btrans B1.out hb); clear hb))
        | (go_at_call 103; go_loud ((with_reducible refine (TW _).mono ?_); rintro e w1 ⟨y1, A1, l1, c1, A2, l2, c2, y2, A3, l3, c3, A4, l4, c4, rfl, hb, hF1, hF2⟩; have kx := K2.start w1 (.bool y1) (.slice A1 l1 c1) (.slice A2 l2 c2) (.bool y2) (.slice A3 l3 c3) (.slice A4 l4 c4) 51; have K := Lib.hid kx; have B1 := Lib.hid (btrans hb kx.2.2.2); have F1 := Lib.hid (hF1.up kx.2.2.2); have F2 := Lib.hid (hF2.up kx.2.2.2); obtain ⟨s0, s1, s2⟩ := K.out.1.cells; obtain ⟨t0, t1, t2⟩ := K.out.2.1.cells; clear hb hF1 hF2 kx)))
      go_ret
      exact ⟨by rw [HX.out]; rfl, B2.out⟩

end Go.Proofs.YtinoipjblkidfaaGreatDoor

/- Rounding of the program: Round. -/
namespace Go.Proofs.YtinoipjblkidfaaGreatDoor
open Go.RowKit Go.Proofs.YtinoipjblkidfaaGreatDoor.Dg Go.Proofs.YtinoipjblkidfaaGreatDoor.Q Go.Proofs.YtinoipjblkidfaaGreatDoor.Num Go.Proofs.YtinoipjblkidfaaGreatDoor.Str

theorem nd_two : nd 2 = 1 := by rw [nd_pos (by decide)]; rw [show 2 / 1000000000 = 0 by decide, nd_zero]
theorem Nt.two (w : World) (t : TypeId) : Nt .u32 (w.alloc (.cells #[.int .u32 2] t)) (w.alloc (.cells #[.int .u32 2] t)).heap.size (some ⟨w.heap.size, 0, none⟩) 1 2 := by
  unfold Nt
  rw [nd_two]
  refine ⟨Nat.le_refl _, (fun e => by cases e), fun _ => ⟨w.heap.size, 0, rfl, by simp, fun j hj => ?_⟩⟩
  obtain rfl : j = 0 := by omega
  have : dg 2 0 = 2 := by decide
  rw [this]
  exact World.cell?_alloc_mark w _ _ _ 0
theorem Nt.two_behind (w : World) (o : Obj) (t : TypeId) : Nt .u32 ((w.alloc o).alloc (.cells #[.int .u32 2] t)) ((w.alloc o).alloc (.cells #[.int .u32 2] t)).heap.size (some ⟨w.heap.size + 1, 0, none⟩) 1 2 := by
  have h := Nt.two (w.alloc o) t
  rw [show (w.alloc o).heap.size = w.heap.size + 1 by simp] at h
  exact h
/-- Two boxes, a result, and a box farther behind. -/
def K9 (w w' : World) (g : Nat) (a0 a1 a2 b0 b1 b2 c0 c1 c2 d0 d1 d2 : Value) (t : TypeId) : Prop := K3 w w' a0 a1 a2 b0 b1 b2 c0 c1 c2 t ∧ Rs w' g d0 d1 d2 t ∧ w.heap.size + 3 ≤ g ∧ g < w'.heap.size
theorem K9.up {w w1 w2 : World} {g : Nat} {a0 a1 a2 b0 b1 b2 c0 c1 c2 d0 d1 d2 : Value} {t : TypeId} (h : K9 w w1 g a0 a1 a2 b0 b1 b2 c0 c1 c2 d0 d1 d2 t) (hb : Below w1.heap.size w1 w2) : K9 w w2 g a0 a1 a2 b0 b1 b2 c0 c1 c2 d0 d1 d2 t :=
  ⟨h.1.up hb, h.2.1.below hb h.2.2.2, h.2.2.1, Nat.lt_of_lt_of_le h.2.2.2 hb.size⟩
theorem K9.nine {w w' : World} {g : Nat} {a0 a1 a2 b0 b1 b2 c0 c1 c2 d0 d1 d2 : Value} {t : TypeId} (h : K9 w w' g a0 a1 a2 b0 b1 b2 c0 c1 c2 d0 d1 d2 t) :
    w'.cell? ⟨w.heap.size, 0, none⟩ = some a0 ∧ w'.cell? ⟨w.heap.size, 1, none⟩ = some a1 ∧ w'.cell? ⟨w.heap.size, 2, none⟩ = some a2 ∧ w'.cell? ⟨w.heap.size + 1, 0, none⟩ = some b0 ∧ w'.cell? ⟨w.heap.size + 1, 1, none⟩ = some b1 ∧ w'.cell? ⟨w.heap.size + 1, 2, none⟩ = some b2 ∧ w'.cell? ⟨g, 0, none⟩ = some d0 ∧ w'.cell? ⟨g, 1, none⟩ = some d1 ∧ w'.cell? ⟨g, 2, none⟩ = some d2 := by
  obtain ⟨p0, p1, p2, p3, p4, p5⟩ := h.1.six
  obtain ⟨q0, q1, q2⟩ := h.2.1.cells
  exact ⟨p0, p1, p2, p3, p4, p5, q0, q1, q2⟩
theorem K9.stored {w w' : World} {g : Nat} {a0 a1 a2 b0 b1 b2 c0 c1 c2 d0 d1 d2 : Value} {t : TypeId} (h : K9 w w' g a0 a1 a2 b0 b1 b2 c0 c1 c2 d0 d1 d2 t) (x y z : Value) : K9 w (put3 w' (w.heap.size + 2) x y z) g a0 a1 a2 b0 b1 b2 x y z d0 d1 d2 t :=
  ⟨h.1.stored x y z, h.2.1.put3_other (by have := h.2.2.1; omega), h.2.2.1, by rw [put3_size]; exact h.2.2.2⟩
theorem K9.b {w w' : World} {g : Nat} {a0 a1 a2 b0 b1 b2 c0 c1 c2 d0 d1 d2 : Value} {t : TypeId} (h : K9 w w' g a0 a1 a2 b0 b1 b2 c0 c1 c2 d0 d1 d2 t) : Below w.heap.size w w' := h.1.2.2.2.2

set_option maxRecDepth 100000 in
set_option maxHeartbeats 12800000 in
theorem round1_any (v1 v2 : Value) (a b : Rat) (w : World) (h1 : Fr w v1 a) (h2 : Fr w v2 b) (z1 : sz a ≤ 5) (z2 : sz b ≤ 5) :
    Calls Tryz.prog 104 #[v1, v2] w (ReadQ (dRound a b) w) := by
  have H1 := Lib.hid h1
  have H2 := Lib.hid h2
  obtain ⟨A1, c1, A2, c2, rfl, n1, n2⟩ := h1
  obtain ⟨A3, c3, A4, c4, rfl, n3, n4⟩ := h2
  have k0 := Lib.hid (K3.start w (.bool (ngt a)) (.slice A1 (nd (top a)) c1) (.slice A2 (nd a.den) c2) (.bool (ngt b)) (.slice A3 (nd (top b)) c3) (.slice A4 (nd b.den) c4) (.bool false) (.slice none 0 0) (.slice none 0 0) 77)
  obtain ⟨p0, p1, p2, p3, p4, p5⟩ := k0.out.six
  have SG := fun w' (hb : Below w.heap.size w w') => fsign_any _ b w' (H2.out.up hb)
  obtain ⟨z, hz⟩ : ∃ z, sign b = z := ⟨_, rfl⟩
  rw [hz] at SG
  by_cases hb0 : 0 < b
  · have hne : b ≠ 0 := fun e => by rw [e] at hb0; exact absurd hb0 (by decide)
    have hzz : ¬ z ≤ 0 := by have := sign_pos.2 hb0; omega
    have HD := Lib.hid (show dRound a b = some (rnd a b) from if_pos hb0)
    have y1 := sz_div (a := a) hne
    have y2 := sz_add (a / b) (1 / 2)
    have y3 := sz_flr (a / b + 1 / 2)
    have y4 := sz_half
    have MK := fun w' A A' c c' h h' => make_any false A A' c c' 1 2 (by decide) w' h h' (by rw [nd_one]; decide) (by rw [nd_two]; decide)
    rw [show mkRat (sg false 1) 2 = (1 / 2 : Rat) by decide +kernel, nd_one, nd_two] at MK
    have DV := fun w' (hb : Below w.heap.size w w') => fdiv_any _ _ a b w' (H1.out.up hb) (H2.out.up hb) hne (by omega)
    have AD := fun w' v v' f f' => fadd_any v v' (a / b) (1 / 2) w' f f' (by omega)
    have FL := fun w' v f => ffloor_any v (a / b + 1 / 2) w' f (by omega)
    have MU := fun w' v f (hb : Below w.heap.size w w') => fmul_any v _ (flr (a / b + 1 / 2)) b w' f (H2.out.up hb) (by omega)
    unfold rnd at HD
    clear n1 n2 n3 n4 H1 H2 z1 z2 hb0 hz hne y1 y2 y3 y4
    unfold W3 at p0 p1 p2 p3 p4 p5 k0
    generalize dRound a b = o at *
    generalize hq : flr (a / b + 1 / 2) * b = q at *
    clear hq
    generalize flr (a / b + 1 / 2) = r1 at *
    generalize a / b + 1 / 2 = r2 at *
    generalize a / b = r3 at *
    generalize (1 : Rat) / 2 = h at *
    generalize ngt a = x1 at *
    generalize ngt b = x2 at *
    generalize nd (top a) = l1 at *
    generalize nd (top b) = l2 at *
    generalize nd a.den = l3 at *
    generalize nd b.den = l4 at *
    go_enter Tryz.func104, Tryz.ntmps104
    go_wp2_with (first
      | (go_at_call 105; go_loud ((with_reducible refine (MK _ _ _ _ _ O1.out O2.out).mono ?_); rintro e w3 ⟨v6, rfl, ⟨A6, c6, A7, c7, rfl, n6, n7⟩, hb⟩; have bx := box_rs w3 (.bool (ngt h)) (.slice A6 (nd (top h)) c6) (.slice A7 (nd h.den) c7) 77; have k3 := Lib.hid (k2.out.up hb); have F6 := Lib.hid (show Fr (w3.alloc (.cells #[.bool (ngt h), .slice A6 (nd (top h)) c6, .slice A7 (nd h.den) c7] 77)) (.agg #[.bool (ngt h), .slice A6 (nd (top h)) c6, .slice A7 (nd h.den) c7]) h from ⟨A6, c6, A7, c7, rfl, n6.up bx.2.1, n7.up bx.2.1⟩); have k6 := Lib.hid (show K9 w _ w3.heap.size _ _ _ _ _ _ _ _ _ _ _ _ 77 from ⟨k3.out.up bx.2.1, bx.1, k3.out.2.2.2.1, bx.2.2⟩); clear n6 n7 hb bx))
      | (go_at_call 81; go_loud (refine (SG _ k0.out.2.2.2.2).mono ?_; rintro e w1 ⟨rfl, hb⟩; have k1 := Lib.hid (k0.out.up hb); have k2 := Lib.hid ((k1.out.up (below_alloc (Below.refl _ w1) (.cells #[.int .u32 1] 122))).up (below_alloc (Below.refl _ _) (.cells #[.int .u32 2] 122))); have O2 := Lib.hid (Nt.two_behind w1 (.cells #[.int .u32 1] 122) 122); have O1 := Lib.hid ((Nt.one w1 122).up (below_alloc (Below.refl _ _) (.cells #[.int .u32 2] 122))); clear hb)))
    obtain ⟨y0, y1, y2, y3, y4, y5, y6, y7, y8⟩ := k6.out.nine
    generalize w3.alloc (.cells #[.bool (ngt h), .slice A6 (nd (top h)) c6, .slice A7 (nd h.den) c7] 77) = W6 at *
    generalize w3.heap.size = g6 at *
    generalize hx6 : ngt h = x6 at *
    generalize hl6 : nd (top h) = l6 at *
    generalize hl7 : nd h.den = l7 at *
    clear hx6 hl6 hl7
    have kd := Lib.hid (k6.out.up (Below.drew (Below.refl _ _)))
    have Fd := Lib.hid (F6.out.up (Below.drew (Below.refl _ _)))
    clear k0 k2 k3 k6 F6 O1 O2 p0 p1 p2 p3 p4 p5
    go_region_held3 (fun w' => w'.cell? ⟨w.heap.size, 0, none⟩ = some (.bool x1) ∧ w'.cell? ⟨w.heap.size, 1, none⟩ = some (.slice A1 l1 c1) ∧ w'.cell? ⟨w.heap.size, 2, none⟩ = some (.slice A2 l3 c2) ∧ w'.cell? ⟨w.heap.size + 1, 0, none⟩ = some (.bool x2) ∧ w'.cell? ⟨w.heap.size + 1, 1, none⟩ = some (.slice A3 l2 c3) ∧ w'.cell? ⟨w.heap.size + 1, 2, none⟩ = some (.slice A4 l4 c4) ∧ w'.cell? ⟨g6, 0, none⟩ = some (.bool x6) ∧ w'.cell? ⟨g6, 1, none⟩ = some (.slice A6 l6 c6) ∧ w'.cell? ⟨g6, 2, none⟩ = some (.slice A7 l7 c7))
      (first | (exact (m4.out.stored _ _ _).nine) | (with_reducible exact m4.out.nine) | (with_reducible exact m3.out.nine) | (with_reducible exact m2.out.nine) | (with_reducible exact m1.out.nine) | (with_reducible exact kd.out.nine) | go_keep)
      (first
        | (go_at_call 74; go_loud ((with_reducible refine (MU _ _ G3.out m3.out.b).mono ?_); rintro e u4 ⟨v, rfl, ⟨A8, c8, A9, c9, rfl, n8, n9⟩, hb⟩; have m4 := Lib.hid (m3.out.up hb); have N8 := Lib.hid n8; have N9 := Lib.hid n9; obtain ⟨t0, t1, t2, t3, t4, t5, t6, t7, t8⟩ := m4.out.nine; obtain ⟨s0, s1, s2⟩ := m4.out.1.2.2.1.cells; obtain ⟨f0, f1, f2⟩ := m4.out.1.2.2.1.frozen; clear n8 n9 hb))
        | (go_at_call 106; go_loud ((with_reducible refine (FL _ _ G2.out).mono ?_); rintro e u3 ⟨v19, rfl, hF, hb⟩; have m3 := Lib.hid (m2.out.up hb); have G3 := Lib.hid hF; obtain ⟨t0, t1, t2, t3, t4, t5, t6, t7, t8⟩ := m3.out.nine; clear hF hb))
        | (go_at_call 94; go_loud ((with_reducible refine (AD _ _ _ G1.out Fd1.out).mono ?_); rintro e u2 ⟨v18, rfl, hF, hb⟩; have m2 := Lib.hid (m1.out.up hb); have G2 := Lib.hid hF; obtain ⟨t0, t1, t2, t3, t4, t5, t6, t7, t8⟩ := m2.out.nine; clear hF hb))
        | (go_at_call 97; go_loud ((with_reducible refine (DV _ kd.out.b).mono ?_); rintro e u1 ⟨v16, rfl, hF, hb⟩; have m1 := Lib.hid (kd.out.up hb); have Fd1 := Lib.hid (Fd.out.up hb); have G1 := Lib.hid hF; obtain ⟨t0, t1, t2, t3, t4, t5, t6, t7, t8⟩ := m1.out.nine; clear hF hb)))
    go_wp2
    refine bodyPost_ret (v := .tuple #[.agg #[.bool (ngt q), .slice A8 (nd (top q)) c8, .slice A9 (nd q.den) c9], .bool true]) (by simp [results, Tryz.results104, go_sem, s0, s1, s2]) rfl ?_
    rw [HD.out]
    exact m4.out.1.giveT N8.out N9.out
  · have HD := Lib.hid (show dRound a b = none from if_neg hb0)
    have hzz : z ≤ 0 := by
      rcases Int.lt_or_le 0 z with h | h
      · exact absurd (sign_pos.1 (by rw [hz]; exact h)) hb0
      · exact h
    clear n1 n2 n3 n4 H1 H2 z1 z2 hb0 hz
    unfold W3 at p0 p1 p2 p3 p4 p5 k0
    generalize dRound a b = o at *
    generalize ngt a = x1 at *
    generalize ngt b = x2 at *
    generalize nd (top a) = l1 at *
    generalize nd (top b) = l2 at *
    generalize nd a.den = l3 at *
    generalize nd b.den = l4 at *
    go_enter Tryz.func104, Tryz.ntmps104
    go_wp2_with (go_at_call 81; go_loud (refine (SG _ k0.out.2.2.2.2).mono ?_; rintro e w1 ⟨rfl, hb⟩; have k1 := Lib.hid (k0.out.up hb); obtain ⟨q0, q1, q2, q3, q4, q5⟩ := k1.out.six; obtain ⟨r0, r1, r2⟩ := k1.out.2.2.1.cells; obtain ⟨f0, f1, f2⟩ := k1.out.2.2.1.frozen; clear hb))
    refine bodyPost_ret (v := .tuple #[.agg #[.bool x1, .slice A1 l1 c1, .slice A2 l3 c2], .bool false]) (by simp [results, Tryz.results104, go_sem, r0, r1, r2]) rfl ?_
    rw [HD.out]
    exact k1.out.giveN

set_option maxRecDepth 100000 in
set_option maxHeartbeats 1600000 in
theorem qRound_any (S T : ByteArray) (hs : S.size ≤ 9223372036854775807) (ht : T.size ≤ 9223372036854775807) (w : World) (hw : Wf w) :
    Calls Tryz.prog 45 #[.string S, .string T] w (GiveT w (bin dRound (bl S) (bl T))) := by
  have TW := two_round S T hs ht w hw dRound (fun w' v1 v2 a b hb f1 f2 z1 z2 => round1_any v1 v2 a b w' f1 f2 z1 z2) dRound_sz
  clear hs ht hw
  generalize bin dRound (bl S) (bl T) = X at *
  go_enter Tryz.func45, Tryz.ntmps45
  go_wp2_with (go_at_call 92; ((with_reducible refine TW.mono ?_); rintro e w2 ⟨rfl, hb⟩; have B2 := Lib.hid hb; clear hb))
  go_ret
  exact ⟨rfl, B2.out⟩

end Go.Proofs.YtinoipjblkidfaaGreatDoor
