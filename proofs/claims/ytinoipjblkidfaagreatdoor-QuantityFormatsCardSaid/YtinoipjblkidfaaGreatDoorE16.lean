/- Whole numbers of both: Int and FromInt. -/
import Derived.Test.YtinoipjblkidfaaGreatDoorE15
import Derived.Lib.ParseIntB
/- Plain laws: strconv's readers of whole numbers at canonical texts. No program. -/
namespace Go.Proofs.YtinoipjblkidfaaGreatDoor.Num
open Go.Proofs.YtinoipjblkidfaaGreatDoor.Str Go.Proofs.YtinoipjblkidfaaGreatDoor.Dg Go.Proofs.YtinoipjblkidfaaGreatDoor.Q Go.Lib

theorem fold_ge : ∀ (l : List UInt8) (a : Nat), a ≤ l.foldl (fun a c => 10 * a + (c.toNat - 48)) a
  | [], _ => Nat.le_refl _
  | c :: r, a => by rw [List.foldl_cons]; exact Nat.le_trans (by omega) (fold_ge r _)
theorem parseM_ok : ∀ {l : List UInt8} {M acc u : Nat}, parseUintM M acc l = .ok u → allD l = true ∧ u = l.foldl (fun a c => 10 * a + (c.toNat - 48)) acc ∧ (l ≠ [] → u ≤ M)
  | [], M, acc, u, h => by
    unfold parseUintM at h
    injection h with h
    exact ⟨rfl, h.symm, fun h => absurd rfl h⟩
  | c :: r, M, acc, u, h => by
    unfold parseUintM at h
    split at h
    · rename_i hd
      split at h
      · cases h
      · split at h
        · cases h
        · rename_i hM
          obtain ⟨h1, h2, h3⟩ := parseM_ok h
          have e : acc * 10 + (c.toNat - 48) = 10 * acc + (c.toNat - 48) := by omega
          refine ⟨?_, ?_, fun _ => ?_⟩
          · unfold allD at h1 ⊢; rw [List.all_cons, h1, Bool.and_true]; exact decide_eq_true hd
          · rw [List.foldl_cons, ← e]; exact h2
          · by_cases hr : r = []
            · subst hr; rw [h2, List.foldl_nil]; omega
            · exact h3 hr
    · cases h
theorem parseM_of : ∀ {l : List UInt8} {M acc : Nat}, allD l = true → M ≤ 18446744073709551615 → l.foldl (fun a c => 10 * a + (c.toNat - 48)) acc ≤ M → parseUintM M acc l = .ok (l.foldl (fun a c => 10 * a + (c.toNat - 48)) acc)
  | [], M, acc, _, _, _ => rfl
  | c :: r, M, acc, h, hM, hv => by
    have h1 : isD c = true ∧ allD r = true := by simpa [allD] using h
    rw [List.foldl_cons] at hv ⊢
    have e : acc * 10 + (c.toNat - 48) = 10 * acc + (c.toNat - 48) := by omega
    have hg := fold_ge r (10 * acc + (c.toNat - 48))
    unfold parseUintM
    rw [if_pos (of_decide_eq_true h1.1), if_neg (by omega), if_neg (by omega), e]
    exact parseM_of h1.2 hM hv
theorem uintB_ok {B : Nat} (hB : B ≤ 64) {l : List UInt8} {u : Nat} : parseUintB B l = .ok u ↔ l ≠ [] ∧ allD l = true ∧ u = val l ∧ val l ≤ 2 ^ B - 1 := by
  have h64 : 2 ^ B - 1 ≤ 18446744073709551615 := by
    have := Nat.pow_le_pow_right (n := 2) (by decide) hB
    have e : (2 : Nat) ^ 64 = 18446744073709551616 := by decide
    omega
  unfold parseUintB
  by_cases h : l = []
  · rw [if_pos h]; exact ⟨fun g => (by cases g), fun g => absurd h g.1⟩
  · rw [if_neg h]
    constructor
    · intro g
      obtain ⟨h1, h2, h3⟩ := parseM_ok g
      have h4 : u = val l := h2
      exact ⟨h, h1, h4, by rw [← h4]; exact h3 h⟩
    · rintro ⟨_, h1, rfl, h3⟩
      exact parseM_of h1 h64 h3
theorem parse10_is : ∀ (l : List UInt8) (acc : Nat), parseUint10 acc l = parseUintM (2 ^ 64 - 1) acc l
  | [], _ => rfl
  | c :: r, acc => by
    unfold parseUint10 parseUintM
    have e : (18446744073709551616 ≤ acc * 10 + (c.toNat - 48)) = (2 ^ 64 - 1 < acc * 10 + (c.toNat - 48)) := by apply propext; omega
    simp only [e, parse10_is r]
theorem atoi_is (l : List UInt8) : atoiAll l = parseIntB 64 l := by
  cases l with
  | nil => rfl
  | cons c r =>
    have e : ∀ l, parseMag l = parseUintB 64 l := fun l => by unfold parseMag parseUintB; rw [parse10_is]
    have p : (2 : Nat) ^ (64 - 1) = 9223372036854775808 := by decide
    unfold atoiAll parseIntB
    simp only [e, p]
    rfl
theorem intB_minus (B : Nat) (r : List UInt8) (v : Int) : parseIntB B (45 :: r) = .ok v ↔ ∃ u, parseUintB B r = .ok u ∧ u ≤ 2 ^ (B - 1) ∧ v = -(u : Int) := by
  have e1 : (45 : UInt8).toNat = 45 := rfl
  unfold parseIntB
  simp only [e1]
  cases h : parseUintB B r
  case ok u =>
    simp [h]
    constructor
    · intro g
      split at g
      · cases g
      · rename_i hu
        injection g with g
        exact ⟨by omega, g.symm⟩
    · rintro ⟨h1, rfl⟩
      rw [if_neg (by omega)]
  all_goals simp [h]
theorem intB_plain (B : Nat) (c : UInt8) (r : List UInt8) (h43 : c.toNat ≠ 43) (h45 : c.toNat ≠ 45) (v : Int) : parseIntB B (c :: r) = .ok v ↔ ∃ u, parseUintB B (c :: r) = .ok u ∧ u < 2 ^ (B - 1) ∧ v = (u : Int) := by
  unfold parseIntB
  simp only [h43, h45]
  cases h : parseUintB B (c :: r)
  case ok u =>
    simp [h]
    constructor
    · intro g
      split at g
      · cases g
      · rename_i hu
        injection g with g
        exact ⟨by omega, g.symm⟩
    · rintro ⟨h1, rfl⟩
      rw [if_neg (by omega)]
  all_goals simp [h]
/-- When strconv.ParseInt reads a canonical text: whole numbers of the size. -/
theorem intB_iff {B : Nat} (h0 : 1 ≤ B) (hB : B ≤ 64) (q : Rat) (v : Int) : parseIntB B (txt q) = .ok v ↔ q.den = 1 ∧ v = q.num ∧ -((2 ^ (B - 1) : Nat) : Int) ≤ v ∧ v < ((2 ^ (B - 1) : Nat) : Int) := by
  have hnum := num_sg q
  have hp : 2 ^ B = 2 * 2 ^ (B - 1) := by obtain ⟨b, rfl⟩ : ∃ b, B = b + 1 := ⟨B - 1, by omega⟩; rw [Nat.pow_succ, Nat.add_sub_cancel, Nat.mul_comm]
  have hb := txt_body q
  have hneg := txt_neg q
  have hu : ∀ u, parseUintB B (body (txt q)) = .ok u ↔ q.den = 1 ∧ u = top q ∧ top q ≤ 2 ^ B - 1 := by
    intro u
    rw [uintB_ok hB, hb]
    by_cases h1 : q.den = 1
    · rw [if_pos h1, List.append_nil, val_dec]
      exact ⟨fun g => ⟨h1, g.2.2⟩, fun g => ⟨dec_ne _, allD_dec _, g.2⟩⟩
    · rw [if_neg h1]
      refine ⟨fun g => ?_, fun g => absurd g.1 h1⟩
      have := allD_mem g.2.1 (c := 47) (by simp)
      cases this
  have hpos : 1 ≤ 2 ^ (B - 1) := Nat.one_le_two_pow
  rw [hp] at hu
  cases hn : ngt q
  · have e : txt q = body (txt q) := by
      have : body (txt q) = txt q := by unfold body; rw [hneg, hn]; rfl
      exact this.symm
    obtain ⟨c, r, ec, hc⟩ : ∃ c r, body (txt q) = c :: r ∧ isD c = true := by
      rw [hb]
      cases hd : decDigits (top q) with
      | nil => exact absurd hd (dec_ne _)
      | cons x l => exact ⟨x, _, rfl, dec_head_digit (top q) (by rw [hd]; rfl)⟩
    have hc' := of_decide_eq_true hc
    rw [hn] at hnum
    have hnum' : q.num = (top q : Int) := hnum
    rw [e, ec, intB_plain B c r (by omega) (by omega), ← ec]
    constructor
    · rintro ⟨u, g1, g2, rfl⟩
      obtain ⟨k1, k2, _⟩ := (hu u).1 g1
      exact ⟨k1, by rw [hnum', k2], by omega, by omega⟩
    · rintro ⟨g1, rfl, g3, g4⟩
      rw [hnum'] at g3 g4
      exact ⟨top q, (hu _).2 ⟨g1, rfl, by omega⟩, by omega, hnum'⟩
  · have e : txt q = 45 :: body (txt q) := by
      have := body_is (txt q)
      rw [hneg, hn] at this
      exact this
    rw [hn] at hnum
    have hnum' : q.num = -(top q : Int) := hnum
    have ht := ngt_top hn
    rw [e, intB_minus]
    constructor
    · rintro ⟨u, g1, g2, rfl⟩
      obtain ⟨k1, k2, _⟩ := (hu u).1 g1
      exact ⟨k1, by rw [hnum', k2], by omega, by omega⟩
    · rintro ⟨g1, rfl, g3, g4⟩
      rw [hnum'] at g3 g4
      exact ⟨top q, (hu _).2 ⟨g1, rfl, by omega⟩, by omega, hnum'⟩
end Go.Proofs.YtinoipjblkidfaaGreatDoor.Num

/- Plain laws of rounding, of whole numbers, and of the values of a type. No program. -/
namespace Go.Proofs.YtinoipjblkidfaaGreatDoor
open Go.Proofs.YtinoipjblkidfaaGreatDoor.Dg Go.Proofs.YtinoipjblkidfaaGreatDoor.Q Go.Proofs.YtinoipjblkidfaaGreatDoor.Num

/-- The multiple of a step that is nearest. -/
def rnd (a b : Rat) : Rat := flr (a / b + 1 / 2) * b
theorem rnd_near {a b : Rat} (hb : 0 < b) : (rnd a b / b).den = 1 ∧ a - rnd a b ≤ b * (1 / 2) ∧ -(a - rnd a b) ≤ b * (1 / 2) := by
  have hne : b ≠ 0 := by intro e; rw [e] at hb; exact absurd hb (by decide)
  unfold rnd
  obtain ⟨t, ht⟩ : ∃ t, a / b + 1 / 2 = t := ⟨_, rfl⟩
  rw [ht]
  have h1 : flr t ≤ t := Rat.floor_le t
  have h2 : t < flr t + 1 := by
    have := Rat.lt_floor_add_one t
    rw [Rat.intCast_add] at this
    exact this
  have ha : a = (t - 1 / 2) * b := by rw [← ht]; grind
  have e : flr t * b / b = flr t := by grind
  have hd := flr_den t
  have k0 : (0 : Rat) ≤ b := Rat.le_of_lt hb
  have k1 : (t - flr t) * b ≤ 1 * b := Rat.mul_le_mul_of_nonneg_right (by grind) k0
  have k2 : 0 * b ≤ (t - flr t) * b := Rat.mul_le_mul_of_nonneg_right (by grind) k0
  refine ⟨by rw [e]; exact hd, ?_, ?_⟩
  · rw [ha]; grind
  · rw [ha]; grind

/-- What Int gives. -/
def qint (l : List UInt8) : Int × Bool := match num? l with
  | some q => if q.den = 1 ∧ top q ≤ 9007199254740992 then (q.num, true) else (0, false)
  | none => (0, false)
/-- The bits of a type. -/
def bitsOf (k : Int) : Nat := if k = 1 then 8 else if k = 2 then 16 else if k = 3 then 32 else if k = 4 then 64 else 0
/-- Which values fit a type. -/
def qfits (k : Int) (l : List UInt8) : Bool :=
  if (bitsOf k = 0 ∧ k ≠ 5) ∨ (l ≠ [] ∧ num? l = none) then false
  else if l = [] ∨ bitsOf k = 0 then true
  else match num? l with
    | some q => decide (q.den = 1 ∧ -((2 ^ (bitsOf k - 1) : Nat) : Int) ≤ q.num ∧ q.num < ((2 ^ (bitsOf k - 1) : Nat) : Int))
    | none => false
/-- strconv.Atoi reads a number that is whole and not too long, and no other. -/
theorem atoi_small {q : Rat} (h : q.den = 1 ∧ top q ≤ 9007199254740992) : Lib.atoiAll (txt q) = .ok q.num := by
  rw [atoi_is]
  refine (intB_iff (by decide) (by decide) q q.num).2 ⟨h.1, rfl, ?_, ?_⟩
  · have p : (2 : Nat) ^ (64 - 1) = 9223372036854775808 := by decide
    rw [p]
    have : q.num.natAbs ≤ 9007199254740992 := h.2
    omega
  · have p : (2 : Nat) ^ (64 - 1) = 9223372036854775808 := by decide
    rw [p]
    have : q.num.natAbs ≤ 9007199254740992 := h.2
    omega
theorem atoi_reads {q : Rat} {v : Int} (h : Lib.atoiAll (txt q) = .ok v) : q.den = 1 ∧ v = q.num := by
  rw [atoi_is] at h
  obtain ⟨h1, h2, _⟩ := (intB_iff (by decide) (by decide) q v).1 h
  exact ⟨h1, h2⟩
end Go.Proofs.YtinoipjblkidfaaGreatDoor

/- Whole numbers and rounding of the reference: IntQ, Frac, Whole, Bottom, Floor, Rounded, Round. -/
namespace Go.Proofs.YtinoipjblkidfaaGreatDoor
open Go.RowKit Go.Proofs.YtinoipjblkidfaaGreatDoor.Dg Go.Proofs.YtinoipjblkidfaaGreatDoor.Q Go.Proofs.YtinoipjblkidfaaGreatDoor.Num Go.Proofs.YtinoipjblkidfaaGreatDoor.Str

theorem K1.giveQ {w w' : World} {q : Rat} {b : Bool} {A A' : Option Addr} {l c l' c' : Nat} (h : K1 w w' (.bool false) (.slice none 0 0) (.slice none 0 0) 51) (hq : Qr w' (.agg #[.bool b, .slice A l c, .slice A' l' c']) q) :
    GiveQ w q (.returned (.agg #[.bool b, .slice A l c, .slice A' l' c'])) (put3 w' w.heap.size (.bool b) (.slice A l c) (.slice A' l' c')) :=
  ⟨_, rfl, hq.put3 h.1 rfl rfl rfl, put3_below h.2.1 (Nat.le_refl _)⟩
theorem K2.three {w w' : World} {a0 a1 a2 c0 c1 c2 : Value} {t : TypeId} (h : K2 w w' a0 a1 a2 c0 c1 c2 t) : w'.cell? ⟨w.heap.size, 0, none⟩ = some a0 ∧ w'.cell? ⟨w.heap.size, 1, none⟩ = some a1 ∧ w'.cell? ⟨w.heap.size, 2, none⟩ = some a2 := h.1.cells
theorem K2.b {w w' : World} {a0 a1 a2 c0 c1 c2 : Value} {t : TypeId} (h : K2 w w' a0 a1 a2 c0 c1 c2 t) : Below w.heap.size w w' := h.2.2.2
theorem K2.stored {w w' : World} {a0 a1 a2 c0 c1 c2 : Value} {t : TypeId} (h : K2 w w' a0 a1 a2 c0 c1 c2 t) (x y z : Value) : K2 w (put3 w' (w.heap.size + 1) x y z) a0 a1 a2 x y z t := by
  obtain ⟨h1, h2, h4, h5⟩ := h
  exact ⟨h1.put3_other (by omega), h2.put3_same, by rw [put3_size]; exact h4, put3_below h5 (by omega)⟩
theorem K2.giveQ {w w' : World} {a0 a1 a2 x y z : Value} {t : TypeId} {q : Rat} (h : K2 w w' a0 a1 a2 (.bool false) (.slice none 0 0) (.slice none 0 0) t) (hq : Qr w' (.agg #[x, y, z]) q) :
    GiveQ w q (.returned (.agg #[x, y, z])) (put3 w' (w.heap.size + 1) x y z) :=
  ⟨_, rfl, hq.put3 h.2.1 rfl rfl rfl, (h.stored _ _ _).2.2.2⟩
theorem mk_one (z : Int) : mkRat z 1 = (z : Rat) := by
  have := Rat.mkRat_self (z : Rat)
  exact this
theorem flr_make (q : Rat) : mkRat (sg (ngt q) (top (flr q))) 1 = flr q := by
  have h := mk_top_den (flr q)
  rw [flr_den, flr_ngt] at h
  by_cases h0 : top (flr q) = 0
  · rw [h0, make_zero]
    exact (top_zero.1 h0).symm
  · rw [decide_eq_true h0, Bool.and_true] at h
    exact h
theorem sz_int (z : Int) (h : z.natAbs ≤ 18446744073709551615) : sz (z : Rat) ≤ 3 := by
  unfold sz
  rw [int_top, int_den, nd_one]
  have := nd_64 h
  omega

set_option maxRecDepth 100000 in
set_option maxHeartbeats 3200000 in
theorem rintq_any (n : Int) (h1 : -9223372036854775808 ≤ n) (h2 : n ≤ 9223372036854775807) (w : World) : Calls Tryz.prog 91 #[.int .i64 n] w (GiveQ w (n : Rat)) := by
  have k0 := Lib.hid (show K1 w (w.alloc (.cells #[.bool false, .slice none 0 0, .slice none 0 0] 51)) _ _ _ _ from box_rs w _ _ _ _)
  have ON := fun w' => rone_any w'
  have hm := mk_one n
  obtain ⟨q, hq⟩ : ∃ q, (n : Rat) = q := ⟨_, rfl⟩
  rw [hq] at hm ⊢
  by_cases hn : n < 0
  · obtain ⟨z, hz⟩ : ∃ z : Nat, -(n + 1) = (z : Int) := ⟨(-(n + 1)).toNat, by omega⟩
    have hz1 : z ≤ 9223372036854775807 := by omega
    have e2 : sg true (z + 1) = n := by unfold sg; rw [if_pos rfl]; push_cast; omega
    have e3 : IntKind.i64.wrap (n + 1) = n + 1 := IntWalk.i64_in _ (by constructor <;> omega)
    have e4 : IntKind.i64.wrap (z : Int) = (z : Int) := IntWalk.i64_in _ (by constructor <;> omega)
    have e5 : IntKind.u64.wrap (z : Int) = (z : Int) := IntWalk.u64_in _ (by constructor <;> omega)
    have e6 : (z : Int) + 1 = ((z + 1 : Nat) : Int) := by push_cast; rfl
    have e7 : IntKind.u64.wrap ((z : Int) + 1) = (z : Int) + 1 := IntWalk.u64_in _ (by constructor <;> omega)
    have NO : ∀ w', Calls Tryz.prog 88 #[.int .u64 ((z : Int) + 1)] w' (GiveN .u64 w' (z + 1)) := fun w' => by have h := natOf_any (z + 1) (by omega) w'; rw [← e6] at h; exact h
    have nb := nd_64 (a := z + 1) (by omega)
    have MK := fun w' A A' c c' h h' => rmake_any true A A' c c' (z + 1) 1 w' h h' (by omega) (by rw [nd_one]; decide)
    rw [e2, hm] at MK
    clear hq hm e2 e6 nb
    generalize z + 1 = z1 at *
    go_enter Tryz.func91, Tryz.ntmps91
    go_wp2_with (first
      | (go_at_call 111; go_loud ((with_reducible refine (MK _ _ _ _ _ N1'.out N2.out).mono ?_); rintro e w3 ⟨v, rfl, ⟨AQa, cQa, AQb, cQb, dQ, rfl, n1, n2, hd⟩, hb⟩; have k3 := Lib.hid (k2.out.up hb); have NQ := Lib.hid (show Qr w3 _ q from ⟨AQa, cQa, AQb, cQb, dQ, rfl, n1, n2, hd⟩); obtain ⟨t0, t1, t2⟩ := k3.out.three; obtain ⟨g0, g1, g2⟩ := k3.out.1.frozen; clear n1 n2 hd hb))
      | (go_at_call 110; go_loud ((with_reducible refine (ON _).mono ?_); rintro e w2 ⟨A2, c2, rfl, hN, hb⟩; have k2 := Lib.hid (k1.out.up hb); have N1' := Lib.hid (N1.out.up hb); have N2 := Lib.hid hN; clear hN hb))
      | (go_at_call 88; go_loud ((with_reducible refine (NO _).mono ?_); rintro e w1 ⟨A1, c1, rfl, hN, hb⟩; have k1 := Lib.hid (k0.out.up hb); have N1 := Lib.hid hN; clear hN hb)))
    refine bodyPost_ret (v := .agg #[.bool (ngt q), .slice AQa (nd (top q)) cQa, .slice AQb (nd dQ) cQb]) (by simp [results, Tryz.results91, go_sem, t0, t1, t2]) rfl ?_
    exact k3.out.giveQ NQ.out
  · obtain ⟨z, rfl⟩ : ∃ z : Nat, n = (z : Int) := ⟨n.toNat, by omega⟩
    have e2 : sg false z = (z : Int) := rfl
    have NO := fun w' => natOf_any z (by omega) w'
    have nb := nd_64 (a := z) (by omega)
    have MK := fun w' A A' c c' h h' => rmake_any false A A' c c' z 1 w' h h' (by omega) (by rw [nd_one]; decide)
    rw [e2, hm] at MK
    clear hq hm e2 nb
    go_enter Tryz.func91, Tryz.ntmps91
    go_wp2_with (first
      | (go_at_call 111; go_loud ((with_reducible refine (MK _ _ _ _ _ N1'.out N2.out).mono ?_); rintro e w3 ⟨v, rfl, ⟨AQa, cQa, AQb, cQb, dQ, rfl, n1, n2, hd⟩, hb⟩; have k3 := Lib.hid (k2.out.up hb); have NQ := Lib.hid (show Qr w3 _ q from ⟨AQa, cQa, AQb, cQb, dQ, rfl, n1, n2, hd⟩); obtain ⟨t0, t1, t2⟩ := k3.out.three; obtain ⟨g0, g1, g2⟩ := k3.out.1.frozen; clear n1 n2 hd hb))
      | (go_at_call 110; go_loud ((with_reducible refine (ON _).mono ?_); rintro e w2 ⟨A2, c2, rfl, hN, hb⟩; have k2 := Lib.hid (k1.out.up hb); have N1' := Lib.hid (N1.out.up hb); have N2 := Lib.hid hN; clear hN hb))
      | (go_at_call 88; go_loud ((with_reducible refine (NO _).mono ?_); rintro e w1 ⟨A1, c1, rfl, hN, hb⟩; have k1 := Lib.hid (k0.out.up hb); have N1 := Lib.hid hN; clear hN hb)))
    refine bodyPost_ret (v := .agg #[.bool (ngt q), .slice AQa (nd (top q)) cQa, .slice AQb (nd dQ) cQb]) (by simp [results, Tryz.results91, go_sem, t0, t1, t2]) rfl ?_
    exact k3.out.giveQ NQ.out

set_option maxRecDepth 100000 in
set_option maxHeartbeats 3200000 in
theorem rfrac_any (m n : Int) (h1 : -9223372036854775808 ≤ m) (h2 : m ≤ 9223372036854775807) (h3 : -9223372036854775808 ≤ n) (h4 : n ≤ 9223372036854775807) (w : World) : Calls Tryz.prog 57 #[.int .i64 m, .int .i64 n] w (GiveQ w ((m : Rat) / (n : Rat))) := by
  have k0 := Lib.hid (show K1 w (w.alloc (.cells #[.bool false, .slice none 0 0, .slice none 0 0] 51)) _ _ _ _ from box_rs w _ _ _ _)
  have I1 := fun w' => rintq_any m h1 h2 w'
  have I2 := fun w' => rintq_any n h3 h4 w'
  have s1 := sz_int m (by omega)
  have s2 := sz_int n (by omega)
  have QU := fun w' v1 v2 f1 f2 => rquot_any v1 v2 (m : Rat) (n : Rat) w' f1 f2 (by omega)
  clear h1 h2 h3 h4 s1 s2
  have tok := True.intro
  generalize (m : Rat) / (n : Rat) = q at *
  generalize (m : Rat) = a at *
  generalize (n : Rat) = b at *
  go_enter Tryz.func57, Tryz.ntmps57
  go_wp2_with (first
    | (go_at_call 54; go_loud ((with_reducible refine (QU _ _ _ F1'.out F2.out).mono ?_); rintro e w3 ⟨v, rfl, ⟨AQa, cQa, AQb, cQb, dQ, rfl, n1, n2, hd⟩, hb⟩; have k3 := Lib.hid (k2.out.up hb); have NQ := Lib.hid (show Qr w3 _ q from ⟨AQa, cQa, AQb, cQb, dQ, rfl, n1, n2, hd⟩); obtain ⟨t0, t1, t2⟩ := k3.out.three; obtain ⟨g0, g1, g2⟩ := k3.out.1.frozen; clear n1 n2 hd hb))
    | (go_at_call 91; (have _t := F1; (with_reducible refine (I2 _).mono ?_); rintro e w2 ⟨v2, rfl, hF, hb⟩; have k2 := Lib.hid (k1.out.up hb); have F1' := Lib.hid (F1.out.up hb); have F2 := Lib.hid hF; clear hF hb))
    | (go_at_call 91; go_loud ((have _t := tok; with_reducible refine (I1 _).mono ?_); rintro e w1 ⟨v1, rfl, hF, hb⟩; have k1 := Lib.hid (k0.out.up hb); have F1 := Lib.hid hF; clear tok _t hF hb)))
  refine bodyPost_ret (v := .agg #[.bool (ngt q), .slice AQa (nd (top q)) cQa, .slice AQb (nd dQ) cQb]) (by simp [results, Tryz.results57, go_sem, t0, t1, t2]) rfl ?_
  exact k3.out.giveQ NQ.out
theorem rhalf_any (w : World) : Calls Tryz.prog 57 #[.int .i64 1, .int .i64 2] w (GiveQ w (1 / 2)) := rfrac_any 1 2 (by decide) (by decide) (by decide) (by decide) w

set_option maxRecDepth 100000 in
set_option maxHeartbeats 3200000 in
theorem rwhole_any (v1 : Value) (a : Rat) (w : World) (h1 : Qr w v1 a) (hs : sz a ≤ 390000) : Calls Tryz.prog 53 #[v1] w fun e w' => e = .returned (.bool (decide (a.den = 1))) ∧ Below w.heap.size w w' := by
  have DE := fun w' (hb : Below w.heap.size w w') => rden_any v1 a w' (h1.up hb)
  have ON := fun w' => rone_any w'
  have s2 := sz_den a
  have CP := fun w' A A' c c' h h' => rcmp_any A A' c c' a.den 1 w' h h' (by omega)
  obtain ⟨A1, c1, A2, c2, d, rfl, _, _, _⟩ := h1
  have b0 := Lib.hid (box_rs w (.bool (ngt a)) (.slice A1 (nd (top a)) c1) (.slice A2 (nd d) c2) 51).2.1
  clear hs s2
  generalize nd (top a) = l1 at *
  generalize nd d = l2 at *
  generalize ngt a = x at *
  generalize a.den = dn at *
  by_cases h1 : dn = 1
  · rw [cmpN_eq h1] at CP
    rw [decide_eq_true h1]
    clear h1
    go_enter Tryz.func53, Tryz.ntmps53
    go_wp2_with (first
      | (go_at_call 87; go_loud ((with_reducible refine (CP _ _ _ _ _ N1'.out N2.out).mono ?_); rintro e w3 ⟨rfl, qq, rfl⟩))
      | (go_at_call 110; go_loud ((with_reducible refine (ON _).mono ?_); rintro e w2 ⟨A4, c4, rfl, hN, hb⟩; have b2 := Lib.hid (btrans b1.out hb); have N1' := Lib.hid (N1.out.up hb); have N2 := Lib.hid hN; clear hN hb))
      | (go_at_call 109; go_loud ((refine (DE _ b0.out).mono ?_); rintro e w1 ⟨A3, c3, rfl, hN, hb⟩; have b1 := Lib.hid (btrans b0.out hb); have N1 := Lib.hid hN; clear hN hb)))
    go_ret
    exact ⟨rfl, below_drewN b2.out _⟩
  · obtain ⟨z, hz⟩ : ∃ z, cmpN dn 1 = z := ⟨_, rfl⟩
    have hz0 : ¬ z = 0 := by
      intro e
      unfold cmpN at hz
      split at hz
      · omega
      · split at hz
        · omega
        · exact h1 (by omega)
    rw [hz] at CP
    rw [decide_eq_false h1]
    have hz1 : (z == 0) = false := beq_eq_false_iff_ne.2 hz0
    clear h1 hz
    go_enter Tryz.func53, Tryz.ntmps53
    go_wp2_with (first
      | (go_at_call 87; go_loud ((with_reducible refine (CP _ _ _ _ _ N1'.out N2.out).mono ?_); rintro e w3 ⟨rfl, qq, rfl⟩))
      | (go_at_call 110; go_loud ((with_reducible refine (ON _).mono ?_); rintro e w2 ⟨A4, c4, rfl, hN, hb⟩; have b2 := Lib.hid (btrans b1.out hb); have N1' := Lib.hid (N1.out.up hb); have N2 := Lib.hid hN; clear hN hb))
      | (go_at_call 109; go_loud ((refine (DE _ b0.out).mono ?_); rintro e w1 ⟨A3, c3, rfl, hN, hb⟩; have b1 := Lib.hid (btrans b0.out hb); have N1 := Lib.hid hN; clear hN hb)))
    go_ret
    exact ⟨rfl, below_drewN b2.out _⟩


set_option maxRecDepth 100000 in
set_option maxHeartbeats 6400000 in
theorem rbottom_any (v1 : Value) (a : Rat) (w : World) (h1 : Qr w v1 a) (hs : sz a ≤ 390000) : Calls Tryz.prog 107 #[v1] w (GiveQ w (flr a)) := by
  have DE := fun w' (hb : Below w.heap.size w w') => rden_any v1 a w' (h1.up hb)
  have ON := fun w' => rone_any w'
  obtain ⟨A1, c1, A2, c2, d, rfl, n1, n2, hd⟩ := h1
  have s1 := sz_top a
  have DV := fun w' (hb : Below w.heap.size w w') A c h => rdiv_any A1 A c1 c (top a) a.den w' (n1.up hb) h (by omega) a.den_nz
  have k0 := Lib.hid (K2.start w (.bool (ngt a)) (.slice A1 (nd (top a)) c1) (.slice A2 (nd d) c2) (.bool false) (.slice none 0 0) (.slice none 0 0) 51)
  have kd := Lib.hid (k0.out.up (Below.drew (Below.refl _ _)))
  obtain ⟨p0, p1, p2⟩ := k0.out.three
  have HT := flr_top a
  have HM := flr_make a
  have hyb : nd (top a / a.den) ≤ 390000 := Nat.le_trans (nd_mono (Nat.div_le_self _ _)) (Nat.le_trans s1 hs)
  have z0 := nd_zero
  clear n1 n2 s1 hs hd
  generalize top a / a.den = y at *
  generalize hr : top a % a.den = r at *
  generalize hl1 : nd (top a) = l1 at *
  generalize nd d = l2 at *
  generalize hx : ngt a = x at *
  obtain ⟨q, hq⟩ : ∃ q, flr a = q := ⟨_, rfl⟩
  rw [hq] at HT HM ⊢
  rw [HT] at HM
  clear HT hq hr hl1 hx
  cases x
  · rw [if_neg (fun h => by cases h.1)] at HM
    have MK := fun w' A A' c c' h h' => rmake_any false A A' c c' y 1 w' h h' (by omega) (by rw [nd_one]; decide)
    rw [HM] at MK
    clear HM
    go_enter Tryz.func107, Tryz.ntmps107
    go_wp2_with fail
    go_region_held3 (fun w' => w'.cell? ⟨w.heap.size, 0, none⟩ = some (.bool false) ∧ w'.cell? ⟨w.heap.size, 1, none⟩ = some (.slice A1 l1 c1) ∧ w'.cell? ⟨w.heap.size, 2, none⟩ = some (.slice A2 l2 c2))
      (first | (with_reducible exact k2.out.three) | (with_reducible exact k1.out.three) | (with_reducible exact kd.out.three) | go_keep)
      (first
        | (go_at_call 157; go_loud ((with_reducible refine (DV _ k1.out.b _ _ N1.out).mono ?_); rintro e w2 ⟨A6, c6, A7, c7, rfl, hN6, hN7, hb⟩; have k2 := Lib.hid (k1.out.up hb); have N6 := Lib.hid hN6; have N7 := Lib.hid hN7; obtain ⟨t0, t1, t2⟩ := k2.out.three; clear hN6 hN7 hb))
        | (go_at_call 109; go_loud ((with_reducible refine (DE _ kd.out.b).mono ?_); rintro e w1 ⟨A3, c3, rfl, hN, hb⟩; have k1 := Lib.hid (kd.out.up hb); have N1 := Lib.hid hN; obtain ⟨t0, t1, t2⟩ := k1.out.three; clear hN hb)))
    go_wp2_with fail
    have kf := Lib.hid (k2.out.up (Below.drew (Below.refl _ _)))
    have NF := Lib.hid (N6.out.up (Below.drew (Below.refl _ _)))
    obtain ⟨y0, y1, y2⟩ := kf.out.three
    go_region_held3 (fun w' => w'.cell? ⟨w.heap.size, 0, none⟩ = some (.bool false) ∧ w'.cell? ⟨w.heap.size, 1, none⟩ = some (.slice A1 l1 c1) ∧ w'.cell? ⟨w.heap.size, 2, none⟩ = some (.slice A2 l2 c2))
      (first | (exact (k6.out.stored _ _ _).three) | (with_reducible exact k6.out.three) | (with_reducible exact k5.out.three) | (with_reducible exact kf.out.three) | go_keep)
      (first
        | (go_at_call 111; go_loud ((with_reducible refine (MK _ _ _ _ _ NG.out N5.out).mono ?_); rintro e w6 ⟨v, rfl, ⟨AQa, cQa, AQb, cQb, dQ, rfl, n1, n2, hd⟩, hb⟩; have k6 := Lib.hid (k5.out.up hb); have NQ := Lib.hid (show Qr w6 _ q from ⟨AQa, cQa, AQb, cQb, dQ, rfl, n1, n2, hd⟩); obtain ⟨t0, t1, t2⟩ := k6.out.three; obtain ⟨r0, r1, r2⟩ := k6.out.2.1.cells; obtain ⟨g0, g1, g2⟩ := k6.out.2.1.frozen; clear n1 n2 hd hb))
        | (go_at_call 110; go_loud ((with_reducible refine (ON _).mono ?_); rintro e w5 ⟨A5, c5, rfl, hN, hb⟩; have k5 := Lib.hid (kf.out.up hb); have NG := Lib.hid (NF.out.up hb); have N5 := Lib.hid hN; obtain ⟨t0, t1, t2⟩ := k5.out.three; clear hN hb)))
    go_wp2
    refine bodyPost_ret (v := .agg #[.bool (ngt q), .slice AQa (nd (top q)) cQa, .slice AQb (nd dQ) cQb]) (by simp [results, Tryz.results107, go_sem, r0, r1, r2]) rfl ?_
    exact k6.out.giveQ NQ.out
  · by_cases hr0 : r = 0
    · rw [if_neg (fun h => h.2 hr0)] at HM
      have MK := fun w' A A' c c' h h' => rmake_any true A A' c c' y 1 w' h h' (by omega) (by rw [nd_one]; decide)
      rw [HM] at MK
      rw [hr0] at DV
      clear HM hr0
      go_enter Tryz.func107, Tryz.ntmps107
      go_wp2_with fail
      go_region_held3 (fun w' => w'.cell? ⟨w.heap.size, 0, none⟩ = some (.bool true) ∧ w'.cell? ⟨w.heap.size, 1, none⟩ = some (.slice A1 l1 c1) ∧ w'.cell? ⟨w.heap.size, 2, none⟩ = some (.slice A2 l2 c2))
        (first | (with_reducible exact k2.out.three) | (with_reducible exact k1.out.three) | (with_reducible exact kd.out.three) | go_keep)
        (first
          | (go_at_call 157; go_loud ((with_reducible refine (DV _ k1.out.b _ _ N1.out).mono ?_); rintro e w2 ⟨A6, c6, A7, c7, rfl, hN6, hN7, hb⟩; have k2 := Lib.hid (k1.out.up hb); have N6 := Lib.hid hN6; have N7 := Lib.hid hN7; obtain ⟨t0, t1, t2⟩ := k2.out.three; clear hN6 hN7 hb))
          | (go_at_call 109; go_loud ((with_reducible refine (DE _ kd.out.b).mono ?_); rintro e w1 ⟨A3, c3, rfl, hN, hb⟩; have k1 := Lib.hid (kd.out.up hb); have N1 := Lib.hid hN; obtain ⟨t0, t1, t2⟩ := k1.out.three; clear hN hb)))
      go_wp2_with fail
      have kf := Lib.hid (k2.out.up (Below.drew (Below.refl _ _)))
      have NF := Lib.hid (N6.out.up (Below.drew (Below.refl _ _)))
      obtain ⟨y0, y1, y2⟩ := kf.out.three
      go_region_held3 (fun w' => w'.cell? ⟨w.heap.size, 0, none⟩ = some (.bool true) ∧ w'.cell? ⟨w.heap.size, 1, none⟩ = some (.slice A1 l1 c1) ∧ w'.cell? ⟨w.heap.size, 2, none⟩ = some (.slice A2 l2 c2))
        (first | (exact (k6.out.stored _ _ _).three) | (with_reducible exact k6.out.three) | (with_reducible exact k5.out.three) | (with_reducible exact kf.out.three) | go_keep)
        (first
          | (go_at_call 111; go_loud ((with_reducible refine (MK _ _ _ _ _ NG.out N5.out).mono ?_); rintro e w6 ⟨v, rfl, ⟨AQa, cQa, AQb, cQb, dQ, rfl, n1, n2, hd⟩, hb⟩; have k6 := Lib.hid (k5.out.up hb); have NQ := Lib.hid (show Qr w6 _ q from ⟨AQa, cQa, AQb, cQb, dQ, rfl, n1, n2, hd⟩); obtain ⟨t0, t1, t2⟩ := k6.out.three; obtain ⟨r0, r1, r2⟩ := k6.out.2.1.cells; obtain ⟨g0, g1, g2⟩ := k6.out.2.1.frozen; clear n1 n2 hd hb))
          | (go_at_call 110; go_loud ((with_reducible refine (ON _).mono ?_); rintro e w5 ⟨A5, c5, rfl, hN, hb⟩; have k5 := Lib.hid (kf.out.up hb); have NG := Lib.hid (NF.out.up hb); have N5 := Lib.hid hN; obtain ⟨t0, t1, t2⟩ := k5.out.three; clear hN hb)))
      go_wp2
      refine bodyPost_ret (v := .agg #[.bool (ngt q), .slice AQa (nd (top q)) cQa, .slice AQb (nd dQ) cQb]) (by simp [results, Tryz.results107, go_sem, r0, r1, r2]) rfl ?_
      exact k6.out.giveQ NQ.out
    · rw [if_pos ⟨rfl, hr0⟩] at HM
      have hp : 0 < nd r := by have := nd_pos hr0; omega
      have AD := fun w' A A' c c' h h' => (radd_any A A' c c' y 1 w' h h' (by omega) (by rw [nd_one]; decide))
      have hy1 := nd_add_le y 1
      rw [nd_one] at hy1
      have MK := fun w' A A' c c' h h' => rmake_any true A A' c c' (y + 1) 1 w' h h' (by omega) (by rw [nd_one]; decide)
      rw [HM] at MK
      clear HM hr0 hy1
      have tok := True.intro
      generalize y + 1 = y1 at *
      go_enter Tryz.func107, Tryz.ntmps107
      go_wp2_with fail
      go_region_held3 (fun w' => w'.cell? ⟨w.heap.size, 0, none⟩ = some (.bool true) ∧ w'.cell? ⟨w.heap.size, 1, none⟩ = some (.slice A1 l1 c1) ∧ w'.cell? ⟨w.heap.size, 2, none⟩ = some (.slice A2 l2 c2))
        (first | (with_reducible exact k2.out.three) | (with_reducible exact k1.out.three) | (with_reducible exact kd.out.three) | go_keep)
        (first
          | (go_at_call 157; go_loud ((with_reducible refine (DV _ k1.out.b _ _ N1.out).mono ?_); rintro e w2 ⟨A6, c6, A7, c7, rfl, hN6, hN7, hb⟩; have k2 := Lib.hid (k1.out.up hb); have N6 := Lib.hid hN6; have N7 := Lib.hid hN7; obtain ⟨t0, t1, t2⟩ := k2.out.three; clear hN6 hN7 hb))
          | (go_at_call 109; go_loud ((with_reducible refine (DE _ kd.out.b).mono ?_); rintro e w1 ⟨A3, c3, rfl, hN, hb⟩; have k1 := Lib.hid (kd.out.up hb); have N1 := Lib.hid hN; obtain ⟨t0, t1, t2⟩ := k1.out.three; clear hN hb)))
      go_wp2_with (first
        | (go_at_call 152; go_loud ((with_reducible refine (AD _ _ _ _ _ N6'.out N8.out).mono ?_); rintro e w4 ⟨A9, c9, rfl, hN, hb⟩; have k4 := Lib.hid (k3.out.up hb); have N9 := Lib.hid hN; obtain ⟨t0, t1, t2⟩ := k4.out.three; clear hN hb))
        | (go_at_call 110; go_loud ((with_reducible refine (ON _).mono ?_); rintro e w3 ⟨A8, c8, rfl, hN, hb⟩; have tok2 := tok; have k3 := Lib.hid (k2.out.up hb); have N6' := Lib.hid (N6.out.up hb); have N8 := Lib.hid hN; clear hN hb tok)))
      have kf := Lib.hid (k4.out.up (Below.drew (Below.refl _ _)))
      have NF := Lib.hid (N9.out.up (Below.drew (Below.refl _ _)))
      obtain ⟨y0, y1, y2⟩ := kf.out.three
      go_region_held3 (fun w' => w'.cell? ⟨w.heap.size, 0, none⟩ = some (.bool true) ∧ w'.cell? ⟨w.heap.size, 1, none⟩ = some (.slice A1 l1 c1) ∧ w'.cell? ⟨w.heap.size, 2, none⟩ = some (.slice A2 l2 c2))
        (first | (exact (k6.out.stored _ _ _).three) | (with_reducible exact k6.out.three) | (with_reducible exact k5.out.three) | (with_reducible exact kf.out.three) | go_keep)
        (first
          | (go_at_call 111; go_loud ((with_reducible refine (MK _ _ _ _ _ NG.out N5.out).mono ?_); rintro e w6 ⟨v, rfl, ⟨AQa, cQa, AQb, cQb, dQ, rfl, n1, n2, hd⟩, hb⟩; have k6 := Lib.hid (k5.out.up hb); have NQ := Lib.hid (show Qr w6 _ q from ⟨AQa, cQa, AQb, cQb, dQ, rfl, n1, n2, hd⟩); obtain ⟨t0, t1, t2⟩ := k6.out.three; obtain ⟨r0, r1, r2⟩ := k6.out.2.1.cells; obtain ⟨g0, g1, g2⟩ := k6.out.2.1.frozen; clear n1 n2 hd hb))
          | (go_at_call 110; go_loud ((with_reducible refine (ON _).mono ?_); rintro e w5 ⟨A5, c5, rfl, hN, hb⟩; have k5 := Lib.hid (kf.out.up hb); have NG := Lib.hid (NF.out.up hb); have N5 := Lib.hid hN; obtain ⟨t0, t1, t2⟩ := k5.out.three; clear hN hb)))
      go_wp2
      refine bodyPost_ret (v := .agg #[.bool (ngt q), .slice AQa (nd (top q)) cQa, .slice AQb (nd dQ) cQb]) (by simp [results, Tryz.results107, go_sem, r0, r1, r2]) rfl ?_
      exact k6.out.giveQ NQ.out

set_option maxRecDepth 100000 in
set_option maxHeartbeats 3200000 in
theorem rFloor_any (S : ByteArray) (hs : S.size ≤ 9223372036854775807) (w : World) :
    Calls Tryz.prog 47 #[.string S] w (GiveT w (qfl (bl S))) := by
  have G1 := fun w' => rget_any S hs w'
  obtain ⟨X, hX⟩ : ∃ X, qfl (bl S) = X := ⟨_, rfl⟩
  rw [hX]
  cases h1 : num? (bl S) with
  | none =>
    have HX := Lib.hid (show X = [] by rw [← hX]; unfold qfl; rw [h1])
    rw [h1] at G1
    have G1 := fun w' => (G1 w').mono fun _ _ h => h.none
    clear hs h1 hX
    go_enter Tryz.func47, Tryz.ntmps47
    go_wp2_with (go_at_call 49; ((with_reducible refine (G1 _).mono ?_); rintro e w1 ⟨y, A1, l1, c1, A2, l2, c2, q0, rfl, hb, hF, hz⟩; have B1 := Lib.hid (btrans hb (box_rs w1 (.bool y) (.slice A1 l1 c1) (.slice A2 l2 c2) 51).2.1); clear hb hF hz))
    go_ret
    exact ⟨by rw [HX.out]; rfl, B1.out⟩
  | some a =>
    have HX := Lib.hid (show X = put (flr a) by rw [← hX]; unfold qfl; rw [h1])
    have z1 := num_sz h1
    have z2 := sz_flr a
    rw [h1] at G1
    have G1 := fun w' => (G1 w').mono fun _ _ h => h.some
    have FL := fun w' v h => rbottom_any v a w' h (by omega)
    have PU := fun w' v h => rput_any v (flr a) w' h (by omega)
    clear hs h1 hX z1 z2
    generalize flr a = q at *
    go_enter Tryz.func47, Tryz.ntmps47
    go_wp2_with (first
      | (go_at_call 90; ((with_reducible refine (PU _ _ F2.out).mono ?_); rintro e w3 ⟨rfl, hb⟩; have B3 := Lib.hid (btrans B2.out hb); clear hb))
      | (go_at_call 107; ((with_reducible refine (FL _ _ F1.out).mono ?_); rintro e w2 ⟨v, rfl, hF, hb⟩; have B2 := Lib.hid (btrans B1.out hb); have F2 := Lib.hid hF; clear hb hF))
      | (go_at_call 49; ((with_reducible refine (G1 _).mono ?_); rintro e w1 ⟨y, A1, l1, c1, A2, l2, c2, rfl, hb, hF⟩; have bx := box_rs w1 (.bool y) (.slice A1 l1 c1) (.slice A2 l2 c2) 51; have F1 := Lib.hid (hF.up bx.2.1); have B1 := Lib.hid (btrans hb bx.2.1); clear hb hF bx)))
    go_ret
    exact ⟨by rw [HX.out]; rfl, B3.out⟩

end Go.Proofs.YtinoipjblkidfaaGreatDoor

/- Units of the reference: within, raise. -/
namespace Go.Proofs.YtinoipjblkidfaaGreatDoor
open Go.RowKit Go.Proofs.YtinoipjblkidfaaGreatDoor.Dg Go.Proofs.YtinoipjblkidfaaGreatDoor.Q Go.Proofs.YtinoipjblkidfaaGreatDoor.Num

set_option maxRecDepth 100000 in
theorem rwithin_any (n : Int) (w : World) : Calls Tryz.prog 78 #[.int .i64 n] w fun e w' => e = .returned (.bool (wi n)) ∧ w = w' := by
  have HW := Lib.hid (show wi n = (decide (-12 ≤ n) && decide (n ≤ 12)) from rfl)
  by_cases h1 : -12 ≤ n
  · rw [decide_eq_true h1, Bool.true_and] at HW
    go_enter Tryz.func78, Tryz.ntmps78
    go_wp2
    go_ret
    exact ⟨by rw [HW.out]; rfl, rfl⟩
  · rw [decide_eq_false h1, Bool.false_and] at HW
    go_enter Tryz.func78, Tryz.ntmps78
    go_wp2
    go_ret
    exact ⟨by rw [HW.out]; rfl, rfl⟩

/-- What a later world keeps of a box, a result and a number of the reference in a block behind them. -/
def PowR (w wr : World) (g : Nat) (a0 a1 a2 : Value) (x : Bool) (A : Option Addr) (l c : Nat) (A' : Option Addr) (l' c' : Nat) (q : Rat) : Prop :=
  K2 w wr a0 a1 a2 (.bool false) (.slice none 0 0) (.slice none 0 0) 51 ∧ w.heap.size + 2 ≤ g ∧ g < wr.heap.size ∧ Rs wr g (.bool x) (.slice A l c) (.slice A' l' c') 51 ∧ Qr wr (.agg #[.bool x, .slice A l c, .slice A' l' c']) q
theorem PowR.up {w w1 w2 : World} {g : Nat} {a0 a1 a2 : Value} {x : Bool} {A : Option Addr} {l c : Nat} {A' : Option Addr} {l' c' : Nat} {q : Rat} (h : PowR w w1 g a0 a1 a2 x A l c A' l' c' q) (hb : Below w1.heap.size w1 w2) : PowR w w2 g a0 a1 a2 x A l c A' l' c' q :=
  ⟨h.1.up hb, h.2.1, Nat.lt_of_lt_of_le h.2.2.1 hb.size, h.2.2.2.1.below hb h.2.2.1, h.2.2.2.2.up hb⟩
theorem PowR.start {w w1 : World} {a0 a1 a2 : Value} {x : Bool} {A : Option Addr} {l c : Nat} {A' : Option Addr} {l' c' : Nat} {q : Rat} (h : K2 w w1 a0 a1 a2 (.bool false) (.slice none 0 0) (.slice none 0 0) 51) (hq : Qr w1 (.agg #[.bool x, .slice A l c, .slice A' l' c']) q) :
    PowR w (w1.alloc (.cells #[.bool x, .slice A l c, .slice A' l' c'] 51)) w1.heap.size a0 a1 a2 x A l c A' l' c' q := by
  have hb := box_rs w1 (.bool x) (.slice A l c) (.slice A' l' c') 51
  exact ⟨h.up hb.2.1, h.2.2.1, hb.2.2, hb.1, hq.up hb.2.1⟩
theorem PowR.stored {w wr : World} {g : Nat} {a0 a1 a2 : Value} {x : Bool} {A : Option Addr} {l c : Nat} {A' : Option Addr} {l' c' : Nat} {q : Rat} (h : PowR w wr g a0 a1 a2 x A l c A' l' c' q) {y : Bool} {B : Option Addr} {m d : Nat} {B' : Option Addr} {m' d' : Nat} {p : Rat} (hp : Qr wr (.agg #[.bool y, .slice B m d, .slice B' m' d']) p) :
    PowR w (put3 wr g (.bool y) (.slice B m d) (.slice B' m' d')) g a0 a1 a2 y B m d B' m' d' p := by
  obtain ⟨⟨k1, k2, k3, k4⟩, h2, h3, hr, _⟩ := h
  exact ⟨⟨k1.put3_other (by omega), k2.put3_other (by omega), by rw [put3_size]; exact k3, put3_below k4 (by omega)⟩, h2, by rw [put3_size]; exact h3, hr.put3_same, hp.put3 hr rfl rfl rfl⟩
theorem PowR.q {w wr : World} {g : Nat} {a0 a1 a2 : Value} {x : Bool} {A : Option Addr} {l c : Nat} {A' : Option Addr} {l' c' : Nat} {q : Rat} (h : PowR w wr g a0 a1 a2 x A l c A' l' c' q) : Qr wr (.agg #[.bool x, .slice A l c, .slice A' l' c']) q := h.2.2.2.2
theorem PowR.three {w wr : World} {g : Nat} {a0 a1 a2 : Value} {x : Bool} {A : Option Addr} {l c : Nat} {A' : Option Addr} {l' c' : Nat} {q : Rat} (h : PowR w wr g a0 a1 a2 x A l c A' l' c' q) : wr.cell? ⟨g, 0, none⟩ = some (.bool x) ∧ wr.cell? ⟨g, 1, none⟩ = some (.slice A l c) ∧ wr.cell? ⟨g, 2, none⟩ = some (.slice A' l' c') := h.2.2.2.1.cells
theorem PowR.put {w wr : World} {g : Nat} {a0 a1 a2 : Value} {x : Bool} {A : Option Addr} {l c : Nat} {A' : Option Addr} {l' c' : Nat} {q : Rat} (h : PowR w wr g a0 a1 a2 x A l c A' l' c' q) (u v z : Value) : (put3 wr (w.heap.size + 1) u v z).cell? ⟨g, 0, none⟩ = some (.bool x) ∧ (put3 wr (w.heap.size + 1) u v z).cell? ⟨g, 1, none⟩ = some (.slice A l c) ∧ (put3 wr (w.heap.size + 1) u v z).cell? ⟨g, 2, none⟩ = some (.slice A' l' c') :=
  (h.2.2.2.1.put3_other (by have := h.2.1; omega)).cells

set_option maxRecDepth 100000 in
set_option maxHeartbeats 6400000 in
theorem rraise_any (v1 : Value) (a : Rat) (n : Int) (hn : n.natAbs ≤ 12) (w : World) (h1 : Qr w v1 a) (hs : sz a ≤ 100) :
    Calls Tryz.prog 134 #[v1, .int .i64 n] w (GiveQ w (a ^ n)) := by
  have H1 := h1
  obtain ⟨A1, c1, A2, c2, d0, rfl, _, _, _⟩ := h1
  have k0 := Lib.hid (K2.start w (.bool (ngt a)) (.slice A1 (nd (top a)) c1) (.slice A2 (nd d0) c2) (.bool false) (.slice none 0 0) (.slice none 0 0) 51)
  have MU := fun w' v k (hb : Below w.heap.size w w') (h : Qr w' v (a ^ k)) (hk : k ≤ 12) => rprod_any v _ (a ^ k) a w' h (H1.up hb) (by have := sz_npow hs k; omega)
  have DV := fun w' v v' k (h : Qr w' v 1) (h' : Qr w' v' (a ^ k)) (hk : k ≤ 12) => rquot_any v v' 1 (a ^ k) w' h h' (by have := sz_npow hs k; rw [sz_one]; omega)
  obtain ⟨m, hm⟩ : ∃ m, n.natAbs = m := ⟨_, rfl⟩
  rw [hm] at hn
  have P0 : ∃ p, a ^ 0 = p := ⟨_, rfl⟩
  obtain ⟨p, hp⟩ := P0
  have I1 := fun w' => rintq_any 1 (by decide) (by decide) w'
  rw [show ((1 : Int) : Rat) = p by rw [← hp, Rat.pow_zero]; rfl] at I1
  rw [show (1 : Rat) = p by rw [← hp, Rat.pow_zero]] at DV
  clear hs H1
  generalize hl1 : nd (top a) = l1 at *
  generalize hl2 : nd d0 = l2 at *
  generalize hx1 : ngt a = x1 at *
  have HP := Lib.hid hp
  clear hp hl1 hl2 hx1
  rcases (show n = (m : Int) ∨ (n = -(m : Int) ∧ m ≠ 0) by omega) with e | ⟨e, m0⟩
  · have hz : a ^ n = a ^ m := by rw [e, Rat.zpow_natCast]
    rw [hz]
    subst e
    have i1 : ¬ (m : Int) < 0 := by omega
    have i2 : -(m : Int) ≤ (m : Int) := by omega
    have i3 : max (m : Int) (-(m : Int)) = (m : Int) := by omega
    have i4 : (m : Int) ≤ 12 := by omega
    clear hm hz DV
    go_enter Tryz.func134, Tryz.ntmps134
    go_wp2_with (go_at_call 91; go_loud ((refine (I1 _).mono ?_); rintro e w1 ⟨v, rfl, ⟨A3, c3, A4, c4, dd, rfl, n3, n4, hd⟩, hb⟩; have k1 := Lib.hid (PowR.start (k0.out.up hb) (show Qr w1 _ p from ⟨A3, c3, A4, c4, dd, rfl, n3, n4, hd⟩)); clear n3 n4 hd hb))
    go_loopw [11] (fun i wr => ∃ (k : Nat) (x : Bool) (A : Option Addr) (l c : Nat) (A' : Option Addr) (l' c' : Nat), k ≤ m ∧ i = .int .i64 (k : Int) ∧ Hid (PowR w wr w1.heap.size (.bool x1) (.slice A1 l1 c1) (.slice A2 l2 c2) x A l c A' l' c' (a ^ k))) (fun i _ => (m - intOf i).toNat)
    case atStart => exact ⟨0, _, _, _, _, _, _, _, Nat.zero_le _, rfl, by rw [HP.out]; exact k1⟩
    case round =>
      obtain ⟨k, x, A, l, c, A', l', c', hk, rfl, hS⟩ := hrel
      clear k1
      obtain ⟨d0, d1, d2⟩ := hS.out.three
      obtain ⟨f0, f1, f2⟩ := hS.out.2.2.2.1.frozen
      obtain ⟨b0, b1, b2⟩ := hS.out.1.1.cells
      obtain ⟨q0, q1, q2⟩ := hS.out.1.2.1.cells
      obtain ⟨g0, g1, g2⟩ := hS.out.1.2.1.frozen
      by_cases hkm : (k : Int) < (m : Int)
      · have M := MU wr _ k hS.out.1.2.2.2 hS.out.2.2.2.2 (by omega)
        rw [← Rat.pow_succ] at M
        obtain ⟨q', hq'⟩ : ∃ q, a ^ (k + 1) = q := ⟨_, rfl⟩
        rw [hq'] at M
        have HQ := Lib.hid hq'
        clear hq' MU
        generalize a ^ k = q at *
        go_wp2_with (go_at_call 56; go_loud ((with_reducible refine M.mono ?_); rintro e w2 ⟨v, rfl, ⟨A7, c7, A8, c8, dd, rfl, n7, n8, hd⟩, hb⟩; have k2 := Lib.hid (hS.out.up hb); have K3 := Lib.hid (k2.out.stored (show Qr w2 _ q' from ⟨A7, c7, A8, c8, dd, rfl, n7, n8, hd⟩)); obtain ⟨f0, f1, f2⟩ := k2.out.2.2.2.1.frozen; obtain ⟨d0, d1, d2⟩ := k2.out.three; clear n7 n8 hd hb))
        go_roundw
        case rel => exact ⟨k + 1, _, _, _, _, _, _, _, by omega, rfl, by rw [HQ.out]; exact K3⟩
        case measure => simp only [intOf]; omega
      · obtain rfl : k = m := by omega
        clear MU
        generalize a ^ k = q at *
        go_wp2
        refine bodyPost_ret (v := .agg #[.bool x, .slice A l c, .slice A' l' c']) (by simp [results, Tryz.results134, go_sem, q0, q1, q2]) rfl ?_
        exact hS.out.1.giveQ hS.out.2.2.2.2
  · have hz : a ^ n = (a ^ m)⁻¹ := by rw [e, Rat.zpow_neg, Rat.zpow_natCast]
    rw [hz]
    subst e
    have i1 : -(m : Int) < 0 := by omega
    have i2 : -(m : Int) ≤ (m : Int) := by omega
    have i3 : max (-(m : Int)) (m : Int) = (m : Int) := by omega
    have i4 : (m : Int) ≤ 12 := by omega
    clear hm hz
    go_enter Tryz.func134, Tryz.ntmps134
    go_wp2_with (go_at_call 91; go_loud ((refine (I1 _).mono ?_); rintro e w1 ⟨v, rfl, ⟨A3, c3, A4, c4, dd, rfl, n3, n4, hd⟩, hb⟩; have k1 := Lib.hid (PowR.start (k0.out.up hb) (show Qr w1 _ p from ⟨A3, c3, A4, c4, dd, rfl, n3, n4, hd⟩)); clear n3 n4 hd hb))
    go_loopw [11] (fun i wr => ∃ (k : Nat) (x : Bool) (A : Option Addr) (l c : Nat) (A' : Option Addr) (l' c' : Nat), k ≤ m ∧ i = .int .i64 (k : Int) ∧ Hid (PowR w wr w1.heap.size (.bool x1) (.slice A1 l1 c1) (.slice A2 l2 c2) x A l c A' l' c' (a ^ k))) (fun i _ => (m - intOf i).toNat)
    case atStart => exact ⟨0, _, _, _, _, _, _, _, Nat.zero_le _, rfl, by rw [HP.out]; exact k1⟩
    case round =>
      obtain ⟨k, x, A, l, c, A', l', c', hk, rfl, hS⟩ := hrel
      clear k1
      obtain ⟨d0, d1, d2⟩ := hS.out.three
      obtain ⟨f0, f1, f2⟩ := hS.out.2.2.2.1.frozen
      obtain ⟨b0, b1, b2⟩ := hS.out.1.1.cells
      obtain ⟨q0, q1, q2⟩ := hS.out.1.2.1.cells
      obtain ⟨g0, g1, g2⟩ := hS.out.1.2.1.frozen
      by_cases hkm : (k : Int) < (m : Int)
      · have M := MU wr _ k hS.out.1.2.2.2 hS.out.2.2.2.2 (by omega)
        rw [← Rat.pow_succ] at M
        obtain ⟨q', hq'⟩ : ∃ q, a ^ (k + 1) = q := ⟨_, rfl⟩
        rw [hq'] at M
        have HQ := Lib.hid hq'
        clear hq' MU DV
        generalize a ^ k = q at *
        go_wp2_with (go_at_call 56; go_loud ((with_reducible refine M.mono ?_); rintro e w2 ⟨v, rfl, ⟨A7, c7, A8, c8, dd, rfl, n7, n8, hd⟩, hb⟩; have k2 := Lib.hid (hS.out.up hb); have K3 := Lib.hid (k2.out.stored (show Qr w2 _ q' from ⟨A7, c7, A8, c8, dd, rfl, n7, n8, hd⟩)); obtain ⟨f0, f1, f2⟩ := k2.out.2.2.2.1.frozen; obtain ⟨d0, d1, d2⟩ := k2.out.three; clear n7 n8 hd hb))
        go_roundw
        case rel => exact ⟨k + 1, _, _, _, _, _, _, _, by omega, rfl, by rw [HQ.out]; exact K3⟩
        case measure => simp only [intOf]; omega
      · obtain rfl : k = m := by omega
        clear MU
        have DV := fun w' v v' h h' => DV w' v v' k h h' hn
        generalize a ^ k = q at *
        have hI : p / q = q⁻¹ := by rw [← HP.out, Rat.pow_zero, Rat.div_def, Rat.one_mul]
        rw [hI] at DV
        generalize q⁻¹ = y at *
        have kd := Lib.hid (hS.out.up (Below.drew (Below.refl _ _)))
        clear f0 f1 f2 b0 b1 b2 q0 q1 q2 g0 g1 g2
        go_wp2_with fail
        go_region_held3 (fun w' => w'.cell? ⟨w1.heap.size, 0, none⟩ = some (.bool x) ∧ w'.cell? ⟨w1.heap.size, 1, none⟩ = some (.slice A l c) ∧ w'.cell? ⟨w1.heap.size, 2, none⟩ = some (.slice A' l' c'))
          (first | (exact k3.out.put _ _ _) | (with_reducible exact k3.out.three) | (with_reducible exact k2.out.three) | (with_reducible exact kd.out.three) | go_keep)
          (first
            | (go_at_call 54; go_loud ((with_reducible refine (DV _ _ _ N2.out k2.out.q).mono ?_); rintro e w3 ⟨v, rfl, ⟨A7, c7, A8, c8, dd, rfl, n7, n8, hd⟩, hb⟩; have k3 := Lib.hid (k2.out.up hb); have NQ := Lib.hid (show Qr w3 _ y from ⟨A7, c7, A8, c8, dd, rfl, n7, n8, hd⟩); obtain ⟨d0, d1, d2⟩ := k3.out.three; obtain ⟨q0, q1, q2⟩ := k3.out.1.2.1.cells; obtain ⟨g0, g1, g2⟩ := k3.out.1.2.1.frozen; clear n7 n8 hd hb))
            | (go_at_call 91; go_loud ((refine (I1 _).mono ?_); rintro e w2 ⟨v, rfl, n2, hb⟩; have N2 := Lib.hid n2; have k2 := Lib.hid (kd.out.up hb); obtain ⟨d0, d1, d2⟩ := k2.out.three; clear n2 hb)))
        go_wp2
        refine bodyPost_ret (v := .agg #[.bool (ngt y), .slice A7 (nd (top y)) c7, .slice A8 (nd dd) c8]) (by simp [results, Tryz.results134, go_sem, q0, q1, q2]) rfl ?_
        exact k3.out.1.giveQ NQ.out

end Go.Proofs.YtinoipjblkidfaaGreatDoor

/- Whole numbers of both: Int and FromInt. -/
namespace Go.Proofs.YtinoipjblkidfaaGreatDoor
open Go.RowKit Go.Proofs.YtinoipjblkidfaaGreatDoor.Dg Go.Proofs.YtinoipjblkidfaaGreatDoor.Q Go.Proofs.YtinoipjblkidfaaGreatDoor.Num Go.Proofs.YtinoipjblkidfaaGreatDoor.Str

theorem small_num {q : Rat} (h : top q ≤ 9007199254740992) : -9007199254740992 ≤ q.num ∧ q.num ≤ 9007199254740992 := by
  have : q.num.natAbs ≤ 9007199254740992 := h
  omega
theorem big_num {q : Rat} (h : ¬ top q ≤ 9007199254740992) : q.num < -9007199254740992 ∨ 9007199254740992 < q.num := by
  have : ¬ q.num.natAbs ≤ 9007199254740992 := h
  omega

set_option maxRecDepth 100000 in
set_option maxHeartbeats 3200000 in
theorem qInt_any (S : ByteArray) (hs : S.size ≤ 9223372036854775807) (w : World) (hw : Wf w) :
    Calls Tryz.prog 25 #[.string S] w fun e w' => e = .returned (.tuple #[.int .i64 (qint (bl S)).1, .bool (qint (bl S)).2]) ∧ Below w.heap.size w w' := by
  have VA := fun w' (hb : Below w.heap.size w w') => qValid_any S hs w' (hw.up hb)
  obtain ⟨X, hX⟩ : ∃ X, qint (bl S) = X := ⟨_, rfl⟩
  rw [hX]
  have b := Lib.hid (Below.refl w.heap.size w)
  cases h1 : num? (bl S) with
  | none =>
    have HX := Lib.hid (show X = (0, false) by rw [← hX]; unfold qint; rw [h1])
    rw [h1] at VA
    clear hs hw hX h1
    go_enter Tryz.func25, Tryz.ntmps25
    go_wp2_with (go_at_call 23; go_loud ((refine (VA _ b.out).mono ?_); rintro e wn ⟨rfl, hb⟩; replace b := Lib.hid (btrans b.out hb); clear hb))
    go_ret2
    exact ⟨by rw [HX.out]; rfl, b.out⟩
  | some q =>
    obtain ⟨ht, hsh⟩ := num_iff.1 h1
    have hlen := short_len hsh
    rw [ht, bl_len] at hlen
    have AT := fun w' (hb : Below w.heap.size w w') => atoi_any S (by omega) w' (hw.up hb)
    rw [h1] at VA
    by_cases hq : q.den = 1 ∧ top q ≤ 9007199254740992
    · have HX := Lib.hid (show X = (q.num, true) by rw [← hX]; unfold qint; rw [h1]; exact if_pos hq)
      have hok := atoi_small hq
      rw [ht] at hok
      obtain ⟨g1, g2⟩ := small_num hq.2
      have AT := fun w' hb => (AT w' hb).mono fun e w2 h => (show e = .returned (.tuple #[.int .i64 q.num, .nilIface]) ∧ Below w'.heap.size w' w2 from by
        obtain ⟨v, ev, rfl, _, _, _, h3, h4⟩ := h
        rcases h3 with ⟨rfl, h5⟩ | ⟨_, h5⟩
        · rw [hok] at h5
          injection h5 with h5
          rw [h5]
          exact ⟨rfl, h4⟩
        · exact absurd hok (h5 _))
      have i1 : ¬ q.num < -9007199254740992 := by omega
      have i2 : ¬ 9007199254740992 < q.num := by omega
      clear hs hw hX h1 ht hsh hlen hq hok g1 g2
      generalize q.num = n at *
      go_enter Tryz.func25, Tryz.ntmps25
      go_wp2_with (first
        | (go_at_call 23; go_loud ((refine (VA _ b.out).mono ?_); rintro e wn ⟨rfl, hb⟩; replace b := Lib.hid (btrans b.out hb); clear hb))
        | (go_at_call 86; go_loud ((with_reducible refine (AT _ b.out).mono ?_); rintro e wn ⟨rfl, hb⟩; replace b := Lib.hid (btrans b.out hb); clear hb)))
      go_ret2
      exact ⟨by rw [HX.out]; rfl, b.out⟩
    · have HX := Lib.hid (show X = (0, false) by rw [← hX]; unfold qint; rw [h1]; exact if_neg hq)
      by_cases hok : ∃ u, Lib.atoiAll (bl S) = .ok u
      · obtain ⟨u, hok⟩ := hok
        have hr := atoi_reads (q := q) (v := u) (by rw [ht]; exact hok)
        have hbig := big_num (q := q) (fun h => hq ⟨hr.1, h⟩)
        rw [← hr.2] at hbig
        have AT := fun w' hb => (AT w' hb).mono fun e w2 h => (show e = .returned (.tuple #[.int .i64 u, .nilIface]) ∧ Below w'.heap.size w' w2 from by
          obtain ⟨v, ev, rfl, _, _, _, h3, h4⟩ := h
          rcases h3 with ⟨rfl, h5⟩ | ⟨_, h5⟩
          · rw [hok] at h5
            injection h5 with h5
            rw [h5]
            exact ⟨rfl, h4⟩
          · exact absurd hok (h5 _))
        clear hs hw hX h1 ht hsh hlen hq hok hr
        rcases hbig with i1 | i1
        · go_enter Tryz.func25, Tryz.ntmps25
          go_wp2_with (first
            | (go_at_call 23; go_loud ((refine (VA _ b.out).mono ?_); rintro e wn ⟨rfl, hb⟩; replace b := Lib.hid (btrans b.out hb); clear hb))
            | (go_at_call 86; go_loud ((with_reducible refine (AT _ b.out).mono ?_); rintro e wn ⟨rfl, hb⟩; replace b := Lib.hid (btrans b.out hb); clear hb)))
          go_ret2
          exact ⟨by rw [HX.out]; rfl, b.out⟩
        · have i2 : ¬ u < -9007199254740992 := by omega
          go_enter Tryz.func25, Tryz.ntmps25
          go_wp2_with (first
            | (go_at_call 23; go_loud ((refine (VA _ b.out).mono ?_); rintro e wn ⟨rfl, hb⟩; replace b := Lib.hid (btrans b.out hb); clear hb))
            | (go_at_call 86; go_loud ((with_reducible refine (AT _ b.out).mono ?_); rintro e wn ⟨rfl, hb⟩; replace b := Lib.hid (btrans b.out hb); clear hb)))
          go_ret2
          exact ⟨by rw [HX.out]; rfl, b.out⟩
      · have AT := fun w' hb => (AT w' hb).mono fun e w2 h => (show ∃ v t p, e = .returned (.tuple #[.int .i64 v, .iface t p]) ∧ Below w'.heap.size w' w2 from by
          obtain ⟨v, ev, rfl, _, _, _, h3, h4⟩ := h
          rcases h3 with ⟨_, h5⟩ | ⟨⟨t, p, rfl⟩, _⟩
          · exact absurd ⟨v, h5⟩ hok
          · exact ⟨v, t, p, rfl, h4⟩)
        clear hs hw hX h1 ht hsh hlen hq hok
        go_enter Tryz.func25, Tryz.ntmps25
        go_wp2_with (first
          | (go_at_call 23; go_loud ((refine (VA _ b.out).mono ?_); rintro e wn ⟨rfl, hb⟩; replace b := Lib.hid (btrans b.out hb); clear hb))
          | (go_at_call 86; go_loud ((with_reducible refine (AT _ b.out).mono ?_); rintro e wn ⟨v, t, p, rfl, hb⟩; replace b := Lib.hid (btrans b.out hb); clear hb)))
        go_ret2
        exact ⟨by rw [HX.out]; rfl, b.out⟩

theorem int_txt (n : Int) (h1 : -9223372036854775808 ≤ n) (h2 : n ≤ 9223372036854775807) : put (n : Rat) = Lib.itoa n ∧ short (n : Rat) = true := by
  have hs : short (n : Rat) = true := by
    unfold short
    rw [int_top, int_den]
    have a1 : (Lib.decDigits n.natAbs).length ≤ 40 := (dec_len_le (by decide)).2 (by
      have : (10 : Nat) ^ 40 = 10000000000000000000000000000000000000000 := by decide
      omega)
    have a2 : (Lib.decDigits 1).length ≤ 40 := by rw [dec_small (by decide)]; decide
    rw [decide_eq_true a1, decide_eq_true a2]
    rfl
  refine ⟨?_, hs⟩
  unfold put
  rw [if_pos hs]
  unfold txt
  rw [int_top, int_den, int_ngt, if_pos rfl, List.append_nil]
  unfold Lib.itoa
  by_cases h : n < 0
  · rw [if_pos (decide_eq_true h), if_pos h, show n.natAbs = (-n).toNat by omega]
    rfl
  · rw [if_neg (by rw [decide_eq_false h]; decide), if_neg h, show n.natAbs = n.toNat by omega, List.nil_append]

set_option maxRecDepth 100000 in
set_option maxHeartbeats 1600000 in
theorem qFromInt_any (n : Int) (h1 : -9223372036854775808 ≤ n) (h2 : n ≤ 9223372036854775807) (w : World) (hw : Wf w) : Calls Tryz.prog 27 #[.int .i64 n] w (GiveT w (put (n : Rat))) := by
  have IT := (Tryz.strconv_Itoa n (by omega) (by omega) w hw.1).mono fun e w' h => (show e = .returned (.string ⟨(Lib.itoa n).toArray⟩) ∧ Below w.heap.size w w' from by
    obtain ⟨rfl, k, os, rfl⟩ := h
    exact ⟨rfl, Lib.below_grow _ w (Nat.le_refl _) k os⟩)
  rw [(int_txt n h1 h2).1]
  clear h1 h2 hw
  generalize Lib.itoa n = X at *
  go_enter Tryz.func27, Tryz.ntmps27
  go_wp2_with (go_at_call 89; go_loud ((with_reducible refine IT.mono ?_); rintro e w1 ⟨rfl, hb⟩; have B1 := Lib.hid hb; clear hb))
  go_ret
  exact ⟨rfl, B1.out⟩

set_option maxRecDepth 100000 in
set_option maxHeartbeats 1600000 in
theorem rFromInt_any (n : Int) (h1 : -9223372036854775808 ≤ n) (h2 : n ≤ 9223372036854775807) (w : World) : Calls Tryz.prog 28 #[.int .i64 n] w (GiveT w (put (n : Rat))) := by
  have IQ := rintq_any n h1 h2 w
  have z := sz_int n (by omega)
  have PU := fun w' v f => rput_any v (n : Rat) w' f (by omega)
  clear h1 h2 z
  generalize (n : Rat) = q at *
  go_enter Tryz.func28, Tryz.ntmps28
  go_wp2_with (first
    | (go_at_call 90; go_loud ((with_reducible refine (PU _ _ F1.out).mono ?_); rintro e w2 ⟨rfl, hb⟩; have B2 := Lib.hid (btrans B1.out hb); clear hb))
    | (go_at_call 91; go_loud ((with_reducible refine IQ.mono ?_); rintro e w1 ⟨v, rfl, hF, hb⟩; have F1 := Lib.hid hF; have B1 := Lib.hid hb; clear hF hb)))
  go_ret
  exact ⟨rfl, B2.out⟩

set_option maxRecDepth 100000 in
set_option maxHeartbeats 6400000 in
theorem rInt_any (S : ByteArray) (hs : S.size ≤ 9223372036854775807) (w : World) :
    Calls Tryz.prog 26 #[.string S] w fun e w' => e = .returned (.tuple #[.int .i64 (qint (bl S)).1, .bool (qint (bl S)).2]) ∧ Below w.heap.size w w' := by
  have G1 := fun w' => rget_any S hs w'
  obtain ⟨X, hX⟩ : ∃ X, qint (bl S) = X := ⟨_, rfl⟩
  rw [hX]
  cases h1 : num? (bl S) with
  | none =>
    have HX := Lib.hid (show X = (0, false) by rw [← hX]; unfold qint; rw [h1])
    rw [h1] at G1
    have G1 := fun w' => (G1 w').mono fun _ _ h => h.none
    clear hs h1 hX
    go_enter Tryz.func26, Tryz.ntmps26
    go_wp2_with (go_at_call 49; go_loud ((with_reducible refine (G1 _).mono ?_); rintro e w1 ⟨y, A1, l1, c1, A2, l2, c2, q0, rfl, hb, hF, hz⟩; have bx := box_rs w1 (.bool y) (.slice A1 l1 c1) (.slice A2 l2 c2) 51; have B1 := Lib.hid (btrans hb bx.2.1); obtain ⟨p0, p1, p2⟩ := bx.1.cells; clear hb hF hz bx))
    go_quiet (fail)
    go_wp2
    go_ret2
    exact ⟨by rw [HX.out]; rfl, by first | exact below_drewN B1.out _ | exact B1.out⟩
  | some q =>
    rw [h1] at G1
    have G1 := fun w' => (G1 w').mono fun _ _ h => h.some
    have z1 := num_sz h1
    have s1 := sz_top q
    have WH := fun w' v f => rwhole_any v q w' f (by omega)
    have NO := fun w' => natOf_any 9007199254740992 (by decide) w'
    have CP := fun w' A A' c c' f f' => rcmp_any A A' c c' (top q) 9007199254740992 w' f f' (by omega)
    by_cases hd : q.den = 1
    · rw [decide_eq_true hd] at WH
      by_cases hb : top q ≤ 9007199254740992
      · have HX := Lib.hid (show X = (q.num, true) by rw [← hX]; unfold qint; rw [h1]; exact if_pos ⟨hd, hb⟩)
        obtain ⟨z, hz⟩ : ∃ z, cmpN (top q) 9007199254740992 = z := ⟨_, rfl⟩
        have hz0 : ¬ 0 < z := by
          intro e
          unfold cmpN at hz
          split at hz
          · omega
          · split at hz
            · omega
            · omega
        rw [hz] at CP
        have HN := Lib.hid (num_sg q)
        have nl : nd (top q) ≤ 5 := by omega
        clear hs h1 hX z1 s1 hd hz
        go_enter Tryz.func26, Tryz.ntmps26
        go_wp2_with (go_at_call 49; go_loud ((with_reducible refine (G1 _).mono ?_); rintro e w1 ⟨y, A1, l1, c1, A2, l2, c2, rfl, hb, hF⟩; have bx := box_rs w1 (.bool y) (.slice A1 l1 c1) (.slice A2 l2 c2) 51; have B1 := Lib.hid (btrans hb bx.2.1); have F1 := Lib.hid (hF.up bx.2.1); have L1 := Lib.hid bx.1; have S1 := Lib.hid bx.2.2; obtain ⟨AT1, cT1, AT2, cT2, dT, hT, n1, n2, hdT⟩ := hF; injection hT with hT; simp only [Array.mk.injEq, List.cons.injEq, Value.bool.injEq, Value.slice.injEq, and_true] at hT; obtain ⟨rfl, ⟨rfl, rfl, rfl⟩, rfl, rfl, rfl⟩ := hT; have NT1 := Lib.hid (n1.up bx.2.1); clear hb n1 n2 hdT bx))
        have Bd := Lib.hid (B1.out.trans (show Below w.heap.size _ (w1.alloc (.cells #[.bool (ngt q), .slice A1 (nd (top q)) c1, .slice A2 (nd dT) c2] 51)).drew from Below.drew (Below.refl _ _)))
        have Fd := Lib.hid (F1.out.up (Below.drew (Below.refl _ _)))
        have Ld := Lib.hid (L1.out.below (Below.drew (Below.refl _ _)) S1.out)
        have Sd := Lib.hid (show w1.heap.size < (w1.alloc (.cells #[.bool (ngt q), .slice A1 (nd (top q)) c1, .slice A2 (nd dT) c2] 51)).drew.heap.size from S1.out)
        have NTd := Lib.hid (NT1.out.up (Below.drew (Below.refl _ _)))
        obtain ⟨p0, p1, p2⟩ := L1.out.cells
        go_region_held3 (fun w' => w'.cell? ⟨w1.heap.size, 0, none⟩ = some (.bool (ngt q)) ∧ w'.cell? ⟨w1.heap.size, 1, none⟩ = some (.slice A1 (nd (top q)) c1) ∧ w'.cell? ⟨w1.heap.size, 2, none⟩ = some (.slice A2 (nd dT) c2))
          (first | (with_reducible exact L4.out.cells) | (with_reducible exact L3.out.cells) | (with_reducible exact L2.out.cells) | (with_reducible exact Ld.out.cells) | go_keep)
          (first
            | (go_at_call 87; go_loud ((with_reducible refine (CP _ _ _ _ _ NT3.out O3.out).mono ?_); rintro e w4 ⟨rfl, qq, rfl⟩; have B4 := Lib.hid (below_drewN B3.out qq); have L4 := Lib.hid (L3.out.below (below_drewN (Below.refl _ _) qq) S3.out); obtain ⟨t0, t1, t2⟩ := L4.out.cells))
            | (go_at_call 88; go_loud ((refine (NO _).mono ?_); rintro e w3 ⟨A9, c9, rfl, hN, hb⟩; have B3 := Lib.hid (btrans B2.out hb); have L3 := Lib.hid (L2.out.below hb S2.out); have S3 := Lib.hid (Nat.lt_of_lt_of_le S2.out hb.size); have NT3 := Lib.hid (NT2.out.up hb); have O3 := Lib.hid hN; obtain ⟨t0, t1, t2⟩ := L3.out.cells; clear hN hb))
            | (go_at_call 53; go_loud ((with_reducible refine (WH _ _ Fd.out).mono ?_); rintro e w2 ⟨rfl, hb⟩; have B2 := Lib.hid (btrans Bd.out hb); have L2 := Lib.hid (Ld.out.below hb Sd.out); have S2 := Lib.hid (Nat.lt_of_lt_of_le Sd.out hb.size); have NT2 := Lib.hid (NTd.out.up hb); obtain ⟨t0, t1, t2⟩ := L2.out.cells; clear hb)))
        have NT := Lib.hid (NT3.out.up (below_drewN (Below.refl _ _) qq))
        obtain ⟨m, hm⟩ : ∃ m, top q = m := ⟨_, rfl⟩
        rw [hm] at NT HN nl hb t1
        have e0 : ∀ k, m / pw k ≤ 9007199254740992 := fun k => Nat.le_trans (Nat.div_le_self _ _) hb
        have nl' : (nd m : Int) ≤ 5 := by omega
        have z0 : m / pw (nd m) = 0 := div_zero (Nat.le_refl _)
        have wn : wrap64 (-(m : Int)) = -(m : Int) := IntWalk.wrap64_in _ (by constructor <;> omega)
        have wn' : IntKind.i64.wrap (-(m : Int)) = -(m : Int) := IntWalk.i64_in _ (by constructor <;> omega)
        clear hb B1 B2 B3 Bd L1 L2 L3 Ld S1 S2 S3 Sd F1 Fd NT1 NT2 NT3 NTd O3 CP NO WH p0 p1 p2
        generalize w3.drewN qq = W at *
        generalize hx : ngt q = x at *
        clear hx
        go_wp2
        go_loop [6, 7] (fun n i => ∃ k v : Nat, k ≤ nd m ∧ Hid (m / pw k = v) ∧ n = .int .i64 (v : Int) ∧ i = .int .i64 ((k : Int) - 1)) (fun _ i => (intOf i + 1).toNat)
        case atStart => exact ⟨nd m, 0, Nat.le_refl _, Lib.hid z0, rfl, rfl⟩
        case round =>
          clear z0
          obtain ⟨k, v, hk, hv, rfl, rfl⟩ := hrel
          by_cases hk0 : k = 0
          · subst hk0
            have hvm : v = m := by have := hv.out; rw [pw_zero, Nat.div_one] at this; exact this.symm
            subst hvm
            have HQ := Lib.hid HN.out
            clear hv NT e0 nl nl' HN hm
            cases x
            all_goals
              go_wp2
              go_ret2
              refine ⟨?_, B4.out⟩
              rw [HX.out, HQ.out]
              first | rfl | (rw [wn]; rfl) | (simp only [wn]; rfl)
          · obtain ⟨j, rfl⟩ : ∃ j, k = j + 1 := ⟨k - 1, by omega⟩
            obtain ⟨bb, off, hA, _, hc⟩ := NT.out.at_ (show j < nd m by omega)
            subst hA
            obtain ⟨d, hd⟩ : ∃ d, dg m j = d := ⟨_, rfl⟩
            have hdl := dg_lt m j
            have hsp := div_split m j
            have hb2 := e0 j
            rw [hd] at hc hdl hsp
            rw [hv.out] at hsp
            rw [hsp] at hb2
            have HV := Lib.hid hsp
            have em : ((j + 1 : Nat) : Int) - 1 = (j : Int) := by omega
            have i1 : (j : Int) < (nd m : Int) := by omega
            have i0 : (0 : Int) ≤ (j : Int) := by omega
            have bi : (v : Int) * 1000000000 + (d : Int) ≤ 9007199254740992 := by omega
            have bv : (v : Int) ≤ 9007199 := by omega
            have bd : (d : Int) ≤ 999999999 := by omega
            rw [em]
            clear hv hd hdl hsp hk0 em HN hm e0 nl
            go_wp2
            go_round
            case rel => exact ⟨j, 1000000000 * v + d, by omega, HV, by first | go_num | (congr 1; push_cast; omega), by first | rfl | go_num⟩
            case measure => simp only [intOf]; omega
      · have HX := Lib.hid (show X = (0, false) by rw [← hX]; unfold qint; rw [h1]; exact if_neg (fun h => hb h.2))
        rw [cmpN_gt (by omega)] at CP
        clear hs h1 hX z1 s1 hd hb
        go_enter Tryz.func26, Tryz.ntmps26
        go_wp2_with (go_at_call 49; go_loud ((with_reducible refine (G1 _).mono ?_); rintro e w1 ⟨y, A1, l1, c1, A2, l2, c2, rfl, hb, hF⟩; have bx := box_rs w1 (.bool y) (.slice A1 l1 c1) (.slice A2 l2 c2) 51; have B1 := Lib.hid (btrans hb bx.2.1); have F1 := Lib.hid (hF.up bx.2.1); have L1 := Lib.hid bx.1; have S1 := Lib.hid bx.2.2; obtain ⟨AT1, cT1, AT2, cT2, dT, hT, n1, n2, hdT⟩ := hF; injection hT with hT; simp only [Array.mk.injEq, List.cons.injEq, Value.bool.injEq, Value.slice.injEq, and_true] at hT; obtain ⟨rfl, ⟨rfl, rfl, rfl⟩, rfl, rfl, rfl⟩ := hT; have NT1 := Lib.hid (n1.up bx.2.1); clear hb n1 n2 hdT bx))
        have Bd := Lib.hid (B1.out.trans (show Below w.heap.size _ (w1.alloc (.cells #[.bool (ngt q), .slice A1 (nd (top q)) c1, .slice A2 (nd dT) c2] 51)).drew from Below.drew (Below.refl _ _)))
        have Fd := Lib.hid (F1.out.up (Below.drew (Below.refl _ _)))
        have Ld := Lib.hid (L1.out.below (Below.drew (Below.refl _ _)) S1.out)
        have Sd := Lib.hid (show w1.heap.size < (w1.alloc (.cells #[.bool (ngt q), .slice A1 (nd (top q)) c1, .slice A2 (nd dT) c2] 51)).drew.heap.size from S1.out)
        have NTd := Lib.hid (NT1.out.up (Below.drew (Below.refl _ _)))
        obtain ⟨p0, p1, p2⟩ := L1.out.cells
        go_region_held3 (fun w' => w'.cell? ⟨w1.heap.size, 0, none⟩ = some (.bool (ngt q)) ∧ w'.cell? ⟨w1.heap.size, 1, none⟩ = some (.slice A1 (nd (top q)) c1) ∧ w'.cell? ⟨w1.heap.size, 2, none⟩ = some (.slice A2 (nd dT) c2))
          (first | (with_reducible exact L4.out.cells) | (with_reducible exact L3.out.cells) | (with_reducible exact L2.out.cells) | (with_reducible exact Ld.out.cells) | go_keep)
          (first
            | (go_at_call 87; go_loud ((with_reducible refine (CP _ _ _ _ _ NT3.out O3.out).mono ?_); rintro e w4 ⟨rfl, qq, rfl⟩; have B4 := Lib.hid (below_drewN B3.out qq); have L4 := Lib.hid (L3.out.below (below_drewN (Below.refl _ _) qq) S3.out); obtain ⟨t0, t1, t2⟩ := L4.out.cells))
            | (go_at_call 88; go_loud ((refine (NO _).mono ?_); rintro e w3 ⟨A9, c9, rfl, hN, hb⟩; have B3 := Lib.hid (btrans B2.out hb); have L3 := Lib.hid (L2.out.below hb S2.out); have S3 := Lib.hid (Nat.lt_of_lt_of_le S2.out hb.size); have NT3 := Lib.hid (NT2.out.up hb); have O3 := Lib.hid hN; obtain ⟨t0, t1, t2⟩ := L3.out.cells; clear hN hb))
            | (go_at_call 53; go_loud ((with_reducible refine (WH _ _ Fd.out).mono ?_); rintro e w2 ⟨rfl, hb⟩; have B2 := Lib.hid (btrans Bd.out hb); have L2 := Lib.hid (Ld.out.below hb Sd.out); have S2 := Lib.hid (Nat.lt_of_lt_of_le Sd.out hb.size); have NT2 := Lib.hid (NTd.out.up hb); obtain ⟨t0, t1, t2⟩ := L2.out.cells; clear hb)))
        go_wp2
        go_ret2
        exact ⟨by rw [HX.out]; rfl, B4.out⟩
    · rw [decide_eq_false hd] at WH
      have HX := Lib.hid (show X = (0, false) by rw [← hX]; unfold qint; rw [h1]; exact if_neg (fun h => hd h.1))
      clear hs h1 hX z1 s1 hd NO CP
      go_enter Tryz.func26, Tryz.ntmps26
      go_wp2_with (go_at_call 49; go_loud ((with_reducible refine (G1 _).mono ?_); rintro e w1 ⟨y, A1, l1, c1, A2, l2, c2, rfl, hb, hF⟩; have bx := box_rs w1 (.bool y) (.slice A1 l1 c1) (.slice A2 l2 c2) 51; have B1 := Lib.hid (btrans hb bx.2.1); have F1 := Lib.hid (hF.up bx.2.1); have L1 := Lib.hid bx.1; have S1 := Lib.hid bx.2.2; obtain ⟨AT1, cT1, AT2, cT2, dT, hT, n1, n2, hdT⟩ := hF; injection hT with hT; simp only [Array.mk.injEq, List.cons.injEq, Value.bool.injEq, Value.slice.injEq, and_true] at hT; obtain ⟨rfl, ⟨rfl, rfl, rfl⟩, rfl, rfl, rfl⟩ := hT; have NT1 := Lib.hid (n1.up bx.2.1); clear hb n1 n2 hdT bx))
      have Bd := Lib.hid (B1.out.trans (show Below w.heap.size _ (w1.alloc (.cells #[.bool (ngt q), .slice A1 (nd (top q)) c1, .slice A2 (nd dT) c2] 51)).drew from Below.drew (Below.refl _ _)))
      have Fd := Lib.hid (F1.out.up (Below.drew (Below.refl _ _)))
      have Ld := Lib.hid (L1.out.below (Below.drew (Below.refl _ _)) S1.out)
      have Sd := Lib.hid (show w1.heap.size < (w1.alloc (.cells #[.bool (ngt q), .slice A1 (nd (top q)) c1, .slice A2 (nd dT) c2] 51)).drew.heap.size from S1.out)
      have NTd := Lib.hid (NT1.out.up (Below.drew (Below.refl _ _)))
      obtain ⟨p0, p1, p2⟩ := L1.out.cells
      first
        | (go_region_with (go_at_call 53; ((with_reducible refine (WH _ _ (F1.out.up (by first | exact Below.refl _ _ | exact Below.drew (Below.refl _ _) | exact below_drewN (Below.refl _ _) _))).mono ?_); rintro e w2 ⟨rfl, hb⟩; have B2 := Lib.hid (btrans B1.out (btrans (by first | exact Below.refl _ _ | exact Below.drew (Below.refl _ _) | exact below_drewN (Below.refl _ _) _) hb)); clear hb)))
        | fail
      all_goals go_wp2
      all_goals go_ret2
      all_goals exact ⟨by rw [HX.out]; rfl, by first | exact B2.out | exact Below.drew B2.out⟩

end Go.Proofs.YtinoipjblkidfaaGreatDoor
