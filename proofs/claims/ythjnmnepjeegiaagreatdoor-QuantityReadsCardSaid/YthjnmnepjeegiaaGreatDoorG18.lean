/- Plain laws: strconv's readers of whole numbers at canonical texts. No program. Plain laws of rounding, of whole numbers, and of the values of a type. No program. Whole numbers and rounding of the reference: IntQ, Frac, Whole, Bottom, Floor, Rounded, Round. -/
import Derived.Test.YthjnmnepjeegiaaGreatDoorG3
import Derived.Test.YthjnmnepjeegiaaGreatDoorG4
import Derived.Test.YthjnmnepjeegiaaGreatDoorG17
import Derived.Lib.ParseIntB
/- Plain laws: strconv's readers of whole numbers at canonical texts. No program. -/
namespace Go.Proofs.YthjnmnepjeegiaaGreatDoor.Num
open Go.Proofs.YthjnmnepjeegiaaGreatDoor.Str Go.Proofs.YthjnmnepjeegiaaGreatDoor.Dg Go.Proofs.YthjnmnepjeegiaaGreatDoor.Q Go.Lib

theorem fold_ge : ∀ (l : List UInt8) (a : Nat), a ≤ l.foldl (fun a c => 10 * a + (c.toNat - 48)) a
  | [], _ => Nat.le_refl _
  | c :: r, a => by rw [List.foldl_cons]; exact Nat.le_trans (by omega) (fold_ge r _)
theorem parseM_ok : ∀ {l : List UInt8} {M acc u : Nat}, parseUintM M acc l = .ok u → allD l = true ∧ u = l.foldl (fun a c => 10 * a + (c.toNat - 48)) acc ∧ (l ≠ [] → u ≤ M)
  | [], M, acc, u, h => by
    unfold parseUintM at h
    injection h with h
    exact ⟨rfl, h.symm, fun h => absurd rfl h⟩
  | c :: r, M, acc, u, h => by
    unfold parseUintM at h
    split at h
    · rename_i hd
      split at h
      · cases h
      · split at h
        · cases h
        · rename_i hM
          obtain ⟨h1, h2, h3⟩ := parseM_ok h
          have e : acc * 10 + (c.toNat - 48) = 10 * acc + (c.toNat - 48) := by omega
          refine ⟨?_, ?_, fun _ => ?_⟩
          · unfold allD at h1 ⊢; rw [List.all_cons, h1, Bool.and_true]; exact decide_eq_true hd
          · rw [List.foldl_cons, ← e]; exact h2
          · by_cases hr : r = []
            · subst hr; rw [h2, List.foldl_nil]; omega
            · exact h3 hr
    · cases h
theorem parseM_of : ∀ {l : List UInt8} {M acc : Nat}, allD l = true → M ≤ 18446744073709551615 → l.foldl (fun a c => 10 * a + (c.toNat - 48)) acc ≤ M → parseUintM M acc l = .ok (l.foldl (fun a c => 10 * a + (c.toNat - 48)) acc)
  | [], M, acc, _, _, _ => rfl
  | c :: r, M, acc, h, hM, hv => by
    have h1 : isD c = true ∧ allD r = true := by simpa [allD] using h
    rw [List.foldl_cons] at hv ⊢
    have e : acc * 10 + (c.toNat - 48) = 10 * acc + (c.toNat - 48) := by omega
    have hg := fold_ge r (10 * acc + (c.toNat - 48))
    unfold parseUintM
    rw [if_pos (of_decide_eq_true h1.1), if_neg (by omega), if_neg (by omega), e]
    exact parseM_of h1.2 hM hv
theorem uintB_ok {B : Nat} (hB : B ≤ 64) {l : List UInt8} {u : Nat} : parseUintB B l = .ok u ↔ l ≠ [] ∧ allD l = true ∧ u = val l ∧ val l ≤ 2 ^ B - 1 := by
  have h64 : 2 ^ B - 1 ≤ 18446744073709551615 := by
    have := Nat.pow_le_pow_right (n := 2) (by decide) hB
    have e : (2 : Nat) ^ 64 = 18446744073709551616 := by decide
    omega
  unfold parseUintB
  by_cases h : l = []
  · rw [if_pos h]; exact ⟨fun g => (by cases g), fun g => absurd h g.1⟩
  · rw [if_neg h]
    constructor
    · intro g
      obtain ⟨h1, h2, h3⟩ := parseM_ok g
      have h4 : u = val l := h2
      exact ⟨h, h1, h4, by rw [← h4]; exact h3 h⟩
    · rintro ⟨_, h1, rfl, h3⟩
      exact parseM_of h1 h64 h3
theorem parse10_is : ∀ (l : List UInt8) (acc : Nat), parseUint10 acc l = parseUintM (2 ^ 64 - 1) acc l
  | [], _ => rfl
  | c :: r, acc => by
    unfold parseUint10 parseUintM
    have e : (18446744073709551616 ≤ acc * 10 + (c.toNat - 48)) = (2 ^ 64 - 1 < acc * 10 + (c.toNat - 48)) := by apply propext; omega
    simp only [e, parse10_is r]
theorem atoi_is (l : List UInt8) : atoiAll l = parseIntB 64 l := by
  cases l with
  | nil => rfl
  | cons c r =>
    have e : ∀ l, parseMag l = parseUintB 64 l := fun l => by unfold parseMag parseUintB; rw [parse10_is]
    have p : (2 : Nat) ^ (64 - 1) = 9223372036854775808 := by decide
    unfold atoiAll parseIntB
    simp only [e, p]
    rfl
theorem intB_minus (B : Nat) (r : List UInt8) (v : Int) : parseIntB B (45 :: r) = .ok v ↔ ∃ u, parseUintB B r = .ok u ∧ u ≤ 2 ^ (B - 1) ∧ v = -(u : Int) := by
  have e1 : (45 : UInt8).toNat = 45 := rfl
  unfold parseIntB
  simp only [e1]
  cases h : parseUintB B r
  case ok u =>
    simp [h]
    constructor
    · intro g
      split at g
      · cases g
      · rename_i hu
        injection g with g
        exact ⟨by omega, g.symm⟩
    · rintro ⟨h1, rfl⟩
      rw [if_neg (by omega)]
  all_goals simp [h]
theorem intB_plain (B : Nat) (c : UInt8) (r : List UInt8) (h43 : c.toNat ≠ 43) (h45 : c.toNat ≠ 45) (v : Int) : parseIntB B (c :: r) = .ok v ↔ ∃ u, parseUintB B (c :: r) = .ok u ∧ u < 2 ^ (B - 1) ∧ v = (u : Int) := by
  unfold parseIntB
  simp only [h43, h45]
  cases h : parseUintB B (c :: r)
  case ok u =>
    simp [h]
    constructor
    · intro g
      split at g
      · cases g
      · rename_i hu
        injection g with g
        exact ⟨by omega, g.symm⟩
    · rintro ⟨h1, rfl⟩
      rw [if_neg (by omega)]
  all_goals simp [h]
/-- When strconv.ParseInt reads a canonical text: whole numbers of the size. -/
theorem intB_iff {B : Nat} (h0 : 1 ≤ B) (hB : B ≤ 64) (q : Rat) (v : Int) : parseIntB B (txt q) = .ok v ↔ q.den = 1 ∧ v = q.num ∧ -((2 ^ (B - 1) : Nat) : Int) ≤ v ∧ v < ((2 ^ (B - 1) : Nat) : Int) := by
  have hnum := num_sg q
  have hp : 2 ^ B = 2 * 2 ^ (B - 1) := by obtain ⟨b, rfl⟩ : ∃ b, B = b + 1 := ⟨B - 1, by omega⟩; rw [Nat.pow_succ, Nat.add_sub_cancel, Nat.mul_comm]
  have hb := txt_body q
  have hneg := txt_neg q
  have hu : ∀ u, parseUintB B (body (txt q)) = .ok u ↔ q.den = 1 ∧ u = top q ∧ top q ≤ 2 ^ B - 1 := by
    intro u
    rw [uintB_ok hB, hb]
    by_cases h1 : q.den = 1
    · rw [if_pos h1, List.append_nil, val_dec]
      exact ⟨fun g => ⟨h1, g.2.2⟩, fun g => ⟨dec_ne _, allD_dec _, g.2⟩⟩
    · rw [if_neg h1]
      refine ⟨fun g => ?_, fun g => absurd g.1 h1⟩
      have := allD_mem g.2.1 (c := 47) (by simp)
      cases this
  have hpos : 1 ≤ 2 ^ (B - 1) := Nat.one_le_two_pow
  rw [hp] at hu
  cases hn : ngt q
  · have e : txt q = body (txt q) := by
      have : body (txt q) = txt q := by unfold body; rw [hneg, hn]; rfl
      exact this.symm
    obtain ⟨c, r, ec, hc⟩ : ∃ c r, body (txt q) = c :: r ∧ isD c = true := by
      rw [hb]
      cases hd : decDigits (top q) with
      | nil => exact absurd hd (dec_ne _)
      | cons x l => exact ⟨x, _, rfl, dec_head_digit (top q) (by rw [hd]; rfl)⟩
    have hc' := of_decide_eq_true hc
    rw [hn] at hnum
    have hnum' : q.num = (top q : Int) := hnum
    rw [e, ec, intB_plain B c r (by omega) (by omega), ← ec]
    constructor
    · rintro ⟨u, g1, g2, rfl⟩
      obtain ⟨k1, k2, _⟩ := (hu u).1 g1
      exact ⟨k1, by rw [hnum', k2], by omega, by omega⟩
    · rintro ⟨g1, rfl, g3, g4⟩
      rw [hnum'] at g3 g4
      exact ⟨top q, (hu _).2 ⟨g1, rfl, by omega⟩, by omega, hnum'⟩
  · have e : txt q = 45 :: body (txt q) := by
      have := body_is (txt q)
      rw [hneg, hn] at this
      exact this
    rw [hn] at hnum
    have hnum' : q.num = -(top q : Int) := hnum
    have ht := ngt_top hn
    rw [e, intB_minus]
    constructor
    · rintro ⟨u, g1, g2, rfl⟩
      obtain ⟨k1, k2, _⟩ := (hu u).1 g1
      exact ⟨k1, by rw [hnum', k2], by omega, by omega⟩
    · rintro ⟨g1, rfl, g3, g4⟩
      rw [hnum'] at g3 g4
      exact ⟨top q, (hu _).2 ⟨g1, rfl, by omega⟩, by omega, hnum'⟩
end Go.Proofs.YthjnmnepjeegiaaGreatDoor.Num

/- Plain laws of rounding, of whole numbers, and of the values of a type. No program. -/
namespace Go.Proofs.YthjnmnepjeegiaaGreatDoor
open Go.Proofs.YthjnmnepjeegiaaGreatDoor.Dg Go.Proofs.YthjnmnepjeegiaaGreatDoor.Q Go.Proofs.YthjnmnepjeegiaaGreatDoor.Num

/-- The multiple of a step that is nearest. -/
def rnd (a b : Rat) : Rat := flr (a / b + 1 / 2) * b
theorem rnd_near {a b : Rat} (hb : 0 < b) : (rnd a b / b).den = 1 ∧ a - rnd a b ≤ b * (1 / 2) ∧ -(a - rnd a b) ≤ b * (1 / 2) := by
  have hne : b ≠ 0 := by intro e; rw [e] at hb; exact absurd hb (by decide)
  unfold rnd
  obtain ⟨t, ht⟩ : ∃ t, a / b + 1 / 2 = t := ⟨_, rfl⟩
  rw [ht]
  have h1 : flr t ≤ t := Rat.floor_le t
  have h2 : t < flr t + 1 := by
    have := Rat.lt_floor_add_one t
    rw [Rat.intCast_add] at this
    exact this
  have ha : a = (t - 1 / 2) * b := by rw [← ht]; grind
  have e : flr t * b / b = flr t := by grind
  have hd := flr_den t
  have k0 : (0 : Rat) ≤ b := Rat.le_of_lt hb
  have k1 : (t - flr t) * b ≤ 1 * b := Rat.mul_le_mul_of_nonneg_right (by grind) k0
  have k2 : 0 * b ≤ (t - flr t) * b := Rat.mul_le_mul_of_nonneg_right (by grind) k0
  refine ⟨by rw [e]; exact hd, ?_, ?_⟩
  · rw [ha]; grind
  · rw [ha]; grind

/-- What Int gives. -/
def qint (l : List UInt8) : Int × Bool := match num? l with
  | some q => if q.den = 1 ∧ top q ≤ 9007199254740992 then (q.num, true) else (0, false)
  | none => (0, false)
/-- The bits of a type. -/
def bitsOf (k : Int) : Nat := if k = 1 then 8 else if k = 2 then 16 else if k = 3 then 32 else if k = 4 then 64 else 0
/-- Which values fit a type. -/
def qfits (k : Int) (l : List UInt8) : Bool :=
  if (bitsOf k = 0 ∧ k ≠ 5) ∨ (l ≠ [] ∧ num? l = none) then false
  else if l = [] ∨ bitsOf k = 0 then true
  else match num? l with
    | some q => decide (q.den = 1 ∧ -((2 ^ (bitsOf k - 1) : Nat) : Int) ≤ q.num ∧ q.num < ((2 ^ (bitsOf k - 1) : Nat) : Int))
    | none => false
/-- strconv.Atoi reads a number that is whole and not too long, and no other. -/
theorem atoi_small {q : Rat} (h : q.den = 1 ∧ top q ≤ 9007199254740992) : Lib.atoiAll (txt q) = .ok q.num := by
  rw [atoi_is]
  refine (intB_iff (by decide) (by decide) q q.num).2 ⟨h.1, rfl, ?_, ?_⟩
  · have p : (2 : Nat) ^ (64 - 1) = 9223372036854775808 := by decide
    rw [p]
    have : q.num.natAbs ≤ 9007199254740992 := h.2
    omega
  · have p : (2 : Nat) ^ (64 - 1) = 9223372036854775808 := by decide
    rw [p]
    have : q.num.natAbs ≤ 9007199254740992 := h.2
    omega
theorem atoi_reads {q : Rat} {v : Int} (h : Lib.atoiAll (txt q) = .ok v) : q.den = 1 ∧ v = q.num := by
  rw [atoi_is] at h
  obtain ⟨h1, h2, _⟩ := (intB_iff (by decide) (by decide) q v).1 h
  exact ⟨h1, h2⟩
end Go.Proofs.YthjnmnepjeegiaaGreatDoor

/- Whole numbers and rounding of the reference: IntQ, Frac, Whole, Bottom, Floor, Rounded, Round. -/
namespace Go.Proofs.YthjnmnepjeegiaaGreatDoor
open Go.RowKit Go.Proofs.YthjnmnepjeegiaaGreatDoor.Dg Go.Proofs.YthjnmnepjeegiaaGreatDoor.Q Go.Proofs.YthjnmnepjeegiaaGreatDoor.Num Go.Proofs.YthjnmnepjeegiaaGreatDoor.Str

theorem K1.giveQ {w w' : World} {q : Rat} {b : Bool} {A A' : Option Addr} {l c l' c' : Nat} (h : K1 w w' (.bool false) (.slice none 0 0) (.slice none 0 0) 54) (hq : Qr w' (.agg #[.bool b, .slice A l c, .slice A' l' c']) q) :
    GiveQ w q (.returned (.agg #[.bool b, .slice A l c, .slice A' l' c'])) (put3 w' w.heap.size (.bool b) (.slice A l c) (.slice A' l' c')) :=
  ⟨_, rfl, hq.put3 h.1 rfl rfl rfl, put3_below h.2.1 (Nat.le_refl _)⟩
theorem K2.three {w w' : World} {a0 a1 a2 c0 c1 c2 : Value} {t : TypeId} (h : K2 w w' a0 a1 a2 c0 c1 c2 t) : w'.cell? ⟨w.heap.size, 0, none⟩ = some a0 ∧ w'.cell? ⟨w.heap.size, 1, none⟩ = some a1 ∧ w'.cell? ⟨w.heap.size, 2, none⟩ = some a2 := h.1.cells
theorem K2.b {w w' : World} {a0 a1 a2 c0 c1 c2 : Value} {t : TypeId} (h : K2 w w' a0 a1 a2 c0 c1 c2 t) : Below w.heap.size w w' := h.2.2.2
theorem K2.stored {w w' : World} {a0 a1 a2 c0 c1 c2 : Value} {t : TypeId} (h : K2 w w' a0 a1 a2 c0 c1 c2 t) (x y z : Value) : K2 w (put3 w' (w.heap.size + 1) x y z) a0 a1 a2 x y z t := by
  obtain ⟨h1, h2, h4, h5⟩ := h
  exact ⟨h1.put3_other (by omega), h2.put3_same, by rw [put3_size]; exact h4, put3_below h5 (by omega)⟩
theorem K2.giveQ {w w' : World} {a0 a1 a2 x y z : Value} {t : TypeId} {q : Rat} (h : K2 w w' a0 a1 a2 (.bool false) (.slice none 0 0) (.slice none 0 0) t) (hq : Qr w' (.agg #[x, y, z]) q) :
    GiveQ w q (.returned (.agg #[x, y, z])) (put3 w' (w.heap.size + 1) x y z) :=
  ⟨_, rfl, hq.put3 h.2.1 rfl rfl rfl, (h.stored _ _ _).2.2.2⟩
theorem mk_one (z : Int) : mkRat z 1 = (z : Rat) := by
  have := Rat.mkRat_self (z : Rat)
  exact this
theorem flr_make (q : Rat) : mkRat (sg (ngt q) (top (flr q))) 1 = flr q := by
  have h := mk_top_den (flr q)
  rw [flr_den, flr_ngt] at h
  by_cases h0 : top (flr q) = 0
  · rw [h0, make_zero]
    exact (top_zero.1 h0).symm
  · rw [decide_eq_true h0, Bool.and_true] at h
    exact h
theorem sz_int (z : Int) (h : z.natAbs ≤ 18446744073709551615) : sz (z : Rat) ≤ 3 := by
  unfold sz
  rw [int_top, int_den, nd_one]
  have := nd_64 h
  omega

set_option maxRecDepth 100000 in
set_option maxHeartbeats 3200000 in
theorem rintq_any (n : Int) (h1 : -9223372036854775808 ≤ n) (h2 : n ≤ 9223372036854775807) (w : World) : Calls Tryz.prog 37 #[.int .i64 n] w (GiveQ w (n : Rat)) := by
  have k0 := Lib.hid (show K1 w (w.alloc (.cells #[.bool false, .slice none 0 0, .slice none 0 0] 54)) _ _ _ _ from box_rs w _ _ _ _)
  have ON := fun w' => rone_any w'
  have hm := mk_one n
  obtain ⟨q, hq⟩ : ∃ q, (n : Rat) = q := ⟨_, rfl⟩
  rw [hq] at hm ⊢
  by_cases hn : n < 0
  · obtain ⟨z, hz⟩ : ∃ z : Nat, -(n + 1) = (z : Int) := ⟨(-(n + 1)).toNat, by omega⟩
    have hz1 : z ≤ 9223372036854775807 := by omega
    have e2 : sg true (z + 1) = n := by unfold sg; rw [if_pos rfl]; push_cast; omega
    have e3 : IntKind.i64.wrap (n + 1) = n + 1 := IntWalk.i64_in _ (by constructor <;> omega)
    have e4 : IntKind.i64.wrap (z : Int) = (z : Int) := IntWalk.i64_in _ (by constructor <;> omega)
    have e5 : IntKind.u64.wrap (z : Int) = (z : Int) := IntWalk.u64_in _ (by constructor <;> omega)
    have e6 : (z : Int) + 1 = ((z + 1 : Nat) : Int) := by push_cast; rfl
    have e7 : IntKind.u64.wrap ((z : Int) + 1) = (z : Int) + 1 := IntWalk.u64_in _ (by constructor <;> omega)
    have NO : ∀ w', Calls Tryz.prog 73 #[.int .u64 ((z : Int) + 1)] w' (GiveN .u64 w' (z + 1)) := fun w' => by have h := natOf_any (z + 1) (by omega) w'; rw [← e6] at h; exact h
    have nb := nd_64 (a := z + 1) (by omega)
    have MK := fun w' A A' c c' h h' => rmake_any true A A' c c' (z + 1) 1 w' h h' (by omega) (by rw [nd_one]; decide)
    rw [e2, hm] at MK
    clear hq hm e2 e6 nb
    generalize z + 1 = z1 at *
    go_enter Tryz.func37, Tryz.ntmps37
    go_wp2_with (first
      | (go_at_call 72; go_loud ((with_reducible refine (MK _ _ _ _ _ N1'.out N2.out).mono ?_); rintro e w3 ⟨v, rfl, ⟨AQa, cQa, AQb, cQb, dQ, rfl, n1, n2, hd⟩, hb⟩; have k3 := Lib.hid (k2.out.up hb); have NQ := Lib.hid (show Qr w3 _ q from ⟨AQa, cQa, AQb, cQb, dQ, rfl, n1, n2, hd⟩); obtain ⟨t0, t1, t2⟩ := k3.out.three; obtain ⟨g0, g1, g2⟩ := k3.out.1.frozen; clear n1 n2 hd hb))
      | (go_at_call 74; go_loud ((with_reducible refine (ON _).mono ?_); rintro e w2 ⟨A2, c2, rfl, hN, hb⟩; have k2 := Lib.hid (k1.out.up hb); have N1' := Lib.hid (N1.out.up hb); have N2 := Lib.hid hN; clear hN hb))
      | (go_at_call 73; go_loud ((with_reducible refine (NO _).mono ?_); rintro e w1 ⟨A1, c1, rfl, hN, hb⟩; have k1 := Lib.hid (k0.out.up hb); have N1 := Lib.hid hN; clear hN hb)))
    refine bodyPost_ret (v := .agg #[.bool (ngt q), .slice AQa (nd (top q)) cQa, .slice AQb (nd dQ) cQb]) (by simp [results, Tryz.results37, go_sem, t0, t1, t2]) rfl ?_
    exact k3.out.giveQ NQ.out
  · obtain ⟨z, rfl⟩ : ∃ z : Nat, n = (z : Int) := ⟨n.toNat, by omega⟩
    have e2 : sg false z = (z : Int) := rfl
    have NO := fun w' => natOf_any z (by omega) w'
    have nb := nd_64 (a := z) (by omega)
    have MK := fun w' A A' c c' h h' => rmake_any false A A' c c' z 1 w' h h' (by omega) (by rw [nd_one]; decide)
    rw [e2, hm] at MK
    clear hq hm e2 nb
    go_enter Tryz.func37, Tryz.ntmps37
    go_wp2_with (first
      | (go_at_call 72; go_loud ((with_reducible refine (MK _ _ _ _ _ N1'.out N2.out).mono ?_); rintro e w3 ⟨v, rfl, ⟨AQa, cQa, AQb, cQb, dQ, rfl, n1, n2, hd⟩, hb⟩; have k3 := Lib.hid (k2.out.up hb); have NQ := Lib.hid (show Qr w3 _ q from ⟨AQa, cQa, AQb, cQb, dQ, rfl, n1, n2, hd⟩); obtain ⟨t0, t1, t2⟩ := k3.out.three; obtain ⟨g0, g1, g2⟩ := k3.out.1.frozen; clear n1 n2 hd hb))
      | (go_at_call 74; go_loud ((with_reducible refine (ON _).mono ?_); rintro e w2 ⟨A2, c2, rfl, hN, hb⟩; have k2 := Lib.hid (k1.out.up hb); have N1' := Lib.hid (N1.out.up hb); have N2 := Lib.hid hN; clear hN hb))
      | (go_at_call 73; go_loud ((with_reducible refine (NO _).mono ?_); rintro e w1 ⟨A1, c1, rfl, hN, hb⟩; have k1 := Lib.hid (k0.out.up hb); have N1 := Lib.hid hN; clear hN hb)))
    refine bodyPost_ret (v := .agg #[.bool (ngt q), .slice AQa (nd (top q)) cQa, .slice AQb (nd dQ) cQb]) (by simp [results, Tryz.results37, go_sem, t0, t1, t2]) rfl ?_
    exact k3.out.giveQ NQ.out

set_option maxRecDepth 100000 in
set_option maxHeartbeats 3200000 in
theorem rfrac_any (m n : Int) (h1 : -9223372036854775808 ≤ m) (h2 : m ≤ 9223372036854775807) (h3 : -9223372036854775808 ≤ n) (h4 : n ≤ 9223372036854775807) (w : World) : Calls Tryz.prog 40 #[.int .i64 m, .int .i64 n] w (GiveQ w ((m : Rat) / (n : Rat))) := by
  have k0 := Lib.hid (show K1 w (w.alloc (.cells #[.bool false, .slice none 0 0, .slice none 0 0] 54)) _ _ _ _ from box_rs w _ _ _ _)
  have I1 := fun w' => rintq_any m h1 h2 w'
  have I2 := fun w' => rintq_any n h3 h4 w'
  have s1 := sz_int m (by omega)
  have s2 := sz_int n (by omega)
  have QU := fun w' v1 v2 f1 f2 => rquot_any v1 v2 (m : Rat) (n : Rat) w' f1 f2 (by omega)
  clear h1 h2 h3 h4 s1 s2
  have tok := True.intro
  generalize (m : Rat) / (n : Rat) = q at *
  generalize (m : Rat) = a at *
  generalize (n : Rat) = b at *
  go_enter Tryz.func40, Tryz.ntmps40
  go_wp2_with (first
    | (go_at_call 76; go_loud ((with_reducible refine (QU _ _ _ F1'.out F2.out).mono ?_); rintro e w3 ⟨v, rfl, ⟨AQa, cQa, AQb, cQb, dQ, rfl, n1, n2, hd⟩, hb⟩; have k3 := Lib.hid (k2.out.up hb); have NQ := Lib.hid (show Qr w3 _ q from ⟨AQa, cQa, AQb, cQb, dQ, rfl, n1, n2, hd⟩); obtain ⟨t0, t1, t2⟩ := k3.out.three; obtain ⟨g0, g1, g2⟩ := k3.out.1.frozen; clear n1 n2 hd hb))
    | (go_at_call 37; (have _t := F1; (with_reducible refine (I2 _).mono ?_); rintro e w2 ⟨v2, rfl, hF, hb⟩; have k2 := Lib.hid (k1.out.up hb); have F1' := Lib.hid (F1.out.up hb); have F2 := Lib.hid hF; clear hF hb))
    | (go_at_call 37; go_loud ((have _t := tok; with_reducible refine (I1 _).mono ?_); rintro e w1 ⟨v1, rfl, hF, hb⟩; have k1 := Lib.hid (k0.out.up hb); have F1 := Lib.hid hF; clear tok _t hF hb)))
  refine bodyPost_ret (v := .agg #[.bool (ngt q), .slice AQa (nd (top q)) cQa, .slice AQb (nd dQ) cQb]) (by simp [results, Tryz.results40, go_sem, t0, t1, t2]) rfl ?_
  exact k3.out.giveQ NQ.out
theorem rhalf_any (w : World) : Calls Tryz.prog 40 #[.int .i64 1, .int .i64 2] w (GiveQ w (1 / 2)) := rfrac_any 1 2 (by decide) (by decide) (by decide) (by decide) w

end Go.Proofs.YthjnmnepjeegiaaGreatDoor
