/- The row: What Floor and Round return, and that a rounded number is a multiple of the step, not farther away than half of it; for all strings. -/
import Derived.Test.YtinoipjblkidfaaGreatDoorC17
import Derived.Test.YtinoipjblkidfaaGreatDoorRows
import Derived.ProofKit
import Derived.SevenTiedAt
import Derived.LaidByTextLater
import Derived.Deep.DeepHandedRow
import Derived.Lib.LaidIn
import Derived.Lib.LaidTab
import Derived.Lib.LaidU8
import Derived.Lib.SmallJoins
/- The law of Floor and Round. -/
namespace Go.Proofs.YtinoipjblkidfaaGreatDoor
open Go.RowKit Go.Proofs.YtinoipjblkidfaaGreatDoor.Dg Go.Proofs.YtinoipjblkidfaaGreatDoor.Q Go.Proofs.YtinoipjblkidfaaGreatDoor.Num

def qfB (S : ByteArray) : ByteArray := ⟨(qfl (bl S)).toArray⟩
/-- Three boxes somewhere. -/
def T3 (w w' : World) (h1 h2 h3 : Nat) (a0 a1 a2 b0 b1 b2 c0 c1 c2 : Value) (t : TypeId) : Prop := Rs w' h1 a0 a1 a2 t ∧ Rs w' h2 b0 b1 b2 t ∧ Rs w' h3 c0 c1 c2 t ∧ h1 < w'.heap.size ∧ h2 < w'.heap.size ∧ h3 < w'.heap.size ∧ Below w.heap.size w w'
theorem T3.up {w w1 w2 : World} {h1 h2 h3 : Nat} {a0 a1 a2 b0 b1 b2 c0 c1 c2 : Value} {t : TypeId} (h : T3 w w1 h1 h2 h3 a0 a1 a2 b0 b1 b2 c0 c1 c2 t) (hb : Below w1.heap.size w1 w2) : T3 w w2 h1 h2 h3 a0 a1 a2 b0 b1 b2 c0 c1 c2 t := by
  obtain ⟨r1, r2, r3, s1, s2, s3, b⟩ := h
  exact ⟨r1.below hb s1, r2.below hb s2, r3.below hb s3, Nat.lt_of_lt_of_le s1 hb.size, Nat.lt_of_lt_of_le s2 hb.size, Nat.lt_of_lt_of_le s3 hb.size, btrans b hb⟩
theorem T3.nine {w w' : World} {h1 h2 h3 : Nat} {a0 a1 a2 b0 b1 b2 c0 c1 c2 : Value} {t : TypeId} (h : T3 w w' h1 h2 h3 a0 a1 a2 b0 b1 b2 c0 c1 c2 t) :
    w'.cell? ⟨h1, 0, none⟩ = some a0 ∧ w'.cell? ⟨h1, 1, none⟩ = some a1 ∧ w'.cell? ⟨h1, 2, none⟩ = some a2 ∧ w'.cell? ⟨h2, 0, none⟩ = some b0 ∧ w'.cell? ⟨h2, 1, none⟩ = some b1 ∧ w'.cell? ⟨h2, 2, none⟩ = some b2 ∧ w'.cell? ⟨h3, 0, none⟩ = some c0 ∧ w'.cell? ⟨h3, 1, none⟩ = some c1 ∧ w'.cell? ⟨h3, 2, none⟩ = some c2 := by
  obtain ⟨p0, p1, p2⟩ := h.1.cells
  obtain ⟨q0, q1, q2⟩ := h.2.1.cells
  obtain ⟨r0, r1, r2⟩ := h.2.2.1.cells
  exact ⟨p0, p1, p2, q0, q1, q2, r0, r1, r2⟩
theorem T3.b {w w' : World} {h1 h2 h3 : Nat} {a0 a1 a2 b0 b1 b2 c0 c1 c2 : Value} {t : TypeId} (h : T3 w w' h1 h2 h3 a0 a1 a2 b0 b1 b2 c0 c1 c2 t) : Below w.heap.size w w' := h.2.2.2.2.2.2
/-- What Round gives that is a number. -/
theorem round_num {l m : List UInt8} {a b c : Rat} (h1 : num? l = some a) (h2 : num? m = some b) (h : num? (bin dRound l m) = some c) : 0 < b ∧ c = rnd a b := by
  rcases bin_cases dRound l m with h0 | ⟨a', b', q, e1, e2, e3, e4, e5⟩
  · rw [h0, num_nil] at h; cases h
  · rw [h1] at e1; rw [h2] at e2
    cases e1; cases e2
    rw [e5] at h
    injection h with h
    subst h
    unfold dRound at e3
    split at e3
    · rename_i hb
      injection e3 with e3
      exact ⟨hb, e3.symm⟩
    · cases e3
theorem sign_le {q : Rat} (h : q ≤ 0) : sign q ≤ 0 := by
  rcases Int.lt_or_le 0 (sign q) with h1 | h1
  · have := sign_pos.1 h1
    exact absurd this (Rat.not_lt.2 h)
  · exact h1

set_option maxRecDepth 100000 in
set_option maxHeartbeats 12800000 in
theorem rounds_out (x y : ByteArray) (hx : x.size ≤ 9223372036854775807) (hy : y.size ≤ 9223372036854775807) (w : World) (hw : Wf w) (hno : num? (bl x) = none ∨ num? (bl y) = none ∨ num? (bl (qb dRound x y)) = none) :
    Calls Tryz.prog 12 #[.string x, .string y] w fun e w' => e = .returned (.bool true) ∧ Below w.heap.size w w' := by
  have RQ := fun w' (hb : Below w.heap.size w w') => (qRound_any x y hx hy w' (hw.up hb)).mono fun e w2 h => (show e = .returned (.string (qb dRound x y)) ∧ Below w'.heap.size w' w2 from h)
  have RR := fun w' => (rRound_any x y hx hy w').mono fun e w2 h => (show e = .returned (.string (qb dRound x y)) ∧ Below w'.heap.size w' w2 from h)
  have FQ := fun w' (hb : Below w.heap.size w w') => (qFloor_any x hx w' (hw.up hb)).mono fun e w2 h => (show e = .returned (.string (qfB x)) ∧ Below w'.heap.size w' w2 from h)
  have FR := fun w' => (rFloor_any x hx w').mono fun e w2 h => (show e = .returned (.string (qfB x)) ∧ Below w'.heap.size w' w2 from h)
  have hz : (qb dRound x y).size ≤ 9223372036854775807 := qb_size _ _ _
  have AW := fun w' (hb : Below w.heap.size w w') => awake_any w' (hw.up hb)
  generalize qb dRound x y = z at *
  generalize qfB x = f at *
  have G1 := fun w' => rget_any x hx w'
  have G2 := fun w' => rget_any y hy w'
  have G3 := fun w' => rget_any z hz w'
  have e1 : (z.toList == z.toList) = true := beq_self_eq_true _
  have e2 : (f.toList == f.toList) = true := beq_self_eq_true _
  generalize num? (bl x) = o1 at *
  generalize num? (bl y) = o2 at *
  generalize num? (bl z) = o3 at *
  have hb3 : (o1.isSome && (o2.isSome && o3.isSome)) = false := by
    rcases hno with h | h | h
    · rw [h]; rfl
    · rw [h]; simp
    · rw [h]; simp
  have cut : ∀ (o : Option Rat) (T : ByteArray), (∀ w', Calls Tryz.prog 49 #[.string T] w' (ReadR o w')) → ∀ w', Calls Tryz.prog 49 #[.string T] w' fun e w2 => ∃ y A1 l1 c1 A2 l2 c2, e = .returned (.tuple #[.agg #[.bool y, .slice A1 l1 c1, .slice A2 l2 c2], .bool o.isSome]) ∧ Below w'.heap.size w' (w2.alloc (.cells #[.bool y, .slice A1 l1 c1, .slice A2 l2 c2] 51)) := by
    intro o T h w'
    refine (h w').mono ?_
    rintro e w2 ⟨y, A1, l1, c1, A2, l2, c2, q, h1, h2, _⟩
    exact ⟨y, A1, l1, c1, A2, l2, c2, h1, btrans h2 (box_rs w2 _ _ _ _).2.1⟩
  have G1 := cut _ _ G1
  have G2 := cut _ _ G2
  have G3 := cut _ _ G3
  generalize o1.isSome = b1 at *
  generalize o2.isSome = b2 at *
  generalize o3.isSome = b3 at *
  have b := Lib.hid (Below.refl w.heap.size w)
  clear hw hx hy hz hno cut
  cases b1 <;> cases b2 <;> cases b3
  all_goals first
    | (exact absurd hb3 (by decide))
    | skip
  all_goals
    clear hb3
    go_enter Tryz.func12, Tryz.ntmps12
    go_wp2_with (first
      | (go_at_call 45; ((with_reducible refine (RQ _ b.out).mono ?_); rintro e wn ⟨rfl, hb⟩; replace b := Lib.hid (btrans b.out hb); clear hb))
      | (go_at_call 48; ((with_reducible refine (RR _).mono ?_); rintro e wn ⟨rfl, hb⟩; replace b := Lib.hid (btrans b.out hb); clear hb))
      | (go_at_call 46; ((with_reducible refine (FQ _ b.out).mono ?_); rintro e wn ⟨rfl, hb⟩; replace b := Lib.hid (btrans b.out hb); clear hb))
      | (go_at_call 47; ((with_reducible refine (FR _).mono ?_); rintro e wn ⟨rfl, hb⟩; replace b := Lib.hid (btrans b.out hb); clear hb))
      | (go_at_call 49; ((with_reducible refine (G1 _).mono ?_); rintro e wn ⟨y1, A1, l1, c1, A2, l2, c2, rfl, hb⟩; replace b := Lib.hid (btrans b.out hb); clear hb))
      | (go_at_call 49; ((with_reducible refine (G2 _).mono ?_); rintro e wn ⟨y1, A1, l1, c1, A2, l2, c2, rfl, hb⟩; replace b := Lib.hid (btrans b.out hb); clear hb))
      | (go_at_call 49; ((with_reducible refine (G3 _).mono ?_); rintro e wn ⟨y1, A1, l1, c1, A2, l2, c2, rfl, hb⟩; replace b := Lib.hid (btrans b.out hb); clear hb))
      | (go_at_call 20; ((with_reducible refine (AW _ b.out).mono ?_); rintro e wn ⟨rfl, hb⟩; replace b := Lib.hid (btrans b.out hb); clear hb)))
    go_ret
    exact ⟨rfl, b.out⟩

set_option maxRecDepth 100000 in
set_option maxHeartbeats 12800000 in
theorem rounds_in (x y : ByteArray) (hx : x.size ≤ 9223372036854775807) (hy : y.size ≤ 9223372036854775807) (w : World) (hw : Wf w) (qa qb' qc : Rat) (g1 : num? (bl x) = some qa) (g2 : num? (bl y) = some qb') (g3 : num? (bl (qb dRound x y)) = some qc) :
    Calls Tryz.prog 12 #[.string x, .string y] w fun e w' => e = .returned (.bool true) ∧ Below w.heap.size w w' := by
  have RQ := fun w' (hb : Below w.heap.size w w') => (qRound_any x y hx hy w' (hw.up hb)).mono fun e w2 h => (show e = .returned (.string (qb dRound x y)) ∧ Below w'.heap.size w' w2 from h)
  have RR := fun w' => (rRound_any x y hx hy w').mono fun e w2 h => (show e = .returned (.string (qb dRound x y)) ∧ Below w'.heap.size w' w2 from h)
  have FQ := fun w' (hb : Below w.heap.size w w') => (qFloor_any x hx w' (hw.up hb)).mono fun e w2 h => (show e = .returned (.string (qfB x)) ∧ Below w'.heap.size w' w2 from h)
  have FR := fun w' => (rFloor_any x hx w').mono fun e w2 h => (show e = .returned (.string (qfB x)) ∧ Below w'.heap.size w' w2 from h)
  have hz : (qb dRound x y).size ≤ 9223372036854775807 := qb_size _ _ _
  obtain ⟨hpos, hc⟩ := round_num g1 g2 g3
  have hne : qb' ≠ 0 := fun e => by rw [e] at hpos; exact absurd hpos (by decide)
  obtain ⟨near1, near2, near3⟩ := rnd_near (a := qa) hpos
  rw [← hc] at near1 near2 near3
  have z1 := num_sz g1
  have z2 := num_sz g2
  have z3 := num_sz g3
  have AW := fun w' (hb : Below w.heap.size w w') => awake_any w' (hw.up hb)
  generalize qb dRound x y = z at *
  generalize qfB x = f at *
  have G1 := fun w' => rget_any x hx w'
  have G2 := fun w' => rget_any y hy w'
  have G3 := fun w' => rget_any z hz w'
  rw [g1] at G1
  rw [g2] at G2
  rw [g3] at G3
  have G1 := fun w' => (G1 w').mono fun _ _ h => h.some
  have G2 := fun w' => (G2 w').mono fun _ _ h => h.some
  have G3 := fun w' => (G3 w').mono fun _ _ h => h.some
  have e1 : (z.toList == z.toList) = true := beq_self_eq_true _
  have e2 : (f.toList == f.toList) = true := beq_self_eq_true _
  have s1 := sz_sub qa qc
  have s2 := sz_div (a := qc) hne
  have s3 := sz_mul qb' (1 / 2)
  have s4 := sz_half
  have s5 := sz_neg (qa - qc)
  have MI := fun w' v v' f f' => rminus_any v v' qa qc w' f f' (by omega)
  have SG := fun w' v f => rsgn_any v (qa - qc) w' f
  have OP := fun w' v f => ropp_any v (qa - qc) w' f
  have QU := fun w' v v' f f' => rquot_any v v' qc qb' w' f f' (by omega)
  have WH := fun w' v f => rwhole_any v (qc / qb') w' f (by omega)
  rw [decide_eq_true near1] at WH
  have HF := fun w' => rhalf_any w'
  have PR := fun w' v v' f f' => rprod_any v v' qb' (1 / 2) w' f f' (by omega)
  have CM1 := fun w' v v' f f' => rcmpq_any v v' (qa - qc) (qb' * (1 / 2)) w' f f' (by omega)
  have CM2 := fun w' v v' f f' => rcmpq_any v v' (-(qa - qc)) (qb' * (1 / 2)) w' f f' (by omega)
  have hs1 := sign_le (q := qa - qc - qb' * (1 / 2)) (by grind)
  have hs2 := sign_le (q := -(qa - qc) - qb' * (1 / 2)) (by grind)
  clear hx hy hz hw hpos hc hne near1 near2 near3 z1 z2 z3 g1 g2 g3 s1 s2 s3 s4 s5
  generalize sign (qa - qc - qb' * (1 / 2)) = d1 at *
  generalize sign (-(qa - qc) - qb' * (1 / 2)) = d2 at *
  generalize sign (qa - qc) = ds at *
  generalize -(qa - qc) = nq at *
  generalize qb' * (1 / 2) = bh at *
  generalize (1 : Rat) / 2 = half at *
  generalize qa - qc = dq at *
  generalize qc / qb' = cq at *
  have b := Lib.hid (Below.refl w.heap.size w)
  by_cases hneg : ds < 0
  all_goals
    go_enter Tryz.func12, Tryz.ntmps12
    go_wp2_with (first
      | (go_at_call 52; go_loud ((with_reducible refine (OP _ _ FD.out).mono ?_); rintro e w7 ⟨v, rfl, ⟨AO1, cO1, AO2, cO2, dO, rfl, n1, n2, hd⟩, hb⟩; have T7 := Lib.hid (T6.out.up hb); have FO := Lib.hid (show Qr w7 _ nq from ⟨AO1, cO1, AO2, cO2, dO, rfl, n1, n2, hd⟩); have FB7 := Lib.hid (FB6.out.up hb); have FC7 := Lib.hid (FC6.out.up hb); have NE7 := NE; obtain ⟨t0, t1, t2, t3, t4, t5, t6, t7, t8⟩ := T7.out.nine; obtain ⟨f0, f1, f2⟩ := T7.out.2.2.1.frozen; clear n1 n2 hd hb))
      | (go_at_call 51; go_loud ((with_reducible refine (SG _ _ FD5.out).mono ?_); rintro e w6 ⟨rfl, hb⟩; have T6 := Lib.hid (T5.out.up hb); have FD := Lib.hid (FD5.out.up hb); have FB6 := Lib.hid (FB5.out.up hb); have FC6 := Lib.hid (FC5.out.up hb); obtain ⟨t0, t1, t2, t3, t4, t5, t6, t7, t8⟩ := T6.out.nine; obtain ⟨f0, f1, f2⟩ := T6.out.2.2.1.frozen; clear hb))
      | (go_at_call 50; go_loud ((with_reducible refine (MI _ _ _ FA4.out FC4.out).mono ?_); rintro e w5 ⟨v, rfl, ⟨AD1, cD1, AD2, cD2, dD, rfl, n1, n2, hd⟩, hb⟩; have bx := box_rs w5 (.bool (ngt dq)) (.slice AD1 (nd (top dq)) cD1) (.slice AD2 (nd dD) cD2) 51; have SZ := Lib.hid (btrans b.out hb).size; have NE := Lib.hid (And.intro (Nat.ne_of_gt (Nat.lt_of_lt_of_le H4.out.1 hb.size)) (Nat.ne_of_gt (Nat.lt_of_lt_of_le H4.out.2 hb.size))); have T5 := Lib.hid (show T3 w _ _ _ w5.heap.size _ _ _ _ _ _ _ _ _ 51 from ⟨(M4.out.1.below hb H4.out.1).below bx.2.1 (Nat.lt_of_lt_of_le H4.out.1 hb.size), (M4.out.2.below hb H4.out.2).below bx.2.1 (Nat.lt_of_lt_of_le H4.out.2 hb.size), bx.1, Nat.lt_of_lt_of_le (Nat.lt_of_lt_of_le H4.out.1 hb.size) bx.2.1.size, Nat.lt_of_lt_of_le (Nat.lt_of_lt_of_le H4.out.2 hb.size) bx.2.1.size, bx.2.2, btrans (btrans b.out hb) bx.2.1⟩); have FD5 := Lib.hid ((show Qr w5 _ dq from ⟨AD1, cD1, AD2, cD2, dD, rfl, n1, n2, hd⟩).up bx.2.1); have FB5 := Lib.hid ((FB4.out.up hb).up bx.2.1); have FC5 := Lib.hid ((FC4.out.up hb).up bx.2.1); obtain ⟨t0, t1, t2, t3, t4, t5, t6, t7, t8⟩ := T5.out.nine; clear n1 n2 hd hb bx))
      | (go_at_call 45; ((with_reducible refine (RQ _ b.out).mono ?_); rintro e wn ⟨rfl, hb⟩; replace b := Lib.hid (btrans b.out hb); clear hb))
      | (go_at_call 48; ((with_reducible refine (RR _).mono ?_); rintro e wn ⟨rfl, hb⟩; replace b := Lib.hid (btrans b.out hb); clear hb))
      | (go_at_call 46; ((with_reducible refine (FQ _ b.out).mono ?_); rintro e wn ⟨rfl, hb⟩; replace b := Lib.hid (btrans b.out hb); clear hb))
      | (go_at_call 47; ((with_reducible refine (FR _).mono ?_); rintro e wn ⟨rfl, hb⟩; replace b := Lib.hid (btrans b.out hb); clear hb))
      | (go_at_call 49; ((with_reducible refine (G3 _).mono ?_); rintro e w4 ⟨y1, A1, l1, c1, A2, l2, c2, rfl, hb, hF⟩; have bx := box_rs w4 (.bool y1) (.slice A1 l1 c1) (.slice A2 l2 c2) 51; replace b := Lib.hid (btrans (btrans b.out hb) bx.2.1); have FA4 := Lib.hid ((FA3.out.up hb).up bx.2.1); have FB4 := Lib.hid ((FB3.out.up hb).up bx.2.1); have FC4 := Lib.hid (hF.up bx.2.1); have LA4 := Lib.hid ((LA3.out.below hb SA3.out).below bx.2.1 (Nat.lt_of_lt_of_le SA3.out hb.size)); have M4 := Lib.hid (And.intro bx.1 ((LB3.out.below hb SB3.out).below bx.2.1 (Nat.lt_of_lt_of_le SB3.out hb.size))); have H4 := Lib.hid (And.intro bx.2.2 (Nat.lt_of_lt_of_le (Nat.lt_of_lt_of_le SB3.out hb.size) bx.2.1.size)); obtain ⟨pa0, pa1, pa2⟩ := LA4.out.cells; obtain ⟨pc0, pc1, pc2⟩ := M4.out.1.cells; clear hb hF bx))
      | (go_at_call 49; ((with_reducible refine (G2 _).mono ?_); rintro e w3 ⟨y2, A3, l3, c3, A4, l4, c4, rfl, hb, hF⟩; have bx := box_rs w3 (.bool y2) (.slice A3 l3 c3) (.slice A4 l4 c4) 51; replace b := Lib.hid (btrans (btrans b.out hb) bx.2.1); have FA3 := Lib.hid ((FA2.out.up hb).up bx.2.1); have FB3 := Lib.hid (hF.up bx.2.1); have LA3 := Lib.hid ((LA2.out.below hb SA2.out).below bx.2.1 (Nat.lt_of_lt_of_le SA2.out hb.size)); have SA3 := Lib.hid (Nat.lt_of_lt_of_le (Nat.lt_of_lt_of_le SA2.out hb.size) bx.2.1.size); have LB3 := Lib.hid bx.1; have SB3 := Lib.hid bx.2.2; clear hb hF bx))
      | (go_at_call 49; ((with_reducible refine (G1 _).mono ?_); rintro e w2 ⟨y0, A7, l7, c7, A8, l8, c8, rfl, hb, hF⟩; have bx := box_rs w2 (.bool y0) (.slice A7 l7 c7) (.slice A8 l8 c8) 51; replace b := Lib.hid (btrans (btrans b.out hb) bx.2.1); have FA2 := Lib.hid (hF.up bx.2.1); have LA2 := Lib.hid bx.1; have SA2 := Lib.hid bx.2.2; clear hb hF bx)))
  · have T8 := Lib.hid (show T3 w (put3 w7 w5.heap.size (.bool (ngt nq)) (.slice AO1 (nd (top nq)) cO1) (.slice AO2 (nd dO) cO2)) w4.heap.size w3.heap.size w5.heap.size _ _ _ _ _ _ _ _ _ 51 from ⟨T7.out.1.put3_other (fun e => NE.out.1 e.symm), T7.out.2.1.put3_other (fun e => NE.out.2 e.symm), T7.out.2.2.1.put3_same, by rw [put3_size]; exact T7.out.2.2.2.1, by rw [put3_size]; exact T7.out.2.2.2.2.1, by rw [put3_size]; exact T7.out.2.2.2.2.2.1, put3_below T7.out.b SZ.out⟩)
    have FA8 := Lib.hid (FO.out.put3 T7.out.2.2.1 rfl rfl rfl (a := .bool (ngt nq)) (b := .slice AO1 (nd (top nq)) cO1) (d := .slice AO2 (nd dO) cO2))
    have FB8 := Lib.hid (FB7.out.put3 T7.out.2.2.1 rfl rfl rfl (a := .bool (ngt nq)) (b := .slice AO1 (nd (top nq)) cO1) (d := .slice AO2 (nd dO) cO2))
    have FC8 := Lib.hid (FC7.out.put3 T7.out.2.2.1 rfl rfl rfl (a := .bool (ngt nq)) (b := .slice AO1 (nd (top nq)) cO1) (d := .slice AO2 (nd dO) cO2))
    unfold put3 at T8 FA8 FB8 FC8
    clear T5 T6 T7 FO FD FD5 FB5 FB6 FB7 FC5 FC6 FC7 FA2 FA3 FA4 FB3 FB4 FC4 LA2 LA3 LA4 SA2 SA3 LB3 SB3 M4 H4 NE NE7 SZ b pa0 pa1 pa2 pc0 pc1 pc2 t0 t1 t2 t3 t4 t5 t6 t7 t8 f0 f1 f2
    generalize ((w7.setCell ⟨w5.heap.size, 0, none⟩ (.bool (ngt nq))).setCell ⟨w5.heap.size, 1, none⟩ (.slice AO1 (nd (top nq)) cO1)).setCell ⟨w5.heap.size, 2, none⟩ (.slice AO2 (nd dO) cO2) = W8 at *
    generalize w4.heap.size = h1 at *
    generalize w3.heap.size = h2 at *
    generalize w5.heap.size = h3 at *
    generalize hy3 : ngt nq = y3 at *
    generalize hl5 : nd (top nq) = l5 at *
    generalize hl6 : nd dO = l6 at *
    clear hy3 hl5 hl6
    have m0 := Lib.hid (T8.out.up (Below.drew (Below.refl _ _)))
    have FA0 := Lib.hid (FA8.out.up (Below.drew (Below.refl _ _)))
    have FB0 := Lib.hid (FB8.out.up (Below.drew (Below.refl _ _)))
    have FC0 := Lib.hid (FC8.out.up (Below.drew (Below.refl _ _)))
    obtain ⟨t0, t1, t2, t3, t4, t5, t6, t7, t8⟩ := T8.out.nine
    go_region_held3 (fun w' => w'.cell? ⟨h1, 0, none⟩ = some (.bool y1) ∧ w'.cell? ⟨h1, 1, none⟩ = some (.slice A1 l1 c1) ∧ w'.cell? ⟨h1, 2, none⟩ = some (.slice A2 l2 c2) ∧ w'.cell? ⟨h2, 0, none⟩ = some (.bool y2) ∧ w'.cell? ⟨h2, 1, none⟩ = some (.slice A3 l3 c3) ∧ w'.cell? ⟨h2, 2, none⟩ = some (.slice A4 l4 c4) ∧ w'.cell? ⟨h3, 0, none⟩ = some (.bool y3) ∧ w'.cell? ⟨h3, 1, none⟩ = some (.slice AO1 l5 cO1) ∧ w'.cell? ⟨h3, 2, none⟩ = some (.slice AO2 l6 cO2))
      (first | (with_reducible exact m6.out.nine) | (with_reducible exact m5.out.nine) | (with_reducible exact m4.out.nine) | (with_reducible exact m3.out.nine) | (with_reducible exact m2.out.nine) | (with_reducible exact m1.out.nine) | (with_reducible exact m0.out.nine) | go_keep)
      (first
        | (go_at_call 20; go_loud ((with_reducible refine (AW _ m5.out.b).mono ?_); rintro e u6 ⟨rfl, hb⟩; have m6 := Lib.hid (m5.out.up hb); obtain ⟨t0, t1, t2, t3, t4, t5, t6, t7, t8⟩ := m6.out.nine; clear hb))
        | (go_at_call 55; go_loud ((with_reducible refine (CM2 _ _ _ FA4'.out F4.out).mono ?_); rintro e u5 ⟨rfl, hb⟩; have m5 := Lib.hid (m4.out.up hb); obtain ⟨t0, t1, t2, t3, t4, t5, t6, t7, t8⟩ := m5.out.nine; clear hb))
        | (go_at_call 56; go_loud ((with_reducible refine (PR _ _ _ FB3'.out F3.out).mono ?_); rintro e u4 ⟨v4, rfl, hF, hb⟩; have m4 := Lib.hid (m3.out.up hb); have F4 := Lib.hid hF; have FA4' := Lib.hid (FA3'.out.up hb); obtain ⟨t0, t1, t2, t3, t4, t5, t6, t7, t8⟩ := m4.out.nine; clear hF hb))
        | (go_at_call 57; go_loud ((with_reducible refine (HF _).mono ?_); rintro e u3 ⟨v3, rfl, hF, hb⟩; have m3 := Lib.hid (m2.out.up hb); have F3 := Lib.hid hF; have FA3' := Lib.hid (FA2'.out.up hb); have FB3' := Lib.hid (FB2'.out.up hb); obtain ⟨t0, t1, t2, t3, t4, t5, t6, t7, t8⟩ := m3.out.nine; clear hF hb))
        | (go_at_call 53; go_loud ((with_reducible refine (WH _ _ F1.out).mono ?_); rintro e u2 ⟨rfl, hb⟩; have m2 := Lib.hid (m1.out.up hb); have FA2' := Lib.hid (FA1'.out.up hb); have FB2' := Lib.hid (FB1'.out.up hb); obtain ⟨t0, t1, t2, t3, t4, t5, t6, t7, t8⟩ := m2.out.nine; clear hb))
        | (go_at_call 54; go_loud ((with_reducible refine (QU _ _ _ FC0.out FB0.out).mono ?_); rintro e u1 ⟨v1, rfl, hF, hb⟩; have m1 := Lib.hid (m0.out.up hb); have F1 := Lib.hid hF; have FA1' := Lib.hid (FA0.out.up hb); have FB1' := Lib.hid (FB0.out.up hb); obtain ⟨t0, t1, t2, t3, t4, t5, t6, t7, t8⟩ := m1.out.nine; clear hF hb)))
    go_wp2
    go_ret
    exact ⟨rfl, m6.out.b⟩
  · clear T5 FD5 FB5 FC5 FA2 FA3 FA4 FB3 FB4 FC4 LA2 LA3 LA4 SA2 SA3 LB3 SB3 M4 H4 NE SZ b pa0 pa1 pa2 pc0 pc1 pc2 t0 t1 t2 t3 t4 t5 t6 t7 t8 f0 f1 f2
    generalize w4.heap.size = h1 at *
    generalize w3.heap.size = h2 at *
    generalize w5.heap.size = h3 at *
    generalize hy3 : ngt dq = y3 at *
    generalize hl5 : nd (top dq) = l5 at *
    generalize hl6 : nd dD = l6 at *
    clear hy3 hl5 hl6
    have m0 := Lib.hid (T6.out.up (Below.drew (Below.refl _ _)))
    have FA0 := Lib.hid (FD.out.up (Below.drew (Below.refl _ _)))
    have FB0 := Lib.hid (FB6.out.up (Below.drew (Below.refl _ _)))
    have FC0 := Lib.hid (FC6.out.up (Below.drew (Below.refl _ _)))
    obtain ⟨t0, t1, t2, t3, t4, t5, t6, t7, t8⟩ := T6.out.nine
    go_region_held3 (fun w' => w'.cell? ⟨h1, 0, none⟩ = some (.bool y1) ∧ w'.cell? ⟨h1, 1, none⟩ = some (.slice A1 l1 c1) ∧ w'.cell? ⟨h1, 2, none⟩ = some (.slice A2 l2 c2) ∧ w'.cell? ⟨h2, 0, none⟩ = some (.bool y2) ∧ w'.cell? ⟨h2, 1, none⟩ = some (.slice A3 l3 c3) ∧ w'.cell? ⟨h2, 2, none⟩ = some (.slice A4 l4 c4) ∧ w'.cell? ⟨h3, 0, none⟩ = some (.bool y3) ∧ w'.cell? ⟨h3, 1, none⟩ = some (.slice AD1 l5 cD1) ∧ w'.cell? ⟨h3, 2, none⟩ = some (.slice AD2 l6 cD2))
      (first | (with_reducible exact m6.out.nine) | (with_reducible exact m5.out.nine) | (with_reducible exact m4.out.nine) | (with_reducible exact m3.out.nine) | (with_reducible exact m2.out.nine) | (with_reducible exact m1.out.nine) | (with_reducible exact m0.out.nine) | go_keep)
      (first
        | (go_at_call 20; go_loud ((with_reducible refine (AW _ m5.out.b).mono ?_); rintro e u6 ⟨rfl, hb⟩; have m6 := Lib.hid (m5.out.up hb); obtain ⟨t0, t1, t2, t3, t4, t5, t6, t7, t8⟩ := m6.out.nine; clear hb))
        | (go_at_call 55; go_loud ((with_reducible refine (CM1 _ _ _ FA4'.out F4.out).mono ?_); rintro e u5 ⟨rfl, hb⟩; have m5 := Lib.hid (m4.out.up hb); obtain ⟨t0, t1, t2, t3, t4, t5, t6, t7, t8⟩ := m5.out.nine; clear hb))
        | (go_at_call 56; go_loud ((with_reducible refine (PR _ _ _ FB3'.out F3.out).mono ?_); rintro e u4 ⟨v4, rfl, hF, hb⟩; have m4 := Lib.hid (m3.out.up hb); have F4 := Lib.hid hF; have FA4' := Lib.hid (FA3'.out.up hb); obtain ⟨t0, t1, t2, t3, t4, t5, t6, t7, t8⟩ := m4.out.nine; clear hF hb))
        | (go_at_call 57; go_loud ((with_reducible refine (HF _).mono ?_); rintro e u3 ⟨v3, rfl, hF, hb⟩; have m3 := Lib.hid (m2.out.up hb); have F3 := Lib.hid hF; have FA3' := Lib.hid (FA2'.out.up hb); have FB3' := Lib.hid (FB2'.out.up hb); obtain ⟨t0, t1, t2, t3, t4, t5, t6, t7, t8⟩ := m3.out.nine; clear hF hb))
        | (go_at_call 53; go_loud ((with_reducible refine (WH _ _ F1.out).mono ?_); rintro e u2 ⟨rfl, hb⟩; have m2 := Lib.hid (m1.out.up hb); have FA2' := Lib.hid (FA1'.out.up hb); have FB2' := Lib.hid (FB1'.out.up hb); obtain ⟨t0, t1, t2, t3, t4, t5, t6, t7, t8⟩ := m2.out.nine; clear hb))
        | (go_at_call 54; go_loud ((with_reducible refine (QU _ _ _ FC0.out FB0.out).mono ?_); rintro e u1 ⟨v1, rfl, hF, hb⟩; have m1 := Lib.hid (m0.out.up hb); have F1 := Lib.hid hF; have FA1' := Lib.hid (FA0.out.up hb); have FB1' := Lib.hid (FB0.out.up hb); obtain ⟨t0, t1, t2, t3, t4, t5, t6, t7, t8⟩ := m1.out.nine; clear hF hb)))
    go_wp2
    go_ret
    exact ⟨rfl, m6.out.b⟩

theorem rounds_walk (x y : ByteArray) (hx : x.size ≤ 9223372036854775807) (hy : y.size ≤ 9223372036854775807) (w : World) (hw : Wf w) :
    Calls Tryz.prog 12 #[.string x, .string y] w fun e w' => e = .returned (.bool true) ∧ Below w.heap.size w w' := by
  cases g1 : num? (bl x) with
  | none => exact rounds_out x y hx hy w hw (.inl g1)
  | some a =>
    cases g2 : num? (bl y) with
    | none => exact rounds_out x y hx hy w hw (.inr (.inl g2))
    | some b =>
      cases g3 : num? (bl (qb dRound x y)) with
      | none => exact rounds_out x y hx hy w hw (.inr (.inr g3))
      | some c => exact rounds_in x y hx hy w hw a b c g1 g2 g3

end Go.Proofs.YtinoipjblkidfaaGreatDoor

/- The row: What Floor and Round return, and that a rounded number is a multiple of the step, not farther away than half of it; for all strings. -/
namespace Go.Proofs.YtinoipjblkidfaaGreatDoor
open Go.RowKit Go.ChangeShapes Go.WideShapes Go.ChangeAt Go.Joins

/-- The world of the witness: the settled one, with the variables holding what their initialisers lay. -/
noncomputable def laidWorld (os : Os) : World :=
  let N := (World.settled Tryz.prog os).heap.size
  let w0 := World.holding Tryz.prog os ⟨#[.cells #[.string ⟨#[118, 97, 108, 117, 101, 32, 111, 117, 116, 32, 111, 102, 32, 114, 97, 110, 103, 101]⟩] 220, .cells #[.string ⟨#[105, 110, 118, 97, 108, 105, 100, 32, 115, 121, 110, 116, 97, 120]⟩] 220], #[], []⟩
  let put (h : Array Obj) (g : Nat) (cs : Array Value) : Array Obj := h.modify g fun
    | .cells _ t frozen => .cells cs t frozen
    | o => o
  let h1 := put w0.heap 6 #[.int .u8 0, .int .u8 1, .int .u8 28, .int .u8 2, .int .u8 29, .int .u8 14, .int .u8 24, .int .u8 3, .int .u8 30, .int .u8 22, .int .u8 20, .int .u8 15, .int .u8 25, .int .u8 17, .int .u8 4, .int .u8 8, .int .u8 31, .int .u8 27, .int .u8 13, .int .u8 23, .int .u8 21, .int .u8 19, .int .u8 16, .int .u8 7, .int .u8 26, .int .u8 12, .int .u8 18, .int .u8 6, .int .u8 11, .int .u8 5, .int .u8 10, .int .u8 9]
  let h2 := put h1 7 #[.int .u8 0, .int .u8 1, .int .u8 56, .int .u8 2, .int .u8 57, .int .u8 49, .int .u8 28, .int .u8 3, .int .u8 61, .int .u8 58, .int .u8 42, .int .u8 50, .int .u8 38, .int .u8 29, .int .u8 17, .int .u8 4, .int .u8 62, .int .u8 47, .int .u8 59, .int .u8 36, .int .u8 45, .int .u8 43, .int .u8 51, .int .u8 22, .int .u8 53, .int .u8 39, .int .u8 33, .int .u8 30, .int .u8 24, .int .u8 18, .int .u8 12, .int .u8 5, .int .u8 63, .int .u8 55, .int .u8 48, .int .u8 27, .int .u8 60, .int .u8 41, .int .u8 37, .int .u8 16, .int .u8 46, .int .u8 35, .int .u8 44, .int .u8 21, .int .u8 52, .int .u8 32, .int .u8 23, .int .u8 11, .int .u8 54, .int .u8 26, .int .u8 40, .int .u8 15, .int .u8 34, .int .u8 20, .int .u8 31, .int .u8 10, .int .u8 25, .int .u8 14, .int .u8 19, .int .u8 9, .int .u8 13, .int .u8 8, .int .u8 7, .int .u8 6]
  let h3 := put h2 3 #[.int .u64 1, .int .u64 10, .int .u64 100, .int .u64 1000, .int .u64 10000, .int .u64 100000, .int .u64 1000000, .int .u64 10000000, .int .u64 100000000, .int .u64 1000000000, .int .u64 10000000000, .int .u64 100000000000, .int .u64 1000000000000, .int .u64 10000000000000, .int .u64 100000000000000, .int .u64 1000000000000000, .int .u64 10000000000000000, .int .u64 100000000000000000, .int .u64 1000000000000000000, .int .u64 10000000000000000000]
  let h4 := put h3 5 #[.int .u8 128, .int .u8 191, .int .u8 160, .int .u8 191, .int .u8 128, .int .u8 159, .int .u8 144, .int .u8 191, .int .u8 128, .int .u8 143, .int .u8 0, .int .u8 0, .int .u8 0, .int .u8 0, .int .u8 0, .int .u8 0, .int .u8 0, .int .u8 0, .int .u8 0, .int .u8 0, .int .u8 0, .int .u8 0, .int .u8 0, .int .u8 0, .int .u8 0, .int .u8 0, .int .u8 0, .int .u8 0, .int .u8 0, .int .u8 0, .int .u8 0, .int .u8 0]
  let h5 := put h4 1 #[.iface 218 (.pointer (some ⟨N + 0, 0, none⟩))]
  let h6 := put h5 0 #[.iface 218 (.pointer (some ⟨N + 1, 0, none⟩))]
  let h7 := put h6 4 (Pinned.utf8FirstZ.map fun (z : Nat) => Value.int .u8 (Int.ofNat z)).toArray
  { w0 with heap := h7 }

noncomputable abbrev N0 : Nat := (World.settled Tryz.prog default).heap.size
set_option maxRecDepth 1000000 in
theorem laid_met (os : Os) (args : Array Value) : laidMet Tryz.prog Rows.quantityRoundsRow.laid ((laidWorld os).forCall (fun _ _ => 0) ⟨#[], args, []⟩).memory :=
  (LaidIn.of_run [6, 7, 3, 5, 1, N0 + 0, 0, N0 + 1, 4] 8 (by kernel_rfl) (by kernel_rfl) (by kernel_rfl) (by kernel_rfl)).met
theorem reads (os : Os) {H : Type} (enc : TypeId × Value → H) : ∃ places, DataW.whole enc Tryz.prog ((laidWorld os).forCall (fun _ _ => 0) ⟨#[], #[.string ⟨#[]⟩, .string ⟨#[]⟩], []⟩).memory Tryz.f12.params.toList Rows.quantityRoundsSpec.vars false #[.string ⟨#[]⟩, .string ⟨#[]⟩].toList 8 = some ([.lit (.string []), .lit (.string [])], [], places) :=
  ⟨[], by kernel_rfl⟩

set_option maxRecDepth 100000 in
set_option maxHeartbeats 2000000 in
theorem quantityRounds_lifted (os : Os) (started : os.Started) (H : Type) (enc : TypeId × Value → H) (F : Stop.Interp) :
    ReturnsInHanded {} Tryz.checked os 12 .any ((OpenSpec.ofChange Rows.quantityRoundsSpec).preRow enc Tryz.prog Tryz.f12 Rows.quantityRoundsRow.domain false Rows.quantityRoundsRow.laid) (((OpenSpec.ofChange Rows.quantityRoundsSpec).at F).post enc Tryz.prog Tryz.f12 false true false false) := by
  obtain ⟨places, hx⟩ := reads os enc
  refine returnsInHanded_of_row (C := Tryz.checked) (s := (OpenSpec.ofChange Rows.quantityRoundsSpec)) Tryz.own started (by kernel_rfl) Tryz.func12
    (witness_row_at (enc := enc) (C := Tryz.checked) false (laidWorld os) #[.string ⟨#[]⟩, .string ⟨#[]⟩] rfl (by kernel_rfl) (by kernel_rfl) (by kernel_rfl)
      (OpenSpec.preRow_of_cond 8 hx (by kernel_rfl) (fun k hk => by cases hk) (by kernel_rfl) (laid_met os _))) ?_
  intro W base args ds gs before hval0 hW _ hcond _ hL hsh _
  have hval : ∀ (j : Nat) t v, Tryz.f12.params[j]? = some t → args[j]? = some v → Value.okWide Tryz.prog W .any base t v := hval0
  have hW' := hW
  have hlt : ∀ p ∈ before, p.block < W.heap.size := fun p hp => hW.lt p hp
  clear hcond
  obtain ⟨p, q, hA0, hV, rfl, hfz, hnd⟩ := hW
  have hA : DataW.TrodAll enc Tryz.prog W 0 (fun _ => true) true Tryz.f12.params.toList args.toList ds p := hA0
  have hAk := hA
  rw [Tryz.params12] at hA hval
  obtain ⟨v0, v1, d0, d1, p0, p1, rfl, rfl, rfl, h0, h1⟩ := trodAll_two hA
  obtain ⟨rfl, rfl⟩ := trodVars_none hV
  obtain ⟨x, rfl, rfl, rfl, wfx⟩ := Go.ChangeMaps.open_string Tryz.underlying9 (hval 0 9 v0 rfl rfl) h0
  obtain ⟨y, rfl, rfl, rfl, wfy⟩ := Go.ChangeMaps.open_string Tryz.underlying9 (hval 1 9 v1 rfl rfl) h1
  clear hA0 hval0
  have hw : Wf W := ⟨tab_of_reads Tryz.gPow Tryz.gPowType Tryz.underlying222 Tryz.underlying105 Tryz.cellsU64 Tryz.cellsPow (Lib.laidMet.reads hL (.tail _ (.tail _ (.head _)))), iface_of_reads Tryz.gSyn Tryz.gSynType Tryz.underlying100 (Lib.laidMet.reads hL (.tail _ (.tail _ (.tail _ (.tail _ (.tail _ (.head _))))))), iface_of_reads Tryz.gRng Tryz.gRngType Tryz.underlying100 (Lib.laidMet.reads hL (.tail _ (.tail _ (.tail _ (.tail _ (.head _))))))⟩
  refine (rounds_walk x y wfx wfy W hw).mono fun e W' ⟨he, hw⟩ => ?_
  subst he
  exact ⟨_, rfl, post_of_below (pv := []) hW' (fun _ _ _ => trodAll_mk1 (shut_bool Tryz.underlying4 _))
    (fun sp hsp => trodAll_kept Tryz.laidOut (by kernel_rfl) hAk (fun p hp => hw.same (hlt p (by simp at hp))) (fun p hp => by simp at hp)) (fun _ _ => rfl) rfl hw (ok_one (by kernel_rfl) rfl (okWide_bool_mk Tryz.underlying4 _))⟩

set_option maxHeartbeats 12800000 in
/-- What the row's cells say of the program. -/
theorem quantityRounds_closed : joinedFacts Tryz.pinned.checked.prog 12 Tryz.f12 (OpenSpec.ofChange Rows.quantityRoundsSpec).bare Rows.quantityRoundsRow = true := by
  unfold joinedFacts
  simp only [Bool.and_eq_true]
  repeat' apply And.intro
  all_goals (as_aux_lemma => kernel_rfl)

theorem quantityRounds_said : Rows.QuantityRoundsSaid :=
  OpenClaim.holds_of_cond 12 Tryz.f12 rfl rfl rfl rfl rfl rfl rfl ⟨rfl, rfl, rfl, rfl, rfl⟩ rfl rfl rfl rfl rfl (by as_aux_lemma => kernel_rfl) Tryz.func12 quantityRounds_closed
    (of_decide_eq_true (by kernel_rfl)) (by unfold Func.isWrapper; first | (rw [if_pos (by decide +kernel)]; kernel_rfl) | (rw [if_neg (by decide +kernel)]; exact ⟨rfl, rfl⟩))
    (fun os started H enc _ F => by rw [OpenClaim.pre_eq_preRow]; exact quantityRounds_lifted os started H enc F)

end Go.Proofs.YtinoipjblkidfaaGreatDoor
