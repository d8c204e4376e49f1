/- Fractions of the reference: what a value is; one, den, Make. Fractions of the reference: Opp, Sgn, Plus, Minus, Prod, Quot, Cmp. Fractions of the reference: Plus, Minus, Cmp. -/
import Derived.Test.YthjnmnepjeegiaaGreatDoorG5
import Derived.Test.YthjnmnepjeegiaaGreatDoorG2
/- Fractions of the reference: what a value is; one, den, Make. -/
namespace Go.Proofs.YthjnmnepjeegiaaGreatDoor
open Go.RowKit Go.Proofs.YthjnmnepjeegiaaGreatDoor.Dg Go.Proofs.YthjnmnepjeegiaaGreatDoor.Q

/-- The value of a fraction of the reference; no denominator stands for 1. -/
def Qr (w : World) (v : Value) (q : Rat) : Prop :=
  ∃ A c A' c' d, v = .agg #[.bool (ngt q), .slice A (nd (top q)) c, .slice A' (nd d) c'] ∧ Nt .u64 w w.heap.size A c (top q) ∧ Nt .u64 w w.heap.size A' c' d ∧ (d = q.den ∨ (d = 0 ∧ q.den = 1))
theorem Qr.up {w w' : World} {v : Value} {q : Rat} (h : Qr w v q) (hb : Below w.heap.size w w') : Qr w' v q := by
  obtain ⟨A, c, A', c', d, e, h1, h2, h3⟩ := h
  exact ⟨A, c, A', c', d, e, h1.up hb, h2.up hb, h3⟩
/-- What a function of the reference gives that returns a fraction. -/
def GiveQ (w : World) (q : Rat) (e : Ending) (w' : World) : Prop := ∃ v, e = .returned v ∧ Qr w' v q ∧ Below w.heap.size w w'
theorem Qr.of_parts {w : World} {q : Rat} {b : Bool} {n d : Nat} {A A' : Option Addr} {c c' : Nat} (h1 : ngt q = b) (h2 : top q = n) (h3 : q.den = d) (k1 : Nt .u64 w w.heap.size A c n) (k2 : Nt .u64 w w.heap.size A' c' d) :
    Qr w (.agg #[.bool b, .slice A (nd n) c, .slice A' (nd d) c']) q := by
  subst h1 h2 h3
  exact ⟨A, c, A', c', _, rfl, k1, k2, .inl rfl⟩
/-- No limbs at all: 0. -/
theorem Qr.zero (w : World) : Qr w (.agg #[.bool false, .slice none 0 0, .slice none 0 0]) 0 := by
  refine ⟨none, 0, none, 0, 0, ?_, Nt.nil _ _ _, Nt.nil _ _ _, .inr ⟨rfl, rfl⟩⟩
  show _ = Value.agg #[.bool (ngt 0), .slice none (nd 0) 0, .slice none (nd 0) 0]
  rw [nd_zero]
  rfl
theorem nd_ne {a : Nat} (h : a ≠ 0) : (((nd a : Nat) : Int) == 0) = false := by
  rw [beq_eq_false_iff_ne]
  have : nd a ≠ 0 := by rw [nd_pos h]; omega
  omega

set_option maxRecDepth 100000 in
theorem rone_any (w : World) : Calls Tryz.prog 74 #[] w (GiveN .u64 w 1) := by
  have I := natOf_any 1 (by decide) w
  go_enter Tryz.func74, Tryz.ntmps74
  go_wp2_with (go_at_call 73; (refine I.mono ?_; rintro e w1 ⟨A, c, rfl, hN, hb⟩; have N1 := Lib.hid hN; have B1 := Lib.hid hb; clear hN hb))
  go_ret
  exact ⟨A, c, rfl, N1.out, B1.out⟩

set_option maxRecDepth 100000 in
set_option maxHeartbeats 1600000 in
theorem rden_any (v : Value) (q : Rat) (w : World) (h : Qr w v q) : Calls Tryz.prog 71 #[v] w (GiveN .u64 w q.den) := by
  obtain ⟨A, c, A', c', d, rfl, n1, n2, hd⟩ := h
  have ON := fun w' => rone_any w'
  have b0 := Lib.hid (box_rs w (.bool (ngt q)) (.slice A (nd (top q)) c) (.slice A' (nd d) c') 54).2.1
  generalize ngt q = x at *
  generalize nd (top q) = l at *
  by_cases h0 : d = 0
  · subst h0
    have h1 : q.den = 1 := by
      rcases hd with h | ⟨_, h⟩
      · exact absurd h.symm q.den_nz
      · exact h
    rw [h1]
    clear hd n1 n2 h1
    rw [nd_zero] at b0 ⊢
    go_enter Tryz.func71, Tryz.ntmps71
    go_wp2_with (go_at_call 74; (refine (ON _).mono ?_; rintro e w1 ⟨A2, c2, rfl, hN, hb⟩; have N1 := Lib.hid hN; have B1 := Lib.hid (btrans b0.out hb); clear hN hb))
    go_ret
    exact ⟨A2, c2, rfl, N1.out, B1.out⟩
  · have h1 : q.den = d := by
      rcases hd with h | ⟨h, _⟩
      · exact h.symm
      · exact absurd h h0
    rw [h1]
    have e0 := nd_ne h0
    have N2 := Lib.hid (n2.up b0.out)
    clear hd n1 n2 h1 h0 ON
    go_enter Tryz.func71, Tryz.ntmps71
    go_wp2
    go_ret
    exact ⟨A', c', rfl, N2.out, b0.out⟩

set_option maxRecDepth 100000 in
set_option maxHeartbeats 3200000 in
theorem rmake_any (b : Bool) (A1 A2 : Option Addr) (c1 c2 n d : Nat) (w : World) (h1 : Nt .u64 w w.heap.size A1 c1 n) (h2 : Nt .u64 w w.heap.size A2 c2 d) (hn1 : nd n ≤ 400000) (hn2 : nd d ≤ 400000) :
    Calls Tryz.prog 72 #[.bool b, .slice A1 (nd n) c1, .slice A2 (nd d) c2] w (GiveQ w (mkRat (sg b n) d)) := by
  by_cases h0 : n = 0
  · subst h0
    have HM := Lib.hid (make_zero b d)
    rw [nd_zero]
    clear h1 h2 hn1 hn2
    generalize nd d = l at *
    go_enter Tryz.func72, Tryz.ntmps72
    go_wp2
    refine bodyPost_ret (v := .agg #[.bool false, .slice none 0 0, .slice none 0 0]) (by simp [results, Tryz.results72, go_sem]) rfl ⟨_, rfl, ?_, ?_⟩
    · rw [HM.out]; exact Qr.zero _
    · exact (Below.refl _ w).alloc (Nat.le_refl _) _
  · have e1 := nd_ne h0
    by_cases hd0 : d = 0
    · subst hd0
      have HM := Lib.hid (Rat.mkRat_zero (sg b n))
      rw [nd_zero]
      clear h1 h2 hn1 hn2 h0
      generalize nd n = l at *
      go_enter Tryz.func72, Tryz.ntmps72
      go_wp2
      refine bodyPost_ret (v := .agg #[.bool false, .slice none 0 0, .slice none 0 0]) (by simp [results, Tryz.results72, go_sem]) rfl ⟨_, rfl, ?_, ?_⟩
      · rw [HM.out]; exact Qr.zero _
      · exact (Below.refl _ w).alloc (Nat.le_refl _) _
    · have e2 := nd_ne hd0
      have B0 := Lib.hid ((Below.refl w.heap.size w).alloc (Nat.le_refl _) (.cells #[.bool false, .slice none 0 0, .slice none 0 0] 54))
      have R0 := Lib.hid (show Rs (w.alloc (.cells #[.bool false, .slice none 0 0, .slice none 0 0] 54)) w.heap.size (.bool false) (.slice none 0 0) (.slice none 0 0) 54 from Deep.blk_alloc_new w _)
      have GC := rgcd_any A1 A2 c1 c2 n d _ (h1.up B0.out) (h2.up B0.out) hn1 hn2
      have hg0 : Nat.gcd n d ≠ 0 := fun e => hd0 (Nat.eq_zero_of_gcd_eq_zero_right e)
      have hPN := Lib.hid (make_ngt (b := b) h0 hd0)
      have hPT := Lib.hid (make_top (b := b) (n := n) hd0)
      have hPD := Lib.hid (make_den (b := b) (n := n) hd0)
      have H1 := Lib.hid h1
      have H2 := Lib.hid h2
      have DV := fun w' A A' c c' x (hx : nd x ≤ 400000) h1 h2 => rdiv_any A A' c c' x (Nat.gcd n d) w' h1 h2 hx hg0
      generalize mkRat (sg b n) d = Q at *
      generalize Nat.gcd n d = g at *
      have HGS := Lib.hid (show w.heap.size < (w.alloc (.cells #[.bool false, .slice none 0 0, .slice none 0 0] 54)).heap.size by simp)
      clear h1 h2 h0 hd0 hg0
      go_enter Tryz.func72, Tryz.ntmps72
      go_wp2_with (first
        | (go_at_call 101; go_loud ((with_reducible refine (DV _ _ _ _ _ _ hn2 ((H2.out.up B0.out).up (btrans BG.out B3.out)) (NG.out.up B3.out)).mono ?_); rintro e w4 ⟨A6, c6, A7, c7, rfl, hN6, hN7, hb4⟩; have B4 := Lib.hid (btrans B3.out hb4); have N6 := Lib.hid hN6; have N4 := Lib.hid (N3.out.up hb4); have RG4 := Lib.hid (RG.out.below B4.out (Nat.lt_of_lt_of_le HGS.out BG.out.size)); obtain ⟨r0, r1, r2⟩ := RG4.out.cells; obtain ⟨f0, f1, f2⟩ := RG4.out.frozen; clear hN6 hN7 hb4))
        | (go_at_call 101; go_loud ((with_reducible refine (DV _ _ _ _ _ _ hn1 ((H1.out.up B0.out).up BG.out) NG.out).mono ?_); rintro e w3 ⟨A4, c4, A5, c5, rfl, hN4, hN5, hb3⟩; have B3 := Lib.hid hb3; have N3 := Lib.hid hN4; clear hN4 hN5 hb3))
        | (go_at_call 100; go_loud (refine GC.mono ?_; rintro e w2 ⟨Ag, cg, rfl, hNg, hbg⟩; have BG := Lib.hid hbg; have NG := Lib.hid hNg; have RG := Lib.hid (R0.out.below hbg HGS.out); clear hNg hbg)))
      have M1 := N4.out.put3 RG4.out rfl rfl rfl (a := .bool b) (b := .slice A4 (nd (n / g)) c4) (d := .slice A6 (nd (d / g)) c6)
      have M2 := N6.out.put3 RG4.out rfl rfl rfl (a := .bool b) (b := .slice A4 (nd (n / g)) c4) (d := .slice A6 (nd (d / g)) c6)
      refine bodyPost_ret (v := .agg #[.bool b, .slice A4 (nd (n / g)) c4, .slice A6 (nd (d / g)) c6]) (by simp [results, Tryz.results72, go_sem, r0, r1, r2]) rfl ⟨_, rfl, ?_, put3_below (B0.out.trans ((btrans BG.out B4.out).mono B0.out.size)) (Nat.le_refl _)⟩
      exact Qr.of_parts hPN.out hPT.out hPD.out M1 M2
end Go.Proofs.YthjnmnepjeegiaaGreatDoor

/- Fractions of the reference: Opp, Sgn, Plus, Minus, Prod, Quot, Cmp. -/
namespace Go.Proofs.YthjnmnepjeegiaaGreatDoor
open Go.RowKit Go.Proofs.YthjnmnepjeegiaaGreatDoor.Dg Go.Proofs.YthjnmnepjeegiaaGreatDoor.Q

theorem Qr.put3 {w : World} {v : Value} {q : Rat} {g : Nat} {x y z a b d : Value} {t : TypeId} (h : Qr w v q) (hr : Rs w g x y z t) (hx : notInt x = true) (hy : notInt y = true) (hz : notInt z = true) : Qr (Go.Proofs.YthjnmnepjeegiaaGreatDoor.put3 w g a b d) v q := by
  obtain ⟨A, c, A', c', e, h0, h1, h2, h3⟩ := h
  exact ⟨A, c, A', c', e, h0, h1.put3 hr hx hy hz, h2.put3 hr hx hy hz, h3⟩
theorem K3.giveQ {w w' : World} {a0 a1 a2 b0 b1 b2 x y z : Value} {t : TypeId} {q : Rat} (h : K3 w w' a0 a1 a2 b0 b1 b2 (.bool false) (.slice none 0 0) (.slice none 0 0) t) (hq : Qr w' (.agg #[x, y, z]) q) :
    GiveQ w q (.returned (.agg #[x, y, z])) (put3 w' (w.heap.size + 2) x y z) :=
  ⟨_, rfl, hq.put3 h.2.2.1 rfl rfl rfl, (h.stored _ _ _).2.2.2.2⟩
theorem K3.b {w w' : World} {a0 a1 a2 b0 b1 b2 c0 c1 c2 : Value} {t : TypeId} (h : K3 w w' a0 a1 a2 b0 b1 b2 c0 c1 c2 t) : Below w.heap.size w w' := h.2.2.2.2
theorem div_all (a b : Rat) : a / b = mkRat (sg (ngt a != ngt b) (top a * b.den)) (a.den * top b) := by
  by_cases h : b = 0
  · subst h
    rw [show a.den * top 0 = 0 from Nat.mul_zero _, Rat.mkRat_zero, Rat.div_def, Rat.inv_zero, Rat.mul_zero]
  · exact div_is h

set_option maxRecDepth 100000 in
set_option maxHeartbeats 1600000 in
theorem rsgn_any (v : Value) (q : Rat) (w : World) (h : Qr w v q) : Calls Tryz.prog 65 #[v] w fun e w' => e = .returned (.int .i64 (sign q)) ∧ Below w.heap.size w w' := by
  obtain ⟨A, c, A', c', d, rfl, n1, n2, hd⟩ := h
  clear n1 n2 hd
  by_cases h0 : top q = 0
  · have hs : sign q = 0 := by unfold sign; rw [if_pos h0]
    have z0 : nd (top q) = 0 := by rw [h0]; exact nd_zero
    rw [hs]
    clear h0 hs
    generalize nd (top q) = l at *
    subst z0
    go_enter Tryz.func65, Tryz.ntmps65
    go_wp2
    go_ret
    exact ⟨rfl, by (repeat (first | exact Below.refl _ _ | assumption | refine below_drewN ?_ _ | refine Below.drew ?_ | refine btrans ?_ (by assumption) | refine below_alloc ?_ _ | refine Below.setCell ?_ (by simp <;> omega) _ | refine Below.alloc ?_ (by simp <;> omega) _ | refine Below.setCell ?_ (by simp) _ | refine Below.alloc ?_ (by simp) _))⟩
  · have e0 := nd_ne h0
    have hs : sign q = if ngt q = true then -1 else 1 := by unfold sign; rw [if_neg h0]
    rw [hs]
    clear h0 hs
    generalize nd (top q) = l at *
    generalize ngt q = x at *
    cases x
    · go_enter Tryz.func65, Tryz.ntmps65
      go_wp2
      go_ret
      exact ⟨rfl, by (repeat (first | exact Below.refl _ _ | assumption | refine below_drewN ?_ _ | refine Below.drew ?_ | refine btrans ?_ (by assumption) | refine below_alloc ?_ _ | refine Below.setCell ?_ (by simp <;> omega) _ | refine Below.alloc ?_ (by simp <;> omega) _ | refine Below.setCell ?_ (by simp) _ | refine Below.alloc ?_ (by simp) _))⟩
    · go_enter Tryz.func65, Tryz.ntmps65
      go_wp2
      go_ret
      exact ⟨rfl, by (repeat (first | exact Below.refl _ _ | assumption | refine below_drewN ?_ _ | refine Below.drew ?_ | refine btrans ?_ (by assumption) | refine below_alloc ?_ _ | refine Below.setCell ?_ (by simp <;> omega) _ | refine Below.alloc ?_ (by simp <;> omega) _ | refine Below.setCell ?_ (by simp) _ | refine Below.alloc ?_ (by simp) _))⟩

set_option maxRecDepth 100000 in
set_option maxHeartbeats 6400000 in
theorem rprod_any (v1 v2 : Value) (a b : Rat) (w : World) (h1 : Qr w v1 a) (h2 : Qr w v2 b) (hs : sz a + sz b ≤ 390000) :
    Calls Tryz.prog 38 #[v1, v2] w (GiveQ w (a * b)) := by
  have DA := fun w' (hb : Below w.heap.size w w') => rden_any v1 a w' (h1.up hb)
  have DB := fun w' (hb : Below w.heap.size w w') => rden_any v2 b w' (h2.up hb)
  have QA := fun w' (hb : Below w.heap.size w w') => h1.up hb
  have QB := fun w' (hb : Below w.heap.size w w') => h2.up hb
  obtain ⟨A1, c1, A2, c2, da, rfl, n1, n2, hda⟩ := h1
  obtain ⟨A3, c3, A4, c4, db, rfl, n3, n4, hdb⟩ := h2
  have s1 := sz_top a; have s2 := sz_den a; have s3 := sz_top b; have s4 := sz_den b
  have k0 := Lib.hid (K3.start w (.bool (ngt a)) (.slice A1 (nd (top a)) c1) (.slice A2 (nd da) c2) (.bool (ngt b)) (.slice A3 (nd (top b)) c3) (.slice A4 (nd db) c4) (.bool false) (.slice none 0 0) (.slice none 0 0) 54)
  obtain ⟨p0, p1, p2, p3, p4, p5⟩ := k0.out.six
  have M1 := fun w' (hb : Below w.heap.size w w') => (rmul_any A1 A3 c1 c3 (top a) (top b) w' (n1.up hb) (n3.up hb) (by omega) (by omega)).mono fun _ _ h => GiveO.n h
  have M2 := fun w' A A' c c' h h' => (rmul_any A A' c c' a.den b.den w' h h' (by omega) (by omega)).mono fun _ _ h => GiveO.n h
  have e1 := nd_mul_le (top a) (top b)
  have e2 := nd_mul_le a.den b.den
  have MK := fun w' A A' c c' h h' => rmake_any (ngt a != ngt b) A A' c c' (top a * top b) (a.den * b.den) w' h h' (by omega) (by omega)
  rw [← mul_is a b] at MK
  obtain ⟨qQ, hq⟩ : ∃ q, a * b = q := ⟨_, rfl⟩
  generalize hm1 : top a * top b = m1 at *
  generalize hm2 : a.den * b.den = m2 at *
  rw [hq] at MK ⊢
  clear hm1 hm2 hq QA QB n1 n2 n3 n4 e1 e2 s1 s2 s3 s4 hs hda hdb
  unfold W3 at k0 p0 p1 p2 p3 p4 p5
  have kd := Lib.hid (k0.out.up (Below.drew (Below.refl _ _)))
  generalize ngt a = x1 at *
  generalize ngt b = x2 at *
  simp only [bne] at MK
  generalize hda : a.den = ea at *
  generalize hdb : b.den = eb at *
  clear hda hdb
  generalize hl1 : nd (top a) = l1 at *
  generalize hl2 : nd (top b) = l2 at *
  generalize hl3 : nd da = l3 at *
  generalize hl4 : nd db = l4 at *
  clear hl1 hl2 hl3 hl4
  clear k0
  go_enter Tryz.func38, Tryz.ntmps38
  go_wp2_with fail
  go_region_held3 (fun w' => w'.cell? ⟨w.heap.size, 0, none⟩ = some (.bool x1) ∧ w'.cell? ⟨w.heap.size, 1, none⟩ = some (.slice A1 l1 c1) ∧ w'.cell? ⟨w.heap.size, 2, none⟩ = some (.slice A2 l3 c2) ∧ w'.cell? ⟨w.heap.size + 1, 0, none⟩ = some (.bool x2) ∧ w'.cell? ⟨w.heap.size + 1, 1, none⟩ = some (.slice A3 l2 c3) ∧ w'.cell? ⟨w.heap.size + 1, 2, none⟩ = some (.slice A4 l4 c4))
    (first | (exact (k5.out.stored _ _ _).six) | (with_reducible exact k5.out.six) | (with_reducible exact k4.out.six) | (with_reducible exact k3.out.six) | (with_reducible exact k2.out.six) | (with_reducible exact k1.out.six) | (with_reducible exact kd.out.six) | go_keep)
    (first
      | (go_at_call 72; go_loud ((with_reducible refine (MK _ _ _ _ _ N5_4.out N8_4.out).mono ?_); rintro e w5 ⟨v, rfl, ⟨AQa, cQa, AQb, cQb, dQ, rfl, n1, n2, hd⟩, hb⟩; have k5 := Lib.hid (k4.out.up hb); have N5_5 := Lib.hid (N5_4.out.up hb); have N6_5 := Lib.hid (N6_4.out.up hb); have N7_5 := Lib.hid (N7_4.out.up hb); have N8_5 := Lib.hid (N8_4.out.up hb); have NQ_5 := Lib.hid (show Qr w5 _ qQ from ⟨AQa, cQa, AQb, cQb, dQ, rfl, n1, n2, hd⟩); obtain ⟨t0, t1, t2, t3, t4, t5⟩ := k5.out.six; obtain ⟨r0, r1, r2⟩ := k5.out.2.2.1.cells; obtain ⟨f0, f1, f2⟩ := k5.out.2.2.1.frozen; clear n1 n2 hd hb))
      | (go_at_call 75; go_loud ((with_reducible refine (M2 _ _ _ _ _ N6_3.out N7_3.out).mono ?_); rintro e w4 ⟨A8, c8, rfl, hN, hb⟩; have k4 := Lib.hid (k3.out.up hb); have N5_4 := Lib.hid (N5_3.out.up hb); have N6_4 := Lib.hid (N6_3.out.up hb); have N7_4 := Lib.hid (N7_3.out.up hb); have N8_4 := Lib.hid hN; obtain ⟨t0, t1, t2, t3, t4, t5⟩ := k4.out.six; obtain ⟨r0, r1, r2⟩ := k4.out.2.2.1.cells; obtain ⟨f0, f1, f2⟩ := k4.out.2.2.1.frozen; clear hN hb))
      | (go_at_call 71; go_loud ((with_reducible refine (DB _ k2.out.b).mono ?_); rintro e w3 ⟨A7, c7, rfl, hN, hb⟩; have k3 := Lib.hid (k2.out.up hb); have N5_3 := Lib.hid (N5_2.out.up hb); have N6_3 := Lib.hid (N6_2.out.up hb); have N7_3 := Lib.hid hN; obtain ⟨t0, t1, t2, t3, t4, t5⟩ := k3.out.six; obtain ⟨r0, r1, r2⟩ := k3.out.2.2.1.cells; obtain ⟨f0, f1, f2⟩ := k3.out.2.2.1.frozen; clear hN hb))
      | (go_at_call 71; go_loud ((with_reducible refine (DA _ k1.out.b).mono ?_); rintro e w2 ⟨A6, c6, rfl, hN, hb⟩; have k2 := Lib.hid (k1.out.up hb); have N5_2 := Lib.hid (N5_1.out.up hb); have N6_2 := Lib.hid hN; obtain ⟨t0, t1, t2, t3, t4, t5⟩ := k2.out.six; obtain ⟨r0, r1, r2⟩ := k2.out.2.2.1.cells; obtain ⟨f0, f1, f2⟩ := k2.out.2.2.1.frozen; clear hN hb))
      | (go_at_call 75; go_loud ((with_reducible refine (M1 _ kd.out.b).mono ?_); rintro e w1 ⟨A5, c5, rfl, hN, hb⟩; have k1 := Lib.hid (kd.out.up hb); have N5_1 := Lib.hid hN; obtain ⟨t0, t1, t2, t3, t4, t5⟩ := k1.out.six; obtain ⟨r0, r1, r2⟩ := k1.out.2.2.1.cells; obtain ⟨f0, f1, f2⟩ := k1.out.2.2.1.frozen; clear hN hb)))
  go_wp2
  refine bodyPost_ret (v := .agg #[.bool (ngt qQ), .slice AQa (nd (top qQ)) cQa, .slice AQb (nd dQ) cQb]) (by simp [results, Tryz.results38, go_sem, r0, r1, r2]) rfl ?_
  exact k5.out.giveQ NQ_5.out

set_option maxRecDepth 100000 in
set_option maxHeartbeats 6400000 in
theorem rquot_any (v1 v2 : Value) (a b : Rat) (w : World) (h1 : Qr w v1 a) (h2 : Qr w v2 b) (hs : sz a + sz b ≤ 390000) :
    Calls Tryz.prog 76 #[v1, v2] w (GiveQ w (a / b)) := by
  have DA := fun w' (hb : Below w.heap.size w w') => rden_any v1 a w' (h1.up hb)
  have DB := fun w' (hb : Below w.heap.size w w') => rden_any v2 b w' (h2.up hb)
  have QA := fun w' (hb : Below w.heap.size w w') => h1.up hb
  have QB := fun w' (hb : Below w.heap.size w w') => h2.up hb
  obtain ⟨A1, c1, A2, c2, da, rfl, n1, n2, hda⟩ := h1
  obtain ⟨A3, c3, A4, c4, db, rfl, n3, n4, hdb⟩ := h2
  have s1 := sz_top a; have s2 := sz_den a; have s3 := sz_top b; have s4 := sz_den b
  have k0 := Lib.hid (K3.start w (.bool (ngt a)) (.slice A1 (nd (top a)) c1) (.slice A2 (nd da) c2) (.bool (ngt b)) (.slice A3 (nd (top b)) c3) (.slice A4 (nd db) c4) (.bool false) (.slice none 0 0) (.slice none 0 0) 54)
  obtain ⟨p0, p1, p2, p3, p4, p5⟩ := k0.out.six
  have M1 := fun w' (hb : Below w.heap.size w w') A' c' h' => (rmul_any A1 A' c1 c' (top a) b.den w' (n1.up hb) h' (by omega) (by omega)).mono fun _ _ h => GiveO.n h
  have M2 := fun w' (hb : Below w.heap.size w w') A c h => (rmul_any A A3 c c3 a.den (top b) w' h (n3.up hb) (by omega) (by omega)).mono fun _ _ h => GiveO.n h
  have e1 := nd_mul_le (top a) b.den
  have e2 := nd_mul_le a.den (top b)
  have MK := fun w' A A' c c' h h' => rmake_any (ngt a != ngt b) A A' c c' (top a * b.den) (a.den * top b) w' h h' (by omega) (by omega)
  rw [← div_all a b] at MK
  obtain ⟨qQ, hq⟩ : ∃ q, a / b = q := ⟨_, rfl⟩
  generalize hm1 : top a * b.den = m1 at *
  generalize hm2 : a.den * top b = m2 at *
  rw [hq] at MK ⊢
  clear hm1 hm2 hq QA QB n1 n2 n3 n4 e1 e2 s1 s2 s3 s4 hs hda hdb
  unfold W3 at k0 p0 p1 p2 p3 p4 p5
  have kd := Lib.hid (k0.out.up (Below.drew (Below.refl _ _)))
  generalize ngt a = x1 at *
  generalize ngt b = x2 at *
  simp only [bne] at MK
  generalize hda : a.den = ea at *
  generalize hdb : b.den = eb at *
  clear hda hdb
  generalize hl1 : nd (top a) = l1 at *
  generalize hl2 : nd (top b) = l2 at *
  generalize hl3 : nd da = l3 at *
  generalize hl4 : nd db = l4 at *
  clear hl1 hl2 hl3 hl4
  clear k0
  go_enter Tryz.func76, Tryz.ntmps76
  go_wp2_with fail
  go_region_held3 (fun w' => w'.cell? ⟨w.heap.size, 0, none⟩ = some (.bool x1) ∧ w'.cell? ⟨w.heap.size, 1, none⟩ = some (.slice A1 l1 c1) ∧ w'.cell? ⟨w.heap.size, 2, none⟩ = some (.slice A2 l3 c2) ∧ w'.cell? ⟨w.heap.size + 1, 0, none⟩ = some (.bool x2) ∧ w'.cell? ⟨w.heap.size + 1, 1, none⟩ = some (.slice A3 l2 c3) ∧ w'.cell? ⟨w.heap.size + 1, 2, none⟩ = some (.slice A4 l4 c4))
    (first | (exact (k5.out.stored _ _ _).six) | (with_reducible exact k5.out.six) | (with_reducible exact k4.out.six) | (with_reducible exact k3.out.six) | (with_reducible exact k2.out.six) | (with_reducible exact k1.out.six) | (with_reducible exact kd.out.six) | go_keep)
    (first
      | (go_at_call 72; go_loud ((with_reducible refine (MK _ _ _ _ _ N5_4.out N8_4.out).mono ?_); rintro e w5 ⟨v, rfl, ⟨AQa, cQa, AQb, cQb, dQ, rfl, n1, n2, hd⟩, hb⟩; have k5 := Lib.hid (k4.out.up hb); have N7_5 := Lib.hid (N7_4.out.up hb); have N5_5 := Lib.hid (N5_4.out.up hb); have N6_5 := Lib.hid (N6_4.out.up hb); have N8_5 := Lib.hid (N8_4.out.up hb); have NQ_5 := Lib.hid (show Qr w5 _ qQ from ⟨AQa, cQa, AQb, cQb, dQ, rfl, n1, n2, hd⟩); obtain ⟨t0, t1, t2, t3, t4, t5⟩ := k5.out.six; obtain ⟨r0, r1, r2⟩ := k5.out.2.2.1.cells; obtain ⟨f0, f1, f2⟩ := k5.out.2.2.1.frozen; clear n1 n2 hd hb))
      | (go_at_call 75; go_loud ((with_reducible refine (M2 _ k3.out.b _ _ N6_3.out).mono ?_); rintro e w4 ⟨A8, c8, rfl, hN, hb⟩; have k4 := Lib.hid (k3.out.up hb); have N7_4 := Lib.hid (N7_3.out.up hb); have N5_4 := Lib.hid (N5_3.out.up hb); have N6_4 := Lib.hid (N6_3.out.up hb); have N8_4 := Lib.hid hN; obtain ⟨t0, t1, t2, t3, t4, t5⟩ := k4.out.six; obtain ⟨r0, r1, r2⟩ := k4.out.2.2.1.cells; obtain ⟨f0, f1, f2⟩ := k4.out.2.2.1.frozen; clear hN hb))
      | (go_at_call 71; go_loud ((with_reducible refine (DA _ k2.out.b).mono ?_); rintro e w3 ⟨A6, c6, rfl, hN, hb⟩; have k3 := Lib.hid (k2.out.up hb); have N7_3 := Lib.hid (N7_2.out.up hb); have N5_3 := Lib.hid (N5_2.out.up hb); have N6_3 := Lib.hid hN; obtain ⟨t0, t1, t2, t3, t4, t5⟩ := k3.out.six; obtain ⟨r0, r1, r2⟩ := k3.out.2.2.1.cells; obtain ⟨f0, f1, f2⟩ := k3.out.2.2.1.frozen; clear hN hb))
      | (go_at_call 75; go_loud ((with_reducible refine (M1 _ k1.out.b _ _ N7_1.out).mono ?_); rintro e w2 ⟨A5, c5, rfl, hN, hb⟩; have k2 := Lib.hid (k1.out.up hb); have N7_2 := Lib.hid (N7_1.out.up hb); have N5_2 := Lib.hid hN; obtain ⟨t0, t1, t2, t3, t4, t5⟩ := k2.out.six; obtain ⟨r0, r1, r2⟩ := k2.out.2.2.1.cells; obtain ⟨f0, f1, f2⟩ := k2.out.2.2.1.frozen; clear hN hb))
      | (go_at_call 71; go_loud ((with_reducible refine (DB _ kd.out.b).mono ?_); rintro e w1 ⟨A7, c7, rfl, hN, hb⟩; have k1 := Lib.hid (kd.out.up hb); have N7_1 := Lib.hid hN; obtain ⟨t0, t1, t2, t3, t4, t5⟩ := k1.out.six; obtain ⟨r0, r1, r2⟩ := k1.out.2.2.1.cells; obtain ⟨f0, f1, f2⟩ := k1.out.2.2.1.frozen; clear hN hb)))
  go_wp2
  refine bodyPost_ret (v := .agg #[.bool (ngt qQ), .slice AQa (nd (top qQ)) cQa, .slice AQb (nd dQ) cQb]) (by simp [results, Tryz.results76, go_sem, r0, r1, r2]) rfl ?_
  exact k5.out.giveQ NQ_5.out

end Go.Proofs.YthjnmnepjeegiaaGreatDoor

/- Fractions of the reference: Plus, Minus, Cmp. -/
namespace Go.Proofs.YthjnmnepjeegiaaGreatDoor
open Go.RowKit Go.Proofs.YthjnmnepjeegiaaGreatDoor.Dg Go.Proofs.YthjnmnepjeegiaaGreatDoor.Q

end Go.Proofs.YthjnmnepjeegiaaGreatDoor
