/- Fractions of the program: Mul, Div. Fractions of the program: Add. Fractions of the program: Minus, Sub, Sign, Cmp, Int. Fractions of the program: Floor. Fractions of the program: their texts. Fractions of the program: plain, ReadLong, Read. Fractions of the program: ReadLong where it reads, Read. Fractions of the program: ReadLong of texts with a denominator. Fractions of the program: ReadLong at any short text; Read at any text. -/
import Derived.Test.YthjnmnepjeegiaaGreatDoorG4
import Derived.Deep.RegionHeld3
/- Fractions of the program: Mul, Div. -/
namespace Go.Proofs.YthjnmnepjeegiaaGreatDoor
open Go.RowKit Go.Proofs.YthjnmnepjeegiaaGreatDoor.Dg Go.Proofs.YthjnmnepjeegiaaGreatDoor.Q

/-- The world behind two boxes and a result. -/
def W3 (w : World) (a0 a1 a2 b0 b1 b2 c0 c1 c2 : Value) (t : TypeId) : World := ((w.alloc (.cells #[a0, a1, a2] t)).alloc (.cells #[b0, b1, b2] t)).alloc (.cells #[c0, c1, c2] t)
theorem W3_size (w : World) (a0 a1 a2 b0 b1 b2 c0 c1 c2 : Value) (t : TypeId) : (W3 w a0 a1 a2 b0 b1 b2 c0 c1 c2 t).heap.size = w.heap.size + 3 := by simp [W3]
theorem W3_below (w : World) (a0 a1 a2 b0 b1 b2 c0 c1 c2 : Value) (t : TypeId) : Below w.heap.size w (W3 w a0 a1 a2 b0 b1 b2 c0 c1 c2 t) :=
  (((Below.refl _ w).alloc (Nat.le_refl _) _).alloc (by simp) _).alloc (by simp; omega) _
theorem W3_rs (w : World) (a0 a1 a2 b0 b1 b2 c0 c1 c2 : Value) (t : TypeId) : Rs (W3 w a0 a1 a2 b0 b1 b2 c0 c1 c2 t) w.heap.size a0 a1 a2 t ∧ Rs (W3 w a0 a1 a2 b0 b1 b2 c0 c1 c2 t) (w.heap.size + 1) b0 b1 b2 t ∧ Rs (W3 w a0 a1 a2 b0 b1 b2 c0 c1 c2 t) (w.heap.size + 2) c0 c1 c2 t := by
  unfold Rs W3
  have s1 : (w.alloc (.cells #[a0, a1, a2] t)).heap.size = w.heap.size + 1 := by simp
  have s2 : ((w.alloc (.cells #[a0, a1, a2] t)).alloc (.cells #[b0, b1, b2] t)).heap.size = w.heap.size + 2 := by simp
  refine ⟨?_, ?_, ?_⟩
  · rw [Deep.blk_alloc_lt _ _ _ (by rw [s2]; omega), Deep.blk_alloc_lt _ _ _ (by rw [s1]; omega)]; exact Deep.blk_alloc_new _ _
  · rw [Deep.blk_alloc_lt _ _ _ (by rw [s2]; omega), ← s1]; exact Deep.blk_alloc_new _ _
  · rw [← s2]; exact Deep.blk_alloc_new _ _
/-- What a later world keeps of the boxes and the result. -/
def K3 (w w' : World) (a0 a1 a2 b0 b1 b2 c0 c1 c2 : Value) (t : TypeId) : Prop := Rs w' w.heap.size a0 a1 a2 t ∧ Rs w' (w.heap.size + 1) b0 b1 b2 t ∧ Rs w' (w.heap.size + 2) c0 c1 c2 t ∧ w.heap.size + 3 ≤ w'.heap.size ∧ Below w.heap.size w w'
theorem K3.start (w : World) (a0 a1 a2 b0 b1 b2 c0 c1 c2 : Value) (t : TypeId) : K3 w (W3 w a0 a1 a2 b0 b1 b2 c0 c1 c2 t) a0 a1 a2 b0 b1 b2 c0 c1 c2 t := by
  obtain ⟨h1, h2, h3⟩ := W3_rs w a0 a1 a2 b0 b1 b2 c0 c1 c2 t
  exact ⟨h1, h2, h3, Nat.le_of_eq (W3_size ..).symm, W3_below ..⟩
theorem K3.up {w w1 w2 : World} {a0 a1 a2 b0 b1 b2 c0 c1 c2 : Value} {t : TypeId} (h : K3 w w1 a0 a1 a2 b0 b1 b2 c0 c1 c2 t) (hb : Below w1.heap.size w1 w2) : K3 w w2 a0 a1 a2 b0 b1 b2 c0 c1 c2 t := by
  obtain ⟨h1, h2, h3, h4, h5⟩ := h
  exact ⟨h1.below hb (by omega), h2.below hb (by omega), h3.below hb (by omega), Nat.le_trans h4 hb.size, btrans h5 hb⟩
theorem K3.six {w w' : World} {a0 a1 a2 b0 b1 b2 c0 c1 c2 : Value} {t : TypeId} (h : K3 w w' a0 a1 a2 b0 b1 b2 c0 c1 c2 t) :
    w'.cell? ⟨w.heap.size, 0, none⟩ = some a0 ∧ w'.cell? ⟨w.heap.size, 1, none⟩ = some a1 ∧ w'.cell? ⟨w.heap.size, 2, none⟩ = some a2 ∧ w'.cell? ⟨w.heap.size + 1, 0, none⟩ = some b0 ∧ w'.cell? ⟨w.heap.size + 1, 1, none⟩ = some b1 ∧ w'.cell? ⟨w.heap.size + 1, 2, none⟩ = some b2 := by
  obtain ⟨p0, p1, p2⟩ := h.1.cells
  obtain ⟨q0, q1, q2⟩ := h.2.1.cells
  exact ⟨p0, p1, p2, q0, q1, q2⟩

theorem Rs.put3_other {w : World} {g h : Nat} {a b c x y z : Value} {t : TypeId} (k : Rs w g a b c t) (hne : g ≠ h) : Rs (put3 w h x y z) g a b c t := (put3_block w h x y z hne).trans k
theorem Rs.put3_same {w : World} {g : Nat} {a b c x y z : Value} {t : TypeId} (k : Rs w g a b c t) : Rs (put3 w g x y z) g x y z t := by
  unfold Rs at *
  simp [put3, World.setCell, Array.getElem?_modify, k]
theorem K3.stored {w w' : World} {a0 a1 a2 b0 b1 b2 c0 c1 c2 : Value} {t : TypeId} (h : K3 w w' a0 a1 a2 b0 b1 b2 c0 c1 c2 t) (x y z : Value) : K3 w (put3 w' (w.heap.size + 2) x y z) a0 a1 a2 b0 b1 b2 x y z t := by
  obtain ⟨h1, h2, h3, h4, h5⟩ := h
  exact ⟨h1.put3_other (by omega), h2.put3_other (by omega), h3.put3_same, by rw [put3_size]; exact h4, put3_below h5 (by omega)⟩

theorem K3.give {w w' : World} {a0 a1 a2 b0 b1 b2 : Value} {t : TypeId} {q : Rat} {A A' : Option Addr} {c c' : Nat} (h : K3 w w' a0 a1 a2 b0 b1 b2 (.bool false) (.slice none 0 0) (.slice none 0 0) t)
    (n1 : Nt .u32 w' w'.heap.size A c (top q)) (n2 : Nt .u32 w' w'.heap.size A' c' q.den) :
    GiveF w q (.returned (.agg #[.bool (ngt q), .slice A (nd (top q)) c, .slice A' (nd q.den) c'])) (put3 w' (w.heap.size + 2) (.bool (ngt q)) (.slice A (nd (top q)) c) (.slice A' (nd q.den) c')) :=
  ⟨_, rfl, ⟨A, c, A', c', rfl, n1.put3 h.2.2.1 rfl rfl rfl, n2.put3 h.2.2.1 rfl rfl rfl⟩, (h.stored _ _ _).2.2.2.2⟩

set_option maxRecDepth 100000 in
set_option maxHeartbeats 6400000 in
theorem fmul_any (v1 v2 : Value) (a b : Rat) (w : World) (h1 : Fr w v1 a) (h2 : Fr w v2 b) (hs : sz a + sz b ≤ 700000) :
    Calls Tryz.prog 11 #[v1, v2] w (GiveF w (a * b)) := by
  obtain ⟨A1, c1, A2, c2, rfl, n1, n2⟩ := h1
  obtain ⟨A3, c3, A4, c4, rfl, n3, n4⟩ := h2
  have s1 := sz_top a; have s2 := sz_den a; have s3 := sz_top b; have s4 := sz_den b
  have k0 := Lib.hid (K3.start w (.bool (ngt a)) (.slice A1 (nd (top a)) c1) (.slice A2 (nd a.den) c2) (.bool (ngt b)) (.slice A3 (nd (top b)) c3) (.slice A4 (nd b.den) c4) (.bool false) (.slice none 0 0) (.slice none 0 0) 41)
  obtain ⟨p0, p1, p2, p3, p4, p5⟩ := k0.out.six
  have kd := Lib.hid (k0.out.up (below_drewN (Below.refl _ _) 1))
  have M1 := fun w' (hb : Below w.heap.size w w') => mul_any A1 A3 c1 c3 (top a) (top b) w' (n1.up hb) (n3.up hb) (by omega) (by omega)
  have M2 := fun w' (hb : Below w.heap.size w w') => mul_any A2 A4 c2 c4 a.den b.den w' (n2.up hb) (n4.up hb) (by omega) (by omega)
  have e1 := nd_mul_le (top a) (top b)
  have e2 := nd_mul_le a.den b.den
  have hd0 : a.den * b.den ≠ 0 := Nat.mul_ne_zero a.den_nz b.den_nz
  have MK := fun w' A A' c c' h h' => make_any (ngt a != ngt b) A A' c c' (top a * top b) (a.den * b.den) hd0 w' h h' (by omega) (by omega)
  rw [← mul_is a b] at MK
  clear n1 n2 n3 n4 e1 e2 hd0 s1 s2 s3 s4 hs
  unfold W3 at p0 p1 p2 p3 p4 p5 kd
  clear k0
  generalize a * b = q at *
  generalize ngt a = x1 at *
  generalize ngt b = x2 at *
  generalize top a * top b = nn at *
  generalize a.den * b.den = dd at *
  generalize nd (top a) = l1 at *
  generalize nd (top b) = l2 at *
  generalize nd a.den = l3 at *
  generalize nd b.den = l4 at *
  go_enter Tryz.func11, Tryz.ntmps11
  go_wp2_with fail
  go_region_held3 (fun w' => w'.cell? ⟨w.heap.size, 0, none⟩ = some (.bool x1) ∧ w'.cell? ⟨w.heap.size, 1, none⟩ = some (.slice A1 l1 c1) ∧ w'.cell? ⟨w.heap.size, 2, none⟩ = some (.slice A2 l3 c2) ∧ w'.cell? ⟨w.heap.size + 1, 0, none⟩ = some (.bool x2) ∧ w'.cell? ⟨w.heap.size + 1, 1, none⟩ = some (.slice A3 l2 c3) ∧ w'.cell? ⟨w.heap.size + 1, 2, none⟩ = some (.slice A4 l4 c4))
    (first | exact (k3.out.stored _ _ _).six | exact k3.out.six | exact k2.out.six | exact k1.out.six | go_keep)
    (first
      | (go_at_call 31; refine (MK _ _ _ _ _ (N1.out.up B2.out) N2.out).mono ?_; rintro e w3 ⟨v, rfl, ⟨A7, c7, A8, c8, rfl, n7, n8⟩, hb⟩; have k3 := Lib.hid (k2.out.up hb); have N7 := Lib.hid n7; have N8 := Lib.hid n8; obtain ⟨r0, r1, r2⟩ := k3.out.2.2.1.cells; obtain ⟨f0, f1, f2⟩ := k3.out.2.2.1.frozen; clear n7 n8 hb)
      | (go_at_call 32; refine (M2 _ k1.out.2.2.2.2).mono ?_; rintro e w2 ⟨A6, c6, rfl, hN, hb⟩; have k2 := Lib.hid (k1.out.up hb); have N2 := Lib.hid hN; have B2 := Lib.hid hb; clear hN hb)
      | (go_at_call 32; refine (M1 _ kd.out.2.2.2.2).mono ?_; rintro e w1 ⟨A5, c5, rfl, hN, hb⟩; have k1 := Lib.hid (kd.out.up hb); have N1 := Lib.hid hN; clear hN hb))
  go_wp2
  refine bodyPost_ret (v := .agg #[.bool (ngt q), .slice A7 (nd (top q)) c7, .slice A8 (nd q.den) c8]) (by simp [results, Tryz.results11, go_sem, r0, r1, r2]) rfl ?_
  exact k3.out.give N7.out N8.out

set_option maxRecDepth 100000 in
set_option maxHeartbeats 6400000 in
theorem fdiv_any (v1 v2 : Value) (a b : Rat) (w : World) (h1 : Fr w v1 a) (h2 : Fr w v2 b) (hb0 : b ≠ 0) (hs : sz a + sz b ≤ 700000) :
    Calls Tryz.prog 33 #[v1, v2] w (GiveF w (a / b)) := by
  obtain ⟨A1, c1, A2, c2, rfl, n1, n2⟩ := h1
  obtain ⟨A3, c3, A4, c4, rfl, n3, n4⟩ := h2
  have s1 := sz_top a; have s2 := sz_den a; have s3 := sz_top b; have s4 := sz_den b
  have k0 := Lib.hid (K3.start w (.bool (ngt a)) (.slice A1 (nd (top a)) c1) (.slice A2 (nd a.den) c2) (.bool (ngt b)) (.slice A3 (nd (top b)) c3) (.slice A4 (nd b.den) c4) (.bool false) (.slice none 0 0) (.slice none 0 0) 41)
  obtain ⟨p0, p1, p2, p3, p4, p5⟩ := k0.out.six
  have kd := Lib.hid (k0.out.up (below_drewN (Below.refl _ _) 1))
  have M1 := fun w' (hb : Below w.heap.size w w') => mul_any A1 A4 c1 c4 (top a) b.den w' (n1.up hb) (n4.up hb) (by omega) (by omega)
  have M2 := fun w' (hb : Below w.heap.size w w') => mul_any A2 A3 c2 c3 a.den (top b) w' (n2.up hb) (n3.up hb) (by omega) (by omega)
  have e1 := nd_mul_le (top a) b.den
  have e2 := nd_mul_le a.den (top b)
  have hd0 : a.den * top b ≠ 0 := Nat.mul_ne_zero a.den_nz (fun e => hb0 (top_zero.1 e))
  have MK := fun w' A A' c c' h h' => make_any (ngt a != ngt b) A A' c c' (top a * b.den) (a.den * top b) hd0 w' h h' (by omega) (by omega)
  rw [← div_is (a := a) hb0] at MK
  clear hb0 n1 n2 n3 n4 e1 e2 hd0 s1 s2 s3 s4 hs
  unfold W3 at p0 p1 p2 p3 p4 p5 kd
  clear k0
  generalize a / b = q at *
  generalize ngt a = x1 at *
  generalize ngt b = x2 at *
  generalize top a * b.den = nn at *
  generalize a.den * top b = dd at *
  generalize nd (top a) = l1 at *
  generalize nd (top b) = l2 at *
  generalize nd a.den = l3 at *
  generalize nd b.den = l4 at *
  go_enter Tryz.func33, Tryz.ntmps33
  go_wp2_with fail
  go_region_held3 (fun w' => w'.cell? ⟨w.heap.size, 0, none⟩ = some (.bool x1) ∧ w'.cell? ⟨w.heap.size, 1, none⟩ = some (.slice A1 l1 c1) ∧ w'.cell? ⟨w.heap.size, 2, none⟩ = some (.slice A2 l3 c2) ∧ w'.cell? ⟨w.heap.size + 1, 0, none⟩ = some (.bool x2) ∧ w'.cell? ⟨w.heap.size + 1, 1, none⟩ = some (.slice A3 l2 c3) ∧ w'.cell? ⟨w.heap.size + 1, 2, none⟩ = some (.slice A4 l4 c4))
    (first | exact (k3.out.stored _ _ _).six | exact k3.out.six | exact k2.out.six | exact k1.out.six | go_keep)
    (first
      | (go_at_call 31; refine (MK _ _ _ _ _ (N1.out.up B2.out) N2.out).mono ?_; rintro e w3 ⟨v, rfl, ⟨A7, c7, A8, c8, rfl, n7, n8⟩, hb⟩; have k3 := Lib.hid (k2.out.up hb); have N7 := Lib.hid n7; have N8 := Lib.hid n8; obtain ⟨r0, r1, r2⟩ := k3.out.2.2.1.cells; obtain ⟨f0, f1, f2⟩ := k3.out.2.2.1.frozen; clear n7 n8 hb)
      | (go_at_call 32; refine (M2 _ k1.out.2.2.2.2).mono ?_; rintro e w2 ⟨A6, c6, rfl, hN, hb⟩; have k2 := Lib.hid (k1.out.up hb); have N2 := Lib.hid hN; have B2 := Lib.hid hb; clear hN hb)
      | (go_at_call 32; refine (M1 _ kd.out.2.2.2.2).mono ?_; rintro e w1 ⟨A5, c5, rfl, hN, hb⟩; have k1 := Lib.hid (kd.out.up hb); have N1 := Lib.hid hN; clear hN hb))
  go_wp2
  refine bodyPost_ret (v := .agg #[.bool (ngt q), .slice A7 (nd (top q)) c7, .slice A8 (nd q.den) c8]) (by simp [results, Tryz.results33, go_sem, r0, r1, r2]) rfl ?_
  exact k3.out.give N7.out N8.out

end Go.Proofs.YthjnmnepjeegiaaGreatDoor

/- Fractions of the program: Add. -/
namespace Go.Proofs.YthjnmnepjeegiaaGreatDoor
open Go.RowKit Go.Proofs.YthjnmnepjeegiaaGreatDoor.Dg Go.Proofs.YthjnmnepjeegiaaGreatDoor.Q

set_option maxRecDepth 100000 in
set_option maxHeartbeats 6400000 in
theorem fadd_same (v1 v2 : Value) (a b : Rat) (w : World) (h1 : Fr w v1 a) (h2 : Fr w v2 b) (hs : sz a + sz b ≤ 700000) (hsg : ngt a = ngt b) :
    Calls Tryz.prog 44 #[v1, v2] w (GiveF w (a + b)) := by
  obtain ⟨A1, c1, A2, c2, rfl, n1, n2⟩ := h1
  obtain ⟨A3, c3, A4, c4, rfl, n3, n4⟩ := h2
  have s1 := sz_top a; have s2 := sz_den a; have s3 := sz_top b; have s4 := sz_den b
  have M1 := fun w' (hb : Below w.heap.size w w') => mul_any A1 A4 c1 c4 (top a) b.den w' (n1.up hb) (n4.up hb) (by omega) (by omega)
  have M2 := fun w' (hb : Below w.heap.size w w') => mul_any A3 A2 c3 c2 (top b) a.den w' (n3.up hb) (n2.up hb) (by omega) (by omega)
  have M3 := fun w' (hb : Below w.heap.size w w') => mul_any A2 A4 c2 c4 a.den b.den w' (n2.up hb) (n4.up hb) (by omega) (by omega)
  have e1 := nd_mul_le (top a) b.den
  have e2 := nd_mul_le (top b) a.den
  have e3 := nd_mul_le a.den b.den
  have e4 := nd_add_le (top a * b.den) (top b * a.den)
  have e5 := nd_mono (Nat.sub_le (top a * b.den) (top b * a.den))
  have e6 := nd_mono (Nat.sub_le (top b * a.den) (top a * b.den))
  have hd0 : a.den * b.den ≠ 0 := Nat.mul_ne_zero a.den_nz b.den_nz
  have MK := fun w' A A' c c' h h' => make_any (ngt a) A A' c c' (top a * b.den + top b * a.den) (a.den * b.den) hd0 w' h h' (by omega) (by omega)
  rw [← Q.add_same hsg] at MK
  have OP := fun w' A A' c c' h h' => (add_any A A' c c' (top a * b.den) (top b * a.den) w' h h' (by omega) (by omega)).mono fun _ _ h => GiveO.n h
  rw [← hsg]
  have k0 := Lib.hid (K3.start w (.bool (ngt a)) (.slice A1 (nd (top a)) c1) (.slice A2 (nd a.den) c2) (.bool (ngt a)) (.slice A3 (nd (top b)) c3) (.slice A4 (nd b.den) c4) (.bool false) (.slice none 0 0) (.slice none 0 0) 41)
  obtain ⟨p0, p1, p2, p3, p4, p5⟩ := k0.out.six
  have kd := Lib.hid (k0.out.up (below_drewN (Below.refl _ _) 1))
  clear n1 n2 n3 n4 e1 e2 e3 e4 e5 e6 hd0 s1 s2 s3 s4 hs hsg
  unfold W3 at p0 p1 p2 p3 p4 p5 kd
  clear k0
  generalize a + b = q at *
  generalize ngt a = x1 at *
  generalize top a * b.den + top b * a.den = op at *
  generalize top a * b.den = m1 at *
  generalize top b * a.den = m2 at *
  generalize a.den * b.den = dd at *
  generalize nd (top a) = l1 at *
  generalize nd (top b) = l2 at *
  generalize nd a.den = l3 at *
  generalize nd b.den = l4 at *
  go_enter Tryz.func44, Tryz.ntmps44
  go_wp2_with fail
  go_region_held3 (fun w' => w'.cell? ⟨w.heap.size, 0, none⟩ = some (.bool x1) ∧ w'.cell? ⟨w.heap.size, 1, none⟩ = some (.slice A1 l1 c1) ∧ w'.cell? ⟨w.heap.size, 2, none⟩ = some (.slice A2 l3 c2) ∧ w'.cell? ⟨w.heap.size + 1, 0, none⟩ = some (.bool x1) ∧ w'.cell? ⟨w.heap.size + 1, 1, none⟩ = some (.slice A3 l2 c3) ∧ w'.cell? ⟨w.heap.size + 1, 2, none⟩ = some (.slice A4 l4 c4))
    (first | exact k2.out.six | exact k1.out.six | go_keep)
    (first
      | (go_at_call 32; refine (M2 _ k1.out.2.2.2.2).mono ?_; rintro e w2 ⟨A6, c6, rfl, hN, hb⟩; have k2 := Lib.hid (k1.out.up hb); have N2 := Lib.hid hN; have B2 := Lib.hid hb; clear hN hb)
      | (go_at_call 32; refine (M1 _ kd.out.2.2.2.2).mono ?_; rintro e w1 ⟨A5, c5, rfl, hN, hb⟩; have k1 := Lib.hid (kd.out.up hb); have N1 := Lib.hid hN; clear hN hb))
  obtain ⟨q0, q1, q2, q3, q4, q5⟩ := k2.out.six
  have N1' := Lib.hid (N1.out.up B2.out)
  clear N1 k1 kd p0 p1 p2 p3 p4 p5 B2
  go_wp2_with (first
    | (go_at_call 32; go_loud (refine (M3 _ k2.out.2.2.2.2).mono ?_; rintro e w3 ⟨A7, c7, rfl, hN, hb⟩; have k3 := Lib.hid (k2.out.up hb); have N3 := Lib.hid hN; have N1'' := Lib.hid (N1'.out.up hb); have N2' := Lib.hid (N2.out.up hb); obtain ⟨t0, t1, t2, t3, t4, t5⟩ := k3.out.six; clear hN hb)))
  have kd := Lib.hid (k3.out.up (below_drewN (Below.refl _ _) 1))
  have na := Lib.hid (N1''.out.drewN 1)
  have nb := Lib.hid (N2'.out.drewN 1)
  have nc := Lib.hid (N3.out.drewN 1)
  go_region_held3 (fun w' => w'.cell? ⟨w.heap.size, 0, none⟩ = some (.bool x1) ∧ w'.cell? ⟨w.heap.size, 1, none⟩ = some (.slice A1 l1 c1) ∧ w'.cell? ⟨w.heap.size, 2, none⟩ = some (.slice A2 l3 c2) ∧ w'.cell? ⟨w.heap.size + 1, 0, none⟩ = some (.bool x1) ∧ w'.cell? ⟨w.heap.size + 1, 1, none⟩ = some (.slice A3 l2 c3) ∧ w'.cell? ⟨w.heap.size + 1, 2, none⟩ = some (.slice A4 l4 c4))
    (first | exact (k6.out.stored _ _ _).six | exact k6.out.six | exact k5.out.six | go_keep)
    (first
      | (go_at_call 31; refine (MK _ _ _ _ _ NO.out (nc.out.up BO.out)).mono ?_; rintro e w6 ⟨v, rfl, ⟨A9, c9, A10, c10, rfl, n9, n10⟩, hb⟩; have k6 := Lib.hid (k5.out.up hb); have N9 := Lib.hid n9; have N10 := Lib.hid n10; obtain ⟨r0, r1, r2⟩ := k6.out.2.2.1.cells; obtain ⟨f0, f1, f2⟩ := k6.out.2.2.1.frozen; clear n9 n10 hb)
      | (go_at_call 78; refine (OP _ _ _ _ _ na.out nb.out).mono ?_; rintro e w5 ⟨A8, c8, rfl, hN, hb⟩; have k5 := Lib.hid (kd.out.up hb); have NO := Lib.hid hN; have BO := Lib.hid hb; clear hN hb))
  go_wp2
  refine bodyPost_ret (v := .agg #[.bool (ngt q), .slice A9 (nd (top q)) c9, .slice A10 (nd q.den) c10]) (by simp [results, Tryz.results44, go_sem, r0, r1, r2]) rfl ?_
  exact k6.out.give N9.out N10.out

set_option maxRecDepth 100000 in
set_option maxHeartbeats 6400000 in
theorem fadd_ge (v1 v2 : Value) (a b : Rat) (w : World) (h1 : Fr w v1 a) (h2 : Fr w v2 b) (hs : sz a + sz b ≤ 700000) (hsg : ngt a ≠ ngt b) (hl : top b * a.den ≤ top a * b.den) :
    Calls Tryz.prog 44 #[v1, v2] w (GiveF w (a + b)) := by
  obtain ⟨A1, c1, A2, c2, rfl, n1, n2⟩ := h1
  obtain ⟨A3, c3, A4, c4, rfl, n3, n4⟩ := h2
  have s1 := sz_top a; have s2 := sz_den a; have s3 := sz_top b; have s4 := sz_den b
  have M1 := fun w' (hb : Below w.heap.size w w') => mul_any A1 A4 c1 c4 (top a) b.den w' (n1.up hb) (n4.up hb) (by omega) (by omega)
  have M2 := fun w' (hb : Below w.heap.size w w') => mul_any A3 A2 c3 c2 (top b) a.den w' (n3.up hb) (n2.up hb) (by omega) (by omega)
  have M3 := fun w' (hb : Below w.heap.size w w') => mul_any A2 A4 c2 c4 a.den b.den w' (n2.up hb) (n4.up hb) (by omega) (by omega)
  have e1 := nd_mul_le (top a) b.den
  have e2 := nd_mul_le (top b) a.den
  have e3 := nd_mul_le a.den b.den
  have e4 := nd_add_le (top a * b.den) (top b * a.den)
  have e5 := nd_mono (Nat.sub_le (top a * b.den) (top b * a.den))
  have e6 := nd_mono (Nat.sub_le (top b * a.den) (top a * b.den))
  have hd0 : a.den * b.den ≠ 0 := Nat.mul_ne_zero a.den_nz b.den_nz
  have MK := fun w' A A' c c' h h' => make_any (ngt a) A A' c c' (top a * b.den - top b * a.den) (a.den * b.den) hd0 w' h h' (by omega) (by omega)
  rw [← Q.add_ge hsg hl] at MK
  have OP := fun w' A A' c c' h h' => sub_any A A' c c' (top a * b.den) (top b * a.den) w' h h' hl (by omega)
  have CP := fun w' A A' c c' h h' => cmp_any A A' c c' (top a * b.den) (top b * a.den) w' h h' (by omega)
  obtain ⟨z, hz⟩ : ∃ z, cmpN (top a * b.den) (top b * a.den) = z := ⟨_, rfl⟩
  have hz0 : 0 ≤ z := by have := cmpN_neg (a := top a * b.den) (b := top b * a.den); rw [hz] at this; omega
  rw [hz] at CP
  have hsg' : (ngt a == ngt b) = false := by rw [beq_eq_false_iff_ne]; exact hsg
  have k0 := Lib.hid (K3.start w (.bool (ngt a)) (.slice A1 (nd (top a)) c1) (.slice A2 (nd a.den) c2) (.bool (ngt b)) (.slice A3 (nd (top b)) c3) (.slice A4 (nd b.den) c4) (.bool false) (.slice none 0 0) (.slice none 0 0) 41)
  obtain ⟨p0, p1, p2, p3, p4, p5⟩ := k0.out.six
  have kd := Lib.hid (k0.out.up (below_drewN (Below.refl _ _) 1))
  clear n1 n2 n3 n4 e1 e2 e3 e4 e5 e6 hd0 s1 s2 s3 s4 hs hsg hl hz
  unfold W3 at p0 p1 p2 p3 p4 p5 kd
  clear k0
  generalize a + b = q at *
  generalize ngt a = x1 at *
  generalize ngt b = x2 at *
  generalize top a * b.den - top b * a.den = op at *
  generalize top a * b.den = m1 at *
  generalize top b * a.den = m2 at *
  generalize a.den * b.den = dd at *
  generalize nd (top a) = l1 at *
  generalize nd (top b) = l2 at *
  generalize nd a.den = l3 at *
  generalize nd b.den = l4 at *
  go_enter Tryz.func44, Tryz.ntmps44
  go_wp2_with fail
  go_region_held3 (fun w' => w'.cell? ⟨w.heap.size, 0, none⟩ = some (.bool x1) ∧ w'.cell? ⟨w.heap.size, 1, none⟩ = some (.slice A1 l1 c1) ∧ w'.cell? ⟨w.heap.size, 2, none⟩ = some (.slice A2 l3 c2) ∧ w'.cell? ⟨w.heap.size + 1, 0, none⟩ = some (.bool x2) ∧ w'.cell? ⟨w.heap.size + 1, 1, none⟩ = some (.slice A3 l2 c3) ∧ w'.cell? ⟨w.heap.size + 1, 2, none⟩ = some (.slice A4 l4 c4))
    (first | exact k2.out.six | exact k1.out.six | go_keep)
    (first
      | (go_at_call 32; refine (M2 _ k1.out.2.2.2.2).mono ?_; rintro e w2 ⟨A6, c6, rfl, hN, hb⟩; have k2 := Lib.hid (k1.out.up hb); have N2 := Lib.hid hN; have B2 := Lib.hid hb; clear hN hb)
      | (go_at_call 32; refine (M1 _ kd.out.2.2.2.2).mono ?_; rintro e w1 ⟨A5, c5, rfl, hN, hb⟩; have k1 := Lib.hid (kd.out.up hb); have N1 := Lib.hid hN; clear hN hb))
  obtain ⟨q0, q1, q2, q3, q4, q5⟩ := k2.out.six
  have N1' := Lib.hid (N1.out.up B2.out)
  clear N1 k1 kd p0 p1 p2 p3 p4 p5 B2
  go_wp2_with (first
    | (go_at_call 79; go_loud (refine (CP _ _ _ _ _ N1''.out N2'.out).mono ?_; rintro e w4 ⟨rfl, qq, rfl⟩; have k4 := Lib.hid (k3.out.up (below_drewN (Below.refl _ _) qq)); obtain ⟨t0, t1, t2, t3, t4, t5⟩ := k4.out.six; have N1c := Lib.hid (N1''.out.drewN qq); have N2c := Lib.hid (N2'.out.drewN qq); have N3c := Lib.hid (N3.out.drewN qq)))
    | (go_at_call 32; go_loud (refine (M3 _ k2.out.2.2.2.2).mono ?_; rintro e w3 ⟨A7, c7, rfl, hN, hb⟩; have k3 := Lib.hid (k2.out.up hb); have N3 := Lib.hid hN; have N1'' := Lib.hid (N1'.out.up hb); have N2' := Lib.hid (N2.out.up hb); obtain ⟨t0, t1, t2, t3, t4, t5⟩ := k3.out.six; clear hN hb)))
  have kd := Lib.hid (k4.out.up (below_drewN (Below.refl _ _) 1))
  have na := Lib.hid (N1c.out.drewN 1)
  have nb := Lib.hid (N2c.out.drewN 1)
  have nc := Lib.hid (N3c.out.drewN 1)
  go_region_held3 (fun w' => w'.cell? ⟨w.heap.size, 0, none⟩ = some (.bool x1) ∧ w'.cell? ⟨w.heap.size, 1, none⟩ = some (.slice A1 l1 c1) ∧ w'.cell? ⟨w.heap.size, 2, none⟩ = some (.slice A2 l3 c2) ∧ w'.cell? ⟨w.heap.size + 1, 0, none⟩ = some (.bool x2) ∧ w'.cell? ⟨w.heap.size + 1, 1, none⟩ = some (.slice A3 l2 c3) ∧ w'.cell? ⟨w.heap.size + 1, 2, none⟩ = some (.slice A4 l4 c4))
    (first | exact (k6.out.stored _ _ _).six | exact k6.out.six | exact k5.out.six | go_keep)
    (first
      | (go_at_call 31; refine (MK _ _ _ _ _ NO.out (nc.out.up BO.out)).mono ?_; rintro e w6 ⟨v, rfl, ⟨A9, c9, A10, c10, rfl, n9, n10⟩, hb⟩; have k6 := Lib.hid (k5.out.up hb); have N9 := Lib.hid n9; have N10 := Lib.hid n10; obtain ⟨r0, r1, r2⟩ := k6.out.2.2.1.cells; obtain ⟨f0, f1, f2⟩ := k6.out.2.2.1.frozen; clear n9 n10 hb)
      | (go_at_call 80; refine (OP _ _ _ _ _ na.out nb.out).mono ?_; rintro e w5 ⟨A8, c8, rfl, hN, hb⟩; have k5 := Lib.hid (kd.out.up hb); have NO := Lib.hid hN; have BO := Lib.hid hb; clear hN hb))
  go_wp2
  refine bodyPost_ret (v := .agg #[.bool (ngt q), .slice A9 (nd (top q)) c9, .slice A10 (nd q.den) c10]) (by simp [results, Tryz.results44, go_sem, r0, r1, r2]) rfl ?_
  exact k6.out.give N9.out N10.out

set_option maxRecDepth 100000 in
set_option maxHeartbeats 6400000 in
theorem fadd_lt (v1 v2 : Value) (a b : Rat) (w : World) (h1 : Fr w v1 a) (h2 : Fr w v2 b) (hs : sz a + sz b ≤ 700000) (hsg : ngt a ≠ ngt b) (hl : top a * b.den < top b * a.den) :
    Calls Tryz.prog 44 #[v1, v2] w (GiveF w (a + b)) := by
  obtain ⟨A1, c1, A2, c2, rfl, n1, n2⟩ := h1
  obtain ⟨A3, c3, A4, c4, rfl, n3, n4⟩ := h2
  have s1 := sz_top a; have s2 := sz_den a; have s3 := sz_top b; have s4 := sz_den b
  have M1 := fun w' (hb : Below w.heap.size w w') => mul_any A1 A4 c1 c4 (top a) b.den w' (n1.up hb) (n4.up hb) (by omega) (by omega)
  have M2 := fun w' (hb : Below w.heap.size w w') => mul_any A3 A2 c3 c2 (top b) a.den w' (n3.up hb) (n2.up hb) (by omega) (by omega)
  have M3 := fun w' (hb : Below w.heap.size w w') => mul_any A2 A4 c2 c4 a.den b.den w' (n2.up hb) (n4.up hb) (by omega) (by omega)
  have e1 := nd_mul_le (top a) b.den
  have e2 := nd_mul_le (top b) a.den
  have e3 := nd_mul_le a.den b.den
  have e4 := nd_add_le (top a * b.den) (top b * a.den)
  have e5 := nd_mono (Nat.sub_le (top a * b.den) (top b * a.den))
  have e6 := nd_mono (Nat.sub_le (top b * a.den) (top a * b.den))
  have hd0 : a.den * b.den ≠ 0 := Nat.mul_ne_zero a.den_nz b.den_nz
  have MK := fun w' A A' c c' h h' => make_any (ngt b) A A' c c' (top b * a.den - top a * b.den) (a.den * b.den) hd0 w' h h' (by omega) (by omega)
  rw [← Q.add_lt hsg (Nat.le_of_lt hl)] at MK
  have OP := fun w' A A' c c' h h' => sub_any A A' c c' (top b * a.den) (top a * b.den) w' h h' (Nat.le_of_lt hl) (by omega)
  have CP := fun w' A A' c c' h h' => cmp_any A A' c c' (top a * b.den) (top b * a.den) w' h h' (by omega)
  obtain ⟨z, hz⟩ : ∃ z, cmpN (top a * b.den) (top b * a.den) = z := ⟨_, rfl⟩
  have hz0 : ¬ 0 ≤ z := by have := cmpN_neg (a := top a * b.den) (b := top b * a.den); rw [hz] at this; omega
  rw [hz] at CP
  have hsg' : (ngt a == ngt b) = false := by rw [beq_eq_false_iff_ne]; exact hsg
  have k0 := Lib.hid (K3.start w (.bool (ngt a)) (.slice A1 (nd (top a)) c1) (.slice A2 (nd a.den) c2) (.bool (ngt b)) (.slice A3 (nd (top b)) c3) (.slice A4 (nd b.den) c4) (.bool false) (.slice none 0 0) (.slice none 0 0) 41)
  obtain ⟨p0, p1, p2, p3, p4, p5⟩ := k0.out.six
  have kd := Lib.hid (k0.out.up (below_drewN (Below.refl _ _) 1))
  clear n1 n2 n3 n4 e1 e2 e3 e4 e5 e6 hd0 s1 s2 s3 s4 hs hsg hl hz
  unfold W3 at p0 p1 p2 p3 p4 p5 kd
  clear k0
  generalize a + b = q at *
  generalize ngt a = x1 at *
  generalize ngt b = x2 at *
  generalize top b * a.den - top a * b.den = op at *
  generalize top a * b.den = m1 at *
  generalize top b * a.den = m2 at *
  generalize a.den * b.den = dd at *
  generalize nd (top a) = l1 at *
  generalize nd (top b) = l2 at *
  generalize nd a.den = l3 at *
  generalize nd b.den = l4 at *
  go_enter Tryz.func44, Tryz.ntmps44
  go_wp2_with fail
  go_region_held3 (fun w' => w'.cell? ⟨w.heap.size, 0, none⟩ = some (.bool x1) ∧ w'.cell? ⟨w.heap.size, 1, none⟩ = some (.slice A1 l1 c1) ∧ w'.cell? ⟨w.heap.size, 2, none⟩ = some (.slice A2 l3 c2) ∧ w'.cell? ⟨w.heap.size + 1, 0, none⟩ = some (.bool x2) ∧ w'.cell? ⟨w.heap.size + 1, 1, none⟩ = some (.slice A3 l2 c3) ∧ w'.cell? ⟨w.heap.size + 1, 2, none⟩ = some (.slice A4 l4 c4))
    (first | exact k2.out.six | exact k1.out.six | go_keep)
    (first
      | (go_at_call 32; refine (M2 _ k1.out.2.2.2.2).mono ?_; rintro e w2 ⟨A6, c6, rfl, hN, hb⟩; have k2 := Lib.hid (k1.out.up hb); have N2 := Lib.hid hN; have B2 := Lib.hid hb; clear hN hb)
      | (go_at_call 32; refine (M1 _ kd.out.2.2.2.2).mono ?_; rintro e w1 ⟨A5, c5, rfl, hN, hb⟩; have k1 := Lib.hid (kd.out.up hb); have N1 := Lib.hid hN; clear hN hb))
  obtain ⟨q0, q1, q2, q3, q4, q5⟩ := k2.out.six
  have N1' := Lib.hid (N1.out.up B2.out)
  clear N1 k1 kd p0 p1 p2 p3 p4 p5 B2
  go_wp2_with (first
    | (go_at_call 79; go_loud (refine (CP _ _ _ _ _ N1''.out N2'.out).mono ?_; rintro e w4 ⟨rfl, qq, rfl⟩; have k4 := Lib.hid (k3.out.up (below_drewN (Below.refl _ _) qq)); obtain ⟨t0, t1, t2, t3, t4, t5⟩ := k4.out.six; have N1c := Lib.hid (N1''.out.drewN qq); have N2c := Lib.hid (N2'.out.drewN qq); have N3c := Lib.hid (N3.out.drewN qq)))
    | (go_at_call 32; go_loud (refine (M3 _ k2.out.2.2.2.2).mono ?_; rintro e w3 ⟨A7, c7, rfl, hN, hb⟩; have k3 := Lib.hid (k2.out.up hb); have N3 := Lib.hid hN; have N1'' := Lib.hid (N1'.out.up hb); have N2' := Lib.hid (N2.out.up hb); obtain ⟨t0, t1, t2, t3, t4, t5⟩ := k3.out.six; clear hN hb)))
  have kd := Lib.hid (k4.out.up (below_drewN (Below.refl _ _) 1))
  have na := Lib.hid (N2c.out.drewN 1)
  have nb := Lib.hid (N1c.out.drewN 1)
  have nc := Lib.hid (N3c.out.drewN 1)
  go_region_held3 (fun w' => w'.cell? ⟨w.heap.size, 0, none⟩ = some (.bool x1) ∧ w'.cell? ⟨w.heap.size, 1, none⟩ = some (.slice A1 l1 c1) ∧ w'.cell? ⟨w.heap.size, 2, none⟩ = some (.slice A2 l3 c2) ∧ w'.cell? ⟨w.heap.size + 1, 0, none⟩ = some (.bool x2) ∧ w'.cell? ⟨w.heap.size + 1, 1, none⟩ = some (.slice A3 l2 c3) ∧ w'.cell? ⟨w.heap.size + 1, 2, none⟩ = some (.slice A4 l4 c4))
    (first | exact (k6.out.stored _ _ _).six | exact k6.out.six | exact k5.out.six | go_keep)
    (first
      | (go_at_call 31; refine (MK _ _ _ _ _ NO.out (nc.out.up BO.out)).mono ?_; rintro e w6 ⟨v, rfl, ⟨A9, c9, A10, c10, rfl, n9, n10⟩, hb⟩; have k6 := Lib.hid (k5.out.up hb); have N9 := Lib.hid n9; have N10 := Lib.hid n10; obtain ⟨r0, r1, r2⟩ := k6.out.2.2.1.cells; obtain ⟨f0, f1, f2⟩ := k6.out.2.2.1.frozen; clear n9 n10 hb)
      | (go_at_call 80; refine (OP _ _ _ _ _ na.out nb.out).mono ?_; rintro e w5 ⟨A8, c8, rfl, hN, hb⟩; have k5 := Lib.hid (kd.out.up hb); have NO := Lib.hid hN; have BO := Lib.hid hb; clear hN hb))
  go_wp2
  refine bodyPost_ret (v := .agg #[.bool (ngt q), .slice A9 (nd (top q)) c9, .slice A10 (nd q.den) c10]) (by simp [results, Tryz.results44, go_sem, r0, r1, r2]) rfl ?_
  exact k6.out.give N9.out N10.out

theorem fadd_any (v1 v2 : Value) (a b : Rat) (w : World) (h1 : Fr w v1 a) (h2 : Fr w v2 b) (hs : sz a + sz b ≤ 700000) :
    Calls Tryz.prog 44 #[v1, v2] w (GiveF w (a + b)) := by
  by_cases hsg : ngt a = ngt b
  · exact fadd_same v1 v2 a b w h1 h2 hs hsg
  · rcases Nat.lt_or_ge (top a * b.den) (top b * a.den) with hl | hl
    · exact fadd_lt v1 v2 a b w h1 h2 hs hsg hl
    · exact fadd_ge v1 v2 a b w h1 h2 hs hsg hl

end Go.Proofs.YthjnmnepjeegiaaGreatDoor

/- Fractions of the program: Minus, Sub, Sign, Cmp, Int. -/
namespace Go.Proofs.YthjnmnepjeegiaaGreatDoor
open Go.RowKit Go.Proofs.YthjnmnepjeegiaaGreatDoor.Dg Go.Proofs.YthjnmnepjeegiaaGreatDoor.Q

set_option maxRecDepth 100000 in
set_option maxHeartbeats 1600000 in
theorem fsign_any (v1 : Value) (a : Rat) (w : World) (h1 : Fr w v1 a) :
    Calls Tryz.prog 18 #[v1] w fun e w' => e = .returned (.int .i64 (sign a)) ∧ Below w.heap.size w w' := by
  obtain ⟨A1, c1, A2, c2, rfl, n1, n2⟩ := h1
  have Z := fun w => zero_any A1 c1 (top a) w
  clear n1 n2
  by_cases h0 : top a = 0
  · rw [decide_eq_true h0] at Z
    have HS := Lib.hid (show sign a = 0 by unfold sign; rw [if_pos h0])
    generalize nd (top a) = l1 at *
    generalize nd a.den = l2 at *
    generalize ngt a = x at *
    clear h0
    go_enter Tryz.func18, Tryz.ntmps18
    go_wp2_with (go_at_call 41; go_loud ((with_reducible refine (Z _).mono ?_); rintro e w1 ⟨rfl, rfl⟩))
    go_ret
    exact ⟨by rw [HS.out]; rfl, by (repeat (first | exact Below.refl _ _ | assumption | refine below_drewN ?_ _ | refine Below.drew ?_ | refine btrans ?_ (by assumption) | refine below_alloc ?_ _ | refine Below.setCell ?_ (by simp <;> omega) _ | refine Below.alloc ?_ (by simp <;> omega) _ | refine Below.setCell ?_ (by simp) _ | refine Below.alloc ?_ (by simp) _))⟩
  · rw [decide_eq_false h0] at Z
    have HS := Lib.hid (show sign a = if ngt a = true then -1 else 1 by unfold sign; rw [if_neg h0])
    generalize nd (top a) = l1 at *
    generalize nd a.den = l2 at *
    clear h0
    cases hx : ngt a
    all_goals
      rw [hx] at HS
      clear hx
      go_enter Tryz.func18, Tryz.ntmps18
      go_wp2_with (go_at_call 41; go_loud ((with_reducible refine (Z _).mono ?_); rintro e w1 ⟨rfl, rfl⟩))
      go_ret
      exact ⟨by rw [HS.out]; rfl, by (repeat (first | exact Below.refl _ _ | assumption | refine below_drewN ?_ _ | refine Below.drew ?_ | refine btrans ?_ (by assumption) | refine below_alloc ?_ _ | refine Below.setCell ?_ (by simp <;> omega) _ | refine Below.alloc ?_ (by simp <;> omega) _ | refine Below.setCell ?_ (by simp) _ | refine Below.alloc ?_ (by simp) _))⟩

/-- The number n of the program. -/
theorem int_parts (n : Nat) : ngt ((n : Nat) : Rat) = false ∧ top ((n : Nat) : Rat) = n ∧ ((n : Nat) : Rat).den = 1 := by
  refine ⟨?_, ?_, rfl⟩
  · unfold ngt; rw [Rat.num_natCast]; exact decide_eq_false (by omega)
  · unfold top; rw [Rat.num_natCast]; rfl

set_option maxRecDepth 100000 in
set_option maxHeartbeats 1600000 in
theorem fint_any (n : Nat) (hn : n ≤ 1000000) (w : World) : Calls Tryz.prog 9 #[.int .i64 (n : Int)] w (GiveF w (n : Rat)) := by
  have S1 := fun w' => natS_any n (by omega) w'
  obtain ⟨p1, p2, p3⟩ := int_parts n
  have R0 := Lib.hid (show Rs (w.alloc (.cells #[.bool false, .slice none 0 0, .slice none 0 0] 41)) w.heap.size (.bool false) (.slice none 0 0) (.slice none 0 0) 41 from Deep.blk_alloc_new w _)
  have hgs : w.heap.size < (w.alloc (.cells #[.bool false, .slice none 0 0, .slice none 0 0] 41)).heap.size := by simp
  have HGS := Lib.hid hgs
  have P1 := Lib.hid p1
  have P2 := Lib.hid p2
  have P3 := Lib.hid p3
  have B0 := Lib.hid ((Below.refl w.heap.size w).alloc (Nat.le_refl _) (.cells #[.bool false, .slice none 0 0, .slice none 0 0] 41))
  have nb : (n : Int) ≤ 1000000 := by omega
  have e0 : decide ((n : Int) < 0) = false := decide_eq_false (by omega)
  clear p1 p2 p3 hgs
  go_enter Tryz.func9, Tryz.ntmps9
  go_wp2_with (go_at_call 27; go_loud (refine (S1 _).mono ?_; rintro e w1 ⟨A, c, rfl, hN, hb⟩; have N1 := Lib.hid hN; have B1 := Lib.hid hb; have RG := Lib.hid ((R0.out.below hb HGS.out).below ((Below.refl w1.heap.size w1).alloc (Nat.le_refl _) (.cells #[.int .u32 1] 77)) (Nat.lt_of_lt_of_le HGS.out hb.size)); obtain ⟨r0, r1, r2⟩ := RG.out.cells; obtain ⟨f0, f1, f2⟩ := RG.out.frozen; clear hN hb))
  have B2 := B0.out.trans ((B1.out.alloc B1.out.size (.cells #[.int .u32 1] 77)).mono B0.out.size)
  have M1 := (N1.out.up ((Below.refl w1.heap.size w1).alloc (Nat.le_refl _) (.cells #[.int .u32 1] 77))).put3 RG.out rfl rfl rfl (a := .bool false) (b := .slice A (nd n) c) (d := .slice (some ⟨w1.heap.size, 0, none⟩) 1 1)
  have M2 := (Nt.one w1 77).put3 RG.out rfl rfl rfl (a := .bool false) (b := .slice A (nd n) c) (d := .slice (some ⟨w1.heap.size, 0, none⟩) 1 1)
  refine bodyPost_ret (v := .agg #[.bool false, .slice A (nd n) c, .slice (some ⟨w1.heap.size, 0, none⟩) 1 1]) (by simp [results, Tryz.results9, go_sem, r0, r1, r2]) rfl ⟨_, rfl, ?_, put3_below B2 (Nat.le_refl _)⟩
  have := Fr.of_parts P1.out P2.out P3.out M1 M2
  rw [nd_one] at this
  exact this

end Go.Proofs.YthjnmnepjeegiaaGreatDoor

/- Fractions of the program: Floor. -/
namespace Go.Proofs.YthjnmnepjeegiaaGreatDoor
open Go.RowKit Go.Proofs.YthjnmnepjeegiaaGreatDoor.Dg Go.Proofs.YthjnmnepjeegiaaGreatDoor.Q

/-- What a later world keeps of a box and a result behind it. -/
def K2 (w w' : World) (a0 a1 a2 c0 c1 c2 : Value) (t : TypeId) : Prop := Rs w' w.heap.size a0 a1 a2 t ∧ Rs w' (w.heap.size + 1) c0 c1 c2 t ∧ w.heap.size + 2 ≤ w'.heap.size ∧ Below w.heap.size w w'
theorem K2.start (w : World) (a0 a1 a2 c0 c1 c2 : Value) (t : TypeId) : K2 w ((w.alloc (.cells #[a0, a1, a2] t)).alloc (.cells #[c0, c1, c2] t)) a0 a1 a2 c0 c1 c2 t := by
  have s1 : (w.alloc (.cells #[a0, a1, a2] t)).heap.size = w.heap.size + 1 := by simp
  refine ⟨?_, ?_, by simp, by (repeat (first | exact Below.refl _ _ | assumption | refine below_drewN ?_ _ | refine Below.drew ?_ | refine btrans ?_ (by assumption) | refine below_alloc ?_ _ | refine Below.setCell ?_ (by simp <;> omega) _ | refine Below.alloc ?_ (by simp <;> omega) _ | refine Below.setCell ?_ (by simp) _ | refine Below.alloc ?_ (by simp) _))⟩
  · unfold Rs; rw [Deep.blk_alloc_lt _ _ _ (by rw [s1]; omega)]; exact Deep.blk_alloc_new _ _
  · unfold Rs; rw [← s1]; exact Deep.blk_alloc_new _ _
theorem K2.up {w w1 w2 : World} {a0 a1 a2 c0 c1 c2 : Value} {t : TypeId} (h : K2 w w1 a0 a1 a2 c0 c1 c2 t) (hb : Below w1.heap.size w1 w2) : K2 w w2 a0 a1 a2 c0 c1 c2 t := by
  obtain ⟨h1, h2, h4, h5⟩ := h
  exact ⟨h1.below hb (by omega), h2.below hb (by omega), Nat.le_trans h4 hb.size, btrans h5 hb⟩
theorem K2.give {w w' : World} {a0 a1 a2 : Value} {t : TypeId} {q : Rat} {b : Bool} {n d : Nat} {A A' : Option Addr} {c c' : Nat} (h : K2 w w' a0 a1 a2 (.bool false) (.slice none 0 0) (.slice none 0 0) t)
    (e1 : ngt q = b) (e2 : top q = n) (e3 : q.den = d) (n1 : Nt .u32 w' w'.heap.size A c n) (n2 : Nt .u32 w' w'.heap.size A' c' d) :
    GiveF w q (.returned (.agg #[.bool b, .slice A (nd n) c, .slice A' (nd d) c'])) (put3 w' (w.heap.size + 1) (.bool b) (.slice A (nd n) c) (.slice A' (nd d) c')) :=
  ⟨_, rfl, Fr.of_parts e1 e2 e3 (n1.put3 h.2.1 rfl rfl rfl) (n2.put3 h.2.1 rfl rfl rfl), put3_below h.2.2.2 (by omega)⟩

end Go.Proofs.YthjnmnepjeegiaaGreatDoor

/- Fractions of the program: their texts. -/
namespace Go.Proofs.YthjnmnepjeegiaaGreatDoor
open Go.RowKit Go.Proofs.YthjnmnepjeegiaaGreatDoor.Dg Go.Proofs.YthjnmnepjeegiaaGreatDoor.Q Go.Proofs.YthjnmnepjeegiaaGreatDoor.Num

theorem cal_str2 {a b : ByteArray} {c d : Bool} (h : a = b) (h' : c = d) : Ending.returned (.tuple #[.string a, .bool c]) = .returned (.tuple #[.string b, .bool d]) := by rw [h, h']
theorem dec_bound (a : Nat) : (Lib.decDigits a).length ≤ 9 * nd a + 1 := by
  refine (dec_len_le (by omega)).2 (Nat.lt_of_lt_of_le (lt_pw_nd a) ?_)
  rw [pw_ten]
  exact Nat.pow_le_pow_right (by decide) (by omega)
/-- A box. -/
theorem box_rs (w : World) (a b c : Value) (t : TypeId) : Rs (w.alloc (.cells #[a, b, c] t)) w.heap.size a b c t ∧ Below w.heap.size w (w.alloc (.cells #[a, b, c] t)) ∧ w.heap.size < (w.alloc (.cells #[a, b, c] t)).heap.size :=
  ⟨Deep.blk_alloc_new w _, (Below.refl _ w).alloc (Nat.le_refl _) _, by simp⟩
/-- What a later world keeps of a box. -/
def K1 (w w' : World) (a b c : Value) (t : TypeId) : Prop := Rs w' w.heap.size a b c t ∧ Below w.heap.size w w' ∧ w.heap.size < w'.heap.size
theorem K1.up {w w1 w2 : World} {a b c : Value} {t : TypeId} (h : K1 w w1 a b c t) (hb : Below w1.heap.size w1 w2) : K1 w w2 a b c t := ⟨h.1.below hb h.2.2, btrans h.2.1 hb, Nat.lt_of_lt_of_le h.2.2 hb.size⟩

set_option maxRecDepth 100000 in
set_option maxHeartbeats 3200000 in
theorem flong_any (v1 : Value) (a : Rat) (w : World) (hw : Wf w) (h1 : Fr w v1 a) (hs : sz a ≤ 700000) :
    Calls Tryz.prog 62 #[v1] w fun e w' => e = .returned (.string ⟨(txt a).toArray⟩) ∧ Below w.heap.size w w' := by
  obtain ⟨A1, c1, A2, c2, rfl, n1, n2⟩ := h1
  have s1 := sz_top a
  have s2 := sz_den a
  have S1 := fun w' (hb : Below w.heap.size w w') => string_any A1 c1 (top a) w' (hw.up hb) (n1.up hb) (by omega)
  have S2 := fun w' (hb : Below w.heap.size w w') => string_any A2 c2 a.den w' (hw.up hb) (n2.up hb) (by omega)
  have O2 := fun w' (hb : Below w.heap.size w w') => one_any A2 c2 a.den w' (n2.up hb)
  have k0 := Lib.hid (show K1 w (w.alloc (.cells #[.bool (ngt a), .slice A1 (nd (top a)) c1, .slice A2 (nd a.den) c2] 41)) _ _ _ _ from box_rs w _ _ _ _)
  obtain ⟨D1, hD1⟩ : ∃ D1 : ByteArray, D1 = ⟨(Lib.decDigits (top a)).toArray⟩ := ⟨_, rfl⟩
  obtain ⟨D2, hD2⟩ : ∃ D2 : ByteArray, D2 = ⟨(Lib.decDigits a.den).toArray⟩ := ⟨_, rfl⟩
  rw [← hD1] at S1
  rw [← hD2] at S2
  have b1 : bl D1 = Lib.decDigits (top a) := by rw [hD1]; rfl
  have b2 : bl D2 = Lib.decDigits a.den := by rw [hD2]; rfl
  have z1 : D1.size ≤ 7000000 := by rw [← bl_len, b1]; have := dec_bound (top a); omega
  have z2 : D2.size ≤ 7000000 := by rw [← bl_len, b2]; have := dec_bound a.den; omega
  have HT := Lib.hid (show txt a = (if ngt a = true then [45] else []) ++ (bl D1 ++ (if a.den = 1 then [] else 47 :: bl D2)) by rw [b1, b2]; rfl)
  clear n1 n2 hw s1 s2 hs hD1 hD2 b1 b2
  generalize txt a = T at *
  by_cases hd : a.den = 1
  · rw [decide_eq_true hd] at O2
    rw [if_pos hd] at HT
    generalize a.den = d at *
    generalize nd (top a) = l1 at *
    clear hd
    cases hx : ngt a
    all_goals
      rw [hx] at k0 HT
      clear hx
      go_enter Tryz.func62, Tryz.ntmps62
      go_wp2_with (first
        | (go_at_call 58; (refine (O2 _ k1.out.2.1).mono ?_; rintro e w2 ⟨rfl, rfl⟩))
        | (go_at_call 61; go_loud (refine (S1 _ k0.out.2.1).mono ?_; rintro e w1 ⟨rfl, hb⟩; have k1 := Lib.hid (k0.out.up hb); obtain ⟨q0, q1, q2⟩ := k1.out.1.cells; clear hb)))
      go_ret
      refine ⟨cal_str (bl_inj ?_), k1.out.2.1⟩
      show bl _ = T
      rw [HT.out]
      try simp only [bl_app]
      simp [bl]
  · rw [decide_eq_false hd] at O2
    rw [if_neg hd] at HT
    generalize a.den = d at *
    generalize nd (top a) = l1 at *
    clear hd
    cases hx : ngt a
    all_goals
      rw [hx] at k0 HT
      clear hx
      go_enter Tryz.func62, Tryz.ntmps62
      go_wp2_with (first
        | (go_at_call 61; (refine (S2 _ k1.out.2.1).mono ?_; rintro e w3 ⟨rfl, hb⟩; have k2 := Lib.hid (k1.out.up hb); clear hb))
        | (go_at_call 58; (refine (O2 _ k1.out.2.1).mono ?_; rintro e w2 ⟨rfl, rfl⟩))
        | (go_at_call 61; go_loud (refine (S1 _ k0.out.2.1).mono ?_; rintro e w1 ⟨rfl, hb⟩; have k1 := Lib.hid (k0.out.up hb); obtain ⟨q0, q1, q2⟩ := k1.out.1.cells; clear hb)))
      go_ret
      refine ⟨cal_str (bl_inj ?_), k2.out.2.1⟩
      show bl _ = T
      rw [HT.out]
      try simp only [bl_app]
      simp [bl]

set_option maxRecDepth 100000 in
set_option maxHeartbeats 3200000 in
theorem ftext_any (v1 : Value) (a : Rat) (w : World) (hw : Wf w) (h1 : Fr w v1 a) (hs : sz a ≤ 700000) :
    Calls Tryz.prog 34 #[v1] w fun e w' => e = .returned (.tuple #[.string ⟨(put a).toArray⟩, .bool (short a)]) ∧ Below w.heap.size w w' := by
  have LG := fun w' (hb : Below w.heap.size w w') => flong_any v1 a w' (hw.up hb) (h1.up hb) hs
  obtain ⟨A1, c1, A2, c2, rfl, n1, n2⟩ := h1
  have s1 := sz_top a
  have s2 := sz_den a
  have S1 := fun w' (hb : Below w.heap.size w w') => string_any A1 c1 (top a) w' (hw.up hb) (n1.up hb) (by omega)
  have S2 := fun w' (hb : Below w.heap.size w w') => string_any A2 c2 a.den w' (hw.up hb) (n2.up hb) (by omega)
  have k0 := Lib.hid (show K1 w (w.alloc (.cells #[.bool (ngt a), .slice A1 (nd (top a)) c1, .slice A2 (nd a.den) c2] 41)) _ _ _ _ from box_rs w _ _ _ _)
  obtain ⟨D1, hD1⟩ : ∃ D1 : ByteArray, D1 = ⟨(Lib.decDigits (top a)).toArray⟩ := ⟨_, rfl⟩
  obtain ⟨D2, hD2⟩ : ∃ D2 : ByteArray, D2 = ⟨(Lib.decDigits a.den).toArray⟩ := ⟨_, rfl⟩
  rw [← hD1] at S1
  rw [← hD2] at S2
  have b1 : D1.size = (Lib.decDigits (top a)).length := by rw [← bl_len, hD1]; rfl
  have b2 : D2.size = (Lib.decDigits a.den).length := by rw [← bl_len, hD2]; rfl
  have hsh : short a = (decide (D1.size ≤ 40) && decide (D2.size ≤ 40)) := by rw [b1, b2]; rfl
  clear n1 n2 hw s1 s2 hs hD1 hD2 b1 b2
  generalize nd (top a) = l1 at *
  generalize nd a.den = l2 at *
  generalize ngt a = x at *
  by_cases c1' : D1.size ≤ 40
  · by_cases c2' : D2.size ≤ 40
    · rw [decide_eq_true c1', decide_eq_true c2'] at hsh
      have HP := Lib.hid (show put a = txt a by unfold put; rw [hsh]; rfl)
      have HS := Lib.hid hsh
      have i1 : ¬ (40 : Int) < (D1.size : Int) := by omega
      have i2 : ¬ (40 : Int) < (D2.size : Int) := by omega
      clear hsh c1' c2'
      go_enter Tryz.func34, Tryz.ntmps34
      go_wp2_with (first
        | (go_at_call 62; (refine (LG _ k2.out.2.1).mono ?_; rintro e w3 ⟨rfl, hb⟩; have k3 := Lib.hid (k2.out.up hb); clear hb))
        | (go_at_call 61; (refine (S2 _ k1.out.2.1).mono ?_; rintro e w3 ⟨rfl, hb⟩; have k2 := Lib.hid (k1.out.up hb); obtain ⟨t0, t1, t2⟩ := k2.out.1.cells; clear hb))
        | (go_at_call 61; go_loud (refine (S1 _ k0.out.2.1).mono ?_; rintro e w1 ⟨rfl, hb⟩; have k1 := Lib.hid (k0.out.up hb); obtain ⟨q0, q1, q2⟩ := k1.out.1.cells; clear hb)))
      go_ret2
      exact ⟨cal_str2 (by rw [HP.out]) HS.out.symm, k3.out.2.1⟩
    · rw [decide_eq_true c1', decide_eq_false c2'] at hsh
      have HP := Lib.hid (show put a = [] by unfold put; rw [hsh]; rfl)
      have HS := Lib.hid hsh
      have i1 : ¬ (40 : Int) < (D1.size : Int) := by omega
      have i2 : (40 : Int) < (D2.size : Int) := by omega
      clear hsh c1' c2'
      go_enter Tryz.func34, Tryz.ntmps34
      go_wp2_with (first
        | (go_at_call 61; (refine (S2 _ k1.out.2.1).mono ?_; rintro e w3 ⟨rfl, hb⟩; have k2 := Lib.hid (k1.out.up hb); obtain ⟨t0, t1, t2⟩ := k2.out.1.cells; clear hb))
        | (go_at_call 61; go_loud (refine (S1 _ k0.out.2.1).mono ?_; rintro e w1 ⟨rfl, hb⟩; have k1 := Lib.hid (k0.out.up hb); obtain ⟨q0, q1, q2⟩ := k1.out.1.cells; clear hb)))
      go_ret2
      exact ⟨cal_str2 (by rw [HP.out]) HS.out.symm, k2.out.2.1⟩
  · rw [decide_eq_false c1', Bool.false_and] at hsh
    have HP := Lib.hid (show put a = [] by unfold put; rw [hsh]; rfl)
    have HS := Lib.hid hsh
    have i1 : (40 : Int) < (D1.size : Int) := by omega
    clear hsh c1'
    go_enter Tryz.func34, Tryz.ntmps34
    go_wp2_with (first
      | (go_at_call 61; go_loud (refine (S1 _ k0.out.2.1).mono ?_; rintro e w1 ⟨rfl, hb⟩; have k1 := Lib.hid (k0.out.up hb); obtain ⟨q0, q1, q2⟩ := k1.out.1.cells; clear hb)))
    go_ret2
    exact ⟨cal_str2 (by rw [HP.out]) HS.out.symm, k1.out.2.1⟩

set_option maxRecDepth 100000 in
set_option maxHeartbeats 3200000 in
theorem fvalue_any (v1 : Value) (a : Rat) (w : World) (hw : Wf w) (h1 : Fr w v1 a) (hs : sz a ≤ 700000) :
    Calls Tryz.prog 13 #[v1] w fun e w' => e = .returned (.string ⟨(put a).toArray⟩) ∧ Below w.heap.size w w' := by
  have TX := fun w' (hb : Below w.heap.size w w') => ftext_any v1 a w' (hw.up hb) (h1.up hb) hs
  obtain ⟨A1, c1, A2, c2, rfl, n1, n2⟩ := h1
  have k0 := Lib.hid (show K1 w (w.alloc (.cells #[.bool (ngt a), .slice A1 (nd (top a)) c1, .slice A2 (nd a.den) c2] 41)) _ _ _ _ from box_rs w _ _ _ _)
  clear n1 n2 hw hs
  generalize put a = P at *
  generalize short a = sh at *
  generalize nd (top a) = l1 at *
  generalize nd a.den = l2 at *
  generalize ngt a = x at *
  go_enter Tryz.func13, Tryz.ntmps13
  go_wp2_with (go_at_call 34; go_loud (refine (TX _ k0.out.2.1).mono ?_; rintro e w1 ⟨rfl, hb⟩; have k1 := Lib.hid (k0.out.up hb); clear hb))
  go_ret
  exact ⟨rfl, k1.out.2.1⟩

end Go.Proofs.YthjnmnepjeegiaaGreatDoor

/- Fractions of the program: plain, ReadLong, Read. -/
namespace Go.Proofs.YthjnmnepjeegiaaGreatDoor
open Go.RowKit Go.Proofs.YthjnmnepjeegiaaGreatDoor.Dg Go.Proofs.YthjnmnepjeegiaaGreatDoor.Q Go.Proofs.YthjnmnepjeegiaaGreatDoor.Num Go.Proofs.YthjnmnepjeegiaaGreatDoor.Str

theorem bl_at (S : ByteArray) (k : Nat) (h : k < S.size) : (bl S)[k]? = some S[k] := by
  unfold bl
  rw [Array.getElem?_toList, Array.getElem?_eq_getElem h]
  rfl
theorem bl_take (S : ByteArray) (k : Nat) (h : k < S.size) : (bl S).take (k + 1) = (bl S).take k ++ [S[k]] := by
  have := bl_at S k h
  rw [List.take_add_one, this]
  rfl
theorem isD_byte (c : UInt8) : isD c = true ↔ ¬ ((c.toNat : Nat) : Int) < 48 ∧ ¬ (57 : Int) < ((c.toNat : Nat) : Int) := by
  unfold isD
  rw [decide_eq_true_iff]
  omega
theorem eqS (S : ByteArray) (l : List UInt8) : (S.toList == l) = decide (bl S = l) := by
  rw [Lib.toList_data, Bool.eq_iff_iff, beq_iff_eq, decide_eq_true_iff]
  exact Iff.rfl
theorem canon_empty : canon [] = false := rfl
set_option maxRecDepth 100000 in
set_option maxHeartbeats 3200000 in
theorem plain_any (S : ByteArray) (hs : S.size ≤ 9223372036854775807) (w : World) :
    Calls Tryz.prog 55 #[.string S] w fun e w' => e = .returned (.bool (canon (bl S))) ∧ w = w' := by
  have sb : (S.size : Int) ≤ 9223372036854775807 := by omega
  go_enter Tryz.func55, Tryz.ntmps55
  go_wp2
  go_loopw [6] (fun i wr => ∃ k : Nat, k ≤ S.size ∧ i = .int .i64 (k : Int) ∧ w = wr ∧ Hid (allD ((bl S).take k) = true)) (fun i _ => (S.size - intOf i).toNat)
  case atStart => exact ⟨0, Nat.zero_le _, rfl, rfl, rfl⟩
  case round =>
    obtain ⟨k, hk, rfl, rfl, hA⟩ := hrel
    by_cases hk0 : k = S.size
    · subst hk0
      have hall : allD (bl S) = true := by have := hA.out; rwa [List.take_of_length_le (by rw [bl_len]; exact Nat.le_refl _)] at this
      by_cases he : bl S = []
      · have h1 : S.toList.isEmpty = true := by rw [emptyS]; exact decide_eq_true he
        have HC := Lib.hid (show canon (bl S) = false by rw [he]; rfl)
        clear hA hall he
        go_wp2
        go_ret
        exact ⟨by rw [HC.out]; rfl, rfl⟩
      · have h1 : S.toList.isEmpty = false := by rw [emptyS]; exact decide_eq_false he
        have h0 : 0 < S.size := by rw [← bl_len]; exact List.length_pos_iff.2 he
        have hh : (bl S).head? = some S[0] := by rw [List.head?_eq_getElem?]; exact bl_at S 0 h0
        have HC := Lib.hid (show canon (bl S) = (decide (S[0].toNat ≠ 48) || decide (bl S = [48])) by
          unfold canon
          rw [hall, hh]
          have e1 : (!(bl S).isEmpty) = true := by cases hb : bl S with
            | nil => exact absurd hb he
            | cons x l => rfl
          rw [e1, Bool.true_and, Bool.true_and]
          congr 1
          · rw [Bool.eq_iff_iff, bne_iff_ne, decide_eq_true_iff]
            exact ⟨fun h e => h (by rw [UInt8.toNat_inj.1 (show S[0].toNat = (48 : UInt8).toNat from e)]), fun h e => h (by injection e with e; rw [e]; rfl)⟩
          · rw [Bool.eq_iff_iff, beq_iff_eq, decide_eq_true_iff])
        clear hA hall hh he
        by_cases hz : S[0].toNat = 48
        · have hz' : ((S[0].toNat : Nat) : Int) = 48 := by omega
          have HC' := Lib.hid (show canon (bl S) = decide (bl S = [48]) by rw [HC.out]; simp [hz])
          clear hz HC
          go_wp2
          go_ret
          exact ⟨by rw [HC'.out, ← eqS]; rfl, rfl⟩
        · have hz' : ¬ ((S[0].toNat : Nat) : Int) = 48 := by omega
          have HC' := Lib.hid (show canon (bl S) = true by rw [HC.out, decide_eq_true hz]; rfl)
          clear hz HC
          go_wp2
          go_ret
          exact ⟨by rw [HC'.out]; rfl, rfl⟩
    · have hlt : k < S.size := by omega
      have hi : (k : Int) < (S.size : Int) := by omega
      by_cases hd : isD S[k] = true
      · obtain ⟨d1, d2⟩ := (isD_byte _).1 hd
        have HA := Lib.hid (show allD ((bl S).take (k + 1)) = true by rw [bl_take S k hlt, allD_append, hA.out]; simp [allD, hd])
        clear hd hA hk0
        go_wp2
        go_roundw
        case rel => exact ⟨k + 1, by omega, by go_num, by first | rfl | trivial, HA⟩
        case measure => simp only [intOf]; omega
      · have HC := Lib.hid (show canon (bl S) = false by
          cases hc : canon (bl S)
          · rfl
          · exact absurd (allD_mem (canon_all hc).1 (List.mem_of_getElem? (bl_at S k hlt))) hd)
        have hd' : ((S[k].toNat : Nat) : Int) < 48 ∨ (57 : Int) < ((S[k].toNat : Nat) : Int) := by
          have := isD_byte S[k]
          by_cases h1 : ((S[k].toNat : Nat) : Int) < 48
          · exact .inl h1
          · by_cases h2 : (57 : Int) < ((S[k].toNat : Nat) : Int)
            · exact .inr h2
            · exact absurd (this.2 ⟨h1, h2⟩) hd
        clear hd hA hk0
        rcases hd' with h1 | h1
        · go_wp2
          go_ret
          exact ⟨by rw [HC.out]; rfl, rfl⟩
        · have h2 : ¬ ((S[k].toNat : Nat) : Int) < 48 := by omega
          go_wp2
          go_ret
          exact ⟨by rw [HC.out]; rfl, rfl⟩

theorem DigQ.num {S : ByteArray} {w w' : World} {e : Ending} (h : DigQ S w e w') (hd : allD (bl S) = true) : ∃ A c, e = .returned (.slice A (nd (val (bl S))) c) ∧ Nt .u32 w' w'.heap.size A c (val (bl S)) ∧ Below w.heap.size w w' := by
  obtain ⟨A, n, c, o, he, hF, hb, _, hv⟩ := h
  obtain ⟨rfl, ho⟩ := hv hd
  exact ⟨A, c, he, hF.congr ho, hb⟩
theorem nd_val_le (l : List UInt8) (h : allD l = true) : nd (val l) ≤ l.length := by
  refine nd_le (Nat.lt_of_lt_of_le (val_lt l h) ?_)
  rw [pw_ten]
  exact Nat.pow_le_pow_right (by decide) (by omega)
/-- What a reader of fractions gives. -/
def ReadQ (o : Option Rat) (w : World) (e : Ending) (w' : World) : Prop :=
  ∃ b A n c A' n' c', e = .returned (.tuple #[.agg #[.bool b, .slice A n c, .slice A' n' c'], .bool o.isSome]) ∧ Below w.heap.size w w' ∧ ∀ q, o = some q → Fr w' (.agg #[.bool b, .slice A n c, .slice A' n' c']) q

/-- Where the reader of long texts refuses. -/
def refuses (c1 neg z f c2 q0 q1 : Bool) : Bool := !c1 || (neg && z) || (f && (!c2 || q0 || q1 || z))

set_option maxRecDepth 100000 in
set_option maxHeartbeats 6400000 in
theorem readlong_no (S : ByteArray) (_hs : S.size ≤ 100) (w : World) (hno : lng? (bl S) = none)
    (P Q : ByteArray) (f : Bool) (R : ByteArray)
    (CP : ∀ w, Calls Tryz.prog 25 #[.string S, .string ⟨#[45]⟩] w fun e w' => e = .returned (.tuple #[.string R, .bool (isNeg (bl S))]) ∧ w = w')
    (CT : ∀ w, Calls Tryz.prog 28 #[.string R, .string ⟨#[47]⟩] w fun e w' => e = .returned (.tuple #[.string P, .string Q, .bool f]) ∧ ∃ n, w' = w.drewN n)
    (hP : P.size ≤ 100) (hQ : Q.size ≤ 100)
    (hr : refuses (canon (bl P)) (isNeg (bl S)) (P.toList == [48]) f (canon (bl Q)) (Q.toList == [48]) (Q.toList == [49]) = true) :
    Calls Tryz.prog 30 #[.string S] w (ReadQ (lng? (bl S)) w) := by
  have PP := fun w => plain_any P (by omega) w
  have PQ := fun w => plain_any Q (by omega) w
  rw [hno]
  generalize isNeg (bl S) = neg at *
  generalize canon (bl P) = k1 at *
  generalize canon (bl Q) = k2 at *
  generalize hz : (P.toList == [48]) = z at *
  generalize hq0 : (Q.toList == [48]) = q0 at *
  generalize hq1 : (Q.toList == [49]) = q1 at *
  clear hP hQ hno _hs
  go_enter Tryz.func30, Tryz.ntmps30
  obtain ⟨R0, _, _⟩ := box_rs w (.bool false) (.slice none 0 0) (.slice none 0 0) 41
  obtain ⟨r0, r1, r2⟩ := R0.cells
  clear R0
  have no : ∀ {p : Prop}, refuses true neg z f k2 q0 q1 = true → (neg && z) = false → (f && (!k2 || q0 || q1 || z)) = false → p := by
    intro p h h1 h2
    unfold refuses at h
    rw [h1, h2] at h
    cases h
  cases k1
  · clear hr no
    go_wp2_with (first
      | (go_at_call 55; ((with_reducible refine (PQ _).mono ?_); rintro e w' ⟨rfl, rfl⟩))
      | (go_at_call 55; ((with_reducible refine (PP _).mono ?_); rintro e w' ⟨rfl, rfl⟩))
      | (go_at_call 28; go_loud (refine (CT _).mono ?_; rintro e w' ⟨rfl, n, rfl⟩))
      | (go_at_call 25; go_loud (refine (CP _).mono ?_; rintro e w' ⟨rfl, rfl⟩)))
    exact bodyPost_ret (v := .tuple #[.agg #[.bool false, .slice none 0 0, .slice none 0 0], .bool false]) (by simp [results, Tryz.results30, go_sem, r0, r1, r2]) rfl ⟨false, none, 0, 0, none, 0, 0, rfl, put3_below (below_drewN ((Below.refl _ w).alloc (Nat.le_refl _) _) _) (Nat.le_refl _), fun q h => by cases h⟩
  · cases neg
    · cases f
      · exact no hr rfl rfl
      · cases k2
        · clear hr no
          go_wp2_with (first
            | (go_at_call 55; ((with_reducible refine (PQ _).mono ?_); rintro e w' ⟨rfl, rfl⟩))
            | (go_at_call 55; ((with_reducible refine (PP _).mono ?_); rintro e w' ⟨rfl, rfl⟩))
            | (go_at_call 28; go_loud (refine (CT _).mono ?_; rintro e w' ⟨rfl, n, rfl⟩))
            | (go_at_call 25; go_loud (refine (CP _).mono ?_; rintro e w' ⟨rfl, rfl⟩)))
          exact bodyPost_ret (v := .tuple #[.agg #[.bool false, .slice none 0 0, .slice none 0 0], .bool false]) (by simp [results, Tryz.results30, go_sem, r0, r1, r2]) rfl ⟨false, none, 0, 0, none, 0, 0, rfl, put3_below (below_drewN ((Below.refl _ w).alloc (Nat.le_refl _) _) _) (Nat.le_refl _), fun q h => by cases h⟩
        · cases q0
          · cases q1
            · cases z
              · exact no hr rfl rfl
              · clear hr no
                go_wp2_with (first
                  | (go_at_call 55; ((with_reducible refine (PQ _).mono ?_); rintro e w' ⟨rfl, rfl⟩))
                  | (go_at_call 55; ((with_reducible refine (PP _).mono ?_); rintro e w' ⟨rfl, rfl⟩))
                  | (go_at_call 28; go_loud (refine (CT _).mono ?_; rintro e w' ⟨rfl, n, rfl⟩))
                  | (go_at_call 25; go_loud (refine (CP _).mono ?_; rintro e w' ⟨rfl, rfl⟩)))
                exact bodyPost_ret (v := .tuple #[.agg #[.bool false, .slice none 0 0, .slice none 0 0], .bool false]) (by simp [results, Tryz.results30, go_sem, r0, r1, r2]) rfl ⟨false, none, 0, 0, none, 0, 0, rfl, put3_below (below_drewN ((Below.refl _ w).alloc (Nat.le_refl _) _) _) (Nat.le_refl _), fun q h => by cases h⟩
            · clear hr no
              go_wp2_with (first
                | (go_at_call 55; ((with_reducible refine (PQ _).mono ?_); rintro e w' ⟨rfl, rfl⟩))
                | (go_at_call 55; ((with_reducible refine (PP _).mono ?_); rintro e w' ⟨rfl, rfl⟩))
                | (go_at_call 28; go_loud (refine (CT _).mono ?_; rintro e w' ⟨rfl, n, rfl⟩))
                | (go_at_call 25; go_loud (refine (CP _).mono ?_; rintro e w' ⟨rfl, rfl⟩)))
              exact bodyPost_ret (v := .tuple #[.agg #[.bool false, .slice none 0 0, .slice none 0 0], .bool false]) (by simp [results, Tryz.results30, go_sem, r0, r1, r2]) rfl ⟨false, none, 0, 0, none, 0, 0, rfl, put3_below (below_drewN ((Below.refl _ w).alloc (Nat.le_refl _) _) _) (Nat.le_refl _), fun q h => by cases h⟩
          · clear hr no
            go_wp2_with (first
              | (go_at_call 55; ((with_reducible refine (PQ _).mono ?_); rintro e w' ⟨rfl, rfl⟩))
              | (go_at_call 55; ((with_reducible refine (PP _).mono ?_); rintro e w' ⟨rfl, rfl⟩))
              | (go_at_call 28; go_loud (refine (CT _).mono ?_; rintro e w' ⟨rfl, n, rfl⟩))
              | (go_at_call 25; go_loud (refine (CP _).mono ?_; rintro e w' ⟨rfl, rfl⟩)))
            exact bodyPost_ret (v := .tuple #[.agg #[.bool false, .slice none 0 0, .slice none 0 0], .bool false]) (by simp [results, Tryz.results30, go_sem, r0, r1, r2]) rfl ⟨false, none, 0, 0, none, 0, 0, rfl, put3_below (below_drewN ((Below.refl _ w).alloc (Nat.le_refl _) _) _) (Nat.le_refl _), fun q h => by cases h⟩
    · cases z
      · cases f
        · exact no hr rfl rfl
        · cases k2
          · clear hr no
            go_wp2_with (first
              | (go_at_call 55; ((with_reducible refine (PQ _).mono ?_); rintro e w' ⟨rfl, rfl⟩))
              | (go_at_call 55; ((with_reducible refine (PP _).mono ?_); rintro e w' ⟨rfl, rfl⟩))
              | (go_at_call 28; go_loud (refine (CT _).mono ?_; rintro e w' ⟨rfl, n, rfl⟩))
              | (go_at_call 25; go_loud (refine (CP _).mono ?_; rintro e w' ⟨rfl, rfl⟩)))
            exact bodyPost_ret (v := .tuple #[.agg #[.bool false, .slice none 0 0, .slice none 0 0], .bool false]) (by simp [results, Tryz.results30, go_sem, r0, r1, r2]) rfl ⟨false, none, 0, 0, none, 0, 0, rfl, put3_below (below_drewN ((Below.refl _ w).alloc (Nat.le_refl _) _) _) (Nat.le_refl _), fun q h => by cases h⟩
          · cases q0
            · cases q1
              · exact no hr rfl rfl
              · clear hr no
                go_wp2_with (first
                  | (go_at_call 55; ((with_reducible refine (PQ _).mono ?_); rintro e w' ⟨rfl, rfl⟩))
                  | (go_at_call 55; ((with_reducible refine (PP _).mono ?_); rintro e w' ⟨rfl, rfl⟩))
                  | (go_at_call 28; go_loud (refine (CT _).mono ?_; rintro e w' ⟨rfl, n, rfl⟩))
                  | (go_at_call 25; go_loud (refine (CP _).mono ?_; rintro e w' ⟨rfl, rfl⟩)))
                exact bodyPost_ret (v := .tuple #[.agg #[.bool false, .slice none 0 0, .slice none 0 0], .bool false]) (by simp [results, Tryz.results30, go_sem, r0, r1, r2]) rfl ⟨false, none, 0, 0, none, 0, 0, rfl, put3_below (below_drewN ((Below.refl _ w).alloc (Nat.le_refl _) _) _) (Nat.le_refl _), fun q h => by cases h⟩
            · clear hr no
              go_wp2_with (first
                | (go_at_call 55; ((with_reducible refine (PQ _).mono ?_); rintro e w' ⟨rfl, rfl⟩))
                | (go_at_call 55; ((with_reducible refine (PP _).mono ?_); rintro e w' ⟨rfl, rfl⟩))
                | (go_at_call 28; go_loud (refine (CT _).mono ?_; rintro e w' ⟨rfl, n, rfl⟩))
                | (go_at_call 25; go_loud (refine (CP _).mono ?_; rintro e w' ⟨rfl, rfl⟩)))
              exact bodyPost_ret (v := .tuple #[.agg #[.bool false, .slice none 0 0, .slice none 0 0], .bool false]) (by simp [results, Tryz.results30, go_sem, r0, r1, r2]) rfl ⟨false, none, 0, 0, none, 0, 0, rfl, put3_below (below_drewN ((Below.refl _ w).alloc (Nat.le_refl _) _) _) (Nat.le_refl _), fun q h => by cases h⟩
      · clear hr no
        go_wp2_with (first
          | (go_at_call 55; ((with_reducible refine (PQ _).mono ?_); rintro e w' ⟨rfl, rfl⟩))
          | (go_at_call 55; ((with_reducible refine (PP _).mono ?_); rintro e w' ⟨rfl, rfl⟩))
          | (go_at_call 28; go_loud (refine (CT _).mono ?_; rintro e w' ⟨rfl, n, rfl⟩))
          | (go_at_call 25; go_loud (refine (CP _).mono ?_; rintro e w' ⟨rfl, rfl⟩)))
        exact bodyPost_ret (v := .tuple #[.agg #[.bool false, .slice none 0 0, .slice none 0 0], .bool false]) (by simp [results, Tryz.results30, go_sem, r0, r1, r2]) rfl ⟨false, none, 0, 0, none, 0, 0, rfl, put3_below (below_drewN ((Below.refl _ w).alloc (Nat.le_refl _) _) _) (Nat.le_refl _), fun q h => by cases h⟩

end Go.Proofs.YthjnmnepjeegiaaGreatDoor

/- Fractions of the program: ReadLong where it reads, Read. -/
namespace Go.Proofs.YthjnmnepjeegiaaGreatDoor
open Go.RowKit Go.Proofs.YthjnmnepjeegiaaGreatDoor.Dg Go.Proofs.YthjnmnepjeegiaaGreatDoor.Q Go.Proofs.YthjnmnepjeegiaaGreatDoor.Num Go.Proofs.YthjnmnepjeegiaaGreatDoor.Str

/-- The world's first block is a result. -/
def K0 (w w' : World) : Prop := Rs w' w.heap.size (.bool false) (.slice none 0 0) (.slice none 0 0) 41 ∧ Below w.heap.size w w' ∧ w.heap.size < w'.heap.size
theorem K0.start (w : World) : K0 w (w.alloc (.cells #[.bool false, .slice none 0 0, .slice none 0 0] 41)) := box_rs w _ _ _ _
theorem K0.up {w w1 w2 : World} (h : K0 w w1) (hb : Below w1.heap.size w1 w2) : K0 w w2 := ⟨h.1.below hb h.2.2, btrans h.2.1 hb, Nat.lt_of_lt_of_le h.2.2 hb.size⟩
theorem K0.drewN {w w1 : World} (h : K0 w w1) (n : Nat) : K0 w (w1.drewN n) := h.up (below_drewN (Below.refl _ _) n)
theorem K0.alloc {w w1 : World} (h : K0 w w1) (o : Obj) : K0 w (w1.alloc o) := h.up ((Below.refl _ _).alloc (Nat.le_refl _) _)

set_option maxRecDepth 100000 in
set_option maxHeartbeats 6400000 in
theorem readlong_int (S : ByteArray) (w : World) (hw : Wf w) (P Q R : ByteArray)
    (CP : ∀ w, Calls Tryz.prog 25 #[.string S, .string ⟨#[45]⟩] w fun e w' => e = .returned (.tuple #[.string R, .bool (isNeg (bl S))]) ∧ w = w')
    (CT : ∀ w, Calls Tryz.prog 28 #[.string R, .string ⟨#[47]⟩] w fun e w' => e = .returned (.tuple #[.string P, .string Q, .bool false]) ∧ ∃ n, w' = w.drewN n)
    (hP : P.size ≤ 100) (hPb : bl P = body (bl S)) (hc : canon (bl P) = true) (hn : isNeg (bl S) = true → bl P ≠ [48]) :
    Calls Tryz.prog 30 #[.string S] w (ReadQ (lng? (bl S)) w) := by
  have PP := fun w => plain_any P (by omega) w
  have DG := fun w' (hb : Below w.heap.size w w') => digits_any P (by omega) w' (hw.up hb)
  obtain ⟨g1, g2, g3, g4⟩ := lng_int (l := bl S) (by rw [← hPb]; exact hc) (by rw [← hPb]; exact hn)
  rw [← hPb] at g1 g2 g3 g4
  have HL := Lib.hid (lng_iff.2 g1)
  have G2 := Lib.hid g2
  have G3 := Lib.hid g3
  have G4 := Lib.hid g4
  have HD := Lib.hid (canon_all hc).1
  have hz : (P.toList == [48]) = decide (bl P = [48]) := eqS P [48]
  rw [hc] at PP
  have k0 := Lib.hid (K0.start w)
  obtain ⟨zz, hzz⟩ : ∃ zz, decide (bl P = [48]) = zz := ⟨_, rfl⟩
  rw [hzz] at hz
  have hn' : isNeg (bl S) = true → zz = false := fun h => by rw [← hzz]; exact decide_eq_false (hn h)
  clear g1 g2 g3 g4 hc hn hPb hw hP hzz
  generalize mkRat (sg (isNeg (bl S)) (val (bl P))) 1 = q at *
  cases hneg : isNeg (bl S)
  · rw [hneg] at CP G4
    clear hn' hneg
    go_enter Tryz.func30, Tryz.ntmps30
    go_wp2_with (first
      | (go_at_call 56; go_loud (refine (DG _ (below_drewN k0.out.2.1 n)).mono ?_; rintro e w1 hdg; obtain ⟨A, c, rfl, hN, hb⟩ := hdg.num HD.out; have k1 := Lib.hid ((k0.out.drewN n).up hb); have N1 := Lib.hid hN; have k3 := Lib.hid ((k1.out.alloc (.cells #[.int .u32 1] 77)).alloc (.cells #[.bool false, .slice A (nd (val (bl P))) c, .slice (some ⟨w1.heap.size, 0, none⟩) 1 1] 41)); obtain ⟨r0, r1, r2⟩ := k3.out.1.cells; obtain ⟨f0, f1, f2⟩ := k3.out.1.frozen; clear hdg hN hb))
      | (go_at_call 55; ((with_reducible refine (PP _).mono ?_); rintro e w' ⟨rfl, rfl⟩))
      | (go_at_call 28; go_loud (refine (CT _).mono ?_; rintro e w' ⟨rfl, n, rfl⟩))
      | (go_at_call 25; go_loud (refine (CP _).mono ?_; rintro e w' ⟨rfl, rfl⟩)))
    refine bodyPost_ret (v := .tuple #[.agg #[.bool false, .slice A (nd (val (bl P))) c, .slice (some ⟨w1.heap.size, 0, none⟩) 1 1], .bool true]) (by simp [results, Tryz.results30, go_sem, r0, r1, r2]) rfl ?_
    have b1 := (Below.refl w1.heap.size w1).alloc (Nat.le_refl _) (.cells #[.int .u32 1] 77)
    have b2 := (Below.refl _ (w1.alloc (.cells #[.int .u32 1] 77))).alloc (Nat.le_refl _) (.cells #[.bool false, .slice A (nd (val (bl P))) c, .slice (some ⟨w1.heap.size, 0, none⟩) 1 1] 41)
    have M1 := ((N1.out.up b1).up b2).put3 k3.out.1 rfl rfl rfl (a := .bool false) (b := .slice A (nd (val (bl P))) c) (d := .slice (some ⟨w1.heap.size, 0, none⟩) 1 1)
    have M2 := ((Nt.one w1 77).up b2).put3 k3.out.1 rfl rfl rfl (a := .bool false) (b := .slice A (nd (val (bl P))) c) (d := .slice (some ⟨w1.heap.size, 0, none⟩) 1 1)
    have F := Fr.of_parts G4.out G2.out G3.out M1 M2
    rw [nd_one] at F
    rw [HL.out]
    exact ⟨_, _, _, _, _, _, _, rfl, put3_below k3.out.2.1 (Nat.le_refl _), fun q' h => by injection h with h; subst h; exact F⟩
  · rw [hneg] at CP G4
    have := hn' hneg
    subst this
    clear hn' hneg
    go_enter Tryz.func30, Tryz.ntmps30
    go_wp2_with (first
      | (go_at_call 56; go_loud (refine (DG _ (below_drewN k0.out.2.1 n)).mono ?_; rintro e w1 hdg; obtain ⟨A, c, rfl, hN, hb⟩ := hdg.num HD.out; have k1 := Lib.hid ((k0.out.drewN n).up hb); have N1 := Lib.hid hN; have k3 := Lib.hid ((k1.out.alloc (.cells #[.int .u32 1] 77)).alloc (.cells #[.bool true, .slice A (nd (val (bl P))) c, .slice (some ⟨w1.heap.size, 0, none⟩) 1 1] 41)); obtain ⟨r0, r1, r2⟩ := k3.out.1.cells; obtain ⟨f0, f1, f2⟩ := k3.out.1.frozen; clear hdg hN hb))
      | (go_at_call 55; ((with_reducible refine (PP _).mono ?_); rintro e w' ⟨rfl, rfl⟩))
      | (go_at_call 28; go_loud (refine (CT _).mono ?_; rintro e w' ⟨rfl, n, rfl⟩))
      | (go_at_call 25; go_loud (refine (CP _).mono ?_; rintro e w' ⟨rfl, rfl⟩)))
    refine bodyPost_ret (v := .tuple #[.agg #[.bool true, .slice A (nd (val (bl P))) c, .slice (some ⟨w1.heap.size, 0, none⟩) 1 1], .bool true]) (by simp [results, Tryz.results30, go_sem, r0, r1, r2]) rfl ?_
    have b1 := (Below.refl w1.heap.size w1).alloc (Nat.le_refl _) (.cells #[.int .u32 1] 77)
    have b2 := (Below.refl _ (w1.alloc (.cells #[.int .u32 1] 77))).alloc (Nat.le_refl _) (.cells #[.bool true, .slice A (nd (val (bl P))) c, .slice (some ⟨w1.heap.size, 0, none⟩) 1 1] 41)
    have M1 := ((N1.out.up b1).up b2).put3 k3.out.1 rfl rfl rfl (a := .bool true) (b := .slice A (nd (val (bl P))) c) (d := .slice (some ⟨w1.heap.size, 0, none⟩) 1 1)
    have M2 := ((Nt.one w1 77).up b2).put3 k3.out.1 rfl rfl rfl (a := .bool true) (b := .slice A (nd (val (bl P))) c) (d := .slice (some ⟨w1.heap.size, 0, none⟩) 1 1)
    have F := Fr.of_parts G4.out G2.out G3.out M1 M2
    rw [nd_one] at F
    rw [HL.out]
    exact ⟨_, _, _, _, _, _, _, rfl, put3_below k3.out.2.1 (Nat.le_refl _), fun q' h => by injection h with h; subst h; exact F⟩

end Go.Proofs.YthjnmnepjeegiaaGreatDoor

/- Fractions of the program: ReadLong of texts with a denominator. -/
namespace Go.Proofs.YthjnmnepjeegiaaGreatDoor
open Go.RowKit Go.Proofs.YthjnmnepjeegiaaGreatDoor.Dg Go.Proofs.YthjnmnepjeegiaaGreatDoor.Q Go.Proofs.YthjnmnepjeegiaaGreatDoor.Num Go.Proofs.YthjnmnepjeegiaaGreatDoor.Str

theorem Rs.set2 {w : World} {g : Nat} {a b c v : Value} {t : TypeId} (k : Rs w g a b c t) : Rs (w.setCell ⟨g, 2, none⟩ v) g a b v t := by
  unfold Rs at *
  simp [World.setCell, Array.getElem?_modify, k]
theorem Rs.set_other {w : World} {g h i : Nat} {a b c v : Value} {t : TypeId} (k : Rs w g a b c t) (hne : g ≠ h) : Rs (w.setCell ⟨h, i, none⟩ v) g a b c t := by
  unfold Rs at *
  simp only [World.setCell, Array.getElem?_modify]
  rw [if_neg (fun e => hne e.symm)]
  exact k
theorem Nt.set2 {k : IntKind} {w : World} {A : Option Addr} {c v g : Nat} {x y z d : Value} {t : TypeId} (h : Nt k w w.heap.size A c v) (hr : Rs w g x y z t) (hx : notInt x = true) (hy : notInt y = true) (hz : notInt z = true) :
    Nt k (w.setCell ⟨g, 2, none⟩ d) (w.setCell ⟨g, 2, none⟩ d).heap.size A c v := by
  have e : (w.setCell ⟨g, 2, none⟩ d).heap.size = w.heap.size := by simp [World.setCell]
  rw [e]
  have h3 := Fs.put3 h hr hx hy hz (a := x) (b := y) (d := d)
  refine ⟨h3.1, h3.2.1, fun hn => ?_⟩
  obtain ⟨b, off, e1, hlt, hc⟩ := h3.2.2 hn
  refine ⟨b, off, e1, hlt, fun j hj => ?_⟩
  rw [← hc j hj]
  unfold Rs at hr
  have e2 : (Go.Proofs.YthjnmnepjeegiaaGreatDoor.put3 w g x y d).heap[b]? = (w.setCell ⟨g, 2, none⟩ d).heap[b]? := by
    by_cases hb : b = g
    · subst hb
      simp [Go.Proofs.YthjnmnepjeegiaaGreatDoor.put3, World.setCell, Array.getElem?_modify, hr]
    · rw [put3_block _ _ _ _ _ hb]
      simp only [World.setCell, Array.getElem?_modify]
      rw [if_neg (fun e => hb e.symm)]
  simp only [World.cell?, e2]
theorem K0.set {w w1 : World} (h : K0 w w1) {g i : Nat} (hg : g ≠ w.heap.size) (hg2 : w.heap.size ≤ g) (v : Value) : K0 w (w1.setCell ⟨g, i, none⟩ v) :=
  ⟨h.1.set_other (fun e => hg e.symm), h.2.1.setCell hg2 _, by simp [World.setCell]; exact h.2.2⟩

set_option maxRecDepth 100000 in
set_option maxHeartbeats 6400000 in
theorem readlong_cut (S : ByteArray) (w : World) (hw : Wf w) (P Q R : ByteArray)
    (CP : ∀ w, Calls Tryz.prog 25 #[.string S, .string ⟨#[45]⟩] w fun e w' => e = .returned (.tuple #[.string R, .bool (isNeg (bl S))]) ∧ w = w')
    (CT : ∀ w, Calls Tryz.prog 28 #[.string R, .string ⟨#[47]⟩] w fun e w' => e = .returned (.tuple #[.string P, .string Q, .bool true]) ∧ ∃ n, w' = w.drewN n)
    (hP : P.size ≤ 100) (hQ : Q.size ≤ 100) (hb : body (bl S) = bl P ++ 47 :: bl Q) (h47 : (47 : UInt8) ∉ bl P) (hc : canon (bl P) = true) (hc2 : canon (bl Q) = true) (hp0 : bl P ≠ [48]) (hq0 : bl Q ≠ [48]) (hq1 : bl Q ≠ [49]) :
    Calls Tryz.prog 30 #[.string S] w (ReadQ (lng? (bl S)) w) := by
  have PP := fun w => plain_any P (by omega) w
  have PQ := fun w => plain_any Q (by omega) w
  rw [hc] at PP
  rw [hc2] at PQ
  have DP := fun w' (hb : Below w.heap.size w w') => digits_any P (by omega) w' (hw.up hb)
  have DQ := fun w' (hb : Below w.heap.size w w') => digits_any Q (by omega) w' (hw.up hb)
  have n1 : nd (val (bl P)) ≤ 100 := Nat.le_trans (nd_val_le _ (canon_all hc).1) (by rw [bl_len]; exact hP)
  have n2 : nd (val (bl Q)) ≤ 100 := Nat.le_trans (nd_val_le _ (canon_all hc2).1) (by rw [bl_len]; exact hQ)
  have GC := fun w' A A' c c' h h' => gcd_any A A' c c' (val (bl P)) (val (bl Q)) w' h h' (by omega) (by omega)
  have HD := Lib.hid (canon_all hc).1
  have HD2 := Lib.hid (canon_all hc2).1
  have z1 : (P.toList == [48]) = false := by rw [eqS]; exact decide_eq_false hp0
  have z2 : (Q.toList == [48]) = false := by rw [eqS]; exact decide_eq_false hq0
  have z3 : (Q.toList == [49]) = false := by rw [eqS]; exact decide_eq_false hq1
  have k0 := Lib.hid (K0.start w)
  have FIN : Hid ((Nat.gcd (val (bl P)) (val (bl Q)) = 1 → lng? (bl S) = some (mkRat (sg (isNeg (bl S)) (val (bl P))) (val (bl Q)))) ∧ (Nat.gcd (val (bl P)) (val (bl Q)) ≠ 1 → lng? (bl S) = none)) :=
    ⟨fun hg => lng_iff.2 (lng_cut hb hc hc2 hp0 hq0 hq1 hg).1, fun hg => lng_none fun q e => hg (lng_cut_no hb h47 e).2.2.2.2.2.1⟩
  have PRT : Hid (Nat.gcd (val (bl P)) (val (bl Q)) = 1 → ngt (mkRat (sg (isNeg (bl S)) (val (bl P))) (val (bl Q))) = isNeg (bl S) ∧ top (mkRat (sg (isNeg (bl S)) (val (bl P))) (val (bl Q))) = val (bl P) ∧ (mkRat (sg (isNeg (bl S)) (val (bl P))) (val (bl Q))).den = val (bl Q)) := by
    intro hg
    obtain ⟨_, p2, p3, p4⟩ := lng_cut hb hc hc2 hp0 hq0 hq1 hg
    exact ⟨p4, p2, p3⟩
  clear hb h47 hc hc2 hp0 hq0 hq1 hP hQ hw n1 n2
  generalize mkRat (sg (isNeg (bl S)) (val (bl P))) (val (bl Q)) = q at *
  obtain ⟨g, hgg⟩ : ∃ g, Nat.gcd (val (bl P)) (val (bl Q)) = g := ⟨_, rfl⟩
  rw [hgg] at GC FIN PRT
  clear hgg
  have OG := fun w' A c h => one_any A c g w' h
  cases hneg : isNeg (bl S)
  · rw [hneg] at CP PRT
    clear hneg
    go_enter Tryz.func30, Tryz.ntmps30
    go_wp2_with (first
      | (go_at_call 56; (refine (DQ _ k3.out.2.1).mono ?_; rintro e w4 hdg; obtain ⟨A2, c2, rfl, hN, hb⟩ := hdg.num HD2.out; have k4 := Lib.hid (k3.out.up hb); have N2 := Lib.hid hN; have N1' := Lib.hid (N3.out.up hb); have L4 := Lib.hid (L3.out.below hb S3.out); obtain ⟨u0, u1, u2⟩ := L4.out.cells; obtain ⟨g0, g1, g2⟩ := L4.out.frozen; clear hdg hN hb))
      | (go_at_call 56; go_loud (refine (DP _ (below_drewN k0.out.2.1 n)).mono ?_; rintro e w1 hdg; obtain ⟨A, c, rfl, hN, hb⟩ := hdg.num HD.out; have k1 := Lib.hid ((k0.out.drewN n).up hb); have k2 := k1.out.alloc (.cells #[.int .u32 1] 77); have k3 := Lib.hid (k2.alloc (.cells #[.bool false, .slice A (nd (val (bl P))) c, .slice (some ⟨w1.heap.size, 0, none⟩) 1 1] 41)); have b1 := (Below.refl w1.heap.size w1).alloc (Nat.le_refl _) (.cells #[.int .u32 1] 77); have bx := box_rs (w1.alloc (.cells #[.int .u32 1] 77)) (.bool false) (.slice A (nd (val (bl P))) c) (.slice (some ⟨w1.heap.size, 0, none⟩) 1 1) 41; have e1 : (w1.alloc (.cells #[.int .u32 1] 77)).heap.size = w1.heap.size + 1 := (by simp); have N3 := Lib.hid ((hN.up b1).up (bx.2.1)); have HE := Lib.hid e1; rw [e1] at bx; have L3 := Lib.hid bx.1; have S3 := Lib.hid bx.2.2; have G1 := Lib.hid k1.out.2.2; clear hdg hN hb k2 b1 bx e1))
      | (go_at_call 55; ((with_reducible refine (PQ _).mono ?_); rintro e w' ⟨rfl, rfl⟩))
      | (go_at_call 55; ((with_reducible refine (PP _).mono ?_); rintro e w' ⟨rfl, rfl⟩))
      | (go_at_call 28; go_loud (refine (CT _).mono ?_; rintro e w' ⟨rfl, n, rfl⟩))
      | (go_at_call 25; go_loud (refine (CP _).mono ?_; rintro e w' ⟨rfl, rfl⟩)))
    have hLw : w1.heap.size + 1 ≠ w.heap.size := by have := G1.out; omega
    have L5 := Lib.hid (L4.out.set2 (v := .slice A2 (nd (val (bl Q))) c2))
    have M1 := Lib.hid (N1'.out.set2 L4.out rfl rfl rfl (d := .slice A2 (nd (val (bl Q))) c2))
    have M2 := Lib.hid (N2.out.set2 L4.out rfl rfl rfl (d := .slice A2 (nd (val (bl Q))) c2))
    have k5 := Lib.hid (k4.out.set (i := 2) hLw (by have := G1.out; omega) (.slice A2 (nd (val (bl Q))) c2))
    have HLW := Lib.hid hLw
    have hLt : w1.heap.size + 1 < (w4.setCell ⟨w1.heap.size + 1, 2, none⟩ (.slice A2 (nd (val (bl Q))) c2)).heap.size := by
      have h := L5.out
      unfold Rs at h
      exact (Array.getElem?_eq_some_iff.1 h).1
    have HLT := Lib.hid hLt
    obtain ⟨x0, x1, x2⟩ := L5.out.cells
    clear u0 u1 u2 g0 g1 g2 L4 N1' N2 k4 hLw hLt
    generalize w4.setCell ⟨w1.heap.size + 1, 2, none⟩ (.slice A2 (nd (val (bl Q))) c2) = w5 at *
    generalize w1.heap.size + 1 = L at *
    go_region_held3 (fun w' => w'.cell? ⟨L, 0, none⟩ = some (.bool false) ∧ w'.cell? ⟨L, 1, none⟩ = some (.slice A (nd (val (bl P))) c) ∧ w'.cell? ⟨L, 2, none⟩ = some (.slice A2 (nd (val (bl Q))) c2))
      (first | exact (L6.out.put3_other HLW.out).cells | exact L6.out.cells | go_keep)
      (first
        | (go_at_call 57; refine (GC _ _ _ _ _ (M1.out.drewN 1) (M2.out.drewN 1)).mono ?_; rintro e w6 ⟨A3, c3, rfl, hN, hb⟩; have N3' := Lib.hid hN; have k6 := Lib.hid ((k5.out.drewN 1).up hb); have L6 := Lib.hid (L5.out.below (B := w5.heap.size) ((below_drewN (Below.refl _ w5) 1).trans hb) HLT.out); have P1 := Lib.hid ((M1.out.drewN 1).up hb); have P2 := Lib.hid ((M2.out.drewN 1).up hb); obtain ⟨r0, r1, r2⟩ := k6.out.1.cells; obtain ⟨f0, f1, f2⟩ := k6.out.1.frozen; clear hN hb)
        | (go_at_call 58; refine (OG _ _ _ N3'.out).mono ?_; rintro e w7 ⟨rfl, rfl⟩))
    go_wp2
    refine bodyPost_ret (v := .tuple #[.agg #[.bool false, .slice A (nd (val (bl P))) c, .slice A2 (nd (val (bl Q))) c2], .bool (decide (g = 1))]) (by simp [results, Tryz.results30, go_sem, r0, r1, r2]) rfl ?_
    have T1 := P1.out.put3 k6.out.1 rfl rfl rfl (a := .bool false) (b := .slice A (nd (val (bl P))) c) (d := .slice A2 (nd (val (bl Q))) c2)
    have T2 := P2.out.put3 k6.out.1 rfl rfl rfl (a := .bool false) (b := .slice A (nd (val (bl P))) c) (d := .slice A2 (nd (val (bl Q))) c2)
    by_cases hg : g = 1
    · obtain ⟨e1, e2, e3⟩ := PRT.out hg
      have F := Fr.of_parts e1 e2 e3 T1 T2
      rw [FIN.out.1 hg, decide_eq_true hg]
      exact ⟨_, _, _, _, _, _, _, rfl, put3_below k6.out.2.1 (Nat.le_refl _), fun q' h => by injection h with h; subst h; exact F⟩
    · rw [FIN.out.2 hg, decide_eq_false hg]
      exact ⟨_, _, _, _, _, _, _, rfl, put3_below k6.out.2.1 (Nat.le_refl _), fun q' h => by cases h⟩
  · rw [hneg] at CP PRT
    clear hneg
    go_enter Tryz.func30, Tryz.ntmps30
    go_wp2_with (first
      | (go_at_call 56; (refine (DQ _ k3.out.2.1).mono ?_; rintro e w4 hdg; obtain ⟨A2, c2, rfl, hN, hb⟩ := hdg.num HD2.out; have k4 := Lib.hid (k3.out.up hb); have N2 := Lib.hid hN; have N1' := Lib.hid (N3.out.up hb); have L4 := Lib.hid (L3.out.below hb S3.out); obtain ⟨u0, u1, u2⟩ := L4.out.cells; obtain ⟨g0, g1, g2⟩ := L4.out.frozen; clear hdg hN hb))
      | (go_at_call 56; go_loud (refine (DP _ (below_drewN k0.out.2.1 n)).mono ?_; rintro e w1 hdg; obtain ⟨A, c, rfl, hN, hb⟩ := hdg.num HD.out; have k1 := Lib.hid ((k0.out.drewN n).up hb); have k2 := k1.out.alloc (.cells #[.int .u32 1] 77); have k3 := Lib.hid (k2.alloc (.cells #[.bool true, .slice A (nd (val (bl P))) c, .slice (some ⟨w1.heap.size, 0, none⟩) 1 1] 41)); have b1 := (Below.refl w1.heap.size w1).alloc (Nat.le_refl _) (.cells #[.int .u32 1] 77); have bx := box_rs (w1.alloc (.cells #[.int .u32 1] 77)) (.bool true) (.slice A (nd (val (bl P))) c) (.slice (some ⟨w1.heap.size, 0, none⟩) 1 1) 41; have e1 : (w1.alloc (.cells #[.int .u32 1] 77)).heap.size = w1.heap.size + 1 := (by simp); have N3 := Lib.hid ((hN.up b1).up (bx.2.1)); have HE := Lib.hid e1; rw [e1] at bx; have L3 := Lib.hid bx.1; have S3 := Lib.hid bx.2.2; have G1 := Lib.hid k1.out.2.2; clear hdg hN hb k2 b1 bx e1))
      | (go_at_call 55; ((with_reducible refine (PQ _).mono ?_); rintro e w' ⟨rfl, rfl⟩))
      | (go_at_call 55; ((with_reducible refine (PP _).mono ?_); rintro e w' ⟨rfl, rfl⟩))
      | (go_at_call 28; go_loud (refine (CT _).mono ?_; rintro e w' ⟨rfl, n, rfl⟩))
      | (go_at_call 25; go_loud (refine (CP _).mono ?_; rintro e w' ⟨rfl, rfl⟩)))
    have hLw : w1.heap.size + 1 ≠ w.heap.size := by have := G1.out; omega
    have L5 := Lib.hid (L4.out.set2 (v := .slice A2 (nd (val (bl Q))) c2))
    have M1 := Lib.hid (N1'.out.set2 L4.out rfl rfl rfl (d := .slice A2 (nd (val (bl Q))) c2))
    have M2 := Lib.hid (N2.out.set2 L4.out rfl rfl rfl (d := .slice A2 (nd (val (bl Q))) c2))
    have k5 := Lib.hid (k4.out.set (i := 2) hLw (by have := G1.out; omega) (.slice A2 (nd (val (bl Q))) c2))
    have HLW := Lib.hid hLw
    have hLt : w1.heap.size + 1 < (w4.setCell ⟨w1.heap.size + 1, 2, none⟩ (.slice A2 (nd (val (bl Q))) c2)).heap.size := by
      have h := L5.out
      unfold Rs at h
      exact (Array.getElem?_eq_some_iff.1 h).1
    have HLT := Lib.hid hLt
    obtain ⟨x0, x1, x2⟩ := L5.out.cells
    clear u0 u1 u2 g0 g1 g2 L4 N1' N2 k4 hLw hLt
    generalize w4.setCell ⟨w1.heap.size + 1, 2, none⟩ (.slice A2 (nd (val (bl Q))) c2) = w5 at *
    generalize w1.heap.size + 1 = L at *
    go_region_held3 (fun w' => w'.cell? ⟨L, 0, none⟩ = some (.bool true) ∧ w'.cell? ⟨L, 1, none⟩ = some (.slice A (nd (val (bl P))) c) ∧ w'.cell? ⟨L, 2, none⟩ = some (.slice A2 (nd (val (bl Q))) c2))
      (first | exact (L6.out.put3_other HLW.out).cells | exact L6.out.cells | go_keep)
      (first
        | (go_at_call 57; refine (GC _ _ _ _ _ (M1.out.drewN 1) (M2.out.drewN 1)).mono ?_; rintro e w6 ⟨A3, c3, rfl, hN, hb⟩; have N3' := Lib.hid hN; have k6 := Lib.hid ((k5.out.drewN 1).up hb); have L6 := Lib.hid (L5.out.below (B := w5.heap.size) ((below_drewN (Below.refl _ w5) 1).trans hb) HLT.out); have P1 := Lib.hid ((M1.out.drewN 1).up hb); have P2 := Lib.hid ((M2.out.drewN 1).up hb); obtain ⟨r0, r1, r2⟩ := k6.out.1.cells; obtain ⟨f0, f1, f2⟩ := k6.out.1.frozen; clear hN hb)
        | (go_at_call 58; refine (OG _ _ _ N3'.out).mono ?_; rintro e w7 ⟨rfl, rfl⟩))
    go_wp2
    refine bodyPost_ret (v := .tuple #[.agg #[.bool true, .slice A (nd (val (bl P))) c, .slice A2 (nd (val (bl Q))) c2], .bool (decide (g = 1))]) (by simp [results, Tryz.results30, go_sem, r0, r1, r2]) rfl ?_
    have T1 := P1.out.put3 k6.out.1 rfl rfl rfl (a := .bool true) (b := .slice A (nd (val (bl P))) c) (d := .slice A2 (nd (val (bl Q))) c2)
    have T2 := P2.out.put3 k6.out.1 rfl rfl rfl (a := .bool true) (b := .slice A (nd (val (bl P))) c) (d := .slice A2 (nd (val (bl Q))) c2)
    by_cases hg : g = 1
    · obtain ⟨e1, e2, e3⟩ := PRT.out hg
      have F := Fr.of_parts e1 e2 e3 T1 T2
      rw [FIN.out.1 hg, decide_eq_true hg]
      exact ⟨_, _, _, _, _, _, _, rfl, put3_below k6.out.2.1 (Nat.le_refl _), fun q' h => by injection h with h; subst h; exact F⟩
    · rw [FIN.out.2 hg, decide_eq_false hg]
      exact ⟨_, _, _, _, _, _, _, rfl, put3_below k6.out.2.1 (Nat.le_refl _), fun q' h => by cases h⟩

end Go.Proofs.YthjnmnepjeegiaaGreatDoor

/- Fractions of the program: ReadLong at any short text; Read at any text. -/
namespace Go.Proofs.YthjnmnepjeegiaaGreatDoor
open Go.RowKit Go.Proofs.YthjnmnepjeegiaaGreatDoor.Dg Go.Proofs.YthjnmnepjeegiaaGreatDoor.Q Go.Proofs.YthjnmnepjeegiaaGreatDoor.Num Go.Proofs.YthjnmnepjeegiaaGreatDoor.Str

/-- strings.Cut gives the same in every world. -/
theorem cut_fixed (R : ByteArray) (c : UInt8) (hs : R.size ≤ 9223372036854775807) : ∃ (P Q : ByteArray) (f : Bool),
    (∀ w, Calls Tryz.prog 28 #[.string R, .string ⟨#[c]⟩] w fun e w' => e = .returned (.tuple #[.string P, .string Q, .bool f]) ∧ ∃ n, w' = w.drewN n) ∧
    (f = true → bl R = bl P ++ c :: bl Q ∧ c ∉ bl P) ∧ (f = false → P = R ∧ Q = ⟨#[]⟩ ∧ c ∉ bl R) := by
  by_cases hm : c ∈ bl R
  · obtain ⟨a, b, h1, h2⟩ := List.append_of_mem hm |>.elim fun a h => h.elim fun b h => (by
      obtain ⟨x, y, e1, e2⟩ : ∃ x y, bl R = x ++ c :: y ∧ c ∉ x := by
        rcases indexByte_cases (bl R) c with ⟨_, h2⟩ | ⟨x, y, e1, e2, _⟩
        · exact absurd hm h2
        · exact ⟨x, y, e1, e2⟩
      exact (⟨x, y, e1, e2⟩ : ∃ x y, bl R = x ++ c :: y ∧ c ∉ x))
    refine ⟨⟨a.toArray⟩, ⟨b.toArray⟩, true, fun w => (cut_any R c hs w).mono ?_, fun _ => ⟨h1, h2⟩, fun h => by cases h⟩
    rintro e w' ⟨P, Q, f, rfl, g1, g2, g3⟩
    cases f
    · exact absurd hm (g2 rfl).2.2
    · obtain ⟨g4, g5⟩ := g1 rfl
      obtain ⟨e1, e2⟩ := cut_unique h2 g5 (h1.symm.trans g4)
      exact ⟨by rw [show P = ⟨a.toArray⟩ from bl_eq.2 e1.symm, show Q = ⟨b.toArray⟩ from bl_eq.2 e2.symm], g3⟩
  · refine ⟨R, ⟨#[]⟩, false, fun w => (cut_any R c hs w).mono ?_, (fun h => by cases h), fun _ => ⟨rfl, rfl, hm⟩⟩
    rintro e w' ⟨P, Q, f, rfl, g1, g2, g3⟩
    cases f
    · obtain ⟨rfl, rfl, _⟩ := g2 rfl
      exact ⟨rfl, g3⟩
    · exact absurd (by rw [(g1 rfl).1]; simp) hm
theorem cutneg_fixed (S : ByteArray) (w : World) : Calls Tryz.prog 25 #[.string S, .string ⟨#[45]⟩] w fun e w' => e = .returned (.tuple #[.string ⟨(body (bl S)).toArray⟩, .bool (isNeg (bl S))]) ∧ w = w' := by
  refine (cutneg_any S w).mono ?_
  rintro e w' ⟨R, rfl, h, rfl⟩
  exact ⟨by rw [show R = ⟨(body (bl S)).toArray⟩ from bl_eq.2 h], rfl⟩
theorem trimneg_fixed (S : ByteArray) (w : World) : Calls Tryz.prog 29 #[.string S, .string ⟨#[45]⟩] w fun e w' => e = .returned (.string ⟨(body (bl S)).toArray⟩) ∧ w = w' := by
  refine (trimneg_any S w).mono ?_
  rintro e w' ⟨R, rfl, h, rfl⟩
  exact ⟨by rw [show R = ⟨(body (bl S)).toArray⟩ from bl_eq.2 h], rfl⟩
theorem refuses_false {c1 neg z f c2 q0 q1 : Bool} (h : refuses c1 neg z f c2 q0 q1 = false) : c1 = true ∧ (neg = true → z = false) ∧ (f = true → c2 = true ∧ q0 = false ∧ q1 = false ∧ z = false) := by
  revert h
  cases c1 <;> cases neg <;> cases z <;> cases f <;> cases c2 <;> cases q0 <;> cases q1 <;> decide

theorem readlong_any (S : ByteArray) (hs : S.size ≤ 100) (w : World) (hw : Wf w) : Calls Tryz.prog 30 #[.string S] w (ReadQ (lng? (bl S)) w) := by
  have hR : (⟨(body (bl S)).toArray⟩ : ByteArray).size ≤ 100 := by
    rw [← bl_len]
    have := body_len (bl S)
    rw [bl_len] at this
    exact Nat.le_trans this hs
  obtain ⟨P, Q, f, CT, h1, h2⟩ := cut_fixed ⟨(body (bl S)).toArray⟩ 47 (by omega)
  have hR' : (body (bl S)).length ≤ 100 := by rw [← bl_len] at hR; exact hR
  have hP : P.size ≤ 100 := by
    cases f
    · rw [(h2 rfl).1]; exact hR
    · have := congrArg List.length (h1 rfl).1
      rw [List.length_append, bl_mk] at this
      rw [← bl_len]; omega
  have hQ : Q.size ≤ 100 := by
    cases f
    · rw [(h2 rfl).2.1]; exact Nat.zero_le _
    · have := congrArg List.length (h1 rfl).1
      rw [List.length_append, bl_mk, List.length_cons] at this
      rw [← bl_len]; omega
  have zP := eqS P [48]
  have zQ := eqS Q [48]
  have zQ1 := eqS Q [49]
  have no_of : refuses (canon (bl P)) (isNeg (bl S)) (P.toList == [48]) f (canon (bl Q)) (Q.toList == [48]) (Q.toList == [49]) = true → lng? (bl S) = none := by
    intro hr
    refine lng_none fun q hq => ?_
    cases f
    · obtain ⟨e1, _, e3⟩ := h2 rfl
      have hb : bl P = body (bl S) := by rw [e1]; rfl
      obtain ⟨g1, g2⟩ := lng_int_no (by exact e3) hq
      rw [← hb] at g1 g2
      rw [g1, zP] at hr
      unfold refuses at hr
      simp only [Bool.not_true, Bool.false_or, Bool.false_and, Bool.or_false, Bool.and_eq_true, decide_eq_true_eq] at hr
      exact g2 hr.1 hr.2
    · obtain ⟨e1, e2⟩ := h1 rfl
      obtain ⟨g1, g2, g3, g4, g5, _⟩ := lng_cut_no (by exact e1) e2 hq
      rw [g1, g2, zP, zQ, zQ1, decide_eq_false g3, decide_eq_false g4, decide_eq_false g5] at hr
      unfold refuses at hr
      simp at hr
  cases hr : refuses (canon (bl P)) (isNeg (bl S)) (P.toList == [48]) f (canon (bl Q)) (Q.toList == [48]) (Q.toList == [49])
  · obtain ⟨c1, c2, c3⟩ := refuses_false hr
    cases f
    · have hb : bl P = body (bl S) := by rw [(h2 rfl).1]; rfl
      exact readlong_int S w hw P Q _ (cutneg_fixed S) CT hP hb c1 (fun h e => by have := c2 h; rw [zP] at this; exact of_decide_eq_false this e)
    · obtain ⟨e1, e2⟩ := h1 rfl
      obtain ⟨d1, d2, d3, d4⟩ := c3 rfl
      rw [zP] at d4; rw [zQ] at d2; rw [zQ1] at d3
      exact readlong_cut S w hw P Q _ (cutneg_fixed S) CT hP hQ e1 e2 c1 d1 (of_decide_eq_false d4) (of_decide_eq_false d2) (of_decide_eq_false d3)
  · exact readlong_no S hs w (no_of hr) P Q f _ (cutneg_fixed S) CT hP hQ hr

set_option maxRecDepth 100000 in
set_option maxHeartbeats 3200000 in
theorem read_any (S : ByteArray) (hs : S.size ≤ 9223372036854775807) (w : World) (hw : Wf w) : Calls Tryz.prog 10 #[.string S] w (ReadQ (num? (bl S)) w) := by
  have hR : (⟨(body (bl S)).toArray⟩ : ByteArray).size ≤ S.size := by
    rw [← bl_len, ← bl_len]
    exact body_len (bl S)
  obtain ⟨P, Q, f, CT, h1, h2⟩ := cut_fixed ⟨(body (bl S)).toArray⟩ 47 (by omega)
  have TP := trimneg_fixed S
  have hsh : ∀ q, txt q = bl S → short q = (decide (P.size ≤ 40) && decide (Q.size ≤ 40)) := by
    intro q hq
    cases f
    · obtain ⟨e1, e2, e3⟩ := h2 rfl
      have hb : bl P = body (bl S) := by rw [e1]; rfl
      rw [short_int (by exact e3) hq, ← hb, bl_len, e2]
      have : decide ((⟨#[]⟩ : ByteArray).size ≤ 40) = true := rfl
      rw [this, Bool.and_true]
    · obtain ⟨e1, e2⟩ := h1 rfl
      rw [short_cut (by exact e1) e2 hq, bl_len, bl_len]
  have hno : (decide (P.size ≤ 40) && decide (Q.size ≤ 40)) = false → num? (bl S) = none := by
    intro h
    cases hn : num? (bl S) with
    | none => rfl
    | some q =>
      obtain ⟨e1, e2⟩ := num_iff.1 hn
      rw [hsh q e1, h] at e2; cases e2
  have hyes : (decide (P.size ≤ 40) && decide (Q.size ≤ 40)) = true → num? (bl S) = lng? (bl S) ∧ S.size ≤ 100 := by
    intro h
    refine ⟨?_, ?_⟩
    · rw [num_lng]
      cases hl : lng? (bl S) with
      | none => rfl
      | some q =>
        have := hsh q (lng_iff.1 hl)
        rw [h] at this
        simp [Option.filter, this]
    · simp only [Bool.and_eq_true, decide_eq_true_eq] at h
      have e := body_is (bl S)
      have e' := congrArg List.length e
      rw [List.length_append, bl_len] at e'
      have e2 : (if isNeg (bl S) = true then ([45] : List UInt8) else []).length ≤ 1 := by split <;> simp
      have e3 : (body (bl S)).length ≤ 81 := by
        cases f
        · have hb : bl P = body (bl S) := by rw [(h2 rfl).1]; rfl
          rw [← hb, bl_len]; omega
        · have := congrArg List.length (h1 rfl).1
          rw [List.length_append, bl_mk, List.length_cons, bl_len, bl_len] at this
          omega
      omega
  have k0 := Lib.hid (K0.start w)
  have HNO := Lib.hid hno
  clear h1 h2 hsh hno
  generalize (⟨(body (bl S)).toArray⟩ : ByteArray) = R at *
  by_cases c1 : P.size ≤ 40
  · have i1 : ¬ (40 : Int) < (P.size : Int) := by omega
    by_cases c2 : Q.size ≤ 40
    · obtain ⟨e1, e2⟩ := hyes (by rw [decide_eq_true c1, decide_eq_true c2]; rfl)
      have RL := fun w' (hb : Below w.heap.size w w') => readlong_any S e2 w' (hw.up hb)
      have i2 : ¬ (40 : Int) < (Q.size : Int) := by omega
      rw [e1]
      generalize lng? (bl S) = o at *
      clear hyes c1 c2 e1 hw
      go_enter Tryz.func10, Tryz.ntmps10
      go_wp2_with (first
        | (go_at_call 30; go_loud (refine (RL _ (k0.out.drewN n).2.1).mono ?_; rintro e w2 ⟨b, A, l1, c1, A', l2, c2, rfl, hb, hF⟩; have k2 := Lib.hid ((k0.out.drewN n).up hb); have F := Lib.hid hF; obtain ⟨r0, r1, r2⟩ := k2.out.1.cells; obtain ⟨f0, f1, f2⟩ := k2.out.1.frozen; clear hb hF))
        | (go_at_call 28; go_loud (refine (CT _).mono ?_; rintro e w' ⟨rfl, n, rfl⟩))
        | (go_at_call 29; go_loud (refine (TP _).mono ?_; rintro e w' ⟨rfl, rfl⟩)))
      refine bodyPost_ret (v := .tuple #[.agg #[.bool b, .slice A l1 c1, .slice A' l2 c2], .bool o.isSome]) (by simp [results, Tryz.results10, go_sem, r0, r1, r2]) rfl ?_
      refine ⟨_, _, _, _, _, _, _, rfl, put3_below k2.out.2.1 (Nat.le_refl _), fun q hq => ?_⟩
      obtain ⟨B1, x1, B2, x2, e, n1, n2⟩ := F.out q hq
      exact ⟨B1, x1, B2, x2, e, n1.put3 k2.out.1 rfl rfl rfl, n2.put3 k2.out.1 rfl rfl rfl⟩
    · have hn := HNO.out (by rw [decide_eq_true c1, decide_eq_false c2]; rfl)
      have i2 : (40 : Int) < (Q.size : Int) := by omega
      obtain ⟨r0, r1, r2⟩ := k0.out.1.cells
      rw [hn]
      clear hyes c1 c2 hn hw
      go_enter Tryz.func10, Tryz.ntmps10
      go_wp2_with (first
        | (go_at_call 28; go_loud (refine (CT _).mono ?_; rintro e w' ⟨rfl, n, rfl⟩))
        | (go_at_call 29; go_loud (refine (TP _).mono ?_; rintro e w' ⟨rfl, rfl⟩)))
      exact bodyPost_ret (v := .tuple #[.agg #[.bool false, .slice none 0 0, .slice none 0 0], .bool false]) (by simp [results, Tryz.results10, go_sem, r0, r1, r2]) rfl ⟨false, none, 0, 0, none, 0, 0, rfl, put3_below (below_drewN ((Below.refl _ w).alloc (Nat.le_refl _) _) _) (Nat.le_refl _), fun q h => by cases h⟩
  · have hn := HNO.out (by rw [decide_eq_false c1, Bool.false_and])
    have i1 : (40 : Int) < (P.size : Int) := by omega
    obtain ⟨r0, r1, r2⟩ := k0.out.1.cells
    rw [hn]
    clear hyes c1 hn hw
    go_enter Tryz.func10, Tryz.ntmps10
    go_wp2_with (first
      | (go_at_call 28; go_loud (refine (CT _).mono ?_; rintro e w' ⟨rfl, n, rfl⟩))
      | (go_at_call 29; go_loud (refine (TP _).mono ?_; rintro e w' ⟨rfl, rfl⟩)))
    exact bodyPost_ret (v := .tuple #[.agg #[.bool false, .slice none 0 0, .slice none 0 0], .bool false]) (by simp [results, Tryz.results10, go_sem, r0, r1, r2]) rfl ⟨false, none, 0, 0, none, 0, 0, rfl, put3_below (below_drewN ((Below.refl _ w).alloc (Nat.le_refl _) _) _) (Nat.le_refl _), fun q h => by cases h⟩

end Go.Proofs.YthjnmnepjeegiaaGreatDoor
