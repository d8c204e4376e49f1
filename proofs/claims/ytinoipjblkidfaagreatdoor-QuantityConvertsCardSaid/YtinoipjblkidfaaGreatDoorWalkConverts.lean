/- The laws on products, powers and conversions of units: their walks. -/
import Derived.Test.YtinoipjblkidfaaGreatDoorD20
/- The laws on products, powers and conversions of units: their walks. -/
namespace Go.Proofs.YtinoipjblkidfaaGreatDoor
open Go.RowKit Go.Proofs.YtinoipjblkidfaaGreatDoor.Dg Go.Proofs.YtinoipjblkidfaaGreatDoor.Q Go.Proofs.YtinoipjblkidfaaGreatDoor.Num

set_option maxRecDepth 100000 in
set_option maxHeartbeats 12800000 in
theorem converts_walk (X F1 O1 : ByteArray) (p1 : P7) (F2 O2 : ByteArray) (p2 : P7) (hx : X.size ≤ 9223372036854775807) (h1a : F1.size ≤ 9223372036854775807) (h1b : O1.size ≤ 9223372036854775807) (h2a : F2.size ≤ 9223372036854775807) (h2b : O2.size ≤ 9223372036854775807) (w : World) (hw : Wf w) :
    Calls Tryz.prog 9 #[.string X, uv F1 O1 p1, uv F2 O2 p2] w fun e w' => e = .returned (.bool true) ∧ Below w.heap.size w w' := by
  have k0 := Lib.hid (KV.start w F1 O1 F2 O2 p1 p2)
  have AW := fun w' (hb : Below w.heap.size w w') => awake_any w' (hw.up hb)
  have T1 := fun w' (hb : Below w.heap.size w w') => qConvert_any X F1 O1 F2 O2 p1 p2 hx h1a h1b h2a h2b w' (hw.up hb)
  have R1 := fun w' => rConvert_any X F1 O1 F2 O2 p1 p2 hx h1a h1b h2a h2b w'
  generalize (qconv (bl X) (bl F1) (bl O1) p1 (bl F2) (bl O2) p2).2 = E at *
  generalize (⟨(qconv (bl X) (bl F1) (bl O1) p1 (bl F2) (bl O2) p2).1.toArray⟩ : ByteArray) = Y at *
  have sS : (Y.toList == Y.toList) = true := by rw [toList_eq]; exact decide_eq_true rfl
  clear hw hx h1a h1b h2a h2b
  unfold unC at k0
  obtain ⟨t0, t1, t2, t3, t4, t5, t6⟩ := p1
  obtain ⟨q0, q1, q2, q3, q4, q5, q6⟩ := p2
  unfold uv at *
  dsimp only at *
  go_enter Tryz.func9, Tryz.ntmps9
  go_wp2_with (first
    | (go_at_call 20; go_loud ((with_reducible refine (AW _ k2.out.b).mono ?_); rintro e w3 ⟨rfl, hb⟩; have b3 := Lib.hid (btrans k2.out.b hb); clear hb))
    | (go_at_call 39; go_loud ((with_reducible refine (R1 _).mono ?_); rintro e w2 ⟨rfl, hb⟩; have k2 := Lib.hid (k1.out.up hb); clear hb))
    | (go_at_call 38; go_loud ((with_reducible refine (T1 _ k0.out.b).mono ?_); rintro e w1 ⟨rfl, hb⟩; have k1 := Lib.hid (k0.out.up hb); obtain ⟨c0, c1, c2, c3, c4, c5, c6, c7, c8⟩ := Ub.cells k1.out.1; obtain ⟨d0, d1, d2, d3, d4, d5, d6, d7, d8⟩ := Ub.cells k1.out.2.1; clear hb)))
  go_ret
  exact ⟨rfl, b3.out⟩

/-- Two units, and two results. -/
def K4 (w w' : World) (D1 D2 : Array Value) (g7 g9 : Nat) (C7 C9 : Array Value) : Prop := Bk w' w.heap.size D1 24 ∧ Bk w' (w.heap.size + 1) D2 24 ∧ Bk w' g7 C7 24 ∧ Bk w' g9 C9 24 ∧ Below w.heap.size w w' ∧ w.heap.size + 1 < g7 ∧ g7 < g9
theorem K4.up {w w1 w2 : World} {D1 D2 : Array Value} {g7 g9 : Nat} {C7 C9 : Array Value} (h : K4 w w1 D1 D2 g7 g9 C7 C9) (hb : Below w1.heap.size w1 w2) : K4 w w2 D1 D2 g7 g9 C7 C9 := ⟨h.1.up hb, h.2.1.up hb, h.2.2.1.up hb, h.2.2.2.1.up hb, btrans h.2.2.2.2.1 hb, h.2.2.2.2.2⟩
theorem K4.b {w w1 : World} {D1 D2 : Array Value} {g7 g9 : Nat} {C7 C9 : Array Value} (h : K4 w w1 D1 D2 g7 g9 C7 C9) : Below w.heap.size w w1 := h.2.2.2.2.1
theorem K4.put7 {w w1 : World} {D1 D2 : Array Value} {g7 g9 : Nat} {C7 C9 : Array Value} (h : K4 w w1 D1 D2 g7 g9 C7 C9) (l : List Value) (e : C7.size = l.length) : K4 w (putL w1 g7 0 l) D1 D2 g7 g9 l.toArray C9 := by
  obtain ⟨h1, h2, h3, h4, h5, h6, h7⟩ := h
  exact ⟨h1.put_other 0 l (by omega), h2.put_other 0 l (by omega), h3.put l e, h4.put_other 0 l (by omega), putL_below (by omega) l 0 h5, h6, h7⟩
theorem K4.put9 {w w1 : World} {D1 D2 : Array Value} {g7 g9 : Nat} {C7 C9 : Array Value} (h : K4 w w1 D1 D2 g7 g9 C7 C9) (l : List Value) (e : C9.size = l.length) : K4 w (putL w1 g9 0 l) D1 D2 g7 g9 C7 l.toArray := by
  obtain ⟨h1, h2, h3, h4, h5, h6, h7⟩ := h
  exact ⟨h1.put_other 0 l (by omega), h2.put_other 0 l (by omega), h3.put_other 0 l (by omega), h4.put l e, putL_below (by omega) l 0 h5, h6, h7⟩
theorem nine {w : World} {g : Nat} {t : TypeId} {a0 a1 a2 a3 a4 a5 a6 a7 a8 : Value} (h : Bk w g #[a0, a1, a2, a3, a4, a5, a6, a7, a8] t) : w.cell? ⟨g, 0, none⟩ = some a0 ∧ w.cell? ⟨g, 1, none⟩ = some a1 ∧ w.cell? ⟨g, 2, none⟩ = some a2 ∧ w.cell? ⟨g, 3, none⟩ = some a3 ∧ w.cell? ⟨g, 4, none⟩ = some a4 ∧ w.cell? ⟨g, 5, none⟩ = some a5 ∧ w.cell? ⟨g, 6, none⟩ = some a6 ∧ w.cell? ⟨g, 7, none⟩ = some a7 ∧ w.cell? ⟨g, 8, none⟩ = some a8 :=
  ⟨h.cell 0, h.cell 1, h.cell 2, h.cell 3, h.cell 4, h.cell 5, h.cell 6, h.cell 7, h.cell 8⟩
theorem K4.all {w w1 : World} {a0 a1 a2 a3 a4 a5 a6 a7 a8 b0 b1 b2 b3 b4 b5 b6 b7 b8 c0 c1 c2 c3 c4 c5 c6 c7 c8 e0 e1 e2 e3 e4 e5 e6 e7 e8 : Value} {g7 g9 : Nat} (h : K4 w w1 #[a0, a1, a2, a3, a4, a5, a6, a7, a8] #[b0, b1, b2, b3, b4, b5, b6, b7, b8] g7 g9 #[c0, c1, c2, c3, c4, c5, c6, c7, c8] #[e0, e1, e2, e3, e4, e5, e6, e7, e8]) : w1.cell? ⟨w.heap.size, 0, none⟩ = some a0 ∧ w1.cell? ⟨w.heap.size, 1, none⟩ = some a1 ∧ w1.cell? ⟨w.heap.size, 2, none⟩ = some a2 ∧ w1.cell? ⟨w.heap.size, 3, none⟩ = some a3 ∧ w1.cell? ⟨w.heap.size, 4, none⟩ = some a4 ∧ w1.cell? ⟨w.heap.size, 5, none⟩ = some a5 ∧ w1.cell? ⟨w.heap.size, 6, none⟩ = some a6 ∧ w1.cell? ⟨w.heap.size, 7, none⟩ = some a7 ∧ w1.cell? ⟨w.heap.size, 8, none⟩ = some a8 ∧ w1.cell? ⟨w.heap.size + 1, 0, none⟩ = some b0 ∧ w1.cell? ⟨w.heap.size + 1, 1, none⟩ = some b1 ∧ w1.cell? ⟨w.heap.size + 1, 2, none⟩ = some b2 ∧ w1.cell? ⟨w.heap.size + 1, 3, none⟩ = some b3 ∧ w1.cell? ⟨w.heap.size + 1, 4, none⟩ = some b4 ∧ w1.cell? ⟨w.heap.size + 1, 5, none⟩ = some b5 ∧ w1.cell? ⟨w.heap.size + 1, 6, none⟩ = some b6 ∧ w1.cell? ⟨w.heap.size + 1, 7, none⟩ = some b7 ∧ w1.cell? ⟨w.heap.size + 1, 8, none⟩ = some b8 ∧ w1.cell? ⟨g7, 0, none⟩ = some c0 ∧ w1.cell? ⟨g7, 1, none⟩ = some c1 ∧ w1.cell? ⟨g7, 2, none⟩ = some c2 ∧ w1.cell? ⟨g7, 3, none⟩ = some c3 ∧ w1.cell? ⟨g7, 4, none⟩ = some c4 ∧ w1.cell? ⟨g7, 5, none⟩ = some c5 ∧ w1.cell? ⟨g7, 6, none⟩ = some c6 ∧ w1.cell? ⟨g7, 7, none⟩ = some c7 ∧ w1.cell? ⟨g7, 8, none⟩ = some c8 ∧ w1.cell? ⟨g9, 0, none⟩ = some e0 ∧ w1.cell? ⟨g9, 1, none⟩ = some e1 ∧ w1.cell? ⟨g9, 2, none⟩ = some e2 ∧ w1.cell? ⟨g9, 3, none⟩ = some e3 ∧ w1.cell? ⟨g9, 4, none⟩ = some e4 ∧ w1.cell? ⟨g9, 5, none⟩ = some e5 ∧ w1.cell? ⟨g9, 6, none⟩ = some e6 ∧ w1.cell? ⟨g9, 7, none⟩ = some e7 ∧ w1.cell? ⟨g9, 8, none⟩ = some e8 :=
  ⟨h.1.cell 0, h.1.cell 1, h.1.cell 2, h.1.cell 3, h.1.cell 4, h.1.cell 5, h.1.cell 6, h.1.cell 7, h.1.cell 8, h.2.1.cell 0, h.2.1.cell 1, h.2.1.cell 2, h.2.1.cell 3, h.2.1.cell 4, h.2.1.cell 5, h.2.1.cell 6, h.2.1.cell 7, h.2.1.cell 8, h.2.2.1.cell 0, h.2.2.1.cell 1, h.2.2.1.cell 2, h.2.2.1.cell 3, h.2.2.1.cell 4, h.2.2.1.cell 5, h.2.2.1.cell 6, h.2.2.1.cell 7, h.2.2.1.cell 8, h.2.2.2.1.cell 0, h.2.2.2.1.cell 1, h.2.2.2.1.cell 2, h.2.2.2.1.cell 3, h.2.2.2.1.cell 4, h.2.2.2.1.cell 5, h.2.2.2.1.cell 6, h.2.2.2.1.cell 7, h.2.2.2.1.cell 8⟩

set_option maxRecDepth 100000 in
set_option maxHeartbeats 25600000 in
theorem products_walk (F1 O1 : ByteArray) (p1 : P7) (F2 O2 : ByteArray) (p2 : P7) (n : Int) (h1a : F1.size ≤ 9223372036854775807) (h1b : O1.size ≤ 9223372036854775807) (h2a : F2.size ≤ 9223372036854775807) (h2b : O2.size ≤ 9223372036854775807) (w : World) (hw : Wf w) :
    Calls Tryz.prog 15 #[uv F1 O1 p1, uv F2 O2 p2, .int .i64 n] w fun e w' => e = .returned (.bool true) ∧ Below w.heap.size w w' := by
  have k0 := Lib.hid (KV.start w F1 O1 F2 O2 p1 p2)
  have AW := fun w' (hb : Below w.heap.size w w') => awake_any w' (hw.up hb)
  have sS : ∀ S : ByteArray, (S.toList == S.toList) = true := fun S => by rw [toList_eq]; exact decide_eq_true rfl
  have s7 : ∀ (x0 x1 x2 x3 x4 x5 x6 : Int) w, (Op.equalIn 9999 22 (.agg #[.int .i64 x0, .int .i64 x1, .int .i64 x2, .int .i64 x3, .int .i64 x4, .int .i64 x5, .int .i64 x6]) (.agg #[.int .i64 x0, .int .i64 x1, .int .i64 x2, .int .i64 x3, .int .i64 x4, .int .i64 x5, .int .i64 x6])).run Tryz.prog w = .ok true w := fun x0 x1 x2 x3 x4 x5 x6 w => (eq7 9997 ⟨x0, x1, x2, x3, x4, x5, x6⟩ ⟨x0, x1, x2, x3, x4, x5, x6⟩ w).trans (by rw [decide_eq_true rfl])
  have T1 := fun w' (hb : Below w.heap.size w w') => qTimes_any F1 O1 F2 O2 p1 p2 h1a h1b h2a h2b w' (hw.up hb)
  have T2 := fun w' => rTimes_any F1 O1 F2 O2 p1 p2 h1a h1b h2a h2b w'
  have T3 := fun w' (hb : Below w.heap.size w w') => qOver_any F1 O1 F2 O2 p1 p2 h1a h1b h2a h2b w' (hw.up hb)
  have T4 := fun w' => rOver_any F1 O1 F2 O2 p1 p2 h1a h1b h2a h2b w'
  have T5 := fun w' (hb : Below w.heap.size w w') => qPower_any F1 O1 p1 n h1a h1b w' (hw.up hb)
  have T6 := fun w' => rPower_any F1 O1 p1 n h1a h1b w'
  have T7 := fun w' (hb : Below w.heap.size w w') => qSame_any F1 O1 F2 O2 p1 p2 h1a h1b w' (hw.up hb)
  have T8 := fun w' => rSame_any F1 O1 F2 O2 p1 p2 h1a h1b w'
  obtain ⟨⟨⟨XF, XO, x⟩, E1⟩, hX⟩ : ∃ R, unC2 (bl F1) (bl O1) p1 (bl F2) (bl O2) p2 1 = R := ⟨_, rfl⟩
  obtain ⟨⟨⟨YF, YO, y⟩, E2⟩, hY⟩ : ∃ R, unC2 (bl F1) (bl O1) p1 (bl F2) (bl O2) p2 (-1) = R := ⟨_, rfl⟩
  obtain ⟨⟨⟨ZF, ZO, z⟩, E3⟩, hZ⟩ : ∃ R, unP (bl F1) (bl O1) p1 n = R := ⟨_, rfl⟩
  rw [hX] at T1 T2
  rw [hY] at T3 T4
  rw [hZ] at T5 T6
  generalize sameU (bl F1) (bl O1) p1 (bl F2) (bl O2) p2 = sb at *
  clear hX hY hZ hw h1a h1b h2a h2b
  unfold GiveU Un.v at T1 T2 T3 T4 T5 T6
  dsimp only at T1 T2 T3 T4 T5 T6
  generalize (⟨XF.toArray⟩ : ByteArray) = AF at *
  generalize (⟨XO.toArray⟩ : ByteArray) = AO at *
  generalize (⟨YF.toArray⟩ : ByteArray) = BF at *
  generalize (⟨YO.toArray⟩ : ByteArray) = BO at *
  generalize (⟨ZF.toArray⟩ : ByteArray) = CF at *
  generalize (⟨ZO.toArray⟩ : ByteArray) = CO at *
  obtain ⟨t0, t1, t2, t3, t4, t5, t6⟩ := p1
  obtain ⟨q0, q1, q2, q3, q4, q5, q6⟩ := p2
  obtain ⟨x0, x1, x2, x3, x4, x5, x6⟩ := x
  obtain ⟨y0, y1, y2, y3, y4, y5, y6⟩ := y
  obtain ⟨z0, z1, z2, z3, z4, z5, z6⟩ := z
  unfold uv at T1 T2 T3 T4 T5 T6 T7 T8 ⊢
  unfold unC at k0
  dsimp only at k0 T1 T2 T3 T4 T5 T6 T7 T8 ⊢
  go_enter Tryz.func15, Tryz.ntmps15
  go_wp2_with (first
    | (go_at_call 65; go_loud ((with_reducible refine (T6 _).mono ?_); rintro e w6 ⟨rfl, hb⟩; have j6 := Lib.hid ((k5.out.put7 [.string CF, .string CO, .int .i64 z0, .int .i64 z1, .int .i64 z2, .int .i64 z3, .int .i64 z4, .int .i64 z5, .int .i64 z6] rfl).up hb); obtain ⟨fa0, fa1, fa2, fa3, fa4, fa5, fa6, fa7, fa8⟩ := nine j6.out.1; obtain ⟨fb0, fb1, fb2, fb3, fb4, fb5, fb6, fb7, fb8⟩ := nine j6.out.2.1; obtain ⟨fc0, fc1, fc2, fc3, fc4, fc5, fc6, fc7, fc8⟩ := nine j6.out.2.2.1; obtain ⟨fd0, fd1, fd2, fd3, fd4, fd5, fd6, fd7, fd8⟩ := nine j6.out.2.2.2.1; obtain ⟨ff0, ff1, ff2, ff3, ff4, ff5, ff6, ff7, ff8⟩ := Bk.frozen9 j6.out.2.2.2.1; have k6 := Lib.hid (j6.out.put9 [.string CF, .string CO, .int .i64 z0, .int .i64 z1, .int .i64 z2, .int .i64 z3, .int .i64 z4, .int .i64 z5, .int .i64 z6] rfl); clear hb))
    | (go_at_call 62; go_loud ((with_reducible refine (T5 _ b4.out).mono ?_); rintro e w5 ⟨rfl, hb⟩; have k5 := Lib.hid (k4.out.up hb); obtain ⟨ea0, ea1, ea2, ea3, ea4, ea5, ea6, ea7, ea8⟩ := nine k5.out.1; obtain ⟨eb0, eb1, eb2, eb3, eb4, eb5, eb6, eb7, eb8⟩ := nine k5.out.2.1; obtain ⟨ec0, ec1, ec2, ec3, ec4, ec5, ec6, ec7, ec8⟩ := nine k5.out.2.2.1; obtain ⟨ed0, ed1, ed2, ed3, ed4, ed5, ed6, ed7, ed8⟩ := nine k5.out.2.2.2.1; obtain ⟨ef0, ef1, ef2, ef3, ef4, ef5, ef6, ef7, ef8⟩ := Bk.frozen9 k5.out.2.2.1; clear hb))
    | (go_at_call 64; go_loud ((with_reducible refine (T4 _).mono ?_); rintro e w4 ⟨rfl, hb⟩; have j4 := Lib.hid ((k3.out.put7 [.string BF, .string BO, .int .i64 y0, .int .i64 y1, .int .i64 y2, .int .i64 y3, .int .i64 y4, .int .i64 y5, .int .i64 y6] rfl).up hb); obtain ⟨da0, da1, da2, da3, da4, da5, da6, da7, da8⟩ := nine j4.out.1; obtain ⟨db0, db1, db2, db3, db4, db5, db6, db7, db8⟩ := nine j4.out.2.1; obtain ⟨dc0, dc1, dc2, dc3, dc4, dc5, dc6, dc7, dc8⟩ := nine j4.out.2.2.1; obtain ⟨dd0, dd1, dd2, dd3, dd4, dd5, dd6, dd7, dd8⟩ := nine j4.out.2.2.2.1; obtain ⟨df0, df1, df2, df3, df4, df5, df6, df7, df8⟩ := Bk.frozen9 j4.out.2.2.2.1; have k4 := Lib.hid (j4.out.put9 [.string BF, .string BO, .int .i64 y0, .int .i64 y1, .int .i64 y2, .int .i64 y3, .int .i64 y4, .int .i64 y5, .int .i64 y6] rfl); have b4 := Lib.hid (show Below w.heap.size w (((((((((w4.setCell ⟨w2.heap.size, 0, none⟩ (.string BF)).setCell ⟨w2.heap.size, 1, none⟩ (.string BO)).setCell ⟨w2.heap.size, 2, none⟩ (.int .i64 y0)).setCell ⟨w2.heap.size, 3, none⟩ (.int .i64 y1)).setCell ⟨w2.heap.size, 4, none⟩ (.int .i64 y2)).setCell ⟨w2.heap.size, 5, none⟩ (.int .i64 y3)).setCell ⟨w2.heap.size, 6, none⟩ (.int .i64 y4)).setCell ⟨w2.heap.size, 7, none⟩ (.int .i64 y5)).setCell ⟨w2.heap.size, 8, none⟩ (.int .i64 y6)) from k4.out.b); clear hb))
    | (go_at_call 61; go_loud ((with_reducible refine (T3 _ k2.out.b).mono ?_); rintro e w3 ⟨rfl, hb⟩; have k3 := Lib.hid (k2.out.up hb); obtain ⟨ca0, ca1, ca2, ca3, ca4, ca5, ca6, ca7, ca8⟩ := nine k3.out.1; obtain ⟨cb0, cb1, cb2, cb3, cb4, cb5, cb6, cb7, cb8⟩ := nine k3.out.2.1; obtain ⟨cc0, cc1, cc2, cc3, cc4, cc5, cc6, cc7, cc8⟩ := nine k3.out.2.2.1; obtain ⟨cd0, cd1, cd2, cd3, cd4, cd5, cd6, cd7, cd8⟩ := nine k3.out.2.2.2.1; obtain ⟨cf0, cf1, cf2, cf3, cf4, cf5, cf6, cf7, cf8⟩ := Bk.frozen9 k3.out.2.2.1; clear hb))
    | (go_at_call 63; go_loud ((with_reducible refine (T2 _).mono ?_); rintro e w2 ⟨rfl, hb⟩; have j2 := j1.out.up hb; have B2 := B1.out.up hb; have bx := (Below.refl w2.heap.size w2).alloc (Nat.le_refl _) (.cells #[.string AF, .string AO, .int .i64 x0, .int .i64 x1, .int .i64 x2, .int .i64 x3, .int .i64 x4, .int .i64 x5, .int .i64 x6] 24); have k2 := Lib.hid (show K4 w (w2.alloc (.cells #[.string AF, .string AO, .int .i64 x0, .int .i64 x1, .int .i64 x2, .int .i64 x3, .int .i64 x4, .int .i64 x5, .int .i64 x6] 24)) #[.string F1, .string O1, .int .i64 t0, .int .i64 t1, .int .i64 t2, .int .i64 t3, .int .i64 t4, .int .i64 t5, .int .i64 t6] #[.string F2, .string O2, .int .i64 q0, .int .i64 q1, .int .i64 q2, .int .i64 q3, .int .i64 q4, .int .i64 q5, .int .i64 q6] w1.heap.size w2.heap.size #[.string AF, .string AO, .int .i64 x0, .int .i64 x1, .int .i64 x2, .int .i64 x3, .int .i64 x4, .int .i64 x5, .int .i64 x6] #[.string AF, .string AO, .int .i64 x0, .int .i64 x1, .int .i64 x2, .int .i64 x3, .int .i64 x4, .int .i64 x5, .int .i64 x6] from ⟨(j2.up bx).1, (j2.up bx).2.1, B2.up bx, Bk.new w2 _ _, (j2.up bx).b, l1, B2.lt⟩); obtain ⟨u0, u1, u2, u3, u4, u5, u6, u7, u8⟩ := Ub.cells j2.1; obtain ⟨v0, v1, v2, v3, v4, v5, v6, v7, v8⟩ := Ub.cells j2.2.1; obtain ⟨r0, r1, r2, r3, r4, r5, r6, r7, r8⟩ := nine B2; have l2 := B2.lt; have la := j2.1.lt; have lb := j2.2.1.lt; obtain ⟨n1, n2, n3, n4, n5, n6, n7, n8, n9, n10⟩ : w.heap.size ≠ w1.heap.size ∧ w1.heap.size ≠ w.heap.size ∧ w.heap.size + 1 ≠ w1.heap.size ∧ w1.heap.size ≠ w.heap.size + 1 ∧ w.heap.size ≠ w2.heap.size ∧ w2.heap.size ≠ w.heap.size ∧ w.heap.size + 1 ≠ w2.heap.size ∧ w2.heap.size ≠ w.heap.size + 1 ∧ w1.heap.size ≠ w2.heap.size ∧ w2.heap.size ≠ w1.heap.size := (by omega); clear hb bx B2 j2))
    | (go_at_call 60; go_loud ((with_reducible refine (T1 _ k0.out.b).mono ?_); rintro e w1 ⟨rfl, hb⟩; have k1 := Lib.hid (k0.out.up hb); have bx := (Below.refl w1.heap.size w1).alloc (Nat.le_refl _) (.cells #[.string AF, .string AO, .int .i64 x0, .int .i64 x1, .int .i64 x2, .int .i64 x3, .int .i64 x4, .int .i64 x5, .int .i64 x6] 24); have j1 := Lib.hid (k1.out.up bx); have B1 := Lib.hid (Bk.new w1 #[.string AF, .string AO, .int .i64 x0, .int .i64 x1, .int .i64 x2, .int .i64 x3, .int .i64 x4, .int .i64 x5, .int .i64 x6] 24); have l1 := k1.out.2.1.lt; have l0 := k1.out.1.lt; obtain ⟨u0, u1, u2, u3, u4, u5, u6, u7, u8⟩ := Ub.cells k1.out.1; obtain ⟨v0, v1, v2, v3, v4, v5, v6, v7, v8⟩ := Ub.cells k1.out.2.1; clear hb bx)))
  have kw := Lib.hid (show K4 w (((((((((w6.setCell ⟨w2.heap.size, 0, none⟩ (.string CF)).setCell ⟨w2.heap.size, 1, none⟩ (.string CO)).setCell ⟨w2.heap.size, 2, none⟩ (.int .i64 z0)).setCell ⟨w2.heap.size, 3, none⟩ (.int .i64 z1)).setCell ⟨w2.heap.size, 4, none⟩ (.int .i64 z2)).setCell ⟨w2.heap.size, 5, none⟩ (.int .i64 z3)).setCell ⟨w2.heap.size, 6, none⟩ (.int .i64 z4)).setCell ⟨w2.heap.size, 7, none⟩ (.int .i64 z5)).setCell ⟨w2.heap.size, 8, none⟩ (.int .i64 z6)) #[.string F1, .string O1, .int .i64 t0, .int .i64 t1, .int .i64 t2, .int .i64 t3, .int .i64 t4, .int .i64 t5, .int .i64 t6] #[.string F2, .string O2, .int .i64 q0, .int .i64 q1, .int .i64 q2, .int .i64 q3, .int .i64 q4, .int .i64 q5, .int .i64 q6] w1.heap.size w2.heap.size #[.string CF, .string CO, .int .i64 z0, .int .i64 z1, .int .i64 z2, .int .i64 z3, .int .i64 z4, .int .i64 z5, .int .i64 z6] #[.string CF, .string CO, .int .i64 z0, .int .i64 z1, .int .i64 z2, .int .i64 z3, .int .i64 z4, .int .i64 z5, .int .i64 z6] from k6.out)
  clear k0 k1 j1 B1 k2 k3 j4 k4 b4 k5 j6 k6 T1 T2 T3 T4 T5 T6 l0 l1 l2 la lb n1 n2 n3 n4 n5 n6 n7 n8 n9 n10 u0 u1 u2 u3 u4 u5 u6 u7 u8 v0 v1 v2 v3 v4 v5 v6 v7 v8 r0 r1 r2 r3 r4 r5 r6 r7 r8 ca0 ca1 ca2 ca3 ca4 ca5 ca6 ca7 ca8 cb0 cb1 cb2 cb3 cb4 cb5 cb6 cb7 cb8 cc0 cc1 cc2 cc3 cc4 cc5 cc6 cc7 cc8 cd0 cd1 cd2 cd3 cd4 cd5 cd6 cd7 cd8 da0 da1 da2 da3 da4 da5 da6 da7 da8 db0 db1 db2 db3 db4 db5 db6 db7 db8 dc0 dc1 dc2 dc3 dc4 dc5 dc6 dc7 dc8 dd0 dd1 dd2 dd3 dd4 dd5 dd6 dd7 dd8 ea0 ea1 ea2 ea3 ea4 ea5 ea6 ea7 ea8 eb0 eb1 eb2 eb3 eb4 eb5 eb6 eb7 eb8 ec0 ec1 ec2 ec3 ec4 ec5 ec6 ec7 ec8 ed0 ed1 ed2 ed3 ed4 ed5 ed6 ed7 ed8 fa0 fa1 fa2 fa3 fa4 fa5 fa6 fa7 fa8 fb0 fb1 fb2 fb3 fb4 fb5 fb6 fb7 fb8 fc0 fc1 fc2 fc3 fc4 fc5 fc6 fc7 fc8 fd0 fd1 fd2 fd3 fd4 fd5 fd6 fd7 fd8 cf0 cf1 cf2 cf3 cf4 cf5 cf6 cf7 cf8 df0 df1 df2 df3 df4 df5 df6 df7 df8 ef0 ef1 ef2 ef3 ef4 ef5 ef6 ef7 ef8 ff0 ff1 ff2 ff3 ff4 ff5 ff6 ff7 ff8
  generalize w1.heap.size = g7 at *
  generalize w2.heap.size = g9 at *
  generalize (((((((((w6.setCell ⟨g9, 0, none⟩ (.string CF)).setCell ⟨g9, 1, none⟩ (.string CO)).setCell ⟨g9, 2, none⟩ (.int .i64 z0)).setCell ⟨g9, 3, none⟩ (.int .i64 z1)).setCell ⟨g9, 4, none⟩ (.int .i64 z2)).setCell ⟨g9, 5, none⟩ (.int .i64 z3)).setCell ⟨g9, 6, none⟩ (.int .i64 z4)).setCell ⟨g9, 7, none⟩ (.int .i64 z5)).setCell ⟨g9, 8, none⟩ (.int .i64 z6)) = wl at *
  have kd := Lib.hid (kw.out.up (Below.drew (Below.refl _ _)))
  clear kw
  go_region_held3 (fun w' => w'.cell? ⟨w.heap.size, 0, none⟩ = some (.string F1) ∧ w'.cell? ⟨w.heap.size, 1, none⟩ = some (.string O1) ∧ w'.cell? ⟨w.heap.size, 2, none⟩ = some (.int .i64 t0) ∧ w'.cell? ⟨w.heap.size, 3, none⟩ = some (.int .i64 t1) ∧ w'.cell? ⟨w.heap.size, 4, none⟩ = some (.int .i64 t2) ∧ w'.cell? ⟨w.heap.size, 5, none⟩ = some (.int .i64 t3) ∧ w'.cell? ⟨w.heap.size, 6, none⟩ = some (.int .i64 t4) ∧ w'.cell? ⟨w.heap.size, 7, none⟩ = some (.int .i64 t5) ∧ w'.cell? ⟨w.heap.size, 8, none⟩ = some (.int .i64 t6) ∧ w'.cell? ⟨w.heap.size + 1, 0, none⟩ = some (.string F2) ∧ w'.cell? ⟨w.heap.size + 1, 1, none⟩ = some (.string O2) ∧ w'.cell? ⟨w.heap.size + 1, 2, none⟩ = some (.int .i64 q0) ∧ w'.cell? ⟨w.heap.size + 1, 3, none⟩ = some (.int .i64 q1) ∧ w'.cell? ⟨w.heap.size + 1, 4, none⟩ = some (.int .i64 q2) ∧ w'.cell? ⟨w.heap.size + 1, 5, none⟩ = some (.int .i64 q3) ∧ w'.cell? ⟨w.heap.size + 1, 6, none⟩ = some (.int .i64 q4) ∧ w'.cell? ⟨w.heap.size + 1, 7, none⟩ = some (.int .i64 q5) ∧ w'.cell? ⟨w.heap.size + 1, 8, none⟩ = some (.int .i64 q6) ∧ w'.cell? ⟨g7, 0, none⟩ = some (.string CF) ∧ w'.cell? ⟨g7, 1, none⟩ = some (.string CO) ∧ w'.cell? ⟨g7, 2, none⟩ = some (.int .i64 z0) ∧ w'.cell? ⟨g7, 3, none⟩ = some (.int .i64 z1) ∧ w'.cell? ⟨g7, 4, none⟩ = some (.int .i64 z2) ∧ w'.cell? ⟨g7, 5, none⟩ = some (.int .i64 z3) ∧ w'.cell? ⟨g7, 6, none⟩ = some (.int .i64 z4) ∧ w'.cell? ⟨g7, 7, none⟩ = some (.int .i64 z5) ∧ w'.cell? ⟨g7, 8, none⟩ = some (.int .i64 z6) ∧ w'.cell? ⟨g9, 0, none⟩ = some (.string CF) ∧ w'.cell? ⟨g9, 1, none⟩ = some (.string CO) ∧ w'.cell? ⟨g9, 2, none⟩ = some (.int .i64 z0) ∧ w'.cell? ⟨g9, 3, none⟩ = some (.int .i64 z1) ∧ w'.cell? ⟨g9, 4, none⟩ = some (.int .i64 z2) ∧ w'.cell? ⟨g9, 5, none⟩ = some (.int .i64 z3) ∧ w'.cell? ⟨g9, 6, none⟩ = some (.int .i64 z4) ∧ w'.cell? ⟨g9, 7, none⟩ = some (.int .i64 z5) ∧ w'.cell? ⟨g9, 8, none⟩ = some (.int .i64 z6))
    (first | (with_reducible exact k9.out.all) | (with_reducible exact kz.out.all) | (with_reducible exact k8.out.all) | (with_reducible exact k7.out.all) | (with_reducible exact kd.out.all) | go_keep)
    (first
      | (go_at_call 20; ((with_reducible refine (AW _ kz.out.b).mono ?_); rintro e w9 ⟨rfl, hb⟩; have k9 := Lib.hid (kz.out.up hb); clear hb))
      | (go_at_call 67; ((with_reducible refine (T8 _).mono ?_); rintro e w8 ⟨rfl, hb⟩; have kz := Lib.hid (k7.out.up hb); clear hb))
      | (go_at_call 67; ((with_reducible refine (T8 _).mono ?_); rintro e w8 ⟨rfl, hb⟩; have k8 := Lib.hid (kd.out.up hb); clear hb))
      | (go_at_call 66; ((with_reducible refine (T7 _ k8.out.b).mono ?_); rintro e w7 ⟨rfl, hb⟩; have kz := Lib.hid (k8.out.up hb); clear hb))
      | (go_at_call 66; ((with_reducible refine (T7 _ kd.out.b).mono ?_); rintro e w7 ⟨rfl, hb⟩; have k7 := Lib.hid (kd.out.up hb); clear hb)))
  all_goals go_wp2
  all_goals go_ret
  all_goals exact ⟨rfl, k9.out.b⟩

end Go.Proofs.YtinoipjblkidfaaGreatDoor
