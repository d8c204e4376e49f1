/- The row: Convert there and back returns the value, and the way by a third unit is the direct one, where nothing is missing; for all values of the parameters. -/
import Derived.Test.YtinoipjblkidfaaGreatDoorC17
import Derived.Test.YtinoipjblkidfaaGreatDoorRows
import Derived.ProofKit
import Derived.SevenTiedAt
import Derived.LaidByTextLater
import Derived.Deep.DeepHandedRow
import Derived.Lib.LaidIn
import Derived.Lib.LaidTab
import Derived.Lib.LaidU8
import Derived.Lib.SmallJoins
/- The law that Convert goes there and back: its walk. -/
namespace Go.Proofs.YtinoipjblkidfaaGreatDoor
open Go.RowKit Go.Proofs.YtinoipjblkidfaaGreatDoor.Dg Go.Proofs.YtinoipjblkidfaaGreatDoor.Q Go.Proofs.YtinoipjblkidfaaGreatDoor.Num

theorem qconv_len (X F O F' O' : List UInt8) (p p' : P7) : (qconv X F O p F' O' p').1.length ≤ 82 := by
  unfold qconv
  repeat' split
  all_goals first | exact put_len _ | exact Nat.zero_le _
/-- What Convert returns: the value, the error. -/
def cvB (X F O : ByteArray) (p : P7) (F' O' : ByteArray) (p' : P7) : ByteArray := ⟨(qconv (bl X) (bl F) (bl O) p (bl F') (bl O') p').1.toArray⟩
def cvE (X F O : ByteArray) (p : P7) (F' O' : ByteArray) (p' : P7) : Int := (qconv (bl X) (bl F) (bl O) p (bl F') (bl O') p').2
theorem cvB_size (X F O : ByteArray) (p : P7) (F' O' : ByteArray) (p' : P7) : (cvB X F O p F' O' p').size ≤ 9223372036854775807 := by
  have := qconv_len (bl X) (bl F) (bl O) (bl F') (bl O') p p'
  rw [← bl_len]
  show (qconv (bl X) (bl F) (bl O) p (bl F') (bl O') p').1.length ≤ _
  omega
/-- Three units in boxes. -/
def K3U (w w' : World) (F1 O1 : ByteArray) (p1 : P7) (F2 O2 : ByteArray) (p2 : P7) (F3 O3 : ByteArray) (p3 : P7) : Prop := Ub w' w.heap.size F1 O1 p1 ∧ Ub w' (w.heap.size + 1) F2 O2 p2 ∧ Ub w' (w.heap.size + 1 + 1) F3 O3 p3 ∧ Below w.heap.size w w'
theorem K3U.up {w w1 w2 : World} {F1 O1 F2 O2 F3 O3 : ByteArray} {p1 p2 p3 : P7} (h : K3U w w1 F1 O1 p1 F2 O2 p2 F3 O3 p3) (hb : Below w1.heap.size w1 w2) : K3U w w2 F1 O1 p1 F2 O2 p2 F3 O3 p3 := ⟨h.1.up hb, h.2.1.up hb, h.2.2.1.up hb, btrans h.2.2.2 hb⟩
theorem K3U.b {w w1 : World} {F1 O1 F2 O2 F3 O3 : ByteArray} {p1 p2 p3 : P7} (h : K3U w w1 F1 O1 p1 F2 O2 p2 F3 O3 p3) : Below w.heap.size w w1 := h.2.2.2
theorem K3U.start (w : World) (F1 O1 : ByteArray) (p1 : P7) (F2 O2 : ByteArray) (p2 : P7) (F3 O3 : ByteArray) (p3 : P7) : K3U w (((w.alloc (.cells (unC F1 O1 p1) 24)).alloc (.cells (unC F2 O2 p2) 24)).alloc (.cells (unC F3 O3 p3) 24)) F1 O1 p1 F2 O2 p2 F3 O3 p3 := by
  have s1 : (w.alloc (.cells (unC F1 O1 p1) 24)).heap.size = w.heap.size + 1 := by simp
  have s2 : ((w.alloc (.cells (unC F1 O1 p1) 24)).alloc (.cells (unC F2 O2 p2) 24)).heap.size = w.heap.size + 1 + 1 := by simp
  refine ⟨((Bk.new w _ _).alloc).alloc, ?_, ?_, (((Below.refl _ w).alloc (Nat.le_refl _) _).alloc (by rw [s1]; omega) _).alloc (by rw [s2]; omega) _⟩
  · have := Bk.new (w.alloc (.cells (unC F1 O1 p1) 24)) (unC F2 O2 p2) 24
    rw [s1] at this
    exact this.alloc
  · have := Bk.new ((w.alloc (.cells (unC F1 O1 p1) 24)).alloc (.cells (unC F2 O2 p2) 24)) (unC F3 O3 p3) 24
    rw [s2] at this
    exact this

set_option maxRecDepth 100000 in
set_option maxHeartbeats 12800000 in
theorem there_walk (x F1 O1 : ByteArray) (p1 : P7) (F2 O2 : ByteArray) (p2 : P7) (F3 O3 : ByteArray) (p3 : P7) (hx : x.size ≤ 9223372036854775807) (h1a : F1.size ≤ 9223372036854775807) (h1b : O1.size ≤ 9223372036854775807) (h2a : F2.size ≤ 9223372036854775807) (h2b : O2.size ≤ 9223372036854775807) (h3a : F3.size ≤ 9223372036854775807) (h3b : O3.size ≤ 9223372036854775807) (w : World) (hw : Wf w) :
    Calls Tryz.prog 10 #[.string x, uv F1 O1 p1, uv F2 O2 p2, uv F3 O3 p3] w fun e w' => e = .returned (.bool true) ∧ Below w.heap.size w w' := by
  have k0 := Lib.hid (K3U.start w F1 O1 p1 F2 O2 p2 F3 O3 p3)
  have AW := fun w' (hb : Below w.heap.size w w') => awake_any w' (hw.up hb)
  obtain ⟨t0, t1, t2, t3, t4, t5, t6⟩ := p1
  obtain ⟨q0, q1, q2, q3, q4, q5, q6⟩ := p2
  obtain ⟨r0, r1, r2, r3, r4, r5, r6⟩ := p3
  obtain ⟨Y, hY⟩ : ∃ Y, cvB x F1 O1 ⟨t0, t1, t2, t3, t4, t5, t6⟩ F2 O2 ⟨q0, q1, q2, q3, q4, q5, q6⟩ = Y := ⟨_, rfl⟩
  obtain ⟨E, hE⟩ : ∃ E, cvE x F1 O1 ⟨t0, t1, t2, t3, t4, t5, t6⟩ F2 O2 ⟨q0, q1, q2, q3, q4, q5, q6⟩ = E := ⟨_, rfl⟩
  have hYs : Y.size ≤ 9223372036854775807 := by rw [← hY]; exact cvB_size _ _ _ _ _ _ _
  have C12 := fun w' (hb : Below w.heap.size w w') => (qConvert_any x F1 O1 F2 O2 ⟨t0, t1, t2, t3, t4, t5, t6⟩ ⟨q0, q1, q2, q3, q4, q5, q6⟩ hx h1a h1b h2a h2b w' (hw.up hb)).mono fun e w2 h => (show e = .returned (.tuple #[.string (cvB x F1 O1 ⟨t0, t1, t2, t3, t4, t5, t6⟩ F2 O2 ⟨q0, q1, q2, q3, q4, q5, q6⟩), .int .i64 (cvE x F1 O1 ⟨t0, t1, t2, t3, t4, t5, t6⟩ F2 O2 ⟨q0, q1, q2, q3, q4, q5, q6⟩)]) ∧ Below w'.heap.size w' w2 from h)
  rw [hY, hE] at C12
  have C21 := fun w' (hb : Below w.heap.size w w') => (qConvert_any Y F2 O2 F1 O1 ⟨q0, q1, q2, q3, q4, q5, q6⟩ ⟨t0, t1, t2, t3, t4, t5, t6⟩ hYs h2a h2b h1a h1b w' (hw.up hb)).mono fun e w2 h => (show e = .returned (.tuple #[.string (cvB Y F2 O2 ⟨q0, q1, q2, q3, q4, q5, q6⟩ F1 O1 ⟨t0, t1, t2, t3, t4, t5, t6⟩), .int .i64 (cvE Y F2 O2 ⟨q0, q1, q2, q3, q4, q5, q6⟩ F1 O1 ⟨t0, t1, t2, t3, t4, t5, t6⟩)]) ∧ Below w'.heap.size w' w2 from h)
  have C23 := fun w' (hb : Below w.heap.size w w') => (qConvert_any Y F2 O2 F3 O3 ⟨q0, q1, q2, q3, q4, q5, q6⟩ ⟨r0, r1, r2, r3, r4, r5, r6⟩ hYs h2a h2b h3a h3b w' (hw.up hb)).mono fun e w2 h => (show e = .returned (.tuple #[.string (cvB Y F2 O2 ⟨q0, q1, q2, q3, q4, q5, q6⟩ F3 O3 ⟨r0, r1, r2, r3, r4, r5, r6⟩), .int .i64 (cvE Y F2 O2 ⟨q0, q1, q2, q3, q4, q5, q6⟩ F3 O3 ⟨r0, r1, r2, r3, r4, r5, r6⟩)]) ∧ Below w'.heap.size w' w2 from h)
  have C13 := fun w' (hb : Below w.heap.size w w') => (qConvert_any x F1 O1 F3 O3 ⟨t0, t1, t2, t3, t4, t5, t6⟩ ⟨r0, r1, r2, r3, r4, r5, r6⟩ hx h1a h1b h3a h3b w' (hw.up hb)).mono fun e w2 h => (show e = .returned (.tuple #[.string (cvB x F1 O1 ⟨t0, t1, t2, t3, t4, t5, t6⟩ F3 O3 ⟨r0, r1, r2, r3, r4, r5, r6⟩), .int .i64 (cvE x F1 O1 ⟨t0, t1, t2, t3, t4, t5, t6⟩ F3 O3 ⟨r0, r1, r2, r3, r4, r5, r6⟩)]) ∧ Below w'.heap.size w' w2 from h)
  have y1 : (Y.toList == []) = decide (bl Y = []) := eqS Y []
  have y2 : Y.toList.isEmpty = decide (bl Y = []) := emptyS Y
  unfold uv at C12 C21 C23 C13 ⊢
  unfold unC at k0
  dsimp only at k0 C12 C21 C23 C13 ⊢
  by_cases hE0 : E = 0
  · by_cases hY0 : bl Y = []
    · subst hE0
      rw [decide_eq_true hY0] at y1 y2
      clear hY hE hY0 hw C21 C23 C13
      go_enter Tryz.func10, Tryz.ntmps10
      go_wp2_with (first
        | (go_at_call 20; ((with_reducible refine (AW _ k1.out.b).mono ?_); rintro e w9 ⟨rfl, hb⟩; have b9 := Lib.hid (btrans k1.out.b hb); clear hb))
        | (go_at_call 38; ((with_reducible refine (C12 _ k0.out.b).mono ?_); rintro e w1 ⟨rfl, hb⟩; have k1 := Lib.hid (k0.out.up hb); clear hb)))
      go_ret
      exact ⟨rfl, b9.out⟩
    · have c1 : (qconv (bl x) (bl F1) (bl O1) ⟨t0, t1, t2, t3, t4, t5, t6⟩ (bl F2) (bl O2) ⟨q0, q1, q2, q3, q4, q5, q6⟩).2 = 0 := hE.trans hE0
      have c2 : (qconv (bl x) (bl F1) (bl O1) ⟨t0, t1, t2, t3, t4, t5, t6⟩ (bl F2) (bl O2) ⟨q0, q1, q2, q3, q4, q5, q6⟩).1 = bl Y := by rw [← hY]; rfl
      obtain ⟨g1, g2⟩ := conv_back_law c1 (by rw [c2]; exact hY0)
      obtain ⟨g3, g4⟩ := conv_third_law (G := bl F3) (P := bl O3) (r := ⟨r0, r1, r2, r3, r4, r5, r6⟩) c1 (by rw [c2]; exact hY0)
      rw [c2] at g1 g2 g3 g4
      have g1 : cvE Y F2 O2 ⟨q0, q1, q2, q3, q4, q5, q6⟩ F1 O1 ⟨t0, t1, t2, t3, t4, t5, t6⟩ = 0 := g1
      have g2 : eqM (bl (cvB Y F2 O2 ⟨q0, q1, q2, q3, q4, q5, q6⟩ F1 O1 ⟨t0, t1, t2, t3, t4, t5, t6⟩)) (bl x) = true := g2
      have g3 : cvE Y F2 O2 ⟨q0, q1, q2, q3, q4, q5, q6⟩ F3 O3 ⟨r0, r1, r2, r3, r4, r5, r6⟩ = cvE x F1 O1 ⟨t0, t1, t2, t3, t4, t5, t6⟩ F3 O3 ⟨r0, r1, r2, r3, r4, r5, r6⟩ := g3
      have g4 : eqM (bl (cvB Y F2 O2 ⟨q0, q1, q2, q3, q4, q5, q6⟩ F3 O3 ⟨r0, r1, r2, r3, r4, r5, r6⟩)) (bl (cvB x F1 O1 ⟨t0, t1, t2, t3, t4, t5, t6⟩ F3 O3 ⟨r0, r1, r2, r3, r4, r5, r6⟩)) = true := g4
      rw [g1] at C21
      rw [g3] at C23
      generalize cvE x F1 O1 ⟨t0, t1, t2, t3, t4, t5, t6⟩ F3 O3 ⟨r0, r1, r2, r3, r4, r5, r6⟩ = G at *
      generalize cvB Y F2 O2 ⟨q0, q1, q2, q3, q4, q5, q6⟩ F1 O1 ⟨t0, t1, t2, t3, t4, t5, t6⟩ = B21 at *
      generalize cvB Y F2 O2 ⟨q0, q1, q2, q3, q4, q5, q6⟩ F3 O3 ⟨r0, r1, r2, r3, r4, r5, r6⟩ = B23 at *
      generalize cvB x F1 O1 ⟨t0, t1, t2, t3, t4, t5, t6⟩ F3 O3 ⟨r0, r1, r2, r3, r4, r5, r6⟩ = B13 at *
      subst hE0
      rw [decide_eq_false hY0] at y1 y2
      clear hY hE hY0 hw c1 c2 g1 g3
      go_enter Tryz.func10, Tryz.ntmps10
      go_wp2_with (first
        | (go_at_call 29; ((with_reducible refine (equal_any _ _ _).mono ?_); rintro e wn ⟨rfl, rfl⟩))
        | (go_at_call 20; ((with_reducible refine (AW _ k4.out.b).mono ?_); rintro e w9 ⟨rfl, hb⟩; have b9 := Lib.hid (btrans k4.out.b hb); clear hb))
        | (go_at_call 38; ((with_reducible refine (C13 _ k3.out.b).mono ?_); rintro e w4 ⟨rfl, hb⟩; have k4 := Lib.hid (k3.out.up hb); clear hb))
        | (go_at_call 38; ((with_reducible refine (C23 _ k2.out.b).mono ?_); rintro e w3 ⟨rfl, hb⟩; have k3 := Lib.hid (k2.out.up hb); clear hb; obtain ⟨c0, c1, c2, c3, c4, c5, c6, c7, c8⟩ := Ub.cells k3.out.1; obtain ⟨a0, a1, a2, a3, a4, a5, a6, a7, a8⟩ := Ub.cells k3.out.2.2.1))
        | (go_at_call 38; ((with_reducible refine (C21 _ k1.out.b).mono ?_); rintro e w2 ⟨rfl, hb⟩; have k2 := Lib.hid (k1.out.up hb); clear hb; obtain ⟨d0, d1, d2, d3, d4, d5, d6, d7, d8⟩ := Ub.cells k2.out.2.1; obtain ⟨a0, a1, a2, a3, a4, a5, a6, a7, a8⟩ := Ub.cells k2.out.2.2.1))
        | (go_at_call 38; ((with_reducible refine (C12 _ k0.out.b).mono ?_); rintro e w1 ⟨rfl, hb⟩; have k1 := Lib.hid (k0.out.up hb); clear hb; obtain ⟨c0, c1, c2, c3, c4, c5, c6, c7, c8⟩ := Ub.cells k1.out.1; obtain ⟨d0, d1, d2, d3, d4, d5, d6, d7, d8⟩ := Ub.cells k1.out.2.1)))
      go_ret
      exact ⟨rfl, b9.out⟩
  · have hE1 : (E == 0) = false := by simpa using hE0
    clear hY hE y1 y2 hw C21 C23 C13
    go_enter Tryz.func10, Tryz.ntmps10
    go_wp2_with (first
      | (go_at_call 20; ((with_reducible refine (AW _ k1.out.b).mono ?_); rintro e w9 ⟨rfl, hb⟩; have b9 := Lib.hid (btrans k1.out.b hb); clear hb))
      | (go_at_call 38; ((with_reducible refine (C12 _ k0.out.b).mono ?_); rintro e w1 ⟨rfl, hb⟩; have k1 := Lib.hid (k0.out.up hb); clear hb)))
    go_ret
    exact ⟨rfl, b9.out⟩
end Go.Proofs.YtinoipjblkidfaaGreatDoor

/- The row: Convert there and back returns the value, and the way by a third unit is the direct one, where nothing is missing; for all values of the parameters. -/
namespace Go.Proofs.YtinoipjblkidfaaGreatDoor
open Go.RowKit Go.ChangeShapes Go.WideShapes Go.ChangeAt Go.Joins

/-- The world of the witness: the settled one, with the variables holding what their initialisers lay. -/
noncomputable def laidWorld (os : Os) : World :=
  let N := (World.settled Tryz.prog os).heap.size
  let w0 := World.holding Tryz.prog os ⟨#[.cells #[.string ⟨#[118, 97, 108, 117, 101, 32, 111, 117, 116, 32, 111, 102, 32, 114, 97, 110, 103, 101]⟩] 220, .cells #[.string ⟨#[105, 110, 118, 97, 108, 105, 100, 32, 115, 121, 110, 116, 97, 120]⟩] 220], #[], []⟩
  let put (h : Array Obj) (g : Nat) (cs : Array Value) : Array Obj := h.modify g fun
    | .cells _ t frozen => .cells cs t frozen
    | o => o
  let h1 := put w0.heap 6 #[.int .u8 0, .int .u8 1, .int .u8 28, .int .u8 2, .int .u8 29, .int .u8 14, .int .u8 24, .int .u8 3, .int .u8 30, .int .u8 22, .int .u8 20, .int .u8 15, .int .u8 25, .int .u8 17, .int .u8 4, .int .u8 8, .int .u8 31, .int .u8 27, .int .u8 13, .int .u8 23, .int .u8 21, .int .u8 19, .int .u8 16, .int .u8 7, .int .u8 26, .int .u8 12, .int .u8 18, .int .u8 6, .int .u8 11, .int .u8 5, .int .u8 10, .int .u8 9]
  let h2 := put h1 7 #[.int .u8 0, .int .u8 1, .int .u8 56, .int .u8 2, .int .u8 57, .int .u8 49, .int .u8 28, .int .u8 3, .int .u8 61, .int .u8 58, .int .u8 42, .int .u8 50, .int .u8 38, .int .u8 29, .int .u8 17, .int .u8 4, .int .u8 62, .int .u8 47, .int .u8 59, .int .u8 36, .int .u8 45, .int .u8 43, .int .u8 51, .int .u8 22, .int .u8 53, .int .u8 39, .int .u8 33, .int .u8 30, .int .u8 24, .int .u8 18, .int .u8 12, .int .u8 5, .int .u8 63, .int .u8 55, .int .u8 48, .int .u8 27, .int .u8 60, .int .u8 41, .int .u8 37, .int .u8 16, .int .u8 46, .int .u8 35, .int .u8 44, .int .u8 21, .int .u8 52, .int .u8 32, .int .u8 23, .int .u8 11, .int .u8 54, .int .u8 26, .int .u8 40, .int .u8 15, .int .u8 34, .int .u8 20, .int .u8 31, .int .u8 10, .int .u8 25, .int .u8 14, .int .u8 19, .int .u8 9, .int .u8 13, .int .u8 8, .int .u8 7, .int .u8 6]
  let h3 := put h2 3 #[.int .u64 1, .int .u64 10, .int .u64 100, .int .u64 1000, .int .u64 10000, .int .u64 100000, .int .u64 1000000, .int .u64 10000000, .int .u64 100000000, .int .u64 1000000000, .int .u64 10000000000, .int .u64 100000000000, .int .u64 1000000000000, .int .u64 10000000000000, .int .u64 100000000000000, .int .u64 1000000000000000, .int .u64 10000000000000000, .int .u64 100000000000000000, .int .u64 1000000000000000000, .int .u64 10000000000000000000]
  let h4 := put h3 5 #[.int .u8 128, .int .u8 191, .int .u8 160, .int .u8 191, .int .u8 128, .int .u8 159, .int .u8 144, .int .u8 191, .int .u8 128, .int .u8 143, .int .u8 0, .int .u8 0, .int .u8 0, .int .u8 0, .int .u8 0, .int .u8 0, .int .u8 0, .int .u8 0, .int .u8 0, .int .u8 0, .int .u8 0, .int .u8 0, .int .u8 0, .int .u8 0, .int .u8 0, .int .u8 0, .int .u8 0, .int .u8 0, .int .u8 0, .int .u8 0, .int .u8 0, .int .u8 0]
  let h5 := put h4 1 #[.iface 218 (.pointer (some ⟨N + 0, 0, none⟩))]
  let h6 := put h5 0 #[.iface 218 (.pointer (some ⟨N + 1, 0, none⟩))]
  let h7 := put h6 4 (Pinned.utf8FirstZ.map fun (z : Nat) => Value.int .u8 (Int.ofNat z)).toArray
  { w0 with heap := h7 }

noncomputable abbrev N0 : Nat := (World.settled Tryz.prog default).heap.size
set_option maxRecDepth 1000000 in
theorem laid_met (os : Os) (args : Array Value) : laidMet Tryz.prog Rows.quantityThereRow.laid ((laidWorld os).forCall (fun _ _ => 0) ⟨#[], args, []⟩).memory :=
  (LaidIn.of_run [6, 7, 3, 5, 1, N0 + 0, 0, N0 + 1, 4] 8 (by kernel_rfl) (by kernel_rfl) (by kernel_rfl) (by kernel_rfl)).met
theorem reads (os : Os) {H : Type} (enc : TypeId × Value → H) : ∃ places, DataW.whole enc Tryz.prog ((laidWorld os).forCall (fun _ _ => 0) ⟨#[], #[.string ⟨#[]⟩, .agg #[.string ⟨#[]⟩, .string ⟨#[]⟩, .int .i64 0, .int .i64 0, .int .i64 0, .int .i64 0, .int .i64 0, .int .i64 0, .int .i64 0], .agg #[.string ⟨#[]⟩, .string ⟨#[]⟩, .int .i64 0, .int .i64 0, .int .i64 0, .int .i64 0, .int .i64 0, .int .i64 0, .int .i64 0], .agg #[.string ⟨#[]⟩, .string ⟨#[]⟩, .int .i64 0, .int .i64 0, .int .i64 0, .int .i64 0, .int .i64 0, .int .i64 0, .int .i64 0]], []⟩).memory Tryz.f10.params.toList Rows.quantityThereSpec.vars false #[.string ⟨#[]⟩, .agg #[.string ⟨#[]⟩, .string ⟨#[]⟩, .int .i64 0, .int .i64 0, .int .i64 0, .int .i64 0, .int .i64 0, .int .i64 0, .int .i64 0], .agg #[.string ⟨#[]⟩, .string ⟨#[]⟩, .int .i64 0, .int .i64 0, .int .i64 0, .int .i64 0, .int .i64 0, .int .i64 0, .int .i64 0], .agg #[.string ⟨#[]⟩, .string ⟨#[]⟩, .int .i64 0, .int .i64 0, .int .i64 0, .int .i64 0, .int .i64 0, .int .i64 0, .int .i64 0]].toList 8 = some ([.lit (.string []), .agg [.lit (.string []), .lit (.string []), .agg [.lit (.int .i64 0), .lit (.int .i64 0), .lit (.int .i64 0), .lit (.int .i64 0), .lit (.int .i64 0), .lit (.int .i64 0), .lit (.int .i64 0)]], .agg [.lit (.string []), .lit (.string []), .agg [.lit (.int .i64 0), .lit (.int .i64 0), .lit (.int .i64 0), .lit (.int .i64 0), .lit (.int .i64 0), .lit (.int .i64 0), .lit (.int .i64 0)]], .agg [.lit (.string []), .lit (.string []), .agg [.lit (.int .i64 0), .lit (.int .i64 0), .lit (.int .i64 0), .lit (.int .i64 0), .lit (.int .i64 0), .lit (.int .i64 0), .lit (.int .i64 0)]]], [], places) :=
  ⟨[], by kernel_rfl⟩

set_option maxRecDepth 100000 in
set_option maxHeartbeats 2000000 in
theorem quantityThere_lifted (os : Os) (started : os.Started) (H : Type) (enc : TypeId × Value → H) (F : Stop.Interp) :
    ReturnsInHanded {} Tryz.checked os 10 .any ((OpenSpec.ofChange Rows.quantityThereSpec).preRow enc Tryz.prog Tryz.f10 Rows.quantityThereRow.domain false Rows.quantityThereRow.laid) (((OpenSpec.ofChange Rows.quantityThereSpec).at F).post enc Tryz.prog Tryz.f10 false true false false) := by
  obtain ⟨places, hx⟩ := reads os enc
  refine returnsInHanded_of_row (C := Tryz.checked) (s := (OpenSpec.ofChange Rows.quantityThereSpec)) Tryz.own started (by kernel_rfl) Tryz.func10
    (witness_row_at (enc := enc) (C := Tryz.checked) false (laidWorld os) #[.string ⟨#[]⟩, .agg #[.string ⟨#[]⟩, .string ⟨#[]⟩, .int .i64 0, .int .i64 0, .int .i64 0, .int .i64 0, .int .i64 0, .int .i64 0, .int .i64 0], .agg #[.string ⟨#[]⟩, .string ⟨#[]⟩, .int .i64 0, .int .i64 0, .int .i64 0, .int .i64 0, .int .i64 0, .int .i64 0, .int .i64 0], .agg #[.string ⟨#[]⟩, .string ⟨#[]⟩, .int .i64 0, .int .i64 0, .int .i64 0, .int .i64 0, .int .i64 0, .int .i64 0, .int .i64 0]] rfl (by kernel_rfl) (by kernel_rfl) (by kernel_rfl)
      (OpenSpec.preRow_of_cond 8 hx (by kernel_rfl) (fun k hk => by cases hk) (by kernel_rfl) (laid_met os _))) ?_
  intro W base args ds gs before hval0 hW _ hcond _ hL hsh _
  have hval : ∀ (j : Nat) t v, Tryz.f10.params[j]? = some t → args[j]? = some v → Value.okWide Tryz.prog W .any base t v := hval0
  have hW' := hW
  have hlt : ∀ p ∈ before, p.block < W.heap.size := fun p hp => hW.lt p hp
  clear hcond
  obtain ⟨p, q, hA0, hV, rfl, hfz, hnd⟩ := hW
  have hA : DataW.TrodAll enc Tryz.prog W 0 (fun _ => true) true Tryz.f10.params.toList args.toList ds p := hA0
  have hAk := hA
  rw [Tryz.params10] at hA hval
  obtain ⟨v0, v1, v2, v3, d0, d1, d2, d3, p0, p1, p2, p3, rfl, rfl, rfl, h0, h1, h2, h3⟩ := trodAll_four hA
  obtain ⟨rfl, rfl⟩ := trodVars_none hV
  obtain ⟨x, rfl, rfl, rfl, wfx⟩ := Go.ChangeMaps.open_string Tryz.underlying9 (hval 0 9 v0 rfl rfl) h0
  obtain ⟨uF, uO, up, rfl, rfl, uhF, uhO, uhp⟩ := open_unit (hval 1 24 v1 rfl rfl) h1
  obtain ⟨vF, vO, vp, rfl, rfl, vhF, vhO, vhp⟩ := open_unit (hval 2 24 v2 rfl rfl) h2
  obtain ⟨zF, zO, zp, rfl, rfl, zhF, zhO, zhp⟩ := open_unit (hval 3 24 v3 rfl rfl) h3
  clear hA0 hval0
  have hw : Wf W := ⟨tab_of_reads Tryz.gPow Tryz.gPowType Tryz.underlying222 Tryz.underlying105 Tryz.cellsU64 Tryz.cellsPow (Lib.laidMet.reads hL (.tail _ (.tail _ (.head _)))), iface_of_reads Tryz.gSyn Tryz.gSynType Tryz.underlying100 (Lib.laidMet.reads hL (.tail _ (.tail _ (.tail _ (.tail _ (.tail _ (.head _))))))), iface_of_reads Tryz.gRng Tryz.gRngType Tryz.underlying100 (Lib.laidMet.reads hL (.tail _ (.tail _ (.tail _ (.tail _ (.head _))))))⟩
  refine (there_walk x uF uO up vF vO vp zF zO zp wfx uhF uhO vhF vhO zhF zhO W hw).mono fun e W' ⟨he, hw⟩ => ?_
  subst he
  exact ⟨_, rfl, post_of_below (pv := []) hW' (fun _ _ _ => trodAll_mk1 (shut_bool Tryz.underlying4 _))
    (fun sp hsp => trodAll_kept Tryz.laidOut (by kernel_rfl) hAk (fun p hp => hw.same (hlt p (by simp at hp))) (fun p hp => by simp at hp)) (fun _ _ => rfl) rfl hw (ok_one (by kernel_rfl) rfl (okWide_bool_mk Tryz.underlying4 _))⟩

set_option maxHeartbeats 12800000 in
/-- What the row's cells say of the program. -/
theorem quantityThere_closed : joinedFacts Tryz.pinned.checked.prog 10 Tryz.f10 (OpenSpec.ofChange Rows.quantityThereSpec).bare Rows.quantityThereRow = true := by
  unfold joinedFacts
  simp only [Bool.and_eq_true]
  repeat' apply And.intro
  all_goals (as_aux_lemma => kernel_rfl)

theorem quantityThere_said : Rows.QuantityThereSaid :=
  OpenClaim.holds_of_cond 10 Tryz.f10 rfl rfl rfl rfl rfl rfl rfl ⟨rfl, rfl, rfl, rfl, rfl⟩ rfl rfl rfl rfl rfl (by as_aux_lemma => kernel_rfl) Tryz.func10 quantityThere_closed
    (of_decide_eq_true (by kernel_rfl)) (by unfold Func.isWrapper; first | (rw [if_pos (by decide +kernel)]; kernel_rfl) | (rw [if_neg (by decide +kernel)]; exact ⟨rfl, rfl⟩))
    (fun os started H enc _ F => by rw [OpenClaim.pre_eq_preRow]; exact quantityThere_lifted os started H enc F)

end Go.Proofs.YtinoipjblkidfaaGreatDoor
