/- Units of the reference: product. Units of the reference: NoUnit, Times, Over, Power. Units of the reference: Convert. -/
import Derived.Test.YtinoipjblkidfaaGreatDoorD19
import Derived.Deep.DeepCutAuto
/- Units of the reference: product. -/
namespace Go.Proofs.YtinoipjblkidfaaGreatDoor
open Go.RowKit Go.Proofs.YtinoipjblkidfaaGreatDoor.Dg Go.Proofs.YtinoipjblkidfaaGreatDoor.Q Go.Proofs.YtinoipjblkidfaaGreatDoor.Num

/-- A result and two units with exact parts. -/
def KP (w w' : World) (g8 g10 : Nat) (C8 C10 : Array Value) : Prop := Bk w' (w.heap.size + 2) u0C 24 ∧ Bk w' g8 C8 93 ∧ Bk w' g10 C10 93 ∧ Below w.heap.size w w' ∧ w.heap.size + 2 < g8 ∧ w.heap.size + 2 < g10
theorem KP.up {w w1 w2 : World} {g8 g10 : Nat} {C8 C10 : Array Value} (h : KP w w1 g8 g10 C8 C10) (hb : Below w1.heap.size w1 w2) : KP w w2 g8 g10 C8 C10 := ⟨h.1.up hb, h.2.1.up hb, h.2.2.1.up hb, btrans h.2.2.2.1 hb, h.2.2.2.2⟩
theorem KP.b {w w1 : World} {g8 g10 : Nat} {C8 C10 : Array Value} (h : KP w w1 g8 g10 C8 C10) : Below w.heap.size w w1 := h.2.2.2.1
theorem KP.limbs {w w' : World} {g8 g10 : Nat} {a0 a1 a2 a3 a4 a5 a6 a7 a8 a9 a10 a11 a12 b0 b1 b2 b3 b4 b5 b6 b7 b8 b9 b10 b11 b12 : Value} (h : KP w w' g8 g10 #[a0, a1, a2, a3, a4, a5, a6, a7, a8, a9, a10, a11, a12] #[b0, b1, b2, b3, b4, b5, b6, b7, b8, b9, b10, b11, b12]) : w'.cell? ⟨g8, 0, none⟩ = some a0 ∧ w'.cell? ⟨g8, 1, none⟩ = some a1 ∧ w'.cell? ⟨g8, 2, none⟩ = some a2 ∧ w'.cell? ⟨g10, 0, none⟩ = some b0 ∧ w'.cell? ⟨g10, 1, none⟩ = some b1 ∧ w'.cell? ⟨g10, 2, none⟩ = some b2 ∧ w'.cell? ⟨g8, 6, none⟩ = some a6 ∧ w'.cell? ⟨g8, 7, none⟩ = some a7 ∧ w'.cell? ⟨g8, 8, none⟩ = some a8 ∧ w'.cell? ⟨g8, 9, none⟩ = some a9 ∧ w'.cell? ⟨g8, 10, none⟩ = some a10 ∧ w'.cell? ⟨g8, 11, none⟩ = some a11 ∧ w'.cell? ⟨g8, 12, none⟩ = some a12 :=
  ⟨h.2.1.cell 0, h.2.1.cell 1, h.2.1.cell 2, h.2.2.1.cell 0, h.2.2.1.cell 1, h.2.2.1.cell 2, h.2.1.cell 6, h.2.1.cell 7, h.2.1.cell 8, h.2.1.cell 9, h.2.1.cell 10, h.2.1.cell 11, h.2.1.cell 12⟩
theorem KP.limbs_alloc {w w' : World} {g8 g10 : Nat} {a0 a1 a2 a3 a4 a5 a6 a7 a8 a9 a10 a11 a12 b0 b1 b2 b3 b4 b5 b6 b7 b8 b9 b10 b11 b12 : Value} (h : KP w w' g8 g10 #[a0, a1, a2, a3, a4, a5, a6, a7, a8, a9, a10, a11, a12] #[b0, b1, b2, b3, b4, b5, b6, b7, b8, b9, b10, b11, b12]) (C : Array Value) (t : TypeId) : (w'.alloc (.cells C t)).cell? ⟨g8, 0, none⟩ = some a0 ∧ (w'.alloc (.cells C t)).cell? ⟨g8, 1, none⟩ = some a1 ∧ (w'.alloc (.cells C t)).cell? ⟨g8, 2, none⟩ = some a2 ∧ (w'.alloc (.cells C t)).cell? ⟨g10, 0, none⟩ = some b0 ∧ (w'.alloc (.cells C t)).cell? ⟨g10, 1, none⟩ = some b1 ∧ (w'.alloc (.cells C t)).cell? ⟨g10, 2, none⟩ = some b2 ∧ (w'.alloc (.cells C t)).cell? ⟨g8, 6, none⟩ = some a6 ∧ (w'.alloc (.cells C t)).cell? ⟨g8, 7, none⟩ = some a7 ∧ (w'.alloc (.cells C t)).cell? ⟨g8, 8, none⟩ = some a8 ∧ (w'.alloc (.cells C t)).cell? ⟨g8, 9, none⟩ = some a9 ∧ (w'.alloc (.cells C t)).cell? ⟨g8, 10, none⟩ = some a10 ∧ (w'.alloc (.cells C t)).cell? ⟨g8, 11, none⟩ = some a11 ∧ (w'.alloc (.cells C t)).cell? ⟨g8, 12, none⟩ = some a12 := (h.up ((Below.refl _ _).alloc (Nat.le_refl _) (.cells C t))).limbs
/-- And a block for a third. -/
def KPa (w w' : World) (g8 g10 g12 : Nat) (C8 C10 : Array Value) : Prop := KP w w' g8 g10 C8 C10 ∧ Bk w' g12 sc0C 93 ∧ g8 < g12 ∧ g10 < g12
theorem KPa.up {w w1 w2 : World} {g8 g10 g12 : Nat} {C8 C10 : Array Value} (h : KPa w w1 g8 g10 g12 C8 C10) (hb : Below w1.heap.size w1 w2) : KPa w w2 g8 g10 g12 C8 C10 := ⟨h.1.up hb, h.2.1.up hb, h.2.2⟩
theorem KPa.start {w w1 : World} {g8 g10 : Nat} {C8 C10 : Array Value} (h : KP w w1 g8 g10 C8 C10) : KPa w (w1.alloc (.cells sc0C 93)) g8 g10 w1.heap.size C8 C10 :=
  ⟨h.up ((Below.refl _ _).alloc (Nat.le_refl _) _), Bk.new w1 _ _, h.2.1.lt, h.2.2.1.lt⟩
theorem KPa.limbs {w w' : World} {g8 g10 g12 : Nat} {a0 a1 a2 a3 a4 a5 a6 a7 a8 a9 a10 a11 a12 b0 b1 b2 b3 b4 b5 b6 b7 b8 b9 b10 b11 b12 : Value} (h : KPa w w' g8 g10 g12 #[a0, a1, a2, a3, a4, a5, a6, a7, a8, a9, a10, a11, a12] #[b0, b1, b2, b3, b4, b5, b6, b7, b8, b9, b10, b11, b12]) : w'.cell? ⟨g8, 0, none⟩ = some a0 ∧ w'.cell? ⟨g8, 1, none⟩ = some a1 ∧ w'.cell? ⟨g8, 2, none⟩ = some a2 ∧ w'.cell? ⟨g10, 0, none⟩ = some b0 ∧ w'.cell? ⟨g10, 1, none⟩ = some b1 ∧ w'.cell? ⟨g10, 2, none⟩ = some b2 ∧ w'.cell? ⟨g8, 6, none⟩ = some a6 ∧ w'.cell? ⟨g8, 7, none⟩ = some a7 ∧ w'.cell? ⟨g8, 8, none⟩ = some a8 ∧ w'.cell? ⟨g8, 9, none⟩ = some a9 ∧ w'.cell? ⟨g8, 10, none⟩ = some a10 ∧ w'.cell? ⟨g8, 11, none⟩ = some a11 ∧ w'.cell? ⟨g8, 12, none⟩ = some a12 := h.1.limbs
theorem KPa.limbs_put {w w' : World} {g8 g10 g12 : Nat} {a0 a1 a2 a3 a4 a5 a6 a7 a8 a9 a10 a11 a12 b0 b1 b2 b3 b4 b5 b6 b7 b8 b9 b10 b11 b12 v0 v1 v2 v3 v4 v5 v6 v7 v8 v9 v10 v11 v12 : Value} (h : KPa w w' g8 g10 g12 #[a0, a1, a2, a3, a4, a5, a6, a7, a8, a9, a10, a11, a12] #[b0, b1, b2, b3, b4, b5, b6, b7, b8, b9, b10, b11, b12]) : (((((((((((((w'.setCell ⟨g12, 0, none⟩ v0).setCell ⟨g12, 1, none⟩ v1).setCell ⟨g12, 2, none⟩ v2).setCell ⟨g12, 3, none⟩ v3).setCell ⟨g12, 4, none⟩ v4).setCell ⟨g12, 5, none⟩ v5).setCell ⟨g12, 6, none⟩ v6).setCell ⟨g12, 7, none⟩ v7).setCell ⟨g12, 8, none⟩ v8).setCell ⟨g12, 9, none⟩ v9).setCell ⟨g12, 10, none⟩ v10).setCell ⟨g12, 11, none⟩ v11).setCell ⟨g12, 12, none⟩ v12).cell? ⟨g8, 0, none⟩ = some a0 ∧ (((((((((((((w'.setCell ⟨g12, 0, none⟩ v0).setCell ⟨g12, 1, none⟩ v1).setCell ⟨g12, 2, none⟩ v2).setCell ⟨g12, 3, none⟩ v3).setCell ⟨g12, 4, none⟩ v4).setCell ⟨g12, 5, none⟩ v5).setCell ⟨g12, 6, none⟩ v6).setCell ⟨g12, 7, none⟩ v7).setCell ⟨g12, 8, none⟩ v8).setCell ⟨g12, 9, none⟩ v9).setCell ⟨g12, 10, none⟩ v10).setCell ⟨g12, 11, none⟩ v11).setCell ⟨g12, 12, none⟩ v12).cell? ⟨g8, 1, none⟩ = some a1 ∧ (((((((((((((w'.setCell ⟨g12, 0, none⟩ v0).setCell ⟨g12, 1, none⟩ v1).setCell ⟨g12, 2, none⟩ v2).setCell ⟨g12, 3, none⟩ v3).setCell ⟨g12, 4, none⟩ v4).setCell ⟨g12, 5, none⟩ v5).setCell ⟨g12, 6, none⟩ v6).setCell ⟨g12, 7, none⟩ v7).setCell ⟨g12, 8, none⟩ v8).setCell ⟨g12, 9, none⟩ v9).setCell ⟨g12, 10, none⟩ v10).setCell ⟨g12, 11, none⟩ v11).setCell ⟨g12, 12, none⟩ v12).cell? ⟨g8, 2, none⟩ = some a2 ∧ (((((((((((((w'.setCell ⟨g12, 0, none⟩ v0).setCell ⟨g12, 1, none⟩ v1).setCell ⟨g12, 2, none⟩ v2).setCell ⟨g12, 3, none⟩ v3).setCell ⟨g12, 4, none⟩ v4).setCell ⟨g12, 5, none⟩ v5).setCell ⟨g12, 6, none⟩ v6).setCell ⟨g12, 7, none⟩ v7).setCell ⟨g12, 8, none⟩ v8).setCell ⟨g12, 9, none⟩ v9).setCell ⟨g12, 10, none⟩ v10).setCell ⟨g12, 11, none⟩ v11).setCell ⟨g12, 12, none⟩ v12).cell? ⟨g10, 0, none⟩ = some b0 ∧ (((((((((((((w'.setCell ⟨g12, 0, none⟩ v0).setCell ⟨g12, 1, none⟩ v1).setCell ⟨g12, 2, none⟩ v2).setCell ⟨g12, 3, none⟩ v3).setCell ⟨g12, 4, none⟩ v4).setCell ⟨g12, 5, none⟩ v5).setCell ⟨g12, 6, none⟩ v6).setCell ⟨g12, 7, none⟩ v7).setCell ⟨g12, 8, none⟩ v8).setCell ⟨g12, 9, none⟩ v9).setCell ⟨g12, 10, none⟩ v10).setCell ⟨g12, 11, none⟩ v11).setCell ⟨g12, 12, none⟩ v12).cell? ⟨g10, 1, none⟩ = some b1 ∧ (((((((((((((w'.setCell ⟨g12, 0, none⟩ v0).setCell ⟨g12, 1, none⟩ v1).setCell ⟨g12, 2, none⟩ v2).setCell ⟨g12, 3, none⟩ v3).setCell ⟨g12, 4, none⟩ v4).setCell ⟨g12, 5, none⟩ v5).setCell ⟨g12, 6, none⟩ v6).setCell ⟨g12, 7, none⟩ v7).setCell ⟨g12, 8, none⟩ v8).setCell ⟨g12, 9, none⟩ v9).setCell ⟨g12, 10, none⟩ v10).setCell ⟨g12, 11, none⟩ v11).setCell ⟨g12, 12, none⟩ v12).cell? ⟨g10, 2, none⟩ = some b2 ∧ (((((((((((((w'.setCell ⟨g12, 0, none⟩ v0).setCell ⟨g12, 1, none⟩ v1).setCell ⟨g12, 2, none⟩ v2).setCell ⟨g12, 3, none⟩ v3).setCell ⟨g12, 4, none⟩ v4).setCell ⟨g12, 5, none⟩ v5).setCell ⟨g12, 6, none⟩ v6).setCell ⟨g12, 7, none⟩ v7).setCell ⟨g12, 8, none⟩ v8).setCell ⟨g12, 9, none⟩ v9).setCell ⟨g12, 10, none⟩ v10).setCell ⟨g12, 11, none⟩ v11).setCell ⟨g12, 12, none⟩ v12).cell? ⟨g8, 6, none⟩ = some a6 ∧ (((((((((((((w'.setCell ⟨g12, 0, none⟩ v0).setCell ⟨g12, 1, none⟩ v1).setCell ⟨g12, 2, none⟩ v2).setCell ⟨g12, 3, none⟩ v3).setCell ⟨g12, 4, none⟩ v4).setCell ⟨g12, 5, none⟩ v5).setCell ⟨g12, 6, none⟩ v6).setCell ⟨g12, 7, none⟩ v7).setCell ⟨g12, 8, none⟩ v8).setCell ⟨g12, 9, none⟩ v9).setCell ⟨g12, 10, none⟩ v10).setCell ⟨g12, 11, none⟩ v11).setCell ⟨g12, 12, none⟩ v12).cell? ⟨g8, 7, none⟩ = some a7 ∧ (((((((((((((w'.setCell ⟨g12, 0, none⟩ v0).setCell ⟨g12, 1, none⟩ v1).setCell ⟨g12, 2, none⟩ v2).setCell ⟨g12, 3, none⟩ v3).setCell ⟨g12, 4, none⟩ v4).setCell ⟨g12, 5, none⟩ v5).setCell ⟨g12, 6, none⟩ v6).setCell ⟨g12, 7, none⟩ v7).setCell ⟨g12, 8, none⟩ v8).setCell ⟨g12, 9, none⟩ v9).setCell ⟨g12, 10, none⟩ v10).setCell ⟨g12, 11, none⟩ v11).setCell ⟨g12, 12, none⟩ v12).cell? ⟨g8, 8, none⟩ = some a8 ∧ (((((((((((((w'.setCell ⟨g12, 0, none⟩ v0).setCell ⟨g12, 1, none⟩ v1).setCell ⟨g12, 2, none⟩ v2).setCell ⟨g12, 3, none⟩ v3).setCell ⟨g12, 4, none⟩ v4).setCell ⟨g12, 5, none⟩ v5).setCell ⟨g12, 6, none⟩ v6).setCell ⟨g12, 7, none⟩ v7).setCell ⟨g12, 8, none⟩ v8).setCell ⟨g12, 9, none⟩ v9).setCell ⟨g12, 10, none⟩ v10).setCell ⟨g12, 11, none⟩ v11).setCell ⟨g12, 12, none⟩ v12).cell? ⟨g8, 9, none⟩ = some a9 ∧ (((((((((((((w'.setCell ⟨g12, 0, none⟩ v0).setCell ⟨g12, 1, none⟩ v1).setCell ⟨g12, 2, none⟩ v2).setCell ⟨g12, 3, none⟩ v3).setCell ⟨g12, 4, none⟩ v4).setCell ⟨g12, 5, none⟩ v5).setCell ⟨g12, 6, none⟩ v6).setCell ⟨g12, 7, none⟩ v7).setCell ⟨g12, 8, none⟩ v8).setCell ⟨g12, 9, none⟩ v9).setCell ⟨g12, 10, none⟩ v10).setCell ⟨g12, 11, none⟩ v11).setCell ⟨g12, 12, none⟩ v12).cell? ⟨g8, 10, none⟩ = some a10 ∧ (((((((((((((w'.setCell ⟨g12, 0, none⟩ v0).setCell ⟨g12, 1, none⟩ v1).setCell ⟨g12, 2, none⟩ v2).setCell ⟨g12, 3, none⟩ v3).setCell ⟨g12, 4, none⟩ v4).setCell ⟨g12, 5, none⟩ v5).setCell ⟨g12, 6, none⟩ v6).setCell ⟨g12, 7, none⟩ v7).setCell ⟨g12, 8, none⟩ v8).setCell ⟨g12, 9, none⟩ v9).setCell ⟨g12, 10, none⟩ v10).setCell ⟨g12, 11, none⟩ v11).setCell ⟨g12, 12, none⟩ v12).cell? ⟨g8, 11, none⟩ = some a11 ∧ (((((((((((((w'.setCell ⟨g12, 0, none⟩ v0).setCell ⟨g12, 1, none⟩ v1).setCell ⟨g12, 2, none⟩ v2).setCell ⟨g12, 3, none⟩ v3).setCell ⟨g12, 4, none⟩ v4).setCell ⟨g12, 5, none⟩ v5).setCell ⟨g12, 6, none⟩ v6).setCell ⟨g12, 7, none⟩ v7).setCell ⟨g12, 8, none⟩ v8).setCell ⟨g12, 9, none⟩ v9).setCell ⟨g12, 10, none⟩ v10).setCell ⟨g12, 11, none⟩ v11).setCell ⟨g12, 12, none⟩ v12).cell? ⟨g8, 12, none⟩ = some a12 := by
  have e : (((((((((((((w'.setCell ⟨g12, 0, none⟩ v0).setCell ⟨g12, 1, none⟩ v1).setCell ⟨g12, 2, none⟩ v2).setCell ⟨g12, 3, none⟩ v3).setCell ⟨g12, 4, none⟩ v4).setCell ⟨g12, 5, none⟩ v5).setCell ⟨g12, 6, none⟩ v6).setCell ⟨g12, 7, none⟩ v7).setCell ⟨g12, 8, none⟩ v8).setCell ⟨g12, 9, none⟩ v9).setCell ⟨g12, 10, none⟩ v10).setCell ⟨g12, 11, none⟩ v11).setCell ⟨g12, 12, none⟩ v12) = Go.Proofs.YtinoipjblkidfaaGreatDoor.putL w' g12 0 [v0, v1, v2, v3, v4, v5, v6, v7, v8, v9, v10, v11, v12] := rfl
  rw [e]
  have j1 := h.1.2.1.put_other 0 [v0, v1, v2, v3, v4, v5, v6, v7, v8, v9, v10, v11, v12] (Nat.ne_of_lt h.2.2.1)
  have j2 := h.1.2.2.1.put_other 0 [v0, v1, v2, v3, v4, v5, v6, v7, v8, v9, v10, v11, v12] (Nat.ne_of_lt h.2.2.2)
  exact ⟨j1.cell 0, j1.cell 1, j1.cell 2, j2.cell 0, j2.cell 1, j2.cell 2, j1.cell 6, j1.cell 7, j1.cell 8, j1.cell 9, j1.cell 10, j1.cell 11, j1.cell 12⟩
theorem KPa.z {w w' : World} {g8 g10 g12 : Nat} {C8 C10 : Array Value} (h : KPa w w' g8 g10 g12 C8 C10) : Bk w' g12 sc0C 93 := h.2.1
/-- The world of product's loop. -/
def KQ (w w' : World) (g10 g12 : Nat) (C10 C12 : Array Value) : Prop := Bk w' (w.heap.size + 2) u0C 24 ∧ Bk w' g10 C10 93 ∧ Bk w' g12 C12 93 ∧ Below w.heap.size w w' ∧ w.heap.size + 2 < g12 ∧ g10 < g12
theorem KQ.up {w w1 w2 : World} {g10 g12 : Nat} {C10 C12 : Array Value} (h : KQ w w1 g10 g12 C10 C12) (hb : Below w1.heap.size w1 w2) : KQ w w2 g10 g12 C10 C12 := ⟨h.1.up hb, h.2.1.up hb, h.2.2.1.up hb, btrans h.2.2.2.1 hb, h.2.2.2.2⟩
theorem KQ.b {w w1 : World} {g10 g12 : Nat} {C10 C12 : Array Value} (h : KQ w w1 g10 g12 C10 C12) : Below w.heap.size w w1 := h.2.2.2.1
theorem KQ.put {w w1 : World} {g10 g12 : Nat} {C10 C12 C : Array Value} (h : KQ w w1 g10 g12 C10 C12) (i : Nat) (v : Value) (e : C12.setIfInBounds i v = C) : KQ w (w1.setCell ⟨g12, i, none⟩ v) g10 g12 C10 C := by
  obtain ⟨h1, h2, h3, h4, h5, h6⟩ := h
  exact ⟨h1.set_other v (by omega), h2.set_other v (by omega), by rw [← e]; exact h3.set v, h4.setCell (show _ ≤ g12 by omega) v, h5, h6⟩
theorem KPa.made {w w' : World} {g8 g10 g12 : Nat} {C8 C10 : Array Value} (h : KPa w w' g8 g10 g12 C8 C10) (l : List Value) (hl : l.length = 13) : KQ w (putL w' g12 0 l) g10 g12 C10 l.toArray := by
  obtain ⟨⟨h1, h2, h3, h4, h5, h6⟩, k2, k3, k4⟩ := h
  exact ⟨h1.put_other 0 l (by omega), h3.put_other 0 l (by omega), k2.put l (by rw [hl]; rfl), putL_below (by omega) l 0 h4, by omega, k4⟩
theorem KP.made {w w' : World} {g8 g10 : Nat} {C8 C10 : Array Value} (h : KP w w' g8 g10 C8 C10) (C : Array Value) : KQ w (w'.alloc (.cells C 93)) g10 w'.heap.size C10 C := by
  obtain ⟨h1, h2, h3, h4, h5, h6⟩ := h
  exact ⟨h1.alloc, h3.alloc, Bk.new w' C _, below_alloc h4 _, h1.lt, h3.lt⟩
theorem Qr.set {w : World} {v : Value} {q : Rat} {g : Nat} {C : Array Value} {t : TypeId} (h : Qr w v q) (hr : Bk w g C t) (hC : C.all (notK .u64) = true) (i : Nat) (u : Value) : Qr (w.setCell ⟨g, i, none⟩ u) v q := h.putL hr hC i [u]

set_option maxRecDepth 100000 in
set_option maxHeartbeats 12800000 in
theorem rproduct_any (F O F' O' : ByteArray) (p p' : P7) (n : Int) (hn : -12 ≤ n ∧ n ≤ 12) (hF : F.size ≤ 9223372036854775807) (hO : O.size ≤ 9223372036854775807) (hF' : F'.size ≤ 9223372036854775807) (hO' : O'.size ≤ 9223372036854775807) (w : World) :
    Calls Tryz.prog 119 #[uv F O p, uv F' O' p', .int .i64 n] w (GiveU w (unC2 (bl F) (bl O) p (bl F') (bl O') p' n)) := by
  have k0 := Lib.hid (KC.start w F O F' O' p p')
  have P1 := fun w' => rplainU_any F O p hF hO w'
  have P2 := fun w' => rplainU_any F' O' p' hF' hO' w'
  unfold unC u0C at k0
  cases h1 : plainU (bl F) (bl O) p
  · rw [h1] at P1
    rw [unC2_no1 h1]
    clear h1 hn hF hO hF' hO' P2
    obtain ⟨p0, p1, p2, p3, p4, p5, p6⟩ := p
    obtain ⟨q0, q1, q2, q3, q4, q5, q6⟩ := p'
    unfold uv at *
    dsimp only at *
    go_enter Tryz.func119, Tryz.ntmps119
    go_wp2_with (go_at_call 120; go_loud ((with_reducible refine (P1 _).mono ?_); rintro e w1 ⟨rfl, hb⟩; have k1 := Lib.hid (k0.out.up hb); obtain ⟨z0, z1, z2, z3, z4, z5, z6, z7, z8⟩ := u0_cells k1.out.2.2.1; obtain ⟨f0, f1, f2, f3, f4, f5, f6, f7, f8⟩ := k1.out.2.2.1.frozen9; clear hb))
    refine bodyPost_ret (v := .tuple #[.agg u0C, .int .i64 10]) (by simp [results, Tryz.results119, go_sem, u0C, z0, z1, z2, z3, z4, z5, z6, z7, z8]) rfl ⟨rfl, put9_below k1.out.b (by omega)⟩
  · rw [h1] at P1
    cases h2 : plainU (bl F') (bl O') p'
    · rw [h2] at P2
      rw [unC2_no2 h2]
      clear h1 h2 hn hF hO hF' hO'
      obtain ⟨p0, p1, p2, p3, p4, p5, p6⟩ := p
      obtain ⟨q0, q1, q2, q3, q4, q5, q6⟩ := p'
      unfold uv at *
      dsimp only at *
      go_enter Tryz.func119, Tryz.ntmps119
      go_wp2_with (first
        | (go_at_call 120; ((with_reducible refine (P2 _).mono ?_); rintro e w2 ⟨rfl, hb⟩; have k2 := Lib.hid (k1.out.up hb); obtain ⟨z0, z1, z2, z3, z4, z5, z6, z7, z8⟩ := u0_cells k2.out.2.2.1; obtain ⟨f0, f1, f2, f3, f4, f5, f6, f7, f8⟩ := k2.out.2.2.1.frozen9; clear hb))
        | (go_at_call 120; go_loud ((with_reducible refine (P1 _).mono ?_); rintro e w1 ⟨rfl, hb⟩; have k1 := Lib.hid (k0.out.up hb); obtain ⟨c0, c1, c2, c3, c4, c5, c6, c7, c8⟩ := k1.out.2.1.cells; clear hb)))
      refine bodyPost_ret (v := .tuple #[.agg u0C, .int .i64 10]) (by simp [results, Tryz.results119, go_sem, u0C, z0, z1, z2, z3, z4, z5, z6, z7, z8]) rfl ⟨rfl, put9_below k2.out.b (by omega)⟩
    · rw [h2] at P2
      obtain ⟨f, hf, f0, rp⟩ := plainU_parts h1
      obtain ⟨g, hg, g0, rq⟩ := plainU_parts h2
      have hX := unC2_gv (n := n) h1 h2 hf hg
      have v1 := (plainU_vU h1)
      have v2 := (plainU_vU h2)
      clear h1 h2
      have zf := num_sz hf
      have zg := num_sz hg
      have hg0 : g ≠ 0 := Rat.ne_of_gt g0
      have zp := sz_zpow hg0 zg n
      have zn : n.natAbs * 5 ≤ 60 := by have : n.natAbs ≤ 12 := by omega
                                        omega
      have PW := fun w' v (h : Qr w' v g) => rraise_any v g n (by omega) w' h (by omega)
      have MU := fun w' v v' (h : Qr w' v f) (h' : Qr w' v' (g ^ n)) => rprod_any v v' f (g ^ n) w' h h' (by omega)
      have zm := sz_mul f (g ^ n)
      obtain ⟨p0, p1, p2, p3, p4, p5, p6⟩ := p
      obtain ⟨q0, q1, q2, q3, q4, q5, q6⟩ := p'
      have R1 := fun w' => rread_at F O p0 p1 p2 p3 p4 p5 p6 true v1 hF hO w'
      have R2 := fun w' => rread_at F' O' q0 q1 q2 q3 q4 q5 q6 true v2 hF' hO' w'
      have z0 : sz (0 : Rat) ≤ 700000 := Nat.le_trans (show sz (0 : Rat) ≤ 1 by decide +kernel) (by omega)
      have GV := fun w' (x : Bool) (A A' : Option Addr) (l d l' d' : Nat) (s0 s1 s2 s3 s4 s5 s6 : Int) (h : Qr w' (.agg #[.bool x, .slice A l d, .slice A' l' d']) (f * g ^ n)) => rgive_any x false A A' none none l d l' d' 0 0 0 0 s0 s1 s2 s3 s4 s5 s6 (f * g ^ n) 0 w' h (Qr.zero w') (by omega) z0
      unfold P7.plus at hX
      unfold P7.within at rp rq
      unfold uv at *
      dsimp only at *
      have HFq := Lib.hid hf
      have HGq := Lib.hid hg
      clear z0 hf hg f0 g0 zf zg zp zm zn hg0 hF hO hF' hO' v1 v2
      generalize g ^ n = gn at *
      generalize f * gn = fg at *
      obtain ⟨⟨a0, b0⟩, ⟨a1, b1⟩, ⟨a2, b2⟩, ⟨a3, b3⟩, ⟨a4, b4⟩, ⟨a5, b5⟩, ⟨a6, b6⟩⟩ := rp
      obtain ⟨⟨e0, g0⟩, ⟨e1, g1⟩, ⟨e2, g2⟩, ⟨e3, g3⟩, ⟨e4, g4⟩, ⟨e5, g5⟩, ⟨e6, g6⟩⟩ := rq
      have t0 := mul_bound hn ⟨e0, g0⟩
      obtain ⟨m0, mm0⟩ : ∃ m, m = n * q0 := ⟨_, rfl⟩
      rw [← mm0] at t0
      have wx0 : IntKind.i64.wrap (n * q0) = m0 := by rw [← mm0]; exact IntWalk.i64_in _ (by constructor <;> omega)
      have wy0 : IntKind.i64.wrap (p0 + m0) = p0 + m0 := IntWalk.i64_in _ (by constructor <;> omega)
      rw [← mm0] at hX
      clear t0 mm0
      have t1 := mul_bound hn ⟨e1, g1⟩
      obtain ⟨m1, mm1⟩ : ∃ m, m = n * q1 := ⟨_, rfl⟩
      rw [← mm1] at t1
      have wx1 : IntKind.i64.wrap (n * q1) = m1 := by rw [← mm1]; exact IntWalk.i64_in _ (by constructor <;> omega)
      have wy1 : IntKind.i64.wrap (p1 + m1) = p1 + m1 := IntWalk.i64_in _ (by constructor <;> omega)
      rw [← mm1] at hX
      clear t1 mm1
      have t2 := mul_bound hn ⟨e2, g2⟩
      obtain ⟨m2, mm2⟩ : ∃ m, m = n * q2 := ⟨_, rfl⟩
      rw [← mm2] at t2
      have wx2 : IntKind.i64.wrap (n * q2) = m2 := by rw [← mm2]; exact IntWalk.i64_in _ (by constructor <;> omega)
      have wy2 : IntKind.i64.wrap (p2 + m2) = p2 + m2 := IntWalk.i64_in _ (by constructor <;> omega)
      rw [← mm2] at hX
      clear t2 mm2
      have t3 := mul_bound hn ⟨e3, g3⟩
      obtain ⟨m3, mm3⟩ : ∃ m, m = n * q3 := ⟨_, rfl⟩
      rw [← mm3] at t3
      have wx3 : IntKind.i64.wrap (n * q3) = m3 := by rw [← mm3]; exact IntWalk.i64_in _ (by constructor <;> omega)
      have wy3 : IntKind.i64.wrap (p3 + m3) = p3 + m3 := IntWalk.i64_in _ (by constructor <;> omega)
      rw [← mm3] at hX
      clear t3 mm3
      have t4 := mul_bound hn ⟨e4, g4⟩
      obtain ⟨m4, mm4⟩ : ∃ m, m = n * q4 := ⟨_, rfl⟩
      rw [← mm4] at t4
      have wx4 : IntKind.i64.wrap (n * q4) = m4 := by rw [← mm4]; exact IntWalk.i64_in _ (by constructor <;> omega)
      have wy4 : IntKind.i64.wrap (p4 + m4) = p4 + m4 := IntWalk.i64_in _ (by constructor <;> omega)
      rw [← mm4] at hX
      clear t4 mm4
      have t5 := mul_bound hn ⟨e5, g5⟩
      obtain ⟨m5, mm5⟩ : ∃ m, m = n * q5 := ⟨_, rfl⟩
      rw [← mm5] at t5
      have wx5 : IntKind.i64.wrap (n * q5) = m5 := by rw [← mm5]; exact IntWalk.i64_in _ (by constructor <;> omega)
      have wy5 : IntKind.i64.wrap (p5 + m5) = p5 + m5 := IntWalk.i64_in _ (by constructor <;> omega)
      rw [← mm5] at hX
      clear t5 mm5
      have t6 := mul_bound hn ⟨e6, g6⟩
      obtain ⟨m6, mm6⟩ : ∃ m, m = n * q6 := ⟨_, rfl⟩
      rw [← mm6] at t6
      have wx6 : IntKind.i64.wrap (n * q6) = m6 := by rw [← mm6]; exact IntWalk.i64_in _ (by constructor <;> omega)
      have wy6 : IntKind.i64.wrap (p6 + m6) = p6 + m6 := IntWalk.i64_in _ (by constructor <;> omega)
      rw [← mm6] at hX
      clear t6 mm6
      clear hn a0 b0 a1 b1 a2 b2 a3 b3 a4 b4 a5 b5 a6 b6 e0 g0 e1 g1 e2 g2 e3 g3 e4 g4 e5 g5 e6 g6
      rw [hX]
      have GV := fun w' (x : Bool) (A A' : Option Addr) (l d l' d' : Nat) (h : Qr w' (.agg #[.bool x, .slice A l d, .slice A' l' d']) fg) => GV w' x A A' l d l' d' (p0 + m0) (p1 + m1) (p2 + m2) (p3 + m3) (p4 + m4) (p5 + m5) (p6 + m6) h
      obtain ⟨⟨⟨XF, XO, ⟨x0, x1, x2, x3, x4, x5, x6⟩⟩, xe⟩, hR⟩ : ∃ R, gvU fg 0 ⟨p0 + m0, p1 + m1, p2 + m2, p3 + m3, p4 + m4, p5 + m5, p6 + m6⟩ = R := ⟨_, rfl⟩
      rw [hR]
      rw [hR] at GV
      clear hX hR
      unfold GiveU Un.v uv at *
      dsimp only at *
      go_enter Tryz.func119, Tryz.ntmps119
      go_wp2_with (first
        | (go_at_call 101; ((with_reducible refine (R2 _).mono ?_); rintro e w4 ⟨y5, A5, l5, d5, A6, l6, d6, y7, A7, l7, d7, A8, l8, d8, qg, qp, rfl, hb, hq, _, _, _, o1, _⟩; obtain rfl := o1 _ HGq.out; have k5 := Lib.hid (k4.out.up hb); have B5 := Lib.hid (B4.out.up hb); have F5 := Lib.hid (F4.out.up hb); have G5 := Lib.hid hq; have sy5 := k5.out.2.2.1.lt; clear hb hq o1))
        | (go_at_call 101; go_loud ((with_reducible refine (R1 _).mono ?_); rintro e w3 ⟨y1, A1, l1, d1, A2, l2, d2, y2, A3, l3, d3, A4, l4, d4, qf, qo, rfl, hb, hq, _, _, _, o1, _⟩; obtain rfl := o1 _ HFq.out; have k3 := Lib.hid (k2.out.up hb); have bx := (Below.refl w3.heap.size w3).alloc (Nat.le_refl _) (.cells #[.bool y1, .slice A1 l1 d1, .slice A2 l2 d2, .bool y2, .slice A3 l3 d3, .slice A4 l4 d4, .int .i64 p0, .int .i64 p1, .int .i64 p2, .int .i64 p3, .int .i64 p4, .int .i64 p5, .int .i64 p6] 93); have k4 := Lib.hid (k3.out.up bx); have F4 := Lib.hid (hq.up bx); have B4 := Lib.hid (Bk.new w3 #[.bool y1, .slice A1 l1 d1, .slice A2 l2 d2, .bool y2, .slice A3 l3 d3, .slice A4 l4 d4, .int .i64 p0, .int .i64 p1, .int .i64 p2, .int .i64 p3, .int .i64 p4, .int .i64 p5, .int .i64 p6] 93); obtain ⟨c0, c1, c2, c3, c4, c5, c6, c7, c8⟩ := k3.out.2.1.cells; have sz3 := k3.out.2.1.lt; have sy3 := k3.out.2.2.1.lt; clear hb hq bx o1))
        | (go_at_call 120; ((with_reducible refine (P2 _).mono ?_); rintro e w2 ⟨rfl, hb⟩; have k2 := Lib.hid (k1.out.up hb); obtain ⟨c0, c1, c2, c3, c4, c5, c6, c7, c8⟩ := k2.out.1.cells; clear hb))
        | (go_at_call 120; go_loud ((with_reducible refine (P1 _).mono ?_); rintro e w1 ⟨rfl, hb⟩; have k1 := Lib.hid (k0.out.up hb); obtain ⟨c0, c1, c2, c3, c4, c5, c6, c7, c8⟩ := k1.out.2.1.cells; clear hb)))
      have bx := (Below.refl w4.heap.size w4).alloc (Nat.le_refl _) (.cells #[.bool y5, .slice A5 l5 d5, .slice A6 l6 d6, .bool y7, .slice A7 l7 d7, .slice A8 l8 d8, .int .i64 q0, .int .i64 q1, .int .i64 q2, .int .i64 q3, .int .i64 q4, .int .i64 q5, .int .i64 q6] 93)
      have kw := Lib.hid (show KP w (w4.alloc (.cells #[.bool y5, .slice A5 l5 d5, .slice A6 l6 d6, .bool y7, .slice A7 l7 d7, .slice A8 l8 d8, .int .i64 q0, .int .i64 q1, .int .i64 q2, .int .i64 q3, .int .i64 q4, .int .i64 q5, .int .i64 q6] 93)) w3.heap.size w4.heap.size #[.bool y1, .slice A1 l1 d1, .slice A2 l2 d2, .bool y2, .slice A3 l3 d3, .slice A4 l4 d4, .int .i64 p0, .int .i64 p1, .int .i64 p2, .int .i64 p3, .int .i64 p4, .int .i64 p5, .int .i64 p6] #[.bool y5, .slice A5 l5 d5, .slice A6 l6 d6, .bool y7, .slice A7 l7 d7, .slice A8 l8 d8, .int .i64 q0, .int .i64 q1, .int .i64 q2, .int .i64 q3, .int .i64 q4, .int .i64 q5, .int .i64 q6] from
        ⟨(k5.out.up bx).2.2.1, B5.out.up bx, Bk.new w4 _ _, btrans k5.out.b bx, sy3, sy5⟩)
      have FW := Lib.hid (F5.out.up bx)
      have GW := Lib.hid (G5.out.up bx)
      clear bx k0 k1 k2 k3 k4 k5 B4 B5 F4 F5 G5 R1 R2 P1 P2 sz3 sy3 sy5 c0 c1 c2 c3 c4 c5 c6 c7 c8 HFq HGq
      generalize w3.heap.size = g8 at *
      generalize w4.heap.size = g10 at *
      generalize w4.alloc _ = wl at *
      have kb := Lib.hid (kw.out.up (Below.drew (Below.refl _ _)))
      have FB := Lib.hid (FW.out.up (Below.drew (Below.refl _ _)))
      have GB := Lib.hid (GW.out.up (Below.drew (Below.refl _ _)))
      have ba := (Below.refl wl.heap.size wl).alloc (Nat.le_refl _) (.cells sc0C 93)
      have ka := Lib.hid ((KPa.start kw.out).up (Below.drew (Below.refl _ _)))
      have FA := Lib.hid ((FW.out.up ba).up (Below.drew (Below.refl _ _)))
      have GA := Lib.hid ((GW.out.up ba).up (Below.drew (Below.refl _ _)))
      clear ba kw FW GW
      unfold sc0C at ka FA GA
      go_cut [12] (fun s wx => ∃ (O12 : Nat) (x9 : Bool) (A9 : Option Addr) (l9 d9 : Nat) (A10 : Option Addr) (l10 d10 : Nat), s = .pointer (some ⟨O12, 0, none⟩) ∧ Hid (KQ w wx g10 O12 #[.bool y5, .slice A5 l5 d5, .slice A6 l6 d6, .bool y7, .slice A7 l7 d7, .slice A8 l8 d8, .int .i64 q0, .int .i64 q1, .int .i64 q2, .int .i64 q3, .int .i64 q4, .int .i64 q5, .int .i64 q6] #[.bool x9, .slice A9 l9 d9, .slice A10 l10 d10, .bool false, .slice none 0 0, .slice none 0 0, .int .i64 p0, .int .i64 p1, .int .i64 p2, .int .i64 p3, .int .i64 p4, .int .i64 p5, .int .i64 p6]) ∧ Hid (Qr wx (.agg #[.bool x9, .slice A9 l9 d9, .slice A10 l10 d10]) fg))
      case first =>
        go_region_held3 (fun w' => w'.cell? ⟨g8, 0, none⟩ = some (.bool y1) ∧ w'.cell? ⟨g8, 1, none⟩ = some (.slice A1 l1 d1) ∧ w'.cell? ⟨g8, 2, none⟩ = some (.slice A2 l2 d2) ∧ w'.cell? ⟨g10, 0, none⟩ = some (.bool y5) ∧ w'.cell? ⟨g10, 1, none⟩ = some (.slice A5 l5 d5) ∧ w'.cell? ⟨g10, 2, none⟩ = some (.slice A6 l6 d6) ∧ w'.cell? ⟨g8, 6, none⟩ = some (.int .i64 p0) ∧ w'.cell? ⟨g8, 7, none⟩ = some (.int .i64 p1) ∧ w'.cell? ⟨g8, 8, none⟩ = some (.int .i64 p2) ∧ w'.cell? ⟨g8, 9, none⟩ = some (.int .i64 p3) ∧ w'.cell? ⟨g8, 10, none⟩ = some (.int .i64 p4) ∧ w'.cell? ⟨g8, 11, none⟩ = some (.int .i64 p5) ∧ w'.cell? ⟨g8, 12, none⟩ = some (.int .i64 p6))
          (first | (with_reducible exact ka7.out.limbs_put) | (with_reducible exact ka7.out.limbs) | (with_reducible exact kb7.out.limbs) | (with_reducible exact kb7.out.limbs_alloc _ _) | (with_reducible exact ka6.out.limbs) | (with_reducible exact kc6.out.limbs) | (with_reducible exact kb6.out.limbs) | (with_reducible exact ka.out.limbs) | (with_reducible exact kb.out.limbs) | go_keep)
          (first
            | (go_at_call 56; ((with_reducible refine (MU _ _ _ FC6.out PC6.out).mono ?_); rintro e w7 ⟨v, rfl, ⟨A9, d9, A10, d10, dd, rfl, n9, n10, hd⟩, hb⟩; have ka7 := Lib.hid (kc6.out.up hb); have Q7 := Lib.hid (show Qr w7 _ fg from ⟨A9, d9, A10, d10, dd, rfl, n9, n10, hd⟩); obtain ⟨z0, z1, z2, z3, z4, z5, z6, z7, z8, z9, z10, z11, z12⟩ := sc_cells ka7.out.z; obtain ⟨f0, f1, f2, f3, f4, f5, f6, f7, f8, f9, f10, f11, f12⟩ := ka7.out.z.frozen13; clear hb n9 n10 hd))
            | (go_at_call 56; ((with_reducible refine (MU _ _ _ F6.out P6.out).mono ?_); rintro e w7 ⟨v, rfl, ⟨A9, d9, A10, d10, dd, rfl, n9, n10, hd⟩, hb⟩; have ka7 := Lib.hid (ka6.out.up hb); have Q7 := Lib.hid (show Qr w7 _ fg from ⟨A9, d9, A10, d10, dd, rfl, n9, n10, hd⟩); obtain ⟨z0, z1, z2, z3, z4, z5, z6, z7, z8, z9, z10, z11, z12⟩ := sc_cells ka7.out.z; obtain ⟨f0, f1, f2, f3, f4, f5, f6, f7, f8, f9, f10, f11, f12⟩ := ka7.out.z.frozen13; clear hb n9 n10 hd))
            | (go_at_call 56; ((with_reducible refine (MU _ _ _ F6.out P6.out).mono ?_); rintro e w7 ⟨v, rfl, ⟨A9, d9, A10, d10, dd, rfl, n9, n10, hd⟩, hb⟩; have kb7 := Lib.hid (kb6.out.up hb); have Q7 := Lib.hid (show Qr w7 _ fg from ⟨A9, d9, A10, d10, dd, rfl, n9, n10, hd⟩); clear hb n9 n10 hd))
            | (go_at_call 134; ((with_reducible refine (PW _ _ GA.out).mono ?_); rintro e w6 ⟨v, rfl, hF, hb⟩; have ka6 := Lib.hid (ka.out.up hb); have P6 := Lib.hid hF; have F6 := Lib.hid (FA.out.up hb); clear hF hb))
            | (go_at_call 134; go_loud ((with_reducible refine (PW _ _ GB.out).mono ?_); rintro e w6 ⟨v, rfl, hF, hb⟩; have kb6 := Lib.hid (kb.out.up hb); have P6 := Lib.hid hF; have F6 := Lib.hid (FB.out.up hb); have ba := (Below.refl w6.heap.size w6).alloc (Nat.le_refl _) (.cells #[.bool false, .slice none 0 0, .slice none 0 0, .bool false, .slice none 0 0, .slice none 0 0, .int .i64 0, .int .i64 0, .int .i64 0, .int .i64 0, .int .i64 0, .int .i64 0, .int .i64 0] 93); have kc6 := Lib.hid (KPa.start kb6.out); unfold sc0C at kc6; have FC6 := Lib.hid (F6.out.up ba); have PC6 := Lib.hid (P6.out.up ba); clear hF hb ba)))
        all_goals go_wp2
        all_goals go_meet
        all_goals first
          | exact ⟨_, _, _, _, _, _, _, _, rfl, Lib.hid (ka7.out.made [.bool (ngt fg), .slice A9 (nd (top fg)) d9, .slice A10 (nd dd) d10, .bool false, .slice none 0 0, .slice none 0 0, .int .i64 p0, .int .i64 p1, .int .i64 p2, .int .i64 p3, .int .i64 p4, .int .i64 p5, .int .i64 p6] rfl), Lib.hid (Q7.out.putL ka7.out.z sc0_all 0 [.bool (ngt fg), .slice A9 (nd (top fg)) d9, .slice A10 (nd dd) d10, .bool false, .slice none 0 0, .slice none 0 0, .int .i64 p0, .int .i64 p1, .int .i64 p2, .int .i64 p3, .int .i64 p4, .int .i64 p5, .int .i64 p6])⟩
          | exact ⟨_, _, _, _, _, _, _, _, rfl, Lib.hid (kb7.out.made _), Lib.hid (Q7.out.up ((Below.refl _ _).alloc (Nat.le_refl _) _))⟩
      case rest =>
        obtain ⟨g12, x9, A9, l9, d9, A10, l10, d10, rfl, K0, Q0⟩ := hcut
        clear kb FB GB ka FA GA PW MU
        go_wp2
        refine wp_loop_rounds 8 ?_
        have ca0 := K0.out.2.2.1.cell 6
        have cb0 := K0.out.2.1.cell 6
        have cf0 := K0.out.2.2.1.frozen 6
        rw [rounds_succ]
        go_wp2
        refine wp_region_still_tail 13 (by kernel_rfl) (by kernel_rfl) ?_
        simp only [List.take_succ_cons, List.take_zero, List.drop_succ_cons, List.drop_zero]
        repeat still_step
        refine wpStill_nil ?_
        change wpList _ _ _ _ _ (World.drew _)
        go_wp2
        have K1 := Lib.hid ((K0.out.put 6 (.int .i64 (p0 + m0)) (C := #[.bool x9, .slice A9 l9 d9, .slice A10 l10 d10, .bool false, .slice none 0 0, .slice none 0 0, .int .i64 (p0 + m0), .int .i64 p1, .int .i64 p2, .int .i64 p3, .int .i64 p4, .int .i64 p5, .int .i64 p6]) rfl).up (Below.drew (Below.refl _ _)))
        have Q1 := Lib.hid ((Q0.out.set K0.out.2.2.1 (by simp [notK]) 6 (.int .i64 (p0 + m0))).up (Below.drew (Below.refl _ _)))
        clear K0 Q0 ca0 cb0 cf0
        generalize (World.setCell _ _ _).drew = wz0 at *
        have ca1 := K1.out.2.2.1.cell 7
        have cb1 := K1.out.2.1.cell 7
        have cf1 := K1.out.2.2.1.frozen 7
        rw [rounds_succ]
        go_wp2
        refine wp_region_still_tail 13 (by kernel_rfl) (by kernel_rfl) ?_
        simp only [List.take_succ_cons, List.take_zero, List.drop_succ_cons, List.drop_zero]
        repeat still_step
        refine wpStill_nil ?_
        change wpList _ _ _ _ _ (World.drew _)
        go_wp2
        have K2 := Lib.hid ((K1.out.put 7 (.int .i64 (p1 + m1)) (C := #[.bool x9, .slice A9 l9 d9, .slice A10 l10 d10, .bool false, .slice none 0 0, .slice none 0 0, .int .i64 (p0 + m0), .int .i64 (p1 + m1), .int .i64 p2, .int .i64 p3, .int .i64 p4, .int .i64 p5, .int .i64 p6]) rfl).up (Below.drew (Below.refl _ _)))
        have Q2 := Lib.hid ((Q1.out.set K1.out.2.2.1 (by simp [notK]) 7 (.int .i64 (p1 + m1))).up (Below.drew (Below.refl _ _)))
        clear K1 Q1 ca1 cb1 cf1
        generalize (World.setCell _ _ _).drew = wz1 at *
        have ca2 := K2.out.2.2.1.cell 8
        have cb2 := K2.out.2.1.cell 8
        have cf2 := K2.out.2.2.1.frozen 8
        rw [rounds_succ]
        go_wp2
        refine wp_region_still_tail 13 (by kernel_rfl) (by kernel_rfl) ?_
        simp only [List.take_succ_cons, List.take_zero, List.drop_succ_cons, List.drop_zero]
        repeat still_step
        refine wpStill_nil ?_
        change wpList _ _ _ _ _ (World.drew _)
        go_wp2
        have K3 := Lib.hid ((K2.out.put 8 (.int .i64 (p2 + m2)) (C := #[.bool x9, .slice A9 l9 d9, .slice A10 l10 d10, .bool false, .slice none 0 0, .slice none 0 0, .int .i64 (p0 + m0), .int .i64 (p1 + m1), .int .i64 (p2 + m2), .int .i64 p3, .int .i64 p4, .int .i64 p5, .int .i64 p6]) rfl).up (Below.drew (Below.refl _ _)))
        have Q3 := Lib.hid ((Q2.out.set K2.out.2.2.1 (by simp [notK]) 8 (.int .i64 (p2 + m2))).up (Below.drew (Below.refl _ _)))
        clear K2 Q2 ca2 cb2 cf2
        generalize (World.setCell _ _ _).drew = wz2 at *
        have ca3 := K3.out.2.2.1.cell 9
        have cb3 := K3.out.2.1.cell 9
        have cf3 := K3.out.2.2.1.frozen 9
        rw [rounds_succ]
        go_wp2
        refine wp_region_still_tail 13 (by kernel_rfl) (by kernel_rfl) ?_
        simp only [List.take_succ_cons, List.take_zero, List.drop_succ_cons, List.drop_zero]
        repeat still_step
        refine wpStill_nil ?_
        change wpList _ _ _ _ _ (World.drew _)
        go_wp2
        have K4 := Lib.hid ((K3.out.put 9 (.int .i64 (p3 + m3)) (C := #[.bool x9, .slice A9 l9 d9, .slice A10 l10 d10, .bool false, .slice none 0 0, .slice none 0 0, .int .i64 (p0 + m0), .int .i64 (p1 + m1), .int .i64 (p2 + m2), .int .i64 (p3 + m3), .int .i64 p4, .int .i64 p5, .int .i64 p6]) rfl).up (Below.drew (Below.refl _ _)))
        have Q4 := Lib.hid ((Q3.out.set K3.out.2.2.1 (by simp [notK]) 9 (.int .i64 (p3 + m3))).up (Below.drew (Below.refl _ _)))
        clear K3 Q3 ca3 cb3 cf3
        generalize (World.setCell _ _ _).drew = wz3 at *
        have ca4 := K4.out.2.2.1.cell 10
        have cb4 := K4.out.2.1.cell 10
        have cf4 := K4.out.2.2.1.frozen 10
        rw [rounds_succ]
        go_wp2
        refine wp_region_still_tail 13 (by kernel_rfl) (by kernel_rfl) ?_
        simp only [List.take_succ_cons, List.take_zero, List.drop_succ_cons, List.drop_zero]
        repeat still_step
        refine wpStill_nil ?_
        change wpList _ _ _ _ _ (World.drew _)
        go_wp2
        have K5 := Lib.hid ((K4.out.put 10 (.int .i64 (p4 + m4)) (C := #[.bool x9, .slice A9 l9 d9, .slice A10 l10 d10, .bool false, .slice none 0 0, .slice none 0 0, .int .i64 (p0 + m0), .int .i64 (p1 + m1), .int .i64 (p2 + m2), .int .i64 (p3 + m3), .int .i64 (p4 + m4), .int .i64 p5, .int .i64 p6]) rfl).up (Below.drew (Below.refl _ _)))
        have Q5 := Lib.hid ((Q4.out.set K4.out.2.2.1 (by simp [notK]) 10 (.int .i64 (p4 + m4))).up (Below.drew (Below.refl _ _)))
        clear K4 Q4 ca4 cb4 cf4
        generalize (World.setCell _ _ _).drew = wz4 at *
        have ca5 := K5.out.2.2.1.cell 11
        have cb5 := K5.out.2.1.cell 11
        have cf5 := K5.out.2.2.1.frozen 11
        rw [rounds_succ]
        go_wp2
        refine wp_region_still_tail 13 (by kernel_rfl) (by kernel_rfl) ?_
        simp only [List.take_succ_cons, List.take_zero, List.drop_succ_cons, List.drop_zero]
        repeat still_step
        refine wpStill_nil ?_
        change wpList _ _ _ _ _ (World.drew _)
        go_wp2
        have K6 := Lib.hid ((K5.out.put 11 (.int .i64 (p5 + m5)) (C := #[.bool x9, .slice A9 l9 d9, .slice A10 l10 d10, .bool false, .slice none 0 0, .slice none 0 0, .int .i64 (p0 + m0), .int .i64 (p1 + m1), .int .i64 (p2 + m2), .int .i64 (p3 + m3), .int .i64 (p4 + m4), .int .i64 (p5 + m5), .int .i64 p6]) rfl).up (Below.drew (Below.refl _ _)))
        have Q6 := Lib.hid ((Q5.out.set K5.out.2.2.1 (by simp [notK]) 11 (.int .i64 (p5 + m5))).up (Below.drew (Below.refl _ _)))
        clear K5 Q5 ca5 cb5 cf5
        generalize (World.setCell _ _ _).drew = wz5 at *
        have ca6 := K6.out.2.2.1.cell 12
        have cb6 := K6.out.2.1.cell 12
        have cf6 := K6.out.2.2.1.frozen 12
        rw [rounds_succ]
        go_wp2
        refine wp_region_still_tail 13 (by kernel_rfl) (by kernel_rfl) ?_
        simp only [List.take_succ_cons, List.take_zero, List.drop_succ_cons, List.drop_zero]
        repeat still_step
        refine wpStill_nil ?_
        change wpList _ _ _ _ _ (World.drew _)
        go_wp2
        have K7 := Lib.hid ((K6.out.put 12 (.int .i64 (p6 + m6)) (C := #[.bool x9, .slice A9 l9 d9, .slice A10 l10 d10, .bool false, .slice none 0 0, .slice none 0 0, .int .i64 (p0 + m0), .int .i64 (p1 + m1), .int .i64 (p2 + m2), .int .i64 (p3 + m3), .int .i64 (p4 + m4), .int .i64 (p5 + m5), .int .i64 (p6 + m6)]) rfl).up (Below.drew (Below.refl _ _)))
        have Q7 := Lib.hid ((Q6.out.set K6.out.2.2.1 (by simp [notK]) 12 (.int .i64 (p6 + m6))).up (Below.drew (Below.refl _ _)))
        clear K6 Q6 ca6 cb6 cf6
        generalize (World.setCell _ _ _).drew = wz6 at *
        obtain ⟨cc0, cc1, cc2, cc3, cc4, cc5, cc6, cc7, cc8, cc9, cc10, cc11, cc12⟩ := cells13 K7.out.2.2.1
        rw [rounds_succ]
        go_wp2_with (go_at_call 79; go_loud ((with_reducible refine (GV _ _ _ _ _ _ _ _ Q7.out).mono ?_); rintro e w8 ⟨rfl, hb⟩; have k8 := Lib.hid (K7.out.up hb); obtain ⟨z0, z1, z2, z3, z4, z5, z6, z7, z8⟩ := u0_cells k8.out.1; obtain ⟨f0, f1, f2, f3, f4, f5, f6, f7, f8⟩ := k8.out.1.frozen9; clear hb))
        refine bodyPost_ret (v := .tuple #[.agg #[.string ⟨XF.toArray⟩, .string ⟨XO.toArray⟩, .int .i64 x0, .int .i64 x1, .int .i64 x2, .int .i64 x3, .int .i64 x4, .int .i64 x5, .int .i64 x6], .int .i64 xe]) (by simp [results, Tryz.results119, go_sem, z0, z1, z2, z3, z4, z5, z6, z7, z8]) rfl ⟨rfl, put9_below k8.out.b (by omega)⟩

end Go.Proofs.YtinoipjblkidfaaGreatDoor

/- Units of the reference: NoUnit, Times, Over, Power. -/
namespace Go.Proofs.YtinoipjblkidfaaGreatDoor
open Go.RowKit Go.Proofs.YtinoipjblkidfaaGreatDoor.Dg Go.Proofs.YtinoipjblkidfaaGreatDoor.Q Go.Proofs.YtinoipjblkidfaaGreatDoor.Num

set_option maxRecDepth 100000 in
set_option maxHeartbeats 6400000 in
theorem rTimes_any (F O F' O' : ByteArray) (p p' : P7) (hF : F.size ≤ 9223372036854775807) (hO : O.size ≤ 9223372036854775807) (hF' : F'.size ≤ 9223372036854775807) (hO' : O'.size ≤ 9223372036854775807) (w : World) :
    Calls Tryz.prog 63 #[uv F O p, uv F' O' p'] w (GiveU w (unC2 (bl F) (bl O) p (bl F') (bl O') p' 1)) := by
  have k0 := Lib.hid (KC.start w F O F' O' p p')
  have C1 := fun w' (_ : Below w.heap.size w w') => rproduct_any F O F' O' p p' 1 (by decide) hF hO hF' hO' w'
  generalize unC2 (bl F) (bl O) p (bl F') (bl O') p' 1 = X at *
  unfold unC u0C at k0
  obtain ⟨p0, p1, p2, p3, p4, p5, p6⟩ := p
  obtain ⟨q0, q1, q2, q3, q4, q5, q6⟩ := p'
  obtain ⟨⟨XF, XO, ⟨x0, x1, x2, x3, x4, x5, x6⟩⟩, xe⟩ := X
  unfold GiveU Un.v at *
  unfold uv at *
  dsimp only at *
  clear hF hF' hO hO'
  go_enter Tryz.func63, Tryz.ntmps63
  go_wp2_with (go_at_call 119; go_loud ((with_reducible refine (C1 _ k0.out.b).mono ?_); rintro e w1 ⟨rfl, hb⟩; have k1 := Lib.hid (k0.out.up hb); obtain ⟨z0, z1, z2, z3, z4, z5, z6, z7, z8⟩ := u0_cells k1.out.2.2.1; obtain ⟨f0, f1, f2, f3, f4, f5, f6, f7, f8⟩ := k1.out.2.2.1.frozen9; clear hb))
  refine bodyPost_ret (v := .tuple #[.agg #[.string ⟨XF.toArray⟩, .string ⟨XO.toArray⟩, .int .i64 x0, .int .i64 x1, .int .i64 x2, .int .i64 x3, .int .i64 x4, .int .i64 x5, .int .i64 x6], .int .i64 xe]) (by simp [results, Tryz.results63, go_sem, z0, z1, z2, z3, z4, z5, z6, z7, z8]) rfl ⟨rfl, put9_below k1.out.b (by omega)⟩

set_option maxRecDepth 100000 in
set_option maxHeartbeats 6400000 in
theorem rOver_any (F O F' O' : ByteArray) (p p' : P7) (hF : F.size ≤ 9223372036854775807) (hO : O.size ≤ 9223372036854775807) (hF' : F'.size ≤ 9223372036854775807) (hO' : O'.size ≤ 9223372036854775807) (w : World) :
    Calls Tryz.prog 64 #[uv F O p, uv F' O' p'] w (GiveU w (unC2 (bl F) (bl O) p (bl F') (bl O') p' (-1))) := by
  have k0 := Lib.hid (KC.start w F O F' O' p p')
  have C1 := fun w' (_ : Below w.heap.size w w') => rproduct_any F O F' O' p p' (-1) (by decide) hF hO hF' hO' w'
  generalize unC2 (bl F) (bl O) p (bl F') (bl O') p' (-1) = X at *
  unfold unC u0C at k0
  obtain ⟨p0, p1, p2, p3, p4, p5, p6⟩ := p
  obtain ⟨q0, q1, q2, q3, q4, q5, q6⟩ := p'
  obtain ⟨⟨XF, XO, ⟨x0, x1, x2, x3, x4, x5, x6⟩⟩, xe⟩ := X
  unfold GiveU Un.v at *
  unfold uv at *
  dsimp only at *
  clear hF hF' hO hO'
  go_enter Tryz.func64, Tryz.ntmps64
  go_wp2_with (go_at_call 119; go_loud ((with_reducible refine (C1 _ k0.out.b).mono ?_); rintro e w1 ⟨rfl, hb⟩; have k1 := Lib.hid (k0.out.up hb); obtain ⟨z0, z1, z2, z3, z4, z5, z6, z7, z8⟩ := u0_cells k1.out.2.2.1; obtain ⟨f0, f1, f2, f3, f4, f5, f6, f7, f8⟩ := k1.out.2.2.1.frozen9; clear hb))
  refine bodyPost_ret (v := .tuple #[.agg #[.string ⟨XF.toArray⟩, .string ⟨XO.toArray⟩, .int .i64 x0, .int .i64 x1, .int .i64 x2, .int .i64 x3, .int .i64 x4, .int .i64 x5, .int .i64 x6], .int .i64 xe]) (by simp [results, Tryz.results64, go_sem, z0, z1, z2, z3, z4, z5, z6, z7, z8]) rfl ⟨rfl, put9_below k1.out.b (by omega)⟩

set_option maxRecDepth 100000 in
theorem rnounit_any (w : World) : Calls Tryz.prog 121 #[] w fun e w' => e = .returned (.agg #[.string ⟨#[49]⟩, .string ⟨#[48]⟩, .int .i64 0, .int .i64 0, .int .i64 0, .int .i64 0, .int .i64 0, .int .i64 0, .int .i64 0]) ∧ Below w.heap.size w w' := by
  go_enter Tryz.func121, Tryz.ntmps121
  go_wp2
  refine bodyPost_ret (v := .agg #[.string ⟨#[49]⟩, .string ⟨#[48]⟩, .int .i64 0, .int .i64 0, .int .i64 0, .int .i64 0, .int .i64 0, .int .i64 0, .int .i64 0]) (by simp [results, Tryz.results121, go_sem]) rfl ⟨rfl, ?_⟩
  first | exact below_alloc (Below.refl _ _) _ | exact put9_below (below_alloc (Below.refl _ _) _) (Nat.le_refl _)
theorem KE.nine {w w' : World} {F O : ByteArray} {p0 p1 p2 p3 p4 p5 p6 : Int} (h : KE w w' F O ⟨p0, p1, p2, p3, p4, p5, p6⟩) : w'.cell? ⟨w.heap.size, 0, none⟩ = some (.string F) ∧ w'.cell? ⟨w.heap.size, 1, none⟩ = some (.string O) ∧ w'.cell? ⟨w.heap.size, 2, none⟩ = some (.int .i64 p0) ∧ w'.cell? ⟨w.heap.size, 3, none⟩ = some (.int .i64 p1) ∧ w'.cell? ⟨w.heap.size, 4, none⟩ = some (.int .i64 p2) ∧ w'.cell? ⟨w.heap.size, 5, none⟩ = some (.int .i64 p3) ∧ w'.cell? ⟨w.heap.size, 6, none⟩ = some (.int .i64 p4) ∧ w'.cell? ⟨w.heap.size, 7, none⟩ = some (.int .i64 p5) ∧ w'.cell? ⟨w.heap.size, 8, none⟩ = some (.int .i64 p6) := h.1.cells
theorem KE.nine_put {w w' : World} {F O : ByteArray} {p0 p1 p2 p3 p4 p5 p6 : Int} {v0 v1 v2 v3 v4 v5 v6 v7 v8 : Value} (h : KE w w' F O ⟨p0, p1, p2, p3, p4, p5, p6⟩) : (((((((((w'.setCell ⟨w.heap.size + 1, 0, none⟩ v0).setCell ⟨w.heap.size + 1, 1, none⟩ v1).setCell ⟨w.heap.size + 1, 2, none⟩ v2).setCell ⟨w.heap.size + 1, 3, none⟩ v3).setCell ⟨w.heap.size + 1, 4, none⟩ v4).setCell ⟨w.heap.size + 1, 5, none⟩ v5).setCell ⟨w.heap.size + 1, 6, none⟩ v6).setCell ⟨w.heap.size + 1, 7, none⟩ v7).setCell ⟨w.heap.size + 1, 8, none⟩ v8).cell? ⟨w.heap.size, 0, none⟩ = some (.string F) ∧ (((((((((w'.setCell ⟨w.heap.size + 1, 0, none⟩ v0).setCell ⟨w.heap.size + 1, 1, none⟩ v1).setCell ⟨w.heap.size + 1, 2, none⟩ v2).setCell ⟨w.heap.size + 1, 3, none⟩ v3).setCell ⟨w.heap.size + 1, 4, none⟩ v4).setCell ⟨w.heap.size + 1, 5, none⟩ v5).setCell ⟨w.heap.size + 1, 6, none⟩ v6).setCell ⟨w.heap.size + 1, 7, none⟩ v7).setCell ⟨w.heap.size + 1, 8, none⟩ v8).cell? ⟨w.heap.size, 1, none⟩ = some (.string O) ∧ (((((((((w'.setCell ⟨w.heap.size + 1, 0, none⟩ v0).setCell ⟨w.heap.size + 1, 1, none⟩ v1).setCell ⟨w.heap.size + 1, 2, none⟩ v2).setCell ⟨w.heap.size + 1, 3, none⟩ v3).setCell ⟨w.heap.size + 1, 4, none⟩ v4).setCell ⟨w.heap.size + 1, 5, none⟩ v5).setCell ⟨w.heap.size + 1, 6, none⟩ v6).setCell ⟨w.heap.size + 1, 7, none⟩ v7).setCell ⟨w.heap.size + 1, 8, none⟩ v8).cell? ⟨w.heap.size, 2, none⟩ = some (.int .i64 p0) ∧ (((((((((w'.setCell ⟨w.heap.size + 1, 0, none⟩ v0).setCell ⟨w.heap.size + 1, 1, none⟩ v1).setCell ⟨w.heap.size + 1, 2, none⟩ v2).setCell ⟨w.heap.size + 1, 3, none⟩ v3).setCell ⟨w.heap.size + 1, 4, none⟩ v4).setCell ⟨w.heap.size + 1, 5, none⟩ v5).setCell ⟨w.heap.size + 1, 6, none⟩ v6).setCell ⟨w.heap.size + 1, 7, none⟩ v7).setCell ⟨w.heap.size + 1, 8, none⟩ v8).cell? ⟨w.heap.size, 3, none⟩ = some (.int .i64 p1) ∧ (((((((((w'.setCell ⟨w.heap.size + 1, 0, none⟩ v0).setCell ⟨w.heap.size + 1, 1, none⟩ v1).setCell ⟨w.heap.size + 1, 2, none⟩ v2).setCell ⟨w.heap.size + 1, 3, none⟩ v3).setCell ⟨w.heap.size + 1, 4, none⟩ v4).setCell ⟨w.heap.size + 1, 5, none⟩ v5).setCell ⟨w.heap.size + 1, 6, none⟩ v6).setCell ⟨w.heap.size + 1, 7, none⟩ v7).setCell ⟨w.heap.size + 1, 8, none⟩ v8).cell? ⟨w.heap.size, 4, none⟩ = some (.int .i64 p2) ∧ (((((((((w'.setCell ⟨w.heap.size + 1, 0, none⟩ v0).setCell ⟨w.heap.size + 1, 1, none⟩ v1).setCell ⟨w.heap.size + 1, 2, none⟩ v2).setCell ⟨w.heap.size + 1, 3, none⟩ v3).setCell ⟨w.heap.size + 1, 4, none⟩ v4).setCell ⟨w.heap.size + 1, 5, none⟩ v5).setCell ⟨w.heap.size + 1, 6, none⟩ v6).setCell ⟨w.heap.size + 1, 7, none⟩ v7).setCell ⟨w.heap.size + 1, 8, none⟩ v8).cell? ⟨w.heap.size, 5, none⟩ = some (.int .i64 p3) ∧ (((((((((w'.setCell ⟨w.heap.size + 1, 0, none⟩ v0).setCell ⟨w.heap.size + 1, 1, none⟩ v1).setCell ⟨w.heap.size + 1, 2, none⟩ v2).setCell ⟨w.heap.size + 1, 3, none⟩ v3).setCell ⟨w.heap.size + 1, 4, none⟩ v4).setCell ⟨w.heap.size + 1, 5, none⟩ v5).setCell ⟨w.heap.size + 1, 6, none⟩ v6).setCell ⟨w.heap.size + 1, 7, none⟩ v7).setCell ⟨w.heap.size + 1, 8, none⟩ v8).cell? ⟨w.heap.size, 6, none⟩ = some (.int .i64 p4) ∧ (((((((((w'.setCell ⟨w.heap.size + 1, 0, none⟩ v0).setCell ⟨w.heap.size + 1, 1, none⟩ v1).setCell ⟨w.heap.size + 1, 2, none⟩ v2).setCell ⟨w.heap.size + 1, 3, none⟩ v3).setCell ⟨w.heap.size + 1, 4, none⟩ v4).setCell ⟨w.heap.size + 1, 5, none⟩ v5).setCell ⟨w.heap.size + 1, 6, none⟩ v6).setCell ⟨w.heap.size + 1, 7, none⟩ v7).setCell ⟨w.heap.size + 1, 8, none⟩ v8).cell? ⟨w.heap.size, 7, none⟩ = some (.int .i64 p5) ∧ (((((((((w'.setCell ⟨w.heap.size + 1, 0, none⟩ v0).setCell ⟨w.heap.size + 1, 1, none⟩ v1).setCell ⟨w.heap.size + 1, 2, none⟩ v2).setCell ⟨w.heap.size + 1, 3, none⟩ v3).setCell ⟨w.heap.size + 1, 4, none⟩ v4).setCell ⟨w.heap.size + 1, 5, none⟩ v5).setCell ⟨w.heap.size + 1, 6, none⟩ v6).setCell ⟨w.heap.size + 1, 7, none⟩ v7).setCell ⟨w.heap.size + 1, 8, none⟩ v8).cell? ⟨w.heap.size, 8, none⟩ = some (.int .i64 p6) := by
  rw [put9]
  have j : Ub (putL w' (w.heap.size + 1) 0 [v0, v1, v2, v3, v4, v5, v6, v7, v8]) w.heap.size F O ⟨p0, p1, p2, p3, p4, p5, p6⟩ := Bk.put_other (C := unC F O ⟨p0, p1, p2, p3, p4, p5, p6⟩) h.1 0 _ (by omega)
  exact j.cells

set_option maxRecDepth 100000 in
set_option maxHeartbeats 12800000 in
theorem rPower_any (F O : ByteArray) (p : P7) (n : Int) (hF : F.size ≤ 9223372036854775807) (hO : O.size ≤ 9223372036854775807) (w : World) :
    Calls Tryz.prog 65 #[uv F O p, .int .i64 n] w (GiveU w (unP (bl F) (bl O) p n)) := by
  have k0 := Lib.hid (KE.start w F O p)
  have P1 := fun w' => rplainU_any F O p hF hO w'
  have WI := fun w' => rwithin_any n w'
  unfold unC u0C at k0
  cases h1 : plainU (bl F) (bl O) p
  · rw [h1] at P1
    rw [unP_no h1]
    clear h1 hF hO WI
    obtain ⟨p0, p1, p2, p3, p4, p5, p6⟩ := p
    unfold uv at *
    dsimp only at *
    go_enter Tryz.func65, Tryz.ntmps65
    go_wp2_with (go_at_call 120; go_loud ((with_reducible refine (P1 _).mono ?_); rintro e w1 ⟨rfl, hb⟩; have k1 := Lib.hid (k0.out.up hb); obtain ⟨z0, z1, z2, z3, z4, z5, z6, z7, z8⟩ := u0_cells k1.out.2.1; obtain ⟨f0, f1, f2, f3, f4, f5, f6, f7, f8⟩ := k1.out.2.1.frozen9; clear hb))
    refine bodyPost_ret (v := .tuple #[.agg u0C, .int .i64 10]) (by simp [results, Tryz.results65, go_sem, u0C, z0, z1, z2, z3, z4, z5, z6, z7, z8]) rfl ⟨rfl, put9_below k1.out.b (by omega)⟩
  · rw [h1] at P1
    cases h2 : wi n
    · rw [h2] at WI
      rw [unP_arg h1 h2]
      clear h1 h2 hF hO
      obtain ⟨p0, p1, p2, p3, p4, p5, p6⟩ := p
      unfold uv at *
      dsimp only at *
      go_enter Tryz.func65, Tryz.ntmps65
      go_wp2_with (first
        | (go_at_call 78; go_loud ((with_reducible refine (WI _).mono ?_); rintro e w' ⟨rfl, rfl⟩))
        | (go_at_call 120; go_loud ((with_reducible refine (P1 _).mono ?_); rintro e w1 ⟨rfl, hb⟩; have k1 := Lib.hid (k0.out.up hb); obtain ⟨z0, z1, z2, z3, z4, z5, z6, z7, z8⟩ := u0_cells k1.out.2.1; obtain ⟨f0, f1, f2, f3, f4, f5, f6, f7, f8⟩ := k1.out.2.1.frozen9; clear hb)))
      refine bodyPost_ret (v := .tuple #[.agg u0C, .int .i64 2]) (by simp [results, Tryz.results65, go_sem, u0C, z0, z1, z2, z3, z4, z5, z6, z7, z8]) rfl ⟨rfl, put9_below k1.out.b (by omega)⟩
    · rw [h2] at WI
      have PR := fun w' => rproduct_any ⟨#[49]⟩ ⟨#[48]⟩ F O p70 p n (wi_iff.1 h2) (by decide) (by decide) hF hO w'
      rw [show bl ⟨#[49]⟩ = [49] from rfl, show bl ⟨#[48]⟩ = [48] from rfl, ← unP_prod h1 (wi_iff.1 h2)] at PR
      have NU := fun w' => rnounit_any w'
      generalize unP (bl F) (bl O) p n = X at *
      clear h1 h2 hF hO
      obtain ⟨p0, p1, p2, p3, p4, p5, p6⟩ := p
      obtain ⟨⟨XF, XO, ⟨x0, x1, x2, x3, x4, x5, x6⟩⟩, xe⟩ := X
      unfold GiveU Un.v uv p70 at *
      dsimp only at *
      go_enter Tryz.func65, Tryz.ntmps65
      go_wp2_with (first
        | (go_at_call 78; go_loud ((with_reducible refine (WI _).mono ?_); rintro e w' ⟨rfl, rfl⟩))
        | (go_at_call 120; go_loud ((with_reducible refine (P1 _).mono ?_); rintro e w1 ⟨rfl, hb⟩; have k1 := Lib.hid (k0.out.up hb); have kd := Lib.hid (k1.out.up (Below.drew (Below.refl _ _))); clear hb)))
      go_region_held3 (fun w' => w'.cell? ⟨w.heap.size, 0, none⟩ = some (.string F) ∧ w'.cell? ⟨w.heap.size, 1, none⟩ = some (.string O) ∧ w'.cell? ⟨w.heap.size, 2, none⟩ = some (.int .i64 p0) ∧ w'.cell? ⟨w.heap.size, 3, none⟩ = some (.int .i64 p1) ∧ w'.cell? ⟨w.heap.size, 4, none⟩ = some (.int .i64 p2) ∧ w'.cell? ⟨w.heap.size, 5, none⟩ = some (.int .i64 p3) ∧ w'.cell? ⟨w.heap.size, 6, none⟩ = some (.int .i64 p4) ∧ w'.cell? ⟨w.heap.size, 7, none⟩ = some (.int .i64 p5) ∧ w'.cell? ⟨w.heap.size, 8, none⟩ = some (.int .i64 p6))
        (first | (with_reducible exact k3.out.nine_put) | (with_reducible exact k3.out.nine) | (with_reducible exact k2.out.nine) | (with_reducible exact kd.out.nine) | go_keep)
        (first
          | (go_at_call 119; go_loud ((with_reducible refine (PR _).mono ?_); rintro e w3 ⟨rfl, hb⟩; have k3 := Lib.hid (k2.out.up hb); obtain ⟨z0, z1, z2, z3, z4, z5, z6, z7, z8⟩ := u0_cells k3.out.2.1; obtain ⟨f0, f1, f2, f3, f4, f5, f6, f7, f8⟩ := k3.out.2.1.frozen9; clear hb))
          | (go_at_call 121; go_loud ((with_reducible refine (NU _).mono ?_); rintro e w2 ⟨rfl, hb⟩; have k2 := Lib.hid (kd.out.up hb); clear hb)))
      go_wp2
      refine bodyPost_ret (v := .tuple #[.agg #[.string ⟨XF.toArray⟩, .string ⟨XO.toArray⟩, .int .i64 x0, .int .i64 x1, .int .i64 x2, .int .i64 x3, .int .i64 x4, .int .i64 x5, .int .i64 x6], .int .i64 xe]) (by simp [results, Tryz.results65, go_sem, z0, z1, z2, z3, z4, z5, z6, z7, z8]) rfl ⟨rfl, put9_below k3.out.b (by omega)⟩

end Go.Proofs.YtinoipjblkidfaaGreatDoor

/- Units of the reference: Convert. -/
namespace Go.Proofs.YtinoipjblkidfaaGreatDoor
open Go.RowKit Go.Proofs.YtinoipjblkidfaaGreatDoor.Dg Go.Proofs.YtinoipjblkidfaaGreatDoor.Q Go.Proofs.YtinoipjblkidfaaGreatDoor.Num

/-- Two units with exact parts and a number. -/
def KH (w w' : World) (g8 g10 g12 : Nat) (C8 C10 C12 : Array Value) : Prop := Bk w' g8 C8 93 ∧ Bk w' g10 C10 93 ∧ Bk w' g12 C12 51 ∧ Below w.heap.size w w'
theorem KH.up {w w1 w2 : World} {g8 g10 g12 : Nat} {C8 C10 C12 : Array Value} (h : KH w w1 g8 g10 g12 C8 C10 C12) (hb : Below w1.heap.size w1 w2) : KH w w2 g8 g10 g12 C8 C10 C12 := ⟨h.1.up hb, h.2.1.up hb, h.2.2.1.up hb, btrans h.2.2.2 hb⟩
theorem KH.b {w w1 : World} {g8 g10 g12 : Nat} {C8 C10 C12 : Array Value} (h : KH w w1 g8 g10 g12 C8 C10 C12) : Below w.heap.size w w1 := h.2.2.2
theorem KH.limbs {w w' : World} {g8 g10 g12 : Nat} {a0 a1 a2 a3 a4 a5 a6 a7 a8 a9 a10 a11 a12 b0 b1 b2 b3 b4 b5 b6 b7 b8 b9 b10 b11 b12 e0 e1 e2 : Value} (h : KH w w' g8 g10 g12 #[a0, a1, a2, a3, a4, a5, a6, a7, a8, a9, a10, a11, a12] #[b0, b1, b2, b3, b4, b5, b6, b7, b8, b9, b10, b11, b12] #[e0, e1, e2]) : w'.cell? ⟨g8, 0, none⟩ = some a0 ∧ w'.cell? ⟨g8, 1, none⟩ = some a1 ∧ w'.cell? ⟨g8, 2, none⟩ = some a2 ∧ w'.cell? ⟨g8, 3, none⟩ = some a3 ∧ w'.cell? ⟨g8, 4, none⟩ = some a4 ∧ w'.cell? ⟨g8, 5, none⟩ = some a5 ∧ w'.cell? ⟨g10, 0, none⟩ = some b0 ∧ w'.cell? ⟨g10, 1, none⟩ = some b1 ∧ w'.cell? ⟨g10, 2, none⟩ = some b2 ∧ w'.cell? ⟨g10, 3, none⟩ = some b3 ∧ w'.cell? ⟨g10, 4, none⟩ = some b4 ∧ w'.cell? ⟨g10, 5, none⟩ = some b5 ∧ w'.cell? ⟨g12, 0, none⟩ = some e0 ∧ w'.cell? ⟨g12, 1, none⟩ = some e1 ∧ w'.cell? ⟨g12, 2, none⟩ = some e2 :=
  ⟨h.1.cell 0, h.1.cell 1, h.1.cell 2, h.1.cell 3, h.1.cell 4, h.1.cell 5, h.2.1.cell 0, h.2.1.cell 1, h.2.1.cell 2, h.2.1.cell 3, h.2.1.cell 4, h.2.1.cell 5, h.2.2.1.cell 0, h.2.2.1.cell 1, h.2.2.1.cell 2⟩

set_option maxRecDepth 100000 in
set_option maxHeartbeats 12800000 in
theorem rConvert_any (X F O F' O' : ByteArray) (p p' : P7) (hx : X.size ≤ 9223372036854775807) (hF : F.size ≤ 9223372036854775807) (hO : O.size ≤ 9223372036854775807) (hF' : F'.size ≤ 9223372036854775807) (hO' : O'.size ≤ 9223372036854775807) (w : World) :
    Calls Tryz.prog 39 #[.string X, uv F O p, uv F' O' p'] w fun e w' => e = .returned (.tuple #[.string ⟨(qconv (bl X) (bl F) (bl O) p (bl F') (bl O') p').1.toArray⟩, .int .i64 (qconv (bl X) (bl F) (bl O) p (bl F') (bl O') p').2]) ∧ Below w.heap.size w w' := by
  have k0 := Lib.hid (KV.start w F O F' O' p p')
  have R0 := fun w' => rget_any X hx w'
  obtain ⟨Y, hY⟩ : ∃ Y, qconv (bl X) (bl F) (bl O) p (bl F') (bl O') p' = Y := ⟨_, rfl⟩
  rw [hY]
  unfold qconv at hY
  unfold unC at k0
  have e3 : ∀ w, (Op.equalIn 10000 22 (.agg p.C) (.agg p'.C)).run Tryz.prog w = .ok (decide (p = p')) w := fun w => eq7 9998 p p' w
  obtain ⟨b1, c1⟩ : ∃ b, vU (bl F) (bl O) p = b := ⟨_, rfl⟩
  obtain ⟨b2, c2⟩ : ∃ b, vU (bl F') (bl O') p' = b := ⟨_, rfl⟩
  obtain ⟨p0, p1, p2, p3, p4, p5, p6⟩ := p
  obtain ⟨q0, q1, q2, q3, q4, q5, q6⟩ := p'
  have R1 := fun w' => rread_at F O p0 p1 p2 p3 p4 p5 p6 b1 c1 hF hO w'
  have R2 := fun w' => rread_at F' O' q0 q1 q2 q3 q4 q5 q6 b2 c2 hF' hO' w'
  clear hF hF' hO hO' hx
  unfold P7.C at e3
  unfold uv at *
  dsimp only at e3 k0 ⊢
  cases b1
  · rw [if_neg (vU_no c1)] at hY
    have HY := Lib.hid hY
    clear hY c1 c2 e3
    go_enter Tryz.func39, Tryz.ntmps39
    go_wp2_with (first
      | (go_at_call 101; ((with_reducible refine (R2 _).mono ?_); rintro e w2 ⟨y5, A5, l5, d5, A6, l6, d6, y7, A7, l7, d7, A8, l8, d8, qg, qp, rfl, hb, hq, ho, s1, s2, o1, o2⟩; have k2 := Lib.hid (j1.out.up hb); clear hb hq ho s1 s2 o1 o2))
      | (go_at_call 101; go_loud ((with_reducible refine (R1 _).mono ?_); rintro e w1 ⟨y1, A1, l1, d1, A2, l2, d2, y2, A3, l3, d3, A4, l4, d4, qf, qo, rfl, hb, hq, ho, s1, s2, o1, o2⟩; have k1 := Lib.hid (k0.out.up hb); have bx := (Below.refl w1.heap.size w1).alloc (Nat.le_refl _) (.cells #[.bool y1, .slice A1 l1 d1, .slice A2 l2 d2, .bool y2, .slice A3 l3 d3, .slice A4 l4 d4, .int .i64 p0, .int .i64 p1, .int .i64 p2, .int .i64 p3, .int .i64 p4, .int .i64 p5, .int .i64 p6] 93); have j1 := Lib.hid (k1.out.up bx); obtain ⟨c0, c1, c2, c3, c4, c5, c6, c7, c8⟩ := k1.out.2.1.cells; have sz1 := k1.out.2.1.lt; clear hb hq ho s1 s2 o1 o2 bx)))
    go_ret2
    exact ⟨by rw [← HY.out]; rfl, below_alloc k2.out.b _⟩
  rw [if_pos c1] at hY
  cases b2
  · rw [if_neg (vU_no c2)] at hY
    have HY := Lib.hid hY
    clear hY c1 c2 e3
    go_enter Tryz.func39, Tryz.ntmps39
    go_wp2_with (first
      | (go_at_call 101; ((with_reducible refine (R2 _).mono ?_); rintro e w2 ⟨y5, A5, l5, d5, A6, l6, d6, y7, A7, l7, d7, A8, l8, d8, qg, qp, rfl, hb, hq, ho, s1, s2, o1, o2⟩; have k2 := Lib.hid (j1.out.up hb); clear hb hq ho s1 s2 o1 o2))
      | (go_at_call 101; go_loud ((with_reducible refine (R1 _).mono ?_); rintro e w1 ⟨y1, A1, l1, d1, A2, l2, d2, y2, A3, l3, d3, A4, l4, d4, qf, qo, rfl, hb, hq, ho, s1, s2, o1, o2⟩; have k1 := Lib.hid (k0.out.up hb); have bx := (Below.refl w1.heap.size w1).alloc (Nat.le_refl _) (.cells #[.bool y1, .slice A1 l1 d1, .slice A2 l2 d2, .bool y2, .slice A3 l3 d3, .slice A4 l4 d4, .int .i64 p0, .int .i64 p1, .int .i64 p2, .int .i64 p3, .int .i64 p4, .int .i64 p5, .int .i64 p6] 93); have j1 := Lib.hid (k1.out.up bx); obtain ⟨c0, c1, c2, c3, c4, c5, c6, c7, c8⟩ := k1.out.2.1.cells; have sz1 := k1.out.2.1.lt; clear hb hq ho s1 s2 o1 o2 bx)))
    go_ret2
    exact ⟨by rw [← HY.out]; rfl, below_alloc k2.out.b _⟩
  rw [if_pos c2] at hY
  by_cases c3 : (⟨p0, p1, p2, p3, p4, p5, p6⟩ : P7) = ⟨q0, q1, q2, q3, q4, q5, q6⟩
  rotate_left
  · rw [if_neg c3] at hY
    rw [decide_eq_false c3] at e3
    have HY := Lib.hid hY
    clear hY c1 c2 c3
    go_enter Tryz.func39, Tryz.ntmps39
    go_wp2_with (first
      | (go_at_call 101; ((with_reducible refine (R2 _).mono ?_); rintro e w2 ⟨y5, A5, l5, d5, A6, l6, d6, y7, A7, l7, d7, A8, l8, d8, qg, qp, rfl, hb, hq, ho, s1, s2, o1, o2⟩; have k2 := Lib.hid (j1.out.up hb); have B2 := Lib.hid (B1.out.up hb); obtain ⟨i0, i1, i2, i3, i4, i5, i6, i7, i8, i9, i10, i11, i12⟩ := cells13 B2.out; have sz2 := B2.out.lt; have F2 := Lib.hid (F1.out.up hb); have G2 := Lib.hid (G1.out.up hb); have M2 := Lib.hid hq; have N2 := Lib.hid ho; clear hb hq ho s1 s2 o1 o2))
      | (go_at_call 101; go_loud ((with_reducible refine (R1 _).mono ?_); rintro e w1 ⟨y1, A1, l1, d1, A2, l2, d2, y2, A3, l3, d3, A4, l4, d4, qf, qo, rfl, hb, hq, ho, s1, s2, o1, o2⟩; have k1 := Lib.hid (k0.out.up hb); have bx := (Below.refl w1.heap.size w1).alloc (Nat.le_refl _) (.cells #[.bool y1, .slice A1 l1 d1, .slice A2 l2 d2, .bool y2, .slice A3 l3 d3, .slice A4 l4 d4, .int .i64 p0, .int .i64 p1, .int .i64 p2, .int .i64 p3, .int .i64 p4, .int .i64 p5, .int .i64 p6] 93); have j1 := Lib.hid (k1.out.up bx); have B1 := Lib.hid (Bk.new w1 #[.bool y1, .slice A1 l1 d1, .slice A2 l2 d2, .bool y2, .slice A3 l3 d3, .slice A4 l4 d4, .int .i64 p0, .int .i64 p1, .int .i64 p2, .int .i64 p3, .int .i64 p4, .int .i64 p5, .int .i64 p6] 93); have F1 := Lib.hid (hq.up bx); have G1 := Lib.hid (ho.up bx); obtain ⟨c0, c1, c2, c3, c4, c5, c6, c7, c8⟩ := k1.out.2.1.cells; have sz1 := k1.out.2.1.lt; clear hb hq ho s1 s2 o1 o2 bx)))
    go_ret2
    exact ⟨by rw [← HY.out]; rfl, below_alloc k2.out.b _⟩
  rw [if_pos c3] at hY
  rw [decide_eq_true c3] at e3
  obtain ⟨f, a, hf, f0, ha, _⟩ := vU_parts c1
  obtain ⟨g, b, hg, g0, hb, _⟩ := vU_parts c2
  rw [hf, ha, hg, hb] at hY
  have zf := num_sz hf
  have za := num_sz ha
  have zg := num_sz hg
  have zb := num_sz hb
  have HF := Lib.hid hf
  have HA := Lib.hid ha
  have HG := Lib.hid hg
  have HB := Lib.hid hb
  clear hf ha hg hb f0 c1 c2 c3
  cases cx : num? (bl X) with
  | none =>
    rw [cx] at hY R0
    have R0 := fun w' => (R0 w').mono fun e w2 h => ReadR.none h
    have HY := Lib.hid hY
    clear hY cx g0 zf za zg zb HF HA HG HB
    go_enter Tryz.func39, Tryz.ntmps39
    go_wp2_with (first
      | (go_at_call 49; go_loud ((with_reducible refine (R0 _).mono ?_); rintro e w3 ⟨y9, A9, l9, d9, A10, l10, d10, qx, rfl, hb, hq, s1⟩; have b3 := Lib.hid (btrans (below_alloc k2.out.b _) hb); clear hb hq s1))
      | (go_at_call 101; ((with_reducible refine (R2 _).mono ?_); rintro e w2 ⟨y5, A5, l5, d5, A6, l6, d6, y7, A7, l7, d7, A8, l8, d8, qg, qp, rfl, hb, hq, ho, s1, s2, o1, o2⟩; have k2 := Lib.hid (j1.out.up hb); have B2 := Lib.hid (B1.out.up hb); obtain ⟨i0, i1, i2, i3, i4, i5, i6, i7, i8, i9, i10, i11, i12⟩ := cells13 B2.out; have sz2 := B2.out.lt; have F2 := Lib.hid (F1.out.up hb); have G2 := Lib.hid (G1.out.up hb); have M2 := Lib.hid hq; have N2 := Lib.hid ho; clear hb hq ho s1 s2 o1 o2))
      | (go_at_call 101; go_loud ((with_reducible refine (R1 _).mono ?_); rintro e w1 ⟨y1, A1, l1, d1, A2, l2, d2, y2, A3, l3, d3, A4, l4, d4, qf, qo, rfl, hb, hq, ho, s1, s2, o1, o2⟩; have k1 := Lib.hid (k0.out.up hb); have bx := (Below.refl w1.heap.size w1).alloc (Nat.le_refl _) (.cells #[.bool y1, .slice A1 l1 d1, .slice A2 l2 d2, .bool y2, .slice A3 l3 d3, .slice A4 l4 d4, .int .i64 p0, .int .i64 p1, .int .i64 p2, .int .i64 p3, .int .i64 p4, .int .i64 p5, .int .i64 p6] 93); have j1 := Lib.hid (k1.out.up bx); have B1 := Lib.hid (Bk.new w1 #[.bool y1, .slice A1 l1 d1, .slice A2 l2 d2, .bool y2, .slice A3 l3 d3, .slice A4 l4 d4, .int .i64 p0, .int .i64 p1, .int .i64 p2, .int .i64 p3, .int .i64 p4, .int .i64 p5, .int .i64 p6] 93); have F1 := Lib.hid (hq.up bx); have G1 := Lib.hid (ho.up bx); obtain ⟨c0, c1, c2, c3, c4, c5, c6, c7, c8⟩ := k1.out.2.1.cells; have sz1 := k1.out.2.1.lt; clear hb hq ho s1 s2 o1 o2 bx)))
    go_ret2
    exact ⟨by rw [← HY.out]; rfl, below_alloc b3.out _⟩
  | some v =>
    rw [cx] at hY R0
    dsimp only at hY
    have R0 := fun w' => (R0 w').mono fun e w2 h => ReadR.some h
    have zv := num_sz cx
    have hg0 : g ≠ 0 := Rat.ne_of_gt g0
    have t1 := sz_mul f v
    have t2 := sz_add (f * v) a
    have t3 := sz_sub (f * v + a) b
    have t4 := sz_div (a := f * v + a - b) hg0
    have MU := fun w' u u' (h : Qr w' u f) (h' : Qr w' u' v) => rprod_any u u' f v w' h h' (by omega)
    have PS := fun w' u u' (h : Qr w' u (f * v)) (h' : Qr w' u' a) => rplus_any u u' (f * v) a w' h h' (by omega)
    have MI := fun w' u u' (h : Qr w' u (f * v + a)) (h' : Qr w' u' b) => rminus_any u u' (f * v + a) b w' h h' (by omega)
    have DI := fun w' u u' (h : Qr w' u (f * v + a - b)) (h' : Qr w' u' g) => rquot_any u u' (f * v + a - b) g w' h h' (by omega)
    have PU := fun w' u (h : Qr w' u ((f * v + a - b) / g)) => rput_any u ((f * v + a - b) / g) w' h (by omega)
    generalize f * v = x1 at *
    generalize x1 + a = x2 at *
    generalize x2 - b = x3 at *
    generalize x3 / g = x4 at *
    have HY := Lib.hid hY
    clear hY cx g0 zf za zg zb zv hg0 t1 t2 t3 t4
    go_enter Tryz.func39, Tryz.ntmps39
    go_wp2_with (first
      | (go_at_call 49; go_loud ((with_reducible refine (R0 _).mono ?_); rintro e w3 ⟨y9, A9, l9, d9, A10, l10, d10, rfl, hb, hq⟩; have by' := (Below.refl w2.heap.size w2).alloc (Nat.le_refl _) (.cells #[.bool y5, .slice A5 l5 d5, .slice A6 l6 d6, .bool y7, .slice A7 l7 d7, .slice A8 l8 d8, .int .i64 q0, .int .i64 q1, .int .i64 q2, .int .i64 q3, .int .i64 q4, .int .i64 q5, .int .i64 q6] 93); have b3 := Lib.hid (btrans by' hb); have B3 := Lib.hid ((Bk.new w2 #[.bool y5, .slice A5 l5 d5, .slice A6 l6 d6, .bool y7, .slice A7 l7 d7, .slice A8 l8 d8, .int .i64 q0, .int .i64 q1, .int .i64 q2, .int .i64 q3, .int .i64 q4, .int .i64 q5, .int .i64 q6] 93).up hb); have b0 := Lib.hid (btrans k2.out.b b3.out); have V3 := Lib.hid hq; clear hb hq by'))
      | (go_at_call 101; ((with_reducible refine (R2 _).mono ?_); rintro e w2 ⟨y5, A5, l5, d5, A6, l6, d6, y7, A7, l7, d7, A8, l8, d8, qg, qp, rfl, hb, hq, ho, s1, s2, o1, o2⟩; obtain rfl := o1 _ HG.out; obtain rfl := o2 _ HB.out; have k2 := Lib.hid (j1.out.up hb); have B2 := Lib.hid (B1.out.up hb); obtain ⟨i0, i1, i2, i3, i4, i5, i6, i7, i8, i9, i10, i11, i12⟩ := cells13 B2.out; have sz2 := B2.out.lt; have F2 := Lib.hid (F1.out.up hb); have G2 := Lib.hid (G1.out.up hb); have M2 := Lib.hid hq; have N2 := Lib.hid ho; clear hb hq ho s1 s2 o1 o2))
      | (go_at_call 101; go_loud ((with_reducible refine (R1 _).mono ?_); rintro e w1 ⟨y1, A1, l1, d1, A2, l2, d2, y2, A3, l3, d3, A4, l4, d4, qf, qo, rfl, hb, hq, ho, s1, s2, o1, o2⟩; obtain rfl := o1 _ HF.out; obtain rfl := o2 _ HA.out; have k1 := Lib.hid (k0.out.up hb); have bx := (Below.refl w1.heap.size w1).alloc (Nat.le_refl _) (.cells #[.bool y1, .slice A1 l1 d1, .slice A2 l2 d2, .bool y2, .slice A3 l3 d3, .slice A4 l4 d4, .int .i64 p0, .int .i64 p1, .int .i64 p2, .int .i64 p3, .int .i64 p4, .int .i64 p5, .int .i64 p6] 93); have j1 := Lib.hid (k1.out.up bx); have B1 := Lib.hid (Bk.new w1 #[.bool y1, .slice A1 l1 d1, .slice A2 l2 d2, .bool y2, .slice A3 l3 d3, .slice A4 l4 d4, .int .i64 p0, .int .i64 p1, .int .i64 p2, .int .i64 p3, .int .i64 p4, .int .i64 p5, .int .i64 p6] 93); have F1 := Lib.hid (hq.up bx); have G1 := Lib.hid (ho.up bx); obtain ⟨c0, c1, c2, c3, c4, c5, c6, c7, c8⟩ := k1.out.2.1.cells; have sz1 := k1.out.2.1.lt; clear hb hq ho s1 s2 o1 o2 bx)))
    have bx := ((Below.refl w3.heap.size w3).alloc (Nat.le_refl _) (.cells #[.bool y9, .slice A9 l9 d9, .slice A10 l10 d10] 51))
    have kw := Lib.hid (show KH w (w3.alloc (.cells #[.bool y9, .slice A9 l9 d9, .slice A10 l10 d10] 51)) w1.heap.size w2.heap.size w3.heap.size #[.bool y1, .slice A1 l1 d1, .slice A2 l2 d2, .bool y2, .slice A3 l3 d3, .slice A4 l4 d4, .int .i64 p0, .int .i64 p1, .int .i64 p2, .int .i64 p3, .int .i64 p4, .int .i64 p5, .int .i64 p6] #[.bool y5, .slice A5 l5 d5, .slice A6 l6 d6, .bool y7, .slice A7 l7 d7, .slice A8 l8 d8, .int .i64 q0, .int .i64 q1, .int .i64 q2, .int .i64 q3, .int .i64 q4, .int .i64 q5, .int .i64 q6] #[.bool y9, .slice A9 l9 d9, .slice A10 l10 d10] from ⟨(B2.out.up b3.out).up bx, B3.out.up bx, Bk.new w3 _ _, btrans b0.out bx⟩)
    have FW := Lib.hid ((F2.out.up b3.out).up bx)
    have AW := Lib.hid ((G2.out.up b3.out).up bx)
    have GW := Lib.hid ((M2.out.up b3.out).up bx)
    have BW := Lib.hid ((N2.out.up b3.out).up bx)
    have VW := Lib.hid (V3.out.up bx)
    clear bx k0 k1 j1 k2 B1 B2 B3 F1 G1 F2 G2 M2 N2 V3 b3 b0 R0 R1 R2 sz1 sz2 c0 c1 c2 c3 c4 c5 c6 c7 c8 i0 i1 i2 i3 i4 i5 i6 i7 i8 i9 i10 i11 i12 HF HA HG HB e3
    generalize w1.heap.size = g8 at *
    generalize w2.heap.size = g10 at *
    generalize w3.heap.size = g12 at *
    generalize w3.alloc _ = wl at *
    have bd := (Below.refl wl.heap.size wl).drew
    have kd := Lib.hid (kw.out.up bd)
    have FD := Lib.hid (FW.out.up bd)
    have AD := Lib.hid (AW.out.up bd)
    have GD := Lib.hid (GW.out.up bd)
    have BD := Lib.hid (BW.out.up bd)
    have VD := Lib.hid (VW.out.up bd)
    clear bd kw FW AW GW BW VW
    go_region_held3 (fun w' => w'.cell? ⟨g8, 0, none⟩ = some (.bool y1) ∧ w'.cell? ⟨g8, 1, none⟩ = some (.slice A1 l1 d1) ∧ w'.cell? ⟨g8, 2, none⟩ = some (.slice A2 l2 d2) ∧ w'.cell? ⟨g8, 3, none⟩ = some (.bool y2) ∧ w'.cell? ⟨g8, 4, none⟩ = some (.slice A3 l3 d3) ∧ w'.cell? ⟨g8, 5, none⟩ = some (.slice A4 l4 d4) ∧ w'.cell? ⟨g10, 0, none⟩ = some (.bool y5) ∧ w'.cell? ⟨g10, 1, none⟩ = some (.slice A5 l5 d5) ∧ w'.cell? ⟨g10, 2, none⟩ = some (.slice A6 l6 d6) ∧ w'.cell? ⟨g10, 3, none⟩ = some (.bool y7) ∧ w'.cell? ⟨g10, 4, none⟩ = some (.slice A7 l7 d7) ∧ w'.cell? ⟨g10, 5, none⟩ = some (.slice A8 l8 d8) ∧ w'.cell? ⟨g12, 0, none⟩ = some (.bool y9) ∧ w'.cell? ⟨g12, 1, none⟩ = some (.slice A9 l9 d9) ∧ w'.cell? ⟨g12, 2, none⟩ = some (.slice A10 l10 d10))
      (first | (with_reducible exact k8.out.limbs) | (with_reducible exact k7.out.limbs) | (with_reducible exact k6.out.limbs) | (with_reducible exact k5.out.limbs) | (with_reducible exact k4.out.limbs) | (with_reducible exact kd.out.limbs) | go_keep)
      (first
        | (go_at_call 90; go_loud ((with_reducible refine (PU _ _ D7.out).mono ?_); rintro e w8 ⟨rfl, hb⟩; have k8 := Lib.hid (k7.out.up hb); clear hb))
        | (go_at_call 54; go_loud ((with_reducible refine (DI _ _ _ M6.out G6.out).mono ?_); rintro e w7 ⟨u, rfl, hq, hb⟩; have k7 := Lib.hid (k6.out.up hb); have D7 := Lib.hid hq; clear hq hb))
        | (go_at_call 50; go_loud ((with_reducible refine (MI _ _ _ S5.out B5.out).mono ?_); rintro e w6 ⟨u, rfl, hq, hb⟩; have k6 := Lib.hid (k5.out.up hb); have M6 := Lib.hid hq; have G6 := Lib.hid (G5.out.up hb); clear hq hb))
        | (go_at_call 102; go_loud ((with_reducible refine (PS _ _ _ P4.out A4.out).mono ?_); rintro e w5 ⟨u, rfl, hq, hb⟩; have k5 := Lib.hid (k4.out.up hb); have S5 := Lib.hid hq; have B5 := Lib.hid (B4.out.up hb); have G5 := Lib.hid (G4.out.up hb); clear hq hb))
        | (go_at_call 56; go_loud ((with_reducible refine (MU _ _ _ FD.out VD.out).mono ?_); rintro e w4 ⟨u, rfl, hq, hb⟩; have k4 := Lib.hid (kd.out.up hb); have P4 := Lib.hid hq; have A4 := Lib.hid (AD.out.up hb); have B4 := Lib.hid (BD.out.up hb); have G4 := Lib.hid (GD.out.up hb); clear hq hb)))
    go_wp2
    go_ret2
    exact ⟨by rw [← HY.out]; rfl, k8.out.b⟩

end Go.Proofs.YtinoipjblkidfaaGreatDoor
