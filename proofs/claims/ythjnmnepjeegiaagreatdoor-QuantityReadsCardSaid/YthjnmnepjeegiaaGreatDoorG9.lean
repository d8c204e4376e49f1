/- Symbols of the program: the table; find. Symbols of the program: find. Owned rows of elements of several cells; stores into the middle of a block. -/
import Derived.Test.YthjnmnepjeegiaaGreatDoorG8
import Derived.Test.YthjnmnepjeegiaaGreatDoorG7
import Derived.Great.Walk
import Derived.Deep.RegionWith
import Derived.Laws.OwnMore
import Derived.Maps.AppendAt
/- Symbols of the program: the table; find. -/
namespace Go.Proofs.YthjnmnepjeegiaaGreatDoor
open Go.RowKit Go.Proofs.YthjnmnepjeegiaaGreatDoor.Dg Go.Proofs.YthjnmnepjeegiaaGreatDoor.Q Go.Proofs.YthjnmnepjeegiaaGreatDoor.Num Go.Proofs.YthjnmnepjeegiaaGreatDoor.Str

theorem flat_at {α β : Type} {f : α → List β} {m : Nat} (hf : ∀ x, (f x).length = m) : ∀ {l : List α} {k j : Nat} {s : α}, l[k]? = some s → j < m → (l.flatMap f)[k * m + j]? = (f s)[j]?
  | [], k, j, s, h, _ => by simp at h
  | x :: l, 0, j, s, h, hj => by
    cases h
    rw [List.flatMap_cons, Nat.zero_mul, Nat.zero_add, List.getElem?_append_left (by rw [hf]; exact hj)]
  | x :: l, k + 1, j, s, h, hj => by
    rw [List.flatMap_cons, Nat.succ_mul, List.getElem?_append_right (by rw [hf]; omega), hf, show k * m + m + j - m = k * m + j by omega]
    exact flat_at hf (by simpa using h) hj
theorem Sy.len (s : Sy) : s.L.length = 11 := rfl
/-- The table of symbols in memory. -/
def symC : Array Value := (syms.flatMap Sy.L).toArray

set_option maxRecDepth 100000 in
set_option maxHeartbeats 6400000 in
theorem symbols_any (w : World) : Calls Tryz.prog 48 #[] w fun e w' => e = .returned (.slice (some ⟨w.heap.size, 0, none⟩) 20 20) ∧ w.alloc (.cells symC 35) = w' := by
  go_enter Tryz.func48, Tryz.ntmps48
  iterate 11 go_step
  refine Great.wpList_readTo (by rfl) (some 1) (by rfl) (.agg #[.int .i64 1, .int .i64 0, .int .i64 0, .int .i64 0, .int .i64 0, .int .i64 0, .int .i64 0]) (by kernel_rfl) ?_
  refine Great.wpList_readTo (by rfl) (some 2) (by rfl) (.agg #[.string ⟨#[109]⟩, .string ⟨#[49]⟩, .string ⟨#[48]⟩, .bool true, .int .i64 1, .int .i64 0, .int .i64 0, .int .i64 0, .int .i64 0, .int .i64 0, .int .i64 0]) (by kernel_rfl) ?_
  refine Great.wpList_readTo (by rfl) (some 3) (by rfl) (.agg #[.int .i64 0, .int .i64 1, .int .i64 0, .int .i64 0, .int .i64 0, .int .i64 0, .int .i64 0]) (by kernel_rfl) ?_
  refine Great.wpList_readTo (by rfl) (some 4) (by rfl) (.agg #[.string ⟨#[103]⟩, .string ⟨#[49, 47, 49, 48, 48, 48]⟩, .string ⟨#[48]⟩, .bool true, .int .i64 0, .int .i64 1, .int .i64 0, .int .i64 0, .int .i64 0, .int .i64 0, .int .i64 0]) (by kernel_rfl) ?_
  refine Great.wpList_readTo (by rfl) (some 5) (by rfl) (.agg #[.int .i64 0, .int .i64 0, .int .i64 1, .int .i64 0, .int .i64 0, .int .i64 0, .int .i64 0]) (by kernel_rfl) ?_
  refine Great.wpList_readTo (by rfl) (some 6) (by rfl) (.agg #[.string ⟨#[115]⟩, .string ⟨#[49]⟩, .string ⟨#[48]⟩, .bool true, .int .i64 0, .int .i64 0, .int .i64 1, .int .i64 0, .int .i64 0, .int .i64 0, .int .i64 0]) (by kernel_rfl) ?_
  refine Great.wpList_readTo (by rfl) (some 7) (by rfl) (.agg #[.int .i64 0, .int .i64 0, .int .i64 0, .int .i64 1, .int .i64 0, .int .i64 0, .int .i64 0]) (by kernel_rfl) ?_
  refine Great.wpList_readTo (by rfl) (some 8) (by rfl) (.agg #[.string ⟨#[75]⟩, .string ⟨#[49]⟩, .string ⟨#[48]⟩, .bool true, .int .i64 0, .int .i64 0, .int .i64 0, .int .i64 1, .int .i64 0, .int .i64 0, .int .i64 0]) (by kernel_rfl) ?_
  refine Great.wpList_readTo (by rfl) (some 9) (by rfl) (.agg #[.int .i64 0, .int .i64 0, .int .i64 0, .int .i64 0, .int .i64 1, .int .i64 0, .int .i64 0]) (by kernel_rfl) ?_
  refine Great.wpList_readTo (by rfl) (some 10) (by rfl) (.agg #[.string ⟨#[109, 111, 108]⟩, .string ⟨#[49]⟩, .string ⟨#[48]⟩, .bool true, .int .i64 0, .int .i64 0, .int .i64 0, .int .i64 0, .int .i64 1, .int .i64 0, .int .i64 0]) (by kernel_rfl) ?_
  refine Great.wpList_readTo (by rfl) (some 11) (by rfl) (.agg #[.int .i64 0, .int .i64 0, .int .i64 0, .int .i64 0, .int .i64 0, .int .i64 1, .int .i64 0]) (by kernel_rfl) ?_
  refine Great.wpList_readTo (by rfl) (some 12) (by rfl) (.agg #[.string ⟨#[65]⟩, .string ⟨#[49]⟩, .string ⟨#[48]⟩, .bool true, .int .i64 0, .int .i64 0, .int .i64 0, .int .i64 0, .int .i64 0, .int .i64 1, .int .i64 0]) (by kernel_rfl) ?_
  refine Great.wpList_readTo (by rfl) (some 13) (by rfl) (.agg #[.int .i64 0, .int .i64 0, .int .i64 0, .int .i64 0, .int .i64 0, .int .i64 0, .int .i64 1]) (by kernel_rfl) ?_
  refine Great.wpList_readTo (by rfl) (some 14) (by rfl) (.agg #[.string ⟨#[99, 100]⟩, .string ⟨#[49]⟩, .string ⟨#[48]⟩, .bool true, .int .i64 0, .int .i64 0, .int .i64 0, .int .i64 0, .int .i64 0, .int .i64 0, .int .i64 1]) (by kernel_rfl) ?_
  refine Great.wpList_readTo (by rfl) (some 15) (by rfl) (.agg #[.int .i64 0, .int .i64 0, .int .i64 1, .int .i64 0, .int .i64 0, .int .i64 0, .int .i64 0]) (by kernel_rfl) ?_
  refine Great.wpList_readTo (by rfl) (some 16) (by rfl) (.agg #[.string ⟨#[109, 105, 110]⟩, .string ⟨#[54, 48]⟩, .string ⟨#[48]⟩, .bool false, .int .i64 0, .int .i64 0, .int .i64 1, .int .i64 0, .int .i64 0, .int .i64 0, .int .i64 0]) (by kernel_rfl) ?_
  refine Great.wpList_readTo (by rfl) (some 17) (by rfl) (.agg #[.int .i64 0, .int .i64 0, .int .i64 1, .int .i64 0, .int .i64 0, .int .i64 0, .int .i64 0]) (by kernel_rfl) ?_
  refine Great.wpList_readTo (by rfl) (some 18) (by rfl) (.agg #[.string ⟨#[104]⟩, .string ⟨#[51, 54, 48, 48]⟩, .string ⟨#[48]⟩, .bool false, .int .i64 0, .int .i64 0, .int .i64 1, .int .i64 0, .int .i64 0, .int .i64 0, .int .i64 0]) (by kernel_rfl) ?_
  refine Great.wpList_readTo (by rfl) (some 19) (by rfl) (.agg #[.int .i64 0, .int .i64 0, .int .i64 1, .int .i64 0, .int .i64 0, .int .i64 0, .int .i64 0]) (by kernel_rfl) ?_
  refine Great.wpList_readTo (by rfl) (some 20) (by rfl) (.agg #[.string ⟨#[100]⟩, .string ⟨#[56, 54, 52, 48, 48]⟩, .string ⟨#[48]⟩, .bool false, .int .i64 0, .int .i64 0, .int .i64 1, .int .i64 0, .int .i64 0, .int .i64 0, .int .i64 0]) (by kernel_rfl) ?_
  refine Great.wpList_readTo (by rfl) (some 21) (by rfl) (.agg #[.int .i64 0, .int .i64 1, .int .i64 0, .int .i64 0, .int .i64 0, .int .i64 0, .int .i64 0]) (by kernel_rfl) ?_
  refine Great.wpList_readTo (by rfl) (some 22) (by rfl) (.agg #[.string ⟨#[116]⟩, .string ⟨#[49, 48, 48, 48]⟩, .string ⟨#[48]⟩, .bool true, .int .i64 0, .int .i64 1, .int .i64 0, .int .i64 0, .int .i64 0, .int .i64 0, .int .i64 0]) (by kernel_rfl) ?_
  refine Great.wpList_readTo (by rfl) (some 23) (by rfl) (.agg #[.int .i64 3, .int .i64 0, .int .i64 0, .int .i64 0, .int .i64 0, .int .i64 0, .int .i64 0]) (by kernel_rfl) ?_
  refine Great.wpList_readTo (by rfl) (some 24) (by rfl) (.agg #[.string ⟨#[76]⟩, .string ⟨#[49, 47, 49, 48, 48, 48]⟩, .string ⟨#[48]⟩, .bool true, .int .i64 3, .int .i64 0, .int .i64 0, .int .i64 0, .int .i64 0, .int .i64 0, .int .i64 0]) (by kernel_rfl) ?_
  refine Great.wpList_readTo (by rfl) (some 25) (by rfl) (.agg #[.int .i64 0, .int .i64 0, .int .i64 (-1), .int .i64 0, .int .i64 0, .int .i64 0, .int .i64 0]) (by kernel_rfl) ?_
  refine Great.wpList_readTo (by rfl) (some 26) (by rfl) (.agg #[.string ⟨#[72, 122]⟩, .string ⟨#[49]⟩, .string ⟨#[48]⟩, .bool true, .int .i64 0, .int .i64 0, .int .i64 (-1), .int .i64 0, .int .i64 0, .int .i64 0, .int .i64 0]) (by kernel_rfl) ?_
  refine Great.wpList_readTo (by rfl) (some 27) (by rfl) (.agg #[.int .i64 1, .int .i64 1, .int .i64 (-2), .int .i64 0, .int .i64 0, .int .i64 0, .int .i64 0]) (by kernel_rfl) ?_
  refine Great.wpList_readTo (by rfl) (some 28) (by rfl) (.agg #[.string ⟨#[78]⟩, .string ⟨#[49]⟩, .string ⟨#[48]⟩, .bool true, .int .i64 1, .int .i64 1, .int .i64 (-2), .int .i64 0, .int .i64 0, .int .i64 0, .int .i64 0]) (by kernel_rfl) ?_
  refine Great.wpList_readTo (by rfl) (some 29) (by rfl) (.agg #[.int .i64 (-1), .int .i64 1, .int .i64 (-2), .int .i64 0, .int .i64 0, .int .i64 0, .int .i64 0]) (by kernel_rfl) ?_
  refine Great.wpList_readTo (by rfl) (some 30) (by rfl) (.agg #[.string ⟨#[80, 97]⟩, .string ⟨#[49]⟩, .string ⟨#[48]⟩, .bool true, .int .i64 (-1), .int .i64 1, .int .i64 (-2), .int .i64 0, .int .i64 0, .int .i64 0, .int .i64 0]) (by kernel_rfl) ?_
  refine Great.wpList_readTo (by rfl) (some 31) (by rfl) (.agg #[.int .i64 2, .int .i64 1, .int .i64 (-2), .int .i64 0, .int .i64 0, .int .i64 0, .int .i64 0]) (by kernel_rfl) ?_
  refine Great.wpList_readTo (by rfl) (some 32) (by rfl) (.agg #[.string ⟨#[74]⟩, .string ⟨#[49]⟩, .string ⟨#[48]⟩, .bool true, .int .i64 2, .int .i64 1, .int .i64 (-2), .int .i64 0, .int .i64 0, .int .i64 0, .int .i64 0]) (by kernel_rfl) ?_
  refine Great.wpList_readTo (by rfl) (some 33) (by rfl) (.agg #[.int .i64 2, .int .i64 1, .int .i64 (-3), .int .i64 0, .int .i64 0, .int .i64 0, .int .i64 0]) (by kernel_rfl) ?_
  refine Great.wpList_readTo (by rfl) (some 34) (by rfl) (.agg #[.string ⟨#[87]⟩, .string ⟨#[49]⟩, .string ⟨#[48]⟩, .bool true, .int .i64 2, .int .i64 1, .int .i64 (-3), .int .i64 0, .int .i64 0, .int .i64 0, .int .i64 0]) (by kernel_rfl) ?_
  refine Great.wpList_readTo (by rfl) (some 35) (by rfl) (.agg #[.int .i64 (-1), .int .i64 1, .int .i64 (-2), .int .i64 0, .int .i64 0, .int .i64 0, .int .i64 0]) (by kernel_rfl) ?_
  refine Great.wpList_readTo (by rfl) (some 36) (by rfl) (.agg #[.string ⟨#[98, 97, 114]⟩, .string ⟨#[49, 48, 48, 48, 48, 48]⟩, .string ⟨#[48]⟩, .bool true, .int .i64 (-1), .int .i64 1, .int .i64 (-2), .int .i64 0, .int .i64 0, .int .i64 0, .int .i64 0]) (by kernel_rfl) ?_
  refine Great.wpList_readTo (by rfl) (some 37) (by rfl) (.agg #[.int .i64 0, .int .i64 0, .int .i64 0, .int .i64 1, .int .i64 0, .int .i64 0, .int .i64 0]) (by kernel_rfl) ?_
  refine Great.wpList_readTo (by rfl) (some 38) (by rfl) (.agg #[.string ⟨#[100, 101, 103, 67]⟩, .string ⟨#[49]⟩, .string ⟨#[53, 52, 54, 51, 47, 50, 48]⟩, .bool false, .int .i64 0, .int .i64 0, .int .i64 0, .int .i64 1, .int .i64 0, .int .i64 0, .int .i64 0]) (by kernel_rfl) ?_
  refine Great.wpList_readTo (by rfl) (some 39) (by rfl) (.agg #[.int .i64 0, .int .i64 0, .int .i64 0, .int .i64 1, .int .i64 0, .int .i64 0, .int .i64 0]) (by kernel_rfl) ?_
  refine Great.wpList_readTo (by rfl) (some 40) (by rfl) (.agg #[.string ⟨#[100, 101, 103, 70]⟩, .string ⟨#[53, 47, 57]⟩, .string ⟨#[52, 53, 57, 54, 55, 47, 49, 56, 48]⟩, .bool false, .int .i64 0, .int .i64 0, .int .i64 0, .int .i64 1, .int .i64 0, .int .i64 0, .int .i64 0]) (by kernel_rfl) ?_
  refine Great.wpList_runTo (by rfl) (some 41) (by rfl) (.slice (some ⟨w.heap.size, 0, none⟩) 20 20) (w.alloc (.cells symC 35)) (by kernel_rfl) ?_
  go_wp2
  go_ret
  exact ⟨rfl, rfl⟩
end Go.Proofs.YthjnmnepjeegiaaGreatDoor

/- Symbols of the program: find. -/
namespace Go.Proofs.YthjnmnepjeegiaaGreatDoor
open Go.RowKit Go.Proofs.YthjnmnepjeegiaaGreatDoor.Dg Go.Proofs.YthjnmnepjeegiaaGreatDoor.Q Go.Proofs.YthjnmnepjeegiaaGreatDoor.Num Go.Proofs.YthjnmnepjeegiaaGreatDoor.Str

def sy0C : Array Value := #[.string ⟨#[]⟩, .string ⟨#[]⟩, .string ⟨#[]⟩, .bool false, .int .i64 0, .int .i64 0, .int .i64 0, .int .i64 0, .int .i64 0, .int .i64 0, .int .i64 0]
/-- A result and the table, which lies in block g. -/
def FK (w w' : World) (g : Nat) : Prop := Bk w' w.heap.size sy0C 35 ∧ Bk w' g symC 35 ∧ Below w.heap.size w w'
theorem FK.up {w w1 w2 : World} {g : Nat} (h : FK w w1 g) (hb : Below w1.heap.size w1 w2) : FK w w2 g := ⟨h.1.up hb, h.2.1.up hb, btrans h.2.2 hb⟩
theorem FK.grow {w w1 : World} {g : Nat} (h : FK w w1 g) (C : Array Value) (t : TypeId) : FK w (w1.alloc (.cells C t)) g := h.up ((Below.refl _ _).alloc (Nat.le_refl _) _)
theorem FK.again {w w1 : World} {g : Nat} (h : FK w w1 g) : FK w (w1.alloc (.cells symC 35)) w1.heap.size :=
  have h2 := h.grow symC 35
  ⟨h2.1, Bk.new w1 _ _, h2.2.2⟩
theorem FK.start (w : World) : FK w ((w.alloc (.cells sy0C 35)).alloc (.cells symC 35)) (w.heap.size + 1) := by
  have s1 : (w.alloc (.cells sy0C 35)).heap.size = w.heap.size + 1 := by simp
  refine ⟨(Bk.new w _ _).alloc, ?_, ((Below.refl _ w).alloc (Nat.le_refl _) _).alloc (by rw [s1]; omega) _⟩
  have := Bk.new (w.alloc (.cells sy0C 35)) symC 35
  rw [s1] at this
  exact this
theorem cells11 {w : World} {g : Nat} {t : TypeId} {a0 a1 a2 a3 a4 a5 a6 a7 a8 a9 a10 : Value} (h : Bk w g #[a0, a1, a2, a3, a4, a5, a6, a7, a8, a9, a10] t) : w.cell? ⟨g, 0, none⟩ = some a0 ∧ w.cell? ⟨g, 1, none⟩ = some a1 ∧ w.cell? ⟨g, 2, none⟩ = some a2 ∧ w.cell? ⟨g, 3, none⟩ = some a3 ∧ w.cell? ⟨g, 4, none⟩ = some a4 ∧ w.cell? ⟨g, 5, none⟩ = some a5 ∧ w.cell? ⟨g, 6, none⟩ = some a6 ∧ w.cell? ⟨g, 7, none⟩ = some a7 ∧ w.cell? ⟨g, 8, none⟩ = some a8 ∧ w.cell? ⟨g, 9, none⟩ = some a9 ∧ w.cell? ⟨g, 10, none⟩ = some a10 :=
  ⟨h.cell 0, h.cell 1, h.cell 2, h.cell 3, h.cell 4, h.cell 5, h.cell 6, h.cell 7, h.cell 8, h.cell 9, h.cell 10⟩
theorem Bk.frozen11 {w : World} {g : Nat} {t : TypeId} {C : Array Value} (h : Bk w g C t) : w.frozen? ⟨g, 0, none⟩ = false ∧ w.frozen? ⟨g, 1, none⟩ = false ∧ w.frozen? ⟨g, 2, none⟩ = false ∧ w.frozen? ⟨g, 3, none⟩ = false ∧ w.frozen? ⟨g, 4, none⟩ = false ∧ w.frozen? ⟨g, 5, none⟩ = false ∧ w.frozen? ⟨g, 6, none⟩ = false ∧ w.frozen? ⟨g, 7, none⟩ = false ∧ w.frozen? ⟨g, 8, none⟩ = false ∧ w.frozen? ⟨g, 9, none⟩ = false ∧ w.frozen? ⟨g, 10, none⟩ = false :=
  ⟨h.frozen 0, h.frozen 1, h.frozen 2, h.frozen 3, h.frozen 4, h.frozen 5, h.frozen 6, h.frozen 7, h.frozen 8, h.frozen 9, h.frozen 10⟩
/-- The cells of a symbol in the table. -/
theorem sym_cells {w : World} {g k : Nat} {n f o : List UInt8} {b : Bool} {p0 p1 p2 p3 p4 p5 p6 : Int} (h : Bk w g symC 35) (hk : syms[k]? = some ⟨n, f, o, b, ⟨p0, p1, p2, p3, p4, p5, p6⟩⟩) :
    w.cell? ⟨g, k * 11, none⟩ = some (.string ⟨n.toArray⟩) ∧ w.cell? ⟨g, k * 11 + 1, none⟩ = some (.string ⟨f.toArray⟩) ∧ w.cell? ⟨g, k * 11 + 2, none⟩ = some (.string ⟨o.toArray⟩) ∧ w.cell? ⟨g, k * 11 + 3, none⟩ = some (.bool b) ∧ w.cell? ⟨g, k * 11 + 4, none⟩ = some (.int .i64 p0) ∧ w.cell? ⟨g, k * 11 + 5, none⟩ = some (.int .i64 p1) ∧ w.cell? ⟨g, k * 11 + 6, none⟩ = some (.int .i64 p2) ∧ w.cell? ⟨g, k * 11 + 7, none⟩ = some (.int .i64 p3) ∧ w.cell? ⟨g, k * 11 + 8, none⟩ = some (.int .i64 p4) ∧ w.cell? ⟨g, k * 11 + 9, none⟩ = some (.int .i64 p5) ∧ w.cell? ⟨g, k * 11 + 10, none⟩ = some (.int .i64 p6) := by
  have key : ∀ j, j < 11 → w.cell? ⟨g, k * 11 + j, none⟩ = (Sy.L ⟨n, f, o, b, ⟨p0, p1, p2, p3, p4, p5, p6⟩⟩)[j]? := fun j hj => by
    rw [h.cell]
    unfold symC
    rw [List.getElem?_toArray, flat_at Sy.len hk hj]
  exact ⟨key 0 (by decide), key 1 (by decide), key 2 (by decide), key 3 (by decide), key 4 (by decide), key 5 (by decide), key 6 (by decide), key 7 (by decide), key 8 (by decide), key 9 (by decide), key 10 (by decide)⟩
theorem find_yes {α : Type} {p : α → Bool} : ∀ {l : List α} {k : Nat} {s : α}, (l.take k).find? p = none → l[k]? = some s → p s = true → l.find? p = some s
  | [], k, s, _, h, _ => by simp at h
  | x :: l, 0, s, _, h, hp => by cases h; rw [List.find?_cons_of_pos hp]
  | x :: l, k + 1, s, h0, h, hp => by
    rw [List.take_succ_cons] at h0
    have hx : p x = false := by
      cases hx : p x
      · rfl
      · rw [List.find?_cons_of_pos hx] at h0; cases h0
    rw [List.find?_cons_of_neg (by rw [hx]; decide)] at h0 ⊢
    exact find_yes h0 (by simpa using h) hp
theorem find_no {α : Type} {p : α → Bool} {l : List α} {k : Nat} {s : α} (h0 : (l.take k).find? p = none) (h : l[k]? = some s) (hp : p s = false) : (l.take (k + 1)).find? p = none := by
  rw [List.take_add_one, List.find?_append, h0, h]
  simp [hp]
theorem eqSS (S T : ByteArray) : (S.toList == T.toList) = (bl S == bl T) := by
  rw [Lib.toList_data, Lib.toList_data]; rfl
theorem syms_len : syms.length = 20 := rfl

theorem put11_below {w0 w : World} {B g : Nat} {v0 v1 v2 v3 v4 v5 v6 v7 v8 v9 v10 : Value} (h : Below B w0 w) (hg : B ≤ g) : Below B w0 (((((((((((w.setCell ⟨g, 0, none⟩ v0).setCell ⟨g, 1, none⟩ v1).setCell ⟨g, 2, none⟩ v2).setCell ⟨g, 3, none⟩ v3).setCell ⟨g, 4, none⟩ v4).setCell ⟨g, 5, none⟩ v5).setCell ⟨g, 6, none⟩ v6).setCell ⟨g, 7, none⟩ v7).setCell ⟨g, 8, none⟩ v8).setCell ⟨g, 9, none⟩ v9).setCell ⟨g, 10, none⟩ v10) := putL_below hg [v0, v1, v2, v3, v4, v5, v6, v7, v8, v9, v10] 0 h
theorem pfx_small {c : UInt8} {l : List UInt8} (h : pfx c = some l) : l.length ≤ 9223372036854775807 := by
  unfold pfx at h
  repeat' split at h
  all_goals (cases h; try decide)
theorem sy_small {k : Nat} {s : Sy} (h : syms[k]? = some s) : s.fac.length ≤ 9223372036854775807 := by
  have hm := List.mem_of_getElem? h
  have : ∀ s ∈ syms, s.fac.length ≤ 6 := by decide
  have := this s hm
  omega
/-- What find gives. -/
def SyQ (o : Option Sy) (w : World) (e : Ending) (w' : World) : Prop := e = .returned (.tuple #[(o.getD Sy.none).v, .bool o.isSome]) ∧ Below w.heap.size w w'

set_option maxRecDepth 100000 in
set_option maxHeartbeats 6400000 in
theorem find_any (S : ByteArray) (hs : S.size ≤ 1000) (w : World) (hw : Wf w) : Calls Tryz.prog 24 #[.string S] w (SyQ (sfind (bl S)) w) := by
  have k0 := Lib.hid (FK.start w)
  obtain ⟨X, hX⟩ : ∃ X, sfind (bl S) = X := ⟨_, rfl⟩
  rw [hX]
  have HX := Lib.hid hX
  clear hX
  have sb : (S.size : Int) ≤ 1000 := by omega
  go_enter Tryz.func24, Tryz.ntmps24
  go_wp2_with (go_at_call 48; go_loud (refine (symbols_any _).mono ?_; rintro e w1 ⟨rfl, rfl⟩))
  generalize hw1 : World.alloc _ (.cells symC 35) = w1
  go_loopw [12] (fun i wr => ∃ k : Nat, k ≤ 20 ∧ i = .int .i64 (k : Int) ∧ Hid ((syms.take k).find? (fun s => s.name == bl S) = none) ∧ Hid (FK w wr (w.heap.size + 1))) (fun i _ => (20 - intOf i).toNat)
  case atStart => exact ⟨0, by omega, rfl, Lib.hid rfl, by rw [← hw1]; exact k0⟩
  case round =>
    obtain ⟨k, hk, rfl, hN, hF⟩ := hrel
    clear k0 hw1
    by_cases hk20 : k = 20
    · subst hk20
      have h1 : syms.find? (fun s => s.name == bl S) = none := hN.out
      have hX := HX.out
      unfold sfind at hX
      rw [h1] at hX
      dsimp only at hX
      clear h1 hN HX hk
      by_cases hl : S.size < 2
      · rw [if_pos (by rw [bl_len]; exact hl)] at hX
        subst hX
        have hl' : (S.size : Int) < 2 := by omega
        obtain ⟨z0, z1, z2, z3, z4, z5, z6, z7, z8, z9, z10⟩ := cells11 (show Bk wr w.heap.size #[.string ⟨#[]⟩, .string ⟨#[]⟩, .string ⟨#[]⟩, .bool false, .int .i64 0, .int .i64 0, .int .i64 0, .int .i64 0, .int .i64 0, .int .i64 0, .int .i64 0] _ from hF.out.1)
        obtain ⟨f0, f1, f2, f3, f4, f5, f6, f7, f8, f9, f10⟩ := hF.out.1.frozen11
        clear hl
        go_wp2_with fail
        refine bodyPost_ret (v := .tuple #[.agg #[.string ⟨#[]⟩, .string ⟨#[]⟩, .string ⟨#[]⟩, .bool false, .int .i64 0, .int .i64 0, .int .i64 0, .int .i64 0, .int .i64 0, .int .i64 0, .int .i64 0], .bool false]) (by simp [results, Tryz.results24, go_sem, z0, z1, z2, z3, z4, z5, z6, z7, z8, z9, z10]) rfl ⟨rfl, put11_below hF.out.2.2 (Nat.le_refl _)⟩
      · rw [if_neg (by rw [bl_len]; exact hl)] at hX
        have hl' : ¬ (S.size : Int) < 2 := by omega
        have hl0 : (0 : Int) < (S.size : Int) := by omega
        have hc : (bl S).headD 0 = S[0] := by
          have := bl_at S 0 (by omega)
          rw [List.headD_eq_head?_getD, List.head?_eq_getElem?, this]; rfl
        rw [hc] at hX
        have PF := fun w => prefix_any S[0] w
        obtain ⟨T, hT⟩ : ∃ T : ByteArray, S.extract 1 S.size = T := ⟨_, rfl⟩
        have hTl : (bl S).tail = bl T := by rw [← hT, bl_cut, ← List.drop_one, List.take_of_length_le (by rw [List.length_drop, bl_len]; omega)]
        rw [hTl] at hX
        have hbl : ∀ bt, pfx S[0] = some bt → bt.length ≤ 9223372036854775807 := fun bt h => pfx_small h
        generalize pfx S[0] = o at *
        have hG := Lib.hid hF.out.again
        clear hc hTl
        have go1 : Hid (1 ≤ S.size) := Lib.hid (by omega)
        have i1 : (1 : Int) ≤ (S.size : Int) := by omega
        cases o with
        | none =>
          dsimp only at hX
          subst hX
          go_wp2_with (first
            | (go_at_call 49; go_loud (refine (PF _).mono ?_; rintro e w1 ⟨rfl, rfl⟩))
            | (go_at_call 48; go_loud (refine (symbols_any _).mono ?_; rintro e w1 ⟨rfl, rfl⟩)))
          generalize hw2 : World.alloc _ (.cells symC 35) = w2 at hG ⊢
          generalize wr.heap.size = g at *
          clear hw2
          go_loopw [34] (fun i wx => ∃ k : Nat, k ≤ 20 ∧ i = .int .i64 (k : Int) ∧ Hid (FK w wx g)) (fun i _ => (20 - intOf i).toNat)
          case atStart => exact ⟨0, by omega, rfl, hG⟩
          case round =>
            clear hF hG
            obtain ⟨k, hk, rfl, hF⟩ := hrel
            by_cases hk20 : k = 20
            · subst hk20
              obtain ⟨z0, z1, z2, z3, z4, z5, z6, z7, z8, z9, z10⟩ := cells11 (show Bk wr w.heap.size #[.string ⟨#[]⟩, .string ⟨#[]⟩, .string ⟨#[]⟩, .bool false, .int .i64 0, .int .i64 0, .int .i64 0, .int .i64 0, .int .i64 0, .int .i64 0, .int .i64 0] _ from hF.out.1)
              obtain ⟨f0, f1, f2, f3, f4, f5, f6, f7, f8, f9, f10⟩ := hF.out.1.frozen11
              go_wp2_with fail
              refine bodyPost_ret (v := .tuple #[.agg #[.string ⟨#[]⟩, .string ⟨#[]⟩, .string ⟨#[]⟩, .bool false, .int .i64 0, .int .i64 0, .int .i64 0, .int .i64 0, .int .i64 0, .int .i64 0, .int .i64 0], .bool false]) (by simp [results, Tryz.results24, go_sem, z0, z1, z2, z3, z4, z5, z6, z7, z8, z9, z10]) rfl ⟨rfl, put11_below hF.out.2.2 (Nat.le_refl _)⟩
            · have hlt : k < 20 := by omega
              have hi : (k : Int) < 20 := by omega
              obtain ⟨s, hsk⟩ : ∃ s, syms[k]? = some s := ⟨_, List.getElem?_eq_getElem (by rw [syms_len]; exact hlt)⟩
              obtain ⟨n, f, o, b, p0, p1, p2, p3, p4, p5, p6⟩ := s
              obtain ⟨c0, c1, c2, c3, c4, c5, c6, c7, c8, c9, c10⟩ := sym_cells hF.out.2.1 hsk
              have HS := Lib.hid hsk
              obtain ⟨M, hM⟩ : ∃ M : ByteArray, (⟨n.toArray⟩ : ByteArray) = M := ⟨_, rfl⟩
              have hE : (M.toList == T.toList) = (n == bl T) := by rw [eqSS, ← hM]; rfl
              rw [hM] at c0
              have HM := Lib.hid hM
              obtain ⟨fk, hfk⟩ : ∃ M : ByteArray, (⟨f.toArray⟩ : ByteArray) = M := ⟨_, rfl⟩
              rw [hfk] at c1
              obtain ⟨ok, hok⟩ : ∃ M : ByteArray, (⟨o.toArray⟩ : ByteArray) = M := ⟨_, rfl⟩
              rw [hok] at c2
              have Hfk := Lib.hid hfk
              have Hok := Lib.hid hok
              clear hM hsk hfk hok hk20
              clear hE HS
              go_wp2
              go_quiet (fail)
              go_wp2
              go_roundw
              case rel => exact ⟨k + 1, by omega, by go_num, Lib.hid (hF.out.up (by (repeat (first | exact Below.refl _ _ | assumption | refine below_drewN ?_ _ | refine Below.drew ?_ | refine btrans ?_ (by assumption) | refine below_alloc ?_ _ | refine Below.setCell ?_ (by simp <;> omega) _ | refine Below.alloc ?_ (by simp <;> omega) _ | refine Below.setCell ?_ (by simp) _ | refine Below.alloc ?_ (by simp) _))))⟩
              case measure => simp only [intOf]; omega
        | some bt =>
          dsimp only at hX
          have HX := Lib.hid hX
          clear hX
          obtain ⟨B, hB⟩ : ∃ B : ByteArray, (⟨bt.toArray⟩ : ByteArray) = B := ⟨_, rfl⟩
          have hBs : B.size ≤ 9223372036854775807 := by
            rw [← hB, ← bl_len, bl_mk]
            exact hbl bt rfl
          have PF := fun w => (show Calls Tryz.prog 49 #[.int .u8 (S[0].toNat : Int)] w fun e w' => e = .returned (.tuple #[.string B, .bool true]) ∧ w = w' from hB ▸ PF w)
          have MU := fun (F : ByteArray) (hF : F.size ≤ 9223372036854775807) w' (hb : Below w.heap.size w w') => qMul_any F B hF hBs w' (hw.up hb)
          rw [show bl B = bt by rw [← hB]; rfl] at MU
          clear hB hBs
          go_wp2_with (first
            | (go_at_call 49; go_loud (refine (PF _).mono ?_; rintro e w1 ⟨rfl, rfl⟩))
            | (go_at_call 48; go_loud (refine (symbols_any _).mono ?_; rintro e w1 ⟨rfl, rfl⟩)))
          generalize hw2 : World.alloc _ (.cells symC 35) = w2 at hG ⊢
          generalize wr.heap.size = g at *
          clear hw2
          go_loopw [34] (fun i wx => ∃ k : Nat, k ≤ 20 ∧ i = .int .i64 (k : Int) ∧ Hid ((syms.take k).find? (fun s => s.pre && s.name == bl T) = none) ∧ Hid (FK w wx g)) (fun i _ => (20 - intOf i).toNat)
          case atStart => exact ⟨0, by omega, rfl, Lib.hid rfl, hG⟩
          case round =>
            clear hF hG
            obtain ⟨k, hk, rfl, hN, hF⟩ := hrel
            by_cases hk20 : k = 20
            · subst hk20
              have hX := HX.out
              rw [show syms.find? (fun s => s.pre && s.name == bl T) = none from hN.out] at hX
              subst hX
              clear hN HX MU
              obtain ⟨z0, z1, z2, z3, z4, z5, z6, z7, z8, z9, z10⟩ := cells11 (show Bk wr w.heap.size #[.string ⟨#[]⟩, .string ⟨#[]⟩, .string ⟨#[]⟩, .bool false, .int .i64 0, .int .i64 0, .int .i64 0, .int .i64 0, .int .i64 0, .int .i64 0, .int .i64 0] _ from hF.out.1)
              obtain ⟨f0, f1, f2, f3, f4, f5, f6, f7, f8, f9, f10⟩ := hF.out.1.frozen11
              go_wp2_with fail
              refine bodyPost_ret (v := .tuple #[.agg #[.string ⟨#[]⟩, .string ⟨#[]⟩, .string ⟨#[]⟩, .bool false, .int .i64 0, .int .i64 0, .int .i64 0, .int .i64 0, .int .i64 0, .int .i64 0, .int .i64 0], .bool false]) (by simp [results, Tryz.results24, go_sem, z0, z1, z2, z3, z4, z5, z6, z7, z8, z9, z10]) rfl ⟨rfl, put11_below hF.out.2.2 (Nat.le_refl _)⟩
            · have hlt : k < 20 := by omega
              have hi : (k : Int) < 20 := by omega
              obtain ⟨s, hsk⟩ : ∃ s, syms[k]? = some s := ⟨_, List.getElem?_eq_getElem (by rw [syms_len]; exact hlt)⟩
              obtain ⟨n, f, o, b, p0, p1, p2, p3, p4, p5, p6⟩ := s
              obtain ⟨c0, c1, c2, c3, c4, c5, c6, c7, c8, c9, c10⟩ := sym_cells hF.out.2.1 hsk
              have HS := Lib.hid hsk
              obtain ⟨M, hM⟩ : ∃ M : ByteArray, (⟨n.toArray⟩ : ByteArray) = M := ⟨_, rfl⟩
              have hE : (M.toList == T.toList) = (n == bl T) := by rw [eqSS, ← hM]; rfl
              rw [hM] at c0
              have HM := Lib.hid hM
              obtain ⟨fk, hfk⟩ : ∃ M : ByteArray, (⟨f.toArray⟩ : ByteArray) = M := ⟨_, rfl⟩
              rw [hfk] at c1
              obtain ⟨ok, hok⟩ : ∃ M : ByteArray, (⟨o.toArray⟩ : ByteArray) = M := ⟨_, rfl⟩
              rw [hok] at c2
              have Hfk := Lib.hid hfk
              have Hok := Lib.hid hok
              clear hM hsk hfk hok hk20
              cases hb : b
              · have HN := Lib.hid (find_no hN.out HS.out (by show (b && _) = false; rw [hb]; rfl))
                subst hb
                clear hN hE
                go_wp2
                go_quiet (fail)
                go_wp2
                go_roundw
                case rel => exact ⟨k + 1, by omega, by go_num, HN, Lib.hid (hF.out.up (by (repeat (first | exact Below.refl _ _ | assumption | refine below_drewN ?_ _ | refine Below.drew ?_ | refine btrans ?_ (by assumption) | refine below_alloc ?_ _ | refine Below.setCell ?_ (by simp <;> omega) _ | refine Below.alloc ?_ (by simp <;> omega) _ | refine Below.setCell ?_ (by simp) _ | refine Below.alloc ?_ (by simp) _))))⟩
                case measure => simp only [intOf]; omega
              · cases hq : n == bl T
                · have HN := Lib.hid (find_no hN.out HS.out (by show (b && _) = false; rw [hb]; exact hq))
                  rw [hq] at hE
                  subst hb
                  clear hN hq
                  go_wp2
                  go_quiet (fail)
                  go_wp2
                  go_roundw
                  case rel => exact ⟨k + 1, by omega, by go_num, HN, Lib.hid (hF.out.up (by (repeat (first | exact Below.refl _ _ | assumption | refine below_drewN ?_ _ | refine Below.drew ?_ | refine btrans ?_ (by assumption) | refine below_alloc ?_ _ | refine Below.setCell ?_ (by simp <;> omega) _ | refine Below.alloc ?_ (by simp <;> omega) _ | refine Below.setCell ?_ (by simp) _ | refine Below.alloc ?_ (by simp) _))))⟩
                  case measure => simp only [intOf]; omega
                · have hX := HX.out
                  rw [find_yes hN.out HS.out (by show (b && _) = true; rw [hb]; exact hq)] at hX
                  rw [hq] at hE
                  have hX2 : some (⟨n, bin dMul f bt, o, b, ⟨p0, p1, p2, p3, p4, p5, p6⟩⟩ : Sy) = X := hX
                  have hfs : f = bl fk := by rw [← Hfk.out]; rfl
                  have MU := MU fk (by rw [← bl_len, ← hfs]; exact sy_small HS.out)
                  rw [← hfs] at MU
                  have hR : ∃ R : ByteArray, (⟨(bin dMul f bt).toArray⟩ : ByteArray) = R := ⟨_, rfl⟩
                  obtain ⟨Rs2, hR2⟩ := hR
                  unfold GiveT at MU
                  rw [hR2] at MU
                  have HR2 := Lib.hid hR2
                  subst hX2 hb
                  clear hN hq HX hX hfs hR2
                  have hH := Lib.hid (hF.out.grow #[.string M, .string fk, .string ok, .bool true, .int .i64 p0, .int .i64 p1, .int .i64 p2, .int .i64 p3, .int .i64 p4, .int .i64 p5, .int .i64 p6] 35)
                  have hC := Lib.hid (Bk.new wr #[.string M, .string fk, .string ok, .bool true, .int .i64 p0, .int .i64 p1, .int .i64 p2, .int .i64 p3, .int .i64 p4, .int .i64 p5, .int .i64 p6] 35)
                  go_wp2
                  go_quiet (fail)
                  go_wp2_with (go_at_call 50; go_loud (refine (MU _ (hH.out.2.2.trans (Below.mono (by (repeat (first | exact Below.refl _ _ | assumption | refine below_drewN ?_ _ | refine Below.drew ?_ | refine btrans ?_ (by assumption) | refine below_alloc ?_ _ | refine Below.setCell ?_ (by simp <;> omega) _ | refine Below.alloc ?_ (by simp <;> omega) _ | refine Below.setCell ?_ (by simp) _ | refine Below.alloc ?_ (by simp) _))) hH.out.2.2.size))).mono ?_; rintro e w3 ⟨rfl, hb⟩; have hd := Lib.hid (btrans (show Below (World.alloc wr (.cells #[.string M, .string fk, .string ok, .bool true, .int .i64 p0, .int .i64 p1, .int .i64 p2, .int .i64 p3, .int .i64 p4, .int .i64 p5, .int .i64 p6] 35)).heap.size (World.alloc wr (.cells #[.string M, .string fk, .string ok, .bool true, .int .i64 p0, .int .i64 p1, .int .i64 p2, .int .i64 p3, .int .i64 p4, .int .i64 p5, .int .i64 p6] 35)) _ from by (repeat (first | exact Below.refl _ _ | assumption | refine below_drewN ?_ _ | refine Below.drew ?_ | refine btrans ?_ (by assumption) | refine below_alloc ?_ _ | refine Below.setCell ?_ (by simp <;> omega) _ | refine Below.alloc ?_ (by simp <;> omega) _ | refine Below.setCell ?_ (by simp) _ | refine Below.alloc ?_ (by simp) _))) hb); have k3 := Lib.hid (hH.out.up hd.out); have b3 := Lib.hid (hC.out.up hd.out); obtain ⟨y0, y1, y2, y3, y4, y5, y6, y7, y8, y9, y10⟩ := cells11 b3.out; obtain ⟨x0, x1, x2, x3, x4, x5, x6, x7, x8, x9, x10⟩ := b3.out.frozen11; obtain ⟨z0, z1, z2, z3, z4, z5, z6, z7, z8, z9, z10⟩ := cells11 (show Bk w3 w.heap.size #[.string ⟨#[]⟩, .string ⟨#[]⟩, .string ⟨#[]⟩, .bool false, .int .i64 0, .int .i64 0, .int .i64 0, .int .i64 0, .int .i64 0, .int .i64 0, .int .i64 0] _ from k3.out.1); obtain ⟨f0, f1, f2, f3, f4, f5, f6, f7, f8, f9, f10⟩ := k3.out.1.frozen11; have hne := Nat.ne_of_lt (Nat.lt_of_lt_of_le hF.out.1.lt (Nat.le_refl _)); have hne2 : w.heap.size < wr.heap.size := hF.out.1.lt; clear hb))
                  refine bodyPost_ret (v := .tuple #[.agg #[.string M, .string Rs2, .string ok, .bool true, .int .i64 p0, .int .i64 p1, .int .i64 p2, .int .i64 p3, .int .i64 p4, .int .i64 p5, .int .i64 p6], .bool true]) (by simp [results, Tryz.results24, go_sem, z0, z1, z2, z3, z4, z5, z6, z7, z8, z9, z10]) rfl ⟨?_, put11_below (k3.out.2.2.setCell (Nat.le_of_lt hne2) _) (Nat.le_refl _)⟩
                  rw [← HM.out, ← HR2.out, ← Hok.out]; rfl
    · have hlt : k < 20 := by omega
      have hi : (k : Int) < 20 := by omega
      obtain ⟨s, hsk⟩ : ∃ s, syms[k]? = some s := ⟨_, List.getElem?_eq_getElem (by rw [syms_len]; exact hlt)⟩
      obtain ⟨n, f, o, b, p0, p1, p2, p3, p4, p5, p6⟩ := s
      obtain ⟨c0, c1, c2, c3, c4, c5, c6, c7, c8, c9, c10⟩ := sym_cells hF.out.2.1 hsk
      have HS := Lib.hid hsk
      obtain ⟨M, hM⟩ : ∃ M : ByteArray, (⟨n.toArray⟩ : ByteArray) = M := ⟨_, rfl⟩
      have hE : (M.toList == S.toList) = (n == bl S) := by rw [eqSS, ← hM]; rfl
      rw [hM] at c0
      have HM := Lib.hid hM
      obtain ⟨fk, hfk⟩ : ∃ M : ByteArray, (⟨f.toArray⟩ : ByteArray) = M := ⟨_, rfl⟩
      rw [hfk] at c1
      obtain ⟨ok, hok⟩ : ∃ M : ByteArray, (⟨o.toArray⟩ : ByteArray) = M := ⟨_, rfl⟩
      rw [hok] at c2
      have Hfk := Lib.hid hfk
      have Hok := Lib.hid hok
      clear hM hsk hfk hok hk20
      cases hq : n == bl S
      · rw [hq] at hE
        have HN := Lib.hid (find_no hN.out HS.out hq)
        clear hN hq
        go_wp2
        go_roundw
        case rel => exact ⟨k + 1, by omega, by go_num, HN, Lib.hid (hF.out.grow _ _)⟩
        case measure => simp only [intOf]; omega
      · rw [hq] at hE
        have hX := HX.out
        unfold sfind at hX
        rw [find_yes hN.out HS.out hq] at hX
        dsimp only at hX
        subst hX
        clear hN hq
        have hG := Lib.hid (hF.out.grow #[.string M, .string fk, .string ok, .bool b, .int .i64 p0, .int .i64 p1, .int .i64 p2, .int .i64 p3, .int .i64 p4, .int .i64 p5, .int .i64 p6] 35)
        obtain ⟨z0, z1, z2, z3, z4, z5, z6, z7, z8, z9, z10⟩ := cells11 (show Bk _ w.heap.size #[.string ⟨#[]⟩, .string ⟨#[]⟩, .string ⟨#[]⟩, .bool false, .int .i64 0, .int .i64 0, .int .i64 0, .int .i64 0, .int .i64 0, .int .i64 0, .int .i64 0] _ from hG.out.1)
        obtain ⟨f0, f1, f2, f3, f4, f5, f6, f7, f8, f9, f10⟩ := hG.out.1.frozen11
        go_wp2
        refine bodyPost_ret (v := .tuple #[.agg #[.string M, .string fk, .string ok, .bool b, .int .i64 p0, .int .i64 p1, .int .i64 p2, .int .i64 p3, .int .i64 p4, .int .i64 p5, .int .i64 p6], .bool true]) (by simp [results, Tryz.results24, go_sem, z0, z1, z2, z3, z4, z5, z6, z7, z8, z9, z10]) rfl ⟨?_, put11_below hG.out.2.2 (Nat.le_refl _)⟩
        rw [← HM.out, ← Hfk.out, ← Hok.out]; rfl
end Go.Proofs.YthjnmnepjeegiaaGreatDoor

/- Owned rows of elements of several cells; stores into the middle of a block. -/
namespace Go.Proofs.YthjnmnepjeegiaaGreatDoor
open Go.RowKit Go.Proofs.YthjnmnepjeegiaaGreatDoor.Dg Go.Proofs.YthjnmnepjeegiaaGreatDoor.Q

theorem ownM_below {w w' : World} {base m n : Nat} {e : TypeId} {v : Value} {xs : List Value} (h : w.ownsRow base e m v n xs) (hb : Below w.heap.size w w') : w'.ownsRow base e m v n xs := by
  obtain ⟨h1, h2⟩ := h
  refine ⟨h1, ?_⟩
  rcases h2 with h2 | ⟨g, cap, cur, e1, e2, e3, e4⟩
  · exact .inl h2
  · have hg : g < w.heap.size := (Array.getElem?_eq_some_iff.1 e3).1
    exact .inr ⟨g, cap, cur, e1, e2, (hb.block g hg).trans e3, e4⟩
theorem grownM_below {w0 w w' : World} {n m : Nat} {e : TypeId} {v : Value} {xs : List Value} (h : w.ownsRow w0.heap.size e m v n xs) (hb : Below w0.heap.size w0 w) (hg : w.grownBy w' v.ownBlock) : Below w0.heap.size w0 w' := by
  refine ⟨hg.os.trans hb.os, hg.tape.trans hb.tape, hg.output.trans hb.output, Nat.le_trans hb.size hg.size, fun k hk => ?_⟩
  refine (hg.block k (Nat.lt_of_lt_of_le hk hb.size) (fun e1 => ?_)).trans (hb.block k hk)
  rcases h.2 with ⟨rfl, _⟩ | ⟨g, cap, cur, rfl, hge, _⟩
  · cases e1
  · have : k = g := by simpa [Value.ownBlock] using e1
    omega
/-- The cells of an owned row. -/
theorem ownM_cell {w : World} {base m n g cap : Nat} {e : TypeId} {xs : List Value} (h : w.ownsRow base e m (.slice (some ⟨g, 0, none⟩) n cap) n xs) {j : Nat} {u : Value} (hj : xs[j]? = some u) : w.cell? ⟨g, j, none⟩ = some u := by
  have := h.cells (g := g) rfl j u hj
  rcases Nat.eq_zero_or_pos j with h0 | h0
  · subst h0; simpa [Addr.add] using this
  · have h1 : j ≠ 0 := by omega
    simpa [Addr.add, h1] using this
theorem ownM_form {w : World} {base m n : Nat} {e : TypeId} {v : Value} {xs : List Value} (h : w.ownsRow base e m v n xs) (hn : 0 < n) : ∃ g cap, v = .slice (some ⟨g, 0, none⟩) n cap ∧ g < w.heap.size ∧ base ≤ g ∧ n ≤ cap := by
  rcases h.2 with ⟨_, h0⟩ | ⟨g, cap, cur, e1, e2, e3, e4, _⟩
  · omega
  · exact ⟨g, cap, e1, (Array.getElem?_eq_some_iff.1 e3).1, e2, e4⟩
theorem Bk.put_mid {g : Nat} {t : TypeId} (l : List Value) : ∀ {w : World} (pre old post : List Value), Bk w g (pre ++ old ++ post).toArray t → old.length = l.length → Bk (putL w g pre.length l) g (pre ++ l ++ post).toArray t := by
  induction l with
  | nil => intro w pre old post h e; rw [List.length_eq_zero_iff.1 e] at h; exact h
  | cons v l ih =>
    intro w pre old post h e
    cases old with
    | nil => cases e
    | cons o old =>
      have h2 := h.set (i := pre.length) v
      have e2 : (pre ++ o :: old ++ post).toArray.setIfInBounds pre.length v = ((pre ++ [v]) ++ old ++ post).toArray := by
        rw [List.setIfInBounds_toArray]
        congr 1
        rw [List.append_assoc, List.set_append_right _ _ (Nat.le_refl _), Nat.sub_self, List.cons_append, List.set_cons_zero, List.append_assoc, List.append_assoc]
        rfl
      rw [e2] at h2
      have h3 := ih (pre ++ [v]) old post h2 (by simpa using e)
      have e3 : (pre ++ [v]) ++ l ++ post = pre ++ v :: l ++ post := by simp
      rw [e3, List.length_append] at h3
      exact h3
end Go.Proofs.YthjnmnepjeegiaaGreatDoor
