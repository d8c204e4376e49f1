/- Units of the reference: read. Units of the program: Times, Over, Same. Units of the program: Power. Plain laws: what the reference's give, product and Power give. Units of the reference: ValidUnit, Plain, Same. Units of the reference: give. -/
import Derived.Test.YthjnmnepjeegiaaGreatDoorG19
import Derived.Test.YthjnmnepjeegiaaGreatDoorG7
import Derived.Test.YthjnmnepjeegiaaGreatDoorG10
import Derived.Test.YthjnmnepjeegiaaGreatDoorG11
import Derived.Deep.RegionWith
import Derived.Deep.RegionHeld3
import Derived.StillTailTactics
/- Units of the reference: read. -/
namespace Go.Proofs.YthjnmnepjeegiaaGreatDoor
open Go.RowKit Go.Proofs.YthjnmnepjeegiaaGreatDoor.Dg Go.Proofs.YthjnmnepjeegiaaGreatDoor.Q Go.Proofs.YthjnmnepjeegiaaGreatDoor.Num

def sc0C : Array Value := #[.bool false, .slice none 0 0, .slice none 0 0, .bool false, .slice none 0 0, .slice none 0 0, .int .i64 0, .int .i64 0, .int .i64 0, .int .i64 0, .int .i64 0, .int .i64 0, .int .i64 0]
theorem sc0_all : sc0C.all (notK .u64) = true := by simp [sc0C, notK]
/-- What read gives. -/
def ReadS (F O : List UInt8) (p : P7) (w : World) (e : Ending) (w' : World) : Prop :=
  ∃ (y1 : Bool) (A1 : Option Addr) (l1 c1 : Nat) (A2 : Option Addr) (l2 c2 : Nat) (y2 : Bool) (A3 : Option Addr) (l3 c3 : Nat) (A4 : Option Addr) (l4 c4 : Nat) (qf qo : Rat),
    e = .returned (.tuple #[.agg #[.bool y1, .slice A1 l1 c1, .slice A2 l2 c2, .bool y2, .slice A3 l3 c3, .slice A4 l4 c4, .int .i64 p.a, .int .i64 p.b, .int .i64 p.c, .int .i64 p.d, .int .i64 p.e, .int .i64 p.f, .int .i64 p.g], .bool (vU F O p)]) ∧ Below w.heap.size w w' ∧
    Qr w' (.agg #[.bool y1, .slice A1 l1 c1, .slice A2 l2 c2]) qf ∧ Qr w' (.agg #[.bool y2, .slice A3 l3 c3, .slice A4 l4 c4]) qo ∧ sz qf ≤ 5000 ∧ sz qo ≤ 5000 ∧ (∀ q, num? F = some q → qf = q) ∧ (∀ q, num? O = some q → qo = q)
/-- The box of a unit and the result. -/
def KS2 (w w' : World) (F O : ByteArray) (p : P7) : Prop := Ub w' w.heap.size F O p ∧ Bk w' (w.heap.size + 1) sc0C 62 ∧ Below w.heap.size w w' ∧ w.heap.size + 2 ≤ w'.heap.size
theorem KS2.up {w w1 w2 : World} {F O : ByteArray} {p : P7} (h : KS2 w w1 F O p) (hb : Below w1.heap.size w1 w2) : KS2 w w2 F O p :=
  ⟨h.1.below hb (by have := h.2.2.2; omega), h.2.1.up hb, btrans h.2.2.1 hb, Nat.le_trans h.2.2.2 hb.size⟩
theorem KS2.start (w : World) (F O : ByteArray) (p : P7) : KS2 w ((w.alloc (.cells #[.string F, .string O, .int .i64 p.a, .int .i64 p.b, .int .i64 p.c, .int .i64 p.d, .int .i64 p.e, .int .i64 p.f, .int .i64 p.g] 24)).alloc (.cells sc0C 62)) F O p := by
  have k := KU.start w F O p
  have hs : (w.alloc (.cells #[.string F, .string O, .int .i64 p.a, .int .i64 p.b, .int .i64 p.c, .int .i64 p.d, .int .i64 p.e, .int .i64 p.f, .int .i64 p.g] 24)).heap.size = w.heap.size + 1 := by simp
  have b := Bk.new (w.alloc (.cells #[.string F, .string O, .int .i64 p.a, .int .i64 p.b, .int .i64 p.c, .int .i64 p.d, .int .i64 p.e, .int .i64 p.f, .int .i64 p.g] 24)) sc0C 62
  rw [hs] at b
  exact ⟨(k.up (below_alloc (Below.refl _ _) _)).1, b, (k.up (below_alloc (Below.refl _ _) _)).2.1, by simp⟩
/-- The box of a unit, the result, and the boxes of two numbers. -/
def KRd (w w' : World) (h1 h2 : Nat) (F O : ByteArray) (p : P7) (y1 : Bool) (A1 : Option Addr) (l1 c1 : Nat) (A2 : Option Addr) (l2 c2 : Nat) (y2 : Bool) (A3 : Option Addr) (l3 c3 : Nat) (A4 : Option Addr) (l4 c4 : Nat) (qf qo : Rat) : Prop :=
  Ub w' w.heap.size F O p ∧ Bk w' (w.heap.size + 1) sc0C 62 ∧ Below w.heap.size w w' ∧ Rs w' h1 (.bool y1) (.slice A1 l1 c1) (.slice A2 l2 c2) 54 ∧ Rs w' h2 (.bool y2) (.slice A3 l3 c3) (.slice A4 l4 c4) 54 ∧ w.heap.size + 2 ≤ h1 ∧ h1 < w'.heap.size ∧ w.heap.size + 2 ≤ h2 ∧ h2 < w'.heap.size ∧ Qr w' (.agg #[.bool y1, .slice A1 l1 c1, .slice A2 l2 c2]) qf ∧ Qr w' (.agg #[.bool y2, .slice A3 l3 c3, .slice A4 l4 c4]) qo
theorem KRd.up {w w1 w2 : World} {h1 h2 : Nat} {F O : ByteArray} {p : P7} {y1 : Bool} {A1 : Option Addr} {l1 c1 : Nat} {A2 : Option Addr} {l2 c2 : Nat} {y2 : Bool} {A3 : Option Addr} {l3 c3 : Nat} {A4 : Option Addr} {l4 c4 : Nat} {qf qo : Rat} (h : KRd w w1 h1 h2 F O p y1 A1 l1 c1 A2 l2 c2 y2 A3 l3 c3 A4 l4 c4 qf qo) (hb : Below w1.heap.size w1 w2) : KRd w w2 h1 h2 F O p y1 A1 l1 c1 A2 l2 c2 y2 A3 l3 c3 A4 l4 c4 qf qo := by
  obtain ⟨k1, k2, k3, k4, k5, k6, k7, k8, k9, k10, k11⟩ := h
  exact ⟨k1.below hb (by omega), k2.up hb, btrans k3 hb, k4.below hb k7, k5.below hb k9, k6, Nat.lt_of_lt_of_le k7 hb.size, k8, Nat.lt_of_lt_of_le k9 hb.size, k10.up hb, k11.up hb⟩
theorem KRd.cells {w w' : World} {h1 h2 : Nat} {F O : ByteArray} {p0 p1 p2 p3 p4 p5 p6 : Int} {y1 : Bool} {A1 : Option Addr} {l1 c1 : Nat} {A2 : Option Addr} {l2 c2 : Nat} {y2 : Bool} {A3 : Option Addr} {l3 c3 : Nat} {A4 : Option Addr} {l4 c4 : Nat} {qf qo : Rat} (h : KRd w w' h1 h2 F O ⟨p0, p1, p2, p3, p4, p5, p6⟩ y1 A1 l1 c1 A2 l2 c2 y2 A3 l3 c3 A4 l4 c4 qf qo) : w'.cell? ⟨h1, 0, none⟩ = some (.bool y1) ∧ w'.cell? ⟨h1, 1, none⟩ = some (.slice A1 l1 c1) ∧ w'.cell? ⟨h1, 2, none⟩ = some (.slice A2 l2 c2) ∧ w'.cell? ⟨h2, 0, none⟩ = some (.bool y2) ∧ w'.cell? ⟨h2, 1, none⟩ = some (.slice A3 l3 c3) ∧ w'.cell? ⟨h2, 2, none⟩ = some (.slice A4 l4 c4) ∧ w'.cell? ⟨w.heap.size, 2, none⟩ = some (.int .i64 p0) ∧ w'.cell? ⟨w.heap.size, 3, none⟩ = some (.int .i64 p1) ∧ w'.cell? ⟨w.heap.size, 4, none⟩ = some (.int .i64 p2) ∧ w'.cell? ⟨w.heap.size, 5, none⟩ = some (.int .i64 p3) ∧ w'.cell? ⟨w.heap.size, 6, none⟩ = some (.int .i64 p4) ∧ w'.cell? ⟨w.heap.size, 7, none⟩ = some (.int .i64 p5) ∧ w'.cell? ⟨w.heap.size, 8, none⟩ = some (.int .i64 p6) := by
  obtain ⟨k1, _, _, k4, k5, _⟩ := h
  obtain ⟨_, _, a0, a1, a2, a3, a4, a5, a6⟩ := k1.cells
  obtain ⟨b0, b1, b2⟩ := k4.cells
  obtain ⟨d0, d1, d2⟩ := k5.cells
  exact ⟨b0, b1, b2, d0, d1, d2, a0, a1, a2, a3, a4, a5, a6⟩
theorem KRd.b {w w' : World} {h1 h2 : Nat} {F O : ByteArray} {p : P7} {y1 : Bool} {A1 : Option Addr} {l1 c1 : Nat} {A2 : Option Addr} {l2 c2 : Nat} {y2 : Bool} {A3 : Option Addr} {l3 c3 : Nat} {A4 : Option Addr} {l4 c4 : Nat} {qf qo : Rat} (h : KRd w w' h1 h2 F O p y1 A1 l1 c1 A2 l2 c2 y2 A3 l3 c3 A4 l4 c4 qf qo) : Below w.heap.size w w' := h.2.2.1
theorem KRd.f {w w' : World} {h1 h2 : Nat} {F O : ByteArray} {p : P7} {y1 : Bool} {A1 : Option Addr} {l1 c1 : Nat} {A2 : Option Addr} {l2 c2 : Nat} {y2 : Bool} {A3 : Option Addr} {l3 c3 : Nat} {A4 : Option Addr} {l4 c4 : Nat} {qf qo : Rat} (h : KRd w w' h1 h2 F O p y1 A1 l1 c1 A2 l2 c2 y2 A3 l3 c3 A4 l4 c4 qf qo) : Qr w' (.agg #[.bool y1, .slice A1 l1 c1, .slice A2 l2 c2]) qf := h.2.2.2.2.2.2.2.2.2.1
theorem Qr.putL {w : World} {v : Value} {q : Rat} {g : Nat} {C : Array Value} {t : TypeId} (h : Qr w v q) (hr : Bk w g C t) (hC : C.all (notK .u64) = true) (i : Nat) (l : List Value) : Qr (Go.Proofs.YthjnmnepjeegiaaGreatDoor.putL w g i l) v q := by
  obtain ⟨A, c, A', c', d, e, h1, h2, h3⟩ := h
  exact ⟨A, c, A', c', d, e, h1.putL hr hC i l, h2.putL hr hC i l, h3⟩
theorem KRd.give {w w' : World} {h1 h2 : Nat} {F O : ByteArray} {p : P7} {y1 : Bool} {A1 : Option Addr} {l1 c1 : Nat} {A2 : Option Addr} {l2 c2 : Nat} {y2 : Bool} {A3 : Option Addr} {l3 c3 : Nat} {A4 : Option Addr} {l4 c4 : Nat} {qf qo : Rat} (h : KRd w w' h1 h2 F O p y1 A1 l1 c1 A2 l2 c2 y2 A3 l3 c3 A4 l4 c4 qf qo) (z1 : sz qf ≤ 5000) (z2 : sz qo ≤ 5000) (g1 : ∀ q, num? (bl F) = some q → qf = q) (g2 : ∀ q, num? (bl O) = some q → qo = q) (l : List Value) :
    ReadS (bl F) (bl O) p w (.returned (.tuple #[.agg #[.bool y1, .slice A1 l1 c1, .slice A2 l2 c2, .bool y2, .slice A3 l3 c3, .slice A4 l4 c4, .int .i64 p.a, .int .i64 p.b, .int .i64 p.c, .int .i64 p.d, .int .i64 p.e, .int .i64 p.f, .int .i64 p.g], .bool (vU (bl F) (bl O) p)])) (putL w' (w.heap.size + 1) 0 l) := by
  obtain ⟨k1, k2, k3, k4, k5, k6, k7, k8, k9, k10, k11⟩ := h
  exact ⟨y1, A1, l1, c1, A2, l2, c2, y2, A3, l3, c3, A4, l4, c4, qf, qo, rfl, putL_below (by omega) l 0 k3, k10.putL k2 sc0_all 0 l, k11.putL k2 sc0_all 0 l, z1, z2, g1, g2⟩
theorem KRd.put {w w' : World} {h1 h2 : Nat} {F O : ByteArray} {p0 p1 p2 p3 p4 p5 p6 : Int} {y1 : Bool} {A1 : Option Addr} {l1 c1 : Nat} {A2 : Option Addr} {l2 c2 : Nat} {y2 : Bool} {A3 : Option Addr} {l3 c3 : Nat} {A4 : Option Addr} {l4 c4 : Nat} {qf qo : Rat} (h : KRd w w' h1 h2 F O ⟨p0, p1, p2, p3, p4, p5, p6⟩ y1 A1 l1 c1 A2 l2 c2 y2 A3 l3 c3 A4 l4 c4 qf qo) (v0 v1 v2 v3 v4 v5 v6 v7 v8 v9 v10 v11 v12 : Value) : (((((((((((((w'.setCell ⟨w.heap.size + 1, 0, none⟩ v0).setCell ⟨w.heap.size + 1, 1, none⟩ v1).setCell ⟨w.heap.size + 1, 2, none⟩ v2).setCell ⟨w.heap.size + 1, 3, none⟩ v3).setCell ⟨w.heap.size + 1, 4, none⟩ v4).setCell ⟨w.heap.size + 1, 5, none⟩ v5).setCell ⟨w.heap.size + 1, 6, none⟩ v6).setCell ⟨w.heap.size + 1, 7, none⟩ v7).setCell ⟨w.heap.size + 1, 8, none⟩ v8).setCell ⟨w.heap.size + 1, 9, none⟩ v9).setCell ⟨w.heap.size + 1, 10, none⟩ v10).setCell ⟨w.heap.size + 1, 11, none⟩ v11).setCell ⟨w.heap.size + 1, 12, none⟩ v12).cell? ⟨h1, 0, none⟩ = some (.bool y1) ∧ (((((((((((((w'.setCell ⟨w.heap.size + 1, 0, none⟩ v0).setCell ⟨w.heap.size + 1, 1, none⟩ v1).setCell ⟨w.heap.size + 1, 2, none⟩ v2).setCell ⟨w.heap.size + 1, 3, none⟩ v3).setCell ⟨w.heap.size + 1, 4, none⟩ v4).setCell ⟨w.heap.size + 1, 5, none⟩ v5).setCell ⟨w.heap.size + 1, 6, none⟩ v6).setCell ⟨w.heap.size + 1, 7, none⟩ v7).setCell ⟨w.heap.size + 1, 8, none⟩ v8).setCell ⟨w.heap.size + 1, 9, none⟩ v9).setCell ⟨w.heap.size + 1, 10, none⟩ v10).setCell ⟨w.heap.size + 1, 11, none⟩ v11).setCell ⟨w.heap.size + 1, 12, none⟩ v12).cell? ⟨h1, 1, none⟩ = some (.slice A1 l1 c1) ∧ (((((((((((((w'.setCell ⟨w.heap.size + 1, 0, none⟩ v0).setCell ⟨w.heap.size + 1, 1, none⟩ v1).setCell ⟨w.heap.size + 1, 2, none⟩ v2).setCell ⟨w.heap.size + 1, 3, none⟩ v3).setCell ⟨w.heap.size + 1, 4, none⟩ v4).setCell ⟨w.heap.size + 1, 5, none⟩ v5).setCell ⟨w.heap.size + 1, 6, none⟩ v6).setCell ⟨w.heap.size + 1, 7, none⟩ v7).setCell ⟨w.heap.size + 1, 8, none⟩ v8).setCell ⟨w.heap.size + 1, 9, none⟩ v9).setCell ⟨w.heap.size + 1, 10, none⟩ v10).setCell ⟨w.heap.size + 1, 11, none⟩ v11).setCell ⟨w.heap.size + 1, 12, none⟩ v12).cell? ⟨h1, 2, none⟩ = some (.slice A2 l2 c2) ∧ (((((((((((((w'.setCell ⟨w.heap.size + 1, 0, none⟩ v0).setCell ⟨w.heap.size + 1, 1, none⟩ v1).setCell ⟨w.heap.size + 1, 2, none⟩ v2).setCell ⟨w.heap.size + 1, 3, none⟩ v3).setCell ⟨w.heap.size + 1, 4, none⟩ v4).setCell ⟨w.heap.size + 1, 5, none⟩ v5).setCell ⟨w.heap.size + 1, 6, none⟩ v6).setCell ⟨w.heap.size + 1, 7, none⟩ v7).setCell ⟨w.heap.size + 1, 8, none⟩ v8).setCell ⟨w.heap.size + 1, 9, none⟩ v9).setCell ⟨w.heap.size + 1, 10, none⟩ v10).setCell ⟨w.heap.size + 1, 11, none⟩ v11).setCell ⟨w.heap.size + 1, 12, none⟩ v12).cell? ⟨h2, 0, none⟩ = some (.bool y2) ∧ (((((((((((((w'.setCell ⟨w.heap.size + 1, 0, none⟩ v0).setCell ⟨w.heap.size + 1, 1, none⟩ v1).setCell ⟨w.heap.size + 1, 2, none⟩ v2).setCell ⟨w.heap.size + 1, 3, none⟩ v3).setCell ⟨w.heap.size + 1, 4, none⟩ v4).setCell ⟨w.heap.size + 1, 5, none⟩ v5).setCell ⟨w.heap.size + 1, 6, none⟩ v6).setCell ⟨w.heap.size + 1, 7, none⟩ v7).setCell ⟨w.heap.size + 1, 8, none⟩ v8).setCell ⟨w.heap.size + 1, 9, none⟩ v9).setCell ⟨w.heap.size + 1, 10, none⟩ v10).setCell ⟨w.heap.size + 1, 11, none⟩ v11).setCell ⟨w.heap.size + 1, 12, none⟩ v12).cell? ⟨h2, 1, none⟩ = some (.slice A3 l3 c3) ∧ (((((((((((((w'.setCell ⟨w.heap.size + 1, 0, none⟩ v0).setCell ⟨w.heap.size + 1, 1, none⟩ v1).setCell ⟨w.heap.size + 1, 2, none⟩ v2).setCell ⟨w.heap.size + 1, 3, none⟩ v3).setCell ⟨w.heap.size + 1, 4, none⟩ v4).setCell ⟨w.heap.size + 1, 5, none⟩ v5).setCell ⟨w.heap.size + 1, 6, none⟩ v6).setCell ⟨w.heap.size + 1, 7, none⟩ v7).setCell ⟨w.heap.size + 1, 8, none⟩ v8).setCell ⟨w.heap.size + 1, 9, none⟩ v9).setCell ⟨w.heap.size + 1, 10, none⟩ v10).setCell ⟨w.heap.size + 1, 11, none⟩ v11).setCell ⟨w.heap.size + 1, 12, none⟩ v12).cell? ⟨h2, 2, none⟩ = some (.slice A4 l4 c4) ∧ (((((((((((((w'.setCell ⟨w.heap.size + 1, 0, none⟩ v0).setCell ⟨w.heap.size + 1, 1, none⟩ v1).setCell ⟨w.heap.size + 1, 2, none⟩ v2).setCell ⟨w.heap.size + 1, 3, none⟩ v3).setCell ⟨w.heap.size + 1, 4, none⟩ v4).setCell ⟨w.heap.size + 1, 5, none⟩ v5).setCell ⟨w.heap.size + 1, 6, none⟩ v6).setCell ⟨w.heap.size + 1, 7, none⟩ v7).setCell ⟨w.heap.size + 1, 8, none⟩ v8).setCell ⟨w.heap.size + 1, 9, none⟩ v9).setCell ⟨w.heap.size + 1, 10, none⟩ v10).setCell ⟨w.heap.size + 1, 11, none⟩ v11).setCell ⟨w.heap.size + 1, 12, none⟩ v12).cell? ⟨w.heap.size, 2, none⟩ = some (.int .i64 p0) ∧ (((((((((((((w'.setCell ⟨w.heap.size + 1, 0, none⟩ v0).setCell ⟨w.heap.size + 1, 1, none⟩ v1).setCell ⟨w.heap.size + 1, 2, none⟩ v2).setCell ⟨w.heap.size + 1, 3, none⟩ v3).setCell ⟨w.heap.size + 1, 4, none⟩ v4).setCell ⟨w.heap.size + 1, 5, none⟩ v5).setCell ⟨w.heap.size + 1, 6, none⟩ v6).setCell ⟨w.heap.size + 1, 7, none⟩ v7).setCell ⟨w.heap.size + 1, 8, none⟩ v8).setCell ⟨w.heap.size + 1, 9, none⟩ v9).setCell ⟨w.heap.size + 1, 10, none⟩ v10).setCell ⟨w.heap.size + 1, 11, none⟩ v11).setCell ⟨w.heap.size + 1, 12, none⟩ v12).cell? ⟨w.heap.size, 3, none⟩ = some (.int .i64 p1) ∧ (((((((((((((w'.setCell ⟨w.heap.size + 1, 0, none⟩ v0).setCell ⟨w.heap.size + 1, 1, none⟩ v1).setCell ⟨w.heap.size + 1, 2, none⟩ v2).setCell ⟨w.heap.size + 1, 3, none⟩ v3).setCell ⟨w.heap.size + 1, 4, none⟩ v4).setCell ⟨w.heap.size + 1, 5, none⟩ v5).setCell ⟨w.heap.size + 1, 6, none⟩ v6).setCell ⟨w.heap.size + 1, 7, none⟩ v7).setCell ⟨w.heap.size + 1, 8, none⟩ v8).setCell ⟨w.heap.size + 1, 9, none⟩ v9).setCell ⟨w.heap.size + 1, 10, none⟩ v10).setCell ⟨w.heap.size + 1, 11, none⟩ v11).setCell ⟨w.heap.size + 1, 12, none⟩ v12).cell? ⟨w.heap.size, 4, none⟩ = some (.int .i64 p2) ∧ (((((((((((((w'.setCell ⟨w.heap.size + 1, 0, none⟩ v0).setCell ⟨w.heap.size + 1, 1, none⟩ v1).setCell ⟨w.heap.size + 1, 2, none⟩ v2).setCell ⟨w.heap.size + 1, 3, none⟩ v3).setCell ⟨w.heap.size + 1, 4, none⟩ v4).setCell ⟨w.heap.size + 1, 5, none⟩ v5).setCell ⟨w.heap.size + 1, 6, none⟩ v6).setCell ⟨w.heap.size + 1, 7, none⟩ v7).setCell ⟨w.heap.size + 1, 8, none⟩ v8).setCell ⟨w.heap.size + 1, 9, none⟩ v9).setCell ⟨w.heap.size + 1, 10, none⟩ v10).setCell ⟨w.heap.size + 1, 11, none⟩ v11).setCell ⟨w.heap.size + 1, 12, none⟩ v12).cell? ⟨w.heap.size, 5, none⟩ = some (.int .i64 p3) ∧ (((((((((((((w'.setCell ⟨w.heap.size + 1, 0, none⟩ v0).setCell ⟨w.heap.size + 1, 1, none⟩ v1).setCell ⟨w.heap.size + 1, 2, none⟩ v2).setCell ⟨w.heap.size + 1, 3, none⟩ v3).setCell ⟨w.heap.size + 1, 4, none⟩ v4).setCell ⟨w.heap.size + 1, 5, none⟩ v5).setCell ⟨w.heap.size + 1, 6, none⟩ v6).setCell ⟨w.heap.size + 1, 7, none⟩ v7).setCell ⟨w.heap.size + 1, 8, none⟩ v8).setCell ⟨w.heap.size + 1, 9, none⟩ v9).setCell ⟨w.heap.size + 1, 10, none⟩ v10).setCell ⟨w.heap.size + 1, 11, none⟩ v11).setCell ⟨w.heap.size + 1, 12, none⟩ v12).cell? ⟨w.heap.size, 6, none⟩ = some (.int .i64 p4) ∧ (((((((((((((w'.setCell ⟨w.heap.size + 1, 0, none⟩ v0).setCell ⟨w.heap.size + 1, 1, none⟩ v1).setCell ⟨w.heap.size + 1, 2, none⟩ v2).setCell ⟨w.heap.size + 1, 3, none⟩ v3).setCell ⟨w.heap.size + 1, 4, none⟩ v4).setCell ⟨w.heap.size + 1, 5, none⟩ v5).setCell ⟨w.heap.size + 1, 6, none⟩ v6).setCell ⟨w.heap.size + 1, 7, none⟩ v7).setCell ⟨w.heap.size + 1, 8, none⟩ v8).setCell ⟨w.heap.size + 1, 9, none⟩ v9).setCell ⟨w.heap.size + 1, 10, none⟩ v10).setCell ⟨w.heap.size + 1, 11, none⟩ v11).setCell ⟨w.heap.size + 1, 12, none⟩ v12).cell? ⟨w.heap.size, 7, none⟩ = some (.int .i64 p5) ∧ (((((((((((((w'.setCell ⟨w.heap.size + 1, 0, none⟩ v0).setCell ⟨w.heap.size + 1, 1, none⟩ v1).setCell ⟨w.heap.size + 1, 2, none⟩ v2).setCell ⟨w.heap.size + 1, 3, none⟩ v3).setCell ⟨w.heap.size + 1, 4, none⟩ v4).setCell ⟨w.heap.size + 1, 5, none⟩ v5).setCell ⟨w.heap.size + 1, 6, none⟩ v6).setCell ⟨w.heap.size + 1, 7, none⟩ v7).setCell ⟨w.heap.size + 1, 8, none⟩ v8).setCell ⟨w.heap.size + 1, 9, none⟩ v9).setCell ⟨w.heap.size + 1, 10, none⟩ v10).setCell ⟨w.heap.size + 1, 11, none⟩ v11).setCell ⟨w.heap.size + 1, 12, none⟩ v12).cell? ⟨w.heap.size, 8, none⟩ = some (.int .i64 p6) := by
  have e : (((((((((((((w'.setCell ⟨w.heap.size + 1, 0, none⟩ v0).setCell ⟨w.heap.size + 1, 1, none⟩ v1).setCell ⟨w.heap.size + 1, 2, none⟩ v2).setCell ⟨w.heap.size + 1, 3, none⟩ v3).setCell ⟨w.heap.size + 1, 4, none⟩ v4).setCell ⟨w.heap.size + 1, 5, none⟩ v5).setCell ⟨w.heap.size + 1, 6, none⟩ v6).setCell ⟨w.heap.size + 1, 7, none⟩ v7).setCell ⟨w.heap.size + 1, 8, none⟩ v8).setCell ⟨w.heap.size + 1, 9, none⟩ v9).setCell ⟨w.heap.size + 1, 10, none⟩ v10).setCell ⟨w.heap.size + 1, 11, none⟩ v11).setCell ⟨w.heap.size + 1, 12, none⟩ v12) = Go.Proofs.YthjnmnepjeegiaaGreatDoor.putL w' (w.heap.size + 1) 0 [v0, v1, v2, v3, v4, v5, v6, v7, v8, v9, v10, v11, v12] := rfl
  rw [e]
  obtain ⟨k1, _, _, k4, k5, k6, _, k8, _⟩ := h
  have j1 : Ub (Go.Proofs.YthjnmnepjeegiaaGreatDoor.putL w' (w.heap.size + 1) 0 [v0, v1, v2, v3, v4, v5, v6, v7, v8, v9, v10, v11, v12]) w.heap.size F O ⟨p0, p1, p2, p3, p4, p5, p6⟩ := Bk.put_other (C := unC F O ⟨p0, p1, p2, p3, p4, p5, p6⟩) k1 0 _ (by omega)
  have j4 : Rs (Go.Proofs.YthjnmnepjeegiaaGreatDoor.putL w' (w.heap.size + 1) 0 [v0, v1, v2, v3, v4, v5, v6, v7, v8, v9, v10, v11, v12]) h1 (.bool y1) (.slice A1 l1 c1) (.slice A2 l2 c2) 54 := Bk.put_other (C := #[.bool y1, .slice A1 l1 c1, .slice A2 l2 c2]) k4 0 _ (by omega)
  have j5 : Rs (Go.Proofs.YthjnmnepjeegiaaGreatDoor.putL w' (w.heap.size + 1) 0 [v0, v1, v2, v3, v4, v5, v6, v7, v8, v9, v10, v11, v12]) h2 (.bool y2) (.slice A3 l3 c3) (.slice A4 l4 c4) 54 := Bk.put_other (C := #[.bool y2, .slice A3 l3 c3, .slice A4 l4 c4]) k5 0 _ (by omega)
  obtain ⟨_, _, a0, a1, a2, a3, a4, a5, a6⟩ := j1.cells
  obtain ⟨b0, b1, b2⟩ := j4.cells
  obtain ⟨d0, d1, d2⟩ := j5.cells
  exact ⟨b0, b1, b2, d0, d1, d2, a0, a1, a2, a3, a4, a5, a6⟩
theorem noP {Q : Exit → Act → World → Prop} {a : Act} {w : World} (h : Q .normal a w) : NoPanic Q .normal a w := h
theorem hTake {P : Program} {md : Region.Mode} {ops : Array Oper} {Q : Exit → Act → World → Prop} {S : World → Prop} {i : Nat} {d : Option Tmp} {v : Value} {fuel : Nat} {listed : Array Bool} {a : Act} {w : World} (hs : Region.noSelect ops = true) (hf : Region.free md ops listed i = true) (hr : (Region.ready md ops listed).contains i = true)
    (hd : ∀ o, ops[i]? = some o → o.dst = d ∧ YieldsIf P ops S o v a) (he : (ops[i]?).isSome = true) (hQ : ∀ c a w, Q (.panic c) (a.put d v) w → Q (.panic c) a w) (hS : S w) (h : wpAnyH P md ops Q S fuel (listed.setIfInBounds i true) (a.put d v) w) : wpAnyH P md ops Q S (fuel + 1) listed a w := by
  obtain ⟨o, ho⟩ := Option.isSome_iff_exists.1 he
  obtain ⟨h1, h2⟩ := hd o ho
  subst h1
  exact wpAnyH_take ho hs hf hr hQ h2 hS h
theorem drew_cell (W : World) (a : Addr) : W.drew.cell? a = W.cell? a := rfl
theorem KRd.put_drew {w w' : World} {h1 h2 : Nat} {F O : ByteArray} {p0 p1 p2 p3 p4 p5 p6 : Int} {y1 : Bool} {A1 : Option Addr} {l1 c1 : Nat} {A2 : Option Addr} {l2 c2 : Nat} {y2 : Bool} {A3 : Option Addr} {l3 c3 : Nat} {A4 : Option Addr} {l4 c4 : Nat} {qf qo : Rat} (h : KRd w w' h1 h2 F O ⟨p0, p1, p2, p3, p4, p5, p6⟩ y1 A1 l1 c1 A2 l2 c2 y2 A3 l3 c3 A4 l4 c4 qf qo) (v0 v1 v2 v3 v4 v5 v6 v7 v8 v9 v10 v11 v12 : Value) : (((((((((((((w'.setCell ⟨w.heap.size + 1, 0, none⟩ v0).setCell ⟨w.heap.size + 1, 1, none⟩ v1).setCell ⟨w.heap.size + 1, 2, none⟩ v2).setCell ⟨w.heap.size + 1, 3, none⟩ v3).setCell ⟨w.heap.size + 1, 4, none⟩ v4).setCell ⟨w.heap.size + 1, 5, none⟩ v5).setCell ⟨w.heap.size + 1, 6, none⟩ v6).setCell ⟨w.heap.size + 1, 7, none⟩ v7).setCell ⟨w.heap.size + 1, 8, none⟩ v8).setCell ⟨w.heap.size + 1, 9, none⟩ v9).setCell ⟨w.heap.size + 1, 10, none⟩ v10).setCell ⟨w.heap.size + 1, 11, none⟩ v11).setCell ⟨w.heap.size + 1, 12, none⟩ v12).drew.cell? ⟨h1, 0, none⟩ = some (.bool y1) ∧ (((((((((((((w'.setCell ⟨w.heap.size + 1, 0, none⟩ v0).setCell ⟨w.heap.size + 1, 1, none⟩ v1).setCell ⟨w.heap.size + 1, 2, none⟩ v2).setCell ⟨w.heap.size + 1, 3, none⟩ v3).setCell ⟨w.heap.size + 1, 4, none⟩ v4).setCell ⟨w.heap.size + 1, 5, none⟩ v5).setCell ⟨w.heap.size + 1, 6, none⟩ v6).setCell ⟨w.heap.size + 1, 7, none⟩ v7).setCell ⟨w.heap.size + 1, 8, none⟩ v8).setCell ⟨w.heap.size + 1, 9, none⟩ v9).setCell ⟨w.heap.size + 1, 10, none⟩ v10).setCell ⟨w.heap.size + 1, 11, none⟩ v11).setCell ⟨w.heap.size + 1, 12, none⟩ v12).drew.cell? ⟨h1, 1, none⟩ = some (.slice A1 l1 c1) ∧ (((((((((((((w'.setCell ⟨w.heap.size + 1, 0, none⟩ v0).setCell ⟨w.heap.size + 1, 1, none⟩ v1).setCell ⟨w.heap.size + 1, 2, none⟩ v2).setCell ⟨w.heap.size + 1, 3, none⟩ v3).setCell ⟨w.heap.size + 1, 4, none⟩ v4).setCell ⟨w.heap.size + 1, 5, none⟩ v5).setCell ⟨w.heap.size + 1, 6, none⟩ v6).setCell ⟨w.heap.size + 1, 7, none⟩ v7).setCell ⟨w.heap.size + 1, 8, none⟩ v8).setCell ⟨w.heap.size + 1, 9, none⟩ v9).setCell ⟨w.heap.size + 1, 10, none⟩ v10).setCell ⟨w.heap.size + 1, 11, none⟩ v11).setCell ⟨w.heap.size + 1, 12, none⟩ v12).drew.cell? ⟨h1, 2, none⟩ = some (.slice A2 l2 c2) ∧ (((((((((((((w'.setCell ⟨w.heap.size + 1, 0, none⟩ v0).setCell ⟨w.heap.size + 1, 1, none⟩ v1).setCell ⟨w.heap.size + 1, 2, none⟩ v2).setCell ⟨w.heap.size + 1, 3, none⟩ v3).setCell ⟨w.heap.size + 1, 4, none⟩ v4).setCell ⟨w.heap.size + 1, 5, none⟩ v5).setCell ⟨w.heap.size + 1, 6, none⟩ v6).setCell ⟨w.heap.size + 1, 7, none⟩ v7).setCell ⟨w.heap.size + 1, 8, none⟩ v8).setCell ⟨w.heap.size + 1, 9, none⟩ v9).setCell ⟨w.heap.size + 1, 10, none⟩ v10).setCell ⟨w.heap.size + 1, 11, none⟩ v11).setCell ⟨w.heap.size + 1, 12, none⟩ v12).drew.cell? ⟨h2, 0, none⟩ = some (.bool y2) ∧ (((((((((((((w'.setCell ⟨w.heap.size + 1, 0, none⟩ v0).setCell ⟨w.heap.size + 1, 1, none⟩ v1).setCell ⟨w.heap.size + 1, 2, none⟩ v2).setCell ⟨w.heap.size + 1, 3, none⟩ v3).setCell ⟨w.heap.size + 1, 4, none⟩ v4).setCell ⟨w.heap.size + 1, 5, none⟩ v5).setCell ⟨w.heap.size + 1, 6, none⟩ v6).setCell ⟨w.heap.size + 1, 7, none⟩ v7).setCell ⟨w.heap.size + 1, 8, none⟩ v8).setCell ⟨w.heap.size + 1, 9, none⟩ v9).setCell ⟨w.heap.size + 1, 10, none⟩ v10).setCell ⟨w.heap.size + 1, 11, none⟩ v11).setCell ⟨w.heap.size + 1, 12, none⟩ v12).drew.cell? ⟨h2, 1, none⟩ = some (.slice A3 l3 c3) ∧ (((((((((((((w'.setCell ⟨w.heap.size + 1, 0, none⟩ v0).setCell ⟨w.heap.size + 1, 1, none⟩ v1).setCell ⟨w.heap.size + 1, 2, none⟩ v2).setCell ⟨w.heap.size + 1, 3, none⟩ v3).setCell ⟨w.heap.size + 1, 4, none⟩ v4).setCell ⟨w.heap.size + 1, 5, none⟩ v5).setCell ⟨w.heap.size + 1, 6, none⟩ v6).setCell ⟨w.heap.size + 1, 7, none⟩ v7).setCell ⟨w.heap.size + 1, 8, none⟩ v8).setCell ⟨w.heap.size + 1, 9, none⟩ v9).setCell ⟨w.heap.size + 1, 10, none⟩ v10).setCell ⟨w.heap.size + 1, 11, none⟩ v11).setCell ⟨w.heap.size + 1, 12, none⟩ v12).drew.cell? ⟨h2, 2, none⟩ = some (.slice A4 l4 c4) ∧ (((((((((((((w'.setCell ⟨w.heap.size + 1, 0, none⟩ v0).setCell ⟨w.heap.size + 1, 1, none⟩ v1).setCell ⟨w.heap.size + 1, 2, none⟩ v2).setCell ⟨w.heap.size + 1, 3, none⟩ v3).setCell ⟨w.heap.size + 1, 4, none⟩ v4).setCell ⟨w.heap.size + 1, 5, none⟩ v5).setCell ⟨w.heap.size + 1, 6, none⟩ v6).setCell ⟨w.heap.size + 1, 7, none⟩ v7).setCell ⟨w.heap.size + 1, 8, none⟩ v8).setCell ⟨w.heap.size + 1, 9, none⟩ v9).setCell ⟨w.heap.size + 1, 10, none⟩ v10).setCell ⟨w.heap.size + 1, 11, none⟩ v11).setCell ⟨w.heap.size + 1, 12, none⟩ v12).drew.cell? ⟨w.heap.size, 2, none⟩ = some (.int .i64 p0) ∧ (((((((((((((w'.setCell ⟨w.heap.size + 1, 0, none⟩ v0).setCell ⟨w.heap.size + 1, 1, none⟩ v1).setCell ⟨w.heap.size + 1, 2, none⟩ v2).setCell ⟨w.heap.size + 1, 3, none⟩ v3).setCell ⟨w.heap.size + 1, 4, none⟩ v4).setCell ⟨w.heap.size + 1, 5, none⟩ v5).setCell ⟨w.heap.size + 1, 6, none⟩ v6).setCell ⟨w.heap.size + 1, 7, none⟩ v7).setCell ⟨w.heap.size + 1, 8, none⟩ v8).setCell ⟨w.heap.size + 1, 9, none⟩ v9).setCell ⟨w.heap.size + 1, 10, none⟩ v10).setCell ⟨w.heap.size + 1, 11, none⟩ v11).setCell ⟨w.heap.size + 1, 12, none⟩ v12).drew.cell? ⟨w.heap.size, 3, none⟩ = some (.int .i64 p1) ∧ (((((((((((((w'.setCell ⟨w.heap.size + 1, 0, none⟩ v0).setCell ⟨w.heap.size + 1, 1, none⟩ v1).setCell ⟨w.heap.size + 1, 2, none⟩ v2).setCell ⟨w.heap.size + 1, 3, none⟩ v3).setCell ⟨w.heap.size + 1, 4, none⟩ v4).setCell ⟨w.heap.size + 1, 5, none⟩ v5).setCell ⟨w.heap.size + 1, 6, none⟩ v6).setCell ⟨w.heap.size + 1, 7, none⟩ v7).setCell ⟨w.heap.size + 1, 8, none⟩ v8).setCell ⟨w.heap.size + 1, 9, none⟩ v9).setCell ⟨w.heap.size + 1, 10, none⟩ v10).setCell ⟨w.heap.size + 1, 11, none⟩ v11).setCell ⟨w.heap.size + 1, 12, none⟩ v12).drew.cell? ⟨w.heap.size, 4, none⟩ = some (.int .i64 p2) ∧ (((((((((((((w'.setCell ⟨w.heap.size + 1, 0, none⟩ v0).setCell ⟨w.heap.size + 1, 1, none⟩ v1).setCell ⟨w.heap.size + 1, 2, none⟩ v2).setCell ⟨w.heap.size + 1, 3, none⟩ v3).setCell ⟨w.heap.size + 1, 4, none⟩ v4).setCell ⟨w.heap.size + 1, 5, none⟩ v5).setCell ⟨w.heap.size + 1, 6, none⟩ v6).setCell ⟨w.heap.size + 1, 7, none⟩ v7).setCell ⟨w.heap.size + 1, 8, none⟩ v8).setCell ⟨w.heap.size + 1, 9, none⟩ v9).setCell ⟨w.heap.size + 1, 10, none⟩ v10).setCell ⟨w.heap.size + 1, 11, none⟩ v11).setCell ⟨w.heap.size + 1, 12, none⟩ v12).drew.cell? ⟨w.heap.size, 5, none⟩ = some (.int .i64 p3) ∧ (((((((((((((w'.setCell ⟨w.heap.size + 1, 0, none⟩ v0).setCell ⟨w.heap.size + 1, 1, none⟩ v1).setCell ⟨w.heap.size + 1, 2, none⟩ v2).setCell ⟨w.heap.size + 1, 3, none⟩ v3).setCell ⟨w.heap.size + 1, 4, none⟩ v4).setCell ⟨w.heap.size + 1, 5, none⟩ v5).setCell ⟨w.heap.size + 1, 6, none⟩ v6).setCell ⟨w.heap.size + 1, 7, none⟩ v7).setCell ⟨w.heap.size + 1, 8, none⟩ v8).setCell ⟨w.heap.size + 1, 9, none⟩ v9).setCell ⟨w.heap.size + 1, 10, none⟩ v10).setCell ⟨w.heap.size + 1, 11, none⟩ v11).setCell ⟨w.heap.size + 1, 12, none⟩ v12).drew.cell? ⟨w.heap.size, 6, none⟩ = some (.int .i64 p4) ∧ (((((((((((((w'.setCell ⟨w.heap.size + 1, 0, none⟩ v0).setCell ⟨w.heap.size + 1, 1, none⟩ v1).setCell ⟨w.heap.size + 1, 2, none⟩ v2).setCell ⟨w.heap.size + 1, 3, none⟩ v3).setCell ⟨w.heap.size + 1, 4, none⟩ v4).setCell ⟨w.heap.size + 1, 5, none⟩ v5).setCell ⟨w.heap.size + 1, 6, none⟩ v6).setCell ⟨w.heap.size + 1, 7, none⟩ v7).setCell ⟨w.heap.size + 1, 8, none⟩ v8).setCell ⟨w.heap.size + 1, 9, none⟩ v9).setCell ⟨w.heap.size + 1, 10, none⟩ v10).setCell ⟨w.heap.size + 1, 11, none⟩ v11).setCell ⟨w.heap.size + 1, 12, none⟩ v12).drew.cell? ⟨w.heap.size, 7, none⟩ = some (.int .i64 p5) ∧ (((((((((((((w'.setCell ⟨w.heap.size + 1, 0, none⟩ v0).setCell ⟨w.heap.size + 1, 1, none⟩ v1).setCell ⟨w.heap.size + 1, 2, none⟩ v2).setCell ⟨w.heap.size + 1, 3, none⟩ v3).setCell ⟨w.heap.size + 1, 4, none⟩ v4).setCell ⟨w.heap.size + 1, 5, none⟩ v5).setCell ⟨w.heap.size + 1, 6, none⟩ v6).setCell ⟨w.heap.size + 1, 7, none⟩ v7).setCell ⟨w.heap.size + 1, 8, none⟩ v8).setCell ⟨w.heap.size + 1, 9, none⟩ v9).setCell ⟨w.heap.size + 1, 10, none⟩ v10).setCell ⟨w.heap.size + 1, 11, none⟩ v11).setCell ⟨w.heap.size + 1, 12, none⟩ v12).drew.cell? ⟨w.heap.size, 8, none⟩ = some (.int .i64 p6) := by
  simp only [drew_cell]
  exact h.put v0 v1 v2 v3 v4 v5 v6 v7 v8 v9 v10 v11 v12
theorem ReadS.drew {F O : List UInt8} {p : P7} {w w' : World} {e : Ending} (h : ReadS F O p w e w') : ReadS F O p w e w'.drew := by
  obtain ⟨y1, A1, l1, c1, A2, l2, c2, y2, A3, l3, c3, A4, l4, c4, qf, qo, h1, h2, h3, h4, h5⟩ := h
  have b := Below.drew (Below.refl w'.heap.size w')
  exact ⟨y1, A1, l1, c1, A2, l2, c2, y2, A3, l3, c3, A4, l4, c4, qf, qo, h1, btrans h2 b, h3.up b, h4.up b, h5⟩
theorem sc_cells {w : World} {g : Nat} {t : TypeId} (h : Bk w g sc0C t) : w.cell? ⟨g, 0, none⟩ = some (.bool false) ∧ w.cell? ⟨g, 1, none⟩ = some (.slice none 0 0) ∧ w.cell? ⟨g, 2, none⟩ = some (.slice none 0 0) ∧ w.cell? ⟨g, 3, none⟩ = some (.bool false) ∧ w.cell? ⟨g, 4, none⟩ = some (.slice none 0 0) ∧ w.cell? ⟨g, 5, none⟩ = some (.slice none 0 0) ∧ w.cell? ⟨g, 6, none⟩ = some (.int .i64 0) ∧ w.cell? ⟨g, 7, none⟩ = some (.int .i64 0) ∧ w.cell? ⟨g, 8, none⟩ = some (.int .i64 0) ∧ w.cell? ⟨g, 9, none⟩ = some (.int .i64 0) ∧ w.cell? ⟨g, 10, none⟩ = some (.int .i64 0) ∧ w.cell? ⟨g, 11, none⟩ = some (.int .i64 0) ∧ w.cell? ⟨g, 12, none⟩ = some (.int .i64 0) :=
  ⟨h.cell 0, h.cell 1, h.cell 2, h.cell 3, h.cell 4, h.cell 5, h.cell 6, h.cell 7, h.cell 8, h.cell 9, h.cell 10, h.cell 11, h.cell 12⟩

end Go.Proofs.YthjnmnepjeegiaaGreatDoor

/- Units of the program: Times, Over, Same. -/
namespace Go.Proofs.YthjnmnepjeegiaaGreatDoor
open Go.RowKit Go.Proofs.YthjnmnepjeegiaaGreatDoor.Dg Go.Proofs.YthjnmnepjeegiaaGreatDoor.Q Go.Proofs.YthjnmnepjeegiaaGreatDoor.Num

/-- Equal units. -/
def sameU (F O : List UInt8) (p : P7) (F' O' : List UInt8) (p' : P7) : Bool := vU F O p && decide (F = F' ∧ O = O' ∧ p = p')

end Go.Proofs.YthjnmnepjeegiaaGreatDoor

/- Units of the program: Power. -/
namespace Go.Proofs.YthjnmnepjeegiaaGreatDoor
open Go.RowKit Go.Proofs.YthjnmnepjeegiaaGreatDoor.Dg Go.Proofs.YthjnmnepjeegiaaGreatDoor.Q Go.Proofs.YthjnmnepjeegiaaGreatDoor.Num

def P7.times (p : P7) (n : Int) : P7 := ⟨p.a * n, p.b * n, p.c * n, p.d * n, p.e * n, p.f * n, p.g * n⟩
/-- What Power gives. -/
def unP (F O : List UInt8) (p : P7) (n : Int) : Un × Int :=
  if plainU F O p = true then (if -12 ≤ n ∧ n ≤ 12 then match num? F with
    | some f => unJ (f ^ n) (p.times n)
    | none => (Un.none, 10)
  else (Un.none, 2)) else (Un.none, 10)
/-- The world of Power: a box and a result. -/
def KE (w w' : World) (F O : ByteArray) (p : P7) : Prop := Ub w' w.heap.size F O p ∧ Bk w' (w.heap.size + 1) u0C 24 ∧ Below w.heap.size w w'
theorem KE.b {w w' : World} {F O : ByteArray} {p : P7} (h : KE w w' F O p) : Below w.heap.size w w' := h.2.2
theorem KE.up {w w1 w2 : World} {F O : ByteArray} {p : P7} (h : KE w w1 F O p) (hb : Below w1.heap.size w1 w2) : KE w w2 F O p := ⟨h.1.up hb, h.2.1.up hb, btrans h.2.2 hb⟩
theorem KE.start (w : World) (F O : ByteArray) (p : P7) : KE w ((w.alloc (.cells (unC F O p) 24)).alloc (.cells u0C 24)) F O p := by
  have s1 : (w.alloc (.cells (unC F O p) 24)).heap.size = w.heap.size + 1 := by simp
  refine ⟨(Bk.new w _ _).alloc, ?_, ((Below.refl _ w).alloc (Nat.le_refl _) _).alloc (by rw [s1]; omega) _⟩
  have := Bk.new (w.alloc (.cells (unC F O p) 24)) u0C 24
  rw [s1] at this
  exact this
/-- The world of Power behind its loop. -/
def KG (w w' : World) (F O : ByteArray) (r : P7) (g8 : Nat) (a0 a1 a2 : Value) : Prop := Ub w' w.heap.size F O r ∧ Bk w' (w.heap.size + 1) u0C 24 ∧ Bk w' g8 #[a0, a1, a2] 41 ∧ Below w.heap.size w w' ∧ w.heap.size + 1 < g8
theorem KG.b {w w' : World} {F O : ByteArray} {r : P7} {g8 : Nat} {a0 a1 a2 : Value} (h : KG w w' F O r g8 a0 a1 a2) : Below w.heap.size w w' := h.2.2.2.1
theorem KG.up {w w1 w2 : World} {F O : ByteArray} {r : P7} {g8 : Nat} {a0 a1 a2 : Value} (h : KG w w1 F O r g8 a0 a1 a2) (hb : Below w1.heap.size w1 w2) : KG w w2 F O r g8 a0 a1 a2 :=
  ⟨h.1.up hb, h.2.1.up hb, h.2.2.1.up hb, btrans h.b hb, h.2.2.2.2⟩
theorem KG.limbs {w w' : World} {F O : ByteArray} {r : P7} {g8 : Nat} {a0 a1 a2 : Value} (h : KG w w' F O r g8 a0 a1 a2) : w'.cell? ⟨w.heap.size, 2, none⟩ = some (.int .i64 r.a) ∧ w'.cell? ⟨w.heap.size, 3, none⟩ = some (.int .i64 r.b) ∧ w'.cell? ⟨w.heap.size, 4, none⟩ = some (.int .i64 r.c) ∧ w'.cell? ⟨w.heap.size, 5, none⟩ = some (.int .i64 r.d) ∧ w'.cell? ⟨w.heap.size, 6, none⟩ = some (.int .i64 r.e) ∧ w'.cell? ⟨w.heap.size, 7, none⟩ = some (.int .i64 r.f) ∧ w'.cell? ⟨w.heap.size, 8, none⟩ = some (.int .i64 r.g) ∧ w'.cell? ⟨g8, 0, none⟩ = some a0 ∧ w'.cell? ⟨g8, 1, none⟩ = some a1 ∧ w'.cell? ⟨g8, 2, none⟩ = some a2 := by
  obtain ⟨_, _, c2, c3, c4, c5, c6, c7, c8⟩ := h.1.cells
  exact ⟨c2, c3, c4, c5, c6, c7, c8, h.2.2.1.cell 0, h.2.2.1.cell 1, h.2.2.1.cell 2⟩
theorem KG.limbs_put {w w1 : World} {F O : ByteArray} {r : P7} {g8 : Nat} {a0 a1 a2 v0 v1 v2 v3 v4 v5 v6 v7 v8 : Value} (h : KG w w1 F O r g8 a0 a1 a2) : (((((((((w1.setCell ⟨w.heap.size + 1, 0, none⟩ v0).setCell ⟨w.heap.size + 1, 1, none⟩ v1).setCell ⟨w.heap.size + 1, 2, none⟩ v2).setCell ⟨w.heap.size + 1, 3, none⟩ v3).setCell ⟨w.heap.size + 1, 4, none⟩ v4).setCell ⟨w.heap.size + 1, 5, none⟩ v5).setCell ⟨w.heap.size + 1, 6, none⟩ v6).setCell ⟨w.heap.size + 1, 7, none⟩ v7).setCell ⟨w.heap.size + 1, 8, none⟩ v8).cell? ⟨w.heap.size, 2, none⟩ = some (.int .i64 r.a) ∧ (((((((((w1.setCell ⟨w.heap.size + 1, 0, none⟩ v0).setCell ⟨w.heap.size + 1, 1, none⟩ v1).setCell ⟨w.heap.size + 1, 2, none⟩ v2).setCell ⟨w.heap.size + 1, 3, none⟩ v3).setCell ⟨w.heap.size + 1, 4, none⟩ v4).setCell ⟨w.heap.size + 1, 5, none⟩ v5).setCell ⟨w.heap.size + 1, 6, none⟩ v6).setCell ⟨w.heap.size + 1, 7, none⟩ v7).setCell ⟨w.heap.size + 1, 8, none⟩ v8).cell? ⟨w.heap.size, 3, none⟩ = some (.int .i64 r.b) ∧ (((((((((w1.setCell ⟨w.heap.size + 1, 0, none⟩ v0).setCell ⟨w.heap.size + 1, 1, none⟩ v1).setCell ⟨w.heap.size + 1, 2, none⟩ v2).setCell ⟨w.heap.size + 1, 3, none⟩ v3).setCell ⟨w.heap.size + 1, 4, none⟩ v4).setCell ⟨w.heap.size + 1, 5, none⟩ v5).setCell ⟨w.heap.size + 1, 6, none⟩ v6).setCell ⟨w.heap.size + 1, 7, none⟩ v7).setCell ⟨w.heap.size + 1, 8, none⟩ v8).cell? ⟨w.heap.size, 4, none⟩ = some (.int .i64 r.c) ∧ (((((((((w1.setCell ⟨w.heap.size + 1, 0, none⟩ v0).setCell ⟨w.heap.size + 1, 1, none⟩ v1).setCell ⟨w.heap.size + 1, 2, none⟩ v2).setCell ⟨w.heap.size + 1, 3, none⟩ v3).setCell ⟨w.heap.size + 1, 4, none⟩ v4).setCell ⟨w.heap.size + 1, 5, none⟩ v5).setCell ⟨w.heap.size + 1, 6, none⟩ v6).setCell ⟨w.heap.size + 1, 7, none⟩ v7).setCell ⟨w.heap.size + 1, 8, none⟩ v8).cell? ⟨w.heap.size, 5, none⟩ = some (.int .i64 r.d) ∧ (((((((((w1.setCell ⟨w.heap.size + 1, 0, none⟩ v0).setCell ⟨w.heap.size + 1, 1, none⟩ v1).setCell ⟨w.heap.size + 1, 2, none⟩ v2).setCell ⟨w.heap.size + 1, 3, none⟩ v3).setCell ⟨w.heap.size + 1, 4, none⟩ v4).setCell ⟨w.heap.size + 1, 5, none⟩ v5).setCell ⟨w.heap.size + 1, 6, none⟩ v6).setCell ⟨w.heap.size + 1, 7, none⟩ v7).setCell ⟨w.heap.size + 1, 8, none⟩ v8).cell? ⟨w.heap.size, 6, none⟩ = some (.int .i64 r.e) ∧ (((((((((w1.setCell ⟨w.heap.size + 1, 0, none⟩ v0).setCell ⟨w.heap.size + 1, 1, none⟩ v1).setCell ⟨w.heap.size + 1, 2, none⟩ v2).setCell ⟨w.heap.size + 1, 3, none⟩ v3).setCell ⟨w.heap.size + 1, 4, none⟩ v4).setCell ⟨w.heap.size + 1, 5, none⟩ v5).setCell ⟨w.heap.size + 1, 6, none⟩ v6).setCell ⟨w.heap.size + 1, 7, none⟩ v7).setCell ⟨w.heap.size + 1, 8, none⟩ v8).cell? ⟨w.heap.size, 7, none⟩ = some (.int .i64 r.f) ∧ (((((((((w1.setCell ⟨w.heap.size + 1, 0, none⟩ v0).setCell ⟨w.heap.size + 1, 1, none⟩ v1).setCell ⟨w.heap.size + 1, 2, none⟩ v2).setCell ⟨w.heap.size + 1, 3, none⟩ v3).setCell ⟨w.heap.size + 1, 4, none⟩ v4).setCell ⟨w.heap.size + 1, 5, none⟩ v5).setCell ⟨w.heap.size + 1, 6, none⟩ v6).setCell ⟨w.heap.size + 1, 7, none⟩ v7).setCell ⟨w.heap.size + 1, 8, none⟩ v8).cell? ⟨w.heap.size, 8, none⟩ = some (.int .i64 r.g) ∧ (((((((((w1.setCell ⟨w.heap.size + 1, 0, none⟩ v0).setCell ⟨w.heap.size + 1, 1, none⟩ v1).setCell ⟨w.heap.size + 1, 2, none⟩ v2).setCell ⟨w.heap.size + 1, 3, none⟩ v3).setCell ⟨w.heap.size + 1, 4, none⟩ v4).setCell ⟨w.heap.size + 1, 5, none⟩ v5).setCell ⟨w.heap.size + 1, 6, none⟩ v6).setCell ⟨w.heap.size + 1, 7, none⟩ v7).setCell ⟨w.heap.size + 1, 8, none⟩ v8).cell? ⟨g8, 0, none⟩ = some a0 ∧ (((((((((w1.setCell ⟨w.heap.size + 1, 0, none⟩ v0).setCell ⟨w.heap.size + 1, 1, none⟩ v1).setCell ⟨w.heap.size + 1, 2, none⟩ v2).setCell ⟨w.heap.size + 1, 3, none⟩ v3).setCell ⟨w.heap.size + 1, 4, none⟩ v4).setCell ⟨w.heap.size + 1, 5, none⟩ v5).setCell ⟨w.heap.size + 1, 6, none⟩ v6).setCell ⟨w.heap.size + 1, 7, none⟩ v7).setCell ⟨w.heap.size + 1, 8, none⟩ v8).cell? ⟨g8, 1, none⟩ = some a1 ∧ (((((((((w1.setCell ⟨w.heap.size + 1, 0, none⟩ v0).setCell ⟨w.heap.size + 1, 1, none⟩ v1).setCell ⟨w.heap.size + 1, 2, none⟩ v2).setCell ⟨w.heap.size + 1, 3, none⟩ v3).setCell ⟨w.heap.size + 1, 4, none⟩ v4).setCell ⟨w.heap.size + 1, 5, none⟩ v5).setCell ⟨w.heap.size + 1, 6, none⟩ v6).setCell ⟨w.heap.size + 1, 7, none⟩ v7).setCell ⟨w.heap.size + 1, 8, none⟩ v8).cell? ⟨g8, 2, none⟩ = some a2 := by
  have k1 : Ub (putL w1 (w.heap.size + 1) 0 [v0, v1, v2, v3, v4, v5, v6, v7, v8]) w.heap.size F O r := Bk.put_other (C := unC F O r) h.1 0 _ (by omega)
  have k2 := h.2.2.1.put_other 0 [v0, v1, v2, v3, v4, v5, v6, v7, v8] (Nat.ne_of_gt h.2.2.2.2)
  obtain ⟨_, _, c2, c3, c4, c5, c6, c7, c8⟩ := k1.cells
  exact ⟨c2, c3, c4, c5, c6, c7, c8, k2.cell 0, k2.cell 1, k2.cell 2⟩
theorem KG.drew {w w1 : World} {F O : ByteArray} {r : P7} {g8 : Nat} {a0 a1 a2 : Value} (h : KG w w1 F O r g8 a0 a1 a2) : KG w w1.drew F O r g8 a0 a1 a2 := h.up (Below.drew (Below.refl _ _))

end Go.Proofs.YthjnmnepjeegiaaGreatDoor

/- Plain laws: what the reference's give, product and Power give. -/
namespace Go.Proofs.YthjnmnepjeegiaaGreatDoor
open Go.Proofs.YthjnmnepjeegiaaGreatDoor.Dg Go.Proofs.YthjnmnepjeegiaaGreatDoor.Q Go.Proofs.YthjnmnepjeegiaaGreatDoor.Num

/-- What give gives. -/
def gvU (q o : Rat) (p : P7) : Un × Int := if short q = true ∧ short o = true ∧ p.l.all wi = true then (⟨txt q, txt o, p⟩, 0) else (Un.none, 4)
theorem gv_unJ {q : Rat} (hq : 0 < q) (p : P7) : gvU q 0 p = unJ q p := by
  have h0 : short 0 = true := (num_iff.1 num_zero).2
  unfold gvU unJ vU
  rw [txt_zero, num_zero]
  cases hs : short q
  · have e : put q = [] := by unfold put; rw [if_neg (by rw [hs]; decide)]
    rw [e, num_nil, if_neg (fun h => by cases h.1), if_neg (by simp)]
  · rw [num_put hs, show put q = txt q from by unfold put; rw [if_pos hs], h0]
    cases p.l.all wi
    · rfl
    · simp [hq]
theorem unC2_gv {F O F' O' : List UInt8} {p p' : P7} {n : Int} {f g : Rat} (h1 : plainU F O p = true) (h2 : plainU F' O' p' = true) (h3 : num? F = some f) (h4 : num? F' = some g) : unC2 F O p F' O' p' n = gvU (f * g ^ n) 0 (p.plus n p') := by
  obtain ⟨_, e1, e2, _⟩ := plainU_parts h1
  obtain ⟨_, e3, e4, _⟩ := plainU_parts h2
  rw [h3] at e1; injection e1 with e1; subst e1
  rw [h4] at e3; injection e3 with e3; subst e3
  rw [gv_unJ (Rat.mul_pos e2 (Rat.zpow_pos e4))]
  unfold unC2
  rw [if_pos ⟨h1, h2⟩, h3, h4]
theorem unC2_no1 {F O F' O' : List UInt8} {p p' : P7} {n : Int} (h : plainU F O p = false) : unC2 F O p F' O' p' n = (Un.none, 10) := by
  unfold unC2
  rw [if_neg (fun k => by rw [h] at k; cases k.1)]
theorem unC2_no2 {F O F' O' : List UInt8} {p p' : P7} {n : Int} (h : plainU F' O' p' = false) : unC2 F O p F' O' p' n = (Un.none, 10) := by
  unfold unC2
  rw [if_neg (fun k => by rw [h] at k; cases k.2)]
/-- Powers of no unit. -/
def p70 : P7 := ⟨0, 0, 0, 0, 0, 0, 0⟩
theorem plain_one : plainU [49] [48] p70 = true := by decide +kernel
theorem num_one : num? [49] = some 1 := by decide +kernel
theorem unP_prod {F O : List UInt8} {p : P7} {n : Int} (h : plainU F O p = true) (hn : -12 ≤ n ∧ n ≤ 12) : unP F O p n = unC2 [49] [48] p70 F O p n := by
  obtain ⟨f, h1, h2, h3⟩ := plainU_parts h
  unfold unP unC2
  rw [if_pos h, if_pos hn, if_pos ⟨plain_one, h⟩, num_one, h1]
  simp only
  rw [Rat.one_mul]
  congr 1
  cases p
  simp only [P7.times, P7.plus, p70, Int.zero_add, Int.mul_comm]
theorem unP_no {F O : List UInt8} {p : P7} {n : Int} (h : plainU F O p = false) : unP F O p n = (Un.none, 10) := by
  unfold unP
  rw [if_neg (fun k => by rw [h] at k; cases k)]
theorem unP_arg {F O : List UInt8} {p : P7} {n : Int} (h : plainU F O p = true) (hn : wi n = false) : unP F O p n = (Un.none, 2) := by
  unfold unP
  rw [if_pos h, if_neg (fun k => by rw [wi_iff.2 k] at hn; cases hn)]
theorem plainU_vU {F O : List UInt8} {p : P7} (h : plainU F O p = true) : vU F O p = true := by
  unfold plainU at h
  rw [Bool.and_eq_true] at h
  exact h.1
end Go.Proofs.YthjnmnepjeegiaaGreatDoor

/- Units of the reference: ValidUnit, Plain, Same. -/
namespace Go.Proofs.YthjnmnepjeegiaaGreatDoor
open Go.RowKit Go.Proofs.YthjnmnepjeegiaaGreatDoor.Dg Go.Proofs.YthjnmnepjeegiaaGreatDoor.Q Go.Proofs.YthjnmnepjeegiaaGreatDoor.Num

end Go.Proofs.YthjnmnepjeegiaaGreatDoor

/- Units of the reference: give. -/
namespace Go.Proofs.YthjnmnepjeegiaaGreatDoor
open Go.RowKit Go.Proofs.YthjnmnepjeegiaaGreatDoor.Dg Go.Proofs.YthjnmnepjeegiaaGreatDoor.Q Go.Proofs.YthjnmnepjeegiaaGreatDoor.Num

/-- The box of a unit with exact parts, and the result. -/
def KGv (w w' : World) (C : Array Value) : Prop := Bk w' w.heap.size C 62 ∧ Bk w' (w.heap.size + 1) u0C 24 ∧ Below w.heap.size w w'
theorem KGv.up {w w1 w2 : World} {C : Array Value} (h : KGv w w1 C) (hb : Below w1.heap.size w1 w2) : KGv w w2 C := ⟨h.1.up hb, h.2.1.up hb, btrans h.2.2 hb⟩
theorem KGv.b {w w1 : World} {C : Array Value} (h : KGv w w1 C) : Below w.heap.size w w1 := h.2.2
theorem KGv.start (w : World) (C : Array Value) : KGv w ((w.alloc (.cells C 62)).alloc (.cells u0C 24)) C := by
  have s1 : (w.alloc (.cells C 62)).heap.size = w.heap.size + 1 := by simp
  refine ⟨(Bk.new w _ _).alloc, ?_, ((Below.refl _ w).alloc (Nat.le_refl _) _).alloc (by rw [s1]; omega) _⟩
  have := Bk.new (w.alloc (.cells C 62)) u0C 24
  rw [s1] at this
  exact this

set_option maxRecDepth 100000 in
set_option maxHeartbeats 12800000 in
theorem rgive_any (y1 y2 : Bool) (A1 A2 A3 A4 : Option Addr) (l1 c1 l2 c2 l3 c3 l4 c4 : Nat) (p0 p1 p2 p3 p4 p5 p6 : Int) (qf qo : Rat) (w : World) (h1 : Qr w (.agg #[.bool y1, .slice A1 l1 c1, .slice A2 l2 c2]) qf) (h2 : Qr w (.agg #[.bool y2, .slice A3 l3 c3, .slice A4 l4 c4]) qo) (s1 : sz qf ≤ 700000) (s2 : sz qo ≤ 700000) :
    Calls Tryz.prog 16 #[.agg #[.bool y1, .slice A1 l1 c1, .slice A2 l2 c2, .bool y2, .slice A3 l3 c3, .slice A4 l4 c4, .int .i64 p0, .int .i64 p1, .int .i64 p2, .int .i64 p3, .int .i64 p4, .int .i64 p5, .int .i64 p6]] w (GiveU w (gvU qf qo ⟨p0, p1, p2, p3, p4, p5, p6⟩)) := by
  have T1 := fun w' (hb : Below w.heap.size w w') => rtextq_any _ qf w' (h1.up hb) s1
  have T2 := fun w' (hb : Below w.heap.size w w') => rtextq_any _ qo w' (h2.up hb) s2
  have WI := fun n w' => rwithin_any n w'
  have k0 := Lib.hid (KGv.start w #[.bool y1, .slice A1 l1 c1, .slice A2 l2 c2, .bool y2, .slice A3 l3 c3, .slice A4 l4 c4, .int .i64 p0, .int .i64 p1, .int .i64 p2, .int .i64 p3, .int .i64 p4, .int .i64 p5, .int .i64 p6])
  unfold u0C at k0
  have HV : Hid ((P7.upto ⟨p0, p1, p2, p3, p4, p5, p6⟩ (short qf) 7 = false → gvU qf qo ⟨p0, p1, p2, p3, p4, p5, p6⟩ = (Un.none, 4)) ∧ (short qo = false → gvU qf qo ⟨p0, p1, p2, p3, p4, p5, p6⟩ = (Un.none, 4)) ∧ (P7.upto ⟨p0, p1, p2, p3, p4, p5, p6⟩ (short qf) 7 = true → short qo = true → gvU qf qo ⟨p0, p1, p2, p3, p4, p5, p6⟩ = (⟨put qf, put qo, ⟨p0, p1, p2, p3, p4, p5, p6⟩⟩, 0))) := by
    refine ⟨fun h => ?_, fun h => ?_, fun h h' => ?_⟩ <;> unfold gvU
    · rw [if_neg]
      rintro ⟨a, _, b⟩
      unfold P7.upto at h
      rw [a] at h
      rw [show (P7.l ⟨p0, p1, p2, p3, p4, p5, p6⟩).take 7 = P7.l ⟨p0, p1, p2, p3, p4, p5, p6⟩ from rfl, b] at h
      cases h
    · rw [if_neg (fun k => by rw [h] at k; cases k.2.1)]
    · unfold P7.upto at h
      rw [show (P7.l ⟨p0, p1, p2, p3, p4, p5, p6⟩).take 7 = P7.l ⟨p0, p1, p2, p3, p4, p5, p6⟩ from rfl, Bool.and_eq_true] at h
      rw [if_pos ⟨h.1, h', h.2⟩]
      unfold put
      rw [if_pos h.1, if_pos h']
  have U0 : ∀ x, Hid ((⟨p0, p1, p2, p3, p4, p5, p6⟩ : P7).upto x 0 = x) := fun x => Bool.and_true x
  clear h1 h2 s1 s2
  have UX := U0 (short qf)
  generalize short qf = x0 at *
  generalize short qo = x1 at *
  obtain ⟨TF, hTF⟩ : ∃ T : ByteArray, (⟨(put qf).toArray⟩ : ByteArray) = T := ⟨_, rfl⟩
  obtain ⟨TO, hTO⟩ : ∃ T : ByteArray, (⟨(put qo).toArray⟩ : ByteArray) = T := ⟨_, rfl⟩
  rw [hTF] at T1
  rw [hTO] at T2
  have HTF := Lib.hid hTF
  have HTO := Lib.hid hTO
  clear hTF hTO
  generalize gvU qf qo ⟨p0, p1, p2, p3, p4, p5, p6⟩ = R at *
  go_enter Tryz.func16, Tryz.ntmps16
  go_wp2_with (first
    | (go_at_call 36; ((with_reducible refine (T2 _ k1.out.b).mono ?_); rintro e w2 ⟨rfl, hb⟩; have k2 := Lib.hid (k1.out.up hb); obtain ⟨c0, c1, c2, c3, c4, c5, c6, c7, c8, c9, c10, c11, c12⟩ := cells13 k2.out.1; clear hb))
    | (go_at_call 36; go_loud ((with_reducible refine (T1 _ k0.out.b).mono ?_); rintro e w1 ⟨rfl, hb⟩; have k1 := Lib.hid (k0.out.up hb); obtain ⟨c0, c1, c2, c3, c4, c5, c6, c7, c8, c9, c10, c11, c12⟩ := cells13 k1.out.1; clear hb)))
  clear k0 k1 T1 T2
  go_loopw [5, 24] (fun ok i wr => ∃ k : Nat, k ≤ 7 ∧ i = .int .i64 (k : Int) ∧ (∃ x, ok = .bool x ∧ Hid (P7.upto ⟨p0, p1, p2, p3, p4, p5, p6⟩ x0 k = x)) ∧ w2 = wr) (fun _ i _ => (7 - intOf i).toNat)
  case atStart => exact ⟨0, by omega, rfl, ⟨_, rfl, UX⟩, rfl⟩
  case round =>
    obtain ⟨k, hk, ei, ⟨x, rfl, hx⟩, rfl⟩ := hrel
    rcases (show k = 0 ∨ k = 1 ∨ k = 2 ∨ k = 3 ∨ k = 4 ∨ k = 5 ∨ k = 6 ∨ k = 7 by omega) with rfl | rfl | rfl | rfl | rfl | rfl | rfl | rfl
    all_goals clear hk U0 UX
    · have ej : _ = Value.int .i64 0 := ei
      subst ej
      have ix := fun w => (Tryz.ix7 (.int .i64 p0) (.int .i64 p1) (.int .i64 p2) (.int .i64 p3) (.int .i64 p4) (.int .i64 p5) (.int .i64 p6) w).1
      have hk7 : P7.l ⟨p0, p1, p2, p3, p4, p5, p6⟩ = [p0, p1, p2, p3, p4, p5, p6] := rfl
      try clear ei
      cases x
      · clear hk7
        go_wp2
        go_roundw
        case rel => exact ⟨1, by omega, by go_num, ⟨false, rfl, P7.upto_no hx.out⟩, by first | rfl | trivial⟩
        case measure => simp [intOf]
      · have HU9 := Lib.hid (P7.upto_at (x := p0) hx.out (by rw [hk7]; rfl))
        clear hk7 HV
        go_wp2_with (go_at_call 15; go_loud ((with_reducible refine (WI _ _).mono ?_); rintro e w' ⟨rfl, rfl⟩))
        go_roundw
        case rel => exact ⟨1, by omega, by go_num, ⟨wi p0, rfl, HU9⟩, by first | rfl | trivial⟩
        case measure => simp [intOf]
    · have ej : _ = Value.int .i64 1 := ei
      subst ej
      have ix := fun w => (Tryz.ix7 (.int .i64 p0) (.int .i64 p1) (.int .i64 p2) (.int .i64 p3) (.int .i64 p4) (.int .i64 p5) (.int .i64 p6) w).2.1
      have hk7 : P7.l ⟨p0, p1, p2, p3, p4, p5, p6⟩ = [p0, p1, p2, p3, p4, p5, p6] := rfl
      try clear ei
      cases x
      · clear hk7
        go_wp2
        go_roundw
        case rel => exact ⟨2, by omega, by go_num, ⟨false, rfl, P7.upto_no hx.out⟩, by first | rfl | trivial⟩
        case measure => simp [intOf]
      · have HU9 := Lib.hid (P7.upto_at (x := p1) hx.out (by rw [hk7]; rfl))
        clear hk7 HV
        go_wp2_with (go_at_call 15; go_loud ((with_reducible refine (WI _ _).mono ?_); rintro e w' ⟨rfl, rfl⟩))
        go_roundw
        case rel => exact ⟨2, by omega, by go_num, ⟨wi p1, rfl, HU9⟩, by first | rfl | trivial⟩
        case measure => simp [intOf]
    · have ej : _ = Value.int .i64 2 := ei
      subst ej
      have ix := fun w => (Tryz.ix7 (.int .i64 p0) (.int .i64 p1) (.int .i64 p2) (.int .i64 p3) (.int .i64 p4) (.int .i64 p5) (.int .i64 p6) w).2.2.1
      have hk7 : P7.l ⟨p0, p1, p2, p3, p4, p5, p6⟩ = [p0, p1, p2, p3, p4, p5, p6] := rfl
      try clear ei
      cases x
      · clear hk7
        go_wp2
        go_roundw
        case rel => exact ⟨3, by omega, by go_num, ⟨false, rfl, P7.upto_no hx.out⟩, by first | rfl | trivial⟩
        case measure => simp [intOf]
      · have HU9 := Lib.hid (P7.upto_at (x := p2) hx.out (by rw [hk7]; rfl))
        clear hk7 HV
        go_wp2_with (go_at_call 15; go_loud ((with_reducible refine (WI _ _).mono ?_); rintro e w' ⟨rfl, rfl⟩))
        go_roundw
        case rel => exact ⟨3, by omega, by go_num, ⟨wi p2, rfl, HU9⟩, by first | rfl | trivial⟩
        case measure => simp [intOf]
    · have ej : _ = Value.int .i64 3 := ei
      subst ej
      have ix := fun w => (Tryz.ix7 (.int .i64 p0) (.int .i64 p1) (.int .i64 p2) (.int .i64 p3) (.int .i64 p4) (.int .i64 p5) (.int .i64 p6) w).2.2.2.1
      have hk7 : P7.l ⟨p0, p1, p2, p3, p4, p5, p6⟩ = [p0, p1, p2, p3, p4, p5, p6] := rfl
      try clear ei
      cases x
      · clear hk7
        go_wp2
        go_roundw
        case rel => exact ⟨4, by omega, by go_num, ⟨false, rfl, P7.upto_no hx.out⟩, by first | rfl | trivial⟩
        case measure => simp [intOf]
      · have HU9 := Lib.hid (P7.upto_at (x := p3) hx.out (by rw [hk7]; rfl))
        clear hk7 HV
        go_wp2_with (go_at_call 15; go_loud ((with_reducible refine (WI _ _).mono ?_); rintro e w' ⟨rfl, rfl⟩))
        go_roundw
        case rel => exact ⟨4, by omega, by go_num, ⟨wi p3, rfl, HU9⟩, by first | rfl | trivial⟩
        case measure => simp [intOf]
    · have ej : _ = Value.int .i64 4 := ei
      subst ej
      have ix := fun w => (Tryz.ix7 (.int .i64 p0) (.int .i64 p1) (.int .i64 p2) (.int .i64 p3) (.int .i64 p4) (.int .i64 p5) (.int .i64 p6) w).2.2.2.2.1
      have hk7 : P7.l ⟨p0, p1, p2, p3, p4, p5, p6⟩ = [p0, p1, p2, p3, p4, p5, p6] := rfl
      try clear ei
      cases x
      · clear hk7
        go_wp2
        go_roundw
        case rel => exact ⟨5, by omega, by go_num, ⟨false, rfl, P7.upto_no hx.out⟩, by first | rfl | trivial⟩
        case measure => simp [intOf]
      · have HU9 := Lib.hid (P7.upto_at (x := p4) hx.out (by rw [hk7]; rfl))
        clear hk7 HV
        go_wp2_with (go_at_call 15; go_loud ((with_reducible refine (WI _ _).mono ?_); rintro e w' ⟨rfl, rfl⟩))
        go_roundw
        case rel => exact ⟨5, by omega, by go_num, ⟨wi p4, rfl, HU9⟩, by first | rfl | trivial⟩
        case measure => simp [intOf]
    · have ej : _ = Value.int .i64 5 := ei
      subst ej
      have ix := fun w => (Tryz.ix7 (.int .i64 p0) (.int .i64 p1) (.int .i64 p2) (.int .i64 p3) (.int .i64 p4) (.int .i64 p5) (.int .i64 p6) w).2.2.2.2.2.1
      have hk7 : P7.l ⟨p0, p1, p2, p3, p4, p5, p6⟩ = [p0, p1, p2, p3, p4, p5, p6] := rfl
      try clear ei
      cases x
      · clear hk7
        go_wp2
        go_roundw
        case rel => exact ⟨6, by omega, by go_num, ⟨false, rfl, P7.upto_no hx.out⟩, by first | rfl | trivial⟩
        case measure => simp [intOf]
      · have HU9 := Lib.hid (P7.upto_at (x := p5) hx.out (by rw [hk7]; rfl))
        clear hk7 HV
        go_wp2_with (go_at_call 15; go_loud ((with_reducible refine (WI _ _).mono ?_); rintro e w' ⟨rfl, rfl⟩))
        go_roundw
        case rel => exact ⟨6, by omega, by go_num, ⟨wi p5, rfl, HU9⟩, by first | rfl | trivial⟩
        case measure => simp [intOf]
    · have ej : _ = Value.int .i64 6 := ei
      subst ej
      have ix := fun w => (Tryz.ix7 (.int .i64 p0) (.int .i64 p1) (.int .i64 p2) (.int .i64 p3) (.int .i64 p4) (.int .i64 p5) (.int .i64 p6) w).2.2.2.2.2.2
      have hk7 : P7.l ⟨p0, p1, p2, p3, p4, p5, p6⟩ = [p0, p1, p2, p3, p4, p5, p6] := rfl
      try clear ei
      cases x
      · clear hk7
        go_wp2
        go_roundw
        case rel => exact ⟨7, by omega, by go_num, ⟨false, rfl, P7.upto_no hx.out⟩, by first | rfl | trivial⟩
        case measure => simp [intOf]
      · have HU9 := Lib.hid (P7.upto_at (x := p6) hx.out (by rw [hk7]; rfl))
        clear hk7 HV
        go_wp2_with (go_at_call 15; go_loud ((with_reducible refine (WI _ _).mono ?_); rintro e w' ⟨rfl, rfl⟩))
        go_roundw
        case rel => exact ⟨7, by omega, by go_num, ⟨wi p6, rfl, HU9⟩, by first | rfl | trivial⟩
        case measure => simp [intOf]
    · have ej : _ = Value.int .i64 7 := ei
      subst ej
      try clear ei
      obtain ⟨z0, z1, z2, z3, z4, z5, z6, z7, z8⟩ := u0_cells k2.out.2.1
      obtain ⟨f0, f1, f2, f3, f4, f5, f6, f7, f8⟩ := k2.out.2.1.frozen9
      cases x
      · have hR := HV.out.1 hx.out
        subst hR
        clear HV hx
        go_wp2
        refine bodyPost_ret (v := .tuple #[.agg u0C, .int .i64 4]) (by simp [results, Tryz.results16, go_sem, u0C, z0, z1, z2, z3, z4, z5, z6, z7, z8]) rfl ⟨rfl, ?_⟩
        exact put9_below k2.out.b (by omega)
      · cases x1
        · have hR := HV.out.2.1 rfl
          subst hR
          clear HV hx
          go_wp2
          refine bodyPost_ret (v := .tuple #[.agg u0C, .int .i64 4]) (by simp [results, Tryz.results16, go_sem, u0C, z0, z1, z2, z3, z4, z5, z6, z7, z8]) rfl ⟨rfl, ?_⟩
          exact put9_below k2.out.b (by omega)
        · have hR := HV.out.2.2 hx.out rfl
          subst hR
          clear HV hx
          go_wp2
          refine bodyPost_ret (v := .tuple #[.agg #[.string TF, .string TO, .int .i64 p0, .int .i64 p1, .int .i64 p2, .int .i64 p3, .int .i64 p4, .int .i64 p5, .int .i64 p6], .int .i64 0]) (by simp [results, Tryz.results16, go_sem, z0, z1, z2, z3, z4, z5, z6, z7, z8]) rfl ⟨?_, put9_below k2.out.b (by omega)⟩
          rw [← HTF.out, ← HTO.out]; rfl

end Go.Proofs.YthjnmnepjeegiaaGreatDoor
