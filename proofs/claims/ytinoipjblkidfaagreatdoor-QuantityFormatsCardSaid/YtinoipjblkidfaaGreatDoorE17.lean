/- Units of the reference: ValidUnit, Plain, Same. -/
import Derived.Test.YtinoipjblkidfaaGreatDoorE16
import Derived.Test.YtinoipjblkidfaaGreatDoorE12
import Derived.Deep.RegionWith
import Derived.Deep.RegionHeld3
import Derived.StillTailTactics
/- Units of the program: Times, Over, Same. -/
namespace Go.Proofs.YtinoipjblkidfaaGreatDoor
open Go.RowKit Go.Proofs.YtinoipjblkidfaaGreatDoor.Dg Go.Proofs.YtinoipjblkidfaaGreatDoor.Q Go.Proofs.YtinoipjblkidfaaGreatDoor.Num

set_option maxRecDepth 100000 in
set_option maxHeartbeats 6400000 in
theorem qTimes_any (F O F' O' : ByteArray) (p p' : P7) (hF : F.size ≤ 9223372036854775807) (hO : O.size ≤ 9223372036854775807) (hF' : F'.size ≤ 9223372036854775807) (hO' : O'.size ≤ 9223372036854775807) (w : World) (hw : Wf w) :
    Calls Tryz.prog 60 #[uv F O p, uv F' O' p'] w (GiveU w (unC2 (bl F) (bl O) p (bl F') (bl O') p' 1)) := by
  have k0 := Lib.hid (KC.start w F O F' O' p p')
  have C1 := fun w' (hb : Below w.heap.size w w') => combined_any F O F' O' p p' 1 (by decide) hF hO hF' hO' w' (hw.up hb)
  generalize unC2 (bl F) (bl O) p (bl F') (bl O') p' 1 = X at *
  unfold unC u0C at k0
  obtain ⟨p0, p1, p2, p3, p4, p5, p6⟩ := p
  obtain ⟨q0, q1, q2, q3, q4, q5, q6⟩ := p'
  obtain ⟨⟨XF, XO, ⟨x0, x1, x2, x3, x4, x5, x6⟩⟩, xe⟩ := X
  unfold GiveU Un.v at *
  unfold uv at *
  dsimp only at *
  clear hw hF hF' hO hO'
  go_enter Tryz.func60, Tryz.ntmps60
  go_wp2_with (go_at_call 116; go_loud ((with_reducible refine (C1 _ k0.out.b).mono ?_); rintro e w1 ⟨rfl, hb⟩; have k1 := Lib.hid (k0.out.up hb); obtain ⟨z0, z1, z2, z3, z4, z5, z6, z7, z8⟩ := u0_cells k1.out.2.2.1; obtain ⟨f0, f1, f2, f3, f4, f5, f6, f7, f8⟩ := k1.out.2.2.1.frozen9; clear hb))
  refine bodyPost_ret (v := .tuple #[.agg #[.string ⟨XF.toArray⟩, .string ⟨XO.toArray⟩, .int .i64 x0, .int .i64 x1, .int .i64 x2, .int .i64 x3, .int .i64 x4, .int .i64 x5, .int .i64 x6], .int .i64 xe]) (by simp [results, Tryz.results60, go_sem, z0, z1, z2, z3, z4, z5, z6, z7, z8]) rfl ⟨rfl, put9_below k1.out.b (by omega)⟩

set_option maxRecDepth 100000 in
set_option maxHeartbeats 6400000 in
theorem qOver_any (F O F' O' : ByteArray) (p p' : P7) (hF : F.size ≤ 9223372036854775807) (hO : O.size ≤ 9223372036854775807) (hF' : F'.size ≤ 9223372036854775807) (hO' : O'.size ≤ 9223372036854775807) (w : World) (hw : Wf w) :
    Calls Tryz.prog 61 #[uv F O p, uv F' O' p'] w (GiveU w (unC2 (bl F) (bl O) p (bl F') (bl O') p' (-1))) := by
  have k0 := Lib.hid (KC.start w F O F' O' p p')
  have C1 := fun w' (hb : Below w.heap.size w w') => combined_any F O F' O' p p' (-1) (by decide) hF hO hF' hO' w' (hw.up hb)
  generalize unC2 (bl F) (bl O) p (bl F') (bl O') p' (-1) = X at *
  unfold unC u0C at k0
  obtain ⟨p0, p1, p2, p3, p4, p5, p6⟩ := p
  obtain ⟨q0, q1, q2, q3, q4, q5, q6⟩ := p'
  obtain ⟨⟨XF, XO, ⟨x0, x1, x2, x3, x4, x5, x6⟩⟩, xe⟩ := X
  unfold GiveU Un.v at *
  unfold uv at *
  dsimp only at *
  clear hw hF hF' hO hO'
  go_enter Tryz.func61, Tryz.ntmps61
  go_wp2_with (go_at_call 116; go_loud ((with_reducible refine (C1 _ k0.out.b).mono ?_); rintro e w1 ⟨rfl, hb⟩; have k1 := Lib.hid (k0.out.up hb); obtain ⟨z0, z1, z2, z3, z4, z5, z6, z7, z8⟩ := u0_cells k1.out.2.2.1; obtain ⟨f0, f1, f2, f3, f4, f5, f6, f7, f8⟩ := k1.out.2.2.1.frozen9; clear hb))
  refine bodyPost_ret (v := .tuple #[.agg #[.string ⟨XF.toArray⟩, .string ⟨XO.toArray⟩, .int .i64 x0, .int .i64 x1, .int .i64 x2, .int .i64 x3, .int .i64 x4, .int .i64 x5, .int .i64 x6], .int .i64 xe]) (by simp [results, Tryz.results61, go_sem, z0, z1, z2, z3, z4, z5, z6, z7, z8]) rfl ⟨rfl, put9_below k1.out.b (by omega)⟩

/-- Equal units. -/
def sameU (F O : List UInt8) (p : P7) (F' O' : List UInt8) (p' : P7) : Bool := vU F O p && decide (F = F' ∧ O = O' ∧ p = p')

set_option maxRecDepth 100000 in
set_option maxHeartbeats 6400000 in
theorem qSame_any (F O F' O' : ByteArray) (p p' : P7) (hF : F.size ≤ 9223372036854775807) (hO : O.size ≤ 9223372036854775807) (w : World) (hw : Wf w) :
    Calls Tryz.prog 66 #[uv F O p, uv F' O' p'] w fun e w' => e = .returned (.bool (sameU (bl F) (bl O) p (bl F') (bl O') p')) ∧ Below w.heap.size w w' := by
  have k0 := Lib.hid (show Ub ((w.alloc (.cells (unC F O p) 24)).alloc (.cells (unC F' O' p') 24)) w.heap.size F O p ∧ Ub ((w.alloc (.cells (unC F O p) 24)).alloc (.cells (unC F' O' p') 24)) (w.heap.size + 1) F' O' p' ∧ Below w.heap.size w ((w.alloc (.cells (unC F O p) 24)).alloc (.cells (unC F' O' p') 24)) from by
    have s1 : (w.alloc (.cells (unC F O p) 24)).heap.size = w.heap.size + 1 := by simp
    refine ⟨(Bk.new w _ _).alloc, ?_, ((Below.refl _ w).alloc (Nat.le_refl _) _).alloc (by rw [s1]; omega) _⟩
    have := Bk.new (w.alloc (.cells (unC F O p) 24)) (unC F' O' p') 24
    rw [s1] at this
    exact this)
  have V1 := fun w' (hb : Below w.heap.size w w') => validU_any F O p hF hO w' (hw.up hb)
  obtain ⟨X, hX⟩ : ∃ X, sameU (bl F) (bl O) p (bl F') (bl O') p' = X := ⟨_, rfl⟩
  rw [hX]
  unfold sameU at hX
  have e1 := toList_eq F F'
  have e2 := toList_eq O O'
  have e3 : ∀ w, (Op.equalIn 9999 22 (.agg p.C) (.agg p'.C)).run Tryz.prog w = .ok (decide (p = p')) w := fun w => eq7 9997 p p' w
  unfold P7.C at e3
  rw [show decide (bl F = bl F' ∧ bl O = bl O' ∧ p = p') = (decide (bl F = bl F') && (decide (bl O = bl O') && decide (p = p'))) by simp] at hX
  generalize decide (bl F = bl F') = v1 at *
  generalize decide (bl O = bl O') = v2 at *
  generalize decide (p = p') = v3 at *
  have HX := Lib.hid hX
  clear hX hw hF hO
  generalize vU (bl F) (bl O) p = v at *
  unfold unC at k0
  obtain ⟨p0, p1, p2, p3, p4, p5, p6⟩ := p
  obtain ⟨q0, q1, q2, q3, q4, q5, q6⟩ := p'
  unfold uv at *
  dsimp only at *
  cases v
  · go_enter Tryz.func66, Tryz.ntmps66
    go_wp2_with (go_at_call 19; go_loud ((with_reducible refine (V1 _ k0.out.2.2).mono ?_); rintro e w1 ⟨rfl, hb⟩; have k1 := Lib.hid (btrans k0.out.2.2 hb); clear hb))
    go_ret
    exact ⟨by rw [← HX.out]; rfl, k1.out⟩
  · cases v1
    · go_enter Tryz.func66, Tryz.ntmps66
      go_wp2_with (go_at_call 19; go_loud ((with_reducible refine (V1 _ k0.out.2.2).mono ?_); rintro e w1 ⟨rfl, hb⟩; have k1 := Lib.hid (btrans k0.out.2.2 hb); obtain ⟨c0, c1, c2, c3, c4, c5, c6, c7, c8⟩ := (k0.out.1.up hb).cells; obtain ⟨d0, d1, d2, d3, d4, d5, d6, d7, d8⟩ := (k0.out.2.1.up hb).cells; clear hb))
      go_ret
      exact ⟨by rw [← HX.out]; rfl, k1.out⟩
    · cases v2
      · go_enter Tryz.func66, Tryz.ntmps66
        go_wp2_with (go_at_call 19; go_loud ((with_reducible refine (V1 _ k0.out.2.2).mono ?_); rintro e w1 ⟨rfl, hb⟩; have k1 := Lib.hid (btrans k0.out.2.2 hb); obtain ⟨c0, c1, c2, c3, c4, c5, c6, c7, c8⟩ := (k0.out.1.up hb).cells; obtain ⟨d0, d1, d2, d3, d4, d5, d6, d7, d8⟩ := (k0.out.2.1.up hb).cells; clear hb))
        go_ret
        exact ⟨by rw [← HX.out]; rfl, k1.out⟩
      · cases v3
        all_goals
          go_enter Tryz.func66, Tryz.ntmps66
          go_wp2_with (go_at_call 19; go_loud ((with_reducible refine (V1 _ k0.out.2.2).mono ?_); rintro e w1 ⟨rfl, hb⟩; have k1 := Lib.hid (btrans k0.out.2.2 hb); obtain ⟨c0, c1, c2, c3, c4, c5, c6, c7, c8⟩ := (k0.out.1.up hb).cells; obtain ⟨d0, d1, d2, d3, d4, d5, d6, d7, d8⟩ := (k0.out.2.1.up hb).cells; clear hb))
          go_ret
          exact ⟨by rw [← HX.out]; rfl, k1.out⟩

end Go.Proofs.YtinoipjblkidfaaGreatDoor

/- Units of the reference: read. -/
namespace Go.Proofs.YtinoipjblkidfaaGreatDoor
open Go.RowKit Go.Proofs.YtinoipjblkidfaaGreatDoor.Dg Go.Proofs.YtinoipjblkidfaaGreatDoor.Q Go.Proofs.YtinoipjblkidfaaGreatDoor.Num

def sc0C : Array Value := #[.bool false, .slice none 0 0, .slice none 0 0, .bool false, .slice none 0 0, .slice none 0 0, .int .i64 0, .int .i64 0, .int .i64 0, .int .i64 0, .int .i64 0, .int .i64 0, .int .i64 0]
theorem sc0_all : sc0C.all (notK .u64) = true := by simp [sc0C, notK]
/-- What read gives. -/
def ReadS (F O : List UInt8) (p : P7) (w : World) (e : Ending) (w' : World) : Prop :=
  ∃ (y1 : Bool) (A1 : Option Addr) (l1 c1 : Nat) (A2 : Option Addr) (l2 c2 : Nat) (y2 : Bool) (A3 : Option Addr) (l3 c3 : Nat) (A4 : Option Addr) (l4 c4 : Nat) (qf qo : Rat),
    e = .returned (.tuple #[.agg #[.bool y1, .slice A1 l1 c1, .slice A2 l2 c2, .bool y2, .slice A3 l3 c3, .slice A4 l4 c4, .int .i64 p.a, .int .i64 p.b, .int .i64 p.c, .int .i64 p.d, .int .i64 p.e, .int .i64 p.f, .int .i64 p.g], .bool (vU F O p)]) ∧ Below w.heap.size w w' ∧
    Qr w' (.agg #[.bool y1, .slice A1 l1 c1, .slice A2 l2 c2]) qf ∧ Qr w' (.agg #[.bool y2, .slice A3 l3 c3, .slice A4 l4 c4]) qo ∧ sz qf ≤ 5000 ∧ sz qo ≤ 5000 ∧ (∀ q, num? F = some q → qf = q) ∧ (∀ q, num? O = some q → qo = q)
/-- The box of a unit and the result. -/
def KS2 (w w' : World) (F O : ByteArray) (p : P7) : Prop := Ub w' w.heap.size F O p ∧ Bk w' (w.heap.size + 1) sc0C 93 ∧ Below w.heap.size w w' ∧ w.heap.size + 2 ≤ w'.heap.size
theorem KS2.up {w w1 w2 : World} {F O : ByteArray} {p : P7} (h : KS2 w w1 F O p) (hb : Below w1.heap.size w1 w2) : KS2 w w2 F O p :=
  ⟨h.1.below hb (by have := h.2.2.2; omega), h.2.1.up hb, btrans h.2.2.1 hb, Nat.le_trans h.2.2.2 hb.size⟩
theorem KS2.start (w : World) (F O : ByteArray) (p : P7) : KS2 w ((w.alloc (.cells #[.string F, .string O, .int .i64 p.a, .int .i64 p.b, .int .i64 p.c, .int .i64 p.d, .int .i64 p.e, .int .i64 p.f, .int .i64 p.g] 24)).alloc (.cells sc0C 93)) F O p := by
  have k := KU.start w F O p
  have hs : (w.alloc (.cells #[.string F, .string O, .int .i64 p.a, .int .i64 p.b, .int .i64 p.c, .int .i64 p.d, .int .i64 p.e, .int .i64 p.f, .int .i64 p.g] 24)).heap.size = w.heap.size + 1 := by simp
  have b := Bk.new (w.alloc (.cells #[.string F, .string O, .int .i64 p.a, .int .i64 p.b, .int .i64 p.c, .int .i64 p.d, .int .i64 p.e, .int .i64 p.f, .int .i64 p.g] 24)) sc0C 93
  rw [hs] at b
  exact ⟨(k.up (below_alloc (Below.refl _ _) _)).1, b, (k.up (below_alloc (Below.refl _ _) _)).2.1, by simp⟩
/-- The box of a unit, the result, and the boxes of two numbers. -/
def KRd (w w' : World) (h1 h2 : Nat) (F O : ByteArray) (p : P7) (y1 : Bool) (A1 : Option Addr) (l1 c1 : Nat) (A2 : Option Addr) (l2 c2 : Nat) (y2 : Bool) (A3 : Option Addr) (l3 c3 : Nat) (A4 : Option Addr) (l4 c4 : Nat) (qf qo : Rat) : Prop :=
  Ub w' w.heap.size F O p ∧ Bk w' (w.heap.size + 1) sc0C 93 ∧ Below w.heap.size w w' ∧ Rs w' h1 (.bool y1) (.slice A1 l1 c1) (.slice A2 l2 c2) 51 ∧ Rs w' h2 (.bool y2) (.slice A3 l3 c3) (.slice A4 l4 c4) 51 ∧ w.heap.size + 2 ≤ h1 ∧ h1 < w'.heap.size ∧ w.heap.size + 2 ≤ h2 ∧ h2 < w'.heap.size ∧ Qr w' (.agg #[.bool y1, .slice A1 l1 c1, .slice A2 l2 c2]) qf ∧ Qr w' (.agg #[.bool y2, .slice A3 l3 c3, .slice A4 l4 c4]) qo
theorem KRd.up {w w1 w2 : World} {h1 h2 : Nat} {F O : ByteArray} {p : P7} {y1 : Bool} {A1 : Option Addr} {l1 c1 : Nat} {A2 : Option Addr} {l2 c2 : Nat} {y2 : Bool} {A3 : Option Addr} {l3 c3 : Nat} {A4 : Option Addr} {l4 c4 : Nat} {qf qo : Rat} (h : KRd w w1 h1 h2 F O p y1 A1 l1 c1 A2 l2 c2 y2 A3 l3 c3 A4 l4 c4 qf qo) (hb : Below w1.heap.size w1 w2) : KRd w w2 h1 h2 F O p y1 A1 l1 c1 A2 l2 c2 y2 A3 l3 c3 A4 l4 c4 qf qo := by
  obtain ⟨k1, k2, k3, k4, k5, k6, k7, k8, k9, k10, k11⟩ := h
  exact ⟨k1.below hb (by omega), k2.up hb, btrans k3 hb, k4.below hb k7, k5.below hb k9, k6, Nat.lt_of_lt_of_le k7 hb.size, k8, Nat.lt_of_lt_of_le k9 hb.size, k10.up hb, k11.up hb⟩
theorem KRd.cells {w w' : World} {h1 h2 : Nat} {F O : ByteArray} {p0 p1 p2 p3 p4 p5 p6 : Int} {y1 : Bool} {A1 : Option Addr} {l1 c1 : Nat} {A2 : Option Addr} {l2 c2 : Nat} {y2 : Bool} {A3 : Option Addr} {l3 c3 : Nat} {A4 : Option Addr} {l4 c4 : Nat} {qf qo : Rat} (h : KRd w w' h1 h2 F O ⟨p0, p1, p2, p3, p4, p5, p6⟩ y1 A1 l1 c1 A2 l2 c2 y2 A3 l3 c3 A4 l4 c4 qf qo) : w'.cell? ⟨h1, 0, none⟩ = some (.bool y1) ∧ w'.cell? ⟨h1, 1, none⟩ = some (.slice A1 l1 c1) ∧ w'.cell? ⟨h1, 2, none⟩ = some (.slice A2 l2 c2) ∧ w'.cell? ⟨h2, 0, none⟩ = some (.bool y2) ∧ w'.cell? ⟨h2, 1, none⟩ = some (.slice A3 l3 c3) ∧ w'.cell? ⟨h2, 2, none⟩ = some (.slice A4 l4 c4) ∧ w'.cell? ⟨w.heap.size, 2, none⟩ = some (.int .i64 p0) ∧ w'.cell? ⟨w.heap.size, 3, none⟩ = some (.int .i64 p1) ∧ w'.cell? ⟨w.heap.size, 4, none⟩ = some (.int .i64 p2) ∧ w'.cell? ⟨w.heap.size, 5, none⟩ = some (.int .i64 p3) ∧ w'.cell? ⟨w.heap.size, 6, none⟩ = some (.int .i64 p4) ∧ w'.cell? ⟨w.heap.size, 7, none⟩ = some (.int .i64 p5) ∧ w'.cell? ⟨w.heap.size, 8, none⟩ = some (.int .i64 p6) := by
  obtain ⟨k1, _, _, k4, k5, _⟩ := h
  obtain ⟨_, _, a0, a1, a2, a3, a4, a5, a6⟩ := k1.cells
  obtain ⟨b0, b1, b2⟩ := k4.cells
  obtain ⟨d0, d1, d2⟩ := k5.cells
  exact ⟨b0, b1, b2, d0, d1, d2, a0, a1, a2, a3, a4, a5, a6⟩
theorem KRd.b {w w' : World} {h1 h2 : Nat} {F O : ByteArray} {p : P7} {y1 : Bool} {A1 : Option Addr} {l1 c1 : Nat} {A2 : Option Addr} {l2 c2 : Nat} {y2 : Bool} {A3 : Option Addr} {l3 c3 : Nat} {A4 : Option Addr} {l4 c4 : Nat} {qf qo : Rat} (h : KRd w w' h1 h2 F O p y1 A1 l1 c1 A2 l2 c2 y2 A3 l3 c3 A4 l4 c4 qf qo) : Below w.heap.size w w' := h.2.2.1
theorem KRd.f {w w' : World} {h1 h2 : Nat} {F O : ByteArray} {p : P7} {y1 : Bool} {A1 : Option Addr} {l1 c1 : Nat} {A2 : Option Addr} {l2 c2 : Nat} {y2 : Bool} {A3 : Option Addr} {l3 c3 : Nat} {A4 : Option Addr} {l4 c4 : Nat} {qf qo : Rat} (h : KRd w w' h1 h2 F O p y1 A1 l1 c1 A2 l2 c2 y2 A3 l3 c3 A4 l4 c4 qf qo) : Qr w' (.agg #[.bool y1, .slice A1 l1 c1, .slice A2 l2 c2]) qf := h.2.2.2.2.2.2.2.2.2.1
theorem Qr.putL {w : World} {v : Value} {q : Rat} {g : Nat} {C : Array Value} {t : TypeId} (h : Qr w v q) (hr : Bk w g C t) (hC : C.all (notK .u64) = true) (i : Nat) (l : List Value) : Qr (Go.Proofs.YtinoipjblkidfaaGreatDoor.putL w g i l) v q := by
  obtain ⟨A, c, A', c', d, e, h1, h2, h3⟩ := h
  exact ⟨A, c, A', c', d, e, h1.putL hr hC i l, h2.putL hr hC i l, h3⟩
theorem KRd.give {w w' : World} {h1 h2 : Nat} {F O : ByteArray} {p : P7} {y1 : Bool} {A1 : Option Addr} {l1 c1 : Nat} {A2 : Option Addr} {l2 c2 : Nat} {y2 : Bool} {A3 : Option Addr} {l3 c3 : Nat} {A4 : Option Addr} {l4 c4 : Nat} {qf qo : Rat} (h : KRd w w' h1 h2 F O p y1 A1 l1 c1 A2 l2 c2 y2 A3 l3 c3 A4 l4 c4 qf qo) (z1 : sz qf ≤ 5000) (z2 : sz qo ≤ 5000) (g1 : ∀ q, num? (bl F) = some q → qf = q) (g2 : ∀ q, num? (bl O) = some q → qo = q) (l : List Value) :
    ReadS (bl F) (bl O) p w (.returned (.tuple #[.agg #[.bool y1, .slice A1 l1 c1, .slice A2 l2 c2, .bool y2, .slice A3 l3 c3, .slice A4 l4 c4, .int .i64 p.a, .int .i64 p.b, .int .i64 p.c, .int .i64 p.d, .int .i64 p.e, .int .i64 p.f, .int .i64 p.g], .bool (vU (bl F) (bl O) p)])) (putL w' (w.heap.size + 1) 0 l) := by
  obtain ⟨k1, k2, k3, k4, k5, k6, k7, k8, k9, k10, k11⟩ := h
  exact ⟨y1, A1, l1, c1, A2, l2, c2, y2, A3, l3, c3, A4, l4, c4, qf, qo, rfl, putL_below (by omega) l 0 k3, k10.putL k2 sc0_all 0 l, k11.putL k2 sc0_all 0 l, z1, z2, g1, g2⟩
theorem KRd.put {w w' : World} {h1 h2 : Nat} {F O : ByteArray} {p0 p1 p2 p3 p4 p5 p6 : Int} {y1 : Bool} {A1 : Option Addr} {l1 c1 : Nat} {A2 : Option Addr} {l2 c2 : Nat} {y2 : Bool} {A3 : Option Addr} {l3 c3 : Nat} {A4 : Option Addr} {l4 c4 : Nat} {qf qo : Rat} (h : KRd w w' h1 h2 F O ⟨p0, p1, p2, p3, p4, p5, p6⟩ y1 A1 l1 c1 A2 l2 c2 y2 A3 l3 c3 A4 l4 c4 qf qo) (v0 v1 v2 v3 v4 v5 v6 v7 v8 v9 v10 v11 v12 : Value) : (((((((((((((w'.setCell ⟨w.heap.size + 1, 0, none⟩ v0).setCell ⟨w.heap.size + 1, 1, none⟩ v1).setCell ⟨w.heap.size + 1, 2, none⟩ v2).setCell ⟨w.heap.size + 1, 3, none⟩ v3).setCell ⟨w.heap.size + 1, 4, none⟩ v4).setCell ⟨w.heap.size + 1, 5, none⟩ v5).setCell ⟨w.heap.size + 1, 6, none⟩ v6).setCell ⟨w.heap.size + 1, 7, none⟩ v7).setCell ⟨w.heap.size + 1, 8, none⟩ v8).setCell ⟨w.heap.size + 1, 9, none⟩ v9).setCell ⟨w.heap.size + 1, 10, none⟩ v10).setCell ⟨w.heap.size + 1, 11, none⟩ v11).setCell ⟨w.heap.size + 1, 12, none⟩ v12).cell? ⟨h1, 0, none⟩ = some (.bool y1) ∧ (((((((((((((w'.setCell ⟨w.heap.size + 1, 0, none⟩ v0).setCell ⟨w.heap.size + 1, 1, none⟩ v1).setCell ⟨w.heap.size + 1, 2, none⟩ v2).setCell ⟨w.heap.size + 1, 3, none⟩ v3).setCell ⟨w.heap.size + 1, 4, none⟩ v4).setCell ⟨w.heap.size + 1, 5, none⟩ v5).setCell ⟨w.heap.size + 1, 6, none⟩ v6).setCell ⟨w.heap.size + 1, 7, none⟩ v7).setCell ⟨w.heap.size + 1, 8, none⟩ v8).setCell ⟨w.heap.size + 1, 9, none⟩ v9).setCell ⟨w.heap.size + 1, 10, none⟩ v10).setCell ⟨w.heap.size + 1, 11, none⟩ v11).setCell ⟨w.heap.size + 1, 12, none⟩ v12).cell? ⟨h1, 1, none⟩ = some (.slice A1 l1 c1) ∧ (((((((((((((w'.setCell ⟨w.heap.size + 1, 0, none⟩ v0).setCell ⟨w.heap.size + 1, 1, none⟩ v1).setCell ⟨w.heap.size + 1, 2, none⟩ v2).setCell ⟨w.heap.size + 1, 3, none⟩ v3).setCell ⟨w.heap.size + 1, 4, none⟩ v4).setCell ⟨w.heap.size + 1, 5, none⟩ v5).setCell ⟨w.heap.size + 1, 6, none⟩ v6).setCell ⟨w.heap.size + 1, 7, none⟩ v7).setCell ⟨w.heap.size + 1, 8, none⟩ v8).setCell ⟨w.heap.size + 1, 9, none⟩ v9).setCell ⟨w.heap.size + 1, 10, none⟩ v10).setCell ⟨w.heap.size + 1, 11, none⟩ v11).setCell ⟨w.heap.size + 1, 12, none⟩ v12).cell? ⟨h1, 2, none⟩ = some (.slice A2 l2 c2) ∧ (((((((((((((w'.setCell ⟨w.heap.size + 1, 0, none⟩ v0).setCell ⟨w.heap.size + 1, 1, none⟩ v1).setCell ⟨w.heap.size + 1, 2, none⟩ v2).setCell ⟨w.heap.size + 1, 3, none⟩ v3).setCell ⟨w.heap.size + 1, 4, none⟩ v4).setCell ⟨w.heap.size + 1, 5, none⟩ v5).setCell ⟨w.heap.size + 1, 6, none⟩ v6).setCell ⟨w.heap.size + 1, 7, none⟩ v7).setCell ⟨w.heap.size + 1, 8, none⟩ v8).setCell ⟨w.heap.size + 1, 9, none⟩ v9).setCell ⟨w.heap.size + 1, 10, none⟩ v10).setCell ⟨w.heap.size + 1, 11, none⟩ v11).setCell ⟨w.heap.size + 1, 12, none⟩ v12).cell? ⟨h2, 0, none⟩ = some (.bool y2) ∧ (((((((((((((w'.setCell ⟨w.heap.size + 1, 0, none⟩ v0).setCell ⟨w.heap.size + 1, 1, none⟩ v1).setCell ⟨w.heap.size + 1, 2, none⟩ v2).setCell ⟨w.heap.size + 1, 3, none⟩ v3).setCell ⟨w.heap.size + 1, 4, none⟩ v4).setCell ⟨w.heap.size + 1, 5, none⟩ v5).setCell ⟨w.heap.size + 1, 6, none⟩ v6).setCell ⟨w.heap.size + 1, 7, none⟩ v7).setCell ⟨w.heap.size + 1, 8, none⟩ v8).setCell ⟨w.heap.size + 1, 9, none⟩ v9).setCell ⟨w.heap.size + 1, 10, none⟩ v10).setCell ⟨w.heap.size + 1, 11, none⟩ v11).setCell ⟨w.heap.size + 1, 12, none⟩ v12).cell? ⟨h2, 1, none⟩ = some (.slice A3 l3 c3) ∧ (((((((((((((w'.setCell ⟨w.heap.size + 1, 0, none⟩ v0).setCell ⟨w.heap.size + 1, 1, none⟩ v1).setCell ⟨w.heap.size + 1, 2, none⟩ v2).setCell ⟨w.heap.size + 1, 3, none⟩ v3).setCell ⟨w.heap.size + 1, 4, none⟩ v4).setCell ⟨w.heap.size + 1, 5, none⟩ v5).setCell ⟨w.heap.size + 1, 6, none⟩ v6).setCell ⟨w.heap.size + 1, 7, none⟩ v7).setCell ⟨w.heap.size + 1, 8, none⟩ v8).setCell ⟨w.heap.size + 1, 9, none⟩ v9).setCell ⟨w.heap.size + 1, 10, none⟩ v10).setCell ⟨w.heap.size + 1, 11, none⟩ v11).setCell ⟨w.heap.size + 1, 12, none⟩ v12).cell? ⟨h2, 2, none⟩ = some (.slice A4 l4 c4) ∧ (((((((((((((w'.setCell ⟨w.heap.size + 1, 0, none⟩ v0).setCell ⟨w.heap.size + 1, 1, none⟩ v1).setCell ⟨w.heap.size + 1, 2, none⟩ v2).setCell ⟨w.heap.size + 1, 3, none⟩ v3).setCell ⟨w.heap.size + 1, 4, none⟩ v4).setCell ⟨w.heap.size + 1, 5, none⟩ v5).setCell ⟨w.heap.size + 1, 6, none⟩ v6).setCell ⟨w.heap.size + 1, 7, none⟩ v7).setCell ⟨w.heap.size + 1, 8, none⟩ v8).setCell ⟨w.heap.size + 1, 9, none⟩ v9).setCell ⟨w.heap.size + 1, 10, none⟩ v10).setCell ⟨w.heap.size + 1, 11, none⟩ v11).setCell ⟨w.heap.size + 1, 12, none⟩ v12).cell? ⟨w.heap.size, 2, none⟩ = some (.int .i64 p0) ∧ (((((((((((((w'.setCell ⟨w.heap.size + 1, 0, none⟩ v0).setCell ⟨w.heap.size + 1, 1, none⟩ v1).setCell ⟨w.heap.size + 1, 2, none⟩ v2).setCell ⟨w.heap.size + 1, 3, none⟩ v3).setCell ⟨w.heap.size + 1, 4, none⟩ v4).setCell ⟨w.heap.size + 1, 5, none⟩ v5).setCell ⟨w.heap.size + 1, 6, none⟩ v6).setCell ⟨w.heap.size + 1, 7, none⟩ v7).setCell ⟨w.heap.size + 1, 8, none⟩ v8).setCell ⟨w.heap.size + 1, 9, none⟩ v9).setCell ⟨w.heap.size + 1, 10, none⟩ v10).setCell ⟨w.heap.size + 1, 11, none⟩ v11).setCell ⟨w.heap.size + 1, 12, none⟩ v12).cell? ⟨w.heap.size, 3, none⟩ = some (.int .i64 p1) ∧ (((((((((((((w'.setCell ⟨w.heap.size + 1, 0, none⟩ v0).setCell ⟨w.heap.size + 1, 1, none⟩ v1).setCell ⟨w.heap.size + 1, 2, none⟩ v2).setCell ⟨w.heap.size + 1, 3, none⟩ v3).setCell ⟨w.heap.size + 1, 4, none⟩ v4).setCell ⟨w.heap.size + 1, 5, none⟩ v5).setCell ⟨w.heap.size + 1, 6, none⟩ v6).setCell ⟨w.heap.size + 1, 7, none⟩ v7).setCell ⟨w.heap.size + 1, 8, none⟩ v8).setCell ⟨w.heap.size + 1, 9, none⟩ v9).setCell ⟨w.heap.size + 1, 10, none⟩ v10).setCell ⟨w.heap.size + 1, 11, none⟩ v11).setCell ⟨w.heap.size + 1, 12, none⟩ v12).cell? ⟨w.heap.size, 4, none⟩ = some (.int .i64 p2) ∧ (((((((((((((w'.setCell ⟨w.heap.size + 1, 0, none⟩ v0).setCell ⟨w.heap.size + 1, 1, none⟩ v1).setCell ⟨w.heap.size + 1, 2, none⟩ v2).setCell ⟨w.heap.size + 1, 3, none⟩ v3).setCell ⟨w.heap.size + 1, 4, none⟩ v4).setCell ⟨w.heap.size + 1, 5, none⟩ v5).setCell ⟨w.heap.size + 1, 6, none⟩ v6).setCell ⟨w.heap.size + 1, 7, none⟩ v7).setCell ⟨w.heap.size + 1, 8, none⟩ v8).setCell ⟨w.heap.size + 1, 9, none⟩ v9).setCell ⟨w.heap.size + 1, 10, none⟩ v10).setCell ⟨w.heap.size + 1, 11, none⟩ v11).setCell ⟨w.heap.size + 1, 12, none⟩ v12).cell? ⟨w.heap.size, 5, none⟩ = some (.int .i64 p3) ∧ (((((((((((((w'.setCell ⟨w.heap.size + 1, 0, none⟩ v0).setCell ⟨w.heap.size + 1, 1, none⟩ v1).setCell ⟨w.heap.size + 1, 2, none⟩ v2).setCell ⟨w.heap.size + 1, 3, none⟩ v3).setCell ⟨w.heap.size + 1, 4, none⟩ v4).setCell ⟨w.heap.size + 1, 5, none⟩ v5).setCell ⟨w.heap.size + 1, 6, none⟩ v6).setCell ⟨w.heap.size + 1, 7, none⟩ v7).setCell ⟨w.heap.size + 1, 8, none⟩ v8).setCell ⟨w.heap.size + 1, 9, none⟩ v9).setCell ⟨w.heap.size + 1, 10, none⟩ v10).setCell ⟨w.heap.size + 1, 11, none⟩ v11).setCell ⟨w.heap.size + 1, 12, none⟩ v12).cell? ⟨w.heap.size, 6, none⟩ = some (.int .i64 p4) ∧ (((((((((((((w'.setCell ⟨w.heap.size + 1, 0, none⟩ v0).setCell ⟨w.heap.size + 1, 1, none⟩ v1).setCell ⟨w.heap.size + 1, 2, none⟩ v2).setCell ⟨w.heap.size + 1, 3, none⟩ v3).setCell ⟨w.heap.size + 1, 4, none⟩ v4).setCell ⟨w.heap.size + 1, 5, none⟩ v5).setCell ⟨w.heap.size + 1, 6, none⟩ v6).setCell ⟨w.heap.size + 1, 7, none⟩ v7).setCell ⟨w.heap.size + 1, 8, none⟩ v8).setCell ⟨w.heap.size + 1, 9, none⟩ v9).setCell ⟨w.heap.size + 1, 10, none⟩ v10).setCell ⟨w.heap.size + 1, 11, none⟩ v11).setCell ⟨w.heap.size + 1, 12, none⟩ v12).cell? ⟨w.heap.size, 7, none⟩ = some (.int .i64 p5) ∧ (((((((((((((w'.setCell ⟨w.heap.size + 1, 0, none⟩ v0).setCell ⟨w.heap.size + 1, 1, none⟩ v1).setCell ⟨w.heap.size + 1, 2, none⟩ v2).setCell ⟨w.heap.size + 1, 3, none⟩ v3).setCell ⟨w.heap.size + 1, 4, none⟩ v4).setCell ⟨w.heap.size + 1, 5, none⟩ v5).setCell ⟨w.heap.size + 1, 6, none⟩ v6).setCell ⟨w.heap.size + 1, 7, none⟩ v7).setCell ⟨w.heap.size + 1, 8, none⟩ v8).setCell ⟨w.heap.size + 1, 9, none⟩ v9).setCell ⟨w.heap.size + 1, 10, none⟩ v10).setCell ⟨w.heap.size + 1, 11, none⟩ v11).setCell ⟨w.heap.size + 1, 12, none⟩ v12).cell? ⟨w.heap.size, 8, none⟩ = some (.int .i64 p6) := by
  have e : (((((((((((((w'.setCell ⟨w.heap.size + 1, 0, none⟩ v0).setCell ⟨w.heap.size + 1, 1, none⟩ v1).setCell ⟨w.heap.size + 1, 2, none⟩ v2).setCell ⟨w.heap.size + 1, 3, none⟩ v3).setCell ⟨w.heap.size + 1, 4, none⟩ v4).setCell ⟨w.heap.size + 1, 5, none⟩ v5).setCell ⟨w.heap.size + 1, 6, none⟩ v6).setCell ⟨w.heap.size + 1, 7, none⟩ v7).setCell ⟨w.heap.size + 1, 8, none⟩ v8).setCell ⟨w.heap.size + 1, 9, none⟩ v9).setCell ⟨w.heap.size + 1, 10, none⟩ v10).setCell ⟨w.heap.size + 1, 11, none⟩ v11).setCell ⟨w.heap.size + 1, 12, none⟩ v12) = Go.Proofs.YtinoipjblkidfaaGreatDoor.putL w' (w.heap.size + 1) 0 [v0, v1, v2, v3, v4, v5, v6, v7, v8, v9, v10, v11, v12] := rfl
  rw [e]
  obtain ⟨k1, _, _, k4, k5, k6, _, k8, _⟩ := h
  have j1 : Ub (Go.Proofs.YtinoipjblkidfaaGreatDoor.putL w' (w.heap.size + 1) 0 [v0, v1, v2, v3, v4, v5, v6, v7, v8, v9, v10, v11, v12]) w.heap.size F O ⟨p0, p1, p2, p3, p4, p5, p6⟩ := Bk.put_other (C := unC F O ⟨p0, p1, p2, p3, p4, p5, p6⟩) k1 0 _ (by omega)
  have j4 : Rs (Go.Proofs.YtinoipjblkidfaaGreatDoor.putL w' (w.heap.size + 1) 0 [v0, v1, v2, v3, v4, v5, v6, v7, v8, v9, v10, v11, v12]) h1 (.bool y1) (.slice A1 l1 c1) (.slice A2 l2 c2) 51 := Bk.put_other (C := #[.bool y1, .slice A1 l1 c1, .slice A2 l2 c2]) k4 0 _ (by omega)
  have j5 : Rs (Go.Proofs.YtinoipjblkidfaaGreatDoor.putL w' (w.heap.size + 1) 0 [v0, v1, v2, v3, v4, v5, v6, v7, v8, v9, v10, v11, v12]) h2 (.bool y2) (.slice A3 l3 c3) (.slice A4 l4 c4) 51 := Bk.put_other (C := #[.bool y2, .slice A3 l3 c3, .slice A4 l4 c4]) k5 0 _ (by omega)
  obtain ⟨_, _, a0, a1, a2, a3, a4, a5, a6⟩ := j1.cells
  obtain ⟨b0, b1, b2⟩ := j4.cells
  obtain ⟨d0, d1, d2⟩ := j5.cells
  exact ⟨b0, b1, b2, d0, d1, d2, a0, a1, a2, a3, a4, a5, a6⟩
theorem noP {Q : Exit → Act → World → Prop} {a : Act} {w : World} (h : Q .normal a w) : NoPanic Q .normal a w := h
theorem hTake {P : Program} {md : Region.Mode} {ops : Array Oper} {Q : Exit → Act → World → Prop} {S : World → Prop} {i : Nat} {d : Option Tmp} {v : Value} {fuel : Nat} {listed : Array Bool} {a : Act} {w : World} (hs : Region.noSelect ops = true) (hf : Region.free md ops listed i = true) (hr : (Region.ready md ops listed).contains i = true)
    (hd : ∀ o, ops[i]? = some o → o.dst = d ∧ YieldsIf P ops S o v a) (he : (ops[i]?).isSome = true) (hQ : ∀ c a w, Q (.panic c) (a.put d v) w → Q (.panic c) a w) (hS : S w) (h : wpAnyH P md ops Q S fuel (listed.setIfInBounds i true) (a.put d v) w) : wpAnyH P md ops Q S (fuel + 1) listed a w := by
  obtain ⟨o, ho⟩ := Option.isSome_iff_exists.1 he
  obtain ⟨h1, h2⟩ := hd o ho
  subst h1
  exact wpAnyH_take ho hs hf hr hQ h2 hS h
theorem drew_cell (W : World) (a : Addr) : W.drew.cell? a = W.cell? a := rfl
theorem KRd.put_drew {w w' : World} {h1 h2 : Nat} {F O : ByteArray} {p0 p1 p2 p3 p4 p5 p6 : Int} {y1 : Bool} {A1 : Option Addr} {l1 c1 : Nat} {A2 : Option Addr} {l2 c2 : Nat} {y2 : Bool} {A3 : Option Addr} {l3 c3 : Nat} {A4 : Option Addr} {l4 c4 : Nat} {qf qo : Rat} (h : KRd w w' h1 h2 F O ⟨p0, p1, p2, p3, p4, p5, p6⟩ y1 A1 l1 c1 A2 l2 c2 y2 A3 l3 c3 A4 l4 c4 qf qo) (v0 v1 v2 v3 v4 v5 v6 v7 v8 v9 v10 v11 v12 : Value) : (((((((((((((w'.setCell ⟨w.heap.size + 1, 0, none⟩ v0).setCell ⟨w.heap.size + 1, 1, none⟩ v1).setCell ⟨w.heap.size + 1, 2, none⟩ v2).setCell ⟨w.heap.size + 1, 3, none⟩ v3).setCell ⟨w.heap.size + 1, 4, none⟩ v4).setCell ⟨w.heap.size + 1, 5, none⟩ v5).setCell ⟨w.heap.size + 1, 6, none⟩ v6).setCell ⟨w.heap.size + 1, 7, none⟩ v7).setCell ⟨w.heap.size + 1, 8, none⟩ v8).setCell ⟨w.heap.size + 1, 9, none⟩ v9).setCell ⟨w.heap.size + 1, 10, none⟩ v10).setCell ⟨w.heap.size + 1, 11, none⟩ v11).setCell ⟨w.heap.size + 1, 12, none⟩ v12).drew.cell? ⟨h1, 0, none⟩ = some (.bool y1) ∧ (((((((((((((w'.setCell ⟨w.heap.size + 1, 0, none⟩ v0).setCell ⟨w.heap.size + 1, 1, none⟩ v1).setCell ⟨w.heap.size + 1, 2, none⟩ v2).setCell ⟨w.heap.size + 1, 3, none⟩ v3).setCell ⟨w.heap.size + 1, 4, none⟩ v4).setCell ⟨w.heap.size + 1, 5, none⟩ v5).setCell ⟨w.heap.size + 1, 6, none⟩ v6).setCell ⟨w.heap.size + 1, 7, none⟩ v7).setCell ⟨w.heap.size + 1, 8, none⟩ v8).setCell ⟨w.heap.size + 1, 9, none⟩ v9).setCell ⟨w.heap.size + 1, 10, none⟩ v10).setCell ⟨w.heap.size + 1, 11, none⟩ v11).setCell ⟨w.heap.size + 1, 12, none⟩ v12).drew.cell? ⟨h1, 1, none⟩ = some (.slice A1 l1 c1) ∧ (((((((((((((w'.setCell ⟨w.heap.size + 1, 0, none⟩ v0).setCell ⟨w.heap.size + 1, 1, none⟩ v1).setCell ⟨w.heap.size + 1, 2, none⟩ v2).setCell ⟨w.heap.size + 1, 3, none⟩ v3).setCell ⟨w.heap.size + 1, 4, none⟩ v4).setCell ⟨w.heap.size + 1, 5, none⟩ v5).setCell ⟨w.heap.size + 1, 6, none⟩ v6).setCell ⟨w.heap.size + 1, 7, none⟩ v7).setCell ⟨w.heap.size + 1, 8, none⟩ v8).setCell ⟨w.heap.size + 1, 9, none⟩ v9).setCell ⟨w.heap.size + 1, 10, none⟩ v10).setCell ⟨w.heap.size + 1, 11, none⟩ v11).setCell ⟨w.heap.size + 1, 12, none⟩ v12).drew.cell? ⟨h1, 2, none⟩ = some (.slice A2 l2 c2) ∧ (((((((((((((w'.setCell ⟨w.heap.size + 1, 0, none⟩ v0).setCell ⟨w.heap.size + 1, 1, none⟩ v1).setCell ⟨w.heap.size + 1, 2, none⟩ v2).setCell ⟨w.heap.size + 1, 3, none⟩ v3).setCell ⟨w.heap.size + 1, 4, none⟩ v4).setCell ⟨w.heap.size + 1, 5, none⟩ v5).setCell ⟨w.heap.size + 1, 6, none⟩ v6).setCell ⟨w.heap.size + 1, 7, none⟩ v7).setCell ⟨w.heap.size + 1, 8, none⟩ v8).setCell ⟨w.heap.size + 1, 9, none⟩ v9).setCell ⟨w.heap.size + 1, 10, none⟩ v10).setCell ⟨w.heap.size + 1, 11, none⟩ v11).setCell ⟨w.heap.size + 1, 12, none⟩ v12).drew.cell? ⟨h2, 0, none⟩ = some (.bool y2) ∧ (((((((((((((w'.setCell ⟨w.heap.size + 1, 0, none⟩ v0).setCell ⟨w.heap.size + 1, 1, none⟩ v1).setCell ⟨w.heap.size + 1, 2, none⟩ v2).setCell ⟨w.heap.size + 1, 3, none⟩ v3).setCell ⟨w.heap.size + 1, 4, none⟩ v4).setCell ⟨w.heap.size + 1, 5, none⟩ v5).setCell ⟨w.heap.size + 1, 6, none⟩ v6).setCell ⟨w.heap.size + 1, 7, none⟩ v7).setCell ⟨w.heap.size + 1, 8, none⟩ v8).setCell ⟨w.heap.size + 1, 9, none⟩ v9).setCell ⟨w.heap.size + 1, 10, none⟩ v10).setCell ⟨w.heap.size + 1, 11, none⟩ v11).setCell ⟨w.heap.size + 1, 12, none⟩ v12).drew.cell? ⟨h2, 1, none⟩ = some (.slice A3 l3 c3) ∧ (((((((((((((w'.setCell ⟨w.heap.size + 1, 0, none⟩ v0).setCell ⟨w.heap.size + 1, 1, none⟩ v1).setCell ⟨w.heap.size + 1, 2, none⟩ v2).setCell ⟨w.heap.size + 1, 3, none⟩ v3).setCell ⟨w.heap.size + 1, 4, none⟩ v4).setCell ⟨w.heap.size + 1, 5, none⟩ v5).setCell ⟨w.heap.size + 1, 6, none⟩ v6).setCell ⟨w.heap.size + 1, 7, none⟩ v7).setCell ⟨w.heap.size + 1, 8, none⟩ v8).setCell ⟨w.heap.size + 1, 9, none⟩ v9).setCell ⟨w.heap.size + 1, 10, none⟩ v10).setCell ⟨w.heap.size + 1, 11, none⟩ v11).setCell ⟨w.heap.size + 1, 12, none⟩ v12).drew.cell? ⟨h2, 2, none⟩ = some (.slice A4 l4 c4) ∧ (((((((((((((w'.setCell ⟨w.heap.size + 1, 0, none⟩ v0).setCell ⟨w.heap.size + 1, 1, none⟩ v1).setCell ⟨w.heap.size + 1, 2, none⟩ v2).setCell ⟨w.heap.size + 1, 3, none⟩ v3).setCell ⟨w.heap.size + 1, 4, none⟩ v4).setCell ⟨w.heap.size + 1, 5, none⟩ v5).setCell ⟨w.heap.size + 1, 6, none⟩ v6).setCell ⟨w.heap.size + 1, 7, none⟩ v7).setCell ⟨w.heap.size + 1, 8, none⟩ v8).setCell ⟨w.heap.size + 1, 9, none⟩ v9).setCell ⟨w.heap.size + 1, 10, none⟩ v10).setCell ⟨w.heap.size + 1, 11, none⟩ v11).setCell ⟨w.heap.size + 1, 12, none⟩ v12).drew.cell? ⟨w.heap.size, 2, none⟩ = some (.int .i64 p0) ∧ (((((((((((((w'.setCell ⟨w.heap.size + 1, 0, none⟩ v0).setCell ⟨w.heap.size + 1, 1, none⟩ v1).setCell ⟨w.heap.size + 1, 2, none⟩ v2).setCell ⟨w.heap.size + 1, 3, none⟩ v3).setCell ⟨w.heap.size + 1, 4, none⟩ v4).setCell ⟨w.heap.size + 1, 5, none⟩ v5).setCell ⟨w.heap.size + 1, 6, none⟩ v6).setCell ⟨w.heap.size + 1, 7, none⟩ v7).setCell ⟨w.heap.size + 1, 8, none⟩ v8).setCell ⟨w.heap.size + 1, 9, none⟩ v9).setCell ⟨w.heap.size + 1, 10, none⟩ v10).setCell ⟨w.heap.size + 1, 11, none⟩ v11).setCell ⟨w.heap.size + 1, 12, none⟩ v12).drew.cell? ⟨w.heap.size, 3, none⟩ = some (.int .i64 p1) ∧ (((((((((((((w'.setCell ⟨w.heap.size + 1, 0, none⟩ v0).setCell ⟨w.heap.size + 1, 1, none⟩ v1).setCell ⟨w.heap.size + 1, 2, none⟩ v2).setCell ⟨w.heap.size + 1, 3, none⟩ v3).setCell ⟨w.heap.size + 1, 4, none⟩ v4).setCell ⟨w.heap.size + 1, 5, none⟩ v5).setCell ⟨w.heap.size + 1, 6, none⟩ v6).setCell ⟨w.heap.size + 1, 7, none⟩ v7).setCell ⟨w.heap.size + 1, 8, none⟩ v8).setCell ⟨w.heap.size + 1, 9, none⟩ v9).setCell ⟨w.heap.size + 1, 10, none⟩ v10).setCell ⟨w.heap.size + 1, 11, none⟩ v11).setCell ⟨w.heap.size + 1, 12, none⟩ v12).drew.cell? ⟨w.heap.size, 4, none⟩ = some (.int .i64 p2) ∧ (((((((((((((w'.setCell ⟨w.heap.size + 1, 0, none⟩ v0).setCell ⟨w.heap.size + 1, 1, none⟩ v1).setCell ⟨w.heap.size + 1, 2, none⟩ v2).setCell ⟨w.heap.size + 1, 3, none⟩ v3).setCell ⟨w.heap.size + 1, 4, none⟩ v4).setCell ⟨w.heap.size + 1, 5, none⟩ v5).setCell ⟨w.heap.size + 1, 6, none⟩ v6).setCell ⟨w.heap.size + 1, 7, none⟩ v7).setCell ⟨w.heap.size + 1, 8, none⟩ v8).setCell ⟨w.heap.size + 1, 9, none⟩ v9).setCell ⟨w.heap.size + 1, 10, none⟩ v10).setCell ⟨w.heap.size + 1, 11, none⟩ v11).setCell ⟨w.heap.size + 1, 12, none⟩ v12).drew.cell? ⟨w.heap.size, 5, none⟩ = some (.int .i64 p3) ∧ (((((((((((((w'.setCell ⟨w.heap.size + 1, 0, none⟩ v0).setCell ⟨w.heap.size + 1, 1, none⟩ v1).setCell ⟨w.heap.size + 1, 2, none⟩ v2).setCell ⟨w.heap.size + 1, 3, none⟩ v3).setCell ⟨w.heap.size + 1, 4, none⟩ v4).setCell ⟨w.heap.size + 1, 5, none⟩ v5).setCell ⟨w.heap.size + 1, 6, none⟩ v6).setCell ⟨w.heap.size + 1, 7, none⟩ v7).setCell ⟨w.heap.size + 1, 8, none⟩ v8).setCell ⟨w.heap.size + 1, 9, none⟩ v9).setCell ⟨w.heap.size + 1, 10, none⟩ v10).setCell ⟨w.heap.size + 1, 11, none⟩ v11).setCell ⟨w.heap.size + 1, 12, none⟩ v12).drew.cell? ⟨w.heap.size, 6, none⟩ = some (.int .i64 p4) ∧ (((((((((((((w'.setCell ⟨w.heap.size + 1, 0, none⟩ v0).setCell ⟨w.heap.size + 1, 1, none⟩ v1).setCell ⟨w.heap.size + 1, 2, none⟩ v2).setCell ⟨w.heap.size + 1, 3, none⟩ v3).setCell ⟨w.heap.size + 1, 4, none⟩ v4).setCell ⟨w.heap.size + 1, 5, none⟩ v5).setCell ⟨w.heap.size + 1, 6, none⟩ v6).setCell ⟨w.heap.size + 1, 7, none⟩ v7).setCell ⟨w.heap.size + 1, 8, none⟩ v8).setCell ⟨w.heap.size + 1, 9, none⟩ v9).setCell ⟨w.heap.size + 1, 10, none⟩ v10).setCell ⟨w.heap.size + 1, 11, none⟩ v11).setCell ⟨w.heap.size + 1, 12, none⟩ v12).drew.cell? ⟨w.heap.size, 7, none⟩ = some (.int .i64 p5) ∧ (((((((((((((w'.setCell ⟨w.heap.size + 1, 0, none⟩ v0).setCell ⟨w.heap.size + 1, 1, none⟩ v1).setCell ⟨w.heap.size + 1, 2, none⟩ v2).setCell ⟨w.heap.size + 1, 3, none⟩ v3).setCell ⟨w.heap.size + 1, 4, none⟩ v4).setCell ⟨w.heap.size + 1, 5, none⟩ v5).setCell ⟨w.heap.size + 1, 6, none⟩ v6).setCell ⟨w.heap.size + 1, 7, none⟩ v7).setCell ⟨w.heap.size + 1, 8, none⟩ v8).setCell ⟨w.heap.size + 1, 9, none⟩ v9).setCell ⟨w.heap.size + 1, 10, none⟩ v10).setCell ⟨w.heap.size + 1, 11, none⟩ v11).setCell ⟨w.heap.size + 1, 12, none⟩ v12).drew.cell? ⟨w.heap.size, 8, none⟩ = some (.int .i64 p6) := by
  simp only [drew_cell]
  exact h.put v0 v1 v2 v3 v4 v5 v6 v7 v8 v9 v10 v11 v12
theorem ReadS.drew {F O : List UInt8} {p : P7} {w w' : World} {e : Ending} (h : ReadS F O p w e w') : ReadS F O p w e w'.drew := by
  obtain ⟨y1, A1, l1, c1, A2, l2, c2, y2, A3, l3, c3, A4, l4, c4, qf, qo, h1, h2, h3, h4, h5⟩ := h
  have b := Below.drew (Below.refl w'.heap.size w')
  exact ⟨y1, A1, l1, c1, A2, l2, c2, y2, A3, l3, c3, A4, l4, c4, qf, qo, h1, btrans h2 b, h3.up b, h4.up b, h5⟩
theorem sc_cells {w : World} {g : Nat} {t : TypeId} (h : Bk w g sc0C t) : w.cell? ⟨g, 0, none⟩ = some (.bool false) ∧ w.cell? ⟨g, 1, none⟩ = some (.slice none 0 0) ∧ w.cell? ⟨g, 2, none⟩ = some (.slice none 0 0) ∧ w.cell? ⟨g, 3, none⟩ = some (.bool false) ∧ w.cell? ⟨g, 4, none⟩ = some (.slice none 0 0) ∧ w.cell? ⟨g, 5, none⟩ = some (.slice none 0 0) ∧ w.cell? ⟨g, 6, none⟩ = some (.int .i64 0) ∧ w.cell? ⟨g, 7, none⟩ = some (.int .i64 0) ∧ w.cell? ⟨g, 8, none⟩ = some (.int .i64 0) ∧ w.cell? ⟨g, 9, none⟩ = some (.int .i64 0) ∧ w.cell? ⟨g, 10, none⟩ = some (.int .i64 0) ∧ w.cell? ⟨g, 11, none⟩ = some (.int .i64 0) ∧ w.cell? ⟨g, 12, none⟩ = some (.int .i64 0) :=
  ⟨h.cell 0, h.cell 1, h.cell 2, h.cell 3, h.cell 4, h.cell 5, h.cell 6, h.cell 7, h.cell 8, h.cell 9, h.cell 10, h.cell 11, h.cell 12⟩

set_option maxRecDepth 100000 in
set_option maxHeartbeats 12800000 in
theorem rread_unit (F O : ByteArray) (p : P7) (hF : F.size ≤ 9223372036854775807) (hO : O.size ≤ 9223372036854775807) (w : World) :
    Calls Tryz.prog 101 #[uv F O p] w (ReadS (bl F) (bl O) p w) := by
  have G1 := fun w' => rget_any F hF w'
  have G2 := fun w' => rget_any O hO w'
  obtain ⟨vv, hvv⟩ : ∃ v, vU (bl F) (bl O) p = v := ⟨_, rfl⟩
  have GV := Lib.hid (show ∀ (w' : World) (h1 h2 : Nat) (y1 : Bool) (A1 : Option Addr) (l1 c1 : Nat) (A2 : Option Addr) (l2 c2 : Nat) (y2 : Bool) (A3 : Option Addr) (l3 c3 : Nat) (A4 : Option Addr) (l4 c4 : Nat) (qf qo : Rat) (l : List Value), KRd w w' h1 h2 F O p y1 A1 l1 c1 A2 l2 c2 y2 A3 l3 c3 A4 l4 c4 qf qo → sz qf ≤ 5000 → sz qo ≤ 5000 → (∀ q, num? (bl F) = some q → qf = q) → (∀ q, num? (bl O) = some q → qo = q) → _ from fun w' h1 h2 y1 A1 l1 c1 A2 l2 c2 y2 A3 l3 c3 A4 l4 c4 qf qo l k z1 z2 g1 g2 => k.give z1 z2 g1 g2 l)
  have HV : Hid ((p.upto (num? (bl F)).isSome 7 = false → vv = false) ∧ ∀ q, num? (bl F) = some q → p.upto (num? (bl F)).isSome 7 = true → vv = (decide (0 < sign q) && (num? (bl O)).isSome)) := by
    refine ⟨fun h => ?_, fun q hq h => ?_⟩ <;> rw [← hvv] <;> unfold vU
    · unfold P7.upto at h
      cases hn : num? (bl F) with
      | none => rfl
      | some q =>
        rw [hn] at h
        show (p.l.all wi && _ && _) = false
        rw [show p.l.all wi = false by simpa [P7.l] using h]
        rfl
    · rw [hq] at h ⊢
      show (p.l.all wi && _ && _) = _
      rw [show p.l.all wi = true by simpa [P7.upto, P7.l] using h, show decide (0 < sign q) = decide (0 < q) from decide_eq_decide.2 sign_pos]
      rfl
  have WI := fun n w' => rwithin_any n w'
  have k0 := Lib.hid (KU.start w F O p)
  obtain ⟨p0, p1, p2, p3, p4, p5, p6⟩ := p
  unfold uv
  dsimp only
  have U0 : ∀ x, Hid ((⟨p0, p1, p2, p3, p4, p5, p6⟩ : P7).upto x 0 = x) := fun x => Bool.and_true x
  clear hF hO
  go_enter Tryz.func101, Tryz.ntmps101
  have ks := Lib.hid (KS2.start w F O ⟨p0, p1, p2, p3, p4, p5, p6⟩)
  unfold sc0C at ks
  go_wp2_with (first
    | (go_at_call 49; ((with_reducible refine (G2 _).mono ?_); rintro e w2 ⟨y2, A3, l3, c3, A4, l4, c4, qo, rfl, hb, hF, hz, ho⟩; have bx := box_rs w2 (.bool y2) (.slice A3 l3 c3) (.slice A4 l4 c4) 51; have kp := KS1.out.up hb; have kr := Lib.hid (show KRd w (w2.alloc (.cells #[.bool y2, .slice A3 l3 c3, .slice A4 l4 c4] 51)) w1.heap.size w2.heap.size F O ⟨p0, p1, p2, p3, p4, p5, p6⟩ y1 A1 l1 c1 A2 l2 c2 y2 A3 l3 c3 A4 l4 c4 qf qo from ⟨(kp.up bx.2.1).1, (kp.up bx.2.1).2.1, (kp.up bx.2.1).2.2.1, (LF.out.below hb SF.out).below bx.2.1 (Nat.lt_of_lt_of_le SF.out hb.size), bx.1, HS1.out, Nat.lt_of_lt_of_le (Nat.lt_of_lt_of_le SF.out hb.size) bx.2.1.size, kp.2.2.2, bx.2.2, (F1.out.up hb).up bx.2.1, hF.up bx.2.1⟩); have Z2 := Lib.hid hz; have O2 := Lib.hid ho; obtain ⟨e0, e1, e2, e3, e4, e5, e6, e7, e8, e9, e10, e11, e12⟩ := kr.out.cells; clear hb hF hz ho bx kp))
    | (go_at_call 49; go_loud ((with_reducible refine (G1 _).mono ?_); rintro e w1 ⟨y1, A1, l1, c1, A2, l2, c2, qf, rfl, hb, hF, hz, ho⟩; have bx := box_rs w1 (.bool y1) (.slice A1 l1 c1) (.slice A2 l2 c2) 51; have KS1 := Lib.hid ((ks.out.up hb).up bx.2.1); have HS1 := Lib.hid (show w.heap.size + 2 ≤ w1.heap.size from (ks.out.up hb).2.2.2); have LF := Lib.hid bx.1; have SF := Lib.hid bx.2.2; have F1 := Lib.hid (hF.up bx.2.1); have Z1 := Lib.hid hz; have O1 := Lib.hid ho; obtain ⟨u0, u1, u2, u3, u4, u5, u6, u7, u8⟩ := KS1.out.1.cells; clear hb hF hz ho bx)))
  clear ks KS1 HS1 LF SF F1 k0 u0 u1 u2 u3 u4 u5 u6 u7 u8
  generalize w2.alloc (.cells #[.bool y2, .slice A3 l3 c3, .slice A4 l4 c4] 51) = W at *
  generalize w1.heap.size = h1 at *
  generalize w2.heap.size = h2 at *
  have UX := U0 (num? (bl F)).isSome
  generalize hx0 : (num? (bl F)).isSome = x0 at *
  generalize hx1 : (num? (bl O)).isSome = x1 at *
  go_loopw [5, 24] (fun ok i wr => ∃ k : Nat, k ≤ 7 ∧ i = .int .i64 (k : Int) ∧ (∃ x, ok = .bool x ∧ Hid (P7.upto ⟨p0, p1, p2, p3, p4, p5, p6⟩ x0 k = x)) ∧ W = wr) (fun _ i _ => (7 - intOf i).toNat)
  case atStart => exact ⟨0, by omega, rfl, ⟨_, rfl, UX⟩, rfl⟩
  case round =>
    obtain ⟨k, hk, ei, ⟨x, rfl, hx⟩, rfl⟩ := hrel
    rcases (show k = 0 ∨ k = 1 ∨ k = 2 ∨ k = 3 ∨ k = 4 ∨ k = 5 ∨ k = 6 ∨ k = 7 by omega) with rfl | rfl | rfl | rfl | rfl | rfl | rfl | rfl
    all_goals clear hk U0 UX
    · have ej : _ = Value.int .i64 0 := ei
      subst ej
      have ix := fun w => (Tryz.ix7 (.int .i64 p0) (.int .i64 p1) (.int .i64 p2) (.int .i64 p3) (.int .i64 p4) (.int .i64 p5) (.int .i64 p6) w).1
      have hk7 : P7.l ⟨p0, p1, p2, p3, p4, p5, p6⟩ = [p0, p1, p2, p3, p4, p5, p6] := rfl
      try clear ei
      cases x
      · clear hk7
        go_wp2
        go_roundw
        case rel => exact ⟨1, by omega, by go_num, ⟨false, rfl, P7.upto_no hx.out⟩, by first | rfl | trivial⟩
        case measure => simp [intOf]
      · have HU9 := Lib.hid (P7.upto_at (x := p0) hx.out (by rw [hk7]; rfl))
        clear hk7 HV
        go_wp2_with (go_at_call 78; go_loud ((with_reducible refine (WI _ _).mono ?_); rintro e w' ⟨rfl, rfl⟩))
        go_roundw
        case rel => exact ⟨1, by omega, by go_num, ⟨wi p0, rfl, HU9⟩, by first | rfl | trivial⟩
        case measure => simp [intOf]
    · have ej : _ = Value.int .i64 1 := ei
      subst ej
      have ix := fun w => (Tryz.ix7 (.int .i64 p0) (.int .i64 p1) (.int .i64 p2) (.int .i64 p3) (.int .i64 p4) (.int .i64 p5) (.int .i64 p6) w).2.1
      have hk7 : P7.l ⟨p0, p1, p2, p3, p4, p5, p6⟩ = [p0, p1, p2, p3, p4, p5, p6] := rfl
      try clear ei
      cases x
      · clear hk7
        go_wp2
        go_roundw
        case rel => exact ⟨2, by omega, by go_num, ⟨false, rfl, P7.upto_no hx.out⟩, by first | rfl | trivial⟩
        case measure => simp [intOf]
      · have HU9 := Lib.hid (P7.upto_at (x := p1) hx.out (by rw [hk7]; rfl))
        clear hk7 HV
        go_wp2_with (go_at_call 78; go_loud ((with_reducible refine (WI _ _).mono ?_); rintro e w' ⟨rfl, rfl⟩))
        go_roundw
        case rel => exact ⟨2, by omega, by go_num, ⟨wi p1, rfl, HU9⟩, by first | rfl | trivial⟩
        case measure => simp [intOf]
    · have ej : _ = Value.int .i64 2 := ei
      subst ej
      have ix := fun w => (Tryz.ix7 (.int .i64 p0) (.int .i64 p1) (.int .i64 p2) (.int .i64 p3) (.int .i64 p4) (.int .i64 p5) (.int .i64 p6) w).2.2.1
      have hk7 : P7.l ⟨p0, p1, p2, p3, p4, p5, p6⟩ = [p0, p1, p2, p3, p4, p5, p6] := rfl
      try clear ei
      cases x
      · clear hk7
        go_wp2
        go_roundw
        case rel => exact ⟨3, by omega, by go_num, ⟨false, rfl, P7.upto_no hx.out⟩, by first | rfl | trivial⟩
        case measure => simp [intOf]
      · have HU9 := Lib.hid (P7.upto_at (x := p2) hx.out (by rw [hk7]; rfl))
        clear hk7 HV
        go_wp2_with (go_at_call 78; go_loud ((with_reducible refine (WI _ _).mono ?_); rintro e w' ⟨rfl, rfl⟩))
        go_roundw
        case rel => exact ⟨3, by omega, by go_num, ⟨wi p2, rfl, HU9⟩, by first | rfl | trivial⟩
        case measure => simp [intOf]
    · have ej : _ = Value.int .i64 3 := ei
      subst ej
      have ix := fun w => (Tryz.ix7 (.int .i64 p0) (.int .i64 p1) (.int .i64 p2) (.int .i64 p3) (.int .i64 p4) (.int .i64 p5) (.int .i64 p6) w).2.2.2.1
      have hk7 : P7.l ⟨p0, p1, p2, p3, p4, p5, p6⟩ = [p0, p1, p2, p3, p4, p5, p6] := rfl
      try clear ei
      cases x
      · clear hk7
        go_wp2
        go_roundw
        case rel => exact ⟨4, by omega, by go_num, ⟨false, rfl, P7.upto_no hx.out⟩, by first | rfl | trivial⟩
        case measure => simp [intOf]
      · have HU9 := Lib.hid (P7.upto_at (x := p3) hx.out (by rw [hk7]; rfl))
        clear hk7 HV
        go_wp2_with (go_at_call 78; go_loud ((with_reducible refine (WI _ _).mono ?_); rintro e w' ⟨rfl, rfl⟩))
        go_roundw
        case rel => exact ⟨4, by omega, by go_num, ⟨wi p3, rfl, HU9⟩, by first | rfl | trivial⟩
        case measure => simp [intOf]
    · have ej : _ = Value.int .i64 4 := ei
      subst ej
      have ix := fun w => (Tryz.ix7 (.int .i64 p0) (.int .i64 p1) (.int .i64 p2) (.int .i64 p3) (.int .i64 p4) (.int .i64 p5) (.int .i64 p6) w).2.2.2.2.1
      have hk7 : P7.l ⟨p0, p1, p2, p3, p4, p5, p6⟩ = [p0, p1, p2, p3, p4, p5, p6] := rfl
      try clear ei
      cases x
      · clear hk7
        go_wp2
        go_roundw
        case rel => exact ⟨5, by omega, by go_num, ⟨false, rfl, P7.upto_no hx.out⟩, by first | rfl | trivial⟩
        case measure => simp [intOf]
      · have HU9 := Lib.hid (P7.upto_at (x := p4) hx.out (by rw [hk7]; rfl))
        clear hk7 HV
        go_wp2_with (go_at_call 78; go_loud ((with_reducible refine (WI _ _).mono ?_); rintro e w' ⟨rfl, rfl⟩))
        go_roundw
        case rel => exact ⟨5, by omega, by go_num, ⟨wi p4, rfl, HU9⟩, by first | rfl | trivial⟩
        case measure => simp [intOf]
    · have ej : _ = Value.int .i64 5 := ei
      subst ej
      have ix := fun w => (Tryz.ix7 (.int .i64 p0) (.int .i64 p1) (.int .i64 p2) (.int .i64 p3) (.int .i64 p4) (.int .i64 p5) (.int .i64 p6) w).2.2.2.2.2.1
      have hk7 : P7.l ⟨p0, p1, p2, p3, p4, p5, p6⟩ = [p0, p1, p2, p3, p4, p5, p6] := rfl
      try clear ei
      cases x
      · clear hk7
        go_wp2
        go_roundw
        case rel => exact ⟨6, by omega, by go_num, ⟨false, rfl, P7.upto_no hx.out⟩, by first | rfl | trivial⟩
        case measure => simp [intOf]
      · have HU9 := Lib.hid (P7.upto_at (x := p5) hx.out (by rw [hk7]; rfl))
        clear hk7 HV
        go_wp2_with (go_at_call 78; go_loud ((with_reducible refine (WI _ _).mono ?_); rintro e w' ⟨rfl, rfl⟩))
        go_roundw
        case rel => exact ⟨6, by omega, by go_num, ⟨wi p5, rfl, HU9⟩, by first | rfl | trivial⟩
        case measure => simp [intOf]
    · have ej : _ = Value.int .i64 6 := ei
      subst ej
      have ix := fun w => (Tryz.ix7 (.int .i64 p0) (.int .i64 p1) (.int .i64 p2) (.int .i64 p3) (.int .i64 p4) (.int .i64 p5) (.int .i64 p6) w).2.2.2.2.2.2
      have hk7 : P7.l ⟨p0, p1, p2, p3, p4, p5, p6⟩ = [p0, p1, p2, p3, p4, p5, p6] := rfl
      try clear ei
      cases x
      · clear hk7
        go_wp2
        go_roundw
        case rel => exact ⟨7, by omega, by go_num, ⟨false, rfl, P7.upto_no hx.out⟩, by first | rfl | trivial⟩
        case measure => simp [intOf]
      · have HU9 := Lib.hid (P7.upto_at (x := p6) hx.out (by rw [hk7]; rfl))
        clear hk7 HV
        go_wp2_with (go_at_call 78; go_loud ((with_reducible refine (WI _ _).mono ?_); rintro e w' ⟨rfl, rfl⟩))
        go_roundw
        case rel => exact ⟨7, by omega, by go_num, ⟨wi p6, rfl, HU9⟩, by first | rfl | trivial⟩
        case measure => simp [intOf]
    · have ej : _ = Value.int .i64 7 := ei
      subst ej
      try clear ei
      have z := kr.out.2.1
      have zc : (W.cell? ⟨w.heap.size + 1, 0, none⟩ = some (.bool false) ∧ W.cell? ⟨w.heap.size + 1, 1, none⟩ = some (.slice none 0 0) ∧ W.cell? ⟨w.heap.size + 1, 2, none⟩ = some (.slice none 0 0) ∧ W.cell? ⟨w.heap.size + 1, 3, none⟩ = some (.bool false) ∧ W.cell? ⟨w.heap.size + 1, 4, none⟩ = some (.slice none 0 0) ∧ W.cell? ⟨w.heap.size + 1, 5, none⟩ = some (.slice none 0 0) ∧ W.cell? ⟨w.heap.size + 1, 6, none⟩ = some (.int .i64 0) ∧ W.cell? ⟨w.heap.size + 1, 7, none⟩ = some (.int .i64 0) ∧ W.cell? ⟨w.heap.size + 1, 8, none⟩ = some (.int .i64 0) ∧ W.cell? ⟨w.heap.size + 1, 9, none⟩ = some (.int .i64 0) ∧ W.cell? ⟨w.heap.size + 1, 10, none⟩ = some (.int .i64 0) ∧ W.cell? ⟨w.heap.size + 1, 11, none⟩ = some (.int .i64 0) ∧ W.cell? ⟨w.heap.size + 1, 12, none⟩ = some (.int .i64 0)) := by
        unfold sc0C at z
        refine ⟨?_, ?_, ?_, ?_, ?_, ?_, ?_, ?_, ?_, ?_, ?_, ?_, ?_⟩ <;> (rw [z.cell]; rfl)
      obtain ⟨z0, z1, z2, z3, z4, z5, z6, z7, z8, z9, z10, z11, z12⟩ := zc
      have f0 := z.frozen 0; have f1 := z.frozen 1; have f2 := z.frozen 2; have f3 := z.frozen 3; have f4 := z.frozen 4; have f5 := z.frozen 5; have f6 := z.frozen 6; have f7 := z.frozen 7; have f8 := z.frozen 8; have f9 := z.frozen 9; have f10 := z.frozen 10; have f11 := z.frozen 11; have f12 := z.frozen 12
      clear z
      cases x
      · have hvf := HV.out.1 hx.out
        have GW := Lib.hid ((GV.out _ _ _ _ _ _ _ _ _ _ _ _ _ _ _ _ _ _ _ [.bool y1, .slice A1 l1 c1, .slice A2 l2 c2, .bool y2, .slice A3 l3 c3, .slice A4 l4 c4, .int .i64 p0, .int .i64 p1, .int .i64 p2, .int .i64 p3, .int .i64 p4, .int .i64 p5, .int .i64 p6] kr.out Z1.out Z2.out O1.out O2.out).drew)
        rw [hvv, hvf] at GW
        clear HV GV hvv hvf hx
        have kd := Lib.hid (kr.out.up (Below.drew (Below.refl _ _)))
        go_wp2_with fail
        refine wp_region_noPanic ?_
        refine wp_region_held_drew (S := fun w' => w'.cell? ⟨h1, 0, none⟩ = some (.bool y1) ∧ w'.cell? ⟨h1, 1, none⟩ = some (.slice A1 l1 c1) ∧ w'.cell? ⟨h1, 2, none⟩ = some (.slice A2 l2 c2) ∧ w'.cell? ⟨h2, 0, none⟩ = some (.bool y2) ∧ w'.cell? ⟨h2, 1, none⟩ = some (.slice A3 l3 c3) ∧ w'.cell? ⟨h2, 2, none⟩ = some (.slice A4 l4 c4) ∧ w'.cell? ⟨w.heap.size, 2, none⟩ = some (.int .i64 p0) ∧ w'.cell? ⟨w.heap.size, 3, none⟩ = some (.int .i64 p1) ∧ w'.cell? ⟨w.heap.size, 4, none⟩ = some (.int .i64 p2) ∧ w'.cell? ⟨w.heap.size, 5, none⟩ = some (.int .i64 p3) ∧ w'.cell? ⟨w.heap.size, 6, none⟩ = some (.int .i64 p4) ∧ w'.cell? ⟨w.heap.size, 7, none⟩ = some (.int .i64 p5) ∧ w'.cell? ⟨w.heap.size, 8, none⟩ = some (.int .i64 p6)) (by kernel_rfl) kd.out.cells (fun hHeld => ?_)
        refine hTake (i := 0) (d := some 33) (v := .agg #[.bool y1, .slice A1 l1 c1, .slice A2 l2 c2]) (by kernel_rfl) (by kernel_rfl) (by kernel_rfl) ?_ (by kernel_rfl) (fun _ _ _ h => h) hHeld ?_
        · intro o ho
          simp only [List.getElem?_toArray, List.getElem?_cons_zero, Option.some.injEq] at ho
          subst ho
          refine ⟨rfl, Or.inl ⟨by rfl, ?_⟩⟩
          intro w' hSw
          obtain ⟨s0, s1, s2, s3, s4, s5, s6, s7, s8, s9, s10, s11, s12⟩ := hSw
          first | (go_simp; done) | (with_reducible rfl)
        simp only [Act.put, List.setIfInBounds_toArray, List.set_cons_zero, List.set_cons_succ]
        refine hTake (i := 1) (d := some 34) (v := .agg #[.bool y2, .slice A3 l3 c3, .slice A4 l4 c4]) (by kernel_rfl) (by kernel_rfl) (by kernel_rfl) ?_ (by kernel_rfl) (fun _ _ _ h => h) hHeld ?_
        · intro o ho
          simp only [List.getElem?_toArray, List.getElem?_cons_succ, List.getElem?_cons_zero, Option.some.injEq] at ho
          subst ho
          refine ⟨rfl, Or.inl ⟨by rfl, ?_⟩⟩
          intro w' hSw
          obtain ⟨s0, s1, s2, s3, s4, s5, s6, s7, s8, s9, s10, s11, s12⟩ := hSw
          first | (go_simp; done) | (with_reducible rfl)
        simp only [Act.put, List.setIfInBounds_toArray, List.set_cons_zero, List.set_cons_succ]
        refine hTake (i := 2) (d := some 35) (v := .pointer (some ⟨w.heap.size, 2, none⟩)) (by kernel_rfl) (by kernel_rfl) (by kernel_rfl) ?_ (by kernel_rfl) (fun _ _ _ h => h) hHeld ?_
        · intro o ho
          simp only [List.getElem?_toArray, List.getElem?_cons_succ, List.getElem?_cons_zero, Option.some.injEq] at ho
          subst ho
          refine ⟨rfl, Or.inl ⟨by rfl, ?_⟩⟩
          intro w' hSw
          obtain ⟨s0, s1, s2, s3, s4, s5, s6, s7, s8, s9, s10, s11, s12⟩ := hSw
          first | (go_simp; done) | (with_reducible rfl)
        simp only [Act.put, List.setIfInBounds_toArray, List.set_cons_zero, List.set_cons_succ]
        refine hTake (i := 3) (d := some 36) (v := .agg #[.int .i64 p0, .int .i64 p1, .int .i64 p2, .int .i64 p3, .int .i64 p4, .int .i64 p5, .int .i64 p6]) (by kernel_rfl) (by kernel_rfl) (by kernel_rfl) ?_ (by kernel_rfl) (fun _ _ _ h => h) hHeld ?_
        · intro o ho
          simp only [List.getElem?_toArray, List.getElem?_cons_succ, List.getElem?_cons_zero, Option.some.injEq] at ho
          subst ho
          refine ⟨rfl, Or.inl ⟨by rfl, ?_⟩⟩
          intro w' hSw
          obtain ⟨s0, s1, s2, s3, s4, s5, s6, s7, s8, s9, s10, s11, s12⟩ := hSw
          first | (go_simp; done) | (with_reducible rfl)
        simp only [Act.put, List.setIfInBounds_toArray, List.set_cons_zero, List.set_cons_succ]
        refine hTake (i := 4) (d := some 37) (v := .agg #[.bool y1, .slice A1 l1 c1, .slice A2 l2 c2, .bool y2, .slice A3 l3 c3, .slice A4 l4 c4, .int .i64 p0, .int .i64 p1, .int .i64 p2, .int .i64 p3, .int .i64 p4, .int .i64 p5, .int .i64 p6]) (by kernel_rfl) (by kernel_rfl) (by kernel_rfl) ?_ (by kernel_rfl) (fun _ _ _ h => h) hHeld ?_
        · intro o ho
          simp only [List.getElem?_toArray, List.getElem?_cons_succ, List.getElem?_cons_zero, Option.some.injEq] at ho
          subst ho
          refine ⟨rfl, Or.inl ⟨by rfl, ?_⟩⟩
          intro w' hSw
          obtain ⟨s0, s1, s2, s3, s4, s5, s6, s7, s8, s9, s10, s11, s12⟩ := hSw
          first | (go_simp; done) | (with_reducible rfl)
        simp only [Act.put, List.setIfInBounds_toArray, List.set_cons_zero, List.set_cons_succ]
        refine hTake (i := 5) (d := some 38) (v := .bool false) (by kernel_rfl) (by kernel_rfl) (by kernel_rfl) ?_ (by kernel_rfl) (fun _ _ _ h => h) hHeld ?_
        · intro o ho
          simp only [List.getElem?_toArray, List.getElem?_cons_succ, List.getElem?_cons_zero, Option.some.injEq] at ho
          subst ho
          refine ⟨rfl, Or.inl ⟨by rfl, ?_⟩⟩
          intro w' hSw
          obtain ⟨s0, s1, s2, s3, s4, s5, s6, s7, s8, s9, s10, s11, s12⟩ := hSw
          first | (go_simp; done) | (with_reducible rfl)
        simp only [Act.put, List.setIfInBounds_toArray, List.set_cons_zero, List.set_cons_succ]
        refine hTake (i := 6) (d := some 39) (v := .bool false) (by kernel_rfl) (by kernel_rfl) (by kernel_rfl) ?_ (by kernel_rfl) (fun _ _ _ h => h) hHeld ?_
        · intro o ho
          simp only [List.getElem?_toArray, List.getElem?_cons_succ, List.getElem?_cons_zero, Option.some.injEq] at ho
          subst ho
          refine ⟨rfl, Or.inl ⟨by rfl, ?_⟩⟩
          intro w' hSw
          obtain ⟨s0, s1, s2, s3, s4, s5, s6, s7, s8, s9, s10, s11, s12⟩ := hSw
          first | (go_simp; done) | (with_reducible rfl)
        simp only [Act.put, List.setIfInBounds_toArray, List.set_cons_zero, List.set_cons_succ]
        refine hTake (i := 7) (d := some 40) (v := undef) (by kernel_rfl) (by kernel_rfl) (by kernel_rfl) ?_ (by kernel_rfl) (fun _ _ _ h => h) hHeld ?_
        · intro o ho
          simp only [List.getElem?_toArray, List.getElem?_cons_succ, List.getElem?_cons_zero, Option.some.injEq] at ho
          subst ho
          exact ⟨rfl, Or.inr ⟨by rfl, rfl⟩⟩
        simp only [Act.put, List.setIfInBounds_toArray, List.set_cons_zero, List.set_cons_succ]
        refine hTake (i := 8) (d := some 41) (v := .bool false) (by kernel_rfl) (by kernel_rfl) (by kernel_rfl) ?_ (by kernel_rfl) (fun _ _ _ h => h) hHeld ?_
        · intro o ho
          simp only [List.getElem?_toArray, List.getElem?_cons_succ, List.getElem?_cons_zero, Option.some.injEq] at ho
          subst ho
          refine ⟨rfl, Or.inl ⟨by rfl, ?_⟩⟩
          intro w' hSw
          obtain ⟨s0, s1, s2, s3, s4, s5, s6, s7, s8, s9, s10, s11, s12⟩ := hSw
          first | (go_simp; done) | (with_reducible rfl)
        simp only [Act.put, List.setIfInBounds_toArray, List.set_cons_zero, List.set_cons_succ]
        refine hTake (i := 9) (d := some 42) (v := .bool false) (by kernel_rfl) (by kernel_rfl) (by kernel_rfl) ?_ (by kernel_rfl) (fun _ _ _ h => h) hHeld ?_
        · intro o ho
          simp only [List.getElem?_toArray, List.getElem?_cons_succ, List.getElem?_cons_zero, Option.some.injEq] at ho
          subst ho
          refine ⟨rfl, Or.inl ⟨by rfl, ?_⟩⟩
          intro w' hSw
          obtain ⟨s0, s1, s2, s3, s4, s5, s6, s7, s8, s9, s10, s11, s12⟩ := hSw
          first | (go_simp; done) | (with_reducible rfl)
        simp only [Act.put, List.setIfInBounds_toArray, List.set_cons_zero, List.set_cons_succ]
        refine hTake (i := 10) (d := some 43) (v := undef) (by kernel_rfl) (by kernel_rfl) (by kernel_rfl) ?_ (by kernel_rfl) (fun _ _ _ h => h) hHeld ?_
        · intro o ho
          simp only [List.getElem?_toArray, List.getElem?_cons_succ, List.getElem?_cons_zero, Option.some.injEq] at ho
          subst ho
          exact ⟨rfl, Or.inr ⟨by rfl, rfl⟩⟩
        simp only [Act.put, List.setIfInBounds_toArray, List.set_cons_zero, List.set_cons_succ]
        refine hTake (i := 11) (d := some 44) (v := undef) (by kernel_rfl) (by kernel_rfl) (by kernel_rfl) ?_ (by kernel_rfl) (fun _ _ _ h => h) hHeld ?_
        · intro o ho
          simp only [List.getElem?_toArray, List.getElem?_cons_succ, List.getElem?_cons_zero, Option.some.injEq] at ho
          subst ho
          exact ⟨rfl, Or.inr ⟨by rfl, rfl⟩⟩
        simp only [Act.put, List.setIfInBounds_toArray, List.set_cons_zero, List.set_cons_succ]
        refine hTake (i := 12) (d := some 45) (v := undef) (by kernel_rfl) (by kernel_rfl) (by kernel_rfl) ?_ (by kernel_rfl) (fun _ _ _ h => h) hHeld ?_
        · intro o ho
          simp only [List.getElem?_toArray, List.getElem?_cons_succ, List.getElem?_cons_zero, Option.some.injEq] at ho
          subst ho
          exact ⟨rfl, Or.inr ⟨by rfl, rfl⟩⟩
        simp only [Act.put, List.setIfInBounds_toArray, List.set_cons_zero, List.set_cons_succ]
        refine hTake (i := 13) (d := some 46) (v := .bool false) (by kernel_rfl) (by kernel_rfl) (by kernel_rfl) ?_ (by kernel_rfl) (fun _ _ _ h => h) hHeld ?_
        · intro o ho
          simp only [List.getElem?_toArray, List.getElem?_cons_succ, List.getElem?_cons_zero, Option.some.injEq] at ho
          subst ho
          refine ⟨rfl, Or.inl ⟨by rfl, ?_⟩⟩
          intro w' hSw
          obtain ⟨s0, s1, s2, s3, s4, s5, s6, s7, s8, s9, s10, s11, s12⟩ := hSw
          first | (go_simp; done) | (with_reducible rfl)
        simp only [Act.put, List.setIfInBounds_toArray, List.set_cons_zero, List.set_cons_succ]
        refine wpAnyH_ready (rs := [14]) (by kernel_rfl) (by simp) (AllReadyH.cons rfl (fun K hK => ?_) AllReadyH.nil)
        go_simp
        refine hK.out _ _ ?_ (fun hHeld => ?_)
        · try dsimp only
          with_reducible exact kr.out.put_drew _ _ _ _ _ _ _ _ _ _ _ _ _
        clear hK K
        try simp only [Act.put, List.setIfInBounds_toArray, List.set_cons_zero, List.set_cons_succ]
        refine wpAnyH_ready (rs := [15]) (by kernel_rfl) (by simp) (AllReadyH.cons rfl (fun K hK => ?_) AllReadyH.nil)
        go_simp
        refine hK.out _ _ ?_ (fun hHeld => ?_)
        · with_reducible exact hHeld
        clear hK K
        try simp only [Act.put, List.setIfInBounds_toArray, List.set_cons_zero, List.set_cons_succ]
        refine wpAnyH_done (by kernel_rfl) (noP ?_) _
        go_wp2
        refine bodyPost_ret (v := .tuple #[.agg #[.bool y1, .slice A1 l1 c1, .slice A2 l2 c2, .bool y2, .slice A3 l3 c3, .slice A4 l4 c4, .int .i64 p0, .int .i64 p1, .int .i64 p2, .int .i64 p3, .int .i64 p4, .int .i64 p5, .int .i64 p6], .bool false]) (by simp [results, Tryz.results101, go_sem, z0, z1, z2, z3, z4, z5, z6, z7, z8, z9, z10, z11, z12]) rfl ?_
        exact GW.out
      · have hx0t : x0 = true := by
          cases x0
          · have := hx.out; simp [P7.upto] at this
          · rfl
        subst hx0t
        obtain ⟨q, hq⟩ := Option.isSome_iff_exists.1 hx0
        have hvq := HV.out.2 q hq hx.out
        obtain rfl := O1.out q hq
        cases x1
        · rw [Bool.and_false] at hvq
          have GW := Lib.hid ((GV.out _ _ _ _ _ _ _ _ _ _ _ _ _ _ _ _ _ _ _ [.bool y1, .slice A1 l1 c1, .slice A2 l2 c2, .bool y2, .slice A3 l3 c3, .slice A4 l4 c4, .int .i64 p0, .int .i64 p1, .int .i64 p2, .int .i64 p3, .int .i64 p4, .int .i64 p5, .int .i64 p6] kr.out Z1.out Z2.out O1.out O2.out).drew)
          rw [hvv, hvq] at GW
          clear HV GV hvv hvq hx hq
          have kd := Lib.hid (kr.out.up (Below.drew (Below.refl _ _)))
          go_wp2_with fail
          refine wp_region_noPanic ?_
          refine wp_region_held_drew (S := fun w' => w'.cell? ⟨h1, 0, none⟩ = some (.bool y1) ∧ w'.cell? ⟨h1, 1, none⟩ = some (.slice A1 l1 c1) ∧ w'.cell? ⟨h1, 2, none⟩ = some (.slice A2 l2 c2) ∧ w'.cell? ⟨h2, 0, none⟩ = some (.bool y2) ∧ w'.cell? ⟨h2, 1, none⟩ = some (.slice A3 l3 c3) ∧ w'.cell? ⟨h2, 2, none⟩ = some (.slice A4 l4 c4) ∧ w'.cell? ⟨w.heap.size, 2, none⟩ = some (.int .i64 p0) ∧ w'.cell? ⟨w.heap.size, 3, none⟩ = some (.int .i64 p1) ∧ w'.cell? ⟨w.heap.size, 4, none⟩ = some (.int .i64 p2) ∧ w'.cell? ⟨w.heap.size, 5, none⟩ = some (.int .i64 p3) ∧ w'.cell? ⟨w.heap.size, 6, none⟩ = some (.int .i64 p4) ∧ w'.cell? ⟨w.heap.size, 7, none⟩ = some (.int .i64 p5) ∧ w'.cell? ⟨w.heap.size, 8, none⟩ = some (.int .i64 p6)) (by kernel_rfl) kd.out.cells (fun hHeld => ?_)
          refine hTake (i := 0) (d := some 33) (v := .agg #[.bool y1, .slice A1 l1 c1, .slice A2 l2 c2]) (by kernel_rfl) (by kernel_rfl) (by kernel_rfl) ?_ (by kernel_rfl) (fun _ _ _ h => h) hHeld ?_
          · intro o ho
            simp only [List.getElem?_toArray, List.getElem?_cons_zero, Option.some.injEq] at ho
            subst ho
            refine ⟨rfl, Or.inl ⟨by rfl, ?_⟩⟩
            intro w' hSw
            obtain ⟨s0, s1, s2, s3, s4, s5, s6, s7, s8, s9, s10, s11, s12⟩ := hSw
            first | (go_simp; done) | (with_reducible rfl)
          simp only [Act.put, List.setIfInBounds_toArray, List.set_cons_zero, List.set_cons_succ]
          refine hTake (i := 1) (d := some 34) (v := .agg #[.bool y2, .slice A3 l3 c3, .slice A4 l4 c4]) (by kernel_rfl) (by kernel_rfl) (by kernel_rfl) ?_ (by kernel_rfl) (fun _ _ _ h => h) hHeld ?_
          · intro o ho
            simp only [List.getElem?_toArray, List.getElem?_cons_succ, List.getElem?_cons_zero, Option.some.injEq] at ho
            subst ho
            refine ⟨rfl, Or.inl ⟨by rfl, ?_⟩⟩
            intro w' hSw
            obtain ⟨s0, s1, s2, s3, s4, s5, s6, s7, s8, s9, s10, s11, s12⟩ := hSw
            first | (go_simp; done) | (with_reducible rfl)
          simp only [Act.put, List.setIfInBounds_toArray, List.set_cons_zero, List.set_cons_succ]
          refine hTake (i := 2) (d := some 35) (v := .pointer (some ⟨w.heap.size, 2, none⟩)) (by kernel_rfl) (by kernel_rfl) (by kernel_rfl) ?_ (by kernel_rfl) (fun _ _ _ h => h) hHeld ?_
          · intro o ho
            simp only [List.getElem?_toArray, List.getElem?_cons_succ, List.getElem?_cons_zero, Option.some.injEq] at ho
            subst ho
            refine ⟨rfl, Or.inl ⟨by rfl, ?_⟩⟩
            intro w' hSw
            obtain ⟨s0, s1, s2, s3, s4, s5, s6, s7, s8, s9, s10, s11, s12⟩ := hSw
            first | (go_simp; done) | (with_reducible rfl)
          simp only [Act.put, List.setIfInBounds_toArray, List.set_cons_zero, List.set_cons_succ]
          refine hTake (i := 3) (d := some 36) (v := .agg #[.int .i64 p0, .int .i64 p1, .int .i64 p2, .int .i64 p3, .int .i64 p4, .int .i64 p5, .int .i64 p6]) (by kernel_rfl) (by kernel_rfl) (by kernel_rfl) ?_ (by kernel_rfl) (fun _ _ _ h => h) hHeld ?_
          · intro o ho
            simp only [List.getElem?_toArray, List.getElem?_cons_succ, List.getElem?_cons_zero, Option.some.injEq] at ho
            subst ho
            refine ⟨rfl, Or.inl ⟨by rfl, ?_⟩⟩
            intro w' hSw
            obtain ⟨s0, s1, s2, s3, s4, s5, s6, s7, s8, s9, s10, s11, s12⟩ := hSw
            first | (go_simp; done) | (with_reducible rfl)
          simp only [Act.put, List.setIfInBounds_toArray, List.set_cons_zero, List.set_cons_succ]
          refine hTake (i := 4) (d := some 37) (v := .agg #[.bool y1, .slice A1 l1 c1, .slice A2 l2 c2, .bool y2, .slice A3 l3 c3, .slice A4 l4 c4, .int .i64 p0, .int .i64 p1, .int .i64 p2, .int .i64 p3, .int .i64 p4, .int .i64 p5, .int .i64 p6]) (by kernel_rfl) (by kernel_rfl) (by kernel_rfl) ?_ (by kernel_rfl) (fun _ _ _ h => h) hHeld ?_
          · intro o ho
            simp only [List.getElem?_toArray, List.getElem?_cons_succ, List.getElem?_cons_zero, Option.some.injEq] at ho
            subst ho
            refine ⟨rfl, Or.inl ⟨by rfl, ?_⟩⟩
            intro w' hSw
            obtain ⟨s0, s1, s2, s3, s4, s5, s6, s7, s8, s9, s10, s11, s12⟩ := hSw
            first | (go_simp; done) | (with_reducible rfl)
          simp only [Act.put, List.setIfInBounds_toArray, List.set_cons_zero, List.set_cons_succ]
          refine hTake (i := 5) (d := some 38) (v := .bool true) (by kernel_rfl) (by kernel_rfl) (by kernel_rfl) ?_ (by kernel_rfl) (fun _ _ _ h => h) hHeld ?_
          · intro o ho
            simp only [List.getElem?_toArray, List.getElem?_cons_succ, List.getElem?_cons_zero, Option.some.injEq] at ho
            subst ho
            refine ⟨rfl, Or.inl ⟨by rfl, ?_⟩⟩
            intro w' hSw
            obtain ⟨s0, s1, s2, s3, s4, s5, s6, s7, s8, s9, s10, s11, s12⟩ := hSw
            first | (go_simp; done) | (with_reducible rfl)
          simp only [Act.put, List.setIfInBounds_toArray, List.set_cons_zero, List.set_cons_succ]
          refine hTake (i := 6) (d := some 39) (v := .bool true) (by kernel_rfl) (by kernel_rfl) (by kernel_rfl) ?_ (by kernel_rfl) (fun _ _ _ h => h) hHeld ?_
          · intro o ho
            simp only [List.getElem?_toArray, List.getElem?_cons_succ, List.getElem?_cons_zero, Option.some.injEq] at ho
            subst ho
            refine ⟨rfl, Or.inl ⟨by rfl, ?_⟩⟩
            intro w' hSw
            obtain ⟨s0, s1, s2, s3, s4, s5, s6, s7, s8, s9, s10, s11, s12⟩ := hSw
            first | (go_simp; done) | (with_reducible rfl)
          simp only [Act.put, List.setIfInBounds_toArray, List.set_cons_zero, List.set_cons_succ]
          refine hTake (i := 7) (d := some 40) (v := .bool false) (by kernel_rfl) (by kernel_rfl) (by kernel_rfl) ?_ (by kernel_rfl) (fun _ _ _ h => h) hHeld ?_
          · intro o ho
            simp only [List.getElem?_toArray, List.getElem?_cons_succ, List.getElem?_cons_zero, Option.some.injEq] at ho
            subst ho
            refine ⟨rfl, Or.inl ⟨by rfl, ?_⟩⟩
            intro w' hSw
            obtain ⟨s0, s1, s2, s3, s4, s5, s6, s7, s8, s9, s10, s11, s12⟩ := hSw
            first | (go_simp; done) | (with_reducible rfl)
          simp only [Act.put, List.setIfInBounds_toArray, List.set_cons_zero, List.set_cons_succ]
          refine hTake (i := 8) (d := some 41) (v := .bool false) (by kernel_rfl) (by kernel_rfl) (by kernel_rfl) ?_ (by kernel_rfl) (fun _ _ _ h => h) hHeld ?_
          · intro o ho
            simp only [List.getElem?_toArray, List.getElem?_cons_succ, List.getElem?_cons_zero, Option.some.injEq] at ho
            subst ho
            refine ⟨rfl, Or.inl ⟨by rfl, ?_⟩⟩
            intro w' hSw
            obtain ⟨s0, s1, s2, s3, s4, s5, s6, s7, s8, s9, s10, s11, s12⟩ := hSw
            first | (go_simp; done) | (with_reducible rfl)
          simp only [Act.put, List.setIfInBounds_toArray, List.set_cons_zero, List.set_cons_succ]
          refine hTake (i := 9) (d := some 42) (v := .bool false) (by kernel_rfl) (by kernel_rfl) (by kernel_rfl) ?_ (by kernel_rfl) (fun _ _ _ h => h) hHeld ?_
          · intro o ho
            simp only [List.getElem?_toArray, List.getElem?_cons_succ, List.getElem?_cons_zero, Option.some.injEq] at ho
            subst ho
            refine ⟨rfl, Or.inl ⟨by rfl, ?_⟩⟩
            intro w' hSw
            obtain ⟨s0, s1, s2, s3, s4, s5, s6, s7, s8, s9, s10, s11, s12⟩ := hSw
            first | (go_simp; done) | (with_reducible rfl)
          simp only [Act.put, List.setIfInBounds_toArray, List.set_cons_zero, List.set_cons_succ]
          refine hTake (i := 10) (d := some 43) (v := undef) (by kernel_rfl) (by kernel_rfl) (by kernel_rfl) ?_ (by kernel_rfl) (fun _ _ _ h => h) hHeld ?_
          · intro o ho
            simp only [List.getElem?_toArray, List.getElem?_cons_succ, List.getElem?_cons_zero, Option.some.injEq] at ho
            subst ho
            exact ⟨rfl, Or.inr ⟨by rfl, rfl⟩⟩
          simp only [Act.put, List.setIfInBounds_toArray, List.set_cons_zero, List.set_cons_succ]
          refine hTake (i := 11) (d := some 44) (v := undef) (by kernel_rfl) (by kernel_rfl) (by kernel_rfl) ?_ (by kernel_rfl) (fun _ _ _ h => h) hHeld ?_
          · intro o ho
            simp only [List.getElem?_toArray, List.getElem?_cons_succ, List.getElem?_cons_zero, Option.some.injEq] at ho
            subst ho
            exact ⟨rfl, Or.inr ⟨by rfl, rfl⟩⟩
          simp only [Act.put, List.setIfInBounds_toArray, List.set_cons_zero, List.set_cons_succ]
          refine hTake (i := 12) (d := some 45) (v := undef) (by kernel_rfl) (by kernel_rfl) (by kernel_rfl) ?_ (by kernel_rfl) (fun _ _ _ h => h) hHeld ?_
          · intro o ho
            simp only [List.getElem?_toArray, List.getElem?_cons_succ, List.getElem?_cons_zero, Option.some.injEq] at ho
            subst ho
            exact ⟨rfl, Or.inr ⟨by rfl, rfl⟩⟩
          simp only [Act.put, List.setIfInBounds_toArray, List.set_cons_zero, List.set_cons_succ]
          refine hTake (i := 13) (d := some 46) (v := .bool false) (by kernel_rfl) (by kernel_rfl) (by kernel_rfl) ?_ (by kernel_rfl) (fun _ _ _ h => h) hHeld ?_
          · intro o ho
            simp only [List.getElem?_toArray, List.getElem?_cons_succ, List.getElem?_cons_zero, Option.some.injEq] at ho
            subst ho
            refine ⟨rfl, Or.inl ⟨by rfl, ?_⟩⟩
            intro w' hSw
            obtain ⟨s0, s1, s2, s3, s4, s5, s6, s7, s8, s9, s10, s11, s12⟩ := hSw
            first | (go_simp; done) | (with_reducible rfl)
          simp only [Act.put, List.setIfInBounds_toArray, List.set_cons_zero, List.set_cons_succ]
          refine wpAnyH_ready (rs := [14]) (by kernel_rfl) (by simp) (AllReadyH.cons rfl (fun K hK => ?_) AllReadyH.nil)
          go_simp
          refine hK.out _ _ ?_ (fun hHeld => ?_)
          · try dsimp only
            with_reducible exact kr.out.put_drew _ _ _ _ _ _ _ _ _ _ _ _ _
          clear hK K
          try simp only [Act.put, List.setIfInBounds_toArray, List.set_cons_zero, List.set_cons_succ]
          refine wpAnyH_ready (rs := [15]) (by kernel_rfl) (by simp) (AllReadyH.cons rfl (fun K hK => ?_) AllReadyH.nil)
          go_simp
          refine hK.out _ _ ?_ (fun hHeld => ?_)
          · with_reducible exact hHeld
          clear hK K
          try simp only [Act.put, List.setIfInBounds_toArray, List.set_cons_zero, List.set_cons_succ]
          refine wpAnyH_done (by kernel_rfl) (noP ?_) _
          go_wp2
          refine bodyPost_ret (v := .tuple #[.agg #[.bool y1, .slice A1 l1 c1, .slice A2 l2 c2, .bool y2, .slice A3 l3 c3, .slice A4 l4 c4, .int .i64 p0, .int .i64 p1, .int .i64 p2, .int .i64 p3, .int .i64 p4, .int .i64 p5, .int .i64 p6], .bool false]) (by simp [results, Tryz.results101, go_sem, z0, z1, z2, z3, z4, z5, z6, z7, z8, z9, z10, z11, z12]) rfl ?_
          exact GW.out
        · rw [Bool.and_true] at hvq
          have SG := fun w' v (h : Qr w' v qf) => rsgn_any v qf w' h
          have GW := fun w2 k => GV.out w2 h1 h2 y1 A1 l1 c1 A2 l2 c2 y2 A3 l3 c3 A4 l4 c4 qf qo [.bool y1, .slice A1 l1 c1, .slice A2 l2 c2, .bool y2, .slice A3 l3 c3, .slice A4 l4 c4, .int .i64 p0, .int .i64 p1, .int .i64 p2, .int .i64 p3, .int .i64 p4, .int .i64 p5, .int .i64 p6] k Z1.out Z2.out O1.out O2.out
          rw [hvv, hvq] at GW
          have GW := Lib.hid GW
          clear HV GV hvv hvq hx hq
          generalize sign qf = s at *
          have kd := Lib.hid (kr.out.up (Below.drew (Below.refl _ _)))
          go_wp2_with fail
          go_region_held3 (fun w' => w'.cell? ⟨h1, 0, none⟩ = some (.bool y1) ∧ w'.cell? ⟨h1, 1, none⟩ = some (.slice A1 l1 c1) ∧ w'.cell? ⟨h1, 2, none⟩ = some (.slice A2 l2 c2) ∧ w'.cell? ⟨h2, 0, none⟩ = some (.bool y2) ∧ w'.cell? ⟨h2, 1, none⟩ = some (.slice A3 l3 c3) ∧ w'.cell? ⟨h2, 2, none⟩ = some (.slice A4 l4 c4) ∧ w'.cell? ⟨w.heap.size, 2, none⟩ = some (.int .i64 p0) ∧ w'.cell? ⟨w.heap.size, 3, none⟩ = some (.int .i64 p1) ∧ w'.cell? ⟨w.heap.size, 4, none⟩ = some (.int .i64 p2) ∧ w'.cell? ⟨w.heap.size, 5, none⟩ = some (.int .i64 p3) ∧ w'.cell? ⟨w.heap.size, 6, none⟩ = some (.int .i64 p4) ∧ w'.cell? ⟨w.heap.size, 7, none⟩ = some (.int .i64 p5) ∧ w'.cell? ⟨w.heap.size, 8, none⟩ = some (.int .i64 p6))
            (first | (with_reducible exact k1.out.put _ _ _ _ _ _ _ _ _ _ _ _ _) | (with_reducible exact k1.out.cells) | (with_reducible exact kd.out.cells) | go_keep)
            (first | (go_at_call 51; go_loud ((with_reducible refine (SG _ _ kd.out.f).mono ?_); rintro e w1 ⟨rfl, hb⟩; have k1 := Lib.hid (kd.out.up hb); obtain ⟨z0, z1, z2, z3, z4, z5, z6, z7, z8, z9, z10, z11, z12⟩ := sc_cells k1.out.2.1; obtain ⟨f0, f1, f2, f3, f4, f5, f6, f7, f8, f9, f10, f11, f12⟩ := k1.out.2.1.frozen13; clear hb)))
          go_wp2
          refine bodyPost_ret (v := .tuple #[.agg #[.bool y1, .slice A1 l1 c1, .slice A2 l2 c2, .bool y2, .slice A3 l3 c3, .slice A4 l4 c4, .int .i64 p0, .int .i64 p1, .int .i64 p2, .int .i64 p3, .int .i64 p4, .int .i64 p5, .int .i64 p6], .bool (decide (0 < s))]) (by simp [results, Tryz.results101, go_sem, z0, z1, z2, z3, z4, z5, z6, z7, z8, z9, z10, z11, z12]) rfl ?_
          exact GW.out w1 k1.out

end Go.Proofs.YtinoipjblkidfaaGreatDoor

/- Units of the reference: ValidUnit, Plain, Same. -/
namespace Go.Proofs.YtinoipjblkidfaaGreatDoor
open Go.RowKit Go.Proofs.YtinoipjblkidfaaGreatDoor.Dg Go.Proofs.YtinoipjblkidfaaGreatDoor.Q Go.Proofs.YtinoipjblkidfaaGreatDoor.Num

/-- read, with the unit written out. -/
theorem rread_at (F O : ByteArray) (p0 p1 p2 p3 p4 p5 p6 : Int) (v : Bool) (hv : vU (bl F) (bl O) ⟨p0, p1, p2, p3, p4, p5, p6⟩ = v) (hF : F.size ≤ 9223372036854775807) (hO : O.size ≤ 9223372036854775807) (w : World) :
    Calls Tryz.prog 101 #[.agg #[.string F, .string O, .int .i64 p0, .int .i64 p1, .int .i64 p2, .int .i64 p3, .int .i64 p4, .int .i64 p5, .int .i64 p6]] w fun e w' => ∃ (y1 : Bool) (A1 : Option Addr) (l1 c1 : Nat) (A2 : Option Addr) (l2 c2 : Nat) (y2 : Bool) (A3 : Option Addr) (l3 c3 : Nat) (A4 : Option Addr) (l4 c4 : Nat) (qf qo : Rat),
      e = .returned (.tuple #[.agg #[.bool y1, .slice A1 l1 c1, .slice A2 l2 c2, .bool y2, .slice A3 l3 c3, .slice A4 l4 c4, .int .i64 p0, .int .i64 p1, .int .i64 p2, .int .i64 p3, .int .i64 p4, .int .i64 p5, .int .i64 p6], .bool v]) ∧ Below w.heap.size w w' ∧
      Qr w' (.agg #[.bool y1, .slice A1 l1 c1, .slice A2 l2 c2]) qf ∧ Qr w' (.agg #[.bool y2, .slice A3 l3 c3, .slice A4 l4 c4]) qo ∧ sz qf ≤ 5000 ∧ sz qo ≤ 5000 ∧ (∀ q, num? (bl F) = some q → qf = q) ∧ (∀ q, num? (bl O) = some q → qo = q) := by
  subst hv
  exact rread_unit F O ⟨p0, p1, p2, p3, p4, p5, p6⟩ hF hO w

set_option maxRecDepth 100000 in
set_option maxHeartbeats 6400000 in
theorem rvalidU_any (F O : ByteArray) (p : P7) (hF : F.size ≤ 9223372036854775807) (hO : O.size ≤ 9223372036854775807) (w : World) :
    Calls Tryz.prog 70 #[uv F O p] w fun e w' => e = .returned (.bool (vU (bl F) (bl O) p)) ∧ Below w.heap.size w w' := by
  have k0 := Lib.hid (KU.start w F O p)
  obtain ⟨v, hv⟩ : ∃ v, vU (bl F) (bl O) p = v := ⟨_, rfl⟩
  rw [hv]
  obtain ⟨p0, p1, p2, p3, p4, p5, p6⟩ := p
  have R1 := fun w' => rread_at F O p0 p1 p2 p3 p4 p5 p6 v hv hF hO w'
  unfold uv
  dsimp only at *
  clear hv hF hO
  go_enter Tryz.func70, Tryz.ntmps70
  go_wp2_with (go_at_call 101; go_loud ((with_reducible refine (R1 _).mono ?_); rintro e w1 ⟨y1, A1, l1, c1, A2, l2, c2, y2, A3, l3, c3, A4, l4, c4, qf, qo, rfl, hb, hf, ho, z1, z2, o1, o2⟩; have b1 := Lib.hid (btrans k0.out.2.1 hb); clear hb hf ho z1 z2 o1 o2))
  go_ret
  exact ⟨rfl, below_alloc b1.out _⟩

set_option maxRecDepth 100000 in
set_option maxHeartbeats 6400000 in
theorem rplainU_any (F O : ByteArray) (p : P7) (hF : F.size ≤ 9223372036854775807) (hO : O.size ≤ 9223372036854775807) (w : World) :
    Calls Tryz.prog 120 #[uv F O p] w fun e w' => e = .returned (.bool (plainU (bl F) (bl O) p)) ∧ Below w.heap.size w w' := by
  have k0 := Lib.hid (KU.start w F O p)
  have V1 := fun w' (_ : Below w.heap.size w w') => rvalidU_any F O p hF hO w'
  have hz : (O.toList == [48]) = decide (bl O = [48]) := eqS O [48]
  obtain ⟨r, hr⟩ : ∃ r, plainU (bl F) (bl O) p = r := ⟨_, rfl⟩
  have HR := Lib.hid hr
  rw [hr]
  unfold plainU at HR
  clear hF hO hr
  generalize vU (bl F) (bl O) p = v at *
  generalize decide (bl O = [48]) = z at *
  obtain ⟨p0, p1, p2, p3, p4, p5, p6⟩ := p
  unfold uv at *
  dsimp only at *
  cases v
  · go_enter Tryz.func120, Tryz.ntmps120
    go_wp2_with (go_at_call 70; go_loud (refine (V1 _ k0.out.2.1).mono ?_; rintro e w1 ⟨rfl, hb⟩; have k1 := Lib.hid (k0.out.up hb); obtain ⟨c0, c1, c2, c3, c4, c5, c6, c7, c8⟩ := k1.out.1.cells; clear hb))
    go_ret
    exact ⟨by rw [← HR.out]; rfl, k1.out.2.1⟩
  · go_enter Tryz.func120, Tryz.ntmps120
    go_wp2_with (go_at_call 70; go_loud (refine (V1 _ k0.out.2.1).mono ?_; rintro e w1 ⟨rfl, hb⟩; have k1 := Lib.hid (k0.out.up hb); obtain ⟨c0, c1, c2, c3, c4, c5, c6, c7, c8⟩ := k1.out.1.cells; clear hb))
    go_ret
    exact ⟨by rw [← HR.out]; rfl, k1.out.2.1⟩

set_option maxRecDepth 100000 in
set_option maxHeartbeats 6400000 in
theorem rSame_any (F O F' O' : ByteArray) (p p' : P7) (hF : F.size ≤ 9223372036854775807) (hO : O.size ≤ 9223372036854775807) (w : World) :
    Calls Tryz.prog 67 #[uv F O p, uv F' O' p'] w fun e w' => e = .returned (.bool (sameU (bl F) (bl O) p (bl F') (bl O') p')) ∧ Below w.heap.size w w' := by
  have k0 := Lib.hid (show Ub ((w.alloc (.cells (unC F O p) 24)).alloc (.cells (unC F' O' p') 24)) w.heap.size F O p ∧ Ub ((w.alloc (.cells (unC F O p) 24)).alloc (.cells (unC F' O' p') 24)) (w.heap.size + 1) F' O' p' ∧ Below w.heap.size w ((w.alloc (.cells (unC F O p) 24)).alloc (.cells (unC F' O' p') 24)) from by
    have s1 : (w.alloc (.cells (unC F O p) 24)).heap.size = w.heap.size + 1 := by simp
    refine ⟨(Bk.new w _ _).alloc, ?_, ((Below.refl _ w).alloc (Nat.le_refl _) _).alloc (by rw [s1]; omega) _⟩
    have := Bk.new (w.alloc (.cells (unC F O p) 24)) (unC F' O' p') 24
    rw [s1] at this
    exact this)
  have V1 := fun w' (_ : Below w.heap.size w w') => rvalidU_any F O p hF hO w'
  obtain ⟨X, hX⟩ : ∃ X, sameU (bl F) (bl O) p (bl F') (bl O') p' = X := ⟨_, rfl⟩
  rw [hX]
  unfold sameU at hX
  have e1 := toList_eq F F'
  have e2 := toList_eq O O'
  have e3 : ∀ w, (Op.equalIn 9999 22 (.agg p.C) (.agg p'.C)).run Tryz.prog w = .ok (decide (p = p')) w := fun w => eq7 9997 p p' w
  unfold P7.C at e3
  rw [show decide (bl F = bl F' ∧ bl O = bl O' ∧ p = p') = (decide (bl F = bl F') && (decide (bl O = bl O') && decide (p = p'))) by simp] at hX
  generalize decide (bl F = bl F') = v1 at *
  generalize decide (bl O = bl O') = v2 at *
  generalize decide (p = p') = v3 at *
  have HX := Lib.hid hX
  clear hX hF hO
  generalize vU (bl F) (bl O) p = v at *
  unfold unC at k0
  obtain ⟨p0, p1, p2, p3, p4, p5, p6⟩ := p
  obtain ⟨q0, q1, q2, q3, q4, q5, q6⟩ := p'
  unfold uv at *
  dsimp only at *
  cases v
  · go_enter Tryz.func67, Tryz.ntmps67
    go_wp2_with (go_at_call 70; go_loud ((with_reducible refine (V1 _ k0.out.2.2).mono ?_); rintro e w1 ⟨rfl, hb⟩; have k1 := Lib.hid (btrans k0.out.2.2 hb); clear hb))
    go_ret
    exact ⟨by rw [← HX.out]; rfl, k1.out⟩
  · cases v1
    · go_enter Tryz.func67, Tryz.ntmps67
      go_wp2_with (go_at_call 70; go_loud ((with_reducible refine (V1 _ k0.out.2.2).mono ?_); rintro e w1 ⟨rfl, hb⟩; have k1 := Lib.hid (btrans k0.out.2.2 hb); obtain ⟨c0, c1, c2, c3, c4, c5, c6, c7, c8⟩ := (k0.out.1.up hb).cells; obtain ⟨d0, d1, d2, d3, d4, d5, d6, d7, d8⟩ := (k0.out.2.1.up hb).cells; clear hb))
      go_ret
      exact ⟨by rw [← HX.out]; rfl, k1.out⟩
    · cases v2
      · go_enter Tryz.func67, Tryz.ntmps67
        go_wp2_with (go_at_call 70; go_loud ((with_reducible refine (V1 _ k0.out.2.2).mono ?_); rintro e w1 ⟨rfl, hb⟩; have k1 := Lib.hid (btrans k0.out.2.2 hb); obtain ⟨c0, c1, c2, c3, c4, c5, c6, c7, c8⟩ := (k0.out.1.up hb).cells; obtain ⟨d0, d1, d2, d3, d4, d5, d6, d7, d8⟩ := (k0.out.2.1.up hb).cells; clear hb))
        go_ret
        exact ⟨by rw [← HX.out]; rfl, k1.out⟩
      · cases v3
        all_goals
          go_enter Tryz.func67, Tryz.ntmps67
          go_wp2_with (go_at_call 70; go_loud ((with_reducible refine (V1 _ k0.out.2.2).mono ?_); rintro e w1 ⟨rfl, hb⟩; have k1 := Lib.hid (btrans k0.out.2.2 hb); obtain ⟨c0, c1, c2, c3, c4, c5, c6, c7, c8⟩ := (k0.out.1.up hb).cells; obtain ⟨d0, d1, d2, d3, d4, d5, d6, d7, d8⟩ := (k0.out.2.1.up hb).cells; clear hb))
          go_ret
          exact ⟨by rw [← HX.out]; rfl, k1.out⟩

end Go.Proofs.YtinoipjblkidfaaGreatDoor
