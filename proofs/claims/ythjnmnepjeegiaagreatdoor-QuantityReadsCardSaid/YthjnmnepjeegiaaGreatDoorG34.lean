/- The reference's parser of units: products and sums of factors, and the world of combined. -/
import Derived.Test.YthjnmnepjeegiaaGreatDoorG32
import Derived.Test.YthjnmnepjeegiaaGreatDoorG20
/- The reference's parser of units: products and sums of factors, and the world of combined. -/
namespace Go.Proofs.YthjnmnepjeegiaaGreatDoor
open Go.RowKit Go.Proofs.YthjnmnepjeegiaaGreatDoor.Dg Go.Proofs.YthjnmnepjeegiaaGreatDoor.Q Go.Proofs.YthjnmnepjeegiaaGreatDoor.Num Go.Proofs.YthjnmnepjeegiaaGreatDoor.Str

theorem rprodF_succ {fs : List (Int × RF)} {k : Nat} {sg : Int} {f : RF} (h : fs[k]? = some (sg, f)) : rprodF (fs.take (k + 1)) = rprodF (fs.take k) * f.num ^ (sg * f.exp) := by
  unfold rprodF
  rw [List.take_add_one, h, List.foldl_append]
  rfl
theorem rsumF_succ {fs : List (Int × RF)} {k : Nat} {sg : Int} {f : RF} (h : fs[k]? = some (sg, f)) : rsumF (fs.take (k + 1)) = (rsumF (fs.take k)).plus (sg * f.exp) f.p := by
  unfold rsumF
  rw [List.take_add_one, h, List.foldl_append]
  rfl
theorem rofsF_succ {fs : List (Int × RF)} {k : Nat} {sg : Int} {f : RF} (h : fs[k]? = some (sg, f)) : rofsF (fs.take (k + 1)) = if f.off = true then f.ofs else rofsF (fs.take k) := by
  unfold rofsF
  rw [List.take_add_one, h, List.foldl_append]
  rfl
def goodF (x : Int × RF) : Prop := (x.1 = 1 ∨ x.1 = -1) ∧ 0 < x.2.num ∧ sz x.2.num ≤ 5
def smF (x : Int × RF) : Prop := x.2.p.small ∧ sz x.2.ofs ≤ 100
theorem FCs.sm {w : World} {xs : List Value} {fs : List (Int × RF)} (h : FCs w xs fs) : ∀ x ∈ fs, smF x := by
  induction h with
  | nil => intro x hx; cases hx
  | snoc _ h2 ih =>
    intro x hx
    rcases List.mem_append.1 hx with hx | hx
    · exact ih x hx
    · rw [List.mem_singleton.1 hx]
      obtain ⟨_, e1, _, e3, h3⟩ := h2
      exact ⟨by rw [e1]; exact h3.1, by rw [e3]; exact h3.2.2.2⟩
theorem exp_in {sg e : Int} (hs : sg = 1 ∨ sg = -1) (h : wi e = true) : -12 ≤ sg * e ∧ sg * e ≤ 12 := by
  have := wi_iff.1 h
  rcases hs with rfl | rfl <;> omega
theorem rsumF_le {fs : List (Int × RF)} (hg : ∀ x ∈ fs, goodF x) (hs : ∀ x ∈ fs, smF x) (he : ∀ x ∈ fs, wi x.2.exp = true) : ∀ {k : Nat}, k ≤ fs.length → (rsumF (fs.take k)).le (36 * k)
  | 0, _ => by
    rw [List.take_zero]
    refine ⟨⟨?_, ?_⟩, ⟨?_, ?_⟩, ⟨?_, ?_⟩, ⟨?_, ?_⟩, ⟨?_, ?_⟩, ⟨?_, ?_⟩, ⟨?_, ?_⟩⟩ <;> decide
  | k + 1, hk => by
    obtain ⟨⟨sg, f⟩, hx⟩ : ∃ x, fs[k]? = some x := ⟨_, List.getElem?_eq_getElem (by omega)⟩
    have h1 := rsumF_le hg hs he (k := k) (by omega)
    have hm := List.mem_of_getElem? hx
    rw [rsumF_succ hx]
    have h2 := P7.le_plus h1 (exp_in (hg _ hm).1 (he _ hm)) (hs _ hm).1
    rw [show (36 : Int) * ((k + 1 : Nat) : Int) = 36 * (k : Int) + 36 by omega]
    exact h2
theorem rprodF_sz {fs : List (Int × RF)} (hg : ∀ x ∈ fs, goodF x) (he : ∀ x ∈ fs, wi x.2.exp = true) : ∀ {k : Nat}, k ≤ fs.length → sz (rprodF (fs.take k)) ≤ 1 + 62 * k
  | 0, _ => by
    rw [List.take_zero]
    show sz (1 : Rat) ≤ _
    rw [sz_one]
    omega
  | k + 1, hk => by
    obtain ⟨⟨sg, f⟩, hx⟩ : ∃ x, fs[k]? = some x := ⟨_, List.getElem?_eq_getElem (by omega)⟩
    have h1 := rprodF_sz hg he (k := k) (by omega)
    have hm := List.mem_of_getElem? hx
    obtain ⟨g1, g2, g3⟩ := hg _ hm
    have hw := exp_in g1 (he _ hm)
    have h2 := sz_zpow (Rat.ne_of_gt g2) g3 (sg * f.exp)
    have h3 := sz_mul (rprodF (fs.take k)) (f.num ^ (sg * f.exp))
    rw [rprodF_succ hx]
    have h4 : (sg * f.exp).natAbs ≤ 12 := by dsimp only at hw; omega
    have h5 : (sg * f.exp).natAbs * 5 ≤ 60 := by omega
    dsimp only at h2
    omega
theorem rofsF_sz {fs : List (Int × RF)} (hs : ∀ x ∈ fs, smF x) : ∀ {k : Nat}, k ≤ fs.length → sz (rofsF (fs.take k)) ≤ 5000
  | 0, _ => sz_zero
  | k + 1, hk => by
    obtain ⟨⟨sg, f⟩, hx⟩ : ∃ x, fs[k]? = some x := ⟨_, List.getElem?_eq_getElem (by omega)⟩
    rw [rofsF_succ hx]
    split
    · exact Nat.le_trans (hs _ (List.mem_of_getElem? hx)).2 (by decide)
    · exact rofsF_sz hs (by omega)
theorem row_range {w wr : World} {gl : Nat} {xs : List Value} (hc : ∀ j u, xs[j]? = some u → w.cell? ⟨gl, j, none⟩ = some u) (hg : gl < w.heap.size) (hb : Below w.heap.size w wr) {k : Nat} {ys : List Value} (hy : ∀ j u, ys[j]? = some u → xs[k * 21 + j]? = some u) : wr.rangeAt gl (k * 21) ys :=
  fun j v hv => (hb.cell (p := ⟨gl, k * 21 + j, none⟩) hg).trans (hc _ _ (hy j v hv))
theorem Bk.range {w : World} {g : Nat} {C : Array Value} {t : TypeId} (h : Bk w g C t) (pre l post : List Value) (hC : C = (pre ++ l ++ post).toArray) : w.rangeAt g pre.length l := fun j v hv => by
  rw [h.cell, hC, List.getElem?_toArray, List.append_assoc, List.getElem?_append_right (Nat.le_add_right ..), Nat.add_sub_cancel_left, List.getElem?_append_left (List.getElem?_eq_some_iff.1 hv).1, hv]
/-- An address of an element. -/
theorem wpList_indexAddr_is {P : Program} {ops : Array Oper} {Q : Exit → Act → World → Prop} {a : Act} {w : World} {rest : List Oper} {o : Oper} (hgd : o.guard = none) (t : TypeId) (x ix : Operand) (ho : o.op = .indexAddr t x ix) (vx vi v : Value) (hx : a.eval x = vx) (hi : a.eval ix = vi)
    (hrun : (Instr.indexAt t vx vi).run P w = .ok v w) (h : wpList P ops Q rest (a.put o.dst v) w) : wpList P ops Q (o :: rest) a w := by
  subst hx hi
  refine wpList_run_is hgd v ?_ h
  unfold execOp
  simp only [ho]
  rw [Sem.run_bind, hrun]
  rfl
theorem Tryz.indexF (g n c k : Nat) (h : k < n) (w : World) : (Instr.indexAt 48 (.slice (some ⟨g, 0, none⟩) n c) (.int .i64 (k : Int))).run Tryz.prog w = .ok (.pointer (some ⟨g, k * 21, none⟩)) w := by
  have h1 : (k : Int) < (n : Int) := by omega
  go_simp
/-- A unit with exact parts in block g3, and the result. -/
def UI (w wr : World) (g3 : Nat) (q o : Rat) (p : P7) : Prop := Bk wr w.heap.size sc0C 62 ∧ Below w.heap.size w wr ∧ w.heap.size < g3 ∧ ∃ (y : Bool) (A1 : Option Addr) (l1 d1 : Nat) (A2 : Option Addr) (l2 d2 : Nat) (y' : Bool) (A3 : Option Addr) (l3 d3 : Nat) (A4 : Option Addr) (l4 d4 : Nat), Bk wr g3 #[.bool y, .slice A1 l1 d1, .slice A2 l2 d2, .bool y', .slice A3 l3 d3, .slice A4 l4 d4, .int .i64 p.a, .int .i64 p.b, .int .i64 p.c, .int .i64 p.d, .int .i64 p.e, .int .i64 p.f, .int .i64 p.g] 62 ∧ Qr wr (.agg #[.bool y, .slice A1 l1 d1, .slice A2 l2 d2]) q ∧ Qr wr (.agg #[.bool y', .slice A3 l3 d3, .slice A4 l4 d4]) o
theorem UI.b {w wr : World} {g3 : Nat} {q o : Rat} {p : P7} (h : UI w wr g3 q o p) : Below w.heap.size w wr := h.2.1
theorem UI.up {w w1 w2 : World} {g3 : Nat} {q o : Rat} {p : P7} (h : UI w w1 g3 q o p) (hb : Below w1.heap.size w1 w2) : UI w w2 g3 q o p := by
  obtain ⟨h1, h2, h3, y, A1, l1, d1, A2, l2, d2, y', A3, l3, d3, A4, l4, d4, h4, h5, h6⟩ := h
  exact ⟨h1.up hb, btrans h2 hb, h3, y, A1, l1, d1, A2, l2, d2, y', A3, l3, d3, A4, l4, d4, h4.up hb, h5.up hb, h6.up hb⟩
theorem UI.grow {w w1 : World} {g3 : Nat} {q o : Rat} {p : P7} (h : UI w w1 g3 q o p) (C : Array Value) (t : TypeId) : UI w (w1.alloc (.cells C t)) g3 q o p := h.up (below_alloc (Below.refl _ _) _)
theorem UI.lt {w w1 : World} {g3 : Nat} {q o : Rat} {p : P7} (h : UI w w1 g3 q o p) : g3 < w1.heap.size := by
  obtain ⟨_, _, _, y, A1, l1, d1, A2, l2, d2, y', A3, l3, d3, A4, l4, d4, h4, _⟩ := h
  exact h4.lt
theorem UI.start {w w1 : World} {q : Rat} {y : Bool} {A1 : Option Addr} {l1 d1 : Nat} {A2 : Option Addr} {l2 d2 : Nat} (hb : Below (w.alloc (.cells sc0C 62)).heap.size (w.alloc (.cells sc0C 62)) w1) (hq : Qr w1 (.agg #[.bool y, .slice A1 l1 d1, .slice A2 l2 d2]) q) : UI w (w1.alloc (.cells #[.bool y, .slice A1 l1 d1, .slice A2 l2 d2, .bool false, .slice none 0 0, .slice none 0 0, .int .i64 0, .int .i64 0, .int .i64 0, .int .i64 0, .int .i64 0, .int .i64 0, .int .i64 0] 62)) w1.heap.size q 0 ⟨0, 0, 0, 0, 0, 0, 0⟩ := by
  have h1 := (Bk.new w sc0C 62).up hb
  exact ⟨h1.alloc, below_alloc (btrans (below_alloc (Below.refl _ _) _) hb) _, h1.lt, y, A1, l1, d1, A2, l2, d2, false, none, 0, 0, none, 0, 0, Bk.new w1 _ _, hq.up (below_alloc (Below.refl _ _) _), Qr.zero _⟩
theorem scl_not {a b : Bool} {A1 A2 A3 A4 : Option Addr} {l1 d1 l2 d2 l3 d3 l4 d4 : Nat} {s0 s1 s2 s3 s4 s5 s6 : Int} : (#[.bool a, .slice A1 l1 d1, .slice A2 l2 d2, .bool b, .slice A3 l3 d3, .slice A4 l4 d4, .int .i64 s0, .int .i64 s1, .int .i64 s2, .int .i64 s3, .int .i64 s4, .int .i64 s5, .int .i64 s6] : Array Value).all (notK .u64) = true := by simp [notK]
/-- The number is stored. -/
theorem UI.putQ {w w1 : World} {g3 : Nat} {q o : Rat} {p : P7} (h : UI w w1 g3 q o p) {z : Bool} {B1 : Option Addr} {m1 c1 : Nat} {B2 : Option Addr} {m2 c2 : Nat} {q2 : Rat} (hq : Qr w1 (.agg #[.bool z, .slice B1 m1 c1, .slice B2 m2 c2]) q2) : UI w (((w1.setCell ⟨g3, 0, none⟩ (.bool z)).setCell ⟨g3, 1, none⟩ (.slice B1 m1 c1)).setCell ⟨g3, 2, none⟩ (.slice B2 m2 c2)) g3 q2 o p := by
  obtain ⟨h1, h2, h3, y, A1, l1, d1, A2, l2, d2, y', A3, l3, d3, A4, l4, d4, h4, h5, h6⟩ := h
  show UI w (putL w1 g3 0 [.bool z, .slice B1 m1 c1, .slice B2 m2 c2]) g3 q2 o p
  exact ⟨h1.put_other _ _ (by omega), putL_below (Nat.le_of_lt h3) _ _ h2, h3, z, B1, m1, c1, B2, m2, c2, y', A3, l3, d3, A4, l4, d4, Bk.put_mid [.bool z, .slice B1 m1 c1, .slice B2 m2 c2] [] [.bool y, .slice A1 l1 d1, .slice A2 l2 d2] [.bool y', .slice A3 l3 d3, .slice A4 l4 d4, .int .i64 p.a, .int .i64 p.b, .int .i64 p.c, .int .i64 p.d, .int .i64 p.e, .int .i64 p.f, .int .i64 p.g] h4 rfl, hq.putN h4 scl_not _ _, h6.putN h4 scl_not _ _⟩
/-- The offset is stored. -/
theorem UI.putO {w w1 : World} {g3 : Nat} {q o : Rat} {p : P7} (h : UI w w1 g3 q o p) {z : Bool} {B1 : Option Addr} {m1 c1 : Nat} {B2 : Option Addr} {m2 c2 : Nat} {q2 : Rat} (hq : Qr w1 (.agg #[.bool z, .slice B1 m1 c1, .slice B2 m2 c2]) q2) : UI w (((w1.setCell ⟨g3, 3, none⟩ (.bool z)).setCell ⟨g3, 4, none⟩ (.slice B1 m1 c1)).setCell ⟨g3, 5, none⟩ (.slice B2 m2 c2)) g3 q q2 p := by
  obtain ⟨h1, h2, h3, y, A1, l1, d1, A2, l2, d2, y', A3, l3, d3, A4, l4, d4, h4, h5, h6⟩ := h
  show UI w (putL w1 g3 3 [.bool z, .slice B1 m1 c1, .slice B2 m2 c2]) g3 q q2 p
  exact ⟨h1.put_other _ _ (by omega), putL_below (Nat.le_of_lt h3) _ _ h2, h3, y, A1, l1, d1, A2, l2, d2, z, B1, m1, c1, B2, m2, c2, Bk.put_mid [.bool z, .slice B1 m1 c1, .slice B2 m2 c2] [.bool y, .slice A1 l1 d1, .slice A2 l2 d2] [.bool y', .slice A3 l3 d3, .slice A4 l4 d4] [.int .i64 p.a, .int .i64 p.b, .int .i64 p.c, .int .i64 p.d, .int .i64 p.e, .int .i64 p.f, .int .i64 p.g] h4 rfl, h5.putN h4 scl_not _ _, hq.putN h4 scl_not _ _⟩
theorem UI.six {w w1 : World} {g3 : Nat} {q o : Rat} {p : P7} (h : UI w w1 g3 q o p) (i : Nat) : w1.frozen? ⟨g3, i, none⟩ = false := by
  obtain ⟨_, _, _, y, A1, l1, d1, A2, l2, d2, y', A3, l3, d3, A4, l4, d4, h4, _⟩ := h
  exact h4.frozen i
theorem UI.pow0 {w w1 : World} {g3 : Nat} {q o : Rat} {p : P7} (h : UI w w1 g3 q o p) : w1.cell? ⟨g3, 6, none⟩ = some (.int .i64 p.a) := by
  obtain ⟨_, _, _, y, A1, l1, d1, A2, l2, d2, y', A3, l3, d3, A4, l4, d4, h4, _⟩ := h
  exact h4.cell 6
theorem UI.put0 {w w1 : World} {g3 : Nat} {q o : Rat} {p : P7} (h : UI w w1 g3 q o p) (v : Int) : UI w (w1.setCell ⟨g3, 6, none⟩ (.int .i64 v)) g3 q o ⟨v, p.b, p.c, p.d, p.e, p.f, p.g⟩ := by
  obtain ⟨h1, h2, h3, y, A1, l1, d1, A2, l2, d2, y', A3, l3, d3, A4, l4, d4, h4, h5, h6⟩ := h
  exact ⟨h1.set_other _ (by omega), h2.setCell (Nat.le_of_lt h3) _, h3, y, A1, l1, d1, A2, l2, d2, y', A3, l3, d3, A4, l4, d4, h4.set (i := 6) (.int .i64 v), h5.putN h4 scl_not 6 [.int .i64 v], h6.putN h4 scl_not 6 [.int .i64 v]⟩
theorem UI.pow1 {w w1 : World} {g3 : Nat} {q o : Rat} {p : P7} (h : UI w w1 g3 q o p) : w1.cell? ⟨g3, 7, none⟩ = some (.int .i64 p.b) := by
  obtain ⟨_, _, _, y, A1, l1, d1, A2, l2, d2, y', A3, l3, d3, A4, l4, d4, h4, _⟩ := h
  exact h4.cell 7
theorem UI.put1 {w w1 : World} {g3 : Nat} {q o : Rat} {p : P7} (h : UI w w1 g3 q o p) (v : Int) : UI w (w1.setCell ⟨g3, 7, none⟩ (.int .i64 v)) g3 q o ⟨p.a, v, p.c, p.d, p.e, p.f, p.g⟩ := by
  obtain ⟨h1, h2, h3, y, A1, l1, d1, A2, l2, d2, y', A3, l3, d3, A4, l4, d4, h4, h5, h6⟩ := h
  exact ⟨h1.set_other _ (by omega), h2.setCell (Nat.le_of_lt h3) _, h3, y, A1, l1, d1, A2, l2, d2, y', A3, l3, d3, A4, l4, d4, h4.set (i := 7) (.int .i64 v), h5.putN h4 scl_not 7 [.int .i64 v], h6.putN h4 scl_not 7 [.int .i64 v]⟩
theorem UI.pow2 {w w1 : World} {g3 : Nat} {q o : Rat} {p : P7} (h : UI w w1 g3 q o p) : w1.cell? ⟨g3, 8, none⟩ = some (.int .i64 p.c) := by
  obtain ⟨_, _, _, y, A1, l1, d1, A2, l2, d2, y', A3, l3, d3, A4, l4, d4, h4, _⟩ := h
  exact h4.cell 8
theorem UI.put2 {w w1 : World} {g3 : Nat} {q o : Rat} {p : P7} (h : UI w w1 g3 q o p) (v : Int) : UI w (w1.setCell ⟨g3, 8, none⟩ (.int .i64 v)) g3 q o ⟨p.a, p.b, v, p.d, p.e, p.f, p.g⟩ := by
  obtain ⟨h1, h2, h3, y, A1, l1, d1, A2, l2, d2, y', A3, l3, d3, A4, l4, d4, h4, h5, h6⟩ := h
  exact ⟨h1.set_other _ (by omega), h2.setCell (Nat.le_of_lt h3) _, h3, y, A1, l1, d1, A2, l2, d2, y', A3, l3, d3, A4, l4, d4, h4.set (i := 8) (.int .i64 v), h5.putN h4 scl_not 8 [.int .i64 v], h6.putN h4 scl_not 8 [.int .i64 v]⟩
theorem UI.pow3 {w w1 : World} {g3 : Nat} {q o : Rat} {p : P7} (h : UI w w1 g3 q o p) : w1.cell? ⟨g3, 9, none⟩ = some (.int .i64 p.d) := by
  obtain ⟨_, _, _, y, A1, l1, d1, A2, l2, d2, y', A3, l3, d3, A4, l4, d4, h4, _⟩ := h
  exact h4.cell 9
theorem UI.put3 {w w1 : World} {g3 : Nat} {q o : Rat} {p : P7} (h : UI w w1 g3 q o p) (v : Int) : UI w (w1.setCell ⟨g3, 9, none⟩ (.int .i64 v)) g3 q o ⟨p.a, p.b, p.c, v, p.e, p.f, p.g⟩ := by
  obtain ⟨h1, h2, h3, y, A1, l1, d1, A2, l2, d2, y', A3, l3, d3, A4, l4, d4, h4, h5, h6⟩ := h
  exact ⟨h1.set_other _ (by omega), h2.setCell (Nat.le_of_lt h3) _, h3, y, A1, l1, d1, A2, l2, d2, y', A3, l3, d3, A4, l4, d4, h4.set (i := 9) (.int .i64 v), h5.putN h4 scl_not 9 [.int .i64 v], h6.putN h4 scl_not 9 [.int .i64 v]⟩
theorem UI.pow4 {w w1 : World} {g3 : Nat} {q o : Rat} {p : P7} (h : UI w w1 g3 q o p) : w1.cell? ⟨g3, 10, none⟩ = some (.int .i64 p.e) := by
  obtain ⟨_, _, _, y, A1, l1, d1, A2, l2, d2, y', A3, l3, d3, A4, l4, d4, h4, _⟩ := h
  exact h4.cell 10
theorem UI.put4 {w w1 : World} {g3 : Nat} {q o : Rat} {p : P7} (h : UI w w1 g3 q o p) (v : Int) : UI w (w1.setCell ⟨g3, 10, none⟩ (.int .i64 v)) g3 q o ⟨p.a, p.b, p.c, p.d, v, p.f, p.g⟩ := by
  obtain ⟨h1, h2, h3, y, A1, l1, d1, A2, l2, d2, y', A3, l3, d3, A4, l4, d4, h4, h5, h6⟩ := h
  exact ⟨h1.set_other _ (by omega), h2.setCell (Nat.le_of_lt h3) _, h3, y, A1, l1, d1, A2, l2, d2, y', A3, l3, d3, A4, l4, d4, h4.set (i := 10) (.int .i64 v), h5.putN h4 scl_not 10 [.int .i64 v], h6.putN h4 scl_not 10 [.int .i64 v]⟩
theorem UI.pow5 {w w1 : World} {g3 : Nat} {q o : Rat} {p : P7} (h : UI w w1 g3 q o p) : w1.cell? ⟨g3, 11, none⟩ = some (.int .i64 p.f) := by
  obtain ⟨_, _, _, y, A1, l1, d1, A2, l2, d2, y', A3, l3, d3, A4, l4, d4, h4, _⟩ := h
  exact h4.cell 11
theorem UI.put5 {w w1 : World} {g3 : Nat} {q o : Rat} {p : P7} (h : UI w w1 g3 q o p) (v : Int) : UI w (w1.setCell ⟨g3, 11, none⟩ (.int .i64 v)) g3 q o ⟨p.a, p.b, p.c, p.d, p.e, v, p.g⟩ := by
  obtain ⟨h1, h2, h3, y, A1, l1, d1, A2, l2, d2, y', A3, l3, d3, A4, l4, d4, h4, h5, h6⟩ := h
  exact ⟨h1.set_other _ (by omega), h2.setCell (Nat.le_of_lt h3) _, h3, y, A1, l1, d1, A2, l2, d2, y', A3, l3, d3, A4, l4, d4, h4.set (i := 11) (.int .i64 v), h5.putN h4 scl_not 11 [.int .i64 v], h6.putN h4 scl_not 11 [.int .i64 v]⟩
theorem UI.pow6 {w w1 : World} {g3 : Nat} {q o : Rat} {p : P7} (h : UI w w1 g3 q o p) : w1.cell? ⟨g3, 12, none⟩ = some (.int .i64 p.g) := by
  obtain ⟨_, _, _, y, A1, l1, d1, A2, l2, d2, y', A3, l3, d3, A4, l4, d4, h4, _⟩ := h
  exact h4.cell 12
theorem UI.put6 {w w1 : World} {g3 : Nat} {q o : Rat} {p : P7} (h : UI w w1 g3 q o p) (v : Int) : UI w (w1.setCell ⟨g3, 12, none⟩ (.int .i64 v)) g3 q o ⟨p.a, p.b, p.c, p.d, p.e, p.f, v⟩ := by
  obtain ⟨h1, h2, h3, y, A1, l1, d1, A2, l2, d2, y', A3, l3, d3, A4, l4, d4, h4, h5, h6⟩ := h
  exact ⟨h1.set_other _ (by omega), h2.setCell (Nat.le_of_lt h3) _, h3, y, A1, l1, d1, A2, l2, d2, y', A3, l3, d3, A4, l4, d4, h4.set (i := 12) (.int .i64 v), h5.putN h4 scl_not 12 [.int .i64 v], h6.putN h4 scl_not 12 [.int .i64 v]⟩
/-- What combined gives. -/
def ScaleR (q o : Rat) (p : P7) (w : World) (e : Ending) (w' : World) : Prop := ∃ (y : Bool) (A1 : Option Addr) (l1 d1 : Nat) (A2 : Option Addr) (l2 d2 : Nat) (y' : Bool) (A3 : Option Addr) (l3 d3 : Nat) (A4 : Option Addr) (l4 d4 : Nat), e = .returned (.agg #[.bool y, .slice A1 l1 d1, .slice A2 l2 d2, .bool y', .slice A3 l3 d3, .slice A4 l4 d4, .int .i64 p.a, .int .i64 p.b, .int .i64 p.c, .int .i64 p.d, .int .i64 p.e, .int .i64 p.f, .int .i64 p.g]) ∧ Below w.heap.size w w' ∧ Qr w' (.agg #[.bool y, .slice A1 l1 d1, .slice A2 l2 d2]) q ∧ Qr w' (.agg #[.bool y', .slice A3 l3 d3, .slice A4 l4 d4]) o
end Go.Proofs.YthjnmnepjeegiaaGreatDoor
