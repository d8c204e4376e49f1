/- The reference's parser of units: take. The reference's parser of units: rows of factors. -/
import Derived.Test.YthjnmnepjeegiaaGreatDoorG29
import Derived.Test.YthjnmnepjeegiaaGreatDoorG30
import Derived.Test.YthjnmnepjeegiaaGreatDoorG31
import Derived.Test.YthjnmnepjeegiaaGreatDoorG28
import Derived.Test.YthjnmnepjeegiaaGreatDoorG21
/- The reference's parser of units: take. -/
namespace Go.Proofs.YthjnmnepjeegiaaGreatDoor
open Go.RowKit Go.Proofs.YthjnmnepjeegiaaGreatDoor.Dg Go.Proofs.YthjnmnepjeegiaaGreatDoor.Q Go.Proofs.YthjnmnepjeegiaaGreatDoor.Num Go.Proofs.YthjnmnepjeegiaaGreatDoor.Str
theorem rtake_any (S : ByteArray) (hs : S.size ≤ 1000) (w : World) : Calls Tryz.prog 35 #[.string S] w (TakeR (bl S) (rstep (bl S)) w) := by
  rcases Nat.eq_zero_or_pos (numb (bl S)) with hn | hn
  · have hw := wrd_le (bl S)
    rw [bl_len] at hw
    cases hf : rfind ((bl S).take (wrd (bl S))) with
    | none => exact rtake_word_none S hs hn hf w
    | some rq =>
      obtain ⟨⟨nm, ov, by_, pr, ⟨p0, p1, p2, p3, p4, p5, p6⟩, of, ze, pa⟩, q⟩ := rq
      have hf : rfind ((bl S).take (wrd (bl S))) = some ((⟨bl ⟨nm.toArray⟩, ov, by_, pr, ⟨p0, p1, p2, p3, p4, p5, p6⟩, of, ze, pa⟩ : Sr), q) := by rw [hf]; rfl
      cases hc : (bl S)[wrd (bl S)]? with
      | none =>
        have := List.getElem?_eq_none_iff.1 hc
        rw [bl_len] at this
        exact rtake_word_all S hs hn hf (by omega) w
      | some c =>
        by_cases h94 : c = 94
        · rw [h94] at hc
          cases hd : (bl S)[wrd (bl S) + 1]? with
          | none =>
            have h1 := List.getElem?_eq_none_iff.1 hd
            have h2 := (List.getElem?_eq_some_iff.1 hc).1
            rw [bl_len] at h1 h2
            exact rtake_word_end S hs hn hf hc (by omega) w
          | some d =>
            by_cases h45 : d = 45
            · rw [h45] at hd
              exact rtake_word_neg S hs hn hf hc hd w
            · exact rtake_word_pos S hs hn hf hc ⟨d, hd, h45⟩ w
        · exact rtake_word_other S hs hn hf ⟨c, hc, h94⟩ w
  · exact rtake_num S hs hn w
end Go.Proofs.YthjnmnepjeegiaaGreatDoor

/- The reference's parser of units: rows of factors. -/
namespace Go.Proofs.YthjnmnepjeegiaaGreatDoor
open Go.RowKit Go.Proofs.YthjnmnepjeegiaaGreatDoor.Dg Go.Proofs.YthjnmnepjeegiaaGreatDoor.Q Go.Proofs.YthjnmnepjeegiaaGreatDoor.Num Go.Proofs.YthjnmnepjeegiaaGreatDoor.Str

theorem Tryz.infoRF : (Tryz.prog.info? 58).map (fun i => (i.zero, i.size, i.bytes)) = some (some (.agg #[.int .i64 0, .bool false, .slice none 0 0, .slice none 0 0, .string ⟨#[]⟩, .int .i64 0, .int .i64 0, .bool false, .int .i64 0, .int .i64 0, .int .i64 0, .int .i64 0, .int .i64 0, .int .i64 0, .int .i64 0, .bool false, .int .i64 0, .int .i64 0, .bool false, .int .i64 0, .bool false]), 21, 208) := by kernel_rfl
theorem TakeR.bad {l : List UInt8} {w w' : World} {e : Ending} (h : TakeR l none w e w') : ∃ (M : ByteArray) (ov by_ : Int) (pr : Bool) (p0 p1 p2 p3 p4 p5 p6 : Int) (of : Bool) (ze pa : Int) (y : Bool) (A1 : Option Addr) (l1 d1 : Nat) (A2 : Option Addr) (l2 d2 : Nat) (iw : Bool) (ex : Int) (ra : Bool) (n : Nat), e = .returned (.tuple #[.agg #[.int .i64 0, .bool y, .slice A1 l1 d1, .slice A2 l2 d2, .string M, .int .i64 ov, .int .i64 by_, .bool pr, .int .i64 p0, .int .i64 p1, .int .i64 p2, .int .i64 p3, .int .i64 p4, .int .i64 p5, .int .i64 p6, .bool of, .int .i64 ze, .int .i64 pa, .bool iw, .int .i64 ex, .bool ra], .int .i64 (n : Int), .bool false]) ∧ Below w.heap.size w w' := by
  obtain ⟨y, A1, l1, d1, A2, l2, d2, ⟨m, ov, by_, pr, ⟨p0, p1, p2, p3, p4, p5, p6⟩, of, ze, pa⟩, iw, ex, ra, n, h1, h2, _⟩ := h
  exact ⟨⟨m.toArray⟩, ov, by_, pr, p0, p1, p2, p3, p4, p5, p6, of, ze, pa, y, A1, l1, d1, A2, l2, d2, iw, ex, ra, n, h1, h2⟩
/-- A factor of the reference, as its cells say it. -/
def saysF (w : World) (y : Bool) (A1 : Option Addr) (l1 d1 : Nat) (A2 : Option Addr) (l2 d2 : Nat) (s : Sr) (f : RF) : Prop := Qr w (.agg #[.bool y, .slice A1 l1 d1, .slice A2 l2 d2]) f.num ∧ f.p = s.p ∧ f.off = s.off ∧ f.ofs = s.ofs ∧ smS s
theorem saysF.up {w w' : World} {y : Bool} {A1 : Option Addr} {l1 d1 : Nat} {A2 : Option Addr} {l2 d2 : Nat} {s : Sr} {f : RF} (h : saysF w y A1 l1 d1 A2 l2 d2 s f) (hb : Below w.heap.size w w') : saysF w' y A1 l1 d1 A2 l2 d2 s f := ⟨h.1.up hb, h.2⟩
theorem TakeR.good {l : List UInt8} {w w' : World} {e : Ending} {f : RF} {rest : List UInt8} (h : TakeR l (some (f, rest)) w e w') : ∃ (M : ByteArray) (ov by_ : Int) (pr : Bool) (p0 p1 p2 p3 p4 p5 p6 : Int) (of : Bool) (ze pa : Int) (y : Bool) (A1 : Option Addr) (l1 d1 : Nat) (A2 : Option Addr) (l2 d2 : Nat) (iw : Bool) (n : Nat), e = .returned (.tuple #[.agg #[.int .i64 0, .bool y, .slice A1 l1 d1, .slice A2 l2 d2, .string M, .int .i64 ov, .int .i64 by_, .bool pr, .int .i64 p0, .int .i64 p1, .int .i64 p2, .int .i64 p3, .int .i64 p4, .int .i64 p5, .int .i64 p6, .bool of, .int .i64 ze, .int .i64 pa, .bool iw, .int .i64 f.exp, .bool f.raised], .int .i64 (n : Int), .bool true]) ∧ Below w.heap.size w w' ∧ n ≤ l.length ∧ rest = l.drop n ∧ saysF w' y A1 l1 d1 A2 l2 d2 ⟨bl M, ov, by_, pr, ⟨p0, p1, p2, p3, p4, p5, p6⟩, of, ze, pa⟩ f := by
  obtain ⟨y, A1, l1, d1, A2, l2, d2, ⟨m, ov, by_, pr, ⟨p0, p1, p2, p3, p4, p5, p6⟩, of, ze, pa⟩, iw, ex, ra, n, h1, h2, h3⟩ := h
  obtain ⟨g1, g2, g3, g4, g5, g6, g7, g8, g9⟩ := h3 f rest rfl
  subst g7 g8
  exact ⟨⟨m.toArray⟩, ov, by_, pr, p0, p1, p2, p3, p4, p5, p6, of, ze, pa, y, A1, l1, d1, A2, l2, d2, iw, n, h1, h2, g1, g2, g3, g4, g5, g6, g9⟩
/-- Cells that read as factors. -/
inductive FCs (w : World) : List Value → List (Int × RF) → Prop
  | nil : FCs w [] []
  | snoc {xs : List Value} {fs : List (Int × RF)} {sg : Int} {f : RF} {M : ByteArray} {ov by_ : Int} {pr : Bool} {p0 p1 p2 p3 p4 p5 p6 : Int} {of : Bool} {ze pa : Int} {y : Bool} {A1 : Option Addr} {l1 d1 : Nat} {A2 : Option Addr} {l2 d2 : Nat} {iw : Bool} : FCs w xs fs → saysF w y A1 l1 d1 A2 l2 d2 ⟨bl M, ov, by_, pr, ⟨p0, p1, p2, p3, p4, p5, p6⟩, of, ze, pa⟩ f → FCs w (xs ++ [.int .i64 sg, .bool y, .slice A1 l1 d1, .slice A2 l2 d2, .string M, .int .i64 ov, .int .i64 by_, .bool pr, .int .i64 p0, .int .i64 p1, .int .i64 p2, .int .i64 p3, .int .i64 p4, .int .i64 p5, .int .i64 p6, .bool of, .int .i64 ze, .int .i64 pa, .bool iw, .int .i64 f.exp, .bool f.raised]) (fs ++ [(sg, f)])
theorem FCs.len {w : World} {xs : List Value} {fs : List (Int × RF)} (h : FCs w xs fs) : xs.length = fs.length * 21 := by
  induction h with
  | nil => rfl
  | snoc _ _ ih => simp [ih]; omega
theorem FCs.up {w w' : World} (hb : Below w.heap.size w w') {xs : List Value} {fs : List (Int × RF)} (h : FCs w xs fs) : FCs w' xs fs := by
  induction h with
  | nil => exact .nil
  | snoc _ h2 ih => exact .snoc ih (h2.up hb)
theorem Qr.grown {w w' : World} {u v : Value} {q : Rat} (h : Qr w u q) (hg : w.grownBy w' v.ownBlock) (hr : ∀ g, v.ownBlock = some g → ∃ cur t fz, w.heap[g]? = some (.cells cur t fz) ∧ cur.all (notK .u64) = true) : Qr w' u q := by
  obtain ⟨A, c, A', c', d, e, h1, h2, h3⟩ := h
  exact ⟨A, c, A', c', d, e, Fs.grown h1 hg hr, Fs.grown h2 hg hr, h3⟩
theorem FCs.grown {w w' : World} {v : Value} (hg : w.grownBy w' v.ownBlock) (hr : ∀ g, v.ownBlock = some g → ∃ cur t fz, w.heap[g]? = some (.cells cur t fz) ∧ cur.all (notK .u64) = true) {xs : List Value} {fs : List (Int × RF)} (h : FCs w xs fs) : FCs w' xs fs := by
  induction h with
  | nil => exact .nil
  | snoc _ h2 ih => exact .snoc ih ⟨h2.1.grown hg hr, h2.2⟩
theorem FCs.at {w : World} {xs : List Value} {fs : List (Int × RF)} (h : FCs w xs fs) : ∀ {k : Nat} {sg : Int} {f : RF}, fs[k]? = some (sg, f) → ∃ (M : ByteArray) (ov by_ : Int) (pr : Bool) (p0 p1 p2 p3 p4 p5 p6 : Int) (of : Bool) (ze pa : Int) (y : Bool) (A1 : Option Addr) (l1 d1 : Nat) (A2 : Option Addr) (l2 d2 : Nat) (iw : Bool), (∀ j u, ([.int .i64 sg, .bool y, .slice A1 l1 d1, .slice A2 l2 d2, .string M, .int .i64 ov, .int .i64 by_, .bool pr, .int .i64 p0, .int .i64 p1, .int .i64 p2, .int .i64 p3, .int .i64 p4, .int .i64 p5, .int .i64 p6, .bool of, .int .i64 ze, .int .i64 pa, .bool iw, .int .i64 f.exp, .bool f.raised] : List Value)[j]? = some u → xs[k * 21 + j]? = some u) ∧ saysF w y A1 l1 d1 A2 l2 d2 ⟨bl M, ov, by_, pr, ⟨p0, p1, p2, p3, p4, p5, p6⟩, of, ze, pa⟩ f := by
  induction h with
  | nil => intro k sg f e; simp at e
  | @snoc xs fs sg' f' M ov by_ pr p0 p1 p2 p3 p4 p5 p6 of ze pa y A1 l1 d1 A2 l2 d2 iw h1 h2 ih =>
    intro k sg f e
    have hl := h1.len
    rcases Nat.lt_or_ge k fs.length with hk | hk
    · rw [List.getElem?_append_left hk] at e
      obtain ⟨x0, x1, x2, x3, x4, x5, x6, x7, x8, x9, x10, x11, x12, x13, x14, x15, x16, x17, x18, x19, x20, x21, k1, k2⟩ := ih e
      refine ⟨x0, x1, x2, x3, x4, x5, x6, x7, x8, x9, x10, x11, x12, x13, x14, x15, x16, x17, x18, x19, x20, x21, fun j u hj => ?_, k2⟩
      have := k1 j u hj
      rw [List.getElem?_append_left (List.getElem?_eq_some_iff.1 this).1]
      exact this
    · have hk2 : k = fs.length := by
        have := (List.getElem?_eq_some_iff.1 e).1
        simp at this
        omega
      subst hk2
      rw [List.getElem?_append_right (Nat.le_refl _), Nat.sub_self] at e
      injection e with e
      injection e with e1 e2
      subst e1 e2
      refine ⟨M, ov, by_, pr, p0, p1, p2, p3, p4, p5, p6, of, ze, pa, y, A1, l1, d1, A2, l2, d2, iw, fun j u hj => ?_, h2⟩
      rw [← hl, List.getElem?_append_right (Nat.le_add_right ..), Nat.add_sub_cancel_left]
      exact hj
/-- A row of factors that a call makes. -/
def RowR (w wr : World) (v : Value) (fs : List (Int × RF)) : Prop := ∃ xs, wr.ownsRow w.heap.size 58 21 v fs.length xs ∧ rowP wr v (notK .u64) ∧ FCs wr xs fs ∧ Below w.heap.size w wr
theorem RowR.b {w wr : World} {v : Value} {fs : List (Int × RF)} (h : RowR w wr v fs) : Below w.heap.size w wr := h.elim fun _ k => k.2.2.2
theorem RowR.up {w w1 w2 : World} {v : Value} {fs : List (Int × RF)} (h : RowR w w1 v fs) (hb : Below w1.heap.size w1 w2) : RowR w w2 v fs := by
  obtain ⟨xs, h1, h2, h3, h4⟩ := h
  exact ⟨xs, ownM_below h1 hb, h2.up hb (fun g hg => (h1.lt g hg).2), h3.up hb, btrans h4 hb⟩
theorem RowR.start (w : World) : RowR w w (.slice none 0 0) [] := ⟨[], World.ownsRow_nil _ _ _ _, rowP_nil _ _, .nil, Below.refl _ _⟩
/-- A row that has grown by a factor. -/
theorem RowR.grow {w w1 w2 : World} {v v2 : Value} {fs : List (Int × RF)} {sg : Int} {f : RF} {M : ByteArray} {ov by_ : Int} {pr : Bool} {p0 p1 p2 p3 p4 p5 p6 : Int} {of : Bool} {ze pa : Int} {y : Bool} {A1 : Option Addr} {l1 d1 : Nat} {A2 : Option Addr} {l2 d2 : Nat} {iw : Bool} {xs : List Value} (h1 : w1.ownsRow w.heap.size 58 21 v fs.length xs) (h2 : rowP w1 v (notK .u64)) (h3 : FCs w1 xs fs) (h4 : Below w.heap.size w w1) (hq : saysF w1 y A1 l1 d1 A2 l2 d2 ⟨bl M, ov, by_, pr, ⟨p0, p1, p2, p3, p4, p5, p6⟩, of, ze, pa⟩ f)
    (o2 : w2.ownsRow w.heap.size 58 21 v2 (fs.length + 1) (xs ++ [.int .i64 sg, .bool y, .slice A1 l1 d1, .slice A2 l2 d2, .string M, .int .i64 ov, .int .i64 by_, .bool pr, .int .i64 p0, .int .i64 p1, .int .i64 p2, .int .i64 p3, .int .i64 p4, .int .i64 p5, .int .i64 p6, .bool of, .int .i64 ze, .int .i64 pa, .bool iw, .int .i64 f.exp, .bool f.raised])) (hg : w1.grownBy w2 v.ownBlock) (hp2 : rowP w2 v2 (notK .u64)) : RowR w w2 v2 (fs ++ [(sg, f)]) := by
  have hr := rowP.cur h1 h2
  exact ⟨xs ++ [.int .i64 sg, .bool y, .slice A1 l1 d1, .slice A2 l2 d2, .string M, .int .i64 ov, .int .i64 by_, .bool pr, .int .i64 p0, .int .i64 p1, .int .i64 p2, .int .i64 p3, .int .i64 p4, .int .i64 p5, .int .i64 p6, .bool of, .int .i64 ze, .int .i64 pa, .bool iw, .int .i64 f.exp, .bool f.raised], by rw [List.length_append]; exact o2, hp2, .snoc (h3.grown hg hr) ⟨hq.1.grown hg hr, hq.2⟩, grownM_below h1 h4 hg⟩
/-- What factors gives. -/
def RFacQ (o : Option (List (Int × RF))) (w : World) (e : Ending) (w' : World) : Prop := match o with
  | none => e = .returned (.tuple #[.slice none 0 0, .bool false]) ∧ Below w.heap.size w w'
  | some fs => ∃ v, e = .returned (.tuple #[v, .bool true]) ∧ RowR w w' v fs ∧ fs ≠ []
theorem rfac_none {k : Nat} {sg : Int} {acc : List (Int × RF)} {l : List UInt8} (h : rstep l = none) : rfac (k + 1) sg acc l = none := by rw [rfac, h]
theorem rfac_end {k : Nat} {sg : Int} {acc : List (Int × RF)} {l : List UInt8} {f : RF} (h : rstep l = some (f, [])) : rfac (k + 1) sg acc l = some (acc ++ [(sg, f)]) := by rw [rfac, h]
theorem rfac_on {k : Nat} {sg : Int} {acc : List (Int × RF)} {l r : List UInt8} {f : RF} {c : UInt8} (h : rstep l = some (f, c :: r)) : rfac (k + 1) sg acc l = if c = 32 then rfac k 1 (acc ++ [(sg, f)]) r else if c = 47 then rfac k (-1) (acc ++ [(sg, f)]) r else none := by rw [rfac, h]
/-- A call of a Go function, by its contract. -/
theorem wpList_call_is {P : Program} {ops : Array Oper} {Q : Exit → Act → World → Prop} {a : Act} {w : World} {rest : List Oper} {o : Oper} (hgd : o.guard = none) (f : FuncId) (args : Array Value) (hrun : (execOp a.eval o).run P w = .ok (.enter f args) w) {R : Ending → World → Prop} (hc : Calls P f args w R)
    (h : ∀ e w'', R e w'' → ∃ v, e = .returned v ∧ wpList P ops Q rest (a.put o.dst v) w'') : wpList P ops Q (o :: rest) a w :=
  wpList_plain hgd fun _ hK => wp_call_is f args hrun hc fun e w'' hR => by
    obtain ⟨v, e1, e2⟩ := h e w'' hR
    exact ⟨v, e1, hK _ _ e2⟩
theorem cells21_new (w : World) (l : List Value) (t : TypeId) (g : Nat) (hg : w.heap.size = g) : ∀ j u, l[j]? = some u → (w.alloc (.cells l.toArray t)).cell? ((⟨g, 0, none⟩ : Addr).add j) = some u := by
  subst hg
  intro j u hj
  rw [addr_add_none, Nat.zero_add, (Bk.new w l.toArray t).cell j, ← hj, List.getElem?_toArray]
end Go.Proofs.YthjnmnepjeegiaaGreatDoor
