/- find of the reference. Structs of many cells, stored and loaded whole: what is as it was. The reference's parser of units: what take gives. -/
import Derived.Test.YthjnmnepjeegiaaGreatDoorG25
import Derived.Test.YthjnmnepjeegiaaGreatDoorG26
import Derived.Test.YthjnmnepjeegiaaGreatDoorG27
import Derived.Test.YthjnmnepjeegiaaGreatDoorG22
import Derived.Test.YthjnmnepjeegiaaGreatDoorG23
import Derived.Test.YthjnmnepjeegiaaGreatDoorG20
import Derived.Test.YthjnmnepjeegiaaGreatDoorG10
import Derived.Deep.MidRow
import Derived.Deep.WholeRow
/- find of the reference. -/
namespace Go.Proofs.YthjnmnepjeegiaaGreatDoor
open Go.RowKit Go.Proofs.YthjnmnepjeegiaaGreatDoor.Dg Go.Proofs.YthjnmnepjeegiaaGreatDoor.Q Go.Proofs.YthjnmnepjeegiaaGreatDoor.Num Go.Proofs.YthjnmnepjeegiaaGreatDoor.Str
theorem rfind_any (S : ByteArray) (hs : S.size ≤ 1000) (w : World) : Calls Tryz.prog 67 #[.string S] w (FindR (rfind (bl S)) w) := by
  by_cases h0 : rsyms.find? (fun s => s.name == bl S) = none
  · by_cases hp : bl S = [] ∨ pfxQ ((bl S).headD 0) = none
    · exact rfind_no S h0 hp hs w
    · exact rfind_some S h0 ⟨fun e => hp (.inl e), fun e => hp (.inr e)⟩ hs w
  · exact rfind_hit S h0 hs w
end Go.Proofs.YthjnmnepjeegiaaGreatDoor

/- Structs of many cells, stored and loaded whole: what is as it was. -/
namespace Go.Proofs.YthjnmnepjeegiaaGreatDoor
open Go.RowKit Go.Proofs.YthjnmnepjeegiaaGreatDoor.Dg Go.Proofs.YthjnmnepjeegiaaGreatDoor.Q

theorem Bk.row {w : World} {g : Nat} {C : Array Value} {t : TypeId} (h : Bk w g C t) (D : Array Value) : Bk (w.setRow g D) g D t := setRow_heap w g C D t (0, 0) h
theorem Bk.row_other {w : World} {g k : Nat} {C : Array Value} {t : TypeId} (h : Bk w g C t) (D : Array Value) (hne : g ≠ k) : Bk (w.setRow k D) g C t := (setRow_other w k g D hne).trans h
theorem below_row {B g : Nat} {w0 w : World} (h : Below B w0 w) (hg : B ≤ g) (D : Array Value) : Below B w0 (w.setRow g D) :=
  ⟨h.os, h.tape, h.output, by rw [setRow_size]; exact h.size, fun k hk => (setRow_other w g k D (by omega)).trans (h.block k hk)⟩
theorem Fs.row {k : IntKind} {w : World} {B n c g : Nat} {A : Option Addr} {o : Nat → Nat} {C : Array Value} {t : TypeId} (h : Fs k w B A n c o) (hr : Bk w g C t) (hC : C.all (notK k) = true) (D : Array Value) : Fs k (w.setRow g D) B A n c o :=
  ⟨h.1, h.2.1, fun hn => by
    obtain ⟨bk, off, e, hlt, hc⟩ := h.2.2 hn
    refine ⟨bk, off, e, hlt, fun j hj => ?_⟩
    have hne : bk ≠ g := Fs.ne_block hr hC (hc j hj)
    rw [← hc j hj]
    exact cell_setRow_other w g D _ hne⟩
theorem Qr.row {w : World} {v : Value} {q : Rat} {g : Nat} {C : Array Value} {t : TypeId} (h : Qr w v q) (hr : Bk w g C t) (hC : C.all (notK .u64) = true) (D : Array Value) : Qr (w.setRow g D) v q := by
  obtain ⟨A, c, A', c', d, e, h1, h2, h3⟩ := h
  refine ⟨A, c, A', c', d, e, ?_, ?_, h3⟩
  · rw [setRow_size]; exact Fs.row h1 hr hC D
  · rw [setRow_size]; exact Fs.row h2 hr hC D
theorem run_load_bk {P : Program} {w : World} {g : Nat} {cells : Array Value} {t ty : TypeId} {d : TypeDesc} (hg : Bk w g cells t) (hu : P.underlying ty = some d) (hd : (match d with | .struct _ | .array _ _ => true | _ => false) = true) (hi : (P.info? ty).map (·.size) = some cells.size) : (loadVar ty ⟨g, 0, none⟩).run P w = .ok (.agg cells) w := run_loadVar_row w g t ty cells (0, 0) d hg hu hd hi
/-- A struct and two values are handed back. -/
theorem results_ctt {fn : Func} {p u v : Tmp} {ty : TypeId} (h : fn.results = #[.cell p ty, .tmp u, .tmp v]) {tmps : Array Value} {P : Program} {w : World} {g : Nat} {V U U' : Value} (hx : tmps.getD p undef = .pointer (some ⟨g, 0, none⟩)) (hl : (loadVar ty ⟨g, 0, none⟩).run P w = .ok V w) (hu : tmps.getD u undef = U) (hv : tmps.getD v undef = U') :
    (results fn tmps).run P w = .ok (.tuple #[V, U, U']) w := by
  subst hu hv
  simp only [results, h]
  have hx' : tmps[p]?.getD undef = .pointer (some ⟨g, 0, none⟩) := by simpa using hx
  simp [Result.andThen, hx', asAddr, hl]
/-- A struct and a value are handed back. -/
theorem results_ct {fn : Func} {p u : Tmp} {ty : TypeId} (h : fn.results = #[.cell p ty, .tmp u]) {tmps : Array Value} {P : Program} {w : World} {g : Nat} {V U : Value} (hx : tmps.getD p undef = .pointer (some ⟨g, 0, none⟩)) (hl : (loadVar ty ⟨g, 0, none⟩).run P w = .ok V w) (hu : tmps.getD u undef = U) :
    (results fn tmps).run P w = .ok (.tuple #[V, U]) w := by
  subst hu
  simp only [results, h]
  have hx' : tmps[p]?.getD undef = .pointer (some ⟨g, 0, none⟩) := by simpa using hx
  simp [Result.andThen, hx', asAddr, hl]
/-- A struct is handed back. -/
theorem results_c {fn : Func} {p : Tmp} {ty : TypeId} (h : fn.results = #[.cell p ty]) {tmps : Array Value} {P : Program} {w : World} {g : Nat} {V : Value} (hx : tmps.getD p undef = .pointer (some ⟨g, 0, none⟩)) (hl : (loadVar ty ⟨g, 0, none⟩).run P w = .ok V w) :
    (results fn tmps).run P w = .ok V w := by
  simp only [results, h]
  have hx' : tmps[p]?.getD undef = .pointer (some ⟨g, 0, none⟩) := by simpa using hx
  simp [hx', asAddr, hl]
theorem run_add_i64 {P : Program} {w : World} {xt : TypeId} {x y : Operand} {m k j : Int} (h : IntKind.i64.wrap (m + k) = j) : (do eqGuard .add xt x y (.int .i64 m) (.int .i64 k); binOp .add xt (.int .i64 m) (.int .i64 k) : Sem Value).run P w = .ok (.int .i64 j) w := by
  subst h
  simp [eqGuard, binOp, Op.intArith]
theorem run_gtr_i64 {P : Program} {w : World} {xt : TypeId} {x y : Operand} {m k : Int} : (do eqGuard .gtr xt x y (.int .i64 m) (.int .i64 k); binOp .gtr xt (.int .i64 m) (.int .i64 k) : Sem Value).run P w = .ok (.bool (decide (k < m))) w := by
  simp [eqGuard, binOp, Op.intCmp]
section
variable {P : Program} {ops : Array Oper} {Q : Exit → Act → World → Prop} {a : Act} {w : World} {rest : List Oper} {o : Oper}
/-- A struct is built: its cells said outright. -/
theorem wpList_build_is (hgd : o.guard = none) (t : TypeId) (parts : Array (Nat × Operand)) (ho : o.op = .build t parts) (cells : Array Value)
    (hc : P.built t (parts.map fun (i, x) => (i, a.eval x)).toList = some cells) (h : wpList P ops Q rest (a.put o.dst (.agg cells)) w) : wpList P ops Q (o :: rest) a w := by
  refine wpList_plain hgd fun K hK => wp_build t parts ho (by rw [hc]; rfl) ?_
  rw [hc]
  exact hK _ _ h
/-- A struct goes into a block that is known. -/
theorem wpList_store_bk (hgd : o.guard = none) (ty : TypeId) (x y : Operand) (ho : o.op = .store ty x y) (g : Nat) (cells : Array Value) (hx : a.eval x = .pointer (some ⟨g, 0, none⟩)) (hy : a.eval y = .agg cells)
    (t : TypeId) (old : Array Value) (hg : Bk w g old t) (hi : (P.info? ty).map (·.size) = some cells.size) (hold : old.size = cells.size) (h1 : cells.all (·.oneCell') = true)
    (h : wpList P ops Q rest (a.put o.dst undef) (w.setRow g cells)) : wpList P ops Q (o :: rest) a w := wpList_store_row hgd ty x y ho g cells hx hy t old hg hi hold h1 h
/-- A struct goes into the block that was made last. -/
theorem wpList_store_new (hgd : o.guard = none) (ty : TypeId) (x y : Operand) (ho : o.op = .store ty x y) {w0 : World} {old : Array Value} {t : TypeId} (hw : w = w0.alloc (.cells old t)) (cells : Array Value) (hx : a.eval x = .pointer (some ⟨w0.heap.size, 0, none⟩)) (hy : a.eval y = .agg cells)
    (hi : (P.info? ty).map (·.size) = some cells.size) (hold : old.size = cells.size) (h1 : cells.all (·.oneCell') = true)
    (h : wpList P ops Q rest (a.put o.dst undef) (w0.alloc (.cells cells t))) : wpList P ops Q (o :: rest) a w := by
  subst hw
  refine wpList_store_row hgd ty x y ho w0.heap.size cells hx hy t old (heap_alloc_last w0 _) hi hold h1 ?_
  rw [World.setRow_alloc_new]
  exact h
/-- A struct is loaded out of a block that is known. -/
theorem wpList_load_bk (hgd : o.guard = none) (ty : TypeId) (x : Operand) (ho : o.op = .load ty x) (g : Nat) (cells : Array Value) (hx : a.eval x = .pointer (some ⟨g, 0, none⟩)) (t : TypeId) (d : TypeDesc) (hg : Bk w g cells t) (hu : P.underlying ty = some d) (hd : (match d with | .struct _ | .array _ _ => true | _ => false) = true)
    (hi : (P.info? ty).map (·.size) = some cells.size) (h : wpList P ops Q rest (a.put o.dst (.agg cells)) w) : wpList P ops Q (o :: rest) a w := wpList_load_row hgd ty x ho g hx t cells (0, 0) d hg hu hd hi h
/-- A move, or an assignment to a slot. -/
theorem wpList_move_is (hgd : o.guard = none) (x : Operand) (ho : o.op = .move x) (v : Value) (hx : a.eval x = v) (h : wpList P ops Q rest (a.put o.dst v) w) : wpList P ops Q (o :: rest) a w := by
  subst hx
  refine wpList_plain hgd fun K hK => ?_
  unfold Oper.wp execOp
  simp only [ho, Sem.run_pure]
  exact hK _ _ h
theorem wpList_assign_is (hgd : o.guard = none) (x : Operand) (ho : o.op = .assign x) (v : Value) (hx : a.eval x = v) (h : wpList P ops Q rest (a.put o.dst v) w) : wpList P ops Q (o :: rest) a w := by
  subst hx
  refine wpList_plain hgd fun K hK => ?_
  unfold Oper.wp execOp
  simp only [ho, Sem.run_pure]
  exact hK _ _ h
/-- A new variable. -/
theorem wpList_alloc_is (hgd : o.guard = none) (t : TypeId) (ho : o.op = .alloc t) (z : Value) (n : Nat) (hz : (P.info? t).map (fun i => (i.zero, i.size)) = some (some z, n)) (h : wpList P ops Q rest (a.put o.dst (.pointer (some ⟨w.heap.size, 0, none⟩))) (w.alloc (.cells z.cells t))) : wpList P ops Q (o :: rest) a w := by
  refine wpList_plain hgd fun K hK => ?_
  have hz' := (zero_of_info hz).1 w
  unfold Oper.wp execOp
  simp only [ho, Instr.alloc, Sem.run_bind, hz', Result.andThen_ok, newVar, newRow, newObj, Sem.run_pure]
  exact hK _ _ h
/-- An operation that gives a value and leaves the world. -/
theorem wpList_run_is (hgd : o.guard = none) (v : Value) (hrun : (execOp a.eval o).run P w = .ok (.value v) w) (h : wpList P ops Q rest (a.put o.dst v) w) : wpList P ops Q (o :: rest) a w := by
  refine wpList_plain hgd fun K hK => ?_
  unfold Oper.wp
  rw [hrun, Oper.upon_value]
  exact hK _ _ h
/-- An operation on two values. -/
theorem wpList_bin_is (hgd : o.guard = none) (op : BinOp) (xt : TypeId) (x y : Operand) (t : TypeId) (ho : o.op = .binOp op xt x y t) (vx vy v : Value) (hx : a.eval x = vx) (hy : a.eval y = vy) (hrun : (do eqGuard op xt x y vx vy; binOp op xt vx vy : Sem Value).run P w = .ok v w)
    (h : wpList P ops Q rest (a.put o.dst v) w) : wpList P ops Q (o :: rest) a w := by
  subst hx hy
  refine wpList_plain hgd fun K hK => ?_
  have e : (execOp a.eval o).run P w = .ok (.value v) w := by
    unfold execOp
    simp only [ho]
    rw [Sem.run_bind, hrun]
    rfl
  unfold Oper.wp
  rw [e, Oper.upon_value]
  exact hK _ _ h
/-- A call of a Go function, by its contract. -/
theorem wp_call_is {K : Act → World → Prop} (f : FuncId) (args : Array Value) (hrun : (execOp a.eval o).run P w = .ok (.enter f args) w) {R : Ending → World → Prop} (hc : Calls P f args w R)
    (h : ∀ e w'', R e w'' → ∃ v, e = .returned v ∧ K (a.put o.dst v) w'') : o.wp P a w K Q := by
  unfold Oper.wp
  rw [hrun, Oper.upon_enter]
  refine hc.mono fun e w'' hh => ?_
  obtain ⟨v, rfl, hk⟩ := h e w'' hh
  exact hk
end
end Go.Proofs.YthjnmnepjeegiaaGreatDoor

/- The reference's parser of units: what take gives. -/
namespace Go.Proofs.YthjnmnepjeegiaaGreatDoor
open Go.RowKit Go.Proofs.YthjnmnepjeegiaaGreatDoor.Dg Go.Proofs.YthjnmnepjeegiaaGreatDoor.Q Go.Proofs.YthjnmnepjeegiaaGreatDoor.Num Go.Proofs.YthjnmnepjeegiaaGreatDoor.Str

def fc0C : Array Value := #[.int .i64 0, .bool false, .slice none 0 0, .slice none 0 0, .string ⟨#[]⟩, .int .i64 0, .int .i64 0, .bool false, .int .i64 0, .int .i64 0, .int .i64 0, .int .i64 0, .int .i64 0, .int .i64 0, .int .i64 0, .bool false, .int .i64 0, .int .i64 0, .bool false, .int .i64 0, .bool false]
/-- The cells of a factor of the reference. -/
def fcL (sg : Int) (a b c : Value) (s : Sr) (iw : Bool) (ex : Int) (ra : Bool) : List Value := [.int .i64 sg, a, b, c] ++ s.L ++ [.bool iw, .int .i64 ex, .bool ra]
def sr0 : Sr := ⟨[], 0, 0, false, ⟨0, 0, 0, 0, 0, 0, 0⟩, false, 0, 0⟩
/-- A symbol with small numbers. -/
def smS (s : Sr) : Prop := s.p.small ∧ (-1000000 ≤ s.zero ∧ s.zero ≤ 1000000) ∧ (-1000000 ≤ s.part ∧ s.part ≤ 1000000) ∧ sz s.ofs ≤ 100
theorem sr0_sm : smS sr0 := by unfold smS P7.small sr0 Sr.ofs; decide +kernel
theorem rsyms_sm : ∀ s ∈ rsyms, ((-3 ≤ s.p.a ∧ s.p.a ≤ 3) ∧ (-3 ≤ s.p.b ∧ s.p.b ≤ 3) ∧ (-3 ≤ s.p.c ∧ s.p.c ≤ 3) ∧ (-3 ≤ s.p.d ∧ s.p.d ≤ 3) ∧ (-3 ≤ s.p.e ∧ s.p.e ≤ 3) ∧ (-3 ≤ s.p.f ∧ s.p.f ≤ 3) ∧ (-3 ≤ s.p.g ∧ s.p.g ≤ 3)) ∧ (-1000000 ≤ s.zero ∧ s.zero ≤ 1000000) ∧ (-1000000 ≤ s.part ∧ s.part ≤ 1000000) ∧ sz s.ofs ≤ 100 := by decide +kernel
theorem rfind_sm {l : List UInt8} {r : Sr} {q : Rat} (h : rfind l = some (r, q)) : smS r := by
  have key : r ∈ rsyms := by
    unfold rfind at h
    cases h1 : rsyms.find? (fun r => r.name == l) with
    | some s =>
      rw [h1] at h
      injection h with h
      injection h with h _
      rw [← h]
      exact find_mem h1
    | none =>
      rw [h1] at h
      dsimp only at h
      split at h
      · cases h
      · cases h2 : pfxQ (l.headD 0) with
        | none => rw [h2] at h; cases h
        | some b =>
          rw [h2] at h
          dsimp only at h
          cases h3 : rsyms.find? (fun r => r.pre && r.name == l.tail) with
          | none => rw [h3] at h; cases h
          | some s =>
            rw [h3] at h
            injection h with h
            injection h with h _
            rw [← h]
            exact find_mem h3
  exact rsyms_sm r key
/-- What take gives. -/
def TakeR (l : List UInt8) (o : Option (RF × List UInt8)) (w : World) (e : Ending) (w' : World) : Prop :=
  ∃ (y : Bool) (A1 : Option Addr) (l1 d1 : Nat) (A2 : Option Addr) (l2 d2 : Nat) (s : Sr) (iw : Bool) (ex : Int) (ra : Bool) (n : Nat), e = .returned (.tuple #[.agg (fcL 0 (.bool y) (.slice A1 l1 d1) (.slice A2 l2 d2) s iw ex ra).toArray, .int .i64 (n : Int), .bool o.isSome]) ∧ Below w.heap.size w w' ∧
    ∀ f rest, o = some (f, rest) → n ≤ l.length ∧ rest = l.drop n ∧ Qr w' (.agg #[.bool y, .slice A1 l1 d1, .slice A2 l2 d2]) f.num ∧ f.p = s.p ∧ f.off = s.off ∧ f.ofs = s.ofs ∧ f.exp = ex ∧ f.raised = ra ∧ smS s
theorem cells21 {w : World} {g : Nat} {t : TypeId} {a0 a1 a2 a3 a4 a5 a6 a7 a8 a9 a10 a11 a12 a13 a14 a15 a16 a17 a18 a19 a20 : Value} (h : Bk w g #[a0, a1, a2, a3, a4, a5, a6, a7, a8, a9, a10, a11, a12, a13, a14, a15, a16, a17, a18, a19, a20] t) : w.cell? ⟨g, 0, none⟩ = some a0 ∧ w.cell? ⟨g, 1, none⟩ = some a1 ∧ w.cell? ⟨g, 2, none⟩ = some a2 ∧ w.cell? ⟨g, 3, none⟩ = some a3 ∧ w.cell? ⟨g, 4, none⟩ = some a4 ∧ w.cell? ⟨g, 5, none⟩ = some a5 ∧ w.cell? ⟨g, 6, none⟩ = some a6 ∧ w.cell? ⟨g, 7, none⟩ = some a7 ∧ w.cell? ⟨g, 8, none⟩ = some a8 ∧ w.cell? ⟨g, 9, none⟩ = some a9 ∧ w.cell? ⟨g, 10, none⟩ = some a10 ∧ w.cell? ⟨g, 11, none⟩ = some a11 ∧ w.cell? ⟨g, 12, none⟩ = some a12 ∧ w.cell? ⟨g, 13, none⟩ = some a13 ∧ w.cell? ⟨g, 14, none⟩ = some a14 ∧ w.cell? ⟨g, 15, none⟩ = some a15 ∧ w.cell? ⟨g, 16, none⟩ = some a16 ∧ w.cell? ⟨g, 17, none⟩ = some a17 ∧ w.cell? ⟨g, 18, none⟩ = some a18 ∧ w.cell? ⟨g, 19, none⟩ = some a19 ∧ w.cell? ⟨g, 20, none⟩ = some a20 :=
  ⟨h.cell 0, h.cell 1, h.cell 2, h.cell 3, h.cell 4, h.cell 5, h.cell 6, h.cell 7, h.cell 8, h.cell 9, h.cell 10, h.cell 11, h.cell 12, h.cell 13, h.cell 14, h.cell 15, h.cell 16, h.cell 17, h.cell 18, h.cell 19, h.cell 20⟩
theorem Bk.frozen21 {w : World} {g : Nat} {t : TypeId} {C : Array Value} (h : Bk w g C t) : w.frozen? ⟨g, 0, none⟩ = false ∧ w.frozen? ⟨g, 1, none⟩ = false ∧ w.frozen? ⟨g, 2, none⟩ = false ∧ w.frozen? ⟨g, 3, none⟩ = false ∧ w.frozen? ⟨g, 4, none⟩ = false ∧ w.frozen? ⟨g, 5, none⟩ = false ∧ w.frozen? ⟨g, 6, none⟩ = false ∧ w.frozen? ⟨g, 7, none⟩ = false ∧ w.frozen? ⟨g, 8, none⟩ = false ∧ w.frozen? ⟨g, 9, none⟩ = false ∧ w.frozen? ⟨g, 10, none⟩ = false ∧ w.frozen? ⟨g, 11, none⟩ = false ∧ w.frozen? ⟨g, 12, none⟩ = false ∧ w.frozen? ⟨g, 13, none⟩ = false ∧ w.frozen? ⟨g, 14, none⟩ = false ∧ w.frozen? ⟨g, 15, none⟩ = false ∧ w.frozen? ⟨g, 16, none⟩ = false ∧ w.frozen? ⟨g, 17, none⟩ = false ∧ w.frozen? ⟨g, 18, none⟩ = false ∧ w.frozen? ⟨g, 19, none⟩ = false ∧ w.frozen? ⟨g, 20, none⟩ = false :=
  ⟨h.frozen 0, h.frozen 1, h.frozen 2, h.frozen 3, h.frozen 4, h.frozen 5, h.frozen 6, h.frozen 7, h.frozen 8, h.frozen 9, h.frozen 10, h.frozen 11, h.frozen 12, h.frozen 13, h.frozen 14, h.frozen 15, h.frozen 16, h.frozen 17, h.frozen 18, h.frozen 19, h.frozen 20⟩
/-- The result's block and the number's. -/
def KT (w w' : World) (h : Nat) (C : Array Value) : Prop := Bk w' w.heap.size fc0C 58 ∧ Bk w' h C 54 ∧ Below w.heap.size w w' ∧ w.heap.size < h
theorem KT.up {w w1 w2 : World} {h : Nat} {C : Array Value} (k : KT w w1 h C) (hb : Below w1.heap.size w1 w2) : KT w w2 h C := ⟨k.1.up hb, k.2.1.up hb, btrans k.2.2.1 hb, k.2.2.2⟩
theorem KT.b {w w1 : World} {h : Nat} {C : Array Value} (k : KT w w1 h C) : Below w.heap.size w w1 := k.2.2.1
def KF (w w' : World) : Prop := Bk w' w.heap.size fc0C 58 ∧ Below w.heap.size w w'
theorem KF.start (w : World) : KF w (w.alloc (.cells fc0C 58)) := ⟨Bk.new w _ _, (Below.refl _ w).alloc (Nat.le_refl _) _⟩
theorem KF.up {w w1 w2 : World} (k : KF w w1) (hb : Below w1.heap.size w1 w2) : KF w w2 := ⟨k.1.up hb, btrans k.2 hb⟩
theorem KF.made {w w1 : World} (k : KF w w1) (C : Array Value) : KT w (w1.alloc (.cells C 54)) w1.heap.size C := ⟨k.1.alloc, Bk.new w1 _ _, below_alloc k.2 _, k.1.lt⟩
theorem KT.cells {w w1 : World} {h : Nat} {b0 b1 b2 : Value} (k : KT w w1 h #[b0, b1, b2]) : w1.cell? ⟨h, 0, none⟩ = some b0 ∧ w1.cell? ⟨h, 1, none⟩ = some b1 ∧ w1.cell? ⟨h, 2, none⟩ = some b2 := ⟨k.2.1.cell 0, k.2.1.cell 1, k.2.1.cell 2⟩
theorem KT.put {w w' : World} {h : Nat} {b0 b1 b2 : Value} (k : KT w w' h #[b0, b1, b2]) (v0 v1 v2 v3 v4 v5 v6 v7 v8 v9 v10 v11 v12 v13 v14 v15 v16 v17 v18 v19 v20 : Value) : (((((((((((((((((((((w'.setCell ⟨w.heap.size, 0, none⟩ v0).setCell ⟨w.heap.size, 1, none⟩ v1).setCell ⟨w.heap.size, 2, none⟩ v2).setCell ⟨w.heap.size, 3, none⟩ v3).setCell ⟨w.heap.size, 4, none⟩ v4).setCell ⟨w.heap.size, 5, none⟩ v5).setCell ⟨w.heap.size, 6, none⟩ v6).setCell ⟨w.heap.size, 7, none⟩ v7).setCell ⟨w.heap.size, 8, none⟩ v8).setCell ⟨w.heap.size, 9, none⟩ v9).setCell ⟨w.heap.size, 10, none⟩ v10).setCell ⟨w.heap.size, 11, none⟩ v11).setCell ⟨w.heap.size, 12, none⟩ v12).setCell ⟨w.heap.size, 13, none⟩ v13).setCell ⟨w.heap.size, 14, none⟩ v14).setCell ⟨w.heap.size, 15, none⟩ v15).setCell ⟨w.heap.size, 16, none⟩ v16).setCell ⟨w.heap.size, 17, none⟩ v17).setCell ⟨w.heap.size, 18, none⟩ v18).setCell ⟨w.heap.size, 19, none⟩ v19).setCell ⟨w.heap.size, 20, none⟩ v20).cell? ⟨h, 0, none⟩ = some b0 ∧ (((((((((((((((((((((w'.setCell ⟨w.heap.size, 0, none⟩ v0).setCell ⟨w.heap.size, 1, none⟩ v1).setCell ⟨w.heap.size, 2, none⟩ v2).setCell ⟨w.heap.size, 3, none⟩ v3).setCell ⟨w.heap.size, 4, none⟩ v4).setCell ⟨w.heap.size, 5, none⟩ v5).setCell ⟨w.heap.size, 6, none⟩ v6).setCell ⟨w.heap.size, 7, none⟩ v7).setCell ⟨w.heap.size, 8, none⟩ v8).setCell ⟨w.heap.size, 9, none⟩ v9).setCell ⟨w.heap.size, 10, none⟩ v10).setCell ⟨w.heap.size, 11, none⟩ v11).setCell ⟨w.heap.size, 12, none⟩ v12).setCell ⟨w.heap.size, 13, none⟩ v13).setCell ⟨w.heap.size, 14, none⟩ v14).setCell ⟨w.heap.size, 15, none⟩ v15).setCell ⟨w.heap.size, 16, none⟩ v16).setCell ⟨w.heap.size, 17, none⟩ v17).setCell ⟨w.heap.size, 18, none⟩ v18).setCell ⟨w.heap.size, 19, none⟩ v19).setCell ⟨w.heap.size, 20, none⟩ v20).cell? ⟨h, 1, none⟩ = some b1 ∧ (((((((((((((((((((((w'.setCell ⟨w.heap.size, 0, none⟩ v0).setCell ⟨w.heap.size, 1, none⟩ v1).setCell ⟨w.heap.size, 2, none⟩ v2).setCell ⟨w.heap.size, 3, none⟩ v3).setCell ⟨w.heap.size, 4, none⟩ v4).setCell ⟨w.heap.size, 5, none⟩ v5).setCell ⟨w.heap.size, 6, none⟩ v6).setCell ⟨w.heap.size, 7, none⟩ v7).setCell ⟨w.heap.size, 8, none⟩ v8).setCell ⟨w.heap.size, 9, none⟩ v9).setCell ⟨w.heap.size, 10, none⟩ v10).setCell ⟨w.heap.size, 11, none⟩ v11).setCell ⟨w.heap.size, 12, none⟩ v12).setCell ⟨w.heap.size, 13, none⟩ v13).setCell ⟨w.heap.size, 14, none⟩ v14).setCell ⟨w.heap.size, 15, none⟩ v15).setCell ⟨w.heap.size, 16, none⟩ v16).setCell ⟨w.heap.size, 17, none⟩ v17).setCell ⟨w.heap.size, 18, none⟩ v18).setCell ⟨w.heap.size, 19, none⟩ v19).setCell ⟨w.heap.size, 20, none⟩ v20).cell? ⟨h, 2, none⟩ = some b2 := by
  have e := k.2.1.put_other (h := w.heap.size) 0 [v0, v1, v2, v3, v4, v5, v6, v7, v8, v9, v10, v11, v12, v13, v14, v15, v16, v17, v18, v19, v20] (by have := k.2.2.2; omega)
  exact ⟨e.cell 0, e.cell 1, e.cell 2⟩
theorem KT.put_drew {w w' : World} {h : Nat} {b0 b1 b2 : Value} (k : KT w w' h #[b0, b1, b2]) (v0 v1 v2 v3 v4 v5 v6 v7 v8 v9 v10 v11 v12 v13 v14 v15 v16 v17 v18 v19 v20 : Value) : (((((((((((((((((((((w'.setCell ⟨w.heap.size, 0, none⟩ v0).setCell ⟨w.heap.size, 1, none⟩ v1).setCell ⟨w.heap.size, 2, none⟩ v2).setCell ⟨w.heap.size, 3, none⟩ v3).setCell ⟨w.heap.size, 4, none⟩ v4).setCell ⟨w.heap.size, 5, none⟩ v5).setCell ⟨w.heap.size, 6, none⟩ v6).setCell ⟨w.heap.size, 7, none⟩ v7).setCell ⟨w.heap.size, 8, none⟩ v8).setCell ⟨w.heap.size, 9, none⟩ v9).setCell ⟨w.heap.size, 10, none⟩ v10).setCell ⟨w.heap.size, 11, none⟩ v11).setCell ⟨w.heap.size, 12, none⟩ v12).setCell ⟨w.heap.size, 13, none⟩ v13).setCell ⟨w.heap.size, 14, none⟩ v14).setCell ⟨w.heap.size, 15, none⟩ v15).setCell ⟨w.heap.size, 16, none⟩ v16).setCell ⟨w.heap.size, 17, none⟩ v17).setCell ⟨w.heap.size, 18, none⟩ v18).setCell ⟨w.heap.size, 19, none⟩ v19).setCell ⟨w.heap.size, 20, none⟩ v20).drew.cell? ⟨h, 0, none⟩ = some b0 ∧ (((((((((((((((((((((w'.setCell ⟨w.heap.size, 0, none⟩ v0).setCell ⟨w.heap.size, 1, none⟩ v1).setCell ⟨w.heap.size, 2, none⟩ v2).setCell ⟨w.heap.size, 3, none⟩ v3).setCell ⟨w.heap.size, 4, none⟩ v4).setCell ⟨w.heap.size, 5, none⟩ v5).setCell ⟨w.heap.size, 6, none⟩ v6).setCell ⟨w.heap.size, 7, none⟩ v7).setCell ⟨w.heap.size, 8, none⟩ v8).setCell ⟨w.heap.size, 9, none⟩ v9).setCell ⟨w.heap.size, 10, none⟩ v10).setCell ⟨w.heap.size, 11, none⟩ v11).setCell ⟨w.heap.size, 12, none⟩ v12).setCell ⟨w.heap.size, 13, none⟩ v13).setCell ⟨w.heap.size, 14, none⟩ v14).setCell ⟨w.heap.size, 15, none⟩ v15).setCell ⟨w.heap.size, 16, none⟩ v16).setCell ⟨w.heap.size, 17, none⟩ v17).setCell ⟨w.heap.size, 18, none⟩ v18).setCell ⟨w.heap.size, 19, none⟩ v19).setCell ⟨w.heap.size, 20, none⟩ v20).drew.cell? ⟨h, 1, none⟩ = some b1 ∧ (((((((((((((((((((((w'.setCell ⟨w.heap.size, 0, none⟩ v0).setCell ⟨w.heap.size, 1, none⟩ v1).setCell ⟨w.heap.size, 2, none⟩ v2).setCell ⟨w.heap.size, 3, none⟩ v3).setCell ⟨w.heap.size, 4, none⟩ v4).setCell ⟨w.heap.size, 5, none⟩ v5).setCell ⟨w.heap.size, 6, none⟩ v6).setCell ⟨w.heap.size, 7, none⟩ v7).setCell ⟨w.heap.size, 8, none⟩ v8).setCell ⟨w.heap.size, 9, none⟩ v9).setCell ⟨w.heap.size, 10, none⟩ v10).setCell ⟨w.heap.size, 11, none⟩ v11).setCell ⟨w.heap.size, 12, none⟩ v12).setCell ⟨w.heap.size, 13, none⟩ v13).setCell ⟨w.heap.size, 14, none⟩ v14).setCell ⟨w.heap.size, 15, none⟩ v15).setCell ⟨w.heap.size, 16, none⟩ v16).setCell ⟨w.heap.size, 17, none⟩ v17).setCell ⟨w.heap.size, 18, none⟩ v18).setCell ⟨w.heap.size, 19, none⟩ v19).setCell ⟨w.heap.size, 20, none⟩ v20).drew.cell? ⟨h, 2, none⟩ = some b2 := by
  simp only [drew_cell]
  exact k.put v0 v1 v2 v3 v4 v5 v6 v7 v8 v9 v10 v11 v12 v13 v14 v15 v16 v17 v18 v19 v20
theorem KT.give {w w' : World} {h : Nat} {C : Array Value} (k : KT w w' h C) (l : List Value) : Below w.heap.size w (putL w' w.heap.size 0 l) := putL_below (Nat.le_refl _) l 0 k.b
theorem fc0_not : fc0C.all (notK .u64) = true := by simp [fc0C, notK]
theorem rstep_none {l : List UInt8} (h : 0 < numb l) (hf : frm (l.take (numb l)) = none) : rstep l = none := by unfold rstep; rw [if_pos h, hf]
theorem rstep_bad {l : List UInt8} {q : Rat} (h : 0 < numb l) (hf : frm (l.take (numb l)) = some q) (hq : ¬ (short q = true ∧ 0 < q)) : rstep l = none := by unfold rstep; rw [if_pos h, hf]; dsimp only; rw [if_neg hq]
theorem rstep_num {l : List UInt8} {q : Rat} (h : 0 < numb l) (hf : frm (l.take (numb l)) = some q) (hq : short q = true ∧ 0 < q) : rstep l = some (⟨q, ⟨0, 0, 0, 0, 0, 0, 0⟩, false, 0, 1, false⟩, l.drop (numb l)) := by unfold rstep; rw [if_pos h, hf]; dsimp only; rw [if_pos hq]
theorem TakeR.no {l : List UInt8} {w w' : World} {y : Bool} {A1 : Option Addr} {l1 d1 : Nat} {A2 : Option Addr} {l2 d2 n : Nat} (hb : Below w.heap.size w w') : TakeR l none w (.returned (.tuple #[.agg #[.int .i64 0, .bool y, .slice A1 l1 d1, .slice A2 l2 d2, .string ⟨#[]⟩, .int .i64 0, .int .i64 0, .bool false, .int .i64 0, .int .i64 0, .int .i64 0, .int .i64 0, .int .i64 0, .int .i64 0, .int .i64 0, .bool false, .int .i64 0, .int .i64 0, .bool false, .int .i64 1, .bool false], .int .i64 (n : Int), .bool false])) w' :=
  ⟨y, A1, l1, d1, A2, l2, d2, sr0, false, 1, false, n, rfl, hb, fun f rest e => by cases e⟩
theorem TakeR.num {l : List UInt8} {w w' : World} {y : Bool} {A1 : Option Addr} {l1 d1 : Nat} {A2 : Option Addr} {l2 d2 n : Nat} {q : Rat} (hb : Below w.heap.size w w') (hn : n ≤ l.length) (hq : Qr w' (.agg #[.bool y, .slice A1 l1 d1, .slice A2 l2 d2]) q) : TakeR l (some (⟨q, ⟨0, 0, 0, 0, 0, 0, 0⟩, false, 0, 1, false⟩, l.drop n)) w (.returned (.tuple #[.agg #[.int .i64 0, .bool y, .slice A1 l1 d1, .slice A2 l2 d2, .string ⟨#[]⟩, .int .i64 0, .int .i64 0, .bool false, .int .i64 0, .int .i64 0, .int .i64 0, .int .i64 0, .int .i64 0, .int .i64 0, .int .i64 0, .bool false, .int .i64 0, .int .i64 0, .bool false, .int .i64 1, .bool false], .int .i64 (n : Int), .bool true])) w' :=
  ⟨y, A1, l1, d1, A2, l2, d2, sr0, false, 1, false, n, rfl, hb, fun f rest e => by
    injection e with e
    injection e with e1 e2
    subst e1 e2
    exact ⟨hn, rfl, hq, rfl, rfl, rfl, rfl, rfl, sr0_sm⟩⟩
theorem TakeR.fail {l : List UInt8} {w w' : World} {y : Bool} {A1 : Option Addr} {l1 d1 : Nat} {A2 : Option Addr} {l2 d2 : Nat} {M : ByteArray} {ov by_ : Int} {pr : Bool} {p0 p1 p2 p3 p4 p5 p6 : Int} {of : Bool} {ze pa : Int} {iw ra : Bool} {ex : Int} {n : Nat} (hb : Below w.heap.size w w') : TakeR l none w (.returned (.tuple #[.agg #[.int .i64 0, .bool y, .slice A1 l1 d1, .slice A2 l2 d2, .string M, .int .i64 ov, .int .i64 by_, .bool pr, .int .i64 p0, .int .i64 p1, .int .i64 p2, .int .i64 p3, .int .i64 p4, .int .i64 p5, .int .i64 p6, .bool of, .int .i64 ze, .int .i64 pa, .bool iw, .int .i64 ex, .bool ra], .int .i64 (n : Int), .bool false])) w' :=
  ⟨y, A1, l1, d1, A2, l2, d2, ⟨bl M, ov, by_, pr, ⟨p0, p1, p2, p3, p4, p5, p6⟩, of, ze, pa⟩, iw, ex, ra, n, rfl, hb, fun f rest e => by cases e⟩
theorem TakeR.word {l : List UInt8} {w w' : World} {y : Bool} {A1 : Option Addr} {l1 d1 : Nat} {A2 : Option Addr} {l2 d2 : Nat} {M : ByteArray} {ov by_ : Int} {pr : Bool} {p0 p1 p2 p3 p4 p5 p6 : Int} {of : Bool} {ze pa : Int} {iw ra : Bool} {ex : Int} {n : Nat} {q : Rat} (hb : Below w.heap.size w w') (hn : n ≤ l.length) (hsm : smS ⟨bl M, ov, by_, pr, ⟨p0, p1, p2, p3, p4, p5, p6⟩, of, ze, pa⟩) (hq : Qr w' (.agg #[.bool y, .slice A1 l1 d1, .slice A2 l2 d2]) q) : TakeR l (some (⟨q, ⟨p0, p1, p2, p3, p4, p5, p6⟩, of, Sr.ofs ⟨bl M, ov, by_, pr, ⟨p0, p1, p2, p3, p4, p5, p6⟩, of, ze, pa⟩, ex, ra⟩, l.drop n)) w (.returned (.tuple #[.agg #[.int .i64 0, .bool y, .slice A1 l1 d1, .slice A2 l2 d2, .string M, .int .i64 ov, .int .i64 by_, .bool pr, .int .i64 p0, .int .i64 p1, .int .i64 p2, .int .i64 p3, .int .i64 p4, .int .i64 p5, .int .i64 p6, .bool of, .int .i64 ze, .int .i64 pa, .bool iw, .int .i64 ex, .bool ra], .int .i64 (n : Int), .bool true])) w' :=
  ⟨y, A1, l1, d1, A2, l2, d2, ⟨bl M, ov, by_, pr, ⟨p0, p1, p2, p3, p4, p5, p6⟩, of, ze, pa⟩, iw, ex, ra, n, rfl, hb, fun f rest e => by
    injection e with e
    injection e with e1 e2
    subst e1 e2
    exact ⟨hn, rfl, hq, rfl, rfl, rfl, rfl, rfl, hsm⟩⟩
/-- What take gives of a number that was read. -/
theorem TakeR.either {l : List UInt8} {w w' : World} {y : Bool} {A1 : Option Addr} {l1 d1 : Nat} {A2 : Option Addr} {l2 d2 : Nat} {n : Nat} {q : Rat} (h0 : 0 < numb l) (hf : frm (l.take (numb l)) = some q) (hs : short q = true) (hn : numb l = n) (hb : Below w.heap.size w w') (hq : Qr w' (.agg #[.bool y, .slice A1 l1 d1, .slice A2 l2 d2]) q) : TakeR l (rstep l) w (.returned (.tuple #[.agg #[.int .i64 0, .bool y, .slice A1 l1 d1, .slice A2 l2 d2, .string ⟨#[]⟩, .int .i64 0, .int .i64 0, .bool false, .int .i64 0, .int .i64 0, .int .i64 0, .int .i64 0, .int .i64 0, .int .i64 0, .int .i64 0, .bool false, .int .i64 0, .int .i64 0, .bool false, .int .i64 1, .bool false], .int .i64 (n : Int), .bool (decide (0 < sign q))])) w' := by
  have hl := numb_le l
  by_cases h : 0 < q
  · rw [rstep_num h0 hf ⟨hs, h⟩, hn, decide_eq_true (sign_pos.2 h)]
    exact TakeR.num hb (by omega) hq
  · rw [rstep_bad h0 hf (fun k => h k.2), decide_eq_false (fun k => h (sign_pos.1 k))]
    exact TakeR.no hb
theorem ReadR.some5 {q : Rat} {w w' : World} {e : Ending} (h : ReadR (Option.some q) w e w') : ∃ y A1 l1 d1 A2 l2 d2, e = .returned (.tuple #[.agg #[.bool y, .slice A1 l1 d1, .slice A2 l2 d2], .bool true]) ∧ Below w.heap.size w w' ∧ Qr w' (.agg #[.bool y, .slice A1 l1 d1, .slice A2 l2 d2]) q ∧ sz q ≤ 5000 := by
  obtain ⟨y, A1, l1, c1, A2, l2, c2, q0, h1, h2, h3, h4, h5⟩ := h
  have := h5 q rfl
  subst this
  exact ⟨y, A1, l1, c1, A2, l2, c2, h1, h2, h3, h4⟩
theorem FindR.nothing {w w' : World} {e : Ending} (h : FindR none w e w') : ∃ (M : ByteArray) (ov by_ : Int) (pr : Bool) (p0 p1 p2 p3 p4 p5 p6 : Int) (of : Bool) (ze pa : Int) (y : Bool) (A1 : Option Addr) (l1 d1 : Nat) (A2 : Option Addr) (l2 d2 : Nat), e = .returned (.tuple #[.agg #[.string M, .int .i64 ov, .int .i64 by_, .bool pr, .int .i64 p0, .int .i64 p1, .int .i64 p2, .int .i64 p3, .int .i64 p4, .int .i64 p5, .int .i64 p6, .bool of, .int .i64 ze, .int .i64 pa], .agg #[.bool y, .slice A1 l1 d1, .slice A2 l2 d2], .bool false]) ∧ Below w.heap.size w w' := by
  obtain ⟨⟨n, ov, by_, pr, ⟨p0, p1, p2, p3, p4, p5, p6⟩, of, ze, pa⟩, y, A1, l1, d1, A2, l2, d2, q, h1, h2, _⟩ := h
  exact ⟨⟨n.toArray⟩, ov, by_, pr, p0, p1, p2, p3, p4, p5, p6, of, ze, pa, y, A1, l1, d1, A2, l2, d2, h1, h2⟩
theorem FindR.got {w w' : World} {e : Ending} {M : ByteArray} {ov by_ : Int} {pr : Bool} {p0 p1 p2 p3 p4 p5 p6 : Int} {of : Bool} {ze pa : Int} {q : Rat} (h : FindR (some (⟨bl M, ov, by_, pr, ⟨p0, p1, p2, p3, p4, p5, p6⟩, of, ze, pa⟩, q)) w e w') : ∃ (y : Bool) (A1 : Option Addr) (l1 d1 : Nat) (A2 : Option Addr) (l2 d2 : Nat), e = .returned (.tuple #[.agg #[.string M, .int .i64 ov, .int .i64 by_, .bool pr, .int .i64 p0, .int .i64 p1, .int .i64 p2, .int .i64 p3, .int .i64 p4, .int .i64 p5, .int .i64 p6, .bool of, .int .i64 ze, .int .i64 pa], .agg #[.bool y, .slice A1 l1 d1, .slice A2 l2 d2], .bool true]) ∧ Below w.heap.size w w' ∧ Qr w' (.agg #[.bool y, .slice A1 l1 d1, .slice A2 l2 d2]) q := by
  obtain ⟨s, y, A1, l1, d1, A2, l2, d2, q0, h1, h2, h3, _, h5⟩ := h
  obtain ⟨e1, e2⟩ := h5 _ _ rfl
  subst e1 e2
  exact ⟨y, A1, l1, d1, A2, l2, d2, h1, h2, h3⟩
theorem KF.put3 {w w1 : World} (k : KF w w1) (w3 : World) (hb : Below w1.heap.size w1 w3) {C D E : Array Value} : KF w (((w3.alloc (.cells C 56)).alloc (.cells D 54)).alloc (.cells E 58)) :=
  have h := k.up hb
  ⟨((h.1.alloc).alloc).alloc, below_alloc (below_alloc (below_alloc h.2 _) _) _⟩
/-- The result's block and that of a factor. -/
def KW (w w' : World) (h : Nat) (E : Array Value) : Prop := KF w w' ∧ Bk w' h E 58 ∧ w.heap.size < h
theorem KF.made3 {w w1 : World} (k : KF w w1) (w3 : World) (hb : Below w1.heap.size w1 w3) {C D E : Array Value} : KW w (((w3.alloc (.cells C 56)).alloc (.cells D 54)).alloc (.cells E 58)) (w3.heap.size + 2) E := by
  have h := k.up hb
  have hl := h.1.lt
  have e2 : ((w3.alloc (.cells C 56)).alloc (.cells D 54)).heap.size = w3.heap.size + 2 := by simp
  have b := Bk.new ((w3.alloc (.cells C 56)).alloc (.cells D 54)) E 58
  rw [e2] at b
  exact ⟨k.put3 w3 hb, b, by omega⟩
theorem KF.made2 {w w1 : World} (k : KF w w1) (w3 : World) (hb : Below w1.heap.size w1 w3) (C D : Array Value) : KF w ((w3.alloc (.cells C 56)).alloc (.cells D 54)) ∧ Bk ((w3.alloc (.cells C 56)).alloc (.cells D 54)) w3.heap.size C 56 ∧ Bk ((w3.alloc (.cells C 56)).alloc (.cells D 54)) (w3.heap.size + 1) D 54 := by
  have h := k.up hb
  have b := Bk.new (w3.alloc (.cells C 56)) D 54
  rw [show (w3.alloc (.cells C 56)).heap.size = w3.heap.size + 1 by simp] at b
  exact ⟨⟨(h.1.alloc).alloc, below_alloc (below_alloc h.2 _) _⟩, (Bk.new w3 _ _).alloc, b⟩
theorem KF.made1 {w w4 : World} (k : KF w w4) (E : Array Value) : KW w (w4.alloc (.cells E 58)) w4.heap.size E := ⟨⟨k.1.alloc, below_alloc k.2 _⟩, Bk.new w4 _ _, k.1.lt⟩
theorem Qr.up2 {w3 : World} {v : Value} {q : Rat} (h : Qr w3 v q) (C D : Array Value) : Qr ((w3.alloc (.cells C 56)).alloc (.cells D 54)) v q := h.up (below_alloc (below_alloc (Below.refl _ _) _) _)
theorem Qr.up1 {w3 : World} {v : Value} {q : Rat} (h : Qr w3 v q) (E : Array Value) : Qr (w3.alloc (.cells E 58)) v q := h.up (below_alloc (Below.refl _ _) _)
theorem Qr.up3 {w3 : World} {v : Value} {q : Rat} (h : Qr w3 v q) (C D E : List Value) : Qr (((w3.alloc (.cells C.toArray 56)).alloc (.cells D.toArray 54)).alloc (.cells E.toArray 58)) v q :=
  h.up (below_alloc (below_alloc (below_alloc (Below.refl _ _) _) _) _)
theorem KF.give {w w' : World} (k : KF w w') (l : List Value) : Below w.heap.size w (putL w' w.heap.size 0 l) := putL_below (Nat.le_refl _) l 0 k.2
theorem rstep_word_none {l : List UInt8} (h : numb l = 0) (hf : rfind (l.take (wrd l)) = none) : rstep l = none := by unfold rstep; rw [if_neg (by omega), hf]
theorem rstep_word_plain {l : List UInt8} {r : Sr} {q : Rat} (h : numb l = 0) (hf : rfind (l.take (wrd l)) = some (r, q)) (hh : (l.drop (wrd l)).head? ≠ some 94) : rstep l = some (⟨q, r.p, r.off, r.ofs, 1, false⟩, l.drop (wrd l)) := by unfold rstep; rw [if_neg (by omega), hf]; dsimp only; rw [if_neg hh]
theorem rstep_word_exp {l : List UInt8} {r : Sr} {q : Rat} (h : numb l = 0) (hf : rfind (l.take (wrd l)) = some (r, q)) (hh : (l.drop (wrd l)).head? = some 94) : rstep l = (rexp (l.drop (wrd l)).tail).map fun x => (⟨q, r.p, r.off, r.ofs, x.1, true⟩, x.2) := by
  unfold rstep
  rw [if_neg (by omega), hf]
  dsimp only
  rw [if_pos hh]
  cases rexp (l.drop (wrd l)).tail with
  | none => rfl
  | some x => rfl
/-- What take gives of a word with an exponent. -/
theorem TakeR.exp {l : List UInt8} {w w' : World} {y : Bool} {A1 : Option Addr} {l1 d1 : Nat} {A2 : Option Addr} {l2 d2 : Nat} {M : ByteArray} {ov by_ : Int} {pr : Bool} {p0 p1 p2 p3 p4 p5 p6 : Int} {of : Bool} {ze pa : Int} {ex : Int} {n k : Nat} {q : Rat} (hb : Below w.heap.size w w') (hq : Qr w' (.agg #[.bool y, .slice A1 l1 d1, .slice A2 l2 d2]) q) (h0 : numb l = 0) (hf : rfind (l.take (wrd l)) = some (⟨bl M, ov, by_, pr, ⟨p0, p1, p2, p3, p4, p5, p6⟩, of, ze, pa⟩, q)) (hh : (l.drop (wrd l)).head? = some 94)
    (hn : n ≤ l.length) (hx : rexp (l.drop (wrd l)).tail = if k = 0 then none else some (ex, l.drop n)) : TakeR l (rstep l) w (.returned (.tuple #[.agg #[.int .i64 0, .bool y, .slice A1 l1 d1, .slice A2 l2 d2, .string M, .int .i64 ov, .int .i64 by_, .bool pr, .int .i64 p0, .int .i64 p1, .int .i64 p2, .int .i64 p3, .int .i64 p4, .int .i64 p5, .int .i64 p6, .bool of, .int .i64 ze, .int .i64 pa, .bool true, .int .i64 ex, .bool true], .int .i64 (n : Int), .bool (decide (0 < (k : Int)))])) w' := by
  rw [rstep_word_exp h0 hf hh, hx]
  by_cases hk : k = 0
  · rw [if_pos hk, hk]
    exact TakeR.fail hb
  · rw [if_neg hk, decide_eq_true (show (0 : Int) < (k : Int) by omega)]
    exact TakeR.word hb hn (rfind_sm hf) hq
theorem rexp_at {l : List UInt8} {m : Nat} {b : Bool} {t : List UInt8} (hb : isNeg t = b) (hm : body t = l.drop m) : rexp t = if dlen l m = 0 then none else some (if b = true then -((min (val ((l.drop m).take (dlen l m))) 1000 : Nat) : Int) else ((min (val ((l.drop m).take (dlen l m))) 1000 : Nat) : Int), l.drop (m + dlen l m)) := by
  subst hb
  unfold rexp
  rw [hm, cnt_dlen', List.drop_drop]
  by_cases h : dlen l m = 0
  · rw [if_pos h, if_pos h]
  · rw [if_neg h, if_neg h]
    cases isNeg t <;> rfl
end Go.Proofs.YthjnmnepjeegiaaGreatDoor
