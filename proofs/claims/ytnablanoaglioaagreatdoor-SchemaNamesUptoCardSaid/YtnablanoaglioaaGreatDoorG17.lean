/- Texts RqF RqG RqH RqI TakX ReA TakC TakD TakE -/
import Derived.Test.YtnablanoaglioaaGreatDoorG16
import Derived.Test.YtnablanoaglioaaGreatDoorG15
import Derived.Lib.OthersKept
namespace Go.Proofs.YtnablanoaglioaaGreatDoor
open Go.RowKit Dg Q Num Str

end Go.Proofs.YtnablanoaglioaaGreatDoor
namespace Go.Proofs.YtnablanoaglioaaGreatDoor
open Go.RowKit Dg Q Num Str

end Go.Proofs.YtnablanoaglioaaGreatDoor
namespace Go.Proofs.YtnablanoaglioaaGreatDoor
open Go.RowKit Dg Q Num Str

end Go.Proofs.YtnablanoaglioaaGreatDoor
namespace Go.Proofs.YtnablanoaglioaaGreatDoor
open Go.RowKit Dg Q Num Str

end Go.Proofs.YtnablanoaglioaaGreatDoor
namespace Go.Proofs.YtnablanoaglioaaGreatDoor
open Go.RowKit Go.Proofs.YtnablanoaglioaaGreatDoor.Q

section
variable {P : Program} {md : Region.Mode} {ops : Array Oper} {Q : Exit → Act → World → Prop} {E : List Nat} {S : World → Prop}
def wpX (P : Program) (md : Region.Mode) (ops : Array Oper) (Q : Exit → Act → World → Prop) (E : List Nat) (S : World → Prop) (n : Nat) (l : Array Bool) (a : Act) (w : World) : Prop :=
  match n with
  | 0 => Region.ready md ops l = [] ∧ Q .normal a w
  | n + 1 => (Region.ready md ops l = [] → Q .normal a w) ∧ ∀ i, i ∈ Region.ready md ops l → wpOp P ops Q i (fun a' w' => (i ∉ E → S w') ∧ wpX P md ops Q E S n (l.setIfInBounds i true) a' w') a w
theorem wpX.any : ∀ {n : Nat} {l : Array Bool} {a : Act} {w : World}, wpX P md ops Q E S n l a w → wpAny P md ops Q n l a w
  | 0, _, _, _, h => h
  | _ + 1, _, _, _, h => ⟨h.1, fun i hi => wpOp_mono (fun _ _ h' => wpX.any h'.2) (h.2 i hi)⟩
def waits (md : Region.Mode) (ops : Array Oper) (E : List Nat) (i : Nat) : Bool := E.all fun j => match ops[j]? with
  | some o => o.after.any fun e => Region.binds md e && e.on == i
  | none => true
theorem waits_out {i j : Nat} {o : Oper} (h : waits md ops E i = true) (hj : j ∈ E) (ho : ops[j]? = some o) : ∃ e, e ∈ o.after ∧ Region.binds md e = true ∧ e.on = i := by
  have h1 := List.all_eq_true.1 h j hj
  rw [ho] at h1
  obtain ⟨k, hk, h2⟩ := Array.any_eq_true.1 h1
  rw [Bool.and_eq_true, beq_iff_eq] at h2
  exact ⟨_, Array.getElem_mem hk, h2.1, h2.2⟩
theorem getD_two {l : Array Bool} {i : Nat} (h : l.getD i true = false) : l.getD i false = false := by
  rcases Nat.lt_or_ge i l.size with h' | h'
  · simp [h'] at h ⊢; exact h
  · simp [Array.getElem?_eq_none h'] at h
theorem wpX_first {i : Nat} {oi : Oper} {v : Value} (hi : ops[i]? = some oi) (hsel : ∀ (j : Nat) (o : Oper) cs b, ops[j]? = some o → o.op ≠ .select cs b) (hQ : ∀ c a w, Q (.panic c) (a.put oi.dst v) w → Q (.panic c) a w) (hE : waits md ops E i = true) (hiE : i ∉ E) :
    ∀ (n : Nat) (l : Array Bool) (a : Act) (w : World), (∀ j oj, ops[j]? = some oj → j ≠ i → l.getD j true = false → (∀ e ∈ oj.after, Region.binds md e = true → e.on ≠ i) → oi.apart ops oj = true) →
      i ∈ Region.ready md ops l → YieldsIf P ops S oi v a → S w → wpX P md ops Q E S n (l.setIfInBounds i true) (a.put oi.dst v) w → wpX P md ops Q E S (n + 1) l a w
  | 0, l, a, w, _, hr, hy, hS, H => by
    refine ⟨fun h => absurd (h ▸ hr) (by simp), fun j hj => ?_⟩
    by_cases hji : j = i
    · subst hji; exact hy.wpOp hi hS ⟨fun _ => hS, H⟩
    · exact absurd (H.1 ▸ ready_mono hj hji) (by simp)
  | n + 1, l, a, w, hf, hr, hy, hS, H => by
    refine ⟨fun h => absurd (h ▸ hr) (by simp), fun j hj => ?_⟩
    by_cases hji : j = i
    · subst hji; exact hy.wpOp hi hS ⟨fun _ => hS, H⟩
    obtain ⟨hun, oj, hoj, hall⟩ := mem_ready.1 hj
    have hnot : ∀ e ∈ oj.after, Region.binds md e = true → e.on ≠ i := fun e he hb heq => by
      have h1 := hall e he hb
      rw [heq, getD_two (mem_ready.1 hr).1] at h1
      cases h1
    have hjE : j ∉ E := fun h => by
      obtain ⟨e, he, hb, hon⟩ := waits_out hE h hoj
      exact hnot e he hb hon
    have h2 := wpOp_putIf hoj (hf j oj hoj hji hun hnot) (fun cs b => hsel i oi cs b hi) (fun cs b => hsel j oj cs b hoj) hQ hy (H.2 j (ready_mono hj hji))
    refine wpOp_mono (fun a' w' h3 => ⟨h3.2.1, wpX_first hi hsel hQ hE hiE n _ a' w' (fun k ok hk hki hu hno => hf k ok hk hki ?_ hno) (ready_mono hr (Ne.symm hji)) h3.1 (h3.2.1 hjE) (by rw [Array.setIfInBounds_comm _ _ hji]; exact h3.2.2)⟩) h2
    by_cases hjk : j = k
    · subst hjk; exact hun
    · rwa [getD_set_ne true hjk] at hu

theorem wpX_pure {i : Nat} {oi : Oper} {v : Value} (hi : ops[i]? = some oi) (hsel : ∀ (j : Nat) (o : Oper) cs b, ops[j]? = some o → o.op ≠ .select cs b) (hQ : ∀ c a w, Q (.panic c) (a.put oi.dst v) w → Q (.panic c) a w) (hiE : i ∈ E) :
    ∀ (n : Nat) (l : Array Bool) (a : Act) (w : World), (∀ j oj, ops[j]? = some oj → j ≠ i → l.getD j true = false → (∀ e ∈ oj.after, Region.binds md e = true → e.on ≠ i) → oi.apart ops oj = true) →
      i ∈ Region.ready md ops l → YieldsIf P ops (fun _ => True) oi v a → wpX P md ops Q E S n (l.setIfInBounds i true) (a.put oi.dst v) w → wpX P md ops Q E S (n + 1) l a w
  | 0, l, a, w, _, hr, hy, H => by
    refine ⟨fun h => absurd (h ▸ hr) (by simp), fun j hj => ?_⟩
    by_cases hji : j = i
    · subst hji; exact hy.wpOp hi trivial ⟨fun h => absurd hiE h, H⟩
    · exact absurd (H.1 ▸ ready_mono hj hji) (by simp)
  | n + 1, l, a, w, hf, hr, hy, H => by
    refine ⟨fun h => absurd (h ▸ hr) (by simp), fun j hj => ?_⟩
    by_cases hji : j = i
    · subst hji; exact hy.wpOp hi trivial ⟨fun h => absurd hiE h, H⟩
    obtain ⟨hun, oj, hoj, hall⟩ := mem_ready.1 hj
    have hnot : ∀ e ∈ oj.after, Region.binds md e = true → e.on ≠ i := fun e he hb heq => by
      have h1 := hall e he hb
      rw [heq, getD_two (mem_ready.1 hr).1] at h1
      cases h1
    have h2 := wpOp_putIf hoj (hf j oj hoj hji hun hnot) (fun cs b => hsel i oi cs b hi) (fun cs b => hsel j oj cs b hoj) hQ hy (H.2 j (ready_mono hj hji))
    refine wpOp_mono (fun a' w' h3 => ⟨h3.2.1, wpX_pure hi hsel hQ hiE n _ a' w' (fun k ok hk hki hu hno => hf k ok hk hki ?_ hno) (ready_mono hr (Ne.symm hji)) h3.1 (by rw [Array.setIfInBounds_comm _ _ hji]; exact h3.2.2)⟩) h2
    by_cases hjk : j = k
    · subst hjk; exact hun
    · rwa [getD_set_ne true hjk] at hu

variable {n : Nat} {l : Array Bool} {a : Act} {w : World}
theorem xPure (i d : Nat) (v : Value) (hc : (tOk md ops l i d a true && E.contains i) = true) (hv : ∀ w', (ops[i]?.map fun o => (execOp a.eval o).run P w') = some (.ok (.value v) w'))
    (h : wpX P md ops (NoPanic Q) E S n (l.setIfInBounds i true) (a.put (some d) v) w) : wpX P md ops (NoPanic Q) E S (n + 1) l a w := by
  rw [Bool.and_eq_true] at hc
  obtain ⟨h1, h2, h3, o, ho, hd, hw⟩ := tOk_out hc.1
  rw [← hd] at h
  refine wpX_pure ho (Region.noSelect_spec h1) (fun _ _ _ h => h) (by simpa using hc.2) n l a w (Region.free_spec ho h2) (by simpa using h3) (Or.inl ⟨hw, fun w' _ => ?_⟩) h
  have := hv w'
  rw [ho, Option.map_some, Option.some.injEq] at this
  exact this
theorem xStart {id : Nat} (hm : P.follows .mixedOrders = true) (h : wpX P .any ops Q E S ops.size (Array.replicate ops.size false) a w.drew) : (Code.region id ops true).wp P Q a w := wp_region_any hm h.any
theorem xVal (i d : Nat) (v : Value) (hS : S w) (hc : (tOk md ops l i d a true && (waits md ops E i && !E.contains i)) = true) (hv : ∀ w', S w' → (ops[i]?.map fun o => (execOp a.eval o).run P w') = some (.ok (.value v) w'))
    (h : wpX P md ops (NoPanic Q) E S n (l.setIfInBounds i true) (a.put (some d) v) w) : wpX P md ops (NoPanic Q) E S (n + 1) l a w := by
  rw [Bool.and_eq_true, Bool.and_eq_true] at hc
  obtain ⟨h1, h2, h3, o, ho, hd, hw⟩ := tOk_out hc.1
  rw [← hd] at h
  refine wpX_first ho (Region.noSelect_spec h1) (fun _ _ _ h => h) hc.2.1 (by simpa using hc.2.2) n l a w (Region.free_spec ho h2) (by simpa using h3) (Or.inl ⟨hw, fun w' hw' => ?_⟩) hS h
  have := hv w' hw'
  rw [ho, Option.map_some, Option.some.injEq] at this
  exact this
theorem xAll (i : Nat) {o : Oper} (hr : Region.ready md ops l = [i]) (ho : ops[i]? = some o) (hw : Region.wanted o (yielded ops a.tmps) = true) (h : ∀ K : Act → World → Prop, (∀ a' w', (i ∉ E → S w') → wpX P md ops Q E S n (l.setIfInBounds i true) a' w' → K a' w') → Oper.wp P o a w K Q) : wpX P md ops Q E S (n + 1) l a w := by
  refine ⟨fun h0 => absurd (h0 ▸ hr) (by simp), fun j hj => ?_⟩
  rw [hr, List.mem_singleton] at hj
  subst hj
  exact wpOp_step ho (fun K hK => by rw [if_pos hw]; exact h K (fun a' w' h1 h2 => hK a' w' ⟨h1, h2⟩))
theorem xEnter (i d : Nat) (f : FuncId) (args : Array Value) (hr : Region.ready md ops l = [i]) (hc : (ops[i]?.map fun o => (o.dst, Region.wanted o (yielded ops a.tmps))) = some (some d, true)) (hrun : (ops[i]?.map fun o => (execOp a.eval o).run P w) = some (.ok (.enter f args) w)) {R : Ending → World → Prop} (hR : Calls P f args w R)
    (h : ∀ e w'', R e w'' → ∃ v, e = .returned v ∧ S w'' ∧ (S w'' → wpX P md ops Q E S n (l.setIfInBounds i true) (a.put (some d) v) w'')) : wpX P md ops Q E S (n + 1) l a w := by
  cases ho : ops[i]? with
  | none => rw [ho] at hc; cases hc
  | some o =>
    rw [ho, Option.map_some, Option.some.injEq] at hc hrun
    injection hc with hd hw
    refine xAll i hr ho hw (fun K hK => tCall f args hrun hR (fun e w'' hh => ?_))
    obtain ⟨v, he, hS, hW⟩ := h e w'' hh
    exact ⟨v, he, by rw [hd]; exact hK _ _ (fun _ => hS) (hW hS)⟩
theorem xDo (i d : Nat) (v : Value) (w' : World) (hr : Region.ready md ops l = [i]) (hc : (ops[i]?.map fun o => (o.dst, Region.wanted o (yielded ops a.tmps))) = some (some d, true))
    (hrun : (ops[i]?.map fun o => (execOp a.eval o).run P w) = some (.ok (.value v) w')) (hS : i ∉ E → S w') (h : wpX P md ops Q E S n (l.setIfInBounds i true) (a.put (some d) v) w') : wpX P md ops Q E S (n + 1) l a w := by
  cases ho : ops[i]? with
  | none => rw [ho] at hc; cases hc
  | some o =>
    rw [ho, Option.map_some, Option.some.injEq] at hc hrun
    injection hc with hd hw
    refine xAll i hr ho hw (fun K hK => ?_)
    unfold Oper.wp
    rw [hrun, Oper.upon_value, hd]
    exact hK _ _ hS h
theorem xStore (i : Nat) (w' : World) (hr : Region.ready md ops l = [i]) (hc : (ops[i]?.map fun o => (o.dst, Region.wanted o (yielded ops a.tmps))) = some (none, true))
    (hrun : (ops[i]?.map fun o => (execOp a.eval o).run P w) = some (.ok .skip w')) (hS : i ∉ E → S w') (h : wpX P md ops Q E S n (l.setIfInBounds i true) a w') : wpX P md ops Q E S (n + 1) l a w := by
  cases ho : ops[i]? with
  | none => rw [ho] at hc; cases hc
  | some o =>
    rw [ho, Option.map_some, Option.some.injEq] at hc hrun
    injection hc with hd hw
    refine xAll i hr ho hw (fun K hK => ?_)
    unfold Oper.wp
    rw [hrun, Oper.upon_skip, hd]
    exact hK _ _ hS h
theorem xDone (hr : Region.ready md ops l = []) (h : Q .normal a w) : wpX P md ops Q E S n l a w := by
  cases n with
  | zero => exact ⟨hr, h⟩
  | succ n => exact ⟨fun _ => h, fun i hi => absurd (hr ▸ hi) (by simp)⟩
end
end Go.Proofs.YtnablanoaglioaaGreatDoor
namespace Go.Proofs.YtnablanoaglioaaGreatDoor
open Go.RowKit Dg Q Num Str

end Go.Proofs.YtnablanoaglioaaGreatDoor
namespace Go.Proofs.YtnablanoaglioaaGreatDoor
open Go.RowKit Go.Proofs.YtnablanoaglioaaGreatDoor.Q

section
variable {P : Program} {md : Region.Mode} {ops : Array Oper} {Q : Exit → Act → World → Prop} {S : World → Prop} {fuel : Nat} {listed : Array Bool} {a : Act} {w : World}
theorem tStoreRow (i : Nat) (ty : TypeId) (x y : Operand) (g : Nat) (cells : Array Value) (t : TypeId) (old : Array Value) (hr : Region.ready md ops listed = [i]) (hc : (ops[i]?.map fun o => (o.dst, Region.wanted o (yielded ops a.tmps))) = some (none, true))
    (ho : (ops[i]?.map fun o => o.op) = some (.store ty x y)) (hx : a.eval x = .pointer (some ⟨g, 0, none⟩)) (hy : a.eval y = .agg cells) (hg : Bk w g old t) (hi : (P.info? ty).map (·.size) = some cells.size) (hold : old.size = cells.size) (h1 : cells.all (·.oneCell') = true)
    (hS : S (w.setRow g cells)) (h : S (w.setRow g cells) → wpAnyH P md ops Q S fuel (listed.setIfInBounds i true) a (w.setRow g cells)) : wpAnyH P md ops Q S (fuel + 1) listed a w := by
  cases hop : ops[i]? with
  | none => rw [hop] at hc; cases hc
  | some o =>
    rw [hop, Option.map_some, Option.some.injEq] at hc ho
    injection hc with hd hw
    refine wpAnyH_ready hr (by simp) (AllReadyH.cons hop (fun K hK => ?_) AllReadyH.nil)
    rw [if_pos hw]
    refine wp_store_row ty x y ho g cells hx hy t old hg hi hold h1 ?_
    rw [hd]
    exact hK.out _ _ hS h
end
end Go.Proofs.YtnablanoaglioaaGreatDoor
namespace Go.Proofs.YtnablanoaglioaaGreatDoor
open Go.RowKit Go.Proofs.YtnablanoaglioaaGreatDoor.Q

section
variable {P : Program} {md : Region.Mode} {ops : Array Oper} {Q : Exit → Act → World → Prop} {S : World → Prop} {fuel : Nat} {listed : Array Bool} {a : Act} {w : World}
theorem rTwo (i j : Nat) (hr : Region.ready md ops listed = [i, j]) (hi : wpOp P ops Q i (fun a' w' => S w' ∧ wpAnyH P md ops Q S fuel (listed.setIfInBounds i true) a' w') a w) (hj : wpOp P ops Q j (fun a' w' => S w' ∧ wpAnyH P md ops Q S fuel (listed.setIfInBounds j true) a' w') a w) : wpAnyH P md ops Q S (fuel + 1) listed a w := by
  refine wpAnyH_all hr (by simp) (fun k hk => ?_)
  rcases List.mem_cons.1 hk with rfl | hk
  · exact hi
  · rw [List.mem_singleton.1 hk]; exact hj
theorem eEnter {i d : Nat} (f : FuncId) (args : Array Value) (hc : (ops[i]?.map fun o => (o.dst, Region.wanted o (yielded ops a.tmps))) = some (some d, true)) (hrun : (ops[i]?.map fun o => (execOp a.eval o).run P w) = some (.ok (.enter f args) w)) {R : Ending → World → Prop} (hR : Calls P f args w R)
    (h : ∀ e w'', R e w'' → ∃ v, e = .returned v ∧ S w'' ∧ (S w'' → wpAnyH P md ops Q S fuel (listed.setIfInBounds i true) (a.put (some d) v) w'')) : wpOp P ops Q i (fun a' w' => S w' ∧ wpAnyH P md ops Q S fuel (listed.setIfInBounds i true) a' w') a w := by
  cases ho : ops[i]? with
  | none => rw [ho] at hc; cases hc
  | some o =>
    rw [ho, Option.map_some, Option.some.injEq] at hc hrun
    injection hc with hd hw
    refine wpOp_step ho (fun K hK => ?_)
    rw [if_pos hw]
    refine tCall f args hrun hR (fun e w'' hh => ?_)
    obtain ⟨v, he, hS, hW⟩ := h e w'' hh
    exact ⟨v, he, by rw [hd]; exact hK _ _ ⟨hS, hW hS⟩⟩
theorem eDo {i d : Nat} (v : Value) (w' : World) (hc : (ops[i]?.map fun o => (o.dst, Region.wanted o (yielded ops a.tmps))) = some (some d, true))
    (hrun : (ops[i]?.map fun o => (execOp a.eval o).run P w) = some (.ok (.value v) w')) (hS : S w') (h : S w' → wpAnyH P md ops Q S fuel (listed.setIfInBounds i true) (a.put (some d) v) w') : wpOp P ops Q i (fun a' w' => S w' ∧ wpAnyH P md ops Q S fuel (listed.setIfInBounds i true) a' w') a w := by
  cases ho : ops[i]? with
  | none => rw [ho] at hc; cases hc
  | some o =>
    rw [ho, Option.map_some, Option.some.injEq] at hc hrun
    injection hc with hd hw
    refine wpOp_step ho (fun K hK => ?_)
    rw [if_pos hw]
    unfold Oper.wp
    rw [hrun, Oper.upon_value, hd]
    exact hK _ _ ⟨hS, h hS⟩
end
end Go.Proofs.YtnablanoaglioaaGreatDoor
namespace Go.Proofs.YtnablanoaglioaaGreatDoor
open Go.RowKit Go.Proofs.YtnablanoaglioaaGreatDoor.Q

section
variable {P : Program} {md : Region.Mode} {ops : Array Oper} {Q : Exit → Act → World → Prop} {E : List Nat} {S : World → Prop} {n : Nat} {l : Array Bool} {a : Act} {w : World}
theorem xLoad (i d : Nat) (ty : TypeId) (x : Operand) (b o : Nat) (cs : List Value) (hS : S w) (hc : (tOk md ops l i d a true && (waits md ops E i && !E.contains i)) = true)
    (ho : (ops[i]?.map fun o => o.op) = some (.load ty x)) (hx : a.eval x = .pointer (some ⟨b, o, none⟩)) (hr : ∀ w, S w → w.rangeAt b o cs) {ds : TypeDesc} (hu : P.underlying ty = some ds) (hd : ds.isRow = true) (hi : (P.info? ty).map (·.size) = some cs.length)
    (h : wpX P md ops (NoPanic Q) E S n (l.setIfInBounds i true) (a.put (some d) (.agg cs.toArray)) w) : wpX P md ops (NoPanic Q) E S (n + 1) l a w := by
  rw [Bool.and_eq_true, Bool.and_eq_true] at hc
  obtain ⟨h1, h2, h3, op, hop, hdd, hw⟩ := tOk_out hc.1
  rw [← hdd] at h
  rw [hop, Option.map_some, Option.some.injEq] at ho
  exact wpX_first hop (Region.noSelect_spec h1) (fun _ _ _ h => h) hc.2.1 (by simpa using hc.2.2) n l a w (Region.free_spec hop h2) (by simpa using h3) (yieldsIf_load_mid hw ty x ho b o hx cs ds hr hu hd hi) hS h
end
end Go.Proofs.YtnablanoaglioaaGreatDoor
