/- The walk of Groups of the program. -/
import Derived.Test.YtnjjkcnokkhlkaaCalY
import Derived.Test.YtnjjkcnokkhlkaaCalZ
namespace Go.Proofs.Ytnjjkcnokkhlkaa
open Go.RowKit Go.Maps Go.ChangeShapes

def gkey (c f : Int) (cy : Bool) (z : Int) : Int := if cy = true then fv c z f else kv c z f
def gks (c f : Int) (cy : Bool) (zs : List Int) : List Int := zs.map (gkey c f cy)
/-- The first error of Groups. -/
def gE (c f : Int) (zs : List Int) : Int := if fe c 0 f ≠ 0 then fe c 0 f else if zs.all (fun z => Cal.has c z) = true then 0 else 21
def gK (c f : Int) (cy : Bool) (zs : List Int) : List Int := if gE c f zs = 0 then Grp.ukeys (gks c f cy zs) else []
def gG (c f : Int) (cy : Bool) (zs : List Int) : List (List Int) := if gE c f zs = 0 then (Grp.ukeys (gks c f cy zs)).map (Grp.grp (gks c f cy zs)) else []

/-- What Groups returns. -/
def GRP (c f : Int) (cy : Bool) (zs : List Int) (w : World) (e : Ending) (w' : World) : Prop :=
  ∃ A1 c1 A2 c2, e = .returned (.tuple #[.slice A1 (gK c f cy zs).length c1, .slice A2 (gG c f cy zs).length c2, .int .i64 (gE c f zs)]) ∧ Sl w' w'.heap.size A1 (gK c f cy zs).length (gK c f cy zs) ∧ Gl w' w'.heap.size A2 (gG c f cy zs).length (gG c f cy zs) ∧ Below w.heap.size w w'

theorem GRP_err {c f : Int} {cy : Bool} {zs : List Int} {w w' : World} (h : gE c f zs ≠ 0) (hb : Below w.heap.size w w') : GRP c f cy zs w (.returned (.tuple #[.slice none 0 0, .slice none 0 0, .int .i64 (gE c f zs)])) w' := by
  have h1 : gK c f cy zs = [] := by unfold gK; rw [if_neg h]
  have h2 : gG c f cy zs = [] := by unfold gG; rw [if_neg h]
  refine ⟨none, 0, none, 0, ?_, ?_, ?_, hb⟩
  · rw [h1, h2]; rfl
  · rw [h1]; exact Sl.none_ _ _ _
  · rw [h2]; exact Gl.none_ _ _ _

theorem fe_has {c f z : Int} (h0 : fe c 0 f = 0) : fe c z f = if Cal.has c z = true then 0 else 21 := by
  rcases fe_cases c 0 f with ⟨_, e⟩ | ⟨_, _, e⟩ | ⟨_, _, _, _, e⟩ | ⟨h1, h2, h3, _, _⟩
  · omega
  · omega
  · omega
  · have h4 : ¬ (f < 1 ∨ 4 < f) := by omega
    unfold fe
    cases Cal.has c z <;> simp [h1, h4]

theorem gE_has {c f : Int} {zs : List Int} (h0 : fe c 0 f = 0) (k : Nat) (hk : k < zs.length) (h : Cal.has c (zs.getD k 0) = false) : gE c f zs = 21 := by
  have : zs.all (fun z => Cal.has c z) = false := by
    rw [List.all_eq_false]
    exact ⟨zs[k], List.getElem_mem hk, by have e : zs.getD k 0 = zs[k] := by simp [List.getD, hk]
                                          rw [e] at h; simp [h]⟩
  unfold gE; simp [h0, this]
theorem gE_all {c f : Int} {zs : List Int} (h0 : fe c 0 f = 0) (h : ∀ k, k < zs.length → Cal.has c (zs.getD k 0) = true) : gE c f zs = 0 := by
  have : zs.all (fun z => Cal.has c z) = true := by
    rw [List.all_eq_true]
    intro z hz
    obtain ⟨k, hk, rfl⟩ := List.getElem_of_mem hz
    have := h k hk
    simpa [List.getD, hk] using this
  unfold gE; simp [h0, this]

theorem gkey_bd {c f z : Int} {cy : Bool} (h : Cal.has c z = true) : -9000000 ≤ gkey c f cy z ∧ gkey c f cy z ≤ 9000000 := by
  obtain ⟨y1, y2, m1, m2, d1, d2⟩ := date_bd h
  have hc := Cal.cum_bd c (Cal.dY c z) (Cal.dM c z) m1 (by omega)
  obtain ⟨_, _, n1, n2⟩ := (Cal.has_iff c z).1 h
  have b1 := Cal.first_bd c (-9999) (by omega) (by omega)
  have b2 := Cal.first_bd c 10000 (by omega) (by omega)
  unfold gkey
  split
  · unfold fv seas; (repeat' split) <;> omega
  · unfold kv seas; (repeat' split) <;> omega

theorem gks_snoc (c f : Int) (cy : Bool) (zs : List Int) (k : Nat) (hk : k < zs.length) : gks c f cy (zs.take k) ++ [gkey c f cy (zs.getD k 0)] = gks c f cy (zs.take (k + 1)) := by
  have e : zs.getD k 0 = zs[k] := by simp [List.getD, hk]
  unfold gks
  rw [List.take_succ_eq_append_getElem hk, e]
  simp only [List.map_append, List.map_cons, List.map_nil]
theorem gks_len (c f : Int) (cy : Bool) (zs : List Int) (k : Nat) (hk : k ≤ zs.length) : (gks c f cy (zs.take k)).length = k := by unfold gks; simp; omega

theorem zeroInts (w : World) : (zeroValue 31).run Try.prog w = .ok (.slice none 0 0) w := by kernel_rfl
theorem lawInt : Keyed Try.prog 3 := int_keyed Try.underlying3
theorem key_int {y : Int} (h : (Lit.int .i64 y).wf = true) : keyOf Try.prog 3 (.int .i64 y) = some (.int .i64 y) := by
  simp [keyOf, Try.underlying3, mapKey, h]
theorem wf_bd {y : Int} (h1 : -9000000 ≤ y) (h2 : y ≤ 9000000) : (Lit.int .i64 y).wf = true := WalkArith.wf_i64 (by omega)
theorem groups_own {H : Type} {P : Program} {w : World} {k : TypeId} {base : Nat} {e : TypeId} {q : IntKind} {b n : Nat} {D : DataW H} (h : w.ownsGroups P k base e q b n D) : w.ownsMap P k (rowElem (H := H) w base e q) b n D := by
  obtain ⟨es, clock, hb, F, hs, hD, _⟩ := h
  exact ⟨es, clock, hb, F, hs, hD⟩
theorem groups_below {H : Type} {P : Program} {w w' : World} {k : TypeId} {base : Nat} {e : TypeId} {q : IntKind} {b n : Nat} {D : DataW H} (h : w.ownsGroups P k base e q b n D) (hb : Below w.heap.size w w') : w'.ownsGroups P k base e q b n D :=
  h.kept (grown_of_below hb none) (by simp) (fun _ _ _ x _ => by cases x.val.ownBlock <;> simp)

theorem Try.infoInts : (Try.prog.info? 31).map (fun i => (i.zero, i.size, i.bytes)) = some (some (.slice none 0 0), 1, 24) := by kernel_rfl

end Go.Proofs.Ytnjjkcnokkhlkaa
