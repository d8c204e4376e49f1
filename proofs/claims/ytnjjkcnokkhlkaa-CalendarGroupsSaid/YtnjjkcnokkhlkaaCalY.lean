/- The walk of Groups of the program: a map of slices; its keys sorted. -/
import Derived.Test.YtnjjkcnokkhlkaaCalX
import Derived.Test.YtnjjkcnokkhlkaaCalT
import Derived.Test.YtnjjkcnokkhlkaaCalN
import Derived.Maps.OwnRows
import Derived.Maps.GroupsBeside
import Derived.Lib.SlKeysI
namespace Go.Proofs.Ytnjjkcnokkhlkaa
open Go.RowKit Go.Maps Go.ChangeShapes

def rowd {H : Type} (l : List Int) : DataW H := if l = [] then .nil else .slice (lits .i64 l) []

/-- The map's datum D groups the list ks. -/
def GM {H : Type} (D : DataW H) (ks : List Int) : Prop :=
  IsMap D ∧ (∀ x, D.atKey (.int .i64 x) .nil = rowd (Grp.grp ks x)) ∧ ∀ x, has D (.int .i64 x) = decide (x ∈ ks)

theorem GM.start {H : Type} : GM (.map [] : DataW H) [] := ⟨isMap_empty, fun _ => rfl, fun _ => rfl⟩

theorem lits_inj {H : Type} {a b : List Int} (h : lits (H := H) .i64 a = lits .i64 b) : a = b :=
  (List.map_inj_right (fun x y hxy => by cases hxy; rfl)).1 h

theorem GM.group {H : Type} {D : DataW H} {ks : List Int} {y : Int} {w : World} {base : Nat} {e : TypeId} {v : Value} {zs : List Int} (h : GM D ks) (hat : D.atKey (.int .i64 y) .nil = rowDatum .i64 v zs)
    (hoi : w.ownsInts base e .i64 v zs) : zs = Grp.grp ks y := by
  have h1 := h.2.1 y
  rw [hat] at h1
  unfold rowd at h1
  rcases hoi.datum (H := H) with ⟨e1, e2⟩ | e1
  · rw [e1] at h1
    split at h1
    · rename_i h2; rw [e2, h2]
    · cases h1
  · rw [e1] at h1
    split at h1
    · cases h1
    · injection h1 with h2
      exact lits_inj h2

theorem GM.step {H : Type} {D : DataW H} {ks : List Int} {y : Int} {w w1 : World} {base : Nat} {e : TypeId} {v v' : Value} {zs : List Int} (h : GM D ks) (hat : D.atKey (.int .i64 y) .nil = rowDatum .i64 v zs)
    (hoi : w.ownsInts base e .i64 v zs) (hoi' : w1.ownsInts base e .i64 v' (zs ++ [(ks.length : Int)])) : GM (D.put (.int .i64 y) (rowDatum .i64 v' (zs ++ [(ks.length : Int)]))) (ks ++ [y]) := by
  have hz := h.group hat hoi
  subst hz
  refine ⟨h.1.put _ _, fun x => ?_, fun x => ?_⟩
  · by_cases hx : x = y
    · subst hx
      rw [atKey_put_same h.1 (show WideAt.IsKeyLit (.int .i64 x) from trivial), hoi'.datum_pos (by simp), Grp.grp_snoc]
      simp [rowd]
    · have hne : (Lit.int .i64 x) ≠ .int .i64 y := fun e => hx (by injection e)
      rw [atKey_put_other hne, h.2.1 x, Grp.grp_snoc]
      simp [Ne.symm hx]
  · by_cases hx : x = y
    · subst hx
      rw [has_put_same h.1 (show WideAt.IsKeyLit (.int .i64 x) from trivial)]; simp
    · have hne : (Lit.int .i64 x) ≠ .int .i64 y := fun e => hx (by injection e)
      rw [has_put_other hne, h.2.2 x]; simp [hx]

/-- The keys of the map, sorted. -/
theorem GM.keys {H : Type} {D : DataW H} {ks ss : List Int} {P : Program} {k : TypeId} {R : Value → Option (DataW H × List MemPlace)} {w : World} {b n : Nat} (h : GM D ks) (hown : w.ownsMap P k R b n D) (K : Keyed P k) (hk : P.underlying k = some (.int .i64))
    (hp : ss.Perm (intKeys D)) : ss.mergeSort (fun x y => decide (x ≤ y)) = Grp.ukeys ks := by
  have hnd : (Grp.ukeys ks).Nodup := (Grp.ukeys_sorted ks).imp fun {a b} h => by omega
  have hc : CollectedI D (fun _ => false) (Grp.ukeys ks) := ⟨hnd, fun x => by rw [h.2.2 x, Grp.mem_ukeys]; simp⟩
  have hq := hc.perm hown K hk (fun _ => rfl)
  have hss : ss.Perm (Grp.ukeys ks) := hp.trans hq.symm
  exact Grp.ukeys_of (hss.nodup_iff.2 hnd) fun x => by rw [hss.mem_iff, Grp.mem_ukeys]

theorem has0 {c : Int} (h : kn c = true) : Cal.has c 0 = true := by
  rcases kn_cases h with rfl | rfl | rfl | rfl | rfl <;> decide

end Go.Proofs.Ytnjjkcnokkhlkaa
