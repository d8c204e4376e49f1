/- Groups of the program: the parts of its walk's rounds. -/
import Derived.Test.YtnjjkcnokkhlkaaCalGr
import Derived.Maps.OwnRows
namespace Go.Proofs.Ytnjjkcnokkhlkaa
open Go.RowKit Go.Maps Go.ChangeShapes

theorem gs_round {H : Type} {c f : Int} {cy : Bool} {zs : List Int} {k : Nat} {y : Int} {D : DataW H} {w w3 : World} {base : Nat} {e : TypeId} {v v' : Value} {zs' : List Int}
    (hG : GM D (gks c f cy (zs.take k))) (HS : gks c f cy (zs.take k) ++ [y] = gks c f cy (zs.take (k + 1))) (HL : (gks c f cy (zs.take k)).length = k)
    (hat : D.atKey (.int .i64 y) .nil = rowDatum .i64 v zs') (hoi : w.ownsInts base e .i64 v zs') (hoi' : w3.ownsInts base e .i64 v' (zs' ++ [(k : Int)])) :
    GM (D.put (.int .i64 y) (rowDatum .i64 v' (zs' ++ [(k : Int)]))) (gks c f cy (zs.take (k + 1))) := by
  have := GM.step hG hat hoi (v' := v') (by rw [HL]; exact hoi')
  rw [HL, HS] at this
  exact this

theorem Sl.back {w w' : World} {B n : Nat} {A : Option Addr} {zs : List Int} (h : Sl w' B A n zs) (hb : Below B w w') : Sl w B A n zs :=
  ⟨h.1, fun hn => by
    obtain ⟨b, off, e, hlt, hc⟩ := h.2 hn
    exact ⟨b, off, e, hlt, fun j hj => (hb.cell (p := ⟨b, off + j, none⟩) hlt).symm.trans (hc j hj)⟩⟩

/-- An owned row of whatever one-cell values reads as their list. -/
theorem own_reads_any {w : World} {base n : Nat} {e : TypeId} {v : Value} {xs : List Value} (h : w.ownsRow base e 1 v n xs) :
    xs.length = n ∧ ∃ A c, v = .slice A n c ∧ (0 < n → ∃ g, A = some ⟨g, 0, none⟩ ∧ base ≤ g ∧ g < w.heap.size ∧ v.ownBlock = some g ∧ ∀ j u, xs[j]? = some u → w.cell? ⟨g, 0 + j, none⟩ = some u) := by
  have hl : xs.length = n := by have := h.1; simpa using this
  have hcells := fun g => h.cells (g := g)
  rcases h.2 with ⟨hv, hn⟩ | ⟨g, cap, cur, hv, hb, hg, _⟩
  · subst hn
    exact ⟨hl, none, 0, hv, fun h => absurd h (by omega)⟩
  · refine ⟨hl, some ⟨g, 0, none⟩, cap, hv, fun _ => ⟨g, rfl, hb, (Array.getElem?_eq_some_iff.1 hg).1, by rw [hv]; rfl, fun j u hu => ?_⟩⟩
    have := hcells g (by rw [hv]; rfl) j _ hu
    have ha : (⟨g, 0, none⟩ : Addr).add j = ⟨g, 0 + j, none⟩ := by unfold Addr.add; split <;> simp_all
    rw [ha] at this
    exact this

/-- An owned row of integers whose block lies below B reads there. -/
theorem own_reads_lt {w : World} {base n B : Nat} {e : TypeId} {v : Value} {zs : List Int} (h : w.ownsRow base e 1 v n (zs.map (Value.int .i64))) (hB : ∀ g, v.ownBlock = some g → g < B) :
    ∃ A c, v = .slice A n c ∧ Sl w B A n zs := by
  have hl : zs.length = n := by have := h.1; simpa using this
  obtain ⟨_, A, c, hv, hc⟩ := own_reads_any h
  refine ⟨A, c, hv, hl, fun hn => ?_⟩
  obtain ⟨g, hA, _, _, ho, hcell⟩ := hc hn
  refine ⟨g, 0, hA, hB g ho, fun j hj => hcell j _ ?_⟩
  rw [List.getElem?_map, List.getElem?_eq_getElem (by omega)]
  simp [List.getD, List.getElem?_eq_getElem (show j < zs.length by omega)]

/-- What the second loop has gathered: j slices, each one a group. -/
def OUT (w2 wl : World) (vo : Value) (j : Nat) (zss : List (List Int)) : Prop :=
  ∃ vs : List Value, wl.ownsRow w2.heap.size 31 1 vo j vs ∧ (∀ t, t < j → ∃ A' c', vs[t]? = some (.slice A' (zss.getD t []).length c') ∧ Sl w2 w2.heap.size A' (zss.getD t []).length (zss.getD t [])) ∧ Below w2.heap.size w2 wl

theorem OUT.start (w2 : World) (zss : List (List Int)) : OUT w2 w2 (.slice none 0 0) 0 zss :=
  ⟨[], World.ownsRow_nil _ _ _ _, fun t ht => absurd ht (by omega), Below.refl _ _⟩

theorem OUT.gl {w2 wl : World} {vo : Value} {j : Nat} {zss : List (List Int)} (h : OUT w2 wl vo j zss) (hj : zss.length = j) : ∃ A c, vo = .slice A j c ∧ Gl wl wl.heap.size A j zss := by
  obtain ⟨vs, ho, hv, hb⟩ := h
  obtain ⟨_, A, c, e, hc⟩ := own_reads_any ho
  refine ⟨A, c, e, hj, fun hn => ?_⟩
  obtain ⟨g, hA, _, hlt, _, hcell⟩ := hc hn
  refine ⟨g, 0, hA, hlt, fun t ht => ?_⟩
  obtain ⟨A', c', h1, h2⟩ := hv t ht
  exact ⟨A', c', hcell t _ h1, (h2.keep hb).more hb.size⟩

theorem below_of_grown {w0 w w' : World} {n e : Nat} {v : Value} {xs : List Value} (h : w.ownsRow w0.heap.size e 1 v n xs) (hb : Below w0.heap.size w0 w) (hg : w.grownBy w' v.ownBlock) : Below w0.heap.size w0 w' := grown_below h hb hg

theorem OUT.step {w2 w' : World} {vo' v : Value} {j : Nat} {zss : List (List Int)} {vs : List Value} {A' : Option Addr} {c' : Nat}
    (hv : ∀ t, t < j → ∃ A' c', vs[t]? = some (.slice A' (zss.getD t []).length c') ∧ Sl w2 w2.heap.size A' (zss.getD t []).length (zss.getD t [])) (hl : vs.length = j)
    (hnew : v = .slice A' (zss.getD j []).length c') (hs : Sl w2 w2.heap.size A' (zss.getD j []).length (zss.getD j []))
    (ho : w'.ownsRow w2.heap.size 31 1 vo' (j + 1) (vs ++ [v])) (hb : Below w2.heap.size w2 w') : OUT w2 w' vo' (j + 1) zss := by
  refine ⟨_, ho, fun t ht => ?_, hb⟩
  by_cases e : t = j
  · subst e
    exact ⟨A', c', by rw [List.getElem?_append_right (by omega)]; simp [hl, hnew], hs⟩
  · obtain ⟨A1, c1, h1, h2⟩ := hv t (by omega)
    exact ⟨A1, c1, by rw [List.getElem?_append_left (by omega)]; exact h1, h2⟩

theorem GRP_ok {c f : Int} {cy : Bool} {zs : List Int} {w w2 wl : World} {A1 : Option Addr} {c1 m : Nat} {vo : Value} (he : gE c f zs = 0) (hm : (Grp.ukeys (gks c f cy zs)).length = m)
    (hk : Sl w2 w2.heap.size A1 m (Grp.ukeys (gks c f cy zs))) (ho : OUT w2 wl vo m ((Grp.ukeys (gks c f cy zs)).map (Grp.grp (gks c f cy zs)))) (hb : Below w.heap.size w w2) :
    GRP c f cy zs w (.returned (.tuple #[.slice A1 m c1, vo, .int .i64 0])) wl := by
  have h1 : gK c f cy zs = Grp.ukeys (gks c f cy zs) := by unfold gK; rw [if_pos he]
  have h2 : gG c f cy zs = (Grp.ukeys (gks c f cy zs)).map (Grp.grp (gks c f cy zs)) := by unfold gG; rw [if_pos he]
  obtain ⟨A, c2, rfl, hgl⟩ := ho.gl (by simpa using hm)
  obtain ⟨_, _, _, hbl⟩ := ho
  refine ⟨A1, c1, A, c2, ?_, ?_, ?_, btrans hb hbl⟩
  · rw [h1, h2, he, List.length_map, hm]
  · rw [h1, hm]; exact (hk.keep hbl).more hbl.size
  · rw [h2, List.length_map, hm]; exact hgl

theorem ukeys_wf {c f : Int} {cy : Bool} {zs : List Int} (h : ∀ j, j < zs.length → Cal.has c (zs.getD j 0) = true) {j : Nat} (hj : j < (Grp.ukeys (gks c f cy zs)).length) :
    (Lit.int .i64 ((Grp.ukeys (gks c f cy zs)).getD j 0)).wf = true := by
  have e : (Grp.ukeys (gks c f cy zs)).getD j 0 = (Grp.ukeys (gks c f cy zs))[j] := by simp [List.getD, hj]
  rw [e]
  have hm := (Grp.mem_ukeys _ _).1 (List.getElem_mem hj)
  unfold gks at hm
  obtain ⟨z, hz, he⟩ := List.mem_map.1 hm
  obtain ⟨i, hi, rfl⟩ := List.getElem_of_mem hz
  have hh := h i hi
  have e2 : zs.getD i 0 = zs[i] := by simp [List.getD, hi]
  rw [e2] at hh
  obtain ⟨g1, g2⟩ := gkey_bd (f := f) (cy := cy) hh
  have e3 : ((List.map (gkey c f cy) zs) : List Int) = gks c f cy zs := rfl
  simp only [e3] at he
  rw [← he]
  exact wf_bd g1 g2

/-- No group's row lies above the world. -/
theorem groups_shun {H : Type} {P : Program} {w w' : World} {k : TypeId} {base : Nat} {e : TypeId} {q : IntKind} {b n : Nat} {D : DataW H} (h : w.ownsGroups P k base e q b n D) (hb : Below w.heap.size w w') : w'.Shuns b (fun g => w.heap.size ≤ g) := by
  have h0 : w.Shuns b (fun _ => False) := fun _ _ _ _ _ _ _ h => h
  have h1 : w.Shuns b (fun g => w.heap.size ≤ g) := h0.reno h (fun g hg => .inr hg)
  have hlt : b < w.heap.size := (groups_own h).lt
  exact h1.kept (grown_of_below hb none) hlt (by simp)

theorem keys_row {H : Type} {c f : Int} {cy : Bool} {zs : List Int} {D : DataW H} {R : Value → Option (DataW H × List MemPlace)} {w w2 : World} {base b n : Nat} {vk : Value} {ss : List Int} (hG : GM D (gks c f cy zs)) (hown : w.ownsMap Try.prog 3 R b n D)
    (hp : ss.Perm (intKeys D)) (hrow : w2.ownsRow base 3 1 vk ss.length ((ss.mergeSort (fun x y => decide (x ≤ y))).map encZ)) :
    ∃ A1 c1, vk = .slice A1 (Grp.ukeys (gks c f cy zs)).length c1 ∧ Sl w2 w2.heap.size A1 (Grp.ukeys (gks c f cy zs)).length (Grp.ukeys (gks c f cy zs)) := by
  have hk := hG.keys hown lawInt Try.underlying3 hp
  have hl : ss.length = (Grp.ukeys (gks c f cy zs)).length := by rw [← hk, List.length_mergeSort]
  rw [hk, hl] at hrow
  exact own_reads hrow

end Go.Proofs.Ytnjjkcnokkhlkaa
