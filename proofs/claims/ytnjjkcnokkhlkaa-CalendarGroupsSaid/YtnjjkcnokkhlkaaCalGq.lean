/- The reference's Groups: plain laws of a place in a sorted list; two owned rows, one of slices that each own a row. -/
import Derived.Test.YtnjjkcnokkhlkaaCalGo
import Derived.Deep.Onto
namespace Go.Proofs.Ytnjjkcnokkhlkaa
open Go.RowKit Go.Maps

namespace Grp
/-- p is a place of y in l: all before are less, and the one there is not. -/
def At (y : Int) (l : List Int) (p : Nat) : Prop := p ≤ l.length ∧ (∀ j, j < p → l.getD j 0 < y) ∧ (p < l.length → y ≤ l.getD p 0)

theorem ins_open (y : Int) : ∀ (l : List Int) (p : Nat), At y l p → (p < l.length → l.getD p 0 ≠ y) → ins y l = l.take p ++ [y] ++ l.drop p
  | [], p, h, _ => by
    have : p = 0 := by have := h.1; simpa using this
    subst this
    simp [ins]
  | z :: l, 0, h, hn => by
    have h1 : y ≤ z := h.2.2 (by simp)
    have h2 : z ≠ y := hn (by simp)
    have h3 : y < z := by omega
    simp [ins, h3]
  | z :: l, p + 1, h, hn => by
    have h1 : z < y := h.2.1 0 (by omega)
    have h2 : ¬ y < z := by omega
    have h3 : ¬ y = z := by omega
    have ih := ins_open y l p ⟨by have := h.1; simpa using this, fun j hj => by have := h.2.1 (j + 1) (by omega); simpa using this, fun hp => by have := h.2.2 (by simpa using hp); simpa using this⟩
      (fun hp => by have := hn (by simpa using hp); simpa using this)
    simp [ins, h2, h3, ih]

theorem ins_found (y : Int) : ∀ (l : List Int) (p : Nat), At y l p → p < l.length → l.getD p 0 = y → ins y l = l
  | [], p, _, hp, _ => by simp at hp
  | z :: l, 0, _, _, he => by
    have h1 : z = y := by simpa using he
    simp [ins, h1]
  | z :: l, p + 1, h, hp, he => by
    have h1 : z < y := h.2.1 0 (by omega)
    have h2 : ¬ y < z := by omega
    have h3 : ¬ y = z := by omega
    have ih := ins_found y l p ⟨by have := h.1; simpa using this, fun j hj => by have := h.2.1 (j + 1) (by omega); simpa using this, fun hp => by have := h.2.2 (by simpa using hp); simpa using this⟩
      (by simpa using hp) (by simpa using he)
    simp [ins, h2, h3, ih]

/-- Behind ins, y lies at its place. -/
theorem ins_at (y : Int) (l : List Int) (p : Nat) (h : At y l p) : p < (ins y l).length ∧ (ins y l).getD p 0 = y := by
  by_cases hf : p < l.length ∧ l.getD p 0 = y
  · rw [ins_found y l p h hf.1 hf.2]; exact hf
  · rw [ins_open y l p h (fun hp he => hf ⟨hp, he⟩)]
    have := h.1
    have hl : (l.take p).length = p := by rw [List.length_take]; omega
    refine ⟨by simp; omega, ?_⟩
    rw [List.append_assoc]
    simp [List.getD, hl]

theorem grp_absent {ks : List Int} {y : Int} (h : y ∉ ks) : grp ks y = [] := (grp_nil_iff ks y).2 h

theorem open_groups {ks : List Int} {y : Int} {p : Nat} (h : At y (ukeys ks) p) (hn : p < (ukeys ks).length → (ukeys ks).getD p 0 ≠ y) :
    ((ukeys ks).map (grp ks)).take p ++ [[]] ++ ((ukeys ks).map (grp ks)).drop p = (ins y (ukeys ks)).map (grp ks) := by
  have habs : y ∉ ks := by
    intro hy
    have hm := (mem_ukeys ks y).2 hy
    obtain ⟨i, hi, he⟩ := List.getElem_of_mem hm
    have hs := ukeys_sorted ks
    rcases Nat.lt_trichotomy i p with hlt | heq | hgt
    · have := h.2.1 i hlt
      simp [List.getD, hi, he] at this
    · subst heq
      have := hn hi
      simp [List.getD, hi, he] at this
    · have hp : p < (ukeys ks).length := by omega
      have h1 := h.2.2 hp
      have h2 := (List.pairwise_iff_getElem.1 hs) p i hp hi hgt
      simp [List.getD, hp] at h1
      omega
  rw [ins_open y _ p h hn]
  simp [List.map_take, List.map_drop, grp_absent habs]

theorem step_groups {ks : List Int} {y : Int} {p : Nat} (h : At y (ukeys ks) p) :
    ((ins y (ukeys ks)).map (grp ks)).set p (((ins y (ukeys ks)).map (grp ks)).getD p [] ++ [(ks.length : Int)]) = (ukeys (ks ++ [y])).map (grp (ks ++ [y])) := by
  obtain ⟨h1, h2⟩ := ins_at y _ p h
  rw [ukeys_snoc]
  have hs := ins_sorted y _ (ukeys_sorted ks)
  generalize ins y (ukeys ks) = l at *
  apply List.ext_getElem
  · simp
  · intro i hi1 hi2
    have hi : i < l.length := by simpa using hi1
    rw [List.getElem_set]
    by_cases e : p = i
    · subst e
      have h2' : l[p] = y := by simpa [List.getD, h1] using h2
      simp [List.getD, h1, h2', grp_snoc]
    · rw [if_neg e]
      have hne : y ≠ l[i] := by
        intro he
        have h2' : l[p] = y := by simpa [List.getD, h1] using h2
        rcases Nat.lt_or_gt_of_ne e with hlt | hgt
        · have := (List.pairwise_iff_getElem.1 hs) p i h1 hi hlt; omega
        · have := (List.pairwise_iff_getElem.1 hs) i p hi h1 hgt; omega
      simp [grp_snoc, hne]
end Grp

/-- Two rows of the call's own: the keys, and the groups, each of which owns a row; no two rows share a block. -/
def GS (w0 w : World) (vk vg : Value) (l : List Int) (zss : List (List Int)) : Prop :=
  ∃ ps : List (Value × List Int), ps.map (·.2) = zss ∧ ps.length = l.length ∧ w.ownsRow w0.heap.size 3 1 vk l.length (l.map (Value.int .i64)) ∧ w.ownsRow w0.heap.size 31 1 vg l.length (ps.map (·.1)) ∧
    (∀ x ∈ ps, w.ownsInts w0.heap.size 3 .i64 x.1 x.2) ∧ ps.Pairwise (fun a b => Apart a.1 b.1) ∧ (∀ x ∈ ps, Apart vk x.1) ∧ Below w0.heap.size w0 w

theorem GS.start (w0 : World) : GS w0 w0 (.slice none 0 0) (.slice none 0 0) [] [] :=
  ⟨[], rfl, rfl, World.ownsRow_nil _ _ _ _, World.ownsRow_nil _ _ _ _, by simp, List.Pairwise.nil, by simp, Below.refl _ _⟩

theorem off_none (v : Value) : v.ownBlock = none ∨ v.ownBlock ≠ none := by cases v.ownBlock <;> simp

theorem GS.below {w0 w w' : World} {vk vg : Value} {l : List Int} {zss : List (List Int)} (h : GS w0 w vk vg l zss) (hb : Below w.heap.size w w') : GS w0 w' vk vg l zss := by
  obtain ⟨ps, e1, e2, ok, og, oi, ap, ak, b⟩ := h
  exact ⟨ps, e1, e2, own_below ok hb, own_below og hb, fun x hx => ⟨own_below (oi x hx).1 hb, (oi x hx).2⟩, ap, ak, btrans b hb⟩

theorem GS.len {w0 w : World} {vk vg : Value} {l : List Int} {zss : List (List Int)} (h : GS w0 w vk vg l zss) : zss.length = l.length := by
  obtain ⟨ps, e1, e2, _⟩ := h
  rw [← e1, List.length_map, e2]

theorem nil_apart (v : Value) : Apart (.slice none 0 0) v := ⟨.inl rfl, by cases v.ownBlock <;> simp [Value.ownBlock]⟩

theorem new_apart {w : World} {base base' e e' n n' : Nat} {v v' : Value} {xs xs' : List Value} (h : w.ownsRow base e 1 v n xs) {w' : World} (h' : w'.ownsRow base' e' 1 v' n' xs') (hb : w.heap.size ≤ base') : Apart v' v := by
  unfold Apart
  cases h1 : v.ownBlock with
  | none => cases v'.ownBlock <;> simp
  | some g =>
    cases h2 : v'.ownBlock with
    | none => simp
    | some g' =>
      have a := (own_ge h h1).2
      have b := (own_ge h' h2).1
      have hne : g ≠ g' := by omega
      simp [hne, hne.symm]

/-- Behind opened. -/
theorem GS.opened {w0 w w' : World} {vk vg v1 v2 : Value} {l : List Int} {zss : List (List Int)} {p : Nat} {y : Int} (h : GS w0 w vk vg l zss) (hp : p ≤ l.length)
    (hvs : List Value) (hvs' : ∃ ps : List (Value × List Int), True ∧ hvs = ps.map (·.1) ∧ ps.map (·.2) = zss ∧ ps.length = l.length ∧ (∀ x ∈ ps, w.ownsInts w0.heap.size 3 .i64 x.1 x.2) ∧ ps.Pairwise (fun a b => Apart a.1 b.1))
    (h1 : w'.ownsRow w.heap.size 3 1 v1 (l.length + 1) ((l.map (Value.int .i64)).take p ++ [.int .i64 y] ++ (l.map (Value.int .i64)).drop p))
    (h2 : w'.ownsRow w.heap.size 31 1 v2 (l.length + 1) (hvs.take p ++ [.slice none 0 0] ++ hvs.drop p)) (hb : Below w.heap.size w w') :
    GS w0 w' v1 v2 (l.take p ++ [y] ++ l.drop p) (zss.take p ++ [[]] ++ zss.drop p) := by
  have hbase := h
  obtain ⟨_, _, _, _, _, _, _, _, b⟩ := hbase
  obtain ⟨ps, _, rfl, e1, e2, oi, ap⟩ := hvs'
  have hl : (l.take p ++ [y] ++ l.drop p).length = l.length + 1 := by simp; omega
  have hold : ∀ x ∈ ps, w'.ownsInts w0.heap.size 3 .i64 x.1 x.2 := fun x hx => ⟨own_below (oi x hx).1 hb, (oi x hx).2⟩
  have hmem : ∀ x ∈ ps.take p ++ [((.slice none 0 0 : Value), ([] : List Int))] ++ ps.drop p, x ∈ ps ∨ x = (.slice none 0 0, []) := by
    intro x hx
    simp only [List.append_assoc, List.mem_append, List.mem_singleton] at hx
    rcases hx with hx | hx | hx
    · exact .inl (List.mem_of_mem_take hx)
    · exact .inr hx
    · exact .inl (List.mem_of_mem_drop hx)
  refine ⟨ps.take p ++ [(.slice none 0 0, [])] ++ ps.drop p, ?_, ?_, ?_, ?_, ?_, ?_, ?_, btrans b hb⟩
  · rw [← e1]; simp [List.map_take, List.map_drop]
  · rw [hl, ← e2]; simp; omega
  · rw [hl]; exact (by simpa [List.map_take, List.map_drop] using h1.mono b.size)
  · rw [hl]; exact (by simpa [List.map_take, List.map_drop] using h2.mono b.size)
  · intro x hx
    rcases hmem x hx with hx | rfl
    · exact hold x hx
    · exact World.ownsInts_nil _ _ _ _
  · have hsplit : (ps.take p ++ ps.drop p).Pairwise (fun a b => Apart a.1 b.1) := by rw [List.take_append_drop]; exact ap
    obtain ⟨q1, q2, q3⟩ := List.pairwise_append.1 hsplit
    rw [List.append_assoc]
    refine List.pairwise_append.2 ⟨q1, List.pairwise_cons.2 ⟨fun x _ => nil_apart _, q2⟩, fun a ha b hb' => ?_⟩
    rcases List.mem_cons.1 hb' with rfl | hb'
    · exact (nil_apart _).symm
    · exact q3 a ha b hb'
  · intro x hx
    rcases hmem x hx with hx | rfl
    · exact new_apart (oi x hx).1 h1 (Nat.le_refl _)
    · exact (nil_apart _).symm

theorem getD_pair {ps : List (Value × List Int)} {p : Nat} (h : p < ps.length) : (ps.map (·.1))[p]? = some (ps[p].1) ∧ (ps.map (·.2)).getD p [] = ps[p].2 := by
  simp [List.getD, h]

/-- The parts of a group's place. -/
theorem GS.parts {w0 w : World} {vk vg : Value} {l : List Int} {zss : List (List Int)} (h : GS w0 w vk vg l zss) :
    ∃ ps : List (Value × List Int), ps.map (·.2) = zss ∧ ps.length = l.length ∧ w.ownsRow w0.heap.size 3 1 vk l.length (l.map (Value.int .i64)) ∧ w.ownsRow w0.heap.size 31 1 vg l.length (ps.map (·.1)) ∧
    (∀ x ∈ ps, w.ownsInts w0.heap.size 3 .i64 x.1 x.2) ∧ ps.Pairwise (fun a b => Apart a.1 b.1) ∧ (∀ x ∈ ps, Apart vk x.1) ∧ Below w0.heap.size w0 w := h

/-- Behind 'groups[p] = append(groups[p], x)': w1 the world behind the append, the store at block g, cell p. -/
theorem GS.step {w0 w w1 : World} {vk : Value} {g cap : Nat} {l : List Int} {ps : List (Value × List Int)} {p : Nat} {x : Int} {v' : Value} (hp : p < ps.length)
    (e2 : ps.length = l.length) (ok : w.ownsRow w0.heap.size 3 1 vk l.length (l.map (Value.int .i64))) (og : w.ownsRow w0.heap.size 31 1 (.slice (some ⟨g, 0, none⟩) l.length cap) l.length (ps.map (·.1)))
    (oi : ∀ x ∈ ps, w.ownsInts w0.heap.size 3 .i64 x.1 x.2) (ap : ps.Pairwise (fun a b => Apart a.1 b.1)) (ak : ∀ x ∈ ps, Apart vk x.1) (b : Below w0.heap.size w0 w)
    (hg : w.grownBy w1 ps[p].1.ownBlock) (ho : w1.ownsInts w0.heap.size 3 .i64 v' (ps[p].2 ++ [x])) (hl : v'.ownBlock = ps[p].1.ownBlock ∨ ∃ g, v'.ownBlock = some g ∧ w.heap.size ≤ g) :
    GS w0 (w1.setCell ⟨g, p, none⟩ v') vk (.slice (some ⟨g, 0, none⟩) l.length cap) l ((ps.map (·.2)).set p (ps[p].2 ++ [x])) := by
  have hne : (3 : TypeId) ≠ 31 := by decide
  have hu := oi _ (List.getElem_mem hp)
  have og1 : w1.ownsRow w0.heap.size 31 1 (.slice (some ⟨g, 0, none⟩) l.length cap) l.length (ps.map (·.1)) := og.kept hg (own_apart og hu.1 hne.symm)
  have ok1 : w1.ownsRow w0.heap.size 3 1 vk l.length (l.map (Value.int .i64)) := ok.kept hg (ak _ (List.getElem_mem hp)).1
  obtain ⟨og2, hg2⟩ := og1.stored p v'
  have far : ∀ {v : Value} {n : Nat} {xs : List Value}, w1.ownsRow w0.heap.size 3 1 v n xs → (w1.setCell ⟨g, p, none⟩ v').ownsRow w0.heap.size 3 1 v n xs := fun {v n xs} h => h.kept hg2 (own_apart h og1 hne)
  have fresh : ∀ {v : Value} {n : Nat} {xs : List Value}, w.ownsRow w0.heap.size 3 1 v n xs → Apart v ps[p].1 → Apart v v' := fun {v n xs} h ha => by
    rcases hl with e | ⟨g', e, hge⟩
    · unfold Apart at *; rw [e]; exact ha
    · unfold Apart
      rw [e]
      cases h1 : v.ownBlock with
      | none => simp
      | some g0 =>
        have := (own_ge h h1).2
        have hn : g0 ≠ g' := by omega
        simp [hn, hn.symm]
  have b1 : Below w0.heap.size w0 w1 := grown_below hu.1 b hg
  have b2 : Below w0.heap.size w0 (w1.setCell ⟨g, p, none⟩ v') := by
    refine grown_below og1 b1 ?_
    exact hg2
  refine ⟨ps.set p (v', ps[p].2 ++ [x]), ?_, ?_, far ok1, ?_, ?_, ?_, ?_, b2⟩
  · rw [List.map_set]
  · rw [List.length_set]; exact e2
  · rw [List.map_set]; exact og2
  · intro y hy
    rw [List.mem_iff_getElem] at hy
    obtain ⟨i, hi, rfl⟩ := hy
    rw [List.getElem_set]
    have hi' : i < ps.length := by simpa using hi
    by_cases e : p = i
    · rw [if_pos e]
      exact ⟨far ho.1, ho.2⟩
    · rw [if_neg e]
      have hoi := oi _ (List.getElem_mem hi')
      have hap : Apart ps[i].1 ps[p].1 := by
        rcases Nat.lt_or_gt_of_ne e with hlt | hgt
        · exact ((List.pairwise_iff_getElem.1 ap) p i hp hi' hlt).symm
        · exact (List.pairwise_iff_getElem.1 ap) i p hi' hp hgt
      exact ⟨far (hoi.1.kept hg hap.1), hoi.2⟩
  · rw [List.pairwise_iff_getElem]
    intro i j hi hj hij
    have hi' : i < ps.length := by simpa using hi
    have hj' : j < ps.length := by simpa using hj
    rw [List.getElem_set, List.getElem_set]
    have hap := (List.pairwise_iff_getElem.1 ap) i j hi' hj' hij
    by_cases e : p = i
    · rw [if_pos e, if_neg (by omega)]
      subst e
      exact (fresh (oi _ (List.getElem_mem hj')).1 hap.symm).symm
    · rw [if_neg e]
      by_cases e' : p = j
      · rw [if_pos e']
        subst e'
        exact fresh (oi _ (List.getElem_mem hi')).1 hap
      · rw [if_neg e']
        exact hap
  · intro y hy
    rw [List.mem_iff_getElem] at hy
    obtain ⟨i, hi, rfl⟩ := hy
    rw [List.getElem_set]
    have hi' : i < ps.length := by simpa using hi
    by_cases e : p = i
    · rw [if_pos e]
      exact fresh ok (ak _ (List.getElem_mem hp))
    · rw [if_neg e]
      exact ak _ (List.getElem_mem hi')

end Go.Proofs.Ytnjjkcnokkhlkaa
