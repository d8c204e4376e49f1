/- Plain laws of grouping: the indexes at which a list has a value; the sorted different values of a list. -/
import Derived.Test.YtnjjkcnokkhlkaaCalW
namespace Go.Proofs.Ytnjjkcnokkhlkaa.Grp

/-- The indexes at which ks has x, ascending. -/
def grp (ks : List Int) (x : Int) : List Int := ((List.range ks.length).filter (fun i => decide (ks.getD i 0 = x))).map Int.ofNat

theorem getD_snoc_lt (ks : List Int) (y : Int) (i : Nat) (h : i < ks.length) : (ks ++ [y]).getD i 0 = ks.getD i 0 := by
  simp [List.getD, List.getElem?_append_left h]
theorem getD_snoc_eq (ks : List Int) (y : Int) : (ks ++ [y]).getD ks.length 0 = y := by
  simp [List.getD]

theorem grp_snoc (ks : List Int) (y x : Int) : grp (ks ++ [y]) x = grp ks x ++ (if y = x then [(ks.length : Int)] else []) := by
  unfold grp
  have hl : (ks ++ [y]).length = ks.length + 1 := by simp
  rw [hl, List.range_succ, List.filter_append, List.map_append]
  congr 1
  · congr 1
    apply List.filter_congr
    intro i hi
    rw [getD_snoc_lt ks y i (List.mem_range.1 hi)]
  · by_cases h : y = x
    · simp [h]
    · simp [h]

theorem grp_length (ks : List Int) (x : Int) : (grp ks x).length ≤ ks.length := by
  unfold grp
  rw [List.length_map]
  exact Nat.le_trans (List.length_filter_le _ _) (by simp)

theorem grp_nil_iff (ks : List Int) (x : Int) : grp ks x = [] ↔ x ∉ ks := by
  unfold grp
  rw [List.map_eq_nil_iff, List.filter_eq_nil_iff]
  constructor
  · intro h hx
    obtain ⟨i, hi, rfl⟩ := List.getElem_of_mem hx
    have := h i (List.mem_range.2 hi)
    simp [List.getD, hi] at this
  · intro h i hi
    have hi' := List.mem_range.1 hi
    have : ks.getD i 0 ∈ ks := by simp [List.getD, hi']
    intro e
    rw [of_decide_eq_true e] at this
    exact h this

/-- x laid into a sorted list, if it is not there. -/
def ins (x : Int) : List Int → List Int
  | [] => [x]
  | y :: l => if x < y then x :: y :: l else if x = y then y :: l else y :: ins x l
/-- The different values of a list, sorted. -/
def ukeys (ks : List Int) : List Int := ks.foldl (fun l x => ins x l) []
theorem ukeys_snoc (ks : List Int) (y : Int) : ukeys (ks ++ [y]) = ins y (ukeys ks) := by simp [ukeys]

theorem mem_ins (x y : Int) (l : List Int) : y ∈ ins x l ↔ y = x ∨ y ∈ l := by
  induction l with
  | nil => simp [ins]
  | cons z l ih =>
    unfold ins
    split
    · simp
    · split
      · rename_i h; subst h; simp
      · simp only [List.mem_cons, ih]
        constructor <;> rintro (h | h | h) <;> simp [h]
theorem ins_sorted (x : Int) (l : List Int) (h : l.Pairwise (· < ·)) : (ins x l).Pairwise (· < ·) := by
  induction l with
  | nil => simp [ins]
  | cons z l ih =>
    unfold ins
    have h' := List.pairwise_cons.1 h
    split
    · rename_i hx
      refine List.pairwise_cons.2 ⟨fun a ha => ?_, h⟩
      rcases List.mem_cons.1 ha with rfl | ha
      · exact hx
      · have := h'.1 a ha; omega
    · split
      · exact h
      · refine List.pairwise_cons.2 ⟨fun a ha => ?_, ih h'.2⟩
        rcases (mem_ins x a l).1 ha with rfl | ha
        · omega
        · exact h'.1 a ha
theorem foldl_ins (ks l : List Int) : (∀ x, x ∈ ks.foldl (fun l x => ins x l) l ↔ x ∈ ks ∨ x ∈ l) ∧ (l.Pairwise (· < ·) → (ks.foldl (fun l x => ins x l) l).Pairwise (· < ·)) := by
  induction ks generalizing l with
  | nil => simp
  | cons k ks ih =>
    obtain ⟨a, b⟩ := ih (ins k l)
    refine ⟨fun x => ?_, fun h => ?_⟩
    · rw [List.foldl_cons, a, mem_ins, List.mem_cons]
      constructor
      · rintro (h | h | h) <;> simp [h]
      · rintro ((h | h) | h) <;> simp [h]
    · rw [List.foldl_cons]; exact b (ins_sorted k l h)
theorem mem_ukeys (ks : List Int) (x : Int) : x ∈ ukeys ks ↔ x ∈ ks := by
  have := (foldl_ins ks []).1 x
  simpa [ukeys] using this
theorem ukeys_sorted (ks : List Int) : (ukeys ks).Pairwise (· < ·) := (foldl_ins ks []).2 List.Pairwise.nil

/-- Two sorted lists with the same members are one. -/
theorem sorted_ext : ∀ (l m : List Int), l.Pairwise (· < ·) → m.Pairwise (· < ·) → (∀ x, x ∈ l ↔ x ∈ m) → l = m
  | [], [], _, _, _ => rfl
  | [], y :: m, _, _, h => absurd ((h y).2 (by simp)) (by simp)
  | x :: l, [], _, _, h => absurd ((h x).1 (by simp)) (by simp)
  | x :: l, y :: m, hl, hm, h => by
    have hl' := List.pairwise_cons.1 hl
    have hm' := List.pairwise_cons.1 hm
    have e : x = y := by
      rcases List.mem_cons.1 ((h x).1 (by simp)) with e | hx
      · exact e
      · rcases List.mem_cons.1 ((h y).2 (by simp)) with e | hy
        · exact e.symm
        · have a := hm'.1 x hx
          have b := hl'.1 y hy
          omega
    subst e
    rw [sorted_ext l m hl'.2 hm'.2 fun z => ?_]
    constructor
    · intro hz
      have hne : z ≠ x := by have := hl'.1 z hz; omega
      rcases List.mem_cons.1 ((h z).1 (List.mem_cons.2 (.inr hz))) with e | hz'
      · exact absurd e hne
      · exact hz'
    · intro hz
      have hne : z ≠ x := by have := hm'.1 z hz; omega
      rcases List.mem_cons.1 ((h z).2 (List.mem_cons.2 (.inr hz))) with e | hz'
      · exact absurd e hne
      · exact hz'

theorem ukeys_length (ks : List Int) : (ukeys ks).length ≤ ks.length := by
  have hi : ∀ x l, (ins x l).length ≤ l.length + 1 := by
    intro x l
    induction l with
    | nil => simp [ins]
    | cons z l ih => unfold ins; split <;> (try split) <;> simp <;> omega
  have : ∀ (ks l : List Int), (ks.foldl (fun l x => ins x l) l).length ≤ l.length + ks.length := by
    intro ks
    induction ks with
    | nil => simp
    | cons k ks ih =>
      intro l
      have a := ih (ins k l)
      have b := hi k l
      rw [List.foldl_cons]
      simp
      omega
  simpa [ukeys] using this ks []

/-- A sorted list of whatever lists the different values once is ukeys. -/
theorem ukeys_of {ss ks : List Int} (hnd : ss.Nodup) (hm : ∀ x, x ∈ ss ↔ x ∈ ks) : ss.mergeSort (fun x y => decide (x ≤ y)) = ukeys ks := by
  have hp := List.mergeSort_perm ss (fun x y => decide (x ≤ y))
  have hs : (ss.mergeSort (fun x y => decide (x ≤ y))).Pairwise (fun x y => decide (x ≤ y) = true) :=
    List.pairwise_mergeSort (fun a b c h1 h2 => by simp at *; omega) (fun a b => by simp; omega) ss
  have hn : (ss.mergeSort (fun x y => decide (x ≤ y))).Nodup := hp.nodup_iff.2 hnd
  refine sorted_ext _ _ ?_ (ukeys_sorted ks) fun x => ?_
  · have hn' : (ss.mergeSort (fun x y => decide (x ≤ y))).Pairwise (fun x y => x ≠ y) := hn
    exact (hs.and hn').imp fun {a b} h => by
      have := h.1
      have h2 := h.2
      simp at this
      omega
  · rw [hp.mem_iff, hm, mem_ukeys]

/-- Where ins lays x: behind all that are less. -/
def place (x : Int) (l : List Int) : Nat := (l.filter (fun y => decide (y < x))).length
end Go.Proofs.Ytnjjkcnokkhlkaa.Grp
