/- Plain laws: sums of lists of numbers. Rows that an append grows, with what all their cells are. Slices of values and of fractions: what a slice reads as. Sums of the program: ratio.Sum. Units of the program: Convert. Sums of the program: Sum. -/
import Derived.Test.YthjnmnepjeegiaaGreatDoorG3
import Derived.Test.YthjnmnepjeegiaaGreatDoorG4
import Derived.Test.YthjnmnepjeegiaaGreatDoorG9
import Derived.Test.YthjnmnepjeegiaaGreatDoorG6
import Derived.Test.YthjnmnepjeegiaaGreatDoorG5
import Derived.Test.YthjnmnepjeegiaaGreatDoorG20
import Derived.Maps.AppendAt
import Derived.Laws.OwnMore
import Derived.Deep.RegionWith
/- Plain laws: sums of lists of numbers. -/
namespace Go.Proofs.YthjnmnepjeegiaaGreatDoor
open Go.Proofs.YthjnmnepjeegiaaGreatDoor.Dg Go.Proofs.YthjnmnepjeegiaaGreatDoor.Q Go.Proofs.YthjnmnepjeegiaaGreatDoor.Num

/-- The sum of a list. -/
def sumQ (l : List Rat) : Rat := l.foldr (· + ·) 0
theorem sumQ_nil : sumQ [] = 0 := rfl
theorem sumQ_cons (a : Rat) (l : List Rat) : sumQ (a :: l) = a + sumQ l := rfl
theorem sumQ_one (a : Rat) : sumQ [a] = a := by rw [sumQ_cons, sumQ_nil, Rat.add_zero]
theorem sumQ_append (l m : List Rat) : sumQ (l ++ m) = sumQ l + sumQ m := by
  induction l with
  | nil => rw [List.nil_append, sumQ_nil, Rat.zero_add]
  | cons a l ih => rw [List.cons_append, sumQ_cons, sumQ_cons, ih, Rat.add_assoc]
theorem sumQ_reverse (l : List Rat) : sumQ l.reverse = sumQ l := by
  induction l with
  | nil => rfl
  | cons a l ih => rw [List.reverse_cons, sumQ_append, sumQ_one, ih, sumQ_cons, Rat.add_comm]
theorem sumQ_halves (l : List Rat) (k : Nat) : sumQ (l.take k) + sumQ (l.drop k) = sumQ l := by
  rw [← sumQ_append, List.take_append_drop]
/-- The numbers among texts. -/
def nums (l : List (List UInt8)) : List Rat := l.filterMap num?
theorem nums_append (l m : List (List UInt8)) : nums (l ++ m) = nums l ++ nums m := List.filterMap_append
theorem nums_reverse (l : List (List UInt8)) : nums l.reverse = (nums l).reverse := List.filterMap_reverse
/-- The sum of the numbers among texts. -/
def sumT (l : List (List UInt8)) : Rat := sumQ (nums l)
theorem sumT_append (l m : List (List UInt8)) : sumT (l ++ m) = sumT l + sumT m := by unfold sumT; rw [nums_append, sumQ_append]
theorem sumT_turned (l : List (List UInt8)) (k : Nat) : sumT ((l.drop k).reverse ++ l.take k) = sumT l := by
  rw [sumT_append, show sumT (l.drop k).reverse = sumT (l.drop k) from by unfold sumT; rw [nums_reverse, sumQ_reverse], Rat.add_comm, ← sumT_append, List.take_append_drop]
theorem nums_snoc_some {l : List (List UInt8)} {x : List UInt8} {q : Rat} (h : num? x = some q) : nums (l ++ [x]) = nums l ++ [q] := by rw [nums_append]; simp [nums, h]
theorem nums_snoc_none {l : List (List UInt8)} {x : List UInt8} (h : num? x = none) : nums (l ++ [x]) = nums l := by rw [nums_append]; simp [nums, h]
theorem nums_len (l : List (List UInt8)) : (nums l).length ≤ l.length := List.length_filterMap_le _ _
end Go.Proofs.YthjnmnepjeegiaaGreatDoor

/- Rows that an append grows, with what all their cells are. -/
namespace Go.Proofs.YthjnmnepjeegiaaGreatDoor
open Go.RowKit Go.Proofs.YthjnmnepjeegiaaGreatDoor.Dg Go.Proofs.YthjnmnepjeegiaaGreatDoor.Q

/-- All cells of the block of an owned row are so. -/
def rowP (w : World) (v : Value) (p : Value → Bool) : Prop := ∀ g cur t fz, v.ownBlock = some g → w.heap[g]? = some (.cells cur t fz) → cur.all p = true
theorem rowP_nil (w : World) (p : Value → Bool) : rowP w (.slice none 0 0) p := fun g cur t fz h => by cases h
theorem rowP.up {w w' : World} {v : Value} {p : Value → Bool} (h : rowP w v p) (hb : Below w.heap.size w w') (hg : ∀ g, v.ownBlock = some g → g < w.heap.size) : rowP w' v p :=
  fun g cur t fz e k => h g cur t fz e ((hb.block g (hg g e)).symm.trans k)
theorem rowP_new (w : World) (C : Array Value) (e : TypeId) (n c : Nat) {p : Value → Bool} (hC : C.all p = true) : rowP (w.alloc (.cells C e)) (.slice (some ⟨w.heap.size, 0, none⟩) n c) p := by
  intro g cur t fz h k
  have h' : w.heap.size = g := by simpa [Value.ownBlock] using h
  subst h'
  rw [Deep.blk_alloc_new w (.cells C e)] at k
  injection k with k
  injection k with k1 k2 k3
  subst k1
  exact hC
theorem zero_all {z : Array Value} {p : Value → Bool} (h : z.all p = true) (n : Nat) : (Builtin.zeroCells z n).all p = true := by
  rw [Array.all_eq_true_iff_forall_mem] at *
  intro x hx
  unfold Builtin.zeroCells at hx
  rw [Array.mem_map] at hx
  obtain ⟨i, hi, rfl⟩ := hx
  rw [Array.mem_range] at hi
  have hz : 0 < z.size := by
    rcases Nat.eq_zero_or_pos z.size with e | e
    · rw [e, Nat.mul_zero] at hi; omega
    · exact e
  have hlt := Nat.mod_lt i hz
  rw [getElem!_pos z (i % z.size) hlt]
  exact h _ (Array.getElem_mem hlt)

section
variable {P : Program} (w : World)
theorem run_append_own_p (base : Nat) (t ty e : TypeId) (i : TypeInfo) (z : Value) (size bytes : Nat) (ht : P.underlying t = some (.slice e)) (hi : P.info? e = some i) (hz : i.zero = some z)
    (hsize : i.size = size) (hby : i.bytes = bytes) (hzs : z.cells.size = size) (hsz : 0 < size)
    (v : Value) (n : Nat) (xs : List Value) (hown : w.ownsRow base e size v n xs)
    (a : Addr) (c : Nat) (news : List Value) (hl : news.length = size) (hnews : ∀ j u, news[j]? = some u → w.cell? (a.add j) = some u) (h1 : ∀ u ∈ news, u.oneCell' = true)
    (h63 : n + 1 ≤ maxLen) (hbytes : (n + 1) * bytes ≤ 140737488355328) (hbase : base ≤ w.heap.size) (p : Value → Bool) (hr : rowP w v p) (hzp : z.cells.all p = true) (hnp : ∀ u ∈ news, p u = true) :
    ∃ v' w', (Builtin.append_ #[t, t] ty #[v, .slice (some a) 1 c]).run P w = .ok v' w' ∧ w'.ownsRow base e size v' (n + 1) (xs ++ news) ∧ w.grownBy w' v.ownBlock ∧ rowP w' v' p := by
  have hl' : news.length = 1 * size := by rw [hl, Nat.one_mul]
  obtain ⟨v', w', hrun, h2, h3, _, _⟩ := run_append_own_at w base t ty e i z size bytes ht hi hz hsize hby hzs hsz v n xs hown a 1 c news hl' hnews h1 h63 hbytes hbase
  refine ⟨v', w', hrun, h2, h3, ?_⟩
  subst hsize
  subst hby
  have hsmall : n + 1 ≤ 9223372036854775807 := by simp only [maxLen] at h63; omega
  have hN : news.toArray.all p = true := by rw [List.all_toArray, List.all_eq_true]; exact hnp
  rcases hown.2 with ⟨rfl, rfl⟩ | ⟨g, cap, cur, rfl, hbg, hg, hnc, hcm, hcs, htake⟩
  · have hx := run_append_nil (P := P) w t ty e i z ht hi hz a 1 c news hl' hnews (by omega) (by omega) (by have hb := hbytes; simp only [Nat.zero_add] at hb; omega)
    rw [hx] at hrun
    injection hrun with e1 e2
    subst e1 e2
    exact rowP_new w.drew _ e _ _ (by rw [Array.all_append, hN, zero_all hzp, Bool.and_true])
  · have hcur := hr g cur e (0, 0) rfl hg
    have hmem : ∀ u ∈ cur.toList, p u = true := fun u hu => (Array.all_eq_true_iff_forall_mem.1 hcur) u (Array.mem_def.2 hu)
    by_cases hroom : n + 1 ≤ cap
    · have hfit : n * i.size + news.length ≤ cur.size := by rw [hl', hcs, ← Nat.add_mul]; exact Nat.mul_le_mul_right _ hroom
      have hx := run_append_room (P := P) w t ty e i ht hi g n cap cur hg a 1 c news hl' hnews h1 hroom hfit
      rw [hx] at hrun
      injection hrun with e1 e2
      subst e1 e2
      intro g' cur' t' fz' h k
      have h' : g = g' := by simpa [Value.ownBlock] using h
      subst h'
      rw [setRow_heap w g cur _ e _ hg] at k
      injection k with k
      injection k with k1 k2 k3
      subst k1
      rw [List.all_toArray, List.all_eq_true]
      intro u hu
      rcases List.mem_append.1 hu with hu | hu
      · rcases List.mem_append.1 hu with hu | hu
        · exact hmem u (List.mem_of_mem_take hu)
        · exact hnp u hu
      · exact hmem u (List.mem_of_mem_drop hu)
    · have holds : ∀ j u, xs[j]? = some u → w.cell? ((⟨g, 0, none⟩ : Addr).add j) = some u := hown.cells (g := g) rfl
      have hx := run_append_grow (P := P) w t ty e i z ht hi hz ⟨g, 0, none⟩ n cap xs hown.1 holds a 1 c news hl' hnews (by omega) (by omega) (growslice_fits (by omega) hbytes)
      rw [hx] at hrun
      injection hrun with e1 e2
      subst e1 e2
      refine rowP_new w.drew _ e _ _ ?_
      rw [Array.all_append, Array.all_append, hN, zero_all hzp, Bool.and_true, Bool.and_true, List.all_toArray, List.all_eq_true]
      intro u hu
      rw [← htake] at hu
      exact hmem u (List.mem_of_mem_take hu)
theorem wpList_append_own_p {ops : Array Oper} {rest : List Oper} {o : Oper} {a : Act} {Q : Exit → Act → World → Prop} (hgd : o.guard = none) (s x : Operand) (t : TypeId)
    (ho : o.op = .call { callee := .builtin .append, args := #[s, x], argTypes := #[t, t] })
    (base : Nat) (e : TypeId) (i : TypeInfo) (z : Value) (size bytes : Nat) (ht : P.underlying t = some (.slice e)) (hi : P.info? e = some i) (hz : i.zero = some z)
    (hsize : i.size = size) (hby : i.bytes = bytes) (hzs : z.cells.size = size) (hsz : 0 < size)
    (v : Value) (n : Nat) (xs : List Value) (hs : a.eval s = v) (hown : w.ownsRow base e size v n xs)
    (ad : Addr) (c : Nat) (news : List Value) (hx : a.eval x = .slice (some ad) 1 c) (hl : news.length = size) (hnews : ∀ j u, news[j]? = some u → w.cell? (ad.add j) = some u) (h1 : ∀ u ∈ news, u.oneCell' = true)
    (h63 : n + 1 ≤ maxLen) (hbytes : (n + 1) * bytes ≤ 140737488355328) (hbase : base ≤ w.heap.size) (p : Value → Bool) (hr : rowP w v p) (hzp : z.cells.all p = true) (hnp : ∀ u ∈ news, p u = true)
    (h : ∀ v' w', w'.ownsRow base e size v' (n + 1) (xs ++ news) → w.grownBy w' v.ownBlock → rowP w' v' p → wpList P ops Q rest (a.put o.dst v') w') :
    wpList P ops Q (o :: rest) a w := by
  refine wpList_plain hgd fun K hK => ?_
  obtain ⟨v', w', hrun, h2, h3, h4⟩ := run_append_own_p (P := P) w base t o.type e i z size bytes ht hi hz hsize hby hzs hsz v n xs hown ad c news hl hnews h1 h63 hbytes hbase p hr hzp hnp
  unfold Oper.wp execOp
  simp only [ho, resolve, invoke, builtin, Sem.run_bind, Sem.run_pure, Result.andThen_ok, List.map_toArray, List.map_cons, List.map_nil, hs, hx, hrun]
  exact hK _ _ (h v' w' h2 h3 h4)
end
end Go.Proofs.YthjnmnepjeegiaaGreatDoor

/- Slices of values and of fractions: what a slice reads as. -/
namespace Go.Proofs.YthjnmnepjeegiaaGreatDoor
open Go.RowKit Go.Proofs.YthjnmnepjeegiaaGreatDoor.Dg Go.Proofs.YthjnmnepjeegiaaGreatDoor.Q Go.Proofs.YthjnmnepjeegiaaGreatDoor.Num

theorem addr_add_none (b off k : Nat) : (⟨b, off, none⟩ : Addr).add k = ⟨b, off + k, none⟩ := by
  unfold Addr.add
  by_cases h : k = 0 <;> simp [h]
/-- The slice value '.slice A n c' of elements of m cells reads as the list of cells xs; its cells lie below block B. -/
def Vw (w : World) (B : Nat) (A : Option Addr) (n c m : Nat) (xs : List Value) : Prop :=
  xs.length = n * m ∧ n ≤ c ∧ (A = none → c = 0) ∧ (0 < n → ∃ b off, A = some ⟨b, off, none⟩ ∧ b < B ∧ ∀ j u, xs[j]? = some u → w.cell? ⟨b, off + j, none⟩ = some u)
theorem Vw.keep {w w' : World} {B n c m : Nat} {A : Option Addr} {xs : List Value} (h : Vw w B A n c m xs) (hb : Below B w w') : Vw w' B A n c m xs :=
  ⟨h.1, h.2.1, h.2.2.1, fun hn => by
    obtain ⟨b, off, e, hlt, hc⟩ := h.2.2.2 hn
    exact ⟨b, off, e, hlt, fun j u hu => (hb.cell hlt).trans (hc j u hu)⟩⟩
theorem Vw.up {w w' : World} {n c m : Nat} {A : Option Addr} {xs : List Value} (h : Vw w w.heap.size A n c m xs) (hb : Below w.heap.size w w') : Vw w' w'.heap.size A n c m xs := by
  obtain ⟨h1, h2, h3, h4⟩ := h.keep hb
  exact ⟨h1, h2, h3, fun hn => by obtain ⟨b, off, e, hlt, hc⟩ := h4 hn; exact ⟨b, off, e, Nat.lt_of_lt_of_le hlt hb.size, hc⟩⟩
theorem Vw.own {w : World} {base n m : Nat} {e : TypeId} {v : Value} {xs : List Value} (h : w.ownsRow base e m v n xs) : ∃ A c, v = .slice A n c ∧ Vw w w.heap.size A n c m xs := by
  have hcells := fun g => h.cells (g := g)
  rcases h.2 with ⟨hv, hn⟩ | ⟨g, cap, cur, hv, hb, hg, hcap, _⟩
  · subst hn
    exact ⟨none, 0, hv, h.1, Nat.le_refl _, fun _ => rfl, fun h => absurd h (by omega)⟩
  · refine ⟨some ⟨g, 0, none⟩, cap, hv, h.1, hcap, (fun h => by cases h), fun _ => ⟨g, 0, rfl, (Array.getElem?_eq_some_iff.1 hg).1, fun j u hu => ?_⟩⟩
    have := hcells g (by rw [hv]; rfl) j u hu
    rwa [addr_add_none] at this
theorem Vw.take {w : World} {B n c m : Nat} {A : Option Addr} {xs : List Value} (h : Vw w B A n c m xs) {p : Nat} (hp : p ≤ n) : Vw w B A p c m (xs.take (p * m)) :=
  ⟨by rw [List.length_take, h.1]; exact Nat.min_eq_left (Nat.mul_le_mul_right _ hp), by have := h.2.1; omega, h.2.2.1, fun hn => by
    obtain ⟨b, off, e, hlt, hc⟩ := h.2.2.2 (by omega)
    refine ⟨b, off, e, hlt, fun j u hu => hc j u ?_⟩
    rw [List.getElem?_take] at hu
    split at hu
    · exact hu
    · cases hu⟩
theorem Vw.cut {w : World} {B n c m : Nat} {A : Option Addr} {xs : List Value} (h : Vw w B A n c m xs) {p : Nat} (hp : p ≤ n) : Vw w B (if c = p then A else A.map (·.add (p * m))) (n - p) (c - p) m (xs.drop (p * m)) := by
  refine ⟨by rw [List.length_drop, h.1, Nat.sub_mul], by have := h.2.1; omega, fun hA => ?_, fun hn => ?_⟩
  · split at hA
    · omega
    · have := h.2.2.1 (by simpa using hA); omega
  · obtain ⟨b, off, rfl, hlt, hc⟩ := h.2.2.2 (by omega)
    have := h.2.1
    rw [if_neg (by omega)]
    refine ⟨b, off + p * m, by rw [Option.map_some, addr_add_none], hlt, fun j u hu => ?_⟩
    rw [Nat.add_assoc]
    exact hc _ u (by rw [← hu, List.getElem?_drop])
/-- Cells that read as fractions of the program. -/
def FL (w : World) : List Value → List Rat → Prop
  | [], [] => True
  | a :: b :: c :: xs, q :: qs => Fr w (.agg #[a, b, c]) q ∧ FL w xs qs
  | _, _ => False
theorem FL.up {w w' : World} (hb : Below w.heap.size w w') : ∀ {xs : List Value} {qs : List Rat}, FL w xs qs → FL w' xs qs
  | [], [], _ => trivial
  | _ :: _ :: _ :: _, _ :: _, h => ⟨h.1.up hb, FL.up hb h.2⟩
  | [], _ :: _, h => h.elim
  | [_], [], h => h.elim
  | [_], _ :: _, h => h.elim
  | [_, _], [], h => h.elim
  | [_, _], _ :: _, h => h.elim
  | _ :: _ :: _ :: _, [], h => h.elim
theorem FL.snoc {w : World} {a b c : Value} {q : Rat} (hq : Fr w (.agg #[a, b, c]) q) : ∀ {xs : List Value} {qs : List Rat}, FL w xs qs → FL w (xs ++ [a, b, c]) (qs ++ [q])
  | [], [], _ => ⟨hq, trivial⟩
  | _ :: _ :: _ :: _, _ :: _, h => ⟨h.1, FL.snoc hq h.2⟩
  | [], _ :: _, h => h.elim
  | [_], [], h => h.elim
  | [_], _ :: _, h => h.elim
  | [_, _], [], h => h.elim
  | [_, _], _ :: _, h => h.elim
  | _ :: _ :: _ :: _, [], h => h.elim
theorem FL.parts {w : World} : ∀ (k : Nat) {xs : List Value} {qs : List Rat}, FL w xs qs → FL w (xs.take (k * 3)) (qs.take k) ∧ FL w (xs.drop (k * 3)) (qs.drop k)
  | 0, _, _, h => ⟨by simp [FL], by simpa using h⟩
  | k + 1, [], [], _ => ⟨by simp [FL], by simp [FL]⟩
  | k + 1, _ :: _ :: _ :: _, _ :: _, h => by
    have ih := FL.parts k h.2
    rw [show (k + 1) * 3 = k * 3 + 1 + 1 + 1 by omega]
    exact ⟨⟨h.1, ih.1⟩, ih.2⟩
  | _ + 1, [], _ :: _, h => h.elim
  | _ + 1, [_], [], h => h.elim
  | _ + 1, [_], _ :: _, h => h.elim
  | _ + 1, [_, _], [], h => h.elim
  | _ + 1, [_, _], _ :: _, h => h.elim
  | _ + 1, _ :: _ :: _ :: _, [], h => h.elim
theorem FL.no {w : World} {a : Value} : ∀ {l : List Value}, FL w (a :: l) [] → False
  | [], h => h
  | [_], h => h
  | _ :: _ :: _, h => h
theorem FL.one {w : World} : ∀ {xs : List Value} {q : Rat}, FL w xs [q] → ∃ a b c, xs = [a, b, c] ∧ Fr w (.agg #[a, b, c]) q
  | [a, b, c], _, h => ⟨a, b, c, rfl, h.1⟩
  | [], _, h => h.elim
  | [_], _, h => h.elim
  | [_, _], _, h => h.elim
  | _ :: _ :: _ :: _ :: _, _, h => (FL.no h.2).elim
theorem FL.len {w : World} : ∀ {xs : List Value} {qs : List Rat}, FL w xs qs → xs.length = qs.length * 3
  | [], [], _ => rfl
  | _ :: _ :: _ :: _, _ :: _, h => by
    have ih := FL.len h.2
    simp only [List.length_cons, ih, Nat.add_mul]
  | [], _ :: _, h => h.elim
  | [_], [], h => h.elim
  | [_], _ :: _, h => h.elim
  | [_, _], [], h => h.elim
  | [_, _], _ :: _, h => h.elim
  | _ :: _ :: _ :: _, [], h => h.elim
/-- A bound of a sum. -/
theorem sumQ_sz {B : Nat} : ∀ {l : List Rat}, (∀ q ∈ l, sz q ≤ B) → sz (sumQ l) ≤ l.length * (B + 1) + 1
  | [], _ => by
    have : sz (0 : Rat) ≤ 1 := by decide +kernel
    rw [sumQ_nil]
    simpa using this
  | a :: l, h => by
    have ih := sumQ_sz (l := l) (fun q hq => h q (List.mem_cons_of_mem _ hq))
    have h1 := h a (List.mem_cons_self ..)
    have := sz_add a (sumQ l)
    rw [sumQ_cons, List.length_cons, Nat.add_mul]
    omega
theorem nums_sz {l : List (List UInt8)} : ∀ q ∈ nums l, sz q ≤ 5 := by
  intro q hq
  obtain ⟨x, _, h⟩ := List.mem_filterMap.1 hq
  exact num_sz h
end Go.Proofs.YthjnmnepjeegiaaGreatDoor

/- Sums of the program: ratio.Sum. -/
namespace Go.Proofs.YthjnmnepjeegiaaGreatDoor
open Go.RowKit Go.Proofs.YthjnmnepjeegiaaGreatDoor.Dg Go.Proofs.YthjnmnepjeegiaaGreatDoor.Q Go.Proofs.YthjnmnepjeegiaaGreatDoor.Num

/-- A result of three cells. -/
def KS0 (w w' : World) : Prop := Bk w' w.heap.size #[.bool false, .slice none 0 0, .slice none 0 0] 41 ∧ Below w.heap.size w w'
theorem KS0.up {w w1 w2 : World} (h : KS0 w w1) (hb : Below w1.heap.size w1 w2) : KS0 w w2 := ⟨h.1.up hb, btrans h.2 hb⟩
theorem KS0.b {w w1 : World} (h : KS0 w w1) : Below w.heap.size w w1 := h.2
theorem KS0.start (w : World) : KS0 w (w.alloc (.cells #[.bool false, .slice none 0 0, .slice none 0 0] 41)) := ⟨Bk.new w _ _, (Below.refl _ w).alloc (Nat.le_refl _) _⟩
theorem KS0.three {w w' : World} (h : KS0 w w') : w'.cell? ⟨w.heap.size, 0, none⟩ = some (.bool false) ∧ w'.cell? ⟨w.heap.size, 1, none⟩ = some (.slice none 0 0) ∧ w'.cell? ⟨w.heap.size, 2, none⟩ = some (.slice none 0 0) ∧ w'.frozen? ⟨w.heap.size, 0, none⟩ = false ∧ w'.frozen? ⟨w.heap.size, 1, none⟩ = false ∧ w'.frozen? ⟨w.heap.size, 2, none⟩ = false :=
  ⟨h.1.cell 0, h.1.cell 1, h.1.cell 2, h.1.frozen 0, h.1.frozen 1, h.1.frozen 2⟩
theorem KS0.give {w w' : World} (h : KS0 w w') {a b c : Value} {q : Rat} (hq : Fr w' (.agg #[a, b, c]) q) : GiveF w q (.returned (.agg #[a, b, c])) (((w'.setCell ⟨w.heap.size, 0, none⟩ a).setCell ⟨w.heap.size, 1, none⟩ b).setCell ⟨w.heap.size, 2, none⟩ c) :=
  ⟨_, rfl, hq.putL h.1 (by simp [notK]) 0 [a, b, c], putL_below (Nat.le_refl _) [a, b, c] 0 h.2⟩
theorem sum_half {l : List Rat} {h : Nat} : sumQ (l.take h) + sumQ (l.drop h) = sumQ l := sumQ_halves l h

end Go.Proofs.YthjnmnepjeegiaaGreatDoor

/- Units of the program: Convert. -/
namespace Go.Proofs.YthjnmnepjeegiaaGreatDoor
open Go.RowKit Go.Proofs.YthjnmnepjeegiaaGreatDoor.Dg Go.Proofs.YthjnmnepjeegiaaGreatDoor.Q Go.Proofs.YthjnmnepjeegiaaGreatDoor.Num

/-- What Convert gives. -/
def qconv (X F O : List UInt8) (p : P7) (F' O' : List UInt8) (p' : P7) : List UInt8 × Int :=
  if vU F O p = true then (if vU F' O' p' = true then (if p = p' then match num? X, num? F, num? O, num? F', num? O' with
    | some v, some f, some a, some g, some b => (put ((f * v + a - b) / g), 0)
    | _, _, _, _, _ => ([], 0)
  else ([], 11)) else ([], 10)) else ([], 10)
def KV (w w' : World) (F O : ByteArray) (p : P7) (F' O' : ByteArray) (p' : P7) : Prop := Ub w' w.heap.size F O p ∧ Ub w' (w.heap.size + 1) F' O' p' ∧ Below w.heap.size w w'
theorem KV.b {w w' : World} {F O F' O' : ByteArray} {p p' : P7} (h : KV w w' F O p F' O' p') : Below w.heap.size w w' := h.2.2
theorem KV.up {w w1 w2 : World} {F O F' O' : ByteArray} {p p' : P7} (h : KV w w1 F O p F' O' p') (hb : Below w1.heap.size w1 w2) : KV w w2 F O p F' O' p' := ⟨h.1.up hb, h.2.1.up hb, btrans h.2.2 hb⟩
theorem KV.start (w : World) (F O F' O' : ByteArray) (p p' : P7) : KV w ((w.alloc (.cells (unC F O p) 24)).alloc (.cells (unC F' O' p') 24)) F O p F' O' p' := by
  have s1 : (w.alloc (.cells (unC F O p) 24)).heap.size = w.heap.size + 1 := by simp
  refine ⟨(Bk.new w _ _).alloc, ?_, ((Below.refl _ w).alloc (Nat.le_refl _) _).alloc (by rw [s1]; omega) _⟩
  have := Bk.new (w.alloc (.cells (unC F O p) 24)) (unC F' O' p') 24
  rw [s1] at this
  exact this
/-- Five fractions in blocks. -/
def KX (w w' : World) (h0 h1 h2 h3 h4 : Nat) (x0 y0 z0 x1 y1 z1 x2 y2 z2 x3 y3 z3 x4 y4 z4 : Value) : Prop := Bk w' h0 #[x0, y0, z0] 41 ∧ Bk w' h1 #[x1, y1, z1] 41 ∧ Bk w' h2 #[x2, y2, z2] 41 ∧ Bk w' h3 #[x3, y3, z3] 41 ∧ Bk w' h4 #[x4, y4, z4] 41 ∧ Below w.heap.size w w'
theorem KX.b {w w' : World} {h0 h1 h2 h3 h4 : Nat} {x0 y0 z0 x1 y1 z1 x2 y2 z2 x3 y3 z3 x4 y4 z4 : Value} (h : KX w w' h0 h1 h2 h3 h4 x0 y0 z0 x1 y1 z1 x2 y2 z2 x3 y3 z3 x4 y4 z4) : Below w.heap.size w w' := h.2.2.2.2.2
theorem KX.up {w w1 w2 : World} {h0 h1 h2 h3 h4 : Nat} {x0 y0 z0 x1 y1 z1 x2 y2 z2 x3 y3 z3 x4 y4 z4 : Value} (h : KX w w1 h0 h1 h2 h3 h4 x0 y0 z0 x1 y1 z1 x2 y2 z2 x3 y3 z3 x4 y4 z4) (hb : Below w1.heap.size w1 w2) : KX w w2 h0 h1 h2 h3 h4 x0 y0 z0 x1 y1 z1 x2 y2 z2 x3 y3 z3 x4 y4 z4 := ⟨h.1.up hb, h.2.1.up hb, h.2.2.1.up hb, h.2.2.2.1.up hb, h.2.2.2.2.1.up hb, btrans h.b hb⟩
theorem KX.limbs {w w' : World} {h0 h1 h2 h3 h4 : Nat} {x0 y0 z0 x1 y1 z1 x2 y2 z2 x3 y3 z3 x4 y4 z4 : Value} (h : KX w w' h0 h1 h2 h3 h4 x0 y0 z0 x1 y1 z1 x2 y2 z2 x3 y3 z3 x4 y4 z4) : w'.cell? ⟨h0, 0, none⟩ = some x0 ∧ w'.cell? ⟨h0, 1, none⟩ = some y0 ∧ w'.cell? ⟨h0, 2, none⟩ = some z0 ∧ w'.cell? ⟨h1, 0, none⟩ = some x1 ∧ w'.cell? ⟨h1, 1, none⟩ = some y1 ∧ w'.cell? ⟨h1, 2, none⟩ = some z1 ∧ w'.cell? ⟨h2, 0, none⟩ = some x2 ∧ w'.cell? ⟨h2, 1, none⟩ = some y2 ∧ w'.cell? ⟨h2, 2, none⟩ = some z2 ∧ w'.cell? ⟨h3, 0, none⟩ = some x3 ∧ w'.cell? ⟨h3, 1, none⟩ = some y3 ∧ w'.cell? ⟨h3, 2, none⟩ = some z3 ∧ w'.cell? ⟨h4, 0, none⟩ = some x4 ∧ w'.cell? ⟨h4, 1, none⟩ = some y4 ∧ w'.cell? ⟨h4, 2, none⟩ = some z4 :=
  ⟨h.1.cell 0, h.1.cell 1, h.1.cell 2, h.2.1.cell 0, h.2.1.cell 1, h.2.1.cell 2, h.2.2.1.cell 0, h.2.2.1.cell 1, h.2.2.1.cell 2, h.2.2.2.1.cell 0, h.2.2.2.1.cell 1, h.2.2.2.1.cell 2, h.2.2.2.2.1.cell 0, h.2.2.2.2.1.cell 1, h.2.2.2.2.1.cell 2⟩
theorem vU_no {F O : List UInt8} {p : P7} (h : vU F O p = false) : ¬ vU F O p = true := fun e => by rw [h] at e; cases e
/-- What a reader of a good text gives. -/
theorem rdU (o : Rat) (w' : World) (S : ByteArray) (h : Calls Tryz.prog 10 #[.string S] w' (ReadQ (some o) w')) : Calls Tryz.prog 10 #[.string S] w' fun e w2 => ∃ b A n c A' n' c', e = .returned (.tuple #[.agg #[.bool b, .slice A n c, .slice A' n' c'], .bool true]) ∧ Below w'.heap.size w' w2 ∧ Fr w2 (.agg #[.bool b, .slice A n c, .slice A' n' c']) o :=
  h.mono fun _ _ ⟨b, A, n, c, A', n', c', he, hb, hF⟩ => ⟨b, A, n, c, A', n', c', he, hb, hF o rfl⟩

end Go.Proofs.YthjnmnepjeegiaaGreatDoor

/- Sums of the program: Sum. -/
namespace Go.Proofs.YthjnmnepjeegiaaGreatDoor
open Go.RowKit Go.Proofs.YthjnmnepjeegiaaGreatDoor.Dg Go.Proofs.YthjnmnepjeegiaaGreatDoor.Q Go.Proofs.YthjnmnepjeegiaaGreatDoor.Num

theorem Tryz.infoFr : (Tryz.prog.info? 41).map (fun i => (i.zero, i.size, i.bytes)) = some (some (.agg #[.bool false, .slice none 0 0, .slice none 0 0]), 3, 56) := by kernel_rfl
/-- A row of fractions that a call makes. -/
def RowF (w wr : World) (v : Value) (qs : List Rat) : Prop := ∃ xs, wr.ownsRow w.heap.size 41 3 v qs.length xs ∧ rowP wr v (notK .u32) ∧ FL wr xs qs ∧ Below w.heap.size w wr
theorem RowF.b {w wr : World} {v : Value} {qs : List Rat} (h : RowF w wr v qs) : Below w.heap.size w wr := h.elim fun _ k => k.2.2.2
theorem RowF.up {w w1 w2 : World} {v : Value} {qs : List Rat} (h : RowF w w1 v qs) (hb : Below w1.heap.size w1 w2) : RowF w w2 v qs := by
  obtain ⟨xs, h1, h2, h3, h4⟩ := h
  exact ⟨xs, ownM_below h1 hb, h2.up hb (fun g hg => (h1.lt g hg).2), h3.up hb, btrans h4 hb⟩
theorem RowF.start (w : World) : RowF w w (.slice none 0 0) [] := ⟨[], World.ownsRow_nil _ _ _ _, rowP_nil _ _, trivial, Below.refl _ _⟩
theorem Fs.grown {k : IntKind} {w w' : World} {n c : Nat} {A : Option Addr} {o : Nat → Nat} {v : Value} (h : Fs k w w.heap.size A n c o) (hg : w.grownBy w' v.ownBlock) (hr : ∀ g, v.ownBlock = some g → ∃ cur t fz, w.heap[g]? = some (.cells cur t fz) ∧ cur.all (notK k) = true) : Fs k w' w'.heap.size A n c o :=
  ⟨h.1, h.2.1, fun hn => by
    obtain ⟨b, off, e, hlt, hc⟩ := h.2.2 hn
    refine ⟨b, off, e, Nat.lt_of_lt_of_le hlt hg.size, fun j hj => hg.cell (hc j hj) (fun e2 => ?_)⟩
    obtain ⟨cur, t, fz, e3, e4⟩ := hr b e2.symm
    have h5 := hc j hj
    simp only [World.cell?, e3] at h5
    have := Array.all_eq_true'.1 e4 _ (Array.mem_of_getElem? h5)
    simp [notK] at this⟩
theorem Fr.grown {w w' : World} {u v : Value} {q : Rat} (h : Fr w u q) (hg : w.grownBy w' v.ownBlock) (hr : ∀ g, v.ownBlock = some g → ∃ cur t fz, w.heap[g]? = some (.cells cur t fz) ∧ cur.all (notK .u32) = true) : Fr w' u q := by
  obtain ⟨A, c, A', c', e, h1, h2⟩ := h
  exact ⟨A, c, A', c', e, Fs.grown h1 hg hr, Fs.grown h2 hg hr⟩
theorem FL.grown {w w' : World} {v : Value} (hg : w.grownBy w' v.ownBlock) (hr : ∀ g, v.ownBlock = some g → ∃ cur t fz, w.heap[g]? = some (.cells cur t fz) ∧ cur.all (notK .u32) = true) : ∀ {xs : List Value} {qs : List Rat}, FL w xs qs → FL w' xs qs
  | [], [], _ => trivial
  | _ :: _ :: _ :: _, _ :: _, h => ⟨h.1.grown hg hr, FL.grown hg hr h.2⟩
  | [], _ :: _, h => h.elim
  | [_], [], h => h.elim
  | [_], _ :: _, h => h.elim
  | [_, _], [], h => h.elim
  | [_, _], _ :: _, h => h.elim
  | _ :: _ :: _ :: _, [], h => h.elim
theorem rowP.cur {w : World} {base m n : Nat} {e : TypeId} {v : Value} {xs : List Value} {p : Value → Bool} (h : w.ownsRow base e m v n xs) (hr : rowP w v p) : ∀ g, v.ownBlock = some g → ∃ cur t fz, w.heap[g]? = some (.cells cur t fz) ∧ cur.all p = true := by
  intro g hg
  rcases h.2 with ⟨rfl, _⟩ | ⟨g', cap, cur, rfl, _, e3, _⟩
  · cases hg
  · have : g' = g := by simpa [Value.ownBlock] using hg
    subst this
    exact ⟨cur, _, _, e3, hr g' cur _ _ rfl e3⟩
/-- A row that has grown by a fraction. -/
theorem RowF.grow {w w1 w2 : World} {v v2 a b c : Value} {qs : List Rat} {q : Rat} {xs : List Value} (h1 : w1.ownsRow w.heap.size 41 3 v qs.length xs) (h2 : rowP w1 v (notK .u32)) (h3 : FL w1 xs qs) (h4 : Below w.heap.size w w1) (hq : Fr w1 (.agg #[a, b, c]) q)
    (o2 : w2.ownsRow w.heap.size 41 3 v2 (qs.length + 1) (xs ++ [a, b, c])) (hg : w1.grownBy w2 v.ownBlock) (p2 : rowP w2 v2 (notK .u32)) : RowF w w2 v2 (qs ++ [q]) := by
  have hr := rowP.cur h1 h2
  exact ⟨xs ++ [a, b, c], by rw [List.length_append]; exact o2, p2, (h3.grown hg hr).snoc (hq.grown hg hr), grownM_below h1 h4 hg⟩
theorem cells3_new (w : World) (a b c : Value) (t : TypeId) (g : Nat) (hg : w.heap.size = g) : ∀ j u, [a, b, c][j]? = some u → (w.alloc (.cells #[a, b, c] t)).cell? ((⟨g, 0, none⟩ : Addr).add j) = some u := by
  subst hg
  intro j u hj
  rw [addr_add_none, Nat.zero_add, (Bk.new w #[a, b, c] t).cell j, ← hj, List.getElem?_toArray]

end Go.Proofs.YthjnmnepjeegiaaGreatDoor
