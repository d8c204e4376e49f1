/- The reference's opened: two lists with a place opened. -/
import Derived.Test.YtnjjkcnokkhlkaaCalGh
import Derived.Laws.OwnMore
namespace Go.Proofs.Ytnjjkcnokkhlkaa
open Go.RowKit

theorem addr_add_add (a : Addr) (i j : Nat) : (a.add i).add j = a.add (i + j) := by
  unfold Addr.add
  by_cases hi : i = 0 <;> by_cases hj : j = 0 <;> simp [hi, hj, Nat.add_assoc]
theorem addr_block (a : Addr) (i : Nat) : (a.add i).block = a.block := by unfold Addr.add; split <;> rfl

/-- The slice value '.slice A n c' reads as the list of one-cell values xs; its cells lie below block B. -/
def Vl (w : World) (B : Nat) (A : Option Addr) (n c : Nat) (xs : List Value) : Prop :=
  xs.length = n ∧ n ≤ c ∧ (A = none → c = 0) ∧ (0 < n → ∃ ad : Addr, A = some ad ∧ ad.block < B ∧ ∀ j u, xs[j]? = some u → w.cell? (ad.add j) = some u)

theorem Vl.keep {w w' : World} {B n c : Nat} {A : Option Addr} {xs : List Value} (h : Vl w B A n c xs) (hb : Below B w w') : Vl w' B A n c xs :=
  ⟨h.1, h.2.1, h.2.2.1, fun hn => by
    obtain ⟨ad, e, hlt, hc⟩ := h.2.2.2 hn
    exact ⟨ad, e, hlt, fun j u hu => (hb.cell (by rw [addr_block]; exact hlt)).trans (hc j u hu)⟩⟩

theorem Vl.own {w : World} {base n : Nat} {e : TypeId} {v : Value} {xs : List Value} (h : w.ownsRow base e 1 v n xs) : ∃ A c, v = .slice A n c ∧ Vl w w.heap.size A n c xs := by
  have hl : xs.length = n := by have := h.1; simpa using this
  have hcells := fun g => h.cells (g := g)
  rcases h.2 with ⟨hv, hn⟩ | ⟨g, cap, cur, hv, hb, hg, hcap, _⟩
  · subst hn
    exact ⟨none, 0, hv, hl, Nat.le_refl _, fun _ => rfl, fun h => absurd h (by omega)⟩
  · exact ⟨some ⟨g, 0, none⟩, cap, hv, hl, hcap, (fun h => by cases h), fun _ => ⟨⟨g, 0, none⟩, rfl, (Array.getElem?_eq_some_iff.1 hg).1, hcells g (by rw [hv]; rfl)⟩⟩

theorem Vl.take {w : World} {B n c : Nat} {A : Option Addr} {xs : List Value} (h : Vl w B A n c xs) {p : Nat} (hp : p ≤ n) : Vl w B A p c (xs.take p) :=
  ⟨by rw [List.length_take, h.1]; omega, by have := h.2.1; omega, h.2.2.1, fun hn => by
    obtain ⟨ad, e, hlt, hc⟩ := h.2.2.2 (by omega)
    refine ⟨ad, e, hlt, fun j u hu => hc j u ?_⟩
    rw [List.getElem?_take] at hu
    split at hu
    · exact hu
    · cases hu⟩

theorem Vl.cut {w : World} {B n c : Nat} {A : Option Addr} {xs : List Value} (h : Vl w B A n c xs) {p : Nat} (hp : p ≤ n) : Vl w B (if c = p then A else A.map (·.add p)) (n - p) (c - p) (xs.drop p) := by
  refine ⟨by rw [List.length_drop, h.1], by have := h.2.1; omega, fun hA => ?_, fun hn => ?_⟩
  · split at hA
    · omega
    · have := h.2.2.1 (by simpa using hA); omega
  · obtain ⟨ad, rfl, hlt, hc⟩ := h.2.2.2 (by omega)
    have := h.2.1
    rw [if_neg (by omega)]
    refine ⟨ad.add p, rfl, by rw [addr_block]; exact hlt, fun j u hu => ?_⟩
    rw [addr_add_add]
    exact hc _ u (by rw [← hu, List.getElem?_drop])

theorem wpList_append_vl {P : Program} (w : World) {ops : Array Oper} {rest : List Oper} {o : Oper} {a : Act} {Q : Exit → Act → World → Prop} (hgd : o.guard = none) (s x : Operand) (t : TypeId)
    (ho : o.op = .call { callee := .builtin .append, args := #[s, x], argTypes := #[t, t] })
    (base : Nat) (e : TypeId) (i : TypeInfo) (z : Value) (bytes : Nat) (ht : P.underlying t = some (.slice e)) (hi : P.info? e = some i) (hz : i.zero = some z)
    (hsize : i.size = 1) (hby : i.bytes = bytes) (hzs : z.cells.size = 1)
    (v : Value) (n : Nat) (xs : List Value) (hs : a.eval s = v) (hown : w.ownsRow base e 1 v n xs)
    (B : Nat) (A : Option Addr) (m c : Nat) (news : List Value) (hx : a.eval x = .slice A m c) (hr : Vl w B A m c news) (h1 : ∀ u ∈ news, u.oneCell' = true)
    (h63 : n + m ≤ maxLen) (hbytes : (n + m) * bytes ≤ 140737488355328) (hbase : base ≤ w.heap.size)
    (h : ∀ v' w', w'.ownsRow base e 1 v' (n + m) (xs ++ news) → w.grownBy w' v.ownBlock → (v'.ownBlock = v.ownBlock ∨ v'.ownBlock = some w.heap.size) → wpList P ops Q rest (a.put o.dst v') w') :
    wpList P ops Q (o :: rest) a w := by
  cases A with
  | some ad =>
    refine wpList_append_own_at w hgd s x t ho base e i z 1 bytes ht hi hz hsize hby hzs (by omega) v n xs hs hown ad m c news hx (by rw [hr.1]; omega) ?_ h1 h63 hbytes hbase (fun v' w' h2 h3 _ h5 => h v' w' h2 h3 h5)
    intro j u hu
    have hj := (List.getElem?_eq_some_iff.1 hu).1
    obtain ⟨ad', e1, _, hc⟩ := hr.2.2.2 (by have := hr.1; omega)
    injection e1 with e1
    subst e1
    exact hc j u hu
  | none =>
    have hm : m = 0 := by
      rcases Nat.eq_zero_or_pos m with h0 | h0
      · exact h0
      · obtain ⟨ad, h, _⟩ := hr.2.2.2 h0
        cases h
    have hc0 := hr.2.2.1 rfl
    subst hm hc0
    have hn : news = [] := List.eq_nil_of_length_eq_zero hr.1
    subst hn
    refine wpList_plain hgd fun K hK => ?_
    have hrun := run_append_owned_none (P := P) w base t o.type e i 1 ht hi v n xs hown
    unfold Oper.wp execOp
    simp only [ho, resolve, invoke, builtin, Sem.run_bind, Sem.run_pure, Result.andThen_ok, List.map_toArray, List.map_cons, List.map_nil, hs, hx, hrun]
    exact hK _ _ (h v w (by simpa using hown) (World.grownBy.refl w _) (.inl rfl))

/-- Two owned rows of different element types never share a block. -/
theorem own_apart {w : World} {base base' n n' : Nat} {e e' : TypeId} {v v' : Value} {xs xs' : List Value} (h : w.ownsRow base e 1 v n xs) (h' : w.ownsRow base' e' 1 v' n' xs') (hne : e ≠ e') : v.ownBlock = none ∨ v.ownBlock ≠ v'.ownBlock := by
  rcases h.2 with ⟨rfl, _⟩ | ⟨g, cap, cur, rfl, _, hg, _⟩
  · left; rfl
  · rcases h'.2 with ⟨rfl, _⟩ | ⟨g', cap', cur', rfl, _, hg', _⟩
    · right; simp [Value.ownBlock]
    · right
      intro e1
      have e2 : g = g' := by simpa [Value.ownBlock] using e1
      subst e2
      rw [hg] at hg'
      injection hg' with e3
      injection e3 with _ e4
      exact hne e4

theorem nil_one : ∀ u ∈ [Value.slice none 0 0], u.oneCell' = true := by intro u hu; simp at hu; subst hu; rfl
theorem one_app {l m : List Value} (h1 : ∀ u ∈ l, u.oneCell' = true) (h2 : ∀ u ∈ m, u.oneCell' = true) : ∀ u ∈ l ++ m, u.oneCell' = true := fun u hu => (List.mem_append.1 hu).elim (h1 u) (h2 u)

set_option maxRecDepth 100000 in
set_option maxHeartbeats 1600000 in
theorem opened_any (A1 A2 : Option Addr) (n c1 c2 p : Nat) (k : Int) (xs ys : List Value) (hn : n ≤ 200) (hp : p ≤ n) (w : World) (h1 : Vl w w.heap.size A1 n c1 xs) (h2 : Vl w w.heap.size A2 n c2 ys)
    (o1 : ∀ u ∈ xs, u.oneCell' = true) (o2 : ∀ u ∈ ys, u.oneCell' = true) :
    Calls Try.prog 72 #[.slice A1 n c1, .slice A2 n c2, .int .i64 p, .int .i64 k] w fun e w' => ∃ v1 v2, e = .returned (.tuple #[v1, v2]) ∧
      w'.ownsRow w.heap.size 3 1 v1 (n + 1) (xs.take p ++ [.int .i64 k] ++ xs.drop p) ∧ w'.ownsRow w.heap.size 31 1 v2 (n + 1) (ys.take p ++ [.slice none 0 0] ++ ys.drop p) ∧ Below w.heap.size w w' := by
  obtain ⟨i0, hi, hz0, hz1, hz2⟩ := info_parts Try.infoInt
  obtain ⟨j0, ji, jz0, jz1, jz2⟩ := info_parts Try.infoInts
  have HNE : (3 : TypeId) ≠ 31 := by decide
  have hc1 := h1.2.1
  have hc2 := h2.2.1
  have H1 := Lib.hid h1
  have H2 := Lib.hid h2
  have O1 := Lib.hid o1
  have O2 := Lib.hid o2
  clear h1 h2 o1 o2
  go_enter Try.func72, Try.ntmps72
  go_wp2_with (first | (at_builtin; refine wpList_append_vl _ rfl (.tmp 12) (.tmp 15) _ rfl w.heap.size 3 i0 (.int .i64 0) 8 Try.underlying31 hi hz0 hz1 hz2 rfl _ 0 [] rfl (World.ownsRow_nil w w.heap.size 3 1) w.heap.size A1 p c1 (xs.take p) rfl (H1.out.take hp) (fun u hu => O1.out u (List.mem_of_mem_take hu)) (by unfold maxLen; omega) (by omega) (Nat.le_refl _) ?_; intro v1 w1 a1 g1 l1; have B1 := Lib.hid (grown_below (World.ownsRow_nil w w.heap.size 3 1) (Below.refl _ _) g1); have A1' := Lib.hid a1; clear a1 g1 l1) | (at_builtin; refine wpList_append_own_at _ rfl (.tmp 17) (.tmp 19) _ rfl w.heap.size 3 i0 (.int .i64 0) 1 8 Try.underlying31 hi hz0 hz1 hz2 rfl (by decide) _ _ _ rfl (A1'.out.alloc _) ⟨w1.heap.size, 0, none⟩ 1 1 [.int .i64 k] rfl rfl (cell_one_new _ _ _) (ints_oneCell .i64 [k]) (by unfold maxLen; omega) (by omega) (below_alloc B1.out _).size ?_; intro v2 w2 a2 g2 m2 l2; have B2 := Lib.hid (grown_below (A1'.out.alloc _) (below_alloc B1.out _) g2); have A2' := Lib.hid a2; clear a2 g2 m2 l2) | (at_builtin; refine wpList_append_vl _ rfl (.tmp 21) (.tmp 24) _ rfl w.heap.size 3 i0 (.int .i64 0) 8 Try.underlying31 hi hz0 hz1 hz2 rfl _ _ _ rfl A2'.out w.heap.size _ _ _ (xs.drop p) rfl ((H1.out.keep B2.out).cut hp) (fun u hu => O1.out u (List.mem_of_mem_drop hu)) (by unfold maxLen; omega) (by omega) B2.out.size ?_; intro v3 w3 a3 g3 l3; have B3 := Lib.hid (grown_below A2'.out B2.out g3); have A3' := Lib.hid a3; clear a3 g3 l3) | (at_builtin; refine wpList_append_vl _ rfl (.tmp 26) (.tmp 29) _ rfl w.heap.size 31 j0 (.slice none 0 0) 24 Try.underlying57 ji jz0 jz1 jz2 rfl _ 0 [] rfl (World.ownsRow_nil w3 w.heap.size 31 1) w.heap.size A2 p c2 (ys.take p) rfl ((H2.out.keep B3.out).take hp) (fun u hu => O2.out u (List.mem_of_mem_take hu)) (by unfold maxLen; omega) (by omega) B3.out.size ?_; intro v4 w4 a4 g4 l4; have B4 := Lib.hid (grown_below (World.ownsRow_nil w3 w.heap.size 31 1) B3.out g4); have A4' := Lib.hid a4; have L4 := Lib.hid (A3'.out.kept g4 (own_apart A3'.out (World.ownsRow_nil w3 w.heap.size 31 1) HNE)); clear a4 g4 l4) | (at_builtin; refine wpList_append_own_at _ rfl (.tmp 31) (.tmp 32) _ rfl w.heap.size 31 j0 (.slice none 0 0) 1 24 Try.underlying57 ji jz0 jz1 jz2 rfl (by decide) v4 (0 + p) ([] ++ ys.take p) rfl (A4'.out.alloc _) ⟨w4.heap.size, 0, none⟩ 1 1 [.slice none 0 0] rfl rfl (cell_one_new _ _ _) nil_one (by unfold maxLen; omega) (by omega) (below_alloc B4.out _).size ?_; intro v5 w5 a5 g5 m5 l5; have B5 := Lib.hid (grown_below (A4'.out.alloc _) (below_alloc B4.out _) g5); have A5' := Lib.hid a5; have L5 := Lib.hid ((L4.out.alloc (.cells #[.slice none 0 0] 31)).kept g5 (own_apart (L4.out.alloc (.cells #[.slice none 0 0] 31)) (A4'.out.alloc (.cells #[.slice none 0 0] 31)) HNE)); clear a5 g5 m5 l5) | (at_builtin; refine wpList_append_vl _ rfl (.tmp 34) (.tmp 37) _ rfl w.heap.size 31 j0 (.slice none 0 0) 24 Try.underlying57 ji jz0 jz1 jz2 rfl v5 (0 + p + 1) ([] ++ ys.take p ++ [.slice none 0 0]) rfl A5'.out w.heap.size _ _ _ (ys.drop p) rfl ((H2.out.keep B5.out).cut hp) (fun u hu => O2.out u (List.mem_of_mem_drop hu)) (by unfold maxLen; omega) (by omega) B5.out.size ?_; intro v6 w6 a6 g6 l6; have B6 := Lib.hid (grown_below A5'.out B5.out g6); have A6' := Lib.hid a6; have L6 := Lib.hid (L5.out.kept g6 (own_apart L5.out A5'.out HNE)); clear a6 g6 l6))
  all_goals
    go_ret2
    have e1 : 0 + p + 1 + (n - p) = n + 1 := by omega
    have R1 := L6.out
    have R2 := A6'.out
    rw [e1] at R1 R2
    exact ⟨v3, v6, rfl, by simpa using R1, by simpa using R2, B6.out⟩

end Go.Proofs.Ytnjjkcnokkhlkaa
