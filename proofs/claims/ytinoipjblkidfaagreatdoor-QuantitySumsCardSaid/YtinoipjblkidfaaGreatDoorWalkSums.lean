/- The law that sums of lists agree with the reference in any order and that sums of parts add up: its walk. -/
import Derived.Test.YtinoipjblkidfaaGreatDoorC18
import Derived.Deep.RegionWith
/- Rows of strings that a call makes. -/
namespace Go.Proofs.YtinoipjblkidfaaGreatDoor
open Go.RowKit Go.Proofs.YtinoipjblkidfaaGreatDoor.Dg Go.Proofs.YtinoipjblkidfaaGreatDoor.Q Go.Proofs.YtinoipjblkidfaaGreatDoor.Num

theorem wpList_append_vw {P : Program} (w : World) {ops : Array Oper} {rest : List Oper} {o : Oper} {a : Act} {Q : Exit → Act → World → Prop} (hgd : o.guard = none) (s x : Operand) (t : TypeId)
    (ho : o.op = .call { callee := .builtin .append, args := #[s, x], argTypes := #[t, t] })
    (base : Nat) (e : TypeId) (i : TypeInfo) (z : Value) (bytes : Nat) (ht : P.underlying t = some (.slice e)) (hi : P.info? e = some i) (hz : i.zero = some z)
    (hsize : i.size = 1) (hby : i.bytes = bytes) (hzs : z.cells.size = 1)
    (v : Value) (n : Nat) (xs : List Value) (hs : a.eval s = v) (hown : w.ownsRow base e 1 v n xs)
    (B : Nat) (A : Option Addr) (m c : Nat) (news : List Value) (hx : a.eval x = .slice A m c) (hr : Vw w B A m c 1 news) (h1 : ∀ u ∈ news, u.oneCell' = true)
    (h63 : n + m ≤ maxLen) (hbytes : (n + m) * bytes ≤ 140737488355328) (hbase : base ≤ w.heap.size)
    (h : ∀ v' w', w'.ownsRow base e 1 v' (n + m) (xs ++ news) → w.grownBy w' v.ownBlock → wpList P ops Q rest (a.put o.dst v') w') :
    wpList P ops Q (o :: rest) a w := by
  cases A with
  | some ad =>
    refine wpList_append_own_at w hgd s x t ho base e i z 1 bytes ht hi hz hsize hby hzs (by omega) v n xs hs hown ad m c news hx hr.1 ?_ h1 h63 hbytes hbase (fun v' w' h2 h3 _ _ => h v' w' h2 h3)
    intro j u hu
    have hj := (List.getElem?_eq_some_iff.1 hu).1
    obtain ⟨b, off, e1, _, hc⟩ := hr.2.2.2 (by have := hr.1; omega)
    injection e1 with e1
    subst e1
    rw [addr_add_none]
    exact hc j u hu
  | none =>
    have hm : m = 0 := by
      rcases Nat.eq_zero_or_pos m with h0 | h0
      · exact h0
      · obtain ⟨b, off, h, _⟩ := hr.2.2.2 h0
        cases h
    have hc0 := hr.2.2.1 rfl
    subst hm hc0
    have hn : news = [] := List.eq_nil_of_length_eq_zero (by simpa using hr.1)
    subst hn
    refine wpList_plain hgd fun K hK => ?_
    have hrun := run_append_owned_none (P := P) w base t o.type e i 1 ht hi v n xs hown
    unfold Oper.wp execOp
    simp only [ho, resolve, invoke, builtin, Sem.run_bind, Sem.run_pure, Result.andThen_ok, List.map_toArray, List.map_cons, List.map_nil, hs, hx, hrun]
    exact hK _ _ (h v w (by simpa using hown) ⟨rfl, rfl, rfl, Nat.le_refl _, fun _ _ _ => rfl⟩)
/-- A row of strings that the call makes. -/
def RowS (w wr : World) (v : Value) (ls : List ByteArray) : Prop := wr.ownsRow w.heap.size 9 1 v ls.length (ls.map Value.string) ∧ Below w.heap.size w wr
theorem RowS.start (w : World) : RowS w w (.slice none 0 0) [] := ⟨World.ownsRow_nil _ _ _ _, Below.refl _ _⟩
theorem RowS.up {w w1 w2 : World} {v : Value} {ls : List ByteArray} (h : RowS w w1 v ls) (hb : Below w1.heap.size w1 w2) : RowS w w2 v ls := ⟨ownM_below h.1 hb, btrans h.2 hb⟩
theorem RowS.b {w w1 : World} {v : Value} {ls : List ByteArray} (h : RowS w w1 v ls) : Below w.heap.size w w1 := h.2
theorem cell1_new (w : World) (a : Value) (t : TypeId) : ∀ j u, [a][j]? = some u → (w.alloc (.cells #[a] t)).cell? ((⟨w.heap.size, 0, none⟩ : Addr).add j) = some u := by
  intro j u hj
  rw [addr_add_none, Nat.zero_add, (Bk.new w #[a] t).cell j, ← hj, List.getElem?_toArray]
theorem Tryz.infoStr1 : (Tryz.prog.info? 9).map (fun i => (i.zero, i.size, i.bytes)) = some (some (.string ⟨#[]⟩), 1, 16) := by kernel_rfl
end Go.Proofs.YtinoipjblkidfaaGreatDoor

/- The law that sums of lists agree with the reference in any order and that sums of parts add up: its walk. -/
namespace Go.Proofs.YtinoipjblkidfaaGreatDoor
open Go.RowKit Go.Proofs.YtinoipjblkidfaaGreatDoor.Dg Go.Proofs.YtinoipjblkidfaaGreatDoor.Q Go.Proofs.YtinoipjblkidfaaGreatDoor.Num

theorem parts_add {a b c : Rat} (h : a + b = c) (h1 : put a ≠ []) (h2 : put b ≠ []) : bin dAdd (put a) (put b) = put c := by
  rcases put_cases a with e | ⟨_, e⟩
  · exact absurd e h1
  · rcases put_cases b with e' | ⟨_, e'⟩
    · exact absurd e' h2
    · rw [bin_of e e' (q := a + b) rfl, h]

set_option maxRecDepth 100000 in
set_option maxHeartbeats 12800000 in
theorem sums_walk (A : Option Addr) (n c : Nat) (ls : List ByteArray) (k : Int) (w : World) (hw : Wf w) (hV : Vw w w.heap.size A n c 1 (ls.map Value.string)) (hl : ls.length = n) (hs : ∀ S ∈ ls, S.size ≤ 9223372036854775807) (hn63 : n ≤ 9223372036854775807) (hk0 : 0 ≤ k) (hk1 : k ≤ 255) :
    Calls Tryz.prog 8 #[.slice A n c, .int .u8 k] w fun e w' => e = .returned (.bool true) ∧ Below w.heap.size w w' := by
  have AW := fun w' (hb : Below w.heap.size w w') => awake_any w' (hw.up hb)
  by_cases hn : 60 < n
  · have h1 : (60 : Int) < (n : Int) := by omega
    clear hV hs hk0 hk1 hw
    go_enter Tryz.func8, Tryz.ntmps8
    go_wp2_with (go_at_call 20; go_loud ((with_reducible refine (AW _ (Below.refl _ _)).mono ?_); rintro e w1 ⟨rfl, hb⟩; have b1 := Lib.hid hb; clear hb))
    go_ret
    exact ⟨rfl, b1.out⟩
  have hn60 : n ≤ 60 := by omega
  have hni : (n : Int) ≤ 60 := by omega
  have hni0 : (0 : Int) ≤ (n : Int) := by omega
  obtain ⟨p, hp⟩ : ∃ p : Nat, p = (if 0 < n then k.toNat % (n + 1) else 0) := ⟨_, rfl⟩
  have hpn : p ≤ n := by
    rw [hp]
    split
    · have : k.toNat % (n + 1) < n + 1 := Nat.mod_lt _ (by omega)
      omega
    · omega
  have hpi : (p : Int) ≤ (n : Int) := by omega
  have hp0 : (0 : Int) ≤ (p : Int) := by omega
  have hcap := hV.2.1
  have hci : (n : Int) ≤ (c : Int) := by omega
  have hpc : (p : Int) ≤ (c : Int) := by omega
  have hmod : 0 < n → k.tmod ((n : Int) + 1) = (p : Int) := by
    intro h0
    rw [hp, if_pos h0]
    obtain ⟨j, rfl⟩ := Int.eq_ofNat_of_zero_le hk0
    rw [show (n : Int) + 1 = ((n + 1 : Nat) : Int) by omega]
    rfl
  have hp00 : n = 0 → p = 0 := by intro h0; rw [hp, if_neg (by omega)]
  obtain ⟨i0, hi, hz0, hz1, hz2⟩ := info_parts Tryz.infoStr1
  have QS := fun (A' : Option Addr) (n' c' : Nat) (l' : List ByteArray) (w' : World) (hb : Below w.heap.size w w') (h1 : Vw w' w'.heap.size A' n' c' 1 (l'.map Value.string)) (h2 : l'.length = n') (h3 : n' ≤ 60) (h4 : ∀ S ∈ l', S.size ≤ 9223372036854775807) => qSum_any n' c' A' l' w' (hw.up hb) h1 h2 h3 h4
  have QL := fun w' (hb : Below w.heap.size w w') => QS A n c ls w' hb (hV.up hb) hl hn60 hs
  have RL := fun w' (hb : Below w.heap.size w w') => rSum_any n c A ls w' (hV.up hb) hl hn60 hs
  have HT := hV.take (p := p) hpn
  have HC := hV.cut (p := p) hpn
  rw [Nat.mul_one, ← List.map_take] at HT
  rw [Nat.mul_one, ← List.map_drop] at HC
  have QA := fun w' (hb : Below w.heap.size w w') => QS A p c (ls.take p) w' hb (HT.up hb) (by rw [List.length_take]; omega) (by omega) (fun S hS => hs S (List.mem_of_mem_take hS))
  have QB := fun w' (hb : Below w.heap.size w w') => QS _ (n - p) (c - p) (ls.drop p) w' hb (HC.up hb) (by rw [List.length_drop]; omega) (by omega) (fun S hS => hs S (List.mem_of_mem_drop hS))
  have hsum : sumT ((ls.take p).map bl) + sumT ((ls.drop p).map bl) = sumT (ls.map bl) := by rw [← sumT_append, ← List.map_append, List.take_append_drop]
  have hturn : sumT (((ls.drop p).reverse ++ ls.take p).map bl) = sumT (ls.map bl) := by
    rw [List.map_append, List.map_reverse, List.map_drop, List.map_take, sumT_turned]
  have HV := Lib.hid hV
  have HTk := Lib.hid HT
  have HS := Lib.hid hs
  have HSu := Lib.hid hsum
  have HTu := Lib.hid hturn
  clear hV HT HC hs hsum hturn hp hn63 hn
  have hnum : n = 0 ∨ 0 < n := by omega
  rcases hnum with h0 | h0
  · obtain rfl := hp00 h0
    subst h0
    obtain rfl : ls = [] := List.eq_nil_of_length_eq_zero hl
    have QN := fun w' (hb : Below w.heap.size w w') => QS none 0 0 [] w' hb ⟨rfl, Nat.le_refl _, fun _ => rfl, fun h => absurd h (by omega)⟩ rfl (by omega) (fun S h => by cases h)
    have PA := parts_add (a := sumT (List.map bl [])) (b := sumT (List.map bl [])) (c := sumT (List.map bl [])) (by decide +kernel) (by decide +kernel) (by decide +kernel)
    have hne : put (sumT (List.map bl [])) ≠ [] := by decide +kernel
    obtain ⟨S, hS⟩ : ∃ S : ByteArray, (⟨(put (sumT (List.map bl []))).toArray⟩ : ByteArray) = S := ⟨_, rfl⟩
    have bS : bl S = put (sumT (List.map bl [])) := by rw [← hS]; rfl
    have zS : S.size ≤ 9223372036854775807 := by rw [← bl_len, bS]; have := put_len (sumT (List.map bl [])); omega
    have AD := fun w' (hb : Below w.heap.size w w') => qAdd_any S S zS zS w' (hw.up hb)
    rw [bS, PA] at AD
    unfold GiveT at AD
    rw [hS] at AD QL RL QN
    have eS : S.toList.isEmpty = false := by rw [emptyS, bS]; exact decide_eq_false hne
    have sS : (S.toList == S.toList) = true := by rw [toList_eq]; exact decide_eq_true rfl
    clear hmod hp00 QA QB QS HSu HTu HTk PA hne hS bS zS hl hi hz0 hz1 hz2 HS
    cases A with
    | none =>
      obtain rfl : c = 0 := HV.out.2.2.1 rfl
      clear HV
      go_enter Tryz.func8, Tryz.ntmps8
      go_wp2
      refine wp_loop_rounds 1 ?_
      rw [rounds_succ]
      go_wp2_with (go_at_call 36; ((with_reducible refine (QL _ (Below.refl _ _)).mono ?_); rintro e w3 ⟨rfl, hb⟩; have b3 := Lib.hid hb; clear hb))
      have bd := Lib.hid (btrans b3.out (Below.drew (Below.refl _ _)))
      go_region_with (first
        | (go_at_call 36; ((with_reducible refine (QL _ b4.out).mono ?_); rintro e w5 ⟨rfl, hb⟩; have b5 := Lib.hid (btrans b4.out hb); clear hb))
        | (go_at_call 36; ((with_reducible refine (QL _ bd.out).mono ?_); rintro e w4 ⟨rfl, hb⟩; have b4 := Lib.hid (btrans bd.out hb); clear hb)))
      all_goals go_wp2_with (first
        | (go_at_call 20; ((with_reducible refine (AW _ b8.out).mono ?_); rintro e w9 ⟨rfl, hb⟩; have b9 := Lib.hid (btrans b8.out hb); clear hb))
        | (go_at_call 30; ((with_reducible refine (AD _ b7.out).mono ?_); rintro e w8 ⟨rfl, hb⟩; have b8 := Lib.hid (btrans b7.out hb); clear hb))
        | (go_at_call 36; ((with_reducible refine (QN _ b6.out).mono ?_); rintro e w7 ⟨rfl, hb⟩; have b7 := Lib.hid (btrans b6.out hb); clear hb))
        | (go_at_call 37; ((with_reducible refine (RL _ b5.out).mono ?_); rintro e w6 ⟨rfl, hb⟩; have b6 := Lib.hid (btrans b5.out hb); clear hb)))
      all_goals go_ret
      all_goals exact ⟨rfl, b9.out⟩
    | some ad =>
      clear HV
      have had : ad.add 0 = ad := rfl
      go_enter Tryz.func8, Tryz.ntmps8
      go_wp2
      refine wp_loop_rounds 1 ?_
      rw [rounds_succ]
      go_wp2_with (go_at_call 36; ((with_reducible refine (QL _ (Below.refl _ _)).mono ?_); rintro e w3 ⟨rfl, hb⟩; have b3 := Lib.hid hb; clear hb))
      have bd := Lib.hid (btrans b3.out (Below.drew (Below.refl _ _)))
      go_region_with (first
        | (go_at_call 36; ((with_reducible refine (QL _ b4.out).mono ?_); rintro e w5 ⟨rfl, hb⟩; have b5 := Lib.hid (btrans b4.out hb); clear hb))
        | (go_at_call 36; ((with_reducible refine (QL _ bd.out).mono ?_); rintro e w4 ⟨rfl, hb⟩; have b4 := Lib.hid (btrans bd.out hb); clear hb)))
      all_goals go_wp2_with (first
        | (go_at_call 20; ((with_reducible refine (AW _ b8.out).mono ?_); rintro e w9 ⟨rfl, hb⟩; have b9 := Lib.hid (btrans b8.out hb); clear hb))
        | (go_at_call 30; ((with_reducible refine (AD _ b7.out).mono ?_); rintro e w8 ⟨rfl, hb⟩; have b8 := Lib.hid (btrans b7.out hb); clear hb))
        | (go_at_call 36; ((with_reducible refine (QN _ b6.out).mono ?_); rintro e w7 ⟨rfl, hb⟩; have b7 := Lib.hid (btrans b6.out hb); clear hb))
        | (go_at_call 37; ((with_reducible refine (RL _ b5.out).mono ?_); rintro e w6 ⟨rfl, hb⟩; have b6 := Lib.hid (btrans b5.out hb); clear hb)))
      all_goals go_ret
      all_goals exact ⟨rfl, b9.out⟩
  · have hm := hmod h0
    have h0i : (0 : Int) < (n : Int) := by omega
    clear hmod hp00
    go_enter Tryz.func8, Tryz.ntmps8
    go_wp2
    go_loopw [6, 7] (fun v i wr => ∃ (m : Nat) (z : Int), m ≤ n - p ∧ i = .int .i64 z ∧ z = (n : Int) - 1 - (m : Int) ∧ Hid (RowS w wr v (ls.drop (n - m)).reverse)) (fun _ i _ => (intOf i + 1 - p).toNat)
    case atStart => exact ⟨0, _, Nat.zero_le _, rfl, by omega, Lib.hid (by rw [Nat.sub_zero, List.drop_of_length_le (by omega)]; exact RowS.start w)⟩
    case round =>
      obtain ⟨m, z, hm', rfl, hz, hR⟩ := hrel
      by_cases hmp : m < n - p
      · obtain ⟨j, hj⟩ : ∃ j : Nat, j + 1 + m = n := ⟨n - 1 - m, by omega⟩
        obtain rfl : z = (j : Int) := by omega
        obtain ⟨b, off, rfl, hlt, hc⟩ := HV.out.2.2.2 (by omega)
        have hjl : j < ls.length := by omega
        obtain ⟨T, hT⟩ : ∃ T, ls[j]? = some T := ⟨ls[j], List.getElem?_eq_getElem hjl⟩
        have hcell := hc j (.string T) (by rw [List.getElem?_map, hT]; rfl)
        have hcw := (hR.out.b.cell (p := ⟨b, off + j, none⟩) hlt).trans hcell
        have hj0 : (0 : Int) ≤ (j : Int) := by omega
        have hj1 : (j : Int) < (n : Int) := by omega
        have hjp : (p : Int) ≤ (j : Int) := by omega
        have hrl : (ls.drop (n - m)).reverse.length ≤ 60 := by rw [List.length_reverse, List.length_drop]; omega
        have hnx : (ls.drop (n - (m + 1))).reverse = (ls.drop (n - m)).reverse ++ [T] := by
          have e : n - (m + 1) = j := by omega
          have e2 : n - m = j + 1 := by omega
          rw [e, e2, List.drop_eq_getElem_cons hjl, List.reverse_cons]
          rw [List.getElem?_eq_getElem hjl] at hT
          injection hT with hT
          rw [hT]
        have HN := Lib.hid hnx
        have HJ := Lib.hid hj
        clear hc hcell hT hnx hmp QA QB QL RL hz hj
        generalize (ls.drop (n - m)).reverse = rs at *
        go_wp2_with (at_builtin; go_loud (refine wpList_append_own_at _ rfl (.tmp 32) (.tmp 37) _ rfl w.heap.size 9 i0 (.string ⟨#[]⟩) 1 16 Tryz.underlying42 hi hz0 hz1 hz2 rfl (by decide) _ _ _ rfl (ownM_below hR.out.1 ((Below.refl _ _).alloc (Nat.le_refl _) _)) ⟨wr.heap.size, 0, none⟩ 1 1 [.string T] rfl rfl (cell1_new _ _ _) (by simp [Value.oneCell']) (by unfold maxLen; omega) (by omega) (below_alloc hR.out.b _).size ?_; intro v2 w2 a2 a3 _ _; have rb := Lib.hid (show RowS w w2 v2 (rs ++ [T]) from ⟨by rw [List.length_append, List.map_append]; exact a2, grownM_below (ownM_below hR.out.1 ((Below.refl _ _).alloc (Nat.le_refl _) _)) (below_alloc hR.out.b _) a3⟩)))
        go_roundw
        case rel => exact ⟨m + 1, (j : Int) - 1, by have := HJ.out; omega, by first | rfl | go_num, by have := HJ.out; omega, Lib.hid (by rw [HN.out]; exact rb.out)⟩
        case measure => simp only [intOf]; omega
      · obtain rfl : m = n - p := by omega
        obtain rfl : z = (p : Int) - 1 := by omega
        clear hz hmp
        rw [show n - (n - p) = p by omega] at hR
        have hrl : (ls.drop p).reverse.length = n - p := by rw [List.length_reverse, List.length_drop, hl]
        have hlen : ((ls.drop p).reverse ++ ls.take p).length = (ls.drop p).reverse.length + p := by rw [List.length_append, List.length_take]; omega
        have QT := fun (A9 : Option Addr) (c9 : Nat) (w' : World) (hb : Below w.heap.size w w') hv => QS A9 ((ls.drop p).reverse.length + p) c9 ((ls.drop p).reverse ++ ls.take p) w' hb hv hlen (by omega) (fun S hS => HS.out S (by
          rcases List.mem_append.1 hS with h | h
          · exact List.mem_of_mem_drop (List.mem_reverse.1 h)
          · exact List.mem_of_mem_take h))
        rw [HTu.out] at QT
        obtain ⟨a, ha⟩ : ∃ a, sumT ((ls.take p).map bl) = a := ⟨_, rfl⟩
        obtain ⟨b, hb⟩ : ∃ b, sumT ((ls.drop p).map bl) = b := ⟨_, rfl⟩
        obtain ⟨s, hs⟩ : ∃ s, sumT (ls.map bl) = s := ⟨_, rfl⟩
        have PA := parts_add HSu.out
        rw [ha, hb, hs] at PA
        rw [ha] at QA
        rw [hb] at QB
        rw [hs] at QL RL QT
        have HTm := Lib.hid (show Vw w w.heap.size A p c 1 ((ls.take p).map Value.string) from HTk.out)
        clear ha hb hs HSu HTu HTk QS
        obtain ⟨SA, hSA⟩ : ∃ S : ByteArray, (⟨(put a).toArray⟩ : ByteArray) = S := ⟨_, rfl⟩
        obtain ⟨SB, hSB⟩ : ∃ S : ByteArray, (⟨(put b).toArray⟩ : ByteArray) = S := ⟨_, rfl⟩
        obtain ⟨SS, hSS⟩ : ∃ S : ByteArray, (⟨(put s).toArray⟩ : ByteArray) = S := ⟨_, rfl⟩
        have bA : bl SA = put a := by rw [← hSA]; rfl
        have bB : bl SB = put b := by rw [← hSB]; rfl
        have zA : SA.size ≤ 9223372036854775807 := by rw [← bl_len, bA]; have := put_len a; omega
        have zB : SB.size ≤ 9223372036854775807 := by rw [← bl_len, bB]; have := put_len b; omega
        have AD := fun w' (hb : Below w.heap.size w w') => qAdd_any SA SB zA zB w' (hw.up hb)
        rw [bA, bB] at AD
        have eA : SA.toList.isEmpty = decide (put a = []) := by rw [emptyS, bA]
        have eB : SB.toList.isEmpty = decide (put b = []) := by rw [emptyS, bB]
        have sS : (SS.toList == SS.toList) = true := by rw [toList_eq]; exact decide_eq_true rfl
        rw [hSA] at QA
        rw [hSB] at QB
        rw [hSS] at QL RL QT
        have hA9 : ∀ u ∈ (ls.take p).map Value.string, u.oneCell' = true := by
          intro u hu
          obtain ⟨S, _, rfl⟩ := List.mem_map.1 hu
          rfl
        have HB9 := Lib.hid hA9
        have HR9 := Lib.hid hrl
        clear hSA hSB zA zB bA bB hA9 hlen
        clear hrl
        generalize (ls.drop p).reverse = rs at *
        have hrs : rs.length ≤ 60 := by have := HR9.out; omega
        obtain ⟨b0, off, rfl, _, _⟩ := HV.out.2.2.2 (by omega)
        rw [Option.map_some, addr_add_none] at QB
        by_cases hcp : c = p
        · subst hcp
          rw [if_pos rfl, Nat.sub_self, show n - c = 0 by omega] at QB
          go_wp2_with (first
            | (go_at_call 36; go_loud ((with_reducible refine (QL _ b2.out).mono ?_); rintro e w3 ⟨rfl, hb⟩; have b3 := Lib.hid (btrans b2.out hb); have V3 := Lib.hid (V2.out.up hb); clear hb))
            | (at_builtin; go_loud (refine wpList_append_vw _ rfl (.tmp 39) (.tmp 42) _ rfl w.heap.size 9 i0 (.string ⟨#[]⟩) 16 Tryz.underlying42 hi hz0 hz1 hz2 rfl _ _ _ rfl hR.out.1 w.heap.size _ _ _ _ rfl (HTm.out.keep hR.out.b) HB9.out (by unfold maxLen; omega) (by omega) hR.out.b.size ?_; intro v2 w2 a2 a3; rw [← List.map_append] at a2; obtain ⟨A9, c9, rfl, hVt⟩ := Vw.own a2; have b2 := Lib.hid (grownM_below hR.out.1 hR.out.b a3); have V2 := Lib.hid hVt; clear a2 a3 hVt)))
          by_cases hA : put a = []
          · rw [decide_eq_true hA] at eA
            clear AD PA hA
            have bd := Lib.hid (btrans b3.out (Below.drew (Below.refl _ _)))
            have Vd := Lib.hid (V3.out.up (Below.drew (Below.refl _ _)))
            go_region_with (first
              | (go_at_call 36; ((with_reducible refine (QB _ b4.out).mono ?_); rintro e w5 ⟨rfl, hb⟩; have b5 := Lib.hid (btrans b4.out hb); have V5 := Lib.hid (V4.out.up hb); clear hb))
              | (go_at_call 36; ((with_reducible refine (QA _ b4.out).mono ?_); rintro e w5 ⟨rfl, hb⟩; have b5 := Lib.hid (btrans b4.out hb); have V5 := Lib.hid (V4.out.up hb); clear hb))
              | (go_at_call 36; ((with_reducible refine (QA _ bd.out).mono ?_); rintro e w4 ⟨rfl, hb⟩; have b4 := Lib.hid (btrans bd.out hb); have V4 := Lib.hid (Vd.out.up hb); clear hb))
              | (go_at_call 36; ((with_reducible refine (QB _ bd.out).mono ?_); rintro e w4 ⟨rfl, hb⟩; have b4 := Lib.hid (btrans bd.out hb); have V4 := Lib.hid (Vd.out.up hb); clear hb)))
            all_goals go_wp2_with (first
              | (go_at_call 20; ((with_reducible refine (AW _ b7.out).mono ?_); rintro e w9 ⟨rfl, hb⟩; have b9 := Lib.hid (btrans b7.out hb); clear hb))
              | (go_at_call 36; ((with_reducible refine (QT _ _ _ b6.out V6.out).mono ?_); rintro e w7 ⟨rfl, hb⟩; have b7 := Lib.hid (btrans b6.out hb); clear hb))
              | (go_at_call 37; ((with_reducible refine (RL _ b5.out).mono ?_); rintro e w6 ⟨rfl, hb⟩; have b6 := Lib.hid (btrans b5.out hb); have V6 := Lib.hid (V5.out.up hb); clear hb)))
            all_goals go_ret
            all_goals exact ⟨rfl, b9.out⟩
          · by_cases hB : put b = []
            · rw [decide_eq_false hA] at eA
              rw [decide_eq_true hB] at eB
              clear AD PA hA hB
              have bd := Lib.hid (btrans b3.out (Below.drew (Below.refl _ _)))
              have Vd := Lib.hid (V3.out.up (Below.drew (Below.refl _ _)))
              go_region_with (first
                | (go_at_call 36; ((with_reducible refine (QB _ b4.out).mono ?_); rintro e w5 ⟨rfl, hb⟩; have b5 := Lib.hid (btrans b4.out hb); have V5 := Lib.hid (V4.out.up hb); clear hb))
                | (go_at_call 36; ((with_reducible refine (QA _ b4.out).mono ?_); rintro e w5 ⟨rfl, hb⟩; have b5 := Lib.hid (btrans b4.out hb); have V5 := Lib.hid (V4.out.up hb); clear hb))
                | (go_at_call 36; ((with_reducible refine (QA _ bd.out).mono ?_); rintro e w4 ⟨rfl, hb⟩; have b4 := Lib.hid (btrans bd.out hb); have V4 := Lib.hid (Vd.out.up hb); clear hb))
                | (go_at_call 36; ((with_reducible refine (QB _ bd.out).mono ?_); rintro e w4 ⟨rfl, hb⟩; have b4 := Lib.hid (btrans bd.out hb); have V4 := Lib.hid (Vd.out.up hb); clear hb)))
              all_goals go_wp2_with (first
                | (go_at_call 20; ((with_reducible refine (AW _ b7.out).mono ?_); rintro e w9 ⟨rfl, hb⟩; have b9 := Lib.hid (btrans b7.out hb); clear hb))
                | (go_at_call 36; ((with_reducible refine (QT _ _ _ b6.out V6.out).mono ?_); rintro e w7 ⟨rfl, hb⟩; have b7 := Lib.hid (btrans b6.out hb); clear hb))
                | (go_at_call 37; ((with_reducible refine (RL _ b5.out).mono ?_); rintro e w6 ⟨rfl, hb⟩; have b6 := Lib.hid (btrans b5.out hb); have V6 := Lib.hid (V5.out.up hb); clear hb)))
              all_goals go_ret
              all_goals exact ⟨rfl, b9.out⟩
            · rw [decide_eq_false hA] at eA
              rw [decide_eq_false hB] at eB
              rw [PA hA hB] at AD
              unfold GiveT at AD
              rw [hSS] at AD
              clear PA hA hB
              have bd := Lib.hid (btrans b3.out (Below.drew (Below.refl _ _)))
              have Vd := Lib.hid (V3.out.up (Below.drew (Below.refl _ _)))
              go_region_with (first
                | (go_at_call 36; ((with_reducible refine (QB _ b4.out).mono ?_); rintro e w5 ⟨rfl, hb⟩; have b5 := Lib.hid (btrans b4.out hb); have V5 := Lib.hid (V4.out.up hb); clear hb))
                | (go_at_call 36; ((with_reducible refine (QA _ b4.out).mono ?_); rintro e w5 ⟨rfl, hb⟩; have b5 := Lib.hid (btrans b4.out hb); have V5 := Lib.hid (V4.out.up hb); clear hb))
                | (go_at_call 36; ((with_reducible refine (QA _ bd.out).mono ?_); rintro e w4 ⟨rfl, hb⟩; have b4 := Lib.hid (btrans bd.out hb); have V4 := Lib.hid (Vd.out.up hb); clear hb))
                | (go_at_call 36; ((with_reducible refine (QB _ bd.out).mono ?_); rintro e w4 ⟨rfl, hb⟩; have b4 := Lib.hid (btrans bd.out hb); have V4 := Lib.hid (Vd.out.up hb); clear hb)))
              all_goals go_wp2_with (first
                | (go_at_call 20; ((with_reducible refine (AW _ b8.out).mono ?_); rintro e w9 ⟨rfl, hb⟩; have b9 := Lib.hid (btrans b8.out hb); clear hb))
                | (go_at_call 30; ((with_reducible refine (AD _ b7.out).mono ?_); rintro e w8 ⟨rfl, hb⟩; have b8 := Lib.hid (btrans b7.out hb); clear hb))
                | (go_at_call 36; ((with_reducible refine (QT _ _ _ b6.out V6.out).mono ?_); rintro e w7 ⟨rfl, hb⟩; have b7 := Lib.hid (btrans b6.out hb); clear hb))
                | (go_at_call 37; ((with_reducible refine (RL _ b5.out).mono ?_); rintro e w6 ⟨rfl, hb⟩; have b6 := Lib.hid (btrans b5.out hb); have V6 := Lib.hid (V5.out.up hb); clear hb)))
              all_goals go_ret
              all_goals exact ⟨rfl, b9.out⟩
        · rw [if_neg hcp] at QB
          go_wp2_with (first
            | (go_at_call 36; go_loud ((with_reducible refine (QL _ b2.out).mono ?_); rintro e w3 ⟨rfl, hb⟩; have b3 := Lib.hid (btrans b2.out hb); have V3 := Lib.hid (V2.out.up hb); clear hb))
            | (at_builtin; go_loud (refine wpList_append_vw _ rfl (.tmp 39) (.tmp 42) _ rfl w.heap.size 9 i0 (.string ⟨#[]⟩) 16 Tryz.underlying42 hi hz0 hz1 hz2 rfl _ _ _ rfl hR.out.1 w.heap.size _ _ _ _ rfl (HTm.out.keep hR.out.b) HB9.out (by unfold maxLen; omega) (by omega) hR.out.b.size ?_; intro v2 w2 a2 a3; rw [← List.map_append] at a2; obtain ⟨A9, c9, rfl, hVt⟩ := Vw.own a2; have b2 := Lib.hid (grownM_below hR.out.1 hR.out.b a3); have V2 := Lib.hid hVt; clear a2 a3 hVt)))
          by_cases hA : put a = []
          · rw [decide_eq_true hA] at eA
            clear AD PA hA
            have bd := Lib.hid (btrans b3.out (Below.drew (Below.refl _ _)))
            have Vd := Lib.hid (V3.out.up (Below.drew (Below.refl _ _)))
            go_region_with (first
              | (go_at_call 36; ((with_reducible refine (QB _ b4.out).mono ?_); rintro e w5 ⟨rfl, hb⟩; have b5 := Lib.hid (btrans b4.out hb); have V5 := Lib.hid (V4.out.up hb); clear hb))
              | (go_at_call 36; ((with_reducible refine (QA _ b4.out).mono ?_); rintro e w5 ⟨rfl, hb⟩; have b5 := Lib.hid (btrans b4.out hb); have V5 := Lib.hid (V4.out.up hb); clear hb))
              | (go_at_call 36; ((with_reducible refine (QA _ bd.out).mono ?_); rintro e w4 ⟨rfl, hb⟩; have b4 := Lib.hid (btrans bd.out hb); have V4 := Lib.hid (Vd.out.up hb); clear hb))
              | (go_at_call 36; ((with_reducible refine (QB _ bd.out).mono ?_); rintro e w4 ⟨rfl, hb⟩; have b4 := Lib.hid (btrans bd.out hb); have V4 := Lib.hid (Vd.out.up hb); clear hb)))
            all_goals go_wp2_with (first
              | (go_at_call 20; ((with_reducible refine (AW _ b7.out).mono ?_); rintro e w9 ⟨rfl, hb⟩; have b9 := Lib.hid (btrans b7.out hb); clear hb))
              | (go_at_call 36; ((with_reducible refine (QT _ _ _ b6.out V6.out).mono ?_); rintro e w7 ⟨rfl, hb⟩; have b7 := Lib.hid (btrans b6.out hb); clear hb))
              | (go_at_call 37; ((with_reducible refine (RL _ b5.out).mono ?_); rintro e w6 ⟨rfl, hb⟩; have b6 := Lib.hid (btrans b5.out hb); have V6 := Lib.hid (V5.out.up hb); clear hb)))
            all_goals go_ret
            all_goals exact ⟨rfl, b9.out⟩
          · by_cases hB : put b = []
            · rw [decide_eq_false hA] at eA
              rw [decide_eq_true hB] at eB
              clear AD PA hA hB
              have bd := Lib.hid (btrans b3.out (Below.drew (Below.refl _ _)))
              have Vd := Lib.hid (V3.out.up (Below.drew (Below.refl _ _)))
              go_region_with (first
                | (go_at_call 36; ((with_reducible refine (QB _ b4.out).mono ?_); rintro e w5 ⟨rfl, hb⟩; have b5 := Lib.hid (btrans b4.out hb); have V5 := Lib.hid (V4.out.up hb); clear hb))
                | (go_at_call 36; ((with_reducible refine (QA _ b4.out).mono ?_); rintro e w5 ⟨rfl, hb⟩; have b5 := Lib.hid (btrans b4.out hb); have V5 := Lib.hid (V4.out.up hb); clear hb))
                | (go_at_call 36; ((with_reducible refine (QA _ bd.out).mono ?_); rintro e w4 ⟨rfl, hb⟩; have b4 := Lib.hid (btrans bd.out hb); have V4 := Lib.hid (Vd.out.up hb); clear hb))
                | (go_at_call 36; ((with_reducible refine (QB _ bd.out).mono ?_); rintro e w4 ⟨rfl, hb⟩; have b4 := Lib.hid (btrans bd.out hb); have V4 := Lib.hid (Vd.out.up hb); clear hb)))
              all_goals go_wp2_with (first
                | (go_at_call 20; ((with_reducible refine (AW _ b7.out).mono ?_); rintro e w9 ⟨rfl, hb⟩; have b9 := Lib.hid (btrans b7.out hb); clear hb))
                | (go_at_call 36; ((with_reducible refine (QT _ _ _ b6.out V6.out).mono ?_); rintro e w7 ⟨rfl, hb⟩; have b7 := Lib.hid (btrans b6.out hb); clear hb))
                | (go_at_call 37; ((with_reducible refine (RL _ b5.out).mono ?_); rintro e w6 ⟨rfl, hb⟩; have b6 := Lib.hid (btrans b5.out hb); have V6 := Lib.hid (V5.out.up hb); clear hb)))
              all_goals go_ret
              all_goals exact ⟨rfl, b9.out⟩
            · rw [decide_eq_false hA] at eA
              rw [decide_eq_false hB] at eB
              rw [PA hA hB] at AD
              unfold GiveT at AD
              rw [hSS] at AD
              clear PA hA hB
              have bd := Lib.hid (btrans b3.out (Below.drew (Below.refl _ _)))
              have Vd := Lib.hid (V3.out.up (Below.drew (Below.refl _ _)))
              go_region_with (first
                | (go_at_call 36; ((with_reducible refine (QB _ b4.out).mono ?_); rintro e w5 ⟨rfl, hb⟩; have b5 := Lib.hid (btrans b4.out hb); have V5 := Lib.hid (V4.out.up hb); clear hb))
                | (go_at_call 36; ((with_reducible refine (QA _ b4.out).mono ?_); rintro e w5 ⟨rfl, hb⟩; have b5 := Lib.hid (btrans b4.out hb); have V5 := Lib.hid (V4.out.up hb); clear hb))
                | (go_at_call 36; ((with_reducible refine (QA _ bd.out).mono ?_); rintro e w4 ⟨rfl, hb⟩; have b4 := Lib.hid (btrans bd.out hb); have V4 := Lib.hid (Vd.out.up hb); clear hb))
                | (go_at_call 36; ((with_reducible refine (QB _ bd.out).mono ?_); rintro e w4 ⟨rfl, hb⟩; have b4 := Lib.hid (btrans bd.out hb); have V4 := Lib.hid (Vd.out.up hb); clear hb)))
              all_goals go_wp2_with (first
                | (go_at_call 20; ((with_reducible refine (AW _ b8.out).mono ?_); rintro e w9 ⟨rfl, hb⟩; have b9 := Lib.hid (btrans b8.out hb); clear hb))
                | (go_at_call 30; ((with_reducible refine (AD _ b7.out).mono ?_); rintro e w8 ⟨rfl, hb⟩; have b8 := Lib.hid (btrans b7.out hb); clear hb))
                | (go_at_call 36; ((with_reducible refine (QT _ _ _ b6.out V6.out).mono ?_); rintro e w7 ⟨rfl, hb⟩; have b7 := Lib.hid (btrans b6.out hb); clear hb))
                | (go_at_call 37; ((with_reducible refine (RL _ b5.out).mono ?_); rintro e w6 ⟨rfl, hb⟩; have b6 := Lib.hid (btrans b5.out hb); have V6 := Lib.hid (V5.out.up hb); clear hb)))
              all_goals go_ret
              all_goals exact ⟨rfl, b9.out⟩
end Go.Proofs.YtinoipjblkidfaaGreatDoor
