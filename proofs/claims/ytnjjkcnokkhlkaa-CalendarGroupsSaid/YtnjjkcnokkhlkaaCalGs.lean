/- The walk of Groups of the program, the loops. -/
import Derived.Test.YtnjjkcnokkhlkaaCalGh
namespace Go.Proofs.Ytnjjkcnokkhlkaa
open Go.RowKit Go.Maps Go.ChangeShapes

set_option maxRecDepth 100000 in
set_option maxHeartbeats 3200000 in
theorem Groups_any (c f : Int) (cy : Bool) (A : Option Addr) (n cp : Nat) (zs : List Int) (hn : n ≤ 200) (w : World) (hs : Sl w w.heap.size A n zs) :
    Calls Try.prog 43 #[.int .i64 c, .slice A n cp, .int .i64 f, .bool cy] w (GRP c f cy zs w) := by
  have F := fun z w => fields_any c z f w
  have tok1 : True := trivial
  have hmm := @run_makeMap Try.prog
  obtain ⟨i0, hi, hz0, hz1, hz2⟩ := info_parts Try.infoInt
  obtain ⟨j0, ji, jz0, jz1, jz2⟩ := info_parts Try.infoInts
  by_cases h0 : fe c 0 f = 0
  · have F0 := F 0
    rw [h0] at F0
    have H0 := Lib.hid h0
    clear h0
    generalize fv c 0 f = x1 at *
    generalize kv c 0 f = x2 at *
    go_enter Try.func43, Try.ntmps43
    go_wp2_with (go_at_call 66; refine (F0 _).mono ?_; rintro e w1 ⟨rfl, hb1⟩)
    have HB1 := Lib.hid hb1
    clear hb1 F0
    go_loopw [37] (fun i wr => ∃ (k : Nat) (D : DataW Unit), k ≤ n ∧ i = .int .i64 k ∧ Hid (∀ j, j < k → Cal.has c (zs.getD j 0) = true) ∧ Hid (GM D (gks c f cy (zs.take k))) ∧ Hid (wr.ownsGroups Try.prog 3 (w1.heap.size + 1) 3 .i64 w1.heap.size k D) ∧ Hid (Below w1.heap.size w1 wr ∧ w1.heap.size + 1 ≤ wr.heap.size))
      (fun i _ => n - (intOf i).toNat)
    case atStart => exact ⟨0, .map [], Nat.zero_le _, rfl, fun j hj => absurd hj (by omega), GM.start, World.ownsGroups_made _ _ _ _ _, (Below.refl _ _).alloc (Nat.le_refl _) _, by simp⟩
    case round =>
      obtain ⟨k, D, hk, rfl, hall, hG, hO, hB⟩ := hrel
      by_cases hlt : k < n
      · obtain ⟨b, off, rfl, hbB, q⟩ := hs.at_ hlt
        have q1 : wr.cell? ⟨b, off + k, none⟩ = some (.int .i64 (zs.getD k 0)) := (hB.out.1.cell (p := ⟨b, off + k, none⟩) (Nat.lt_of_lt_of_le hbB HB1.out.size)).trans ((HB1.out.cell (p := ⟨b, off + k, none⟩) hbB).trans q)
        have hlen : zs.length = n := hs.1
        cases hh : Cal.has c (zs.getD k 0)
        · have H := Lib.hid (gE_has H0.out k (by omega) hh)
          have hd : fe c (zs.getD k 0) f = 21 := by rw [fe_has H0.out, hh]; rfl
          have D := fun w => F (zs.getD k 0) w
          rw [hd] at D
          clear hd hh q F
          generalize zs.getD k 0 = z at *
          generalize fv c z f = x3 at *
          generalize kv c z f = x4 at *
          go_wp2_with (go_at_call 66; refine (D _).mono ?_; rintro e w2 ⟨rfl, hb2⟩)
          go_ret3
          have hg : Below w.heap.size w w2 := HB1.out.trans (((hB.out.1).trans (hb2.mono hB.out.1.size)).mono HB1.out.size)
          have := GRP_err (c := c) (f := f) (cy := cy) (zs := zs) (w := w) (w' := w2) (by rw [H.out]; omega) hg
          rw [H.out] at this
          exact this
        · have hall2 : Hid (∀ j, j < k + 1 → Cal.has c (zs.getD j 0) = true) := fun j hj => by
            by_cases e : j = k
            · rw [e]; exact hh
            · exact hall.out j (by omega)
          have hd : fe c (zs.getD k 0) f = 0 := by rw [fe_has H0.out, hh]; rfl
          have Fk := fun w => F (zs.getD k 0) w
          rw [hd] at Fk
          obtain ⟨g1, g2⟩ := gkey_bd (f := f) (cy := cy) hh
          have hwf := wf_bd g1 g2
          have hkey := key_int hwf
          have HS := Lib.hid (gks_snoc c f cy zs k (by omega))
          have HL := Lib.hid (gks_len c f cy zs k (by omega))
          clear hd hh q F g1 g2
          have hgk : gkey c f cy (zs.getD k 0) = if cy = true then fv c (zs.getD k 0) f else kv c (zs.getD k 0) f := rfl
          generalize fv c (zs.getD k 0) f = x3 at *
          generalize kv c (zs.getD k 0) f = x4 at *
          generalize hy : gkey c f cy (zs.getD k 0) = y at *
          clear hy
          generalize zs.getD k 0 = z at *
          have hws : w1.heap.size + 1 ≤ wr.heap.size := hB.out.2
          have Q := Lib.hid hgk
          clear hgk
          rcases cy with _ | _
          · obtain rfl : x4 = y := Q.out.symm
            clear Q
            go_wp2_with (first | (go_at_call 66; refine (Fk _).mono ?_; rintro e w2 ⟨rfl, hb2⟩; have O2 := Lib.hid (groups_below hO.out hb2); have hw2 : w1.heap.size + 1 ≤ w2.heap.size := Nat.le_trans hws hb2.size) | (at_lookup; refine wpList_lookup_groups _ rfl _ _ 82 rfl 3 31 3 .i64 lawInt Try.underlying82 (zeroInts _) (w1.heap.size + 1) w1.heap.size k _ rfl O2.out (by unfold maxLen; omega) _ _ rfl hkey ?_; intro v zs' hat hoi hzl hback; have HAT := Lib.hid hat; clear hat) | (at_builtin; refine wpList_append_own_at _ rfl _ _ 31 rfl (w1.heap.size + 1) 3 i0 (.int .i64 0) 1 8 Try.underlying31 hi hz0 hz1 hz2 rfl (by decide) _ _ _ rfl (hoi.1.alloc _) ⟨w2.heap.size, 0, none⟩ 1 1 [.int .i64 k] rfl rfl (cell_one_new _ _ _) (ints_oneCell .i64 [(k : Int)]) (by unfold maxLen; omega) (by omega) (by simp; omega) ?_; intro v' w3 hown' hgrow hnil hloc) | (at_mapUpdate; refine wpList_mapUpdate_back _ rfl _ _ _ 82 rfl hback rfl rfl rfl ((World.grownBy_alloc _ _ _).trans hgrow) (hoi.appended hown' (WalkArith.wf_i64 (by omega))) (by simp; omega) (hloc.imp id (fun h => ⟨_, h, by simp⟩)) ?_; intro w4 hown2 hgrow2))
            have hall3 := (World.grownBy_alloc w2 _ _).trans hgrow
            have hB2 : Below w1.heap.size w1 w2 := btrans hB.out.1 hb2
            go_roundw
            case rel => exact ⟨k + 1, _, by omega, by go_num, hall2, gs_round hG.out HS.out HL.out HAT.out hoi (hoi.appended hown' (WalkArith.wf_i64 (by omega))), hown2, hB2.groups hoi hall3 hgrow2 hB2.size (Nat.le_succ _) (Nat.le_refl _), Nat.le_trans hw2 (Nat.le_trans hall3.size hgrow2.size)⟩
            case measure => simp [intOf]; omega
          · obtain rfl : x3 = y := Q.out.symm
            clear Q
            go_wp2_with (first | (go_at_call 66; refine (Fk _).mono ?_; rintro e w2 ⟨rfl, hb2⟩; have O2 := Lib.hid (groups_below hO.out hb2); have hw2 : w1.heap.size + 1 ≤ w2.heap.size := Nat.le_trans hws hb2.size) | (at_lookup; refine wpList_lookup_groups _ rfl _ _ 82 rfl 3 31 3 .i64 lawInt Try.underlying82 (zeroInts _) (w1.heap.size + 1) w1.heap.size k _ rfl O2.out (by unfold maxLen; omega) _ _ rfl hkey ?_; intro v zs' hat hoi hzl hback; have HAT := Lib.hid hat; clear hat) | (at_builtin; refine wpList_append_own_at _ rfl _ _ 31 rfl (w1.heap.size + 1) 3 i0 (.int .i64 0) 1 8 Try.underlying31 hi hz0 hz1 hz2 rfl (by decide) _ _ _ rfl (hoi.1.alloc _) ⟨w2.heap.size, 0, none⟩ 1 1 [.int .i64 k] rfl rfl (cell_one_new _ _ _) (ints_oneCell .i64 [(k : Int)]) (by unfold maxLen; omega) (by omega) (by simp; omega) ?_; intro v' w3 hown' hgrow hnil hloc) | (at_mapUpdate; refine wpList_mapUpdate_back _ rfl _ _ _ 82 rfl hback rfl rfl rfl ((World.grownBy_alloc _ _ _).trans hgrow) (hoi.appended hown' (WalkArith.wf_i64 (by omega))) (by simp; omega) (hloc.imp id (fun h => ⟨_, h, by simp⟩)) ?_; intro w4 hown2 hgrow2))
            have hall3 := (World.grownBy_alloc w2 _ _).trans hgrow
            have hB2 : Below w1.heap.size w1 w2 := btrans hB.out.1 hb2
            go_roundw
            case rel => exact ⟨k + 1, _, by omega, by go_num, hall2, gs_round hG.out HS.out HL.out HAT.out hoi (hoi.appended hown' (WalkArith.wf_i64 (by omega))), hown2, hB2.groups hoi hall3 hgrow2 hB2.size (Nat.le_succ _) (Nat.le_refl _), Nat.le_trans hw2 (Nat.le_trans hall3.size hgrow2.size)⟩
            case measure => simp [intOf]; omega
      · have e : k = n := by omega
        subst e
        have hlen : zs.length = k := hs.1
        have hallk : ∀ j, j < zs.length → Cal.has c (zs.getD j 0) = true := fun j hj => hall.out j (by omega)
        have HE := Lib.hid (gE_all H0.out hallk)
        have hG2 : GM D (gks c f cy zs) := by have h := hG.out; rw [List.take_of_length_le (by omega)] at h; exact h
        have HG := Lib.hid hG2
        have hmap := groups_own hO.out
        have hms : Maps.size D ≤ k := hmap.size_le
        have HM := Lib.hid hmap
        have hm1 := Grp.ukeys_length (gks c f cy zs)
        have hm2 : (gks c f cy zs).length = k := by unfold gks; simpa using hlen
        have hm : (Grp.ukeys (gks c f cy zs)).length ≤ k := by omega
        have HWF := Lib.hid (fun j hj => ukeys_wf (f := f) (cy := cy) hallk (j := j) hj)
        have KC := fun W => keys_calls (some w1.heap.size) W
        have SC := sorted_calls w1.heap.size k D _ wr HM.out (by unfold maxLen; omega) (by omega)
        have HLEN := Lib.hid hlen
        clear hm1 hm2 hG2 hmap hallk F hlen hs
        go_wp2_with (first | (go_at_call 71; refine (KC _).mono ?_; rintro e w2 ⟨rfl, rfl⟩) | (go_at_call 70; refine SC.mono ?_; rintro e w2 ⟨vk, ss, rfl, hp, hrow, hnil, hb2⟩; obtain ⟨A1, c1, rfl, sk⟩ := keys_row HG.out HM.out hp hrow; clear hnil hrow hp))
        have hbr : Below wr.heap.size wr w2 := ((Below.refl _ _).alloc (Nat.le_refl _) _).trans (hb2.mono (by simp))
        have O2 := Lib.hid (groups_below hO.out hbr)
        have HB2 := Lib.hid (HB1.out.trans ((hB.out.1.trans (hbr.mono hB.out.1.size)).mono HB1.out.size))
        generalize hmm : (Grp.ukeys (gks c f cy zs)).length = m at *
        have HMM := Lib.hid hmm
        clear hmm
        have HSK := Lib.hid sk
        clear SC KC sk hb2 hbr hB hO hG H0
        go_loopw [21, 69] (fun vo i wr => ∃ j : Nat, j ≤ m ∧ i = .int .i64 j ∧ Hid (OUT w2 wr vo j ((Grp.ukeys (gks c f cy zs)).map (Grp.grp (gks c f cy zs))))) (fun _ i _ => m - (intOf i).toNat)
        case atStart => exact ⟨0, Nat.zero_le _, rfl, OUT.start _ _⟩
        case round =>
          obtain ⟨j, hj, rfl, hOut⟩ := hrel
          by_cases hlt : j < m
          · obtain ⟨vs, ho, hv, hbl⟩ := hOut.out
            have hzj : ((Grp.ukeys (gks c f cy zs)).map (Grp.grp (gks c f cy zs))).getD j [] = Grp.grp (gks c f cy zs) ((Grp.ukeys (gks c f cy zs)).getD j 0) := by
              have := HMM.out
              simp [List.getD, show j < (Grp.ukeys (gks c f cy zs)).length by omega]
            have hlj : (Grp.grp (gks c f cy zs) ((Grp.ukeys (gks c f cy zs)).getD j 0)).length ≤ k := by
              have := Grp.grp_length (gks c f cy zs) ((Grp.ukeys (gks c f cy zs)).getD j 0)
              have h2 : (gks c f cy zs).length = zs.length := by unfold gks; simp
              have := HLEN.out
              omega
            have hvl : vs.length = j := by have := ho.1; simpa using this
            obtain ⟨b, off, rfl, hbB, q⟩ := HSK.out.at_ hlt
            have q1 : wr.cell? ⟨b, off + j, none⟩ = some (.int .i64 ((Grp.ukeys (gks c f cy zs)).getD j 0)) := (hbl.cell (p := ⟨b, off + j, none⟩) hbB).trans q
            have hkey := key_int (HWF.out j (by have := HMM.out; omega))
            have hS := groups_shun O2.out hbl
            have hO3 := Lib.hid (groups_below O2.out hbl)
            have HZ := Lib.hid hzj
            have HV := Lib.hid hv
            have HVL := Lib.hid hvl
            have HHO := Lib.hid ho
            have HS := Lib.hid hS
            have hsz := hbl.size
            have HBL := Lib.hid hbl
            clear hzj hv hvl q ho hS hbl hOut HWF
            generalize hyy : (Grp.ukeys (gks c f cy zs)).getD j 0 = y at *
            clear hyy
            go_wp2_with (first | (at_lookup; refine wpList_lookup_groups_shuns _ rfl _ _ 82 rfl 3 31 3 .i64 lawInt Try.underlying82 (zeroInts _) (w1.heap.size + 1) w1.heap.size k D rfl hO3.out (by unfold maxLen; omega) _ _ rfl hkey ?_; intro v zs' hat hoi hzl _ hsh; have hzz := HG.out.group hat hoi; have hro := own_reads_lt hoi.1 (fun g hg => Nat.lt_of_not_le (hsh _ HS.out g hg)); clear hat hoi hsh; obtain rfl := hzz; obtain ⟨A', c', rfl, hsl⟩ := hro; have HSL := Lib.hid hsl; clear hsl) | (at_builtin; refine wpList_append_own_at _ rfl _ _ 57 rfl w2.heap.size 31 j0 (.slice none 0 0) 1 24 Try.underlying57 ji jz0 jz1 jz2 rfl (by decide) _ _ _ rfl (HHO.out.alloc _) ⟨wr.heap.size, 0, none⟩ 1 1 [_] rfl rfl (cell_one_new _ _ _) (by intro u hu; simp at hu; subst hu; rfl) (by unfold maxLen; omega) (by omega) (by simp; omega) ?_; intro vo' w3 hown' hgrow hnil hloc))
            have hB3 : Below w2.heap.size w2 w3 := below_of_grown HHO.out HBL.out ((World.grownBy_alloc wr _ _).trans hgrow)
            go_roundw
            case rel =>
              refine ⟨j + 1, by omega, by go_num, OUT.step (A' := A') (c' := c') HV.out HVL.out (by rw [HZ.out]) ?_ hown' hB3⟩
              rw [HZ.out]
              exact HSL.out.back HBL.out
            case measure => simp [intOf]; omega
          · have e : j = m := by omega
            subst e
            have R := Lib.hid (GRP_ok (c1 := c1) (w := w) HE.out HMM.out HSK.out hOut.out HB2.out)
            go_wp2
            go_ret3
            exact R.out
  · have he : gE c f zs = fe c 0 f := by unfold gE; rw [if_pos h0]
    have H := Lib.hid he
    have F0 := F 0
    have h0' : (fe c 0 f != 0) = true := by simpa using h0
    clear he F
    generalize fe c 0 f = e0 at *
    generalize fv c 0 f = x1 at *
    generalize kv c 0 f = x2 at *
    go_enter Try.func43, Try.ntmps43
    go_wp2_with (go_at_call 66; refine (F0 _).mono ?_; rintro e w1 ⟨rfl, hb1⟩)
    go_ret3
    have := GRP_err (c := c) (f := f) (cy := cy) (zs := zs) (w := w) (w' := w1) (by rw [H.out]; exact h0) hb1
    rw [H.out] at this
    exact this

end Go.Proofs.Ytnjjkcnokkhlkaa
