/- The walk of the reference's Groups. -/
import Derived.Test.YtnjjkcnokkhlkaaCalGq
import Derived.Test.YtnjjkcnokkhlkaaCalO
namespace Go.Proofs.Ytnjjkcnokkhlkaa
open Go.RowKit Go.Maps

theorem GS.ends {w1 wr w : World} {vk vg : Value} {c f : Int} {cy : Bool} {zs : List Int} (he : gE c f zs = 0) (hb : Below w.heap.size w w1)
    (h : GS w1 wr vk vg (Grp.ukeys (gks c f cy zs)) ((Grp.ukeys (gks c f cy zs)).map (Grp.grp (gks c f cy zs)))) : GRP c f cy zs w (.returned (.tuple #[vk, vg, .int .i64 0])) wr := by
  have h1 : gK c f cy zs = Grp.ukeys (gks c f cy zs) := by unfold gK; rw [if_pos he]
  have h2 : gG c f cy zs = (Grp.ukeys (gks c f cy zs)).map (Grp.grp (gks c f cy zs)) := by unfold gG; rw [if_pos he]
  obtain ⟨ps, e1, e2, ok, og, oi, _, _, b⟩ := h
  obtain ⟨A1, c1, rfl, s1⟩ := own_reads ok
  obtain ⟨hl, A2, c2, rfl, hc⟩ := own_reads_any og
  have hm : (gG c f cy zs).length = (Grp.ukeys (gks c f cy zs)).length := by rw [h2, List.length_map]
  refine ⟨A1, c1, A2, c2, by rw [h1, hm, he], by rw [h1]; exact s1, ?_, btrans hb b⟩
  rw [h2, List.length_map]
  refine ⟨by rw [List.length_map], fun hn => ?_⟩
  obtain ⟨g, hA, _, hlt, _, hcell⟩ := hc hn
  refine ⟨g, 0, hA, hlt, fun j hj => ?_⟩
  have hj' : j < ps.length := by omega
  obtain ⟨q1, q2⟩ := getD_pair hj'
  obtain ⟨A', c', q3, q4⟩ := own_reads (oi _ (List.getElem_mem hj')).1
  rw [← e1, q2]
  exact ⟨A', c', by rw [hcell j _ q1, q3], q4⟩

theorem GS.final {w1 W : World} {vk vg : Value} {ks ks' : List Int} {y : Int} {p k : Nat} (ha : Grp.At y (Grp.ukeys ks) p) (hk : ks.length = k) (hks : ks ++ [y] = ks')
    (h : GS w1 W vk vg (Grp.ins y (Grp.ukeys ks)) (((Grp.ins y (Grp.ukeys ks)).map (Grp.grp ks)).set p (((Grp.ins y (Grp.ukeys ks)).map (Grp.grp ks)).getD p [] ++ [(k : Int)]))) :
    GS w1 W vk vg (Grp.ukeys ks') ((Grp.ukeys ks').map (Grp.grp ks')) := by
  subst hk hks
  rw [Grp.step_groups ha] at h
  rw [Grp.ukeys_snoc] at h ⊢
  exact h

theorem GS.opens {w0 w w' : World} {vk vg v1 v2 : Value} {ks : List Int} {p : Nat} {y : Int} {ps : List (Value × List Int)} (ha : Grp.At y (Grp.ukeys ks) p) (hne : p < (Grp.ukeys ks).length → (Grp.ukeys ks).getD p 0 ≠ y)
    (h : GS w0 w vk vg (Grp.ukeys ks) ((Grp.ukeys ks).map (Grp.grp ks))) (e1 : ps.map (·.2) = (Grp.ukeys ks).map (Grp.grp ks)) (e2 : ps.length = (Grp.ukeys ks).length)
    (oi : ∀ x ∈ ps, w.ownsInts w0.heap.size 3 .i64 x.1 x.2) (ap : ps.Pairwise (fun a b => Apart a.1 b.1))
    (h1 : w'.ownsRow w.heap.size 3 1 v1 ((Grp.ukeys ks).length + 1) (((Grp.ukeys ks).map (Value.int .i64)).take p ++ [.int .i64 y] ++ ((Grp.ukeys ks).map (Value.int .i64)).drop p))
    (h2 : w'.ownsRow w.heap.size 31 1 v2 ((Grp.ukeys ks).length + 1) ((ps.map (·.1)).take p ++ [.slice none 0 0] ++ (ps.map (·.1)).drop p)) (hb : Below w.heap.size w w') :
    GS w0 w' v1 v2 (Grp.ins y (Grp.ukeys ks)) ((Grp.ins y (Grp.ukeys ks)).map (Grp.grp ks)) := by
  have := GS.opened h ha.1 _ ⟨ps, trivial, rfl, e1, e2, oi, ap⟩ h1 h2 hb
  rw [Grp.open_groups ha hne, ← Grp.ins_open y _ p ha hne] at this
  exact this

theorem GS.finds {w0 w : World} {vk vg : Value} {ks : List Int} {p : Nat} {y : Int} (ha : Grp.At y (Grp.ukeys ks) p) (hp : p < (Grp.ukeys ks).length) (he : (Grp.ukeys ks).getD p 0 = y)
    (h : GS w0 w vk vg (Grp.ukeys ks) ((Grp.ukeys ks).map (Grp.grp ks))) : GS w0 w vk vg (Grp.ins y (Grp.ukeys ks)) ((Grp.ins y (Grp.ukeys ks)).map (Grp.grp ks)) := by
  rw [Grp.ins_found y _ p ha hp he]; exact h

/-- The place of a group, laid open for the walk. -/
theorem GS.place {w0 w : World} {vk vg : Value} {l : List Int} {zss : List (List Int)} {p : Nat} (h : GS w0 w vk vg l zss) (hp : p < l.length) :
    ∃ (g cap : Nat) (u : Value) (zs : List Int), vg = .slice (some ⟨g, 0, none⟩) l.length cap ∧ w.ownsInts w0.heap.size 3 .i64 u zs ∧ zss.getD p [] = zs ∧ w.cell? ⟨g, p, none⟩ = some u ∧ g < w.heap.size ∧ w0.heap.size ≤ w.heap.size ∧
      ∀ (w1 : World) (v' : Value) (x : Int), w.grownBy w1 u.ownBlock → w1.ownsInts w0.heap.size 3 .i64 v' (zs ++ [x]) → (v'.ownBlock = u.ownBlock ∨ ∃ g, v'.ownBlock = some g ∧ w.heap.size ≤ g) →
        w1.cell? ⟨g, p, none⟩ = some u ∧ w1.frozen? ⟨g, p, none⟩ = false ∧ GS w0 (w1.setCell ⟨g, p, none⟩ v') vk vg l (zss.set p (zs ++ [x])) := by
  obtain ⟨ps, rfl, e2, ok, og, oi, ap, ak, b⟩ := h
  have hp' : p < ps.length := by omega
  obtain ⟨_, A, cap, e, hc⟩ := own_reads_any og
  obtain ⟨g, rfl, _, hlt, _, _⟩ := hc (by omega)
  subst e
  obtain ⟨q1, q2⟩ := getD_pair hp'
  have hu := oi _ (List.getElem_mem hp')
  refine ⟨g, cap, ps[p].1, ps[p].2, rfl, hu, q2, ?_, hlt, b.size, fun w1 v' x hg ho hl => ?_⟩
  · rw [og.cellAt p (by omega)]; exact q1
  · have og1 := og.kept hg (own_apart og hu.1 (by decide))
    exact ⟨by rw [og1.cellAt p (by omega)]; exact q1, og1.frozenAt p, GS.step hp' e2 ok og oi ap ak b hg ho hl⟩

theorem own_both {w : World} {base n : Nat} {e : TypeId} {v : Value} {zs : List Int} (h : w.ownsRow base e 1 v n (zs.map (Value.int .i64))) : ∃ A c, v = .slice A n c ∧ Sl w w.heap.size A n zs ∧ Vl w w.heap.size A n c (zs.map (Value.int .i64)) := by
  obtain ⟨A, c, e1, h1⟩ := own_reads h
  obtain ⟨A', c', e2, h2⟩ := Vl.own h
  rw [e1] at e2
  injection e2 with e3 _ e4
  subst e3 e4
  exact ⟨A, c, e1, h1, h2⟩
theorem Vl.up {w w' : World} {n c : Nat} {A : Option Addr} {xs : List Value} (h : Vl w w.heap.size A n c xs) (hb : Below w.heap.size w w') : Vl w' w'.heap.size A n c xs := by
  obtain ⟨h1, h2, h3, h4⟩ := h.keep hb
  exact ⟨h1, h2, h3, fun hn => by
    obtain ⟨ad, e, hl, hc⟩ := h4 hn
    exact ⟨ad, e, Nat.lt_of_lt_of_le hl hb.size, hc⟩⟩
theorem owns_one {w : World} {base : Nat} {e : TypeId} {ps : List (Value × List Int)} (h : ∀ x ∈ ps, w.ownsInts base e .i64 x.1 x.2) : ∀ u ∈ ps.map (·.1), u.oneCell' = true := by
  intro u hu
  obtain ⟨x, hx, rfl⟩ := List.mem_map.1 hu
  obtain ⟨_, A, c, e1, _⟩ := own_reads_any (h x hx).1
  rw [e1]; rfl
theorem grp_getD (ks l : List Int) (p : Nat) : ((l.map (Grp.grp ks)).getD p []).length ≤ ks.length := by
  by_cases h : p < l.length
  · have e : (l.map (Grp.grp ks)).getD p [] = Grp.grp ks l[p] := by simp [List.getD, h]
    rw [e]; exact Grp.grp_length _ _
  · have e : (l.map (Grp.grp ks)).getD p [] = [] := by simp [List.getD, List.getElem?_eq_none (show (l.map (Grp.grp ks)).length ≤ p by simp; omega)]
    rw [e]; simp
/-- The place of the key y behind its opening, for the walk. -/
theorem GS.spot {w0 w : World} {vk vg : Value} {ks : List Int} {p : Nat} {y : Int} (ha : Grp.At y (Grp.ukeys ks) p) (h : GS w0 w vk vg (Grp.ins y (Grp.ukeys ks)) ((Grp.ins y (Grp.ukeys ks)).map (Grp.grp ks))) :
    ∃ (g m cap : Nat) (u : Value) (zs : List Int), p < m ∧ vg = .slice (some ⟨g, 0, none⟩) m cap ∧ w.ownsInts w0.heap.size 3 .i64 u zs ∧ zs.length ≤ ks.length ∧ w.cell? ⟨g, p, none⟩ = some u ∧ g < w.heap.size ∧ w0.heap.size ≤ w.heap.size ∧
      ∀ (w1 : World) (v' : Value) (x : Int), x = (ks.length : Int) → w.grownBy w1 u.ownBlock → w1.ownsInts w0.heap.size 3 .i64 v' (zs ++ [x]) → (v'.ownBlock = u.ownBlock ∨ ∃ g, v'.ownBlock = some g ∧ w.heap.size ≤ g) →
        w1.cell? ⟨g, p, none⟩ = some u ∧ w1.frozen? ⟨g, p, none⟩ = false ∧ GS w0 (w1.setCell ⟨g, p, none⟩ v') vk vg (Grp.ukeys (ks ++ [y])) ((Grp.ukeys (ks ++ [y])).map (Grp.grp (ks ++ [y]))) := by
  obtain ⟨g, cap, u, zs, e1, hoi, hz, hc, hg, hs, hback⟩ := h.place (Grp.ins_at y _ p ha).1
  refine ⟨g, _, cap, u, zs, (Grp.ins_at y _ p ha).1, e1, hoi, by rw [← hz]; exact grp_getD _ _ _, hc, hg, hs, fun w1 v' x hx hgr ho hl => ?_⟩
  obtain ⟨a, b, h3⟩ := hback w1 v' x hgr ho hl
  subst hx
  rw [← hz] at h3
  exact ⟨a, b, h3.final ha rfl rfl⟩

set_option maxRecDepth 100000 in
set_option maxHeartbeats 6400000 in
theorem rGroups_any (c f : Int) (cy : Bool) (A : Option Addr) (n cp : Nat) (zs : List Int) (hn : n ≤ 200) (w : World) (hs : Sl w w.heap.size A n zs) :
    Calls Try.prog 44 #[.int .i64 c, .slice A n cp, .int .i64 f, .bool cy] w (GRP c f cy zs w) := by
  cases hk : kn c
  · have N := fun w => rname_no hk w
    have H := Lib.hid (show gE c f zs = 20 by unfold gE fe; simp [hk])
    clear hk
    go_enter Try.func44, Try.ntmps44
    go_wp2_with (go_at_call 34; refine (N _).mono ?_; rintro e w1 ⟨rfl, hb1⟩)
    go_ret3
    have := GRP_err (c := c) (f := f) (cy := cy) (zs := zs) (w := w) (w' := w1) (by rw [H.out]; omega) hb1
    rw [H.out] at this
    exact this
  have N := fun w => rname_yes hk w
  by_cases hf : f < 1 ∨ 4 < f
  · have H := Lib.hid (show gE c f zs = 22 by unfold gE fe; simp [hk, hf])
    clear hk
    by_cases hf1 : f < 1
    all_goals
      go_enter Try.func44, Try.ntmps44
      go_wp2_with (go_at_call 34; refine (N _).mono ?_; rintro e w1 ⟨s, rfl, hne, hb1⟩)
      go_ret3
      have := GRP_err (c := c) (f := f) (cy := cy) (zs := zs) (w := w) (w' := w1) (by rw [H.out]; omega) hb1
      rw [H.out] at this
      exact this
  have hf1 : 1 ≤ f := by omega
  have hf4 : f ≤ 4 := by omega
  have H0 := Lib.hid (show fe c 0 f = 0 by unfold fe; rw [hk, has0 hk]; simp [hf])
  clear hf hk
  obtain ⟨i0, hi, hz0, hz1, hz2⟩ := info_parts Try.infoInt
  have K := fun z w => rKey_any c z f w
  have F := fun z w => rField_any c z f w
  go_enter Try.func44, Try.ntmps44
  go_wp2_with (go_at_call 34; refine (N _).mono ?_; rintro e w1 ⟨s, rfl, hne, hb1⟩)
  have HB1 := Lib.hid hb1
  clear hb1 N
  go_loopw [11, 12, 13] (fun vk vg i wr => ∃ k : Nat, k ≤ n ∧ i = .int .i64 k ∧ Hid (∀ j, j < k → Cal.has c (zs.getD j 0) = true) ∧ Hid (GS w1 wr vk vg (Grp.ukeys (gks c f cy (zs.take k))) ((Grp.ukeys (gks c f cy (zs.take k))).map (Grp.grp (gks c f cy (zs.take k))))))
    (fun _ _ i _ => n - (intOf i).toNat)
  case atStart => exact ⟨0, Nat.zero_le _, rfl, fun j hj => absurd hj (by omega), GS.start _⟩
  case round =>
    obtain ⟨k, hk, rfl, hall, hG⟩ := hrel
    by_cases hlt : k < n
    · obtain ⟨b, off, rfl, hbB, q⟩ := hs.at_ hlt
      have hlen : zs.length = n := hs.1
      have hB0 : Below w1.heap.size w1 wr := by obtain ⟨_, _, _, _, _, _, _, _, h⟩ := hG.out; exact h
      have q1 : wr.cell? ⟨b, off + k, none⟩ = some (.int .i64 (zs.getD k 0)) := (hB0.cell (p := ⟨b, off + k, none⟩) (Nat.lt_of_lt_of_le hbB HB1.out.size)).trans ((HB1.out.cell (p := ⟨b, off + k, none⟩) hbB).trans q)
      have hbr : b < wr.heap.size := Nat.lt_of_lt_of_le hbB (Nat.le_trans HB1.out.size hB0.size)
      cases hh : Cal.has c (zs.getD k 0)
      · have H := Lib.hid (gE_has H0.out k (by omega) hh)
        have hd : fe c (zs.getD k 0) f = 21 := by rw [fe_has H0.out, hh]; rfl
        have KK := fun w => K (zs.getD k 0) w
        have FF := fun w => F (zs.getD k 0) w
        rw [hd] at KK FF
        have HBW := Lib.hid (btrans HB1.out hB0)
        clear hd hh q K F hB0
        generalize zs.getD k 0 = z at *
        generalize fv c z f = x3 at *
        generalize kv c z f = x4 at *
        cases cy
        · go_wp2_with (first | (go_at_call 42; refine (KK _).mono ?_; rintro e w2 ⟨rfl, hb2⟩; obtain ⟨hc2, hf2⟩ := bcell hb2))
          go_ret3
          have := GRP_err (c := c) (f := f) (cy := false) (zs := zs) (w := w) (w' := w2) (by rw [H.out]; omega) (btrans HBW.out hb2)
          rw [H.out] at this
          exact this
        · go_wp2_with (first | (go_at_call 42; refine (KK _).mono ?_; rintro e w2 ⟨rfl, hb2⟩; obtain ⟨hc2, hf2⟩ := bcell hb2) | (go_at_call 40; refine (FF _).mono ?_; rintro e w3 ⟨rfl, hb3⟩))
          go_ret3
          have := GRP_err (c := c) (f := f) (cy := true) (zs := zs) (w := w) (w' := w3) (by rw [H.out]; omega) (btrans (btrans HBW.out hb2) hb3)
          rw [H.out] at this
          exact this
      · have hall2 : Hid (∀ j, j < k + 1 → Cal.has c (zs.getD j 0) = true) := fun j hj => by
          by_cases e : j = k
          · rw [e]; exact hh
          · exact hall.out j (by omega)
        have hd : fe c (zs.getD k 0) f = 0 := by rw [fe_has H0.out, hh]; rfl
        have KK := fun w => K (zs.getD k 0) w
        have FF := fun w => F (zs.getD k 0) w
        rw [hd] at KK FF
        have HS := Lib.hid (gks_snoc c f cy zs k (by omega))
        have HL := Lib.hid (gks_len c f cy zs k (by omega))
        have Q := Lib.hid (show gkey c f cy (zs.getD k 0) = if cy = true then fv c (zs.getD k 0) f else kv c (zs.getD k 0) f from rfl)
        clear hd hh q K F hB0
        generalize fv c (zs.getD k 0) f = x3 at *
        generalize kv c (zs.getD k 0) f = x4 at *
        generalize gkey c f cy (zs.getD k 0) = y at *
        generalize zs.getD k 0 = z at *
        generalize gks c f cy (zs.take k) = ks at *
        obtain ⟨ps, e1, e2, ok, og, oi, ap, ak, b0⟩ := hG.out.parts
        obtain ⟨A1, c1, rfl, sk, vk⟩ := own_both ok
        obtain ⟨A2, c2, rfl, vg⟩ := Vl.own og
        rcases cy with _ | _
        · obtain rfl : y = x4 := Q.out
          clear Q FF
          go_wp2_with (first | (go_at_call 42; refine (KK _).mono ?_; rintro e w2 ⟨rfl, hb2⟩; obtain ⟨hc2, hf2⟩ := bcell hb2))
          have GW := Lib.hid (hG.out.below hb2)
          have SK := Lib.hid (sk.keep hb2)
          have VK := Lib.hid (vk.up hb2)
          have VG := Lib.hid (vg.up hb2)
          have OI : Hid (∀ x ∈ ps, w2.ownsInts w1.heap.size 3 .i64 x.1 x.2) := fun x hx => ⟨own_below (oi x hx).1 hb2, (oi x hx).2⟩
          have ONE := Lib.hid (owns_one OI.out)
          have AP := Lib.hid ap
          have PS1 := Lib.hid e1
          have PS2 := Lib.hid e2
          have hmk : (Grp.ukeys ks).length ≤ k := by have := Grp.ukeys_length ks; have := HL.out; omega
          clear sk vk vg oi ap ak e1 e2 b0 og ok hc2 hf2
          generalize hmm : (Grp.ukeys ks).length = m at *
          have HMM := Lib.hid hmm
          clear hmm
          go_loop [16] (fun at_ => ∃ p : Nat, p ≤ m ∧ at_ = .int .i64 p ∧ Hid (∀ j, j < p → (Grp.ukeys ks).getD j 0 < y)) (fun at_ => m - (intOf at_).toNat)
          case atStart => exact ⟨0, by omega, rfl, fun j hj => absurd hj (by omega)⟩
          case round =>
            obtain ⟨p, hp, rfl, hbef⟩ := hrel
            by_cases hpm : p < m
            · obtain ⟨b1, o1, rfl, hbb, qq⟩ := SK.out.at_ hpm
              by_cases hless : (Grp.ukeys ks).getD p 0 < y
              · have hbef2 : Hid (∀ j, j < p + 1 → (Grp.ukeys ks).getD j 0 < y) := fun j hj => by
                  by_cases e : j = p
                  · rw [e]; exact hless
                  · exact hbef.out j (by omega)
                generalize (Grp.ukeys ks).getD p 0 = g0 at *
                go_wp2
                go_round
                case rel => exact ⟨p + 1, by omega, by go_num, hbef2⟩
                case measure => simp [intOf]; omega
              · have HAT : Hid (Grp.At y (Grp.ukeys ks) p) := ⟨by rw [HMM.out]; exact hp, hbef.out, fun _ => by omega⟩
                by_cases heq : (Grp.ukeys ks).getD p 0 = y
                · have G3 := Lib.hid (GW.out.finds HAT.out (by rw [HMM.out]; exact hpm) heq)
                  rw [heq] at qq hless
                  clear heq
                  obtain ⟨g, m2, cap, u, zs', hpm2, e9, hoi, hzl, hcell, hgl, hsz, hback⟩ := G3.out.spot HAT.out
                  injection e9 with e91 e92 e93
                  subst e91 e92 e93
                  have HOI := Lib.hid hoi
                  have HBACK := Lib.hid hback
                  clear hoi hback
                  have hzk : zs'.length ≤ k := by have := HL.out; omega
                  have hpi : ((p : Int) == (m : Int)) = false := by simp; omega
                  go_wp2_with (first | (at_builtin; refine wpList_append_own_at _ rfl _ _ 31 rfl w1.heap.size 3 i0 (.int .i64 0) 1 8 Try.underlying31 hi hz0 hz1 hz2 rfl (by decide) u zs'.length (zs'.map (Value.int .i64)) rfl (HOI.out.1.alloc _) ⟨w2.heap.size, 0, none⟩ 1 1 [.int .i64 k] rfl rfl (cell_one_new _ _ _) (ints_oneCell .i64 [(k : Int)]) (by unfold maxLen; omega) (by omega) (by simp; omega) ?_; intro v' w9 hown' hgrow hnil hloc; obtain ⟨_, A9, c9, e9, _⟩ := own_reads_any hown'; subst e9; obtain ⟨hc9, hf9, hG9⟩ := HBACK.out w9 _ k (congrArg (fun a : Nat => (a : Int)) HL.out.symm) ((World.grownBy_alloc _ _ _).trans hgrow) (HOI.out.appended hown' (WalkArith.wf_i64 (by omega))) (hloc.imp id (fun h => ⟨_, h, by simp⟩)); have HG9 := Lib.hid hG9; clear hG9 hgrow hnil hloc hown'))
                  go_roundw
                  case rel => exact ⟨k + 1, by omega, by go_num, hall2, by rw [← HS.out]; exact HG9.out⟩
                  case measure => simp [intOf]; omega
                · have HNE := Lib.hid (fun (_ : p < (Grp.ukeys ks).length) => heq)
                  have hpi : ((p : Int) == (m : Int)) = false := by simp; omega
                  have hn1 : ((Grp.ukeys ks).getD p 0 == y) = false := by simpa using heq
                  have hn2 : ((Grp.ukeys ks).getD p 0 != y) = true := by simpa using heq
                  clear heq
                  obtain ⟨g0, hg0⟩ : ∃ g0, (Grp.ukeys ks).getD p 0 = g0 := ⟨_, rfl⟩
                  rw [hg0] at qq hn1 hn2 hless
                  clear hg0
                  go_wp2_with (first | (go_at_call 72; refine (opened_any _ _ m c1 c2 p y _ _ (by omega) hp _ VK.out VG.out (ints_oneCell .i64 _) ONE.out).mono ?_; rintro e w4 ⟨v1, v2, rfl, h1, h2, hb4⟩; have G3 := Lib.hid (GS.opens HAT.out HNE.out GW.out PS1.out (PS2.out.trans HMM.out.symm) OI.out AP.out (by rw [HMM.out]; exact h1) (by rw [HMM.out]; exact h2) hb4); clear h1 h2 hb4; obtain ⟨g, m2, cap, u, zs', hpm2, e9, hoi, hzl, hcell, hgl, hsz, hback⟩ := G3.out.spot HAT.out; subst e9; have HOI := Lib.hid hoi; have HBACK := Lib.hid hback; clear hoi hback; have hzk : zs'.length ≤ k := by have := HL.out; omega) | (at_builtin; refine wpList_append_own_at _ rfl _ _ 31 rfl w1.heap.size 3 i0 (.int .i64 0) 1 8 Try.underlying31 hi hz0 hz1 hz2 rfl (by decide) u zs'.length (zs'.map (Value.int .i64)) rfl (HOI.out.1.alloc _) ⟨w4.heap.size, 0, none⟩ 1 1 [.int .i64 k] rfl rfl (cell_one_new _ _ _) (ints_oneCell .i64 [(k : Int)]) (by unfold maxLen; omega) (by omega) (by simp; omega) ?_; intro v' w9 hown' hgrow hnil hloc; obtain ⟨_, A9, c9, e9, _⟩ := own_reads_any hown'; subst e9; obtain ⟨hc9, hf9, hG9⟩ := HBACK.out w9 _ k (congrArg (fun a : Nat => (a : Int)) HL.out.symm) ((World.grownBy_alloc _ _ _).trans hgrow) (HOI.out.appended hown' (WalkArith.wf_i64 (by omega))) (hloc.imp id (fun h => ⟨_, h, by simp⟩)); have HG9 := Lib.hid hG9; clear hG9 hgrow hnil hloc hown'))
                  go_roundw
                  case rel => exact ⟨k + 1, by omega, by go_num, hall2, by rw [← HS.out]; exact HG9.out⟩
                  case measure => simp [intOf]; omega
            · have HAT : Hid (Grp.At y (Grp.ukeys ks) p) := ⟨by rw [HMM.out]; exact hp, hbef.out, fun h => absurd h (by rw [HMM.out]; omega)⟩
              have HNE : Hid (p < (Grp.ukeys ks).length → (Grp.ukeys ks).getD p 0 ≠ y) := fun h => absurd h (by rw [HMM.out]; omega)
              have epm : p = m := by omega
              subst epm
              go_wp2_with (first | (go_at_call 72; refine (opened_any _ _ p c1 c2 p y _ _ (by omega) hp _ VK.out VG.out (ints_oneCell .i64 _) ONE.out).mono ?_; rintro e w4 ⟨v1, v2, rfl, h1, h2, hb4⟩; have G3 := Lib.hid (GS.opens HAT.out HNE.out GW.out PS1.out (PS2.out.trans HMM.out.symm) OI.out AP.out (by rw [HMM.out]; exact h1) (by rw [HMM.out]; exact h2) hb4); clear h1 h2 hb4; obtain ⟨g, m2, cap, u, zs', hpm2, e9, hoi, hzl, hcell, hgl, hsz, hback⟩ := G3.out.spot HAT.out; subst e9; have HOI := Lib.hid hoi; have HBACK := Lib.hid hback; clear hoi hback; have hzk : zs'.length ≤ k := by have := HL.out; omega) | (at_builtin; refine wpList_append_own_at _ rfl _ _ 31 rfl w1.heap.size 3 i0 (.int .i64 0) 1 8 Try.underlying31 hi hz0 hz1 hz2 rfl (by decide) u zs'.length (zs'.map (Value.int .i64)) rfl (HOI.out.1.alloc _) ⟨w4.heap.size, 0, none⟩ 1 1 [.int .i64 k] rfl rfl (cell_one_new _ _ _) (ints_oneCell .i64 [(k : Int)]) (by unfold maxLen; omega) (by omega) (by simp; omega) ?_; intro v' w9 hown' hgrow hnil hloc; obtain ⟨_, A9, c9, e9, _⟩ := own_reads_any hown'; subst e9; obtain ⟨hc9, hf9, hG9⟩ := HBACK.out w9 _ k (congrArg (fun a : Nat => (a : Int)) HL.out.symm) ((World.grownBy_alloc _ _ _).trans hgrow) (HOI.out.appended hown' (WalkArith.wf_i64 (by omega))) (hloc.imp id (fun h => ⟨_, h, by simp⟩)); have HG9 := Lib.hid hG9; clear hG9 hgrow hnil hloc hown'))
              go_roundw
              case rel => exact ⟨k + 1, by omega, by go_num, hall2, by rw [← HS.out]; exact HG9.out⟩
              case measure => simp [intOf]; omega
        · obtain rfl : y = x3 := Q.out
          clear Q
          go_wp2_with (first | (go_at_call 42; refine (KK _).mono ?_; rintro e w2 ⟨rfl, hb2⟩; obtain ⟨hc2, hf2⟩ := bcell hb2) | (go_at_call 40; refine (FF _).mono ?_; rintro e w3 ⟨rfl, hb3⟩))
          have hb23 := btrans hb2 hb3
          clear hb2 hb3
          have GW := Lib.hid (hG.out.below hb23)
          have SK := Lib.hid (sk.keep hb23)
          have VK := Lib.hid (vk.up hb23)
          have VG := Lib.hid (vg.up hb23)
          have OI : Hid (∀ x ∈ ps, w3.ownsInts w1.heap.size 3 .i64 x.1 x.2) := fun x hx => ⟨own_below (oi x hx).1 hb23, (oi x hx).2⟩
          have ONE := Lib.hid (owns_one OI.out)
          have AP := Lib.hid ap
          have PS1 := Lib.hid e1
          have PS2 := Lib.hid e2
          have hmk : (Grp.ukeys ks).length ≤ k := by have := Grp.ukeys_length ks; have := HL.out; omega
          clear sk vk vg oi ap ak e1 e2 b0 og ok hc2 hf2
          generalize hmm : (Grp.ukeys ks).length = m at *
          have HMM := Lib.hid hmm
          clear hmm
          go_loop [16] (fun at_ => ∃ p : Nat, p ≤ m ∧ at_ = .int .i64 p ∧ Hid (∀ j, j < p → (Grp.ukeys ks).getD j 0 < y)) (fun at_ => m - (intOf at_).toNat)
          case atStart => exact ⟨0, by omega, rfl, fun j hj => absurd hj (by omega)⟩
          case round =>
            obtain ⟨p, hp, rfl, hbef⟩ := hrel
            by_cases hpm : p < m
            · obtain ⟨b1, o1, rfl, hbb, qq⟩ := SK.out.at_ hpm
              by_cases hless : (Grp.ukeys ks).getD p 0 < y
              · have hbef2 : Hid (∀ j, j < p + 1 → (Grp.ukeys ks).getD j 0 < y) := fun j hj => by
                  by_cases e : j = p
                  · rw [e]; exact hless
                  · exact hbef.out j (by omega)
                generalize (Grp.ukeys ks).getD p 0 = g0 at *
                go_wp2
                go_round
                case rel => exact ⟨p + 1, by omega, by go_num, hbef2⟩
                case measure => simp [intOf]; omega
              · have HAT : Hid (Grp.At y (Grp.ukeys ks) p) := ⟨by rw [HMM.out]; exact hp, hbef.out, fun _ => by omega⟩
                by_cases heq : (Grp.ukeys ks).getD p 0 = y
                · have G3 := Lib.hid (GW.out.finds HAT.out (by rw [HMM.out]; exact hpm) heq)
                  rw [heq] at qq hless
                  clear heq
                  obtain ⟨g, m2, cap, u, zs', hpm2, e9, hoi, hzl, hcell, hgl, hsz, hback⟩ := G3.out.spot HAT.out
                  injection e9 with e91 e92 e93
                  subst e91 e92 e93
                  have HOI := Lib.hid hoi
                  have HBACK := Lib.hid hback
                  clear hoi hback
                  have hzk : zs'.length ≤ k := by have := HL.out; omega
                  have hpi : ((p : Int) == (m : Int)) = false := by simp; omega
                  go_wp2_with (first | (at_builtin; refine wpList_append_own_at _ rfl _ _ 31 rfl w1.heap.size 3 i0 (.int .i64 0) 1 8 Try.underlying31 hi hz0 hz1 hz2 rfl (by decide) u zs'.length (zs'.map (Value.int .i64)) rfl (HOI.out.1.alloc _) ⟨w3.heap.size, 0, none⟩ 1 1 [.int .i64 k] rfl rfl (cell_one_new _ _ _) (ints_oneCell .i64 [(k : Int)]) (by unfold maxLen; omega) (by omega) (by simp; omega) ?_; intro v' w9 hown' hgrow hnil hloc; obtain ⟨_, A9, c9, e9, _⟩ := own_reads_any hown'; subst e9; obtain ⟨hc9, hf9, hG9⟩ := HBACK.out w9 _ k (congrArg (fun a : Nat => (a : Int)) HL.out.symm) ((World.grownBy_alloc _ _ _).trans hgrow) (HOI.out.appended hown' (WalkArith.wf_i64 (by omega))) (hloc.imp id (fun h => ⟨_, h, by simp⟩)); have HG9 := Lib.hid hG9; clear hG9 hgrow hnil hloc hown'))
                  go_roundw
                  case rel => exact ⟨k + 1, by omega, by go_num, hall2, by rw [← HS.out]; exact HG9.out⟩
                  case measure => simp [intOf]; omega
                · have HNE := Lib.hid (fun (_ : p < (Grp.ukeys ks).length) => heq)
                  have hpi : ((p : Int) == (m : Int)) = false := by simp; omega
                  have hn1 : ((Grp.ukeys ks).getD p 0 == y) = false := by simpa using heq
                  have hn2 : ((Grp.ukeys ks).getD p 0 != y) = true := by simpa using heq
                  clear heq
                  obtain ⟨g0, hg0⟩ : ∃ g0, (Grp.ukeys ks).getD p 0 = g0 := ⟨_, rfl⟩
                  rw [hg0] at qq hn1 hn2 hless
                  clear hg0
                  go_wp2_with (first | (go_at_call 72; refine (opened_any _ _ m c1 c2 p y _ _ (by omega) hp _ VK.out VG.out (ints_oneCell .i64 _) ONE.out).mono ?_; rintro e w4 ⟨v1, v2, rfl, h1, h2, hb4⟩; have G3 := Lib.hid (GS.opens HAT.out HNE.out GW.out PS1.out (PS2.out.trans HMM.out.symm) OI.out AP.out (by rw [HMM.out]; exact h1) (by rw [HMM.out]; exact h2) hb4); clear h1 h2 hb4; obtain ⟨g, m2, cap, u, zs', hpm2, e9, hoi, hzl, hcell, hgl, hsz, hback⟩ := G3.out.spot HAT.out; subst e9; have HOI := Lib.hid hoi; have HBACK := Lib.hid hback; clear hoi hback; have hzk : zs'.length ≤ k := by have := HL.out; omega) | (at_builtin; refine wpList_append_own_at _ rfl _ _ 31 rfl w1.heap.size 3 i0 (.int .i64 0) 1 8 Try.underlying31 hi hz0 hz1 hz2 rfl (by decide) u zs'.length (zs'.map (Value.int .i64)) rfl (HOI.out.1.alloc _) ⟨w4.heap.size, 0, none⟩ 1 1 [.int .i64 k] rfl rfl (cell_one_new _ _ _) (ints_oneCell .i64 [(k : Int)]) (by unfold maxLen; omega) (by omega) (by simp; omega) ?_; intro v' w9 hown' hgrow hnil hloc; obtain ⟨_, A9, c9, e9, _⟩ := own_reads_any hown'; subst e9; obtain ⟨hc9, hf9, hG9⟩ := HBACK.out w9 _ k (congrArg (fun a : Nat => (a : Int)) HL.out.symm) ((World.grownBy_alloc _ _ _).trans hgrow) (HOI.out.appended hown' (WalkArith.wf_i64 (by omega))) (hloc.imp id (fun h => ⟨_, h, by simp⟩)); have HG9 := Lib.hid hG9; clear hG9 hgrow hnil hloc hown'))
                  go_roundw
                  case rel => exact ⟨k + 1, by omega, by go_num, hall2, by rw [← HS.out]; exact HG9.out⟩
                  case measure => simp [intOf]; omega
            · have HAT : Hid (Grp.At y (Grp.ukeys ks) p) := ⟨by rw [HMM.out]; exact hp, hbef.out, fun h => absurd h (by rw [HMM.out]; omega)⟩
              have HNE : Hid (p < (Grp.ukeys ks).length → (Grp.ukeys ks).getD p 0 ≠ y) := fun h => absurd h (by rw [HMM.out]; omega)
              have epm : p = m := by omega
              subst epm
              go_wp2_with (first | (go_at_call 72; refine (opened_any _ _ p c1 c2 p y _ _ (by omega) hp _ VK.out VG.out (ints_oneCell .i64 _) ONE.out).mono ?_; rintro e w4 ⟨v1, v2, rfl, h1, h2, hb4⟩; have G3 := Lib.hid (GS.opens HAT.out HNE.out GW.out PS1.out (PS2.out.trans HMM.out.symm) OI.out AP.out (by rw [HMM.out]; exact h1) (by rw [HMM.out]; exact h2) hb4); clear h1 h2 hb4; obtain ⟨g, m2, cap, u, zs', hpm2, e9, hoi, hzl, hcell, hgl, hsz, hback⟩ := G3.out.spot HAT.out; subst e9; have HOI := Lib.hid hoi; have HBACK := Lib.hid hback; clear hoi hback; have hzk : zs'.length ≤ k := by have := HL.out; omega) | (at_builtin; refine wpList_append_own_at _ rfl _ _ 31 rfl w1.heap.size 3 i0 (.int .i64 0) 1 8 Try.underlying31 hi hz0 hz1 hz2 rfl (by decide) u zs'.length (zs'.map (Value.int .i64)) rfl (HOI.out.1.alloc _) ⟨w4.heap.size, 0, none⟩ 1 1 [.int .i64 k] rfl rfl (cell_one_new _ _ _) (ints_oneCell .i64 [(k : Int)]) (by unfold maxLen; omega) (by omega) (by simp; omega) ?_; intro v' w9 hown' hgrow hnil hloc; obtain ⟨_, A9, c9, e9, _⟩ := own_reads_any hown'; subst e9; obtain ⟨hc9, hf9, hG9⟩ := HBACK.out w9 _ k (congrArg (fun a : Nat => (a : Int)) HL.out.symm) ((World.grownBy_alloc _ _ _).trans hgrow) (HOI.out.appended hown' (WalkArith.wf_i64 (by omega))) (hloc.imp id (fun h => ⟨_, h, by simp⟩)); have HG9 := Lib.hid hG9; clear hG9 hgrow hnil hloc hown'))
              go_roundw
              case rel => exact ⟨k + 1, by omega, by go_num, hall2, by rw [← HS.out]; exact HG9.out⟩
              case measure => simp [intOf]; omega
    · have e : k = n := by omega
      subst e
      have hlen : zs.length = k := hs.1
      have hall2 : gE c f zs = 0 := gE_all H0.out fun j hj => hall.out j (by omega)
      have hG2 := hG.out
      rw [List.take_of_length_le (by omega)] at hG2
      have R := Lib.hid (hG2.ends hall2 HB1.out)
      clear hall2 hG2 hlen
      go_wp2
      go_ret3
      exact R.out

end Go.Proofs.Ytnjjkcnokkhlkaa
