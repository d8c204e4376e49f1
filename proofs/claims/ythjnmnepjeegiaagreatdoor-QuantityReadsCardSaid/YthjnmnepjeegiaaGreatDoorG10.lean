/- Texts of units: factors of the program. Texts of units: what the world of ParseUnit holds. Factors of a text, plainly: their numbers and powers are small. The unit of factors, plainly: step by step. -/
import Derived.Test.YthjnmnepjeegiaaGreatDoorG8
import Derived.Test.YthjnmnepjeegiaaGreatDoorG9
import Derived.Deep.DeepCutAuto
import Derived.Deep.LoopGhost
/- Texts of units: factors of the program. -/
namespace Go.Proofs.YthjnmnepjeegiaaGreatDoor
open Go.RowKit Go.Proofs.YthjnmnepjeegiaaGreatDoor.Dg Go.Proofs.YthjnmnepjeegiaaGreatDoor.Q Go.Proofs.YthjnmnepjeegiaaGreatDoor.Num Go.Proofs.YthjnmnepjeegiaaGreatDoor.Str

theorem Tryz.infoFac : (Tryz.prog.info? 37).map (fun i => (i.zero, i.size, i.bytes)) = some (some (.agg #[.string ⟨#[]⟩, .string ⟨#[]⟩, .string ⟨#[]⟩, .bool false, .int .i64 0, .int .i64 0, .int .i64 0, .int .i64 0, .int .i64 0, .int .i64 0, .int .i64 0, .int .i64 0, .bool false]), 13, 128) := by kernel_rfl
theorem PF.len (x : PF) : x.L.length = 13 := rfl
/-- What factors gives. -/
def FacQ (o : Option (List PF)) (w : World) (e : Ending) (w' : World) : Prop := match o with
  | none => e = .returned (.tuple #[.slice none 0 0, .int .i64 10]) ∧ Below w.heap.size w w'
  | some xs => ∃ v, e = .returned (.tuple #[v, .int .i64 0]) ∧ w'.ownsRow w.heap.size 37 13 v xs.length (xs.flatMap PF.L) ∧ Below w.heap.size w w'
theorem cells13 {w : World} {g : Nat} {t : TypeId} {a0 a1 a2 a3 a4 a5 a6 a7 a8 a9 a10 a11 a12 : Value} (h : Bk w g #[a0, a1, a2, a3, a4, a5, a6, a7, a8, a9, a10, a11, a12] t) : w.cell? ⟨g, 0, none⟩ = some a0 ∧ w.cell? ⟨g, 1, none⟩ = some a1 ∧ w.cell? ⟨g, 2, none⟩ = some a2 ∧ w.cell? ⟨g, 3, none⟩ = some a3 ∧ w.cell? ⟨g, 4, none⟩ = some a4 ∧ w.cell? ⟨g, 5, none⟩ = some a5 ∧ w.cell? ⟨g, 6, none⟩ = some a6 ∧ w.cell? ⟨g, 7, none⟩ = some a7 ∧ w.cell? ⟨g, 8, none⟩ = some a8 ∧ w.cell? ⟨g, 9, none⟩ = some a9 ∧ w.cell? ⟨g, 10, none⟩ = some a10 ∧ w.cell? ⟨g, 11, none⟩ = some a11 ∧ w.cell? ⟨g, 12, none⟩ = some a12 :=
  ⟨h.cell 0, h.cell 1, h.cell 2, h.cell 3, h.cell 4, h.cell 5, h.cell 6, h.cell 7, h.cell 8, h.cell 9, h.cell 10, h.cell 11, h.cell 12⟩
theorem Bk.frozen13 {w : World} {g : Nat} {t : TypeId} {C : Array Value} (h : Bk w g C t) : w.frozen? ⟨g, 0, none⟩ = false ∧ w.frozen? ⟨g, 1, none⟩ = false ∧ w.frozen? ⟨g, 2, none⟩ = false ∧ w.frozen? ⟨g, 3, none⟩ = false ∧ w.frozen? ⟨g, 4, none⟩ = false ∧ w.frozen? ⟨g, 5, none⟩ = false ∧ w.frozen? ⟨g, 6, none⟩ = false ∧ w.frozen? ⟨g, 7, none⟩ = false ∧ w.frozen? ⟨g, 8, none⟩ = false ∧ w.frozen? ⟨g, 9, none⟩ = false ∧ w.frozen? ⟨g, 10, none⟩ = false ∧ w.frozen? ⟨g, 11, none⟩ = false ∧ w.frozen? ⟨g, 12, none⟩ = false :=
  ⟨h.frozen 0, h.frozen 1, h.frozen 2, h.frozen 3, h.frozen 4, h.frozen 5, h.frozen 6, h.frozen 7, h.frozen 8, h.frozen 9, h.frozen 10, h.frozen 11, h.frozen 12⟩
theorem pfac_end {k : Nat} {sg : Int} {acc : List PF} {l : List UInt8} {x : PF} (h : pstep sg l = some (x, [])) : pfac (k + 1) sg acc l = some (acc ++ [x]) := by
  rw [pfac, h]
theorem pfac_more {k : Nat} {sg : Int} {acc : List PF} {l : List UInt8} {x : PF} {c : UInt8} {r : List UInt8} (h : pstep sg l = some (x, c :: r)) :
    pfac (k + 1) sg acc l = if c = 32 then pfac k 1 (acc ++ [x]) r else if c = 47 then pfac k (-1) (acc ++ [x]) r else none := by
  rw [pfac, h]
theorem pfac_none {k : Nat} {sg : Int} {acc : List PF} {l : List UInt8} (h : pstep sg l = none) : pfac (k + 1) sg acc l = none := by
  rw [pfac, h]
theorem cutcaret_any (S : ByteArray) (w : World) : Calls Tryz.prog 25 #[.string S, .string ⟨#[94]⟩] w fun e w' =>
    e = .returned (.tuple #[.string ⟨(if (bl S).head? = some 94 then (bl S).tail else bl S).toArray⟩, .bool (decide ((bl S).head? = some 94))]) ∧ w = w' := by
  refine (Tryz.strings_CutPrefix S ⟨#[94]⟩ w).mono ?_
  rintro e w' ⟨rfl, rfl⟩
  have h1 : Lib.hasPrefix (bl S) [94] = decide ((bl S).head? = some 94) := by
    cases h : bl S with
    | nil => rfl
    | cons x l =>
      unfold Lib.hasPrefix
      show (94 == x && true) = decide (some x = some 94)
      rw [Bool.and_true, Bool.eq_iff_iff, beq_iff_eq, decide_eq_true_iff]
      exact ⟨fun e => by rw [e], fun e => by injection e with e; exact e.symm⟩
  have h2 : Lib.trimPrefix (bl S) [94] = if (bl S).head? = some 94 then (bl S).tail else bl S := by
    unfold Lib.trimPrefix
    rw [h1]
    by_cases h : (bl S).head? = some 94
    · rw [if_pos h, decide_eq_true h, if_pos rfl]; simp
    · rw [if_neg h, decide_eq_false h]; rfl
  refine ⟨?_, rfl⟩
  rw [← h1, ← h2]; rfl

theorem body_cnt (l : List UInt8) : (body l).length + (if isNeg l = true then 1 else 0) = l.length := by
  unfold body
  cases h : isNeg l
  · simp
  · rw [if_pos rfl]
    cases l with
    | nil => cases h
    | cons a l => simp
theorem pexp_bounds {l : List UInt8} {e : Int} {n : Nat} (h : pexp l = some (e, n)) : -1000 ≤ e ∧ e ≤ 1000 ∧ n ≤ l.length := by
  unfold pexp at h
  split at h
  · cases h
  · dsimp only at h
    have h1 := cnt_le (body l)
    have h2 := body_cnt l
    have hd := allD_dw (p := (· == 48)) (allD_tw (body l))
    generalize ((body l).take (cnt (body l))).dropWhile (· == 48) = t at *
    have h3 : (if t.length ≤ 2 then val t else 1000) ≤ 1000 := by
      split
      · have := val_lt t hd
        have h4 : (10 : Nat) ^ t.length ≤ 10 ^ 2 := Nat.pow_le_pow_right (by decide) (by assumption)
        omega
      · exact Nat.le_refl _
    generalize (if t.length ≤ 2 then val t else 1000) = m at *
    injection h with h
    cases hn : isNeg l
    · rw [hn] at h h2
      simp at h h2
      omega
    · rw [hn] at h h2
      simp at h h2
      omega
theorem take_ext (S : ByteArray) (n : Nat) : bl (S.extract 0 n) = (bl S).take n := by rw [bl_cut]; simp
theorem drop_ext (S : ByteArray) (n : Nat) : bl (S.extract n S.size) = (bl S).drop n := by rw [bl_cut, List.take_of_length_le (by rw [List.length_drop, bl_len]; exact Nat.le_refl _)]
theorem ext_size (S : ByteArray) (n : Nat) : (S.extract n S.size).size ≤ S.size := by rw [← bl_len, drop_ext, List.length_drop, bl_len]; omega
theorem numb_le (l : List UInt8) : numb l ≤ l.length := by
  unfold numb
  have h1 := cnt_le l
  have h2 := cnt_le (l.drop (cnt l + 1))
  rw [List.length_drop] at h2
  split
  · rename_i h
    split
    · have : cnt l < l.length := by
        rcases Nat.lt_or_ge (cnt l) l.length with h3 | h3
        · exact h3
        · rw [List.getElem?_eq_none h3] at h
          rcases h.2 with h4 | h4 <;> cases h4
      omega
    · exact h1
  · exact h1
theorem wrd_le (l : List UInt8) : wrd l ≤ l.length := by unfold wrd; exact (List.takeWhile_sublist _).length_le
theorem cells_new (w : World) (l : List Value) (t : TypeId) : ∀ j u, l[j]? = some u → (w.alloc (.cells l.toArray t)).cell? ((⟨w.heap.size, 0, none⟩ : Addr).add j) = some u := by
  intro j u hu
  have h := (Bk.new w l.toArray t).cell j
  rw [List.getElem?_toArray, hu] at h
  rcases Nat.eq_zero_or_pos j with h0 | h0
  · subst h0; simpa [Addr.add] using h
  · have h1 : j ≠ 0 := by omega
    simpa [Addr.add, h1] using h
theorem PF.one (x : PF) : ∀ u ∈ x.L, u.oneCell' = true := by
  intro u hu
  simp only [PF.L, Sy.L, List.cons_append, List.nil_append, List.mem_cons, List.not_mem_nil, or_false] at hu
  rcases hu with rfl | rfl | rfl | rfl | rfl | rfl | rfl | rfl | rfl | rfl | rfl | rfl | rfl <;> rfl
theorem flat_snoc {α β : Type} (f : α → List β) (l : List α) (x : α) : (l ++ [x]).flatMap f = l.flatMap f ++ f x := by simp

set_option maxRecDepth 100000 in
set_option maxHeartbeats 12800000 in
theorem factors_any (S : ByteArray) (hs : S.size ≤ 1000) (w : World) (hw : Wf w) : Calls Tryz.prog 8 #[.string S] w (FacQ (pfac (S.size + 1) 1 [] (bl S)) w) := by
  obtain ⟨R, hR⟩ : ∃ R, pfac (S.size + 1) 1 [] (bl S) = R := ⟨_, rfl⟩
  rw [hR]
  have HR := Lib.hid hR
  clear hR
  obtain ⟨i0, hi, hz0, hz1, hz2⟩ := info_parts Tryz.infoFac
  go_enter Tryz.func8, Tryz.ntmps8
  go_wp2
  go_loopg [0, 4, 5] (S.size + 1) (fun g s out sg wr => ∃ (S' : ByteArray) (xs : List PF) (sgn : Int), s = .string S' ∧ sg = .int .i64 sgn ∧ (sgn = 1 ∨ sgn = -1) ∧ S'.size < g ∧ xs.length + S'.size ≤ 1000 ∧ Hid (pfac g sgn xs (bl S') = R) ∧ Hid (wr.ownsRow w.heap.size 37 13 out xs.length (xs.flatMap PF.L)) ∧ Hid (Below w.heap.size w wr))
  case atStart => exact ⟨S, [], 1, rfl, rfl, .inl rfl, Nat.lt_succ_self _, by simpa using hs, HR, Lib.hid (World.ownsRow_nil _ _ _ _), Lib.hid (Below.refl _ _)⟩
  case round =>
    obtain ⟨S', xs, sgn, rfl, rfl, hsg, hlt, hsz, hF, hO, hB⟩ := hrel
    clear HR
    obtain ⟨k, rfl⟩ : ∃ k, gk = k + 1 := ⟨gk - 1, by omega⟩
    have hs' : S'.size ≤ 1000 := by omega
    have sb : (S'.size : Int) ≤ 1000 := by omega
    have NU := fun w => number_any S' hs' w
    have WD := fun w => word_any S' hs' w
    obtain ⟨SB, hSB⟩ : ∃ b : Bool, (sgn == 1) = b := ⟨_, rfl⟩
    have HSB := Lib.hid (show SB = decide (sgn = 1) by rw [← hSB]; rfl)
    have hw1 := Lib.hid (hw.up hB.out)
    obtain ⟨N, hN⟩ : ∃ N, numb (bl S') = N := ⟨_, rfl⟩
    rw [hN] at NU
    have HN := Lib.hid hN
    clear hN
    go_upto_if 24 with (go_at_call 21; go_loud (refine (NU _).mono ?_; rintro e w1 ⟨rfl, hb⟩; have b1 := Lib.hid hb; clear hb))
    go_cut [0] (fun s wx => ∃ (S2 : ByteArray) (x : PF), s = .string S2 ∧ Hid (pstep sgn (bl S') = some (x, bl S2)) ∧ S2.size ≤ S'.size ∧ Hid (Bk wx wr.heap.size x.L.toArray 37) ∧ Hid (Below wr.heap.size wr wx))
    case first =>
      have hz := Lib.hid ((Bk.new wr #[.string ⟨#[]⟩, .string ⟨#[]⟩, .string ⟨#[]⟩, .bool false, .int .i64 0, .int .i64 0, .int .i64 0, .int .i64 0, .int .i64 0, .int .i64 0, .int .i64 0, .int .i64 sgn, .bool SB] 37).up b1.out)
      have bz := Lib.hid (btrans (show Below wr.heap.size wr (wr.alloc (.cells #[.string ⟨#[]⟩, .string ⟨#[]⟩, .string ⟨#[]⟩, .bool false, .int .i64 0, .int .i64 0, .int .i64 0, .int .i64 0, .int .i64 0, .int .i64 0, .int .i64 0, .int .i64 sgn, .bool SB] 37)) from (Below.refl _ wr).alloc (Nat.le_refl _) _) b1.out)
      have hNl := numb_le (bl S')
      rw [HN.out, bl_len] at hNl
      clear NU b1
      by_cases hn : 0 < N
      · have hn' : (0 : Int) < (N : Int) := by omega
        have nb : (N : Int) ≤ (S'.size : Int) := by omega
        have PA := fun w' (hb : Below w.heap.size w w') => qParse_any (S'.extract 0 N) (by rw [← bl_len, take_ext, List.length_take, bl_len]; omega) w' (hw.up hb)
        rw [take_ext] at PA
        have hql : ¬ 1000 < ((bl S').take N).length := by rw [List.length_take, bl_len]; omega
        have hst : pstep sgn (bl S') = match frm ((bl S').take N) with
          | some q => if short q = true ∧ q ≠ 0 then some (⟨⟨[], txt q, [48], false, ⟨0, 0, 0, 0, 0, 0, 0⟩⟩, sgn, decide (sgn = 1)⟩, (bl S').drop N) else none
          | none => none := by
          unfold pstep
          rw [HN.out, if_pos hn]
          rfl
        unfold qparse at PA
        rw [if_neg hql] at PA
        clear hql hn WD
        cases hf : frm ((bl S').take N) with
        | none =>
          rw [hf] at PA hst
          have hR := hF.out
          rw [pfac_none hst] at hR
          subst hR
          clear hf hst hF
          dsimp only at PA
          go_wp2_with (go_at_call 22; go_loud (refine (PA _ (btrans hB.out bz.out)).mono ?_; rintro e w2 ⟨rfl, hb⟩; have hz2 := Lib.hid (hz.out.up hb); have bz2 := Lib.hid (btrans bz.out hb); obtain ⟨c0, c1, c2, c3, c4, c5, c6, c7, c8, c9, c10, c11, c12⟩ := cells13 (show Bk w2 wr.heap.size #[.string ⟨#[]⟩, .string ⟨#[]⟩, .string ⟨#[]⟩, .bool false, .int .i64 0, .int .i64 0, .int .i64 0, .int .i64 0, .int .i64 0, .int .i64 0, .int .i64 0, .int .i64 sgn, .bool SB] _ from hz2.out); obtain ⟨f0, f1, f2, f3, f4, f5, f6, f7, f8, f9, f10, f11, f12⟩ := hz2.out.frozen13; clear hb))
          go_ret2
          exact ⟨rfl, btrans hB.out bz2.out⟩
        | some q =>
          rw [hf] at PA hst
          clear hf
          dsimp only at PA hst
          by_cases hsq : short q = true
          · rw [if_pos hsq] at PA
            dsimp only at PA
            by_cases hq0 : q = 0
            · rw [if_neg (fun h => h.2 hq0)] at hst
              have hR := hF.out
              rw [pfac_none hst] at hR
              subst hR hq0
              rw [txt_zero] at PA
              clear hst hF hsq
              go_wp2_with (go_at_call 22; go_loud (refine (PA _ (btrans hB.out bz.out)).mono ?_; rintro e w2 ⟨rfl, hb⟩; have hz2 := Lib.hid (hz.out.up hb); have bz2 := Lib.hid (btrans bz.out hb); obtain ⟨c0, c1, c2, c3, c4, c5, c6, c7, c8, c9, c10, c11, c12⟩ := cells13 (show Bk w2 wr.heap.size #[.string ⟨#[]⟩, .string ⟨#[]⟩, .string ⟨#[]⟩, .bool false, .int .i64 0, .int .i64 0, .int .i64 0, .int .i64 0, .int .i64 0, .int .i64 0, .int .i64 0, .int .i64 sgn, .bool SB] _ from hz2.out); obtain ⟨f0, f1, f2, f3, f4, f5, f6, f7, f8, f9, f10, f11, f12⟩ := hz2.out.frozen13; clear hb))
              go_ret2
              exact ⟨rfl, btrans hB.out bz2.out⟩
            · rw [if_pos ⟨hsq, hq0⟩] at hst
              have hne : txt q ≠ [48] := fun h => hq0 (txt_inj (h.trans txt_zero.symm))
              obtain ⟨T, hT⟩ : ∃ T : ByteArray, (⟨(txt q).toArray⟩ : ByteArray) = T := ⟨_, rfl⟩
              rw [hT] at PA
              have hTe : (T.toList == [48]) = false := by rw [eqS, ← hT, bl_mk]; exact decide_eq_false hne
              have hst2 := Lib.hid hst
              have HT := Lib.hid hT
              clear hst hF hsq hq0 hne hT
              go_wp2_with (go_at_call 22; go_loud (refine (PA _ (btrans hB.out bz.out)).mono ?_; rintro e w2 ⟨rfl, hb⟩; have hz2 := Lib.hid (hz.out.up hb); have bz2 := Lib.hid (btrans bz.out hb); obtain ⟨c0, c1, c2, c3, c4, c5, c6, c7, c8, c9, c10, c11, c12⟩ := cells13 (show Bk w2 wr.heap.size #[.string ⟨#[]⟩, .string ⟨#[]⟩, .string ⟨#[]⟩, .bool false, .int .i64 0, .int .i64 0, .int .i64 0, .int .i64 0, .int .i64 0, .int .i64 0, .int .i64 0, .int .i64 sgn, .bool SB] _ from hz2.out); obtain ⟨f0, f1, f2, f3, f4, f5, f6, f7, f8, f9, f10, f11, f12⟩ := hz2.out.frozen13; clear hb))
              go_meet
              have hbk := Bk.put_mid [.string ⟨#[]⟩, .string T, .string ⟨#[48]⟩, .bool false, .int .i64 0, .int .i64 0, .int .i64 0, .int .i64 0, .int .i64 0, .int .i64 0, .int .i64 0] [] [.string ⟨#[]⟩, .string ⟨#[]⟩, .string ⟨#[]⟩, .bool false, .int .i64 0, .int .i64 0, .int .i64 0, .int .i64 0, .int .i64 0, .int .i64 0, .int .i64 0] [.int .i64 sgn, .bool SB] hz2.out rfl
              rw [← drop_ext] at hst2
              refine ⟨S'.extract N S'.size, ⟨⟨[], txt q, [48], false, ⟨0, 0, 0, 0, 0, 0, 0⟩⟩, sgn, decide (sgn = 1)⟩, rfl, hst2, ext_size _ _, Lib.hid ?_, Lib.hid (put11_below bz2.out (Nat.le_refl _))⟩
              have e1 := HSB.out
              have e2 := HT.out
              subst e1 e2
              exact hbk
          · rw [if_neg hsq] at PA
            rw [if_neg (fun h => hsq h.1)] at hst
            have hR := hF.out
            rw [pfac_none hst] at hR
            subst hR
            clear hst hF hsq
            dsimp only at PA
            go_wp2_with (go_at_call 22; go_loud (refine (PA _ (btrans hB.out bz.out)).mono ?_; rintro e w2 ⟨rfl, hb⟩; have hz2 := Lib.hid (hz.out.up hb); have bz2 := Lib.hid (btrans bz.out hb); obtain ⟨c0, c1, c2, c3, c4, c5, c6, c7, c8, c9, c10, c11, c12⟩ := cells13 (show Bk w2 wr.heap.size #[.string ⟨#[]⟩, .string ⟨#[]⟩, .string ⟨#[]⟩, .bool false, .int .i64 0, .int .i64 0, .int .i64 0, .int .i64 0, .int .i64 0, .int .i64 0, .int .i64 0, .int .i64 sgn, .bool SB] _ from hz2.out); obtain ⟨f0, f1, f2, f3, f4, f5, f6, f7, f8, f9, f10, f11, f12⟩ := hz2.out.frozen13; clear hb))
            go_ret2
            exact ⟨rfl, btrans hB.out bz2.out⟩
      · have hn' : ¬ (0 : Int) < (N : Int) := by omega
        obtain ⟨M, hM⟩ : ∃ M, wrd (bl S') = M := ⟨_, rfl⟩
        have hMl := wrd_le (bl S')
        rw [hM, bl_len] at hMl
        have mb : (M : Int) ≤ (S'.size : Int) := by omega
        rw [hM] at WD
        have FD := fun w' (hb : Below w.heap.size w w') => find_any (S'.extract 0 M) (by rw [← bl_len, take_ext, List.length_take, bl_len]; omega) w' (hw.up hb)
        obtain ⟨U, hU⟩ : ∃ U : ByteArray, S'.extract M S'.size = U := ⟨_, rfl⟩
        have hUl : (bl S').drop M = bl U := by rw [← hU, drop_ext]
        have hUs : U.size ≤ S'.size := by rw [← hU]; exact ext_size _ _
        have hst : pstep sgn (bl S') = match sfind ((bl S').take M) with
          | none => none
          | some y => if (bl U).head? = some 94 then match pexp (bl U).tail with
              | none => none
              | some (e, n) => some (⟨y, sgn * e, false⟩, (bl U).tail.drop n)
            else some (⟨y, sgn, decide (sgn = 1)⟩, bl U) := by
          unfold pstep
          rw [HN.out, if_neg hn, hM, hUl]
          rfl
        rw [take_ext] at FD
        clear hM hUl hn
        cases hf : sfind ((bl S').take M) with
        | none =>
          rw [hf] at FD hst
          have hR := hF.out
          rw [pfac_none hst] at hR
          subst hR
          clear hf hst hF
          have FD := fun w' hb => (FD w' hb).mono fun e w2 h => (show e = Ending.returned (.tuple #[.agg #[.string ⟨#[]⟩, .string ⟨#[]⟩, .string ⟨#[]⟩, .bool false, .int .i64 0, .int .i64 0, .int .i64 0, .int .i64 0, .int .i64 0, .int .i64 0, .int .i64 0], .bool false]) ∧ Below w'.heap.size w' w2 from h)
          go_wp2_with (first | (go_at_call 23; go_loud (refine (WD _).mono ?_; rintro e wq ⟨rfl, rfl⟩)) | (go_at_call 24; go_loud (refine (FD _ (btrans hB.out bz.out)).mono ?_; rintro e w3 ⟨rfl, hb⟩; have hz3 := Lib.hid (hz.out.up hb); have bz3 := Lib.hid (btrans bz.out hb); obtain ⟨c0, c1, c2, c3, c4, c5, c6, c7, c8, c9, c10, c11, c12⟩ := cells13 (show Bk w3 wr.heap.size #[.string ⟨#[]⟩, .string ⟨#[]⟩, .string ⟨#[]⟩, .bool false, .int .i64 0, .int .i64 0, .int .i64 0, .int .i64 0, .int .i64 0, .int .i64 0, .int .i64 0, .int .i64 sgn, .bool SB] _ from hz3.out); obtain ⟨f0, f1, f2, f3, f4, f5, f6, f7, f8, f9, f10, f11, f12⟩ := hz3.out.frozen13; have hl3 : wr.heap.size < w3.heap.size := hz3.out.lt;  clear hb)))
          go_ret2
          exact ⟨rfl, below_alloc (btrans hB.out bz3.out) _⟩
        | some y =>
          obtain ⟨n, f, o, b, p0, p1, p2, p3, p4, p5, p6⟩ := y
          rw [hf] at FD hst
          have FD := fun w' hb => (FD w' hb).mono fun e w2 h => (show e = Ending.returned (.tuple #[.agg #[.string ⟨n.toArray⟩, .string ⟨f.toArray⟩, .string ⟨o.toArray⟩, .bool b, .int .i64 p0, .int .i64 p1, .int .i64 p2, .int .i64 p3, .int .i64 p4, .int .i64 p5, .int .i64 p6], .bool true]) ∧ Below w'.heap.size w' w2 from h)
          have CC := fun w => cutcaret_any U w
          clear hf
          dsimp only at hst
          by_cases hh : (bl U).head? = some 94
          · obtain ⟨V, hV⟩ : ∃ V : ByteArray, (⟨(bl U).tail.toArray⟩ : ByteArray) = V := ⟨_, rfl⟩
            have hVb : (bl U).tail = bl V := by rw [← hV]; rfl
            rw [if_pos hh, hV, decide_eq_true hh] at CC
            rw [if_pos hh, hVb] at hst
            have hVs : V.size ≤ U.size := by
              have := congrArg List.length hVb
              rw [List.length_tail, bl_len, bl_len] at this
              omega
            have EX := fun w' (hb : Below w.heap.size w w') => exponent_any V (by omega) w' (hw.up hb)
            clear hV hVb hh
            cases hp : pexp (bl V) with
            | none =>
              rw [hp] at EX hst
              have hR := hF.out
              rw [pfac_none hst] at hR
              subst hR
              clear hp hst hF
              unfold expV at EX
              dsimp only at EX
              go_wp2_with (first | (go_at_call 23; go_loud (refine (WD _).mono ?_; rintro e wq ⟨rfl, rfl⟩)) | (go_at_call 24; go_loud (refine (FD _ (btrans hB.out bz.out)).mono ?_; rintro e w3 ⟨rfl, hb⟩; have hz3 := Lib.hid (hz.out.up hb); have bz3 := Lib.hid (btrans bz.out hb); obtain ⟨c0, c1, c2, c3, c4, c5, c6, c7, c8, c9, c10, c11, c12⟩ := cells13 (show Bk w3 wr.heap.size #[.string ⟨#[]⟩, .string ⟨#[]⟩, .string ⟨#[]⟩, .bool false, .int .i64 0, .int .i64 0, .int .i64 0, .int .i64 0, .int .i64 0, .int .i64 0, .int .i64 0, .int .i64 sgn, .bool SB] _ from hz3.out); obtain ⟨f0, f1, f2, f3, f4, f5, f6, f7, f8, f9, f10, f11, f12⟩ := hz3.out.frozen13; have hl3 : wr.heap.size < w3.heap.size := hz3.out.lt; have bput := Lib.hid ((Bk.put_mid [.string ⟨n.toArray⟩, .string ⟨f.toArray⟩, .string ⟨o.toArray⟩, .bool b, .int .i64 p0, .int .i64 p1, .int .i64 p2, .int .i64 p3, .int .i64 p4, .int .i64 p5, .int .i64 p6] [] [.string ⟨#[]⟩, .string ⟨#[]⟩, .string ⟨#[]⟩, .bool false, .int .i64 0, .int .i64 0, .int .i64 0, .int .i64 0, .int .i64 0, .int .i64 0, .int .i64 0] [.int .i64 sgn, .bool SB] hz3.out rfl).alloc (D := #[.string ⟨n.toArray⟩, .string ⟨f.toArray⟩, .string ⟨o.toArray⟩, .bool b, .int .i64 p0, .int .i64 p1, .int .i64 p2, .int .i64 p3, .int .i64 p4, .int .i64 p5, .int .i64 p6]) (u := 35)); have bq := Lib.hid (below_alloc (put11_below (v0 := .string ⟨n.toArray⟩) (v1 := .string ⟨f.toArray⟩) (v2 := .string ⟨o.toArray⟩) (v3 := .bool b) (v4 := .int .i64 p0) (v5 := .int .i64 p1) (v6 := .int .i64 p2) (v7 := .int .i64 p3) (v8 := .int .i64 p4) (v9 := .int .i64 p5) (v10 := .int .i64 p6) bz3.out (Nat.le_refl wr.heap.size)) (.cells #[.string ⟨n.toArray⟩, .string ⟨f.toArray⟩, .string ⟨o.toArray⟩, .bool b, .int .i64 p0, .int .i64 p1, .int .i64 p2, .int .i64 p3, .int .i64 p4, .int .i64 p5, .int .i64 p6] 35)); clear hb)) | (go_at_call 25; go_loud (refine (CC _).mono ?_; rintro e wq ⟨rfl, rfl⟩)) | (go_at_call 26; go_loud (refine (EX _ (btrans hB.out bq.out)).mono ?_; rintro e w5 ⟨rfl, hb⟩; have b5 := Lib.hid ((show Bk _ wr.heap.size #[.string ⟨n.toArray⟩, .string ⟨f.toArray⟩, .string ⟨o.toArray⟩, .bool b, .int .i64 p0, .int .i64 p1, .int .i64 p2, .int .i64 p3, .int .i64 p4, .int .i64 p5, .int .i64 p6, .int .i64 sgn, .bool SB] 37 from bput.out).up hb); have bz5 := Lib.hid (btrans bq.out hb); clear c0 c1 c2 c3 c4 c5 c6 c7 c8 c9 c10 c11 c12 f0 f1 f2 f3 f4 f5 f6 f7 f8 f9 f10 f11 f12; obtain ⟨c0, c1, c2, c3, c4, c5, c6, c7, c8, c9, c10, c11, c12⟩ := cells13 (show Bk w5 wr.heap.size #[.string ⟨n.toArray⟩, .string ⟨f.toArray⟩, .string ⟨o.toArray⟩, .bool b, .int .i64 p0, .int .i64 p1, .int .i64 p2, .int .i64 p3, .int .i64 p4, .int .i64 p5, .int .i64 p6, .int .i64 sgn, .bool SB] _ from b5.out); obtain ⟨f0, f1, f2, f3, f4, f5, f6, f7, f8, f9, f10, f11, f12⟩ := b5.out.frozen13; clear hb)))
              go_ret2
              exact ⟨rfl, btrans hB.out bz5.out⟩
            | some en =>
              obtain ⟨e, m⟩ := en
              obtain ⟨x1, x2, x3⟩ := pexp_bounds hp
              rw [bl_len] at x3
              rw [hp] at EX hst
              unfold expV at EX
              dsimp only at EX hst
              have mv : (m : Int) ≤ (V.size : Int) := by omega
              have vs : (V.size : Int) ≤ 1000 := by omega
              rw [← drop_ext] at hst
              have HST := Lib.hid hst
              clear hp hst hF
              obtain ⟨d, hd⟩ : ∃ d, sgn * e = d := ⟨_, rfl⟩
              have d1 : -1000 ≤ d ∧ d ≤ 1000 := by rcases hsg with h | h <;> subst h <;> omega
              obtain ⟨d1, d2⟩ := d1
              have HST2 := HST.out
              rw [hd] at HST2
              have HST3 := Lib.hid HST2
              clear HST HST2 hsg
              go_wp2_with (first | (go_at_call 23; go_loud (refine (WD _).mono ?_; rintro e wq ⟨rfl, rfl⟩)) | (go_at_call 24; go_loud (refine (FD _ (btrans hB.out bz.out)).mono ?_; rintro e w3 ⟨rfl, hb⟩; have hz3 := Lib.hid (hz.out.up hb); have bz3 := Lib.hid (btrans bz.out hb); obtain ⟨c0, c1, c2, c3, c4, c5, c6, c7, c8, c9, c10, c11, c12⟩ := cells13 (show Bk w3 wr.heap.size #[.string ⟨#[]⟩, .string ⟨#[]⟩, .string ⟨#[]⟩, .bool false, .int .i64 0, .int .i64 0, .int .i64 0, .int .i64 0, .int .i64 0, .int .i64 0, .int .i64 0, .int .i64 sgn, .bool SB] _ from hz3.out); obtain ⟨f0, f1, f2, f3, f4, f5, f6, f7, f8, f9, f10, f11, f12⟩ := hz3.out.frozen13; have hl3 : wr.heap.size < w3.heap.size := hz3.out.lt; have bput := Lib.hid ((Bk.put_mid [.string ⟨n.toArray⟩, .string ⟨f.toArray⟩, .string ⟨o.toArray⟩, .bool b, .int .i64 p0, .int .i64 p1, .int .i64 p2, .int .i64 p3, .int .i64 p4, .int .i64 p5, .int .i64 p6] [] [.string ⟨#[]⟩, .string ⟨#[]⟩, .string ⟨#[]⟩, .bool false, .int .i64 0, .int .i64 0, .int .i64 0, .int .i64 0, .int .i64 0, .int .i64 0, .int .i64 0] [.int .i64 sgn, .bool SB] hz3.out rfl).alloc (D := #[.string ⟨n.toArray⟩, .string ⟨f.toArray⟩, .string ⟨o.toArray⟩, .bool b, .int .i64 p0, .int .i64 p1, .int .i64 p2, .int .i64 p3, .int .i64 p4, .int .i64 p5, .int .i64 p6]) (u := 35)); have bq := Lib.hid (below_alloc (put11_below (v0 := .string ⟨n.toArray⟩) (v1 := .string ⟨f.toArray⟩) (v2 := .string ⟨o.toArray⟩) (v3 := .bool b) (v4 := .int .i64 p0) (v5 := .int .i64 p1) (v6 := .int .i64 p2) (v7 := .int .i64 p3) (v8 := .int .i64 p4) (v9 := .int .i64 p5) (v10 := .int .i64 p6) bz3.out (Nat.le_refl wr.heap.size)) (.cells #[.string ⟨n.toArray⟩, .string ⟨f.toArray⟩, .string ⟨o.toArray⟩, .bool b, .int .i64 p0, .int .i64 p1, .int .i64 p2, .int .i64 p3, .int .i64 p4, .int .i64 p5, .int .i64 p6] 35)); clear hb)) | (go_at_call 25; go_loud (refine (CC _).mono ?_; rintro e wq ⟨rfl, rfl⟩)) | (go_at_call 26; go_loud (refine (EX _ (btrans hB.out bq.out)).mono ?_; rintro e w5 ⟨rfl, hb⟩; have b5 := Lib.hid ((show Bk _ wr.heap.size #[.string ⟨n.toArray⟩, .string ⟨f.toArray⟩, .string ⟨o.toArray⟩, .bool b, .int .i64 p0, .int .i64 p1, .int .i64 p2, .int .i64 p3, .int .i64 p4, .int .i64 p5, .int .i64 p6, .int .i64 sgn, .bool SB] 37 from bput.out).up hb); have bz5 := Lib.hid (btrans bq.out hb); clear c0 c1 c2 c3 c4 c5 c6 c7 c8 c9 c10 c11 c12 f0 f1 f2 f3 f4 f5 f6 f7 f8 f9 f10 f11 f12; obtain ⟨c0, c1, c2, c3, c4, c5, c6, c7, c8, c9, c10, c11, c12⟩ := cells13 (show Bk w5 wr.heap.size #[.string ⟨n.toArray⟩, .string ⟨f.toArray⟩, .string ⟨o.toArray⟩, .bool b, .int .i64 p0, .int .i64 p1, .int .i64 p2, .int .i64 p3, .int .i64 p4, .int .i64 p5, .int .i64 p6, .int .i64 sgn, .bool SB] _ from b5.out); obtain ⟨f0, f1, f2, f3, f4, f5, f6, f7, f8, f9, f10, f11, f12⟩ := b5.out.frozen13; clear hb)))
              go_meet
              refine ⟨V.extract m V.size, ⟨⟨n, f, o, b, ⟨p0, p1, p2, p3, p4, p5, p6⟩⟩, d, false⟩, rfl, HST3, Nat.le_trans (ext_size _ _) (Nat.le_trans hVs hUs), Lib.hid ?_, Lib.hid ((bz5.out.setCell (Nat.le_refl _) _).setCell (Nat.le_refl _) _)⟩
              exact (b5.out.set (i := 11) (.int .i64 d)).set (i := 12) (.bool false)
          · rw [if_neg hh, decide_eq_false hh] at CC
            rw [if_neg hh] at hst
            have hst2 := Lib.hid hst
            clear hst hF hh
            go_wp2_with (first | (go_at_call 23; go_loud (refine (WD _).mono ?_; rintro e wq ⟨rfl, rfl⟩)) | (go_at_call 24; go_loud (refine (FD _ (btrans hB.out bz.out)).mono ?_; rintro e w3 ⟨rfl, hb⟩; have hz3 := Lib.hid (hz.out.up hb); have bz3 := Lib.hid (btrans bz.out hb); obtain ⟨c0, c1, c2, c3, c4, c5, c6, c7, c8, c9, c10, c11, c12⟩ := cells13 (show Bk w3 wr.heap.size #[.string ⟨#[]⟩, .string ⟨#[]⟩, .string ⟨#[]⟩, .bool false, .int .i64 0, .int .i64 0, .int .i64 0, .int .i64 0, .int .i64 0, .int .i64 0, .int .i64 0, .int .i64 sgn, .bool SB] _ from hz3.out); obtain ⟨f0, f1, f2, f3, f4, f5, f6, f7, f8, f9, f10, f11, f12⟩ := hz3.out.frozen13; have hl3 : wr.heap.size < w3.heap.size := hz3.out.lt; have bput := Lib.hid ((Bk.put_mid [.string ⟨n.toArray⟩, .string ⟨f.toArray⟩, .string ⟨o.toArray⟩, .bool b, .int .i64 p0, .int .i64 p1, .int .i64 p2, .int .i64 p3, .int .i64 p4, .int .i64 p5, .int .i64 p6] [] [.string ⟨#[]⟩, .string ⟨#[]⟩, .string ⟨#[]⟩, .bool false, .int .i64 0, .int .i64 0, .int .i64 0, .int .i64 0, .int .i64 0, .int .i64 0, .int .i64 0] [.int .i64 sgn, .bool SB] hz3.out rfl).alloc (D := #[.string ⟨n.toArray⟩, .string ⟨f.toArray⟩, .string ⟨o.toArray⟩, .bool b, .int .i64 p0, .int .i64 p1, .int .i64 p2, .int .i64 p3, .int .i64 p4, .int .i64 p5, .int .i64 p6]) (u := 35)); have bq := Lib.hid (below_alloc (put11_below (v0 := .string ⟨n.toArray⟩) (v1 := .string ⟨f.toArray⟩) (v2 := .string ⟨o.toArray⟩) (v3 := .bool b) (v4 := .int .i64 p0) (v5 := .int .i64 p1) (v6 := .int .i64 p2) (v7 := .int .i64 p3) (v8 := .int .i64 p4) (v9 := .int .i64 p5) (v10 := .int .i64 p6) bz3.out (Nat.le_refl wr.heap.size)) (.cells #[.string ⟨n.toArray⟩, .string ⟨f.toArray⟩, .string ⟨o.toArray⟩, .bool b, .int .i64 p0, .int .i64 p1, .int .i64 p2, .int .i64 p3, .int .i64 p4, .int .i64 p5, .int .i64 p6] 35)); clear hb)) | (go_at_call 25; go_loud (refine (CC _).mono ?_; rintro e wq ⟨rfl, rfl⟩)))
            go_meet
            refine ⟨U, ⟨⟨n, f, o, b, ⟨p0, p1, p2, p3, p4, p5, p6⟩⟩, sgn, decide (sgn = 1)⟩, rfl, hst2, hUs, Lib.hid ?_, bq⟩
            have e1 := HSB.out
            subst e1
            exact bput.out
    case rest =>
      obtain ⟨S2, x, rfl, hP, hle, hBk, hBx⟩ := hcut
      obtain ⟨⟨n, f, o, b, ⟨p0, p1, p2, p3, p4, p5, p6⟩⟩, e, br⟩ := x
      have hO2 := Lib.hid (ownM_below hO.out hBx.out)
      have hB2 := Lib.hid (btrans hB.out hBx.out)
      obtain ⟨c0, c1, c2, c3, c4, c5, c6, c7, c8, c9, c10, c11, c12⟩ := cells13 (show Bk wc wr.heap.size #[.string ⟨n.toArray⟩, .string ⟨f.toArray⟩, .string ⟨o.toArray⟩, .bool b, .int .i64 p0, .int .i64 p1, .int .i64 p2, .int .i64 p3, .int .i64 p4, .int .i64 p5, .int .i64 p6, .int .i64 e, .bool br] _ from hBk.out)
      have hlx : wr.heap.size < wc.heap.size := hBk.out.lt
      have sb2 : (S2.size : Int) ≤ 1000 := by omega
      have hes : S2.toList.isEmpty = decide (bl S2 = []) := emptyS S2
      by_cases hE : bl S2 = []
      · rw [decide_eq_true hE] at hes
        have hR := hF.out
        rw [hE] at hP
        rw [pfac_end hP.out] at hR
        subst hR
        clear hP hF hE
        go_wp2_with (at_builtin; refine wpList_append_own_at _ rfl (.tmp 82) (.tmp 84) _ rfl w.heap.size 37 i0 (.agg #[.string ⟨#[]⟩, .string ⟨#[]⟩, .string ⟨#[]⟩, .bool false, .int .i64 0, .int .i64 0, .int .i64 0, .int .i64 0, .int .i64 0, .int .i64 0, .int .i64 0, .int .i64 0, .bool false]) 13 128 Tryz.underlying31 hi hz0 hz1 hz2 rfl (by decide) _ _ _ rfl (ownM_below hO2.out ((Below.refl _ _).alloc (Nat.le_refl _) _)) ⟨wc.heap.size, 0, none⟩ 1 1 [.string ⟨n.toArray⟩, .string ⟨f.toArray⟩, .string ⟨o.toArray⟩, .bool b, .int .i64 p0, .int .i64 p1, .int .i64 p2, .int .i64 p3, .int .i64 p4, .int .i64 p5, .int .i64 p6, .int .i64 e, .bool br] rfl rfl (cells_new _ _ _) (PF.one (⟨⟨n, f, o, b, ⟨p0, p1, p2, p3, p4, p5, p6⟩⟩, e, br⟩ : PF)) (by unfold maxLen; omega) (by omega) (below_alloc hB2.out _).size ?_; intro v2 w2 a2 g2 m2 l2; have B2 := Lib.hid (grownM_below (ownM_below hO2.out ((Below.refl _ _).alloc (Nat.le_refl _) _)) (below_alloc hB2.out _) g2); have A2 := Lib.hid a2; clear a2 g2 m2 l2)
        go_ret2
        refine ⟨v2, rfl, ?_, B2.out⟩
        have h := A2.out
        rw [flat_snoc, List.length_append]
        exact h
      · rw [decide_eq_false hE] at hes
        have h0 : 0 < S2.size := by
          rcases Nat.eq_zero_or_pos S2.size with h | h
          · exact absurd (List.length_eq_zero_iff.1 (by rw [bl_len]; exact h)) hE
          · exact h
        have hi0 : (0 : Int) < (S2.size : Int) := by omega
        have hi1 : (1 : Int) ≤ (S2.size : Int) := by omega
        obtain ⟨T2, hT⟩ : ∃ T : ByteArray, S2.extract 1 S2.size = T := ⟨_, rfl⟩
        have hTl : bl S2 = S2[0] :: bl T2 := by
          have h1 := bl_at S2 0 h0
          cases hl : bl S2 with
          | nil => exact absurd hl hE
          | cons c r =>
            rw [hl] at h1
            injection h1 with h1
            rw [h1, ← hT, bl_cut, hl, List.take_of_length_le (by rw [List.length_drop, ← hl, bl_len]; omega)]
            rfl
        have hTs : T2.size + 1 = S2.size := by
          have := congrArg List.length hTl
          rw [bl_len, List.length_cons, bl_len] at this
          omega
        have hR := hF.out
        rw [hTl] at hP
        rw [pfac_more hP.out] at hR
        clear hP hF hE hTl
        have hlen : (xs ++ [(⟨⟨n, f, o, b, ⟨p0, p1, p2, p3, p4, p5, p6⟩⟩, e, br⟩ : PF)]).length = xs.length + 1 := by simp
        by_cases h32 : (S2[0].toNat : Int) = 32
        · rw [if_pos ((byte_eq S2[0] 32).1 h32)] at hR
          have HR := Lib.hid hR
          clear hR
          go_wp2_with (at_builtin; refine wpList_append_own_at _ rfl (.tmp 82) (.tmp 84) _ rfl w.heap.size 37 i0 (.agg #[.string ⟨#[]⟩, .string ⟨#[]⟩, .string ⟨#[]⟩, .bool false, .int .i64 0, .int .i64 0, .int .i64 0, .int .i64 0, .int .i64 0, .int .i64 0, .int .i64 0, .int .i64 0, .bool false]) 13 128 Tryz.underlying31 hi hz0 hz1 hz2 rfl (by decide) _ _ _ rfl (ownM_below hO2.out ((Below.refl _ _).alloc (Nat.le_refl _) _)) ⟨wc.heap.size, 0, none⟩ 1 1 [.string ⟨n.toArray⟩, .string ⟨f.toArray⟩, .string ⟨o.toArray⟩, .bool b, .int .i64 p0, .int .i64 p1, .int .i64 p2, .int .i64 p3, .int .i64 p4, .int .i64 p5, .int .i64 p6, .int .i64 e, .bool br] rfl rfl (cells_new _ _ _) (PF.one (⟨⟨n, f, o, b, ⟨p0, p1, p2, p3, p4, p5, p6⟩⟩, e, br⟩ : PF)) (by unfold maxLen; omega) (by omega) (below_alloc hB2.out _).size ?_; intro v2 w2 a2 g2 m2 l2; have B2 := Lib.hid (grownM_below (ownM_below hO2.out ((Below.refl _ _).alloc (Nat.le_refl _) _)) (below_alloc hB2.out _) g2); have A2 := Lib.hid a2; clear a2 g2 m2 l2)
          go_roundg k
          case measure => omega
          case rel =>
            refine ⟨T2, _, 1, rfl, rfl, .inl rfl, by omega, by rw [hlen]; omega, HR, Lib.hid ?_, B2⟩
            have h := A2.out
            rw [flat_snoc, hlen]
            exact h
        · rw [if_neg (fun h => h32 ((byte_eq S2[0] 32).2 h))] at hR
          have hb32 : ((S2[0].toNat : Int) == 32) = false := by rw [beq_eq_false_iff_ne]; exact h32
          by_cases h47 : (S2[0].toNat : Int) = 47
          · rw [if_pos ((byte_eq S2[0] 47).1 h47)] at hR
            have HR := Lib.hid hR
            clear hR
            go_wp2_with (at_builtin; refine wpList_append_own_at _ rfl (.tmp 82) (.tmp 84) _ rfl w.heap.size 37 i0 (.agg #[.string ⟨#[]⟩, .string ⟨#[]⟩, .string ⟨#[]⟩, .bool false, .int .i64 0, .int .i64 0, .int .i64 0, .int .i64 0, .int .i64 0, .int .i64 0, .int .i64 0, .int .i64 0, .bool false]) 13 128 Tryz.underlying31 hi hz0 hz1 hz2 rfl (by decide) _ _ _ rfl (ownM_below hO2.out ((Below.refl _ _).alloc (Nat.le_refl _) _)) ⟨wc.heap.size, 0, none⟩ 1 1 [.string ⟨n.toArray⟩, .string ⟨f.toArray⟩, .string ⟨o.toArray⟩, .bool b, .int .i64 p0, .int .i64 p1, .int .i64 p2, .int .i64 p3, .int .i64 p4, .int .i64 p5, .int .i64 p6, .int .i64 e, .bool br] rfl rfl (cells_new _ _ _) (PF.one (⟨⟨n, f, o, b, ⟨p0, p1, p2, p3, p4, p5, p6⟩⟩, e, br⟩ : PF)) (by unfold maxLen; omega) (by omega) (below_alloc hB2.out _).size ?_; intro v2 w2 a2 g2 m2 l2; have B2 := Lib.hid (grownM_below (ownM_below hO2.out ((Below.refl _ _).alloc (Nat.le_refl _) _)) (below_alloc hB2.out _) g2); have A2 := Lib.hid a2; clear a2 g2 m2 l2)
            go_roundg k
            case measure => omega
            case rel =>
              refine ⟨T2, _, -1, rfl, rfl, .inr rfl, by omega, by rw [hlen]; omega, HR, Lib.hid ?_, B2⟩
              have h := A2.out
              rw [flat_snoc, hlen]
              exact h
          · rw [if_neg (fun h => h47 ((byte_eq S2[0] 47).2 h))] at hR
            have hb47 : ((S2[0].toNat : Int) == 47) = false := by rw [beq_eq_false_iff_ne]; exact h47
            subst hR
            go_wp2_with (at_builtin; refine wpList_append_own_at _ rfl (.tmp 82) (.tmp 84) _ rfl w.heap.size 37 i0 (.agg #[.string ⟨#[]⟩, .string ⟨#[]⟩, .string ⟨#[]⟩, .bool false, .int .i64 0, .int .i64 0, .int .i64 0, .int .i64 0, .int .i64 0, .int .i64 0, .int .i64 0, .int .i64 0, .bool false]) 13 128 Tryz.underlying31 hi hz0 hz1 hz2 rfl (by decide) _ _ _ rfl (ownM_below hO2.out ((Below.refl _ _).alloc (Nat.le_refl _) _)) ⟨wc.heap.size, 0, none⟩ 1 1 [.string ⟨n.toArray⟩, .string ⟨f.toArray⟩, .string ⟨o.toArray⟩, .bool b, .int .i64 p0, .int .i64 p1, .int .i64 p2, .int .i64 p3, .int .i64 p4, .int .i64 p5, .int .i64 p6, .int .i64 e, .bool br] rfl rfl (cells_new _ _ _) (PF.one (⟨⟨n, f, o, b, ⟨p0, p1, p2, p3, p4, p5, p6⟩⟩, e, br⟩ : PF)) (by unfold maxLen; omega) (by omega) (below_alloc hB2.out _).size ?_; intro v2 w2 a2 g2 m2 l2; have B2 := Lib.hid (grownM_below (ownM_below hO2.out ((Below.refl _ _).alloc (Nat.le_refl _) _)) (below_alloc hB2.out _) g2); have A2 := Lib.hid a2; clear a2 g2 m2 l2)
            go_ret2
            exact ⟨rfl, B2.out⟩
end Go.Proofs.YthjnmnepjeegiaaGreatDoor

/- Texts of units: what the world of ParseUnit holds. -/
namespace Go.Proofs.YthjnmnepjeegiaaGreatDoor
open Go.RowKit Go.Proofs.YthjnmnepjeegiaaGreatDoor.Dg Go.Proofs.YthjnmnepjeegiaaGreatDoor.Q Go.Proofs.YthjnmnepjeegiaaGreatDoor.Num Go.Proofs.YthjnmnepjeegiaaGreatDoor.Str

/-- A result and the factors. -/
def PA1 (w w' : World) (v : Value) (xs : List PF) : Prop := Bk w' w.heap.size u0C 24 ∧ w'.ownsRow (w.heap.size + 1) 37 13 v xs.length (xs.flatMap PF.L) ∧ Below w.heap.size w w'
theorem PA1.up {w w1 w2 : World} {v : Value} {xs : List PF} (h : PA1 w w1 v xs) (hb : Below w1.heap.size w1 w2) : PA1 w w2 v xs := ⟨h.1.up hb, ownM_below h.2.1 hb, btrans h.2.2 hb⟩
theorem PA1.grow {w w1 : World} {v : Value} {xs : List PF} (h : PA1 w w1 v xs) (C : Array Value) (t : TypeId) : PA1 w (w1.alloc (.cells C t)) v xs := h.up ((Below.refl _ _).alloc (Nat.le_refl _) _)
theorem fac_cells {w : World} {base g cap k : Nat} {xs : List PF} {n f o : List UInt8} {b br : Bool} {p0 p1 p2 p3 p4 p5 p6 e : Int} (h : w.ownsRow base 37 13 (.slice (some ⟨g, 0, none⟩) xs.length cap) xs.length (xs.flatMap PF.L)) (hk : xs[k]? = some ⟨⟨n, f, o, b, ⟨p0, p1, p2, p3, p4, p5, p6⟩⟩, e, br⟩) :
    w.cell? ⟨g, k * 13, none⟩ = some (.string ⟨n.toArray⟩) ∧ w.cell? ⟨g, k * 13 + 1, none⟩ = some (.string ⟨f.toArray⟩) ∧ w.cell? ⟨g, k * 13 + 2, none⟩ = some (.string ⟨o.toArray⟩) ∧ w.cell? ⟨g, k * 13 + 3, none⟩ = some (.bool b) ∧ w.cell? ⟨g, k * 13 + 4, none⟩ = some (.int .i64 p0) ∧ w.cell? ⟨g, k * 13 + 5, none⟩ = some (.int .i64 p1) ∧ w.cell? ⟨g, k * 13 + 6, none⟩ = some (.int .i64 p2) ∧ w.cell? ⟨g, k * 13 + 7, none⟩ = some (.int .i64 p3) ∧ w.cell? ⟨g, k * 13 + 8, none⟩ = some (.int .i64 p4) ∧ w.cell? ⟨g, k * 13 + 9, none⟩ = some (.int .i64 p5) ∧ w.cell? ⟨g, k * 13 + 10, none⟩ = some (.int .i64 p6) ∧ w.cell? ⟨g, k * 13 + 11, none⟩ = some (.int .i64 e) ∧ w.cell? ⟨g, k * 13 + 12, none⟩ = some (.bool br) := by
  have key : ∀ j u, j < 13 → (PF.L ⟨⟨n, f, o, b, ⟨p0, p1, p2, p3, p4, p5, p6⟩⟩, e, br⟩)[j]? = some u → w.cell? ⟨g, k * 13 + j, none⟩ = some u := fun j u hj hu => ownM_cell h (by rw [flat_at PF.len hk hj]; exact hu)
  exact ⟨key 0 _ (by decide) rfl, key 1 _ (by decide) rfl, key 2 _ (by decide) rfl, key 3 _ (by decide) rfl, key 4 _ (by decide) rfl, key 5 _ (by decide) rfl, key 6 _ (by decide) rfl, key 7 _ (by decide) rfl, key 8 _ (by decide) rfl, key 9 _ (by decide) rfl, key 10 _ (by decide) rfl, key 11 _ (by decide) rfl, key 12 _ (by decide) rfl⟩
theorem fac_len {w : World} {base n : Nat} {e : TypeId} {v : Value} {xs : List Value} (h : w.ownsRow base e 13 v n xs) : n ≤ 9223372036854775807 := by
  rcases h.2 with ⟨_, h0⟩ | ⟨g, cap, cur, _, _, _, h1, h2, _⟩
  · omega
  · unfold maxLen at h2; omega
theorem any_yes {α : Type} {p : α → Bool} {l : List α} {k : Nat} {x : α} (h : l[k]? = some x) (hp : p x = true) : l.any p = true := List.any_eq_true.2 ⟨x, List.mem_of_getElem? h, hp⟩
theorem any_step {α : Type} {p : α → Bool} {l : List α} {k : Nat} {x : α} (h0 : (l.take k).any p = false) (h : l[k]? = some x) (hp : p x = false) : (l.take (k + 1)).any p = false := by
  rw [List.take_add_one, List.any_append, h0, h]
  simp [hp]


theorem ownM_put {w : World} {base m n g cap h : Nat} {e : TypeId} {xs : List Value} (hr : w.ownsRow base e m (.slice (some ⟨g, 0, none⟩) n cap) n xs) (hne : g ≠ h) (i : Nat) (l : List Value) : (putL w h i l).ownsRow base e m (.slice (some ⟨g, 0, none⟩) n cap) n xs := by
  obtain ⟨h1, h2⟩ := hr
  refine ⟨h1, ?_⟩
  rcases h2 with ⟨h2, _⟩ | ⟨g', cap', cur, e1, e2, e3, e4⟩
  · cases h2
  · refine .inr ⟨g', cap', cur, e1, e2, ?_, e4⟩
    injection e1 with e1 _ _
    injection e1 with e1
    injection e1 with e1
    subst e1
    rw [putL_block hne]
    exact e3
/-- The second loop of ParseUnit: a result, the factors, a unit and a number. -/
def PU (w w' : World) (g8 g9 gl cap : Nat) (xs : List PF) (O : ByteArray) (p : P7) (q : Rat) : Prop :=
  Bk w' w.heap.size u0C 24 ∧ w'.ownsRow (w.heap.size + 1) 37 13 (.slice (some ⟨gl, 0, none⟩) xs.length cap) xs.length (xs.flatMap PF.L) ∧ Ub w' g8 ⟨#[49]⟩ O p ∧ (∃ A c A' c', Bk w' g9 #[.bool (ngt q), .slice A (nd (top q)) c, .slice A' (nd q.den) c'] 41 ∧ Fr w' (.agg #[.bool (ngt q), .slice A (nd (top q)) c, .slice A' (nd q.den) c']) q) ∧ Below w.heap.size w w' ∧ w.heap.size < g8 ∧ gl < g8 ∧ g8 < g9
theorem PU.b {w w1 : World} {g8 g9 gl cap : Nat} {xs : List PF} {O : ByteArray} {p : P7} {q : Rat} (h : PU w w1 g8 g9 gl cap xs O p q) : Below w.heap.size w w1 := h.2.2.2.2.1
theorem PU.up {w w1 w2 : World} {g8 g9 gl cap : Nat} {xs : List PF} {O : ByteArray} {p : P7} {q : Rat} (h : PU w w1 g8 g9 gl cap xs O p q) (hb : Below w1.heap.size w1 w2) : PU w w2 g8 g9 gl cap xs O p q := by
  obtain ⟨h1, h2, h3, ⟨A, c, A', c', h4, h5⟩, h6, h7⟩ := h
  exact ⟨h1.up hb, ownM_below h2 hb, h3.up hb, ⟨A, c, A', c', h4.up hb, h5.up hb⟩, btrans h6 hb, h7⟩
theorem PU.grow {w w1 : World} {g8 g9 gl cap : Nat} {xs : List PF} {O : ByteArray} {p : P7} {q : Rat} (h : PU w w1 g8 g9 gl cap xs O p q) (C : Array Value) (t : TypeId) : PU w (w1.alloc (.cells C t)) g8 g9 gl cap xs O p q := h.up ((Below.refl _ _).alloc (Nat.le_refl _) _)
theorem PU.drew {w w1 : World} {g8 g9 gl cap : Nat} {xs : List PF} {O : ByteArray} {p : P7} {q : Rat} (h : PU w w1 g8 g9 gl cap xs O p q) : PU w w1.drew g8 g9 gl cap xs O p q := h.up (Below.drew (Below.refl _ _))
/-- A power of the unit is stored. -/
theorem PU.put8 {w w1 : World} {g8 g9 gl cap : Nat} {xs : List PF} {O : ByteArray} {p p' : P7} {q : Rat} (h : PU w w1 g8 g9 gl cap xs O p q) (i : Nat) (v : Value) (e : (unC ⟨#[49]⟩ O p).setIfInBounds i v = unC ⟨#[49]⟩ O p') : PU w (w1.setCell ⟨g8, i, none⟩ v) g8 g9 gl cap xs O p' q := by
  obtain ⟨h1, h2, h3, ⟨A, c, A', c', h4, h5⟩, h6, h7, h8, h9⟩ := h
  refine ⟨h1.set_other _ (by omega), ownM_put h2 (by omega) i [v], ?_, ⟨A, c, A', c', h4.set_other _ (by omega), h5.putL (C := unC ⟨#[49]⟩ O p) h3 (unC_notK _ _ _) i [v]⟩, h6.setCell (Nat.le_of_lt h7) _, h7, h8, h9⟩
  have := Bk.set (C := unC ⟨#[49]⟩ O p) h3 (i := i) v
  rw [e] at this
  exact this
/-- The number is stored. -/
theorem PU.put9 {w w1 : World} {g8 g9 gl cap : Nat} {xs : List PF} {O : ByteArray} {p : P7} {q q' : Rat} {A A' : Option Addr} {c c' : Nat} (h : PU w w1 g8 g9 gl cap xs O p q) (hF : Fr w1 (.agg #[.bool (ngt q'), .slice A (nd (top q')) c, .slice A' (nd q'.den) c']) q') :
    PU w (((w1.setCell ⟨g9, 0, none⟩ (.bool (ngt q'))).setCell ⟨g9, 1, none⟩ (.slice A (nd (top q')) c)).setCell ⟨g9, 2, none⟩ (.slice A' (nd q'.den) c')) g8 g9 gl cap xs O p q' := by
  obtain ⟨h1, h2, h3, ⟨A1, c1, A2, c2, h4, h5⟩, h6, h7, h8, h9⟩ := h
  show PU w (putL w1 g9 0 [.bool (ngt q'), .slice A (nd (top q')) c, .slice A' (nd q'.den) c']) g8 g9 gl cap xs O p q'
  refine ⟨h1.put_other _ _ (by omega), ownM_put h2 (by omega) _ _, Bk.put_other (C := unC ⟨#[49]⟩ O p) h3 _ _ (by omega), ⟨A, c, A', c', h4.put _ rfl, hF.putL h4 (by simp [notK]) _ _⟩, putL_below (by omega) _ _ h6, h7, h8, h9⟩
theorem PU.nine {w w1 : World} {g8 g9 gl cap : Nat} {xs : List PF} {O : ByteArray} {p : P7} {q : Rat} (h : PU w w1 g8 g9 gl cap xs O p q) : ∃ A c A' c', w1.cell? ⟨g9, 0, none⟩ = some (.bool (ngt q)) ∧ w1.cell? ⟨g9, 1, none⟩ = some (.slice A (nd (top q)) c) ∧ w1.cell? ⟨g9, 2, none⟩ = some (.slice A' (nd q.den) c') ∧ (w1.frozen? ⟨g9, 0, none⟩ = false ∧ w1.frozen? ⟨g9, 1, none⟩ = false ∧ w1.frozen? ⟨g9, 2, none⟩ = false) ∧ g9 < w1.heap.size ∧ Fr w1 (.agg #[.bool (ngt q), .slice A (nd (top q)) c, .slice A' (nd q.den) c']) q := by
  obtain ⟨_, _, _, ⟨A, c, A', c', h4, h5⟩, _⟩ := h
  exact ⟨A, c, A', c', h4.cell 0, h4.cell 1, h4.cell 2, ⟨h4.frozen 0, h4.frozen 1, h4.frozen 2⟩, h4.lt, h5⟩
theorem ownM_lt {w : World} {base m n g cap : Nat} {e : TypeId} {xs : List Value} (h : w.ownsRow base e m (.slice (some ⟨g, 0, none⟩) n cap) n xs) : g < w.heap.size := by
  rcases h.2 with ⟨h, _⟩ | ⟨g', cap', cur, e1, e2, e3, _⟩
  · cases h
  · injection e1 with e1 _ _
    injection e1 with e1
    injection e1 with e1
    subst e1
    exact (Array.getElem?_eq_some_iff.1 e3).1
/-- The second loop begins. -/
theorem PU.start {w wr w2 : World} {gl cap : Nat} {xs : List PF} {O : ByteArray} {q : Rat} {A A' : Option Addr} {c c' : Nat} (h : PA1 w wr (.slice (some ⟨gl, 0, none⟩) xs.length cap) xs)
    (hb : Below (wr.alloc (.cells (unC ⟨#[49]⟩ O ⟨0, 0, 0, 0, 0, 0, 0⟩) 24)).heap.size (wr.alloc (.cells (unC ⟨#[49]⟩ O ⟨0, 0, 0, 0, 0, 0, 0⟩) 24)) w2) (hF : Fr w2 (.agg #[.bool (ngt q), .slice A (nd (top q)) c, .slice A' (nd q.den) c']) q) :
    PU w (w2.alloc (.cells #[.bool (ngt q), .slice A (nd (top q)) c, .slice A' (nd q.den) c'] 41)) wr.heap.size w2.heap.size gl cap xs O ⟨0, 0, 0, 0, 0, 0, 0⟩ q := by
  have h0 := h.grow (unC ⟨#[49]⟩ O ⟨0, 0, 0, 0, 0, 0, 0⟩) 24
  have s1 : (wr.alloc (.cells (unC ⟨#[49]⟩ O ⟨0, 0, 0, 0, 0, 0, 0⟩) 24)).heap.size = wr.heap.size + 1 := by simp
  have hu := (Bk.new wr (unC ⟨#[49]⟩ O ⟨0, 0, 0, 0, 0, 0, 0⟩) 24).up hb
  have h2 := h0.up hb
  have hx := box_rs w2 (.bool (ngt q)) (.slice A (nd (top q)) c) (.slice A' (nd q.den) c') 41
  have h3 := h2.up hx.2.1
  have hl := h.1.lt
  have hg := ownM_lt h.2.1
  have hz := hb.size
  exact ⟨h3.1, h3.2.1, hu.up hx.2.1, ⟨A, c, A', c', Bk.new w2 _ _, hF.up hx.2.1⟩, h3.2.2, hl, hg, by omega⟩
/-- What the product of a round loads. -/
theorem seven {w : World} {g9 g11 g12 : Nat} {t t' u : TypeId} {a0 a1 a2 b0 b1 b2 x0 x1 x2 x3 x4 x5 x6 x7 x8 x9 x10 x11 x12 : Value} (h1 : Bk w g9 #[a0, a1, a2] t) (h2 : Bk w g11 #[x0, x1, x2, x3, x4, x5, x6, x7, x8, x9, x10, x11, x12] u) (h3 : Bk w g12 #[b0, b1, b2] t') :
    w.cell? ⟨g9, 0, none⟩ = some a0 ∧ w.cell? ⟨g9, 1, none⟩ = some a1 ∧ w.cell? ⟨g9, 2, none⟩ = some a2 ∧ w.cell? ⟨g12, 0, none⟩ = some b0 ∧ w.cell? ⟨g12, 1, none⟩ = some b1 ∧ w.cell? ⟨g12, 2, none⟩ = some b2 ∧ w.cell? ⟨g11, 11, none⟩ = some x11 :=
  ⟨h1.cell 0, h1.cell 1, h1.cell 2, h3.cell 0, h3.cell 1, h3.cell 2, h2.cell 11⟩
theorem Bk.same {w : World} {g : Nat} {C D : Array Value} {t u : TypeId} (h : Bk w g C t) (h' : Bk w g D u) : C = D := by
  unfold Bk at *
  rw [h] at h'
  injection h' with h'
  injection h' with h' _ _
theorem PU.fr {w w1 : World} {g8 g9 gl cap : Nat} {xs : List PF} {O : ByteArray} {p : P7} {q : Rat} (h : PU w w1 g8 g9 gl cap xs O p q) : ∃ A c A' c', Bk w1 g9 #[.bool (ngt q), .slice A (nd (top q)) c, .slice A' (nd q.den) c'] 41 ∧ Fr w1 (.agg #[.bool (ngt q), .slice A (nd (top q)) c, .slice A' (nd q.den) c']) q := h.2.2.2.1
end Go.Proofs.YthjnmnepjeegiaaGreatDoor

/- Factors of a text, plainly: their numbers and powers are small. -/
namespace Go.Proofs.YthjnmnepjeegiaaGreatDoor
open Go.RowKit Go.Proofs.YthjnmnepjeegiaaGreatDoor.Dg Go.Proofs.YthjnmnepjeegiaaGreatDoor.Q Go.Proofs.YthjnmnepjeegiaaGreatDoor.Num Go.Proofs.YthjnmnepjeegiaaGreatDoor.Str

def P7.small (p : P7) : Prop := (-3 ≤ p.a ∧ p.a ≤ 3) ∧ (-3 ≤ p.b ∧ p.b ≤ 3) ∧ (-3 ≤ p.c ∧ p.c ≤ 3) ∧ (-3 ≤ p.d ∧ p.d ≤ 3) ∧ (-3 ≤ p.e ∧ p.e ≤ 3) ∧ (-3 ≤ p.f ∧ p.f ≤ 3) ∧ (-3 ≤ p.g ∧ p.g ≤ 3)
/-- A symbol with a number other than 0, an offset that is a number, and small powers. -/
def Sy.good (y : Sy) : Prop := (∃ f, num? y.fac = some f ∧ 0 < f) ∧ (∃ o, num? y.off = some o) ∧ y.p.small
def numPos (l : List UInt8) : Bool := match num? l with
  | some f => decide (0 < f)
  | none => false
theorem numPos_iff {l : List UInt8} (h : numPos l = true) : ∃ f, num? l = some f ∧ 0 < f := by
  unfold numPos at h
  cases hn : num? l with
  | none => rw [hn] at h; cases h
  | some f => rw [hn] at h; exact ⟨f, rfl, of_decide_eq_true h⟩
def prefs : List (List UInt8) := [[49, 47, 49, 48, 48, 48, 48, 48, 48, 48, 48, 48], [49, 47, 49, 48, 48, 48, 48, 48, 48], [49, 47, 49, 48, 48, 48], [49, 47, 49, 48, 48], [49, 47, 49, 48], [49, 48, 48], [49, 48, 48, 48], [49, 48, 48, 48, 48, 48, 48], [49, 48, 48, 48, 48, 48, 48, 48, 48, 48]]
theorem pfx_mem {c : UInt8} {b : List UInt8} (h : pfx c = some b) : b ∈ prefs := by
  unfold pfx at h
  repeat' split at h
  all_goals (cases h; try decide)
theorem syms_num : ∀ s ∈ syms, numPos s.fac = true := by decide +kernel
theorem syms_off : ∀ s ∈ syms, (num? s.off).isSome = true := by decide +kernel
theorem syms_pow : ∀ s ∈ syms, (-3 ≤ s.p.a ∧ s.p.a ≤ 3) ∧ (-3 ≤ s.p.b ∧ s.p.b ≤ 3) ∧ (-3 ≤ s.p.c ∧ s.p.c ≤ 3) ∧ (-3 ≤ s.p.d ∧ s.p.d ≤ 3) ∧ (-3 ≤ s.p.e ∧ s.p.e ≤ 3) ∧ (-3 ≤ s.p.f ∧ s.p.f ≤ 3) ∧ (-3 ≤ s.p.g ∧ s.p.g ≤ 3) := by decide +kernel
theorem syms_pre : ∀ s ∈ syms, ∀ b ∈ prefs, numPos (bin dMul s.fac b) = true := by decide +kernel
theorem find_mem {α : Type} {p : α → Bool} {l : List α} {s : α} (h : l.find? p = some s) : s ∈ l := List.mem_of_find?_eq_some h
theorem sfind_good {l : List UInt8} {y : Sy} (h : sfind l = some y) : y.good := by
  unfold sfind at h
  cases h1 : syms.find? (fun s => s.name == l) with
  | some s =>
    rw [h1] at h
    injection h with h
    subst h
    have hm := find_mem h1
    exact ⟨numPos_iff (syms_num _ hm), Option.isSome_iff_exists.1 (syms_off _ hm), syms_pow _ hm⟩
  | none =>
    rw [h1] at h
    dsimp only at h
    split at h
    · cases h
    · cases h2 : pfx (l.headD 0) with
      | none => rw [h2] at h; cases h
      | some b =>
        rw [h2] at h
        dsimp only at h
        cases h3 : syms.find? (fun s => s.pre && s.name == l.tail) with
        | none => rw [h3] at h; cases h
        | some s =>
          rw [h3] at h
          injection h with h
          subst h
          have hm := find_mem h3
          exact ⟨numPos_iff (syms_pre s hm _ (pfx_mem h2)), Option.isSome_iff_exists.1 (syms_off s hm), syms_pow s hm⟩
theorem cnt_head {l : List UInt8} (h : 0 < cnt l) : ∃ c r, l = c :: r ∧ isD c = true := by
  cases l with
  | nil => exact absurd h (by decide)
  | cons c r =>
    refine ⟨c, r, rfl, ?_⟩
    cases hc : isD c
    · unfold cnt at h
      rw [List.takeWhile_cons, hc] at h
      simp at h
    · rfl
theorem numb_pos {l : List UInt8} (h : 0 < numb l) : 0 < cnt l := by
  unfold numb at h
  split at h
  · rename_i h1; exact h1.1
  · exact h
theorem frm_pos {l : List UInt8} {q : Rat} (hn : isNeg l = false) (h : frm l = some q) : 0 ≤ q := by
  have key : ∀ n d : Nat, (0 : Rat) ≤ mkRat (sg false n) d := fun n d => by
    have h0 : ngt (mkRat (sg false n) d) = false := by
      rcases Nat.eq_zero_or_pos d with h0 | h0
      · subst h0; rw [Rat.mkRat_zero]; rfl
      · rcases Nat.eq_zero_or_pos n with h1 | h1
        · subst h1; rw [make_zero]; rfl
        · exact make_ngt (by omega) (by omega)
    refine Rat.not_lt.1 (fun h => ?_)
    rw [Rat.lt_iff] at h
    unfold ngt at h0
    have h2 := of_decide_eq_false h0
    simp at h
    exact h2 h
  unfold frm at h
  rw [hn] at h
  split at h
  · cases h
  · split at h
    · injection h with h; rw [← h]; exact key _ _
    · split at h
      · cases h
      · split at h
        · injection h with h; rw [← h]; exact key _ _
        · split at h
          · split at h
            · cases h
            · injection h with h; rw [← h]; exact key _ _
          · cases h
theorem num_zero : num? [48] = some 0 := by decide +kernel
theorem zero_small : P7.small ⟨0, 0, 0, 0, 0, 0, 0⟩ := by unfold P7.small; decide
theorem pstep_good {sg : Int} {l r : List UInt8} {x : PF} (h : pstep sg l = some (x, r)) : x.s.good := by
  unfold pstep at h
  split at h
  · rename_i hn
    cases hf : frm (l.take (numb l)) with
    | none => rw [hf] at h; cases h
    | some q =>
      rw [hf] at h
      dsimp only at h
      split at h
      · rename_i hq
        injection h with h
        injection h with h _
        subst h
        have hneg : isNeg (l.take (numb l)) = false := by
          obtain ⟨c, r, rfl, hc⟩ := cnt_head (numb_pos hn)
          obtain ⟨n, hn'⟩ : ∃ n, numb (c :: r) = n + 1 := ⟨numb (c :: r) - 1, by omega⟩
          rw [hn', List.take_succ_cons]
          unfold isNeg
          cases h45 : (c == 45)
          · simp at h45
            simpa using h45
          · simp at h45
            subst h45
            cases hc
        have h0 := frm_pos hneg hf
        refine ⟨⟨q, num_iff.2 ⟨rfl, hq.1⟩, ?_⟩, ⟨0, num_zero⟩, zero_small⟩
        rcases Rat.le_iff_lt_or_eq.1 h0 with h1 | h1
        · exact h1
        · exact absurd h1.symm hq.2
      · cases h
  · cases hf : sfind (l.take (wrd l)) with
    | none => rw [hf] at h; cases h
    | some y =>
      rw [hf] at h
      dsimp only at h
      have hy := sfind_good hf
      split at h
      · cases hp : pexp (l.drop (wrd l)).tail with
        | none => rw [hp] at h; cases h
        | some en =>
          rw [hp] at h
          injection h with h
          injection h with h _
          subst h
          exact hy
      · injection h with h
        injection h with h _
        subst h
        exact hy
theorem pfac_good : ∀ {k : Nat} {sg : Int} {acc : List PF} {l : List UInt8} {xs : List PF}, (∀ x ∈ acc, x.s.good) → pfac k sg acc l = some xs → (∀ x ∈ xs, x.s.good) ∧ xs ≠ []
  | 0, _, _, _, _, _, h => by cases h
  | k + 1, sg, acc, l, xs, ha, h => by
    rw [pfac] at h
    cases hp : pstep sg l with
    | none => rw [hp] at h; cases h
    | some xr =>
      obtain ⟨x, r⟩ := xr
      rw [hp] at h
      have hg := pstep_good hp
      have ha2 : ∀ y ∈ acc ++ [x], y.s.good := fun y hy => by
        rcases List.mem_append.1 hy with hy | hy
        · exact ha y hy
        · rw [List.mem_singleton.1 hy]; exact hg
      cases r with
      | nil =>
        injection h with h
        subst h
        exact ⟨ha2, by simp⟩
      | cons c r =>
        dsimp only at h
        split at h
        · exact pfac_good ha2 h
        · split at h
          · exact pfac_good ha2 h
          · cases h
end Go.Proofs.YthjnmnepjeegiaaGreatDoor

/- The unit of factors, plainly: step by step. -/
namespace Go.Proofs.YthjnmnepjeegiaaGreatDoor
open Go.RowKit Go.Proofs.YthjnmnepjeegiaaGreatDoor.Dg Go.Proofs.YthjnmnepjeegiaaGreatDoor.Q Go.Proofs.YthjnmnepjeegiaaGreatDoor.Num Go.Proofs.YthjnmnepjeegiaaGreatDoor.Str

theorem pprod_succ {xs : List PF} {k : Nat} {x : PF} {f : Rat} (h : xs[k]? = some x) (hf : num? x.s.fac = some f) : pprod (xs.take (k + 1)) = pprod (xs.take k) * f ^ x.exp := by
  unfold pprod
  rw [List.take_add_one, h, List.foldl_append]
  show _ * ((num? x.s.fac).getD 0) ^ x.exp = _
  rw [hf]
  rfl
theorem psum_succ {xs : List PF} {k : Nat} {x : PF} (h : xs[k]? = some x) : psum (xs.take (k + 1)) = (psum (xs.take k)).plus x.exp x.s.p := by
  unfold psum
  rw [List.take_add_one, h, List.foldl_append]
  rfl
theorem pof_long {xs : List PF} (hA : xs.any (fun x => x.s.off != [48] && (decide (1 < xs.length) || !x.bare)) = false) (h : 12 < xs.length) : pof xs = (Un.none, 4) := by
  unfold pof
  rw [if_neg (by rw [hA]; decide), if_pos h]
theorem pof_exp {xs : List PF} {k : Nat} {x : PF} (hA : xs.any (fun x => x.s.off != [48] && (decide (1 < xs.length) || !x.bare)) = false) (h : ¬ 12 < xs.length) (hx : xs[k]? = some x) (he : wi x.exp = false) : pof xs = (Un.none, 4) := by
  unfold pof
  rw [if_neg (by rw [hA]; decide), if_neg h, if_neg]
  rintro ⟨h1, _⟩
  have := List.all_eq_true.1 h1 x (List.mem_of_getElem? hx)
  rw [he] at this
  cases this
theorem pof_end {xs : List PF} {x0 : PF} (hA : xs.any (fun x => x.s.off != [48] && (decide (1 < xs.length) || !x.bare)) = false) (h : ¬ 12 < xs.length) (he : ∀ x ∈ xs, wi x.exp = true) (h0 : xs[0]? = some x0) :
    pof xs = if vU (put (pprod xs)) x0.s.off (psum xs) = true then (⟨put (pprod xs), x0.s.off, psum xs⟩, 0) else (Un.none, 4) := by
  have hh : (xs.head?.map (·.s.off)).getD [] = x0.s.off := by
    cases xs with
    | nil => cases h0
    | cons y l => injection h0 with h0; rw [← h0]; rfl
  unfold pof
  rw [if_neg (by rw [hA]; decide), if_neg h, hh]
  by_cases hv : vU (put (pprod xs)) x0.s.off (psum xs) = true
  · rw [if_pos ⟨List.all_eq_true.2 he, hv⟩, if_pos hv]
  · rw [if_neg (fun h => hv h.2), if_neg hv]
/-- Powers of at most B. -/
def P7.le (p : P7) (B : Int) : Prop := (-B ≤ p.a ∧ p.a ≤ B) ∧ (-B ≤ p.b ∧ p.b ≤ B) ∧ (-B ≤ p.c ∧ p.c ≤ B) ∧ (-B ≤ p.d ∧ p.d ≤ B) ∧ (-B ≤ p.e ∧ p.e ≤ B) ∧ (-B ≤ p.f ∧ p.f ≤ B) ∧ (-B ≤ p.g ∧ p.g ≤ B)
theorem mul_36 {n x : Int} (hn : -12 ≤ n ∧ n ≤ 12) (hx : -3 ≤ x ∧ x ≤ 3) : -36 ≤ n * x ∧ n * x ≤ 36 := by
  obtain ⟨a, b⟩ := hn
  obtain ⟨c, d⟩ := hx
  rcases (show x = -3 ∨ x = -2 ∨ x = -1 ∨ x = 0 ∨ x = 1 ∨ x = 2 ∨ x = 3 by omega) with h | h | h | h | h | h | h <;> subst h <;> omega
theorem P7.le_plus {p q : P7} {n B : Int} (h : p.le B) (hn : -12 ≤ n ∧ n ≤ 12) (hq : q.small) : (p.plus n q).le (B + 36) := by
  obtain ⟨⟨a0, a1⟩, ⟨b0, b1⟩, ⟨c0, c1⟩, ⟨d0, d1⟩, ⟨e0, e1⟩, ⟨f0, f1⟩, ⟨g0, g1⟩⟩ := h
  obtain ⟨ha, hb, hc, hd, he, hf, hg⟩ := hq
  have h1 := mul_36 hn ha
  have h2 := mul_36 hn hb
  have h3 := mul_36 hn hc
  have h4 := mul_36 hn hd
  have h5 := mul_36 hn he
  have h6 := mul_36 hn hf
  have h7 := mul_36 hn hg
  unfold P7.le P7.plus
  dsimp only
  refine ⟨⟨?_, ?_⟩, ⟨?_, ?_⟩, ⟨?_, ?_⟩, ⟨?_, ?_⟩, ⟨?_, ?_⟩, ⟨?_, ?_⟩, ⟨?_, ?_⟩⟩ <;> omega
theorem psum_le {xs : List PF} (hg : ∀ x ∈ xs, x.s.good) : ∀ {k : Nat}, k ≤ xs.length → (∀ x ∈ xs.take k, wi x.exp = true) → (psum (xs.take k)).le (36 * k)
  | 0, _, _ => by
    rw [List.take_zero]
    refine ⟨⟨?_, ?_⟩, ⟨?_, ?_⟩, ⟨?_, ?_⟩, ⟨?_, ?_⟩, ⟨?_, ?_⟩, ⟨?_, ?_⟩, ⟨?_, ?_⟩⟩ <;> decide
  | k + 1, hk, he => by
    obtain ⟨x, hx⟩ : ∃ x, xs[k]? = some x := ⟨_, List.getElem?_eq_getElem (by omega)⟩
    have h1 := psum_le hg (k := k) (by omega) (fun y hy => he y (by rw [List.take_add_one]; exact List.mem_append_left _ hy))
    rw [psum_succ hx]
    have h2 := P7.le_plus h1 (wi_iff.1 (he x (by rw [List.take_add_one, hx]; simp))) (hg x (List.mem_of_getElem? hx)).2.2
    rw [show (36 : Int) * ((k + 1 : Nat) : Int) = 36 * (k : Int) + 36 by omega]
    exact h2
theorem pprod_sz {xs : List PF} (hg : ∀ x ∈ xs, x.s.good) : ∀ {k : Nat}, k ≤ xs.length → (∀ x ∈ xs.take k, wi x.exp = true) → sz (pprod (xs.take k)) ≤ 1 + 62 * k
  | 0, _, _ => by
    rw [List.take_zero]
    show sz (1 : Rat) ≤ _
    rw [sz_one]
    omega
  | k + 1, hk, he => by
    obtain ⟨x, hx⟩ : ∃ x, xs[k]? = some x := ⟨_, List.getElem?_eq_getElem (by omega)⟩
    have h1 := pprod_sz hg (k := k) (by omega) (fun y hy => he y (by rw [List.take_add_one]; exact List.mem_append_left _ hy))
    obtain ⟨⟨f, hf, f0⟩, _, _⟩ := hg x (List.mem_of_getElem? hx)
    have hw := wi_iff.1 (he x (by rw [List.take_add_one, hx]; simp))
    have h2 := sz_zpow (Rat.ne_of_gt f0) (num_sz hf) x.exp
    have h3 := sz_mul (pprod (xs.take k)) (f ^ x.exp)
    rw [pprod_succ hx hf]
    have h4 : x.exp.natAbs ≤ 12 := by omega
    have h5 : x.exp.natAbs * 5 ≤ 60 := by omega
    omega
/-- The exponents that were looked at are small. -/
def wis (xs : List PF) (k : Nat) : Prop := ∀ x ∈ xs.take k, wi x.exp = true
theorem wis_zero (xs : List PF) : wis xs 0 := fun x hx => by simp at hx
theorem wis_succ {xs : List PF} {k : Nat} {x : PF} (h : wis xs k) (hx : xs[k]? = some x) (he : wi x.exp = true) : wis xs (k + 1) := fun y hy => by
  rw [List.take_add_one, hx] at hy
  rcases List.mem_append.1 hy with hy | hy
  · exact h y hy
  · simp at hy
    rw [hy]
    exact he
end Go.Proofs.YthjnmnepjeegiaaGreatDoor
