/- The reference's parser of units: factors. -/
import Derived.Test.YthjnmnepjeegiaaGreatDoorG32
import Derived.Great.BuildSlice
/- The reference's parser of units: factors. -/
namespace Go.Proofs.YthjnmnepjeegiaaGreatDoor
open Go.RowKit Go.Proofs.YthjnmnepjeegiaaGreatDoor.Dg Go.Proofs.YthjnmnepjeegiaaGreatDoor.Q Go.Proofs.YthjnmnepjeegiaaGreatDoor.Num Go.Proofs.YthjnmnepjeegiaaGreatDoor.Str

set_option maxRecDepth 100000 in
set_option maxHeartbeats 12800000 in
theorem rfactors_any (S : ByteArray) (hs : S.size ≤ 1000) (w : World) : Calls Tryz.prog 14 #[.string S] w (RFacQ (rfac (S.size + 1) 1 [] (bl S)) w) := by
  obtain ⟨R, hR⟩ : ∃ R, rfac (S.size + 1) 1 [] (bl S) = R := ⟨_, rfl⟩
  rw [hR]
  have HR := Lib.hid hR
  clear hR
  obtain ⟨i0, hi, hz0, hz1, hz2⟩ := info_parts Tryz.infoRF
  go_enter Tryz.func14, Tryz.ntmps14
  go_wp2
  go_loopg [0, 4, 5] (S.size + 1) (fun g s out sg wr => ∃ (S' : ByteArray) (fs : List (Int × RF)) (sgn : Int) (v : Value), s = .string S' ∧ sg = .int .i64 sgn ∧ v = out ∧ S'.size < g ∧ fs.length + S'.size ≤ 1000 ∧ Hid (rfac g sgn fs (bl S') = R) ∧ Hid (RowR w wr v fs))
  case atStart => exact ⟨S, [], 1, _, rfl, rfl, rfl, Nat.lt_succ_self _, by simpa using hs, HR, Lib.hid (RowR.start w)⟩
  case round =>
    obtain ⟨S', fs, sgn, v, rfl, rfl, rfl, hlt, hsz, hF, hO⟩ := hrel
    clear HR
    obtain ⟨k, rfl⟩ : ∃ k, gk = k + 1 := ⟨gk - 1, by omega⟩
    have hs' : S'.size ≤ 1000 := by omega
    have sb : (S'.size : Int) ≤ 1000 := by omega
    have TK := fun w' => rtake_any S' hs' w'
    cases hst : rstep (bl S') with
    | none =>
      rw [hst] at TK
      have TK := fun w' => (TK w').mono fun e w2 h => TakeR.bad h
      have hR := hF.out
      rw [rfac_none hst] at hR
      subst hR
      clear hst hF
      go_upto_region 3 with fail
      refine wp_region_lit ?_
      refine wpList_run_is ?h1 (.string S') ?hr ?_
      case h1 => rfl
      case hr => kernel_rfl
      simp only [Act.put, List.setIfInBounds_toArray, List.set_cons_zero, List.set_cons_succ]
      refine wpList_call_is ?h1 35 #[.string S'] ?hr (TK _) ?_
      case h1 => rfl
      case hr => kernel_rfl
      rintro e w1 ⟨M, ov, by_, pr, p0, p1, p2, p3, p4, p5, p6, of, ze, pa, y, A1, l1, d1, A2, l2, d2, iw, ex, ra, n, rfl, hb⟩
      refine ⟨_, rfl, ?_⟩
      simp only [Act.put, List.setIfInBounds_toArray, List.set_cons_zero, List.set_cons_succ]
      refine wpList_run_is ?h1 (.tuple #[.agg #[.int .i64 0, .bool y, .slice A1 l1 d1, .slice A2 l2 d2, .string M, .int .i64 ov, .int .i64 by_, .bool pr, .int .i64 p0, .int .i64 p1, .int .i64 p2, .int .i64 p3, .int .i64 p4, .int .i64 p5, .int .i64 p6, .bool of, .int .i64 ze, .int .i64 pa, .bool iw, .int .i64 ex, .bool ra], .int .i64 (n : Int), .bool false]) ?hr ?_
      case h1 => rfl
      case hr => kernel_rfl
      simp only [Act.put, List.setIfInBounds_toArray, List.set_cons_zero, List.set_cons_succ]
      refine wpList_run_is ?h1 (.agg #[.int .i64 0, .bool y, .slice A1 l1 d1, .slice A2 l2 d2, .string M, .int .i64 ov, .int .i64 by_, .bool pr, .int .i64 p0, .int .i64 p1, .int .i64 p2, .int .i64 p3, .int .i64 p4, .int .i64 p5, .int .i64 p6, .bool of, .int .i64 ze, .int .i64 pa, .bool iw, .int .i64 ex, .bool ra]) ?hr ?_
      case h1 => rfl
      case hr => kernel_rfl
      simp only [Act.put, List.setIfInBounds_toArray, List.set_cons_zero, List.set_cons_succ]
      refine wpList_run_is ?h1 (.int .i64 (n : Int)) ?hr ?_
      case h1 => rfl
      case hr => kernel_rfl
      simp only [Act.put, List.setIfInBounds_toArray, List.set_cons_zero, List.set_cons_succ]
      refine wpList_run_is ?h1 (.bool false) ?hr ?_
      case h1 => rfl
      case hr => kernel_rfl
      simp only [Act.put, List.setIfInBounds_toArray, List.set_cons_zero, List.set_cons_succ]
      refine wpList_alloc_is ?h1 58 ?h2 (.agg fc0C) 21 ?hz ?_
      case h1 => rfl
      case h2 => rfl
      case hz => kernel_rfl
      simp only [Act.put, List.setIfInBounds_toArray, List.set_cons_zero, List.set_cons_succ]
      refine wpList_store_new ?h1 58 (.tmp 6) (.tmp 12) ?h2 (w0 := w1) rfl #[.int .i64 0, .bool y, .slice A1 l1 d1, .slice A2 l2 d2, .string M, .int .i64 ov, .int .i64 by_, .bool pr, .int .i64 p0, .int .i64 p1, .int .i64 p2, .int .i64 p3, .int .i64 p4, .int .i64 p5, .int .i64 p6, .bool of, .int .i64 ze, .int .i64 pa, .bool iw, .int .i64 ex, .bool ra] ?h3 ?h4 ?hc ?h5 ?h6 ?_
      case h1 => rfl
      case h2 => rfl
      case h3 => rfl
      case h4 => rfl
      case hc => kernel_rfl
      case h5 => rfl
      case h6 => simp [Value.oneCell']
      simp only [Act.put]
      refine wpList_run_is ?h1 (.int .i64 (n : Int)) ?hr ?_
      case h1 => rfl
      case hr => kernel_rfl
      simp only [Act.put, List.setIfInBounds_toArray, List.set_cons_zero, List.set_cons_succ]
      refine wpList_run_is ?h1 (.bool false) ?hr ?_
      case h1 => rfl
      case hr => kernel_rfl
      simp only [Act.put, List.setIfInBounds_toArray, List.set_cons_zero, List.set_cons_succ]
      have r1 := Lib.hid ((hO.out.up hb).up ((Below.refl w1.heap.size w1).alloc (Nat.le_refl _) (.cells #[.int .i64 0, .bool y, .slice A1 l1 d1, .slice A2 l2 d2, .string M, .int .i64 ov, .int .i64 by_, .bool pr, .int .i64 p0, .int .i64 p1, .int .i64 p2, .int .i64 p3, .int .i64 p4, .int .i64 p5, .int .i64 p6, .bool of, .int .i64 ze, .int .i64 pa, .bool iw, .int .i64 ex, .bool ra] 58)))
      clear hb
      generalize hw5 : World.alloc _ (.cells #[.int .i64 0, .bool y, .slice A1 l1 d1, .slice A2 l2 d2, .string M, .int .i64 ov, .int .i64 by_, .bool pr, .int .i64 p0, .int .i64 p1, .int .i64 p2, .int .i64 p3, .int .i64 p4, .int .i64 p5, .int .i64 p6, .bool of, .int .i64 ze, .int .i64 pa, .bool iw, .int .i64 ex, .bool ra] _) = w5 at *
      clear hw5
      go_wp2
      go_ret2
      exact ⟨rfl, r1.out.b⟩
    | some fr =>
      obtain ⟨f, rest⟩ := fr
      rw [hst] at TK
      have TK := fun w' => (TK w').mono fun e w2 h => TakeR.good h
      have HST := Lib.hid hst
      clear hst
      go_upto_region 3 with fail
      refine wp_region_lit ?_
      refine wpList_run_is ?h1 (.string S') ?hr ?_
      case h1 => rfl
      case hr => kernel_rfl
      simp only [Act.put, List.setIfInBounds_toArray, List.set_cons_zero, List.set_cons_succ]
      refine wpList_call_is ?h1 35 #[.string S'] ?hr (TK _) ?_
      case h1 => rfl
      case hr => kernel_rfl
      rintro e w1 ⟨M, ov, by_, pr, p0, p1, p2, p3, p4, p5, p6, of, ze, pa, y, A1, l1, d1, A2, l2, d2, iw, n, rfl, hb, hn, hr, hq⟩
      refine ⟨_, rfl, ?_⟩
      simp only [Act.put, List.setIfInBounds_toArray, List.set_cons_zero, List.set_cons_succ]
      refine wpList_run_is ?h1 (.tuple #[.agg #[.int .i64 0, .bool y, .slice A1 l1 d1, .slice A2 l2 d2, .string M, .int .i64 ov, .int .i64 by_, .bool pr, .int .i64 p0, .int .i64 p1, .int .i64 p2, .int .i64 p3, .int .i64 p4, .int .i64 p5, .int .i64 p6, .bool of, .int .i64 ze, .int .i64 pa, .bool iw, .int .i64 f.exp, .bool f.raised], .int .i64 (n : Int), .bool true]) ?hr ?_
      case h1 => rfl
      case hr => kernel_rfl
      simp only [Act.put, List.setIfInBounds_toArray, List.set_cons_zero, List.set_cons_succ]
      refine wpList_run_is ?h1 (.agg #[.int .i64 0, .bool y, .slice A1 l1 d1, .slice A2 l2 d2, .string M, .int .i64 ov, .int .i64 by_, .bool pr, .int .i64 p0, .int .i64 p1, .int .i64 p2, .int .i64 p3, .int .i64 p4, .int .i64 p5, .int .i64 p6, .bool of, .int .i64 ze, .int .i64 pa, .bool iw, .int .i64 f.exp, .bool f.raised]) ?hr ?_
      case h1 => rfl
      case hr => kernel_rfl
      simp only [Act.put, List.setIfInBounds_toArray, List.set_cons_zero, List.set_cons_succ]
      refine wpList_run_is ?h1 (.int .i64 (n : Int)) ?hr ?_
      case h1 => rfl
      case hr => kernel_rfl
      simp only [Act.put, List.setIfInBounds_toArray, List.set_cons_zero, List.set_cons_succ]
      refine wpList_run_is ?h1 (.bool true) ?hr ?_
      case h1 => rfl
      case hr => kernel_rfl
      simp only [Act.put, List.setIfInBounds_toArray, List.set_cons_zero, List.set_cons_succ]
      refine wpList_alloc_is ?h1 58 ?h2 (.agg fc0C) 21 ?hz ?_
      case h1 => rfl
      case h2 => rfl
      case hz => kernel_rfl
      simp only [Act.put, List.setIfInBounds_toArray, List.set_cons_zero, List.set_cons_succ]
      refine wpList_store_new ?h1 58 (.tmp 6) (.tmp 12) ?h2 (w0 := w1) rfl #[.int .i64 0, .bool y, .slice A1 l1 d1, .slice A2 l2 d2, .string M, .int .i64 ov, .int .i64 by_, .bool pr, .int .i64 p0, .int .i64 p1, .int .i64 p2, .int .i64 p3, .int .i64 p4, .int .i64 p5, .int .i64 p6, .bool of, .int .i64 ze, .int .i64 pa, .bool iw, .int .i64 f.exp, .bool f.raised] ?h3 ?h4 ?hc ?h5 ?h6 ?_
      case h1 => rfl
      case h2 => rfl
      case h3 => rfl
      case h4 => rfl
      case hc => kernel_rfl
      case h5 => rfl
      case h6 => simp [Value.oneCell']
      simp only [Act.put]
      refine wpList_run_is ?h1 (.int .i64 (n : Int)) ?hr ?_
      case h1 => rfl
      case hr => kernel_rfl
      simp only [Act.put, List.setIfInBounds_toArray, List.set_cons_zero, List.set_cons_succ]
      refine wpList_run_is ?h1 (.bool true) ?hr ?_
      case h1 => rfl
      case hr => kernel_rfl
      simp only [Act.put, List.setIfInBounds_toArray, List.set_cons_zero, List.set_cons_succ]
      have r1 := Lib.hid (hO.out.up hb)
      have F1 := Lib.hid hq
      have HN := Lib.hid hr
      rw [bl_len] at hn
      have nb : (n : Int) ≤ (S'.size : Int) := by omega
      clear hb hr hq
      go_upto_region 7 with fail
      have r2 := Lib.hid (r1.out.up ((Below.refl w1.heap.size w1).alloc (Nat.le_refl _) (.cells #[.int .i64 sgn, .bool y, .slice A1 l1 d1, .slice A2 l2 d2, .string M, .int .i64 ov, .int .i64 by_, .bool pr, .int .i64 p0, .int .i64 p1, .int .i64 p2, .int .i64 p3, .int .i64 p4, .int .i64 p5, .int .i64 p6, .bool of, .int .i64 ze, .int .i64 pa, .bool iw, .int .i64 f.exp, .bool f.raised] 58)))
      have F2 := Lib.hid (F1.out.up ((Below.refl w1.heap.size w1).alloc (Nat.le_refl _) (.cells #[.int .i64 sgn, .bool y, .slice A1 l1 d1, .slice A2 l2 d2, .string M, .int .i64 ov, .int .i64 by_, .bool pr, .int .i64 p0, .int .i64 p1, .int .i64 p2, .int .i64 p3, .int .i64 p4, .int .i64 p5, .int .i64 p6, .bool of, .int .i64 ze, .int .i64 pa, .bool iw, .int .i64 f.exp, .bool f.raised] 58)))
      have b2 := Lib.hid (Bk.new w1 #[.int .i64 sgn, .bool y, .slice A1 l1 d1, .slice A2 l2 d2, .string M, .int .i64 ov, .int .i64 by_, .bool pr, .int .i64 p0, .int .i64 p1, .int .i64 p2, .int .i64 p3, .int .i64 p4, .int .i64 p5, .int .i64 p6, .bool of, .int .i64 ze, .int .i64 pa, .bool iw, .int .i64 f.exp, .bool f.raised] 58)
      clear r1 F1
      generalize hw5 : World.alloc _ (.cells #[.int .i64 sgn, .bool y, .slice A1 l1 d1, .slice A2 l2 d2, .string M, .int .i64 ov, .int .i64 by_, .bool pr, .int .i64 p0, .int .i64 p1, .int .i64 p2, .int .i64 p3, .int .i64 p4, .int .i64 p5, .int .i64 p6, .bool of, .int .i64 ze, .int .i64 pa, .bool iw, .int .i64 f.exp, .bool f.raised] _) = w5 at *
      clear hw5
      generalize w1.heap.size = h at *
      refine wp_region_lit ?_
      refine wpList_run_is ?h1 (v) ?hr ?_
      case h1 => rfl
      case hr => kernel_rfl
      simp only [Act.put, List.setIfInBounds_toArray, List.set_cons_zero, List.set_cons_succ]
      refine wpList_load_bk ?h1 58 (.tmp 6) ?h2 h #[.int .i64 sgn, .bool y, .slice A1 l1 d1, .slice A2 l2 d2, .string M, .int .i64 ov, .int .i64 by_, .bool pr, .int .i64 p0, .int .i64 p1, .int .i64 p2, .int .i64 p3, .int .i64 p4, .int .i64 p5, .int .i64 p6, .bool of, .int .i64 ze, .int .i64 pa, .bool iw, .int .i64 f.exp, .bool f.raised] ?h3 58 _ b2.out Tryz.underlying58 rfl ?hi ?_
      case h1 => rfl
      case h2 => rfl
      case h3 => rfl
      case hi => kernel_rfl
      simp only [Act.put, List.setIfInBounds_toArray, List.set_cons_zero, List.set_cons_succ]
      refine wpList_buildSlice ?h1 48 58 1 #[(0, .tmp 20)] ?h2 #[.int .i64 sgn, .bool y, .slice A1 l1 d1, .slice A2 l2 d2, .string M, .int .i64 ov, .int .i64 by_, .bool pr, .int .i64 p0, .int .i64 p1, .int .i64 p2, .int .i64 p3, .int .i64 p4, .int .i64 p5, .int .i64 p6, .bool of, .int .i64 ze, .int .i64 pa, .bool iw, .int .i64 f.exp, .bool f.raised] i0 (.agg #[.int .i64 0, .bool false, .slice none 0 0, .slice none 0 0, .string ⟨#[]⟩, .int .i64 0, .int .i64 0, .bool false, .int .i64 0, .int .i64 0, .int .i64 0, .int .i64 0, .int .i64 0, .int .i64 0, .int .i64 0, .bool false, .int .i64 0, .int .i64 0, .bool false, .int .i64 0, .bool false]) Tryz.underlying48 hi hz0 ?h5 ?h6 ?h7 ?_
      case h1 => rfl
      case h2 => rfl
      case h5 => rw [hz1]; decide
      case h6 => rw [hz1]; decide
      case h7 => rw [hz1]; kernel_rfl
      simp only [Act.put, List.setIfInBounds_toArray, List.set_cons_zero, List.set_cons_succ]
      have r3 := Lib.hid (r2.out.up ((Below.refl w5.heap.size w5).alloc (Nat.le_refl _) (.cells #[.int .i64 sgn, .bool y, .slice A1 l1 d1, .slice A2 l2 d2, .string M, .int .i64 ov, .int .i64 by_, .bool pr, .int .i64 p0, .int .i64 p1, .int .i64 p2, .int .i64 p3, .int .i64 p4, .int .i64 p5, .int .i64 p6, .bool of, .int .i64 ze, .int .i64 pa, .bool iw, .int .i64 f.exp, .bool f.raised] 58)))
      have F3 := Lib.hid (F2.out.up ((Below.refl w5.heap.size w5).alloc (Nat.le_refl _) (.cells #[.int .i64 sgn, .bool y, .slice A1 l1 d1, .slice A2 l2 d2, .string M, .int .i64 ov, .int .i64 by_, .bool pr, .int .i64 p0, .int .i64 p1, .int .i64 p2, .int .i64 p3, .int .i64 p4, .int .i64 p5, .int .i64 p6, .bool of, .int .i64 ze, .int .i64 pa, .bool iw, .int .i64 f.exp, .bool f.raised] 58)))
      have N3 := Lib.hid (cells21_new w5 [.int .i64 sgn, .bool y, .slice A1 l1 d1, .slice A2 l2 d2, .string M, .int .i64 ov, .int .i64 by_, .bool pr, .int .i64 p0, .int .i64 p1, .int .i64 p2, .int .i64 p3, .int .i64 p4, .int .i64 p5, .int .i64 p6, .bool of, .int .i64 ze, .int .i64 pa, .bool iw, .int .i64 f.exp, .bool f.raised] 58 _ rfl)
      obtain ⟨xs, q1, q2, q3, q4⟩ := r3.out
      refine wpList_append_own_p _ ?h1 (.tmp 19) (.tmp 21) _ ?h2 w.heap.size 58 i0 (.agg #[.int .i64 0, .bool false, .slice none 0 0, .slice none 0 0, .string ⟨#[]⟩, .int .i64 0, .int .i64 0, .bool false, .int .i64 0, .int .i64 0, .int .i64 0, .int .i64 0, .int .i64 0, .int .i64 0, .int .i64 0, .bool false, .int .i64 0, .int .i64 0, .bool false, .int .i64 0, .bool false]) 21 208 Tryz.underlying48 hi hz0 hz1 hz2 rfl (by decide) _ _ _ ?h3 q1 ⟨w5.heap.size, 0, none⟩ 1 [.int .i64 sgn, .bool y, .slice A1 l1 d1, .slice A2 l2 d2, .string M, .int .i64 ov, .int .i64 by_, .bool pr, .int .i64 p0, .int .i64 p1, .int .i64 p2, .int .i64 p3, .int .i64 p4, .int .i64 p5, .int .i64 p6, .bool of, .int .i64 ze, .int .i64 pa, .bool iw, .int .i64 f.exp, .bool f.raised] ?h4 rfl N3.out ?h5 ?h6 ?h7 q4.size (notK .u64) q2 ?h8 ?h9 ?_
      case h1 => rfl
      case h2 => rfl
      case h3 => rfl
      case h4 => rfl
      case h5 => simp [Value.oneCell']
      case h6 => unfold maxLen; omega
      case h7 => omega
      case h8 => simp [notK, Value.cells]
      case h9 => simp [notK]
      intro v2 w2 a2 a3 a4
      have ra := Lib.hid (RowR.grow q1 q2 q3 q4 F3.out a2 a3 a4)
      clear q1 q2 q3 q4 a2 a3 a4 r3 F3 N3 r2 F2 b2
      simp only [Act.put, List.setIfInBounds_toArray, List.set_cons_zero, List.set_cons_succ]
      refine wpList_run_is ?h1 (v2) ?hr ?_
      case h1 => rfl
      case hr => kernel_rfl
      simp only [Act.put, List.setIfInBounds_toArray, List.set_cons_zero, List.set_cons_succ]
      obtain ⟨S2, hS2⟩ : ∃ T : ByteArray, S'.extract n S'.size = T := ⟨_, rfl⟩
      have hr2 : rest = bl S2 := by rw [HN.out, ← hS2, drop_ext]
      have hle : S2.size ≤ S'.size := by rw [← hS2]; exact ext_size _ _
      have sb2 : (S2.size : Int) ≤ 1000 := by omega
      have hes : S2.toList.isEmpty = decide (bl S2 = []) := emptyS S2
      subst hr2
      clear HN
      have hlen : (fs ++ [(sgn, f)]).length = fs.length + 1 := by simp
      by_cases hE : bl S2 = []
      · rw [decide_eq_true hE] at hes
        have hR := hF.out
        rw [rfac_end (by rw [HST.out, hE])] at hR
        subst hR
        clear hF hE HST
        go_wp2
        go_ret2
        exact ⟨v2, rfl, ra.out, by simp⟩
      · rw [decide_eq_false hE] at hes
        have h0 : 0 < S2.size := by
          rcases Nat.eq_zero_or_pos S2.size with h | h
          · exact absurd (List.length_eq_zero_iff.1 (by rw [bl_len]; exact h)) hE
          · exact h
        have hi0 : (0 : Int) < (S2.size : Int) := by omega
        have hi1 : (1 : Int) ≤ (S2.size : Int) := by omega
        obtain ⟨T2, hT⟩ : ∃ T : ByteArray, S2.extract 1 S2.size = T := ⟨_, rfl⟩
        have hTl : bl S2 = S2[0] :: bl T2 := by
          have h1 := bl_at S2 0 h0
          cases hl : bl S2 with
          | nil => exact absurd hl hE
          | cons c r =>
            rw [hl] at h1
            injection h1 with h1
            rw [h1, ← hT, bl_cut, hl, List.take_of_length_le (by rw [List.length_drop, ← hl, bl_len]; omega)]
            rfl
        have hTs : T2.size + 1 = S2.size := by
          have := congrArg List.length hTl
          rw [bl_len, List.length_cons, bl_len] at this
          omega
        have hR := hF.out
        rw [rfac_on (by rw [HST.out, hTl])] at hR
        clear hF hE hTl HST
        by_cases h32 : (S2[0].toNat : Int) = 32
        · rw [if_pos ((byte_eq S2[0] 32).1 h32)] at hR
          have HR := Lib.hid hR
          clear hR
          go_wp2
          go_roundg k
          case measure => omega
          case rel => exact ⟨T2, _, 1, _, rfl, rfl, rfl, by omega, by rw [hlen]; omega, HR, ra⟩
        · rw [if_neg (fun h => h32 ((byte_eq S2[0] 32).2 h))] at hR
          have hb32 : ((S2[0].toNat : Int) == 32) = false := by rw [beq_eq_false_iff_ne]; exact h32
          by_cases h47 : (S2[0].toNat : Int) = 47
          · rw [if_pos ((byte_eq S2[0] 47).1 h47)] at hR
            have HR := Lib.hid hR
            clear hR
            go_wp2
            go_roundg k
            case measure => omega
            case rel => exact ⟨T2, _, -1, _, rfl, rfl, rfl, by omega, by rw [hlen]; omega, HR, ra⟩
          · rw [if_neg (fun h => h47 ((byte_eq S2[0] 47).2 h))] at hR
            have hb47 : ((S2[0].toNat : Int) == 47) = false := by rw [beq_eq_false_iff_ne]; exact h47
            subst hR
            go_wp2
            go_ret2
            exact ⟨rfl, ra.out.b⟩
end Go.Proofs.YthjnmnepjeegiaaGreatDoor
