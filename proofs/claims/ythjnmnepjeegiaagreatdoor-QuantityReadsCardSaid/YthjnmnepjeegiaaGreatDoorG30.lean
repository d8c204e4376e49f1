/- The reference's parser of units: take of a word. The reference's parser of units: take of a word with a symbol. -/
import Derived.Test.YthjnmnepjeegiaaGreatDoorG28
/- The reference's parser of units: take of a word. -/
namespace Go.Proofs.YthjnmnepjeegiaaGreatDoor
open Go.RowKit Go.Proofs.YthjnmnepjeegiaaGreatDoor.Dg Go.Proofs.YthjnmnepjeegiaaGreatDoor.Q Go.Proofs.YthjnmnepjeegiaaGreatDoor.Num Go.Proofs.YthjnmnepjeegiaaGreatDoor.Str

set_option maxRecDepth 100000 in
set_option maxHeartbeats 12800000 in
theorem rtake_word_none (S : ByteArray) (hs : S.size ≤ 1000) (hn : numb (bl S) = 0) (hf : rfind ((bl S).take (wrd (bl S))) = none) (w : World) : Calls Tryz.prog 35 #[.string S] w (TakeR (bl S) (rstep (bl S)) w) := by
  have k0 := Lib.hid (KF.start w)
  have NU := fun w' => (rnumeral_any S hs w').mono fun e w2 (h : e = .returned (.int .i64 (numb (bl S))) ∧ w' = w2) => (show e = .returned (.int .i64 0) ∧ w' = w2 from ⟨by rw [h.1, hn]; rfl, h.2⟩)
  have LE := fun w' => rletters_any S hs w'
  have hle := wrd_le (bl S)
  rw [bl_len] at hle
  have sb : (S.size : Int) ≤ 1000 := by omega
  rw [rstep_word_none hn hf]
  obtain ⟨n, hX⟩ : ∃ n, wrd (bl S) = n := ⟨_, rfl⟩
  rw [hX] at LE hle hf
  have gl : (n : Int) ≤ (S.size : Int) := by omega
  obtain ⟨P, hP⟩ : ∃ P, S.extract 0 n = P := ⟨_, rfl⟩
  have hPb : bl P = (bl S).take n := by rw [← hP, bl_cut]; simp
  have FI := fun w' => rfind_any P (by rw [← bl_len, hPb, List.length_take, bl_len]; omega) w'
  rw [hPb, hf] at FI
  have FI := fun w' => (FI w').mono fun e w2 h => FindR.nothing h
  clear hPb hX hn hf hle
  go_enter Tryz.func35, Tryz.ntmps35
  go_upto_region 8 with (first
    | (go_at_call 67; go_loud ((with_reducible refine (FI _).mono ?_); rintro e w3 ⟨M, ov, by_, pr, p0, p1, p2, p3, p4, p5, p6, of, ze, pa, y, A1, l1, d1, A2, l2, d2, rfl, hb⟩; have k4 := Lib.hid (k0.out.made2 w3 hb #[.string M, .int .i64 ov, .int .i64 by_, .bool pr, .int .i64 p0, .int .i64 p1, .int .i64 p2, .int .i64 p3, .int .i64 p4, .int .i64 p5, .int .i64 p6, .bool of, .int .i64 ze, .int .i64 pa] #[.bool y, .slice A1 l1 d1, .slice A2 l2 d2]); clear hb))
    | (go_at_call 66; go_loud ((with_reducible refine (LE _).mono ?_); rintro e w2 ⟨rfl, rfl⟩))
    | (go_at_call 63; go_loud ((with_reducible refine (NU _).mono ?_); rintro e w1 ⟨rfl, rfl⟩)))
  generalize hw4 : World.alloc _ (.cells #[.bool y, .slice A1 l1 d1, .slice A2 l2 d2] _) = w4 at *
  clear hw4
  generalize w3.heap.size + 1 = h2 at *
  generalize w3.heap.size = h1 at *
  refine wp_region_lit ?_
  refine wpList_load_bk rfl 54 (.tmp 12) rfl h2 #[.bool y, .slice A1 l1 d1, .slice A2 l2 d2] rfl 54 _ k4.out.2.2 Tryz.underlying54 rfl ?hi ?_
  case hi => kernel_rfl
  refine wpList_load_bk rfl 56 (.tmp 11) rfl h1 #[.string M, .int .i64 ov, .int .i64 by_, .bool pr, .int .i64 p0, .int .i64 p1, .int .i64 p2, .int .i64 p3, .int .i64 p4, .int .i64 p5, .int .i64 p6, .bool of, .int .i64 ze, .int .i64 pa] rfl 56 _ k4.out.2.1 Tryz.underlying56 rfl ?hi ?_
  case hi => kernel_rfl
  refine wpList_build_is rfl 58 #[(1, Operand.tmp 55), (2, Operand.tmp 56), (3, Operand.const (Value.bool true)), (4, Operand.const (Value.int IntKind.i64 1))] rfl #[.int .i64 0, .bool y, .slice A1 l1 d1, .slice A2 l2 d2, .string M, .int .i64 ov, .int .i64 by_, .bool pr, .int .i64 p0, .int .i64 p1, .int .i64 p2, .int .i64 p3, .int .i64 p4, .int .i64 p5, .int .i64 p6, .bool of, .int .i64 ze, .int .i64 pa, .bool true, .int .i64 1, .bool false] ?hc ?_
  case hc => kernel_rfl
  refine wpList_alloc_is rfl 58 rfl (.agg fc0C) 21 ?hz ?_
  case hz => kernel_rfl
  refine wpList_store_new rfl 58 (.tmp 14) (.tmp 57) rfl rfl #[.int .i64 0, .bool y, .slice A1 l1 d1, .slice A2 l2 d2, .string M, .int .i64 ov, .int .i64 by_, .bool pr, .int .i64 p0, .int .i64 p1, .int .i64 p2, .int .i64 p3, .int .i64 p4, .int .i64 p5, .int .i64 p6, .bool of, .int .i64 ze, .int .i64 pa, .bool true, .int .i64 1, .bool false] rfl rfl ?hc rfl ?h1 ?_
  case hc => kernel_rfl
  case h1 => simp [Value.oneCell']
  simp only [Act.put, List.setIfInBounds_toArray, List.set_cons_zero, List.set_cons_succ]
  have k5 := Lib.hid (k4.out.1.made1 #[.int .i64 0, .bool y, .slice A1 l1 d1, .slice A2 l2 d2, .string M, .int .i64 ov, .int .i64 by_, .bool pr, .int .i64 p0, .int .i64 p1, .int .i64 p2, .int .i64 p3, .int .i64 p4, .int .i64 p5, .int .i64 p6, .bool of, .int .i64 ze, .int .i64 pa, .bool true, .int .i64 1, .bool false])
  clear k4
  generalize hw5 : World.alloc _ (.cells #[.int .i64 0, .bool y, .slice A1 l1 d1, .slice A2 l2 d2, .string M, .int .i64 ov, .int .i64 by_, .bool pr, .int .i64 p0, .int .i64 p1, .int .i64 p2, .int .i64 p3, .int .i64 p4, .int .i64 p5, .int .i64 p6, .bool of, .int .i64 ze, .int .i64 pa, .bool true, .int .i64 1, .bool false] _) = w5 at *
  clear hw5
  generalize w4.heap.size = h at *
  go_upto_region 10 with fail
  refine wp_region_lit ?_
  refine wpList_load_bk rfl 58 (.tmp 14) rfl h #[.int .i64 0, .bool y, .slice A1 l1 d1, .slice A2 l2 d2, .string M, .int .i64 ov, .int .i64 by_, .bool pr, .int .i64 p0, .int .i64 p1, .int .i64 p2, .int .i64 p3, .int .i64 p4, .int .i64 p5, .int .i64 p6, .bool of, .int .i64 ze, .int .i64 pa, .bool true, .int .i64 1, .bool false] rfl 58 _ k5.out.2.1 Tryz.underlying58 rfl ?hi ?_
  case hi => kernel_rfl
  refine wpList_move_is ?h1 (.tmp 10) ?h2 (.int .i64 (n : Int)) ?h3 ?_
  case h1 => rfl
  case h2 => rfl
  case h3 => rfl
  refine wpList_move_is ?h1 (.tmp 13) ?h2 (.bool false) ?h3 ?_
  case h1 => rfl
  case h2 => rfl
  case h3 => rfl
  refine wpList_store_bk ?h1 58 (.tmp 2) (.tmp 72) ?h2 w.heap.size #[.int .i64 0, .bool y, .slice A1 l1 d1, .slice A2 l2 d2, .string M, .int .i64 ov, .int .i64 by_, .bool pr, .int .i64 p0, .int .i64 p1, .int .i64 p2, .int .i64 p3, .int .i64 p4, .int .i64 p5, .int .i64 p6, .bool of, .int .i64 ze, .int .i64 pa, .bool true, .int .i64 1, .bool false] ?h3 ?h4 58 fc0C k5.out.1.1 ?hc ?h5 ?h6 ?_
  case h1 => rfl
  case h2 => rfl
  case h3 => rfl
  case h4 => rfl
  case hc => kernel_rfl
  case h5 => rfl
  case h6 => simp [Value.oneCell']
  refine wpList_assign_is ?h1 (.tmp 73) ?h2 (.int .i64 (n : Int)) ?h3 ?_
  case h1 => rfl
  case h2 => rfl
  case h3 => rfl
  refine wpList_assign_is ?h1 (.tmp 74) ?h2 (.bool false) ?h3 ?_
  case h1 => rfl
  case h2 => rfl
  case h3 => rfl
  simp only [Act.put, List.setIfInBounds_toArray, List.set_cons_zero, List.set_cons_succ]
  have kF := k5.out.1.1.row #[.int .i64 0, .bool y, .slice A1 l1 d1, .slice A2 l2 d2, .string M, .int .i64 ov, .int .i64 by_, .bool pr, .int .i64 p0, .int .i64 p1, .int .i64 p2, .int .i64 p3, .int .i64 p4, .int .i64 p5, .int .i64 p6, .bool of, .int .i64 ze, .int .i64 pa, .bool true, .int .i64 1, .bool false]
  have bF := Lib.hid (below_row k5.out.1.2 (Nat.le_refl _) #[.int .i64 0, .bool y, .slice A1 l1 d1, .slice A2 l2 d2, .string M, .int .i64 ov, .int .i64 by_, .bool pr, .int .i64 p0, .int .i64 p1, .int .i64 p2, .int .i64 p3, .int .i64 p4, .int .i64 p5, .int .i64 p6, .bool of, .int .i64 ze, .int .i64 pa, .bool true, .int .i64 1, .bool false])
  generalize hwf : World.setRow _ _ _ = wf at *
  clear hwf
  go_wp2
  have hL := run_load_bk (P := Tryz.prog) kF Tryz.underlying58 rfl (by kernel_rfl)
  refine bodyPost_ret (results_ctt (U := .int .i64 (n : Int)) (U' := .bool false) rfl rfl hL rfl rfl) rfl ?_
  exact TakeR.fail bF.out
end Go.Proofs.YthjnmnepjeegiaaGreatDoor

/- The reference's parser of units: take of a word with a symbol. -/
namespace Go.Proofs.YthjnmnepjeegiaaGreatDoor
open Go.RowKit Go.Proofs.YthjnmnepjeegiaaGreatDoor.Dg Go.Proofs.YthjnmnepjeegiaaGreatDoor.Q Go.Proofs.YthjnmnepjeegiaaGreatDoor.Num Go.Proofs.YthjnmnepjeegiaaGreatDoor.Str

set_option maxRecDepth 100000 in
set_option maxHeartbeats 12800000 in
theorem rtake_word_all (S : ByteArray) (hs : S.size ≤ 1000) (hn : numb (bl S) = 0) {M : ByteArray} {ov by_ : Int} {pr : Bool} {p0 p1 p2 p3 p4 p5 p6 : Int} {of : Bool} {ze pa : Int} {q : Rat} (hf : rfind ((bl S).take (wrd (bl S))) = some (⟨bl M, ov, by_, pr, ⟨p0, p1, p2, p3, p4, p5, p6⟩, of, ze, pa⟩, q)) (hh : wrd (bl S) = S.size) (w : World) : Calls Tryz.prog 35 #[.string S] w (TakeR (bl S) (rstep (bl S)) w) := by
  have k0 := Lib.hid (KF.start w)
  have NU := fun w' => (rnumeral_any S hs w').mono fun e w2 (h : e = .returned (.int .i64 (numb (bl S))) ∧ w' = w2) => (show e = .returned (.int .i64 0) ∧ w' = w2 from ⟨by rw [h.1, hn]; rfl, h.2⟩)
  have LE := fun w' => rletters_any S hs w'
  have hle := wrd_le (bl S)
  rw [bl_len] at hle
  have sb : (S.size : Int) ≤ 1000 := by omega
  have hh2 : ((bl S).drop (wrd (bl S))).head? ≠ some 94 := by rw [hh, List.drop_of_length_le (by rw [bl_len]; exact Nat.le_refl _)]; decide
  rw [rstep_word_plain hn hf hh2]
  obtain ⟨n, hX⟩ : ∃ n, wrd (bl S) = n := ⟨_, rfl⟩
  rw [hX] at LE hle hf hh
  have gl : (n : Int) ≤ (S.size : Int) := by omega
  obtain ⟨P, hP⟩ : ∃ P, S.extract 0 n = P := ⟨_, rfl⟩
  have hPb : bl P = (bl S).take n := by rw [← hP, bl_cut]; simp
  have FI := fun w' => rfind_any P (by rw [← bl_len, hPb, List.length_take, bl_len]; omega) w'
  rw [hPb, hf] at FI
  have FI := fun w' => (FI w').mono fun e w2 h => FindR.got h
  have HSM := Lib.hid (rfind_sm hf)
  subst hh
  rw [hX]
  have HT := Lib.hid (fun (w' : World) (y : Bool) A1 l1 d1 A2 l2 d2 => TakeR.word (l := bl S) (w := w) (w' := w') (y := y) (A1 := A1) (l1 := l1) (d1 := d1) (A2 := A2) (l2 := l2) (d2 := d2) (M := M) (ov := ov) (by_ := by_) (pr := pr) (p0 := p0) (p1 := p1) (p2 := p2) (p3 := p3) (p4 := p4) (p5 := p5) (p6 := p6) (of := of) (ze := ze) (pa := pa) (iw := true) (ra := false) (ex := 1) (n := S.size) (q := q))
  clear hPb hX hn hf hle hh2
  go_enter Tryz.func35, Tryz.ntmps35
  go_upto_region 8 with (first
    | (go_at_call 67; go_loud ((with_reducible refine (FI _).mono ?_); rintro e w3 ⟨y, A1, l1, d1, A2, l2, d2, rfl, hb, hq⟩; have k4 := Lib.hid (k0.out.made2 w3 hb #[.string M, .int .i64 ov, .int .i64 by_, .bool pr, .int .i64 p0, .int .i64 p1, .int .i64 p2, .int .i64 p3, .int .i64 p4, .int .i64 p5, .int .i64 p6, .bool of, .int .i64 ze, .int .i64 pa] #[.bool y, .slice A1 l1 d1, .slice A2 l2 d2]); have q4 := Lib.hid (hq.up2 #[.string M, .int .i64 ov, .int .i64 by_, .bool pr, .int .i64 p0, .int .i64 p1, .int .i64 p2, .int .i64 p3, .int .i64 p4, .int .i64 p5, .int .i64 p6, .bool of, .int .i64 ze, .int .i64 pa] #[.bool y, .slice A1 l1 d1, .slice A2 l2 d2]); clear hb hq))
    | (go_at_call 66; go_loud ((with_reducible refine (LE _).mono ?_); rintro e w2 ⟨rfl, rfl⟩))
    | (go_at_call 63; go_loud ((with_reducible refine (NU _).mono ?_); rintro e w1 ⟨rfl, rfl⟩)))
  generalize hw4 : World.alloc _ (.cells #[.bool y, .slice A1 l1 d1, .slice A2 l2 d2] _) = w4 at *
  clear hw4
  generalize w3.heap.size + 1 = h2 at *
  generalize w3.heap.size = h1 at *
  refine wp_region_lit ?_
  refine wpList_load_bk rfl 54 (.tmp 12) rfl h2 #[.bool y, .slice A1 l1 d1, .slice A2 l2 d2] rfl 54 _ k4.out.2.2 Tryz.underlying54 rfl ?hi ?_
  case hi => kernel_rfl
  refine wpList_load_bk rfl 56 (.tmp 11) rfl h1 #[.string M, .int .i64 ov, .int .i64 by_, .bool pr, .int .i64 p0, .int .i64 p1, .int .i64 p2, .int .i64 p3, .int .i64 p4, .int .i64 p5, .int .i64 p6, .bool of, .int .i64 ze, .int .i64 pa] rfl 56 _ k4.out.2.1 Tryz.underlying56 rfl ?hi ?_
  case hi => kernel_rfl
  refine wpList_build_is rfl 58 #[(1, Operand.tmp 55), (2, Operand.tmp 56), (3, Operand.const (Value.bool true)), (4, Operand.const (Value.int IntKind.i64 1))] rfl #[.int .i64 0, .bool y, .slice A1 l1 d1, .slice A2 l2 d2, .string M, .int .i64 ov, .int .i64 by_, .bool pr, .int .i64 p0, .int .i64 p1, .int .i64 p2, .int .i64 p3, .int .i64 p4, .int .i64 p5, .int .i64 p6, .bool of, .int .i64 ze, .int .i64 pa, .bool true, .int .i64 1, .bool false] ?hc ?_
  case hc => kernel_rfl
  refine wpList_alloc_is rfl 58 rfl (.agg fc0C) 21 ?hz ?_
  case hz => kernel_rfl
  refine wpList_store_new rfl 58 (.tmp 14) (.tmp 57) rfl rfl #[.int .i64 0, .bool y, .slice A1 l1 d1, .slice A2 l2 d2, .string M, .int .i64 ov, .int .i64 by_, .bool pr, .int .i64 p0, .int .i64 p1, .int .i64 p2, .int .i64 p3, .int .i64 p4, .int .i64 p5, .int .i64 p6, .bool of, .int .i64 ze, .int .i64 pa, .bool true, .int .i64 1, .bool false] rfl rfl ?hc rfl ?h1 ?_
  case hc => kernel_rfl
  case h1 => simp [Value.oneCell']
  simp only [Act.put, List.setIfInBounds_toArray, List.set_cons_zero, List.set_cons_succ]
  have k5 := Lib.hid (k4.out.1.made1 #[.int .i64 0, .bool y, .slice A1 l1 d1, .slice A2 l2 d2, .string M, .int .i64 ov, .int .i64 by_, .bool pr, .int .i64 p0, .int .i64 p1, .int .i64 p2, .int .i64 p3, .int .i64 p4, .int .i64 p5, .int .i64 p6, .bool of, .int .i64 ze, .int .i64 pa, .bool true, .int .i64 1, .bool false])
  have q5 := Lib.hid (q4.out.up1 #[.int .i64 0, .bool y, .slice A1 l1 d1, .slice A2 l2 d2, .string M, .int .i64 ov, .int .i64 by_, .bool pr, .int .i64 p0, .int .i64 p1, .int .i64 p2, .int .i64 p3, .int .i64 p4, .int .i64 p5, .int .i64 p6, .bool of, .int .i64 ze, .int .i64 pa, .bool true, .int .i64 1, .bool false])
  clear q4
  clear k4
  generalize hw5 : World.alloc _ (.cells #[.int .i64 0, .bool y, .slice A1 l1 d1, .slice A2 l2 d2, .string M, .int .i64 ov, .int .i64 by_, .bool pr, .int .i64 p0, .int .i64 p1, .int .i64 p2, .int .i64 p3, .int .i64 p4, .int .i64 p5, .int .i64 p6, .bool of, .int .i64 ze, .int .i64 pa, .bool true, .int .i64 1, .bool false] _) = w5 at *
  clear hw5
  generalize w4.heap.size = h at *
  go_upto_region 10 with fail
  refine wp_region_lit ?_
  refine wpList_load_bk rfl 58 (.tmp 14) rfl h #[.int .i64 0, .bool y, .slice A1 l1 d1, .slice A2 l2 d2, .string M, .int .i64 ov, .int .i64 by_, .bool pr, .int .i64 p0, .int .i64 p1, .int .i64 p2, .int .i64 p3, .int .i64 p4, .int .i64 p5, .int .i64 p6, .bool of, .int .i64 ze, .int .i64 pa, .bool true, .int .i64 1, .bool false] rfl 58 _ k5.out.2.1 Tryz.underlying58 rfl ?hi ?_
  case hi => kernel_rfl
  refine wpList_move_is ?h1 (.tmp 10) ?h2 (.int .i64 (S.size : Int)) ?h3 ?_
  case h1 => rfl
  case h2 => rfl
  case h3 => rfl
  refine wpList_move_is ?h1 (.tmp 13) ?h2 (.bool true) ?h3 ?_
  case h1 => rfl
  case h2 => rfl
  case h3 => rfl
  refine wpList_store_bk ?h1 58 (.tmp 2) (.tmp 72) ?h2 w.heap.size #[.int .i64 0, .bool y, .slice A1 l1 d1, .slice A2 l2 d2, .string M, .int .i64 ov, .int .i64 by_, .bool pr, .int .i64 p0, .int .i64 p1, .int .i64 p2, .int .i64 p3, .int .i64 p4, .int .i64 p5, .int .i64 p6, .bool of, .int .i64 ze, .int .i64 pa, .bool true, .int .i64 1, .bool false] ?h3 ?h4 58 fc0C k5.out.1.1 ?hc ?h5 ?h6 ?_
  case h1 => rfl
  case h2 => rfl
  case h3 => rfl
  case h4 => rfl
  case hc => kernel_rfl
  case h5 => rfl
  case h6 => simp [Value.oneCell']
  refine wpList_assign_is ?h1 (.tmp 73) ?h2 (.int .i64 (S.size : Int)) ?h3 ?_
  case h1 => rfl
  case h2 => rfl
  case h3 => rfl
  refine wpList_assign_is ?h1 (.tmp 74) ?h2 (.bool true) ?h3 ?_
  case h1 => rfl
  case h2 => rfl
  case h3 => rfl
  simp only [Act.put, List.setIfInBounds_toArray, List.set_cons_zero, List.set_cons_succ]
  have kF := k5.out.1.1.row #[.int .i64 0, .bool y, .slice A1 l1 d1, .slice A2 l2 d2, .string M, .int .i64 ov, .int .i64 by_, .bool pr, .int .i64 p0, .int .i64 p1, .int .i64 p2, .int .i64 p3, .int .i64 p4, .int .i64 p5, .int .i64 p6, .bool of, .int .i64 ze, .int .i64 pa, .bool true, .int .i64 1, .bool false]
  have bF := Lib.hid (below_row k5.out.1.2 (Nat.le_refl _) #[.int .i64 0, .bool y, .slice A1 l1 d1, .slice A2 l2 d2, .string M, .int .i64 ov, .int .i64 by_, .bool pr, .int .i64 p0, .int .i64 p1, .int .i64 p2, .int .i64 p3, .int .i64 p4, .int .i64 p5, .int .i64 p6, .bool of, .int .i64 ze, .int .i64 pa, .bool true, .int .i64 1, .bool false])
  have qF := Lib.hid (q5.out.row k5.out.1.1 fc0_not #[.int .i64 0, .bool y, .slice A1 l1 d1, .slice A2 l2 d2, .string M, .int .i64 ov, .int .i64 by_, .bool pr, .int .i64 p0, .int .i64 p1, .int .i64 p2, .int .i64 p3, .int .i64 p4, .int .i64 p5, .int .i64 p6, .bool of, .int .i64 ze, .int .i64 pa, .bool true, .int .i64 1, .bool false])
  generalize hwf : World.setRow _ _ _ = wf at *
  clear hwf
  go_wp2
  have hL := run_load_bk (P := Tryz.prog) kF Tryz.underlying58 rfl (by kernel_rfl)
  refine bodyPost_ret (results_ctt (U := .int .i64 (S.size : Int)) (U' := .bool true) rfl rfl hL rfl rfl) rfl ?_
  exact HT.out _ _ _ _ _ _ _ _ bF.out (by rw [bl_len]; omega) HSM.out qF.out

set_option maxRecDepth 100000 in
set_option maxHeartbeats 12800000 in
theorem rtake_word_other (S : ByteArray) (hs : S.size ≤ 1000) (hn : numb (bl S) = 0) {M : ByteArray} {ov by_ : Int} {pr : Bool} {p0 p1 p2 p3 p4 p5 p6 : Int} {of : Bool} {ze pa : Int} {q : Rat} (hf : rfind ((bl S).take (wrd (bl S))) = some (⟨bl M, ov, by_, pr, ⟨p0, p1, p2, p3, p4, p5, p6⟩, of, ze, pa⟩, q)) (hh : ∃ c : UInt8, (bl S)[wrd (bl S)]? = some c ∧ c ≠ 94) (w : World) : Calls Tryz.prog 35 #[.string S] w (TakeR (bl S) (rstep (bl S)) w) := by
  have k0 := Lib.hid (KF.start w)
  have NU := fun w' => (rnumeral_any S hs w').mono fun e w2 (h : e = .returned (.int .i64 (numb (bl S))) ∧ w' = w2) => (show e = .returned (.int .i64 0) ∧ w' = w2 from ⟨by rw [h.1, hn]; rfl, h.2⟩)
  have LE := fun w' => rletters_any S hs w'
  have hle := wrd_le (bl S)
  rw [bl_len] at hle
  have sb : (S.size : Int) ≤ 1000 := by omega
  have hh2 : ((bl S).drop (wrd (bl S))).head? ≠ some 94 := by
    obtain ⟨c, h1, h2⟩ := hh
    rw [List.head?_drop, h1]
    intro e
    injection e with e
    exact h2 e
  rw [rstep_word_plain hn hf hh2]
  obtain ⟨n, hX⟩ : ∃ n, wrd (bl S) = n := ⟨_, rfl⟩
  rw [hX] at LE hle hf hh
  have gl : (n : Int) ≤ (S.size : Int) := by omega
  obtain ⟨P, hP⟩ : ∃ P, S.extract 0 n = P := ⟨_, rfl⟩
  have hPb : bl P = (bl S).take n := by rw [← hP, bl_cut]; simp
  have FI := fun w' => rfind_any P (by rw [← bl_len, hPb, List.length_take, bl_len]; omega) w'
  rw [hPb, hf] at FI
  have FI := fun w' => (FI w').mono fun e w2 h => FindR.got h
  have HSM := Lib.hid (rfind_sm hf)
  obtain ⟨c, hc, hc94⟩ := hh
  have hlt : n < S.size := by
    have := (List.getElem?_eq_some_iff.1 hc).1
    rwa [bl_len] at this
  rw [bl_at S n hlt] at hc
  injection hc with hc
  have gne : ((n : Int) == (S.size : Int)) = false := by rw [beq_eq_false_iff_ne]; omega
  have glt : (n : Int) < (S.size : Int) := by omega
  have hb94 : ((S[n].toNat : Int) == 94) = false := by
    rw [beq_eq_false_iff_ne]
    exact fun e => hc94 (by rw [← hc]; exact (byte_eq S[n] 94).1 e)
  have h94 : ¬ (S[n].toNat : Int) = 94 := fun e => hc94 (by rw [← hc]; exact (byte_eq S[n] 94).1 e)
  rw [hX]
  have HT := Lib.hid (fun (w' : World) (y : Bool) A1 l1 d1 A2 l2 d2 => TakeR.word (l := bl S) (w := w) (w' := w') (y := y) (A1 := A1) (l1 := l1) (d1 := d1) (A2 := A2) (l2 := l2) (d2 := d2) (M := M) (ov := ov) (by_ := by_) (pr := pr) (p0 := p0) (p1 := p1) (p2 := p2) (p3 := p3) (p4 := p4) (p5 := p5) (p6 := p6) (of := of) (ze := ze) (pa := pa) (iw := true) (ra := false) (ex := 1) (n := n) (q := q))
  clear hPb hX hn hf hle hh2 hc94 hc
  go_enter Tryz.func35, Tryz.ntmps35
  go_upto_region 8 with (first
    | (go_at_call 67; go_loud ((with_reducible refine (FI _).mono ?_); rintro e w3 ⟨y, A1, l1, d1, A2, l2, d2, rfl, hb, hq⟩; have k4 := Lib.hid (k0.out.made2 w3 hb #[.string M, .int .i64 ov, .int .i64 by_, .bool pr, .int .i64 p0, .int .i64 p1, .int .i64 p2, .int .i64 p3, .int .i64 p4, .int .i64 p5, .int .i64 p6, .bool of, .int .i64 ze, .int .i64 pa] #[.bool y, .slice A1 l1 d1, .slice A2 l2 d2]); have q4 := Lib.hid (hq.up2 #[.string M, .int .i64 ov, .int .i64 by_, .bool pr, .int .i64 p0, .int .i64 p1, .int .i64 p2, .int .i64 p3, .int .i64 p4, .int .i64 p5, .int .i64 p6, .bool of, .int .i64 ze, .int .i64 pa] #[.bool y, .slice A1 l1 d1, .slice A2 l2 d2]); clear hb hq))
    | (go_at_call 66; go_loud ((with_reducible refine (LE _).mono ?_); rintro e w2 ⟨rfl, rfl⟩))
    | (go_at_call 63; go_loud ((with_reducible refine (NU _).mono ?_); rintro e w1 ⟨rfl, rfl⟩)))
  generalize hw4 : World.alloc _ (.cells #[.bool y, .slice A1 l1 d1, .slice A2 l2 d2] _) = w4 at *
  clear hw4
  generalize w3.heap.size + 1 = h2 at *
  generalize w3.heap.size = h1 at *
  refine wp_region_lit ?_
  refine wpList_load_bk rfl 54 (.tmp 12) rfl h2 #[.bool y, .slice A1 l1 d1, .slice A2 l2 d2] rfl 54 _ k4.out.2.2 Tryz.underlying54 rfl ?hi ?_
  case hi => kernel_rfl
  refine wpList_load_bk rfl 56 (.tmp 11) rfl h1 #[.string M, .int .i64 ov, .int .i64 by_, .bool pr, .int .i64 p0, .int .i64 p1, .int .i64 p2, .int .i64 p3, .int .i64 p4, .int .i64 p5, .int .i64 p6, .bool of, .int .i64 ze, .int .i64 pa] rfl 56 _ k4.out.2.1 Tryz.underlying56 rfl ?hi ?_
  case hi => kernel_rfl
  refine wpList_build_is rfl 58 #[(1, Operand.tmp 55), (2, Operand.tmp 56), (3, Operand.const (Value.bool true)), (4, Operand.const (Value.int IntKind.i64 1))] rfl #[.int .i64 0, .bool y, .slice A1 l1 d1, .slice A2 l2 d2, .string M, .int .i64 ov, .int .i64 by_, .bool pr, .int .i64 p0, .int .i64 p1, .int .i64 p2, .int .i64 p3, .int .i64 p4, .int .i64 p5, .int .i64 p6, .bool of, .int .i64 ze, .int .i64 pa, .bool true, .int .i64 1, .bool false] ?hc ?_
  case hc => kernel_rfl
  refine wpList_alloc_is rfl 58 rfl (.agg fc0C) 21 ?hz ?_
  case hz => kernel_rfl
  refine wpList_store_new rfl 58 (.tmp 14) (.tmp 57) rfl rfl #[.int .i64 0, .bool y, .slice A1 l1 d1, .slice A2 l2 d2, .string M, .int .i64 ov, .int .i64 by_, .bool pr, .int .i64 p0, .int .i64 p1, .int .i64 p2, .int .i64 p3, .int .i64 p4, .int .i64 p5, .int .i64 p6, .bool of, .int .i64 ze, .int .i64 pa, .bool true, .int .i64 1, .bool false] rfl rfl ?hc rfl ?h1 ?_
  case hc => kernel_rfl
  case h1 => simp [Value.oneCell']
  simp only [Act.put, List.setIfInBounds_toArray, List.set_cons_zero, List.set_cons_succ]
  have k5 := Lib.hid (k4.out.1.made1 #[.int .i64 0, .bool y, .slice A1 l1 d1, .slice A2 l2 d2, .string M, .int .i64 ov, .int .i64 by_, .bool pr, .int .i64 p0, .int .i64 p1, .int .i64 p2, .int .i64 p3, .int .i64 p4, .int .i64 p5, .int .i64 p6, .bool of, .int .i64 ze, .int .i64 pa, .bool true, .int .i64 1, .bool false])
  have q5 := Lib.hid (q4.out.up1 #[.int .i64 0, .bool y, .slice A1 l1 d1, .slice A2 l2 d2, .string M, .int .i64 ov, .int .i64 by_, .bool pr, .int .i64 p0, .int .i64 p1, .int .i64 p2, .int .i64 p3, .int .i64 p4, .int .i64 p5, .int .i64 p6, .bool of, .int .i64 ze, .int .i64 pa, .bool true, .int .i64 1, .bool false])
  clear q4
  clear k4
  generalize hw5 : World.alloc _ (.cells #[.int .i64 0, .bool y, .slice A1 l1 d1, .slice A2 l2 d2, .string M, .int .i64 ov, .int .i64 by_, .bool pr, .int .i64 p0, .int .i64 p1, .int .i64 p2, .int .i64 p3, .int .i64 p4, .int .i64 p5, .int .i64 p6, .bool of, .int .i64 ze, .int .i64 pa, .bool true, .int .i64 1, .bool false] _) = w5 at *
  clear hw5
  generalize w4.heap.size = h at *
  go_upto_region 10 with fail
  refine wp_region_lit ?_
  refine wpList_load_bk rfl 58 (.tmp 14) rfl h #[.int .i64 0, .bool y, .slice A1 l1 d1, .slice A2 l2 d2, .string M, .int .i64 ov, .int .i64 by_, .bool pr, .int .i64 p0, .int .i64 p1, .int .i64 p2, .int .i64 p3, .int .i64 p4, .int .i64 p5, .int .i64 p6, .bool of, .int .i64 ze, .int .i64 pa, .bool true, .int .i64 1, .bool false] rfl 58 _ k5.out.2.1 Tryz.underlying58 rfl ?hi ?_
  case hi => kernel_rfl
  refine wpList_move_is ?h1 (.tmp 10) ?h2 (.int .i64 (n : Int)) ?h3 ?_
  case h1 => rfl
  case h2 => rfl
  case h3 => rfl
  refine wpList_move_is ?h1 (.tmp 13) ?h2 (.bool true) ?h3 ?_
  case h1 => rfl
  case h2 => rfl
  case h3 => rfl
  refine wpList_store_bk ?h1 58 (.tmp 2) (.tmp 72) ?h2 w.heap.size #[.int .i64 0, .bool y, .slice A1 l1 d1, .slice A2 l2 d2, .string M, .int .i64 ov, .int .i64 by_, .bool pr, .int .i64 p0, .int .i64 p1, .int .i64 p2, .int .i64 p3, .int .i64 p4, .int .i64 p5, .int .i64 p6, .bool of, .int .i64 ze, .int .i64 pa, .bool true, .int .i64 1, .bool false] ?h3 ?h4 58 fc0C k5.out.1.1 ?hc ?h5 ?h6 ?_
  case h1 => rfl
  case h2 => rfl
  case h3 => rfl
  case h4 => rfl
  case hc => kernel_rfl
  case h5 => rfl
  case h6 => simp [Value.oneCell']
  refine wpList_assign_is ?h1 (.tmp 73) ?h2 (.int .i64 (n : Int)) ?h3 ?_
  case h1 => rfl
  case h2 => rfl
  case h3 => rfl
  refine wpList_assign_is ?h1 (.tmp 74) ?h2 (.bool true) ?h3 ?_
  case h1 => rfl
  case h2 => rfl
  case h3 => rfl
  simp only [Act.put, List.setIfInBounds_toArray, List.set_cons_zero, List.set_cons_succ]
  have kF := k5.out.1.1.row #[.int .i64 0, .bool y, .slice A1 l1 d1, .slice A2 l2 d2, .string M, .int .i64 ov, .int .i64 by_, .bool pr, .int .i64 p0, .int .i64 p1, .int .i64 p2, .int .i64 p3, .int .i64 p4, .int .i64 p5, .int .i64 p6, .bool of, .int .i64 ze, .int .i64 pa, .bool true, .int .i64 1, .bool false]
  have bF := Lib.hid (below_row k5.out.1.2 (Nat.le_refl _) #[.int .i64 0, .bool y, .slice A1 l1 d1, .slice A2 l2 d2, .string M, .int .i64 ov, .int .i64 by_, .bool pr, .int .i64 p0, .int .i64 p1, .int .i64 p2, .int .i64 p3, .int .i64 p4, .int .i64 p5, .int .i64 p6, .bool of, .int .i64 ze, .int .i64 pa, .bool true, .int .i64 1, .bool false])
  have qF := Lib.hid (q5.out.row k5.out.1.1 fc0_not #[.int .i64 0, .bool y, .slice A1 l1 d1, .slice A2 l2 d2, .string M, .int .i64 ov, .int .i64 by_, .bool pr, .int .i64 p0, .int .i64 p1, .int .i64 p2, .int .i64 p3, .int .i64 p4, .int .i64 p5, .int .i64 p6, .bool of, .int .i64 ze, .int .i64 pa, .bool true, .int .i64 1, .bool false])
  generalize hwf : World.setRow _ _ _ = wf at *
  clear hwf
  go_wp2
  have hL := run_load_bk (P := Tryz.prog) kF Tryz.underlying58 rfl (by kernel_rfl)
  refine bodyPost_ret (results_ctt (U := .int .i64 (n : Int)) (U' := .bool true) rfl rfl hL rfl rfl) rfl ?_
  exact HT.out _ _ _ _ _ _ _ _ bF.out (by rw [bl_len]; omega) HSM.out qF.out

end Go.Proofs.YthjnmnepjeegiaaGreatDoor
