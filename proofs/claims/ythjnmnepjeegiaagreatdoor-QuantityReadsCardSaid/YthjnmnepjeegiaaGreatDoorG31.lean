/- The reference's parser of units: take of a word with an exponent. -/
import Derived.Test.YthjnmnepjeegiaaGreatDoorG28
/- The reference's parser of units: take of a word with an exponent. -/
namespace Go.Proofs.YthjnmnepjeegiaaGreatDoor
open Go.RowKit Go.Proofs.YthjnmnepjeegiaaGreatDoor.Dg Go.Proofs.YthjnmnepjeegiaaGreatDoor.Q Go.Proofs.YthjnmnepjeegiaaGreatDoor.Num Go.Proofs.YthjnmnepjeegiaaGreatDoor.Str

theorem body_no {t : List UInt8} (h : isNeg t = false) : body t = t := by unfold body; rw [h]; rfl
theorem body_yes {t : List UInt8} (h : isNeg t = true) : body t = t.tail := by unfold body; rw [if_pos h]
set_option maxRecDepth 100000 in
set_option maxHeartbeats 12800000 in
theorem rtake_word_end (S : ByteArray) (hs : S.size ≤ 1000) (hn : numb (bl S) = 0) {M : ByteArray} {ov by_ : Int} {pr : Bool} {p0 p1 p2 p3 p4 p5 p6 : Int} {of : Bool} {ze pa : Int} {q : Rat} (hf : rfind ((bl S).take (wrd (bl S))) = some (⟨bl M, ov, by_, pr, ⟨p0, p1, p2, p3, p4, p5, p6⟩, of, ze, pa⟩, q)) (hh : (bl S)[wrd (bl S)]? = some 94) (h45 : wrd (bl S) + 1 = S.size) (w : World) : Calls Tryz.prog 35 #[.string S] w (TakeR (bl S) (rstep (bl S)) w) := by
  have k0 := Lib.hid (KF.start w)
  have NU := fun w' => (rnumeral_any S hs w').mono fun e w2 (h : e = .returned (.int .i64 (numb (bl S))) ∧ w' = w2) => (show e = .returned (.int .i64 0) ∧ w' = w2 from ⟨by rw [h.1, hn]; rfl, h.2⟩)
  have LE := fun w' => rletters_any S hs w'
  have hle := wrd_le (bl S)
  rw [bl_len] at hle
  have sb : (S.size : Int) ≤ 1000 := by omega
  have hh2 : ((bl S).drop (wrd (bl S))).head? = some 94 := by rw [List.head?_drop, hh]
  have hf0 := hf
  obtain ⟨n, hX⟩ : ∃ n, wrd (bl S) = n := ⟨_, rfl⟩
  rw [hX] at LE hle hf hh
  have gl : (n : Int) ≤ (S.size : Int) := by omega
  obtain ⟨P, hP⟩ : ∃ P, S.extract 0 n = P := ⟨_, rfl⟩
  have hPb : bl P = (bl S).take n := by rw [← hP, bl_cut]; simp
  have FI := fun w' => rfind_any P (by rw [← bl_len, hPb, List.length_take, bl_len]; omega) w'
  rw [hPb, hf] at FI
  have FI := fun w' => (FI w').mono fun e w2 h => FindR.got h
  have hlt : n < S.size := by
    have := (List.getElem?_eq_some_iff.1 hh).1
    rwa [bl_len] at this
  rw [bl_at S n hlt] at hh
  injection hh with hh
  have gne : ((n : Int) == (S.size : Int)) = false := by rw [beq_eq_false_iff_ne]; omega
  have glt : (n : Int) < (S.size : Int) := by omega
  have hb94 : (S[n].toNat : Int) = 94 := by rw [hh]; rfl
  obtain ⟨m, hm⟩ : ∃ m, n + 1 = m := ⟨_, rfl⟩
  have em : (n : Int) + 1 = (m : Int) := by omega
  have hml : m ≤ S.size := by omega
  have mb : (m : Int) ≤ 1000 := by omega
  rw [hX, hm] at h45
  have gm : ¬ (m : Int) < (S.size : Int) := by omega
  have hnil : ((bl S).drop n).tail = [] := by rw [← List.drop_one, List.drop_drop, hm]; exact List.drop_of_length_le (by rw [bl_len]; omega)
  have hneg : isNeg ((bl S).drop n).tail = false := by rw [hnil]; rfl
  have hbody : body ((bl S).drop n).tail = (bl S).drop m := by
    rw [body_no hneg, ← List.drop_one, List.drop_drop, hm]
  have hx := rexp_at hneg hbody
  have RU := fun w' => rrun_any S m (by omega) (by omega) w'
  have hkl := dlen_le (l := bl S) (k := m)
  rw [bl_len] at hkl
  have hD := dlen_allD (bl S) m
  obtain ⟨k, hk⟩ : ∃ k, dlen (bl S) m = k := ⟨_, rfl⟩
  rw [hk] at RU hkl hD hx
  obtain ⟨j, hj⟩ : ∃ j, m + k = j := ⟨_, rfl⟩
  have ej : (m : Int) + (k : Int) = (j : Int) := by omega
  have jb : (j : Int) ≤ (S.size : Int) := by omega
  have ej3 : Hid (IntKind.i64.wrap ((m : Int) + (k : Int)) = (j : Int)) := Lib.hid (by rw [ej]; exact IntWalk.i64_in _ (by constructor <;> omega))
  have kj : (m : Int) ≤ (j : Int) := by omega
  obtain ⟨P2, hP2⟩ : ∃ P2, S.extract m j = P2 := ⟨_, rfl⟩
  have hP2b : bl P2 = ((bl S).drop m).take k := by rw [← hP2, bl_cut, show j - m = k by omega]
  have WH := fun w' => rwholed_any P2 (by rw [← bl_len, hP2b, List.length_take, List.length_drop, bl_len]; omega) (by rw [hP2b]; exact hD) w'
  rw [hP2b] at WH
  obtain ⟨x, hxx⟩ : ∃ x, min (val (((bl S).drop m).take k)) 1000 = x := ⟨_, rfl⟩
  have xb : (x : Int) ≤ 1000 := by omega
  rw [hxx] at WH hx
  have hx2 : rexp ((bl S).drop n).tail = if k = 0 then none else some ((x : Int), (bl S).drop j) := by rw [hx, hj]; rfl
  have HT := Lib.hid (fun (w' : World) (y : Bool) A1 l1 d1 A2 l2 d2 hb hq => TakeR.exp (l := bl S) (w := w) (w' := w') (y := y) (A1 := A1) (l1 := l1) (d1 := d1) (A2 := A2) (l2 := l2) (d2 := d2) (M := M) (ov := ov) (by_ := by_) (pr := pr) (p0 := p0) (p1 := p1) (p2 := p2) (p3 := p3) (p4 := p4) (p5 := p5) (p6 := p6) (of := of) (ze := ze) (pa := pa) (ex := (x : Int)) (n := j) (k := k) (q := q) hb hq hn hf0 hh2 (by rw [bl_len]; omega) (by rw [hX]; exact hx2))
  clear hPb hX hn hf hf0 hle hh2 hx hx2 hxx hP2b hD hk hkl hneg hbody hh hm hj hml hnil h45
  go_enter Tryz.func35, Tryz.ntmps35
  go_upto_region 8 with (first
    | (go_at_call 67; go_loud ((with_reducible refine (FI _).mono ?_); rintro e w3 ⟨y, A1, l1, d1, A2, l2, d2, rfl, hb, hq⟩; have k4 := Lib.hid (k0.out.made2 w3 hb #[.string M, .int .i64 ov, .int .i64 by_, .bool pr, .int .i64 p0, .int .i64 p1, .int .i64 p2, .int .i64 p3, .int .i64 p4, .int .i64 p5, .int .i64 p6, .bool of, .int .i64 ze, .int .i64 pa] #[.bool y, .slice A1 l1 d1, .slice A2 l2 d2]); have q4 := Lib.hid (hq.up2 #[.string M, .int .i64 ov, .int .i64 by_, .bool pr, .int .i64 p0, .int .i64 p1, .int .i64 p2, .int .i64 p3, .int .i64 p4, .int .i64 p5, .int .i64 p6, .bool of, .int .i64 ze, .int .i64 pa] #[.bool y, .slice A1 l1 d1, .slice A2 l2 d2]); clear hb hq))
    | (go_at_call 66; go_loud ((with_reducible refine (LE _).mono ?_); rintro e w2 ⟨rfl, rfl⟩))
    | (go_at_call 63; go_loud ((with_reducible refine (NU _).mono ?_); rintro e w1 ⟨rfl, rfl⟩)))
  generalize hw4 : World.alloc _ (.cells #[.bool y, .slice A1 l1 d1, .slice A2 l2 d2] _) = w4 at *
  clear hw4
  generalize w3.heap.size + 1 = h2 at *
  generalize w3.heap.size = h1 at *
  refine wp_region_lit ?_
  refine wpList_load_bk rfl 54 (.tmp 12) rfl h2 #[.bool y, .slice A1 l1 d1, .slice A2 l2 d2] rfl 54 _ k4.out.2.2 Tryz.underlying54 rfl ?hi ?_
  case hi => kernel_rfl
  refine wpList_load_bk rfl 56 (.tmp 11) rfl h1 #[.string M, .int .i64 ov, .int .i64 by_, .bool pr, .int .i64 p0, .int .i64 p1, .int .i64 p2, .int .i64 p3, .int .i64 p4, .int .i64 p5, .int .i64 p6, .bool of, .int .i64 ze, .int .i64 pa] rfl 56 _ k4.out.2.1 Tryz.underlying56 rfl ?hi ?_
  case hi => kernel_rfl
  refine wpList_build_is rfl 58 #[(1, Operand.tmp 55), (2, Operand.tmp 56), (3, Operand.const (Value.bool true)), (4, Operand.const (Value.int IntKind.i64 1))] rfl #[.int .i64 0, .bool y, .slice A1 l1 d1, .slice A2 l2 d2, .string M, .int .i64 ov, .int .i64 by_, .bool pr, .int .i64 p0, .int .i64 p1, .int .i64 p2, .int .i64 p3, .int .i64 p4, .int .i64 p5, .int .i64 p6, .bool of, .int .i64 ze, .int .i64 pa, .bool true, .int .i64 1, .bool false] ?hc ?_
  case hc => kernel_rfl
  refine wpList_alloc_is rfl 58 rfl (.agg fc0C) 21 ?hz ?_
  case hz => kernel_rfl
  refine wpList_store_new rfl 58 (.tmp 14) (.tmp 57) rfl rfl #[.int .i64 0, .bool y, .slice A1 l1 d1, .slice A2 l2 d2, .string M, .int .i64 ov, .int .i64 by_, .bool pr, .int .i64 p0, .int .i64 p1, .int .i64 p2, .int .i64 p3, .int .i64 p4, .int .i64 p5, .int .i64 p6, .bool of, .int .i64 ze, .int .i64 pa, .bool true, .int .i64 1, .bool false] rfl rfl ?hc rfl ?h1 ?_
  case hc => kernel_rfl
  case h1 => simp [Value.oneCell']
  simp only [Act.put, List.setIfInBounds_toArray, List.set_cons_zero, List.set_cons_succ]
  have k5 := Lib.hid (k4.out.1.made1 #[.int .i64 0, .bool y, .slice A1 l1 d1, .slice A2 l2 d2, .string M, .int .i64 ov, .int .i64 by_, .bool pr, .int .i64 p0, .int .i64 p1, .int .i64 p2, .int .i64 p3, .int .i64 p4, .int .i64 p5, .int .i64 p6, .bool of, .int .i64 ze, .int .i64 pa, .bool true, .int .i64 1, .bool false])
  have q5 := Lib.hid (q4.out.up1 #[.int .i64 0, .bool y, .slice A1 l1 d1, .slice A2 l2 d2, .string M, .int .i64 ov, .int .i64 by_, .bool pr, .int .i64 p0, .int .i64 p1, .int .i64 p2, .int .i64 p3, .int .i64 p4, .int .i64 p5, .int .i64 p6, .bool of, .int .i64 ze, .int .i64 pa, .bool true, .int .i64 1, .bool false])
  clear q4
  clear k4
  generalize hw5 : World.alloc _ (.cells #[.int .i64 0, .bool y, .slice A1 l1 d1, .slice A2 l2 d2, .string M, .int .i64 ov, .int .i64 by_, .bool pr, .int .i64 p0, .int .i64 p1, .int .i64 p2, .int .i64 p3, .int .i64 p4, .int .i64 p5, .int .i64 p6, .bool of, .int .i64 ze, .int .i64 pa, .bool true, .int .i64 1, .bool false] _) = w5 at *
  clear hw5
  generalize w4.heap.size = h at *
  have y19 : w5.cell? ⟨h, 19, none⟩ = some (.int .i64 1) := k5.out.2.1.cell 19
  have y20 : w5.cell? ⟨h, 20, none⟩ = some (.bool false) := k5.out.2.1.cell 20
  have g19 := k5.out.2.1.frozen 19
  have g20 := k5.out.2.1.frozen 20
  have k6 : KF w ((w5.setCell ⟨h, 19, none⟩ (.int .i64 (x : Int))).setCell ⟨h, 20, none⟩ (.bool true)) := ⟨(k5.out.1.1.set_other _ (Nat.ne_of_lt k5.out.2.2)).set_other _ (Nat.ne_of_lt k5.out.2.2), (k5.out.1.2.setCell (Nat.le_of_lt k5.out.2.2) _).setCell (Nat.le_of_lt k5.out.2.2) _⟩
  have b6 : Bk ((w5.setCell ⟨h, 19, none⟩ (.int .i64 (x : Int))).setCell ⟨h, 20, none⟩ (.bool true)) h #[.int .i64 0, .bool y, .slice A1 l1 d1, .slice A2 l2 d2, .string M, .int .i64 ov, .int .i64 by_, .bool pr, .int .i64 p0, .int .i64 p1, .int .i64 p2, .int .i64 p3, .int .i64 p4, .int .i64 p5, .int .i64 p6, .bool of, .int .i64 ze, .int .i64 pa, .bool true, .int .i64 (x : Int), .bool true] 58 := (k5.out.2.1.set (i := 19) (.int .i64 (x : Int))).set (i := 20) (.bool true)
  have q6 := q5.out.putN k5.out.2.1 (by simp [notK]) 19 [.int .i64 (x : Int), .bool true]
  have k6 := Lib.hid k6
  have b6 := Lib.hid b6
  have q6 : Hid (Qr ((w5.setCell ⟨h, 19, none⟩ (.int .i64 (x : Int))).setCell ⟨h, 20, none⟩ (.bool true)) (.agg #[.bool y, .slice A1 l1 d1, .slice A2 l2 d2]) q) := Lib.hid q6
  clear k5 q5
  go_upto_region 19 with (first | (go_at_call 69; go_loud ((with_reducible refine (WH _).mono ?_); rintro e w7 ⟨rfl, rfl⟩)) | (go_at_call 68; go_loud ((with_reducible refine (RU _).mono ?_); rintro e w6 ⟨rfl, h6⟩; have h6 := h6.symm; subst h6)))
  generalize hw6 : ((w5.setCell ⟨h, 19, none⟩ (.int .i64 (x : Int))).setCell ⟨h, 20, none⟩ (.bool true)) = w6 at *
  clear hw6 y19 y20 g19 g20
  refine wp_region_lit ?_
  refine wpList_load_bk rfl 58 (.tmp 14) rfl h #[.int .i64 0, .bool y, .slice A1 l1 d1, .slice A2 l2 d2, .string M, .int .i64 ov, .int .i64 by_, .bool pr, .int .i64 p0, .int .i64 p1, .int .i64 p2, .int .i64 p3, .int .i64 p4, .int .i64 p5, .int .i64 p6, .bool of, .int .i64 ze, .int .i64 pa, .bool true, .int .i64 (x : Int), .bool true] rfl 58 _ b6.out Tryz.underlying58 rfl ?hi ?_
  case hi => kernel_rfl
  refine wpList_move_is ?h1 (.tmp 10) ?h2 (.int .i64 (m : Int)) ?h3 ?_
  case h1 => rfl
  case h2 => rfl
  case h3 => rfl
  refine wpList_move_is ?h1 (.tmp 16) ?h2 (.int .i64 (k : Int)) ?h3 ?_
  case h1 => rfl
  case h2 => rfl
  case h3 => rfl
  refine wpList_bin_is ?h1 BinOp.add 3 (.tmp 108) (.tmp 109) 3 ?h2 (.int .i64 (m : Int)) (.int .i64 (k : Int)) (.int .i64 (j : Int)) ?h3 ?h4 ?h5 ?_
  case h1 => rfl
  case h2 => rfl
  case h3 => rfl
  case h4 => rfl
  case h5 => exact run_add_i64 ej3.out
  simp only [Act.put, List.setIfInBounds_toArray, List.set_cons_zero, List.set_cons_succ]
  refine wpList_move_is ?h1 (.tmp 16) ?h2 (.int .i64 (k : Int)) ?h3 ?_
  case h1 => rfl
  case h2 => rfl
  case h3 => rfl
  refine wpList_bin_is ?h1 BinOp.gtr 3 (.tmp 111) (.const (.int .i64 0)) 3 ?h2 (.int .i64 (k : Int)) (.int .i64 0) (.bool (decide (0 < (k : Int)))) ?h3 ?h4 ?h5 ?_
  case h1 => rfl
  case h2 => rfl
  case h3 => rfl
  case h4 => rfl
  case h5 => exact run_gtr_i64
  simp only [Act.put, List.setIfInBounds_toArray, List.set_cons_zero, List.set_cons_succ]
  refine wpList_store_bk ?h1 58 (.tmp 2) (.tmp 107) ?h2 w.heap.size #[.int .i64 0, .bool y, .slice A1 l1 d1, .slice A2 l2 d2, .string M, .int .i64 ov, .int .i64 by_, .bool pr, .int .i64 p0, .int .i64 p1, .int .i64 p2, .int .i64 p3, .int .i64 p4, .int .i64 p5, .int .i64 p6, .bool of, .int .i64 ze, .int .i64 pa, .bool true, .int .i64 (x : Int), .bool true] ?h3 ?h4 58 fc0C k6.out.1 ?hc ?h5 ?h6 ?_
  case h1 => rfl
  case h2 => rfl
  case h3 => rfl
  case h4 => rfl
  case hc => kernel_rfl
  case h5 => rfl
  case h6 => simp [Value.oneCell']
  refine wpList_assign_is ?h1 (.tmp 110) ?h2 (.int .i64 (j : Int)) ?h3 ?_
  case h1 => rfl
  case h2 => rfl
  case h3 => rfl
  refine wpList_assign_is ?h1 (.tmp 112) ?h2 (.bool (decide (0 < (k : Int)))) ?h3 ?_
  case h1 => rfl
  case h2 => rfl
  case h3 => rfl
  simp only [Act.put, List.setIfInBounds_toArray, List.set_cons_zero, List.set_cons_succ]
  have kF := k6.out.1.row #[.int .i64 0, .bool y, .slice A1 l1 d1, .slice A2 l2 d2, .string M, .int .i64 ov, .int .i64 by_, .bool pr, .int .i64 p0, .int .i64 p1, .int .i64 p2, .int .i64 p3, .int .i64 p4, .int .i64 p5, .int .i64 p6, .bool of, .int .i64 ze, .int .i64 pa, .bool true, .int .i64 (x : Int), .bool true]
  have bF := Lib.hid (below_row k6.out.2 (Nat.le_refl _) #[.int .i64 0, .bool y, .slice A1 l1 d1, .slice A2 l2 d2, .string M, .int .i64 ov, .int .i64 by_, .bool pr, .int .i64 p0, .int .i64 p1, .int .i64 p2, .int .i64 p3, .int .i64 p4, .int .i64 p5, .int .i64 p6, .bool of, .int .i64 ze, .int .i64 pa, .bool true, .int .i64 (x : Int), .bool true])
  have qF := Lib.hid (q6.out.row k6.out.1 fc0_not #[.int .i64 0, .bool y, .slice A1 l1 d1, .slice A2 l2 d2, .string M, .int .i64 ov, .int .i64 by_, .bool pr, .int .i64 p0, .int .i64 p1, .int .i64 p2, .int .i64 p3, .int .i64 p4, .int .i64 p5, .int .i64 p6, .bool of, .int .i64 ze, .int .i64 pa, .bool true, .int .i64 (x : Int), .bool true])
  generalize hwf : World.setRow _ _ _ = wf at *
  clear hwf
  go_wp2
  have hL := run_load_bk (P := Tryz.prog) kF Tryz.underlying58 rfl (by kernel_rfl)
  refine bodyPost_ret (results_ctt (U := .int .i64 (j : Int)) (U' := .bool (decide (0 < (k : Int)))) rfl rfl hL rfl rfl) rfl ?_
  exact HT.out _ _ _ _ _ _ _ _ bF.out qF.out

set_option maxRecDepth 100000 in
set_option maxHeartbeats 12800000 in
theorem rtake_word_pos (S : ByteArray) (hs : S.size ≤ 1000) (hn : numb (bl S) = 0) {M : ByteArray} {ov by_ : Int} {pr : Bool} {p0 p1 p2 p3 p4 p5 p6 : Int} {of : Bool} {ze pa : Int} {q : Rat} (hf : rfind ((bl S).take (wrd (bl S))) = some (⟨bl M, ov, by_, pr, ⟨p0, p1, p2, p3, p4, p5, p6⟩, of, ze, pa⟩, q)) (hh : (bl S)[wrd (bl S)]? = some 94) (h45 : ∃ c : UInt8, (bl S)[wrd (bl S) + 1]? = some c ∧ c ≠ 45) (w : World) : Calls Tryz.prog 35 #[.string S] w (TakeR (bl S) (rstep (bl S)) w) := by
  have k0 := Lib.hid (KF.start w)
  have NU := fun w' => (rnumeral_any S hs w').mono fun e w2 (h : e = .returned (.int .i64 (numb (bl S))) ∧ w' = w2) => (show e = .returned (.int .i64 0) ∧ w' = w2 from ⟨by rw [h.1, hn]; rfl, h.2⟩)
  have LE := fun w' => rletters_any S hs w'
  have hle := wrd_le (bl S)
  rw [bl_len] at hle
  have sb : (S.size : Int) ≤ 1000 := by omega
  have hh2 : ((bl S).drop (wrd (bl S))).head? = some 94 := by rw [List.head?_drop, hh]
  have hf0 := hf
  obtain ⟨n, hX⟩ : ∃ n, wrd (bl S) = n := ⟨_, rfl⟩
  rw [hX] at LE hle hf hh
  have gl : (n : Int) ≤ (S.size : Int) := by omega
  obtain ⟨P, hP⟩ : ∃ P, S.extract 0 n = P := ⟨_, rfl⟩
  have hPb : bl P = (bl S).take n := by rw [← hP, bl_cut]; simp
  have FI := fun w' => rfind_any P (by rw [← bl_len, hPb, List.length_take, bl_len]; omega) w'
  rw [hPb, hf] at FI
  have FI := fun w' => (FI w').mono fun e w2 h => FindR.got h
  have hlt : n < S.size := by
    have := (List.getElem?_eq_some_iff.1 hh).1
    rwa [bl_len] at this
  rw [bl_at S n hlt] at hh
  injection hh with hh
  have gne : ((n : Int) == (S.size : Int)) = false := by rw [beq_eq_false_iff_ne]; omega
  have glt : (n : Int) < (S.size : Int) := by omega
  have hb94 : (S[n].toNat : Int) = 94 := by rw [hh]; rfl
  obtain ⟨m, hm⟩ : ∃ m, n + 1 = m := ⟨_, rfl⟩
  have em : (n : Int) + 1 = (m : Int) := by omega
  have hml : m ≤ S.size := by omega
  have mb : (m : Int) ≤ 1000 := by omega
  obtain ⟨c, hc, hc45⟩ := h45
  rw [hX, hm] at hc
  have hlt2 : m < S.size := by
    have := (List.getElem?_eq_some_iff.1 hc).1
    rwa [bl_len] at this
  have mlt : (m : Int) < (S.size : Int) := by omega
  rw [bl_at S m hlt2] at hc
  have hneg : isNeg ((bl S).drop n).tail = false := by
    unfold isNeg
    rw [← List.drop_one, List.drop_drop, hm, List.head?_drop, bl_at S m hlt2, hc]
    simpa using hc45
  injection hc with hc
  have hb45 : ((S[m].toNat : Int) == 45) = false := by
    rw [beq_eq_false_iff_ne]
    exact fun e => hc45 (by rw [← hc]; exact (byte_eq S[m] 45).1 e)
  have h45 : ¬ (S[m].toNat : Int) = 45 := fun e => hc45 (by rw [← hc]; exact (byte_eq S[m] 45).1 e)
  have hbody : body ((bl S).drop n).tail = (bl S).drop m := by
    rw [body_no hneg, ← List.drop_one, List.drop_drop, hm]
  have hx := rexp_at hneg hbody
  have RU := fun w' => rrun_any S m (by omega) (by omega) w'
  have hkl := dlen_le (l := bl S) (k := m)
  rw [bl_len] at hkl
  have hD := dlen_allD (bl S) m
  obtain ⟨k, hk⟩ : ∃ k, dlen (bl S) m = k := ⟨_, rfl⟩
  rw [hk] at RU hkl hD hx
  obtain ⟨j, hj⟩ : ∃ j, m + k = j := ⟨_, rfl⟩
  have ej : (m : Int) + (k : Int) = (j : Int) := by omega
  have jb : (j : Int) ≤ (S.size : Int) := by omega
  have ej3 : Hid (IntKind.i64.wrap ((m : Int) + (k : Int)) = (j : Int)) := Lib.hid (by rw [ej]; exact IntWalk.i64_in _ (by constructor <;> omega))
  have kj : (m : Int) ≤ (j : Int) := by omega
  obtain ⟨P2, hP2⟩ : ∃ P2, S.extract m j = P2 := ⟨_, rfl⟩
  have hP2b : bl P2 = ((bl S).drop m).take k := by rw [← hP2, bl_cut, show j - m = k by omega]
  have WH := fun w' => rwholed_any P2 (by rw [← bl_len, hP2b, List.length_take, List.length_drop, bl_len]; omega) (by rw [hP2b]; exact hD) w'
  rw [hP2b] at WH
  obtain ⟨x, hxx⟩ : ∃ x, min (val (((bl S).drop m).take k)) 1000 = x := ⟨_, rfl⟩
  have xb : (x : Int) ≤ 1000 := by omega
  rw [hxx] at WH hx
  have hx2 : rexp ((bl S).drop n).tail = if k = 0 then none else some ((x : Int), (bl S).drop j) := by rw [hx, hj]; rfl
  have HT := Lib.hid (fun (w' : World) (y : Bool) A1 l1 d1 A2 l2 d2 hb hq => TakeR.exp (l := bl S) (w := w) (w' := w') (y := y) (A1 := A1) (l1 := l1) (d1 := d1) (A2 := A2) (l2 := l2) (d2 := d2) (M := M) (ov := ov) (by_ := by_) (pr := pr) (p0 := p0) (p1 := p1) (p2 := p2) (p3 := p3) (p4 := p4) (p5 := p5) (p6 := p6) (of := of) (ze := ze) (pa := pa) (ex := (x : Int)) (n := j) (k := k) (q := q) hb hq hn hf0 hh2 (by rw [bl_len]; omega) (by rw [hX]; exact hx2))
  clear hPb hX hn hf hf0 hle hh2 hx hx2 hxx hP2b hD hk hkl hneg hbody hh hm hj hml hc hc45
  go_enter Tryz.func35, Tryz.ntmps35
  go_upto_region 8 with (first
    | (go_at_call 67; go_loud ((with_reducible refine (FI _).mono ?_); rintro e w3 ⟨y, A1, l1, d1, A2, l2, d2, rfl, hb, hq⟩; have k4 := Lib.hid (k0.out.made2 w3 hb #[.string M, .int .i64 ov, .int .i64 by_, .bool pr, .int .i64 p0, .int .i64 p1, .int .i64 p2, .int .i64 p3, .int .i64 p4, .int .i64 p5, .int .i64 p6, .bool of, .int .i64 ze, .int .i64 pa] #[.bool y, .slice A1 l1 d1, .slice A2 l2 d2]); have q4 := Lib.hid (hq.up2 #[.string M, .int .i64 ov, .int .i64 by_, .bool pr, .int .i64 p0, .int .i64 p1, .int .i64 p2, .int .i64 p3, .int .i64 p4, .int .i64 p5, .int .i64 p6, .bool of, .int .i64 ze, .int .i64 pa] #[.bool y, .slice A1 l1 d1, .slice A2 l2 d2]); clear hb hq))
    | (go_at_call 66; go_loud ((with_reducible refine (LE _).mono ?_); rintro e w2 ⟨rfl, rfl⟩))
    | (go_at_call 63; go_loud ((with_reducible refine (NU _).mono ?_); rintro e w1 ⟨rfl, rfl⟩)))
  generalize hw4 : World.alloc _ (.cells #[.bool y, .slice A1 l1 d1, .slice A2 l2 d2] _) = w4 at *
  clear hw4
  generalize w3.heap.size + 1 = h2 at *
  generalize w3.heap.size = h1 at *
  refine wp_region_lit ?_
  refine wpList_load_bk rfl 54 (.tmp 12) rfl h2 #[.bool y, .slice A1 l1 d1, .slice A2 l2 d2] rfl 54 _ k4.out.2.2 Tryz.underlying54 rfl ?hi ?_
  case hi => kernel_rfl
  refine wpList_load_bk rfl 56 (.tmp 11) rfl h1 #[.string M, .int .i64 ov, .int .i64 by_, .bool pr, .int .i64 p0, .int .i64 p1, .int .i64 p2, .int .i64 p3, .int .i64 p4, .int .i64 p5, .int .i64 p6, .bool of, .int .i64 ze, .int .i64 pa] rfl 56 _ k4.out.2.1 Tryz.underlying56 rfl ?hi ?_
  case hi => kernel_rfl
  refine wpList_build_is rfl 58 #[(1, Operand.tmp 55), (2, Operand.tmp 56), (3, Operand.const (Value.bool true)), (4, Operand.const (Value.int IntKind.i64 1))] rfl #[.int .i64 0, .bool y, .slice A1 l1 d1, .slice A2 l2 d2, .string M, .int .i64 ov, .int .i64 by_, .bool pr, .int .i64 p0, .int .i64 p1, .int .i64 p2, .int .i64 p3, .int .i64 p4, .int .i64 p5, .int .i64 p6, .bool of, .int .i64 ze, .int .i64 pa, .bool true, .int .i64 1, .bool false] ?hc ?_
  case hc => kernel_rfl
  refine wpList_alloc_is rfl 58 rfl (.agg fc0C) 21 ?hz ?_
  case hz => kernel_rfl
  refine wpList_store_new rfl 58 (.tmp 14) (.tmp 57) rfl rfl #[.int .i64 0, .bool y, .slice A1 l1 d1, .slice A2 l2 d2, .string M, .int .i64 ov, .int .i64 by_, .bool pr, .int .i64 p0, .int .i64 p1, .int .i64 p2, .int .i64 p3, .int .i64 p4, .int .i64 p5, .int .i64 p6, .bool of, .int .i64 ze, .int .i64 pa, .bool true, .int .i64 1, .bool false] rfl rfl ?hc rfl ?h1 ?_
  case hc => kernel_rfl
  case h1 => simp [Value.oneCell']
  simp only [Act.put, List.setIfInBounds_toArray, List.set_cons_zero, List.set_cons_succ]
  have k5 := Lib.hid (k4.out.1.made1 #[.int .i64 0, .bool y, .slice A1 l1 d1, .slice A2 l2 d2, .string M, .int .i64 ov, .int .i64 by_, .bool pr, .int .i64 p0, .int .i64 p1, .int .i64 p2, .int .i64 p3, .int .i64 p4, .int .i64 p5, .int .i64 p6, .bool of, .int .i64 ze, .int .i64 pa, .bool true, .int .i64 1, .bool false])
  have q5 := Lib.hid (q4.out.up1 #[.int .i64 0, .bool y, .slice A1 l1 d1, .slice A2 l2 d2, .string M, .int .i64 ov, .int .i64 by_, .bool pr, .int .i64 p0, .int .i64 p1, .int .i64 p2, .int .i64 p3, .int .i64 p4, .int .i64 p5, .int .i64 p6, .bool of, .int .i64 ze, .int .i64 pa, .bool true, .int .i64 1, .bool false])
  clear q4
  clear k4
  generalize hw5 : World.alloc _ (.cells #[.int .i64 0, .bool y, .slice A1 l1 d1, .slice A2 l2 d2, .string M, .int .i64 ov, .int .i64 by_, .bool pr, .int .i64 p0, .int .i64 p1, .int .i64 p2, .int .i64 p3, .int .i64 p4, .int .i64 p5, .int .i64 p6, .bool of, .int .i64 ze, .int .i64 pa, .bool true, .int .i64 1, .bool false] _) = w5 at *
  clear hw5
  generalize w4.heap.size = h at *
  have y19 : w5.cell? ⟨h, 19, none⟩ = some (.int .i64 1) := k5.out.2.1.cell 19
  have y20 : w5.cell? ⟨h, 20, none⟩ = some (.bool false) := k5.out.2.1.cell 20
  have g19 := k5.out.2.1.frozen 19
  have g20 := k5.out.2.1.frozen 20
  have k6 : KF w ((w5.setCell ⟨h, 19, none⟩ (.int .i64 (x : Int))).setCell ⟨h, 20, none⟩ (.bool true)) := ⟨(k5.out.1.1.set_other _ (Nat.ne_of_lt k5.out.2.2)).set_other _ (Nat.ne_of_lt k5.out.2.2), (k5.out.1.2.setCell (Nat.le_of_lt k5.out.2.2) _).setCell (Nat.le_of_lt k5.out.2.2) _⟩
  have b6 : Bk ((w5.setCell ⟨h, 19, none⟩ (.int .i64 (x : Int))).setCell ⟨h, 20, none⟩ (.bool true)) h #[.int .i64 0, .bool y, .slice A1 l1 d1, .slice A2 l2 d2, .string M, .int .i64 ov, .int .i64 by_, .bool pr, .int .i64 p0, .int .i64 p1, .int .i64 p2, .int .i64 p3, .int .i64 p4, .int .i64 p5, .int .i64 p6, .bool of, .int .i64 ze, .int .i64 pa, .bool true, .int .i64 (x : Int), .bool true] 58 := (k5.out.2.1.set (i := 19) (.int .i64 (x : Int))).set (i := 20) (.bool true)
  have q6 := q5.out.putN k5.out.2.1 (by simp [notK]) 19 [.int .i64 (x : Int), .bool true]
  have k6 := Lib.hid k6
  have b6 := Lib.hid b6
  have q6 : Hid (Qr ((w5.setCell ⟨h, 19, none⟩ (.int .i64 (x : Int))).setCell ⟨h, 20, none⟩ (.bool true)) (.agg #[.bool y, .slice A1 l1 d1, .slice A2 l2 d2]) q) := Lib.hid q6
  clear k5 q5
  go_upto_region 19 with (first | (go_at_call 69; go_loud ((with_reducible refine (WH _).mono ?_); rintro e w7 ⟨rfl, rfl⟩)) | (go_at_call 68; go_loud ((with_reducible refine (RU _).mono ?_); rintro e w6 ⟨rfl, h6⟩; have h6 := h6.symm; subst h6)))
  generalize hw6 : ((w5.setCell ⟨h, 19, none⟩ (.int .i64 (x : Int))).setCell ⟨h, 20, none⟩ (.bool true)) = w6 at *
  clear hw6 y19 y20 g19 g20
  refine wp_region_lit ?_
  refine wpList_load_bk rfl 58 (.tmp 14) rfl h #[.int .i64 0, .bool y, .slice A1 l1 d1, .slice A2 l2 d2, .string M, .int .i64 ov, .int .i64 by_, .bool pr, .int .i64 p0, .int .i64 p1, .int .i64 p2, .int .i64 p3, .int .i64 p4, .int .i64 p5, .int .i64 p6, .bool of, .int .i64 ze, .int .i64 pa, .bool true, .int .i64 (x : Int), .bool true] rfl 58 _ b6.out Tryz.underlying58 rfl ?hi ?_
  case hi => kernel_rfl
  refine wpList_move_is ?h1 (.tmp 10) ?h2 (.int .i64 (m : Int)) ?h3 ?_
  case h1 => rfl
  case h2 => rfl
  case h3 => rfl
  refine wpList_move_is ?h1 (.tmp 16) ?h2 (.int .i64 (k : Int)) ?h3 ?_
  case h1 => rfl
  case h2 => rfl
  case h3 => rfl
  refine wpList_bin_is ?h1 BinOp.add 3 (.tmp 108) (.tmp 109) 3 ?h2 (.int .i64 (m : Int)) (.int .i64 (k : Int)) (.int .i64 (j : Int)) ?h3 ?h4 ?h5 ?_
  case h1 => rfl
  case h2 => rfl
  case h3 => rfl
  case h4 => rfl
  case h5 => exact run_add_i64 ej3.out
  simp only [Act.put, List.setIfInBounds_toArray, List.set_cons_zero, List.set_cons_succ]
  refine wpList_move_is ?h1 (.tmp 16) ?h2 (.int .i64 (k : Int)) ?h3 ?_
  case h1 => rfl
  case h2 => rfl
  case h3 => rfl
  refine wpList_bin_is ?h1 BinOp.gtr 3 (.tmp 111) (.const (.int .i64 0)) 3 ?h2 (.int .i64 (k : Int)) (.int .i64 0) (.bool (decide (0 < (k : Int)))) ?h3 ?h4 ?h5 ?_
  case h1 => rfl
  case h2 => rfl
  case h3 => rfl
  case h4 => rfl
  case h5 => exact run_gtr_i64
  simp only [Act.put, List.setIfInBounds_toArray, List.set_cons_zero, List.set_cons_succ]
  refine wpList_store_bk ?h1 58 (.tmp 2) (.tmp 107) ?h2 w.heap.size #[.int .i64 0, .bool y, .slice A1 l1 d1, .slice A2 l2 d2, .string M, .int .i64 ov, .int .i64 by_, .bool pr, .int .i64 p0, .int .i64 p1, .int .i64 p2, .int .i64 p3, .int .i64 p4, .int .i64 p5, .int .i64 p6, .bool of, .int .i64 ze, .int .i64 pa, .bool true, .int .i64 (x : Int), .bool true] ?h3 ?h4 58 fc0C k6.out.1 ?hc ?h5 ?h6 ?_
  case h1 => rfl
  case h2 => rfl
  case h3 => rfl
  case h4 => rfl
  case hc => kernel_rfl
  case h5 => rfl
  case h6 => simp [Value.oneCell']
  refine wpList_assign_is ?h1 (.tmp 110) ?h2 (.int .i64 (j : Int)) ?h3 ?_
  case h1 => rfl
  case h2 => rfl
  case h3 => rfl
  refine wpList_assign_is ?h1 (.tmp 112) ?h2 (.bool (decide (0 < (k : Int)))) ?h3 ?_
  case h1 => rfl
  case h2 => rfl
  case h3 => rfl
  simp only [Act.put, List.setIfInBounds_toArray, List.set_cons_zero, List.set_cons_succ]
  have kF := k6.out.1.row #[.int .i64 0, .bool y, .slice A1 l1 d1, .slice A2 l2 d2, .string M, .int .i64 ov, .int .i64 by_, .bool pr, .int .i64 p0, .int .i64 p1, .int .i64 p2, .int .i64 p3, .int .i64 p4, .int .i64 p5, .int .i64 p6, .bool of, .int .i64 ze, .int .i64 pa, .bool true, .int .i64 (x : Int), .bool true]
  have bF := Lib.hid (below_row k6.out.2 (Nat.le_refl _) #[.int .i64 0, .bool y, .slice A1 l1 d1, .slice A2 l2 d2, .string M, .int .i64 ov, .int .i64 by_, .bool pr, .int .i64 p0, .int .i64 p1, .int .i64 p2, .int .i64 p3, .int .i64 p4, .int .i64 p5, .int .i64 p6, .bool of, .int .i64 ze, .int .i64 pa, .bool true, .int .i64 (x : Int), .bool true])
  have qF := Lib.hid (q6.out.row k6.out.1 fc0_not #[.int .i64 0, .bool y, .slice A1 l1 d1, .slice A2 l2 d2, .string M, .int .i64 ov, .int .i64 by_, .bool pr, .int .i64 p0, .int .i64 p1, .int .i64 p2, .int .i64 p3, .int .i64 p4, .int .i64 p5, .int .i64 p6, .bool of, .int .i64 ze, .int .i64 pa, .bool true, .int .i64 (x : Int), .bool true])
  generalize hwf : World.setRow _ _ _ = wf at *
  clear hwf
  go_wp2
  have hL := run_load_bk (P := Tryz.prog) kF Tryz.underlying58 rfl (by kernel_rfl)
  refine bodyPost_ret (results_ctt (U := .int .i64 (j : Int)) (U' := .bool (decide (0 < (k : Int)))) rfl rfl hL rfl rfl) rfl ?_
  exact HT.out _ _ _ _ _ _ _ _ bF.out qF.out

set_option maxRecDepth 100000 in
set_option maxHeartbeats 12800000 in
theorem rtake_word_neg (S : ByteArray) (hs : S.size ≤ 1000) (hn : numb (bl S) = 0) {M : ByteArray} {ov by_ : Int} {pr : Bool} {p0 p1 p2 p3 p4 p5 p6 : Int} {of : Bool} {ze pa : Int} {q : Rat} (hf : rfind ((bl S).take (wrd (bl S))) = some (⟨bl M, ov, by_, pr, ⟨p0, p1, p2, p3, p4, p5, p6⟩, of, ze, pa⟩, q)) (hh : (bl S)[wrd (bl S)]? = some 94) (h45 : (bl S)[wrd (bl S) + 1]? = some 45) (w : World) : Calls Tryz.prog 35 #[.string S] w (TakeR (bl S) (rstep (bl S)) w) := by
  have k0 := Lib.hid (KF.start w)
  have NU := fun w' => (rnumeral_any S hs w').mono fun e w2 (h : e = .returned (.int .i64 (numb (bl S))) ∧ w' = w2) => (show e = .returned (.int .i64 0) ∧ w' = w2 from ⟨by rw [h.1, hn]; rfl, h.2⟩)
  have LE := fun w' => rletters_any S hs w'
  have hle := wrd_le (bl S)
  rw [bl_len] at hle
  have sb : (S.size : Int) ≤ 1000 := by omega
  have hh2 : ((bl S).drop (wrd (bl S))).head? = some 94 := by rw [List.head?_drop, hh]
  have hf0 := hf
  obtain ⟨n, hX⟩ : ∃ n, wrd (bl S) = n := ⟨_, rfl⟩
  rw [hX] at LE hle hf hh
  have gl : (n : Int) ≤ (S.size : Int) := by omega
  obtain ⟨P, hP⟩ : ∃ P, S.extract 0 n = P := ⟨_, rfl⟩
  have hPb : bl P = (bl S).take n := by rw [← hP, bl_cut]; simp
  have FI := fun w' => rfind_any P (by rw [← bl_len, hPb, List.length_take, bl_len]; omega) w'
  rw [hPb, hf] at FI
  have FI := fun w' => (FI w').mono fun e w2 h => FindR.got h
  have hlt : n < S.size := by
    have := (List.getElem?_eq_some_iff.1 hh).1
    rwa [bl_len] at this
  rw [bl_at S n hlt] at hh
  injection hh with hh
  have gne : ((n : Int) == (S.size : Int)) = false := by rw [beq_eq_false_iff_ne]; omega
  have glt : (n : Int) < (S.size : Int) := by omega
  have hb94 : (S[n].toNat : Int) = 94 := by rw [hh]; rfl
  obtain ⟨m, hm⟩ : ∃ m, n + 1 = m := ⟨_, rfl⟩
  have em : (n : Int) + 1 = (m : Int) := by omega
  have hml : m ≤ S.size := by omega
  have mb : (m : Int) ≤ 1000 := by omega
  rw [hX] at h45
  rw [hm] at h45
  have hlt2 : m < S.size := by
    have := (List.getElem?_eq_some_iff.1 h45).1
    rwa [bl_len] at this
  have mlt : (m : Int) < (S.size : Int) := by omega
  rw [bl_at S m hlt2] at h45
  have hneg : isNeg ((bl S).drop n).tail = true := by
    unfold isNeg
    rw [← List.drop_one, List.drop_drop, hm, List.head?_drop, bl_at S m hlt2, h45]
    rfl
  injection h45 with h45
  have hb45 : (S[m].toNat : Int) = 45 := by rw [h45]; rfl
  obtain ⟨m2, hm2⟩ : ∃ m2, m + 1 = m2 := ⟨_, rfl⟩
  have em2 : (m : Int) + 1 = (m2 : Int) := by omega
  have hbody : body ((bl S).drop n).tail = (bl S).drop m2 := by
    rw [body_yes hneg, ← List.drop_one, ← List.drop_one, List.drop_drop, List.drop_drop, show n + (1 + 1) = m2 by omega]
  have hm2l : m2 ≤ S.size := by omega
  have hx := rexp_at hneg hbody
  have RU := fun w' => rrun_any S m2 (by omega) (by omega) w'
  have hkl := dlen_le (l := bl S) (k := m2)
  rw [bl_len] at hkl
  have hD := dlen_allD (bl S) m2
  obtain ⟨k, hk⟩ : ∃ k, dlen (bl S) m2 = k := ⟨_, rfl⟩
  rw [hk] at RU hkl hD hx
  obtain ⟨j, hj⟩ : ∃ j, m2 + k = j := ⟨_, rfl⟩
  have ej : (m2 : Int) + (k : Int) = (j : Int) := by omega
  have jb : (j : Int) ≤ (S.size : Int) := by omega
  have ej3 : Hid (IntKind.i64.wrap ((m2 : Int) + (k : Int)) = (j : Int)) := Lib.hid (by rw [ej]; exact IntWalk.i64_in _ (by constructor <;> omega))
  have kj : (m2 : Int) ≤ (j : Int) := by omega
  obtain ⟨P2, hP2⟩ : ∃ P2, S.extract m2 j = P2 := ⟨_, rfl⟩
  have hP2b : bl P2 = ((bl S).drop m2).take k := by rw [← hP2, bl_cut, show j - m2 = k by omega]
  have WH := fun w' => rwholed_any P2 (by rw [← bl_len, hP2b, List.length_take, List.length_drop, bl_len]; omega) (by rw [hP2b]; exact hD) w'
  rw [hP2b] at WH
  obtain ⟨x, hxx⟩ : ∃ x, min (val (((bl S).drop m2).take k)) 1000 = x := ⟨_, rfl⟩
  have xb : (x : Int) ≤ 1000 := by omega
  rw [hxx] at WH hx
  have hx2 : rexp ((bl S).drop n).tail = if k = 0 then none else some (-(x : Int), (bl S).drop j) := by rw [hx, hj]; rfl
  have HT := Lib.hid (fun (w' : World) (y : Bool) A1 l1 d1 A2 l2 d2 hb hq => TakeR.exp (l := bl S) (w := w) (w' := w') (y := y) (A1 := A1) (l1 := l1) (d1 := d1) (A2 := A2) (l2 := l2) (d2 := d2) (M := M) (ov := ov) (by_ := by_) (pr := pr) (p0 := p0) (p1 := p1) (p2 := p2) (p3 := p3) (p4 := p4) (p5 := p5) (p6 := p6) (of := of) (ze := ze) (pa := pa) (ex := -(x : Int)) (n := j) (k := k) (q := q) hb hq hn hf0 hh2 (by rw [bl_len]; omega) (by rw [hX]; exact hx2))
  have e3 : IntKind.i64.wrap (-(x : Int)) = -(x : Int) := IntWalk.i64_in _ (by constructor <;> omega)
  clear hPb hX hn hf hf0 hle hh2 hx hx2 hxx hP2b hD hk hkl hneg hbody hh hm hj hml h45 hm2 hm2l
  go_enter Tryz.func35, Tryz.ntmps35
  go_upto_region 8 with (first
    | (go_at_call 67; go_loud ((with_reducible refine (FI _).mono ?_); rintro e w3 ⟨y, A1, l1, d1, A2, l2, d2, rfl, hb, hq⟩; have k4 := Lib.hid (k0.out.made2 w3 hb #[.string M, .int .i64 ov, .int .i64 by_, .bool pr, .int .i64 p0, .int .i64 p1, .int .i64 p2, .int .i64 p3, .int .i64 p4, .int .i64 p5, .int .i64 p6, .bool of, .int .i64 ze, .int .i64 pa] #[.bool y, .slice A1 l1 d1, .slice A2 l2 d2]); have q4 := Lib.hid (hq.up2 #[.string M, .int .i64 ov, .int .i64 by_, .bool pr, .int .i64 p0, .int .i64 p1, .int .i64 p2, .int .i64 p3, .int .i64 p4, .int .i64 p5, .int .i64 p6, .bool of, .int .i64 ze, .int .i64 pa] #[.bool y, .slice A1 l1 d1, .slice A2 l2 d2]); clear hb hq))
    | (go_at_call 66; go_loud ((with_reducible refine (LE _).mono ?_); rintro e w2 ⟨rfl, rfl⟩))
    | (go_at_call 63; go_loud ((with_reducible refine (NU _).mono ?_); rintro e w1 ⟨rfl, rfl⟩)))
  generalize hw4 : World.alloc _ (.cells #[.bool y, .slice A1 l1 d1, .slice A2 l2 d2] _) = w4 at *
  clear hw4
  generalize w3.heap.size + 1 = h2 at *
  generalize w3.heap.size = h1 at *
  refine wp_region_lit ?_
  refine wpList_load_bk rfl 54 (.tmp 12) rfl h2 #[.bool y, .slice A1 l1 d1, .slice A2 l2 d2] rfl 54 _ k4.out.2.2 Tryz.underlying54 rfl ?hi ?_
  case hi => kernel_rfl
  refine wpList_load_bk rfl 56 (.tmp 11) rfl h1 #[.string M, .int .i64 ov, .int .i64 by_, .bool pr, .int .i64 p0, .int .i64 p1, .int .i64 p2, .int .i64 p3, .int .i64 p4, .int .i64 p5, .int .i64 p6, .bool of, .int .i64 ze, .int .i64 pa] rfl 56 _ k4.out.2.1 Tryz.underlying56 rfl ?hi ?_
  case hi => kernel_rfl
  refine wpList_build_is rfl 58 #[(1, Operand.tmp 55), (2, Operand.tmp 56), (3, Operand.const (Value.bool true)), (4, Operand.const (Value.int IntKind.i64 1))] rfl #[.int .i64 0, .bool y, .slice A1 l1 d1, .slice A2 l2 d2, .string M, .int .i64 ov, .int .i64 by_, .bool pr, .int .i64 p0, .int .i64 p1, .int .i64 p2, .int .i64 p3, .int .i64 p4, .int .i64 p5, .int .i64 p6, .bool of, .int .i64 ze, .int .i64 pa, .bool true, .int .i64 1, .bool false] ?hc ?_
  case hc => kernel_rfl
  refine wpList_alloc_is rfl 58 rfl (.agg fc0C) 21 ?hz ?_
  case hz => kernel_rfl
  refine wpList_store_new rfl 58 (.tmp 14) (.tmp 57) rfl rfl #[.int .i64 0, .bool y, .slice A1 l1 d1, .slice A2 l2 d2, .string M, .int .i64 ov, .int .i64 by_, .bool pr, .int .i64 p0, .int .i64 p1, .int .i64 p2, .int .i64 p3, .int .i64 p4, .int .i64 p5, .int .i64 p6, .bool of, .int .i64 ze, .int .i64 pa, .bool true, .int .i64 1, .bool false] rfl rfl ?hc rfl ?h1 ?_
  case hc => kernel_rfl
  case h1 => simp [Value.oneCell']
  simp only [Act.put, List.setIfInBounds_toArray, List.set_cons_zero, List.set_cons_succ]
  have k5 := Lib.hid (k4.out.1.made1 #[.int .i64 0, .bool y, .slice A1 l1 d1, .slice A2 l2 d2, .string M, .int .i64 ov, .int .i64 by_, .bool pr, .int .i64 p0, .int .i64 p1, .int .i64 p2, .int .i64 p3, .int .i64 p4, .int .i64 p5, .int .i64 p6, .bool of, .int .i64 ze, .int .i64 pa, .bool true, .int .i64 1, .bool false])
  have q5 := Lib.hid (q4.out.up1 #[.int .i64 0, .bool y, .slice A1 l1 d1, .slice A2 l2 d2, .string M, .int .i64 ov, .int .i64 by_, .bool pr, .int .i64 p0, .int .i64 p1, .int .i64 p2, .int .i64 p3, .int .i64 p4, .int .i64 p5, .int .i64 p6, .bool of, .int .i64 ze, .int .i64 pa, .bool true, .int .i64 1, .bool false])
  clear q4
  clear k4
  generalize hw5 : World.alloc _ (.cells #[.int .i64 0, .bool y, .slice A1 l1 d1, .slice A2 l2 d2, .string M, .int .i64 ov, .int .i64 by_, .bool pr, .int .i64 p0, .int .i64 p1, .int .i64 p2, .int .i64 p3, .int .i64 p4, .int .i64 p5, .int .i64 p6, .bool of, .int .i64 ze, .int .i64 pa, .bool true, .int .i64 1, .bool false] _) = w5 at *
  clear hw5
  generalize w4.heap.size = h at *
  have y19 : w5.cell? ⟨h, 19, none⟩ = some (.int .i64 1) := k5.out.2.1.cell 19
  have y20 : w5.cell? ⟨h, 20, none⟩ = some (.bool false) := k5.out.2.1.cell 20
  have g19 := k5.out.2.1.frozen 19
  have g20 := k5.out.2.1.frozen 20
  have k6 : KF w ((w5.setCell ⟨h, 19, none⟩ (.int .i64 (x : Int))).setCell ⟨h, 20, none⟩ (.bool true)) := ⟨(k5.out.1.1.set_other _ (Nat.ne_of_lt k5.out.2.2)).set_other _ (Nat.ne_of_lt k5.out.2.2), (k5.out.1.2.setCell (Nat.le_of_lt k5.out.2.2) _).setCell (Nat.le_of_lt k5.out.2.2) _⟩
  have b6 : Bk ((w5.setCell ⟨h, 19, none⟩ (.int .i64 (x : Int))).setCell ⟨h, 20, none⟩ (.bool true)) h #[.int .i64 0, .bool y, .slice A1 l1 d1, .slice A2 l2 d2, .string M, .int .i64 ov, .int .i64 by_, .bool pr, .int .i64 p0, .int .i64 p1, .int .i64 p2, .int .i64 p3, .int .i64 p4, .int .i64 p5, .int .i64 p6, .bool of, .int .i64 ze, .int .i64 pa, .bool true, .int .i64 (x : Int), .bool true] 58 := (k5.out.2.1.set (i := 19) (.int .i64 (x : Int))).set (i := 20) (.bool true)
  have q6 := q5.out.putN k5.out.2.1 (by simp [notK]) 19 [.int .i64 (x : Int), .bool true]
  have k6 : KF w (((w5.setCell ⟨h, 19, none⟩ (.int .i64 (x : Int))).setCell ⟨h, 20, none⟩ (.bool true)).setCell ⟨h, 19, none⟩ (.int .i64 (-(x : Int)))) := ⟨k6.1.set_other _ (Nat.ne_of_lt k5.out.2.2), k6.2.setCell (Nat.le_of_lt k5.out.2.2) _⟩
  have q6 := q6.putN b6 (by simp [notK]) 19 [.int .i64 (-(x : Int))]
  have b6 : Bk (((w5.setCell ⟨h, 19, none⟩ (.int .i64 (x : Int))).setCell ⟨h, 20, none⟩ (.bool true)).setCell ⟨h, 19, none⟩ (.int .i64 (-(x : Int)))) h #[.int .i64 0, .bool y, .slice A1 l1 d1, .slice A2 l2 d2, .string M, .int .i64 ov, .int .i64 by_, .bool pr, .int .i64 p0, .int .i64 p1, .int .i64 p2, .int .i64 p3, .int .i64 p4, .int .i64 p5, .int .i64 p6, .bool of, .int .i64 ze, .int .i64 pa, .bool true, .int .i64 (-(x : Int)), .bool true] 58 := b6.set (i := 19) (.int .i64 (-(x : Int)))
  have k6 := Lib.hid k6
  have b6 := Lib.hid b6
  have q6 : Hid (Qr (((w5.setCell ⟨h, 19, none⟩ (.int .i64 (x : Int))).setCell ⟨h, 20, none⟩ (.bool true)).setCell ⟨h, 19, none⟩ (.int .i64 (-(x : Int)))) (.agg #[.bool y, .slice A1 l1 d1, .slice A2 l2 d2]) q) := Lib.hid q6
  clear k5 q5
  go_upto_region 19 with (first | (go_at_call 69; go_loud ((with_reducible refine (WH _).mono ?_); rintro e w7 ⟨rfl, rfl⟩)) | (go_at_call 68; go_loud ((with_reducible refine (RU _).mono ?_); rintro e w6 ⟨rfl, h6⟩; have h6 := h6.symm; subst h6)))
  generalize hw6 : (((w5.setCell ⟨h, 19, none⟩ (.int .i64 (x : Int))).setCell ⟨h, 20, none⟩ (.bool true)).setCell ⟨h, 19, none⟩ (.int .i64 (-(x : Int)))) = w6 at *
  clear hw6 y19 y20 g19 g20
  refine wp_region_lit ?_
  refine wpList_load_bk rfl 58 (.tmp 14) rfl h #[.int .i64 0, .bool y, .slice A1 l1 d1, .slice A2 l2 d2, .string M, .int .i64 ov, .int .i64 by_, .bool pr, .int .i64 p0, .int .i64 p1, .int .i64 p2, .int .i64 p3, .int .i64 p4, .int .i64 p5, .int .i64 p6, .bool of, .int .i64 ze, .int .i64 pa, .bool true, .int .i64 (-(x : Int)), .bool true] rfl 58 _ b6.out Tryz.underlying58 rfl ?hi ?_
  case hi => kernel_rfl
  refine wpList_move_is ?h1 (.tmp 10) ?h2 (.int .i64 (m2 : Int)) ?h3 ?_
  case h1 => rfl
  case h2 => rfl
  case h3 => rfl
  refine wpList_move_is ?h1 (.tmp 16) ?h2 (.int .i64 (k : Int)) ?h3 ?_
  case h1 => rfl
  case h2 => rfl
  case h3 => rfl
  refine wpList_bin_is ?h1 BinOp.add 3 (.tmp 108) (.tmp 109) 3 ?h2 (.int .i64 (m2 : Int)) (.int .i64 (k : Int)) (.int .i64 (j : Int)) ?h3 ?h4 ?h5 ?_
  case h1 => rfl
  case h2 => rfl
  case h3 => rfl
  case h4 => rfl
  case h5 => exact run_add_i64 ej3.out
  simp only [Act.put, List.setIfInBounds_toArray, List.set_cons_zero, List.set_cons_succ]
  refine wpList_move_is ?h1 (.tmp 16) ?h2 (.int .i64 (k : Int)) ?h3 ?_
  case h1 => rfl
  case h2 => rfl
  case h3 => rfl
  refine wpList_bin_is ?h1 BinOp.gtr 3 (.tmp 111) (.const (.int .i64 0)) 3 ?h2 (.int .i64 (k : Int)) (.int .i64 0) (.bool (decide (0 < (k : Int)))) ?h3 ?h4 ?h5 ?_
  case h1 => rfl
  case h2 => rfl
  case h3 => rfl
  case h4 => rfl
  case h5 => exact run_gtr_i64
  simp only [Act.put, List.setIfInBounds_toArray, List.set_cons_zero, List.set_cons_succ]
  refine wpList_store_bk ?h1 58 (.tmp 2) (.tmp 107) ?h2 w.heap.size #[.int .i64 0, .bool y, .slice A1 l1 d1, .slice A2 l2 d2, .string M, .int .i64 ov, .int .i64 by_, .bool pr, .int .i64 p0, .int .i64 p1, .int .i64 p2, .int .i64 p3, .int .i64 p4, .int .i64 p5, .int .i64 p6, .bool of, .int .i64 ze, .int .i64 pa, .bool true, .int .i64 (-(x : Int)), .bool true] ?h3 ?h4 58 fc0C k6.out.1 ?hc ?h5 ?h6 ?_
  case h1 => rfl
  case h2 => rfl
  case h3 => rfl
  case h4 => rfl
  case hc => kernel_rfl
  case h5 => rfl
  case h6 => simp [Value.oneCell']
  refine wpList_assign_is ?h1 (.tmp 110) ?h2 (.int .i64 (j : Int)) ?h3 ?_
  case h1 => rfl
  case h2 => rfl
  case h3 => rfl
  refine wpList_assign_is ?h1 (.tmp 112) ?h2 (.bool (decide (0 < (k : Int)))) ?h3 ?_
  case h1 => rfl
  case h2 => rfl
  case h3 => rfl
  simp only [Act.put, List.setIfInBounds_toArray, List.set_cons_zero, List.set_cons_succ]
  have kF := k6.out.1.row #[.int .i64 0, .bool y, .slice A1 l1 d1, .slice A2 l2 d2, .string M, .int .i64 ov, .int .i64 by_, .bool pr, .int .i64 p0, .int .i64 p1, .int .i64 p2, .int .i64 p3, .int .i64 p4, .int .i64 p5, .int .i64 p6, .bool of, .int .i64 ze, .int .i64 pa, .bool true, .int .i64 (-(x : Int)), .bool true]
  have bF := Lib.hid (below_row k6.out.2 (Nat.le_refl _) #[.int .i64 0, .bool y, .slice A1 l1 d1, .slice A2 l2 d2, .string M, .int .i64 ov, .int .i64 by_, .bool pr, .int .i64 p0, .int .i64 p1, .int .i64 p2, .int .i64 p3, .int .i64 p4, .int .i64 p5, .int .i64 p6, .bool of, .int .i64 ze, .int .i64 pa, .bool true, .int .i64 (-(x : Int)), .bool true])
  have qF := Lib.hid (q6.out.row k6.out.1 fc0_not #[.int .i64 0, .bool y, .slice A1 l1 d1, .slice A2 l2 d2, .string M, .int .i64 ov, .int .i64 by_, .bool pr, .int .i64 p0, .int .i64 p1, .int .i64 p2, .int .i64 p3, .int .i64 p4, .int .i64 p5, .int .i64 p6, .bool of, .int .i64 ze, .int .i64 pa, .bool true, .int .i64 (-(x : Int)), .bool true])
  generalize hwf : World.setRow _ _ _ = wf at *
  clear hwf
  go_wp2
  have hL := run_load_bk (P := Tryz.prog) kF Tryz.underlying58 rfl (by kernel_rfl)
  refine bodyPost_ret (results_ctt (U := .int .i64 (j : Int)) (U' := .bool (decide (0 < (k : Int)))) rfl rfl hL rfl rfl) rfl ?_
  exact HT.out _ _ _ _ _ _ _ _ bF.out qF.out

end Go.Proofs.YthjnmnepjeegiaaGreatDoor
