/- The reference's parser of units: take of a number. -/
import Derived.Test.YthjnmnepjeegiaaGreatDoorG28
import Derived.Deep.RegionHeld3
/- The reference's parser of units: take of a number. -/
namespace Go.Proofs.YthjnmnepjeegiaaGreatDoor
open Go.RowKit Go.Proofs.YthjnmnepjeegiaaGreatDoor.Dg Go.Proofs.YthjnmnepjeegiaaGreatDoor.Q Go.Proofs.YthjnmnepjeegiaaGreatDoor.Num Go.Proofs.YthjnmnepjeegiaaGreatDoor.Str

theorem yieldsIf_build_is {P : Program} {ops : Array Oper} {S : World → Prop} {op : Oper} {a : Act} (hw : Region.wanted op (yielded ops a.tmps) = true) (t : TypeId) (parts : Array (Nat × Operand)) (ho : op.op = .build t parts) (cells : Array Value)
    (hc : P.built t (parts.map fun (i, x) => (i, a.eval x)).toList = some cells) : YieldsIf P ops S op (.agg cells) a :=
  .inl ⟨hw, fun w _ => by
    unfold execOp
    simp only [ho, Sem.run_bind, run_build w t _ cells hc, Result.andThen_ok]
    rfl⟩
theorem three_range {w : World} {h : Nat} {a b c : Value} (k : w.cell? ⟨h, 0, none⟩ = some a ∧ w.cell? ⟨h, 1, none⟩ = some b ∧ w.cell? ⟨h, 2, none⟩ = some c) : w.rangeAt h 0 [a, b, c] := by
  obtain ⟨k0, k1, k2⟩ := k
  intro j v hj
  rw [Nat.zero_add]
  match j, hj with
  | 0, hj => injection hj with hj; rw [← hj]; exact k0
  | 1, hj => injection hj with hj; rw [← hj]; exact k1
  | 2, hj => injection hj with hj; rw [← hj]; exact k2
theorem KT.row {w w' : World} {h : Nat} {b0 b1 b2 : Value} (k : KT w w' h #[b0, b1, b2]) (D : Array Value) : (w'.setRow w.heap.size D).cell? ⟨h, 0, none⟩ = some b0 ∧ (w'.setRow w.heap.size D).cell? ⟨h, 1, none⟩ = some b1 ∧ (w'.setRow w.heap.size D).cell? ⟨h, 2, none⟩ = some b2 := by
  have e := k.2.1.row_other (k := w.heap.size) D (by have := k.2.2.2; omega)
  exact ⟨e.cell 0, e.cell 1, e.cell 2⟩

set_option maxRecDepth 100000 in
set_option maxHeartbeats 12800000 in
theorem rtake_num_none (S : ByteArray) (hs : S.size ≤ 1000) (hn : 0 < numb (bl S)) (hf : frm ((bl S).take (numb (bl S))) = none) (w : World) : Calls Tryz.prog 35 #[.string S] w (TakeR (bl S) (rstep (bl S)) w) := by
  have k0 := Lib.hid (KF.start w)
  have NU := fun w' => rnumeral_any S hs w'
  have hle := numb_le (bl S)
  rw [bl_len] at hle
  obtain ⟨n, hX⟩ : ∃ n, numb (bl S) = n := ⟨_, rfl⟩
  rw [hX] at NU hle
  have gn : (0 : Int) < (n : Int) := by omega
  have gl : (n : Int) ≤ (S.size : Int) := by omega
  have sb : (S.size : Int) ≤ 1000 := by omega
  obtain ⟨P, hP⟩ : ∃ P, S.extract 0 n = P := ⟨_, rfl⟩
  have hPb : bl P = (bl S).take n := by rw [← hP, bl_cut]; simp
  have hPs : P.size ≤ 1000 := by rw [← bl_len, hPb, List.length_take, bl_len]; omega
  have PL := fun w' => rplain_any P hPs w'
  rw [hPb] at PL
  have TX := fun w' v q (h : Qr w' v q) (hz : sz q ≤ 5000) => rtextq_any v q w' h (by omega)
  rw [hX] at hf
  have hRn := rstep_none hn (by rw [hX]; exact hf)
  rw [hRn]
  rw [hf] at PL
  clear hPb hPs hX hn hRn hf hle
  go_enter Tryz.func35, Tryz.ntmps35
  go_upto_region 5 with (first
    | (go_at_call 36; go_loud ((with_reducible refine (TX _ _ _ q3.out hz).mono ?_); rintro e w4 ⟨rfl, hb⟩; have k4 := Lib.hid (k3.out.up hb); have kd := Lib.hid (k4.out.up (Below.drew (Below.refl _ _))); clear hb))
    | (go_at_call 64; go_loud ((with_reducible refine (PL _).mono ?_); rintro e w2 ⟨y, A1, l1, d1, A2, l2, d2, q, rfl, hb, hq, hz, _⟩; have k3 := Lib.hid ((k0.out.up hb).made #[.bool y, .slice A1 l1 d1, .slice A2 l2 d2]); have q3 := Lib.hid (hq.up ((Below.refl w2.heap.size w2).alloc (Nat.le_refl _) (.cells #[.bool y, .slice A1 l1 d1, .slice A2 l2 d2] 54))); clear hb hq))
    | (go_at_call 63; go_loud ((with_reducible refine (NU _).mono ?_); rintro e w1 ⟨rfl, rfl⟩)))
  generalize w2.heap.size = h at *
  clear hz
  refine wp_region_noPanic ?_
  refine wp_region_held_drew (S := fun w' => w'.cell? ⟨h, 0, none⟩ = some (.bool y) ∧ w'.cell? ⟨h, 1, none⟩ = some (.slice A1 l1 d1) ∧ w'.cell? ⟨h, 2, none⟩ = some (.slice A2 l2 d2)) (by kernel_rfl) kd.out.cells (fun hHeld => ?_)
  refine hTake (i := 0) (d := some 33) (v := .agg #[.bool y, .slice A1 l1 d1, .slice A2 l2 d2]) (by kernel_rfl) (by kernel_rfl) (by kernel_rfl) ?_ (by kernel_rfl) (fun _ _ _ h => h) hHeld ?_
  · intro o ho
    simp only [List.getElem?_toArray, List.getElem?_cons_zero, Option.some.injEq] at ho
    subst ho
    refine ⟨rfl, yieldsIf_load_mid rfl 54 (.tmp 6) rfl h 0 rfl [.bool y, .slice A1 l1 d1, .slice A2 l2 d2] _ (fun w' hw' => three_range hw') Tryz.underlying54 rfl ?_⟩
    kernel_rfl
  simp only [Act.put, List.setIfInBounds_toArray, List.set_cons_zero, List.set_cons_succ]
  refine hTake (i := 1) (d := some 34) (v := .agg #[.int .i64 0, .bool y, .slice A1 l1 d1, .slice A2 l2 d2, .string ⟨#[]⟩, .int .i64 0, .int .i64 0, .bool false, .int .i64 0, .int .i64 0, .int .i64 0, .int .i64 0, .int .i64 0, .int .i64 0, .int .i64 0, .bool false, .int .i64 0, .int .i64 0, .bool false, .int .i64 1, .bool false]) (by kernel_rfl) (by kernel_rfl) (by kernel_rfl) ?_ (by kernel_rfl) (fun _ _ _ h => h) hHeld ?_
  · intro o ho
    simp only [List.getElem?_toArray, List.getElem?_cons_succ, List.getElem?_cons_zero, Option.some.injEq] at ho
    subst ho
    refine ⟨rfl, yieldsIf_build_is rfl 58 #[(1, Operand.tmp 33), (4, Operand.const (Value.int IntKind.i64 1))] rfl #[.int .i64 0, .bool y, .slice A1 l1 d1, .slice A2 l2 d2, .string ⟨#[]⟩, .int .i64 0, .int .i64 0, .bool false, .int .i64 0, .int .i64 0, .int .i64 0, .int .i64 0, .int .i64 0, .int .i64 0, .int .i64 0, .bool false, .int .i64 0, .int .i64 0, .bool false, .int .i64 1, .bool false] ?_⟩
    kernel_rfl
  simp only [Act.put, List.setIfInBounds_toArray, List.set_cons_zero, List.set_cons_succ]
  refine hTake (i := 2) (d := some 35) (v := .int .i64 (n : Int)) (by kernel_rfl) (by kernel_rfl) (by kernel_rfl) ?_ (by kernel_rfl) (fun _ _ _ h => h) hHeld ?_
  · intro o ho
    simp only [List.getElem?_toArray, List.getElem?_cons_succ, List.getElem?_cons_zero, Option.some.injEq] at ho
    subst ho
    refine ⟨rfl, Or.inl ⟨by rfl, ?_⟩⟩
    intro w' hSw
    first | (go_simp; done) | (with_reducible rfl)
  simp only [Act.put, List.setIfInBounds_toArray, List.set_cons_zero, List.set_cons_succ]
  refine hTake (i := 3) (d := some 36) (v := .bool false) (by kernel_rfl) (by kernel_rfl) (by kernel_rfl) ?_ (by kernel_rfl) (fun _ _ _ h => h) hHeld ?_
  · intro o ho
    simp only [List.getElem?_toArray, List.getElem?_cons_succ, List.getElem?_cons_zero, Option.some.injEq] at ho
    subst ho
    refine ⟨rfl, Or.inl ⟨by rfl, ?_⟩⟩
    intro w' hSw
    first | (go_simp; done) | (with_reducible rfl)
  simp only [Act.put, List.setIfInBounds_toArray, List.set_cons_zero, List.set_cons_succ]
  refine hTake (i := 4) (d := some 37) (v := .bool false) (by kernel_rfl) (by kernel_rfl) (by kernel_rfl) ?_ (by kernel_rfl) (fun _ _ _ h => h) hHeld ?_
  · intro o ho
    simp only [List.getElem?_toArray, List.getElem?_cons_succ, List.getElem?_cons_zero, Option.some.injEq] at ho
    subst ho
    refine ⟨rfl, Or.inl ⟨by rfl, ?_⟩⟩
    intro w' hSw
    first | (go_simp; done) | (with_reducible rfl)
  simp only [Act.put, List.setIfInBounds_toArray, List.set_cons_zero, List.set_cons_succ]
  refine hTake (i := 5) (d := some 38) (v := undef) (by kernel_rfl) (by kernel_rfl) (by kernel_rfl) ?_ (by kernel_rfl) (fun _ _ _ h => h) hHeld ?_
  · intro o ho
    simp only [List.getElem?_toArray, List.getElem?_cons_succ, List.getElem?_cons_zero, Option.some.injEq] at ho
    subst ho
    exact ⟨rfl, Or.inr ⟨by rfl, rfl⟩⟩
  simp only [Act.put, List.setIfInBounds_toArray, List.set_cons_zero, List.set_cons_succ]
  refine hTake (i := 6) (d := some 39) (v := .bool false) (by kernel_rfl) (by kernel_rfl) (by kernel_rfl) ?_ (by kernel_rfl) (fun _ _ _ h => h) hHeld ?_
  · intro o ho
    simp only [List.getElem?_toArray, List.getElem?_cons_succ, List.getElem?_cons_zero, Option.some.injEq] at ho
    subst ho
    refine ⟨rfl, Or.inl ⟨by rfl, ?_⟩⟩
    intro w' hSw
    first | (go_simp; done) | (with_reducible rfl)
  simp only [Act.put, List.setIfInBounds_toArray, List.set_cons_zero, List.set_cons_succ]
  refine hTake (i := 7) (d := some 40) (v := .bool false) (by kernel_rfl) (by kernel_rfl) (by kernel_rfl) ?_ (by kernel_rfl) (fun _ _ _ h => h) hHeld ?_
  · intro o ho
    simp only [List.getElem?_toArray, List.getElem?_cons_succ, List.getElem?_cons_zero, Option.some.injEq] at ho
    subst ho
    refine ⟨rfl, Or.inl ⟨by rfl, ?_⟩⟩
    intro w' hSw
    first | (go_simp; done) | (with_reducible rfl)
  simp only [Act.put, List.setIfInBounds_toArray, List.set_cons_zero, List.set_cons_succ]
  refine hTake (i := 8) (d := some 41) (v := undef) (by kernel_rfl) (by kernel_rfl) (by kernel_rfl) ?_ (by kernel_rfl) (fun _ _ _ h => h) hHeld ?_
  · intro o ho
    simp only [List.getElem?_toArray, List.getElem?_cons_succ, List.getElem?_cons_zero, Option.some.injEq] at ho
    subst ho
    exact ⟨rfl, Or.inr ⟨by rfl, rfl⟩⟩
  simp only [Act.put, List.setIfInBounds_toArray, List.set_cons_zero, List.set_cons_succ]
  refine hTake (i := 9) (d := some 42) (v := undef) (by kernel_rfl) (by kernel_rfl) (by kernel_rfl) ?_ (by kernel_rfl) (fun _ _ _ h => h) hHeld ?_
  · intro o ho
    simp only [List.getElem?_toArray, List.getElem?_cons_succ, List.getElem?_cons_zero, Option.some.injEq] at ho
    subst ho
    exact ⟨rfl, Or.inr ⟨by rfl, rfl⟩⟩
  simp only [Act.put, List.setIfInBounds_toArray, List.set_cons_zero, List.set_cons_succ]
  refine hTake (i := 10) (d := some 43) (v := undef) (by kernel_rfl) (by kernel_rfl) (by kernel_rfl) ?_ (by kernel_rfl) (fun _ _ _ h => h) hHeld ?_
  · intro o ho
    simp only [List.getElem?_toArray, List.getElem?_cons_succ, List.getElem?_cons_zero, Option.some.injEq] at ho
    subst ho
    exact ⟨rfl, Or.inr ⟨by rfl, rfl⟩⟩
  simp only [Act.put, List.setIfInBounds_toArray, List.set_cons_zero, List.set_cons_succ]
  refine hTake (i := 11) (d := some 44) (v := .bool false) (by kernel_rfl) (by kernel_rfl) (by kernel_rfl) ?_ (by kernel_rfl) (fun _ _ _ h => h) hHeld ?_
  · intro o ho
    simp only [List.getElem?_toArray, List.getElem?_cons_succ, List.getElem?_cons_zero, Option.some.injEq] at ho
    subst ho
    refine ⟨rfl, Or.inl ⟨by rfl, ?_⟩⟩
    intro w' hSw
    first | (go_simp; done) | (with_reducible rfl)
  simp only [Act.put, List.setIfInBounds_toArray, List.set_cons_zero, List.set_cons_succ]
  refine wpAnyH_ready (rs := [12]) (by kernel_rfl) (by simp) (AllReadyH.cons rfl (fun K hK => ?_) AllReadyH.nil)
  refine wp_store_row 58 (.tmp 2) (.tmp 34) ?h2 w.heap.size #[.int .i64 0, .bool y, .slice A1 l1 d1, .slice A2 l2 d2, .string ⟨#[]⟩, .int .i64 0, .int .i64 0, .bool false, .int .i64 0, .int .i64 0, .int .i64 0, .int .i64 0, .int .i64 0, .int .i64 0, .int .i64 0, .bool false, .int .i64 0, .int .i64 0, .bool false, .int .i64 1, .bool false] ?h3 ?h4 58 fc0C kd.out.1 ?hc ?h5 ?h6 ?_
  case h2 => rfl
  case h3 => rfl
  case h4 => rfl
  case hc => kernel_rfl
  case h5 => rfl
  case h6 => simp [Value.oneCell']
  refine hK.out _ _ ?_ (fun hHeld => ?_)
  · exact KT.row kd.out _
  clear hK K
  try simp only [Act.put, List.setIfInBounds_toArray]
  refine wpAnyH_ready (rs := [13]) (by kernel_rfl) (by simp) (AllReadyH.cons rfl (fun K hK => ?_) AllReadyH.nil)
  go_simp
  refine hK.out _ _ ?_ (fun hHeld => ?_)
  · with_reducible exact hHeld
  clear hK K
  try simp only [Act.put, List.setIfInBounds_toArray, List.set_cons_zero, List.set_cons_succ]
  refine wpAnyH_ready (rs := [14]) (by kernel_rfl) (by simp) (AllReadyH.cons rfl (fun K hK => ?_) AllReadyH.nil)
  go_simp
  refine hK.out _ _ ?_ (fun hHeld => ?_)
  · with_reducible exact hHeld
  clear hK K
  try simp only [Act.put, List.setIfInBounds_toArray, List.set_cons_zero, List.set_cons_succ]
  refine wpAnyH_done (by kernel_rfl) (noP ?_) _
  have kF := kd.out.1.row #[.int .i64 0, .bool y, .slice A1 l1 d1, .slice A2 l2 d2, .string ⟨#[]⟩, .int .i64 0, .int .i64 0, .bool false, .int .i64 0, .int .i64 0, .int .i64 0, .int .i64 0, .int .i64 0, .int .i64 0, .int .i64 0, .bool false, .int .i64 0, .int .i64 0, .bool false, .int .i64 1, .bool false]
  have bF := Lib.hid (below_row kd.out.2.2.1 (Nat.le_refl _) #[.int .i64 0, .bool y, .slice A1 l1 d1, .slice A2 l2 d2, .string ⟨#[]⟩, .int .i64 0, .int .i64 0, .bool false, .int .i64 0, .int .i64 0, .int .i64 0, .int .i64 0, .int .i64 0, .int .i64 0, .int .i64 0, .bool false, .int .i64 0, .int .i64 0, .bool false, .int .i64 1, .bool false])
  generalize hwf : World.setRow _ _ _ = wf at *
  clear hwf
  go_wp2
  have hL := run_load_bk (P := Tryz.prog) kF Tryz.underlying58 rfl (by kernel_rfl)
  refine bodyPost_ret (results_ctt (U := .int .i64 (n : Int)) (U' := .bool false) rfl rfl hL rfl rfl) rfl ?_
  exact TakeR.no bF.out

set_option maxRecDepth 100000 in
set_option maxHeartbeats 12800000 in
theorem rtake_num_long (S : ByteArray) (hs : S.size ≤ 1000) (hn : 0 < numb (bl S)) {q : Rat} (hf : frm ((bl S).take (numb (bl S))) = some q) (hs2 : short q = false) (w : World) : Calls Tryz.prog 35 #[.string S] w (TakeR (bl S) (rstep (bl S)) w) := by
  have k0 := Lib.hid (KF.start w)
  have NU := fun w' => rnumeral_any S hs w'
  have hle := numb_le (bl S)
  rw [bl_len] at hle
  obtain ⟨n, hX⟩ : ∃ n, numb (bl S) = n := ⟨_, rfl⟩
  rw [hX] at NU hle
  have gn : (0 : Int) < (n : Int) := by omega
  have gl : (n : Int) ≤ (S.size : Int) := by omega
  have sb : (S.size : Int) ≤ 1000 := by omega
  obtain ⟨P, hP⟩ : ∃ P, S.extract 0 n = P := ⟨_, rfl⟩
  have hPb : bl P = (bl S).take n := by rw [← hP, bl_cut]; simp
  have hPs : P.size ≤ 1000 := by rw [← bl_len, hPb, List.length_take, bl_len]; omega
  have PL := fun w' => rplain_any P hPs w'
  rw [hPb] at PL
  have TX := fun w' v q (h : Qr w' v q) (hz : sz q ≤ 5000) => rtextq_any v q w' h (by omega)
  rw [hX] at hf
  have hRb := rstep_bad hn (by rw [hX]; exact hf) (fun k => by rw [hs2] at k; cases k.1)
  rw [hRb]
  rw [hf] at PL
  have PL := fun w' => (PL w').mono fun e w2 h => ReadR.some5 h
  have TX := fun w' v (h : Qr w' v q) (hz : sz q ≤ 5000) => TX w' v q h hz
  rw [hs2] at TX
  clear hPb hPs hX hn hf hle hs2 hRb
  go_enter Tryz.func35, Tryz.ntmps35
  go_upto_region 5 with (first
    | (go_at_call 36; go_loud ((with_reducible refine (TX _ _ q3.out hz).mono ?_); rintro e w4 ⟨rfl, hb⟩; have k4 := Lib.hid (k3.out.up hb); have kd := Lib.hid (k4.out.up (Below.drew (Below.refl _ _))); clear hb))
    | (go_at_call 64; go_loud ((with_reducible refine (PL _).mono ?_); rintro e w2 ⟨y, A1, l1, d1, A2, l2, d2, rfl, hb, hq, hz⟩; have k3 := Lib.hid ((k0.out.up hb).made #[.bool y, .slice A1 l1 d1, .slice A2 l2 d2]); have q3 := Lib.hid (hq.up ((Below.refl w2.heap.size w2).alloc (Nat.le_refl _) (.cells #[.bool y, .slice A1 l1 d1, .slice A2 l2 d2] 54))); clear hb hq))
    | (go_at_call 63; go_loud ((with_reducible refine (NU _).mono ?_); rintro e w1 ⟨rfl, rfl⟩)))
  generalize w2.heap.size = h at *
  clear hz
  refine wp_region_noPanic ?_
  refine wp_region_held_drew (S := fun w' => w'.cell? ⟨h, 0, none⟩ = some (.bool y) ∧ w'.cell? ⟨h, 1, none⟩ = some (.slice A1 l1 d1) ∧ w'.cell? ⟨h, 2, none⟩ = some (.slice A2 l2 d2)) (by kernel_rfl) kd.out.cells (fun hHeld => ?_)
  refine hTake (i := 0) (d := some 33) (v := .agg #[.bool y, .slice A1 l1 d1, .slice A2 l2 d2]) (by kernel_rfl) (by kernel_rfl) (by kernel_rfl) ?_ (by kernel_rfl) (fun _ _ _ h => h) hHeld ?_
  · intro o ho
    simp only [List.getElem?_toArray, List.getElem?_cons_zero, Option.some.injEq] at ho
    subst ho
    refine ⟨rfl, yieldsIf_load_mid rfl 54 (.tmp 6) rfl h 0 rfl [.bool y, .slice A1 l1 d1, .slice A2 l2 d2] _ (fun w' hw' => three_range hw') Tryz.underlying54 rfl ?_⟩
    kernel_rfl
  simp only [Act.put, List.setIfInBounds_toArray, List.set_cons_zero, List.set_cons_succ]
  refine hTake (i := 1) (d := some 34) (v := .agg #[.int .i64 0, .bool y, .slice A1 l1 d1, .slice A2 l2 d2, .string ⟨#[]⟩, .int .i64 0, .int .i64 0, .bool false, .int .i64 0, .int .i64 0, .int .i64 0, .int .i64 0, .int .i64 0, .int .i64 0, .int .i64 0, .bool false, .int .i64 0, .int .i64 0, .bool false, .int .i64 1, .bool false]) (by kernel_rfl) (by kernel_rfl) (by kernel_rfl) ?_ (by kernel_rfl) (fun _ _ _ h => h) hHeld ?_
  · intro o ho
    simp only [List.getElem?_toArray, List.getElem?_cons_succ, List.getElem?_cons_zero, Option.some.injEq] at ho
    subst ho
    refine ⟨rfl, yieldsIf_build_is rfl 58 #[(1, Operand.tmp 33), (4, Operand.const (Value.int IntKind.i64 1))] rfl #[.int .i64 0, .bool y, .slice A1 l1 d1, .slice A2 l2 d2, .string ⟨#[]⟩, .int .i64 0, .int .i64 0, .bool false, .int .i64 0, .int .i64 0, .int .i64 0, .int .i64 0, .int .i64 0, .int .i64 0, .int .i64 0, .bool false, .int .i64 0, .int .i64 0, .bool false, .int .i64 1, .bool false] ?_⟩
    kernel_rfl
  simp only [Act.put, List.setIfInBounds_toArray, List.set_cons_zero, List.set_cons_succ]
  refine hTake (i := 2) (d := some 35) (v := .int .i64 (n : Int)) (by kernel_rfl) (by kernel_rfl) (by kernel_rfl) ?_ (by kernel_rfl) (fun _ _ _ h => h) hHeld ?_
  · intro o ho
    simp only [List.getElem?_toArray, List.getElem?_cons_succ, List.getElem?_cons_zero, Option.some.injEq] at ho
    subst ho
    refine ⟨rfl, Or.inl ⟨by rfl, ?_⟩⟩
    intro w' hSw
    first | (go_simp; done) | (with_reducible rfl)
  simp only [Act.put, List.setIfInBounds_toArray, List.set_cons_zero, List.set_cons_succ]
  refine hTake (i := 3) (d := some 36) (v := .bool true) (by kernel_rfl) (by kernel_rfl) (by kernel_rfl) ?_ (by kernel_rfl) (fun _ _ _ h => h) hHeld ?_
  · intro o ho
    simp only [List.getElem?_toArray, List.getElem?_cons_succ, List.getElem?_cons_zero, Option.some.injEq] at ho
    subst ho
    refine ⟨rfl, Or.inl ⟨by rfl, ?_⟩⟩
    intro w' hSw
    first | (go_simp; done) | (with_reducible rfl)
  simp only [Act.put, List.setIfInBounds_toArray, List.set_cons_zero, List.set_cons_succ]
  refine hTake (i := 4) (d := some 37) (v := .bool true) (by kernel_rfl) (by kernel_rfl) (by kernel_rfl) ?_ (by kernel_rfl) (fun _ _ _ h => h) hHeld ?_
  · intro o ho
    simp only [List.getElem?_toArray, List.getElem?_cons_succ, List.getElem?_cons_zero, Option.some.injEq] at ho
    subst ho
    refine ⟨rfl, Or.inl ⟨by rfl, ?_⟩⟩
    intro w' hSw
    first | (go_simp; done) | (with_reducible rfl)
  simp only [Act.put, List.setIfInBounds_toArray, List.set_cons_zero, List.set_cons_succ]
  refine hTake (i := 5) (d := some 38) (v := .bool false) (by kernel_rfl) (by kernel_rfl) (by kernel_rfl) ?_ (by kernel_rfl) (fun _ _ _ h => h) hHeld ?_
  · intro o ho
    simp only [List.getElem?_toArray, List.getElem?_cons_succ, List.getElem?_cons_zero, Option.some.injEq] at ho
    subst ho
    refine ⟨rfl, Or.inl ⟨by rfl, ?_⟩⟩
    intro w' hSw
    first | (go_simp; done) | (with_reducible rfl)
  simp only [Act.put, List.setIfInBounds_toArray, List.set_cons_zero, List.set_cons_succ]
  refine hTake (i := 6) (d := some 39) (v := .bool false) (by kernel_rfl) (by kernel_rfl) (by kernel_rfl) ?_ (by kernel_rfl) (fun _ _ _ h => h) hHeld ?_
  · intro o ho
    simp only [List.getElem?_toArray, List.getElem?_cons_succ, List.getElem?_cons_zero, Option.some.injEq] at ho
    subst ho
    refine ⟨rfl, Or.inl ⟨by rfl, ?_⟩⟩
    intro w' hSw
    first | (go_simp; done) | (with_reducible rfl)
  simp only [Act.put, List.setIfInBounds_toArray, List.set_cons_zero, List.set_cons_succ]
  refine hTake (i := 7) (d := some 40) (v := .bool false) (by kernel_rfl) (by kernel_rfl) (by kernel_rfl) ?_ (by kernel_rfl) (fun _ _ _ h => h) hHeld ?_
  · intro o ho
    simp only [List.getElem?_toArray, List.getElem?_cons_succ, List.getElem?_cons_zero, Option.some.injEq] at ho
    subst ho
    refine ⟨rfl, Or.inl ⟨by rfl, ?_⟩⟩
    intro w' hSw
    first | (go_simp; done) | (with_reducible rfl)
  simp only [Act.put, List.setIfInBounds_toArray, List.set_cons_zero, List.set_cons_succ]
  refine hTake (i := 8) (d := some 41) (v := undef) (by kernel_rfl) (by kernel_rfl) (by kernel_rfl) ?_ (by kernel_rfl) (fun _ _ _ h => h) hHeld ?_
  · intro o ho
    simp only [List.getElem?_toArray, List.getElem?_cons_succ, List.getElem?_cons_zero, Option.some.injEq] at ho
    subst ho
    exact ⟨rfl, Or.inr ⟨by rfl, rfl⟩⟩
  simp only [Act.put, List.setIfInBounds_toArray, List.set_cons_zero, List.set_cons_succ]
  refine hTake (i := 9) (d := some 42) (v := undef) (by kernel_rfl) (by kernel_rfl) (by kernel_rfl) ?_ (by kernel_rfl) (fun _ _ _ h => h) hHeld ?_
  · intro o ho
    simp only [List.getElem?_toArray, List.getElem?_cons_succ, List.getElem?_cons_zero, Option.some.injEq] at ho
    subst ho
    exact ⟨rfl, Or.inr ⟨by rfl, rfl⟩⟩
  simp only [Act.put, List.setIfInBounds_toArray, List.set_cons_zero, List.set_cons_succ]
  refine hTake (i := 10) (d := some 43) (v := undef) (by kernel_rfl) (by kernel_rfl) (by kernel_rfl) ?_ (by kernel_rfl) (fun _ _ _ h => h) hHeld ?_
  · intro o ho
    simp only [List.getElem?_toArray, List.getElem?_cons_succ, List.getElem?_cons_zero, Option.some.injEq] at ho
    subst ho
    exact ⟨rfl, Or.inr ⟨by rfl, rfl⟩⟩
  simp only [Act.put, List.setIfInBounds_toArray, List.set_cons_zero, List.set_cons_succ]
  refine hTake (i := 11) (d := some 44) (v := .bool false) (by kernel_rfl) (by kernel_rfl) (by kernel_rfl) ?_ (by kernel_rfl) (fun _ _ _ h => h) hHeld ?_
  · intro o ho
    simp only [List.getElem?_toArray, List.getElem?_cons_succ, List.getElem?_cons_zero, Option.some.injEq] at ho
    subst ho
    refine ⟨rfl, Or.inl ⟨by rfl, ?_⟩⟩
    intro w' hSw
    first | (go_simp; done) | (with_reducible rfl)
  simp only [Act.put, List.setIfInBounds_toArray, List.set_cons_zero, List.set_cons_succ]
  refine wpAnyH_ready (rs := [12]) (by kernel_rfl) (by simp) (AllReadyH.cons rfl (fun K hK => ?_) AllReadyH.nil)
  refine wp_store_row 58 (.tmp 2) (.tmp 34) ?h2 w.heap.size #[.int .i64 0, .bool y, .slice A1 l1 d1, .slice A2 l2 d2, .string ⟨#[]⟩, .int .i64 0, .int .i64 0, .bool false, .int .i64 0, .int .i64 0, .int .i64 0, .int .i64 0, .int .i64 0, .int .i64 0, .int .i64 0, .bool false, .int .i64 0, .int .i64 0, .bool false, .int .i64 1, .bool false] ?h3 ?h4 58 fc0C kd.out.1 ?hc ?h5 ?h6 ?_
  case h2 => rfl
  case h3 => rfl
  case h4 => rfl
  case hc => kernel_rfl
  case h5 => rfl
  case h6 => simp [Value.oneCell']
  refine hK.out _ _ ?_ (fun hHeld => ?_)
  · exact KT.row kd.out _
  clear hK K
  try simp only [Act.put, List.setIfInBounds_toArray]
  refine wpAnyH_ready (rs := [13]) (by kernel_rfl) (by simp) (AllReadyH.cons rfl (fun K hK => ?_) AllReadyH.nil)
  go_simp
  refine hK.out _ _ ?_ (fun hHeld => ?_)
  · with_reducible exact hHeld
  clear hK K
  try simp only [Act.put, List.setIfInBounds_toArray, List.set_cons_zero, List.set_cons_succ]
  refine wpAnyH_ready (rs := [14]) (by kernel_rfl) (by simp) (AllReadyH.cons rfl (fun K hK => ?_) AllReadyH.nil)
  go_simp
  refine hK.out _ _ ?_ (fun hHeld => ?_)
  · with_reducible exact hHeld
  clear hK K
  try simp only [Act.put, List.setIfInBounds_toArray, List.set_cons_zero, List.set_cons_succ]
  refine wpAnyH_done (by kernel_rfl) (noP ?_) _
  have kF := kd.out.1.row #[.int .i64 0, .bool y, .slice A1 l1 d1, .slice A2 l2 d2, .string ⟨#[]⟩, .int .i64 0, .int .i64 0, .bool false, .int .i64 0, .int .i64 0, .int .i64 0, .int .i64 0, .int .i64 0, .int .i64 0, .int .i64 0, .bool false, .int .i64 0, .int .i64 0, .bool false, .int .i64 1, .bool false]
  have bF := Lib.hid (below_row kd.out.2.2.1 (Nat.le_refl _) #[.int .i64 0, .bool y, .slice A1 l1 d1, .slice A2 l2 d2, .string ⟨#[]⟩, .int .i64 0, .int .i64 0, .bool false, .int .i64 0, .int .i64 0, .int .i64 0, .int .i64 0, .int .i64 0, .int .i64 0, .int .i64 0, .bool false, .int .i64 0, .int .i64 0, .bool false, .int .i64 1, .bool false])
  generalize hwf : World.setRow _ _ _ = wf at *
  clear hwf
  go_wp2
  have hL := run_load_bk (P := Tryz.prog) kF Tryz.underlying58 rfl (by kernel_rfl)
  refine bodyPost_ret (results_ctt (U := .int .i64 (n : Int)) (U' := .bool false) rfl rfl hL rfl rfl) rfl ?_
  exact TakeR.no bF.out

set_option maxRecDepth 100000 in
set_option maxHeartbeats 12800000 in
theorem rtake_num_short (S : ByteArray) (hs : S.size ≤ 1000) (hn : 0 < numb (bl S)) {q : Rat} (hf : frm ((bl S).take (numb (bl S))) = some q) (hs2 : short q = true) (w : World) : Calls Tryz.prog 35 #[.string S] w (TakeR (bl S) (rstep (bl S)) w) := by
  have k0 := Lib.hid (KF.start w)
  have NU := fun w' => rnumeral_any S hs w'
  have hle := numb_le (bl S)
  rw [bl_len] at hle
  obtain ⟨n, hX⟩ : ∃ n, numb (bl S) = n := ⟨_, rfl⟩
  rw [hX] at NU hle
  have gn : (0 : Int) < (n : Int) := by omega
  have gl : (n : Int) ≤ (S.size : Int) := by omega
  have sb : (S.size : Int) ≤ 1000 := by omega
  obtain ⟨P, hP⟩ : ∃ P, S.extract 0 n = P := ⟨_, rfl⟩
  have hPb : bl P = (bl S).take n := by rw [← hP, bl_cut]; simp
  have hPs : P.size ≤ 1000 := by rw [← bl_len, hPb, List.length_take, bl_len]; omega
  have PL := fun w' => rplain_any P hPs w'
  rw [hPb] at PL
  have TX := fun w' v q (h : Qr w' v q) (hz : sz q ≤ 5000) => rtextq_any v q w' h (by omega)
  rw [hX] at hf
  have HG := Lib.hid (fun (w' : World) (y : Bool) A1 l1 d1 A2 l2 d2 => TakeR.either (w := w) (w' := w') (y := y) (A1 := A1) (l1 := l1) (d1 := d1) (A2 := A2) (l2 := l2) (d2 := d2) hn (by rw [hX]; exact hf) hs2 hX)
  rw [hf] at PL
  have PL := fun w' => (PL w').mono fun e w2 h => ReadR.some5 h
  have SG := fun w' v (h : Qr w' v q) => rsgn_any v q w' h
  have TX := fun w' v (h : Qr w' v q) (hz : sz q ≤ 5000) => TX w' v q h hz
  rw [hs2] at TX
  clear hPb hPs hX hn hf hle hs2
  obtain ⟨s, hs3⟩ : ∃ s, sign q = s := ⟨_, rfl⟩
  rw [hs3] at HG
  simp only [hs3] at SG
  clear hs3
  go_enter Tryz.func35, Tryz.ntmps35
  go_upto_region 5 with (first
    | (go_at_call 36; go_loud ((with_reducible refine (TX _ _ q3.out hz).mono ?_); rintro e w4 ⟨rfl, hb⟩; have k4 := Lib.hid (k3.out.up hb); have kd := Lib.hid (k4.out.up (Below.drew (Below.refl _ _))); have q4 := Lib.hid ((q3.out.up hb).up (Below.drew (Below.refl _ _))); clear hb))
    | (go_at_call 64; go_loud ((with_reducible refine (PL _).mono ?_); rintro e w2 ⟨y, A1, l1, d1, A2, l2, d2, rfl, hb, hq, hz⟩; have k3 := Lib.hid ((k0.out.up hb).made #[.bool y, .slice A1 l1 d1, .slice A2 l2 d2]); have q3 := Lib.hid (hq.up ((Below.refl w2.heap.size w2).alloc (Nat.le_refl _) (.cells #[.bool y, .slice A1 l1 d1, .slice A2 l2 d2] 54))); clear hb hq))
    | (go_at_call 63; go_loud ((with_reducible refine (NU _).mono ?_); rintro e w1 ⟨rfl, rfl⟩)))
  generalize w2.heap.size = h at *
  clear hz
  refine wp_region_noPanic ?_
  refine wp_region_held_drew (S := fun w' => w'.cell? ⟨h, 0, none⟩ = some (.bool y) ∧ w'.cell? ⟨h, 1, none⟩ = some (.slice A1 l1 d1) ∧ w'.cell? ⟨h, 2, none⟩ = some (.slice A2 l2 d2)) (by kernel_rfl) kd.out.cells (fun hHeld => ?_)
  refine hTake (i := 0) (d := some 33) (v := .agg #[.bool y, .slice A1 l1 d1, .slice A2 l2 d2]) (by kernel_rfl) (by kernel_rfl) (by kernel_rfl) ?_ (by kernel_rfl) (fun _ _ _ h => h) hHeld ?_
  · intro o ho
    simp only [List.getElem?_toArray, List.getElem?_cons_zero, Option.some.injEq] at ho
    subst ho
    refine ⟨rfl, yieldsIf_load_mid rfl 54 (.tmp 6) rfl h 0 rfl [.bool y, .slice A1 l1 d1, .slice A2 l2 d2] _ (fun w' hw' => three_range hw') Tryz.underlying54 rfl ?_⟩
    kernel_rfl
  simp only [Act.put, List.setIfInBounds_toArray, List.set_cons_zero, List.set_cons_succ]
  refine hTake (i := 1) (d := some 34) (v := .agg #[.int .i64 0, .bool y, .slice A1 l1 d1, .slice A2 l2 d2, .string ⟨#[]⟩, .int .i64 0, .int .i64 0, .bool false, .int .i64 0, .int .i64 0, .int .i64 0, .int .i64 0, .int .i64 0, .int .i64 0, .int .i64 0, .bool false, .int .i64 0, .int .i64 0, .bool false, .int .i64 1, .bool false]) (by kernel_rfl) (by kernel_rfl) (by kernel_rfl) ?_ (by kernel_rfl) (fun _ _ _ h => h) hHeld ?_
  · intro o ho
    simp only [List.getElem?_toArray, List.getElem?_cons_succ, List.getElem?_cons_zero, Option.some.injEq] at ho
    subst ho
    refine ⟨rfl, yieldsIf_build_is rfl 58 #[(1, Operand.tmp 33), (4, Operand.const (Value.int IntKind.i64 1))] rfl #[.int .i64 0, .bool y, .slice A1 l1 d1, .slice A2 l2 d2, .string ⟨#[]⟩, .int .i64 0, .int .i64 0, .bool false, .int .i64 0, .int .i64 0, .int .i64 0, .int .i64 0, .int .i64 0, .int .i64 0, .int .i64 0, .bool false, .int .i64 0, .int .i64 0, .bool false, .int .i64 1, .bool false] ?_⟩
    kernel_rfl
  simp only [Act.put, List.setIfInBounds_toArray, List.set_cons_zero, List.set_cons_succ]
  refine hTake (i := 2) (d := some 35) (v := .int .i64 (n : Int)) (by kernel_rfl) (by kernel_rfl) (by kernel_rfl) ?_ (by kernel_rfl) (fun _ _ _ h => h) hHeld ?_
  · intro o ho
    simp only [List.getElem?_toArray, List.getElem?_cons_succ, List.getElem?_cons_zero, Option.some.injEq] at ho
    subst ho
    refine ⟨rfl, Or.inl ⟨by rfl, ?_⟩⟩
    intro w' hSw
    first | (go_simp; done) | (with_reducible rfl)
  simp only [Act.put, List.setIfInBounds_toArray, List.set_cons_zero, List.set_cons_succ]
  refine hTake (i := 3) (d := some 36) (v := .bool true) (by kernel_rfl) (by kernel_rfl) (by kernel_rfl) ?_ (by kernel_rfl) (fun _ _ _ h => h) hHeld ?_
  · intro o ho
    simp only [List.getElem?_toArray, List.getElem?_cons_succ, List.getElem?_cons_zero, Option.some.injEq] at ho
    subst ho
    refine ⟨rfl, Or.inl ⟨by rfl, ?_⟩⟩
    intro w' hSw
    first | (go_simp; done) | (with_reducible rfl)
  simp only [Act.put, List.setIfInBounds_toArray, List.set_cons_zero, List.set_cons_succ]
  refine hTake (i := 4) (d := some 37) (v := .bool true) (by kernel_rfl) (by kernel_rfl) (by kernel_rfl) ?_ (by kernel_rfl) (fun _ _ _ h => h) hHeld ?_
  · intro o ho
    simp only [List.getElem?_toArray, List.getElem?_cons_succ, List.getElem?_cons_zero, Option.some.injEq] at ho
    subst ho
    refine ⟨rfl, Or.inl ⟨by rfl, ?_⟩⟩
    intro w' hSw
    first | (go_simp; done) | (with_reducible rfl)
  simp only [Act.put, List.setIfInBounds_toArray, List.set_cons_zero, List.set_cons_succ]
  refine hTake (i := 5) (d := some 38) (v := .bool true) (by kernel_rfl) (by kernel_rfl) (by kernel_rfl) ?_ (by kernel_rfl) (fun _ _ _ h => h) hHeld ?_
  · intro o ho
    simp only [List.getElem?_toArray, List.getElem?_cons_succ, List.getElem?_cons_zero, Option.some.injEq] at ho
    subst ho
    refine ⟨rfl, Or.inl ⟨by rfl, ?_⟩⟩
    intro w' hSw
    first | (go_simp; done) | (with_reducible rfl)
  simp only [Act.put, List.setIfInBounds_toArray, List.set_cons_zero, List.set_cons_succ]
  refine hTake (i := 6) (d := some 39) (v := .bool true) (by kernel_rfl) (by kernel_rfl) (by kernel_rfl) ?_ (by kernel_rfl) (fun _ _ _ h => h) hHeld ?_
  · intro o ho
    simp only [List.getElem?_toArray, List.getElem?_cons_succ, List.getElem?_cons_zero, Option.some.injEq] at ho
    subst ho
    refine ⟨rfl, Or.inl ⟨by rfl, ?_⟩⟩
    intro w' hSw
    first | (go_simp; done) | (with_reducible rfl)
  simp only [Act.put, List.setIfInBounds_toArray, List.set_cons_zero, List.set_cons_succ]
  refine hTake (i := 7) (d := some 40) (v := .bool true) (by kernel_rfl) (by kernel_rfl) (by kernel_rfl) ?_ (by kernel_rfl) (fun _ _ _ h => h) hHeld ?_
  · intro o ho
    simp only [List.getElem?_toArray, List.getElem?_cons_succ, List.getElem?_cons_zero, Option.some.injEq] at ho
    subst ho
    refine ⟨rfl, Or.inl ⟨by rfl, ?_⟩⟩
    intro w' hSw
    first | (go_simp; done) | (with_reducible rfl)
  simp only [Act.put, List.setIfInBounds_toArray, List.set_cons_zero, List.set_cons_succ]
  refine hTake (i := 8) (d := some 41) (v := .agg #[.bool y, .slice A1 l1 d1, .slice A2 l2 d2]) (by kernel_rfl) (by kernel_rfl) (by kernel_rfl) ?_ (by kernel_rfl) (fun _ _ _ h => h) hHeld ?_
  · intro o ho
    simp only [List.getElem?_toArray, List.getElem?_cons_succ, List.getElem?_cons_zero, Option.some.injEq] at ho
    subst ho
    refine ⟨rfl, yieldsIf_load_mid rfl 54 (.tmp 6) rfl h 0 rfl [.bool y, .slice A1 l1 d1, .slice A2 l2 d2] _ (fun w' hw' => three_range hw') Tryz.underlying54 rfl ?_⟩
    kernel_rfl
  simp only [Act.put, List.setIfInBounds_toArray, List.set_cons_zero, List.set_cons_succ]
  refine wpAnyH_ready (rs := [9]) (by kernel_rfl) (by simp) (AllReadyH.cons rfl (fun K hK => ?_) AllReadyH.nil)
  refine wp_call_is 65 #[.agg #[.bool y, .slice A1 l1 d1, .slice A2 l2 d2]] ?hr (SG _ _ q4.out) ?_
  case hr => first | kernel_rfl | (go_simp; done)
  rintro e w5 ⟨rfl, hb⟩
  refine ⟨_, rfl, ?_⟩
  have k5 := Lib.hid (kd.out.up hb)
  have q5 := Lib.hid (q4.out.up hb)
  clear hb
  refine hK.out _ _ ?_ (fun hHeld => ?_)
  · exact k5.out.cells
  clear hK K
  simp only [Act.put, List.setIfInBounds_toArray]
  refine hTake (i := 10) (d := some 43) (v := .bool (decide (0 < s))) (by kernel_rfl) (by kernel_rfl) (by kernel_rfl) ?_ (by kernel_rfl) (fun _ _ _ h => h) hHeld ?_
  · intro o ho
    simp only [List.getElem?_toArray, List.getElem?_cons_succ, List.getElem?_cons_zero, Option.some.injEq] at ho
    subst ho
    refine ⟨rfl, Or.inl ⟨by rfl, ?_⟩⟩
    intro w' hSw
    first | (go_simp; done) | (with_reducible rfl)
  simp only [Act.put]
  refine hTake (i := 11) (d := some 44) (v := .bool (decide (0 < s))) (by kernel_rfl) (by kernel_rfl) (by kernel_rfl) ?_ (by kernel_rfl) (fun _ _ _ h => h) hHeld ?_
  · intro o ho
    simp only [List.getElem?_toArray, List.getElem?_cons_succ, List.getElem?_cons_zero, Option.some.injEq] at ho
    subst ho
    refine ⟨rfl, Or.inl ⟨by rfl, ?_⟩⟩
    intro w' hSw
    first | (go_simp; done) | (with_reducible rfl)
  simp only [Act.put]
  refine wpAnyH_ready (rs := [12]) (by kernel_rfl) (by simp) (AllReadyH.cons rfl (fun K hK => ?_) AllReadyH.nil)
  refine wp_store_row 58 (.tmp 2) (.tmp 34) ?h2 w.heap.size #[.int .i64 0, .bool y, .slice A1 l1 d1, .slice A2 l2 d2, .string ⟨#[]⟩, .int .i64 0, .int .i64 0, .bool false, .int .i64 0, .int .i64 0, .int .i64 0, .int .i64 0, .int .i64 0, .int .i64 0, .int .i64 0, .bool false, .int .i64 0, .int .i64 0, .bool false, .int .i64 1, .bool false] ?h3 ?h4 58 fc0C k5.out.1 ?hc ?h5 ?h6 ?_
  case h2 => rfl
  case h3 => rfl
  case h4 => rfl
  case hc => kernel_rfl
  case h5 => rfl
  case h6 => simp [Value.oneCell']
  refine hK.out _ _ ?_ (fun hHeld => ?_)
  · exact KT.row k5.out _
  clear hK K
  try simp only [Act.put]
  refine wpAnyH_ready (rs := [13]) (by kernel_rfl) (by simp) (AllReadyH.cons rfl (fun K hK => ?_) AllReadyH.nil)
  go_simp
  refine hK.out _ _ ?_ (fun hHeld => ?_)
  · with_reducible exact hHeld
  clear hK K
  try simp only [Act.put, List.setIfInBounds_toArray, List.set_cons_zero, List.set_cons_succ]
  refine wpAnyH_ready (rs := [14]) (by kernel_rfl) (by simp) (AllReadyH.cons rfl (fun K hK => ?_) AllReadyH.nil)
  go_simp
  refine hK.out _ _ ?_ (fun hHeld => ?_)
  · with_reducible exact hHeld
  clear hK K
  try simp only [Act.put, List.setIfInBounds_toArray, List.set_cons_zero, List.set_cons_succ]
  refine wpAnyH_done (by kernel_rfl) (noP ?_) _
  have kF := k5.out.1.row #[.int .i64 0, .bool y, .slice A1 l1 d1, .slice A2 l2 d2, .string ⟨#[]⟩, .int .i64 0, .int .i64 0, .bool false, .int .i64 0, .int .i64 0, .int .i64 0, .int .i64 0, .int .i64 0, .int .i64 0, .int .i64 0, .bool false, .int .i64 0, .int .i64 0, .bool false, .int .i64 1, .bool false]
  have bF := Lib.hid (below_row k5.out.2.2.1 (Nat.le_refl _) #[.int .i64 0, .bool y, .slice A1 l1 d1, .slice A2 l2 d2, .string ⟨#[]⟩, .int .i64 0, .int .i64 0, .bool false, .int .i64 0, .int .i64 0, .int .i64 0, .int .i64 0, .int .i64 0, .int .i64 0, .int .i64 0, .bool false, .int .i64 0, .int .i64 0, .bool false, .int .i64 1, .bool false])
  have qF := Lib.hid (q5.out.row k5.out.1 fc0_not #[.int .i64 0, .bool y, .slice A1 l1 d1, .slice A2 l2 d2, .string ⟨#[]⟩, .int .i64 0, .int .i64 0, .bool false, .int .i64 0, .int .i64 0, .int .i64 0, .int .i64 0, .int .i64 0, .int .i64 0, .int .i64 0, .bool false, .int .i64 0, .int .i64 0, .bool false, .int .i64 1, .bool false])
  generalize hwf : World.setRow _ _ _ = wf at *
  clear hwf
  go_wp2
  have hL := run_load_bk (P := Tryz.prog) kF Tryz.underlying58 rfl (by kernel_rfl)
  refine bodyPost_ret (results_ctt (U := .int .i64 (n : Int)) (U' := .bool (decide (0 < s))) rfl rfl hL rfl rfl) rfl ?_
  exact HG.out _ _ _ _ _ _ _ _ bF.out qF.out

theorem rtake_num (S : ByteArray) (hs : S.size ≤ 1000) (hn : 0 < numb (bl S)) (w : World) : Calls Tryz.prog 35 #[.string S] w (TakeR (bl S) (rstep (bl S)) w) := by
  cases hf : frm ((bl S).take (numb (bl S))) with
  | none => exact rtake_num_none S hs hn hf w
  | some q =>
    cases h2 : short q
    · exact rtake_num_long S hs hn hf h2 w
    · exact rtake_num_short S hs hn hf h2 w
end Go.Proofs.YthjnmnepjeegiaaGreatDoor
