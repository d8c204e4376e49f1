/- Parse of the program. -/
import Derived.Test.YtnjjkcnokkhlkaaGreatDoorTxD
namespace Go.Proofs.YtnjjkcnokkhlkaaGreatDoor
open Go.RowKit Go.Sort Go.Joins Go.Proofs.YtnjjkcnokkhlkaaGreatDoor.Str

/-- What Parse returns, as a value. -/
def PS (c : Int) (s : List UInt8) : Value := .tuple #[dt (Tx.pY c s) (Tx.pM c s) (Tx.pD c s), .int .i64 (Tx.pE c s)]
theorem PS_err {c : Int} {s : List UInt8} {e : Int} (h : Tx.pE c s = e) (he : e ≠ 0) : PS c s = .tuple #[.agg #[.int .i64 0, .int .i64 0, .int .i64 0], .int .i64 e] := by
  unfold PS Tx.pY Tx.pM Tx.pD
  rw [h, if_neg he, if_neg he, if_neg he]
theorem PS_ok {c : Int} {s : List UInt8} (h : Tx.pE c s = 0) : PS c s = .tuple #[.agg #[.int .i64 (Tx.sy s), .int .i64 (Tx.mv (Tx.rest s)), .int .i64 (Tx.dv (Tx.rest s))], .int .i64 0] := by
  unfold PS Tx.pY Tx.pM Tx.pD
  rw [if_pos h, if_pos h, if_pos h, h]

theorem cut_neg (s : List UInt8) : Lib.hasPrefix s [45] = Tx.neg s ∧ Lib.trimPrefix s [45] = Tx.rest s := by
  cases s with
  | nil => exact ⟨rfl, rfl⟩
  | cons x l =>
    have h : Lib.hasPrefix (x :: l) [45] = (x == 45) := by
      unfold Lib.hasPrefix
      show (45 == x && true) = (x == 45)
      rw [Bool.and_true, Bool.eq_iff_iff, beq_iff_eq, beq_iff_eq]
      exact eq_comm
    refine ⟨h, ?_⟩
    unfold Lib.trimPrefix Tx.rest
    rw [h]
    show (if (x == 45) = true then _ else _) = (if (x == 45) = true then _ else _)
    split <;> rfl

/-- The pieces that Split gives. -/
theorem split_pieces (r : List UInt8) : ∃ ps : List ByteArray, Lib.splitB ⟨#[45]⟩ 0 (Lib.countB ⟨r.toArray⟩ ⟨#[45]⟩) ⟨r.toArray⟩ = ps ∧ Lib.countB ⟨r.toArray⟩ ⟨#[45]⟩ + 1 = ps.length ∧ ps.map (·.data.toList) = spl 45 r := by
  obtain ⟨h1, h2⟩ := split_one 45 r.length r (Nat.le_refl _)
  have hc : Lib.countB ⟨r.toArray⟩ ⟨#[45]⟩ = Lib.count r [45] := rfl
  have hd := Lib.splitB_data ⟨#[45]⟩ 0 (Lib.countB ⟨r.toArray⟩ ⟨#[45]⟩) ⟨r.toArray⟩
  have hm : (Lib.splitB ⟨#[45]⟩ 0 (Lib.countB ⟨r.toArray⟩ ⟨#[45]⟩) ⟨r.toArray⟩).map (·.data.toList) = spl 45 r := by
    rw [hd, hc]; exact h1
  refine ⟨_, rfl, ?_, hm⟩
  rw [hc, h2, ← hm, List.length_map]

theorem spl_len {c : UInt8} : ∀ {ps : List (List UInt8)} {l : List UInt8}, spl c l = ps → ∀ x ∈ ps, x.length ≤ l.length
  | [], l, h, x, hx => by simp at hx
  | a :: ps, l, h, x, hx => by
    obtain ⟨_, h2⟩ := spl_join h
    rcases List.mem_cons.1 hx with rfl | hx
    · rcases h2 with ⟨_, rfl⟩ | ⟨b, rfl, _⟩
      · exact Nat.le_refl _
      · simp
    · rcases h2 with ⟨rfl, _⟩ | ⟨b, rfl, hb⟩
      · simp at hx
      · have := spl_len hb x hx
        simp; omega

set_option maxRecDepth 100000 in
set_option maxHeartbeats 3200000 in
/-- Parse of the program. -/
theorem Parse_any (c : Int) (s : ByteArray) (hs : s.size ≤ 4000000000) (w : World) (mx : Int) (hmx : w.cell? ⟨0, 0, none⟩ = some (.int .i64 mx)) (hw : 0 < w.heap.size) :
    Calls Tryz.prog 6 #[.int .i64 c, .string s] w fun e w' => e = .returned (PS c s.data.toList) ∧ Below w.heap.size w w' := by
  have K := fun w => known_any c w
  cases hk : kn c
  · have PE := Lib.hid (show Tx.pE c s.data.toList = 20 by unfold Tx.pE; rw [hk]; simp)
    rw [hk] at K
    clear hk
    rw [PS_err PE.out (by omega)]
    go_enter Tryz.func6, Tryz.ntmps6
    go_wp2_with (first | (go_at_call 14; refine (K _).mono ?_; rintro e w' ⟨rfl, rfl⟩))
    refine bodyPost_ret (v := .tuple #[.agg #[.int .i64 0, .int .i64 0, .int .i64 0], .int .i64 20]) (by simp [results, Tryz.results6, go_sem]) rfl ⟨rfl, ?_⟩
    exact (Below.refl _ _).alloc (Nat.le_refl _) _
  have hk' := hk
  rw [hk] at K
  have hr0 : (Tx.rest s.data.toList).length ≤ s.size := by
    rw [Lib.size_eq s]
    unfold Tx.rest
    split
    · rw [List.length_tail]; omega
    · exact Nat.le_refl _
  have CP : ∀ w, Calls Tryz.prog 15 #[.string s, .string ⟨#[45]⟩] w fun e w' => e = .returned (.tuple #[.string ⟨(Tx.rest s.data.toList).toArray⟩, .bool (Tx.neg s.data.toList)]) ∧ w' = w := by
    intro w
    obtain ⟨h1, h2⟩ := cut_neg s.data.toList
    rw [← h1, ← h2]
    exact Tryz.strings_CutPrefix s ⟨#[45]⟩ w
  obtain ⟨ps, hp1, hp2, hp3⟩ := split_pieces (Tx.rest s.data.toList)
  have SPL := Tryz.strings_Split ⟨(Tx.rest s.data.toList).toArray⟩ ⟨#[45]⟩ mx (w.alloc (.cells #[.int .i64 0, .int .i64 0, .int .i64 0] 23)) (by rw [size_of_list]; omega) ((World.cell?_alloc_lt w _ ⟨0, 0, none⟩ hw).trans hmx) (by decide)
  rw [hp1, hp2] at SPL
  have hps : ps.length ≤ 4000000002 := by
    have := Lib.count_le (Tx.rest s.data.toList) [45]
    have hc : Lib.countB ⟨(Tx.rest s.data.toList).toArray⟩ ⟨#[45]⟩ = Lib.count (Tx.rest s.data.toList) [45] := rfl
    rw [hc] at hp2
    omega
  clear hp1 hp2
  by_cases h3 : ps.length = 3
  · match ps, h3 with
    | [a, b, d], _ =>
      have hsp : spl 45 (Tx.rest s.data.toList) = [a.data.toList, b.data.toList, d.data.toList] := hp3.symm
      clear hp3 hps
      have hsz : ∀ x ∈ ([a, b, d] : List ByteArray), x.size ≤ 9223372036854775807 := by
        intro x hx
        have hl := spl_len hsp x.data.toList (by simp at hx ⊢; rcases hx with rfl | rfl | rfl <;> simp)
        rw [Lib.size_eq x]; omega
      have D1 : ∀ w, Calls Tryz.prog 17 #[.string a, .int .i64 4] w fun e w' => e = .returned (.tuple #[.int .i64 (dgv a.data.toList 4), .bool (dgo a.data.toList 4)]) ∧ Below w.heap.size w w' := fun w => digits_any a 4 (by omega) (by omega) w (hsz a (by simp))
      have D2 : ∀ w, Calls Tryz.prog 17 #[.string b, .int .i64 2] w fun e w' => e = .returned (.tuple #[.int .i64 (dgv b.data.toList 2), .bool (dgo b.data.toList 2)]) ∧ Below w.heap.size w w' := fun w => digits_any b 2 (by omega) (by omega) w (hsz b (by simp))
      have D3 : ∀ w, Calls Tryz.prog 17 #[.string d, .int .i64 2] w fun e w' => e = .returned (.tuple #[.int .i64 (dgv d.data.toList 2), .bool (dgo d.data.toList 2)]) ∧ Below w.heap.size w w' := fun w => digits_any d 2 (by omega) (by omega) w (hsz d (by simp))
      clear hsz
      by_cases hall : dgo a.data.toList 4 = true ∧ dgo b.data.toList 2 = true ∧ dgo d.data.toList 2 = true
      · obtain ⟨h1, h2, h3⟩ := hall
        have hd1 : a.data.toList.length = 4 ∧ allD a.data.toList = true := by unfold dgo at h1; simpa using h1
        have hd2 : b.data.toList.length = 2 ∧ allD b.data.toList = true := by unfold dgo at h2; simpa using h2
        have hd3 : d.data.toList.length = 2 ∧ allD d.data.toList = true := by unfold dgo at h3; simpa using h3
        obtain ⟨g0, g1, g2, g3⟩ := Tx.shape_spl hsp hd1.1 hd2.1 hd3.1 hd1.2 hd2.2 hd3.2
        have e1 : dgv a.data.toList 4 = (Tx.yv (Tx.rest s.data.toList) : Int) := by unfold dgv Tx.yv; rw [h1, g1]; rfl
        have e2 : dgv b.data.toList 2 = (Tx.mv (Tx.rest s.data.toList) : Int) := by unfold dgv Tx.mv; rw [h2, g2]; rfl
        have e3 : dgv d.data.toList 2 = (Tx.dv (Tx.rest s.data.toList) : Int) := by unfold dgv Tx.dv; rw [h3, g3]; rfl
        have bY : Tx.yv (Tx.rest s.data.toList) < 10000 := by unfold Tx.yv; rw [g1]; have := val_lt _ hd1.2; rw [hd1.1] at this; simpa using this
        have bM : Tx.mv (Tx.rest s.data.toList) < 100 := by unfold Tx.mv; rw [g2]; have := val_lt _ hd2.2; rw [hd2.1] at this; simpa using this
        have bD : Tx.dv (Tx.rest s.data.toList) < 100 := by unfold Tx.dv; rw [g3]; have := val_lt _ hd3.2; rw [hd3.1] at this; simpa using this
        rw [h1, e1] at D1
        rw [h2, e2] at D2
        rw [h3, e3] at D3
        clear h1 h2 h3 hd1 hd2 hd3 g1 g2 g3 e1 e2 e3 hsp
        by_cases hz : Tx.neg s.data.toList = true ∧ Tx.yv (Tx.rest s.data.toList) = 0
        · have PN := Lib.hid (show Tx.pE c s.data.toList = 3 by
            have hpn : Tx.psn s.data.toList = false := by unfold Tx.psn; rw [hz.1, hz.2]; simp
            unfold Tx.pE; rw [hk', hpn]; simp)
          rw [PS_err PN.out (by omega)]
          rw [hz.2] at D1
          rw [hz.1] at CP
          clear hk hk' hz bY PN g0
          generalize Tx.mv (Tx.rest s.data.toList) = M at *
          generalize Tx.dv (Tx.rest s.data.toList) = D at *
          generalize (⟨(Tx.rest s.data.toList).toArray⟩ : ByteArray) = R at *
          go_enter Tryz.func6, Tryz.ntmps6
          go_wp2_with (first | (go_at_call 14; refine (K _).mono ?_; rintro e w' ⟨rfl, rfl⟩) | (go_at_call 15; refine (CP _).mono ?_; rintro e w' ⟨rfl, rfl⟩) | (go_at_call 16; refine SPL.mono ?_; rintro e w2 ⟨rfl, rfl⟩) | (go_at_call 17; (with_reducible refine (D1 _).mono ?_); rintro e w3 ⟨rfl, hb3⟩; obtain ⟨hc3, hf3⟩ := bcell hb3; have hz3 : w.heap.size + 1 < w3.heap.size := Nat.lt_of_lt_of_le (by simp) hb3.size; have hy3 : w.heap.size < w3.heap.size := Nat.lt_of_succ_lt hz3) | (go_at_call 17; (with_reducible refine (D2 _).mono ?_); rintro e w4 ⟨rfl, hb4⟩; obtain ⟨hc4, hf4⟩ := bcell hb4; have hz4 : w.heap.size + 1 < w4.heap.size := Nat.lt_of_lt_of_le hz3 hb4.size; have hy4 : w.heap.size < w4.heap.size := Nat.lt_of_succ_lt hz4) | (go_at_call 17; (with_reducible refine (D3 _).mono ?_); rintro e w5 ⟨rfl, hb5⟩; obtain ⟨hc5, hf5⟩ := bcell hb5; have hz5 : w.heap.size + 1 < w5.heap.size := Nat.lt_of_lt_of_le hz4 hb5.size; have hy5 : w.heap.size < w5.heap.size := Nat.lt_of_succ_lt hz5))
          obtain ⟨a0, a1, a2, _⟩ := keep3 (b := w.heap.size) (x := .int .i64 0) (y := .int .i64 0) (z := .int .i64 0) hb3 (by simp; omega) (by simp [go_sem]) (by simp [go_sem]) (by simp [go_sem])
          obtain ⟨b0, b1, b2, _⟩ := keep3 (b := w.heap.size) hb4 hy3 a0 a1 a2
          obtain ⟨q0, q1, q2, _⟩ := keep3 (b := w.heap.size) hb5 hy4 b0 b1 b2
          have hB : Below w.heap.size w w5 := ((((((Below.refl _ _).alloc (Nat.le_refl _) _).alloc (by simp) _).trans (hb3.mono (by simp; omega))).trans (hb4.mono (Nat.le_of_lt hy3))).trans (hb5.mono (Nat.le_of_lt hy4)))
          refine bodyPost_ret (v := .tuple #[.agg #[.int .i64 0, .int .i64 0, .int .i64 0], .int .i64 3]) (by simp [results, Tryz.results6, go_sem, q0, q1, q2]) rfl ⟨rfl, ?_⟩
          exact ((hB.setCell (Nat.le_refl _) _).setCell (Nat.le_refl _) _).setCell (Nat.le_refl _) _
        · have hpn : Tx.psn s.data.toList = true := by
            unfold Tx.psn
            rw [g0]
            revert hz
            cases Tx.neg s.data.toList <;> simp
          have V := fun w => Valid_any c (Tx.sy s.data.toList) (Tx.mv (Tx.rest s.data.toList)) (Tx.dv (Tx.rest s.data.toList)) w
          have HPS : Hid (PS c s.data.toList = if Cal.vld c (Tx.sy s.data.toList) (Tx.mv (Tx.rest s.data.toList)) (Tx.dv (Tx.rest s.data.toList)) = true then .tuple #[.agg #[.int .i64 (Tx.sy s.data.toList), .int .i64 (Tx.mv (Tx.rest s.data.toList)), .int .i64 (Tx.dv (Tx.rest s.data.toList))], .int .i64 0] else .tuple #[.agg #[.int .i64 0, .int .i64 0, .int .i64 0], .int .i64 21]) := by
            show PS c s.data.toList = _
            cases hv : Cal.vld c (Tx.sy s.data.toList) (Tx.mv (Tx.rest s.data.toList)) (Tx.dv (Tx.rest s.data.toList))
            · rw [PS_err (e := 21) (by unfold Tx.pE; rw [hk', hpn, hv]; simp) (by omega)]; rfl
            · rw [PS_ok (by unfold Tx.pE; rw [hk', hpn, hv]; simp)]; rfl
          rw [HPS.out]
          clear HPS hpn g0 hk hk'
          cases hn : Tx.neg s.data.toList
          · rw [hn] at CP hz
            have hsy : Tx.sy s.data.toList = (Tx.yv (Tx.rest s.data.toList) : Int) := by unfold Tx.sy; rw [hn]; rfl
            rw [hsy] at V ⊢
            clear hn hsy
            generalize Tx.yv (Tx.rest s.data.toList) = Y at *
            generalize Tx.mv (Tx.rest s.data.toList) = M at *
            generalize Tx.dv (Tx.rest s.data.toList) = D at *
            generalize (⟨(Tx.rest s.data.toList).toArray⟩ : ByteArray) = R at *
            clear hz
            cases hv : Cal.vld c (Y : Int) (M : Int) (D : Int)
            · rw [hv] at V
              clear hv
              rw [if_neg (by simp)]
              go_enter Tryz.func6, Tryz.ntmps6
              go_wp2_with (first | (go_at_call 14; refine (K _).mono ?_; rintro e w' ⟨rfl, rfl⟩) | (go_at_call 15; refine (CP _).mono ?_; rintro e w' ⟨rfl, rfl⟩) | (go_at_call 16; refine SPL.mono ?_; rintro e w2 ⟨rfl, rfl⟩) | (go_at_call 17; (with_reducible refine (D1 _).mono ?_); rintro e w3 ⟨rfl, hb3⟩; obtain ⟨hc3, hf3⟩ := bcell hb3; have hz3 : w.heap.size + 1 < w3.heap.size := Nat.lt_of_lt_of_le (by simp) hb3.size; have hy3 : w.heap.size < w3.heap.size := Nat.lt_of_succ_lt hz3) | (go_at_call 17; (with_reducible refine (D2 _).mono ?_); rintro e w4 ⟨rfl, hb4⟩; obtain ⟨hc4, hf4⟩ := bcell hb4; have hz4 : w.heap.size + 1 < w4.heap.size := Nat.lt_of_lt_of_le hz3 hb4.size; have hy4 : w.heap.size < w4.heap.size := Nat.lt_of_succ_lt hz4) | (go_at_call 17; (with_reducible refine (D3 _).mono ?_); rintro e w5 ⟨rfl, hb5⟩; obtain ⟨hc5, hf5⟩ := bcell hb5; have hz5 : w.heap.size + 1 < w5.heap.size := Nat.lt_of_lt_of_le hz4 hb5.size; have hy5 : w.heap.size < w5.heap.size := Nat.lt_of_succ_lt hz5) | (go_at_call 18; refine (V _).mono ?_; rintro e w6 ⟨rfl, hb6⟩; obtain ⟨hc6, hf6⟩ := bcell hb6; have hz6 := lt_of_below_alloc hb6; have hy6 := Nat.lt_trans hy5 hz6))
              obtain ⟨a0, a1, a2, _⟩ := keep3 (b := w.heap.size) (x := .int .i64 0) (y := .int .i64 0) (z := .int .i64 0) hb3 (by simp; omega) (by simp [go_sem]) (by simp [go_sem]) (by simp [go_sem])
              obtain ⟨b0, b1, b2, _⟩ := keep3 (b := w.heap.size) hb4 hy3 a0 a1 a2
              obtain ⟨q0, q1, q2, _⟩ := keep3 (b := w.heap.size) hb5 hy4 b0 b1 b2
              have hB : Below w.heap.size w w5 := ((((((Below.refl _ _).alloc (Nat.le_refl _) _).alloc (by simp) _).trans (hb3.mono (by simp; omega))).trans (hb4.mono (Nat.le_of_lt hy3))).trans (hb5.mono (Nat.le_of_lt hy4)))
              obtain ⟨r0, r1, r2, _⟩ := keep3 (b := w.heap.size) hb6 (by simp; omega) ((World.cell?_alloc_lt w5 _ ⟨w.heap.size, 0, none⟩ hy5).trans q0) ((World.cell?_alloc_lt w5 _ ⟨w.heap.size, 1, none⟩ hy5).trans q1) ((World.cell?_alloc_lt w5 _ ⟨w.heap.size, 2, none⟩ hy5).trans q2)
              have hB6 : Below w.heap.size w w6 := (hB.alloc (Nat.le_of_lt hy5) _).trans (hb6.mono (by simp; omega))
              refine bodyPost_ret (v := .tuple #[.agg #[.int .i64 0, .int .i64 0, .int .i64 0], .int .i64 21]) (by simp [results, Tryz.results6, go_sem, r0, r1, r2]) rfl ⟨rfl, ?_⟩
              exact ((hB6.setCell (Nat.le_refl _) _).setCell (Nat.le_refl _) _).setCell (Nat.le_refl _) _
            · rw [hv] at V
              clear hv
              rw [if_pos rfl]
              go_enter Tryz.func6, Tryz.ntmps6
              go_wp2_with (first | (go_at_call 14; refine (K _).mono ?_; rintro e w' ⟨rfl, rfl⟩) | (go_at_call 15; refine (CP _).mono ?_; rintro e w' ⟨rfl, rfl⟩) | (go_at_call 16; refine SPL.mono ?_; rintro e w2 ⟨rfl, rfl⟩) | (go_at_call 17; (with_reducible refine (D1 _).mono ?_); rintro e w3 ⟨rfl, hb3⟩; obtain ⟨hc3, hf3⟩ := bcell hb3; have hz3 : w.heap.size + 1 < w3.heap.size := Nat.lt_of_lt_of_le (by simp) hb3.size; have hy3 : w.heap.size < w3.heap.size := Nat.lt_of_succ_lt hz3) | (go_at_call 17; (with_reducible refine (D2 _).mono ?_); rintro e w4 ⟨rfl, hb4⟩; obtain ⟨hc4, hf4⟩ := bcell hb4; have hz4 : w.heap.size + 1 < w4.heap.size := Nat.lt_of_lt_of_le hz3 hb4.size; have hy4 : w.heap.size < w4.heap.size := Nat.lt_of_succ_lt hz4) | (go_at_call 17; (with_reducible refine (D3 _).mono ?_); rintro e w5 ⟨rfl, hb5⟩; obtain ⟨hc5, hf5⟩ := bcell hb5; have hz5 : w.heap.size + 1 < w5.heap.size := Nat.lt_of_lt_of_le hz4 hb5.size; have hy5 : w.heap.size < w5.heap.size := Nat.lt_of_succ_lt hz5) | (go_at_call 18; refine (V _).mono ?_; rintro e w6 ⟨rfl, hb6⟩; obtain ⟨hc6, hf6⟩ := bcell hb6; have hz6 := lt_of_below_alloc hb6; have hy6 := Nat.lt_trans hy5 hz6))
              obtain ⟨a0, a1, a2, _⟩ := keep3 (b := w.heap.size) (x := .int .i64 0) (y := .int .i64 0) (z := .int .i64 0) hb3 (by simp; omega) (by simp [go_sem]) (by simp [go_sem]) (by simp [go_sem])
              obtain ⟨b0, b1, b2, _⟩ := keep3 (b := w.heap.size) hb4 hy3 a0 a1 a2
              obtain ⟨q0, q1, q2, _⟩ := keep3 (b := w.heap.size) hb5 hy4 b0 b1 b2
              have hB : Below w.heap.size w w5 := ((((((Below.refl _ _).alloc (Nat.le_refl _) _).alloc (by simp) _).trans (hb3.mono (by simp; omega))).trans (hb4.mono (Nat.le_of_lt hy3))).trans (hb5.mono (Nat.le_of_lt hy4)))
              obtain ⟨r0, r1, r2, _⟩ := keep3 (b := w.heap.size) hb6 (by simp; omega) ((World.cell?_alloc_lt w5 _ ⟨w.heap.size, 0, none⟩ hy5).trans q0) ((World.cell?_alloc_lt w5 _ ⟨w.heap.size, 1, none⟩ hy5).trans q1) ((World.cell?_alloc_lt w5 _ ⟨w.heap.size, 2, none⟩ hy5).trans q2)
              have hB6 : Below w.heap.size w w6 := (hB.alloc (Nat.le_of_lt hy5) _).trans (hb6.mono (by simp; omega))
              refine bodyPost_ret (v := .tuple #[.agg #[.int .i64 (Y : Int), .int .i64 M, .int .i64 D], .int .i64 0]) (by simp [results, Tryz.results6, go_sem, r0, r1, r2]) rfl ⟨rfl, ?_⟩
              exact ((hB6.setCell (Nat.le_refl _) _).setCell (Nat.le_refl _) _).setCell (Nat.le_refl _) _
          · rw [hn] at CP hz
            have hsy : Tx.sy s.data.toList = -(Tx.yv (Tx.rest s.data.toList) : Int) := by unfold Tx.sy; rw [hn]; rfl
            rw [hsy] at V ⊢
            clear hn hsy
            generalize Tx.yv (Tx.rest s.data.toList) = Y at *
            generalize Tx.mv (Tx.rest s.data.toList) = M at *
            generalize Tx.dv (Tx.rest s.data.toList) = D at *
            generalize (⟨(Tx.rest s.data.toList).toArray⟩ : ByteArray) = R at *
            have hY0 : Y ≠ 0 := fun e => hz ⟨rfl, e⟩
            have hY1 : ((Y : Int) == 0) = false := by simpa using hY0
            have hng : IntKind.i64.wrap (-(Y : Int)) = -(Y : Int) := IntWalk.i64_in _ (by omega)
            clear hz
            cases hv : Cal.vld c (-(Y : Int)) (M : Int) (D : Int)
            · rw [hv] at V
              clear hv
              rw [if_neg (by simp)]
              go_enter Tryz.func6, Tryz.ntmps6
              go_wp2_with (first | (go_at_call 14; refine (K _).mono ?_; rintro e w' ⟨rfl, rfl⟩) | (go_at_call 15; refine (CP _).mono ?_; rintro e w' ⟨rfl, rfl⟩) | (go_at_call 16; refine SPL.mono ?_; rintro e w2 ⟨rfl, rfl⟩) | (go_at_call 17; (with_reducible refine (D1 _).mono ?_); rintro e w3 ⟨rfl, hb3⟩; obtain ⟨hc3, hf3⟩ := bcell hb3; have hz3 : w.heap.size + 1 < w3.heap.size := Nat.lt_of_lt_of_le (by simp) hb3.size; have hy3 : w.heap.size < w3.heap.size := Nat.lt_of_succ_lt hz3) | (go_at_call 17; (with_reducible refine (D2 _).mono ?_); rintro e w4 ⟨rfl, hb4⟩; obtain ⟨hc4, hf4⟩ := bcell hb4; have hz4 : w.heap.size + 1 < w4.heap.size := Nat.lt_of_lt_of_le hz3 hb4.size; have hy4 : w.heap.size < w4.heap.size := Nat.lt_of_succ_lt hz4) | (go_at_call 17; (with_reducible refine (D3 _).mono ?_); rintro e w5 ⟨rfl, hb5⟩; obtain ⟨hc5, hf5⟩ := bcell hb5; have hz5 : w.heap.size + 1 < w5.heap.size := Nat.lt_of_lt_of_le hz4 hb5.size; have hy5 : w.heap.size < w5.heap.size := Nat.lt_of_succ_lt hz5) | (go_at_call 18; refine (V _).mono ?_; rintro e w6 ⟨rfl, hb6⟩; obtain ⟨hc6, hf6⟩ := bcell hb6; have hz6 := lt_of_below_alloc hb6; have hy6 := Nat.lt_trans hy5 hz6))
              obtain ⟨a0, a1, a2, _⟩ := keep3 (b := w.heap.size) (x := .int .i64 0) (y := .int .i64 0) (z := .int .i64 0) hb3 (by simp; omega) (by simp [go_sem]) (by simp [go_sem]) (by simp [go_sem])
              obtain ⟨b0, b1, b2, _⟩ := keep3 (b := w.heap.size) hb4 hy3 a0 a1 a2
              obtain ⟨q0, q1, q2, _⟩ := keep3 (b := w.heap.size) hb5 hy4 b0 b1 b2
              have hB : Below w.heap.size w w5 := ((((((Below.refl _ _).alloc (Nat.le_refl _) _).alloc (by simp) _).trans (hb3.mono (by simp; omega))).trans (hb4.mono (Nat.le_of_lt hy3))).trans (hb5.mono (Nat.le_of_lt hy4)))
              obtain ⟨r0, r1, r2, _⟩ := keep3 (b := w.heap.size) hb6 (by simp; omega) ((World.cell?_alloc_lt w5 _ ⟨w.heap.size, 0, none⟩ hy5).trans q0) ((World.cell?_alloc_lt w5 _ ⟨w.heap.size, 1, none⟩ hy5).trans q1) ((World.cell?_alloc_lt w5 _ ⟨w.heap.size, 2, none⟩ hy5).trans q2)
              have hB6 : Below w.heap.size w w6 := (hB.alloc (Nat.le_of_lt hy5) _).trans (hb6.mono (by simp; omega))
              refine bodyPost_ret (v := .tuple #[.agg #[.int .i64 0, .int .i64 0, .int .i64 0], .int .i64 21]) (by simp [results, Tryz.results6, go_sem, r0, r1, r2]) rfl ⟨rfl, ?_⟩
              exact ((hB6.setCell (Nat.le_refl _) _).setCell (Nat.le_refl _) _).setCell (Nat.le_refl _) _
            · rw [hv] at V
              clear hv
              rw [if_pos rfl]
              go_enter Tryz.func6, Tryz.ntmps6
              go_wp2_with (first | (go_at_call 14; refine (K _).mono ?_; rintro e w' ⟨rfl, rfl⟩) | (go_at_call 15; refine (CP _).mono ?_; rintro e w' ⟨rfl, rfl⟩) | (go_at_call 16; refine SPL.mono ?_; rintro e w2 ⟨rfl, rfl⟩) | (go_at_call 17; (with_reducible refine (D1 _).mono ?_); rintro e w3 ⟨rfl, hb3⟩; obtain ⟨hc3, hf3⟩ := bcell hb3; have hz3 : w.heap.size + 1 < w3.heap.size := Nat.lt_of_lt_of_le (by simp) hb3.size; have hy3 : w.heap.size < w3.heap.size := Nat.lt_of_succ_lt hz3) | (go_at_call 17; (with_reducible refine (D2 _).mono ?_); rintro e w4 ⟨rfl, hb4⟩; obtain ⟨hc4, hf4⟩ := bcell hb4; have hz4 : w.heap.size + 1 < w4.heap.size := Nat.lt_of_lt_of_le hz3 hb4.size; have hy4 : w.heap.size < w4.heap.size := Nat.lt_of_succ_lt hz4) | (go_at_call 17; (with_reducible refine (D3 _).mono ?_); rintro e w5 ⟨rfl, hb5⟩; obtain ⟨hc5, hf5⟩ := bcell hb5; have hz5 : w.heap.size + 1 < w5.heap.size := Nat.lt_of_lt_of_le hz4 hb5.size; have hy5 : w.heap.size < w5.heap.size := Nat.lt_of_succ_lt hz5) | (go_at_call 18; refine (V _).mono ?_; rintro e w6 ⟨rfl, hb6⟩; obtain ⟨hc6, hf6⟩ := bcell hb6; have hz6 := lt_of_below_alloc hb6; have hy6 := Nat.lt_trans hy5 hz6))
              obtain ⟨a0, a1, a2, _⟩ := keep3 (b := w.heap.size) (x := .int .i64 0) (y := .int .i64 0) (z := .int .i64 0) hb3 (by simp; omega) (by simp [go_sem]) (by simp [go_sem]) (by simp [go_sem])
              obtain ⟨b0, b1, b2, _⟩ := keep3 (b := w.heap.size) hb4 hy3 a0 a1 a2
              obtain ⟨q0, q1, q2, _⟩ := keep3 (b := w.heap.size) hb5 hy4 b0 b1 b2
              have hB : Below w.heap.size w w5 := ((((((Below.refl _ _).alloc (Nat.le_refl _) _).alloc (by simp) _).trans (hb3.mono (by simp; omega))).trans (hb4.mono (Nat.le_of_lt hy3))).trans (hb5.mono (Nat.le_of_lt hy4)))
              obtain ⟨r0, r1, r2, _⟩ := keep3 (b := w.heap.size) hb6 (by simp; omega) ((World.cell?_alloc_lt w5 _ ⟨w.heap.size, 0, none⟩ hy5).trans q0) ((World.cell?_alloc_lt w5 _ ⟨w.heap.size, 1, none⟩ hy5).trans q1) ((World.cell?_alloc_lt w5 _ ⟨w.heap.size, 2, none⟩ hy5).trans q2)
              have hB6 : Below w.heap.size w w6 := (hB.alloc (Nat.le_of_lt hy5) _).trans (hb6.mono (by simp; omega))
              refine bodyPost_ret (v := .tuple #[.agg #[.int .i64 (-(Y : Int)), .int .i64 M, .int .i64 D], .int .i64 0]) (by simp [results, Tryz.results6, go_sem, r0, r1, r2]) rfl ⟨rfl, ?_⟩
              exact ((hB6.setCell (Nat.le_refl _) _).setCell (Nat.le_refl _) _).setCell (Nat.le_refl _) _
      · have PN := Lib.hid (show Tx.pE c s.data.toList = 3 by
          have hpn : Tx.psn s.data.toList = false := by
            cases hp : Tx.psn s.data.toList
            · rfl
            · exfalso
              obtain ⟨h1, _⟩ := Tx.psn_of hp
              have h2 := Tx.spl_shape h1
              rw [hsp] at h2
              injection h2 with e1 h2
              injection h2 with e2 h2
              injection h2 with e3 _
              obtain ⟨_, l1, l2, l3, a1, a2, a3⟩ := Tx.psh_cut h1
              rw [← e1] at l1 a1
              rw [← e2] at l2 a2
              rw [← e3] at l3 a3
              exact hall ⟨by unfold dgo; rw [l1, a1]; rfl, by unfold dgo; rw [l2, a2]; rfl, by unfold dgo; rw [l3, a3]; rfl⟩
          unfold Tx.pE; rw [hk', hpn]; simp)
        rw [PS_err PN.out (by omega)]
        generalize dgv a.data.toList 4 = v1 at *
        generalize dgv b.data.toList 2 = v2 at *
        generalize dgv d.data.toList 2 = v3 at *
        have h123 : dgo a.data.toList 4 = false ∨ (dgo a.data.toList 4 = true ∧ dgo b.data.toList 2 = false) ∨ (dgo a.data.toList 4 = true ∧ dgo b.data.toList 2 = true ∧ dgo d.data.toList 2 = false) := by
          revert hall
          cases dgo a.data.toList 4 <;> cases dgo b.data.toList 2 <;> cases dgo d.data.toList 2 <;> simp
        clear hall hk hk' hsp PN
        generalize Tx.neg s.data.toList = ng at *
        generalize (⟨(Tx.rest s.data.toList).toArray⟩ : ByteArray) = R at *
        rcases h123 with h1 | ⟨h1, h2⟩ | ⟨h1, h2, h3⟩
        · rw [h1] at D1
          clear h1
          generalize dgo b.data.toList 2 = o2 at *
          generalize dgo d.data.toList 2 = o3 at *
          go_enter Tryz.func6, Tryz.ntmps6
          go_wp2_with (first | (go_at_call 14; refine (K _).mono ?_; rintro e w' ⟨rfl, rfl⟩) | (go_at_call 15; refine (CP _).mono ?_; rintro e w' ⟨rfl, rfl⟩) | (go_at_call 16; refine SPL.mono ?_; rintro e w2 ⟨rfl, rfl⟩) | (go_at_call 17; (with_reducible refine (D1 _).mono ?_); rintro e w3 ⟨rfl, hb3⟩; obtain ⟨hc3, hf3⟩ := bcell hb3; have hz3 : w.heap.size + 1 < w3.heap.size := Nat.lt_of_lt_of_le (by simp) hb3.size; have hy3 : w.heap.size < w3.heap.size := Nat.lt_of_succ_lt hz3) | (go_at_call 17; (with_reducible refine (D2 _).mono ?_); rintro e w4 ⟨rfl, hb4⟩; obtain ⟨hc4, hf4⟩ := bcell hb4; have hz4 : w.heap.size + 1 < w4.heap.size := Nat.lt_of_lt_of_le hz3 hb4.size; have hy4 : w.heap.size < w4.heap.size := Nat.lt_of_succ_lt hz4) | (go_at_call 17; (with_reducible refine (D3 _).mono ?_); rintro e w5 ⟨rfl, hb5⟩; obtain ⟨hc5, hf5⟩ := bcell hb5; have hz5 : w.heap.size + 1 < w5.heap.size := Nat.lt_of_lt_of_le hz4 hb5.size; have hy5 : w.heap.size < w5.heap.size := Nat.lt_of_succ_lt hz5))
          obtain ⟨a0, a1, a2, _⟩ := keep3 (b := w.heap.size) (x := .int .i64 0) (y := .int .i64 0) (z := .int .i64 0) hb3 (by simp; omega) (by simp [go_sem]) (by simp [go_sem]) (by simp [go_sem])
          obtain ⟨b0, b1, b2, _⟩ := keep3 (b := w.heap.size) hb4 hy3 a0 a1 a2
          obtain ⟨q0, q1, q2, _⟩ := keep3 (b := w.heap.size) hb5 hy4 b0 b1 b2
          have hB : Below w.heap.size w w5 := ((((((Below.refl _ _).alloc (Nat.le_refl _) _).alloc (by simp) _).trans (hb3.mono (by simp; omega))).trans (hb4.mono (Nat.le_of_lt hy3))).trans (hb5.mono (Nat.le_of_lt hy4)))
          refine bodyPost_ret (v := .tuple #[.agg #[.int .i64 0, .int .i64 0, .int .i64 0], .int .i64 3]) (by simp [results, Tryz.results6, go_sem, q0, q1, q2]) rfl ⟨rfl, ?_⟩
          exact ((hB.setCell (Nat.le_refl _) _).setCell (Nat.le_refl _) _).setCell (Nat.le_refl _) _
        · rw [h1] at D1
          rw [h2] at D2
          clear h1 h2
          generalize dgo d.data.toList 2 = o3 at *
          go_enter Tryz.func6, Tryz.ntmps6
          go_wp2_with (first | (go_at_call 14; refine (K _).mono ?_; rintro e w' ⟨rfl, rfl⟩) | (go_at_call 15; refine (CP _).mono ?_; rintro e w' ⟨rfl, rfl⟩) | (go_at_call 16; refine SPL.mono ?_; rintro e w2 ⟨rfl, rfl⟩) | (go_at_call 17; (with_reducible refine (D1 _).mono ?_); rintro e w3 ⟨rfl, hb3⟩; obtain ⟨hc3, hf3⟩ := bcell hb3; have hz3 : w.heap.size + 1 < w3.heap.size := Nat.lt_of_lt_of_le (by simp) hb3.size; have hy3 : w.heap.size < w3.heap.size := Nat.lt_of_succ_lt hz3) | (go_at_call 17; (with_reducible refine (D2 _).mono ?_); rintro e w4 ⟨rfl, hb4⟩; obtain ⟨hc4, hf4⟩ := bcell hb4; have hz4 : w.heap.size + 1 < w4.heap.size := Nat.lt_of_lt_of_le hz3 hb4.size; have hy4 : w.heap.size < w4.heap.size := Nat.lt_of_succ_lt hz4) | (go_at_call 17; (with_reducible refine (D3 _).mono ?_); rintro e w5 ⟨rfl, hb5⟩; obtain ⟨hc5, hf5⟩ := bcell hb5; have hz5 : w.heap.size + 1 < w5.heap.size := Nat.lt_of_lt_of_le hz4 hb5.size; have hy5 : w.heap.size < w5.heap.size := Nat.lt_of_succ_lt hz5))
          obtain ⟨a0, a1, a2, _⟩ := keep3 (b := w.heap.size) (x := .int .i64 0) (y := .int .i64 0) (z := .int .i64 0) hb3 (by simp; omega) (by simp [go_sem]) (by simp [go_sem]) (by simp [go_sem])
          obtain ⟨b0, b1, b2, _⟩ := keep3 (b := w.heap.size) hb4 hy3 a0 a1 a2
          obtain ⟨q0, q1, q2, _⟩ := keep3 (b := w.heap.size) hb5 hy4 b0 b1 b2
          have hB : Below w.heap.size w w5 := ((((((Below.refl _ _).alloc (Nat.le_refl _) _).alloc (by simp) _).trans (hb3.mono (by simp; omega))).trans (hb4.mono (Nat.le_of_lt hy3))).trans (hb5.mono (Nat.le_of_lt hy4)))
          refine bodyPost_ret (v := .tuple #[.agg #[.int .i64 0, .int .i64 0, .int .i64 0], .int .i64 3]) (by simp [results, Tryz.results6, go_sem, q0, q1, q2]) rfl ⟨rfl, ?_⟩
          exact ((hB.setCell (Nat.le_refl _) _).setCell (Nat.le_refl _) _).setCell (Nat.le_refl _) _
        · rw [h1] at D1
          rw [h2] at D2
          rw [h3] at D3
          clear h1 h2 h3
          go_enter Tryz.func6, Tryz.ntmps6
          go_wp2_with (first | (go_at_call 14; refine (K _).mono ?_; rintro e w' ⟨rfl, rfl⟩) | (go_at_call 15; refine (CP _).mono ?_; rintro e w' ⟨rfl, rfl⟩) | (go_at_call 16; refine SPL.mono ?_; rintro e w2 ⟨rfl, rfl⟩) | (go_at_call 17; (with_reducible refine (D1 _).mono ?_); rintro e w3 ⟨rfl, hb3⟩; obtain ⟨hc3, hf3⟩ := bcell hb3; have hz3 : w.heap.size + 1 < w3.heap.size := Nat.lt_of_lt_of_le (by simp) hb3.size; have hy3 : w.heap.size < w3.heap.size := Nat.lt_of_succ_lt hz3) | (go_at_call 17; (with_reducible refine (D2 _).mono ?_); rintro e w4 ⟨rfl, hb4⟩; obtain ⟨hc4, hf4⟩ := bcell hb4; have hz4 : w.heap.size + 1 < w4.heap.size := Nat.lt_of_lt_of_le hz3 hb4.size; have hy4 : w.heap.size < w4.heap.size := Nat.lt_of_succ_lt hz4) | (go_at_call 17; (with_reducible refine (D3 _).mono ?_); rintro e w5 ⟨rfl, hb5⟩; obtain ⟨hc5, hf5⟩ := bcell hb5; have hz5 : w.heap.size + 1 < w5.heap.size := Nat.lt_of_lt_of_le hz4 hb5.size; have hy5 : w.heap.size < w5.heap.size := Nat.lt_of_succ_lt hz5))
          obtain ⟨a0, a1, a2, _⟩ := keep3 (b := w.heap.size) (x := .int .i64 0) (y := .int .i64 0) (z := .int .i64 0) hb3 (by simp; omega) (by simp [go_sem]) (by simp [go_sem]) (by simp [go_sem])
          obtain ⟨b0, b1, b2, _⟩ := keep3 (b := w.heap.size) hb4 hy3 a0 a1 a2
          obtain ⟨q0, q1, q2, _⟩ := keep3 (b := w.heap.size) hb5 hy4 b0 b1 b2
          have hB : Below w.heap.size w w5 := ((((((Below.refl _ _).alloc (Nat.le_refl _) _).alloc (by simp) _).trans (hb3.mono (by simp; omega))).trans (hb4.mono (Nat.le_of_lt hy3))).trans (hb5.mono (Nat.le_of_lt hy4)))
          refine bodyPost_ret (v := .tuple #[.agg #[.int .i64 0, .int .i64 0, .int .i64 0], .int .i64 3]) (by simp [results, Tryz.results6, go_sem, q0, q1, q2]) rfl ⟨rfl, ?_⟩
          exact ((hB.setCell (Nat.le_refl _) _).setCell (Nat.le_refl _) _).setCell (Nat.le_refl _) _
  · have PN := Lib.hid (show Tx.pE c s.data.toList = 3 by
      have hpn : Tx.psn s.data.toList = false := by
        cases hp : Tx.psn s.data.toList
        · rfl
        · exfalso
          obtain ⟨h1, _⟩ := Tx.psn_of hp
          have h2 := Tx.spl_shape h1
          rw [← hp3] at h2
          exact h3 (by have := congrArg List.length h2; simpa using this)
      unfold Tx.pE; rw [hk', hpn]; simp)
    rw [PS_err PN.out (by omega)]
    have h3' : ((ps.length : Int) != 3) = true := by simp; omega
    clear PN hp3 h3 hk hk' hr0
    generalize Tx.neg s.data.toList = ng at *
    generalize (⟨(Tx.rest s.data.toList).toArray⟩ : ByteArray) = R at *
    generalize ps.length = np at *
    go_enter Tryz.func6, Tryz.ntmps6
    go_wp2_with (first | (go_at_call 14; refine (K _).mono ?_; rintro e w' ⟨rfl, rfl⟩) | (go_at_call 15; refine (CP _).mono ?_; rintro e w' ⟨rfl, rfl⟩) | (go_at_call 16; refine SPL.mono ?_; rintro e w2 ⟨rfl, rfl⟩))
    refine bodyPost_ret (v := .tuple #[.agg #[.int .i64 0, .int .i64 0, .int .i64 0], .int .i64 3]) (by simp [results, Tryz.results6, go_sem]) rfl ⟨rfl, ?_⟩
    exact ((Below.refl _ _).alloc (Nat.le_refl _) _).alloc (by simp) _

end Go.Proofs.YtnjjkcnokkhlkaaGreatDoor
