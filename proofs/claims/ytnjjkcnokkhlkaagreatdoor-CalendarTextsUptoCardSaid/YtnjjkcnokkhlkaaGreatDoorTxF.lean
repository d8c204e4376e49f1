/- Parse of the reference. -/
import Derived.Test.YtnjjkcnokkhlkaaGreatDoorTxE
import Derived.Deep.RegionWith
namespace Go.Proofs.YtnjjkcnokkhlkaaGreatDoor
open Go.RowKit Go.Sort Go.Joins Go.Proofs.YtnjjkcnokkhlkaaGreatDoor.Str

theorem val_take (l : List UInt8) (k : Nat) (h : k < l.length) : val (l.take (k + 1)) = 10 * val (l.take k) + (l[k].toNat - 48) := by
  rw [List.take_succ_eq_append_getElem h, val_snoc]

set_option maxHeartbeats 400000 in
/-- value(s) of the reference, at few digits. -/
theorem rvalue_any (l : List UInt8) (hd : allD l = true) (hl : l.length ≤ 4) (w : World) :
    Calls Tryz.prog 19 #[.string ⟨l.toArray⟩] w fun e w' => e = .returned (.int .i64 (val l)) ∧ w = w' := by
  have hs : (⟨l.toArray⟩ : ByteArray).size = l.length := size_of_list l
  go_enter Tryz.func19, Tryz.ntmps19
  go_wp2
  go_loop [3, 4] (fun n i => ∃ k : Nat, k ≤ l.length ∧ i = .int .i64 k ∧ n = .int .i64 (val (l.take k) : Nat)) (fun _ i => l.length - (intOf i).toNat)
  case atStart => exact ⟨0, Nat.zero_le _, rfl, rfl⟩
  case round =>
    obtain ⟨k, hk, rfl, rfl⟩ := hrel
    by_cases hlt : k < l.length
    · have hx : isD l[k] = true := by unfold allD at hd; exact List.all_eq_true.1 hd _ (List.getElem_mem hlt)
      have hxd := of_decide_eq_true hx
      have hlk : allD (l.take k) = true := by unfold allD at hd ⊢; exact List.all_eq_true.2 fun x hx => List.all_eq_true.1 hd x (List.mem_of_mem_take hx)
      have hv := val_lt _ hlk
      have hv2 : val (l.take k) < 10000 := Nat.lt_of_lt_of_le hv (show 10 ^ (l.take k).length ≤ 10 ^ 4 from Nat.pow_le_pow_right (by omega) (Nat.le_trans (List.length_take_le _ _) (by omega)))
      have HT := Lib.hid (val_take l k hlt)
      clear hv hlk hx hd
      generalize val (l.take k) = v at *
      go_wp2
      go_round
      case rel => exact ⟨k + 1, by omega, by go_num, congrArg (Value.int .i64) (by rw [HT.out]; have e : (⟨l.toArray⟩ : ByteArray)[k]'(by rw [hs]; exact hlt) = l[k] := rfl; rw [e]; omega)⟩
      case measure => simp [intOf]; omega
    · have e : k = l.length := by omega
      subst e
      rw [List.take_length]
      go_wp2
      go_ret
      exact ⟨rfl, rfl⟩

theorem neg_first {S : ByteArray} (h : Tx.neg S.data.toList = true) : ∃ h0 : 0 < S.size, ((S[0].toNat : Int) == 45) = true := by
  obtain ⟨⟨l⟩⟩ := S
  cases l with
  | nil => cases h
  | cons x t =>
    have hx : x = 45 := by simpa [Tx.neg] using h
    subst hx
    exact ⟨Nat.succ_pos _, rfl⟩
theorem rest_cut {S : ByteArray} (h : Tx.neg S.data.toList = true) : Tx.rest S.data.toList = (S.extract 1 S.size).data.toList := by
  unfold Tx.rest
  rw [if_pos h, Lib.extract_to_end, List.drop_one]

/-- The pattern of a date. -/
def patt : List UInt8 := [48, 48, 48, 48, 45, 48, 48, 45, 48, 48]
def okAt (r : List UInt8) (j : Nat) : Bool := if patt.getD j 0 = 48 then isD (r.getD j 0) else (r.getD j 0 == 45)

theorem okAt_digit {r : List UInt8} {k : Nat} (h : k < 10) (h4 : k ≠ 4) (h7 : k ≠ 7) : okAt r k = isD (r.getD k 0) := by
  have hp : patt.getD k 0 = 48 := by
    match k, h with
    | 0, _ | 1, _ | 2, _ | 3, _ | 5, _ | 6, _ | 8, _ | 9, _ => rfl
    | 4, _ => exact absurd rfl h4
    | 7, _ => exact absurd rfl h7
  unfold okAt; rw [if_pos hp]
theorem okAt_dash {r : List UInt8} {k : Nat} (h : k = 4 ∨ k = 7) : okAt r k = (r.getD k 0 == 45) := by
  rcases h with rfl | rfl <;> rfl
theorem psh_all {r : List UInt8} (hl : r.length = 10) : Tx.psh r = true ↔ ∀ j, j < 10 → okAt r j = true := by
  match r, hl with
  | [x0, x1, x2, x3, x4, x5, x6, x7, x8, x9], _ =>
    constructor
    · intro h
      unfold Tx.psh allD at h
      simp at h
      obtain ⟨⟨⟨⟨⟨a0, a1, a2, a3⟩, a4⟩, a5, a6⟩, a7⟩, a8, a9⟩ := h
      intro j hj
      match j, hj with
      | 0, _ => exact a0
      | 1, _ => exact a1
      | 2, _ => exact a2
      | 3, _ => exact a3
      | 4, _ => exact beq_iff_eq.2 a4
      | 5, _ => exact a5
      | 6, _ => exact a6
      | 7, _ => exact beq_iff_eq.2 a7
      | 8, _ => exact a8
      | 9, _ => exact a9
    · intro h
      have b0 : isD x0 = true := h 0 (by omega)
      have b1 : isD x1 = true := h 1 (by omega)
      have b2 : isD x2 = true := h 2 (by omega)
      have b3 : isD x3 = true := h 3 (by omega)
      have b4 : (x4 == 45) = true := h 4 (by omega)
      have b5 : isD x5 = true := h 5 (by omega)
      have b6 : isD x6 = true := h 6 (by omega)
      have b7 : (x7 == 45) = true := h 7 (by omega)
      have b8 : isD x8 = true := h 8 (by omega)
      have b9 : isD x9 = true := h 9 (by omega)
      unfold Tx.psh allD
      simp at b4 b7
      simp [b0, b1, b2, b3, b4, b5, b6, b7, b8, b9]

theorem getD_byte {R : ByteArray} {k : Nat} (h : k < R.size) : R.data.toList.getD k 0 = R[k] := by
  have h' : k < R.data.toList.length := by rw [← Lib.size_eq]; exact h
  simp only [List.getD, List.getElem?_eq_getElem h', Option.getD_some]
  exact Array.getElem_toList h
theorem pE_len {c : Int} {l : List UInt8} (hk : kn c = true) (h : (Tx.rest l).length ≠ 10) : Tx.pE c l = 3 := by
  have hp : Tx.psn l = false := by
    cases h1 : Tx.psn l
    · rfl
    · obtain ⟨h2, _⟩ := Tx.psn_of h1
      unfold Tx.psh at h2
      simp at h2
      exact absurd h2.1.1.1.1.1 h
  unfold Tx.pE; rw [hk, hp]; simp
theorem pE_bad {c : Int} {l r : List UInt8} (hk : kn c = true) (hr : Tx.rest l = r) (hl : r.length = 10) {k : Nat} (hk10 : k < 10) (h : okAt r k = false) : Tx.pE c l = 3 := by
  have hp : Tx.psn l = false := by
    cases h1 : Tx.psn l
    · rfl
    · obtain ⟨h2, _⟩ := Tx.psn_of h1
      rw [hr] at h2
      have := (psh_all hl).1 h2 k hk10
      rw [h] at this; cases this
  unfold Tx.pE; rw [hk, hp]; simp
theorem hall_next {R : ByteArray} {k : Nat} (h : ∀ j, j < k → okAt R.data.toList j = true) (hk : okAt R.data.toList k = true) : ∀ j, j < k + 1 → okAt R.data.toList j = true := fun j hj => by
  by_cases e : j = k
  · rw [e]; exact hk
  · exact h j (by omega)
theorem rvalue_B (B : ByteArray) (l : List UInt8) (hB : B.data.toList = l) (hd : allD l = true) (hl : l.length ≤ 4) (w : World) :
    Calls Tryz.prog 19 #[.string B] w fun e w' => e = .returned (.int .i64 (val l)) ∧ w = w' := by
  obtain ⟨⟨b⟩⟩ := B
  subst hB
  exact rvalue_any b hd hl w
theorem extract_list (R : ByteArray) (a b : Nat) : (R.extract a b).data.toList = (R.data.toList.drop a).take (b - a) := by
  rw [Lib.extract_data]

theorem lt_al {a : Nat} {w1 w2 : World} {X : Obj} (h : a < w1.heap.size) (hb : Below (w1.alloc X).drew.heap.size (w1.alloc X).drew w2) : a < w2.heap.size ∧ a < (w1.alloc X).drew.heap.size := by
  have := hb.size
  have e : (w1.alloc X).drew.heap.size = w1.heap.size + 1 := by simp
  omega
theorem neg_not {S : ByteArray} (h : Tx.neg S.data.toList = false) (h0 : 0 < S.size) : ((S[0].toNat : Int) == 45) = false := by
  obtain ⟨⟨l⟩⟩ := S
  cases l with
  | nil => cases h0
  | cons x t =>
    have hx : ¬ x = 45 := by simpa [Tx.neg] using h
    rw [beq_eq_false_iff_ne]
    intro e
    exact hx (UInt8.toNat_inj.1 (by have e0 : (45 : UInt8).toNat = 45 := rfl; have e1 : ((⟨⟨x :: t⟩⟩ : ByteArray)[0]).toNat = x.toNat := rfl; omega))
theorem pE_zero {c : Int} {l r : List UInt8} (hk : kn c = true) (hn : Tx.neg l = true) (hr : Tx.rest l = r) (hY : Tx.yv r = 0) : Tx.pE c l = 3 := by
  have hp : Tx.psn l = false := by unfold Tx.psn; rw [hn, hr, hY]; simp
  unfold Tx.pE; rw [hk, hp]; simp
theorem PS_of {c : Int} {l r : List UInt8} {b : Bool} {Y M D : Nat} (hk : kn c = true) (hr : Tx.rest l = r) (hs : Tx.psh r = true) (hn : Tx.neg l = b) (h0 : b = true → Y ≠ 0) (hY : Tx.yv r = Y) (hM : Tx.mv r = M) (hD : Tx.dv r = D) :
    PS c l = if Cal.vld c (if b = true then -(Y : Int) else (Y : Int)) (M : Int) (D : Int) = true then .tuple #[.agg #[.int .i64 (if b = true then -(Y : Int) else (Y : Int)), .int .i64 M, .int .i64 D], .int .i64 0] else .tuple #[.agg #[.int .i64 0, .int .i64 0, .int .i64 0], .int .i64 21] := by
  have hsy : Tx.sy l = if b = true then -(Y : Int) else (Y : Int) := by unfold Tx.sy; rw [hn, hr, hY]
  have hp : Tx.psn l = true := by
    unfold Tx.psn
    rw [hr, hs, hn, hY]
    cases b
    · rfl
    · have := h0 rfl
      simp [this]
  cases hv : Cal.vld c (if b = true then -(Y : Int) else (Y : Int)) (M : Int) (D : Int)
  · rw [PS_err (e := 21) (by unfold Tx.pE; rw [hk, hp, hsy, hr, hM, hD, hv]; simp) (by omega)]; rfl
  · rw [PS_ok (by unfold Tx.pE; rw [hk, hp, hsy, hr, hM, hD, hv]; simp), hsy, hr, hM, hD]; rfl
theorem patt_at {k : Nat} (h : k < 10) (h4 : ¬ k = 4) (h7 : ¬ k = 7) : ((⟨#[48, 48, 48, 48, 45, 48, 48, 45, 48, 48]⟩ : ByteArray)[k]'h).toNat = 48 := by
  match k, h with
  | 0, _ | 1, _ | 2, _ | 3, _ | 5, _ | 6, _ | 8, _ | 9, _ => rfl
  | 4, _ => exact absurd rfl h4
  | 7, _ => exact absurd rfl h7

set_option maxRecDepth 100000 in
set_option maxHeartbeats 3200000 in
theorem rParse_any (c : Int) (S : ByteArray) (w : World) :
    Calls Tryz.prog 7 #[.int .i64 c, .string S] w fun e w' => e = .returned (PS c S.data.toList) ∧ Below w.heap.size w w' := by
  cases hk : kn c
  · have PE := Lib.hid (show Tx.pE c S.data.toList = 20 by unfold Tx.pE; rw [hk]; simp)
    have N := fun w => rname_no hk w
    clear hk
    rw [PS_err PE.out (by omega)]
    go_enter Tryz.func7, Tryz.ntmps7
    go_wp2_with (go_at_call 11; refine (N _).mono ?_; rintro e w1 ⟨rfl, hb1⟩; obtain ⟨hc1, hf1⟩ := bcell hb1; have hy1 := lt_of_below_alloc hb1)
    obtain ⟨q0, q1, q2, _⟩ := keep3 (b := w.heap.size) (x := .int .i64 0) (y := .int .i64 0) (z := .int .i64 0) hb1 (by simp) (by simp [go_sem]) (by simp [go_sem]) (by simp [go_sem])
    have hB : Below w.heap.size w w1 := ((Below.refl _ _).alloc (Nat.le_refl _) _).trans (hb1.mono (by simp))
    refine bodyPost_ret (v := .tuple #[.agg #[.int .i64 0, .int .i64 0, .int .i64 0], .int .i64 20]) (by simp [results, Tryz.results7, go_sem, q0, q1, q2]) rfl ⟨rfl, ?_⟩
    exact ((hB.setCell (Nat.le_refl _) _).setCell (Nat.le_refl _) _).setCell (Nat.le_refl _) _
  have N := fun w => rname_yes hk w
  have hk0 := hk
  clear hk
  cases hn : Tx.neg S.data.toList
  · have hrest : Tx.rest S.data.toList = S.data.toList := by unfold Tx.rest; rw [hn]; rfl
    by_cases h10 : S.size = 10
    · have hb := neg_not hn (by omega : 0 < S.size)
      have hRl : S.data.toList.length = 10 := by rw [← Lib.size_eq]; exact h10
      have hRs : S.size = 10 := h10
      have h0 : 0 < S.size := by omega
      go_enter Tryz.func7, Tryz.ntmps7
      go_wp2_with (first | (go_at_call 11; refine (N _).mono ?_; rintro e w1 ⟨s, rfl, hne, hb1⟩; obtain ⟨hc1, hf1⟩ := bcell hb1; have hy1 := lt_of_below_alloc hb1))
      obtain ⟨q0, q1, q2, _⟩ := keep3 (b := w.heap.size) (x := .int .i64 0) (y := .int .i64 0) (z := .int .i64 0) hb1 (by simp) (by simp [go_sem]) (by simp [go_sem]) (by simp [go_sem])
      have hB : Below w.heap.size w w1 := ((Below.refl _ _).alloc (Nat.le_refl _) _).trans (hb1.mono (by simp))

      go_loop [8] (fun i => ∃ k : Nat, k ≤ 10 ∧ i = .int .i64 k ∧ Hid (∀ j, j < k → okAt S.data.toList j = true)) (fun i => 10 - (intOf i).toNat)
      case atStart => exact ⟨0, by omega, rfl, fun j hj => absurd hj (by omega)⟩
      case round =>
        obtain ⟨k, hkk, rfl, hall⟩ := hrel
        by_cases hlt : k < 10
        · have hkR : k < S.size := by rw [hRs]; exact hlt
          by_cases h4 : k = 4
          · subst h4
            by_cases h45 : S[4] = 45
            · have hall2 := Lib.hid (hall_next hall.out (by rw [okAt_dash (by omega), getD_byte hkR, h45]; rfl))
              have hb45 : ((S[4].toNat : Int) != 45) = false := by rw [h45]; rfl
              clear h45
              go_wp2
              all_goals
                go_round
                case rel => exact ⟨4 + 1, by omega, by go_num, hall2⟩
                case measure => simp [intOf]
            · have PE := Lib.hid (pE_bad hk0 hrest hRl hlt (by rw [okAt_dash (by omega), getD_byte hkR]; simpa using h45))
              have hb45 : ((S[4].toNat : Int) != 45) = true := by rw [bne_iff_ne]; intro e; exact h45 (UInt8.toNat_inj.1 (by have h0 : (45 : UInt8).toNat = 45 := rfl; omega))
              clear h45
              go_wp2
              all_goals
                refine bodyPost_ret (v := .tuple #[.agg #[.int .i64 0, .int .i64 0, .int .i64 0], .int .i64 3]) (by simp [results, Tryz.results7, go_sem, q0, q1, q2]) rfl ⟨by rw [PS_err PE.out (by omega)], ?_⟩
                exact ((hB.setCell (Nat.le_refl _) _).setCell (Nat.le_refl _) _).setCell (Nat.le_refl _) _
          · by_cases h7 : k = 7
            · subst h7
              by_cases h45 : S[7] = 45
              · have hall2 := Lib.hid (hall_next hall.out (by rw [okAt_dash (by omega), getD_byte hkR, h45]; rfl))
                have hb45 : ((S[7].toNat : Int) != 45) = false := by rw [h45]; rfl
                clear h45
                go_wp2
                all_goals
                  go_round
                  case rel => exact ⟨7 + 1, by omega, by go_num, hall2⟩
                  case measure => simp [intOf]
              · have PE := Lib.hid (pE_bad hk0 hrest hRl hlt (by rw [okAt_dash (by omega), getD_byte hkR]; simpa using h45))
                have hb45 : ((S[7].toNat : Int) != 45) = true := by rw [bne_iff_ne]; intro e; exact h45 (UInt8.toNat_inj.1 (by have h0 : (45 : UInt8).toNat = 45 := rfl; omega))
                clear h45
                go_wp2
                all_goals
                  refine bodyPost_ret (v := .tuple #[.agg #[.int .i64 0, .int .i64 0, .int .i64 0], .int .i64 3]) (by simp [results, Tryz.results7, go_sem, q0, q1, q2]) rfl ⟨by rw [PS_err PE.out (by omega)], ?_⟩
                  exact ((hB.setCell (Nat.le_refl _) _).setCell (Nat.le_refl _) _).setCell (Nat.le_refl _) _
            · have hp : ((⟨#[48, 48, 48, 48, 45, 48, 48, 45, 48, 48]⟩ : ByteArray)[k]'hlt).toNat = 48 := patt_at hlt h4 h7
              by_cases h48 : 48 ≤ (S[k].toNat : Int)
              · by_cases h57 : (S[k].toNat : Int) ≤ 57
                · have hall2 := Lib.hid (hall_next hall.out (by rw [okAt_digit hlt h4 h7, getD_byte hkR]; unfold isD; simp; omega))
                  go_wp2
                  go_round
                  case rel => exact ⟨k + 1, by omega, by go_num, hall2⟩
                  case measure => simp [intOf]; omega
                · have PE := Lib.hid (pE_bad hk0 hrest hRl hlt (by rw [okAt_digit hlt h4 h7, getD_byte hkR]; unfold isD; simp; omega))
                  go_wp2
                  refine bodyPost_ret (v := .tuple #[.agg #[.int .i64 0, .int .i64 0, .int .i64 0], .int .i64 3]) (by simp [results, Tryz.results7, go_sem, q0, q1, q2]) rfl ⟨by rw [PS_err PE.out (by omega)], ?_⟩
                  exact ((hB.setCell (Nat.le_refl _) _).setCell (Nat.le_refl _) _).setCell (Nat.le_refl _) _
              · have PE := Lib.hid (pE_bad hk0 hrest hRl hlt (by rw [okAt_digit hlt h4 h7, getD_byte hkR]; unfold isD; simp; omega))
                go_wp2
                refine bodyPost_ret (v := .tuple #[.agg #[.int .i64 0, .int .i64 0, .int .i64 0], .int .i64 3]) (by simp [results, Tryz.results7, go_sem, q0, q1, q2]) rfl ⟨by rw [PS_err PE.out (by omega)], ?_⟩
                exact ((hB.setCell (Nat.le_refl _) _).setCell (Nat.le_refl _) _).setCell (Nat.le_refl _) _
        · have e : k = 10 := by omega
          subst e
          have hsh := (psh_all hRl).2 hall.out
          obtain ⟨hself, l1, l2, l3, a1, a2, a3⟩ := Tx.psh_cut hsh
          clear hself
          have bY : Tx.yv S.data.toList < 10000 := by unfold Tx.yv; have := val_lt _ a1; rw [l1] at this; simpa using this
          have V1 : ∀ w, Calls Tryz.prog 19 #[.string (S.extract 0 4)] w fun e w' => e = .returned (.int .i64 (Tx.yv S.data.toList)) ∧ w' = w := fun w => (rvalue_B _ _ (by rw [extract_list]; rfl) a1 (by omega) w).mono fun _ _ ⟨he, hw⟩ => ⟨he, hw.symm⟩
          have V2 : ∀ w, Calls Tryz.prog 19 #[.string (S.extract 5 7)] w fun e w' => e = .returned (.int .i64 (Tx.mv S.data.toList)) ∧ w' = w := fun w => (rvalue_B _ _ (by rw [extract_list]) a2 (by omega) w).mono fun _ _ ⟨he, hw⟩ => ⟨he, hw.symm⟩
          have V3 : ∀ w, Calls Tryz.prog 19 #[.string (S.extract 8 10)] w fun e w' => e = .returned (.int .i64 (Tx.dv S.data.toList)) ∧ w' = w := fun w => (rvalue_B _ (S.data.toList.drop 8) (by rw [extract_list]; exact List.take_of_length_le (by omega)) a3 (by omega) w).mono fun _ _ ⟨he, hw⟩ => ⟨he, hw.symm⟩
          clear l1 l2 l3 a1 a2 a3 hall
          generalize hY : Tx.yv S.data.toList = Y at *
          generalize hM : Tx.mv S.data.toList = M at *
          generalize hD : Tx.dv S.data.toList = D at *
          have hYY := Lib.hid hY
          have hMM := Lib.hid hM
          have hDD := Lib.hid hD
          clear hY hM hD
          have hng1 : IntKind.i64.wrap (1 * (Y : Int)) = (Y : Int) := by rw [IntWalk.i64_in _ (by omega)]; omega
          have hng2 : IntKind.i64.wrap (Y : Int) = (Y : Int) := IntWalk.i64_in _ (by omega)
          go_wp2
          go_region_with (go_at_call 19; first | ((with_reducible refine (V1 _).mono ?_); rintro e w' ⟨rfl, rfl⟩) | ((with_reducible refine (V2 _).mono ?_); rintro e w' ⟨rfl, rfl⟩) | ((with_reducible refine (V3 _).mono ?_); rintro e w' ⟨rfl, rfl⟩))
          all_goals
            clear V1 V2 V3
            have hy1' : w.heap.size < w1.heap.size + 1 := Nat.lt_succ_of_lt hy1
            have HPS : Hid (PS c S.data.toList = if Cal.vld c (Y : Int) (M : Int) (D : Int) = true then .tuple #[.agg #[.int .i64 (Y : Int), .int .i64 M, .int .i64 D], .int .i64 0] else .tuple #[.agg #[.int .i64 0, .int .i64 0, .int .i64 0], .int .i64 21]) := PS_of hk0 hrest hsh hn (fun h => by cases h) hYY.out hMM.out hDD.out
            cases hv : Cal.vld c (Y : Int) (M : Int) (D : Int)
            · have V := fun w => rValid_any c (Y : Int) M D w
              rw [hv] at V
              have HR := Lib.hid (HPS.out.trans (by rw [hv, if_neg (by simp)]))
              clear hv HPS
              go_wp2_with (first | (go_at_call 12; refine (V _).mono ?_; rintro e w2 ⟨rfl, hb2⟩; obtain ⟨hc2, hf2⟩ := bcell hb2; have hy2 := (lt_al hy1 hb2).1))
              obtain ⟨r0, r1, r2, _⟩ := keep3 (b := w.heap.size) hb2 (lt_al hy1 hb2).2 ((World.cell?_alloc_lt w1 _ ⟨w.heap.size, 0, none⟩ hy1).trans q0) ((World.cell?_alloc_lt w1 _ ⟨w.heap.size, 1, none⟩ hy1).trans q1) ((World.cell?_alloc_lt w1 _ ⟨w.heap.size, 2, none⟩ hy1).trans q2)
              have hB2 : Below w.heap.size w w2 := (hB.alloc (Nat.le_of_lt hy1) _).drew.trans (hb2.mono (Nat.le_of_lt (lt_al hy1 hb2).2))
              refine bodyPost_ret (v := .tuple #[.agg #[.int .i64 0, .int .i64 0, .int .i64 0], .int .i64 21]) (by simp [results, Tryz.results7, go_sem, r0, r1, r2]) rfl ⟨by rw [HR.out], ?_⟩
              exact ((hB2.setCell (Nat.le_refl _) _).setCell (Nat.le_refl _) _).setCell (Nat.le_refl _) _
            · have V := fun w => rValid_any c (Y : Int) M D w
              rw [hv] at V
              have HR := Lib.hid (HPS.out.trans (by rw [hv, if_pos rfl]))
              clear hv HPS
              go_wp2_with (first | (go_at_call 12; refine (V _).mono ?_; rintro e w2 ⟨rfl, hb2⟩; obtain ⟨hc2, hf2⟩ := bcell hb2; have hy2 := (lt_al hy1 hb2).1))
              obtain ⟨r0, r1, r2, _⟩ := keep3 (b := w.heap.size) hb2 (lt_al hy1 hb2).2 ((World.cell?_alloc_lt w1 _ ⟨w.heap.size, 0, none⟩ hy1).trans q0) ((World.cell?_alloc_lt w1 _ ⟨w.heap.size, 1, none⟩ hy1).trans q1) ((World.cell?_alloc_lt w1 _ ⟨w.heap.size, 2, none⟩ hy1).trans q2)
              have hB2 : Below w.heap.size w w2 := (hB.alloc (Nat.le_of_lt hy1) _).drew.trans (hb2.mono (Nat.le_of_lt (lt_al hy1 hb2).2))
              refine bodyPost_ret (v := .tuple #[.agg #[.int .i64 (Y : Int), .int .i64 M, .int .i64 D], .int .i64 0]) (by simp [results, Tryz.results7, go_sem, r0, r1, r2]) rfl ⟨by rw [HR.out], ?_⟩
              exact ((hB2.setCell (Nat.le_refl _) _).setCell (Nat.le_refl _) _).setCell (Nat.le_refl _) _
    · have PE := Lib.hid (pE_len (c := c) (l := S.data.toList) hk0 (by rw [hrest, ← Lib.size_eq]; exact h10))
      have h10' : ((S.size : Int) != 10) = true := by rw [bne_iff_ne]; omega
      by_cases h0 : 0 < S.size
      · have hb := neg_not hn h0
        clear hrest h10
        go_enter Tryz.func7, Tryz.ntmps7
        go_wp2_with (first | (go_at_call 11; refine (N _).mono ?_; rintro e w1 ⟨s, rfl, hne, hb1⟩; obtain ⟨hc1, hf1⟩ := bcell hb1; have hy1 := lt_of_below_alloc hb1))
        obtain ⟨q0, q1, q2, _⟩ := keep3 (b := w.heap.size) (x := .int .i64 0) (y := .int .i64 0) (z := .int .i64 0) hb1 (by simp) (by simp [go_sem]) (by simp [go_sem]) (by simp [go_sem])
        have hB : Below w.heap.size w w1 := ((Below.refl _ _).alloc (Nat.le_refl _) _).trans (hb1.mono (by simp))

        refine bodyPost_ret (v := .tuple #[.agg #[.int .i64 0, .int .i64 0, .int .i64 0], .int .i64 3]) (by simp [results, Tryz.results7, go_sem, q0, q1, q2]) rfl ⟨by rw [PS_err PE.out (by omega)], ?_⟩
        exact ((hB.setCell (Nat.le_refl _) _).setCell (Nat.le_refl _) _).setCell (Nat.le_refl _) _
      · have hs0 : S.size = 0 := by omega
        clear hrest h10 h0
        go_enter Tryz.func7, Tryz.ntmps7
        go_wp2_with (first | (go_at_call 11; refine (N _).mono ?_; rintro e w1 ⟨s, rfl, hne, hb1⟩; obtain ⟨hc1, hf1⟩ := bcell hb1; have hy1 := lt_of_below_alloc hb1))
        obtain ⟨q0, q1, q2, _⟩ := keep3 (b := w.heap.size) (x := .int .i64 0) (y := .int .i64 0) (z := .int .i64 0) hb1 (by simp) (by simp [go_sem]) (by simp [go_sem]) (by simp [go_sem])
        have hB : Below w.heap.size w w1 := ((Below.refl _ _).alloc (Nat.le_refl _) _).trans (hb1.mono (by simp))

        refine bodyPost_ret (v := .tuple #[.agg #[.int .i64 0, .int .i64 0, .int .i64 0], .int .i64 3]) (by simp [results, Tryz.results7, go_sem, q0, q1, q2]) rfl ⟨by rw [PS_err PE.out (by omega)], ?_⟩
        exact ((hB.setCell (Nat.le_refl _) _).setCell (Nat.le_refl _) _).setCell (Nat.le_refl _) _
  · obtain ⟨h0, hb⟩ := neg_first hn
    have hrest0 := rest_cut hn
    have hRs0 : (S.extract 1 S.size).size = S.size - 1 := by rw [ByteArray.size_extract]; omega
    by_cases h10 : S.size = 11
    · rw [h10] at hrest0 hRs0
      obtain ⟨R, hR⟩ : ∃ R, S.extract 1 11 = R := ⟨_, rfl⟩
      have hrest : Tx.rest S.data.toList = R.data.toList := by rw [← hR]; exact hrest0
      have hRs : R.size = 10 := by rw [← hR]; exact hRs0
      have hRl : R.data.toList.length = 10 := by rw [← Lib.size_eq]; exact hRs
      clear hrest0 hRs0
      go_enter Tryz.func7, Tryz.ntmps7
      go_wp2_with (first | (go_at_call 11; refine (N _).mono ?_; rintro e w1 ⟨s, rfl, hne, hb1⟩; obtain ⟨hc1, hf1⟩ := bcell hb1; have hy1 := lt_of_below_alloc hb1))
      obtain ⟨q0, q1, q2, _⟩ := keep3 (b := w.heap.size) (x := .int .i64 0) (y := .int .i64 0) (z := .int .i64 0) hb1 (by simp) (by simp [go_sem]) (by simp [go_sem]) (by simp [go_sem])
      have hB : Below w.heap.size w w1 := ((Below.refl _ _).alloc (Nat.le_refl _) _).trans (hb1.mono (by simp))

      try rw [hR]
      clear hR
      go_loop [8] (fun i => ∃ k : Nat, k ≤ 10 ∧ i = .int .i64 k ∧ Hid (∀ j, j < k → okAt R.data.toList j = true)) (fun i => 10 - (intOf i).toNat)
      case atStart => exact ⟨0, by omega, rfl, fun j hj => absurd hj (by omega)⟩
      case round =>
        obtain ⟨k, hkk, rfl, hall⟩ := hrel
        by_cases hlt : k < 10
        · have hkR : k < R.size := by rw [hRs]; exact hlt
          by_cases h4 : k = 4
          · subst h4
            by_cases h45 : R[4] = 45
            · have hall2 := Lib.hid (hall_next hall.out (by rw [okAt_dash (by omega), getD_byte hkR, h45]; rfl))
              have hb45 : ((R[4].toNat : Int) != 45) = false := by rw [h45]; rfl
              clear h45
              go_wp2
              all_goals
                go_round
                case rel => exact ⟨4 + 1, by omega, by go_num, hall2⟩
                case measure => simp [intOf]
            · have PE := Lib.hid (pE_bad hk0 hrest hRl hlt (by rw [okAt_dash (by omega), getD_byte hkR]; simpa using h45))
              have hb45 : ((R[4].toNat : Int) != 45) = true := by rw [bne_iff_ne]; intro e; exact h45 (UInt8.toNat_inj.1 (by have h0 : (45 : UInt8).toNat = 45 := rfl; omega))
              clear h45
              go_wp2
              all_goals
                refine bodyPost_ret (v := .tuple #[.agg #[.int .i64 0, .int .i64 0, .int .i64 0], .int .i64 3]) (by simp [results, Tryz.results7, go_sem, q0, q1, q2]) rfl ⟨by rw [PS_err PE.out (by omega)], ?_⟩
                exact ((hB.setCell (Nat.le_refl _) _).setCell (Nat.le_refl _) _).setCell (Nat.le_refl _) _
          · by_cases h7 : k = 7
            · subst h7
              by_cases h45 : R[7] = 45
              · have hall2 := Lib.hid (hall_next hall.out (by rw [okAt_dash (by omega), getD_byte hkR, h45]; rfl))
                have hb45 : ((R[7].toNat : Int) != 45) = false := by rw [h45]; rfl
                clear h45
                go_wp2
                all_goals
                  go_round
                  case rel => exact ⟨7 + 1, by omega, by go_num, hall2⟩
                  case measure => simp [intOf]
              · have PE := Lib.hid (pE_bad hk0 hrest hRl hlt (by rw [okAt_dash (by omega), getD_byte hkR]; simpa using h45))
                have hb45 : ((R[7].toNat : Int) != 45) = true := by rw [bne_iff_ne]; intro e; exact h45 (UInt8.toNat_inj.1 (by have h0 : (45 : UInt8).toNat = 45 := rfl; omega))
                clear h45
                go_wp2
                all_goals
                  refine bodyPost_ret (v := .tuple #[.agg #[.int .i64 0, .int .i64 0, .int .i64 0], .int .i64 3]) (by simp [results, Tryz.results7, go_sem, q0, q1, q2]) rfl ⟨by rw [PS_err PE.out (by omega)], ?_⟩
                  exact ((hB.setCell (Nat.le_refl _) _).setCell (Nat.le_refl _) _).setCell (Nat.le_refl _) _
            · have hp : ((⟨#[48, 48, 48, 48, 45, 48, 48, 45, 48, 48]⟩ : ByteArray)[k]'hlt).toNat = 48 := patt_at hlt h4 h7
              by_cases h48 : 48 ≤ (R[k].toNat : Int)
              · by_cases h57 : (R[k].toNat : Int) ≤ 57
                · have hall2 := Lib.hid (hall_next hall.out (by rw [okAt_digit hlt h4 h7, getD_byte hkR]; unfold isD; simp; omega))
                  go_wp2
                  go_round
                  case rel => exact ⟨k + 1, by omega, by go_num, hall2⟩
                  case measure => simp [intOf]; omega
                · have PE := Lib.hid (pE_bad hk0 hrest hRl hlt (by rw [okAt_digit hlt h4 h7, getD_byte hkR]; unfold isD; simp; omega))
                  go_wp2
                  refine bodyPost_ret (v := .tuple #[.agg #[.int .i64 0, .int .i64 0, .int .i64 0], .int .i64 3]) (by simp [results, Tryz.results7, go_sem, q0, q1, q2]) rfl ⟨by rw [PS_err PE.out (by omega)], ?_⟩
                  exact ((hB.setCell (Nat.le_refl _) _).setCell (Nat.le_refl _) _).setCell (Nat.le_refl _) _
              · have PE := Lib.hid (pE_bad hk0 hrest hRl hlt (by rw [okAt_digit hlt h4 h7, getD_byte hkR]; unfold isD; simp; omega))
                go_wp2
                refine bodyPost_ret (v := .tuple #[.agg #[.int .i64 0, .int .i64 0, .int .i64 0], .int .i64 3]) (by simp [results, Tryz.results7, go_sem, q0, q1, q2]) rfl ⟨by rw [PS_err PE.out (by omega)], ?_⟩
                exact ((hB.setCell (Nat.le_refl _) _).setCell (Nat.le_refl _) _).setCell (Nat.le_refl _) _
        · have e : k = 10 := by omega
          subst e
          have hsh := (psh_all hRl).2 hall.out
          obtain ⟨hself, l1, l2, l3, a1, a2, a3⟩ := Tx.psh_cut hsh
          clear hself
          have bY : Tx.yv R.data.toList < 10000 := by unfold Tx.yv; have := val_lt _ a1; rw [l1] at this; simpa using this
          have V1 : ∀ w, Calls Tryz.prog 19 #[.string (R.extract 0 4)] w fun e w' => e = .returned (.int .i64 (Tx.yv R.data.toList)) ∧ w' = w := fun w => (rvalue_B _ _ (by rw [extract_list]; rfl) a1 (by omega) w).mono fun _ _ ⟨he, hw⟩ => ⟨he, hw.symm⟩
          have V2 : ∀ w, Calls Tryz.prog 19 #[.string (R.extract 5 7)] w fun e w' => e = .returned (.int .i64 (Tx.mv R.data.toList)) ∧ w' = w := fun w => (rvalue_B _ _ (by rw [extract_list]) a2 (by omega) w).mono fun _ _ ⟨he, hw⟩ => ⟨he, hw.symm⟩
          have V3 : ∀ w, Calls Tryz.prog 19 #[.string (R.extract 8 10)] w fun e w' => e = .returned (.int .i64 (Tx.dv R.data.toList)) ∧ w' = w := fun w => (rvalue_B _ (R.data.toList.drop 8) (by rw [extract_list]; exact List.take_of_length_le (by omega)) a3 (by omega) w).mono fun _ _ ⟨he, hw⟩ => ⟨he, hw.symm⟩
          clear l1 l2 l3 a1 a2 a3 hall
          generalize hY : Tx.yv R.data.toList = Y at *
          generalize hM : Tx.mv R.data.toList = M at *
          generalize hD : Tx.dv R.data.toList = D at *
          have hYY := Lib.hid hY
          have hMM := Lib.hid hM
          have hDD := Lib.hid hD
          clear hY hM hD
          have hng1 : IntKind.i64.wrap (-1 * (Y : Int)) = -(Y : Int) := by rw [IntWalk.i64_in _ (by omega)]; omega
          have hng2 : IntKind.i64.wrap (-(Y : Int)) = -(Y : Int) := IntWalk.i64_in _ (by omega)
          go_wp2
          go_region_with (go_at_call 19; first | ((with_reducible refine (V1 _).mono ?_); rintro e w' ⟨rfl, rfl⟩) | ((with_reducible refine (V2 _).mono ?_); rintro e w' ⟨rfl, rfl⟩) | ((with_reducible refine (V3 _).mono ?_); rintro e w' ⟨rfl, rfl⟩))
          all_goals
            clear V1 V2 V3
            have hy1' : w.heap.size < w1.heap.size + 1 := Nat.lt_succ_of_lt hy1
            by_cases hY0 : Y = 0
            · have PE := Lib.hid (pE_zero (c := c) hk0 hn hrest (hYY.out.trans hY0))
              have hz1 : (-(Y : Int) == 0) = true := by rw [hY0]; rfl
              clear hY0
              go_wp2
              refine bodyPost_ret (v := .tuple #[.agg #[.int .i64 0, .int .i64 0, .int .i64 0], .int .i64 3]) (by simp [results, Tryz.results7, go_sem, World.cell?_alloc_lt, hy1, q0, q1, q2]) rfl ⟨by rw [PS_err PE.out (by omega)], ?_⟩
              (repeat (first | exact Below.refl _ _ | assumption | refine below_drewN ?_ _ | refine Below.drew ?_ | refine btrans ?_ (by assumption) | refine below_alloc ?_ _ | refine Below.setCell ?_ (by simp <;> omega) _ | refine Below.alloc ?_ (by simp <;> omega) _ | refine Below.setCell ?_ (by simp) _ | refine Below.alloc ?_ (by simp) _))
            · have hz1 : (-(Y : Int) == 0) = false := by rw [beq_eq_false_iff_ne]; omega
              have HPS : Hid (PS c S.data.toList = if Cal.vld c (-(Y : Int)) (M : Int) (D : Int) = true then .tuple #[.agg #[.int .i64 (-(Y : Int)), .int .i64 M, .int .i64 D], .int .i64 0] else .tuple #[.agg #[.int .i64 0, .int .i64 0, .int .i64 0], .int .i64 21]) := PS_of hk0 hrest hsh hn (fun _ => hY0) hYY.out hMM.out hDD.out
              clear hY0
              cases hv : Cal.vld c (-(Y : Int)) (M : Int) (D : Int)
              · have V := fun w => rValid_any c (-(Y : Int)) M D w
                rw [hv] at V
                have HR := Lib.hid (HPS.out.trans (by rw [hv, if_neg (by simp)]))
                clear hv HPS
                go_wp2_with (first | (go_at_call 12; refine (V _).mono ?_; rintro e w2 ⟨rfl, hb2⟩; obtain ⟨hc2, hf2⟩ := bcell hb2; have hy2 := (lt_al hy1 hb2).1))
                obtain ⟨r0, r1, r2, _⟩ := keep3 (b := w.heap.size) hb2 (lt_al hy1 hb2).2 ((World.cell?_alloc_lt w1 _ ⟨w.heap.size, 0, none⟩ hy1).trans q0) ((World.cell?_alloc_lt w1 _ ⟨w.heap.size, 1, none⟩ hy1).trans q1) ((World.cell?_alloc_lt w1 _ ⟨w.heap.size, 2, none⟩ hy1).trans q2)
                have hB2 : Below w.heap.size w w2 := (hB.alloc (Nat.le_of_lt hy1) _).drew.trans (hb2.mono (Nat.le_of_lt (lt_al hy1 hb2).2))
                refine bodyPost_ret (v := .tuple #[.agg #[.int .i64 0, .int .i64 0, .int .i64 0], .int .i64 21]) (by simp [results, Tryz.results7, go_sem, r0, r1, r2]) rfl ⟨by rw [HR.out], ?_⟩
                exact ((hB2.setCell (Nat.le_refl _) _).setCell (Nat.le_refl _) _).setCell (Nat.le_refl _) _
              · have V := fun w => rValid_any c (-(Y : Int)) M D w
                rw [hv] at V
                have HR := Lib.hid (HPS.out.trans (by rw [hv, if_pos rfl]))
                clear hv HPS
                go_wp2_with (first | (go_at_call 12; refine (V _).mono ?_; rintro e w2 ⟨rfl, hb2⟩; obtain ⟨hc2, hf2⟩ := bcell hb2; have hy2 := (lt_al hy1 hb2).1))
                obtain ⟨r0, r1, r2, _⟩ := keep3 (b := w.heap.size) hb2 (lt_al hy1 hb2).2 ((World.cell?_alloc_lt w1 _ ⟨w.heap.size, 0, none⟩ hy1).trans q0) ((World.cell?_alloc_lt w1 _ ⟨w.heap.size, 1, none⟩ hy1).trans q1) ((World.cell?_alloc_lt w1 _ ⟨w.heap.size, 2, none⟩ hy1).trans q2)
                have hB2 : Below w.heap.size w w2 := (hB.alloc (Nat.le_of_lt hy1) _).drew.trans (hb2.mono (Nat.le_of_lt (lt_al hy1 hb2).2))
                refine bodyPost_ret (v := .tuple #[.agg #[.int .i64 (-(Y : Int)), .int .i64 M, .int .i64 D], .int .i64 0]) (by simp [results, Tryz.results7, go_sem, r0, r1, r2]) rfl ⟨by rw [HR.out], ?_⟩
                exact ((hB2.setCell (Nat.le_refl _) _).setCell (Nat.le_refl _) _).setCell (Nat.le_refl _) _
    · have PE := Lib.hid (pE_len (c := c) (l := S.data.toList) hk0 (by rw [hrest0, ← Lib.size_eq, hRs0]; omega))
      have h10' : ((S.size : Int) - 1 != 10) = true := by rw [bne_iff_ne]; omega
      clear hrest0 h10
      go_enter Tryz.func7, Tryz.ntmps7
      go_wp2_with (first | (go_at_call 11; refine (N _).mono ?_; rintro e w1 ⟨s, rfl, hne, hb1⟩; obtain ⟨hc1, hf1⟩ := bcell hb1; have hy1 := lt_of_below_alloc hb1))
      obtain ⟨q0, q1, q2, _⟩ := keep3 (b := w.heap.size) (x := .int .i64 0) (y := .int .i64 0) (z := .int .i64 0) hb1 (by simp) (by simp [go_sem]) (by simp [go_sem]) (by simp [go_sem])
      have hB : Below w.heap.size w w1 := ((Below.refl _ _).alloc (Nat.le_refl _) _).trans (hb1.mono (by simp))

      refine bodyPost_ret (v := .tuple #[.agg #[.int .i64 0, .int .i64 0, .int .i64 0], .int .i64 3]) (by simp [results, Tryz.results7, go_sem, q0, q1, q2]) rfl ⟨by rw [PS_err PE.out (by omega)], ?_⟩
      exact ((hB.setCell (Nat.le_refl _) _).setCell (Nat.le_refl _) _).setCell (Nat.le_refl _) _

end Go.Proofs.YtnjjkcnokkhlkaaGreatDoor
