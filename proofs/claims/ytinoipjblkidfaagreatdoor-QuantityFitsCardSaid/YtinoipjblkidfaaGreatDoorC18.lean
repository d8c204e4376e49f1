/- Whole numbers of both: Int and FromInt. The laws of numbers and of whole numbers. -/
import Derived.Test.YtinoipjblkidfaaGreatDoorC17
import Derived.OpenShut
/- Whole numbers of both: Int and FromInt. -/
namespace Go.Proofs.YtinoipjblkidfaaGreatDoor
open Go.RowKit Go.Proofs.YtinoipjblkidfaaGreatDoor.Dg Go.Proofs.YtinoipjblkidfaaGreatDoor.Q Go.Proofs.YtinoipjblkidfaaGreatDoor.Num Go.Proofs.YtinoipjblkidfaaGreatDoor.Str

theorem small_num {q : Rat} (h : top q ≤ 9007199254740992) : -9007199254740992 ≤ q.num ∧ q.num ≤ 9007199254740992 := by
  have : q.num.natAbs ≤ 9007199254740992 := h
  omega
theorem big_num {q : Rat} (h : ¬ top q ≤ 9007199254740992) : q.num < -9007199254740992 ∨ 9007199254740992 < q.num := by
  have : ¬ q.num.natAbs ≤ 9007199254740992 := h
  omega

set_option maxRecDepth 100000 in
set_option maxHeartbeats 3200000 in
theorem qInt_any (S : ByteArray) (hs : S.size ≤ 9223372036854775807) (w : World) (hw : Wf w) :
    Calls Tryz.prog 25 #[.string S] w fun e w' => e = .returned (.tuple #[.int .i64 (qint (bl S)).1, .bool (qint (bl S)).2]) ∧ Below w.heap.size w w' := by
  have VA := fun w' (hb : Below w.heap.size w w') => qValid_any S hs w' (hw.up hb)
  obtain ⟨X, hX⟩ : ∃ X, qint (bl S) = X := ⟨_, rfl⟩
  rw [hX]
  have b := Lib.hid (Below.refl w.heap.size w)
  cases h1 : num? (bl S) with
  | none =>
    have HX := Lib.hid (show X = (0, false) by rw [← hX]; unfold qint; rw [h1])
    rw [h1] at VA
    clear hs hw hX h1
    go_enter Tryz.func25, Tryz.ntmps25
    go_wp2_with (go_at_call 23; go_loud ((refine (VA _ b.out).mono ?_); rintro e wn ⟨rfl, hb⟩; replace b := Lib.hid (btrans b.out hb); clear hb))
    go_ret2
    exact ⟨by rw [HX.out]; rfl, b.out⟩
  | some q =>
    obtain ⟨ht, hsh⟩ := num_iff.1 h1
    have hlen := short_len hsh
    rw [ht, bl_len] at hlen
    have AT := fun w' (hb : Below w.heap.size w w') => atoi_any S (by omega) w' (hw.up hb)
    rw [h1] at VA
    by_cases hq : q.den = 1 ∧ top q ≤ 9007199254740992
    · have HX := Lib.hid (show X = (q.num, true) by rw [← hX]; unfold qint; rw [h1]; exact if_pos hq)
      have hok := atoi_small hq
      rw [ht] at hok
      obtain ⟨g1, g2⟩ := small_num hq.2
      have AT := fun w' hb => (AT w' hb).mono fun e w2 h => (show e = .returned (.tuple #[.int .i64 q.num, .nilIface]) ∧ Below w'.heap.size w' w2 from by
        obtain ⟨v, ev, rfl, _, _, _, h3, h4⟩ := h
        rcases h3 with ⟨rfl, h5⟩ | ⟨_, h5⟩
        · rw [hok] at h5
          injection h5 with h5
          rw [h5]
          exact ⟨rfl, h4⟩
        · exact absurd hok (h5 _))
      have i1 : ¬ q.num < -9007199254740992 := by omega
      have i2 : ¬ 9007199254740992 < q.num := by omega
      clear hs hw hX h1 ht hsh hlen hq hok g1 g2
      generalize q.num = n at *
      go_enter Tryz.func25, Tryz.ntmps25
      go_wp2_with (first
        | (go_at_call 23; go_loud ((refine (VA _ b.out).mono ?_); rintro e wn ⟨rfl, hb⟩; replace b := Lib.hid (btrans b.out hb); clear hb))
        | (go_at_call 86; go_loud ((with_reducible refine (AT _ b.out).mono ?_); rintro e wn ⟨rfl, hb⟩; replace b := Lib.hid (btrans b.out hb); clear hb)))
      go_ret2
      exact ⟨by rw [HX.out]; rfl, b.out⟩
    · have HX := Lib.hid (show X = (0, false) by rw [← hX]; unfold qint; rw [h1]; exact if_neg hq)
      by_cases hok : ∃ u, Lib.atoiAll (bl S) = .ok u
      · obtain ⟨u, hok⟩ := hok
        have hr := atoi_reads (q := q) (v := u) (by rw [ht]; exact hok)
        have hbig := big_num (q := q) (fun h => hq ⟨hr.1, h⟩)
        rw [← hr.2] at hbig
        have AT := fun w' hb => (AT w' hb).mono fun e w2 h => (show e = .returned (.tuple #[.int .i64 u, .nilIface]) ∧ Below w'.heap.size w' w2 from by
          obtain ⟨v, ev, rfl, _, _, _, h3, h4⟩ := h
          rcases h3 with ⟨rfl, h5⟩ | ⟨_, h5⟩
          · rw [hok] at h5
            injection h5 with h5
            rw [h5]
            exact ⟨rfl, h4⟩
          · exact absurd hok (h5 _))
        clear hs hw hX h1 ht hsh hlen hq hok hr
        rcases hbig with i1 | i1
        · go_enter Tryz.func25, Tryz.ntmps25
          go_wp2_with (first
            | (go_at_call 23; go_loud ((refine (VA _ b.out).mono ?_); rintro e wn ⟨rfl, hb⟩; replace b := Lib.hid (btrans b.out hb); clear hb))
            | (go_at_call 86; go_loud ((with_reducible refine (AT _ b.out).mono ?_); rintro e wn ⟨rfl, hb⟩; replace b := Lib.hid (btrans b.out hb); clear hb)))
          go_ret2
          exact ⟨by rw [HX.out]; rfl, b.out⟩
        · have i2 : ¬ u < -9007199254740992 := by omega
          go_enter Tryz.func25, Tryz.ntmps25
          go_wp2_with (first
            | (go_at_call 23; go_loud ((refine (VA _ b.out).mono ?_); rintro e wn ⟨rfl, hb⟩; replace b := Lib.hid (btrans b.out hb); clear hb))
            | (go_at_call 86; go_loud ((with_reducible refine (AT _ b.out).mono ?_); rintro e wn ⟨rfl, hb⟩; replace b := Lib.hid (btrans b.out hb); clear hb)))
          go_ret2
          exact ⟨by rw [HX.out]; rfl, b.out⟩
      · have AT := fun w' hb => (AT w' hb).mono fun e w2 h => (show ∃ v t p, e = .returned (.tuple #[.int .i64 v, .iface t p]) ∧ Below w'.heap.size w' w2 from by
          obtain ⟨v, ev, rfl, _, _, _, h3, h4⟩ := h
          rcases h3 with ⟨_, h5⟩ | ⟨⟨t, p, rfl⟩, _⟩
          · exact absurd ⟨v, h5⟩ hok
          · exact ⟨v, t, p, rfl, h4⟩)
        clear hs hw hX h1 ht hsh hlen hq hok
        go_enter Tryz.func25, Tryz.ntmps25
        go_wp2_with (first
          | (go_at_call 23; go_loud ((refine (VA _ b.out).mono ?_); rintro e wn ⟨rfl, hb⟩; replace b := Lib.hid (btrans b.out hb); clear hb))
          | (go_at_call 86; go_loud ((with_reducible refine (AT _ b.out).mono ?_); rintro e wn ⟨v, t, p, rfl, hb⟩; replace b := Lib.hid (btrans b.out hb); clear hb)))
        go_ret2
        exact ⟨by rw [HX.out]; rfl, b.out⟩

theorem int_txt (n : Int) (h1 : -9223372036854775808 ≤ n) (h2 : n ≤ 9223372036854775807) : put (n : Rat) = Lib.itoa n ∧ short (n : Rat) = true := by
  have hs : short (n : Rat) = true := by
    unfold short
    rw [int_top, int_den]
    have a1 : (Lib.decDigits n.natAbs).length ≤ 40 := (dec_len_le (by decide)).2 (by
      have : (10 : Nat) ^ 40 = 10000000000000000000000000000000000000000 := by decide
      omega)
    have a2 : (Lib.decDigits 1).length ≤ 40 := by rw [dec_small (by decide)]; decide
    rw [decide_eq_true a1, decide_eq_true a2]
    rfl
  refine ⟨?_, hs⟩
  unfold put
  rw [if_pos hs]
  unfold txt
  rw [int_top, int_den, int_ngt, if_pos rfl, List.append_nil]
  unfold Lib.itoa
  by_cases h : n < 0
  · rw [if_pos (decide_eq_true h), if_pos h, show n.natAbs = (-n).toNat by omega]
    rfl
  · rw [if_neg (by rw [decide_eq_false h]; decide), if_neg h, show n.natAbs = n.toNat by omega, List.nil_append]

set_option maxRecDepth 100000 in
set_option maxHeartbeats 1600000 in
theorem qFromInt_any (n : Int) (h1 : -9223372036854775808 ≤ n) (h2 : n ≤ 9223372036854775807) (w : World) (hw : Wf w) : Calls Tryz.prog 27 #[.int .i64 n] w (GiveT w (put (n : Rat))) := by
  have IT := (Tryz.strconv_Itoa n (by omega) (by omega) w hw.1).mono fun e w' h => (show e = .returned (.string ⟨(Lib.itoa n).toArray⟩) ∧ Below w.heap.size w w' from by
    obtain ⟨rfl, k, os, rfl⟩ := h
    exact ⟨rfl, Lib.below_grow _ w (Nat.le_refl _) k os⟩)
  rw [(int_txt n h1 h2).1]
  clear h1 h2 hw
  generalize Lib.itoa n = X at *
  go_enter Tryz.func27, Tryz.ntmps27
  go_wp2_with (go_at_call 89; go_loud ((with_reducible refine IT.mono ?_); rintro e w1 ⟨rfl, hb⟩; have B1 := Lib.hid hb; clear hb))
  go_ret
  exact ⟨rfl, B1.out⟩

set_option maxRecDepth 100000 in
set_option maxHeartbeats 1600000 in
theorem rFromInt_any (n : Int) (h1 : -9223372036854775808 ≤ n) (h2 : n ≤ 9223372036854775807) (w : World) : Calls Tryz.prog 28 #[.int .i64 n] w (GiveT w (put (n : Rat))) := by
  have IQ := rintq_any n h1 h2 w
  have z := sz_int n (by omega)
  have PU := fun w' v f => rput_any v (n : Rat) w' f (by omega)
  clear h1 h2 z
  generalize (n : Rat) = q at *
  go_enter Tryz.func28, Tryz.ntmps28
  go_wp2_with (first
    | (go_at_call 90; go_loud ((with_reducible refine (PU _ _ F1.out).mono ?_); rintro e w2 ⟨rfl, hb⟩; have B2 := Lib.hid (btrans B1.out hb); clear hb))
    | (go_at_call 91; go_loud ((with_reducible refine IQ.mono ?_); rintro e w1 ⟨v, rfl, hF, hb⟩; have F1 := Lib.hid hF; have B1 := Lib.hid hb; clear hF hb)))
  go_ret
  exact ⟨rfl, B2.out⟩

set_option maxRecDepth 100000 in
set_option maxHeartbeats 6400000 in
theorem rInt_any (S : ByteArray) (hs : S.size ≤ 9223372036854775807) (w : World) :
    Calls Tryz.prog 26 #[.string S] w fun e w' => e = .returned (.tuple #[.int .i64 (qint (bl S)).1, .bool (qint (bl S)).2]) ∧ Below w.heap.size w w' := by
  have G1 := fun w' => rget_any S hs w'
  obtain ⟨X, hX⟩ : ∃ X, qint (bl S) = X := ⟨_, rfl⟩
  rw [hX]
  cases h1 : num? (bl S) with
  | none =>
    have HX := Lib.hid (show X = (0, false) by rw [← hX]; unfold qint; rw [h1])
    rw [h1] at G1
    have G1 := fun w' => (G1 w').mono fun _ _ h => h.none
    clear hs h1 hX
    go_enter Tryz.func26, Tryz.ntmps26
    go_wp2_with (go_at_call 49; go_loud ((with_reducible refine (G1 _).mono ?_); rintro e w1 ⟨y, A1, l1, c1, A2, l2, c2, q0, rfl, hb, hF, hz⟩; have bx := box_rs w1 (.bool y) (.slice A1 l1 c1) (.slice A2 l2 c2) 51; have B1 := Lib.hid (btrans hb bx.2.1); obtain ⟨p0, p1, p2⟩ := bx.1.cells; clear hb hF hz bx))
    go_quiet (fail)
    go_wp2
    go_ret2
    exact ⟨by rw [HX.out]; rfl, by first | exact below_drewN B1.out _ | exact B1.out⟩
  | some q =>
    rw [h1] at G1
    have G1 := fun w' => (G1 w').mono fun _ _ h => h.some
    have z1 := num_sz h1
    have s1 := sz_top q
    have WH := fun w' v f => rwhole_any v q w' f (by omega)
    have NO := fun w' => natOf_any 9007199254740992 (by decide) w'
    have CP := fun w' A A' c c' f f' => rcmp_any A A' c c' (top q) 9007199254740992 w' f f' (by omega)
    by_cases hd : q.den = 1
    · rw [decide_eq_true hd] at WH
      by_cases hb : top q ≤ 9007199254740992
      · have HX := Lib.hid (show X = (q.num, true) by rw [← hX]; unfold qint; rw [h1]; exact if_pos ⟨hd, hb⟩)
        obtain ⟨z, hz⟩ : ∃ z, cmpN (top q) 9007199254740992 = z := ⟨_, rfl⟩
        have hz0 : ¬ 0 < z := by
          intro e
          unfold cmpN at hz
          split at hz
          · omega
          · split at hz
            · omega
            · omega
        rw [hz] at CP
        have HN := Lib.hid (num_sg q)
        have nl : nd (top q) ≤ 5 := by omega
        clear hs h1 hX z1 s1 hd hz
        go_enter Tryz.func26, Tryz.ntmps26
        go_wp2_with (go_at_call 49; go_loud ((with_reducible refine (G1 _).mono ?_); rintro e w1 ⟨y, A1, l1, c1, A2, l2, c2, rfl, hb, hF⟩; have bx := box_rs w1 (.bool y) (.slice A1 l1 c1) (.slice A2 l2 c2) 51; have B1 := Lib.hid (btrans hb bx.2.1); have F1 := Lib.hid (hF.up bx.2.1); have L1 := Lib.hid bx.1; have S1 := Lib.hid bx.2.2; obtain ⟨AT1, cT1, AT2, cT2, dT, hT, n1, n2, hdT⟩ := hF; injection hT with hT; simp only [Array.mk.injEq, List.cons.injEq, Value.bool.injEq, Value.slice.injEq, and_true] at hT; obtain ⟨rfl, ⟨rfl, rfl, rfl⟩, rfl, rfl, rfl⟩ := hT; have NT1 := Lib.hid (n1.up bx.2.1); clear hb n1 n2 hdT bx))
        have Bd := Lib.hid (B1.out.trans (show Below w.heap.size _ (w1.alloc (.cells #[.bool (ngt q), .slice A1 (nd (top q)) c1, .slice A2 (nd dT) c2] 51)).drew from Below.drew (Below.refl _ _)))
        have Fd := Lib.hid (F1.out.up (Below.drew (Below.refl _ _)))
        have Ld := Lib.hid (L1.out.below (Below.drew (Below.refl _ _)) S1.out)
        have Sd := Lib.hid (show w1.heap.size < (w1.alloc (.cells #[.bool (ngt q), .slice A1 (nd (top q)) c1, .slice A2 (nd dT) c2] 51)).drew.heap.size from S1.out)
        have NTd := Lib.hid (NT1.out.up (Below.drew (Below.refl _ _)))
        obtain ⟨p0, p1, p2⟩ := L1.out.cells
        go_region_held3 (fun w' => w'.cell? ⟨w1.heap.size, 0, none⟩ = some (.bool (ngt q)) ∧ w'.cell? ⟨w1.heap.size, 1, none⟩ = some (.slice A1 (nd (top q)) c1) ∧ w'.cell? ⟨w1.heap.size, 2, none⟩ = some (.slice A2 (nd dT) c2))
          (first | (with_reducible exact L4.out.cells) | (with_reducible exact L3.out.cells) | (with_reducible exact L2.out.cells) | (with_reducible exact Ld.out.cells) | go_keep)
          (first
            | (go_at_call 87; go_loud ((with_reducible refine (CP _ _ _ _ _ NT3.out O3.out).mono ?_); rintro e w4 ⟨rfl, qq, rfl⟩; have B4 := Lib.hid (below_drewN B3.out qq); have L4 := Lib.hid (L3.out.below (below_drewN (Below.refl _ _) qq) S3.out); obtain ⟨t0, t1, t2⟩ := L4.out.cells))
            | (go_at_call 88; go_loud ((refine (NO _).mono ?_); rintro e w3 ⟨A9, c9, rfl, hN, hb⟩; have B3 := Lib.hid (btrans B2.out hb); have L3 := Lib.hid (L2.out.below hb S2.out); have S3 := Lib.hid (Nat.lt_of_lt_of_le S2.out hb.size); have NT3 := Lib.hid (NT2.out.up hb); have O3 := Lib.hid hN; obtain ⟨t0, t1, t2⟩ := L3.out.cells; clear hN hb))
            | (go_at_call 53; go_loud ((with_reducible refine (WH _ _ Fd.out).mono ?_); rintro e w2 ⟨rfl, hb⟩; have B2 := Lib.hid (btrans Bd.out hb); have L2 := Lib.hid (Ld.out.below hb Sd.out); have S2 := Lib.hid (Nat.lt_of_lt_of_le Sd.out hb.size); have NT2 := Lib.hid (NTd.out.up hb); obtain ⟨t0, t1, t2⟩ := L2.out.cells; clear hb)))
        have NT := Lib.hid (NT3.out.up (below_drewN (Below.refl _ _) qq))
        obtain ⟨m, hm⟩ : ∃ m, top q = m := ⟨_, rfl⟩
        rw [hm] at NT HN nl hb t1
        have e0 : ∀ k, m / pw k ≤ 9007199254740992 := fun k => Nat.le_trans (Nat.div_le_self _ _) hb
        have nl' : (nd m : Int) ≤ 5 := by omega
        have z0 : m / pw (nd m) = 0 := div_zero (Nat.le_refl _)
        have wn : wrap64 (-(m : Int)) = -(m : Int) := IntWalk.wrap64_in _ (by constructor <;> omega)
        have wn' : IntKind.i64.wrap (-(m : Int)) = -(m : Int) := IntWalk.i64_in _ (by constructor <;> omega)
        clear hb B1 B2 B3 Bd L1 L2 L3 Ld S1 S2 S3 Sd F1 Fd NT1 NT2 NT3 NTd O3 CP NO WH p0 p1 p2
        generalize w3.drewN qq = W at *
        generalize hx : ngt q = x at *
        clear hx
        go_wp2
        go_loop [6, 7] (fun n i => ∃ k v : Nat, k ≤ nd m ∧ Hid (m / pw k = v) ∧ n = .int .i64 (v : Int) ∧ i = .int .i64 ((k : Int) - 1)) (fun _ i => (intOf i + 1).toNat)
        case atStart => exact ⟨nd m, 0, Nat.le_refl _, Lib.hid z0, rfl, rfl⟩
        case round =>
          clear z0
          obtain ⟨k, v, hk, hv, rfl, rfl⟩ := hrel
          by_cases hk0 : k = 0
          · subst hk0
            have hvm : v = m := by have := hv.out; rw [pw_zero, Nat.div_one] at this; exact this.symm
            subst hvm
            have HQ := Lib.hid HN.out
            clear hv NT e0 nl nl' HN hm
            cases x
            all_goals
              go_wp2
              go_ret2
              refine ⟨?_, B4.out⟩
              rw [HX.out, HQ.out]
              first | rfl | (rw [wn]; rfl) | (simp only [wn]; rfl)
          · obtain ⟨j, rfl⟩ : ∃ j, k = j + 1 := ⟨k - 1, by omega⟩
            obtain ⟨bb, off, hA, _, hc⟩ := NT.out.at_ (show j < nd m by omega)
            subst hA
            obtain ⟨d, hd⟩ : ∃ d, dg m j = d := ⟨_, rfl⟩
            have hdl := dg_lt m j
            have hsp := div_split m j
            have hb2 := e0 j
            rw [hd] at hc hdl hsp
            rw [hv.out] at hsp
            rw [hsp] at hb2
            have HV := Lib.hid hsp
            have em : ((j + 1 : Nat) : Int) - 1 = (j : Int) := by omega
            have i1 : (j : Int) < (nd m : Int) := by omega
            have i0 : (0 : Int) ≤ (j : Int) := by omega
            have bi : (v : Int) * 1000000000 + (d : Int) ≤ 9007199254740992 := by omega
            have bv : (v : Int) ≤ 9007199 := by omega
            have bd : (d : Int) ≤ 999999999 := by omega
            rw [em]
            clear hv hd hdl hsp hk0 em HN hm e0 nl
            go_wp2
            go_round
            case rel => exact ⟨j, 1000000000 * v + d, by omega, HV, by first | go_num | (congr 1; push_cast; omega), by first | rfl | go_num⟩
            case measure => simp only [intOf]; omega
      · have HX := Lib.hid (show X = (0, false) by rw [← hX]; unfold qint; rw [h1]; exact if_neg (fun h => hb h.2))
        rw [cmpN_gt (by omega)] at CP
        clear hs h1 hX z1 s1 hd hb
        go_enter Tryz.func26, Tryz.ntmps26
        go_wp2_with (go_at_call 49; go_loud ((with_reducible refine (G1 _).mono ?_); rintro e w1 ⟨y, A1, l1, c1, A2, l2, c2, rfl, hb, hF⟩; have bx := box_rs w1 (.bool y) (.slice A1 l1 c1) (.slice A2 l2 c2) 51; have B1 := Lib.hid (btrans hb bx.2.1); have F1 := Lib.hid (hF.up bx.2.1); have L1 := Lib.hid bx.1; have S1 := Lib.hid bx.2.2; obtain ⟨AT1, cT1, AT2, cT2, dT, hT, n1, n2, hdT⟩ := hF; injection hT with hT; simp only [Array.mk.injEq, List.cons.injEq, Value.bool.injEq, Value.slice.injEq, and_true] at hT; obtain ⟨rfl, ⟨rfl, rfl, rfl⟩, rfl, rfl, rfl⟩ := hT; have NT1 := Lib.hid (n1.up bx.2.1); clear hb n1 n2 hdT bx))
        have Bd := Lib.hid (B1.out.trans (show Below w.heap.size _ (w1.alloc (.cells #[.bool (ngt q), .slice A1 (nd (top q)) c1, .slice A2 (nd dT) c2] 51)).drew from Below.drew (Below.refl _ _)))
        have Fd := Lib.hid (F1.out.up (Below.drew (Below.refl _ _)))
        have Ld := Lib.hid (L1.out.below (Below.drew (Below.refl _ _)) S1.out)
        have Sd := Lib.hid (show w1.heap.size < (w1.alloc (.cells #[.bool (ngt q), .slice A1 (nd (top q)) c1, .slice A2 (nd dT) c2] 51)).drew.heap.size from S1.out)
        have NTd := Lib.hid (NT1.out.up (Below.drew (Below.refl _ _)))
        obtain ⟨p0, p1, p2⟩ := L1.out.cells
        go_region_held3 (fun w' => w'.cell? ⟨w1.heap.size, 0, none⟩ = some (.bool (ngt q)) ∧ w'.cell? ⟨w1.heap.size, 1, none⟩ = some (.slice A1 (nd (top q)) c1) ∧ w'.cell? ⟨w1.heap.size, 2, none⟩ = some (.slice A2 (nd dT) c2))
          (first | (with_reducible exact L4.out.cells) | (with_reducible exact L3.out.cells) | (with_reducible exact L2.out.cells) | (with_reducible exact Ld.out.cells) | go_keep)
          (first
            | (go_at_call 87; go_loud ((with_reducible refine (CP _ _ _ _ _ NT3.out O3.out).mono ?_); rintro e w4 ⟨rfl, qq, rfl⟩; have B4 := Lib.hid (below_drewN B3.out qq); have L4 := Lib.hid (L3.out.below (below_drewN (Below.refl _ _) qq) S3.out); obtain ⟨t0, t1, t2⟩ := L4.out.cells))
            | (go_at_call 88; go_loud ((refine (NO _).mono ?_); rintro e w3 ⟨A9, c9, rfl, hN, hb⟩; have B3 := Lib.hid (btrans B2.out hb); have L3 := Lib.hid (L2.out.below hb S2.out); have S3 := Lib.hid (Nat.lt_of_lt_of_le S2.out hb.size); have NT3 := Lib.hid (NT2.out.up hb); have O3 := Lib.hid hN; obtain ⟨t0, t1, t2⟩ := L3.out.cells; clear hN hb))
            | (go_at_call 53; go_loud ((with_reducible refine (WH _ _ Fd.out).mono ?_); rintro e w2 ⟨rfl, hb⟩; have B2 := Lib.hid (btrans Bd.out hb); have L2 := Lib.hid (Ld.out.below hb Sd.out); have S2 := Lib.hid (Nat.lt_of_lt_of_le Sd.out hb.size); have NT2 := Lib.hid (NTd.out.up hb); obtain ⟨t0, t1, t2⟩ := L2.out.cells; clear hb)))
        go_wp2
        go_ret2
        exact ⟨by rw [HX.out]; rfl, B4.out⟩
    · rw [decide_eq_false hd] at WH
      have HX := Lib.hid (show X = (0, false) by rw [← hX]; unfold qint; rw [h1]; exact if_neg (fun h => hd h.1))
      clear hs h1 hX z1 s1 hd NO CP
      go_enter Tryz.func26, Tryz.ntmps26
      go_wp2_with (go_at_call 49; go_loud ((with_reducible refine (G1 _).mono ?_); rintro e w1 ⟨y, A1, l1, c1, A2, l2, c2, rfl, hb, hF⟩; have bx := box_rs w1 (.bool y) (.slice A1 l1 c1) (.slice A2 l2 c2) 51; have B1 := Lib.hid (btrans hb bx.2.1); have F1 := Lib.hid (hF.up bx.2.1); have L1 := Lib.hid bx.1; have S1 := Lib.hid bx.2.2; obtain ⟨AT1, cT1, AT2, cT2, dT, hT, n1, n2, hdT⟩ := hF; injection hT with hT; simp only [Array.mk.injEq, List.cons.injEq, Value.bool.injEq, Value.slice.injEq, and_true] at hT; obtain ⟨rfl, ⟨rfl, rfl, rfl⟩, rfl, rfl, rfl⟩ := hT; have NT1 := Lib.hid (n1.up bx.2.1); clear hb n1 n2 hdT bx))
      have Bd := Lib.hid (B1.out.trans (show Below w.heap.size _ (w1.alloc (.cells #[.bool (ngt q), .slice A1 (nd (top q)) c1, .slice A2 (nd dT) c2] 51)).drew from Below.drew (Below.refl _ _)))
      have Fd := Lib.hid (F1.out.up (Below.drew (Below.refl _ _)))
      have Ld := Lib.hid (L1.out.below (Below.drew (Below.refl _ _)) S1.out)
      have Sd := Lib.hid (show w1.heap.size < (w1.alloc (.cells #[.bool (ngt q), .slice A1 (nd (top q)) c1, .slice A2 (nd dT) c2] 51)).drew.heap.size from S1.out)
      have NTd := Lib.hid (NT1.out.up (Below.drew (Below.refl _ _)))
      obtain ⟨p0, p1, p2⟩ := L1.out.cells
      first
        | (go_region_with (go_at_call 53; ((with_reducible refine (WH _ _ (F1.out.up (by first | exact Below.refl _ _ | exact Below.drew (Below.refl _ _) | exact below_drewN (Below.refl _ _) _))).mono ?_); rintro e w2 ⟨rfl, hb⟩; have B2 := Lib.hid (btrans B1.out (btrans (by first | exact Below.refl _ _ | exact Below.drew (Below.refl _ _) | exact below_drewN (Below.refl _ _) _) hb)); clear hb)))
        | fail
      all_goals go_wp2
      all_goals go_ret2
      all_goals exact ⟨by rw [HX.out]; rfl, by first | exact B2.out | exact Below.drew B2.out⟩

end Go.Proofs.YtinoipjblkidfaaGreatDoor

/- The laws of numbers and of whole numbers. -/
namespace Go.Proofs.YtinoipjblkidfaaGreatDoor
open Go.RowKit Go.Proofs.YtinoipjblkidfaaGreatDoor.Dg Go.Proofs.YtinoipjblkidfaaGreatDoor.Q Go.Proofs.YtinoipjblkidfaaGreatDoor.Num

theorem wf64 {x : Int} (h : (Lit.int .i64 x).wf = true) : -9223372036854775808 ≤ x ∧ x ≤ 9223372036854775807 := bounds_i64 h
def putB (q : Rat) : ByteArray := ⟨(put q).toArray⟩
/-- Int of the text of a whole number. -/
theorem qint_put (n : Int) (h1 : -9223372036854775808 ≤ n) (h2 : n ≤ 9223372036854775807) :
    qint (put (n : Rat)) = if -9007199254740992 ≤ n ∧ n ≤ 9007199254740992 then (n, true) else (0, false) := by
  unfold qint
  rw [num_put (int_txt n h1 h2).2]
  show (if (n : Rat).den = 1 ∧ top (n : Rat) ≤ 9007199254740992 then ((n : Rat).num, true) else (0, false)) = _
  rw [int_den, int_top]
  by_cases h : -9007199254740992 ≤ n ∧ n ≤ 9007199254740992
  · rw [if_pos h, if_pos ⟨rfl, by omega⟩]
    rfl
  · rw [if_neg h, if_neg (fun g => h (by omega))]

set_option maxRecDepth 100000 in
set_option maxHeartbeats 6400000 in
theorem ints_walk (n : Int) (h1 : -9223372036854775808 ≤ n) (h2 : n ≤ 9223372036854775807) (w : World) (hw : Wf w) :
    Calls Tryz.prog 5 #[.int .i64 n] w fun e w' => e = .returned (.bool true) ∧ Below w.heap.size w w' := by
  have F1 := fun w' (hb : Below w.heap.size w w') => (qFromInt_any n h1 h2 w' (hw.up hb)).mono fun e w2 h => (show e = .returned (.string (putB (n : Rat))) ∧ Below w'.heap.size w' w2 from h)
  have F2 := fun w' => (rFromInt_any n h1 h2 w').mono fun e w2 h => (show e = .returned (.string (putB (n : Rat))) ∧ Below w'.heap.size w' w2 from h)
  have hs : (putB (n : Rat)).size ≤ 9223372036854775807 := by
    rw [← bl_len]
    have := put_len (n : Rat)
    show (put (n : Rat)).length ≤ _
    omega
  have IN := fun w' (hb : Below w.heap.size w w') => qInt_any (putB (n : Rat)) hs w' (hw.up hb)
  have hq : qint (bl (putB (n : Rat))) = _ := qint_put n h1 h2
  rw [hq] at IN
  have AW := fun w' (hb : Below w.heap.size w w') => awake_any w' (hw.up hb)
  generalize putB (n : Rat) = s at *
  have e1 : (s.toList == s.toList) = true := beq_self_eq_true _
  have b := Lib.hid (Below.refl w.heap.size w)
  clear hw hs hq
  by_cases hr : -9007199254740992 ≤ n ∧ n ≤ 9007199254740992
  · rw [if_pos hr] at IN
    have i1 := hr.1
    have i2 := hr.2
    clear hr
    go_enter Tryz.func5, Tryz.ntmps5
    go_wp2_with (first
      | (go_at_call 27; ((with_reducible refine (F1 _ b.out).mono ?_); rintro e wn ⟨rfl, hb⟩; replace b := Lib.hid (btrans b.out hb); clear hb))
      | (go_at_call 28; ((with_reducible refine (F2 _).mono ?_); rintro e wn ⟨rfl, hb⟩; replace b := Lib.hid (btrans b.out hb); clear hb))
      | (go_at_call 25; ((with_reducible refine (IN _ b.out).mono ?_); rintro e wn ⟨rfl, hb⟩; replace b := Lib.hid (btrans b.out hb); clear hb))
      | (go_at_call 20; ((with_reducible refine (AW _ b.out).mono ?_); rintro e wn ⟨rfl, hb⟩; replace b := Lib.hid (btrans b.out hb); clear hb)))
    go_ret
    exact ⟨rfl, b.out⟩
  · rw [if_neg hr] at IN
    by_cases i1 : -9007199254740992 ≤ n
    · have i2 : ¬ n ≤ 9007199254740992 := fun h => hr ⟨i1, h⟩
      have i3 : decide (n ≤ 9007199254740992) = false := decide_eq_false i2
      clear hr
      go_enter Tryz.func5, Tryz.ntmps5
      go_wp2_with (first
        | (go_at_call 27; ((with_reducible refine (F1 _ b.out).mono ?_); rintro e wn ⟨rfl, hb⟩; replace b := Lib.hid (btrans b.out hb); clear hb))
        | (go_at_call 28; ((with_reducible refine (F2 _).mono ?_); rintro e wn ⟨rfl, hb⟩; replace b := Lib.hid (btrans b.out hb); clear hb))
        | (go_at_call 25; ((with_reducible refine (IN _ b.out).mono ?_); rintro e wn ⟨rfl, hb⟩; replace b := Lib.hid (btrans b.out hb); clear hb))
        | (go_at_call 20; ((with_reducible refine (AW _ b.out).mono ?_); rintro e wn ⟨rfl, hb⟩; replace b := Lib.hid (btrans b.out hb); clear hb)))
      go_ret
      exact ⟨rfl, b.out⟩
    · clear hr
      go_enter Tryz.func5, Tryz.ntmps5
      go_wp2_with (first
        | (go_at_call 27; ((with_reducible refine (F1 _ b.out).mono ?_); rintro e wn ⟨rfl, hb⟩; replace b := Lib.hid (btrans b.out hb); clear hb))
        | (go_at_call 28; ((with_reducible refine (F2 _).mono ?_); rintro e wn ⟨rfl, hb⟩; replace b := Lib.hid (btrans b.out hb); clear hb))
        | (go_at_call 25; ((with_reducible refine (IN _ b.out).mono ?_); rintro e wn ⟨rfl, hb⟩; replace b := Lib.hid (btrans b.out hb); clear hb))
        | (go_at_call 20; ((with_reducible refine (AW _ b.out).mono ?_); rintro e wn ⟨rfl, hb⟩; replace b := Lib.hid (btrans b.out hb); clear hb)))
      go_ret
      exact ⟨rfl, b.out⟩

/-- What Parse gives is a number, which Parse gives back. -/
theorem qparse_ok {l : List UInt8} (h : (qparse l).2 = 0) : ∃ q, num? (qparse l).1 = some q ∧ qparse (qparse l).1 = ((qparse l).1, 0) := by
  unfold qparse at h
  split at h
  · cases h
  · rename_i hl
    cases hf : frm l with
    | none => rw [hf] at h; cases h
    | some q =>
      rw [hf] at h
      cases hs : short q
      · change (if short q = true then (txt q, (0 : Int)) else ([], 4)).2 = 0 at h
        rw [hs] at h; cases h
      · have e : qparse l = (txt q, 0) := by
          unfold qparse
          rw [if_neg hl, hf]
          show (if short q = true then (txt q, (0 : Int)) else ([], 4)) = _
          rw [if_pos hs]
        rw [e]
        refine ⟨q, num_iff.2 ⟨rfl, hs⟩, ?_⟩
        show qparse (txt q) = (txt q, 0)
        unfold qparse
        rw [if_neg (by have := short_len hs; omega), frm_txt]
        show (if short q = true then (txt q, (0 : Int)) else ([], 4)) = _
        rw [if_pos hs]
theorem qparse_len (l : List UInt8) : (qparse l).1.length ≤ 82 := by
  unfold qparse
  split
  · exact Nat.zero_le _
  · cases frm l with
    | none => exact Nat.zero_le _
    | some q =>
      show (if short q = true then (txt q, (0 : Int)) else ([], 4)).1.length ≤ 82
      split
      · exact short_len (by assumption)
      · exact Nat.zero_le _

set_option maxRecDepth 100000 in
set_option maxHeartbeats 6400000 in
theorem numbers_walk (x : ByteArray) (hx : x.size ≤ 9223372036854775807) (w : World) (hw : Wf w) :
    Calls Tryz.prog 4 #[.string x] w fun e w' => e = .returned (.bool true) ∧ Below w.heap.size w w' := by
  obtain ⟨s, hs⟩ : ∃ s : ByteArray, s = ⟨(qparse (bl x)).1.toArray⟩ := ⟨_, rfl⟩
  have bs : bl s = (qparse (bl x)).1 := by rw [hs]; rfl
  have ss : s.size ≤ 9223372036854775807 := by rw [← bl_len, bs]; have := qparse_len (bl x); omega
  have P1 := fun w' (hb : Below w.heap.size w w') => qParse_any x hx w' (hw.up hb)
  have P2 := fun w' => rparse_any x hx w'
  rw [← hs] at P1 P2
  have V1 := fun w' (hb : Below w.heap.size w w') => qValid_any x hx w' (hw.up hb)
  have V2 := fun w' => rvalid_any x hx w'
  have V3 := fun w' (hb : Below w.heap.size w w') => qValid_any s ss w' (hw.up hb)
  have I1 := fun w' (hb : Below w.heap.size w w') => qInt_any x hx w' (hw.up hb)
  have I2 := fun w' => rInt_any x hx w'
  have P3 := fun w' (hb : Below w.heap.size w w') => qParse_any s ss w' (hw.up hb)
  rw [bs] at V3 P3
  have AW := fun w' (hb : Below w.heap.size w w') => awake_any w' (hw.up hb)
  have b := Lib.hid (Below.refl w.heap.size w)
  have e1 : (s.toList == s.toList) = true := beq_self_eq_true _
  generalize (num? (bl x)).isSome = v at *
  generalize (qint (bl x)).1 = n at *
  generalize (qint (bl x)).2 = is at *
  have n1 : (n != n) = false := by simp
  have n2 : (is != is) = false := by simp
  have n3 : (v != v) = false := by simp
  by_cases h0 : (qparse (bl x)).2 = 0
  · obtain ⟨q, g1, g2⟩ := qparse_ok h0
    rw [g1] at V3
    rw [g2] at P3
    have P3 := fun w' hb => (P3 w' hb).mono fun e w2 h => (show e = .returned (.tuple #[.string s, .int .i64 0]) ∧ Below w'.heap.size w' w2 from by rw [hs]; exact h)
    rw [h0] at P1 P2
    clear hw hx ss bs g1 g2 h0 hs
    go_enter Tryz.func4, Tryz.ntmps4
    go_wp2_with (first
      | (go_at_call 21; ((with_reducible refine (P1 _ b.out).mono ?_); rintro e wn ⟨rfl, hb⟩; replace b := Lib.hid (btrans b.out hb); clear hb))
      | (go_at_call 21; ((with_reducible refine (P3 _ b.out).mono ?_); rintro e wn ⟨rfl, hb⟩; replace b := Lib.hid (btrans b.out hb); clear hb))
      | (go_at_call 22; ((with_reducible refine (P2 _).mono ?_); rintro e wn ⟨rfl, hb⟩; replace b := Lib.hid (btrans b.out hb); clear hb))
      | (go_at_call 23; ((with_reducible refine (V1 _ b.out).mono ?_); rintro e wn ⟨rfl, hb⟩; replace b := Lib.hid (btrans b.out hb); clear hb))
      | (go_at_call 23; ((refine (V3 _ b.out).mono ?_); rintro e wn ⟨rfl, hb⟩; replace b := Lib.hid (btrans b.out hb); clear hb))
      | (go_at_call 24; ((with_reducible refine (V2 _).mono ?_); rintro e wn ⟨rfl, hb⟩; replace b := Lib.hid (btrans b.out hb); clear hb))
      | (go_at_call 25; ((with_reducible refine (I1 _ b.out).mono ?_); rintro e wn ⟨rfl, hb⟩; replace b := Lib.hid (btrans b.out hb); clear hb))
      | (go_at_call 26; ((with_reducible refine (I2 _).mono ?_); rintro e wn ⟨rfl, hb⟩; replace b := Lib.hid (btrans b.out hb); clear hb))
      | (go_at_call 20; ((with_reducible refine (AW _ b.out).mono ?_); rintro e wn ⟨rfl, hb⟩; replace b := Lib.hid (btrans b.out hb); clear hb)))
    go_ret
    exact ⟨rfl, b.out⟩
  · obtain ⟨z, hz⟩ : ∃ z, (qparse (bl x)).2 = z := ⟨_, rfl⟩
    rw [hz] at P1 P2 h0
    have P3 := fun w' hb => (P3 w' hb).mono fun e w2 h => (show ∃ s' z', e = .returned (.tuple #[.string s', .int .i64 z']) ∧ Below w'.heap.size w' w2 from ⟨_, _, h⟩)
    have n4 : (z != z) = false := by simp
    have n5 : (z == 0) = false := beq_eq_false_iff_ne.2 h0
    have n6 : (z != 0) = true := bne_iff_ne.2 h0
    clear hw hx ss bs hz hs V3
    go_enter Tryz.func4, Tryz.ntmps4
    go_wp2_with (first
      | (go_at_call 21; ((with_reducible refine (P1 _ b.out).mono ?_); rintro e wn ⟨rfl, hb⟩; replace b := Lib.hid (btrans b.out hb); clear hb))
      | (go_at_call 21; ((with_reducible refine (P3 _ b.out).mono ?_); rintro e wn ⟨s', z', rfl, hb⟩; replace b := Lib.hid (btrans b.out hb); clear hb))
      | (go_at_call 22; ((with_reducible refine (P2 _).mono ?_); rintro e wn ⟨rfl, hb⟩; replace b := Lib.hid (btrans b.out hb); clear hb))
      | (go_at_call 23; ((with_reducible refine (V1 _ b.out).mono ?_); rintro e wn ⟨rfl, hb⟩; replace b := Lib.hid (btrans b.out hb); clear hb))
      | (go_at_call 24; ((with_reducible refine (V2 _).mono ?_); rintro e wn ⟨rfl, hb⟩; replace b := Lib.hid (btrans b.out hb); clear hb))
      | (go_at_call 25; ((with_reducible refine (I1 _ b.out).mono ?_); rintro e wn ⟨rfl, hb⟩; replace b := Lib.hid (btrans b.out hb); clear hb))
      | (go_at_call 26; ((with_reducible refine (I2 _).mono ?_); rintro e wn ⟨rfl, hb⟩; replace b := Lib.hid (btrans b.out hb); clear hb))
      | (go_at_call 20; ((with_reducible refine (AW _ b.out).mono ?_); rintro e wn ⟨rfl, hb⟩; replace b := Lib.hid (btrans b.out hb); clear hb)))
    go_ret
    exact ⟨rfl, b.out⟩
end Go.Proofs.YtinoipjblkidfaaGreatDoor
