/- Months can be added one after the other, for days up to 28: for every input; no condition. -/
import Derived.Test.YtnjjkcnokkhlkaaCalP
import Derived.Test.YtnjjkcnokkhlkaaCalR
namespace Go.Proofs.Ytnjjkcnokkhlkaa
open Go.RowKit Go.ChangeShapes Go.WideShapes Go.ChangeAt Go.Joins

theorem am_ok {c y m d n : Int} (h : amE c y m d n = 0) : dck c y m d = 0 ∧ -240000 ≤ n ∧ n ≤ 240000 ∧ yr (amA y m n / 12) = true := by
  rcases am_cases c y m d n with ⟨h1, e1⟩ | ⟨h1, h2, e1⟩ | ⟨h1, h2, h3, h4, e1⟩ | ⟨h1, h2, h3, h4, _⟩
  · omega
  · omega
  · omega
  · exact ⟨h1, h2, h3, h4⟩
theorem min_28 {c y m d : Int} (h : d ≤ 28) : min d (Cal.mlen c y m) = d := by have := Cal.mlen_bd c y m; omega
theorem am_sum {c y m d n k : Int} (h1 : amE c y m d n = 0) (h2 : amE c (amA y m n / 12) (amA y m n % 12 + 1) d k = 0) (hs1 : -240000 ≤ n + k) (hs2 : n + k ≤ 240000) :
    amE c y m d (n + k) = 0 ∧ amA y m (n + k) / 12 = amA (amA y m n / 12) (amA y m n % 12 + 1) k / 12 ∧ amA y m (n + k) % 12 + 1 = amA (amA y m n / 12) (amA y m n % 12 + 1) k % 12 + 1 := by
  obtain ⟨a1, a2, a3, a4⟩ := am_ok h1
  obtain ⟨b1, b2, b3, b4⟩ := am_ok h2
  have e : amA y m (n + k) = amA (amA y m n / 12) (amA y m n % 12 + 1) k := by unfold amA; omega
  rw [e]
  refine ⟨?_, rfl, rfl⟩
  unfold amE
  rw [e, b4]
  simp [a1]
  omega

set_option maxRecDepth 100000 in
set_option maxHeartbeats 1600000 in
theorem sums_walk (c y m d n k : Int) (w : World) :
    Calls Try.prog 9 #[.int .i64 c, dt y m d, .agg #[.int .i64 n, .int .i64 k]] w fun e w' => e = .returned (.bool true) ∧ Below w.heap.size w w' := by
  have A1 := fun w => AddMonths_any c y m d n w
  by_cases h1 : amE c y m d n = 0
  · obtain ⟨a1, a2, a3⟩ := am_yes h1
    obtain ⟨o1, n1, n2, o4⟩ := am_ok h1
    rw [a1, a2, a3, h1] at A1
    by_cases hd : d ≤ 28
    · rw [min_28 hd] at A1
      have A2 := fun w => AddMonths_any c (amA y m n / 12) (amA y m n % 12 + 1) d k w
      by_cases h2 : amE c (amA y m n / 12) (amA y m n % 12 + 1) d k = 0
      · obtain ⟨b1, b2, b3⟩ := am_yes h2
        obtain ⟨p1, k1, k2, p4⟩ := am_ok h2
        rw [b1, b2, b3, h2, min_28 hd] at A2
        by_cases hs1 : -240000 ≤ n + k
        · by_cases hs2 : n + k ≤ 240000
          · obtain ⟨s1, s2, s3⟩ := am_sum h1 h2 hs1 hs2
            have A3 := fun w => AddMonths_any c y m d (n + k) w
            obtain ⟨c1, c2, c3⟩ := am_yes s1
            rw [c1, c2, c3, s1, s2, s3, min_28 hd] at A3
            generalize amA (amA y m n / 12) (amA y m n % 12 + 1) k / 12 = Y2 at *
            generalize amA (amA y m n / 12) (amA y m n % 12 + 1) k % 12 + 1 = M2 at *
            generalize amA y m n / 12 = Y1 at *
            generalize amA y m n % 12 + 1 = M1 at *
            clear a1 a2 a3 b1 b2 b3 c1 c2 c3 s1 s2 s3 h1 h2 o1 o4 p1 p4
            have tok1 : True := trivial
            have tok2 : True := trivial
            go_enter Try.func9, Try.ntmps9
            go_wp2_with (first | (go_at_call 29; have _t := tok1; refine (A1 _).mono ?_; rintro e w1 ⟨rfl, hb1⟩; clear tok1 _t; obtain ⟨hc1, hf1⟩ := bcell hb1; obtain ⟨ha1, hz1⟩ := lt_of_below_alloc2 hb1) | (go_at_call 29; have _t := tok2; refine (A2 _).mono ?_; rintro e w2 ⟨rfl, hb2⟩; clear tok2 _t; obtain ⟨hc2, hf2⟩ := bcell hb2; have hy2 := lt_of_below_alloc hb2; have ha2 := Nat.lt_trans ha1 hy2; have hz2 := Nat.lt_trans hz1 hy2) | (go_at_call 29; refine (A3 _).mono ?_; rintro e w3 ⟨rfl, hb3⟩; obtain ⟨hc3, hf3⟩ := bcell hb3; have hy3 := lt_of_below_alloc hb3) | (go_at_call 19; refine (sane_any _).mono ?_; rintro e w5 ⟨rfl, hb5⟩))
            go_ret
            refine ⟨rfl, ?_⟩
            (repeat (first | exact Below.refl _ _ | assumption | refine below_drewN ?_ _ | refine Below.drew ?_ | refine btrans ?_ (by assumption) | refine below_alloc ?_ _ | refine Below.setCell ?_ (by simp <;> omega) _ | refine Below.alloc ?_ (by simp <;> omega) _ | refine Below.setCell ?_ (by simp) _ | refine Below.alloc ?_ (by simp) _))
          · have hs : 240000 < n + k := by omega
            generalize amA (amA y m n / 12) (amA y m n % 12 + 1) k / 12 = Y2 at *
            generalize amA (amA y m n / 12) (amA y m n % 12 + 1) k % 12 + 1 = M2 at *
            generalize amA y m n / 12 = Y1 at *
            generalize amA y m n % 12 + 1 = M1 at *
            clear a1 a2 a3 b1 b2 b3 h1 h2 o1 o4 p1 p4 hs2
            have tok1 : True := trivial
            go_enter Try.func9, Try.ntmps9
            go_wp2_with (first | (go_at_call 29; have _t := tok1; refine (A1 _).mono ?_; rintro e w1 ⟨rfl, hb1⟩; clear tok1 _t; obtain ⟨hc1, hf1⟩ := bcell hb1; obtain ⟨ha1, hz1⟩ := lt_of_below_alloc2 hb1) | (go_at_call 29; refine (A2 _).mono ?_; rintro e w2 ⟨rfl, hb2⟩; obtain ⟨hc2, hf2⟩ := bcell hb2; have hy2 := lt_of_below_alloc hb2; have ha2 := Nat.lt_trans ha1 hy2; have hz2 := Nat.lt_trans hz1 hy2) | (go_at_call 19; refine (sane_any _).mono ?_; rintro e w5 ⟨rfl, hb5⟩))
            go_ret
            refine ⟨rfl, ?_⟩
            (repeat (first | exact Below.refl _ _ | assumption | refine below_drewN ?_ _ | refine Below.drew ?_ | refine btrans ?_ (by assumption) | refine below_alloc ?_ _ | refine Below.setCell ?_ (by simp <;> omega) _ | refine Below.alloc ?_ (by simp <;> omega) _ | refine Below.setCell ?_ (by simp) _ | refine Below.alloc ?_ (by simp) _))
        · have hs : n + k < -240000 := by omega
          generalize amA (amA y m n / 12) (amA y m n % 12 + 1) k / 12 = Y2 at *
          generalize amA (amA y m n / 12) (amA y m n % 12 + 1) k % 12 + 1 = M2 at *
          generalize amA y m n / 12 = Y1 at *
          generalize amA y m n % 12 + 1 = M1 at *
          clear a1 a2 a3 b1 b2 b3 h1 h2 o1 o4 p1 p4 hs1
          have tok1 : True := trivial
          go_enter Try.func9, Try.ntmps9
          go_wp2_with (first | (go_at_call 29; have _t := tok1; refine (A1 _).mono ?_; rintro e w1 ⟨rfl, hb1⟩; clear tok1 _t; obtain ⟨hc1, hf1⟩ := bcell hb1; obtain ⟨ha1, hz1⟩ := lt_of_below_alloc2 hb1) | (go_at_call 29; refine (A2 _).mono ?_; rintro e w2 ⟨rfl, hb2⟩; obtain ⟨hc2, hf2⟩ := bcell hb2; have hy2 := lt_of_below_alloc hb2; have ha2 := Nat.lt_trans ha1 hy2; have hz2 := Nat.lt_trans hz1 hy2) | (go_at_call 19; refine (sane_any _).mono ?_; rintro e w5 ⟨rfl, hb5⟩))
          go_ret
          refine ⟨rfl, ?_⟩
          (repeat (first | exact Below.refl _ _ | assumption | refine below_drewN ?_ _ | refine Below.drew ?_ | refine btrans ?_ (by assumption) | refine below_alloc ?_ _ | refine Below.setCell ?_ (by simp <;> omega) _ | refine Below.alloc ?_ (by simp <;> omega) _ | refine Below.setCell ?_ (by simp) _ | refine Below.alloc ?_ (by simp) _))
      · generalize amE c (amA y m n / 12) (amA y m n % 12 + 1) d k = e2 at *
        generalize amY c (amA y m n / 12) (amA y m n % 12 + 1) d k = Y2 at *
        generalize amM c (amA y m n / 12) (amA y m n % 12 + 1) d k = M2 at *
        generalize amD c (amA y m n / 12) (amA y m n % 12 + 1) d k = D2 at *
        generalize amA y m n / 12 = Y1 at *
        generalize amA y m n % 12 + 1 = M1 at *
        have g1 : (e2 == 0) = false := by simpa using h2
        have g2 : (e2 != 0) = true := by simpa using h2
        clear a1 a2 a3 h1 h2 o1 o4
        have tok1 : True := trivial
        go_enter Try.func9, Try.ntmps9
        go_wp2_with (first | (go_at_call 29; have _t := tok1; refine (A1 _).mono ?_; rintro e w1 ⟨rfl, hb1⟩; clear tok1 _t; obtain ⟨hc1, hf1⟩ := bcell hb1; obtain ⟨ha1, hz1⟩ := lt_of_below_alloc2 hb1) | (go_at_call 29; refine (A2 _).mono ?_; rintro e w2 ⟨rfl, hb2⟩; obtain ⟨hc2, hf2⟩ := bcell hb2) | (go_at_call 19; refine (sane_any _).mono ?_; rintro e w5 ⟨rfl, hb5⟩))
        go_ret
        refine ⟨rfl, ?_⟩
        (repeat (first | exact Below.refl _ _ | assumption | refine below_drewN ?_ _ | refine Below.drew ?_ | refine btrans ?_ (by assumption) | refine below_alloc ?_ _ | refine Below.setCell ?_ (by simp <;> omega) _ | refine Below.alloc ?_ (by simp <;> omega) _ | refine Below.setCell ?_ (by simp) _ | refine Below.alloc ?_ (by simp) _))
    · have A2 := fun D w => AddMonths_any c (amA y m n / 12) (amA y m n % 12 + 1) D k w
      have hd' : 28 < d := by omega
      generalize min d (Cal.mlen c (amA y m n / 12) (amA y m n % 12 + 1)) = D1 at *
      have B2 := A2 D1
      clear A2
      generalize amA y m n / 12 = Y1 at *
      generalize amA y m n % 12 + 1 = M1 at *
      generalize amE c Y1 M1 D1 k = e2 at *
      generalize amY c Y1 M1 D1 k = Y2 at *
      generalize amM c Y1 M1 D1 k = M2 at *
      generalize amD c Y1 M1 D1 k = D2 at *
      clear a1 a2 a3 h1 o1 o4 hd
      cases hg : (e2 == 0)
      · have g2 : (e2 != 0) = true := by simpa using hg
        have tok1 : True := trivial
        go_enter Try.func9, Try.ntmps9
        go_wp2_with (first | (go_at_call 29; have _t := tok1; refine (A1 _).mono ?_; rintro e w1 ⟨rfl, hb1⟩; clear tok1 _t; obtain ⟨hc1, hf1⟩ := bcell hb1; obtain ⟨ha1, hz1⟩ := lt_of_below_alloc2 hb1) | (go_at_call 29; refine (B2 _).mono ?_; rintro e w2 ⟨rfl, hb2⟩; obtain ⟨hc2, hf2⟩ := bcell hb2; have hy2 := lt_of_below_alloc hb2; have ha2 := Nat.lt_trans ha1 hy2; have hz2 := Nat.lt_trans hz1 hy2) | (go_at_call 19; refine (sane_any _).mono ?_; rintro e w5 ⟨rfl, hb5⟩))
        go_ret
        refine ⟨rfl, ?_⟩
        (repeat (first | exact Below.refl _ _ | assumption | refine below_drewN ?_ _ | refine Below.drew ?_ | refine btrans ?_ (by assumption) | refine below_alloc ?_ _ | refine Below.setCell ?_ (by simp <;> omega) _ | refine Below.alloc ?_ (by simp <;> omega) _ | refine Below.setCell ?_ (by simp) _ | refine Below.alloc ?_ (by simp) _))
      · obtain rfl : e2 = 0 := by simpa using hg
        clear hg
        have tok1 : True := trivial
        go_enter Try.func9, Try.ntmps9
        go_wp2_with (first | (go_at_call 29; have _t := tok1; refine (A1 _).mono ?_; rintro e w1 ⟨rfl, hb1⟩; clear tok1 _t; obtain ⟨hc1, hf1⟩ := bcell hb1; obtain ⟨ha1, hz1⟩ := lt_of_below_alloc2 hb1) | (go_at_call 29; refine (B2 _).mono ?_; rintro e w2 ⟨rfl, hb2⟩; obtain ⟨hc2, hf2⟩ := bcell hb2; have hy2 := lt_of_below_alloc hb2; have ha2 := Nat.lt_trans ha1 hy2; have hz2 := Nat.lt_trans hz1 hy2) | (go_at_call 19; refine (sane_any _).mono ?_; rintro e w5 ⟨rfl, hb5⟩))
        go_ret
        refine ⟨rfl, ?_⟩
        (repeat (first | exact Below.refl _ _ | assumption | refine below_drewN ?_ _ | refine Below.drew ?_ | refine btrans ?_ (by assumption) | refine below_alloc ?_ _ | refine Below.setCell ?_ (by simp <;> omega) _ | refine Below.alloc ?_ (by simp <;> omega) _ | refine Below.setCell ?_ (by simp) _ | refine Below.alloc ?_ (by simp) _))
  · obtain ⟨a1, a2, a3⟩ := am_no h1
    rw [a1, a2, a3] at A1
    have A2 := fun w => AddMonths_any c 0 0 0 k w
    generalize amE c y m d n = e1 at *
    have g1 : (e1 == 0) = false := by simpa using h1
    have g2 : (e1 != 0) = true := by simpa using h1
    clear a1 a2 a3 h1
    have tok1 : True := trivial
    go_enter Try.func9, Try.ntmps9
    go_wp2_with (first | (go_at_call 29; have _t := tok1; refine (A1 _).mono ?_; rintro e w1 ⟨rfl, hb1⟩; clear tok1 _t; obtain ⟨hc1, hf1⟩ := bcell hb1; obtain ⟨ha1, hz1⟩ := lt_of_below_alloc2 hb1) | (go_at_call 29; refine (A2 _).mono ?_; rintro e w2 ⟨rfl, hb2⟩; obtain ⟨hc2, hf2⟩ := bcell hb2) | (go_at_call 19; refine (sane_any _).mono ?_; rintro e w5 ⟨rfl, hb5⟩))
    go_ret
    refine ⟨rfl, ?_⟩
    (repeat (first | exact Below.refl _ _ | assumption | refine below_drewN ?_ _ | refine Below.drew ?_ | refine btrans ?_ (by assumption) | refine below_alloc ?_ _ | refine Below.setCell ?_ (by simp <;> omega) _ | refine Below.alloc ?_ (by simp <;> omega) _ | refine Below.setCell ?_ (by simp) _ | refine Below.alloc ?_ (by simp) _))

set_option maxRecDepth 100000 in
theorem calendarSums_lifted (os : Os) (started : os.Started) (H : Type) (enc : TypeId × Value → H) :
    ReturnsInHanded {} Try.checked os 9 .any (Rows.calendarSumsSpec.pre6 enc Try.prog Try.f9 Rows.calendarSumsRow.domain false) (Rows.calendarSumsSpec.post enc Try.prog Try.f9 false true false false) := by
  refine returnsInHanded_of_change (C := Try.checked) Try.own started (by kernel_rfl) Try.func9
    (ChangeSpec.witness6 (enc := enc) (C := Try.checked) false ⟨#[], #[.int .i64 0, .agg #[.int .i64 0, .int .i64 0, .int .i64 0], .agg #[.int .i64 0, .int .i64 0]], []⟩ 8 (by kernel_rfl) (by kernel_rfl) (by kernel_rfl) (by kernel_rfl)) ?_
  intro W base args ds gs before hval0 hW _ _
  have hval : ∀ (j : Nat) t v, Try.f9.params[j]? = some t → args[j]? = some v → Value.okWide Try.prog W .any base t v := hval0
  have hW' := hW
  have hlt : ∀ p ∈ before, p.block < W.heap.size := fun p hp => hW.lt p hp
  obtain ⟨p, q, hA0, hV, rfl, hfz, hnd⟩ := hW
  have hA : DataW.TrodAll enc Try.prog W 0 (fun _ => true) true Try.f9.params.toList args.toList ds p := hA0
  have hAk := hA
  rw [Try.params9] at hA hval
  obtain ⟨v0, v1, v2, d0, d1, d2, p0, p1, p2, rfl, rfl, rfl, h0, h1, h2⟩ := trodAll_three hA
  obtain ⟨rfl, rfl⟩ := trodVars_none hV
  obtain ⟨c, rfl, rfl, rfl, wfc⟩ := open_int Try.underlying3 (hval 0 3 v0 rfl rfl) h0
  obtain ⟨xc0, xc1, xc2, xy0, xy1, xy2, xn, rfl, rfl, rfl, xh0, xh1, xh2⟩ := open_agg3 Try.underlying23 (by kernel_rfl) (by kernel_rfl) (hval 1 23 v1 rfl rfl) h1
  obtain ⟨xy, xe0, rfl, xw0⟩ := DataW.trod_int Try.underlying3 xh0
  obtain ⟨xm, xe1, rfl, xw1⟩ := DataW.trod_int Try.underlying3 xh1
  obtain ⟨xd, xe2, rfl, xw2⟩ := DataW.trod_int Try.underlying3 xh2
  simp at xe0 xe1 xe2
  subst xe0 xe1 xe2
  obtain ⟨n0, n1, rfl, rfl, rfl, nw0, nw1⟩ := open_int2 (hval 2 41 v2 rfl rfl) h2
  clear hA0 hval0
  refine (sums_walk c xy xm xd n0 n1 W).mono fun e W' ⟨he, hw⟩ => ?_
  subst he
  exact ⟨_, rfl, post_of_below (pv := []) hW' (fun _ _ _ => trodAll_mk1 (shut_bool Try.underlying4 _))
    (fun sp hsp => trodAll_kept Try.laidOut (by kernel_rfl) hAk (fun p hp => hw.same (hlt p (by simp at hp))) (fun p hp => by simp at hp)) (fun _ _ => rfl) rfl hw (ok_one (by kernel_rfl) rfl (okWide_bool_mk Try.underlying4 _))⟩

theorem calendarSums_holds : Rows.CalendarSumsSaid :=
  OpenClaim.holds_of_wide 9 Try.f9 rfl rfl rfl rfl rfl rfl rfl ⟨rfl, rfl, rfl, rfl, rfl⟩ rfl rfl rfl rfl rfl (by kernel_rfl) Try.func9 (by kernel_rfl)
    (of_decide_eq_true (by kernel_rfl)) (by unfold Func.isWrapper; first | (rw [if_pos (by decide +kernel)]; kernel_rfl) | (rw [if_neg (by decide +kernel)]; exact ⟨rfl, rfl⟩))
    (fun os started H enc _ => calendarSums_lifted os started H enc)
#print axioms calendarSums_holds

end Go.Proofs.Ytnjjkcnokkhlkaa
