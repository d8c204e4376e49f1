/- Keys grow with time, and equal keys mean the same period: for every input; no condition. -/
import Derived.Test.YtnjjkcnokkhlkaaCalN
import Derived.Test.YtnjjkcnokkhlkaaCalR
namespace Go.Proofs.Ytnjjkcnokkhlkaa
open Go.RowKit Go.ChangeShapes Go.WideShapes Go.ChangeAt Go.Joins

theorem fe_yes {c n f : Int} (h : fe c n f = 0) : kn c = true ∧ 1 ≤ f ∧ f ≤ 4 ∧ Cal.has c n = true := by
  rcases fe_cases c n f with ⟨_, he⟩ | ⟨_, _, he⟩ | ⟨_, _, _, _, he⟩ | ⟨hk, hf1, hf2, hh, _⟩
  · omega
  · omega
  · omega
  · exact ⟨hk, hf1, hf2, hh⟩

theorem date_mono {c n k : Int} (h1 : Cal.has c n = true) (h2 : Cal.has c k = true) (hle : n ≤ k) : Cal.dY c n < Cal.dY c k ∨ (Cal.dY c n = Cal.dY c k ∧ Cal.dM c n ≤ Cal.dM c k) := by
  obtain ⟨v1, e1⟩ := Cal.date_spec c n ((Cal.has_iff c n).1 h1)
  obtain ⟨v2, e2⟩ := Cal.date_spec c k ((Cal.has_iff c k).1 h2)
  generalize Cal.dY c n = Y1 at *
  generalize Cal.dM c n = M1 at *
  generalize Cal.dD c n = D1 at *
  generalize Cal.dY c k = Y2 at *
  generalize Cal.dM c k = M2 at *
  generalize Cal.dD c k = D2 at *
  obtain ⟨_, _, _, _, m1, m2, d1, d2⟩ := v1
  obtain ⟨_, _, _, _, k1, k2, g1, g2⟩ := v2
  unfold Cal.num at e1 e2
  have s1 := Cal.cum_succ c Y1 M1 m1 m2
  have s2 := Cal.cum_succ c Y2 M2 k1 k2
  have b1 := Cal.cum_bd c Y1 M1 m1 (by omega)
  have b2 := Cal.cum_mono c Y2 (M2 + 1) 13 (by omega) (by omega) (by omega)
  rw [Cal.cum_year] at b2
  have f2 := Cal.first_succ c Y2
  by_cases h : Y1 < Y2
  · exact .inl h
  by_cases h' : Y2 < Y1
  · have := Cal.first_mono c (Y2 + 1) Y1 (by omega); omega
  · obtain rfl : Y1 = Y2 := by omega
    refine .inr ⟨rfl, ?_⟩
    by_cases hm : M2 < M1
    · have := Cal.cum_mono c Y1 (M2 + 1) M1 (by omega) (by omega) (by omega); omega
    · omega

theorem kv_mono {c f n k : Int} (h1 : fe c n f = 0) (h2 : fe c k f = 0) (hle : n ≤ k) : kv c n f ≤ kv c k f := by
  obtain ⟨_, f1, f4, hn⟩ := fe_yes h1
  obtain ⟨_, _, _, hk⟩ := fe_yes h2
  have a := date_bd hn
  have b := date_bd hk
  have m := date_mono hn hk hle
  unfold kv seas
  rw [h1, h2]
  simp only [ne_eq, not_true_eq_false, if_false]
  split
  · omega
  · split
    · omega
    · split
      · omega
      · omega
theorem kv_eq {c f n k : Int} (h1 : fe c n f = 0) (h2 : fe c k f = 0) (he : kv c n f = kv c k f) : fv c n f = fv c k f := by
  obtain ⟨_, f1, f4, hn⟩ := fe_yes h1
  obtain ⟨_, _, _, hk⟩ := fe_yes h2
  have a := date_bd hn
  have b := date_bd hk
  unfold kv seas at he
  unfold fv seas
  rw [h1, h2] at *
  simp only [ne_eq, not_true_eq_false, if_false] at he ⊢
  split
  · next h => rw [if_pos h, if_pos h] at he; exact he
  · next h =>
    rw [if_neg h, if_neg h] at he
    split
    · next g => rw [if_pos g, if_pos g] at he; omega
    · next g =>
      rw [if_neg g, if_neg g] at he
      split
      · next i => rw [if_pos i, if_pos i] at he; omega
      · next i => rw [if_neg i, if_neg i] at he; subst he; rfl

theorem kv_ways {c f n k : Int} (h1 : fe c n f = 0) (h2 : fe c k f = 0) : (n < k ∧ kv c n f < kv c k f) ∨ (n < k ∧ kv c n f = kv c k f ∧ fv c n f = fv c k f) ∨ n = k ∨ (k < n ∧ kv c k f < kv c n f) ∨ (k < n ∧ kv c k f = kv c n f ∧ fv c k f = fv c n f) := by
  by_cases h : n < k
  · have m := kv_mono h1 h2 (by omega)
    by_cases e : kv c n f = kv c k f
    · exact .inr (.inl ⟨h, e, kv_eq h1 h2 e⟩)
    · exact .inl ⟨h, by omega⟩
  by_cases h' : k < n
  · have m := kv_mono h2 h1 (by omega)
    by_cases e : kv c k f = kv c n f
    · exact .inr (.inr (.inr (.inr ⟨h', e, kv_eq h2 h1 e⟩)))
    · exact .inr (.inr (.inr (.inl ⟨h', by omega⟩)))
  · exact .inr (.inr (.inl (by omega)))

set_option maxRecDepth 100000 in
set_option maxHeartbeats 1600000 in
theorem keys_walk (c f n k : Int) (w : World) :
    Calls Try.prog 13 #[.int .i64 c, .int .i64 f, .agg #[.int .i64 n, .int .i64 k]] w fun e w' => e = .returned (.bool true) ∧ Below w.heap.size w w' := by
  have K1 := fun w => Key_any c n f w
  have K2 := fun w => Key_any c k f w
  have F1 := fun w => Field_any c n f w
  have F2 := fun w => Field_any c k f w
  have tok1 : True := trivial
  have tok2 : True := trivial
  by_cases h1 : fe c n f = 0
  · by_cases h2 : fe c k f = 0
    · rw [h1] at K1 F1
      rw [h2] at K2 F2
      rcases kv_ways h1 h2 with ⟨hn, hk⟩ | ⟨hn, hk, hf⟩ | hn | ⟨hn, hk⟩ | ⟨hn, hk, hf⟩
      · clear h1 h2
        generalize kv c n f = a at *
        generalize kv c k f = b at *
        generalize fv c n f = x at *
        generalize fv c k f = y at *
        go_enter Try.func13, Try.ntmps13
        go_wp2_with (first | (go_at_call 41; have _t := tok1; refine (K1 _).mono ?_; rintro e w1 ⟨rfl, hb1⟩; clear tok1 _t; obtain ⟨hc1, hf1⟩ := bcell hb1; have hz1 := lt_of_below_alloc hb1) | (go_at_call 41; refine (K2 _).mono ?_; rintro e w2 ⟨rfl, hb2⟩; obtain ⟨hc2, hf2⟩ := bcell hb2; have hz2 := Nat.lt_of_lt_of_le hz1 hb2.size) | (go_at_call 39; have _t := tok2; refine (F1 _).mono ?_; rintro e w3 ⟨rfl, hb3⟩; clear tok2 _t; obtain ⟨hc3, hf3⟩ := bcell hb3; have hz3 := Nat.lt_of_lt_of_le hz5 hb3.size) | (go_at_call 39; refine (F2 _).mono ?_; rintro e w4 ⟨rfl, hb4⟩) | (go_at_call 19; refine (sane_any _).mono ?_; rintro e w5 ⟨rfl, hb5⟩; obtain ⟨hc5, hf5⟩ := bcell hb5; have hz5 := Nat.lt_of_lt_of_le hz2 hb5.size))
        go_ret
        refine ⟨rfl, ?_⟩
        (repeat (first | exact Below.refl _ _ | assumption | refine below_drewN ?_ _ | refine Below.drew ?_ | refine btrans ?_ (by assumption) | refine below_alloc ?_ _ | refine Below.setCell ?_ (by simp <;> omega) _ | refine Below.alloc ?_ (by simp <;> omega) _ | refine Below.setCell ?_ (by simp) _ | refine Below.alloc ?_ (by simp) _))
      · rw [hk] at K1
        rw [hf] at F1
        clear h1 h2 hk hf
        generalize kv c k f = b at *
        generalize fv c k f = y at *
        go_enter Try.func13, Try.ntmps13
        go_wp2_with (first | (go_at_call 41; have _t := tok1; refine (K1 _).mono ?_; rintro e w1 ⟨rfl, hb1⟩; clear tok1 _t; obtain ⟨hc1, hf1⟩ := bcell hb1; have hz1 := lt_of_below_alloc hb1) | (go_at_call 41; refine (K2 _).mono ?_; rintro e w2 ⟨rfl, hb2⟩; obtain ⟨hc2, hf2⟩ := bcell hb2; have hz2 := Nat.lt_of_lt_of_le hz1 hb2.size) | (go_at_call 39; have _t := tok2; refine (F1 _).mono ?_; rintro e w3 ⟨rfl, hb3⟩; clear tok2 _t; obtain ⟨hc3, hf3⟩ := bcell hb3; have hz3 := Nat.lt_of_lt_of_le hz5 hb3.size) | (go_at_call 39; refine (F2 _).mono ?_; rintro e w4 ⟨rfl, hb4⟩) | (go_at_call 19; refine (sane_any _).mono ?_; rintro e w5 ⟨rfl, hb5⟩; obtain ⟨hc5, hf5⟩ := bcell hb5; have hz5 := Nat.lt_of_lt_of_le hz2 hb5.size))
        go_ret
        refine ⟨rfl, ?_⟩
        (repeat (first | exact Below.refl _ _ | assumption | refine below_drewN ?_ _ | refine Below.drew ?_ | refine btrans ?_ (by assumption) | refine below_alloc ?_ _ | refine Below.setCell ?_ (by simp <;> omega) _ | refine Below.alloc ?_ (by simp <;> omega) _ | refine Below.setCell ?_ (by simp) _ | refine Below.alloc ?_ (by simp) _))
      · subst hn
        clear h1 h2
        generalize kv c n f = a at *
        generalize fv c n f = x at *
        go_enter Try.func13, Try.ntmps13
        go_wp2_with (first | (go_at_call 41; have _t := tok1; refine (K1 _).mono ?_; rintro e w1 ⟨rfl, hb1⟩; clear tok1 _t; obtain ⟨hc1, hf1⟩ := bcell hb1; have hz1 := lt_of_below_alloc hb1) | (go_at_call 41; refine (K2 _).mono ?_; rintro e w2 ⟨rfl, hb2⟩; obtain ⟨hc2, hf2⟩ := bcell hb2; have hz2 := Nat.lt_of_lt_of_le hz1 hb2.size) | (go_at_call 39; have _t := tok2; refine (F1 _).mono ?_; rintro e w3 ⟨rfl, hb3⟩; clear tok2 _t; obtain ⟨hc3, hf3⟩ := bcell hb3; have hz3 := Nat.lt_of_lt_of_le hz5 hb3.size) | (go_at_call 39; refine (F2 _).mono ?_; rintro e w4 ⟨rfl, hb4⟩) | (go_at_call 19; refine (sane_any _).mono ?_; rintro e w5 ⟨rfl, hb5⟩; obtain ⟨hc5, hf5⟩ := bcell hb5; have hz5 := Nat.lt_of_lt_of_le hz2 hb5.size))
        go_ret
        refine ⟨rfl, ?_⟩
        (repeat (first | exact Below.refl _ _ | assumption | refine below_drewN ?_ _ | refine Below.drew ?_ | refine btrans ?_ (by assumption) | refine below_alloc ?_ _ | refine Below.setCell ?_ (by simp <;> omega) _ | refine Below.alloc ?_ (by simp <;> omega) _ | refine Below.setCell ?_ (by simp) _ | refine Below.alloc ?_ (by simp) _))
      · clear h1 h2
        generalize kv c n f = a at *
        generalize kv c k f = b at *
        generalize fv c n f = x at *
        generalize fv c k f = y at *
        go_enter Try.func13, Try.ntmps13
        go_wp2_with (first | (go_at_call 41; have _t := tok1; refine (K1 _).mono ?_; rintro e w1 ⟨rfl, hb1⟩; clear tok1 _t; obtain ⟨hc1, hf1⟩ := bcell hb1; have hz1 := lt_of_below_alloc hb1) | (go_at_call 41; refine (K2 _).mono ?_; rintro e w2 ⟨rfl, hb2⟩; obtain ⟨hc2, hf2⟩ := bcell hb2; have hz2 := Nat.lt_of_lt_of_le hz1 hb2.size) | (go_at_call 39; have _t := tok2; refine (F1 _).mono ?_; rintro e w3 ⟨rfl, hb3⟩; clear tok2 _t; obtain ⟨hc3, hf3⟩ := bcell hb3; have hz3 := Nat.lt_of_lt_of_le hz5 hb3.size) | (go_at_call 39; refine (F2 _).mono ?_; rintro e w4 ⟨rfl, hb4⟩) | (go_at_call 19; refine (sane_any _).mono ?_; rintro e w5 ⟨rfl, hb5⟩; obtain ⟨hc5, hf5⟩ := bcell hb5; have hz5 := Nat.lt_of_lt_of_le hz2 hb5.size))
        go_ret
        refine ⟨rfl, ?_⟩
        (repeat (first | exact Below.refl _ _ | assumption | refine below_drewN ?_ _ | refine Below.drew ?_ | refine btrans ?_ (by assumption) | refine below_alloc ?_ _ | refine Below.setCell ?_ (by simp <;> omega) _ | refine Below.alloc ?_ (by simp <;> omega) _ | refine Below.setCell ?_ (by simp) _ | refine Below.alloc ?_ (by simp) _))
      · rw [hk] at K2
        rw [hf] at F2
        clear h1 h2 hk hf
        generalize kv c n f = b at *
        generalize fv c n f = y at *
        go_enter Try.func13, Try.ntmps13
        go_wp2_with (first | (go_at_call 41; have _t := tok1; refine (K1 _).mono ?_; rintro e w1 ⟨rfl, hb1⟩; clear tok1 _t; obtain ⟨hc1, hf1⟩ := bcell hb1; have hz1 := lt_of_below_alloc hb1) | (go_at_call 41; refine (K2 _).mono ?_; rintro e w2 ⟨rfl, hb2⟩; obtain ⟨hc2, hf2⟩ := bcell hb2; have hz2 := Nat.lt_of_lt_of_le hz1 hb2.size) | (go_at_call 39; have _t := tok2; refine (F1 _).mono ?_; rintro e w3 ⟨rfl, hb3⟩; clear tok2 _t; obtain ⟨hc3, hf3⟩ := bcell hb3; have hz3 := Nat.lt_of_lt_of_le hz5 hb3.size) | (go_at_call 39; refine (F2 _).mono ?_; rintro e w4 ⟨rfl, hb4⟩) | (go_at_call 19; refine (sane_any _).mono ?_; rintro e w5 ⟨rfl, hb5⟩; obtain ⟨hc5, hf5⟩ := bcell hb5; have hz5 := Nat.lt_of_lt_of_le hz2 hb5.size))
        go_ret
        refine ⟨rfl, ?_⟩
        (repeat (first | exact Below.refl _ _ | assumption | refine below_drewN ?_ _ | refine Below.drew ?_ | refine btrans ?_ (by assumption) | refine below_alloc ?_ _ | refine Below.setCell ?_ (by simp <;> omega) _ | refine Below.alloc ?_ (by simp <;> omega) _ | refine Below.setCell ?_ (by simp) _ | refine Below.alloc ?_ (by simp) _))
    · rw [h1] at K1
      generalize kv c n f = a at *
      generalize kv c k f = b at *
      generalize fe c k f = e2 at *
      have g1 : (e2 == 0) = false := by simpa using h2
      have g2 : (e2 != 0) = true := by simpa using h2
      clear h1 h2 F1 F2
      go_enter Try.func13, Try.ntmps13
      go_wp2_with (first | (go_at_call 41; have _t := tok1; refine (K1 _).mono ?_; rintro e w1 ⟨rfl, hb1⟩; clear tok1 _t; obtain ⟨hc1, hf1⟩ := bcell hb1; have hz1 := lt_of_below_alloc hb1) | (go_at_call 41; refine (K2 _).mono ?_; rintro e w2 ⟨rfl, hb2⟩; obtain ⟨hc2, hf2⟩ := bcell hb2; have hz2 := Nat.lt_of_lt_of_le hz1 hb2.size) | (go_at_call 19; refine (sane_any _).mono ?_; rintro e w5 ⟨rfl, hb5⟩))
      go_ret
      refine ⟨rfl, ?_⟩
      (repeat (first | exact Below.refl _ _ | assumption | refine below_drewN ?_ _ | refine Below.drew ?_ | refine btrans ?_ (by assumption) | refine below_alloc ?_ _ | refine Below.setCell ?_ (by simp <;> omega) _ | refine Below.alloc ?_ (by simp <;> omega) _ | refine Below.setCell ?_ (by simp) _ | refine Below.alloc ?_ (by simp) _))
  · generalize kv c n f = a at *
    generalize kv c k f = b at *
    generalize fe c n f = e1 at *
    generalize fe c k f = e2 at *
    have g1 : (e1 == 0) = false := by simpa using h1
    have g2 : (e1 != 0) = true := by simpa using h1
    clear h1 F1 F2
    go_enter Try.func13, Try.ntmps13
    go_wp2_with (first | (go_at_call 41; have _t := tok1; refine (K1 _).mono ?_; rintro e w1 ⟨rfl, hb1⟩; clear tok1 _t; obtain ⟨hc1, hf1⟩ := bcell hb1; have hz1 := lt_of_below_alloc hb1) | (go_at_call 41; refine (K2 _).mono ?_; rintro e w2 ⟨rfl, hb2⟩; obtain ⟨hc2, hf2⟩ := bcell hb2; have hz2 := Nat.lt_of_lt_of_le hz1 hb2.size) | (go_at_call 19; refine (sane_any _).mono ?_; rintro e w5 ⟨rfl, hb5⟩))
    go_ret
    refine ⟨rfl, ?_⟩
    (repeat (first | exact Below.refl _ _ | assumption | refine below_drewN ?_ _ | refine Below.drew ?_ | refine btrans ?_ (by assumption) | refine below_alloc ?_ _ | refine Below.setCell ?_ (by simp <;> omega) _ | refine Below.alloc ?_ (by simp <;> omega) _ | refine Below.setCell ?_ (by simp) _ | refine Below.alloc ?_ (by simp) _))

set_option maxRecDepth 100000 in
theorem calendarKeys_lifted (os : Os) (started : os.Started) (H : Type) (enc : TypeId × Value → H) :
    ReturnsInHanded {} Try.checked os 13 .any (Rows.calendarKeysSpec.pre6 enc Try.prog Try.f13 Rows.calendarKeysRow.domain false) (Rows.calendarKeysSpec.post enc Try.prog Try.f13 false true false false) := by
  refine returnsInHanded_of_change (C := Try.checked) Try.own started (by kernel_rfl) Try.func13
    (ChangeSpec.witness6 (enc := enc) (C := Try.checked) false ⟨#[], #[.int .i64 0, .int .i64 0, .agg #[.int .i64 0, .int .i64 0]], []⟩ 8 (by kernel_rfl) (by kernel_rfl) (by kernel_rfl) (by kernel_rfl)) ?_
  intro W base args ds gs before hval0 hW _ _
  have hval : ∀ (j : Nat) t v, Try.f13.params[j]? = some t → args[j]? = some v → Value.okWide Try.prog W .any base t v := hval0
  have hW' := hW
  have hlt : ∀ p ∈ before, p.block < W.heap.size := fun p hp => hW.lt p hp
  obtain ⟨p, q, hA0, hV, rfl, hfz, hnd⟩ := hW
  have hA : DataW.TrodAll enc Try.prog W 0 (fun _ => true) true Try.f13.params.toList args.toList ds p := hA0
  have hAk := hA
  rw [Try.params13] at hA hval
  obtain ⟨v0, v1, v2, d0, d1, d2, p0, p1, p2, rfl, rfl, rfl, h0, h1, h2⟩ := trodAll_three hA
  obtain ⟨rfl, rfl⟩ := trodVars_none hV
  obtain ⟨c, rfl, rfl, rfl, wfc⟩ := open_int Try.underlying3 (hval 0 3 v0 rfl rfl) h0
  obtain ⟨f, rfl, rfl, rfl, wff⟩ := open_int Try.underlying3 (hval 1 3 v1 rfl rfl) h1
  obtain ⟨n0, n1, rfl, rfl, rfl, nw0, nw1⟩ := open_int2 (hval 2 41 v2 rfl rfl) h2
  clear hA0 hval0
  refine (keys_walk c f n0 n1 W).mono fun e W' ⟨he, hw⟩ => ?_
  subst he
  exact ⟨_, rfl, post_of_below (pv := []) hW' (fun _ _ _ => trodAll_mk1 (shut_bool Try.underlying4 _))
    (fun sp hsp => trodAll_kept Try.laidOut (by kernel_rfl) hAk (fun p hp => hw.same (hlt p (by simp at hp))) (fun p hp => by simp at hp)) (fun _ _ => rfl) rfl hw (ok_one (by kernel_rfl) rfl (okWide_bool_mk Try.underlying4 _))⟩

theorem calendarKeys_holds : Rows.CalendarKeysSaid :=
  OpenClaim.holds_of_wide 13 Try.f13 rfl rfl rfl rfl rfl rfl rfl ⟨rfl, rfl, rfl, rfl, rfl⟩ rfl rfl rfl rfl rfl (by kernel_rfl) Try.func13 (by kernel_rfl)
    (of_decide_eq_true (by kernel_rfl)) (by unfold Func.isWrapper; first | (rw [if_pos (by decide +kernel)]; kernel_rfl) | (rw [if_neg (by decide +kernel)]; exact ⟨rfl, rfl⟩))
    (fun os started H enc _ => calendarKeys_lifted os started H enc)
#print axioms calendarKeys_holds

end Go.Proofs.Ytnjjkcnokkhlkaa
