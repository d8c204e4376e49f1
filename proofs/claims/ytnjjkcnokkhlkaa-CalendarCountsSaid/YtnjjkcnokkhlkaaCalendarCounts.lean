/- The days are numbered without gaps: for every input; no condition. -/
import Derived.Test.YtnjjkcnokkhlkaaCalJ
namespace Go.Proofs.Ytnjjkcnokkhlkaa
open Go.RowKit Go.ChangeShapes Go.WideShapes Go.ChangeAt Go.Joins

/-- What is known of a day number that has a date. -/
theorem count_facts {c n : Int} (hk : kn c = true) (hh : Cal.has c n = true) :
    numv c (Cal.dY c n) (Cal.dM c n) (Cal.dD c n) = n ∧ dck c (Cal.dY c n) (Cal.dM c n) (Cal.dD c n) = 0 ∧ numv c (Cal.dY c n) 1 1 = Cal.first c (Cal.dY c n) ∧ dck c (Cal.dY c n) 1 1 = 0
    ∧ lenv c (Cal.dY c n) = Cal.ylen c (Cal.dY c n) ∧ chk c (Cal.dY c n) 1 = 0 ∧ Cal.first c (Cal.dY c n) ≤ n ∧ n < Cal.first c (Cal.dY c n) + Cal.ylen c (Cal.dY c n)
    ∧ -9999 ≤ Cal.dY c n ∧ Cal.dY c n ≤ 9999 ∧ -8000000 ≤ n ∧ n ≤ 8000000 ∧ -8000000 ≤ Cal.first c (Cal.dY c n) ∧ Cal.first c (Cal.dY c n) ≤ 8000000 := by
  have hv := Cal.date_spec c n ((Cal.has_iff c n).1 hh)
  have v := (Cal.vld_iff _ _ _ _).2 hv.1
  have hd : dck c (Cal.dY c n) (Cal.dM c n) (Cal.dD c n) = 0 := by unfold dck; simp [hk, v]
  obtain ⟨c1, c2, y1, y2, m1, m2, d1, d2⟩ := hv.1
  have v1 : Cal.vld c (Cal.dY c n) 1 1 = true := (Cal.vld_iff _ _ _ _).2 ⟨c1, c2, y1, y2, by omega, by omega, by omega, by have := Cal.mlen_bd c (Cal.dY c n) 1; omega⟩
  have hd1 : dck c (Cal.dY c n) 1 1 = 0 := by unfold dck; simp [hk, v1]
  have hc : chk c (Cal.dY c n) 1 = 0 := by unfold chk; simp [hk, (okm_iff (Cal.dY c n) 1).2 ⟨y1, y2, by omega, by omega⟩]
  have hb := Cal.first_bd c (Cal.dY c n) (by omega) (by omega)
  obtain ⟨_, _, n1, n2⟩ := (Cal.has_iff c n).1 hh
  have f1 := Cal.first_bd c (-9999) (by omega) (by omega)
  have f2 := Cal.first_bd c 10000 (by omega) (by omega)
  have ys := Cal.yearOf_spec c n n1 n2
  have fs := Cal.first_succ c (Cal.dY c n)
  have ys' : Cal.first c (Cal.dY c n) ≤ n ∧ n < Cal.first c (Cal.dY c n + 1) := ⟨ys.2.2.1, ys.2.2.2⟩
  refine ⟨?_, hd, ?_, hd1, ?_, hc, ys'.1, by omega, y1, y2, by omega, by omega, by omega, by omega⟩
  · unfold numv; rw [if_pos hd]; exact hv.2
  · unfold numv Cal.num; rw [if_pos hd1, Cal.cum_one]; omega
  · unfold lenv; rw [if_pos hc]

/-- The next day. -/
theorem count_next {c n : Int} (h1 : Cal.has c n = true) (h2 : Cal.has c (n + 1) = true) :
    Cal.dY c n < Cal.dY c (n + 1) ∨ (Cal.dY c n = Cal.dY c (n + 1) ∧ Cal.dM c n < Cal.dM c (n + 1)) ∨ (Cal.dY c n = Cal.dY c (n + 1) ∧ Cal.dM c n = Cal.dM c (n + 1) ∧ Cal.dD c n < Cal.dD c (n + 1)) := by
  obtain ⟨v1, e1⟩ := Cal.date_spec c n ((Cal.has_iff c n).1 h1)
  obtain ⟨v2, e2⟩ := Cal.date_spec c (n + 1) ((Cal.has_iff c (n + 1)).1 h2)
  generalize Cal.dY c n = Y1 at *
  generalize Cal.dM c n = M1 at *
  generalize Cal.dD c n = D1 at *
  generalize Cal.dY c (n + 1) = Y2 at *
  generalize Cal.dM c (n + 1) = M2 at *
  generalize Cal.dD c (n + 1) = D2 at *
  obtain ⟨_, _, _, _, m1, m2, d1, d2⟩ := v1
  obtain ⟨_, _, _, _, k1, k2, g1, g2⟩ := v2
  unfold Cal.num at e1 e2
  have s2 := Cal.cum_succ c Y2 M2 k1 k2
  have b1 := Cal.cum_bd c Y1 M1 m1 (by omega)
  have b2 := Cal.cum_mono c Y2 (M2 + 1) 13 (by omega) (by omega) (by omega)
  rw [Cal.cum_year] at b2
  have f2 := Cal.first_succ c Y2
  by_cases h : Y1 < Y2
  · exact .inl h
  by_cases h' : Y2 < Y1
  · have := Cal.first_mono c (Y2 + 1) Y1 (by omega); omega
  · obtain rfl : Y1 = Y2 := by omega
    by_cases hm : M2 < M1
    · have := Cal.cum_mono c Y1 (M2 + 1) M1 (by omega) (by omega) (by omega); omega
    · by_cases hm' : M1 < M2
      · exact .inr (.inl ⟨rfl, hm'⟩)
      · obtain rfl : M1 = M2 := by omega
        exact .inr (.inr ⟨rfl, rfl, by omega⟩)

theorem count_last {c n : Int} (hk : kn c = true) (h1 : Cal.has c n = true) (h2 : Cal.has c (n + 1) = false) : Cal.dY c n = 9999 ∧ n + 1 = Cal.first c (Cal.dY c n) + Cal.ylen c (Cal.dY c n) := by
  obtain ⟨_, _, n1, n2⟩ := (Cal.has_iff c n).1 h1
  have h := has_not c (n + 1) hk h2
  have e : n + 1 = Cal.first c 10000 := by omega
  have f := Cal.first_succ c 9999
  have e2 : Cal.first c (9999 + 1) = Cal.first c 10000 := rfl
  have yp := Cal.ylen_pos c 9999
  have hy : Cal.dY c n = 9999 := Cal.yearOf_eq c n 9999 (by omega) (by omega) (by omega) (by omega)
  rw [hy]
  exact ⟨rfl, by omega⟩

theorem count_year {c y : Int} (hk : kn c = true) (h1 : -9999 ≤ y) (h2 : y < 9999) : numv c (y + 1) 1 1 = Cal.first c y + Cal.ylen c y ∧ dck c (y + 1) 1 1 = 0 := by
  have hkk := (kn_iff c).1 hk
  have v1 : Cal.vld c (y + 1) 1 1 = true := (Cal.vld_iff _ _ _ _).2 ⟨hkk.1, hkk.2, by omega, by omega, by omega, by omega, by omega, by have := Cal.mlen_bd c (y + 1) 1; omega⟩
  have hd1 : dck c (y + 1) 1 1 = 0 := by unfold dck; simp [hk, v1]
  have f := Cal.first_succ c y
  refine ⟨?_, hd1⟩
  unfold numv Cal.num; rw [if_pos hd1, Cal.cum_one]; omega
theorem count_over {c : Int} (hk : kn c = true) : numv c 10000 1 1 = 0 ∧ dck c 10000 1 1 = 21 := by
  have v1 : Cal.vld c 10000 1 1 = false := by
    rw [Bool.eq_false_iff]; intro h; rw [Cal.vld_iff] at h; obtain ⟨_, _, _, h, _⟩ := h; omega
  have hd1 : dck c 10000 1 1 = 21 := by unfold dck; simp [hk, v1]
  exact ⟨by unfold numv; rw [hd1]; rfl, hd1⟩

set_option maxRecDepth 100000 in
set_option maxHeartbeats 3200000 in
theorem counts_walk (c n : Int) (w : World) :
    Calls Try.prog 5 #[.int .i64 c, .int .i64 n] w fun e w' => e = .returned (.bool true) ∧ Below w.heap.size w w' := by
  have D1 := fun w => DateOf_any c n w
  have D2 := fun w => DateOf_any c (n + 1) w
  have tok1 : True := trivial
  have tok2 : True := trivial
  have tok3 : True := trivial
  by_cases he : dke c n = 0
  · have hk : kn c = true := by
      rcases dke_cases c n with ⟨_, h⟩ | ⟨_, _, h⟩ | ⟨h, _, _⟩
      · omega
      · omega
      · exact h
    have hh : Cal.has c n = true := by
      rcases dke_cases c n with ⟨_, h⟩ | ⟨_, _, h⟩ | ⟨_, h, _⟩
      · omega
      · omega
      · exact h
    obtain ⟨a1, a2, a3⟩ := dv_yes he
    rw [a1, a2, a3, he] at D1
    obtain ⟨f1, f2, f3, f4, f5, f6, b1, b2, y1, y2, n1, n2, g1, g2⟩ := count_facts hk hh
    have N1 := fun w => Number_any c (Cal.dY c n) (Cal.dM c n) (Cal.dD c n) w
    have N2 := fun w => Number_any c (Cal.dY c n) 1 1 w
    have L := fun w => Length_any c (Cal.dY c n) w
    have yl := Cal.ylen_pos c (Cal.dY c n)
    rw [f1, f2] at N1
    rw [f3, f4] at N2
    rw [f5, f6] at L
    by_cases he2 : dke c (n + 1) = 0
    · have hh2 : Cal.has c (n + 1) = true := by
        rcases dke_cases c (n + 1) with ⟨_, h⟩ | ⟨_, _, h⟩ | ⟨_, h, _⟩
        · omega
        · omega
        · exact h
      obtain ⟨a1', a2', a3'⟩ := dv_yes he2
      rw [a1', a2', a3', he2] at D2
      have hy2 := (count_facts hk hh2).2.2.2.2.2.2.2.2.2.1
      have hnx := count_next hh hh2
      have N3 := fun w => Number_any c (Cal.dY c n + 1) 1 1 w
      have Z1 := fun h => count_year (y := Cal.dY c n) hk y1 h
      have Z2 := count_over hk
      clear f1 f2 f3 f4 f5 f6 a1 a2 a3 a1' a2' a3' hh hh2 he he2 hk
      generalize Cal.first c (Cal.dY c n) = F at *
      generalize Cal.ylen c (Cal.dY c n) = len at *
      generalize Cal.dY c n = Y1 at *
      generalize Cal.dM c n = M1 at *
      generalize Cal.dD c n = E1 at *
      generalize Cal.dY c (n + 1) = Y2 at *
      generalize Cal.dM c (n + 1) = M2 at *
      generalize Cal.dD c (n + 1) = E2 at *
      by_cases hlast : Y1 < 9999
      · obtain ⟨z1, z2⟩ := Z1 hlast
        rw [z1, z2] at N3
        clear z1 z2 Z1 Z2
        rcases hnx with h | ⟨h, h'⟩ | ⟨h, h', h''⟩
        · go_enter Try.func5, Try.ntmps5
          go_wp2_with (first | (go_at_call 17; have _t := tok1; refine (D1 _).mono ?_; rintro e w1 ⟨rfl, hb1⟩; clear tok1 _t) | (go_at_call 15; have _t := tok2; refine (N1 _).mono ?_; rintro e w2 ⟨rfl, hb2⟩; clear tok2 _t; obtain ⟨hc2, hf2⟩ := bcell hb2; have hz2 := lt_of_below_alloc hb2) | (go_at_call 15; have _t := tok3; refine (N2 _).mono ?_; rintro e w3 ⟨rfl, hb3⟩; clear tok3 _t; obtain ⟨hc3, hf3⟩ := bcell hb3; have hz3 := Nat.lt_of_lt_of_le hz2 hb3.size) | (go_at_call 20; refine (L _).mono ?_; rintro e w' ⟨rfl, rfl⟩) | (go_at_call 19; refine (sane_any _).mono ?_; rintro e w5 ⟨rfl, hb5⟩; obtain ⟨hc5, hf5⟩ := bcell hb5; have hz5 := Nat.lt_of_lt_of_le hz3 hb5.size) | (go_at_call 17; refine (D2 _).mono ?_; rintro e w6 ⟨rfl, hb6⟩; obtain ⟨hc6, hf6⟩ := bcell hb6; have hz6 := Nat.lt_of_lt_of_le hz5 hb6.size) | (go_at_call 15; refine (N3 _).mono ?_; rintro e w7 ⟨rfl, hb7⟩; obtain ⟨hc7, hf7⟩ := bcell hb7; have hy7 := lt_of_below_alloc hb7; have hz7 := Nat.lt_trans hz6 hy7))
          go_ret
          refine ⟨rfl, ?_⟩
          (repeat (first | exact Below.refl _ _ | assumption | refine below_drewN ?_ _ | refine Below.drew ?_ | refine btrans ?_ (by assumption) | refine below_alloc ?_ _ | refine Below.setCell ?_ (by simp <;> omega) _ | refine Below.alloc ?_ (by simp <;> omega) _ | refine Below.setCell ?_ (by simp) _ | refine Below.alloc ?_ (by simp) _))
        · subst h
          go_enter Try.func5, Try.ntmps5
          go_wp2_with (first | (go_at_call 17; have _t := tok1; refine (D1 _).mono ?_; rintro e w1 ⟨rfl, hb1⟩; clear tok1 _t) | (go_at_call 15; have _t := tok2; refine (N1 _).mono ?_; rintro e w2 ⟨rfl, hb2⟩; clear tok2 _t; obtain ⟨hc2, hf2⟩ := bcell hb2; have hz2 := lt_of_below_alloc hb2) | (go_at_call 15; have _t := tok3; refine (N2 _).mono ?_; rintro e w3 ⟨rfl, hb3⟩; clear tok3 _t; obtain ⟨hc3, hf3⟩ := bcell hb3; have hz3 := Nat.lt_of_lt_of_le hz2 hb3.size) | (go_at_call 20; refine (L _).mono ?_; rintro e w' ⟨rfl, rfl⟩) | (go_at_call 19; refine (sane_any _).mono ?_; rintro e w5 ⟨rfl, hb5⟩; obtain ⟨hc5, hf5⟩ := bcell hb5; have hz5 := Nat.lt_of_lt_of_le hz3 hb5.size) | (go_at_call 17; refine (D2 _).mono ?_; rintro e w6 ⟨rfl, hb6⟩; obtain ⟨hc6, hf6⟩ := bcell hb6; have hz6 := Nat.lt_of_lt_of_le hz5 hb6.size) | (go_at_call 15; refine (N3 _).mono ?_; rintro e w7 ⟨rfl, hb7⟩; obtain ⟨hc7, hf7⟩ := bcell hb7; have hy7 := lt_of_below_alloc hb7; have hz7 := Nat.lt_trans hz6 hy7))
          go_ret
          refine ⟨rfl, ?_⟩
          (repeat (first | exact Below.refl _ _ | assumption | refine below_drewN ?_ _ | refine Below.drew ?_ | refine btrans ?_ (by assumption) | refine below_alloc ?_ _ | refine Below.setCell ?_ (by simp <;> omega) _ | refine Below.alloc ?_ (by simp <;> omega) _ | refine Below.setCell ?_ (by simp) _ | refine Below.alloc ?_ (by simp) _))
        · subst h h'
          go_enter Try.func5, Try.ntmps5
          go_wp2_with (first | (go_at_call 17; have _t := tok1; refine (D1 _).mono ?_; rintro e w1 ⟨rfl, hb1⟩; clear tok1 _t) | (go_at_call 15; have _t := tok2; refine (N1 _).mono ?_; rintro e w2 ⟨rfl, hb2⟩; clear tok2 _t; obtain ⟨hc2, hf2⟩ := bcell hb2; have hz2 := lt_of_below_alloc hb2) | (go_at_call 15; have _t := tok3; refine (N2 _).mono ?_; rintro e w3 ⟨rfl, hb3⟩; clear tok3 _t; obtain ⟨hc3, hf3⟩ := bcell hb3; have hz3 := Nat.lt_of_lt_of_le hz2 hb3.size) | (go_at_call 20; refine (L _).mono ?_; rintro e w' ⟨rfl, rfl⟩) | (go_at_call 19; refine (sane_any _).mono ?_; rintro e w5 ⟨rfl, hb5⟩; obtain ⟨hc5, hf5⟩ := bcell hb5; have hz5 := Nat.lt_of_lt_of_le hz3 hb5.size) | (go_at_call 17; refine (D2 _).mono ?_; rintro e w6 ⟨rfl, hb6⟩; obtain ⟨hc6, hf6⟩ := bcell hb6; have hz6 := Nat.lt_of_lt_of_le hz5 hb6.size) | (go_at_call 15; refine (N3 _).mono ?_; rintro e w7 ⟨rfl, hb7⟩; obtain ⟨hc7, hf7⟩ := bcell hb7; have hy7 := lt_of_below_alloc hb7; have hz7 := Nat.lt_trans hz6 hy7))
          go_ret
          refine ⟨rfl, ?_⟩
          (repeat (first | exact Below.refl _ _ | assumption | refine below_drewN ?_ _ | refine Below.drew ?_ | refine btrans ?_ (by assumption) | refine below_alloc ?_ _ | refine Below.setCell ?_ (by simp <;> omega) _ | refine Below.alloc ?_ (by simp <;> omega) _ | refine Below.setCell ?_ (by simp) _ | refine Below.alloc ?_ (by simp) _))
      · obtain rfl : Y1 = 9999 := by omega
        have e10 : (9999 : Int) + 1 = 10000 := rfl
        rw [e10] at N3
        rw [Z2.1, Z2.2] at N3
        clear Z1 Z2 e10
        rcases hnx with h | ⟨h, h'⟩ | ⟨h, h', h''⟩
        · omega
        · subst h
          go_enter Try.func5, Try.ntmps5
          go_wp2_with (first | (go_at_call 17; have _t := tok1; refine (D1 _).mono ?_; rintro e w1 ⟨rfl, hb1⟩; clear tok1 _t) | (go_at_call 15; have _t := tok2; refine (N1 _).mono ?_; rintro e w2 ⟨rfl, hb2⟩; clear tok2 _t; obtain ⟨hc2, hf2⟩ := bcell hb2; have hz2 := lt_of_below_alloc hb2) | (go_at_call 15; have _t := tok3; refine (N2 _).mono ?_; rintro e w3 ⟨rfl, hb3⟩; clear tok3 _t; obtain ⟨hc3, hf3⟩ := bcell hb3; have hz3 := Nat.lt_of_lt_of_le hz2 hb3.size) | (go_at_call 20; refine (L _).mono ?_; rintro e w' ⟨rfl, rfl⟩) | (go_at_call 19; refine (sane_any _).mono ?_; rintro e w5 ⟨rfl, hb5⟩; obtain ⟨hc5, hf5⟩ := bcell hb5; have hz5 := Nat.lt_of_lt_of_le hz3 hb5.size) | (go_at_call 17; refine (D2 _).mono ?_; rintro e w6 ⟨rfl, hb6⟩; obtain ⟨hc6, hf6⟩ := bcell hb6; have hz6 := Nat.lt_of_lt_of_le hz5 hb6.size) | (go_at_call 15; refine (N3 _).mono ?_; rintro e w7 ⟨rfl, hb7⟩; obtain ⟨hc7, hf7⟩ := bcell hb7; have hy7 := lt_of_below_alloc hb7; have hz7 := Nat.lt_trans hz6 hy7))
          go_ret
          refine ⟨rfl, ?_⟩
          (repeat (first | exact Below.refl _ _ | assumption | refine below_drewN ?_ _ | refine Below.drew ?_ | refine btrans ?_ (by assumption) | refine below_alloc ?_ _ | refine Below.setCell ?_ (by simp <;> omega) _ | refine Below.alloc ?_ (by simp <;> omega) _ | refine Below.setCell ?_ (by simp) _ | refine Below.alloc ?_ (by simp) _))
        · subst h h'
          go_enter Try.func5, Try.ntmps5
          go_wp2_with (first | (go_at_call 17; have _t := tok1; refine (D1 _).mono ?_; rintro e w1 ⟨rfl, hb1⟩; clear tok1 _t) | (go_at_call 15; have _t := tok2; refine (N1 _).mono ?_; rintro e w2 ⟨rfl, hb2⟩; clear tok2 _t; obtain ⟨hc2, hf2⟩ := bcell hb2; have hz2 := lt_of_below_alloc hb2) | (go_at_call 15; have _t := tok3; refine (N2 _).mono ?_; rintro e w3 ⟨rfl, hb3⟩; clear tok3 _t; obtain ⟨hc3, hf3⟩ := bcell hb3; have hz3 := Nat.lt_of_lt_of_le hz2 hb3.size) | (go_at_call 20; refine (L _).mono ?_; rintro e w' ⟨rfl, rfl⟩) | (go_at_call 19; refine (sane_any _).mono ?_; rintro e w5 ⟨rfl, hb5⟩; obtain ⟨hc5, hf5⟩ := bcell hb5; have hz5 := Nat.lt_of_lt_of_le hz3 hb5.size) | (go_at_call 17; refine (D2 _).mono ?_; rintro e w6 ⟨rfl, hb6⟩; obtain ⟨hc6, hf6⟩ := bcell hb6; have hz6 := Nat.lt_of_lt_of_le hz5 hb6.size) | (go_at_call 15; refine (N3 _).mono ?_; rintro e w7 ⟨rfl, hb7⟩; obtain ⟨hc7, hf7⟩ := bcell hb7; have hy7 := lt_of_below_alloc hb7; have hz7 := Nat.lt_trans hz6 hy7))
          go_ret
          refine ⟨rfl, ?_⟩
          (repeat (first | exact Below.refl _ _ | assumption | refine below_drewN ?_ _ | refine Below.drew ?_ | refine btrans ?_ (by assumption) | refine below_alloc ?_ _ | refine Below.setCell ?_ (by simp <;> omega) _ | refine Below.alloc ?_ (by simp <;> omega) _ | refine Below.setCell ?_ (by simp) _ | refine Below.alloc ?_ (by simp) _))
    · have hh2 : Cal.has c (n + 1) = false := by
        rcases dke_cases c (n + 1) with ⟨h, _⟩ | ⟨_, h, _⟩ | ⟨_, _, h⟩
        · rw [hk] at h; cases h
        · exact h
        · exact absurd h he2
      obtain ⟨hl1, hl2⟩ := count_last hk hh hh2
      have hl : (n + 1 == Cal.first c (Cal.dY c n) + Cal.ylen c (Cal.dY c n)) = true := by simpa using hl2
      generalize dke c (n + 1) = e2 at *
      have q1 : (e2 == 0) = false := by simpa using he2
      have q2 : (e2 != 0) = true := by simpa using he2
      clear f1 f2 f3 f4 f5 f6 a1 a2 a3 hh hh2 he he2 hk hl2
      generalize Cal.first c (Cal.dY c n) = F at *
      generalize Cal.ylen c (Cal.dY c n) = len at *
      generalize Cal.dY c n = Y1 at *
      generalize Cal.dM c n = M1 at *
      generalize Cal.dD c n = E1 at *
      subst hl1
      go_enter Try.func5, Try.ntmps5
      go_wp2_with (first | (go_at_call 17; have _t := tok1; refine (D1 _).mono ?_; rintro e w1 ⟨rfl, hb1⟩; clear tok1 _t) | (go_at_call 15; have _t := tok2; refine (N1 _).mono ?_; rintro e w2 ⟨rfl, hb2⟩; clear tok2 _t; obtain ⟨hc2, hf2⟩ := bcell hb2; have hz2 := lt_of_below_alloc hb2) | (go_at_call 15; have _t := tok3; refine (N2 _).mono ?_; rintro e w3 ⟨rfl, hb3⟩; clear tok3 _t; obtain ⟨hc3, hf3⟩ := bcell hb3; have hz3 := Nat.lt_of_lt_of_le hz2 hb3.size) | (go_at_call 20; refine (L _).mono ?_; rintro e w' ⟨rfl, rfl⟩) | (go_at_call 19; refine (sane_any _).mono ?_; rintro e w5 ⟨rfl, hb5⟩; obtain ⟨hc5, hf5⟩ := bcell hb5; have hz5 := Nat.lt_of_lt_of_le hz3 hb5.size) | (go_at_call 17; refine (D2 _).mono ?_; rintro e w6 ⟨rfl, hb6⟩; obtain ⟨hc6, hf6⟩ := bcell hb6; have hz6 := Nat.lt_of_lt_of_le hz5 hb6.size))
      go_ret
      refine ⟨rfl, ?_⟩
      (repeat (first | exact Below.refl _ _ | assumption | refine below_drewN ?_ _ | refine Below.drew ?_ | refine btrans ?_ (by assumption) | refine below_alloc ?_ _ | refine Below.setCell ?_ (by simp <;> omega) _ | refine Below.alloc ?_ (by simp <;> omega) _ | refine Below.setCell ?_ (by simp) _ | refine Below.alloc ?_ (by simp) _))
  · generalize dke c n = e1 at *
    have q1 : (e1 == 0) = false := by simpa using he
    have q2 : (e1 != 0) = true := by simpa using he
    clear he D2
    go_enter Try.func5, Try.ntmps5
    go_wp2_with (first | (go_at_call 17; refine (D1 _).mono ?_; rintro e w1 ⟨rfl, hb1⟩) | (go_at_call 19; refine (sane_any _).mono ?_; rintro e w5 ⟨rfl, hb5⟩))
    go_ret
    refine ⟨rfl, ?_⟩
    (repeat (first | exact Below.refl _ _ | assumption | refine below_drewN ?_ _ | refine Below.drew ?_ | refine btrans ?_ (by assumption) | refine below_alloc ?_ _ | refine Below.setCell ?_ (by simp <;> omega) _ | refine Below.alloc ?_ (by simp <;> omega) _ | refine Below.setCell ?_ (by simp) _ | refine Below.alloc ?_ (by simp) _))

set_option maxRecDepth 100000 in
theorem calendarCounts_lifted (os : Os) (started : os.Started) (H : Type) (enc : TypeId × Value → H) :
    ReturnsInHanded {} Try.checked os 5 .any (Rows.calendarCountsSpec.pre6 enc Try.prog Try.f5 Rows.calendarCountsRow.domain false) (Rows.calendarCountsSpec.post enc Try.prog Try.f5 false true false false) := by
  refine returnsInHanded_of_change (C := Try.checked) Try.own started (by kernel_rfl) Try.func5
    (ChangeSpec.witness6 (enc := enc) (C := Try.checked) false ⟨#[], #[.int .i64 0, .int .i64 0], []⟩ 8 (by kernel_rfl) (by kernel_rfl) (by kernel_rfl) (by kernel_rfl)) ?_
  intro W base args ds gs before hval0 hW _ _
  have hval : ∀ (j : Nat) t v, Try.f5.params[j]? = some t → args[j]? = some v → Value.okWide Try.prog W .any base t v := hval0
  have hW' := hW
  have hlt : ∀ p ∈ before, p.block < W.heap.size := fun p hp => hW.lt p hp
  obtain ⟨p, q, hA0, hV, rfl, hfz, hnd⟩ := hW
  have hA : DataW.TrodAll enc Try.prog W 0 (fun _ => true) true Try.f5.params.toList args.toList ds p := hA0
  have hAk := hA
  rw [Try.params5] at hA hval
  obtain ⟨v0, v1, d0, d1, p0, p1, rfl, rfl, rfl, h0, h1⟩ := trodAll_two hA
  obtain ⟨rfl, rfl⟩ := trodVars_none hV
  obtain ⟨c, rfl, rfl, rfl, wfc⟩ := open_int Try.underlying3 (hval 0 3 v0 rfl rfl) h0
  obtain ⟨n, rfl, rfl, rfl, wfn⟩ := open_int Try.underlying3 (hval 1 3 v1 rfl rfl) h1
  clear hA0 hval0
  refine (counts_walk c n W).mono fun e W' ⟨he, hw⟩ => ?_
  subst he
  exact ⟨_, rfl, post_of_below (pv := []) hW' (fun _ _ _ => trodAll_mk1 (shut_bool Try.underlying4 _))
    (fun sp hsp => trodAll_kept Try.laidOut (by kernel_rfl) hAk (fun p hp => hw.same (hlt p (by simp at hp))) (fun p hp => by simp at hp)) (fun _ _ => rfl) rfl hw (ok_one (by kernel_rfl) rfl (okWide_bool_mk Try.underlying4 _))⟩

theorem calendarCounts_holds : Rows.CalendarCountsSaid :=
  OpenClaim.holds_of_wide 5 Try.f5 rfl rfl rfl rfl rfl rfl rfl ⟨rfl, rfl, rfl, rfl, rfl⟩ rfl rfl rfl rfl rfl (by kernel_rfl) Try.func5 (by kernel_rfl)
    (of_decide_eq_true (by kernel_rfl)) (by unfold Func.isWrapper; first | (rw [if_pos (by decide +kernel)]; kernel_rfl) | (rw [if_neg (by decide +kernel)]; exact ⟨rfl, rfl⟩))
    (fun os started H enc _ => calendarCounts_lifted os started H enc)
#print axioms calendarCounts_holds

end Go.Proofs.Ytnjjkcnokkhlkaa
