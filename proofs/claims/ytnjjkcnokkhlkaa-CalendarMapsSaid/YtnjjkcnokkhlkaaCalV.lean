/- The walk of CalendarMaps. -/
import Derived.Test.YtnjjkcnokkhlkaaCalU
import Derived.Test.YtnjjkcnokkhlkaaCalJ
namespace Go.Proofs.Ytnjjkcnokkhlkaa
open Go.RowKit

/-- The value of a Mapping. -/
abbrev mpv (f t y m d : Int) (A : Option Addr) (n c : Nat) : Value := .agg #[.int .i64 f, .int .i64 t, .int .i64 y, .int .i64 m, .int .i64 d, .slice A n c]

theorem Sl.next {w w' : World} {n : Nat} {A : Option Addr} {zs : List Int} (h : Sl w w.heap.size A n zs) (hb : Below w.heap.size w w') : Sl w' w'.heap.size A n zs := (h.keep hb).more hb.size
theorem Sl.alloc {w : World} {n : Nat} {A : Option Addr} {zs : List Int} (h : Sl w w.heap.size A n zs) (o : Obj) : Sl (w.alloc o) (w.alloc o).heap.size A n zs := h.next (below_alloc (Below.refl _ _) o)

theorem map_back {f t y m d : Int} (h : mpe f t y m d = 0) (h2 : mpl f t y m d = 0) : (∀ x, mpy f t y m d x = x) ∧ mpe t f y m d = 0 ∧ mpl t f y m d = 0 ∧ ∀ x, mpy t f y m d x = x := by
  rcases mp_cases f t y m d with ⟨_, e, _⟩ | ⟨_, _, e, _⟩ | ⟨_, _, _, e, _⟩ | ⟨_, _, _, _, _, e, _⟩ | ⟨h1, h2, h3, h4, e1, e2, e3⟩
  · omega
  · omega
  · omega
  · omega
  · refine ⟨e3, ?_⟩
    simp [mpe, mpl, mpy, h1, h2, h3, h4]

set_option maxRecDepth 100000 in
set_option maxHeartbeats 3200000 in
theorem maps_walk (f t y m d : Int) (A : Option Addr) (n c : Nat) (zs : List Int) (w : World) (hs : Sl w w.heap.size A n zs) :
    Calls Try.prog 11 #[mpv f t y m d A n c] w fun e w' => e = .returned (.bool true) ∧ Below w.heap.size w w' := by
  by_cases hn : 200 < n
  · have hn' : (200 : Int) < (n : Int) := by omega
    clear hs
    go_enter Try.func11, Try.ntmps11
    go_wp2_with (go_at_call 19; refine (sane_any _).mono ?_; rintro e w5 ⟨rfl, hb5⟩)
    go_ret
    refine ⟨rfl, ?_⟩
    (repeat (first | exact Below.refl _ _ | assumption | refine below_drewN ?_ _ | refine Below.drew ?_ | refine btrans ?_ (by assumption) | refine below_alloc ?_ _ | refine Below.setCell ?_ (by simp <;> omega) _ | refine Below.alloc ?_ (by simp <;> omega) _ | refine Below.setCell ?_ (by simp) _ | refine Below.alloc ?_ (by simp) _))
  · have hn' : ¬ (200 : Int) < (n : Int) := by omega
    have tokM : True := trivial
    have tokS : True := trivial
    have hm : mpe f t y m d = 0 ∧ mpl f t y m d = 0 ∨ ¬ (mpe f t y m d = 0 ∧ mpl f t y m d = 0) := Classical.em _
    have M1 := fun w => Map_any f t y m d w
    have M2 := fun w => rMap_any f t y m d w
    have L1 := fun w hs => MapAll_any f t A n c zs (by omega) w hs
    have L2 := fun w hs => rMapAll_any f t A n c zs (by omega) w hs
    have hlO : (maO f t zs).length ≤ 200 := by
      have := hs.1
      unfold maO; split <;> simp <;> omega
    have hlS : (maS f t zs).length ≤ 200 := by
      have := hs.1
      unfold maS; split <;> simp <;> omega
    have S1 := fun A1 A2 c1 c2 B w h1 h2 => same_any A1 A2 (maO f t zs).length c1 c2 B (maO f t zs) (by omega) w h1 h2
    have S2 := fun A1 A2 c1 c2 B w h1 h2 => same_any A1 A2 (maS f t zs).length c1 c2 B (maS f t zs) (by omega) w h1 h2
    unfold MAP at L1 L2
    rcases hm with ⟨hE, hL⟩ | hno
    · obtain ⟨b1, b2, b3, b4⟩ := map_back hE hL
      have M3 := fun w => Map_any t f y m d w
      rw [b2, b3, b4, b4, b4] at M3
      rw [hE, hL, b1, b1, b1] at M1 M2
      generalize maO f t zs = xo at *
      generalize maS f t zs = xs at *
      generalize maE f t zs = ee at *
      clear hE hL b1 b2 b3 b4
      go_enter Try.func11, Try.ntmps11
      go_wp2_with (first | (go_at_call 21; have _t := tokM; refine (M1 _).mono ?_; rintro e w1 ⟨rfl, hb1⟩; obtain ⟨hc1, hf1⟩ := bcell hb1; have hz1 := lt_of_below_alloc hb1; clear tokM _t) | (go_at_call 35; refine (M2 _).mono ?_; rintro e w2 ⟨rfl, hb2⟩; obtain ⟨hc2, hf2⟩ := bcell hb2; have hy2 := lt_of_below_alloc hb2; have hz2 := Nat.lt_trans hz1 hy2) | (go_at_call 36; refine (L1 _ (((((hs.alloc _).next hb1).alloc _).next hb2).alloc _)).mono ?_; rintro e w3 ⟨p1, q1, p2, q2, rfl, s1, s2, hb3⟩; obtain ⟨hc3, hf3⟩ := bcell hb3; have hx3 := lt_of_below_alloc hb3; have hy3 := Nat.lt_trans hy2 hx3; have hz3 := Nat.lt_trans hz2 hx3) | (go_at_call 37; refine (L2 _ ((((((hs.alloc _).next hb1).alloc _).next hb2).alloc _).next hb3)).mono ?_; rintro e w4 ⟨p3, q3, p4, q4, rfl, s3, s4, hb4⟩; obtain ⟨hc4, hf4⟩ := bcell hb4; have hx4 := Nat.lt_of_lt_of_le hx3 hb4.size; have hy4 := Nat.lt_of_lt_of_le hy3 hb4.size; have hz4 := Nat.lt_of_lt_of_le hz3 hb4.size) | (go_at_call 38; have _t := tokS; refine (S1 _ _ _ _ _ _ (s1.next hb4) s3).mono ?_; rintro e w5 ⟨rfl, hb5⟩; obtain ⟨hc5, hf5⟩ := bcell hb5; have hx5 := Nat.lt_of_lt_of_le hx4 hb5.size; have hy5 := Nat.lt_of_lt_of_le hy4 hb5.size; have hz5 := Nat.lt_of_lt_of_le hz4 hb5.size; clear tokS _t) | (go_at_call 38; refine (S2 _ _ _ _ _ _ ((s2.next hb4).next hb5) (s4.next hb5)).mono ?_; rintro e w6 ⟨rfl, hb6⟩; obtain ⟨hc6, hf6⟩ := bcell hb6; have hx6 := Nat.lt_of_lt_of_le hx5 hb6.size; have hy6 := Nat.lt_of_lt_of_le hy5 hb6.size; have hz6 := Nat.lt_of_lt_of_le hz5 hb6.size) | (go_at_call 19; refine (sane_any _).mono ?_; rintro e w7 ⟨rfl, hb7⟩; obtain ⟨hc7, hf7⟩ := bcell hb7; have hx7 := Nat.lt_of_lt_of_le hx6 hb7.size; have hy7 := Nat.lt_of_lt_of_le hy6 hb7.size; have hz7 := Nat.lt_of_lt_of_le hz6 hb7.size) | (go_at_call 21; refine (M3 _).mono ?_; rintro e w8 ⟨rfl, hb8⟩; obtain ⟨hc8, hf8⟩ := bcell hb8; have hx8 := Nat.lt_of_lt_of_le hx7 hb8.size; have hy8 := Nat.lt_of_lt_of_le hy7 hb8.size; have hz8 := Nat.lt_of_lt_of_le hz7 hb8.size))
      go_ret
      refine ⟨rfl, ?_⟩
      (repeat (first | exact Below.refl _ _ | assumption | refine below_drewN ?_ _ | refine Below.drew ?_ | refine btrans ?_ (by assumption) | refine below_alloc ?_ _ | refine Below.setCell ?_ (by simp <;> omega) _ | refine Below.alloc ?_ (by simp <;> omega) _ | refine Below.setCell ?_ (by simp) _ | refine Below.alloc ?_ (by simp) _))
    · generalize mpy f t y m d y = y1 at *
      generalize mpy f t y m d m = y2 at *
      generalize mpy f t y m d d = y3 at *
      generalize mpe f t y m d = e0 at *
      generalize mpl f t y m d = l0 at *
      generalize maO f t zs = xo at *
      generalize maS f t zs = xs at *
      generalize maE f t zs = ee at *
      by_cases hE : e0 = 0
      · subst hE
        have hL : l0 ≠ 0 := fun e => hno ⟨rfl, e⟩
        have hL' : (l0 == 0) = false := by simpa using hL
        clear hno hL
        go_enter Try.func11, Try.ntmps11
        go_wp2_with (first | (go_at_call 21; have _t := tokM; refine (M1 _).mono ?_; rintro e w1 ⟨rfl, hb1⟩; obtain ⟨hc1, hf1⟩ := bcell hb1; have hz1 := lt_of_below_alloc hb1; clear tokM _t) | (go_at_call 35; refine (M2 _).mono ?_; rintro e w2 ⟨rfl, hb2⟩; obtain ⟨hc2, hf2⟩ := bcell hb2; have hy2 := lt_of_below_alloc hb2; have hz2 := Nat.lt_trans hz1 hy2) | (go_at_call 36; refine (L1 _ (((((hs.alloc _).next hb1).alloc _).next hb2).alloc _)).mono ?_; rintro e w3 ⟨p1, q1, p2, q2, rfl, s1, s2, hb3⟩; obtain ⟨hc3, hf3⟩ := bcell hb3; have hx3 := lt_of_below_alloc hb3; have hy3 := Nat.lt_trans hy2 hx3; have hz3 := Nat.lt_trans hz2 hx3) | (go_at_call 37; refine (L2 _ ((((((hs.alloc _).next hb1).alloc _).next hb2).alloc _).next hb3)).mono ?_; rintro e w4 ⟨p3, q3, p4, q4, rfl, s3, s4, hb4⟩; obtain ⟨hc4, hf4⟩ := bcell hb4; have hx4 := Nat.lt_of_lt_of_le hx3 hb4.size; have hy4 := Nat.lt_of_lt_of_le hy3 hb4.size; have hz4 := Nat.lt_of_lt_of_le hz3 hb4.size) | (go_at_call 38; have _t := tokS; refine (S1 _ _ _ _ _ _ (s1.next hb4) s3).mono ?_; rintro e w5 ⟨rfl, hb5⟩; obtain ⟨hc5, hf5⟩ := bcell hb5; have hx5 := Nat.lt_of_lt_of_le hx4 hb5.size; have hy5 := Nat.lt_of_lt_of_le hy4 hb5.size; have hz5 := Nat.lt_of_lt_of_le hz4 hb5.size; clear tokS _t) | (go_at_call 38; refine (S2 _ _ _ _ _ _ ((s2.next hb4).next hb5) (s4.next hb5)).mono ?_; rintro e w6 ⟨rfl, hb6⟩; obtain ⟨hc6, hf6⟩ := bcell hb6; have hx6 := Nat.lt_of_lt_of_le hx5 hb6.size; have hy6 := Nat.lt_of_lt_of_le hy5 hb6.size; have hz6 := Nat.lt_of_lt_of_le hz5 hb6.size) | (go_at_call 19; refine (sane_any _).mono ?_; rintro e w7 ⟨rfl, hb7⟩; obtain ⟨hc7, hf7⟩ := bcell hb7; have hx7 := Nat.lt_of_lt_of_le hx6 hb7.size; have hy7 := Nat.lt_of_lt_of_le hy6 hb7.size; have hz7 := Nat.lt_of_lt_of_le hz6 hb7.size))
        go_ret
        refine ⟨rfl, ?_⟩
        (repeat (first | exact Below.refl _ _ | assumption | refine below_drewN ?_ _ | refine Below.drew ?_ | refine btrans ?_ (by assumption) | refine below_alloc ?_ _ | refine Below.setCell ?_ (by simp <;> omega) _ | refine Below.alloc ?_ (by simp <;> omega) _ | refine Below.setCell ?_ (by simp) _ | refine Below.alloc ?_ (by simp) _))
      · have hE' : (e0 == 0) = false := by simpa using hE
        clear hno hE
        go_enter Try.func11, Try.ntmps11
        go_wp2_with (first | (go_at_call 21; have _t := tokM; refine (M1 _).mono ?_; rintro e w1 ⟨rfl, hb1⟩; obtain ⟨hc1, hf1⟩ := bcell hb1; have hz1 := lt_of_below_alloc hb1; clear tokM _t) | (go_at_call 35; refine (M2 _).mono ?_; rintro e w2 ⟨rfl, hb2⟩; obtain ⟨hc2, hf2⟩ := bcell hb2; have hy2 := lt_of_below_alloc hb2; have hz2 := Nat.lt_trans hz1 hy2) | (go_at_call 36; refine (L1 _ (((((hs.alloc _).next hb1).alloc _).next hb2).alloc _)).mono ?_; rintro e w3 ⟨p1, q1, p2, q2, rfl, s1, s2, hb3⟩; obtain ⟨hc3, hf3⟩ := bcell hb3; have hx3 := lt_of_below_alloc hb3; have hy3 := Nat.lt_trans hy2 hx3; have hz3 := Nat.lt_trans hz2 hx3) | (go_at_call 37; refine (L2 _ ((((((hs.alloc _).next hb1).alloc _).next hb2).alloc _).next hb3)).mono ?_; rintro e w4 ⟨p3, q3, p4, q4, rfl, s3, s4, hb4⟩; obtain ⟨hc4, hf4⟩ := bcell hb4; have hx4 := Nat.lt_of_lt_of_le hx3 hb4.size; have hy4 := Nat.lt_of_lt_of_le hy3 hb4.size; have hz4 := Nat.lt_of_lt_of_le hz3 hb4.size) | (go_at_call 38; have _t := tokS; refine (S1 _ _ _ _ _ _ (s1.next hb4) s3).mono ?_; rintro e w5 ⟨rfl, hb5⟩; obtain ⟨hc5, hf5⟩ := bcell hb5; have hx5 := Nat.lt_of_lt_of_le hx4 hb5.size; have hy5 := Nat.lt_of_lt_of_le hy4 hb5.size; have hz5 := Nat.lt_of_lt_of_le hz4 hb5.size; clear tokS _t) | (go_at_call 38; refine (S2 _ _ _ _ _ _ ((s2.next hb4).next hb5) (s4.next hb5)).mono ?_; rintro e w6 ⟨rfl, hb6⟩; obtain ⟨hc6, hf6⟩ := bcell hb6; have hx6 := Nat.lt_of_lt_of_le hx5 hb6.size; have hy6 := Nat.lt_of_lt_of_le hy5 hb6.size; have hz6 := Nat.lt_of_lt_of_le hz5 hb6.size) | (go_at_call 19; refine (sane_any _).mono ?_; rintro e w7 ⟨rfl, hb7⟩; obtain ⟨hc7, hf7⟩ := bcell hb7; have hx7 := Nat.lt_of_lt_of_le hx6 hb7.size; have hy7 := Nat.lt_of_lt_of_le hy6 hb7.size; have hz7 := Nat.lt_of_lt_of_le hz6 hb7.size))
        go_ret
        refine ⟨rfl, ?_⟩
        (repeat (first | exact Below.refl _ _ | assumption | refine below_drewN ?_ _ | refine Below.drew ?_ | refine btrans ?_ (by assumption) | refine below_alloc ?_ _ | refine Below.setCell ?_ (by simp <;> omega) _ | refine Below.alloc ?_ (by simp <;> omega) _ | refine Below.setCell ?_ (by simp) _ | refine Below.alloc ?_ (by simp) _))

end Go.Proofs.Ytnjjkcnokkhlkaa
