/- The walks of the calendar's functions, part L: the reference's Map. -/
import Derived.Test.YtnjjkcnokkhlkaaCalK
namespace Go.Proofs.Ytnjjkcnokkhlkaa
open Go.RowKit

set_option maxRecDepth 100000 in
set_option maxHeartbeats 1600000 in
theorem rMap_any (f t y m d : Int) (w : World) :
    Calls Try.prog 35 #[.int .i64 f, .int .i64 t, dt y m d] w fun e w' => e = .returned (.tuple #[dt (mpy f t y m d y) (mpy f t y m d m) (mpy f t y m d d), .int .i64 (mpl f t y m d), .int .i64 (mpe f t y m d)]) ∧ Below w.heap.size w w' := by
  have V := fun c w => rValid_any c y m d w
  rcases mp_cases f t y m d with ⟨h1, e1, e2, e3⟩ | ⟨h1, h2, e1, e2, e3⟩ | ⟨h1, h2, h3, e1, e2, e3⟩ | ⟨h1, h2, h3, h4, e1, e2, e3⟩ | ⟨h1, h2, h3, h4, e1, e2, e3⟩
  · rw [e1, e2, e3, e3, e3]
    have K1 := fun w => rname_no h1 w
    clear h1 e1 e2 e3 V
    have tok1 : True := trivial
    have tok2 : True := trivial
    go_enter Try.func35, Try.ntmps35
    go_wp2_with (first | (go_at_call 34; have _t := tok1; refine (K1 _).mono ?_; rintro e w1 ⟨rfl, hb1⟩; clear tok1 _t; obtain ⟨hc1, hf1⟩ := bcell hb1; obtain ⟨ha1, hz1⟩ := lt_of_below_alloc2 hb1))
    refine bodyPost_ret (v := .tuple #[dt 0 0 0, .int .i64 0, .int .i64 20]) (by simp [results, Try.results35, go_sem, hc1]) rfl ⟨rfl, ?_⟩
    (repeat (first | exact Below.refl _ _ | assumption | refine below_drewN ?_ _ | refine Below.drew ?_ | refine btrans ?_ (by assumption) | refine below_alloc ?_ _ | refine Below.setCell ?_ (by simp <;> omega) _ | refine Below.alloc ?_ (by simp <;> omega) _ | refine Below.setCell ?_ (by simp) _ | refine Below.alloc ?_ (by simp) _))
  · rw [e1, e2, e3, e3, e3]
    have K1 := fun w => rname_yes h1 w
    have K2 := fun w => rname_no h2 w
    clear h1 h2 e1 e2 e3 V
    have tok1 : True := trivial
    have tok2 : True := trivial
    go_enter Try.func35, Try.ntmps35
    go_wp2_with (first | (go_at_call 34; have _t := tok1; refine (K1 _).mono ?_; rintro e w1 ⟨s1, rfl, hs1, hb1⟩; clear tok1 _t; obtain ⟨hc1, hf1⟩ := bcell hb1; obtain ⟨ha1, hz1⟩ := lt_of_below_alloc2 hb1) | (go_at_call 34; refine (K2 _).mono ?_; rintro e w2 ⟨rfl, hb2⟩; obtain ⟨hc2, hf2⟩ := bcell hb2; have ha2 := Nat.lt_of_lt_of_le ha1 hb2.size; have hz2 := Nat.lt_of_lt_of_le hz1 hb2.size))
    refine bodyPost_ret (v := .tuple #[dt 0 0 0, .int .i64 0, .int .i64 20]) (by simp [results, Try.results35, go_sem, hc1, ha1, hc2]) rfl ⟨rfl, ?_⟩
    (repeat (first | exact Below.refl _ _ | assumption | refine below_drewN ?_ _ | refine Below.drew ?_ | refine btrans ?_ (by assumption) | refine below_alloc ?_ _ | refine Below.setCell ?_ (by simp <;> omega) _ | refine Below.alloc ?_ (by simp <;> omega) _ | refine Below.setCell ?_ (by simp) _ | refine Below.alloc ?_ (by simp) _))
  · rw [e1, e2, e3, e3, e3]
    have K1 := fun w => rname_yes h1 w
    have K2 := fun w => rname_yes h2 w
    have V1 := V f; rw [h3] at V1
    clear h1 h2 h3 e1 e2 e3 V
    have tok1 : True := trivial
    have tok2 : True := trivial
    go_enter Try.func35, Try.ntmps35
    go_wp2_with (first | (go_at_call 34; have _t := tok1; refine (K1 _).mono ?_; rintro e w1 ⟨s1, rfl, hs1, hb1⟩; clear tok1 _t; obtain ⟨hc1, hf1⟩ := bcell hb1; obtain ⟨ha1, hz1⟩ := lt_of_below_alloc2 hb1) | (go_at_call 34; refine (K2 _).mono ?_; rintro e w2 ⟨s2, rfl, hs2, hb2⟩; obtain ⟨hc2, hf2⟩ := bcell hb2; have ha2 := Nat.lt_of_lt_of_le ha1 hb2.size; have hz2 := Nat.lt_of_lt_of_le hz1 hb2.size) | (go_at_call 28; have _t := tok2; refine (V1 _).mono ?_; rintro e w3 ⟨rfl, hb3⟩; clear tok2 _t; obtain ⟨hc3, hf3⟩ := bcell hb3; have ha3 := Nat.lt_of_lt_of_le ha2 hb3.size; have hz3 := Nat.lt_of_lt_of_le hz2 hb3.size))
    refine bodyPost_ret (v := .tuple #[dt 0 0 0, .int .i64 0, .int .i64 21]) (by simp [results, Try.results35, go_sem, hc1, ha1, hc2, ha2, hc3]) rfl ⟨rfl, ?_⟩
    (repeat (first | exact Below.refl _ _ | assumption | refine below_drewN ?_ _ | refine Below.drew ?_ | refine btrans ?_ (by assumption) | refine below_alloc ?_ _ | refine Below.setCell ?_ (by simp <;> omega) _ | refine Below.alloc ?_ (by simp <;> omega) _ | refine Below.setCell ?_ (by simp) _ | refine Below.alloc ?_ (by simp) _))
  · rw [e1, e2, e3, e3, e3]
    have K1 := fun w => rname_yes h1 w
    have K2 := fun w => rname_yes h2 w
    have V1 := V f; rw [h3] at V1
    have V2 := V t; rw [h4] at V2
    clear h1 h2 h3 h4 e1 e2 e3 V
    have tok1 : True := trivial
    have tok2 : True := trivial
    go_enter Try.func35, Try.ntmps35
    go_wp2_with (first | (go_at_call 34; have _t := tok1; refine (K1 _).mono ?_; rintro e w1 ⟨s1, rfl, hs1, hb1⟩; clear tok1 _t; obtain ⟨hc1, hf1⟩ := bcell hb1; obtain ⟨ha1, hz1⟩ := lt_of_below_alloc2 hb1) | (go_at_call 34; refine (K2 _).mono ?_; rintro e w2 ⟨s2, rfl, hs2, hb2⟩; obtain ⟨hc2, hf2⟩ := bcell hb2; have ha2 := Nat.lt_of_lt_of_le ha1 hb2.size; have hz2 := Nat.lt_of_lt_of_le hz1 hb2.size) | (go_at_call 28; have _t := tok2; refine (V1 _).mono ?_; rintro e w3 ⟨rfl, hb3⟩; clear tok2 _t; obtain ⟨hc3, hf3⟩ := bcell hb3; have ha3 := Nat.lt_of_lt_of_le ha2 hb3.size; have hz3 := Nat.lt_of_lt_of_le hz2 hb3.size) | (go_at_call 28; refine (V2 _).mono ?_; rintro e w4 ⟨rfl, hb4⟩; obtain ⟨hc4, hf4⟩ := bcell hb4; have ha4 := Nat.lt_of_lt_of_le ha3 hb4.size; have hz4 := Nat.lt_of_lt_of_le hz3 hb4.size))
    refine bodyPost_ret (v := .tuple #[dt 0 0 0, .int .i64 1, .int .i64 0]) (by simp [results, Try.results35, go_sem, hc1, ha1, hc2, ha2, hc3, ha3, hc4]) rfl ⟨rfl, ?_⟩
    (repeat (first | exact Below.refl _ _ | assumption | refine below_drewN ?_ _ | refine Below.drew ?_ | refine btrans ?_ (by assumption) | refine below_alloc ?_ _ | refine Below.setCell ?_ (by simp <;> omega) _ | refine Below.alloc ?_ (by simp <;> omega) _ | refine Below.setCell ?_ (by simp) _ | refine Below.alloc ?_ (by simp) _))
  · rw [e1, e2, e3, e3, e3]
    have K1 := fun w => rname_yes h1 w
    have K2 := fun w => rname_yes h2 w
    have V1 := V f; rw [h3] at V1
    have V2 := V t; rw [h4] at V2
    clear h1 h2 h3 h4 e1 e2 e3 V
    have tok1 : True := trivial
    have tok2 : True := trivial
    go_enter Try.func35, Try.ntmps35
    go_wp2_with (first | (go_at_call 34; have _t := tok1; refine (K1 _).mono ?_; rintro e w1 ⟨s1, rfl, hs1, hb1⟩; clear tok1 _t; obtain ⟨hc1, hf1⟩ := bcell hb1; obtain ⟨ha1, hz1⟩ := lt_of_below_alloc2 hb1) | (go_at_call 34; refine (K2 _).mono ?_; rintro e w2 ⟨s2, rfl, hs2, hb2⟩; obtain ⟨hc2, hf2⟩ := bcell hb2; have ha2 := Nat.lt_of_lt_of_le ha1 hb2.size; have hz2 := Nat.lt_of_lt_of_le hz1 hb2.size) | (go_at_call 28; have _t := tok2; refine (V1 _).mono ?_; rintro e w3 ⟨rfl, hb3⟩; clear tok2 _t; obtain ⟨hc3, hf3⟩ := bcell hb3; have ha3 := Nat.lt_of_lt_of_le ha2 hb3.size; have hz3 := Nat.lt_of_lt_of_le hz2 hb3.size) | (go_at_call 28; refine (V2 _).mono ?_; rintro e w4 ⟨rfl, hb4⟩; obtain ⟨hc4, hf4⟩ := bcell hb4; have ha4 := Nat.lt_of_lt_of_le ha3 hb4.size; have hz4 := Nat.lt_of_lt_of_le hz3 hb4.size))
    refine bodyPost_ret (v := .tuple #[dt y m d, .int .i64 0, .int .i64 0]) (by simp [results, Try.results35, go_sem, hc1, ha1, hc2, ha2, hc3, ha3, hc4]) rfl ⟨rfl, ?_⟩
    (repeat (first | exact Below.refl _ _ | assumption | refine below_drewN ?_ _ | refine Below.drew ?_ | refine btrans ?_ (by assumption) | refine below_alloc ?_ _ | refine Below.setCell ?_ (by simp <;> omega) _ | refine Below.alloc ?_ (by simp <;> omega) _ | refine Below.setCell ?_ (by simp) _ | refine Below.alloc ?_ (by simp) _))

end Go.Proofs.Ytnjjkcnokkhlkaa
