/- The walks of the calendar's functions, part O: the reference's asked, Field and Key. -/
import Derived.Test.YtnjjkcnokkhlkaaCalN
namespace Go.Proofs.Ytnjjkcnokkhlkaa
open Go.RowKit

/-- The date that asked returns. -/
def avY (c n f : Int) : Int := if fe c n f = 0 then Cal.dY c n else 0
def avM (c n f : Int) : Int := if fe c n f = 0 then Cal.dM c n else 0
def avD (c n f : Int) : Int := if fe c n f = 0 then Cal.dD c n else 0

set_option maxRecDepth 100000 in
set_option maxHeartbeats 1600000 in
theorem asked_any (c n f : Int) (w : World) :
    Calls Try.prog 67 #[.int .i64 c, .int .i64 n, .int .i64 f] w fun e w' => e = .returned (.tuple #[dt (avY c n f) (avM c n f) (avD c n f), .int .i64 (fe c n f)]) ∧ Below w.heap.size w w' := by
  rcases fe_cases c n f with ⟨hk, he⟩ | ⟨hk, hf, he⟩ | ⟨hk, hf1, hf2, hh, he⟩ | ⟨hk, hf1, hf2, hh, he⟩
  · rw [show avY c n f = 0 by unfold avY; simp [he], show avM c n f = 0 by unfold avM; simp [he], show avD c n f = 0 by unfold avD; simp [he], he]
    have C := fun w => rname_no hk w
    clear hk he
    go_enter Try.func67, Try.ntmps67
    go_wp2_with (go_at_call 34; refine (C _).mono ?_; rintro e w1 ⟨rfl, hb1⟩; obtain ⟨hc1, hf1⟩ := bcell hb1; have hz1 := lt_of_below_alloc hb1)
    refine bodyPost_ret (v := .tuple #[dt 0 0 0, .int .i64 20]) (by simp [results, Try.results67, go_sem, hc1]) rfl ⟨rfl, ?_⟩
    (repeat (first | exact Below.refl _ _ | assumption | refine below_drewN ?_ _ | refine Below.drew ?_ | refine btrans ?_ (by assumption) | refine below_alloc ?_ _ | refine Below.setCell ?_ (by simp <;> omega) _ | refine Below.alloc ?_ (by simp <;> omega) _ | refine Below.setCell ?_ (by simp) _ | refine Below.alloc ?_ (by simp) _))
  · rw [show avY c n f = 0 by unfold avY; simp [he], show avM c n f = 0 by unfold avM; simp [he], show avD c n f = 0 by unfold avD; simp [he], he]
    have C := fun w => rname_yes hk w
    clear hk he
    by_cases h : f < 1
    · clear hf
      go_enter Try.func67, Try.ntmps67
      go_wp2_with (go_at_call 34; refine (C _).mono ?_; rintro e w1 ⟨s, rfl, hs, hb1⟩; obtain ⟨hc1, hf1⟩ := bcell hb1; have hz1 := lt_of_below_alloc hb1)
      refine bodyPost_ret (v := .tuple #[dt 0 0 0, .int .i64 22]) (by simp [results, Try.results67, go_sem, hc1]) rfl ⟨rfl, ?_⟩
      (repeat (first | exact Below.refl _ _ | assumption | refine below_drewN ?_ _ | refine Below.drew ?_ | refine btrans ?_ (by assumption) | refine below_alloc ?_ _ | refine Below.setCell ?_ (by simp <;> omega) _ | refine Below.alloc ?_ (by simp <;> omega) _ | refine Below.setCell ?_ (by simp) _ | refine Below.alloc ?_ (by simp) _))
    · have h' : 4 < f := by omega
      clear hf
      go_enter Try.func67, Try.ntmps67
      go_wp2_with (go_at_call 34; refine (C _).mono ?_; rintro e w1 ⟨s, rfl, hs, hb1⟩; obtain ⟨hc1, hf1⟩ := bcell hb1; have hz1 := lt_of_below_alloc hb1)
      refine bodyPost_ret (v := .tuple #[dt 0 0 0, .int .i64 22]) (by simp [results, Try.results67, go_sem, hc1]) rfl ⟨rfl, ?_⟩
      (repeat (first | exact Below.refl _ _ | assumption | refine below_drewN ?_ _ | refine Below.drew ?_ | refine btrans ?_ (by assumption) | refine below_alloc ?_ _ | refine Below.setCell ?_ (by simp <;> omega) _ | refine Below.alloc ?_ (by simp <;> omega) _ | refine Below.setCell ?_ (by simp) _ | refine Below.alloc ?_ (by simp) _))
  · rw [show avY c n f = 0 by unfold avY; simp [he], show avM c n f = 0 by unfold avM; simp [he], show avD c n f = 0 by unfold avD; simp [he], he]
    have C := fun w => rname_yes hk w
    have D := fun w => rdate_any c n hk w
    obtain ⟨e0, e1, e2, e3⟩ := (dke_of hk).1 hh
    rw [hh, e1, e2, e3] at D
    clear hk he hh e0 e1 e2 e3
    go_enter Try.func67, Try.ntmps67
    go_wp2_with (first | (go_at_call 34; refine (C _).mono ?_; rintro e w1 ⟨s, rfl, hs, hb1⟩; obtain ⟨hc1, hf1⟩ := bcell hb1; have hz1 := lt_of_below_alloc hb1) | (go_at_call 54; refine (D _).mono ?_; rintro e w2 ⟨rfl, hb2⟩; obtain ⟨hc2, hf2⟩ := bcell hb2; have hz2 : w.heap.size < w2.heap.size := Nat.lt_of_lt_of_le hz1 hb2.size))
    refine bodyPost_ret (v := .tuple #[dt 0 0 0, .int .i64 21]) (by simp [results, Try.results67, go_sem, hc1, hc2, hz1, hz2]) rfl ⟨rfl, ?_⟩
    (repeat (first | exact Below.refl _ _ | assumption | refine below_drewN ?_ _ | refine Below.drew ?_ | refine btrans ?_ (by assumption) | refine below_alloc ?_ _ | refine Below.setCell ?_ (by simp <;> omega) _ | refine Below.alloc ?_ (by simp <;> omega) _ | refine Below.setCell ?_ (by simp) _ | refine Below.alloc ?_ (by simp) _))
  · rw [show avY c n f = Cal.dY c n by unfold avY; simp [he], show avM c n f = Cal.dM c n by unfold avM; simp [he], show avD c n f = Cal.dD c n by unfold avD; simp [he], he]
    have C := fun w => rname_yes hk w
    have D := fun w => rdate_any c n hk w
    obtain ⟨e0, e1, e2, e3⟩ := (dke_of hk).2 hh
    rw [hh, e1, e2, e3] at D
    clear hk he hh e0 e1 e2 e3
    go_enter Try.func67, Try.ntmps67
    go_wp2_with (first | (go_at_call 34; refine (C _).mono ?_; rintro e w1 ⟨s, rfl, hs, hb1⟩; obtain ⟨hc1, hf1⟩ := bcell hb1; have hz1 := lt_of_below_alloc hb1) | (go_at_call 54; refine (D _).mono ?_; rintro e w2 ⟨rfl, hb2⟩; obtain ⟨hc2, hf2⟩ := bcell hb2; have hz2 : w.heap.size < w2.heap.size := Nat.lt_of_lt_of_le hz1 hb2.size))
    refine bodyPost_ret (v := .tuple #[dt (Cal.dY c n) (Cal.dM c n) (Cal.dD c n), .int .i64 0]) (by simp [results, Try.results67, go_sem, hc1, hc2, hz1, hz2]) rfl ⟨rfl, ?_⟩
    (repeat (first | exact Below.refl _ _ | assumption | refine below_drewN ?_ _ | refine Below.drew ?_ | refine btrans ?_ (by assumption) | refine below_alloc ?_ _ | refine Below.setCell ?_ (by simp <;> omega) _ | refine Below.alloc ?_ (by simp <;> omega) _ | refine Below.setCell ?_ (by simp) _ | refine Below.alloc ?_ (by simp) _))

theorem av_no {c n f : Int} (h : fe c n f ≠ 0) : avY c n f = 0 ∧ avM c n f = 0 ∧ avD c n f = 0 := by unfold avY avM avD; simp [h]
theorem av_yes {c n f : Int} (h : fe c n f = 0) : avY c n f = Cal.dY c n ∧ avM c n f = Cal.dM c n ∧ avD c n f = Cal.dD c n := by unfold avY avM avD; simp [h]
theorem fe_ok {c n f : Int} (h : fe c n f = 0) : kn c = true ∧ 1 ≤ f ∧ f ≤ 4 ∧ Cal.has c n = true := by
  rcases fe_cases c n f with ⟨_, he⟩ | ⟨_, _, he⟩ | ⟨_, _, _, _, he⟩ | ⟨hk, hf1, hf2, hh, _⟩
  · omega
  · omega
  · omega
  · exact ⟨hk, hf1, hf2, hh⟩

set_option maxRecDepth 100000 in
set_option maxHeartbeats 1600000 in
theorem rField_any (c n f : Int) (w : World) :
    Calls Try.prog 40 #[.int .i64 c, .int .i64 n, .int .i64 f] w fun e w' => e = .returned (.tuple #[.int .i64 (fv c n f), .int .i64 (fe c n f)]) ∧ Below w.heap.size w w' := by
  have D := fun w => asked_any c n f w
  by_cases he : fe c n f = 0
  · obtain ⟨hk, hf1, hf2, hh⟩ := fe_ok he
    obtain ⟨y1, y2, m1, m2, d1, d2⟩ := date_bd hh
    obtain ⟨a1, a2, a3⟩ := av_yes he
    have hnum := (Cal.date_spec c n ((Cal.has_iff c n).1 hh)).2
    have fb := Cal.first_bd c (Cal.dY c n) (by omega) (by omega)
    have cb := Cal.cum_bd c (Cal.dY c n) (Cal.dM c n) m1 (by omega)
    have nb : -9000000 ≤ n ∧ n ≤ 9000000 := by unfold Cal.num at hnum; omega
    have HN := Lib.hid (show n - Cal.first c (Cal.dY c n) + 1 = Cal.dD c n + Cal.cum c (Cal.dY c n) (Cal.dM c n) by unfold Cal.num at hnum; omega)
    rw [a1, a2, a3, he] at D
    have HF := Lib.hid (show fv c n f = if f = 1 then Cal.dY c n else if f = 2 then Cal.dM c n else if f = 3 then seas (Cal.dM c n) else Cal.dD c n + Cal.cum c (Cal.dY c n) (Cal.dM c n) by unfold fv; rw [he]; simp)
    rw [he]
    clear hk he hh a1 a2 a3 hnum
    generalize Cal.dY c n = y at *
    generalize Cal.dM c n = m at *
    generalize Cal.dD c n = d at *
    have hff : f = 1 ∨ f = 2 ∨ f = 3 ∨ f = 4 := by omega
    rcases hff with rfl | rfl | rfl | rfl
    · go_enter Try.func40, Try.ntmps40
      go_wp2_with (go_at_call 67; refine (D _).mono ?_; rintro e w1 ⟨rfl, hb1⟩)
      go_ret2
      exact ⟨cal_two_ret (by rw [HF.out]; rfl) rfl, by (repeat (first | exact Below.refl _ _ | assumption | refine below_drewN ?_ _ | refine Below.drew ?_ | refine btrans ?_ (by assumption) | refine below_alloc ?_ _ | refine Below.setCell ?_ (by simp <;> omega) _ | refine Below.alloc ?_ (by simp <;> omega) _ | refine Below.setCell ?_ (by simp) _ | refine Below.alloc ?_ (by simp) _))⟩
    · go_enter Try.func40, Try.ntmps40
      go_wp2_with (go_at_call 67; refine (D _).mono ?_; rintro e w1 ⟨rfl, hb1⟩)
      go_ret2
      exact ⟨cal_two_ret (by rw [HF.out]; rfl) rfl, by (repeat (first | exact Below.refl _ _ | assumption | refine below_drewN ?_ _ | refine Below.drew ?_ | refine btrans ?_ (by assumption) | refine below_alloc ?_ _ | refine Below.setCell ?_ (by simp <;> omega) _ | refine Below.alloc ?_ (by simp <;> omega) _ | refine Below.setCell ?_ (by simp) _ | refine Below.alloc ?_ (by simp) _))⟩
    · go_enter Try.func40, Try.ntmps40
      go_wp2_with (first | (go_at_call 67; refine (D _).mono ?_; rintro e w1 ⟨rfl, hb1⟩) | (go_at_call 68; refine (rseason_any _ (by omega) (by omega) _).mono ?_; rintro e w' ⟨rfl, rfl⟩))
      go_ret2
      exact ⟨cal_two_ret (by rw [HF.out]; rfl) rfl, by (repeat (first | exact Below.refl _ _ | assumption | refine below_drewN ?_ _ | refine Below.drew ?_ | refine btrans ?_ (by assumption) | refine below_alloc ?_ _ | refine Below.setCell ?_ (by simp <;> omega) _ | refine Below.alloc ?_ (by simp <;> omega) _ | refine Below.setCell ?_ (by simp) _ | refine Below.alloc ?_ (by simp) _))⟩
    · go_enter Try.func40, Try.ntmps40
      go_wp2_with (first | (go_at_call 67; refine (D _).mono ?_; rintro e w1 ⟨rfl, hb1⟩) | (go_at_call 69; refine (rfirst_any _ _ (by omega) (by omega) _).mono ?_; rintro e w' ⟨rfl, k, rfl⟩))
      go_ret2
      exact ⟨cal_two_ret (by rw [HF.out, HN.out]; rfl) rfl, by (repeat (first | exact Below.refl _ _ | assumption | refine below_drewN ?_ _ | refine Below.drew ?_ | refine btrans ?_ (by assumption) | refine below_alloc ?_ _ | refine Below.setCell ?_ (by simp <;> omega) _ | refine Below.alloc ?_ (by simp <;> omega) _ | refine Below.setCell ?_ (by simp) _ | refine Below.alloc ?_ (by simp) _))⟩
  · obtain ⟨a1, a2, a3⟩ := av_no he
    obtain ⟨b1, b2⟩ := fv_no he
    rw [a1, a2, a3] at D
    rw [b1]
    clear a1 a2 a3 b1 b2
    generalize fe c n f = e0 at *
    have g1 : (e0 == 0) = false := by simpa using he
    have g2 : (e0 != 0) = true := by simpa using he
    clear he
    go_enter Try.func40, Try.ntmps40
    go_wp2_with (go_at_call 67; refine (D _).mono ?_; rintro e w1 ⟨rfl, hb1⟩)
    go_ret2
    exact ⟨rfl, by (repeat (first | exact Below.refl _ _ | assumption | refine below_drewN ?_ _ | refine Below.drew ?_ | refine btrans ?_ (by assumption) | refine below_alloc ?_ _ | refine Below.setCell ?_ (by simp <;> omega) _ | refine Below.alloc ?_ (by simp <;> omega) _ | refine Below.setCell ?_ (by simp) _ | refine Below.alloc ?_ (by simp) _))⟩

set_option maxRecDepth 100000 in
set_option maxHeartbeats 1600000 in
theorem rKey_any (c n f : Int) (w : World) :
    Calls Try.prog 42 #[.int .i64 c, .int .i64 n, .int .i64 f] w fun e w' => e = .returned (.tuple #[.int .i64 (kv c n f), .int .i64 (fe c n f)]) ∧ Below w.heap.size w w' := by
  have D := fun w => asked_any c n f w
  by_cases he : fe c n f = 0
  · obtain ⟨hk, hf1, hf2, hh⟩ := fe_ok he
    obtain ⟨y1, y2, m1, m2, d1, d2⟩ := date_bd hh
    obtain ⟨a1, a2, a3⟩ := av_yes he
    have sb := seas_bd (Cal.dM c n) m1 m2
    rw [a1, a2, a3, he] at D
    have HK := Lib.hid (show kv c n f = if f = 1 then Cal.dY c n else if f = 2 then 12 * Cal.dY c n + Cal.dM c n - 1 else if f = 3 then 4 * (Cal.dY c n + Cal.dM c n / 12) + seas (Cal.dM c n) - 1 else n by unfold kv; rw [he]; simp)
    rw [he]
    clear hk he hh a1 a2 a3
    generalize Cal.dY c n = y at *
    generalize Cal.dM c n = m at *
    generalize Cal.dD c n = d at *
    have hff : f = 1 ∨ f = 2 ∨ f = 3 ∨ f = 4 := by omega
    rcases hff with rfl | rfl | rfl | rfl
    · go_enter Try.func42, Try.ntmps42
      go_wp2_with (go_at_call 67; refine (D _).mono ?_; rintro e w1 ⟨rfl, hb1⟩)
      go_ret2
      exact ⟨cal_two_ret (by rw [HK.out]; rfl) rfl, by (repeat (first | exact Below.refl _ _ | assumption | refine below_drewN ?_ _ | refine Below.drew ?_ | refine btrans ?_ (by assumption) | refine below_alloc ?_ _ | refine Below.setCell ?_ (by simp <;> omega) _ | refine Below.alloc ?_ (by simp <;> omega) _ | refine Below.setCell ?_ (by simp) _ | refine Below.alloc ?_ (by simp) _))⟩
    · go_enter Try.func42, Try.ntmps42
      go_wp2_with (go_at_call 67; refine (D _).mono ?_; rintro e w1 ⟨rfl, hb1⟩)
      go_ret2
      exact ⟨cal_two_ret (by rw [HK.out]; rfl) rfl, by (repeat (first | exact Below.refl _ _ | assumption | refine below_drewN ?_ _ | refine Below.drew ?_ | refine btrans ?_ (by assumption) | refine below_alloc ?_ _ | refine Below.setCell ?_ (by simp <;> omega) _ | refine Below.alloc ?_ (by simp <;> omega) _ | refine Below.setCell ?_ (by simp) _ | refine Below.alloc ?_ (by simp) _))⟩
    · by_cases h12 : m = 12
      · subst h12
        go_enter Try.func42, Try.ntmps42
        go_wp2_with (first | (go_at_call 67; refine (D _).mono ?_; rintro e w1 ⟨rfl, hb1⟩) | (go_at_call 68; refine (rseason_any _ (by omega) (by omega) _).mono ?_; rintro e w' ⟨rfl, rfl⟩))
        go_ret2
        exact ⟨cal_two_ret (by rw [HK.out]; rfl) rfl, by (repeat (first | exact Below.refl _ _ | assumption | refine below_drewN ?_ _ | refine Below.drew ?_ | refine btrans ?_ (by assumption) | refine below_alloc ?_ _ | refine Below.setCell ?_ (by simp <;> omega) _ | refine Below.alloc ?_ (by simp <;> omega) _ | refine Below.setCell ?_ (by simp) _ | refine Below.alloc ?_ (by simp) _))⟩
      · have hm0 : m / 12 = 0 := by omega
        have HM := Lib.hid hm0
        clear hm0
        go_enter Try.func42, Try.ntmps42
        go_wp2_with (first | (go_at_call 67; refine (D _).mono ?_; rintro e w1 ⟨rfl, hb1⟩) | (go_at_call 68; refine (rseason_any _ (by omega) (by omega) _).mono ?_; rintro e w' ⟨rfl, rfl⟩))
        go_ret2
        exact ⟨cal_two_ret (by rw [HK.out, HM.out]; simp) rfl, by (repeat (first | exact Below.refl _ _ | assumption | refine below_drewN ?_ _ | refine Below.drew ?_ | refine btrans ?_ (by assumption) | refine below_alloc ?_ _ | refine Below.setCell ?_ (by simp <;> omega) _ | refine Below.alloc ?_ (by simp <;> omega) _ | refine Below.setCell ?_ (by simp) _ | refine Below.alloc ?_ (by simp) _))⟩
    · go_enter Try.func42, Try.ntmps42
      go_wp2_with (go_at_call 67; refine (D _).mono ?_; rintro e w1 ⟨rfl, hb1⟩)
      go_ret2
      exact ⟨cal_two_ret (by rw [HK.out]; rfl) rfl, by (repeat (first | exact Below.refl _ _ | assumption | refine below_drewN ?_ _ | refine Below.drew ?_ | refine btrans ?_ (by assumption) | refine below_alloc ?_ _ | refine Below.setCell ?_ (by simp <;> omega) _ | refine Below.alloc ?_ (by simp <;> omega) _ | refine Below.setCell ?_ (by simp) _ | refine Below.alloc ?_ (by simp) _))⟩
  · obtain ⟨a1, a2, a3⟩ := av_no he
    obtain ⟨b1, b2⟩ := fv_no he
    rw [a1, a2, a3] at D
    rw [b2]
    clear a1 a2 a3 b1 b2
    generalize fe c n f = e0 at *
    have g1 : (e0 == 0) = false := by simpa using he
    have g2 : (e0 != 0) = true := by simpa using he
    clear he
    go_enter Try.func42, Try.ntmps42
    go_wp2_with (go_at_call 67; refine (D _).mono ?_; rintro e w1 ⟨rfl, hb1⟩)
    go_ret2
    exact ⟨rfl, by (repeat (first | exact Below.refl _ _ | assumption | refine below_drewN ?_ _ | refine Below.drew ?_ | refine btrans ?_ (by assumption) | refine below_alloc ?_ _ | refine Below.setCell ?_ (by simp <;> omega) _ | refine Below.alloc ?_ (by simp <;> omega) _ | refine Below.setCell ?_ (by simp) _ | refine Below.alloc ?_ (by simp) _))⟩

end Go.Proofs.Ytnjjkcnokkhlkaa
