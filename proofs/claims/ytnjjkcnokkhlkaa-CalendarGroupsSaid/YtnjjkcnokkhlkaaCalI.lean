/- The walks of the calendar's functions, part I: the reference's date and DateOf. -/
import Derived.Test.YtnjjkcnokkhlkaaCalH
namespace Go.Proofs.Ytnjjkcnokkhlkaa
open Go.RowKit

/-- What the loops of the reference's date keep. -/
def DV (B : Nat) (y m d : Int) (w wr : World) : Prop :=
  wr.cell? ⟨B, 0, none⟩ = some (.int .i64 0) ∧ wr.cell? ⟨B, 1, none⟩ = some (.int .i64 0) ∧ wr.cell? ⟨B, 2, none⟩ = some (.int .i64 0)
  ∧ wr.cell? ⟨B + 1, 0, none⟩ = some (.int .i64 y) ∧ wr.cell? ⟨B + 1, 1, none⟩ = some (.int .i64 m) ∧ wr.cell? ⟨B + 1, 2, none⟩ = some (.int .i64 d)
  ∧ (∀ o, wr.frozen? ⟨B, o, none⟩ = false) ∧ (∀ o, wr.frozen? ⟨B + 1, o, none⟩ = false) ∧ B + 1 < wr.heap.size ∧ Below B w wr

theorem DV_year {B : Nat} {y m d y' : Int} {w wr : World} (h : DV B y m d w wr) : DV B y' m d w (wr.setCell ⟨B + 1, 0, none⟩ (.int .i64 y')) := by
  obtain ⟨r0, r1, r2, d0, d1, d2, fr, fd, hz, hbl⟩ := h
  refine ⟨?_, ?_, ?_, ?_, ?_, ?_, ?_, ?_, ?_, ?_⟩
  · simp [go_sem, r0]
  · simp [go_sem, r1]
  · simp [go_sem, r2]
  · simp [go_sem, d0]
  · simp [go_sem, d1]
  · simp [go_sem, d2]
  · intro o; simp [go_sem, fr]
  · intro o; simp [go_sem, fd]
  · simpa [World.setCell] using hz
  · exact hbl.setCell (by simp) _
theorem DV_month {B : Nat} {y m d m' : Int} {w wr : World} (h : DV B y m d w wr) : DV B y m' d w (wr.setCell ⟨B + 1, 1, none⟩ (.int .i64 m')) := by
  obtain ⟨r0, r1, r2, d0, d1, d2, fr, fd, hz, hbl⟩ := h
  refine ⟨?_, ?_, ?_, ?_, ?_, ?_, ?_, ?_, ?_, ?_⟩
  · simp [go_sem, r0]
  · simp [go_sem, r1]
  · simp [go_sem, r2]
  · simp [go_sem, d0]
  · simp [go_sem, d1]
  · simp [go_sem, d2]
  · intro o; simp [go_sem, fr]
  · intro o; simp [go_sem, fd]
  · simpa [World.setCell] using hz
  · exact hbl.setCell (by simp) _

theorem cyc_div (c n : Int) (h1 : -7320000 ≤ n) (h2 : n ≤ 7320000) : -60 ≤ n / Cal.cyc c ∧ n / Cal.cyc c ≤ 60 := by
  have hc := cyc_bd c
  have e1 : -60 ≤ n / Cal.cyc c := by
    rw [Int.le_ediv_iff_mul_le (by omega)]; omega
  have e2 : n / Cal.cyc c < 61 := by
    rw [Int.ediv_lt_iff_lt_mul (by omega)]; omega
  omega

set_option maxRecDepth 100000 in
set_option maxHeartbeats 1600000 in
theorem rdate_no (c n : Int) (hk : kn c = true) (ho : Cal.has c n = false) (w : World) :
    Calls Try.prog 54 #[.int .i64 c, .int .i64 n] w fun e w' => e = .returned (.tuple #[dt 0 0 0, .bool false]) ∧ Below w.heap.size w w' := by
  have F1 := Cal.first_bd c (-9999) (by omega) (by omega)
  have F2 := Cal.first_bd c 9999 (by omega) (by omega)
  have F3 := Cal.ylen_pos c 9999
  rcases has_not c n hk ho with h | ⟨h, h'⟩
  · have hg : decide (n < Cal.first c (-9999)) = true := by simpa using h
    clear hk ho
    go_enter Try.func54, Try.ntmps54
    go_wp2_with (go_at_call 69; refine (rfirst_any _ _ (by omega) (by omega) _).mono ?_; rintro e w1 ⟨rfl, k, rfl⟩)
    refine bodyPost_ret (v := .tuple #[dt 0 0 0, .bool false]) (by simp [results, Try.results54, go_sem]) rfl ⟨rfl, ?_⟩
    (repeat (first | exact Below.refl _ _ | assumption | refine below_drewN ?_ _ | refine Below.drew ?_ | refine btrans ?_ (by assumption) | refine below_alloc ?_ _ | refine Below.setCell ?_ (by simp <;> omega) _ | refine Below.alloc ?_ (by simp <;> omega) _ | refine Below.setCell ?_ (by simp) _ | refine Below.alloc ?_ (by simp) _))
  · have hg : decide (n < Cal.first c (-9999)) = false := by simpa using h
    have h2 : Cal.first c 9999 + Cal.ylen c 9999 ≤ n := by have := Cal.first_succ c 9999; have e : Cal.first c (9999 + 1) = Cal.first c 10000 := rfl; omega
    clear hk ho h'
    go_enter Try.func54, Try.ntmps54
    go_wp2_with (first | (go_at_call 69; refine (rfirst_any _ _ (by omega) (by omega) _).mono ?_; rintro e w1 ⟨rfl, k, rfl⟩) | (go_at_call 60; refine (rlength_any _ _ _).mono ?_; rintro e w1 ⟨rfl, rfl⟩))
    refine bodyPost_ret (v := .tuple #[dt 0 0 0, .bool false]) (by simp [results, Try.results54, go_sem]) rfl ⟨rfl, ?_⟩
    (repeat (first | exact Below.refl _ _ | assumption | refine below_drewN ?_ _ | refine Below.drew ?_ | refine btrans ?_ (by assumption) | refine below_alloc ?_ _ | refine Below.setCell ?_ (by simp <;> omega) _ | refine Below.alloc ?_ (by simp <;> omega) _ | refine Below.setCell ?_ (by simp) _ | refine Below.alloc ?_ (by simp) _))

set_option maxRecDepth 100000 in
set_option maxHeartbeats 1600000 in
theorem rdate_yes (c n : Int) (ho : Cal.has c n = true) (w : World) :
    Calls Try.prog 54 #[.int .i64 c, .int .i64 n] w fun e w' => e = .returned (.tuple #[dt (Cal.dY c n) (Cal.dM c n) (Cal.dD c n), .bool true]) ∧ Below w.heap.size w w' := by
  obtain ⟨_, _, n1, n2⟩ := (Cal.has_iff c n).1 ho
  have F1 := Cal.first_bd c (-9999) (by omega) (by omega)
  have F2 := Cal.first_bd c 9999 (by omega) (by omega)
  have F3 := Cal.ylen_pos c 9999
  have F4 := Cal.first_bd c 10000 (by omega) (by omega)
  have hg : decide (n < Cal.first c (-9999)) = false := by simp; omega
  have h2 : decide (Cal.first c 9999 + Cal.ylen c 9999 ≤ n) = false := by have := Cal.first_succ c 9999; have e : Cal.first c (9999 + 1) = Cal.first c 10000 := rfl; simp; omega
  have hc := cyc_bd c
  obtain ⟨q1, q2⟩ := cyc_div c n (by omega) (by omega)
  have hqr := Int.mul_ediv_add_emod n (Cal.cyc c)
  have r1 := Int.emod_nonneg n (show Cal.cyc c ≠ 0 by omega)
  have r2 := Int.emod_lt_of_pos n (show 0 < Cal.cyc c by omega)
  have P := fun w => part_any n (Cal.cyc c) (by omega) (by omega) (by omega) (by omega) w
  have HF := Lib.hid (show Cal.first c (400 * (n / Cal.cyc c)) + n % Cal.cyc c = n by
    have := Cal.first_cyc c (n / Cal.cyc c) 0
    rw [Cal.first_zero, Int.add_zero, Int.add_zero] at this
    rw [this, Int.mul_comm]; omega)
  generalize n / Cal.cyc c = q at *
  generalize n % Cal.cyc c = r at *
  clear hqr ho
  have tok1 : True := trivial
  go_enter Try.func54, Try.ntmps54
  go_wp2_with (first | (go_at_call 69; have _t := tok1; refine (rfirst_any _ _ (by omega) (by omega) _).mono ?_; rintro e w1 ⟨rfl, k, rfl⟩; clear tok1 _t) | (go_at_call 69; refine (rfirst_any _ _ (by omega) (by omega) _).mono ?_; rintro e w1 ⟨rfl, k1, rfl⟩) | (go_at_call 63; refine (P _).mono ?_; rintro e w1 ⟨rfl, k2, rfl⟩) | (go_at_call 73; refine (cycle_any _ _).mono ?_; rintro e w1 ⟨rfl, rfl⟩) | (go_at_call 60; refine (rlength_any _ _ _).mono ?_; rintro e w1 ⟨rfl, rfl⟩))
  have hy0 : 400 * q ≤ 9999 := by
    by_cases h : 10000 ≤ 400 * q
    · have := Cal.first_mono c 10000 (400 * q) h; have := HF.out; omega
    · omega
  have DV0 : DV w.heap.size (400 * q) 1 1 w (((w.alloc (Obj.cells #[Value.int IntKind.i64 0, Value.int IntKind.i64 0, Value.int IntKind.i64 0] 23)).drewN
      (k + k1 + k2)).alloc (Obj.cells #[Value.int IntKind.i64 (400 * q), Value.int IntKind.i64 1, Value.int IntKind.i64 1] 23)) := by
    refine ⟨by simp [go_sem], by simp [go_sem], by simp [go_sem], by simp [go_sem], by simp [go_sem], by simp [go_sem], by intro o; simp [go_sem], by intro o; simp [go_sem], by simp, ?_⟩
    (repeat (first | exact Below.refl _ _ | assumption | refine below_drewN ?_ _ | refine Below.drew ?_ | refine btrans ?_ (by assumption) | refine below_alloc ?_ _ | refine Below.setCell ?_ (by simp <;> omega) _ | refine Below.alloc ?_ (by simp <;> omega) _ | refine Below.setCell ?_ (by simp) _ | refine Below.alloc ?_ (by simp) _))
  generalize ((w.alloc (Obj.cells #[Value.int IntKind.i64 0, Value.int IntKind.i64 0, Value.int IntKind.i64 0] 23)).drewN
      (k + k1 + k2)).alloc (Obj.cells #[Value.int IntKind.i64 (400 * q), Value.int IntKind.i64 1, Value.int IntKind.i64 1] 23) = w1 at *
  clear F1 F2 F3 P hg h2
  go_loopw [7] (fun s wr => ∃ y r' : Int, s = .int .i64 r' ∧ 0 ≤ r' ∧ r' ≤ 200000 ∧ Cal.first c y + r' = n ∧ 400 * q ≤ y ∧ y ≤ 9999 ∧ DV w.heap.size y 1 1 w wr) (fun s _ => (intOf s).toNat)
  case atStart => exact ⟨400 * q, r, rfl, r1, by omega, HF.out, by omega, hy0, DV0⟩
  case round =>
    obtain ⟨y, r', rfl, hr1, hr2, hn, hy1, hy2, r0, rr1, rr2, d0, d1, d2, fr, fd, hz, hbl⟩ := hrel
    have hdv := show DV w.heap.size y 1 1 w wr from ⟨r0, rr1, rr2, d0, d1, d2, fr, fd, hz, hbl⟩
    have HN := Lib.hid hn
    have HS := Lib.hid (Cal.first_succ c y)
    have hl := Cal.ylen_pos c y
    clear hn
    by_cases hge : Cal.ylen c y ≤ r'
    · go_wp2_with (go_at_call 60; refine (rlength_any _ _ _).mono ?_; rintro e w1 ⟨rfl, rfl⟩)
      go_roundw
      case rel =>
        have hy3 : y + 1 ≤ 9999 := by
          by_cases h : 10000 ≤ y + 1
          · have := Cal.first_mono c 10000 (y + 1) h; have := HN.out; have := HS.out; omega
          · omega
        exact ⟨y + 1, r' - Cal.ylen c y, rfl, by omega, by omega, by rw [HS.out]; have := HN.out; omega, by omega, hy3, DV_year hdv⟩
      case measure => simp [intOf]; omega
    · have HY : Hid (Cal.dY c n = y) := Cal.yearOf_eq c n y (by
        by_cases h : y + 1 ≤ -9999
        · have := Cal.first_mono c (y + 1) (-9999) h; have := HN.out; have := HS.out; omega
        · omega) hy2 (by have := HN.out; omega) (by have := HN.out; have := HS.out; omega)
      go_wp2_with (go_at_call 60; refine (rlength_any _ _ _).mono ?_; rintro e w1 ⟨rfl, rfl⟩)
      clear r0 rr1 rr2 d0 d1 d2 fr fd hz hbl
      obtain ⟨wo, hwo⟩ : ∃ wo : World, wo = wr := ⟨_, rfl⟩
      rw [← hwo] at hdv ⊢
      clear hwo
      have hr3 : r' < Cal.ylen c y := by omega
      have H13 := Lib.hid (Cal.cum_year c y)
      go_loopw [7] (fun s wr => ∃ m r2 : Int, s = .int .i64 r2 ∧ 0 ≤ r2 ∧ r2 ≤ 366 ∧ Cal.cum c y m + r2 = r' ∧ 1 ≤ m ∧ m ≤ 12 ∧ DV w.heap.size y m 1 w wr) (fun s _ => (intOf s).toNat)
      case atStart => exact ⟨1, r', rfl, by omega, by omega, by rw [Cal.cum_one]; omega, by omega, by omega, hdv⟩
      case round =>
        obtain ⟨m, r2, rfl, hs1, hs2, hcm, hm1, hm2, r0, rr1, rr2, d0, d1, d2, fr, fd, hz, hbl⟩ := hrel
        have hdv := show DV w.heap.size y m 1 w wr from ⟨r0, rr1, rr2, d0, d1, d2, fr, fd, hz, hbl⟩
        have HC := Lib.hid hcm
        have HM := Lib.hid (Cal.cum_succ c y m hm1 hm2)
        have hm := Cal.mlen_bd c y m
        clear hcm
        by_cases hge2 : Cal.mlen c y m ≤ r2
        · go_wp2_with (go_at_call 59; refine (rdays_any _ _ _ _).mono ?_; rintro e w1 ⟨rfl, rfl⟩)
          go_roundw
          case rel =>
            have hm3 : m + 1 ≤ 12 := by
              by_cases h : m = 12
              · subst h; have h13 : Cal.cum c y (12 + 1) = Cal.ylen c y := H13.out; have := HC.out; have := HM.out; omega
              · omega
            exact ⟨m + 1, r2 - Cal.mlen c y m, rfl, by omega, by omega, by rw [HM.out]; have := HC.out; omega, by omega, hm3, DV_month hdv⟩
          case measure => simp [intOf]; omega
        · have hdm : Cal.dM c n = m := by
            unfold Cal.dM
            rw [HY.out]
            exact Cal.monthOf_eq c y _ m hm1 hm2 (by have := HN.out; have := HC.out; omega) (by have := HN.out; have := HC.out; have := HM.out; omega)
          have hdd : Cal.dD c n = r2 + 1 := by unfold Cal.dD; rw [hdm, HY.out]; have := HN.out; have := HC.out; omega
          have HDM := Lib.hid hdm
          have HDD := Lib.hid hdd
          clear hdm hdd
          go_wp2_with (go_at_call 59; refine (rdays_any _ _ _ _).mono ?_; rintro e w1 ⟨rfl, rfl⟩)
          refine bodyPost_ret (v := .tuple #[dt y m (r2 + 1), .bool true]) (by simp [results, Try.results54, go_sem, r0, rr1, rr2]) rfl ⟨by rw [HY.out, HDM.out, HDD.out], ?_⟩
          (repeat (first | exact Below.refl _ _ | assumption | refine below_drewN ?_ _ | refine Below.drew ?_ | refine btrans ?_ (by assumption) | refine below_alloc ?_ _ | refine Below.setCell ?_ (by simp <;> omega) _ | refine Below.alloc ?_ (by simp <;> omega) _ | refine Below.setCell ?_ (by simp) _ | refine Below.alloc ?_ (by simp) _))


theorem rdate_any (c n : Int) (hk : kn c = true) (w : World) :
    Calls Try.prog 54 #[.int .i64 c, .int .i64 n] w fun e w' => e = .returned (.tuple #[dt (dvY c n) (dvM c n) (dvD c n), .bool (Cal.has c n)]) ∧ Below w.heap.size w w' := by
  cases ho : Cal.has c n
  · have hd : dke c n ≠ 0 := by unfold dke; simp [hk, ho]
    obtain ⟨h1, h2, h3⟩ := dv_no hd
    rw [h1, h2, h3]
    exact rdate_no c n hk ho w
  · have hd : dke c n = 0 := by unfold dke; simp [hk, ho]
    obtain ⟨h1, h2, h3⟩ := dv_yes hd
    rw [h1, h2, h3]
    exact rdate_yes c n ho w

set_option maxHeartbeats 800000 in
theorem rDateOf_any (c n : Int) (w : World) :
    Calls Try.prog 18 #[.int .i64 c, .int .i64 n] w fun e w' => e = .returned (.tuple #[dt (dvY c n) (dvM c n) (dvD c n), .int .i64 (dke c n)]) ∧ Below w.heap.size w w' := by
  rcases dke_cases c n with ⟨hk, hd⟩ | ⟨hk, ho, hd⟩ | ⟨hk, ho, hd⟩
  · obtain ⟨h1, h2, h3⟩ := dv_no (show dke c n ≠ 0 by omega)
    rw [h1, h2, h3]
    have G := Lib.hid (show (20 : Int) = dke c n by rw [hd])
    have C := fun w => rname_no hk w
    clear hk hd h1 h2 h3
    go_enter Try.func18, Try.ntmps18
    go_wp2_with (go_at_call 34; refine (C _).mono ?_; rintro e w1 ⟨rfl, hb⟩; obtain ⟨hcell, hfroz⟩ := bcell hb; have hz := lt_of_below_alloc hb)
    have hb' := ((Below.refl _ _).alloc (Nat.le_refl _) _).trans (hb.mono (by simp))
    refine bodyPost_ret (v := .tuple #[dt 0 0 0, .int .i64 20]) (by simp [results, Try.results18, go_sem, hcell]) rfl ⟨by rw [G.out], ?_⟩
    (repeat (first | exact Below.refl _ _ | assumption | refine below_drewN ?_ _ | refine Below.drew ?_ | refine btrans ?_ (by assumption) | refine below_alloc ?_ _ | refine Below.setCell ?_ (by simp <;> omega) _ | refine Below.alloc ?_ (by simp <;> omega) _ | refine Below.setCell ?_ (by simp) _ | refine Below.alloc ?_ (by simp) _))
  · obtain ⟨h1, h2, h3⟩ := dv_no (show dke c n ≠ 0 by omega)
    have C := fun w => rname_yes hk w
    have D := fun w => rdate_any c n hk w
    rw [h1, h2, h3] at *
    rw [ho] at D
    have G := Lib.hid (show (21 : Int) = dke c n by rw [hd])
    clear hk hd h1 h2 h3 ho
    go_enter Try.func18, Try.ntmps18
    go_wp2_with (first | (go_at_call 34; refine (C _).mono ?_; rintro e w1 ⟨s, rfl, hs, hb⟩; obtain ⟨hcell, hfroz⟩ := bcell hb; have hz := lt_of_below_alloc hb) | (go_at_call 54; refine (D _).mono ?_; rintro e w2 ⟨rfl, hb2⟩; obtain ⟨hcell2, hfroz2⟩ := bcell hb2; have hz2 : w.heap.size < w2.heap.size := Nat.lt_of_lt_of_le hz hb2.size))
    have hb' := (((Below.refl _ _).alloc (Nat.le_refl _) _).trans (hb.mono (by simp))).trans (hb2.mono (by omega))
    refine bodyPost_ret (v := .tuple #[dt 0 0 0, .int .i64 21]) (by simp [results, Try.results18, go_sem, hcell, hcell2, hz, hz2]) rfl ⟨by rw [G.out], ?_⟩
    (repeat (first | exact Below.refl _ _ | assumption | refine below_drewN ?_ _ | refine Below.drew ?_ | refine btrans ?_ (by assumption) | refine below_alloc ?_ _ | refine Below.setCell ?_ (by simp <;> omega) _ | refine Below.alloc ?_ (by simp <;> omega) _ | refine Below.setCell ?_ (by simp) _ | refine Below.alloc ?_ (by simp) _))
  · have C := fun w => rname_yes hk w
    have D := fun w => rdate_any c n hk w
    rw [ho] at D
    have G := Lib.hid (show (0 : Int) = dke c n by rw [hd])
    clear hk hd ho
    go_enter Try.func18, Try.ntmps18
    go_wp2_with (first | (go_at_call 34; refine (C _).mono ?_; rintro e w1 ⟨s, rfl, hs, hb⟩; obtain ⟨hcell, hfroz⟩ := bcell hb; have hz := lt_of_below_alloc hb) | (go_at_call 54; refine (D _).mono ?_; rintro e w2 ⟨rfl, hb2⟩; obtain ⟨hcell2, hfroz2⟩ := bcell hb2; have hz2 : w.heap.size < w2.heap.size := Nat.lt_of_lt_of_le hz hb2.size))
    have hb' := (((Below.refl _ _).alloc (Nat.le_refl _) _).trans (hb.mono (by simp))).trans (hb2.mono (by omega))
    refine bodyPost_ret (v := .tuple #[dt (dvY c n) (dvM c n) (dvD c n), .int .i64 0]) (by simp [results, Try.results18, go_sem, hcell, hcell2, hz, hz2]) rfl ⟨by rw [G.out], ?_⟩
    (repeat (first | exact Below.refl _ _ | assumption | refine below_drewN ?_ _ | refine Below.drew ?_ | refine btrans ?_ (by assumption) | refine below_alloc ?_ _ | refine Below.setCell ?_ (by simp <;> omega) _ | refine Below.alloc ?_ (by simp <;> omega) _ | refine Below.setCell ?_ (by simp) _ | refine Below.alloc ?_ (by simp) _))

end Go.Proofs.Ytnjjkcnokkhlkaa
