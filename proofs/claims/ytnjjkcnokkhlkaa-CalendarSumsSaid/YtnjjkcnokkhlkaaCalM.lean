/- The walks of the calendar's functions, part M: AddMonths of the program. -/
import Derived.Test.YtnjjkcnokkhlkaaCalL
import Derived.Deep.DeepCutAuto
namespace Go.Proofs.Ytnjjkcnokkhlkaa
open Go.RowKit

/-- The month, counted from the year 0, that AddMonths comes to. -/
def amA (y m n : Int) : Int := 12 * y + m - 1 + n
/-- The first error of AddMonths. -/
def amE (c y m d n : Int) : Int := if dck c y m d ≠ 0 then dck c y m d else if n < -240000 ∨ 240000 < n then 2 else if yr (amA y m n / 12) = false then 21 else 0
def amY (c y m d n : Int) : Int := if amE c y m d n = 0 then amA y m n / 12 else 0
def amM (c y m d n : Int) : Int := if amE c y m d n = 0 then amA y m n % 12 + 1 else 0
def amD (c y m d n : Int) : Int := if amE c y m d n = 0 then min d (Cal.mlen c (amA y m n / 12) (amA y m n % 12 + 1)) else 0

theorem am_cases (c y m d n : Int) : (dck c y m d ≠ 0 ∧ amE c y m d n = dck c y m d) ∨ (dck c y m d = 0 ∧ (n < -240000 ∨ 240000 < n) ∧ amE c y m d n = 2)
    ∨ (dck c y m d = 0 ∧ -240000 ≤ n ∧ n ≤ 240000 ∧ yr (amA y m n / 12) = false ∧ amE c y m d n = 21)
    ∨ (dck c y m d = 0 ∧ -240000 ≤ n ∧ n ≤ 240000 ∧ yr (amA y m n / 12) = true ∧ amE c y m d n = 0) := by
  unfold amE
  by_cases h : dck c y m d = 0
  · by_cases h2 : n < -240000 ∨ 240000 < n
    · simp [h, h2]
    · cases h3 : yr (amA y m n / 12)
      · simp [h, h2]; omega
      · simp [h, h2]; omega
  · simp [h]
theorem am_no {c y m d n : Int} (h : amE c y m d n ≠ 0) : amY c y m d n = 0 ∧ amM c y m d n = 0 ∧ amD c y m d n = 0 := by unfold amY amM amD; simp [h]
theorem am_yes {c y m d n : Int} (h : amE c y m d n = 0) : amY c y m d n = amA y m n / 12 ∧ amM c y m d n = amA y m n % 12 + 1 ∧ amD c y m d n = min d (Cal.mlen c (amA y m n / 12) (amA y m n % 12 + 1)) := by unfold amY amM amD; simp [h]
theorem dck_vld {c y m d : Int} (h : dck c y m d = 0) : Cal.vld c y m d = true := by
  rcases dck_cases c y m d with ⟨_, h'⟩ | ⟨_, _, h'⟩ | ⟨_, h', _⟩
  · omega
  · omega
  · exact h'

set_option maxRecDepth 100000 in
set_option maxHeartbeats 1600000 in
theorem AddMonths_err (c y m d n : Int) (he : amE c y m d n ≠ 0) (w : World) :
    Calls Try.prog 29 #[.int .i64 c, dt y m d, .int .i64 n] w fun e w' => e = .returned (.tuple #[dt 0 0 0, .int .i64 (amE c y m d n)]) ∧ Below w.heap.size w w' := by
  have C := fun w => date_any c y m d w
  rcases am_cases c y m d n with ⟨h1, e1⟩ | ⟨h1, h2, e1⟩ | ⟨h1, h2, h3, h4, e1⟩ | ⟨_, _, _, _, e1⟩
  · rw [e1]
    clear e1 he
    generalize dck c y m d = e0 at *
    have g1 : (e0 == 0) = false := by simpa using h1
    have g2 : (e0 != 0) = true := by simpa using h1
    clear h1
    go_enter Try.func29, Try.ntmps29
    go_wp2_with (go_at_call 46; refine (C _).mono ?_; rintro e w1 ⟨rfl, hb1⟩; obtain ⟨hc1, hf1⟩ := bcell hb1; obtain ⟨ha1, hz1⟩ := lt_of_below_alloc2 hb1)
    refine bodyPost_ret (v := .tuple #[dt 0 0 0, .int .i64 e0]) (by simp [results, Try.results29, go_sem, hc1]) rfl ⟨rfl, ?_⟩
    (repeat (first | exact Below.refl _ _ | assumption | refine below_drewN ?_ _ | refine Below.drew ?_ | refine btrans ?_ (by assumption) | refine below_alloc ?_ _ | refine Below.setCell ?_ (by simp <;> omega) _ | refine Below.alloc ?_ (by simp <;> omega) _ | refine Below.setCell ?_ (by simp) _ | refine Below.alloc ?_ (by simp) _))
  · rw [e1]
    rw [h1] at C
    clear e1 he h1
    by_cases h : n < -240000
    · clear h2
      go_enter Try.func29, Try.ntmps29
      go_wp2_with (go_at_call 46; refine (C _).mono ?_; rintro e w1 ⟨rfl, hb1⟩; obtain ⟨hc1, hf1⟩ := bcell hb1; obtain ⟨ha1, hz1⟩ := lt_of_below_alloc2 hb1)
      refine bodyPost_ret (v := .tuple #[dt 0 0 0, .int .i64 2]) (by simp [results, Try.results29, go_sem, hc1]) rfl ⟨rfl, ?_⟩
      (repeat (first | exact Below.refl _ _ | assumption | refine below_drewN ?_ _ | refine Below.drew ?_ | refine btrans ?_ (by assumption) | refine below_alloc ?_ _ | refine Below.setCell ?_ (by simp <;> omega) _ | refine Below.alloc ?_ (by simp <;> omega) _ | refine Below.setCell ?_ (by simp) _ | refine Below.alloc ?_ (by simp) _))
    · have h' : 240000 < n := by omega
      clear h2
      go_enter Try.func29, Try.ntmps29
      go_wp2_with (go_at_call 46; refine (C _).mono ?_; rintro e w1 ⟨rfl, hb1⟩; obtain ⟨hc1, hf1⟩ := bcell hb1; obtain ⟨ha1, hz1⟩ := lt_of_below_alloc2 hb1)
      refine bodyPost_ret (v := .tuple #[dt 0 0 0, .int .i64 2]) (by simp [results, Try.results29, go_sem, hc1]) rfl ⟨rfl, ?_⟩
      (repeat (first | exact Below.refl _ _ | assumption | refine below_drewN ?_ _ | refine Below.drew ?_ | refine btrans ?_ (by assumption) | refine below_alloc ?_ _ | refine Below.setCell ?_ (by simp <;> omega) _ | refine Below.alloc ?_ (by simp <;> omega) _ | refine Below.setCell ?_ (by simp) _ | refine Below.alloc ?_ (by simp) _))
  · rw [e1]
    obtain ⟨y1, y2, m1, m2, d1, d2⟩ := vld_bd (dck_vld h1)
    have Y := fun w => years_any (amA y m n / 12) w
    rw [h4] at Y
    unfold amA at Y
    rw [h1] at C
    clear e1 he h1 h4
    go_enter Try.func29, Try.ntmps29
    go_wp2_with (go_at_call 46; refine (C _).mono ?_; rintro e w1 ⟨rfl, hb1⟩; obtain ⟨hc1, hf1⟩ := bcell hb1; obtain ⟨ha1, hz1⟩ := lt_of_below_alloc2 hb1)
    have q2 : w1.cell? ⟨w.heap.size, 2, none⟩ = some (.int .i64 d) := by rw [hc1 _ _ (by simp; omega)]; simp [go_sem]
    have n2 := World.new_ne w1 ⟨w.heap.size, 2, none⟩ q2
    go_region_held3 (fun w' => w'.cell? ⟨w.heap.size, 2, none⟩ = some (.int .i64 d)) (go_keep)
      (first
        | (go_at_call 61; refine (floor_any _ _ (by omega) (by omega) (by omega) _).mono ?_; rintro e w' ⟨rfl, rfl⟩))
    all_goals go_wp2_with (go_at_call 62; refine (Y _).mono ?_; rintro e w' ⟨rfl, rfl⟩)
    all_goals refine bodyPost_ret (v := .tuple #[dt 0 0 0, .int .i64 21]) (by simp [results, Try.results29, go_sem, hc1, ha1]) rfl ⟨rfl, ?_⟩
    all_goals (repeat (first | exact Below.refl _ _ | assumption | refine below_drewN ?_ _ | refine Below.drew ?_ | refine btrans ?_ (by assumption) | refine below_alloc ?_ _ | refine Below.setCell ?_ (by simp <;> omega) _ | refine Below.alloc ?_ (by simp <;> omega) _ | refine Below.setCell ?_ (by simp) _ | refine Below.alloc ?_ (by simp) _))
  · exact absurd e1 he

/-- What AddMonths knows behind the making of its result: the result's cells, the new date's cells, and all that was there before the call. -/
def AW (B O : Nat) (y m d : Int) (w wr : World) : Prop :=
  wr.cell? ⟨B + 1, 0, none⟩ = some (.int .i64 0) ∧ wr.cell? ⟨B + 1, 1, none⟩ = some (.int .i64 0) ∧ wr.cell? ⟨B + 1, 2, none⟩ = some (.int .i64 0)
  ∧ wr.cell? ⟨O, 0, none⟩ = some (.int .i64 y) ∧ wr.cell? ⟨O, 1, none⟩ = some (.int .i64 m) ∧ wr.cell? ⟨O, 2, none⟩ = some (.int .i64 d)
  ∧ (∀ o, wr.frozen? ⟨B + 1, o, none⟩ = false) ∧ (∀ o, wr.frozen? ⟨O, o, none⟩ = false) ∧ B + 1 < O ∧ O < wr.heap.size ∧ Below B w wr

theorem AW_end {B O : Nat} {y m d d' : Int} {w W w2 : World} (h : AW B O y m d w W) (hb : Below W.heap.size W w2) : AW B O y m d' w (w2.setCell ⟨O, 2, none⟩ (.int .i64 d')) := by
  obtain ⟨r0, r1, r2, o0, o1, o2, fr, fo, hO, hz, hbl⟩ := h
  obtain ⟨p0, p1, p2, hz2⟩ := keep3 (b := O) hb hz o0 o1 o2
  obtain ⟨s0, s1, s2, _⟩ := keep3 (b := B + 1) hb (by omega) r0 r1 r2
  have fr' : ∀ o, w2.frozen? ⟨B + 1, o, none⟩ = false := fun o => ((bcell hb).2 _ _ (by omega)).trans (fr o)
  have fo' : ∀ o, w2.frozen? ⟨O, o, none⟩ = false := fun o => ((bcell hb).2 _ _ hz).trans (fo o)
  refine ⟨?_, ?_, ?_, ?_, ?_, ?_, ?_, ?_, hO, ?_, ?_⟩
  · rw [World.cell?_setCell_far _ _ _ _ (by simp; omega)]; exact s0
  · rw [World.cell?_setCell_far _ _ _ _ (by simp; omega)]; exact s1
  · rw [World.cell?_setCell_far _ _ _ _ (by simp; omega)]; exact s2
  · simp [go_sem, p0]
  · simp [go_sem, p1]
  · simp [go_sem, p2]
  · intro o; simp [go_sem, fr']
  · intro o; simp [go_sem, fo']
  · simpa [World.setCell] using hz2
  · exact (hbl.trans (hb.mono (by omega))).setCell (by simp; omega) _

theorem AW_end2 {B O : Nat} {y m d d' d2 : Int} {w W w2 : World} (h : AW B O y m d w W) (hb : Below W.heap.size W w2) (he : d2 = d') : AW B O y m d' w (w2.setCell ⟨O, 2, none⟩ (.int .i64 d2)) := by
  subst he; exact AW_end h hb

set_option maxRecDepth 100000 in
set_option maxHeartbeats 3200000 in
theorem AddMonths_ok (c y m d n : Int) (h1 : dck c y m d = 0) (h2 : -240000 ≤ n) (h3 : n ≤ 240000) (h4 : yr (amA y m n / 12) = true) (w : World) :
    Calls Try.prog 29 #[.int .i64 c, dt y m d, .int .i64 n] w fun e w' =>
      e = .returned (.tuple #[dt (amA y m n / 12) (amA y m n % 12 + 1) (min d (Cal.mlen c (amA y m n / 12) (amA y m n % 12 + 1))), .int .i64 0]) ∧ Below w.heap.size w w' := by
  have C := fun w => date_any c y m d w
  obtain ⟨y1, y2, m1, m2, d1, d2⟩ := vld_bd (dck_vld h1)
  have Y := fun w => years_any (amA y m n / 12) w
  rw [h4] at Y
  have hyr := (yr_iff _).1 h4
  unfold amA at *
  rw [h1] at C
  clear h1 h4
  go_enter Try.func29, Try.ntmps29
  go_upto_region 7 with (go_at_call 46; refine (C _).mono ?_; rintro e w1 ⟨rfl, hb1⟩; obtain ⟨hc1, hf1⟩ := bcell hb1; obtain ⟨ha1, hz1⟩ := lt_of_below_alloc2 hb1)
  go_cut [10] (fun s wx => ∃ O, s = .pointer (some ⟨O, 0, none⟩) ∧ AW w.heap.size O ((12 * y + m - 1 + n) / 12) 0 d w wx)
  case first =>
    have q2 : w1.cell? ⟨w.heap.size, 2, none⟩ = some (.int .i64 d) := by rw [hc1 _ _ (by simp; omega)]; simp [go_sem]
    have n2 := World.new_ne w1 ⟨w.heap.size, 2, none⟩ q2
    go_region_held3 (fun w' => w'.cell? ⟨w.heap.size, 2, none⟩ = some (.int .i64 d)) (go_keep)
      (first
        | (go_at_call 61; refine (floor_any _ _ (by omega) (by omega) (by omega) _).mono ?_; rintro e w' ⟨rfl, rfl⟩))
    all_goals (go_wp2_with fail)
    all_goals go_meet
    all_goals refine ⟨w1.heap.size, rfl, ?_⟩
    all_goals refine ⟨?_, ?_, ?_, ?_, ?_, ?_, ?_, ?_, by omega, by simp, ?_⟩
    all_goals first | (simp [go_sem, hc1, ha1]; done) | (intro o; simp [go_sem, hf1, ha1]; done) | ((repeat (first | exact Below.refl _ _ | assumption | refine below_drewN ?_ _ | refine Below.drew ?_ | refine btrans ?_ (by assumption) | refine below_alloc ?_ _ | refine Below.setCell ?_ (by simp <;> omega) _ | refine Below.alloc ?_ (by simp <;> omega) _ | refine Below.setCell ?_ (by simp) _ | refine Below.alloc ?_ (by simp) _)); done)
  case rest =>
    obtain ⟨O, rfl, r0, r1, r2, o0, o1, o2, fr, fo, hO, hz, hbl⟩ := hcut
    generalize hA : (12 * y + m - 1 + n) = A at *
    have HA := Lib.hid hA
    clear hA
    go_upto_region 11 with (go_at_call 62; refine (Y _).mono ?_; rintro e w' ⟨rfl, rfl⟩)
    have hM : A - 12 * (A / 12) + 1 = A % 12 + 1 := by omega
    have hM1 : 1 ≤ A % 12 + 1 := by omega
    have hM2 : A % 12 + 1 ≤ 12 := by omega
    rw [hM]
    have hAW : AW w.heap.size O (A / 12) (A % 12 + 1) d w (wc.setCell ⟨O, 1, none⟩ (.int .i64 (A % 12 + 1))) := by
      refine ⟨?_, ?_, ?_, ?_, ?_, ?_, ?_, ?_, hO, ?_, ?_⟩
      · rw [World.cell?_setCell_far _ _ _ _ (by simp; omega)]; exact r0
      · rw [World.cell?_setCell_far _ _ _ _ (by simp; omega)]; exact r1
      · rw [World.cell?_setCell_far _ _ _ _ (by simp; omega)]; exact r2
      · simp [go_sem, o0]
      · simp [go_sem, o1]
      · simp [go_sem, o2]
      · intro o; simp [go_sem, fr]
      · intro o; simp [go_sem, fo]
      · simpa [World.setCell] using hz
      · exact hbl.setCell (by simp; omega) _
    clear r0 r1 r2 o0 o1 o2 fr fo hz hbl hM
    generalize wc.setCell ⟨O, 1, none⟩ (.int .i64 (A % 12 + 1)) = W at *
    generalize hMe : A % 12 + 1 = M at *
    generalize hQe : A / 12 = Q at *
    have HM := Lib.hid hMe
    have HQ := Lib.hid hQe
    clear hMe hQe
    go_cut [] (fun wx => AW w.heap.size O Q M (min d (Cal.mlen c Q M)) w wx)
    case first =>
      have hAW0 := hAW
      obtain ⟨r0, r1, r2, o0, o1, o2, fr, fo, hO, hz, hbl⟩ := hAW
      have hw : IntKind.i64.wrap (M - 1) = M - 1 := IntWalk.i64_in _ (by omega)
      have hi := fun w => index_lens c Q (M - 1) (by omega) (by omega) w
      rw [show M - 1 + 1 = M by omega] at hi
      clear hyr C Y hM1 hM2 hbl y1 y2 m1 m2 h2 h3
      go_region_with (go_at_call 53; refine (lengths_any _ _ _).mono ?_; rintro e w2 ⟨rfl, hb2⟩; obtain ⟨p0, p1, p2, hz2⟩ := keep3 (b := O) hb2 hz o0 o1 o2; have f2 : w2.frozen? ⟨O, 2, none⟩ = false := ((bcell hb2).2 _ _ hz).trans (fo 2))
      all_goals (go_wp2_with fail)
      all_goals go_meet
      all_goals refine AW_end2 hAW0 (Below.trans (Below.drew (Below.refl _ _)) hb2) ?_
      all_goals first | omega | (rw [Int.min_def]; done) | (split <;> omega)
    case rest =>
      obtain ⟨r0, r1, r2, o0, o1, o2, fr, fo, hO, hz, hbl⟩ := hcut
      go_wp2
      refine bodyPost_ret (v := .tuple #[dt Q M (min d (Cal.mlen c Q M)), .int .i64 0]) (by simp [results, Try.results29, go_sem, r0, r1, r2]) rfl ⟨by rw [HA.out, HM.out, HQ.out], ?_⟩
      (repeat (first | exact Below.refl _ _ | assumption | refine below_drewN ?_ _ | refine Below.drew ?_ | refine btrans ?_ (by assumption) | refine below_alloc ?_ _ | refine Below.setCell ?_ (by simp <;> omega) _ | refine Below.alloc ?_ (by simp <;> omega) _ | refine Below.setCell ?_ (by simp) _ | refine Below.alloc ?_ (by simp) _))

end Go.Proofs.Ytnjjkcnokkhlkaa
