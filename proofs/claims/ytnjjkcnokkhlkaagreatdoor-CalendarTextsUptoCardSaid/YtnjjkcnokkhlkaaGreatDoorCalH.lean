/- The walks of the calendar's functions, part H: DateOf of the program. -/
import Derived.Test.YtnjjkcnokkhlkaaGreatDoorCalG
import Derived.Deep.DeepCutAuto
namespace Go.Proofs.YtnjjkcnokkhlkaaGreatDoor
open Go.RowKit

/-- The first error of a calendar and a day number. -/
def dke (c n : Int) : Int := if kn c = false then 20 else if Cal.has c n = false then 21 else 0
theorem dke_cases (c n : Int) : (kn c = false ∧ dke c n = 20) ∨ (kn c = true ∧ Cal.has c n = false ∧ dke c n = 21) ∨ (kn c = true ∧ Cal.has c n = true ∧ dke c n = 0) := by
  unfold dke
  cases kn c <;> cases Cal.has c n <;> simp
/-- The date that DateOf returns. -/
def dvY (c n : Int) : Int := if dke c n = 0 then Cal.dY c n else 0
def dvM (c n : Int) : Int := if dke c n = 0 then Cal.dM c n else 0
def dvD (c n : Int) : Int := if dke c n = 0 then Cal.dD c n else 0
theorem dv_no {c n : Int} (h : dke c n ≠ 0) : dvY c n = 0 ∧ dvM c n = 0 ∧ dvD c n = 0 := by unfold dvY dvM dvD; simp [h]
theorem dv_yes {c n : Int} (h : dke c n = 0) : dvY c n = Cal.dY c n ∧ dvM c n = Cal.dM c n ∧ dvD c n = Cal.dD c n := by unfold dvY dvM dvD; simp [h]

theorem has_not (c n : Int) (hk : kn c = true) (h : Cal.has c n = false) : n < Cal.first c (-9999) ∨ (¬ n < Cal.first c (-9999) ∧ Cal.first c 10000 ≤ n) := by
  have h' : ¬ Cal.Has c n := by rw [← Cal.has_iff]; simp [h]
  unfold Cal.Has at h'
  rw [kn_iff] at hk
  omega

theorem cal_di_ret {l : IntKind} {a b : Value} {c d : Int} (h : a = b) (h' : c = d) : Ending.returned (.tuple #[a, .int l c]) = .returned (.tuple #[b, .int l d]) := by rw [h, h']
theorem dt_eq {y m d y' m' d' : Int} (h1 : y = y') (h2 : m = m') (h3 : d = d') : dt y m d = dt y' m' d' := by rw [h1, h2, h3]

set_option maxHeartbeats 800000 in
theorem DateOf_no (c n : Int) (hc : dke c n ≠ 0) (w : World) :
    Calls Tryz.prog 21 #[.int .i64 c, .int .i64 n] w fun e w' => e = .returned (.tuple #[dt 0 0 0, .int .i64 (dke c n)]) ∧ Below w.heap.size w w' := by
  have C := fun w => known_any c w
  have F1 := Cal.first_bd c (-9999) (by omega) (by omega)
  have F2 := Cal.first_bd c 10000 (by omega) (by omega)
  rcases dke_cases c n with ⟨hk, hd⟩ | ⟨hk, ho, hd⟩ | ⟨hk, ho, hd⟩
  · have G := Lib.hid (show (20 : Int) = dke c n by rw [hd])
    rw [hk] at C
    clear hk hd hc
    go_enter Tryz.func21, Tryz.ntmps21
    go_wp2_with (go_at_call 14; refine (C _).mono ?_; rintro e w1 ⟨rfl, rfl⟩)
    refine bodyPost_ret (v := .tuple #[dt 0 0 0, .int .i64 20]) (by simp [results, Tryz.results21, go_sem]) rfl ⟨by rw [G.out], ?_⟩
    exact (((Below.refl _ _).alloc (Nat.le_refl _) _).alloc (by simp) _).alloc (by simp; omega) _
  · have G := Lib.hid (show (21 : Int) = dke c n by rw [hd])
    rw [hk] at C
    rcases has_not c n hk ho with h | ⟨h, h'⟩
    · have hg : decide (n < Cal.first c (-9999)) = true := by simpa using h
      clear hk hd hc ho h
      go_enter Tryz.func21, Tryz.ntmps21
      go_wp2_with (go_at_call 14; refine (C _).mono ?_; rintro e w1 ⟨rfl, rfl⟩)
      go_quiet ((go_at_call 31; exact quiet_left (first_any _ _ (by omega) (by omega) _)))
      go_wp2
      refine bodyPost_ret (v := .tuple #[dt 0 0 0, .int .i64 21]) (by simp [results, Tryz.results21, go_sem]) rfl ⟨by rw [G.out], ?_⟩
      (repeat (first | exact Below.refl _ _ | assumption | refine below_drewN ?_ _ | refine Below.drew ?_ | refine btrans ?_ (by assumption) | refine below_alloc ?_ _ | refine Below.setCell ?_ (by simp <;> omega) _ | refine Below.alloc ?_ (by simp <;> omega) _ | refine Below.setCell ?_ (by simp) _ | refine Below.alloc ?_ (by simp) _))
    · have hg : decide (n < Cal.first c (-9999)) = false := by simpa using h
      have hg2 : decide (Cal.first c 10000 ≤ n) = true := by simpa using h'
      clear hk hd hc ho h
      go_enter Tryz.func21, Tryz.ntmps21
      go_wp2_with (go_at_call 14; refine (C _).mono ?_; rintro e w1 ⟨rfl, rfl⟩)
      go_quiet ((go_at_call 31; exact quiet_left (first_any _ _ (by omega) (by omega) _)))
      go_wp2
      refine bodyPost_ret (v := .tuple #[dt 0 0 0, .int .i64 21]) (by simp [results, Tryz.results21, go_sem]) rfl ⟨by rw [G.out], ?_⟩
      (repeat (first | exact Below.refl _ _ | assumption | refine below_drewN ?_ _ | refine Below.drew ?_ | refine btrans ?_ (by assumption) | refine below_alloc ?_ _ | refine Below.setCell ?_ (by simp <;> omega) _ | refine Below.alloc ?_ (by simp <;> omega) _ | refine Below.setCell ?_ (by simp) _ | refine Below.alloc ?_ (by simp) _))
  · exact absurd hd hc

/-- What the loop of DateOf keeps: the result's cells, the date's cells, and all that was there before the call. -/
def DW (B : Nat) (y m d : Int) (w wr : World) : Prop :=
  wr.cell? ⟨B + 1 + 1, 0, none⟩ = some (.int .i64 0) ∧ wr.cell? ⟨B + 1 + 1, 1, none⟩ = some (.int .i64 0) ∧ wr.cell? ⟨B + 1 + 1, 2, none⟩ = some (.int .i64 0)
  ∧ wr.cell? ⟨B + 1 + 1 + 1, 0, none⟩ = some (.int .i64 y) ∧ wr.cell? ⟨B + 1 + 1 + 1, 1, none⟩ = some (.int .i64 m) ∧ wr.cell? ⟨B + 1 + 1 + 1, 2, none⟩ = some (.int .i64 d)
  ∧ (∀ o, wr.frozen? ⟨B + 1 + 1, o, none⟩ = false) ∧ (∀ o, wr.frozen? ⟨B + 1 + 1 + 1, o, none⟩ = false) ∧ B + 1 + 1 + 1 < wr.heap.size ∧ Below B w wr

theorem DW_step {B : Nat} {y m d m' d' : Int} {w wr : World} (h : DW B y m d w wr) : DW B y m' d' w ((wr.setCell ⟨B + 1 + 1 + 1, 2, none⟩ (.int .i64 d')).setCell ⟨B + 1 + 1 + 1, 1, none⟩ (.int .i64 m')) := by
  obtain ⟨r0, r1, r2, d0, d1, d2, fr, fd, hz, hbl⟩ := h
  refine ⟨?_, ?_, ?_, ?_, ?_, ?_, ?_, ?_, ?_, ?_⟩
  · simp [go_sem, r0]
  · simp [go_sem, r1]
  · simp [go_sem, r2]
  · simp [go_sem, d0]
  · simp [go_sem, d1]
  · simp [go_sem, d2]
  · intro o; simp [go_sem, fr]
  · intro o; simp [go_sem, fd]
  · simpa [World.setCell] using hz
  · exact (hbl.setCell (by simp; omega) _).setCell (by simp; omega) _

set_option maxRecDepth 100000 in
set_option maxHeartbeats 1600000 in
theorem DateOf_yes (c n : Int) (hk : kn c = true) (ho : Cal.has c n = true) (w : World) :
    Calls Tryz.prog 21 #[.int .i64 c, .int .i64 n] w fun e w' => e = .returned (.tuple #[dt (Cal.dY c n) (Cal.dM c n) (Cal.dD c n), .int .i64 0]) ∧ Below w.heap.size w w' := by
  have C := fun w => known_any c w
  rw [hk] at C
  obtain ⟨_, _, n1, n2⟩ := (Cal.has_iff c n).1 ho
  have F1 := Cal.first_bd c (-9999) (by omega) (by omega)
  have F2 := Cal.first_bd c 10000 (by omega) (by omega)
  have hg : decide (n < Cal.first c (-9999)) = false := by simp; omega
  have hg2 : decide (Cal.first c 10000 ≤ n) = false := by simp; omega
  obtain ⟨y1, y2, f1, f2⟩ := Cal.yearOf_spec c n n1 n2
  have S := fun w bc bn hc hn => search_any c n (Cal.yearOf c n) bc bn y1 y2 f1 f2 w hc hn
  have HY := Lib.hid (show Cal.dY c n = Cal.yearOf c n from rfl)
  have F3 := Cal.first_bd c (Cal.yearOf c n) (by omega) (by omega)
  generalize Cal.yearOf c n = Y at *
  clear hk ho
  go_enter Tryz.func21, Tryz.ntmps21
  go_wp2_with (go_at_call 14; refine (C _).mono ?_; rintro e w1 ⟨rfl, rfl⟩)
  go_quiet ((go_at_call 31; exact quiet_left (first_any _ _ (by omega) (by omega) _)))
  go_wp2_with (go_at_call 33; refine (S _ _ _ (by simp [go_sem]) (by simp [go_sem])).mono ?_; rintro e w1 ⟨rfl, k, rfl⟩)
  rw [show Y + 10000 - 1 - 9999 = Y by omega]
  go_cut [] (fun wx => wx.cell? ⟨w.heap.size, 0, none⟩ = some (.int .i64 c) ∧ wx.cell? ⟨w.heap.size + 1 + 1, 0, none⟩ = some (.int .i64 0) ∧ wx.cell? ⟨w.heap.size + 1 + 1, 1, none⟩ = some (.int .i64 0) ∧ wx.cell? ⟨w.heap.size + 1 + 1, 2, none⟩ = some (.int .i64 0)
    ∧ wx.cell? ⟨w.heap.size + 1 + 1 + 1, 0, none⟩ = some (.int .i64 Y) ∧ wx.cell? ⟨w.heap.size + 1 + 1 + 1, 1, none⟩ = some (.int .i64 1) ∧ wx.cell? ⟨w.heap.size + 1 + 1 + 1, 2, none⟩ = some (.int .i64 (1 + (n - Cal.first c Y)))
    ∧ (∀ o, wx.frozen? ⟨w.heap.size + 1 + 1, o, none⟩ = false) ∧ (∀ o, wx.frozen? ⟨w.heap.size + 1 + 1 + 1, o, none⟩ = false) ∧ w.heap.size + 1 + 1 + 1 < wx.heap.size ∧ Below w.heap.size w wx)
  case first =>
    have k0 : (World.alloc ((((w.alloc (Obj.cells #[Value.int IntKind.i64 c] 3)).alloc (Obj.cells #[Value.int IntKind.i64 n] 3)).alloc
          (Obj.cells #[Value.int IntKind.i64 0, Value.int IntKind.i64 0, Value.int IntKind.i64 0] 23)).drewN (nq + k)) (Obj.cells #[Value.int IntKind.i64 Y, Value.int IntKind.i64 1, Value.int IntKind.i64 1] 23)).cell? ⟨w.heap.size, 0, none⟩ = some (.int .i64 c) := by simp [go_sem]
    have k1 : (World.alloc ((((w.alloc (Obj.cells #[Value.int IntKind.i64 c] 3)).alloc (Obj.cells #[Value.int IntKind.i64 n] 3)).alloc
          (Obj.cells #[Value.int IntKind.i64 0, Value.int IntKind.i64 0, Value.int IntKind.i64 0] 23)).drewN (nq + k)) (Obj.cells #[Value.int IntKind.i64 Y, Value.int IntKind.i64 1, Value.int IntKind.i64 1] 23)).cell? ⟨w.heap.size + 1, 0, none⟩ = some (.int .i64 n) := by simp [go_sem]
    generalize hW : (World.alloc ((((w.alloc (Obj.cells #[Value.int IntKind.i64 c] 3)).alloc (Obj.cells #[Value.int IntKind.i64 n] 3)).alloc
          (Obj.cells #[Value.int IntKind.i64 0, Value.int IntKind.i64 0, Value.int IntKind.i64 0] 23)).drewN (nq + k)) (Obj.cells #[Value.int IntKind.i64 Y, Value.int IntKind.i64 1, Value.int IntKind.i64 1] 23)) = W at *
    have HW := Lib.hid hW
    have k2 : W.cell? ⟨w.heap.size + 1 + 1 + 1, 0, none⟩ = some (.int .i64 Y) := by rw [← hW]; simp [go_sem]
    have k3 : W.cell? ⟨w.heap.size + 1 + 1 + 1, 2, none⟩ = some (.int .i64 1) := by rw [← hW]; simp [go_sem]
    clear hW
    refine wp_region_still_tail 10 (by kernel_rfl) (by kernel_rfl) ?_
    simp only [List.take_succ_cons, List.take_zero, List.drop_succ_cons, List.drop_zero]
    iterate 6 still_step
    still_call ((first_any c Y (by omega) (by omega) _).mono fun _ _ ⟨he, hw⟩ => ⟨he, hw.symm⟩)
    repeat still_step
    refine wpStill_nil ?_
    have k4 : ∀ o, W.frozen? ⟨w.heap.size + 1 + 1 + 1, o, none⟩ = false := by intro o; rw [← HW.out]; simp [go_sem]
    change wpList _ _ _ _ _ W.drew
    go_wp2
    go_meet
    obtain rfl := HW.out

    refine ⟨?_, ?_, ?_, ?_, ?_, ?_, ?_, ?_, ?_, ?_, ?_⟩
    all_goals first | (intros; simp [go_sem]; done) | (simp; omega) | ((repeat (first | exact Below.refl _ _ | assumption | refine below_drewN ?_ _ | refine Below.drew ?_ | refine btrans ?_ (by assumption) | refine below_alloc ?_ _ | refine Below.setCell ?_ (by simp <;> omega) _ | refine Below.alloc ?_ (by simp <;> omega) _ | refine Below.setCell ?_ (by simp) _ | refine Below.alloc ?_ (by simp) _)); done)
  case rest =>
    obtain ⟨a0, r0, r1, r2, d0, d1, d2, fr, fd, hz, hbl⟩ := hcut
    go_wp2_with (go_at_call 35; refine (lengths_any _ _ _).mono ?_; rintro e w1 ⟨rfl, hb⟩; obtain ⟨hcell, hfroz⟩ := bcell hb)
    have hz1 : w.heap.size + 1 + 1 + 1 < w1.heap.size := by have := hb.size; omega
    have hbl1 : Below w.heap.size w w1 := hbl.trans (hb.mono hbl.size)
    have DW0 : DW w.heap.size Y 1 (1 + (n - Cal.first c Y)) w w1 := by
      refine ⟨?_, ?_, ?_, ?_, ?_, ?_, ?_, ?_, hz1, hbl1⟩
      · rw [hcell _ _ (by omega)]; exact r0
      · rw [hcell _ _ (by omega)]; exact r1
      · rw [hcell _ _ (by omega)]; exact r2
      · rw [hcell _ _ (by omega)]; exact d0
      · rw [hcell _ _ (by omega)]; exact d1
      · rw [hcell _ _ (by omega)]; exact d2
      · intro o; rw [hfroz _ _ (by omega)]; exact fr o
      · intro o; rw [hfroz _ _ (by omega)]; exact fd o
    clear a0 r0 r1 r2 d0 d1 d2 fr fd hz hbl hb hcell hfroz hz1 hbl1 C S hg hg2 F1 F2
    have hr0 : 0 ≤ n - Cal.first c Y := by omega
    have hr1 : n - Cal.first c Y ≤ 366 := by have := Cal.first_succ c Y; have := Cal.ylen_pos c Y; omega
    go_loopw [9, 47] (fun _ i wr => ∃ k : Int, 0 ≤ k ∧ k ≤ 11 ∧ i = .int .i64 k ∧ Cal.cum c Y (k + 1) ≤ n - Cal.first c Y ∧ DW w.heap.size Y (k + 1) (n - Cal.first c Y - Cal.cum c Y (k + 1) + 1) w wr) (fun _ i _ => (12 - intOf i).toNat)
    case atStart => exact ⟨0, by omega, by omega, rfl, by simp [Cal.cum_one]; omega, by simpa [Cal.cum_one, Int.add_comm] using DW0⟩
    case round =>
      obtain ⟨k, k1, k2, rfl, hcum, r0, r1, r2, d0, d1, d2, fr, fd, hz, hbl⟩ := hrel
      have hi := fun w => index_lens c Y k k1 (by omega) w
      have hs := Cal.cum_succ c Y (k + 1) (by omega) (by omega)
      have hm := Cal.mlen_bd c Y (k + 1)
      have HS := Lib.hid hs
      have hcb := Cal.cum_bd c Y (k + 1) (by omega) (by omega)
      have hdw := show DW w.heap.size Y (k + 1) (n - Cal.first c Y - Cal.cum c Y (k + 1) + 1) w wr from ⟨r0, r1, r2, d0, d1, d2, fr, fd, hz, hbl⟩
      have H13 := Lib.hid (Cal.cum_year c Y)
      have HFS := Lib.hid (Cal.first_succ c Y)
      by_cases hle : n - Cal.first c Y - Cal.cum c Y (k + 1) + 1 ≤ Cal.mlen c Y (k + 1)
      · clear hs
        go_wp2
        have hM : Cal.dM c n = k + 1 := by
          unfold Cal.dM
          rw [HY.out]
          exact Cal.monthOf_eq c Y _ (k + 1) (by omega) (by omega) hcum (by rw [HS.out]; omega)
        have hD : Cal.dD c n = n - Cal.first c Y - Cal.cum c Y (k + 1) + 1 := by unfold Cal.dD; rw [hM, HY.out]
        refine bodyPost_ret (v := .tuple #[dt Y (k + 1) (n - Cal.first c Y - Cal.cum c Y (k + 1) + 1), .int .i64 0]) (by simp [results, Tryz.results21, go_sem, r0, r1, r2]) rfl ⟨cal_di_ret (dt_eq HY.out.symm hM.symm hD.symm) rfl, ?_⟩
        exact ((hbl.setCell (by simp; omega) _).setCell (by simp; omega) _).setCell (by simp; omega) _
      · clear hs
        go_wp2
        go_roundw
        case rel =>
          have hk11 : k + 1 ≤ 11 := by
            have := HS.out; have h13 := H13.out; have := HFS.out
            by_cases hk : k = 11
            · subst hk; have h13' : Cal.cum c Y (11 + 1 + 1) = Cal.ylen c Y := h13; omega
            · omega
          exact ⟨k + 1, by omega, hk11, rfl, by rw [HS.out]; omega, by rw [HS.out, show n - Cal.first c Y - (Cal.cum c Y (k + 1) + Cal.mlen c Y (k + 1)) + 1 = n - Cal.first c Y - Cal.cum c Y (k + 1) + 1 - Cal.mlen c Y (k + 1) by omega]; exact DW_step hdw⟩
        case measure => simp [intOf]; omega

theorem DateOf_any (c n : Int) (w : World) :
    Calls Tryz.prog 21 #[.int .i64 c, .int .i64 n] w fun e w' => e = .returned (.tuple #[dt (dvY c n) (dvM c n) (dvD c n), .int .i64 (dke c n)]) ∧ Below w.heap.size w w' := by
  by_cases h : dke c n = 0
  · obtain ⟨h1, h2, h3⟩ := dv_yes h
    rw [h1, h2, h3, h]
    rcases dke_cases c n with ⟨_, hd⟩ | ⟨_, _, hd⟩ | ⟨hk, ho, _⟩
    · omega
    · omega
    · exact DateOf_yes c n hk ho w
  · obtain ⟨h1, h2, h3⟩ := dv_no h
    rw [h1, h2, h3]
    exact DateOf_no c n h w

end Go.Proofs.YtnjjkcnokkhlkaaGreatDoor
