/- Format of the program. -/
import Derived.Test.YtnjjkcnokkhlkaaGreatDoorTxB
import Derived.Deep.RegionHeld3
namespace Go.Proofs.YtnjjkcnokkhlkaaGreatDoor
open Go.RowKit Go.Sort Go.Joins Go.Proofs.YtnjjkcnokkhlkaaGreatDoor.Str

/-- The library's table of powers of ten is as it was laid, in this world and behind it. -/
def Tab (w : World) : Prop := Lib.TabIs Tryz.prog w "internal/strconv.uint64pow10" .u64 Lib.pow10Tab
theorem cal_si_ret {l : IntKind} {a b : ByteArray} {c d : Int} (h : a = b) (h' : c = d) : Ending.returned (.tuple #[.string a, .int l c]) = .returned (.tuple #[.string b, .int l d]) := by rw [h, h']
theorem cat5 (sg A B D : List UInt8) : (⟨sg.toArray⟩ : ByteArray) ++ ⟨A.toArray⟩ ++ ⟨#[45]⟩ ++ ⟨B.toArray⟩ ++ ⟨#[45]⟩ ++ ⟨D.toArray⟩ = ⟨(sg ++ (A ++ ([45] ++ (B ++ ([45] ++ D))))).toArray⟩ := by
  show (⟨sg.toArray⟩ : ByteArray) ++ ⟨A.toArray⟩ ++ ⟨[45].toArray⟩ ++ ⟨B.toArray⟩ ++ ⟨[45].toArray⟩ ++ ⟨D.toArray⟩ = _
  rw [bytes_append, bytes_append, bytes_append, bytes_append, bytes_append]
  simp only [List.append_assoc]
theorem fmt_pos {y m d : Int} (h : 0 ≤ y) : (⟨#[]⟩ : ByteArray) ++ ⟨(pad 4 y.toNat).toArray⟩ ++ ⟨#[45]⟩ ++ ⟨(pad 2 m.toNat).toArray⟩ ++ ⟨#[45]⟩ ++ ⟨(pad 2 d.toNat).toArray⟩ = ⟨(Tx.fmt y m d).toArray⟩ := by
  have e : y.natAbs = y.toNat := by omega
  have := cat5 [] (pad 4 y.toNat) (pad 2 m.toNat) (pad 2 d.toNat)
  unfold Tx.fmt
  rw [if_neg (by omega), e]
  exact this
theorem fmt_neg {y m d : Int} (h : y < 0) : (⟨#[45]⟩ : ByteArray) ++ ⟨(pad 4 (-y).toNat).toArray⟩ ++ ⟨#[45]⟩ ++ ⟨(pad 2 m.toNat).toArray⟩ ++ ⟨#[45]⟩ ++ ⟨(pad 2 d.toNat).toArray⟩ = ⟨(Tx.fmt y m d).toArray⟩ := by
  have e : y.natAbs = (-y).toNat := by omega
  have := cat5 [45] (pad 4 (-y).toNat) (pad 2 m.toNat) (pad 2 d.toNat)
  unfold Tx.fmt
  rw [if_pos h, e]
  exact this
theorem date_ok {c y m d : Int} (h : dck c y m d = 0) : kn c = true ∧ Cal.vld c y m d = true := by
  rcases dck_cases c y m d with ⟨_, e⟩ | ⟨_, _, e⟩ | ⟨h1, h2, _⟩
  · omega
  · omega
  · exact ⟨h1, h2⟩

set_option maxRecDepth 100000 in
set_option maxHeartbeats 1600000 in
theorem Format_any (c y m d : Int) (w : World) (ht : ∀ w', Below w.heap.size w w' → Tab w') :
    Calls Tryz.prog 4 #[.int .i64 c, dt y m d] w fun e w' => e = .returned (.tuple #[.string ⟨(Tx.fS c y m d).toArray⟩, .int .i64 (dck c y m d)]) ∧ Below w.heap.size w w' := by
  have C := fun w => date_any c y m d w
  by_cases hc : dck c y m d = 0
  · obtain ⟨hk, hv⟩ := date_ok hc
    obtain ⟨y1, y2, m1, m2, d1, d2⟩ := vld_bd hv
    rw [hc] at C
    have R := Lib.hid (show Tx.fS c y m d = Tx.fmt y m d by unfold Tx.fS; rw [if_pos hc])
    have G := Lib.hid hc.symm
    have PM : ∀ w, Tab w → Calls Tryz.prog 10 #[.int .i64 m, .int .i64 2] w fun e w' => e = .returned (.string ⟨(pad 2 (m).toNat).toArray⟩) ∧ Below w.heap.size w w' := fun w ht => padded_any m 2 (by omega) (by omega) (by omega) (by omega) w ht
    have PD : ∀ w, Tab w → Calls Tryz.prog 10 #[.int .i64 d, .int .i64 2] w fun e w' => e = .returned (.string ⟨(pad 2 (d).toNat).toArray⟩) ∧ Below w.heap.size w w' := fun w ht => padded_any d 2 (by omega) (by omega) (by omega) (by omega) w ht
    have lM : (⟨(pad 2 m.toNat).toArray⟩ : ByteArray).size = 2 := (size_of_list _).trans (pad_length _ _)
    have lD : (⟨(pad 2 d.toNat).toArray⟩ : ByteArray).size = 2 := (size_of_list _).trans (pad_length _ _)
    clear hc hk hv
    by_cases hy : y < 0
    · have PY : ∀ w, Tab w → Calls Tryz.prog 10 #[.int .i64 (-y), .int .i64 4] w fun e w' => e = .returned (.string ⟨(pad 4 (-y).toNat).toArray⟩) ∧ Below w.heap.size w w' := fun w ht => padded_any (-y) 4 (by omega) (by omega) (by omega) (by omega) w ht
      have lY : (⟨(pad 4 (-y).toNat).toArray⟩ : ByteArray).size = 4 := (size_of_list _).trans (pad_length _ _)
      generalize hp1 : (⟨(pad 4 (-y).toNat).toArray⟩ : ByteArray) = pY at *
      generalize hp2 : (⟨(pad 2 m.toNat).toArray⟩ : ByteArray) = pM at *
      generalize hp3 : (⟨(pad 2 d.toNat).toArray⟩ : ByteArray) = pD at *
      have HP1 := Lib.hid hp1
      have HP2 := Lib.hid hp2
      have HP3 := Lib.hid hp3
      clear hp1 hp2 hp3
      have hng : IntKind.i64.wrap (-y) = -y := IntWalk.i64_in _ (by omega)
      go_enter Tryz.func4, Tryz.ntmps4
      go_wp2_with (go_at_call 9; refine (C _).mono ?_; rintro e w1 ⟨rfl, hb⟩; obtain ⟨hcell, hfroz⟩ := bcell hb)
      have hz : w.heap.size < w1.heap.size := by have := hb.size; simp at this; omega
      have q0 : w1.cell? ⟨w.heap.size, 0, none⟩ = some (.int .i64 y) := by rw [hcell _ _ (by simp)]; simp [go_sem]
      have q1 : w1.cell? ⟨w.heap.size, 1, none⟩ = some (.int .i64 m) := by rw [hcell _ _ (by simp)]; simp [go_sem]
      have q2 : w1.cell? ⟨w.heap.size, 2, none⟩ = some (.int .i64 d) := by rw [hcell _ _ (by simp)]; simp [go_sem]
      have hB : Below w.heap.size w w1 := ((Below.refl _ _).alloc (Nat.le_refl _) _).trans (hb.mono (by simp))
      have f0 : w1.frozen? ⟨w.heap.size, 0, none⟩ = false := by rw [hfroz _ _ (by simp)]; simp [go_sem]
      clear hcell hfroz hb
      go_region
      go_wp2
      have x0 : (w1.setCell ⟨w.heap.size, 0, none⟩ (.int .i64 (-y))).drew.cell? ⟨w.heap.size, 0, none⟩ = some (.int .i64 (-y)) := by simp [go_sem, q0]
      have x1 : (w1.setCell ⟨w.heap.size, 0, none⟩ (.int .i64 (-y))).drew.cell? ⟨w.heap.size, 1, none⟩ = some (.int .i64 m) := by simp [go_sem, q1]
      have x2 : (w1.setCell ⟨w.heap.size, 0, none⟩ (.int .i64 (-y))).drew.cell? ⟨w.heap.size, 2, none⟩ = some (.int .i64 d) := by simp [go_sem, q2]
      have hzX : w.heap.size < (w1.setCell ⟨w.heap.size, 0, none⟩ (.int .i64 (-y))).drew.heap.size := by simpa using hz
      have hBX : Below w.heap.size w (w1.setCell ⟨w.heap.size, 0, none⟩ (.int .i64 (-y))).drew := (hB.setCell (Nat.le_refl _) _).drew
      generalize (w1.setCell ⟨w.heap.size, 0, none⟩ (.int .i64 (-y))).drew = W2 at *
      clear hng f0 q0 q1 q2 hB hz
      go_region_held3 (fun w' => w'.cell? ⟨w.heap.size, 0, none⟩ = some (.int .i64 (-y)) ∧ w'.cell? ⟨w.heap.size, 1, none⟩ = some (.int .i64 m) ∧ w'.cell? ⟨w.heap.size, 2, none⟩ = some (.int .i64 d)) (first | exact ⟨s0, s1, s2⟩ | exact ⟨r0, r1, r2⟩ | exact ⟨p0, p1, p2⟩ | exact ⟨x0, x1, x2⟩ | go_keep)
        (first
          | (go_at_call 10; (with_reducible refine (PY _ (ht _ hBX.drew)).mono ?_); rintro e w2 ⟨rfl, hb2⟩; obtain ⟨p0, p1, p2, hz2⟩ := keep3 (b := w.heap.size) hb2 hzX x0 x1 x2; have hB2 : Below w.heap.size w w2 := btrans hBX.drew hb2)
          | (go_at_call 10; (with_reducible refine (PM _ (ht _ hB2)).mono ?_); rintro e w3 ⟨rfl, hb3⟩; obtain ⟨r0, r1, r2, hz3⟩ := keep3 (b := w.heap.size) hb3 hz2 p0 p1 p2; have hB3 : Below w.heap.size w w3 := btrans hB2 hb3)
          | (go_at_call 10; (with_reducible refine (PD _ (ht _ hB3)).mono ?_); rintro e w4 ⟨rfl, hb4⟩; obtain ⟨s0, s1, s2, hz4⟩ := keep3 (b := w.heap.size) hb4 hz3 r0 r1 r2; have hB4 : Below w.heap.size w w4 := btrans hB3 hb4))
      go_wp2
      go_ret2
      refine ⟨cal_si_ret ?_ G.out, hB4⟩
      rw [R.out, ← HP1.out, ← HP2.out, ← HP3.out]
      exact fmt_neg (by omega)
    · have PY : ∀ w, Tab w → Calls Tryz.prog 10 #[.int .i64 y, .int .i64 4] w fun e w' => e = .returned (.string ⟨(pad 4 (y).toNat).toArray⟩) ∧ Below w.heap.size w w' := fun w ht => padded_any y 4 (by omega) (by omega) (by omega) (by omega) w ht
      have lY : (⟨(pad 4 y.toNat).toArray⟩ : ByteArray).size = 4 := (size_of_list _).trans (pad_length _ _)
      generalize hp1 : (⟨(pad 4 y.toNat).toArray⟩ : ByteArray) = pY at *
      generalize hp2 : (⟨(pad 2 m.toNat).toArray⟩ : ByteArray) = pM at *
      generalize hp3 : (⟨(pad 2 d.toNat).toArray⟩ : ByteArray) = pD at *
      have HP1 := Lib.hid hp1
      have HP2 := Lib.hid hp2
      have HP3 := Lib.hid hp3
      clear hp1 hp2 hp3
      go_enter Tryz.func4, Tryz.ntmps4
      go_wp2_with (go_at_call 9; refine (C _).mono ?_; rintro e w1 ⟨rfl, hb⟩; obtain ⟨hcell, hfroz⟩ := bcell hb)
      have hz : w.heap.size < w1.heap.size := by have := hb.size; simp at this; omega
      have q0 : w1.cell? ⟨w.heap.size, 0, none⟩ = some (.int .i64 y) := by rw [hcell _ _ (by simp)]; simp [go_sem]
      have q1 : w1.cell? ⟨w.heap.size, 1, none⟩ = some (.int .i64 m) := by rw [hcell _ _ (by simp)]; simp [go_sem]
      have q2 : w1.cell? ⟨w.heap.size, 2, none⟩ = some (.int .i64 d) := by rw [hcell _ _ (by simp)]; simp [go_sem]
      have hB : Below w.heap.size w w1 := ((Below.refl _ _).alloc (Nat.le_refl _) _).trans (hb.mono (by simp))
      clear hcell hfroz hb
      go_region_held3 (fun w' => w'.cell? ⟨w.heap.size, 0, none⟩ = some (.int .i64 y) ∧ w'.cell? ⟨w.heap.size, 1, none⟩ = some (.int .i64 m) ∧ w'.cell? ⟨w.heap.size, 2, none⟩ = some (.int .i64 d)) (first | exact ⟨s0, s1, s2⟩ | exact ⟨r0, r1, r2⟩ | exact ⟨p0, p1, p2⟩ | exact ⟨q0, q1, q2⟩ | go_keep)
        (first
          | (go_at_call 10; (with_reducible refine (PY _ (ht _ hB.drew)).mono ?_); rintro e w2 ⟨rfl, hb2⟩; obtain ⟨p0, p1, p2, hz2⟩ := keep3 (b := w.heap.size) hb2 hz q0 q1 q2; have hB2 : Below w.heap.size w w2 := btrans hB.drew hb2)
          | (go_at_call 10; (with_reducible refine (PM _ (ht _ hB2)).mono ?_); rintro e w3 ⟨rfl, hb3⟩; obtain ⟨r0, r1, r2, hz3⟩ := keep3 (b := w.heap.size) hb3 hz2 p0 p1 p2; have hB3 : Below w.heap.size w w3 := btrans hB2 hb3)
          | (go_at_call 10; (with_reducible refine (PD _ (ht _ hB3)).mono ?_); rintro e w4 ⟨rfl, hb4⟩; obtain ⟨s0, s1, s2, hz4⟩ := keep3 (b := w.heap.size) hb4 hz3 r0 r1 r2; have hB4 : Below w.heap.size w w4 := btrans hB3 hb4))
      go_wp2
      go_ret2
      refine ⟨cal_si_ret ?_ G.out, hB4⟩
      rw [R.out, ← HP1.out, ← HP2.out, ← HP3.out]
      exact fmt_pos (by omega)
  · have e0 : Tx.fS c y m d = [] := by unfold Tx.fS; rw [if_neg hc]
    rw [e0]
    generalize dck c y m d = e0 at *
    have he' : (e0 != 0) = true := by simpa using hc
    clear hc
    go_enter Tryz.func4, Tryz.ntmps4
    go_wp2_with (go_at_call 9; refine (C _).mono ?_; rintro e w1 ⟨rfl, hb⟩)
    go_ret2
    exact ⟨rfl, ((Below.refl _ _).alloc (Nat.le_refl _) _).trans (‹Below _ _ _›.mono (by simp))⟩

end Go.Proofs.YtnjjkcnokkhlkaaGreatDoor
