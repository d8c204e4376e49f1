/- Format of the reference. -/
import Derived.Test.YtnjjkcnokkhlkaaGreatDoorTxC
import Derived.Laws.IdiomStrings
namespace Go.Proofs.YtnjjkcnokkhlkaaGreatDoor
open Go.RowKit Go.Sort Go.Joins Go.Proofs.YtnjjkcnokkhlkaaGreatDoor.Str

theorem pad_cons : ∀ (j x : Nat), pad (j + 1) x = UInt8.ofNat (48 + x / 10 ^ j % 10) :: pad j x
  | 0, x => by simp [pad]
  | j + 1, x => by
    rw [pad, pad_cons j (x / 10), pad, Nat.div_div_eq_div_mul, Nat.pow_succ, Nat.mul_comm 10]
    rfl

theorem conv_digit (y : Nat) (w : World) : (convert 65 9 (.slice (some ⟨w.heap.size, 0, none⟩) 1 1)).run Tryz.prog (w.alloc (.cells #[.int .u8 (48 + (y : Int) % 10)] 5)) =
    .ok (.string ⟨[UInt8.ofNat (48 + y % 10)].toArray⟩) (w.alloc (.cells #[.int .u8 (48 + (y : Int) % 10)] 5)) := by
  refine run_convert_bytes_back _ 65 9 5 ⟨w.heap.size, 0, none⟩ 1 [UInt8.ofNat (48 + y % 10)] Tryz.underlying65 Tryz.underlying5 Tryz.underlying9 ?_
  intro j hj
  have hj0 : j = 0 := by simpa using hj
  subst hj0
  simp [go_sem]
  omega

set_option maxRecDepth 100000 in
set_option maxHeartbeats 1600000 in
/-- digits(n, k) of the reference. -/
theorem rdigits_any (x k : Nat) (h1 : x < 10 ^ k) (hk : k ≤ 4) (w : World) :
    Calls Tryz.prog 25 #[.int .i64 x, .int .i64 k] w fun e w' => e = .returned (.string ⟨(pad k x).toArray⟩) ∧ Below w.heap.size w w' := by
  have hx : x < 10000 := Nat.lt_of_lt_of_le h1 (Nat.le_trans (Nat.pow_le_pow_right (by omega) hk) (by decide))
  go_enter Tryz.func25, Tryz.ntmps25
  go_wp2_with fail
  go_loopw [0, 1, 5] (fun n q s wr => ∃ (j : Nat), j ≤ k ∧ n = .int .i64 ((x / 10 ^ j : Nat) : Int) ∧ q = .int .i64 ((k : Int) - (j : Int)) ∧ s = .string ⟨(pad j x).toArray⟩ ∧ Hid (Below w.heap.size w wr)) (fun _ q _ _ => (intOf q).toNat)
  case atStart => exact ⟨0, Nat.zero_le _, by simp, by simp, rfl, Below.refl _ _⟩
  case round =>
    obtain ⟨j, hj, rfl, rfl, rfl, hB⟩ := hrel
    by_cases hlt : j < k
    · have hq : x / 10 ^ j ≤ 10000 := Nat.le_trans (Nat.div_le_self _ _) (by omega)
      have HP := Lib.hid (pad_cons j x)
      have hs : (⟨(pad j x).toArray⟩ : ByteArray).size = j := (size_of_list _).trans (pad_length _ _)
      generalize hS : (⟨(pad j x).toArray⟩ : ByteArray) = S at *
      have HS := Lib.hid hS
      clear hS
      generalize hY : x / 10 ^ j = y at *
      have HY := Lib.hid hY
      clear hY
      have e2 : Hid ((y : Int) / 10 = ((x / 10 ^ (j + 1) : Nat) : Int)) := by
        show (y : Int) / 10 = _
        rw [Nat.pow_succ, ← Nat.div_div_eq_div_mul, HY.out]; omega
      rcases Nat.eq_zero_or_pos y with h0 | hpos
      · subst h0
        have hcv : (convert 65 9 (.slice (some ⟨wr.heap.size, 0, none⟩) 1 1)).run Tryz.prog (wr.alloc (.cells #[.int .u8 48] 5)) = .ok (.string ⟨[UInt8.ofNat (48 + 0 % 10)].toArray⟩) (wr.alloc (.cells #[.int .u8 48] 5)) := conv_digit 0 wr
        generalize hT : (⟨[UInt8.ofNat (48 + 0 % 10)].toArray⟩ : ByteArray) = T at *
        have HT := Lib.hid hT
        have hts : T.size = 1 := by rw [← hT]; rfl
        clear hT
        have e1 : Hid (T ++ S = ⟨(pad (j + 1) x).toArray⟩) := by
          show T ++ S = _
          rw [HP.out, ← HT.out, ← HS.out, bytes_append]; rfl
        have e3 := Lib.hid (show (0 : Int) = ((x / 10 ^ (j + 1) : Nat) : Int) from e2.out)
        go_wp2
        go_roundw
        case rel => exact ⟨j + 1, by omega, by rw [← e3.out], by go_num, by rw [e1.out], below_alloc hB.out _⟩
        case measure => simp [intOf]; omega
      · have hy : (0 : Int) < (y : Int) := by omega
        have hcv := conv_digit y wr
        generalize hT : (⟨[UInt8.ofNat (48 + y % 10)].toArray⟩ : ByteArray) = T at *
        have HT := Lib.hid hT
        have hts : T.size = 1 := by rw [← hT]; rfl
        clear hT
        have e1 : Hid (T ++ S = ⟨(pad (j + 1) x).toArray⟩) := by
          show T ++ S = _
          rw [HP.out, ← HT.out, ← HS.out, bytes_append]; rfl
        go_wp2
        go_roundw
        case rel => exact ⟨j + 1, by omega, by rw [e2.out], by go_num, by rw [e1.out], below_alloc hB.out _⟩
        case measure => simp [intOf]; omega
    · have e : j = k := by omega
      subst e
      rw [Nat.div_eq_of_lt h1]
      go_wp2
      go_ret
      exact ⟨rfl, hB.out⟩

set_option maxRecDepth 100000 in
set_option maxHeartbeats 1600000 in
/-- text(d) of the reference, at a valid date. -/
theorem rtext_any (y m d : Int) (y1 : -9999 ≤ y) (y2 : y ≤ 9999) (m1 : 1 ≤ m) (m2 : m ≤ 12) (d1 : 1 ≤ d) (d2 : d ≤ 31) (w : World) :
    Calls Tryz.prog 13 #[dt y m d] w fun e w' => e = .returned (.string ⟨(Tx.fmt y m d).toArray⟩) ∧ Below w.heap.size w w' := by
  have PX : ∀ (x : Int) (k : Nat), 0 ≤ x → x.toNat < 10 ^ k → k ≤ 4 → ∀ w, Calls Tryz.prog 25 #[.int .i64 x, .int .i64 k] w fun e w' => e = .returned (.string ⟨(pad k x.toNat).toArray⟩) ∧ Below w.heap.size w w' := by
    intro x k h0 h1 h2 w
    obtain ⟨n, rfl⟩ := Int.eq_ofNat_of_zero_le h0
    exact rdigits_any n k (by simpa using h1) h2 w
  have PM : ∀ w, Calls Tryz.prog 25 #[.int .i64 m, .int .i64 2] w fun e w' => e = .returned (.string ⟨(pad 2 m.toNat).toArray⟩) ∧ Below w.heap.size w w' := PX m 2 (by omega) (by omega) (by omega)
  have PD : ∀ w, Calls Tryz.prog 25 #[.int .i64 d, .int .i64 2] w fun e w' => e = .returned (.string ⟨(pad 2 d.toNat).toArray⟩) ∧ Below w.heap.size w w' := PX d 2 (by omega) (by omega) (by omega)
  have lM : (⟨(pad 2 m.toNat).toArray⟩ : ByteArray).size = 2 := (size_of_list _).trans (pad_length _ _)
  have lD : (⟨(pad 2 d.toNat).toArray⟩ : ByteArray).size = 2 := (size_of_list _).trans (pad_length _ _)
  by_cases hy : y < 0
  · have PY : ∀ w, Calls Tryz.prog 25 #[.int .i64 (-y), .int .i64 4] w fun e w' => e = .returned (.string ⟨(pad 4 (-y).toNat).toArray⟩) ∧ Below w.heap.size w w' := PX (-y) 4 (by omega) (by omega) (by omega)
    have lY : (⟨(pad 4 (-y).toNat).toArray⟩ : ByteArray).size = 4 := (size_of_list _).trans (pad_length _ _)
    generalize hp1 : (⟨(pad 4 (-y).toNat).toArray⟩ : ByteArray) = pY at *
    generalize hp2 : (⟨(pad 2 m.toNat).toArray⟩ : ByteArray) = pM at *
    generalize hp3 : (⟨(pad 2 d.toNat).toArray⟩ : ByteArray) = pD at *
    have HP1 := Lib.hid hp1
    have HP2 := Lib.hid hp2
    have HP3 := Lib.hid hp3
    clear hp1 hp2 hp3 PX
    have hng : IntKind.i64.wrap (-y) = -y := IntWalk.i64_in _ (by omega)
    go_enter Tryz.func13, Tryz.ntmps13
    go_wp2
    have q0 : (w.alloc (.cells #[.int .i64 y, .int .i64 m, .int .i64 d] 23)).cell? ⟨w.heap.size, 0, none⟩ = some (.int .i64 y) := by simp [go_sem]
    have q1 : (w.alloc (.cells #[.int .i64 y, .int .i64 m, .int .i64 d] 23)).cell? ⟨w.heap.size, 1, none⟩ = some (.int .i64 m) := by simp [go_sem]
    have q2 : (w.alloc (.cells #[.int .i64 y, .int .i64 m, .int .i64 d] 23)).cell? ⟨w.heap.size, 2, none⟩ = some (.int .i64 d) := by simp [go_sem]
    have hz : w.heap.size < (w.alloc (.cells #[.int .i64 y, .int .i64 m, .int .i64 d] 23)).heap.size := by simp
    have hB : Below w.heap.size w (w.alloc (.cells #[.int .i64 y, .int .i64 m, .int .i64 d] 23)) := (Below.refl _ _).alloc (Nat.le_refl _) _
    generalize w.alloc (.cells #[.int .i64 y, .int .i64 m, .int .i64 d] 23) = w1 at *
    go_region_held3 (fun w' => w'.cell? ⟨w.heap.size, 1, none⟩ = some (.int .i64 m) ∧ w'.cell? ⟨w.heap.size, 2, none⟩ = some (.int .i64 d)) (first | exact ⟨s1, s2⟩ | exact ⟨r1, r2⟩ | exact ⟨p1, p2⟩ | exact ⟨q1, q2⟩ | go_keep)
      (first
        | (go_at_call 25; (with_reducible refine (PY _).mono ?_); rintro e w2 ⟨rfl, hb2⟩; obtain ⟨p0, p1, p2, hz2⟩ := keep3 (b := w.heap.size) hb2 hz q0 q1 q2; have hB2 : Below w.heap.size w w2 := btrans hB.drew hb2)
        | (go_at_call 25; (with_reducible refine (PM _).mono ?_); rintro e w3 ⟨rfl, hb3⟩; obtain ⟨r0, r1, r2, hz3⟩ := keep3 (b := w.heap.size) hb3 hz2 p0 p1 p2; have hB3 : Below w.heap.size w w3 := btrans hB2 hb3)
        | (go_at_call 25; (with_reducible refine (PD _).mono ?_); rintro e w4 ⟨rfl, hb4⟩; obtain ⟨s0, s1, s2, hz4⟩ := keep3 (b := w.heap.size) hb4 hz3 r0 r1 r2; have hB4 : Below w.heap.size w w4 := btrans hB3 hb4))
    go_wp2
    go_ret
    refine ⟨cal_str_ret ?_, hB4⟩
    rw [← HP1.out, ← HP2.out, ← HP3.out]
    exact fmt_neg hy
  · have PY : ∀ w, Calls Tryz.prog 25 #[.int .i64 y, .int .i64 4] w fun e w' => e = .returned (.string ⟨(pad 4 (y).toNat).toArray⟩) ∧ Below w.heap.size w w' := PX y 4 (by omega) (by omega) (by omega)
    have lY : (⟨(pad 4 (y).toNat).toArray⟩ : ByteArray).size = 4 := (size_of_list _).trans (pad_length _ _)
    generalize hp1 : (⟨(pad 4 (y).toNat).toArray⟩ : ByteArray) = pY at *
    generalize hp2 : (⟨(pad 2 m.toNat).toArray⟩ : ByteArray) = pM at *
    generalize hp3 : (⟨(pad 2 d.toNat).toArray⟩ : ByteArray) = pD at *
    have HP1 := Lib.hid hp1
    have HP2 := Lib.hid hp2
    have HP3 := Lib.hid hp3
    clear hp1 hp2 hp3 PX
    
    go_enter Tryz.func13, Tryz.ntmps13
    go_wp2
    have q0 : (w.alloc (.cells #[.int .i64 y, .int .i64 m, .int .i64 d] 23)).cell? ⟨w.heap.size, 0, none⟩ = some (.int .i64 y) := by simp [go_sem]
    have q1 : (w.alloc (.cells #[.int .i64 y, .int .i64 m, .int .i64 d] 23)).cell? ⟨w.heap.size, 1, none⟩ = some (.int .i64 m) := by simp [go_sem]
    have q2 : (w.alloc (.cells #[.int .i64 y, .int .i64 m, .int .i64 d] 23)).cell? ⟨w.heap.size, 2, none⟩ = some (.int .i64 d) := by simp [go_sem]
    have hz : w.heap.size < (w.alloc (.cells #[.int .i64 y, .int .i64 m, .int .i64 d] 23)).heap.size := by simp
    have hB : Below w.heap.size w (w.alloc (.cells #[.int .i64 y, .int .i64 m, .int .i64 d] 23)) := (Below.refl _ _).alloc (Nat.le_refl _) _
    generalize w.alloc (.cells #[.int .i64 y, .int .i64 m, .int .i64 d] 23) = w1 at *
    go_region_held3 (fun w' => w'.cell? ⟨w.heap.size, 1, none⟩ = some (.int .i64 m) ∧ w'.cell? ⟨w.heap.size, 2, none⟩ = some (.int .i64 d)) (first | exact ⟨s1, s2⟩ | exact ⟨r1, r2⟩ | exact ⟨p1, p2⟩ | exact ⟨q1, q2⟩ | go_keep)
      (first
        | (go_at_call 25; (with_reducible refine (PY _).mono ?_); rintro e w2 ⟨rfl, hb2⟩; obtain ⟨p0, p1, p2, hz2⟩ := keep3 (b := w.heap.size) hb2 hz q0 q1 q2; have hB2 : Below w.heap.size w w2 := btrans hB.drew hb2)
        | (go_at_call 25; (with_reducible refine (PM _).mono ?_); rintro e w3 ⟨rfl, hb3⟩; obtain ⟨r0, r1, r2, hz3⟩ := keep3 (b := w.heap.size) hb3 hz2 p0 p1 p2; have hB3 : Below w.heap.size w w3 := btrans hB2 hb3)
        | (go_at_call 25; (with_reducible refine (PD _).mono ?_); rintro e w4 ⟨rfl, hb4⟩; obtain ⟨s0, s1, s2, hz4⟩ := keep3 (b := w.heap.size) hb4 hz3 r0 r1 r2; have hB4 : Below w.heap.size w w4 := btrans hB3 hb4))
    go_wp2
    go_ret
    refine ⟨cal_str_ret ?_, hB4⟩
    rw [← HP1.out, ← HP2.out, ← HP3.out]
    exact fmt_pos (by omega)

set_option maxHeartbeats 800000 in
theorem rFormat_any (c y m d : Int) (w : World) :
    Calls Tryz.prog 5 #[.int .i64 c, dt y m d] w fun e w' => e = .returned (.tuple #[.string ⟨(Tx.fS c y m d).toArray⟩, .int .i64 (dck c y m d)]) ∧ Below w.heap.size w w' := by
  have V := fun w => rValid_any c y m d w
  rcases dck_cases c y m d with ⟨hk, hc⟩ | ⟨hk, ho, hc⟩ | ⟨hk, ho, hc⟩
  · have e0 : Tx.fS c y m d = [] := by unfold Tx.fS; rw [if_neg (by omega)]
    rw [e0, hc]
    have N := fun w => rname_no hk w
    clear e0 hc hk V
    go_enter Tryz.func5, Tryz.ntmps5
    go_wp2_with (go_at_call 11; refine (N _).mono ?_; rintro e w1 ⟨rfl, hb⟩)
    go_ret2
    exact ⟨rfl, ((Below.refl _ _).alloc (Nat.le_refl _) _).trans (‹Below _ _ _›.mono (by simp))⟩
  · have e0 : Tx.fS c y m d = [] := by unfold Tx.fS; rw [if_neg (by omega)]
    rw [e0, hc]
    have N := fun w => rname_yes hk w
    rw [ho] at V
    clear e0 hc hk ho
    go_enter Tryz.func5, Tryz.ntmps5
    go_wp2_with (first | (go_at_call 11; refine (N _).mono ?_; rintro e w1 ⟨s, rfl, hne, hb⟩; obtain ⟨hcell, hfroz⟩ := bcell hb; have hz := lt_of_below_alloc hb) | (go_at_call 12; refine (V _).mono ?_; rintro e w2 ⟨rfl, hb2⟩))
    go_ret2
    exact ⟨rfl, (((Below.refl _ _).alloc (Nat.le_refl _) _).trans (hb.mono (by simp))).trans (hb2.mono (Nat.le_of_lt hz))⟩
  · have e0 : Tx.fS c y m d = Tx.fmt y m d := by unfold Tx.fS; rw [if_pos hc]
    rw [e0, hc]
    obtain ⟨y1, y2, m1, m2, d1, d2⟩ := vld_bd ho
    have N := fun w => rname_yes hk w
    have TT := fun w => rtext_any y m d y1 y2 m1 m2 d1 d2 w
    rw [ho] at V
    clear e0 hc hk ho
    generalize (⟨(Tx.fmt y m d).toArray⟩ : ByteArray) = S at *
    go_enter Tryz.func5, Tryz.ntmps5
    go_wp2_with (first | (go_at_call 11; refine (N _).mono ?_; rintro e w1 ⟨s, rfl, hne, hb⟩; obtain ⟨hcell, hfroz⟩ := bcell hb; have hz := lt_of_below_alloc hb) | (go_at_call 12; refine (V _).mono ?_; rintro e w2 ⟨rfl, hb2⟩; obtain ⟨hcell2, hfroz2⟩ := bcell hb2; have hz2 := Nat.lt_of_lt_of_le hz hb2.size) | (go_at_call 13; refine (TT _).mono ?_; rintro e w3 ⟨rfl, hb3⟩))
    go_ret2
    exact ⟨rfl, ((((Below.refl _ _).alloc (Nat.le_refl _) _).trans (hb.mono (by simp))).trans (hb2.mono (Nat.le_of_lt hz))).trans (hb3.mono (Nat.le_of_lt hz2))⟩

end Go.Proofs.YtnjjkcnokkhlkaaGreatDoor
