/- The reference's parser of units: letters, numeral, whole. The reference's parser of units: prefix. The reference's parser of units: the table of symbols. Plain laws: the two tables of symbols agree. -/
import Derived.Test.YthjnmnepjeegiaaGreatDoorG8
import Derived.Test.YthjnmnepjeegiaaGreatDoorG16
import Derived.Test.YthjnmnepjeegiaaGreatDoorG18
import Derived.Test.YthjnmnepjeegiaaGreatDoorG17
import Derived.Test.YthjnmnepjeegiaaGreatDoorG9
import Derived.Test.YthjnmnepjeegiaaGreatDoorG10
/- The reference's parser of units: letters, numeral, whole. -/
namespace Go.Proofs.YthjnmnepjeegiaaGreatDoor
open Go.RowKit Go.Proofs.YthjnmnepjeegiaaGreatDoor.Dg Go.Proofs.YthjnmnepjeegiaaGreatDoor.Q Go.Proofs.YthjnmnepjeegiaaGreatDoor.Num Go.Proofs.YthjnmnepjeegiaaGreatDoor.Str

set_option maxRecDepth 100000 in
set_option maxHeartbeats 3200000 in
theorem rletters_any (S : ByteArray) (hs : S.size ≤ 1000) (w : World) : Calls Tryz.prog 66 #[.string S] w fun e w' => e = .returned (.int .i64 (wrd (bl S))) ∧ w = w' := by
  have sb : (S.size : Int) ≤ 1000 := by omega
  go_enter Tryz.func66, Tryz.ntmps66
  go_wp2
  go_loopw [3] (fun i wr => ∃ k : Nat, k ≤ S.size ∧ i = .int .i64 (k : Int) ∧ w = wr ∧ Hid (((bl S).take k).all isL = true)) (fun i _ => (S.size - intOf i).toNat)
  case atStart => exact ⟨0, Nat.zero_le _, rfl, rfl, rfl⟩
  case round =>
    obtain ⟨k, hk, rfl, rfl, hA⟩ := hrel
    by_cases hk0 : k = S.size
    · subst hk0
      have HW := Lib.hid (show wrd (bl S) = S.size from tw_stop hA.out (fun c hc => by rw [List.getElem?_eq_none (by rw [bl_len]; exact Nat.le_refl _)] at hc; cases hc) (by rw [bl_len]; exact Nat.le_refl _))
      clear hA
      go_wp2
      go_ret
      exact ⟨by rw [HW.out]; rfl, rfl⟩
    · have hlt : k < S.size := by omega
      have hi : (k : Int) < (S.size : Int) := by omega
      have hLB := isL_bytes S[k]
      have HA := Lib.hid (show isL S[k] = true → ((bl S).take (k + 1)).all isL = true from fun h => by rw [bl_take S k hlt, List.all_append, hA.out]; simp [h])
      have HW := Lib.hid (show isL S[k] = false → wrd (bl S) = k from fun h => tw_stop hA.out (fun c hc => by rw [bl_at S k hlt] at hc; injection hc with hc; rw [← hc]; exact h) (by rw [bl_len]; exact hk))
      clear hA hk0
      generalize isL S[k] = b at *
      by_cases h1 : (97 : Int) ≤ (S[k].toNat : Int)
      · by_cases h2 : (S[k].toNat : Int) ≤ 122
        · have HA2 := Lib.hid (HA.out (hLB.2 (.inl ⟨h1, h2⟩)))
          clear HA HW hLB
          go_wp2
          go_roundw
          case rel => exact ⟨k + 1, by omega, by go_num, by first | rfl | trivial, HA2⟩
          case measure => simp only [intOf]; omega
        · have h3 : ¬ (S[k].toNat : Int) ≤ 90 := by omega
          have h4 : (65 : Int) ≤ (S[k].toNat : Int) := by omega
          have HW2 := Lib.hid (HW.out (by cases b; rfl; (have := hLB.1 rfl; omega)))
          clear HA HW hLB
          go_wp2
          go_ret
          exact ⟨by rw [HW2.out]; rfl, rfl⟩
      · by_cases h2 : (65 : Int) ≤ (S[k].toNat : Int)
        · by_cases h3 : (S[k].toNat : Int) ≤ 90
          · have HA2 := Lib.hid (HA.out (hLB.2 (.inr ⟨h2, h3⟩)))
            clear HA HW hLB
            go_wp2
            go_roundw
            case rel => exact ⟨k + 1, by omega, by go_num, by first | rfl | trivial, HA2⟩
            case measure => simp only [intOf]; omega
          · have HW2 := Lib.hid (HW.out (by cases b; rfl; (have := hLB.1 rfl; omega)))
            clear HA HW hLB
            go_wp2
            go_ret
            exact ⟨by rw [HW2.out]; rfl, rfl⟩
        · have HW2 := Lib.hid (HW.out (by cases b; rfl; (have := hLB.1 rfl; omega)))
          clear HA HW hLB
          go_wp2
          go_ret
          exact ⟨by rw [HW2.out]; rfl, rfl⟩

theorem cnt_dlen (l : List UInt8) : cnt l = dlen l 0 := by unfold cnt dlen; rw [List.drop_zero]
theorem cnt_dlen' (l : List UInt8) (k : Nat) : cnt (l.drop k) = dlen l k := rfl

set_option maxRecDepth 100000 in
set_option maxHeartbeats 3200000 in
theorem rnumeral_any (S : ByteArray) (hs : S.size ≤ 1000) (w : World) : Calls Tryz.prog 63 #[.string S] w fun e w' => e = .returned (.int .i64 (numb (bl S))) ∧ w = w' := by
  have sb : (S.size : Int) ≤ 1000 := by omega
  have C1 : ∀ w', Calls Tryz.prog 68 #[.string S, .int .i64 0] w' fun e w2 => e = .returned (.int .i64 ((cnt (bl S) : Nat) : Int)) ∧ w2 = w' := fun w' => by rw [cnt_dlen]; exact rrun_any S 0 (Nat.zero_le _) (by omega) w'
  have hle := cnt_le (bl S)
  rw [bl_len] at hle
  obtain ⟨X, hX⟩ : ∃ X, numb (bl S) = X := ⟨_, rfl⟩
  rw [hX]
  unfold numb at hX
  obtain ⟨n, hn⟩ : ∃ n, cnt (bl S) = n := ⟨_, rfl⟩
  rw [hn] at hX hle C1
  have nb : (n : Int) ≤ (S.size : Int) := by omega
  by_cases h0 : 0 < n
  rotate_left
  · rw [if_neg (fun h => h0 h.1)] at hX
    subst hX
    have g0 : ¬ (0 : Int) < (n : Int) := by omega
    clear h0 hn hle
    go_enter Tryz.func63, Tryz.ntmps63
    go_wp2_with (go_at_call 68; go_loud ((with_reducible refine (C1 _).mono ?_); rintro e w1 ⟨rfl, rfl⟩))
    go_ret
    exact ⟨rfl, rfl⟩
  have g0 : (0 : Int) < (n : Int) := by omega
  by_cases h1 : n + 1 < S.size
  rotate_left
  · have hXn : n = X := by
      by_cases hlt : n < S.size
      · have hd : cnt ((bl S).drop (n + 1)) = 0 := by
          rw [List.drop_of_length_le (by rw [bl_len]; omega)]
          rfl
        rw [hd] at hX
        split at hX
        · rw [if_neg (by omega)] at hX; exact hX
        · exact hX
      · rw [if_neg (fun h => by
          have hnone : (bl S)[n]? = none := List.getElem?_eq_none (by rw [bl_len]; omega)
          rcases h.2 with h | h <;> rw [hnone] at h <;> cases h)] at hX
        exact hX
    subst hXn
    have g1 : ¬ (n : Int) + 1 < (S.size : Int) := by omega
    clear h0 h1 hn hle hX
    go_enter Tryz.func63, Tryz.ntmps63
    go_wp2_with (go_at_call 68; go_loud ((with_reducible refine (C1 _).mono ?_); rintro e w1 ⟨rfl, rfl⟩))
    go_ret
    exact ⟨rfl, rfl⟩
  have g1 : (n : Int) + 1 < (S.size : Int) := by omega
  have h2 : n < S.size := by omega
  have g2 : (n : Int) < (S.size : Int) := by omega
  rw [bl_at S n h2] at hX
  have C2 : ∀ w', Calls Tryz.prog 68 #[.string S, .int .i64 ((n : Int) + 1)] w' fun e w2 => e = .returned (.int .i64 ((cnt ((bl S).drop (n + 1)) : Nat) : Int)) ∧ w2 = w' := fun w' => rrun_any S (n + 1) (by omega) (by omega) w'
  have hle2 := cnt_le ((bl S).drop (n + 1))
  rw [List.length_drop, bl_len] at hle2
  generalize cnt ((bl S).drop (n + 1)) = m at *
  have mb : (m : Int) ≤ (S.size : Int) := by omega
  have mb2 : (n : Int) + 1 + (m : Int) ≤ 1000 := by omega
  clear hle2 hle hn h0
  by_cases hc : (S[n].toNat : Int) = 46
  · rw [if_pos ⟨by omega, .inl (by rw [(byte_eq S[n] 46).1 hc])⟩] at hX
    by_cases hm : 0 < m
    · rw [if_pos hm] at hX
      have HX := Lib.hid (show (n : Int) + 1 + (m : Int) = (X : Int) by omega)
      have gm : (0 : Int) < (m : Int) := by omega
      clear hm hX
      go_enter Tryz.func63, Tryz.ntmps63
      go_wp2_with (first
        | (go_at_call 68; ((with_reducible refine (C2 _).mono ?_); rintro e w2 ⟨rfl, rfl⟩))
        | (go_at_call 68; ((with_reducible refine (C1 _).mono ?_); rintro e w1 ⟨rfl, rfl⟩)))
      go_ret
      exact ⟨by rw [← HX.out]; rfl, rfl⟩
    · rw [if_neg hm] at hX
      subst hX
      have gm : ¬ (0 : Int) < (m : Int) := by omega
      clear hm
      go_enter Tryz.func63, Tryz.ntmps63
      go_wp2_with (first
        | (go_at_call 68; ((with_reducible refine (C2 _).mono ?_); rintro e w2 ⟨rfl, rfl⟩))
        | (go_at_call 68; ((with_reducible refine (C1 _).mono ?_); rintro e w1 ⟨rfl, rfl⟩)))
      go_ret
      exact ⟨rfl, rfl⟩
  · by_cases hc2 : (S[n].toNat : Int) = 47
    · rw [if_pos ⟨by omega, .inr (by rw [(byte_eq S[n] 47).1 hc2])⟩] at hX
      by_cases hm : 0 < m
      · rw [if_pos hm] at hX
        have HX := Lib.hid (show (n : Int) + 1 + (m : Int) = (X : Int) by omega)
        have gm : (0 : Int) < (m : Int) := by omega
        clear hm hX
        go_enter Tryz.func63, Tryz.ntmps63
        go_wp2_with (first
          | (go_at_call 68; ((with_reducible refine (C2 _).mono ?_); rintro e w2 ⟨rfl, rfl⟩))
          | (go_at_call 68; ((with_reducible refine (C1 _).mono ?_); rintro e w1 ⟨rfl, rfl⟩)))
        go_ret
        exact ⟨by rw [← HX.out]; rfl, rfl⟩
      · rw [if_neg hm] at hX
        subst hX
        have gm : ¬ (0 : Int) < (m : Int) := by omega
        clear hm
        go_enter Tryz.func63, Tryz.ntmps63
        go_wp2_with (first
          | (go_at_call 68; ((with_reducible refine (C2 _).mono ?_); rintro e w2 ⟨rfl, rfl⟩))
          | (go_at_call 68; ((with_reducible refine (C1 _).mono ?_); rintro e w1 ⟨rfl, rfl⟩)))
        go_ret
        exact ⟨rfl, rfl⟩
    · rw [if_neg (fun h => by
        rcases h.2 with h | h
        · injection h with h; exact hc (by rw [h]; rfl)
        · injection h with h; exact hc2 (by rw [h]; rfl))] at hX
      subst hX
      clear C2
      have hc3 : ((S[n].toNat : Int) == 46) = false := by rw [beq_eq_false_iff_ne]; exact hc
      have hc4 : ((S[n].toNat : Int) == 47) = false := by rw [beq_eq_false_iff_ne]; exact hc2
      go_enter Tryz.func63, Tryz.ntmps63
      go_wp2_with (first
        | (go_at_call 68; ((with_reducible refine (C2 _).mono ?_); rintro e w2 ⟨rfl, rfl⟩))
        | (go_at_call 68; ((with_reducible refine (C1 _).mono ?_); rintro e w1 ⟨rfl, rfl⟩)))
      go_ret
      exact ⟨rfl, rfl⟩


theorem val_take_le {l : List UInt8} (k : Nat) : val (l.take k) ≤ val l := by
  have h : val l = val (l.take k) * 10 ^ (l.drop k).length + val (l.drop k) := by rw [← val_append, List.take_append_drop]
  have h1 : 1 ≤ 10 ^ (l.drop k).length := Nat.one_le_pow _ _ (by decide)
  have h2 := Nat.mul_le_mul_left (val (l.take k)) h1
  omega
theorem val_take_succ {l : List UInt8} {k : Nat} {c : UInt8} (h : l[k]? = some c) : val (l.take (k + 1)) = 10 * val (l.take k) + (c.toNat - 48) := by
  rw [List.take_add_one, h]
  exact val_snoc _ c

set_option maxRecDepth 100000 in
set_option maxHeartbeats 3200000 in
theorem rwholed_any (S : ByteArray) (hs : S.size ≤ 1000) (hd : allD (bl S) = true) (w : World) : Calls Tryz.prog 69 #[.string S] w fun e w' => e = .returned (.int .i64 ((min (val (bl S)) 1000 : Nat) : Int)) ∧ w = w' := by
  have sb : (S.size : Int) ≤ 1000 := by omega
  obtain ⟨X, hX⟩ : ∃ X, min (val (bl S)) 1000 = X := ⟨_, rfl⟩
  rw [hX]
  have HX := Lib.hid hX
  have HD := Lib.hid hd
  clear hX hd
  go_enter Tryz.func69, Tryz.ntmps69
  go_wp2
  go_loopw [3, 4] (fun n i wr => ∃ k m : Nat, k ≤ S.size ∧ i = .int .i64 (k : Int) ∧ n = .int .i64 (m : Int) ∧ w = wr ∧ m ≤ 9999 ∧ Hid (val ((bl S).take k) = m)) (fun _ i _ => (S.size - intOf i).toNat)
  case atStart => exact ⟨0, 0, Nat.zero_le _, rfl, rfl, rfl, by omega, Lib.hid rfl⟩
  case round =>
    obtain ⟨k, m, hk, rfl, rfl, rfl, hm, hv⟩ := hrel
    by_cases hk0 : k = S.size
    · subst hk0
      have hx : min (m : Int) 1000 = (X : Int) := by
        have h1 := HX.out
        have h2 := hv.out
        rw [List.take_of_length_le (by rw [bl_len]; exact Nat.le_refl _)] at h2
        rw [h2] at h1
        omega
      clear hv hm
      go_wp2
      go_ret
      exact ⟨rfl, rfl⟩
    · have hlt : k < S.size := by omega
      have hi : (k : Int) < (S.size : Int) := by omega
      by_cases hm1 : m < 1000
      · have hmi : (m : Int) < 1000 := by omega
        obtain ⟨c1, c2⟩ := allD_of_get HD.out rfl k hlt
        obtain ⟨x, hxx⟩ : ∃ x, S[k].toNat = 48 + x := ⟨S[k].toNat - 48, by omega⟩
        have HN := Lib.hid (show val ((bl S).take (k + 1)) = 10 * m + x by rw [val_take_succ (bl_at S k hlt), hv.out, hxx]; omega)
        have e2 : ((S[k].toNat : Nat) : Int) = 48 + (x : Int) := by omega
        have x9 : (x : Int) ≤ 9 := by omega
        clear hxx c1 c2 hv hk0
        go_wp2
        go_roundw
        case rel => exact ⟨k + 1, 10 * m + x, by omega, by go_num, by first | go_num | (simp; done) | (push_cast; congr 1; omega), by first | rfl | trivial, by omega, HN⟩
        case measure => simp only [intOf]; omega
      · have hmi : ¬ (m : Int) < 1000 := by omega
        have hx : min (m : Int) 1000 = (X : Int) := by
          have h1 := HX.out
          have h2 := val_take_le (l := bl S) k
          rw [hv.out] at h2
          omega
        clear hv hm hk0 hlt
        go_wp2
        go_ret
        exact ⟨rfl, rfl⟩

end Go.Proofs.YthjnmnepjeegiaaGreatDoor

/- The reference's parser of units: prefix. -/
namespace Go.Proofs.YthjnmnepjeegiaaGreatDoor
open Go.RowKit Go.Proofs.YthjnmnepjeegiaaGreatDoor.Dg Go.Proofs.YthjnmnepjeegiaaGreatDoor.Q Go.Proofs.YthjnmnepjeegiaaGreatDoor.Num Go.Proofs.YthjnmnepjeegiaaGreatDoor.Str

/-- The factor of a prefix. -/
def pfxQ (c : UInt8) : Option Rat :=
  if c = 110 then some (((1 : Int) : Rat) / ((1000000000 : Int) : Rat)) else if c = 117 then some (((1 : Int) : Rat) / ((1000000 : Int) : Rat)) else if c = 109 then some (((1 : Int) : Rat) / ((1000 : Int) : Rat)) else if c = 99 then some (((1 : Int) : Rat) / ((100 : Int) : Rat)) else if c = 100 then some (((1 : Int) : Rat) / ((10 : Int) : Rat)) else if c = 104 then some (((100 : Int) : Rat)) else if c = 107 then some (((1000 : Int) : Rat)) else if c = 77 then some (((1000000 : Int) : Rat)) else if c = 71 then some (((1000000000 : Int) : Rat)) else none
/-- A result of three cells. -/
def KQ0 (w w' : World) : Prop := Bk w' w.heap.size #[.bool false, .slice none 0 0, .slice none 0 0] 54 ∧ Below w.heap.size w w'
theorem KQ0.up {w w1 w2 : World} (h : KQ0 w w1) (hb : Below w1.heap.size w1 w2) : KQ0 w w2 := ⟨h.1.up hb, btrans h.2 hb⟩
theorem KQ0.start (w : World) : KQ0 w (w.alloc (.cells #[.bool false, .slice none 0 0, .slice none 0 0] 54)) := ⟨Bk.new w _ _, (Below.refl _ w).alloc (Nat.le_refl _) _⟩
theorem KQ0.six {w w' : World} (h : KQ0 w w') : w'.cell? ⟨w.heap.size, 0, none⟩ = some (.bool false) ∧ w'.cell? ⟨w.heap.size, 1, none⟩ = some (.slice none 0 0) ∧ w'.cell? ⟨w.heap.size, 2, none⟩ = some (.slice none 0 0) ∧ w'.frozen? ⟨w.heap.size, 0, none⟩ = false ∧ w'.frozen? ⟨w.heap.size, 1, none⟩ = false ∧ w'.frozen? ⟨w.heap.size, 2, none⟩ = false :=
  ⟨h.1.cell 0, h.1.cell 1, h.1.cell 2, h.1.frozen 0, h.1.frozen 1, h.1.frozen 2⟩
theorem Qr.putN {w : World} {v : Value} {q : Rat} {g : Nat} {C : Array Value} {t : TypeId} (h : Qr w v q) (hr : Bk w g C t) (hC : C.all (notK .u64) = true) (i : Nat) (l : List Value) : Qr (Go.Proofs.YthjnmnepjeegiaaGreatDoor.putL w g i l) v q := by
  obtain ⟨A, c, A', c', d, e, h1, h2, h3⟩ := h
  exact ⟨A, c, A', c', d, e, h1.putL hr hC i l, h2.putL hr hC i l, h3⟩
theorem KQ0.give {w w' : World} (h : KQ0 w w') {y : Bool} {A : Option Addr} {l c : Nat} {A' : Option Addr} {l' c' : Nat} {q : Rat} (hq : Qr w' (.agg #[.bool y, .slice A l c, .slice A' l' c']) q) (hz : sz q ≤ 5000) :
    ReadR (some q) w (.returned (.tuple #[.agg #[.bool y, .slice A l c, .slice A' l' c'], .bool true])) (((w'.setCell ⟨w.heap.size, 0, none⟩ (.bool y)).setCell ⟨w.heap.size, 1, none⟩ (.slice A l c)).setCell ⟨w.heap.size, 2, none⟩ (.slice A' l' c')) :=
  ⟨y, A, l, c, A', l', c', q, rfl, putL_below (Nat.le_refl _) [.bool y, .slice A l c, .slice A' l' c'] 0 h.2, hq.putN h.1 (by simp [notK]) 0 [.bool y, .slice A l c, .slice A' l' c'], hz, fun q' e => by injection e⟩
theorem KQ0.no {w w' : World} (h : Below w.heap.size w w') : ReadR none w (.returned (.tuple #[.agg #[.bool false, .slice none 0 0, .slice none 0 0], .bool false])) w' :=
  ⟨false, none, 0, 0, none, 0, 0, 0, rfl, h, Qr.zero _, sz_zero, fun q' e => by cases e⟩

set_option maxRecDepth 100000 in
set_option maxHeartbeats 6400000 in
theorem rprefix_any (c : UInt8) (w : World) : Calls Tryz.prog 99 #[.int .u8 (c.toNat : Int)] w (ReadR (pfxQ c) w) := by
  obtain ⟨X, hX⟩ : ∃ X, pfxQ c = X := ⟨_, rfl⟩
  rw [hX]
  unfold pfxQ at hX
  have k0 := Lib.hid (KQ0.start w)
  by_cases h110 : (c.toNat : Int) = 110
  · rw [if_pos ((byte_eq c 110).1 h110)] at hX
    subst hX
    have I1 := fun w' => rfrac_any 1 1000000000 (by decide) (by decide) (by decide) (by decide) w'
    have hz : sz (((1 : Int) : Rat) / ((1000000000 : Int) : Rat)) ≤ 5000 := by
      have : sz (((1 : Int) : Rat) / ((1000000000 : Int) : Rat)) ≤ 5 := by decide +kernel
      omega
    generalize ((1 : Int) : Rat) / ((1000000000 : Int) : Rat) = q at *
    go_enter Tryz.func99, Tryz.ntmps99
    go_wp2_with (go_at_call 40; go_loud ((refine (I1 _).mono ?_); rintro e w1 ⟨v, rfl, ⟨A1, d1, A2, d2, dd, rfl, n1, n2, hd⟩, hb⟩; have k1 := Lib.hid (k0.out.up hb); have Q1 := Lib.hid (show Qr w1 _ q from ⟨A1, d1, A2, d2, dd, rfl, n1, n2, hd⟩); obtain ⟨z0, z1, z2, f0, f1, f2⟩ := k1.out.six; clear hb n1 n2 hd))
    refine bodyPost_ret (v := .tuple #[.agg #[.bool (ngt q), .slice A1 (nd (top q)) d1, .slice A2 (nd dd) d2], .bool true]) (by simp [results, Tryz.results99, go_sem, z0, z1, z2]) rfl ?_
    exact k1.out.give Q1.out hz
  rw [if_neg (fun e => h110 ((byte_eq c 110).2 e))] at hX
  by_cases h117 : (c.toNat : Int) = 117
  · rw [if_pos ((byte_eq c 117).1 h117)] at hX
    subst hX
    have I1 := fun w' => rfrac_any 1 1000000 (by decide) (by decide) (by decide) (by decide) w'
    have hz : sz (((1 : Int) : Rat) / ((1000000 : Int) : Rat)) ≤ 5000 := by
      have : sz (((1 : Int) : Rat) / ((1000000 : Int) : Rat)) ≤ 5 := by decide +kernel
      omega
    generalize ((1 : Int) : Rat) / ((1000000 : Int) : Rat) = q at *
    go_enter Tryz.func99, Tryz.ntmps99
    go_wp2_with (go_at_call 40; go_loud ((refine (I1 _).mono ?_); rintro e w1 ⟨v, rfl, ⟨A1, d1, A2, d2, dd, rfl, n1, n2, hd⟩, hb⟩; have k1 := Lib.hid (k0.out.up hb); have Q1 := Lib.hid (show Qr w1 _ q from ⟨A1, d1, A2, d2, dd, rfl, n1, n2, hd⟩); obtain ⟨z0, z1, z2, f0, f1, f2⟩ := k1.out.six; clear hb n1 n2 hd))
    refine bodyPost_ret (v := .tuple #[.agg #[.bool (ngt q), .slice A1 (nd (top q)) d1, .slice A2 (nd dd) d2], .bool true]) (by simp [results, Tryz.results99, go_sem, z0, z1, z2]) rfl ?_
    exact k1.out.give Q1.out hz
  rw [if_neg (fun e => h117 ((byte_eq c 117).2 e))] at hX
  by_cases h109 : (c.toNat : Int) = 109
  · rw [if_pos ((byte_eq c 109).1 h109)] at hX
    subst hX
    have I1 := fun w' => rfrac_any 1 1000 (by decide) (by decide) (by decide) (by decide) w'
    have hz : sz (((1 : Int) : Rat) / ((1000 : Int) : Rat)) ≤ 5000 := by
      have : sz (((1 : Int) : Rat) / ((1000 : Int) : Rat)) ≤ 5 := by decide +kernel
      omega
    generalize ((1 : Int) : Rat) / ((1000 : Int) : Rat) = q at *
    go_enter Tryz.func99, Tryz.ntmps99
    go_wp2_with (go_at_call 40; go_loud ((refine (I1 _).mono ?_); rintro e w1 ⟨v, rfl, ⟨A1, d1, A2, d2, dd, rfl, n1, n2, hd⟩, hb⟩; have k1 := Lib.hid (k0.out.up hb); have Q1 := Lib.hid (show Qr w1 _ q from ⟨A1, d1, A2, d2, dd, rfl, n1, n2, hd⟩); obtain ⟨z0, z1, z2, f0, f1, f2⟩ := k1.out.six; clear hb n1 n2 hd))
    refine bodyPost_ret (v := .tuple #[.agg #[.bool (ngt q), .slice A1 (nd (top q)) d1, .slice A2 (nd dd) d2], .bool true]) (by simp [results, Tryz.results99, go_sem, z0, z1, z2]) rfl ?_
    exact k1.out.give Q1.out hz
  rw [if_neg (fun e => h109 ((byte_eq c 109).2 e))] at hX
  by_cases h99 : (c.toNat : Int) = 99
  · rw [if_pos ((byte_eq c 99).1 h99)] at hX
    subst hX
    have I1 := fun w' => rfrac_any 1 100 (by decide) (by decide) (by decide) (by decide) w'
    have hz : sz (((1 : Int) : Rat) / ((100 : Int) : Rat)) ≤ 5000 := by
      have : sz (((1 : Int) : Rat) / ((100 : Int) : Rat)) ≤ 5 := by decide +kernel
      omega
    generalize ((1 : Int) : Rat) / ((100 : Int) : Rat) = q at *
    go_enter Tryz.func99, Tryz.ntmps99
    go_wp2_with (go_at_call 40; go_loud ((refine (I1 _).mono ?_); rintro e w1 ⟨v, rfl, ⟨A1, d1, A2, d2, dd, rfl, n1, n2, hd⟩, hb⟩; have k1 := Lib.hid (k0.out.up hb); have Q1 := Lib.hid (show Qr w1 _ q from ⟨A1, d1, A2, d2, dd, rfl, n1, n2, hd⟩); obtain ⟨z0, z1, z2, f0, f1, f2⟩ := k1.out.six; clear hb n1 n2 hd))
    refine bodyPost_ret (v := .tuple #[.agg #[.bool (ngt q), .slice A1 (nd (top q)) d1, .slice A2 (nd dd) d2], .bool true]) (by simp [results, Tryz.results99, go_sem, z0, z1, z2]) rfl ?_
    exact k1.out.give Q1.out hz
  rw [if_neg (fun e => h99 ((byte_eq c 99).2 e))] at hX
  by_cases h100 : (c.toNat : Int) = 100
  · rw [if_pos ((byte_eq c 100).1 h100)] at hX
    subst hX
    have I1 := fun w' => rfrac_any 1 10 (by decide) (by decide) (by decide) (by decide) w'
    have hz : sz (((1 : Int) : Rat) / ((10 : Int) : Rat)) ≤ 5000 := by
      have : sz (((1 : Int) : Rat) / ((10 : Int) : Rat)) ≤ 5 := by decide +kernel
      omega
    generalize ((1 : Int) : Rat) / ((10 : Int) : Rat) = q at *
    go_enter Tryz.func99, Tryz.ntmps99
    go_wp2_with (go_at_call 40; go_loud ((refine (I1 _).mono ?_); rintro e w1 ⟨v, rfl, ⟨A1, d1, A2, d2, dd, rfl, n1, n2, hd⟩, hb⟩; have k1 := Lib.hid (k0.out.up hb); have Q1 := Lib.hid (show Qr w1 _ q from ⟨A1, d1, A2, d2, dd, rfl, n1, n2, hd⟩); obtain ⟨z0, z1, z2, f0, f1, f2⟩ := k1.out.six; clear hb n1 n2 hd))
    refine bodyPost_ret (v := .tuple #[.agg #[.bool (ngt q), .slice A1 (nd (top q)) d1, .slice A2 (nd dd) d2], .bool true]) (by simp [results, Tryz.results99, go_sem, z0, z1, z2]) rfl ?_
    exact k1.out.give Q1.out hz
  rw [if_neg (fun e => h100 ((byte_eq c 100).2 e))] at hX
  by_cases h104 : (c.toNat : Int) = 104
  · rw [if_pos ((byte_eq c 104).1 h104)] at hX
    subst hX
    have I1 := fun w' => rintq_any 100 (by decide) (by decide) w'
    have hz : sz (((100 : Int) : Rat)) ≤ 5000 := by
      have : sz (((100 : Int) : Rat)) ≤ 5 := by decide +kernel
      omega
    generalize ((100 : Int) : Rat) = q at *
    go_enter Tryz.func99, Tryz.ntmps99
    go_wp2_with (go_at_call 37; go_loud ((refine (I1 _).mono ?_); rintro e w1 ⟨v, rfl, ⟨A1, d1, A2, d2, dd, rfl, n1, n2, hd⟩, hb⟩; have k1 := Lib.hid (k0.out.up hb); have Q1 := Lib.hid (show Qr w1 _ q from ⟨A1, d1, A2, d2, dd, rfl, n1, n2, hd⟩); obtain ⟨z0, z1, z2, f0, f1, f2⟩ := k1.out.six; clear hb n1 n2 hd))
    refine bodyPost_ret (v := .tuple #[.agg #[.bool (ngt q), .slice A1 (nd (top q)) d1, .slice A2 (nd dd) d2], .bool true]) (by simp [results, Tryz.results99, go_sem, z0, z1, z2]) rfl ?_
    exact k1.out.give Q1.out hz
  rw [if_neg (fun e => h104 ((byte_eq c 104).2 e))] at hX
  by_cases h107 : (c.toNat : Int) = 107
  · rw [if_pos ((byte_eq c 107).1 h107)] at hX
    subst hX
    have I1 := fun w' => rintq_any 1000 (by decide) (by decide) w'
    have hz : sz (((1000 : Int) : Rat)) ≤ 5000 := by
      have : sz (((1000 : Int) : Rat)) ≤ 5 := by decide +kernel
      omega
    generalize ((1000 : Int) : Rat) = q at *
    go_enter Tryz.func99, Tryz.ntmps99
    go_wp2_with (go_at_call 37; go_loud ((refine (I1 _).mono ?_); rintro e w1 ⟨v, rfl, ⟨A1, d1, A2, d2, dd, rfl, n1, n2, hd⟩, hb⟩; have k1 := Lib.hid (k0.out.up hb); have Q1 := Lib.hid (show Qr w1 _ q from ⟨A1, d1, A2, d2, dd, rfl, n1, n2, hd⟩); obtain ⟨z0, z1, z2, f0, f1, f2⟩ := k1.out.six; clear hb n1 n2 hd))
    refine bodyPost_ret (v := .tuple #[.agg #[.bool (ngt q), .slice A1 (nd (top q)) d1, .slice A2 (nd dd) d2], .bool true]) (by simp [results, Tryz.results99, go_sem, z0, z1, z2]) rfl ?_
    exact k1.out.give Q1.out hz
  rw [if_neg (fun e => h107 ((byte_eq c 107).2 e))] at hX
  by_cases h77 : (c.toNat : Int) = 77
  · rw [if_pos ((byte_eq c 77).1 h77)] at hX
    subst hX
    have I1 := fun w' => rintq_any 1000000 (by decide) (by decide) w'
    have hz : sz (((1000000 : Int) : Rat)) ≤ 5000 := by
      have : sz (((1000000 : Int) : Rat)) ≤ 5 := by decide +kernel
      omega
    generalize ((1000000 : Int) : Rat) = q at *
    go_enter Tryz.func99, Tryz.ntmps99
    go_wp2_with (go_at_call 37; go_loud ((refine (I1 _).mono ?_); rintro e w1 ⟨v, rfl, ⟨A1, d1, A2, d2, dd, rfl, n1, n2, hd⟩, hb⟩; have k1 := Lib.hid (k0.out.up hb); have Q1 := Lib.hid (show Qr w1 _ q from ⟨A1, d1, A2, d2, dd, rfl, n1, n2, hd⟩); obtain ⟨z0, z1, z2, f0, f1, f2⟩ := k1.out.six; clear hb n1 n2 hd))
    refine bodyPost_ret (v := .tuple #[.agg #[.bool (ngt q), .slice A1 (nd (top q)) d1, .slice A2 (nd dd) d2], .bool true]) (by simp [results, Tryz.results99, go_sem, z0, z1, z2]) rfl ?_
    exact k1.out.give Q1.out hz
  rw [if_neg (fun e => h77 ((byte_eq c 77).2 e))] at hX
  by_cases h71 : (c.toNat : Int) = 71
  · rw [if_pos ((byte_eq c 71).1 h71)] at hX
    subst hX
    have I1 := fun w' => rintq_any 1000000000 (by decide) (by decide) w'
    have hz : sz (((1000000000 : Int) : Rat)) ≤ 5000 := by
      have : sz (((1000000000 : Int) : Rat)) ≤ 5 := by decide +kernel
      omega
    generalize ((1000000000 : Int) : Rat) = q at *
    go_enter Tryz.func99, Tryz.ntmps99
    go_wp2_with (go_at_call 37; go_loud ((refine (I1 _).mono ?_); rintro e w1 ⟨v, rfl, ⟨A1, d1, A2, d2, dd, rfl, n1, n2, hd⟩, hb⟩; have k1 := Lib.hid (k0.out.up hb); have Q1 := Lib.hid (show Qr w1 _ q from ⟨A1, d1, A2, d2, dd, rfl, n1, n2, hd⟩); obtain ⟨z0, z1, z2, f0, f1, f2⟩ := k1.out.six; clear hb n1 n2 hd))
    refine bodyPost_ret (v := .tuple #[.agg #[.bool (ngt q), .slice A1 (nd (top q)) d1, .slice A2 (nd dd) d2], .bool true]) (by simp [results, Tryz.results99, go_sem, z0, z1, z2]) rfl ?_
    exact k1.out.give Q1.out hz
  rw [if_neg (fun e => h71 ((byte_eq c 71).2 e))] at hX
  subst hX
  go_enter Tryz.func99, Tryz.ntmps99
  go_wp2
  refine bodyPost_ret (v := .tuple #[.agg #[.bool false, .slice none 0 0, .slice none 0 0], .bool false]) (by simp [results, Tryz.results99, go_sem]) rfl ?_
  exact KQ0.no k0.out.2

end Go.Proofs.YthjnmnepjeegiaaGreatDoor

/- The reference's parser of units: the table of symbols. -/
namespace Go.Proofs.YthjnmnepjeegiaaGreatDoor
open Go.RowKit Go.Proofs.YthjnmnepjeegiaaGreatDoor.Dg Go.Proofs.YthjnmnepjeegiaaGreatDoor.Q Go.Proofs.YthjnmnepjeegiaaGreatDoor.Num Go.Proofs.YthjnmnepjeegiaaGreatDoor.Str

/-- A symbol of the reference. -/
structure Sr where
  name : List UInt8
  over : Int
  by_ : Int
  pre : Bool
  p : P7
  off : Bool
  zero : Int
  part : Int
deriving DecidableEq
def Sr.L (s : Sr) : List Value := [.string ⟨s.name.toArray⟩, .int .i64 s.over, .int .i64 s.by_, .bool s.pre, .int .i64 s.p.a, .int .i64 s.p.b, .int .i64 s.p.c, .int .i64 s.p.d, .int .i64 s.p.e, .int .i64 s.p.f, .int .i64 s.p.g, .bool s.off, .int .i64 s.zero, .int .i64 s.part]
theorem Sr.len (s : Sr) : s.L.length = 14 := rfl
def rsyms : List Sr := [
  ⟨[109], 1, 1, true, ⟨1, 0, 0, 0, 0, 0, 0⟩, false, 0, 0⟩,
  ⟨[115], 1, 1, true, ⟨0, 0, 1, 0, 0, 0, 0⟩, false, 0, 0⟩,
  ⟨[75], 1, 1, true, ⟨0, 0, 0, 1, 0, 0, 0⟩, false, 0, 0⟩,
  ⟨[109, 111, 108], 1, 1, true, ⟨0, 0, 0, 0, 1, 0, 0⟩, false, 0, 0⟩,
  ⟨[65], 1, 1, true, ⟨0, 0, 0, 0, 0, 1, 0⟩, false, 0, 0⟩,
  ⟨[99, 100], 1, 1, true, ⟨0, 0, 0, 0, 0, 0, 1⟩, false, 0, 0⟩,
  ⟨[103], 1, 1000, true, ⟨0, 1, 0, 0, 0, 0, 0⟩, false, 0, 0⟩,
  ⟨[109, 105, 110], 60, 1, false, ⟨0, 0, 1, 0, 0, 0, 0⟩, false, 0, 0⟩,
  ⟨[104], 3600, 1, false, ⟨0, 0, 1, 0, 0, 0, 0⟩, false, 0, 0⟩,
  ⟨[100], 86400, 1, false, ⟨0, 0, 1, 0, 0, 0, 0⟩, false, 0, 0⟩,
  ⟨[116], 1000, 1, true, ⟨0, 1, 0, 0, 0, 0, 0⟩, false, 0, 0⟩,
  ⟨[76], 1, 1000, true, ⟨3, 0, 0, 0, 0, 0, 0⟩, false, 0, 0⟩,
  ⟨[72, 122], 1, 1, true, ⟨0, 0, -1, 0, 0, 0, 0⟩, false, 0, 0⟩,
  ⟨[78], 1, 1, true, ⟨1, 1, -2, 0, 0, 0, 0⟩, false, 0, 0⟩,
  ⟨[80, 97], 1, 1, true, ⟨-1, 1, -2, 0, 0, 0, 0⟩, false, 0, 0⟩,
  ⟨[74], 1, 1, true, ⟨2, 1, -2, 0, 0, 0, 0⟩, false, 0, 0⟩,
  ⟨[87], 1, 1, true, ⟨2, 1, -3, 0, 0, 0, 0⟩, false, 0, 0⟩,
  ⟨[98, 97, 114], 100000, 1, true, ⟨-1, 1, -2, 0, 0, 0, 0⟩, false, 0, 0⟩,
  ⟨[100, 101, 103, 67], 1, 1, false, ⟨0, 0, 0, 1, 0, 0, 0⟩, true, 27315, 100⟩,
  ⟨[100, 101, 103, 70], 5, 9, false, ⟨0, 0, 0, 1, 0, 0, 0⟩, true, 45967, 180⟩]
def rsymC : Array Value := (rsyms.flatMap Sr.L).toArray

set_option maxRecDepth 100000 in
set_option maxHeartbeats 6400000 in
theorem rsymbols_any (w : World) : Calls Tryz.prog 98 #[] w fun e w' => e = .returned (.slice (some ⟨w.heap.size, 0, none⟩) 20 20) ∧ w.alloc (.cells rsymC 56) = w' := by
  go_enter Tryz.func98, Tryz.ntmps98
  iterate 11 go_step
  refine Great.wpList_readTo (by rfl) (some 1) (by rfl) (.agg #[.string ⟨#[109]⟩, .int .i64 1, .int .i64 1, .bool true, .int .i64 1, .int .i64 0, .int .i64 0, .int .i64 0, .int .i64 0, .int .i64 0, .int .i64 0, .bool false, .int .i64 0, .int .i64 0]) (by kernel_rfl) ?_
  refine Great.wpList_readTo (by rfl) (some 2) (by rfl) (.agg #[.string ⟨#[115]⟩, .int .i64 1, .int .i64 1, .bool true, .int .i64 0, .int .i64 0, .int .i64 1, .int .i64 0, .int .i64 0, .int .i64 0, .int .i64 0, .bool false, .int .i64 0, .int .i64 0]) (by kernel_rfl) ?_
  refine Great.wpList_readTo (by rfl) (some 3) (by rfl) (.agg #[.string ⟨#[75]⟩, .int .i64 1, .int .i64 1, .bool true, .int .i64 0, .int .i64 0, .int .i64 0, .int .i64 1, .int .i64 0, .int .i64 0, .int .i64 0, .bool false, .int .i64 0, .int .i64 0]) (by kernel_rfl) ?_
  refine Great.wpList_readTo (by rfl) (some 4) (by rfl) (.agg #[.string ⟨#[109, 111, 108]⟩, .int .i64 1, .int .i64 1, .bool true, .int .i64 0, .int .i64 0, .int .i64 0, .int .i64 0, .int .i64 1, .int .i64 0, .int .i64 0, .bool false, .int .i64 0, .int .i64 0]) (by kernel_rfl) ?_
  refine Great.wpList_readTo (by rfl) (some 5) (by rfl) (.agg #[.string ⟨#[65]⟩, .int .i64 1, .int .i64 1, .bool true, .int .i64 0, .int .i64 0, .int .i64 0, .int .i64 0, .int .i64 0, .int .i64 1, .int .i64 0, .bool false, .int .i64 0, .int .i64 0]) (by kernel_rfl) ?_
  refine Great.wpList_readTo (by rfl) (some 6) (by rfl) (.agg #[.string ⟨#[99, 100]⟩, .int .i64 1, .int .i64 1, .bool true, .int .i64 0, .int .i64 0, .int .i64 0, .int .i64 0, .int .i64 0, .int .i64 0, .int .i64 1, .bool false, .int .i64 0, .int .i64 0]) (by kernel_rfl) ?_
  refine Great.wpList_readTo (by rfl) (some 7) (by rfl) (.agg #[.string ⟨#[103]⟩, .int .i64 1, .int .i64 1000, .bool true, .int .i64 0, .int .i64 1, .int .i64 0, .int .i64 0, .int .i64 0, .int .i64 0, .int .i64 0, .bool false, .int .i64 0, .int .i64 0]) (by kernel_rfl) ?_
  refine Great.wpList_readTo (by rfl) (some 8) (by rfl) (.agg #[.string ⟨#[109, 105, 110]⟩, .int .i64 60, .int .i64 1, .bool false, .int .i64 0, .int .i64 0, .int .i64 1, .int .i64 0, .int .i64 0, .int .i64 0, .int .i64 0, .bool false, .int .i64 0, .int .i64 0]) (by kernel_rfl) ?_
  refine Great.wpList_readTo (by rfl) (some 9) (by rfl) (.agg #[.string ⟨#[104]⟩, .int .i64 3600, .int .i64 1, .bool false, .int .i64 0, .int .i64 0, .int .i64 1, .int .i64 0, .int .i64 0, .int .i64 0, .int .i64 0, .bool false, .int .i64 0, .int .i64 0]) (by kernel_rfl) ?_
  refine Great.wpList_readTo (by rfl) (some 10) (by rfl) (.agg #[.string ⟨#[100]⟩, .int .i64 86400, .int .i64 1, .bool false, .int .i64 0, .int .i64 0, .int .i64 1, .int .i64 0, .int .i64 0, .int .i64 0, .int .i64 0, .bool false, .int .i64 0, .int .i64 0]) (by kernel_rfl) ?_
  refine Great.wpList_readTo (by rfl) (some 11) (by rfl) (.agg #[.string ⟨#[116]⟩, .int .i64 1000, .int .i64 1, .bool true, .int .i64 0, .int .i64 1, .int .i64 0, .int .i64 0, .int .i64 0, .int .i64 0, .int .i64 0, .bool false, .int .i64 0, .int .i64 0]) (by kernel_rfl) ?_
  refine Great.wpList_readTo (by rfl) (some 12) (by rfl) (.agg #[.string ⟨#[76]⟩, .int .i64 1, .int .i64 1000, .bool true, .int .i64 3, .int .i64 0, .int .i64 0, .int .i64 0, .int .i64 0, .int .i64 0, .int .i64 0, .bool false, .int .i64 0, .int .i64 0]) (by kernel_rfl) ?_
  refine Great.wpList_readTo (by rfl) (some 13) (by rfl) (.agg #[.string ⟨#[72, 122]⟩, .int .i64 1, .int .i64 1, .bool true, .int .i64 0, .int .i64 0, .int .i64 (-1), .int .i64 0, .int .i64 0, .int .i64 0, .int .i64 0, .bool false, .int .i64 0, .int .i64 0]) (by kernel_rfl) ?_
  refine Great.wpList_readTo (by rfl) (some 14) (by rfl) (.agg #[.string ⟨#[78]⟩, .int .i64 1, .int .i64 1, .bool true, .int .i64 1, .int .i64 1, .int .i64 (-2), .int .i64 0, .int .i64 0, .int .i64 0, .int .i64 0, .bool false, .int .i64 0, .int .i64 0]) (by kernel_rfl) ?_
  refine Great.wpList_readTo (by rfl) (some 15) (by rfl) (.agg #[.string ⟨#[80, 97]⟩, .int .i64 1, .int .i64 1, .bool true, .int .i64 (-1), .int .i64 1, .int .i64 (-2), .int .i64 0, .int .i64 0, .int .i64 0, .int .i64 0, .bool false, .int .i64 0, .int .i64 0]) (by kernel_rfl) ?_
  refine Great.wpList_readTo (by rfl) (some 16) (by rfl) (.agg #[.string ⟨#[74]⟩, .int .i64 1, .int .i64 1, .bool true, .int .i64 2, .int .i64 1, .int .i64 (-2), .int .i64 0, .int .i64 0, .int .i64 0, .int .i64 0, .bool false, .int .i64 0, .int .i64 0]) (by kernel_rfl) ?_
  refine Great.wpList_readTo (by rfl) (some 17) (by rfl) (.agg #[.string ⟨#[87]⟩, .int .i64 1, .int .i64 1, .bool true, .int .i64 2, .int .i64 1, .int .i64 (-3), .int .i64 0, .int .i64 0, .int .i64 0, .int .i64 0, .bool false, .int .i64 0, .int .i64 0]) (by kernel_rfl) ?_
  refine Great.wpList_readTo (by rfl) (some 18) (by rfl) (.agg #[.string ⟨#[98, 97, 114]⟩, .int .i64 100000, .int .i64 1, .bool true, .int .i64 (-1), .int .i64 1, .int .i64 (-2), .int .i64 0, .int .i64 0, .int .i64 0, .int .i64 0, .bool false, .int .i64 0, .int .i64 0]) (by kernel_rfl) ?_
  refine Great.wpList_readTo (by rfl) (some 19) (by rfl) (.agg #[.string ⟨#[100, 101, 103, 67]⟩, .int .i64 1, .int .i64 1, .bool false, .int .i64 0, .int .i64 0, .int .i64 0, .int .i64 1, .int .i64 0, .int .i64 0, .int .i64 0, .bool true, .int .i64 27315, .int .i64 100]) (by kernel_rfl) ?_
  refine Great.wpList_readTo (by rfl) (some 20) (by rfl) (.agg #[.string ⟨#[100, 101, 103, 70]⟩, .int .i64 5, .int .i64 9, .bool false, .int .i64 0, .int .i64 0, .int .i64 0, .int .i64 1, .int .i64 0, .int .i64 0, .int .i64 0, .bool true, .int .i64 45967, .int .i64 180]) (by kernel_rfl) ?_
  refine Great.wpList_runTo (by rfl) (some 21) (by rfl) (.slice (some ⟨w.heap.size, 0, none⟩) 20 20) (w.alloc (.cells rsymC 56)) (by kernel_rfl) ?_
  go_wp2
  go_ret
  exact ⟨rfl, rfl⟩
end Go.Proofs.YthjnmnepjeegiaaGreatDoor

/- Plain laws: the two tables of symbols agree. -/
namespace Go.Proofs.YthjnmnepjeegiaaGreatDoor
open Go.Proofs.YthjnmnepjeegiaaGreatDoor.Dg Go.Proofs.YthjnmnepjeegiaaGreatDoor.Q Go.Proofs.YthjnmnepjeegiaaGreatDoor.Num Go.Proofs.YthjnmnepjeegiaaGreatDoor.Str

/-- The factor of a symbol of the reference; its offset. -/
def Sr.fac (r : Sr) : Rat := (r.over : Rat) / (r.by_ : Rat)
def Sr.ofs (r : Sr) : Rat := if r.off = true then (r.zero : Rat) / (r.part : Rat) else 0
/-- A symbol of the program and one of the reference that say the same. -/
def corrB (s : Sy) (r : Sr) : Bool := decide (num? s.fac = some r.fac) && (decide (s.p = r.p) && (decide (s.pre = r.pre) && (decide ((s.off != [48]) = r.off) && decide (num? s.off = some r.ofs))))
theorem syms_corr : ∀ s ∈ syms, (match rsyms.find? (fun r => r.name == s.name) with | some r => corrB s r | none => false) = true := by decide +kernel
theorem syms_corr' : ∀ s ∈ syms, s.pre = true → (match rsyms.find? (fun r => r.pre && r.name == s.name) with | some r => corrB s r | none => false) = true := by decide +kernel
theorem rsyms_corr : ∀ r ∈ rsyms, (syms.any fun s => s.name == r.name && s.pre == r.pre) = true := by decide +kernel
/-- The symbols of a name. -/
theorem find_corr (l : List UInt8) : (∃ s r, syms.find? (fun s => s.name == l) = some s ∧ rsyms.find? (fun r => r.name == l) = some r ∧ corrB s r = true) ∨ (syms.find? (fun s => s.name == l) = none ∧ rsyms.find? (fun r => r.name == l) = none) := by
  cases h : syms.find? (fun s => s.name == l) with
  | some s =>
    have hm := List.mem_of_find?_eq_some h
    have hn : s.name = l := by have := List.find?_some h; simpa using this
    have hc := syms_corr s hm
    rw [hn] at hc
    cases hr : rsyms.find? (fun r => r.name == l) with
    | none => rw [hr] at hc; cases hc
    | some r => rw [hr] at hc; exact .inl ⟨s, r, rfl, rfl, hc⟩
  | none =>
    refine .inr ⟨rfl, ?_⟩
    rw [List.find?_eq_none]
    intro r hr hn
    have hn' : r.name = l := by simpa using hn
    obtain ⟨s, hs, hp⟩ := List.any_eq_true.1 (rsyms_corr r hr)
    rw [Bool.and_eq_true] at hp
    have := List.find?_eq_none.1 h s hs
    rw [hn'] at hp
    exact this hp.1
theorem find_corr' (l : List UInt8) : (∃ s r, syms.find? (fun s => s.pre && s.name == l) = some s ∧ rsyms.find? (fun r => r.pre && r.name == l) = some r ∧ corrB s r = true) ∨ (syms.find? (fun s => s.pre && s.name == l) = none ∧ rsyms.find? (fun r => r.pre && r.name == l) = none) := by
  cases h : syms.find? (fun s => s.pre && s.name == l) with
  | some s =>
    have hm := List.mem_of_find?_eq_some h
    have hn : s.pre = true ∧ s.name = l := by have := List.find?_some h; simpa using this
    have hc := syms_corr' s hm hn.1
    rw [hn.2] at hc
    cases hr : rsyms.find? (fun r => r.pre && r.name == l) with
    | none => rw [hr] at hc; cases hc
    | some r => rw [hr] at hc; exact .inl ⟨s, r, rfl, rfl, hc⟩
  | none =>
    refine .inr ⟨rfl, ?_⟩
    rw [List.find?_eq_none]
    intro r hr hn
    have hn' : r.pre = true ∧ r.name = l := by simpa using hn
    obtain ⟨s, hs, hp⟩ := List.any_eq_true.1 (rsyms_corr r hr)
    rw [Bool.and_eq_true] at hp
    have := List.find?_eq_none.1 h s hs
    refine this ?_
    have h1 : s.name = r.name := by simpa using hp.1
    have h2 : s.pre = r.pre := by simpa using hp.2
    rw [h1, h2, hn'.1, hn'.2]
    simp
/-- The number of a prefix. -/
theorem pfx_num (c : UInt8) : (pfx c).bind num? = pfxQ c ∧ ((pfx c).isSome = (pfxQ c).isSome) := by
  unfold pfx pfxQ
  repeat' split
  all_goals first | (exact ⟨by decide +kernel, rfl⟩) | exact ⟨rfl, rfl⟩
/-- What find of the reference gives. -/
def rfind (l : List UInt8) : Option (Sr × Rat) := match rsyms.find? (fun r => r.name == l) with
  | some r => some (r, r.fac)
  | none => if l = [] then none else match pfxQ (l.headD 0) with
    | none => none
    | some q => (rsyms.find? (fun r => r.pre && r.name == l.tail)).map fun r => (r, q * r.fac)
end Go.Proofs.YthjnmnepjeegiaaGreatDoor
