/- Texts of units: number, word, prefix of the program. Symbols of units, plainly: the table, what is found there, the number a text of a unit begins with. The text of a unit, plainly: exponents, factors, the unit. Texts of units: exponent of the program. -/
import Derived.Test.YthjnmnepjeegiaaGreatDoorG7
/- Texts of units: number, word, prefix of the program. -/
namespace Go.Proofs.YthjnmnepjeegiaaGreatDoor
open Go.RowKit Go.Proofs.YthjnmnepjeegiaaGreatDoor.Dg Go.Proofs.YthjnmnepjeegiaaGreatDoor.Q Go.Proofs.YthjnmnepjeegiaaGreatDoor.Num Go.Proofs.YthjnmnepjeegiaaGreatDoor.Str

theorem Tryz.infoSetL : (Tryz.prog.info? (Tryz.lays161_ren.t 116)).map (fun i => (i.zero, i.size)) = some (some (.agg (Array.replicate 256 (.bool false))), 256) := by kernel_rfl
/-- How many digits a text begins with. -/
def cnt (l : List UInt8) : Nat := (l.takeWhile isD).length
theorem trimL_digits (l : List UInt8) : Lib.trimLeftS l cs10 = l.dropWhile isD := by
  unfold Lib.trimLeftS
  congr 1
  funext c
  exact mem_cs10 c
theorem cnt_drop (l : List UInt8) : cnt l + (l.dropWhile isD).length = l.length := by
  unfold cnt
  have := congrArg List.length (List.takeWhile_append_dropWhile (p := isD) (l := l))
  rw [List.length_append] at this
  exact this
theorem cnt_le (l : List UInt8) : cnt l ≤ l.length := by have := cnt_drop l; omega
theorem trimleft_any (S : ByteArray) (w : World) :
    Calls Tryz.prog 46 #[.string S, .string ⟨#[48, 49, 50, 51, 52, 53, 54, 55, 56, 57]⟩] w fun e w' => ∃ T : ByteArray, e = .returned (.string T) ∧ (T.size : Int) = (S.size : Int) - (cnt (bl S) : Int) ∧ Below w.heap.size w w' :=
  (Any.strings_TrimLeft_laid Tryz.lays161 Tryz.infoSetL S ⟨#[48, 49, 50, 51, 52, 53, 54, 55, 56, 57]⟩ w (by decide) (ascii_of_all (by decide))).mono fun e w' ⟨h1, h2⟩ => ⟨_, h1, by
    have := cnt_drop (bl S)
    rw [bl_len] at this
    rw [← bl_len, bl_mk, show (S.data.toList : List UInt8) = bl S from rfl, show (⟨#[48, 49, 50, 51, 52, 53, 54, 55, 56, 57]⟩ : ByteArray).data.toList = cs10 from rfl, trimL_digits]
    omega, h2⟩

set_option maxRecDepth 100000 in
set_option maxHeartbeats 1600000 in
theorem count_any (S : ByteArray) (hs : S.size ≤ 1000) (w : World) : Calls Tryz.prog 45 #[.string S] w fun e w' => e = .returned (.int .i64 (cnt (bl S))) ∧ Below w.heap.size w w' := by
  have T := trimleft_any S w
  have sb : (S.size : Int) ≤ 1000 := by omega
  have hle := cnt_le (bl S)
  rw [bl_len] at hle
  generalize cnt (bl S) = n at *
  have nb : (n : Int) ≤ (S.size : Int) := by omega
  have e1 : (S.size : Int) - ((S.size : Int) - (n : Int)) = (n : Int) := by omega
  go_enter Tryz.func45, Tryz.ntmps45
  go_wp2_with (go_at_call 46; go_loud (refine T.mono ?_; rintro e w1 ⟨T1, rfl, hT, hb⟩; have B := Lib.hid hb; clear hb))
  go_ret
  exact ⟨rfl, B.out⟩

/-- How long the number is with which a text begins. -/
def numb (l : List UInt8) : Nat :=
  if 0 < cnt l ∧ (l[cnt l]? = some 46 ∨ l[cnt l]? = some 47) then
    (if 0 < cnt (l.drop (cnt l + 1)) then cnt l + 1 + cnt (l.drop (cnt l + 1)) else cnt l)
  else cnt l
theorem byte_eq (c d : UInt8) : (c.toNat : Int) = (d.toNat : Int) ↔ c = d := by
  rw [Int.natCast_inj]
  exact UInt8.toNat_inj

set_option maxRecDepth 100000 in
set_option maxHeartbeats 3200000 in
theorem number_any (S : ByteArray) (hs : S.size ≤ 1000) (w : World) : Calls Tryz.prog 21 #[.string S] w fun e w' => e = .returned (.int .i64 (numb (bl S))) ∧ Below w.heap.size w w' := by
  have sb : (S.size : Int) ≤ 1000 := by omega
  have C1 := fun w => count_any S hs w
  have hle := cnt_le (bl S)
  rw [bl_len] at hle
  obtain ⟨X, hX⟩ : ∃ X, numb (bl S) = X := ⟨_, rfl⟩
  rw [hX]
  unfold numb at hX
  obtain ⟨n, hn⟩ : ∃ n, cnt (bl S) = n := ⟨_, rfl⟩
  rw [hn] at hX hle C1
  have nb : (n : Int) ≤ (S.size : Int) := by omega
  by_cases h0 : 0 < n
  rotate_left
  · rw [if_neg (fun h => h0 h.1)] at hX
    subst hX
    have g0 : ¬ (0 : Int) < (n : Int) := by omega
    clear h0 hn hle
    go_enter Tryz.func21, Tryz.ntmps21
    go_wp2_with (go_at_call 45; go_loud (refine (C1 _).mono ?_; rintro e w1 ⟨rfl, hb⟩; have B1 := Lib.hid hb; clear hb))
    go_ret
    exact ⟨rfl, B1.out⟩
  have g0 : (0 : Int) < (n : Int) := by omega
  by_cases h1 : n < S.size
  rotate_left
  · rw [if_neg (fun h => by
      have hnone : (bl S)[n]? = none := List.getElem?_eq_none (by rw [bl_len]; omega)
      rcases h.2 with h | h <;> rw [hnone] at h <;> cases h)] at hX
    subst hX
    have g1 : ¬ (n : Int) < (S.size : Int) := by omega
    clear h0 h1 hn hle
    go_enter Tryz.func21, Tryz.ntmps21
    go_wp2_with (go_at_call 45; go_loud (refine (C1 _).mono ?_; rintro e w1 ⟨rfl, hb⟩; have B1 := Lib.hid hb; clear hb))
    go_ret
    exact ⟨rfl, B1.out⟩
  have g1 : (n : Int) < (S.size : Int) := by omega
  rw [bl_at S n h1] at hX
  have hsz : (S.extract (n + 1) S.size).size ≤ 1000 := by
    rw [← bl_len, bl_cut, List.length_take, List.length_drop, bl_len]; omega
  have hcut : bl (S.extract (n + 1) S.size) = (bl S).drop (n + 1) := by
    rw [bl_cut, List.take_of_length_le (by rw [List.length_drop, bl_len]; exact Nat.le_refl _)]
  have C2 := fun w => count_any (S.extract (n + 1) S.size) hsz w
  have hle2 := cnt_le ((bl S).drop (n + 1))
  rw [List.length_drop, bl_len] at hle2
  rw [hcut] at C2
  generalize cnt ((bl S).drop (n + 1)) = m at *
  have mb : (m : Int) ≤ (S.size : Int) := by omega
  have mb2 : (n : Int) + 1 + (m : Int) ≤ 1000 := by omega
  clear hsz hcut hle2 hle hn h0
  by_cases hc : (S[n].toNat : Int) = 46
  · rw [if_pos ⟨by omega, .inl (by rw [(byte_eq S[n] 46).1 hc])⟩] at hX
    by_cases hm : 0 < m
    · rw [if_pos hm] at hX
      have HX := Lib.hid (show (n : Int) + 1 + (m : Int) = (X : Int) by omega)
      have gm : (0 : Int) < (m : Int) := by omega
      clear hm hX
      go_enter Tryz.func21, Tryz.ntmps21
      go_wp2_with (first
        | (go_at_call 45; ((with_reducible refine (C2 _).mono ?_); rintro e w2 ⟨rfl, hb⟩; have B2 := Lib.hid (btrans B1.out hb); clear hb))
        | (go_at_call 45; ((with_reducible refine (C1 _).mono ?_); rintro e w1 ⟨rfl, hb⟩; have B1 := Lib.hid hb; clear hb)))
      go_ret
      exact ⟨by rw [← HX.out]; rfl, B2.out⟩
    · rw [if_neg hm] at hX
      subst hX
      have gm : ¬ (0 : Int) < (m : Int) := by omega
      clear hm
      go_enter Tryz.func21, Tryz.ntmps21
      go_wp2_with (first
        | (go_at_call 45; ((with_reducible refine (C2 _).mono ?_); rintro e w2 ⟨rfl, hb⟩; have B2 := Lib.hid (btrans B1.out hb); clear hb))
        | (go_at_call 45; ((with_reducible refine (C1 _).mono ?_); rintro e w1 ⟨rfl, hb⟩; have B1 := Lib.hid hb; clear hb)))
      go_ret
      exact ⟨rfl, B2.out⟩
  · by_cases hc2 : (S[n].toNat : Int) = 47
    · rw [if_pos ⟨by omega, .inr (by rw [(byte_eq S[n] 47).1 hc2])⟩] at hX
      by_cases hm : 0 < m
      · rw [if_pos hm] at hX
        have HX := Lib.hid (show (n : Int) + 1 + (m : Int) = (X : Int) by omega)
        have gm : (0 : Int) < (m : Int) := by omega
        clear hm hX
        go_enter Tryz.func21, Tryz.ntmps21
        go_wp2_with (first
          | (go_at_call 45; ((with_reducible refine (C2 _).mono ?_); rintro e w2 ⟨rfl, hb⟩; have B2 := Lib.hid (btrans B1.out hb); clear hb))
          | (go_at_call 45; ((with_reducible refine (C1 _).mono ?_); rintro e w1 ⟨rfl, hb⟩; have B1 := Lib.hid hb; clear hb)))
        go_ret
        exact ⟨by rw [← HX.out]; rfl, B2.out⟩
      · rw [if_neg hm] at hX
        subst hX
        have gm : ¬ (0 : Int) < (m : Int) := by omega
        clear hm
        go_enter Tryz.func21, Tryz.ntmps21
        go_wp2_with (first
          | (go_at_call 45; ((with_reducible refine (C2 _).mono ?_); rintro e w2 ⟨rfl, hb⟩; have B2 := Lib.hid (btrans B1.out hb); clear hb))
          | (go_at_call 45; ((with_reducible refine (C1 _).mono ?_); rintro e w1 ⟨rfl, hb⟩; have B1 := Lib.hid hb; clear hb)))
        go_ret
        exact ⟨rfl, B2.out⟩
    · rw [if_neg (fun h => by
        rcases h.2 with h | h
        · injection h with h; exact hc (by rw [h]; rfl)
        · injection h with h; exact hc2 (by rw [h]; rfl))] at hX
      subst hX
      clear C2
      have hc3 : ((S[n].toNat : Int) == 46) = false := by rw [beq_eq_false_iff_ne]; exact hc
      have hc4 : ((S[n].toNat : Int) == 47) = false := by rw [beq_eq_false_iff_ne]; exact hc2
      go_enter Tryz.func21, Tryz.ntmps21
      go_wp2_with (first
        | (go_at_call 45; ((with_reducible refine (C2 _).mono ?_); rintro e w2 ⟨rfl, hb⟩; have B2 := Lib.hid (btrans B1.out hb); clear hb))
        | (go_at_call 45; ((with_reducible refine (C1 _).mono ?_); rintro e w1 ⟨rfl, hb⟩; have B1 := Lib.hid hb; clear hb)))
      go_ret
      exact ⟨rfl, B1.out⟩

/-- A letter. -/
def isL (c : UInt8) : Bool := (decide (97 ≤ c.toNat) && decide (c.toNat ≤ 122)) || (decide (65 ≤ c.toNat) && decide (c.toNat ≤ 90))
/-- How many letters a text begins with. -/
def wrd (l : List UInt8) : Nat := (l.takeWhile isL).length
theorem tw_stop {p : UInt8 → Bool} : ∀ {l : List UInt8} {k : Nat}, (l.take k).all p = true → (∀ c, l[k]? = some c → p c = false) → k ≤ l.length → (l.takeWhile p).length = k
  | [], 0, _, _, _ => rfl
  | c :: l, 0, _, h, _ => by rw [List.takeWhile_cons, if_neg (by rw [h c rfl]; decide)]; rfl
  | [], k + 1, _, _, hk => absurd hk (by simp)
  | c :: l, k + 1, h, h2, hk => by
    rw [List.take_succ_cons, List.all_cons, Bool.and_eq_true] at h
    rw [List.takeWhile_cons, if_pos h.1, List.length_cons, tw_stop h.2 (fun d hd => h2 d hd) (by simpa using hk)]
theorem isL_bytes (c : UInt8) : isL c = true ↔ ((97 : Int) ≤ (c.toNat : Int) ∧ (c.toNat : Int) ≤ 122) ∨ ((65 : Int) ≤ (c.toNat : Int) ∧ (c.toNat : Int) ≤ 90) := by
  unfold isL
  rw [Bool.or_eq_true, Bool.and_eq_true, Bool.and_eq_true, decide_eq_true_iff, decide_eq_true_iff, decide_eq_true_iff, decide_eq_true_iff]
  omega

set_option maxRecDepth 100000 in
set_option maxHeartbeats 3200000 in
theorem word_any (S : ByteArray) (hs : S.size ≤ 1000) (w : World) : Calls Tryz.prog 23 #[.string S] w fun e w' => e = .returned (.int .i64 (wrd (bl S))) ∧ w = w' := by
  have sb : (S.size : Int) ≤ 1000 := by omega
  go_enter Tryz.func23, Tryz.ntmps23
  go_wp2
  go_loopw [3] (fun i wr => ∃ k : Nat, k ≤ S.size ∧ i = .int .i64 (k : Int) ∧ w = wr ∧ Hid (((bl S).take k).all isL = true)) (fun i _ => (S.size - intOf i).toNat)
  case atStart => exact ⟨0, Nat.zero_le _, rfl, rfl, rfl⟩
  case round =>
    obtain ⟨k, hk, rfl, rfl, hA⟩ := hrel
    by_cases hk0 : k = S.size
    · subst hk0
      have HW := Lib.hid (show wrd (bl S) = S.size from tw_stop hA.out (fun c hc => by rw [List.getElem?_eq_none (by rw [bl_len]; exact Nat.le_refl _)] at hc; cases hc) (by rw [bl_len]; exact Nat.le_refl _))
      clear hA
      go_wp2
      go_ret
      exact ⟨by rw [HW.out]; rfl, rfl⟩
    · have hlt : k < S.size := by omega
      have hi : (k : Int) < (S.size : Int) := by omega
      have hLB := isL_bytes S[k]
      have HA := Lib.hid (show isL S[k] = true → ((bl S).take (k + 1)).all isL = true from fun h => by rw [bl_take S k hlt, List.all_append, hA.out]; simp [h])
      have HW := Lib.hid (show isL S[k] = false → wrd (bl S) = k from fun h => tw_stop hA.out (fun c hc => by rw [bl_at S k hlt] at hc; injection hc with hc; rw [← hc]; exact h) (by rw [bl_len]; exact hk))
      clear hA hk0
      generalize isL S[k] = b at *
      by_cases h1 : (97 : Int) ≤ (S[k].toNat : Int)
      · by_cases h2 : (S[k].toNat : Int) ≤ 122
        · have HA2 := Lib.hid (HA.out (hLB.2 (.inl ⟨h1, h2⟩)))
          clear HA HW hLB
          go_wp2
          go_roundw
          case rel => exact ⟨k + 1, by omega, by go_num, by first | rfl | trivial, HA2⟩
          case measure => simp only [intOf]; omega
        · have h3 : ¬ (S[k].toNat : Int) ≤ 90 := by omega
          have h4 : (65 : Int) ≤ (S[k].toNat : Int) := by omega
          have HW2 := Lib.hid (HW.out (by cases b; rfl; (have := hLB.1 rfl; omega)))
          clear HA HW hLB
          go_wp2
          go_ret
          exact ⟨by rw [HW2.out]; rfl, rfl⟩
      · by_cases h2 : (65 : Int) ≤ (S[k].toNat : Int)
        · by_cases h3 : (S[k].toNat : Int) ≤ 90
          · have HA2 := Lib.hid (HA.out (hLB.2 (.inr ⟨h2, h3⟩)))
            clear HA HW hLB
            go_wp2
            go_roundw
            case rel => exact ⟨k + 1, by omega, by go_num, by first | rfl | trivial, HA2⟩
            case measure => simp only [intOf]; omega
          · have HW2 := Lib.hid (HW.out (by cases b; rfl; (have := hLB.1 rfl; omega)))
            clear HA HW hLB
            go_wp2
            go_ret
            exact ⟨by rw [HW2.out]; rfl, rfl⟩
        · have HW2 := Lib.hid (HW.out (by cases b; rfl; (have := hLB.1 rfl; omega)))
          clear HA HW hLB
          go_wp2
          go_ret
          exact ⟨by rw [HW2.out]; rfl, rfl⟩

/-- The factor of a prefix. -/
def pfx (c : UInt8) : Option (List UInt8) :=
  if c = 110 then some [49, 47, 49, 48, 48, 48, 48, 48, 48, 48, 48, 48] else if c = 117 then some [49, 47, 49, 48, 48, 48, 48, 48, 48] else if c = 109 then some [49, 47, 49, 48, 48, 48] else
  if c = 99 then some [49, 47, 49, 48, 48] else if c = 100 then some [49, 47, 49, 48] else if c = 104 then some [49, 48, 48] else if c = 107 then some [49, 48, 48, 48] else
  if c = 77 then some [49, 48, 48, 48, 48, 48, 48] else if c = 71 then some [49, 48, 48, 48, 48, 48, 48, 48, 48, 48] else none

set_option maxRecDepth 100000 in
set_option maxHeartbeats 3200000 in
theorem prefix_any (c : UInt8) (w : World) : Calls Tryz.prog 49 #[.int .u8 (c.toNat : Int)] w fun e w' => e = .returned (.tuple #[.string ⟨((pfx c).getD []).toArray⟩, .bool (pfx c).isSome]) ∧ w = w' := by
  obtain ⟨X, hX⟩ : ∃ X, pfx c = X := ⟨_, rfl⟩
  rw [hX]
  unfold pfx at hX
  by_cases h110 : (c.toNat : Int) = 110
  · rw [if_pos ((byte_eq c 110).1 h110)] at hX
    subst hX
    go_enter Tryz.func49, Tryz.ntmps49
    go_wp2
    go_ret2
    exact ⟨rfl, rfl⟩
  rw [if_neg (fun e => h110 ((byte_eq c 110).2 e))] at hX
  by_cases h117 : (c.toNat : Int) = 117
  · rw [if_pos ((byte_eq c 117).1 h117)] at hX
    subst hX
    go_enter Tryz.func49, Tryz.ntmps49
    go_wp2
    go_ret2
    exact ⟨rfl, rfl⟩
  rw [if_neg (fun e => h117 ((byte_eq c 117).2 e))] at hX
  by_cases h109 : (c.toNat : Int) = 109
  · rw [if_pos ((byte_eq c 109).1 h109)] at hX
    subst hX
    go_enter Tryz.func49, Tryz.ntmps49
    go_wp2
    go_ret2
    exact ⟨rfl, rfl⟩
  rw [if_neg (fun e => h109 ((byte_eq c 109).2 e))] at hX
  by_cases h99 : (c.toNat : Int) = 99
  · rw [if_pos ((byte_eq c 99).1 h99)] at hX
    subst hX
    go_enter Tryz.func49, Tryz.ntmps49
    go_wp2
    go_ret2
    exact ⟨rfl, rfl⟩
  rw [if_neg (fun e => h99 ((byte_eq c 99).2 e))] at hX
  by_cases h100 : (c.toNat : Int) = 100
  · rw [if_pos ((byte_eq c 100).1 h100)] at hX
    subst hX
    go_enter Tryz.func49, Tryz.ntmps49
    go_wp2
    go_ret2
    exact ⟨rfl, rfl⟩
  rw [if_neg (fun e => h100 ((byte_eq c 100).2 e))] at hX
  by_cases h104 : (c.toNat : Int) = 104
  · rw [if_pos ((byte_eq c 104).1 h104)] at hX
    subst hX
    go_enter Tryz.func49, Tryz.ntmps49
    go_wp2
    go_ret2
    exact ⟨rfl, rfl⟩
  rw [if_neg (fun e => h104 ((byte_eq c 104).2 e))] at hX
  by_cases h107 : (c.toNat : Int) = 107
  · rw [if_pos ((byte_eq c 107).1 h107)] at hX
    subst hX
    go_enter Tryz.func49, Tryz.ntmps49
    go_wp2
    go_ret2
    exact ⟨rfl, rfl⟩
  rw [if_neg (fun e => h107 ((byte_eq c 107).2 e))] at hX
  by_cases h77 : (c.toNat : Int) = 77
  · rw [if_pos ((byte_eq c 77).1 h77)] at hX
    subst hX
    go_enter Tryz.func49, Tryz.ntmps49
    go_wp2
    go_ret2
    exact ⟨rfl, rfl⟩
  rw [if_neg (fun e => h77 ((byte_eq c 77).2 e))] at hX
  by_cases h71 : (c.toNat : Int) = 71
  · rw [if_pos ((byte_eq c 71).1 h71)] at hX
    subst hX
    go_enter Tryz.func49, Tryz.ntmps49
    go_wp2
    go_ret2
    exact ⟨rfl, rfl⟩
  rw [if_neg (fun e => h71 ((byte_eq c 71).2 e))] at hX
  subst hX
  go_enter Tryz.func49, Tryz.ntmps49
  go_wp2
  go_ret2
  exact ⟨rfl, rfl⟩
end Go.Proofs.YthjnmnepjeegiaaGreatDoor

/- Symbols of units, plainly: the table, what is found there, the number a text of a unit begins with. -/
namespace Go.Proofs.YthjnmnepjeegiaaGreatDoor
open Go.RowKit Go.Proofs.YthjnmnepjeegiaaGreatDoor.Dg Go.Proofs.YthjnmnepjeegiaaGreatDoor.Q Go.Proofs.YthjnmnepjeegiaaGreatDoor.Num Go.Proofs.YthjnmnepjeegiaaGreatDoor.Str

/-- A symbol. -/
structure Sy where
  (name fac off : List UInt8)
  pre : Bool
  p : P7
deriving DecidableEq
def Sy.none : Sy := ⟨[], [], [], false, ⟨0, 0, 0, 0, 0, 0, 0⟩⟩
def Sy.L (s : Sy) : List Value := [.string ⟨s.name.toArray⟩, .string ⟨s.fac.toArray⟩, .string ⟨s.off.toArray⟩, .bool s.pre, .int .i64 s.p.a, .int .i64 s.p.b, .int .i64 s.p.c, .int .i64 s.p.d, .int .i64 s.p.e, .int .i64 s.p.f, .int .i64 s.p.g]
def Sy.v (s : Sy) : Value := .agg s.L.toArray
def syms : List Sy := [
  ⟨[109], [49], [48], true, ⟨1, 0, 0, 0, 0, 0, 0⟩⟩,
  ⟨[103], [49, 47, 49, 48, 48, 48], [48], true, ⟨0, 1, 0, 0, 0, 0, 0⟩⟩,
  ⟨[115], [49], [48], true, ⟨0, 0, 1, 0, 0, 0, 0⟩⟩,
  ⟨[75], [49], [48], true, ⟨0, 0, 0, 1, 0, 0, 0⟩⟩,
  ⟨[109, 111, 108], [49], [48], true, ⟨0, 0, 0, 0, 1, 0, 0⟩⟩,
  ⟨[65], [49], [48], true, ⟨0, 0, 0, 0, 0, 1, 0⟩⟩,
  ⟨[99, 100], [49], [48], true, ⟨0, 0, 0, 0, 0, 0, 1⟩⟩,
  ⟨[109, 105, 110], [54, 48], [48], false, ⟨0, 0, 1, 0, 0, 0, 0⟩⟩,
  ⟨[104], [51, 54, 48, 48], [48], false, ⟨0, 0, 1, 0, 0, 0, 0⟩⟩,
  ⟨[100], [56, 54, 52, 48, 48], [48], false, ⟨0, 0, 1, 0, 0, 0, 0⟩⟩,
  ⟨[116], [49, 48, 48, 48], [48], true, ⟨0, 1, 0, 0, 0, 0, 0⟩⟩,
  ⟨[76], [49, 47, 49, 48, 48, 48], [48], true, ⟨3, 0, 0, 0, 0, 0, 0⟩⟩,
  ⟨[72, 122], [49], [48], true, ⟨0, 0, -1, 0, 0, 0, 0⟩⟩,
  ⟨[78], [49], [48], true, ⟨1, 1, -2, 0, 0, 0, 0⟩⟩,
  ⟨[80, 97], [49], [48], true, ⟨-1, 1, -2, 0, 0, 0, 0⟩⟩,
  ⟨[74], [49], [48], true, ⟨2, 1, -2, 0, 0, 0, 0⟩⟩,
  ⟨[87], [49], [48], true, ⟨2, 1, -3, 0, 0, 0, 0⟩⟩,
  ⟨[98, 97, 114], [49, 48, 48, 48, 48, 48], [48], true, ⟨-1, 1, -2, 0, 0, 0, 0⟩⟩,
  ⟨[100, 101, 103, 67], [49], [53, 52, 54, 51, 47, 50, 48], false, ⟨0, 0, 0, 1, 0, 0, 0⟩⟩,
  ⟨[100, 101, 103, 70], [53, 47, 57], [52, 53, 57, 54, 55, 47, 49, 56, 48], false, ⟨0, 0, 0, 1, 0, 0, 0⟩⟩]
/-- The symbol of a word, with its prefix. -/
def sfind (l : List UInt8) : Option Sy :=
  match syms.find? (fun s => s.name == l) with
  | some s => some s
  | none => if l.length < 2 then none else match pfx (l.headD 0) with
    | none => none
    | some b => (syms.find? (fun s => s.pre && s.name == l.tail)).map fun s => { s with fac := bin dMul s.fac b }
end Go.Proofs.YthjnmnepjeegiaaGreatDoor

/- The text of a unit, plainly: exponents, factors, the unit. -/
namespace Go.Proofs.YthjnmnepjeegiaaGreatDoor
open Go.RowKit Go.Proofs.YthjnmnepjeegiaaGreatDoor.Dg Go.Proofs.YthjnmnepjeegiaaGreatDoor.Q Go.Proofs.YthjnmnepjeegiaaGreatDoor.Num Go.Proofs.YthjnmnepjeegiaaGreatDoor.Str

/-- An exponent, and how long it is. -/
def pexp (l : List UInt8) : Option (Int × Nat) :=
  if cnt (body l) = 0 then none else
  let t := ((body l).take (cnt (body l))).dropWhile (· == 48)
  let n : Nat := if t.length ≤ 2 then val t else 1000
  some (if isNeg l = true then (-(n : Int), cnt (body l) + 1) else ((n : Int), cnt (body l)))
/-- A factor. -/
structure PF where
  s : Sy
  exp : Int
  bare : Bool
deriving DecidableEq
def PF.L (x : PF) : List Value := x.s.L ++ [.int .i64 x.exp, .bool x.bare]
/-- The first factor of a text, and what is left. -/
def pstep (sg : Int) (l : List UInt8) : Option (PF × List UInt8) :=
  if 0 < numb l then match frm (l.take (numb l)) with
    | some q => if short q = true ∧ q ≠ 0 then some (⟨⟨[], txt q, [48], false, ⟨0, 0, 0, 0, 0, 0, 0⟩⟩, sg, decide (sg = 1)⟩, l.drop (numb l)) else none
    | none => none
  else match sfind (l.take (wrd l)) with
    | none => none
    | some y => if (l.drop (wrd l)).head? = some 94 then match pexp (l.drop (wrd l)).tail with
        | none => none
        | some (e, n) => some (⟨y, sg * e, false⟩, (l.drop (wrd l)).tail.drop n)
      else some (⟨y, sg, decide (sg = 1)⟩, l.drop (wrd l))
/-- The factors of a text, behind those that were read. -/
def pfac : Nat → Int → List PF → List UInt8 → Option (List PF)
  | 0, _, _, _ => none
  | k + 1, sg, acc, l => match pstep sg l with
    | none => none
    | some (x, []) => some (acc ++ [x])
    | some (x, c :: r) => if c = 32 then pfac k 1 (acc ++ [x]) r else if c = 47 then pfac k (-1) (acc ++ [x]) r else none
/-- The product of factors. -/
def pprod (xs : List PF) : Rat := xs.foldl (fun a x => a * ((num? x.s.fac).getD 0) ^ x.exp) 1
def psum (xs : List PF) : P7 := xs.foldl (fun a x => a.plus x.exp x.s.p) ⟨0, 0, 0, 0, 0, 0, 0⟩
/-- The unit of factors. -/
def pof (xs : List PF) : Un × Int :=
  if xs.any (fun x => x.s.off != [48] && (decide (1 < xs.length) || !x.bare)) = true then (Un.none, 10)
  else if 12 < xs.length then (Un.none, 4)
  else if xs.all (fun x => wi x.exp) = true ∧ vU (put (pprod xs)) ((xs.head?.map (·.s.off)).getD []) (psum xs) = true then (⟨put (pprod xs), (xs.head?.map (·.s.off)).getD [], psum xs⟩, 0)
  else (Un.none, 4)
/-- What ParseUnit gives. -/
def punit (l : List UInt8) : Un × Int := if 1000 < l.length then (Un.none, 4) else match pfac (l.length + 1) 1 [] l with
  | none => (Un.none, 10)
  | some xs => pof xs
end Go.Proofs.YthjnmnepjeegiaaGreatDoor

/- Texts of units: exponent of the program. -/
namespace Go.Proofs.YthjnmnepjeegiaaGreatDoor
open Go.RowKit Go.Proofs.YthjnmnepjeegiaaGreatDoor.Dg Go.Proofs.YthjnmnepjeegiaaGreatDoor.Q Go.Proofs.YthjnmnepjeegiaaGreatDoor.Num Go.Proofs.YthjnmnepjeegiaaGreatDoor.Str

theorem trimzero_any (S : ByteArray) (w : World) :
    Calls Tryz.prog 46 #[.string S, .string ⟨#[48]⟩] w fun e w' => e = .returned (.string ⟨((bl S).dropWhile (· == 48)).toArray⟩) ∧ Below w.heap.size w w' :=
  (Any.strings_TrimLeft_laid Tryz.lays161 Tryz.infoSetL S ⟨#[48]⟩ w (by decide) (ascii_of_all (by decide))).mono fun e w' ⟨h1, h2⟩ => ⟨by
    rw [h1, show (S.data.toList : List UInt8) = bl S from rfl, show (⟨#[48]⟩ : ByteArray).data.toList = [48] from rfl]
    have : Lib.trimLeftS (bl S) [48] = (bl S).dropWhile (· == 48) := by
      unfold Lib.trimLeftS
      congr 1
      funext c
      rw [Bool.eq_iff_iff]
      simp
    rw [this], h2⟩
theorem dropWhile_len {p : UInt8 → Bool} (l : List UInt8) : (l.dropWhile p).length ≤ l.length := by
  induction l with
  | nil => simp
  | cons a l ih => rw [List.dropWhile_cons]; split <;> simp; omega
theorem allD_dw {p : UInt8 → Bool} {l : List UInt8} (h : allD l = true) : allD (l.dropWhile p) = true := by
  unfold allD at *
  rw [List.all_eq_true] at *
  exact fun x hx => h x (List.dropWhile_subset _ hx)
theorem allD_tw (l : List UInt8) : allD (l.take (cnt l)) = true := by
  unfold allD cnt
  have : l.take (l.takeWhile isD).length = l.takeWhile isD := by
    have h := List.take_left (l₁ := l.takeWhile isD) (l₂ := l.dropWhile isD)
    rw [List.takeWhile_append_dropWhile] at h
    exact h
  rw [this]
  exact List.all_takeWhile

/-- What exponent gives. -/
def expV (o : Option (Int × Nat)) : Value := match o with
  | some (n, k) => .tuple #[.int .i64 n, .int .i64 (k : Int), .bool true]
  | none => .tuple #[.int .i64 0, .int .i64 0, .bool false]
set_option maxRecDepth 100000 in
set_option maxHeartbeats 6400000 in
theorem exponent_any (S : ByteArray) (hs : S.size ≤ 1000) (w : World) (hw : Wf w) : Calls Tryz.prog 26 #[.string S] w fun e w' => e = .returned (expV (pexp (bl S))) ∧ Below w.heap.size w w' := by
  have CN := fun w => cutneg_fixed S w
  have hRs : (body (bl S)).length ≤ 1000 := Nat.le_trans (body_len _) (by rw [bl_len]; exact hs)
  obtain ⟨X, hX⟩ : ∃ X, pexp (bl S) = X := ⟨_, rfl⟩
  rw [hX]
  unfold pexp at hX
  generalize isNeg (bl S) = neg at *
  obtain ⟨R, hR⟩ : ∃ R : ByteArray, (⟨(body (bl S)).toArray⟩ : ByteArray) = R := ⟨_, rfl⟩
  have hb : body (bl S) = bl R := by rw [← hR]; rfl
  rw [hR] at CN
  rw [hb] at hRs hX
  clear hb hR
  have hn := cnt_le (bl R)
  have T1 := fun w => trimleft_any R w
  have T2 := fun w => trimzero_any (R.extract 0 (cnt (bl R))) w
  have hcut : bl (R.extract 0 (cnt (bl R))) = (bl R).take (cnt (bl R)) := by rw [bl_cut]; simp
  rw [hcut] at T2
  have hZ : ((bl R).take (cnt (bl R))).dropWhile (· == 48) = ((bl R).take (cnt (bl R))).dropWhile (· == 48) := rfl
  have hZl := dropWhile_len (p := (· == 48)) ((bl R).take (cnt (bl R)))
  have hZd := allD_dw (p := (· == 48)) (allD_tw (bl R))
  rw [List.length_take] at hZl
  rw [bl_len] at hn hRs
  generalize ((bl R).take (cnt (bl R))).dropWhile (· == 48) = z at *
  generalize hc : cnt (bl R) = n at *
  clear hZ hc hcut
  obtain ⟨Z, hZ⟩ : ∃ Z : ByteArray, (⟨z.toArray⟩ : ByteArray) = Z := ⟨_, rfl⟩
  have hzb : z = bl Z := by rw [← hZ]; rfl
  rw [hZ] at T2
  dsimp only at hX
  rw [hzb] at hX hZl hZd
  rw [bl_len] at hX hZl
  clear hzb hZ
  have sb : (R.size : Int) ≤ 1000 := by omega
  have nb : (n : Int) ≤ (R.size : Int) := by omega
  have zb : (Z.size : Int) ≤ 1000 := by omega
  by_cases h0 : n = 0
  · rw [if_pos h0] at hX
    subst h0 hX
    clear T2 hZd hZl
    go_enter Tryz.func26, Tryz.ntmps26
    go_wp2_with (first
      | (go_at_call 25; go_loud (refine (CN _).mono ?_; rintro e w1 ⟨rfl, rfl⟩))
      | (go_at_call 46; go_loud (refine (T1 _).mono ?_; rintro e w1 ⟨T1, rfl, hT, hb⟩; have B1 := Lib.hid hb; clear hb)))
    go_ret3
    exact ⟨rfl, B1.out⟩
  rw [if_neg h0] at hX
  have hA := fun w hw => (atoi_any (⟨#[48]⟩ ++ Z) (by rw [ByteArray.size_append]; show 1 + _ ≤ _; omega) w hw)
  have h0' : ¬ (n : Int) = 0 := by omega
  have ext : ∀ T : ByteArray, (T.size : Int) = (R.size : Int) - (n : Int) → (R.size : Int) - (T.size : Int) = (n : Int) := fun T h => by omega
  by_cases h2 : Z.size ≤ 2
  · rw [if_pos h2] at hX
    have h2' : (Z.size : Int) ≤ 2 := by omega
    have hv : val (bl (⟨#[48]⟩ ++ Z)) = val (bl Z) := by
      rw [bl_app, show bl ⟨#[48]⟩ = [48] from rfl, val_append]
      show 0 * _ + _ = _
      omega
    have AT := fun w hw => (hA w hw).mono fun e w' (⟨v, ev, h1, _, _, h3, _, h4⟩ : AtoiQ _ _ _ _) => (show ∃ ev, e = Ending.returned (.tuple #[.int .i64 (val (bl Z) : Int), ev]) ∧ Below w.heap.size w w' from ⟨ev, by rw [h1, h3 (by rw [bl_app, allD_append, hZd]; rfl) (by rw [bl_app]; simp [show bl ⟨#[48]⟩ = [48] from rfl]) (by rw [ByteArray.size_append]; show 1 + _ ≤ _; omega), hv], h4⟩)
    have hval : val (bl Z) ≤ 99 := by
      have := val_lt (bl Z) hZd
      rw [bl_len] at this
      have h3 : (10 : Nat) ^ Z.size ≤ 10 ^ 2 := Nat.pow_le_pow_right (by decide) h2
      omega
    have hvb : (val (bl Z) : Int) ≤ 99 := by omega
    clear hA hv hZd hZl hval
    generalize val (bl Z) = v at *
    have HX := Lib.hid hX
    clear hX h0 h2
    cases neg
    all_goals
      go_enter Tryz.func26, Tryz.ntmps26
      go_wp2_with (first
        | (go_at_call 52; go_loud (refine (AT _ (hw.up B2.out)).mono ?_; rintro e w3 ⟨ev, rfl, hb⟩; have B3 := Lib.hid (btrans B2.out hb); clear hb))
        | (go_at_call 25; go_loud (refine (CN _).mono ?_; rintro e w1 ⟨rfl, rfl⟩))
        | (go_at_call 46; ((with_reducible refine (T1 _).mono ?_); rintro e w1 ⟨T3, rfl, hT, hb⟩; have B1 := Lib.hid hb; have e1 := ext _ hT; clear hb hT))
        | (go_at_call 46; ((with_reducible refine (T2 _).mono ?_); rintro e w2 ⟨rfl, hb⟩; have B2 := Lib.hid (btrans B1.out hb); clear hb)))
      go_ret3
      exact ⟨by rw [← HX.out]; rfl, B3.out⟩
  · rw [if_neg h2] at hX
    have h2' : ¬ (Z.size : Int) ≤ 2 := by omega
    have HX := Lib.hid hX
    clear hX h0 h2 hA hZd hZl
    cases neg
    all_goals
      go_enter Tryz.func26, Tryz.ntmps26
      go_wp2_with (first
        | (go_at_call 25; go_loud (refine (CN _).mono ?_; rintro e w1 ⟨rfl, rfl⟩))
        | (go_at_call 46; ((with_reducible refine (T1 _).mono ?_); rintro e w1 ⟨T3, rfl, hT, hb⟩; have B1 := Lib.hid hb; have e1 := ext _ hT; clear hb hT))
        | (go_at_call 46; ((with_reducible refine (T2 _).mono ?_); rintro e w2 ⟨rfl, hb⟩; have B2 := Lib.hid (btrans B1.out hb); clear hb)))
      go_ret3
      exact ⟨by rw [← HX.out]; rfl, B2.out⟩
end Go.Proofs.YthjnmnepjeegiaaGreatDoor
