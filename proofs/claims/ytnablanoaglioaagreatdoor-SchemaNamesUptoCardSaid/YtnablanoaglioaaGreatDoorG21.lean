/- Texts ScF RfA RfB -/
import Derived.Test.YtnablanoaglioaaGreatDoorG20
import Derived.Test.YtnablanoaglioaaGreatDoorG19
namespace Go.Proofs.YtnablanoaglioaaGreatDoor
open Go.RowKit Dg Q Num Str

theorem slashL_at {a b : List UInt8} (h : (47 : UInt8) ∉ b) : slashL (a ++ 47 :: b) = a.length := by
  unfold slashL
  have hb : ∀ x ∈ b.reverse, (x != 47) = true := fun x hx => by
    have : x ≠ 47 := fun e => h (by rw [← e]; exact List.mem_reverse.1 hx)
    simpa using this
  have e : (a ++ 47 :: b).reverse = b.reverse ++ 47 :: a.reverse := by simp
  rw [e, List.takeWhile_append_of_pos hb, List.takeWhile_cons_of_neg (by decide)]
  simp
  omega
theorem lastslash (S : ByteArray) (h : (47 : UInt8) ∈ bl S) : Lib.lastIndexByte S 47 = ((slashL (bl S) : Nat) : Int) ∧ slashL (bl S) < S.size := by
  have at_ : ∀ j (hj : j < S.size), S.data[j]! = S[j] := fun j hj => by
    have : j < S.data.size := hj
    rw [getElem!_pos S.data j this]; rfl
  unfold Lib.lastIndexByte
  rcases Lib.lastIdx_spec S 47 S.size with ⟨_, hn⟩ | ⟨i, hi, he, hc, hn⟩
  · obtain ⟨j, hj, hv⟩ := List.mem_iff_getElem.1 h
    have hj' : j < S.size := by rw [bl_len] at hj; exact hj
    have h1 := bl_at S j hj'
    rw [List.getElem?_eq_getElem hj, hv] at h1
    injection h1 with h1
    exact absurd (by rw [at_ j hj', ← h1]; rfl) (hn j hj')
  · have hci : S[i] = 47 := by
      rw [at_ i hi] at hc
      exact (byte_eq S[i] 47).1 hc
    have hl : bl S = (bl S).take i ++ 47 :: (bl S).drop (i + 1) := by
      have hlt : i < (bl S).length := by rw [bl_len]; exact hi
      have h1 := bl_at S i hi
      rw [List.getElem?_eq_getElem hlt, hci] at h1
      injection h1 with h1
      rw [← h1, ← List.drop_eq_getElem_cons hlt, List.take_append_drop]
    have hb : (47 : UInt8) ∉ (bl S).drop (i + 1) := fun hm => by
      obtain ⟨j, hj, hv⟩ := List.mem_iff_getElem.1 hm
      rw [List.getElem_drop] at hv
      have hj' : i + 1 + j < S.size := by rw [List.length_drop, bl_len] at hj; omega
      have h1 := bl_at S (i + 1 + j) hj'
      rw [List.getElem?_eq_getElem (by rw [bl_len]; exact hj'), hv] at h1
      injection h1 with h1
      exact hn (i + 1 + j) (by omega) hj' (by rw [at_ _ hj', ← h1]; rfl)
    have hs : slashL (bl S) = i := by
      rw [hl, slashL_at hb, List.length_take, bl_len]
      omega
    rw [he, hs]
    exact ⟨rfl, hi⟩
def ParR (o : Option (List UInt8)) (w : World) (e : Ending) (w' : World) : Prop := Below w.heap.size w w' ∧ match o with
  | none => e = .returned (.tuple #[.string ⟨#[]⟩, .bool false])
  | some up => ∃ T : ByteArray, bl T = up ∧ e = .returned (.tuple #[.string T, .bool true])
set_option maxRecDepth 100000 in
set_option maxHeartbeats 3200000 in
theorem parent_any (S : ByteArray) (hs : S.size ≤ 4000000000) (w : World) (hw : Ws w) : Calls Tryz.prog 9 #[.string S] w (ParR (parentB (bl S)) w) := by
  have h47 : (S.toList == [47]) = decide (bl S = [47]) := eqS S [47]
  have VP := fun w' (hb : Below w.heap.size w w') => vpath_any S hs w' (hw.up hb)
  have LI := fun w' => Tryz.strings_LastIndexByte S 47 (by omega) w'
  by_cases hr : bl S = [47]
  · have hx : parentB (bl S) = none := by unfold parentB; rw [if_pos (.inl hr)]
    rw [hx]
    rw [decide_eq_true hr] at h47
    clear hr hx hw VP LI
    go_enter Tryz.func9, Tryz.ntmps9
    go_wp2
    go_ret2
    exact ⟨Below.refl _ _, rfl⟩
  · rw [decide_eq_false hr] at h47
    have VP := VP w (Below.refl _ _)
    cases hp : pathB (bl S)
    · have hx : parentB (bl S) = none := by unfold parentB; rw [if_pos (.inr hp)]
      rw [hx]
      rw [hp] at VP
      clear hr hx hw LI hp
      go_enter Tryz.func9, Tryz.ntmps9
      go_wp2_with (go_at_call 13; go_loud ((with_reducible refine VP.mono ?_); rintro e w1 ⟨rfl, hb⟩; have b1 := Lib.hid hb; clear hb))
      go_ret2
      exact ⟨b1.out, rfl⟩
    · have hx : parentB (bl S) = some ((bl S).take (max (slashL (bl S)) 1)) := by unfold parentB; rw [if_neg (fun h => by rcases h with h | h; exact hr h; rw [hp] at h; cases h)]
      rw [hx]
      rw [hp] at VP
      have hm : (47 : UInt8) ∈ bl S := by
        unfold pathB at hp
        rw [show (bl S == [47]) = false by rw [beq_eq_false_iff_ne]; exact hr, Bool.false_or, Bool.and_eq_true] at hp
        exact List.mem_of_mem_head? (by rw [eq_of_beq hp.1]; rfl)
      obtain ⟨hl1, hl2⟩ := lastslash S hm
      rw [hl1] at LI
      have LI := fun w' => (LI w').mono fun e w2 h => (show e = .returned (.int .i64 ((slashL (bl S) : Nat) : Int)) ∧ w' = w2 from ⟨h.1, h.2.symm⟩)
      obtain ⟨i, hi⟩ : ∃ i, slashL (bl S) = i := ⟨_, rfl⟩
      rw [hi] at LI hl2
      obtain ⟨j, hj⟩ : ∃ j, max i 1 = j := ⟨_, rfl⟩
      have ej : max (i : Int) 1 = (j : Int) := by omega
      have jb : (j : Int) ≤ (S.size : Int) := by omega
      obtain ⟨T, hT⟩ : ∃ T, S.extract 0 j = T := ⟨_, rfl⟩
      have HT := Lib.hid (show bl T = (bl S).take (max (slashL (bl S)) 1) by rw [← hT, take_ext, hi, hj])
      clear hr hx hw hp hm hl1 hi hj hl2
      go_enter Tryz.func9, Tryz.ntmps9
      go_wp2_with (first
        | (go_at_call 39; go_loud ((with_reducible refine (LI _).mono ?_); rintro e w2 ⟨rfl, rfl⟩))
        | (go_at_call 13; go_loud ((with_reducible refine VP.mono ?_); rintro e w1 ⟨rfl, hb⟩; have b1 := Lib.hid hb; clear hb)))
      go_ret2
      exact ⟨b1.out, T, HT.out, rfl⟩
end Go.Proofs.YtnablanoaglioaaGreatDoor
namespace Go.Proofs.YtnablanoaglioaaGreatDoor
open Go.RowKit Dg Q Num Str

theorem path_no {l : List UInt8} (h : l.head? ≠ some 47) : pathB l = false := by
  unfold pathB
  have h1 : (l == [47]) = false := by rw [beq_eq_false_iff_ne]; intro e; rw [e] at h; exact h rfl
  have h2 : (l.head? == some 47) = false := by rw [beq_eq_false_iff_ne]; exact h
  rw [h1, h2]; rfl
theorem path_yes {t : List UInt8} {ps : List (List UInt8)} (h : spl 47 t = ps) (hne : t ≠ []) : pathB (47 :: t) = (ps.all nameB && decide (ps.length ≤ 4)) := by
  unfold pathB
  have h1 : ((47 :: t : List UInt8) == [47]) = false := by rw [beq_eq_false_iff_ne]; intro e; injection e with _ e; exact hne e
  rw [h1, List.tail_cons, h]
  simp
theorem spl_last : ∀ {ps : List (List UInt8)} {t : List UInt8}, spl 47 t = ps → ∀ b, ps.getLast? = some b → ∃ pre, (47 : UInt8) :: t = pre ++ 47 :: b ∧ (47 : UInt8) ∉ b
  | [], t, h => absurd h (spl_ne 47 t)
  | a :: ps, t, h => by
    intro b hb
    obtain ⟨h1, h2⟩ := spl_join h
    rcases h2 with ⟨rfl, rfl⟩ | ⟨r, rfl, hr⟩
    · injection hb with hb
      subst hb
      exact ⟨[], rfl, h1⟩
    · have hne : ps ≠ [] := by rw [← hr]; exact spl_ne 47 r
      cases ps with
      | nil => exact absurd rfl hne
      | cons p ps' =>
      rw [List.getLast?_cons_cons] at hb
      obtain ⟨pre, e, h3⟩ := spl_last hr b hb
      exact ⟨47 :: a ++ pre, by simp [e], h3⟩
end Go.Proofs.YtnablanoaglioaaGreatDoor
namespace Go.Proofs.YtnablanoaglioaaGreatDoor
open Go.RowKit Dg Q Num Str

theorem low_iff (c : UInt8) : isLow c = true ↔ 97 ≤ c.toNat ∧ c.toNat ≤ 122 := by unfold isLow; exact decide_eq_true_iff
theorem nm_iff (c : UInt8) : isNm c = true ↔ (97 ≤ c.toNat ∧ c.toNat ≤ 122) ∨ c.toNat = 95 ∨ (48 ≤ c.toNat ∧ c.toNat ≤ 57) := by
  unfold isNm isD
  rw [Bool.or_eq_true, Bool.or_eq_true, low_iff, beq_iff_eq, decide_eq_true_iff, ← UInt8.toNat_inj]
  rfl

set_option maxRecDepth 100000 in
set_option maxHeartbeats 3200000 in
theorem rvname_any (S : ByteArray) (hs : S.size ≤ 9223372036854775807) (w : World) : Calls Tryz.prog 12 #[.string S] w fun e w' => e = .returned (.bool (nameB (bl S))) ∧ w = w' := by
  have sb : (S.size : Int) ≤ 9223372036854775807 := by omega
  obtain ⟨X, hX⟩ : ∃ X, nameB (bl S) = X := ⟨_, rfl⟩
  rw [hX]
  by_cases h0 : S.size = 0
  · have hx : X = false := by
      rw [← hX, List.eq_nil_of_length_eq_zero (by rw [bl_len]; exact h0 : (bl S).length = 0)]
      rfl
    subst hx
    have g0 : (S.size : Int) < 1 := by omega
    clear hX
    go_enter Tryz.func12, Tryz.ntmps12
    go_wp2
    go_ret
    exact ⟨rfl, rfl⟩
  have g0 : ¬ (S.size : Int) < 1 := by omega
  by_cases h16 : 16 < S.size
  · have g16 : (16 : Int) < (S.size : Int) := by omega
    rw [nameB_long (by rw [bl_len]; exact h16)] at hX
    subst hX
    clear h16
    go_enter Tryz.func12, Tryz.ntmps12
    go_wp2
    go_ret
    exact ⟨rfl, rfl⟩
  have g16 : ¬ (16 : Int) < (S.size : Int) := by omega
  have HE := Lib.hid (show (bl S).head?.any isLow = true → (bl S).all isNm = true → X = true from fun h1 h2 => by
    rw [← hX]
    unfold nameB
    rw [decide_eq_true (by rw [bl_len]; omega : (bl S).length ≤ 16), h1, h2]
    rfl)
  have HA := Lib.hid (show ∀ k c, (bl S)[k]? = some c → isNm c = false → X = false from fun k c h1 h2 => by rw [← hX]; exact nameB_at h1 h2)
  have HB := Lib.hid (show ∀ c, (bl S)[0]? = some c → isLow c = false → X = false from fun c h1 h2 => by
    rw [← hX]
    cases hl : bl S with
    | nil => exact rfl
    | cons d l =>
      rw [hl] at h1
      injection h1 with h1
      subst h1
      exact nameB_head h2)
  clear hX
  go_enter Tryz.func12, Tryz.ntmps12
  go_wp2
  go_loopw [16] (fun i wr => ∃ k : Nat, k ≤ S.size ∧ i = .int .i64 (k : Int) ∧ w = wr ∧ Hid ((k = 0 ∨ (bl S).head?.any isLow = true) ∧ ((bl S).take k).all isNm = true)) (fun i _ => (S.size - intOf i).toNat)
  case atStart => exact ⟨0, Nat.zero_le _, rfl, by first | rfl | trivial, Lib.hid ⟨.inl rfl, rfl⟩⟩
  case round =>
    obtain ⟨k, hk, rfl, rfl, hA⟩ := hrel
    by_cases hkn : k = S.size
    · subst hkn
      have hx := HE.out (hA.out.1.resolve_left h0) (by have := hA.out.2; rwa [List.take_of_length_le (by rw [bl_len]; exact Nat.le_refl _)] at this)
      subst hx
      clear hA HA HE HB
      go_wp2
      go_ret
      exact ⟨rfl, rfl⟩
    · have hlt : k < S.size := by omega
      have hi : (k : Int) < (S.size : Int) := by omega
      have hb := bl_at S k hlt
      have hcz : S[k].toNat < 256 := UInt8.toNat_lt _
      have HN := Lib.hid (show ((97 ≤ S[k].toNat ∧ S[k].toNat ≤ 122) ∨ k ≠ 0 ∧ (S[k].toNat = 95 ∨ 48 ≤ S[k].toNat ∧ S[k].toNat ≤ 57)) → ((k + 1 = 0 ∨ (bl S).head?.any isLow = true) ∧ ((bl S).take (k + 1)).all isNm = true) from fun h => by
        refine ⟨.inr ?_, all_snoc hA.out.2 hb ((nm_iff _).2 (by omega))⟩
        rcases h with h | h
        · rcases hA.out.1 with rfl | h'
          · have e : (bl S).head? = some S[0] := by rw [List.head?_eq_getElem?]; exact hb
            rw [e]
            exact (low_iff _).2 h
          · exact h'
        · exact hA.out.1.resolve_left h.1)
      have HF := Lib.hid (show ¬ ((97 ≤ S[k].toNat ∧ S[k].toNat ≤ 122) ∨ k ≠ 0 ∧ (S[k].toNat = 95 ∨ 48 ≤ S[k].toNat ∧ S[k].toNat ≤ 57)) → X = false from fun h => by
        by_cases hk0 : k = 0
        · subst hk0
          refine HB.out S[0] hb ?_
          rw [← Bool.not_eq_true, low_iff]
          omega
        · refine HA.out k S[k] hb ?_
          rw [← Bool.not_eq_true, nm_iff]
          omega)
      have HK := Lib.hid hk
      clear hA HA HE HB hb hk
      by_cases c1 : (97 : Int) ≤ (S[k].toNat : Int)
      · by_cases c2 : (S[k].toNat : Int) ≤ 122
        · go_wp2
          go_roundw
          case measure => simp only [intOf]; omega
          case rel => exact ⟨k + 1, by omega, by simp, by first | rfl | trivial, Lib.hid (HN.out (by omega))⟩
        · by_cases ck : (k : Int) = 0
          · have hx := HF.out (by omega)
            subst hx
            obtain rfl : k = 0 := by omega
            clear ck
            go_wp2
            go_ret
            exact ⟨rfl, rfl⟩
          · have c5 : ¬ (S[k].toNat : Int) = 95 := by omega
            have c6 : ¬ (S[k].toNat : Int) < 48 := by omega
            have c7 : (57 : Int) < (S[k].toNat : Int) := by omega
            have hx := HF.out (by omega)
            subst hx
            have e5 : ((S[k].toNat : Int) != 95) = true := by simpa using c5
            have ek : ((k : Int) == 0) = false := by simpa using ck
            go_wp2
            go_ret
            exact ⟨rfl, rfl⟩
      · by_cases ck : (k : Int) = 0
        · have hx := HF.out (by omega)
          subst hx
          obtain rfl : k = 0 := by omega
          clear ck
          go_wp2
          go_ret
          exact ⟨rfl, rfl⟩
        · by_cases c5 : (S[k].toNat : Int) = 95
          · have hn := Lib.hid (HN.out (by omega))
            have e5 : ((S[k].toNat : Int) != 95) = false := by simpa using c5
            have ek : ((k : Int) == 0) = false := by simpa using ck
            go_wp2
            go_roundw
            case measure => simp only [intOf]; omega
            case rel => exact ⟨k + 1, by omega, by simp, by first | rfl | trivial, hn⟩
          · by_cases c6 : (S[k].toNat : Int) < 48
            · have hx := HF.out (by omega)
              subst hx
              have e5 : ((S[k].toNat : Int) != 95) = true := by simpa using c5
              have ek : ((k : Int) == 0) = false := by simpa using ck
              go_wp2
              go_ret
              exact ⟨rfl, rfl⟩
            · have e5 : ((S[k].toNat : Int) != 95) = true := by simpa using c5
              have ek : ((k : Int) == 0) = false := by simpa using ck
              by_cases c7 : (57 : Int) < (S[k].toNat : Int)
              · have hx := HF.out (by omega)
                subst hx
                go_wp2
                go_ret
                exact ⟨rfl, rfl⟩
              · have hn := Lib.hid (HN.out (by omega))
                go_wp2
                go_roundw
                case measure => simp only [intOf]; omega
                case rel => exact ⟨k + 1, by omega, by simp, by first | rfl | trivial, hn⟩
end Go.Proofs.YtnablanoaglioaaGreatDoor
