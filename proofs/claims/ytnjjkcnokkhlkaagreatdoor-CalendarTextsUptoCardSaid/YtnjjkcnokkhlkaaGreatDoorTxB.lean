/- The program's digits and padded. -/
import Derived.Test.YtnjjkcnokkhlkaaGreatDoorTxA
import Derived.Test.YtnjjkcnokkhlkaaGreatDoorShelf
import Derived.Shelf.Strings.SlTrimAscii
import Derived.Lib.SmallJoins
import Derived.Lib.AppendIntMem
import Derived.ShutString
namespace Go.Proofs.YtnjjkcnokkhlkaaGreatDoor
open Go.RowKit Go.Sort Go.Joins Go.Proofs.YtnjjkcnokkhlkaaGreatDoor.Str

def dgo (l : List UInt8) (n : Nat) : Bool := decide (l.length = n) && allD l
def dgv (l : List UInt8) (n : Nat) : Int := if dgo l n = true then (val l : Int) else 0

theorem Tryz.infoSet : (Tryz.prog.info? (Tryz.lays160_ren.t 116)).map (fun i => (i.zero, i.size)) = some (some (.agg (Array.replicate 256 (.bool false))), 256) := by kernel_rfl

def cs10B : ByteArray := ⟨#[48, 49, 50, 51, 52, 53, 54, 55, 56, 57]⟩
theorem trim_any (s : ByteArray) (w : World) (hs : s.size ≤ 9223372036854775807) :
    Calls Tryz.prog 28 #[.string s, .string ⟨#[48, 49, 50, 51, 52, 53, 54, 55, 56, 57]⟩] w fun e w' => e = .returned (.string ⟨(Lib.trimS s.data.toList cs10).toArray⟩) ∧ Below w.heap.size w w' :=
  Any.strings_Trim_laid Tryz.lays160 Tryz.infoSet s ⟨#[48, 49, 50, 51, 52, 53, 54, 55, 56, 57]⟩ w hs (by decide) (ascii_of_all (by decide))

theorem size_toList (s : ByteArray) : s.data.toList.length = s.size := (Lib.size_eq s).symm

set_option maxRecDepth 100000 in
set_option maxHeartbeats 800000 in
/-- digits(s, n) of the program. -/
theorem digits_any (s : ByteArray) (n : Nat) (hn0 : 1 ≤ n) (hn : n ≤ 18) (w : World) (hs : s.size ≤ 9223372036854775807) :
    Calls Tryz.prog 17 #[.string s, .int .i64 n] w fun e w' => e = .returned (.tuple #[.int .i64 (dgv s.data.toList n), .bool (dgo s.data.toList n)]) ∧ Below w.heap.size w w' := by
  have hlen := size_toList s
  by_cases h1 : s.size = n
  · have T := fun w => trim_any s w hs
    cases h2 : allD s.data.toList
    · have hne : (Lib.trimS s.data.toList cs10) ≠ [] := fun e => by rw [(trim_digits _).1 e] at h2; cases h2
      have R := Lib.hid (show dgo s.data.toList n = false by unfold dgo; rw [h2]; simp)
      subst h1
      clear h2 hlen
      generalize Lib.trimS s.data.toList cs10 = l at *
      have hl : l.isEmpty = false := by cases l; exact absurd rfl hne; rfl
      clear hne
      go_enter Tryz.func17, Tryz.ntmps17
      go_wp2_with (go_at_call 28; refine (T _).mono ?_; rintro e w1 ⟨rfl, hb1⟩)
      go_ret2
      refine ⟨?_, hb1⟩
      unfold dgv
      rw [R.out]
      rfl
    · have he : Lib.trimS s.data.toList cs10 = [] := (trim_digits _).2 h2
      rw [he] at T
      have hne : s.data.toList ≠ [] := fun e => by rw [e] at hlen; simp at hlen; omega
      have hA := fun w => Tryz.strconv_Atoi s _ (by omega) (atoi_digits _ h2 hne) w
      have R := Lib.hid (show dgo s.data.toList n = true by unfold dgo; rw [h2, hlen]; simp [h1])
      subst h1
      clear h2 hlen he hne
      go_enter Tryz.func17, Tryz.ntmps17
      go_wp2_with (first | (go_at_call 28; refine (T _).mono ?_; rintro e w1 ⟨rfl, hb1⟩) | (go_at_call 29; refine (hA _).mono ?_; rintro e w2 ⟨rfl, t, rfl⟩))
      go_quiet (fail)
      go_wp2
      go_ret2
      refine ⟨?_, below_drewN (btrans hb1 (below_bytesWorld _ _ _ _ (Nat.le_refl _))) _⟩
      unfold dgv
      rw [R.out]
      rfl
  · have R := Lib.hid (show dgo s.data.toList n = false by unfold dgo; rw [hlen]; simp [h1])
    have h1' : ((s.size : Int) != (n : Int)) = true := by simp; omega
    clear hlen h1
    go_enter Tryz.func17, Tryz.ntmps17
    go_wp2_with fail
    go_ret2
    refine ⟨?_, Below.refl _ _⟩
    unfold dgv
    rw [R.out]
    rfl

theorem bytes_append (a b : List UInt8) : (⟨a.toArray⟩ : ByteArray) ++ ⟨b.toArray⟩ = ⟨(a ++ b).toArray⟩ := by
  apply ByteArray.ext
  rw [ByteArray.data_append]
  exact List.append_toArray a b

theorem below_grow' (w : World) (k : Nat) (os : Array Obj) : Below w.heap.size w (grow (w.drewN k) os) := Lib.below_grow _ w (Nat.le_refl _) k os

theorem itoa_pad {x : Int} {k : Nat} (h0 : 0 ≤ x) (h1 : x < 10 ^ k) (hk : 0 < k) : 1 ≤ (Lib.itoa x).length ∧ (Lib.itoa x).length ≤ k ∧ Lib.repeatL [48] (k - (Lib.itoa x).length) ++ Lib.itoa x = pad k x.toNat := by
  have e : Lib.itoa x = Lib.decDigits x.toNat := by unfold Lib.itoa; rw [if_neg (by omega)]
  have h : x.toNat < 10 ^ k := by
    have : ((10 ^ k : Nat) : Int) = (10 : Int) ^ k := by simp
    omega
  obtain ⟨h2, h3⟩ := pad_decDigits k x.toNat h hk
  rw [e, repeat_zero]
  exact ⟨decDigits_pos _, h2, h3⟩

set_option maxRecDepth 100000 in
set_option maxHeartbeats 800000 in
/-- padded(x, k) of the program. -/
theorem padded_any (x : Int) (k : Nat) (h0 : 0 ≤ x) (h1 : x < 10 ^ k) (hk0 : 0 < k) (hk : k ≤ 18) (w : World) (htab : Lib.TabIs Tryz.prog w "internal/strconv.uint64pow10" .u64 Lib.pow10Tab) :
    Calls Tryz.prog 10 #[.int .i64 x, .int .i64 k] w fun e w' => e = .returned (.string ⟨(pad k x.toNat).toArray⟩) ∧ Below w.heap.size w w' := by
  have hx : x < 10 ^ 18 := Int.lt_of_lt_of_le h1 (by exact_mod_cast Nat.pow_le_pow_right (by omega) hk)
  obtain ⟨i1, i2, i3⟩ := itoa_pad h0 h1 hk0
  have I := Tryz.strconv_Itoa x (by omega) (by omega) w htab
  have R := Lib.hid i3
  clear i3 h1 htab hx
  generalize Lib.itoa x = l at *
  have hs := size_of_list l
  have em : ((k - l.length : Nat) : Int) = max 0 ((k : Int) - (l.length : Int)) := by omega
  have HR := fun w => Tryz.strings_Repeat ⟨#[48]⟩ (k - l.length) w (by omega) (by show 1 * _ ≤ _; omega)
  rw [em] at HR
  clear em
  have hlr : (Lib.repeatL (⟨#[48]⟩ : ByteArray).data.toList (k - l.length)).length ≤ 18 := by rw [Lib.repeatL_length]; show _ * 1 ≤ 18; omega
  generalize hrp : Lib.repeatL (⟨#[48]⟩ : ByteArray).data.toList (k - l.length) = lr at *
  have HL := Lib.hid hrp
  clear hrp
  go_enter Tryz.func10, Tryz.ntmps10
  go_wp2_with (first | (go_at_call 22; refine I.mono ?_; rintro e w1 ⟨rfl, k1, os1, rfl⟩) | (go_at_call 23; refine (HR _).mono ?_; rintro e w2 ⟨rfl, hb2⟩))
  go_ret
  exact ⟨cal_str_ret (by rw [bytes_append, R.out]), (below_grow' w k1 os1).trans (hb2.mono (below_grow' w k1 os1).size)⟩

end Go.Proofs.YtnjjkcnokkhlkaaGreatDoor
