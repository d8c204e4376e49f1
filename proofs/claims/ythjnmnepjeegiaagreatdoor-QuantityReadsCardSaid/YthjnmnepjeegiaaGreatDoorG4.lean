/- String of the program's numbers. Digits of the program: at a text of digits the number, at any other text some number. How long the parts of a rational number get. No program. Fractions of the program: what a value is; Make. -/
import Derived.Test.YthjnmnepjeegiaaGreatDoorG3
import Derived.Test.YthjnmnepjeegiaaGreatDoorG1
import Derived.Lib.AtoiAllCases
/- String of the program's numbers. -/
namespace Go.Proofs.YthjnmnepjeegiaaGreatDoor
open Go.RowKit Go.Sort Go.Joins Go.Proofs.YthjnmnepjeegiaaGreatDoor.Dg Go.Proofs.YthjnmnepjeegiaaGreatDoor.Str Go.Proofs.YthjnmnepjeegiaaGreatDoor.Num

/-- The builder in block b holds the bytes l. -/
def Bd (w : World) (B b : Nat) (l : List UInt8) : Prop := Lib.IsBuilder 133 5 B b (Lib.byteCells l) w ∧ B ≤ w.heap.size
theorem Bd.up {w w' : World} {B b : Nat} {l : List UInt8} (h : Bd w B b l) (hb : Below w.heap.size w w') : Bd w' B b l := by
  have key : ∀ {p : Value}, Lib.BuilderAt 133 5 B b p (Lib.byteCells l) w → Lib.BuilderAt 133 5 B b p (Lib.byteCells l) w' := by
    intro p h
    have hlt := h.lt
    obtain ⟨h1, v, h2, h3, h4⟩ := h
    exact ⟨h1, v, (hb.block b hlt).trans h2, h3.kept (grown_of_below (g := some b) hb) (.inr h4), h4⟩
  exact ⟨h.1.imp key key, Nat.le_trans h.2 hb.size⟩
theorem Bd.fresh (w : World) : Bd (w.alloc (.cells #[.pointer none, .slice none 0 0] 133)) w.heap.size w.heap.size [] :=
  ⟨Lib.fresh_isBuilder _ _ w, by simp⟩
theorem Tryz.lays166' : Go.Proofs.Lays.n166 Tryz.prog Tryz.lays105_ren := { Tryz.lays105 with }
/-- (*strings.Builder).WriteString. -/
theorem write_any (B b : Nat) (l : List UInt8) (S : ByteArray) (w : World) (h : Bd w B b l) (hl : l.length + S.size ≤ 1000000000) :
    Calls Tryz.prog 94 #[.pointer (some ⟨b, 0, none⟩), .string S] w fun e w' => e = .returned (.tuple #[.int .i64 S.size, .nilIface]) ∧ Bd w' B b (l ++ bl S) ∧ Below B w w' := by
  refine (Any.Builder_WriteString Tryz.lays166' Tryz.Builder_Extra_105 B b (Lib.byteCells l) S w h.1 (by rw [Lib.byteCells_length]; omega) h.2).mono ?_
  rintro e w' ⟨rfl, h1, h2⟩
  refine ⟨rfl, ⟨?_, Nat.le_trans h.2 h2.size⟩, h2⟩
  rw [Lib.byteCells_append]
  exact .inr h1
/-- (*strings.Builder).String. -/
theorem built_any (B b : Nat) (l : List UInt8) (w : World) (h : Bd w B b l) :
    Calls Tryz.prog 96 #[.pointer (some ⟨b, 0, none⟩)] w fun e w' => e = .returned (.string ⟨l.toArray⟩) ∧ Below B w w' :=
  Tryz.Builder_String_any B b l w h.1 h.2

theorem dec_nine {n : Nat} (h : n < 1000000000) : (Lib.decDigits n).length ≤ 9 := (dec_len_le (by decide)).2 (by simpa using h)
theorem cal_str {a b : ByteArray} (h : a = b) : Ending.returned (.string a) = .returned (.string b) := by rw [h]

theorem zeros_cut {n : Nat} (h : n ≤ 9) : bl ((⟨#[48, 48, 48, 48, 48, 48, 48, 48, 48]⟩ : ByteArray).extract n 9) = List.replicate (9 - n) 48 := by
  rw [bl_cut]
  have e : bl ⟨#[48, 48, 48, 48, 48, 48, 48, 48, 48]⟩ = List.replicate 9 48 := rfl
  rw [e, List.drop_replicate, List.take_replicate]
  congr 1; omega

set_option maxRecDepth 100000 in
set_option maxHeartbeats 1600000 in
theorem string_any (A : Option Addr) (c a : Nat) (w : World) (hw : Wf w) (h : Nt .u32 w w.heap.size A c a) (hn : nd a ≤ 1000000) :
    Calls Tryz.prog 61 #[.slice A (nd a) c] w fun e w' => e = .returned (.string ⟨(Lib.decDigits a).toArray⟩) ∧ Below w.heap.size w w' := by
  by_cases h0 : a = 0
  · subst h0
    have e0 : ((nd 0 : Nat) : Int) = 0 := by rw [nd_zero]; rfl
    have e1 : Lib.decDigits 0 = [48] := dec_small (by decide)
    rw [e1]
    clear h hw
    go_enter Tryz.func61, Tryz.ntmps61
    go_wp2
    go_ret
    exact ⟨rfl, Below.refl _ _⟩
  · obtain ⟨m, hm⟩ : ∃ m, nd a = m + 1 := ⟨nd a - 1, by have := nd_pos h0; omega⟩
    have ht := dg_top_is h0
    rw [hm, Nat.add_sub_cancel] at ht
    obtain ⟨b1, o1, hA, hlt, q1⟩ := Fs.at_ h (show m < nd a by omega)
    have H := Lib.hid h
    have hd := dg_lt a m
    have hlen : (Lib.decDigits a).length ≤ 9000009 := by
      refine (dec_len_le (by decide)).2 (Nat.lt_of_lt_of_le (lt_pw_nd a) ?_)
      rw [pw_ten]
      exact (show ∀ k, 9 * nd a ≤ k → 10 ^ (9 * nd a) ≤ 10 ^ k from fun k h => Nat.pow_le_pow_right (by decide) h) 9000009 (by omega)
    subst hA
    obtain ⟨t, hT⟩ : ∃ t, dg a m = t := ⟨_, rfl⟩
    rw [hT] at ht hd q1
    have HT := Lib.hid ht
    have HW := Lib.hid hw
    have hlen' : ∀ i, (Lib.decDigits (a / pw i)).length ≤ 9000009 := fun i => Nat.le_trans (by
      refine (dec_len_le (decDigits_pos a)).2 (Nat.lt_of_le_of_lt (Nat.div_le_self _ _) dec_lt)) hlen
    have HL := Lib.hid hlen'
    have I1 := fun (w' : World) (hb : Below w.heap.size w w') => itoa_any t (by omega) w' (hw.up hb)
    have b1' := Lib.hid (Bd.fresh w)
    have tb : (t : Int) ≤ 999999999 := by omega
    have e1 : ((m + 1 : Nat) : Int) - 1 = (m : Int) := by omega
    have BA := Lib.hid ((Below.refl w.heap.size w).alloc (Nat.le_refl _) (.cells #[.pointer none, .slice none 0 0] 133))
    have q2 : (w.alloc (.cells #[.pointer none, .slice none 0 0] 133)).cell? ⟨b1, o1 + m, none⟩ = some (.int .u32 (t : Int)) := (BA.out.cell (p := ⟨b1, o1 + m, none⟩) hlt).trans q1
    have hmk : (Lib.decDigits t).length ≤ 9 := dec_nine hd
    have HMK := Lib.hid hmk
    have HM := Lib.hid hm
    clear h hw ht hd hlen hlen' q1 hT h0
    rw [hm]
    generalize hN : nd a = n at hn
    have hmb : m ≤ 999999 := by have := HM.out; omega
    clear hN
    go_enter Tryz.func61, Tryz.ntmps61
    go_wp2_with (first
      | (go_at_call 94; go_loud (refine (write_any w.heap.size w.heap.size [] R _ (b1'.out.up BI.out) (by have := bl_len R; rw [HR.out] at this; have := HMK.out; simp; omega)).mono ?_; rintro e w2 ⟨rfl, hbd, hb2⟩; have BD := Lib.hid hbd; have B2 := Lib.hid hb2; clear hbd hb2))
      | (go_at_call 95; go_loud (refine (I1 _ BA.out).mono ?_; rintro e w1 ⟨R, rfl, hR, hb⟩; have HR := Lib.hid hR; have BI := Lib.hid hb; clear hR hb)))
    have R0 : Hid (Bd w2 w.heap.size w.heap.size (Lib.decDigits (a / pw m)) ∧ Below w.heap.size w w2) :=
      ⟨by have := BD.out; rw [List.nil_append, HR.out, HT.out] at this; exact this, ((BA.out).trans (BI.out.mono BA.out.size)).trans (B2.out)⟩
    go_loopw [4] (fun i wr => ∃ k : Nat, k ≤ m ∧ i = .int .i64 ((k : Int) - 1) ∧ Hid (Bd wr w.heap.size w.heap.size (Lib.decDigits (a / pw k)) ∧ Below w.heap.size w wr)) (fun i _ => (intOf i + 1).toNat)
    case atStart => exact ⟨m, Nat.le_refl _, by congr 1; omega, R0⟩
    case round =>
      clear R0 BD B2 BI HR BA b1' hmk e1 tb I1 q2 HMK
      obtain ⟨k, hk, rfl, hR⟩ := hrel
      by_cases hk0 : k = 0
      · subst hk0
        have BB := built_any w.heap.size w.heap.size _ wr hR.out.1
        rw [write_end] at BB
        have HB := Lib.hid hR.out.2
        clear hR
        go_wp2_with (go_at_call 96; go_loud (refine BB.mono ?_; rintro e w3 ⟨rfl, hb3⟩; have B3 := Lib.hid hb3; clear hb3))
        go_ret
        exact ⟨rfl, HB.out.trans B3.out⟩
      · obtain ⟨j, rfl⟩ : ∃ j, k = j + 1 := ⟨k - 1, by omega⟩
        have em2 : ((j + 1 : Nat) : Int) - 1 = (j : Int) := by omega
        rw [em2]
        have WS := Lib.hid (write_step (a := a) (i := j) (by have := HM.out; omega))
        obtain ⟨b2, o2, hA2, hlt2, q2⟩ := Fs.at_ H.out (show j < nd a by have := HM.out; omega)
        injection hA2 with hA2
        injection hA2 with e2 e3
        subst e2 e3
        have p2 : wr.cell? ⟨b1, o1 + j, none⟩ = some (.int .u32 (dg a j : Int)) := (hR.out.2.cell (p := ⟨b1, o1 + j, none⟩) hlt2).trans q2
        have hd := dg_lt a j
        have hdl := HL.out (j + 1)
        generalize dg a j = d at *
        have I2 := itoa_any d (by omega) wr (HW.out.up hR.out.2)
        have hnine := dec_nine hd
        have PD := Lib.hid (pad_decDigits 9 d (by simpa using hd) (by decide)).2
        have db : (d : Int) ≤ 999999999 := by omega
        have HBd := Lib.hid hR.out.1
        have HB := Lib.hid hR.out.2
        have jm : (j : Int) < (m : Int) + 1 := by omega
        have HDL := Lib.hid hdl
        have HNI := Lib.hid hnine
        have HWF : Hid (∀ R : ByteArray, bl R = Lib.decDigits d → bl ((⟨#[48, 48, 48, 48, 48, 48, 48, 48, 48]⟩ : ByteArray).extract R.size 9 ++ R) = pad 9 d ∧ R.size ≤ 9) := by
          intro R hR
          have hRl : R.size ≤ 9 := by rw [← bl_len, hR]; exact HNI.out
          refine ⟨?_, hRl⟩
          rw [← PD.out, bl_app, zeros_cut hRl, ← bl_len, hR]
        clear hR q2 hd hdl hnine em2 hk0
        go_wp2_with (first
          | (go_at_call 94; go_loud (refine (write_any w.heap.size w.heap.size _ _ _ (HBd.out.up BI.out) (by have := HDL.out; rw [← bl_len, HWB.out.1, pad_length]; omega)).mono ?_; rintro e w2 ⟨rfl, hbd, hb2⟩; rw [HWB.out.1, ← WS.out] at hbd; have BD := Lib.hid hbd; have B2 := Lib.hid hb2; clear hbd hb2))
          | (go_at_call 95; go_loud (refine I2.mono ?_; rintro e w1 ⟨R, rfl, hR, hb⟩; have BI := Lib.hid hb; have HWB := Lib.hid (HWF.out R hR); have hRl := HWB.out.2; clear hR hb)))
        go_roundw
        case rel => exact ⟨j, by omega, rfl, BD.out, (HB.out.trans (BI.out.mono HB.out.size)).trans B2.out⟩
        case measure => simp only [intOf]; omega

end Go.Proofs.YthjnmnepjeegiaaGreatDoor

/- Digits of the program: at a text of digits the number, at any other text some number. -/
namespace Go.Proofs.YthjnmnepjeegiaaGreatDoor
open Go.RowKit Go.Sort Go.Joins Go.Proofs.YthjnmnepjeegiaaGreatDoor.Dg Go.Proofs.YthjnmnepjeegiaaGreatDoor.Str Go.Proofs.YthjnmnepjeegiaaGreatDoor.Num

theorem parse_digits : ∀ (l : List UInt8) (acc : Nat), allD l = true → (acc + 1) * 10 ^ l.length ≤ 10 ^ 18 → Lib.parseUint10 acc l = .ok (l.foldl (fun a c => 10 * a + (c.toNat - 48)) acc)
  | [], acc, _, _ => rfl
  | c :: r, acc, h, hb => by
    have h1 : isD c = true ∧ allD r = true := by simpa [allD] using h
    have hd := of_decide_eq_true h1.1
    have hp : 0 < 10 ^ r.length := Nat.pow_pos (by decide)
    rw [List.length_cons, Nat.pow_succ] at hb
    have e1 : (acc + 1) * (10 ^ r.length * 10) = (10 * acc + 10) * 10 ^ r.length := by rw [Nat.mul_comm (10 ^ r.length), ← Nat.mul_assoc]; congr 1; omega
    rw [e1] at hb
    have h2 : 10 * acc + 10 ≤ 10 ^ 18 := Nat.le_trans (Nat.le_mul_of_pos_right _ hp) hb
    have hacc : acc ≤ 99999999999999999 := by omega
    unfold Lib.parseUint10
    rw [if_pos hd, if_neg (by omega), if_neg (by omega), List.foldl_cons]
    have e2 : acc * 10 + (c.toNat - 48) = 10 * acc + (c.toNat - 48) := by omega
    rw [e2]
    refine parse_digits r _ h1.2 (Nat.le_trans (Nat.mul_le_mul_right _ ?_) hb)
    omega
theorem atoi_all_digits {l : List UInt8} (h : allD l = true) (hne : l ≠ []) (hl : l.length ≤ 18) : Lib.atoiAll l = .ok (val l : Int) := by
  cases l with
  | nil => exact absurd rfl hne
  | cons c r =>
    have hd : isD c = true := allD_mem h (by simp)
    have hd' := of_decide_eq_true hd
    have hm : Lib.parseMag (c :: r) = .ok (val (c :: r)) := by
      unfold Lib.parseMag
      rw [if_neg (by simp)]
      refine parse_digits (c :: r) 0 h ?_
      rw [Nat.zero_add, Nat.one_mul]
      exact Nat.pow_le_pow_right (by decide) hl
    have hv := val_lt (c :: r) h
    have hv2 : (10 : Nat) ^ (c :: r).length ≤ 10 ^ 18 := Nat.pow_le_pow_right (by decide) hl
    have hv3 : val (c :: r) < 1000000000000000000 := Nat.lt_of_lt_of_le hv hv2
    unfold Lib.atoiAll
    simp only []
    rw [if_neg (by omega), hm]
    simp only []
    rw [if_neg (by omega), if_neg (by omega), if_neg (by omega)]

/-- What strconv.Atoi gives, at any text. -/
def AtoiQ (S : ByteArray) (w : World) (e : Ending) (w' : World) : Prop :=
  ∃ v ev, e = .returned (.tuple #[.int .i64 v, ev]) ∧ -9223372036854775808 ≤ v ∧ v ≤ 9223372036854775807 ∧ (allD (bl S) = true → bl S ≠ [] → S.size ≤ 18 → v = (val (bl S) : Int)) ∧
    (ev = .nilIface ∧ Lib.atoiAll (bl S) = .ok v ∨ (∃ t p, ev = .iface t p) ∧ ∀ u, Lib.atoiAll (bl S) ≠ .ok u) ∧ Below w.heap.size w w'
theorem atoi_any (S : ByteArray) (hs : S.size ≤ 1000000) (w : World) (hw : Wf w) : Calls Tryz.prog 52 #[.string S] w (AtoiQ S w) := by
  cases h : Lib.atoiAll S.data.toList
  case ok v =>
    obtain ⟨b1, b2⟩ := Lib.atoiAll_bounds h
    refine (Tryz.strconv_Atoi_ok S (by omega) v h w).mono ?_
    rintro e w' ⟨rfl, hw'⟩
    refine ⟨v, .nilIface, rfl, b1, b2, fun h1 h2 h3 => ?_, .inl ⟨rfl, h⟩, ?_⟩
    · have := atoi_all_digits h1 h2 (by rw [bl_len]; exact h3)
      unfold bl at this
      rw [h] at this
      injection this
    · rcases hw' with rfl | ⟨t, rfl⟩
      · exact Below.refl _ _
      · exact below_bytesWorld _ _ _ _ (Nat.le_refl _)
  case range =>
    obtain ⟨tp, p, hv⟩ := hw.2.2
    refine (Tryz.strconv_Atoi_range_var S (by omega) h tp p w hv).mono ?_
    rintro e w' ⟨N, rfl, _, _, hb⟩
    have hsat : Lib.atoiSat S.data.toList = -9223372036854775808 ∨ Lib.atoiSat S.data.toList = 9223372036854775807 := by
      unfold Lib.atoiSat; split
      · exact .inl rfl
      · exact .inr rfl
    refine ⟨_, _, rfl, by omega, by omega, fun h1 h2 h3 => ?_, .inr ⟨⟨_, _, rfl⟩, fun u hu => ?_⟩, hb⟩
    · have := atoi_all_digits h1 h2 (by rw [bl_len]; exact h3)
      unfold bl at this
      rw [h] at this
      cases this
    · unfold bl at hu; rw [h] at hu; cases hu
  obtain ⟨tp, p, hv⟩ := hw.2.1
  refine (Tryz.strconv_Atoi_syntax_var S (by omega) h tp p w hv).mono ?_
  rintro e w' ⟨N, rfl, _, _, hb⟩
  refine ⟨0, _, rfl, by decide, by decide, fun h1 h2 h3 => ?_, .inr ⟨⟨_, _, rfl⟩, fun u hu => ?_⟩, hb⟩
  · have := atoi_all_digits h1 h2 (by rw [bl_len]; exact h3)
    unfold bl at this
    rw [h] at this
    cases this
  · unfold bl at hu; rw [h] at hu; cases hu

/-- What Digits gives: where the text consists of digits, the number. -/
def DigQ (S : ByteArray) (w : World) (e : Ending) (w' : World) : Prop :=
  ∃ A n c o, e = .returned (.slice A n c) ∧ Fs .u32 w' w'.heap.size A n c o ∧ Below w.heap.size w w' ∧ n ≤ 1000000 ∧ (allD (bl S) = true → n = nd (val (bl S)) ∧ ∀ j, j < n → o j = dg (val (bl S)) j)
def DigS (S : ByteArray) (w wr : World) (R : ByteArray) (v : Value) : Prop :=
  ∃ k o, (∃ t, bl S = bl R ++ t) ∧ AppW .u32 w wr 77 v k o ∧ k + R.size ≤ S.size ∧ (allD (bl S) = true → val (bl R) = val (bl S) / pw k ∧ ∀ j, j < k → o j = dg (val (bl S)) j)
def sizeOf' : Value → Nat
  | .string S => S.size
  | _ => 0
theorem limbs_congr {k : IntKind} {n : Nat} {o o' : Nat → Nat} (h : ∀ j, j < n → o j = o' j) : limbs k n o = limbs k n o' := by
  unfold limbs
  exact List.map_congr_left fun j hj => by rw [h j (List.mem_range.1 hj)]
theorem AppW.more {k : IntKind} {w wr w' : World} {t : TypeId} {v : Value} {n : Nat} {o : Nat → Nat} (h : AppW k w wr t v n o) (hb : Below wr.heap.size wr w') : AppW k w w' t v n o :=
  ⟨btrans h.1 hb, h.2.kept (grown_of_below (g := none) hb) (by
    rcases hv : v.ownBlock with _ | g
    · exact .inl rfl
    · exact .inr (by simp))⟩

set_option maxRecDepth 100000 in
set_option maxHeartbeats 3200000 in
theorem digits_any (S : ByteArray) (hs : S.size ≤ 1000000) (w : World) (hw : Wf w) : Calls Tryz.prog 56 #[.string S] w (DigQ S w) := by
  obtain ⟨i0, hi, hz0, hz1, hz2⟩ := info_parts Tryz.infoU32
  have R0 : Hid (DigS S w w S (.slice none 0 0)) := ⟨0, fun _ => 0, ⟨[], by simp⟩, ⟨Below.refl _ _, World.ownsRow_nil w w.heap.size 77 1⟩, by omega, fun _ => ⟨by rw [pw_zero, Nat.div_one], fun j hj => absurd hj (by omega)⟩⟩
  have HW := Lib.hid hw
  clear hw
  go_enter Tryz.func56, Tryz.ntmps56
  go_wp2
  go_loopw [0, 3] (fun sv v wr => ∃ R : ByteArray, sv = .string R ∧ R.size ≤ S.size ∧ Hid (DigS S w wr R v)) (fun sv _ _ => sizeOf' sv)
  case atStart => exact ⟨S, rfl, Nat.le_refl _, R0⟩
  case round =>
    clear R0
    obtain ⟨R, rfl, hRS, hS⟩ := hrel
    obtain ⟨k, o, hpre, hA, hkS, hval⟩ := hS.out
    clear hS
    by_cases h0 : R.size = 0
    · obtain ⟨A', c', rfl, hF⟩ := own_fs hA.2
      have hR0 : bl R = [] := List.eq_nil_of_length_eq_zero (by rw [bl_len]; exact h0)
      rw [hR0] at hval
      have T := trim_walk A' k c' o wr hF (by omega)
      have HV := Lib.hid hval
      have HF := Lib.hid hF
      have HB := Lib.hid hA.1
      have hkb : k ≤ 1000000 := by omega
      clear hF hval hA hpre hR0 hkS
      go_wp2_with (go_at_call 60; (with_reducible refine T.mono ?_); rintro e w1 ⟨⟨n, hn, hz, ht, rfl⟩, rfl⟩; have HZ := Lib.hid hz; have HT := Lib.hid ht; clear hz ht)
      go_ret
      refine ⟨A', n, c', o, rfl, HF.out.take hn, HB.out, by omega, fun hd => ?_⟩
      obtain ⟨h1, h2⟩ := HV.out hd
      have hk := read_end h1
      have hb : ∀ j, j < k → o j < 1000000000 := fun j hj => by rw [h2 j hj]; exact dg_lt _ _
      have hsum : sumTo o k = val (bl S) := by rw [sumTo_congr h2, hk]
      refine ⟨?_, fun j hj => h2 j (by omega)⟩
      rw [← hsum]
      exact (trim_nd hb hn HZ.out HT.out).symm
    · obtain ⟨q, hq⟩ : ∃ q, q = R.size - 9 := ⟨_, rfl⟩
      have eR : bl R = bl (R.extract 0 q) ++ bl (R.extract q R.size) := by
        rw [bl_cut, bl_cut, List.drop_zero, Nat.sub_zero, List.take_of_length_le (l := (bl R).drop q) (by rw [List.length_drop, bl_len]; exact Nat.le_refl _), List.take_append_drop]
      have lC : (bl (R.extract q R.size)).length = R.size - q := by rw [bl_cut, List.length_take, List.length_drop, bl_len]; omega
      have lP : (bl (R.extract 0 q)).length = q := by rw [bl_cut, List.length_take, List.length_drop, bl_len]; omega
      have hC9 : (bl (R.extract q R.size)).length = 9 ∨ (bl (R.extract 0 q) = [] ∧ (bl (R.extract q R.size)).length ≤ 9) := by
        by_cases h9 : 9 ≤ R.size
        · exact .inl (by omega)
        · exact .inr ⟨List.eq_nil_of_length_eq_zero (by omega), by omega⟩
      have hCne : bl (R.extract q R.size) ≠ [] := fun e => by rw [e] at lC; simp at lC; omega
      have sC : (R.extract q R.size).size = R.size - q := by rw [← bl_len]; exact lC
      have sP : (R.extract 0 q).size = q := by rw [← bl_len]; exact lP
      have AT := atoi_any (R.extract q R.size) (by omega) wr (HW.out.up hA.1)
      have hA1 := Lib.hid hA
      have HER := Lib.hid eR
      have HC9 := Lib.hid hC9
      have HCN := Lib.hid hCne
      have HSC := Lib.hid sC
      have HSP := Lib.hid sP
      have HPRE := Lib.hid hpre
      have HVAL := Lib.hid hval
      clear eR lC lP hC9 hCne hpre hval hA sC sP
      have em : max 0 ((R.size : Int) - 9) = (q : Int) := by omega
      have i2 : (0 : Int) < (R.size : Int) := by omega
      have i3 : (q : Int) ≤ (R.size : Int) := by omega
      have i4 : q ≤ R.size := by omega
      have hqR : q < R.size := by omega
      have hRb : R.size ≤ 1000000 := by omega
      clear hq h0
      have hkb : k ≤ 1000000 := by omega
      go_wp2_with (first
        | (at_builtin; go_loud (refine wpList_append_own_at _ rfl (.tmp 21) (.tmp 24) _ rfl w.heap.size 77 i0 (.int .u32 0) 1 4 Tryz.underlying39 hi hz0 hz1 hz2 rfl (by decide) _ _ _ rfl (OA.out.2.alloc _) ⟨w1.heap.size, 0, none⟩ 1 1 [.int .u32 (x : Int)] rfl rfl (cell_one_new _ _ _) (ints_oneCell .u32 [(x : Int)]) (by unfold maxLen; omega) (by omega) (below_alloc OA.out.1 _).size ?_; intro v2 w2 a2 g2 m2 l2; have B2 := Lib.hid (grown_below (OA.out.2.alloc _) (below_alloc OA.out.1 _) g2); have A2 := Lib.hid a2; clear a2 g2 m2 l2))
        | (go_at_call 52; go_loud ((with_reducible refine AT.mono ?_); rintro e w1 ⟨v1, ev, rfl, hv1, hv2, hv3, _, hb⟩; have OA := Lib.hid (hA1.out.more hb); have V3 := Lib.hid hv3; obtain ⟨x, hx⟩ : ∃ x : Nat, v1 % 4294967296 = (x : Int) := ⟨(v1 % 4294967296).toNat, by omega⟩; have HX := Lib.hid hx; clear hb hv3)))
      go_roundw
      case rel =>
        refine ⟨R.extract 0 q, rfl, by rw [HSP.out]; omega, Lib.hid ⟨k + 1, upd o k x, ?_, ⟨B2.out, ?_⟩, by rw [HSP.out]; omega, fun hd => ?_⟩⟩
        · obtain ⟨t, ht⟩ := HPRE.out
          exact ⟨bl (R.extract q R.size) ++ t, by rw [ht, HER.out]; simp⟩
        · have R2 := A2.out
          rw [limbs_succ, upd_at, limbs_congr (o' := o) (fun j hj => upd_ne o x (show j ≠ k by omega))]
          exact R2
        · obtain ⟨h1, h2⟩ := HVAL.out hd
          obtain ⟨t, ht⟩ := HPRE.out
          have hdR : allD (bl R) = true := by rw [ht, allD_append, Bool.and_eq_true] at hd; exact hd.1
          have hdC : allD (bl (R.extract q R.size)) = true := by rw [HER.out, allD_append, Bool.and_eq_true] at hdR; exact hdR.2
          obtain ⟨r1, r2⟩ := read_step h1 HER.out HC9.out hdC
          have hlC : (bl (R.extract q R.size)).length ≤ 9 := by rcases HC9.out with h | h <;> omega
          have e1 := V3.out hdC HCN.out (by rw [← bl_len]; omega)
          have hb9 := dg_lt (val (bl S)) k
          have hxe : x = dg (val (bl S)) k := by
            have := HX.out
            rw [e1, r1] at this
            omega
          refine ⟨r2, fun j hj => ?_⟩
          by_cases hjk : j = k
          · subst hjk; rw [upd_at]; exact hxe
          · rw [upd_ne o x hjk]; exact h2 j (by omega)
      case measure => simp only [sizeOf']; rw [HSP.out]; exact hqR

end Go.Proofs.YthjnmnepjeegiaaGreatDoor

/- How long the parts of a rational number get. No program. -/
namespace Go.Proofs.YthjnmnepjeegiaaGreatDoor.Q
open Go.Proofs.YthjnmnepjeegiaaGreatDoor.Dg

/-- The greater one of the lengths of numerator and denominator. -/
def sz (q : Rat) : Nat := max (nd (top q)) (nd q.den)
theorem sz_top (q : Rat) : nd (top q) ≤ sz q := Nat.le_max_left _ _
theorem sz_den (q : Rat) : nd q.den ≤ sz q := Nat.le_max_right _ _
theorem sz_make {b : Bool} {n d : Nat} (hd : d ≠ 0) : sz (mkRat (sg b n) d) ≤ max (nd n) (nd d) := by
  unfold sz
  rw [make_top hd, make_den hd]
  have h1 : nd (n / Nat.gcd n d) ≤ nd n := nd_mono (Nat.div_le_self _ _)
  have h2 : nd (d / Nat.gcd n d) ≤ nd d := nd_mono (Nat.div_le_self _ _)
  omega
theorem sz_add (a b : Rat) : sz (a + b) ≤ sz a + sz b + 1 := by
  have hd : a.den * b.den ≠ 0 := Nat.mul_ne_zero a.den_nz b.den_nz
  have t1 := sz_top a; have t2 := sz_den a; have t3 := sz_top b; have t4 := sz_den b
  have m1 := nd_mul_le (top a) b.den
  have m2 := nd_mul_le (top b) a.den
  have m3 := nd_mul_le a.den b.den
  by_cases h : ngt a = ngt b
  · rw [add_same h]
    have h1 := sz_make (b := ngt a) (n := top a * b.den + top b * a.den) hd
    have h2 := nd_add_le (top a * b.den) (top b * a.den)
    omega
  · by_cases hl : top b * a.den ≤ top a * b.den
    · rw [add_ge h hl]
      have h1 := sz_make (b := ngt a) (n := top a * b.den - top b * a.den) hd
      have h2 := nd_mono (Nat.sub_le (top a * b.den) (top b * a.den))
      omega
    · rw [add_lt h (by omega)]
      have h1 := sz_make (b := ngt b) (n := top b * a.den - top a * b.den) hd
      have h2 := nd_mono (Nat.sub_le (top b * a.den) (top a * b.den))
      omega
theorem sz_mul (a b : Rat) : sz (a * b) ≤ sz a + sz b := by
  have hd : a.den * b.den ≠ 0 := Nat.mul_ne_zero a.den_nz b.den_nz
  have t1 := sz_top a; have t2 := sz_den a; have t3 := sz_top b; have t4 := sz_den b
  have m1 := nd_mul_le (top a) (top b)
  have m3 := nd_mul_le a.den b.den
  rw [mul_is]
  have h1 := sz_make (b := ngt a != ngt b) (n := top a * top b) hd
  omega
theorem sz_div {a b : Rat} (hb : b ≠ 0) : sz (a / b) ≤ sz a + sz b := by
  have hd : a.den * top b ≠ 0 := Nat.mul_ne_zero a.den_nz (fun e => hb (top_zero.1 e))
  have t1 := sz_top a; have t2 := sz_den a; have t3 := sz_top b; have t4 := sz_den b
  have m1 := nd_mul_le (top a) b.den
  have m3 := nd_mul_le a.den (top b)
  rw [div_is hb]
  have h1 := sz_make (b := ngt a != ngt b) (n := top a * b.den) hd
  omega
theorem sz_neg (a : Rat) : sz (-a) = sz a := by unfold sz; rw [neg_top, Rat.neg_den]
theorem sz_sub (a b : Rat) : sz (a - b) ≤ sz a + sz b + 1 := by rw [Rat.sub_eq_add_neg]; have := sz_add a (-b); rw [sz_neg] at this; exact this

/-- The parts of a whole number. -/
theorem int_top (z : Int) : top (z : Rat) = z.natAbs := rfl
theorem int_den (z : Int) : (z : Rat).den = 1 := rfl
theorem int_ngt (z : Int) : ngt (z : Rat) = decide (z < 0) := rfl
/-- The greatest integer that is not greater, as a number. -/
def flr (q : Rat) : Rat := (q.floor : Rat)
theorem flr_den (q : Rat) : (flr q).den = 1 := rfl
theorem flr_top (q : Rat) : top (flr q) = if ngt q = true ∧ top q % q.den ≠ 0 then top q / q.den + 1 else top q / q.den := by
  unfold flr
  rw [int_top]
  cases h : ngt q
  · rw [floor_pos h, if_neg (by simp)]; rfl
  · rw [floor_neg h, Int.natAbs_neg]
    by_cases h2 : top q % q.den = 0
    · rw [if_pos h2, if_neg (by simp [h2])]; rfl
    · rw [if_neg h2, if_pos ⟨rfl, h2⟩]; rfl
theorem flr_ngt (q : Rat) : ngt (flr q) = (ngt q && decide (top (flr q) ≠ 0)) := by
  rw [flr_top]
  unfold flr
  rw [int_ngt]
  cases h : ngt q
  · rw [floor_pos h]
    generalize top q / q.den = x
    show decide ((x : Int) < 0) = false
    rw [decide_eq_false_iff_not]; omega
  · rw [floor_neg h]
    by_cases h2 : top q % q.den = 0
    · rw [if_pos h2, if_neg (by simp [h2])]
      generalize top q / q.den = x
      rw [Bool.true_and, decide_eq_decide]; omega
    · rw [if_neg h2, if_pos ⟨rfl, h2⟩]
      generalize top q / q.den = x
      rw [Bool.true_and, decide_eq_decide]; omega
theorem sz_flr (q : Rat) : sz (flr q) ≤ sz q + 1 := by
  unfold sz
  rw [flr_den, flr_top]
  have h1 := sz_top q
  have h2 : nd (top q / q.den) ≤ nd (top q) := nd_mono (Nat.div_le_self _ _)
  have h3 := nd_add_le (top q / q.den) 1
  have h4 : nd 1 ≤ 1 := nd_small (by decide)
  have h5 : 1 ≤ nd q.den := by rw [nd_pos q.den_nz]; omega
  have h6 := sz_den q
  show _ ≤ max (nd (top q)) (nd q.den) + 1
  unfold sz at h1 h6
  split <;> omega

end Go.Proofs.YthjnmnepjeegiaaGreatDoor.Q

/- Fractions of the program: what a value is; Make. -/
namespace Go.Proofs.YthjnmnepjeegiaaGreatDoor
open Go.RowKit Go.Proofs.YthjnmnepjeegiaaGreatDoor.Dg Go.Proofs.YthjnmnepjeegiaaGreatDoor.Q

/-- The value of a fraction. -/
def Fr (w : World) (v : Value) (q : Rat) : Prop :=
  ∃ A c A' c', v = .agg #[.bool (ngt q), .slice A (nd (top q)) c, .slice A' (nd q.den) c'] ∧ Nt .u32 w w.heap.size A c (top q) ∧ Nt .u32 w w.heap.size A' c' q.den
theorem Fr.up {w w' : World} {v : Value} {q : Rat} (h : Fr w v q) (hb : Below w.heap.size w w') : Fr w' v q := by
  obtain ⟨A, c, A', c', e, h1, h2⟩ := h
  exact ⟨A, c, A', c', e, h1.up hb, h2.up hb⟩
/-- What a function gives that returns a fraction. -/
def GiveF (w : World) (q : Rat) (e : Ending) (w' : World) : Prop := ∃ v, e = .returned v ∧ Fr w' v q ∧ Below w.heap.size w w'
theorem Fr.of_parts {w : World} {q : Rat} {b : Bool} {n d : Nat} {A A' : Option Addr} {c c' : Nat} (h1 : ngt q = b) (h2 : top q = n) (h3 : q.den = d) (k1 : Nt .u32 w w.heap.size A c n) (k2 : Nt .u32 w w.heap.size A' c' d) :
    Fr w (.agg #[.bool b, .slice A (nd n) c, .slice A' (nd d) c']) q := by
  subst h1 h2 h3
  exact ⟨A, c, A', c', rfl, k1, k2⟩
theorem nd_one : nd 1 = 1 := Nat.le_antisymm (nd_small (by decide)) (by rw [nd_pos (by decide)]; omega)
/-- The number 1 in a new row. -/
theorem Nt.one (w : World) (t : TypeId) : Nt .u32 (w.alloc (.cells #[.int .u32 1] t)) (w.alloc (.cells #[.int .u32 1] t)).heap.size (some ⟨w.heap.size, 0, none⟩) 1 1 := by
  unfold Nt
  rw [nd_one]
  refine ⟨Nat.le_refl _, (fun e => by cases e), fun _ => ⟨w.heap.size, 0, rfl, by simp, fun j hj => ?_⟩⟩
  obtain rfl : j = 0 := by omega
  show (w.alloc (.cells #[.int .u32 1] t)).cell? ⟨w.heap.size, 0, none⟩ = _
  rw [World.cell?_alloc_mark]
  rfl

/-- A block of a result, of which no cell is a number. -/
def Rs (w : World) (g : Nat) (a b c : Value) (t : TypeId) : Prop := w.heap[g]? = some (.cells #[a, b, c] t (0, 0))
def notInt : Value → Bool
  | .int _ _ => false
  | _ => true
theorem Rs.below {w w' : World} {g B : Nat} {a b c : Value} {t : TypeId} (h : Rs w g a b c t) (hb : Below B w w') (hg : g < B) : Rs w' g a b c t := (hb.block g hg).trans h
theorem Rs.cells {w : World} {g : Nat} {a b c : Value} {t : TypeId} (h : Rs w g a b c t) : w.cell? ⟨g, 0, none⟩ = some a ∧ w.cell? ⟨g, 1, none⟩ = some b ∧ w.cell? ⟨g, 2, none⟩ = some c := by
  unfold Rs at h
  refine ⟨?_, ?_, ?_⟩ <;> simp [World.cell?, h]
theorem Rs.frozen {w : World} {g : Nat} {a b c : Value} {t : TypeId} (h : Rs w g a b c t) : w.frozen? ⟨g, 0, none⟩ = false ∧ w.frozen? ⟨g, 1, none⟩ = false ∧ w.frozen? ⟨g, 2, none⟩ = false := by
  unfold Rs at h
  refine ⟨?_, ?_, ?_⟩ <;> simp [World.frozen?, h]
/-- The world behind a result that was stored. -/
def put3 (w : World) (g : Nat) (a b c : Value) : World := ((w.setCell ⟨g, 0, none⟩ a).setCell ⟨g, 1, none⟩ b).setCell ⟨g, 2, none⟩ c
theorem put3_size (w : World) (g : Nat) (a b c : Value) : (put3 w g a b c).heap.size = w.heap.size := by simp [put3, World.setCell]
theorem put3_block (w : World) (g : Nat) (a b c : Value) {k : Nat} (hk : k ≠ g) : (put3 w g a b c).heap[k]? = w.heap[k]? := by
  simp only [put3, World.setCell, Array.getElem?_modify]
  rw [if_neg (fun e => hk e.symm), if_neg (fun e => hk e.symm), if_neg (fun e => hk e.symm)]
theorem put3_below {B g : Nat} {w0 w : World} {a b c : Value} (h : Below B w0 w) (hg : B ≤ g) : Below B w0 (put3 w g a b c) := ((h.setCell hg _).setCell hg _).setCell hg _
theorem Fs.put3 {k : IntKind} {w : World} {B n c g : Nat} {A : Option Addr} {o : Nat → Nat} {x y z a b d : Value} {t : TypeId} (h : Fs k w B A n c o) (hr : Rs w g x y z t) (hx : notInt x = true) (hy : notInt y = true) (hz : notInt z = true) : Fs k (put3 w g a b d) B A n c o :=
  ⟨h.1, h.2.1, fun hn => by
    obtain ⟨bk, off, e, hlt, hc⟩ := h.2.2 hn
    refine ⟨bk, off, e, hlt, fun j hj => ?_⟩
    have hne : bk ≠ g := by
      rintro rfl
      have h1 := hc j hj
      unfold Rs at hr
      have h2 : (#[x, y, z] : Array Value)[off + j]? = some (.int k ((o j : Nat) : Int)) := by simpa [World.cell?, hr] using h1
      match hm : off + j, h2 with
      | 0, h2 => simp at h2; rw [h2] at hx; cases hx
      | 1, h2 => simp at h2; rw [h2] at hy; cases hy
      | 2, h2 => simp at h2; rw [h2] at hz; cases hz
      | m + 3, h2 => simp at h2
    rw [← hc j hj]
    simp only [World.cell?]
    rw [put3_block w g a b d hne]⟩
theorem Nt.put3 {k : IntKind} {w : World} {A : Option Addr} {c v g : Nat} {x y z a b d : Value} {t : TypeId} (h : Nt k w w.heap.size A c v) (hr : Rs w g x y z t) (hx : notInt x = true) (hy : notInt y = true) (hz : notInt z = true) :
    Nt k (Go.Proofs.YthjnmnepjeegiaaGreatDoor.put3 w g a b d) (Go.Proofs.YthjnmnepjeegiaaGreatDoor.put3 w g a b d).heap.size A c v := by
  rw [put3_size]
  exact Fs.put3 h hr hx hy hz

set_option maxRecDepth 100000 in
set_option maxHeartbeats 1600000 in
theorem make_any (b : Bool) (A1 A2 : Option Addr) (c1 c2 n d : Nat) (hd : d ≠ 0) (w : World) (h1 : Nt .u32 w w.heap.size A1 c1 n) (h2 : Nt .u32 w w.heap.size A2 c2 d) (hn1 : nd n ≤ 800000) (hn2 : nd d ≤ 800000) :
    Calls Tryz.prog 31 #[.bool b, .slice A1 (nd n) c1, .slice A2 (nd d) c2] w (GiveF w (mkRat (sg b n) d)) := by
  have Z := fun w => zero_any A1 c1 n w
  by_cases h0 : n = 0
  · subst h0
    rw [decide_eq_true rfl] at Z
    have HM := Lib.hid (make_zero b d)
    clear h1 h2
    go_enter Tryz.func31, Tryz.ntmps31
    go_wp2_with (go_at_call 41; go_loud ((with_reducible refine (Z _).mono ?_); rintro e w1 ⟨rfl, rfl⟩))
    refine bodyPost_ret (v := .agg #[.bool false, .slice none 0 0, .slice (some ⟨w.heap.size + 1, 0, none⟩) 1 1]) (by simp [results, Tryz.results31, go_sem]) rfl ⟨_, rfl, ?_, below_alloc ((Below.refl _ w).alloc (Nat.le_refl _) _) _⟩
    rw [HM.out]
    have N1 := Nt.one (w.alloc (.cells #[.bool false, .slice none 0 0, .slice (some ⟨w.heap.size + 1, 0, none⟩) 1 1] 41)) 77
    have e1 : (w.alloc (.cells #[.bool false, .slice none 0 0, .slice (some ⟨w.heap.size + 1, 0, none⟩) 1 1] 41)).heap.size = w.heap.size + 1 := by simp
    rw [e1] at N1
    have := Fr.of_parts (q := 0) (b := false) (n := 0) (d := 1) rfl rfl rfl (Nt.nil _ _ _) N1
    rw [nd_zero, nd_one] at this
    exact this
  · have HZ := Lib.hid h0
    rw [decide_eq_false h0] at Z
    by_cases h1d : d = 1
    · have O1 := fun (w1 : World) (hb : Below w.heap.size w w1) => one_any A2 c2 d w1 (h2.up hb)
      rw [decide_eq_true h1d] at O1
      have H1 := Lib.hid h1
      have H2 := Lib.hid h2
      have H1D := Lib.hid h1d
      clear h1 h2 h1d h0
      go_enter Tryz.func31, Tryz.ntmps31
      go_wp2_with (first
        | (go_at_call 41; go_loud ((with_reducible refine (Z _).mono ?_); rintro e w1 ⟨rfl, rfl⟩))
        | (go_at_call 58; go_loud (refine (O1 _ ((Below.refl _ w).alloc (Nat.le_refl _) _)).mono ?_; rintro e w1 ⟨rfl, rfl⟩)))
      refine bodyPost_ret (v := .agg #[.bool b, .slice A1 (nd n) c1, .slice A2 (nd d) c2]) (by simp [results, Tryz.results31, go_sem]) rfl ⟨_, rfl, ?_, (Below.refl _ w).alloc (Nat.le_refl _) _⟩
      have hb := (Below.refl w.heap.size w).alloc (Nat.le_refl _) (.cells #[.bool b, .slice A1 (nd n) c1, .slice A2 (nd d) c2] 41)
      obtain ⟨p1, p2, p3⟩ := Num.parts_of (b := b) (n := n) (d := d) hd (fun _ => HZ.out) (by rw [H1D.out]; exact Nat.gcd_one_right _)
      exact Fr.of_parts p3 p1 p2 (H1.out.up hb) (H2.out.up hb)
    · have O1 := fun (w1 : World) (hb : Below w.heap.size w w1) => one_any A2 c2 d w1 (h2.up hb)
      rw [decide_eq_false h1d] at O1
      have B0 := Lib.hid ((Below.refl w.heap.size w).alloc (Nat.le_refl _) (.cells #[.bool false, .slice none 0 0, .slice none 0 0] 41))
      have R0 := Lib.hid (show Rs (w.alloc (.cells #[.bool false, .slice none 0 0, .slice none 0 0] 41)) w.heap.size (.bool false) (.slice none 0 0) (.slice none 0 0) 41 from Deep.blk_alloc_new w _)
      have GC := gcd_any A1 A2 c1 c2 n d _ (h1.up B0.out) (h2.up B0.out) (by omega) (by omega)
      have H1 := Lib.hid h1
      have H2 := Lib.hid h2
      have hg0 : Nat.gcd n d ≠ 0 := fun e => hd (Nat.eq_zero_of_gcd_eq_zero_right e)
      have hPN := Lib.hid (make_ngt (b := b) h0 hd)
      have hPT := Lib.hid (make_top (b := b) (n := n) hd)
      have hPD := Lib.hid (make_den (b := b) (n := n) hd)
      generalize mkRat (sg b n) d = Q at *
      generalize Nat.gcd n d = g at *
      have hgs : w.heap.size < (w.alloc (.cells #[.bool false, .slice none 0 0, .slice none 0 0] 41)).heap.size := by simp
      have HGS := Lib.hid hgs
      clear h1 h2 h1d h0 hgs
      by_cases hg1 : g = 1
      · subst hg1
        rw [Nat.div_one] at hPT hPD
        have O2 := fun w' A' c' h => one_any A' c' 1 w' h
        rw [decide_eq_true rfl] at O2
        go_enter Tryz.func31, Tryz.ntmps31
        go_wp2_with (first
          | (go_at_call 57; go_loud (refine GC.mono ?_; rintro e w2 ⟨Ag, cg, rfl, hNg, hbg⟩; have BG := Lib.hid hbg; have NG := Lib.hid hNg; have RG := Lib.hid (R0.out.below hbg HGS.out); obtain ⟨r0, r1, r2⟩ := RG.out.cells; obtain ⟨f0, f1, f2⟩ := RG.out.frozen; clear hNg hbg))
          | (go_at_call 41; go_loud ((with_reducible refine (Z _).mono ?_); rintro e w1 ⟨rfl, rfl⟩))
          | (go_at_call 58; (refine (O2 _ _ _ NG.out).mono ?_; rintro e w1 ⟨rfl, rfl⟩))
          | (go_at_call 58; go_loud (refine (O1 _ B0.out).mono ?_; rintro e w1 ⟨rfl, rfl⟩)))
        have N1 := ((H1.out.up B0.out).up BG.out).put3 RG.out rfl rfl rfl (a := .bool b) (b := .slice A1 (nd n) c1) (d := .slice A2 (nd d) c2)
        have N2 := ((H2.out.up B0.out).up BG.out).put3 RG.out rfl rfl rfl (a := .bool b) (b := .slice A1 (nd n) c1) (d := .slice A2 (nd d) c2)
        refine bodyPost_ret (v := .agg #[.bool b, .slice A1 (nd n) c1, .slice A2 (nd d) c2]) (by simp [results, Tryz.results31, go_sem, r0, r1, r2]) rfl ⟨_, rfl, ?_, put3_below (B0.out.trans (BG.out.mono B0.out.size)) (Nat.le_refl _)⟩
        exact Fr.of_parts hPN.out hPT.out hPD.out N1 N2
      · have O2 := fun w' A' c' h => one_any A' c' g w' h
        rw [decide_eq_false hg1] at O2
        have HG0 := Lib.hid hg0
        have hnn : nd (n / g) ≤ 800000 := Nat.le_trans (nd_mono (Nat.div_le_self _ _)) hn1
        have DV := fun w' A A' c c' x h1 h2 hx => div_any A A' c c' x g w' h1 h2 hx hg0
        clear hg0
        go_enter Tryz.func31, Tryz.ntmps31
        go_wp2_with (first
          | (go_at_call 59; (refine (DV _ _ _ _ _ _ ((H2.out.up B0.out).up (btrans BG.out B3.out)) (NG.out.up B3.out) (by omega)).mono ?_; rintro e w4 ⟨A6, c6, A7, c7, rfl, hN6, hN7, hb4⟩; have B4 := Lib.hid (btrans B3.out hb4); have N6 := Lib.hid hN6; have N4 := Lib.hid (N3.out.up hb4); have RG4 := Lib.hid (RG.out.below B4.out (Nat.lt_of_lt_of_le HGS.out BG.out.size)); obtain ⟨r0, r1, r2⟩ := RG4.out.cells; obtain ⟨f0, f1, f2⟩ := RG4.out.frozen; clear hN6 hN7 hb4))
          | (go_at_call 59; go_loud (refine (DV _ _ _ _ _ _ ((H1.out.up B0.out).up BG.out) NG.out (by omega)).mono ?_; rintro e w3 ⟨A4, c4, A5, c5, rfl, hN4, hN5, hb3⟩; have B3 := Lib.hid hb3; have N3 := Lib.hid hN4; clear hN4 hN5 hb3))
          | (go_at_call 57; go_loud (refine GC.mono ?_; rintro e w2 ⟨Ag, cg, rfl, hNg, hbg⟩; have BG := Lib.hid hbg; have NG := Lib.hid hNg; have RG := Lib.hid (R0.out.below hbg HGS.out); clear hNg hbg))
          | (go_at_call 41; go_loud ((with_reducible refine (Z _).mono ?_); rintro e w1 ⟨rfl, rfl⟩))
          | (go_at_call 58; (refine (O2 _ _ _ NG.out).mono ?_; rintro e w1 ⟨rfl, rfl⟩))
          | (go_at_call 58; go_loud (refine (O1 _ B0.out).mono ?_; rintro e w1 ⟨rfl, rfl⟩)))
        have M1 := N4.out.put3 RG4.out rfl rfl rfl (a := .bool b) (b := .slice A4 (nd (n / g)) c4) (d := .slice A6 (nd (d / g)) c6)
        have M2 := N6.out.put3 RG4.out rfl rfl rfl (a := .bool b) (b := .slice A4 (nd (n / g)) c4) (d := .slice A6 (nd (d / g)) c6)
        refine bodyPost_ret (v := .agg #[.bool b, .slice A4 (nd (n / g)) c4, .slice A6 (nd (d / g)) c6]) (by simp [results, Tryz.results31, go_sem, r0, r1, r2]) rfl ⟨_, rfl, ?_, put3_below (B0.out.trans ((btrans BG.out B4.out).mono B0.out.size)) (Nat.le_refl _)⟩
        exact Fr.of_parts hPN.out hPT.out hPD.out M1 M2

end Go.Proofs.YthjnmnepjeegiaaGreatDoor
