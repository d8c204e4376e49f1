/- plain of the reference: the number of a text in any of its forms. plain of the reference: decimals; at any text. Numbers of the reference: Get, Valid, IsValue, Parse. -/
import Derived.Test.YthjnmnepjeegiaaGreatDoorG16
import Derived.Test.YthjnmnepjeegiaaGreatDoorG6
import Derived.Test.YthjnmnepjeegiaaGreatDoorG11
import Derived.Lib.OthersKept
/- plain of the reference: the number of a text in any of its forms. -/
namespace Go.Proofs.YthjnmnepjeegiaaGreatDoor
open Go.RowKit Go.Proofs.YthjnmnepjeegiaaGreatDoor.Dg Go.Proofs.YthjnmnepjeegiaaGreatDoor.Q Go.Proofs.YthjnmnepjeegiaaGreatDoor.Num Go.Proofs.YthjnmnepjeegiaaGreatDoor.Str

/-- What a function of the reference gives that reads a number. -/
def ReadR (o : Option Rat) (w : World) (e : Ending) (w' : World) : Prop :=
  ∃ y A1 l1 c1 A2 l2 c2 q, e = .returned (.tuple #[.agg #[.bool y, .slice A1 l1 c1, .slice A2 l2 c2], .bool o.isSome]) ∧ Below w.heap.size w w' ∧ Qr w' (.agg #[.bool y, .slice A1 l1 c1, .slice A2 l2 c2]) q ∧ sz q ≤ 5000 ∧ ∀ q', o = some q' → q = q'
theorem rrun0_any (S : ByteArray) (hs : S.size ≤ 1000000) (w : World) :
    Calls Tryz.prog 68 #[.string S, .int .i64 0] w fun e w' => e = .returned (.int .i64 ((dlen (bl S) 0 : Nat) : Int)) ∧ w' = w := rrun_any S 0 (Nat.zero_le _) hs w
theorem sz_zero : sz 0 ≤ 5000 := by
  unfold sz
  rw [show top 0 = 0 from rfl, show (0 : Rat).den = 1 from rfl, nd_zero, nd_one]
  decide
theorem K1.readR {w w' : World} {o : Option Rat} {q : Rat} {b : Bool} {A A' : Option Addr} {l c l' c' : Nat} (h : K1 w w' (.bool false) (.slice none 0 0) (.slice none 0 0) 54) (hq : Qr w' (.agg #[.bool b, .slice A l c, .slice A' l' c']) q) (hs : sz q ≤ 5000) (ho : ∀ q', o = some q' → q = q') :
    ReadR o w (.returned (.tuple #[.agg #[.bool b, .slice A l c, .slice A' l' c'], .bool o.isSome])) (put3 w' w.heap.size (.bool b) (.slice A l c) (.slice A' l' c')) :=
  ⟨b, A, l, c, A', l', c', q, rfl, put3_below h.2.1 (Nat.le_refl _), hq.put3 h.1 rfl rfl rfl, hs, ho⟩
theorem K1.readNone {w w' : World} (h : K1 w w' (.bool false) (.slice none 0 0) (.slice none 0 0) 54) : ReadR none w (.returned (.tuple #[.agg #[.bool false, .slice none 0 0, .slice none 0 0], .bool false])) w' :=
  ⟨false, none, 0, 0, none, 0, 0, 0, rfl, h.2.1, Qr.zero _, sz_zero, fun q' h => by cases h⟩
/-- The iterator of a string, at place p, in a block of its own. -/
def ItS (w wr : World) (g : Nat) (M : ByteArray) (p : Nat) (A : Option Addr) (c : Nat) : Prop :=
  wr.heap[g]? = some (.stringIter M p) ∧ K1 w wr (.bool false) (.slice none 0 0) (.slice none 0 0) 54 ∧ Nt .u64 wr wr.heap.size A c (10 ^ p) ∧ w.heap.size < g

set_option maxRecDepth 100000 in
set_option maxHeartbeats 6400000 in
theorem rplain_empty (w : World) : Calls Tryz.prog 64 #[.string ⟨#[]⟩] w (ReadR none w) := by
  have RN := rrun0_any ⟨#[]⟩ (by decide)
  rw [show dlen (bl ⟨#[]⟩) 0 = 0 from rfl] at RN
  have k0 := Lib.hid (show K1 w (w.alloc (.cells #[.bool false, .slice none 0 0, .slice none 0 0] 54)) _ _ _ _ from box_rs w _ _ _ _)
  obtain ⟨r0, r1, r2⟩ := k0.out.three
  obtain ⟨f0, f1, f2⟩ := k0.out.1.frozen
  go_enter Tryz.func64, Tryz.ntmps64
  go_wp2_with (go_at_call 68; ((with_reducible refine (RN _).mono ?_); rintro e w' ⟨rfl, rfl⟩))
  exact bodyPost_ret (v := .tuple #[.agg #[.bool false, .slice none 0 0, .slice none 0 0], .bool false]) (by simp [results, Tryz.results64, go_sem, r0, r1, r2]) rfl (K1.readNone k0.out)

set_option maxRecDepth 100000 in
set_option maxHeartbeats 6400000 in
theorem rplain_zero_n (S B : ByteArray) (hs : S.size ≤ 1000) (w : World) (i0 : (0 : Int) < (S.size : Int)) (i9 : 0 < S.size) (c0 : ((S[0].toNat : Nat) : Int) = 45) (hB : S.extract 1 S.size = B) (_hneg : isNeg (bl S) = true) (hbody : body (bl S) = bl B) (hz : dlen (bl B) 0 = 0) :
    Calls Tryz.prog 64 #[.string S] w (ReadR (frm (bl S)) w) := by
  have hBs : B.size ≤ 1000 := by rw [← bl_len, ← hbody]; exact Nat.le_trans (body_len _) (by rw [bl_len]; exact hs)
  have RN := rrun0_any B (by omega)
  obtain ⟨k, hk⟩ : ∃ k, dlen (bl B) 0 = k := ⟨_, rfl⟩
  rw [hk] at RN
  have k0 := Lib.hid (show K1 w (w.alloc (.cells #[.bool false, .slice none 0 0, .slice none 0 0] 54)) _ _ _ _ from box_rs w _ _ _ _)
  obtain ⟨r0, r1, r2⟩ := k0.out.three
  obtain ⟨f0, f1, f2⟩ := k0.out.1.frozen
  have j1 : 1 ≤ S.size := by omega
  have hf : frm (bl S) = none := frm_zero (by rw [hbody]; exact hz)
  rw [hf]
  obtain rfl : k = 0 := hk.symm.trans hz
  clear hf hz hk hbody _hneg hs hBs
  go_enter Tryz.func64, Tryz.ntmps64
  go_wp2_with (go_at_call 68; ((with_reducible refine (RN _).mono ?_); rintro e w' ⟨rfl, rfl⟩))
  exact bodyPost_ret (v := .tuple #[.agg #[.bool false, .slice none 0 0, .slice none 0 0], .bool false]) (by simp [results, Tryz.results64, go_sem, r0, r1, r2]) rfl (K1.readNone k0.out)

set_option maxRecDepth 100000 in
set_option maxHeartbeats 6400000 in
theorem rplain_all_n (S B : ByteArray) (hs : S.size ≤ 1000) (w : World) (i0 : (0 : Int) < (S.size : Int)) (i9 : 0 < S.size) (c0 : ((S[0].toNat : Nat) : Int) = 45) (hB : S.extract 1 S.size = B) (hneg : isNeg (bl S) = true) (hbody : body (bl S) = bl B) (h0 : dlen (bl B) 0 ≠ 0) (hz : dlen (bl B) 0 = B.size) :
    Calls Tryz.prog 64 #[.string S] w (ReadR (frm (bl S)) w) := by
  have hBs : B.size ≤ 1000 := by rw [← bl_len, ← hbody]; exact Nat.le_trans (body_len _) (by rw [bl_len]; exact hs)
  have RN := rrun0_any B (by omega)
  obtain ⟨k, hk⟩ : ∃ k, dlen (bl B) 0 = k := ⟨_, rfl⟩
  rw [hk] at RN
  have k0 := Lib.hid (show K1 w (w.alloc (.cells #[.bool false, .slice none 0 0, .slice none 0 0] 54)) _ _ _ _ from box_rs w _ _ _ _)
  obtain ⟨r0, r1, r2⟩ := k0.out.three
  obtain ⟨f0, f1, f2⟩ := k0.out.1.frozen
  have j1 : 1 ≤ S.size := by omega
  obtain ⟨hd, hf⟩ := frm_whole (l := bl S) (by rw [hbody, bl_len]; exact hz) (by rw [hbody]; exact h0)
  rw [hbody] at hd hf
  rw [hneg] at hf
  have hsz := frm_sz hf (by rw [bl_len]; omega)
  have hv := nd_val_le (bl B) hd
  rw [bl_len] at hv
  have RD := fun w' => rread_any B (by omega) hd w'
  have ON := fun w' => rone_any w'
  have MK := fun w' A A' c c' h h' => rmake_any true A A' c c' (val (bl B)) 1 w' h h' (by omega) (by rw [nd_one]; decide)
  obtain ⟨q, hq⟩ : ∃ q, mkRat (sg true (val (bl B))) 1 = q := ⟨_, rfl⟩
  rw [hq] at MK hf hsz
  rw [hf]
  have HS := Lib.hid hsz
  obtain rfl : k = B.size := hk.symm.trans hz
  have e0 : ¬ ((B.size : Nat) : Int) = 0 := by omega
  clear hf hz hk hbody hneg hs hBs hd hv hsz hq h0
  go_enter Tryz.func64, Tryz.ntmps64
  go_wp2_with (first
    | (go_at_call 72; go_loud ((with_reducible refine (MK _ _ _ _ _ N1'.out N2.out).mono ?_); rintro e w3 ⟨v, rfl, ⟨AQa, cQa, AQb, cQb, dQ, rfl, n1, n2, hd⟩, hb⟩; have k3 := Lib.hid (k2.out.up hb); have NQ := Lib.hid (show Qr w3 _ q from ⟨AQa, cQa, AQb, cQb, dQ, rfl, n1, n2, hd⟩); obtain ⟨t0, t1, t2⟩ := k3.out.three; obtain ⟨g0, g1, g2⟩ := k3.out.1.frozen; clear n1 n2 hd hb))
    | (go_at_call 74; go_loud ((with_reducible refine (ON _).mono ?_); rintro e w2 ⟨A2, c2, rfl, hN, hb⟩; have k2 := Lib.hid (k1.out.up hb); have N1' := Lib.hid (N1.out.up hb); have N2 := Lib.hid hN; clear hN hb))
    | (go_at_call 97; go_loud ((with_reducible refine (RD _).mono ?_); rintro e w1 ⟨A1, c1, rfl, hN, hb⟩; have k1 := Lib.hid (k0.out.up hb); have N1 := Lib.hid hN; clear hN hb))
    | (go_at_call 68; ((with_reducible refine (RN _).mono ?_); rintro e w' ⟨rfl, rfl⟩)))
  exact bodyPost_ret (v := .tuple #[.agg #[.bool (ngt q), .slice AQa (nd (top q)) cQa, .slice AQb (nd dQ) cQb], .bool true]) (by simp [results, Tryz.results64, go_sem, t0, t1, t2]) rfl (k3.out.readR (o := some q) NQ.out HS.out (fun q' h => by injection h))

set_option maxRecDepth 100000 in
set_option maxHeartbeats 6400000 in
theorem rplain_no1_n (S B : ByteArray) (hs : S.size ≤ 1000) (w : World) (i0 : (0 : Int) < (S.size : Int)) (i9 : 0 < S.size) (c0 : ((S[0].toNat : Nat) : Int) = 45) (hB : S.extract 1 S.size = B) (hneg : isNeg (bl S) = true) (hbody : body (bl S) = bl B) (h0 : dlen (bl B) 0 ≠ 0) (hz : dlen (bl B) 0 ≠ B.size) (hno : ¬ ((bl (B.extract (dlen (bl B) 0 + 1) B.size)) ≠ [] ∧ allD (bl (B.extract (dlen (bl B) 0 + 1) B.size)) = true)) :
    Calls Tryz.prog 64 #[.string S] w (ReadR (frm (bl S)) w) := by
  have hBs : B.size ≤ 1000 := by rw [← bl_len, ← hbody]; exact Nat.le_trans (body_len _) (by rw [bl_len]; exact hs)
  have RN := rrun0_any B (by omega)
  obtain ⟨k, hk⟩ : ∃ k, dlen (bl B) 0 = k := ⟨_, rfl⟩
  rw [hk] at RN
  have k0 := Lib.hid (show K1 w (w.alloc (.cells #[.bool false, .slice none 0 0, .slice none 0 0] 54)) _ _ _ _ from box_rs w _ _ _ _)
  obtain ⟨r0, r1, r2⟩ := k0.out.three
  obtain ⟨f0, f1, f2⟩ := k0.out.1.frozen
  have j1 : 1 ≤ S.size := by omega
  have hkB : k < B.size := by have := dlen_le (l := bl B) (k := 0); rw [hk, bl_len] at this; omega
  obtain ⟨c, hc⟩ : ∃ c, B[k] = c := ⟨_, rfl⟩
  have hget : (body (bl S))[k]? = some c := by rw [hbody, ← hc]; exact bl_at B k hkB
  have hf := frm_sep (l := bl S) (c := c) (k := k) (by rw [hbody]; exact hk) (by rw [← hk]; exact h0) hget
  obtain ⟨_, _, hPd, _⟩ := frm_mid (l := bl S) (c := c) (k := k) (by rw [hbody]; exact hk) (by rw [← hk]; exact h0) hget
  rw [hbody] at hf hPd
  rw [hneg] at hf
  obtain ⟨M, hM⟩ : ∃ M, B.extract (k + 1) B.size = M := ⟨_, rfl⟩
  obtain ⟨P, hP⟩ : ∃ P, B.extract 0 k = P := ⟨_, rfl⟩
  have bM : (bl B).drop (k + 1) = bl M := by rw [← hM, bl_cut, List.take_of_length_le (by rw [List.length_drop, bl_len]; exact Nat.le_refl _)]
  have bP : (bl B).take k = bl P := by rw [← hP, bl_cut, List.drop_zero, Nat.sub_zero]
  rw [bM, bP] at hf
  rw [bP] at hPd
  have sM : M.size ≤ 1000 := by rw [← bl_len, ← bM, List.length_drop, bl_len]; omega
  have sP : P.size ≤ 1000 := by rw [← bl_len, ← bP, List.length_take, bl_len]; omega
  have RM := rrun0_any M (by omega)
  have e0 : ¬ (k : Int) = 0 := by omega
  have e1 : ¬ (k : Int) = (B.size : Int) := by omega
  have e2 : (k : Int) < (B.size : Int) := by omega
  have e3 : (0 : Int) ≤ (k : Int) := by omega
  have e4 : k + 1 ≤ B.size := by omega
  have e5 : (k : Int) + 1 ≤ (B.size : Int) := by omega
  have e6 : k ≤ B.size := by omega
  have w1 : IntKind.i64.wrap ((k : Int) + 1) = (k : Int) + 1 := IntWalk.i64_in _ (by constructor <;> omega)
  have hcI : ((B[k].toNat : Nat) : Int) = (c.toNat : Int) := by rw [hc]
  rw [hk, hM] at hno
  rw [if_neg hno] at hf
  rw [hf]
  by_cases hdl : dlen (bl M) 0 = M.size
  · have hall := dlen_all.1 (show dlen (bl M) 0 = (bl M).length by rw [bl_len]; exact hdl)
    have hem : bl M = [] := by
      rcases List.eq_nil_or_concat (bl M) with h | ⟨_, _, h⟩
      · exact h
      · exact absurd ⟨by rw [h]; simp, hall⟩ hno
    have g1 : M.toList.isEmpty = true := by rw [emptyS]; exact decide_eq_true hem
    rw [hdl] at RM
    clear hf hz hk hbody hneg hs hBs hno hdl hall hem h0 hget hPd bM bP
    go_enter Tryz.func64, Tryz.ntmps64
    go_wp2_with (go_at_call 68; ((with_reducible refine (RN _).mono ?_); rintro e w' ⟨rfl, rfl⟩))
    go_quiet (fail)
    go_wp2_with (go_at_call 68; ((with_reducible refine (RM _).mono ?_); rintro e w' ⟨rfl, rfl⟩))
    exact bodyPost_ret (v := .tuple #[.agg #[.bool false, .slice none 0 0, .slice none 0 0], .bool false]) (by simp [results, Tryz.results64, go_sem, r0, r1, r2]) rfl (K1.readR (o := none) (k0.out.up (below_drewN (Below.refl _ _) _)) (Qr.zero _) sz_zero (fun q h => by cases h))
  · have g1 : ¬ ((dlen (bl M) 0 : Nat) : Int) = (M.size : Int) := by omega
    obtain ⟨dl, hdl'⟩ : ∃ dl, dlen (bl M) 0 = dl := ⟨_, rfl⟩
    rw [hdl'] at g1 RM
    clear hf hz hk hbody hneg hs hBs hno hdl h0 hget hPd bM bP hdl'
    go_enter Tryz.func64, Tryz.ntmps64
    go_wp2_with (go_at_call 68; ((with_reducible refine (RN _).mono ?_); rintro e w' ⟨rfl, rfl⟩))
    go_quiet (fail)
    go_wp2_with (go_at_call 68; ((with_reducible refine (RM _).mono ?_); rintro e w' ⟨rfl, rfl⟩))
    exact bodyPost_ret (v := .tuple #[.agg #[.bool false, .slice none 0 0, .slice none 0 0], .bool false]) (by simp [results, Tryz.results64, go_sem, r0, r1, r2]) rfl (K1.readR (o := none) (k0.out.up (below_drewN (Below.refl _ _) _)) (Qr.zero _) sz_zero (fun q h => by cases h))

set_option maxRecDepth 100000 in
set_option maxHeartbeats 6400000 in
theorem rplain_no2_n (S B : ByteArray) (hs : S.size ≤ 1000) (w : World) (i0 : (0 : Int) < (S.size : Int)) (i9 : 0 < S.size) (c0 : ((S[0].toNat : Nat) : Int) = 45) (hB : S.extract 1 S.size = B) (hneg : isNeg (bl S) = true) (hbody : body (bl S) = bl B) (h0 : dlen (bl B) 0 ≠ 0) (hz : dlen (bl B) 0 ≠ B.size) (hyes : (bl (B.extract (dlen (bl B) 0 + 1) B.size)) ≠ [] ∧ allD (bl (B.extract (dlen (bl B) 0 + 1) B.size)) = true) (hkB' : dlen (bl B) 0 < B.size) (s1 : B[dlen (bl B) 0].toNat ≠ 46) (s2 : B[dlen (bl B) 0].toNat ≠ 47) :
    Calls Tryz.prog 64 #[.string S] w (ReadR (frm (bl S)) w) := by
  have hBs : B.size ≤ 1000 := by rw [← bl_len, ← hbody]; exact Nat.le_trans (body_len _) (by rw [bl_len]; exact hs)
  have RN := rrun0_any B (by omega)
  obtain ⟨k, hk⟩ : ∃ k, dlen (bl B) 0 = k := ⟨_, rfl⟩
  rw [hk] at RN
  have k0 := Lib.hid (show K1 w (w.alloc (.cells #[.bool false, .slice none 0 0, .slice none 0 0] 54)) _ _ _ _ from box_rs w _ _ _ _)
  obtain ⟨r0, r1, r2⟩ := k0.out.three
  obtain ⟨f0, f1, f2⟩ := k0.out.1.frozen
  have j1 : 1 ≤ S.size := by omega
  have hkB : k < B.size := by have := dlen_le (l := bl B) (k := 0); rw [hk, bl_len] at this; omega
  obtain ⟨c, hc⟩ : ∃ c, B[k] = c := ⟨_, rfl⟩
  have hget : (body (bl S))[k]? = some c := by rw [hbody, ← hc]; exact bl_at B k hkB
  have hf := frm_sep (l := bl S) (c := c) (k := k) (by rw [hbody]; exact hk) (by rw [← hk]; exact h0) hget
  obtain ⟨_, _, hPd, _⟩ := frm_mid (l := bl S) (c := c) (k := k) (by rw [hbody]; exact hk) (by rw [← hk]; exact h0) hget
  rw [hbody] at hf hPd
  rw [hneg] at hf
  obtain ⟨M, hM⟩ : ∃ M, B.extract (k + 1) B.size = M := ⟨_, rfl⟩
  obtain ⟨P, hP⟩ : ∃ P, B.extract 0 k = P := ⟨_, rfl⟩
  have bM : (bl B).drop (k + 1) = bl M := by rw [← hM, bl_cut, List.take_of_length_le (by rw [List.length_drop, bl_len]; exact Nat.le_refl _)]
  have bP : (bl B).take k = bl P := by rw [← hP, bl_cut, List.drop_zero, Nat.sub_zero]
  rw [bM, bP] at hf
  rw [bP] at hPd
  have sM : M.size ≤ 1000 := by rw [← bl_len, ← bM, List.length_drop, bl_len]; omega
  have sP : P.size ≤ 1000 := by rw [← bl_len, ← bP, List.length_take, bl_len]; omega
  have RM := rrun0_any M (by omega)
  have e0 : ¬ (k : Int) = 0 := by omega
  have e1 : ¬ (k : Int) = (B.size : Int) := by omega
  have e2 : (k : Int) < (B.size : Int) := by omega
  have e3 : (0 : Int) ≤ (k : Int) := by omega
  have e4 : k + 1 ≤ B.size := by omega
  have e5 : (k : Int) + 1 ≤ (B.size : Int) := by omega
  have e6 : k ≤ B.size := by omega
  have w1 : IntKind.i64.wrap ((k : Int) + 1) = (k : Int) + 1 := IntWalk.i64_in _ (by constructor <;> omega)
  have hcI : ((B[k].toNat : Nat) : Int) = (c.toNat : Int) := by rw [hc]
  rw [hk, hM] at hyes
  rw [if_pos hyes] at hf
  obtain ⟨hMn, hMd⟩ := hyes
  have hdl : dlen (bl M) 0 = M.size := by rw [← bl_len]; exact dlen_all.2 hMd
  rw [hdl] at RM
  have g1 : M.toList.isEmpty = false := by rw [emptyS]; exact decide_eq_false hMn
  simp only [hk] at s1 s2
  rw [hc] at s1 s2
  rw [if_neg (fun e => s1 (by rw [e]; rfl)), if_neg (fun e => s2 (by rw [e]; rfl))] at hf
  rw [hf]
  have g2 : (((c.toNat : Nat) : Int) != 46) = true := by rw [bne_iff_ne]; omega
  have g3 : (((c.toNat : Nat) : Int) != 47) = true := by rw [bne_iff_ne]; omega
  clear hf hz hk hbody hneg hs hBs h0 hget hPd bM bP hMn hMd hdl s1 s2 hkB'
  go_enter Tryz.func64, Tryz.ntmps64
  go_wp2_with (go_at_call 68; ((with_reducible refine (RN _).mono ?_); rintro e w' ⟨rfl, rfl⟩))
  go_quiet (fail)
  go_wp2_with (go_at_call 68; ((with_reducible refine (RM _).mono ?_); rintro e w' ⟨rfl, rfl⟩))
  exact bodyPost_ret (v := .tuple #[.agg #[.bool false, .slice none 0 0, .slice none 0 0], .bool false]) (by simp [results, Tryz.results64, go_sem, r0, r1, r2]) rfl (K1.readR (o := none) (k0.out.up (below_drewN (Below.refl _ _) _)) (Qr.zero _) sz_zero (fun q h => by cases h))

set_option maxRecDepth 100000 in
set_option maxHeartbeats 6400000 in
theorem rplain_over_n (S B : ByteArray) (hs : S.size ≤ 1000) (w : World) (i0 : (0 : Int) < (S.size : Int)) (i9 : 0 < S.size) (c0 : ((S[0].toNat : Nat) : Int) = 45) (hB : S.extract 1 S.size = B) (hneg : isNeg (bl S) = true) (hbody : body (bl S) = bl B) (h0 : dlen (bl B) 0 ≠ 0) (hz : dlen (bl B) 0 ≠ B.size) (hyes : (bl (B.extract (dlen (bl B) 0 + 1) B.size)) ≠ [] ∧ allD (bl (B.extract (dlen (bl B) 0 + 1) B.size)) = true) (hkB' : dlen (bl B) 0 < B.size) (s2 : B[dlen (bl B) 0].toNat = 47) :
    Calls Tryz.prog 64 #[.string S] w (ReadR (frm (bl S)) w) := by
  have hBs : B.size ≤ 1000 := by rw [← bl_len, ← hbody]; exact Nat.le_trans (body_len _) (by rw [bl_len]; exact hs)
  have RN := rrun0_any B (by omega)
  obtain ⟨k, hk⟩ : ∃ k, dlen (bl B) 0 = k := ⟨_, rfl⟩
  rw [hk] at RN
  have k0 := Lib.hid (show K1 w (w.alloc (.cells #[.bool false, .slice none 0 0, .slice none 0 0] 54)) _ _ _ _ from box_rs w _ _ _ _)
  obtain ⟨r0, r1, r2⟩ := k0.out.three
  obtain ⟨f0, f1, f2⟩ := k0.out.1.frozen
  have j1 : 1 ≤ S.size := by omega
  have hkB : k < B.size := by have := dlen_le (l := bl B) (k := 0); rw [hk, bl_len] at this; omega
  obtain ⟨c, hc⟩ : ∃ c, B[k] = c := ⟨_, rfl⟩
  have hget : (body (bl S))[k]? = some c := by rw [hbody, ← hc]; exact bl_at B k hkB
  have hf := frm_sep (l := bl S) (c := c) (k := k) (by rw [hbody]; exact hk) (by rw [← hk]; exact h0) hget
  obtain ⟨_, _, hPd, _⟩ := frm_mid (l := bl S) (c := c) (k := k) (by rw [hbody]; exact hk) (by rw [← hk]; exact h0) hget
  rw [hbody] at hf hPd
  rw [hneg] at hf
  obtain ⟨M, hM⟩ : ∃ M, B.extract (k + 1) B.size = M := ⟨_, rfl⟩
  obtain ⟨P, hP⟩ : ∃ P, B.extract 0 k = P := ⟨_, rfl⟩
  have bM : (bl B).drop (k + 1) = bl M := by rw [← hM, bl_cut, List.take_of_length_le (by rw [List.length_drop, bl_len]; exact Nat.le_refl _)]
  have bP : (bl B).take k = bl P := by rw [← hP, bl_cut, List.drop_zero, Nat.sub_zero]
  rw [bM, bP] at hf
  rw [bP] at hPd
  have sM : M.size ≤ 1000 := by rw [← bl_len, ← bM, List.length_drop, bl_len]; omega
  have sP : P.size ≤ 1000 := by rw [← bl_len, ← bP, List.length_take, bl_len]; omega
  have RM := rrun0_any M (by omega)
  have e0 : ¬ (k : Int) = 0 := by omega
  have e1 : ¬ (k : Int) = (B.size : Int) := by omega
  have e2 : (k : Int) < (B.size : Int) := by omega
  have e3 : (0 : Int) ≤ (k : Int) := by omega
  have e4 : k + 1 ≤ B.size := by omega
  have e5 : (k : Int) + 1 ≤ (B.size : Int) := by omega
  have e6 : k ≤ B.size := by omega
  have w1 : IntKind.i64.wrap ((k : Int) + 1) = (k : Int) + 1 := IntWalk.i64_in _ (by constructor <;> omega)
  have hcI : ((B[k].toNat : Nat) : Int) = (c.toNat : Int) := by rw [hc]
  rw [hk, hM] at hyes
  rw [if_pos hyes] at hf
  obtain ⟨hMn, hMd⟩ := hyes
  have hdl : dlen (bl M) 0 = M.size := by rw [← bl_len]; exact dlen_all.2 hMd
  rw [hdl] at RM
  have g1 : M.toList.isEmpty = false := by rw [emptyS]; exact decide_eq_false hMn
  simp only [hk] at s2
  rw [hc] at s2
  have hc47 : c = 47 := UInt8.toNat_inj.1 s2
  rw [if_neg (by rw [hc47]; decide), if_pos hc47] at hf
  have g2 : (((c.toNat : Nat) : Int) != 46) = true := by rw [bne_iff_ne]; omega
  have g3 : ((c.toNat : Nat) : Int) = 47 := by omega
  have v1 := nd_val_le (bl P) hPd
  have v2 := nd_val_le (bl M) hMd
  rw [bl_len] at v1 v2
  have RD := fun w' => rread_any M (by omega) hMd w'
  have RP := fun w' => rread_any P (by omega) hPd w'
  have MK := fun w' A A' c c' h h' => rmake_any true A A' c c' (val (bl P)) (val (bl M)) w' h h' (by omega) (by omega)
  have hnz : (0 : Int) < ((nd (val (bl M)) : Nat) : Int) ↔ val (bl M) ≠ 0 := by
    have := nd_eq_zero (a := val (bl M))
    constructor
    · intro h e; rw [this.2 e] at h; omega
    · intro h; have : nd (val (bl M)) ≠ 0 := fun e => h (this.1 e); omega
  obtain ⟨q, hq⟩ : ∃ q, mkRat (sg true (val (bl P))) (val (bl M)) = q := ⟨_, rfl⟩
  have hsz : sz q ≤ 5000 ∧ ∀ q', frm (bl S) = some q' → q = q' := by
    by_cases hv : val (bl M) = 0
    · rw [if_pos hv] at hf
      refine ⟨?_, fun q' h => by rw [hf] at h; cases h⟩
      rw [← hq, hv, Rat.mkRat_zero]; exact sz_zero
    · rw [if_neg hv, hq] at hf
      exact ⟨frm_sz hf (by rw [bl_len]; omega), fun q' h => by rw [hf] at h; injection h⟩
  have hsome : (frm (bl S)).isSome = decide (val (bl M) ≠ 0) := by
    rw [hf]
    by_cases hv : val (bl M) = 0
    · rw [if_pos hv, decide_eq_false (fun h => h hv)]; rfl
    · rw [if_neg hv, decide_eq_true hv]; rfl
  rw [hq] at MK
  have HS := Lib.hid hsz
  have HO := Lib.hid hsome
  generalize frm (bl S) = o at *
  by_cases hv : val (bl M) = 0
  · rw [decide_eq_false (fun h => h hv)] at HO
    rw [hv] at RD MK
    have z0 := nd_zero
    rw [z0] at MK
    clear hf hz hk hbody hneg hs hBs h0 hget hPd bM bP hMn hMd hdl s2 hkB' hc47 hsz hsome hq hnz v1 v2
    go_enter Tryz.func64, Tryz.ntmps64
    go_wp2_with (go_at_call 68; ((with_reducible refine (RN _).mono ?_); rintro e w' ⟨rfl, rfl⟩))
    go_quiet (fail)
    go_wp2_with (first
      | (go_at_call 72; go_loud ((with_reducible refine (MK _ _ _ _ _ N2.out N1'.out).mono ?_); rintro e w3 ⟨v, rfl, ⟨AQa, cQa, AQb, cQb, dQ, rfl, n1, n2, hd⟩, hb⟩; have k3 := Lib.hid (k2.out.up hb); have NQ := Lib.hid (show Qr w3 _ q from ⟨AQa, cQa, AQb, cQb, dQ, rfl, n1, n2, hd⟩); obtain ⟨t0, t1, t2⟩ := k3.out.three; obtain ⟨g0, g1, g2⟩ := k3.out.1.frozen; clear n1 n2 hd hb))
      | (go_at_call 97; go_loud ((with_reducible refine (RP _).mono ?_); rintro e w2 ⟨A2, c2, rfl, hN, hb⟩; have k2 := Lib.hid (k1.out.up hb); have N1' := Lib.hid (N1.out.up hb); have N2 := Lib.hid hN; clear hN hb))
      | (go_at_call 97; go_loud ((with_reducible refine (RD _).mono ?_); rintro e w1 ⟨A1, c1, rfl, hN, hb⟩; have k1 := Lib.hid ((k0.out.up (below_drewN (Below.refl _ _) _)).up hb); have N1 := Lib.hid hN; clear hN hb))
      | (go_at_call 68; ((with_reducible refine (RM _).mono ?_); rintro e w' ⟨rfl, rfl⟩)))
    exact bodyPost_ret (v := .tuple #[.agg #[.bool (ngt q), .slice AQa (nd (top q)) cQa, .slice AQb (nd dQ) cQb], .bool o.isSome]) (by rw [HO.out]; simp [results, Tryz.results64, go_sem, t0, t1, t2]) rfl (k3.out.readR (o := o) NQ.out HS.out.1 HS.out.2)
  · have hl := hnz.2 hv
    have hl' : 0 < nd (val (bl M)) := by omega
    rw [decide_eq_true hv] at HO
    clear hf hz hk hbody hneg hs hBs h0 hget hPd bM bP hMn hMd hdl s2 hkB' hc47 hsz hsome hq hnz v1 v2
    go_enter Tryz.func64, Tryz.ntmps64
    go_wp2_with (go_at_call 68; ((with_reducible refine (RN _).mono ?_); rintro e w' ⟨rfl, rfl⟩))
    go_quiet (fail)
    go_wp2_with (first
      | (go_at_call 72; go_loud ((with_reducible refine (MK _ _ _ _ _ N2.out N1'.out).mono ?_); rintro e w3 ⟨v, rfl, ⟨AQa, cQa, AQb, cQb, dQ, rfl, n1, n2, hd⟩, hb⟩; have k3 := Lib.hid (k2.out.up hb); have NQ := Lib.hid (show Qr w3 _ q from ⟨AQa, cQa, AQb, cQb, dQ, rfl, n1, n2, hd⟩); obtain ⟨t0, t1, t2⟩ := k3.out.three; obtain ⟨g0, g1, g2⟩ := k3.out.1.frozen; clear n1 n2 hd hb))
      | (go_at_call 97; go_loud ((with_reducible refine (RP _).mono ?_); rintro e w2 ⟨A2, c2, rfl, hN, hb⟩; have k2 := Lib.hid (k1.out.up hb); have N1' := Lib.hid (N1.out.up hb); have N2 := Lib.hid hN; clear hN hb))
      | (go_at_call 97; go_loud ((with_reducible refine (RD _).mono ?_); rintro e w1 ⟨A1, c1, rfl, hN, hb⟩; have k1 := Lib.hid ((k0.out.up (below_drewN (Below.refl _ _) _)).up hb); have N1 := Lib.hid hN; clear hN hb))
      | (go_at_call 68; ((with_reducible refine (RM _).mono ?_); rintro e w' ⟨rfl, rfl⟩)))
    exact bodyPost_ret (v := .tuple #[.agg #[.bool (ngt q), .slice AQa (nd (top q)) cQa, .slice AQb (nd dQ) cQb], .bool o.isSome]) (by rw [HO.out]; simp [results, Tryz.results64, go_sem, t0, t1, t2]) rfl (k3.out.readR (o := o) NQ.out HS.out.1 HS.out.2)

set_option maxRecDepth 100000 in
set_option maxHeartbeats 6400000 in
theorem rplain_zero_p (S B : ByteArray) (hs : S.size ≤ 1000) (w : World) (i0 : (0 : Int) < (S.size : Int)) (i9 : 0 < S.size) (c0 : ¬ ((S[0].toNat : Nat) : Int) = 45) (hB : S = B) (_hneg : isNeg (bl S) = false) (hbody : body (bl S) = bl B) (hz : dlen (bl B) 0 = 0) :
    Calls Tryz.prog 64 #[.string S] w (ReadR (frm (bl S)) w) := by
  subst hB
  have hBs : S.size ≤ 1000 := by rw [← bl_len, ← hbody]; exact Nat.le_trans (body_len _) (by rw [bl_len]; exact hs)
  have RN := rrun0_any S (by omega)
  obtain ⟨k, hk⟩ : ∃ k, dlen (bl S) 0 = k := ⟨_, rfl⟩
  rw [hk] at RN
  have k0 := Lib.hid (show K1 w (w.alloc (.cells #[.bool false, .slice none 0 0, .slice none 0 0] 54)) _ _ _ _ from box_rs w _ _ _ _)
  obtain ⟨r0, r1, r2⟩ := k0.out.three
  obtain ⟨f0, f1, f2⟩ := k0.out.1.frozen
  have hf : frm (bl S) = none := frm_zero (by rw [hbody]; exact hz)
  rw [hf]
  obtain rfl : k = 0 := hk.symm.trans hz
  clear hf hz hk hbody _hneg hs hBs
  go_enter Tryz.func64, Tryz.ntmps64
  go_wp2_with (go_at_call 68; ((with_reducible refine (RN _).mono ?_); rintro e w' ⟨rfl, rfl⟩))
  exact bodyPost_ret (v := .tuple #[.agg #[.bool false, .slice none 0 0, .slice none 0 0], .bool false]) (by simp [results, Tryz.results64, go_sem, r0, r1, r2]) rfl (K1.readNone k0.out)

set_option maxRecDepth 100000 in
set_option maxHeartbeats 6400000 in
theorem rplain_all_p (S B : ByteArray) (hs : S.size ≤ 1000) (w : World) (i0 : (0 : Int) < (S.size : Int)) (i9 : 0 < S.size) (c0 : ¬ ((S[0].toNat : Nat) : Int) = 45) (hB : S = B) (hneg : isNeg (bl S) = false) (hbody : body (bl S) = bl B) (h0 : dlen (bl B) 0 ≠ 0) (hz : dlen (bl B) 0 = B.size) :
    Calls Tryz.prog 64 #[.string S] w (ReadR (frm (bl S)) w) := by
  subst hB
  have hBs : S.size ≤ 1000 := by rw [← bl_len, ← hbody]; exact Nat.le_trans (body_len _) (by rw [bl_len]; exact hs)
  have RN := rrun0_any S (by omega)
  obtain ⟨k, hk⟩ : ∃ k, dlen (bl S) 0 = k := ⟨_, rfl⟩
  rw [hk] at RN
  have k0 := Lib.hid (show K1 w (w.alloc (.cells #[.bool false, .slice none 0 0, .slice none 0 0] 54)) _ _ _ _ from box_rs w _ _ _ _)
  obtain ⟨r0, r1, r2⟩ := k0.out.three
  obtain ⟨f0, f1, f2⟩ := k0.out.1.frozen
  obtain ⟨hd, hf⟩ := frm_whole (l := bl S) (by rw [hbody, bl_len]; exact hz) (by rw [hbody]; exact h0)
  rw [hbody] at hd hf
  rw [hneg] at hf
  have hsz := frm_sz hf (by rw [bl_len]; omega)
  have hv := nd_val_le (bl S) hd
  rw [bl_len] at hv
  have RD := fun w' => rread_any S (by omega) hd w'
  have ON := fun w' => rone_any w'
  have MK := fun w' A A' c c' h h' => rmake_any false A A' c c' (val (bl S)) 1 w' h h' (by omega) (by rw [nd_one]; decide)
  obtain ⟨q, hq⟩ : ∃ q, mkRat (sg false (val (bl S))) 1 = q := ⟨_, rfl⟩
  rw [hq] at MK hf hsz
  rw [hf]
  have HS := Lib.hid hsz
  obtain rfl : k = S.size := hk.symm.trans hz
  have e0 : ¬ ((S.size : Nat) : Int) = 0 := by omega
  clear hf hz hk hbody hneg hs hBs hd hv hsz hq h0
  go_enter Tryz.func64, Tryz.ntmps64
  go_wp2_with (first
    | (go_at_call 72; go_loud ((with_reducible refine (MK _ _ _ _ _ N1'.out N2.out).mono ?_); rintro e w3 ⟨v, rfl, ⟨AQa, cQa, AQb, cQb, dQ, rfl, n1, n2, hd⟩, hb⟩; have k3 := Lib.hid (k2.out.up hb); have NQ := Lib.hid (show Qr w3 _ q from ⟨AQa, cQa, AQb, cQb, dQ, rfl, n1, n2, hd⟩); obtain ⟨t0, t1, t2⟩ := k3.out.three; obtain ⟨g0, g1, g2⟩ := k3.out.1.frozen; clear n1 n2 hd hb))
    | (go_at_call 74; go_loud ((with_reducible refine (ON _).mono ?_); rintro e w2 ⟨A2, c2, rfl, hN, hb⟩; have k2 := Lib.hid (k1.out.up hb); have N1' := Lib.hid (N1.out.up hb); have N2 := Lib.hid hN; clear hN hb))
    | (go_at_call 97; go_loud ((with_reducible refine (RD _).mono ?_); rintro e w1 ⟨A1, c1, rfl, hN, hb⟩; have k1 := Lib.hid (k0.out.up hb); have N1 := Lib.hid hN; clear hN hb))
    | (go_at_call 68; ((with_reducible refine (RN _).mono ?_); rintro e w' ⟨rfl, rfl⟩)))
  exact bodyPost_ret (v := .tuple #[.agg #[.bool (ngt q), .slice AQa (nd (top q)) cQa, .slice AQb (nd dQ) cQb], .bool true]) (by simp [results, Tryz.results64, go_sem, t0, t1, t2]) rfl (k3.out.readR (o := some q) NQ.out HS.out (fun q' h => by injection h))

set_option maxRecDepth 100000 in
set_option maxHeartbeats 6400000 in
theorem rplain_no1_p (S B : ByteArray) (hs : S.size ≤ 1000) (w : World) (i0 : (0 : Int) < (S.size : Int)) (i9 : 0 < S.size) (c0 : ¬ ((S[0].toNat : Nat) : Int) = 45) (hB : S = B) (hneg : isNeg (bl S) = false) (hbody : body (bl S) = bl B) (h0 : dlen (bl B) 0 ≠ 0) (hz : dlen (bl B) 0 ≠ B.size) (hno : ¬ ((bl (B.extract (dlen (bl B) 0 + 1) B.size)) ≠ [] ∧ allD (bl (B.extract (dlen (bl B) 0 + 1) B.size)) = true)) :
    Calls Tryz.prog 64 #[.string S] w (ReadR (frm (bl S)) w) := by
  subst hB
  have hBs : S.size ≤ 1000 := by rw [← bl_len, ← hbody]; exact Nat.le_trans (body_len _) (by rw [bl_len]; exact hs)
  have RN := rrun0_any S (by omega)
  obtain ⟨k, hk⟩ : ∃ k, dlen (bl S) 0 = k := ⟨_, rfl⟩
  rw [hk] at RN
  have k0 := Lib.hid (show K1 w (w.alloc (.cells #[.bool false, .slice none 0 0, .slice none 0 0] 54)) _ _ _ _ from box_rs w _ _ _ _)
  obtain ⟨r0, r1, r2⟩ := k0.out.three
  obtain ⟨f0, f1, f2⟩ := k0.out.1.frozen
  have hkB : k < S.size := by have := dlen_le (l := bl S) (k := 0); rw [hk, bl_len] at this; omega
  obtain ⟨c, hc⟩ : ∃ c, S[k] = c := ⟨_, rfl⟩
  have hget : (body (bl S))[k]? = some c := by rw [hbody, ← hc]; exact bl_at S k hkB
  have hf := frm_sep (l := bl S) (c := c) (k := k) (by rw [hbody]; exact hk) (by rw [← hk]; exact h0) hget
  obtain ⟨_, _, hPd, _⟩ := frm_mid (l := bl S) (c := c) (k := k) (by rw [hbody]; exact hk) (by rw [← hk]; exact h0) hget
  rw [hbody] at hf hPd
  rw [hneg] at hf
  obtain ⟨M, hM⟩ : ∃ M, S.extract (k + 1) S.size = M := ⟨_, rfl⟩
  obtain ⟨P, hP⟩ : ∃ P, S.extract 0 k = P := ⟨_, rfl⟩
  have bM : (bl S).drop (k + 1) = bl M := by rw [← hM, bl_cut, List.take_of_length_le (by rw [List.length_drop, bl_len]; exact Nat.le_refl _)]
  have bP : (bl S).take k = bl P := by rw [← hP, bl_cut, List.drop_zero, Nat.sub_zero]
  rw [bM, bP] at hf
  rw [bP] at hPd
  have sM : M.size ≤ 1000 := by rw [← bl_len, ← bM, List.length_drop, bl_len]; omega
  have sP : P.size ≤ 1000 := by rw [← bl_len, ← bP, List.length_take, bl_len]; omega
  have RM := rrun0_any M (by omega)
  have e0 : ¬ (k : Int) = 0 := by omega
  have e1 : ¬ (k : Int) = (S.size : Int) := by omega
  have e2 : (k : Int) < (S.size : Int) := by omega
  have e3 : (0 : Int) ≤ (k : Int) := by omega
  have e4 : k + 1 ≤ S.size := by omega
  have e5 : (k : Int) + 1 ≤ (S.size : Int) := by omega
  have e6 : k ≤ S.size := by omega
  have w1 : IntKind.i64.wrap ((k : Int) + 1) = (k : Int) + 1 := IntWalk.i64_in _ (by constructor <;> omega)
  have hcI : ((S[k].toNat : Nat) : Int) = (c.toNat : Int) := by rw [hc]
  rw [hk, hM] at hno
  rw [if_neg hno] at hf
  rw [hf]
  by_cases hdl : dlen (bl M) 0 = M.size
  · have hall := dlen_all.1 (show dlen (bl M) 0 = (bl M).length by rw [bl_len]; exact hdl)
    have hem : bl M = [] := by
      rcases List.eq_nil_or_concat (bl M) with h | ⟨_, _, h⟩
      · exact h
      · exact absurd ⟨by rw [h]; simp, hall⟩ hno
    have g1 : M.toList.isEmpty = true := by rw [emptyS]; exact decide_eq_true hem
    rw [hdl] at RM
    clear hf hz hk hbody hneg hs hBs hno hdl hall hem h0 hget hPd bM bP
    go_enter Tryz.func64, Tryz.ntmps64
    go_wp2_with (go_at_call 68; ((with_reducible refine (RN _).mono ?_); rintro e w' ⟨rfl, rfl⟩))
    go_quiet (fail)
    go_wp2_with (go_at_call 68; ((with_reducible refine (RM _).mono ?_); rintro e w' ⟨rfl, rfl⟩))
    exact bodyPost_ret (v := .tuple #[.agg #[.bool false, .slice none 0 0, .slice none 0 0], .bool false]) (by simp [results, Tryz.results64, go_sem, r0, r1, r2]) rfl (K1.readR (o := none) (k0.out.up (below_drewN (Below.refl _ _) _)) (Qr.zero _) sz_zero (fun q h => by cases h))
  · have g1 : ¬ ((dlen (bl M) 0 : Nat) : Int) = (M.size : Int) := by omega
    obtain ⟨dl, hdl'⟩ : ∃ dl, dlen (bl M) 0 = dl := ⟨_, rfl⟩
    rw [hdl'] at g1 RM
    clear hf hz hk hbody hneg hs hBs hno hdl h0 hget hPd bM bP hdl'
    go_enter Tryz.func64, Tryz.ntmps64
    go_wp2_with (go_at_call 68; ((with_reducible refine (RN _).mono ?_); rintro e w' ⟨rfl, rfl⟩))
    go_quiet (fail)
    go_wp2_with (go_at_call 68; ((with_reducible refine (RM _).mono ?_); rintro e w' ⟨rfl, rfl⟩))
    exact bodyPost_ret (v := .tuple #[.agg #[.bool false, .slice none 0 0, .slice none 0 0], .bool false]) (by simp [results, Tryz.results64, go_sem, r0, r1, r2]) rfl (K1.readR (o := none) (k0.out.up (below_drewN (Below.refl _ _) _)) (Qr.zero _) sz_zero (fun q h => by cases h))

set_option maxRecDepth 100000 in
set_option maxHeartbeats 6400000 in
theorem rplain_no2_p (S B : ByteArray) (hs : S.size ≤ 1000) (w : World) (i0 : (0 : Int) < (S.size : Int)) (i9 : 0 < S.size) (c0 : ¬ ((S[0].toNat : Nat) : Int) = 45) (hB : S = B) (hneg : isNeg (bl S) = false) (hbody : body (bl S) = bl B) (h0 : dlen (bl B) 0 ≠ 0) (hz : dlen (bl B) 0 ≠ B.size) (hyes : (bl (B.extract (dlen (bl B) 0 + 1) B.size)) ≠ [] ∧ allD (bl (B.extract (dlen (bl B) 0 + 1) B.size)) = true) (hkB' : dlen (bl B) 0 < B.size) (s1 : B[dlen (bl B) 0].toNat ≠ 46) (s2 : B[dlen (bl B) 0].toNat ≠ 47) :
    Calls Tryz.prog 64 #[.string S] w (ReadR (frm (bl S)) w) := by
  subst hB
  have hBs : S.size ≤ 1000 := by rw [← bl_len, ← hbody]; exact Nat.le_trans (body_len _) (by rw [bl_len]; exact hs)
  have RN := rrun0_any S (by omega)
  obtain ⟨k, hk⟩ : ∃ k, dlen (bl S) 0 = k := ⟨_, rfl⟩
  rw [hk] at RN
  have k0 := Lib.hid (show K1 w (w.alloc (.cells #[.bool false, .slice none 0 0, .slice none 0 0] 54)) _ _ _ _ from box_rs w _ _ _ _)
  obtain ⟨r0, r1, r2⟩ := k0.out.three
  obtain ⟨f0, f1, f2⟩ := k0.out.1.frozen
  have hkB : k < S.size := by have := dlen_le (l := bl S) (k := 0); rw [hk, bl_len] at this; omega
  obtain ⟨c, hc⟩ : ∃ c, S[k] = c := ⟨_, rfl⟩
  have hget : (body (bl S))[k]? = some c := by rw [hbody, ← hc]; exact bl_at S k hkB
  have hf := frm_sep (l := bl S) (c := c) (k := k) (by rw [hbody]; exact hk) (by rw [← hk]; exact h0) hget
  obtain ⟨_, _, hPd, _⟩ := frm_mid (l := bl S) (c := c) (k := k) (by rw [hbody]; exact hk) (by rw [← hk]; exact h0) hget
  rw [hbody] at hf hPd
  rw [hneg] at hf
  obtain ⟨M, hM⟩ : ∃ M, S.extract (k + 1) S.size = M := ⟨_, rfl⟩
  obtain ⟨P, hP⟩ : ∃ P, S.extract 0 k = P := ⟨_, rfl⟩
  have bM : (bl S).drop (k + 1) = bl M := by rw [← hM, bl_cut, List.take_of_length_le (by rw [List.length_drop, bl_len]; exact Nat.le_refl _)]
  have bP : (bl S).take k = bl P := by rw [← hP, bl_cut, List.drop_zero, Nat.sub_zero]
  rw [bM, bP] at hf
  rw [bP] at hPd
  have sM : M.size ≤ 1000 := by rw [← bl_len, ← bM, List.length_drop, bl_len]; omega
  have sP : P.size ≤ 1000 := by rw [← bl_len, ← bP, List.length_take, bl_len]; omega
  have RM := rrun0_any M (by omega)
  have e0 : ¬ (k : Int) = 0 := by omega
  have e1 : ¬ (k : Int) = (S.size : Int) := by omega
  have e2 : (k : Int) < (S.size : Int) := by omega
  have e3 : (0 : Int) ≤ (k : Int) := by omega
  have e4 : k + 1 ≤ S.size := by omega
  have e5 : (k : Int) + 1 ≤ (S.size : Int) := by omega
  have e6 : k ≤ S.size := by omega
  have w1 : IntKind.i64.wrap ((k : Int) + 1) = (k : Int) + 1 := IntWalk.i64_in _ (by constructor <;> omega)
  have hcI : ((S[k].toNat : Nat) : Int) = (c.toNat : Int) := by rw [hc]
  rw [hk, hM] at hyes
  rw [if_pos hyes] at hf
  obtain ⟨hMn, hMd⟩ := hyes
  have hdl : dlen (bl M) 0 = M.size := by rw [← bl_len]; exact dlen_all.2 hMd
  rw [hdl] at RM
  have g1 : M.toList.isEmpty = false := by rw [emptyS]; exact decide_eq_false hMn
  simp only [hk] at s1 s2
  rw [hc] at s1 s2
  rw [if_neg (fun e => s1 (by rw [e]; rfl)), if_neg (fun e => s2 (by rw [e]; rfl))] at hf
  rw [hf]
  have g2 : (((c.toNat : Nat) : Int) != 46) = true := by rw [bne_iff_ne]; omega
  have g3 : (((c.toNat : Nat) : Int) != 47) = true := by rw [bne_iff_ne]; omega
  clear hf hz hk hbody hneg hs hBs h0 hget hPd bM bP hMn hMd hdl s1 s2 hkB'
  go_enter Tryz.func64, Tryz.ntmps64
  go_wp2_with (go_at_call 68; ((with_reducible refine (RN _).mono ?_); rintro e w' ⟨rfl, rfl⟩))
  go_quiet (fail)
  go_wp2_with (go_at_call 68; ((with_reducible refine (RM _).mono ?_); rintro e w' ⟨rfl, rfl⟩))
  exact bodyPost_ret (v := .tuple #[.agg #[.bool false, .slice none 0 0, .slice none 0 0], .bool false]) (by simp [results, Tryz.results64, go_sem, r0, r1, r2]) rfl (K1.readR (o := none) (k0.out.up (below_drewN (Below.refl _ _) _)) (Qr.zero _) sz_zero (fun q h => by cases h))

set_option maxRecDepth 100000 in
set_option maxHeartbeats 6400000 in
theorem rplain_over_p (S B : ByteArray) (hs : S.size ≤ 1000) (w : World) (i0 : (0 : Int) < (S.size : Int)) (i9 : 0 < S.size) (c0 : ¬ ((S[0].toNat : Nat) : Int) = 45) (hB : S = B) (hneg : isNeg (bl S) = false) (hbody : body (bl S) = bl B) (h0 : dlen (bl B) 0 ≠ 0) (hz : dlen (bl B) 0 ≠ B.size) (hyes : (bl (B.extract (dlen (bl B) 0 + 1) B.size)) ≠ [] ∧ allD (bl (B.extract (dlen (bl B) 0 + 1) B.size)) = true) (hkB' : dlen (bl B) 0 < B.size) (s2 : B[dlen (bl B) 0].toNat = 47) :
    Calls Tryz.prog 64 #[.string S] w (ReadR (frm (bl S)) w) := by
  subst hB
  have hBs : S.size ≤ 1000 := by rw [← bl_len, ← hbody]; exact Nat.le_trans (body_len _) (by rw [bl_len]; exact hs)
  have RN := rrun0_any S (by omega)
  obtain ⟨k, hk⟩ : ∃ k, dlen (bl S) 0 = k := ⟨_, rfl⟩
  rw [hk] at RN
  have k0 := Lib.hid (show K1 w (w.alloc (.cells #[.bool false, .slice none 0 0, .slice none 0 0] 54)) _ _ _ _ from box_rs w _ _ _ _)
  obtain ⟨r0, r1, r2⟩ := k0.out.three
  obtain ⟨f0, f1, f2⟩ := k0.out.1.frozen
  have hkB : k < S.size := by have := dlen_le (l := bl S) (k := 0); rw [hk, bl_len] at this; omega
  obtain ⟨c, hc⟩ : ∃ c, S[k] = c := ⟨_, rfl⟩
  have hget : (body (bl S))[k]? = some c := by rw [hbody, ← hc]; exact bl_at S k hkB
  have hf := frm_sep (l := bl S) (c := c) (k := k) (by rw [hbody]; exact hk) (by rw [← hk]; exact h0) hget
  obtain ⟨_, _, hPd, _⟩ := frm_mid (l := bl S) (c := c) (k := k) (by rw [hbody]; exact hk) (by rw [← hk]; exact h0) hget
  rw [hbody] at hf hPd
  rw [hneg] at hf
  obtain ⟨M, hM⟩ : ∃ M, S.extract (k + 1) S.size = M := ⟨_, rfl⟩
  obtain ⟨P, hP⟩ : ∃ P, S.extract 0 k = P := ⟨_, rfl⟩
  have bM : (bl S).drop (k + 1) = bl M := by rw [← hM, bl_cut, List.take_of_length_le (by rw [List.length_drop, bl_len]; exact Nat.le_refl _)]
  have bP : (bl S).take k = bl P := by rw [← hP, bl_cut, List.drop_zero, Nat.sub_zero]
  rw [bM, bP] at hf
  rw [bP] at hPd
  have sM : M.size ≤ 1000 := by rw [← bl_len, ← bM, List.length_drop, bl_len]; omega
  have sP : P.size ≤ 1000 := by rw [← bl_len, ← bP, List.length_take, bl_len]; omega
  have RM := rrun0_any M (by omega)
  have e0 : ¬ (k : Int) = 0 := by omega
  have e1 : ¬ (k : Int) = (S.size : Int) := by omega
  have e2 : (k : Int) < (S.size : Int) := by omega
  have e3 : (0 : Int) ≤ (k : Int) := by omega
  have e4 : k + 1 ≤ S.size := by omega
  have e5 : (k : Int) + 1 ≤ (S.size : Int) := by omega
  have e6 : k ≤ S.size := by omega
  have w1 : IntKind.i64.wrap ((k : Int) + 1) = (k : Int) + 1 := IntWalk.i64_in _ (by constructor <;> omega)
  have hcI : ((S[k].toNat : Nat) : Int) = (c.toNat : Int) := by rw [hc]
  rw [hk, hM] at hyes
  rw [if_pos hyes] at hf
  obtain ⟨hMn, hMd⟩ := hyes
  have hdl : dlen (bl M) 0 = M.size := by rw [← bl_len]; exact dlen_all.2 hMd
  rw [hdl] at RM
  have g1 : M.toList.isEmpty = false := by rw [emptyS]; exact decide_eq_false hMn
  simp only [hk] at s2
  rw [hc] at s2
  have hc47 : c = 47 := UInt8.toNat_inj.1 s2
  rw [if_neg (by rw [hc47]; decide), if_pos hc47] at hf
  have g2 : (((c.toNat : Nat) : Int) != 46) = true := by rw [bne_iff_ne]; omega
  have g3 : ((c.toNat : Nat) : Int) = 47 := by omega
  have v1 := nd_val_le (bl P) hPd
  have v2 := nd_val_le (bl M) hMd
  rw [bl_len] at v1 v2
  have RD := fun w' => rread_any M (by omega) hMd w'
  have RP := fun w' => rread_any P (by omega) hPd w'
  have MK := fun w' A A' c c' h h' => rmake_any false A A' c c' (val (bl P)) (val (bl M)) w' h h' (by omega) (by omega)
  have hnz : (0 : Int) < ((nd (val (bl M)) : Nat) : Int) ↔ val (bl M) ≠ 0 := by
    have := nd_eq_zero (a := val (bl M))
    constructor
    · intro h e; rw [this.2 e] at h; omega
    · intro h; have : nd (val (bl M)) ≠ 0 := fun e => h (this.1 e); omega
  obtain ⟨q, hq⟩ : ∃ q, mkRat (sg false (val (bl P))) (val (bl M)) = q := ⟨_, rfl⟩
  have hsz : sz q ≤ 5000 ∧ ∀ q', frm (bl S) = some q' → q = q' := by
    by_cases hv : val (bl M) = 0
    · rw [if_pos hv] at hf
      refine ⟨?_, fun q' h => by rw [hf] at h; cases h⟩
      rw [← hq, hv, Rat.mkRat_zero]; exact sz_zero
    · rw [if_neg hv, hq] at hf
      exact ⟨frm_sz hf (by rw [bl_len]; omega), fun q' h => by rw [hf] at h; injection h⟩
  have hsome : (frm (bl S)).isSome = decide (val (bl M) ≠ 0) := by
    rw [hf]
    by_cases hv : val (bl M) = 0
    · rw [if_pos hv, decide_eq_false (fun h => h hv)]; rfl
    · rw [if_neg hv, decide_eq_true hv]; rfl
  rw [hq] at MK
  have HS := Lib.hid hsz
  have HO := Lib.hid hsome
  generalize frm (bl S) = o at *
  by_cases hv : val (bl M) = 0
  · rw [decide_eq_false (fun h => h hv)] at HO
    rw [hv] at RD MK
    have z0 := nd_zero
    rw [z0] at MK
    clear hf hz hk hbody hneg hs hBs h0 hget hPd bM bP hMn hMd hdl s2 hkB' hc47 hsz hsome hq hnz v1 v2
    go_enter Tryz.func64, Tryz.ntmps64
    go_wp2_with (go_at_call 68; ((with_reducible refine (RN _).mono ?_); rintro e w' ⟨rfl, rfl⟩))
    go_quiet (fail)
    go_wp2_with (first
      | (go_at_call 72; go_loud ((with_reducible refine (MK _ _ _ _ _ N2.out N1'.out).mono ?_); rintro e w3 ⟨v, rfl, ⟨AQa, cQa, AQb, cQb, dQ, rfl, n1, n2, hd⟩, hb⟩; have k3 := Lib.hid (k2.out.up hb); have NQ := Lib.hid (show Qr w3 _ q from ⟨AQa, cQa, AQb, cQb, dQ, rfl, n1, n2, hd⟩); obtain ⟨t0, t1, t2⟩ := k3.out.three; obtain ⟨g0, g1, g2⟩ := k3.out.1.frozen; clear n1 n2 hd hb))
      | (go_at_call 97; go_loud ((with_reducible refine (RP _).mono ?_); rintro e w2 ⟨A2, c2, rfl, hN, hb⟩; have k2 := Lib.hid (k1.out.up hb); have N1' := Lib.hid (N1.out.up hb); have N2 := Lib.hid hN; clear hN hb))
      | (go_at_call 97; go_loud ((with_reducible refine (RD _).mono ?_); rintro e w1 ⟨A1, c1, rfl, hN, hb⟩; have k1 := Lib.hid ((k0.out.up (below_drewN (Below.refl _ _) _)).up hb); have N1 := Lib.hid hN; clear hN hb))
      | (go_at_call 68; ((with_reducible refine (RM _).mono ?_); rintro e w' ⟨rfl, rfl⟩)))
    exact bodyPost_ret (v := .tuple #[.agg #[.bool (ngt q), .slice AQa (nd (top q)) cQa, .slice AQb (nd dQ) cQb], .bool o.isSome]) (by rw [HO.out]; simp [results, Tryz.results64, go_sem, t0, t1, t2]) rfl (k3.out.readR (o := o) NQ.out HS.out.1 HS.out.2)
  · have hl := hnz.2 hv
    have hl' : 0 < nd (val (bl M)) := by omega
    rw [decide_eq_true hv] at HO
    clear hf hz hk hbody hneg hs hBs h0 hget hPd bM bP hMn hMd hdl s2 hkB' hc47 hsz hsome hq hnz v1 v2
    go_enter Tryz.func64, Tryz.ntmps64
    go_wp2_with (go_at_call 68; ((with_reducible refine (RN _).mono ?_); rintro e w' ⟨rfl, rfl⟩))
    go_quiet (fail)
    go_wp2_with (first
      | (go_at_call 72; go_loud ((with_reducible refine (MK _ _ _ _ _ N2.out N1'.out).mono ?_); rintro e w3 ⟨v, rfl, ⟨AQa, cQa, AQb, cQb, dQ, rfl, n1, n2, hd⟩, hb⟩; have k3 := Lib.hid (k2.out.up hb); have NQ := Lib.hid (show Qr w3 _ q from ⟨AQa, cQa, AQb, cQb, dQ, rfl, n1, n2, hd⟩); obtain ⟨t0, t1, t2⟩ := k3.out.three; obtain ⟨g0, g1, g2⟩ := k3.out.1.frozen; clear n1 n2 hd hb))
      | (go_at_call 97; go_loud ((with_reducible refine (RP _).mono ?_); rintro e w2 ⟨A2, c2, rfl, hN, hb⟩; have k2 := Lib.hid (k1.out.up hb); have N1' := Lib.hid (N1.out.up hb); have N2 := Lib.hid hN; clear hN hb))
      | (go_at_call 97; go_loud ((with_reducible refine (RD _).mono ?_); rintro e w1 ⟨A1, c1, rfl, hN, hb⟩; have k1 := Lib.hid ((k0.out.up (below_drewN (Below.refl _ _) _)).up hb); have N1 := Lib.hid hN; clear hN hb))
      | (go_at_call 68; ((with_reducible refine (RM _).mono ?_); rintro e w' ⟨rfl, rfl⟩)))
    exact bodyPost_ret (v := .tuple #[.agg #[.bool (ngt q), .slice AQa (nd (top q)) cQa, .slice AQb (nd dQ) cQb], .bool o.isSome]) (by rw [HO.out]; simp [results, Tryz.results64, go_sem, t0, t1, t2]) rfl (k3.out.readR (o := o) NQ.out HS.out.1 HS.out.2)

end Go.Proofs.YthjnmnepjeegiaaGreatDoor

/- plain of the reference: decimals; at any text. -/
namespace Go.Proofs.YthjnmnepjeegiaaGreatDoor
open Go.RowKit Go.Proofs.YthjnmnepjeegiaaGreatDoor.Dg Go.Proofs.YthjnmnepjeegiaaGreatDoor.Q Go.Proofs.YthjnmnepjeegiaaGreatDoor.Num Go.Proofs.YthjnmnepjeegiaaGreatDoor.Str

theorem K1.iterAt {w w' : World} {a b c : Value} {t : TypeId} (h : K1 w w' a b c t) {g : Nat} (hg : w.heap.size < g) (M : ByteArray) (p : Nat) : K1 w (w'.iterAt g M p) a b c t := by
  obtain ⟨h1, h2, h3⟩ := h
  refine ⟨?_, Lib.below_iterAt h2 (by omega) M p, by rw [Lib.iterAt_size]; exact h3⟩
  unfold Rs at *
  rw [Lib.iterAt_other _ _ _ _ _ (by omega)]
  exact h1
theorem Fs.iterAt {k : IntKind} {w : World} {B n c : Nat} {A : Option Addr} {o : Nat → Nat} (h : Fs k w B A n c o) {g : Nat} {M : ByteArray} {p : Nat} (hg : w.heap[g]? = some (.stringIter M p)) (p' : Nat) : Fs k (w.iterAt g M p') B A n c o :=
  ⟨h.1, h.2.1, fun hn => by
    obtain ⟨b, off, e, hlt, hc⟩ := h.2.2 hn
    refine ⟨b, off, e, hlt, fun j hj => ?_⟩
    have hj' := hc j hj
    have hne : b ≠ g := by
      rintro rfl
      simp [World.cell?, hg] at hj'
    have hb := Lib.iterAt_other w g b M p' hne
    unfold World.cell? at hj' ⊢
    simp only [hb]
    exact hj'⟩
theorem iter_size (w : World) (M : ByteArray) (p : Nat) : (w.iter M p).heap.size = w.heap.size + 1 := by simp [World.iter]
theorem iter_below (w : World) (M : ByteArray) (p : Nat) : Below w.heap.size w (w.iter M p) := (Below.refl _ w).alloc (Nat.le_refl _) _
theorem nd_pow10 (p : Nat) (h : p ≤ 1000) : nd (10 ^ p) ≤ 2000 := by have := nd_ten p; omega

set_option maxRecDepth 100000 in
set_option maxHeartbeats 6400000 in
theorem rplain_dec_n (S B : ByteArray) (hs : S.size ≤ 1000) (w : World) (i0 : (0 : Int) < (S.size : Int)) (i9 : 0 < S.size) (c0 : ((S[0].toNat : Nat) : Int) = 45) (hB : S.extract 1 S.size = B) (hneg : isNeg (bl S) = true) (hbody : body (bl S) = bl B) (h0 : dlen (bl B) 0 ≠ 0) (hz : dlen (bl B) 0 ≠ B.size) (hyes : (bl (B.extract (dlen (bl B) 0 + 1) B.size)) ≠ [] ∧ allD (bl (B.extract (dlen (bl B) 0 + 1) B.size)) = true) (hkB' : dlen (bl B) 0 < B.size) (s1 : B[dlen (bl B) 0].toNat = 46) :
    Calls Tryz.prog 64 #[.string S] w (ReadR (frm (bl S)) w) := by
  have hBs : B.size ≤ 1000 := by rw [← bl_len, ← hbody]; exact Nat.le_trans (body_len _) (by rw [bl_len]; exact hs)
  have RN := rrun0_any B (by omega)
  obtain ⟨k, hk⟩ : ∃ k, dlen (bl B) 0 = k := ⟨_, rfl⟩
  rw [hk] at RN
  have k0 := Lib.hid (show K1 w (w.alloc (.cells #[.bool false, .slice none 0 0, .slice none 0 0] 54)) _ _ _ _ from box_rs w _ _ _ _)
  obtain ⟨r0, r1, r2⟩ := k0.out.three
  obtain ⟨f0, f1, f2⟩ := k0.out.1.frozen
  have j1 : 1 ≤ S.size := by omega
  have hkB : k < B.size := by have := dlen_le (l := bl B) (k := 0); rw [hk, bl_len] at this; omega
  obtain ⟨c, hc⟩ : ∃ c, B[k] = c := ⟨_, rfl⟩
  have hget : (body (bl S))[k]? = some c := by rw [hbody, ← hc]; exact bl_at B k hkB
  have hf := frm_sep (l := bl S) (c := c) (k := k) (by rw [hbody]; exact hk) (by rw [← hk]; exact h0) hget
  obtain ⟨_, _, hPd, _⟩ := frm_mid (l := bl S) (c := c) (k := k) (by rw [hbody]; exact hk) (by rw [← hk]; exact h0) hget
  rw [hbody] at hf hPd
  rw [hneg] at hf
  obtain ⟨M, hM⟩ : ∃ M, B.extract (k + 1) B.size = M := ⟨_, rfl⟩
  obtain ⟨P, hP⟩ : ∃ P, B.extract 0 k = P := ⟨_, rfl⟩
  have bM : (bl B).drop (k + 1) = bl M := by rw [← hM, bl_cut, List.take_of_length_le (by rw [List.length_drop, bl_len]; exact Nat.le_refl _)]
  have bP : (bl B).take k = bl P := by rw [← hP, bl_cut, List.drop_zero, Nat.sub_zero]
  rw [bM, bP] at hf
  rw [bP] at hPd
  have sM : M.size ≤ 1000 := by rw [← bl_len, ← bM, List.length_drop, bl_len]; omega
  have sP : P.size ≤ 1000 := by rw [← bl_len, ← bP, List.length_take, bl_len]; omega
  have RM := rrun0_any M (by omega)
  have e0 : ¬ (k : Int) = 0 := by omega
  have e1 : ¬ (k : Int) = (B.size : Int) := by omega
  have e2 : (k : Int) < (B.size : Int) := by omega
  have e3 : (0 : Int) ≤ (k : Int) := by omega
  have e4 : k + 1 ≤ B.size := by omega
  have e5 : (k : Int) + 1 ≤ (B.size : Int) := by omega
  have e6 : k ≤ B.size := by omega
  have w1 : IntKind.i64.wrap ((k : Int) + 1) = (k : Int) + 1 := IntWalk.i64_in _ (by constructor <;> omega)
  have hcI : ((B[k].toNat : Nat) : Int) = (c.toNat : Int) := by rw [hc]
  rw [hk, hM] at hyes
  rw [if_pos hyes] at hf
  obtain ⟨hMn, hMd⟩ := hyes
  have hdl : dlen (bl M) 0 = M.size := by rw [← bl_len]; exact dlen_all.2 hMd
  rw [hdl] at RM
  have g1 : M.toList.isEmpty = false := by rw [emptyS]; exact decide_eq_false hMn
  simp only [hk] at s1
  rw [hc] at s1
  have hc46 : c = 46 := UInt8.toNat_inj.1 s1
  rw [if_pos hc46] at hf
  have g2 : ((c.toNat : Nat) : Int) = 46 := by omega
  have g3 : ¬ ((c.toNat : Nat) : Int) = 47 := by omega
  have g4 : (((c.toNat : Nat) : Int) != 46) = false := by rw [g2]; rfl
  have hPM : bl (P ++ M) = bl P ++ bl M := bl_app P M
  have hPMd : allD (bl (P ++ M)) = true := by rw [hPM, allD_append, hPd, hMd]; rfl
  have sPM : (P ++ M).size = P.size + M.size := by rw [← bl_len, hPM, List.length_append, bl_len, bl_len]
  rw [← hPM, bl_len] at hf
  have v1 := nd_val_le (bl (P ++ M)) hPMd
  rw [bl_len] at v1
  have RD := fun w' => rread_any (P ++ M) (by omega) hPMd w'
  have ON := fun w' => rone_any w'
  have NT := fun w' => natOf_any 10 (by decide) w'
  have MK := fun w' A A' c c' h h' => rmake_any true A A' c c' (val (bl (P ++ M))) (10 ^ M.size) w' h h' (by omega) (by have := nd_pow10 M.size sM; omega)
  obtain ⟨q, hq⟩ : ∃ q, mkRat (sg true (val (bl (P ++ M)))) (10 ^ M.size) = q := ⟨_, rfl⟩
  rw [hq] at MK hf
  have hsz := frm_sz hf (by rw [bl_len]; omega)
  rw [hf]
  have HS := Lib.hid hsz
  have HMD := Lib.hid hMd
  have sPM' : P.size + M.size ≤ 2000 := by omega
  clear hf hz hk hbody hneg hs hBs h0 hget hPd bM bP hMn hMd hdl s1 hkB' hc46 hsz hq v1 hPM hPMd
  go_enter Tryz.func64, Tryz.ntmps64
  go_wp2_with (go_at_call 68; ((with_reducible refine (RN _).mono ?_); rintro e w' ⟨rfl, rfl⟩))
  go_quiet (fail)
  go_wp2_with (first
    | (go_at_call 74; go_loud ((with_reducible refine (ON _).mono ?_); rintro e w1 ⟨A1, c1, rfl, hN, hb⟩; have k1 := Lib.hid ((k0.out.up (below_drewN (Below.refl _ _) _)).up hb); have N1 := Lib.hid hN; clear hN hb))
    | (go_at_call 68; ((with_reducible refine (RM _).mono ?_); rintro e w' ⟨rfl, rfl⟩)))
  have kI := Lib.hid (k1.out.up (iter_below w1 M 0))
  have NI := Lib.hid (N1.out.up (iter_below w1 M 0))
  have hI0 := Lib.hid (World.iter_heap w1 M 0)
  go_loopw [9] (fun d wr => ∃ p A c, p ≤ M.size ∧ d = .slice A (nd (10 ^ p)) c ∧ Hid (ItS w wr w1.heap.size M p A c)) (fun _ wr => M.size - wr.iterPos w1.heap.size)
  case atStart => exact ⟨0, A1, c1, Nat.zero_le _, rfl, Lib.hid ⟨hI0.out, kI.out, NI.out, k1.out.2.2⟩⟩
  case round =>
    obtain ⟨p, A3, c3, hp, rfl, hI⟩ := hrel
    obtain ⟨hit, hk, hN, hg⟩ := hI.out
    have KR := Lib.hid hk
    have NR := Lib.hid hN
    have HG := Lib.hid hg
    have HIT := Lib.hid hit
    have hgs : w1.heap.size < wr.heap.size := (Array.getElem?_eq_some_iff.1 hit).1
    have HGS := Lib.hid hgs
    have nb := Lib.hid (nd_pow10 p (by omega))
    by_cases hpM : p < M.size
    · have ha := allD_of_get HMD.out rfl p hpM
      have hnx := fun ty => Lib.run_next_ascii_at (P := Tryz.prog) wr w1.heap.size M p ty hit hpM (by omega)
      have hit2 := Lib.hid (Lib.iterAt_heap wr w1.heap.size M p (p + 1) hit)
      have K2' := Lib.hid (hk.iterAt hg M (p + 1))
      have N2' := Lib.hid (show Nt .u64 (wr.iterAt w1.heap.size M (p + 1)) (wr.iterAt w1.heap.size M (p + 1)).heap.size A3 c3 (10 ^ p) by rw [Lib.iterAt_size]; exact Fs.iterAt hN hit (p + 1))
      have hs2 := Lib.hid (show w1.heap.size < (wr.iterAt w1.heap.size M (p + 1)).heap.size by rw [Lib.iterAt_size]; exact hgs)
      have MU := fun w' A A' c c' h h' => (rmul_any A A' c c' (10 ^ p) 10 w' h h' (by have := nb.out; omega) (by have := nd_small (a := 10) (by decide); omega)).mono fun _ _ h => GiveO.n h
      rw [ten_succ] at MU
      clear hit hk hN hg hI hgs ha
      go_wp2_with (first
        | (go_at_call 75; go_loud ((with_reducible refine (MU _ _ _ _ _ N3.out N10.out).mono ?_); rintro e w4 ⟨A5, c5, rfl, hN, hb⟩; have K4 := Lib.hid (K3'.out.up hb); have N4 := Lib.hid hN; have hit4 := Lib.hid ((hb.block _ hs3.out).trans hit3.out); clear hN hb))
        | (go_at_call 73; go_loud ((refine (NT _).mono ?_); rintro e w3 ⟨A4, c4, rfl, hN, hb⟩; have K3' := Lib.hid (K2'.out.up hb); have N3 := Lib.hid (N2'.out.up hb); have N10 := Lib.hid hN; have hit3 := Lib.hid ((hb.block _ hs2.out).trans hit2.out); have hs3 := Lib.hid (Nat.lt_of_lt_of_le hs2.out hb.size); clear hN hb)))
      go_roundw
      case rel => exact ⟨p + 1, A5, c5, by omega, rfl, Lib.hid ⟨hit4.out, K4.out, N4.out, HG.out⟩⟩
      case measure =>
        have h1 := hit4.out
        have h2 := HIT.out
        simp only [World.iterPos, h1, h2]
        omega
    · obtain rfl : p = M.size := by omega
      have hnx := fun ty => Lib.run_next_end_at (P := Tryz.prog) wr w1.heap.size M M.size ty hit (by omega)
      clear hit hk hN hg hI hgs hpM
      go_wp2_with (first
        | (go_at_call 72; go_loud ((with_reducible refine (MK _ _ _ _ _ N5.out N6.out).mono ?_); rintro e w6 ⟨v, rfl, ⟨AQa, cQa, AQb, cQb, dQ, rfl, n1, n2, hd⟩, hb⟩; have k6 := Lib.hid (k5.out.up hb); have NQ := Lib.hid (show Qr w6 _ q from ⟨AQa, cQa, AQb, cQb, dQ, rfl, n1, n2, hd⟩); obtain ⟨t0, t1, t2⟩ := k6.out.three; obtain ⟨g0, g1, g2⟩ := k6.out.1.frozen; clear n1 n2 hd hb))
        | (go_at_call 97; go_loud ((with_reducible refine (RD _).mono ?_); rintro e w5 ⟨A4, c4, rfl, hN, hb⟩; have k5 := Lib.hid (KR.out.up hb); have N6 := Lib.hid (NR.out.up hb); have N5 := Lib.hid hN; clear hN hb)))
      exact bodyPost_ret (v := .tuple #[.agg #[.bool (ngt q), .slice AQa (nd (top q)) cQa, .slice AQb (nd dQ) cQb], .bool true]) (by simp [results, Tryz.results64, go_sem, t0, t1, t2]) rfl (k6.out.readR (o := some q) NQ.out HS.out (fun q' h => by injection h))

set_option maxRecDepth 100000 in
set_option maxHeartbeats 6400000 in
theorem rplain_dec_p (S B : ByteArray) (hs : S.size ≤ 1000) (w : World) (i0 : (0 : Int) < (S.size : Int)) (i9 : 0 < S.size) (c0 : ¬ ((S[0].toNat : Nat) : Int) = 45) (hB : S = B) (hneg : isNeg (bl S) = false) (hbody : body (bl S) = bl B) (h0 : dlen (bl B) 0 ≠ 0) (hz : dlen (bl B) 0 ≠ B.size) (hyes : (bl (B.extract (dlen (bl B) 0 + 1) B.size)) ≠ [] ∧ allD (bl (B.extract (dlen (bl B) 0 + 1) B.size)) = true) (hkB' : dlen (bl B) 0 < B.size) (s1 : B[dlen (bl B) 0].toNat = 46) :
    Calls Tryz.prog 64 #[.string S] w (ReadR (frm (bl S)) w) := by
  subst hB
  have hBs : S.size ≤ 1000 := by rw [← bl_len, ← hbody]; exact Nat.le_trans (body_len _) (by rw [bl_len]; exact hs)
  have RN := rrun0_any S (by omega)
  obtain ⟨k, hk⟩ : ∃ k, dlen (bl S) 0 = k := ⟨_, rfl⟩
  rw [hk] at RN
  have k0 := Lib.hid (show K1 w (w.alloc (.cells #[.bool false, .slice none 0 0, .slice none 0 0] 54)) _ _ _ _ from box_rs w _ _ _ _)
  obtain ⟨r0, r1, r2⟩ := k0.out.three
  obtain ⟨f0, f1, f2⟩ := k0.out.1.frozen
  have hkB : k < S.size := by have := dlen_le (l := bl S) (k := 0); rw [hk, bl_len] at this; omega
  obtain ⟨c, hc⟩ : ∃ c, S[k] = c := ⟨_, rfl⟩
  have hget : (body (bl S))[k]? = some c := by rw [hbody, ← hc]; exact bl_at S k hkB
  have hf := frm_sep (l := bl S) (c := c) (k := k) (by rw [hbody]; exact hk) (by rw [← hk]; exact h0) hget
  obtain ⟨_, _, hPd, _⟩ := frm_mid (l := bl S) (c := c) (k := k) (by rw [hbody]; exact hk) (by rw [← hk]; exact h0) hget
  rw [hbody] at hf hPd
  rw [hneg] at hf
  obtain ⟨M, hM⟩ : ∃ M, S.extract (k + 1) S.size = M := ⟨_, rfl⟩
  obtain ⟨P, hP⟩ : ∃ P, S.extract 0 k = P := ⟨_, rfl⟩
  have bM : (bl S).drop (k + 1) = bl M := by rw [← hM, bl_cut, List.take_of_length_le (by rw [List.length_drop, bl_len]; exact Nat.le_refl _)]
  have bP : (bl S).take k = bl P := by rw [← hP, bl_cut, List.drop_zero, Nat.sub_zero]
  rw [bM, bP] at hf
  rw [bP] at hPd
  have sM : M.size ≤ 1000 := by rw [← bl_len, ← bM, List.length_drop, bl_len]; omega
  have sP : P.size ≤ 1000 := by rw [← bl_len, ← bP, List.length_take, bl_len]; omega
  have RM := rrun0_any M (by omega)
  have e0 : ¬ (k : Int) = 0 := by omega
  have e1 : ¬ (k : Int) = (S.size : Int) := by omega
  have e2 : (k : Int) < (S.size : Int) := by omega
  have e3 : (0 : Int) ≤ (k : Int) := by omega
  have e4 : k + 1 ≤ S.size := by omega
  have e5 : (k : Int) + 1 ≤ (S.size : Int) := by omega
  have e6 : k ≤ S.size := by omega
  have w1 : IntKind.i64.wrap ((k : Int) + 1) = (k : Int) + 1 := IntWalk.i64_in _ (by constructor <;> omega)
  have hcI : ((S[k].toNat : Nat) : Int) = (c.toNat : Int) := by rw [hc]
  rw [hk, hM] at hyes
  rw [if_pos hyes] at hf
  obtain ⟨hMn, hMd⟩ := hyes
  have hdl : dlen (bl M) 0 = M.size := by rw [← bl_len]; exact dlen_all.2 hMd
  rw [hdl] at RM
  have g1 : M.toList.isEmpty = false := by rw [emptyS]; exact decide_eq_false hMn
  simp only [hk] at s1
  rw [hc] at s1
  have hc46 : c = 46 := UInt8.toNat_inj.1 s1
  rw [if_pos hc46] at hf
  have g2 : ((c.toNat : Nat) : Int) = 46 := by omega
  have g3 : ¬ ((c.toNat : Nat) : Int) = 47 := by omega
  have g4 : (((c.toNat : Nat) : Int) != 46) = false := by rw [g2]; rfl
  have hPM : bl (P ++ M) = bl P ++ bl M := bl_app P M
  have hPMd : allD (bl (P ++ M)) = true := by rw [hPM, allD_append, hPd, hMd]; rfl
  have sPM : (P ++ M).size = P.size + M.size := by rw [← bl_len, hPM, List.length_append, bl_len, bl_len]
  rw [← hPM, bl_len] at hf
  have v1 := nd_val_le (bl (P ++ M)) hPMd
  rw [bl_len] at v1
  have RD := fun w' => rread_any (P ++ M) (by omega) hPMd w'
  have ON := fun w' => rone_any w'
  have NT := fun w' => natOf_any 10 (by decide) w'
  have MK := fun w' A A' c c' h h' => rmake_any false A A' c c' (val (bl (P ++ M))) (10 ^ M.size) w' h h' (by omega) (by have := nd_pow10 M.size sM; omega)
  obtain ⟨q, hq⟩ : ∃ q, mkRat (sg false (val (bl (P ++ M)))) (10 ^ M.size) = q := ⟨_, rfl⟩
  rw [hq] at MK hf
  have hsz := frm_sz hf (by rw [bl_len]; omega)
  rw [hf]
  have HS := Lib.hid hsz
  have HMD := Lib.hid hMd
  have sPM' : P.size + M.size ≤ 2000 := by omega
  clear hf hz hk hbody hneg hs hBs h0 hget hPd bM bP hMn hMd hdl s1 hkB' hc46 hsz hq v1 hPM hPMd
  go_enter Tryz.func64, Tryz.ntmps64
  go_wp2_with (go_at_call 68; ((with_reducible refine (RN _).mono ?_); rintro e w' ⟨rfl, rfl⟩))
  go_quiet (fail)
  go_wp2_with (first
    | (go_at_call 74; go_loud ((with_reducible refine (ON _).mono ?_); rintro e w1 ⟨A1, c1, rfl, hN, hb⟩; have k1 := Lib.hid ((k0.out.up (below_drewN (Below.refl _ _) _)).up hb); have N1 := Lib.hid hN; clear hN hb))
    | (go_at_call 68; ((with_reducible refine (RM _).mono ?_); rintro e w' ⟨rfl, rfl⟩)))
  have kI := Lib.hid (k1.out.up (iter_below w1 M 0))
  have NI := Lib.hid (N1.out.up (iter_below w1 M 0))
  have hI0 := Lib.hid (World.iter_heap w1 M 0)
  go_loopw [9] (fun d wr => ∃ p A c, p ≤ M.size ∧ d = .slice A (nd (10 ^ p)) c ∧ Hid (ItS w wr w1.heap.size M p A c)) (fun _ wr => M.size - wr.iterPos w1.heap.size)
  case atStart => exact ⟨0, A1, c1, Nat.zero_le _, rfl, Lib.hid ⟨hI0.out, kI.out, NI.out, k1.out.2.2⟩⟩
  case round =>
    obtain ⟨p, A3, c3, hp, rfl, hI⟩ := hrel
    obtain ⟨hit, hk, hN, hg⟩ := hI.out
    have KR := Lib.hid hk
    have NR := Lib.hid hN
    have HG := Lib.hid hg
    have HIT := Lib.hid hit
    have hgs : w1.heap.size < wr.heap.size := (Array.getElem?_eq_some_iff.1 hit).1
    have HGS := Lib.hid hgs
    have nb := Lib.hid (nd_pow10 p (by omega))
    by_cases hpM : p < M.size
    · have ha := allD_of_get HMD.out rfl p hpM
      have hnx := fun ty => Lib.run_next_ascii_at (P := Tryz.prog) wr w1.heap.size M p ty hit hpM (by omega)
      have hit2 := Lib.hid (Lib.iterAt_heap wr w1.heap.size M p (p + 1) hit)
      have K2' := Lib.hid (hk.iterAt hg M (p + 1))
      have N2' := Lib.hid (show Nt .u64 (wr.iterAt w1.heap.size M (p + 1)) (wr.iterAt w1.heap.size M (p + 1)).heap.size A3 c3 (10 ^ p) by rw [Lib.iterAt_size]; exact Fs.iterAt hN hit (p + 1))
      have hs2 := Lib.hid (show w1.heap.size < (wr.iterAt w1.heap.size M (p + 1)).heap.size by rw [Lib.iterAt_size]; exact hgs)
      have MU := fun w' A A' c c' h h' => (rmul_any A A' c c' (10 ^ p) 10 w' h h' (by have := nb.out; omega) (by have := nd_small (a := 10) (by decide); omega)).mono fun _ _ h => GiveO.n h
      rw [ten_succ] at MU
      clear hit hk hN hg hI hgs ha
      go_wp2_with (first
        | (go_at_call 75; go_loud ((with_reducible refine (MU _ _ _ _ _ N3.out N10.out).mono ?_); rintro e w4 ⟨A5, c5, rfl, hN, hb⟩; have K4 := Lib.hid (K3'.out.up hb); have N4 := Lib.hid hN; have hit4 := Lib.hid ((hb.block _ hs3.out).trans hit3.out); clear hN hb))
        | (go_at_call 73; go_loud ((refine (NT _).mono ?_); rintro e w3 ⟨A4, c4, rfl, hN, hb⟩; have K3' := Lib.hid (K2'.out.up hb); have N3 := Lib.hid (N2'.out.up hb); have N10 := Lib.hid hN; have hit3 := Lib.hid ((hb.block _ hs2.out).trans hit2.out); have hs3 := Lib.hid (Nat.lt_of_lt_of_le hs2.out hb.size); clear hN hb)))
      go_roundw
      case rel => exact ⟨p + 1, A5, c5, by omega, rfl, Lib.hid ⟨hit4.out, K4.out, N4.out, HG.out⟩⟩
      case measure =>
        have h1 := hit4.out
        have h2 := HIT.out
        simp only [World.iterPos, h1, h2]
        omega
    · obtain rfl : p = M.size := by omega
      have hnx := fun ty => Lib.run_next_end_at (P := Tryz.prog) wr w1.heap.size M M.size ty hit (by omega)
      clear hit hk hN hg hI hgs hpM
      go_wp2_with (first
        | (go_at_call 72; go_loud ((with_reducible refine (MK _ _ _ _ _ N5.out N6.out).mono ?_); rintro e w6 ⟨v, rfl, ⟨AQa, cQa, AQb, cQb, dQ, rfl, n1, n2, hd⟩, hb⟩; have k6 := Lib.hid (k5.out.up hb); have NQ := Lib.hid (show Qr w6 _ q from ⟨AQa, cQa, AQb, cQb, dQ, rfl, n1, n2, hd⟩); obtain ⟨t0, t1, t2⟩ := k6.out.three; obtain ⟨g0, g1, g2⟩ := k6.out.1.frozen; clear n1 n2 hd hb))
        | (go_at_call 97; go_loud ((with_reducible refine (RD _).mono ?_); rintro e w5 ⟨A4, c4, rfl, hN, hb⟩; have k5 := Lib.hid (KR.out.up hb); have N6 := Lib.hid (NR.out.up hb); have N5 := Lib.hid hN; clear hN hb)))
      exact bodyPost_ret (v := .tuple #[.agg #[.bool (ngt q), .slice AQa (nd (top q)) cQa, .slice AQb (nd dQ) cQb], .bool true]) (by simp [results, Tryz.results64, go_sem, t0, t1, t2]) rfl (k6.out.readR (o := some q) NQ.out HS.out (fun q' h => by injection h))

theorem rplain_any (S : ByteArray) (hs : S.size ≤ 1000) (w : World) : Calls Tryz.prog 64 #[.string S] w (ReadR (frm (bl S)) w) := by
  by_cases h0 : S.size = 0
  · have hS : S = ⟨#[]⟩ := bl_inj (by rw [List.eq_nil_of_length_eq_zero (show (bl S).length = 0 by rw [bl_len]; exact h0)]; rfl)
    subst hS
    rw [show frm (bl ⟨#[]⟩) = none from rfl]
    exact rplain_empty w
  · have hp : 0 < S.size := by omega
    have i0 : (0 : Int) < (S.size : Int) := by omega
    have hh : (bl S).head? = some S[0] := by rw [List.head?_eq_getElem?]; exact bl_at S 0 hp
    by_cases h45 : S[0].toNat = 45
    · have c0 : ((S[0].toNat : Nat) : Int) = 45 := by omega
      have hneg : isNeg (bl S) = true := by
        unfold isNeg
        rw [hh, show S[0] = 45 from UInt8.toNat_inj.1 h45]; rfl
      obtain ⟨B, hB⟩ : ∃ B, S.extract 1 S.size = B := ⟨_, rfl⟩
      have hbody : body (bl S) = bl B := by
        unfold body
        rw [if_pos hneg, ← hB, bl_cut, List.drop_one, List.take_of_length_le (by rw [List.length_tail, bl_len]; exact Nat.le_refl _)]
      by_cases h1 : dlen (bl B) 0 = 0
      · exact rplain_zero_n S B hs w i0 hp c0 hB hneg hbody h1
      · by_cases h2 : dlen (bl B) 0 = B.size
        · exact rplain_all_n S B hs w i0 hp c0 hB hneg hbody h1 h2
        · have hk : dlen (bl B) 0 < B.size := by have := dlen_le (l := bl B) (k := 0); rw [bl_len] at this; omega
          by_cases hy : (bl (B.extract (dlen (bl B) 0 + 1) B.size)) ≠ [] ∧ allD (bl (B.extract (dlen (bl B) 0 + 1) B.size)) = true
          · by_cases s1 : B[dlen (bl B) 0].toNat = 46
            · exact rplain_dec_n S B hs w i0 hp c0 hB hneg hbody h1 h2 hy hk s1
            · by_cases s2 : B[dlen (bl B) 0].toNat = 47
              · exact rplain_over_n S B hs w i0 hp c0 hB hneg hbody h1 h2 hy hk s2
              · exact rplain_no2_n S B hs w i0 hp c0 hB hneg hbody h1 h2 hy hk s1 s2
          · exact rplain_no1_n S B hs w i0 hp c0 hB hneg hbody h1 h2 hy
    · have c0 : ¬ ((S[0].toNat : Nat) : Int) = 45 := by omega
      have hneg : isNeg (bl S) = false := by
        unfold isNeg
        rw [hh, beq_eq_false_iff_ne]
        intro e
        injection e with e
        exact h45 (by rw [e]; rfl)
      obtain ⟨B, hB⟩ : ∃ B, S = B := ⟨_, rfl⟩
      have hbody : body (bl S) = bl B := by unfold body; rw [if_neg (by rw [hneg]; decide), hB]
      by_cases h1 : dlen (bl B) 0 = 0
      · exact rplain_zero_p S B hs w i0 hp c0 hB hneg hbody h1
      · by_cases h2 : dlen (bl B) 0 = B.size
        · exact rplain_all_p S B hs w i0 hp c0 hB hneg hbody h1 h2
        · have hk : dlen (bl B) 0 < B.size := by have := dlen_le (l := bl B) (k := 0); rw [bl_len] at this; omega
          by_cases hy : (bl (B.extract (dlen (bl B) 0 + 1) B.size)) ≠ [] ∧ allD (bl (B.extract (dlen (bl B) 0 + 1) B.size)) = true
          · by_cases s1 : B[dlen (bl B) 0].toNat = 46
            · exact rplain_dec_p S B hs w i0 hp c0 hB hneg hbody h1 h2 hy hk s1
            · by_cases s2 : B[dlen (bl B) 0].toNat = 47
              · exact rplain_over_p S B hs w i0 hp c0 hB hneg hbody h1 h2 hy hk s2
              · exact rplain_no2_p S B hs w i0 hp c0 hB hneg hbody h1 h2 hy hk s1 s2
          · exact rplain_no1_p S B hs w i0 hp c0 hB hneg hbody h1 h2 hy

end Go.Proofs.YthjnmnepjeegiaaGreatDoor

/- Numbers of the reference: Get, Valid, IsValue, Parse. -/
namespace Go.Proofs.YthjnmnepjeegiaaGreatDoor
open Go.RowKit Go.Proofs.YthjnmnepjeegiaaGreatDoor.Dg Go.Proofs.YthjnmnepjeegiaaGreatDoor.Q Go.Proofs.YthjnmnepjeegiaaGreatDoor.Num Go.Proofs.YthjnmnepjeegiaaGreatDoor.Str

theorem ReadR.some {q : Rat} {w w' : World} {e : Ending} (h : ReadR (some q) w e w') : ∃ y A1 l1 c1 A2 l2 c2, e = .returned (.tuple #[.agg #[.bool y, .slice A1 l1 c1, .slice A2 l2 c2], .bool true]) ∧ Below w.heap.size w w' ∧ Qr w' (.agg #[.bool y, .slice A1 l1 c1, .slice A2 l2 c2]) q := by
  obtain ⟨y, A1, l1, c1, A2, l2, c2, q0, h1, h2, h3, _, h5⟩ := h
  have := h5 q rfl
  subst this
  exact ⟨y, A1, l1, c1, A2, l2, c2, h1, h2, h3⟩
theorem ReadR.none {w w' : World} {e : Ending} (h : ReadR none w e w') : ∃ y A1 l1 c1 A2 l2 c2 q, e = .returned (.tuple #[.agg #[.bool y, .slice A1 l1 c1, .slice A2 l2 c2], .bool false]) ∧ Below w.heap.size w w' ∧ Qr w' (.agg #[.bool y, .slice A1 l1 c1, .slice A2 l2 c2]) q ∧ sz q ≤ 5000 := by
  obtain ⟨y, A1, l1, c1, A2, l2, c2, q0, h1, h2, h3, h4, _⟩ := h
  exact ⟨y, A1, l1, c1, A2, l2, c2, q0, h1, h2, h3, h4⟩
theorem num_long {l : List UInt8} (h : 82 < l.length) : num? l = none := by
  cases h2 : num? l with
  | none => rfl
  | some q =>
    obtain ⟨h3, h4⟩ := num_iff.1 h2
    have := short_len h4
    rw [h3] at this
    omega
theorem num_frm_none {l : List UInt8} (h : frm l = none) : num? l = none := by unfold num?; rw [h]; rfl
theorem num_frm_some {l : List UInt8} {q : Rat} (h : frm l = some q) : num? l = if short q = true ∧ txt q = l then some q else none := by
  unfold num?
  rw [h]
  by_cases h1 : short q = true ∧ txt q = l
  · rw [if_pos h1, Option.filter, if_pos (by rw [h1.1, h1.2]; simp)]
  · rw [if_neg h1, Option.filter, if_neg (by simpa using h1)]

end Go.Proofs.YthjnmnepjeegiaaGreatDoor
