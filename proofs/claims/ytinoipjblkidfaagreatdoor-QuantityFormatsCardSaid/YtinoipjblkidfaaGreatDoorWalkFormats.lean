/- The law on valid units and their texts: its walk. -/
import Derived.Test.YtinoipjblkidfaaGreatDoorE18
import Derived.Deep.Cut
/- Units of the reference: FormatUnit. -/
namespace Go.Proofs.YtinoipjblkidfaaGreatDoor
open Go.RowKit Go.Proofs.YtinoipjblkidfaaGreatDoor.Dg Go.Proofs.YtinoipjblkidfaaGreatDoor.Q Go.Proofs.YtinoipjblkidfaaGreatDoor.Num
open Go.Lib (decDigits)

/-- One power more. -/
def stepO (out : List UInt8) (x : List UInt8 × Int) : List UInt8 := if x.2 = 0 then out else (if out = [] then [] else out ++ [32]) ++ word x.1 x.2
theorem join_shift (a b : List UInt8) (r : List (List UInt8)) : joinW ((a ++ 32 :: b) :: r) = joinW (a :: b :: r) := by
  cases r with
  | nil => rfl
  | cons c r => simp only [joinW, List.append_assoc, List.cons_append]
theorem stepO_join : ∀ (l : List (List UInt8 × Int)) (out : List UInt8), (∀ x ∈ l, x.1 ≠ []) → l.foldl stepO out = if out = [] then joinW (wordsOf l) else joinW (out :: wordsOf l)
  | [], out, _ => by
    by_cases h : out = []
    · rw [if_pos h]; exact h
    · rw [if_neg h]; rfl
  | (n, p) :: l, out, hn => by
    have ih := fun o => stepO_join l o (fun x hx => hn x (List.mem_cons_of_mem _ hx))
    rw [List.foldl_cons, ih]
    show _ = if out = [] then joinW ((if p = 0 then [] else [word n p]) ++ wordsOf l) else joinW (out :: ((if p = 0 then [] else [word n p]) ++ wordsOf l))
    by_cases hp : p = 0
    · have e : stepO out (n, p) = out := by unfold stepO; rw [if_pos hp]
      rw [e, if_pos hp, List.nil_append]
    · have hw : word n p ≠ [] := by
        have h0 := hn (n, p) (List.mem_cons_self ..)
        unfold word
        split
        · exact h0
        · simp
      rw [if_neg hp, List.singleton_append]
      by_cases h : out = []
      · have e : stepO out (n, p) = word n p := by unfold stepO; rw [if_neg hp, if_pos h, List.nil_append]
        rw [e, if_neg hw, if_pos h]
      · have e : stepO out (n, p) = out ++ 32 :: word n p := by unfold stepO; rw [if_neg hp, if_neg h, List.append_assoc]; rfl
        rw [e, if_neg (by simp), if_neg h, join_shift]
/-- With what the text begins. -/
def begO (F : List UInt8) (p : P7) : List UInt8 := if F = [49] ∧ p ≠ ⟨0, 0, 0, 0, 0, 0, 0⟩ then [] else F
theorem words_zero (p : P7) : wordsOf (names.zip p.l) = [] ↔ p = ⟨0, 0, 0, 0, 0, 0, 0⟩ := by
  obtain ⟨a, b, c, d, e, f, g⟩ := p
  constructor
  · intro h
    simp only [wordsOf, names, P7.l, List.zip_cons_cons, List.zip_nil_left, List.flatMap_cons, List.flatMap_nil, List.append_eq_nil_iff, and_true] at h
    obtain ⟨h1, h2, h3, h4, h5, h6, h7⟩ := h
    have z : ∀ {x : Int} {n : List UInt8}, (if x = 0 then [] else [word n x]) = [] → x = 0 := by
      intro x n h
      by_cases hx : x = 0
      · exact hx
      · rw [if_neg hx] at h; cases h
    rw [z h1, z h2, z h3, z h4, z h5, z h6, z h7]
  · rintro h
    rw [h]
    rfl
theorem names_ne : ∀ n ∈ names, n ≠ [] := by decide
theorem outO_fmt (F : List UInt8) (p : P7) (hF : F ≠ []) : (names.zip p.l).foldl stepO (begO F p) = fmtU F p := by
  rw [stepO_join _ _ (fun x hx => by
    obtain ⟨n, y⟩ := x
    have h1 := (List.of_mem_zip hx).1
    show n ≠ []
    exact names_ne n h1)]
  unfold begO fmtU
  by_cases h1 : F = [49]
  · by_cases h2 : p = ⟨0, 0, 0, 0, 0, 0, 0⟩
    · have hw := (words_zero p).2 h2
      rw [if_neg (c := F = [49] ∧ p ≠ _) (fun h => h.2 h2), if_neg hF, if_neg (fun h => h.2 hw)]
    · have hw : wordsOf (names.zip p.l) ≠ [] := fun h => h2 ((words_zero p).1 h)
      rw [if_pos (c := F = [49] ∧ p ≠ _) ⟨h1, h2⟩, if_pos rfl, if_pos ⟨h1, hw⟩]
  · rw [if_neg (c := F = [49] ∧ p ≠ _) (fun h => h1 h.1), if_neg hF, if_neg (fun h => h1 h.1)]
theorem fold_step {l : List (List UInt8 × Int)} {k : Nat} {x : List UInt8 × Int} {o : List UInt8} (h : l[k]? = some x) : (l.take (k + 1)).foldl stepO o = stepO ((l.take k).foldl stepO o) x := by
  rw [List.take_add_one, h, List.foldl_append]
  rfl
theorem put_small : ∀ k : Fin 25, put ((((k : Int) - 12 : Int)) : Rat) = itl ((k : Int) - 12) := by decide +kernel
theorem put_itl {p : Int} (hp : -12 ≤ p ∧ p ≤ 12) : put (p : Rat) = itl p := by
  have h := put_small ⟨(p + 12).toNat, by omega⟩
  have e : (((⟨(p + 12).toNat, by omega⟩ : Fin 25) : Nat) : Int) - 12 = p := by show (((p + 12).toNat : Nat) : Int) - 12 = p; omega
  rw [e] at h
  exact h
theorem rfrom_small (p : Int) (hp : -12 ≤ p ∧ p ≤ 12) (w : World) : Calls Tryz.prog 28 #[.int .i64 p] w fun e w' => e = .returned (.string (toB (itl p))) ∧ Below w.heap.size w w' := by
  have h := rFromInt_any p (by omega) (by omega) w
  rw [put_itl hp] at h
  exact h

set_option maxRecDepth 100000 in
set_option maxHeartbeats 12800000 in
theorem rformat_any (F O : ByteArray) (p : P7) (hF : F.size ≤ 9223372036854775807) (hO : O.size ≤ 9223372036854775807) (w : World) :
    Calls Tryz.prog 69 #[uv F O p] w fun e w' => e = .returned (.tuple #[.string (toB (fmtR (bl F) (bl O) p).1), .int .i64 (fmtR (bl F) (bl O) p).2]) ∧ Below w.heap.size w w' := by
  have k0 := Lib.hid (KU.start w F O p)
  have P1 := fun w' => rplainU_any F O p hF hO w'
  cases h1 : plainU (bl F) (bl O) p
  · have hf : fmtR (bl F) (bl O) p = ([], 10) := by unfold fmtR; rw [h1]; rfl
    rw [hf]
    rw [h1] at P1
    clear h1 hf hF hO
    obtain ⟨p0, p1, p2, p3, p4, p5, p6⟩ := p
    unfold uv at *
    dsimp only at *
    go_enter Tryz.func69, Tryz.ntmps69
    go_wp2_with (go_at_call 120; go_loud ((with_reducible refine (P1 _).mono ?_); rintro e w1 ⟨rfl, hb⟩; have k1 := Lib.hid (k0.out.up hb); clear hb))
    go_ret2
    exact ⟨rfl, (k1.out).2.1⟩
  · obtain ⟨q, hq, q0, hwi⟩ := plainU_parts h1
    have hne : bl F ≠ [] := by rw [← (num_iff.1 hq).1]; exact txt_ne q
    have hf : fmtR (bl F) (bl O) p = (fmtU (bl F) p, 0) := by unfold fmtR; rw [h1]; rfl
    rw [hf, ← outO_fmt _ _ hne]
    rw [h1] at P1
    have hFl : F.size ≤ 82 := by rw [← bl_len, ← (num_iff.1 hq).1]; exact short_len (num_iff.1 hq).2
    have eF : (F.toList == [49]) = decide (bl F = [49]) := eqS F [49]
    have e3 : ∀ w, (Op.equalIn 10000 22 (.agg p.C) (.agg (P7.C ⟨0, 0, 0, 0, 0, 0, 0⟩))).run Tryz.prog w = .ok (decide (p = ⟨0, 0, 0, 0, 0, 0, 0⟩)) w := fun w => eq7 9998 p _ w
    unfold P7.C at e3
    have HB0 := Lib.hid (show begO (bl F) p = if bl F = [49] ∧ p ≠ ⟨0, 0, 0, 0, 0, 0, 0⟩ then [] else bl F from rfl)
    clear h1 hf hO hq q0 hF hne
    obtain ⟨p0, p1, p2, p3, p4, p5, p6⟩ := p
    unfold P7.within at hwi
    unfold uv
    dsimp only at hwi k0 P1 e3 ⊢
    unfold uv at P1
    dsimp only at P1
    obtain ⟨r0, r1, r2, r3, r4, r5, r6⟩ := hwi
    obtain ⟨S0, hS0, hS1, hcase⟩ : ∃ S0 : ByteArray, bl S0 = begO (bl F) ⟨p0, p1, p2, p3, p4, p5, p6⟩ ∧ S0.size ≤ 82 ∧ ((decide (bl F = [49]) = true ∧ decide ((⟨p0, p1, p2, p3, p4, p5, p6⟩ : P7) = ⟨0, 0, 0, 0, 0, 0, 0⟩) = false ∧ S0 = ⟨#[]⟩) ∨ (decide (bl F = [49]) = true ∧ decide ((⟨p0, p1, p2, p3, p4, p5, p6⟩ : P7) = ⟨0, 0, 0, 0, 0, 0, 0⟩) = true ∧ S0 = F) ∨ (decide (bl F = [49]) = false ∧ S0 = F)) := by
      rw [HB0.out]
      by_cases h1 : bl F = [49]
      · by_cases h2 : (⟨p0, p1, p2, p3, p4, p5, p6⟩ : P7) = ⟨0, 0, 0, 0, 0, 0, 0⟩
        · exact ⟨F, by rw [if_neg (fun h => h.2 h2)], hFl, .inr (.inl ⟨decide_eq_true h1, decide_eq_true h2, rfl⟩)⟩
        · exact ⟨⟨#[]⟩, by rw [if_pos ⟨h1, h2⟩]; rfl, by decide, .inl ⟨decide_eq_true h1, decide_eq_false h2, rfl⟩⟩
      · exact ⟨F, by rw [if_neg (fun h => h1 h.1)], hFl, .inr (.inr ⟨decide_eq_false h1, rfl⟩)⟩
    have HS0 := Lib.hid hS0
    have HB := Lib.hid (show begO (bl F) ⟨p0, p1, p2, p3, p4, p5, p6⟩ = begO (bl F) ⟨p0, p1, p2, p3, p4, p5, p6⟩ from rfl)
    generalize begO (bl F) ⟨p0, p1, p2, p3, p4, p5, p6⟩ = BO at *
    clear HB HB0 hS0
    generalize hZL : names.zip (P7.l ⟨p0, p1, p2, p3, p4, p5, p6⟩) = ZL at *
    have g0 : ZL[0]? = some ([109], p0) := by rw [← hZL]; rfl
    have g1 : ZL[1]? = some ([107, 103], p1) := by rw [← hZL]; rfl
    have g2 : ZL[2]? = some ([115], p2) := by rw [← hZL]; rfl
    have g3 : ZL[3]? = some ([75], p3) := by rw [← hZL]; rfl
    have g4 : ZL[4]? = some ([109, 111, 108], p4) := by rw [← hZL]; rfl
    have g5 : ZL[5]? = some ([65], p5) := by rw [← hZL]; rfl
    have g6 : ZL[6]? = some ([99, 100], p6) := by rw [← hZL]; rfl
    have g7 : ZL.take 7 = ZL := by rw [← hZL]; rfl
    have G0 := Lib.hid g0; have G1 := Lib.hid g1; have G2 := Lib.hid g2; have G3 := Lib.hid g3; have G4 := Lib.hid g4; have G5 := Lib.hid g5; have G6 := Lib.hid g6; have G7 := Lib.hid g7
    clear g0 g1 g2 g3 g4 g5 g6 g7 hZL
    go_enter Tryz.func69, Tryz.ntmps69
    go_upto_region 5 with (go_at_call 120; go_loud ((with_reducible refine (P1 _).mono ?_); rintro e w1 ⟨rfl, hb⟩; have k1 := Lib.hid (k0.out.up hb); obtain ⟨c0, c1, c2, c3, c4, c5, c6, c7, c8⟩ := (KU.up k0.out hb).1.cells; have hU := (KU.up k0.out hb).2.2; clear hb))
    have bx := (Below.refl w1.heap.size w1).alloc (Nat.le_refl _) (.cells #[.string ⟨#[109]⟩, .string ⟨#[107, 103]⟩, .string ⟨#[115]⟩, .string ⟨#[75]⟩, .string ⟨#[109, 111, 108]⟩, .string ⟨#[65]⟩, .string ⟨#[99, 100]⟩] 135)
    have kU := Lib.hid ((k1.out.up bx).1)
    have bU := Lib.hid (k1.out.up bx).2.1
    have kN := Lib.hid (Bk.new w1 #[.string ⟨#[109]⟩, .string ⟨#[107, 103]⟩, .string ⟨#[115]⟩, .string ⟨#[75]⟩, .string ⟨#[109, 111, 108]⟩, .string ⟨#[65]⟩, .string ⟨#[99, 100]⟩] 135)
    clear bx k0 k1 P1 c0 c1 c2 c3 c4 c5 c6 c7 c8
    generalize w1.heap.size = gN at *
    generalize w1.alloc _ = W0 at *
    obtain ⟨c0, c1, c2, c3, c4, c5, c6, c7, c8⟩ := Ub.cells kU.out
    go_cut [22] from 23 (fun s wx => ((s = .bool true ∧ S0 = ⟨#[]⟩) ∨ (s = .bool false ∧ S0 = F)) ∧ W0 = wx)
    case first =>
      rcases hcase with ⟨hc1, hc2, rfl⟩ | ⟨hc1, hc2, rfl⟩ | ⟨hc1, rfl⟩
      all_goals rw [hc1] at eF
      all_goals try rw [hc2] at e3
      all_goals go_wp2
      all_goals go_meet
      all_goals first | (refine ⟨.inl ⟨rfl, ?_⟩, ?_⟩ <;> first | rfl | trivial) | (refine ⟨.inr ⟨rfl, ?_⟩, ?_⟩ <;> first | rfl | trivial)
    case rest =>
      obtain ⟨hsel, rfl⟩ := hcut
      clear hcase eF e3
      go_wp2
      go_cut [5] (fun s wx => s = .string S0 ∧ W0 = wx)
      case first =>
        rcases hsel with ⟨rfl, rfl⟩ | ⟨rfl, rfl⟩
        all_goals go_wp2
        all_goals go_meet
        all_goals exact ⟨rfl, rfl⟩
      case rest =>
       obtain ⟨rfl, rfl⟩ := hcut
       clear hsel
       go_wp2
       go_loopw [5, 25] (fun o i wr => ∃ (k : Nat) (S : ByteArray), k ≤ 7 ∧ i = .int .i64 (k : Int) ∧ o = .string S ∧ S.size ≤ 82 + 8 * k ∧ Hid (bl S = (ZL.take k).foldl stepO BO) ∧ Hid (Below W0.heap.size W0 wr)) (fun _ i _ => (7 - intOf i).toNat)
       case atStart => exact ⟨0, S0, by omega, rfl, rfl, by omega, HS0, Lib.hid (Below.refl _ _)⟩
       case round =>
         obtain ⟨k, S, hk, ei, rfl, hsz, hS, hB⟩ := hrel
         have kN2 := Lib.hid (kN.out.up hB.out)
         obtain ⟨n0, n1, n2, n3, n4, n5, n6⟩ := (show _ ∧ _ ∧ _ ∧ _ ∧ _ ∧ _ ∧ _ from ⟨kN2.out.cell 0, kN2.out.cell 1, kN2.out.cell 2, kN2.out.cell 3, kN2.out.cell 4, kN2.out.cell 5, kN2.out.cell 6⟩)
         have eS : S.toList.isEmpty = decide (bl S = []) := emptyS S
         obtain ⟨sz, hss⟩ : ∃ t, S.size = t := ⟨_, rfl⟩
         rw [hss] at hsz
         rcases (show k = 0 ∨ k = 1 ∨ k = 2 ∨ k = 3 ∨ k = 4 ∨ k = 5 ∨ k = 6 ∨ k = 7 by omega) with rfl | rfl | rfl | rfl | rfl | rfl | rfl | rfl
         all_goals clear hk
         all_goals have hszi : (sz : Int) ≤ 138 := by omega
         · have ej : _ = Value.int .i64 0 := ei
           subst ej
           clear ei
           have ix := fun w => (Tryz.ix7 (.int .i64 p0) (.int .i64 p1) (.int .i64 p2) (.int .i64 p3) (.int .i64 p4) (.int .i64 p5) (.int .i64 p6) w).1
           have HF := Lib.hid (fold_step (o := BO) G0.out)
           by_cases e0 : p0 = 0
           · have HE := Lib.hid (show stepO ((ZL.take 0).foldl stepO BO) ([109], p0) = (ZL.take 0).foldl stepO BO by unfold stepO; rw [if_pos e0])
             subst e0
             clear eS
             go_wp2
             go_roundw
             case rel => exact ⟨1, S, by omega, by go_num, rfl, by omega, Lib.hid (by rw [HF.out, HE.out]; exact hS.out), hB⟩
             case measure => simp [intOf]
           · have HE := Lib.hid (show stepO (bl S) ([109], p0) = (if bl S = [] then [] else bl S ++ [32]) ++ word [109] p0 by unfold stepO; rw [if_neg e0])
             by_cases e1 : p0 = 1
             · have hw1 : word [109] p0 = [109] := by unfold word; rw [if_pos e1]
               by_cases hS0 : bl S = []
               · rw [decide_eq_true hS0] at eS
                 have HV := Lib.hid (show bl (S ++ ⟨#[109]⟩) = stepO ((ZL.take 0).foldl stepO BO) ([109], p0) by rw [← hS.out, HE.out, hw1, if_pos hS0, bl_app, hS0]; rfl)
                 have HL := Lib.hid (show (S ++ ⟨#[109]⟩).size ≤ 82 + 8 * 1 by rw [ByteArray.size_append, hss]; show sz + 1 ≤ _; omega)
                 subst e1
                 clear hw1 e0 hS0
                 go_wp2
                 go_roundw
                 case rel => exact ⟨1, S ++ ⟨#[109]⟩, by omega, by go_num, rfl, HL.out, Lib.hid (by rw [HF.out]; exact HV.out), hB⟩
                 case measure => simp [intOf]
               · rw [decide_eq_false hS0] at eS
                 have HV := Lib.hid (show bl (S ++ ⟨#[32]⟩ ++ ⟨#[109]⟩) = stepO ((ZL.take 0).foldl stepO BO) ([109], p0) by rw [← hS.out, HE.out, hw1, if_neg hS0, bl_app, bl_app]; rfl)
                 have HL := Lib.hid (show (S ++ ⟨#[32]⟩ ++ ⟨#[109]⟩).size ≤ 82 + 8 * 1 by rw [ByteArray.size_append, ByteArray.size_append, hss]; show sz + 1 + 1 ≤ _; omega)
                 subst e1
                 clear hw1 e0 hS0
                 go_wp2
                 go_roundw
                 case rel => exact ⟨1, S ++ ⟨#[32]⟩ ++ ⟨#[109]⟩, by omega, by go_num, rfl, HL.out, Lib.hid (by rw [HF.out]; exact HV.out), hB⟩
                 case measure => simp [intOf]
             · have hw1 : word [109] p0 = [109] ++ 94 :: itl p0 := by unfold word; rw [if_neg e1]
               have IT := fun w' => rfrom_small p0 r0 w'
               obtain ⟨T, hT⟩ : ∃ T, toB (itl p0) = T := ⟨_, rfl⟩
               rw [hT] at IT
               have bT : bl T = itl p0 := by rw [← hT]; rfl
               have hTs : T.size ≤ 3 := by rw [← bl_len, bT]; exact itl_len r0
               obtain ⟨tz, htz⟩ : ∃ t, T.size = t := ⟨_, rfl⟩
               rw [htz] at hTs
               have htb : (tz : Int) ≤ 3 := by omega
               by_cases hS0 : bl S = []
               · rw [decide_eq_true hS0] at eS
                 have HV := Lib.hid (show bl (S ++ ⟨#[109]⟩ ++ (⟨#[94]⟩ ++ T)) = stepO ((ZL.take 0).foldl stepO BO) ([109], p0) by rw [← hS.out, HE.out, hw1, if_pos hS0, bl_app, bl_app, bl_app, hS0, bT]; rfl)
                 have HL := Lib.hid (show (S ++ ⟨#[109]⟩ ++ (⟨#[94]⟩ ++ T)).size ≤ 82 + 8 * 1 by rw [ByteArray.size_append, ByteArray.size_append, ByteArray.size_append, hss, htz]; show sz + 1 + (1 + tz) ≤ _; omega)
                 clear hw1 hS0 bT hT hTs
                 go_wp2_with (go_at_call 28; go_loud ((with_reducible refine (IT _).mono ?_); rintro e w3 ⟨rfl, hb⟩; have h3 := Lib.hid (btrans hB.out hb); clear hb))
                 go_roundw
                 case rel => exact ⟨1, S ++ ⟨#[109]⟩ ++ (⟨#[94]⟩ ++ T), by omega, by go_num, rfl, HL.out, Lib.hid (by rw [HF.out]; exact HV.out), h3⟩
                 case measure => simp [intOf]
               · rw [decide_eq_false hS0] at eS
                 have HV := Lib.hid (show bl (S ++ ⟨#[32]⟩ ++ ⟨#[109]⟩ ++ (⟨#[94]⟩ ++ T)) = stepO ((ZL.take 0).foldl stepO BO) ([109], p0) by rw [← hS.out, HE.out, hw1, if_neg hS0, bl_app, bl_app, bl_app, bl_app, bT, List.append_assoc _ _ (bl _ ++ _)]; rfl)
                 have HL := Lib.hid (show (S ++ ⟨#[32]⟩ ++ ⟨#[109]⟩ ++ (⟨#[94]⟩ ++ T)).size ≤ 82 + 8 * 1 by rw [ByteArray.size_append, ByteArray.size_append, ByteArray.size_append, ByteArray.size_append, hss, htz]; show sz + 1 + 1 + (1 + tz) ≤ _; omega)
                 clear hw1 hS0 bT hT hTs
                 go_wp2_with (go_at_call 28; go_loud ((with_reducible refine (IT _).mono ?_); rintro e w3 ⟨rfl, hb⟩; have h3 := Lib.hid (btrans hB.out hb); clear hb))
                 go_roundw
                 case rel => exact ⟨1, S ++ ⟨#[32]⟩ ++ ⟨#[109]⟩ ++ (⟨#[94]⟩ ++ T), by omega, by go_num, rfl, HL.out, Lib.hid (by rw [HF.out]; exact HV.out), h3⟩
                 case measure => simp [intOf]
         · have ej : _ = Value.int .i64 1 := ei
           subst ej
           clear ei
           have ix := fun w => (Tryz.ix7 (.int .i64 p0) (.int .i64 p1) (.int .i64 p2) (.int .i64 p3) (.int .i64 p4) (.int .i64 p5) (.int .i64 p6) w).2.1
           have HF := Lib.hid (fold_step (o := BO) G1.out)
           by_cases e0 : p1 = 0
           · have HE := Lib.hid (show stepO ((ZL.take 1).foldl stepO BO) ([107, 103], p1) = (ZL.take 1).foldl stepO BO by unfold stepO; rw [if_pos e0])
             subst e0
             clear eS
             go_wp2
             go_roundw
             case rel => exact ⟨2, S, by omega, by go_num, rfl, by omega, Lib.hid (by rw [HF.out, HE.out]; exact hS.out), hB⟩
             case measure => simp [intOf]
           · have HE := Lib.hid (show stepO (bl S) ([107, 103], p1) = (if bl S = [] then [] else bl S ++ [32]) ++ word [107, 103] p1 by unfold stepO; rw [if_neg e0])
             by_cases e1 : p1 = 1
             · have hw1 : word [107, 103] p1 = [107, 103] := by unfold word; rw [if_pos e1]
               by_cases hS0 : bl S = []
               · rw [decide_eq_true hS0] at eS
                 have HV := Lib.hid (show bl (S ++ ⟨#[107, 103]⟩) = stepO ((ZL.take 1).foldl stepO BO) ([107, 103], p1) by rw [← hS.out, HE.out, hw1, if_pos hS0, bl_app, hS0]; rfl)
                 have HL := Lib.hid (show (S ++ ⟨#[107, 103]⟩).size ≤ 82 + 8 * 2 by rw [ByteArray.size_append, hss]; show sz + 2 ≤ _; omega)
                 subst e1
                 clear hw1 e0 hS0
                 go_wp2
                 go_roundw
                 case rel => exact ⟨2, S ++ ⟨#[107, 103]⟩, by omega, by go_num, rfl, HL.out, Lib.hid (by rw [HF.out]; exact HV.out), hB⟩
                 case measure => simp [intOf]
               · rw [decide_eq_false hS0] at eS
                 have HV := Lib.hid (show bl (S ++ ⟨#[32]⟩ ++ ⟨#[107, 103]⟩) = stepO ((ZL.take 1).foldl stepO BO) ([107, 103], p1) by rw [← hS.out, HE.out, hw1, if_neg hS0, bl_app, bl_app]; rfl)
                 have HL := Lib.hid (show (S ++ ⟨#[32]⟩ ++ ⟨#[107, 103]⟩).size ≤ 82 + 8 * 2 by rw [ByteArray.size_append, ByteArray.size_append, hss]; show sz + 1 + 2 ≤ _; omega)
                 subst e1
                 clear hw1 e0 hS0
                 go_wp2
                 go_roundw
                 case rel => exact ⟨2, S ++ ⟨#[32]⟩ ++ ⟨#[107, 103]⟩, by omega, by go_num, rfl, HL.out, Lib.hid (by rw [HF.out]; exact HV.out), hB⟩
                 case measure => simp [intOf]
             · have hw1 : word [107, 103] p1 = [107, 103] ++ 94 :: itl p1 := by unfold word; rw [if_neg e1]
               have IT := fun w' => rfrom_small p1 r1 w'
               obtain ⟨T, hT⟩ : ∃ T, toB (itl p1) = T := ⟨_, rfl⟩
               rw [hT] at IT
               have bT : bl T = itl p1 := by rw [← hT]; rfl
               have hTs : T.size ≤ 3 := by rw [← bl_len, bT]; exact itl_len r1
               obtain ⟨tz, htz⟩ : ∃ t, T.size = t := ⟨_, rfl⟩
               rw [htz] at hTs
               have htb : (tz : Int) ≤ 3 := by omega
               by_cases hS0 : bl S = []
               · rw [decide_eq_true hS0] at eS
                 have HV := Lib.hid (show bl (S ++ ⟨#[107, 103]⟩ ++ (⟨#[94]⟩ ++ T)) = stepO ((ZL.take 1).foldl stepO BO) ([107, 103], p1) by rw [← hS.out, HE.out, hw1, if_pos hS0, bl_app, bl_app, bl_app, hS0, bT]; rfl)
                 have HL := Lib.hid (show (S ++ ⟨#[107, 103]⟩ ++ (⟨#[94]⟩ ++ T)).size ≤ 82 + 8 * 2 by rw [ByteArray.size_append, ByteArray.size_append, ByteArray.size_append, hss, htz]; show sz + 2 + (1 + tz) ≤ _; omega)
                 clear hw1 hS0 bT hT hTs
                 go_wp2_with (go_at_call 28; go_loud ((with_reducible refine (IT _).mono ?_); rintro e w3 ⟨rfl, hb⟩; have h3 := Lib.hid (btrans hB.out hb); clear hb))
                 go_roundw
                 case rel => exact ⟨2, S ++ ⟨#[107, 103]⟩ ++ (⟨#[94]⟩ ++ T), by omega, by go_num, rfl, HL.out, Lib.hid (by rw [HF.out]; exact HV.out), h3⟩
                 case measure => simp [intOf]
               · rw [decide_eq_false hS0] at eS
                 have HV := Lib.hid (show bl (S ++ ⟨#[32]⟩ ++ ⟨#[107, 103]⟩ ++ (⟨#[94]⟩ ++ T)) = stepO ((ZL.take 1).foldl stepO BO) ([107, 103], p1) by rw [← hS.out, HE.out, hw1, if_neg hS0, bl_app, bl_app, bl_app, bl_app, bT, List.append_assoc _ _ (bl _ ++ _)]; rfl)
                 have HL := Lib.hid (show (S ++ ⟨#[32]⟩ ++ ⟨#[107, 103]⟩ ++ (⟨#[94]⟩ ++ T)).size ≤ 82 + 8 * 2 by rw [ByteArray.size_append, ByteArray.size_append, ByteArray.size_append, ByteArray.size_append, hss, htz]; show sz + 1 + 2 + (1 + tz) ≤ _; omega)
                 clear hw1 hS0 bT hT hTs
                 go_wp2_with (go_at_call 28; go_loud ((with_reducible refine (IT _).mono ?_); rintro e w3 ⟨rfl, hb⟩; have h3 := Lib.hid (btrans hB.out hb); clear hb))
                 go_roundw
                 case rel => exact ⟨2, S ++ ⟨#[32]⟩ ++ ⟨#[107, 103]⟩ ++ (⟨#[94]⟩ ++ T), by omega, by go_num, rfl, HL.out, Lib.hid (by rw [HF.out]; exact HV.out), h3⟩
                 case measure => simp [intOf]
         · have ej : _ = Value.int .i64 2 := ei
           subst ej
           clear ei
           have ix := fun w => (Tryz.ix7 (.int .i64 p0) (.int .i64 p1) (.int .i64 p2) (.int .i64 p3) (.int .i64 p4) (.int .i64 p5) (.int .i64 p6) w).2.2.1
           have HF := Lib.hid (fold_step (o := BO) G2.out)
           by_cases e0 : p2 = 0
           · have HE := Lib.hid (show stepO ((ZL.take 2).foldl stepO BO) ([115], p2) = (ZL.take 2).foldl stepO BO by unfold stepO; rw [if_pos e0])
             subst e0
             clear eS
             go_wp2
             go_roundw
             case rel => exact ⟨3, S, by omega, by go_num, rfl, by omega, Lib.hid (by rw [HF.out, HE.out]; exact hS.out), hB⟩
             case measure => simp [intOf]
           · have HE := Lib.hid (show stepO (bl S) ([115], p2) = (if bl S = [] then [] else bl S ++ [32]) ++ word [115] p2 by unfold stepO; rw [if_neg e0])
             by_cases e1 : p2 = 1
             · have hw1 : word [115] p2 = [115] := by unfold word; rw [if_pos e1]
               by_cases hS0 : bl S = []
               · rw [decide_eq_true hS0] at eS
                 have HV := Lib.hid (show bl (S ++ ⟨#[115]⟩) = stepO ((ZL.take 2).foldl stepO BO) ([115], p2) by rw [← hS.out, HE.out, hw1, if_pos hS0, bl_app, hS0]; rfl)
                 have HL := Lib.hid (show (S ++ ⟨#[115]⟩).size ≤ 82 + 8 * 3 by rw [ByteArray.size_append, hss]; show sz + 1 ≤ _; omega)
                 subst e1
                 clear hw1 e0 hS0
                 go_wp2
                 go_roundw
                 case rel => exact ⟨3, S ++ ⟨#[115]⟩, by omega, by go_num, rfl, HL.out, Lib.hid (by rw [HF.out]; exact HV.out), hB⟩
                 case measure => simp [intOf]
               · rw [decide_eq_false hS0] at eS
                 have HV := Lib.hid (show bl (S ++ ⟨#[32]⟩ ++ ⟨#[115]⟩) = stepO ((ZL.take 2).foldl stepO BO) ([115], p2) by rw [← hS.out, HE.out, hw1, if_neg hS0, bl_app, bl_app]; rfl)
                 have HL := Lib.hid (show (S ++ ⟨#[32]⟩ ++ ⟨#[115]⟩).size ≤ 82 + 8 * 3 by rw [ByteArray.size_append, ByteArray.size_append, hss]; show sz + 1 + 1 ≤ _; omega)
                 subst e1
                 clear hw1 e0 hS0
                 go_wp2
                 go_roundw
                 case rel => exact ⟨3, S ++ ⟨#[32]⟩ ++ ⟨#[115]⟩, by omega, by go_num, rfl, HL.out, Lib.hid (by rw [HF.out]; exact HV.out), hB⟩
                 case measure => simp [intOf]
             · have hw1 : word [115] p2 = [115] ++ 94 :: itl p2 := by unfold word; rw [if_neg e1]
               have IT := fun w' => rfrom_small p2 r2 w'
               obtain ⟨T, hT⟩ : ∃ T, toB (itl p2) = T := ⟨_, rfl⟩
               rw [hT] at IT
               have bT : bl T = itl p2 := by rw [← hT]; rfl
               have hTs : T.size ≤ 3 := by rw [← bl_len, bT]; exact itl_len r2
               obtain ⟨tz, htz⟩ : ∃ t, T.size = t := ⟨_, rfl⟩
               rw [htz] at hTs
               have htb : (tz : Int) ≤ 3 := by omega
               by_cases hS0 : bl S = []
               · rw [decide_eq_true hS0] at eS
                 have HV := Lib.hid (show bl (S ++ ⟨#[115]⟩ ++ (⟨#[94]⟩ ++ T)) = stepO ((ZL.take 2).foldl stepO BO) ([115], p2) by rw [← hS.out, HE.out, hw1, if_pos hS0, bl_app, bl_app, bl_app, hS0, bT]; rfl)
                 have HL := Lib.hid (show (S ++ ⟨#[115]⟩ ++ (⟨#[94]⟩ ++ T)).size ≤ 82 + 8 * 3 by rw [ByteArray.size_append, ByteArray.size_append, ByteArray.size_append, hss, htz]; show sz + 1 + (1 + tz) ≤ _; omega)
                 clear hw1 hS0 bT hT hTs
                 go_wp2_with (go_at_call 28; go_loud ((with_reducible refine (IT _).mono ?_); rintro e w3 ⟨rfl, hb⟩; have h3 := Lib.hid (btrans hB.out hb); clear hb))
                 go_roundw
                 case rel => exact ⟨3, S ++ ⟨#[115]⟩ ++ (⟨#[94]⟩ ++ T), by omega, by go_num, rfl, HL.out, Lib.hid (by rw [HF.out]; exact HV.out), h3⟩
                 case measure => simp [intOf]
               · rw [decide_eq_false hS0] at eS
                 have HV := Lib.hid (show bl (S ++ ⟨#[32]⟩ ++ ⟨#[115]⟩ ++ (⟨#[94]⟩ ++ T)) = stepO ((ZL.take 2).foldl stepO BO) ([115], p2) by rw [← hS.out, HE.out, hw1, if_neg hS0, bl_app, bl_app, bl_app, bl_app, bT, List.append_assoc _ _ (bl _ ++ _)]; rfl)
                 have HL := Lib.hid (show (S ++ ⟨#[32]⟩ ++ ⟨#[115]⟩ ++ (⟨#[94]⟩ ++ T)).size ≤ 82 + 8 * 3 by rw [ByteArray.size_append, ByteArray.size_append, ByteArray.size_append, ByteArray.size_append, hss, htz]; show sz + 1 + 1 + (1 + tz) ≤ _; omega)
                 clear hw1 hS0 bT hT hTs
                 go_wp2_with (go_at_call 28; go_loud ((with_reducible refine (IT _).mono ?_); rintro e w3 ⟨rfl, hb⟩; have h3 := Lib.hid (btrans hB.out hb); clear hb))
                 go_roundw
                 case rel => exact ⟨3, S ++ ⟨#[32]⟩ ++ ⟨#[115]⟩ ++ (⟨#[94]⟩ ++ T), by omega, by go_num, rfl, HL.out, Lib.hid (by rw [HF.out]; exact HV.out), h3⟩
                 case measure => simp [intOf]
         · have ej : _ = Value.int .i64 3 := ei
           subst ej
           clear ei
           have ix := fun w => (Tryz.ix7 (.int .i64 p0) (.int .i64 p1) (.int .i64 p2) (.int .i64 p3) (.int .i64 p4) (.int .i64 p5) (.int .i64 p6) w).2.2.2.1
           have HF := Lib.hid (fold_step (o := BO) G3.out)
           by_cases e0 : p3 = 0
           · have HE := Lib.hid (show stepO ((ZL.take 3).foldl stepO BO) ([75], p3) = (ZL.take 3).foldl stepO BO by unfold stepO; rw [if_pos e0])
             subst e0
             clear eS
             go_wp2
             go_roundw
             case rel => exact ⟨4, S, by omega, by go_num, rfl, by omega, Lib.hid (by rw [HF.out, HE.out]; exact hS.out), hB⟩
             case measure => simp [intOf]
           · have HE := Lib.hid (show stepO (bl S) ([75], p3) = (if bl S = [] then [] else bl S ++ [32]) ++ word [75] p3 by unfold stepO; rw [if_neg e0])
             by_cases e1 : p3 = 1
             · have hw1 : word [75] p3 = [75] := by unfold word; rw [if_pos e1]
               by_cases hS0 : bl S = []
               · rw [decide_eq_true hS0] at eS
                 have HV := Lib.hid (show bl (S ++ ⟨#[75]⟩) = stepO ((ZL.take 3).foldl stepO BO) ([75], p3) by rw [← hS.out, HE.out, hw1, if_pos hS0, bl_app, hS0]; rfl)
                 have HL := Lib.hid (show (S ++ ⟨#[75]⟩).size ≤ 82 + 8 * 4 by rw [ByteArray.size_append, hss]; show sz + 1 ≤ _; omega)
                 subst e1
                 clear hw1 e0 hS0
                 go_wp2
                 go_roundw
                 case rel => exact ⟨4, S ++ ⟨#[75]⟩, by omega, by go_num, rfl, HL.out, Lib.hid (by rw [HF.out]; exact HV.out), hB⟩
                 case measure => simp [intOf]
               · rw [decide_eq_false hS0] at eS
                 have HV := Lib.hid (show bl (S ++ ⟨#[32]⟩ ++ ⟨#[75]⟩) = stepO ((ZL.take 3).foldl stepO BO) ([75], p3) by rw [← hS.out, HE.out, hw1, if_neg hS0, bl_app, bl_app]; rfl)
                 have HL := Lib.hid (show (S ++ ⟨#[32]⟩ ++ ⟨#[75]⟩).size ≤ 82 + 8 * 4 by rw [ByteArray.size_append, ByteArray.size_append, hss]; show sz + 1 + 1 ≤ _; omega)
                 subst e1
                 clear hw1 e0 hS0
                 go_wp2
                 go_roundw
                 case rel => exact ⟨4, S ++ ⟨#[32]⟩ ++ ⟨#[75]⟩, by omega, by go_num, rfl, HL.out, Lib.hid (by rw [HF.out]; exact HV.out), hB⟩
                 case measure => simp [intOf]
             · have hw1 : word [75] p3 = [75] ++ 94 :: itl p3 := by unfold word; rw [if_neg e1]
               have IT := fun w' => rfrom_small p3 r3 w'
               obtain ⟨T, hT⟩ : ∃ T, toB (itl p3) = T := ⟨_, rfl⟩
               rw [hT] at IT
               have bT : bl T = itl p3 := by rw [← hT]; rfl
               have hTs : T.size ≤ 3 := by rw [← bl_len, bT]; exact itl_len r3
               obtain ⟨tz, htz⟩ : ∃ t, T.size = t := ⟨_, rfl⟩
               rw [htz] at hTs
               have htb : (tz : Int) ≤ 3 := by omega
               by_cases hS0 : bl S = []
               · rw [decide_eq_true hS0] at eS
                 have HV := Lib.hid (show bl (S ++ ⟨#[75]⟩ ++ (⟨#[94]⟩ ++ T)) = stepO ((ZL.take 3).foldl stepO BO) ([75], p3) by rw [← hS.out, HE.out, hw1, if_pos hS0, bl_app, bl_app, bl_app, hS0, bT]; rfl)
                 have HL := Lib.hid (show (S ++ ⟨#[75]⟩ ++ (⟨#[94]⟩ ++ T)).size ≤ 82 + 8 * 4 by rw [ByteArray.size_append, ByteArray.size_append, ByteArray.size_append, hss, htz]; show sz + 1 + (1 + tz) ≤ _; omega)
                 clear hw1 hS0 bT hT hTs
                 go_wp2_with (go_at_call 28; go_loud ((with_reducible refine (IT _).mono ?_); rintro e w3 ⟨rfl, hb⟩; have h3 := Lib.hid (btrans hB.out hb); clear hb))
                 go_roundw
                 case rel => exact ⟨4, S ++ ⟨#[75]⟩ ++ (⟨#[94]⟩ ++ T), by omega, by go_num, rfl, HL.out, Lib.hid (by rw [HF.out]; exact HV.out), h3⟩
                 case measure => simp [intOf]
               · rw [decide_eq_false hS0] at eS
                 have HV := Lib.hid (show bl (S ++ ⟨#[32]⟩ ++ ⟨#[75]⟩ ++ (⟨#[94]⟩ ++ T)) = stepO ((ZL.take 3).foldl stepO BO) ([75], p3) by rw [← hS.out, HE.out, hw1, if_neg hS0, bl_app, bl_app, bl_app, bl_app, bT, List.append_assoc _ _ (bl _ ++ _)]; rfl)
                 have HL := Lib.hid (show (S ++ ⟨#[32]⟩ ++ ⟨#[75]⟩ ++ (⟨#[94]⟩ ++ T)).size ≤ 82 + 8 * 4 by rw [ByteArray.size_append, ByteArray.size_append, ByteArray.size_append, ByteArray.size_append, hss, htz]; show sz + 1 + 1 + (1 + tz) ≤ _; omega)
                 clear hw1 hS0 bT hT hTs
                 go_wp2_with (go_at_call 28; go_loud ((with_reducible refine (IT _).mono ?_); rintro e w3 ⟨rfl, hb⟩; have h3 := Lib.hid (btrans hB.out hb); clear hb))
                 go_roundw
                 case rel => exact ⟨4, S ++ ⟨#[32]⟩ ++ ⟨#[75]⟩ ++ (⟨#[94]⟩ ++ T), by omega, by go_num, rfl, HL.out, Lib.hid (by rw [HF.out]; exact HV.out), h3⟩
                 case measure => simp [intOf]
         · have ej : _ = Value.int .i64 4 := ei
           subst ej
           clear ei
           have ix := fun w => (Tryz.ix7 (.int .i64 p0) (.int .i64 p1) (.int .i64 p2) (.int .i64 p3) (.int .i64 p4) (.int .i64 p5) (.int .i64 p6) w).2.2.2.2.1
           have HF := Lib.hid (fold_step (o := BO) G4.out)
           by_cases e0 : p4 = 0
           · have HE := Lib.hid (show stepO ((ZL.take 4).foldl stepO BO) ([109, 111, 108], p4) = (ZL.take 4).foldl stepO BO by unfold stepO; rw [if_pos e0])
             subst e0
             clear eS
             go_wp2
             go_roundw
             case rel => exact ⟨5, S, by omega, by go_num, rfl, by omega, Lib.hid (by rw [HF.out, HE.out]; exact hS.out), hB⟩
             case measure => simp [intOf]
           · have HE := Lib.hid (show stepO (bl S) ([109, 111, 108], p4) = (if bl S = [] then [] else bl S ++ [32]) ++ word [109, 111, 108] p4 by unfold stepO; rw [if_neg e0])
             by_cases e1 : p4 = 1
             · have hw1 : word [109, 111, 108] p4 = [109, 111, 108] := by unfold word; rw [if_pos e1]
               by_cases hS0 : bl S = []
               · rw [decide_eq_true hS0] at eS
                 have HV := Lib.hid (show bl (S ++ ⟨#[109, 111, 108]⟩) = stepO ((ZL.take 4).foldl stepO BO) ([109, 111, 108], p4) by rw [← hS.out, HE.out, hw1, if_pos hS0, bl_app, hS0]; rfl)
                 have HL := Lib.hid (show (S ++ ⟨#[109, 111, 108]⟩).size ≤ 82 + 8 * 5 by rw [ByteArray.size_append, hss]; show sz + 3 ≤ _; omega)
                 subst e1
                 clear hw1 e0 hS0
                 go_wp2
                 go_roundw
                 case rel => exact ⟨5, S ++ ⟨#[109, 111, 108]⟩, by omega, by go_num, rfl, HL.out, Lib.hid (by rw [HF.out]; exact HV.out), hB⟩
                 case measure => simp [intOf]
               · rw [decide_eq_false hS0] at eS
                 have HV := Lib.hid (show bl (S ++ ⟨#[32]⟩ ++ ⟨#[109, 111, 108]⟩) = stepO ((ZL.take 4).foldl stepO BO) ([109, 111, 108], p4) by rw [← hS.out, HE.out, hw1, if_neg hS0, bl_app, bl_app]; rfl)
                 have HL := Lib.hid (show (S ++ ⟨#[32]⟩ ++ ⟨#[109, 111, 108]⟩).size ≤ 82 + 8 * 5 by rw [ByteArray.size_append, ByteArray.size_append, hss]; show sz + 1 + 3 ≤ _; omega)
                 subst e1
                 clear hw1 e0 hS0
                 go_wp2
                 go_roundw
                 case rel => exact ⟨5, S ++ ⟨#[32]⟩ ++ ⟨#[109, 111, 108]⟩, by omega, by go_num, rfl, HL.out, Lib.hid (by rw [HF.out]; exact HV.out), hB⟩
                 case measure => simp [intOf]
             · have hw1 : word [109, 111, 108] p4 = [109, 111, 108] ++ 94 :: itl p4 := by unfold word; rw [if_neg e1]
               have IT := fun w' => rfrom_small p4 r4 w'
               obtain ⟨T, hT⟩ : ∃ T, toB (itl p4) = T := ⟨_, rfl⟩
               rw [hT] at IT
               have bT : bl T = itl p4 := by rw [← hT]; rfl
               have hTs : T.size ≤ 3 := by rw [← bl_len, bT]; exact itl_len r4
               obtain ⟨tz, htz⟩ : ∃ t, T.size = t := ⟨_, rfl⟩
               rw [htz] at hTs
               have htb : (tz : Int) ≤ 3 := by omega
               by_cases hS0 : bl S = []
               · rw [decide_eq_true hS0] at eS
                 have HV := Lib.hid (show bl (S ++ ⟨#[109, 111, 108]⟩ ++ (⟨#[94]⟩ ++ T)) = stepO ((ZL.take 4).foldl stepO BO) ([109, 111, 108], p4) by rw [← hS.out, HE.out, hw1, if_pos hS0, bl_app, bl_app, bl_app, hS0, bT]; rfl)
                 have HL := Lib.hid (show (S ++ ⟨#[109, 111, 108]⟩ ++ (⟨#[94]⟩ ++ T)).size ≤ 82 + 8 * 5 by rw [ByteArray.size_append, ByteArray.size_append, ByteArray.size_append, hss, htz]; show sz + 3 + (1 + tz) ≤ _; omega)
                 clear hw1 hS0 bT hT hTs
                 go_wp2_with (go_at_call 28; go_loud ((with_reducible refine (IT _).mono ?_); rintro e w3 ⟨rfl, hb⟩; have h3 := Lib.hid (btrans hB.out hb); clear hb))
                 go_roundw
                 case rel => exact ⟨5, S ++ ⟨#[109, 111, 108]⟩ ++ (⟨#[94]⟩ ++ T), by omega, by go_num, rfl, HL.out, Lib.hid (by rw [HF.out]; exact HV.out), h3⟩
                 case measure => simp [intOf]
               · rw [decide_eq_false hS0] at eS
                 have HV := Lib.hid (show bl (S ++ ⟨#[32]⟩ ++ ⟨#[109, 111, 108]⟩ ++ (⟨#[94]⟩ ++ T)) = stepO ((ZL.take 4).foldl stepO BO) ([109, 111, 108], p4) by rw [← hS.out, HE.out, hw1, if_neg hS0, bl_app, bl_app, bl_app, bl_app, bT, List.append_assoc _ _ (bl _ ++ _)]; rfl)
                 have HL := Lib.hid (show (S ++ ⟨#[32]⟩ ++ ⟨#[109, 111, 108]⟩ ++ (⟨#[94]⟩ ++ T)).size ≤ 82 + 8 * 5 by rw [ByteArray.size_append, ByteArray.size_append, ByteArray.size_append, ByteArray.size_append, hss, htz]; show sz + 1 + 3 + (1 + tz) ≤ _; omega)
                 clear hw1 hS0 bT hT hTs
                 go_wp2_with (go_at_call 28; go_loud ((with_reducible refine (IT _).mono ?_); rintro e w3 ⟨rfl, hb⟩; have h3 := Lib.hid (btrans hB.out hb); clear hb))
                 go_roundw
                 case rel => exact ⟨5, S ++ ⟨#[32]⟩ ++ ⟨#[109, 111, 108]⟩ ++ (⟨#[94]⟩ ++ T), by omega, by go_num, rfl, HL.out, Lib.hid (by rw [HF.out]; exact HV.out), h3⟩
                 case measure => simp [intOf]
         · have ej : _ = Value.int .i64 5 := ei
           subst ej
           clear ei
           have ix := fun w => (Tryz.ix7 (.int .i64 p0) (.int .i64 p1) (.int .i64 p2) (.int .i64 p3) (.int .i64 p4) (.int .i64 p5) (.int .i64 p6) w).2.2.2.2.2.1
           have HF := Lib.hid (fold_step (o := BO) G5.out)
           by_cases e0 : p5 = 0
           · have HE := Lib.hid (show stepO ((ZL.take 5).foldl stepO BO) ([65], p5) = (ZL.take 5).foldl stepO BO by unfold stepO; rw [if_pos e0])
             subst e0
             clear eS
             go_wp2
             go_roundw
             case rel => exact ⟨6, S, by omega, by go_num, rfl, by omega, Lib.hid (by rw [HF.out, HE.out]; exact hS.out), hB⟩
             case measure => simp [intOf]
           · have HE := Lib.hid (show stepO (bl S) ([65], p5) = (if bl S = [] then [] else bl S ++ [32]) ++ word [65] p5 by unfold stepO; rw [if_neg e0])
             by_cases e1 : p5 = 1
             · have hw1 : word [65] p5 = [65] := by unfold word; rw [if_pos e1]
               by_cases hS0 : bl S = []
               · rw [decide_eq_true hS0] at eS
                 have HV := Lib.hid (show bl (S ++ ⟨#[65]⟩) = stepO ((ZL.take 5).foldl stepO BO) ([65], p5) by rw [← hS.out, HE.out, hw1, if_pos hS0, bl_app, hS0]; rfl)
                 have HL := Lib.hid (show (S ++ ⟨#[65]⟩).size ≤ 82 + 8 * 6 by rw [ByteArray.size_append, hss]; show sz + 1 ≤ _; omega)
                 subst e1
                 clear hw1 e0 hS0
                 go_wp2
                 go_roundw
                 case rel => exact ⟨6, S ++ ⟨#[65]⟩, by omega, by go_num, rfl, HL.out, Lib.hid (by rw [HF.out]; exact HV.out), hB⟩
                 case measure => simp [intOf]
               · rw [decide_eq_false hS0] at eS
                 have HV := Lib.hid (show bl (S ++ ⟨#[32]⟩ ++ ⟨#[65]⟩) = stepO ((ZL.take 5).foldl stepO BO) ([65], p5) by rw [← hS.out, HE.out, hw1, if_neg hS0, bl_app, bl_app]; rfl)
                 have HL := Lib.hid (show (S ++ ⟨#[32]⟩ ++ ⟨#[65]⟩).size ≤ 82 + 8 * 6 by rw [ByteArray.size_append, ByteArray.size_append, hss]; show sz + 1 + 1 ≤ _; omega)
                 subst e1
                 clear hw1 e0 hS0
                 go_wp2
                 go_roundw
                 case rel => exact ⟨6, S ++ ⟨#[32]⟩ ++ ⟨#[65]⟩, by omega, by go_num, rfl, HL.out, Lib.hid (by rw [HF.out]; exact HV.out), hB⟩
                 case measure => simp [intOf]
             · have hw1 : word [65] p5 = [65] ++ 94 :: itl p5 := by unfold word; rw [if_neg e1]
               have IT := fun w' => rfrom_small p5 r5 w'
               obtain ⟨T, hT⟩ : ∃ T, toB (itl p5) = T := ⟨_, rfl⟩
               rw [hT] at IT
               have bT : bl T = itl p5 := by rw [← hT]; rfl
               have hTs : T.size ≤ 3 := by rw [← bl_len, bT]; exact itl_len r5
               obtain ⟨tz, htz⟩ : ∃ t, T.size = t := ⟨_, rfl⟩
               rw [htz] at hTs
               have htb : (tz : Int) ≤ 3 := by omega
               by_cases hS0 : bl S = []
               · rw [decide_eq_true hS0] at eS
                 have HV := Lib.hid (show bl (S ++ ⟨#[65]⟩ ++ (⟨#[94]⟩ ++ T)) = stepO ((ZL.take 5).foldl stepO BO) ([65], p5) by rw [← hS.out, HE.out, hw1, if_pos hS0, bl_app, bl_app, bl_app, hS0, bT]; rfl)
                 have HL := Lib.hid (show (S ++ ⟨#[65]⟩ ++ (⟨#[94]⟩ ++ T)).size ≤ 82 + 8 * 6 by rw [ByteArray.size_append, ByteArray.size_append, ByteArray.size_append, hss, htz]; show sz + 1 + (1 + tz) ≤ _; omega)
                 clear hw1 hS0 bT hT hTs
                 go_wp2_with (go_at_call 28; go_loud ((with_reducible refine (IT _).mono ?_); rintro e w3 ⟨rfl, hb⟩; have h3 := Lib.hid (btrans hB.out hb); clear hb))
                 go_roundw
                 case rel => exact ⟨6, S ++ ⟨#[65]⟩ ++ (⟨#[94]⟩ ++ T), by omega, by go_num, rfl, HL.out, Lib.hid (by rw [HF.out]; exact HV.out), h3⟩
                 case measure => simp [intOf]
               · rw [decide_eq_false hS0] at eS
                 have HV := Lib.hid (show bl (S ++ ⟨#[32]⟩ ++ ⟨#[65]⟩ ++ (⟨#[94]⟩ ++ T)) = stepO ((ZL.take 5).foldl stepO BO) ([65], p5) by rw [← hS.out, HE.out, hw1, if_neg hS0, bl_app, bl_app, bl_app, bl_app, bT, List.append_assoc _ _ (bl _ ++ _)]; rfl)
                 have HL := Lib.hid (show (S ++ ⟨#[32]⟩ ++ ⟨#[65]⟩ ++ (⟨#[94]⟩ ++ T)).size ≤ 82 + 8 * 6 by rw [ByteArray.size_append, ByteArray.size_append, ByteArray.size_append, ByteArray.size_append, hss, htz]; show sz + 1 + 1 + (1 + tz) ≤ _; omega)
                 clear hw1 hS0 bT hT hTs
                 go_wp2_with (go_at_call 28; go_loud ((with_reducible refine (IT _).mono ?_); rintro e w3 ⟨rfl, hb⟩; have h3 := Lib.hid (btrans hB.out hb); clear hb))
                 go_roundw
                 case rel => exact ⟨6, S ++ ⟨#[32]⟩ ++ ⟨#[65]⟩ ++ (⟨#[94]⟩ ++ T), by omega, by go_num, rfl, HL.out, Lib.hid (by rw [HF.out]; exact HV.out), h3⟩
                 case measure => simp [intOf]
         · have ej : _ = Value.int .i64 6 := ei
           subst ej
           clear ei
           have ix := fun w => (Tryz.ix7 (.int .i64 p0) (.int .i64 p1) (.int .i64 p2) (.int .i64 p3) (.int .i64 p4) (.int .i64 p5) (.int .i64 p6) w).2.2.2.2.2.2
           have HF := Lib.hid (fold_step (o := BO) G6.out)
           by_cases e0 : p6 = 0
           · have HE := Lib.hid (show stepO ((ZL.take 6).foldl stepO BO) ([99, 100], p6) = (ZL.take 6).foldl stepO BO by unfold stepO; rw [if_pos e0])
             subst e0
             clear eS
             go_wp2
             go_roundw
             case rel => exact ⟨7, S, by omega, by go_num, rfl, by omega, Lib.hid (by rw [HF.out, HE.out]; exact hS.out), hB⟩
             case measure => simp [intOf]
           · have HE := Lib.hid (show stepO (bl S) ([99, 100], p6) = (if bl S = [] then [] else bl S ++ [32]) ++ word [99, 100] p6 by unfold stepO; rw [if_neg e0])
             by_cases e1 : p6 = 1
             · have hw1 : word [99, 100] p6 = [99, 100] := by unfold word; rw [if_pos e1]
               by_cases hS0 : bl S = []
               · rw [decide_eq_true hS0] at eS
                 have HV := Lib.hid (show bl (S ++ ⟨#[99, 100]⟩) = stepO ((ZL.take 6).foldl stepO BO) ([99, 100], p6) by rw [← hS.out, HE.out, hw1, if_pos hS0, bl_app, hS0]; rfl)
                 have HL := Lib.hid (show (S ++ ⟨#[99, 100]⟩).size ≤ 82 + 8 * 7 by rw [ByteArray.size_append, hss]; show sz + 2 ≤ _; omega)
                 subst e1
                 clear hw1 e0 hS0
                 go_wp2
                 go_roundw
                 case rel => exact ⟨7, S ++ ⟨#[99, 100]⟩, by omega, by go_num, rfl, HL.out, Lib.hid (by rw [HF.out]; exact HV.out), hB⟩
                 case measure => simp [intOf]
               · rw [decide_eq_false hS0] at eS
                 have HV := Lib.hid (show bl (S ++ ⟨#[32]⟩ ++ ⟨#[99, 100]⟩) = stepO ((ZL.take 6).foldl stepO BO) ([99, 100], p6) by rw [← hS.out, HE.out, hw1, if_neg hS0, bl_app, bl_app]; rfl)
                 have HL := Lib.hid (show (S ++ ⟨#[32]⟩ ++ ⟨#[99, 100]⟩).size ≤ 82 + 8 * 7 by rw [ByteArray.size_append, ByteArray.size_append, hss]; show sz + 1 + 2 ≤ _; omega)
                 subst e1
                 clear hw1 e0 hS0
                 go_wp2
                 go_roundw
                 case rel => exact ⟨7, S ++ ⟨#[32]⟩ ++ ⟨#[99, 100]⟩, by omega, by go_num, rfl, HL.out, Lib.hid (by rw [HF.out]; exact HV.out), hB⟩
                 case measure => simp [intOf]
             · have hw1 : word [99, 100] p6 = [99, 100] ++ 94 :: itl p6 := by unfold word; rw [if_neg e1]
               have IT := fun w' => rfrom_small p6 r6 w'
               obtain ⟨T, hT⟩ : ∃ T, toB (itl p6) = T := ⟨_, rfl⟩
               rw [hT] at IT
               have bT : bl T = itl p6 := by rw [← hT]; rfl
               have hTs : T.size ≤ 3 := by rw [← bl_len, bT]; exact itl_len r6
               obtain ⟨tz, htz⟩ : ∃ t, T.size = t := ⟨_, rfl⟩
               rw [htz] at hTs
               have htb : (tz : Int) ≤ 3 := by omega
               by_cases hS0 : bl S = []
               · rw [decide_eq_true hS0] at eS
                 have HV := Lib.hid (show bl (S ++ ⟨#[99, 100]⟩ ++ (⟨#[94]⟩ ++ T)) = stepO ((ZL.take 6).foldl stepO BO) ([99, 100], p6) by rw [← hS.out, HE.out, hw1, if_pos hS0, bl_app, bl_app, bl_app, hS0, bT]; rfl)
                 have HL := Lib.hid (show (S ++ ⟨#[99, 100]⟩ ++ (⟨#[94]⟩ ++ T)).size ≤ 82 + 8 * 7 by rw [ByteArray.size_append, ByteArray.size_append, ByteArray.size_append, hss, htz]; show sz + 2 + (1 + tz) ≤ _; omega)
                 clear hw1 hS0 bT hT hTs
                 go_wp2_with (go_at_call 28; go_loud ((with_reducible refine (IT _).mono ?_); rintro e w3 ⟨rfl, hb⟩; have h3 := Lib.hid (btrans hB.out hb); clear hb))
                 go_roundw
                 case rel => exact ⟨7, S ++ ⟨#[99, 100]⟩ ++ (⟨#[94]⟩ ++ T), by omega, by go_num, rfl, HL.out, Lib.hid (by rw [HF.out]; exact HV.out), h3⟩
                 case measure => simp [intOf]
               · rw [decide_eq_false hS0] at eS
                 have HV := Lib.hid (show bl (S ++ ⟨#[32]⟩ ++ ⟨#[99, 100]⟩ ++ (⟨#[94]⟩ ++ T)) = stepO ((ZL.take 6).foldl stepO BO) ([99, 100], p6) by rw [← hS.out, HE.out, hw1, if_neg hS0, bl_app, bl_app, bl_app, bl_app, bT, List.append_assoc _ _ (bl _ ++ _)]; rfl)
                 have HL := Lib.hid (show (S ++ ⟨#[32]⟩ ++ ⟨#[99, 100]⟩ ++ (⟨#[94]⟩ ++ T)).size ≤ 82 + 8 * 7 by rw [ByteArray.size_append, ByteArray.size_append, ByteArray.size_append, ByteArray.size_append, hss, htz]; show sz + 1 + 2 + (1 + tz) ≤ _; omega)
                 clear hw1 hS0 bT hT hTs
                 go_wp2_with (go_at_call 28; go_loud ((with_reducible refine (IT _).mono ?_); rintro e w3 ⟨rfl, hb⟩; have h3 := Lib.hid (btrans hB.out hb); clear hb))
                 go_roundw
                 case rel => exact ⟨7, S ++ ⟨#[32]⟩ ++ ⟨#[99, 100]⟩ ++ (⟨#[94]⟩ ++ T), by omega, by go_num, rfl, HL.out, Lib.hid (by rw [HF.out]; exact HV.out), h3⟩
                 case measure => simp [intOf]
         · have ej : _ = Value.int .i64 7 := ei
           subst ej
           clear ei
           have hE := hS.out
           rw [G7.out] at hE
           have bE := Lib.hid (btrans bU.out hB.out)
           have HE := Lib.hid (show toB (ZL.foldl stepO BO) = S by rw [← hE]; rfl)
           clear n0 n1 n2 n3 n4 n5 n6 eS hE
           go_wp2
           go_ret2
           exact ⟨by rw [HE.out]; rfl, bE.out⟩

end Go.Proofs.YtinoipjblkidfaaGreatDoor

/- The law on valid units and their texts: its walk. -/
namespace Go.Proofs.YtinoipjblkidfaaGreatDoor
open Go.RowKit Go.Proofs.YtinoipjblkidfaaGreatDoor.Dg Go.Proofs.YtinoipjblkidfaaGreatDoor.Q Go.Proofs.YtinoipjblkidfaaGreatDoor.Num

theorem KU.bel {w w1 : World} {F O : ByteArray} {p : P7} (h : KU w w1 F O p) : Below w.heap.size w w1 := h.2.1
theorem KU.nine {w w' : World} {F O : ByteArray} {p0 p1 p2 p3 p4 p5 p6 : Int} (h : KU w w' F O ⟨p0, p1, p2, p3, p4, p5, p6⟩) : w'.cell? ⟨w.heap.size, 0, none⟩ = some (.string F) ∧ w'.cell? ⟨w.heap.size, 1, none⟩ = some (.string O) ∧ w'.cell? ⟨w.heap.size, 2, none⟩ = some (.int .i64 p0) ∧ w'.cell? ⟨w.heap.size, 3, none⟩ = some (.int .i64 p1) ∧ w'.cell? ⟨w.heap.size, 4, none⟩ = some (.int .i64 p2) ∧ w'.cell? ⟨w.heap.size, 5, none⟩ = some (.int .i64 p3) ∧ w'.cell? ⟨w.heap.size, 6, none⟩ = some (.int .i64 p4) ∧ w'.cell? ⟨w.heap.size, 7, none⟩ = some (.int .i64 p5) ∧ w'.cell? ⟨w.heap.size, 8, none⟩ = some (.int .i64 p6) := h.1.cells
theorem bl_eta' (S : ByteArray) : (⟨(bl S).toArray⟩ : ByteArray) = S := by cases S; rfl
theorem fmtU_len {F : List UInt8} {p : P7} (h : plainU F [48] p = true) : (fmtU F p).length ≤ 1000 := by
  have hp := punit_fmt h
  unfold punit at hp
  by_cases h1 : 1000 < (fmtU F p).length
  · rw [if_pos h1] at hp
    have := congrArg Prod.snd hp
    cases this
  · omega

set_option maxRecDepth 100000 in
set_option maxHeartbeats 12800000 in
theorem formats_walk (F O : ByteArray) (p : P7) (h1a : F.size ≤ 9223372036854775807) (h1b : O.size ≤ 9223372036854775807) (w : World) (hw : Wf w) :
    Calls Tryz.prog 16 #[uv F O p] w fun e w' => e = .returned (.bool true) ∧ Below w.heap.size w w' := by
  have k0 := Lib.hid (KU.start w F O p)
  have AW := fun w' (hb : Below w.heap.size w w') => awake_any w' (hw.up hb)
  have F1 := fun w' (hb : Below w.heap.size w w') => qformat_any F O p h1a h1b w' (hw.up hb)
  have F2 := fun w' => rformat_any F O p h1a h1b w'
  have V1 := fun w' (hb : Below w.heap.size w w') => validU_any F O p h1a h1b w' (hw.up hb)
  have V2 := fun w' => rvalidU_any F O p h1a h1b w'
  cases hp : plainU (bl F) (bl O) p
  · have hf : fmtR (bl F) (bl O) p = ([], 10) := by unfold fmtR; rw [hp]; rfl
    rw [hf] at F1 F2
    dsimp only at F1 F2
    generalize vU (bl F) (bl O) p = vb at *
    obtain ⟨T, hT⟩ : ∃ T, toB [] = T := ⟨_, rfl⟩
    rw [hT] at F1 F2
    have sS : (T.toList == T.toList) = true := by rw [toList_eq]; exact decide_eq_true rfl
    clear hp hf h1a h1b hw hT
    obtain ⟨p0, p1, p2, p3, p4, p5, p6⟩ := p
    unfold uv at *
    dsimp only at *
    go_enter Tryz.func16, Tryz.ntmps16
    go_wp2_with (first
      | (go_at_call 69; ((with_reducible refine (F2 _).mono ?_); rintro e w2 ⟨rfl, hb⟩; have k2 := Lib.hid (k1.out.up hb); clear hb))
      | (go_at_call 68; ((with_reducible refine (F1 _ k0.out.bel).mono ?_); rintro e w1 ⟨rfl, hb⟩; have k1 := Lib.hid (k0.out.up hb); obtain ⟨c0, c1, c2, c3, c4, c5, c6, c7, c8⟩ := k1.out.nine; clear hb)))
    have kd := Lib.hid (k2.out.up (Below.drew (Below.refl _ _)))
    go_region_held3 (fun w' => w'.cell? ⟨w.heap.size, 0, none⟩ = some (.string F) ∧ w'.cell? ⟨w.heap.size, 1, none⟩ = some (.string O) ∧ w'.cell? ⟨w.heap.size, 2, none⟩ = some (.int .i64 p0) ∧ w'.cell? ⟨w.heap.size, 3, none⟩ = some (.int .i64 p1) ∧ w'.cell? ⟨w.heap.size, 4, none⟩ = some (.int .i64 p2) ∧ w'.cell? ⟨w.heap.size, 5, none⟩ = some (.int .i64 p3) ∧ w'.cell? ⟨w.heap.size, 6, none⟩ = some (.int .i64 p4) ∧ w'.cell? ⟨w.heap.size, 7, none⟩ = some (.int .i64 p5) ∧ w'.cell? ⟨w.heap.size, 8, none⟩ = some (.int .i64 p6))
      (first | (with_reducible exact k4.out.nine) | (with_reducible exact k3.out.nine) | (with_reducible exact kd.out.nine) | go_keep)
      (first
        | (go_at_call 19; ((with_reducible refine (V1 _ k3.out.bel).mono ?_); rintro e w4 ⟨rfl, hb⟩; have k4 := Lib.hid (k3.out.up hb); clear hb))
        | (go_at_call 70; ((with_reducible refine (V2 _).mono ?_); rintro e w4 ⟨rfl, hb⟩; have k4 := Lib.hid (k3.out.up hb); clear hb))
        | (go_at_call 19; ((with_reducible refine (V1 _ kd.out.bel).mono ?_); rintro e w3 ⟨rfl, hb⟩; have k3 := Lib.hid (kd.out.up hb); clear hb))
        | (go_at_call 70; ((with_reducible refine (V2 _).mono ?_); rintro e w3 ⟨rfl, hb⟩; have k3 := Lib.hid (kd.out.up hb); clear hb)))
    all_goals go_wp2_with (go_at_call 20; ((with_reducible refine (AW _ k4.out.bel).mono ?_); rintro e w9 ⟨rfl, hb⟩; have b9 := Lib.hid (btrans k4.out.bel hb); clear hb))
    all_goals go_ret
    all_goals exact ⟨rfl, b9.out⟩
  · have hf : fmtR (bl F) (bl O) p = (fmtU (bl F) p, 0) := by unfold fmtR; rw [hp]; rfl
    rw [hf] at F1 F2
    dsimp only at F1 F2
    obtain ⟨hv, hO⟩ := plainU_two hp
    have hp' := hp
    rw [hO] at hp'
    have hpu := punit_fmt hp'
    have hlen := fmtU_len hp'
    obtain ⟨T, hT⟩ : ∃ T, toB (fmtU (bl F) p) = T := ⟨_, rfl⟩
    have bT : bl T = fmtU (bl F) p := by rw [← hT]; rfl
    rw [hT] at F1 F2
    rw [hv] at V1 V2
    have PU := fun w' (hb : Below w.heap.size w w') => (parseUnit_any T (by rw [← bl_len, bT]; omega) w' (hw.up hb)).mono fun e w2 h => (show e = .returned (.tuple #[uv F O p, .int .i64 0]) ∧ Below w'.heap.size w' w2 by
      rw [bT, hpu] at h
      unfold GiveU Un.v at h
      dsimp only at h
      rw [← hO, bl_eta', bl_eta'] at h
      exact h)
    have SM := fun w' (hb : Below w.heap.size w w') => qSame_any F O F O p p h1a h1b w' (hw.up hb)
    rw [show sameU (bl F) (bl O) p (bl F) (bl O) p = true by unfold sameU; rw [hv]; simp] at SM
    have sS : ∀ S : ByteArray, (S.toList == S.toList) = true := fun S => by rw [toList_eq]; exact decide_eq_true rfl
    have s7 : ∀ (x0 x1 x2 x3 x4 x5 x6 : Int) w, (Op.equalIn 9999 22 (.agg #[.int .i64 x0, .int .i64 x1, .int .i64 x2, .int .i64 x3, .int .i64 x4, .int .i64 x5, .int .i64 x6]) (.agg #[.int .i64 x0, .int .i64 x1, .int .i64 x2, .int .i64 x3, .int .i64 x4, .int .i64 x5, .int .i64 x6])).run Tryz.prog w = .ok true w := fun x0 x1 x2 x3 x4 x5 x6 w => (eq7 9997 ⟨x0, x1, x2, x3, x4, x5, x6⟩ ⟨x0, x1, x2, x3, x4, x5, x6⟩ w).trans (by rw [decide_eq_true rfl])
    clear hp hp' hf h1a h1b hw hT bT hpu hlen hv hO
    obtain ⟨p0, p1, p2, p3, p4, p5, p6⟩ := p
    unfold uv at *
    dsimp only at *
    go_enter Tryz.func16, Tryz.ntmps16
    go_wp2_with (first
      | (go_at_call 69; ((with_reducible refine (F2 _).mono ?_); rintro e w2 ⟨rfl, hb⟩; have k2 := Lib.hid (k1.out.up hb); clear hb))
      | (go_at_call 68; ((with_reducible refine (F1 _ k0.out.bel).mono ?_); rintro e w1 ⟨rfl, hb⟩; have k1 := Lib.hid (k0.out.up hb); obtain ⟨c0, c1, c2, c3, c4, c5, c6, c7, c8⟩ := k1.out.nine; clear hb)))
    have kd := Lib.hid (k2.out.up (Below.drew (Below.refl _ _)))
    go_region_held3 (fun w' => w'.cell? ⟨w.heap.size, 0, none⟩ = some (.string F) ∧ w'.cell? ⟨w.heap.size, 1, none⟩ = some (.string O) ∧ w'.cell? ⟨w.heap.size, 2, none⟩ = some (.int .i64 p0) ∧ w'.cell? ⟨w.heap.size, 3, none⟩ = some (.int .i64 p1) ∧ w'.cell? ⟨w.heap.size, 4, none⟩ = some (.int .i64 p2) ∧ w'.cell? ⟨w.heap.size, 5, none⟩ = some (.int .i64 p3) ∧ w'.cell? ⟨w.heap.size, 6, none⟩ = some (.int .i64 p4) ∧ w'.cell? ⟨w.heap.size, 7, none⟩ = some (.int .i64 p5) ∧ w'.cell? ⟨w.heap.size, 8, none⟩ = some (.int .i64 p6))
      (first | (with_reducible exact k4.out.nine) | (with_reducible exact k3.out.nine) | (with_reducible exact kd.out.nine) | go_keep)
      (first
        | (go_at_call 19; ((with_reducible refine (V1 _ k3.out.bel).mono ?_); rintro e w4 ⟨rfl, hb⟩; have k4 := Lib.hid (k3.out.up hb); clear hb))
        | (go_at_call 70; ((with_reducible refine (V2 _).mono ?_); rintro e w4 ⟨rfl, hb⟩; have k4 := Lib.hid (k3.out.up hb); clear hb))
        | (go_at_call 19; ((with_reducible refine (V1 _ kd.out.bel).mono ?_); rintro e w3 ⟨rfl, hb⟩; have k3 := Lib.hid (kd.out.up hb); clear hb))
        | (go_at_call 70; ((with_reducible refine (V2 _).mono ?_); rintro e w3 ⟨rfl, hb⟩; have k3 := Lib.hid (kd.out.up hb); clear hb)))
    all_goals go_wp2_with (first
      | (go_at_call 20; ((with_reducible refine (AW _ b7.out).mono ?_); rintro e w9 ⟨rfl, hb⟩; have b9 := Lib.hid (btrans b7.out hb); clear hb))
      | (go_at_call 66; ((with_reducible refine (SM _ b6.out).mono ?_); rintro e w7 ⟨rfl, hb⟩; have b7 := Lib.hid (btrans b6.out hb); clear hb))
      | (go_at_call 17; ((with_reducible refine (PU _ k4.out.bel).mono ?_); rintro e w5 ⟨rfl, hb⟩; have k5 := Lib.hid (k4.out.up hb); obtain ⟨c0, c1, c2, c3, c4, c5, c6, c7, c8⟩ := k5.out.nine; have lt5 := k5.out.2.2; have b6 := Lib.hid (below_alloc k5.out.bel (.cells #[.string F, .string O, .int .i64 p0, .int .i64 p1, .int .i64 p2, .int .i64 p3, .int .i64 p4, .int .i64 p5, .int .i64 p6] 24)); clear hb)))
    all_goals go_ret
    all_goals exact ⟨rfl, b9.out⟩

end Go.Proofs.YtinoipjblkidfaaGreatDoor
