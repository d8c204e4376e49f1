/- find of the reference: no name, no prefix. -/
import Derived.Test.YthjnmnepjeegiaaGreatDoorG24
/- find of the reference: no name, no prefix. -/
namespace Go.Proofs.YthjnmnepjeegiaaGreatDoor
open Go.RowKit Go.Proofs.YthjnmnepjeegiaaGreatDoor.Dg Go.Proofs.YthjnmnepjeegiaaGreatDoor.Q Go.Proofs.YthjnmnepjeegiaaGreatDoor.Num Go.Proofs.YthjnmnepjeegiaaGreatDoor.Str

set_option maxRecDepth 100000 in
set_option maxHeartbeats 12800000 in
theorem rfind_no (S : ByteArray) (h0 : rsyms.find? (fun s => s.name == bl S) = none) (hp : bl S = [] ∨ pfxQ ((bl S).headD 0) = none) (hs : S.size ≤ 1000) (w : World) : Calls Tryz.prog 67 #[.string S] w (FindR (rfind (bl S)) w) := by
  have k0 := Lib.hid (FR.start w)
  have h0 := Lib.hid h0
  obtain ⟨X, hX⟩ : ∃ X, rfind (bl S) = X := ⟨_, rfl⟩
  rw [hX]
  have HX := Lib.hid hX
  clear hX
  have sb : (S.size : Int) ≤ 1000 := by omega
  unfold sr0C at k0
  go_enter Tryz.func67, Tryz.ntmps67
  go_wp2_with (go_at_call 98; go_loud (refine (rsymbols_any _).mono ?_; rintro e w1 ⟨rfl, rfl⟩))
  generalize hw1 : World.alloc _ (.cells rsymC 56) = w1
  go_loopw [13] (fun i wr => ∃ k : Nat, k ≤ 20 ∧ i = .int .i64 (k : Int) ∧ Hid ((rsyms.take k).find? (fun s => s.name == bl S) = none) ∧ Hid (FR w wr (w.heap.size + 1 + 1))) (fun i _ => (20 - intOf i).toNat)
  case atStart => exact ⟨0, by omega, rfl, Lib.hid rfl, by rw [← hw1]; exact k0⟩
  case round =>
    obtain ⟨k, hk, rfl, hN, hF⟩ := hrel
    clear k0 hw1
    by_cases hk20 : k = 20
    · subst hk20
      have h1 : rsyms.find? (fun s => s.name == bl S) = none := hN.out
      have hX := HX.out
      unfold rfind at hX
      rw [h1] at hX
      dsimp only at hX
      clear h1 hN HX hk
      by_cases hS : S.toList.isEmpty = true
      · have hl : bl S = [] := by rw [Lib.toList_data] at hS; exact List.isEmpty_iff.1 hS
        rw [if_pos hl] at hX
        subst hX
        obtain ⟨z0, z1, z2, z3, z4, z5, z6, z7, z8, z9, z10, z11, z12, z13⟩ := cells14 (show Bk wr w.heap.size #[.string ⟨#[]⟩, .int .i64 0, .int .i64 0, .bool false, .int .i64 0, .int .i64 0, .int .i64 0, .int .i64 0, .int .i64 0, .int .i64 0, .int .i64 0, .bool false, .int .i64 0, .int .i64 0] 56 from hF.out.1)
        obtain ⟨f0, f1, f2, f3, f4, f5, f6, f7, f8, f9, f10, f11, f12, f13⟩ := hF.out.1.frozen14
        obtain ⟨q0, q1, q2, r0, r1, r2⟩ := six3 hF.out.2.1
        go_wp2
        refine bodyPost_ret (v := .tuple #[.agg #[.string ⟨#[]⟩, .int .i64 0, .int .i64 0, .bool false, .int .i64 0, .int .i64 0, .int .i64 0, .int .i64 0, .int .i64 0, .int .i64 0, .int .i64 0, .bool false, .int .i64 0, .int .i64 0], .agg #[.bool false, .slice none 0 0, .slice none 0 0], .bool false]) (by simp [results, Tryz.results67, go_sem, z0, z1, z2, z3, z4, z5, z6, z7, z8, z9, z10, z11, z12, z13, q0, q1, q2]) rfl ?_
        exact FR.no hF.out.put
      · have hl : bl S ≠ [] := fun h => hS (by rw [Lib.toList_data]; exact List.isEmpty_iff.2 h)
        rw [if_neg hl] at hX
        have hpos : 0 < S.size := by
          rcases Nat.eq_zero_or_pos S.size with h | h
          · exact absurd (List.eq_nil_of_length_eq_zero (by rw [bl_len]; exact h)) hl
          · exact h
        have hl0 : (0 : Int) < (S.size : Int) := by omega
        have hc : (bl S).headD 0 = S[0] := by
          have := bl_at S 0 (by omega)
          rw [List.headD_eq_head?_getD, List.head?_eq_getElem?, this]; rfl
        rw [hc] at hX
        have hp := hp.resolve_left hl
        rw [hc] at hp
        have PF := fun w' => rprefix_any S[0] w'
        obtain ⟨T, hT⟩ : ∃ T : ByteArray, S.extract 1 S.size = T := ⟨_, rfl⟩
        have hTl : (bl S).tail = bl T := by rw [← hT, bl_cut, ← List.drop_one, List.take_of_length_le (by rw [List.length_drop, bl_len]; omega)]
        rw [hTl] at hX
        have hps : ∀ q, pfxQ S[0] = some q → sz q ≤ 5 := fun q h => pfxQ_sz h
        generalize pfxQ S[0] = o at *
        clear hc hTl hl
        have go1 : Hid (1 ≤ S.size) := Lib.hid (by omega)
        have i1 : (1 : Int) ≤ (S.size : Int) := by omega
        cases o with
        | none =>
          dsimp only at hX
          subst hX
          have PF := fun w' => (PF w').mono fun e w2 h => ReadR.none h
          clear hps
          go_wp2_with (first
            | (go_at_call 99; go_loud ((with_reducible refine (PF _).mono ?_); rintro e w3 ⟨y, A1, l1, d1, A2, l2, d2, q, rfl, hb, hq, hz⟩; have hG := Lib.hid ((hF.out.up hb).again2 #[.bool y, .slice A1 l1 d1, .slice A2 l2 d2]); clear hb hq hz))
            | (go_at_call 98; go_loud ((with_reducible refine (rsymbols_any _).mono ?_); rintro e w4 ⟨rfl, rfl⟩)))
          generalize hw2 : World.alloc _ (.cells rsymC 56) = w2 at hG ⊢
          generalize w3.heap.size = g at *
          clear hw2 hF
          go_loopw [40] (fun i wx => ∃ k : Nat, k ≤ 20 ∧ i = .int .i64 (k : Int) ∧ Hid (FR w wx (g + 1))) (fun i _ => (20 - intOf i).toNat)
          case atStart => exact ⟨0, by omega, rfl, hG⟩
          case round =>
            clear hG
            obtain ⟨k, hk, rfl, hF⟩ := hrel
            by_cases hk20 : k = 20
            · subst hk20
              obtain ⟨z0, z1, z2, z3, z4, z5, z6, z7, z8, z9, z10, z11, z12, z13⟩ := cells14 (show Bk wr w.heap.size #[.string ⟨#[]⟩, .int .i64 0, .int .i64 0, .bool false, .int .i64 0, .int .i64 0, .int .i64 0, .int .i64 0, .int .i64 0, .int .i64 0, .int .i64 0, .bool false, .int .i64 0, .int .i64 0] 56 from hF.out.1)
              obtain ⟨f0, f1, f2, f3, f4, f5, f6, f7, f8, f9, f10, f11, f12, f13⟩ := hF.out.1.frozen14
              obtain ⟨q0, q1, q2, r0, r1, r2⟩ := six3 hF.out.2.1
              go_wp2_with fail
              refine bodyPost_ret (v := .tuple #[.agg #[.string ⟨#[]⟩, .int .i64 0, .int .i64 0, .bool false, .int .i64 0, .int .i64 0, .int .i64 0, .int .i64 0, .int .i64 0, .int .i64 0, .int .i64 0, .bool false, .int .i64 0, .int .i64 0], .agg #[.bool false, .slice none 0 0, .slice none 0 0], .bool false]) (by simp [results, Tryz.results67, go_sem, z0, z1, z2, z3, z4, z5, z6, z7, z8, z9, z10, z11, z12, z13, q0, q1, q2]) rfl ?_
              exact FR.no hF.out.put
            · have hlt : k < 20 := by omega
              have hi : (k : Int) < 20 := by omega
              obtain ⟨s, hsk⟩ : ∃ s, rsyms[k]? = some s := ⟨_, List.getElem?_eq_getElem (by rw [rsyms_len]; exact hlt)⟩
              obtain ⟨n, ov, by_, pr, ⟨p0, p1, p2, p3, p4, p5, p6⟩, of, ze, pa⟩ := s
              obtain ⟨c0, c1, c2, c3, c4, c5, c6, c7, c8, c9, c10, c11, c12, c13⟩ := rsym_cells hF.out.2.2.1 hsk
              obtain ⟨M, hM⟩ : ∃ M : ByteArray, (⟨n.toArray⟩ : ByteArray) = M := ⟨_, rfl⟩
              rw [hM] at c0
              clear hM hsk hk20
              go_wp2
              go_quiet (fail)
              go_wp2
              go_roundw
              case rel => exact ⟨k + 1, by omega, by go_num, Lib.hid (hF.out.up (by (repeat (first | exact Below.refl _ _ | assumption | refine below_drewN ?_ _ | refine Below.drew ?_ | refine btrans ?_ (by assumption) | refine below_alloc ?_ _ | refine Below.setCell ?_ (by simp <;> omega) _ | refine Below.alloc ?_ (by simp <;> omega) _ | refine Below.setCell ?_ (by simp) _ | refine Below.alloc ?_ (by simp) _))))⟩
              case measure => simp only [intOf]; omega
        | some qp => cases hp
    · have hlt : k < 20 := by omega
      have hi : (k : Int) < 20 := by omega
      obtain ⟨s, hsk⟩ : ∃ s, rsyms[k]? = some s := ⟨_, List.getElem?_eq_getElem (by rw [rsyms_len]; exact hlt)⟩
      obtain ⟨n, ov, by_, pr, ⟨p0, p1, p2, p3, p4, p5, p6⟩, of, ze, pa⟩ := s
      obtain ⟨c0, c1, c2, c3, c4, c5, c6, c7, c8, c9, c10, c11, c12, c13⟩ := rsym_cells hF.out.2.2.1 hsk
      have HSK := Lib.hid hsk
      obtain ⟨M, hM⟩ : ∃ M : ByteArray, (⟨n.toArray⟩ : ByteArray) = M := ⟨_, rfl⟩
      have hE : (M.toList == S.toList) = (n == bl S) := by rw [eqSS, ← hM]; rfl
      rw [hM] at c0
      have HM := Lib.hid hM
      clear hM hsk
      by_cases hn : (n == bl S) = true
      · exact absurd (find_yes hN.out HSK.out hn) (by rw [h0.out]; exact fun e => by cases e)
      · have hn' : (n == bl S) = false := by simpa using hn
        rw [hn'] at hE
        have HN := Lib.hid (find_no hN.out HSK.out hn')
        have hgr := Lib.hid (hF.out.grow #[.string M, .int .i64 ov, .int .i64 by_, .bool pr, .int .i64 p0, .int .i64 p1, .int .i64 p2, .int .i64 p3, .int .i64 p4, .int .i64 p5, .int .i64 p6, .bool of, .int .i64 ze, .int .i64 pa] 56)
        go_wp2
        go_roundw
        case rel => exact ⟨k + 1, by omega, by go_num, HN, hgr⟩
        case measure => simp only [intOf]; omega
end Go.Proofs.YthjnmnepjeegiaaGreatDoor
