/- find of the reference: a name of the table. -/
import Derived.Test.YthjnmnepjeegiaaGreatDoorG24
/- find of the reference: a name of the table. -/
namespace Go.Proofs.YthjnmnepjeegiaaGreatDoor
open Go.RowKit Go.Proofs.YthjnmnepjeegiaaGreatDoor.Dg Go.Proofs.YthjnmnepjeegiaaGreatDoor.Q Go.Proofs.YthjnmnepjeegiaaGreatDoor.Num Go.Proofs.YthjnmnepjeegiaaGreatDoor.Str

set_option maxRecDepth 100000 in
set_option maxHeartbeats 12800000 in
theorem rfind_hit (S : ByteArray) (h0 : rsyms.find? (fun s => s.name == bl S) ≠ none) (hs : S.size ≤ 1000) (w : World) : Calls Tryz.prog 67 #[.string S] w (FindR (rfind (bl S)) w) := by
  have k0 := Lib.hid (FR.start w)
  have h0 := Lib.hid h0
  obtain ⟨X, hX⟩ : ∃ X, rfind (bl S) = X := ⟨_, rfl⟩
  rw [hX]
  have HX := Lib.hid hX
  clear hX
  have sb : (S.size : Int) ≤ 1000 := by omega
  unfold sr0C at k0
  go_enter Tryz.func67, Tryz.ntmps67
  go_wp2_with (go_at_call 98; go_loud (refine (rsymbols_any _).mono ?_; rintro e w1 ⟨rfl, rfl⟩))
  generalize hw1 : World.alloc _ (.cells rsymC 56) = w1
  go_loopw [13] (fun i wr => ∃ k : Nat, k ≤ 20 ∧ i = .int .i64 (k : Int) ∧ Hid ((rsyms.take k).find? (fun s => s.name == bl S) = none) ∧ Hid (FR w wr (w.heap.size + 1 + 1))) (fun i _ => (20 - intOf i).toNat)
  case atStart => exact ⟨0, by omega, rfl, Lib.hid rfl, by rw [← hw1]; exact k0⟩
  case round =>
    obtain ⟨k, hk, rfl, hN, hF⟩ := hrel
    clear k0 hw1
    by_cases hk20 : k = 20
    · subst hk20
      exact absurd hN.out h0.out
    · have hlt : k < 20 := by omega
      have hi : (k : Int) < 20 := by omega
      obtain ⟨s, hsk⟩ : ∃ s, rsyms[k]? = some s := ⟨_, List.getElem?_eq_getElem (by rw [rsyms_len]; exact hlt)⟩
      obtain ⟨n, ov, by_, pr, ⟨p0, p1, p2, p3, p4, p5, p6⟩, of, ze, pa⟩ := s
      obtain ⟨c0, c1, c2, c3, c4, c5, c6, c7, c8, c9, c10, c11, c12, c13⟩ := rsym_cells hF.out.2.2.1 hsk
      have HSK := Lib.hid hsk
      obtain ⟨M, hM⟩ : ∃ M : ByteArray, (⟨n.toArray⟩ : ByteArray) = M := ⟨_, rfl⟩
      have hE : (M.toList == S.toList) = (n == bl S) := by rw [eqSS, ← hM]; rfl
      rw [hM] at c0
      have HM := Lib.hid hM
      clear hM hsk
      by_cases hn : (n == bl S) = true
      · have hX := HX.out
        unfold rfind at hX
        rw [find_yes hN.out HSK.out hn] at hX
        dsimp only at hX
        rw [hn] at hE
        obtain ⟨b1, b2, b3, b4, zf⟩ := sr_small HSK.out
        have I1 := fun w' => rfrac_any ov by_ b1 b2 b3 b4 w'
        obtain ⟨f, hf⟩ : ∃ f : Rat, (ov : Rat) / (by_ : Rat) = f := ⟨_, rfl⟩
        have HX2 : Hid (some ((⟨n, ov, by_, pr, ⟨p0, p1, p2, p3, p4, p5, p6⟩, of, ze, pa⟩ : Sr), f) = X) := Lib.hid (by rw [← hf]; exact hX)
        have zf : sz f ≤ 5000 := by rw [← hf]; exact Nat.le_trans zf (by decide)
        rw [hf] at I1
        have I1 := fun w' => (I1 w').mono fun e w2 h => GiveQ.vals h
        dsimp only at b1 b2 b3 b4
        clear hX hf hn hN HX b1 b2 b3 b4
        have kd := Lib.hid ((hF.out.made #[.string M, .int .i64 ov, .int .i64 by_, .bool pr, .int .i64 p0, .int .i64 p1, .int .i64 p2, .int .i64 p3, .int .i64 p4, .int .i64 p5, .int .i64 p6, .bool of, .int .i64 ze, .int .i64 pa]).up (Below.drew (Below.refl _ _)))
        clear hF
        go_wp2_with fail
        go_region_held3 (fun w' => w'.cell? ⟨wr.heap.size, 0, none⟩ = some (.string M) ∧ w'.cell? ⟨wr.heap.size, 1, none⟩ = some (.int .i64 ov) ∧ w'.cell? ⟨wr.heap.size, 2, none⟩ = some (.int .i64 by_) ∧ w'.cell? ⟨wr.heap.size, 3, none⟩ = some (.bool pr) ∧ w'.cell? ⟨wr.heap.size, 4, none⟩ = some (.int .i64 p0) ∧ w'.cell? ⟨wr.heap.size, 5, none⟩ = some (.int .i64 p1) ∧ w'.cell? ⟨wr.heap.size, 6, none⟩ = some (.int .i64 p2) ∧ w'.cell? ⟨wr.heap.size, 7, none⟩ = some (.int .i64 p3) ∧ w'.cell? ⟨wr.heap.size, 8, none⟩ = some (.int .i64 p4) ∧ w'.cell? ⟨wr.heap.size, 9, none⟩ = some (.int .i64 p5) ∧ w'.cell? ⟨wr.heap.size, 10, none⟩ = some (.int .i64 p6) ∧ w'.cell? ⟨wr.heap.size, 11, none⟩ = some (.bool of) ∧ w'.cell? ⟨wr.heap.size, 12, none⟩ = some (.int .i64 ze) ∧ w'.cell? ⟨wr.heap.size, 13, none⟩ = some (.int .i64 pa))
          (first | (with_reducible exact k1.out.put2 _ _ _ _ _ _ _ _ _ _ _ _ _ _ _ _ _) | (with_reducible exact k1.out.put1 _ _ _ _ _ _ _ _ _ _ _ _ _ _) | (with_reducible exact k1.out.cells) | (with_reducible exact kd.out.cells) | go_keep)
          (first | (go_at_call 40; go_loud ((with_reducible refine (I1 _).mono ?_); rintro e w3 ⟨y, A1, l1, d1, A2, l2, d2, rfl, hb, hq⟩; have k1 := Lib.hid (kd.out.up hb); have Q1 := Lib.hid hq; obtain ⟨z0, z1, z2, z3, z4, z5, z6, z7, z8, z9, z10, z11, z12, z13⟩ := cells14 (show Bk w3 w.heap.size #[.string ⟨#[]⟩, .int .i64 0, .int .i64 0, .bool false, .int .i64 0, .int .i64 0, .int .i64 0, .int .i64 0, .int .i64 0, .int .i64 0, .int .i64 0, .bool false, .int .i64 0, .int .i64 0] 56 from k1.out.1.1); obtain ⟨f0, f1, f2, f3, f4, f5, f6, f7, f8, f9, f10, f11, f12, f13⟩ := k1.out.1.1.frozen14; obtain ⟨q0, q1, q2, r0, r1, r2⟩ := six3 k1.out.1.2.1; clear hb hq)))
        go_wp2
        refine bodyPost_ret (v := .tuple #[.agg #[.string M, .int .i64 ov, .int .i64 by_, .bool pr, .int .i64 p0, .int .i64 p1, .int .i64 p2, .int .i64 p3, .int .i64 p4, .int .i64 p5, .int .i64 p6, .bool of, .int .i64 ze, .int .i64 pa], .agg #[.bool y, .slice A1 l1 d1, .slice A2 l2 d2], .bool true]) (by simp [results, Tryz.results67, go_sem, z0, z1, z2, z3, z4, z5, z6, z7, z8, z9, z10, z11, z12, z13, q0, q1, q2]) rfl ?_
        rw [← HX2.out]
        exact FR.give k1.out.1 HM.out Q1.out zf rfl
      · have hn' : (n == bl S) = false := by simpa using hn
        rw [hn'] at hE
        have HN := Lib.hid (find_no hN.out HSK.out hn')
        have hgr := Lib.hid (hF.out.grow #[.string M, .int .i64 ov, .int .i64 by_, .bool pr, .int .i64 p0, .int .i64 p1, .int .i64 p2, .int .i64 p3, .int .i64 p4, .int .i64 p5, .int .i64 p6, .bool of, .int .i64 ze, .int .i64 pa] 56)
        go_wp2
        go_roundw
        case rel => exact ⟨k + 1, by omega, by go_num, HN, hgr⟩
        case measure => simp only [intOf]; omega
end Go.Proofs.YthjnmnepjeegiaaGreatDoor
