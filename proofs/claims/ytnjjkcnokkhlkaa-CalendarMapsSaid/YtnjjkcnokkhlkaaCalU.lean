/- The walk of MapAll of the reference. -/
import Derived.Test.YtnjjkcnokkhlkaaCalT
namespace Go.Proofs.Ytnjjkcnokkhlkaa
open Go.RowKit

theorem mr_round {f t z : Int} (h1 : kn f = true) (hh : Cal.has f z = true) :
    (maL f t z = 0 → Cal.vld t (dvY f z) (dvM f z) (dvD f z) = true ∧ Cal.num t (dvY f z) (dvM f z) (dvD f z) = maN f t z ∧ -9999 ≤ dvY f z ∧ dvY f z ≤ 9999 ∧ 1 ≤ dvM f z ∧ dvM f z ≤ 12 ∧ 1 ≤ dvD f z ∧ dvD f z ≤ 31) ∧ (maL f t z ≠ 0 → Cal.vld t (dvY f z) (dvM f z) (dvD f z) = false ∧ maN f t z = 0) ∧ (maL f t z = 0 ∨ maL f t z = 1) := by
  have hd : dke f z = 0 := by unfold dke; rw [h1, hh]; rfl
  obtain ⟨e1, e2, e3⟩ := dv_yes hd
  rw [e1, e2, e3]
  cases hv2 : Cal.vld t (Cal.dY f z) (Cal.dM f z) (Cal.dD f z)
  · simp [maL, maN, hv2]
  · have := vld_bd hv2
    simp [maL, maN, hv2]
    exact this

set_option maxRecDepth 100000 in
set_option maxHeartbeats 3200000 in
theorem rMapAll_any (f t : Int) (A : Option Addr) (n c : Nat) (zs : List Int) (hn : n ≤ 1000000) (w : World) (hs : Sl w w.heap.size A n zs) :
    Calls Try.prog 37 #[.int .i64 f, .int .i64 t, .slice A n c] w (MAP f t zs w) := by
  have tok1 : True := trivial
  cases h1 : kn f
  · have K1 := fun w => rname_no h1 w
    have he : maE f t zs = 20 := by unfold maE; simp [h1]
    have H := Lib.hid he
    clear h1 he
    go_enter Try.func37, Try.ntmps37
    go_wp2_with (go_at_call 34; refine (K1 _).mono ?_; rintro e w1 ⟨rfl, hb1⟩)
    go_ret3
    have := MAP_err (f := f) (t := t) (zs := zs) (w := w) (w' := w1) (by rw [H.out]; omega) hb1
    rw [H.out] at this
    exact this
  cases h2 : kn t
  · have K1 := fun w => rname_yes h1 w
    have K2 := fun w => rname_no h2 w
    have he : maE f t zs = 20 := by unfold maE; simp [h2]
    have H := Lib.hid he
    clear h1 h2 he
    go_enter Try.func37, Try.ntmps37
    go_wp2_with (first | (go_at_call 34; have _t := tok1; refine (K1 _).mono ?_; rintro e w1 ⟨s1, rfl, hs1, hb1⟩; clear tok1 _t) | (go_at_call 34; refine (K2 _).mono ?_; rintro e w2 ⟨rfl, hb2⟩))
    go_ret3
    have := MAP_err (f := f) (t := t) (zs := zs) (w := w) (w' := w2) (by rw [H.out]; omega) (btrans hb1 hb2)
    rw [H.out] at this
    exact this
  have K1 := fun w => rname_yes h1 w
  have K2 := fun w => rname_yes h2 w
  have HK1 := Lib.hid h1
  have HK2 := Lib.hid h2
  clear h1 h2
  obtain ⟨i0, hi, hz0, hz1, hz2⟩ := info_parts Try.infoInt
  go_enter Try.func37, Try.ntmps37
  go_wp2_with (first | (go_at_call 34; have _t := tok1; refine (K1 _).mono ?_; rintro e w1 ⟨s1, rfl, hs1, hb1⟩; clear tok1 _t) | (go_at_call 34; refine (K2 _).mono ?_; rintro e w2 ⟨s2, rfl, hs2, hb2⟩))
  have hb := btrans hb1 hb2
  clear hb1 hb2
  go_loopw [9, 10, 11] (fun v1 v2 i wr => ∃ k : Nat, k ≤ n ∧ i = .int .i64 k ∧ Hid (∀ j, j < k → Cal.has f (zs.getD j 0) = true) ∧ Hid (Two w wr v1 v2 k k (((zs.take k).map (maN f t)).map (Value.int .i64)) (((zs.take k).map (maL f t)).map (Value.int .i64))))
    (fun _ _ i _ => n - (intOf i).toNat)
  case atStart => exact ⟨0, Nat.zero_le _, rfl, fun j hj => absurd hj (by omega), World.ownsRow_nil _ _ _ _, World.ownsRow_nil _ _ _ _, ⟨.inl rfl, .inl rfl⟩, hb⟩
  case round =>
    clear hb
    obtain ⟨k, hk, rfl, hall, hT⟩ := hrel
    by_cases hlt : k < n
    · obtain ⟨b, off, rfl, hbB, q⟩ := hs.at_ hlt
      have q1 : wr.cell? ⟨b, off + k, none⟩ = some (.int .i64 (zs.getD k 0)) := (hT.out.b.cell (p := ⟨b, off + k, none⟩) hbB).trans q
      have hlen : zs.length = n := hs.1
      have D := fun w => rdate_any f (zs.getD k 0) HK1.out w
      have tokD : True := trivial
      cases hh : Cal.has f (zs.getD k 0)
      · have H := Lib.hid (ma_has (t := t) HK1.out HK2.out k (by omega) hh)
        have hd : dke f (zs.getD k 0) = 21 := by unfold dke; rw [HK1.out, hh]; rfl
        obtain ⟨z1, z2, z3⟩ := dv_no (show dke f (zs.getD k 0) ≠ 0 by omega)
        rw [hh, z1, z2, z3] at D
        clear hd z1 z2 z3 hh q
        generalize zs.getD k 0 = z at *
        go_wp2_with (go_at_call 54; refine (D _).mono ?_; rintro e w3 ⟨rfl, hb3⟩)
        go_ret3
        have hg : Below w.heap.size w w3 := btrans hT.out.b hb3
        have := MAP_err (f := f) (t := t) (zs := zs) (w := w) (w' := w3.alloc (.cells #[.int .i64 0, .int .i64 0, .int .i64 0] 23)) (by rw [H.out]; omega) (below_alloc hg _)
        rw [H.out] at this
        exact this
      · obtain ⟨m4, m5, m6⟩ := mr_round (t := t) HK1.out hh
        rw [hh] at D
        have hall2 : Hid (∀ j, j < k + 1 → Cal.has f (zs.getD j 0) = true) := fun j hj => by
          by_cases e : j = k
          · rw [e]; exact hh
          · exact hall.out j (by omega)
        have V := fun w => rValid_any t (dvY f (zs.getD k 0)) (dvM f (zs.getD k 0)) (dvD f (zs.getD k 0)) w
        have tokA : True := trivial
        rcases m6 with m6 | m6
        · obtain ⟨m7, m8, y1, y2, a1, a2, d1, d2⟩ := m4 m6
          have HL := Lib.hid m6
          have N := fun w => rnumber_any t (dvY f (zs.getD k 0)) (dvM f (zs.getD k 0)) (dvD f (zs.getD k 0)) y1 y2 a1 a2 (by omega) (by omega) w
          rw [m8] at N
          rw [m7] at V
          clear m4 m5 m6 m7 m8 hh q y1 y2 a1 a2 d1 d2
          generalize dvY f (zs.getD k 0) = x1 at *
          generalize dvM f (zs.getD k 0) = x2 at *
          generalize dvD f (zs.getD k 0) = x3 at *
          have HS : Hid (∀ w' v1 v2, Two w w' v1 v2 (k + 1) (k + 1) (((zs.take k).map (maN f t)).map (Value.int .i64) ++ [.int .i64 (maN f t (zs.getD k 0))]) (((zs.take k).map (maL f t)).map (Value.int .i64) ++ [.int .i64 0]) → Two w w' v1 v2 (k + 1) (k + 1) (((zs.take (k + 1)).map (maN f t)).map (Value.int .i64)) (((zs.take (k + 1)).map (maL f t)).map (Value.int .i64))) := fun w' v1 v2 h => Two.snoc (by omega) rfl HL.out.symm h
          generalize maN f t (zs.getD k 0) = r at *
          clear HL
          generalize zs.getD k 0 = z at *
          go_wp2_with (first | (go_at_call 54; refine (D _).mono ?_; rintro e w3 ⟨rfl, hb3⟩; have T1 := Lib.hid ((hT.out.below hb3).alloc (.cells #[.int .i64 x1, .int .i64 x2, .int .i64 x3] 23))) | (go_at_call 28; refine (V _).mono ?_; rintro e w4 ⟨rfl, hb4⟩; have T2 := Lib.hid (T1.out.below hb4); obtain ⟨hc4, hf4⟩ := bcell hb4; have hz4 := lt_of_below_alloc hb4) | (go_at_call 49; refine (N _).mono ?_; rintro e w5 ⟨rfl, hb5⟩; have T3 := Lib.hid ((T2.out.below hb5).alloc (.cells #[.int .i64 r] 3))) | (at_builtin; have _t := tokA; refine wpList_append_own_at _ rfl _ _ 31 rfl w.heap.size 3 i0 (.int .i64 0) 1 8 (by kernel_rfl) hi hz0 hz1 hz2 rfl (by decide) _ _ _ rfl T3.out.o1 ⟨w5.heap.size, 0, none⟩ 1 1 [.int .i64 r] rfl rfl (cell_one_new _ _ _) (ints_oneCell .i64 [r]) (by unfold maxLen; omega) (by omega) T3.out.b.size ?_; intro v1' w6 ho6 hg6 hn6 hl6; have T4 := Lib.hid ((T3.out.first ho6 hg6 hl6).alloc (.cells #[.int .i64 0] 3)); clear tokA _t) | (at_builtin; refine wpList_append_own_at _ rfl _ _ 31 rfl w.heap.size 3 i0 (.int .i64 0) 1 8 (by kernel_rfl) hi hz0 hz1 hz2 rfl (by decide) _ _ _ rfl T4.out.o2 ⟨w6.heap.size, 0, none⟩ 1 1 [.int .i64 0] rfl rfl (cell_one_new _ _ _) (ints_oneCell .i64 [0]) (by unfold maxLen; omega) (by omega) T4.out.b.size ?_; intro v2' w7 ho7 hg7 hn7 hl7; have T5 := Lib.hid (T4.out.second ho7 hg7 hl7)))
          have T6 := HS.out _ _ _ T5.out
          go_roundw
          case rel => exact ⟨k + 1, by omega, by go_num, hall2, T6⟩
          case measure => simp [intOf]; omega
        · obtain ⟨m7, m8⟩ := m5 (by omega)
          have HL := Lib.hid m6
          have HN := Lib.hid m8.symm
          rw [m7] at V
          clear m4 m5 m6 m7 m8 hh q
          generalize dvY f (zs.getD k 0) = x1 at *
          generalize dvM f (zs.getD k 0) = x2 at *
          generalize dvD f (zs.getD k 0) = x3 at *
          have HS : Hid (∀ w' v1 v2, Two w w' v1 v2 (k + 1) (k + 1) (((zs.take k).map (maN f t)).map (Value.int .i64) ++ [.int .i64 0]) (((zs.take k).map (maL f t)).map (Value.int .i64) ++ [.int .i64 1]) → Two w w' v1 v2 (k + 1) (k + 1) (((zs.take (k + 1)).map (maN f t)).map (Value.int .i64)) (((zs.take (k + 1)).map (maL f t)).map (Value.int .i64))) := fun w' v1 v2 h => Two.snoc (by omega) HN.out HL.out.symm h
          clear HL HN
          generalize zs.getD k 0 = z at *
          go_wp2_with (first | (go_at_call 54; refine (D _).mono ?_; rintro e w3 ⟨rfl, hb3⟩; have T1 := Lib.hid ((hT.out.below hb3).alloc (.cells #[.int .i64 x1, .int .i64 x2, .int .i64 x3] 23))) | (go_at_call 28; refine (V _).mono ?_; rintro e w4 ⟨rfl, hb4⟩; have T3 := Lib.hid ((T1.out.below hb4).alloc (.cells #[.int .i64 0] 3)); obtain ⟨hc4, hf4⟩ := bcell hb4; have hz4 := lt_of_below_alloc hb4) | (at_builtin; have _t := tokA; refine wpList_append_own_at _ rfl _ _ 31 rfl w.heap.size 3 i0 (.int .i64 0) 1 8 (by kernel_rfl) hi hz0 hz1 hz2 rfl (by decide) _ _ _ rfl T3.out.o1 ⟨w4.heap.size, 0, none⟩ 1 1 [.int .i64 0] rfl rfl (cell_one_new _ _ _) (ints_oneCell .i64 [0]) (by unfold maxLen; omega) (by omega) T3.out.b.size ?_; intro v1' w6 ho6 hg6 hn6 hl6; have T4 := Lib.hid ((T3.out.first ho6 hg6 hl6).alloc (.cells #[.int .i64 1] 3)); clear tokA _t) | (at_builtin; refine wpList_append_own_at _ rfl _ _ 31 rfl w.heap.size 3 i0 (.int .i64 0) 1 8 (by kernel_rfl) hi hz0 hz1 hz2 rfl (by decide) _ _ _ rfl T4.out.o2 ⟨w6.heap.size, 0, none⟩ 1 1 [.int .i64 1] rfl rfl (cell_one_new _ _ _) (ints_oneCell .i64 [1]) (by unfold maxLen; omega) (by omega) T4.out.b.size ?_; intro v2' w7 ho7 hg7 hn7 hl7; have T5 := Lib.hid (T4.out.second ho7 hg7 hl7)))
          have T6 := HS.out _ _ _ T5.out
          go_roundw
          case rel => exact ⟨k + 1, by omega, by go_num, hall2, T6⟩
          case measure => simp [intOf]; omega
    · have e : k = n := by omega
      subst e
      have hlen : zs.length = k := hs.1
      have he : maE f t zs = 0 := ma_all HK1.out HK2.out fun j hj => hall.out j (by omega)
      have T := hT.out
      rw [List.take_of_length_le (by omega)] at T
      have R := Lib.hid (MAP_ok he hlen T.o1 T.o2 T.b)
      clear he T
      go_wp2
      go_ret3
      exact R.out

end Go.Proofs.Ytnjjkcnokkhlkaa
