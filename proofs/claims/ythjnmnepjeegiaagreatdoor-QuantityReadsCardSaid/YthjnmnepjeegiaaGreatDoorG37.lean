/- The law that ParseUnit reads what the reference reads: its walk. -/
import Derived.Test.YthjnmnepjeegiaaGreatDoorG36
import Derived.Test.YthjnmnepjeegiaaGreatDoorG13
import Derived.Test.YthjnmnepjeegiaaGreatDoorG11
/- The law that ParseUnit reads what the reference reads: its walk. -/
namespace Go.Proofs.YthjnmnepjeegiaaGreatDoor
open Go.RowKit Go.Proofs.YthjnmnepjeegiaaGreatDoor.Dg Go.Proofs.YthjnmnepjeegiaaGreatDoor.Q Go.Proofs.YthjnmnepjeegiaaGreatDoor.Num Go.Proofs.YthjnmnepjeegiaaGreatDoor.Str

theorem punit_valid {l : List UInt8} {U : Un} (h : punit l = (U, 0)) : vU U.F U.O U.p = true := by
  unfold punit at h
  split at h
  · injection h with _ h; cases h
  · split at h
    · injection h with _ h; cases h
    · unfold pof at h
      split at h
      · injection h with _ h; cases h
      · split at h
        · injection h with _ h; cases h
        · split at h
          · rename_i h1
            injection h with h _
            subst h
            exact h1.2
          · injection h with _ h; cases h
theorem num_len {l : List UInt8} {q : Rat} (h : num? l = some q) : l.length ≤ 9223372036854775807 := by
  rcases Nat.lt_or_ge 82 l.length with h1 | h1
  · rw [num_long h1] at h; cases h
  · omega

set_option maxRecDepth 100000 in
set_option maxHeartbeats 12800000 in
theorem reads_walk (S : ByteArray) (hs : S.size ≤ 9223372036854775807) (w : World) (hw : Wf w) : Calls Tryz.prog 3 #[.string S] w fun e w' => e = .returned (.bool true) ∧ Below w.heap.size w w' := by
  have AW := fun w' (hb : Below w.heap.size w w') => awake_any w' (hw.up hb)
  have P1 := parseUnit_any S hs w hw
  have P2 := fun w' => rparseUnit_any S hs w'
  rw [rpunit_same] at P2
  have hV : ∀ U, punit (bl S) = (U, 0) → vU U.F U.O U.p = true := fun U => punit_valid
  obtain ⟨⟨⟨XF, XO, p⟩, E⟩, hX⟩ : ∃ R, punit (bl S) = R := ⟨_, rfl⟩
  rw [hX] at P1 P2 hV
  have sS : ∀ S : ByteArray, (S.toList == S.toList) = true := fun S => by simp
  have s7 : ∀ (x0 x1 x2 x3 x4 x5 x6 : Int) w, (Op.equalIn 9999 22 (.agg #[.int .i64 x0, .int .i64 x1, .int .i64 x2, .int .i64 x3, .int .i64 x4, .int .i64 x5, .int .i64 x6]) (.agg #[.int .i64 x0, .int .i64 x1, .int .i64 x2, .int .i64 x3, .int .i64 x4, .int .i64 x5, .int .i64 x6])).run Tryz.prog w = .ok true w := fun x0 x1 x2 x3 x4 x5 x6 w => (eq7 9997 ⟨x0, x1, x2, x3, x4, x5, x6⟩ ⟨x0, x1, x2, x3, x4, x5, x6⟩ w).trans (by rw [decide_eq_true rfl])
  unfold GiveU Un.v at P1 P2
  dsimp only at P1 P2
  by_cases hE : E = 0
  · subst hE
    have hv := hV ⟨XF, XO, p⟩ rfl
    dsimp only at hv
    obtain ⟨q, oo, hq, _, ho, _⟩ := vU_parts hv
    have V1 := fun w' (hb : Below w.heap.size w w') => validU_any ⟨XF.toArray⟩ ⟨XO.toArray⟩ p (by rw [← bl_len, bl_mk]; exact num_len hq) (by rw [← bl_len, bl_mk]; exact num_len ho) w' (hw.up hb)
    rw [show bl ⟨XF.toArray⟩ = XF from bl_mk _, show bl ⟨XO.toArray⟩ = XO from bl_mk _, hv] at V1
    generalize (⟨XF.toArray⟩ : ByteArray) = AF at *
    generalize (⟨XO.toArray⟩ : ByteArray) = AO at *
    obtain ⟨x0, x1, x2, x3, x4, x5, x6⟩ := p
    unfold uv at P1 P2 V1
    dsimp only at P1 P2 V1
    clear hV hX hv hq ho hw
    go_enter Tryz.func3, Tryz.ntmps3
    go_wp2_with (first
      | (go_at_call 7; go_loud ((with_reducible refine (AW _ b3.out).mono ?_); rintro e w4 ⟨rfl, hb⟩; have b4 := Lib.hid (btrans b3.out hb); clear hb))
      | (go_at_call 6; go_loud ((with_reducible refine (V1 _ b2.out).mono ?_); rintro e w3 ⟨rfl, hb⟩; have b3 := Lib.hid (btrans b2.out hb); clear hb))
      | (go_at_call 5; go_loud ((with_reducible refine (P2 _).mono ?_); rintro e w2 ⟨rfl, hb⟩; have bx := below_alloc hb (.cells #[.string AF, .string AO, .int .i64 x0, .int .i64 x1, .int .i64 x2, .int .i64 x3, .int .i64 x4, .int .i64 x5, .int .i64 x6] 24); have b2 := Lib.hid (btrans b1.out bx); have U2 := B1.out.up bx; obtain ⟨c0, c1, c2, c3, c4, c5, c6, c7, c8⟩ := (show _ ∧ _ ∧ _ ∧ _ ∧ _ ∧ _ ∧ _ ∧ _ ∧ _ from ⟨U2.cell 0, U2.cell 1, U2.cell 2, U2.cell 3, U2.cell 4, U2.cell 5, U2.cell 6, U2.cell 7, U2.cell 8⟩); clear hb bx U2))
      | (go_at_call 4; go_loud ((with_reducible refine P1.mono ?_); rintro e w1 ⟨rfl, hb⟩; have b1 := Lib.hid (below_alloc hb (.cells #[.string AF, .string AO, .int .i64 x0, .int .i64 x1, .int .i64 x2, .int .i64 x3, .int .i64 x4, .int .i64 x5, .int .i64 x6] 24)); have B1 := Lib.hid (Bk.new w1 #[.string AF, .string AO, .int .i64 x0, .int .i64 x1, .int .i64 x2, .int .i64 x3, .int .i64 x4, .int .i64 x5, .int .i64 x6] 24); clear hb)))
    go_ret
    exact ⟨rfl, b4.out⟩
  · have hEb : (E == 0) = false := by rw [beq_eq_false_iff_ne]; exact hE
    generalize (⟨XF.toArray⟩ : ByteArray) = AF at *
    generalize (⟨XO.toArray⟩ : ByteArray) = AO at *
    obtain ⟨x0, x1, x2, x3, x4, x5, x6⟩ := p
    unfold uv at P1 P2
    dsimp only at P1 P2
    clear hV hX hw
    go_enter Tryz.func3, Tryz.ntmps3
    go_wp2_with (first
      | (go_at_call 7; go_loud ((with_reducible refine (AW _ b2.out).mono ?_); rintro e w4 ⟨rfl, hb⟩; have b4 := Lib.hid (btrans b2.out hb); clear hb))
      | (go_at_call 5; go_loud ((with_reducible refine (P2 _).mono ?_); rintro e w2 ⟨rfl, hb⟩; have bx := below_alloc hb (.cells #[.string AF, .string AO, .int .i64 x0, .int .i64 x1, .int .i64 x2, .int .i64 x3, .int .i64 x4, .int .i64 x5, .int .i64 x6] 24); have b2 := Lib.hid (btrans b1.out bx); have U2 := B1.out.up bx; obtain ⟨c0, c1, c2, c3, c4, c5, c6, c7, c8⟩ := (show _ ∧ _ ∧ _ ∧ _ ∧ _ ∧ _ ∧ _ ∧ _ ∧ _ from ⟨U2.cell 0, U2.cell 1, U2.cell 2, U2.cell 3, U2.cell 4, U2.cell 5, U2.cell 6, U2.cell 7, U2.cell 8⟩); clear hb bx U2))
      | (go_at_call 4; go_loud ((with_reducible refine P1.mono ?_); rintro e w1 ⟨rfl, hb⟩; have b1 := Lib.hid (below_alloc hb (.cells #[.string AF, .string AO, .int .i64 x0, .int .i64 x1, .int .i64 x2, .int .i64 x3, .int .i64 x4, .int .i64 x5, .int .i64 x6] 24)); have B1 := Lib.hid (Bk.new w1 #[.string AF, .string AO, .int .i64 x0, .int .i64 x1, .int .i64 x2, .int .i64 x3, .int .i64 x4, .int .i64 x5, .int .i64 x6] 24); clear hb)))
    go_ret
    exact ⟨rfl, b4.out⟩
end Go.Proofs.YthjnmnepjeegiaaGreatDoor
