/- The sanity check of each law. -/
import Derived.Test.YthjnmnepjeegiaaGreatDoorG12
import Derived.Test.YthjnmnepjeegiaaGreatDoorG11
import Derived.Test.YthjnmnepjeegiaaGreatDoorG6
/- The sanity check of each law. -/
namespace Go.Proofs.YthjnmnepjeegiaaGreatDoor
open Go.RowKit Go.Proofs.YthjnmnepjeegiaaGreatDoor.Dg Go.Proofs.YthjnmnepjeegiaaGreatDoor.Q Go.Proofs.YthjnmnepjeegiaaGreatDoor.Num

theorem km_h : punit [107, 109, 47, 104] = (⟨[53, 47, 49, 56], [48], ⟨1, 0, -1, 0, 0, 0, 0⟩⟩, 0) := by decide +kernel
theorem third : bin dAdd [49, 47, 51] [49, 47, 54] = [49, 47, 50] := by decide +kernel

set_option maxRecDepth 100000 in
set_option maxHeartbeats 3200000 in
theorem awake_any (w : World) (hw : Wf w) : Calls Tryz.prog 7 #[] w fun e w' => e = .returned (.bool true) ∧ Below w.heap.size w w' := by
  have P := parseUnit_any ⟨#[107, 109, 47, 104]⟩ (by decide) w hw
  rw [show punit (bl ⟨#[107, 109, 47, 104]⟩) = _ from km_h] at P
  have P := P.mono fun e w2 h => (show e = .returned (.tuple #[.agg #[.string ⟨#[53, 47, 49, 56]⟩, .string ⟨#[48]⟩, .int .i64 1, .int .i64 0, .int .i64 (-1), .int .i64 0, .int .i64 0, .int .i64 0, .int .i64 0], .int .i64 0]) ∧ Below w.heap.size w w2 from h)
  have A := fun w' (hb : Below w.heap.size w w') => qAdd_any ⟨#[49, 47, 51]⟩ ⟨#[49, 47, 54]⟩ (by decide) (by decide) w' (hw.up hb)
  rw [show bin dAdd (bl ⟨#[49, 47, 51]⟩) (bl ⟨#[49, 47, 54]⟩) = _ from third] at A
  have A := fun w' hb => (A w' hb).mono fun e w2 h => (show e = .returned (.string ⟨#[49, 47, 50]⟩) ∧ Below w'.heap.size w' w2 from h)
  have e3 : ∀ w, (Op.equalIn 9999 22 (.agg #[.int .i64 1, .int .i64 0, .int .i64 (-1), .int .i64 0, .int .i64 0, .int .i64 0, .int .i64 0]) (.agg #[.int .i64 1, .int .i64 0, .int .i64 (-1), .int .i64 0, .int .i64 0, .int .i64 0, .int .i64 0])).run Tryz.prog w = .ok true w := fun w => eq7 9997 ⟨1, 0, -1, 0, 0, 0, 0⟩ ⟨1, 0, -1, 0, 0, 0, 0⟩ w
  have l1 : ((⟨#[49, 47, 50]⟩ : ByteArray).toList == [49, 47, 50]) = true := by rw [eqS]; rfl
  have l2 : ((⟨#[53, 47, 49, 56]⟩ : ByteArray).toList == (⟨#[53, 47, 49, 56]⟩ : ByteArray).toList) = true := by simp
  have l3 : ((⟨#[48]⟩ : ByteArray).toList == (⟨#[48]⟩ : ByteArray).toList) = true := by simp
  clear hw
  go_enter Tryz.func7, Tryz.ntmps7
  go_wp2_with (first
    | (go_at_call 20; go_loud ((with_reducible refine (A _ b2.out).mono ?_); rintro e w3 ⟨rfl, hb⟩; have U3 := U2.out.up hb; obtain ⟨c0, c1, c2, c3, c4, c5, c6, c7, c8⟩ := Ub.cells U3; have b3 := Lib.hid (btrans b2.out hb); clear hb U3))
    | (go_at_call 4; go_loud ((with_reducible refine P.mono ?_); rintro e w1 ⟨rfl, hb⟩; have U2 := Lib.hid (show Ub _ w1.heap.size ⟨#[53, 47, 49, 56]⟩ ⟨#[48]⟩ ⟨1, 0, -1, 0, 0, 0, 0⟩ from Bk.new w1 #[.string ⟨#[53, 47, 49, 56]⟩, .string ⟨#[48]⟩, .int .i64 1, .int .i64 0, .int .i64 (-1), .int .i64 0, .int .i64 0, .int .i64 0, .int .i64 0] 24); have b2 := Lib.hid (below_alloc hb (.cells #[.string ⟨#[53, 47, 49, 56]⟩, .string ⟨#[48]⟩, .int .i64 1, .int .i64 0, .int .i64 (-1), .int .i64 0, .int .i64 0, .int .i64 0, .int .i64 0] 24)); clear hb)))
  go_ret
  exact ⟨rfl, b3.out⟩
end Go.Proofs.YthjnmnepjeegiaaGreatDoor
