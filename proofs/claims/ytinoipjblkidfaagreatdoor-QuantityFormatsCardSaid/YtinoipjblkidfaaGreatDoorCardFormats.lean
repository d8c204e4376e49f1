/- Which units are valid, and what FormatUnit returns of them, which ParseUnit reads again; for all values of the parameter. -/
import Derived.Test.YtinoipjblkidfaaGreatDoorE18
import Derived.Test.YtinoipjblkidfaaGreatDoorRowFormats
import Derived.Test.YtinoipjblkidfaaGreatDoorCards
import Derived.Test.YtinoipjblkidfaaGreatDoorTie
import Derived.ProofKit
import Derived.SevenTiedAt
import Derived.LaidByTextLater
import Derived.Deep.DeepHandedRow
import Derived.Lib.LaidIn
import Derived.Lib.LaidTab
import Derived.Lib.LaidU8
import Derived.Lib.SmallJoins
/- Which units are valid, and what FormatUnit returns of them, which ParseUnit reads again; for all values of the parameter. -/
namespace Go.Proofs.YtinoipjblkidfaaGreatDoor
open Go.RowKit Go.ChangeShapes Go.WideShapes Go.ChangeAt Go.Joins

/-- No parameter wants a stand-in; the program's own looks are off. -/
theorem plain (f : FuncId) (fn : Func) (hf : Tryz.pinned.checked.prog.funcNamed Tryz.f16.name = some f) (hfn : Tryz.pinned.checked.prog.funcs[f]? = some fn) :
    true = Tryz.pinned.checked.prog.looks [] ∧ ∀ (j : Nat) t, fn.params[j]? = some t → Tryz.pinned.checked.prog.wantsStandIn t = false := by
  obtain rfl : f = 16 := Option.some.inj ((show Tryz.prog.funcNamed Tryz.f16.name = some 16 by kernel_rfl).symm.trans hf) |>.symm
  obtain rfl : fn = Tryz.f16 := (Option.some.inj (Tryz.func16.symm.trans hfn)).symm
  refine ⟨by kernel_rfl, fun j t ht => ?_⟩
  rw [Tryz.params16] at ht
  have hm := Array.mem_of_getElem? ht
  simp at hm
  subst hm
  exact (show Tryz.prog.wantsStandIn 24 = false by kernel_rfl)

set_option maxHeartbeats 12800000 in
theorem quantityFormats_card : Rows.QuantityFormatsCardSaid :=
  Claim7.holds_tied_plain_at .later [] _ _ _ _ quantityFormats_said (fun _ h => by cases h) (by as_aux_lemma => kernel_rfl) (fun _ h => by cases h) quantityFormats_row_tie rfl ⟨rfl, rfl⟩ (by as_aux_lemma => kernel_rfl) rfl plain (by as_aux_lemma => kernel_rfl)
#print axioms quantityFormats_card

end Go.Proofs.YtinoipjblkidfaaGreatDoor
