import Derived.Test.YtajmjllhdcdkmaaGreatDoorRowNear
import Derived.Test.YtajmjllhdcdkmaaGreatDoorCards
import Derived.Test.YtajmjllhdcdkmaaGreatDoorTie
import Derived.ProofKit
import Derived.SevenTiedAt
import Derived.LaidByTextLater
import Derived.Deep.DeepHandedRow
import Derived.Lib.LaidIn
import Derived.Lib.LaidTab
import Derived.Lib.LaidU8
import Derived.Lib.SmallJoins
set_option maxHeartbeats 12800000
namespace Go.Proofs.YtajmjllhdcdkmaaGreatDoor
open Go.RowKit Go.ChangeShapes Go.WideShapes Go.ChangeAt Go.Joins
theorem plain (f:FuncId) (fn:Func) (hf:Tryz.pinned.checked.prog.funcNamed Tryz.f3.name=some f) (hfn:Tryz.pinned.checked.prog.funcs[f]?=some fn) :
  true=Tryz.pinned.checked.prog.looks []/\∀ (j:Nat) t,fn.params[j]?=some t->Tryz.pinned.checked.prog.wantsStandIn t=false:=by
 obtain rfl:f=3:=Option.some.inj ((show Tryz.prog.funcNamed Tryz.f3.name=some 3 by kernel_rfl).symm.trans hf) |>.symm
 obtain rfl:fn=Tryz.f3:=(Option.some.inj (Tryz.func3.symm.trans hfn)).symm
 refine⟨by kernel_rfl,fun j t ht=>?_⟩
 rw[Tryz.params3] at ht
 have hm:=Array.mem_of_getElem? ht
 simp at hm
 rcases hm with rfl|rfl
 ·exact(show Tryz.prog.wantsStandIn 24=false by kernel_rfl)
 ·exact(show Tryz.prog.wantsStandIn 9=false by kernel_rfl)
theorem schemaNearest_card:Rows.SchemaNearestUptoCardSaid:=
 Claim7.holds_tied_plain_at .later [] _ _ _ _ ydr (fun _ h=>by cases h) (by as_aux_lemma=>kernel_rfl) (fun _ h=>by cases h) schemaNearestUpto_row_tie rfl ⟨rfl,rfl⟩ (by as_aux_lemma=>kernel_rfl) rfl plain (by as_aux_lemma=>kernel_rfl)
#print axioms schemaNearest_card
end Go.Proofs.YtajmjllhdcdkmaaGreatDoor
