import Derived.Test.YtajmjllhdcdkmaaGreatDoorProg
import Derived.Shelf.Strings.OnBuilder
import Derived.Ground.Names2Prog
namespace Go.Proofs
open Go.Shelf
def Tryz.lays156_ren:Go.Shelf.Ren:=⟨fun|156=>98|165=>143|166=>144|169=>145|240=>183|241=>184|276=>218|277=>219|n=>n,fun|31=>36|9=>9|3=>3|4=>4|0=>0|20=>20|72=>202|76=>191|70=>199|37=>200|75=>188|127=>232|164=>246|5=>5|80=>184|n=>n,fun|n=>n⟩
theorem Tryz.lays156:Go.Proofs.Lays.n156 Tryz.prog Tryz.lays156_ren:={
 mixed:=by kernel_rfl
 f156:=Tryz.func98.trans (congrArg some (by kernel_rfl))
 f165:=Tryz.func143.trans (congrArg some (by kernel_rfl))
 f166:=Tryz.func144.trans (congrArg some (by kernel_rfl))
 f169:=Tryz.func145.trans (congrArg some (by kernel_rfl))
 f240:=Tryz.func183.trans (congrArg some (by kernel_rfl))
 f241:=Tryz.func184.trans (congrArg some (by kernel_rfl))
 f276:=Tryz.func218.trans (congrArg some (by kernel_rfl))
 f277:=Tryz.func219.trans (congrArg some (by kernel_rfl))
 t0:=Tryz.underlying0
 a0:=Tryz.isAgg0
 z0:=Tryz.sizeOf0
 v0:=Tryz.zeroValue0
 t3:=Tryz.underlying3
 a3:=Tryz.isAgg3
 z3:=Tryz.sizeOf3
 v3:=Tryz.zeroValue3
 t4:=Tryz.underlying4
 a4:=Tryz.isAgg4
 z4:=Tryz.sizeOf4
 v4:=Tryz.zeroValue4
 t9:=Tryz.underlying9
 a9:=Tryz.isAgg9
 z9:=Tryz.sizeOf9
 v9:=Tryz.zeroValue9
 t20:=Tryz.underlying20
 a20:=Tryz.isAgg20
 z20:=Tryz.sizeOf20
 v20:=Tryz.zeroValue20
 t31:=Tryz.underlying36
 a31:=Tryz.isAgg36
 z31:=Tryz.sizeOf36
 v31:=Tryz.zeroValue36
 t37:=Tryz.underlying200
 a37:=Tryz.isAgg200
 z37:=Tryz.sizeOf200
 v37:=Tryz.zeroValue200
 t70:=Tryz.underlying199
 a70:=Tryz.isAgg199
 z70:=Tryz.sizeOf199
 v70:=Tryz.zeroValue199
 t72:=Tryz.underlying202
 a72:=Tryz.isAgg202
 z72:=Tryz.sizeOf202
 v72:=Tryz.zeroValue202
 t75:=Tryz.underlying188
 a75:=Tryz.isAgg188
 z75:=Tryz.sizeOf188
 v75:=Tryz.zeroValue188
 t76:=Tryz.underlying191
 a76:=Tryz.isAgg191
 z76:=Tryz.sizeOf191
 v76:=Tryz.zeroValue191
 t127:=Tryz.underlying232
 a127:=Tryz.isAgg232
 z127:=Tryz.sizeOf232
 v127:=Tryz.zeroValue232
 t164:=Tryz.underlying246
 a164:=Tryz.isAgg246
 z164:=Tryz.sizeOf246
 v164:=Tryz.zeroValue246 }
theorem Tryz.Builder_Extra_156:Builder.Extra Tryz.prog Tryz.lays156_ren:={
 sizeBuilder:=by kernel_rfl
 liesBuilder:=by kernel_rfl
 t5:=Tryz.underlying5
 a5:=Tryz.isAgg5
 z5:=Tryz.sizeOf5
 v5:=Tryz.zeroValue5
 infoByte:=by kernel_rfl
 cellsByte:=by kernel_rfl
 sizeByte:=by kernel_rfl
 neB5:=by decide }
open Go.RowKit in
theorem Tryz.strings_Join (bk o c:Nat) (xs:List ByteArray) (sep:ByteArray) (w:World) (hcells:∀ (j:Nat) x,xs[j]?=some x->w.cell? ⟨bk,o+j,none⟩=some (.string x)) (hbk:bk<w.heap.size) (hN:xs.length<=140737488355328) (hcap:xs.length<=c) (hlen:(Lib.join (xs.map (·.data.toList)) sep.data.toList).length<=140737488355328) :
  Calls Tryz.prog 98 #[.slice (some ⟨bk,o,none⟩) xs.length c,.string sep] w fun e w'=>e=.returned (.string ⟨(Lib.join (xs.map (·.data.toList)) sep.data.toList).toArray⟩)/\Below w.heap.size w w':=Any.strings_Join Tryz.lays156 Tryz.Builder_Extra_156 bk o c xs sep w hcells hbk hN hcap hlen
end Go.Proofs
