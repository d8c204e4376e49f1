import Derived.Test.YtajmjllhdcdkmaaGreatDoorProg
import Derived.Shelf.LaysM
import Derived.Ground.Names2Prog
namespace Go.Proofs
open Go.Shelf
def Tryz.laysM145_ren:Go.Shelf.Ren:=⟨fun|145=>93|220=>136|219=>161|217=>135|225=>192|224=>193|267=>194|266=>178|314=>226|n=>n,fun|9=>9|4=>4|59=>140|3=>3|5=>5|46=>206|146=>259|51=>226|n=>n,fun|1=>0|n=>n⟩
theorem Tryz.laysM145:Go.Proofs.LaysM.n145 Tryz.prog Tryz.laysM145_ren:={
 mixed:=by kernel_rfl
 f145:=Tryz.func93.trans (congrArg some (by kernel_rfl))
 f217:=Tryz.func135.trans (congrArg some (by kernel_rfl))
 f219:=Tryz.func161.trans (congrArg some (by kernel_rfl))
 f220:=Tryz.func136.trans (congrArg some (by kernel_rfl))
 f224:=Tryz.func193.trans (congrArg some (by kernel_rfl))
 f225:=Tryz.func192.trans (congrArg some (by kernel_rfl))
 f266:=Tryz.func178.trans (congrArg some (by kernel_rfl))
 f267:=Tryz.func194.trans (congrArg some (by kernel_rfl))
 f314:=Tryz.func226.trans (congrArg some (by kernel_rfl))
 t3:=Tryz.underlying3
 a3:=Tryz.isAgg3
 z3:=Tryz.sizeOf3
 v3:=Tryz.zeroValue3
 t4:=Tryz.underlying4
 a4:=Tryz.isAgg4
 z4:=Tryz.sizeOf4
 v4:=Tryz.zeroValue4
 t5:=Tryz.underlying5
 a5:=Tryz.isAgg5
 z5:=Tryz.sizeOf5
 v5:=Tryz.zeroValue5
 t9:=Tryz.underlying9
 a9:=Tryz.isAgg9
 z9:=Tryz.sizeOf9
 v9:=Tryz.zeroValue9
 t46:=Tryz.underlying206
 a46:=Tryz.isAgg206
 z46:=Tryz.sizeOf206
 v46:=Tryz.zeroValue206
 t51:=Tryz.underlying226
 a51:=Tryz.isAgg226
 z51:=Tryz.sizeOf226
 v51:=Tryz.zeroValue226
 t59:=Tryz.underlying140
 a59:=Tryz.isAgg140
 z59:=Tryz.sizeOf140
 v59:=Tryz.zeroValue140
 t146:=Tryz.underlying259
 a146:=Tryz.isAgg259
 z146:=Tryz.sizeOf259
 v146:=Tryz.zeroValue259
 g1:=by kernel_rfl
 i3:=by kernel_rfl
 i4:=by kernel_rfl
 i5:=by kernel_rfl
 i9:=by kernel_rfl
 i46:=by kernel_rfl
 i51:=by kernel_rfl
 i59:=by kernel_rfl
 i146:=by kernel_rfl
 m1:=by kernel_rfl
 s1_3:=fun w h=>Go.Proofs.cell_of_shapedOpen_int (zero:=#[.int .i64 0]) (t:=3) h (of_decide_eq_true (by kernel_rfl)) (by kernel_rfl) rfl (by kernel_rfl) (by kernel_rfl) Tryz.underlying3 }
end Go.Proofs
