/- Texts ShelfH -/
import Derived.Test.YtnablanoaglioaaGreatDoorProg
import Derived.Shelf.LaysM
import Derived.Ground.Names2Prog
namespace Go.Proofs
open Go.Shelf
def Tryz.laysM145_ren : Go.Shelf.Ren := ⟨fun | 145 => 154 | 220 => 196 | 219 => 194 | 217 => 195 | 225 => 242 | 224 => 243 | 267 => 244 | 266 => 245 | 314 => 287 | n => n, fun | 9 => 9 | 4 => 4 | 59 => 176 | 3 => 3 | 5 => 5 | 46 => 244 | 146 => 310 | 51 => 285 | n => n, fun | 1 => 0 | n => n⟩
theorem Tryz.laysM145 : Go.Proofs.LaysM.n145 Tryz.prog Tryz.laysM145_ren := {
  mixed := by kernel_rfl
  f145 := Tryz.func154.trans (congrArg some (by kernel_rfl))
  f217 := Tryz.func195.trans (congrArg some (by kernel_rfl))
  f219 := Tryz.func194.trans (congrArg some (by kernel_rfl))
  f220 := Tryz.func196.trans (congrArg some (by kernel_rfl))
  f224 := Tryz.func243.trans (congrArg some (by kernel_rfl))
  f225 := Tryz.func242.trans (congrArg some (by kernel_rfl))
  f266 := Tryz.func245.trans (congrArg some (by kernel_rfl))
  f267 := Tryz.func244.trans (congrArg some (by kernel_rfl))
  f314 := Tryz.func287.trans (congrArg some (by kernel_rfl))
  t3 := Tryz.underlying3
  a3 := Tryz.isAgg3
  z3 := Tryz.sizeOf3
  v3 := Tryz.zeroValue3
  t4 := Tryz.underlying4
  a4 := Tryz.isAgg4
  z4 := Tryz.sizeOf4
  v4 := Tryz.zeroValue4
  t5 := Tryz.underlying5
  a5 := Tryz.isAgg5
  z5 := Tryz.sizeOf5
  v5 := Tryz.zeroValue5
  t9 := Tryz.underlying9
  a9 := Tryz.isAgg9
  z9 := Tryz.sizeOf9
  v9 := Tryz.zeroValue9
  t46 := Tryz.underlying244
  a46 := Tryz.isAgg244
  z46 := Tryz.sizeOf244
  v46 := Tryz.zeroValue244
  t51 := Tryz.underlying285
  a51 := Tryz.isAgg285
  z51 := Tryz.sizeOf285
  v51 := Tryz.zeroValue285
  t59 := Tryz.underlying176
  a59 := Tryz.isAgg176
  z59 := Tryz.sizeOf176
  v59 := Tryz.zeroValue176
  t146 := Tryz.underlying310
  a146 := Tryz.isAgg310
  z146 := Tryz.sizeOf310
  v146 := Tryz.zeroValue310
  g1 := by kernel_rfl
  i3 := by kernel_rfl
  i4 := by kernel_rfl
  i5 := by kernel_rfl
  i9 := by kernel_rfl
  i46 := by kernel_rfl
  i51 := by kernel_rfl
  i59 := by kernel_rfl
  i146 := by kernel_rfl
  m1 := by kernel_rfl
  s1_3 := fun w h => Go.Proofs.cell_of_shapedOpen_int (zero := #[.int .i64 0]) (t := 3) h (of_decide_eq_true (by kernel_rfl)) (by kernel_rfl) rfl (by kernel_rfl) (by kernel_rfl) Tryz.underlying3 }
end Go.Proofs
