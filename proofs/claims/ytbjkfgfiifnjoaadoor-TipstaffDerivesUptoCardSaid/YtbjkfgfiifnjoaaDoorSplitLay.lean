/- The layings of library contracts at this program, in plain words (printed by wip/layplain.py). -/
import Derived.Shelf.SlIterI.Nil
import Derived.Shelf.SortM.Plain
import Derived.Shelf.SortM.SortNone
import Derived.Shelf.Strings.SplitShaped
import Derived.Shelf.LaysM
import Derived.Test.YtbjkfgfiifnjoaaDoorProg
namespace Go.Proofs.YtbjkfgfiifnjoaaDoor
open Go.RowKit Go.Maps Go.Sort Go.Shelf
set_option maxRecDepth 100000

def Tryd.split_ren : Go.Shelf.Ren := ⟨fun | 146 => 75 | 221 => 109 | 268 => 130 | 138 => 131 | 143 => 132 | 195 => 158 | 197 => 159 | 218 => 160 | 219 => 161 | 260 => 178 | 217 => 179 | 225 => 180 | 224 => 181 | 267 => 182 | 266 => 191 | 314 => 192 | n => n, fun | 9 => 9 | 31 => 76 | 3 => 3 | 4 => 4 | 0 => 0 | 105 => 240 | 21 => 21 | 5 => 5 | 46 => 107 | 119 => 270 | 139 => 273 | 138 => 272 | 146 => 274 | 51 => 171 | n => n, fun | 1 => 4 | 3 => 6 | 4 => 7 | n => n⟩
theorem Tryd.split : Go.Proofs.LaysM.n146 Tryd.prog Tryd.split_ren := {
  mixed := by kernel_rfl
  f138 := Tryd.func131.trans (congrArg some (by kernel_rfl))
  f143 := Tryd.func132.trans (congrArg some (by kernel_rfl))
  f146 := Tryd.func75.trans (congrArg some (by kernel_rfl))
  f195 := Tryd.func158.trans (congrArg some (by kernel_rfl))
  f197 := Tryd.func159.trans (congrArg some (by kernel_rfl))
  f217 := Tryd.func179.trans (congrArg some (by kernel_rfl))
  f218 := Tryd.func160.trans (congrArg some (by kernel_rfl))
  f219 := Tryd.func161.trans (congrArg some (by kernel_rfl))
  f221 := Tryd.func109.trans (congrArg some (by kernel_rfl))
  f224 := Tryd.func181.trans (congrArg some (by kernel_rfl))
  f225 := Tryd.func180.trans (congrArg some (by kernel_rfl))
  f260 := Tryd.func178.trans (congrArg some (by kernel_rfl))
  f266 := Tryd.func191.trans (congrArg some (by kernel_rfl))
  f267 := Tryd.func182.trans (congrArg some (by kernel_rfl))
  f268 := Tryd.func130.trans (congrArg some (by kernel_rfl))
  f314 := Tryd.func192.trans (congrArg some (by kernel_rfl))
  t0 := Tryd.underlying0
  a0 := Tryd.isAgg0
  z0 := Tryd.sizeOf0
  v0 := Tryd.zeroValue0
  t3 := Tryd.underlying3
  a3 := Tryd.isAgg3
  z3 := Tryd.sizeOf3
  v3 := Tryd.zeroValue3
  t4 := Tryd.underlying4
  a4 := Tryd.isAgg4
  z4 := Tryd.sizeOf4
  v4 := Tryd.zeroValue4
  t5 := Tryd.underlying5
  a5 := Tryd.isAgg5
  z5 := Tryd.sizeOf5
  v5 := Tryd.zeroValue5
  t9 := Tryd.underlying9
  a9 := Tryd.isAgg9
  z9 := Tryd.sizeOf9
  v9 := Tryd.zeroValue9
  t21 := Tryd.underlying21
  a21 := Tryd.isAgg21
  z21 := Tryd.sizeOf21
  v21 := Tryd.zeroValue21
  t31 := Tryd.underlying76
  a31 := Tryd.isAgg76
  z31 := Tryd.sizeOf76
  v31 := Tryd.zeroValue76
  t46 := Tryd.underlying107
  a46 := Tryd.isAgg107
  z46 := Tryd.sizeOf107
  v46 := Tryd.zeroValue107
  t51 := Tryd.underlying171
  a51 := Tryd.isAgg171
  z51 := Tryd.sizeOf171
  v51 := Tryd.zeroValue171
  t105 := Tryd.underlying240
  a105 := Tryd.isAgg240
  z105 := Tryd.sizeOf240
  v105 := Tryd.zeroValue240
  t119 := Tryd.underlying270
  a119 := Tryd.isAgg270
  z119 := Tryd.sizeOf270
  t138 := Tryd.underlying272
  a138 := Tryd.isAgg272
  z138 := Tryd.sizeOf272
  v138 := Tryd.zeroValue272
  t139 := Tryd.underlying273
  a139 := Tryd.isAgg273
  z139 := Tryd.sizeOf273
  v139 := Tryd.zeroValue273
  t146 := Tryd.underlying274
  a146 := Tryd.isAgg274
  z146 := Tryd.sizeOf274
  v146 := Tryd.zeroValue274
  g1 := by kernel_rfl
  g3 := by kernel_rfl
  g4 := by kernel_rfl
  i0 := by kernel_rfl
  i3 := by kernel_rfl
  i4 := by kernel_rfl
  i5 := by kernel_rfl
  i9 := by kernel_rfl
  i21 := by kernel_rfl
  i31 := by kernel_rfl
  i46 := by kernel_rfl
  i51 := by kernel_rfl
  i105 := by kernel_rfl
  i138 := by kernel_rfl
  i139 := by kernel_rfl
  i146 := by kernel_rfl
  m1 := by kernel_rfl
  s1_3 := fun w h => Go.Proofs.cell_of_shapedOpen_int (zero := #[.int .i64 0]) (t := 3) h (of_decide_eq_true (by kernel_rfl)) (by kernel_rfl) rfl (by kernel_rfl) (by kernel_rfl) Tryd.underlying3
  m3 := by kernel_rfl
  m4 := by kernel_rfl }

end Go.Proofs.YtbjkfgfiifnjoaaDoor
