/- The layings of library contracts at this program, in plain words (printed by wip/layplain.py). -/
import Derived.Shelf.SlIterI.Nil
import Derived.Shelf.SortM.Plain
import Derived.Shelf.SortM.SortNone
import Derived.Test.YtbjkfgfiifnjoaaDoorProg
namespace Go.Proofs.YtbjkfgfiifnjoaaDoor
open Go.RowKit Go.Maps Go.Sort Go.Shelf
set_option maxRecDepth 100000

def Tryd.keysS_ren : Go.Shelf.Ren := ⟨fun | 7 => 72 | 10 => 108 | n => n, fun | 23 => 136 | 26 => 3 | 3 => 141 | 28 => 149 | 0 => 0 | 27 => 148 | 33 => 179 | 4 => 4 | n => n, fun | n => n⟩
theorem Tryd.keysS : Go.Proofs.SlLaysZI.n7 Tryd.prog Tryd.keysS_ren := {
  mixed := by kernel_rfl
  f7 := ⟨Tryd.f72.name, by decide, Tryd.func72.trans (congrArg some (by kernel_rfl))⟩
  f10 := ⟨Tryd.f108.name, by decide, Tryd.func108.trans (congrArg some (by kernel_rfl))⟩
  t0 := Tryd.underlying0
  a0 := Tryd.isAgg0
  z0 := Tryd.sizeOf0
  v0 := Tryd.zeroValue0
  t4 := Tryd.underlying4
  a4 := Tryd.isAgg4
  z4 := Tryd.sizeOf4
  v4 := Tryd.zeroValue4
  t23 := Tryd.underlying136
  a23 := Tryd.isAgg136
  z23 := Tryd.sizeOf136
  v23 := Tryd.zeroValue136
  t26 := Tryd.underlying3
  a26 := Tryd.isAgg3
  z26 := Tryd.sizeOf3
  v26 := Tryd.zeroValue3
  t27 := Tryd.underlying148
  a27 := Tryd.isAgg148
  z27 := Tryd.sizeOf148
  v27 := Tryd.zeroValue148
  t28 := Tryd.underlying149
  a28 := Tryd.isAgg149
  z28 := Tryd.sizeOf149
  v28 := Tryd.zeroValue149
  t33 := Tryd.underlying179
  a33 := Tryd.isAgg179
  z33 := Tryd.sizeOf179
  v33 := Tryd.zeroValue179 }

def Tryd.sortedI_ren : Go.Shelf.Ren := ⟨fun | 6 => 71 | 8 => 106 | 9 => 107 | 11 => 127 | 13 => 129 | 12 => 128 | 23 => 156 | 24 => 157 | 14 => 147 | 15 => 148 | 16 => 149 | 17 => 150 | 18 => 151 | 19 => 152 | 20 => 153 | 21 => 154 | 22 => 155 | 25 => 173 | 26 => 174 | 27 => 175 | 28 => 176 | 29 => 177 | 30 => 122 | 31 => 190 | n => n, fun | 26 => 3 | 28 => 149 | 24 => 48 | 0 => 0 | 3 => 3 | 37 => 107 | 48 => 171 | 50 => 42 | 4 => 4 | 40 => 232 | 39 => 231 | 45 => 181 | 5 => 5 | 9 => 9 | 51 => 253 | 55 => 257 | 57 => 267 | 58 => 268 | 33 => 179 | n => n, fun | n => n⟩
theorem Tryd.sortedI : Go.Proofs.SlLaysZI.n6 Tryd.prog Tryd.sortedI_ren := {
  mixed := by kernel_rfl
  f6 := ⟨Tryd.f71.name, by decide, Tryd.func71.trans (congrArg some (by kernel_rfl))⟩
  f8 := ⟨Tryd.f106.name, by decide, Tryd.func106.trans (congrArg some (by kernel_rfl))⟩
  f11 := ⟨Tryd.f127.name, by decide, Tryd.func127.trans (congrArg some (by kernel_rfl))⟩
  t0 := Tryd.underlying0
  a0 := Tryd.isAgg0
  z0 := Tryd.sizeOf0
  v0 := Tryd.zeroValue0
  t24 := Tryd.underlying48
  a24 := Tryd.isAgg48
  z24 := Tryd.sizeOf48
  v24 := Tryd.zeroValue48
  t26 := Tryd.underlying3
  a26 := Tryd.isAgg3
  z26 := Tryd.sizeOf3
  v26 := Tryd.zeroValue3
  t28 := Tryd.underlying149
  a28 := Tryd.isAgg149
  z28 := Tryd.sizeOf149
  v28 := Tryd.zeroValue149
  i26 := by kernel_rfl }

def Tryd.sortI_ren : Go.Shelf.Ren := ⟨fun | 5 => 107 | 8 => 129 | 7 => 128 | 19 => 156 | 20 => 157 | 10 => 147 | 11 => 148 | 12 => 149 | 13 => 150 | 14 => 151 | 15 => 152 | 16 => 153 | 17 => 154 | 18 => 155 | 30 => 173 | 31 => 174 | 32 => 175 | 33 => 176 | 34 => 177 | 35 => 122 | 40 => 190 | n => n, fun | 23 => 48 | 25 => 3 | 3 => 3 | 32 => 107 | 22 => 48 | 0 => 0 | 44 => 171 | 46 => 42 | 4 => 4 | 36 => 232 | 35 => 231 | 41 => 181 | 5 => 5 | 9 => 9 | 53 => 253 | 57 => 257 | 63 => 267 | 64 => 268 | n => n, fun | n => n⟩
theorem Tryd.sortI : Go.Proofs.SlLaysM.n5 Tryd.prog Tryd.sortI_ren := {
  mixed := by kernel_rfl
  f5 := ⟨Tryd.f107.name, by decide, Tryd.func107.trans (congrArg some (by kernel_rfl))⟩
  f7 := ⟨Tryd.f128.name, by decide, Tryd.func128.trans (congrArg some (by kernel_rfl))⟩
  f8 := Tryd.func129.trans (congrArg some (by kernel_rfl))
  f10 := ⟨Tryd.f147.name, by decide, Tryd.func147.trans (congrArg some (by kernel_rfl))⟩
  f11 := ⟨Tryd.f148.name, by decide, Tryd.func148.trans (congrArg some (by kernel_rfl))⟩
  f12 := ⟨Tryd.f149.name, by decide, Tryd.func149.trans (congrArg some (by kernel_rfl))⟩
  f13 := ⟨Tryd.f150.name, by decide, Tryd.func150.trans (congrArg some (by kernel_rfl))⟩
  f14 := ⟨Tryd.f151.name, by decide, Tryd.func151.trans (congrArg some (by kernel_rfl))⟩
  f15 := ⟨Tryd.f152.name, by decide, Tryd.func152.trans (congrArg some (by kernel_rfl))⟩
  f16 := ⟨Tryd.f153.name, by decide, Tryd.func153.trans (congrArg some (by kernel_rfl))⟩
  f17 := ⟨Tryd.f154.name, by decide, Tryd.func154.trans (congrArg some (by kernel_rfl))⟩
  f18 := ⟨Tryd.f155.name, by decide, Tryd.func155.trans (congrArg some (by kernel_rfl))⟩
  f19 := Tryd.func156.trans (congrArg some (by kernel_rfl))
  f20 := Tryd.func157.trans (congrArg some (by kernel_rfl))
  f30 := ⟨Tryd.f173.name, by decide, Tryd.func173.trans (congrArg some (by kernel_rfl))⟩
  f31 := Tryd.func174.trans (congrArg some (by kernel_rfl))
  f32 := Tryd.func175.trans (congrArg some (by kernel_rfl))
  f33 := ⟨Tryd.f176.name, by decide, Tryd.func176.trans (congrArg some (by kernel_rfl))⟩
  f34 := ⟨Tryd.f177.name, by decide, Tryd.func177.trans (congrArg some (by kernel_rfl))⟩
  f35 := ⟨Tryd.f122.name, by decide, Tryd.func122.trans (congrArg some (by kernel_rfl))⟩
  f40 := ⟨Tryd.f190.name, by decide, Tryd.func190.trans (congrArg some (by kernel_rfl))⟩
  t0 := Tryd.underlying0
  a0 := Tryd.isAgg0
  z0 := Tryd.sizeOf0
  v0 := Tryd.zeroValue0
  t3 := Tryd.underlying3
  a3 := Tryd.isAgg3
  z3 := Tryd.sizeOf3
  v3 := Tryd.zeroValue3
  t4 := Tryd.underlying4
  a4 := Tryd.isAgg4
  z4 := Tryd.sizeOf4
  v4 := Tryd.zeroValue4
  t5 := Tryd.underlying5
  a5 := Tryd.isAgg5
  z5 := Tryd.sizeOf5
  v5 := Tryd.zeroValue5
  t9 := Tryd.underlying9
  a9 := Tryd.isAgg9
  z9 := Tryd.sizeOf9
  v9 := Tryd.zeroValue9
  t22 := Tryd.underlying48
  a22 := Tryd.isAgg48
  z22 := Tryd.sizeOf48
  v22 := Tryd.zeroValue48
  t23 := Tryd.underlying48
  a23 := Tryd.isAgg48
  z23 := Tryd.sizeOf48
  v23 := Tryd.zeroValue48
  t25 := Tryd.underlying3
  a25 := Tryd.isAgg3
  z25 := Tryd.sizeOf3
  v25 := Tryd.zeroValue3
  t32 := Tryd.underlying107
  a32 := Tryd.isAgg107
  z32 := Tryd.sizeOf107
  v32 := Tryd.zeroValue107
  t35 := Tryd.underlying231
  a35 := Tryd.isAgg231
  z35 := Tryd.sizeOf231
  v35 := Tryd.zeroValue231
  t36 := Tryd.underlying232
  a36 := Tryd.isAgg232
  z36 := Tryd.sizeOf232
  v36 := Tryd.zeroValue232
  t41 := Tryd.underlying181
  a41 := Tryd.isAgg181
  z41 := Tryd.sizeOf181
  v41 := Tryd.zeroValue181
  t44 := Tryd.underlying171
  a44 := Tryd.isAgg171
  z44 := Tryd.sizeOf171
  v44 := Tryd.zeroValue171
  t46 := Tryd.underlying42
  a46 := Tryd.isAgg42
  z46 := Tryd.sizeOf42
  v46 := Tryd.zeroValue42
  t53 := Tryd.underlying253
  a53 := Tryd.isAgg253
  z53 := Tryd.sizeOf253
  v53 := Tryd.zeroValue253
  t57 := Tryd.underlying257
  a57 := Tryd.isAgg257
  z57 := Tryd.sizeOf257
  v57 := Tryd.zeroValue257
  t63 := Tryd.underlying267
  a63 := Tryd.isAgg267
  z63 := Tryd.sizeOf267
  v63 := Tryd.zeroValue267
  t64 := Tryd.underlying268
  a64 := Tryd.isAgg268
  z64 := Tryd.sizeOf268
  v64 := Tryd.zeroValue268 }

end Go.Proofs.YtbjkfgfiifnjoaaDoor
