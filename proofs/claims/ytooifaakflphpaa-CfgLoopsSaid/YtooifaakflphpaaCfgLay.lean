/- The layings of library contracts at this program, in plain words (printed by wip/layplain.py). -/
import Derived.Shelf.SlIterI.Nil
import Derived.Shelf.SortM.Plain
import Derived.Shelf.SortM.SortNone
import Derived.Test.YtooifaakflphpaaProg
namespace Go.Proofs.Ytooifaakflphpaa
open Go.RowKit Go.Maps Go.Sort Go.Shelf
set_option maxRecDepth 100000

def Try.sortI_ren : Go.Shelf.Ren := ⟨fun | 5 => 31 | 8 => 40 | 7 => 39 | 19 => 62 | 20 => 63 | 10 => 53 | 11 => 54 | 12 => 55 | 13 => 56 | 14 => 57 | 15 => 58 | 16 => 59 | 17 => 60 | 18 => 61 | 30 => 64 | 31 => 65 | 32 => 66 | 33 => 67 | 34 => 68 | 35 => 69 | 40 => 70 | n => n, fun | 23 => 24 | 25 => 3 | 3 => 3 | 32 => 65 | 22 => 24 | 0 => 0 | 44 => 85 | 46 => 38 | 4 => 4 | 36 => 79 | 35 => 78 | 41 => 71 | 5 => 5 | 9 => 9 | 53 => 87 | 57 => 91 | 63 => 93 | 64 => 94 | n => n, fun | n => n⟩
theorem Try.sortI : Go.Proofs.SlLaysM.n5 Try.prog Try.sortI_ren := {
  mixed := by kernel_rfl
  f5 := ⟨Try.f31.name, by decide, Try.func31.trans (congrArg some (by kernel_rfl))⟩
  f7 := ⟨Try.f39.name, by decide, Try.func39.trans (congrArg some (by kernel_rfl))⟩
  f8 := Try.func40.trans (congrArg some (by kernel_rfl))
  f10 := ⟨Try.f53.name, by decide, Try.func53.trans (congrArg some (by kernel_rfl))⟩
  f11 := ⟨Try.f54.name, by decide, Try.func54.trans (congrArg some (by kernel_rfl))⟩
  f12 := ⟨Try.f55.name, by decide, Try.func55.trans (congrArg some (by kernel_rfl))⟩
  f13 := ⟨Try.f56.name, by decide, Try.func56.trans (congrArg some (by kernel_rfl))⟩
  f14 := ⟨Try.f57.name, by decide, Try.func57.trans (congrArg some (by kernel_rfl))⟩
  f15 := ⟨Try.f58.name, by decide, Try.func58.trans (congrArg some (by kernel_rfl))⟩
  f16 := ⟨Try.f59.name, by decide, Try.func59.trans (congrArg some (by kernel_rfl))⟩
  f17 := ⟨Try.f60.name, by decide, Try.func60.trans (congrArg some (by kernel_rfl))⟩
  f18 := ⟨Try.f61.name, by decide, Try.func61.trans (congrArg some (by kernel_rfl))⟩
  f19 := Try.func62.trans (congrArg some (by kernel_rfl))
  f20 := Try.func63.trans (congrArg some (by kernel_rfl))
  f30 := ⟨Try.f64.name, by decide, Try.func64.trans (congrArg some (by kernel_rfl))⟩
  f31 := Try.func65.trans (congrArg some (by kernel_rfl))
  f32 := Try.func66.trans (congrArg some (by kernel_rfl))
  f33 := ⟨Try.f67.name, by decide, Try.func67.trans (congrArg some (by kernel_rfl))⟩
  f34 := ⟨Try.f68.name, by decide, Try.func68.trans (congrArg some (by kernel_rfl))⟩
  f35 := ⟨Try.f69.name, by decide, Try.func69.trans (congrArg some (by kernel_rfl))⟩
  f40 := ⟨Try.f70.name, by decide, Try.func70.trans (congrArg some (by kernel_rfl))⟩
  t0 := Try.underlying0
  a0 := Try.isAgg0
  z0 := Try.sizeOf0
  v0 := Try.zeroValue0
  t3 := Try.underlying3
  a3 := Try.isAgg3
  z3 := Try.sizeOf3
  v3 := Try.zeroValue3
  t4 := Try.underlying4
  a4 := Try.isAgg4
  z4 := Try.sizeOf4
  v4 := Try.zeroValue4
  t5 := Try.underlying5
  a5 := Try.isAgg5
  z5 := Try.sizeOf5
  v5 := Try.zeroValue5
  t9 := Try.underlying9
  a9 := Try.isAgg9
  z9 := Try.sizeOf9
  v9 := Try.zeroValue9
  t22 := Try.underlying24
  a22 := Try.isAgg24
  z22 := Try.sizeOf24
  v22 := Try.zeroValue24
  t23 := Try.underlying24
  a23 := Try.isAgg24
  z23 := Try.sizeOf24
  v23 := Try.zeroValue24
  t25 := Try.underlying3
  a25 := Try.isAgg3
  z25 := Try.sizeOf3
  v25 := Try.zeroValue3
  t32 := Try.underlying65
  a32 := Try.isAgg65
  z32 := Try.sizeOf65
  v32 := Try.zeroValue65
  t35 := Try.underlying78
  a35 := Try.isAgg78
  z35 := Try.sizeOf78
  v35 := Try.zeroValue78
  t36 := Try.underlying79
  a36 := Try.isAgg79
  z36 := Try.sizeOf79
  v36 := Try.zeroValue79
  t41 := Try.underlying71
  a41 := Try.isAgg71
  z41 := Try.sizeOf71
  v41 := Try.zeroValue71
  t44 := Try.underlying85
  a44 := Try.isAgg85
  z44 := Try.sizeOf85
  v44 := Try.zeroValue85
  t46 := Try.underlying38
  a46 := Try.isAgg38
  z46 := Try.sizeOf38
  v46 := Try.zeroValue38
  t53 := Try.underlying87
  a53 := Try.isAgg87
  z53 := Try.sizeOf87
  v53 := Try.zeroValue87
  t57 := Try.underlying91
  a57 := Try.isAgg91
  z57 := Try.sizeOf91
  v57 := Try.zeroValue91
  t63 := Try.underlying93
  a63 := Try.isAgg93
  z63 := Try.sizeOf93
  v63 := Try.zeroValue93
  t64 := Try.underlying94
  a64 := Try.isAgg94
  z64 := Try.sizeOf94
  v64 := Try.zeroValue94 }

end Go.Proofs.Ytooifaakflphpaa
