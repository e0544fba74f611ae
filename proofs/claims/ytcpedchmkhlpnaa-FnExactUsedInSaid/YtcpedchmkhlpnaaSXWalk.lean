import Derived.Test.YtcpedchmkhlpnaaProg
import Derived.Test.YtcpedchmkhlpnaaSortC
import Derived.Shelf.Slices.In.SortNone
import Derived.Shelf.Slices.CompactI
import Derived.Sort.EveryDepth
namespace Go.Proofs.Ytcpedchmkhlpnaa
open Go Go.Abs RC Go.Shelf
def laysSort_ren : Go.Shelf.Ren := ⟨fun | 189 => 86 | 125 => 99 | 257 => 98 | 128 => 111 | 129 => 112 | 294 => 102 | 295 => 103 | 296 => 104 | 297 => 105 | 298 => 106 | 299 => 107 | 216 => 108 | 300 => 109 | 301 => 110 | 328 => 113 | 329 => 114 | 330 => 115 | 331 => 116 | 332 => 117 | 215 => 118 | 343 => 119 | n => n, fun | 28 => 23 | 3 => 3 | 46 => 115 | 0 => 0 | 51 => 126 | 53 => 128 | 4 => 4 | 183 => 119 | 182 => 118 | 131 => 61 | 5 => 5 | 9 => 9 | 218 => 129 | 222 => 102 | 228 => 134 | 229 => 135 | n => n, fun | n => n⟩
theorem laysSort : Go.Proofs.Lays.n189 Try.prog laysSort_ren := {
  mixed := by kernel_rfl
  f125 := Try.func99.trans (congrArg some (by kernel_rfl))
  f128 := Try.func111.trans (congrArg some (by kernel_rfl))
  f129 := Try.func112.trans (congrArg some (by kernel_rfl))
  f189 := Try.func86.trans (congrArg some (by kernel_rfl))
  f215 := Try.func118.trans (congrArg some (by kernel_rfl))
  f216 := Try.func108.trans (congrArg some (by kernel_rfl))
  f257 := Try.func98.trans (congrArg some (by kernel_rfl))
  f294 := Try.func102.trans (congrArg some (by kernel_rfl))
  f295 := Try.func103.trans (congrArg some (by kernel_rfl))
  f296 := Try.func104.trans (congrArg some (by kernel_rfl))
  f297 := Try.func105.trans (congrArg some (by kernel_rfl))
  f298 := Try.func106.trans (congrArg some (by kernel_rfl))
  f299 := Try.func107.trans (congrArg some (by kernel_rfl))
  f300 := Try.func109.trans (congrArg some (by kernel_rfl))
  f301 := Try.func110.trans (congrArg some (by kernel_rfl))
  f328 := Try.func113.trans (congrArg some (by kernel_rfl))
  f329 := Try.func114.trans (congrArg some (by kernel_rfl))
  f330 := Try.func115.trans (congrArg some (by kernel_rfl))
  f331 := Try.func116.trans (congrArg some (by kernel_rfl))
  f332 := Try.func117.trans (congrArg some (by kernel_rfl))
  f343 := Try.func119.trans (congrArg some (by kernel_rfl))
  t0 := Try.underlying0
  a0 := Try.isAgg0
  z0 := Try.sizeOf0
  v0 := Try.zeroValue0
  t3 := Try.underlying3
  a3 := Try.isAgg3
  z3 := Try.sizeOf3
  v3 := Try.zeroValue3
  t4 := Try.underlying4
  a4 := Try.isAgg4
  z4 := Try.sizeOf4
  v4 := Try.zeroValue4
  t5 := Try.underlying5
  a5 := Try.isAgg5
  z5 := Try.sizeOf5
  v5 := Try.zeroValue5
  t9 := Try.underlying9
  a9 := Try.isAgg9
  z9 := Try.sizeOf9
  v9 := Try.zeroValue9
  t28 := Try.underlying23
  a28 := Try.isAgg23
  z28 := Try.sizeOf23
  v28 := Try.zeroValue23
  t46 := Try.underlying115
  a46 := Try.isAgg115
  z46 := Try.sizeOf115
  v46 := Try.zeroValue115
  t51 := Try.underlying126
  a51 := Try.isAgg126
  z51 := Try.sizeOf126
  v51 := Try.zeroValue126
  t53 := Try.underlying128
  a53 := Try.isAgg128
  z53 := Try.sizeOf128
  v53 := Try.zeroValue128
  t131 := Try.underlying61
  a131 := Try.isAgg61
  z131 := Try.sizeOf61
  v131 := Try.zeroValue61
  t182 := Try.underlying118
  a182 := Try.isAgg118
  z182 := Try.sizeOf118
  v182 := Try.zeroValue118
  t183 := Try.underlying119
  a183 := Try.isAgg119
  z183 := Try.sizeOf119
  v183 := Try.zeroValue119
  t218 := Try.underlying129
  a218 := Try.isAgg129
  z218 := Try.sizeOf129
  v218 := Try.zeroValue129
  t222 := Try.underlying102
  a222 := Try.isAgg102
  z222 := Try.sizeOf102
  v222 := Try.zeroValue102
  t228 := Try.underlying134
  a228 := Try.isAgg134
  z228 := Try.sizeOf134
  v228 := Try.zeroValue134
  t229 := Try.underlying135
  a229 := Try.isAgg135
  z229 := Try.sizeOf135
  v229 := Try.zeroValue135 }
def laysCompact_ren : Go.Shelf.Ren := ⟨fun | 20 => 87 | n => n, fun | 22 => 23 | 3 => 3 | 4 => 4 | 0 => 0 | n => n, fun | n => n⟩
theorem laysCompact : Go.Proofs.Lays2.n20 Try.prog laysCompact_ren := {
  mixed := by kernel_rfl
  f20 := Try.func87.trans (congrArg some (by kernel_rfl))
  t0 := Try.underlying0
  a0 := Try.isAgg0
  z0 := Try.sizeOf0
  v0 := Try.zeroValue0
  t3 := Try.underlying3
  a3 := Try.isAgg3
  z3 := Try.sizeOf3
  v3 := Try.zeroValue3
  t4 := Try.underlying4
  a4 := Try.isAgg4
  z4 := Try.sizeOf4
  v4 := Try.zeroValue4
  t22 := Try.underlying23
  a22 := Try.isAgg23
  z22 := Try.sizeOf23
  v22 := Try.zeroValue23
  i3 := by kernel_rfl }
theorem slices_Sort_ok {s0 r : List Int} (h : slices_Sort_int_int s0 = some r) : ACalls Try.prog 86 [.own 0 0 (List.length s0)] [⟨0, 3, 1, List.map eI s0⟩] (fun v st => v = .tup [] ∧ st = [⟨0, 3, 1, List.map eI r⟩]) := by
  unfold slices_Sort_int_int at h
  split at h
  · rename_i hl
    cases h
    exact sort_c hl (fun b c zs w h1 h2 h3 => calls_of_every_depth fun D => AnyS.slices_Sort_int_in laysSort D b 0 c zs w h1 h2 h3) (fun a c w => Any.slices_Sort_int_none laysSort a c w)
  · cases h
theorem slices_Compact_ok {s0 r : List Int} (h : slices_Compact_int_int s0 = some r) : ACalls Try.prog 87 [.own 0 0 (List.length s0)] [⟨0, 3, 1, List.map eI s0⟩] (fun v st => v = .own 0 1 (List.length r) ∧ st = [⟨1, 3, 1, List.map eI r⟩]) := by
  cases h
  exact compact_c (fun b c zs w h1 h2 h3 => Any.slices_Compact_int laysCompact b 0 c zs w h1 h2 h3) (fun a c w => Any.slices_Compact_int_empty laysCompact a c w)
end Go.Proofs.Ytcpedchmkhlpnaa

