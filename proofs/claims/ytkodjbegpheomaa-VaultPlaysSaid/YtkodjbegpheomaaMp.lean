/- The facts of maps.Clone, maps.Keys and slices.Sorted of the library at this program: their bodies and types are those of the shelf. -/
import Derived.Shelf.SlIterI.Nil
import Derived.Shelf.SlIterI.Sorted
import Derived.Shelf.SortM.Plain
import Derived.Shelf.SortM.SortNone
import Derived.Shelf.SlMaps.Clone
import Derived.Test.YtkodjbegpheomaaVdZ
import Derived.Ground.GgzProg
import Derived.Ground.SlgmProg
import Derived.Ground.SlmcProg
import Derived.Test.YtkodjbegpheomaaProg
namespace Go.Proofs.Ytkodjbegpheomaa
open Go.Shelf
def keysM_ren : Go.Shelf.Ren := ⟨fun | 7 => 37 | 10 => 55 | n => n, fun | 23 => 59 | 26 => 3 | 3 => 30 | 28 => 89 | 0 => 0 | 27 => 88 | 33 => 109 | 4 => 4 | n => n, fun | n => n⟩
theorem keysM : Go.Proofs.SlLaysZI.n7 Try.prog keysM_ren := {
  mixed := by kernel_rfl
  f7 := ⟨Try.f37.name, by decide, Try.func37.trans (congrArg some (by kernel_rfl))⟩
  f10 := ⟨Try.f55.name, by decide, Try.func55.trans (congrArg some (by kernel_rfl))⟩
  t0 := Try.underlying0
  a0 := Try.isAgg0
  z0 := Try.sizeOf0
  v0 := Try.zeroValue0
  t4 := Try.underlying4
  a4 := Try.isAgg4
  z4 := Try.sizeOf4
  v4 := Try.zeroValue4
  t23 := Try.underlying59
  a23 := Try.isAgg59
  z23 := Try.sizeOf59
  v23 := Try.zeroValue59
  t26 := Try.underlying3
  a26 := Try.isAgg3
  z26 := Try.sizeOf3
  v26 := Try.zeroValue3
  t27 := Try.underlying88
  a27 := Try.isAgg88
  z27 := Try.sizeOf88
  v27 := Try.zeroValue88
  t28 := Try.underlying89
  a28 := Try.isAgg89
  z28 := Try.sizeOf89
  v28 := Try.zeroValue89
  t33 := Try.underlying109
  a33 := Try.isAgg109
  z33 := Try.sizeOf109
  v33 := Try.zeroValue109 }
def sortedM_ren : Go.Shelf.Ren := ⟨fun | 6 => 36 | 8 => 53 | 9 => 54 | 11 => 72 | 13 => 74 | 12 => 73 | 23 => 89 | 24 => 90 | 14 => 80 | 15 => 81 | 16 => 82 | 17 => 83 | 18 => 84 | 19 => 85 | 20 => 86 | 21 => 87 | 22 => 88 | 25 => 92 | 26 => 93 | 27 => 94 | 28 => 95 | 29 => 96 | 30 => 97 | 31 => 99 | n => n, fun | 26 => 3 | 28 => 89 | 24 => 41 | 0 => 0 | 3 => 3 | 37 => 104 | 48 => 144 | 50 => 146 | 4 => 4 | 40 => 136 | 39 => 135 | 45 => 141 | 5 => 5 | 9 => 9 | 51 => 148 | 55 => 152 | 57 => 156 | 58 => 120 | 33 => 109 | n => n, fun | n => n⟩
theorem sortedM : Go.Proofs.SlLaysZI.n6 Try.prog sortedM_ren := {
  mixed := by kernel_rfl
  f6 := ⟨Try.f36.name, by decide, Try.func36.trans (congrArg some (by kernel_rfl))⟩
  f8 := ⟨Try.f53.name, by decide, Try.func53.trans (congrArg some (by kernel_rfl))⟩
  f11 := ⟨Try.f72.name, by decide, Try.func72.trans (congrArg some (by kernel_rfl))⟩
  t0 := Try.underlying0
  a0 := Try.isAgg0
  z0 := Try.sizeOf0
  v0 := Try.zeroValue0
  t24 := Try.underlying41
  a24 := Try.isAgg41
  z24 := Try.sizeOf41
  v24 := Try.zeroValue41
  t26 := Try.underlying3
  a26 := Try.isAgg3
  z26 := Try.sizeOf3
  v26 := Try.zeroValue3
  t28 := Try.underlying89
  a28 := Try.isAgg89
  z28 := Try.sizeOf89
  v28 := Try.zeroValue89
  i26 := by kernel_rfl }
def sortM_ren : Go.Shelf.Ren := ⟨fun | 5 => 54 | 8 => 74 | 7 => 73 | 19 => 89 | 20 => 90 | 10 => 80 | 11 => 81 | 12 => 82 | 13 => 83 | 14 => 84 | 15 => 85 | 16 => 86 | 17 => 87 | 18 => 88 | 30 => 92 | 31 => 93 | 32 => 94 | 33 => 95 | 34 => 96 | 35 => 97 | 40 => 99 | n => n, fun | 23 => 41 | 25 => 3 | 3 => 3 | 32 => 104 | 22 => 41 | 0 => 0 | 44 => 144 | 46 => 146 | 4 => 4 | 36 => 136 | 35 => 135 | 41 => 141 | 5 => 5 | 9 => 9 | 53 => 148 | 57 => 152 | 63 => 156 | 64 => 120 | n => n, fun | n => n⟩
theorem sortM : Go.Proofs.SlLaysM.n5 Try.prog sortM_ren := {
  mixed := by kernel_rfl
  f5 := ⟨Try.f54.name, by decide, Try.func54.trans (congrArg some (by kernel_rfl))⟩
  f7 := ⟨Try.f73.name, by decide, Try.func73.trans (congrArg some (by kernel_rfl))⟩
  f8 := Try.func74.trans (congrArg some (by kernel_rfl))
  f10 := ⟨Try.f80.name, by decide, Try.func80.trans (congrArg some (by kernel_rfl))⟩
  f11 := ⟨Try.f81.name, by decide, Try.func81.trans (congrArg some (by kernel_rfl))⟩
  f12 := ⟨Try.f82.name, by decide, Try.func82.trans (congrArg some (by kernel_rfl))⟩
  f13 := ⟨Try.f83.name, by decide, Try.func83.trans (congrArg some (by kernel_rfl))⟩
  f14 := ⟨Try.f84.name, by decide, Try.func84.trans (congrArg some (by kernel_rfl))⟩
  f15 := ⟨Try.f85.name, by decide, Try.func85.trans (congrArg some (by kernel_rfl))⟩
  f16 := ⟨Try.f86.name, by decide, Try.func86.trans (congrArg some (by kernel_rfl))⟩
  f17 := ⟨Try.f87.name, by decide, Try.func87.trans (congrArg some (by kernel_rfl))⟩
  f18 := ⟨Try.f88.name, by decide, Try.func88.trans (congrArg some (by kernel_rfl))⟩
  f19 := Try.func89.trans (congrArg some (by kernel_rfl))
  f20 := Try.func90.trans (congrArg some (by kernel_rfl))
  f30 := ⟨Try.f92.name, by decide, Try.func92.trans (congrArg some (by kernel_rfl))⟩
  f31 := Try.func93.trans (congrArg some (by kernel_rfl))
  f32 := Try.func94.trans (congrArg some (by kernel_rfl))
  f33 := ⟨Try.f95.name, by decide, Try.func95.trans (congrArg some (by kernel_rfl))⟩
  f34 := ⟨Try.f96.name, by decide, Try.func96.trans (congrArg some (by kernel_rfl))⟩
  f35 := ⟨Try.f97.name, by decide, Try.func97.trans (congrArg some (by kernel_rfl))⟩
  f40 := ⟨Try.f99.name, by decide, Try.func99.trans (congrArg some (by kernel_rfl))⟩
  t0 := Try.underlying0
  a0 := Try.isAgg0
  z0 := Try.sizeOf0
  v0 := Try.zeroValue0
  t3 := Try.underlying3
  a3 := Try.isAgg3
  z3 := Try.sizeOf3
  v3 := Try.zeroValue3
  t4 := Try.underlying4
  a4 := Try.isAgg4
  z4 := Try.sizeOf4
  v4 := Try.zeroValue4
  t5 := Try.underlying5
  a5 := Try.isAgg5
  z5 := Try.sizeOf5
  v5 := Try.zeroValue5
  t9 := Try.underlying9
  a9 := Try.isAgg9
  z9 := Try.sizeOf9
  v9 := Try.zeroValue9
  t22 := Try.underlying41
  a22 := Try.isAgg41
  z22 := Try.sizeOf41
  v22 := Try.zeroValue41
  t23 := Try.underlying41
  a23 := Try.isAgg41
  z23 := Try.sizeOf41
  v23 := Try.zeroValue41
  t25 := Try.underlying3
  a25 := Try.isAgg3
  z25 := Try.sizeOf3
  v25 := Try.zeroValue3
  t32 := Try.underlying104
  a32 := Try.isAgg104
  z32 := Try.sizeOf104
  v32 := Try.zeroValue104
  t35 := Try.underlying135
  a35 := Try.isAgg135
  z35 := Try.sizeOf135
  v35 := Try.zeroValue135
  t36 := Try.underlying136
  a36 := Try.isAgg136
  z36 := Try.sizeOf136
  v36 := Try.zeroValue136
  t41 := Try.underlying141
  a41 := Try.isAgg141
  z41 := Try.sizeOf141
  v41 := Try.zeroValue141
  t44 := Try.underlying144
  a44 := Try.isAgg144
  z44 := Try.sizeOf144
  v44 := Try.zeroValue144
  t46 := Try.underlying146
  a46 := Try.isAgg146
  z46 := Try.sizeOf146
  v46 := Try.zeroValue146
  t53 := Try.underlying148
  a53 := Try.isAgg148
  z53 := Try.sizeOf148
  v53 := Try.zeroValue148
  t57 := Try.underlying152
  a57 := Try.isAgg152
  z57 := Try.sizeOf152
  v57 := Try.zeroValue152
  t63 := Try.underlying156
  a63 := Try.isAgg156
  z63 := Try.sizeOf156
  v63 := Try.zeroValue156
  t64 := Try.underlying120
  a64 := Try.isAgg120
  z64 := Try.sizeOf120
  v64 := Try.zeroValue120 }
def cloneM_ren : Go.Shelf.Ren := ⟨fun | 5 => 47 | 7 => 64 | n => n, fun | 23 => 59 | 25 => 3 | 3 => 30 | 4 => 4 | 20 => 20 | n => n, fun | n => n⟩
theorem cloneM : Go.Proofs.SlLaysW.n5 Try.prog cloneM_ren := {
  mixed := by kernel_rfl
  f5 := ⟨Try.f47.name, by decide, Try.func47.trans (congrArg some (by kernel_rfl))⟩
  f7 := Try.func64.trans (congrArg some (by kernel_rfl))
  t4 := Try.underlying4
  a4 := Try.isAgg4
  z4 := Try.sizeOf4
  v4 := Try.zeroValue4
  t20 := Try.underlying20
  a20 := Try.isAgg20
  z20 := Try.sizeOf20
  v20 := Try.zeroValue20
  t23 := Try.underlying59
  a23 := Try.isAgg59
  z23 := Try.sizeOf59
  v23 := Try.zeroValue59 }
theorem sortsM (m : Nat) : AnyZI.SortsIn Try.prog sortedM_ren Fence.wide m :=
  ⟨fun blk off cap ss W hH hblk hsz => callsIn_wide.2 (AnyM.slices_Sort_int sortM blk off cap ss W hH hblk hsz), fun p cap W => callsIn_wide.2 (AnyM.slices_Sort_int_none sortM p cap W)⟩
theorem okMapClone : Vc.SpecOk Try.prog 47 Vc.SmapClone := Vc.okMapClone_of cloneM
theorem okMapKeys : Vc.SpecOk Try.prog 37 (Vc.SmapKeys 55) := Vc.okMapKeys_of keysM
theorem okSorted : Vc.SpecOk Try.prog 36 (Vc.Ssorted 55 3) := Vc.okSorted_of (ρk := keysM_ren) { keysM with } sortedM sortsM (enters_of Try.func54 (by kernel_rfl) rfl) (enters_of Try.func55 (by kernel_rfl) rfl)
end Go.Proofs.Ytkodjbegpheomaa
