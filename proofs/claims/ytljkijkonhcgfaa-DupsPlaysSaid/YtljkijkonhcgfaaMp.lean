/- The facts of maps.Clone, maps.Keys and slices.Sorted of the library at this program: their bodies and types are those of the shelf. -/
import Derived.Shelf.SlIterI.Nil
import Derived.Shelf.SlIterI.Sorted
import Derived.Shelf.SortM.Plain
import Derived.Shelf.SortM.SortNone
import Derived.Shelf.SlMaps.Clone
import Derived.Test.YtljkijkonhcgfaaVdZ
import Derived.Ground.GgzProg
import Derived.Ground.SlgmProg
import Derived.Ground.SlmcProg
import Derived.Test.YtljkijkonhcgfaaProg
namespace Go.Proofs.Ytljkijkonhcgfaa
open Go.Shelf
def keysM_ren : Go.Shelf.Ren := ⟨fun | 7 => 18 | 10 => 30 | n => n, fun | 23 => 24 | 26 => 3 | 3 => 53 | 28 => 58 | 0 => 0 | 27 => 57 | 33 => 71 | 4 => 4 | n => n, fun | n => n⟩
theorem keysM : Go.Proofs.SlLaysZI.n7 Try.prog keysM_ren := {
  mixed := by kernel_rfl
  f7 := ⟨Try.f18.name, by decide, Try.func18.trans (congrArg some (by kernel_rfl))⟩
  f10 := ⟨Try.f30.name, by decide, Try.func30.trans (congrArg some (by kernel_rfl))⟩
  t0 := Try.underlying0
  a0 := Try.isAgg0
  z0 := Try.sizeOf0
  v0 := Try.zeroValue0
  t4 := Try.underlying4
  a4 := Try.isAgg4
  z4 := Try.sizeOf4
  v4 := Try.zeroValue4
  t23 := Try.underlying24
  a23 := Try.isAgg24
  z23 := Try.sizeOf24
  v23 := Try.zeroValue24
  t26 := Try.underlying3
  a26 := Try.isAgg3
  z26 := Try.sizeOf3
  v26 := Try.zeroValue3
  t27 := Try.underlying57
  a27 := Try.isAgg57
  z27 := Try.sizeOf57
  v27 := Try.zeroValue57
  t28 := Try.underlying58
  a28 := Try.isAgg58
  z28 := Try.sizeOf58
  v28 := Try.zeroValue58
  t33 := Try.underlying71
  a33 := Try.isAgg71
  z33 := Try.sizeOf71
  v33 := Try.zeroValue71 }
def sortedM_ren : Go.Shelf.Ren := ⟨fun | 6 => 17 | 8 => 28 | 9 => 29 | 11 => 34 | 13 => 36 | 12 => 35 | 23 => 46 | 24 => 47 | 14 => 37 | 15 => 38 | 16 => 39 | 17 => 40 | 18 => 41 | 19 => 42 | 20 => 43 | 21 => 44 | 22 => 45 | 25 => 48 | 26 => 49 | 27 => 50 | 28 => 51 | 29 => 52 | 30 => 53 | 31 => 54 | n => n, fun | 26 => 3 | 28 => 58 | 24 => 31 | 0 => 0 | 3 => 3 | 37 => 78 | 48 => 92 | 50 => 94 | 4 => 4 | 40 => 84 | 39 => 83 | 45 => 89 | 5 => 5 | 9 => 9 | 51 => 95 | 55 => 99 | 57 => 101 | 58 => 43 | 33 => 71 | n => n, fun | n => n⟩
theorem sortedM : Go.Proofs.SlLaysZI.n6 Try.prog sortedM_ren := {
  mixed := by kernel_rfl
  f6 := ⟨Try.f17.name, by decide, Try.func17.trans (congrArg some (by kernel_rfl))⟩
  f8 := ⟨Try.f28.name, by decide, Try.func28.trans (congrArg some (by kernel_rfl))⟩
  f11 := ⟨Try.f34.name, by decide, Try.func34.trans (congrArg some (by kernel_rfl))⟩
  t0 := Try.underlying0
  a0 := Try.isAgg0
  z0 := Try.sizeOf0
  v0 := Try.zeroValue0
  t24 := Try.underlying31
  a24 := Try.isAgg31
  z24 := Try.sizeOf31
  v24 := Try.zeroValue31
  t26 := Try.underlying3
  a26 := Try.isAgg3
  z26 := Try.sizeOf3
  v26 := Try.zeroValue3
  t28 := Try.underlying58
  a28 := Try.isAgg58
  z28 := Try.sizeOf58
  v28 := Try.zeroValue58
  i26 := by kernel_rfl }
def sortM_ren : Go.Shelf.Ren := ⟨fun | 5 => 29 | 8 => 36 | 7 => 35 | 19 => 46 | 20 => 47 | 10 => 37 | 11 => 38 | 12 => 39 | 13 => 40 | 14 => 41 | 15 => 42 | 16 => 43 | 17 => 44 | 18 => 45 | 30 => 48 | 31 => 49 | 32 => 50 | 33 => 51 | 34 => 52 | 35 => 53 | 40 => 54 | n => n, fun | 23 => 31 | 25 => 3 | 3 => 3 | 32 => 78 | 22 => 31 | 0 => 0 | 44 => 92 | 46 => 94 | 4 => 4 | 36 => 84 | 35 => 83 | 41 => 89 | 5 => 5 | 9 => 9 | 53 => 95 | 57 => 99 | 63 => 101 | 64 => 43 | n => n, fun | n => n⟩
theorem sortM : Go.Proofs.SlLaysM.n5 Try.prog sortM_ren := {
  mixed := by kernel_rfl
  f5 := ⟨Try.f29.name, by decide, Try.func29.trans (congrArg some (by kernel_rfl))⟩
  f7 := ⟨Try.f35.name, by decide, Try.func35.trans (congrArg some (by kernel_rfl))⟩
  f8 := Try.func36.trans (congrArg some (by kernel_rfl))
  f10 := ⟨Try.f37.name, by decide, Try.func37.trans (congrArg some (by kernel_rfl))⟩
  f11 := ⟨Try.f38.name, by decide, Try.func38.trans (congrArg some (by kernel_rfl))⟩
  f12 := ⟨Try.f39.name, by decide, Try.func39.trans (congrArg some (by kernel_rfl))⟩
  f13 := ⟨Try.f40.name, by decide, Try.func40.trans (congrArg some (by kernel_rfl))⟩
  f14 := ⟨Try.f41.name, by decide, Try.func41.trans (congrArg some (by kernel_rfl))⟩
  f15 := ⟨Try.f42.name, by decide, Try.func42.trans (congrArg some (by kernel_rfl))⟩
  f16 := ⟨Try.f43.name, by decide, Try.func43.trans (congrArg some (by kernel_rfl))⟩
  f17 := ⟨Try.f44.name, by decide, Try.func44.trans (congrArg some (by kernel_rfl))⟩
  f18 := ⟨Try.f45.name, by decide, Try.func45.trans (congrArg some (by kernel_rfl))⟩
  f19 := Try.func46.trans (congrArg some (by kernel_rfl))
  f20 := Try.func47.trans (congrArg some (by kernel_rfl))
  f30 := ⟨Try.f48.name, by decide, Try.func48.trans (congrArg some (by kernel_rfl))⟩
  f31 := Try.func49.trans (congrArg some (by kernel_rfl))
  f32 := Try.func50.trans (congrArg some (by kernel_rfl))
  f33 := ⟨Try.f51.name, by decide, Try.func51.trans (congrArg some (by kernel_rfl))⟩
  f34 := ⟨Try.f52.name, by decide, Try.func52.trans (congrArg some (by kernel_rfl))⟩
  f35 := ⟨Try.f53.name, by decide, Try.func53.trans (congrArg some (by kernel_rfl))⟩
  f40 := ⟨Try.f54.name, by decide, Try.func54.trans (congrArg some (by kernel_rfl))⟩
  t0 := Try.underlying0
  a0 := Try.isAgg0
  z0 := Try.sizeOf0
  v0 := Try.zeroValue0
  t3 := Try.underlying3
  a3 := Try.isAgg3
  z3 := Try.sizeOf3
  v3 := Try.zeroValue3
  t4 := Try.underlying4
  a4 := Try.isAgg4
  z4 := Try.sizeOf4
  v4 := Try.zeroValue4
  t5 := Try.underlying5
  a5 := Try.isAgg5
  z5 := Try.sizeOf5
  v5 := Try.zeroValue5
  t9 := Try.underlying9
  a9 := Try.isAgg9
  z9 := Try.sizeOf9
  v9 := Try.zeroValue9
  t22 := Try.underlying31
  a22 := Try.isAgg31
  z22 := Try.sizeOf31
  v22 := Try.zeroValue31
  t23 := Try.underlying31
  a23 := Try.isAgg31
  z23 := Try.sizeOf31
  v23 := Try.zeroValue31
  t25 := Try.underlying3
  a25 := Try.isAgg3
  z25 := Try.sizeOf3
  v25 := Try.zeroValue3
  t32 := Try.underlying78
  a32 := Try.isAgg78
  z32 := Try.sizeOf78
  v32 := Try.zeroValue78
  t35 := Try.underlying83
  a35 := Try.isAgg83
  z35 := Try.sizeOf83
  v35 := Try.zeroValue83
  t36 := Try.underlying84
  a36 := Try.isAgg84
  z36 := Try.sizeOf84
  v36 := Try.zeroValue84
  t41 := Try.underlying89
  a41 := Try.isAgg89
  z41 := Try.sizeOf89
  v41 := Try.zeroValue89
  t44 := Try.underlying92
  a44 := Try.isAgg92
  z44 := Try.sizeOf92
  v44 := Try.zeroValue92
  t46 := Try.underlying94
  a46 := Try.isAgg94
  z46 := Try.sizeOf94
  v46 := Try.zeroValue94
  t53 := Try.underlying95
  a53 := Try.isAgg95
  z53 := Try.sizeOf95
  v53 := Try.zeroValue95
  t57 := Try.underlying99
  a57 := Try.isAgg99
  z57 := Try.sizeOf99
  v57 := Try.zeroValue99
  t63 := Try.underlying101
  a63 := Try.isAgg101
  z63 := Try.sizeOf101
  v63 := Try.zeroValue101
  t64 := Try.underlying43
  a64 := Try.isAgg43
  z64 := Try.sizeOf43
  v64 := Try.zeroValue43 }
def cloneM_ren : Go.Shelf.Ren := ⟨fun | 5 => 16 | 7 => 27 | n => n, fun | 23 => 24 | 25 => 3 | 3 => 53 | 4 => 4 | 20 => 20 | n => n, fun | n => n⟩
theorem cloneM : Go.Proofs.SlLaysW.n5 Try.prog cloneM_ren := {
  mixed := by kernel_rfl
  f5 := ⟨Try.f16.name, by decide, Try.func16.trans (congrArg some (by kernel_rfl))⟩
  f7 := Try.func27.trans (congrArg some (by kernel_rfl))
  t4 := Try.underlying4
  a4 := Try.isAgg4
  z4 := Try.sizeOf4
  v4 := Try.zeroValue4
  t20 := Try.underlying20
  a20 := Try.isAgg20
  z20 := Try.sizeOf20
  v20 := Try.zeroValue20
  t23 := Try.underlying24
  a23 := Try.isAgg24
  z23 := Try.sizeOf24
  v23 := Try.zeroValue24 }
theorem sortsM (m : Nat) : AnyZI.SortsIn Try.prog sortedM_ren Fence.wide m :=
  ⟨fun blk off cap ss W hH hblk hsz => callsIn_wide.2 (AnyM.slices_Sort_int sortM blk off cap ss W hH hblk hsz), fun p cap W => callsIn_wide.2 (AnyM.slices_Sort_int_none sortM p cap W)⟩
theorem okMapClone : Vc.SpecOk Try.prog 16 Vc.SmapClone := Vc.okMapClone_of cloneM
theorem okMapKeys : Vc.SpecOk Try.prog 18 (Vc.SmapKeys 30) := Vc.okMapKeys_of keysM
theorem okSorted : Vc.SpecOk Try.prog 17 (Vc.Ssorted 30 3) := Vc.okSorted_of (ρk := keysM_ren) { keysM with } sortedM sortsM (enters_of Try.func29 (by kernel_rfl) rfl) (enters_of Try.func30 (by kernel_rfl) rfl)
end Go.Proofs.Ytljkijkonhcgfaa
