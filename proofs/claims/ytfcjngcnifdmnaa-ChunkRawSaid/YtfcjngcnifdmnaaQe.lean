import Derived.Test.YtfcjngcnifdmnaaQd
import Derived.Shelf.SlIterI.Nil
import Derived.Shelf.SlIterI.Sorted
import Derived.Shelf.SortM.Plain
import Derived.Shelf.SortM.SortNone
import Derived.Shelf.SlMaps.Clone
import Derived.Ground.GgzProg
import Derived.Ground.SlgmProg
import Derived.Ground.SlmcProg
import Derived.Test.YtfcjngcnifdmnaaProg
import Derived.KernelRfl
import Derived.Shelf.Spec.SlicesGrow
namespace Go.Proofs.Ytfcjngcnifdmnaa
open Go.Shelf
def keysM_ren : Go.Shelf.Ren:=⟨fun | 7 => 79 | 10 => 83 | n => n,fun | 23 => 62 | 26 => 3 | 3 => 120 | 28 => 130 | 0 => 0 | 27 => 129 | 33 => 85 | 4 => 4 | n => n,fun | n => n⟩
theorem keysM : Go.Proofs.SlLaysZI.n7 Try.prog keysM_ren:={
  mixed:=by kernel_rfl
  f7:=⟨Try.f79.name,by decide,Try.func79.trans (congrArg some (by kernel_rfl))⟩
  f10:=⟨Try.f83.name,by decide,Try.func83.trans (congrArg some (by kernel_rfl))⟩
  t0:=Try.underlying0
  a0:=Try.isAgg0
  z0:=Try.sizeOf0
  v0:=Try.zeroValue0
  t4:=Try.underlying4
  a4:=Try.isAgg4
  z4:=Try.sizeOf4
  v4:=Try.zeroValue4
  t23:=Try.underlying62
  a23:=Try.isAgg62
  z23:=Try.sizeOf62
  v23:=Try.zeroValue62
  t26:=Try.underlying3
  a26:=Try.isAgg3
  z26:=Try.sizeOf3
  v26:=Try.zeroValue3
  t27:=Try.underlying129
  a27:=Try.isAgg129
  z27:=Try.sizeOf129
  v27:=Try.zeroValue129
  t28:=Try.underlying130
  a28:=Try.isAgg130
  z28:=Try.sizeOf130
  v28:=Try.zeroValue130
  t33:=Try.underlying85
  a33:=Try.isAgg85
  z33:=Try.sizeOf85
  v33:=Try.zeroValue85 }
def sortedM_ren : Go.Shelf.Ren:=⟨fun | 6 => 78 | 8 => 81 | 9 => 82 | 11 => 84 | 13 => 86 | 12 => 85 | 23 => 96 | 24 => 97 | 14 => 87 | 15 => 88 | 16 => 89 | 17 => 90 | 18 => 91 | 19 => 92 | 20 => 93 | 21 => 94 | 22 => 95 | 25 => 98 | 26 => 99 | 27 => 100 | 28 => 101 | 29 => 102 | 30 => 103 | 31 => 104 | n => n,fun | 26 => 3 | 28 => 130 | 24 => 27 | 0 => 0 | 3 => 3 | 37 => 117 | 48 => 38 | 50 => 150 | 4 => 4 | 40 => 141 | 39 => 140 | 45 => 146 | 5 => 5 | 9 => 9 | 51 => 151 | 55 => 155 | 57 => 157 | 58 => 43 | 33 => 85 | n => n,fun | n => n⟩
theorem sortedM : Go.Proofs.SlLaysZI.n6 Try.prog sortedM_ren:={
  mixed:=by kernel_rfl
  f6:=⟨Try.f78.name,by decide,Try.func78.trans (congrArg some (by kernel_rfl))⟩
  f8:=⟨Try.f81.name,by decide,Try.func81.trans (congrArg some (by kernel_rfl))⟩
  f11:=⟨Try.f84.name,by decide,Try.func84.trans (congrArg some (by kernel_rfl))⟩
  t0:=Try.underlying0
  a0:=Try.isAgg0
  z0:=Try.sizeOf0
  v0:=Try.zeroValue0
  t24:=Try.underlying27
  a24:=Try.isAgg27
  z24:=Try.sizeOf27
  v24:=Try.zeroValue27
  t26:=Try.underlying3
  a26:=Try.isAgg3
  z26:=Try.sizeOf3
  v26:=Try.zeroValue3
  t28:=Try.underlying130
  a28:=Try.isAgg130
  z28:=Try.sizeOf130
  v28:=Try.zeroValue130
  i26:=by kernel_rfl }
def sortM_ren : Go.Shelf.Ren:=⟨fun | 5 => 82 | 8 => 86 | 7 => 85 | 19 => 96 | 20 => 97 | 10 => 87 | 11 => 88 | 12 => 89 | 13 => 90 | 14 => 91 | 15 => 92 | 16 => 93 | 17 => 94 | 18 => 95 | 30 => 98 | 31 => 99 | 32 => 100 | 33 => 101 | 34 => 102 | 35 => 103 | 40 => 104 | n => n,fun | 23 => 27 | 25 => 3 | 3 => 3 | 32 => 117 | 22 => 27 | 0 => 0 | 44 => 38 | 46 => 150 | 4 => 4 | 36 => 141 | 35 => 140 | 41 => 146 | 5 => 5 | 9 => 9 | 53 => 151 | 57 => 155 | 63 => 157 | 64 => 43 | n => n,fun | n => n⟩
theorem sortM : Go.Proofs.SlLaysM.n5 Try.prog sortM_ren:={
  mixed:=by kernel_rfl
  f5:=⟨Try.f82.name,by decide,Try.func82.trans (congrArg some (by kernel_rfl))⟩
  f7:=⟨Try.f85.name,by decide,Try.func85.trans (congrArg some (by kernel_rfl))⟩
  f8:=Try.func86.trans (congrArg some (by kernel_rfl))
  f10:=⟨Try.f87.name,by decide,Try.func87.trans (congrArg some (by kernel_rfl))⟩
  f11:=⟨Try.f88.name,by decide,Try.func88.trans (congrArg some (by kernel_rfl))⟩
  f12:=⟨Try.f89.name,by decide,Try.func89.trans (congrArg some (by kernel_rfl))⟩
  f13:=⟨Try.f90.name,by decide,Try.func90.trans (congrArg some (by kernel_rfl))⟩
  f14:=⟨Try.f91.name,by decide,Try.func91.trans (congrArg some (by kernel_rfl))⟩
  f15:=⟨Try.f92.name,by decide,Try.func92.trans (congrArg some (by kernel_rfl))⟩
  f16:=⟨Try.f93.name,by decide,Try.func93.trans (congrArg some (by kernel_rfl))⟩
  f17:=⟨Try.f94.name,by decide,Try.func94.trans (congrArg some (by kernel_rfl))⟩
  f18:=⟨Try.f95.name,by decide,Try.func95.trans (congrArg some (by kernel_rfl))⟩
  f19:=Try.func96.trans (congrArg some (by kernel_rfl))
  f20:=Try.func97.trans (congrArg some (by kernel_rfl))
  f30:=⟨Try.f98.name,by decide,Try.func98.trans (congrArg some (by kernel_rfl))⟩
  f31:=Try.func99.trans (congrArg some (by kernel_rfl))
  f32:=Try.func100.trans (congrArg some (by kernel_rfl))
  f33:=⟨Try.f101.name,by decide,Try.func101.trans (congrArg some (by kernel_rfl))⟩
  f34:=⟨Try.f102.name,by decide,Try.func102.trans (congrArg some (by kernel_rfl))⟩
  f35:=⟨Try.f103.name,by decide,Try.func103.trans (congrArg some (by kernel_rfl))⟩
  f40:=⟨Try.f104.name,by decide,Try.func104.trans (congrArg some (by kernel_rfl))⟩
  t0:=Try.underlying0
  a0:=Try.isAgg0
  z0:=Try.sizeOf0
  v0:=Try.zeroValue0
  t3:=Try.underlying3
  a3:=Try.isAgg3
  z3:=Try.sizeOf3
  v3:=Try.zeroValue3
  t4:=Try.underlying4
  a4:=Try.isAgg4
  z4:=Try.sizeOf4
  v4:=Try.zeroValue4
  t5:=Try.underlying5
  a5:=Try.isAgg5
  z5:=Try.sizeOf5
  v5:=Try.zeroValue5
  t9:=Try.underlying9
  a9:=Try.isAgg9
  z9:=Try.sizeOf9
  v9:=Try.zeroValue9
  t22:=Try.underlying27
  a22:=Try.isAgg27
  z22:=Try.sizeOf27
  v22:=Try.zeroValue27
  t23:=Try.underlying27
  a23:=Try.isAgg27
  z23:=Try.sizeOf27
  v23:=Try.zeroValue27
  t25:=Try.underlying3
  a25:=Try.isAgg3
  z25:=Try.sizeOf3
  v25:=Try.zeroValue3
  t32:=Try.underlying117
  a32:=Try.isAgg117
  z32:=Try.sizeOf117
  v32:=Try.zeroValue117
  t35:=Try.underlying140
  a35:=Try.isAgg140
  z35:=Try.sizeOf140
  v35:=Try.zeroValue140
  t36:=Try.underlying141
  a36:=Try.isAgg141
  z36:=Try.sizeOf141
  v36:=Try.zeroValue141
  t41:=Try.underlying146
  a41:=Try.isAgg146
  z41:=Try.sizeOf146
  v41:=Try.zeroValue146
  t44:=Try.underlying38
  a44:=Try.isAgg38
  z44:=Try.sizeOf38
  v44:=Try.zeroValue38
  t46:=Try.underlying150
  a46:=Try.isAgg150
  z46:=Try.sizeOf150
  v46:=Try.zeroValue150
  t53:=Try.underlying151
  a53:=Try.isAgg151
  z53:=Try.sizeOf151
  v53:=Try.zeroValue151
  t57:=Try.underlying155
  a57:=Try.isAgg155
  z57:=Try.sizeOf155
  v57:=Try.zeroValue155
  t63:=Try.underlying157
  a63:=Try.isAgg157
  z63:=Try.sizeOf157
  v63:=Try.zeroValue157
  t64:=Try.underlying43
  a64:=Try.isAgg43
  z64:=Try.sizeOf43
  v64:=Try.zeroValue43 }
def cloneM_ren : Go.Shelf.Ren:=⟨fun | 5 => 74 | 7 => 80 | n => n,fun | 23 => 62 | 25 => 3 | 3 => 120 | 4 => 4 | 20 => 20 | n => n,fun | n => n⟩
theorem cloneM : Go.Proofs.SlLaysW.n5 Try.prog cloneM_ren:={
  mixed:=by kernel_rfl
  f5:=⟨Try.f74.name,by decide,Try.func74.trans (congrArg some (by kernel_rfl))⟩
  f7:=Try.func80.trans (congrArg some (by kernel_rfl))
  t4:=Try.underlying4
  a4:=Try.isAgg4
  z4:=Try.sizeOf4
  v4:=Try.zeroValue4
  t20:=Try.underlying20
  a20:=Try.isAgg20
  z20:=Try.sizeOf20
  v20:=Try.zeroValue20
  t23:=Try.underlying62
  a23:=Try.isAgg62
  z23:=Try.sizeOf62
  v23:=Try.zeroValue62 }
theorem sortsM (m : Nat) : AnyZI.SortsIn Try.prog sortedM_ren Fence.wide m :=
  ⟨fun blk off cap ss W hH hblk hsz => callsIn_wide.2 (AnyM.slices_Sort_int sortM blk off cap ss W hH hblk hsz),fun p cap W => callsIn_wide.2 (AnyM.slices_Sort_int_none sortM p cap W)⟩
theorem okMapClone : Vc.SpecOk Try.prog 74 Vc.SmapClone:=Vc.okMapClone_of cloneM
theorem okMapKeys : Vc.SpecOk Try.prog 79 (Vc.SmapKeys 83):=Vc.okMapKeys_of keysM
theorem okSorted : Vc.SpecOk Try.prog 78 (Vc.Ssorted 83 3):=Vc.okSorted_of (ρk:=keysM_ren) { keysM with } sortedM sortsM (enters_of Try.func82 (by kernel_rfl) rfl) (enters_of Try.func83 (by kernel_rfl) rfl)
end Go.Proofs.Ytfcjngcnifdmnaa
namespace Go.Proofs.Ytfcjngcnifdmnaa
open Vc Go
set_option linter.unusedVariables false
set_option linter.unusedSimpArgs false
set_option maxRecDepth 100000
abbrev L3:=Int × Int × Int
def ent (p : L3) : List Int × List D:=([p.1],[dn .i64 p.2.1,dn .i64 p.2.2])
structure Tab (M : ML) (x : List L3) : Prop where
  perm : M.Perm (x.map ent)
  inc : x.Pairwise (fun a b => a.1 < b.1)
  rg : ∀ p ∈ x,0 ≤ p.1∧p.1 ≤ 255∧1 ≤ p.2.1∧p.2.1 ≤ 1099511627776∧0 ≤ p.2.2∧p.2.2 ≤ 63
  len : x.length ≤ 32
def atI : List L3→Int→Option Nat
  | [],_ => none
  | p :: l,c => if p.1 = c then some 0 else (atI l c).map (· + 1)
def g3 (x : List L3) (i : Nat) : L3:=x.getD i (0,0,0)
def numA (x : List L3) (c : Int) : Option (Int × Int):=(atI x c).map fun i => (g3 x i).2
def putE (x : List L3) (c n e : Int) : Int :=
  if c < 0∨255 < c∨n < 1∨1099511627776 < n∨e < 0∨63 < e then 1 else match numA x c with
  | some q => if n ≤ q.1 then 13 else 0
  | none => if 32 ≤ x.length then 6 else 0
def putL (x : List L3) (c n e : Int) : List L3:=x.filter (fun p => decide (p.1 < c)) ++ (c,n,e) :: x.filter (fun p => decide (c < p.1))
def chkK (x : List L3) (c n : Int) : Int:=match numA x c with
  | none => 0
  | some q => if q.1 < n then 0 else if n = q.1 then 1 else 2
def chkE (x : List L3) (c n : Int) : Int:=match numA x c with
  | none => 0
  | some q => if n = q.1 then q.2 else 0
structure NeZ (n : Int) : Prop where
  h : n ≠ 0
structure EqZ (n : Int) : Prop where
  h : n = 0
abbrev tbV (M : ML) : V:=.imp [.i64] false true 2 M
def Sput : FSpec:=fun args kb K => match args,kb with
  | [.ptr 0 0,.int .i64 c,.int .i64 n,.int .i64 e],[.cells [.imp [.i64] false true 2 M]] => ∃ x,Tab M x ∧
      (NeZ (putE x c n e)→K (.int .i64 (putE x c n e)) [.cells [tbV M]])∧(EqZ (putE x c n e)→K (.int .i64 0) [.cells [tbV (mset M [c] [dn .i64 n,dn .i64 e])]])
  | _,_ => False
def SputR : FSpec:=fun args kb K => match args,kb with
  | [.ptr 0 134,.int .i64 c,.int .i64 n,.int .i64 e],[.cells [.any a0,.any a1,.any a2,.any a3,.any a4,.any a5,.arr 128 C,.imp [.i64] false true 2 M,.any a8,.any a9,.any a10,.any a11,.any a12,.any a13,.any a14,.any a15,.any a16,.any a17,.any a18,.any a19,.any a20,.any a21]] => ∃ x,Tab M x ∧
      (NeZ (putE x c n e)→K (.int .i64 (putE x c n e)) [.cells [.any a0,.any a1,.any a2,.any a3,.any a4,.any a5,.arr 128 C,tbV M,.any a8,.any a9,.any a10,.any a11,.any a12,.any a13,.any a14,.any a15,.any a16,.any a17,.any a18,.any a19,.any a20,.any a21]])∧(EqZ (putE x c n e)→K (.int .i64 0) [.cells [.any a0,.any a1,.any a2,.any a3,.any a4,.any a5,.arr 128 C,tbV (mset M [c] [dn .i64 n,dn .i64 e]),.any a8,.any a9,.any a10,.any a11,.any a12,.any a13,.any a14,.any a15,.any a16,.any a17,.any a18,.any a19,.any a20,.any a21]])
  | _,_ => False
def ScheckR : FSpec:=fun args kb K => match args,kb with
  | [.ptr 0 134,.int .i64 c,.int .i64 n],[.cells [.any a0,.any a1,.any a2,.any a3,.any a4,.any a5,.arr 128 C,.imp [.i64] false true 2 M,.any a8,.any a9,.any a10,.any a11,.any a12,.any a13,.any a14,.any a15,.any a16,.any a17,.any a18,.any a19,.any a20,.any a21]] => ∃ x,Tab M x∧K (.tup [.int .i64 (chkK x c n),.int .i64 (chkE x c n)]) [.cells [.any a0,.any a1,.any a2,.any a3,.any a4,.any a5,.arr 128 C,tbV M,.any a8,.any a9,.any a10,.any a11,.any a12,.any a13,.any a14,.any a15,.any a16,.any a17,.any a18,.any a19,.any a20,.any a21]]
  | _,_ => False
def SclientsR : FSpec:=fun args kb K => match args,kb with
  | [.ptr 0 134],[.cells [.any a0,.any a1,.any a2,.any a3,.any a4,.any a5,.arr 128 C,.imp [.i64] false true 2 M,.any a8,.any a9,.any a10,.any a11,.any a12,.any a13,.any a14,.any a15,.any a16,.any a17,.any a18,.any a19,.any a20,.any a21]] => ∃ x,Tab M x∧K (.sl 1 0 x.length) [.cells [.any a0,.any a1,.any a2,.any a3,.any a4,.any a5,.arr 128 C,tbV M,.any a8,.any a9,.any a10,.any a11,.any a12,.any a13,.any a14,.any a15,.any a16,.any a17,.any a18,.any a19,.any a20,.any a21],.row 3 1 (ints .i64 (x.map (·.1)))]
  | _,_ => False
def clS : FuncId→Option Known
  | 74 => some ⟨[],SmapClone⟩
  | 79 => some ⟨[],SmapKeys 83⟩
  | 78 => some ⟨[],Ssorted 83 3⟩
  | _ => none
noncomputable def XCl : CallT:=callS Try.prog clS noT 10
abbrev cPut0:=fun (M : ML) (c : Int) (n : Int) (e : Int) h1_ h2_ h3_ (K : V→KB→Prop) => (
 (∀ (y1 : List D),mget M [c] = some y1 →
 ConfK ([CK.int IntKind.i64] ++ ([CK.int IntKind.i64] ++ [])) y1) ∧
 (decide (c < 0) = true →
 K (V.int IntKind.i64 1) [KO.cells h1_]) ∧
 (decide (c < 0) = false →
 (decide (c > 255) = true →
 K (V.int IntKind.i64 1) [KO.cells h1_]) ∧
 (decide (c > 255) = false →
 (decide (n < 1) = true →
 K (V.int IntKind.i64 1) [KO.cells h1_]) ∧
 (decide (n < 1) = false →
 (decide (n > 1099511627776) = true →
 K (V.int IntKind.i64 1) [KO.cells h1_]) ∧
 (decide (n > 1099511627776) = false →
 (decide (e < 0) = true →
 K (V.int IntKind.i64 1) [KO.cells h1_]) ∧
 (decide (e < 0) = false →
 (decide (e > 63) = true →
 K (V.int IntKind.i64 1) [KO.cells h1_]) ∧
 (decide (e > 63) = false →
 (mhas M [c] = true →
 (decide (n ≤ mgetI M [c] 0) = true →
 K (V.int IntKind.i64 13) [KO.cells h1_]) ∧
 (decide (n ≤ mgetI M [c] 0) = false →
 ((!mhas M [c]) = true →
 (((↑(List.length M) : Int) == 32) = true →
 K (V.int IntKind.i64 6) [KO.cells h1_]) ∧
 (((↑(List.length M) : Int) == 32) = false →
 (M = [] →
 K (V.int IntKind.i64 0) [KO.cells h2_]) ∧
 K (V.int IntKind.i64 0) [KO.cells h3_])) ∧
 ((!mhas M [c]) = false →
 (M = [] →
 K (V.int IntKind.i64 0) [KO.cells h2_]) ∧
 K (V.int IntKind.i64 0) [KO.cells h3_]))) ∧
 (mhas M [c] = false →
 ((!mhas M [c]) = true →
 (((↑(List.length M) : Int) == 32) = true →
 K (V.int IntKind.i64 6) [KO.cells h1_]) ∧
 (((↑(List.length M) : Int) == 32) = false →
 (M = [] →
 K (V.int IntKind.i64 0) [KO.cells h2_]) ∧
 K (V.int IntKind.i64 0) [KO.cells h3_])) ∧
 ((!mhas M [c]) = false →
 (M = [] →
 K (V.int IntKind.i64 0) [KO.cells h2_]) ∧
 K (V.int IntKind.i64 0) [KO.cells h3_]))))))))
 : Prop)
theorem vcPut_n0 (M : ML) (c n e : Int) (K : V→KB→Prop) (hvc_ :
 cPut0 M c n e [V.imp [IntKind.i64] false true 2 M] [V.imp [IntKind.i64] false true 2 [([c],[D.val (Value.int IntKind.i64 n),D.val (Value.int IntKind.i64 e)])]] [V.imp [IntKind.i64] false true 2 (mset M [c] [D.val (Value.int IntKind.i64 n),D.val (Value.int IntKind.i64 e)])] K
 ) : runSpec Try.prog XCl (noT 59) 59 [.ptr 0 0,.int .i64 c,.int .i64 n,.int .i64 e] [.cells [tbV M]] (nilRes [.impC 0 0 [.i64] false true 2] (tidyRes 1 K)):=by apply Eq.mp (a:=hvc_); kernel_rfl
theorem vcPut_n1 (a0 a1 a2 a3 a4 a5 a8 a9 a10 a11 a12 a13 a14 a15 a16 a17 a18 a19 a20 a21 : Value) (C : List D) (M : ML) (c n e : Int) (K : V→KB→Prop) (hvc_ :
 cPut0 M c n e [V.any a0,V.any a1,V.any a2,V.any a3,V.any a4,V.any a5,V.arr 128 C,V.imp [IntKind.i64] false true 2 M,V.any a8,V.any a9,V.any a10,V.any a11,V.any a12,V.any a13,V.any a14,V.any a15,V.any a16,V.any a17,V.any a18,V.any a19,V.any a20,V.any a21] [V.any a0,V.any a1,V.any a2,V.any a3,V.any a4,V.any a5,V.arr 128 C,V.imp [IntKind.i64] false true 2 [([c],[D.val (Value.int IntKind.i64 n),D.val (Value.int IntKind.i64 e)])],V.any a8,V.any a9,V.any a10,V.any a11,V.any a12,V.any a13,V.any a14,V.any a15,V.any a16,V.any a17,V.any a18,V.any a19,V.any a20,V.any a21] [V.any a0,V.any a1,V.any a2,V.any a3,V.any a4,V.any a5,V.arr 128 C,V.imp [IntKind.i64] false true 2 (mset M [c] [D.val (Value.int IntKind.i64 n),D.val (Value.int IntKind.i64 e)]),V.any a8,V.any a9,V.any a10,V.any a11,V.any a12,V.any a13,V.any a14,V.any a15,V.any a16,V.any a17,V.any a18,V.any a19,V.any a20,V.any a21] K
 ) : runSpec Try.prog XCl (noT 59) 59 [.ptr 0 134,.int .i64 c,.int .i64 n,.int .i64 e] [.cells [.any a0,.any a1,.any a2,.any a3,.any a4,.any a5,.arr 128 C,tbV M,.any a8,.any a9,.any a10,.any a11,.any a12,.any a13,.any a14,.any a15,.any a16,.any a17,.any a18,.any a19,.any a20,.any a21]] (nilRes [.impC 0 134 [.i64] false true 2] (tidyRes 1 K)):=by apply Eq.mp (a:=hvc_); kernel_rfl
theorem vcCheckR (a0 a1 a2 a3 a4 a5 a8 a9 a10 a11 a12 a13 a14 a15 a16 a17 a18 a19 a20 a21 : Value) (C : List D) (M : ML) (c n : Int) (K : V→KB→Prop) (hvc_ :
 let z1_ : KB:=[KO.cells [V.any a0,V.any a1,V.any a2,V.any a3,V.any a4,V.any a5,V.arr 128 C,V.imp [IntKind.i64] false true 2 M,V.any a8,V.any a9,V.any a10,V.any a11,V.any a12,V.any a13,V.any a14,V.any a15,V.any a16,V.any a17,V.any a18,V.any a19,V.any a20,V.any a21]]; (∀ (y1 : List D),mget M [c] = some y1 →
 ConfK ([CK.int IntKind.i64] ++ ([CK.int IntKind.i64] ++ [])) y1) ∧
 ((!mhas M [c]) = true →
 K (V.tup [V.int IntKind.i64 0,V.int IntKind.i64 0]) z1_) ∧
 ((!mhas M [c]) = false →
 (decide (n > mgetI M [c] 0) = true →
 K (V.tup [V.int IntKind.i64 0,V.int IntKind.i64 0]) z1_) ∧
 (decide (n > mgetI M [c] 0) = false →
 ((n == mgetI M [c] 0) = true →
 K (V.tup [V.int IntKind.i64 1,V.int IntKind.i64 (mgetI M [c] 1)]) z1_) ∧
 ((n == mgetI M [c] 0) = false →
 K (V.tup [V.int IntKind.i64 2,V.int IntKind.i64 0]) z1_)))
 ) : runSpec Try.prog XCl (noT 58) 58 [.ptr 0 134,.int .i64 c,.int .i64 n] [.cells [.any a0,.any a1,.any a2,.any a3,.any a4,.any a5,.arr 128 C,tbV M,.any a8,.any a9,.any a10,.any a11,.any a12,.any a13,.any a14,.any a15,.any a16,.any a17,.any a18,.any a19,.any a20,.any a21]] (tidyRes 1 K):=by apply Eq.mp (a:=hvc_); kernel_rfl
theorem vcClientsR (a0 a1 a2 a3 a4 a5 a8 a9 a10 a11 a12 a13 a14 a15 a16 a17 a18 a19 a20 a21 : Value) (C : List D) (M : ML) (K : V→KB→Prop) (hvc_ :
 let z1_:=KO.cells [V.any a0,V.any a1,V.any a2,V.any a3,V.any a4,V.any a5,V.arr 128 C,V.imp [IntKind.i64] false true 2 M,V.any a8,V.any a9,V.any a10,V.any a11,V.any a12,V.any a13,V.any a14,V.any a15,V.any a16,V.any a17,V.any a18,V.any a19,V.any a20,V.any a21]; 83 = 83 ∧
 [IntKind.i64] = [IntKind.i64] ∧
 false = false ∧
 KeysOk M ∧
 (M = [] →
 K (V.sl 1 0 0) [z1_,KO.row 3 1 []]) ∧
 K (V.sl 1 0 (List.length M)) [z1_,KO.row 3 1 (ints IntKind.i64 (sortI (Vc.keysM M)))]
 ) : runSpec Try.prog XCl (noT 72) 72 [.ptr 0 134] [.cells [.any a0,.any a1,.any a2,.any a3,.any a4,.any a5,.arr 128 C,tbV M,.any a8,.any a9,.any a10,.any a11,.any a12,.any a13,.any a14,.any a15,.any a16,.any a17,.any a18,.any a19,.any a20,.any a21]] (nilRes [.slot 0 3 1] (tidyRes 1 K)):=by apply Eq.mp (a:=hvc_); kernel_rfl
theorem mget_mem' : ∀ {M : ML} {k : List Int} {v : List D},(M.map (·.1)).Nodup→(k,v) ∈ M→mget M k = some v
  | (a,c) :: M,k,v,hn,h => by
    simp only [List.map_cons,List.nodup_cons] at hn
    simp only [mget]
    rcases List.mem_cons.1 h with h | h
    · cases h; rw [if_pos rfl]
    · have hne : k ≠ a:=fun e => hn.1 (List.mem_map.2 ⟨_,h,e⟩)
      rw [if_neg hne]
      exact mget_mem' hn.2 h
theorem mget_non : ∀ {M : ML} {k : List Int},(∀ e ∈ M,e.1 ≠ k)→mget M k = none
  | [],_,_ => rfl
  | (a,c) :: M,k,h => by
    simp only [mget]
    rw [if_neg (fun e => h _ List.mem_cons_self e.symm)]
    exact mget_non fun e he => h e (List.mem_cons_of_mem _ he)
theorem at_some : ∀ {x : List L3} {c : Int} {i : Nat},atI x c = some i→i < x.length∧(g3 x i).1 = c∧∀ j,j < i→(g3 x j).1 ≠ c
  | p :: l,c,i,h => by
    simp only [atI] at h
    split at h
    · rename_i hp
      cases h
      exact ⟨by simp,by simp [g3,hp],fun j hj => absurd hj (Nat.not_lt_zero _)⟩
    · rename_i hp
      simp only [Option.map_eq_some_iff] at h
      obtain ⟨k,hk,rfl⟩:=h
      obtain ⟨h1,h2,h3⟩:=at_some hk
      refine ⟨by simp; omega,by simpa [g3] using h2,fun j hj => ?_⟩
      cases j with
      | zero => simpa [g3] using hp
      | succ j => have:=h3 j (by omega); simpa [g3] using this
theorem at_none : ∀ {x : List L3} {c : Int},atI x c = none→∀ p ∈ x,p.1 ≠ c
  | [],_,_,p,hp => by cases hp
  | q :: l,c,h,p,hp => by
    simp only [atI] at h
    split at h
    · cases h
    · rename_i hq
      simp only [Option.map_eq_none_iff] at h
      rcases List.mem_cons.1 hp with rfl | hp
      · exact hq
      · exact at_none h p hp
theorem g3_get {x : List L3} {i : Nat} (h : i < x.length) : x[i]? = some (g3 x i):=by
  unfold g3; rw [List.getD_eq_getElem?_getD,List.getElem?_eq_getElem h]; rfl
theorem g3_mem {x : List L3} {i : Nat} (h : i < x.length) : g3 x i ∈ x:=List.mem_of_getElem? (g3_get h)
theorem at_uniq {x : List L3} {c : Int} {i : Nat} (hi : i < x.length) (h1 : (g3 x i).1 = c) (h2 : ∀ j,j < i→(g3 x j).1 ≠ c) : atI x c = some i:=by
  cases h : atI x c with
  | none => exact absurd h1 (at_none h _ (g3_mem hi))
  | some k =>
    obtain ⟨k1,k2,k3⟩:=at_some h
    have : k = i:=by
      rcases Nat.lt_trichotomy k i with h4 | h4 | h4
      · exact absurd k2 (h2 k h4)
      · exact h4
      · exact absurd h1 (k3 i h4)
    rw [this]
theorem at_non {x : List L3} {c : Int} (h : ∀ j,j < x.length→(g3 x j).1 ≠ c) : atI x c = none:=by
  cases h1 : atI x c with
  | none => rfl
  | some k => obtain ⟨k1,k2,_⟩:=at_some h1; exact absurd k2 (h k k1)
theorem tab_nd {M : ML} {x : List L3} (h : Tab M x) : (M.map (·.1)).Nodup:=by
  have h1 : (M.map (·.1)).Perm ((x.map ent).map (·.1)):=h.perm.map _
  refine h1.nodup_iff.2 ?_
  rw [List.map_map]
  exact List.pairwise_map.2 (h.inc.imp fun hlt e => by simp [ent] at e; omega)
theorem dtab_get {M : ML} {x : List L3} (h : Tab M x) (c : Int) : mget M [c] = (numA x c).map fun q => [dn .i64 q.1,dn .i64 q.2]:=by
  unfold numA
  cases hc : atI x c with
  | none =>
    refine mget_non fun e he e1 => ?_
    obtain ⟨p,hp,rfl⟩:=List.mem_map.1 (h.perm.mem_iff.1 he)
    simp only [ent,List.cons.injEq,and_true] at e1
    exact at_none hc p hp e1
  | some i =>
    obtain ⟨h1,h2,_⟩:=at_some hc
    refine mget_mem' (tab_nd h) (h.perm.mem_iff.2 (List.mem_map.2 ⟨g3 x i,g3_mem h1,?_⟩))
    simp only [ent,h2,Option.map_some]
theorem tab_keys {M : ML} {x : List L3} (h : Tab M x) : KeysOk M∧sortI (Vc.keysM M) = x.map (·.1)∧M.length = x.length:=by
  have hl : M.length = x.length:=by rw [h.perm.length_eq,List.length_map]
  refine ⟨⟨fun e he => ?_,tab_nd h,by have:=h.len; omega⟩,?_,hl⟩
  · obtain ⟨p,hp,rfl⟩:=List.mem_map.1 (h.perm.mem_iff.1 he)
    have:=h.rg p hp
    exact ⟨p.1,rfl,by omega,by omega⟩
  · have h1 : (Vc.keysM M).Perm (x.map (·.1)):=by
      unfold Vc.keysM
      have:=h.perm.map (fun e : List Int × List D => e.1.headD 0)
      rw [List.map_map] at this
      exact this
    rw [sortI_perm h1]
    unfold sortI
    exact List.mergeSort_of_pairwise (List.pairwise_map.2 (h.inc.imp fun hlt => by simp only [decide_eq_true_eq]; omega))
theorem tab_nil : Tab [] []:=⟨List.Perm.refl _,List.Pairwise.nil,fun p hp => (by cases hp),by simp⟩
theorem conf2 {M : ML} {x : List L3} (h : Tab M x) (c : Int) : ∀ cs,mget M [c] = some cs→ConfK ([CK.int .i64] ++ ([CK.int .i64] ++ [])) cs:=fun cs hc => by
  rw [dtab_get h] at hc
  simp only [Option.map_eq_some_iff] at hc
  obtain ⟨q,_,rfl⟩:=hc
  exact ⟨_,_,rfl,_,_,rfl,rfl⟩
theorem tab_has {M : ML} {x : List L3} (h : Tab M x) (c : Int) : mhas M [c] = (numA x c).isSome∧(∀ q,numA x c = some q→mgetI M [c] 0 = q.1∧mgetI M [c] 1 = q.2):=by
  refine ⟨?_,fun q hq => ?_⟩
  · unfold mhas; rw [dtab_get h]; cases numA x c <;> rfl
  · unfold mgetI; rw [dtab_get h,hq]; exact ⟨rfl,rfl⟩
theorem clS_ok : AllOk Try.prog clS:=fun f k h => by
  unfold clS at h
  split at h <;> first | (cases h; first | exact okMapClone | exact okMapKeys | exact okSorted) | cases h
theorem XCl_ok : CallOk Try.prog XCl:=callS_ok mixed clS_ok noT 10
theorem put_c {M : ML} {c n e : Int} {x : List L3} {B B2 B3 : List V} {K : V→KB→Prop} (ht : Tab M x) (hno : NeZ (putE x c n e)→K (.int .i64 (putE x c n e)) [.cells B]) (hy : EqZ (putE x c n e)→K (.int .i64 0) [.cells B2]) (e3 : M = []→B3 = B2) : cPut0 M c n e B B3 B2 K:=by
  obtain ⟨t1,t2⟩:=tab_has ht c
  have hl:=(tab_keys ht).2.2
  have hle:=ht.len
  unfold putE at hno hy
  refine ⟨conf2 ht c,?_⟩
  simp only [decide_eq_true_eq,decide_eq_false_iff_not]
  have bad : (c < 0∨255 < c∨n < 1∨1099511627776 < n∨e < 0∨63 < e)→K (V.int .i64 1) [.cells B]:=fun hb => by
    simp only [if_pos hb] at hno
    exact hno ⟨by decide⟩
  refine ⟨fun h1 => bad (.inl h1),fun h1 => ⟨fun h2 => bad (.inr (.inl h2)),fun h2 => ⟨fun h3 => bad (.inr (.inr (.inl h3))),fun h3 => ⟨fun h4 => bad (.inr (.inr (.inr (.inl h4)))),fun h4 => ⟨fun h5 => bad (.inr (.inr (.inr (.inr (.inl h5))))),fun h5 => ⟨fun h6 => bad (.inr (.inr (.inr (.inr (.inr h6))))),fun h6 => ?_⟩⟩⟩⟩⟩⟩
  have hg : ¬ (c < 0∨255 < c∨n < 1∨1099511627776 < n∨e < 0∨63 < e):=by omega
  simp only [if_neg hg] at hno hy
  have fin : K (.int .i64 0) [.cells B2]→(M = []→K (.int .i64 0) [.cells B3])∧K (.int .i64 0) [.cells B2]:=fun h => ⟨fun hm => by rw [e3 hm]; exact h,h⟩
  cases hq : numA x c with
  | some q =>
    rw [hq] at t1 hno hy
    simp only [Option.isSome_some] at t1
    simp only at hno hy
    have t3:=(t2 q hq).1
    rw [t1,t3]
    refine ⟨fun _ => ⟨fun h7 => ?_,fun h7 => ⟨fun f => (by cases f),fun _ => fin ?_⟩⟩,fun f => (by cases f)⟩
    · rw [if_pos h7] at hno; exact hno ⟨by decide⟩
    · rw [if_neg h7] at hy; exact hy ⟨rfl⟩
  | none =>
    rw [hq] at t1 hno hy
    simp only [Option.isSome_none] at t1
    simp only at hno hy
    rw [t1]
    refine ⟨fun f => (by cases f),fun _ => ⟨fun _ => ⟨fun h7 => ?_,fun h7 => fin ?_⟩,fun f => (by cases f)⟩⟩
    · simp only [beq_iff_eq] at h7
      rw [if_pos (by omega)] at hno; exact hno ⟨by decide⟩
    · simp only [beq_eq_false_iff_ne,ne_eq] at h7
      rw [if_neg (by omega)] at hy; exact hy ⟨rfl⟩
theorem okPut : SpecOk Try.prog 59 Sput:=specOk_nt XCl_ok mixed [.impC 0 0 [.i64] false true 2] (fun args kb K h => by
  unfold Sput at h; split at h <;> try exact h.elim
  obtain ⟨x,ht,hno,hy⟩:=h
  exact ⟨_,vcPut_n0 _ _ _ _ K (put_c ht hno hy (fun hm => by subst hm; rfl))⟩)
theorem okPutR : SpecOk Try.prog 59 SputR:=specOk_nt XCl_ok mixed [.impC 0 134 [.i64] false true 2] (fun args kb K h => by
  unfold SputR at h; split at h <;> try exact h.elim
  obtain ⟨x,ht,hno,hy⟩:=h
  exact ⟨_,vcPut_n1 _ _ _ _ _ _ _ _ _ _ _ _ _ _ _ _ _ _ _ _ _ _ _ _ _ K (put_c ht hno hy (fun hm => by subst hm; rfl))⟩)
theorem okCheckTR : SpecOk Try.prog 58 ScheckR:=specOk_tidy XCl_ok mixed (fun args kb K h => by
  unfold ScheckR at h; split at h <;> try exact h.elim
  rename_i c n _ _ _ _ _ _ _ M _ _ _ _ _ _ _ _ _ _ _ _ _ _
  obtain ⟨x,ht,h⟩:=h
  obtain ⟨t1,t2⟩:=tab_has ht c
  unfold chkK chkE at h
  refine ⟨_,vcCheckR _ _ _ _ _ _ _ _ _ _ _ _ _ _ _ _ _ _ _ _ _ M c n K ⟨conf2 ht c,?_⟩⟩
  simp only [decide_eq_true_eq,decide_eq_false_iff_not]
  cases hq : numA x c with
  | none =>
    rw [hq] at t1 h
    simp only [Option.isSome_none] at t1
    rw [t1]
    exact ⟨fun _ => h,fun f => (by cases f)⟩
  | some q =>
    rw [hq] at t1 h
    simp only [Option.isSome_some] at t1
    simp only at h
    obtain ⟨t3,t4⟩:=t2 q hq
    rw [t1,t3,t4]
    refine ⟨fun f => (by cases f),fun _ => ⟨fun h7 => ?_,fun h7 => ⟨fun h8 => ?_,fun h8 => ?_⟩⟩⟩
    · rw [if_pos (by omega),if_neg (by omega)] at h; exact h
    · simp only [beq_iff_eq] at h8
      rw [if_neg (by omega),if_pos h8,if_pos h8] at h; exact h
    · simp only [beq_eq_false_iff_ne,ne_eq] at h8
      rw [if_neg (by omega),if_neg h8,if_neg h8] at h; exact h)
theorem okClientsR : SpecOk Try.prog 72 SclientsR:=specOk_nt XCl_ok mixed [.slot 0 3 1] (fun args kb K h => by
  unfold SclientsR at h; split at h <;> try exact h.elim
  rename_i M _ _ _ _ _ _ _ _ _ _ _ _ _ _
  obtain ⟨x,ht,h⟩:=h
  obtain ⟨k1,k2,k3⟩:=tab_keys ht
  refine ⟨_,vcClientsR _ _ _ _ _ _ _ _ _ _ _ _ _ _ _ _ _ _ _ _ _ M K ⟨rfl,rfl,rfl,k1,fun hM => ?_,?_⟩⟩
  · subst hM
    have hx : x = []:=List.eq_nil_of_length_eq_zero (by rw [← k3]; rfl)
    subst hx
    exact h
  · rw [k2,k3]; exact h)
end Go.Proofs.Ytfcjngcnifdmnaa
namespace Go.Proofs.Ytfcjngcnifdmnaa
open Vc Go
set_option linter.unusedVariables false
set_option linter.unusedSimpArgs false
set_option maxRecDepth 100000
structure OkX (x : List L3) : Prop where
  inc : x.Pairwise (fun a b => a.1 < b.1)
  rg : ∀ p ∈ x,0 ≤ p.1∧p.1 ≤ 255∧1 ≤ p.2.1∧p.2.1 ≤ 1099511627776∧0 ≤ p.2.2∧p.2.2 ≤ 63
  len : x.length ≤ 32
def trW (p : L3) : List Int:=numW p.1 ++ numW p.2.1 ++ numW p.2.2
def catP (x : List L3) : List Int:=(x.map trW).flatten
def tabW (x : List L3) : List Int:=numW (x.length : Int) ++ catP x
def tabI (x : List L3) (i : Nat) : List Int:=numW (x.length : Int) ++ catP (x.take i)
abbrev tbLI (a0 a1 a2 a3 a4 a5 a8 a9 a10 a11 a12 a13 a14 a15 a16 a17 a18 a19 a20 a21 : Value) (C : List D) (M : ML) (x : List L3) : LI where
  α:={i : Nat // i ≤ x.length}
  live:=[0,3,13,14,15]
  st i:=([.ptr 0 134,.ptr 1 0,.sl 2 0 x.length,.int .i64 (x.length : Int),.int .i64 (i.1 : Int)],[.cells [.any a0,.any a1,.any a2,.any a3,.any a4,.any a5,.arr 128 C,tbV M,.any a8,.any a9,.any a10,.any a11,.any a12,.any a13,.any a14,.any a15,.any a16,.any a17,.any a18,.any a19,.any a20,.any a21],.cells [.sl 3 0 (tabI x i.1).length],.row 3 1 (ints .i64 (x.map (·.1))),.row 5 1 (ints .u8 (tabI x i.1))])
  μ i:=x.length - i.1
def dvT (a0 a1 a2 a3 a4 a5 a8 a9 a10 a11 a12 a13 a14 a15 a16 a17 a18 a19 a20 a21 : Value) (C : List D) (M : ML) (x : List L3) : FuncId→Nat→Option LI
  | 51,4 => some (tbLI a0 a1 a2 a3 a4 a5 a8 a9 a10 a11 a12 a13 a14 a15 a16 a17 a18 a19 a20 a21 C M x)
  | _,_ => none
def StBytesR : FSpec:=fun args kb K => match args,kb with
  | [.ptr 0 134],[.cells [.any a0,.any a1,.any a2,.any a3,.any a4,.any a5,.arr 128 C,.imp [.i64] false true 2 M,.any a8,.any a9,.any a10,.any a11,.any a12,.any a13,.any a14,.any a15,.any a16,.any a17,.any a18,.any a19,.any a20,.any a21]] => ∃ x,Tab M x∧K (.sl 1 0 (tabW x).length) [.cells [.any a0,.any a1,.any a2,.any a3,.any a4,.any a5,.arr 128 C,tbV M,.any a8,.any a9,.any a10,.any a11,.any a12,.any a13,.any a14,.any a15,.any a16,.any a17,.any a18,.any a19,.any a20,.any a21],.row 5 1 (ints .u8 (tabW x))]
  | _,_ => False
def dvSR : FuncId→Option Known
  | 72 => some ⟨[],SclientsR⟩
  | f => pkS f
def dvS : FuncId→Option Known
  | 59 => some ⟨[],Sput⟩
  | f => pkS f
noncomputable def XDvR : CallT:=callS Try.prog dvSR noT 10
theorem vcTBytesR (a0 a1 a2 a3 a4 a5 a8 a9 a10 a11 a12 a13 a14 a15 a16 a17 a18 a19 a20 a21 : Value) (C : List D) (M : ML) (x : List L3) (K : V→KB→Prop) (hvc_ :
 let z1_:=KO.cells [V.any a0,V.any a1,V.any a2,V.any a3,V.any a4,V.any a5,V.arr 128 C,V.imp [IntKind.i64] false true 2 M,V.any a8,V.any a9,V.any a10,V.any a11,V.any a12,V.any a13,V.any a14,V.any a15,V.any a16,V.any a17,V.any a18,V.any a19,V.any a20,V.any a21]; ∃ (y1 : List Int),[] = ints IntKind.u8 y1 ∧
 0 = y1.length ∧
 y1.length ≤ 10000000 ∧
 LeM (↑(List.length M) : Int) ∧
 ∃ (y2 : List L3),Tab M y2 ∧
 At (tbLI a0 a1 a2 a3 a4 a5 a8 a9 a10 a11 a12 a13 a14 a15 a16 a17 a18 a19 a20 a21 C M x) ([V.ptr 0 134,V.ptr 1 0,V.sl 2 0 y2.length,V.int IntKind.i64 (↑(y2.length - 0) : Int),V.int IntKind.i64 0],[z1_,KO.cells [V.sl 3 0 (y1 ++ numW (↑(List.length M) : Int)).length],KO.row 3 1 (ints IntKind.i64 (List.map (fun (y3 : L3) => y3.fst) y2)),KO.row 5 1 (ints IntKind.u8 (y1 ++ numW (↑(List.length M) : Int)))]) ∧
 ∀ (y5 : { y4 : Nat // y4 ≤ x.length}),(decide ((↑y5.val : Int) < (↑x.length : Int)) = true →
 InB (↑y5.val : Int) (x.length - 0) ∧
 ∃ (y6 : List D),(ints IntKind.i64 (List.map (fun (y7 : L3) => y7.fst) x))[0 + (↑y5.val : Int).toNat]? = some y6 ∧
 ∃ (y8 : Int),y6[0]? = some (D.val (Value.int IntKind.i64 y8)) ∧
 ∃ (y9 : List Int),ints IntKind.u8 (tabI x y5.val) = ints IntKind.u8 y9 ∧
 (tabI x y5.val).length = y9.length ∧
 y9.length ≤ 10000000 ∧
 LeM y8 ∧
 (∀ (y10 : List D),mget M [y8] = some y10 →
 ConfK ([CK.int IntKind.i64] ++ ([CK.int IntKind.i64] ++ [])) y10) ∧
 ∃ (y11 : List Int),ints IntKind.u8 (y9 ++ numW y8) = ints IntKind.u8 y11 ∧
 (y9 ++ numW y8).length = y11.length ∧
 y11.length ≤ 10000000 ∧
 LeM (mgetI M [y8] 0) ∧
 (∀ (y12 : List D),mget M [y8] = some y12 →
 ConfK ([CK.int IntKind.i64] ++ ([CK.int IntKind.i64] ++ [])) y12) ∧
 ∃ (y13 : List Int),ints IntKind.u8 (y11 ++ numW (mgetI M [y8] 0)) = ints IntKind.u8 y13 ∧
 (y11 ++ numW (mgetI M [y8] 0)).length = y13.length ∧
 y13.length ≤ 10000000 ∧
 LeM (mgetI M [y8] 1) ∧
 Nx (tbLI a0 a1 a2 a3 a4 a5 a8 a9 a10 a11 a12 a13 a14 a15 a16 a17 a18 a19 a20 a21 C M x) y5 ([V.ptr 0 134,V.ptr 1 0,V.sl 2 0 x.length,V.int IntKind.i64 (↑x.length : Int),V.int IntKind.i64 (IntKind.i64.wrap ((↑y5.val : Int) + 1))],[z1_,KO.cells [V.sl 3 0 (y13 ++ numW (mgetI M [y8] 1)).length],KO.row 3 1 (ints IntKind.i64 (List.map (fun (y14 : L3) => y14.fst) x)),KO.row 5 1 (ints IntKind.u8 (y13 ++ numW (mgetI M [y8] 1)))])) ∧
 (decide ((↑y5.val : Int) < (↑x.length : Int)) = false →
 ∃ (y15 : List Int),ints IntKind.u8 (tabI x y5.val) = ints IntKind.u8 y15 ∧
 (tabI x y5.val).length = y15.length ∧
 y15.length ≤ 1000000 ∧
 K (V.sl 1 0 y15.length) [z1_,KO.row 5 1 (ints IntKind.u8 y15)])
 ) : runSpec Try.prog XDvR (dvT a0 a1 a2 a3 a4 a5 a8 a9 a10 a11 a12 a13 a14 a15 a16 a17 a18 a19 a20 a21 C M x 51) 51 [.ptr 0 134] [.cells [.any a0,.any a1,.any a2,.any a3,.any a4,.any a5,.arr 128 C,tbV M,.any a8,.any a9,.any a10,.any a11,.any a12,.any a13,.any a14,.any a15,.any a16,.any a17,.any a18,.any a19,.any a20,.any a21]] (tidyRes 1 K):=by apply Eq.mp (a:=hvc_); kernel_rfl
theorem g3_take {x : List L3} {i : Nat} (h : i < x.length) : x.take (i + 1) = x.take i ++ [g3 x i]:=by rw [List.take_add_one,g3_get h]; rfl
theorem dvS_ok : AllOk Try.prog dvS:=fun f k h => by
  unfold dvS at h
  split at h
  · cases h; exact okPut
  · exact pkS_ok _ _ h
theorem dvS_okR : AllOk Try.prog dvSR:=fun f k h => by
  unfold dvSR at h
  split at h
  · cases h; exact okClientsR
  · exact pkS_ok _ _ h
theorem XDv_okR : CallOk Try.prog XDvR:=callS_ok mixed dvS_okR noT 10
theorem inc_lt {x : List L3} (h : x.Pairwise (fun a b => a.1 < b.1)) {i j : Nat} (hij : i < j) (hj : j < x.length) : (g3 x i).1 < (g3 x j).1:=by
  have:=List.pairwise_iff_getElem.1 h i j (by omega) hj hij
  have e1:=g3_get (show i < x.length by omega)
  have e2:=g3_get hj
  rw [List.getElem?_eq_getElem (show i < x.length by omega),Option.some.injEq] at e1
  rw [List.getElem?_eq_getElem hj,Option.some.injEq] at e2
  rwa [e1,e2] at this
theorem numA_at {x : List L3} (h : x.Pairwise (fun a b => a.1 < b.1)) {i : Nat} (hi : i < x.length) : numA x (g3 x i).1 = some (g3 x i).2:=by
  unfold numA
  rw [at_uniq hi rfl (fun j hj => by have:=inc_lt h hj hi; omega)]
  rfl
theorem catP_app {a b : List L3} : catP (a ++ b) = catP a ++ catP b:=by unfold catP; rw [List.map_append,List.flatten_append]
theorem tabI_s {x : List L3} {i : Nat} (h : i < x.length) : tabI x (i + 1) = tabI x i ++ trW (g3 x i):=by
  unfold tabI
  rw [g3_take h,catP_app,← List.append_assoc]
  simp [catP]
theorem tabI_all {x : List L3} : tabI x x.length = tabW x:=by unfold tabI tabW; rw [List.take_length]
theorem tabI_0 {x : List L3} : tabI x 0 = numW (x.length : Int):=by simp [tabI,catP]
theorem catP_len : ∀ (x : List L3),(catP x).length ≤ 27 * x.length
  | [] => by simp [catP]
  | p :: l => by
    have:=catP_len l
    have h1:=numW_len p.1
    have h2:=numW_len p.2.1
    have h3:=numW_len p.2.2
    have e : catP (p :: l) = trW p ++ catP l:=by simp [catP]
    rw [e,List.length_append,List.length_cons]
    unfold trW
    simp only [List.length_append]; omega
theorem tabI_len {x : List L3} (h : x.length ≤ 32) (i : Nat) : (tabI x i).length ≤ 1000:=by
  have h1:=catP_len (x.take i)
  have h2:=numW_len (x.length : Int)
  rw [List.length_take] at h1
  unfold tabI
  rw [List.length_append]; omega
theorem Tab.ok {M : ML} {x : List L3} (h : Tab M x) : OkX x:=⟨h.inc,h.rg,h.len⟩
theorem okTBytesR : SpecOk Try.prog 51 StBytesR:=specOk_tidy XDv_okR mixed (fun args kb K h => by
  unfold StBytesR at h; split at h <;> try exact h.elim
  · rename_i a0 a1 a2 a3 a4 a5 C M a8 a9 a10 a11 a12 a13 a14 a15 a16 a17 a18 a19 a20 a21
    obtain ⟨x,ht,h⟩:=h
    have hl:=ht.len
    have hML:=(tab_keys ht).2.2
    refine ⟨dvT a0 a1 a2 a3 a4 a5 a8 a9 a10 a11 a12 a13 a14 a15 a16 a17 a18 a19 a20 a21 C M x 51,vcTBytesR _ _ _ _ _ _ _ _ _ _ _ _ _ _ _ _ _ _ _ _ _ M x K ⟨[],rfl,rfl,by simp,⟨by omega⟩,x,ht,?_,?_⟩⟩
    · rw [hML,List.nil_append,← tabI_0]
      exact At.mk' ⟨0,Nat.zero_le _⟩ rfl
    rintro ⟨i,hi⟩
    dsimp only
    have hb:=tabI_len hl i
    simp only [decide_eq_true_eq,decide_eq_false_iff_not]
    refine ⟨fun hc => ?_,fun hc => ?_⟩
    · have hix : i < x.length:=by omega
      have hr:=ht.rg _ (g3_mem hix)
      have n1:=numW_len (g3 x i).1
      have n2:=numW_len (g3 x i).2.1
      have n3:=numW_len (g3 x i).2.2
      obtain ⟨t3,t4⟩:=(tab_has ht (g3 x i).1).2 _ (numA_at ht.inc hix)
      have hk : (x.map (·.1))[i]? = some (g3 x i).1:=by rw [List.getElem?_map,g3_get hix]; rfl
      refine ⟨by unfold InB; omega,[D.val (.int .i64 (g3 x i).1)],by rw [Nat.zero_add,Int.toNat_natCast,ints_get,hk]; rfl,_,rfl,_,rfl,rfl,by omega,⟨by omega⟩,conf2 ht _,_,rfl,rfl,by rw [List.length_append]; omega,⟨by rw [t3]; omega⟩,conf2 ht _,_,rfl,rfl,by rw [t3]; simp only [List.length_append]; omega,⟨by rw [t4]; omega⟩,?_⟩
      have e1 : IntKind.i64.wrap ((i : Int) + 1) = ((i + 1 : Nat) : Int):=by rw [w64 (by omega) (by omega)]; rfl
      have e2 : tabI x i ++ numW (g3 x i).1 ++ numW (g3 x i).2.1 ++ numW (g3 x i).2.2 = tabI x (i + 1):=by
        rw [tabI_s hix]; unfold trW; simp only [List.append_assoc]
      rw [t3,t4,e1,e2]
      exact Nx.mk' (⟨i + 1,by omega⟩ : {i : Nat // i ≤ x.length}) rfl (by show x.length - (i + 1) < x.length - i; omega)
    · have : i = x.length:=by omega
      subst this
      refine ⟨_,rfl,rfl,by omega,?_⟩
      rw [tabI_all]
      exact h)
end Go.Proofs.Ytfcjngcnifdmnaa
namespace Go.Proofs.Ytfcjngcnifdmnaa
open Vc Go
set_option linter.unusedVariables false
set_option linter.unusedSimpArgs false
set_option maxRecDepth 100000
def numSt (l : List Int) (p : Nat × Int) (most : Int) : Nat × Int:=(p.1 + (rNum (l.drop p.1) p.2 most).2.1,(rNum (l.drop p.1) p.2 most).2.2)
def numAt (l : List Int) (p : Nat × Int) (most : Int) : Int:=(rNum (l.drop p.1) p.2 most).1
def s1 (b : List Int) (p : Nat × Int) : Nat × Int:=numSt b p 255
def s2 (b : List Int) (p : Nat × Int) : Nat × Int:=numSt b (s1 b p) 1099511627776
def s3 (b : List Int) (p : Nat × Int) : Nat × Int:=numSt b (s2 b p) 63
def v3 (b : List Int) (p : Nat × Int) : L3:=(numAt b p 255,numAt b (s1 b p) 1099511627776,numAt b (s2 b p) 63)
def lIt (b : List Int) : Nat→(Nat × Int) × List L3
  | 0 => (numSt b (0,0) 32,[])
  | i + 1 => (s3 b (lIt b i).1,(lIt b i).2 ++ [v3 b (lIt b i).1])
def lc (b : List Int) : Nat:=(numAt b (0,0) 32).toNat
def lastC (x : List L3) : Int:=match x.getLast? with | some p => p.1 | none => -1
structure LdI (b : List Int) (i : Nat) (M : ML) : Prop where
  i2 : i ≤ lc b
  tab : Tab M (lIt b i).2
  pos : (lIt b i).1.1 ≤ b.length
abbrev ldLI (b : List Int) : LI where
  α:={p : Nat × ML // LdI b p.1 p.2}
  live:=[2,4,5,6,13,14]
  nils:=[.impC 2 0 [.i64] false true 2]
  st p:=([.ptr 0 0,.ptr 1 0,.int .i64 (lastC (lIt b p.1.1).2),.ptr 2 0,.int .i64 (lc b : Int),.int .i64 (p.1.1 : Int)],[.cells [.any (.map none)],.cells [.sl 3 (lIt b p.1.1).1.1 b.length,.int .i64 (lIt b p.1.1).1.2],.cells [tbV p.1.2],.row 5 1 (ints .u8 b)])
  μ p:=lc b - p.1.1
def ldT (b : List Int) : FuncId→Nat→Option LI
  | 46,4 => some (ldLI b)
  | _,_ => none
def SLoad : FSpec:=fun args kb K => match args,kb with
  | [.dat (.sl 1 B)],[] => ∃ b : List Int,B = ints .u8 b∧Byt b∧b.length ≤ 140737488355328∧((¬ ∃ x,OkX x∧b = tabW x)→K (.tup [.agg [.any (.map none)],.sb false]) []) ∧
      ∀ x M,Tab M x→b = tabW x→K (.tup [.agg [tbV M],.sb true]) []
  | _,_ => False
noncomputable def XDv : CallT:=callS Try.prog dvS noT 10
theorem vcLoad (b : List Int) (K : V→KB→Prop) (hvc_ :
 let z1_:=(V.tup [V.agg [V.any (Value.map none)],V.sb false]); (ints IntKind.u8 b).length ≤ 140737488355328 ∧
 ∃ (y1 : List Int),ints IntKind.u8 b = ints IntKind.u8 y1 ∧
 (ints IntKind.u8 b).length = y1.length ∧
 0 ≤ y1.length ∧
 (∀ (y2 : Int),List.Mem y2 y1 →
 0 ≤ y2 ∧
 y2 < 256) ∧
 y1.length ≤ 140737488355328 ∧
 At (ldLI b) ([V.ptr 0 0,V.ptr 1 0,V.int IntKind.i64 (-1),V.ptr 2 0,V.int IntKind.i64 (rNum (List.drop 0 y1) 0 32).fst,V.int IntKind.i64 0],[KO.cells [V.any (Value.map none)],KO.cells [V.sl 3 (0 + (rNum (List.drop 0 y1) 0 32).snd.fst) y1.length,V.int IntKind.i64 (rNum (List.drop 0 y1) 0 32).snd.snd],KO.cells [V.imp [IntKind.i64] false true 2 []],KO.row 5 1 (ints IntKind.u8 y1)]) ∧
 ∀ (y4 : { y3 : Nat × ML // LdI b y3.fst y3.snd}),(decide ((↑y4.val.fst : Int) < (↑(lc b) : Int)) = true →
 ∃ (y5 : List Int),ints IntKind.u8 b = ints IntKind.u8 y5 ∧
 b.length = y5.length ∧
 (lIt b y4.val.fst).fst.fst ≤ y5.length ∧
 (∀ (y6 : Int),List.Mem y6 y5 →
 0 ≤ y6 ∧
 y6 < 256) ∧
 y5.length ≤ 140737488355328 ∧
 ∃ (y7 : List Int),ints IntKind.u8 y5 = ints IntKind.u8 y7 ∧
 y5.length = y7.length ∧
 (lIt b y4.val.fst).fst.fst + (rNum (List.drop (lIt b y4.val.fst).fst.fst y5) (lIt b y4.val.fst).fst.snd 255).snd.fst ≤ y7.length ∧
 (∀ (y8 : Int),List.Mem y8 y7 →
 0 ≤ y8 ∧
 y8 < 256) ∧
 y7.length ≤ 140737488355328 ∧
 ∃ (y9 : List Int),ints IntKind.u8 y7 = ints IntKind.u8 y9 ∧
 y7.length = y9.length ∧
 (lIt b y4.val.fst).fst.fst + (rNum (List.drop (lIt b y4.val.fst).fst.fst y5) (lIt b y4.val.fst).fst.snd 255).snd.fst + (rNum (List.drop ((lIt b y4.val.fst).fst.fst + (rNum (List.drop (lIt b y4.val.fst).fst.fst y5) (lIt b y4.val.fst).fst.snd 255).snd.fst) y7) (rNum (List.drop (lIt b y4.val.fst).fst.fst y5) (lIt b y4.val.fst).fst.snd 255).snd.snd 1099511627776).snd.fst ≤ y9.length ∧
 (∀ (y10 : Int),List.Mem y10 y9 →
 0 ≤ y10 ∧
 y10 < 256) ∧
 y9.length ≤ 140737488355328 ∧
 (((rNum (List.drop ((lIt b y4.val.fst).fst.fst + (rNum (List.drop (lIt b y4.val.fst).fst.fst y5) (lIt b y4.val.fst).fst.snd 255).snd.fst + (rNum (List.drop ((lIt b y4.val.fst).fst.fst + (rNum (List.drop (lIt b y4.val.fst).fst.fst y5) (lIt b y4.val.fst).fst.snd 255).snd.fst) y7) (rNum (List.drop (lIt b y4.val.fst).fst.fst y5) (lIt b y4.val.fst).fst.snd 255).snd.snd 1099511627776).snd.fst) y9) (rNum (List.drop ((lIt b y4.val.fst).fst.fst + (rNum (List.drop (lIt b y4.val.fst).fst.fst y5) (lIt b y4.val.fst).fst.snd 255).snd.fst) y7) (rNum (List.drop (lIt b y4.val.fst).fst.fst y5) (lIt b y4.val.fst).fst.snd 255).snd.snd 1099511627776).snd.snd 63).snd.snd != 0) = true →
 K z1_ []) ∧
 (((rNum (List.drop ((lIt b y4.val.fst).fst.fst + (rNum (List.drop (lIt b y4.val.fst).fst.fst y5) (lIt b y4.val.fst).fst.snd 255).snd.fst + (rNum (List.drop ((lIt b y4.val.fst).fst.fst + (rNum (List.drop (lIt b y4.val.fst).fst.fst y5) (lIt b y4.val.fst).fst.snd 255).snd.fst) y7) (rNum (List.drop (lIt b y4.val.fst).fst.fst y5) (lIt b y4.val.fst).fst.snd 255).snd.snd 1099511627776).snd.fst) y9) (rNum (List.drop ((lIt b y4.val.fst).fst.fst + (rNum (List.drop (lIt b y4.val.fst).fst.fst y5) (lIt b y4.val.fst).fst.snd 255).snd.fst) y7) (rNum (List.drop (lIt b y4.val.fst).fst.fst y5) (lIt b y4.val.fst).fst.snd 255).snd.snd 1099511627776).snd.snd 63).snd.snd != 0) = false →
 (decide ((rNum (List.drop (lIt b y4.val.fst).fst.fst y5) (lIt b y4.val.fst).fst.snd 255).fst ≤ lastC (lIt b y4.val.fst).snd) = true →
 K z1_ []) ∧
 (decide ((rNum (List.drop (lIt b y4.val.fst).fst.fst y5) (lIt b y4.val.fst).fst.snd 255).fst ≤ lastC (lIt b y4.val.fst).snd) = false →
 ∃ (y11 : List L3),Tab y4.val.snd y11 ∧
 (NeZ (putE y11 (rNum (List.drop (lIt b y4.val.fst).fst.fst y5) (lIt b y4.val.fst).fst.snd 255).fst (rNum (List.drop ((lIt b y4.val.fst).fst.fst + (rNum (List.drop (lIt b y4.val.fst).fst.fst y5) (lIt b y4.val.fst).fst.snd 255).snd.fst) y7) (rNum (List.drop (lIt b y4.val.fst).fst.fst y5) (lIt b y4.val.fst).fst.snd 255).snd.snd 1099511627776).fst (rNum (List.drop ((lIt b y4.val.fst).fst.fst + (rNum (List.drop (lIt b y4.val.fst).fst.fst y5) (lIt b y4.val.fst).fst.snd 255).snd.fst + (rNum (List.drop ((lIt b y4.val.fst).fst.fst + (rNum (List.drop (lIt b y4.val.fst).fst.fst y5) (lIt b y4.val.fst).fst.snd 255).snd.fst) y7) (rNum (List.drop (lIt b y4.val.fst).fst.fst y5) (lIt b y4.val.fst).fst.snd 255).snd.snd 1099511627776).snd.fst) y9) (rNum (List.drop ((lIt b y4.val.fst).fst.fst + (rNum (List.drop (lIt b y4.val.fst).fst.fst y5) (lIt b y4.val.fst).fst.snd 255).snd.fst) y7) (rNum (List.drop (lIt b y4.val.fst).fst.fst y5) (lIt b y4.val.fst).fst.snd 255).snd.snd 1099511627776).snd.snd 63).fst) →
 ((putE y11 (rNum (List.drop (lIt b y4.val.fst).fst.fst y5) (lIt b y4.val.fst).fst.snd 255).fst (rNum (List.drop ((lIt b y4.val.fst).fst.fst + (rNum (List.drop (lIt b y4.val.fst).fst.fst y5) (lIt b y4.val.fst).fst.snd 255).snd.fst) y7) (rNum (List.drop (lIt b y4.val.fst).fst.fst y5) (lIt b y4.val.fst).fst.snd 255).snd.snd 1099511627776).fst (rNum (List.drop ((lIt b y4.val.fst).fst.fst + (rNum (List.drop (lIt b y4.val.fst).fst.fst y5) (lIt b y4.val.fst).fst.snd 255).snd.fst + (rNum (List.drop ((lIt b y4.val.fst).fst.fst + (rNum (List.drop (lIt b y4.val.fst).fst.fst y5) (lIt b y4.val.fst).fst.snd 255).snd.fst) y7) (rNum (List.drop (lIt b y4.val.fst).fst.fst y5) (lIt b y4.val.fst).fst.snd 255).snd.snd 1099511627776).snd.fst) y9) (rNum (List.drop ((lIt b y4.val.fst).fst.fst + (rNum (List.drop (lIt b y4.val.fst).fst.fst y5) (lIt b y4.val.fst).fst.snd 255).snd.fst) y7) (rNum (List.drop (lIt b y4.val.fst).fst.fst y5) (lIt b y4.val.fst).fst.snd 255).snd.snd 1099511627776).snd.snd 63).fst != 0) = true →
 K z1_ []) ∧
 ((putE y11 (rNum (List.drop (lIt b y4.val.fst).fst.fst y5) (lIt b y4.val.fst).fst.snd 255).fst (rNum (List.drop ((lIt b y4.val.fst).fst.fst + (rNum (List.drop (lIt b y4.val.fst).fst.fst y5) (lIt b y4.val.fst).fst.snd 255).snd.fst) y7) (rNum (List.drop (lIt b y4.val.fst).fst.fst y5) (lIt b y4.val.fst).fst.snd 255).snd.snd 1099511627776).fst (rNum (List.drop ((lIt b y4.val.fst).fst.fst + (rNum (List.drop (lIt b y4.val.fst).fst.fst y5) (lIt b y4.val.fst).fst.snd 255).snd.fst + (rNum (List.drop ((lIt b y4.val.fst).fst.fst + (rNum (List.drop (lIt b y4.val.fst).fst.fst y5) (lIt b y4.val.fst).fst.snd 255).snd.fst) y7) (rNum (List.drop (lIt b y4.val.fst).fst.fst y5) (lIt b y4.val.fst).fst.snd 255).snd.snd 1099511627776).snd.fst) y9) (rNum (List.drop ((lIt b y4.val.fst).fst.fst + (rNum (List.drop (lIt b y4.val.fst).fst.fst y5) (lIt b y4.val.fst).fst.snd 255).snd.fst) y7) (rNum (List.drop (lIt b y4.val.fst).fst.fst y5) (lIt b y4.val.fst).fst.snd 255).snd.snd 1099511627776).snd.snd 63).fst != 0) = false →
 Nx (ldLI b) y4 ([V.ptr 0 0,V.ptr 1 0,V.int IntKind.i64 (rNum (List.drop (lIt b y4.val.fst).fst.fst y5) (lIt b y4.val.fst).fst.snd 255).fst,V.ptr 2 0,V.int IntKind.i64 (↑(lc b) : Int),V.int IntKind.i64 (IntKind.i64.wrap ((↑y4.val.fst : Int) + 1))],[KO.cells [V.any (Value.map none)],KO.cells [V.sl 3 ((lIt b y4.val.fst).fst.fst + (rNum (List.drop (lIt b y4.val.fst).fst.fst y5) (lIt b y4.val.fst).fst.snd 255).snd.fst + (rNum (List.drop ((lIt b y4.val.fst).fst.fst + (rNum (List.drop (lIt b y4.val.fst).fst.fst y5) (lIt b y4.val.fst).fst.snd 255).snd.fst) y7) (rNum (List.drop (lIt b y4.val.fst).fst.fst y5) (lIt b y4.val.fst).fst.snd 255).snd.snd 1099511627776).snd.fst + (rNum (List.drop ((lIt b y4.val.fst).fst.fst + (rNum (List.drop (lIt b y4.val.fst).fst.fst y5) (lIt b y4.val.fst).fst.snd 255).snd.fst + (rNum (List.drop ((lIt b y4.val.fst).fst.fst + (rNum (List.drop (lIt b y4.val.fst).fst.fst y5) (lIt b y4.val.fst).fst.snd 255).snd.fst) y7) (rNum (List.drop (lIt b y4.val.fst).fst.fst y5) (lIt b y4.val.fst).fst.snd 255).snd.snd 1099511627776).snd.fst) y9) (rNum (List.drop ((lIt b y4.val.fst).fst.fst + (rNum (List.drop (lIt b y4.val.fst).fst.fst y5) (lIt b y4.val.fst).fst.snd 255).snd.fst) y7) (rNum (List.drop (lIt b y4.val.fst).fst.fst y5) (lIt b y4.val.fst).fst.snd 255).snd.snd 1099511627776).snd.snd 63).snd.fst) y9.length,V.int IntKind.i64 (rNum (List.drop ((lIt b y4.val.fst).fst.fst + (rNum (List.drop (lIt b y4.val.fst).fst.fst y5) (lIt b y4.val.fst).fst.snd 255).snd.fst + (rNum (List.drop ((lIt b y4.val.fst).fst.fst + (rNum (List.drop (lIt b y4.val.fst).fst.fst y5) (lIt b y4.val.fst).fst.snd 255).snd.fst) y7) (rNum (List.drop (lIt b y4.val.fst).fst.fst y5) (lIt b y4.val.fst).fst.snd 255).snd.snd 1099511627776).snd.fst) y9) (rNum (List.drop ((lIt b y4.val.fst).fst.fst + (rNum (List.drop (lIt b y4.val.fst).fst.fst y5) (lIt b y4.val.fst).fst.snd 255).snd.fst) y7) (rNum (List.drop (lIt b y4.val.fst).fst.fst y5) (lIt b y4.val.fst).fst.snd 255).snd.snd 1099511627776).snd.snd 63).snd.snd],KO.cells [V.imp [IntKind.i64] false true 2 y4.val.snd],KO.row 5 1 (ints IntKind.u8 y9)]))) ∧
 (EqZ (putE y11 (rNum (List.drop (lIt b y4.val.fst).fst.fst y5) (lIt b y4.val.fst).fst.snd 255).fst (rNum (List.drop ((lIt b y4.val.fst).fst.fst + (rNum (List.drop (lIt b y4.val.fst).fst.fst y5) (lIt b y4.val.fst).fst.snd 255).snd.fst) y7) (rNum (List.drop (lIt b y4.val.fst).fst.fst y5) (lIt b y4.val.fst).fst.snd 255).snd.snd 1099511627776).fst (rNum (List.drop ((lIt b y4.val.fst).fst.fst + (rNum (List.drop (lIt b y4.val.fst).fst.fst y5) (lIt b y4.val.fst).fst.snd 255).snd.fst + (rNum (List.drop ((lIt b y4.val.fst).fst.fst + (rNum (List.drop (lIt b y4.val.fst).fst.fst y5) (lIt b y4.val.fst).fst.snd 255).snd.fst) y7) (rNum (List.drop (lIt b y4.val.fst).fst.fst y5) (lIt b y4.val.fst).fst.snd 255).snd.snd 1099511627776).snd.fst) y9) (rNum (List.drop ((lIt b y4.val.fst).fst.fst + (rNum (List.drop (lIt b y4.val.fst).fst.fst y5) (lIt b y4.val.fst).fst.snd 255).snd.fst) y7) (rNum (List.drop (lIt b y4.val.fst).fst.fst y5) (lIt b y4.val.fst).fst.snd 255).snd.snd 1099511627776).snd.snd 63).fst) →
 (false = true →
 K z1_ []) ∧
 (false = false →
 Nx (ldLI b) y4 ([V.ptr 0 0,V.ptr 1 0,V.int IntKind.i64 (rNum (List.drop (lIt b y4.val.fst).fst.fst y5) (lIt b y4.val.fst).fst.snd 255).fst,V.ptr 2 0,V.int IntKind.i64 (↑(lc b) : Int),V.int IntKind.i64 (IntKind.i64.wrap ((↑y4.val.fst : Int) + 1))],[KO.cells [V.any (Value.map none)],KO.cells [V.sl 3 ((lIt b y4.val.fst).fst.fst + (rNum (List.drop (lIt b y4.val.fst).fst.fst y5) (lIt b y4.val.fst).fst.snd 255).snd.fst + (rNum (List.drop ((lIt b y4.val.fst).fst.fst + (rNum (List.drop (lIt b y4.val.fst).fst.fst y5) (lIt b y4.val.fst).fst.snd 255).snd.fst) y7) (rNum (List.drop (lIt b y4.val.fst).fst.fst y5) (lIt b y4.val.fst).fst.snd 255).snd.snd 1099511627776).snd.fst + (rNum (List.drop ((lIt b y4.val.fst).fst.fst + (rNum (List.drop (lIt b y4.val.fst).fst.fst y5) (lIt b y4.val.fst).fst.snd 255).snd.fst + (rNum (List.drop ((lIt b y4.val.fst).fst.fst + (rNum (List.drop (lIt b y4.val.fst).fst.fst y5) (lIt b y4.val.fst).fst.snd 255).snd.fst) y7) (rNum (List.drop (lIt b y4.val.fst).fst.fst y5) (lIt b y4.val.fst).fst.snd 255).snd.snd 1099511627776).snd.fst) y9) (rNum (List.drop ((lIt b y4.val.fst).fst.fst + (rNum (List.drop (lIt b y4.val.fst).fst.fst y5) (lIt b y4.val.fst).fst.snd 255).snd.fst) y7) (rNum (List.drop (lIt b y4.val.fst).fst.fst y5) (lIt b y4.val.fst).fst.snd 255).snd.snd 1099511627776).snd.snd 63).snd.fst) y9.length,V.int IntKind.i64 (rNum (List.drop ((lIt b y4.val.fst).fst.fst + (rNum (List.drop (lIt b y4.val.fst).fst.fst y5) (lIt b y4.val.fst).fst.snd 255).snd.fst + (rNum (List.drop ((lIt b y4.val.fst).fst.fst + (rNum (List.drop (lIt b y4.val.fst).fst.fst y5) (lIt b y4.val.fst).fst.snd 255).snd.fst) y7) (rNum (List.drop (lIt b y4.val.fst).fst.fst y5) (lIt b y4.val.fst).fst.snd 255).snd.snd 1099511627776).snd.fst) y9) (rNum (List.drop ((lIt b y4.val.fst).fst.fst + (rNum (List.drop (lIt b y4.val.fst).fst.fst y5) (lIt b y4.val.fst).fst.snd 255).snd.fst) y7) (rNum (List.drop (lIt b y4.val.fst).fst.fst y5) (lIt b y4.val.fst).fst.snd 255).snd.snd 1099511627776).snd.snd 63).snd.snd],KO.cells [V.imp [IntKind.i64] false true 2 (mset y4.val.snd [(rNum (List.drop (lIt b y4.val.fst).fst.fst y5) (lIt b y4.val.fst).fst.snd 255).fst] [dn IntKind.i64 (rNum (List.drop ((lIt b y4.val.fst).fst.fst + (rNum (List.drop (lIt b y4.val.fst).fst.fst y5) (lIt b y4.val.fst).fst.snd 255).snd.fst) y7) (rNum (List.drop (lIt b y4.val.fst).fst.fst y5) (lIt b y4.val.fst).fst.snd 255).snd.snd 1099511627776).fst,dn IntKind.i64 (rNum (List.drop ((lIt b y4.val.fst).fst.fst + (rNum (List.drop (lIt b y4.val.fst).fst.fst y5) (lIt b y4.val.fst).fst.snd 255).snd.fst + (rNum (List.drop ((lIt b y4.val.fst).fst.fst + (rNum (List.drop (lIt b y4.val.fst).fst.fst y5) (lIt b y4.val.fst).fst.snd 255).snd.fst) y7) (rNum (List.drop (lIt b y4.val.fst).fst.fst y5) (lIt b y4.val.fst).fst.snd 255).snd.snd 1099511627776).snd.fst) y9) (rNum (List.drop ((lIt b y4.val.fst).fst.fst + (rNum (List.drop (lIt b y4.val.fst).fst.fst y5) (lIt b y4.val.fst).fst.snd 255).snd.fst) y7) (rNum (List.drop (lIt b y4.val.fst).fst.fst y5) (lIt b y4.val.fst).fst.snd 255).snd.snd 1099511627776).snd.snd 63).fst])],KO.row 5 1 (ints IntKind.u8 y9)])))))) ∧
 (decide ((↑y4.val.fst : Int) < (↑(lc b) : Int)) = false →
 ∃ (y12 : List Int),ints IntKind.u8 b = ints IntKind.u8 y12 ∧
 b.length = y12.length ∧
 ((rEnd (List.drop (lIt b y4.val.fst).fst.fst y12) (lIt b y4.val.fst).fst.snd != 0) = true →
 K z1_ []) ∧
 ((rEnd (List.drop (lIt b y4.val.fst).fst.fst y12) (lIt b y4.val.fst).fst.snd != 0) = false →
 K (V.tup [V.agg [V.imp [IntKind.i64] false true 2 y4.val.snd],V.sb true]) []))
 ) : runSpec Try.prog XDv (ldT b 46) 46 [.dat (.sl 1 (ints .u8 b))] [] (tidyRes 0 K):=by apply Eq.mp (a:=hvc_); kernel_rfl
theorem XDv_ok : CallOk Try.prog XDv:=callS_ok mixed dvS_ok noT 10
theorem mset_perm : ∀ {M : ML} {k : List Int} {v : List D},(M.map (·.1)).Nodup→(mset M k v).Perm ((k,v) :: M.filter (fun e => decide (e.1 ≠ k)))
  | [],k,v,_ => by simp [mset]
  | (a,c) :: M,k,v,hn => by
    simp only [List.map_cons,List.nodup_cons] at hn
    simp only [mset]
    by_cases h : k = a
    · subst h
      rw [if_pos rfl]
      have : M.filter (fun e => decide (e.1 ≠ k)) = M:=by
        rw [List.filter_eq_self]
        intro e he
        simp only [decide_eq_true_eq]
        exact fun e1 => hn.1 (List.mem_map.2 ⟨e,he,e1⟩)
      rw [List.filter_cons_of_neg (by simp),this]
    · rw [if_neg h,List.filter_cons_of_pos (by simpa using Ne.symm h)]
      exact ((mset_perm hn.2).cons (a,c)).trans (List.Perm.swap _ _ _)
theorem putL_perm {x : List L3} {c n e : Int} : (putL x c n e).Perm ((c,n,e) :: x.filter (fun p => decide (p.1 ≠ c))):=by
  have h1:=List.filter_append_perm (fun p : L3 => decide (p.1 < c)) (x.filter (fun p => decide (p.1 ≠ c)))
  have e1 : (x.filter (fun p => decide (p.1 ≠ c))).filter (fun p : L3 => decide (p.1 < c)) = x.filter (fun p => decide (p.1 < c)):=by
    rw [List.filter_filter]
    apply List.filter_congr
    intro p _
    by_cases h : p.1 < c
    · have : p.1 ≠ c:=by omega
      simp [h,this]
    · simp [h]
  have e2 : (x.filter (fun p => decide (p.1 ≠ c))).filter (fun p : L3 => !decide (p.1 < c)) = x.filter (fun p => decide (c < p.1)):=by
    rw [List.filter_filter]
    apply List.filter_congr
    intro p _
    by_cases h : c < p.1
    · have h1 : p.1 ≠ c:=by omega
      have h2 : ¬ p.1 < c:=by omega
      simp [h,h1,h2]
    · by_cases h2 : p.1 = c
      · simp [h2]
      · have h3 : p.1 < c:=by omega
        simp [h,h3]
  rw [e1,e2] at h1
  unfold putL
  exact (List.perm_middle).trans (h1.cons _)
theorem putE_0 {x : List L3} {c n e : Int} (h : putE x c n e = 0) : (0 ≤ c∧c ≤ 255∧1 ≤ n∧n ≤ 1099511627776∧0 ≤ e∧e ≤ 63)∧(numA x c = none→x.length < 32):=by
  unfold putE at h
  split at h
  · cases h
  · rename_i hg
    refine ⟨by omega,fun hn => ?_⟩
    rw [hn] at h
    simp only at h
    split at h
    · cases h
    · omega
theorem numA_none {x : List L3} {c : Int} (h : ∀ p ∈ x,p.1 ≠ c) : numA x c = none:=by
  unfold numA
  rw [at_non (fun j hj => h _ (g3_mem hj))]; rfl
theorem tab_put {M : ML} {x : List L3} {c n e : Int} (h : Tab M x) (h0 : putE x c n e = 0) : Tab (mset M [c] [dn .i64 n,dn .i64 e]) (putL x c n e):=by
  obtain ⟨hr,hn⟩:=putE_0 h0
  have hp : (putL x c n e).Perm ((c,n,e) :: x.filter (fun p => decide (p.1 ≠ c))):=putL_perm
  refine ⟨?_,?_,fun p hpm => ?_,?_⟩
  · have h1:=mset_perm (M:=M) (k:=[c]) (v:=[dn .i64 n,dn .i64 e]) (tab_nd h)
    have h2 : (M.filter (fun q => decide (q.1 ≠ [c]))).Perm ((x.map ent).filter (fun q => decide (q.1 ≠ [c]))):=h.perm.filter _
    have h3 : (x.map ent).filter (fun q => decide (q.1 ≠ [c])) = (x.filter (fun p => decide (p.1 ≠ c))).map ent:=by
      rw [List.filter_map]
      congr 1
      apply List.filter_congr
      intro p _
      simp [ent]
    rw [h3] at h2
    have h4:=(hp.map ent).symm
    exact (h1.trans (h2.cons _)).trans h4
  · unfold putL
    refine List.pairwise_append.2 ⟨h.inc.filter _,List.pairwise_cons.2 ⟨fun q hq => ?_,h.inc.filter _⟩,fun a ha b hb => ?_⟩
    · have:=(List.mem_filter.1 hq).2
      simp only [decide_eq_true_eq] at this
      exact this
    · have h1:=(List.mem_filter.1 ha).2
      simp only [decide_eq_true_eq] at h1
      rcases List.mem_cons.1 hb with rfl | hb
      · exact h1
      · have h2:=(List.mem_filter.1 hb).2
        simp only [decide_eq_true_eq] at h2
        omega
  · rcases List.mem_cons.1 (hp.mem_iff.1 hpm) with rfl | h1
    · exact hr
    · exact h.rg p (List.mem_filter.1 h1).1
  · rw [hp.length_eq,List.length_cons]
    have h1:=List.length_filter_le (fun p : L3 => decide (p.1 ≠ c)) x
    cases hq : numA x c with
    | none => have:=hn hq; omega
    | some q =>
      have h2 : ∃ p ∈ x,p.1 = c:=by
        unfold numA at hq
        cases hc : atI x c with
        | none => rw [hc] at hq; cases hq
        | some i => obtain ⟨k1,k2,_⟩:=at_some hc; exact ⟨_,g3_mem k1,k2⟩
      obtain ⟨p,hpx,hpc⟩:=h2
      have h3 : (x.filter (fun p : L3 => decide (p.1 ≠ c))).length < x.length:=List.length_filter_lt_length_iff_exists.2 ⟨p,hpx,by simp [hpc]⟩
      have:=h.len
      omega
theorem putL_snoc {x : List L3} {c n e : Int} (h : ∀ p ∈ x,p.1 < c) : putL x c n e = x ++ [(c,n,e)]:=by
  unfold putL
  have e1 : x.filter (fun p => decide (p.1 < c)) = x:=by
    rw [List.filter_eq_self]; intro p hp; simpa using h p hp
  have e2 : x.filter (fun p => decide (c < p.1)) = []:=by
    rw [List.filter_eq_nil_iff]; intro p hp; have:=h p hp; simp; omega
  rw [e1,e2]
theorem lastC_all {x : List L3} {c : Int} (hi : x.Pairwise (fun a b => a.1 < b.1)) (h : lastC x < c) : ∀ p ∈ x,p.1 < c:=fun p hp => by
  unfold lastC at h
  cases hl : x.getLast? with
  | none => rw [List.getLast?_eq_none_iff] at hl; subst hl; cases hp
  | some q =>
    rw [hl] at h
    simp only at h
    obtain ⟨y,rfl⟩:=List.getLast?_eq_some_iff.1 hl
    rcases List.mem_append.1 hp with h1 | h1
    · have:=(List.pairwise_append.1 hi).2.2 p h1 q (List.mem_singleton.2 rfl); omega
    · rw [List.mem_singleton] at h1; subst h1; exact h
theorem lastC_lt {x : List L3} {c : Int} (h0 : 0 ≤ c) (h : ∀ p ∈ x,p.1 < c) : lastC x < c:=by
  unfold lastC
  cases hl : x.getLast? with
  | none => simp only; omega
  | some q => exact h q (List.mem_of_getLast? hl)
theorem lastC_snoc {x : List L3} {p : L3} : lastC (x ++ [p]) = p.1:=by unfold lastC; simp
theorem rNum_most {l : List Int} {most : Int} (h0 : 0 ≤ most) (e : Int) : (rNum l e most).1 ≤ most∧0 ≤ (rNum l e most).1:=by
  unfold rNum
  split
  · split
    · split
      · exact ⟨h0,Int.le_refl _⟩
      · exact ⟨by simp only; omega,by simp only; omega⟩
    · exact ⟨h0,Int.le_refl _⟩
    · exact ⟨h0,Int.le_refl _⟩
  · exact ⟨h0,Int.le_refl _⟩
theorem rNum0 {b : List Int} {v : Int} {u : Nat} {most : Int} (hb : Byt b) (h : rNum b 0 most = (v,u,0)) : b = numW v ++ b.drop u∧u = (numW v).length∧0 ≤ v∧v ≤ 9223372036854775807:=by
  unfold rNum at h
  rw [if_pos rfl] at h
  split at h
  · rename_i w n hn
    split at h
    · simp at h
    · simp only [Prod.mk.injEq,and_true] at h
      obtain ⟨rfl,rfl⟩:=h
      obtain ⟨h1,h2,r,h3⟩:=numR_got hb hn
      refine ⟨?_,h2,by omega,h1⟩
      have : b.drop n = r:=by rw [h3,h2,List.drop_left]
      rw [this]; exact h3
  · simp at h
  · simp at h
theorem rNum_e {l : List Int} {e most : Int} (h : e ≠ 0) : rNum l e most = (0,0,e):=by unfold rNum; rw [if_neg h]
theorem num_sk {b : List Int} {p : Nat × Int} {m : Int} (h : (numSt b p m).2 = 0) : p.2 = 0:=Classical.byContradiction fun f => by
  unfold numSt at h
  rw [rNum_e f] at h
  exact f h
theorem num_b {b : List Int} (hb : Byt b) {p : Nat × Int} (h : p.1 ≤ b.length) (m : Int) : (numSt b p m).1 ≤ b.length:=by
  have:=(rNum_val (byt_drop hb p.1) p.2 m).2.2
  rw [List.length_drop] at this
  unfold numSt; simp only; omega
theorem num_ok {b : List Int} (hb : Byt b) {p : Nat × Int} {m : Int} (h : (numSt b p m).2 = 0) : b.drop p.1 = numW (numAt b p m) ++ b.drop (numSt b p m).1:=by
  have hp:=num_sk h
  unfold numSt at h
  simp only at h
  rw [hp] at h
  have:=rNum0 (b:=b.drop p.1) (v:=(rNum (b.drop p.1) 0 m).1) (u:=(rNum (b.drop p.1) 0 m).2.1) (most:=m) (byt_drop hb _) (Prod.ext rfl (Prod.ext rfl h))
  unfold numAt numSt
  simp only
  rw [hp,← List.drop_drop]
  exact this.1
theorem num_app {pre rest : List Int} {v m : Int} (h0 : 0 ≤ v) (h : v ≤ 9223372036854775807) (hm : v ≤ m) : numSt (pre ++ (numW v ++ rest)) (pre.length,0) m = ((pre ++ numW v).length,0)∧numAt (pre ++ (numW v ++ rest)) (pre.length,0) m = v:=by
  unfold numSt numAt
  simp only
  rw [List.drop_left,rNum_app h0 h hm,List.length_append]
  exact ⟨rfl,rfl⟩
theorem lc_i {b : List Int} : numAt b (0,0) 32 = (lc b : Int)∧lc b ≤ 32:=by
  have:=rNum_most (l:=b.drop 0) (most:=32) (by omega) 0
  unfold lc numAt
  simp only at this ⊢
  omega
theorem lIt_b {b : List Int} (hb : Byt b) : ∀ i,(lIt b i).1.1 ≤ b.length∧(lIt b i).2.length = i
  | 0 => ⟨num_b hb (Nat.zero_le _) _,rfl⟩
  | i + 1 => by
    obtain ⟨h1,h2⟩:=lIt_b hb i
    exact ⟨num_b hb (num_b hb (num_b hb h1 _) _) _,by simp only [lIt,List.length_append,List.length_singleton,h2]⟩
theorem lIt_back {b : List Int} (hb : Byt b) : ∀ i,(lIt b i).1.2 = 0→b = numW (lc b : Int) ++ (catP (lIt b i).2 ++ b.drop (lIt b i).1.1)
  | 0,h => by
    have:=num_ok (p:=(0,0)) (m:=32) hb h
    rw [lc_i.1] at this
    exact this
  | i + 1,h => by
    have h3 : (s3 b (lIt b i).1).2 = 0:=h
    have h2 : (s2 b (lIt b i).1).2 = 0:=num_sk h3
    have h1 : (s1 b (lIt b i).1).2 = 0:=num_sk h2
    have h0 : (lIt b i).1.2 = 0:=num_sk h1
    have ih:=lIt_back hb i h0
    have a1:=num_ok (p:=(lIt b i).1) (m:=255) hb h1
    have a2:=num_ok (p:=s1 b (lIt b i).1) (m:=1099511627776) hb h2
    have a3:=num_ok (p:=s2 b (lIt b i).1) (m:=63) hb h3
    have e : b.drop (lIt b i).1.1 = trW (v3 b (lIt b i).1) ++ b.drop (s3 b (lIt b i).1).1:=by
      rw [a1]
      show _ ++ b.drop (s1 b (lIt b i).1).1 = _
      rw [a2]
      show _ ++ (_ ++ b.drop (s2 b (lIt b i).1).1) = _
      rw [a3]
      unfold trW v3
      simp only [List.append_assoc]
      rfl
    rw [e] at ih
    show b = numW (lc b : Int) ++ (catP ((lIt b i).2 ++ [v3 b (lIt b i).1]) ++ b.drop (s3 b (lIt b i).1).1)
    rw [catP_app,List.append_assoc]
    have e1 : catP [v3 b (lIt b i).1] = trW (v3 b (lIt b i).1):=by simp [catP]
    rw [e1]
    exact ih
theorem g3_drop {x : List L3} {i : Nat} (h : i < x.length) : x.drop i = g3 x i :: x.drop (i + 1):=by
  have h1:=List.drop_eq_getElem_cons h
  have h2:=g3_get h
  rw [List.getElem?_eq_getElem h,Option.some.injEq] at h2
  rw [h1,h2]
theorem lIt_of {x : List L3} (hx : OkX x) : lc (tabW x) = x.length∧∀ i,i ≤ x.length→lIt (tabW x) i = (((tabI x i).length,0),x.take i):=by
  have hl:=hx.len
  have e0:=num_app (pre:=[]) (rest:=catP x) (v:=(x.length : Int)) (m:=32) (by omega) (by omega) (by omega)
  simp only [List.nil_append,List.length_nil] at e0
  have hc : lc (tabW x) = x.length:=by
    unfold lc tabW
    rw [e0.2]; exact Int.toNat_natCast _
  refine ⟨hc,fun i => ?_⟩
  induction i with
  | zero =>
    intro _
    show (numSt (tabW x) (0,0) 32,[]) = _
    unfold tabW
    rw [e0.1,tabI_0]; rfl
  | succ i ih =>
    intro hi
    have ih:=ih (by omega)
    have hr:=hx.rg _ (g3_mem (show i < x.length by omega))
    have esp : tabW x = tabI x i ++ (trW (g3 x i) ++ catP (x.drop (i + 1))):=by
      have e1 : x = x.take i ++ g3 x i :: x.drop (i + 1):=by rw [← g3_drop (by omega),List.take_append_drop]
      have e2 : catP x = catP (x.take i) ++ (trW (g3 x i) ++ catP (x.drop (i + 1))):=by
        conv => lhs; rw [e1]
        rw [catP_app]; simp [catP]
      unfold tabW tabI
      rw [e2,List.append_assoc]
    have a1:=num_app (pre:=tabI x i) (rest:=numW (g3 x i).2.1 ++ numW (g3 x i).2.2 ++ catP (x.drop (i + 1))) (v:=(g3 x i).1) (m:=255) (by omega) (by omega) (by omega)
    have a2:=num_app (pre:=tabI x i ++ numW (g3 x i).1) (rest:=numW (g3 x i).2.2 ++ catP (x.drop (i + 1))) (v:=(g3 x i).2.1) (m:=1099511627776) (by omega) (by omega) (by omega)
    have a3:=num_app (pre:=tabI x i ++ numW (g3 x i).1 ++ numW (g3 x i).2.1) (rest:=catP (x.drop (i + 1))) (v:=(g3 x i).2.2) (m:=63) (by omega) (by omega) (by omega)
    have f1 : tabI x i ++ (numW (g3 x i).1 ++ (numW (g3 x i).2.1 ++ numW (g3 x i).2.2 ++ catP (x.drop (i + 1)))) = tabW x:=by rw [esp]; unfold trW; simp only [List.append_assoc]
    have f2 : tabI x i ++ numW (g3 x i).1 ++ (numW (g3 x i).2.1 ++ (numW (g3 x i).2.2 ++ catP (x.drop (i + 1)))) = tabW x:=by rw [esp]; unfold trW; simp only [List.append_assoc]
    have f3 : tabI x i ++ numW (g3 x i).1 ++ numW (g3 x i).2.1 ++ (numW (g3 x i).2.2 ++ catP (x.drop (i + 1))) = tabW x:=by rw [esp]; unfold trW; simp only [List.append_assoc]
    rw [f1] at a1
    rw [f2] at a2
    rw [f3] at a3
    have b1 : s1 (tabW x) ((tabI x i).length,0) = ((tabI x i ++ numW (g3 x i).1).length,0):=a1.1
    have b2 : s2 (tabW x) ((tabI x i).length,0) = ((tabI x i ++ numW (g3 x i).1 ++ numW (g3 x i).2.1).length,0):=by unfold s2; rw [b1]; exact a2.1
    have b3 : s3 (tabW x) ((tabI x i).length,0) = ((tabI x (i + 1)).length,0):=by
      unfold s3
      rw [b2,a3.1,tabI_s (by omega)]
      unfold trW
      simp only [List.append_assoc]
    have bv : v3 (tabW x) ((tabI x i).length,0) = g3 x i:=by
      unfold v3
      rw [b1,b2,a1.2,a2.2,a3.2]
    show (s3 (tabW x) (lIt (tabW x) i).1,(lIt (tabW x) i).2 ++ [v3 (tabW x) (lIt (tabW x) i).1]) = _
    rw [ih]
    simp only
    rw [b3,bv,← g3_take (by omega)]
theorem next_ok {x : List L3} (hx : OkX x) {i : Nat} (hi : i < lc (tabW x)) : (s3 (tabW x) (lIt (tabW x) i).1).2 = 0∧lastC (lIt (tabW x) i).2 < (v3 (tabW x) (lIt (tabW x) i).1).1 ∧
    putE (lIt (tabW x) i).2 (v3 (tabW x) (lIt (tabW x) i).1).1 (v3 (tabW x) (lIt (tabW x) i).1).2.1 (v3 (tabW x) (lIt (tabW x) i).1).2.2 = 0:=by
  obtain ⟨h1,h2⟩:=lIt_of hx
  rw [h1] at hi
  have e1:=h2 (i + 1) (by omega)
  have e0:=h2 i (by omega)
  have e2 : (s3 (tabW x) (lIt (tabW x) i).1,(lIt (tabW x) i).2 ++ [v3 (tabW x) (lIt (tabW x) i).1]) = (((tabI x (i + 1)).length,(0 : Int)),x.take (i + 1)):=e1
  rw [Prod.mk.injEq] at e2
  have ev : v3 (tabW x) (lIt (tabW x) i).1 = g3 x i:=by
    have e3:=e2.2
    rw [e0,g3_take hi] at e3
    simp only at e3
    have e4:=List.append_cancel_left e3
    simp only [List.cons.injEq,and_true] at e4
    rw [e0]; exact e4
  have hr:=hx.rg _ (g3_mem hi)
  have hlt : ∀ p ∈ x.take i,p.1 < (g3 x i).1:=fun p hp => by
    obtain ⟨j,hj,rfl⟩:=List.getElem_of_mem hp
    rw [List.length_take] at hj
    have e5:=g3_get (show j < x.length by omega)
    rw [List.getElem?_eq_getElem (show j < x.length by omega),Option.some.injEq] at e5
    rw [List.getElem_take,e5]
    exact inc_lt hx.inc (by omega) hi
  refine ⟨by rw [e2.1],?_,?_⟩
  · rw [ev,e0]
    exact lastC_lt hr.1 hlt
  · rw [ev,e0]
    simp only
    unfold putE
    rw [if_neg (by omega),numA_none (fun p hp => by have:=hlt p hp; omega)]
    simp only
    rw [if_neg (by rw [List.length_take]; have:=hx.len; omega)]
theorem bne_t {a : Int} (h : (a != 0) = true) : a ≠ 0:=by simpa using h
theorem bne_f {a : Int} (h : (a != 0) = false) : a = 0:=by simpa using h
theorem rEnd_0 {l : List Int} {e : Int} (h : rEnd l e = 0) : e = 0∧l = []:=by
  unfold rEnd at h
  split at h
  · omega
  · rename_i hh
    refine ⟨h,?_⟩
    by_cases hd : l = []
    · exact hd
    · exact absurd ⟨hd,h⟩ hh
theorem fin_ok {x : List L3} (hx : OkX x) : rEnd ((tabW x).drop (lIt (tabW x) (lc (tabW x))).1.1) (lIt (tabW x) (lc (tabW x))).1.2 = 0:=by
  obtain ⟨h1,h2⟩:=lIt_of hx
  rw [h1,h2 _ (Nat.le_refl _),tabI_all]
  show rEnd ((tabW x).drop (tabW x).length) 0 = 0
  rw [List.drop_length]; rfl
theorem fin_back {b : List Int} (hb : Byt b) (h : rEnd (b.drop (lIt b (lc b)).1.1) (lIt b (lc b)).1.2 = 0) : b = tabW (lIt b (lc b)).2:=by
  obtain ⟨h1,h2⟩:=rEnd_0 h
  have:=lIt_back hb _ h1
  rw [h2,List.append_nil] at this
  unfold tabW
  rw [(lIt_b hb (lc b)).2]
  exact this
theorem okLoad : SpecOk Try.prog 46 SLoad:=specOk_tidy XDv_ok mixed (fun args kb K h => by
  unfold SLoad at h; split at h <;> try exact h.elim
  obtain ⟨b,rfl,hb,hl,hno,hyes⟩:=h
  obtain ⟨c1,c2⟩:=lc_i (b:=b)
  have bad : ∀ i,i < lc b→¬ ((s3 b (lIt b i).1).2 = 0∧lastC (lIt b i).2 < (v3 b (lIt b i).1).1∧putE (lIt b i).2 (v3 b (lIt b i).1).1 (v3 b (lIt b i).1).2.1 (v3 b (lIt b i).1).2.2 = 0)→K (.tup [.agg [.any (.map none)],.sb false]) []:=fun i hi hn => hno (by
    rintro ⟨x,hx,rfl⟩
    exact hn (next_ok hx hi))
  have badE : rEnd (b.drop (lIt b (lc b)).1.1) (lIt b (lc b)).1.2 ≠ 0→K (.tup [.agg [.any (.map none)],.sb false]) []:=fun hn => hno (by
    rintro ⟨x,hx,rfl⟩
    exact hn (fin_ok hx))
  refine ⟨ldT b 46,vcLoad b K ⟨by rw [ints_len]; omega,b,rfl,ints_len,Nat.zero_le _,hb,by omega,?_,?_⟩⟩
  · have e1 : (rNum (List.drop 0 b) 0 32).1 = (lc b : Int):=c1
    rw [e1]
    exact At.mk' ⟨(0,[]),Nat.zero_le _,tab_nil,(lIt_b hb 0).1⟩ rfl
  · rintro ⟨⟨i,M⟩,i2,ht,hpos⟩
    dsimp only at i2 ht hpos ⊢
    refine ⟨fun hc => ?_,fun hc => ?_⟩
    · have hi : i < lc b:=by have : (i : Int) < (lc b : Int):=of_decide_eq_true hc; omega
      have p1:=num_b hb hpos 255
      have p2:=num_b hb p1 1099511627776
      refine ⟨b,rfl,rfl,hpos,hb,by omega,b,rfl,rfl,p1,hb,by omega,b,rfl,rfl,p2,hb,by omega,fun h1 => ?_,fun h1 => ⟨fun h2 => ?_,fun h2 => ⟨(lIt b i).2,ht,fun h3 => ⟨fun h4 => ?_,fun h4 => absurd (bne_f h4) h3.h⟩,fun h3 => ⟨fun f => (by cases f),fun _ => ?_⟩⟩⟩⟩
      · have he : (s3 b (lIt b i).1).2 ≠ 0:=bne_t h1
        exact bad i hi fun w => he w.1
      · have hc2 : (v3 b (lIt b i).1).1 ≤ lastC (lIt b i).2:=of_decide_eq_true h2
        exact bad i hi fun w => by have:=w.2.1; omega
      · exact bad i hi fun w => h3.h w.2.2
      · have hc2 : ¬ (v3 b (lIt b i).1).1 ≤ lastC (lIt b i).2:=of_decide_eq_false h2
        have h4 : Tab (mset M [(v3 b (lIt b i).1).1] [dn .i64 (v3 b (lIt b i).1).2.1,dn .i64 (v3 b (lIt b i).1).2.2]) (putL (lIt b i).2 (v3 b (lIt b i).1).1 (v3 b (lIt b i).1).2.1 (v3 b (lIt b i).1).2.2):=tab_put ht h3.h
        rw [putL_snoc (lastC_all ht.inc (Int.not_le.1 hc2))] at h4
        have hL : LdI b (i + 1) _:=⟨hi,h4,(lIt_b hb (i + 1)).1⟩
        have hlast : (v3 b (lIt b i).1).1 = lastC (lIt b (i + 1)).2:=lastC_snoc.symm
        have e1 : IntKind.i64.wrap ((i : Int) + 1) = ((i + 1 : Nat) : Int):=by rw [w64 (by omega) (by omega)]; rfl
        have key : ∀ (c' w' : Int),c' = lastC (lIt b (i + 1)).2→w' = ((i + 1 : Nat) : Int)→(([.ptr 0 0,.ptr 1 0,.int .i64 c',.ptr 2 0,.int .i64 (lc b : Int),.int .i64 w'],[.cells [.any (.map none)],.cells [.sl 3 (s3 b (lIt b i).1).1 b.length,.int .i64 (s3 b (lIt b i).1).2],.cells [tbV (mset M [(v3 b (lIt b i).1).1] [dn .i64 (v3 b (lIt b i).1).2.1,dn .i64 (v3 b (lIt b i).1).2.2])],.row 5 1 (ints .u8 b)]) : List V × KB) = (ldLI b).st ⟨(i + 1,_),hL⟩:=by
          rintro _ _ rfl rfl; rfl
        exact Nx.mk' ⟨(i + 1,_),hL⟩ (key _ _ hlast e1) (by show lc b - (i + 1) < lc b - i; omega)
    · have hi : i = lc b:=by
        have : ¬ (i : Int) < (lc b : Int):=of_decide_eq_false hc
        omega
      subst hi
      exact ⟨b,rfl,rfl,fun h1 => badE (bne_t h1),fun h1 => hyes _ M ht (fin_back hb (bne_f h1))⟩)
end Go.Proofs.Ytfcjngcnifdmnaa
namespace Go.Proofs.Ytfcjngcnifdmnaa
open Vc Go
set_option linter.unusedVariables false
set_option linter.unusedSimpArgs false
set_option maxRecDepth 100000
noncomputable def XB : CallT:=callS Try.prog codeS noT 10
def kInv (k : Nat) : Prop:=k ≤ 8
abbrev alLI (a0 a1 a2 a3 a4 a5 a7 a8 a9 a10 a11 a12 a13 a14 a15 a16 a17 a18 a19 a20 a21 : Value) (C : List D) (o : Nat→List (List D)) : LI where
  α:={k : Nat // kInv k}
  live:=[0,3,9,10]
  nils:=[.slot 1 5 1]
  st k:=([.ptr 0 6,.sl 1 0 (16 * k.1),.agg [.arr 128 C],.int .i64 (k.1 : Int)],[.cells [.any a0,.any a1,.any a2,.any a3,.any a4,.any a5,.arr 128 C,.any a7,.any a8,.any a9,.any a10,.any a11,.any a12,.any a13,.any a14,.any a15,.any a16,.any a17,.any a18,.any a19,.any a20,.any a21],.row 5 1 (o k.1)])
  μ k:=8 - k.1
def alT (a0 a1 a2 a3 a4 a5 a7 a8 a9 a10 a11 a12 a13 a14 a15 a16 a17 a18 a19 a20 a21 : Value) (C : List D) (o : Nat→List (List D)) : FuncId→Nat→Option LI
  | 64,3 => some (alLI a0 a1 a2 a3 a4 a5 a7 a8 a9 a10 a11 a12 a13 a14 a15 a16 a17 a18 a19 a20 a21 C o)
  | _,_ => none
abbrev bldLI (m : List Int) (o : Nat→List D) (z : List D) : LI where
  α:={k : Nat // kInv k}
  live:=[2,4,6,21]
  st k:=([.ptr 0 0,.sl 1 0 m.length,.ptr 2 0,.int .i64 (k.1 : Int)],[.cells [.arr 128 z],.row 5 1 (ints .u8 m),.cells [.arr 128 (o k.1)]])
  μ k:=8 - k.1
def bldT (m : List Int) (o : Nat→List D) (z : List D) : FuncId→Nat→Option LI
  | 45,6 => some (bldLI m o z)
  | _,_ => none
theorem vcBWrite (a0 a1 a2 a3 a4 a5 a7 a8 a9 a10 a11 a12 a13 a14 a15 a16 a17 a18 a19 a20 a21 : Value) (c : List D) (A : List (List D)) (i : Int) (K : V→KB→Prop) (hvc_ :
 let z1_ : KB:=[KO.cells [V.any a0,V.any a1,V.any a2,V.any a3,V.any a4,V.any a5,V.arr 128 c,V.any a7,V.any a8,V.any a9,V.any a10,V.any a11,V.any a12,V.any a13,V.any a14,V.any a15,V.any a16,V.any a17,V.any a18,V.any a19,V.any a20,V.any a21]]; (decide (i ≥ 0) = true →
 ((!decide (i < 8)) = true →
 K (V.int IntKind.i64 1) z1_) ∧
 ((!decide (i < 8)) = false →
 (((↑A.length : Int) != 16) = true →
 K (V.int IntKind.i64 1) z1_) ∧
 (((↑A.length : Int) != 16) = false →
 16 ≤ A.length ∧
 16 ≤ A.flatten.length ∧
 InB i 8 ∧
 i.toNat * 16 + 16 ≤ 128 ∧
 K (V.int IntKind.i64 0) [KO.cells [V.any a0,V.any a1,V.any a2,V.any a3,V.any a4,V.any a5,V.arr 128 (((List.take (i.toNat * 16) c ++ appD (List.take 16 (List.drop 0 A.flatten)) []) ++ (List.drop (i.toNat * 16 + (appD (List.take 16 (List.drop 0 A.flatten)) []).length) c))),V.any a7,V.any a8,V.any a9,V.any a10,V.any a11,V.any a12,V.any a13,V.any a14,V.any a15,V.any a16,V.any a17,V.any a18,V.any a19,V.any a20,V.any a21]]))) ∧
 (decide (i ≥ 0) = false →
 K (V.int IntKind.i64 1) z1_)
 ) : runSpec Try.prog XB (noT 60) 60 [.ptr 0 6,.int .i64 i,.dat (.sl 1 A)] [.cells [.any a0,.any a1,.any a2,.any a3,.any a4,.any a5,.arr 128 c,.any a7,.any a8,.any a9,.any a10,.any a11,.any a12,.any a13,.any a14,.any a15,.any a16,.any a17,.any a18,.any a19,.any a20,.any a21]] K:=by apply Eq.mp (a:=hvc_); kernel_rfl
theorem vcBRead (a0 a1 a2 a3 a4 a5 a7 a8 a9 a10 a11 a12 a13 a14 a15 a16 a17 a18 a19 a20 a21 : Value) (c : List D) (i : Int) (K : V→KB→Prop) (hvc_ :
 let z1_:=KO.cells [V.any a0,V.any a1,V.any a2,V.any a3,V.any a4,V.any a5,V.arr 128 c,V.any a7,V.any a8,V.any a9,V.any a10,V.any a11,V.any a12,V.any a13,V.any a14,V.any a15,V.any a16,V.any a17,V.any a18,V.any a19,V.any a20,V.any a21]; let z2_:=(V.tup [V.any (Value.slice none 0 0),V.int IntKind.i64 1]); (decide (i ≥ 0) = true →
 ((!decide (i < 8)) = true →
 K z2_ [z1_]) ∧
 ((!decide (i < 8)) = false →
 InB i 8 ∧
 True ∧
 True ∧
 0 ≤ 16 ∧
 16 ≤ 16 ∧
 (i.toNat * 16 + 0 + 16 ≤ 128 ∧
 True) ∧
 (ones (List.take 16 (List.drop (i.toNat * 16 + 0) c))).length ≤ 140737488355328 ∧
 (ones (List.take 16 (List.drop (i.toNat * 16 + 0) c)) = [] →
 True ∧
 K (V.tup [V.any (Value.slice none 0 0),V.int IntKind.i64 0]) [z1_]) ∧
 PlainS (ones (List.take 16 (List.drop (i.toNat * 16 + 0) c))).flatten ∧
 K (V.tup [V.sl 1 0 (ones (List.take 16 (List.drop (i.toNat * 16 + 0) c))).length,V.int IntKind.i64 0]) [z1_,KO.row 5 1 (ones (List.take 16 (List.drop (i.toNat * 16 + 0) c)))])) ∧
 (decide (i ≥ 0) = false →
 K z2_ [z1_])
 ) : runSpec Try.prog XB (noT 62) 62 [.ptr 0 6,.int .i64 i] [.cells [.any a0,.any a1,.any a2,.any a3,.any a4,.any a5,.arr 128 c,.any a7,.any a8,.any a9,.any a10,.any a11,.any a12,.any a13,.any a14,.any a15,.any a16,.any a17,.any a18,.any a19,.any a20,.any a21]] K:=by apply Eq.mp (a:=hvc_); kernel_rfl
theorem vcTrim (a0 a1 a2 a3 a4 a5 a7 a8 a9 a10 a11 a12 a13 a14 a15 a16 a17 a18 a19 a20 a21 : Value) (c : List D) (i : Int) (K : V→KB→Prop) (hvc_ :
 let z1_ : KB:=[KO.cells [V.any a0,V.any a1,V.any a2,V.any a3,V.any a4,V.any a5,V.arr 128 c,V.any a7,V.any a8,V.any a9,V.any a10,V.any a11,V.any a12,V.any a13,V.any a14,V.any a15,V.any a16,V.any a17,V.any a18,V.any a19,V.any a20,V.any a21]]; (decide (i ≥ 0) = true →
 ((!decide (i < 8)) = true →
 K (V.int IntKind.i64 1) z1_) ∧
 ((!decide (i < 8)) = false →
 InB i 8 ∧
 i.toNat * 16 + 16 ≤ 128 ∧
 K (V.int IntKind.i64 0) [KO.cells [V.any a0,V.any a1,V.any a2,V.any a3,V.any a4,V.any a5,V.arr 128 (((List.take (i.toNat * 16) c ++ (List.replicate 16 (D.val (Value.int IntKind.u8 0)))) ++ (List.drop (i.toNat * 16 + 16) c))),V.any a7,V.any a8,V.any a9,V.any a10,V.any a11,V.any a12,V.any a13,V.any a14,V.any a15,V.any a16,V.any a17,V.any a18,V.any a19,V.any a20,V.any a21]])) ∧
 (decide (i ≥ 0) = false →
 K (V.int IntKind.i64 1) z1_)
 ) : runSpec Try.prog XB (noT 61) 61 [.ptr 0 6,.int .i64 i] [.cells [.any a0,.any a1,.any a2,.any a3,.any a4,.any a5,.arr 128 c,.any a7,.any a8,.any a9,.any a10,.any a11,.any a12,.any a13,.any a14,.any a15,.any a16,.any a17,.any a18,.any a19,.any a20,.any a21]] K:=by apply Eq.mp (a:=hvc_); kernel_rfl
theorem vcAll (a0 a1 a2 a3 a4 a5 a7 a8 a9 a10 a11 a12 a13 a14 a15 a16 a17 a18 a19 a20 a21 : Value) (c : List D) (o : Nat→List (List D)) (K : V→KB→Prop) (hvc_ :
 let z1_:=KO.cells [V.any a0,V.any a1,V.any a2,V.any a3,V.any a4,V.any a5,V.arr 128 c,V.any a7,V.any a8,V.any a9,V.any a10,V.any a11,V.any a12,V.any a13,V.any a14,V.any a15,V.any a16,V.any a17,V.any a18,V.any a19,V.any a20,V.any a21]; At (alLI a0 a1 a2 a3 a4 a5 a7 a8 a9 a10 a11 a12 a13 a14 a15 a16 a17 a18 a19 a20 a21 c o) ([V.ptr 0 6,V.sl 1 0 0,V.agg [V.arr 128 c],V.int IntKind.i64 0],[z1_,KO.row 5 1 []]) ∧
 ∀ (y2 : { y1 : Nat // kInv y1}),(decide ((↑y2.val : Int) < 8) = true →
 InB (↑y2.val : Int) 8 ∧
 (↑y2.val : Int).toNat * 16 + 16 ≤ c.length ∧
 True ∧
 True ∧
 0 ≤ 16 ∧
 16 ≤ 16 ∧
 16 ≤ 16 ∧
 16 * y2.val ≤ (o y2.val).length ∧
 (16 * y2.val + (ones (List.take 16 (List.drop 0 (List.take 16 (List.drop ((↑y2.val : Int).toNat * 16) c))))).length) * 1 ≤ 140737488355328 ∧
 Nx (alLI a0 a1 a2 a3 a4 a5 a7 a8 a9 a10 a11 a12 a13 a14 a15 a16 a17 a18 a19 a20 a21 c o) y2 ([V.ptr 0 6,V.sl 1 0 (16 * y2.val + (ones (List.take 16 (List.drop 0 (List.take 16 (List.drop ((↑y2.val : Int).toNat * 16) c))))).length),V.agg [V.arr 128 c],V.int IntKind.i64 (IntKind.i64.wrap ((↑y2.val : Int) + 1))],[z1_,KO.row 5 1 (List.take (16 * y2.val) (o y2.val) ++ ones (List.take 16 (List.drop 0 (List.take 16 (List.drop ((↑y2.val : Int).toNat * 16) c)))))])) ∧
 (decide ((↑y2.val : Int) < 8) = false →
 K (V.sl 1 0 (16 * y2.val)) [z1_,KO.row 5 1 (o y2.val)])
 ) : runSpec Try.prog XB (alT a0 a1 a2 a3 a4 a5 a7 a8 a9 a10 a11 a12 a13 a14 a15 a16 a17 a18 a19 a20 a21 c o 64) 64 [.ptr 0 6] [.cells [.any a0,.any a1,.any a2,.any a3,.any a4,.any a5,.arr 128 c,.any a7,.any a8,.any a9,.any a10,.any a11,.any a12,.any a13,.any a14,.any a15,.any a16,.any a17,.any a18,.any a19,.any a20,.any a21]] K:=by apply Eq.mp (a:=hvc_); kernel_rfl
theorem vcBLoad (l m : List Int) (o : Nat→List D) (z : List D) (K : V→KB→Prop) (hvc_ :
 let z1_:=[V.arr 128 (List.replicate 128 (D.val (Value.int IntKind.u8 0)))]; let z2_:=[V.ptr 0 0,V.any (Value.slice none 0 0),V.ptr 1 0,V.int IntKind.i64 0]; ∃ (y1 : List Int),ints IntKind.u8 l = ints IntKind.u8 y1 ∧
 (∀ (y2 : Int),List.Mem y2 y1 →
 0 ≤ y2 ∧
 y2 < 256) ∧
 y1.length ≤ 900000 ∧
 (openI y1 = none →
 (true = true →
 K (V.tup [V.agg z1_,V.sb false]) []) ∧
 (true = false →
 (true = true →
 K (V.tup [V.agg z1_,V.sb false]) []) ∧
 (true = false →
 At (bldLI m o z) (z2_,[KO.cells z1_,KO.cells z1_]) ∧
 ∀ (y4 : { y3 : Nat // kInv y3}),(decide ((↑y4.val : Int) < 8) = true →
 NonN (IntKind.i64.wrap ((↑y4.val : Int) * 16)) ∧
 True ∧
 (IntKind.i64.wrap ((↑y4.val : Int) * 16)).toNat ≤ m.length - 0 ∧
 m.length - 0 ≤ m.length - 0 ∧
 16 ≤ 0 + (m.length - 0) - (0 + (IntKind.i64.wrap ((↑y4.val : Int) * 16)).toNat) ∧
 16 ≤ (List.drop (0 + (IntKind.i64.wrap ((↑y4.val : Int) * 16)).toNat) (ints IntKind.u8 m)).flatten.length ∧
 InB (↑y4.val : Int) 8 ∧
 (↑y4.val : Int).toNat * 16 + 16 ≤ 128 ∧
 Nx (bldLI m o z) y4 ([V.ptr 0 0,V.sl 1 0 m.length,V.ptr 2 0,V.int IntKind.i64 (IntKind.i64.wrap ((↑y4.val : Int) + 1))],[KO.cells [V.arr 128 z],KO.row 5 1 (ints IntKind.u8 m),KO.cells [V.arr 128 (splice (o y4.val) ((↑y4.val : Int).toNat * 16) (appD (List.take 16 (List.drop 0 (List.drop (0 + (IntKind.i64.wrap ((↑y4.val : Int) * 16)).toNat) (ints IntKind.u8 m)).flatten)) []))]])) ∧
 (decide ((↑y4.val : Int) < 8) = false →
 K (V.tup [V.agg [V.arr 128 (o y4.val)],V.sb true]) [])))) ∧
 ∀ (y5 : List Int),openI y1 = some y5 →
 (y5 = [] →
 (false = true →
 K (V.tup [V.agg z1_,V.sb false]) []) ∧
 (false = false →
 (true = true →
 K (V.tup [V.agg z1_,V.sb false]) []) ∧
 (true = false →
 At (bldLI m o z) (z2_,[KO.cells z1_,KO.cells z1_]) ∧
 ∀ (y7 : { y6 : Nat // kInv y6}),(decide ((↑y7.val : Int) < 8) = true →
 NonN (IntKind.i64.wrap ((↑y7.val : Int) * 16)) ∧
 True ∧
 (IntKind.i64.wrap ((↑y7.val : Int) * 16)).toNat ≤ m.length - 0 ∧
 m.length - 0 ≤ m.length - 0 ∧
 16 ≤ 0 + (m.length - 0) - (0 + (IntKind.i64.wrap ((↑y7.val : Int) * 16)).toNat) ∧
 16 ≤ (List.drop (0 + (IntKind.i64.wrap ((↑y7.val : Int) * 16)).toNat) (ints IntKind.u8 m)).flatten.length ∧
 InB (↑y7.val : Int) 8 ∧
 (↑y7.val : Int).toNat * 16 + 16 ≤ 128 ∧
 Nx (bldLI m o z) y7 ([V.ptr 0 0,V.sl 1 0 m.length,V.ptr 2 0,V.int IntKind.i64 (IntKind.i64.wrap ((↑y7.val : Int) + 1))],[KO.cells [V.arr 128 z],KO.row 5 1 (ints IntKind.u8 m),KO.cells [V.arr 128 (splice (o y7.val) ((↑y7.val : Int).toNat * 16) (appD (List.take 16 (List.drop 0 (List.drop (0 + (IntKind.i64.wrap ((↑y7.val : Int) * 16)).toNat) (ints IntKind.u8 m)).flatten)) []))]])) ∧
 (decide ((↑y7.val : Int) < 8) = false →
 K (V.tup [V.agg [V.arr 128 (o y7.val)],V.sb true]) [])))) ∧
 (false = true →
 K (V.tup [V.agg z1_,V.sb false]) []) ∧
 (false = false →
 (((↑(y5.length - 0) : Int) != 128) = true →
 K (V.tup [V.agg z1_,V.sb false]) []) ∧
 (((↑(y5.length - 0) : Int) != 128) = false →
 At (bldLI m o z) ([V.ptr 0 0,V.sl 1 0 y5.length,V.ptr 2 0,V.int IntKind.i64 0],[KO.cells z1_,KO.row 5 1 (ints IntKind.u8 y5),KO.cells z1_]) ∧
 ∀ (y9 : { y8 : Nat // kInv y8}),(decide ((↑y9.val : Int) < 8) = true →
 NonN (IntKind.i64.wrap ((↑y9.val : Int) * 16)) ∧
 True ∧
 (IntKind.i64.wrap ((↑y9.val : Int) * 16)).toNat ≤ m.length - 0 ∧
 m.length - 0 ≤ m.length - 0 ∧
 16 ≤ 0 + (m.length - 0) - (0 + (IntKind.i64.wrap ((↑y9.val : Int) * 16)).toNat) ∧
 16 ≤ (List.drop (0 + (IntKind.i64.wrap ((↑y9.val : Int) * 16)).toNat) (ints IntKind.u8 m)).flatten.length ∧
 InB (↑y9.val : Int) 8 ∧
 (↑y9.val : Int).toNat * 16 + 16 ≤ 128 ∧
 Nx (bldLI m o z) y9 ([V.ptr 0 0,V.sl 1 0 m.length,V.ptr 2 0,V.int IntKind.i64 (IntKind.i64.wrap ((↑y9.val : Int) + 1))],[KO.cells [V.arr 128 z],KO.row 5 1 (ints IntKind.u8 m),KO.cells [V.arr 128 (splice (o y9.val) ((↑y9.val : Int).toNat * 16) (appD (List.take 16 (List.drop 0 (List.drop (0 + (IntKind.i64.wrap ((↑y9.val : Int) * 16)).toNat) (ints IntKind.u8 m)).flatten)) []))]])) ∧
 (decide ((↑y9.val : Int) < 8) = false →
 K (V.tup [V.agg [V.arr 128 (o y9.val)],V.sb true]) [])))
 ) : runSpec Try.prog XB (bldT m o z 45) 45 [.dat (.sl 1 (ints .u8 l))] [] K:=by apply Eq.mp (a:=hvc_); kernel_rfl
theorem XB_ok : CallOk Try.prog XB:=callS_ok mixed codeS_ok noT 10
structure okI (i : Int) : Prop where
  lo : 0 ≤ i
  hi : i < 8
def Swrite : FSpec:=fun args kb K => match args,kb with
  | [.ptr 0 6,.int .i64 i,.dat (.sl 1 A)],[.cells [.any a0,.any a1,.any a2,.any a3,.any a4,.any a5,.arr 128 C,.any a7,.any a8,.any a9,.any a10,.any a11,.any a12,.any a13,.any a14,.any a15,.any a16,.any a17,.any a18,.any a19,.any a20,.any a21]] => ∃ c b : List Int,C = dns .u8 c∧A = ints .u8 b∧c.length = 128∧(okI i∧b.length = 16→K (.int .i64 0) [.cells [.any a0,.any a1,.any a2,.any a3,.any a4,.any a5,.arr 128 (dns .u8 (splice c (i.toNat * 16) b)),.any a7,.any a8,.any a9,.any a10,.any a11,.any a12,.any a13,.any a14,.any a15,.any a16,.any a17,.any a18,.any a19,.any a20,.any a21]])∧(¬ (okI i∧b.length = 16)→K (.int .i64 1) [.cells [.any a0,.any a1,.any a2,.any a3,.any a4,.any a5,.arr 128 (dns .u8 c),.any a7,.any a8,.any a9,.any a10,.any a11,.any a12,.any a13,.any a14,.any a15,.any a16,.any a17,.any a18,.any a19,.any a20,.any a21]])
  | _,_ => False
def Strim : FSpec:=fun args kb K => match args,kb with
  | [.ptr 0 6,.int .i64 i],[.cells [.any a0,.any a1,.any a2,.any a3,.any a4,.any a5,.arr 128 C,.any a7,.any a8,.any a9,.any a10,.any a11,.any a12,.any a13,.any a14,.any a15,.any a16,.any a17,.any a18,.any a19,.any a20,.any a21]] => ∃ c : List Int,C = dns .u8 c∧c.length = 128∧(okI i→K (.int .i64 0) [.cells [.any a0,.any a1,.any a2,.any a3,.any a4,.any a5,.arr 128 (dns .u8 (splice c (i.toNat * 16) (List.replicate 16 0))),.any a7,.any a8,.any a9,.any a10,.any a11,.any a12,.any a13,.any a14,.any a15,.any a16,.any a17,.any a18,.any a19,.any a20,.any a21]])∧(¬ okI i→K (.int .i64 1) [.cells [.any a0,.any a1,.any a2,.any a3,.any a4,.any a5,.arr 128 (dns .u8 c),.any a7,.any a8,.any a9,.any a10,.any a11,.any a12,.any a13,.any a14,.any a15,.any a16,.any a17,.any a18,.any a19,.any a20,.any a21]])
  | _,_ => False
def SbRead : FSpec:=fun args kb K => match args,kb with
  | [.ptr 0 6,.int .i64 i],[.cells [.any a0,.any a1,.any a2,.any a3,.any a4,.any a5,.arr 128 C,.any a7,.any a8,.any a9,.any a10,.any a11,.any a12,.any a13,.any a14,.any a15,.any a16,.any a17,.any a18,.any a19,.any a20,.any a21]] => ∃ c : List Int,C = dns .u8 c∧c.length = 128∧(okI i→K (.tup [.sl 1 0 16,.int .i64 0]) [.cells [.any a0,.any a1,.any a2,.any a3,.any a4,.any a5,.arr 128 (dns .u8 c),.any a7,.any a8,.any a9,.any a10,.any a11,.any a12,.any a13,.any a14,.any a15,.any a16,.any a17,.any a18,.any a19,.any a20,.any a21],.row 5 1 (ints .u8 ((c.drop (i.toNat * 16)).take 16))])∧(¬ okI i→K (.tup [.any (.slice none 0 0),.int .i64 1]) [.cells [.any a0,.any a1,.any a2,.any a3,.any a4,.any a5,.arr 128 (dns .u8 c),.any a7,.any a8,.any a9,.any a10,.any a11,.any a12,.any a13,.any a14,.any a15,.any a16,.any a17,.any a18,.any a19,.any a20,.any a21]])
  | _,_ => False
def Sall : FSpec:=fun args kb K => match args,kb with
  | [.ptr 0 6],[.cells [.any a0,.any a1,.any a2,.any a3,.any a4,.any a5,.arr 128 C,.any a7,.any a8,.any a9,.any a10,.any a11,.any a12,.any a13,.any a14,.any a15,.any a16,.any a17,.any a18,.any a19,.any a20,.any a21]] => ∃ c : List Int,C = dns .u8 c∧c.length = 128∧K (.sl 1 0 128) [.cells [.any a0,.any a1,.any a2,.any a3,.any a4,.any a5,.arr 128 (dns .u8 c),.any a7,.any a8,.any a9,.any a10,.any a11,.any a12,.any a13,.any a14,.any a15,.any a16,.any a17,.any a18,.any a19,.any a20,.any a21],.row 5 1 (ints .u8 c)]
  | _,_ => False
theorem okWrite : SpecOk Try.prog 60 Swrite:=specOk_of' XB_ok mixed (fun args kb K h => by
  unfold Swrite at h; split at h <;> try exact h.elim
  rename_i i A a0 a1 a2 a3 a4 a5 C a7 a8 a9 a10 a11 a12 a13 a14 a15 a16 a17 a18 a19 a20 a21
  obtain ⟨c,b,rfl,rfl,hl,h1,h2⟩:=h
  refine ⟨noT 60,vcBWrite _ _ _ _ _ _ _ _ _ _ _ _ _ _ _ _ _ _ _ _ _ _ _ i K ⟨fun hi => ⟨fun h8 => h2 ?_,fun h8 => ⟨fun hb => h2 ?_,fun hb => ?_⟩⟩,fun hi => h2 ?_⟩⟩
  · rintro ⟨⟨a1,a2⟩,_⟩; simp at h8; omega
  · rintro ⟨_,hb2⟩; simp [ints_len] at hb; omega
  · simp only [ints_len,bne_eq_false_iff_eq] at hb
    have hb : b.length = 16:=by omega
    have hi : 0 ≤ i:=by simpa using hi
    have h8 : i < 8:=by simpa using h8
    have k:=h1 ⟨⟨hi,h8⟩,hb⟩
    refine ⟨by rw [ints_len]; omega,by rw [ints_flat]; simp [dns]; omega,by unfold InB; omega,by omega,?_⟩
    have e : splice (dns .u8 c) (i.toNat * 16) (appD (List.take 16 (List.drop 0 (ints .u8 b).flatten)) []) = dns .u8 (splice c (i.toNat * 16) b):=by
      rw [List.drop_zero,ints_flat,List.take_of_length_le (by simp [dns]; omega)]
      have : appD (dns .u8 b) [] = dns .u8 b:=by simp [appD]
      rw [this]
      simp [splice,dns]
    rw [← e] at k
    exact k
  · rintro ⟨⟨a1,a2⟩,_⟩; simp at hi; omega)
theorem okTrim : SpecOk Try.prog 61 Strim:=specOk_of' XB_ok mixed (fun args kb K h => by
  unfold Strim at h; split at h <;> try exact h.elim
  rename_i i a0 a1 a2 a3 a4 a5 C a7 a8 a9 a10 a11 a12 a13 a14 a15 a16 a17 a18 a19 a20 a21
  obtain ⟨c,rfl,hl,h1,h2⟩:=h
  refine ⟨noT 61,vcTrim _ _ _ _ _ _ _ _ _ _ _ _ _ _ _ _ _ _ _ _ _ _ i K ⟨fun hi => ⟨fun h8 => h2 ?_,fun h8 => ?_⟩,fun hi => h2 ?_⟩⟩
  · rintro ⟨a1,a2⟩; simp at h8; omega
  · have hi : 0 ≤ i:=by simpa using hi
    have h8 : i < 8:=by simpa using h8
    have k:=h1 ⟨hi,h8⟩
    refine ⟨by unfold InB; omega,by omega,?_⟩
    have e : splice (dns .u8 c) (i.toNat * 16) (List.replicate 16 (D.val (.int .u8 0))) = dns .u8 (splice c (i.toNat * 16) (List.replicate 16 0)):=by
      simp [splice,dns]
    rw [← e] at k
    exact k
  · rintro ⟨a1,a2⟩; simp at hi; omega)
theorem ones_part {c : List Int} {o n : Nat} : ones (List.take n (List.drop o (dns .u8 c))) = ints .u8 ((c.drop o).take n):=by
  simp only [ones,dns,ints,List.map_take,List.map_drop,List.map_map]; rfl
theorem okBRead : SpecOk Try.prog 62 SbRead:=specOk_of' XB_ok mixed (fun args kb K h => by
  unfold SbRead at h; split at h <;> try exact h.elim
  rename_i i a0 a1 a2 a3 a4 a5 C a7 a8 a9 a10 a11 a12 a13 a14 a15 a16 a17 a18 a19 a20 a21
  obtain ⟨c,rfl,hl,h1,h2⟩:=h
  refine ⟨noT 62,vcBRead _ _ _ _ _ _ _ _ _ _ _ _ _ _ _ _ _ _ _ _ _ _ i K ⟨fun hi => ⟨fun h8 => h2 ?_,fun h8 => ?_⟩,fun hi => h2 ?_⟩⟩
  · rintro ⟨a1,a2⟩; simp at h8; omega
  · have hi : 0 ≤ i:=by simpa using hi
    have h8 : i < 8:=by simpa using h8
    have k:=h1 ⟨hi,h8⟩
    have hlen : ((c.drop (i.toNat * 16)).take 16).length = 16:=by simp; omega
    simp only [Nat.add_zero,ones_part,ints_len,hlen]
    refine ⟨by unfold InB; omega,trivial,trivial,by omega,by omega,⟨by omega,trivial⟩,by omega,fun e => ?_,⟨plain_ints⟩,k⟩
    have:=congrArg List.length e
    rw [ints_len,hlen] at this
    cases this
  · rintro ⟨a1,a2⟩; simp at hi; omega)
theorem okAll : SpecOk Try.prog 64 Sall:=specOk_of' XB_ok mixed (fun args kb K h => by
  unfold Sall at h; split at h <;> try exact h.elim
  obtain ⟨c,rfl,hl,h⟩:=h
  refine ⟨alT _ _ _ _ _ _ _ _ _ _ _ _ _ _ _ _ _ _ _ _ _ (dns .u8 c) (fun k => ints .u8 (c.take (16 * k))) 64,vcAll _ _ _ _ _ _ _ _ _ _ _ _ _ _ _ _ _ _ _ _ _ _ (fun k => ints .u8 (c.take (16 * k))) K ⟨At.mk' ⟨0,Nat.zero_le _⟩ rfl,?_⟩⟩
  rintro ⟨k,hk⟩
  simp only [kInv] at hk ⊢
  have e2 : ((k : Nat) : Int).toNat = k:=by omega
  refine ⟨fun hc => ?_,fun hc => ?_⟩
  · simp only [decide_eq_true_eq] at hc
    have w2:=w64 (n:=(k : Int) + 1) (by omega) (by omega)
    have e3 : ones (List.take 16 (List.drop 0 (List.take 16 (List.drop (k * 16) (dns .u8 c))))) = ints .u8 ((c.drop (16 * k)).take 16):=by
      rw [List.drop_zero,List.take_take,Nat.min_self,ones_part,Nat.mul_comm]
    have hlen : ((c.drop (16 * k)).take 16).length = 16:=by simp; omega
    rw [e2,e3,w2,ints_len,ints_len,hlen]
    have e4 : List.take (16 * k) (ints .u8 (c.take (16 * k))) ++ ints .u8 ((c.drop (16 * k)).take 16) = ints .u8 (c.take (16 * (k + 1))):=by
      rw [List.take_of_length_le (by rw [ints_len,List.length_take]; omega),← ints_app,Nat.mul_succ,List.take_add]
    refine ⟨by unfold InB; omega,by simp [dns]; omega,trivial,trivial,by omega,by omega,by omega,by rw [List.length_take]; omega,by omega,?_⟩
    rw [e4]
    exact Nx.mk' (⟨k + 1,by show k + 1 ≤ 8; omega⟩ : {k : Nat // kInv k}) rfl (by show 8 - (k + 1) < 8 - k; omega)
  · simp only [decide_eq_false_iff_not] at hc
    have : k = 8:=by omega
    subst this
    rw [List.take_of_length_le (by omega)]
    exact h)
abbrev z128 : List Int:=List.replicate 128 0
def SbLoad : FSpec:=fun args kb K => match args,kb with
  | [.dat (.sl 1 A)],[] => ∃ l : List Int,A = ints .u8 l∧Byt l∧l.length ≤ 900000∧(∀ m,openI l = some m→m.length = 128→K (.tup [.agg [.arr 128 (dns .u8 m)],.sb true]) [])∧((∀ m,openI l = some m→¬ m.length = 128)→K (.tup [.agg [.arr 128 (dns .u8 z128)],.sb false]) [])
  | _,_ => False
def bldO (m : List Int) (k : Nat) : List D:=dns .u8 (m.take (16 * k) ++ List.replicate (128 - 16 * k) 0)
theorem bldO_step {m : List Int} (hm : m.length = 128) {k : Nat} (hk : k < 8) : splice (bldO m k) (k * 16) (appD (List.take 16 (List.drop 0 (List.drop (k * 16) (ints .u8 m)).flatten)) []) = bldO m (k + 1):=by
  have e1 : appD (List.take 16 (List.drop 0 (List.drop (k * 16) (ints .u8 m)).flatten)) [] = dns .u8 ((m.drop (k * 16)).take 16):=by
    rw [ints_drop,ints_flat,List.drop_zero]
    simp [appD,dns]
  rw [e1]
  have e2 : splice (bldO m k) (k * 16) (dns .u8 ((m.drop (k * 16)).take 16)) = dns .u8 (splice (m.take (16 * k) ++ List.replicate (128 - 16 * k) 0) (k * 16) ((m.drop (k * 16)).take 16)):=by
    simp [splice,dns,bldO]
  rw [e2]
  unfold bldO
  congr 1
  unfold splice
  have l1 : (m.take (16 * k)).length = 16 * k:=by rw [List.length_take]; omega
  have l2 : ((m.drop (k * 16)).take 16).length = 16:=by simp; omega
  have a1 : List.take (k * 16) (m.take (16 * k) ++ List.replicate (128 - 16 * k) (0 : Int)) = m.take (16 * k):=by
    rw [List.take_append_of_le_length (by omega)]; exact List.take_of_length_le (by omega)
  have a2 : List.drop (k * 16 + 16) (m.take (16 * k) ++ List.replicate (128 - 16 * k) (0 : Int)) = List.replicate (128 - 16 * (k + 1)) 0:=by
    rw [List.drop_append,List.drop_of_length_le (by omega),List.nil_append,List.drop_replicate,l1]; congr 1; omega
  rw [l2,a1,a2,show 16 * (k + 1) = 16 * k + 16 by omega,List.take_add,show k * 16 = 16 * k by omega]
theorem okBLoad : SpecOk Try.prog 45 SbLoad:=specOk_of' XB_ok mixed (fun args kb K h => by
  unfold SbLoad at h; split at h <;> try exact h.elim
  obtain ⟨l,rfl,hb,hl,h1,h2⟩:=h
  cases ho : openI l with
  | none =>
    refine ⟨bldT [] (bldO []) [] 45,vcBLoad l [] (bldO []) [] K ⟨l,rfl,hb,hl,fun _ => ⟨fun _ => h2 (fun m hm => by rw [ho] at hm; cases hm),fun h => by cases h⟩,fun m hm => by rw [ho] at hm; cases hm⟩⟩
  | some m =>
    have hml:=openI_some ho
    refine ⟨bldT m (bldO m) (List.replicate 128 (D.val (.int .u8 0))) 45,vcBLoad l m (bldO m) (List.replicate 128 (D.val (.int .u8 0))) K ⟨l,rfl,hb,hl,fun h0 => (by rw [ho] at h0; cases h0),fun m' hm => ?_⟩⟩
    rw [ho] at hm; cases hm
    refine ⟨fun e => ⟨fun h => (by cases h),fun _ => ⟨fun _ => h2 (fun m' hm' => ?_),fun h => ?_⟩⟩,fun h => (by cases h),fun _ => ⟨fun hn => h2 (fun m' hm' => ?_),fun hn => ?_⟩⟩
    · rw [ho] at hm'; cases hm'
      rw [e]; simp
    · cases h
    · rw [ho] at hm'; cases hm'
      simp only [Nat.sub_zero,bne_iff_ne,ne_eq] at hn; omega
    · have hm8 : m.length = 128:=by simp only [Nat.sub_zero,bne_eq_false_iff_eq] at hn; omega
      refine ⟨At.mk' ⟨0,Nat.zero_le _⟩ rfl,?_⟩
      rintro ⟨k,hk⟩
      simp only [kInv] at hk ⊢
      refine ⟨fun hc => ?_,fun hc => ?_⟩
      · simp only [decide_eq_true_eq] at hc
        have w1:=w64 (n:=(k : Int) * 16) (by omega) (by omega)
        have w2:=w64 (n:=(k : Int) + 1) (by omega) (by omega)
        have e2 : ((k : Nat) : Int).toNat = k:=by omega
        have e3 : ((k : Int) * 16).toNat = k * 16:=by omega
        rw [w1,w2,e2,e3]
        simp only [Nat.zero_add,Nat.sub_zero]
        rw [bldO_step hm8 (by omega)]
        refine ⟨by unfold NonN; omega,trivial,by omega,by omega,by omega,?_,by unfold InB; omega,by omega,?_⟩
        · rw [ints_drop,ints_flat]; simp [dns]; omega
        · exact Nx.mk' (⟨k + 1,by show k + 1 ≤ 8; omega⟩ : {k : Nat // kInv k}) rfl (by show 8 - (k + 1) < 8 - k; omega)
      · simp only [decide_eq_false_iff_not] at hc
        have : k = 8:=by omega
        subst this
        have e : bldO m 8 = dns .u8 m:=by
          unfold bldO
          rw [List.take_of_length_le (by omega)]; simp
        rw [e]
        exact h1 m ho hm8)
end Go.Proofs.Ytfcjngcnifdmnaa
namespace Go.Proofs.Ytfcjngcnifdmnaa
open Vc Go
set_option linter.unusedVariables false
set_option linter.unusedSimpArgs false
set_option maxRecDepth 100000
def blS : FuncId→Option Known
  | 60 => some ⟨[.asis,.asis,.lend 1],Swrite⟩
  | 62 => some ⟨[],SbRead⟩
  | 61 => some ⟨[],Strim⟩
  | 64 => some ⟨[],Sall⟩
  | 45 => some ⟨[.lend 1],SbLoad⟩
  | f => codeS f
noncomputable def XD : CallT:=callS Try.prog blS noT 10
theorem vcBBytes (a0 a1 a2 a3 a4 a5 a7 a8 a9 a10 a11 a12 a13 a14 a15 a16 a17 a18 a19 a20 a21 : Value) (c : List D) (K : V→KB→Prop) (hvc_ :
 ∃ (c_1 : List Int),
 c = dns IntKind.u8 c_1 ∧
 c_1.length = 128 ∧
 (128 ≤ (ints IntKind.u8 c_1).length∧True) ∧
 ∃ (l : List Int),
 List.drop 0 (List.take 128 (ints IntKind.u8 c_1)) = ints IntKind.u8 l ∧
 (∀ (c : Int),List.Mem c l→0 ≤ c∧c < 256) ∧
 l.length ≤ 900000 ∧
 PlainS (ints IntKind.u8 (sealI l)).flatten ∧
 K (V.sl 1 0 (l.length + 4))
 [KO.cells [V.any a0,V.any a1,V.any a2,V.any a3,V.any a4,V.any a5,V.arr 128 (dns IntKind.u8 c_1),V.any a7,V.any a8,V.any a9,V.any a10,V.any a11,V.any a12,V.any a13,V.any a14,V.any a15,V.any a16,V.any a17,V.any a18,V.any a19,V.any a20,V.any a21],KO.row 5 1 (ints IntKind.u8 (sealI l))]
 ) : runSpec Try.prog XD (noT 50) 50 [.ptr 0 6] [.cells [.any a0,.any a1,.any a2,.any a3,.any a4,.any a5,.arr 128 c,.any a7,.any a8,.any a9,.any a10,.any a11,.any a12,.any a13,.any a14,.any a15,.any a16,.any a17,.any a18,.any a19,.any a20,.any a21]] K:=by apply Eq.mp (a:=hvc_); kernel_rfl
theorem vcCSum (a0 a1 a2 a3 a4 a5 a7 a8 a9 a10 a11 a12 a13 a14 a15 a16 a17 a18 a19 a20 a21 : Value) (c : List D) (K : V→KB→Prop) (hvc_ :
 ∃ (c_1 : List Int),
 c = dns IntKind.u8 c_1 ∧
 c_1.length = 128 ∧
 128 ≤ (ints IntKind.u8 c_1).length ∧
 (1 ≤ 1∧True) ∧
 ∃ (ls : List (List Int)),
 [[D.sl 1 (List.drop 0 (List.take 128 (ints IntKind.u8 c_1)))]] = List.map bsl ls ∧
 (ls.length ≤ 1000000∧∀ (l : List Int),List.Mem l ls→(∀ (c : Int),List.Mem c l→0 ≤ c∧c < 256)∧l.length.le 1000000) ∧
 True∧K (V.int IntKind.u32 (crcI ls.flatten)) [KO.cells [V.any a0,V.any a1,V.any a2,V.any a3,V.any a4,V.any a5,V.arr 128 (dns IntKind.u8 c_1),V.any a7,V.any a8,V.any a9,V.any a10,V.any a11,V.any a12,V.any a13,V.any a14,V.any a15,V.any a16,V.any a17,V.any a18,V.any a19,V.any a20,V.any a21]]
 ) : runSpec Try.prog XD (noT 34) 34 [.ptr 0 6] [.cells [.any a0,.any a1,.any a2,.any a3,.any a4,.any a5,.arr 128 c,.any a7,.any a8,.any a9,.any a10,.any a11,.any a12,.any a13,.any a14,.any a15,.any a16,.any a17,.any a18,.any a19,.any a20,.any a21]] K:=by apply Eq.mp (a:=hvc_); kernel_rfl
theorem blS_ok : AllOk Try.prog blS:=fun f k h => by
  unfold blS at h
  split at h
  · cases h; exact okWrite
  · cases h; exact okBRead
  · cases h; exact okTrim
  · cases h; exact okAll
  · cases h; exact okBLoad
  · exact codeS_ok _ _ h
theorem XD_ok : CallOk Try.prog XD:=callS_ok mixed blS_ok noT 10
def Sbytes : FSpec:=fun args kb K => match args,kb with
  | [.ptr 0 6],[.cells [.any a0,.any a1,.any a2,.any a3,.any a4,.any a5,.arr 128 C,.any a7,.any a8,.any a9,.any a10,.any a11,.any a12,.any a13,.any a14,.any a15,.any a16,.any a17,.any a18,.any a19,.any a20,.any a21]] => ∃ c : List Int,C = dns .u8 c∧c.length = 128∧Byt c∧K (.sl 1 0 132) [.cells [.any a0,.any a1,.any a2,.any a3,.any a4,.any a5,.arr 128 (dns .u8 c),.any a7,.any a8,.any a9,.any a10,.any a11,.any a12,.any a13,.any a14,.any a15,.any a16,.any a17,.any a18,.any a19,.any a20,.any a21],.row 5 1 (ints .u8 (sealI c))]
  | _,_ => False
def Scsum : FSpec:=fun args kb K => match args,kb with
  | [.ptr 0 6],[.cells [.any a0,.any a1,.any a2,.any a3,.any a4,.any a5,.arr 128 C,.any a7,.any a8,.any a9,.any a10,.any a11,.any a12,.any a13,.any a14,.any a15,.any a16,.any a17,.any a18,.any a19,.any a20,.any a21]] => ∃ c : List Int,C = dns .u8 c∧c.length = 128∧Byt c∧K (.int .u32 (crcI c)) [.cells [.any a0,.any a1,.any a2,.any a3,.any a4,.any a5,.arr 128 (dns .u8 c),.any a7,.any a8,.any a9,.any a10,.any a11,.any a12,.any a13,.any a14,.any a15,.any a16,.any a17,.any a18,.any a19,.any a20,.any a21]]
  | _,_ => False
theorem t128 {c : List Int} (h : c.length = 128) : List.drop 0 (List.take 128 (ints .u8 c)) = ints .u8 c:=by rw [← h]; rw [List.drop_zero]; exact List.take_of_length_le (by rw [ints_len]; omega)
theorem okBytes : SpecOk Try.prog 50 Sbytes:=specOk_of' XD_ok mixed (fun args kb K h => by
  unfold Sbytes at h; split at h <;> try exact h.elim
  obtain ⟨c,rfl,hl,hb,h⟩:=h
  refine ⟨noT 50,vcBBytes _ _ _ _ _ _ _ _ _ _ _ _ _ _ _ _ _ _ _ _ _ _ K ⟨c,rfl,hl,⟨by rw [ints_len]; omega,trivial⟩,c,t128 hl,hb,by omega,⟨plain_ints⟩,?_⟩⟩
  rw [hl]; exact h)
theorem okCSum : SpecOk Try.prog 34 Scsum:=specOk_of' XD_ok mixed (fun args kb K h => by
  unfold Scsum at h; split at h <;> try exact h.elim
  obtain ⟨c,rfl,hl,hb,h⟩:=h
  refine ⟨noT 34,vcCSum _ _ _ _ _ _ _ _ _ _ _ _ _ _ _ _ _ _ _ _ _ _ K ⟨c,rfl,hl,by rw [ints_len]; omega,⟨by decide,trivial⟩,[c],by rw [t128 hl]; rfl,⟨by simp,fun x hx => ?_⟩,trivial,?_⟩⟩
  · cases hx with
    | head => exact ⟨hb,by show c.length ≤ 1000000; omega⟩
    | tail _ hx => cases hx
  · rw [crcI_one]; exact h)
end Go.Proofs.Ytfcjngcnifdmnaa
set_option linter.unusedSimpArgs false
set_option linter.unusedVariables false
namespace Vc
open Go
def maskL (f : Nat→Value) : List Bool→List V→Nat→Option (List V)
  | true :: ms,v :: l,i => match v,maskL f ms l (i + 1) with
    | .arr _ _,_ => none
    | _,some r => some (.any (f i) :: r)
    | _,none => none
  | false :: ms,v :: l,i => match maskL f ms l (i + 1) with
    | some r => some (v :: r)
    | none => none
  | [],l,_ => some l
  | _ :: _,[],_ => some []
def unmL (f : Nat→Value) : List Bool→List V→List V→Nat→Option (List (Value × Value) × List V)
  | true :: ms,v :: l,w :: l2,i => match w,unmL f ms l l2 (i + 1) with
    | .any y',some (es,r) => some ((y',f i) :: es,v :: r)
    | _,_ => none
  | false :: ms,_ :: l,w :: l2,i => match unmL f ms l l2 (i + 1) with
    | some (es,r) => some (es,w :: r)
    | none => none
  | [],_,l2,_ => some ([],l2)
  | _ :: _,[],[],_ => some ([],[])
  | _,_,_,_ => none
def SameL : List (Value × Value)→Prop
  | [] => True
  | p :: l => p.1 = p.2∧SameL l
structure Same2 (l : List (Value × Value)) : Prop where
  h : SameL l
abbrev SmF (f : Nat→Value) (l : List Nat) : Prop:=Same2 (l.map fun i => (f i,f i))
def Msk (f : Nat→Value) (σ : Sg) (E : EH) : List Bool→List V→Nat→Prop
  | true :: ms,v :: l,i => ((f i).oneCell' = true∧Den σ E v (f i))∧Msk f σ E ms l (i + 1)
  | false :: ms,v :: l,i => Msk f σ E ms l (i + 1)
  | [],_,_ => True
  | _ :: _,[],_ => True
theorem maskL_congr {f g : Nat→Value} : ∀ {ms : List Bool} {l : List V} {i : Nat},(∀ j,i ≤ j→f j = g j)→maskL f ms l i = maskL g ms l i
  | true :: ms,v :: l,i,h => by simp only [maskL,maskL_congr (ms:=ms) (l:=l) (i:=i + 1) (fun j hj => h j (by omega)),h i (Nat.le_refl _)]
  | false :: ms,v :: l,i,h => by simp only [maskL,maskL_congr (ms:=ms) (l:=l) (i:=i + 1) (fun j hj => h j (by omega))]
  | [],l,i,h => rfl
  | true :: _,[],i,h => rfl
  | false :: _,[],i,h => rfl
theorem Msk_congr {f g : Nat→Value} {σ : Sg} {E : EH} : ∀ {ms : List Bool} {l : List V} {i : Nat},(∀ j,i ≤ j→f j = g j)→Msk f σ E ms l i→Msk g σ E ms l i
  | true :: ms,v :: l,i,h,k => by
    simp only [Msk] at k ⊢
    rw [← h i (Nat.le_refl _)]
    exact ⟨k.1,Msk_congr (fun j hj => h j (by omega)) k.2⟩
  | false :: ms,v :: l,i,h,k => by
    simp only [Msk] at k ⊢
    exact Msk_congr (fun j hj => h j (by omega)) k
  | [],l,i,h,k => by simp only [Msk]
  | true :: _,[],i,h,k => by simp only [Msk]
  | false :: _,[],i,h,k => by simp only [Msk]
theorem maskL_ok {σ : Sg} {E : EH} : ∀ {ms : List Bool} {l : List V} {i : Nat} {xs : List Value},DenC σ E l xs→∃ f : Nat→Value,(∀ l',maskL f ms l i = some l'→DenC σ E l' xs∧Msk f σ E ms l i)
  | [],l,i,xs,hd => ⟨fun _ => undef,fun l' h => by simp only [maskL,Option.some.injEq] at h; subst h; exact ⟨hd,by simp only [Msk]⟩⟩
  | true :: _,[],i,xs,hd => ⟨fun _ => undef,fun l' h => by simp only [maskL,Option.some.injEq] at h; subst h; exact ⟨hd,by simp only [Msk]⟩⟩
  | false :: _,[],i,xs,hd => ⟨fun _ => undef,fun l' h => by simp only [maskL,Option.some.injEq] at h; subst h; exact ⟨hd,by simp only [Msk]⟩⟩
  | false :: ms,v :: l,i,xs,hd => by
    obtain ⟨ys,zs,rfl,h1,h2⟩:=hd.uncons
    obtain ⟨f,hf⟩:=maskL_ok (ms:=ms) (i:=i + 1) h2
    refine ⟨f,fun l' h => ?_⟩
    simp only [maskL] at h
    split at h <;> try (cases h; done)
    rename_i r hr
    cases h
    obtain ⟨h3,h4⟩:=hf r hr
    exact ⟨.cons h1 h3,by simp only [Msk]; exact h4⟩
  | true :: ms,v :: l,i,xs,hd => by
    obtain ⟨ys,zs,rfl,h1,h2⟩:=hd.uncons
    obtain ⟨f,hf⟩:=maskL_ok (ms:=ms) (i:=i + 1) h2
    rcases h1 with ⟨y,rfl,hy,hv⟩ | ⟨m,cs,rfl,_,_⟩
    · refine ⟨fun j => if j = i then y else f j,fun l' h => ?_⟩
      have hc : ∀ j,i + 1 ≤ j→(fun j => if j = i then y else f j) j = f j:=fun j hj => by dsimp only; rw [if_neg (by omega)]
      simp only [maskL,maskL_congr hc] at h
      split at h <;> try (cases h; done)
      rename_i _ _ r _ hr
      simp only [if_true,Option.some.injEq] at h
      subst h
      obtain ⟨h3,h4⟩:=hf r hr
      refine ⟨DenC.cons1 (by simp [Den]) hy h3,?_⟩
      simp only [Msk,if_pos rfl]
      exact ⟨⟨hy,hv⟩,Msk_congr (fun j hj => (hc j hj).symm) h4⟩
    · exact ⟨fun _ => undef,fun l' h => by simp only [maskL] at h; cases h⟩
theorem unmL_ok {f : Nat→Value} {σ τ : Sg} {E E' : EH} (hE : E.le E') : ∀ {ms : List Bool} {l l2 : List V} {i : Nat} {es : List (Value × Value)} {r : List V},unmL f ms l l2 i = some (es,r)→SameL es→Msk f σ E ms l i→∀ {xs : List Value},DenC (σ ++ τ) E' l2 xs→DenC (σ ++ τ) E' r xs
  | [],l,l2,i,es,r,h,hs,hm,xs,hd => by
    simp only [unmL,Option.some.injEq,Prod.mk.injEq] at h
    rw [← h.2]; exact hd
  | false :: ms,v :: l,w :: l2,i,es,r,h,hs,hm,xs,hd => by
    simp only [unmL] at h
    split at h <;> try (cases h; done)
    rename_i es' r' hr
    cases h
    simp only [Msk] at hm
    obtain ⟨ys,zs,rfl,h1,h2⟩:=hd.uncons
    exact .cons h1 (unmL_ok hE hr hs hm h2)
  | true :: ms,v :: l,w :: l2,i,es,r,h,hs,hm,xs,hd => by
    simp only [unmL] at h
    split at h <;> try (cases h; done)
    rename_i y' es' r' hr
    cases h
    simp only [Msk] at hm
    simp only [SameL] at hs
    obtain ⟨ys,zs,rfl,h1,h2⟩:=hd.uncons
    rcases h1 with ⟨z,rfl,hz,hzv⟩ | ⟨m,cs,e,_,_⟩
    · simp only [Den] at hzv
      subst hzv
      rw [hs.1] at *
      exact DenC.cons1 (Den.mono hE hm.1.2) hm.1.1 (unmL_ok hE hr hs.2 hm.2 h2)
    · cases e
  | true :: _,[],[],i,es,r,h,hs,hm,xs,hd => by
    simp only [unmL,Option.some.injEq,Prod.mk.injEq] at h
    rw [← h.2]; exact hd
  | false :: _,[],[],i,es,r,h,hs,hm,xs,hd => by
    simp only [unmL,Option.some.injEq,Prod.mk.injEq] at h
    rw [← h.2]; exact hd
  | true :: _,[],_ :: _,i,es,r,h,hs,hm,xs,hd => by simp [unmL] at h
  | true :: _,_ :: _,[],i,es,r,h,hs,hm,xs,hd => by simp [unmL] at h
  | false :: _,[],_ :: _,i,es,r,h,hs,hm,xs,hd => by simp [unmL] at h
  | false :: _,_ :: _,[],i,es,r,h,hs,hm,xs,hd => by simp [unmL] at h
def hideIn (ms : List Bool) (S : FSpec) : FSpec:=fun args kb K => match kb with
  | .cells l :: r => ∀ f : Nat→Value,match maskL f ms l 0 with
    | some l' => specK S args (.cells l' :: r) (fun res kb2 => match kb2 with
      | .cells l2 :: r2 => match unmL f ms l l2 0 with
        | some (es,l3) => Same2 es∧K res (.cells l3 :: r2)
        | none => False
      | _ => False)
    | none => False
  | _ => False
theorem owns_cells {σ : Sg} {l l' : List V} {r : KB} {b : Nat} (h : Owns σ (.cells l :: r) b) : Owns σ (.cells l' :: r) b:=by
  obtain ⟨i,q,o,h1,h2,h3⟩:=h
  cases i with
  | zero => simp at h2; subst h2; exact ⟨0,q,.cells l',h1,rfl,h3⟩
  | succ i => exact ⟨i + 1,q,o,h1,by simpa using h2,h3⟩
theorem hideIn_ok {P : Program} {f : FuncId} {S : FSpec} (hS : SpecOk P f S) (ms : List Bool) : SpecOk P f (hideIn ms S):=fun args kb K h σ E W xs hi hd => by
  unfold hideIn at h
  split at h <;> try exact h.elim
  rename_i l r
  have h0 : ∃ q,σ[0]? = some q:=by
    have:=hi.len
    cases σ with
    | nil => simp at this
    | cons q σ => exact ⟨q,rfl⟩
  obtain ⟨q,hq⟩:=h0
  obtain ⟨arr,ty,ha,hl⟩:=hi.obj 0 q _ hq rfl
  obtain ⟨f,hf⟩:=maskL_ok (ms:=ms) (i:=0) hl
  have h:=h f
  split at h <;> try exact h.elim
  rename_i l' hl'
  obtain ⟨h1,h2⟩:=hf l' hl'
  have h3:=h
  have hi' : Inv σ E (.cells l' :: r) W:=by
    refine ⟨by simpa using hi.len,fun i q' o k1 k2 => ?_,fun i j q1 q2 o o' b hij k1 k2 k3 k4 k5 k6 => ?_,hi.imm,fun b hb => hi.sep b (owns_cells hb)⟩
    · cases i with
      | zero =>
        simp at k2; subst k2
        rw [hq] at k1; cases k1
        exact ⟨arr,ty,ha,h1⟩
      | succ i => exact hi.obj (i + 1) q' o k1 (by simpa using k2)
    · have key : ∀ (i : Nat) (o : KO) (q : Re),(KO.cells l' :: r)[i]? = some o→owned q o b→∃ o2,(KO.cells l :: r)[i]? = some o2∧owned q o2 b:=fun i o q h2 h5 => by
        cases i with
        | zero => simp at h2; subst h2; exact ⟨_,rfl,h5⟩
        | succ i => exact ⟨o,by simpa using h2,h5⟩
      obtain ⟨o2,g1,g2⟩:=key i o q1 k2 k5
      obtain ⟨o3,g3,g4⟩:=key j o' q2 k4 k6
      exact hi.disj i j q1 q2 o2 o3 b hij k1 g1 k3 g3 g2 g4
  refine (specK_ok hS h3 hi' hd).mono ?_
  rintro e W' ⟨v,res,σ',E',kb2,rfl,hst,hden,hK⟩
  split at hK <;> try exact hK.elim
  rename_i l2 r2
  obtain ⟨τ,rfl⟩:=hst.pre
  have hq' : (σ ++ τ)[0]? = some q:=sg_ext hq
  obtain ⟨arr2,ty2,ha2,hl2⟩:=hst.inv.obj 0 q _ hq' rfl
  split at hK <;> try exact hK.elim
  rename_i es l3 hun
  obtain ⟨hsame,h5⟩:=hK
  have h4:=unmL_ok hst.le hun hsame.h h2 hl2
  refine ⟨v,res,σ ++ τ,E',.cells l3 :: r2,rfl,⟨?_,⟨hst.stp.os,hst.stp.tape,hst.stp.output,hst.stp.size,fun k hk hn => hst.stp.block k hk (fun ho => hn (owns_cells ho))⟩,⟨τ,rfl⟩,hst.le,fun b hb => ?_,fun b o hb => ?_⟩,hden,h5⟩
  · refine ⟨by simpa using hst.inv.len,fun i q' o k1 k2 => ?_,fun i j q1 q2 o o' b hij k1 k2 k3 k4 k5 k6 => ?_,hst.inv.imm,fun b hb => hst.inv.sep b (owns_cells hb)⟩
    · cases i with
      | zero =>
        simp at k2; subst k2
        rw [hq'] at k1; cases k1
        exact ⟨arr2,ty2,ha2,h4⟩
      | succ i => exact hst.inv.obj (i + 1) q' o k1 (by simpa using k2)
    · have key : ∀ (i : Nat) (o : KO) (q : Re),(KO.cells l3 :: r2)[i]? = some o→owned q o b→∃ o2,(KO.cells l2 :: r2)[i]? = some o2∧owned q o2 b:=fun i o q h2 h5 => by
        cases i with
        | zero => simp at h2; subst h2; exact ⟨_,rfl,h5⟩
        | succ i => exact ⟨o,by simpa using h2,h5⟩
      obtain ⟨o2,g1,g2⟩:=key i o q1 k2 k5
      obtain ⟨o3,g3,g4⟩:=key j o' q2 k4 k6
      exact hst.inv.disj i j q1 q2 o2 o3 b hij k1 g1 k3 g3 g2 g4
  · rcases hst.own b (owns_cells hb) with k | k
    · exact .inl (owns_cells k)
    · exact .inr k
  · rcases hst.new b o hb with k | k | k
    · exact .inl k
    · exact .inr (.inl (owns_cells k))
    · exact .inr (.inr k)
end Vc
set_option linter.unusedSimpArgs false
set_option linter.unusedVariables false
namespace Vc
open Go Go.Shelf Go.RowKit Go.Proofs Go.Lib
def Sgrow (ty : TypeId) : FSpec:=fun args kb K => match args,kb with
  | [.any (.slice none 0 0),.int .i64 n],[] => 0 ≤ n∧n ≤ 1000000∧K (.sl 0 0 0) [.row ty 1 []]
  | _,_ => False
theorem okGrow_of {P : Program} {ρ : Ren} (L : Lays8.n4 P ρ) (i0 : TypeInfo) (z : Value) (hi0 : P.info? (ρ.t 25) = some i0) (hz0 : i0.zero = some z) (hs0 : i0.size = 1) (hb0 : i0.bytes = 8) (hzc : z.cells.size = 1) : SpecOk P (ρ.f 4) (Sgrow (ρ.t 25)):=fun args kb K h σ E W xs hi hd => by
  unfold Sgrow at h
  split at h <;> try exact h.elim
  rename_i n
  obtain ⟨h0,h1,h⟩:=h
  simp only [DenL,Den] at hd
  obtain ⟨x,xs',rfl,rfl,x2,xs2,rfl,rfl,rfl⟩:=hd
  obtain ⟨m,rfl⟩ : ∃ m : Nat,n = (m : Int):=⟨n.toNat,by omega⟩
  have hlen : σ.length = 0:=hi.len
  rcases Nat.eq_zero_or_pos m with hm | hm
  · subst hm
    refine (Any8.slices_Grow_room L none 0 0 0 W (Nat.le_refl _) (by omega) (by omega) (by omega)).mono ?_
    rintro e W' ⟨rfl,rfl⟩
    have hgrow:=hi.grow (W':=W') ⟨0,0,1⟩ (.row (ρ.t 25) 1 []) rfl rfl rfl (Nat.le_refl _) (fun _ _ => rfl) (fun b hb => absurd rfl hb.1) ⟨rfl,wl.nil,Nat.le_refl _,Nat.zero_le _,.inl rfl⟩
    refine ⟨_,.sl 0 0 0,_,E,_,rfl,hgrow,?_,h⟩
    simp only [Den]
    exact ⟨⟨0,0,1⟩,none,by rw [List.getElem?_append_right (by omega),hlen]; rfl,rfl,Nat.le_refl _,Nat.le_refl _,fun f => absurd f (Nat.lt_irrefl _)⟩
  · have hG:=Any8.slices_Grow_grow L i0 z hi0 hz0 (by omega) none 0 0 m [] W (Nat.le_refl _) (by omega) (by rw [hb0]; omega) (by omega) (by simp) (fun _ => rfl) (fun a f => by cases f)
    refine hG.mono ?_
    rintro e W' ⟨rfl,rfl⟩
    have hge : 0 + m ≤ grownCap W (0 + m) 0 (ρ.t 25):=grownCap_ge W _ _ _
    have hle:=grownCap_le_maxLen W (0 + m) 0 (ρ.t 25) (by simp only [maxLen]; omega)
    have hheap : ∀ o : Obj,(W.drew.alloc o).heap = W.heap.push o:=fun _ => rfl
    have hgrow:=hi.grow (W':=W.drew.alloc (.cells (([] : List Value).toArray ++ Builtin.zeroCells z.cells (0 + m - 0) ++ Builtin.zeroCells z.cells (grownCap W (0 + m) 0 (ρ.t 25) - (0 + m))) (ρ.t 25)))
      ⟨W.heap.size,grownCap W (0 + m) 0 (ρ.t 25),1⟩ (.row (ρ.t 25) 1 []) rfl rfl rfl (by rw [hheap,Array.size_push]; omega) (fun k hk => by rw [hheap,Array.getElem?_push_lt hk,Array.getElem?_eq_getElem hk]) (fun b hb => by have:=hb.2; simp only at this; omega)
      ⟨rfl,wl.nil,Nat.zero_le _,hle,.inr ⟨_,(MapKept.heap_alloc W.drew _).1,by simp only [Array.size_append,List.size_toArray,size_zeroCells,hzc,List.length_nil]; omega,by simp [DenD]⟩⟩
    refine ⟨_,.sl 0 0 0,_,E,_,rfl,hgrow,?_,h⟩
    simp only [Den]
    exact ⟨⟨W.heap.size,grownCap W (0 + m) 0 (ρ.t 25),1⟩,some ⟨W.heap.size,0,none⟩,by rw [List.getElem?_append_right (by omega),hlen]; rfl,rfl,Nat.le_refl _,Nat.zero_le _,fun _ => by simp⟩
end Vc
namespace Go.Proofs.Ytfcjngcnifdmnaa
open Go.Shelf
def growM_ren : Go.Shelf.Ren:=⟨fun | 4 => 73 | n => n,fun | 22 => 27 | 25 => 3 | 3 => 3 | 4 => 4 | 9 => 9 | 20 => 20 | 0 => 0 | n => n,fun | n => n⟩
theorem growM : Go.Proofs.Lays8.n4 Try.prog growM_ren:={
  mixed:=by kernel_rfl
  f4:=⟨Try.f73.name,by decide,Try.func73.trans (congrArg some (by kernel_rfl))⟩
  t0:=Try.underlying0
  a0:=Try.isAgg0
  z0:=Try.sizeOf0
  v0:=Try.zeroValue0
  t3:=Try.underlying3
  a3:=Try.isAgg3
  z3:=Try.sizeOf3
  v3:=Try.zeroValue3
  t4:=Try.underlying4
  a4:=Try.isAgg4
  z4:=Try.sizeOf4
  v4:=Try.zeroValue4
  t9:=Try.underlying9
  a9:=Try.isAgg9
  z9:=Try.sizeOf9
  v9:=Try.zeroValue9
  t20:=Try.underlying20
  a20:=Try.isAgg20
  z20:=Try.sizeOf20
  v20:=Try.zeroValue20
  t22:=Try.underlying27
  a22:=Try.isAgg27
  z22:=Try.sizeOf27
  v22:=Try.zeroValue27 }
theorem okGrow : Vc.SpecOk Try.prog 73 (Vc.Sgrow 3):=Vc.okGrow_of (ρ:=growM_ren) growM ((Try.prog.info? 3).get (by kernel_rfl)) (.int .i64 0) (by kernel_rfl) (by kernel_rfl) (by kernel_rfl) (by kernel_rfl) rfl
end Go.Proofs.Ytfcjngcnifdmnaa
namespace Go.Proofs.Ytfcjngcnifdmnaa
open Vc Go
set_option linter.unusedVariables false
set_option linter.unusedSimpArgs false
set_option maxRecDepth 100000
def lsA (Ls : List (List Int)) : List (List D):=Ls.map fun l => [D.sl 1 (ints .i64 l)]
def flA (Ls : List (List Int)) (i : Nat) : List Int:=(Ls.take i).flatten
abbrev cc1LI (Ls : List (List Int)) : LI where
  α:={i : Nat // i ≤ Ls.length}
  live:=[0,3,9,10,11]
  st i:=([.dat (.sl 1 (lsA Ls)),.int .i64 ((flA Ls i.1).length : Int),.dat (.sl 1 (lsA Ls)),.int .i64 (Ls.length : Int),.int .i64 (i.1 : Int)],[])
  μ i:=Ls.length - i.1
abbrev cc2LI (Ls : List (List Int)) : LI where
  α:={i : Nat // i ≤ Ls.length}
  live:=[6,25,26,27]
  st i:=([.sl 0 0 (flA Ls i.1).length,.dat (.sl 1 (lsA Ls)),.int .i64 (Ls.length : Int),.int .i64 (i.1 : Int)],[.row 3 1 (ints .i64 (flA Ls i.1))])
  μ i:=Ls.length - i.1
def ccT (Ls : List (List Int)) : FuncId→Nat→Option LI
  | 54,3 => some (cc1LI Ls)
  | 54,11 => some (cc2LI Ls)
  | _,_ => none
def gwS : FuncId→Option Known
  | 73 => some ⟨[],Sgrow 3⟩
  | _ => none
noncomputable def XGw : CallT:=callS Try.prog gwS noT 10
def fstI (p : Int→Bool) (l : List Int) : Int:=match l.findIdx? p with | some i => (i : Int) | none => -1
abbrev ixLI (p : Int→Bool) (l : List Int) (v g : V) (B : KB) : LI where
  α:={i : Nat // i ≤ l.length∧∀ j n,j < i→l[j]? = some n→p n = false}
  live:=[0,1,7,8]
  st i:=([v,g,.int .i64 (l.length : Int),.int .i64 (i.1 : Int)],B)
  μ i:=l.length - i.1
def ixT (p : Int→Bool) (l : List Int) (v g : V) (B : KB) : FuncId→Nat→Option LI
  | 66,2 => some (ixLI p l v g B)
  | _,_ => none
def isMe (me : Int) (n : Int) : Bool:=n == me
def isNot (M : ML) (n : Int) : Bool:=!mgetB M [n] 0
def isWrong (n : Int) : Bool:=decide (n < 0∨1099511627776 < n)
structure BoolM (M : ML) : Prop where
  h : ∀ k cs,mget M k = some cs→∃ b,cs = [.val (.bool b)]
structure Len5 (n : Nat) : Prop where
  h : n ≤ 100000
def Sconcat : FSpec:=fun args kb K => match args,kb with
  | [.dat (.sl 1 A)],[] => ∃ Ls,A = lsA Ls∧Len5 Ls.length∧Len5 (flA Ls Ls.length).length∧K (.sl 0 0 (flA Ls Ls.length).length) [.row 3 1 (ints .i64 (flA Ls Ls.length))]
  | _,_ => False
def Sidx : FSpec:=fun args kb K => match args,kb with
  | [.sl 0 0 n,.fn 55 [.ptr 1 0]],[.row 3 1 A,.cells [.ptr 2 0],.cells [.int .i64 me,.any a1,.any a2,.any a3,.any a4,.any a5,.arr 128 C,.any a7,.any a8,.any a9,.any a10,.dat (.sl 1 M),.dat (.sl 1 J),.any a13,.any a14,.any a15,.any a16,.any a17,.any a18,.any a19,.any a20,.any a21]] => ∃ l,A = ints .i64 l∧n ≤ l.length∧Len5 l.length∧K (.int .i64 (fstI (isMe me) (l.take n))) [.row 3 1 (ints .i64 l),.cells [.ptr 2 0],.cells [.int .i64 me,.any a1,.any a2,.any a3,.any a4,.any a5,.arr 128 C,.any a7,.any a8,.any a9,.any a10,.dat (.sl 1 M),.dat (.sl 1 J),.any a13,.any a14,.any a15,.any a16,.any a17,.any a18,.any a19,.any a20,.any a21]]
  | [.sl 0 0 n,.fn 57 [.ptr 1 0]],[.row 3 1 A,.cells [.mp 2],.mp [.i64] false false 1 M] => ∃ l,A = ints .i64 l∧n ≤ l.length∧Len5 l.length∧BoolM M∧K (.int .i64 (fstI (isNot M) (l.take n))) [.row 3 1 (ints .i64 l),.cells [.mp 2],.mp [.i64] false false 1 M]
  | [.dat (.sl 1 A),.fn 40 []],[] => ∃ l,A = ints .i64 l∧Len5 l.length∧K (.int .i64 (fstI isWrong l)) []
  | _,_ => False
def kpA (me : Int) (l : List Int) : List Int:=l.filter fun x => !(x == me)
def kpZ (me : Int) (l : List Int) : List Int:=kpA me l ++ List.replicate (l.length - (kpA me l).length) 0
abbrev dlLI (a1 a2 a3 a4 a5 a7 a8 a9 a10 a13 a14 a15 a16 a17 a18 a19 a20 a21 : Value) (C : List D) (M J : List (List D)) (me : Int) (l : List Int) : LI where
  α:={j : Nat // j ≤ l.length∧(kpA me (l.take j)).length < j}
  live:=[0,1,5,6]
  st j:=([.sl 0 0 l.length,.fn 55 [.ptr 1 0],.int .i64 ((kpA me (l.take j.1)).length : Int),.int .i64 (j.1 : Int)],[.row 3 1 (ints .i64 (kpA me (l.take j.1) ++ l.drop (kpA me (l.take j.1)).length)),.cells [.ptr 2 0],.cells [.int .i64 me,.any a1,.any a2,.any a3,.any a4,.any a5,.arr 128 C,.any a7,.any a8,.any a9,.any a10,.dat (.sl 1 M),.dat (.sl 1 J),.any a13,.any a14,.any a15,.any a16,.any a17,.any a18,.any a19,.any a20,.any a21]])
  μ j:=l.length - j.1
def dlT (a1 a2 a3 a4 a5 a7 a8 a9 a10 a13 a14 a15 a16 a17 a18 a19 a20 a21 : Value) (C : List D) (M J : List (List D)) (me : Int) (l : List Int) : FuncId→Nat→Option LI
  | 53,5 => some (dlLI a1 a2 a3 a4 a5 a7 a8 a9 a10 a13 a14 a15 a16 a17 a18 a19 a20 a21 C M J me l)
  | _,_ => none
def Sdel : FSpec:=fun args kb K => match args,kb with
  | [.sl 0 0 n,.fn 55 [.ptr 1 0]],[.row 3 1 A,.cells [.ptr 2 0],.cells [.int .i64 me,.any a1,.any a2,.any a3,.any a4,.any a5,.arr 128 C,.any a7,.any a8,.any a9,.any a10,.dat (.sl 1 M),.dat (.sl 1 J),.any a13,.any a14,.any a15,.any a16,.any a17,.any a18,.any a19,.any a20,.any a21]] => ∃ l,A = ints .i64 l∧n = l.length∧Len5 l.length∧K (.sl 0 0 (kpA me l).length) [.row 3 1 (ints .i64 (kpZ me l)),.cells [.ptr 2 0],.cells [.int .i64 me,.any a1,.any a2,.any a3,.any a4,.any a5,.arr 128 C,.any a7,.any a8,.any a9,.any a10,.dat (.sl 1 M),.dat (.sl 1 J),.any a13,.any a14,.any a15,.any a16,.any a17,.any a18,.any a19,.any a20,.any a21]]
  | _,_ => False
def ot1S : FuncId→Option Known
  | 54 => some ⟨[.lend 1],Sconcat⟩
  | 66 => some ⟨[],Sidx⟩
  | _ => none
noncomputable def XO1 : CallT:=callS Try.prog ot1S noT 10
def otS : FuncId→Option Known
  | 53 => some ⟨[],Sdel⟩
  | f => ot1S f
noncomputable def XOt : CallT:=callS Try.prog otS noT 10
def othA (me : Int) (m j : List Int) : List Int:=kpA me (m ++ j)
def othZ (me : Int) (m j : List Int) : List Int:=kpZ me (m ++ j)
def Sothers : FSpec:=fun args kb K => match args,kb with
  | [.ptr 0 0],[.cells [.int .i64 me,.any a1,.any a2,.any a3,.any a4,.any a5,.arr 128 C,.any a7,.any a8,.any a9,.any a10,.dat (.sl 1 M),.dat (.sl 1 J),.any a13,.any a14,.any a15,.any a16,.any a17,.any a18,.any a19,.any a20,.any a21]] => ∃ m j : List Int,M = ints .i64 m∧J = ints .i64 j∧Len5 (m.length + j.length)∧K (.sl 1 0 (othA me m j).length) [.cells [.int .i64 me,.any a1,.any a2,.any a3,.any a4,.any a5,.arr 128 C,.any a7,.any a8,.any a9,.any a10,.dat (.sl 1 M),.dat (.sl 1 J),.any a13,.any a14,.any a15,.any a16,.any a17,.any a18,.any a19,.any a20,.any a21],.row 3 1 (ints .i64 (othZ me m j))]
  | _,_ => False
def ScontF : FSpec:=fun args kb K => match args,kb with
  | [.sl 0 0 n,.fn 57 [.ptr 1 0]],[.row 3 1 A,.cells [.mp 2],.mp [.i64] false false 1 M] => ∃ l,A = ints .i64 l∧n ≤ l.length∧Len5 l.length∧BoolM M∧K (.sb ((l.take n).any (isNot M))) [.row 3 1 (ints .i64 l),.cells [.mp 2],.mp [.i64] false false 1 M]
  | [.dat (.sl 1 A),.fn 40 []],[] => ∃ l,A = ints .i64 l∧Len5 l.length∧K (.sb (l.any isWrong)) []
  | _,_ => False
theorem vcConcat (Ls : List (List Int)) (K : V→KB→Prop) (hvc_ :
 At (cc1LI Ls) ([V.dat (D.sl 1 (lsA Ls)),V.int IntKind.i64 0,V.dat (D.sl 1 (lsA Ls)),V.int IntKind.i64 (↑(lsA Ls).length : Int),V.int IntKind.i64 0],[]) ∧
 ∀ (i : { i : Nat // i ≤ Ls.length }),
 (decide ((↑i.val : Int) < (↑Ls.length : Int)) = true →
 NonN (↑i.val : Int) ∧
 ∃ (e : List D),
 (lsA Ls)[(↑i.val : Int).toNat]? = some e ∧
 ∃ (l : List (List D)),
 e[0]? = some (D.sl 1 l) ∧
 (decide (IntKind.i64.wrap ((↑(flA Ls i.val).length : Int) + (↑l.length : Int)) < 0) = true→False) ∧
 (decide (IntKind.i64.wrap ((↑(flA Ls i.val).length : Int) + (↑l.length : Int)) < 0) = false→Nx (cc1LI Ls) i ([V.dat (D.sl 1 (lsA Ls)),V.int IntKind.i64 (IntKind.i64.wrap ((↑(flA Ls i.val).length : Int) + (↑l.length : Int))),V.dat (D.sl 1 (lsA Ls)),V.int IntKind.i64 (↑Ls.length : Int),V.int IntKind.i64 (IntKind.i64.wrap ((↑i.val : Int) + 1))],[]))) ∧
 (decide ((↑i.val : Int) < (↑Ls.length : Int)) = false →
 0 ≤ (↑(flA Ls i.val).length : Int) ∧
 (↑(flA Ls i.val).length : Int) ≤ 1000000 ∧
 At (cc2LI Ls) ([V.sl 0 0 0,V.dat (D.sl 1 (lsA Ls)),V.int IntKind.i64 (↑(lsA Ls).length : Int),V.int IntKind.i64 0],[KO.row 3 1 []]) ∧
 ∀ (i : { i : Nat // i ≤ Ls.length }),
 (decide ((↑i.val : Int) < (↑Ls.length : Int)) = true →
 NonN (↑i.val : Int) ∧
 ∃ (e : List D),
 (lsA Ls)[(↑i.val : Int).toNat]? = some e ∧
 ∃ (l : List (List D)),
 e[0]? = some (D.sl 1 l) ∧
 True ∧
 (flA Ls i.val).length ≤ (ints IntKind.i64 (flA Ls i.val)).length ∧
 ((flA Ls i.val).length + l.length) * 8 ≤ 140737488355328∧Nx (cc2LI Ls) i ([V.sl 0 0 ((flA Ls i.val).length + l.length),V.dat (D.sl 1 (lsA Ls)),V.int IntKind.i64 (↑Ls.length : Int),V.int IntKind.i64 (IntKind.i64.wrap ((↑i.val : Int) + 1))],[KO.row 3 1 (List.take (flA Ls i.val).length (ints IntKind.i64 (flA Ls i.val)) ++ l)])) ∧
 (decide ((↑i.val : Int) < (↑Ls.length : Int)) = false→K (V.sl 0 0 (flA Ls i.val).length) [KO.row 3 1 (ints IntKind.i64 (flA Ls i.val))]))
 ) : runSpec Try.prog XGw (ccT Ls 54) 54 [.dat (.sl 1 (lsA Ls))] [] K:=by apply Eq.mp (a:=hvc_); kernel_rfl
theorem vcIdxMe (a1 a2 a3 a4 a5 a7 a8 a9 a10 a13 a14 a15 a16 a17 a18 a19 a20 a21 : Value) (C : List D) (M J : List (List D)) (p : Int→Bool) (l ln : List Int) (n : Nat) (me : Int) (K : V→KB→Prop) (hvc_ :
 At (ixLI p ln (V.sl 0 0 n) (V.fn 55 [V.ptr 1 0]) [KO.row 3 1 (ints IntKind.i64 l),KO.cells [V.ptr 2 0],KO.cells [V.int IntKind.i64 me,V.any a1,V.any a2,V.any a3,V.any a4,V.any a5,V.arr 128 C,V.any a7,V.any a8,V.any a9,V.any a10,V.dat (D.sl 1 M),V.dat (D.sl 1 J),V.any a13,V.any a14,V.any a15,V.any a16,V.any a17,V.any a18,V.any a19,V.any a20,V.any a21]])
 ([V.sl 0 0 n,V.fn 55 [V.ptr 1 0],V.int IntKind.i64 (↑(n - 0) : Int),V.int IntKind.i64 0],
 [KO.row 3 1 (ints IntKind.i64 l),KO.cells [V.ptr 2 0],KO.cells [V.int IntKind.i64 me,V.any a1,V.any a2,V.any a3,V.any a4,V.any a5,V.arr 128 C,V.any a7,V.any a8,V.any a9,V.any a10,V.dat (D.sl 1 M),V.dat (D.sl 1 J),V.any a13,V.any a14,V.any a15,V.any a16,V.any a17,V.any a18,V.any a19,V.any a20,V.any a21]]) ∧
 ∀ (i : { i : Nat // i ≤ ln.length∧∀ (j : Nat) (n : Int),j < i→ln[j]? = some n→p n = false }),
 (decide ((↑i.val : Int) < (↑ln.length : Int)) = true →
 InB (↑i.val : Int) (n - 0) ∧
 ∃ (e : List D),
 (ints IntKind.i64 l)[0 + (↑i.val : Int).toNat]? = some e ∧
 ∃ (n_1 : Int),
 e[0]? = some (D.val (Value.int IntKind.i64 n_1)) ∧
 ((n_1 == me) = true →
 K (V.int IntKind.i64 (↑i.val : Int)) [KO.row 3 1 (ints IntKind.i64 l),KO.cells [V.ptr 2 0],KO.cells [V.int IntKind.i64 me,V.any a1,V.any a2,V.any a3,V.any a4,V.any a5,V.arr 128 C,V.any a7,V.any a8,V.any a9,V.any a10,V.dat (D.sl 1 M),V.dat (D.sl 1 J),V.any a13,V.any a14,V.any a15,V.any a16,V.any a17,V.any a18,V.any a19,V.any a20,V.any a21]]) ∧
 ((n_1 == me) = false →
 Nx (ixLI p ln (V.sl 0 0 n) (V.fn 55 [V.ptr 1 0]) [KO.row 3 1 (ints IntKind.i64 l),KO.cells [V.ptr 2 0],KO.cells [V.int IntKind.i64 me,V.any a1,V.any a2,V.any a3,V.any a4,V.any a5,V.arr 128 C,V.any a7,V.any a8,V.any a9,V.any a10,V.dat (D.sl 1 M),V.dat (D.sl 1 J),V.any a13,V.any a14,V.any a15,V.any a16,V.any a17,V.any a18,V.any a19,V.any a20,V.any a21]])
 i
 ([V.sl 0 0 n,V.fn 55 [V.ptr 1 0],V.int IntKind.i64 (↑ln.length : Int),V.int IntKind.i64 (IntKind.i64.wrap ((↑i.val : Int) + 1))],
 [KO.row 3 1 (ints IntKind.i64 l),KO.cells [V.ptr 2 0],KO.cells [V.int IntKind.i64 me,V.any a1,V.any a2,V.any a3,V.any a4,V.any a5,V.arr 128 C,V.any a7,V.any a8,V.any a9,V.any a10,V.dat (D.sl 1 M),V.dat (D.sl 1 J),V.any a13,V.any a14,V.any a15,V.any a16,V.any a17,V.any a18,V.any a19,V.any a20,V.any a21]]))) ∧
 (decide ((↑i.val : Int) < (↑ln.length : Int)) = false →
 K (V.int IntKind.i64 (-1)) [KO.row 3 1 (ints IntKind.i64 l),KO.cells [V.ptr 2 0],KO.cells [V.int IntKind.i64 me,V.any a1,V.any a2,V.any a3,V.any a4,V.any a5,V.arr 128 C,V.any a7,V.any a8,V.any a9,V.any a10,V.dat (D.sl 1 M),V.dat (D.sl 1 J),V.any a13,V.any a14,V.any a15,V.any a16,V.any a17,V.any a18,V.any a19,V.any a20,V.any a21]])
 ) : runSpec Try.prog X0 (ixT p ln (.sl 0 0 n) (.fn 55 [.ptr 1 0]) [.row 3 1 (ints .i64 l),.cells [.ptr 2 0],.cells [.int .i64 me,.any a1,.any a2,.any a3,.any a4,.any a5,.arr 128 C,.any a7,.any a8,.any a9,.any a10,.dat (.sl 1 M),.dat (.sl 1 J),.any a13,.any a14,.any a15,.any a16,.any a17,.any a18,.any a19,.any a20,.any a21]] 66) 66 [.sl 0 0 n,.fn 55 [.ptr 1 0]] [.row 3 1 (ints .i64 l),.cells [.ptr 2 0],.cells [.int .i64 me,.any a1,.any a2,.any a3,.any a4,.any a5,.arr 128 C,.any a7,.any a8,.any a9,.any a10,.dat (.sl 1 M),.dat (.sl 1 J),.any a13,.any a14,.any a15,.any a16,.any a17,.any a18,.any a19,.any a20,.any a21]] K:=by apply Eq.mp (a:=hvc_); kernel_rfl
theorem vcIdxNot (p : Int→Bool) (l ln : List Int) (n : Nat) (M : ML) (K : V→KB→Prop) (hvc_ :
 At (ixLI p ln (V.sl 0 0 n) (V.fn 57 [V.ptr 1 0]) [KO.row 3 1 (ints IntKind.i64 l),KO.cells [V.mp 2],KO.mp [IntKind.i64] false false 1 M]) ([V.sl 0 0 n,V.fn 57 [V.ptr 1 0],V.int IntKind.i64 (↑(n - 0) : Int),V.int IntKind.i64 0],[KO.row 3 1 (ints IntKind.i64 l),KO.cells [V.mp 2],KO.mp [IntKind.i64] false false 1 M]) ∧
 ∀ (i : { i : Nat // i ≤ ln.length∧∀ (j : Nat) (n : Int),j < i→ln[j]? = some n→p n = false }),
 (decide ((↑i.val : Int) < (↑ln.length : Int)) = true →
 InB (↑i.val : Int) (n - 0) ∧
 ∃ (e : List D),
 (ints IntKind.i64 l)[0 + (↑i.val : Int).toNat]? = some e ∧
 ∃ (n_1 : Int),
 e[0]? = some (D.val (Value.int IntKind.i64 n_1)) ∧
 (∀ (cs : List D),mget M [n_1] = some cs→ConfK [CK.bool] cs) ∧
 ((!mgetB M [n_1] 0) = true→K (V.int IntKind.i64 (↑i.val : Int)) [KO.row 3 1 (ints IntKind.i64 l),KO.cells [V.mp 2],KO.mp [IntKind.i64] false false 1 M]) ∧
 ((!mgetB M [n_1] 0) = false →
 Nx (ixLI p ln (V.sl 0 0 n) (V.fn 57 [V.ptr 1 0]) [KO.row 3 1 (ints IntKind.i64 l),KO.cells [V.mp 2],KO.mp [IntKind.i64] false false 1 M]) i ([V.sl 0 0 n,V.fn 57 [V.ptr 1 0],V.int IntKind.i64 (↑ln.length : Int),V.int IntKind.i64 (IntKind.i64.wrap ((↑i.val : Int) + 1))],[KO.row 3 1 (ints IntKind.i64 l),KO.cells [V.mp 2],KO.mp [IntKind.i64] false false 1 M]))) ∧
 (decide ((↑i.val : Int) < (↑ln.length : Int)) = false→K (V.int IntKind.i64 (-1)) [KO.row 3 1 (ints IntKind.i64 l),KO.cells [V.mp 2],KO.mp [IntKind.i64] false false 1 M])
 ) : runSpec Try.prog X0 (ixT p ln (.sl 0 0 n) (.fn 57 [.ptr 1 0]) [.row 3 1 (ints .i64 l),.cells [.mp 2],.mp [.i64] false false 1 M] 66) 66 [.sl 0 0 n,.fn 57 [.ptr 1 0]] [.row 3 1 (ints .i64 l),.cells [.mp 2],.mp [.i64] false false 1 M] K:=by apply Eq.mp (a:=hvc_); kernel_rfl
theorem vcIdxWr (p : Int→Bool) (l : List Int) (K : V→KB→Prop) (hvc_ :
 At (ixLI p l (V.dat (D.sl 1 (ints IntKind.i64 l))) (V.fn 40 []) []) ([V.dat (D.sl 1 (ints IntKind.i64 l)),V.fn 40 [],V.int IntKind.i64 (↑(ints IntKind.i64 l).length : Int),V.int IntKind.i64 0],[]) ∧
 ∀ (i : { i : Nat // i ≤ l.length∧∀ (j : Nat) (n : Int),j < i→l[j]? = some n→p n = false }),
 (decide ((↑i.val : Int) < (↑l.length : Int)) = true →
 NonN (↑i.val : Int) ∧
 ∃ (e : List D),
 (ints IntKind.i64 l)[(↑i.val : Int).toNat]? = some e ∧
 ∃ (n : Int),
 e[0]? = some (D.val (Value.int IntKind.i64 n)) ∧
 (decide (n < 0) = true→K (V.int IntKind.i64 (↑i.val : Int)) []) ∧
 (decide (n < 0) = false→(decide (n > 1099511627776) = true→K (V.int IntKind.i64 (↑i.val : Int)) [])∧(decide (n > 1099511627776) = false→Nx (ixLI p l (V.dat (D.sl 1 (ints IntKind.i64 l))) (V.fn 40 []) []) i ([V.dat (D.sl 1 (ints IntKind.i64 l)),V.fn 40 [],V.int IntKind.i64 (↑l.length : Int),V.int IntKind.i64 (IntKind.i64.wrap ((↑i.val : Int) + 1))],[])))) ∧
 (decide ((↑i.val : Int) < (↑l.length : Int)) = false→K (V.int IntKind.i64 (-1)) [])
 ) : runSpec Try.prog X0 (ixT p l (.dat (.sl 1 (ints .i64 l))) (.fn 40 []) [] 66) 66 [.dat (.sl 1 (ints .i64 l)),.fn 40 []] [] K:=by apply Eq.mp (a:=hvc_); kernel_rfl
theorem vcDel (a1 a2 a3 a4 a5 a7 a8 a9 a10 a13 a14 a15 a16 a17 a18 a19 a20 a21 : Value) (C : List D) (M J : List (List D)) (l : List Int) (me : Int) (K : V→KB→Prop) (hvc_ :
 ∃ (l_1 : List Int),
 ints IntKind.i64 l = ints IntKind.i64 l_1 ∧
 l.length ≤ l_1.length ∧
 Len5 l_1.length ∧
 ((fstI (isMe me) (List.take l.length l_1) == -1) = true →
 K (V.sl 0 0 l.length) [KO.row 3 1 (ints IntKind.i64 l_1),KO.cells [V.ptr 2 0],KO.cells [V.int IntKind.i64 me,V.any a1,V.any a2,V.any a3,V.any a4,V.any a5,V.arr 128 C,V.any a7,V.any a8,V.any a9,V.any a10,V.dat (D.sl 1 M),V.dat (D.sl 1 J),V.any a13,V.any a14,V.any a15,V.any a16,V.any a17,V.any a18,V.any a19,V.any a20,V.any a21]]) ∧
 ((fstI (isMe me) (List.take l.length l_1) == -1) = false →
 At (dlLI a1 a2 a3 a4 a5 a7 a8 a9 a10 a13 a14 a15 a16 a17 a18 a19 a20 a21 C M J me l)
 ([V.sl 0 0 l.length,V.fn 55 [V.ptr 1 0],V.int IntKind.i64 (fstI (isMe me) (List.take l.length l_1)),V.int IntKind.i64 (IntKind.i64.wrap (fstI (isMe me) (List.take l.length l_1) + 1))],
 [KO.row 3 1 (ints IntKind.i64 l_1),KO.cells [V.ptr 2 0],KO.cells [V.int IntKind.i64 me,V.any a1,V.any a2,V.any a3,V.any a4,V.any a5,V.arr 128 C,V.any a7,V.any a8,V.any a9,V.any a10,V.dat (D.sl 1 M),V.dat (D.sl 1 J),V.any a13,V.any a14,V.any a15,V.any a16,V.any a17,V.any a18,V.any a19,V.any a20,V.any a21]]) ∧
 ∀ (i : { j : Nat // j ≤ l.length∧(kpA me (List.take j l)).length < j }),
 (decide ((↑i.val : Int) < (↑(l.length - 0) : Int)) = true →
 InB (↑i.val : Int) (l.length - 0) ∧
 ∃ (e : List D),
 (ints IntKind.i64 (kpA me (List.take i.val l) ++ List.drop (kpA me (List.take i.val l)).length l))[0 + (↑i.val : Int).toNat]? = some e ∧
 ∃ (n : Int),
 e[0]? = some (D.val (Value.int IntKind.i64 n)) ∧
 ((!n == me) = true →
 InB (↑(kpA me (List.take i.val l)).length : Int) (l.length - 0) ∧
 0 + (↑(kpA me (List.take i.val l)).length : Int).toNat < (ints IntKind.i64 (kpA me (List.take i.val l) ++ List.drop (kpA me (List.take i.val l)).length l)).length ∧
 Nx (dlLI a1 a2 a3 a4 a5 a7 a8 a9 a10 a13 a14 a15 a16 a17 a18 a19 a20 a21 C M J me l) i
 ([V.sl 0 0 l.length,V.fn 55 [V.ptr 1 0],V.int IntKind.i64 (IntKind.i64.wrap ((↑(kpA me (List.take i.val l)).length : Int) + 1)),V.int IntKind.i64 (IntKind.i64.wrap ((↑i.val : Int) + 1))],
 [KO.row 3 1 ((ints IntKind.i64 (kpA me (List.take i.val l) ++ List.drop (kpA me (List.take i.val l)).length l)).set (0 + (↑(kpA me (List.take i.val l)).length : Int).toNat) [D.val (Value.int IntKind.i64 n)]),KO.cells [V.ptr 2 0],
 KO.cells [V.int IntKind.i64 me,V.any a1,V.any a2,V.any a3,V.any a4,V.any a5,V.arr 128 C,V.any a7,V.any a8,V.any a9,V.any a10,V.dat (D.sl 1 M),V.dat (D.sl 1 J),V.any a13,V.any a14,V.any a15,V.any a16,V.any a17,V.any a18,V.any a19,V.any a20,V.any a21]])) ∧
 ((!n == me) = false →
 Nx (dlLI a1 a2 a3 a4 a5 a7 a8 a9 a10 a13 a14 a15 a16 a17 a18 a19 a20 a21 C M J me l) i
 ([V.sl 0 0 l.length,V.fn 55 [V.ptr 1 0],V.int IntKind.i64 (↑(kpA me (List.take i.val l)).length : Int),V.int IntKind.i64 (IntKind.i64.wrap ((↑i.val : Int) + 1))],
 [KO.row 3 1 (ints IntKind.i64 (kpA me (List.take i.val l) ++ List.drop (kpA me (List.take i.val l)).length l)),KO.cells [V.ptr 2 0],
 KO.cells [V.int IntKind.i64 me,V.any a1,V.any a2,V.any a3,V.any a4,V.any a5,V.arr 128 C,V.any a7,V.any a8,V.any a9,V.any a10,V.dat (D.sl 1 M),V.dat (D.sl 1 J),V.any a13,V.any a14,V.any a15,V.any a16,V.any a17,V.any a18,V.any a19,V.any a20,V.any a21]]))) ∧
 (decide ((↑i.val : Int) < (↑(l.length - 0) : Int)) = false →
 NonN (↑(kpA me (List.take i.val l)).length : Int) ∧
 True ∧
 (↑(kpA me (List.take i.val l)).length : Int).toNat ≤ l.length - 0 ∧
 l.length - 0 ≤ l.length - 0 ∧
 0 + (l.length - 0) ≤ (ints IntKind.i64 (kpA me (List.take i.val l) ++ List.drop (kpA me (List.take i.val l)).length l)).length ∧
 True ∧
 NonN (↑(kpA me (List.take i.val l)).length : Int) ∧
 0 ≤ (↑(kpA me (List.take i.val l)).length : Int).toNat ∧
 (↑(kpA me (List.take i.val l)).length : Int).toNat ≤ l.length - 0 ∧
 K (V.sl 0 0 (0 + (↑(kpA me (List.take i.val l)).length : Int).toNat))
 [KO.row 3 1 (splice (ints IntKind.i64 (kpA me (List.take i.val l) ++ List.drop (kpA me (List.take i.val l)).length l)) (0 + (↑(kpA me (List.take i.val l)).length : Int).toNat) (List.replicate (0 + (l.length - 0) - (0 + (↑(kpA me (List.take i.val l)).length : Int).toNat)) [D.val (Value.int IntKind.i64 0)])),KO.cells [V.ptr 2 0],
 KO.cells [V.int IntKind.i64 me,V.any a1,V.any a2,V.any a3,V.any a4,V.any a5,V.arr 128 C,V.any a7,V.any a8,V.any a9,V.any a10,V.dat (D.sl 1 M),V.dat (D.sl 1 J),V.any a13,V.any a14,V.any a15,V.any a16,V.any a17,V.any a18,V.any a19,V.any a20,V.any a21]]))
 ) : runSpec Try.prog XO1 (dlT a1 a2 a3 a4 a5 a7 a8 a9 a10 a13 a14 a15 a16 a17 a18 a19 a20 a21 C M J me l 53) 53 [.sl 0 0 l.length,.fn 55 [.ptr 1 0]] [.row 3 1 (ints .i64 l),.cells [.ptr 2 0],.cells [.int .i64 me,.any a1,.any a2,.any a3,.any a4,.any a5,.arr 128 C,.any a7,.any a8,.any a9,.any a10,.dat (.sl 1 M),.dat (.sl 1 J),.any a13,.any a14,.any a15,.any a16,.any a17,.any a18,.any a19,.any a20,.any a21]] K:=by apply Eq.mp (a:=hvc_); kernel_rfl
theorem vcOthers (a1 a2 a3 a4 a5 a7 a8 a9 a10 a13 a14 a15 a16 a17 a18 a19 a20 a21 : Value) (C : List D) (me : Int) (M J : List (List D)) (K : V→KB→Prop) (hvc_ :
 (2 ≤ 2∧True) ∧
 ∃ (Ls : List (List Int)),
 [[D.sl 1 M],[D.sl 1 J]] = lsA Ls ∧
 Len5 Ls.length ∧
 Len5 (flA Ls Ls.length).length ∧
 PlainS (ints IntKind.i64 (flA Ls Ls.length)).flatten ∧
 ∃ (l : List Int),
 ints IntKind.i64 (flA Ls Ls.length) = ints IntKind.i64 l ∧
 (flA Ls Ls.length).length = l.length ∧
 Len5 l.length∧K (V.sl 1 0 (kpA me l).length) [KO.cells [V.int IntKind.i64 me,V.any a1,V.any a2,V.any a3,V.any a4,V.any a5,V.arr 128 C,V.any a7,V.any a8,V.any a9,V.any a10,V.dat (D.sl 1 M),V.dat (D.sl 1 J),V.any a13,V.any a14,V.any a15,V.any a16,V.any a17,V.any a18,V.any a19,V.any a20,V.any a21],KO.row 3 1 (ints IntKind.i64 (kpZ me l))]
 ) : runSpec Try.prog XOt (noT 23) 23 [.ptr 0 0] [.cells [.int .i64 me,.any a1,.any a2,.any a3,.any a4,.any a5,.arr 128 C,.any a7,.any a8,.any a9,.any a10,.dat (.sl 1 M),.dat (.sl 1 J),.any a13,.any a14,.any a15,.any a16,.any a17,.any a18,.any a19,.any a20,.any a21]] (tidyRes 1 K):=by apply Eq.mp (a:=hvc_); kernel_rfl
theorem vcContN (A : List (List D)) (n : Nat) (M : ML) (K : V→KB→Prop) (hvc_ :
 ∃ (l : List Int),A = ints IntKind.i64 l∧n ≤ l.length∧Len5 l.length∧BoolM M∧K (V.sb (decide (fstI (isNot M) (List.take n l) ≥ 0))) [KO.row 3 1 (ints IntKind.i64 l),KO.cells [V.mp 2],KO.mp [IntKind.i64] false false 1 M]
 ) : runSpec Try.prog XO1 (noT 41) 41 [.sl 0 0 n,.fn 57 [.ptr 1 0]] [.row 3 1 (A),.cells [.mp 2],.mp [.i64] false false 1 M] K:=by apply Eq.mp (a:=hvc_); kernel_rfl
theorem vcContW (A : List (List D)) (K : V→KB→Prop) (hvc_ :
 ∃ (l : List Int),A = ints IntKind.i64 l∧Len5 l.length∧K (V.sb (decide (fstI isWrong l ≥ 0))) []
 ) : runSpec Try.prog XO1 (noT 41) 41 [.dat (.sl 1 A),.fn 40 []] [] K:=by apply Eq.mp (a:=hvc_); kernel_rfl
theorem fst_hit {p : Int→Bool} {l : List Int} {i : Nat} {n : Int} (h : ∀ j n,j < i→l[j]? = some n→p n = false) (hi : l[i]? = some n) (hp : p n = true) : fstI p l = (i : Int):=by
  obtain ⟨hl,he⟩:=List.getElem?_eq_some_iff.1 hi
  have : l.findIdx? p = some i:=List.findIdx?_eq_some_iff_getElem.2 ⟨hl,by rw [he]; exact hp,fun j hj => by
    rw [h j l[j] hj (List.getElem?_eq_getElem _)]; simp⟩
  unfold fstI; rw [this]
theorem fst_none {p : Int→Bool} {l : List Int} (h : ∀ j n,j < l.length→l[j]? = some n→p n = false) : fstI p l = -1:=by
  have : l.findIdx? p = none:=List.findIdx?_eq_none_iff.2 fun x hx => by
    obtain ⟨j,hj,rfl⟩:=List.getElem_of_mem hx
    exact h j _ hj (List.getElem?_eq_getElem _)
  unfold fstI; rw [this]
theorem fst_cases (p : Int→Bool) (l : List Int) : (fstI p l = -1∧∀ n ∈ l,p n = false)∨∃ (i : Nat) (n : Int),fstI p l = i∧l[i]? = some n∧p n = true∧∀ j n,j < i→l[j]? = some n→p n = false:=by
  unfold fstI
  cases h : l.findIdx? p with
  | none => exact .inl ⟨rfl,List.findIdx?_eq_none_iff.1 h⟩
  | some i =>
    obtain ⟨h1,h2,h3⟩:=List.findIdx?_eq_some_iff_getElem.1 h
    refine .inr ⟨i,l[i],rfl,List.getElem?_eq_getElem _,h2,fun j n hj hn => ?_⟩
    obtain ⟨hl,he⟩:=List.getElem?_eq_some_iff.1 hn
    have:=h3 j hj
    rw [he] at this
    simpa using this
theorem any_fst (p : Int→Bool) (l : List Int) : decide (fstI p l ≥ 0) = l.any p:=by
  rcases fst_cases p l with ⟨h1,h2⟩ | ⟨i,n,h1,h2,h3,_⟩
  · rw [h1,List.any_eq_false.2 (fun x hx => by rw [h2 x hx]; simp)]; rfl
  · rw [h1,List.any_eq_true.2 ⟨n,List.mem_of_getElem? h2,h3⟩]
    simp
theorem gwS_ok : AllOk Try.prog gwS:=fun f k h => by
  unfold gwS at h
  split at h <;> first | (cases h; exact okGrow) | cases h
theorem XGw_ok : CallOk Try.prog XGw:=callS_ok mixed gwS_ok noT 10
theorem flA_s {Ls : List (List Int)} {i : Nat} (h : i < Ls.length) : flA Ls (i + 1) = flA Ls i ++ Ls[i]:=by
  unfold flA
  rw [List.take_add_one,List.getElem?_eq_getElem h,List.flatten_append]
  simp only [Option.toList_some,List.flatten_cons,List.flatten_nil,List.append_nil]
theorem flA_le {Ls : List (List Int)} {i : Nat} (h : i ≤ Ls.length) : (flA Ls i).length ≤ (flA Ls Ls.length).length:=by
  unfold flA
  rw [List.take_length]
  conv => rhs; rw [← List.take_append_drop i Ls]
  rw [List.flatten_append,List.length_append]
  omega
theorem lsA_get {Ls : List (List Int)} {i : Nat} (h : i < Ls.length) : (lsA Ls)[(i : Int).toNat]? = some [D.sl 1 (ints .i64 Ls[i])]:=by
  rw [Int.toNat_natCast]; unfold lsA; rw [List.getElem?_map,List.getElem?_eq_getElem h]; rfl
theorem lsA_len {Ls : List (List Int)} : (lsA Ls).length = Ls.length:=by unfold lsA; rw [List.length_map]
theorem okConcat : SpecOk Try.prog 54 Sconcat:=specOk_of' XGw_ok mixed (fun args kb K h => by
  unfold Sconcat at h; split at h <;> try exact h.elim
  obtain ⟨Ls,rfl,⟨hl0⟩,⟨hl⟩,h⟩:=h
  refine ⟨ccT Ls 54,vcConcat Ls K ⟨?_,?_⟩⟩
  · rw [lsA_len]
    exact At.mk' ⟨0,Nat.zero_le _⟩ rfl
  rintro ⟨i,hi⟩
  simp only [decide_eq_true_eq,decide_eq_false_iff_not]
  have hle:=flA_le hi
  refine ⟨fun hc => ?_,fun hc => ?_⟩
  · have hi2 : i < Ls.length:=by omega
    have hs:=flA_s hi2
    have hle2:=flA_le (show i + 1 ≤ Ls.length by omega)
    have hsl:=congrArg List.length hs
    rw [List.length_append] at hsl
    refine ⟨by unfold NonN; omega,_,lsA_get hi2,_,rfl,?_⟩
    rw [ints_len,w64 (by omega) (by omega),w64 (by omega) (by omega)]
    refine ⟨fun f => by omega,fun _ => ?_⟩
    refine Nx.mk' (⟨i + 1,by omega⟩ : {i : Nat // i ≤ Ls.length}) ?_ (by show Ls.length - (i + 1) < Ls.length - i; omega)
    show (_ : List V × KB) = _
    have e : ((flA Ls i).length : Int) + (Ls[i].length : Int) = ((flA Ls (i + 1)).length : Int):=by omega
    rw [e]; rfl
  have : i = Ls.length:=by omega
  subst this
  refine ⟨by omega,by omega,?_,?_⟩
  · rw [lsA_len]
    exact At.mk' ⟨0,Nat.zero_le _⟩ rfl
  rintro ⟨i,hi⟩
  have hle:=flA_le hi
  dsimp only
  refine ⟨fun hc => ?_,fun hc => ?_⟩
  · have hi2 : i < Ls.length:=by omega
    have hs:=flA_s hi2
    have hle2:=flA_le (show i + 1 ≤ Ls.length by omega)
    have hsl:=congrArg List.length hs
    rw [List.length_append] at hsl
    refine ⟨by unfold NonN; omega,_,lsA_get hi2,_,rfl,trivial,by rw [ints_len]; omega,by rw [ints_len]; omega,?_⟩
    rw [ints_len,w64 (by omega) (by omega)]
    refine Nx.mk' (⟨i + 1,by omega⟩ : {i : Nat // i ≤ Ls.length}) ?_ (by show Ls.length - (i + 1) < Ls.length - i; omega)
    show (_ : List V × KB) = _
    rw [ints_take,List.take_length,← ints_app,← hs,← hsl]; rfl
  · have : i = Ls.length:=by omega
    subst this
    exact h)
theorem X0i_take {l : List Int} {n i : Nat} {m : Int} (h : (l.take n)[i]? = some m) : (ints .i64 l)[0 + (i : Int).toNat]? = some [D.val (.int .i64 m)]∧i < n:=by
  obtain ⟨hl,he⟩:=List.getElem?_eq_some_iff.1 h
  rw [List.length_take] at hl
  have : i < n:=by omega
  rw [List.getElem?_take_of_lt this] at h
  rw [Nat.zero_add,Int.toNat_natCast,ints_get,h]
  exact ⟨rfl,this⟩
theorem okIdx : SpecOk Try.prog 66 Sidx:=specOk_of' X0_ok mixed (fun args kb K h => by
  unfold Sidx at h; split at h <;> try exact h.elim
  · rename_i n A me a1 a2 a3 a4 a5 C a7 a8 a9 a10 MM JJ a13 a14 a15 a16 a17 a18 a19 a20 a21
    obtain ⟨l,rfl,hn,⟨hl⟩,h⟩:=h
    have hlen : (l.take n).length = n:=by rw [List.length_take]; omega
    refine ⟨_,vcIdxMe _ _ _ _ _ _ _ _ _ _ _ _ _ _ _ _ _ _ _ _ _ (isMe me) l (l.take n) n me K ⟨?_,?_⟩⟩
    · rw [Nat.sub_zero]
      refine At.mk' ⟨0,Nat.zero_le _,fun j _ hj => absurd hj (Nat.not_lt_zero _)⟩ ?_
      show (_ : List V × KB) = _
      simp only [hlen]; rfl
    rintro ⟨i,hi,hp⟩
    simp only [decide_eq_true_eq,decide_eq_false_iff_not,hlen] at hi ⊢
    refine ⟨fun hc => ?_,fun hc => ?_⟩
    · have hil : i < (l.take n).length:=by omega
      have hg:=List.getElem?_eq_getElem hil
      obtain ⟨g1,g2⟩:=X0i_take hg
      refine ⟨by unfold InB; omega,_,g1,_,rfl,fun h1 => ?_,fun h1 => ?_⟩
      · rw [fst_hit hp hg h1] at h; exact h
      · rw [w64 (by omega) (by omega)]
        refine Nx.mk' (⟨i + 1,by omega,fun j m hj hm => ?_⟩ : {i : Nat // i ≤ (l.take n).length∧∀ j n',j < i→(l.take n)[j]? = some n'→isMe me n' = false}) ?_ (by show (l.take n).length - (i + 1) < (l.take n).length - i; omega)
        · by_cases hji : j = i
          · subst hji; rw [hg] at hm; cases hm; exact h1
          · exact hp j m (by omega) hm
        · show (_ : List V × KB) = _
          simp only [hlen]; rfl
    · rw [fst_none (fun j m hj hm => hp j m (by omega) hm)] at h; exact h
  · rename_i n A M
    obtain ⟨l,rfl,hn,⟨hl⟩,hM,h⟩:=h
    have hlen : (l.take n).length = n:=by rw [List.length_take]; omega
    refine ⟨_,vcIdxNot (isNot M) l (l.take n) n M K ⟨?_,?_⟩⟩
    · rw [Nat.sub_zero]
      refine At.mk' ⟨0,Nat.zero_le _,fun j _ hj => absurd hj (Nat.not_lt_zero _)⟩ ?_
      show (_ : List V × KB) = _
      simp only [hlen]; rfl
    rintro ⟨i,hi,hp⟩
    simp only [decide_eq_true_eq,decide_eq_false_iff_not,hlen] at hi ⊢
    refine ⟨fun hc => ?_,fun hc => ?_⟩
    · have hil : i < (l.take n).length:=by omega
      have hg:=List.getElem?_eq_getElem hil
      obtain ⟨g1,g2⟩:=X0i_take hg
      refine ⟨by unfold InB; omega,_,g1,_,rfl,fun cs hcs => ?_,fun h1 => ?_,fun h1 => ?_⟩
      · obtain ⟨b,rfl⟩:=hM.h _ _ hcs
        exact ⟨_,_,rfl,rfl⟩
      · rw [fst_hit hp hg h1] at h; exact h
      · rw [w64 (by omega) (by omega)]
        refine Nx.mk' (⟨i + 1,by omega,fun j m hj hm => ?_⟩ : {i : Nat // i ≤ (l.take n).length∧∀ j n',j < i→(l.take n)[j]? = some n'→isNot M n' = false}) ?_ (by show (l.take n).length - (i + 1) < (l.take n).length - i; omega)
        · by_cases hji : j = i
          · subst hji; rw [hg] at hm; cases hm; exact h1
          · exact hp j m (by omega) hm
        · show (_ : List V × KB) = _
          simp only [hlen]; rfl
    · rw [fst_none (fun j m hj hm => hp j m (by omega) hm)] at h; exact h
  · rename_i A
    obtain ⟨l,rfl,⟨hl⟩,h⟩:=h
    refine ⟨_,vcIdxWr isWrong l K ⟨?_,?_⟩⟩
    · rw [ints_len]
      exact At.mk' ⟨0,Nat.zero_le _,fun j _ hj => absurd hj (Nat.not_lt_zero _)⟩ rfl
    rintro ⟨i,hi,hp⟩
    simp only [decide_eq_true_eq,decide_eq_false_iff_not] at hi ⊢
    refine ⟨fun hc => ?_,fun hc => ?_⟩
    · have hil : i < l.length:=by omega
      have hg:=List.getElem?_eq_getElem hil
      refine ⟨by unfold NonN; omega,[D.val (.int .i64 l[i])],by rw [Int.toNat_natCast,ints_get,hg]; rfl,_,rfl,fun h1 => ?_,fun h1 => ⟨fun h2 => ?_,fun h2 => ?_⟩⟩
      · rw [fst_hit hp hg (by unfold isWrong; simp; omega)] at h; exact h
      · rw [fst_hit hp hg (by unfold isWrong; simp; omega)] at h; exact h
      · rw [w64 (by omega) (by omega)]
        refine Nx.mk' (⟨i + 1,by omega,fun j m hj hm => ?_⟩ : {i : Nat // i ≤ l.length∧∀ j n',j < i→l[j]? = some n'→isWrong n' = false}) rfl (by show l.length - (i + 1) < l.length - i; omega)
        by_cases hji : j = i
        · subst hji; rw [hg] at hm; cases hm; unfold isWrong; simp; omega
        · exact hp j m (by omega) hm
    · rw [fst_none (fun j m hj hm => hp j m (by omega) hm)] at h; exact h)
theorem kpA_s {me : Int} {l : List Int} {j : Nat} {n : Int} (h : l[j]? = some n) : kpA me (l.take (j + 1)) = kpA me (l.take j) ++ if n = me then [] else [n]:=by
  unfold kpA
  rw [List.take_add_one,h,List.filter_append]
  congr 1
  by_cases hn : n = me <;> simp [hn]
theorem kpA_all {me : Int} {l : List Int} (h : ∀ n ∈ l,isMe me n = false) : kpA me l = l:=List.filter_eq_self.2 fun n hn => by have:=h n hn; unfold isMe at this; rw [this]; rfl
theorem kpA_len (me : Int) (l : List Int) : (kpA me l).length ≤ l.length:=List.length_filter_le ..
theorem row_at {l k : List Int} {j : Nat} {n : Int} (h : l[j]? = some n) (hk : k.length ≤ j) : (k ++ l.drop k.length)[j]? = some n:=by
  rw [List.getElem?_append_right hk,List.getElem?_drop,show k.length + (j - k.length) = j by omega,h]
theorem row_set {l k : List Int} {n : Int} (h : k.length < l.length) : (k ++ l.drop k.length).set k.length n = (k ++ [n]) ++ l.drop (k ++ [n]).length:=by
  rw [List.set_append_right _ _ (Nat.le_refl _),Nat.sub_self,List.append_assoc]
  congr 1
  rw [List.drop_eq_getElem_cons h,List.set_cons_zero,List.length_append,List.length_singleton]; rfl
theorem row_end {l k : List Int} (h : k.length ≤ l.length) : splice (ints .i64 (k ++ l.drop k.length)) k.length (List.replicate (l.length - k.length) [D.val (.int .i64 0)]) = ints .i64 (k ++ List.replicate (l.length - k.length) 0):=by
  unfold splice
  rw [List.length_replicate,ints_take,List.take_left,ints_drop,show k.length + (l.length - k.length) = (k ++ l.drop k.length).length by rw [List.length_append,List.length_drop],List.drop_length,ints_app,ints_rep]
  simp [ints]
theorem ot1S_ok : AllOk Try.prog ot1S:=fun f k h => by
  unfold ot1S at h
  split at h <;> first | (cases h; first | exact okConcat | exact okIdx) | cases h
theorem XO1_ok : CallOk Try.prog XO1:=callS_ok mixed ot1S_ok noT 10
theorem okDel : SpecOk Try.prog 53 Sdel:=specOk_of' XO1_ok mixed (fun args kb K h => by
  unfold Sdel at h; split at h <;> try exact h.elim
  rename_i n A me a1 a2 a3 a4 a5 C a7 a8 a9 a10 M J a13 a14 a15 a16 a17 a18 a19 a20 a21
  obtain ⟨l,rfl,rfl,⟨hl⟩,h⟩:=h
  refine ⟨_,vcDel _ _ _ _ _ _ _ _ _ _ _ _ _ _ _ _ _ _ _ M J l me K ⟨l,rfl,Nat.le_refl _,⟨hl⟩,?_,?_⟩⟩
  all_goals rw [List.take_length]
  · intro hf
    have hf : fstI (isMe me) l = -1:=by simpa using hf
    rcases fst_cases (isMe me) l with ⟨_,h2⟩ | ⟨i,n,h1,_⟩
    · have e:=kpA_all h2
      unfold kpZ at h
      rw [e,Nat.sub_self] at h
      simpa using h
    · omega
  · intro hf
    have hf : ¬ fstI (isMe me) l = -1:=by simpa using hf
    rcases fst_cases (isMe me) l with ⟨h1,_⟩ | ⟨i,n,h1,h2,h3,h4⟩
    · exact absurd h1 hf
    have hil : i < l.length:=(List.getElem?_eq_some_iff.1 h2).1
    have hn : n = me:=by simpa [isMe] using h3
    have ek : kpA me (l.take i) = l.take i:=kpA_all fun m hm => by
      obtain ⟨j,hj,rfl⟩:=List.getElem_of_mem hm
      rw [List.length_take] at hj
      exact h4 j _ (by omega) (by rw [List.getElem_take,List.getElem?_eq_getElem])
    have ek1 : kpA me (l.take (i + 1)) = l.take i:=by rw [kpA_s h2,ek,if_pos hn,List.append_nil]
    have el : (l.take i).length = i:=by rw [List.length_take]; omega
    refine ⟨?_,?_⟩
    · refine At.mk' ⟨i + 1,by omega,by rw [ek1,el]; omega⟩ ?_
      show (_ : List V × KB) = _
      dsimp only
      rw [ek1,el,List.take_append_drop,h1,w64 (by omega) (by omega)]; rfl
    rintro ⟨j,hj,hk⟩
    dsimp only
    have hks:=kpA_len me (l.take j)
    simp only [decide_eq_true_eq,decide_eq_false_iff_not,Nat.sub_zero,Nat.zero_add,Int.toNat_natCast]
    refine ⟨fun hc => ?_,fun hc => ?_⟩
    · have hjl : j < l.length:=by omega
      have hg:=List.getElem?_eq_getElem hjl
      have hs:=kpA_s (me:=me) hg
      refine ⟨by unfold InB; omega,[D.val (.int .i64 l[j])],by rw [ints_get,row_at hg (by omega)]; rfl,_,rfl,fun h5 => ?_,fun h5 => ?_⟩
      · have h5 : ¬ l[j] = me:=by simpa using h5
        rw [if_neg h5] at hs
        refine ⟨by unfold InB; omega,by rw [ints_len,List.length_append,List.length_drop]; omega,?_⟩
        rw [w64 (by omega) (by omega),w64 (by omega) (by omega)]
        refine Nx.mk' (⟨j + 1,by omega,by rw [hs,List.length_append,List.length_singleton]; omega⟩ : {j : Nat // j ≤ l.length∧(kpA me (l.take j)).length < j}) ?_ (by show l.length - (j + 1) < l.length - j; omega)
        show (_ : List V × KB) = _
        dsimp only
        rw [ints_set,row_set (by omega),← hs]
        have : ((kpA me (l.take j)).length : Int) + 1 = ((kpA me (l.take (j + 1))).length : Int):=by rw [hs,List.length_append,List.length_singleton]; omega
        rw [this]; rfl
      · have h5 : l[j] = me:=by simpa using h5
        rw [if_pos h5,List.append_nil] at hs
        rw [w64 (by omega) (by omega)]
        refine Nx.mk' (⟨j + 1,by omega,by rw [hs]; omega⟩ : {j : Nat // j ≤ l.length∧(kpA me (l.take j)).length < j}) ?_ (by show l.length - (j + 1) < l.length - j; omega)
        show (_ : List V × KB) = _
        dsimp only
        rw [hs]; rfl
    · have : j = l.length:=by omega
      subst this
      rw [List.take_length] at hks hk ⊢
      refine ⟨by unfold NonN; omega,trivial,by omega,by omega,by rw [ints_len,List.length_append,List.length_drop]; omega,trivial,by unfold NonN; omega,by omega,by omega,?_⟩
      rw [row_end (kpA_len _ _)]
      exact h)
theorem otS_ok : AllOk Try.prog otS:=fun f k h => by
  unfold otS at h
  split at h
  · cases h; exact okDel
  · exact ot1S_ok _ _ h
theorem XOt_ok : CallOk Try.prog XOt:=callS_ok mixed otS_ok noT 10
theorem okContF : SpecOk Try.prog 41 ScontF:=specOk_of' XO1_ok mixed (fun args kb K h => by
  unfold ScontF at h; split at h <;> try exact h.elim
  · rename_i n A M
    obtain ⟨l,rfl,hn,hl,hM,h⟩:=h
    refine ⟨_,vcContN _ n M K ⟨l,rfl,hn,hl,hM,?_⟩⟩
    rw [any_fst]; exact h
  · rename_i A
    obtain ⟨l,rfl,hl,h⟩:=h
    refine ⟨_,vcContW _ K ⟨l,rfl,hl,?_⟩⟩
    rw [any_fst]; exact h)
theorem okOthers : SpecOk Try.prog 23 Sothers:=specOk_tidy XOt_ok mixed (fun args kb K h => by
  unfold Sothers at h; split at h <;> try exact h.elim
  rename_i me a1 a2 a3 a4 a5 C a7 a8 a9 a10 M J a13 a14 a15 a16 a17 a18 a19 a20 a21
  obtain ⟨m,j,rfl,rfl,⟨hl⟩,h⟩:=h
  have e : flA [m,j] [m,j].length = m ++ j:=by unfold flA; simp
  refine ⟨_,vcOthers _ _ _ _ _ _ _ _ _ _ _ _ _ _ _ _ _ _ _ me _ _ K ⟨⟨Nat.le_refl _,trivial⟩,[m,j],rfl,⟨by show 2 ≤ 100000; omega⟩,⟨by rw [e,List.length_append]; exact hl⟩,?_⟩⟩
  rw [e]
  refine ⟨⟨plain_ints⟩,m ++ j,rfl,rfl,⟨by rw [List.length_append]; exact hl⟩,h⟩)
end Go.Proofs.Ytfcjngcnifdmnaa
namespace Go.Proofs.Ytfcjngcnifdmnaa
open Vc Go
set_option linter.unusedVariables false
set_option linter.unusedSimpArgs false
set_option maxRecDepth 100000
structure Op where
  cl : Int
  nm : Int
  kd : Int
  bk : Int
  b : List Int
def opD (o : Op) : List D:=[dn .i64 o.cl,dn .i64 o.nm,dn .i64 o.kd,dn .i64 o.bk,.sl 1 (ints .u8 o.b)]
def pst (to kind id ep : Int) (N B L : List (List D)) : List D:=[dn .i64 to,dn .i64 kind,.sl 1 ([[dn .i64 id],[dn .i64 ep]] ++ N),.sl 1 B,.sl 1 L]
def dnE (o : Op) (e : Int) (X : List (List D)) : List D:=[dn .i64 o.cl,dn .i64 o.nm,dn .i64 o.kd,dn .i64 o.bk,.sl 1 (ints .u8 o.b),dn .i64 e,.sl 1 X]
def yl : Option Op→List (List D)
  | none => []
  | some p => [dnE p 19 []]
structure LenR (n : Nat) : Prop where
  h : n ≤ 1000000
def Ssend : FSpec:=fun args kb K => match args,kb with
  | [.ptr 0 0,.int .i64 to,.int .i64 kind,.dat (.sl 1 N),.dat (.sl 1 B),.dat (.sl 1 L)],[.cells [.any a0,.int .i64 id,.any a2,.any a3,.int .i64 ep,.any a5,.arr 128 C,.any a7,.any a8,.any a9,.any a10,.any a11,.any a12,.any a13,.any a14,.any a15,.any a16,.any a17,.any a18,.any a19,.sl 1 0 n,.any a21],.row 76 5 (A)] => n = A.length∧LenR n∧LenR N.length∧K (.tup []) [.cells [.any a0,.int .i64 id,.any a2,.any a3,.int .i64 ep,.any a5,.arr 128 C,.any a7,.any a8,.any a9,.any a10,.any a11,.any a12,.any a13,.any a14,.any a15,.any a16,.any a17,.any a18,.any a19,.sl 2 0 (n + 1),.any a21],.dead,.row 76 5 (A ++ [pst to kind id ep N B L])]
  | _,_ => False
def Syield : FSpec:=fun args kb K => match args,kb with
  | [.ptr 0 0],[.cells [.any a0,.any a1,.any a2,.any a3,.any a4,.any a5,.arr 128 C,.any a7,.any a8,.any a9,.any a10,.any a11,.any a12,.sb ld,.any a14,.any a15,.ipo o,.any a17,.any a18,.any a19,.any a20,.sl 1 0 n],.row 46 7 (A)] => n = A.length∧LenR n∧∃ q,o = Option.map opD q∧K (.tup []) [.cells [.any a0,.any a1,.any a2,.any a3,.any a4,.any a5,.arr 128 C,.any a7,.any a8,.any a9,.any a10,.any a11,.any a12,.sb false,.any a14,.any a15,.ipo none,.any a17,.any a18,.any a19,.any a20,.sl 2 0 (A ++ yl q).length],.dead,.row 46 7 (A ++ yl q)]
  | _,_ => False
def snS : FuncId→Option Known
  | 56 => some ⟨[.asis,.asis,.asis,.give 1,.give 1,.give 1],hideIn [true,false,true,true,false,true,false,true,true,true,true,true,true,true,true,true,true,true,true,true,false,true] Ssend⟩
  | 50 => some ⟨[],hideIn [true,true,true,true,true,true,false,true,true,true,true,true,true,true,true,true,true,true,true,true,true,true] Sbytes⟩
  | 34 => some ⟨[],hideIn [true,true,true,true,true,true,false,true,true,true,true,true,true,true,true,true,true,true,true,true,true,true] Scsum⟩
  | 51 => some ⟨[],hideIn [true,true,true,true,true,true,false,false,true,true,true,true,true,true,true,true,true,true,true,true,true,true] StBytesR⟩
  | _ => none
noncomputable def XSn : CallT:=callS Try.prog snS noT 10
def Snack : FSpec:=fun args kb K => match args,kb with
  | [.ptr 0 0,.int .i64 to],[.cells [.any a0,.int .i64 id,.any a2,.any a3,.int .i64 ep,.int .i64 nu,.arr 128 C,.any a7,.any a8,.any a9,.any a10,.any a11,.any a12,.any a13,.any a14,.any a15,.any a16,.any a17,.any a18,.any a19,.sl 1 0 n,.any a21],.row 76 5 (A)] => n = A.length∧LenR n∧K (.tup []) [.cells [.any a0,.int .i64 id,.any a2,.any a3,.int .i64 ep,.int .i64 nu,.arr 128 C,.any a7,.any a8,.any a9,.any a10,.any a11,.any a12,.any a13,.any a14,.any a15,.any a16,.any a17,.any a18,.any a19,.sl 2 0 (n + 1),.any a21],.dead,.row 76 5 (A ++ [pst to 14 id ep [[dn .i64 nu]] [] []])]
  | _,_ => False
structure Cnt (C : List D) (c : List Int) : Prop where
  e : C = dns .u8 c
  l : c.length = 128
  b : Byt c
def stP (to id ep nu : Int) (c : List Int) (x : List L3) : List D:=pst to 10 id ep [[dn .i64 nu]] (ints .u8 (sealI c)) [[.sl 1 (ints .u8 (tabW x))]]
def Sstate : FSpec:=fun args kb K => match args,kb with
  | [.ptr 0 0,.int .i64 to],[.cells [.any a0,.int .i64 id,.any a2,.any a3,.int .i64 ep,.int .i64 nu,.arr 128 C,.imp [.i64] false true 2 M,.any a8,.any a9,.any a10,.any a11,.any a12,.any a13,.any a14,.any a15,.any a16,.any a17,.any a18,.any a19,.sl 1 0 n,.any a21],.row 76 5 (A)] => n = A.length∧LenR n∧∃ c x,Cnt C c∧Tab M x∧K (.tup []) [.cells [.any a0,.int .i64 id,.any a2,.any a3,.int .i64 ep,.int .i64 nu,.arr 128 (dns .u8 c),tbV M,.any a8,.any a9,.any a10,.any a11,.any a12,.any a13,.any a14,.any a15,.any a16,.any a17,.any a18,.any a19,.sl 2 0 (n + 1),.any a21],.dead,.row 76 5 (A ++ [stP to id ep nu c x])]
  | _,_ => False
def haP (to id ep nu : Int) (c : List Int) (o : Op) : List D:=pst to 12 id ep [[dn .i64 nu],[dn .i64 o.cl],[dn .i64 o.nm],[dn .i64 o.kd],[dn .i64 o.bk],[dn .i64 (crcI c)]] (ints .u8 o.b) []
def Shand : FSpec:=fun args kb K => match args,kb with
  | [.ptr 0 0,.int .i64 to],[.cells [.any a0,.int .i64 id,.any a2,.any a3,.int .i64 ep,.int .i64 nu,.arr 128 C,.any a7,.any a8,.any a9,.any a10,.any a11,.any a12,.any a13,.any a14,.any a15,.ipo o,.any a17,.any a18,.any a19,.sl 1 0 n,.any a21],.row 76 5 (A)] => n = A.length∧LenR n∧∃ c p,Cnt C c∧o = some (opD p)∧K (.tup []) [.cells [.any a0,.int .i64 id,.any a2,.any a3,.int .i64 ep,.int .i64 nu,.arr 128 (dns .u8 c),.any a7,.any a8,.any a9,.any a10,.any a11,.any a12,.any a13,.any a14,.any a15,.ipo o,.any a17,.any a18,.any a19,.sl 2 0 (n + 1),.any a21],.dead,.row 76 5 (A ++ [haP to id ep nu c p])]
  | _,_ => False
theorem vcSend (a0 a2 a3 a5 a7 a8 a9 a10 a11 a12 a13 a14 a15 a16 a17 a18 a19 a21 : Value) (C : List D) (to kind id ep : Int) (N B L : List (List D)) (n : Nat) (A : List (List D)) (K : V→KB→Prop) (hvc_ :
 let z2_:=[[D.val (Value.int IntKind.i64 id)],[D.val (Value.int IntKind.i64 ep)]]; let z1_ : KB:=[KO.cells [V.any a0,V.int IntKind.i64 id,V.any a2,V.any a3,V.int IntKind.i64 ep,V.any a5,V.arr 128 C,V.any a7,V.any a8,V.any a9,V.any a10,V.any a11,V.any a12,V.any a13,V.any a14,V.any a15,V.any a16,V.any a17,V.any a18,V.any a19,V.sl 2 0 (n + 1),V.any a21],KO.dead,KO.row 76 5 (List.take n A ++ [[D.val (Value.int IntKind.i64 to),D.val (Value.int IntKind.i64 kind),D.sl 1 (List.drop 0 (List.take (2 + N.length) (z2_ ++ N))),D.sl 1 B,D.sl 1 L]])]; (True ∧
 2 ≤ 2 ∧
 (2 + N.length) * 8 ≤ 140737488355328 ∧
 2 + N.length ≤ (z2_ ++ N).length ∧
 1 ≤ 1 ∧
 n ≤ A.length ∧
 (n + 1) * 88 ≤ 140737488355328 ∧
 K (V.tup []) z1_) ∧
 (True ∧
 2 ≤ 2 ∧
 (2 + N.length) * 8 ≤ 140737488355328 ∧
 2 + N.length ≤ (z2_ ++ N).length ∧
 1 ≤ 1 ∧
 n ≤ A.length ∧
 (n + 1) * 88 ≤ 140737488355328 ∧
 K (V.tup []) z1_) ∧
 True ∧
 2 ≤ 2 ∧
 (2 + N.length) * 8 ≤ 140737488355328 ∧
 (2 + N.length ≤ (z2_ ++ N).length ∧
 1 ≤ 1 ∧
 n ≤ A.length ∧
 (n + 1) * 88 ≤ 140737488355328 ∧
 K (V.tup []) z1_) ∧
 2 + N.length ≤ (z2_ ++ N).length ∧
 1 ≤ 1 ∧
 n ≤ A.length ∧
 (n + 1) * 88 ≤ 140737488355328 ∧
 K (V.tup []) z1_
 ) : runSpec Try.prog X0 (noT 56) 56 [.ptr 0 0,.int .i64 to,.int .i64 kind,.dat (.sl 1 N),.dat (.sl 1 B),.dat (.sl 1 L)] [.cells [.any a0,.int .i64 id,.any a2,.any a3,.int .i64 ep,.any a5,.arr 128 C,.any a7,.any a8,.any a9,.any a10,.any a11,.any a12,.any a13,.any a14,.any a15,.any a16,.any a17,.any a18,.any a19,.sl 1 0 n,.any a21],.row 76 5 (A)] (tidyRes 2 K):=by apply Eq.mp (a:=hvc_); kernel_rfl
theorem vcYield (a0 a1 a2 a3 a4 a5 a7 a8 a9 a10 a11 a12 a14 a15 a17 a18 a19 a20 : Value) (C : List D) (ld : Bool) (o : Option (List D)) (n : Nat) (A : List (List D)) (K : V→KB→Prop) (hvc_ :
 let z1_:=KO.cells [V.any a0,V.any a1,V.any a2,V.any a3,V.any a4,V.any a5,V.arr 128 C,V.any a7,V.any a8,V.any a9,V.any a10,V.any a11,V.any a12,V.sb false,V.any a14,V.any a15,V.ipo none,V.any a17,V.any a18,V.any a19,V.any a20,V.sl 2 0 (n + 1)]; ((!o.isNone) = true →
 ∃ (y1 : List D),o = some y1 ∧
 ∃ (y2 : Int),y1[0]? = some (D.val (Value.int IntKind.i64 y2)) ∧
 ∃ (y3 : Int),y1[1]? = some (D.val (Value.int IntKind.i64 y3)) ∧
 ∃ (y4 : Int),y1[2]? = some (D.val (Value.int IntKind.i64 y4)) ∧
 ∃ (y5 : Int),y1[3]? = some (D.val (Value.int IntKind.i64 y5)) ∧
 ∃ (y6 : List (List D)),y1[4]? = some (D.sl 1 y6) ∧
 (1 ≤ 1 ∧
 n ≤ A.length ∧
 (n + 1) * 88 ≤ 140737488355328 ∧
 K (V.tup []) [z1_,KO.dead,KO.row 46 7 (List.take n A ++ [[D.val (Value.int IntKind.i64 y2),D.val (Value.int IntKind.i64 y3),D.val (Value.int IntKind.i64 y4),D.val (Value.int IntKind.i64 y5),D.sl 1 y6,D.val (Value.int IntKind.i64 19),D.sl 1 []]])]) ∧
 1 ≤ 1 ∧
 n ≤ A.length ∧
 (n + 1) * 88 ≤ 140737488355328 ∧
 K (V.tup []) [z1_,KO.dead,KO.row 46 7 (List.take n A ++ [[D.val (Value.int IntKind.i64 y2),D.val (Value.int IntKind.i64 y3),D.val (Value.int IntKind.i64 y4),D.val (Value.int IntKind.i64 y5),D.sl 1 y6,D.val (Value.int IntKind.i64 19),D.sl 1 []]])]) ∧
 ((!o.isNone) = false →
 K (V.tup []) [KO.cells [V.any a0,V.any a1,V.any a2,V.any a3,V.any a4,V.any a5,V.arr 128 C,V.any a7,V.any a8,V.any a9,V.any a10,V.any a11,V.any a12,V.sb false,V.any a14,V.any a15,V.ipo o,V.any a17,V.any a18,V.any a19,V.any a20,V.sl 2 0 n],KO.dead,KO.row 46 7 A])
 ) : runSpec Try.prog X0 (noT 21) 21 [.ptr 0 0] [.cells [.any a0,.any a1,.any a2,.any a3,.any a4,.any a5,.arr 128 C,.any a7,.any a8,.any a9,.any a10,.any a11,.any a12,.sb ld,.any a14,.any a15,.ipo o,.any a17,.any a18,.any a19,.any a20,.sl 1 0 n],.row 46 7 (A)] (nilRes [.ipoC 0 143,.mv 0 148] (tidyRes 2 K)):=by apply Eq.mp (a:=hvc_); kernel_rfl
theorem vcNack (a0 a2 a3 a7 a8 a9 a10 a11 a12 a13 a14 a15 a16 a17 a18 a19 a21 : Value) (C : List D) (to id ep nu : Int) (n : Nat) (A : List (List D)) (K : V→KB→Prop) (hvc_ :
 1 ≤ 1 ∧
 ∀ (y1 : Nat →
 Value),n = A.length ∧
 LenR n ∧
 LenR 1 ∧
 SmF y1 [0,2,3,5,7,8,9,10,11,12,13,14,15,16,17,18,19,21] ∧
 K (V.tup []) [KO.cells [V.any a0,V.int IntKind.i64 id,V.any a2,V.any a3,V.int IntKind.i64 ep,V.int IntKind.i64 nu,V.arr 128 C,V.any a7,V.any a8,V.any a9,V.any a10,V.any a11,V.any a12,V.any a13,V.any a14,V.any a15,V.any a16,V.any a17,V.any a18,V.any a19,V.sl 2 0 (n + 1),V.any a21],KO.dead,KO.row 76 5 (A ++ [[dn IntKind.i64 to,D.val (Value.int IntKind.i64 14),D.sl 1 [[dn IntKind.i64 id],[dn IntKind.i64 ep],[D.val (Value.int IntKind.i64 nu)]],D.sl 1 [],D.sl 1 []]])]
 ) : runSpec Try.prog XSn (noT 65) 65 [.ptr 0 0,.int .i64 to] [.cells [.any a0,.int .i64 id,.any a2,.any a3,.int .i64 ep,.int .i64 nu,.arr 128 C,.any a7,.any a8,.any a9,.any a10,.any a11,.any a12,.any a13,.any a14,.any a15,.any a16,.any a17,.any a18,.any a19,.sl 1 0 n,.any a21],.row 76 5 (A)] (tidyRes 2 K):=by apply Eq.mp (a:=hvc_); kernel_rfl
theorem vcState (a0 a2 a3 a8 a9 a10 a11 a12 a13 a14 a15 a16 a17 a18 a19 a21 : Value) (C : List D) (to id ep nu : Int) (n : Nat) (M : ML) (A : List (List D)) (K : V→KB→Prop) (hvc_ :
 let z1_:=D.sl 1 [[dn IntKind.i64 id],[dn IntKind.i64 ep],[D.val (Value.int IntKind.i64 nu)]]; let z2_:=[0,2,3,5,7,8,9,10,11,12,13,14,15,16,17,18,19,21]; let z3_:=[0,1,2,3,4,5,8,9,10,11,12,13,14,15,16,17,18,19,20,21]; (∀ (y1 : Nat →
 Value),∃ (y2 : List Int),C = dns IntKind.u8 y2 ∧
 y2.length = 128 ∧
 (∀ (y3 : Int),List.Mem y3 y2 →
 0 ≤ y3 ∧
 y3 < 256) ∧
 SmF y1 [0,1,2,3,4,5,7,8,9,10,11,12,13,14,15,16,17,18,19,20,21] ∧
 ∀ (y4 : Nat →
 Value),∃ (y5 : List L3),Tab M y5 ∧
 SmF y4 z3_ ∧
 (tabW y5).length ≤ (ints IntKind.u8 (tabW y5)).length ∧
 1 ≤ 1 ∧
 132 ≤ (ints IntKind.u8 (sealI y2)).length ∧
 1 ≤ 1 ∧
 ∀ (y6 : Nat →
 Value),n = A.length ∧
 LenR n ∧
 LenR 1 ∧
 SmF y6 z2_ ∧
 K (V.tup []) [KO.cells [V.any a0,V.int IntKind.i64 id,V.any a2,V.any a3,V.int IntKind.i64 ep,V.int IntKind.i64 nu,V.arr 128 (dns IntKind.u8 y2),V.imp [IntKind.i64] false true 2 M,V.any a8,V.any a9,V.any a10,V.any a11,V.any a12,V.any a13,V.any a14,V.any a15,V.any a16,V.any a17,V.any a18,V.any a19,V.sl 2 0 (n + 1),V.any a21],KO.dead,KO.row 76 5 (A ++ [[dn IntKind.i64 to,D.val (Value.int IntKind.i64 10),z1_,D.sl 1 (List.drop 0 (List.take 132 (ints IntKind.u8 (sealI y2)))),D.sl 1 [[D.sl 1 (List.drop 0 (List.take (tabW y5).length (ints IntKind.u8 (tabW y5))))]]]])]) ∧
 ∀ (y7 : Nat →
 Value),∃ (y8 : List Int),C = dns IntKind.u8 y8 ∧
 y8.length = 128 ∧
 (∀ (y9 : Int),List.Mem y9 y8 →
 0 ≤ y9 ∧
 y9 < 256) ∧
 SmF y7 [0,1,2,3,4,5,7,8,9,10,11,12,13,14,15,16,17,18,19,20,21] ∧
 EqI nu nu ∧
 (∀ (y10 : Nat →
 Value),∃ (y11 : List L3),Tab M y11 ∧
 SmF y10 z3_ ∧
 (tabW y11).length ≤ (ints IntKind.u8 (tabW y11)).length ∧
 1 ≤ 1 ∧
 132 ≤ (ints IntKind.u8 (sealI y8)).length ∧
 1 ≤ 1 ∧
 ∀ (y12 : Nat →
 Value),n = A.length ∧
 LenR n ∧
 LenR 1 ∧
 SmF y12 z2_ ∧
 K (V.tup []) [KO.cells [V.any a0,V.int IntKind.i64 id,V.any a2,V.any a3,V.int IntKind.i64 ep,V.int IntKind.i64 nu,V.arr 128 (dns IntKind.u8 y8),V.imp [IntKind.i64] false true 2 M,V.any a8,V.any a9,V.any a10,V.any a11,V.any a12,V.any a13,V.any a14,V.any a15,V.any a16,V.any a17,V.any a18,V.any a19,V.sl 2 0 (n + 1),V.any a21],KO.dead,KO.row 76 5 (A ++ [[dn IntKind.i64 to,D.val (Value.int IntKind.i64 10),z1_,D.sl 1 (List.drop 0 (List.take 132 (ints IntKind.u8 (sealI y8)))),D.sl 1 [[D.sl 1 (List.drop 0 (List.take (tabW y11).length (ints IntKind.u8 (tabW y11))))]]]])]) ∧
 ∀ (y13 : Nat →
 Value),∃ (y14 : List L3),Tab M y14 ∧
 SmF y13 z3_ ∧
 EqI nu nu ∧
 ((tabW y14).length ≤ (ints IntKind.u8 (tabW y14)).length ∧
 1 ≤ 1 ∧
 132 ≤ (ints IntKind.u8 (sealI y8)).length ∧
 1 ≤ 1 ∧
 ∀ (y15 : Nat →
 Value),n = A.length ∧
 LenR n ∧
 LenR 1 ∧
 SmF y15 z2_ ∧
 K (V.tup []) [KO.cells [V.any a0,V.int IntKind.i64 id,V.any a2,V.any a3,V.int IntKind.i64 ep,V.int IntKind.i64 nu,V.arr 128 (dns IntKind.u8 y8),V.imp [IntKind.i64] false true 2 M,V.any a8,V.any a9,V.any a10,V.any a11,V.any a12,V.any a13,V.any a14,V.any a15,V.any a16,V.any a17,V.any a18,V.any a19,V.sl 2 0 (n + 1),V.any a21],KO.dead,KO.row 76 5 (A ++ [[dn IntKind.i64 to,D.val (Value.int IntKind.i64 10),z1_,D.sl 1 (List.drop 0 (List.take 132 (ints IntKind.u8 (sealI y8)))),D.sl 1 [[D.sl 1 (List.drop 0 (List.take (tabW y14).length (ints IntKind.u8 (tabW y14))))]]]])]) ∧
 (tabW y14).length ≤ (ints IntKind.u8 (tabW y14)).length ∧
 EqI nu nu ∧
 1 ≤ 1 ∧
 132 ≤ (ints IntKind.u8 (sealI y8)).length ∧
 1 ≤ 1 ∧
 ∀ (y16 : Nat →
 Value),n = A.length ∧
 LenR n ∧
 LenR 1 ∧
 SmF y16 z2_ ∧
 K (V.tup []) [KO.cells [V.any a0,V.int IntKind.i64 id,V.any a2,V.any a3,V.int IntKind.i64 ep,V.int IntKind.i64 nu,V.arr 128 (dns IntKind.u8 y8),V.imp [IntKind.i64] false true 2 M,V.any a8,V.any a9,V.any a10,V.any a11,V.any a12,V.any a13,V.any a14,V.any a15,V.any a16,V.any a17,V.any a18,V.any a19,V.sl 2 0 (n + 1),V.any a21],KO.dead,KO.row 76 5 (A ++ [[dn IntKind.i64 to,D.val (Value.int IntKind.i64 10),z1_,D.sl 1 (List.drop 0 (List.take 132 (ints IntKind.u8 (sealI y8)))),D.sl 1 [[D.sl 1 (List.drop 0 (List.take (tabW y14).length (ints IntKind.u8 (tabW y14))))]]]])]
 ) : runSpec Try.prog XSn (noT 24) 24 [.ptr 0 0,.int .i64 to] [.cells [.any a0,.int .i64 id,.any a2,.any a3,.int .i64 ep,.int .i64 nu,.arr 128 C,.imp [.i64] false true 2 M,.any a8,.any a9,.any a10,.any a11,.any a12,.any a13,.any a14,.any a15,.any a16,.any a17,.any a18,.any a19,.sl 1 0 n,.any a21],.row 76 5 (A)] (tidyRes 2 K):=by apply Eq.mp (a:=hvc_); kernel_rfl
theorem vcHand (a0 a2 a3 a7 a8 a9 a10 a11 a12 a13 a14 a15 a17 a18 a19 a21 : Value) (C : List D) (to id ep nu : Int) (o : Option (List D)) (n : Nat) (A : List (List D)) (K : V→KB→Prop) (hvc_ :
 ∃ (y1 : List D),o = some y1 ∧
 ∃ (y2 : Int),y1[0]? = some (D.val (Value.int IntKind.i64 y2)) ∧
 ∃ (y3 : List D),o = some y3 ∧
 ∃ (y4 : Int),y3[1]? = some (D.val (Value.int IntKind.i64 y4)) ∧
 ∃ (y5 : List D),o = some y5 ∧
 ∃ (y6 : Int),y5[2]? = some (D.val (Value.int IntKind.i64 y6)) ∧
 ∃ (y7 : List D),o = some y7 ∧
 ∃ (y8 : Int),y7[3]? = some (D.val (Value.int IntKind.i64 y8)) ∧
 ∃ (y9 : List D),o = some y9 ∧
 ∃ (y10 : List (List D)),y9[4]? = some (D.sl 1 y10) ∧
 ∀ (y11 : Nat →
 Value),∃ (y12 : List Int),C = dns IntKind.u8 y12 ∧
 y12.length = 128 ∧
 (∀ (y13 : Int),List.Mem y13 y12 →
 0 ≤ y13 ∧
 y13 < 256) ∧
 SmF y11 [0,1,2,3,4,5,7,8,9,10,11,12,13,14,15,16,17,18,19,20,21] ∧
 (∃ (y14 : List (List D)),y9[4]? = some (D.sl 1 y14) ∧
 True) ∧
 (∃ (y15 : Int),y7[3]? = some (D.val (Value.int IntKind.i64 y15)) ∧
 EqI y15 y8) ∧
 (∃ (y16 : Int),y5[2]? = some (D.val (Value.int IntKind.i64 y16)) ∧
 EqI y16 y6) ∧
 (∃ (y17 : Int),y3[1]? = some (D.val (Value.int IntKind.i64 y17)) ∧
 EqI y17 y4) ∧
 (∃ (y18 : Int),y1[0]? = some (D.val (Value.int IntKind.i64 y18)) ∧
 EqI y18 y2) ∧
 EqI nu nu ∧
 (∃ (y19 : List (List D)),y9[4]? = some (D.sl 1 y19) ∧
 True) ∧
 6 ≤ 6 ∧
 ∀ (y20 : Nat →
 Value),n = A.length ∧
 LenR n ∧
 LenR 6 ∧
 SmF y20 [0,2,3,5,7,8,9,10,11,12,13,14,15,16,17,18,19,21] ∧
 K (V.tup []) [KO.cells [V.any a0,V.int IntKind.i64 id,V.any a2,V.any a3,V.int IntKind.i64 ep,V.int IntKind.i64 nu,V.arr 128 (dns IntKind.u8 y12),V.any a7,V.any a8,V.any a9,V.any a10,V.any a11,V.any a12,V.any a13,V.any a14,V.any a15,V.ipo o,V.any a17,V.any a18,V.any a19,V.sl 2 0 (n + 1),V.any a21],KO.dead,KO.row 76 5 (A ++ [[dn IntKind.i64 to,D.val (Value.int IntKind.i64 12),D.sl 1 [[dn IntKind.i64 id],[dn IntKind.i64 ep],[D.val (Value.int IntKind.i64 nu)],[D.val (Value.int IntKind.i64 y2)],[D.val (Value.int IntKind.i64 y4)],[D.val (Value.int IntKind.i64 y6)],[D.val (Value.int IntKind.i64 y8)],[D.val (Value.int IntKind.i64 (IntKind.i64.wrap (crcI y12)))]],D.sl 1 y10,D.sl 1 []]])]
 ) : runSpec Try.prog XSn (noT 32) 32 [.ptr 0 0,.int .i64 to] [.cells [.any a0,.int .i64 id,.any a2,.any a3,.int .i64 ep,.int .i64 nu,.arr 128 C,.any a7,.any a8,.any a9,.any a10,.any a11,.any a12,.any a13,.any a14,.any a15,.ipo o,.any a17,.any a18,.any a19,.sl 1 0 n,.any a21],.row 76 5 (A)] (tidyRes 2 K):=by apply Eq.mp (a:=hvc_); kernel_rfl
theorem takeR {A : List (List D)} : List.take A.length A = A:=List.take_length
theorem takeD {l : List Int} {n : Nat} (h : n = l.length) : List.drop 0 (List.take n (ints .u8 l)) = ints .u8 l:=by
  subst h; rw [List.drop_zero,ints_take,List.take_length]
theorem takeN {a b : List D} {N : List (List D)} : List.drop 0 (List.take (2 + N.length) ([a,b] ++ N)) = [a,b] ++ N:=by
  rw [List.drop_zero]; exact List.take_of_length_le (by simp; omega)
theorem len2 {a b : List D} {N : List (List D)} : 2 + N.length ≤ ([a,b] ++ N).length:=by simp; omega
theorem okSend : SpecOk Try.prog 56 Ssend:=specOk_tidy X0_ok mixed (fun args kb K h => by
  unfold Ssend at h; split at h <;> try exact h.elim
  obtain ⟨rfl,⟨hn⟩,⟨hN⟩,h⟩:=h
  refine ⟨_,vcSend _ _ _ _ _ _ _ _ _ _ _ _ _ _ _ _ _ _ _ _ _ _ _ _ _ _ _ _ K ?_⟩
  simp only [takeN,takeR]
  exact ⟨⟨trivial,Nat.le_refl _,by omega,len2,Nat.le_refl _,Nat.le_refl _,by omega,h⟩,⟨trivial,Nat.le_refl _,by omega,len2,Nat.le_refl _,Nat.le_refl _,by omega,h⟩,trivial,Nat.le_refl _,by omega,⟨len2,Nat.le_refl _,Nat.le_refl _,by omega,h⟩,len2,Nat.le_refl _,Nat.le_refl _,by omega,h⟩)
theorem okYield : SpecOk Try.prog 21 Syield:=specOk_nt X0_ok mixed [.ipoC 0 143,.mv 0 148] (fun args kb K h => by
  unfold Syield at h; split at h <;> try exact h.elim
  obtain ⟨rfl,⟨hn⟩,q,rfl,h⟩:=h
  refine ⟨_,vcYield _ _ _ _ _ _ _ _ _ _ _ _ _ _ _ _ _ _ _ _ _ _ _ K ?_⟩
  cases q with
  | none =>
    simp only [yl,List.append_nil] at h
    exact ⟨fun f => (by cases f),fun _ => h⟩
  | some p =>
    simp only [yl,List.length_append,List.length_singleton] at h
    refine ⟨fun _ => ⟨opD p,rfl,p.cl,rfl,p.nm,rfl,p.kd,rfl,p.bk,rfl,ints .u8 p.b,rfl,?_⟩,fun f => (by cases f)⟩
    simp only [takeR]
    exact ⟨⟨Nat.le_refl _,Nat.le_refl _,by omega,h⟩,Nat.le_refl _,Nat.le_refl _,by omega,h⟩)
theorem snS_ok : AllOk Try.prog snS:=fun f k h => by
  unfold snS at h
  split at h
  · cases h; exact hideIn_ok okSend _
  · cases h; exact hideIn_ok okBytes _
  · cases h; exact hideIn_ok okCSum _
  · cases h; exact hideIn_ok okTBytesR _
  · cases h
theorem XSn_ok : CallOk Try.prog XSn:=callS_ok mixed snS_ok noT 10
theorem okNack : SpecOk Try.prog 65 Snack:=specOk_tidy XSn_ok mixed (fun args kb K h => by
  unfold Snack at h; split at h <;> try exact h.elim
  obtain ⟨rfl,hn,h⟩:=h
  exact ⟨_,vcNack _ _ _ _ _ _ _ _ _ _ _ _ _ _ _ _ _ _ _ _ _ _ _ _ K ⟨Nat.le_refl _,fun f => ⟨rfl,hn,⟨by omega⟩,⟨by simp [SameL]⟩,h⟩⟩⟩)
theorem sealI_len' {c : List Int} (h : c.length = 128) : (sealI c).length = 132:=by rw [sealI_len]; omega
theorem okState : SpecOk Try.prog 24 Sstate:=specOk_tidy XSn_ok mixed (fun args kb K h => by
  unfold Sstate at h; split at h <;> try exact h.elim
  obtain ⟨rfl,hn,c,x,⟨rfl,hl,hb⟩,ht,h⟩:=h
  have e1:=takeD (sealI_len' hl).symm
  have e2:=takeD (l:=tabW x) rfl
  refine ⟨_,vcState _ _ _ _ _ _ _ _ _ _ _ _ _ _ _ _ _ _ _ _ _ _ _ _ K ?_⟩
  unfold stP pst at h
  repeat' first
    | (exact ⟨by simp [SameL]⟩)
    | (exact ⟨rfl⟩)
    | (exact hn)
    | (exact ⟨by omega⟩)
    | (exact Nat.le_refl _)
    | (rw [ints_len,sealI_len' hl]; exact Nat.le_refl _)
    | (rw [ints_len]; exact Nat.le_refl _)
    | (rw [e1,e2]; exact h)
    | (rw [e1]; exact h)
    | rfl
    | (refine ⟨c,rfl,hl,hb,?_⟩)
    | (refine ⟨x,ht,?_⟩)
    | (refine And.intro ?_ ?_)
    | intro f)
theorem okHand : SpecOk Try.prog 32 Shand:=specOk_tidy XSn_ok mixed (fun args kb K h => by
  unfold Shand at h; split at h <;> try exact h.elim
  obtain ⟨rfl,hn,c,p,⟨rfl,hl,hb⟩,rfl,h⟩:=h
  have hr:=crcI_range c
  have ew : IntKind.i64.wrap (crcI c) = crcI c:=w64 (by omega) (by omega)
  refine ⟨_,vcHand _ _ _ _ _ _ _ _ _ _ _ _ _ _ _ _ _ _ _ _ _ _ _ _ K ?_⟩
  unfold haP pst at h
  refine ⟨opD p,rfl,p.cl,rfl,opD p,rfl,p.nm,rfl,opD p,rfl,p.kd,rfl,opD p,rfl,p.bk,rfl,opD p,rfl,ints .u8 p.b,rfl,fun f => ⟨c,rfl,hl,hb,⟨by simp [SameL]⟩,⟨_,rfl,trivial⟩,⟨_,rfl,⟨rfl⟩⟩,⟨_,rfl,⟨rfl⟩⟩,⟨_,rfl,⟨rfl⟩⟩,⟨_,rfl,⟨rfl⟩⟩,⟨rfl⟩,⟨_,rfl,trivial⟩,Nat.le_refl _,fun f => ⟨rfl,hn,⟨by omega⟩,⟨by simp [SameL]⟩,?_⟩⟩⟩
  rw [ew]; exact h)
end Go.Proofs.Ytfcjngcnifdmnaa
