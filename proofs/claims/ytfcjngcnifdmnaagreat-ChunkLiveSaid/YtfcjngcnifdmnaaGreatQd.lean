import Derived.Test.YtfcjngcnifdmnaaGreatQc
import Derived.KernelRfl
import Derived.Shelf.Spec.SlicesGrow
import Derived.Test.YtfcjngcnifdmnaaGreatProg
namespace Go.Proofs.YtfcjngcnifdmnaaGreat
open Vc Go
open Go.IntKind renaming i64->γ,u8->ξ,u32->iM
open Vc.V renaming any->δ,int->ε,sl->ζ,sb->ο,ptr->aj,φ->au,dat->aC,aa->aR,mp->aY,arr->bF,agg->fz
open Vc.D renaming val->η,sl->χ
open Go.Value renaming int->ν,map->kT,bool->mG,oneCell'->mH
open List renaming map->ae,drop->ax,take->ay,length_append->bn,getElem?_eq_getElem->bu,getElem?_eq_some_iff->bH,length_map->bT,take_length->cQ,length_take->cW,mem_singleton->da,replicate->dv,mem_append->dz,mem_map->dO,mem_cons->dS,Mem->dW,append_assoc->dX,getElem?_append_left->dY,take_of_length_le->eQ,getElem?_append_right->fk,getElem?_map->fy,mem_of_getElem?->fF,length_drop->gm,mem_cons_of_mem->gn,append_nil->gz,length_cons->gA,getD_eq_getElem?_getD->gO,getElem?_set_ne->gP,mem_append_left->gQ,length_singleton->gZ,drop_zero->iD,getElem?_eq_none->iE,getElem?_take_of_lt->iF,length_set->iG,getElem?_set_self->iN,mem_cons_self->iV,map_append->ja,range->jb,nil_append->jr,take_add_one->jt,flatten_cons->jF,getElem?_of_mem->jG,getElem?_drop->jW,map_cons->kv,length_nil->kP,mem_append_right->kQ,mem_filter->lu,ext_getElem?->mb,eq_nil_of_length_eq_zero->mD
open Vc.KO renaming row->ai,dead->aw,cells->aB,objs->fE
open Nat renaming le_refl->ar,zero_le->bj,beq->cX,zero_add->c9,eq_of_beq_eq_true->de,add_assoc->g_,lor->iW,lt_or_ge->kx,sub_zero->ly,le_trans->mc
open Option renaming some->bb,bind_eq_some_iff->lO,map->ng
open Int renaming toNat_natCast->cN,le_refl->dE
open Bool renaming and_eq_true->jo,not_eq_false'->kr,not_eq_true'->mA
set_option linter.unusedVariables false
set_option linter.unusedSimpArgs false
set_option maxRecDepth 100000
set_option maxHeartbeats 2000000
noncomputable def XB:cd:=dM Tryz.prog Bx aG 10
def qF (k:Nat):Prop:=k<=8
abbrev vQ (a0 a1 a2 a3 a4 a5 a7 a8 a9 aK a_ a12 aQ π υ aX aL aS aM a20 a21:Value) (C:List D) (o:Nat->List (List D)):LI where
 α:={k:Nat // qF k}
 live:=[0,3,9,10]
 dT:=[.slot 1 5 1]
 st k:=([aj 0 6,.sl 1 0 (16*k.1),.agg [bF 128 C],.int γ (k.1:Int)],[aB [δ a0,δ a1,δ a2,δ a3,δ a4,δ a5,bF 128 C,δ a7,δ a8,δ a9,δ aK,δ a_,δ a12,δ aQ,δ π,δ υ,δ aX,δ aL,δ aS,δ aM,δ a20,δ a21],ai 5 1 (o k.1)])
 μ k:=8 - k.1
def NY (a0 a1 a2 a3 a4 a5 a7 a8 a9 aK a_ a12 aQ π υ aX aL aS aM a20 a21:Value) (C:List D) (o:Nat->List (List D)):FuncId->Nat->Option LI
 | 68,3=>some (vQ a0 a1 a2 a3 a4 a5 a7 a8 a9 aK a_ a12 aQ π υ aX aL aS aM a20 a21 C o)
 |_,_=>none
abbrev vU (m:List Int) (o:Nat->List D) (z:List D):LI where
 α:={k:Nat // qF k}
 live:=[2,4,6,21]
 st k:=([aj 0 0,.sl 1 0 m.length,aj 2 0,.int γ (k.1:Int)],[aB [bF 128 z],ai 5 1 (ints ξ m),aB [bF 128 (o k.1)]])
 μ k:=8 - k.1
def Gk (m:List Int) (o:Nat->List D) (z:List D):FuncId->Nat->Option LI
 | 33,6=>some (vU m o z)
 |_,_=>none
theorem ahf (a0 a1 a2 a3 a4 a5 a7 a8 a9 aK a_ a12 aQ π υ aX aL aS aM a20 a21:Value) (c:List D) (A:List (List D)) (i:Int) (K:V->KB->Prop) (aq:
 let ω:=(ay 16 (ax 0 A.flatten));let θ:=K (ε γ 1) [aB [δ a0,δ a1,δ a2,δ a3,δ a4,δ a5,bF 128 c,δ a7,δ a8,δ a9,δ aK,δ a_,δ a12,δ aQ,δ π,δ υ,δ aX,δ aL,δ aS,δ aM,δ a20,δ a21]];(decide (i ≥ 0)=true->
 ((!decide (i<8))=true->
 θ)/\
 ((!decide (i<8))=false->
 (((↑A.length:Int) != 16)=true->
 θ)/\
 (((↑A.length:Int) != 16)=false->
 16<=A.length/\
 16<=A.flatten.length/\
 br i 8/\
 i.toNat*16+16<=128/\
 K (ε γ 0) [aB [δ a0,δ a1,δ a2,δ a3,δ a4,δ a5,bF 128 (((ay (i.toNat*16) c++mJ ω [])++(ax (i.toNat*16+(mJ ω []).length) c))),δ a7,δ a8,δ a9,δ aK,δ a_,δ a12,δ aQ,δ π,δ υ,δ aX,δ aL,δ aS,δ aM,δ a20,δ a21]])))/\
 (decide (i ≥ 0)=false->
 θ)
 ):aI Tryz.prog XB (aG 84) 84 [aj 0 6,.int γ i,aC (.sl 1 A)] [aB [δ a0,δ a1,δ a2,δ a3,δ a4,δ a5,bF 128 c,δ a7,δ a8,δ a9,δ aK,δ a_,δ a12,δ aQ,δ π,δ υ,δ aX,δ aL,δ aS,δ aM,δ a20,δ a21]] K:=by apply Eq.mp (a:=aq);kernel_rfl
theorem ahe (a0 a1 a2 a3 a4 a5 a7 a8 a9 aK a_ a12 aQ π υ aX aL aS aM a20 a21:Value) (c:List D) (i:Int) (K:V->KB->Prop) (aq:
 let ω:=(ay 16 (ax (i.toNat*16+0) c));let θ:=aB [δ a0,δ a1,δ a2,δ a3,δ a4,δ a5,bF 128 c,δ a7,δ a8,δ a9,δ aK,δ a_,δ a12,δ aQ,δ π,δ υ,δ aX,δ aL,δ aS,δ aM,δ a20,δ a21];let av:=K (au [δ (Value.slice none 0 0),ε γ 1]) [θ];(decide (i ≥ 0)=true->
 ((!decide (i<8))=true->
 av)/\
 ((!decide (i<8))=false->
 br i 8/\
 True/\
 True/\
 0<=16/\
 16<=16/\
 (i.toNat*16+0+16<=128/\
 True)/\
 (k9 ω).length<=140737488355328/\
 (k9 ω=[]->
 True/\
 K (au [δ (Value.slice none 0 0),ε γ 0]) [θ])/\
 oM (k9 ω).flatten/\
 K (au [ζ 1 0 (k9 ω).length,ε γ 0]) [θ,ai 5 1 (k9 ω)]))/\
 (decide (i ≥ 0)=false->
 av)
 ):aI Tryz.prog XB (aG 86) 86 [aj 0 6,.int γ i] [aB [δ a0,δ a1,δ a2,δ a3,δ a4,δ a5,bF 128 c,δ a7,δ a8,δ a9,δ aK,δ a_,δ a12,δ aQ,δ π,δ υ,δ aX,δ aL,δ aS,δ aM,δ a20,δ a21]] K:=by apply Eq.mp (a:=aq);kernel_rfl
theorem aiN (a0 a1 a2 a3 a4 a5 a7 a8 a9 aK a_ a12 aQ π υ aX aL aS aM a20 a21:Value) (c:List D) (i:Int) (K:V->KB->Prop) (aq:
 let θ:=K (ε γ 1) [aB [δ a0,δ a1,δ a2,δ a3,δ a4,δ a5,bF 128 c,δ a7,δ a8,δ a9,δ aK,δ a_,δ a12,δ aQ,δ π,δ υ,δ aX,δ aL,δ aS,δ aM,δ a20,δ a21]];(decide (i ≥ 0)=true->
 ((!decide (i<8))=true->
 θ)/\
 ((!decide (i<8))=false->
 br i 8/\
 i.toNat*16+16<=128/\
 K (ε γ 0) [aB [δ a0,δ a1,δ a2,δ a3,δ a4,δ a5,bF 128 (((ay (i.toNat*16) c++(dv 16 (η (ν ξ 0))))++(ax (i.toNat*16+16) c))),δ a7,δ a8,δ a9,δ aK,δ a_,δ a12,δ aQ,δ π,δ υ,δ aX,δ aL,δ aS,δ aM,δ a20,δ a21]]))/\
 (decide (i ≥ 0)=false->
 θ)
 ):aI Tryz.prog XB (aG 85) 85 [aj 0 6,.int γ i] [aB [δ a0,δ a1,δ a2,δ a3,δ a4,δ a5,bF 128 c,δ a7,δ a8,δ a9,δ aK,δ a_,δ a12,δ aQ,δ π,δ υ,δ aX,δ aL,δ aS,δ aM,δ a20,δ a21]] K:=by apply Eq.mp (a:=aq);kernel_rfl
theorem L4 (a0 a1 a2 a3 a4 a5 a7 a8 a9 aK a_ a12 aQ π υ aX aL aS aM a20 a21:Value) (c:List D) (o:Nat->List (List D)) (K:V->KB->Prop) (aq:
 let av:=(vQ a0 a1 a2 a3 a4 a5 a7 a8 a9 aK a_ a12 aQ π υ aX aL aS aM a20 a21 c o);let θ:=aB [δ a0,δ a1,δ a2,δ a3,δ a4,δ a5,bF 128 c,δ a7,δ a8,δ a9,δ aK,δ a_,δ a12,δ aQ,δ π,δ υ,δ aX,δ aL,δ aS,δ aM,δ a20,δ a21];At av ([aj 0 6,ζ 1 0 0,fz [bF 128 c],ε γ 0],[θ,ai 5 1 []])/\
 ∀(y2:{y1:Nat // qF y1}),let ω:=(ay 16 (ax 0 (ay 16 (ax ((↑y2.val:Int).toNat*16) c))));(decide ((↑y2.val:Int)<8)=true->
 br (↑y2.val:Int) 8/\
 (↑y2.val:Int).toNat*16+16<=c.length/\
 True/\
 True/\
 0<=16/\
 16<=16/\
 16<=16/\
 16*y2.val<=(o y2.val).length/\
 (16*y2.val+(k9 ω).length)*1<=140737488355328/\
 Nx av y2 ([aj 0 6,ζ 1 0 (16*y2.val+(k9 ω).length),fz [bF 128 c],ε γ (γ.wrap ((↑y2.val:Int)+1))],[θ,ai 5 1 (ay (16*y2.val) (o y2.val)++k9 ω)]))/\
 (decide ((↑y2.val:Int)<8)=false->
 K (ζ 1 0 (16*y2.val)) [θ,ai 5 1 (o y2.val)])
 ):aI Tryz.prog XB (NY a0 a1 a2 a3 a4 a5 a7 a8 a9 aK a_ a12 aQ π υ aX aL aS aM a20 a21 c o 68) 68 [aj 0 6] [aB [δ a0,δ a1,δ a2,δ a3,δ a4,δ a5,bF 128 c,δ a7,δ a8,δ a9,δ aK,δ a_,δ a12,δ aQ,δ π,δ υ,δ aX,δ aL,δ aS,δ aM,δ a20,δ a21]] K:=by apply Eq.mp (a:=aq);kernel_rfl
theorem WN (l m:List Int) (o:Nat->List D) (z:List D) (K:V->KB->Prop) (aq:
 let bD:=m.length - 0<=m.length - 0;let bp:=ai 5 1 (ints ξ m);let θ:=[bF 128 (dv 128 (η (ν ξ 0)))];let aU:=At (vU m o z) ([aj 0 0,δ (Value.slice none 0 0),aj 1 0,ε γ 0],[aB θ,aB θ]);let ω:=K (au [fz θ,ο false]) [];∃(y1:List Int),ints ξ l=ints ξ y1/\
 (∀(y2:Int),dW y2 y1->
 0<=y2/\
 y2<256)/\
 y1.length<=900000/\
 (fM y1=none->
 (true=true->
 ω)/\
 (true=false->
 (true=true->
 ω)/\
 (true=false->
 aU/\
 ∀(y4:{y3:Nat // qF y3}),let av:=(γ.wrap ((↑y4.val:Int)*16));let bM:=(ax (0+av.toNat) (ints ξ m));(decide ((↑y4.val:Int)<8)=true->
 aA av/\
 True/\
 av.toNat<=m.length - 0/\
 bD/\
 16<=0+(m.length - 0) - (0+av.toNat)/\
 16<=bM.flatten.length/\
 br (↑y4.val:Int) 8/\
 (↑y4.val:Int).toNat*16+16<=128/\
 Nx (vU m o z) y4 ([aj 0 0,ζ 1 0 m.length,aj 2 0,ε γ (γ.wrap ((↑y4.val:Int)+1))],[aB [bF 128 z],bp,aB [bF 128 (splice (o y4.val) ((↑y4.val:Int).toNat*16) (mJ (ay 16 (ax 0 bM.flatten)) []))]]))/\
 (decide ((↑y4.val:Int)<8)=false->
 K (au [fz [bF 128 (o y4.val)],ο true]) []))))/\
 ∀(y5:List Int),fM y1=some y5->
 (y5=[]->
 (false=true->
 ω)/\
 (false=false->
 (true=true->
 ω)/\
 (true=false->
 aU/\
 ∀(y7:{y6:Nat // qF y6}),let aN:=(γ.wrap ((↑y7.val:Int)*16));let bQ:=(ax (0+aN.toNat) (ints ξ m));(decide ((↑y7.val:Int)<8)=true->
 aA aN/\
 True/\
 aN.toNat<=m.length - 0/\
 bD/\
 16<=0+(m.length - 0) - (0+aN.toNat)/\
 16<=bQ.flatten.length/\
 br (↑y7.val:Int) 8/\
 (↑y7.val:Int).toNat*16+16<=128/\
 Nx (vU m o z) y7 ([aj 0 0,ζ 1 0 m.length,aj 2 0,ε γ (γ.wrap ((↑y7.val:Int)+1))],[aB [bF 128 z],bp,aB [bF 128 (splice (o y7.val) ((↑y7.val:Int).toNat*16) (mJ (ay 16 (ax 0 bQ.flatten)) []))]]))/\
 (decide ((↑y7.val:Int)<8)=false->
 K (au [fz [bF 128 (o y7.val)],ο true]) []))))/\
 (false=true->
 ω)/\
 (false=false->
 (((↑(y5.length - 0):Int) != 128)=true->
 ω)/\
 (((↑(y5.length - 0):Int) != 128)=false->
 At (vU m o z) ([aj 0 0,ζ 1 0 y5.length,aj 2 0,ε γ 0],[aB θ,ai 5 1 (ints ξ y5),aB θ])/\
 ∀(y9:{y8:Nat // qF y8}),let aJ:=(γ.wrap ((↑y9.val:Int)*16));let bW:=(ax (0+aJ.toNat) (ints ξ m));(decide ((↑y9.val:Int)<8)=true->
 aA aJ/\
 True/\
 aJ.toNat<=m.length - 0/\
 bD/\
 16<=0+(m.length - 0) - (0+aJ.toNat)/\
 16<=bW.flatten.length/\
 br (↑y9.val:Int) 8/\
 (↑y9.val:Int).toNat*16+16<=128/\
 Nx (vU m o z) y9 ([aj 0 0,ζ 1 0 m.length,aj 2 0,ε γ (γ.wrap ((↑y9.val:Int)+1))],[aB [bF 128 z],bp,aB [bF 128 (splice (o y9.val) ((↑y9.val:Int).toNat*16) (mJ (ay 16 (ax 0 bW.flatten)) []))]]))/\
 (decide ((↑y9.val:Int)<8)=false->
 K (au [fz [bF 128 (o y9.val)],ο true]) [])))
 ):aI Tryz.prog XB (Gk m o z 33) 33 [aC (.sl 1 (ints ξ l))] [] K:=by apply Eq.mp (a:=aq);kernel_rfl
theorem xU:cx Tryz.prog XB:=dP mixed OM aG 10
structure lZ (i:Int):Prop where
 lo:0<=i
 hi:i<8
def A_:aE:=fun args kb K=>match args,kb with
 | [aj 0 6,.int γ i,aC (.sl 1 A)],[aB [δ a0,δ a1,δ a2,δ a3,δ a4,δ a5,bF 128 C,δ a7,δ a8,δ a9,δ aK,δ a_,δ a12,δ aQ,δ π,δ υ,δ aX,δ aL,δ aS,δ aM,δ a20,δ a21]]=>∃ c b:List Int,C=aT ξ c/\A=ints ξ b/\c.length=128/\(lZ i/\b.length=16->K (.int γ 0) [aB [δ a0,δ a1,δ a2,δ a3,δ a4,δ a5,bF 128 (aT ξ (splice c (i.toNat*16) b)),δ a7,δ a8,δ a9,δ aK,δ a_,δ a12,δ aQ,δ π,δ υ,δ aX,δ aL,δ aS,δ aM,δ a20,δ a21]])/\(¬ (lZ i/\b.length=16)->K (.int γ 1) [aB [δ a0,δ a1,δ a2,δ a3,δ a4,δ a5,bF 128 (aT ξ c),δ a7,δ a8,δ a9,δ aK,δ a_,δ a12,δ aQ,δ π,δ υ,δ aX,δ aL,δ aS,δ aM,δ a20,δ a21]])
 |_,_=>False
def A0:aE:=fun args kb K=>match args,kb with
 | [aj 0 6,.int γ i],[aB [δ a0,δ a1,δ a2,δ a3,δ a4,δ a5,bF 128 C,δ a7,δ a8,δ a9,δ aK,δ a_,δ a12,δ aQ,δ π,δ υ,δ aX,δ aL,δ aS,δ aM,δ a20,δ a21]]=>∃ c:List Int,C=aT ξ c/\c.length=128/\(lZ i->K (.int γ 0) [aB [δ a0,δ a1,δ a2,δ a3,δ a4,δ a5,bF 128 (aT ξ (splice c (i.toNat*16) (dv 16 0))),δ a7,δ a8,δ a9,δ aK,δ a_,δ a12,δ aQ,δ π,δ υ,δ aX,δ aL,δ aS,δ aM,δ a20,δ a21]])/\(¬ lZ i->K (.int γ 1) [aB [δ a0,δ a1,δ a2,δ a3,δ a4,δ a5,bF 128 (aT ξ c),δ a7,δ a8,δ a9,δ aK,δ a_,δ a12,δ aQ,δ π,δ υ,δ aX,δ aL,δ aS,δ aM,δ a20,δ a21]])
 |_,_=>False
def Az:aE:=fun args kb K=>match args,kb with
 | [aj 0 6,.int γ i],[aB [δ a0,δ a1,δ a2,δ a3,δ a4,δ a5,bF 128 C,δ a7,δ a8,δ a9,δ aK,δ a_,δ a12,δ aQ,δ π,δ υ,δ aX,δ aL,δ aS,δ aM,δ a20,δ a21]]=>∃ c:List Int,C=aT ξ c/\c.length=128/\(lZ i->K (.φ [.sl 1 0 16,.int γ 0]) [aB [δ a0,δ a1,δ a2,δ a3,δ a4,δ a5,bF 128 (aT ξ c),δ a7,δ a8,δ a9,δ aK,δ a_,δ a12,δ aQ,δ π,δ υ,δ aX,δ aL,δ aS,δ aM,δ a20,δ a21],ai 5 1 (ints ξ ((c.drop (i.toNat*16)).take 16))])/\(¬ lZ i->K (.φ [δ (.slice none 0 0),.int γ 1]) [aB [δ a0,δ a1,δ a2,δ a3,δ a4,δ a5,bF 128 (aT ξ c),δ a7,δ a8,δ a9,δ aK,δ a_,δ a12,δ aQ,δ π,δ υ,δ aX,δ aL,δ aS,δ aM,δ a20,δ a21]])
 |_,_=>False
def ub:aE:=fun args kb K=>match args,kb with
 | [aj 0 6],[aB [δ a0,δ a1,δ a2,δ a3,δ a4,δ a5,bF 128 C,δ a7,δ a8,δ a9,δ aK,δ a_,δ a12,δ aQ,δ π,δ υ,δ aX,δ aL,δ aS,δ aM,δ a20,δ a21]]=>∃ c:List Int,C=aT ξ c/\c.length=128/\K (.sl 1 0 128) [aB [δ a0,δ a1,δ a2,δ a3,δ a4,δ a5,bF 128 (aT ξ c),δ a7,δ a8,δ a9,δ aK,δ a_,δ a12,δ aQ,δ π,δ υ,δ aX,δ aL,δ aS,δ aM,δ a20,δ a21],ai 5 1 (ints ξ c)]
 |_,_=>False
theorem TN:aO Tryz.prog 84 A_:=eC xU mixed (fun args kb K h=>by
 unfold A_ at h;split at h<;>try exact h.elim
 rename_i i A a0 a1 a2 a3 a4 a5 C a7 a8 a9 aK a_ a12 aQ π υ aX aL aS aM a20 a21
 obtain⟨c,b,rfl,rfl,hl,h1,h2⟩:=h
 refine⟨aG 84,ahf _ _ _ _ _ _ _ _ _ _ _ _ _ _ _ _ _ _ _ _ _ _ _ i K ⟨fun hi=>⟨fun h8=>h2 ?_,fun h8=>⟨fun hb=>h2 ?_,fun hb=>?_⟩⟩,fun hi=>h2 ?_⟩⟩
 ·rintro⟨⟨a1,a2⟩,_⟩;simp at h8;omega
 ·rintro⟨_,fR⟩;simp [bi]at hb;omega
 ·simp only[bi,bne_eq_false_iff_eq]at hb
  have hb:b.length=16:=by omega
  have hi:0<=i:=by simpa using hi
  have h8:i<8:=by simpa using h8
  have k:=h1 ⟨⟨hi,h8⟩,hb⟩
  refine⟨by rw[bi];omega,by rw[yL];simp [aT];omega,by unfold br;omega,by omega,?_⟩
  have e:splice (aT ξ c) (i.toNat*16) (mJ (ay 16 (ax 0 (ints ξ b).flatten)) [])=aT ξ (splice c (i.toNat*16) b):=by
   rw[iD,yL,eQ (by simp [aT];omega)]
   have:mJ (aT ξ b) []=aT ξ b:=by simp [mJ]
   rw[this]
   simp [splice,aT]
  rw[<- e]at k
  exact k
 ·rintro⟨⟨a1,a2⟩,_⟩;simp at hi;omega)
theorem TL:aO Tryz.prog 85 A0:=eC xU mixed (fun args kb K h=>by
 unfold A0 at h;split at h<;>try exact h.elim
 rename_i i a0 a1 a2 a3 a4 a5 C a7 a8 a9 aK a_ a12 aQ π υ aX aL aS aM a20 a21
 obtain⟨c,rfl,hl,h1,h2⟩:=h
 refine⟨aG 85,aiN _ _ _ _ _ _ _ _ _ _ _ _ _ _ _ _ _ _ _ _ _ _ i K ⟨fun hi=>⟨fun h8=>h2 ?_,fun h8=>?_⟩,fun hi=>h2 ?_⟩⟩
 ·rintro⟨a1,a2⟩;simp at h8;omega
 ·have hi:0<=i:=by simpa using hi
  have h8:i<8:=by simpa using h8
  have k:=h1 ⟨hi,h8⟩
  refine⟨by unfold br;omega,by omega,?_⟩
  have e:splice (aT ξ c) (i.toNat*16) (dv 16 (η (.int ξ 0)))=aT ξ (splice c (i.toNat*16) (dv 16 0)):=by
   simp [splice,aT]
  rw[<- e]at k
  exact k
 ·rintro⟨a1,a2⟩;simp at hi;omega)
theorem TT {c:List Int} {o n:Nat}:k9 (ay n (ax o (aT ξ c)))=ints ξ ((c.drop o).take n):=by
 simp only[k9,aT,ints,List.map_take,List.map_drop,List.map_map];rfl
theorem Tm:aO Tryz.prog 86 Az:=eC xU mixed (fun args kb K h=>by
 unfold Az at h;split at h<;>try exact h.elim
 rename_i i a0 a1 a2 a3 a4 a5 C a7 a8 a9 aK a_ a12 aQ π υ aX aL aS aM a20 a21
 obtain⟨c,rfl,hl,h1,h2⟩:=h
 refine⟨aG 86,ahe _ _ _ _ _ _ _ _ _ _ _ _ _ _ _ _ _ _ _ _ _ _ i K ⟨fun hi=>⟨fun h8=>h2 ?_,fun h8=>?_⟩,fun hi=>h2 ?_⟩⟩
 ·rintro⟨a1,a2⟩;simp at h8;omega
 ·have hi:0<=i:=by simpa using hi
  have h8:i<8:=by simpa using h8
  have k:=h1 ⟨hi,h8⟩
  have hlen:((c.drop (i.toNat*16)).take 16).length=16:=by simp;omega
  simp only[Nat.add_zero,TT,bi,hlen]
  refine⟨by unfold br;omega,trivial,trivial,by omega,by omega,⟨by omega,trivial⟩,by omega,fun e=>?_,⟨o9⟩,k⟩
  have:=congrArg List.length e
  rw[bi,hlen]at this
  cases this
 ·rintro⟨a1,a2⟩;simp at hi;omega)
theorem J5:aO Tryz.prog 68 ub:=eC xU mixed (fun args kb K h=>by
 unfold ub at h;split at h<;>try exact h.elim
 obtain⟨c,rfl,hl,h⟩:=h
 refine⟨NY _ _ _ _ _ _ _ _ _ _ _ _ _ _ _ _ _ _ _ _ _ (aT ξ c) (fun k=>ints ξ (c.take (16*k))) 68,L4 _ _ _ _ _ _ _ _ _ _ _ _ _ _ _ _ _ _ _ _ _ _ (fun k=>ints ξ (c.take (16*k))) K ⟨At.mk' ⟨0,bj _⟩ rfl,?_⟩⟩
 rintro⟨k,hk⟩
 simp only[qF]at hk ⊢
 have e2:((k:Nat):Int).toNat=k:=by omega
 refine⟨fun hc=>?_,fun hc=>?_⟩
 ·simp only[decide_eq_true_eq]at hc
  have w2:=bE (n:=(k:Int)+1) (by omega) (by omega)
  have e3:k9 (ay 16 (ax 0 (ay 16 (ax (k*16) (aT ξ c)))))=ints ξ ((c.drop (16*k)).take 16):=by
   rw[iD,List.take_take,Nat.min_self,TT,Nat.mul_comm]
  have hlen:((c.drop (16*k)).take 16).length=16:=by simp;omega
  rw[e2,e3,w2,bi,bi,hlen]
  have e4:ay (16*k) (ints ξ (c.take (16*k)))++ints ξ ((c.drop (16*k)).take 16)=ints ξ (c.take (16*(k+1))):=by
   rw[eQ (by rw[bi,cW];omega),<- pR,Nat.mul_succ,List.take_add]
  refine⟨by unfold br;omega,by simp [aT];omega,trivial,trivial,by omega,by omega,by omega,by rw[cW];omega,by omega,?_⟩
  rw[e4]
  exact Nx.mk' (⟨k+1,by show k+1<=8;omega⟩:{k:Nat // qF k}) rfl (by show 8 - (k+1)<8 - k;omega)
 ·simp only[decide_eq_false_iff_not]at hc
  have:k=8:=by omega
  subst this
  rw[eQ (by omega)]
  exact h)
abbrev jT:List Int:=dv 128 0
def xL:aE:=fun args kb K=>match args,kb with
 | [aC (.sl 1 A)],[]=>∃ l:List Int,A=ints ξ l/\bq l/\l.length<=900000/\(∀ m,fM l=some m->m.length=128->K (.φ [.agg [bF 128 (aT ξ m)],ο true]) [])/\((∀ m,fM l=some m->¬ m.length=128)->K (.φ [.agg [bF 128 (aT ξ jT)],ο false]) [])
 |_,_=>False
def pz (m:List Int) (k:Nat):List D:=aT ξ (m.take (16*k)++dv (128 - 16*k) 0)
theorem Y4 {m:List Int} (hm:m.length=128) {k:Nat} (hk:k<8):splice (pz m k) (k*16) (mJ (ay 16 (ax 0 (ax (k*16) (ints ξ m)).flatten)) [])=pz m (k+1):=by
 have e1:mJ (ay 16 (ax 0 (ax (k*16) (ints ξ m)).flatten)) []=aT ξ ((m.drop (k*16)).take 16):=by
  rw[Cy,yL,iD]
  simp [mJ,aT]
 rw[e1]
 have e2:splice (pz m k) (k*16) (aT ξ ((m.drop (k*16)).take 16))=aT ξ (splice (m.take (16*k)++dv (128 - 16*k) 0) (k*16) ((m.drop (k*16)).take 16)):=by
  simp [splice,aT,pz]
 rw[e2]
 unfold pz
 congr 1
 unfold splice
 have l1:(m.take (16*k)).length=16*k:=by rw[cW];omega
 have l2:((m.drop (k*16)).take 16).length=16:=by simp;omega
 have a1:ay (k*16) (m.take (16*k)++dv (128 - 16*k) (0:Int))=m.take (16*k):=by
  rw[List.take_append_of_le_length (by omega)];exact eQ (by omega)
 have a2:ax (k*16+16) (m.take (16*k)++dv (128 - 16*k) (0:Int))=dv (128 - 16*(k+1)) 0:=by
  rw[List.drop_append,List.drop_of_length_le (by omega),jr,List.drop_replicate,l1];congr 1;omega
 rw[l2,a1,a2,show 16*(k+1)=16*k+16 by omega,List.take_add,show k*16=16*k by omega]
theorem J6:aO Tryz.prog 33 xL:=eC xU mixed (fun args kb K h=>by
 unfold xL at h;split at h<;>try exact h.elim
 obtain⟨l,rfl,hb,hl,h1,h2⟩:=h
 cases ho:fM l with
 |none=>
  refine⟨Gk [] (pz []) [] 33,WN l [] (pz []) [] K ⟨l,rfl,hb,hl,fun _=>⟨fun _=>h2 (fun m hm=>by rw[ho]at hm;cases hm),fun h=>by cases h⟩,fun m hm=>by rw[ho]at hm;cases hm⟩⟩
 |some m=>
  have hml:=Dk ho
  refine⟨Gk m (pz m) (dv 128 (η (.int ξ 0))) 33,WN l m (pz m) (dv 128 (η (.int ξ 0))) K ⟨l,rfl,hb,hl,fun h0=>(by rw[ho]at h0;cases h0),fun m' hm=>?_⟩⟩
  rw[ho]at hm;cases hm
  refine⟨fun e=>⟨fun h=>(by cases h),fun _=>⟨fun _=>h2 (fun m' hm'=>?_),fun h=>?_⟩⟩,fun h=>(by cases h),fun _=>⟨fun hn=>h2 (fun m' hm'=>?_),fun hn=>?_⟩⟩
  ·rw[ho]at hm';cases hm'
   rw[e];simp
  ·cases h
  ·rw[ho]at hm';cases hm'
   simp only[ly,bne_iff_ne,ne_eq]at hn;omega
  ·have Ci:m.length=128:=by simp only[ly,bne_eq_false_iff_eq]at hn;omega
   refine⟨At.mk' ⟨0,bj _⟩ rfl,?_⟩
   rintro⟨k,hk⟩
   simp only[qF]at hk ⊢
   refine⟨fun hc=>?_,fun hc=>?_⟩
   ·simp only[decide_eq_true_eq]at hc
    have w1:=bE (n:=(k:Int)*16) (by omega) (by omega)
    have w2:=bE (n:=(k:Int)+1) (by omega) (by omega)
    have e2:((k:Nat):Int).toNat=k:=by omega
    have e3:((k:Int)*16).toNat=k*16:=by omega
    rw[w1,w2,e2,e3]
    simp only[c9,ly]
    rw[Y4 Ci (by omega)]
    refine⟨by unfold aA;omega,trivial,by omega,by omega,by omega,?_,by unfold br;omega,by omega,?_⟩
    ·rw[Cy,yL];simp [aT];omega
    ·exact Nx.mk' (⟨k+1,by show k+1<=8;omega⟩:{k:Nat // qF k}) rfl (by show 8 - (k+1)<8 - k;omega)
   ·simp only[decide_eq_false_iff_not]at hc
    have:k=8:=by omega
    subst this
    have e:pz m 8=aT ξ m:=by
     unfold pz
     rw[eQ (by omega)];simp
    rw[e]
    exact h1 m ho Ci)
def Gj:FuncId->Option du
 | 84=>some ⟨[.mK,.mK,.fL 1],A_⟩
 | 86=>some ⟨[],Az⟩
 | 85=>some ⟨[],A0⟩
 | 68=>some ⟨[],ub⟩
 | 33=>some ⟨[.fL 1],xL⟩
 |f=>Bx f
noncomputable def XD:cd:=dM Tryz.prog Gj aG 10
theorem ahd (a0 a1 a2 a3 a4 a5 a7 a8 a9 aK a_ a12 aQ π υ aX aL aS aM a20 a21:Value) (c:List D) (K:V->KB->Prop) (aq:
 ∃(pB:List Int),c=aT ξ pB/\
 pB.length=128/\
 (128<=(ints ξ pB).length/\
 True)/\
 ∃(l:List Int),ax 0 (ay 128 (ints ξ pB))=ints ξ l/\
 (∀(c:Int),dW c l->
 0<=c/\
 c<256)/\
 l.length<=900000/\
 oM (ints ξ (ca l)).flatten/\
 K (ζ 1 0 (l.length+4)) [aB [δ a0,δ a1,δ a2,δ a3,δ a4,δ a5,bF 128 (aT ξ pB),δ a7,δ a8,δ a9,δ aK,δ a_,δ a12,δ aQ,δ π,δ υ,δ aX,δ aL,δ aS,δ aM,δ a20,δ a21],ai 5 1 (ints ξ (ca l))]
 ):aI Tryz.prog XD (aG 38) 38 [aj 0 6] [aB [δ a0,δ a1,δ a2,δ a3,δ a4,δ a5,bF 128 c,δ a7,δ a8,δ a9,δ aK,δ a_,δ a12,δ aQ,δ π,δ υ,δ aX,δ aL,δ aS,δ aM,δ a20,δ a21]] K:=by apply Eq.mp (a:=aq);kernel_rfl
theorem ahj (a0 a1 a2 a3 a4 a5 a7 a8 a9 aK a_ a12 aQ π υ aX aL aS aM a20 a21:Value) (c:List D) (K:V->KB->Prop) (aq:
 ∃(pB:List Int),c=aT ξ pB/\
 pB.length=128/\
 128<=(ints ξ pB).length/\
 (1<=1/\
 True)/\
 ∃(ls:List (List Int)),[[χ 1 (ax 0 (ay 128 (ints ξ pB)))]]=ae bO ls/\
 (ls.length<=1000000/\
 ∀(l:List Int),dW l ls->
 (∀(c:Int),dW c l->
 0<=c/\
 c<256)/\
 l.length.le 1000000)/\
 True/\
 K (ε iM (eG ls.flatten)) [aB [δ a0,δ a1,δ a2,δ a3,δ a4,δ a5,bF 128 (aT ξ pB),δ a7,δ a8,δ a9,δ aK,δ a_,δ a12,δ aQ,δ π,δ υ,δ aX,δ aL,δ aS,δ aM,δ a20,δ a21]]
 ):aI Tryz.prog XD (aG 49) 49 [aj 0 6] [aB [δ a0,δ a1,δ a2,δ a3,δ a4,δ a5,bF 128 c,δ a7,δ a8,δ a9,δ aK,δ a_,δ a12,δ aQ,δ π,δ υ,δ aX,δ aL,δ aS,δ aM,δ a20,δ a21]] K:=by apply Eq.mp (a:=aq);kernel_rfl
theorem Y3:dD Tryz.prog Gj:=fun f k h=>by
 unfold Gj at h
 split at h
 ·cases h;exact TN
 ·cases h;exact Tm
 ·cases h;exact TL
 ·cases h;exact J5
 ·cases h;exact J6
 ·exact OM _ _ h
theorem Ny:cx Tryz.prog XD:=dP mixed Y3 aG 10
def AA:aE:=fun args kb K=>match args,kb with
 | [aj 0 6],[aB [δ a0,δ a1,δ a2,δ a3,δ a4,δ a5,bF 128 C,δ a7,δ a8,δ a9,δ aK,δ a_,δ a12,δ aQ,δ π,δ υ,δ aX,δ aL,δ aS,δ aM,δ a20,δ a21]]=>∃ c:List Int,C=aT ξ c/\c.length=128/\bq c/\K (.sl 1 0 132) [aB [δ a0,δ a1,δ a2,δ a3,δ a4,δ a5,bF 128 (aT ξ c),δ a7,δ a8,δ a9,δ aK,δ a_,δ a12,δ aQ,δ π,δ υ,δ aX,δ aL,δ aS,δ aM,δ a20,δ a21],ai 5 1 (ints ξ (ca c))]
 |_,_=>False
def xM:aE:=fun args kb K=>match args,kb with
 | [aj 0 6],[aB [δ a0,δ a1,δ a2,δ a3,δ a4,δ a5,bF 128 C,δ a7,δ a8,δ a9,δ aK,δ a_,δ a12,δ aQ,δ π,δ υ,δ aX,δ aL,δ aS,δ aM,δ a20,δ a21]]=>∃ c:List Int,C=aT ξ c/\c.length=128/\bq c/\K (.int iM (eG c)) [aB [δ a0,δ a1,δ a2,δ a3,δ a4,δ a5,bF 128 (aT ξ c),δ a7,δ a8,δ a9,δ aK,δ a_,δ a12,δ aQ,δ π,δ υ,δ aX,δ aL,δ aS,δ aM,δ a20,δ a21]]
 |_,_=>False
theorem t128 {c:List Int} (h:c.length=128):ax 0 (ay 128 (ints ξ c))=ints ξ c:=by rw[<- h];rw[iD];exact eQ (by rw[bi];omega)
theorem Tn:aO Tryz.prog 38 AA:=eC Ny mixed (fun args kb K h=>by
 unfold AA at h;split at h<;>try exact h.elim
 obtain⟨c,rfl,hl,hb,h⟩:=h
 refine⟨aG 38,ahd _ _ _ _ _ _ _ _ _ _ _ _ _ _ _ _ _ _ _ _ _ _ K ⟨c,rfl,hl,⟨by rw[bi];omega,trivial⟩,c,t128 hl,hb,by omega,⟨o9⟩,?_⟩⟩
 rw[hl];exact h)
theorem J7:aO Tryz.prog 49 xM:=eC Ny mixed (fun args kb K h=>by
 unfold xM at h;split at h<;>try exact h.elim
 obtain⟨c,rfl,hl,hb,h⟩:=h
 refine⟨aG 49,ahj _ _ _ _ _ _ _ _ _ _ _ _ _ _ _ _ _ _ _ _ _ _ K ⟨c,rfl,hl,by rw[bi];omega,⟨by decide,trivial⟩,[c],by rw[t128 hl];rfl,⟨by simp,fun x hx=>?_⟩,trivial,?_⟩⟩
 ·cases hx with
  |head=>exact⟨hb,by show c.length<=1000000;omega⟩
  |tail _ hx=>cases hx
 ·rw[OV];exact h)
end Go.Proofs.YtfcjngcnifdmnaaGreat
set_option linter.unusedSimpArgs false
set_option linter.unusedVariables false
namespace Vc
open Go
open Go.IntKind renaming i64->γ,u8->ξ,u32->iM
open Go.Value renaming int->ν,map->kT,bool->mG,oneCell'->mH
open List renaming map->ae,drop->ax,take->ay,length_append->bn,getElem?_eq_getElem->bu,getElem?_eq_some_iff->bH,length_map->bT,take_length->cQ,length_take->cW,mem_singleton->da,replicate->dv,mem_append->dz,mem_map->dO,mem_cons->dS,Mem->dW,append_assoc->dX,getElem?_append_left->dY,take_of_length_le->eQ,getElem?_append_right->fk,getElem?_map->fy,mem_of_getElem?->fF,length_drop->gm,mem_cons_of_mem->gn,append_nil->gz,length_cons->gA,getD_eq_getElem?_getD->gO,getElem?_set_ne->gP,mem_append_left->gQ,length_singleton->gZ,drop_zero->iD,getElem?_eq_none->iE,getElem?_take_of_lt->iF,length_set->iG,getElem?_set_self->iN,mem_cons_self->iV,map_append->ja,range->jb,nil_append->jr,take_add_one->jt,flatten_cons->jF,getElem?_of_mem->jG,getElem?_drop->jW,map_cons->kv,length_nil->kP,mem_append_right->kQ,mem_filter->lu,ext_getElem?->mb,eq_nil_of_length_eq_zero->mD
open Nat renaming le_refl->ar,zero_le->bj,beq->cX,zero_add->c9,eq_of_beq_eq_true->de,add_assoc->g_,lor->iW,lt_or_ge->kx,sub_zero->ly,le_trans->mc
open Option renaming some->bb,bind_eq_some_iff->lO,map->ng
open Int renaming toNat_natCast->cN,le_refl->dE
open Bool renaming and_eq_true->jo,not_eq_false'->kr,not_eq_true'->mA
def mQ (f:Nat->Value):List Bool->List V->Nat->Option (List V)
 |true::ms,v::l,i=>match v,mQ f ms l (i+1)with
  | .arr _ _,_=>none
  |_,some r=>some (.any (f i)::r)
  |_,none=>none
 |false::ms,v::l,i=>match mQ f ms l (i+1)with
  |some r=>some (v::r)
  |none=>none
 | [],l,_=>some l
 |_:: _,[],_=>some []
def oE (f:Nat->Value):List Bool->List V->List V->Nat->Option (List (Value×Value)×List V)
 |true::ms,v::l,w::l2,i=>match w,oE f ms l l2 (i+1)with
  | .any y',some (es,r)=>some ((y',f i)::es,v::r)
  |_,_=>none
 |false::ms,_::l,w::l2,i=>match oE f ms l l2 (i+1)with
  |some (es,r)=>some (es,w::r)
  |none=>none
 | [],_,l2,_=>some ([],l2)
 |_:: _,[],[],_=>some ([],[])
 |_,_,_,_=>none
def bU:List (Value×Value)->Prop
 | []=>True
 |p::l=>p.1=p.2/\bU l
structure Nd (l:List (Value×Value)):Prop where
 h:bU l
abbrev bz (f:Nat->Value) (l:List Nat):Prop:=Nd (l.map fun i=>(f i,f i))
def lx (f:Nat->Value) (σ:Sg) (E:EH):List Bool->List V->Nat->Prop
 |true::ms,v::l,i=>((f i).oneCell'=true/\Den σ E v (f i))/\lx f σ E ms l (i+1)
 |false::ms,v::l,i=>lx f σ E ms l (i+1)
 | [],_,_=>True
 |_:: _,[],_=>True
theorem Jm {f g:Nat->Value}:∀{ms:List Bool} {l:List V} {i:Nat},(∀ j,i<=j->f j=g j)->mQ f ms l i=mQ g ms l i
 |true::ms,v::l,i,h=>by simp only[mQ,Jm (ms:=ms) (l:=l) (i:=i+1) (fun j hj=>h j (by omega)),h i (ar _)]
 |false::ms,v::l,i,h=>by simp only[mQ,Jm (ms:=ms) (l:=l) (i:=i+1) (fun j hj=>h j (by omega))]
 | [],l,i,h=>rfl
 |true:: _,[],i,h=>rfl
 |false:: _,[],i,h=>rfl
theorem EK {f g:Nat->Value} {σ:Sg} {E:EH}:∀{ms:List Bool} {l:List V} {i:Nat},(∀ j,i<=j->f j=g j)->lx f σ E ms l i->lx g σ E ms l i
 |true::ms,v::l,i,h,k=>by
  simp only[lx]at k ⊢
  rw[<- h i (ar _)]
  exact⟨k.1,EK (fun j hj=>h j (by omega)) k.2⟩
 |false::ms,v::l,i,h,k=>by
  simp only[lx]at k ⊢
  exact EK (fun j hj=>h j (by omega)) k
 | [],l,i,h,k=>by simp only[lx]
 |true:: _,[],i,h,k=>by simp only[lx]
 |false:: _,[],i,h,k=>by simp only[lx]
theorem CZ {σ:Sg} {E:EH}:∀{ms:List Bool} {l:List V} {i:Nat} {xs:List Value},aV σ E l xs->∃ f:Nat->Value,(∀ l',mQ f ms l i=some l'->aV σ E l' xs/\lx f σ E ms l i)
 | [],l,i,xs,hd=>⟨fun _=>undef,fun l' h=>by simp only[mQ,bb.injEq]at h;subst h;exact⟨hd,by simp only[lx]⟩⟩
 |true:: _,[],i,xs,hd=>⟨fun _=>undef,fun l' h=>by simp only[mQ,bb.injEq]at h;subst h;exact⟨hd,by simp only[lx]⟩⟩
 |false:: _,[],i,xs,hd=>⟨fun _=>undef,fun l' h=>by simp only[mQ,bb.injEq]at h;subst h;exact⟨hd,by simp only[lx]⟩⟩
 |false::ms,v::l,i,xs,hd=>by
  obtain⟨ys,zs,rfl,h1,h2⟩:=hd.iT
  obtain⟨f,hf⟩:=CZ (ms:=ms) (i:=i+1) h2
  refine⟨f,fun l' h=>?_⟩
  simp only[mQ]at h
  split at h<;>try (cases h;done)
  rename_i r hr
  cases h
  obtain⟨h3,h4⟩:=hf r hr
  exact⟨.cons h1 h3,by simp only[lx];exact h4⟩
 |true::ms,v::l,i,xs,hd=>by
  obtain⟨ys,zs,rfl,h1,h2⟩:=hd.iT
  obtain⟨f,hf⟩:=CZ (ms:=ms) (i:=i+1) h2
  rcases h1 with ⟨y,rfl,hy,hv⟩ | ⟨m,cs,rfl,_,_⟩
  ·refine⟨fun j=>if j=i then y else f j,fun l' h=>?_⟩
   have hc:∀ j,i+1<=j->(fun j=>if j=i then y else f j) j=f j:=fun j hj=>by dsimp only;rw[if_neg (by omega)]
   simp only[mQ,Jm hc]at h
   split at h<;>try (cases h;done)
   rename_i _ _ r _ hr
   simp only[if_true,bb.injEq]at h
   subst h
   obtain⟨h3,h4⟩:=hf r hr
   refine⟨aV.ju (by simp [Den]) hy h3,?_⟩
   simp only[lx,if_pos rfl]
   exact⟨⟨hy,hv⟩,EK (fun j hj=>(hc j hj).symm) h4⟩
  ·exact⟨fun _=>undef,fun l' h=>by simp only[mQ]at h;cases h⟩
theorem LV {f:Nat->Value} {σ τ:Sg} {E E':EH} (hE:E.le E'):∀{ms:List Bool} {l l2:List V} {i:Nat} {es:List (Value×Value)} {r:List V},oE f ms l l2 i=some (es,r)->bU es->lx f σ E ms l i->∀{xs:List Value},aV (σ++τ) E' l2 xs->aV (σ++τ) E' r xs
 | [],l,l2,i,es,r,h,hs,hm,xs,hd=>by
  simp only[oE,bb.injEq,Prod.mk.injEq]at h
  rw[<- h.2];exact hd
 |false::ms,v::l,w::l2,i,es,r,h,hs,hm,xs,hd=>by
  simp only[oE]at h
  split at h<;>try (cases h;done)
  rename_i es' r' hr
  cases h
  simp only[lx]at hm
  obtain⟨ys,zs,rfl,h1,h2⟩:=hd.iT
  exact .cons h1 (LV hE hr hs hm h2)
 |true::ms,v::l,w::l2,i,es,r,h,hs,hm,xs,hd=>by
  simp only[oE]at h
  split at h<;>try (cases h;done)
  rename_i y' es' r' hr
  cases h
  simp only[lx]at hm
  simp only[bU]at hs
  obtain⟨ys,zs,rfl,h1,h2⟩:=hd.iT
  rcases h1 with ⟨z,rfl,hz,uL⟩ | ⟨m,cs,e,_,_⟩
  ·simp only[Den]at uL
   subst uL
   rw[hs.1]at*
   exact aV.ju (Den.mono hE hm.1.2) hm.1.1 (LV hE hr hs.2 hm.2 h2)
  ·cases e
 |true:: _,[],[],i,es,r,h,hs,hm,xs,hd=>by
  simp only[oE,bb.injEq,Prod.mk.injEq]at h
  rw[<- h.2];exact hd
 |false:: _,[],[],i,es,r,h,hs,hm,xs,hd=>by
  simp only[oE,bb.injEq,Prod.mk.injEq]at h
  rw[<- h.2];exact hd
 |true:: _,[],_:: _,i,es,r,h,hs,hm,xs,hd=>by simp [oE]at h
 |true:: _,_:: _,[],i,es,r,h,hs,hm,xs,hd=>by simp [oE]at h
 |false:: _,[],_:: _,i,es,r,h,hs,hm,xs,hd=>by simp [oE]at h
 |false:: _,_:: _,[],i,es,r,h,hs,hm,xs,hd=>by simp [oE]at h
def eL (ms:List Bool) (S:aE):aE:=fun args kb K=>match kb with
 | .cells l::r=>∀ f:Nat->Value,match mQ f ms l 0 with
  |some l'=>zA S args (.cells l'::r) (fun res bY=>match bY with
   | .cells l2::r2=>match oE f ms l l2 0 with
    |some (es,l3)=>Nd es/\K res (.cells l3::r2)
    |none=>False
   |_=>False)
  |none=>False
 |_=>False
theorem tH {σ:Sg} {l l':List V} {r:KB} {b:Nat} (h:dc σ (.cells l::r) b):dc σ (.cells l'::r) b:=by
 obtain⟨i,q,o,h1,h2,h3⟩:=h
 cases i with
 |zero=>simp at h2;subst h2;exact⟨0,q,.cells l',h1,rfl,h3⟩
 |succ i=>exact⟨i+1,q,o,h1,by simpa using h2,h3⟩
theorem fJ {P:Program} {f:FuncId} {S:aE} (hS:aO P f S) (ms:List Bool):aO P f (eL ms S):=fun args kb K h σ E W xs hi hd=>by
 unfold eL at h
 split at h<;>try exact h.elim
 rename_i l r
 have h0:∃ q,σ[0]? =some q:=by
  have:=hi.len
  cases σ with
  |nil=>simp at this
  |cons q σ=>exact⟨q,rfl⟩
 obtain⟨q,hq⟩:=h0
 obtain⟨arr,ty,ha,hl⟩:=hi.obj 0 q _ hq rfl
 obtain⟨f,hf⟩:=CZ (ms:=ms) (i:=0) hl
 have h:=h f
 split at h<;>try exact h.elim
 rename_i l' hl'
 obtain⟨h1,h2⟩:=hf l' hl'
 have h3:=h
 have hi':Inv σ E (.cells l'::r) W:=by
  refine⟨by simpa using hi.len,fun i q' o k1 k2=>?_,fun i j q1 q2 o o' b hij k1 k2 k3 k4 k5 k6=>?_,hi.fe,fun b hb=>hi.sep b (tH hb)⟩
  ·cases i with
   |zero=>
    simp at k2;subst k2
    rw[hq]at k1;cases k1
    exact⟨arr,ty,ha,h1⟩
   |succ i=>exact hi.obj (i+1) q' o k1 (by simpa using k2)
  ·have key:∀(i:Nat) (o:KO) (q:Re),(KO.cells l'::r)[i]? =some o->owned q o b->∃ o2,(KO.cells l::r)[i]? =some o2/\owned q o2 b:=fun i o q h2 h5=>by
    cases i with
    |zero=>simp at h2;subst h2;exact⟨_,rfl,h5⟩
    |succ i=>exact⟨o,by simpa using h2,h5⟩
   obtain⟨o2,g1,g2⟩:=key i o q1 k2 k5
   obtain⟨o3,g3,g4⟩:=key j o' q2 k4 k6
   exact hi.eH i j q1 q2 o2 o3 b hij k1 g1 k3 g3 g2 g4
 refine(D1 hS h3 hi' hd).mono ?_
 rintro e W' ⟨v,res,σ',E',bY,rfl,hst,eT,hK⟩
 split at hK<;>try exact hK.elim
 rename_i l2 r2
 obtain⟨τ,rfl⟩:=hst.pre
 have pM:(σ++τ)[0]? =some q:=jR hq
 obtain⟨YJ,WD,ha2,hl2⟩:=hst.inv.obj 0 q _ pM rfl
 split at hK<;>try exact hK.elim
 rename_i es l3 hun
 obtain⟨hsame,h5⟩:=hK
 have h4:=LV hst.le hun hsame.h h2 hl2
 refine⟨v,res,σ++τ,E',.cells l3::r2,rfl,⟨?_,⟨hst.c8.os,hst.c8.tape,hst.c8.output,hst.c8.size,fun k hk hn=>hst.c8.block k hk (fun ho=>hn (tH ho))⟩,⟨τ,rfl⟩,hst.le,fun b hb=>?_,fun b o hb=>?_⟩,eT,h5⟩
 ·refine⟨by simpa using hst.inv.len,fun i q' o k1 k2=>?_,fun i j q1 q2 o o' b hij k1 k2 k3 k4 k5 k6=>?_,hst.inv.fe,fun b hb=>hst.inv.sep b (tH hb)⟩
  ·cases i with
   |zero=>
    simp at k2;subst k2
    rw[pM]at k1;cases k1
    exact⟨YJ,WD,ha2,h4⟩
   |succ i=>exact hst.inv.obj (i+1) q' o k1 (by simpa using k2)
  ·have key:∀(i:Nat) (o:KO) (q:Re),(KO.cells l3::r2)[i]? =some o->owned q o b->∃ o2,(KO.cells l2::r2)[i]? =some o2/\owned q o2 b:=fun i o q h2 h5=>by
    cases i with
    |zero=>simp at h2;subst h2;exact⟨_,rfl,h5⟩
    |succ i=>exact⟨o,by simpa using h2,h5⟩
   obtain⟨o2,g1,g2⟩:=key i o q1 k2 k5
   obtain⟨o3,g3,g4⟩:=key j o' q2 k4 k6
   exact hst.inv.eH i j q1 q2 o2 o3 b hij k1 g1 k3 g3 g2 g4
 ·rcases hst.own b (tH hb)with k | k
  ·exact .inl (tH k)
  ·exact .inr k
 ·rcases hst.new b o hb with k | k | k
  ·exact .inl k
  ·exact .inr (.inl (tH k))
  ·exact .inr (.inr k)
end Vc
set_option linter.unusedSimpArgs false
set_option linter.unusedVariables false
namespace Vc
open Go Go.Shelf Go.RowKit Go.Proofs Go.Lib
open Go.IntKind renaming i64->γ,u8->ξ,u32->iM
open Go.Value renaming int->ν,map->kT,bool->mG,oneCell'->mH
open List renaming map->ae,drop->ax,take->ay,length_append->bn,getElem?_eq_getElem->bu,getElem?_eq_some_iff->bH,length_map->bT,take_length->cQ,length_take->cW,mem_singleton->da,replicate->dv,mem_append->dz,mem_map->dO,mem_cons->dS,Mem->dW,append_assoc->dX,getElem?_append_left->dY,take_of_length_le->eQ,getElem?_append_right->fk,getElem?_map->fy,mem_of_getElem?->fF,length_drop->gm,mem_cons_of_mem->gn,append_nil->gz,length_cons->gA,getD_eq_getElem?_getD->gO,getElem?_set_ne->gP,mem_append_left->gQ,length_singleton->gZ,drop_zero->iD,getElem?_eq_none->iE,getElem?_take_of_lt->iF,length_set->iG,getElem?_set_self->iN,mem_cons_self->iV,map_append->ja,range->jb,nil_append->jr,take_add_one->jt,flatten_cons->jF,getElem?_of_mem->jG,getElem?_drop->jW,map_cons->kv,length_nil->kP,mem_append_right->kQ,mem_filter->lu,ext_getElem?->mb,eq_nil_of_length_eq_zero->mD
open Nat renaming le_refl->ar,zero_le->bj,beq->cX,zero_add->c9,eq_of_beq_eq_true->de,add_assoc->g_,lor->iW,lt_or_ge->kx,sub_zero->ly,le_trans->mc
open Option renaming some->bb,bind_eq_some_iff->lO,map->ng
open Int renaming toNat_natCast->cN,le_refl->dE
open Bool renaming and_eq_true->jo,not_eq_false'->kr,not_eq_true'->mA
def AG (ty:TypeId):aE:=fun args kb K=>match args,kb with
 | [.any (.slice none 0 0),.int γ n],[]=>0<=n/\n<=1000000/\K (.sl 0 0 0) [.row ty 1 []]
 |_,_=>False
theorem acS {P:Program} {ρ:Ren} (L:Lays8.n4 P ρ) (i0:TypeInfo) (z:Value) (hi0:P.info? (ρ.t 25)=some i0) (hz0:i0.zero=some z) (hs0:i0.size=1) (hb0:i0.bytes=8) (uK:z.cells.size=1):aO P (ρ.f 4) (AG (ρ.t 25)):=fun args kb K h σ E W xs hi hd=>by
 unfold AG at h
 split at h<;>try exact h.elim
 rename_i n
 obtain⟨h0,h1,h⟩:=h
 simp only[az,Den]at hd
 obtain⟨x,xs',rfl,rfl,x2,Xg,rfl,rfl,rfl⟩:=hd
 obtain⟨m,rfl⟩:∃ m:Nat,n=(m:Int):=⟨n.toNat,by omega⟩
 have hlen:σ.length=0:=hi.len
 rcases Nat.eq_zero_or_pos m with hm | hm
 ·subst hm
  refine(Any8.slices_Grow_room L none 0 0 0 W (ar _) (by omega) (by omega) (by omega)).mono ?_
  rintro e W' ⟨rfl,rfl⟩
  have hgrow:=hi.grow (W':=W') ⟨0,0,1⟩ (.row (ρ.t 25) 1 []) rfl rfl rfl (ar _) (fun _ _=>rfl) (fun b hb=>absurd rfl hb.1) ⟨rfl,wl.nil,ar _,bj _,.inl rfl⟩
  refine⟨_,.sl 0 0 0,_,E,_,rfl,hgrow,?_,h⟩
  simp only[Den]
  exact⟨⟨0,0,1⟩,none,by rw[fk (by omega),hlen];rfl,rfl,ar _,ar _,fun f=>absurd f (Nat.lt_irrefl _)⟩
 ·have hG:=Any8.slices_Grow_grow L i0 z hi0 hz0 (by omega) none 0 0 m [] W (ar _) (by omega) (by rw[hb0];omega) (by omega) (by simp) (fun _=>rfl) (fun a f=>by cases f)
  refine hG.mono ?_
  rintro e W' ⟨rfl,rfl⟩
  have hge:0+m<=grownCap W (0+m) 0 (ρ.t 25):=grownCap_ge W _ _ _
  have hle:=grownCap_le_maxLen W (0+m) 0 (ρ.t 25) (by simp only[maxLen];omega)
  have hheap:∀ o:Obj,(W.drew.alloc o).heap=W.heap.push o:=fun _=>rfl
  have hgrow:=hi.grow (W':=W.drew.alloc (.cells (([]:List Value).toArray++Builtin.zeroCells z.cells (0+m - 0)++Builtin.zeroCells z.cells (grownCap W (0+m) 0 (ρ.t 25) - (0+m))) (ρ.t 25)))
   ⟨W.heap.size,grownCap W (0+m) 0 (ρ.t 25),1⟩ (.row (ρ.t 25) 1 []) rfl rfl rfl (by rw[hheap,Array.size_push];omega) (fun k hk=>by rw[hheap,Array.getElem?_push_lt hk,Array.getElem?_eq_getElem hk]) (fun b hb=>by have:=hb.2;simp only at this;omega)
   ⟨rfl,wl.nil,bj _,hle,.inr ⟨_,(MapKept.heap_alloc W.drew _).1,by simp only[Array.size_append,List.size_toArray,size_zeroCells,uK,kP];omega,by simp [bh]⟩⟩
  refine⟨_,.sl 0 0 0,_,E,_,rfl,hgrow,?_,h⟩
  simp only[Den]
  exact⟨⟨W.heap.size,grownCap W (0+m) 0 (ρ.t 25),1⟩,some ⟨W.heap.size,0,none⟩,by rw[fk (by omega),hlen];rfl,rfl,ar _,bj _,fun _=>by simp⟩
end Vc
namespace Go.Proofs.YtfcjngcnifdmnaaGreat
open Go.Shelf
open Go.IntKind renaming i64->γ,u8->ξ,u32->iM
open Vc.V renaming any->δ,int->ε,sl->ζ,sb->ο,ptr->aj,φ->au,dat->aC,aa->aR,mp->aY,arr->bF,agg->fz
open Vc.D renaming val->η,sl->χ
open Go.Value renaming int->ν,map->kT,bool->mG,oneCell'->mH
open List renaming map->ae,drop->ax,take->ay,length_append->bn,getElem?_eq_getElem->bu,getElem?_eq_some_iff->bH,length_map->bT,take_length->cQ,length_take->cW,mem_singleton->da,replicate->dv,mem_append->dz,mem_map->dO,mem_cons->dS,Mem->dW,append_assoc->dX,getElem?_append_left->dY,take_of_length_le->eQ,getElem?_append_right->fk,getElem?_map->fy,mem_of_getElem?->fF,length_drop->gm,mem_cons_of_mem->gn,append_nil->gz,length_cons->gA,getD_eq_getElem?_getD->gO,getElem?_set_ne->gP,mem_append_left->gQ,length_singleton->gZ,drop_zero->iD,getElem?_eq_none->iE,getElem?_take_of_lt->iF,length_set->iG,getElem?_set_self->iN,mem_cons_self->iV,map_append->ja,range->jb,nil_append->jr,take_add_one->jt,flatten_cons->jF,getElem?_of_mem->jG,getElem?_drop->jW,map_cons->kv,length_nil->kP,mem_append_right->kQ,mem_filter->lu,ext_getElem?->mb,eq_nil_of_length_eq_zero->mD
open Vc.KO renaming row->ai,dead->aw,cells->aB,objs->fE
open Nat renaming le_refl->ar,zero_le->bj,beq->cX,zero_add->c9,eq_of_beq_eq_true->de,add_assoc->g_,lor->iW,lt_or_ge->kx,sub_zero->ly,le_trans->mc
open Option renaming some->bb,bind_eq_some_iff->lO,map->ng
open Int renaming toNat_natCast->cN,le_refl->dE
open Bool renaming and_eq_true->jo,not_eq_false'->kr,not_eq_true'->mA
def Qm:Go.Shelf.Ren:=⟨fun | 4=>100 | n=>n,fun | 22=>38 | 25=>3 | 3=>3 | 4=>4 | 9=>9 | 20=>20 | 0=>0 | n=>n,fun | n=>n⟩
theorem aaA:Go.Proofs.Lays8.n4 Tryz.prog Qm:={
 mixed:=by kernel_rfl
 f4:=⟨Tryz.f100.name,by decide,Tryz.func100.trans (congrArg some (by kernel_rfl))⟩
 t0:=Tryz.underlying0
 a0:=Tryz.isAgg0
 z0:=Tryz.sizeOf0
 v0:=Tryz.zeroValue0
 t3:=Tryz.underlying3
 a3:=Tryz.isAgg3
 z3:=Tryz.sizeOf3
 v3:=Tryz.zeroValue3
 t4:=Tryz.underlying4
 a4:=Tryz.isAgg4
 z4:=Tryz.sizeOf4
 v4:=Tryz.zeroValue4
 t9:=Tryz.underlying9
 a9:=Tryz.isAgg9
 z9:=Tryz.sizeOf9
 v9:=Tryz.zeroValue9
 t20:=Tryz.underlying20
 a20:=Tryz.isAgg20
 z20:=Tryz.sizeOf20
 v20:=Tryz.zeroValue20
 t22:=Tryz.underlying38
 a22:=Tryz.isAgg38
 z22:=Tryz.sizeOf38
 v22:=Tryz.zeroValue38 }
theorem acR:Vc.aO Tryz.prog 100 (Vc.AG 3):=Vc.acS (ρ:=Qm) aaA ((Tryz.prog.info? 3).get (by kernel_rfl)) (.int γ 0) (by kernel_rfl) (by kernel_rfl) (by kernel_rfl) (by kernel_rfl) rfl
end Go.Proofs.YtfcjngcnifdmnaaGreat
namespace Go.Proofs.YtfcjngcnifdmnaaGreat
open Vc Go
open Go.IntKind renaming i64->γ,u8->ξ,u32->iM
open Vc.V renaming any->δ,int->ε,sl->ζ,sb->ο,ptr->aj,φ->au,dat->aC,aa->aR,mp->aY,arr->bF,agg->fz
open Vc.D renaming val->η,sl->χ
open Go.Value renaming int->ν,map->kT,bool->mG,oneCell'->mH
open List renaming map->ae,drop->ax,take->ay,length_append->bn,getElem?_eq_getElem->bu,getElem?_eq_some_iff->bH,length_map->bT,take_length->cQ,length_take->cW,mem_singleton->da,replicate->dv,mem_append->dz,mem_map->dO,mem_cons->dS,Mem->dW,append_assoc->dX,getElem?_append_left->dY,take_of_length_le->eQ,getElem?_append_right->fk,getElem?_map->fy,mem_of_getElem?->fF,length_drop->gm,mem_cons_of_mem->gn,append_nil->gz,length_cons->gA,getD_eq_getElem?_getD->gO,getElem?_set_ne->gP,mem_append_left->gQ,length_singleton->gZ,drop_zero->iD,getElem?_eq_none->iE,getElem?_take_of_lt->iF,length_set->iG,getElem?_set_self->iN,mem_cons_self->iV,map_append->ja,range->jb,nil_append->jr,take_add_one->jt,flatten_cons->jF,getElem?_of_mem->jG,getElem?_drop->jW,map_cons->kv,length_nil->kP,mem_append_right->kQ,mem_filter->lu,ext_getElem?->mb,eq_nil_of_length_eq_zero->mD
open Vc.KO renaming row->ai,dead->aw,cells->aB,objs->fE
open Nat renaming le_refl->ar,zero_le->bj,beq->cX,zero_add->c9,eq_of_beq_eq_true->de,add_assoc->g_,lor->iW,lt_or_ge->kx,sub_zero->ly,le_trans->mc
open Option renaming some->bb,bind_eq_some_iff->lO,map->ng
open Int renaming toNat_natCast->cN,le_refl->dE
open Bool renaming and_eq_true->jo,not_eq_false'->kr,not_eq_true'->mA
set_option linter.unusedVariables false
set_option linter.unusedSimpArgs false
set_option maxRecDepth 100000
set_option maxHeartbeats 2000000
def k8 (Ls:List (List Int)):List (List D):=Ls.map fun l=>[χ 1 (ints γ l)]
def gF (Ls:List (List Int)) (i:Nat):List Int:=(Ls.take i).flatten
abbrev Gy (Ls:List (List Int)):LI where
 α:={i:Nat // i<=Ls.length}
 live:=[0,3,9,10,11]
 st i:=([aC (.sl 1 (k8 Ls)),.int γ ((gF Ls i.1).length:Int),aC (.sl 1 (k8 Ls)),.int γ (Ls.length:Int),.int γ (i.1:Int)],[])
 μ i:=Ls.length - i.1
abbrev Gz (Ls:List (List Int)):LI where
 α:={i:Nat // i<=Ls.length}
 live:=[6,25,26,27]
 st i:=([.sl 0 0 (gF Ls i.1).length,aC (.sl 1 (k8 Ls)),.int γ (Ls.length:Int),.int γ (i.1:Int)],[ai 3 1 (ints γ (gF Ls i.1))])
 μ i:=Ls.length - i.1
def OF (Ls:List (List Int)):FuncId->Nat->Option LI
 | 73,3=>some (Gy Ls)
 | 73,11=>some (Gz Ls)
 |_,_=>none
def HZ:FuncId->Option du
 | 100=>some ⟨[],AG 3⟩
 |_=>none
noncomputable def NG:cd:=dM Tryz.prog HZ aG 10
def kU (p:Int->Bool) (l:List Int):Int:=match l.findIdx? p with | some i=>(i:Int) | none=>-1
abbrev CE (p:Int->Bool) (l:List Int) (v g:V) (B:KB):LI where
 α:={i:Nat // i<=l.length/\∀ j n,j<i->l[j]? =some n->p n=false}
 live:=[0,1,7,8]
 st i:=([v,g,.int γ (l.length:Int),.int γ (i.1:Int)],B)
 μ i:=l.length - i.1
def IV (p:Int->Bool) (l:List Int) (v g:V) (B:KB):FuncId->Nat->Option LI
 | 99,2=>some (CE p l v g B)
 |_,_=>none
def nE (me:Int) (n:Int):Bool:=n == me
def og (M:ML) (n:Int):Bool:=!iQ M [n] 0
def cJ (n:Int):Bool:=decide (n<0∨1099511627776<n)
structure lL (M:ML):Prop where
 h:∀ k cs,bK M k=some cs->∃ b,cs=[.val (.bool b)]
structure dK (n:Nat):Prop where
 h:n<=100000
def E4:aE:=fun args kb K=>match args,kb with
 | [aC (.sl 1 A)],[]=>∃ Ls,A=k8 Ls/\dK Ls.length/\dK (gF Ls Ls.length).length/\K (.sl 0 0 (gF Ls Ls.length).length) [ai 3 1 (ints γ (gF Ls Ls.length))]
 |_,_=>False
def E_:aE:=fun args kb K=>match args,kb with
 | [.sl 0 0 n,.fn 74 [aj 1 0]],[ai 3 1 A,aB [aj 2 0],aB [.int γ me,δ a1,δ a2,δ a3,δ a4,δ a5,bF 128 C,δ a7,δ a8,δ a9,δ aK,aC (.sl 1 M),aC (.sl 1 J),δ aQ,δ π,δ υ,δ aX,δ aL,δ aS,δ aM,δ a20,δ a21]]=>∃ l,A=ints γ l/\n<=l.length/\dK l.length/\K (.int γ (kU (nE me) (l.take n))) [ai 3 1 (ints γ l),aB [aj 2 0],aB [.int γ me,δ a1,δ a2,δ a3,δ a4,δ a5,bF 128 C,δ a7,δ a8,δ a9,δ aK,aC (.sl 1 M),aC (.sl 1 J),δ aQ,δ π,δ υ,δ aX,δ aL,δ aS,δ aM,δ a20,δ a21]]
 | [.sl 0 0 n,.fn 71 [aj 1 0]],[ai 3 1 A,aB [.mp 2],.mp [γ] false false 1 M]=>∃ l,A=ints γ l/\n<=l.length/\dK l.length/\lL M/\K (.int γ (kU (og M) (l.take n))) [ai 3 1 (ints γ l),aB [.mp 2],.mp [γ] false false 1 M]
 | [aC (.sl 1 A),.fn 92 []],[]=>∃ l,A=ints γ l/\dK l.length/\K (.int γ (kU cJ l)) []
 |_,_=>False
def jj (me:Int) (l:List Int):List Int:=l.filter fun x=> !(x == me)
def wD (me:Int) (l:List Int):List Int:=jj me l++dv (l.length - (jj me l).length) 0
abbrev Pn (a1 a2 a3 a4 a5 a7 a8 a9 aK aQ π υ aX aL aS aM a20 a21:Value) (C:List D) (M J:List (List D)) (me:Int) (l:List Int):LI where
 α:={j:Nat // j<=l.length/\(jj me (l.take j)).length<j}
 live:=[0,1,5,6]
 st j:=([.sl 0 0 l.length,.fn 74 [aj 1 0],.int γ ((jj me (l.take j.1)).length:Int),.int γ (j.1:Int)],[ai 3 1 (ints γ (jj me (l.take j.1)++l.drop (jj me (l.take j.1)).length)),aB [aj 2 0],aB [.int γ me,δ a1,δ a2,δ a3,δ a4,δ a5,bF 128 C,δ a7,δ a8,δ a9,δ aK,aC (.sl 1 M),aC (.sl 1 J),δ aQ,δ π,δ υ,δ aX,δ aL,δ aS,δ aM,δ a20,δ a21]])
 μ j:=l.length - j.1
def ZR (a1 a2 a3 a4 a5 a7 a8 a9 aK aQ π υ aX aL aS aM a20 a21:Value) (C:List D) (M J:List (List D)) (me:Int) (l:List Int):FuncId->Nat->Option LI
 | 72,5=>some (Pn a1 a2 a3 a4 a5 a7 a8 a9 aK aQ π υ aX aL aS aM a20 a21 C M J me l)
 |_,_=>none
def E7:aE:=fun args kb K=>match args,kb with
 | [.sl 0 0 n,.fn 74 [aj 1 0]],[ai 3 1 A,aB [aj 2 0],aB [.int γ me,δ a1,δ a2,δ a3,δ a4,δ a5,bF 128 C,δ a7,δ a8,δ a9,δ aK,aC (.sl 1 M),aC (.sl 1 J),δ aQ,δ π,δ υ,δ aX,δ aL,δ aS,δ aM,δ a20,δ a21]]=>∃ l,A=ints γ l/\n=l.length/\dK l.length/\K (.sl 0 0 (jj me l).length) [ai 3 1 (ints γ (wD me l)),aB [aj 2 0],aB [.int γ me,δ a1,δ a2,δ a3,δ a4,δ a5,bF 128 C,δ a7,δ a8,δ a9,δ aK,aC (.sl 1 M),aC (.sl 1 J),δ aQ,δ π,δ υ,δ aX,δ aL,δ aS,δ aM,δ a20,δ a21]]
 |_,_=>False
def Dl:FuncId->Option du
 | 73=>some ⟨[.fL 1],E4⟩
 | 99=>some ⟨[],E_⟩
 |_=>none
noncomputable def Bk:cd:=dM Tryz.prog Dl aG 10
def Kk:FuncId->Option du
 | 72=>some ⟨[],E7⟩
 |f=>Dl f
noncomputable def NO:cd:=dM Tryz.prog Kk aG 10
def bA (me:Int) (m j:List Int):List Int:=jj me (m++j)
def iJ (me:Int) (m j:List Int):List Int:=wD me (m++j)
def vK:aE:=fun args kb K=>match args,kb with
 | [aj 0 0],[aB [.int γ me,δ a1,δ a2,δ a3,δ a4,δ a5,bF 128 C,δ a7,δ a8,δ a9,δ aK,aC (.sl 1 M),aC (.sl 1 J),δ aQ,δ π,δ υ,δ aX,δ aL,δ aS,δ aM,δ a20,δ a21]]=>∃ m j:List Int,M=ints γ m/\J=ints γ j/\dK (m.length+j.length)/\K (.sl 1 0 (bA me m j).length) [aB [.int γ me,δ a1,δ a2,δ a3,δ a4,δ a5,bF 128 C,δ a7,δ a8,δ a9,δ aK,aC (.sl 1 M),aC (.sl 1 J),δ aQ,δ π,δ υ,δ aX,δ aL,δ aS,δ aM,δ a20,δ a21],ai 3 1 (ints γ (iJ me m j))]
 |_,_=>False
def AD:aE:=fun args kb K=>match args,kb with
 | [.sl 0 0 n,.fn 71 [aj 1 0]],[ai 3 1 A,aB [.mp 2],.mp [γ] false false 1 M]=>∃ l,A=ints γ l/\n<=l.length/\dK l.length/\lL M/\K (ο ((l.take n).any (og M))) [ai 3 1 (ints γ l),aB [.mp 2],.mp [γ] false false 1 M]
 | [aC (.sl 1 A),.fn 92 []],[]=>∃ l,A=ints γ l/\dK l.length/\K (ο (l.any cJ)) []
 |_,_=>False
theorem aht (Ls:List (List Int)) (K:V->KB->Prop) (aq:
 let ω:=ε γ (↑(k8 Ls).length:Int);At (Gy Ls) ([aC (χ 1 (k8 Ls)),ε γ 0,aC (χ 1 (k8 Ls)),ω,ε γ 0],[])/\
 ∀(i:{i:Nat // i<=Ls.length }),(decide ((↑i.val:Int)<(↑Ls.length:Int))=true->
 aA (↑i.val:Int)/\
 ∃(e:List D),(k8 Ls)[(↑i.val:Int).toNat]? =some e/\
 ∃(l:List (List D)),e[0]? =some (χ 1 l)/\
 (decide (γ.wrap ((↑(gF Ls i.val).length:Int)+(↑l.length:Int))<0)=true->
 False)/\
 (decide (γ.wrap ((↑(gF Ls i.val).length:Int)+(↑l.length:Int))<0)=false->
 Nx (Gy Ls) i ([aC (χ 1 (k8 Ls)),ε γ (γ.wrap ((↑(gF Ls i.val).length:Int)+(↑l.length:Int))),aC (χ 1 (k8 Ls)),ε γ (↑Ls.length:Int),ε γ (γ.wrap ((↑i.val:Int)+1))],[])))/\
 (decide ((↑i.val:Int)<(↑Ls.length:Int))=false->
 0<=(↑(gF Ls i.val).length:Int)/\
 (↑(gF Ls i.val).length:Int)<=1000000/\
 At (Gz Ls) ([ζ 0 0 0,aC (χ 1 (k8 Ls)),ω,ε γ 0],[ai 3 1 []])/\
 ∀(i:{i:Nat // i<=Ls.length }),let θ:=(ints γ (gF Ls i.val));(decide ((↑i.val:Int)<(↑Ls.length:Int))=true->
 aA (↑i.val:Int)/\
 ∃(e:List D),(k8 Ls)[(↑i.val:Int).toNat]? =some e/\
 ∃(l:List (List D)),e[0]? =some (χ 1 l)/\
 True/\
 (gF Ls i.val).length<=θ.length/\
 ((gF Ls i.val).length+l.length)*8<=140737488355328/\
 Nx (Gz Ls) i ([ζ 0 0 ((gF Ls i.val).length+l.length),aC (χ 1 (k8 Ls)),ε γ (↑Ls.length:Int),ε γ (γ.wrap ((↑i.val:Int)+1))],[ai 3 1 (ay (gF Ls i.val).length θ++l)]))/\
 (decide ((↑i.val:Int)<(↑Ls.length:Int))=false->
 K (ζ 0 0 (gF Ls i.val).length) [ai 3 1 θ]))
 ):aI Tryz.prog NG (OF Ls 73) 73 [aC (.sl 1 (k8 Ls))] [] K:=by apply Eq.mp (a:=aq);kernel_rfl
theorem ahR (a1 a2 a3 a4 a5 a7 a8 a9 aK aQ π υ aX aL aS aM a20 a21:Value) (C:List D) (M J:List (List D)) (p:Int->Bool) (l ln:List Int) (n:Nat) (me:Int) (K:V->KB->Prop) (aq:
 let θ:KB:=[ai 3 1 (ints γ l),aB [aj 2 0],aB [ε γ me,δ a1,δ a2,δ a3,δ a4,δ a5,bF 128 C,δ a7,δ a8,δ a9,δ aK,aC (χ 1 M),aC (χ 1 J),δ aQ,δ π,δ υ,δ aX,δ aL,δ aS,δ aM,δ a20,δ a21]];let ω:=(CE p ln (ζ 0 0 n) (V.fn 74 [aj 1 0]) θ);At ω ([ζ 0 0 n,V.fn 74 [aj 1 0],ε γ (↑(n - 0):Int),ε γ 0],θ)/\
 ∀(i:{i:Nat // i<=ln.length/\
 ∀(j:Nat) (n:Int),j<i->
 ln[j]? =some n->
 p n=false }),(decide ((↑i.val:Int)<(↑ln.length:Int))=true->
 br (↑i.val:Int) (n - 0)/\
 ∃(e:List D),(ints γ l)[0+(↑i.val:Int).toNat]? =some e/\
 ∃(n_1:Int),e[0]? =some (η (ν γ n_1))/\
 ((n_1 == me)=true->
 K (ε γ (↑i.val:Int)) θ)/\
 ((n_1 == me)=false->
 Nx ω i ([ζ 0 0 n,V.fn 74 [aj 1 0],ε γ (↑ln.length:Int),ε γ (γ.wrap ((↑i.val:Int)+1))],θ)))/\
 (decide ((↑i.val:Int)<(↑ln.length:Int))=false->
 K (ε γ (-1)) θ)
 ):aI Tryz.prog X0 (IV p ln (.sl 0 0 n) (.fn 74 [aj 1 0]) [ai 3 1 (ints γ l),aB [aj 2 0],aB [.int γ me,δ a1,δ a2,δ a3,δ a4,δ a5,bF 128 C,δ a7,δ a8,δ a9,δ aK,aC (.sl 1 M),aC (.sl 1 J),δ aQ,δ π,δ υ,δ aX,δ aL,δ aS,δ aM,δ a20,δ a21]] 99) 99 [.sl 0 0 n,.fn 74 [aj 1 0]] [ai 3 1 (ints γ l),aB [aj 2 0],aB [.int γ me,δ a1,δ a2,δ a3,δ a4,δ a5,bF 128 C,δ a7,δ a8,δ a9,δ aK,aC (.sl 1 M),aC (.sl 1 J),δ aQ,δ π,δ υ,δ aX,δ aL,δ aS,δ aM,δ a20,δ a21]] K:=by apply Eq.mp (a:=aq);kernel_rfl
theorem ahS (p:Int->Bool) (l ln:List Int) (n:Nat) (M:ML) (K:V->KB->Prop) (aq:
 let θ:KB:=[ai 3 1 (ints γ l),aB [aY 2],KO.mp [γ] false false 1 M];let ω:=(CE p ln (ζ 0 0 n) (V.fn 71 [aj 1 0]) θ);At ω ([ζ 0 0 n,V.fn 71 [aj 1 0],ε γ (↑(n - 0):Int),ε γ 0],θ)/\
 ∀(i:{i:Nat // i<=ln.length/\
 ∀(j:Nat) (n:Int),j<i->
 ln[j]? =some n->
 p n=false }),(decide ((↑i.val:Int)<(↑ln.length:Int))=true->
 br (↑i.val:Int) (n - 0)/\
 ∃(e:List D),(ints γ l)[0+(↑i.val:Int).toNat]? =some e/\
 ∃(n_1:Int),e[0]? =some (η (ν γ n_1))/\
 (∀(cs:List D),bK M [n_1]=some cs->
 gN [CK.bool] cs)/\
 ((!iQ M [n_1] 0)=true->
 K (ε γ (↑i.val:Int)) θ)/\
 ((!iQ M [n_1] 0)=false->
 Nx ω i ([ζ 0 0 n,V.fn 71 [aj 1 0],ε γ (↑ln.length:Int),ε γ (γ.wrap ((↑i.val:Int)+1))],θ)))/\
 (decide ((↑i.val:Int)<(↑ln.length:Int))=false->
 K (ε γ (-1)) θ)
 ):aI Tryz.prog X0 (IV p ln (.sl 0 0 n) (.fn 71 [aj 1 0]) [ai 3 1 (ints γ l),aB [.mp 2],.mp [γ] false false 1 M] 99) 99 [.sl 0 0 n,.fn 71 [aj 1 0]] [ai 3 1 (ints γ l),aB [.mp 2],.mp [γ] false false 1 M] K:=by apply Eq.mp (a:=aq);kernel_rfl
theorem ahT (p:Int->Bool) (l:List Int) (K:V->KB->Prop) (aq:
 let θ:=(χ 1 (ints γ l));let av:=(CE p l (aC θ) (V.fn 92 []) []);At av ([aC θ,V.fn 92 [],ε γ (↑(ints γ l).length:Int),ε γ 0],[])/\
 ∀(i:{i:Nat // i<=l.length/\
 ∀(j:Nat) (n:Int),j<i->
 l[j]? =some n->
 p n=false }),let ω:=K (ε γ (↑i.val:Int)) [];(decide ((↑i.val:Int)<(↑l.length:Int))=true->
 aA (↑i.val:Int)/\
 ∃(e:List D),(ints γ l)[(↑i.val:Int).toNat]? =some e/\
 ∃(n:Int),e[0]? =some (η (ν γ n))/\
 (decide (n<0)=true->
 ω)/\
 (decide (n<0)=false->
 (decide (n > 1099511627776)=true->
 ω)/\
 (decide (n > 1099511627776)=false->
 Nx av i ([aC θ,V.fn 92 [],ε γ (↑l.length:Int),ε γ (γ.wrap ((↑i.val:Int)+1))],[]))))/\
 (decide ((↑i.val:Int)<(↑l.length:Int))=false->
 K (ε γ (-1)) [])
 ):aI Tryz.prog X0 (IV p l (aC (.sl 1 (ints γ l))) (.fn 92 []) [] 99) 99 [aC (.sl 1 (ints γ l)),.fn 92 []] [] K:=by apply Eq.mp (a:=aq);kernel_rfl
theorem ahy (a1 a2 a3 a4 a5 a7 a8 a9 aK aQ π υ aX aL aS aM a20 a21:Value) (C:List D) (M J:List (List D)) (l:List Int) (me:Int) (K:V->KB->Prop) (aq:
 let aN:=(Pn a1 a2 a3 a4 a5 a7 a8 a9 aK aQ π υ aX aL aS aM a20 a21 C M J me l);let θ:=aB [ε γ me,δ a1,δ a2,δ a3,δ a4,δ a5,bF 128 C,δ a7,δ a8,δ a9,δ aK,aC (χ 1 M),aC (χ 1 J),δ aQ,δ π,δ υ,δ aX,δ aL,δ aS,δ aM,δ a20,δ a21];∃(l_1:List Int),let aU:KB:=[ai 3 1 (ints γ l_1),aB [aj 2 0],θ];let aJ:=(ay l.length l_1);ints γ l=ints γ l_1/\
 l.length<=l_1.length/\
 dK l_1.length/\
 ((kU (nE me) aJ == -1)=true->
 K (ζ 0 0 l.length) aU)/\
 ((kU (nE me) aJ == -1)=false->
 At aN ([ζ 0 0 l.length,V.fn 74 [aj 1 0],ε γ (kU (nE me) aJ),ε γ (γ.wrap (kU (nE me) aJ+1))],aU)/\
 ∀(i:{j:Nat // j<=l.length/\
 (jj me (ay j l)).length<j }),let bD:=(↑i.val:Int)<(↑(l.length - 0):Int);let bp:=ε γ (γ.wrap ((↑i.val:Int)+1));let av:=(jj me (ay i.val l));let bM:=(↑av.length:Int).toNat<=l.length - 0;let ω:=(ints γ (jj me (ay i.val l)++ax av.length l));(decide (bD)=true->
 br (↑i.val:Int) (l.length - 0)/\
 ∃(e:List D),ω[0+(↑i.val:Int).toNat]? =some e/\
 ∃(n:Int),e[0]? =some (η (ν γ n))/\
 ((!n == me)=true->
 br (↑av.length:Int) (l.length - 0)/\
 0+(↑av.length:Int).toNat<ω.length/\
 Nx aN i ([ζ 0 0 l.length,V.fn 74 [aj 1 0],ε γ (γ.wrap ((↑av.length:Int)+1)),bp],[ai 3 1 (ω.set (0+(↑av.length:Int).toNat) [η (ν γ n)]),aB [aj 2 0],θ]))/\
 ((!n == me)=false->
 Nx aN i ([ζ 0 0 l.length,V.fn 74 [aj 1 0],ε γ (↑av.length:Int),bp],[ai 3 1 ω,aB [aj 2 0],θ])))/\
 (decide (bD)=false->
 aA (↑av.length:Int)/\
 True/\
 bM/\
 l.length - 0<=l.length - 0/\
 0+(l.length - 0)<=ω.length/\
 True/\
 aA (↑av.length:Int)/\
 0<=(↑av.length:Int).toNat/\
 bM/\
 K (ζ 0 0 (0+(↑av.length:Int).toNat)) [ai 3 1 (splice ω (0+(↑av.length:Int).toNat) (dv (0+(l.length - 0) - (0+(↑av.length:Int).toNat)) [η (ν γ 0)])),aB [aj 2 0],θ]))
 ):aI Tryz.prog Bk (ZR a1 a2 a3 a4 a5 a7 a8 a9 aK aQ π υ aX aL aS aM a20 a21 C M J me l 72) 72 [.sl 0 0 l.length,.fn 74 [aj 1 0]] [ai 3 1 (ints γ l),aB [aj 2 0],aB [.int γ me,δ a1,δ a2,δ a3,δ a4,δ a5,bF 128 C,δ a7,δ a8,δ a9,δ aK,aC (.sl 1 M),aC (.sl 1 J),δ aQ,δ π,δ υ,δ aX,δ aL,δ aS,δ aM,δ a20,δ a21]] K:=by apply Eq.mp (a:=aq);kernel_rfl
theorem aif (a1 a2 a3 a4 a5 a7 a8 a9 aK aQ π υ aX aL aS aM a20 a21:Value) (C:List D) (me:Int) (M J:List (List D)) (K:V->KB->Prop) (aq:
 (2<=2/\
 True)/\
 ∃(Ls:List (List Int)),[[χ 1 M],[χ 1 J]]=k8 Ls/\
 dK Ls.length/\
 dK (gF Ls Ls.length).length/\
 oM (ints γ (gF Ls Ls.length)).flatten/\
 ∃(l:List Int),ints γ (gF Ls Ls.length)=ints γ l/\
 (gF Ls Ls.length).length=l.length/\
 dK l.length/\
 K (ζ 1 0 (jj me l).length) [aB [ε γ me,δ a1,δ a2,δ a3,δ a4,δ a5,bF 128 C,δ a7,δ a8,δ a9,δ aK,aC (χ 1 M),aC (χ 1 J),δ aQ,δ π,δ υ,δ aX,δ aL,δ aS,δ aM,δ a20,δ a21],ai 3 1 (ints γ (wD me l))]
 ):aI Tryz.prog NO (aG 44) 44 [aj 0 0] [aB [.int γ me,δ a1,δ a2,δ a3,δ a4,δ a5,bF 128 C,δ a7,δ a8,δ a9,δ aK,aC (.sl 1 M),aC (.sl 1 J),δ aQ,δ π,δ υ,δ aX,δ aL,δ aS,δ aM,δ a20,δ a21]] (dp 1 K):=by apply Eq.mp (a:=aq);kernel_rfl
theorem ahu (A:List (List D)) (n:Nat) (M:ML) (K:V->KB->Prop) (aq:
 ∃(l:List Int),A=ints γ l/\
 n<=l.length/\
 dK l.length/\
 lL M/\
 K (ο (decide (kU (og M) (ay n l) ≥ 0))) [ai 3 1 (ints γ l),aB [aY 2],KO.mp [γ] false false 1 M]
 ):aI Tryz.prog Bk (aG 70) 70 [.sl 0 0 n,.fn 71 [aj 1 0]] [ai 3 1 (A),aB [.mp 2],.mp [γ] false false 1 M] K:=by apply Eq.mp (a:=aq);kernel_rfl
theorem ahv (A:List (List D)) (K:V->KB->Prop) (aq:
 ∃(l:List Int),A=ints γ l/\
 dK l.length/\
 K (ο (decide (kU cJ l ≥ 0))) []
 ):aI Tryz.prog Bk (aG 70) 70 [aC (.sl 1 A),.fn 92 []] [] K:=by apply Eq.mp (a:=aq);kernel_rfl
theorem BZ {p:Int->Bool} {l:List Int} {i:Nat} {n:Int} (h:∀ j n,j<i->l[j]? =some n->p n=false) (hi:l[i]? =some n) (hp:p n=true):kU p l=(i:Int):=by
 obtain⟨hl,he⟩:=bH.1 hi
 have:l.findIdx? p=some i:=List.findIdx?_eq_some_iff_getElem.2 ⟨hl,by rw[he];exact hp,fun j hj=>by
  rw[h j l[j] hj (bu _)];simp⟩
 unfold kU;rw[this]
theorem HQ {p:Int->Bool} {l:List Int} (h:∀ j n,j<l.length->l[j]? =some n->p n=false):kU p l=-1:=by
 have:l.findIdx? p=none:=List.findIdx?_eq_none_iff.2 fun x hx=>by
  obtain⟨j,hj,rfl⟩:=List.getElem_of_mem hx
  exact h j _ hj (bu _)
 unfold kU;rw[this]
theorem HP (p:Int->Bool) (l:List Int):(kU p l=-1/\∀ n∈l,p n=false)∨∃(i:Nat) (n:Int),kU p l=i/\l[i]? =some n/\p n=true/\∀ j n,j<i->l[j]? =some n->p n=false:=by
 unfold kU
 cases h:l.findIdx? p with
 |none=>exact .inl ⟨rfl,List.findIdx?_eq_none_iff.1 h⟩
 |some i=>
  obtain⟨h1,h2,h3⟩:=List.findIdx?_eq_some_iff_getElem.1 h
  refine .inr ⟨i,l[i],rfl,bu _,h2,fun j n hj hn=>?_⟩
  obtain⟨hl,he⟩:=bH.1 hn
  have:=h3 j hj
  rw[he]at this
  simpa using this
theorem N4 (p:Int->Bool) (l:List Int):decide (kU p l ≥ 0)=l.any p:=by
 rcases HP p l with ⟨h1,h2⟩ | ⟨i,n,h1,h2,h3,_⟩
 ·rw[h1,List.any_eq_false.2 (fun x hx=>by rw[h2 x hx];simp)];rfl
 ·rw[h1,List.any_eq_true.2 ⟨n,fF h2,h3⟩]
  simp
theorem aaD:dD Tryz.prog HZ:=fun f k h=>by
 unfold HZ at h
 split at h<;>first | (cases h;exact acR) | cases h
theorem Yh:cx Tryz.prog NG:=dP mixed aaD aG 10
theorem PV {Ls:List (List Int)} {i:Nat} (h:i<Ls.length):gF Ls (i+1)=gF Ls i++Ls[i]:=by
 unfold gF
 rw[jt,bu h,List.flatten_append]
 simp only[Option.toList_some,jF,List.flatten_nil,gz]
theorem BV {Ls:List (List Int)} {i:Nat} (h:i<=Ls.length):(gF Ls i).length<=(gF Ls Ls.length).length:=by
 unfold gF
 rw[cQ]
 conv=>rhs;rw[<- List.take_append_drop i Ls]
 rw[List.flatten_append,bn]
 omega
theorem Se {Ls:List (List Int)} {i:Nat} (h:i<Ls.length):(k8 Ls)[(i:Int).toNat]? =some [χ 1 (ints γ Ls[i])]:=by
 rw[cN];unfold k8;rw[fy,bu h];rfl
theorem Sf {Ls:List (List Int)}:(k8 Ls).length=Ls.length:=by unfold k8;rw[bT]
theorem acE:aO Tryz.prog 73 E4:=eC Yh mixed (fun args kb K h=>by
 unfold E4 at h;split at h<;>try exact h.elim
 obtain⟨Ls,rfl,⟨hl0⟩,⟨hl⟩,h⟩:=h
 refine⟨OF Ls 73,aht Ls K ⟨?_,?_⟩⟩
 ·rw[Sf]
  exact At.mk' ⟨0,bj _⟩ rfl
 rintro⟨i,hi⟩
 simp only[decide_eq_true_eq,decide_eq_false_iff_not]
 have hle:=BV hi
 refine⟨fun hc=>?_,fun hc=>?_⟩
 ·have hi2:i<Ls.length:=by omega
  have hs:=PV hi2
  have hle2:=BV (show i+1<=Ls.length by omega)
  have j6:=congrArg List.length hs
  rw[bn]at j6
  refine⟨by unfold aA;omega,_,Se hi2,_,rfl,?_⟩
  rw[bi,bE (by omega) (by omega),bE (by omega) (by omega)]
  refine⟨fun f=>by omega,fun _=>?_⟩
  refine Nx.mk' (⟨i+1,by omega⟩:{i:Nat // i<=Ls.length}) ?_ (by show Ls.length - (i+1)<Ls.length - i;omega)
  show(_:List V×KB)=_
  have e:((gF Ls i).length:Int)+(Ls[i].length:Int)=((gF Ls (i+1)).length:Int):=by omega
  rw[e];rfl
 have:i=Ls.length:=by omega
 subst this
 refine⟨by omega,by omega,?_,?_⟩
 ·rw[Sf]
  exact At.mk' ⟨0,bj _⟩ rfl
 rintro⟨i,hi⟩
 have hle:=BV hi
 dsimp only
 refine⟨fun hc=>?_,fun hc=>?_⟩
 ·have hi2:i<Ls.length:=by omega
  have hs:=PV hi2
  have hle2:=BV (show i+1<=Ls.length by omega)
  have j6:=congrArg List.length hs
  rw[bn]at j6
  refine⟨by unfold aA;omega,_,Se hi2,_,rfl,trivial,by rw[bi];omega,by rw[bi];omega,?_⟩
  rw[bi,bE (by omega) (by omega)]
  refine Nx.mk' (⟨i+1,by omega⟩:{i:Nat // i<=Ls.length}) ?_ (by show Ls.length - (i+1)<Ls.length - i;omega)
  show(_:List V×KB)=_
  rw[oX,cQ,<- pR,<- hs,<- j6];rfl
 ·have:i=Ls.length:=by omega
  subst this
  exact h)
theorem Ns {l:List Int} {n i:Nat} {m:Int} (h:(l.take n)[i]? =some m):(ints γ l)[0+(i:Int).toNat]? =some [η (.int γ m)]/\i<n:=by
 obtain⟨hl,he⟩:=bH.1 h
 rw[cW]at hl
 have:i<n:=by omega
 rw[iF this]at h
 rw[c9,cN,kY,h]
 exact⟨rfl,this⟩
theorem ac0:aO Tryz.prog 99 E_:=eC ga mixed (fun args kb K h=>by
 unfold E_ at h;split at h<;>try exact h.elim
 ·rename_i n A me a1 a2 a3 a4 a5 C a7 a8 a9 aK MM JJ aQ π υ aX aL aS aM a20 a21
  obtain⟨l,rfl,hn,⟨hl⟩,h⟩:=h
  have hlen:(l.take n).length=n:=by rw[cW];omega
  refine⟨_,ahR _ _ _ _ _ _ _ _ _ _ _ _ _ _ _ _ _ _ _ _ _ (nE me) l (l.take n) n me K ⟨?_,?_⟩⟩
  ·rw[ly]
   refine At.mk' ⟨0,bj _,fun j _ hj=>absurd hj (Nat.not_lt_zero _)⟩ ?_
   show(_:List V×KB)=_
   simp only[hlen];rfl
  rintro⟨i,hi,hp⟩
  simp only[decide_eq_true_eq,decide_eq_false_iff_not,hlen]at hi ⊢
  refine⟨fun hc=>?_,fun hc=>?_⟩
  ·have hil:i<(l.take n).length:=by omega
   have hg:=bu hil
   obtain⟨g1,g2⟩:=Ns hg
   refine⟨by unfold br;omega,_,g1,_,rfl,fun h1=>?_,fun h1=>?_⟩
   ·rw[BZ hp hg h1]at h;exact h
   ·rw[bE (by omega) (by omega)]
    refine Nx.mk' (⟨i+1,by omega,fun j m hj hm=>?_⟩:{i:Nat // i<=(l.take n).length/\∀ j n',j<i->(l.take n)[j]? =some n'->nE me n'=false}) ?_ (by show(l.take n).length - (i+1)<(l.take n).length - i;omega)
    ·by_cases hji:j=i
     ·subst hji;rw[hg]at hm;cases hm;exact h1
     ·exact hp j m (by omega) hm
    ·show(_:List V×KB)=_
     simp only[hlen];rfl
  ·rw[HQ (fun j m hj hm=>hp j m (by omega) hm)]at h;exact h
 ·rename_i n A M
  obtain⟨l,rfl,hn,⟨hl⟩,hM,h⟩:=h
  have hlen:(l.take n).length=n:=by rw[cW];omega
  refine⟨_,ahS (og M) l (l.take n) n M K ⟨?_,?_⟩⟩
  ·rw[ly]
   refine At.mk' ⟨0,bj _,fun j _ hj=>absurd hj (Nat.not_lt_zero _)⟩ ?_
   show(_:List V×KB)=_
   simp only[hlen];rfl
  rintro⟨i,hi,hp⟩
  simp only[decide_eq_true_eq,decide_eq_false_iff_not,hlen]at hi ⊢
  refine⟨fun hc=>?_,fun hc=>?_⟩
  ·have hil:i<(l.take n).length:=by omega
   have hg:=bu hil
   obtain⟨g1,g2⟩:=Ns hg
   refine⟨by unfold br;omega,_,g1,_,rfl,fun cs hcs=>?_,fun h1=>?_,fun h1=>?_⟩
   ·obtain⟨b,rfl⟩:=hM.h _ _ hcs
    exact⟨_,_,rfl,rfl⟩
   ·rw[BZ hp hg h1]at h;exact h
   ·rw[bE (by omega) (by omega)]
    refine Nx.mk' (⟨i+1,by omega,fun j m hj hm=>?_⟩:{i:Nat // i<=(l.take n).length/\∀ j n',j<i->(l.take n)[j]? =some n'->og M n'=false}) ?_ (by show(l.take n).length - (i+1)<(l.take n).length - i;omega)
    ·by_cases hji:j=i
     ·subst hji;rw[hg]at hm;cases hm;exact h1
     ·exact hp j m (by omega) hm
    ·show(_:List V×KB)=_
     simp only[hlen];rfl
  ·rw[HQ (fun j m hj hm=>hp j m (by omega) hm)]at h;exact h
 ·rename_i A
  obtain⟨l,rfl,⟨hl⟩,h⟩:=h
  refine⟨_,ahT cJ l K ⟨?_,?_⟩⟩
  ·rw[bi]
   exact At.mk' ⟨0,bj _,fun j _ hj=>absurd hj (Nat.not_lt_zero _)⟩ rfl
  rintro⟨i,hi,hp⟩
  simp only[decide_eq_true_eq,decide_eq_false_iff_not]at hi ⊢
  refine⟨fun hc=>?_,fun hc=>?_⟩
  ·have hil:i<l.length:=by omega
   have hg:=bu hil
   refine⟨by unfold aA;omega,[η (.int γ l[i])],by rw[cN,kY,hg];rfl,_,rfl,fun h1=>?_,fun h1=>⟨fun h2=>?_,fun h2=>?_⟩⟩
   ·rw[BZ hp hg (by unfold cJ;simp;omega)]at h;exact h
   ·rw[BZ hp hg (by unfold cJ;simp;omega)]at h;exact h
   ·rw[bE (by omega) (by omega)]
    refine Nx.mk' (⟨i+1,by omega,fun j m hj hm=>?_⟩:{i:Nat // i<=l.length/\∀ j n',j<i->l[j]? =some n'->cJ n'=false}) rfl (by show l.length - (i+1)<l.length - i;omega)
    by_cases hji:j=i
    ·subst hji;rw[hg]at hm;cases hm;unfold cJ;simp;omega
    ·exact hp j m (by omega) hm
  ·rw[HQ (fun j m hj hm=>hp j m (by omega) hm)]at h;exact h)
theorem RO {me:Int} {l:List Int} {j:Nat} {n:Int} (h:l[j]? =some n):jj me (l.take (j+1))=jj me (l.take j)++if n=me then[]else[n]:=by
 unfold jj
 rw[jt,h,List.filter_append]
 congr 1
 by_cases hn:n=me<;>simp [hn]
theorem RN {me:Int} {l:List Int} (h:∀ n∈l,nE me n=false):jj me l=l:=List.filter_eq_self.2 fun n hn=>by have:=h n hn;unfold nE at this;rw[this];rfl
theorem CF (me:Int) (l:List Int):(jj me l).length<=l.length:=List.length_filter_le ..
theorem afm {l k:List Int} {j:Nat} {n:Int} (h:l[j]? =some n) (hk:k.length<=j):(k++l.drop k.length)[j]? =some n:=by
 rw[fk hk,jW,show k.length+(j - k.length)=j by omega,h]
theorem afo {l k:List Int} {n:Int} (h:k.length<l.length):(k++l.drop k.length).set k.length n=(k++[n])++l.drop (k++[n]).length:=by
 rw[List.set_append_right _ _ (ar _),Nat.sub_self,dX]
 congr 1
 rw[List.drop_eq_getElem_cons h,List.set_cons_zero,bn,gZ];rfl
theorem afn {l k:List Int} (h:k.length<=l.length):splice (ints γ (k++l.drop k.length)) k.length (dv (l.length - k.length) [η (.int γ 0)])=ints γ (k++dv (l.length - k.length) 0):=by
 unfold splice
 rw[List.length_replicate,oX,List.take_left,Cy,show k.length+(l.length - k.length)=(k++l.drop k.length).length by rw[bn,gm],List.drop_length,pR,abn]
 simp [ints]
theorem Ub:dD Tryz.prog Dl:=fun f k h=>by
 unfold Dl at h
 split at h<;>first | (cases h;first | exact acE | exact ac0) | cases h
theorem NM:cx Tryz.prog Bk:=dP mixed Ub aG 10
theorem acH:aO Tryz.prog 72 E7:=eC NM mixed (fun args kb K h=>by
 unfold E7 at h;split at h<;>try exact h.elim
 rename_i n A me a1 a2 a3 a4 a5 C a7 a8 a9 aK M J aQ π υ aX aL aS aM a20 a21
 obtain⟨l,rfl,rfl,⟨hl⟩,h⟩:=h
 refine⟨_,ahy _ _ _ _ _ _ _ _ _ _ _ _ _ _ _ _ _ _ _ M J l me K ⟨l,rfl,ar _,⟨hl⟩,?_,?_⟩⟩
 all_goals rw[cQ]
 ·intro hf
  have hf:kU (nE me) l=-1:=by simpa using hf
  rcases HP (nE me) l with ⟨_,h2⟩ | ⟨i,n,h1,_⟩
  ·have e:=RN h2
   unfold wD at h
   rw[e,Nat.sub_self]at h
   simpa using h
  ·omega
 ·intro hf
  have hf:¬ kU (nE me) l=-1:=by simpa using hf
  rcases HP (nE me) l with ⟨h1,_⟩ | ⟨i,n,h1,h2,h3,h4⟩
  ·exact absurd h1 hf
  have hil:i<l.length:=(bH.1 h2).1
  have hn:n=me:=by simpa [nE]using h3
  have ek:jj me (l.take i)=l.take i:=RN fun m hm=>by
   obtain⟨j,hj,rfl⟩:=List.getElem_of_mem hm
   rw[cW]at hj
   exact h4 j _ (by omega) (by rw[List.getElem_take,bu])
  have Px:jj me (l.take (i+1))=l.take i:=by rw[RO h2,ek,if_pos hn,gz]
  have el:(l.take i).length=i:=by rw[cW];omega
  refine⟨?_,?_⟩
  ·refine At.mk' ⟨i+1,by omega,by rw[Px,el];omega⟩ ?_
   show(_:List V×KB)=_
   dsimp only
   rw[Px,el,List.take_append_drop,h1,bE (by omega) (by omega)];rfl
  rintro⟨j,hj,hk⟩
  dsimp only
  have hks:=CF me (l.take j)
  simp only[decide_eq_true_eq,decide_eq_false_iff_not,ly,c9,cN]
  refine⟨fun hc=>?_,fun hc=>?_⟩
  ·have hjl:j<l.length:=by omega
   have hg:=bu hjl
   have hs:=RO (me:=me) hg
   refine⟨by unfold br;omega,[η (.int γ l[j])],by rw[kY,afm hg (by omega)];rfl,_,rfl,fun h5=>?_,fun h5=>?_⟩
   ·have h5:¬ l[j]=me:=by simpa using h5
    rw[if_neg h5]at hs
    refine⟨by unfold br;omega,by rw[bi,bn,gm];omega,?_⟩
    rw[bE (by omega) (by omega),bE (by omega) (by omega)]
    refine Nx.mk' (⟨j+1,by omega,by rw[hs,bn,gZ];omega⟩:{j:Nat // j<=l.length/\(jj me (l.take j)).length<j}) ?_ (by show l.length - (j+1)<l.length - j;omega)
    show(_:List V×KB)=_
    dsimp only
    rw[ints_set,afo (by omega),<- hs]
    have:((jj me (l.take j)).length:Int)+1=((jj me (l.take (j+1))).length:Int):=by rw[hs,bn,gZ];omega
    rw[this];rfl
   ·have h5:l[j]=me:=by simpa using h5
    rw[if_pos h5,gz]at hs
    rw[bE (by omega) (by omega)]
    refine Nx.mk' (⟨j+1,by omega,by rw[hs];omega⟩:{j:Nat // j<=l.length/\(jj me (l.take j)).length<j}) ?_ (by show l.length - (j+1)<l.length - j;omega)
    show(_:List V×KB)=_
    dsimp only
    rw[hs];rfl
  ·have:j=l.length:=by omega
   subst this
   rw[cQ]at hks hk ⊢
   refine⟨by unfold aA;omega,trivial,by omega,by omega,by rw[bi,bn,gm];omega,trivial,by unfold aA;omega,by omega,by omega,?_⟩
   rw[afn (CF _ _)]
   exact h)
theorem aes:dD Tryz.prog Kk:=fun f k h=>by
 unfold Kk at h
 split at h
 ·cases h;exact acH
 ·exact Ub _ _ h
theorem Yq:cx Tryz.prog NO:=dP mixed aes aG 10
theorem Tr:aO Tryz.prog 70 AD:=eC NM mixed (fun args kb K h=>by
 unfold AD at h;split at h<;>try exact h.elim
 ·rename_i n A M
  obtain⟨l,rfl,hn,hl,hM,h⟩:=h
  refine⟨_,ahu _ n M K ⟨l,rfl,hn,hl,hM,?_⟩⟩
  rw[N4];exact h
 ·rename_i A
  obtain⟨l,rfl,hl,h⟩:=h
  refine⟨_,ahv _ K ⟨l,rfl,hl,?_⟩⟩
  rw[N4];exact h)
theorem Di:aO Tryz.prog 44 vK:=lF Yq mixed (fun args kb K h=>by
 unfold vK at h;split at h<;>try exact h.elim
 rename_i me a1 a2 a3 a4 a5 C a7 a8 a9 aK M J aQ π υ aX aL aS aM a20 a21
 obtain⟨m,j,rfl,rfl,⟨hl⟩,h⟩:=h
 have e:gF [m,j] [m,j].length=m++j:=by unfold gF;simp
 refine⟨_,aif _ _ _ _ _ _ _ _ _ _ _ _ _ _ _ _ _ _ _ me _ _ K ⟨⟨ar _,trivial⟩,[m,j],rfl,⟨by show 2<=100000;omega⟩,⟨by rw[e,bn];exact hl⟩,?_⟩⟩
 rw[e]
 refine⟨⟨o9⟩,m++j,rfl,rfl,⟨by rw[bn];exact hl⟩,h⟩)
structure Op where
 cl:Int
 nm:Int
 kd:Int
 bk:Int
 b:List Int
def bo (o:Op):List D:=[dn γ o.cl,dn γ o.nm,dn γ o.kd,dn γ o.bk,.sl 1 (ints ξ o.b)]
def gg (to kind id ep:Int) (N B L:List (List D)):List D:=[dn γ to,dn γ kind,.sl 1 ([[dn γ id],[dn γ ep]]++N),.sl 1 B,.sl 1 L]
def G4 (o:Op) (e:Int) (X:List (List D)):List D:=[dn γ o.cl,dn γ o.nm,dn γ o.kd,dn γ o.bk,.sl 1 (ints ξ o.b),dn γ e,.sl 1 X]
def yl:Option Op->List (List D)
 |none=>[]
 |some p=>[G4 p 19 []]
structure bS (n:Nat):Prop where
 h:n<=1000000
def AV:aE:=fun args kb K=>match args,kb with
 | [aj 0 0,.int γ to,.int γ kind,aC (.sl 1 N),aC (.sl 1 B),aC (.sl 1 L)],[aB [δ a0,.int γ id,δ a2,δ a3,.int γ ep,δ a5,bF 128 C,δ a7,δ a8,δ a9,δ aK,δ a_,δ a12,δ aQ,δ π,δ υ,δ aX,δ aL,δ aS,δ aM,.sl 1 0 n,δ a21],ai 107 5 (A)]=>n=A.length/\bS n/\bS N.length/\K (.φ []) [aB [δ a0,.int γ id,δ a2,δ a3,.int γ ep,δ a5,bF 128 C,δ a7,δ a8,δ a9,δ aK,δ a_,δ a12,δ aQ,δ π,δ υ,δ aX,δ aL,δ aS,δ aM,.sl 2 0 (n+1),δ a21],aw,ai 107 5 (A++[gg to kind id ep N B L])]
 |_,_=>False
def Ba:aE:=fun args kb K=>match args,kb with
 | [aj 0 0],[aB [δ a0,δ a1,δ a2,δ a3,δ a4,δ a5,bF 128 C,δ a7,δ a8,δ a9,δ aK,δ a_,δ a12,ο ld,δ π,δ υ,.aa o,δ aL,δ aS,δ aM,δ a20,.sl 1 0 n],ai 70 7 (A)]=>n=A.length/\bS n/\∃ q,o=ng bo q/\K (.φ []) [aB [δ a0,δ a1,δ a2,δ a3,δ a4,δ a5,bF 128 C,δ a7,δ a8,δ a9,δ aK,δ a_,δ a12,ο false,δ π,δ υ,.aa none,δ aL,δ aS,δ aM,δ a20,.sl 2 0 (A++yl q).length],aw,ai 70 7 (A++yl q)]
 |_,_=>False
def La:FuncId->Option du
 | 75=>some ⟨[.mK,.mK,.mK,.fA 1,.fA 1,.fA 1],eL [true,false,true,true,false,true,false,true,true,true,true,true,true,true,true,true,true,true,true,true,false,true] AV⟩
 | 38=>some ⟨[],eL [true,true,true,true,true,true,false,true,true,true,true,true,true,true,true,true,true,true,true,true,true,true] AA⟩
 | 49=>some ⟨[],eL [true,true,true,true,true,true,false,true,true,true,true,true,true,true,true,true,true,true,true,true,true,true] xM⟩
 | 39=>some ⟨[],eL [true,true,true,true,true,true,false,false,true,true,true,true,true,true,true,true,true,true,true,true,true,true] AX⟩
 |_=>none
noncomputable def Bl:cd:=dM Tryz.prog La aG 10
def Fg:aE:=fun args kb K=>match args,kb with
 | [aj 0 0,.int γ to],[aB [δ a0,.int γ id,δ a2,δ a3,.int γ ep,.int γ nu,bF 128 C,δ a7,δ a8,δ a9,δ aK,δ a_,δ a12,δ aQ,δ π,δ υ,δ aX,δ aL,δ aS,δ aM,.sl 1 0 n,δ a21],ai 107 5 (A)]=>n=A.length/\bS n/\K (.φ []) [aB [δ a0,.int γ id,δ a2,δ a3,.int γ ep,.int γ nu,bF 128 C,δ a7,δ a8,δ a9,δ aK,δ a_,δ a12,δ aQ,δ π,δ υ,δ aX,δ aL,δ aS,δ aM,.sl 2 0 (n+1),δ a21],aw,ai 107 5 (A++[gg to 14 id ep [[dn γ nu]] [] []])]
 |_,_=>False
structure iU (C:List D) (c:List Int):Prop where
 e:C=aT ξ c
 l:c.length=128
 b:bq c
def mX (to id ep nu:Int) (c:List Int) (x:List L3):List D:=gg to 10 id ep [[dn γ nu]] (ints ξ (ca c)) [[.sl 1 (ints ξ (be x))]]
def xQ:aE:=fun args kb K=>match args,kb with
 | [aj 0 0,.int γ to],[aB [δ a0,.int γ id,δ a2,δ a3,.int γ ep,.int γ nu,bF 128 C,.imp [γ] false true 2 M,δ a8,δ a9,δ aK,δ a_,δ a12,δ aQ,δ π,δ υ,δ aX,δ aL,δ aS,δ aM,.sl 1 0 n,δ a21],ai 107 5 (A)]=>n=A.length/\bS n/\∃ c x,iU C c/\bL M x/\K (.φ []) [aB [δ a0,.int γ id,δ a2,δ a3,.int γ ep,.int γ nu,bF 128 (aT ξ c),af M,δ a8,δ a9,δ aK,δ a_,δ a12,δ aQ,δ π,δ υ,δ aX,δ aL,δ aS,δ aM,.sl 2 0 (n+1),δ a21],aw,ai 107 5 (A++[mX to id ep nu c x])]
 |_,_=>False
def qz (to id ep nu:Int) (c:List Int) (o:Op):List D:=gg to 12 id ep [[dn γ nu],[dn γ o.cl],[dn γ o.nm],[dn γ o.kd],[dn γ o.bk],[dn γ (eG c)]] (ints ξ o.b) []
def AH:aE:=fun args kb K=>match args,kb with
 | [aj 0 0,.int γ to],[aB [δ a0,.int γ id,δ a2,δ a3,.int γ ep,.int γ nu,bF 128 C,δ a7,δ a8,δ a9,δ aK,δ a_,δ a12,δ aQ,δ π,δ υ,.aa o,δ aL,δ aS,δ aM,.sl 1 0 n,δ a21],ai 107 5 (A)]=>n=A.length/\bS n/\∃ c p,iU C c/\o=some (bo p)/\K (.φ []) [aB [δ a0,.int γ id,δ a2,δ a3,.int γ ep,.int γ nu,bF 128 (aT ξ c),δ a7,δ a8,δ a9,δ aK,δ a_,δ a12,δ aQ,δ π,δ υ,.aa o,δ aL,δ aS,δ aM,.sl 2 0 (n+1),δ a21],aw,ai 107 5 (A++[qz to id ep nu c p])]
 |_,_=>False
theorem aiu (a0 a2 a3 a5 a7 a8 a9 aK a_ a12 aQ π υ aX aL aS aM a21:Value) (C:List D) (to kind id ep:Int) (N B L:List (List D)) (n:Nat) (A:List (List D)) (K:V->KB->Prop) (aq:
 let aJ:=(2+N.length)*8<=140737488355328;let aN:=[[η (ν γ id)],[η (ν γ ep)]];let av:=(n+1)*88<=140737488355328;let ω:=2+N.length<=(aN++N).length;let θ:=K (au []) [aB [δ a0,ε γ id,δ a2,δ a3,ε γ ep,δ a5,bF 128 C,δ a7,δ a8,δ a9,δ aK,δ a_,δ a12,δ aQ,δ π,δ υ,δ aX,δ aL,δ aS,δ aM,ζ 2 0 (n+1),δ a21],aw,ai 107 5 (ay n A++[[η (ν γ to),η (ν γ kind),χ 1 (ax 0 (ay (2+N.length) (aN++N))),χ 1 B,χ 1 L]])];(True/\
 2<=2/\
 aJ/\
 ω/\
 1<=1/\
 n<=A.length/\
 av/\
 θ)/\
 (True/\
 2<=2/\
 aJ/\
 ω/\
 1<=1/\
 n<=A.length/\
 av/\
 θ)/\
 True/\
 2<=2/\
 aJ/\
 (ω/\
 1<=1/\
 n<=A.length/\
 av/\
 θ)/\
 ω/\
 1<=1/\
 n<=A.length/\
 av/\
 θ
 ):aI Tryz.prog X0 (aG 75) 75 [aj 0 0,.int γ to,.int γ kind,aC (.sl 1 N),aC (.sl 1 B),aC (.sl 1 L)] [aB [δ a0,.int γ id,δ a2,δ a3,.int γ ep,δ a5,bF 128 C,δ a7,δ a8,δ a9,δ aK,δ a_,δ a12,δ aQ,δ π,δ υ,δ aX,δ aL,δ aS,δ aM,.sl 1 0 n,δ a21],ai 107 5 (A)] (dp 2 K):=by apply Eq.mp (a:=aq);kernel_rfl
theorem aiW (a0 a1 a2 a3 a4 a5 a7 a8 a9 aK a_ a12 π υ aL aS aM a20:Value) (C:List D) (ld:Bool) (o:Option (List D)) (n:Nat) (A:List (List D)) (K:V->KB->Prop) (aq:
 ((!o.isNone)=true->
 ∃(y1:List D),o=some y1/\
 ∃(y2:Int),y1[0]? =some (η (ν γ y2))/\
 ∃(y3:Int),y1[1]? =some (η (ν γ y3))/\
 ∃(y4:Int),y1[2]? =some (η (ν γ y4))/\
 ∃(y5:Int),y1[3]? =some (η (ν γ y5))/\
 ∃(y6:List (List D)),let θ:=K (au []) [aB [δ a0,δ a1,δ a2,δ a3,δ a4,δ a5,bF 128 C,δ a7,δ a8,δ a9,δ aK,δ a_,δ a12,ο false,δ π,δ υ,aR none,δ aL,δ aS,δ aM,δ a20,ζ 2 0 (n+1)],aw,ai 70 7 (ay n A++[[η (ν γ y2),η (ν γ y3),η (ν γ y4),η (ν γ y5),χ 1 y6,η (ν γ 19),χ 1 []]])];y1[4]? =some (χ 1 y6)/\
 (1<=1/\
 n<=A.length/\
 (n+1)*88<=140737488355328/\
 θ)/\
 1<=1/\
 n<=A.length/\
 (n+1)*88<=140737488355328/\
 θ)/\
 ((!o.isNone)=false->
 K (au []) [aB [δ a0,δ a1,δ a2,δ a3,δ a4,δ a5,bF 128 C,δ a7,δ a8,δ a9,δ aK,δ a_,δ a12,ο false,δ π,δ υ,aR o,δ aL,δ aS,δ aM,δ a20,ζ 2 0 n],aw,ai 70 7 A])
 ):aI Tryz.prog X0 (aG 42) 42 [aj 0 0] [aB [δ a0,δ a1,δ a2,δ a3,δ a4,δ a5,bF 128 C,δ a7,δ a8,δ a9,δ aK,δ a_,δ a12,ο ld,δ π,δ υ,.aa o,δ aL,δ aS,δ aM,δ a20,.sl 1 0 n],ai 70 7 (A)] (eX [.qD 0 143,.mv 0 148] (dp 2 K)):=by apply Eq.mp (a:=aq);kernel_rfl
theorem ah5 (a0 a2 a3 a7 a8 a9 aK a_ a12 aQ π υ aX aL aS aM a21:Value) (C:List D) (to id ep nu:Int) (n:Nat) (A:List (List D)) (K:V->KB->Prop) (aq:
 1<=1/\
 ∀(y1:Nat->
 Value),n=A.length/\
 bS n/\
 bS 1/\
 bz y1 [0,2,3,5,7,8,9,10,11,12,13,14,15,16,17,18,19,21]/\
 K (au []) [aB [δ a0,ε γ id,δ a2,δ a3,ε γ ep,ε γ nu,bF 128 C,δ a7,δ a8,δ a9,δ aK,δ a_,δ a12,δ aQ,δ π,δ υ,δ aX,δ aL,δ aS,δ aM,ζ 2 0 (n+1),δ a21],aw,ai 107 5 (A++[[dn γ to,η (ν γ 14),χ 1 [[dn γ id],[dn γ ep],[η (ν γ nu)]],χ 1 [],χ 1 []]])]
 ):aI Tryz.prog Bl (aG 110) 110 [aj 0 0,.int γ to] [aB [δ a0,.int γ id,δ a2,δ a3,.int γ ep,.int γ nu,bF 128 C,δ a7,δ a8,δ a9,δ aK,δ a_,δ a12,δ aQ,δ π,δ υ,δ aX,δ aL,δ aS,δ aM,.sl 1 0 n,δ a21],ai 107 5 (A)] (dp 2 K):=by apply Eq.mp (a:=aq);kernel_rfl
theorem aiy (a0 a2 a3 a8 a9 aK a_ a12 aQ π υ aX aL aS aM a21:Value) (C:List D) (to id ep nu:Int) (n:Nat) (M:ML) (A:List (List D)) (K:V->KB->Prop) (aq:
 let bD:=[0,1,2,3,4,5,7,8,9,10,11,12,13,14,15,16,17,18,19,20,21];let bp:=η (ν γ 10);let aJ:=[0,1,2,3,4,5,8,9,10,11,12,13,14,15,16,17,18,19,20,21];let aN:=[0,2,3,5,7,8,9,10,11,12,13,14,15,16,17,18,19,21];let av:=χ 1 [[dn γ id],[dn γ ep],[η (ν γ nu)]];(∀(y1:Nat->
 Value),∃(y2:List Int),C=aT ξ y2/\
 y2.length=128/\
 (∀(y3:Int),dW y3 y2->
 0<=y3/\
 y3<256)/\
 bz y1 bD/\
 ∀(y4:Nat->
 Value),∃(y5:List L3),bL M y5/\
 bz y4 aJ/\
 (be y5).length<=(ints ξ (be y5)).length/\
 1<=1/\
 132<=(ints ξ (ca y2)).length/\
 1<=1/\
 ∀(y6:Nat->
 Value),n=A.length/\
 bS n/\
 bS 1/\
 bz y6 aN/\
 K (au []) [aB [δ a0,ε γ id,δ a2,δ a3,ε γ ep,ε γ nu,bF 128 (aT ξ y2),V.imp [γ] false true 2 M,δ a8,δ a9,δ aK,δ a_,δ a12,δ aQ,δ π,δ υ,δ aX,δ aL,δ aS,δ aM,ζ 2 0 (n+1),δ a21],aw,ai 107 5 (A++[[dn γ to,bp,av,χ 1 (ax 0 (ay 132 (ints ξ (ca y2)))),χ 1 [[χ 1 (ax 0 (ay (be y5).length (ints ξ (be y5))))]]]])])/\
 ∀(y7:Nat->
 Value),∃(y8:List Int),let aU:=(ints ξ (ca y8));let bQ:=χ 1 (ax 0 (ay 132 aU));let ω:=aB [δ a0,ε γ id,δ a2,δ a3,ε γ ep,ε γ nu,bF 128 (aT ξ y8),V.imp [γ] false true 2 M,δ a8,δ a9,δ aK,δ a_,δ a12,δ aQ,δ π,δ υ,δ aX,δ aL,δ aS,δ aM,ζ 2 0 (n+1),δ a21];C=aT ξ y8/\
 y8.length=128/\
 (∀(y9:Int),dW y9 y8->
 0<=y9/\
 y9<256)/\
 bz y7 bD/\
 ma nu nu/\
 (∀(cU:Nat->
 Value),∃(cD:List L3),bL M cD/\
 bz cU aJ/\
 (be cD).length<=(ints ξ (be cD)).length/\
 1<=1/\
 132<=aU.length/\
 1<=1/\
 ∀(cE:Nat->
 Value),n=A.length/\
 bS n/\
 bS 1/\
 bz cE aN/\
 K (au []) [ω,aw,ai 107 5 (A++[[dn γ to,bp,av,bQ,χ 1 [[χ 1 (ax 0 (ay (be cD).length (ints ξ (be cD))))]]]])])/\
 ∀(cP:Nat->
 Value),∃(dH:List L3),let bM:=(be dH).length<=(ints ξ (be dH)).length;let θ:=K (au []) [ω,aw,ai 107 5 (A++[[dn γ to,bp,av,bQ,χ 1 [[χ 1 (ax 0 (ay (be dH).length (ints ξ (be dH))))]]]])];bL M dH/\
 bz cP aJ/\
 ma nu nu/\
 (bM/\
 1<=1/\
 132<=aU.length/\
 1<=1/\
 ∀(cZ:Nat->
 Value),n=A.length/\
 bS n/\
 bS 1/\
 bz cZ aN/\
 θ)/\
 bM/\
 ma nu nu/\
 1<=1/\
 132<=aU.length/\
 1<=1/\
 ∀(fZ:Nat->
 Value),n=A.length/\
 bS n/\
 bS 1/\
 bz fZ aN/\
 θ
 ):aI Tryz.prog Bl (aG 45) 45 [aj 0 0,.int γ to] [aB [δ a0,.int γ id,δ a2,δ a3,.int γ ep,.int γ nu,bF 128 C,.imp [γ] false true 2 M,δ a8,δ a9,δ aK,δ a_,δ a12,δ aQ,δ π,δ υ,δ aX,δ aL,δ aS,δ aM,.sl 1 0 n,δ a21],ai 107 5 (A)] (dp 2 K):=by apply Eq.mp (a:=aq);kernel_rfl
theorem ahO (a0 a2 a3 a7 a8 a9 aK a_ a12 aQ π υ aL aS aM a21:Value) (C:List D) (to id ep nu:Int) (o:Option (List D)) (n:Nat) (A:List (List D)) (K:V->KB->Prop) (aq:
 ∃(y1:List D),o=some y1/\
 ∃(y2:Int),y1[0]? =some (η (ν γ y2))/\
 ∃(y3:List D),o=some y3/\
 ∃(y4:Int),y3[1]? =some (η (ν γ y4))/\
 ∃(y5:List D),o=some y5/\
 ∃(y6:Int),y5[2]? =some (η (ν γ y6))/\
 ∃(y7:List D),o=some y7/\
 ∃(y8:Int),y7[3]? =some (η (ν γ y8))/\
 ∃(y9:List D),o=some y9/\
 ∃(cU:List (List D)),y9[4]? =some (χ 1 cU)/\
 ∀(cD:Nat->
 Value),∃(cE:List Int),C=aT ξ cE/\
 cE.length=128/\
 (∀(cP:Int),dW cP cE->
 0<=cP/\
 cP<256)/\
 bz cD [0,1,2,3,4,5,7,8,9,10,11,12,13,14,15,16,17,18,19,20,21]/\
 (∃(dH:List (List D)),y9[4]? =some (χ 1 dH)/\
 True)/\
 (∃(cZ:Int),y7[3]? =some (η (ν γ cZ))/\
 ma cZ y8)/\
 (∃(fZ:Int),y5[2]? =some (η (ν γ fZ))/\
 ma fZ y6)/\
 (∃(dr:Int),y3[1]? =some (η (ν γ dr))/\
 ma dr y4)/\
 (∃(fx:Int),y1[0]? =some (η (ν γ fx))/\
 ma fx y2)/\
 ma nu nu/\
 (∃(fO:List (List D)),y9[4]? =some (χ 1 fO)/\
 True)/\
 6<=6/\
 ∀(fU:Nat->
 Value),n=A.length/\
 bS n/\
 bS 6/\
 bz fU [0,2,3,5,7,8,9,10,11,12,13,14,15,16,17,18,19,21]/\
 K (au []) [aB [δ a0,ε γ id,δ a2,δ a3,ε γ ep,ε γ nu,bF 128 (aT ξ cE),δ a7,δ a8,δ a9,δ aK,δ a_,δ a12,δ aQ,δ π,δ υ,aR o,δ aL,δ aS,δ aM,ζ 2 0 (n+1),δ a21],aw,ai 107 5 (A++[[dn γ to,η (ν γ 12),χ 1 [[dn γ id],[dn γ ep],[η (ν γ nu)],[η (ν γ y2)],[η (ν γ y4)],[η (ν γ y6)],[η (ν γ y8)],[η (ν γ (γ.wrap (eG cE)))]],χ 1 cU,χ 1 []]])]
 ):aI Tryz.prog Bl (aG 57) 57 [aj 0 0,.int γ to] [aB [δ a0,.int γ id,δ a2,δ a3,.int γ ep,.int γ nu,bF 128 C,δ a7,δ a8,δ a9,δ aK,δ a_,δ a12,δ aQ,δ π,δ υ,.aa o,δ aL,δ aS,δ aM,.sl 1 0 n,δ a21],ai 107 5 (A)] (dp 2 K):=by apply Eq.mp (a:=aq);kernel_rfl
theorem Wa {A:List (List D)}:ay A.length A=A:=cQ
theorem sw {l:List Int} {n:Nat} (h:n=l.length):ax 0 (ay n (ints ξ l))=ints ξ l:=by
 subst h;rw[iD,oX,cQ]
theorem takeN {a b:List D} {N:List (List D)}:ax 0 (ay (2+N.length) ([a,b]++N))=[a,b]++N:=by
 rw[iD];exact eQ (by simp;omega)
theorem CM {a b:List D} {N:List (List D)}:2+N.length<=([a,b]++N).length:=by simp;omega
theorem TH:aO Tryz.prog 75 AV:=lF ga mixed (fun args kb K h=>by
 unfold AV at h;split at h<;>try exact h.elim
 obtain⟨rfl,⟨hn⟩,⟨hN⟩,h⟩:=h
 refine⟨_,aiu _ _ _ _ _ _ _ _ _ _ _ _ _ _ _ _ _ _ _ _ _ _ _ _ _ _ _ _ K ?_⟩
 simp only[takeN,Wa]
 exact⟨⟨trivial,ar _,by omega,CM,ar _,ar _,by omega,h⟩,⟨trivial,ar _,by omega,CM,ar _,ar _,by omega,h⟩,trivial,ar _,by omega,⟨CM,ar _,ar _,by omega,h⟩,CM,ar _,ar _,by omega,h⟩)
theorem TP:aO Tryz.prog 42 Ba:=my ga mixed [.qD 0 143,.mv 0 148] (fun args kb K h=>by
 unfold Ba at h;split at h<;>try exact h.elim
 obtain⟨rfl,⟨hn⟩,q,rfl,h⟩:=h
 refine⟨_,aiW _ _ _ _ _ _ _ _ _ _ _ _ _ _ _ _ _ _ _ _ _ _ _ K ?_⟩
 cases q with
 |none=>
  simp only[yl,gz]at h
  exact⟨fun f=>(by cases f),fun _=>h⟩
 |some p=>
  simp only[yl,bn,gZ]at h
  refine⟨fun _=>⟨bo p,rfl,p.cl,rfl,p.nm,rfl,p.kd,rfl,p.bk,rfl,ints ξ p.b,rfl,?_⟩,fun f=>(by cases f)⟩
  simp only[Wa]
  exact⟨⟨ar _,ar _,by omega,h⟩,ar _,ar _,by omega,h⟩)
theorem afO:dD Tryz.prog La:=fun f k h=>by
 unfold La at h
 split at h
 ·cases h;exact fJ TH _
 ·cases h;exact fJ Tn _
 ·cases h;exact fJ J7 _
 ·cases h;exact fJ TJ _
 ·cases h
theorem FQ:cx Tryz.prog Bl:=dP mixed afO aG 10
theorem ada:aO Tryz.prog 110 Fg:=lF FQ mixed (fun args kb K h=>by
 unfold Fg at h;split at h<;>try exact h.elim
 obtain⟨rfl,hn,h⟩:=h
 exact⟨_,ah5 _ _ _ _ _ _ _ _ _ _ _ _ _ _ _ _ _ _ _ _ _ _ _ _ K ⟨ar _,fun f=>⟨rfl,hn,⟨by omega⟩,⟨by simp [bU]⟩,h⟩⟩⟩)
theorem tL {c:List Int} (h:c.length=128):(ca c).length=132:=by rw[pg];omega
theorem Ka:aO Tryz.prog 45 xQ:=lF FQ mixed (fun args kb K h=>by
 unfold xQ at h;split at h<;>try exact h.elim
 obtain⟨rfl,hn,c,x,⟨rfl,hl,hb⟩,ht,h⟩:=h
 have e1:=sw (tL hl).symm
 have e2:=sw (l:=be x) rfl
 refine⟨_,aiy _ _ _ _ _ _ _ _ _ _ _ _ _ _ _ _ _ _ _ _ _ _ _ _ K ?_⟩
 unfold mX gg at h
 repeat' first
  | (exact⟨by simp [bU]⟩)
  | (exact⟨rfl⟩)
  | (exact hn)
  | (exact⟨by omega⟩)
  | (exact ar _)
  | (rw[bi,tL hl];exact ar _)
  | (rw[bi];exact ar _)
  | (rw[e1,e2];exact h)
  | (rw[e1];exact h)
  |rfl
  | (refine⟨c,rfl,hl,hb,?_⟩)
  | (refine⟨x,ht,?_⟩)
  | (refine And.intro ?_ ?_)
  |intro f)
theorem Tx:aO Tryz.prog 57 AH:=lF FQ mixed (fun args kb K h=>by
 unfold AH at h;split at h<;>try exact h.elim
 obtain⟨rfl,hn,c,p,⟨rfl,hl,hb⟩,rfl,h⟩:=h
 have hr:=yi c
 have ew:γ.wrap (eG c)=eG c:=bE (by omega) (by omega)
 refine⟨_,ahO _ _ _ _ _ _ _ _ _ _ _ _ _ _ _ _ _ _ _ _ _ _ _ _ K ?_⟩
 unfold qz gg at h
 refine⟨bo p,rfl,p.cl,rfl,bo p,rfl,p.nm,rfl,bo p,rfl,p.kd,rfl,bo p,rfl,p.bk,rfl,bo p,rfl,ints ξ p.b,rfl,fun f=>⟨c,rfl,hl,hb,⟨by simp [bU]⟩,⟨_,rfl,trivial⟩,⟨_,rfl,⟨rfl⟩⟩,⟨_,rfl,⟨rfl⟩⟩,⟨_,rfl,⟨rfl⟩⟩,⟨_,rfl,⟨rfl⟩⟩,⟨rfl⟩,⟨_,rfl,trivial⟩,ar _,fun f=>⟨rfl,hn,⟨by omega⟩,⟨by simp [bU]⟩,?_⟩⟩⟩
 rw[ew];exact h)
def Ay:aE:=fun args kb K=>match args,kb with
 | [aj 0 0,.mp 1],[aB [.int γ me,δ a1,δ a2,δ a3,δ a4,δ a5,bF 128 C,δ a7,δ a8,δ a9,δ aK,aC (.sl 1 M),aC (.sl 1 J),δ aQ,δ π,δ υ,δ aX,δ aL,δ aS,δ aM,δ a20,δ a21],.mp [γ] false false 1 (Q)]=>∃ m j,M=ints γ m/\J=ints γ j/\dK (m.length+j.length)/\lL Q/\K (ο (!(bA me m j).any (og Q))) [aB [.int γ me,δ a1,δ a2,δ a3,δ a4,δ a5,bF 128 C,δ a7,δ a8,δ a9,δ aK,aC (.sl 1 M),aC (.sl 1 J),δ aQ,δ π,δ υ,δ aX,δ aL,δ aS,δ aM,δ a20,δ a21],.mp [γ] false false 1 (Q)]
 |_,_=>False
def FV:FuncId->Option du
 | 44=>some ⟨[],eL [false,true,true,true,true,true,false,true,true,true,true,false,false,true,true,true,true,true,true,true,true,true] vK⟩
 | 70=>some ⟨[],AD⟩
 |_=>none
noncomputable def Nt:cd:=dM Tryz.prog FV aG 10
def allI (me:Int) (m j:List Int) (Q:ML):Bool:=!(bA me m j).any (og Q)
def rj:aE:=fun args kb K=>match args,kb with
 | [aj 0 0],[aB [δ a0,δ a1,δ a2,δ a3,δ a4,δ a5,bF 128 C,δ a7,δ a8,δ a9,δ aK,δ a_,δ a12,ο ld,δ π,δ υ,.aa o,δ aL,δ aS,δ aM,δ a20,δ a21]]=>ld=false/\K (.φ [ο false,ο false,ο (!o.isNone)]) [aB [δ a0,δ a1,δ a2,δ a3,δ a4,δ a5,bF 128 C,δ a7,δ a8,δ a9,δ aK,δ a_,δ a12,ο ld,δ π,δ υ,.aa o,δ aL,δ aS,δ aM,δ a20,δ a21]]
 | [aj 0 0],[aB [.int γ me,δ a1,δ a2,δ a3,δ a4,δ a5,bF 128 C,δ a7,δ a8,δ a9,δ aK,aC (.sl 1 M),aC (.sl 1 J),ο ld,.mp 1,δ υ,.aa o,δ aL,δ aS,δ aM,δ a20,δ a21],.mp [γ] false false 1 (Q)]=>∃ m j,M=ints γ m/\J=ints γ j/\dK (m.length+j.length)/\lL Q/\ld=true/\K (.φ [ο true,ο (allI me m j Q),ο (!o.isNone)]) [aB [.int γ me,δ a1,δ a2,δ a3,δ a4,δ a5,bF 128 C,δ a7,δ a8,δ a9,δ aK,aC (.sl 1 M),aC (.sl 1 J),ο ld,.mp 1,δ υ,.aa o,δ aL,δ aS,δ aM,δ a20,δ a21],.mp [γ] false false 1 (Q)]
 |_,_=>False
def I4:FuncId->Option du
 | 41=>some ⟨[],eL [false,true,true,true,true,true,false,true,true,true,true,false,false,true,true,true,true,true,true,true,true,true] Ay⟩
 |_=>none
noncomputable def FN:cd:=dM Tryz.prog I4 aG 10
def kh (cl nm kd bk:Int) (b:Nat):Bool:=decide (1<=kd/\kd<=4/\0<=bk/\bk<8/\0<=cl/\cl<=255/\1<=nm/\nm<=1099511627776/\(kd=1->b=16))
def oe (kd:Int):Bool:=decide (kd=1∨kd=2)
def AI:aE:=fun args kb K=>match args,kb with
 | [.agg [.int γ cl,.int γ nm,.int γ kd,.int γ bk,aC (.sl 1 B)]],[]=>K (ο (kh cl nm kd bk B.length)) []
 |_,_=>False
def Fb:aE:=fun args kb K=>match args,kb with
 | [.agg [.int γ cl,.int γ nm,.int γ kd,.int γ bk,aC (.sl 1 B)]],[]=>K (ο (oe kd)) []
 |_,_=>False
def qx (c:List Int) (kd bk:Int):List (List D):=if kd=3 then ints ξ ((c.drop (bk.toNat*16)).take 16)else[]
def AF:aE:=fun args kb K=>match args,kb with
 | [aj 0 0],[aB [.int γ me,δ a1,δ a2,δ a3,δ a4,δ a5,bF 128 C,δ a7,δ a8,δ a9,δ aK,aC (.sl 1 M),aC (.sl 1 J),δ aQ,δ π,.mp 1,.aa o,δ aL,δ aS,δ aM,δ a20,.sl 2 0 n],.mp [γ] false false 1 (Q),ai 70 7 (A)]=>n=A.length/\bS n/\∃ m j c p,iU C c/\M=ints γ m/\J=ints γ j/\dK (m.length+j.length)/\lL Q/\o=some (bo p)/\lZ p.bk/\
  (allI me m j Q=false->K (.φ []) [aB [.int γ me,δ a1,δ a2,δ a3,δ a4,δ a5,bF 128 C,δ a7,δ a8,δ a9,δ aK,aC (.sl 1 M),aC (.sl 1 J),δ aQ,δ π,.mp 1,.aa o,δ aL,δ aS,δ aM,δ a20,.sl 2 0 n],.mp [γ] false false 1 (Q),ai 70 7 (A)])/\
  (allI me m j Q=true->K (.φ []) [aB [.int γ me,δ a1,δ a2,δ a3,δ a4,δ a5,bF 128 (aT ξ c),δ a7,δ a8,δ a9,δ aK,aC (.sl 1 M),aC (.sl 1 J),δ aQ,δ π,.mp 1,.aa none,δ aL,δ aS,δ aM,δ a20,.sl 3 0 (n+1)],.mp [γ] false false 1 (Q),aw,ai 70 7 (A++[G4 p 0 (qx c p.kd p.bk)])])
 |_,_=>False
def Hv:FuncId->Option du
 | 41=>some ⟨[],eL [false,true,true,true,true,true,false,true,true,true,true,false,false,true,true,true,true,true,true,true,true,true] Ay⟩
 | 86=>some ⟨[],eL [true,true,true,true,true,true,false,true,true,true,true,true,true,true,true,true,true,true,true,true,true,true] Az⟩
 |_=>none
noncomputable def NE:cd:=dM Tryz.prog Hv aG 10
def fm (c:List Int) (kd bk:Int) (b:List Int):List Int:=if kd=1 then splice c (bk.toNat*16) b else if kd=2 then splice c (bk.toNat*16) (dv 16 0)else c
structure rh (n:Int):Prop where
 lo:0<=n
 hi:n<=4398046511104
structure Aq (kd:Int):Prop where
 h:oe kd=false
structure z8 (kd:Int):Prop where
 h:oe kd=true
structure vI (cl nm kd bk:Int) (b:Nat):Prop where
 h:kh cl nm kd bk b=true
def AE:aE:=fun args kb K=>match args,kb with
 | [aj 0 0,.agg [.int γ cl,.int γ nm,.int γ kd,.int γ bk,aC (.sl 1 B)]],[aB [δ a0,δ a1,δ a2,δ a3,δ a4,.int γ nu,bF 128 C,.imp [γ] false true 2 T,δ a8,δ a9,δ aK,δ a_,δ a12,δ aQ,δ π,δ υ,δ aX,δ aL,ο ch,δ aM,δ a20,δ a21]]=>∃ c b x,iU C c/\B=ints ξ b/\bL T x/\rh nu/\vI cl nm kd bk b.length/\
  (Aq kd->K (.φ []) [aB [δ a0,δ a1,δ a2,δ a3,δ a4,.int γ (nu+1),bF 128 (aT ξ (fm c kd bk b)),af T,δ a8,δ a9,δ aK,δ a_,δ a12,δ aQ,δ π,δ υ,δ aX,δ aL,ο true,δ aM,δ a20,δ a21]])/\
  (z8 kd->(mE (cY x cl nm 0)->K (.φ []) [aB [δ a0,δ a1,δ a2,δ a3,δ a4,.int γ (nu+1),bF 128 (aT ξ (fm c kd bk b)),af T,δ a8,δ a9,δ aK,δ a_,δ a12,δ aQ,δ π,δ υ,δ aX,δ aL,ο true,δ aM,δ a20,δ a21]])/\(mC (cY x cl nm 0)->K (.φ []) [aB [δ a0,δ a1,δ a2,δ a3,δ a4,.int γ (nu+1),bF 128 (aT ξ (fm c kd bk b)),af (bI T [cl] [dn γ nm,dn γ 0]),δ a8,δ a9,δ aK,δ a_,δ a12,δ aQ,δ π,δ υ,δ aX,δ aL,ο true,δ aM,δ a20,δ a21]]))
 |_,_=>False
def G5:FuncId->Option du
 | 84=>some ⟨[],eL [true,true,true,true,true,true,false,true,true,true,true,true,true,true,true,true,true,true,true,true,true,true] A_⟩
 | 85=>some ⟨[],eL [true,true,true,true,true,true,false,true,true,true,true,true,true,true,true,true,true,true,true,true,true,true] A0⟩
 | 66=>some ⟨[],eL [true,true,true,true,true,true,false,false,true,true,true,true,true,true,true,true,true,true,true,true,true,true] Fl⟩
 |_=>none
noncomputable def NA:cd:=dM Tryz.prog G5 aG 10
structure vC (a b:Int):Prop where
 h:a=b
def Fc:aE:=fun args kb K=>match args,kb with
 | [aj 0 0,.agg [.int γ cl,.int γ nm,.int γ kd,.int γ bk,aC (.sl 1 B)]],[aB [δ a0,δ a1,δ a2,δ a3,δ a4,δ a5,bF 128 C,.imp [γ] false true 2 T,δ a8,δ a9,δ aK,δ a_,δ a12,δ aQ,δ π,δ υ,δ aX,δ aL,δ aS,δ aM,δ a20,.sl 1 0 n],ai 70 7 (A)]=>n=A.length/\bS n/\∃ x,bL T x/\
  (vC (gq x cl nm) 1->K (.φ [.int γ 0,ο true]) [aB [δ a0,δ a1,δ a2,δ a3,δ a4,δ a5,bF 128 C,af T,δ a8,δ a9,δ aK,δ a_,δ a12,δ aQ,δ π,δ υ,δ aX,δ aL,δ aS,δ aM,δ a20,.sl 2 0 (n+1)],aw,ai 70 7 (A++[[dn γ cl,dn γ nm,dn γ kd,dn γ bk,.sl 1 B,dn γ (sZ x cl nm),.sl 1 []]])])/\
  (vC (gq x cl nm) 2->K (.φ [.int γ 13,ο true]) [aB [δ a0,δ a1,δ a2,δ a3,δ a4,δ a5,bF 128 C,.imp [γ] false true 2 T,δ a8,δ a9,δ aK,δ a_,δ a12,δ aQ,δ π,δ υ,δ aX,δ aL,δ aS,δ aM,δ a20,.sl 1 0 n],ai 70 7 (A)])/\
  (vC (gq x cl nm) 0->(mE (cY x cl nm 0)->K (.φ [.int γ (cY x cl nm 0),ο true]) [aB [δ a0,δ a1,δ a2,δ a3,δ a4,δ a5,bF 128 C,.imp [γ] false true 2 T,δ a8,δ a9,δ aK,δ a_,δ a12,δ aQ,δ π,δ υ,δ aX,δ aL,δ aS,δ aM,δ a20,.sl 1 0 n],ai 70 7 (A)])/\(mC (cY x cl nm 0)->K (.φ [.int γ 0,ο false]) [aB [δ a0,δ a1,δ a2,δ a3,δ a4,δ a5,bF 128 C,.imp [γ] false true 2 T,δ a8,δ a9,δ aK,δ a_,δ a12,δ aQ,δ π,δ υ,δ aX,δ aL,δ aS,δ aM,δ a20,.sl 1 0 n],ai 70 7 (A)]))
 |_,_=>False
def I3:FuncId->Option du
 | 83=>some ⟨[],eL [true,true,true,true,true,true,false,false,true,true,true,true,true,true,true,true,true,true,true,true,true,true] EV⟩
 | 66=>some ⟨[],AP⟩
 |_=>none
noncomputable def NI:cd:=dM Tryz.prog I3 aG 10
theorem ahb (a1 a2 a3 a4 a5 a7 a8 a9 aK aQ π υ aX aL aS aM a20 a21:Value) (C:List D) (me:Int) (M J:List (List D)) (Q:ML) (K:V->KB->Prop) (aq:
 ∀(y1:Nat->
 Value),∃(y2:List Int),∃(y3:List Int),M=ints γ y2/\
 J=ints γ y3/\
 dK (y2.length+y3.length)/\
 bz y1 [1,2,3,4,5,7,8,9,10,13,14,15,16,17,18,19,20,21]/\
 ∃(y4:List Int),ints γ (iJ me y2 y3)=ints γ y4/\
 (bA me y2 y3).length<=y4.length/\
 dK y4.length/\
 lL Q/\
 K (ο !(ay (bA me y2 y3).length y4).any (og Q)) [aB [ε γ me,δ a1,δ a2,δ a3,δ a4,δ a5,bF 128 C,δ a7,δ a8,δ a9,δ aK,aC (χ 1 M),aC (χ 1 J),δ aQ,δ π,δ υ,δ aX,δ aL,δ aS,δ aM,δ a20,δ a21],KO.mp [γ] false false 1 Q]
 ):aI Tryz.prog Nt (aG 41) 41 [aj 0 0,.mp 1] [aB [.int γ me,δ a1,δ a2,δ a3,δ a4,δ a5,bF 128 C,δ a7,δ a8,δ a9,δ aK,aC (.sl 1 M),aC (.sl 1 J),δ aQ,δ π,δ υ,δ aX,δ aL,δ aS,δ aM,δ a20,δ a21],.mp [γ] false false 1 (Q)] (dp 2 K):=by apply Eq.mp (a:=aq);kernel_rfl
theorem ahV (cl nm kd bk:Int) (B:List (List D)) (K:V->KB->Prop) (aq:
 (decide (kd ≥ 1)=true->
 (decide (kd<=4)=true->
 (decide (bk ≥ 0)=true->
 (decide (bk<8)=true->
 (decide (cl ≥ 0)=true->
 (decide (cl<=255)=true->
 (decide (nm ≥ 1)=true->
 (decide (nm<=1099511627776)=true->
 ((kd != 1)=true->
 K (ο true) [])/\
 ((kd != 1)=false->
 K (ο ((↑B.length:Int) == 16)) []))/\
 (decide (nm<=1099511627776)=false->
 K (ο false) []))/\
 (decide (nm ≥ 1)=false->
 K (ο false) []))/\
 (decide (cl<=255)=false->
 K (ο false) []))/\
 (decide (cl ≥ 0)=false->
 K (ο false) []))/\
 (decide (bk<8)=false->
 K (ο false) []))/\
 (decide (bk ≥ 0)=false->
 K (ο false) []))/\
 (decide (kd<=4)=false->
 K (ο false) []))/\
 (decide (kd ≥ 1)=false->
 K (ο false) [])
 ):aI Tryz.prog X0 (aG 52) 52 [.agg [.int γ cl,.int γ nm,.int γ kd,.int γ bk,aC (.sl 1 B)]] [] (dp 0 K):=by apply Eq.mp (a:=aq);kernel_rfl
theorem ahU (cl nm kd bk:Int) (B:List (List D)) (K:V->KB->Prop) (aq:
 ((kd == 1)=true->
 K (ο true) [])/\
 ((kd == 1)=false->
 K (ο (kd == 2)) [])
 ):aI Tryz.prog X0 (aG 53) 53 [.agg [.int γ cl,.int γ nm,.int γ kd,.int γ bk,aC (.sl 1 B)]] [] (dp 0 K):=by apply Eq.mp (a:=aq);kernel_rfl
theorem ahX (a0 a1 a2 a3 a4 a5 a7 a8 a9 aK a_ a12 π υ aL aS aM a20 a21:Value) (C:List D) (ld:Bool) (o:Option (List D)) (K:V->KB->Prop) (aq:
 let θ:=K (au [ο ld,ο false,ο !o.isNone]) [aB [δ a0,δ a1,δ a2,δ a3,δ a4,δ a5,bF 128 C,δ a7,δ a8,δ a9,δ aK,δ a_,δ a12,ο ld,δ π,δ υ,aR o,δ aL,δ aS,δ aM,δ a20,δ a21]];(ld=true->
 (∀(y1:Nat->
 Value),False)/\
 ∀(y2:Nat->
 Value),False)/\
 (ld=false->
 θ/\
 θ)
 ):aI Tryz.prog FN (aG 14) 14 [aj 0 0] [aB [δ a0,δ a1,δ a2,δ a3,δ a4,δ a5,bF 128 C,δ a7,δ a8,δ a9,δ aK,δ a_,δ a12,ο ld,δ π,δ υ,.aa o,δ aL,δ aS,δ aM,δ a20,δ a21]] (dp 1 K):=by apply Eq.mp (a:=aq);kernel_rfl
theorem ahY (a1 a2 a3 a4 a5 a7 a8 a9 aK υ aL aS aM a20 a21:Value) (C:List D) (ld:Bool) (me:Int) (M J:List (List D)) (Q:ML) (o:Option (List D)) (K:V->KB->Prop) (aq:
 let av:=[1,2,3,4,5,7,8,9,10,13,14,15,16,17,18,19,20,21];let θ:KB:=[aB [ε γ me,δ a1,δ a2,δ a3,δ a4,δ a5,bF 128 C,δ a7,δ a8,δ a9,δ aK,aC (χ 1 M),aC (χ 1 J),ο ld,aY 1,δ υ,aR o,δ aL,δ aS,δ aM,δ a20,δ a21],KO.mp [γ] false false 1 Q];let ω:=K (au [ο ld,ο false,ο !o.isNone]) θ;(ld=true->
 (∀(y1:Nat->
 Value),∃(y2:List Int),∃(y3:List Int),M=ints γ y2/\
 J=ints γ y3/\
 dK (y2.length+y3.length)/\
 lL Q/\
 bz y1 av/\
 ld=ld/\
 K (au [ο ld,ο !(bA me y2 y3).any (og Q),ο !o.isNone]) θ)/\
 ∀(y4:Nat->
 Value),∃(y5:List Int),∃(y6:List Int),M=ints γ y5/\
 J=ints γ y6/\
 dK (y5.length+y6.length)/\
 lL Q/\
 bz y4 av/\
 ld=ld/\
 K (au [ο ld,ο !(bA me y5 y6).any (og Q),ο !o.isNone]) θ)/\
 (ld=false->
 ω/\
 ω)
 ):aI Tryz.prog FN (aG 14) 14 [aj 0 0] [aB [.int γ me,δ a1,δ a2,δ a3,δ a4,δ a5,bF 128 C,δ a7,δ a8,δ a9,δ aK,aC (.sl 1 M),aC (.sl 1 J),ο ld,.mp 1,δ υ,.aa o,δ aL,δ aS,δ aM,δ a20,δ a21],.mp [γ] false false 1 (Q)] (dp 2 K):=by apply Eq.mp (a:=aq);kernel_rfl
theorem ahL (a1 a2 a3 a4 a5 a7 a8 a9 aK aQ π aL aS aM a20:Value) (C:List D) (me:Int) (M J:List (List D)) (Q:ML) (o:Option (List D)) (n:Nat) (A:List (List D)) (K:V->KB->Prop) (aq:
 let cI:=[0,1,2,3,4,5,7,8,9,10,11,12,13,14,15,16,17,18,19,20,21];let bD:=KO.mp [γ] false false 1 Q;let aU:=(n+1)*88<=140737488355328;let aN:=K (au []) [aB [ε γ me,δ a1,δ a2,δ a3,δ a4,δ a5,bF 128 C,δ a7,δ a8,δ a9,δ aK,aC (χ 1 M),aC (χ 1 J),δ aQ,δ π,aY 1,aR o,δ aL,δ aS,δ aM,δ a20,ζ 2 0 n],bD,ai 70 7 A];(o.isNone=true->
 aN)/\
 (o.isNone=false->
 ∀(y1:Nat->
 Value),∃(y2:List Int),∃(y3:List Int),M=ints γ y2/\
 J=ints γ y3/\
 dK (y2.length+y3.length)/\
 lL Q/\
 bz y1 [1,2,3,4,5,7,8,9,10,13,14,15,16,17,18,19,20,21]/\
 ((!!(bA me y2 y3).any (og Q))=true->
 aN)/\
 ((!!(bA me y2 y3).any (og Q))=false->
 ∃(y4:List D),o=some y4/\
 ∃(y5:Int),let bM:=(ν γ y5);y4[0]? =some (η bM)/\
 ∃(y6:Int),let bQ:=(ν γ y6);y4[1]? =some (η bQ)/\
 ∃(y7:Int),let bW:=(ν γ y7);y4[2]? =some (η bW)/\
 ∃(y8:Int),let b_:=(ν γ y8);y4[3]? =some (η b_)/\
 ∃(y9:List (List D)),let ω:=K (au []) [aB [ε γ me,δ a1,δ a2,δ a3,δ a4,δ a5,bF 128 C,δ a7,δ a8,δ a9,δ aK,aC (χ 1 M),aC (χ 1 J),δ aQ,δ π,aY 1,aR none,δ aL,δ aS,δ aM,δ a20,ζ 3 0 (n+1)],bD,aw,ai 70 7 (ay n A++[[η bM,η bQ,η bW,η b_,χ 1 y9,η (ν γ 0),χ 1 []]])];y4[4]? =some (χ 1 y9)/\
 ∃(cU:List D),o=some cU/\
 ∃(cD:Int),cU[2]? =some (η (ν γ cD))/\
 ((cD == 3)=true->
 ∃(cE:List D),o=some cE/\
 ∃(cP:Int),cE[3]? =some (η (ν γ cP))/\
 ∀(dH:Nat->
 Value),∃(cZ:List Int),let bp:=(ints ξ (ay 16 (ax (cP.toNat*16) cZ)));let θ:=aB [ε γ me,δ a1,δ a2,δ a3,δ a4,δ a5,bF 128 (aT ξ cZ),δ a7,δ a8,δ a9,δ aK,aC (χ 1 M),aC (χ 1 J),δ aQ,δ π,aY 1,aR none,δ aL,δ aS,δ aM,δ a20,ζ 3 0 (n+1)];let aJ:=K (au []) [θ,bD,aw,ai 70 7 (ay n A++[[η bM,η bQ,η bW,η b_,χ 1 y9,η (ν γ 1),χ 1 []]])];let av:=K (au []) [θ,bD,aw,ai 70 7 (ay n A++[[η bM,η bQ,η bW,η b_,χ 1 y9,η (ν γ 0),χ 1 (ax 0 (ay 16 bp))]])];C=aT ξ cZ/\
 cZ.length=128/\
 (lZ cP->
 bz dH cI/\
 (16<=bp.length/\
 1<=1/\
 n<=A.length/\
 aU/\
 av)/\
 16<=bp.length/\
 1<=1/\
 n<=A.length/\
 aU/\
 av)/\
 ((lZ cP->
 False)->
 bz dH cI/\
 (1<=1/\
 n<=A.length/\
 aU/\
 aJ)/\
 1<=1/\
 n<=A.length/\
 aU/\
 aJ))/\
 ((cD == 3)=false->
 (1<=1/\
 n<=A.length/\
 aU/\
 ω)/\
 1<=1/\
 n<=A.length/\
 aU/\
 ω)))
 ):aI Tryz.prog NE (aG 58) 58 [aj 0 0] [aB [.int γ me,δ a1,δ a2,δ a3,δ a4,δ a5,bF 128 C,δ a7,δ a8,δ a9,δ aK,aC (.sl 1 M),aC (.sl 1 J),δ aQ,δ π,.mp 1,.aa o,δ aL,δ aS,δ aM,δ a20,.sl 2 0 n],.mp [γ] false false 1 (Q),ai 70 7 (A)] (eX [.qD 0 143] (dp 3 K)):=by apply Eq.mp (a:=aq);kernel_rfl
theorem ahA (a0 a1 a2 a3 a4 a8 a9 aK a_ a12 aQ π υ aX aL aM a20 a21:Value) (C:List D) (nu:Int) (ch:Bool) (T:ML) (cl nm kd bk:Int) (B:List (List D)) (K:V->KB->Prop) (aq:
 let aJ:=V.imp [γ] false true 2 T;let aN:=[0,1,2,3,4,5,7,8,9,10,11,12,13,14,15,16,17,18,19,20,21];let av:=V.imp [γ] false true 2 (bI T [cl] [dn γ nm,η (ν γ 0)]);let ω:=ε γ (γ.wrap (nu+1));let θ:=[0,1,2,3,4,5,8,9,10,11,12,13,14,15,16,17,18,19,20,21];((kd == 1)=true->
 ∀(y1:Nat->
 Value),∃(y2:List Int),∃(y3:List Int),let bp:=bF 128 (aT ξ (splice y2 (bk.toNat*16) y3));C=aT ξ y2/\
 B=ints ξ y3/\
 y2.length=128/\
 (lZ bk/\
 y3.length=16->
 bz y1 aN/\
 ∀(y4:Nat->
 Value),∃(y5:List L3),bL T y5/\
 (mE (cY y5 cl nm 0)->
 bz y4 θ/\
 K (au []) [aB [δ a0,δ a1,δ a2,δ a3,δ a4,ω,bp,aJ,δ a8,δ a9,δ aK,δ a_,δ a12,δ aQ,δ π,δ υ,δ aX,δ aL,ο true,δ aM,δ a20,δ a21]])/\
 (mC (cY y5 cl nm 0)->
 bz y4 θ/\
 K (au []) [aB [δ a0,δ a1,δ a2,δ a3,δ a4,ω,bp,av,δ a8,δ a9,δ aK,δ a_,δ a12,δ aQ,δ π,δ υ,δ aX,δ aL,ο true,δ aM,δ a20,δ a21]]))/\
 ((lZ bk/\
 y3.length=16->
 False)->
 bz y1 aN/\
 ∀(y6:Nat->
 Value),∃(y7:List L3),bL T y7/\
 (mE (cY y7 cl nm 0)->
 bz y6 θ/\
 K (au []) [aB [δ a0,δ a1,δ a2,δ a3,δ a4,ω,bF 128 (aT ξ y2),aJ,δ a8,δ a9,δ aK,δ a_,δ a12,δ aQ,δ π,δ υ,δ aX,δ aL,ο true,δ aM,δ a20,δ a21]])/\
 (mC (cY y7 cl nm 0)->
 bz y6 θ/\
 K (au []) [aB [δ a0,δ a1,δ a2,δ a3,δ a4,ω,bF 128 (aT ξ y2),av,δ a8,δ a9,δ aK,δ a_,δ a12,δ aQ,δ π,δ υ,δ aX,δ aL,ο true,δ aM,δ a20,δ a21]])))/\
 ((kd == 1)=false->
 ((kd == 2)=true->
 ∀(y8:Nat->
 Value),∃(y9:List Int),let aU:=bF 128 (aT ξ (splice y9 (bk.toNat*16) [0,0,0,0,0,0,0,0,0,0,0,0,0,0,0,0]));C=aT ξ y9/\
 y9.length=128/\
 (lZ bk->
 bz y8 aN/\
 ∀(cU:Nat->
 Value),∃(cD:List L3),bL T cD/\
 (mE (cY cD cl nm 0)->
 bz cU θ/\
 K (au []) [aB [δ a0,δ a1,δ a2,δ a3,δ a4,ω,aU,aJ,δ a8,δ a9,δ aK,δ a_,δ a12,δ aQ,δ π,δ υ,δ aX,δ aL,ο true,δ aM,δ a20,δ a21]])/\
 (mC (cY cD cl nm 0)->
 bz cU θ/\
 K (au []) [aB [δ a0,δ a1,δ a2,δ a3,δ a4,ω,aU,av,δ a8,δ a9,δ aK,δ a_,δ a12,δ aQ,δ π,δ υ,δ aX,δ aL,ο true,δ aM,δ a20,δ a21]]))/\
 ((lZ bk->
 False)->
 bz y8 aN/\
 ∀(cE:Nat->
 Value),∃(cP:List L3),bL T cP/\
 (mE (cY cP cl nm 0)->
 bz cE θ/\
 K (au []) [aB [δ a0,δ a1,δ a2,δ a3,δ a4,ω,bF 128 (aT ξ y9),aJ,δ a8,δ a9,δ aK,δ a_,δ a12,δ aQ,δ π,δ υ,δ aX,δ aL,ο true,δ aM,δ a20,δ a21]])/\
 (mC (cY cP cl nm 0)->
 bz cE θ/\
 K (au []) [aB [δ a0,δ a1,δ a2,δ a3,δ a4,ω,bF 128 (aT ξ y9),av,δ a8,δ a9,δ aK,δ a_,δ a12,δ aQ,δ π,δ υ,δ aX,δ aL,ο true,δ aM,δ a20,δ a21]])))/\
 ((kd == 2)=false->
 K (au []) [aB [δ a0,δ a1,δ a2,δ a3,δ a4,ω,bF 128 C,aJ,δ a8,δ a9,δ aK,δ a_,δ a12,δ aQ,δ π,δ υ,δ aX,δ aL,ο true,δ aM,δ a20,δ a21]]))
 ):aI Tryz.prog NA (aG 56) 56 [aj 0 0,.agg [.int γ cl,.int γ nm,.int γ kd,.int γ bk,aC (.sl 1 B)]] [aB [δ a0,δ a1,δ a2,δ a3,δ a4,.int γ nu,bF 128 C,.imp [γ] false true 2 T,δ a8,δ a9,δ aK,δ a_,δ a12,δ aQ,δ π,δ υ,δ aX,δ aL,ο ch,δ aM,δ a20,δ a21]] (dp 1 K):=by apply Eq.mp (a:=aq);kernel_rfl
theorem ahW (a0 a1 a2 a3 a4 a5 a8 a9 aK a_ a12 aQ π υ aX aL aS aM a20:Value) (C:List D) (T:ML) (cl nm kd bk:Int) (B:List (List D)) (n:Nat) (A:List (List D)) (K:V->KB->Prop) (aq:
 let aN:=(au [ε γ 0,ο true]);let θ:KB:=[aB [δ a0,δ a1,δ a2,δ a3,δ a4,δ a5,bF 128 C,V.imp [γ] false true 2 T,δ a8,δ a9,δ aK,δ a_,δ a12,δ aQ,δ π,δ υ,δ aX,δ aL,δ aS,δ aM,δ a20,ζ 1 0 n],ai 70 7 A];let av:=K (au [ε γ 0,ο false]) θ;∀(y1:Nat->
 Value),∃(y2:List L3),let ω:=K aN [aB [δ a0,δ a1,δ a2,δ a3,δ a4,δ a5,bF 128 C,V.imp [γ] false true 2 T,δ a8,δ a9,δ aK,δ a_,δ a12,δ aQ,δ π,δ υ,δ aX,δ aL,δ aS,δ aM,δ a20,ζ 2 0 (n+1)],aw,ai 70 7 (ay n A++[[η (ν γ cl),η (ν γ nm),η (ν γ kd),η (ν γ bk),χ 1 B,η (ν γ (sZ y2 cl nm)),χ 1 []]])];bL T y2/\
 bz y1 [0,1,2,3,4,5,8,9,10,11,12,13,14,15,16,17,18,19,20,21]/\
 ((gq y2 cl nm == 1)=true->
 (1<=1/\
 n<=A.length/\
 (n+1)*88<=140737488355328/\
 ω)/\
 1<=1/\
 n<=A.length/\
 (n+1)*88<=140737488355328/\
 ω)/\
 ((gq y2 cl nm == 1)=false->
 ((gq y2 cl nm == 2)=true->
 K (au [ε γ 13,ο true]) θ)/\
 ((gq y2 cl nm == 2)=false->
 ∃(y3:List L3),bL T y3/\
 (mE (cY y3 cl nm 0)->
 ((cY y3 cl nm 0 != 0)=true->
 K (au [ε γ (cY y3 cl nm 0),ο true]) θ)/\
 ((cY y3 cl nm 0 != 0)=false->
 av))/\
 (mC (cY y3 cl nm 0)->
 (false=true->
 K aN θ)/\
 (false=false->
 av))))
 ):aI Tryz.prog NI (aG 54) 54 [aj 0 0,.agg [.int γ cl,.int γ nm,.int γ kd,.int γ bk,aC (.sl 1 B)]] [aB [δ a0,δ a1,δ a2,δ a3,δ a4,δ a5,bF 128 C,.imp [γ] false true 2 T,δ a8,δ a9,δ aK,δ a_,δ a12,δ aQ,δ π,δ υ,δ aX,δ aL,δ aS,δ aM,δ a20,.sl 1 0 n],ai 70 7 (A)] (dp 2 K):=by apply Eq.mp (a:=aq);kernel_rfl
theorem Kn (me:Int) (m j:List Int):(iJ me m j).take (bA me m j).length=bA me m j:=by
 unfold iJ bA wD;exact List.take_left
theorem Kl (me:Int) (m j:List Int):(iJ me m j).length=m.length+j.length:=by
 unfold iJ wD
 have:=CF me (m++j)
 rw[bn,List.length_replicate,<- bn];omega
theorem Uc (me:Int) (m j:List Int):(bA me m j).length<=m.length+j.length:=by
 have:=CF me (m++j)
 rw[bn]at this;exact this
theorem YD:dD Tryz.prog FV:=fun f k h=>by
 unfold FV at h
 split at h
 ·cases h;exact fJ Di _
 ·cases h;exact Tr
 ·cases h
theorem X8:cx Tryz.prog Nt:=dP mixed YD aG 10
theorem Tl:aO Tryz.prog 41 Ay:=lF X8 mixed (fun args kb K h=>by
 unfold Ay at h;split at h<;>try exact h.elim
 obtain⟨m,j,rfl,rfl,h5,hB,h⟩:=h
 refine⟨_,ahb _ _ _ _ _ _ _ _ _ _ _ _ _ _ _ _ _ _ _ _ _ _ _ K fun f=>⟨m,j,rfl,rfl,h5,⟨by simp [bU]⟩,iJ _ m j,rfl,?_,⟨?_⟩,hB,?_⟩⟩
 ·rw[Kl];exact Uc _ _ _
 ·rw[Kl];exact h5.h
 ·rw[Kn];exact h)
theorem abI:dD Tryz.prog I4:=fun f k h=>by
 unfold I4 at h
 split at h
 ·cases h;exact fJ Tl _
 ·cases h
theorem Yj:cx Tryz.prog FN:=dP mixed abI aG 10
theorem J8:aO Tryz.prog 14 rj:=lF Yj mixed (fun args kb K h=>by
 unfold rj at h;split at h<;>try exact h.elim
 ·obtain⟨rfl,h⟩:=h
  exact⟨_,ahX _ _ _ _ _ _ _ _ _ _ _ _ _ _ _ _ _ _ _ _ _ _ K ⟨fun e=>(by cases e),fun _=>⟨h,h⟩⟩⟩
 ·obtain⟨m,j,rfl,rfl,h5,hB,rfl,h⟩:=h
  have k:∀ f:Nat->Value,bz f [1,2,3,4,5,7,8,9,10,13,14,15,16,17,18,19,20,21]:=fun f=>⟨by simp [bU]⟩
  exact⟨_,ahY _ _ _ _ _ _ _ _ _ _ _ _ _ _ _ _ _ _ _ _ _ _ K ⟨fun _=>⟨fun f=>⟨m,j,rfl,rfl,h5,hB,k f,rfl,h⟩,fun f=>⟨m,j,rfl,rfl,h5,hB,k f,rfl,h⟩⟩,fun f=>by cases f⟩⟩)
theorem Ty:aO Tryz.prog 52 AI:=lF ga mixed (fun args kb K h=>by
 unfold AI at h;split at h<;>try exact h.elim
 rename_i cl nm kd bk B
 refine⟨_,ahV _ _ _ _ _ K ?_⟩
 have key:∀{b:Bool},b=kh cl nm kd bk B.length->K (ο b) []:=fun e=>by rw[e];exact h
 refine⟨fun e1=>⟨fun e2=>⟨fun e3=>⟨fun e4=>⟨fun e5=>⟨fun e6=>⟨fun e7=>⟨fun e8=>⟨fun e9=>?_,fun e9=>?_⟩,fun e8=>?_⟩,fun e7=>?_⟩,fun e6=>?_⟩,fun e5=>?_⟩,fun e4=>?_⟩,fun e3=>?_⟩,fun e2=>?_⟩,fun e1=>?_⟩<;>refine key ?_<;>unfold kh
 ·simp only[decide_eq_true_eq,bne_iff_ne,ne_eq]at*
  exact(decide_eq_true ⟨e1,e2,e3,e4,e5,e6,e7,e8,fun h=>absurd h e9⟩).symm
 ·simp only[decide_eq_true_eq,bne_eq_false_iff_eq]at*
  rw[Bool.eq_iff_iff]
  simp only[beq_iff_eq,decide_eq_true_eq]
  omega
 all_goals
  simp only[decide_eq_true_eq,decide_eq_false_iff_not]at*
  refine(decide_eq_false ?_).symm
  omega)
theorem ac1:aO Tryz.prog 53 Fb:=lF ga mixed (fun args kb K h=>by
 unfold Fb at h;split at h<;>try exact h.elim
 rename_i cl nm kd bk B
 refine⟨_,ahU _ _ _ _ _ K ?_⟩
 have key:∀{b:Bool},b=oe kd->K (ο b) []:=fun e=>by rw[e];exact h
 refine⟨fun e=>key ?_,fun e=>key ?_⟩<;>unfold oe
 ·simp only[beq_iff_eq]at e
  exact(decide_eq_true (.inl e)).symm
 ·simp only[beq_eq_false_iff_ne,ne_eq]at e
  rw[Bool.eq_iff_iff]
  simp only[beq_iff_eq,decide_eq_true_eq]
  omega)
theorem aaf:dD Tryz.prog Hv:=fun f k h=>by
 unfold Hv at h
 split at h
 ·cases h;exact fJ Tl _
 ·cases h;exact fJ Tm _
 ·cases h
theorem Yf:cx Tryz.prog NE:=dP mixed aaf aG 10
theorem su {A:List (List D)} {n:Nat} (h:n=A.length):ay n A=A:=by subst h;exact cQ
theorem Tv:aO Tryz.prog 58 AF:=my Yf mixed [.qD 0 143] (fun args kb K h=>by
 unfold AF at h;split at h<;>try exact h.elim
 rename_i me _ _ _ _ _ C _ _ _ _ M J _ _ _ _ _ _ _ n Q A
 obtain⟨hn,⟨hn2⟩,m,j,c,p,⟨rfl,hl,hb⟩,rfl,rfl,h5,hB,rfl,Ib,h0,h1⟩:=h
 refine⟨_,ahL _ _ _ _ _ _ _ _ _ _ _ _ _ _ _ _ _ _ _ _ _ _ _ K ⟨fun f=>(by cases f),fun _ f=>⟨m,j,rfl,rfl,h5,hB,⟨by simp [bU]⟩,fun e=>h0 (by simpa [allI]using e),fun e=>?_⟩⟩⟩
 have e:allI me m j Q=true:=by simpa [allI]using e
 have h1:=h1 e
 have hlen:(ay 16 (ax (p.bk.toNat*16) c)).length=16:=by
  have:=Ib.1;have:=Ib.2
  rw[cW,gm,hl];omega
 refine⟨bo p,rfl,p.cl,rfl,p.nm,rfl,p.kd,rfl,p.bk,rfl,ints ξ p.b,rfl,bo p,rfl,p.kd,rfl,fun e3=>⟨bo p,rfl,p.bk,rfl,fun f=>⟨c,rfl,hl,fun _=>⟨⟨by simp [bU]⟩,?_⟩,fun ho=>(ho Ib).elim⟩⟩,fun e3=>?_⟩
 ·have:qx c p.kd p.bk=ints ξ ((c.drop (p.bk.toNat*16)).take 16):=by unfold qx;rw[if_pos (by simpa using e3)]
  rw[this]at h1
  rw[sw hlen.symm,su hn,bi,hlen]
  exact⟨⟨ar _,ar _,Nat.le_of_eq hn,by omega,h1⟩,ar _,ar _,Nat.le_of_eq hn,by omega,h1⟩
 ·have:qx c p.kd p.bk=[]:=by unfold qx;rw[if_neg (by simpa using e3)]
  rw[this]at h1
  rw[su hn]
  exact⟨⟨ar _,Nat.le_of_eq hn,by omega,h1⟩,ar _,Nat.le_of_eq hn,by omega,h1⟩)
theorem ZV:dD Tryz.prog G5:=fun f k h=>by
 unfold G5 at h
 split at h
 ·cases h;exact fJ TN _
 ·cases h;exact fJ TL _
 ·cases h;exact fJ adD _
 ·cases h
theorem Yb:cx Tryz.prog NA:=dP mixed ZV aG 10
theorem DH {cl nm kd bk:Int} {b:Nat} (h:vI cl nm kd bk b):lZ bk:=by
 have:=h.h
 simp only[kh,decide_eq_true_eq]at this
 exact⟨by omega,by omega⟩
theorem afr {cl nm bk:Int} {b:Nat} (h:vI cl nm 1 bk b):b=16:=by
 have:=h.h
 simp only[kh,decide_eq_true_eq]at this
 exact this.2.2.2.2.2.2.2.2 trivial
theorem ZS {c b:List Int} {bk:Int}:fm c 1 bk b=splice c (bk.toNat*16) b:=by simp [fm]
theorem ZT {c b:List Int} {bk:Int}:fm c 2 bk b=splice c (bk.toNat*16) (dv 16 0):=by simp [fm]
theorem ZU {c b:List Int} {kd bk:Int} (h1:¬ kd=1) (h2:¬ kd=2):fm c kd bk b=c:=by simp [fm,h1,h2]
theorem Tt:aO Tryz.prog 56 AE:=lF Yb mixed (fun args kb K h=>by
 unfold AE at h;split at h<;>try exact h.elim
 ·rename_i cl nm kd bk B _ _ _ _ _ nu C T _ _ _ _ _ _ _ _ _ _ ch _ _ _
  obtain⟨c,b,x,⟨rfl,hl,hb⟩,rfl,hT,kX,hR,hn,hc⟩:=h
  have ew:γ.wrap (nu+1)=nu+1:=bE (by have:=kX.lo;omega) (by have:=kX.hi;omega)
  have hok:=DH hR
  refine⟨_,ahA _ _ _ _ _ _ _ _ _ _ _ _ _ _ _ _ _ _ _ _ _ _ _ _ _ _ _ K ?_⟩
  rw[ew]
  refine⟨fun e=>?_,fun e=>⟨fun e2=>?_,fun e2=>?_⟩⟩
  ·have e:kd=1:=by simpa using e
   subst e
   obtain⟨h1,h2⟩:=hc ⟨rfl⟩
   rw[ZS]at h1 h2
   refine fun f=>⟨c,b,rfl,rfl,hl,fun _=>⟨⟨by simp [bU]⟩,fun f=>⟨x,hT,fun e=>⟨⟨by simp [bU]⟩,h1 e⟩,fun e=>⟨⟨by simp [bU]⟩,h2 e⟩⟩⟩,fun hno=>(hno ⟨hok,afr hR⟩).elim⟩
  ·have e:kd=2:=by simpa using e2
   subst e
   obtain⟨h1,h2⟩:=hc ⟨rfl⟩
   rw[ZT]at h1 h2
   refine fun f=>⟨c,rfl,hl,fun _=>⟨⟨by simp [bU]⟩,fun f=>⟨x,hT,fun e=>⟨⟨by simp [bU]⟩,h1 e⟩,fun e=>⟨⟨by simp [bU]⟩,h2 e⟩⟩⟩,fun hno=>(hno hok).elim⟩
  ·have e1:¬ kd=1:=by simpa using e
   have e2:¬ kd=2:=by simpa using e2
   have:=hn ⟨by simp [oe,e1,e2]⟩
   rw[ZU e1 e2]at this
   exact this)
theorem abA:dD Tryz.prog I3:=fun f k h=>by
 unfold I3 at h
 split at h
 ·cases h;exact fJ acA _
 ·cases h;exact TF
 ·cases h
theorem Yi:cx Tryz.prog NI:=dP mixed abA aG 10
theorem Zl (x:List L3) (c n:Int):gq x c n=0∨gq x c n=1∨gq x c n=2:=by
 unfold gq
 split
 ·exact .inl rfl
 ·split
  ·exact .inl rfl
  ·split
   ·exact .inr (.inl rfl)
   ·exact .inr (.inr rfl)
theorem ac3:aO Tryz.prog 54 Fc:=lF Yi mixed (fun args kb K h=>by
 unfold Fc at h;split at h<;>try exact h.elim
 ·rename_i cl nm kd bk B _ _ _ _ _ _ C T _ _ _ _ _ _ _ _ _ _ _ _ _ n A
  obtain⟨hn,⟨hn2⟩,x,hT,h1,h2,h0⟩:=h
  refine⟨_,ahW _ _ _ _ _ _ _ _ _ _ _ _ _ _ _ _ _ _ _ _ _ _ _ _ _ _ _ _ K fun f=>⟨x,hT,⟨by simp [bU]⟩,fun e=>?_,fun e=>⟨fun e2=>?_,fun e2=>?_⟩⟩⟩
  ·have h1:=h1 ⟨by simpa using e⟩
   rw[su hn]
   exact⟨⟨ar _,Nat.le_of_eq hn,by omega,h1⟩,ar _,Nat.le_of_eq hn,by omega,h1⟩
  ·exact h2 ⟨by simpa using e2⟩
  ·have e:¬ gq x cl nm=1:=by simpa using e
   have e2:¬ gq x cl nm=2:=by simpa using e2
   obtain⟨h3,h4⟩:=h0 ⟨by have:=Zl x cl nm;omega⟩
   exact⟨x,hT,fun hz=>⟨fun _=>h3 hz,fun he=>(hz.h (by simpa using he)).elim⟩,fun hz=>⟨fun f=>(by cases f),fun _=>h4 hz⟩⟩)
end Go.Proofs.YtfcjngcnifdmnaaGreat
set_option linter.unusedSimpArgs false
set_option linter.unusedVariables false
namespace Vc
open Go
open Go.IntKind renaming i64->γ,u8->ξ,u32->iM
open Go.Value renaming int->ν,map->kT,bool->mG,oneCell'->mH
open List renaming map->ae,drop->ax,take->ay,length_append->bn,getElem?_eq_getElem->bu,getElem?_eq_some_iff->bH,length_map->bT,take_length->cQ,length_take->cW,mem_singleton->da,replicate->dv,mem_append->dz,mem_map->dO,mem_cons->dS,Mem->dW,append_assoc->dX,getElem?_append_left->dY,take_of_length_le->eQ,getElem?_append_right->fk,getElem?_map->fy,mem_of_getElem?->fF,length_drop->gm,mem_cons_of_mem->gn,append_nil->gz,length_cons->gA,getD_eq_getElem?_getD->gO,getElem?_set_ne->gP,mem_append_left->gQ,length_singleton->gZ,drop_zero->iD,getElem?_eq_none->iE,getElem?_take_of_lt->iF,length_set->iG,getElem?_set_self->iN,mem_cons_self->iV,map_append->ja,range->jb,nil_append->jr,take_add_one->jt,flatten_cons->jF,getElem?_of_mem->jG,getElem?_drop->jW,map_cons->kv,length_nil->kP,mem_append_right->kQ,mem_filter->lu,ext_getElem?->mb,eq_nil_of_length_eq_zero->mD
open Nat renaming le_refl->ar,zero_le->bj,beq->cX,zero_add->c9,eq_of_beq_eq_true->de,add_assoc->g_,lor->iW,lt_or_ge->kx,sub_zero->ly,le_trans->mc
open Option renaming some->bb,bind_eq_some_iff->lO,map->ng
open Int renaming toNat_natCast->cN,le_refl->dE
open Bool renaming and_eq_true->jo,not_eq_false'->kr,not_eq_true'->mA
abbrev pv (b:Nat):Value:=.pointer (some ⟨b,0,none⟩)
def xF:V->Value->Prop
 | .any v,p=>v=p
 | .dat d,p=>d= .val p
 |_,_=>False
theorem xF.den {v:V} {p:Value} (h:xF v p) {σ:Sg} {E:EH} {x:Value} (hd:Den σ E v x):x=p:=by
 cases v<;>simp only[xF]at h
 ·subst h;simpa only[Den]using hd
 ·subst h;simp only[Den,bX]at hd;exact hd.1
theorem xa {σ σ':Sg} {E:EH} {v v':V} (h:V.bZ (fun _=>none) v=some v') {x:Value} (hd:Den σ E v x):Den σ' E v' x:=
 Den.bZ (fun i j r hi=>by cases hi) h hd
theorem UN {σ σ':Sg} {E:EH} {vs vs':List V} (h:V.lD (fun _=>none) vs=some vs') {xs:List Value} (hd:az σ E vs xs):az σ' E vs' xs:=
 az.bZ (fun i j r hi=>by cases hi) h hd
theorem K5 {σ:Sg} {o:List Nat} (ho:o.take 1=jb 1) {b:Nat} (h:oz σ b):oz (dU σ o) b:=by
 obtain⟨r,h1,h2⟩:=h
 cases o with
 |nil=>simp at ho
 |cons i o=>
  simp [List.range_succ]at ho
  subst ho
  exact⟨r,by simp [dU,h1],h2⟩
theorem aez {q:Re} {E E':EH} {W W':World} {A:List (Sg×KB)} (hi:Inv [q] E [.objs A] W) {k:Nat} {a:Sg×KB} (hk:A[k]? =some a) {σ':Sg} {bY:KB} (hst:Step a.1 E a.2 W σ' E' bY W')
  {a':Sg×KB} (ha:nW E' W' a') (hown:∀ b,jJ a' b->dc σ' bY b):Step [q] E [.objs A] W [q] E' [.objs (A.set k a')] W':=by
 have hp:qj E W A:=hi.obj 0 q _ rfl rfl
 have hka:=(bH.1 hk).1
 have hmem:a∈A:=fF hk
 have hin:∀{b:Nat} {c:Sg×KB},c∈A->jJ c b->dc [q] [.objs A] b:=fun{b c} hc hb=>⟨0,q,_,rfl,rfl,c,hc,hb⟩
 have Ck:∀(m:Nat) (c:Sg×KB) (b:Nat),m≠k->A[m]? =some c->jJ c b->¬ dc a.1 a.2 b:=fun m c b hm hc hb ho=>
  hp.eH m k c a b hm hc hk hb ((hp.ok a hmem).owns ho)
 have hkeep:∀(m:Nat) (c:Sg×KB) (b:Nat),m≠k->A[m]? =some c->jJ c b->W'.heap[b]? =W.heap[b]?:=fun m c b hm hc hb=>
  hst.c8.block b ((hp.ok c (fF hc)).lt hb) (Ck m c b hm hc hb)
 have e_:∀(m:Nat) (c:Sg×KB),(A.set k a')[m]? =some c->(m=k/\c=a')∨(m≠k/\A[m]? =some c):=fun m c h=>by
  by_cases e:k=m
  ·subst e
   rw[iN hka]at h
   exact .inl ⟨rfl,(bb.inj h).symm⟩
  ·rw[gP e]at h
   exact .inr ⟨fun x=>e x.symm,h⟩
 have hnew:∀ b,jJ a' b->dc a.1 a.2 b∨W.heap.size<=b:=fun b hb=>hst.own b (hown b hb)
 have IC:qj E' W' (A.set k a'):=by
  refine⟨fun c hc=>?_,fun m n c d b hmn hc hd h1 h2=>?_⟩
  ·obtain⟨m,hm⟩:=jG hc
   rcases e_ m c hm with ⟨rfl,rfl⟩ | ⟨e,h⟩
   ·exact ha
   ·exact(hp.ok c (fF h)).mono hst.le (fun b hb=>hkeep m c b e h hb)
  ·rcases e_ m c hc with ⟨rfl,rfl⟩ | ⟨e,h⟩<;>rcases e_ n d hd with ⟨rfl,rfl⟩ | ⟨e',h'⟩
   ·exact hmn rfl
   ·rcases hnew b h1 with k1 | k1
    ·exact Ck n d b e' h' h2 k1
    ·have:=(hp.ok d (fF h')).lt h2;omega
   ·rcases hnew b h2 with k1 | k1
    ·exact Ck m c b e h h1 k1
    ·have:=(hp.ok c (fF h)).lt h1;omega
   ·exact hp.eH m n c d b hmn h h' h1 h2
 have rK:∀ b,dc [q] [.objs (A.set k a')] b->dc [q] [.objs A] b∨W.heap.size<=b:=by
  rintro b ⟨i,r,o,h1,h2,h3⟩
  have:i=0:=by
   rcases i with _ | i
   ·rfl
   ·simp at h1
  subst this
  simp at h1 h2;subst h1;subst h2
  obtain⟨c,hc,hb⟩:=h3
  obtain⟨m,hm⟩:=jG hc
  rcases e_ m c hm with ⟨rfl,rfl⟩ | ⟨e,h⟩
  ·rcases hnew b hb with k1 | k1
   ·exact .inl (hin hmem ((hp.ok a hmem).owns k1))
   ·exact .inr k1
  ·exact .inl (hin (fF h) hb)
 refine⟨⟨rfl,fun i r o h1 h2=>?_,fun i j r r' o o' b hij h1 h2 h3 h4 _ _=>?_,hst.inv.fe,fun b hb=>?_⟩,⟨hst.c8.os,hst.c8.tape,hst.c8.output,hst.c8.size,fun b hb hn=>hst.c8.block b hb (fun ho=>hn (hin hmem ((hp.ok a hmem).owns ho)))⟩,⟨[],by simp⟩,hst.le,rK,fun b o hb=>?_⟩
 ·have:i=0:=by
   rcases i with _ | i
   ·rfl
   ·simp at h1
  subst this
  simp at h1 h2;subst h1;subst h2
  exact IC
 ·have e1:i=0:=by
   rcases i with _ | i
   ·rfl
   ·simp at h1
  have e2:j=0:=by
   rcases j with _ | j
   ·rfl
   ·simp at h3
  omega
 ·obtain⟨i,r,o,h1,h2,h3⟩:=hb
  have:i=0:=by
   rcases i with _ | i
   ·rfl
   ·simp at h1
  subst this
  simp at h1 h2;subst h1;subst h2
  obtain⟨c,hc,hcb⟩:=h3
  obtain⟨m,hm⟩:=jG hc
  rcases e_ m c hm with ⟨rfl,rfl⟩ | ⟨e,h⟩
  ·exact hst.inv.sep b (hown b hcb)
  ·cases hE:E' b with
   |none=>rfl
   |some x=>
    rcases hst.new b x hE with k1 | k1 | k1
    ·rw[hi.sep b (hin (fF h) hcb)]at k1;cases k1
    ·exact(Ck m c b e h hcb k1).elim
    ·have:=(hp.ok c (fF h)).lt hcb;omega
 ·rcases hst.new b o hb with k1 | k1 | k1
  ·exact .inl k1
  ·exact .inr (.inl (hin hmem ((hp.ok a hmem).owns k1)))
  ·exact .inr (.inr k1)
def fg (K:V->KB->Prop):V->KB->Prop:=fun r kb=>match sX false 1 [] kb,V.bZ (fun _=>none) r with
 |some (_,fC,_),some r'=>match gG fC with | true=>K r' fC | false=>False
 |_,_=>False
theorem Jo {P:Program} {f:FuncId} {S S0:aE} (hS:aO P f S0) (h:∀ args kb K,S args kb K->S0 args kb (fg K)):gB P f S:=fun args kb K hs σ E W xs hi hd=>by
 refine(hS _ _ _ (h args kb K hs) σ E W xs hi hd).mono ?_
 rintro e W' ⟨v,r,σ',E',bY,rfl,hst,eT,hK⟩
 unfold fg at hK
 split at hK<;>try exact hK.elim
 rename_i vs' fC o r' hc hr'
 split at hK<;>try exact hK.elim
 rename_i nv
 obtain⟨hn,ht,_,hsel⟩:=rq hc
 obtain⟨k1,k2,k3⟩:=hst.inv.sel hn hsel
 refine⟨v,r',σ',E',bY,_,fC,rfl,hst,k1,nv,k2,fun b hb=>?_,fun τ=>xa hr' eT,hK⟩
 obtain⟨τ,rfl⟩:=hst.pre
 obtain⟨r,hr,hrb⟩:=hb
 exact K5 ht ⟨r,jR hr,hrb⟩
theorem C0 {P:Program} (hm:P.follows .mixedOrders=true) {f:FuncId} {S:aE} (h:∀ args kb K,S args kb K->∃(X:cd) (T:Nat->Option LI),cx P X/\aI P X T f args kb (fg K)):gB P f S:=
 Jo (xi hm (S:=fun a k K0=>∃ X T,cx P X/\aI P X T f a k K0) fun _ _ _ h=>h) h
def aae (l:List V) (k:Nat):Bool:=match l[k]? with
 |some (.sb b)=>match b with | true=>false | false=>true
 |some .ff=>true
 |_=>false
def Ip (k:Nat) (ms:List Bool) (kb:KB) (K:KB->Prop):Prop:=match kb with
 | .cells l::rest=>match aae l k with
  |true=>∀ f:Nat->Value,match mQ f ms l 0 with
   |some l'=>K (.cells l'::rest)
   |none=>False
  |false=>K (.cells l::rest)
 |kb=>K kb
theorem Q9 {k:Nat} {ms:List Bool} {kb:KB} {K:KB->Prop} (h:Ip k ms kb K) {σ:Sg} {E:EH} {W:World} (hi:Inv σ E kb W):∃ kb',Inv σ E kb' W/\(∀ b,dc σ kb' b->dc σ kb b)/\K kb':=by
 unfold Ip at h
 split at h
 ·rename_i l rest
  split at h
  ·obtain⟨q,hq⟩:∃ q,σ[0]? =some q:=by
    have:=hi.len
    cases σ with
    |nil=>simp at this
    |cons q σ=>exact⟨q,rfl⟩
   obtain⟨arr,ty,ha,hl⟩:=hi.obj 0 q _ hq rfl
   obtain⟨f,hf⟩:=CZ (ms:=ms) (i:=0) hl
   have h:=h f
   split at h<;>try exact h.elim
   rename_i l' hl'
   obtain⟨h1,h2⟩:=hf l' hl'
   refine⟨_,⟨by simpa using hi.len,fun i q' o k1 k2=>?_,fun i j q1 q2 o o' b hij k1 k2 k3 k4 k5 k6=>?_,hi.fe,fun b hb=>hi.sep b (tH hb)⟩,fun b hb=>tH hb,h⟩
   ·cases i with
    |zero=>
     simp at k2;subst k2
     rw[hq]at k1;cases k1
     exact⟨arr,ty,ha,h1⟩
    |succ i=>exact hi.obj (i+1) q' o k1 (by simpa using k2)
   ·have key:∀(i:Nat) (o:KO) (q:Re),(KO.cells l'::rest)[i]? =some o->owned q o b->∃ o2,(KO.cells l::rest)[i]? =some o2/\owned q o2 b:=fun i o q h2 h5=>by
     cases i with
     |zero=>simp at h2;subst h2;exact⟨_,rfl,h5⟩
     |succ i=>exact⟨o,by simpa using h2,h5⟩
    obtain⟨o2,g1,g2⟩:=key i o q1 k2 k5
    obtain⟨o3,g3,g4⟩:=key j o' q2 k4 k6
    exact hi.eH i j q1 q2 o2 o3 b hij k1 g1 k3 g3 g2 g4
  ·exact⟨_,hi,fun b hb=>hb,h⟩
 ·exact⟨_,hi,fun b hb=>hb,h⟩
def gJ (k:Nat) (ms:List Bool) (K:V->KB->Prop):V->KB->Prop:=fun r kb=>Ip k ms kb (fg K r)
theorem ab5 {P:Program} {f:FuncId} {S S0:aE} (hS:aO P f S0) (k:Nat) (ms:List Bool) (h:∀ args kb K,S args kb K->S0 args kb (gJ k ms K)):gB P f S:=fun args kb K hs σ E W xs hi hd=>by
 refine(hS _ _ _ (h args kb K hs) σ E W xs hi hd).mono ?_
 rintro e W' ⟨v,r,σ',E',bY,rfl,hst,eT,hK⟩
 obtain⟨kbm,him,IA,hK⟩:=Q9 hK hst.inv
 unfold fg at hK
 split at hK<;>try exact hK.elim
 rename_i vs' fC o r' hc hr'
 split at hK<;>try exact hK.elim
 rename_i nv
 obtain⟨hn,ht,_,hsel⟩:=rq hc
 obtain⟨k1,k2,k3⟩:=him.sel hn hsel
 refine⟨v,r',σ',E',bY,_,fC,rfl,hst,k1,nv,fun b hb=>IA b (k2 b hb),fun b hb=>?_,fun τ=>xa hr' eT,hK⟩
 obtain⟨τ,rfl⟩:=hst.pre
 obtain⟨r,hr,hrb⟩:=hb
 exact K5 ht ⟨r,jR hr,hrb⟩
theorem uQ {P:Program} (hm:P.follows .mixedOrders=true) (k:Nat) (ms:List Bool) {f:FuncId} {S:aE} (h:∀ args kb K,S args kb K->∃(X:cd) (T:Nat->Option LI),cx P X/\aI P X T f args kb (gJ k ms K)):gB P f S:=
 ab5 (xi hm (S:=fun a k K0=>∃ X T,cx P X/\aI P X T f a k K0) fun _ _ _ h=>h) k ms h
def xb (k:Nat) (ms:List Bool) (K:V->KB->Prop):V->KB->Prop:=fun r kb=>match kb with
 | .jP a:: _=>match V.bZ (fun _=>none) r with
  |some r'=>gG a.2=true/\K r' a.2
  |none=>False
 |kb=>gJ k ms K r kb
theorem ab6 {P:Program} (hm:P.follows .mixedOrders=true) (k:Nat) (ms:List Bool) {f:FuncId} {S:aE} (h:∀ args kb K,S args kb K->∃(X:cd) (T:Nat->Option LI),cx P X/\aI P X T f args kb (xb k ms K)):gB P f S:=fun args kb K hs σ E W xs hi hd=>by
 have h0:aO P f (fun a k K0=>∃ X T,cx P X/\aI P X T f a k K0):=xi hm fun _ _ _ h=>h
 refine(h0 _ _ _ (h args kb K hs) σ E W xs hi hd).mono ?_
 rintro e W' ⟨v,r,σ',E',bY,rfl,hst,eT,hK⟩
 unfold xb at hK
 split at hK
 ·rename_i a rest
  split at hK<;>try exact hK.elim
  rename_i r' hr'
  obtain⟨nv,hK⟩:=hK
  obtain⟨q,hq⟩:∃ q,σ'[0]? =some q:=by
   have:=hst.inv.len
   cases σ' with
   |nil=>simp at this
   |cons q _=>exact⟨q,rfl⟩
  obtain⟨h1,h2⟩:=hst.inv.obj 0 q _ hq rfl
  refine⟨v,r',σ',E',_,a.1,a.2,rfl,hst,h1.inv hst.inv.fe (fun b hb=>hst.inv.sep b ⟨0,q,_,hq,rfl,hb⟩),nv,fun b hb=>⟨0,q,_,hq,rfl,h1.owns hb⟩,fun b hb=>?_,fun τ=>xa hr' eT,hK⟩
  obtain⟨q0,g1,rfl⟩:=hb
  obtain⟨τ,rfl⟩:=hst.pre
  have:=jR (τ:=τ) g1
  rw[hq]at this;cases this
  exact h2
 ·obtain⟨kbm,him,IA,hK⟩:=Q9 hK hst.inv
  unfold fg at hK
  split at hK<;>try exact hK.elim
  rename_i vs' fC o r' hc hr'
  split at hK<;>try exact hK.elim
  rename_i nv
  obtain⟨hn,ht,_,hsel⟩:=rq hc
  obtain⟨k1,k2,k3⟩:=him.sel hn hsel
  refine⟨v,r',σ',E',bY,_,fC,rfl,hst,k1,nv,fun b hb=>IA b (k2 b hb),fun b hb=>?_,fun τ=>xa hr' eT,hK⟩
  obtain⟨τ,rfl⟩:=hst.pre
  obtain⟨r,hr,hrb⟩:=hb
  exact K5 ht ⟨r,jR hr,hrb⟩
def Sy (S:aE):aE:=fun args kb K=>match args,kb with
 |v::rest,[.objs A]=>∃ k a b rest',A[k]? =some a/\oz a.1 b/\xF v (pv b)/\V.lD (fun _=>none) rest=some rest'/\
  S (.ptr 0 0::rest') a.2 (fun r fC=>∀ τ,oz τ b->K r [.objs (A.set k (τ,fC))])
 |_,_=>False
theorem ab7 {P:Program} {f:FuncId} {S:aE} (hS:gB P f S):aO P f (Sy S):=fun args kb K h σ E W xs hi hd=>by
 unfold Sy at h
 split at h<;>try exact h.elim
 rename_i v rest A
 obtain⟨k,a,b,rest',hk,tu,hv,IE,h⟩:=h
 obtain⟨q,rfl⟩:∃ q,σ=[q]:=by
  have:=hi.len
  match σ,this with
  | [q],_=>exact⟨q,rfl⟩
 have hp:qj E W A:=hi.obj 0 q _ rfl rfl
 have hmem:a∈A:=fF hk
 simp only[az]at hd
 obtain⟨x,xs',rfl,hx,hxs⟩:=hd
 have hx:=hv.den hx
 subst hx
 have hsep:∀ c,jJ a c->E c=none:=fun c hc=>hi.sep c ⟨0,q,_,rfl,rfl,a,hmem,hc⟩
 have hia:=(hp.ok a hmem).inv hi.fe hsep
 have abf:=tu
 obtain⟨r,hr,hrb⟩:=tu
 refine(hS _ _ _ h a.1 E W _ hia (az.cons (by simp only[Den];exact⟨r,hr,by rw[hrb]⟩) (UN IE hxs))).mono ?_
 rintro e W' ⟨v2,r2,σ',E',bY,σ3,fC,rfl,hst,hin,nv,hown,nB,eT,hK⟩
 exact⟨v2,r2,[q],E',_,rfl,aez hi hk hst (hin.J2 nv) (fun c hc=>hown c hc.up),eT _,hK _ (nB b abf)⟩
def LX (b:Nat):V->Option V
 | .ptr 0 0=>some (.any (pv b))
 | .φ [.ptr 0 0,v]=>match V.bZ (fun _=>none) v with | some v'=>some (.φ [.any (pv b),v']) | none=>none
 |_=>none
theorem WF {b:Nat} {v v':V} (h:LX b v=some v') {σ σ':Sg} {E:EH} (hr:oz σ b) {x:Value} (hd:Den σ E v x):Den σ' E v' x:=by
 obtain⟨r,hr,hb⟩:=hr
 unfold LX at h
 split at h<;>try (cases h;done)
 ·cases h
  simp only[Den]at hd ⊢
  obtain⟨r',h1,h2⟩:=hd
  rw[hr]at h1;cases h1
  rw[h2,hb]
 ·split at h<;>try (cases h;done)
  rename_i w w' hw
  cases h
  simp only[Den]at hd ⊢
  obtain⟨vs,rfl,h1⟩:=hd
  simp only[az,Den]at h1
  obtain⟨x1,xs1,rfl,⟨r',h2,h3⟩,x2,Xg,rfl,h4,rfl⟩:=h1
  rw[hr]at h2;cases h2
  refine⟨_,rfl,az.cons (by simp only[Den];rw[h3,hb]) (az.cons (xa hw h4) .nil)⟩
theorem abp {σ:Sg} {E:EH} {kb:KB} {W:World} (h:Inv σ E kb W):Inv [] E [] W:=
 ⟨rfl,fun i r o h=>by simp at h,fun i j r r' o o' b _ h=>by simp at h,h.fe,fun b ⟨i,r,o,h,_⟩=>by simp at h⟩
theorem zj {b:Nat} (h:dc [] [] b):False:=by obtain⟨i,r,o,h,_⟩:=h;simp at h
def Y7 (S:aE):aE:=fun args kb K=>∃ A args',(kb=[]/\A=[]∨kb=[.objs A])/\V.lD (fun _=>none) args=some args'/\
 S args' [] (fun r bY=>match sX false 0 [r] bY with
  |some ([r'],[],_)=>match V.bZ (fun _=>none) r' with | some r2=>K r2 kb | none=>False
  |some ([r'],fC,_)=>gG fC=true/\∀ b τ,oz τ b->match LX b r' with | some r2=>K r2 [.objs (A++[(τ,fC)])] | none=>False
  |_=>False)
theorem Gn {P:Program} {f:FuncId} {S:aE} (hS:aO P f S):aO P f (Y7 S):=fun args kb K h σ E W xs hi hd=>by
 obtain⟨A,args',hkb,ha,h⟩:=h
 refine(hS _ _ _ h [] E W _ (abp hi) (UN ha hd)).mono ?_
 rintro e W' ⟨v,r,σ',E',bY,rfl,hst,eT,hK⟩
 have keep:∀ b,b<W.heap.size->W'.heap[b]? =W.heap[b]?:=fun b hb=>hst.c8.block b hb (fun ho=>zj ho)
 have Qs:∀ b,b<W.heap.size->E b=none->E' b=none:=fun b hb hE=>by
  cases hE':E' b with
  |none=>rfl
  |some x=>
   rcases hst.new b x hE' with k | k | k
   ·rw[hE]at k;cases k
   ·exact(zj k).elim
   ·omega
 have hnew2:∀{vz:Sg} {rU:KB} (b:Nat) (o:Obj),E' b=some o->E b=some o∨dc vz rU b∨W.heap.size<=b:=fun b o hb=>by
  rcases hst.new b o hb with k | k | k
  ·exact .inl k
  ·exact(zj k).elim
  ·exact .inr (.inr k)
 split at hK<;>try exact hK.elim
 ·
  split at hK<;>try exact hK.elim
  rename_i r' o hc _ r2 wx
  obtain⟨hn,ht,IF,hsel⟩:=rq hc
  obtain⟨k1,k2,k3⟩:=hst.inv.sel hn hsel
  have hl:=az.bZ k3 IF (ym eT)
  refine⟨v,r2,σ,E',kb,rfl,⟨⟨hi.len,fun i r o h1 h2=>?_,hi.eH,hst.inv.fe,fun b hb=>Qs b (hi.lt hb) (hi.sep b hb)⟩,⟨hst.c8.os,hst.c8.tape,hst.c8.output,hst.c8.size,fun b hb _=>keep b hb⟩,⟨[],by simp⟩,hst.le,fun b hb=> .inl hb,hnew2⟩,xa wx (yn hl),hK⟩
  have:=(hi.obj i r o h1 h2).mono (τ:=[]) (W':=W') hst.le (fun b hb=>keep b ((hi.obj i r o h1 h2).lt hb))
  simpa using this
 ·rename_i r' fC o hne hc
  obtain⟨nv,hK⟩:=hK
  obtain⟨hn,ht,IF,hsel⟩:=rq hc
  obtain⟨k1,k2,k3⟩:=hst.inv.sel hn hsel
  have hl:=yn (az.bZ k3 IF (ym eT))
  obtain⟨q,hq⟩:∃ q,(dU σ' o)[0]? =some q:=by
   have:=k1.len
   cases hs:dU σ' o with
   |nil=>
    rw[hs]at this
    cases fC with
    |nil=>exact absurd rfl hne
    |cons _ _=>simp at this
   |cons q _=>exact⟨q,rfl⟩
  have tu:oz (dU σ' o) q.blk:=⟨q,hq,rfl⟩
  have hK:=hK q.blk _ tu
  split at hK<;>try exact hK.elim
  rename_i r2 wx
  have oa:=k1.J2 nv
  have Im:∀ b,jJ (dU σ' o,fC) b->W.heap.size<=b:=fun b hb=>by
   rcases hst.own b (k2 b hb.up)with k | k
   ·exact(zj k).elim
   ·exact k
  have hold:qj E W A:=by
   rcases hkb with ⟨rfl,rfl⟩ | rfl
   ·exact⟨fun a ha=>by simp at ha,fun k m a a' b _ h=>by simp at h⟩
   ·have h1:σ.length=1:=hi.len
    exact hi.obj 0 σ[0] _ (bu (by omega)) rfl
  have IC:qj E' W' (A++[(dU σ' o,fC)]):=by
   have e_:∀(m:Nat) (c:Sg×KB),(A++[(dU σ' o,fC)])[m]? =some c->A[m]? =some c∨(m=A.length/\c=(dU σ' o,fC)):=fun m c h=>by
    rcases Nat.lt_trichotomy m A.length with hm | hm | hm
    ·rw[dY hm]at h;exact .inl h
    ·subst hm
     rw[fk (ar _)]at h
     simp at h
     exact .inr ⟨rfl,h.symm⟩
    ·rw[iE (by simp;omega)]at h;cases h
   refine⟨fun c hc=>?_,fun m n c d b hmn h1 h2 h3 h4=>?_⟩
   ·obtain⟨m,hm⟩:=jG hc
    rcases e_ m c hm with h | ⟨_,rfl⟩
    ·have hc:=fF h
     exact(hold.ok c hc).mono hst.le (fun b hb=>keep b ((hold.ok c hc).lt hb))
    ·exact oa
   ·rcases e_ m c h1 with k | ⟨e1,rfl⟩<;>rcases e_ n d h2 with k' | ⟨e2,rfl⟩
    ·exact hold.eH m n c d b hmn k k' h3 h4
    ·have:=(hold.ok c (fF k)).lt h3;have:=Im b h4;omega
    ·have:=(hold.ok d (fF k')).lt h4;have:=Im b h3;omega
    ·omega
  have one:∀{q':Re} {vz:Sg} {rU:KB},(∀ b,(∃ a∈A,jJ a b)->dc vz rU b)->(∀ b,dc vz rU b->E b=none)->(∃ τ,[q']=vz++τ)->Step vz E rU W [q'] E' [.objs (A++[(dU σ' o,fC)])] W':=by
   intro q' vz rU h1 h2 h3
   have hz:∀{i:Nat} {r:Re},[q'][i]? =some r->i=0/\r=q':=fun{i r} h=>by
    rcases i with _ | i
    ·simp at h;exact⟨rfl,h.symm⟩
    ·simp at h
   have Rl:∀ b,dc [q'] [.objs (A++[(dU σ' o,fC)])] b->(∃ a∈A,jJ a b)∨jJ (dU σ' o,fC) b:=by
    rintro b ⟨i,r,ob,g1,g2,g3⟩
    obtain⟨rfl,rfl⟩:=hz g1
    simp at g2;subst g2
    obtain⟨c,hc,hb⟩:=g3
    rcases dz.1 hc with hc | hc
    ·exact .inl ⟨c,hc,hb⟩
    ·simp at hc;subst hc;exact .inr hb
   refine⟨⟨rfl,fun i r ob g1 g2=>?_,fun i j r r' ob ze b hij g1 g2 g3 g4 _ _=>?_,hst.inv.fe,fun b hb=>?_⟩,⟨hst.c8.os,hst.c8.tape,hst.c8.output,hst.c8.size,fun b hb _=>keep b hb⟩,h3,hst.le,fun b hb=>?_,hnew2⟩
   ·obtain⟨rfl,rfl⟩:=hz g1
    simp at g2;subst g2
    exact IC
   ·obtain⟨rfl,rfl⟩:=hz g1
    obtain⟨rfl,rfl⟩:=hz g3
    exact(hij rfl).elim
   ·rcases Rl b hb with ⟨c,hc,hcb⟩ | hcb
    ·exact Qs b ((hold.ok c hc).lt hcb) (h2 b (h1 b ⟨c,hc,hcb⟩))
    ·exact k1.sep b hcb.up
   ·rcases Rl b hb with k | k
    ·exact .inl (h1 b k)
    ·exact .inr (Im b k)
  rcases hkb with ⟨rfl,rfl⟩ | rfl
  ·have:σ=[]:=mD hi.len
   subst this
   exact⟨v,r2,[KE],E',_,rfl,one (fun b ⟨a,ha,_⟩=>by simp at ha) (fun b hb=>(zj hb).elim) ⟨[KE],rfl⟩,WF wx tu hl,hK⟩
  ·have h1:σ.length=1:=hi.len
   match σ,h1 with
   | [q'],_=>exact⟨v,r2,[q'],E',_,rfl,one (fun b hb=>⟨0,q',_,rfl,rfl,hb⟩) (fun b hb=>hi.sep b hb) ⟨[],by simp⟩,WF wx tu hl,hK⟩
end Vc
namespace Go.Proofs.YtfcjngcnifdmnaaGreat
open Vc Go
open Go.IntKind renaming i64->γ,u8->ξ,u32->iM
open Vc.V renaming any->δ,int->ε,sl->ζ,sb->ο,ptr->aj,φ->au,dat->aC,aa->aR,mp->aY,arr->bF,agg->fz
open Vc.D renaming val->η,sl->χ
open Go.Value renaming int->ν,map->kT,bool->mG,oneCell'->mH
open List renaming map->ae,drop->ax,take->ay,length_append->bn,getElem?_eq_getElem->bu,getElem?_eq_some_iff->bH,length_map->bT,take_length->cQ,length_take->cW,mem_singleton->da,replicate->dv,mem_append->dz,mem_map->dO,mem_cons->dS,Mem->dW,append_assoc->dX,getElem?_append_left->dY,take_of_length_le->eQ,getElem?_append_right->fk,getElem?_map->fy,mem_of_getElem?->fF,length_drop->gm,mem_cons_of_mem->gn,append_nil->gz,length_cons->gA,getD_eq_getElem?_getD->gO,getElem?_set_ne->gP,mem_append_left->gQ,length_singleton->gZ,drop_zero->iD,getElem?_eq_none->iE,getElem?_take_of_lt->iF,length_set->iG,getElem?_set_self->iN,mem_cons_self->iV,map_append->ja,range->jb,nil_append->jr,take_add_one->jt,flatten_cons->jF,getElem?_of_mem->jG,getElem?_drop->jW,map_cons->kv,length_nil->kP,mem_append_right->kQ,mem_filter->lu,ext_getElem?->mb,eq_nil_of_length_eq_zero->mD
open Vc.KO renaming row->ai,dead->aw,cells->aB,objs->fE
open Nat renaming le_refl->ar,zero_le->bj,beq->cX,zero_add->c9,eq_of_beq_eq_true->de,add_assoc->g_,lor->iW,lt_or_ge->kx,sub_zero->ly,le_trans->mc
open Option renaming some->bb,bind_eq_some_iff->lO,map->ng
open Int renaming toNat_natCast->cN,le_refl->dE
open Bool renaming and_eq_true->jo,not_eq_false'->kr,not_eq_true'->mA
set_option linter.unusedVariables false
set_option linter.unusedSimpArgs false
set_option maxRecDepth 100000
set_option maxHeartbeats 2000000
structure dL where
 kd:Int
 n:List Int
 b:List Int
 l:List (List Int)
structure Post where
 to:Int
 m:dL
structure Dn where
 o:Op
 e:Int
 x:List Int
structure b9 where
 ins:Int->Bool
 cy:Int->Bool
 cur:Option Op
structure Vw where
 vi:Int
 vv:Int
 ve:Int
 mem:List Int
 aH:List Int
structure ι where
 me:Int
 id:Int
 ep:Int
 nu:Int
 ce:Int
 ti:Int
 bl:Bool
 lo:Bool
 ch:Bool
 c:List Int
 t:List L3
 v:Vw
 ld:Option b9
 out:List Post
 done:List Dn
def jA (m:dL):List D:=[dn γ m.kd,.sl 1 (ints γ m.n),.sl 1 (ints ξ m.b),.sl 1 (m.l.map fun x=>[.sl 1 (ints ξ x)])]
def bV (p:Post):List D:=dn γ p.to::jA p.m
def dA (d:Dn):List D:=bo d.o++[dn γ d.e,.sl 1 (ints ξ d.x)]
structure MB (M:ML) (f:Int->Bool):Prop where
 b:lL M
 f:∀ n,iQ M [n] 0=f n
def gK (R:ι):List L3:=R.t
def aP (R:ι):List Int:=bA R.me R.v.mem R.v.aH
def iz (R:ι) (to kd:Int) (n:List Int) (b:List Int) (l:List (List Int)):ι:={R with out:=R.out++[⟨to,⟨kd,R.id::R.ep::n,b,l⟩⟩] }
def qP (R:ι) (to:Int):ι:=iz R to 10 [R.nu] (ca R.c) [be (gK R)]
def ou (R:ι) (to:Int):ι:=iz R to 14 [R.nu] [] []
def yB (R:ι) (o:Op) (to:Int):ι:=iz R to 12 [R.nu,o.cl,o.nm,o.kd,o.bk,eG R.c] o.b []
def ci (R:ι):Option Op:=R.ld.bind (·.cur)
def gy (R:ι):ι:={R with ld:=none,done:=R.done++(match ci R with | some o=>[⟨o,19,[]⟩] | none=>[]) }
def gh (o:Op):Bool:=kh o.cl o.nm o.kd o.bk o.b.length
def je (o:Op):Bool:=oe o.kd
def kD (t:List L3) (o:Op):List L3:=if je o=true/\cY t o.cl o.nm 0=0 then pd t o.cl o.nm 0 else t
def gE (R:ι) (o:Op):ι:={R with nu:=R.nu+1,ch:=true,c:=fm R.c o.kd o.bk o.b,t:=kD R.t o }
def mu (c:List Int) (o:Op):List Int:=if o.kd=3 then(c.drop (o.bk.toNat*16)).take 16 else[]
def fq (R:ι):ι:=match R.ld with
 |some L=>match L.cur with
  |some o=>if(aP R).all L.cy then{R with ld:=some {L with cur:=none },done:=R.done++[⟨o,0,mu R.c o⟩] }else R
  |none=>R
 |none=>R
def gw (R:ι):Bool:=match R.ld with
 |some L=>(aP R).all L.ins
 |none=>false
def ef (R:ι):Bool:=R.ld.isSome
def lA (R:ι):Bool:=(ci R).isSome
def lW (R:ι) (o:Op):Option (Int×ι):=
 if gq (gK R) o.cl o.nm=1 then some (0,{R with done:=R.done++[⟨o,sZ (gK R) o.cl o.nm,[]⟩] })
 else if gq (gK R) o.cl o.nm=2 then some (13,R)
 else if cY (gK R) o.cl o.nm 0=0 then none else some (cY (gK R) o.cl o.nm 0,R)
def gC (R:ι) (L:b9) (o:Op):ι:=
 let R1:={gE R o with ld:=some {L with cy:=fun _=>false,cur:=some o } }
 fq ((aP R1).foldl (fun r k=>yB r o k) R1)
def dN (R:ι) (o:Op):Int×ι:=
 if gh o=false then(1,R)else match R.ld with
 |none=>(12,R)
 |some L=>if gw R=false then(12,R)else if lA R=true then(18,R)else
  match (if je o then lW R o else none)with
  |some (e,R1)=>(e,R1)
  |none=>(0,gC R L o)
structure dF (R:ι):Prop where
 cl:R.c.length=128
 cb:bq R.c
 n0:0<=R.nu
 n1:R.nu<=2199023255552
 vl:R.v.mem.length+R.v.aH.length<=1000
 ol:R.out.length<=100000
 dl:R.done.length<=100000
 cr:∀ o,ci R=some o->gh o=true
abbrev an (Q:ML):KO:=.mp [γ] false false 1 Q
abbrev nO (R:ι):Nat:=(ae bV R.out).length
abbrev nD (R:ι):Nat:=(ae dA R.done).length
abbrev rO (R:ι):KO:=.row 107 5 (ae bV R.out)
abbrev rD (R:ι):KO:=.row 70 7 (ae dA R.done)
abbrev wW (o:Op):KO:=.cells [.int γ o.cl,.int γ o.nm,.int γ o.kd,.int γ o.bk,aC (.sl 1 (ints ξ o.b))]
abbrev nR (w:Vw):KO:=.cells [.int γ w.vi,.int γ w.vv,.int γ w.ve,aC (.sl 1 (ints γ w.mem)),aC (.sl 1 (ints γ w.aH))]
abbrev cR (R:ι) (t_ rV rS rn ry r8 rA:V):KO:=.cells [.int γ R.me,.int γ R.id,ο R.bl,ο R.lo,.int γ R.ep,.int γ R.nu,bF 128 (aT ξ R.c),t_,.int γ R.v.vi,.int γ R.v.vv,.int γ R.v.ve,aC (.sl 1 (ints γ R.v.mem)),aC (.sl 1 (ints γ R.v.aH)),rV,rS,rn,ry,.int γ R.ce,ο R.ch,.int γ R.ti,r8,rA]
abbrev cS (R:ι) (JR c_ yd t_ rV rS rn ry r8 rA:V):KO:=.cells [.int γ R.me,.int γ R.id,ο R.bl,ο R.lo,.int γ R.ep,JR,c_,t_,.int γ R.v.vi,.int γ R.v.vv,.int γ R.v.ve,aC (.sl 1 (ints γ R.v.mem)),aC (.sl 1 (ints γ R.v.aH)),rV,rS,rn,ry,.int γ R.ce,yd,.int γ R.ti,r8,rA]
abbrev cG (R:ι) (lo_ Hl JR c_ yd t_ rV rS rn ry r8 rA:V):KO:=.cells [.int γ R.me,.int γ R.id,ο R.bl,lo_,Hl,JR,c_,t_,.int γ R.v.vi,.int γ R.v.vv,.int γ R.v.ve,aC (.sl 1 (ints γ R.v.mem)),aC (.sl 1 (ints γ R.v.aH)),rV,rS,rn,ry,.int γ R.ce,yd,.int γ R.ti,r8,rA]
abbrev cT (R:ι) (ti_ t_ rV rS rn ry r8 rA:V):KO:=.cells [.int γ R.me,.int γ R.id,ο R.bl,ο R.lo,.int γ R.ep,.int γ R.nu,bF 128 (aT ξ R.c),t_,.int γ R.v.vi,.int γ R.v.vv,.int γ R.v.ve,aC (.sl 1 (ints γ R.v.mem)),aC (.sl 1 (ints γ R.v.aH)),rV,rS,rn,ry,.int γ R.ce,ο R.ch,ti_,r8,rA]
abbrev cV (R:ι) (w:Vw) (Hl yd t_ rV rS rn ry r8 rA:V):KO:=.cells [.int γ R.me,.int γ R.id,ο R.bl,ο R.lo,Hl,.int γ R.nu,bF 128 (aT ξ R.c),t_,.int γ w.vi,.int γ w.vv,.int γ w.ve,aC (.sl 1 (ints γ w.mem)),aC (.sl 1 (ints γ w.aH)),rV,rS,rn,ry,.int γ R.ce,yd,.int γ R.ti,r8,rA]
def aF (R:ι) (kb:KB):Prop:=match R.ld with
 |none=>∃ π υ T,bL T R.t/\kb=[cR R (af T) (ο false) (δ π) (δ υ) (.aa none) (.sl 1 0 (nO R)) (.sl 2 0 (nD R)),rO R,rD R]
 |some L=>∃ I Q T,MB I L.ins/\MB Q L.cy/\bL T R.t/\kb=[cR R (af T) (ο true) (.mp 1) (.mp 2) (.aa (L.cur.map bo)) (.sl 3 0 (nO R)) (.sl 4 0 (nD R)),an I,an Q,rO R,rD R]
def jf (R:ι) (o:Op) (to:Int):Post:=⟨to,⟨12,[R.id,R.ep,R.nu,o.cl,o.nm,o.kd,o.bk,eG R.c],o.b,[]⟩⟩
def jn (R:ι) (to:Int):Post:=⟨to,⟨10,[R.id,R.ep,R.nu],ca R.c,[be (gK R)]⟩⟩
theorem th (o:Op):∀(l:List Int) (r:ι),l.foldl (fun r k=>yB r o k) r={r with out:=r.out++l.map (jf r o) }
 | [],r=>by simp
 |a::l,r=>by
  rw[List.foldl_cons,th o l]
  simp [yB,iz,jf,dX]
theorem Lu:∀(l:List Int) (r:ι),l.foldl qP r={r with out:=r.out++l.map (jn r) }
 | [],r=>by simp
 |a::l,r=>by
  rw[List.foldl_cons,Lu l]
  simp [qP,iz,jn,gK,dX]
theorem VE {R:ι} {o:Op} (h:gh o=false):dN R o=(1,R):=by unfold dN;rw[if_pos h]
theorem VF {R:ι} {o:Op} (h:gh o=true) (h2:gw R=false):dN R o=(12,R):=by
 unfold dN;rw[if_neg (by simp [h])]
 cases R.ld with
 |none=>rfl
 |some L=>simp only[if_pos h2]
theorem af4 {R:ι} {o:Op} {L:b9} (h:gh o=true) (hl:R.ld=some L) (h2:gw R=true) (h3:lA R=true):dN R o=(18,R):=by
 unfold dN;rw[if_neg (by simp [h]),hl]
 simp only[h2,h3];simp
theorem Lq {R:ι} {o:Op} {L:b9} {p:Int×ι} (h:gh o=true) (hl:R.ld=some L) (h2:gw R=true) (h3:lA R=false) (h4:je o=true) (h5:lW R o=some p):dN R o=p:=by
 unfold dN;rw[if_neg (by simp [h]),hl]
 simp only[h2,h3,h4,h5];simp
theorem Lp {R:ι} {o:Op} {L:b9} (h:gh o=true) (hl:R.ld=some L) (h2:gw R=true) (h3:lA R=false) (h5:je o=true->lW R o=none):dN R o=(0,gC R L o):=by
 unfold dN;rw[if_neg (by simp [h]),hl]
 simp only[h2,h3]
 by_cases h4:je o=true
 ·simp [h4,h5 h4]
 ·simp [h4]
theorem Of {R:ι} {L:b9} {o:Op} (h:aP R≠[]):gC R L o={R with nu:=R.nu+1,ch:=true,c:=fm R.c o.kd o.bk o.b,t:=kD R.t o,ld:=some ⟨L.ins,fun _=>false,some o⟩,out:=R.out++(aP R).map (jf (gE R o) o) }:=by
 unfold gC
 simp only[th]
 have ho:aP {gE R o with ld:=some {L with cy:=fun _=>false,cur:=some o } }=aP R:=rfl
 rw[ho]
 unfold fq
 simp only
 rw[if_neg (by
  show ¬ (aP R).all (fun _=>false)=true
  cases hh:aP R with
  |nil=>exact absurd hh h
  |cons a l=>simp)]
 rfl
theorem Oe {R:ι} {L:b9} {o:Op} (h:aP R=[]):gC R L o={R with nu:=R.nu+1,ch:=true,c:=fm R.c o.kd o.bk o.b,t:=kD R.t o,ld:=some ⟨L.ins,fun _=>false,none⟩,done:=R.done++[⟨o,0,mu (fm R.c o.kd o.bk o.b) o⟩] }:=by
 unfold gC
 simp only[th]
 have ho:aP {gE R o with ld:=some {L with cy:=fun _=>false,cur:=some o } }=aP R:=rfl
 rw[ho,h]
 unfold fq
 simp only
 rw[if_pos (by
  show(aP R).all (fun _=>false)=true
  rw[h];rfl)]
 simp [gE]
theorem sR {Q:ML} {f:Int->Bool} (h:MB Q f) (me:Int) (m j:List Int):allI me m j Q=(bA me m j).all f:=by
 unfold allI og
 rw[Bool.eq_iff_iff]
 simp only[mA,List.any_eq_false,List.all_eq_true,Bool.not_eq_true]
 constructor
 ·intro hh x hx
  have:=hh x hx
  rw[h.f]at this
  simpa using this
 ·intro hh x hx
  rw[h.f,hh x hx];simp
theorem rY:MB [] (fun _=>false):=⟨⟨fun k cs h=>by simp [bK]at h⟩,fun n=>by simp [iQ,bK]⟩
theorem Js:∀{M:ML} {k k':List Int} {c:List D},bK (bI M k c) k'=if k'=k then some c else bK M k'
 | [],k,k',c=>by simp only[bI,bK]
 | (a,v)::M,k,k',c=>by
  simp only[bI]
  by_cases hk:k=a
  ·subst hk
   rw[if_pos rfl]
   by_cases h2:k'=k
   ·simp [bK,h2]
   ·simp [bK,h2]
  ·rw[if_neg hk]
   simp only[bK]
   by_cases h2:k'=a
   ·subst h2
    rw[if_pos rfl,if_pos rfl,if_neg (fun e=>hk e.symm)]
   ·rw[if_neg h2,if_neg h2]
    exact Js
theorem mR {M:ML} {f:Int->Bool} (h:MB M f) (k:Int) (v:Bool):MB (bI M [k] [.val (.bool v)]) (fun n=>if n=k then v else f n):=by
 refine⟨⟨fun k' cs hk=>?_⟩,fun n=>?_⟩
 ·rw[Js]at hk
  split at hk
  ·cases hk;exact⟨v,rfl⟩
  ·exact h.b.h k' cs hk
 ·unfold iQ
  rw[Js]
  by_cases e:n=k
  ·subst e;simp [bv]
  ·have e2:¬ ([n]:List Int)=[k]:=fun x=>e (by simpa using x)
   rw[if_neg e2,if_neg e]
   exact h.f n
def EW:aE:=fun args kb K=>match args,kb with
 | [aC (.sl 1 B)],[]=>bS B.length/\K (aC (.sl 1 B)) []
 |_,_=>False
abbrev GW:LI where
 α:=Empty
 live:=[]
 st i:=i.elim
 μ i:=i.elim
 all _:=True
 Bp:=fun _ _ i=>i.elim
def cutAt (r:Nat):Nat->Option LI:=fun q=>match cX q r with | true=>some GW | false=>none
def u_ (T:ML) (cl nm kd:Int):ML:=if oe kd then bI T [cl] [dn γ nm,dn γ 0]else T
def qA (l:List Int) (R:ι) (o:Op):List (List D):=l.map fun to=>qz to R.id R.ep (R.nu+1) (fm R.c o.kd o.bk o.b) o
abbrev Lg (R:ι) (T:ML) (I Q:ML) (u:Option (List D)) (o:Op):LI where
 α:={_u:Unit // je o=true->cY (gK R) o.cl o.nm 0=0}
 live:=[0,3]
 st _:=([aj 0 0,aj 5 0],[cR R (af T) (ο true) (.mp 1) (.mp 2) (.aa u) (.sl 3 0 (nO R)) (.sl 4 0 (nD R)),an I,an Q,rO R,rD R,wW o])
 μ _:=0
abbrev Lh (R:ι) (T:ML) (I Q:ML) (u:Option (List D)) (o:Op):LI where
 α:=Unit
 live:=[0,3]
 st _:=([aj 0 0,aj 5 0],[cS R (.int γ (R.nu+1)) (bF 128 (aT ξ (fm R.c o.kd o.bk o.b))) (ο true) (af (u_ T o.cl o.nm o.kd)) (ο true) (.mp 1) (.mp 2) (.aa u) (.sl 3 0 (nO R)) (.sl 4 0 (nD R)),an I,an Q,rO R,rD R,wW o])
 μ _:=0
abbrev Li (R:ι) (T:ML) (I Q:ML) (u:Option (List D)) (o:Op):LI where
 α:={i:Nat // i<=(aP R).length}
 live:=[0,52,53,54]
 dT:=[.qD 0 143,.mv 0 147]
 st i:=([aj 0 0,.sl 7 0 (aP R).length,.int γ ((aP R).length:Int),.int γ (i.1:Int)],[cS R (.int γ (R.nu+1)) (bF 128 (aT ξ (fm R.c o.kd o.bk o.b))) (ο true) (af (u_ T o.cl o.nm o.kd)) (ο true) (.mp 1) (.mp 5) (.aa (some (bo o))) (.sl 6 0 ((nO R)+i.1)) (.sl 4 0 (nD R)),an I,an Q,aw,rD R,an [],ai 107 5 (R.out.map bV++qA ((aP R).take i.1) R o),ai 3 1 (ints γ (iJ R.me R.v.mem R.v.aH))])
 μ i:=(aP R).length - i.1
def VC (R:ι) (T:ML) (I Q:ML) (u:Option (List D)) (o:Op):Nat->Option LI
 | 1012=>some (Lg R T I Q u o)
 | 1014=>some (Lh R T I Q u o)
 | 16=>some (Li R T I Q u o)
 |_=>none
def D4:FuncId->Option du
 | 14=>some ⟨[],eL [false,true,true,true,true,true,false,true,true,true,true,false,false,false,false,true,false,true,true,true,true,true] rj⟩
 | 52=>some ⟨[],AI⟩
 | 53=>some ⟨[],Fb⟩
 | 54=>some ⟨[],eL [true,true,true,true,true,true,false,false,true,true,true,true,true,true,true,true,true,true,true,true,true,false] Fc⟩
 | 55=>some ⟨[],EW⟩
 | 56=>some ⟨[],eL [true,true,true,true,true,false,false,false,true,true,true,true,true,true,true,true,true,true,false,true,true,true] AE⟩
 | 44=>some ⟨[],eL [false,true,true,true,true,true,false,true,true,true,true,false,false,true,true,true,true,true,true,true,true,true] vK⟩
 | 57=>some ⟨[],eL [true,false,true,true,false,false,false,true,true,true,true,true,true,true,true,true,false,true,true,true,false,true] AH⟩
 | 58=>some ⟨[],eL [false,true,true,true,true,true,false,true,true,true,true,false,false,true,true,false,false,true,true,true,true,false] AF⟩
 |_=>none
noncomputable def FR:cd:=dM Tryz.prog D4 aG 10
def Lm:FuncId->Option du
 | 14=>some ⟨[],eL [true,true,true,true,true,true,false,true,true,true,true,true,true,false,true,true,false,true,true,true,true,true] rj⟩
 |f=>D4 f
noncomputable def FS:cd:=dM Tryz.prog Lm aG 10
theorem aho (B:List (List D)) (K:V->KB->Prop) (aq:
 ∀(y1:Bool),(y1=true->
 B.length=0)->
 (y1=true->
 K (aC (χ 1 [])) [])/\
 (y1=false->
 True/\
 0<=0/\
 (0+B.length)*1<=140737488355328/\
 0+B.length<=([]++B).length/\
 K (aC (χ 1 (ax 0 (ay (0+B.length) ([]++B))))) [])
 ):aI Tryz.prog X0 (aG 55) 55 [aC (.sl 1 B)] [] (j0 [.fA 1] (dp 0 K)):=by apply Eq.mp (a:=aq);kernel_rfl
theorem aiw (R:ι) (T:ML) (I Q:ML) (u:Option (List D)) (o:Op) (K:V->KB->Prop) (aq:
 let eP:=[1,2,3,4,5,7,8,9,10,13,14,17,18,19,20];let b_:=(ints γ (iJ R.me R.v.mem R.v.aH));let bQ:=(af (u_ T o.cl o.nm o.kd));let bM:=[0,1,2,3,4,8,9,10,11,12,13,14,15,16,17,19,20,21];let bp:=(aT ξ (fm R.c o.kd o.bk o.b));let aJ:=(ε γ (R.nu+1));let aN:=[0,1,2,3,4,5,8,9,10,11,12,13,14,15,16,17,18,19,20];let ω:=At (Lg R T I Q u o) ([aj 0 0,aj 5 0],[cR R (af T) (ο true) (aY 1) (aY 2) (aR u) (ζ 3 0 (nO R)) (ζ 4 0 (nD R)),an I,an Q,rO R,rD R,wW o]);let θ:KB:=[cR R (af T) (ο true) (aY 1) (aY 2) (aR u) (ζ 3 0 (nO R)) (ζ 4 0 (nD R)),an I,an Q,rO R,rD R];∀(y1:Nat->
 Value),∃(y2:List Int),∃(y3:List Int),ints γ R.v.mem=ints γ y2/\
 ints γ R.v.aH=ints γ y3/\
 dK (y2.length+y3.length)/\
 lL I/\
 true=true/\
 bz y1 [1,2,3,4,5,7,8,9,10,15,17,18,19,20,21]/\
 ((!kh o.cl o.nm o.kd o.bk (ints ξ o.b).length)=true->
 K (ε γ 1) θ)/\
 ((!kh o.cl o.nm o.kd o.bk (ints ξ o.b).length)=false->
 ((!allI R.me y2 y3 I)=true->
 K (ε γ 12) θ)/\
 ((!allI R.me y2 y3 I)=false->
 ((!u.isNone)=true->
 K (ε γ 18) θ)/\
 ((!u.isNone)=false->
 ((oe o.kd=true->
 ∀(y4:Nat->
 Value),nD R=(nD R)/\
 bS (nD R)/\
 ∃(y5:List L3),let bD:=ai 70 7 (ae dA R.done++[(bo o++[dn γ (sZ y5 o.cl o.nm),χ 1 []])]);bL T y5/\
 (vC (gq y5 o.cl o.nm) 1->
 bz y4 aN/\
 (true=true->
 K (ε γ 0) [cR R (af T) (ο true) (aY 1) (aY 2) (aR u) (ζ 3 0 (nO R)) (ζ 4 0 (nD R+1)),an I,an Q,rO R,bD])/\
 (true=false->
 At (Lg R T I Q u o) ([aj 0 0,aj 6 0],[cR R (af T) (ο true) (aY 1) (aY 2) (aR u) (ζ 3 0 (nO R)) (ζ 5 0 (nD R+1)),an I,an Q,rO R,aw,bD,wW o])))/\
 (vC (gq y5 o.cl o.nm) 2->
 bz y4 aN/\
 (true=true->
 K (ε γ 13) θ)/\
 (true=false->
 ω))/\
 (vC (gq y5 o.cl o.nm) 0->
 (mE (cY y5 o.cl o.nm 0)->
 bz y4 aN/\
 (true=true->
 K (ε γ (cY y5 o.cl o.nm 0)) θ)/\
 (true=false->
 ω))/\
 (mC (cY y5 o.cl o.nm 0)->
 bz y4 aN/\
 (false=true->
 K (ε γ 0) θ)/\
 (false=false->
 ω))))/\
 (oe o.kd=false->
 ω))/\
 ∀(y7:{y6:Unit // je o=true->
 cY (gK R) o.cl o.nm 0=0}),bS (ints ξ o.b).length/\
 (∀(y8:Nat->
 Value),∃(y9:List Int),∃(cU:List Int),let bW:=(bF 128 (aT ξ (fm y9 o.kd o.bk cU)));let av:=At (Lh R T I Q u o) ([aj 0 0,aj 5 0],[cS R aJ bW (ο true) (af T) (ο true) (aY 1) (aY 2) (aR u) (ζ 3 0 (nO R)) (ζ 4 0 (nD R)),an I,an Q,rO R,rD R,wW o]);∃(cD:List L3),iU (aT ξ R.c) y9/\
 ints ξ o.b=ints ξ cU/\
 bL T cD/\
 rh R.nu/\
 vI o.cl o.nm o.kd o.bk cU.length/\
 (Aq o.kd->
 bz y8 bM/\
 av)/\
 (z8 o.kd->
 (mE (cY cD o.cl o.nm 0)->
 bz y8 bM/\
 av)/\
 (mC (cY cD o.cl o.nm 0)->
 bz y8 bM/\
 At (Lh R T I Q u o) ([aj 0 0,aj 5 0],[cS R aJ bW (ο true) (af (bI T [o.cl] [dn γ o.nm,η (ν γ 0)])) (ο true) (aY 1) (aY 2) (aR u) (ζ 3 0 (nO R)) (ζ 4 0 (nD R)),an I,an Q,rO R,rD R,wW o]))))/\
 ∀(cE:Unit) (cP:Nat->
 Value),∃(dH:List Int),∃(cZ:List Int),ints γ R.v.mem=ints γ dH/\
 ints γ R.v.aH=ints γ cZ/\
 dK (dH.length+cZ.length)/\
 bz cP [1,2,3,4,5,7,8,9,10,13,14,15,16,17,18,19,20,21]/\
 At (Li R T I Q u o) ([aj 0 0,ζ 7 0 (bA R.me dH cZ).length,ε γ (↑((bA R.me dH cZ).length - 0):Int),ε γ 0],[cS R aJ (bF 128 bp) (ο true) bQ (ο true) (aY 1) (aY 5) (aR (some (bo o))) (ζ 6 0 (nO R)) (ζ 4 0 (nD R)),an I,an Q,aw,rD R,an [],rO R,ai 3 1 (ints γ (iJ R.me dH cZ))])/\
 ∀(dr:{fZ:Nat // fZ<=(aP R).length}),let cI:=(↑dr.val:Int)<(↑(aP R).length:Int);let aU:=(ae bV R.out++qA (ay dr.val (aP R)) R o);(decide (cI)=true->
 br (↑dr.val:Int) ((aP R).length - 0)/\
 ∃(fx:List D),b_[0+(↑dr.val:Int).toNat]? =some fx/\
 ∃(fO:Int),fx[0]? =some (η (ν γ fO))/\
 ∀(fU:Nat->
 Value),nO R+dr.val=aU.length/\
 bS (nO R+dr.val)/\
 ∃(fh:List Int),∃(fP:Op),iU bp fh/\
 some (bo o)=some (bo fP)/\
 bz fU [0,2,3,7,8,9,10,11,12,13,14,15,17,18,19,21]/\
 Nx (Li R T I Q u o) dr ([aj 0 0,ζ 7 0 (aP R).length,ε γ (↑(aP R).length:Int),ε γ (γ.wrap ((↑dr.val:Int)+1))],[cS R aJ (bF 128 (aT ξ fh)) (ο true) bQ (ο true) (aY 1) (aY 5) (aR (some (bo o))) (ζ 6 0 (nO R+dr.val+1)) (ζ 4 0 (nD R)),an I,an Q,aw,rD R,an [],ai 107 5 (ae bV R.out++qA (ay dr.val (aP R)) R o++[[dn γ fO,η (ν γ 12),χ 1 [[dn γ R.id],[dn γ R.ep],[dn γ (R.nu+1)],[dn γ fP.cl],[dn γ fP.nm],[dn γ fP.kd],[dn γ fP.bk],[dn γ (eG fh)]],χ 1 (ints ξ fP.b),χ 1 []]]),ai 3 1 b_]))/\
 (decide (cI)=false->
 ∀(iZ:Nat->
 Value),nD R=(nD R)/\
 bS (nD R)/\
 ∃(gx:List Int),∃(eZ:List Int),∃(fj:List Int),∃(eM:Op),iU bp fj/\
 ints γ R.v.mem=ints γ gx/\
 ints γ R.v.aH=ints γ eZ/\
 dK (gx.length+eZ.length)/\
 lL []/\
 some (bo o)=some (bo eM)/\
 lZ eM.bk/\
 (allI R.me gx eZ []=false->
 bz iZ eP/\
 K (ε γ 0) [cS R aJ (bF 128 bp) (ο true) bQ (ο true) (aY 1) (aY 2) (aR (some (bo o))) (ζ 3 0 (nO R+dr.val)) (ζ 4 0 (nD R)),an I,an [],ai 107 5 aU,rD R])/\
 (allI R.me gx eZ []=true->
 bz iZ eP/\
 K (ε γ 0) [cS R aJ (bF 128 (aT ξ fj)) (ο true) bQ (ο true) (aY 1) (aY 2) (aR none) (ζ 3 0 (nO R+dr.val)) (ζ 4 0 (nD R+1)),an I,an [],ai 107 5 aU,ai 70 7 (ae dA R.done++[(bo eM++[η (ν γ 0),χ 1 (qx fj eM.kd eM.bk)])])])))))
 ):aI Tryz.prog FR (VC R T I Q u o) 21 [aj 0 0,.agg [.int γ o.cl,.int γ o.nm,.int γ o.kd,.int γ o.bk,aC (.sl 1 (ints ξ o.b))]] [cR R (af T) (ο true) (.mp 1) (.mp 2) (.aa u) (.sl 3 0 (nO R)) (.sl 4 0 (nD R)),an I,an Q,rO R,rD R] (fg K):=by apply Eq.mp (a:=aq);kernel_rfl
theorem aix (R:ι) (T:ML) (π υ:Value) (o:Op) (K:V->KB->Prop) (aq:
 let θ:KB:=[cR R (af T) (ο false) (δ π) (δ υ) (aR none) (ζ 1 0 (nO R)) (ζ 2 0 (nD R)),rO R,rD R];∀(y1:Nat->
 Value),false=false/\
 bz y1 [0,1,2,3,4,5,7,8,9,10,11,12,14,15,17,18,19,20,21]/\
 (((!kh o.cl o.nm o.kd o.bk (ints ξ o.b).length)=true->
 K (ε γ 1) θ)/\
 ((!kh o.cl o.nm o.kd o.bk (ints ξ o.b).length)=false->
 (true=true->
 K (ε γ 12) θ)/\
 (true=false->
 (false=true->
 K (ε γ 18) θ)/\
 (false=false->
 At GW ([],θ)))))/\
 True
 ):aI Tryz.prog FS (cutAt 1008) 21 [aj 0 0,.agg [.int γ o.cl,.int γ o.nm,.int γ o.kd,.int γ o.bk,aC (.sl 1 (ints ξ o.b))]] [cR R (af T) (ο false) (δ π) (δ υ) (.aa none) (.sl 1 0 (nO R)) (.sl 2 0 (nD R)),rO R,rD R] (fg K):=by apply Eq.mp (a:=aq);kernel_rfl
theorem Vx {P:Program} {X:cd} (hX:cx P X) (hm:P.follows .mixedOrders=true) (ms:List Vc.Mode) {f:FuncId} {S:aE} (h:∀ args kb K,S args kb K->∃ T,aI P X T f args kb (j0 ms (dp kb.length K))):aO P f S:=
 fun args kb K hs=>B8 (eC hX hm (S:=fun a k K0=>∃ T,aI P X T f a k K0) fun _ _ _ h=>h) ms args kb K (h args kb K hs)
theorem acB:aO Tryz.prog 55 EW:=Vx ga mixed [.fA 1] (fun args kb K h=>by
 unfold EW at h;split at h<;>try exact h.elim
 obtain⟨⟨hn⟩,h⟩:=h
 refine⟨_,aho _ K fun b hb=>⟨fun e=>?_,fun _=>⟨trivial,ar _,by omega,by simp,?_⟩⟩⟩
 ·have:=mD (hb e)
  rw[this]at h;exact h
 ·simpa using h)
theorem Pq {c b:List Int} {cl nm kd bk:Int} (hc:c.length=128) (h:kh cl nm kd bk b.length=true):(fm c kd bk b).length=128:=by
 simp only[kh,decide_eq_true_eq]at h
 unfold fm
 split
 ·rename_i e
  rw[mW (by have:=h.2.2.2.2.2.2.2.2 e;omega),hc]
 ·split
  ·rw[mW (by rw[List.length_replicate];omega),hc]
  ·exact hc
theorem Pp {c b:List Int} {kd bk:Int} (hc:bq c) (h:bq b):bq (fm c kd bk b):=by
 have hs:∀(k:Nat) (v:List Int),bq v->bq (splice c k v):=fun k v hv x hx=>by
  unfold splice at hx
  rcases dz.1 hx with hx | hx
  ·rcases dz.1 hx with hx | hx
   ·exact hc x (List.mem_of_mem_take hx)
   ·exact hv x hx
  ·exact hc x (List.mem_of_mem_drop hx)
 unfold fm
 split
 ·exact hs _ _ h
 ·split
  ·exact hs _ _ (fun x hx=>by rw[List.eq_of_mem_replicate hx];omega)
  ·exact hc
theorem Ut {x:List L3} {c n:Int} (h:cY x c n 0=0):¬ (gq x c n=1∨gq x c n=2):=by
 unfold cY at h
 split at h
 ·omega
 ·unfold gq
  cases hq:kH x c with
  |none=>simp
  |some q=>
   rw[hq]at h
   simp only at h ⊢
   split at h
   ·omega
   ·rename_i hn
    rw[if_pos (by omega)];simp
theorem HA {c:List Int} {o:Op}:qx c o.kd o.bk=ints ξ (mu c o):=by
 unfold qx mu
 split
 ·simp [ints]
 ·rfl
theorem Cv {i n:Nat} (h:i<n):br (i:Int) n:=⟨by omega,by omega⟩
theorem ints_getElem? {k:IntKind} {l:List Int} {i:Nat}:(ints k l)[i]? =(l[i]?).map fun n=>[η (.int k n)]:=by unfold ints;rw[fy]
theorem af9 (R:ι) (T:ML) (π υ:Value) (o:Op) (hl:R.ld=none) (hB:o.b.length<=100000) {kb:KB} (hkb:aF R kb) (hsh:kb=[cR R (af T) (ο false) (δ π) (δ υ) (.aa none) (.sl 1 0 (nO R)) (.sl 2 0 (nD R)),rO R,rD R]) (K:V->KB->Prop) (hK:∀ kb',aF (dN R o).2 kb'->K (.int γ (dN R o).1) kb'):aI Tryz.prog FS (cutAt 1008) 21 [aj 0 0,.agg [.int γ o.cl,.int γ o.nm,.int γ o.kd,.int γ o.bk,aC (.sl 1 (ints ξ o.b))]] [cR R (af T) (ο false) (δ π) (δ υ) (.aa none) (.sl 1 0 (nO R)) (.sl 2 0 (nD R)),rO R,rD R] (fg K):=by
 subst hsh
 have fin:∀{e:Int} {R':ι} {kb':KB},dN R o=(e,R')->aF R' kb'->K (.int γ e) kb':=fun{e R' kb'} h1 h2=>by
  have:=hK kb'
  rw[h1]at this
  exact this h2
 have uG:gh o=kh o.cl o.nm o.kd o.bk (ints ξ o.b).length:=by unfold gh;rw[bi]
 exact aix R T π υ o K fun f=>⟨rfl,⟨by simp [bU]⟩,⟨fun e=>fin (VE (by rw[uG];simpa using e)) hkb,fun e=>⟨fun _=>fin (VF (by rw[uG];simpa using e) (by simp [gw,hl])) hkb,fun f=>(by cases f)⟩⟩,trivial⟩
theorem af8 (R:ι) (o:Op) (L:b9) (T I Q:ML) (hT:bL T R.t) (hl:R.ld=some L) (hI:MB I L.ins) (hQ:MB Q L.cy) (hR:dF R) (hroom:R.out.length+(aP R).length<=100000) (H2:bq o.b) (hB:o.b.length<=100000) {kb:KB} (hkb:aF R kb)
  (hsh:kb=[cR R (af T) (ο true) (.mp 1) (.mp 2) (.aa (L.cur.map bo)) (.sl 3 0 (nO R)) (.sl 4 0 (nD R)),an I,an Q,rO R,rD R]) (K:V->KB->Prop) (hK:∀ kb',aF (dN R o).2 kb'->K (.int γ (dN R o).1) kb'):aI Tryz.prog FR (VC R T I Q (L.cur.map bo) o) 21 [aj 0 0,.agg [.int γ o.cl,.int γ o.nm,.int γ o.kd,.int γ o.bk,aC (.sl 1 (ints ξ o.b))]] [cR R (af T) (ο true) (.mp 1) (.mp 2) (.aa (L.cur.map bo)) (.sl 3 0 (nO R)) (.sl 4 0 (nD R)),an I,an Q,rO R,rD R] (fg K):=by
 subst hsh
 have fin:∀{e:Int} {R':ι} {kb':KB},dN R o=(e,R')->aF R' kb'->K (.int γ e) kb':=fun{e R' kb'} h1 h2=>by
  have:=hK kb'
  rw[h1]at this
  exact this h2
 have h5:dK (R.v.mem.length+R.v.aH.length):=⟨by have:=hR.vl;omega⟩
 have nt:iU (aT ξ R.c) R.c:=⟨rfl,hR.cl,hR.cb⟩
 have QO:∀(h:gh o=true),iU (aT ξ (fm R.c o.kd o.bk o.b)) (fm R.c o.kd o.bk o.b):=fun h=>⟨rfl,by rw[Pq hR.cl h],Pp hR.cb H2⟩
 have kX:rh R.nu:=⟨hR.n0,by have:=hR.n1;omega⟩
 have hdl:(ae dA R.done).length<=1000000:=by rw[bT];have:=hR.dl;omega
 have ID:gw R=allI R.me R.v.mem R.v.aH I:=by unfold gw;rw[hl,sR hI];rfl
 have uG:gh o=kh o.cl o.nm o.kd o.bk (ints ξ o.b).length:=by unfold gh;rw[bi]
 have htn:∀ hi:je o=true->cY (gK R) o.cl o.nm 0=0,bL (u_ T o.cl o.nm o.kd) (kD R.t o):=fun hi=>by
  unfold kD u_
  by_cases hc:je o=true
  ·have fI:oe o.kd=true:=hc
   have hz:cY R.t o.cl o.nm 0=0:=hi hc
   rw[if_pos fI,if_pos ⟨hc,hz⟩]
   exact D8 hT hz
  ·have fI:¬ oe o.kd=true:=hc
   rw[if_neg fI,if_neg (fun f=>hc f.1)];exact hT
 refine aiw R T I Q _ o K fun f=>⟨R.v.mem,R.v.aH,rfl,rfl,h5,hI.b,rfl,⟨by simp [bU]⟩,fun e=>?_,fun e=>⟨fun e2=>?_,fun e2=>⟨fun e3=>?_,fun e3=>⟨?_,?_⟩⟩⟩⟩
 ·exact fin (VE (by rw[uG];simpa using e)) hkb
 ·exact fin (VF (by rw[uG];simpa using e) (by rw[ID];simpa using e2)) hkb
 ·exact fin (af4 (by rw[uG];simpa using e) hl (by rw[ID];simpa using e2) (by simpa [lA,ci,hl]using e3)) hkb
 all_goals
  have mh:L.cur=none:=by simpa using e3
  have yE:lA R=false:=by simp [lA,ci,hl,mh]
  have nB:gh o=true:=by rw[uG];simpa using e
  have pN:gw R=true:=by rw[ID];simpa using e2
 ·refine⟨fun hc f=>⟨rfl,⟨hdl⟩,R.t,hT,fun h1=>⟨⟨by simp [bU]⟩,fun _=>?_,fun e=>(by cases e)⟩,fun h1=>⟨⟨by simp [bU]⟩,fun _=>?_,fun e=>(by cases e)⟩,fun h1=>⟨fun hz=>⟨⟨by simp [bU]⟩,fun _=>?_,fun e=>(by cases e)⟩,fun hz=>⟨⟨by simp [bU]⟩,fun e=>(by cases e),fun _=>?_⟩⟩⟩,fun hc=>?_⟩
  ·have hk1:lW R o=some (0,{R with done:=R.done++[⟨o,sZ R.t o.cl o.nm,[]⟩] }):=by unfold lW gK;rw[if_pos h1.h]
   refine fin (Lq nB hl pN yE hc hk1) ?_
   unfold aF
   simp only[hl]
   refine⟨I,Q,T,hI,hQ,hT,?_⟩
   simp [cR,dA,bo,dn,ints]
  ·have hk1:lW R o=some (13,R):=by unfold lW gK;rw[if_neg (by rw[h1.h];decide),if_pos h1.h]
   exact fin (Lq nB hl pN yE hc hk1) hkb
  ·have hk1:lW R o=some (cY R.t o.cl o.nm 0,R):=by unfold lW gK;rw[if_neg (by rw[h1.h];decide),if_neg (by rw[h1.h];decide),if_neg hz.h]
   exact fin (Lq nB hl pN yE hc hk1) hkb
  ·exact At.mk' ⟨(),fun _=>hz.h⟩ rfl
  ·exact At.mk' ⟨(),fun f=>absurd (f.symm.trans hc) (by decide)⟩ rfl
 ·have Rq:kh o.cl o.nm o.kd o.bk o.b.length=true:=nB
  rintro⟨_,hi⟩
  have hkn:je o=true->lW R o=none:=fun hc=>by
   have h2:=hi hc
   unfold lW;rw[if_neg (fun e=>Ut h2 (.inl e)),if_neg (fun e=>Ut h2 (.inr e)),if_pos h2]
  refine⟨⟨by rw[bi];omega⟩,fun f=>?_,fun _ f=>⟨R.v.mem,R.v.aH,rfl,rfl,h5,⟨by simp [bU]⟩,At.mk' ⟨0,bj _⟩ ?_,?_⟩⟩
  ·refine⟨R.c,o.b,R.t,nt,rfl,hT,kX,⟨Rq⟩,fun hc=>⟨⟨by simp [bU]⟩,At.mk' () ?_⟩,fun hc=>⟨fun hz=>?_,fun hz=>⟨⟨by simp [bU]⟩,At.mk' () ?_⟩⟩⟩
   ·simp only[u_,hc.h];rfl
   ·exact absurd (hi hc.h) hz.h
   ·simp only[u_,hc.h];rfl
  ·simp [aP,qA,bo,dn]
  ·rintro⟨i,Is⟩
   refine⟨fun hlt=>?_,fun hlt=>?_⟩
   ·have hlt:i<(aP R).length:=by simpa using hlt
    have hz:i<(iJ R.me R.v.mem R.v.aH).length:=by rw[Kl];exact Nat.lt_of_lt_of_le hlt (Uc _ _ _)
    have df:(iJ R.me R.v.mem R.v.aH)[i]? =(aP R)[i]?:=by
     have:=Kn R.me R.v.mem R.v.aH
     have h2:(aP R)[i]? =((iJ R.me R.v.mem R.v.aH).take (aP R).length)[i]?:=by rw[show aP R=bA R.me R.v.mem R.v.aH from rfl,this]
     rw[h2,iF hlt]
    refine⟨Cv (by simpa using hlt),[dn γ (aP R)[i]],?_,(aP R)[i],rfl,fun f=>⟨?_,⟨?_⟩,_,o,QO nB,rfl,⟨by simp [bU]⟩,Nx.mk' ⟨i+1,hlt⟩ ?_ ?_⟩⟩
    ·simp only[cN,c9]
     rw[ints_getElem?,df,bu hlt];rfl
    ·simp [qA];omega
    ·simp;omega
    ·have w:=bE (n:=(i:Int)+1) (by omega) (by omega)
     simp only[w]
     have eh:qA ((aP R).take (i+1)) R o=qA ((aP R).take i) R o++[qz (aP R)[i] R.id R.ep (R.nu+1) (fm R.c o.kd o.bk o.b) o]:=by
      unfold qA
      rw[jt,bu hlt,ja];rfl
     simp [eh,qz,gg,dn,ints,bo]
     omega
    ·show(aP R).length - (i+1)<(aP R).length - i
     omega
   ·have hi2:i=(aP R).length:=by
     have:¬ i<(aP R).length:=by simpa using hlt
     omega
    subst hi2
    refine fun f=>⟨rfl,⟨hdl⟩,R.v.mem,R.v.aH,_,o,QO nB,rfl,rfl,h5,rY.b,rfl,DH ⟨Rq⟩,fun e1=>⟨⟨by simp [bU]⟩,?_⟩,fun e1=>⟨⟨by simp [bU]⟩,?_⟩⟩
    ·have hne:aP R≠[]:=fun hh=>by
      rw[sR rY]at e1
      have:bA R.me R.v.mem R.v.aH=[]:=hh
      rw[this]at e1;simp at e1
     refine fin (Lp nB hl pN yE hkn) ?_
     rw[Of hne]
     unfold aF
     refine⟨I,[],_,hI,rY,htn hi,?_⟩
     simp [cR,cS,qA,jf,qz,bV,jA,gg,gE,dn,ints,bo,Function.comp_def]
    ·have hne:aP R=[]:=by
      rw[sR rY]at e1
      cases hh:aP R with
      |nil=>rfl
      |cons a l=>
       have:bA R.me R.v.mem R.v.aH=a::l:=hh
       rw[this]at e1;simp at e1
     refine fin (Lp nB hl pN yE hkn) ?_
     rw[Oe hne]
     unfold aF
     refine⟨I,[],_,hI,rY,htn hi,?_⟩
     simp [cR,cS,hne,qA,dA,bo,HA,dn]
theorem VB:dD Tryz.prog D4:=fun f k h=>by
 unfold D4 at h
 split at h
 ·cases h;exact fJ J8 _
 ·cases h;exact Ty
 ·cases h;exact ac1
 ·cases h;exact fJ ac3 _
 ·cases h;exact acB
 ·cases h;exact fJ Tt _
 ·cases h;exact fJ Di _
 ·cases h;exact fJ Tx _
 ·cases h;exact fJ Tv _
 ·cases h
theorem Yu:cx Tryz.prog FR:=dP mixed VB aG 10
theorem af2:dD Tryz.prog Lm:=fun f k h=>by
 unfold Lm at h
 split at h
 ·cases h;exact fJ J8 _
 ·exact VB _ _ h
theorem Yt:cx Tryz.prog FS:=dP mixed af2 aG 10
def XT:aE:=fun args kb K=>∃ R o,args=[aj 0 0,.agg [.int γ o.cl,.int γ o.nm,.int γ o.kd,.int γ o.bk,aC (.sl 1 (ints ξ o.b))]]/\aF R kb/\dF R/\R.out.length+(aP R).length<=100000/\bq o.b/\o.b.length<=100000/\∀ kb',aF (dN R o).2 kb'->K (.int γ (dN R o).1) kb'
theorem adM:gB Tryz.prog 21 XT:=C0 mixed (fun args kb K h=>by
 obtain⟨R,o,rfl,hkb,hR,hroom,H2,hB,hK⟩:=h
 have jh:=hkb
 unfold aF at hkb
 split at hkb
 ·rename_i hl
  obtain⟨π,υ,T,hT,e⟩:=hkb
  exact⟨_,_,Yt,e ▸ af9 R T π υ o hl hB jh e K hK⟩
 ·rename_i L hl
  obtain⟨I,Q,T,hI,hQ,hT,e⟩:=hkb
  exact⟨_,_,Yu,e ▸ af8 R o L T I Q hT hl hI hQ hR hroom H2 hB jh e K hK⟩)
def EX:aE:=fun args kb K=>match args,kb with
 | [aC (.sl 1 B)],[]=>bS B.length/\K (aC (.sl 1 B)) []
 |_,_=>False
def eW:List Bool:=[false,false,false,false,false,false,false,false,false,false,false,false,false,false,true,true]
def d_ (R:ι) (w:Vw):Bool:=match w.mem with | a:: _=>a == R.me | []=>false
def dR (R:ι) (w:Vw):Bool:=decide (w.vi=R.id/\R.v.ve<=w.ve/\R.ep<=w.ve/\1<=w.ve) && !(w.ve == R.v.ve && (ef R || !d_ R w))
def fv (R:ι) (w:Vw):Bool:=d_ R w && !R.lo && !(R.ep == 0 && R.bl)
def dV (R:ι) (w:Vw):ι:=
 if dR R w=false then R else
  let R1:ι:={gy R with v:=w }
  if fv R w=false then R1 else
   let R2:ι:={R1 with ep:=w.ve,ch:=R.ch || (R.ep != w.ve),ld:=some ⟨fun _=>false,fun _=>false,none⟩ }
   (aP R2).foldl qP R2
def lI (l:List Int) (R:ι) (w:Vw):List (List D):=l.map fun to=>mX to R.id w.ve R.nu R.c R.t
abbrev yD (R:ι):List (List D):=R.done.map dA++yl (ci R)
abbrev L9 (R:ι) (T:ML) (π υ:Value) (w:Vw):LI where
 α:=Unit
 live:=[0,3,4]
 st _:=([aj 0 0,aj 3 0,ο (d_ R w)],[cR R (af T) (ο false) (δ π) (δ υ) (.aa none) (.sl 1 0 (nO R)) (.sl 2 0 (nD R)),rO R,rD R,nR w])
 μ _:=0
abbrev WZ (R:ι) (T:ML) (π υ:Value) (w:Vw):LI where
 α:={_u:Unit // dR R w=true}
 live:=[0,3,4]
 st _:=([aj 0 0,aj 3 0,ο (d_ R w)],[cR R (af T) (ο false) (δ π) (δ υ) (.aa none) (.sl 1 0 (nO R)) (.sl 2 0 (nD R)),rO R,rD R,nR w])
 μ _:=0
abbrev W3 (R:ι) (T:ML) (π υ:Value) (w:Vw):LI where
 α:={_u:Unit // dR R w=true}
 live:=[0,3,4]
 st _:=([aj 0 0,aj 4 0,ο (d_ R w)],[cR R (af T) (ο false) (δ π) (δ υ) (.aa none) (.sl 1 0 (nO R)) (.sl 3 0 (yD R).length),rO R,aw,ai 70 7 (yD R),nR w])
 μ _:=0
abbrev W5 (R:ι) (T:ML) (π υ:Value) (w:Vw):LI where
 α:={_u:Unit // dR R w=true/\fv R w=true}
 live:=[0,3]
 st _:=([aj 0 0,aj 4 0],[cV R w (.int γ R.ep) (ο R.ch) (af T) (ο false) (δ π) (δ υ) (.aa none) (.sl 1 0 (nO R)) (.sl 3 0 (yD R).length),rO R,aw,ai 70 7 (yD R),nR w])
 μ _:=0
abbrev Ma (R:ι) (T:ML) (π υ:Value) (w:Vw):LI where
 α:={_u:Unit // dR R w=true/\fv R w=true}
 live:=[0]
 st _:=([aj 0 0],[cV R w (.int γ w.ve) (ο (R.ch || (R.ep != w.ve))) (af T) (ο false) (δ π) (δ υ) (.aa none) (.sl 1 0 (nO R)) (.sl 3 0 (yD R).length),rO R,aw,ai 70 7 (yD R)])
 μ _:=0
abbrev Mc (R:ι) (T:ML) (π υ:Value) (w:Vw):LI where
 α:={i:Nat // i<=(bA R.me w.mem w.aH).length/\dR R w=true/\fv R w=true}
 live:=[0,135,136,137]
 dT:=[.mv 0 147]
 st i:=([aj 0 0,.sl 7 0 (bA R.me w.mem w.aH).length,.int γ ((bA R.me w.mem w.aH).length:Int),.int γ (i.1:Int)],[cV R w (.int γ w.ve) (ο (R.ch || (R.ep != w.ve))) (af T) (ο true) (.mp 3) (.mp 4) (.aa none) (.sl 5 0 ((nO R)+i.1)) (.sl 6 0 (yD R).length),aw,aw,an [],an [],ai 107 5 (R.out.map bV++lI ((bA R.me w.mem w.aH).take i.1) R w),ai 70 7 (yD R),ai 3 1 (ints γ (iJ R.me w.mem w.aH))])
 μ i:=(bA R.me w.mem w.aH).length - i.1
def W8 (R:ι) (T:ML) (π υ:Value) (w:Vw):Nat->Option LI
 | 1002=>some (L9 R T π υ w)
 | 1004=>some (WZ R T π υ w)
 | 1006=>some (W3 R T π υ w)
 | 1008=>some (W5 R T π υ w)
 | 1010=>some (Ma R T π υ w)
 | 12=>some (Mc R T π υ w)
 |_=>none
abbrev L8 (R:ι) (T:ML) (I Q:ML) (u:Option (List D)) (w:Vw):LI where
 α:=Unit
 live:=[0,3,4]
 st _:=([aj 0 0,aj 5 0,ο (d_ R w)],[cR R (af T) (ο true) (.mp 1) (.mp 2) (.aa u) (.sl 3 0 (nO R)) (.sl 4 0 (nD R)),an I,an Q,rO R,rD R,nR w])
 μ _:=0
abbrev WY (R:ι) (T:ML) (I Q:ML) (u:Option (List D)) (w:Vw):LI where
 α:={_u:Unit // dR R w=true}
 live:=[0,3,4]
 st _:=([aj 0 0,aj 5 0,ο (d_ R w)],[cR R (af T) (ο true) (.mp 1) (.mp 2) (.aa u) (.sl 3 0 (nO R)) (.sl 4 0 (nD R)),an I,an Q,rO R,rD R,nR w])
 μ _:=0
abbrev W1 (R:ι) (T:ML) (I Q:ML) (u:Option (List D)) (w:Vw):LI where
 α:={_u:Unit // dR R w=true}
 live:=[0,3,4]
 st _:=([aj 0 0,aj 6 0,ο (d_ R w)],[cR R (af T) (ο false) (.mp 1) (.mp 2) (.aa none) (.sl 3 0 (nO R)) (.sl 5 0 (yD R).length),an I,an Q,rO R,aw,ai 70 7 (yD R),nR w])
 μ _:=0
abbrev W4 (R:ι) (T:ML) (I Q:ML) (u:Option (List D)) (w:Vw):LI where
 α:={_u:Unit // dR R w=true/\fv R w=true}
 live:=[0,3]
 st _:=([aj 0 0,aj 6 0],[cV R w (.int γ R.ep) (ο R.ch) (af T) (ο false) (.mp 1) (.mp 2) (.aa none) (.sl 3 0 (nO R)) (.sl 5 0 (yD R).length),an I,an Q,rO R,aw,ai 70 7 (yD R),nR w])
 μ _:=0
abbrev L_ (R:ι) (T:ML) (I Q:ML) (u:Option (List D)) (w:Vw):LI where
 α:={_u:Unit // dR R w=true/\fv R w=true}
 live:=[0]
 st _:=([aj 0 0],[cV R w (.int γ w.ve) (ο (R.ch || (R.ep != w.ve))) (af T) (ο false) (.mp 1) (.mp 2) (.aa none) (.sl 3 0 (nO R)) (.sl 5 0 (yD R).length),an I,an Q,rO R,aw,ai 70 7 (yD R)])
 μ _:=0
abbrev Mb (R:ι) (T:ML) (I Q:ML) (u:Option (List D)) (w:Vw):LI where
 α:={i:Nat // i<=(bA R.me w.mem w.aH).length/\dR R w=true/\fv R w=true}
 live:=[0,135,136,137]
 dT:=[.mv 0 147]
 st i:=([aj 0 0,.sl 9 0 (bA R.me w.mem w.aH).length,.int γ ((bA R.me w.mem w.aH).length:Int),.int γ (i.1:Int)],[cV R w (.int γ w.ve) (ο (R.ch || (R.ep != w.ve))) (af T) (ο true) (.mp 5) (.mp 6) (.aa none) (.sl 7 0 ((nO R)+i.1)) (.sl 8 0 (yD R).length),an I,an Q,aw,aw,an [],an [],ai 107 5 (R.out.map bV++lI ((bA R.me w.mem w.aH).take i.1) R w),ai 70 7 (yD R),ai 3 1 (ints γ (iJ R.me w.mem w.aH))])
 μ i:=(bA R.me w.mem w.aH).length - i.1
def W7 (R:ι) (T:ML) (I Q:ML) (u:Option (List D)) (w:Vw):Nat->Option LI
 | 1002=>some (L8 R T I Q u w)
 | 1004=>some (WY R T I Q u w)
 | 1006=>some (W1 R T I Q u w)
 | 1008=>some (W4 R T I Q u w)
 | 1010=>some (L_ R T I Q u w)
 | 12=>some (Mb R T I Q u w)
 |_=>none
def Md:FuncId->Option du
 | 42=>some ⟨[],eL [true,true,true,true,true,true,false,true,true,true,true,true,true,false,true,true,false,true,true,true,true,false] Ba⟩
 | 43=>some ⟨[],EX⟩
 | 44=>some ⟨[],eL [false,true,true,true,true,true,false,true,true,true,true,false,false,true,true,true,true,true,true,true,true,true] vK⟩
 | 45=>some ⟨[],eL [true,false,true,true,false,false,false,false,true,true,true,true,true,true,true,true,true,true,true,true,false,true] xQ⟩
 |_=>none
noncomputable def x4:cd:=dM Tryz.prog Md aG 10
theorem ahp (B:List (List D)) (K:V->KB->Prop) (aq:
 ∀(y1:Bool),(y1=true->
 B.length=0)->
 (y1=true->
 K (aC (χ 1 [])) [])/\
 (y1=false->
 True/\
 0<=0/\
 (0+B.length)*8<=140737488355328/\
 0+B.length<=([]++B).length/\
 K (aC (χ 1 (ax 0 (ay (0+B.length) ([]++B))))) [])
 ):aI Tryz.prog X0 (aG 43) 43 [aC (.sl 1 B)] [] (j0 [.fA 1] (dp 0 K)):=by apply Eq.mp (a:=aq);kernel_rfl
theorem aiR (R:ι) (T:ML) (π υ:Value) (w:Vw) (K:V->KB->Prop) (aq:
 let cI:=(ints γ (iJ R.me w.mem w.aH));let b_:=(ε γ w.ve);let bW:=(ζ 2 0 (yD R).length);let bQ:=(ints γ w.aH);let bM:=(ζ 3 0 (yD R).length);let aJ:=(ε γ R.ep);let aN:=(ints γ w.mem);let av:=At (W5 R T π υ w) ([aj 0 0,aj 4 0],[cV R w aJ (ο R.ch) (af T) (ο false) (δ π) (δ υ) (aR none) (ζ 1 0 (nO R)) bM,rO R,aw,ai 70 7 (yD R),nR w]);let θ:KB:=[cR R (af T) (ο false) (δ π) (δ υ) (aR none) (ζ 1 0 (nO R)) (ζ 2 0 (nD R)),rO R,rD R,nR w];let bp:=At (WZ R T π υ w) ([aj 0 0,aj 3 0,ο (d_ R w)],θ);((decide ((↑aN.length:Int) > 0)=true->
 aA 0/\
 ∃(y1:List D),aN[0]? =some y1/\
 ∃(y2:Int),y1[0]? =some (η (ν γ y2))/\
 At (L9 R T π υ w) ([aj 0 0,aj 3 0,ο (y2 == R.me)],θ))/\
 (decide ((↑aN.length:Int) > 0)=false->
 At (L9 R T π υ w) ([aj 0 0,aj 3 0,ο false],θ)))/\
 ∀(y3:Unit),(((w.vi != R.id)=true->
 ∀(y4:Nat->
 Value),K (au []) [cR R (af T) (ο false) (δ (y4 14)) (δ (y4 15)) (aR none) (ζ 1 0 (nO R)) (ζ 2 0 (nD R)),rO R,rD R])/\
 ((w.vi != R.id)=false->
 (decide (w.ve<R.v.ve)=true->
 ∀(y5:Nat->
 Value),K (au []) [cR R (af T) (ο false) (δ (y5 14)) (δ (y5 15)) (aR none) (ζ 1 0 (nO R)) (ζ 2 0 (nD R)),rO R,rD R])/\
 (decide (w.ve<R.v.ve)=false->
 (decide (w.ve<R.ep)=true->
 ∀(y6:Nat->
 Value),K (au []) [cR R (af T) (ο false) (δ (y6 14)) (δ (y6 15)) (aR none) (ζ 1 0 (nO R)) (ζ 2 0 (nD R)),rO R,rD R])/\
 (decide (w.ve<R.ep)=false->
 (decide (w.ve<1)=true->
 ∀(y7:Nat->
 Value),K (au []) [cR R (af T) (ο false) (δ (y7 14)) (δ (y7 15)) (aR none) (ζ 1 0 (nO R)) (ζ 2 0 (nD R)),rO R,rD R])/\
 (decide (w.ve<1)=false->
 ((w.ve == R.v.ve)=true->
 (false=true->
 ∀(y8:Nat->
 Value),K (au []) [cR R (af T) (ο false) (δ (y8 14)) (δ (y8 15)) (aR none) (ζ 1 0 (nO R)) (ζ 2 0 (nD R)),rO R,rD R])/\
 (false=false->
 ((!d_ R w)=true->
 ∀(y9:Nat->
 Value),K (au []) [cR R (af T) (ο false) (δ (y9 14)) (δ (y9 15)) (aR none) (ζ 1 0 (nO R)) (ζ 2 0 (nD R)),rO R,rD R])/\
 ((!d_ R w)=false->
 bp)))/\
 ((w.ve == R.v.ve)=false->
 bp))))))/\
 ∀(cD:{cU:Unit // dR R w=true}) (cE:Nat->
 Value),nD R=(nD R)/\
 bS (nD R)/\
 ∃(cP:Option Op),let ω:=At (W3 R T π υ w) ([aj 0 0,aj 4 0,ο (d_ R w)],[cR R (af T) (ο false) (δ π) (δ υ) (aR none) (ζ 1 0 (nO R)) (ζ 3 0 (ae dA R.done++yl cP).length),rO R,aw,ai 70 7 (ae dA R.done++yl cP),nR w]);none=ng bo cP/\
 bz cE [0,1,2,3,4,5,7,8,9,10,11,12,14,15,17,18,19,20]/\
 ((bS aN.length/\
 bS bQ.length/\
 ω)/\
 bS aN.length/\
 bS bQ.length/\
 ω)/\
 ∀(cZ:{dH:Unit // dR R w=true}),(((!d_ R w)=true->
 ∀(fZ:Nat->
 Value),K (au []) [cV R w aJ (ο R.ch) (af T) (ο false) (δ (fZ 14)) (δ (fZ 15)) (aR none) (ζ 1 0 (nO R)) bW,rO R,ai 70 7 (yD R)])/\
 ((!d_ R w)=false->
 (R.lo=true->
 ∀(dr:Nat->
 Value),K (au []) [cV R w aJ (ο R.ch) (af T) (ο false) (δ (dr 14)) (δ (dr 15)) (aR none) (ζ 1 0 (nO R)) bW,rO R,ai 70 7 (yD R)])/\
 (R.lo=false->
 ((R.ep == 0)=true->
 (R.bl=true->
 ∀(fx:Nat->
 Value),K (au []) [cV R w aJ (ο R.ch) (af T) (ο false) (δ (fx 14)) (δ (fx 15)) (aR none) (ζ 1 0 (nO R)) bW,rO R,ai 70 7 (yD R)])/\
 (R.bl=false->
 av))/\
 ((R.ep == 0)=false->
 av))))/\
 ∀(fU:{fO:Unit // dR R w=true/\
 fv R w=true}),(((R.ep != w.ve)=true->
 At (Ma R T π υ w) ([aj 0 0],[cV R w b_ (ο true) (af T) (ο false) (δ π) (δ υ) (aR none) (ζ 1 0 (nO R)) bM,rO R,aw,ai 70 7 (yD R)]))/\
 ((R.ep != w.ve)=false->
 At (Ma R T π υ w) ([aj 0 0],[cV R w aJ (ο R.ch) (af T) (ο false) (δ π) (δ υ) (aR none) (ζ 1 0 (nO R)) bM,rO R,aw,ai 70 7 (yD R)])))/\
 ∀(fP:{fh:Unit // dR R w=true/\
 fv R w=true}) (iZ:Nat->
 Value),∃(gx:List Int),∃(eZ:List Int),ints γ w.mem=ints γ gx/\
 ints γ w.aH=ints γ eZ/\
 dK (gx.length+eZ.length)/\
 bz iZ [1,2,3,4,5,7,8,9,10,13,14,15,16,17,18,19,20,21]/\
 At (Mc R T π υ w) ([aj 0 0,ζ 7 0 (bA R.me gx eZ).length,ε γ (↑((bA R.me gx eZ).length - 0):Int),ε γ 0],[cV R w b_ (ο (R.ch || R.ep != w.ve)) (af T) (ο true) (aY 3) (aY 4) (aR none) (ζ 5 0 (nO R)) (ζ 6 0 (yD R).length),aw,aw,an [],an [],rO R,ai 70 7 (yD R),ai 3 1 (ints γ (iJ R.me gx eZ))])/\
 ∀(eM:{fj:Nat // fj<=(bA R.me w.mem w.aH).length/\
 dR R w=true/\
 fv R w=true}),let bD:=(↑eM.val:Int)<(↑(bA R.me w.mem w.aH).length:Int);let aU:=(ay eM.val (bA R.me w.mem w.aH));let eP:=(ae bV R.out++lI aU R w);(decide (bD)=true->
 br (↑eM.val:Int) ((bA R.me w.mem w.aH).length - 0)/\
 ∃(i_:List D),cI[0+(↑eM.val:Int).toNat]? =some i_/\
 ∃(kn:Int),i_[0]? =some (η (ν γ kn))/\
 ∀(iC:Nat->
 Value),nO R+eM.val=eP.length/\
 bS (nO R+eM.val)/\
 ∃(fD:List Int),∃(ko:List L3),iU (aT ξ R.c) fD/\
 bL T ko/\
 bz iC [0,2,3,8,9,10,11,12,13,14,15,16,17,18,19,21]/\
 Nx (Mc R T π υ w) eM ([aj 0 0,ζ 7 0 (bA R.me w.mem w.aH).length,ε γ (↑(bA R.me w.mem w.aH).length:Int),ε γ (γ.wrap ((↑eM.val:Int)+1))],[aB [ε γ R.me,ε γ R.id,ο R.bl,ο R.lo,ε γ w.ve,ε γ R.nu,bF 128 (aT ξ fD),af T,ε γ w.vi,ε γ w.vv,ε γ w.ve,aC (χ 1 aN),aC (χ 1 bQ),ο true,aY 3,aY 4,aR none,ε γ R.ce,ο (R.ch || R.ep != w.ve),ε γ R.ti,ζ 5 0 (nO R+eM.val+1),ζ 6 0 (yD R).length],aw,aw,an [],an [],ai 107 5 (ae bV R.out++lI aU R w++[[dn γ kn,η (ν γ 10),χ 1 [[dn γ R.id],[dn γ w.ve],[dn γ R.nu]],χ 1 (ints ξ (ca fD)),χ 1 [[χ 1 (ints ξ (be ko))]]]]),ai 70 7 (yD R),ai 3 1 cI]))/\
 (decide (bD)=false->
 K (au []) [cV R w b_ (ο (R.ch || R.ep != w.ve)) (af T) (ο true) (aY 1) (aY 2) (aR none) (ζ 3 0 (nO R+eM.val)) (ζ 4 0 (yD R).length),an [],an [],ai 107 5 eP,ai 70 7 (yD R)])
 ):aI Tryz.prog x4 (W8 R T π υ w) 15 [aj 0 0,.agg [.int γ w.vi,.int γ w.vv,.int γ w.ve,aC (.sl 1 (ints γ w.mem)),aC (.sl 1 (ints γ w.aH))]] [cR R (af T) (ο false) (δ π) (δ υ) (.aa none) (.sl 1 0 (nO R)) (.sl 2 0 (nD R)),rO R,rD R] (gJ 13 eW K):=by apply Eq.mp (a:=aq);kernel_rfl
theorem aiQ (R:ι) (T:ML) (I Q:ML) (u:Option (List D)) (w:Vw) (K:V->KB->Prop) (aq:
 let eP:=(ints γ (iJ R.me w.mem w.aH));let cI:=(ε γ w.ve);let b_:=(ζ 2 0 (yD R).length);let bW:=(ints γ w.aH);let bQ:=(ζ 5 0 (yD R).length);let aU:=(ε γ R.ep);let aJ:=(ints γ w.mem);let aN:=At (W4 R T I Q u w) ([aj 0 0,aj 6 0],[cV R w aU (ο R.ch) (af T) (ο false) (aY 1) (aY 2) (aR none) (ζ 3 0 (nO R)) bQ,an I,an Q,rO R,aw,ai 70 7 (yD R),nR w]);let ω:KB:=[cR R (af T) (ο true) (aY 1) (aY 2) (aR u) (ζ 3 0 (nO R)) (ζ 4 0 (nD R)),an I,an Q,rO R,rD R,nR w];let bD:=At (WY R T I Q u w) ([aj 0 0,aj 5 0,ο (d_ R w)],ω);let θ:=K (au []) [cR R (af T) (ο true) (aY 1) (aY 2) (aR u) (ζ 3 0 (nO R)) (ζ 4 0 (nD R)),an I,an Q,rO R,rD R];((decide ((↑aJ.length:Int) > 0)=true->
 aA 0/\
 ∃(y1:List D),aJ[0]? =some y1/\
 ∃(y2:Int),y1[0]? =some (η (ν γ y2))/\
 At (L8 R T I Q u w) ([aj 0 0,aj 5 0,ο (y2 == R.me)],ω))/\
 (decide ((↑aJ.length:Int) > 0)=false->
 At (L8 R T I Q u w) ([aj 0 0,aj 5 0,ο false],ω)))/\
 ∀(y3:Unit),(((w.vi != R.id)=true->
 θ)/\
 ((w.vi != R.id)=false->
 (decide (w.ve<R.v.ve)=true->
 θ)/\
 (decide (w.ve<R.v.ve)=false->
 (decide (w.ve<R.ep)=true->
 θ)/\
 (decide (w.ve<R.ep)=false->
 (decide (w.ve<1)=true->
 θ)/\
 (decide (w.ve<1)=false->
 ((w.ve == R.v.ve)=true->
 (true=true->
 θ)/\
 (true=false->
 ((!d_ R w)=true->
 θ)/\
 ((!d_ R w)=false->
 bD)))/\
 ((w.ve == R.v.ve)=false->
 bD))))))/\
 ∀(y5:{y4:Unit // dR R w=true}) (y6:Nat->
 Value),nD R=(nD R)/\
 bS (nD R)/\
 ∃(y7:Option Op),let av:=At (W1 R T I Q u w) ([aj 0 0,aj 6 0,ο (d_ R w)],[cR R (af T) (ο false) (aY 1) (aY 2) (aR none) (ζ 3 0 (nO R)) (ζ 5 0 (ae dA R.done++yl y7).length),an I,an Q,rO R,aw,ai 70 7 (ae dA R.done++yl y7),nR w]);u=ng bo y7/\
 bz y6 [0,1,2,3,4,5,7,8,9,10,11,12,14,15,17,18,19,20]/\
 ((bS aJ.length/\
 bS bW.length/\
 av)/\
 bS aJ.length/\
 bS bW.length/\
 av)/\
 ∀(y9:{y8:Unit // dR R w=true}),(((!d_ R w)=true->
 ∀(cU:Nat->
 Value),K (au []) [cV R w aU (ο R.ch) (af T) (ο false) (δ (cU 14)) (δ (cU 15)) (aR none) (ζ 1 0 (nO R)) b_,rO R,ai 70 7 (yD R)])/\
 ((!d_ R w)=false->
 (R.lo=true->
 ∀(cD:Nat->
 Value),K (au []) [cV R w aU (ο R.ch) (af T) (ο false) (δ (cD 14)) (δ (cD 15)) (aR none) (ζ 1 0 (nO R)) b_,rO R,ai 70 7 (yD R)])/\
 (R.lo=false->
 ((R.ep == 0)=true->
 (R.bl=true->
 ∀(cE:Nat->
 Value),K (au []) [cV R w aU (ο R.ch) (af T) (ο false) (δ (cE 14)) (δ (cE 15)) (aR none) (ζ 1 0 (nO R)) b_,rO R,ai 70 7 (yD R)])/\
 (R.bl=false->
 aN))/\
 ((R.ep == 0)=false->
 aN))))/\
 ∀(dH:{cP:Unit // dR R w=true/\
 fv R w=true}),(((R.ep != w.ve)=true->
 At (L_ R T I Q u w) ([aj 0 0],[cV R w cI (ο true) (af T) (ο false) (aY 1) (aY 2) (aR none) (ζ 3 0 (nO R)) bQ,an I,an Q,rO R,aw,ai 70 7 (yD R)]))/\
 ((R.ep != w.ve)=false->
 At (L_ R T I Q u w) ([aj 0 0],[cV R w aU (ο R.ch) (af T) (ο false) (aY 1) (aY 2) (aR none) (ζ 3 0 (nO R)) bQ,an I,an Q,rO R,aw,ai 70 7 (yD R)])))/\
 ∀(fZ:{cZ:Unit // dR R w=true/\
 fv R w=true}) (dr:Nat->
 Value),∃(fx:List Int),∃(fO:List Int),ints γ w.mem=ints γ fx/\
 ints γ w.aH=ints γ fO/\
 dK (fx.length+fO.length)/\
 bz dr [1,2,3,4,5,7,8,9,10,13,14,15,16,17,18,19,20,21]/\
 At (Mb R T I Q u w) ([aj 0 0,ζ 9 0 (bA R.me fx fO).length,ε γ (↑((bA R.me fx fO).length - 0):Int),ε γ 0],[cV R w cI (ο (R.ch || R.ep != w.ve)) (af T) (ο true) (aY 5) (aY 6) (aR none) (ζ 7 0 (nO R)) (ζ 8 0 (yD R).length),an I,an Q,aw,aw,an [],an [],rO R,ai 70 7 (yD R),ai 3 1 (ints γ (iJ R.me fx fO))])/\
 ∀(fh:{fU:Nat // fU<=(bA R.me w.mem w.aH).length/\
 dR R w=true/\
 fv R w=true}),let bM:=(↑fh.val:Int)<(↑(bA R.me w.mem w.aH).length:Int);let bp:=(ay fh.val (bA R.me w.mem w.aH));let gk:=(ae bV R.out++lI bp R w);(decide (bM)=true->
 br (↑fh.val:Int) ((bA R.me w.mem w.aH).length - 0)/\
 ∃(fP:List D),eP[0+(↑fh.val:Int).toNat]? =some fP/\
 ∃(iZ:Int),fP[0]? =some (η (ν γ iZ))/\
 ∀(gx:Nat->
 Value),nO R+fh.val=gk.length/\
 bS (nO R+fh.val)/\
 ∃(eZ:List Int),∃(fj:List L3),iU (aT ξ R.c) eZ/\
 bL T fj/\
 bz gx [0,2,3,8,9,10,11,12,13,14,15,16,17,18,19,21]/\
 Nx (Mb R T I Q u w) fh ([aj 0 0,ζ 9 0 (bA R.me w.mem w.aH).length,ε γ (↑(bA R.me w.mem w.aH).length:Int),ε γ (γ.wrap ((↑fh.val:Int)+1))],[aB [ε γ R.me,ε γ R.id,ο R.bl,ο R.lo,ε γ w.ve,ε γ R.nu,bF 128 (aT ξ eZ),af T,ε γ w.vi,ε γ w.vv,ε γ w.ve,aC (χ 1 aJ),aC (χ 1 bW),ο true,aY 5,aY 6,aR none,ε γ R.ce,ο (R.ch || R.ep != w.ve),ε γ R.ti,ζ 7 0 (nO R+fh.val+1),ζ 8 0 (yD R).length],an I,an Q,aw,aw,an [],an [],ai 107 5 (ae bV R.out++lI bp R w++[[dn γ iZ,η (ν γ 10),χ 1 [[dn γ R.id],[dn γ w.ve],[dn γ R.nu]],χ 1 (ints ξ (ca eZ)),χ 1 [[χ 1 (ints ξ (be fj))]]]]),ai 70 7 (yD R),ai 3 1 eP]))/\
 (decide (bM)=false->
 K (au []) [cV R w cI (ο (R.ch || R.ep != w.ve)) (af T) (ο true) (aY 1) (aY 2) (aR none) (ζ 3 0 (nO R+fh.val)) (ζ 4 0 (yD R).length),an [],an [],ai 107 5 gk,ai 70 7 (yD R)])
 ):aI Tryz.prog x4 (W7 R T I Q u w) 15 [aj 0 0,.agg [.int γ w.vi,.int γ w.vv,.int γ w.ve,aC (.sl 1 (ints γ w.mem)),aC (.sl 1 (ints γ w.aH))]] [cR R (af T) (ο true) (.mp 1) (.mp 2) (.aa u) (.sl 3 0 (nO R)) (.sl 4 0 (nD R)),an I,an Q,rO R,rD R] (gJ 13 eW K):=by apply Eq.mp (a:=aq);kernel_rfl
theorem acC:aO Tryz.prog 43 EX:=Vx ga mixed [.fA 1] (fun args kb K h=>by
 unfold EX at h;split at h<;>try exact h.elim
 rename_i B
 obtain⟨⟨hn⟩,h⟩:=h
 refine⟨_,ahp B K fun b hb=>⟨fun e=>?_,fun _=>⟨trivial,ar _,by omega,by simp,?_⟩⟩⟩
 ·have:=mD (hb e)
  rw[this]at h;exact h
 ·simpa using h)
theorem oW {k:IntKind}:ints k []=[]:=rfl
theorem qS {R:ι} {w:Vw} (h:dR R w=false):dV R w=R:=by unfold dV;rw[if_pos h]
theorem WR {R:ι} {w:Vw} (h:dR R w=true) (h2:fv R w=false):dV R w={gy R with v:=w }:=by
 unfold dV;rw[if_neg (by simp [h])];simp only[if_pos h2]
theorem WQ {R:ι} {w:Vw} (h:dR R w=true) (h2:fv R w=true):dV R w={R with v:=w,ep:=w.ve,ch:=R.ch || (R.ep != w.ve),ld:=some ⟨fun _=>false,fun _=>false,none⟩,done:=(gy R).done,out:=R.out++(bA R.me w.mem w.aH).map fun to=>⟨to,⟨10,[R.id,w.ve,R.nu],ca R.c,[be (gK R)]⟩⟩ }:=by
 unfold dV
 rw[if_neg (by simp [h])]
 simp only[h2,Lu]
 rfl
theorem ai4:dD Tryz.prog Md:=fun f k h=>by
 unfold Md at h
 split at h
 ·cases h;exact fJ TP _
 ·cases h;exact acC
 ·cases h;exact fJ Di _
 ·cases h;exact fJ Ka _
 ·cases h
theorem NU:cx Tryz.prog x4:=dP mixed ai4 aG 10
theorem Qk {R:ι} {w:Vw} (h:w.vi≠R.id):dR R w=false:=by simp [dR,h]
theorem wh {R:ι} {w:Vw} (h:w.ve<R.v.ve∨w.ve<R.ep∨w.ve<1):dR R w=false:=by
 have:¬ (w.vi=R.id/\R.v.ve<=w.ve/\R.ep<=w.ve/\1<=w.ve):=by omega
 simp only[dR,decide_eq_false this,Bool.false_and]
theorem go_eq {R:ι} {w:Vw} (h:w.ve=R.v.ve) (h2:ef R=true∨d_ R w=false):dR R w=false:=by
 rcases h2 with h2 | h2<;>simp [dR,h,h2]
theorem HY {R:ι} {w:Vw} (h1:w.vi=R.id) (h2:¬ w.ve<R.v.ve) (h3:¬ w.ve<R.ep) (h4:¬ w.ve<1) (h5:w.ve=R.v.ve->ef R=false/\d_ R w=true):dR R w=true:=by
 have:w.vi=R.id/\R.v.ve<=w.ve/\R.ep<=w.ve/\1<=w.ve:=by omega
 simp only[dR,decide_eq_true this,Bool.true_and]
 by_cases e:w.ve=R.v.ve
 ·obtain⟨a,b⟩:=h5 e
  simp [a,b]
 ·simp [e]
theorem tU (R:ι):ae dA (gy R).done=yD R:=by
 unfold gy yD
 cases ci R with
 |none=>simp [yl]
 |some o=>simp [yl,dA,G4,bo,dn,ints]
theorem Km {me:Int} {m j:List Int} {i:Nat} (hlt:i<(bA me m j).length):(iJ me m j)[i]? =(bA me m j)[i]?:=by
 have h2:(bA me m j)[i]? =((iJ me m j).take (bA me m j).length)[i]?:=by rw[Kn]
 rw[h2,iF hlt]
theorem ai1 (R:ι) (T:ML) (π υ:Value) (w:Vw) (hT:bL T R.t) (hl:R.ld=none) (hR:dF R) (hw:w.mem.length+w.aH.length<=1000) (hroom:R.out.length+(bA R.me w.mem w.aH).length<=100000) (eN:∀ π υ,aF R [cR R (af T) (ο false) (δ π) (δ υ) (.aa none) (.sl 1 0 (nO R)) (.sl 2 0 (nD R)),rO R,rD R]) (K:V->KB->Prop) (hK:∀ kb',aF (dV R w) kb'->K (.φ []) kb'):aI Tryz.prog x4 (W8 R T π υ w) 15 [aj 0 0,.agg [.int γ w.vi,.int γ w.vv,.int γ w.ve,aC (.sl 1 (ints γ w.mem)),aC (.sl 1 (ints γ w.aH))]] [cR R (af T) (ο false) (δ π) (δ υ) (.aa none) (.sl 1 0 (nO R)) (.sl 2 0 (nD R)),rO R,rD R] (gJ 13 eW K):=by
 have fin:∀{R':ι} {kb':KB},dV R w=R'->aF R' kb'->K (.φ []) kb':=fun{R' kb'} h1 h2=>by
  have:=hK kb'
  rw[h1]at this
  exact this h2
 have h5:dK (w.mem.length+w.aH.length):=⟨by omega⟩
 have hdl:(ae dA R.done).length<=1000000:=by rw[bT];have:=hR.dl;omega
 have nA:ef R=false:=by simp [ef,hl]
 have oS:none=(ci R).map bo:=by simp [ci,hl]
 have kV:w.mem.length<=1000000:=by omega
 have hlj:w.aH.length<=1000000:=by omega
 refine aiR R T π υ w K ⟨⟨fun _=>?_,fun e0=>At.mk' () ?_⟩,fun _=>⟨⟨fun e1=>fun f=>fin (qS (Qk (by simpa using e1))) (eN _ _),fun e1=>⟨fun e2=>fun f=>fin (qS (wh (.inl (by simpa using e2)))) (eN _ _),fun e2=>⟨fun e3=>fun f=>fin (qS (wh (.inr (.inl (by simpa using e3))))) (eN _ _),fun e3=>⟨fun e4=>fun f=>fin (qS (wh (.inr (.inr (by simpa using e4))))) (eN _ _),fun e4=>⟨fun e5=>⟨fun f=>(by cases f),fun _=>⟨fun e6=>fun f=>fin (qS (go_eq (by simpa using e5) (.inr (by simpa using e6)))) (eN _ _),fun e6=>At.mk' ⟨(),HY (by simpa using e1) (by simpa using e2) (by simpa using e3) (by simpa using e4) (fun _=>⟨nA,by simpa using e6⟩)⟩ rfl⟩⟩,fun e5=>At.mk' ⟨(),HY (by simpa using e1) (by simpa using e2) (by simpa using e3) (by simpa using e4) (fun h=>absurd h (by simpa using e5))⟩ rfl⟩⟩⟩⟩⟩,fun fV f=>⟨rfl,⟨hdl⟩,ci R,oS,⟨by simp [bU]⟩,⟨⟨⟨by rw[bi];exact kV⟩,⟨by rw[bi];exact hlj⟩,At.mk' fV rfl⟩,⟨by rw[bi];exact kV⟩,⟨by rw[bi];exact hlj⟩,At.mk' fV rfl⟩,fun fV=>⟨?_,fun rI=>⟨⟨fun e1=>At.mk' ⟨(),rI.2⟩ ?_,fun e1=>At.mk' ⟨(),rI.2⟩ ?_⟩,fun _ f=>⟨w.mem,w.aH,rfl,rfl,h5,⟨by simp [bU]⟩,At.mk' ⟨0,bj _,rI.2⟩ ?_,?_⟩⟩⟩⟩⟩⟩
 ·cases hm:w.mem with
  |nil=>rename_i e0;rw[hm]at e0;simp [ints]at e0
  |cons b l=>
   refine⟨dE _,[dn γ b],by simp [ints,dn],b,rfl,At.mk' () ?_⟩
   have:d_ R w=(b == R.me):=by simp [d_,hm]
   simp only[this,hm]
 ·have:w.mem=[]:=by
   cases hm:w.mem with
   |nil=>rfl
   |cons b l=>rw[hm]at e0;simp [ints]at e0
  have h2:d_ R w=false:=by simp [d_,this]
  simp only[h2]
 ·have uZ:fv R w=false->∀ f:Nat->Value,K (.φ []) [cV R w (.int γ R.ep) (ο R.ch) (af T) (ο false) (δ (f 14)) (δ (f 15)) (.aa none) (.sl 1 0 (nO R)) (.sl 2 0 (yD R).length),rO R,ai 70 7 (yD R)]:=fun h f=>fin (WR fV.2 h) (by
   unfold aF
   refine⟨f 14,f 15,T,hT,?_⟩
   simp only[nD,rD,tU]
   rfl)
  refine⟨fun e1 f=>uZ (by simp [fv,show d_ R w=false by simpa using e1]) f,fun e1=>⟨fun e2 f=>uZ (by simp [fv,e2]) f,fun e2=>⟨fun e3=>⟨fun e4 f=>uZ (by simp [fv,e4,show R.ep=0 by simpa using e3]) f,fun e4=>At.mk' ⟨(),fV.2,by simp [fv,e2,e4,show d_ R w=true by simpa using e1]⟩ rfl⟩,fun e3=>At.mk' ⟨(),fV.2,by simp [fv,e2,show ¬ R.ep=0 by simpa using e3,show d_ R w=true by simpa using e1]⟩ rfl⟩⟩⟩
 ·have e1:(R.ep != w.ve)=true:=e1
  simp only[e1,Bool.or_true]
  try rfl
 ·have e1:(R.ep != w.ve)=false:=e1
  have e2:R.ep=w.ve:=by simpa using e1
  simp only[e2,bne_self_eq_false,Bool.or_false]
  try rfl
 ·simp [lI]
  try rfl
 ·rintro⟨i,Is,hg⟩
  refine⟨fun hlt=>?_,fun hlt=>?_⟩
  ·have hlt:i<(bA R.me w.mem w.aH).length:=by simpa using hlt
   have df:(iJ R.me w.mem w.aH)[i]? =(bA R.me w.mem w.aH)[i]?:=Km hlt
   refine⟨Cv (by simpa using hlt),[dn γ (bA R.me w.mem w.aH)[i]],?_,(bA R.me w.mem w.aH)[i],rfl,fun f=>⟨?_,⟨?_⟩,R.c,R.t,⟨rfl,hR.cl,hR.cb⟩,hT,⟨by simp [bU]⟩,Nx.mk' ⟨i+1,hlt,hg⟩ ?_ ?_⟩⟩
   ·simp only[cN,c9]
    rw[ints_getElem?,df,bu hlt];rfl
   ·simp [lI,nO];omega
   ·simp [nO];omega
   ·have wz:=bE (n:=(i:Int)+1) (by omega) (by omega)
    have eh:lI ((bA R.me w.mem w.aH).take (i+1)) R w=lI ((bA R.me w.mem w.aH).take i) R w++[mX (bA R.me w.mem w.aH)[i] R.id w.ve R.nu R.c R.t]:=by
     unfold lI
     rw[jt,bu hlt,ja];rfl
    simp only[wz]
    simp [eh,mX,gg,dn,ints,cV]
    first
     |omega
     |exact⟨by omega,rfl⟩
     |exact⟨by omega,rfl,rfl⟩
   ·show(bA R.me w.mem w.aH).length - (i+1)<(bA R.me w.mem w.aH).length - i
    omega
  ·have hi2:i=(bA R.me w.mem w.aH).length:=by
    have:¬ i<(bA R.me w.mem w.aH).length:=by simpa using hlt
    omega
   subst hi2
   refine fin (WQ hg.1 hg.2) ?_
   unfold aF
   refine⟨[],[],T,rY,rY,hT,?_⟩
   simp only[nD,rD,tU]
   simp [cR,cV,lI,mX,gg,gK,dn,bV,jA,ints,Function.comp_def]
theorem ai0 (R:ι) (T:ML) (I Q:ML) (L:b9) (w:Vw) (hT:bL T R.t) (hl:R.ld=some L) (hR:dF R) (hw:w.mem.length+w.aH.length<=1000) (hroom:R.out.length+(bA R.me w.mem w.aH).length<=100000) (hkb:aF R [cR R (af T) (ο true) (.mp 1) (.mp 2) (.aa (L.cur.map bo)) (.sl 3 0 (nO R)) (.sl 4 0 (nD R)),an I,an Q,rO R,rD R]) (K:V->KB->Prop) (hK:∀ kb',aF (dV R w) kb'->K (.φ []) kb'):aI Tryz.prog x4 (W7 R T I Q (L.cur.map bo) w) 15 [aj 0 0,.agg [.int γ w.vi,.int γ w.vv,.int γ w.ve,aC (.sl 1 (ints γ w.mem)),aC (.sl 1 (ints γ w.aH))]] [cR R (af T) (ο true) (.mp 1) (.mp 2) (.aa (L.cur.map bo)) (.sl 3 0 (nO R)) (.sl 4 0 (nD R)),an I,an Q,rO R,rD R] (gJ 13 eW K):=by
 have fin:∀{R':ι} {kb':KB},dV R w=R'->aF R' kb'->K (.φ []) kb':=fun{R' kb'} h1 h2=>by
  have:=hK kb'
  rw[h1]at this
  exact this h2
 have h5:dK (w.mem.length+w.aH.length):=⟨by omega⟩
 have hdl:(ae dA R.done).length<=1000000:=by rw[bT];have:=hR.dl;omega
 have nA:ef R=true:=by simp [ef,hl]
 have oS:L.cur.map bo=(ci R).map bo:=by simp [ci,hl]
 have kV:w.mem.length<=1000000:=by omega
 have hlj:w.aH.length<=1000000:=by omega
 refine aiQ R T I Q (L.cur.map bo) w K ⟨⟨fun _=>?_,fun e0=>At.mk' () ?_⟩,fun _=>⟨⟨fun e1=>fin (qS (Qk (by simpa using e1))) hkb,fun e1=>⟨fun e2=>fin (qS (wh (.inl (by simpa using e2)))) hkb,fun e2=>⟨fun e3=>fin (qS (wh (.inr (.inl (by simpa using e3))))) hkb,fun e3=>⟨fun e4=>fin (qS (wh (.inr (.inr (by simpa using e4))))) hkb,fun e4=>⟨fun e5=>⟨fun _=>fin (qS (go_eq (by simpa using e5) (.inl nA))) hkb,fun f=>(by cases f)⟩,fun e5=>At.mk' ⟨(),HY (by simpa using e1) (by simpa using e2) (by simpa using e3) (by simpa using e4) (fun h=>absurd h (by simpa using e5))⟩ rfl⟩⟩⟩⟩⟩,fun fV f=>⟨rfl,⟨hdl⟩,ci R,oS,⟨by simp [bU]⟩,⟨⟨⟨by rw[bi];exact kV⟩,⟨by rw[bi];exact hlj⟩,At.mk' fV rfl⟩,⟨by rw[bi];exact kV⟩,⟨by rw[bi];exact hlj⟩,At.mk' fV rfl⟩,fun fV=>⟨?_,fun rI=>⟨⟨fun e1=>At.mk' ⟨(),rI.2⟩ ?_,fun e1=>At.mk' ⟨(),rI.2⟩ ?_⟩,fun _ f=>⟨w.mem,w.aH,rfl,rfl,h5,⟨by simp [bU]⟩,At.mk' ⟨0,bj _,rI.2⟩ ?_,?_⟩⟩⟩⟩⟩⟩
 ·cases hm:w.mem with
  |nil=>rename_i e0;rw[hm]at e0;simp [ints]at e0
  |cons b l=>
   refine⟨dE _,[dn γ b],by simp [ints,dn],b,rfl,At.mk' () ?_⟩
   have:d_ R w=(b == R.me):=by simp [d_,hm]
   simp only[this,hm]
 ·have:w.mem=[]:=by
   cases hm:w.mem with
   |nil=>rfl
   |cons b l=>rw[hm]at e0;simp [ints]at e0
  have h2:d_ R w=false:=by simp [d_,this]
  simp only[h2]
 ·have uZ:fv R w=false->∀ f:Nat->Value,K (.φ []) [cV R w (.int γ R.ep) (ο R.ch) (af T) (ο false) (δ (f 14)) (δ (f 15)) (.aa none) (.sl 1 0 (nO R)) (.sl 2 0 (yD R).length),rO R,ai 70 7 (yD R)]:=fun h f=>fin (WR fV.2 h) (by
   unfold aF
   refine⟨f 14,f 15,T,hT,?_⟩
   simp only[nD,rD,tU]
   rfl)
  refine⟨fun e1 f=>uZ (by simp [fv,show d_ R w=false by simpa using e1]) f,fun e1=>⟨fun e2 f=>uZ (by simp [fv,e2]) f,fun e2=>⟨fun e3=>⟨fun e4 f=>uZ (by simp [fv,e4,show R.ep=0 by simpa using e3]) f,fun e4=>At.mk' ⟨(),fV.2,by simp [fv,e2,e4,show d_ R w=true by simpa using e1]⟩ rfl⟩,fun e3=>At.mk' ⟨(),fV.2,by simp [fv,e2,show ¬ R.ep=0 by simpa using e3,show d_ R w=true by simpa using e1]⟩ rfl⟩⟩⟩
 ·have e1:(R.ep != w.ve)=true:=e1
  simp only[e1,Bool.or_true]
  try rfl
 ·have e1:(R.ep != w.ve)=false:=e1
  have e2:R.ep=w.ve:=by simpa using e1
  simp only[e2,bne_self_eq_false,Bool.or_false]
  try rfl
 ·simp [lI]
  try rfl
 ·rintro⟨i,Is,hg⟩
  refine⟨fun hlt=>?_,fun hlt=>?_⟩
  ·have hlt:i<(bA R.me w.mem w.aH).length:=by simpa using hlt
   have df:(iJ R.me w.mem w.aH)[i]? =(bA R.me w.mem w.aH)[i]?:=Km hlt
   refine⟨Cv (by simpa using hlt),[dn γ (bA R.me w.mem w.aH)[i]],?_,(bA R.me w.mem w.aH)[i],rfl,fun f=>⟨?_,⟨?_⟩,R.c,R.t,⟨rfl,hR.cl,hR.cb⟩,hT,⟨by simp [bU]⟩,Nx.mk' ⟨i+1,hlt,hg⟩ ?_ ?_⟩⟩
   ·simp only[cN,c9]
    rw[ints_getElem?,df,bu hlt];rfl
   ·simp [lI,nO];omega
   ·simp [nO];omega
   ·have wz:=bE (n:=(i:Int)+1) (by omega) (by omega)
    have eh:lI ((bA R.me w.mem w.aH).take (i+1)) R w=lI ((bA R.me w.mem w.aH).take i) R w++[mX (bA R.me w.mem w.aH)[i] R.id w.ve R.nu R.c R.t]:=by
     unfold lI
     rw[jt,bu hlt,ja];rfl
    simp only[wz]
    simp [eh,mX,gg,dn,ints,cV]
    first
     |omega
     |exact⟨by omega,rfl⟩
     |exact⟨by omega,rfl,rfl⟩
   ·show(bA R.me w.mem w.aH).length - (i+1)<(bA R.me w.mem w.aH).length - i
    omega
  ·have hi2:i=(bA R.me w.mem w.aH).length:=by
    have:¬ i<(bA R.me w.mem w.aH).length:=by simpa using hlt
    omega
   subst hi2
   refine fin (WQ hg.1 hg.2) ?_
   unfold aF
   refine⟨[],[],T,rY,rY,hT,?_⟩
   simp only[nD,rD,tU]
   simp [cR,cV,lI,mX,gg,gK,dn,bV,jA,ints,Function.comp_def]
def XY:aE:=fun args kb K=>∃ R w,args=[aj 0 0,.agg [.int γ w.vi,.int γ w.vv,.int γ w.ve,aC (.sl 1 (ints γ w.mem)),aC (.sl 1 (ints γ w.aH))]]/\aF R kb/\dF R/\w.mem.length+w.aH.length<=1000/\R.out.length+(bA R.me w.mem w.aH).length<=100000/\∀ kb',aF (dV R w) kb'->K (.φ []) kb'
theorem adY:gB Tryz.prog 15 XY:=uQ mixed 13 eW (fun args kb K h=>by
 obtain⟨R,w,rfl,hkb,hR,hw,hroom,hK⟩:=h
 have jh:=hkb
 unfold aF at hkb
 split at hkb
 ·rename_i hl
  obtain⟨π,υ,T,hT,rfl⟩:=hkb
  exact⟨_,_,NU,ai1 R T π υ w hT hl hR hw hroom (fun a b=>by unfold aF;simp only[hl];exact⟨a,b,T,hT,rfl⟩) K hK⟩
 ·rename_i L hl
  obtain⟨I,Q,T,hI,hQ,hT,rfl⟩:=hkb
  exact⟨_,_,NU,ai0 R T I Q L w hT hl hR hw hroom jh K hK⟩)
end Go.Proofs.YtfcjngcnifdmnaaGreat
