import Derived.Test.YtfcjngcnifdmnaaGreatQc
import Derived.KernelRfl
import Derived.Shelf.Sort.Plain
import Derived.Shelf.Slices.In.SortNone
import Derived.Shelf.SlMaps.Clone
import Derived.Shelf.SlIterI.Nil
import Derived.Shelf.SlIterI.Sorted
import Derived.Shelf.SortM.Plain
import Derived.Shelf.SortM.SortNone
import Derived.Ground.GgzProg
import Derived.Ground.SlgmProg
import Derived.Ground.SlmcProg
import Derived.Test.YtfcjngcnifdmnaaGreatProg
import Derived.Shelf.Spec.SlicesGrow
namespace Go.Proofs.YtfcjngcnifdmnaaGreat
open Vc Go
open Go.IntKind renaming i64->Z,u8->θ,u32->gq
open Vc.V renaming any->γ,int->δ,sl->ε,sb->ξ,ptr->ac,dat->an,υ->ar,ae->aG,mp->aV,arr->bc,agg->cF
open Vc.KO renaming row->ζ,dead->ο,cells->ω,objs->bE
open Vc.D renaming val->η,sl->π
open List renaming map->ι,drop->ν,take->ah,length_append->bw,getElem?_eq_getElem->bx,getElem?_eq_some_iff->bU,length_map->cg,Mem->ct,take_length->cN,replicate->cQ,length_take->cW,append_assoc->dQ,getElem?_append_right->ef,getElem?_append_left->eH,mem_cons->eP,append_nil->fg,length_drop->fh,getElem?_map->fG,mem_map->fH,take_of_length_le->fI,getElem?_set_ne->fR,mem_cons_of_mem->fS,mem_append->gl,mem_of_getElem?->gm,getElem?_eq_none->gA,getElem?_set_self->gB,length_set->gC,range->gD,drop_zero->gK,mem_singleton->gY,flatten_cons->im,length_cons->io,mem_cons_self->iA,getElem?_take_of_lt->jj,length_nil->jk,nil_append->jm,getElem?_drop->jB,map_append->jC,take_add_one->jY,ext_getElem?->km,getD_eq_getElem?_getD->kn,length_singleton->ko,eq_nil_of_length_eq_zero->kG,mem_append_left->lR,mem_filter->lS
open Go.Value renaming int->κ,slice->eI,bool->fa,map->gr,oneCell'->kq
open Nat renaming le_refl->aE,zero_le->bF,beq->bZ,eq_of_beq_eq_true->cy,zero_add->cL,add_assoc->fT,lor->gE,lt_or_ge->iX,sub_zero->kp
open Option renaming some->bh,bind_eq_some_iff->jF,map->jZ
open Int renaming toNat_natCast->dr,le_refl->gp
open Bool renaming and_eq_true->kE
set_option linter.unusedVariables false
set_option linter.unusedSimpArgs false
set_option maxRecDepth 100000
def zD:FuncId->Option dw
 | 62=>some ⟨[],BD⟩
 |f=>Cr f
noncomputable def Jb:bM:=dF Tryz.prog zD aM 10
def xz:aH:=fun args kb K=>match args,kb with
 | [ac 0 0,.int Z most],[ω [.sl 1 lo h,.int Z e],ζ 5 1 A]=>∃ l:List Int,A=ints θ l/\h=l.length/\lo<=l.length/\bm l/\l.length<=140737488355328/\
  K (.int Z (ak (l.drop lo) e most).1) [ω [.sl 1 (lo+(ak (l.drop lo) e most).2.1) l.length,.int Z (ak (l.drop lo) e most).2.2],ζ 5 1 (ints θ l)]
 |_,_=>False
def zU:FuncId->Option dw
 | 31=>some ⟨[],xz⟩
 | 36=>some ⟨[],zw [.cell 0 0 5 1] BS⟩
 |f=>zD f
noncomputable def qX:bM:=dF Tryz.prog zU aM 10
theorem abW (l:List Int) (lo:Nat) (e most:Int) (K:V->KB->Prop) (ay:
 ((e != 0)=true->K (δ Z 0) [ω [ε 1 lo l.length,δ Z e],ζ 5 1 (ints θ l)])/\
 ((e != 0)=false->
 ∃(l_1:List Int),
 ints θ l=ints θ l_1/\
 l.length=l_1.length/\
 lo<=l_1.length/\
 (∀(c:Int),ct c l_1->0<=c/\c<256)/\
 l_1.length<=140737488355328/\
 e=0/\
 (∀(v n:Nat),
 iy 0 0 (ν lo l_1)=xd.got v n->
 (((↑n:Int) == 0)=true->K (δ Z 0) [ω [ε 1 lo l_1.length,δ Z 0],ζ 5 1 (ints θ l_1)])/\
 (((↑n:Int) == 0)=false->
 (decide ((↑v:Int) > most)=true->(true=true->K (δ Z 0) [ω [ε 1 lo l_1.length,δ Z 5],ζ 5 1 (ints θ l_1)])/\(true=false->K (δ Z 0) [ω [ε 1 lo l_1.length,δ Z 0],ζ 5 1 (ints θ l_1)]))/\
 (decide ((↑v:Int) > most)=false->aQ (↑n:Int)/\True/\(↑n:Int).toNat<=l_1.length - lo/\l_1.length - lo<=l_1.length - lo/\K (δ Z (↑v:Int)) [ω [ε 1 (lo+(↑n:Int).toNat) (lo+(l_1.length - lo)),δ Z 0],ζ 5 1 (ints θ l_1)])))/\
 (iy 0 0 (ν lo l_1)=xd.short->
 (true=true->K (δ Z 0) [ω [ε 1 lo l_1.length,δ Z 2],ζ 5 1 (ints θ l_1)])/\
 (true=false->
 (decide (0 > most)=true->(false=true->K (δ Z 0) [ω [ε 1 lo l_1.length,δ Z 5],ζ 5 1 (ints θ l_1)])/\(false=false->K (δ Z 0) [ω [ε 1 lo l_1.length,δ Z 2],ζ 5 1 (ints θ l_1)]))/\
 (decide (0 > most)=false->aQ 0/\True/\0<=l_1.length - lo/\l_1.length - lo<=l_1.length - lo/\K (δ Z 0) [ω [ε 1 (lo+0) (lo+(l_1.length - lo)),δ Z 2],ζ 5 1 (ints θ l_1)])))/\
 (iy 0 0 (ν lo l_1)=xd.form->
 (true=true->K (δ Z 0) [ω [ε 1 lo l_1.length,δ Z 3],ζ 5 1 (ints θ l_1)])/\
 (true=false->
 (decide (0 > most)=true->(false=true->K (δ Z 0) [ω [ε 1 lo l_1.length,δ Z 5],ζ 5 1 (ints θ l_1)])/\(false=false->K (δ Z 0) [ω [ε 1 lo l_1.length,δ Z 3],ζ 5 1 (ints θ l_1)]))/\
 (decide (0 > most)=false->aQ 0/\True/\0<=l_1.length - lo/\l_1.length - lo<=l_1.length - lo/\K (δ Z 0) [ω [ε 1 (lo+0) (lo+(l_1.length - lo)),δ Z 3],ζ 5 1 (ints θ l_1)]))))
 ):aO Tryz.prog Jb (aM 31) 31 [ac 0 0,.int Z most] [ω [.sl 1 lo l.length,.int Z e],ζ 5 1 (ints θ l)] K:=by apply Eq.mp (a:=ay);kernel_rfl
theorem acw (l:List Int) (lo:Nat) (e most:Int) (K:V->KB->Prop) (ay:
 ∃(l_1:List Int),
 ints θ l=ints θ l_1/\
 l.length=l_1.length/\
 lo<=l_1.length/\
 (∀(c:Int),ct c l_1->0<=c/\c<256)/\
 l_1.length<=140737488355328/\
 (((ak (ν lo l_1) e most).snd.snd != 0)=true->K (ε 2 0 0) [ω [ε 1 (lo+(ak (ν lo l_1) e most).snd.fst) l_1.length,δ Z (ak (ν lo l_1) e most).snd.snd],ζ 5 1 (ints θ l_1),ζ 5 1 []])/\
 (((ak (ν lo l_1) e most).snd.snd != 0)=false->
 (decide ((ak (ν lo l_1) e most).fst > (↑(l_1.length - (lo+(ak (ν lo l_1) e most).snd.fst)):Int))=true->
 (((ak (ν lo l_1) e most).snd.snd == 0)=true->K (ε 2 0 0) [ω [ε 1 (lo+(ak (ν lo l_1) e most).snd.fst) l_1.length,δ Z 2],ζ 5 1 (ints θ l_1),ζ 5 1 []])/\
 (((ak (ν lo l_1) e most).snd.snd == 0)=false->K (ε 2 0 0) [ω [ε 1 (lo+(ak (ν lo l_1) e most).snd.fst) l_1.length,δ Z (ak (ν lo l_1) e most).snd.snd],ζ 5 1 (ints θ l_1),ζ 5 1 []]))/\
 (decide ((ak (ν lo l_1) e most).fst > (↑(l_1.length - (lo+(ak (ν lo l_1) e most).snd.fst)):Int))=false->
 True/\
 aQ (ak (ν lo l_1) e most).fst/\
 0<=(ak (ν lo l_1) e most).fst.toNat/\
 (ak (ν lo l_1) e most).fst.toNat<=l_1.length - (lo+(ak (ν lo l_1) e most).snd.fst)/\
 (lo+(ak (ν lo l_1) e most).snd.fst+(ak (ν lo l_1) e most).fst.toNat<=(ints θ l_1).length/\True)/\
 (ν (lo+(ak (ν lo l_1) e most).snd.fst+0) (ah (lo+(ak (ν lo l_1) e most).snd.fst+(ak (ν lo l_1) e most).fst.toNat) (ints θ l_1))).length<=140737488355328/\
 lg (ν (lo+(ak (ν lo l_1) e most).snd.fst+0) (ah (lo+(ak (ν lo l_1) e most).snd.fst+(ak (ν lo l_1) e most).fst.toNat) (ints θ l_1))).flatten/\
 aQ (ak (ν lo l_1) e most).fst/\
 True/\
 (ak (ν lo l_1) e most).fst.toNat<=l_1.length - (lo+(ak (ν lo l_1) e most).snd.fst)/\
 l_1.length - (lo+(ak (ν lo l_1) e most).snd.fst)<=l_1.length - (lo+(ak (ν lo l_1) e most).snd.fst)/\
 K (ε 2 0 (ν (lo+(ak (ν lo l_1) e most).snd.fst+0) (ah (lo+(ak (ν lo l_1) e most).snd.fst+(ak (ν lo l_1) e most).fst.toNat) (ints θ l_1))).length)
 [ω [ε 1 (lo+(ak (ν lo l_1) e most).snd.fst+(ak (ν lo l_1) e most).fst.toNat) (lo+(ak (ν lo l_1) e most).snd.fst+(l_1.length - (lo+(ak (ν lo l_1) e most).snd.fst))),δ Z (ak (ν lo l_1) e most).snd.snd],ζ 5 1 (ints θ l_1),
 ζ 5 1 (ν (lo+(ak (ν lo l_1) e most).snd.fst+0) (ah (lo+(ak (ν lo l_1) e most).snd.fst+(ak (ν lo l_1) e most).fst.toNat) (ints θ l_1)))]))
 ):aO Tryz.prog qX (aM 32) 32 [ac 0 0,.int Z most] [ω [.sl 1 lo l.length,.int Z e],ζ 5 1 (ints θ l)] (eX [.slot 0 5 1] K):=by apply Eq.mp (a:=ay);kernel_rfl
theorem acG (a:List Int) (B:List (List D)) (K:V->KB->Prop) (ay:
 ∃(a_1:List Int),
 ints θ a=ints θ a_1/\
 a.length=a_1.length/\
 a_1.length<=10000000/\
 e_ (↑B.length:Int)/\
 True/\
 (a_1++aU (↑B.length:Int)).length<=(ints θ (a_1++aU (↑B.length:Int))).length/\
 ((a_1++aU (↑B.length:Int)).length+B.length)*1<=140737488355328/\K (ar []) [ω [ε 2 0 ((a_1++aU (↑B.length:Int)).length+B.length)],ο,ζ 5 1 (ah (a_1++aU (↑B.length:Int)).length (ints θ (a_1++aU (↑B.length:Int)))++B)]
 ):aO Tryz.prog qX (aM 37) 37 [ac 0 0,an (.sl 1 B)] [ω [.sl 1 0 a.length],ζ 5 1 (ints θ a)] (dh 2 K):=by apply Eq.mp (a:=ay);kernel_rfl
theorem aa8 (A:List (List D)) (n:Nat) (K:V->KB->Prop) (ay:
 (n<=A.length/\True)/\(ν 0 (ah n A)).length<=140737488355328/\lg (ν 0 (ah n A)).flatten/\K (ε 2 0 (ν 0 (ah n A)).length) [ω [ε 1 0 n],ζ 5 1 A,ζ 5 1 (ν 0 (ah n A))]
 ):aO Tryz.prog qX (aM 40) 40 [ac 0 0] [ω [.sl 1 0 n],ζ 5 1 A] K:=by apply Eq.mp (a:=ay);kernel_rfl
theorem aca (A:List (List D)) (K:V->KB->Prop) (ay:
 A.length<=140737488355328/\K (ac 0 0) [ω [ε 1 0 A.length,δ Z 0],ζ 5 1 A]
 ):aO Tryz.prog qX (aM 30) 30 [an (.sl 1 A)] [] (dh 0 K):=by apply Eq.mp (a:=ay);kernel_rfl
theorem abv (l:List Int) (lo:Nat) (e:Int) (K:V->KB->Prop) (ay:
 (decide ((↑(l.length - lo):Int) > 0)=true->((e == 0)=true->K (δ Z 3) [ω [ε 1 lo l.length,δ Z 3],ζ 5 1 (ints θ l)])/\((e == 0)=false->K (δ Z e) [ω [ε 1 lo l.length,δ Z e],ζ 5 1 (ints θ l)]))/\
 (decide ((↑(l.length - lo):Int) > 0)=false->K (δ Z e) [ω [ε 1 lo l.length,δ Z e],ζ 5 1 (ints θ l)])
 ):aO Tryz.prog qX (aM 35) 35 [ac 0 0] [ω [.sl 1 lo l.length,.int Z e],ζ 5 1 (ints θ l)] K:=by apply Eq.mp (a:=ay);kernel_rfl
theorem abz (A:List (List D)) (lo hi:Nat) (e:Int) (K:V->KB->Prop) (ay:
 K (δ Z e) [ω [ε 1 lo hi,δ Z e],ζ 5 1 A]
 ):aO Tryz.prog qX (aM 65) 65 [ac 0 0] [ω [.sl 1 lo hi,.int Z e],ζ 5 1 A] K:=by apply Eq.mp (a:=ay);kernel_rfl
theorem Ss:dE Tryz.prog Cr:=fun f k h=>by
 unfold Cr at h
 split at h<;>first | (cases h;first | exact F0 | exact S1 NG | exact FZ) | cases h
theorem Nr:dE Tryz.prog zD:=fun f k h=>by
 unfold zD at h
 split at h
 ·cases h;exact XE
 ·exact Ss _ _ h
theorem RU:bW Tryz.prog Jb:=dI mixed Nr aM 10
theorem nW {l:List Int} (h:bm l) (n:Nat):bm (l.drop n):=fun c hc=>h c (List.mem_of_mem_drop hc)
theorem NP:aT Tryz.prog 31 xz:=eM RU mixed (fun args kb K h=>by
 unfold xz at h;split at h<;>try exact h.elim
 rename_i most lo _ e _
 obtain⟨l,rfl,rfl,hlo,hb,hl,h⟩:=h
 refine⟨aM 31,abW l lo e most K ⟨fun hc=>?_,fun hc=>?_⟩⟩
 ·simp only[bne_iff_ne,ne_eq]at hc
  unfold ak at h
  rw[if_neg hc]at h
  exact h
 ·simp only[bne_eq_false_iff_eq]at hc
  subst hc
  refine⟨l,rfl,rfl,hlo,hb,hl,rfl,fun v n hn=>⟨fun h0=>?_,fun h0=>⟨fun hv=>⟨fun _=>?_,fun h=>by simp at h⟩,fun hv=>⟨by unfold aQ;omega,trivial,?_,aE _,?_⟩⟩⟩,fun hn=>⟨fun _=>?_,fun h=>by simp at h⟩,fun hn=>⟨fun _=>?_,fun h=>by simp at h⟩⟩
  ·obtain⟨_,h2,_⟩:=zE (nW hb lo) hn
   have:=iL (v:Int)
   simp only[beq_iff_eq]at h0
   omega
  ·simp only[decide_eq_true_eq]at hv
   unfold ak at h
   rw[if_pos rfl,hn]at h
   simp only[if_pos (show most<(v:Int)from hv)]at h
   exact h
  ·obtain⟨_,h2,r,h3⟩:=zE (nW hb lo) hn
   have:=congrArg List.length h3
   rw[fh,bw]at this
   omega
  ·simp only[decide_eq_false_iff_not]at hv
   unfold ak at h
   rw[if_pos rfl,hn]at h
   simp only[if_neg (show ¬ most<(v:Int)from hv)]at h
   rw[show lo+(l.length - lo)=l.length by omega]
   exact h
  ·unfold ak at h
   rw[if_pos rfl,hn]at h
   exact h
  ·unfold ak at h
   rw[if_pos rfl,hn]at h
   exact h)
theorem OX:dE Tryz.prog zU:=fun f k h=>by
 unfold zU at h
 split at h
 ·cases h;exact NP
 ·cases h;exact FB Yo _
 ·exact Nr _ _ h
theorem sR:bW Tryz.prog qX:=dI mixed OX aM 10
def xA:aH:=fun args kb K=>match args,kb with
 | [ac 0 0,.int Z most],[ω [.sl 1 lo h,.int Z e],ζ 5 1 A]=>∃ l:List Int,A=ints θ l/\h=l.length/\lo<=l.length/\bm l/\l.length<=140737488355328/\
  K (.sl 2 0 (bp (l.drop lo) e most).1.length) [ω [.sl 1 (lo+(bp (l.drop lo) e most).2.1) l.length,.int Z (bp (l.drop lo) e most).2.2],ζ 5 1 (ints θ l),ζ 5 1 (ints θ (bp (l.drop lo) e most).1)]
 |_,_=>False
theorem NW:aT Tryz.prog 32 xA:=GV sR mixed [.slot 0 5 1] (fun args kb K h=>by
 unfold xA at h;split at h<;>try exact h.elim
 rename_i most lo _ e _
 obtain⟨l,rfl,rfl,hlo,hb,hl,h⟩:=h
 refine⟨aM 32,acw l lo e most K ⟨l,rfl,rfl,hlo,hb,by omega,?_⟩⟩
 have hv:=wc (nW hb lo) e most
 rw[fh]at hv
 unfold bp at h
 generalize hr:ak (l.drop lo) e most=r at h hv ⊢
 obtain⟨n,u,e'⟩:=r
 simp only at h hv ⊢
 refine⟨fun hc=>?_,fun hc=>⟨fun hx=>⟨fun hy=>?_,fun hy=>?_⟩,fun hx=>?_⟩⟩
 ·simp only[bne_iff_ne,ne_eq]at hc
  rw[if_neg hc]at h
  exact h
 ·simp only[decide_eq_true_eq]at hx
  simp only[bne_eq_false_iff_eq]at hc
  subst hc
  rw[if_pos rfl,if_pos (by rw[fh,fh];omega)]at h
  exact h
 ·rw[bne,hy]at hc
  cases hc
 ·simp only[decide_eq_false_iff_not]at hx
  simp only[bne_eq_false_iff_eq]at hc
  subst hc
  rw[if_pos rfl,if_neg (by rw[fh,fh];omega)]at h
  have j5:aQ n:=hv.1
  have e1:ν (lo+u+0) (ah (lo+u+n.toNat) (ints θ l))=ints θ (ah n.toNat (ν u (ν lo l))):=by
   rw[Nat.add_zero,List.drop_take,yZ,oq,List.drop_drop,Nat.add_sub_cancel_left]
  rw[e1]
  simp only[List.drop_drop,be]at h ⊢
  have e3:lo+u+(l.length - (lo+u))=l.length:=by omega
  rw[e3]
  refine⟨trivial,j5,bF _,by omega,⟨by omega,trivial⟩,by rw[cW,fh];omega,⟨nG⟩,j5,trivial,by omega,aE _,?_⟩
  rw[show lo+u+n.toNat=lo+(u+n.toNat) by omega]
  exact h)
def BT:aH:=fun args kb K=>match args,kb with
 | [ac 0 0,an (.sl 1 B)],[ω [.sl 1 0 h],ζ 5 1 A]=>∃ a b:List Int,A=ints θ a/\B=ints θ b/\h=a.length/\a.length<=1000000/\b.length<=1000000/\
  K (.υ []) [ω [.sl 2 0 (a++bY b).length],ο,ζ 5 1 (ints θ (a++bY b))]
 |_,_=>False
theorem Yp:aT Tryz.prog 37 BT:=jP sR mixed (fun args kb K h=>by
 unfold BT at h;split at h<;>try exact h.elim
 obtain⟨a,b,rfl,rfl,rfl,h1,h2,h⟩:=h
 refine⟨aM 37,acG a _ K ⟨a,rfl,rfl,by omega,⟨by rw[be];omega⟩,trivial,by simp only[be];exact aE _,?_,?_⟩⟩
 ·have:=(iL ((ints θ b).length:Int)).2
  rw[bw,be]
  rw[be]at this
  omega
 ·rw[be,oq,cN,<- po,<- bw,dQ]
  exact h)
def BR:aH:=fun args kb K=>match args,kb with
 | [ac 0 0],[ω [.sl 1 0 h],ζ 5 1 A]=>∃ a:List Int,A=ints θ a/\h=a.length/\a.length<=1000000/\K (.sl 2 0 a.length) [ω [.sl 1 0 a.length],ζ 5 1 (ints θ a),ζ 5 1 (ints θ a)]
 |_,_=>False
theorem Tu {k:IntKind} {a:List Int}:ν 0 (ah a.length (ints k a))=ints k a:=by rw[gK,oq,cN]
theorem WS:aT Tryz.prog 40 BR:=eM sR mixed (fun args kb K h=>by
 unfold BR at h;split at h<;>try exact h.elim
 obtain⟨a,rfl,rfl,h1,h⟩:=h
 refine⟨aM 40,aa8 _ _ K ?_⟩
 rw[Tu,be]
 exact⟨⟨aE _,trivial⟩,by omega,⟨nG⟩,h⟩)
def xu:aH:=fun args kb K=>match args,kb with
 | [an (.sl 1 A)],[]=>A.length<=140737488355328/\K (ac 0 0) [ω [.sl 1 0 A.length,.int Z 0],ζ 5 1 A]
 |_,_=>False
theorem NR:aT Tryz.prog 30 xu:=jP sR mixed (fun args kb K h=>by
 unfold xu at h;split at h<;>try exact h.elim
 exact⟨aM 30,aca _ K h⟩)
def xy:aH:=fun args kb K=>match args,kb with
 | [ac 0 0],[ω [.sl 1 lo h,.int Z e],ζ 5 1 A]=>∃ l:List Int,A=ints θ l/\h=l.length/\
  K (.int Z (fe (l.drop lo) e)) [ω [.sl 1 lo l.length,.int Z (fe (l.drop lo) e)],ζ 5 1 (ints θ l)]
 |_,_=>False
theorem NJ:aT Tryz.prog 35 xy:=eM sR mixed (fun args kb K h=>by
 unfold xy at h;split at h<;>try exact h.elim
 rename_i lo _ e _
 obtain⟨l,rfl,rfl,h⟩:=h
 have hd:l.drop lo=[] ↔ l.length - lo=0:=by rw[<- List.length_eq_zero_iff,fh]
 refine⟨aM 35,abv l lo e K ⟨fun hc=>⟨fun h0=>?_,fun h0=>?_⟩,fun hc=>?_⟩⟩
 ·simp only[decide_eq_true_eq]at hc
  simp only[beq_iff_eq]at h0
  unfold fe at h
  rw[if_pos ⟨fun hh=>by rw[hd]at hh;omega,h0⟩]at h
  exact h
 ·simp only[beq_eq_false_iff_ne,ne_eq]at h0
  unfold fe at h
  rw[if_neg (fun hh=>h0 hh.2)]at h
  exact h
 ·simp only[decide_eq_false_iff_not]at hc
  unfold fe at h
  rw[if_neg (fun hh=>hh.1 (hd.2 (by omega)))]at h
  exact h)
def BJ:aH:=fun args kb K=>match args,kb with
 | [ac 0 0],[ω [.sl 1 lo hi,.int Z e],ζ 5 1 A]=>K (.int Z e) [ω [.sl 1 lo hi,.int Z e],ζ 5 1 A]
 |_,_=>False
theorem Xd:aT Tryz.prog 65 BJ:=eM sR mixed (fun args kb K h=>by
 unfold BJ at h;split at h<;>try exact h.elim
 exact⟨aM 65,abz _ _ _ _ K h⟩)
def tO:FuncId->Option dw
 | 32=>some ⟨[],xA⟩
 | 37=>some ⟨[.kM,.fp 1],zw [.cell 0 0 5 1] BT⟩
 | 40=>some ⟨[],zw [.cell 0 0 5 1] BR⟩
 | 30=>some ⟨[.fp 1],xu⟩
 | 35=>some ⟨[],xy⟩
 | 65=>some ⟨[],BJ⟩
 |f=>zU f
theorem zR:dE Tryz.prog tO:=fun f k h=>by
 unfold tO at h
 split at h
 ·cases h;exact NW
 ·cases h;exact FB Yp _
 ·cases h;exact FB WS _
 ·cases h;exact NR
 ·cases h;exact NJ
 ·cases h;exact Xd
 ·exact OX _ _ h
def Gi:FuncId->Option dw:=tO
theorem OO:dE Tryz.prog Gi:=zR
end Go.Proofs.YtfcjngcnifdmnaaGreat
set_option linter.unusedSimpArgs false
set_option linter.unusedVariables false
namespace Vc
open Go Go.Shelf Go.Sort Go.RowKit Go.Proofs
open Go.IntKind renaming i64->Z,u8->θ,u32->gq
open List renaming map->ι,drop->ν,take->ah,length_append->bw,getElem?_eq_getElem->bx,getElem?_eq_some_iff->bU,length_map->cg,Mem->ct,take_length->cN,replicate->cQ,length_take->cW,append_assoc->dQ,getElem?_append_right->ef,getElem?_append_left->eH,mem_cons->eP,append_nil->fg,length_drop->fh,getElem?_map->fG,mem_map->fH,take_of_length_le->fI,getElem?_set_ne->fR,mem_cons_of_mem->fS,mem_append->gl,mem_of_getElem?->gm,getElem?_eq_none->gA,getElem?_set_self->gB,length_set->gC,range->gD,drop_zero->gK,mem_singleton->gY,flatten_cons->im,length_cons->io,mem_cons_self->iA,getElem?_take_of_lt->jj,length_nil->jk,nil_append->jm,getElem?_drop->jB,map_append->jC,take_add_one->jY,ext_getElem?->km,getD_eq_getElem?_getD->kn,length_singleton->ko,eq_nil_of_length_eq_zero->kG,mem_append_left->lR,mem_filter->lS
open Go.Value renaming int->κ,slice->eI,bool->fa,map->gr,oneCell'->kq
open Nat renaming le_refl->aE,zero_le->bF,beq->bZ,eq_of_beq_eq_true->cy,zero_add->cL,add_assoc->fT,lor->gE,lt_or_ge->iX,sub_zero->kp
open Option renaming some->bh,bind_eq_some_iff->jF,map->jZ
open Int renaming toNat_natCast->dr,le_refl->gp
open Bool renaming and_eq_true->kE
theorem Inv.more {σ:Sg} {E:EH} {kb:KB} {W W':World} (h:Inv σ E kb W) (hos:W'.os=W.os) (rK:W'.tape=W.tape) (hout:W'.output=W.output) (hsz:W.heap.size<=W'.heap.size)
  (bX:∀ b,b<W.heap.size->W'.heap[b]? =W.heap[b]?):Step σ E kb W σ E kb W':=by
 refine⟨⟨h.len,fun i r o h1 h2=>?_,h.c9,fun b o hb=>?_,h.sep⟩,⟨hos,rK,hout,hsz,fun b hb _=>bX b hb⟩,⟨[],by simp⟩,EH.le.refl E,fun _ h=> .inl h,fun _ _ h=> .inl h⟩
 ·have ho:=h.obj i r o h1 h2
  have:=ho.mono (τ:=[]) (W':=W') (EH.le.refl E) (fun b hb=>bX b (ho.lt hb))
  simpa using this
 ·have:=h.cP b o hb
  rw[bX b ((Array.getElem?_eq_some_iff.1 this).1)];exact this
def mc (l:List Int):List Int:=l.mergeSort fun x y=>decide (x<=y)
theorem Z2 (l:List Int):(mc l).length=l.length:=(List.mergeSort_perm l _).length_eq
theorem Mt {E:EH} {k:IntKind}:∀(l:List Int),aY E (ints k l).flatten (l.map (κ k))
 | []=>by simp [ints,aY]
 |a::l=>by
  simp only[ints,List.map_cons,im,List.cons_append,jm,aY,bH]
  exact⟨_,_,rfl,⟨rfl,rfl⟩,by simpa [ints]using Mt l⟩
end Vc
set_option linter.unusedSimpArgs false
set_option linter.unusedVariables false
namespace Vc
open Go Go.Shelf Go.Sort Go.RowKit Go.Proofs Go.Maps
open Go.IntKind renaming i64->Z,u8->θ,u32->gq
open List renaming map->ι,drop->ν,take->ah,length_append->bw,getElem?_eq_getElem->bx,getElem?_eq_some_iff->bU,length_map->cg,Mem->ct,take_length->cN,replicate->cQ,length_take->cW,append_assoc->dQ,getElem?_append_right->ef,getElem?_append_left->eH,mem_cons->eP,append_nil->fg,length_drop->fh,getElem?_map->fG,mem_map->fH,take_of_length_le->fI,getElem?_set_ne->fR,mem_cons_of_mem->fS,mem_append->gl,mem_of_getElem?->gm,getElem?_eq_none->gA,getElem?_set_self->gB,length_set->gC,range->gD,drop_zero->gK,mem_singleton->gY,flatten_cons->im,length_cons->io,mem_cons_self->iA,getElem?_take_of_lt->jj,length_nil->jk,nil_append->jm,getElem?_drop->jB,map_append->jC,take_add_one->jY,ext_getElem?->km,getD_eq_getElem?_getD->kn,length_singleton->ko,eq_nil_of_length_eq_zero->kG,mem_append_left->lR,mem_filter->lS
open Go.Value renaming int->κ,slice->eI,bool->fa,map->gr,oneCell'->kq
open Nat renaming le_refl->aE,zero_le->bF,beq->bZ,eq_of_beq_eq_true->cy,zero_add->cL,add_assoc->fT,lor->gE,lt_or_ge->iX,sub_zero->kp
open Option renaming some->bh,bind_eq_some_iff->jF,map->jZ
open Int renaming toNat_natCast->dr,le_refl->gp
open Bool renaming and_eq_true->kE
def xq:aH:=fun args kb K=>match args,kb with
 | [.mp 0],[.mp aA aR agg sz M]=>K (.mp 1) [.mp aA aR agg sz M,.mp aA aR agg sz M]
 | [.any (.map none)],[]=>K (.any (.map none)) []
 | [.imp aA aR agg sz M],[]=>(M=[]->K (.any (.map none)) [])/\K (.mp 0) [.mp aA aR agg sz M]
 |_,_=>False
theorem Xu {P:Program} {ρ:Ren} (L:SlLaysW.n5 P ρ):aT P (ρ.f 5) xq:=fun args kb K h σ E W xs hi hd=>by
 unfold xq at h
 split at h<;>try exact h.elim
 ·rename_i aA aR agg sz M
  simp only[aw,Den]at hd
  obtain⟨x,xs',rfl,⟨r,hr,rfl⟩,rfl⟩:=hd
  obtain⟨h1,es,clock,h2,h3,h4⟩:=hi.obj 0 r _ hr rfl
  refine(AnyW.maps_Clone L r.blk es clock W h2).mono ?_
  rintro e W' ⟨rfl,rfl⟩
  have hlen:σ.length=1:=hi.len
  have ho:fv (σ++[⟨W.heap.size,0,0⟩]) E (W.alloc (.map es clock)) ⟨W.heap.size,0,0⟩ (.mp aA aR agg sz M):=
   ⟨h1,es,clock,(MapKept.heap_alloc W _).1,h3,h4⟩
  have hst:=hi.alloc (.map es clock) ⟨W.heap.size,0,0⟩ (.mp aA aR agg sz M) (fun b hb=>hb) ho
  refine⟨_,.mp 1,_,E,_,rfl,hst,?_,h⟩
  simp only[Den]
  exact⟨⟨W.heap.size,0,0⟩,by rw[ef (by omega),hlen];rfl,rfl⟩
 ·simp only[aw,Den]at hd
  obtain⟨x,xs',rfl,rfl,rfl⟩:=hd
  refine(AnyW.maps_Clone_nil L W).mono ?_
  rintro e W' ⟨rfl,rfl⟩
  exact⟨_,.any (.map none),σ,E,_,rfl,Step.refl hi,by simp only[Den],h⟩
 ·rename_i aA aR agg sz M
  simp only[aw,Den]at hd
  obtain⟨x,xs',rfl,⟨a,rfl,ha⟩,rfl⟩:=hd
  cases a with
  |none=>
   have ha:M=[]:=ha
   refine(AnyW.maps_Clone_nil L W).mono ?_
   rintro e W' ⟨rfl,rfl⟩
   exact⟨_,.any (.map none),σ,E,_,rfl,Step.refl hi,by simp only[Den],h.1 ha⟩
  |some b=>
   obtain⟨h1,es,clock,h2,h3,h4⟩:=ha
   refine(AnyW.maps_Clone L b es clock W (hi.cP b _ h2)).mono ?_
   rintro e W' ⟨rfl,rfl⟩
   have hlen:σ.length=0:=hi.len
   have ho:fv (σ++[⟨W.heap.size,0,0⟩]) E (W.alloc (.map es clock)) ⟨W.heap.size,0,0⟩ (.mp aA aR agg sz M):=
    ⟨h1,es,clock,(MapKept.heap_alloc W _).1,h3,h4⟩
   have hst:=hi.alloc (.map es clock) ⟨W.heap.size,0,0⟩ (.mp aA aR agg sz M) (fun b hb=>hb) ho
   refine⟨_,.mp 0,_,E,_,rfl,hst,?_,h.2⟩
   simp only[Den]
   exact⟨⟨W.heap.size,0,0⟩,by rw[ef (by omega),hlen];rfl,rfl⟩
def xr (g:FuncId):aH:=fun args kb K=>match args,kb with
 | [.mp 0],[.mp aA aR agg sz M]=>K (.fn g [.ptr 1 0]) [.mp aA aR agg sz M,.cells [.mp 0]]
 | [.any (.map none)],[]=>K (.fn g [.ptr 0 0]) [.cells [.any (.map none)]]
 | [.imp aA aR agg sz M],[]=>K (.fn g [.ptr 0 0]) [.cells [.imp aA aR agg sz M]]
 |_,_=>False
theorem Xw {P:Program} {ρ:Ren} (L:SlLaysZI.n7 P ρ):aT P (ρ.f 7) (xr (ρ.f 10)):=fun args kb K h σ E W xs hi hd=>by
 unfold xr at h
 split at h<;>try exact h.elim
 ·rename_i aA aR agg sz M
  simp only[aw,Den]at hd
  obtain⟨x,xs',rfl,⟨r,hr,rfl⟩,rfl⟩:=hd
  refine(callsIn_wide.1 (AnyZI.keys_in L Fence.wide 5 trivial rfl (some r.blk) W)).mono ?_
  rintro e W' ⟨rfl,rfl⟩
  have hlen:σ.length=1:=hi.len
  have hD:aS (σ++[⟨W.heap.size,0,0⟩]) E [V.mp 0] [gr (some r.blk)]:=
   aS.hU (by simp only[Den];exact⟨r,by rw[eH (by omega)];exact hr,rfl⟩) rfl aS.nil
  have hst:=hi.alloc (.cells #[.map (some r.blk)] (ρ.t 23)) ⟨W.heap.size,0,0⟩ (.cells [.mp 0]) (fun b hb=>hb) ⟨_,_,(MapKept.heap_alloc W _).1,hD⟩
  refine⟨_,.fn (ρ.f 10) [.ptr 1 0],_,E,_,rfl,hst,?_,h⟩
  simp only[Den,aw]
  exact⟨_,rfl,_,_,rfl,⟨⟨W.heap.size,0,0⟩,by rw[ef (by omega),hlen];rfl,rfl⟩,rfl⟩
 ·simp only[aw,Den]at hd
  obtain⟨x,xs',rfl,rfl,rfl⟩:=hd
  refine(callsIn_wide.1 (AnyZI.keys_in L Fence.wide 5 trivial rfl none W)).mono ?_
  rintro e W' ⟨rfl,rfl⟩
  have hlen:σ.length=0:=hi.len
  have hD:aS (σ++[⟨W.heap.size,0,0⟩]) E [V.any (.map none)] [gr none]:=
   aS.hU (by simp only[Den]) rfl aS.nil
  have hst:=hi.alloc (.cells #[.map none] (ρ.t 23)) ⟨W.heap.size,0,0⟩ (.cells [.any (.map none)]) (fun b hb=>hb) ⟨_,_,(MapKept.heap_alloc W _).1,hD⟩
  refine⟨_,.fn (ρ.f 10) [.ptr 0 0],_,E,_,rfl,hst,?_,h⟩
  simp only[Den,aw]
  exact⟨_,rfl,_,_,rfl,⟨⟨W.heap.size,0,0⟩,by rw[ef (by omega),hlen];rfl,rfl⟩,rfl⟩
 ·rename_i aA aR agg sz M
  simp only[aw,Den]at hd
  obtain⟨x,xs',rfl,⟨a,rfl,ha⟩,rfl⟩:=hd
  refine(callsIn_wide.1 (AnyZI.keys_in L Fence.wide 5 trivial rfl a W)).mono ?_
  rintro e W' ⟨rfl,rfl⟩
  have hlen:σ.length=0:=hi.len
  have hD:aS (σ++[⟨W.heap.size,0,0⟩]) E [V.imp aA aR agg sz M] [gr a]:=
   aS.hU (by simp only[Den];exact⟨a,rfl,ha⟩) rfl aS.nil
  have hst:=hi.alloc (.cells #[.map a] (ρ.t 23)) ⟨W.heap.size,0,0⟩ (.cells [.imp aA aR agg sz M]) (fun b hb=>hb) ⟨_,_,(MapKept.heap_alloc W _).1,hD⟩
  refine⟨_,.fn (ρ.f 10) [.ptr 0 0],_,E,_,rfl,hst,?_,h⟩
  simp only[Den,aw]
  exact⟨_,rfl,_,_,rfl,⟨⟨W.heap.size,0,0⟩,by rw[ef (by omega),hlen];rfl,rfl⟩,rfl⟩
structure qU (M:ML):Prop where
 one:∀ e∈M,∃ n,e.1=[n]/\-9223372036854775808<=n/\n<=9223372036854775807
 nd:(M.map (·.1)).Nodup
 len:M.length<=1000000
def gO (M:ML):List Int:=M.map fun e=>e.1.headD 0
theorem VS {M:ML} (h:qU M):(gO M).Nodup:=by
 unfold gO
 have h1:=h.nd
 have h2:=h.one
 clear h
 induction M with
 |nil=>simp
 |cons e M ih=>
  simp only[List.map_cons,List.nodup_cons]at h1 ⊢
  refine⟨fun hm=>h1.1 ?_,ih h1.2 (fun x hx=>h2 x (fS _ hx))⟩
  obtain⟨x,hx,he⟩:=fH.1 hm
  obtain⟨n,hn,_⟩:=h2 e iA
  obtain⟨m,hm',_⟩:=h2 x (fS _ hx)
  rw[hn,hm']at he
  simp only[List.headD_cons]at he
  exact fH.2 ⟨x,hx,by rw[hn,hm',he]⟩
def nT:Value->Option (DataW Unit×List MemPlace):=fun _=>some (.nil,[])
theorem KJ {E:EH} {agg:Bool}:∀{es:List MapEntry} {M:ML},cd E [Z] false agg es M->(∀ e∈M,∃ n,e.1=[n]/\-9223372036854775808<=n/\n<=9223372036854775807)->
  es.map (·.key)=(gO M).map (κ Z)/\es.length=M.length
 | [],M,h,_=>by simp only[cd]at h;subst h;exact⟨rfl,rfl⟩
 |e::es,M,h,hk=>by
  simp only[cd]at h
  obtain⟨k,c,l',rfl,⟨_,h2,_⟩,h4⟩:=h
  obtain⟨ih1,ih2⟩:=KJ h4 (fun x hx=>hk x (fS _ hx))
  obtain⟨n,hn,_⟩:=hk _ iA
  simp only at hn
  subst hn
  refine⟨?_,by simp [ih2]⟩
  simp only[List.map_cons,gO,ih1,h2]
  rfl
theorem acP {n:Int} (h1:-9223372036854775808<=n) (h2:n<=9223372036854775807):(Lit.int Z n).wf=true:=by
 have e1:Z.min=-9223372036854775808:=by decide
 have e2:Z.max=9223372036854775807:=by decide
 simp only[Lit.wf,kE,decide_eq_true_eq,e1,e2]
 exact⟨h1,h2⟩
theorem insert_perm {x:Lit×DataW Unit}:∀(l:List (Lit×DataW Unit)),(DataW.insert x l).Perm (x::l)
 | []=>List.Perm.refl _
 |y::r=>by
  simp only[DataW.insert]
  split
  ·exact List.Perm.refl _
  ·exact((insert_perm r).cons y).trans (List.Perm.swap x y r)
theorem K6 (l:List (Lit×DataW Unit)):(l.foldr DataW.insert []).Perm l:=by
 induction l with
 |nil=>exact List.Perm.refl _
 |cons x l ih=>exact(insert_perm _).trans (ih.cons x)
theorem YN {P:Program} {k:TypeId} (hk:P.underlying k=some (.int Z)) {E:EH} {agg:Bool} {es:Array MapEntry} {clock:Nat} {M:ML} (h:cd E [Z] false agg es.toList M) (hb:qS es.toList clock) (hM:qU M) {w:World} {b:Nat} (hw:w.heap[b]? =some (.map es clock)):
  ∃ D0:DataW Unit,w.ownsMap P k nT b es.size D0/\(intKeys D0).Perm (gO M)/\Maps.size D0=M.length:=by
 obtain⟨h1,h2⟩:=KJ h hM.one
 have Mb:∀ x∈es.toList,∃ n:Int,x.key= .int Z n/\Go.WideElems.rd P k nT x=some (.int Z n,.nil):=fun x hx=>by
  have hx':x.key∈es.toList.map (·.key):=fH.2 ⟨x,hx,rfl⟩
  rw[h1]at hx'
  obtain⟨n,hn,he⟩:=fH.1 hx'
  obtain⟨e,UA,Ed⟩:=fH.1 hn
  obtain⟨m,hm,b1,b2⟩:=hM.one e UA
  rw[hm]at Ed
  simp only[List.headD_cons]at Ed
  subst Ed
  refine⟨m,he.symm,?_⟩
  have hkey:keyOf P k x.key=some (.int Z m):=by
   rw[<- he]
   simp [keyOf,hk,mapKey,acP b1 b2]
  simp [Go.WideElems.rd,hkey,nT]
 have hnd:(es.toList.map (·.key)).Nodup:=by
  rw[h1]
  exact List.pairwise_map.2 ((VS hM).imp fun hne e=>hne (by simpa using e))
 have hF:Go.WideElems.Fit P k nT es clock:=⟨by
  have:=hM.len
  simp only[maxLen]
  simp only[Array.length_toList]at h2
  omega,⟨fun x hx=>hb.2 x hx,hb.1,hnd⟩,fun x hx=>by obtain⟨n,_,h3⟩:=Mb x hx;exact⟨_,h3⟩⟩
 refine⟨.map ((es.toList.map (Go.WideElems.rg P k nT)).foldr DataW.insert []),⟨es,clock,hw,hF,aE _,rfl⟩,?_,?_⟩
 ·show((List.foldr DataW.insert [] (es.toList.map (Go.WideElems.rg P k nT))).map fun p=>Go.intOf p.1).Perm _
  refine((K6 _).map _).trans ?_
  have e2:(es.toList.map (Go.WideElems.rg P k nT)).map (fun p=>Go.intOf p.1)=gO M:=by
   have e3:(es.toList.map (Go.WideElems.rg P k nT)).map (fun p=>κ Z (Go.intOf p.1))=es.toList.map (·.key):=by
    rw[List.map_map]
    refine List.map_congr_left fun x hx=>?_
    obtain⟨n,h3,h4⟩:=Mb x hx
    simp only[Function.comp,Go.WideElems.rg,h4,Option.getD_some,Go.intOf,h3]
   rw[h1]at e3
   have e4:((es.toList.map (Go.WideElems.rg P k nT)).map (fun p=>Go.intOf p.1)).map (κ Z)=(gO M).map (κ Z):=by rw[List.map_map];exact e3
   exact(List.map_inj_right (fun a b e=>by simpa using e)).1 e4
  rw[e2]
 ·show(List.foldr DataW.insert [] (es.toList.map (Go.WideElems.rg P k nT))).length=_
  rw[(K6 _).length_eq,cg]
  exact h2
def xE (g:FuncId) (ty:TypeId):aH:=fun args kb K=>match args,kb with
 | [.fn g' [.ptr 0 0]],[.cells [.mp 1],.mp aA aR agg sz M]=>g'=g/\aA=[Z]/\aR=false/\qU M/\(M=[]->K (.any (.slice none 0 0)) [.cells [.mp 1],.mp aA aR agg sz M])/\
  K (.sl 2 0 M.length) [.cells [.mp 1],.mp aA aR agg sz M,.row ty 1 (ints Z (mc (gO M)))]
 | [.fn g' [.ptr 0 0]],[.cells [.any (.map none)]]=>g'=g/\K (.any (.slice none 0 0)) [.cells [.any (.map none)]]
 | [.fn g' [.ptr 0 0]],[.cells [.imp aA aR agg sz M]]=>g'=g/\aA=[Z]/\aR=false/\qU M/\(M=[]->K (.any (.slice none 0 0)) [.cells [.imp aA aR agg sz M]])/\
  K (.sl 1 0 M.length) [.cells [.imp aA aR agg sz M],.row ty 1 (ints Z (mc (gO M)))]
 |_,_=>False
theorem Pv {a b:List Int} (h:a.Perm b):mc a=mc b:=mergeSort_of_perm_i h
theorem Py {P:Program} {jy iV:Ren} (Lk:SlLaysZI.n10 P jy) (Ls:SlLaysZI.n6 P iV) (hs:∀ m,AnyZI.SortsIn P iV Fence.wide m)
  (e9:∀ args w,(callFunc (iV.f 9) args).run P w= .ok (.enter (iV.f 9) args) w) (eg:∀ args w,(callFunc (jy.f 10) args).run P w= .ok (.enter (jy.f 10) args) w)
  {W:World} {E:EH} {rb b:Nat} {agg:Bool} {es:Array MapEntry} {clock:Nat} {M:ML} (hlt:rb<W.heap.size) (hcell:W.cell? ⟨rb,0,none⟩=some (.map (some b))) (m2:W.heap[b]? =some (.map es clock)) (m3:cd E [Z] false agg es.toList M) (m4:qS es.toList clock) (hM:qU M):
  Calls P (iV.f 6) #[.func (.func (jy.f 10)) #[] #[.pointer (some ⟨rb,0,none⟩)]] W fun e W'=>∃ v,e= .returned v/\RowKit.Below W.heap.size W W'/\((M=[]/\v= .slice none 0 0)∨
   ∃ gb cap,v= .slice (some ⟨gb,0,none⟩) M.length cap/\M.length<=cap/\W.heap.size<=gb/\fv [] E W' ⟨gb,cap,1⟩ (.row (iV.t 26) 1 (ints Z (mc (gO M))))):=by
 obtain⟨D0,o1,o2,o3⟩:=YN Lk.t26 m3 m4 hM m2
 have hseq:SeqGives Fence.wide 2 P (jy.f 10) #[.pointer (some ⟨rb,0,none⟩)] encZ (fun ss=>ss.Perm (intKeys D0)) (Maps.size D0) W:=
  AnyZI.keys_gives Lk Fence.wide _ trivial rfl (by omega) rb b es.size D0 W hlt hcell o1
 have hlen:=hM.len
 have cS:=AnyZI.sorted_in Ls Fence.wide 5 trivial trivial trivial trivial rfl (by omega) (hs _) e9 (jy.f 10) #[.pointer (some ⟨rb,0,none⟩)] trivial eg _ _ (by rw[o3];simp only[maxLen];omega) (by rw[o3];omega) W hseq
 refine(callsIn_wide.1 cS).mono ?_
 rintro e W' ⟨v,ss,rfl,hS,hrow,Mi,bX⟩
 have hp:ss.Perm (gO M):=hS.trans o2
 have jq:ss.length=M.length:=by rw[hp.length_eq];unfold gO;rw[cg]
 rcases hrow.2 with ⟨rfl,hz⟩ | ⟨gb,cap,cur,rfl,hbase,UJ,c1,c2,c3,c4⟩
 ·exact⟨_,rfl,bX,.inl ⟨kG (by omega),rfl⟩⟩
 ·have hss:ss.mergeSort (fun x y=>decide (x<=y))=mc (gO M):=Pv hp
  have Md:(mc (gO M)).length=M.length:=by rw[Z2];unfold gO;rw[cg]
  refine⟨_,rfl,bX,.inr ⟨gb,cap,by rw[jq],by omega,by omega,rfl,fun e he=>by simp only[ints,fH]at he;obtain⟨_,_,rfl⟩:=he;rfl,by rw[be,Md];simp only;omega,c2,.inr ⟨cur,UJ,by simp only;omega,?_⟩⟩⟩
  rw[be,Md,<- jq]
  simp only[Nat.mul_one]at c4 ⊢
  rw[c4,hss]
  exact Mt _
theorem Pz {P:Program} {jy iV:Ren} (Lk:SlLaysZI.n10 P jy) (Ls:SlLaysZI.n6 P iV) (hs:∀ m,AnyZI.SortsIn P iV Fence.wide m)
  (e9:∀ args w,(callFunc (iV.f 9) args).run P w= .ok (.enter (iV.f 9) args) w) (eg:∀ args w,(callFunc (jy.f 10) args).run P w= .ok (.enter (jy.f 10) args) w)
  {W:World} {rb:Nat} (hlt:rb<W.heap.size) (hcell:W.cell? ⟨rb,0,none⟩=some (.map none)):
  Calls P (iV.f 6) #[.func (.func (jy.f 10)) #[] #[.pointer (some ⟨rb,0,none⟩)]] W fun e W'=>e= .returned (.slice none 0 0)/\RowKit.Below W.heap.size W W':=by
 have hseq:SeqGives Fence.wide 2 P (jy.f 10) #[.pointer (some ⟨rb,0,none⟩)] encZ (fun ss:List Int=>ss=[]) 0 W:=
  AnyZI.keys_gives_nil Lk Fence.wide _ trivial rfl rb W hlt hcell
 have cS:=AnyZI.sorted_in Ls Fence.wide 5 trivial trivial trivial trivial rfl (by omega) (hs _) e9 (jy.f 10) #[.pointer (some ⟨rb,0,none⟩)] trivial eg _ 0 (bF _) (by omega) W hseq
 refine(callsIn_wide.1 cS).mono ?_
 rintro e W' ⟨v,ss,rfl,hS,hrow,Mi,bX⟩
 exact⟨by rw[Mi.2 hS],bX⟩
theorem CL {σ:Sg} {E:EH} {W:World} {kb:KB} (hi:Inv σ E kb W) {r:Re} (hr:σ[0]? =some r) {v:V} (hk:kb[0]? =some (.cells [v])) (hna:∀ m cs,v≠.arr m cs):∃ y,Den σ E v y/\W.cell? ⟨r.blk,0,none⟩=some y/\r.blk<W.heap.size:=by
 obtain⟨arr,ty',k1,k2⟩:=hi.obj 0 r _ hr hk
 obtain⟨zs,zs',k3,k4,k5⟩:=k2.gx
 simp only[aS]at k5
 subst k5
 rcases k4 with ⟨y,rfl,_,k4⟩ | ⟨m,cs,e,_,_⟩
 ·refine⟨y,k4,?_,(Array.getElem?_eq_some_iff.1 k1).1⟩
  have:arr=#[y]:=by apply Array.ext';rw[k3];rfl
  rw[sS k1,this];rfl
 ·exact(hna _ _ e).elim
theorem X_ {P:Program} {jy iV:Ren} (Lk:SlLaysZI.n10 P jy) (Ls:SlLaysZI.n6 P iV) (hs:∀ m,AnyZI.SortsIn P iV Fence.wide m)
  (e9:∀ args w,(callFunc (iV.f 9) args).run P w= .ok (.enter (iV.f 9) args) w) (eg:∀ args w,(callFunc (jy.f 10) args).run P w= .ok (.enter (jy.f 10) args) w):
  aT P (iV.f 6) (xE (jy.f 10) (iV.t 26)):=fun args kb K h σ E W xs hi hd=>by
 unfold xE at h
 split at h<;>try exact h.elim
 ·rename_i g' aA aR agg sz M
  obtain⟨rfl,rfl,rfl,hM,hnil,h⟩:=h
  simp only[aw,Den]at hd
  obtain⟨x,xs',rfl,⟨vs,rfl,y,ys,rfl,⟨r,hr,rfl⟩,rfl⟩,rfl⟩:=hd
  obtain⟨y,k4,hcell,hlt⟩:=CL hi hr rfl (fun _ _ e=>by cases e)
  simp only[Den]at k4
  obtain⟨r1,Ve,rfl⟩:=k4
  obtain⟨m1,es,clock,m2,m3,m4⟩:=hi.obj 1 r1 _ Ve rfl
  refine(Py Lk Ls hs e9 eg hlt hcell m2 m3 m4 hM).mono ?_
  rintro e W' ⟨v,rfl,bX,⟨DX,rfl⟩ | ⟨gb,cap,rfl,c1,c2,c3⟩⟩
  ·exact⟨_,.any (.slice none 0 0),σ,E,_,rfl,hi.more bX.os bX.tape bX.output bX.size bX.block,by simp only[Den],hnil DX⟩
  ·have hgrow:=hi.grow (W':=W') ⟨gb,cap,1⟩ (.row (iV.t 26) 1 (ints Z (mc (gO M)))) bX.os bX.tape bX.output bX.size bX.block (fun b hb=>by have:=hb.2;simp only at this;omega) c3
   refine⟨_,.sl 2 0 M.length,_,E,_,rfl,hgrow,?_,h⟩
   simp only[Den]
   exact⟨⟨gb,cap,1⟩,some ⟨gb,0,none⟩,by rw[ef (by rw[hi.len];exact aE _),hi.len];rfl,rfl,bF _,c1,fun _=>by simp⟩
 ·rename_i g'
  obtain⟨rfl,h⟩:=h
  simp only[aw,Den]at hd
  obtain⟨x,xs',rfl,⟨vs,rfl,y,ys,rfl,⟨r,hr,rfl⟩,rfl⟩,rfl⟩:=hd
  obtain⟨y,k4,hcell,hlt⟩:=CL hi hr rfl (fun _ _ e=>by cases e)
  simp only[Den]at k4
  subst k4
  refine(Pz Lk Ls hs e9 eg hlt hcell).mono ?_
  rintro e W' ⟨rfl,bX⟩
  exact⟨_,.any (.slice none 0 0),σ,E,_,rfl,hi.more bX.os bX.tape bX.output bX.size bX.block,by simp only[Den],h⟩
 ·rename_i g' aA aR agg sz M
  obtain⟨rfl,rfl,rfl,hM,hnil,h⟩:=h
  simp only[aw,Den]at hd
  obtain⟨x,xs',rfl,⟨vs,rfl,y,ys,rfl,⟨r,hr,rfl⟩,rfl⟩,rfl⟩:=hd
  obtain⟨y,k4,hcell,hlt⟩:=CL hi hr rfl (fun _ _ e=>by cases e)
  simp only[Den]at k4
  obtain⟨a,rfl,ha⟩:=k4
  cases a with
  |none=>
   refine(Pz Lk Ls hs e9 eg hlt hcell).mono ?_
   rintro e W' ⟨rfl,bX⟩
   exact⟨_,.any (.slice none 0 0),σ,E,_,rfl,hi.more bX.os bX.tape bX.output bX.size bX.block,by simp only[Den],hnil ha⟩
  |some b=>
   obtain⟨m1,es,clock,m2,m3,m4⟩:=ha
   refine(Py Lk Ls hs e9 eg hlt hcell (hi.cP b _ m2) m3 m4 hM).mono ?_
   rintro e W' ⟨v,rfl,bX,⟨DX,rfl⟩ | ⟨gb,cap,rfl,c1,c2,c3⟩⟩
   ·exact⟨_,.any (.slice none 0 0),σ,E,_,rfl,hi.more bX.os bX.tape bX.output bX.size bX.block,by simp only[Den],hnil DX⟩
   ·have hgrow:=hi.grow (W':=W') ⟨gb,cap,1⟩ (.row (iV.t 26) 1 (ints Z (mc (gO M)))) bX.os bX.tape bX.output bX.size bX.block (fun b hb=>by have:=hb.2;simp only at this;omega) c3
    refine⟨_,.sl 1 0 M.length,_,E,_,rfl,hgrow,?_,h⟩
    simp only[Den]
    exact⟨⟨gb,cap,1⟩,some ⟨gb,0,none⟩,by rw[ef (by rw[hi.len];exact aE _),hi.len];rfl,rfl,bF _,c1,fun _=>by simp⟩
end Vc
namespace Go.Proofs.YtfcjngcnifdmnaaGreat
open Go.Shelf
open Go.IntKind renaming i64->Z,u8->θ,u32->gq
open Vc.V renaming any->γ,int->δ,sl->ε,sb->ξ,ptr->ac,dat->an,υ->ar,ae->aG,mp->aV,arr->bc,agg->cF
open Vc.KO renaming row->ζ,dead->ο,cells->ω,objs->bE
open Vc.D renaming val->η,sl->π
open List renaming map->ι,drop->ν,take->ah,length_append->bw,getElem?_eq_getElem->bx,getElem?_eq_some_iff->bU,length_map->cg,Mem->ct,take_length->cN,replicate->cQ,length_take->cW,append_assoc->dQ,getElem?_append_right->ef,getElem?_append_left->eH,mem_cons->eP,append_nil->fg,length_drop->fh,getElem?_map->fG,mem_map->fH,take_of_length_le->fI,getElem?_set_ne->fR,mem_cons_of_mem->fS,mem_append->gl,mem_of_getElem?->gm,getElem?_eq_none->gA,getElem?_set_self->gB,length_set->gC,range->gD,drop_zero->gK,mem_singleton->gY,flatten_cons->im,length_cons->io,mem_cons_self->iA,getElem?_take_of_lt->jj,length_nil->jk,nil_append->jm,getElem?_drop->jB,map_append->jC,take_add_one->jY,ext_getElem?->km,getD_eq_getElem?_getD->kn,length_singleton->ko,eq_nil_of_length_eq_zero->kG,mem_append_left->lR,mem_filter->lS
open Go.Value renaming int->κ,slice->eI,bool->fa,map->gr,oneCell'->kq
open Nat renaming le_refl->aE,zero_le->bF,beq->bZ,eq_of_beq_eq_true->cy,zero_add->cL,add_assoc->fT,lor->gE,lt_or_ge->iX,sub_zero->kp
open Option renaming some->bh,bind_eq_some_iff->jF,map->jZ
open Int renaming toNat_natCast->dr,le_refl->gp
open Bool renaming and_eq_true->kE
def Mz:Go.Shelf.Ren:=⟨fun | 7=>98 | 10=>114 | n=>n,fun | 23=>82 | 26=>3 | 3=>133 | 28=>162 | 0=>0 | 27=>161 | 33=>135 | 4=>4 | n=>n,fun | n=>n⟩
theorem gO:Go.Proofs.SlLaysZI.n7 Tryz.prog Mz:={
 mixed:=by kernel_rfl
 f7:=⟨Tryz.f98.name,by decide,Tryz.func98.trans (congrArg some (by kernel_rfl))⟩
 f10:=⟨Tryz.f114.name,by decide,Tryz.func114.trans (congrArg some (by kernel_rfl))⟩
 t0:=Tryz.underlying0
 a0:=Tryz.isAgg0
 z0:=Tryz.sizeOf0
 v0:=Tryz.zeroValue0
 t4:=Tryz.underlying4
 a4:=Tryz.isAgg4
 z4:=Tryz.sizeOf4
 v4:=Tryz.zeroValue4
 t23:=Tryz.underlying82
 a23:=Tryz.isAgg82
 z23:=Tryz.sizeOf82
 v23:=Tryz.zeroValue82
 t26:=Tryz.underlying3
 a26:=Tryz.isAgg3
 z26:=Tryz.sizeOf3
 v26:=Tryz.zeroValue3
 t27:=Tryz.underlying161
 a27:=Tryz.isAgg161
 z27:=Tryz.sizeOf161
 v27:=Tryz.zeroValue161
 t28:=Tryz.underlying162
 a28:=Tryz.isAgg162
 z28:=Tryz.sizeOf162
 v28:=Tryz.zeroValue162
 t33:=Tryz.underlying135
 a33:=Tryz.isAgg135
 z33:=Tryz.sizeOf135
 v33:=Tryz.zeroValue135 }
def Px:Go.Shelf.Ren:=⟨fun | 6=>97 | 8=>112 | 9=>113 | 11=>117 | 13=>119 | 12=>118 | 23=>129 | 24=>130 | 14=>120 | 15=>121 | 16=>122 | 17=>123 | 18=>124 | 19=>125 | 20=>126 | 21=>127 | 22=>128 | 25=>131 | 26=>132 | 27=>133 | 28=>134 | 29=>135 | 30=>136 | 31=>137 | n=>n,fun | 26=>3 | 28=>162 | 24=>38 | 0=>0 | 3=>3 | 37=>129 | 48=>52 | 50=>193 | 4=>4 | 40=>186 | 39=>185 | 45=>173 | 5=>5 | 9=>9 | 51=>194 | 55=>198 | 57=>200 | 58=>43 | 33=>135 | n=>n,fun | n=>n⟩
theorem Z4:Go.Proofs.SlLaysZI.n6 Tryz.prog Px:={
 mixed:=by kernel_rfl
 f6:=⟨Tryz.f97.name,by decide,Tryz.func97.trans (congrArg some (by kernel_rfl))⟩
 f8:=⟨Tryz.f112.name,by decide,Tryz.func112.trans (congrArg some (by kernel_rfl))⟩
 f11:=⟨Tryz.f117.name,by decide,Tryz.func117.trans (congrArg some (by kernel_rfl))⟩
 t0:=Tryz.underlying0
 a0:=Tryz.isAgg0
 z0:=Tryz.sizeOf0
 v0:=Tryz.zeroValue0
 t24:=Tryz.underlying38
 a24:=Tryz.isAgg38
 z24:=Tryz.sizeOf38
 v24:=Tryz.zeroValue38
 t26:=Tryz.underlying3
 a26:=Tryz.isAgg3
 z26:=Tryz.sizeOf3
 v26:=Tryz.zeroValue3
 t28:=Tryz.underlying162
 a28:=Tryz.isAgg162
 z28:=Tryz.sizeOf162
 v28:=Tryz.zeroValue162
 i26:=by kernel_rfl }
def Z3:Go.Shelf.Ren:=⟨fun | 5=>113 | 8=>119 | 7=>118 | 19=>129 | 20=>130 | 10=>120 | 11=>121 | 12=>122 | 13=>123 | 14=>124 | 15=>125 | 16=>126 | 17=>127 | 18=>128 | 30=>131 | 31=>132 | 32=>133 | 33=>134 | 34=>135 | 35=>136 | 40=>137 | n=>n,fun | 23=>38 | 25=>3 | 3=>3 | 32=>129 | 22=>38 | 0=>0 | 44=>52 | 46=>193 | 4=>4 | 36=>186 | 35=>185 | 41=>173 | 5=>5 | 9=>9 | 53=>194 | 57=>198 | 63=>200 | 64=>43 | n=>n,fun | n=>n⟩
theorem Pw:Go.Proofs.SlLaysM.n5 Tryz.prog Z3:={
 mixed:=by kernel_rfl
 f5:=⟨Tryz.f113.name,by decide,Tryz.func113.trans (congrArg some (by kernel_rfl))⟩
 f7:=⟨Tryz.f118.name,by decide,Tryz.func118.trans (congrArg some (by kernel_rfl))⟩
 f8:=Tryz.func119.trans (congrArg some (by kernel_rfl))
 f10:=⟨Tryz.f120.name,by decide,Tryz.func120.trans (congrArg some (by kernel_rfl))⟩
 f11:=⟨Tryz.f121.name,by decide,Tryz.func121.trans (congrArg some (by kernel_rfl))⟩
 f12:=⟨Tryz.f122.name,by decide,Tryz.func122.trans (congrArg some (by kernel_rfl))⟩
 f13:=⟨Tryz.f123.name,by decide,Tryz.func123.trans (congrArg some (by kernel_rfl))⟩
 f14:=⟨Tryz.f124.name,by decide,Tryz.func124.trans (congrArg some (by kernel_rfl))⟩
 f15:=⟨Tryz.f125.name,by decide,Tryz.func125.trans (congrArg some (by kernel_rfl))⟩
 f16:=⟨Tryz.f126.name,by decide,Tryz.func126.trans (congrArg some (by kernel_rfl))⟩
 f17:=⟨Tryz.f127.name,by decide,Tryz.func127.trans (congrArg some (by kernel_rfl))⟩
 f18:=⟨Tryz.f128.name,by decide,Tryz.func128.trans (congrArg some (by kernel_rfl))⟩
 f19:=Tryz.func129.trans (congrArg some (by kernel_rfl))
 f20:=Tryz.func130.trans (congrArg some (by kernel_rfl))
 f30:=⟨Tryz.f131.name,by decide,Tryz.func131.trans (congrArg some (by kernel_rfl))⟩
 f31:=Tryz.func132.trans (congrArg some (by kernel_rfl))
 f32:=Tryz.func133.trans (congrArg some (by kernel_rfl))
 f33:=⟨Tryz.f134.name,by decide,Tryz.func134.trans (congrArg some (by kernel_rfl))⟩
 f34:=⟨Tryz.f135.name,by decide,Tryz.func135.trans (congrArg some (by kernel_rfl))⟩
 f35:=⟨Tryz.f136.name,by decide,Tryz.func136.trans (congrArg some (by kernel_rfl))⟩
 f40:=⟨Tryz.f137.name,by decide,Tryz.func137.trans (congrArg some (by kernel_rfl))⟩
 t0:=Tryz.underlying0
 a0:=Tryz.isAgg0
 z0:=Tryz.sizeOf0
 v0:=Tryz.zeroValue0
 t3:=Tryz.underlying3
 a3:=Tryz.isAgg3
 z3:=Tryz.sizeOf3
 v3:=Tryz.zeroValue3
 t4:=Tryz.underlying4
 a4:=Tryz.isAgg4
 z4:=Tryz.sizeOf4
 v4:=Tryz.zeroValue4
 t5:=Tryz.underlying5
 a5:=Tryz.isAgg5
 z5:=Tryz.sizeOf5
 v5:=Tryz.zeroValue5
 t9:=Tryz.underlying9
 a9:=Tryz.isAgg9
 z9:=Tryz.sizeOf9
 v9:=Tryz.zeroValue9
 t22:=Tryz.underlying38
 a22:=Tryz.isAgg38
 z22:=Tryz.sizeOf38
 v22:=Tryz.zeroValue38
 t23:=Tryz.underlying38
 a23:=Tryz.isAgg38
 z23:=Tryz.sizeOf38
 v23:=Tryz.zeroValue38
 t25:=Tryz.underlying3
 a25:=Tryz.isAgg3
 z25:=Tryz.sizeOf3
 v25:=Tryz.zeroValue3
 t32:=Tryz.underlying129
 a32:=Tryz.isAgg129
 z32:=Tryz.sizeOf129
 v32:=Tryz.zeroValue129
 t35:=Tryz.underlying185
 a35:=Tryz.isAgg185
 z35:=Tryz.sizeOf185
 v35:=Tryz.zeroValue185
 t36:=Tryz.underlying186
 a36:=Tryz.isAgg186
 z36:=Tryz.sizeOf186
 v36:=Tryz.zeroValue186
 t41:=Tryz.underlying173
 a41:=Tryz.isAgg173
 z41:=Tryz.sizeOf173
 v41:=Tryz.zeroValue173
 t44:=Tryz.underlying52
 a44:=Tryz.isAgg52
 z44:=Tryz.sizeOf52
 v44:=Tryz.zeroValue52
 t46:=Tryz.underlying193
 a46:=Tryz.isAgg193
 z46:=Tryz.sizeOf193
 v46:=Tryz.zeroValue193
 t53:=Tryz.underlying194
 a53:=Tryz.isAgg194
 z53:=Tryz.sizeOf194
 v53:=Tryz.zeroValue194
 t57:=Tryz.underlying198
 a57:=Tryz.isAgg198
 z57:=Tryz.sizeOf198
 v57:=Tryz.zeroValue198
 t63:=Tryz.underlying200
 a63:=Tryz.isAgg200
 z63:=Tryz.sizeOf200
 v63:=Tryz.zeroValue200
 t64:=Tryz.underlying43
 a64:=Tryz.isAgg43
 z64:=Tryz.sizeOf43
 v64:=Tryz.zeroValue43 }
def S3:Go.Shelf.Ren:=⟨fun | 5=>96 | 7=>111 | n=>n,fun | 23=>82 | 25=>3 | 3=>133 | 4=>4 | 20=>20 | n=>n,fun | n=>n⟩
theorem S2:Go.Proofs.SlLaysW.n5 Tryz.prog S3:={
 mixed:=by kernel_rfl
 f5:=⟨Tryz.f96.name,by decide,Tryz.func96.trans (congrArg some (by kernel_rfl))⟩
 f7:=Tryz.func111.trans (congrArg some (by kernel_rfl))
 t4:=Tryz.underlying4
 a4:=Tryz.isAgg4
 z4:=Tryz.sizeOf4
 v4:=Tryz.zeroValue4
 t20:=Tryz.underlying20
 a20:=Tryz.isAgg20
 z20:=Tryz.sizeOf20
 v20:=Tryz.zeroValue20
 t23:=Tryz.underlying82
 a23:=Tryz.isAgg82
 z23:=Tryz.sizeOf82
 v23:=Tryz.zeroValue82 }
theorem Z5 (m:Nat):AnyZI.SortsIn Tryz.prog Px Fence.wide m:=
 ⟨fun blk off cap ss W hH hblk hsz=>callsIn_wide.2 (AnyM.slices_Sort_int Pw blk off cap ss W hH hblk hsz),fun p cap W=>callsIn_wide.2 (AnyM.slices_Sort_int_none Pw p cap W)⟩
theorem Xt:Vc.aT Tryz.prog 96 Vc.xq:=Vc.Xu S2
theorem Xv:Vc.aT Tryz.prog 98 (Vc.xr 114):=Vc.Xw gO
theorem X9:Vc.aT Tryz.prog 97 (Vc.xE 114 3):=Vc.X_ (jy:=Mz) {gO with } Z4 Z5 (enters_of Tryz.func113 (by kernel_rfl) rfl) (enters_of Tryz.func114 (by kernel_rfl) rfl)
end Go.Proofs.YtfcjngcnifdmnaaGreat
namespace Go.Proofs.YtfcjngcnifdmnaaGreat
open Vc Go
open Go.IntKind renaming i64->Z,u8->θ,u32->gq
open Vc.V renaming any->γ,int->δ,sl->ε,sb->ξ,ptr->ac,dat->an,υ->ar,ae->aG,mp->aV,arr->bc,agg->cF
open Vc.KO renaming row->ζ,dead->ο,cells->ω,objs->bE
open Vc.D renaming val->η,sl->π
open List renaming map->ι,drop->ν,take->ah,length_append->bw,getElem?_eq_getElem->bx,getElem?_eq_some_iff->bU,length_map->cg,Mem->ct,take_length->cN,replicate->cQ,length_take->cW,append_assoc->dQ,getElem?_append_right->ef,getElem?_append_left->eH,mem_cons->eP,append_nil->fg,length_drop->fh,getElem?_map->fG,mem_map->fH,take_of_length_le->fI,getElem?_set_ne->fR,mem_cons_of_mem->fS,mem_append->gl,mem_of_getElem?->gm,getElem?_eq_none->gA,getElem?_set_self->gB,length_set->gC,range->gD,drop_zero->gK,mem_singleton->gY,flatten_cons->im,length_cons->io,mem_cons_self->iA,getElem?_take_of_lt->jj,length_nil->jk,nil_append->jm,getElem?_drop->jB,map_append->jC,take_add_one->jY,ext_getElem?->km,getD_eq_getElem?_getD->kn,length_singleton->ko,eq_nil_of_length_eq_zero->kG,mem_append_left->lR,mem_filter->lS
open Go.Value renaming int->κ,slice->eI,bool->fa,map->gr,oneCell'->kq
open Nat renaming le_refl->aE,zero_le->bF,beq->bZ,eq_of_beq_eq_true->cy,zero_add->cL,add_assoc->fT,lor->gE,lt_or_ge->iX,sub_zero->kp
open Option renaming some->bh,bind_eq_some_iff->jF,map->jZ
open Int renaming toNat_natCast->dr,le_refl->gp
open Bool renaming and_eq_true->kE
set_option linter.unusedVariables false
set_option linter.unusedSimpArgs false
set_option maxRecDepth 100000
abbrev L3:=Int×Int×Int
def m7 (p:L3):List Int×List D:=([p.1],[dn Z p.2.1,dn Z p.2.2])
structure bG (M:ML) (x:List L3):Prop where
 perm:M.Perm (x.map m7)
 inc:x.Pairwise (fun a b=>a.1<b.1)
 rg:∀ p∈x,0<=p.1/\p.1<=255/\1<=p.2.1/\p.2.1<=1099511627776/\0<=p.2.2/\p.2.2<=63
 len:x.length<=32
def my:List L3->Int->Option Nat
 | [],_=>none
 |p::l,c=>if p.1=c then some 0 else(my l c).map (·+1)
def g3 (x:List L3) (i:Nat):L3:=x.getD i (0,0,0)
def jL (x:List L3) (c:Int):Option (Int×Int):=(my x c).map fun i=>(g3 x i).2
def cz (x:List L3) (c n e:Int):Int:=
 if c<0∨255<c∨n<1∨1099511627776<n∨e<0∨63<e then 1 else match jL x c with
 |some q=>if n<=q.1 then 13 else 0
 |none=>if 32<=x.length then 6 else 0
def nI (x:List L3) (c n e:Int):List L3:=x.filter (fun p=>decide (p.1<c))++(c,n,e)::x.filter (fun p=>decide (c<p.1))
def g_ (x:List L3) (c n:Int):Int:=match jL x c with
 |none=>0
 |some q=>if q.1<n then 0 else if n=q.1 then 1 else 2
def oV (x:List L3) (c n:Int):Int:=match jL x c with
 |none=>0
 |some q=>if n=q.1 then q.2 else 0
structure kH (n:Int):Prop where
 h:n≠0
structure kF (n:Int):Prop where
 h:n=0
abbrev ai (M:ML):V:=.imp [Z] false true 2 M
def xx:aH:=fun args kb K=>match args,kb with
 | [ac 0 0,.int Z c,.int Z n,.int Z e],[ω [.imp [Z] false true 2 M]]=>∃ x,bG M x/\
  (kH (cz x c n e)->K (.int Z (cz x c n e)) [ω [ai M]])/\(kF (cz x c n e)->K (.int Z 0) [ω [ai (av M [c] [dn Z n,dn Z e])]])
 |_,_=>False
def BH:aH:=fun args kb K=>match args,kb with
 | [ac 0 134,.int Z c,.int Z n,.int Z e],[ω [γ a0,γ a1,γ a2,γ a3,γ a4,γ a5,bc 128 C,.imp [Z] false true 2 M,γ a8,γ a9,γ aB,γ aX,γ a12,γ aJ,γ χ,γ ψ,γ aP,γ aC,γ aI,γ aD,γ a20,γ a21]]=>∃ x,bG M x/\
  (kH (cz x c n e)->K (.int Z (cz x c n e)) [ω [γ a0,γ a1,γ a2,γ a3,γ a4,γ a5,bc 128 C,ai M,γ a8,γ a9,γ aB,γ aX,γ a12,γ aJ,γ χ,γ ψ,γ aP,γ aC,γ aI,γ aD,γ a20,γ a21]])/\(kF (cz x c n e)->K (.int Z 0) [ω [γ a0,γ a1,γ a2,γ a3,γ a4,γ a5,bc 128 C,ai (av M [c] [dn Z n,dn Z e]),γ a8,γ a9,γ aB,γ aX,γ a12,γ aJ,γ χ,γ ψ,γ aP,γ aC,γ aI,γ aD,γ a20,γ a21]])
 |_,_=>False
def Bm:aH:=fun args kb K=>match args,kb with
 | [ac 0 134,.int Z c,.int Z n],[ω [γ a0,γ a1,γ a2,γ a3,γ a4,γ a5,bc 128 C,.imp [Z] false true 2 M,γ a8,γ a9,γ aB,γ aX,γ a12,γ aJ,γ χ,γ ψ,γ aP,γ aC,γ aI,γ aD,γ a20,γ a21]]=>∃ x,bG M x/\K (.υ [.int Z (g_ x c n),.int Z (oV x c n)]) [ω [γ a0,γ a1,γ a2,γ a3,γ a4,γ a5,bc 128 C,ai M,γ a8,γ a9,γ aB,γ aX,γ a12,γ aJ,γ χ,γ ψ,γ aP,γ aC,γ aI,γ aD,γ a20,γ a21]]
 |_,_=>False
def Bp:aH:=fun args kb K=>match args,kb with
 | [ac 0 134],[ω [γ a0,γ a1,γ a2,γ a3,γ a4,γ a5,bc 128 C,.imp [Z] false true 2 M,γ a8,γ a9,γ aB,γ aX,γ a12,γ aJ,γ χ,γ ψ,γ aP,γ aC,γ aI,γ aD,γ a20,γ a21]]=>∃ x,bG M x/\K (.sl 1 0 x.length) [ω [γ a0,γ a1,γ a2,γ a3,γ a4,γ a5,bc 128 C,ai M,γ a8,γ a9,γ aB,γ aX,γ a12,γ aJ,γ χ,γ ψ,γ aP,γ aC,γ aI,γ aD,γ a20,γ a21],ζ 3 1 (ints Z (x.map (·.1)))]
 |_,_=>False
def CQ:FuncId->Option dw
 | 96=>some ⟨[],xq⟩
 | 98=>some ⟨[],xr 114⟩
 | 97=>some ⟨[],xE 114 3⟩
 |_=>none
noncomputable def uJ:bM:=dF Tryz.prog CQ aM 10
abbrev CE:=fun(M:ML) (c:Int) (n:Int) (e:Int) iG yz yA (K:V->KB->Prop)=>(
 (∀(y1:List D),bJ M [c]=some y1->
 fQ ([CK.int Z]++([CK.int Z]++[])) y1)/\
 (decide (c<0)=true->
 K (δ Z 1) [ω iG])/\
 (decide (c<0)=false->
 (decide (c > 255)=true->
 K (δ Z 1) [ω iG])/\
 (decide (c > 255)=false->
 (decide (n<1)=true->
 K (δ Z 1) [ω iG])/\
 (decide (n<1)=false->
 (decide (n > 1099511627776)=true->
 K (δ Z 1) [ω iG])/\
 (decide (n > 1099511627776)=false->
 (decide (e<0)=true->
 K (δ Z 1) [ω iG])/\
 (decide (e<0)=false->
 (decide (e > 63)=true->
 K (δ Z 1) [ω iG])/\
 (decide (e > 63)=false->
 (kU M [c]=true->
 (decide (n<=cD M [c] 0)=true->
 K (δ Z 13) [ω iG])/\
 (decide (n<=cD M [c] 0)=false->
 ((!kU M [c])=true->
 (((↑(List.length M):Int) == 32)=true->
 K (δ Z 6) [ω iG])/\
 (((↑(List.length M):Int) == 32)=false->
 (M=[]->
 K (δ Z 0) [ω yz])/\
 K (δ Z 0) [ω yA]))/\
 ((!kU M [c])=false->
 (M=[]->
 K (δ Z 0) [ω yz])/\
 K (δ Z 0) [ω yA])))/\
 (kU M [c]=false->
 ((!kU M [c])=true->
 (((↑(List.length M):Int) == 32)=true->
 K (δ Z 6) [ω iG])/\
 (((↑(List.length M):Int) == 32)=false->
 (M=[]->
 K (δ Z 0) [ω yz])/\
 K (δ Z 0) [ω yA]))/\
 ((!kU M [c])=false->
 (M=[]->
 K (δ Z 0) [ω yz])/\
 K (δ Z 0) [ω yA]))))))))
 :Prop)
theorem ab9 (M:ML) (c n e:Int) (K:V->KB->Prop) (ay:
 CE M c n e [V.imp [Z] false true 2 M] [V.imp [Z] false true 2 [([c],[η (κ Z n),η (κ Z e)])]] [V.imp [Z] false true 2 (av M [c] [η (κ Z n),η (κ Z e)])] K
 ):aO Tryz.prog uJ (aM 66) 66 [ac 0 0,.int Z c,.int Z n,.int Z e] [ω [ai M]] (eX [.mG 0 0 [Z] false true 2] (dh 1 K)):=by apply Eq.mp (a:=ay);kernel_rfl
theorem ab_ (a0 a1 a2 a3 a4 a5 a8 a9 aB aX a12 aJ χ ψ aP aC aI aD a20 a21:Value) (C:List D) (M:ML) (c n e:Int) (K:V->KB->Prop) (ay:
 CE M c n e [γ a0,γ a1,γ a2,γ a3,γ a4,γ a5,bc 128 C,V.imp [Z] false true 2 M,γ a8,γ a9,γ aB,γ aX,γ a12,γ aJ,γ χ,γ ψ,γ aP,γ aC,γ aI,γ aD,γ a20,γ a21] [γ a0,γ a1,γ a2,γ a3,γ a4,γ a5,bc 128 C,V.imp [Z] false true 2 [([c],[η (κ Z n),η (κ Z e)])],γ a8,γ a9,γ aB,γ aX,γ a12,γ aJ,γ χ,γ ψ,γ aP,γ aC,γ aI,γ aD,γ a20,γ a21] [γ a0,γ a1,γ a2,γ a3,γ a4,γ a5,bc 128 C,V.imp [Z] false true 2 (av M [c] [η (κ Z n),η (κ Z e)]),γ a8,γ a9,γ aB,γ aX,γ a12,γ aJ,γ χ,γ ψ,γ aP,γ aC,γ aI,γ aD,γ a20,γ a21] K
 ):aO Tryz.prog uJ (aM 66) 66 [ac 0 134,.int Z c,.int Z n,.int Z e] [ω [γ a0,γ a1,γ a2,γ a3,γ a4,γ a5,bc 128 C,ai M,γ a8,γ a9,γ aB,γ aX,γ a12,γ aJ,γ χ,γ ψ,γ aP,γ aC,γ aI,γ aD,γ a20,γ a21]] (eX [.mG 0 134 [Z] false true 2] (dh 1 K)):=by apply Eq.mp (a:=ay);kernel_rfl
theorem abe (a0 a1 a2 a3 a4 a5 a8 a9 aB aX a12 aJ χ ψ aP aC aI aD a20 a21:Value) (C:List D) (M:ML) (c n:Int) (K:V->KB->Prop) (ay:
 let aq:KB:=[ω [γ a0,γ a1,γ a2,γ a3,γ a4,γ a5,bc 128 C,V.imp [Z] false true 2 M,γ a8,γ a9,γ aB,γ aX,γ a12,γ aJ,γ χ,γ ψ,γ aP,γ aC,γ aI,γ aD,γ a20,γ a21]];(∀(y1:List D),bJ M [c]=some y1->
 fQ ([CK.int Z]++([CK.int Z]++[])) y1)/\
 ((!kU M [c])=true->
 K (ar [δ Z 0,δ Z 0]) aq)/\
 ((!kU M [c])=false->
 (decide (n > cD M [c] 0)=true->
 K (ar [δ Z 0,δ Z 0]) aq)/\
 (decide (n > cD M [c] 0)=false->
 ((n == cD M [c] 0)=true->
 K (ar [δ Z 1,δ Z (cD M [c] 1)]) aq)/\
 ((n == cD M [c] 0)=false->
 K (ar [δ Z 2,δ Z 0]) aq)))
 ):aO Tryz.prog uJ (aM 83) 83 [ac 0 134,.int Z c,.int Z n] [ω [γ a0,γ a1,γ a2,γ a3,γ a4,γ a5,bc 128 C,ai M,γ a8,γ a9,γ aB,γ aX,γ a12,γ aJ,γ χ,γ ψ,γ aP,γ aC,γ aI,γ aD,γ a20,γ a21]] (dh 1 K):=by apply Eq.mp (a:=ay);kernel_rfl
theorem abh (a0 a1 a2 a3 a4 a5 a8 a9 aB aX a12 aJ χ ψ aP aC aI aD a20 a21:Value) (C:List D) (M:ML) (K:V->KB->Prop) (ay:
 let aq:=ω [γ a0,γ a1,γ a2,γ a3,γ a4,γ a5,bc 128 C,V.imp [Z] false true 2 M,γ a8,γ a9,γ aB,γ aX,γ a12,γ aJ,γ χ,γ ψ,γ aP,γ aC,γ aI,γ aD,γ a20,γ a21];114=114/\
 [Z]=[Z]/\
 false=false/\
 qU M/\
 (M=[]->
 K (ε 1 0 0) [aq,ζ 3 1 []])/\
 K (ε 1 0 (List.length M)) [aq,ζ 3 1 (ints Z (mc (Vc.gO M)))]
 ):aO Tryz.prog uJ (aM 69) 69 [ac 0 134] [ω [γ a0,γ a1,γ a2,γ a3,γ a4,γ a5,bc 128 C,ai M,γ a8,γ a9,γ aB,γ aX,γ a12,γ aJ,γ χ,γ ψ,γ aP,γ aC,γ aI,γ aD,γ a20,γ a21]] (eX [.slot 0 3 1] (dh 1 K)):=by apply Eq.mp (a:=ay);kernel_rfl
theorem M6:∀{M:ML} {k:List Int} {v:List D},(M.map (·.1)).Nodup->(k,v)∈M->bJ M k=some v
 | (a,c)::M,k,v,hn,h=>by
  simp only[List.map_cons,List.nodup_cons]at hn
  simp only[bJ]
  rcases eP.1 h with h | h
  ·cases h;rw[if_pos rfl]
  ·have hne:k≠a:=fun e=>hn.1 (fH.2 ⟨_,h,e⟩)
   rw[if_neg hne]
   exact M6 hn.2 h
theorem M7:∀{M:ML} {k:List Int},(∀ e∈M,e.1≠k)->bJ M k=none
 | [],_,_=>rfl
 | (a,c)::M,k,h=>by
  simp only[bJ]
  rw[if_neg (fun e=>h _ iA e.symm)]
  exact M7 fun e he=>h e (fS _ he)
theorem uU:∀{x:List L3} {c:Int} {i:Nat},my x c=some i->i<x.length/\(g3 x i).1=c/\∀ j,j<i->(g3 x j).1≠c
 |p::l,c,i,h=>by
  simp only[my]at h
  split at h
  ·rename_i hp
   cases h
   exact⟨by simp,by simp [g3,hp],fun j hj=>absurd hj (Nat.not_lt_zero _)⟩
  ·rename_i hp
   simp only[Option.map_eq_some_iff]at h
   obtain⟨k,hk,rfl⟩:=h
   obtain⟨h1,h2,h3⟩:=uU hk
   refine⟨by simp;omega,by simpa [g3]using h2,fun j hj=>?_⟩
   cases j with
   |zero=>simpa [g3]using hp
   |succ j=>have:=h3 j (by omega);simpa [g3]using this
theorem Ci:∀{x:List L3} {c:Int},my x c=none->∀ p∈x,p.1≠c
 | [],_,_,p,hp=>by cases hp
 |q::l,c,h,p,hp=>by
  simp only[my]at h
  split at h
  ·cases h
  ·rename_i hq
   simp only[Option.map_eq_none_iff]at h
   rcases eP.1 hp with rfl | hp
   ·exact hq
   ·exact Ci h p hp
theorem rp {x:List L3} {i:Nat} (h:i<x.length):x[i]? =some (g3 x i):=by
 unfold g3;rw[kn,bx h];rfl
theorem rq {x:List L3} {i:Nat} (h:i<x.length):g3 x i∈x:=gm (rp h)
theorem Si {x:List L3} {c:Int} {i:Nat} (hi:i<x.length) (h1:(g3 x i).1=c) (h2:∀ j,j<i->(g3 x j).1≠c):my x c=some i:=by
 cases h:my x c with
 |none=>exact absurd h1 (Ci h _ (rq hi))
 |some k=>
  obtain⟨k1,k2,k3⟩:=uU h
  have:k=i:=by
   rcases Nat.lt_trichotomy k i with h4 | h4 | h4
   ·exact absurd k2 (h2 k h4)
   ·exact h4
   ·exact absurd h1 (k3 i h4)
  rw[this]
theorem Sh {x:List L3} {c:Int} (h:∀ j,j<x.length->(g3 x j).1≠c):my x c=none:=by
 cases h1:my x c with
 |none=>rfl
 |some k=>obtain⟨k1,k2,_⟩:=uU h1;exact absurd k2 (h k k1)
theorem Hi {M:ML} {x:List L3} (h:bG M x):(M.map (·.1)).Nodup:=by
 have h1:(M.map (·.1)).Perm ((x.map m7).map (·.1)):=h.perm.map _
 refine h1.nodup_iff.2 ?_
 rw[List.map_map]
 exact List.pairwise_map.2 (h.inc.imp fun hlt e=>by simp [m7]at e;omega)
theorem De {M:ML} {x:List L3} (h:bG M x) (c:Int):bJ M [c]=(jL x c).map fun q=>[dn Z q.1,dn Z q.2]:=by
 unfold jL
 cases hc:my x c with
 |none=>
  refine M7 fun e he e1=>?_
  obtain⟨p,hp,rfl⟩:=fH.1 (h.perm.mem_iff.1 he)
  simp only[m7,List.cons.injEq,and_true]at e1
  exact Ci hc p hp e1
 |some i=>
  obtain⟨h1,h2,_⟩:=uU hc
  refine M6 (Hi h) (h.perm.mem_iff.2 (fH.2 ⟨g3 x i,rq h1,?_⟩))
  simp only[m7,h2,Option.map_some]
theorem Hh {M:ML} {x:List L3} (h:bG M x):qU M/\mc (Vc.gO M)=x.map (·.1)/\M.length=x.length:=by
 have hl:M.length=x.length:=by rw[h.perm.length_eq,cg]
 refine⟨⟨fun e he=>?_,Hi h,by have:=h.len;omega⟩,?_,hl⟩
 ·obtain⟨p,hp,rfl⟩:=fH.1 (h.perm.mem_iff.1 he)
  have:=h.rg p hp
  exact⟨p.1,rfl,by omega,by omega⟩
 ·have h1:(Vc.gO M).Perm (x.map (·.1)):=by
   unfold Vc.gO
   have:=h.perm.map (fun e:List Int×List D=>e.1.headD 0)
   rw[List.map_map]at this
   exact this
  rw[Pv h1]
  unfold mc
  exact List.mergeSort_of_pairwise (List.pairwise_map.2 (h.inc.imp fun hlt=>by simp only[decide_eq_true_eq];omega))
theorem Qf:bG [] []:=⟨List.Perm.refl _,List.Pairwise.nil,fun p hp=>(by cases hp),by simp⟩
theorem x5 {M:ML} {x:List L3} (h:bG M x) (c:Int):∀ cs,bJ M [c]=some cs->fQ ([CK.int Z]++([CK.int Z]++[])) cs:=fun cs hc=>by
 rw[De h]at hc
 simp only[Option.map_eq_some_iff]at hc
 obtain⟨q,_,rfl⟩:=hc
 exact⟨_,_,rfl,_,_,rfl,rfl⟩
theorem Hg {M:ML} {x:List L3} (h:bG M x) (c:Int):kU M [c]=(jL x c).isSome/\(∀ q,jL x c=some q->cD M [c] 0=q.1/\cD M [c] 1=q.2):=by
 refine⟨?_,fun q hq=>?_⟩
 ·unfold kU;rw[De h];cases jL x c<;>rfl
 ·unfold cD;rw[De h,hq];exact⟨rfl,rfl⟩
theorem SX:dE Tryz.prog CQ:=fun f k h=>by
 unfold CQ at h
 split at h<;>first | (cases h;first | exact Xt | exact Xv | exact X9) | cases h
theorem xP:bW Tryz.prog uJ:=dI mixed SX aM 10
theorem ON {M:ML} {c n e:Int} {x:List L3} {B B2 B3:List V} {K:V->KB->Prop} (ht:bG M x) (hno:kH (cz x c n e)->K (.int Z (cz x c n e)) [ω B]) (hy:kF (cz x c n e)->K (.int Z 0) [ω B2]) (e3:M=[]->B3=B2):CE M c n e B B3 B2 K:=by
 obtain⟨t1,t2⟩:=Hg ht c
 have hl:=(Hh ht).2.2
 have hle:=ht.len
 unfold cz at hno hy
 refine⟨x5 ht c,?_⟩
 simp only[decide_eq_true_eq,decide_eq_false_iff_not]
 have bad:(c<0∨255<c∨n<1∨1099511627776<n∨e<0∨63<e)->K (δ Z 1) [ω B]:=fun hb=>by
  simp only[if_pos hb]at hno
  exact hno ⟨by decide⟩
 refine⟨fun h1=>bad (.inl h1),fun h1=>⟨fun h2=>bad (.inr (.inl h2)),fun h2=>⟨fun h3=>bad (.inr (.inr (.inl h3))),fun h3=>⟨fun h4=>bad (.inr (.inr (.inr (.inl h4)))),fun h4=>⟨fun h5=>bad (.inr (.inr (.inr (.inr (.inl h5))))),fun h5=>⟨fun h6=>bad (.inr (.inr (.inr (.inr (.inr h6))))),fun h6=>?_⟩⟩⟩⟩⟩⟩
 have hg:¬ (c<0∨255<c∨n<1∨1099511627776<n∨e<0∨63<e):=by omega
 simp only[if_neg hg]at hno hy
 have fin:K (.int Z 0) [ω B2]->(M=[]->K (.int Z 0) [ω B3])/\K (.int Z 0) [ω B2]:=fun h=>⟨fun hm=>by rw[e3 hm];exact h,h⟩
 cases hq:jL x c with
 |some q=>
  rw[hq]at t1 hno hy
  simp only[Option.isSome_some]at t1
  simp only at hno hy
  have t3:=(t2 q hq).1
  rw[t1,t3]
  refine⟨fun _=>⟨fun h7=>?_,fun h7=>⟨fun f=>(by cases f),fun _=>fin ?_⟩⟩,fun f=>(by cases f)⟩
  ·rw[if_pos h7]at hno;exact hno ⟨by decide⟩
  ·rw[if_neg h7]at hy;exact hy ⟨rfl⟩
 |none=>
  rw[hq]at t1 hno hy
  simp only[Option.isSome_none]at t1
  simp only at hno hy
  rw[t1]
  refine⟨fun f=>(by cases f),fun _=>⟨fun _=>⟨fun h7=>?_,fun h7=>fin ?_⟩,fun f=>(by cases f)⟩⟩
  ·simp only[beq_iff_eq]at h7
   rw[if_pos (by omega)]at hno;exact hno ⟨by decide⟩
  ·simp only[beq_eq_false_iff_ne,ne_eq]at h7
   rw[if_neg (by omega)]at hy;exact hy ⟨rfl⟩
theorem NS:aT Tryz.prog 66 xx:=mP xP mixed [.mG 0 0 [Z] false true 2] (fun args kb K h=>by
 unfold xx at h;split at h<;>try exact h.elim
 obtain⟨x,ht,hno,hy⟩:=h
 exact⟨_,ab9 _ _ _ _ K (ON ht hno hy (fun hm=>by subst hm;rfl))⟩)
theorem X3:aT Tryz.prog 66 BH:=mP xP mixed [.mG 0 134 [Z] false true 2] (fun args kb K h=>by
 unfold BH at h;split at h<;>try exact h.elim
 obtain⟨x,ht,hno,hy⟩:=h
 exact⟨_,ab_ _ _ _ _ _ _ _ _ _ _ _ _ _ _ _ _ _ _ _ _ _ _ _ _ _ K (ON ht hno hy (fun hm=>by subst hm;rfl))⟩)
theorem WU:aT Tryz.prog 83 Bm:=jP xP mixed (fun args kb K h=>by
 unfold Bm at h;split at h<;>try exact h.elim
 rename_i c n _ _ _ _ _ _ _ M _ _ _ _ _ _ _ _ _ _ _ _ _ _
 obtain⟨x,ht,h⟩:=h
 obtain⟨t1,t2⟩:=Hg ht c
 unfold g_ oV at h
 refine⟨_,abe _ _ _ _ _ _ _ _ _ _ _ _ _ _ _ _ _ _ _ _ _ M c n K ⟨x5 ht c,?_⟩⟩
 simp only[decide_eq_true_eq,decide_eq_false_iff_not]
 cases hq:jL x c with
 |none=>
  rw[hq]at t1 h
  simp only[Option.isSome_none]at t1
  rw[t1]
  exact⟨fun _=>h,fun f=>(by cases f)⟩
 |some q=>
  rw[hq]at t1 h
  simp only[Option.isSome_some]at t1
  simp only at h
  obtain⟨t3,t4⟩:=t2 q hq
  rw[t1,t3,t4]
  refine⟨fun f=>(by cases f),fun _=>⟨fun h7=>?_,fun h7=>⟨fun h8=>?_,fun h8=>?_⟩⟩⟩
  ·rw[if_pos (by omega),if_neg (by omega)]at h;exact h
  ·simp only[beq_iff_eq]at h8
   rw[if_neg (by omega),if_pos h8,if_pos h8]at h;exact h
  ·simp only[beq_eq_false_iff_ne,ne_eq]at h8
   rw[if_neg (by omega),if_neg h8,if_neg h8]at h;exact h)
theorem WX:aT Tryz.prog 69 Bp:=mP xP mixed [.slot 0 3 1] (fun args kb K h=>by
 unfold Bp at h;split at h<;>try exact h.elim
 rename_i M _ _ _ _ _ _ _ _ _ _ _ _ _ _
 obtain⟨x,ht,h⟩:=h
 obtain⟨k1,k2,k3⟩:=Hh ht
 refine⟨_,abh _ _ _ _ _ _ _ _ _ _ _ _ _ _ _ _ _ _ _ _ _ M K ⟨rfl,rfl,rfl,k1,fun hM=>?_,?_⟩⟩
 ·subst hM
  have hx:x=[]:=kG (by rw[<- k3];rfl)
  subst hx
  exact h
 ·rw[k2,k3];exact h)
structure fx (x:List L3):Prop where
 inc:x.Pairwise (fun a b=>a.1<b.1)
 rg:∀ p∈x,0<=p.1/\p.1<=255/\1<=p.2.1/\p.2.1<=1099511627776/\0<=p.2.2/\p.2.2<=63
 len:x.length<=32
def k8 (p:L3):List Int:=aU p.1++aU p.2.1++aU p.2.2
def fL (x:List L3):List Int:=(x.map k8).flatten
def bb (x:List L3):List Int:=aU (x.length:Int)++fL x
def eY (x:List L3) (i:Nat):List Int:=aU (x.length:Int)++fL (x.take i)
abbrev Hl (a0 a1 a2 a3 a4 a5 a8 a9 aB aX a12 aJ χ ψ aP aC aI aD a20 a21:Value) (C:List D) (M:ML) (x:List L3):LI where
 α:={i:Nat // i<=x.length}
 live:=[0,3,13,14,15]
 st i:=([ac 0 134,ac 1 0,.sl 2 0 x.length,.int Z (x.length:Int),.int Z (i.1:Int)],[ω [γ a0,γ a1,γ a2,γ a3,γ a4,γ a5,bc 128 C,ai M,γ a8,γ a9,γ aB,γ aX,γ a12,γ aJ,γ χ,γ ψ,γ aP,γ aC,γ aI,γ aD,γ a20,γ a21],ω [.sl 3 0 (eY x i.1).length],ζ 3 1 (ints Z (x.map (·.1))),ζ 5 1 (ints θ (eY x i.1))])
 μ i:=x.length - i.1
def KF (a0 a1 a2 a3 a4 a5 a8 a9 aB aX a12 aJ χ ψ aP aC aI aD a20 a21:Value) (C:List D) (M:ML) (x:List L3):FuncId->Nat->Option LI
 | 39,4=>some (Hl a0 a1 a2 a3 a4 a5 a8 a9 aB aX a12 aJ χ ψ aP aC aI aD a20 a21 C M x)
 |_,_=>none
def xF:aH:=fun args kb K=>match args,kb with
 | [ac 0 134],[ω [γ a0,γ a1,γ a2,γ a3,γ a4,γ a5,bc 128 C,.imp [Z] false true 2 M,γ a8,γ a9,γ aB,γ aX,γ a12,γ aJ,γ χ,γ ψ,γ aP,γ aC,γ aI,γ aD,γ a20,γ a21]]=>∃ x,bG M x/\K (.sl 1 0 (bb x).length) [ω [γ a0,γ a1,γ a2,γ a3,γ a4,γ a5,bc 128 C,ai M,γ a8,γ a9,γ aB,γ aX,γ a12,γ aJ,γ χ,γ ψ,γ aP,γ aC,γ aI,γ aD,γ a20,γ a21],ζ 5 1 (ints θ (bb x))]
 |_,_=>False
def Dg:FuncId->Option dw
 | 69=>some ⟨[],Bp⟩
 |f=>tO f
def Df:FuncId->Option dw
 | 66=>some ⟨[],xx⟩
 |f=>tO f
noncomputable def I4:bM:=dF Tryz.prog Dg aM 10
theorem acv (a0 a1 a2 a3 a4 a5 a8 a9 aB aX a12 aJ χ ψ aP aC aI aD a20 a21:Value) (C:List D) (M:ML) (x:List L3) (K:V->KB->Prop) (ay:
 let aq:=[γ a0,γ a1,γ a2,γ a3,γ a4,γ a5,bc 128 C,V.imp [Z] false true 2 M,γ a8,γ a9,γ aB,γ aX,γ a12,γ aJ,γ χ,γ ψ,γ aP,γ aC,γ aI,γ aD,γ a20,γ a21];∃(y1:List Int),[]=ints θ y1/\
 0=y1.length/\
 y1.length<=10000000/\
 e_ (↑(List.length M):Int)/\
 ∃(y2:List L3),bG M y2/\
 At (Hl a0 a1 a2 a3 a4 a5 a8 a9 aB aX a12 aJ χ ψ aP aC aI aD a20 a21 C M x) ([ac 0 134,ac 1 0,ε 2 0 y2.length,δ Z (↑(y2.length - 0):Int),δ Z 0],[ω aq,ω [ε 3 0 (y1++aU (↑(List.length M):Int)).length],ζ 3 1 (ints Z (ι (fun(y3:L3)=>y3.fst) y2)),ζ 5 1 (ints θ (y1++aU (↑(List.length M):Int)))])/\
 ∀(y5:{y4:Nat // y4<=x.length}),let dP:=ω aq;(decide ((↑y5.val:Int)<(↑x.length:Int))=true->
 br (↑y5.val:Int) (x.length - 0)/\
 ∃(y6:List D),(ints Z (ι (fun(y7:L3)=>y7.fst) x))[0+(↑y5.val:Int).toNat]? =some y6/\
 ∃(y8:Int),y6[0]? =some (η (κ Z y8))/\
 ∃(y9:List Int),ints θ (eY x y5.val)=ints θ y9/\
 (eY x y5.val).length=y9.length/\
 y9.length<=10000000/\
 e_ y8/\
 (∀(cq:List D),bJ M [y8]=some cq->
 fQ ([CK.int Z]++([CK.int Z]++[])) cq)/\
 ∃(b_:List Int),ints θ (y9++aU y8)=ints θ b_/\
 (y9++aU y8).length=b_.length/\
 b_.length<=10000000/\
 e_ (cD M [y8] 0)/\
 (∀(ca:List D),bJ M [y8]=some ca->
 fQ ([CK.int Z]++([CK.int Z]++[])) ca)/\
 ∃(cf:List Int),ints θ (b_++aU (cD M [y8] 0))=ints θ cf/\
 (b_++aU (cD M [y8] 0)).length=cf.length/\
 cf.length<=10000000/\
 e_ (cD M [y8] 1)/\
 Nx (Hl a0 a1 a2 a3 a4 a5 a8 a9 aB aX a12 aJ χ ψ aP aC aI aD a20 a21 C M x) y5 ([ac 0 134,ac 1 0,ε 2 0 x.length,δ Z (↑x.length:Int),δ Z (Z.wrap ((↑y5.val:Int)+1))],[dP,ω [ε 3 0 (cf++aU (cD M [y8] 1)).length],ζ 3 1 (ints Z (ι (fun(cE:L3)=>cE.fst) x)),ζ 5 1 (ints θ (cf++aU (cD M [y8] 1)))]))/\
 (decide ((↑y5.val:Int)<(↑x.length:Int))=false->
 ∃(cj:List Int),ints θ (eY x y5.val)=ints θ cj/\
 (eY x y5.val).length=cj.length/\
 cj.length<=1000000/\
 K (ε 1 0 cj.length) [dP,ζ 5 1 (ints θ cj)])
 ):aO Tryz.prog I4 (KF a0 a1 a2 a3 a4 a5 a8 a9 aB aX a12 aJ χ ψ aP aC aI aD a20 a21 C M x 39) 39 [ac 0 134] [ω [γ a0,γ a1,γ a2,γ a3,γ a4,γ a5,bc 128 C,ai M,γ a8,γ a9,γ aB,γ aX,γ a12,γ aJ,γ χ,γ ψ,γ aP,γ aC,γ aI,γ aD,γ a20,γ a21]] (dh 1 K):=by apply Eq.mp (a:=ay);kernel_rfl
theorem DN {x:List L3} {i:Nat} (h:i<x.length):x.take (i+1)=x.take i++[g3 x i]:=by rw[jY,rp h];rfl
theorem Tx:dE Tryz.prog Df:=fun f k h=>by
 unfold Df at h
 split at h
 ·cases h;exact NS
 ·exact zR _ _ h
theorem Ty:dE Tryz.prog Dg:=fun f k h=>by
 unfold Dg at h
 split at h
 ·cases h;exact WX
 ·exact zR _ _ h
theorem RL:bW Tryz.prog I4:=dI mixed Ty aM 10
theorem Mp {x:List L3} (h:x.Pairwise (fun a b=>a.1<b.1)) {i j:Nat} (hij:i<j) (hj:j<x.length):(g3 x i).1<(g3 x j).1:=by
 have:=List.pairwise_iff_getElem.1 h i j (by omega) hj hij
 have e1:=rp (show i<x.length by omega)
 have e2:=rp hj
 rw[bx (show i<x.length by omega),bh.injEq]at e1
 rw[bx hj,bh.injEq]at e2
 rwa [e1,e2]at this
theorem WE {x:List L3} (h:x.Pairwise (fun a b=>a.1<b.1)) {i:Nat} (hi:i<x.length):jL x (g3 x i).1=some (g3 x i).2:=by
 unfold jL
 rw[Si hi rfl (fun j hj=>by have:=Mp h hj hi;omega)]
 rfl
theorem CH {a b:List L3}:fL (a++b)=fL a++fL b:=by unfold fL;rw[jC,List.flatten_append]
theorem Qd {x:List L3} {i:Nat} (h:i<x.length):eY x (i+1)=eY x i++k8 (g3 x i):=by
 unfold eY
 rw[DN h,CH,<- dQ]
 simp [fL]
theorem qN {x:List L3}:eY x x.length=bb x:=by unfold eY bb;rw[cN]
theorem Qc {x:List L3}:eY x 0=aU (x.length:Int):=by simp [eY,fL]
theorem JS:∀(x:List L3),(fL x).length<=27*x.length
 | []=>by simp [fL]
 |p::l=>by
  have:=JS l
  have h1:=iL p.1
  have h2:=iL p.2.1
  have h3:=iL p.2.2
  have e:fL (p::l)=k8 p++fL l:=by simp [fL]
  rw[e,bw,io]
  unfold k8
  simp only[bw];omega
theorem sj {x:List L3} (h:x.length<=32) (i:Nat):(eY x i).length<=1000:=by
 have h1:=JS (x.take i)
 have h2:=iL (x.length:Int)
 rw[cW]at h1
 unfold eY
 rw[bw];omega
theorem bG.ok {M:ML} {x:List L3} (h:bG M x):fx x:=⟨h.inc,h.rg,h.len⟩
theorem NV:aT Tryz.prog 39 xF:=jP RL mixed (fun args kb K h=>by
 unfold xF at h;split at h<;>try exact h.elim
 ·rename_i a0 a1 a2 a3 a4 a5 C M a8 a9 aB aX a12 aJ χ ψ aP aC aI aD a20 a21
  obtain⟨x,ht,h⟩:=h
  have hl:=ht.len
  have Ug:=(Hh ht).2.2
  refine⟨KF a0 a1 a2 a3 a4 a5 a8 a9 aB aX a12 aJ χ ψ aP aC aI aD a20 a21 C M x 39,acv _ _ _ _ _ _ _ _ _ _ _ _ _ _ _ _ _ _ _ _ _ M x K ⟨[],rfl,rfl,by simp,⟨by omega⟩,x,ht,?_,?_⟩⟩
  ·rw[Ug,jm,<- Qc]
   exact At.mk' ⟨0,bF _⟩ rfl
  rintro⟨i,hi⟩
  dsimp only
  have hb:=sj hl i
  simp only[decide_eq_true_eq,decide_eq_false_iff_not]
  refine⟨fun hc=>?_,fun hc=>?_⟩
  ·have kv:i<x.length:=by omega
   have hr:=ht.rg _ (rq kv)
   have n1:=iL (g3 x i).1
   have n2:=iL (g3 x i).2.1
   have n3:=iL (g3 x i).2.2
   obtain⟨t3,t4⟩:=(Hg ht (g3 x i).1).2 _ (WE ht.inc kv)
   have hk:(x.map (·.1))[i]? =some (g3 x i).1:=by rw[fG,rp kv];rfl
   refine⟨by unfold br;omega,[η (.int Z (g3 x i).1)],by rw[cL,dr,kw,hk];rfl,_,rfl,_,rfl,rfl,by omega,⟨by omega⟩,x5 ht _,_,rfl,rfl,by rw[bw];omega,⟨by rw[t3];omega⟩,x5 ht _,_,rfl,rfl,by rw[t3];simp only[bw];omega,⟨by rw[t4];omega⟩,?_⟩
   have e1:Z.wrap ((i:Int)+1)=((i+1:Nat):Int):=by rw[bR (by omega) (by omega)];rfl
   have e2:eY x i++aU (g3 x i).1++aU (g3 x i).2.1++aU (g3 x i).2.2=eY x (i+1):=by
    rw[Qd kv];unfold k8;simp only[dQ]
   rw[t3,t4,e1,e2]
   exact Nx.mk' (⟨i+1,by omega⟩:{i:Nat // i<=x.length}) rfl (by show x.length - (i+1)<x.length - i;omega)
  ·have:i=x.length:=by omega
   subst this
   refine⟨_,rfl,rfl,by omega,?_⟩
   rw[qN]
   exact h)
def gd (l:List Int) (p:Nat×Int) (most:Int):Nat×Int:=(p.1+(ak (l.drop p.1) p.2 most).2.1,(ak (l.drop p.1) p.2 most).2.2)
def iw (l:List Int) (p:Nat×Int) (most:Int):Int:=(ak (l.drop p.1) p.2 most).1
def s1 (b:List Int) (p:Nat×Int):Nat×Int:=gd b p 255
def s2 (b:List Int) (p:Nat×Int):Nat×Int:=gd b (s1 b p) 1099511627776
def s3 (b:List Int) (p:Nat×Int):Nat×Int:=gd b (s2 b p) 63
def v3 (b:List Int) (p:Nat×Int):L3:=(iw b p 255,iw b (s1 b p) 1099511627776,iw b (s2 b p) 63)
def aj (b:List Int):Nat->(Nat×Int)×List L3
 | 0=>(gd b (0,0) 32,[])
 |i+1=>(s3 b (aj b i).1,(aj b i).2++[v3 b (aj b i).1])
def lc (b:List Int):Nat:=(iw b (0,0) 32).toNat
def kR (x:List L3):Int:=match x.getLast? with | some p=>p.1 | none=>-1
structure Bb (b:List Int) (i:Nat) (M:ML):Prop where
 i2:i<=lc b
 tab:bG M (aj b i).2
 pos:(aj b i).1.1<=b.length
abbrev vD (b:List Int):LI where
 α:={p:Nat×ML // Bb b p.1 p.2}
 live:=[2,4,5,6,13,14]
 dN:=[.mG 2 0 [Z] false true 2]
 st p:=([ac 0 0,ac 1 0,.int Z (kR (aj b p.1.1).2),ac 2 0,.int Z (lc b:Int),.int Z (p.1.1:Int)],[ω [γ (.map none)],ω [.sl 3 (aj b p.1.1).1.1 b.length,.int Z (aj b p.1.1).1.2],ω [ai p.1.2],ζ 5 1 (ints θ b)])
 μ p:=lc b - p.1.1
def MJ (b:List Int):FuncId->Nat->Option LI
 | 34,4=>some (vD b)
 |_,_=>none
def xe:aH:=fun args kb K=>match args,kb with
 | [an (.sl 1 B)],[]=>∃ b:List Int,B=ints θ b/\bm b/\b.length<=140737488355328/\((¬ ∃ x,fx x/\b=bb x)->K (.υ [.agg [γ (.map none)],ξ false]) [])/\
  ∀ x M,bG M x->b=bb x->K (.υ [.agg [ai M],ξ true]) []
 |_,_=>False
noncomputable def I3:bM:=dF Tryz.prog Df aM 10
theorem abQ (b:List Int) (K:V->KB->Prop) (ay:
 (ints θ b).length<=140737488355328/\
 ∃(y1:List Int),ints θ b=ints θ y1/\
 (ints θ b).length=y1.length/\
 0<=y1.length/\
 (∀(y2:Int),ct y2 y1->
 0<=y2/\
 y2<256)/\
 y1.length<=140737488355328/\
 At (vD b) ([ac 0 0,ac 1 0,δ Z (-1),ac 2 0,δ Z (ak (ν 0 y1) 0 32).fst,δ Z 0],[ω [γ (gr none)],ω [ε 3 (0+(ak (ν 0 y1) 0 32).snd.fst) y1.length,δ Z (ak (ν 0 y1) 0 32).snd.snd],ω [V.imp [Z] false true 2 []],ζ 5 1 (ints θ y1)])/\
 ∀(y4:{y3:Nat×ML // Bb b y3.fst y3.snd}),let dP:=(ar [cF [γ (gr none)],ξ false]);let gJ:=δ Z (Z.wrap ((↑y4.val.fst:Int)+1));(decide ((↑y4.val.fst:Int)<(↑(lc b):Int))=true->
 ∃(y5:List Int),ints θ b=ints θ y5/\
 b.length=y5.length/\
 (aj b y4.val.fst).fst.fst<=y5.length/\
 (∀(y6:Int),ct y6 y5->
 0<=y6/\
 y6<256)/\
 y5.length<=140737488355328/\
 ∃(y7:List Int),ints θ y5=ints θ y7/\
 y5.length=y7.length/\
 (aj b y4.val.fst).fst.fst+(ak (ν (aj b y4.val.fst).fst.fst y5) (aj b y4.val.fst).fst.snd 255).snd.fst<=y7.length/\
 (∀(y8:Int),ct y8 y7->
 0<=y8/\
 y8<256)/\
 y7.length<=140737488355328/\
 ∃(y9:List Int),ints θ y7=ints θ y9/\
 y7.length=y9.length/\
 (aj b y4.val.fst).fst.fst+(ak (ν (aj b y4.val.fst).fst.fst y5) (aj b y4.val.fst).fst.snd 255).snd.fst+(ak (ν ((aj b y4.val.fst).fst.fst+(ak (ν (aj b y4.val.fst).fst.fst y5) (aj b y4.val.fst).fst.snd 255).snd.fst) y7) (ak (ν (aj b y4.val.fst).fst.fst y5) (aj b y4.val.fst).fst.snd 255).snd.snd 1099511627776).snd.fst<=y9.length/\
 (∀(cq:Int),ct cq y9->
 0<=cq/\
 cq<256)/\
 y9.length<=140737488355328/\
 (((ak (ν ((aj b y4.val.fst).fst.fst+(ak (ν (aj b y4.val.fst).fst.fst y5) (aj b y4.val.fst).fst.snd 255).snd.fst+(ak (ν ((aj b y4.val.fst).fst.fst+(ak (ν (aj b y4.val.fst).fst.fst y5) (aj b y4.val.fst).fst.snd 255).snd.fst) y7) (ak (ν (aj b y4.val.fst).fst.fst y5) (aj b y4.val.fst).fst.snd 255).snd.snd 1099511627776).snd.fst) y9) (ak (ν ((aj b y4.val.fst).fst.fst+(ak (ν (aj b y4.val.fst).fst.fst y5) (aj b y4.val.fst).fst.snd 255).snd.fst) y7) (ak (ν (aj b y4.val.fst).fst.fst y5) (aj b y4.val.fst).fst.snd 255).snd.snd 1099511627776).snd.snd 63).snd.snd != 0)=true->
 K dP [])/\
 (((ak (ν ((aj b y4.val.fst).fst.fst+(ak (ν (aj b y4.val.fst).fst.fst y5) (aj b y4.val.fst).fst.snd 255).snd.fst+(ak (ν ((aj b y4.val.fst).fst.fst+(ak (ν (aj b y4.val.fst).fst.fst y5) (aj b y4.val.fst).fst.snd 255).snd.fst) y7) (ak (ν (aj b y4.val.fst).fst.fst y5) (aj b y4.val.fst).fst.snd 255).snd.snd 1099511627776).snd.fst) y9) (ak (ν ((aj b y4.val.fst).fst.fst+(ak (ν (aj b y4.val.fst).fst.fst y5) (aj b y4.val.fst).fst.snd 255).snd.fst) y7) (ak (ν (aj b y4.val.fst).fst.fst y5) (aj b y4.val.fst).fst.snd 255).snd.snd 1099511627776).snd.snd 63).snd.snd != 0)=false->
 (decide ((ak (ν (aj b y4.val.fst).fst.fst y5) (aj b y4.val.fst).fst.snd 255).fst<=kR (aj b y4.val.fst).snd)=true->
 K dP [])/\
 (decide ((ak (ν (aj b y4.val.fst).fst.fst y5) (aj b y4.val.fst).fst.snd 255).fst<=kR (aj b y4.val.fst).snd)=false->
 ∃(b_:List L3),bG y4.val.snd b_/\
 (kH (cz b_ (ak (ν (aj b y4.val.fst).fst.fst y5) (aj b y4.val.fst).fst.snd 255).fst (ak (ν ((aj b y4.val.fst).fst.fst+(ak (ν (aj b y4.val.fst).fst.fst y5) (aj b y4.val.fst).fst.snd 255).snd.fst) y7) (ak (ν (aj b y4.val.fst).fst.fst y5) (aj b y4.val.fst).fst.snd 255).snd.snd 1099511627776).fst (ak (ν ((aj b y4.val.fst).fst.fst+(ak (ν (aj b y4.val.fst).fst.fst y5) (aj b y4.val.fst).fst.snd 255).snd.fst+(ak (ν ((aj b y4.val.fst).fst.fst+(ak (ν (aj b y4.val.fst).fst.fst y5) (aj b y4.val.fst).fst.snd 255).snd.fst) y7) (ak (ν (aj b y4.val.fst).fst.fst y5) (aj b y4.val.fst).fst.snd 255).snd.snd 1099511627776).snd.fst) y9) (ak (ν ((aj b y4.val.fst).fst.fst+(ak (ν (aj b y4.val.fst).fst.fst y5) (aj b y4.val.fst).fst.snd 255).snd.fst) y7) (ak (ν (aj b y4.val.fst).fst.fst y5) (aj b y4.val.fst).fst.snd 255).snd.snd 1099511627776).snd.snd 63).fst)->
 ((cz b_ (ak (ν (aj b y4.val.fst).fst.fst y5) (aj b y4.val.fst).fst.snd 255).fst (ak (ν ((aj b y4.val.fst).fst.fst+(ak (ν (aj b y4.val.fst).fst.fst y5) (aj b y4.val.fst).fst.snd 255).snd.fst) y7) (ak (ν (aj b y4.val.fst).fst.fst y5) (aj b y4.val.fst).fst.snd 255).snd.snd 1099511627776).fst (ak (ν ((aj b y4.val.fst).fst.fst+(ak (ν (aj b y4.val.fst).fst.fst y5) (aj b y4.val.fst).fst.snd 255).snd.fst+(ak (ν ((aj b y4.val.fst).fst.fst+(ak (ν (aj b y4.val.fst).fst.fst y5) (aj b y4.val.fst).fst.snd 255).snd.fst) y7) (ak (ν (aj b y4.val.fst).fst.fst y5) (aj b y4.val.fst).fst.snd 255).snd.snd 1099511627776).snd.fst) y9) (ak (ν ((aj b y4.val.fst).fst.fst+(ak (ν (aj b y4.val.fst).fst.fst y5) (aj b y4.val.fst).fst.snd 255).snd.fst) y7) (ak (ν (aj b y4.val.fst).fst.fst y5) (aj b y4.val.fst).fst.snd 255).snd.snd 1099511627776).snd.snd 63).fst != 0)=true->
 K dP [])/\
 ((cz b_ (ak (ν (aj b y4.val.fst).fst.fst y5) (aj b y4.val.fst).fst.snd 255).fst (ak (ν ((aj b y4.val.fst).fst.fst+(ak (ν (aj b y4.val.fst).fst.fst y5) (aj b y4.val.fst).fst.snd 255).snd.fst) y7) (ak (ν (aj b y4.val.fst).fst.fst y5) (aj b y4.val.fst).fst.snd 255).snd.snd 1099511627776).fst (ak (ν ((aj b y4.val.fst).fst.fst+(ak (ν (aj b y4.val.fst).fst.fst y5) (aj b y4.val.fst).fst.snd 255).snd.fst+(ak (ν ((aj b y4.val.fst).fst.fst+(ak (ν (aj b y4.val.fst).fst.fst y5) (aj b y4.val.fst).fst.snd 255).snd.fst) y7) (ak (ν (aj b y4.val.fst).fst.fst y5) (aj b y4.val.fst).fst.snd 255).snd.snd 1099511627776).snd.fst) y9) (ak (ν ((aj b y4.val.fst).fst.fst+(ak (ν (aj b y4.val.fst).fst.fst y5) (aj b y4.val.fst).fst.snd 255).snd.fst) y7) (ak (ν (aj b y4.val.fst).fst.fst y5) (aj b y4.val.fst).fst.snd 255).snd.snd 1099511627776).snd.snd 63).fst != 0)=false->
 Nx (vD b) y4 ([ac 0 0,ac 1 0,δ Z (ak (ν (aj b y4.val.fst).fst.fst y5) (aj b y4.val.fst).fst.snd 255).fst,ac 2 0,δ Z (↑(lc b):Int),gJ],[ω [γ (gr none)],ω [ε 3 ((aj b y4.val.fst).fst.fst+(ak (ν (aj b y4.val.fst).fst.fst y5) (aj b y4.val.fst).fst.snd 255).snd.fst+(ak (ν ((aj b y4.val.fst).fst.fst+(ak (ν (aj b y4.val.fst).fst.fst y5) (aj b y4.val.fst).fst.snd 255).snd.fst) y7) (ak (ν (aj b y4.val.fst).fst.fst y5) (aj b y4.val.fst).fst.snd 255).snd.snd 1099511627776).snd.fst+(ak (ν ((aj b y4.val.fst).fst.fst+(ak (ν (aj b y4.val.fst).fst.fst y5) (aj b y4.val.fst).fst.snd 255).snd.fst+(ak (ν ((aj b y4.val.fst).fst.fst+(ak (ν (aj b y4.val.fst).fst.fst y5) (aj b y4.val.fst).fst.snd 255).snd.fst) y7) (ak (ν (aj b y4.val.fst).fst.fst y5) (aj b y4.val.fst).fst.snd 255).snd.snd 1099511627776).snd.fst) y9) (ak (ν ((aj b y4.val.fst).fst.fst+(ak (ν (aj b y4.val.fst).fst.fst y5) (aj b y4.val.fst).fst.snd 255).snd.fst) y7) (ak (ν (aj b y4.val.fst).fst.fst y5) (aj b y4.val.fst).fst.snd 255).snd.snd 1099511627776).snd.snd 63).snd.fst) y9.length,δ Z (ak (ν ((aj b y4.val.fst).fst.fst+(ak (ν (aj b y4.val.fst).fst.fst y5) (aj b y4.val.fst).fst.snd 255).snd.fst+(ak (ν ((aj b y4.val.fst).fst.fst+(ak (ν (aj b y4.val.fst).fst.fst y5) (aj b y4.val.fst).fst.snd 255).snd.fst) y7) (ak (ν (aj b y4.val.fst).fst.fst y5) (aj b y4.val.fst).fst.snd 255).snd.snd 1099511627776).snd.fst) y9) (ak (ν ((aj b y4.val.fst).fst.fst+(ak (ν (aj b y4.val.fst).fst.fst y5) (aj b y4.val.fst).fst.snd 255).snd.fst) y7) (ak (ν (aj b y4.val.fst).fst.fst y5) (aj b y4.val.fst).fst.snd 255).snd.snd 1099511627776).snd.snd 63).snd.snd],ω [V.imp [Z] false true 2 y4.val.snd],ζ 5 1 (ints θ y9)])))/\
 (kF (cz b_ (ak (ν (aj b y4.val.fst).fst.fst y5) (aj b y4.val.fst).fst.snd 255).fst (ak (ν ((aj b y4.val.fst).fst.fst+(ak (ν (aj b y4.val.fst).fst.fst y5) (aj b y4.val.fst).fst.snd 255).snd.fst) y7) (ak (ν (aj b y4.val.fst).fst.fst y5) (aj b y4.val.fst).fst.snd 255).snd.snd 1099511627776).fst (ak (ν ((aj b y4.val.fst).fst.fst+(ak (ν (aj b y4.val.fst).fst.fst y5) (aj b y4.val.fst).fst.snd 255).snd.fst+(ak (ν ((aj b y4.val.fst).fst.fst+(ak (ν (aj b y4.val.fst).fst.fst y5) (aj b y4.val.fst).fst.snd 255).snd.fst) y7) (ak (ν (aj b y4.val.fst).fst.fst y5) (aj b y4.val.fst).fst.snd 255).snd.snd 1099511627776).snd.fst) y9) (ak (ν ((aj b y4.val.fst).fst.fst+(ak (ν (aj b y4.val.fst).fst.fst y5) (aj b y4.val.fst).fst.snd 255).snd.fst) y7) (ak (ν (aj b y4.val.fst).fst.fst y5) (aj b y4.val.fst).fst.snd 255).snd.snd 1099511627776).snd.snd 63).fst)->
 (false=true->
 K dP [])/\
 (false=false->
 Nx (vD b) y4 ([ac 0 0,ac 1 0,δ Z (ak (ν (aj b y4.val.fst).fst.fst y5) (aj b y4.val.fst).fst.snd 255).fst,ac 2 0,δ Z (↑(lc b):Int),gJ],[ω [γ (gr none)],ω [ε 3 ((aj b y4.val.fst).fst.fst+(ak (ν (aj b y4.val.fst).fst.fst y5) (aj b y4.val.fst).fst.snd 255).snd.fst+(ak (ν ((aj b y4.val.fst).fst.fst+(ak (ν (aj b y4.val.fst).fst.fst y5) (aj b y4.val.fst).fst.snd 255).snd.fst) y7) (ak (ν (aj b y4.val.fst).fst.fst y5) (aj b y4.val.fst).fst.snd 255).snd.snd 1099511627776).snd.fst+(ak (ν ((aj b y4.val.fst).fst.fst+(ak (ν (aj b y4.val.fst).fst.fst y5) (aj b y4.val.fst).fst.snd 255).snd.fst+(ak (ν ((aj b y4.val.fst).fst.fst+(ak (ν (aj b y4.val.fst).fst.fst y5) (aj b y4.val.fst).fst.snd 255).snd.fst) y7) (ak (ν (aj b y4.val.fst).fst.fst y5) (aj b y4.val.fst).fst.snd 255).snd.snd 1099511627776).snd.fst) y9) (ak (ν ((aj b y4.val.fst).fst.fst+(ak (ν (aj b y4.val.fst).fst.fst y5) (aj b y4.val.fst).fst.snd 255).snd.fst) y7) (ak (ν (aj b y4.val.fst).fst.fst y5) (aj b y4.val.fst).fst.snd 255).snd.snd 1099511627776).snd.snd 63).snd.fst) y9.length,δ Z (ak (ν ((aj b y4.val.fst).fst.fst+(ak (ν (aj b y4.val.fst).fst.fst y5) (aj b y4.val.fst).fst.snd 255).snd.fst+(ak (ν ((aj b y4.val.fst).fst.fst+(ak (ν (aj b y4.val.fst).fst.fst y5) (aj b y4.val.fst).fst.snd 255).snd.fst) y7) (ak (ν (aj b y4.val.fst).fst.fst y5) (aj b y4.val.fst).fst.snd 255).snd.snd 1099511627776).snd.fst) y9) (ak (ν ((aj b y4.val.fst).fst.fst+(ak (ν (aj b y4.val.fst).fst.fst y5) (aj b y4.val.fst).fst.snd 255).snd.fst) y7) (ak (ν (aj b y4.val.fst).fst.fst y5) (aj b y4.val.fst).fst.snd 255).snd.snd 1099511627776).snd.snd 63).snd.snd],ω [V.imp [Z] false true 2 (av y4.val.snd [(ak (ν (aj b y4.val.fst).fst.fst y5) (aj b y4.val.fst).fst.snd 255).fst] [dn Z (ak (ν ((aj b y4.val.fst).fst.fst+(ak (ν (aj b y4.val.fst).fst.fst y5) (aj b y4.val.fst).fst.snd 255).snd.fst) y7) (ak (ν (aj b y4.val.fst).fst.fst y5) (aj b y4.val.fst).fst.snd 255).snd.snd 1099511627776).fst,dn Z (ak (ν ((aj b y4.val.fst).fst.fst+(ak (ν (aj b y4.val.fst).fst.fst y5) (aj b y4.val.fst).fst.snd 255).snd.fst+(ak (ν ((aj b y4.val.fst).fst.fst+(ak (ν (aj b y4.val.fst).fst.fst y5) (aj b y4.val.fst).fst.snd 255).snd.fst) y7) (ak (ν (aj b y4.val.fst).fst.fst y5) (aj b y4.val.fst).fst.snd 255).snd.snd 1099511627776).snd.fst) y9) (ak (ν ((aj b y4.val.fst).fst.fst+(ak (ν (aj b y4.val.fst).fst.fst y5) (aj b y4.val.fst).fst.snd 255).snd.fst) y7) (ak (ν (aj b y4.val.fst).fst.fst y5) (aj b y4.val.fst).fst.snd 255).snd.snd 1099511627776).snd.snd 63).fst])],ζ 5 1 (ints θ y9)]))))))/\
 (decide ((↑y4.val.fst:Int)<(↑(lc b):Int))=false->
 ∃(ca:List Int),ints θ b=ints θ ca/\
 b.length=ca.length/\
 ((fe (ν (aj b y4.val.fst).fst.fst ca) (aj b y4.val.fst).fst.snd != 0)=true->
 K dP [])/\
 ((fe (ν (aj b y4.val.fst).fst.fst ca) (aj b y4.val.fst).fst.snd != 0)=false->
 K (ar [cF [V.imp [Z] false true 2 y4.val.snd],ξ true]) []))
 ):aO Tryz.prog I3 (MJ b 34) 34 [an (.sl 1 (ints θ b))] [] (dh 0 K):=by apply Eq.mp (a:=ay);kernel_rfl
theorem RK:bW Tryz.prog I3:=dI mixed Tx aM 10
theorem Na:∀{M:ML} {k:List Int} {v:List D},(M.map (·.1)).Nodup->(av M k v).Perm ((k,v)::M.filter (fun e=>decide (e.1≠k)))
 | [],k,v,_=>by simp [av]
 | (a,c)::M,k,v,hn=>by
  simp only[List.map_cons,List.nodup_cons]at hn
  simp only[av]
  by_cases h:k=a
  ·subst h
   rw[if_pos rfl]
   have:M.filter (fun e=>decide (e.1≠k))=M:=by
    rw[List.filter_eq_self]
    intro e he
    simp only[decide_eq_true_eq]
    exact fun e1=>hn.1 (fH.2 ⟨e,he,e1⟩)
   rw[List.filter_cons_of_neg (by simp),this]
  ·rw[if_neg h,List.filter_cons_of_pos (by simpa using Ne.symm h)]
   exact((Na hn.2).cons (a,c)).trans (List.Perm.swap _ _ _)
theorem YY {x:List L3} {c n e:Int}:(nI x c n e).Perm ((c,n,e)::x.filter (fun p=>decide (p.1≠c))):=by
 have h1:=List.filter_append_perm (fun p:L3=>decide (p.1<c)) (x.filter (fun p=>decide (p.1≠c)))
 have e1:(x.filter (fun p=>decide (p.1≠c))).filter (fun p:L3=>decide (p.1<c))=x.filter (fun p=>decide (p.1<c)):=by
  rw[List.filter_filter]
  apply List.filter_congr
  intro p _
  by_cases h:p.1<c
  ·have:p.1≠c:=by omega
   simp [h,this]
  ·simp [h]
 have e2:(x.filter (fun p=>decide (p.1≠c))).filter (fun p:L3=> !decide (p.1<c))=x.filter (fun p=>decide (c<p.1)):=by
  rw[List.filter_filter]
  apply List.filter_congr
  intro p _
  by_cases h:c<p.1
  ·have h1:p.1≠c:=by omega
   have h2:¬ p.1<c:=by omega
   simp [h,h1,h2]
  ·by_cases h2:p.1=c
   ·simp [h2]
   ·have h3:p.1<c:=by omega
    simp [h,h3]
 rw[e1,e2]at h1
 unfold nI
 exact(List.perm_middle).trans (h1.cons _)
theorem YX {x:List L3} {c n e:Int} (h:cz x c n e=0):(0<=c/\c<=255/\1<=n/\n<=1099511627776/\0<=e/\e<=63)/\(jL x c=none->x.length<32):=by
 unfold cz at h
 split at h
 ·cases h
 ·rename_i hg
  refine⟨by omega,fun hn=>?_⟩
  rw[hn]at h
  simp only at h
  split at h
  ·cases h
  ·omega
theorem WF {x:List L3} {c:Int} (h:∀ p∈x,p.1≠c):jL x c=none:=by
 unfold jL
 rw[Sh (fun j hj=>h _ (rq hj))];rfl
theorem Aw {M:ML} {x:List L3} {c n e:Int} (h:bG M x) (h0:cz x c n e=0):bG (av M [c] [dn Z n,dn Z e]) (nI x c n e):=by
 obtain⟨hr,hn⟩:=YX h0
 have hp:(nI x c n e).Perm ((c,n,e)::x.filter (fun p=>decide (p.1≠c))):=YY
 refine⟨?_,?_,fun p Va=>?_,?_⟩
 ·have h1:=Na (M:=M) (k:=[c]) (v:=[dn Z n,dn Z e]) (Hi h)
  have h2:(M.filter (fun q=>decide (q.1≠[c]))).Perm ((x.map m7).filter (fun q=>decide (q.1≠[c]))):=h.perm.filter _
  have h3:(x.map m7).filter (fun q=>decide (q.1≠[c]))=(x.filter (fun p=>decide (p.1≠c))).map m7:=by
   rw[List.filter_map]
   congr 1
   apply List.filter_congr
   intro p _
   simp [m7]
  rw[h3]at h2
  have h4:=(hp.map m7).symm
  exact(h1.trans (h2.cons _)).trans h4
 ·unfold nI
  refine List.pairwise_append.2 ⟨h.inc.filter _,List.pairwise_cons.2 ⟨fun q hq=>?_,h.inc.filter _⟩,fun a ha b hb=>?_⟩
  ·have:=(lS.1 hq).2
   simp only[decide_eq_true_eq]at this
   exact this
  ·have h1:=(lS.1 ha).2
   simp only[decide_eq_true_eq]at h1
   rcases eP.1 hb with rfl | hb
   ·exact h1
   ·have h2:=(lS.1 hb).2
    simp only[decide_eq_true_eq]at h2
    omega
 ·rcases eP.1 (hp.mem_iff.1 Va)with rfl | h1
  ·exact hr
  ·exact h.rg p (lS.1 h1).1
 ·rw[hp.length_eq,io]
  have h1:=List.length_filter_le (fun p:L3=>decide (p.1≠c)) x
  cases hq:jL x c with
  |none=>have:=hn hq;omega
  |some q=>
   have h2:∃ p∈x,p.1=c:=by
    unfold jL at hq
    cases hc:my x c with
    |none=>rw[hc]at hq;cases hq
    |some i=>obtain⟨k1,k2,_⟩:=uU hc;exact⟨_,rq k1,k2⟩
   obtain⟨p,hpx,hpc⟩:=h2
   have h3:(x.filter (fun p:L3=>decide (p.1≠c))).length<x.length:=List.length_filter_lt_length_iff_exists.2 ⟨p,hpx,by simp [hpc]⟩
   have:=h.len
   omega
theorem YZ {x:List L3} {c n e:Int} (h:∀ p∈x,p.1<c):nI x c n e=x++[(c,n,e)]:=by
 unfold nI
 have e1:x.filter (fun p=>decide (p.1<c))=x:=by
  rw[List.filter_eq_self];intro p hp;simpa using h p hp
 have e2:x.filter (fun p=>decide (c<p.1))=[]:=by
  rw[List.filter_eq_nil_iff];intro p hp;have:=h p hp;simp;omega
 rw[e1,e2]
theorem VV {x:List L3} {c:Int} (hi:x.Pairwise (fun a b=>a.1<b.1)) (h:kR x<c):∀ p∈x,p.1<c:=fun p hp=>by
 unfold kR at h
 cases hl:x.getLast? with
 |none=>rw[List.getLast?_eq_none_iff]at hl;subst hl;cases hp
 |some q=>
  rw[hl]at h
  simp only at h
  obtain⟨y,rfl⟩:=List.getLast?_eq_some_iff.1 hl
  rcases gl.1 hp with h1 | h1
  ·have:=(List.pairwise_append.1 hi).2.2 p h1 q (gY.2 rfl);omega
  ·rw[gY]at h1;subst h1;exact h
theorem VX {x:List L3} {c:Int} (h0:0<=c) (h:∀ p∈x,p.1<c):kR x<c:=by
 unfold kR
 cases hl:x.getLast? with
 |none=>simp only;omega
 |some q=>exact h q (List.mem_of_getLast? hl)
theorem VY {x:List L3} {p:L3}:kR (x++[p])=p.1:=by unfold kR;simp
theorem wb {l:List Int} {most:Int} (h0:0<=most) (e:Int):(ak l e most).1<=most/\0<=(ak l e most).1:=by
 unfold ak
 split
 ·split
  ·split
   ·exact⟨h0,gp _⟩
   ·exact⟨by simp only;omega,by simp only;omega⟩
  ·exact⟨h0,gp _⟩
  ·exact⟨h0,gp _⟩
 ·exact⟨h0,gp _⟩
theorem Zb {b:List Int} {v:Int} {u:Nat} {most:Int} (hb:bm b) (h:ak b 0 most=(v,u,0)):b=aU v++b.drop u/\u=(aU v).length/\0<=v/\v<=9223372036854775807:=by
 unfold ak at h
 rw[if_pos rfl]at h
 split at h
 ·rename_i w n hn
  split at h
  ·simp at h
  ·simp only[Prod.mk.injEq,and_true]at h
   obtain⟨rfl,rfl⟩:=h
   obtain⟨h1,h2,r,h3⟩:=zE hb hn
   refine⟨?_,h2,by omega,h1⟩
   have:b.drop n=r:=by rw[h3,h2,List.drop_left]
   rw[this];exact h3
 ·simp at h
 ·simp at h
theorem zT {l:List Int} {e most:Int} (h:e≠0):ak l e most=(0,0,e):=by unfold ak;rw[if_neg h]
theorem tI {b:List Int} {p:Nat×Int} {m:Int} (h:(gd b p m).2=0):p.2=0:=Classical.byContradiction fun f=>by
 unfold gd at h
 rw[zT f]at h
 exact f h
theorem r7 {b:List Int} (hb:bm b) {p:Nat×Int} (h:p.1<=b.length) (m:Int):(gd b p m).1<=b.length:=by
 have:=(wc (nW hb p.1) p.2 m).2.2
 rw[fh]at this
 unfold gd;simp only;omega
theorem vP {b:List Int} (hb:bm b) {p:Nat×Int} {m:Int} (h:(gd b p m).2=0):b.drop p.1=aU (iw b p m)++b.drop (gd b p m).1:=by
 have hp:=tI h
 unfold gd at h
 simp only at h
 rw[hp]at h
 have:=Zb (b:=b.drop p.1) (v:=(ak (b.drop p.1) 0 m).1) (u:=(ak (b.drop p.1) 0 m).2.1) (most:=m) (nW hb _) (Prod.ext rfl (Prod.ext rfl h))
 unfold iw gd
 simp only
 rw[hp,<- List.drop_drop]
 exact this.1
theorem vO {pre rest:List Int} {v m:Int} (h0:0<=v) (h:v<=9223372036854775807) (hm:v<=m):gd (pre++(aU v++rest)) (pre.length,0) m=((pre++aU v).length,0)/\iw (pre++(aU v++rest)) (pre.length,0) m=v:=by
 unfold gd iw
 simp only
 rw[List.drop_left,Gk h0 h hm,bw]
 exact⟨rfl,rfl⟩
theorem MH {b:List Int}:iw b (0,0) 32=(lc b:Int)/\lc b<=32:=by
 have:=wb (l:=b.drop 0) (most:=32) (by omega) 0
 unfold lc iw
 simp only at this ⊢
 omega
theorem zd {b:List Int} (hb:bm b):∀ i,(aj b i).1.1<=b.length/\(aj b i).2.length=i
 | 0=>⟨r7 hb (bF _) _,rfl⟩
 |i+1=>by
  obtain⟨h1,h2⟩:=zd hb i
  exact⟨r7 hb (r7 hb (r7 hb h1 _) _) _,by simp only[aj,bw,ko,h2]⟩
theorem ME {b:List Int} (hb:bm b):∀ i,(aj b i).1.2=0->b=aU (lc b:Int)++(fL (aj b i).2++b.drop (aj b i).1.1)
 | 0,h=>by
  have:=vP (p:=(0,0)) (m:=32) hb h
  rw[MH.1]at this
  exact this
 |i+1,h=>by
  have h3:(s3 b (aj b i).1).2=0:=h
  have h2:(s2 b (aj b i).1).2=0:=tI h3
  have h1:(s1 b (aj b i).1).2=0:=tI h2
  have h0:(aj b i).1.2=0:=tI h1
  have ih:=ME hb i h0
  have a1:=vP (p:=(aj b i).1) (m:=255) hb h1
  have a2:=vP (p:=s1 b (aj b i).1) (m:=1099511627776) hb h2
  have a3:=vP (p:=s2 b (aj b i).1) (m:=63) hb h3
  have e:b.drop (aj b i).1.1=k8 (v3 b (aj b i).1)++b.drop (s3 b (aj b i).1).1:=by
   rw[a1]
   show _++b.drop (s1 b (aj b i).1).1=_
   rw[a2]
   show _++(_++b.drop (s2 b (aj b i).1).1)=_
   rw[a3]
   unfold k8 v3
   simp only[dQ]
   rfl
  rw[e]at ih
  show b=aU (lc b:Int)++(fL ((aj b i).2++[v3 b (aj b i).1])++b.drop (s3 b (aj b i).1).1)
  rw[CH,dQ]
  have e1:fL [v3 b (aj b i).1]=k8 (v3 b (aj b i).1):=by simp [fL]
  rw[e1]
  exact ih
theorem TY {x:List L3} {i:Nat} (h:i<x.length):x.drop i=g3 x i::x.drop (i+1):=by
 have h1:=List.drop_eq_getElem_cons h
 have h2:=rp h
 rw[bx h,bh.injEq]at h2
 rw[h1,h2]
theorem ze {x:List L3} (hx:fx x):lc (bb x)=x.length/\∀ i,i<=x.length->aj (bb x) i=(((eY x i).length,0),x.take i):=by
 have hl:=hx.len
 have e0:=vO (pre:=[]) (rest:=fL x) (v:=(x.length:Int)) (m:=32) (by omega) (by omega) (by omega)
 simp only[jm,jk]at e0
 have hc:lc (bb x)=x.length:=by
  unfold lc bb
  rw[e0.2];exact dr _
 refine⟨hc,fun i=>?_⟩
 induction i with
 |zero=>
  intro _
  show(gd (bb x) (0,0) 32,[])=_
  unfold bb
  rw[e0.1,Qc];rfl
 |succ i ih=>
  intro hi
  have ih:=ih (by omega)
  have hr:=hx.rg _ (rq (show i<x.length by omega))
  have Do:bb x=eY x i++(k8 (g3 x i)++fL (x.drop (i+1))):=by
   have e1:x=x.take i++g3 x i::x.drop (i+1):=by rw[<- TY (by omega),List.take_append_drop]
   have e2:fL x=fL (x.take i)++(k8 (g3 x i)++fL (x.drop (i+1))):=by
    conv=>lhs;rw[e1]
    rw[CH];simp [fL]
   unfold bb eY
   rw[e2,dQ]
  have a1:=vO (pre:=eY x i) (rest:=aU (g3 x i).2.1++aU (g3 x i).2.2++fL (x.drop (i+1))) (v:=(g3 x i).1) (m:=255) (by omega) (by omega) (by omega)
  have a2:=vO (pre:=eY x i++aU (g3 x i).1) (rest:=aU (g3 x i).2.2++fL (x.drop (i+1))) (v:=(g3 x i).2.1) (m:=1099511627776) (by omega) (by omega) (by omega)
  have a3:=vO (pre:=eY x i++aU (g3 x i).1++aU (g3 x i).2.1) (rest:=fL (x.drop (i+1))) (v:=(g3 x i).2.2) (m:=63) (by omega) (by omega) (by omega)
  have f1:eY x i++(aU (g3 x i).1++(aU (g3 x i).2.1++aU (g3 x i).2.2++fL (x.drop (i+1))))=bb x:=by rw[Do];unfold k8;simp only[dQ]
  have f2:eY x i++aU (g3 x i).1++(aU (g3 x i).2.1++(aU (g3 x i).2.2++fL (x.drop (i+1))))=bb x:=by rw[Do];unfold k8;simp only[dQ]
  have f3:eY x i++aU (g3 x i).1++aU (g3 x i).2.1++(aU (g3 x i).2.2++fL (x.drop (i+1)))=bb x:=by rw[Do];unfold k8;simp only[dQ]
  rw[f1]at a1
  rw[f2]at a2
  rw[f3]at a3
  have b1:s1 (bb x) ((eY x i).length,0)=((eY x i++aU (g3 x i).1).length,0):=a1.1
  have b2:s2 (bb x) ((eY x i).length,0)=((eY x i++aU (g3 x i).1++aU (g3 x i).2.1).length,0):=by unfold s2;rw[b1];exact a2.1
  have b3:s3 (bb x) ((eY x i).length,0)=((eY x (i+1)).length,0):=by
   unfold s3
   rw[b2,a3.1,Qd (by omega)]
   unfold k8
   simp only[dQ]
  have bv:v3 (bb x) ((eY x i).length,0)=g3 x i:=by
   unfold v3
   rw[b1,b2,a1.2,a2.2,a3.2]
  show(s3 (bb x) (aj (bb x) i).1,(aj (bb x) i).2++[v3 (bb x) (aj (bb x) i).1])=_
  rw[ih]
  simp only
  rw[b3,bv,<- DN (by omega)]
theorem Wx {x:List L3} (hx:fx x) {i:Nat} (hi:i<lc (bb x)):(s3 (bb x) (aj (bb x) i).1).2=0/\kR (aj (bb x) i).2<(v3 (bb x) (aj (bb x) i).1).1/\
  cz (aj (bb x) i).2 (v3 (bb x) (aj (bb x) i).1).1 (v3 (bb x) (aj (bb x) i).1).2.1 (v3 (bb x) (aj (bb x) i).1).2.2=0:=by
 obtain⟨h1,h2⟩:=ze hx
 rw[h1]at hi
 have e1:=h2 (i+1) (by omega)
 have e0:=h2 i (by omega)
 have e2:(s3 (bb x) (aj (bb x) i).1,(aj (bb x) i).2++[v3 (bb x) (aj (bb x) i).1])=(((eY x (i+1)).length,(0:Int)),x.take (i+1)):=e1
 rw[Prod.mk.injEq]at e2
 have ev:v3 (bb x) (aj (bb x) i).1=g3 x i:=by
  have e3:=e2.2
  rw[e0,DN hi]at e3
  simp only at e3
  have e4:=List.append_cancel_left e3
  simp only[List.cons.injEq,and_true]at e4
  rw[e0];exact e4
 have hr:=hx.rg _ (rq hi)
 have hlt:∀ p∈x.take i,p.1<(g3 x i).1:=fun p hp=>by
  obtain⟨j,hj,rfl⟩:=List.getElem_of_mem hp
  rw[cW]at hj
  have e5:=rp (show j<x.length by omega)
  rw[bx (show j<x.length by omega),bh.injEq]at e5
  rw[List.getElem_take,e5]
  exact Mp hx.inc (by omega) hi
 refine⟨by rw[e2.1],?_,?_⟩
 ·rw[ev,e0]
  exact VX hr.1 hlt
 ·rw[ev,e0]
  simp only
  unfold cz
  rw[if_neg (by omega),WF (fun p hp=>by have:=hlt p hp;omega)]
  simp only
  rw[if_neg (by rw[cW];have:=hx.len;omega)]
theorem JE {a:Int} (h:(a != 0)=true):a≠0:=by simpa using h
theorem JD {a:Int} (h:(a != 0)=false):a=0:=by simpa using h
theorem OT {l:List Int} {e:Int} (h:fe l e=0):e=0/\l=[]:=by
 unfold fe at h
 split at h
 ·omega
 ·rename_i hh
  refine⟨h,?_⟩
  by_cases hd:l=[]
  ·exact hd
  ·exact absurd ⟨hd,h⟩ hh
theorem TM {x:List L3} (hx:fx x):fe ((bb x).drop (aj (bb x) (lc (bb x))).1.1) (aj (bb x) (lc (bb x))).1.2=0:=by
 obtain⟨h1,h2⟩:=ze hx
 rw[h1,h2 _ (aE _),qN]
 show fe ((bb x).drop (bb x).length) 0=0
 rw[List.drop_length];rfl
theorem TL {b:List Int} (hb:bm b) (h:fe (b.drop (aj b (lc b)).1.1) (aj b (lc b)).1.2=0):b=bb (aj b (lc b)).2:=by
 obtain⟨h1,h2⟩:=OT h
 have:=ME hb _ h1
 rw[h2,fg]at this
 unfold bb
 rw[(zd hb (lc b)).2]
 exact this
theorem NN:aT Tryz.prog 34 xe:=jP RK mixed (fun args kb K h=>by
 unfold xe at h;split at h<;>try exact h.elim
 obtain⟨b,rfl,hb,hl,hno,hyes⟩:=h
 obtain⟨c1,c2⟩:=MH (b:=b)
 have bad:∀ i,i<lc b->¬ ((s3 b (aj b i).1).2=0/\kR (aj b i).2<(v3 b (aj b i).1).1/\cz (aj b i).2 (v3 b (aj b i).1).1 (v3 b (aj b i).1).2.1 (v3 b (aj b i).1).2.2=0)->K (.υ [.agg [γ (.map none)],ξ false]) []:=fun i hi hn=>hno (by
  rintro⟨x,hx,rfl⟩
  exact hn (Wx hx hi))
 have St:fe (b.drop (aj b (lc b)).1.1) (aj b (lc b)).1.2≠0->K (.υ [.agg [γ (.map none)],ξ false]) []:=fun hn=>hno (by
  rintro⟨x,hx,rfl⟩
  exact hn (TM hx))
 refine⟨MJ b 34,abQ b K ⟨by rw[be];omega,b,rfl,be,bF _,hb,by omega,?_,?_⟩⟩
 ·have e1:(ak (ν 0 b) 0 32).1=(lc b:Int):=c1
  rw[e1]
  exact At.mk' ⟨(0,[]),bF _,Qf,(zd hb 0).1⟩ rfl
 ·rintro⟨⟨i,M⟩,i2,ht,hpos⟩
  dsimp only at i2 ht hpos ⊢
  refine⟨fun hc=>?_,fun hc=>?_⟩
  ·have hi:i<lc b:=by have:(i:Int)<(lc b:Int):=of_decide_eq_true hc;omega
   have p1:=r7 hb hpos 255
   have p2:=r7 hb p1 1099511627776
   refine⟨b,rfl,rfl,hpos,hb,by omega,b,rfl,rfl,p1,hb,by omega,b,rfl,rfl,p2,hb,by omega,fun h1=>?_,fun h1=>⟨fun h2=>?_,fun h2=>⟨(aj b i).2,ht,fun h3=>⟨fun h4=>?_,fun h4=>absurd (JD h4) h3.h⟩,fun h3=>⟨fun f=>(by cases f),fun _=>?_⟩⟩⟩⟩
   ·have he:(s3 b (aj b i).1).2≠0:=JE h1
    exact bad i hi fun w=>he w.1
   ·have gM:(v3 b (aj b i).1).1<=kR (aj b i).2:=of_decide_eq_true h2
    exact bad i hi fun w=>by have:=w.2.1;omega
   ·exact bad i hi fun w=>h3.h w.2.2
   ·have gM:¬ (v3 b (aj b i).1).1<=kR (aj b i).2:=of_decide_eq_false h2
    have h4:bG (av M [(v3 b (aj b i).1).1] [dn Z (v3 b (aj b i).1).2.1,dn Z (v3 b (aj b i).1).2.2]) (nI (aj b i).2 (v3 b (aj b i).1).1 (v3 b (aj b i).1).2.1 (v3 b (aj b i).1).2.2):=Aw ht h3.h
    rw[YZ (VV ht.inc (Int.not_le.1 gM))]at h4
    have hL:Bb b (i+1) _:=⟨hi,h4,(zd hb (i+1)).1⟩
    have U0:(v3 b (aj b i).1).1=kR (aj b (i+1)).2:=VY.symm
    have e1:Z.wrap ((i:Int)+1)=((i+1:Nat):Int):=by rw[bR (by omega) (by omega)];rfl
    have key:∀(c' w':Int),c'=kR (aj b (i+1)).2->w'=((i+1:Nat):Int)->(([ac 0 0,ac 1 0,.int Z c',ac 2 0,.int Z (lc b:Int),.int Z w'],[ω [γ (.map none)],ω [.sl 3 (s3 b (aj b i).1).1 b.length,.int Z (s3 b (aj b i).1).2],ω [ai (av M [(v3 b (aj b i).1).1] [dn Z (v3 b (aj b i).1).2.1,dn Z (v3 b (aj b i).1).2.2])],ζ 5 1 (ints θ b)]):List V×KB)=(vD b).st ⟨(i+1,_),hL⟩:=by
     rintro _ _ rfl rfl;rfl
    exact Nx.mk' ⟨(i+1,_),hL⟩ (key _ _ U0 e1) (by show lc b - (i+1)<lc b - i;omega)
  ·have hi:i=lc b:=by
    have:¬ (i:Int)<(lc b:Int):=of_decide_eq_false hc
    omega
   subst hi
   exact⟨b,rfl,rfl,fun h1=>St (JE h1),fun h1=>hyes _ M ht (TL hb (JD h1))⟩)
noncomputable def XB:bM:=dF Tryz.prog xZ aM 10
def ow (k:Nat):Prop:=k<=8
abbrev qZ (a0 a1 a2 a3 a4 a5 a7 a8 a9 aB aX a12 aJ χ ψ aP aC aI aD a20 a21:Value) (C:List D) (o:Nat->List (List D)):LI where
 α:={k:Nat // ow k}
 live:=[0,3,9,10]
 dN:=[.slot 1 5 1]
 st k:=([ac 0 6,.sl 1 0 (16*k.1),.agg [bc 128 C],.int Z (k.1:Int)],[ω [γ a0,γ a1,γ a2,γ a3,γ a4,γ a5,bc 128 C,γ a7,γ a8,γ a9,γ aB,γ aX,γ a12,γ aJ,γ χ,γ ψ,γ aP,γ aC,γ aI,γ aD,γ a20,γ a21],ζ 5 1 (o k.1)])
 μ k:=8 - k.1
def Jm (a0 a1 a2 a3 a4 a5 a7 a8 a9 aB aX a12 aJ χ ψ aP aC aI aD a20 a21:Value) (C:List D) (o:Nat->List (List D)):FuncId->Nat->Option LI
 | 68,3=>some (qZ a0 a1 a2 a3 a4 a5 a7 a8 a9 aB aX a12 aJ χ ψ aP aC aI aD a20 a21 C o)
 |_,_=>none
abbrev rc (m:List Int) (o:Nat->List D) (z:List D):LI where
 α:={k:Nat // ow k}
 live:=[2,4,6,21]
 st k:=([ac 0 0,.sl 1 0 m.length,ac 2 0,.int Z (k.1:Int)],[ω [bc 128 z],ζ 5 1 (ints θ m),ω [bc 128 (o k.1)]])
 μ k:=8 - k.1
def Cw (m:List Int) (o:Nat->List D) (z:List D):FuncId->Nat->Option LI
 | 33,6=>some (rc m o z)
 |_,_=>none
theorem aa7 (a0 a1 a2 a3 a4 a5 a7 a8 a9 aB aX a12 aJ χ ψ aP aC aI aD a20 a21:Value) (c:List D) (A:List (List D)) (i:Int) (K:V->KB->Prop) (ay:
 let aq:KB:=[ω [γ a0,γ a1,γ a2,γ a3,γ a4,γ a5,bc 128 c,γ a7,γ a8,γ a9,γ aB,γ aX,γ a12,γ aJ,γ χ,γ ψ,γ aP,γ aC,γ aI,γ aD,γ a20,γ a21]];(decide (i ≥ 0)=true->
 ((!decide (i<8))=true->
 K (δ Z 1) aq)/\
 ((!decide (i<8))=false->
 (((↑A.length:Int) != 16)=true->
 K (δ Z 1) aq)/\
 (((↑A.length:Int) != 16)=false->
 16<=A.length/\
 16<=A.flatten.length/\
 br i 8/\
 i.toNat*16+16<=128/\
 K (δ Z 0) [ω [γ a0,γ a1,γ a2,γ a3,γ a4,γ a5,bc 128 (((ah (i.toNat*16) c++kL (ah 16 (ν 0 A.flatten)) [])++(ν (i.toNat*16+(kL (ah 16 (ν 0 A.flatten)) []).length) c))),γ a7,γ a8,γ a9,γ aB,γ aX,γ a12,γ aJ,γ χ,γ ψ,γ aP,γ aC,γ aI,γ aD,γ a20,γ a21]])))/\
 (decide (i ≥ 0)=false->
 K (δ Z 1) aq)
 ):aO Tryz.prog XB (aM 84) 84 [ac 0 6,.int Z i,an (.sl 1 A)] [ω [γ a0,γ a1,γ a2,γ a3,γ a4,γ a5,bc 128 c,γ a7,γ a8,γ a9,γ aB,γ aX,γ a12,γ aJ,γ χ,γ ψ,γ aP,γ aC,γ aI,γ aD,γ a20,γ a21]] K:=by apply Eq.mp (a:=ay);kernel_rfl
theorem aa6 (a0 a1 a2 a3 a4 a5 a7 a8 a9 aB aX a12 aJ χ ψ aP aC aI aD a20 a21:Value) (c:List D) (i:Int) (K:V->KB->Prop) (ay:
 let aq:=ω [γ a0,γ a1,γ a2,γ a3,γ a4,γ a5,bc 128 c,γ a7,γ a8,γ a9,γ aB,γ aX,γ a12,γ aJ,γ χ,γ ψ,γ aP,γ aC,γ aI,γ aD,γ a20,γ a21];let bB:=(ar [γ (eI none 0 0),δ Z 1]);(decide (i ≥ 0)=true->
 ((!decide (i<8))=true->
 K bB [aq])/\
 ((!decide (i<8))=false->
 br i 8/\
 True/\
 True/\
 0<=16/\
 16<=16/\
 (i.toNat*16+0+16<=128/\
 True)/\
 (jt (ah 16 (ν (i.toNat*16+0) c))).length<=140737488355328/\
 (jt (ah 16 (ν (i.toNat*16+0) c))=[]->
 True/\
 K (ar [γ (eI none 0 0),δ Z 0]) [aq])/\
 lg (jt (ah 16 (ν (i.toNat*16+0) c))).flatten/\
 K (ar [ε 1 0 (jt (ah 16 (ν (i.toNat*16+0) c))).length,δ Z 0]) [aq,ζ 5 1 (jt (ah 16 (ν (i.toNat*16+0) c)))]))/\
 (decide (i ≥ 0)=false->
 K bB [aq])
 ):aO Tryz.prog XB (aM 86) 86 [ac 0 6,.int Z i] [ω [γ a0,γ a1,γ a2,γ a3,γ a4,γ a5,bc 128 c,γ a7,γ a8,γ a9,γ aB,γ aX,γ a12,γ aJ,γ χ,γ ψ,γ aP,γ aC,γ aI,γ aD,γ a20,γ a21]] K:=by apply Eq.mp (a:=ay);kernel_rfl
theorem acA (a0 a1 a2 a3 a4 a5 a7 a8 a9 aB aX a12 aJ χ ψ aP aC aI aD a20 a21:Value) (c:List D) (i:Int) (K:V->KB->Prop) (ay:
 let aq:KB:=[ω [γ a0,γ a1,γ a2,γ a3,γ a4,γ a5,bc 128 c,γ a7,γ a8,γ a9,γ aB,γ aX,γ a12,γ aJ,γ χ,γ ψ,γ aP,γ aC,γ aI,γ aD,γ a20,γ a21]];(decide (i ≥ 0)=true->
 ((!decide (i<8))=true->
 K (δ Z 1) aq)/\
 ((!decide (i<8))=false->
 br i 8/\
 i.toNat*16+16<=128/\
 K (δ Z 0) [ω [γ a0,γ a1,γ a2,γ a3,γ a4,γ a5,bc 128 (((ah (i.toNat*16) c++(cQ 16 (η (κ θ 0))))++(ν (i.toNat*16+16) c))),γ a7,γ a8,γ a9,γ aB,γ aX,γ a12,γ aJ,γ χ,γ ψ,γ aP,γ aC,γ aI,γ aD,γ a20,γ a21]]))/\
 (decide (i ≥ 0)=false->
 K (δ Z 1) aq)
 ):aO Tryz.prog XB (aM 85) 85 [ac 0 6,.int Z i] [ω [γ a0,γ a1,γ a2,γ a3,γ a4,γ a5,bc 128 c,γ a7,γ a8,γ a9,γ aB,γ aX,γ a12,γ aJ,γ χ,γ ψ,γ aP,γ aC,γ aI,γ aD,γ a20,γ a21]] K:=by apply Eq.mp (a:=ay);kernel_rfl
theorem HA (a0 a1 a2 a3 a4 a5 a7 a8 a9 aB aX a12 aJ χ ψ aP aC aI aD a20 a21:Value) (c:List D) (o:Nat->List (List D)) (K:V->KB->Prop) (ay:
 let aq:=[γ a0,γ a1,γ a2,γ a3,γ a4,γ a5,bc 128 c,γ a7,γ a8,γ a9,γ aB,γ aX,γ a12,γ aJ,γ χ,γ ψ,γ aP,γ aC,γ aI,γ aD,γ a20,γ a21];At (qZ a0 a1 a2 a3 a4 a5 a7 a8 a9 aB aX a12 aJ χ ψ aP aC aI aD a20 a21 c o) ([ac 0 6,ε 1 0 0,cF [bc 128 c],δ Z 0],[ω aq,ζ 5 1 []])/\
 ∀(y2:{y1:Nat // ow y1}),let dP:=ω aq;let gJ:=(ah 16 (ν 0 (ah 16 (ν ((↑y2.val:Int).toNat*16) c))));(decide ((↑y2.val:Int)<8)=true->
 br (↑y2.val:Int) 8/\
 (↑y2.val:Int).toNat*16+16<=c.length/\
 True/\
 True/\
 0<=16/\
 16<=16/\
 16<=16/\
 16*y2.val<=(o y2.val).length/\
 (16*y2.val+(jt gJ).length)*1<=140737488355328/\
 Nx (qZ a0 a1 a2 a3 a4 a5 a7 a8 a9 aB aX a12 aJ χ ψ aP aC aI aD a20 a21 c o) y2 ([ac 0 6,ε 1 0 (16*y2.val+(jt gJ).length),cF [bc 128 c],δ Z (Z.wrap ((↑y2.val:Int)+1))],[dP,ζ 5 1 (ah (16*y2.val) (o y2.val)++jt gJ)]))/\
 (decide ((↑y2.val:Int)<8)=false->
 K (ε 1 0 (16*y2.val)) [dP,ζ 5 1 (o y2.val)])
 ):aO Tryz.prog XB (Jm a0 a1 a2 a3 a4 a5 a7 a8 a9 aB aX a12 aJ χ ψ aP aC aI aD a20 a21 c o 68) 68 [ac 0 6] [ω [γ a0,γ a1,γ a2,γ a3,γ a4,γ a5,bc 128 c,γ a7,γ a8,γ a9,γ aB,γ aX,γ a12,γ aJ,γ χ,γ ψ,γ aP,γ aC,γ aI,γ aD,γ a20,γ a21]] K:=by apply Eq.mp (a:=ay);kernel_rfl
theorem QE (l m:List Int) (o:Nat->List D) (z:List D) (K:V->KB->Prop) (ay:
 let aq:=[bc 128 (cQ 128 (η (κ θ 0)))];let bB:=[ac 0 0,γ (eI none 0 0),ac 1 0,δ Z 0];∃(y1:List Int),ints θ l=ints θ y1/\
 (∀(y2:Int),ct y2 y1->
 0<=y2/\
 y2<256)/\
 y1.length<=900000/\
 (em y1=none->
 (true=true->
 K (ar [cF aq,ξ false]) [])/\
 (true=false->
 (true=true->
 K (ar [cF aq,ξ false]) [])/\
 (true=false->
 At (rc m o z) (bB,[ω aq,ω aq])/\
 ∀(y4:{y3:Nat // ow y3}),let dP:=(ν (0+(Z.wrap ((↑y4.val:Int)*16)).toNat) (ints θ m));(decide ((↑y4.val:Int)<8)=true->
 aQ (Z.wrap ((↑y4.val:Int)*16))/\
 True/\
 (Z.wrap ((↑y4.val:Int)*16)).toNat<=m.length - 0/\
 m.length - 0<=m.length - 0/\
 16<=0+(m.length - 0) - (0+(Z.wrap ((↑y4.val:Int)*16)).toNat)/\
 16<=dP.flatten.length/\
 br (↑y4.val:Int) 8/\
 (↑y4.val:Int).toNat*16+16<=128/\
 Nx (rc m o z) y4 ([ac 0 0,ε 1 0 m.length,ac 2 0,δ Z (Z.wrap ((↑y4.val:Int)+1))],[ω [bc 128 z],ζ 5 1 (ints θ m),ω [bc 128 (splice (o y4.val) ((↑y4.val:Int).toNat*16) (kL (ah 16 (ν 0 dP.flatten)) []))]]))/\
 (decide ((↑y4.val:Int)<8)=false->
 K (ar [cF [bc 128 (o y4.val)],ξ true]) []))))/\
 ∀(y5:List Int),em y1=some y5->
 (y5=[]->
 (false=true->
 K (ar [cF aq,ξ false]) [])/\
 (false=false->
 (true=true->
 K (ar [cF aq,ξ false]) [])/\
 (true=false->
 At (rc m o z) (bB,[ω aq,ω aq])/\
 ∀(y7:{y6:Nat // ow y6}),let cK:=(ν (0+(Z.wrap ((↑y7.val:Int)*16)).toNat) (ints θ m));(decide ((↑y7.val:Int)<8)=true->
 aQ (Z.wrap ((↑y7.val:Int)*16))/\
 True/\
 (Z.wrap ((↑y7.val:Int)*16)).toNat<=m.length - 0/\
 m.length - 0<=m.length - 0/\
 16<=0+(m.length - 0) - (0+(Z.wrap ((↑y7.val:Int)*16)).toNat)/\
 16<=cK.flatten.length/\
 br (↑y7.val:Int) 8/\
 (↑y7.val:Int).toNat*16+16<=128/\
 Nx (rc m o z) y7 ([ac 0 0,ε 1 0 m.length,ac 2 0,δ Z (Z.wrap ((↑y7.val:Int)+1))],[ω [bc 128 z],ζ 5 1 (ints θ m),ω [bc 128 (splice (o y7.val) ((↑y7.val:Int).toNat*16) (kL (ah 16 (ν 0 cK.flatten)) []))]]))/\
 (decide ((↑y7.val:Int)<8)=false->
 K (ar [cF [bc 128 (o y7.val)],ξ true]) []))))/\
 (false=true->
 K (ar [cF aq,ξ false]) [])/\
 (false=false->
 (((↑(y5.length - 0):Int) != 128)=true->
 K (ar [cF aq,ξ false]) [])/\
 (((↑(y5.length - 0):Int) != 128)=false->
 At (rc m o z) ([ac 0 0,ε 1 0 y5.length,ac 2 0,δ Z 0],[ω aq,ζ 5 1 (ints θ y5),ω aq])/\
 ∀(y9:{y8:Nat // ow y8}),let dj:=(ν (0+(Z.wrap ((↑y9.val:Int)*16)).toNat) (ints θ m));(decide ((↑y9.val:Int)<8)=true->
 aQ (Z.wrap ((↑y9.val:Int)*16))/\
 True/\
 (Z.wrap ((↑y9.val:Int)*16)).toNat<=m.length - 0/\
 m.length - 0<=m.length - 0/\
 16<=0+(m.length - 0) - (0+(Z.wrap ((↑y9.val:Int)*16)).toNat)/\
 16<=dj.flatten.length/\
 br (↑y9.val:Int) 8/\
 (↑y9.val:Int).toNat*16+16<=128/\
 Nx (rc m o z) y9 ([ac 0 0,ε 1 0 m.length,ac 2 0,δ Z (Z.wrap ((↑y9.val:Int)+1))],[ω [bc 128 z],ζ 5 1 (ints θ m),ω [bc 128 (splice (o y9.val) ((↑y9.val:Int).toNat*16) (kL (ah 16 (ν 0 dj.flatten)) []))]]))/\
 (decide ((↑y9.val:Int)<8)=false->
 K (ar [cF [bc 128 (o y9.val)],ξ true]) [])))
 ):aO Tryz.prog XB (Cw m o z 33) 33 [an (.sl 1 (ints θ l))] [] K:=by apply Eq.mp (a:=ay);kernel_rfl
theorem uH:bW Tryz.prog XB:=dI mixed J4 aM 10
structure j_ (i:Int):Prop where
 lo:0<=i
 hi:i<8
def xJ:aH:=fun args kb K=>match args,kb with
 | [ac 0 6,.int Z i,an (.sl 1 A)],[ω [γ a0,γ a1,γ a2,γ a3,γ a4,γ a5,bc 128 C,γ a7,γ a8,γ a9,γ aB,γ aX,γ a12,γ aJ,γ χ,γ ψ,γ aP,γ aC,γ aI,γ aD,γ a20,γ a21]]=>∃ c b:List Int,C=aK θ c/\A=ints θ b/\c.length=128/\(j_ i/\b.length=16->K (.int Z 0) [ω [γ a0,γ a1,γ a2,γ a3,γ a4,γ a5,bc 128 (aK θ (splice c (i.toNat*16) b)),γ a7,γ a8,γ a9,γ aB,γ aX,γ a12,γ aJ,γ χ,γ ψ,γ aP,γ aC,γ aI,γ aD,γ a20,γ a21]])/\(¬ (j_ i/\b.length=16)->K (.int Z 1) [ω [γ a0,γ a1,γ a2,γ a3,γ a4,γ a5,bc 128 (aK θ c),γ a7,γ a8,γ a9,γ aB,γ aX,γ a12,γ aJ,γ χ,γ ψ,γ aP,γ aC,γ aI,γ aD,γ a20,γ a21]])
 |_,_=>False
def xI:aH:=fun args kb K=>match args,kb with
 | [ac 0 6,.int Z i],[ω [γ a0,γ a1,γ a2,γ a3,γ a4,γ a5,bc 128 C,γ a7,γ a8,γ a9,γ aB,γ aX,γ a12,γ aJ,γ χ,γ ψ,γ aP,γ aC,γ aI,γ aD,γ a20,γ a21]]=>∃ c:List Int,C=aK θ c/\c.length=128/\(j_ i->K (.int Z 0) [ω [γ a0,γ a1,γ a2,γ a3,γ a4,γ a5,bc 128 (aK θ (splice c (i.toNat*16) (cQ 16 0))),γ a7,γ a8,γ a9,γ aB,γ aX,γ a12,γ aJ,γ χ,γ ψ,γ aP,γ aC,γ aI,γ aD,γ a20,γ a21]])/\(¬ j_ i->K (.int Z 1) [ω [γ a0,γ a1,γ a2,γ a3,γ a4,γ a5,bc 128 (aK θ c),γ a7,γ a8,γ a9,γ aB,γ aX,γ a12,γ aJ,γ χ,γ ψ,γ aP,γ aC,γ aI,γ aD,γ a20,γ a21]])
 |_,_=>False
def xg:aH:=fun args kb K=>match args,kb with
 | [ac 0 6,.int Z i],[ω [γ a0,γ a1,γ a2,γ a3,γ a4,γ a5,bc 128 C,γ a7,γ a8,γ a9,γ aB,γ aX,γ a12,γ aJ,γ χ,γ ψ,γ aP,γ aC,γ aI,γ aD,γ a20,γ a21]]=>∃ c:List Int,C=aK θ c/\c.length=128/\(j_ i->K (.υ [.sl 1 0 16,.int Z 0]) [ω [γ a0,γ a1,γ a2,γ a3,γ a4,γ a5,bc 128 (aK θ c),γ a7,γ a8,γ a9,γ aB,γ aX,γ a12,γ aJ,γ χ,γ ψ,γ aP,γ aC,γ aI,γ aD,γ a20,γ a21],ζ 5 1 (ints θ ((c.drop (i.toNat*16)).take 16))])/\(¬ j_ i->K (.υ [γ (.slice none 0 0),.int Z 1]) [ω [γ a0,γ a1,γ a2,γ a3,γ a4,γ a5,bc 128 (aK θ c),γ a7,γ a8,γ a9,γ aB,γ aX,γ a12,γ aJ,γ χ,γ ψ,γ aP,γ aC,γ aI,γ aD,γ a20,γ a21]])
 |_,_=>False
def qV:aH:=fun args kb K=>match args,kb with
 | [ac 0 6],[ω [γ a0,γ a1,γ a2,γ a3,γ a4,γ a5,bc 128 C,γ a7,γ a8,γ a9,γ aB,γ aX,γ a12,γ aJ,γ χ,γ ψ,γ aP,γ aC,γ aI,γ aD,γ a20,γ a21]]=>∃ c:List Int,C=aK θ c/\c.length=128/\K (.sl 1 0 128) [ω [γ a0,γ a1,γ a2,γ a3,γ a4,γ a5,bc 128 (aK θ c),γ a7,γ a8,γ a9,γ aB,γ aX,γ a12,γ aJ,γ χ,γ ψ,γ aP,γ aC,γ aI,γ aD,γ a20,γ a21],ζ 5 1 (ints θ c)]
 |_,_=>False
theorem N0:aT Tryz.prog 84 xJ:=eM uH mixed (fun args kb K h=>by
 unfold xJ at h;split at h<;>try exact h.elim
 rename_i i A a0 a1 a2 a3 a4 a5 C a7 a8 a9 aB aX a12 aJ χ ψ aP aC aI aD a20 a21
 obtain⟨c,b,rfl,rfl,hl,h1,h2⟩:=h
 refine⟨aM 84,aa7 _ _ _ _ _ _ _ _ _ _ _ _ _ _ _ _ _ _ _ _ _ _ _ i K ⟨fun hi=>⟨fun h8=>h2 ?_,fun h8=>⟨fun hb=>h2 ?_,fun hb=>?_⟩⟩,fun hi=>h2 ?_⟩⟩
 ·rintro⟨⟨a1,a2⟩,_⟩;simp at h8;omega
 ·rintro⟨_,fl⟩;simp [be]at hb;omega
 ·simp only[be,bne_eq_false_iff_eq]at hb
  have hb:b.length=16:=by omega
  have hi:0<=i:=by simpa using hi
  have h8:i<8:=by simpa using h8
  have k:=h1 ⟨⟨hi,h8⟩,hb⟩
  refine⟨by rw[be];omega,by rw[vA];simp [aK];omega,by unfold br;omega,by omega,?_⟩
  have e:splice (aK θ c) (i.toNat*16) (kL (ah 16 (ν 0 (ints θ b).flatten)) [])=aK θ (splice c (i.toNat*16) b):=by
   rw[gK,vA,fI (by simp [aK];omega)]
   have:kL (aK θ b) []=aK θ b:=by simp [kL]
   rw[this]
   simp [splice,aK]
  rw[<- e]at k
  exact k
 ·rintro⟨⟨a1,a2⟩,_⟩;simp at hi;omega)
theorem NX:aT Tryz.prog 85 xI:=eM uH mixed (fun args kb K h=>by
 unfold xI at h;split at h<;>try exact h.elim
 rename_i i a0 a1 a2 a3 a4 a5 C a7 a8 a9 aB aX a12 aJ χ ψ aP aC aI aD a20 a21
 obtain⟨c,rfl,hl,h1,h2⟩:=h
 refine⟨aM 85,acA _ _ _ _ _ _ _ _ _ _ _ _ _ _ _ _ _ _ _ _ _ _ i K ⟨fun hi=>⟨fun h8=>h2 ?_,fun h8=>?_⟩,fun hi=>h2 ?_⟩⟩
 ·rintro⟨a1,a2⟩;simp at h8;omega
 ·have hi:0<=i:=by simpa using hi
  have h8:i<8:=by simpa using h8
  have k:=h1 ⟨hi,h8⟩
  refine⟨by unfold br;omega,by omega,?_⟩
  have e:splice (aK θ c) (i.toNat*16) (cQ 16 (η (.int θ 0)))=aK θ (splice c (i.toNat*16) (cQ 16 0)):=by
   simp [splice,aK]
  rw[<- e]at k
  exact k
 ·rintro⟨a1,a2⟩;simp at hi;omega)
theorem N5 {c:List Int} {o n:Nat}:jt (ah n (ν o (aK θ c)))=ints θ ((c.drop o).take n):=by
 simp only[jt,aK,ints,List.map_take,List.map_drop,List.map_map];rfl
theorem ND:aT Tryz.prog 86 xg:=eM uH mixed (fun args kb K h=>by
 unfold xg at h;split at h<;>try exact h.elim
 rename_i i a0 a1 a2 a3 a4 a5 C a7 a8 a9 aB aX a12 aJ χ ψ aP aC aI aD a20 a21
 obtain⟨c,rfl,hl,h1,h2⟩:=h
 refine⟨aM 86,aa6 _ _ _ _ _ _ _ _ _ _ _ _ _ _ _ _ _ _ _ _ _ _ i K ⟨fun hi=>⟨fun h8=>h2 ?_,fun h8=>?_⟩,fun hi=>h2 ?_⟩⟩
 ·rintro⟨a1,a2⟩;simp at h8;omega
 ·have hi:0<=i:=by simpa using hi
  have h8:i<8:=by simpa using h8
  have k:=h1 ⟨hi,h8⟩
  have hlen:((c.drop (i.toNat*16)).take 16).length=16:=by simp;omega
  simp only[Nat.add_zero,N5,be,hlen]
  refine⟨by unfold br;omega,trivial,trivial,by omega,by omega,⟨by omega,trivial⟩,by omega,fun e=>?_,⟨nG⟩,k⟩
  have:=congrArg List.length e
  rw[be,hlen]at this
  cases this
 ·rintro⟨a1,a2⟩;simp at hi;omega)
theorem FU:aT Tryz.prog 68 qV:=eM uH mixed (fun args kb K h=>by
 unfold qV at h;split at h<;>try exact h.elim
 obtain⟨c,rfl,hl,h⟩:=h
 refine⟨Jm _ _ _ _ _ _ _ _ _ _ _ _ _ _ _ _ _ _ _ _ _ (aK θ c) (fun k=>ints θ (c.take (16*k))) 68,HA _ _ _ _ _ _ _ _ _ _ _ _ _ _ _ _ _ _ _ _ _ _ (fun k=>ints θ (c.take (16*k))) K ⟨At.mk' ⟨0,bF _⟩ rfl,?_⟩⟩
 rintro⟨k,hk⟩
 simp only[ow]at hk ⊢
 have e2:((k:Nat):Int).toNat=k:=by omega
 refine⟨fun hc=>?_,fun hc=>?_⟩
 ·simp only[decide_eq_true_eq]at hc
  have w2:=bR (n:=(k:Int)+1) (by omega) (by omega)
  have e3:jt (ah 16 (ν 0 (ah 16 (ν (k*16) (aK θ c)))))=ints θ ((c.drop (16*k)).take 16):=by
   rw[gK,List.take_take,Nat.min_self,N5,Nat.mul_comm]
  have hlen:((c.drop (16*k)).take 16).length=16:=by simp;omega
  rw[e2,e3,w2,be,be,hlen]
  have e4:ah (16*k) (ints θ (c.take (16*k)))++ints θ ((c.drop (16*k)).take 16)=ints θ (c.take (16*(k+1))):=by
   rw[fI (by rw[be,cW];omega),<- po,Nat.mul_succ,List.take_add]
  refine⟨by unfold br;omega,by simp [aK];omega,trivial,trivial,by omega,by omega,by omega,by rw[cW];omega,by omega,?_⟩
  rw[e4]
  exact Nx.mk' (⟨k+1,by show k+1<=8;omega⟩:{k:Nat // ow k}) rfl (by show 8 - (k+1)<8 - k;omega)
 ·simp only[decide_eq_false_iff_not]at hc
  have:k=8:=by omega
  subst this
  rw[fI (by omega)]
  exact h)
abbrev ki:List Int:=cQ 128 0
def uB:aH:=fun args kb K=>match args,kb with
 | [an (.sl 1 A)],[]=>∃ l:List Int,A=ints θ l/\bm l/\l.length<=900000/\(∀ m,em l=some m->m.length=128->K (.υ [.agg [bc 128 (aK θ m)],ξ true]) [])/\((∀ m,em l=some m->¬ m.length=128)->K (.υ [.agg [bc 128 (aK θ ki)],ξ false]) [])
 |_,_=>False
def mZ (m:List Int) (k:Nat):List D:=aK θ (m.take (16*k)++cQ (128 - 16*k) 0)
theorem Sz {m:List Int} (hm:m.length=128) {k:Nat} (hk:k<8):splice (mZ m k) (k*16) (kL (ah 16 (ν 0 (ν (k*16) (ints θ m)).flatten)) [])=mZ m (k+1):=by
 have e1:kL (ah 16 (ν 0 (ν (k*16) (ints θ m)).flatten)) []=aK θ ((m.drop (k*16)).take 16):=by
  rw[yZ,vA,gK]
  simp [kL,aK]
 rw[e1]
 have e2:splice (mZ m k) (k*16) (aK θ ((m.drop (k*16)).take 16))=aK θ (splice (m.take (16*k)++cQ (128 - 16*k) 0) (k*16) ((m.drop (k*16)).take 16)):=by
  simp [splice,aK,mZ]
 rw[e2]
 unfold mZ
 congr 1
 unfold splice
 have l1:(m.take (16*k)).length=16*k:=by rw[cW];omega
 have l2:((m.drop (k*16)).take 16).length=16:=by simp;omega
 have a1:ah (k*16) (m.take (16*k)++cQ (128 - 16*k) (0:Int))=m.take (16*k):=by
  rw[List.take_append_of_le_length (by omega)];exact fI (by omega)
 have a2:ν (k*16+16) (m.take (16*k)++cQ (128 - 16*k) (0:Int))=cQ (128 - 16*(k+1)) 0:=by
  rw[List.drop_append,List.drop_of_length_le (by omega),jm,List.drop_replicate,l1];congr 1;omega
 rw[l2,a1,a2,show 16*(k+1)=16*k+16 by omega,List.take_add,show k*16=16*k by omega]
theorem FV:aT Tryz.prog 33 uB:=eM uH mixed (fun args kb K h=>by
 unfold uB at h;split at h<;>try exact h.elim
 obtain⟨l,rfl,hb,hl,h1,h2⟩:=h
 cases ho:em l with
 |none=>
  refine⟨Cw [] (mZ []) [] 33,QE l [] (mZ []) [] K ⟨l,rfl,hb,hl,fun _=>⟨fun _=>h2 (fun m hm=>by rw[ho]at hm;cases hm),fun h=>by cases h⟩,fun m hm=>by rw[ho]at hm;cases hm⟩⟩
 |some m=>
  have hml:=zL ho
  refine⟨Cw m (mZ m) (cQ 128 (η (.int θ 0))) 33,QE l m (mZ m) (cQ 128 (η (.int θ 0))) K ⟨l,rfl,hb,hl,fun h0=>(by rw[ho]at h0;cases h0),fun m' hm=>?_⟩⟩
  rw[ho]at hm;cases hm
  refine⟨fun e=>⟨fun h=>(by cases h),fun _=>⟨fun _=>h2 (fun m' hm'=>?_),fun h=>?_⟩⟩,fun h=>(by cases h),fun _=>⟨fun hn=>h2 (fun m' hm'=>?_),fun hn=>?_⟩⟩
  ·rw[ho]at hm';cases hm'
   rw[e];simp
  ·cases h
  ·rw[ho]at hm';cases hm'
   simp only[kp,bne_iff_ne,ne_eq]at hn;omega
  ·have yO:m.length=128:=by simp only[kp,bne_eq_false_iff_eq]at hn;omega
   refine⟨At.mk' ⟨0,bF _⟩ rfl,?_⟩
   rintro⟨k,hk⟩
   simp only[ow]at hk ⊢
   refine⟨fun hc=>?_,fun hc=>?_⟩
   ·simp only[decide_eq_true_eq]at hc
    have w1:=bR (n:=(k:Int)*16) (by omega) (by omega)
    have w2:=bR (n:=(k:Int)+1) (by omega) (by omega)
    have e2:((k:Nat):Int).toNat=k:=by omega
    have e3:((k:Int)*16).toNat=k*16:=by omega
    rw[w1,w2,e2,e3]
    simp only[cL,kp]
    rw[Sz yO (by omega)]
    refine⟨by unfold aQ;omega,trivial,by omega,by omega,by omega,?_,by unfold br;omega,by omega,?_⟩
    ·rw[yZ,vA];simp [aK];omega
    ·exact Nx.mk' (⟨k+1,by show k+1<=8;omega⟩:{k:Nat // ow k}) rfl (by show 8 - (k+1)<8 - k;omega)
   ·simp only[decide_eq_false_iff_not]at hc
    have:k=8:=by omega
    subst this
    have e:mZ m 8=aK θ m:=by
     unfold mZ
     rw[fI (by omega)];simp
    rw[e]
    exact h1 m ho yO)
def Cv:FuncId->Option dw
 | 84=>some ⟨[.kM,.kM,.fp 1],xJ⟩
 | 86=>some ⟨[],xg⟩
 | 85=>some ⟨[],xI⟩
 | 68=>some ⟨[],qV⟩
 | 33=>some ⟨[.fp 1],uB⟩
 |f=>xZ f
noncomputable def XD:bM:=dF Tryz.prog Cv aM 10
theorem aa5 (a0 a1 a2 a3 a4 a5 a7 a8 a9 aB aX a12 aJ χ ψ aP aC aI aD a20 a21:Value) (c:List D) (K:V->KB->Prop) (ay:
 ∃(m5:List Int),
 c=aK θ m5/\
 m5.length=128/\
 (128<=(ints θ m5).length/\True)/\
 ∃(l:List Int),
 ν 0 (ah 128 (ints θ m5))=ints θ l/\
 (∀(c:Int),ct c l->0<=c/\c<256)/\
 l.length<=900000/\
 lg (ints θ (bT l)).flatten/\
 K (ε 1 0 (l.length+4))
 [ω [γ a0,γ a1,γ a2,γ a3,γ a4,γ a5,bc 128 (aK θ m5),γ a7,γ a8,γ a9,γ aB,γ aX,γ a12,γ aJ,γ χ,γ ψ,γ aP,γ aC,γ aI,γ aD,γ a20,γ a21],ζ 5 1 (ints θ (bT l))]
 ):aO Tryz.prog XD (aM 38) 38 [ac 0 6] [ω [γ a0,γ a1,γ a2,γ a3,γ a4,γ a5,bc 128 c,γ a7,γ a8,γ a9,γ aB,γ aX,γ a12,γ aJ,γ χ,γ ψ,γ aP,γ aC,γ aI,γ aD,γ a20,γ a21]] K:=by apply Eq.mp (a:=ay);kernel_rfl
theorem aba (a0 a1 a2 a3 a4 a5 a7 a8 a9 aB aX a12 aJ χ ψ aP aC aI aD a20 a21:Value) (c:List D) (K:V->KB->Prop) (ay:
 ∃(m5:List Int),
 c=aK θ m5/\
 m5.length=128/\
 128<=(ints θ m5).length/\
 (1<=1/\True)/\
 ∃(ls:List (List Int)),
 [[π 1 (ν 0 (ah 128 (ints θ m5)))]]=ι ax ls/\
 (ls.length<=1000000/\∀(l:List Int),ct l ls->(∀(c:Int),ct c l->0<=c/\c<256)/\l.length.le 1000000)/\
 True/\K (δ gq (dy ls.flatten)) [ω [γ a0,γ a1,γ a2,γ a3,γ a4,γ a5,bc 128 (aK θ m5),γ a7,γ a8,γ a9,γ aB,γ aX,γ a12,γ aJ,γ χ,γ ψ,γ aP,γ aC,γ aI,γ aD,γ a20,γ a21]]
 ):aO Tryz.prog XD (aM 49) 49 [ac 0 6] [ω [γ a0,γ a1,γ a2,γ a3,γ a4,γ a5,bc 128 c,γ a7,γ a8,γ a9,γ aB,γ aX,γ a12,γ aJ,γ χ,γ ψ,γ aP,γ aC,γ aI,γ aD,γ a20,γ a21]] K:=by apply Eq.mp (a:=ay);kernel_rfl
theorem Sy:dE Tryz.prog Cv:=fun f k h=>by
 unfold Cv at h
 split at h
 ·cases h;exact N0
 ·cases h;exact ND
 ·cases h;exact NX
 ·cases h;exact FU
 ·cases h;exact FV
 ·exact J4 _ _ h
theorem I0:bW Tryz.prog XD:=dI mixed Sy aM 10
def xh:aH:=fun args kb K=>match args,kb with
 | [ac 0 6],[ω [γ a0,γ a1,γ a2,γ a3,γ a4,γ a5,bc 128 C,γ a7,γ a8,γ a9,γ aB,γ aX,γ a12,γ aJ,γ χ,γ ψ,γ aP,γ aC,γ aI,γ aD,γ a20,γ a21]]=>∃ c:List Int,C=aK θ c/\c.length=128/\bm c/\K (.sl 1 0 132) [ω [γ a0,γ a1,γ a2,γ a3,γ a4,γ a5,bc 128 (aK θ c),γ a7,γ a8,γ a9,γ aB,γ aX,γ a12,γ aJ,γ χ,γ ψ,γ aP,γ aC,γ aI,γ aD,γ a20,γ a21],ζ 5 1 (ints θ (bT c))]
 |_,_=>False
def uC:aH:=fun args kb K=>match args,kb with
 | [ac 0 6],[ω [γ a0,γ a1,γ a2,γ a3,γ a4,γ a5,bc 128 C,γ a7,γ a8,γ a9,γ aB,γ aX,γ a12,γ aJ,γ χ,γ ψ,γ aP,γ aC,γ aI,γ aD,γ a20,γ a21]]=>∃ c:List Int,C=aK θ c/\c.length=128/\bm c/\K (.int gq (dy c)) [ω [γ a0,γ a1,γ a2,γ a3,γ a4,γ a5,bc 128 (aK θ c),γ a7,γ a8,γ a9,γ aB,γ aX,γ a12,γ aJ,γ χ,γ ψ,γ aP,γ aC,γ aI,γ aD,γ a20,γ a21]]
 |_,_=>False
theorem t128 {c:List Int} (h:c.length=128):ν 0 (ah 128 (ints θ c))=ints θ c:=by rw[<- h];rw[gK];exact fI (by rw[be];omega)
theorem NE:aT Tryz.prog 38 xh:=eM I0 mixed (fun args kb K h=>by
 unfold xh at h;split at h<;>try exact h.elim
 obtain⟨c,rfl,hl,hb,h⟩:=h
 refine⟨aM 38,aa5 _ _ _ _ _ _ _ _ _ _ _ _ _ _ _ _ _ _ _ _ _ _ K ⟨c,rfl,hl,⟨by rw[be];omega,trivial⟩,c,t128 hl,hb,by omega,⟨nG⟩,?_⟩⟩
 rw[hl];exact h)
theorem FX:aT Tryz.prog 49 uC:=eM I0 mixed (fun args kb K h=>by
 unfold uC at h;split at h<;>try exact h.elim
 obtain⟨c,rfl,hl,hb,h⟩:=h
 refine⟨aM 49,aba _ _ _ _ _ _ _ _ _ _ _ _ _ _ _ _ _ _ _ _ _ _ K ⟨c,rfl,hl,by rw[be];omega,⟨by decide,trivial⟩,[c],by rw[t128 hl];rfl,⟨by simp,fun x hx=>?_⟩,trivial,?_⟩⟩
 ·cases hx with
  |head=>exact⟨hb,by show c.length<=1000000;omega⟩
  |tail _ hx=>cases hx
 ·rw[J_];exact h)
end Go.Proofs.YtfcjngcnifdmnaaGreat
set_option linter.unusedSimpArgs false
set_option linter.unusedVariables false
namespace Vc
open Go
open Go.IntKind renaming i64->Z,u8->θ,u32->gq
open List renaming map->ι,drop->ν,take->ah,length_append->bw,getElem?_eq_getElem->bx,getElem?_eq_some_iff->bU,length_map->cg,Mem->ct,take_length->cN,replicate->cQ,length_take->cW,append_assoc->dQ,getElem?_append_right->ef,getElem?_append_left->eH,mem_cons->eP,append_nil->fg,length_drop->fh,getElem?_map->fG,mem_map->fH,take_of_length_le->fI,getElem?_set_ne->fR,mem_cons_of_mem->fS,mem_append->gl,mem_of_getElem?->gm,getElem?_eq_none->gA,getElem?_set_self->gB,length_set->gC,range->gD,drop_zero->gK,mem_singleton->gY,flatten_cons->im,length_cons->io,mem_cons_self->iA,getElem?_take_of_lt->jj,length_nil->jk,nil_append->jm,getElem?_drop->jB,map_append->jC,take_add_one->jY,ext_getElem?->km,getD_eq_getElem?_getD->kn,length_singleton->ko,eq_nil_of_length_eq_zero->kG,mem_append_left->lR,mem_filter->lS
open Go.Value renaming int->κ,slice->eI,bool->fa,map->gr,oneCell'->kq
open Nat renaming le_refl->aE,zero_le->bF,beq->bZ,eq_of_beq_eq_true->cy,zero_add->cL,add_assoc->fT,lor->gE,lt_or_ge->iX,sub_zero->kp
open Option renaming some->bh,bind_eq_some_iff->jF,map->jZ
open Int renaming toNat_natCast->dr,le_refl->gp
open Bool renaming and_eq_true->kE
def kS (f:Nat->Value):List Bool->List V->Nat->Option (List V)
 |true::ms,v::l,i=>match v,kS f ms l (i+1)with
  | .arr _ _,_=>none
  |_,some r=>some (.any (f i)::r)
  |_,none=>none
 |false::ms,v::l,i=>match kS f ms l (i+1)with
  |some r=>some (v::r)
  |none=>none
 | [],l,_=>some l
 |_:: _,[],_=>some []
def mh (f:Nat->Value):List Bool->List V->List V->Nat->Option (List (Value×Value)×List V)
 |true::ms,v::l,w::l2,i=>match w,mh f ms l l2 (i+1)with
  | .any y',some (es,r)=>some ((y',f i)::es,v::r)
  |_,_=>none
 |false::ms,_::l,w::l2,i=>match mh f ms l l2 (i+1)with
  |some (es,r)=>some (es,w::r)
  |none=>none
 | [],_,l2,_=>some ([],l2)
 |_:: _,[],[],_=>some ([],[])
 |_,_,_,_=>none
def bP:List (Value×Value)->Prop
 | []=>True
 |p::l=>p.1=p.2/\bP l
structure IK (l:List (Value×Value)):Prop where
 h:bP l
abbrev bu (f:Nat->Value) (l:List Nat):Prop:=IK (l.map fun i=>(f i,f i))
def jE (f:Nat->Value) (σ:Sg) (E:EH):List Bool->List V->Nat->Prop
 |true::ms,v::l,i=>((f i).oneCell'=true/\Den σ E v (f i))/\jE f σ E ms l (i+1)
 |false::ms,v::l,i=>jE f σ E ms l (i+1)
 | [],_,_=>True
 |_:: _,[],_=>True
theorem Fj {f g:Nat->Value}:∀{ms:List Bool} {l:List V} {i:Nat},(∀ j,i<=j->f j=g j)->kS f ms l i=kS g ms l i
 |true::ms,v::l,i,h=>by simp only[kS,Fj (ms:=ms) (l:=l) (i:=i+1) (fun j hj=>h j (by omega)),h i (aE _)]
 |false::ms,v::l,i,h=>by simp only[kS,Fj (ms:=ms) (l:=l) (i:=i+1) (fun j hj=>h j (by omega))]
 | [],l,i,h=>rfl
 |true:: _,[],i,h=>rfl
 |false:: _,[],i,h=>rfl
theorem Bc {f g:Nat->Value} {σ:Sg} {E:EH}:∀{ms:List Bool} {l:List V} {i:Nat},(∀ j,i<=j->f j=g j)->jE f σ E ms l i->jE g σ E ms l i
 |true::ms,v::l,i,h,k=>by
  simp only[jE]at k ⊢
  rw[<- h i (aE _)]
  exact⟨k.1,Bc (fun j hj=>h j (by omega)) k.2⟩
 |false::ms,v::l,i,h,k=>by
  simp only[jE]at k ⊢
  exact Bc (fun j hj=>h j (by omega)) k
 | [],l,i,h,k=>by simp only[jE]
 |true:: _,[],i,h,k=>by simp only[jE]
 |false:: _,[],i,h,k=>by simp only[jE]
theorem zo {σ:Sg} {E:EH}:∀{ms:List Bool} {l:List V} {i:Nat} {xs:List Value},aS σ E l xs->∃ f:Nat->Value,(∀ l',kS f ms l i=some l'->aS σ E l' xs/\jE f σ E ms l i)
 | [],l,i,xs,hd=>⟨fun _=>undef,fun l' h=>by simp only[kS,bh.injEq]at h;subst h;exact⟨hd,by simp only[jE]⟩⟩
 |true:: _,[],i,xs,hd=>⟨fun _=>undef,fun l' h=>by simp only[kS,bh.injEq]at h;subst h;exact⟨hd,by simp only[jE]⟩⟩
 |false:: _,[],i,xs,hd=>⟨fun _=>undef,fun l' h=>by simp only[kS,bh.injEq]at h;subst h;exact⟨hd,by simp only[jE]⟩⟩
 |false::ms,v::l,i,xs,hd=>by
  obtain⟨ys,zs,rfl,h1,h2⟩:=hd.gx
  obtain⟨f,hf⟩:=zo (ms:=ms) (i:=i+1) h2
  refine⟨f,fun l' h=>?_⟩
  simp only[kS]at h
  split at h<;>try (cases h;done)
  rename_i r hr
  cases h
  obtain⟨h3,h4⟩:=hf r hr
  exact⟨.cons h1 h3,by simp only[jE];exact h4⟩
 |true::ms,v::l,i,xs,hd=>by
  obtain⟨ys,zs,rfl,h1,h2⟩:=hd.gx
  obtain⟨f,hf⟩:=zo (ms:=ms) (i:=i+1) h2
  rcases h1 with ⟨y,rfl,hy,hv⟩ | ⟨m,cs,rfl,_,_⟩
  ·refine⟨fun j=>if j=i then y else f j,fun l' h=>?_⟩
   have hc:∀ j,i+1<=j->(fun j=>if j=i then y else f j) j=f j:=fun j hj=>by dsimp only;rw[if_neg (by omega)]
   simp only[kS,Fj hc]at h
   split at h<;>try (cases h;done)
   rename_i _ _ r _ hr
   simp only[if_true,bh.injEq]at h
   subst h
   obtain⟨h3,h4⟩:=hf r hr
   refine⟨aS.hU (by simp [Den]) hy h3,?_⟩
   simp only[jE,if_pos rfl]
   exact⟨⟨hy,hv⟩,Bc (fun j hj=>(hc j hj).symm) h4⟩
  ·exact⟨fun _=>undef,fun l' h=>by simp only[kS]at h;cases h⟩
theorem Hw {f:Nat->Value} {σ τ:Sg} {E E':EH} (hE:E.le E'):∀{ms:List Bool} {l l2:List V} {i:Nat} {es:List (Value×Value)} {r:List V},mh f ms l l2 i=some (es,r)->bP es->jE f σ E ms l i->∀{xs:List Value},aS (σ++τ) E' l2 xs->aS (σ++τ) E' r xs
 | [],l,l2,i,es,r,h,hs,hm,xs,hd=>by
  simp only[mh,bh.injEq,Prod.mk.injEq]at h
  rw[<- h.2];exact hd
 |false::ms,v::l,w::l2,i,es,r,h,hs,hm,xs,hd=>by
  simp only[mh]at h
  split at h<;>try (cases h;done)
  rename_i es' r' hr
  cases h
  simp only[jE]at hm
  obtain⟨ys,zs,rfl,h1,h2⟩:=hd.gx
  exact .cons h1 (Hw hE hr hs hm h2)
 |true::ms,v::l,w::l2,i,es,r,h,hs,hm,xs,hd=>by
  simp only[mh]at h
  split at h<;>try (cases h;done)
  rename_i y' es' r' hr
  cases h
  simp only[jE]at hm
  simp only[bP]at hs
  obtain⟨ys,zs,rfl,h1,h2⟩:=hd.gx
  rcases h1 with ⟨z,rfl,hz,rM⟩ | ⟨m,cs,e,_,_⟩
  ·simp only[Den]at rM
   subst rM
   rw[hs.1]at*
   exact aS.hU (Den.mono hE hm.1.2) hm.1.1 (Hw hE hr hs.2 hm.2 h2)
  ·cases e
 |true:: _,[],[],i,es,r,h,hs,hm,xs,hd=>by
  simp only[mh,bh.injEq,Prod.mk.injEq]at h
  rw[<- h.2];exact hd
 |false:: _,[],[],i,es,r,h,hs,hm,xs,hd=>by
  simp only[mh,bh.injEq,Prod.mk.injEq]at h
  rw[<- h.2];exact hd
 |true:: _,[],_:: _,i,es,r,h,hs,hm,xs,hd=>by simp [mh]at h
 |true:: _,_:: _,[],i,es,r,h,hs,hm,xs,hd=>by simp [mh]at h
 |false:: _,[],_:: _,i,es,r,h,hs,hm,xs,hd=>by simp [mh]at h
 |false:: _,_:: _,[],i,es,r,h,hs,hm,xs,hd=>by simp [mh]at h
def dK (ms:List Bool) (S:aH):aH:=fun args kb K=>match kb with
 | .cells l::r=>∀ f:Nat->Value,match kS f ms l 0 with
  |some l'=>wn S args (.cells l'::r) (fun res bC=>match bC with
   | .cells l2::r2=>match mh f ms l l2 0 with
    |some (es,l3)=>IK es/\K res (.cells l3::r2)
    |none=>False
   |_=>False)
  |none=>False
 |_=>False
theorem qF {σ:Sg} {l l':List V} {r:KB} {b:Nat} (h:b9 σ (.cells l::r) b):b9 σ (.cells l'::r) b:=by
 obtain⟨i,q,o,h1,h2,h3⟩:=h
 cases i with
 |zero=>simp at h2;subst h2;exact⟨0,q,.cells l',h1,rfl,h3⟩
 |succ i=>exact⟨i+1,q,o,h1,by simpa using h2,h3⟩
theorem eK {P:Program} {f:FuncId} {S:aH} (hS:aT P f S) (ms:List Bool):aT P f (dK ms S):=fun args kb K h σ E W xs hi hd=>by
 unfold dK at h
 split at h<;>try exact h.elim
 rename_i l r
 have h0:∃ q,σ[0]? =some q:=by
  have:=hi.len
  cases σ with
  |nil=>simp at this
  |cons q σ=>exact⟨q,rfl⟩
 obtain⟨q,hq⟩:=h0
 obtain⟨arr,ty,ha,hl⟩:=hi.obj 0 q _ hq rfl
 obtain⟨f,hf⟩:=zo (ms:=ms) (i:=0) hl
 have h:=h f
 split at h<;>try exact h.elim
 rename_i l' hl'
 obtain⟨h1,h2⟩:=hf l' hl'
 have h3:=h
 have hi':Inv σ E (.cells l'::r) W:=by
  refine⟨by simpa using hi.len,fun i q' o k1 k2=>?_,fun i j q1 q2 o o' b hij k1 k2 k3 k4 k5 k6=>?_,hi.cP,fun b hb=>hi.sep b (qF hb)⟩
  ·cases i with
   |zero=>
    simp at k2;subst k2
    rw[hq]at k1;cases k1
    exact⟨arr,ty,ha,h1⟩
   |succ i=>exact hi.obj (i+1) q' o k1 (by simpa using k2)
  ·have key:∀(i:Nat) (o:KO) (q:Re),(KO.cells l'::r)[i]? =some o->owned q o b->∃ o2,(KO.cells l::r)[i]? =some o2/\owned q o2 b:=fun i o q h2 h5=>by
    cases i with
    |zero=>simp at h2;subst h2;exact⟨_,rfl,h5⟩
    |succ i=>exact⟨o,by simpa using h2,h5⟩
   obtain⟨o2,g1,g2⟩:=key i o q1 k2 k5
   obtain⟨o3,g3,g4⟩:=key j o' q2 k4 k6
   exact hi.c9 i j q1 q2 o2 o3 b hij k1 g1 k3 g3 g2 g4
 refine(Ao hS h3 hi' hd).mono ?_
 rintro e W' ⟨v,res,σ',E',bC,rfl,hst,dT,hK⟩
 split at hK<;>try exact hK.elim
 rename_i l2 r2
 obtain⟨τ,rfl⟩:=hst.pre
 have np:(σ++τ)[0]? =some q:=fE hq
 obtain⟨Se,Qx,Uj,hl2⟩:=hst.inv.obj 0 q _ np rfl
 split at hK<;>try exact hK.elim
 rename_i es l3 hun
 obtain⟨hsame,h5⟩:=hK
 have h4:=Hw hst.le hun hsame.h h2 hl2
 refine⟨v,res,σ++τ,E',.cells l3::r2,rfl,⟨?_,⟨hst.bK.os,hst.bK.tape,hst.bK.output,hst.bK.size,fun k hk hn=>hst.bK.block k hk (fun ho=>hn (qF ho))⟩,⟨τ,rfl⟩,hst.le,fun b hb=>?_,fun b o hb=>?_⟩,dT,h5⟩
 ·refine⟨by simpa using hst.inv.len,fun i q' o k1 k2=>?_,fun i j q1 q2 o o' b hij k1 k2 k3 k4 k5 k6=>?_,hst.inv.cP,fun b hb=>hst.inv.sep b (qF hb)⟩
  ·cases i with
   |zero=>
    simp at k2;subst k2
    rw[np]at k1;cases k1
    exact⟨Se,Qx,Uj,h4⟩
   |succ i=>exact hst.inv.obj (i+1) q' o k1 (by simpa using k2)
  ·have key:∀(i:Nat) (o:KO) (q:Re),(KO.cells l3::r2)[i]? =some o->owned q o b->∃ o2,(KO.cells l2::r2)[i]? =some o2/\owned q o2 b:=fun i o q h2 h5=>by
    cases i with
    |zero=>simp at h2;subst h2;exact⟨_,rfl,h5⟩
    |succ i=>exact⟨o,by simpa using h2,h5⟩
   obtain⟨o2,g1,g2⟩:=key i o q1 k2 k5
   obtain⟨o3,g3,g4⟩:=key j o' q2 k4 k6
   exact hst.inv.c9 i j q1 q2 o2 o3 b hij k1 g1 k3 g3 g2 g4
 ·rcases hst.own b (qF hb)with k | k
  ·exact .inl (qF k)
  ·exact .inr k
 ·rcases hst.new b o hb with k | k | k
  ·exact .inl k
  ·exact .inr (.inl (qF k))
  ·exact .inr (.inr k)
end Vc
set_option linter.unusedSimpArgs false
set_option linter.unusedVariables false
namespace Vc
open Go Go.Shelf Go.RowKit Go.Proofs Go.Lib
open Go.IntKind renaming i64->Z,u8->θ,u32->gq
open List renaming map->ι,drop->ν,take->ah,length_append->bw,getElem?_eq_getElem->bx,getElem?_eq_some_iff->bU,length_map->cg,Mem->ct,take_length->cN,replicate->cQ,length_take->cW,append_assoc->dQ,getElem?_append_right->ef,getElem?_append_left->eH,mem_cons->eP,append_nil->fg,length_drop->fh,getElem?_map->fG,mem_map->fH,take_of_length_le->fI,getElem?_set_ne->fR,mem_cons_of_mem->fS,mem_append->gl,mem_of_getElem?->gm,getElem?_eq_none->gA,getElem?_set_self->gB,length_set->gC,range->gD,drop_zero->gK,mem_singleton->gY,flatten_cons->im,length_cons->io,mem_cons_self->iA,getElem?_take_of_lt->jj,length_nil->jk,nil_append->jm,getElem?_drop->jB,map_append->jC,take_add_one->jY,ext_getElem?->km,getD_eq_getElem?_getD->kn,length_singleton->ko,eq_nil_of_length_eq_zero->kG,mem_append_left->lR,mem_filter->lS
open Go.Value renaming int->κ,slice->eI,bool->fa,map->gr,oneCell'->kq
open Nat renaming le_refl->aE,zero_le->bF,beq->bZ,eq_of_beq_eq_true->cy,zero_add->cL,add_assoc->fT,lor->gE,lt_or_ge->iX,sub_zero->kp
open Option renaming some->bh,bind_eq_some_iff->jF,map->jZ
open Int renaming toNat_natCast->dr,le_refl->gp
open Bool renaming and_eq_true->kE
def xn (ty:TypeId):aH:=fun args kb K=>match args,kb with
 | [.any (.slice none 0 0),.int Z n],[]=>0<=n/\n<=1000000/\K (.sl 0 0 0) [.row ty 1 []]
 |_,_=>False
theorem Xf {P:Program} {ρ:Ren} (L:Lays8.n4 P ρ) (i0:TypeInfo) (z:Value) (hi0:P.info? (ρ.t 25)=some i0) (hz0:i0.zero=some z) (hs0:i0.size=1) (hb0:i0.bytes=8) (rL:z.cells.size=1):aT P (ρ.f 4) (xn (ρ.t 25)):=fun args kb K h σ E W xs hi hd=>by
 unfold xn at h
 split at h<;>try exact h.elim
 rename_i n
 obtain⟨h0,h1,h⟩:=h
 simp only[aw,Den]at hd
 obtain⟨x,xs',rfl,rfl,x2,QU,rfl,rfl,rfl⟩:=hd
 obtain⟨m,rfl⟩:∃ m:Nat,n=(m:Int):=⟨n.toNat,by omega⟩
 have hlen:σ.length=0:=hi.len
 rcases Nat.eq_zero_or_pos m with hm | hm
 ·subst hm
  refine(Any8.slices_Grow_room L none 0 0 0 W (aE _) (by omega) (by omega) (by omega)).mono ?_
  rintro e W' ⟨rfl,rfl⟩
  have hgrow:=hi.grow (W':=W') ⟨0,0,1⟩ (.row (ρ.t 25) 1 []) rfl rfl rfl (aE _) (fun _ _=>rfl) (fun b hb=>absurd rfl hb.1) ⟨rfl,wl.nil,aE _,bF _,.inl rfl⟩
  refine⟨_,.sl 0 0 0,_,E,_,rfl,hgrow,?_,h⟩
  simp only[Den]
  exact⟨⟨0,0,1⟩,none,by rw[ef (by omega),hlen];rfl,rfl,aE _,aE _,fun f=>absurd f (Nat.lt_irrefl _)⟩
 ·have hG:=Any8.slices_Grow_grow L i0 z hi0 hz0 (by omega) none 0 0 m [] W (aE _) (by omega) (by rw[hb0];omega) (by omega) (by simp) (fun _=>rfl) (fun a f=>by cases f)
  refine hG.mono ?_
  rintro e W' ⟨rfl,rfl⟩
  have hge:0+m<=grownCap W (0+m) 0 (ρ.t 25):=grownCap_ge W _ _ _
  have hle:=grownCap_le_maxLen W (0+m) 0 (ρ.t 25) (by simp only[maxLen];omega)
  have hheap:∀ o:Obj,(W.drew.alloc o).heap=W.heap.push o:=fun _=>rfl
  have hgrow:=hi.grow (W':=W.drew.alloc (.cells (([]:List Value).toArray++Builtin.zeroCells z.cells (0+m - 0)++Builtin.zeroCells z.cells (grownCap W (0+m) 0 (ρ.t 25) - (0+m))) (ρ.t 25)))
   ⟨W.heap.size,grownCap W (0+m) 0 (ρ.t 25),1⟩ (.row (ρ.t 25) 1 []) rfl rfl rfl (by rw[hheap,Array.size_push];omega) (fun k hk=>by rw[hheap,Array.getElem?_push_lt hk,Array.getElem?_eq_getElem hk]) (fun b hb=>by have:=hb.2;simp only at this;omega)
   ⟨rfl,wl.nil,bF _,hle,.inr ⟨_,(MapKept.heap_alloc W.drew _).1,by simp only[Array.size_append,List.size_toArray,size_zeroCells,rL,jk];omega,by simp [aY]⟩⟩
  refine⟨_,.sl 0 0 0,_,E,_,rfl,hgrow,?_,h⟩
  simp only[Den]
  exact⟨⟨W.heap.size,grownCap W (0+m) 0 (ρ.t 25),1⟩,some ⟨W.heap.size,0,none⟩,by rw[ef (by omega),hlen];rfl,rfl,aE _,bF _,fun _=>by simp⟩
end Vc
namespace Go.Proofs.YtfcjngcnifdmnaaGreat
open Go.Shelf
open Go.IntKind renaming i64->Z,u8->θ,u32->gq
open Vc.V renaming any->γ,int->δ,sl->ε,sb->ξ,ptr->ac,dat->an,υ->ar,ae->aG,mp->aV,arr->bc,agg->cF
open Vc.KO renaming row->ζ,dead->ο,cells->ω,objs->bE
open Vc.D renaming val->η,sl->π
open List renaming map->ι,drop->ν,take->ah,length_append->bw,getElem?_eq_getElem->bx,getElem?_eq_some_iff->bU,length_map->cg,Mem->ct,take_length->cN,replicate->cQ,length_take->cW,append_assoc->dQ,getElem?_append_right->ef,getElem?_append_left->eH,mem_cons->eP,append_nil->fg,length_drop->fh,getElem?_map->fG,mem_map->fH,take_of_length_le->fI,getElem?_set_ne->fR,mem_cons_of_mem->fS,mem_append->gl,mem_of_getElem?->gm,getElem?_eq_none->gA,getElem?_set_self->gB,length_set->gC,range->gD,drop_zero->gK,mem_singleton->gY,flatten_cons->im,length_cons->io,mem_cons_self->iA,getElem?_take_of_lt->jj,length_nil->jk,nil_append->jm,getElem?_drop->jB,map_append->jC,take_add_one->jY,ext_getElem?->km,getD_eq_getElem?_getD->kn,length_singleton->ko,eq_nil_of_length_eq_zero->kG,mem_append_left->lR,mem_filter->lS
open Go.Value renaming int->κ,slice->eI,bool->fa,map->gr,oneCell'->kq
open Nat renaming le_refl->aE,zero_le->bF,beq->bZ,eq_of_beq_eq_true->cy,zero_add->cL,add_assoc->fT,lor->gE,lt_or_ge->iX,sub_zero->kp
open Option renaming some->bh,bind_eq_some_iff->jF,map->jZ
open Int renaming toNat_natCast->dr,le_refl->gp
open Bool renaming and_eq_true->kE
def Ld:Go.Shelf.Ren:=⟨fun | 4=>100 | n=>n,fun | 22=>38 | 25=>3 | 3=>3 | 4=>4 | 9=>9 | 20=>20 | 0=>0 | n=>n,fun | n=>n⟩
theorem T1:Go.Proofs.Lays8.n4 Tryz.prog Ld:={
 mixed:=by kernel_rfl
 f4:=⟨Tryz.f100.name,by decide,Tryz.func100.trans (congrArg some (by kernel_rfl))⟩
 t0:=Tryz.underlying0
 a0:=Tryz.isAgg0
 z0:=Tryz.sizeOf0
 v0:=Tryz.zeroValue0
 t3:=Tryz.underlying3
 a3:=Tryz.isAgg3
 z3:=Tryz.sizeOf3
 v3:=Tryz.zeroValue3
 t4:=Tryz.underlying4
 a4:=Tryz.isAgg4
 z4:=Tryz.sizeOf4
 v4:=Tryz.zeroValue4
 t9:=Tryz.underlying9
 a9:=Tryz.isAgg9
 z9:=Tryz.sizeOf9
 v9:=Tryz.zeroValue9
 t20:=Tryz.underlying20
 a20:=Tryz.isAgg20
 z20:=Tryz.sizeOf20
 v20:=Tryz.zeroValue20
 t22:=Tryz.underlying38
 a22:=Tryz.isAgg38
 z22:=Tryz.sizeOf38
 v22:=Tryz.zeroValue38 }
theorem Xe:Vc.aT Tryz.prog 100 (Vc.xn 3):=Vc.Xf (ρ:=Ld) T1 ((Tryz.prog.info? 3).get (by kernel_rfl)) (.int Z 0) (by kernel_rfl) (by kernel_rfl) (by kernel_rfl) (by kernel_rfl) rfl
end Go.Proofs.YtfcjngcnifdmnaaGreat
namespace Go.Proofs.YtfcjngcnifdmnaaGreat
open Vc Go
open Go.IntKind renaming i64->Z,u8->θ,u32->gq
open Vc.V renaming any->γ,int->δ,sl->ε,sb->ξ,ptr->ac,dat->an,υ->ar,ae->aG,mp->aV,arr->bc,agg->cF
open Vc.KO renaming row->ζ,dead->ο,cells->ω,objs->bE
open Vc.D renaming val->η,sl->π
open List renaming map->ι,drop->ν,take->ah,length_append->bw,getElem?_eq_getElem->bx,getElem?_eq_some_iff->bU,length_map->cg,Mem->ct,take_length->cN,replicate->cQ,length_take->cW,append_assoc->dQ,getElem?_append_right->ef,getElem?_append_left->eH,mem_cons->eP,append_nil->fg,length_drop->fh,getElem?_map->fG,mem_map->fH,take_of_length_le->fI,getElem?_set_ne->fR,mem_cons_of_mem->fS,mem_append->gl,mem_of_getElem?->gm,getElem?_eq_none->gA,getElem?_set_self->gB,length_set->gC,range->gD,drop_zero->gK,mem_singleton->gY,flatten_cons->im,length_cons->io,mem_cons_self->iA,getElem?_take_of_lt->jj,length_nil->jk,nil_append->jm,getElem?_drop->jB,map_append->jC,take_add_one->jY,ext_getElem?->km,getD_eq_getElem?_getD->kn,length_singleton->ko,eq_nil_of_length_eq_zero->kG,mem_append_left->lR,mem_filter->lS
open Go.Value renaming int->κ,slice->eI,bool->fa,map->gr,oneCell'->kq
open Nat renaming le_refl->aE,zero_le->bF,beq->bZ,eq_of_beq_eq_true->cy,zero_add->cL,add_assoc->fT,lor->gE,lt_or_ge->iX,sub_zero->kp
open Option renaming some->bh,bind_eq_some_iff->jF,map->jZ
open Int renaming toNat_natCast->dr,le_refl->gp
open Bool renaming and_eq_true->kE
set_option linter.unusedVariables false
set_option linter.unusedSimpArgs false
set_option maxRecDepth 100000
def jd (Ls:List (List Int)):List (List D):=Ls.map fun l=>[π 1 (ints Z l)]
def fb (Ls:List (List Int)) (i:Nat):List Int:=(Ls.take i).flatten
abbrev CI (Ls:List (List Int)):LI where
 α:={i:Nat // i<=Ls.length}
 live:=[0,3,9,10,11]
 st i:=([an (.sl 1 (jd Ls)),.int Z ((fb Ls i.1).length:Int),an (.sl 1 (jd Ls)),.int Z (Ls.length:Int),.int Z (i.1:Int)],[])
 μ i:=Ls.length - i.1
abbrev CJ (Ls:List (List Int)):LI where
 α:={i:Nat // i<=Ls.length}
 live:=[6,25,26,27]
 st i:=([.sl 0 0 (fb Ls i.1).length,an (.sl 1 (jd Ls)),.int Z (Ls.length:Int),.int Z (i.1:Int)],[ζ 3 1 (ints Z (fb Ls i.1))])
 μ i:=Ls.length - i.1
def JV (Ls:List (List Int)):FuncId->Nat->Option LI
 | 73,3=>some (CI Ls)
 | 73,11=>some (CJ Ls)
 |_,_=>none
def DS:FuncId->Option dw
 | 100=>some ⟨[],xn 3⟩
 |_=>none
noncomputable def I8:bM:=dF Tryz.prog DS aM 10
def jp (p:Int->Bool) (l:List Int):Int:=match l.findIdx? p with | some i=>(i:Int) | none=>-1
abbrev rN (p:Int->Bool) (l:List Int) (v g:V) (B:KB):LI where
 α:={i:Nat // i<=l.length/\∀ j n,j<i->l[j]? =some n->p n=false}
 live:=[0,1,7,8]
 st i:=([v,g,.int Z (l.length:Int),.int Z (i.1:Int)],B)
 μ i:=l.length - i.1
def EL (p:Int->Bool) (l:List Int) (v g:V) (B:KB):FuncId->Nat->Option LI
 | 99,2=>some (rN p l v g B)
 |_,_=>none
def lz (me:Int) (n:Int):Bool:=n == me
def lZ (M:ML) (n:Int):Bool:=!hZ M [n] 0
def cM (n:Int):Bool:=decide (n<0∨1099511627776<n)
structure jW (M:ML):Prop where
 h:∀ k cs,bJ M k=some cs->∃ b,cs=[.val (.bool b)]
structure dm (n:Nat):Prop where
 h:n<=100000
def Br:aH:=fun args kb K=>match args,kb with
 | [an (.sl 1 A)],[]=>∃ Ls,A=jd Ls/\dm Ls.length/\dm (fb Ls Ls.length).length/\K (.sl 0 0 (fb Ls Ls.length).length) [ζ 3 1 (ints Z (fb Ls Ls.length))]
 |_,_=>False
def Bx:aH:=fun args kb K=>match args,kb with
 | [.sl 0 0 n,.fn 74 [ac 1 0]],[ζ 3 1 A,ω [ac 2 0],ω [.int Z me,γ a1,γ a2,γ a3,γ a4,γ a5,bc 128 C,γ a7,γ a8,γ a9,γ aB,an (.sl 1 M),an (.sl 1 J),γ aJ,γ χ,γ ψ,γ aP,γ aC,γ aI,γ aD,γ a20,γ a21]]=>∃ l,A=ints Z l/\n<=l.length/\dm l.length/\K (.int Z (jp (lz me) (l.take n))) [ζ 3 1 (ints Z l),ω [ac 2 0],ω [.int Z me,γ a1,γ a2,γ a3,γ a4,γ a5,bc 128 C,γ a7,γ a8,γ a9,γ aB,an (.sl 1 M),an (.sl 1 J),γ aJ,γ χ,γ ψ,γ aP,γ aC,γ aI,γ aD,γ a20,γ a21]]
 | [.sl 0 0 n,.fn 71 [ac 1 0]],[ζ 3 1 A,ω [.mp 2],.mp [Z] false false 1 M]=>∃ l,A=ints Z l/\n<=l.length/\dm l.length/\jW M/\K (.int Z (jp (lZ M) (l.take n))) [ζ 3 1 (ints Z l),ω [.mp 2],.mp [Z] false false 1 M]
 | [an (.sl 1 A),.fn 92 []],[]=>∃ l,A=ints Z l/\dm l.length/\K (.int Z (jp cM l)) []
 |_,_=>False
def dz (me:Int) (l:List Int):List Int:=l.filter fun x=> !(x == me)
def tv (me:Int) (l:List Int):List Int:=dz me l++cQ (l.length - (dz me l).length) 0
abbrev yg (a1 a2 a3 a4 a5 a7 a8 a9 aB aJ χ ψ aP aC aI aD a20 a21:Value) (C:List D) (M J:List (List D)) (me:Int) (l:List Int):LI where
 α:={j:Nat // j<=l.length/\(dz me (l.take j)).length<j}
 live:=[0,1,5,6]
 st j:=([.sl 0 0 l.length,.fn 74 [ac 1 0],.int Z ((dz me (l.take j.1)).length:Int),.int Z (j.1:Int)],[ζ 3 1 (ints Z (dz me (l.take j.1)++l.drop (dz me (l.take j.1)).length)),ω [ac 2 0],ω [.int Z me,γ a1,γ a2,γ a3,γ a4,γ a5,bc 128 C,γ a7,γ a8,γ a9,γ aB,an (.sl 1 M),an (.sl 1 J),γ aJ,γ χ,γ ψ,γ aP,γ aC,γ aI,γ aD,γ a20,γ a21]])
 μ j:=l.length - j.1
def Tn (a1 a2 a3 a4 a5 a7 a8 a9 aB aJ χ ψ aP aC aI aD a20 a21:Value) (C:List D) (M J:List (List D)) (me:Int) (l:List Int):FuncId->Nat->Option LI
 | 72,5=>some (yg a1 a2 a3 a4 a5 a7 a8 a9 aB aJ χ ψ aP aC aI aD a20 a21 C M J me l)
 |_,_=>none
def Bu:aH:=fun args kb K=>match args,kb with
 | [.sl 0 0 n,.fn 74 [ac 1 0]],[ζ 3 1 A,ω [ac 2 0],ω [.int Z me,γ a1,γ a2,γ a3,γ a4,γ a5,bc 128 C,γ a7,γ a8,γ a9,γ aB,an (.sl 1 M),an (.sl 1 J),γ aJ,γ χ,γ ψ,γ aP,γ aC,γ aI,γ aD,γ a20,γ a21]]=>∃ l,A=ints Z l/\n=l.length/\dm l.length/\K (.sl 0 0 (dz me l).length) [ζ 3 1 (ints Z (tv me l)),ω [ac 2 0],ω [.int Z me,γ a1,γ a2,γ a3,γ a4,γ a5,bc 128 C,γ a7,γ a8,γ a9,γ aB,an (.sl 1 M),an (.sl 1 J),γ aJ,γ χ,γ ψ,γ aP,γ aC,γ aI,γ aD,γ a20,γ a21]]
 |_,_=>False
def zM:FuncId->Option dw
 | 73=>some ⟨[.fp 1],Br⟩
 | 99=>some ⟨[],Bx⟩
 |_=>none
noncomputable def xR:bM:=dF Tryz.prog zM aM 10
def F9:FuncId->Option dw
 | 72=>some ⟨[],Bu⟩
 |f=>zM f
noncomputable def Je:bM:=dF Tryz.prog F9 aM 10
def bA (me:Int) (m j:List Int):List Int:=dz me (m++j)
def fC (me:Int) (m j:List Int):List Int:=tv me (m++j)
def sP:aH:=fun args kb K=>match args,kb with
 | [ac 0 0],[ω [.int Z me,γ a1,γ a2,γ a3,γ a4,γ a5,bc 128 C,γ a7,γ a8,γ a9,γ aB,an (.sl 1 M),an (.sl 1 J),γ aJ,γ χ,γ ψ,γ aP,γ aC,γ aI,γ aD,γ a20,γ a21]]=>∃ m j:List Int,M=ints Z m/\J=ints Z j/\dm (m.length+j.length)/\K (.sl 1 0 (bA me m j).length) [ω [.int Z me,γ a1,γ a2,γ a3,γ a4,γ a5,bc 128 C,γ a7,γ a8,γ a9,γ aB,an (.sl 1 M),an (.sl 1 J),γ aJ,γ χ,γ ψ,γ aP,γ aC,γ aI,γ aD,γ a20,γ a21],ζ 3 1 (ints Z (fC me m j))]
 |_,_=>False
def xk:aH:=fun args kb K=>match args,kb with
 | [.sl 0 0 n,.fn 71 [ac 1 0]],[ζ 3 1 A,ω [.mp 2],.mp [Z] false false 1 M]=>∃ l,A=ints Z l/\n<=l.length/\dm l.length/\jW M/\K (ξ ((l.take n).any (lZ M))) [ζ 3 1 (ints Z l),ω [.mp 2],.mp [Z] false false 1 M]
 | [an (.sl 1 A),.fn 92 []],[]=>∃ l,A=ints Z l/\dm l.length/\K (ξ (l.any cM)) []
 |_,_=>False
theorem abk (Ls:List (List Int)) (K:V->KB->Prop) (ay:
 At (CI Ls) ([an (π 1 (jd Ls)),δ Z 0,an (π 1 (jd Ls)),δ Z (↑(jd Ls).length:Int),δ Z 0],[])/\
 ∀(i:{i:Nat // i<=Ls.length }),
 (decide ((↑i.val:Int)<(↑Ls.length:Int))=true->
 aQ (↑i.val:Int)/\
 ∃(e:List D),
 (jd Ls)[(↑i.val:Int).toNat]? =some e/\
 ∃(l:List (List D)),
 e[0]? =some (π 1 l)/\
 (decide (Z.wrap ((↑(fb Ls i.val).length:Int)+(↑l.length:Int))<0)=true->False)/\
 (decide (Z.wrap ((↑(fb Ls i.val).length:Int)+(↑l.length:Int))<0)=false->Nx (CI Ls) i ([an (π 1 (jd Ls)),δ Z (Z.wrap ((↑(fb Ls i.val).length:Int)+(↑l.length:Int))),an (π 1 (jd Ls)),δ Z (↑Ls.length:Int),δ Z (Z.wrap ((↑i.val:Int)+1))],[])))/\
 (decide ((↑i.val:Int)<(↑Ls.length:Int))=false->
 0<=(↑(fb Ls i.val).length:Int)/\
 (↑(fb Ls i.val).length:Int)<=1000000/\
 At (CJ Ls) ([ε 0 0 0,an (π 1 (jd Ls)),δ Z (↑(jd Ls).length:Int),δ Z 0],[ζ 3 1 []])/\
 ∀(i:{i:Nat // i<=Ls.length }),
 (decide ((↑i.val:Int)<(↑Ls.length:Int))=true->
 aQ (↑i.val:Int)/\
 ∃(e:List D),
 (jd Ls)[(↑i.val:Int).toNat]? =some e/\
 ∃(l:List (List D)),
 e[0]? =some (π 1 l)/\
 True/\
 (fb Ls i.val).length<=(ints Z (fb Ls i.val)).length/\
 ((fb Ls i.val).length+l.length)*8<=140737488355328/\Nx (CJ Ls) i ([ε 0 0 ((fb Ls i.val).length+l.length),an (π 1 (jd Ls)),δ Z (↑Ls.length:Int),δ Z (Z.wrap ((↑i.val:Int)+1))],[ζ 3 1 (ah (fb Ls i.val).length (ints Z (fb Ls i.val))++l)]))/\
 (decide ((↑i.val:Int)<(↑Ls.length:Int))=false->K (ε 0 0 (fb Ls i.val).length) [ζ 3 1 (ints Z (fb Ls i.val))]))
 ):aO Tryz.prog I8 (JV Ls 73) 73 [an (.sl 1 (jd Ls))] [] K:=by apply Eq.mp (a:=ay);kernel_rfl
theorem abF (a1 a2 a3 a4 a5 a7 a8 a9 aB aJ χ ψ aP aC aI aD a20 a21:Value) (C:List D) (M J:List (List D)) (p:Int->Bool) (l ln:List Int) (n:Nat) (me:Int) (K:V->KB->Prop) (ay:
 At (rN p ln (ε 0 0 n) (V.fn 74 [ac 1 0]) [ζ 3 1 (ints Z l),ω [ac 2 0],ω [δ Z me,γ a1,γ a2,γ a3,γ a4,γ a5,bc 128 C,γ a7,γ a8,γ a9,γ aB,an (π 1 M),an (π 1 J),γ aJ,γ χ,γ ψ,γ aP,γ aC,γ aI,γ aD,γ a20,γ a21]])
 ([ε 0 0 n,V.fn 74 [ac 1 0],δ Z (↑(n - 0):Int),δ Z 0],
 [ζ 3 1 (ints Z l),ω [ac 2 0],ω [δ Z me,γ a1,γ a2,γ a3,γ a4,γ a5,bc 128 C,γ a7,γ a8,γ a9,γ aB,an (π 1 M),an (π 1 J),γ aJ,γ χ,γ ψ,γ aP,γ aC,γ aI,γ aD,γ a20,γ a21]])/\
 ∀(i:{i:Nat // i<=ln.length/\∀(j:Nat) (n:Int),j<i->ln[j]? =some n->p n=false }),
 (decide ((↑i.val:Int)<(↑ln.length:Int))=true->
 br (↑i.val:Int) (n - 0)/\
 ∃(e:List D),
 (ints Z l)[0+(↑i.val:Int).toNat]? =some e/\
 ∃(n_1:Int),
 e[0]? =some (η (κ Z n_1))/\
 ((n_1 == me)=true->
 K (δ Z (↑i.val:Int)) [ζ 3 1 (ints Z l),ω [ac 2 0],ω [δ Z me,γ a1,γ a2,γ a3,γ a4,γ a5,bc 128 C,γ a7,γ a8,γ a9,γ aB,an (π 1 M),an (π 1 J),γ aJ,γ χ,γ ψ,γ aP,γ aC,γ aI,γ aD,γ a20,γ a21]])/\
 ((n_1 == me)=false->
 Nx (rN p ln (ε 0 0 n) (V.fn 74 [ac 1 0]) [ζ 3 1 (ints Z l),ω [ac 2 0],ω [δ Z me,γ a1,γ a2,γ a3,γ a4,γ a5,bc 128 C,γ a7,γ a8,γ a9,γ aB,an (π 1 M),an (π 1 J),γ aJ,γ χ,γ ψ,γ aP,γ aC,γ aI,γ aD,γ a20,γ a21]])
 i
 ([ε 0 0 n,V.fn 74 [ac 1 0],δ Z (↑ln.length:Int),δ Z (Z.wrap ((↑i.val:Int)+1))],
 [ζ 3 1 (ints Z l),ω [ac 2 0],ω [δ Z me,γ a1,γ a2,γ a3,γ a4,γ a5,bc 128 C,γ a7,γ a8,γ a9,γ aB,an (π 1 M),an (π 1 J),γ aJ,γ χ,γ ψ,γ aP,γ aC,γ aI,γ aD,γ a20,γ a21]])))/\
 (decide ((↑i.val:Int)<(↑ln.length:Int))=false->
 K (δ Z (-1)) [ζ 3 1 (ints Z l),ω [ac 2 0],ω [δ Z me,γ a1,γ a2,γ a3,γ a4,γ a5,bc 128 C,γ a7,γ a8,γ a9,γ aB,an (π 1 M),an (π 1 J),γ aJ,γ χ,γ ψ,γ aP,γ aC,γ aI,γ aD,γ a20,γ a21]])
 ):aO Tryz.prog X0 (EL p ln (.sl 0 0 n) (.fn 74 [ac 1 0]) [ζ 3 1 (ints Z l),ω [ac 2 0],ω [.int Z me,γ a1,γ a2,γ a3,γ a4,γ a5,bc 128 C,γ a7,γ a8,γ a9,γ aB,an (.sl 1 M),an (.sl 1 J),γ aJ,γ χ,γ ψ,γ aP,γ aC,γ aI,γ aD,γ a20,γ a21]] 99) 99 [.sl 0 0 n,.fn 74 [ac 1 0]] [ζ 3 1 (ints Z l),ω [ac 2 0],ω [.int Z me,γ a1,γ a2,γ a3,γ a4,γ a5,bc 128 C,γ a7,γ a8,γ a9,γ aB,an (.sl 1 M),an (.sl 1 J),γ aJ,γ χ,γ ψ,γ aP,γ aC,γ aI,γ aD,γ a20,γ a21]] K:=by apply Eq.mp (a:=ay);kernel_rfl
theorem abG (p:Int->Bool) (l ln:List Int) (n:Nat) (M:ML) (K:V->KB->Prop) (ay:
 At (rN p ln (ε 0 0 n) (V.fn 71 [ac 1 0]) [ζ 3 1 (ints Z l),ω [aV 2],KO.mp [Z] false false 1 M]) ([ε 0 0 n,V.fn 71 [ac 1 0],δ Z (↑(n - 0):Int),δ Z 0],[ζ 3 1 (ints Z l),ω [aV 2],KO.mp [Z] false false 1 M])/\
 ∀(i:{i:Nat // i<=ln.length/\∀(j:Nat) (n:Int),j<i->ln[j]? =some n->p n=false }),
 (decide ((↑i.val:Int)<(↑ln.length:Int))=true->
 br (↑i.val:Int) (n - 0)/\
 ∃(e:List D),
 (ints Z l)[0+(↑i.val:Int).toNat]? =some e/\
 ∃(n_1:Int),
 e[0]? =some (η (κ Z n_1))/\
 (∀(cs:List D),bJ M [n_1]=some cs->fQ [CK.bool] cs)/\
 ((!hZ M [n_1] 0)=true->K (δ Z (↑i.val:Int)) [ζ 3 1 (ints Z l),ω [aV 2],KO.mp [Z] false false 1 M])/\
 ((!hZ M [n_1] 0)=false->
 Nx (rN p ln (ε 0 0 n) (V.fn 71 [ac 1 0]) [ζ 3 1 (ints Z l),ω [aV 2],KO.mp [Z] false false 1 M]) i ([ε 0 0 n,V.fn 71 [ac 1 0],δ Z (↑ln.length:Int),δ Z (Z.wrap ((↑i.val:Int)+1))],[ζ 3 1 (ints Z l),ω [aV 2],KO.mp [Z] false false 1 M])))/\
 (decide ((↑i.val:Int)<(↑ln.length:Int))=false->K (δ Z (-1)) [ζ 3 1 (ints Z l),ω [aV 2],KO.mp [Z] false false 1 M])
 ):aO Tryz.prog X0 (EL p ln (.sl 0 0 n) (.fn 71 [ac 1 0]) [ζ 3 1 (ints Z l),ω [.mp 2],.mp [Z] false false 1 M] 99) 99 [.sl 0 0 n,.fn 71 [ac 1 0]] [ζ 3 1 (ints Z l),ω [.mp 2],.mp [Z] false false 1 M] K:=by apply Eq.mp (a:=ay);kernel_rfl
theorem abH (p:Int->Bool) (l:List Int) (K:V->KB->Prop) (ay:
 At (rN p l (an (π 1 (ints Z l))) (V.fn 92 []) []) ([an (π 1 (ints Z l)),V.fn 92 [],δ Z (↑(ints Z l).length:Int),δ Z 0],[])/\
 ∀(i:{i:Nat // i<=l.length/\∀(j:Nat) (n:Int),j<i->l[j]? =some n->p n=false }),
 (decide ((↑i.val:Int)<(↑l.length:Int))=true->
 aQ (↑i.val:Int)/\
 ∃(e:List D),
 (ints Z l)[(↑i.val:Int).toNat]? =some e/\
 ∃(n:Int),
 e[0]? =some (η (κ Z n))/\
 (decide (n<0)=true->K (δ Z (↑i.val:Int)) [])/\
 (decide (n<0)=false->(decide (n > 1099511627776)=true->K (δ Z (↑i.val:Int)) [])/\(decide (n > 1099511627776)=false->Nx (rN p l (an (π 1 (ints Z l))) (V.fn 92 []) []) i ([an (π 1 (ints Z l)),V.fn 92 [],δ Z (↑l.length:Int),δ Z (Z.wrap ((↑i.val:Int)+1))],[]))))/\
 (decide ((↑i.val:Int)<(↑l.length:Int))=false->K (δ Z (-1)) [])
 ):aO Tryz.prog X0 (EL p l (an (.sl 1 (ints Z l))) (.fn 92 []) [] 99) 99 [an (.sl 1 (ints Z l)),.fn 92 []] [] K:=by apply Eq.mp (a:=ay);kernel_rfl
theorem abp (a1 a2 a3 a4 a5 a7 a8 a9 aB aJ χ ψ aP aC aI aD a20 a21:Value) (C:List D) (M J:List (List D)) (l:List Int) (me:Int) (K:V->KB->Prop) (ay:
 ∃(l_1:List Int),
 ints Z l=ints Z l_1/\
 l.length<=l_1.length/\
 dm l_1.length/\
 ((jp (lz me) (ah l.length l_1) == -1)=true->
 K (ε 0 0 l.length) [ζ 3 1 (ints Z l_1),ω [ac 2 0],ω [δ Z me,γ a1,γ a2,γ a3,γ a4,γ a5,bc 128 C,γ a7,γ a8,γ a9,γ aB,an (π 1 M),an (π 1 J),γ aJ,γ χ,γ ψ,γ aP,γ aC,γ aI,γ aD,γ a20,γ a21]])/\
 ((jp (lz me) (ah l.length l_1) == -1)=false->
 At (yg a1 a2 a3 a4 a5 a7 a8 a9 aB aJ χ ψ aP aC aI aD a20 a21 C M J me l)
 ([ε 0 0 l.length,V.fn 74 [ac 1 0],δ Z (jp (lz me) (ah l.length l_1)),δ Z (Z.wrap (jp (lz me) (ah l.length l_1)+1))],
 [ζ 3 1 (ints Z l_1),ω [ac 2 0],ω [δ Z me,γ a1,γ a2,γ a3,γ a4,γ a5,bc 128 C,γ a7,γ a8,γ a9,γ aB,an (π 1 M),an (π 1 J),γ aJ,γ χ,γ ψ,γ aP,γ aC,γ aI,γ aD,γ a20,γ a21]])/\
 ∀(i:{j:Nat // j<=l.length/\(dz me (ah j l)).length<j }),
 (decide ((↑i.val:Int)<(↑(l.length - 0):Int))=true->
 br (↑i.val:Int) (l.length - 0)/\
 ∃(e:List D),
 (ints Z (dz me (ah i.val l)++ν (dz me (ah i.val l)).length l))[0+(↑i.val:Int).toNat]? =some e/\
 ∃(n:Int),
 e[0]? =some (η (κ Z n))/\
 ((!n == me)=true->
 br (↑(dz me (ah i.val l)).length:Int) (l.length - 0)/\
 0+(↑(dz me (ah i.val l)).length:Int).toNat<(ints Z (dz me (ah i.val l)++ν (dz me (ah i.val l)).length l)).length/\
 Nx (yg a1 a2 a3 a4 a5 a7 a8 a9 aB aJ χ ψ aP aC aI aD a20 a21 C M J me l) i
 ([ε 0 0 l.length,V.fn 74 [ac 1 0],δ Z (Z.wrap ((↑(dz me (ah i.val l)).length:Int)+1)),δ Z (Z.wrap ((↑i.val:Int)+1))],
 [ζ 3 1 ((ints Z (dz me (ah i.val l)++ν (dz me (ah i.val l)).length l)).set (0+(↑(dz me (ah i.val l)).length:Int).toNat) [η (κ Z n)]),ω [ac 2 0],
 ω [δ Z me,γ a1,γ a2,γ a3,γ a4,γ a5,bc 128 C,γ a7,γ a8,γ a9,γ aB,an (π 1 M),an (π 1 J),γ aJ,γ χ,γ ψ,γ aP,γ aC,γ aI,γ aD,γ a20,γ a21]]))/\
 ((!n == me)=false->
 Nx (yg a1 a2 a3 a4 a5 a7 a8 a9 aB aJ χ ψ aP aC aI aD a20 a21 C M J me l) i
 ([ε 0 0 l.length,V.fn 74 [ac 1 0],δ Z (↑(dz me (ah i.val l)).length:Int),δ Z (Z.wrap ((↑i.val:Int)+1))],
 [ζ 3 1 (ints Z (dz me (ah i.val l)++ν (dz me (ah i.val l)).length l)),ω [ac 2 0],
 ω [δ Z me,γ a1,γ a2,γ a3,γ a4,γ a5,bc 128 C,γ a7,γ a8,γ a9,γ aB,an (π 1 M),an (π 1 J),γ aJ,γ χ,γ ψ,γ aP,γ aC,γ aI,γ aD,γ a20,γ a21]])))/\
 (decide ((↑i.val:Int)<(↑(l.length - 0):Int))=false->
 aQ (↑(dz me (ah i.val l)).length:Int)/\
 True/\
 (↑(dz me (ah i.val l)).length:Int).toNat<=l.length - 0/\
 l.length - 0<=l.length - 0/\
 0+(l.length - 0)<=(ints Z (dz me (ah i.val l)++ν (dz me (ah i.val l)).length l)).length/\
 True/\
 aQ (↑(dz me (ah i.val l)).length:Int)/\
 0<=(↑(dz me (ah i.val l)).length:Int).toNat/\
 (↑(dz me (ah i.val l)).length:Int).toNat<=l.length - 0/\
 K (ε 0 0 (0+(↑(dz me (ah i.val l)).length:Int).toNat))
 [ζ 3 1 (splice (ints Z (dz me (ah i.val l)++ν (dz me (ah i.val l)).length l)) (0+(↑(dz me (ah i.val l)).length:Int).toNat) (cQ (0+(l.length - 0) - (0+(↑(dz me (ah i.val l)).length:Int).toNat)) [η (κ Z 0)])),ω [ac 2 0],
 ω [δ Z me,γ a1,γ a2,γ a3,γ a4,γ a5,bc 128 C,γ a7,γ a8,γ a9,γ aB,an (π 1 M),an (π 1 J),γ aJ,γ χ,γ ψ,γ aP,γ aC,γ aI,γ aD,γ a20,γ a21]]))
 ):aO Tryz.prog xR (Tn a1 a2 a3 a4 a5 a7 a8 a9 aB aJ χ ψ aP aC aI aD a20 a21 C M J me l 72) 72 [.sl 0 0 l.length,.fn 74 [ac 1 0]] [ζ 3 1 (ints Z l),ω [ac 2 0],ω [.int Z me,γ a1,γ a2,γ a3,γ a4,γ a5,bc 128 C,γ a7,γ a8,γ a9,γ aB,an (.sl 1 M),an (.sl 1 J),γ aJ,γ χ,γ ψ,γ aP,γ aC,γ aI,γ aD,γ a20,γ a21]] K:=by apply Eq.mp (a:=ay);kernel_rfl
theorem ab4 (a1 a2 a3 a4 a5 a7 a8 a9 aB aJ χ ψ aP aC aI aD a20 a21:Value) (C:List D) (me:Int) (M J:List (List D)) (K:V->KB->Prop) (ay:
 (2<=2/\True)/\
 ∃(Ls:List (List Int)),
 [[π 1 M],[π 1 J]]=jd Ls/\
 dm Ls.length/\
 dm (fb Ls Ls.length).length/\
 lg (ints Z (fb Ls Ls.length)).flatten/\
 ∃(l:List Int),
 ints Z (fb Ls Ls.length)=ints Z l/\
 (fb Ls Ls.length).length=l.length/\
 dm l.length/\K (ε 1 0 (dz me l).length) [ω [δ Z me,γ a1,γ a2,γ a3,γ a4,γ a5,bc 128 C,γ a7,γ a8,γ a9,γ aB,an (π 1 M),an (π 1 J),γ aJ,γ χ,γ ψ,γ aP,γ aC,γ aI,γ aD,γ a20,γ a21],ζ 3 1 (ints Z (tv me l))]
 ):aO Tryz.prog Je (aM 44) 44 [ac 0 0] [ω [.int Z me,γ a1,γ a2,γ a3,γ a4,γ a5,bc 128 C,γ a7,γ a8,γ a9,γ aB,an (.sl 1 M),an (.sl 1 J),γ aJ,γ χ,γ ψ,γ aP,γ aC,γ aI,γ aD,γ a20,γ a21]] (dh 1 K):=by apply Eq.mp (a:=ay);kernel_rfl
theorem abl (A:List (List D)) (n:Nat) (M:ML) (K:V->KB->Prop) (ay:
 ∃(l:List Int),A=ints Z l/\n<=l.length/\dm l.length/\jW M/\K (ξ (decide (jp (lZ M) (ah n l) ≥ 0))) [ζ 3 1 (ints Z l),ω [aV 2],KO.mp [Z] false false 1 M]
 ):aO Tryz.prog xR (aM 70) 70 [.sl 0 0 n,.fn 71 [ac 1 0]] [ζ 3 1 (A),ω [.mp 2],.mp [Z] false false 1 M] K:=by apply Eq.mp (a:=ay);kernel_rfl
theorem abm (A:List (List D)) (K:V->KB->Prop) (ay:
 ∃(l:List Int),A=ints Z l/\dm l.length/\K (ξ (decide (jp cM l ≥ 0))) []
 ):aO Tryz.prog xR (aM 70) 70 [an (.sl 1 A),.fn 92 []] [] K:=by apply Eq.mp (a:=ay);kernel_rfl
theorem yq {p:Int->Bool} {l:List Int} {i:Nat} {n:Int} (h:∀ j n,j<i->l[j]? =some n->p n=false) (hi:l[i]? =some n) (hp:p n=true):jp p l=(i:Int):=by
 obtain⟨hl,he⟩:=bU.1 hi
 have:l.findIdx? p=some i:=List.findIdx?_eq_some_iff_getElem.2 ⟨hl,by rw[he];exact hp,fun j hj=>by
  rw[h j l[j] hj (bx _)];simp⟩
 unfold jp;rw[this]
theorem DL {p:Int->Bool} {l:List Int} (h:∀ j n,j<l.length->l[j]? =some n->p n=false):jp p l=-1:=by
 have:l.findIdx? p=none:=List.findIdx?_eq_none_iff.2 fun x hx=>by
  obtain⟨j,hj,rfl⟩:=List.getElem_of_mem hx
  exact h j _ hj (bx _)
 unfold jp;rw[this]
theorem DK (p:Int->Bool) (l:List Int):(jp p l=-1/\∀ n∈l,p n=false)∨∃(i:Nat) (n:Int),jp p l=i/\l[i]? =some n/\p n=true/\∀ j n,j<i->l[j]? =some n->p n=false:=by
 unfold jp
 cases h:l.findIdx? p with
 |none=>exact .inl ⟨rfl,List.findIdx?_eq_none_iff.1 h⟩
 |some i=>
  obtain⟨h1,h2,h3⟩:=List.findIdx?_eq_some_iff_getElem.1 h
  refine .inr ⟨i,l[i],rfl,bx _,h2,fun j n hj hn=>?_⟩
  obtain⟨hl,he⟩:=bU.1 hn
  have:=h3 j hj
  rw[he]at this
  simpa using this
theorem Jr (p:Int->Bool) (l:List Int):decide (jp p l ≥ 0)=l.any p:=by
 rcases DK p l with ⟨h1,h2⟩ | ⟨i,n,h1,h2,h3,_⟩
 ·rw[h1,List.any_eq_false.2 (fun x hx=>by rw[h2 x hx];simp)];rfl
 ·rw[h1,List.any_eq_true.2 ⟨n,gm h2,h3⟩]
  simp
theorem T5:dE Tryz.prog DS:=fun f k h=>by
 unfold DS at h
 split at h<;>first | (cases h;exact Xe) | cases h
theorem RP:bW Tryz.prog I8:=dI mixed T5 aM 10
theorem KY {Ls:List (List Int)} {i:Nat} (h:i<Ls.length):fb Ls (i+1)=fb Ls i++Ls[i]:=by
 unfold fb
 rw[jY,bx h,List.flatten_append]
 simp only[Option.toList_some,im,List.flatten_nil,fg]
theorem yn {Ls:List (List Int)} {i:Nat} (h:i<=Ls.length):(fb Ls i).length<=(fb Ls Ls.length).length:=by
 unfold fb
 rw[cN]
 conv=>rhs;rw[<- List.take_append_drop i Ls]
 rw[List.flatten_append,bw]
 omega
theorem M1 {Ls:List (List Int)} {i:Nat} (h:i<Ls.length):(jd Ls)[(i:Int).toNat]? =some [π 1 (ints Z Ls[i])]:=by
 rw[dr];unfold jd;rw[fG,bx h];rfl
theorem M2 {Ls:List (List Int)}:(jd Ls).length=Ls.length:=by unfold jd;rw[cg]
theorem WZ:aT Tryz.prog 73 Br:=eM RP mixed (fun args kb K h=>by
 unfold Br at h;split at h<;>try exact h.elim
 obtain⟨Ls,rfl,⟨hl0⟩,⟨hl⟩,h⟩:=h
 refine⟨JV Ls 73,abk Ls K ⟨?_,?_⟩⟩
 ·rw[M2]
  exact At.mk' ⟨0,bF _⟩ rfl
 rintro⟨i,hi⟩
 simp only[decide_eq_true_eq,decide_eq_false_iff_not]
 have hle:=yn hi
 refine⟨fun hc=>?_,fun hc=>?_⟩
 ·have hi2:i<Ls.length:=by omega
  have hs:=KY hi2
  have hle2:=yn (show i+1<=Ls.length by omega)
  have jq:=congrArg List.length hs
  rw[bw]at jq
  refine⟨by unfold aQ;omega,_,M1 hi2,_,rfl,?_⟩
  rw[be,bR (by omega) (by omega),bR (by omega) (by omega)]
  refine⟨fun f=>by omega,fun _=>?_⟩
  refine Nx.mk' (⟨i+1,by omega⟩:{i:Nat // i<=Ls.length}) ?_ (by show Ls.length - (i+1)<Ls.length - i;omega)
  show(_:List V×KB)=_
  have e:((fb Ls i).length:Int)+(Ls[i].length:Int)=((fb Ls (i+1)).length:Int):=by omega
  rw[e];rfl
 have:i=Ls.length:=by omega
 subst this
 refine⟨by omega,by omega,?_,?_⟩
 ·rw[M2]
  exact At.mk' ⟨0,bF _⟩ rfl
 rintro⟨i,hi⟩
 have hle:=yn hi
 dsimp only
 refine⟨fun hc=>?_,fun hc=>?_⟩
 ·have hi2:i<Ls.length:=by omega
  have hs:=KY hi2
  have hle2:=yn (show i+1<=Ls.length by omega)
  have jq:=congrArg List.length hs
  rw[bw]at jq
  refine⟨by unfold aQ;omega,_,M1 hi2,_,rfl,trivial,by rw[be];omega,by rw[be];omega,?_⟩
  rw[be,bR (by omega) (by omega)]
  refine Nx.mk' (⟨i+1,by omega⟩:{i:Nat // i<=Ls.length}) ?_ (by show Ls.length - (i+1)<Ls.length - i;omega)
  show(_:List V×KB)=_
  rw[oq,cN,<- po,<- hs,<- jq];rfl
 ·have:i=Ls.length:=by omega
  subst this
  exact h)
theorem IV {l:List Int} {n i:Nat} {m:Int} (h:(l.take n)[i]? =some m):(ints Z l)[0+(i:Int).toNat]? =some [η (.int Z m)]/\i<n:=by
 obtain⟨hl,he⟩:=bU.1 h
 rw[cW]at hl
 have:i<n:=by omega
 rw[jj this]at h
 rw[cL,dr,kw,h]
 exact⟨rfl,this⟩
theorem Xn:aT Tryz.prog 99 Bx:=eM f_ mixed (fun args kb K h=>by
 unfold Bx at h;split at h<;>try exact h.elim
 ·rename_i n A me a1 a2 a3 a4 a5 C a7 a8 a9 aB MM JJ aJ χ ψ aP aC aI aD a20 a21
  obtain⟨l,rfl,hn,⟨hl⟩,h⟩:=h
  have hlen:(l.take n).length=n:=by rw[cW];omega
  refine⟨_,abF _ _ _ _ _ _ _ _ _ _ _ _ _ _ _ _ _ _ _ _ _ (lz me) l (l.take n) n me K ⟨?_,?_⟩⟩
  ·rw[kp]
   refine At.mk' ⟨0,bF _,fun j _ hj=>absurd hj (Nat.not_lt_zero _)⟩ ?_
   show(_:List V×KB)=_
   simp only[hlen];rfl
  rintro⟨i,hi,hp⟩
  simp only[decide_eq_true_eq,decide_eq_false_iff_not,hlen]at hi ⊢
  refine⟨fun hc=>?_,fun hc=>?_⟩
  ·have hil:i<(l.take n).length:=by omega
   have hg:=bx hil
   obtain⟨g1,g2⟩:=IV hg
   refine⟨by unfold br;omega,_,g1,_,rfl,fun h1=>?_,fun h1=>?_⟩
   ·rw[yq hp hg h1]at h;exact h
   ·rw[bR (by omega) (by omega)]
    refine Nx.mk' (⟨i+1,by omega,fun j m hj hm=>?_⟩:{i:Nat // i<=(l.take n).length/\∀ j n',j<i->(l.take n)[j]? =some n'->lz me n'=false}) ?_ (by show(l.take n).length - (i+1)<(l.take n).length - i;omega)
    ·by_cases hji:j=i
     ·subst hji;rw[hg]at hm;cases hm;exact h1
     ·exact hp j m (by omega) hm
    ·show(_:List V×KB)=_
     simp only[hlen];rfl
  ·rw[DL (fun j m hj hm=>hp j m (by omega) hm)]at h;exact h
 ·rename_i n A M
  obtain⟨l,rfl,hn,⟨hl⟩,hM,h⟩:=h
  have hlen:(l.take n).length=n:=by rw[cW];omega
  refine⟨_,abG (lZ M) l (l.take n) n M K ⟨?_,?_⟩⟩
  ·rw[kp]
   refine At.mk' ⟨0,bF _,fun j _ hj=>absurd hj (Nat.not_lt_zero _)⟩ ?_
   show(_:List V×KB)=_
   simp only[hlen];rfl
  rintro⟨i,hi,hp⟩
  simp only[decide_eq_true_eq,decide_eq_false_iff_not,hlen]at hi ⊢
  refine⟨fun hc=>?_,fun hc=>?_⟩
  ·have hil:i<(l.take n).length:=by omega
   have hg:=bx hil
   obtain⟨g1,g2⟩:=IV hg
   refine⟨by unfold br;omega,_,g1,_,rfl,fun cs hcs=>?_,fun h1=>?_,fun h1=>?_⟩
   ·obtain⟨b,rfl⟩:=hM.h _ _ hcs
    exact⟨_,_,rfl,rfl⟩
   ·rw[yq hp hg h1]at h;exact h
   ·rw[bR (by omega) (by omega)]
    refine Nx.mk' (⟨i+1,by omega,fun j m hj hm=>?_⟩:{i:Nat // i<=(l.take n).length/\∀ j n',j<i->(l.take n)[j]? =some n'->lZ M n'=false}) ?_ (by show(l.take n).length - (i+1)<(l.take n).length - i;omega)
    ·by_cases hji:j=i
     ·subst hji;rw[hg]at hm;cases hm;exact h1
     ·exact hp j m (by omega) hm
    ·show(_:List V×KB)=_
     simp only[hlen];rfl
  ·rw[DL (fun j m hj hm=>hp j m (by omega) hm)]at h;exact h
 ·rename_i A
  obtain⟨l,rfl,⟨hl⟩,h⟩:=h
  refine⟨_,abH cM l K ⟨?_,?_⟩⟩
  ·rw[be]
   exact At.mk' ⟨0,bF _,fun j _ hj=>absurd hj (Nat.not_lt_zero _)⟩ rfl
  rintro⟨i,hi,hp⟩
  simp only[decide_eq_true_eq,decide_eq_false_iff_not]at hi ⊢
  refine⟨fun hc=>?_,fun hc=>?_⟩
  ·have hil:i<l.length:=by omega
   have hg:=bx hil
   refine⟨by unfold aQ;omega,[η (.int Z l[i])],by rw[dr,kw,hg];rfl,_,rfl,fun h1=>?_,fun h1=>⟨fun h2=>?_,fun h2=>?_⟩⟩
   ·rw[yq hp hg (by unfold cM;simp;omega)]at h;exact h
   ·rw[yq hp hg (by unfold cM;simp;omega)]at h;exact h
   ·rw[bR (by omega) (by omega)]
    refine Nx.mk' (⟨i+1,by omega,fun j m hj hm=>?_⟩:{i:Nat // i<=l.length/\∀ j n',j<i->l[j]? =some n'->cM n'=false}) rfl (by show l.length - (i+1)<l.length - i;omega)
    by_cases hji:j=i
    ·subst hji;rw[hg]at hm;cases hm;unfold cM;simp;omega
    ·exact hp j m (by omega) hm
  ·rw[DL (fun j m hj hm=>hp j m (by omega) hm)]at h;exact h)
theorem MD {me:Int} {l:List Int} {j:Nat} {n:Int} (h:l[j]? =some n):dz me (l.take (j+1))=dz me (l.take j)++if n=me then[]else[n]:=by
 unfold dz
 rw[jY,h,List.filter_append]
 congr 1
 by_cases hn:n=me<;>simp [hn]
theorem MC {me:Int} {l:List Int} (h:∀ n∈l,lz me n=false):dz me l=l:=List.filter_eq_self.2 fun n hn=>by have:=h n hn;unfold lz at this;rw[this];rfl
theorem zc (me:Int) (l:List Int):(dz me l).length<=l.length:=List.length_filter_le ..
theorem ZC {l k:List Int} {j:Nat} {n:Int} (h:l[j]? =some n) (hk:k.length<=j):(k++l.drop k.length)[j]? =some n:=by
 rw[ef hk,jB,show k.length+(j - k.length)=j by omega,h]
theorem ZE {l k:List Int} {n:Int} (h:k.length<l.length):(k++l.drop k.length).set k.length n=(k++[n])++l.drop (k++[n]).length:=by
 rw[List.set_append_right _ _ (aE _),Nat.sub_self,dQ]
 congr 1
 rw[List.drop_eq_getElem_cons h,List.set_cons_zero,bw,ko];rfl
theorem ZD {l k:List Int} (h:k.length<=l.length):splice (ints Z (k++l.drop k.length)) k.length (cQ (l.length - k.length) [η (.int Z 0)])=ints Z (k++cQ (l.length - k.length) 0):=by
 unfold splice
 rw[List.length_replicate,oq,List.take_left,yZ,show k.length+(l.length - k.length)=(k++l.drop k.length).length by rw[bw,fh],List.drop_length,po,VE]
 simp [ints]
theorem Om:dE Tryz.prog zM:=fun f k h=>by
 unfold zM at h
 split at h<;>first | (cases h;first | exact WZ | exact Xn) | cases h
theorem Jd:bW Tryz.prog xR:=dI mixed Om aM 10
theorem W7:aT Tryz.prog 72 Bu:=eM Jd mixed (fun args kb K h=>by
 unfold Bu at h;split at h<;>try exact h.elim
 rename_i n A me a1 a2 a3 a4 a5 C a7 a8 a9 aB M J aJ χ ψ aP aC aI aD a20 a21
 obtain⟨l,rfl,rfl,⟨hl⟩,h⟩:=h
 refine⟨_,abp _ _ _ _ _ _ _ _ _ _ _ _ _ _ _ _ _ _ _ M J l me K ⟨l,rfl,aE _,⟨hl⟩,?_,?_⟩⟩
 all_goals rw[cN]
 ·intro hf
  have hf:jp (lz me) l=-1:=by simpa using hf
  rcases DK (lz me) l with ⟨_,h2⟩ | ⟨i,n,h1,_⟩
  ·have e:=MC h2
   unfold tv at h
   rw[e,Nat.sub_self]at h
   simpa using h
  ·omega
 ·intro hf
  have hf:¬ jp (lz me) l=-1:=by simpa using hf
  rcases DK (lz me) l with ⟨h1,_⟩ | ⟨i,n,h1,h2,h3,h4⟩
  ·exact absurd h1 hf
  have hil:i<l.length:=(bU.1 h2).1
  have hn:n=me:=by simpa [lz]using h3
  have ek:dz me (l.take i)=l.take i:=MC fun m hm=>by
   obtain⟨j,hj,rfl⟩:=List.getElem_of_mem hm
   rw[cW]at hj
   exact h4 j _ (by omega) (by rw[List.getElem_take,bx])
  have KG:dz me (l.take (i+1))=l.take i:=by rw[MD h2,ek,if_pos hn,fg]
  have el:(l.take i).length=i:=by rw[cW];omega
  refine⟨?_,?_⟩
  ·refine At.mk' ⟨i+1,by omega,by rw[KG,el];omega⟩ ?_
   show(_:List V×KB)=_
   dsimp only
   rw[KG,el,List.take_append_drop,h1,bR (by omega) (by omega)];rfl
  rintro⟨j,hj,hk⟩
  dsimp only
  have hks:=zc me (l.take j)
  simp only[decide_eq_true_eq,decide_eq_false_iff_not,kp,cL,dr]
  refine⟨fun hc=>?_,fun hc=>?_⟩
  ·have hjl:j<l.length:=by omega
   have hg:=bx hjl
   have hs:=MD (me:=me) hg
   refine⟨by unfold br;omega,[η (.int Z l[j])],by rw[kw,ZC hg (by omega)];rfl,_,rfl,fun h5=>?_,fun h5=>?_⟩
   ·have h5:¬ l[j]=me:=by simpa using h5
    rw[if_neg h5]at hs
    refine⟨by unfold br;omega,by rw[be,bw,fh];omega,?_⟩
    rw[bR (by omega) (by omega),bR (by omega) (by omega)]
    refine Nx.mk' (⟨j+1,by omega,by rw[hs,bw,ko];omega⟩:{j:Nat // j<=l.length/\(dz me (l.take j)).length<j}) ?_ (by show l.length - (j+1)<l.length - j;omega)
    show(_:List V×KB)=_
    dsimp only
    rw[ints_set,ZE (by omega),<- hs]
    have:((dz me (l.take j)).length:Int)+1=((dz me (l.take (j+1))).length:Int):=by rw[hs,bw,ko];omega
    rw[this];rfl
   ·have h5:l[j]=me:=by simpa using h5
    rw[if_pos h5,fg]at hs
    rw[bR (by omega) (by omega)]
    refine Nx.mk' (⟨j+1,by omega,by rw[hs];omega⟩:{j:Nat // j<=l.length/\(dz me (l.take j)).length<j}) ?_ (by show l.length - (j+1)<l.length - j;omega)
    show(_:List V×KB)=_
    dsimp only
    rw[hs];rfl
  ·have:j=l.length:=by omega
   subst this
   rw[cN]at hks hk ⊢
   refine⟨by unfold aQ;omega,trivial,by omega,by omega,by rw[be,bw,fh];omega,trivial,by unfold aQ;omega,by omega,by omega,?_⟩
   rw[ZD (zc _ _)]
   exact h)
theorem YM:dE Tryz.prog F9:=fun f k h=>by
 unfold F9 at h
 split at h
 ·cases h;exact W7
 ·exact Om _ _ h
theorem RY:bW Tryz.prog Je:=dI mixed YM aM 10
theorem NH:aT Tryz.prog 70 xk:=eM Jd mixed (fun args kb K h=>by
 unfold xk at h;split at h<;>try exact h.elim
 ·rename_i n A M
  obtain⟨l,rfl,hn,hl,hM,h⟩:=h
  refine⟨_,abl _ n M K ⟨l,rfl,hn,hl,hM,?_⟩⟩
  rw[Jr];exact h
 ·rename_i A
  obtain⟨l,rfl,hl,h⟩:=h
  refine⟨_,abm _ K ⟨l,rfl,hl,?_⟩⟩
  rw[Jr];exact h)
theorem zH:aT Tryz.prog 44 sP:=jP RY mixed (fun args kb K h=>by
 unfold sP at h;split at h<;>try exact h.elim
 rename_i me a1 a2 a3 a4 a5 C a7 a8 a9 aB M J aJ χ ψ aP aC aI aD a20 a21
 obtain⟨m,j,rfl,rfl,⟨hl⟩,h⟩:=h
 have e:fb [m,j] [m,j].length=m++j:=by unfold fb;simp
 refine⟨_,ab4 _ _ _ _ _ _ _ _ _ _ _ _ _ _ _ _ _ _ _ me _ _ K ⟨⟨aE _,trivial⟩,[m,j],rfl,⟨by show 2<=100000;omega⟩,⟨by rw[e,bw];exact hl⟩,?_⟩⟩
 rw[e]
 refine⟨⟨nG⟩,m++j,rfl,rfl,⟨by rw[bw];exact hl⟩,h⟩)
structure Op where
 cl:Int
 nm:Int
 kd:Int
 bk:Int
 b:List Int
def bn (o:Op):List D:=[dn Z o.cl,dn Z o.nm,dn Z o.kd,dn Z o.bk,.sl 1 (ints θ o.b)]
def fc (to kind id ep:Int) (N B L:List (List D)):List D:=[dn Z to,dn Z kind,.sl 1 ([[dn Z id],[dn Z ep]]++N),.sl 1 B,.sl 1 L]
def Da (o:Op) (e:Int) (X:List (List D)):List D:=[dn Z o.cl,dn Z o.nm,dn Z o.kd,dn Z o.bk,.sl 1 (ints θ o.b),dn Z e,.sl 1 X]
def yl:Option Op->List (List D)
 |none=>[]
 |some p=>[Da p 19 []]
structure bN (n:Nat):Prop where
 h:n<=1000000
def xD:aH:=fun args kb K=>match args,kb with
 | [ac 0 0,.int Z to,.int Z kind,an (.sl 1 N),an (.sl 1 B),an (.sl 1 L)],[ω [γ a0,.int Z id,γ a2,γ a3,.int Z ep,γ a5,bc 128 C,γ a7,γ a8,γ a9,γ aB,γ aX,γ a12,γ aJ,γ χ,γ ψ,γ aP,γ aC,γ aI,γ aD,.sl 1 0 n,γ a21],ζ 107 5 (A)]=>n=A.length/\bN n/\bN N.length/\K (.υ []) [ω [γ a0,.int Z id,γ a2,γ a3,.int Z ep,γ a5,bc 128 C,γ a7,γ a8,γ a9,γ aB,γ aX,γ a12,γ aJ,γ χ,γ ψ,γ aP,γ aC,γ aI,γ aD,.sl 2 0 (n+1),γ a21],ο,ζ 107 5 (A++[fc to kind id ep N B L])]
 |_,_=>False
def xK:aH:=fun args kb K=>match args,kb with
 | [ac 0 0],[ω [γ a0,γ a1,γ a2,γ a3,γ a4,γ a5,bc 128 C,γ a7,γ a8,γ a9,γ aB,γ aX,γ a12,ξ ld,γ χ,γ ψ,.ae o,γ aC,γ aI,γ aD,γ a20,.sl 1 0 n],ζ 70 7 (A)]=>n=A.length/\bN n/\∃ q,o=jZ bn q/\K (.υ []) [ω [γ a0,γ a1,γ a2,γ a3,γ a4,γ a5,bc 128 C,γ a7,γ a8,γ a9,γ aB,γ aX,γ a12,ξ false,γ χ,γ ψ,.ae none,γ aC,γ aI,γ aD,γ a20,.sl 2 0 (A++yl q).length],ο,ζ 70 7 (A++yl q)]
 |_,_=>False
def GR:FuncId->Option dw
 | 75=>some ⟨[.kM,.kM,.kM,.eB 1,.eB 1,.eB 1],dK [true,false,true,true,false,true,false,true,true,true,true,true,true,true,true,true,true,true,true,true,false,true] xD⟩
 | 38=>some ⟨[],dK [true,true,true,true,true,true,false,true,true,true,true,true,true,true,true,true,true,true,true,true,true,true] xh⟩
 | 49=>some ⟨[],dK [true,true,true,true,true,true,false,true,true,true,true,true,true,true,true,true,true,true,true,true,true,true] uC⟩
 | 39=>some ⟨[],dK [true,true,true,true,true,true,false,false,true,true,true,true,true,true,true,true,true,true,true,true,true,true] xF⟩
 |_=>none
noncomputable def xS:bM:=dF Tryz.prog GR aM 10
def BB:aH:=fun args kb K=>match args,kb with
 | [ac 0 0,.int Z to],[ω [γ a0,.int Z id,γ a2,γ a3,.int Z ep,.int Z nu,bc 128 C,γ a7,γ a8,γ a9,γ aB,γ aX,γ a12,γ aJ,γ χ,γ ψ,γ aP,γ aC,γ aI,γ aD,.sl 1 0 n,γ a21],ζ 107 5 (A)]=>n=A.length/\bN n/\K (.υ []) [ω [γ a0,.int Z id,γ a2,γ a3,.int Z ep,.int Z nu,bc 128 C,γ a7,γ a8,γ a9,γ aB,γ aX,γ a12,γ aJ,γ χ,γ ψ,γ aP,γ aC,γ aI,γ aD,.sl 2 0 (n+1),γ a21],ο,ζ 107 5 (A++[fc to 14 id ep [[dn Z nu]] [] []])]
 |_,_=>False
structure gz (C:List D) (c:List Int):Prop where
 e:C=aK θ c
 l:c.length=128
 b:bm c
def kY (to id ep nu:Int) (c:List Int) (x:List L3):List D:=fc to 10 id ep [[dn Z nu]] (ints θ (bT c)) [[.sl 1 (ints θ (bb x))]]
def uF:aH:=fun args kb K=>match args,kb with
 | [ac 0 0,.int Z to],[ω [γ a0,.int Z id,γ a2,γ a3,.int Z ep,.int Z nu,bc 128 C,.imp [Z] false true 2 M,γ a8,γ a9,γ aB,γ aX,γ a12,γ aJ,γ χ,γ ψ,γ aP,γ aC,γ aI,γ aD,.sl 1 0 n,γ a21],ζ 107 5 (A)]=>n=A.length/\bN n/\∃ c x,gz C c/\bG M x/\K (.υ []) [ω [γ a0,.int Z id,γ a2,γ a3,.int Z ep,.int Z nu,bc 128 (aK θ c),ai M,γ a8,γ a9,γ aB,γ aX,γ a12,γ aJ,γ χ,γ ψ,γ aP,γ aC,γ aI,γ aD,.sl 2 0 (n+1),γ a21],ο,ζ 107 5 (A++[kY to id ep nu c x])]
 |_,_=>False
def od (to id ep nu:Int) (c:List Int) (o:Op):List D:=fc to 12 id ep [[dn Z nu],[dn Z o.cl],[dn Z o.nm],[dn Z o.kd],[dn Z o.bk],[dn Z (dy c)]] (ints θ o.b) []
def xo:aH:=fun args kb K=>match args,kb with
 | [ac 0 0,.int Z to],[ω [γ a0,.int Z id,γ a2,γ a3,.int Z ep,.int Z nu,bc 128 C,γ a7,γ a8,γ a9,γ aB,γ aX,γ a12,γ aJ,γ χ,γ ψ,.ae o,γ aC,γ aI,γ aD,.sl 1 0 n,γ a21],ζ 107 5 (A)]=>n=A.length/\bN n/\∃ c p,gz C c/\o=some (bn p)/\K (.υ []) [ω [γ a0,.int Z id,γ a2,γ a3,.int Z ep,.int Z nu,bc 128 (aK θ c),γ a7,γ a8,γ a9,γ aB,γ aX,γ a12,γ aJ,γ χ,γ ψ,.ae o,γ aC,γ aI,γ aD,.sl 2 0 (n+1),γ a21],ο,ζ 107 5 (A++[od to id ep nu c p])]
 |_,_=>False
theorem acg (a0 a2 a3 a5 a7 a8 a9 aB aX a12 aJ χ ψ aP aC aI aD a21:Value) (C:List D) (to kind id ep:Int) (N B L:List (List D)) (n:Nat) (A:List (List D)) (K:V->KB->Prop) (ay:
 let bB:=[[η (κ Z id)],[η (κ Z ep)]];let aq:KB:=[ω [γ a0,δ Z id,γ a2,γ a3,δ Z ep,γ a5,bc 128 C,γ a7,γ a8,γ a9,γ aB,γ aX,γ a12,γ aJ,γ χ,γ ψ,γ aP,γ aC,γ aI,γ aD,ε 2 0 (n+1),γ a21],ο,ζ 107 5 (ah n A++[[η (κ Z to),η (κ Z kind),π 1 (ν 0 (ah (2+N.length) (bB++N))),π 1 B,π 1 L]])];(True/\
 2<=2/\
 (2+N.length)*8<=140737488355328/\
 2+N.length<=(bB++N).length/\
 1<=1/\
 n<=A.length/\
 (n+1)*88<=140737488355328/\
 K (ar []) aq)/\
 (True/\
 2<=2/\
 (2+N.length)*8<=140737488355328/\
 2+N.length<=(bB++N).length/\
 1<=1/\
 n<=A.length/\
 (n+1)*88<=140737488355328/\
 K (ar []) aq)/\
 True/\
 2<=2/\
 (2+N.length)*8<=140737488355328/\
 (2+N.length<=(bB++N).length/\
 1<=1/\
 n<=A.length/\
 (n+1)*88<=140737488355328/\
 K (ar []) aq)/\
 2+N.length<=(bB++N).length/\
 1<=1/\
 n<=A.length/\
 (n+1)*88<=140737488355328/\
 K (ar []) aq
 ):aO Tryz.prog X0 (aM 75) 75 [ac 0 0,.int Z to,.int Z kind,an (.sl 1 N),an (.sl 1 B),an (.sl 1 L)] [ω [γ a0,.int Z id,γ a2,γ a3,.int Z ep,γ a5,bc 128 C,γ a7,γ a8,γ a9,γ aB,γ aX,γ a12,γ aJ,γ χ,γ ψ,γ aP,γ aC,γ aI,γ aD,.sl 1 0 n,γ a21],ζ 107 5 (A)] (dh 2 K):=by apply Eq.mp (a:=ay);kernel_rfl
theorem acI (a0 a1 a2 a3 a4 a5 a7 a8 a9 aB aX a12 χ ψ aC aI aD a20:Value) (C:List D) (ld:Bool) (o:Option (List D)) (n:Nat) (A:List (List D)) (K:V->KB->Prop) (ay:
 let aq:=ω [γ a0,γ a1,γ a2,γ a3,γ a4,γ a5,bc 128 C,γ a7,γ a8,γ a9,γ aB,γ aX,γ a12,ξ false,γ χ,γ ψ,aG none,γ aC,γ aI,γ aD,γ a20,ε 2 0 (n+1)];((!o.isNone)=true->
 ∃(y1:List D),o=some y1/\
 ∃(y2:Int),y1[0]? =some (η (κ Z y2))/\
 ∃(y3:Int),y1[1]? =some (η (κ Z y3))/\
 ∃(y4:Int),y1[2]? =some (η (κ Z y4))/\
 ∃(y5:Int),y1[3]? =some (η (κ Z y5))/\
 ∃(y6:List (List D)),y1[4]? =some (π 1 y6)/\
 (1<=1/\
 n<=A.length/\
 (n+1)*88<=140737488355328/\
 K (ar []) [aq,ο,ζ 70 7 (ah n A++[[η (κ Z y2),η (κ Z y3),η (κ Z y4),η (κ Z y5),π 1 y6,η (κ Z 19),π 1 []]])])/\
 1<=1/\
 n<=A.length/\
 (n+1)*88<=140737488355328/\
 K (ar []) [aq,ο,ζ 70 7 (ah n A++[[η (κ Z y2),η (κ Z y3),η (κ Z y4),η (κ Z y5),π 1 y6,η (κ Z 19),π 1 []]])])/\
 ((!o.isNone)=false->
 K (ar []) [ω [γ a0,γ a1,γ a2,γ a3,γ a4,γ a5,bc 128 C,γ a7,γ a8,γ a9,γ aB,γ aX,γ a12,ξ false,γ χ,γ ψ,aG o,γ aC,γ aI,γ aD,γ a20,ε 2 0 n],ο,ζ 70 7 A])
 ):aO Tryz.prog X0 (aM 42) 42 [ac 0 0] [ω [γ a0,γ a1,γ a2,γ a3,γ a4,γ a5,bc 128 C,γ a7,γ a8,γ a9,γ aB,γ aX,γ a12,ξ ld,γ χ,γ ψ,.ae o,γ aC,γ aI,γ aD,γ a20,.sl 1 0 n],ζ 70 7 (A)] (eX [.ot 0 143,.mv 0 148] (dh 2 K)):=by apply Eq.mp (a:=ay);kernel_rfl
theorem abT (a0 a2 a3 a7 a8 a9 aB aX a12 aJ χ ψ aP aC aI aD a21:Value) (C:List D) (to id ep nu:Int) (n:Nat) (A:List (List D)) (K:V->KB->Prop) (ay:
 1<=1/\
 ∀(y1:Nat->
 Value),n=A.length/\
 bN n/\
 bN 1/\
 bu y1 [0,2,3,5,7,8,9,10,11,12,13,14,15,16,17,18,19,21]/\
 K (ar []) [ω [γ a0,δ Z id,γ a2,γ a3,δ Z ep,δ Z nu,bc 128 C,γ a7,γ a8,γ a9,γ aB,γ aX,γ a12,γ aJ,γ χ,γ ψ,γ aP,γ aC,γ aI,γ aD,ε 2 0 (n+1),γ a21],ο,ζ 107 5 (A++[[dn Z to,η (κ Z 14),π 1 [[dn Z id],[dn Z ep],[η (κ Z nu)]],π 1 [],π 1 []]])]
 ):aO Tryz.prog xS (aM 110) 110 [ac 0 0,.int Z to] [ω [γ a0,.int Z id,γ a2,γ a3,.int Z ep,.int Z nu,bc 128 C,γ a7,γ a8,γ a9,γ aB,γ aX,γ a12,γ aJ,γ χ,γ ψ,γ aP,γ aC,γ aI,γ aD,.sl 1 0 n,γ a21],ζ 107 5 (A)] (dh 2 K):=by apply Eq.mp (a:=ay);kernel_rfl
theorem ack (a0 a2 a3 a8 a9 aB aX a12 aJ χ ψ aP aC aI aD a21:Value) (C:List D) (to id ep nu:Int) (n:Nat) (M:ML) (A:List (List D)) (K:V->KB->Prop) (ay:
 let aq:=π 1 [[dn Z id],[dn Z ep],[η (κ Z nu)]];let bB:=[0,2,3,5,7,8,9,10,11,12,13,14,15,16,17,18,19,21];let ft:=[0,1,2,3,4,5,8,9,10,11,12,13,14,15,16,17,18,19,20,21];(∀(y1:Nat->
 Value),∃(y2:List Int),C=aK θ y2/\
 y2.length=128/\
 (∀(y3:Int),ct y3 y2->
 0<=y3/\
 y3<256)/\
 bu y1 [0,1,2,3,4,5,7,8,9,10,11,12,13,14,15,16,17,18,19,20,21]/\
 ∀(y4:Nat->
 Value),∃(y5:List L3),bG M y5/\
 bu y4 ft/\
 (bb y5).length<=(ints θ (bb y5)).length/\
 1<=1/\
 132<=(ints θ (bT y2)).length/\
 1<=1/\
 ∀(y6:Nat->
 Value),n=A.length/\
 bN n/\
 bN 1/\
 bu y6 bB/\
 K (ar []) [ω [γ a0,δ Z id,γ a2,γ a3,δ Z ep,δ Z nu,bc 128 (aK θ y2),V.imp [Z] false true 2 M,γ a8,γ a9,γ aB,γ aX,γ a12,γ aJ,γ χ,γ ψ,γ aP,γ aC,γ aI,γ aD,ε 2 0 (n+1),γ a21],ο,ζ 107 5 (A++[[dn Z to,η (κ Z 10),aq,π 1 (ν 0 (ah 132 (ints θ (bT y2)))),π 1 [[π 1 (ν 0 (ah (bb y5).length (ints θ (bb y5))))]]]])])/\
 ∀(y7:Nat->
 Value),∃(y8:List Int),C=aK θ y8/\
 y8.length=128/\
 (∀(y9:Int),ct y9 y8->
 0<=y9/\
 y9<256)/\
 bu y7 [0,1,2,3,4,5,7,8,9,10,11,12,13,14,15,16,17,18,19,20,21]/\
 iz nu nu/\
 (∀(cq:Nat->
 Value),∃(b_:List L3),bG M b_/\
 bu cq ft/\
 (bb b_).length<=(ints θ (bb b_)).length/\
 1<=1/\
 132<=(ints θ (bT y8)).length/\
 1<=1/\
 ∀(ca:Nat->
 Value),n=A.length/\
 bN n/\
 bN 1/\
 bu ca bB/\
 K (ar []) [ω [γ a0,δ Z id,γ a2,γ a3,δ Z ep,δ Z nu,bc 128 (aK θ y8),V.imp [Z] false true 2 M,γ a8,γ a9,γ aB,γ aX,γ a12,γ aJ,γ χ,γ ψ,γ aP,γ aC,γ aI,γ aD,ε 2 0 (n+1),γ a21],ο,ζ 107 5 (A++[[dn Z to,η (κ Z 10),aq,π 1 (ν 0 (ah 132 (ints θ (bT y8)))),π 1 [[π 1 (ν 0 (ah (bb b_).length (ints θ (bb b_))))]]]])])/\
 ∀(cf:Nat->
 Value),∃(cE:List L3),bG M cE/\
 bu cf ft/\
 iz nu nu/\
 ((bb cE).length<=(ints θ (bb cE)).length/\
 1<=1/\
 132<=(ints θ (bT y8)).length/\
 1<=1/\
 ∀(cj:Nat->
 Value),n=A.length/\
 bN n/\
 bN 1/\
 bu cj bB/\
 K (ar []) [ω [γ a0,δ Z id,γ a2,γ a3,δ Z ep,δ Z nu,bc 128 (aK θ y8),V.imp [Z] false true 2 M,γ a8,γ a9,γ aB,γ aX,γ a12,γ aJ,γ χ,γ ψ,γ aP,γ aC,γ aI,γ aD,ε 2 0 (n+1),γ a21],ο,ζ 107 5 (A++[[dn Z to,η (κ Z 10),aq,π 1 (ν 0 (ah 132 (ints θ (bT y8)))),π 1 [[π 1 (ν 0 (ah (bb cE).length (ints θ (bb cE))))]]]])])/\
 (bb cE).length<=(ints θ (bb cE)).length/\
 iz nu nu/\
 1<=1/\
 132<=(ints θ (bT y8)).length/\
 1<=1/\
 ∀(eZ:Nat->
 Value),n=A.length/\
 bN n/\
 bN 1/\
 bu eZ bB/\
 K (ar []) [ω [γ a0,δ Z id,γ a2,γ a3,δ Z ep,δ Z nu,bc 128 (aK θ y8),V.imp [Z] false true 2 M,γ a8,γ a9,γ aB,γ aX,γ a12,γ aJ,γ χ,γ ψ,γ aP,γ aC,γ aI,γ aD,ε 2 0 (n+1),γ a21],ο,ζ 107 5 (A++[[dn Z to,η (κ Z 10),aq,π 1 (ν 0 (ah 132 (ints θ (bT y8)))),π 1 [[π 1 (ν 0 (ah (bb cE).length (ints θ (bb cE))))]]]])]
 ):aO Tryz.prog xS (aM 45) 45 [ac 0 0,.int Z to] [ω [γ a0,.int Z id,γ a2,γ a3,.int Z ep,.int Z nu,bc 128 C,.imp [Z] false true 2 M,γ a8,γ a9,γ aB,γ aX,γ a12,γ aJ,γ χ,γ ψ,γ aP,γ aC,γ aI,γ aD,.sl 1 0 n,γ a21],ζ 107 5 (A)] (dh 2 K):=by apply Eq.mp (a:=ay);kernel_rfl
theorem abB (a0 a2 a3 a7 a8 a9 aB aX a12 aJ χ ψ aC aI aD a21:Value) (C:List D) (to id ep nu:Int) (o:Option (List D)) (n:Nat) (A:List (List D)) (K:V->KB->Prop) (ay:
 ∃(y1:List D),o=some y1/\
 ∃(y2:Int),y1[0]? =some (η (κ Z y2))/\
 ∃(y3:List D),o=some y3/\
 ∃(y4:Int),y3[1]? =some (η (κ Z y4))/\
 ∃(y5:List D),o=some y5/\
 ∃(y6:Int),y5[2]? =some (η (κ Z y6))/\
 ∃(y7:List D),o=some y7/\
 ∃(y8:Int),y7[3]? =some (η (κ Z y8))/\
 ∃(y9:List D),o=some y9/\
 ∃(cq:List (List D)),y9[4]? =some (π 1 cq)/\
 ∀(b_:Nat->
 Value),∃(ca:List Int),C=aK θ ca/\
 ca.length=128/\
 (∀(cf:Int),ct cf ca->
 0<=cf/\
 cf<256)/\
 bu b_ [0,1,2,3,4,5,7,8,9,10,11,12,13,14,15,16,17,18,19,20,21]/\
 (∃(cE:List (List D)),y9[4]? =some (π 1 cE)/\
 True)/\
 (∃(cj:Int),y7[3]? =some (η (κ Z cj))/\
 iz cj y8)/\
 (∃(eZ:Int),y5[2]? =some (η (κ Z eZ))/\
 iz eZ y6)/\
 (∃(cJ:Int),y3[1]? =some (η (κ Z cJ))/\
 iz cJ y4)/\
 (∃(eu:Int),y1[0]? =some (η (κ Z eu))/\
 iz eu y2)/\
 iz nu nu/\
 (∃(eF:List (List D)),y9[4]? =some (π 1 eF)/\
 True)/\
 6<=6/\
 ∀(eS:Nat->
 Value),n=A.length/\
 bN n/\
 bN 6/\
 bu eS [0,2,3,5,7,8,9,10,11,12,13,14,15,16,17,18,19,21]/\
 K (ar []) [ω [γ a0,δ Z id,γ a2,γ a3,δ Z ep,δ Z nu,bc 128 (aK θ ca),γ a7,γ a8,γ a9,γ aB,γ aX,γ a12,γ aJ,γ χ,γ ψ,aG o,γ aC,γ aI,γ aD,ε 2 0 (n+1),γ a21],ο,ζ 107 5 (A++[[dn Z to,η (κ Z 12),π 1 [[dn Z id],[dn Z ep],[η (κ Z nu)],[η (κ Z y2)],[η (κ Z y4)],[η (κ Z y6)],[η (κ Z y8)],[η (κ Z (Z.wrap (dy ca)))]],π 1 cq,π 1 []]])]
 ):aO Tryz.prog xS (aM 57) 57 [ac 0 0,.int Z to] [ω [γ a0,.int Z id,γ a2,γ a3,.int Z ep,.int Z nu,bc 128 C,γ a7,γ a8,γ a9,γ aB,γ aX,γ a12,γ aJ,γ χ,γ ψ,.ae o,γ aC,γ aI,γ aD,.sl 1 0 n,γ a21],ζ 107 5 (A)] (dh 2 K):=by apply Eq.mp (a:=ay);kernel_rfl
theorem Qh {A:List (List D)}:ah A.length A=A:=cN
theorem pP {l:List Int} {n:Nat} (h:n=l.length):ν 0 (ah n (ints θ l))=ints θ l:=by
 subst h;rw[gK,oq,cN]
theorem takeN {a b:List D} {N:List (List D)}:ν 0 (ah (2+N.length) ([a,b]++N))=[a,b]++N:=by
 rw[gK];exact fI (by simp;omega)
theorem zg {a b:List D} {N:List (List D)}:2+N.length<=([a,b]++N).length:=by simp;omega
theorem NU:aT Tryz.prog 75 xD:=jP f_ mixed (fun args kb K h=>by
 unfold xD at h;split at h<;>try exact h.elim
 obtain⟨rfl,⟨hn⟩,⟨hN⟩,h⟩:=h
 refine⟨_,acg _ _ _ _ _ _ _ _ _ _ _ _ _ _ _ _ _ _ _ _ _ _ _ _ _ _ _ _ K ?_⟩
 simp only[takeN,Qh]
 exact⟨⟨trivial,aE _,by omega,zg,aE _,aE _,by omega,h⟩,⟨trivial,aE _,by omega,zg,aE _,aE _,by omega,h⟩,trivial,aE _,by omega,⟨zg,aE _,aE _,by omega,h⟩,zg,aE _,aE _,by omega,h⟩)
theorem N2:aT Tryz.prog 42 xK:=mP f_ mixed [.ot 0 143,.mv 0 148] (fun args kb K h=>by
 unfold xK at h;split at h<;>try exact h.elim
 obtain⟨rfl,⟨hn⟩,q,rfl,h⟩:=h
 refine⟨_,acI _ _ _ _ _ _ _ _ _ _ _ _ _ _ _ _ _ _ _ _ _ _ _ K ?_⟩
 cases q with
 |none=>
  simp only[yl,fg]at h
  exact⟨fun f=>(by cases f),fun _=>h⟩
 |some p=>
  simp only[yl,bw,ko]at h
  refine⟨fun _=>⟨bn p,rfl,p.cl,rfl,p.nm,rfl,p.kd,rfl,p.bk,rfl,ints θ p.b,rfl,?_⟩,fun f=>(by cases f)⟩
  simp only[Qh]
  exact⟨⟨aE _,aE _,by omega,h⟩,aE _,aE _,by omega,h⟩)
theorem Z1:dE Tryz.prog GR:=fun f k h=>by
 unfold GR at h
 split at h
 ·cases h;exact eK NU _
 ·cases h;exact eK NE _
 ·cases h;exact eK FX _
 ·cases h;exact eK NV _
 ·cases h
theorem B6:bW Tryz.prog xS:=dI mixed Z1 aM 10
theorem Xx:aT Tryz.prog 110 BB:=jP B6 mixed (fun args kb K h=>by
 unfold BB at h;split at h<;>try exact h.elim
 obtain⟨rfl,hn,h⟩:=h
 exact⟨_,abT _ _ _ _ _ _ _ _ _ _ _ _ _ _ _ _ _ _ _ _ _ _ _ _ K ⟨aE _,fun f=>⟨rfl,hn,⟨by omega⟩,⟨by simp [bP]⟩,h⟩⟩⟩)
theorem qJ {c:List Int} (h:c.length=128):(bT c).length=132:=by rw[mO];omega
theorem F1:aT Tryz.prog 45 uF:=jP B6 mixed (fun args kb K h=>by
 unfold uF at h;split at h<;>try exact h.elim
 obtain⟨rfl,hn,c,x,⟨rfl,hl,hb⟩,ht,h⟩:=h
 have e1:=pP (qJ hl).symm
 have e2:=pP (l:=bb x) rfl
 refine⟨_,ack _ _ _ _ _ _ _ _ _ _ _ _ _ _ _ _ _ _ _ _ _ _ _ _ K ?_⟩
 unfold kY fc at h
 repeat' first
  | (exact⟨by simp [bP]⟩)
  | (exact⟨rfl⟩)
  | (exact hn)
  | (exact⟨by omega⟩)
  | (exact aE _)
  | (rw[be,qJ hl];exact aE _)
  | (rw[be];exact aE _)
  | (rw[e1,e2];exact h)
  | (rw[e1];exact h)
  |rfl
  | (refine⟨c,rfl,hl,hb,?_⟩)
  | (refine⟨x,ht,?_⟩)
  | (refine And.intro ?_ ?_)
  |intro f)
theorem NL:aT Tryz.prog 57 xo:=jP B6 mixed (fun args kb K h=>by
 unfold xo at h;split at h<;>try exact h.elim
 obtain⟨rfl,hn,c,p,⟨rfl,hl,hb⟩,rfl,h⟩:=h
 have hr:=x8 c
 have ew:Z.wrap (dy c)=dy c:=bR (by omega) (by omega)
 refine⟨_,abB _ _ _ _ _ _ _ _ _ _ _ _ _ _ _ _ _ _ _ _ _ _ _ _ K ?_⟩
 unfold od fc at h
 refine⟨bn p,rfl,p.cl,rfl,bn p,rfl,p.nm,rfl,bn p,rfl,p.kd,rfl,bn p,rfl,p.bk,rfl,bn p,rfl,ints θ p.b,rfl,fun f=>⟨c,rfl,hl,hb,⟨by simp [bP]⟩,⟨_,rfl,trivial⟩,⟨_,rfl,⟨rfl⟩⟩,⟨_,rfl,⟨rfl⟩⟩,⟨_,rfl,⟨rfl⟩⟩,⟨_,rfl,⟨rfl⟩⟩,⟨rfl⟩,⟨_,rfl,trivial⟩,aE _,fun f=>⟨rfl,hn,⟨by omega⟩,⟨by simp [bP]⟩,?_⟩⟩⟩
 rw[ew];exact h)
def xf:aH:=fun args kb K=>match args,kb with
 | [ac 0 0,.mp 1],[ω [.int Z me,γ a1,γ a2,γ a3,γ a4,γ a5,bc 128 C,γ a7,γ a8,γ a9,γ aB,an (.sl 1 M),an (.sl 1 J),γ aJ,γ χ,γ ψ,γ aP,γ aC,γ aI,γ aD,γ a20,γ a21],.mp [Z] false false 1 (Q)]=>∃ m j,M=ints Z m/\J=ints Z j/\dm (m.length+j.length)/\jW Q/\K (ξ (!(bA me m j).any (lZ Q))) [ω [.int Z me,γ a1,γ a2,γ a3,γ a4,γ a5,bc 128 C,γ a7,γ a8,γ a9,γ aB,an (.sl 1 M),an (.sl 1 J),γ aJ,γ χ,γ ψ,γ aP,γ aC,γ aI,γ aD,γ a20,γ a21],.mp [Z] false false 1 (Q)]
 |_,_=>False
def Ca:FuncId->Option dw
 | 44=>some ⟨[],dK [false,true,true,true,true,true,false,true,true,true,true,false,false,true,true,true,true,true,true,true,true,true] sP⟩
 | 70=>some ⟨[],xk⟩
 |_=>none
noncomputable def IW:bM:=dF Tryz.prog Ca aM 10
def allI (me:Int) (m j:List Int) (Q:ML):Bool:=!(bA me m j).any (lZ Q)
def oS:aH:=fun args kb K=>match args,kb with
 | [ac 0 0],[ω [γ a0,γ a1,γ a2,γ a3,γ a4,γ a5,bc 128 C,γ a7,γ a8,γ a9,γ aB,γ aX,γ a12,ξ ld,γ χ,γ ψ,.ae o,γ aC,γ aI,γ aD,γ a20,γ a21]]=>ld=false/\K (.υ [ξ false,ξ false,ξ (!o.isNone)]) [ω [γ a0,γ a1,γ a2,γ a3,γ a4,γ a5,bc 128 C,γ a7,γ a8,γ a9,γ aB,γ aX,γ a12,ξ ld,γ χ,γ ψ,.ae o,γ aC,γ aI,γ aD,γ a20,γ a21]]
 | [ac 0 0],[ω [.int Z me,γ a1,γ a2,γ a3,γ a4,γ a5,bc 128 C,γ a7,γ a8,γ a9,γ aB,an (.sl 1 M),an (.sl 1 J),ξ ld,.mp 1,γ ψ,.ae o,γ aC,γ aI,γ aD,γ a20,γ a21],.mp [Z] false false 1 (Q)]=>∃ m j,M=ints Z m/\J=ints Z j/\dm (m.length+j.length)/\jW Q/\ld=true/\K (.υ [ξ true,ξ (allI me m j Q),ξ (!o.isNone)]) [ω [.int Z me,γ a1,γ a2,γ a3,γ a4,γ a5,bc 128 C,γ a7,γ a8,γ a9,γ aB,an (.sl 1 M),an (.sl 1 J),ξ ld,.mp 1,γ ψ,.ae o,γ aC,γ aI,γ aD,γ a20,γ a21],.mp [Z] false false 1 (Q)]
 |_,_=>False
def EX:FuncId->Option dw
 | 41=>some ⟨[],dK [false,true,true,true,true,true,false,true,true,true,true,false,false,true,true,true,true,true,true,true,true,true] xf⟩
 |_=>none
noncomputable def B4:bM:=dF Tryz.prog EX aM 10
def jv (cl nm kd bk:Int) (b:Nat):Bool:=decide (1<=kd/\kd<=4/\0<=bk/\bk<8/\0<=cl/\cl<=255/\1<=nm/\nm<=1099511627776/\(kd=1->b=16))
def mI (kd:Int):Bool:=decide (kd=1∨kd=2)
def xp:aH:=fun args kb K=>match args,kb with
 | [.agg [.int Z cl,.int Z nm,.int Z kd,.int Z bk,an (.sl 1 B)]],[]=>K (ξ (jv cl nm kd bk B.length)) []
 |_,_=>False
def By:aH:=fun args kb K=>match args,kb with
 | [.agg [.int Z cl,.int Z nm,.int Z kd,.int Z bk,an (.sl 1 B)]],[]=>K (ξ (mI kd)) []
 |_,_=>False
def oa (c:List Int) (kd bk:Int):List (List D):=if kd=3 then ints θ ((c.drop (bk.toNat*16)).take 16)else[]
def xm:aH:=fun args kb K=>match args,kb with
 | [ac 0 0],[ω [.int Z me,γ a1,γ a2,γ a3,γ a4,γ a5,bc 128 C,γ a7,γ a8,γ a9,γ aB,an (.sl 1 M),an (.sl 1 J),γ aJ,γ χ,.mp 1,.ae o,γ aC,γ aI,γ aD,γ a20,.sl 2 0 n],.mp [Z] false false 1 (Q),ζ 70 7 (A)]=>n=A.length/\bN n/\∃ m j c p,gz C c/\M=ints Z m/\J=ints Z j/\dm (m.length+j.length)/\jW Q/\o=some (bn p)/\j_ p.bk/\
  (allI me m j Q=false->K (.υ []) [ω [.int Z me,γ a1,γ a2,γ a3,γ a4,γ a5,bc 128 C,γ a7,γ a8,γ a9,γ aB,an (.sl 1 M),an (.sl 1 J),γ aJ,γ χ,.mp 1,.ae o,γ aC,γ aI,γ aD,γ a20,.sl 2 0 n],.mp [Z] false false 1 (Q),ζ 70 7 (A)])/\
  (allI me m j Q=true->K (.υ []) [ω [.int Z me,γ a1,γ a2,γ a3,γ a4,γ a5,bc 128 (aK θ c),γ a7,γ a8,γ a9,γ aB,an (.sl 1 M),an (.sl 1 J),γ aJ,γ χ,.mp 1,.ae none,γ aC,γ aI,γ aD,γ a20,.sl 3 0 (n+1)],.mp [Z] false false 1 (Q),ο,ζ 70 7 (A++[Da p 0 (oa c p.kd p.bk)])])
 |_,_=>False
def Dq:FuncId->Option dw
 | 41=>some ⟨[],dK [false,true,true,true,true,true,false,true,true,true,true,false,false,true,true,true,true,true,true,true,true,true] xf⟩
 | 86=>some ⟨[],dK [true,true,true,true,true,true,false,true,true,true,true,true,true,true,true,true,true,true,true,true,true,true] xg⟩
 |_=>none
noncomputable def I5:bM:=dF Tryz.prog Dq aM 10
def eJ (c:List Int) (kd bk:Int) (b:List Int):List Int:=if kd=1 then splice c (bk.toNat*16) b else if kd=2 then splice c (bk.toNat*16) (cQ 16 0)else c
structure oR (n:Int):Prop where
 lo:0<=n
 hi:n<=4398046511104
structure w9 (kd:Int):Prop where
 h:mI kd=false
structure wQ (kd:Int):Prop where
 h:mI kd=true
structure sO (cl nm kd bk:Int) (b:Nat):Prop where
 h:jv cl nm kd bk b=true
def xl:aH:=fun args kb K=>match args,kb with
 | [ac 0 0,.agg [.int Z cl,.int Z nm,.int Z kd,.int Z bk,an (.sl 1 B)]],[ω [γ a0,γ a1,γ a2,γ a3,γ a4,.int Z nu,bc 128 C,.imp [Z] false true 2 T,γ a8,γ a9,γ aB,γ aX,γ a12,γ aJ,γ χ,γ ψ,γ aP,γ aC,ξ ch,γ aD,γ a20,γ a21]]=>∃ c b x,gz C c/\B=ints θ b/\bG T x/\oR nu/\sO cl nm kd bk b.length/\
  (w9 kd->K (.υ []) [ω [γ a0,γ a1,γ a2,γ a3,γ a4,.int Z (nu+1),bc 128 (aK θ (eJ c kd bk b)),ai T,γ a8,γ a9,γ aB,γ aX,γ a12,γ aJ,γ χ,γ ψ,γ aP,γ aC,ξ true,γ aD,γ a20,γ a21]])/\
  (wQ kd->(kH (cz x cl nm 0)->K (.υ []) [ω [γ a0,γ a1,γ a2,γ a3,γ a4,.int Z (nu+1),bc 128 (aK θ (eJ c kd bk b)),ai T,γ a8,γ a9,γ aB,γ aX,γ a12,γ aJ,γ χ,γ ψ,γ aP,γ aC,ξ true,γ aD,γ a20,γ a21]])/\(kF (cz x cl nm 0)->K (.υ []) [ω [γ a0,γ a1,γ a2,γ a3,γ a4,.int Z (nu+1),bc 128 (aK θ (eJ c kd bk b)),ai (av T [cl] [dn Z nm,dn Z 0]),γ a8,γ a9,γ aB,γ aX,γ a12,γ aJ,γ χ,γ ψ,γ aP,γ aC,ξ true,γ aD,γ a20,γ a21]]))
 |_,_=>False
def Db:FuncId->Option dw
 | 84=>some ⟨[],dK [true,true,true,true,true,true,false,true,true,true,true,true,true,true,true,true,true,true,true,true,true,true] xJ⟩
 | 85=>some ⟨[],dK [true,true,true,true,true,true,false,true,true,true,true,true,true,true,true,true,true,true,true,true,true,true] xI⟩
 | 66=>some ⟨[],dK [true,true,true,true,true,true,false,false,true,true,true,true,true,true,true,true,true,true,true,true,true,true] BH⟩
 |_=>none
noncomputable def I2:bM:=dF Tryz.prog Db aM 10
structure sN (a b:Int):Prop where
 h:a=b
def Bz:aH:=fun args kb K=>match args,kb with
 | [ac 0 0,.agg [.int Z cl,.int Z nm,.int Z kd,.int Z bk,an (.sl 1 B)]],[ω [γ a0,γ a1,γ a2,γ a3,γ a4,γ a5,bc 128 C,.imp [Z] false true 2 T,γ a8,γ a9,γ aB,γ aX,γ a12,γ aJ,γ χ,γ ψ,γ aP,γ aC,γ aI,γ aD,γ a20,.sl 1 0 n],ζ 70 7 (A)]=>n=A.length/\bN n/\∃ x,bG T x/\
  (sN (g_ x cl nm) 1->K (.υ [.int Z 0,ξ true]) [ω [γ a0,γ a1,γ a2,γ a3,γ a4,γ a5,bc 128 C,ai T,γ a8,γ a9,γ aB,γ aX,γ a12,γ aJ,γ χ,γ ψ,γ aP,γ aC,γ aI,γ aD,γ a20,.sl 2 0 (n+1)],ο,ζ 70 7 (A++[[dn Z cl,dn Z nm,dn Z kd,dn Z bk,.sl 1 B,dn Z (oV x cl nm),.sl 1 []]])])/\
  (sN (g_ x cl nm) 2->K (.υ [.int Z 13,ξ true]) [ω [γ a0,γ a1,γ a2,γ a3,γ a4,γ a5,bc 128 C,.imp [Z] false true 2 T,γ a8,γ a9,γ aB,γ aX,γ a12,γ aJ,γ χ,γ ψ,γ aP,γ aC,γ aI,γ aD,γ a20,.sl 1 0 n],ζ 70 7 (A)])/\
  (sN (g_ x cl nm) 0->(kH (cz x cl nm 0)->K (.υ [.int Z (cz x cl nm 0),ξ true]) [ω [γ a0,γ a1,γ a2,γ a3,γ a4,γ a5,bc 128 C,.imp [Z] false true 2 T,γ a8,γ a9,γ aB,γ aX,γ a12,γ aJ,γ χ,γ ψ,γ aP,γ aC,γ aI,γ aD,γ a20,.sl 1 0 n],ζ 70 7 (A)])/\(kF (cz x cl nm 0)->K (.υ [.int Z 0,ξ false]) [ω [γ a0,γ a1,γ a2,γ a3,γ a4,γ a5,bc 128 C,.imp [Z] false true 2 T,γ a8,γ a9,γ aB,γ aX,γ a12,γ aJ,γ χ,γ ψ,γ aP,γ aC,γ aI,γ aD,γ a20,.sl 1 0 n],ζ 70 7 (A)]))
 |_,_=>False
def ET:FuncId->Option dw
 | 83=>some ⟨[],dK [true,true,true,true,true,true,false,false,true,true,true,true,true,true,true,true,true,true,true,true,true,true] Bm⟩
 | 66=>some ⟨[],xx⟩
 |_=>none
noncomputable def I_:bM:=dF Tryz.prog ET aM 10
theorem aa3 (a1 a2 a3 a4 a5 a7 a8 a9 aB aJ χ ψ aP aC aI aD a20 a21:Value) (C:List D) (me:Int) (M J:List (List D)) (Q:ML) (K:V->KB->Prop) (ay:
 ∀(y1:Nat->
 Value),∃(y2:List Int),∃(y3:List Int),M=ints Z y2/\
 J=ints Z y3/\
 dm (y2.length+y3.length)/\
 bu y1 [1,2,3,4,5,7,8,9,10,13,14,15,16,17,18,19,20,21]/\
 ∃(y4:List Int),ints Z (fC me y2 y3)=ints Z y4/\
 (bA me y2 y3).length<=y4.length/\
 dm y4.length/\
 jW Q/\
 K (ξ !(ah (bA me y2 y3).length y4).any (lZ Q)) [ω [δ Z me,γ a1,γ a2,γ a3,γ a4,γ a5,bc 128 C,γ a7,γ a8,γ a9,γ aB,an (π 1 M),an (π 1 J),γ aJ,γ χ,γ ψ,γ aP,γ aC,γ aI,γ aD,γ a20,γ a21],KO.mp [Z] false false 1 Q]
 ):aO Tryz.prog IW (aM 41) 41 [ac 0 0,.mp 1] [ω [.int Z me,γ a1,γ a2,γ a3,γ a4,γ a5,bc 128 C,γ a7,γ a8,γ a9,γ aB,an (.sl 1 M),an (.sl 1 J),γ aJ,γ χ,γ ψ,γ aP,γ aC,γ aI,γ aD,γ a20,γ a21],.mp [Z] false false 1 (Q)] (dh 2 K):=by apply Eq.mp (a:=ay);kernel_rfl
theorem abJ (cl nm kd bk:Int) (B:List (List D)) (K:V->KB->Prop) (ay:
 (decide (kd ≥ 1)=true->
 (decide (kd<=4)=true->
 (decide (bk ≥ 0)=true->
 (decide (bk<8)=true->
 (decide (cl ≥ 0)=true->
 (decide (cl<=255)=true->
 (decide (nm ≥ 1)=true->
 (decide (nm<=1099511627776)=true->
 ((kd != 1)=true->
 K (ξ true) [])/\
 ((kd != 1)=false->
 K (ξ ((↑B.length:Int) == 16)) []))/\
 (decide (nm<=1099511627776)=false->
 K (ξ false) []))/\
 (decide (nm ≥ 1)=false->
 K (ξ false) []))/\
 (decide (cl<=255)=false->
 K (ξ false) []))/\
 (decide (cl ≥ 0)=false->
 K (ξ false) []))/\
 (decide (bk<8)=false->
 K (ξ false) []))/\
 (decide (bk ≥ 0)=false->
 K (ξ false) []))/\
 (decide (kd<=4)=false->
 K (ξ false) []))/\
 (decide (kd ≥ 1)=false->
 K (ξ false) [])
 ):aO Tryz.prog X0 (aM 52) 52 [.agg [.int Z cl,.int Z nm,.int Z kd,.int Z bk,an (.sl 1 B)]] [] (dh 0 K):=by apply Eq.mp (a:=ay);kernel_rfl
theorem abI (cl nm kd bk:Int) (B:List (List D)) (K:V->KB->Prop) (ay:
 ((kd == 1)=true->
 K (ξ true) [])/\
 ((kd == 1)=false->
 K (ξ (kd == 2)) [])
 ):aO Tryz.prog X0 (aM 53) 53 [.agg [.int Z cl,.int Z nm,.int Z kd,.int Z bk,an (.sl 1 B)]] [] (dh 0 K):=by apply Eq.mp (a:=ay);kernel_rfl
theorem abM (a0 a1 a2 a3 a4 a5 a7 a8 a9 aB aX a12 χ ψ aC aI aD a20 a21:Value) (C:List D) (ld:Bool) (o:Option (List D)) (K:V->KB->Prop) (ay:
 let aq:KB:=[ω [γ a0,γ a1,γ a2,γ a3,γ a4,γ a5,bc 128 C,γ a7,γ a8,γ a9,γ aB,γ aX,γ a12,ξ ld,γ χ,γ ψ,aG o,γ aC,γ aI,γ aD,γ a20,γ a21]];(ld=true->
 (∀(y1:Nat->
 Value),False)/\
 ∀(y2:Nat->
 Value),False)/\
 (ld=false->
 K (ar [ξ ld,ξ false,ξ !o.isNone]) aq/\
 K (ar [ξ ld,ξ false,ξ !o.isNone]) aq)
 ):aO Tryz.prog B4 (aM 14) 14 [ac 0 0] [ω [γ a0,γ a1,γ a2,γ a3,γ a4,γ a5,bc 128 C,γ a7,γ a8,γ a9,γ aB,γ aX,γ a12,ξ ld,γ χ,γ ψ,.ae o,γ aC,γ aI,γ aD,γ a20,γ a21]] (dh 1 K):=by apply Eq.mp (a:=ay);kernel_rfl
theorem abN (a1 a2 a3 a4 a5 a7 a8 a9 aB ψ aC aI aD a20 a21:Value) (C:List D) (ld:Bool) (me:Int) (M J:List (List D)) (Q:ML) (o:Option (List D)) (K:V->KB->Prop) (ay:
 let aq:KB:=[ω [δ Z me,γ a1,γ a2,γ a3,γ a4,γ a5,bc 128 C,γ a7,γ a8,γ a9,γ aB,an (π 1 M),an (π 1 J),ξ ld,aV 1,γ ψ,aG o,γ aC,γ aI,γ aD,γ a20,γ a21],KO.mp [Z] false false 1 Q];(ld=true->
 (∀(y1:Nat->
 Value),∃(y2:List Int),∃(y3:List Int),M=ints Z y2/\
 J=ints Z y3/\
 dm (y2.length+y3.length)/\
 jW Q/\
 bu y1 [1,2,3,4,5,7,8,9,10,13,14,15,16,17,18,19,20,21]/\
 ld=ld/\
 K (ar [ξ ld,ξ !(bA me y2 y3).any (lZ Q),ξ !o.isNone]) aq)/\
 ∀(y4:Nat->
 Value),∃(y5:List Int),∃(y6:List Int),M=ints Z y5/\
 J=ints Z y6/\
 dm (y5.length+y6.length)/\
 jW Q/\
 bu y4 [1,2,3,4,5,7,8,9,10,13,14,15,16,17,18,19,20,21]/\
 ld=ld/\
 K (ar [ξ ld,ξ !(bA me y5 y6).any (lZ Q),ξ !o.isNone]) aq)/\
 (ld=false->
 K (ar [ξ ld,ξ false,ξ !o.isNone]) aq/\
 K (ar [ξ ld,ξ false,ξ !o.isNone]) aq)
 ):aO Tryz.prog B4 (aM 14) 14 [ac 0 0] [ω [.int Z me,γ a1,γ a2,γ a3,γ a4,γ a5,bc 128 C,γ a7,γ a8,γ a9,γ aB,an (.sl 1 M),an (.sl 1 J),ξ ld,.mp 1,γ ψ,.ae o,γ aC,γ aI,γ aD,γ a20,γ a21],.mp [Z] false false 1 (Q)] (dh 2 K):=by apply Eq.mp (a:=ay);kernel_rfl
theorem abA (a1 a2 a3 a4 a5 a7 a8 a9 aB aJ χ aC aI aD a20:Value) (C:List D) (me:Int) (M J:List (List D)) (Q:ML) (o:Option (List D)) (n:Nat) (A:List (List D)) (K:V->KB->Prop) (ay:
 let aq:KB:=[ω [δ Z me,γ a1,γ a2,γ a3,γ a4,γ a5,bc 128 C,γ a7,γ a8,γ a9,γ aB,an (π 1 M),an (π 1 J),γ aJ,γ χ,aV 1,aG o,γ aC,γ aI,γ aD,γ a20,ε 2 0 n],KO.mp [Z] false false 1 Q,ζ 70 7 A];let bB:=ω [δ Z me,γ a1,γ a2,γ a3,γ a4,γ a5,bc 128 C,γ a7,γ a8,γ a9,γ aB,an (π 1 M),an (π 1 J),γ aJ,γ χ,aV 1,aG none,γ aC,γ aI,γ aD,γ a20,ε 3 0 (n+1)];(o.isNone=true->
 K (ar []) aq)/\
 (o.isNone=false->
 ∀(y1:Nat->
 Value),∃(y2:List Int),∃(y3:List Int),M=ints Z y2/\
 J=ints Z y3/\
 dm (y2.length+y3.length)/\
 jW Q/\
 bu y1 [1,2,3,4,5,7,8,9,10,13,14,15,16,17,18,19,20,21]/\
 ((!!(bA me y2 y3).any (lZ Q))=true->
 K (ar []) aq)/\
 ((!!(bA me y2 y3).any (lZ Q))=false->
 ∃(y4:List D),o=some y4/\
 ∃(y5:Int),y4[0]? =some (η (κ Z y5))/\
 ∃(y6:Int),y4[1]? =some (η (κ Z y6))/\
 ∃(y7:Int),y4[2]? =some (η (κ Z y7))/\
 ∃(y8:Int),y4[3]? =some (η (κ Z y8))/\
 ∃(y9:List (List D)),y4[4]? =some (π 1 y9)/\
 ∃(cq:List D),o=some cq/\
 ∃(b_:Int),cq[2]? =some (η (κ Z b_))/\
 ((b_ == 3)=true->
 ∃(ca:List D),o=some ca/\
 ∃(cf:Int),ca[3]? =some (η (κ Z cf))/\
 ∀(cE:Nat->
 Value),∃(cj:List Int),C=aK θ cj/\
 cj.length=128/\
 (j_ cf->
 bu cE [0,1,2,3,4,5,7,8,9,10,11,12,13,14,15,16,17,18,19,20,21]/\
 (16<=(ints θ (ah 16 (ν (cf.toNat*16) cj))).length/\
 1<=1/\
 n<=A.length/\
 (n+1)*88<=140737488355328/\
 K (ar []) [ω [δ Z me,γ a1,γ a2,γ a3,γ a4,γ a5,bc 128 (aK θ cj),γ a7,γ a8,γ a9,γ aB,an (π 1 M),an (π 1 J),γ aJ,γ χ,aV 1,aG none,γ aC,γ aI,γ aD,γ a20,ε 3 0 (n+1)],KO.mp [Z] false false 1 Q,ο,ζ 70 7 (ah n A++[[η (κ Z y5),η (κ Z y6),η (κ Z y7),η (κ Z y8),π 1 y9,η (κ Z 0),π 1 (ν 0 (ah 16 (ints θ (ah 16 (ν (cf.toNat*16) cj)))))]])])/\
 16<=(ints θ (ah 16 (ν (cf.toNat*16) cj))).length/\
 1<=1/\
 n<=A.length/\
 (n+1)*88<=140737488355328/\
 K (ar []) [ω [δ Z me,γ a1,γ a2,γ a3,γ a4,γ a5,bc 128 (aK θ cj),γ a7,γ a8,γ a9,γ aB,an (π 1 M),an (π 1 J),γ aJ,γ χ,aV 1,aG none,γ aC,γ aI,γ aD,γ a20,ε 3 0 (n+1)],KO.mp [Z] false false 1 Q,ο,ζ 70 7 (ah n A++[[η (κ Z y5),η (κ Z y6),η (κ Z y7),η (κ Z y8),π 1 y9,η (κ Z 0),π 1 (ν 0 (ah 16 (ints θ (ah 16 (ν (cf.toNat*16) cj)))))]])])/\
 ((j_ cf->
 False)->
 bu cE [0,1,2,3,4,5,7,8,9,10,11,12,13,14,15,16,17,18,19,20,21]/\
 (1<=1/\
 n<=A.length/\
 (n+1)*88<=140737488355328/\
 K (ar []) [ω [δ Z me,γ a1,γ a2,γ a3,γ a4,γ a5,bc 128 (aK θ cj),γ a7,γ a8,γ a9,γ aB,an (π 1 M),an (π 1 J),γ aJ,γ χ,aV 1,aG none,γ aC,γ aI,γ aD,γ a20,ε 3 0 (n+1)],KO.mp [Z] false false 1 Q,ο,ζ 70 7 (ah n A++[[η (κ Z y5),η (κ Z y6),η (κ Z y7),η (κ Z y8),π 1 y9,η (κ Z 1),π 1 []]])])/\
 1<=1/\
 n<=A.length/\
 (n+1)*88<=140737488355328/\
 K (ar []) [ω [δ Z me,γ a1,γ a2,γ a3,γ a4,γ a5,bc 128 (aK θ cj),γ a7,γ a8,γ a9,γ aB,an (π 1 M),an (π 1 J),γ aJ,γ χ,aV 1,aG none,γ aC,γ aI,γ aD,γ a20,ε 3 0 (n+1)],KO.mp [Z] false false 1 Q,ο,ζ 70 7 (ah n A++[[η (κ Z y5),η (κ Z y6),η (κ Z y7),η (κ Z y8),π 1 y9,η (κ Z 1),π 1 []]])]))/\
 ((b_ == 3)=false->
 (1<=1/\
 n<=A.length/\
 (n+1)*88<=140737488355328/\
 K (ar []) [bB,KO.mp [Z] false false 1 Q,ο,ζ 70 7 (ah n A++[[η (κ Z y5),η (κ Z y6),η (κ Z y7),η (κ Z y8),π 1 y9,η (κ Z 0),π 1 []]])])/\
 1<=1/\
 n<=A.length/\
 (n+1)*88<=140737488355328/\
 K (ar []) [bB,KO.mp [Z] false false 1 Q,ο,ζ 70 7 (ah n A++[[η (κ Z y5),η (κ Z y6),η (κ Z y7),η (κ Z y8),π 1 y9,η (κ Z 0),π 1 []]])])))
 ):aO Tryz.prog I5 (aM 58) 58 [ac 0 0] [ω [.int Z me,γ a1,γ a2,γ a3,γ a4,γ a5,bc 128 C,γ a7,γ a8,γ a9,γ aB,an (.sl 1 M),an (.sl 1 J),γ aJ,γ χ,.mp 1,.ae o,γ aC,γ aI,γ aD,γ a20,.sl 2 0 n],.mp [Z] false false 1 (Q),ζ 70 7 (A)] (eX [.ot 0 143] (dh 3 K)):=by apply Eq.mp (a:=ay);kernel_rfl
theorem abr (a0 a1 a2 a3 a4 a8 a9 aB aX a12 aJ χ ψ aP aC aD a20 a21:Value) (C:List D) (nu:Int) (ch:Bool) (T:ML) (cl nm kd bk:Int) (B:List (List D)) (K:V->KB->Prop) (ay:
 let aq:=[0,1,2,3,4,5,8,9,10,11,12,13,14,15,16,17,18,19,20,21];let bB:=V.imp [Z] false true 2 (av T [cl] [dn Z nm,η (κ Z 0)]);let ft:=[0,1,2,3,4,5,7,8,9,10,11,12,13,14,15,16,17,18,19,20,21];((kd == 1)=true->
 ∀(y1:Nat->
 Value),∃(y2:List Int),∃(y3:List Int),C=aK θ y2/\
 B=ints θ y3/\
 y2.length=128/\
 (j_ bk/\
 y3.length=16->
 bu y1 ft/\
 ∀(y4:Nat->
 Value),∃(y5:List L3),bG T y5/\
 (kH (cz y5 cl nm 0)->
 bu y4 aq/\
 K (ar []) [ω [γ a0,γ a1,γ a2,γ a3,γ a4,δ Z (Z.wrap (nu+1)),bc 128 (aK θ (splice y2 (bk.toNat*16) y3)),V.imp [Z] false true 2 T,γ a8,γ a9,γ aB,γ aX,γ a12,γ aJ,γ χ,γ ψ,γ aP,γ aC,ξ true,γ aD,γ a20,γ a21]])/\
 (kF (cz y5 cl nm 0)->
 bu y4 aq/\
 K (ar []) [ω [γ a0,γ a1,γ a2,γ a3,γ a4,δ Z (Z.wrap (nu+1)),bc 128 (aK θ (splice y2 (bk.toNat*16) y3)),bB,γ a8,γ a9,γ aB,γ aX,γ a12,γ aJ,γ χ,γ ψ,γ aP,γ aC,ξ true,γ aD,γ a20,γ a21]]))/\
 ((j_ bk/\
 y3.length=16->
 False)->
 bu y1 ft/\
 ∀(y6:Nat->
 Value),∃(y7:List L3),bG T y7/\
 (kH (cz y7 cl nm 0)->
 bu y6 aq/\
 K (ar []) [ω [γ a0,γ a1,γ a2,γ a3,γ a4,δ Z (Z.wrap (nu+1)),bc 128 (aK θ y2),V.imp [Z] false true 2 T,γ a8,γ a9,γ aB,γ aX,γ a12,γ aJ,γ χ,γ ψ,γ aP,γ aC,ξ true,γ aD,γ a20,γ a21]])/\
 (kF (cz y7 cl nm 0)->
 bu y6 aq/\
 K (ar []) [ω [γ a0,γ a1,γ a2,γ a3,γ a4,δ Z (Z.wrap (nu+1)),bc 128 (aK θ y2),bB,γ a8,γ a9,γ aB,γ aX,γ a12,γ aJ,γ χ,γ ψ,γ aP,γ aC,ξ true,γ aD,γ a20,γ a21]])))/\
 ((kd == 1)=false->
 ((kd == 2)=true->
 ∀(y8:Nat->
 Value),∃(y9:List Int),C=aK θ y9/\
 y9.length=128/\
 (j_ bk->
 bu y8 ft/\
 ∀(cq:Nat->
 Value),∃(b_:List L3),bG T b_/\
 (kH (cz b_ cl nm 0)->
 bu cq aq/\
 K (ar []) [ω [γ a0,γ a1,γ a2,γ a3,γ a4,δ Z (Z.wrap (nu+1)),bc 128 (aK θ (splice y9 (bk.toNat*16) [0,0,0,0,0,0,0,0,0,0,0,0,0,0,0,0])),V.imp [Z] false true 2 T,γ a8,γ a9,γ aB,γ aX,γ a12,γ aJ,γ χ,γ ψ,γ aP,γ aC,ξ true,γ aD,γ a20,γ a21]])/\
 (kF (cz b_ cl nm 0)->
 bu cq aq/\
 K (ar []) [ω [γ a0,γ a1,γ a2,γ a3,γ a4,δ Z (Z.wrap (nu+1)),bc 128 (aK θ (splice y9 (bk.toNat*16) [0,0,0,0,0,0,0,0,0,0,0,0,0,0,0,0])),bB,γ a8,γ a9,γ aB,γ aX,γ a12,γ aJ,γ χ,γ ψ,γ aP,γ aC,ξ true,γ aD,γ a20,γ a21]]))/\
 ((j_ bk->
 False)->
 bu y8 ft/\
 ∀(ca:Nat->
 Value),∃(cf:List L3),bG T cf/\
 (kH (cz cf cl nm 0)->
 bu ca aq/\
 K (ar []) [ω [γ a0,γ a1,γ a2,γ a3,γ a4,δ Z (Z.wrap (nu+1)),bc 128 (aK θ y9),V.imp [Z] false true 2 T,γ a8,γ a9,γ aB,γ aX,γ a12,γ aJ,γ χ,γ ψ,γ aP,γ aC,ξ true,γ aD,γ a20,γ a21]])/\
 (kF (cz cf cl nm 0)->
 bu ca aq/\
 K (ar []) [ω [γ a0,γ a1,γ a2,γ a3,γ a4,δ Z (Z.wrap (nu+1)),bc 128 (aK θ y9),bB,γ a8,γ a9,γ aB,γ aX,γ a12,γ aJ,γ χ,γ ψ,γ aP,γ aC,ξ true,γ aD,γ a20,γ a21]])))/\
 ((kd == 2)=false->
 K (ar []) [ω [γ a0,γ a1,γ a2,γ a3,γ a4,δ Z (Z.wrap (nu+1)),bc 128 C,V.imp [Z] false true 2 T,γ a8,γ a9,γ aB,γ aX,γ a12,γ aJ,γ χ,γ ψ,γ aP,γ aC,ξ true,γ aD,γ a20,γ a21]]))
 ):aO Tryz.prog I2 (aM 56) 56 [ac 0 0,.agg [.int Z cl,.int Z nm,.int Z kd,.int Z bk,an (.sl 1 B)]] [ω [γ a0,γ a1,γ a2,γ a3,γ a4,.int Z nu,bc 128 C,.imp [Z] false true 2 T,γ a8,γ a9,γ aB,γ aX,γ a12,γ aJ,γ χ,γ ψ,γ aP,γ aC,ξ ch,γ aD,γ a20,γ a21]] (dh 1 K):=by apply Eq.mp (a:=ay);kernel_rfl
theorem abL (a0 a1 a2 a3 a4 a5 a8 a9 aB aX a12 aJ χ ψ aP aC aI aD a20:Value) (C:List D) (T:ML) (cl nm kd bk:Int) (B:List (List D)) (n:Nat) (A:List (List D)) (K:V->KB->Prop) (ay:
 let aq:KB:=[ω [γ a0,γ a1,γ a2,γ a3,γ a4,γ a5,bc 128 C,V.imp [Z] false true 2 T,γ a8,γ a9,γ aB,γ aX,γ a12,γ aJ,γ χ,γ ψ,γ aP,γ aC,γ aI,γ aD,γ a20,ε 1 0 n],ζ 70 7 A];let bB:=ω [γ a0,γ a1,γ a2,γ a3,γ a4,γ a5,bc 128 C,V.imp [Z] false true 2 T,γ a8,γ a9,γ aB,γ aX,γ a12,γ aJ,γ χ,γ ψ,γ aP,γ aC,γ aI,γ aD,γ a20,ε 2 0 (n+1)];∀(y1:Nat->
 Value),∃(y2:List L3),bG T y2/\
 bu y1 [0,1,2,3,4,5,8,9,10,11,12,13,14,15,16,17,18,19,20,21]/\
 ((g_ y2 cl nm == 1)=true->
 (1<=1/\
 n<=A.length/\
 (n+1)*88<=140737488355328/\
 K (ar [δ Z 0,ξ true]) [bB,ο,ζ 70 7 (ah n A++[[η (κ Z cl),η (κ Z nm),η (κ Z kd),η (κ Z bk),π 1 B,η (κ Z (oV y2 cl nm)),π 1 []]])])/\
 1<=1/\
 n<=A.length/\
 (n+1)*88<=140737488355328/\
 K (ar [δ Z 0,ξ true]) [bB,ο,ζ 70 7 (ah n A++[[η (κ Z cl),η (κ Z nm),η (κ Z kd),η (κ Z bk),π 1 B,η (κ Z (oV y2 cl nm)),π 1 []]])])/\
 ((g_ y2 cl nm == 1)=false->
 ((g_ y2 cl nm == 2)=true->
 K (ar [δ Z 13,ξ true]) aq)/\
 ((g_ y2 cl nm == 2)=false->
 ∃(y3:List L3),bG T y3/\
 (kH (cz y3 cl nm 0)->
 ((cz y3 cl nm 0 != 0)=true->
 K (ar [δ Z (cz y3 cl nm 0),ξ true]) aq)/\
 ((cz y3 cl nm 0 != 0)=false->
 K (ar [δ Z 0,ξ false]) aq))/\
 (kF (cz y3 cl nm 0)->
 (false=true->
 K (ar [δ Z 0,ξ true]) aq)/\
 (false=false->
 K (ar [δ Z 0,ξ false]) aq))))
 ):aO Tryz.prog I_ (aM 54) 54 [ac 0 0,.agg [.int Z cl,.int Z nm,.int Z kd,.int Z bk,an (.sl 1 B)]] [ω [γ a0,γ a1,γ a2,γ a3,γ a4,γ a5,bc 128 C,.imp [Z] false true 2 T,γ a8,γ a9,γ aB,γ aX,γ a12,γ aJ,γ χ,γ ψ,γ aP,γ aC,γ aI,γ aD,γ a20,.sl 1 0 n],ζ 70 7 (A)] (dh 2 K):=by apply Eq.mp (a:=ay);kernel_rfl
theorem Gb (me:Int) (m j:List Int):(fC me m j).take (bA me m j).length=bA me m j:=by
 unfold fC bA tv;exact List.take_left
theorem F_ (me:Int) (m j:List Int):(fC me m j).length=m.length+j.length:=by
 unfold fC tv
 have:=zc me (m++j)
 rw[bw,List.length_replicate,<- bw];omega
theorem On (me:Int) (m j:List Int):(bA me m j).length<=m.length+j.length:=by
 have:=zc me (m++j)
 rw[bw]at this;exact this
theorem R_:dE Tryz.prog Ca:=fun f k h=>by
 unfold Ca at h
 split at h
 ·cases h;exact eK zH _
 ·cases h;exact NH
 ·cases h
theorem RF:bW Tryz.prog IW:=dI mixed R_ aM 10
theorem NC:aT Tryz.prog 41 xf:=jP RF mixed (fun args kb K h=>by
 unfold xf at h;split at h<;>try exact h.elim
 obtain⟨m,j,rfl,rfl,h5,hB,h⟩:=h
 refine⟨_,aa3 _ _ _ _ _ _ _ _ _ _ _ _ _ _ _ _ _ _ _ _ _ _ _ K fun f=>⟨m,j,rfl,rfl,h5,⟨by simp [bP]⟩,fC _ m j,rfl,?_,⟨?_⟩,hB,?_⟩⟩
 ·rw[F_];exact On _ _ _
 ·rw[F_];exact h5.h
 ·rw[Gb];exact h)
theorem V1:dE Tryz.prog EX:=fun f k h=>by
 unfold EX at h
 split at h
 ·cases h;exact eK NC _
 ·cases h
theorem RS:bW Tryz.prog B4:=dI mixed V1 aM 10
theorem FY:aT Tryz.prog 14 oS:=jP RS mixed (fun args kb K h=>by
 unfold oS at h;split at h<;>try exact h.elim
 ·obtain⟨rfl,h⟩:=h
  exact⟨_,abM _ _ _ _ _ _ _ _ _ _ _ _ _ _ _ _ _ _ _ _ _ _ K ⟨fun e=>(by cases e),fun _=>⟨h,h⟩⟩⟩
 ·obtain⟨m,j,rfl,rfl,h5,hB,rfl,h⟩:=h
  have k:∀ f:Nat->Value,bu f [1,2,3,4,5,7,8,9,10,13,14,15,16,17,18,19,20,21]:=fun f=>⟨by simp [bP]⟩
  exact⟨_,abN _ _ _ _ _ _ _ _ _ _ _ _ _ _ _ _ _ _ _ _ _ _ K ⟨fun _=>⟨fun f=>⟨m,j,rfl,rfl,h5,hB,k f,rfl,h⟩,fun f=>⟨m,j,rfl,rfl,h5,hB,k f,rfl,h⟩⟩,fun f=>by cases f⟩⟩)
theorem NM:aT Tryz.prog 52 xp:=jP f_ mixed (fun args kb K h=>by
 unfold xp at h;split at h<;>try exact h.elim
 rename_i cl nm kd bk B
 refine⟨_,abJ _ _ _ _ _ K ?_⟩
 have key:∀{b:Bool},b=jv cl nm kd bk B.length->K (ξ b) []:=fun e=>by rw[e];exact h
 refine⟨fun e1=>⟨fun e2=>⟨fun e3=>⟨fun e4=>⟨fun e5=>⟨fun e6=>⟨fun e7=>⟨fun e8=>⟨fun e9=>?_,fun e9=>?_⟩,fun e8=>?_⟩,fun e7=>?_⟩,fun e6=>?_⟩,fun e5=>?_⟩,fun e4=>?_⟩,fun e3=>?_⟩,fun e2=>?_⟩,fun e1=>?_⟩<;>refine key ?_<;>unfold jv
 ·simp only[decide_eq_true_eq,bne_iff_ne,ne_eq]at*
  exact(decide_eq_true ⟨e1,e2,e3,e4,e5,e6,e7,e8,fun h=>absurd h e9⟩).symm
 ·simp only[decide_eq_true_eq,bne_eq_false_iff_eq]at*
  rw[Bool.eq_iff_iff]
  simp only[beq_iff_eq,decide_eq_true_eq]
  omega
 all_goals
  simp only[decide_eq_true_eq,decide_eq_false_iff_not]at*
  refine(decide_eq_false ?_).symm
  omega)
theorem Xo:aT Tryz.prog 53 By:=jP f_ mixed (fun args kb K h=>by
 unfold By at h;split at h<;>try exact h.elim
 rename_i cl nm kd bk B
 refine⟨_,abI _ _ _ _ _ K ?_⟩
 have key:∀{b:Bool},b=mI kd->K (ξ b) []:=fun e=>by rw[e];exact h
 refine⟨fun e=>key ?_,fun e=>key ?_⟩<;>unfold mI
 ·simp only[beq_iff_eq]at e
  exact(decide_eq_true (.inl e)).symm
 ·simp only[beq_eq_false_iff_ne,ne_eq]at e
  rw[Bool.eq_iff_iff]
  simp only[beq_iff_eq,decide_eq_true_eq]
  omega)
theorem TI:dE Tryz.prog Dq:=fun f k h=>by
 unfold Dq at h
 split at h
 ·cases h;exact eK NC _
 ·cases h;exact eK ND _
 ·cases h
theorem RM:bW Tryz.prog I5:=dI mixed TI aM 10
theorem pO {A:List (List D)} {n:Nat} (h:n=A.length):ah n A=A:=by subst h;exact cN
theorem NK:aT Tryz.prog 58 xm:=mP RM mixed [.ot 0 143] (fun args kb K h=>by
 unfold xm at h;split at h<;>try exact h.elim
 rename_i me _ _ _ _ _ C _ _ _ _ M J _ _ _ _ _ _ _ n Q A
 obtain⟨hn,⟨hn2⟩,m,j,c,p,⟨rfl,hl,hb⟩,rfl,rfl,h5,hB,rfl,D5,h0,h1⟩:=h
 refine⟨_,abA _ _ _ _ _ _ _ _ _ _ _ _ _ _ _ _ _ _ _ _ _ _ _ K ⟨fun f=>(by cases f),fun _ f=>⟨m,j,rfl,rfl,h5,hB,⟨by simp [bP]⟩,fun e=>h0 (by simpa [allI]using e),fun e=>?_⟩⟩⟩
 have e:allI me m j Q=true:=by simpa [allI]using e
 have h1:=h1 e
 have hlen:(ah 16 (ν (p.bk.toNat*16) c)).length=16:=by
  have:=D5.1;have:=D5.2
  rw[cW,fh,hl];omega
 refine⟨bn p,rfl,p.cl,rfl,p.nm,rfl,p.kd,rfl,p.bk,rfl,ints θ p.b,rfl,bn p,rfl,p.kd,rfl,fun e3=>⟨bn p,rfl,p.bk,rfl,fun f=>⟨c,rfl,hl,fun _=>⟨⟨by simp [bP]⟩,?_⟩,fun ho=>(ho D5).elim⟩⟩,fun e3=>?_⟩
 ·have:oa c p.kd p.bk=ints θ ((c.drop (p.bk.toNat*16)).take 16):=by unfold oa;rw[if_pos (by simpa using e3)]
  rw[this]at h1
  rw[pP hlen.symm,pO hn,be,hlen]
  exact⟨⟨aE _,aE _,Nat.le_of_eq hn,by omega,h1⟩,aE _,aE _,Nat.le_of_eq hn,by omega,h1⟩
 ·have:oa c p.kd p.bk=[]:=by unfold oa;rw[if_neg (by simpa using e3)]
  rw[this]at h1
  rw[pO hn]
  exact⟨⟨aE _,Nat.le_of_eq hn,by omega,h1⟩,aE _,Nat.le_of_eq hn,by omega,h1⟩)
theorem Tr:dE Tryz.prog Db:=fun f k h=>by
 unfold Db at h
 split at h
 ·cases h;exact eK N0 _
 ·cases h;exact eK NX _
 ·cases h;exact eK X3 _
 ·cases h
theorem RJ:bW Tryz.prog I2:=dI mixed Tr aM 10
theorem zY {cl nm kd bk:Int} {b:Nat} (h:sO cl nm kd bk b):j_ bk:=by
 have:=h.h
 simp only[jv,decide_eq_true_eq]at this
 exact⟨by omega,by omega⟩
theorem ZI {cl nm bk:Int} {b:Nat} (h:sO cl nm 1 bk b):b=16:=by
 have:=h.h
 simp only[jv,decide_eq_true_eq]at this
 exact this.2.2.2.2.2.2.2.2 trivial
theorem To {c b:List Int} {bk:Int}:eJ c 1 bk b=splice c (bk.toNat*16) b:=by simp [eJ]
theorem Tp {c b:List Int} {bk:Int}:eJ c 2 bk b=splice c (bk.toNat*16) (cQ 16 0):=by simp [eJ]
theorem Tq {c b:List Int} {kd bk:Int} (h1:¬ kd=1) (h2:¬ kd=2):eJ c kd bk b=c:=by simp [eJ,h1,h2]
theorem NI:aT Tryz.prog 56 xl:=jP RJ mixed (fun args kb K h=>by
 unfold xl at h;split at h<;>try exact h.elim
 ·rename_i cl nm kd bk B _ _ _ _ _ nu C T _ _ _ _ _ _ _ _ _ _ ch _ _ _
  obtain⟨c,b,x,⟨rfl,hl,hb⟩,rfl,hT,lX,hR,hn,hc⟩:=h
  have ew:Z.wrap (nu+1)=nu+1:=bR (by have:=lX.lo;omega) (by have:=lX.hi;omega)
  have hok:=zY hR
  refine⟨_,abr _ _ _ _ _ _ _ _ _ _ _ _ _ _ _ _ _ _ _ _ _ _ _ _ _ _ _ K ?_⟩
  rw[ew]
  refine⟨fun e=>?_,fun e=>⟨fun e2=>?_,fun e2=>?_⟩⟩
  ·have e:kd=1:=by simpa using e
   subst e
   obtain⟨h1,h2⟩:=hc ⟨rfl⟩
   rw[To]at h1 h2
   refine fun f=>⟨c,b,rfl,rfl,hl,fun _=>⟨⟨by simp [bP]⟩,fun f=>⟨x,hT,fun e=>⟨⟨by simp [bP]⟩,h1 e⟩,fun e=>⟨⟨by simp [bP]⟩,h2 e⟩⟩⟩,fun hno=>(hno ⟨hok,ZI hR⟩).elim⟩
  ·have e:kd=2:=by simpa using e2
   subst e
   obtain⟨h1,h2⟩:=hc ⟨rfl⟩
   rw[Tp]at h1 h2
   refine fun f=>⟨c,rfl,hl,fun _=>⟨⟨by simp [bP]⟩,fun f=>⟨x,hT,fun e=>⟨⟨by simp [bP]⟩,h1 e⟩,fun e=>⟨⟨by simp [bP]⟩,h2 e⟩⟩⟩,fun hno=>(hno hok).elim⟩
  ·have e1:¬ kd=1:=by simpa using e
   have e2:¬ kd=2:=by simpa using e2
   have:=hn ⟨by simp [mI,e1,e2]⟩
   rw[Tq e1 e2]at this
   exact this)
theorem VU:dE Tryz.prog ET:=fun f k h=>by
 unfold ET at h
 split at h
 ·cases h;exact eK WU _
 ·cases h;exact NS
 ·cases h
theorem RR:bW Tryz.prog I_:=dI mixed VU aM 10
theorem SV (x:List L3) (c n:Int):g_ x c n=0∨g_ x c n=1∨g_ x c n=2:=by
 unfold g_
 split
 ·exact .inl rfl
 ·split
  ·exact .inl rfl
  ·split
   ·exact .inr (.inl rfl)
   ·exact .inr (.inr rfl)
theorem Xp:aT Tryz.prog 54 Bz:=jP RR mixed (fun args kb K h=>by
 unfold Bz at h;split at h<;>try exact h.elim
 ·rename_i cl nm kd bk B _ _ _ _ _ _ C T _ _ _ _ _ _ _ _ _ _ _ _ _ n A
  obtain⟨hn,⟨hn2⟩,x,hT,h1,h2,h0⟩:=h
  refine⟨_,abL _ _ _ _ _ _ _ _ _ _ _ _ _ _ _ _ _ _ _ _ _ _ _ _ _ _ _ _ K fun f=>⟨x,hT,⟨by simp [bP]⟩,fun e=>?_,fun e=>⟨fun e2=>?_,fun e2=>?_⟩⟩⟩
  ·have h1:=h1 ⟨by simpa using e⟩
   rw[pO hn]
   exact⟨⟨aE _,Nat.le_of_eq hn,by omega,h1⟩,aE _,Nat.le_of_eq hn,by omega,h1⟩
  ·exact h2 ⟨by simpa using e2⟩
  ·have e:¬ g_ x cl nm=1:=by simpa using e
   have e2:¬ g_ x cl nm=2:=by simpa using e2
   obtain⟨h3,h4⟩:=h0 ⟨by have:=SV x cl nm;omega⟩
   exact⟨x,hT,fun hz=>⟨fun _=>h3 hz,fun he=>(hz.h (by simpa using he)).elim⟩,fun hz=>⟨fun f=>(by cases f),fun _=>h4 hz⟩⟩)
end Go.Proofs.YtfcjngcnifdmnaaGreat
