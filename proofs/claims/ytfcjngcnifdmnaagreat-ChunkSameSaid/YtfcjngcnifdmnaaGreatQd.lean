import Derived.Test.YtfcjngcnifdmnaaGreatQc
import Derived.KernelRfl
import Derived.Shelf.Sort.Plain
import Derived.Shelf.Slices.In.SortNone
import Derived.Shelf.SlMaps.Clone
import Derived.Shelf.SlIterI.Nil
import Derived.Shelf.SlIterI.Sorted
import Derived.Shelf.SortM.Plain
import Derived.Shelf.SortM.SortNone
import Derived.Ground.GgzProg
import Derived.Ground.SlgmProg
import Derived.Ground.SlmcProg
import Derived.Test.YtfcjngcnifdmnaaGreatProg
import Derived.Shelf.Spec.SlicesGrow
namespace Go.Proofs.YtfcjngcnifdmnaaGreat
open Vc Go
open Go.IntKind renaming i64->γ,u8->ν,u32->iy
open Vc.V renaming any->δ,sl->ε,int->ζ,sb->ξ,ptr->an,χ->av,dat->aH,af->aO,mp->bb,arr->bD,agg->fw
open Vc.D renaming val->η,sl->ω
open Vc.KO renaming row->υ,dead->aa,cells->aw,objs->cY
open Go.Value renaming int->φ,map->kr,oneCell'->l0
open List renaming map->ae,drop->ax,take->aA,length_append->bo,getElem?_eq_getElem->bz,getElem?_eq_some_iff->bO,length_map->cp,take_length->cZ,length_take->dc,mem_singleton->dm,replicate->dp,mem_append->dQ,Mem->dW,getElem?_append_left->dX,mem_map->ef,append_assoc->eH,mem_cons->eI,getElem?_append_right->e_,append_nil->fu,getElem?_map->fH,take_of_length_le->fI,length_drop->fZ,mem_cons_of_mem->f_,getElem?_set_ne->gE,length_cons->gF,mem_of_getElem?->gG,getElem?_eq_none->g_,getElem?_set_self->iz,length_set->iA,mem_cons_self->iB,length_singleton->iL,mem_append_left->iM,range->iN,drop_zero->iX,getD_eq_getElem?_getD->iY,getElem?_take_of_lt->ji,flatten_cons->jt,nil_append->ju,getElem?_drop->jE,map_append->jZ,take_add_one->j2,length_nil->ko,ext_getElem?->lB,getElem?_of_mem->lC,mem_append_right->lD,map_cons->lY,mem_filter->lZ,eq_nil_of_length_eq_zero->mq
open Nat renaming le_refl->au,zero_le->bt,beq->cq,eq_of_beq_eq_true->cP,zero_add->cQ,add_assoc->gR,lor->iO,lt_or_ge->jF,sub_zero->kV
open Option renaming some->bc,bind_eq_some_iff->kW,map->mU
open Int renaming le_refl->dy,toNat_natCast->dD
open Bool renaming and_eq_true->iW,not_eq_false'->nI
set_option linter.unusedVariables false
set_option linter.unusedSimpArgs false
set_option maxRecDepth 100000
def CF:FuncId->Option dK
 | 62=>some ⟨[],EA⟩
 |f=>Ft f
noncomputable def My:bN:=dU Tryz.prog CF aI 10
def Al:aD:=fun args kb K=>match args,kb with
 | [an 0 0,.int γ most],[aw [.sl 1 lo h,.int γ e],υ 5 1 A]=>∃ l:List Int,A=ints ν l/\h=l.length/\lo<=l.length/\bm l/\l.length<=140737488355328/\
  K (.int γ (cz (l.drop lo) e most).1) [aw [.sl 1 (lo+(cz (l.drop lo) e most).2.1) l.length,.int γ (cz (l.drop lo) e most).2.2],υ 5 1 (ints ν l)]
 |_,_=>False
def CZ:FuncId->Option dK
 | 31=>some ⟨[],Al⟩
 | 36=>some ⟨[],Cy [.cell 0 0 5 1] ER⟩
 |f=>CF f
noncomputable def tG:bN:=dU Tryz.prog CZ aI 10
theorem ag8 (l:List Int) (lo:Nat) (e most:Int) (K:V->KB->Prop) (ar:
 ((e != 0)=true->
 K (ζ γ 0) [aw [ε 1 lo l.length,ζ γ e],υ 5 1 (ints ν l)])/\
 ((e != 0)=false->
 ∃(l_1:List Int),let bp:=(lo+(l_1.length - lo));let aV:=l_1.length - lo<=l_1.length - lo;let κ:=υ 5 1 (ints ν l_1);let aJ:=K (ζ γ 0) [aw [ε 1 lo l_1.length,ζ γ 3],κ];let aL:=K (ζ γ 0) [aw [ε 1 lo l_1.length,ζ γ 2],κ];let az:=K (ζ γ 0) [aw [ε 1 lo l_1.length,ζ γ 0],κ];let ah:=K (ζ γ 0) [aw [ε 1 lo l_1.length,ζ γ 5],κ];ints ν l=ints ν l_1/\
 l.length=l_1.length/\
 lo<=l_1.length/\
 (∀(c:Int),dW c l_1->
 0<=c/\
 c<256)/\
 l_1.length<=140737488355328/\
 e=0/\
 (∀(v n:Nat),jA 0 0 (ax lo l_1)=zU.got v n->
 (((↑n:Int) == 0)=true->
 az)/\
 (((↑n:Int) == 0)=false->
 (decide ((↑v:Int) > most)=true->
 (true=true->
 ah)/\
 (true=false->
 az))/\
 (decide ((↑v:Int) > most)=false->
 aM (↑n:Int)/\
 True/\
 (↑n:Int).toNat<=l_1.length - lo/\
 aV/\
 K (ζ γ (↑v:Int)) [aw [ε 1 (lo+(↑n:Int).toNat) bp,ζ γ 0],κ])))/\
 (jA 0 0 (ax lo l_1)=zU.short->
 (true=true->
 aL)/\
 (true=false->
 (decide (0 > most)=true->
 (false=true->
 ah)/\
 (false=false->
 aL))/\
 (decide (0 > most)=false->
 aM 0/\
 True/\
 0<=l_1.length - lo/\
 aV/\
 K (ζ γ 0) [aw [ε 1 (lo+0) bp,ζ γ 2],κ])))/\
 (jA 0 0 (ax lo l_1)=zU.form->
 (true=true->
 aJ)/\
 (true=false->
 (decide (0 > most)=true->
 (false=true->
 ah)/\
 (false=false->
 aJ))/\
 (decide (0 > most)=false->
 aM 0/\
 True/\
 0<=l_1.length - lo/\
 aV/\
 K (ζ γ 0) [aw [ε 1 (lo+0) bp,ζ γ 3],κ]))))
 ):aK Tryz.prog My (aI 31) 31 [an 0 0,.int γ most] [aw [.sl 1 lo l.length,.int γ e],υ 5 1 (ints ν l)] K:=by apply Eq.mp (a:=ar);kernel_rfl
theorem ahI (l:List Int) (lo:Nat) (e most:Int) (K:V->KB->Prop) (ar:
 ∃(l_1:List Int),let aJ:=υ 5 1 (ints ν l_1);let κ:=(cz (ax lo l_1) e most);let aV:=κ.fst.toNat<=l_1.length - (lo+κ.snd.fst);let aL:=(l_1.length - (lo+κ.snd.fst));let az:=K (ε 2 0 0) [aw [ε 1 (lo+κ.snd.fst) l_1.length,ζ γ κ.snd.snd],aJ,υ 5 1 []];let ah:=(ax (lo+κ.snd.fst+0) (aA (lo+κ.snd.fst+κ.fst.toNat) (ints ν l_1)));ints ν l=ints ν l_1/\
 l.length=l_1.length/\
 lo<=l_1.length/\
 (∀(c:Int),dW c l_1->
 0<=c/\
 c<256)/\
 l_1.length<=140737488355328/\
 ((κ.snd.snd != 0)=true->
 az)/\
 ((κ.snd.snd != 0)=false->
 (decide (κ.fst > (↑aL:Int))=true->
 ((κ.snd.snd == 0)=true->
 K (ε 2 0 0) [aw [ε 1 (lo+κ.snd.fst) l_1.length,ζ γ 2],aJ,υ 5 1 []])/\
 ((κ.snd.snd == 0)=false->
 az))/\
 (decide (κ.fst > (↑aL:Int))=false->
 True/\
 aM κ.fst/\
 0<=κ.fst.toNat/\
 aV/\
 (lo+κ.snd.fst+κ.fst.toNat<=(ints ν l_1).length/\
 True)/\
 ah.length<=140737488355328/\
 o7 ah.flatten/\
 aM κ.fst/\
 True/\
 aV/\
 l_1.length - (lo+κ.snd.fst)<=l_1.length - (lo+κ.snd.fst)/\
 K (ε 2 0 ah.length) [aw [ε 1 (lo+κ.snd.fst+κ.fst.toNat) (lo+κ.snd.fst+aL),ζ γ κ.snd.snd],aJ,υ 5 1 ah]))
 ):aK Tryz.prog tG (aI 32) 32 [an 0 0,.int γ most] [aw [.sl 1 lo l.length,.int γ e],υ 5 1 (ints ν l)] (fA [.slot 0 5 1] K):=by apply Eq.mp (a:=ar);kernel_rfl
theorem ahS (a:List Int) (B:List (List D)) (K:V->KB->Prop) (ar:
 ∃(a_1:List Int),let κ:=(a_1++aY (↑B.length:Int));ints ν a=ints ν a_1/\
 a.length=a_1.length/\
 a_1.length<=10000000/\
 iK (↑B.length:Int)/\
 True/\
 κ.length<=(ints ν κ).length/\
 (κ.length+B.length)*1<=140737488355328/\
 K (av []) [aw [ε 2 0 (κ.length+B.length)],aa,υ 5 1 (aA κ.length (ints ν κ)++B)]
 ):aK Tryz.prog tG (aI 37) 37 [an 0 0,aH (.sl 1 B)] [aw [.sl 1 0 a.length],υ 5 1 (ints ν a)] (dx 2 K):=by apply Eq.mp (a:=ar);kernel_rfl
theorem agk (A:List (List D)) (n:Nat) (K:V->KB->Prop) (ar:
 let κ:=(ax 0 (aA n A));(n<=A.length/\
 True)/\
 κ.length<=140737488355328/\
 o7 κ.flatten/\
 K (ε 2 0 κ.length) [aw [ε 1 0 n],υ 5 1 A,υ 5 1 κ]
 ):aK Tryz.prog tG (aI 40) 40 [an 0 0] [aw [.sl 1 0 n],υ 5 1 A] K:=by apply Eq.mp (a:=ar);kernel_rfl
theorem ahm (A:List (List D)) (K:V->KB->Prop) (ar:
 A.length<=140737488355328/\
 K (an 0 0) [aw [ε 1 0 A.length,ζ γ 0],υ 5 1 A]
 ):aK Tryz.prog tG (aI 30) 30 [aH (.sl 1 A)] [] (dx 0 K):=by apply Eq.mp (a:=ar);kernel_rfl
theorem agH (l:List Int) (lo:Nat) (e:Int) (K:V->KB->Prop) (ar:
 let κ:=K (ζ γ e) [aw [ε 1 lo l.length,ζ γ e],υ 5 1 (ints ν l)];(decide ((↑(l.length - lo):Int) > 0)=true->
 ((e == 0)=true->
 K (ζ γ 3) [aw [ε 1 lo l.length,ζ γ 3],υ 5 1 (ints ν l)])/\
 ((e == 0)=false->
 κ))/\
 (decide ((↑(l.length - lo):Int) > 0)=false->
 κ)
 ):aK Tryz.prog tG (aI 35) 35 [an 0 0] [aw [.sl 1 lo l.length,.int γ e],υ 5 1 (ints ν l)] K:=by apply Eq.mp (a:=ar);kernel_rfl
theorem agL (A:List (List D)) (lo hi:Nat) (e:Int) (K:V->KB->Prop) (ar:
 K (ζ γ e) [aw [ε 1 lo hi,ζ γ e],υ 5 1 A]
 ):aK Tryz.prog tG (aI 65) 65 [an 0 0] [aw [.sl 1 lo hi,.int γ e],υ 5 1 A] K:=by apply Eq.mp (a:=ar);kernel_rfl
theorem Xq:dP Tryz.prog Ft:=fun f k h=>by
 unfold Ft at h
 split at h<;>first | (cases h;first | exact Jm | exact X3 RY | exact Jl) | cases h
theorem RB:dP Tryz.prog CF:=fun f k h=>by
 unfold CF at h
 split at h
 ·cases h;exact aco
 ·exact Xq _ _ h
theorem WS:b9 Tryz.prog My:=dY mixed RB aI 10
theorem pZ {l:List Int} (h:bm l) (n:Nat):bm (l.drop n):=fun c hc=>h c (List.mem_of_mem_drop hc)
theorem Sa:aR Tryz.prog 31 Al:=fC WS mixed (fun args kb K h=>by
 unfold Al at h;split at h<;>try exact h.elim
 rename_i most lo _ e _
 obtain⟨l,rfl,rfl,hlo,hb,hl,h⟩:=h
 refine⟨aI 31,ag8 l lo e most K ⟨fun hc=>?_,fun hc=>?_⟩⟩
 ·simp only[bne_iff_ne,ne_eq]at hc
  unfold cz at h
  rw[if_neg hc]at h
  exact h
 ·simp only[bne_eq_false_iff_eq]at hc
  subst hc
  refine⟨l,rfl,rfl,hlo,hb,hl,rfl,fun v n hn=>⟨fun h0=>?_,fun h0=>⟨fun hv=>⟨fun _=>?_,fun h=>by simp at h⟩,fun hv=>⟨by unfold aM;omega,trivial,?_,au _,?_⟩⟩⟩,fun hn=>⟨fun _=>?_,fun h=>by simp at h⟩,fun hn=>⟨fun _=>?_,fun h=>by simp at h⟩⟩
  ·obtain⟨_,h2,_⟩:=CG (pZ hb lo) hn
   have:=jO (v:Int)
   simp only[beq_iff_eq]at h0
   omega
  ·simp only[decide_eq_true_eq]at hv
   unfold cz at h
   rw[if_pos rfl,hn]at h
   simp only[if_pos (show most<(v:Int)from hv)]at h
   exact h
  ·obtain⟨_,h2,r,h3⟩:=CG (pZ hb lo) hn
   have:=congrArg List.length h3
   rw[fZ,bo]at this
   omega
  ·simp only[decide_eq_false_iff_not]at hv
   unfold cz at h
   rw[if_pos rfl,hn]at h
   simp only[if_neg (show ¬ most<(v:Int)from hv)]at h
   rw[show lo+(l.length - lo)=l.length by omega]
   exact h
  ·unfold cz at h
   rw[if_pos rfl,hn]at h
   exact h
  ·unfold cz at h
   rw[if_pos rfl,hn]at h
   exact h)
theorem To:dP Tryz.prog CZ:=fun f k h=>by
 unfold CZ at h
 split at h
 ·cases h;exact Sa
 ·cases h;exact IV ac7 _
 ·exact RB _ _ h
theorem vh:b9 Tryz.prog tG:=dY mixed To aI 10
def Am:aD:=fun args kb K=>match args,kb with
 | [an 0 0,.int γ most],[aw [.sl 1 lo h,.int γ e],υ 5 1 A]=>∃ l:List Int,A=ints ν l/\h=l.length/\lo<=l.length/\bm l/\l.length<=140737488355328/\
  K (.sl 2 0 (gN (l.drop lo) e most).1.length) [aw [.sl 1 (lo+(gN (l.drop lo) e most).2.1) l.length,.int γ (gN (l.drop lo) e most).2.2],υ 5 1 (ints ν l),υ 5 1 (ints ν (gN (l.drop lo) e most).1)]
 |_,_=>False
theorem Sj:aR Tryz.prog 32 Am:=Kl vh mixed [.slot 0 5 1] (fun args kb K h=>by
 unfold Am at h;split at h<;>try exact h.elim
 rename_i most lo _ e _
 obtain⟨l,rfl,rfl,hlo,hb,hl,h⟩:=h
 refine⟨aI 32,ahI l lo e most K ⟨l,rfl,rfl,hlo,hb,by omega,?_⟩⟩
 have hv:=yU (pZ hb lo) e most
 rw[fZ]at hv
 unfold gN at h
 generalize hr:cz (l.drop lo) e most=r at h hv ⊢
 obtain⟨n,u,e'⟩:=r
 simp only at h hv ⊢
 refine⟨fun hc=>?_,fun hc=>⟨fun hx=>⟨fun hy=>?_,fun hy=>?_⟩,fun hx=>?_⟩⟩
 ·simp only[bne_iff_ne,ne_eq]at hc
  rw[if_neg hc]at h
  exact h
 ·simp only[decide_eq_true_eq]at hx
  simp only[bne_eq_false_iff_eq]at hc
  subst hc
  rw[if_pos rfl,if_pos (by rw[fZ,fZ];omega)]at h
  exact h
 ·rw[bne,hy]at hc
  cases hc
 ·simp only[decide_eq_false_iff_not]at hx
  simp only[bne_eq_false_iff_eq]at hc
  subst hc
  rw[if_pos rfl,if_neg (by rw[fZ,fZ];omega)]at h
  have kA:aM n:=hv.1
  have e1:ax (lo+u+0) (aA (lo+u+n.toNat) (ints ν l))=ints ν (aA n.toNat (ax u (ax lo l))):=by
   rw[Nat.add_zero,List.drop_take,B0,qk,List.drop_drop,Nat.add_sub_cancel_left]
  rw[e1]
  simp only[List.drop_drop,bh]at h ⊢
  have e3:lo+u+(l.length - (lo+u))=l.length:=by omega
  rw[e3]
  refine⟨trivial,kA,bt _,by omega,⟨by omega,trivial⟩,by rw[dc,fZ];omega,⟨pJ⟩,kA,trivial,by omega,au _,?_⟩
  rw[show lo+u+n.toNat=lo+(u+n.toNat) by omega]
  exact h)
def ES:aD:=fun args kb K=>match args,kb with
 | [an 0 0,aH (.sl 1 B)],[aw [.sl 1 0 h],υ 5 1 A]=>∃ a b:List Int,A=ints ν a/\B=ints ν b/\h=a.length/\a.length<=1000000/\b.length<=1000000/\
  K (.χ []) [aw [.sl 2 0 (a++cH b).length],aa,υ 5 1 (ints ν (a++cH b))]
 |_,_=>False
theorem ac8:aR Tryz.prog 37 ES:=lh vh mixed (fun args kb K h=>by
 unfold ES at h;split at h<;>try exact h.elim
 obtain⟨a,b,rfl,rfl,rfl,h1,h2,h⟩:=h
 refine⟨aI 37,ahS a _ K ⟨a,rfl,rfl,by omega,⟨by rw[bh];omega⟩,trivial,by simp only[bh];exact au _,?_,?_⟩⟩
 ·have:=(jO ((ints ν b).length:Int)).2
  rw[bo,bh]
  rw[bh]at this
  omega
 ·rw[bh,qk,cZ,<- qj,<- bo,eH]
  exact h)
def EQ:aD:=fun args kb K=>match args,kb with
 | [an 0 0],[aw [.sl 1 0 h],υ 5 1 A]=>∃ a:List Int,A=ints ν a/\h=a.length/\a.length<=1000000/\K (.sl 2 0 a.length) [aw [.sl 1 0 a.length],υ 5 1 (ints ν a),υ 5 1 (ints ν a)]
 |_,_=>False
theorem Yy {k:IntKind} {a:List Int}:ax 0 (aA a.length (ints k a))=ints k a:=by rw[iX,qk,cZ]
theorem abK:aR Tryz.prog 40 EQ:=fC vh mixed (fun args kb K h=>by
 unfold EQ at h;split at h<;>try exact h.elim
 obtain⟨a,rfl,rfl,h1,h⟩:=h
 refine⟨aI 40,agk _ _ K ?_⟩
 dsimp only
 rw[Yy,bh]
 exact⟨⟨au _,trivial⟩,by omega,⟨pJ⟩,h⟩)
def Ah:aD:=fun args kb K=>match args,kb with
 | [aH (.sl 1 A)],[]=>A.length<=140737488355328/\K (an 0 0) [aw [.sl 1 0 A.length,.int γ 0],υ 5 1 A]
 |_,_=>False
theorem Sc:aR Tryz.prog 30 Ah:=lh vh mixed (fun args kb K h=>by
 unfold Ah at h;split at h<;>try exact h.elim
 exact⟨aI 30,ahm _ K h⟩)
def Ak:aD:=fun args kb K=>match args,kb with
 | [an 0 0],[aw [.sl 1 lo h,.int γ e],υ 5 1 A]=>∃ l:List Int,A=ints ν l/\h=l.length/\
  K (.int γ (iS (l.drop lo) e)) [aw [.sl 1 lo l.length,.int γ (iS (l.drop lo) e)],υ 5 1 (ints ν l)]
 |_,_=>False
theorem R5:aR Tryz.prog 35 Ak:=fC vh mixed (fun args kb K h=>by
 unfold Ak at h;split at h<;>try exact h.elim
 rename_i lo _ e _
 obtain⟨l,rfl,rfl,h⟩:=h
 have hd:l.drop lo=[] ↔ l.length - lo=0:=by rw[<- List.length_eq_zero_iff,fZ]
 refine⟨aI 35,agH l lo e K ⟨fun hc=>⟨fun h0=>?_,fun h0=>?_⟩,fun hc=>?_⟩⟩
 ·simp only[decide_eq_true_eq]at hc
  simp only[beq_iff_eq]at h0
  unfold iS at h
  rw[if_pos ⟨fun hh=>by rw[hd]at hh;omega,h0⟩]at h
  exact h
 ·simp only[beq_eq_false_iff_ne,ne_eq]at h0
  unfold iS at h
  rw[if_neg (fun hh=>h0 hh.2)]at h
  exact h
 ·simp only[decide_eq_false_iff_not]at hc
  unfold iS at h
  rw[if_neg (fun hh=>hh.1 (hd.2 (by omega)))]at h
  exact h)
def EG:aD:=fun args kb K=>match args,kb with
 | [an 0 0],[aw [.sl 1 lo hi,.int γ e],υ 5 1 A]=>K (.int γ e) [aw [.sl 1 lo hi,.int γ e],υ 5 1 A]
 |_,_=>False
theorem abZ:aR Tryz.prog 65 EG:=fC vh mixed (fun args kb K h=>by
 unfold EG at h;split at h<;>try exact h.elim
 exact⟨aI 65,agL _ _ _ _ K h⟩)
def we:FuncId->Option dK
 | 32=>some ⟨[],Am⟩
 | 37=>some ⟨[.my,.gj 1],Cy [.cell 0 0 5 1] ES⟩
 | 40=>some ⟨[],Cy [.cell 0 0 5 1] EQ⟩
 | 30=>some ⟨[.gj 1],Ah⟩
 | 35=>some ⟨[],Ak⟩
 | 65=>some ⟨[],EG⟩
 |f=>CZ f
theorem CT:dP Tryz.prog we:=fun f k h=>by
 unfold we at h
 split at h
 ·cases h;exact Sj
 ·cases h;exact IV ac8 _
 ·cases h;exact IV abK _
 ·cases h;exact Sc
 ·cases h;exact R5
 ·cases h;exact abZ
 ·exact To _ _ h
def JI:FuncId->Option dK:=we
theorem Tf:dP Tryz.prog JI:=CT
end Go.Proofs.YtfcjngcnifdmnaaGreat
set_option linter.unusedSimpArgs false
set_option linter.unusedVariables false
namespace Vc
open Go Go.Shelf Go.Sort Go.RowKit Go.Proofs
open Go.IntKind renaming i64->γ,u8->ν,u32->iy
open Go.Value renaming int->φ,map->kr,oneCell'->l0
open List renaming map->ae,drop->ax,take->aA,length_append->bo,getElem?_eq_getElem->bz,getElem?_eq_some_iff->bO,length_map->cp,take_length->cZ,length_take->dc,mem_singleton->dm,replicate->dp,mem_append->dQ,Mem->dW,getElem?_append_left->dX,mem_map->ef,append_assoc->eH,mem_cons->eI,getElem?_append_right->e_,append_nil->fu,getElem?_map->fH,take_of_length_le->fI,length_drop->fZ,mem_cons_of_mem->f_,getElem?_set_ne->gE,length_cons->gF,mem_of_getElem?->gG,getElem?_eq_none->g_,getElem?_set_self->iz,length_set->iA,mem_cons_self->iB,length_singleton->iL,mem_append_left->iM,range->iN,drop_zero->iX,getD_eq_getElem?_getD->iY,getElem?_take_of_lt->ji,flatten_cons->jt,nil_append->ju,getElem?_drop->jE,map_append->jZ,take_add_one->j2,length_nil->ko,ext_getElem?->lB,getElem?_of_mem->lC,mem_append_right->lD,map_cons->lY,mem_filter->lZ,eq_nil_of_length_eq_zero->mq
open Nat renaming le_refl->au,zero_le->bt,beq->cq,eq_of_beq_eq_true->cP,zero_add->cQ,add_assoc->gR,lor->iO,lt_or_ge->jF,sub_zero->kV
open Option renaming some->bc,bind_eq_some_iff->kW,map->mU
open Int renaming le_refl->dy,toNat_natCast->dD
open Bool renaming and_eq_true->iW,not_eq_false'->nI
theorem Inv.more {σ:Sg} {E:EH} {kb:KB} {W W':World} (h:Inv σ E kb W) (hos:W'.os=W.os) (ui:W'.tape=W.tape) (hout:W'.output=W.output) (hsz:W.heap.size<=W'.heap.size)
  (cj:∀ b,b<W.heap.size->W'.heap[b]? =W.heap[b]?):Step σ E kb W σ E kb W':=by
 refine⟨⟨h.len,fun i r o h1 h2=>?_,h.dA,fun b o hb=>?_,h.sep⟩,⟨hos,ui,hout,hsz,fun b hb _=>cj b hb⟩,⟨[],by simp⟩,EH.le.refl E,fun _ h=> .inl h,fun _ _ h=> .inl h⟩
 ·have ho:=h.obj i r o h1 h2
  have:=ho.mono (τ:=[]) (W':=W') (EH.le.refl E) (fun b hb=>cj b (ho.lt hb))
  simpa using this
 ·have:=h.dj b o hb
  rw[cj b ((Array.getElem?_eq_some_iff.1 this).1)];exact this
def n_ (l:List Int):List Int:=l.mergeSort fun x y=>decide (x<=y)
theorem aeX (l:List Int):(n_ l).length=l.length:=(List.mergeSort_perm l _).length_eq
theorem Qw {E:EH} {k:IntKind}:∀(l:List Int),a_ E (ints k l).flatten (l.map (φ k))
 | []=>by simp [ints,a_]
 |a::l=>by
  simp only[ints,lY,jt,List.cons_append,ju,a_,bI]
  exact⟨_,_,rfl,⟨rfl,rfl⟩,by simpa [ints]using Qw l⟩
end Vc
set_option linter.unusedSimpArgs false
set_option linter.unusedVariables false
namespace Vc
open Go Go.Shelf Go.Sort Go.RowKit Go.Proofs Go.Maps
open Go.IntKind renaming i64->γ,u8->ν,u32->iy
open Go.Value renaming int->φ,map->kr,oneCell'->l0
open List renaming map->ae,drop->ax,take->aA,length_append->bo,getElem?_eq_getElem->bz,getElem?_eq_some_iff->bO,length_map->cp,take_length->cZ,length_take->dc,mem_singleton->dm,replicate->dp,mem_append->dQ,Mem->dW,getElem?_append_left->dX,mem_map->ef,append_assoc->eH,mem_cons->eI,getElem?_append_right->e_,append_nil->fu,getElem?_map->fH,take_of_length_le->fI,length_drop->fZ,mem_cons_of_mem->f_,getElem?_set_ne->gE,length_cons->gF,mem_of_getElem?->gG,getElem?_eq_none->g_,getElem?_set_self->iz,length_set->iA,mem_cons_self->iB,length_singleton->iL,mem_append_left->iM,range->iN,drop_zero->iX,getD_eq_getElem?_getD->iY,getElem?_take_of_lt->ji,flatten_cons->jt,nil_append->ju,getElem?_drop->jE,map_append->jZ,take_add_one->j2,length_nil->ko,ext_getElem?->lB,getElem?_of_mem->lC,mem_append_right->lD,map_cons->lY,mem_filter->lZ,eq_nil_of_length_eq_zero->mq
open Nat renaming le_refl->au,zero_le->bt,beq->cq,eq_of_beq_eq_true->cP,zero_add->cQ,add_assoc->gR,lor->iO,lt_or_ge->jF,sub_zero->kV
open Option renaming some->bc,bind_eq_some_iff->kW,map->mU
open Int renaming le_refl->dy,toNat_natCast->dD
open Bool renaming and_eq_true->iW,not_eq_false'->nI
def Ae:aD:=fun args kb K=>match args,kb with
 | [.mp 0],[.mp ay aS agg sz M]=>K (.mp 1) [.mp ay aS agg sz M,.mp ay aS agg sz M]
 | [.any (.map none)],[]=>K (.any (.map none)) []
 | [.imp ay aS agg sz M],[]=>(M=[]->K (.any (.map none)) [])/\K (.mp 0) [.mp ay aS agg sz M]
 |_,_=>False
theorem ach {P:Program} {ρ:Ren} (L:SlLaysW.n5 P ρ):aR P (ρ.f 5) Ae:=fun args kb K h σ E W xs hi hd=>by
 unfold Ae at h
 split at h<;>try exact h.elim
 ·rename_i ay aS agg sz M
  simp only[aq,Den]at hd
  obtain⟨x,xs',rfl,⟨r,hr,rfl⟩,rfl⟩:=hd
  obtain⟨h1,es,clock,h2,h3,h4⟩:=hi.obj 0 r _ hr rfl
  refine(AnyW.maps_Clone L r.blk es clock W h2).mono ?_
  rintro e W' ⟨rfl,rfl⟩
  have hlen:σ.length=1:=hi.len
  have ho:gp (σ++[⟨W.heap.size,0,0⟩]) E (W.alloc (.map es clock)) ⟨W.heap.size,0,0⟩ (.mp ay aS agg sz M):=
   ⟨h1,es,clock,(MapKept.heap_alloc W _).1,h3,h4⟩
  have hst:=hi.alloc (.map es clock) ⟨W.heap.size,0,0⟩ (.mp ay aS agg sz M) (fun b hb=>hb) ho
  refine⟨_,.mp 1,_,E,_,rfl,hst,?_,h⟩
  simp only[Den]
  exact⟨⟨W.heap.size,0,0⟩,by rw[e_ (by omega),hlen];rfl,rfl⟩
 ·simp only[aq,Den]at hd
  obtain⟨x,xs',rfl,rfl,rfl⟩:=hd
  refine(AnyW.maps_Clone_nil L W).mono ?_
  rintro e W' ⟨rfl,rfl⟩
  exact⟨_,.any (.map none),σ,E,_,rfl,Step.refl hi,by simp only[Den],h⟩
 ·rename_i ay aS agg sz M
  simp only[aq,Den]at hd
  obtain⟨x,xs',rfl,⟨a,rfl,ha⟩,rfl⟩:=hd
  cases a with
  |none=>
   have ha:M=[]:=ha
   refine(AnyW.maps_Clone_nil L W).mono ?_
   rintro e W' ⟨rfl,rfl⟩
   exact⟨_,.any (.map none),σ,E,_,rfl,Step.refl hi,by simp only[Den],h.1 ha⟩
  |some b=>
   obtain⟨h1,es,clock,h2,h3,h4⟩:=ha
   refine(AnyW.maps_Clone L b es clock W (hi.dj b _ h2)).mono ?_
   rintro e W' ⟨rfl,rfl⟩
   have hlen:σ.length=0:=hi.len
   have ho:gp (σ++[⟨W.heap.size,0,0⟩]) E (W.alloc (.map es clock)) ⟨W.heap.size,0,0⟩ (.mp ay aS agg sz M):=
    ⟨h1,es,clock,(MapKept.heap_alloc W _).1,h3,h4⟩
   have hst:=hi.alloc (.map es clock) ⟨W.heap.size,0,0⟩ (.mp ay aS agg sz M) (fun b hb=>hb) ho
   refine⟨_,.mp 0,_,E,_,rfl,hst,?_,h.2⟩
   simp only[Den]
   exact⟨⟨W.heap.size,0,0⟩,by rw[e_ (by omega),hlen];rfl,rfl⟩
def Af (g:FuncId):aD:=fun args kb K=>match args,kb with
 | [.mp 0],[.mp ay aS agg sz M]=>K (.fn g [.ptr 1 0]) [.mp ay aS agg sz M,.cells [.mp 0]]
 | [.any (.map none)],[]=>K (.fn g [.ptr 0 0]) [.cells [.any (.map none)]]
 | [.imp ay aS agg sz M],[]=>K (.fn g [.ptr 0 0]) [.cells [.imp ay aS agg sz M]]
 |_,_=>False
theorem acj {P:Program} {ρ:Ren} (L:SlLaysZI.n7 P ρ):aR P (ρ.f 7) (Af (ρ.f 10)):=fun args kb K h σ E W xs hi hd=>by
 unfold Af at h
 split at h<;>try exact h.elim
 ·rename_i ay aS agg sz M
  simp only[aq,Den]at hd
  obtain⟨x,xs',rfl,⟨r,hr,rfl⟩,rfl⟩:=hd
  refine(callsIn_wide.1 (AnyZI.keys_in L Fence.wide 5 trivial rfl (some r.blk) W)).mono ?_
  rintro e W' ⟨rfl,rfl⟩
  have hlen:σ.length=1:=hi.len
  have hD:aT (σ++[⟨W.heap.size,0,0⟩]) E [V.mp 0] [kr (some r.blk)]:=
   aT.jj (by simp only[Den];exact⟨r,by rw[dX (by omega)];exact hr,rfl⟩) rfl aT.nil
  have hst:=hi.alloc (.cells #[.map (some r.blk)] (ρ.t 23)) ⟨W.heap.size,0,0⟩ (.cells [.mp 0]) (fun b hb=>hb) ⟨_,_,(MapKept.heap_alloc W _).1,hD⟩
  refine⟨_,.fn (ρ.f 10) [.ptr 1 0],_,E,_,rfl,hst,?_,h⟩
  simp only[Den,aq]
  exact⟨_,rfl,_,_,rfl,⟨⟨W.heap.size,0,0⟩,by rw[e_ (by omega),hlen];rfl,rfl⟩,rfl⟩
 ·simp only[aq,Den]at hd
  obtain⟨x,xs',rfl,rfl,rfl⟩:=hd
  refine(callsIn_wide.1 (AnyZI.keys_in L Fence.wide 5 trivial rfl none W)).mono ?_
  rintro e W' ⟨rfl,rfl⟩
  have hlen:σ.length=0:=hi.len
  have hD:aT (σ++[⟨W.heap.size,0,0⟩]) E [V.any (.map none)] [kr none]:=
   aT.jj (by simp only[Den]) rfl aT.nil
  have hst:=hi.alloc (.cells #[.map none] (ρ.t 23)) ⟨W.heap.size,0,0⟩ (.cells [.any (.map none)]) (fun b hb=>hb) ⟨_,_,(MapKept.heap_alloc W _).1,hD⟩
  refine⟨_,.fn (ρ.f 10) [.ptr 0 0],_,E,_,rfl,hst,?_,h⟩
  simp only[Den,aq]
  exact⟨_,rfl,_,_,rfl,⟨⟨W.heap.size,0,0⟩,by rw[e_ (by omega),hlen];rfl,rfl⟩,rfl⟩
 ·rename_i ay aS agg sz M
  simp only[aq,Den]at hd
  obtain⟨x,xs',rfl,⟨a,rfl,ha⟩,rfl⟩:=hd
  refine(callsIn_wide.1 (AnyZI.keys_in L Fence.wide 5 trivial rfl a W)).mono ?_
  rintro e W' ⟨rfl,rfl⟩
  have hlen:σ.length=0:=hi.len
  have hD:aT (σ++[⟨W.heap.size,0,0⟩]) E [V.imp ay aS agg sz M] [kr a]:=
   aT.jj (by simp only[Den];exact⟨a,rfl,ha⟩) rfl aT.nil
  have hst:=hi.alloc (.cells #[.map a] (ρ.t 23)) ⟨W.heap.size,0,0⟩ (.cells [.imp ay aS agg sz M]) (fun b hb=>hb) ⟨_,_,(MapKept.heap_alloc W _).1,hD⟩
  refine⟨_,.fn (ρ.f 10) [.ptr 0 0],_,E,_,rfl,hst,?_,h⟩
  simp only[Den,aq]
  exact⟨_,rfl,_,_,rfl,⟨⟨W.heap.size,0,0⟩,by rw[e_ (by omega),hlen];rfl,rfl⟩,rfl⟩
structure tD (M:ML):Prop where
 one:∀ e∈M,∃ n,e.1=[n]/\-9223372036854775808<=n/\n<=9223372036854775807
 nd:(M.map (·.1)).Nodup
 len:M.length<=1000000
def ja (M:ML):List Int:=M.map fun e=>e.1.headD 0
theorem aaM {M:ML} (h:tD M):(ja M).Nodup:=by
 unfold ja
 have h1:=h.nd
 have h2:=h.one
 clear h
 induction M with
 |nil=>simp
 |cons e M ih=>
  simp only[lY,List.nodup_cons]at h1 ⊢
  refine⟨fun hm=>h1.1 ?_,ih h1.2 (fun x hx=>h2 x (f_ _ hx))⟩
  obtain⟨x,hx,he⟩:=ef.1 hm
  obtain⟨n,hn,_⟩:=h2 e iB
  obtain⟨m,hm',_⟩:=h2 x (f_ _ hx)
  rw[hn,hm']at he
  simp only[List.headD_cons]at he
  exact ef.2 ⟨x,hx,by rw[hn,hm',he]⟩
def pW:Value->Option (DataW Unit×List MemPlace):=fun _=>some (.nil,[])
theorem Ol {E:EH} {agg:Bool}:∀{es:List MapEntry} {M:ML},cx E [γ] false agg es M->(∀ e∈M,∃ n,e.1=[n]/\-9223372036854775808<=n/\n<=9223372036854775807)->
  es.map (·.key)=(ja M).map (φ γ)/\es.length=M.length
 | [],M,h,_=>by simp only[cx]at h;subst h;exact⟨rfl,rfl⟩
 |e::es,M,h,hk=>by
  simp only[cx]at h
  obtain⟨k,c,l',rfl,⟨_,h2,_⟩,h4⟩:=h
  obtain⟨ih1,ih2⟩:=Ol h4 (fun x hx=>hk x (f_ _ hx))
  obtain⟨n,hn,_⟩:=hk _ iB
  simp only at hn
  subst hn
  refine⟨?_,by simp [ih2]⟩
  simp only[lY,ja,ih1,h2]
  rfl
theorem ah6 {n:Int} (h1:-9223372036854775808<=n) (h2:n<=9223372036854775807):(Lit.int γ n).wf=true:=by
 have e1:γ.min=-9223372036854775808:=by decide
 have e2:γ.max=9223372036854775807:=by decide
 simp only[Lit.wf,iW,decide_eq_true_eq,e1,e2]
 exact⟨h1,h2⟩
theorem insert_perm {x:Lit×DataW Unit}:∀(l:List (Lit×DataW Unit)),(DataW.insert x l).Perm (x::l)
 | []=>List.Perm.refl _
 |y::r=>by
  simp only[DataW.insert]
  split
  ·exact List.Perm.refl _
  ·exact((insert_perm r).cons y).trans (List.Perm.swap x y r)
theorem OX (l:List (Lit×DataW Unit)):(l.foldr DataW.insert []).Perm l:=by
 induction l with
 |nil=>exact List.Perm.refl _
 |cons x l ih=>exact(insert_perm _).trans (ih.cons x)
theorem adC {P:Program} {k:TypeId} (hk:P.underlying k=some (.int γ)) {E:EH} {agg:Bool} {es:Array MapEntry} {clock:Nat} {M:ML} (h:cx E [γ] false agg es.toList M) (hb:tB es.toList clock) (hM:tD M) {w:World} {b:Nat} (hw:w.heap[b]? =some (.map es clock)):
  ∃ D0:DataW Unit,w.ownsMap P k pW b es.size D0/\(intKeys D0).Perm (ja M)/\Maps.size D0=M.length:=by
 obtain⟨h1,h2⟩:=Ol h hM.one
 have Qi:∀ x∈es.toList,∃ n:Int,x.key= .int γ n/\Go.WideElems.rd P k pW x=some (.int γ n,.nil):=fun x hx=>by
  have hx':x.key∈es.toList.map (·.key):=ef.2 ⟨x,hx,rfl⟩
  rw[h1]at hx'
  obtain⟨n,hn,he⟩:=ef.1 hx'
  obtain⟨e,Z4,HD⟩:=ef.1 hn
  obtain⟨m,hm,b1,b2⟩:=hM.one e Z4
  rw[hm]at HD
  simp only[List.headD_cons]at HD
  subst HD
  refine⟨m,he.symm,?_⟩
  have hkey:keyOf P k x.key=some (.int γ m):=by
   rw[<- he]
   simp [keyOf,hk,mapKey,ah6 b1 b2]
  simp [Go.WideElems.rd,hkey,pW]
 have hnd:(es.toList.map (·.key)).Nodup:=by
  rw[h1]
  exact List.pairwise_map.2 ((aaM hM).imp fun hne e=>hne (by simpa using e))
 have hF:Go.WideElems.Fit P k pW es clock:=⟨by
  have:=hM.len
  simp only[maxLen]
  simp only[Array.length_toList]at h2
  omega,⟨fun x hx=>hb.2 x hx,hb.1,hnd⟩,fun x hx=>by obtain⟨n,_,h3⟩:=Qi x hx;exact⟨_,h3⟩⟩
 refine⟨.map ((es.toList.map (Go.WideElems.rg P k pW)).foldr DataW.insert []),⟨es,clock,hw,hF,au _,rfl⟩,?_,?_⟩
 ·show((List.foldr DataW.insert [] (es.toList.map (Go.WideElems.rg P k pW))).map fun p=>Go.intOf p.1).Perm _
  refine((OX _).map _).trans ?_
  have e2:(es.toList.map (Go.WideElems.rg P k pW)).map (fun p=>Go.intOf p.1)=ja M:=by
   have e3:(es.toList.map (Go.WideElems.rg P k pW)).map (fun p=>φ γ (Go.intOf p.1))=es.toList.map (·.key):=by
    rw[List.map_map]
    refine List.map_congr_left fun x hx=>?_
    obtain⟨n,h3,h4⟩:=Qi x hx
    simp only[Function.comp,Go.WideElems.rg,h4,Option.getD_some,Go.intOf,h3]
   rw[h1]at e3
   have e4:((es.toList.map (Go.WideElems.rg P k pW)).map (fun p=>Go.intOf p.1)).map (φ γ)=(ja M).map (φ γ):=by rw[List.map_map];exact e3
   exact(List.map_inj_right (fun a b e=>by simpa using e)).1 e4
  rw[e2]
 ·show(List.foldr DataW.insert [] (es.toList.map (Go.WideElems.rg P k pW))).length=_
  rw[(OX _).length_eq,cp]
  exact h2
def Aq (g:FuncId) (ty:TypeId):aD:=fun args kb K=>match args,kb with
 | [.fn g' [.ptr 0 0]],[.cells [.mp 1],.mp ay aS agg sz M]=>g'=g/\ay=[γ]/\aS=false/\tD M/\(M=[]->K (.any (.slice none 0 0)) [.cells [.mp 1],.mp ay aS agg sz M])/\
  K (.sl 2 0 M.length) [.cells [.mp 1],.mp ay aS agg sz M,.row ty 1 (ints γ (n_ (ja M)))]
 | [.fn g' [.ptr 0 0]],[.cells [.any (.map none)]]=>g'=g/\K (.any (.slice none 0 0)) [.cells [.any (.map none)]]
 | [.fn g' [.ptr 0 0]],[.cells [.imp ay aS agg sz M]]=>g'=g/\ay=[γ]/\aS=false/\tD M/\(M=[]->K (.any (.slice none 0 0)) [.cells [.imp ay aS agg sz M]])/\
  K (.sl 1 0 M.length) [.cells [.imp ay aS agg sz M],.row ty 1 (ints γ (n_ (ja M)))]
 |_,_=>False
theorem TV {a b:List Int} (h:a.Perm b):n_ a=n_ b:=mergeSort_of_perm_i h
theorem TY {P:Program} {kQ jW:Ren} (Lk:SlLaysZI.n10 P kQ) (Ls:SlLaysZI.n6 P jW) (hs:∀ m,AnyZI.SortsIn P jW Fence.wide m)
  (e9:∀ args w,(callFunc (jW.f 9) args).run P w= .ok (.enter (jW.f 9) args) w) (eg:∀ args w,(callFunc (kQ.f 10) args).run P w= .ok (.enter (kQ.f 10) args) w)
  {W:World} {E:EH} {rb b:Nat} {agg:Bool} {es:Array MapEntry} {clock:Nat} {M:ML} (hlt:rb<W.heap.size) (hcell:W.cell? ⟨rb,0,none⟩=some (.map (some b))) (m2:W.heap[b]? =some (.map es clock)) (m3:cx E [γ] false agg es.toList M) (m4:tB es.toList clock) (hM:tD M):
  Calls P (jW.f 6) #[.func (.func (kQ.f 10)) #[] #[.pointer (some ⟨rb,0,none⟩)]] W fun e W'=>∃ v,e= .returned v/\RowKit.Below W.heap.size W W'/\((M=[]/\v= .slice none 0 0)∨
   ∃ gb cap,v= .slice (some ⟨gb,0,none⟩) M.length cap/\M.length<=cap/\W.heap.size<=gb/\gp [] E W' ⟨gb,cap,1⟩ (.row (jW.t 26) 1 (ints γ (n_ (ja M))))):=by
 obtain⟨D0,o1,o2,o3⟩:=adC Lk.t26 m3 m4 hM m2
 have hseq:SeqGives Fence.wide 2 P (kQ.f 10) #[.pointer (some ⟨rb,0,none⟩)] encZ (fun ss=>ss.Perm (intKeys D0)) (Maps.size D0) W:=
  AnyZI.keys_gives Lk Fence.wide _ trivial rfl (by omega) rb b es.size D0 W hlt hcell o1
 have hlen:=hM.len
 have cS:=AnyZI.sorted_in Ls Fence.wide 5 trivial trivial trivial trivial rfl (by omega) (hs _) e9 (kQ.f 10) #[.pointer (some ⟨rb,0,none⟩)] trivial eg _ _ (by rw[o3];simp only[maxLen];omega) (by rw[o3];omega) W hseq
 refine(callsIn_wide.1 cS).mono ?_
 rintro e W' ⟨v,ss,rfl,hS,hrow,Qp,cj⟩
 have hp:ss.Perm (ja M):=hS.trans o2
 have kB:ss.length=M.length:=by rw[hp.length_eq];unfold ja;rw[cp]
 rcases hrow.2 with ⟨rfl,hz⟩ | ⟨gb,cap,cur,rfl,hbase,hgb,c1,c2,c3,c4⟩
 ·exact⟨_,rfl,cj,.inl ⟨mq (by omega),rfl⟩⟩
 ·have hss:ss.mergeSort (fun x y=>decide (x<=y))=n_ (ja M):=TV hp
  have Ql:(n_ (ja M)).length=M.length:=by rw[aeX];unfold ja;rw[cp]
  refine⟨_,rfl,cj,.inr ⟨gb,cap,by rw[kB],by omega,by omega,rfl,fun e he=>by simp only[ints,ef]at he;obtain⟨_,_,rfl⟩:=he;rfl,by rw[bh,Ql];simp only;omega,c2,.inr ⟨cur,hgb,by simp only;omega,?_⟩⟩⟩
  rw[bh,Ql,<- kB]
  simp only[Nat.mul_one]at c4 ⊢
  rw[c4,hss]
  exact Qw _
theorem TZ {P:Program} {kQ jW:Ren} (Lk:SlLaysZI.n10 P kQ) (Ls:SlLaysZI.n6 P jW) (hs:∀ m,AnyZI.SortsIn P jW Fence.wide m)
  (e9:∀ args w,(callFunc (jW.f 9) args).run P w= .ok (.enter (jW.f 9) args) w) (eg:∀ args w,(callFunc (kQ.f 10) args).run P w= .ok (.enter (kQ.f 10) args) w)
  {W:World} {rb:Nat} (hlt:rb<W.heap.size) (hcell:W.cell? ⟨rb,0,none⟩=some (.map none)):
  Calls P (jW.f 6) #[.func (.func (kQ.f 10)) #[] #[.pointer (some ⟨rb,0,none⟩)]] W fun e W'=>e= .returned (.slice none 0 0)/\RowKit.Below W.heap.size W W':=by
 have hseq:SeqGives Fence.wide 2 P (kQ.f 10) #[.pointer (some ⟨rb,0,none⟩)] encZ (fun ss:List Int=>ss=[]) 0 W:=
  AnyZI.keys_gives_nil Lk Fence.wide _ trivial rfl rb W hlt hcell
 have cS:=AnyZI.sorted_in Ls Fence.wide 5 trivial trivial trivial trivial rfl (by omega) (hs _) e9 (kQ.f 10) #[.pointer (some ⟨rb,0,none⟩)] trivial eg _ 0 (bt _) (by omega) W hseq
 refine(callsIn_wide.1 cS).mono ?_
 rintro e W' ⟨v,ss,rfl,hS,hrow,Qp,cj⟩
 exact⟨by rw[Qp.2 hS],cj⟩
theorem FK {σ:Sg} {E:EH} {W:World} {kb:KB} (hi:Inv σ E kb W) {r:Re} (hr:σ[0]? =some r) {v:V} (hk:kb[0]? =some (.cells [v])) (hna:∀ m cs,v≠.arr m cs):∃ y,Den σ E v y/\W.cell? ⟨r.blk,0,none⟩=some y/\r.blk<W.heap.size:=by
 obtain⟨arr,ty',k1,k2⟩:=hi.obj 0 r _ hr hk
 obtain⟨zs,zs',k3,k4,k5⟩:=k2.iI
 simp only[aT]at k5
 subst k5
 rcases k4 with ⟨y,rfl,_,k4⟩ | ⟨m,cs,e,_,_⟩
 ·refine⟨y,k4,?_,(Array.getElem?_eq_some_iff.1 k1).1⟩
  have:arr=#[y]:=by apply Array.ext';rw[k3];rfl
  rw[vp k1,this];rfl
 ·exact(hna _ _ e).elim
theorem acS {P:Program} {kQ jW:Ren} (Lk:SlLaysZI.n10 P kQ) (Ls:SlLaysZI.n6 P jW) (hs:∀ m,AnyZI.SortsIn P jW Fence.wide m)
  (e9:∀ args w,(callFunc (jW.f 9) args).run P w= .ok (.enter (jW.f 9) args) w) (eg:∀ args w,(callFunc (kQ.f 10) args).run P w= .ok (.enter (kQ.f 10) args) w):
  aR P (jW.f 6) (Aq (kQ.f 10) (jW.t 26)):=fun args kb K h σ E W xs hi hd=>by
 unfold Aq at h
 split at h<;>try exact h.elim
 ·rename_i g' ay aS agg sz M
  obtain⟨rfl,rfl,rfl,hM,hnil,h⟩:=h
  simp only[aq,Den]at hd
  obtain⟨x,xs',rfl,⟨vs,rfl,y,ys,rfl,⟨r,hr,rfl⟩,rfl⟩,rfl⟩:=hd
  obtain⟨y,k4,hcell,hlt⟩:=FK hi hr rfl (fun _ _ e=>by cases e)
  simp only[Den]at k4
  obtain⟨r1,hr1,rfl⟩:=k4
  obtain⟨m1,es,clock,m2,m3,m4⟩:=hi.obj 1 r1 _ hr1 rfl
  refine(TY Lk Ls hs e9 eg hlt hcell m2 m3 m4 hM).mono ?_
  rintro e W' ⟨v,rfl,cj,⟨Hf,rfl⟩ | ⟨gb,cap,rfl,c1,c2,c3⟩⟩
  ·exact⟨_,.any (.slice none 0 0),σ,E,_,rfl,hi.more cj.os cj.tape cj.output cj.size cj.block,by simp only[Den],hnil Hf⟩
  ·have hgrow:=hi.grow (W':=W') ⟨gb,cap,1⟩ (.row (jW.t 26) 1 (ints γ (n_ (ja M)))) cj.os cj.tape cj.output cj.size cj.block (fun b hb=>by have:=hb.2;simp only at this;omega) c3
   refine⟨_,.sl 2 0 M.length,_,E,_,rfl,hgrow,?_,h⟩
   simp only[Den]
   exact⟨⟨gb,cap,1⟩,some ⟨gb,0,none⟩,by rw[e_ (by rw[hi.len];exact au _),hi.len];rfl,rfl,bt _,c1,fun _=>by simp⟩
 ·rename_i g'
  obtain⟨rfl,h⟩:=h
  simp only[aq,Den]at hd
  obtain⟨x,xs',rfl,⟨vs,rfl,y,ys,rfl,⟨r,hr,rfl⟩,rfl⟩,rfl⟩:=hd
  obtain⟨y,k4,hcell,hlt⟩:=FK hi hr rfl (fun _ _ e=>by cases e)
  simp only[Den]at k4
  subst k4
  refine(TZ Lk Ls hs e9 eg hlt hcell).mono ?_
  rintro e W' ⟨rfl,cj⟩
  exact⟨_,.any (.slice none 0 0),σ,E,_,rfl,hi.more cj.os cj.tape cj.output cj.size cj.block,by simp only[Den],h⟩
 ·rename_i g' ay aS agg sz M
  obtain⟨rfl,rfl,rfl,hM,hnil,h⟩:=h
  simp only[aq,Den]at hd
  obtain⟨x,xs',rfl,⟨vs,rfl,y,ys,rfl,⟨r,hr,rfl⟩,rfl⟩,rfl⟩:=hd
  obtain⟨y,k4,hcell,hlt⟩:=FK hi hr rfl (fun _ _ e=>by cases e)
  simp only[Den]at k4
  obtain⟨a,rfl,ha⟩:=k4
  cases a with
  |none=>
   refine(TZ Lk Ls hs e9 eg hlt hcell).mono ?_
   rintro e W' ⟨rfl,cj⟩
   exact⟨_,.any (.slice none 0 0),σ,E,_,rfl,hi.more cj.os cj.tape cj.output cj.size cj.block,by simp only[Den],hnil ha⟩
  |some b=>
   obtain⟨m1,es,clock,m2,m3,m4⟩:=ha
   refine(TY Lk Ls hs e9 eg hlt hcell (hi.dj b _ m2) m3 m4 hM).mono ?_
   rintro e W' ⟨v,rfl,cj,⟨Hf,rfl⟩ | ⟨gb,cap,rfl,c1,c2,c3⟩⟩
   ·exact⟨_,.any (.slice none 0 0),σ,E,_,rfl,hi.more cj.os cj.tape cj.output cj.size cj.block,by simp only[Den],hnil Hf⟩
   ·have hgrow:=hi.grow (W':=W') ⟨gb,cap,1⟩ (.row (jW.t 26) 1 (ints γ (n_ (ja M)))) cj.os cj.tape cj.output cj.size cj.block (fun b hb=>by have:=hb.2;simp only at this;omega) c3
    refine⟨_,.sl 1 0 M.length,_,E,_,rfl,hgrow,?_,h⟩
    simp only[Den]
    exact⟨⟨gb,cap,1⟩,some ⟨gb,0,none⟩,by rw[e_ (by rw[hi.len];exact au _),hi.len];rfl,rfl,bt _,c1,fun _=>by simp⟩
end Vc
namespace Go.Proofs.YtfcjngcnifdmnaaGreat
open Go.Shelf
open Go.IntKind renaming i64->γ,u8->ν,u32->iy
open Vc.V renaming any->δ,sl->ε,int->ζ,sb->ξ,ptr->an,χ->av,dat->aH,af->aO,mp->bb,arr->bD,agg->fw
open Vc.D renaming val->η,sl->ω
open Vc.KO renaming row->υ,dead->aa,cells->aw,objs->cY
open Go.Value renaming int->φ,map->kr,oneCell'->l0
open List renaming map->ae,drop->ax,take->aA,length_append->bo,getElem?_eq_getElem->bz,getElem?_eq_some_iff->bO,length_map->cp,take_length->cZ,length_take->dc,mem_singleton->dm,replicate->dp,mem_append->dQ,Mem->dW,getElem?_append_left->dX,mem_map->ef,append_assoc->eH,mem_cons->eI,getElem?_append_right->e_,append_nil->fu,getElem?_map->fH,take_of_length_le->fI,length_drop->fZ,mem_cons_of_mem->f_,getElem?_set_ne->gE,length_cons->gF,mem_of_getElem?->gG,getElem?_eq_none->g_,getElem?_set_self->iz,length_set->iA,mem_cons_self->iB,length_singleton->iL,mem_append_left->iM,range->iN,drop_zero->iX,getD_eq_getElem?_getD->iY,getElem?_take_of_lt->ji,flatten_cons->jt,nil_append->ju,getElem?_drop->jE,map_append->jZ,take_add_one->j2,length_nil->ko,ext_getElem?->lB,getElem?_of_mem->lC,mem_append_right->lD,map_cons->lY,mem_filter->lZ,eq_nil_of_length_eq_zero->mq
open Nat renaming le_refl->au,zero_le->bt,beq->cq,eq_of_beq_eq_true->cP,zero_add->cQ,add_assoc->gR,lor->iO,lt_or_ge->jF,sub_zero->kV
open Option renaming some->bc,bind_eq_some_iff->kW,map->mU
open Int renaming le_refl->dy,toNat_natCast->dD
open Bool renaming and_eq_true->iW,not_eq_false'->nI
def QB:Go.Shelf.Ren:=⟨fun | 7=>98 | 10=>114 | n=>n,fun | 23=>82 | 26=>3 | 3=>133 | 28=>162 | 0=>0 | 27=>161 | 33=>135 | 4=>4 | n=>n,fun | n=>n⟩
theorem ja:Go.Proofs.SlLaysZI.n7 Tryz.prog QB:={
 mixed:=by kernel_rfl
 f7:=⟨Tryz.f98.name,by decide,Tryz.func98.trans (congrArg some (by kernel_rfl))⟩
 f10:=⟨Tryz.f114.name,by decide,Tryz.func114.trans (congrArg some (by kernel_rfl))⟩
 t0:=Tryz.underlying0
 a0:=Tryz.isAgg0
 z0:=Tryz.sizeOf0
 v0:=Tryz.zeroValue0
 t4:=Tryz.underlying4
 a4:=Tryz.isAgg4
 z4:=Tryz.sizeOf4
 v4:=Tryz.zeroValue4
 t23:=Tryz.underlying82
 a23:=Tryz.isAgg82
 z23:=Tryz.sizeOf82
 v23:=Tryz.zeroValue82
 t26:=Tryz.underlying3
 a26:=Tryz.isAgg3
 z26:=Tryz.sizeOf3
 v26:=Tryz.zeroValue3
 t27:=Tryz.underlying161
 a27:=Tryz.isAgg161
 z27:=Tryz.sizeOf161
 v27:=Tryz.zeroValue161
 t28:=Tryz.underlying162
 a28:=Tryz.isAgg162
 z28:=Tryz.sizeOf162
 v28:=Tryz.zeroValue162
 t33:=Tryz.underlying135
 a33:=Tryz.isAgg135
 z33:=Tryz.sizeOf135
 v33:=Tryz.zeroValue135 }
def TX:Go.Shelf.Ren:=⟨fun | 6=>97 | 8=>112 | 9=>113 | 11=>117 | 13=>119 | 12=>118 | 23=>129 | 24=>130 | 14=>120 | 15=>121 | 16=>122 | 17=>123 | 18=>124 | 19=>125 | 20=>126 | 21=>127 | 22=>128 | 25=>131 | 26=>132 | 27=>133 | 28=>134 | 29=>135 | 30=>136 | 31=>137 | n=>n,fun | 26=>3 | 28=>162 | 24=>38 | 0=>0 | 3=>3 | 37=>129 | 48=>52 | 50=>193 | 4=>4 | 40=>186 | 39=>185 | 45=>173 | 5=>5 | 9=>9 | 51=>194 | 55=>198 | 57=>200 | 58=>43 | 33=>135 | n=>n,fun | n=>n⟩
theorem aeZ:Go.Proofs.SlLaysZI.n6 Tryz.prog TX:={
 mixed:=by kernel_rfl
 f6:=⟨Tryz.f97.name,by decide,Tryz.func97.trans (congrArg some (by kernel_rfl))⟩
 f8:=⟨Tryz.f112.name,by decide,Tryz.func112.trans (congrArg some (by kernel_rfl))⟩
 f11:=⟨Tryz.f117.name,by decide,Tryz.func117.trans (congrArg some (by kernel_rfl))⟩
 t0:=Tryz.underlying0
 a0:=Tryz.isAgg0
 z0:=Tryz.sizeOf0
 v0:=Tryz.zeroValue0
 t24:=Tryz.underlying38
 a24:=Tryz.isAgg38
 z24:=Tryz.sizeOf38
 v24:=Tryz.zeroValue38
 t26:=Tryz.underlying3
 a26:=Tryz.isAgg3
 z26:=Tryz.sizeOf3
 v26:=Tryz.zeroValue3
 t28:=Tryz.underlying162
 a28:=Tryz.isAgg162
 z28:=Tryz.sizeOf162
 v28:=Tryz.zeroValue162
 i26:=by kernel_rfl }
def aeY:Go.Shelf.Ren:=⟨fun | 5=>113 | 8=>119 | 7=>118 | 19=>129 | 20=>130 | 10=>120 | 11=>121 | 12=>122 | 13=>123 | 14=>124 | 15=>125 | 16=>126 | 17=>127 | 18=>128 | 30=>131 | 31=>132 | 32=>133 | 33=>134 | 34=>135 | 35=>136 | 40=>137 | n=>n,fun | 23=>38 | 25=>3 | 3=>3 | 32=>129 | 22=>38 | 0=>0 | 44=>52 | 46=>193 | 4=>4 | 36=>186 | 35=>185 | 41=>173 | 5=>5 | 9=>9 | 53=>194 | 57=>198 | 63=>200 | 64=>43 | n=>n,fun | n=>n⟩
theorem TW:Go.Proofs.SlLaysM.n5 Tryz.prog aeY:={
 mixed:=by kernel_rfl
 f5:=⟨Tryz.f113.name,by decide,Tryz.func113.trans (congrArg some (by kernel_rfl))⟩
 f7:=⟨Tryz.f118.name,by decide,Tryz.func118.trans (congrArg some (by kernel_rfl))⟩
 f8:=Tryz.func119.trans (congrArg some (by kernel_rfl))
 f10:=⟨Tryz.f120.name,by decide,Tryz.func120.trans (congrArg some (by kernel_rfl))⟩
 f11:=⟨Tryz.f121.name,by decide,Tryz.func121.trans (congrArg some (by kernel_rfl))⟩
 f12:=⟨Tryz.f122.name,by decide,Tryz.func122.trans (congrArg some (by kernel_rfl))⟩
 f13:=⟨Tryz.f123.name,by decide,Tryz.func123.trans (congrArg some (by kernel_rfl))⟩
 f14:=⟨Tryz.f124.name,by decide,Tryz.func124.trans (congrArg some (by kernel_rfl))⟩
 f15:=⟨Tryz.f125.name,by decide,Tryz.func125.trans (congrArg some (by kernel_rfl))⟩
 f16:=⟨Tryz.f126.name,by decide,Tryz.func126.trans (congrArg some (by kernel_rfl))⟩
 f17:=⟨Tryz.f127.name,by decide,Tryz.func127.trans (congrArg some (by kernel_rfl))⟩
 f18:=⟨Tryz.f128.name,by decide,Tryz.func128.trans (congrArg some (by kernel_rfl))⟩
 f19:=Tryz.func129.trans (congrArg some (by kernel_rfl))
 f20:=Tryz.func130.trans (congrArg some (by kernel_rfl))
 f30:=⟨Tryz.f131.name,by decide,Tryz.func131.trans (congrArg some (by kernel_rfl))⟩
 f31:=Tryz.func132.trans (congrArg some (by kernel_rfl))
 f32:=Tryz.func133.trans (congrArg some (by kernel_rfl))
 f33:=⟨Tryz.f134.name,by decide,Tryz.func134.trans (congrArg some (by kernel_rfl))⟩
 f34:=⟨Tryz.f135.name,by decide,Tryz.func135.trans (congrArg some (by kernel_rfl))⟩
 f35:=⟨Tryz.f136.name,by decide,Tryz.func136.trans (congrArg some (by kernel_rfl))⟩
 f40:=⟨Tryz.f137.name,by decide,Tryz.func137.trans (congrArg some (by kernel_rfl))⟩
 t0:=Tryz.underlying0
 a0:=Tryz.isAgg0
 z0:=Tryz.sizeOf0
 v0:=Tryz.zeroValue0
 t3:=Tryz.underlying3
 a3:=Tryz.isAgg3
 z3:=Tryz.sizeOf3
 v3:=Tryz.zeroValue3
 t4:=Tryz.underlying4
 a4:=Tryz.isAgg4
 z4:=Tryz.sizeOf4
 v4:=Tryz.zeroValue4
 t5:=Tryz.underlying5
 a5:=Tryz.isAgg5
 z5:=Tryz.sizeOf5
 v5:=Tryz.zeroValue5
 t9:=Tryz.underlying9
 a9:=Tryz.isAgg9
 z9:=Tryz.sizeOf9
 v9:=Tryz.zeroValue9
 t22:=Tryz.underlying38
 a22:=Tryz.isAgg38
 z22:=Tryz.sizeOf38
 v22:=Tryz.zeroValue38
 t23:=Tryz.underlying38
 a23:=Tryz.isAgg38
 z23:=Tryz.sizeOf38
 v23:=Tryz.zeroValue38
 t25:=Tryz.underlying3
 a25:=Tryz.isAgg3
 z25:=Tryz.sizeOf3
 v25:=Tryz.zeroValue3
 t32:=Tryz.underlying129
 a32:=Tryz.isAgg129
 z32:=Tryz.sizeOf129
 v32:=Tryz.zeroValue129
 t35:=Tryz.underlying185
 a35:=Tryz.isAgg185
 z35:=Tryz.sizeOf185
 v35:=Tryz.zeroValue185
 t36:=Tryz.underlying186
 a36:=Tryz.isAgg186
 z36:=Tryz.sizeOf186
 v36:=Tryz.zeroValue186
 t41:=Tryz.underlying173
 a41:=Tryz.isAgg173
 z41:=Tryz.sizeOf173
 v41:=Tryz.zeroValue173
 t44:=Tryz.underlying52
 a44:=Tryz.isAgg52
 z44:=Tryz.sizeOf52
 v44:=Tryz.zeroValue52
 t46:=Tryz.underlying193
 a46:=Tryz.isAgg193
 z46:=Tryz.sizeOf193
 v46:=Tryz.zeroValue193
 t53:=Tryz.underlying194
 a53:=Tryz.isAgg194
 z53:=Tryz.sizeOf194
 v53:=Tryz.zeroValue194
 t57:=Tryz.underlying198
 a57:=Tryz.isAgg198
 z57:=Tryz.sizeOf198
 v57:=Tryz.zeroValue198
 t63:=Tryz.underlying200
 a63:=Tryz.isAgg200
 z63:=Tryz.sizeOf200
 v63:=Tryz.zeroValue200
 t64:=Tryz.underlying43
 a64:=Tryz.isAgg43
 z64:=Tryz.sizeOf43
 v64:=Tryz.zeroValue43 }
def X5:Go.Shelf.Ren:=⟨fun | 5=>96 | 7=>111 | n=>n,fun | 23=>82 | 25=>3 | 3=>133 | 4=>4 | 20=>20 | n=>n,fun | n=>n⟩
theorem X4:Go.Proofs.SlLaysW.n5 Tryz.prog X5:={
 mixed:=by kernel_rfl
 f5:=⟨Tryz.f96.name,by decide,Tryz.func96.trans (congrArg some (by kernel_rfl))⟩
 f7:=Tryz.func111.trans (congrArg some (by kernel_rfl))
 t4:=Tryz.underlying4
 a4:=Tryz.isAgg4
 z4:=Tryz.sizeOf4
 v4:=Tryz.zeroValue4
 t20:=Tryz.underlying20
 a20:=Tryz.isAgg20
 z20:=Tryz.sizeOf20
 v20:=Tryz.zeroValue20
 t23:=Tryz.underlying82
 a23:=Tryz.isAgg82
 z23:=Tryz.sizeOf82
 v23:=Tryz.zeroValue82 }
theorem ae0 (m:Nat):AnyZI.SortsIn Tryz.prog TX Fence.wide m:=
 ⟨fun blk off cap ss W hH hblk hsz=>callsIn_wide.2 (AnyM.slices_Sort_int TW blk off cap ss W hH hblk hsz),fun p cap W=>callsIn_wide.2 (AnyM.slices_Sort_int_none TW p cap W)⟩
theorem acg:Vc.aR Tryz.prog 96 Vc.Ae:=Vc.ach X4
theorem aci:Vc.aR Tryz.prog 98 (Vc.Af 114):=Vc.acj ja
theorem acR:Vc.aR Tryz.prog 97 (Vc.Aq 114 3):=Vc.acS (kQ:=QB) {ja with } aeZ ae0 (enters_of Tryz.func113 (by kernel_rfl) rfl) (enters_of Tryz.func114 (by kernel_rfl) rfl)
end Go.Proofs.YtfcjngcnifdmnaaGreat
namespace Go.Proofs.YtfcjngcnifdmnaaGreat
open Vc Go
open Go.IntKind renaming i64->γ,u8->ν,u32->iy
open Vc.V renaming any->δ,sl->ε,int->ζ,sb->ξ,ptr->an,χ->av,dat->aH,af->aO,mp->bb,arr->bD,agg->fw
open Vc.D renaming val->η,sl->ω
open Vc.KO renaming row->υ,dead->aa,cells->aw,objs->cY
open Go.Value renaming int->φ,map->kr,oneCell'->l0
open List renaming map->ae,drop->ax,take->aA,length_append->bo,getElem?_eq_getElem->bz,getElem?_eq_some_iff->bO,length_map->cp,take_length->cZ,length_take->dc,mem_singleton->dm,replicate->dp,mem_append->dQ,Mem->dW,getElem?_append_left->dX,mem_map->ef,append_assoc->eH,mem_cons->eI,getElem?_append_right->e_,append_nil->fu,getElem?_map->fH,take_of_length_le->fI,length_drop->fZ,mem_cons_of_mem->f_,getElem?_set_ne->gE,length_cons->gF,mem_of_getElem?->gG,getElem?_eq_none->g_,getElem?_set_self->iz,length_set->iA,mem_cons_self->iB,length_singleton->iL,mem_append_left->iM,range->iN,drop_zero->iX,getD_eq_getElem?_getD->iY,getElem?_take_of_lt->ji,flatten_cons->jt,nil_append->ju,getElem?_drop->jE,map_append->jZ,take_add_one->j2,length_nil->ko,ext_getElem?->lB,getElem?_of_mem->lC,mem_append_right->lD,map_cons->lY,mem_filter->lZ,eq_nil_of_length_eq_zero->mq
open Nat renaming le_refl->au,zero_le->bt,beq->cq,eq_of_beq_eq_true->cP,zero_add->cQ,add_assoc->gR,lor->iO,lt_or_ge->jF,sub_zero->kV
open Option renaming some->bc,bind_eq_some_iff->kW,map->mU
open Int renaming le_refl->dy,toNat_natCast->dD
open Bool renaming and_eq_true->iW,not_eq_false'->nI
set_option linter.unusedVariables false
set_option linter.unusedSimpArgs false
set_option maxRecDepth 100000
abbrev L3:=Int×Int×Int
def pf (p:L3):List Int×List D:=([p.1],[dn γ p.2.1,dn γ p.2.2])
structure bG (M:ML) (x:List L3):Prop where
 perm:M.Perm (x.map pf)
 inc:x.Pairwise (fun a b=>a.1<b.1)
 rg:∀ p∈x,0<=p.1/\p.1<=255/\1<=p.2.1/\p.2.1<=1099511627776/\0<=p.2.2/\p.2.2<=63
 len:x.length<=32
def oD:List L3->Int->Option Nat
 | [],_=>none
 |p::l,c=>if p.1=c then some 0 else(oD l c).map (·+1)
def g3 (x:List L3) (i:Nat):L3:=x.getD i (0,0,0)
def kf (x:List L3) (c:Int):Option (Int×Int):=(oD x c).map fun i=>(g3 x i).2
def cW (x:List L3) (c n e:Int):Int:=
 if c<0∨255<c∨n<1∨1099511627776<n∨e<0∨63<e then 1 else match kf x c with
 |some q=>if n<=q.1 then 13 else 0
 |none=>if 32<=x.length then 6 else 0
def oS (x:List L3) (c n e:Int):List L3:=x.filter (fun p=>decide (p.1<c))++(c,n,e)::x.filter (fun p=>decide (c<p.1))
def gu (x:List L3) (c n:Int):Int:=match kf x c with
 |none=>0
 |some q=>if q.1<n then 0 else if n=q.1 then 1 else 2
def sD (x:List L3) (c n:Int):Int:=match kf x c with
 |none=>0
 |some q=>if n=q.1 then q.2 else 0
structure mr (n:Int):Prop where
 h:n≠0
structure mj (n:Int):Prop where
 h:n=0
abbrev ai (M:ML):V:=.imp [γ] false true 2 M
def Aj:aD:=fun args kb K=>match args,kb with
 | [an 0 0,.int γ c,.int γ n,.int γ e],[aw [.imp [γ] false true 2 M]]=>∃ x,bG M x/\
  (mr (cW x c n e)->K (.int γ (cW x c n e)) [aw [ai M]])/\(mj (cW x c n e)->K (.int γ 0) [aw [ai (bL M [c] [dn γ n,dn γ e])]])
 |_,_=>False
def EE:aD:=fun args kb K=>match args,kb with
 | [an 0 134,.int γ c,.int γ n,.int γ e],[aw [δ a0,δ a1,δ a2,δ a3,δ a4,δ a5,bD 128 C,.imp [γ] false true 2 M,δ a8,δ a9,δ aE,δ aZ,δ a12,δ aN,δ ο,δ π,δ aW,δ aF,δ aP,δ aG,δ a20,δ a21]]=>∃ x,bG M x/\
  (mr (cW x c n e)->K (.int γ (cW x c n e)) [aw [δ a0,δ a1,δ a2,δ a3,δ a4,δ a5,bD 128 C,ai M,δ a8,δ a9,δ aE,δ aZ,δ a12,δ aN,δ ο,δ π,δ aW,δ aF,δ aP,δ aG,δ a20,δ a21]])/\(mj (cW x c n e)->K (.int γ 0) [aw [δ a0,δ a1,δ a2,δ a3,δ a4,δ a5,bD 128 C,ai (bL M [c] [dn γ n,dn γ e]),δ a8,δ a9,δ aE,δ aZ,δ a12,δ aN,δ ο,δ π,δ aW,δ aF,δ aP,δ aG,δ a20,δ a21]])
 |_,_=>False
def Eh:aD:=fun args kb K=>match args,kb with
 | [an 0 134,.int γ c,.int γ n],[aw [δ a0,δ a1,δ a2,δ a3,δ a4,δ a5,bD 128 C,.imp [γ] false true 2 M,δ a8,δ a9,δ aE,δ aZ,δ a12,δ aN,δ ο,δ π,δ aW,δ aF,δ aP,δ aG,δ a20,δ a21]]=>∃ x,bG M x/\K (.χ [.int γ (gu x c n),.int γ (sD x c n)]) [aw [δ a0,δ a1,δ a2,δ a3,δ a4,δ a5,bD 128 C,ai M,δ a8,δ a9,δ aE,δ aZ,δ a12,δ aN,δ ο,δ π,δ aW,δ aF,δ aP,δ aG,δ a20,δ a21]]
 |_,_=>False
def Ek:aD:=fun args kb K=>match args,kb with
 | [an 0 134],[aw [δ a0,δ a1,δ a2,δ a3,δ a4,δ a5,bD 128 C,.imp [γ] false true 2 M,δ a8,δ a9,δ aE,δ aZ,δ a12,δ aN,δ ο,δ π,δ aW,δ aF,δ aP,δ aG,δ a20,δ a21]]=>∃ x,bG M x/\K (.sl 1 0 x.length) [aw [δ a0,δ a1,δ a2,δ a3,δ a4,δ a5,bD 128 C,ai M,δ a8,δ a9,δ aE,δ aZ,δ a12,δ aN,δ ο,δ π,δ aW,δ aF,δ aP,δ aG,δ a20,δ a21],υ 3 1 (ints γ (x.map (·.1)))]
 |_,_=>False
def FR:FuncId->Option dK
 | 96=>some ⟨[],Ae⟩
 | 98=>some ⟨[],Af 114⟩
 | 97=>some ⟨[],Aq 114 3⟩
 |_=>none
noncomputable def xm:bN:=dU Tryz.prog FR aI 10
abbrev FE:=fun(M:ML) (c:Int) (n:Int) (e:Int) mC Zt Zu (K:V->KB->Prop)=>(
 let aV:=K (ζ γ 6) [aw mC];let aJ:=((↑(List.length M):Int) == 32)=true;let aL:=((↑(List.length M):Int) == 32)=false;let az:=K (ζ γ 0) [aw Zu];let ah:=K (ζ γ 0) [aw Zt];let κ:=K (ζ γ 1) [aw mC];(∀(y1:List D),bK M [c]=some y1->
 gQ ([CK.int γ]++([CK.int γ]++[])) y1)/\
 (decide (c<0)=true->
 κ)/\
 (decide (c<0)=false->
 (decide (c > 255)=true->
 κ)/\
 (decide (c > 255)=false->
 (decide (n<1)=true->
 κ)/\
 (decide (n<1)=false->
 (decide (n > 1099511627776)=true->
 κ)/\
 (decide (n > 1099511627776)=false->
 (decide (e<0)=true->
 κ)/\
 (decide (e<0)=false->
 (decide (e > 63)=true->
 κ)/\
 (decide (e > 63)=false->
 (mI M [c]=true->
 (decide (n<=eu M [c] 0)=true->
 K (ζ γ 13) [aw mC])/\
 (decide (n<=eu M [c] 0)=false->
 ((!mI M [c])=true->
 (aJ->
 aV)/\
 (aL->
 (M=[]->
 ah)/\
 az))/\
 ((!mI M [c])=false->
 (M=[]->
 ah)/\
 az)))/\
 (mI M [c]=false->
 ((!mI M [c])=true->
 (aJ->
 aV)/\
 (aL->
 (M=[]->
 ah)/\
 az))/\
 ((!mI M [c])=false->
 (M=[]->
 ah)/\
 az))))))))
 :Prop)
theorem ahk (M:ML) (c n e:Int) (K:V->KB->Prop) (ar:
 FE M c n e [V.imp [γ] false true 2 M] [V.imp [γ] false true 2 [([c],[η (φ γ n),η (φ γ e)])]] [V.imp [γ] false true 2 (bL M [c] [η (φ γ n),η (φ γ e)])] K
 ):aK Tryz.prog xm (aI 66) 66 [an 0 0,.int γ c,.int γ n,.int γ e] [aw [ai M]] (fA [.oK 0 0 [γ] false true 2] (dx 1 K)):=by apply Eq.mp (a:=ar);kernel_rfl
theorem ahl (a0 a1 a2 a3 a4 a5 a8 a9 aE aZ a12 aN ο π aW aF aP aG a20 a21:Value) (C:List D) (M:ML) (c n e:Int) (K:V->KB->Prop) (ar:
 FE M c n e [δ a0,δ a1,δ a2,δ a3,δ a4,δ a5,bD 128 C,V.imp [γ] false true 2 M,δ a8,δ a9,δ aE,δ aZ,δ a12,δ aN,δ ο,δ π,δ aW,δ aF,δ aP,δ aG,δ a20,δ a21] [δ a0,δ a1,δ a2,δ a3,δ a4,δ a5,bD 128 C,V.imp [γ] false true 2 [([c],[η (φ γ n),η (φ γ e)])],δ a8,δ a9,δ aE,δ aZ,δ a12,δ aN,δ ο,δ π,δ aW,δ aF,δ aP,δ aG,δ a20,δ a21] [δ a0,δ a1,δ a2,δ a3,δ a4,δ a5,bD 128 C,V.imp [γ] false true 2 (bL M [c] [η (φ γ n),η (φ γ e)]),δ a8,δ a9,δ aE,δ aZ,δ a12,δ aN,δ ο,δ π,δ aW,δ aF,δ aP,δ aG,δ a20,δ a21] K
 ):aK Tryz.prog xm (aI 66) 66 [an 0 134,.int γ c,.int γ n,.int γ e] [aw [δ a0,δ a1,δ a2,δ a3,δ a4,δ a5,bD 128 C,ai M,δ a8,δ a9,δ aE,δ aZ,δ a12,δ aN,δ ο,δ π,δ aW,δ aF,δ aP,δ aG,δ a20,δ a21]] (fA [.oK 0 134 [γ] false true 2] (dx 1 K)):=by apply Eq.mp (a:=ar);kernel_rfl
theorem agr (a0 a1 a2 a3 a4 a5 a8 a9 aE aZ a12 aN ο π aW aF aP aG a20 a21:Value) (C:List D) (M:ML) (c n:Int) (K:V->KB->Prop) (ar:
 let κ:KB:=[aw [δ a0,δ a1,δ a2,δ a3,δ a4,δ a5,bD 128 C,V.imp [γ] false true 2 M,δ a8,δ a9,δ aE,δ aZ,δ a12,δ aN,δ ο,δ π,δ aW,δ aF,δ aP,δ aG,δ a20,δ a21]];let ah:=K (av [ζ γ 0,ζ γ 0]) κ;(∀(y1:List D),bK M [c]=some y1->
 gQ ([CK.int γ]++([CK.int γ]++[])) y1)/\
 ((!mI M [c])=true->
 ah)/\
 ((!mI M [c])=false->
 (decide (n > eu M [c] 0)=true->
 ah)/\
 (decide (n > eu M [c] 0)=false->
 ((n == eu M [c] 0)=true->
 K (av [ζ γ 1,ζ γ (eu M [c] 1)]) κ)/\
 ((n == eu M [c] 0)=false->
 K (av [ζ γ 2,ζ γ 0]) κ)))
 ):aK Tryz.prog xm (aI 83) 83 [an 0 134,.int γ c,.int γ n] [aw [δ a0,δ a1,δ a2,δ a3,δ a4,δ a5,bD 128 C,ai M,δ a8,δ a9,δ aE,δ aZ,δ a12,δ aN,δ ο,δ π,δ aW,δ aF,δ aP,δ aG,δ a20,δ a21]] (dx 1 K):=by apply Eq.mp (a:=ar);kernel_rfl
theorem agu (a0 a1 a2 a3 a4 a5 a8 a9 aE aZ a12 aN ο π aW aF aP aG a20 a21:Value) (C:List D) (M:ML) (K:V->KB->Prop) (ar:
 let κ:=aw [δ a0,δ a1,δ a2,δ a3,δ a4,δ a5,bD 128 C,V.imp [γ] false true 2 M,δ a8,δ a9,δ aE,δ aZ,δ a12,δ aN,δ ο,δ π,δ aW,δ aF,δ aP,δ aG,δ a20,δ a21];114=114/\
 [γ]=[γ]/\
 false=false/\
 tD M/\
 (M=[]->
 K (ε 1 0 0) [κ,υ 3 1 []])/\
 K (ε 1 0 (List.length M)) [κ,υ 3 1 (ints γ (n_ (Vc.ja M)))]
 ):aK Tryz.prog xm (aI 69) 69 [an 0 134] [aw [δ a0,δ a1,δ a2,δ a3,δ a4,δ a5,bD 128 C,ai M,δ a8,δ a9,δ aE,δ aZ,δ a12,δ aN,δ ο,δ π,δ aW,δ aF,δ aP,δ aG,δ a20,δ a21]] (fA [.slot 0 3 1] (dx 1 K)):=by apply Eq.mp (a:=ar);kernel_rfl
theorem Q8:∀{M:ML} {k:List Int} {v:List D},(M.map (·.1)).Nodup->(k,v)∈M->bK M k=some v
 | (a,c)::M,k,v,hn,h=>by
  simp only[lY,List.nodup_cons]at hn
  simp only[bK]
  rcases eI.1 h with h | h
  ·cases h;rw[if_pos rfl]
  ·have hne:k≠a:=fun e=>hn.1 (ef.2 ⟨_,h,e⟩)
   rw[if_neg hne]
   exact Q8 hn.2 h
theorem Q9:∀{M:ML} {k:List Int},(∀ e∈M,e.1≠k)->bK M k=none
 | [],_,_=>rfl
 | (a,c)::M,k,h=>by
  simp only[bK]
  rw[if_neg (fun e=>h _ iB e.symm)]
  exact Q9 fun e he=>h e (f_ _ he)
theorem xB:∀{x:List L3} {c:Int} {i:Nat},oD x c=some i->i<x.length/\(g3 x i).1=c/\∀ j,j<i->(g3 x j).1≠c
 |p::l,c,i,h=>by
  simp only[oD]at h
  split at h
  ·rename_i hp
   cases h
   exact⟨by simp,by simp [g3,hp],fun j hj=>absurd hj (Nat.not_lt_zero _)⟩
  ·rename_i hp
   simp only[Option.map_eq_some_iff]at h
   obtain⟨k,hk,rfl⟩:=h
   obtain⟨h1,h2,h3⟩:=xB hk
   refine⟨by simp;omega,by simpa [g3]using h2,fun j hj=>?_⟩
   cases j with
   |zero=>simpa [g3]using hp
   |succ j=>have:=h3 j (by omega);simpa [g3]using this
theorem Fo:∀{x:List L3} {c:Int},oD x c=none->∀ p∈x,p.1≠c
 | [],_,_,p,hp=>by cases hp
 |q::l,c,h,p,hp=>by
  simp only[oD]at h
  split at h
  ·cases h
  ·rename_i hq
   simp only[Option.map_eq_none_iff]at h
   rcases eI.1 hp with rfl | hp
   ·exact hq
   ·exact Fo h p hp
theorem sK {x:List L3} {i:Nat} (h:i<x.length):x[i]? =some (g3 x i):=by
 unfold g3;rw[iY,bz h];rfl
theorem tU {x:List L3} {i:Nat} (h:i<x.length):g3 x i∈x:=gG (sK h)
theorem Xj {x:List L3} {c:Int} {i:Nat} (hi:i<x.length) (h1:(g3 x i).1=c) (h2:∀ j,j<i->(g3 x j).1≠c):oD x c=some i:=by
 cases h:oD x c with
 |none=>exact absurd h1 (Fo h _ (tU hi))
 |some k=>
  obtain⟨k1,k2,k3⟩:=xB h
  have:k=i:=by
   rcases Nat.lt_trichotomy k i with h4 | h4 | h4
   ·exact absurd k2 (h2 k h4)
   ·exact h4
   ·exact absurd h1 (k3 i h4)
  rw[this]
theorem Xi {x:List L3} {c:Int} (h:∀ j,j<x.length->(g3 x j).1≠c):oD x c=none:=by
 cases h1:oD x c with
 |none=>rfl
 |some k=>obtain⟨k1,k2,_⟩:=xB h1;exact absurd k2 (h k k1)
theorem KH {M:ML} {x:List L3} (h:bG M x):(M.map (·.1)).Nodup:=by
 have h1:(M.map (·.1)).Perm ((x.map pf).map (·.1)):=h.perm.map _
 refine h1.nodup_iff.2 ?_
 rw[List.map_map]
 exact List.pairwise_map.2 (h.inc.imp fun hlt e=>by simp [pf]at e;omega)
theorem Gi {M:ML} {x:List L3} (h:bG M x) (c:Int):bK M [c]=(kf x c).map fun q=>[dn γ q.1,dn γ q.2]:=by
 unfold kf
 cases hc:oD x c with
 |none=>
  refine Q9 fun e he e1=>?_
  obtain⟨p,hp,rfl⟩:=ef.1 (h.perm.mem_iff.1 he)
  simp only[pf,List.cons.injEq,and_true]at e1
  exact Fo hc p hp e1
 |some i=>
  obtain⟨h1,h2,_⟩:=xB hc
  refine Q8 (KH h) (h.perm.mem_iff.2 (ef.2 ⟨g3 x i,tU h1,?_⟩))
  simp only[pf,h2,Option.map_some]
theorem KG {M:ML} {x:List L3} (h:bG M x):tD M/\n_ (Vc.ja M)=x.map (·.1)/\M.length=x.length:=by
 have hl:M.length=x.length:=by rw[h.perm.length_eq,cp]
 refine⟨⟨fun e he=>?_,KH h,by have:=h.len;omega⟩,?_,hl⟩
 ·obtain⟨p,hp,rfl⟩:=ef.1 (h.perm.mem_iff.1 he)
  have:=h.rg p hp
  exact⟨p.1,rfl,by omega,by omega⟩
 ·have h1:(Vc.ja M).Perm (x.map (·.1)):=by
   unfold Vc.ja
   have:=h.perm.map (fun e:List Int×List D=>e.1.headD 0)
   rw[List.map_map]at this
   exact this
  rw[TV h1]
  unfold n_
  exact List.mergeSort_of_pairwise (List.pairwise_map.2 (h.inc.imp fun hlt=>by simp only[decide_eq_true_eq];omega))
theorem UL:bG [] []:=⟨List.Perm.refl _,List.Pairwise.nil,fun p hp=>(by cases hp),by simp⟩
theorem AW {M:ML} {x:List L3} (h:bG M x) (c:Int):∀ cs,bK M [c]=some cs->gQ ([CK.int γ]++([CK.int γ]++[])) cs:=fun cs hc=>by
 rw[Gi h]at hc
 simp only[Option.map_eq_some_iff]at hc
 obtain⟨q,_,rfl⟩:=hc
 exact⟨_,_,rfl,_,_,rfl,rfl⟩
theorem KF {M:ML} {x:List L3} (h:bG M x) (c:Int):mI M [c]=(kf x c).isSome/\(∀ q,kf x c=some q->eu M [c] 0=q.1/\eu M [c] 1=q.2):=by
 refine⟨?_,fun q hq=>?_⟩
 ·unfold mI;rw[Gi h];cases kf x c<;>rfl
 ·unfold eu;rw[Gi h,hq];exact⟨rfl,rfl⟩
theorem XZ:dP Tryz.prog FR:=fun f k h=>by
 unfold FR at h
 split at h<;>first | (cases h;first | exact acg | exact aci | exact acR) | cases h
theorem AE:b9 Tryz.prog xm:=dY mixed XZ aI 10
theorem Te {M:ML} {c n e:Int} {x:List L3} {B B2 B3:List V} {K:V->KB->Prop} (ht:bG M x) (hno:mr (cW x c n e)->K (.int γ (cW x c n e)) [aw B]) (hy:mj (cW x c n e)->K (.int γ 0) [aw B2]) (e3:M=[]->B3=B2):FE M c n e B B3 B2 K:=by
 obtain⟨t1,t2⟩:=KF ht c
 have hl:=(KG ht).2.2
 have hle:=ht.len
 unfold cW at hno hy
 refine⟨AW ht c,?_⟩
 simp only[decide_eq_true_eq,decide_eq_false_iff_not]
 have bad:(c<0∨255<c∨n<1∨1099511627776<n∨e<0∨63<e)->K (ζ γ 1) [aw B]:=fun hb=>by
  simp only[if_pos hb]at hno
  exact hno ⟨by decide⟩
 refine⟨fun h1=>bad (.inl h1),fun h1=>⟨fun h2=>bad (.inr (.inl h2)),fun h2=>⟨fun h3=>bad (.inr (.inr (.inl h3))),fun h3=>⟨fun h4=>bad (.inr (.inr (.inr (.inl h4)))),fun h4=>⟨fun h5=>bad (.inr (.inr (.inr (.inr (.inl h5))))),fun h5=>⟨fun h6=>bad (.inr (.inr (.inr (.inr (.inr h6))))),fun h6=>?_⟩⟩⟩⟩⟩⟩
 have hg:¬ (c<0∨255<c∨n<1∨1099511627776<n∨e<0∨63<e):=by omega
 simp only[if_neg hg]at hno hy
 have fin:K (.int γ 0) [aw B2]->(M=[]->K (.int γ 0) [aw B3])/\K (.int γ 0) [aw B2]:=fun h=>⟨fun hm=>by rw[e3 hm];exact h,h⟩
 cases hq:kf x c with
 |some q=>
  rw[hq]at t1 hno hy
  simp only[Option.isSome_some]at t1
  simp only at hno hy
  have t3:=(t2 q hq).1
  rw[t1,t3]
  refine⟨fun _=>⟨fun h7=>?_,fun h7=>⟨fun f=>(by cases f),fun _=>fin ?_⟩⟩,fun f=>(by cases f)⟩
  ·rw[if_pos h7]at hno;exact hno ⟨by decide⟩
  ·rw[if_neg h7]at hy;exact hy ⟨rfl⟩
 |none=>
  rw[hq]at t1 hno hy
  simp only[Option.isSome_none]at t1
  simp only at hno hy
  rw[t1]
  refine⟨fun f=>(by cases f),fun _=>⟨fun _=>⟨fun h7=>?_,fun h7=>fin ?_⟩,fun f=>(by cases f)⟩⟩
  ·simp only[beq_iff_eq]at h7
   rw[if_pos (by omega)]at hno;exact hno ⟨by decide⟩
  ·simp only[beq_eq_false_iff_ne,ne_eq]at h7
   rw[if_neg (by omega)]at hy;exact hy ⟨rfl⟩
theorem Sd:aR Tryz.prog 66 Aj:=oa AE mixed [.oK 0 0 [γ] false true 2] (fun args kb K h=>by
 unfold Aj at h;split at h<;>try exact h.elim
 obtain⟨x,ht,hno,hy⟩:=h
 exact⟨_,ahk _ _ _ _ K (Te ht hno hy (fun hm=>by subst hm;rfl))⟩)
theorem acL:aR Tryz.prog 66 EE:=oa AE mixed [.oK 0 134 [γ] false true 2] (fun args kb K h=>by
 unfold EE at h;split at h<;>try exact h.elim
 obtain⟨x,ht,hno,hy⟩:=h
 exact⟨_,ahl _ _ _ _ _ _ _ _ _ _ _ _ _ _ _ _ _ _ _ _ _ _ _ _ _ K (Te ht hno hy (fun hm=>by subst hm;rfl))⟩)
theorem abM:aR Tryz.prog 83 Eh:=lh AE mixed (fun args kb K h=>by
 unfold Eh at h;split at h<;>try exact h.elim
 rename_i c n _ _ _ _ _ _ _ M _ _ _ _ _ _ _ _ _ _ _ _ _ _
 obtain⟨x,ht,h⟩:=h
 obtain⟨t1,t2⟩:=KF ht c
 unfold gu sD at h
 refine⟨_,agr _ _ _ _ _ _ _ _ _ _ _ _ _ _ _ _ _ _ _ _ _ M c n K ⟨AW ht c,?_⟩⟩
 simp only[decide_eq_true_eq,decide_eq_false_iff_not]
 cases hq:kf x c with
 |none=>
  rw[hq]at t1 h
  simp only[Option.isSome_none]at t1
  rw[t1]
  exact⟨fun _=>h,fun f=>(by cases f)⟩
 |some q=>
  rw[hq]at t1 h
  simp only[Option.isSome_some]at t1
  simp only at h
  obtain⟨t3,t4⟩:=t2 q hq
  rw[t1,t3,t4]
  refine⟨fun f=>(by cases f),fun _=>⟨fun h7=>?_,fun h7=>⟨fun h8=>?_,fun h8=>?_⟩⟩⟩
  ·rw[if_pos (by omega),if_neg (by omega)]at h;exact h
  ·simp only[beq_iff_eq]at h8
   rw[if_neg (by omega),if_pos h8,if_pos h8]at h;exact h
  ·simp only[beq_eq_false_iff_ne,ne_eq]at h8
   rw[if_neg (by omega),if_neg h8,if_neg h8]at h;exact h)
theorem abP:aR Tryz.prog 69 Ek:=oa AE mixed [.slot 0 3 1] (fun args kb K h=>by
 unfold Ek at h;split at h<;>try exact h.elim
 rename_i M _ _ _ _ _ _ _ _ _ _ _ _ _ _
 obtain⟨x,ht,h⟩:=h
 obtain⟨k1,k2,k3⟩:=KG ht
 refine⟨_,agu _ _ _ _ _ _ _ _ _ _ _ _ _ _ _ _ _ _ _ _ _ M K ⟨rfl,rfl,rfl,k1,fun hM=>?_,?_⟩⟩
 ·subst hM
  have hx:x=[]:=mq (by rw[<- k3];rfl)
  subst hx
  exact h
 ·rw[k2,k3];exact h)
structure fa (x:List L3):Prop where
 inc:x.Pairwise (fun a b=>a.1<b.1)
 rg:∀ p∈x,0<=p.1/\p.1<=255/\1<=p.2.1/\p.2.1<=1099511627776/\0<=p.2.2/\p.2.2<=63
 len:x.length<=32
def mO (p:L3):List Int:=aY p.1++aY p.2.1++aY p.2.2
def gJ (x:List L3):List Int:=(x.map mO).flatten
def be (x:List L3):List Int:=aY (x.length:Int)++gJ x
def fQ (x:List L3) (i:Nat):List Int:=aY (x.length:Int)++gJ (x.take i)
abbrev UO (a0 a1 a2 a3 a4 a5 a8 a9 aE aZ a12 aN ο π aW aF aP aG a20 a21:Value) (C:List D) (M:ML) (x:List L3):LI where
 α:={i:Nat // i<=x.length}
 live:=[0,3,13,14,15]
 st i:=([an 0 134,an 1 0,.sl 2 0 x.length,.int γ (x.length:Int),.int γ (i.1:Int)],[aw [δ a0,δ a1,δ a2,δ a3,δ a4,δ a5,bD 128 C,ai M,δ a8,δ a9,δ aE,δ aZ,δ a12,δ aN,δ ο,δ π,δ aW,δ aF,δ aP,δ aG,δ a20,δ a21],aw [.sl 3 0 (fQ x i.1).length],υ 3 1 (ints γ (x.map (·.1))),υ 5 1 (ints ν (fQ x i.1))])
 μ i:=x.length - i.1
def Og (a0 a1 a2 a3 a4 a5 a8 a9 aE aZ a12 aN ο π aW aF aP aG a20 a21:Value) (C:List D) (M:ML) (x:List L3):FuncId->Nat->Option LI
 | 39,4=>some (UO a0 a1 a2 a3 a4 a5 a8 a9 aE aZ a12 aN ο π aW aF aP aG a20 a21 C M x)
 |_,_=>none
def Ar:aD:=fun args kb K=>match args,kb with
 | [an 0 134],[aw [δ a0,δ a1,δ a2,δ a3,δ a4,δ a5,bD 128 C,.imp [γ] false true 2 M,δ a8,δ a9,δ aE,δ aZ,δ a12,δ aN,δ ο,δ π,δ aW,δ aF,δ aP,δ aG,δ a20,δ a21]]=>∃ x,bG M x/\K (.sl 1 0 (be x).length) [aw [δ a0,δ a1,δ a2,δ a3,δ a4,δ a5,bD 128 C,ai M,δ a8,δ a9,δ aE,δ aZ,δ a12,δ aN,δ ο,δ π,δ aW,δ aF,δ aP,δ aG,δ a20,δ a21],υ 5 1 (ints ν (be x))]
 |_,_=>False
def Gk:FuncId->Option dK
 | 69=>some ⟨[],Ek⟩
 |f=>we f
def Gj:FuncId->Option dK
 | 66=>some ⟨[],Aj⟩
 |f=>we f
noncomputable def Mp:bN:=dU Tryz.prog Gk aI 10
theorem ahH (a0 a1 a2 a3 a4 a5 a8 a9 aE aZ a12 aN ο π aW aF aP aG a20 a21:Value) (C:List D) (M:ML) (x:List L3) (K:V->KB->Prop) (ar:
 let ah:=(UO a0 a1 a2 a3 a4 a5 a8 a9 aE aZ a12 aN ο π aW aF aP aG a20 a21 C M x);let κ:=aw [δ a0,δ a1,δ a2,δ a3,δ a4,δ a5,bD 128 C,V.imp [γ] false true 2 M,δ a8,δ a9,δ aE,δ aZ,δ a12,δ aN,δ ο,δ π,δ aW,δ aF,δ aP,δ aG,δ a20,δ a21];∃(y1:List Int),let az:=(y1++aY (↑(List.length M):Int));[]=ints ν y1/\
 0=y1.length/\
 y1.length<=10000000/\
 iK (↑(List.length M):Int)/\
 ∃(y2:List L3),bG M y2/\
 At ah ([an 0 134,an 1 0,ε 2 0 y2.length,ζ γ (↑(y2.length - 0):Int),ζ γ 0],[κ,aw [ε 3 0 az.length],υ 3 1 (ints γ (ae (fun(y3:L3)=>y3.fst) y2)),υ 5 1 (ints ν az)])/\
 ∀(y5:{y4:Nat // y4<=x.length}),(decide ((↑y5.val:Int)<(↑x.length:Int))=true->
 bj (↑y5.val:Int) (x.length - 0)/\
 ∃(y6:List D),(ints γ (ae (fun(y7:L3)=>y7.fst) x))[0+(↑y5.val:Int).toNat]? =some y6/\
 ∃(y8:Int),y6[0]? =some (η (φ γ y8))/\
 ∃(y9:List Int),ints ν (fQ x y5.val)=ints ν y9/\
 (fQ x y5.val).length=y9.length/\
 y9.length<=10000000/\
 iK y8/\
 (∀(cO:List D),bK M [y8]=some cO->
 gQ ([CK.int γ]++([CK.int γ]++[])) cO)/\
 ∃(cC:List Int),ints ν (y9++aY y8)=ints ν cC/\
 (y9++aY y8).length=cC.length/\
 cC.length<=10000000/\
 iK (eu M [y8] 0)/\
 (∀(cD:List D),bK M [y8]=some cD->
 gQ ([CK.int γ]++([CK.int γ]++[])) cD)/\
 ∃(cM:List Int),ints ν (cC++aY (eu M [y8] 0))=ints ν cM/\
 (cC++aY (eu M [y8] 0)).length=cM.length/\
 cM.length<=10000000/\
 iK (eu M [y8] 1)/\
 Nx ah y5 ([an 0 134,an 1 0,ε 2 0 x.length,ζ γ (↑x.length:Int),ζ γ (γ.wrap ((↑y5.val:Int)+1))],[κ,aw [ε 3 0 (cM++aY (eu M [y8] 1)).length],υ 3 1 (ints γ (ae (fun(dC:L3)=>dC.fst) x)),υ 5 1 (ints ν (cM++aY (eu M [y8] 1)))]))/\
 (decide ((↑y5.val:Int)<(↑x.length:Int))=false->
 ∃(cX:List Int),ints ν (fQ x y5.val)=ints ν cX/\
 (fQ x y5.val).length=cX.length/\
 cX.length<=1000000/\
 K (ε 1 0 cX.length) [κ,υ 5 1 (ints ν cX)])
 ):aK Tryz.prog Mp (Og a0 a1 a2 a3 a4 a5 a8 a9 aE aZ a12 aN ο π aW aF aP aG a20 a21 C M x 39) 39 [an 0 134] [aw [δ a0,δ a1,δ a2,δ a3,δ a4,δ a5,bD 128 C,ai M,δ a8,δ a9,δ aE,δ aZ,δ a12,δ aN,δ ο,δ π,δ aW,δ aF,δ aP,δ aG,δ a20,δ a21]] (dx 1 K):=by apply Eq.mp (a:=ar);kernel_rfl
theorem G4 {x:List L3} {i:Nat} (h:i<x.length):x.take (i+1)=x.take i++[g3 x i]:=by rw[j2,sK h];rfl
theorem YB:dP Tryz.prog Gj:=fun f k h=>by
 unfold Gj at h
 split at h
 ·cases h;exact Sd
 ·exact CT _ _ h
theorem YD:dP Tryz.prog Gk:=fun f k h=>by
 unfold Gk at h
 split at h
 ·cases h;exact abP
 ·exact CT _ _ h
theorem WF:b9 Tryz.prog Mp:=dY mixed YD aI 10
theorem Qt {x:List L3} (h:x.Pairwise (fun a b=>a.1<b.1)) {i j:Nat} (hij:i<j) (hj:j<x.length):(g3 x i).1<(g3 x j).1:=by
 have:=List.pairwise_iff_getElem.1 h i j (by omega) hj hij
 have e1:=sK (show i<x.length by omega)
 have e2:=sK hj
 rw[bz (show i<x.length by omega),bc.injEq]at e1
 rw[bz hj,bc.injEq]at e2
 rwa [e1,e2]at this
theorem RF {x:List L3} (h:x.Pairwise (fun a b=>a.1<b.1)) {i:Nat} (hi:i<x.length):kf x (g3 x i).1=some (g3 x i).2:=by
 unfold kf
 rw[Xj hi rfl (fun j hj=>by have:=Qt h hj hi;omega)]
 rfl
theorem FH {a b:List L3}:gJ (a++b)=gJ a++gJ b:=by unfold gJ;rw[jZ,List.flatten_append]
theorem UJ {x:List L3} {i:Nat} (h:i<x.length):fQ x (i+1)=fQ x i++mO (g3 x i):=by
 unfold fQ
 rw[G4 h,FH,<- eH]
 simp [gJ]
theorem tq {x:List L3}:fQ x x.length=be x:=by unfold fQ be;rw[cZ]
theorem UI {x:List L3}:fQ x 0=aY (x.length:Int):=by simp [fQ,gJ]
theorem Nl:∀(x:List L3),(gJ x).length<=27*x.length
 | []=>by simp [gJ]
 |p::l=>by
  have:=Nl l
  have h1:=jO p.1
  have h2:=jO p.2.1
  have h3:=jO p.2.2
  have e:gJ (p::l)=mO p++gJ l:=by simp [gJ]
  rw[e,bo,gF]
  unfold mO
  simp only[bo];omega
theorem uE {x:List L3} (h:x.length<=32) (i:Nat):(fQ x i).length<=1000:=by
 have h1:=Nl (x.take i)
 have h2:=jO (x.length:Int)
 rw[dc]at h1
 unfold fQ
 rw[bo];omega
theorem bG.ok {M:ML} {x:List L3} (h:bG M x):fa x:=⟨h.inc,h.rg,h.len⟩
theorem Si:aR Tryz.prog 39 Ar:=lh WF mixed (fun args kb K h=>by
 unfold Ar at h;split at h<;>try exact h.elim
 ·rename_i a0 a1 a2 a3 a4 a5 C M a8 a9 aE aZ a12 aN ο π aW aF aP aG a20 a21
  obtain⟨x,ht,h⟩:=h
  have hl:=ht.len
  have ZG:=(KG ht).2.2
  refine⟨Og a0 a1 a2 a3 a4 a5 a8 a9 aE aZ a12 aN ο π aW aF aP aG a20 a21 C M x 39,ahH _ _ _ _ _ _ _ _ _ _ _ _ _ _ _ _ _ _ _ _ _ M x K ⟨[],rfl,rfl,by simp,⟨by omega⟩,x,ht,?_,?_⟩⟩
  ·rw[ZG,ju,<- UI]
   exact At.mk' ⟨0,bt _⟩ rfl
  rintro⟨i,hi⟩
  dsimp only
  have hb:=uE hl i
  simp only[decide_eq_true_eq,decide_eq_false_iff_not]
  refine⟨fun hc=>?_,fun hc=>?_⟩
  ·have ma:i<x.length:=by omega
   have hr:=ht.rg _ (tU ma)
   have n1:=jO (g3 x i).1
   have n2:=jO (g3 x i).2.1
   have n3:=jO (g3 x i).2.2
   obtain⟨t3,t4⟩:=(KF ht (g3 x i).1).2 _ (RF ht.inc ma)
   have hk:(x.map (·.1))[i]? =some (g3 x i).1:=by rw[fH,sK ma];rfl
   refine⟨by unfold bj;omega,[η (.int γ (g3 x i).1)],by rw[cQ,dD,mb,hk];rfl,_,rfl,_,rfl,rfl,by omega,⟨by omega⟩,AW ht _,_,rfl,rfl,by rw[bo];omega,⟨by rw[t3];omega⟩,AW ht _,_,rfl,rfl,by rw[t3];simp only[bo];omega,⟨by rw[t4];omega⟩,?_⟩
   have e1:γ.wrap ((i:Int)+1)=((i+1:Nat):Int):=by rw[bS (by omega) (by omega)];rfl
   have e2:fQ x i++aY (g3 x i).1++aY (g3 x i).2.1++aY (g3 x i).2.2=fQ x (i+1):=by
    rw[UJ ma];unfold mO;simp only[eH]
   rw[t3,t4,e1,e2]
   exact Nx.mk' (⟨i+1,by omega⟩:{i:Nat // i<=x.length}) rfl (by show x.length - (i+1)<x.length - i;omega)
  ·have:i=x.length:=by omega
   subst this
   refine⟨_,rfl,rfl,by omega,?_⟩
   rw[tq]
   exact h)
def ia (l:List Int) (p:Nat×Int) (most:Int):Nat×Int:=(p.1+(cz (l.drop p.1) p.2 most).2.1,(cz (l.drop p.1) p.2 most).2.2)
def jz (l:List Int) (p:Nat×Int) (most:Int):Int:=(cz (l.drop p.1) p.2 most).1
def s1 (b:List Int) (p:Nat×Int):Nat×Int:=ia b p 255
def s2 (b:List Int) (p:Nat×Int):Nat×Int:=ia b (s1 b p) 1099511627776
def s3 (b:List Int) (p:Nat×Int):Nat×Int:=ia b (s2 b p) 63
def v3 (b:List Int) (p:Nat×Int):L3:=(jz b p 255,jz b (s1 b p) 1099511627776,jz b (s2 b p) 63)
def bE (b:List Int):Nat->(Nat×Int)×List L3
 | 0=>(ia b (0,0) 32,[])
 |i+1=>(s3 b (bE b i).1,(bE b i).2++[v3 b (bE b i).1])
def lc (b:List Int):Nat:=(jz b (0,0) 32).toNat
def ni (x:List L3):Int:=match x.getLast? with | some p=>p.1 | none=>-1
structure D6 (b:List Int) (i:Nat) (M:ML):Prop where
 i2:i<=lc b
 tab:bG M (bE b i).2
 pos:(bE b i).1.1<=b.length
abbrev yn (b:List Int):LI where
 α:={p:Nat×ML // D6 b p.1 p.2}
 live:=[2,4,5,6,13,14]
 dV:=[.oK 2 0 [γ] false true 2]
 st p:=([an 0 0,an 1 0,.int γ (ni (bE b p.1.1).2),an 2 0,.int γ (lc b:Int),.int γ (p.1.1:Int)],[aw [δ (.map none)],aw [.sl 3 (bE b p.1.1).1.1 b.length,.int γ (bE b p.1.1).1.2],aw [ai p.1.2],υ 5 1 (ints ν b)])
 μ p:=lc b - p.1.1
def QL (b:List Int):FuncId->Nat->Option LI
 | 34,4=>some (yn b)
 |_,_=>none
def zV:aD:=fun args kb K=>match args,kb with
 | [aH (.sl 1 B)],[]=>∃ b:List Int,B=ints ν b/\bm b/\b.length<=140737488355328/\((¬ ∃ x,fa x/\b=be x)->K (.χ [.agg [δ (.map none)],ξ false]) [])/\
  ∀ x M,bG M x->b=be x->K (.χ [.agg [ai M],ξ true]) []
 |_,_=>False
noncomputable def Mo:bN:=dU Tryz.prog Gj aI 10
theorem ag2 (b:List Int) (K:V->KB->Prop) (ar:
 let bC:=[δ (kr none)];let aL:=K (av [fw bC,ξ false]) [];(ints ν b).length<=140737488355328/\
 ∃(y1:List Int),let cf:=(cz (ax 0 y1) 0 32);ints ν b=ints ν y1/\
 (ints ν b).length=y1.length/\
 0<=y1.length/\
 (∀(y2:Int),dW y2 y1->
 0<=y2/\
 y2<256)/\
 y1.length<=140737488355328/\
 At (yn b) ([an 0 0,an 1 0,ζ γ (-1),an 2 0,ζ γ cf.fst,ζ γ 0],[aw bC,aw [ε 3 (0+cf.snd.fst) y1.length,ζ γ cf.snd.snd],aw [V.imp [γ] false true 2 []],υ 5 1 (ints ν y1)])/\
 ∀(y4:{y3:Nat×ML // D6 b y3.fst y3.snd}),let cK:=(↑y4.val.fst:Int)<(↑(lc b):Int);let bV:=[V.imp [γ] false true 2 y4.val.snd];(decide (cK)=true->
 ∃(y5:List Int),let ah:=(cz (ax (bE b y4.val.fst).fst.fst y5) (bE b y4.val.fst).fst.snd 255);let bW:=ah.fst<=ni (bE b y4.val.fst).snd;let aJ:=[an 0 0,an 1 0,ζ γ ah.fst,an 2 0,ζ γ (↑(lc b):Int),ζ γ (γ.wrap ((↑y4.val.fst:Int)+1))];ints ν b=ints ν y5/\
 b.length=y5.length/\
 (bE b y4.val.fst).fst.fst<=y5.length/\
 (∀(y6:Int),dW y6 y5->
 0<=y6/\
 y6<256)/\
 y5.length<=140737488355328/\
 ∃(y7:List Int),let κ:=(cz (ax ((bE b y4.val.fst).fst.fst+ah.snd.fst) y7) ah.snd.snd 1099511627776);ints ν y5=ints ν y7/\
 y5.length=y7.length/\
 (bE b y4.val.fst).fst.fst+ah.snd.fst<=y7.length/\
 (∀(y8:Int),dW y8 y7->
 0<=y8/\
 y8<256)/\
 y7.length<=140737488355328/\
 ∃(y9:List Int),let az:=(cz (ax ((bE b y4.val.fst).fst.fst+ah.snd.fst+κ.snd.fst) y9) κ.snd.snd 63);let aV:=aw [ε 3 ((bE b y4.val.fst).fst.fst+ah.snd.fst+κ.snd.fst+az.snd.fst) y9.length,ζ γ az.snd.snd];ints ν y7=ints ν y9/\
 y7.length=y9.length/\
 (bE b y4.val.fst).fst.fst+ah.snd.fst+κ.snd.fst<=y9.length/\
 (∀(cO:Int),dW cO y9->
 0<=cO/\
 cO<256)/\
 y9.length<=140737488355328/\
 ((az.snd.snd != 0)=true->
 aL)/\
 ((az.snd.snd != 0)=false->
 (decide (bW)=true->
 aL)/\
 (decide (bW)=false->
 ∃(cC:List L3),let cw:=(cW cC ah.fst κ.fst az.fst != 0);bG y4.val.snd cC/\
 (mr (cW cC ah.fst κ.fst az.fst)->
 (cw=true->
 aL)/\
 (cw=false->
 Nx (yn b) y4 (aJ,[aw bC,aV,aw bV,υ 5 1 (ints ν y9)])))/\
 (mj (cW cC ah.fst κ.fst az.fst)->
 (false=true->
 aL)/\
 (false=false->
 Nx (yn b) y4 (aJ,[aw bC,aV,aw [V.imp [γ] false true 2 (bL y4.val.snd [ah.fst] [dn γ κ.fst,dn γ az.fst])],υ 5 1 (ints ν y9)]))))))/\
 (decide (cK)=false->
 ∃(cD:List Int),let bp:=(iS (ax (bE b y4.val.fst).fst.fst cD) (bE b y4.val.fst).fst.snd != 0);ints ν b=ints ν cD/\
 b.length=cD.length/\
 (bp=true->
 aL)/\
 (bp=false->
 K (av [fw bV,ξ true]) []))
 ):aK Tryz.prog Mo (QL b 34) 34 [aH (.sl 1 (ints ν b))] [] (dx 0 K):=by apply Eq.mp (a:=ar);kernel_rfl
theorem WE:b9 Tryz.prog Mo:=dY mixed YB aI 10
theorem Rf:∀{M:ML} {k:List Int} {v:List D},(M.map (·.1)).Nodup->(bL M k v).Perm ((k,v)::M.filter (fun e=>decide (e.1≠k)))
 | [],k,v,_=>by simp [bL]
 | (a,c)::M,k,v,hn=>by
  simp only[lY,List.nodup_cons]at hn
  simp only[bL]
  by_cases h:k=a
  ·subst h
   rw[if_pos rfl]
   have:M.filter (fun e=>decide (e.1≠k))=M:=by
    rw[List.filter_eq_self]
    intro e he
    simp only[decide_eq_true_eq]
    exact fun e1=>hn.1 (ef.2 ⟨e,he,e1⟩)
   rw[List.filter_cons_of_neg (by simp),this]
  ·rw[if_neg h,List.filter_cons_of_pos (by simpa using Ne.symm h)]
   exact((Rf hn.2).cons (a,c)).trans (List.Perm.swap _ _ _)
theorem Tb {x:List L3} {c n e:Int}:(oS x c n e).Perm ((c,n,e)::x.filter (fun p=>decide (p.1≠c))):=by
 have h1:=List.filter_append_perm (fun p:L3=>decide (p.1<c)) (x.filter (fun p=>decide (p.1≠c)))
 have e1:(x.filter (fun p=>decide (p.1≠c))).filter (fun p:L3=>decide (p.1<c))=x.filter (fun p=>decide (p.1<c)):=by
  rw[List.filter_filter]
  apply List.filter_congr
  intro p _
  by_cases h:p.1<c
  ·have:p.1≠c:=by omega
   simp [h,this]
  ·simp [h]
 have e2:(x.filter (fun p=>decide (p.1≠c))).filter (fun p:L3=> !decide (p.1<c))=x.filter (fun p=>decide (c<p.1)):=by
  rw[List.filter_filter]
  apply List.filter_congr
  intro p _
  by_cases h:c<p.1
  ·have h1:p.1≠c:=by omega
   have h2:¬ p.1<c:=by omega
   simp [h,h1,h2]
  ·by_cases h2:p.1=c
   ·simp [h2]
   ·have h3:p.1<c:=by omega
    simp [h,h3]
 rw[e1,e2]at h1
 unfold oS
 exact(List.perm_middle).trans (h1.cons _)
theorem adM {x:List L3} {c n e:Int} (h:cW x c n e=0):(0<=c/\c<=255/\1<=n/\n<=1099511627776/\0<=e/\e<=63)/\(kf x c=none->x.length<32):=by
 unfold cW at h
 split at h
 ·cases h
 ·rename_i hg
  refine⟨by omega,fun hn=>?_⟩
  rw[hn]at h
  simp only at h
  split at h
  ·cases h
  ·omega
theorem RH {x:List L3} {c:Int} (h:∀ p∈x,p.1≠c):kf x c=none:=by
 unfold kf
 rw[Xi (fun j hj=>h _ (tU hj))];rfl
theorem Dy {M:ML} {x:List L3} {c n e:Int} (h:bG M x) (h0:cW x c n e=0):bG (bL M [c] [dn γ n,dn γ e]) (oS x c n e):=by
 obtain⟨hr,hn⟩:=adM h0
 have hp:(oS x c n e).Perm ((c,n,e)::x.filter (fun p=>decide (p.1≠c))):=Tb
 refine⟨?_,?_,fun p hpm=>?_,?_⟩
 ·have h1:=Rf (M:=M) (k:=[c]) (v:=[dn γ n,dn γ e]) (KH h)
  have h2:(M.filter (fun q=>decide (q.1≠[c]))).Perm ((x.map pf).filter (fun q=>decide (q.1≠[c]))):=h.perm.filter _
  have h3:(x.map pf).filter (fun q=>decide (q.1≠[c]))=(x.filter (fun p=>decide (p.1≠c))).map pf:=by
   rw[List.filter_map]
   congr 1
   apply List.filter_congr
   intro p _
   simp [pf]
  rw[h3]at h2
  have h4:=(hp.map pf).symm
  exact(h1.trans (h2.cons _)).trans h4
 ·unfold oS
  refine List.pairwise_append.2 ⟨h.inc.filter _,List.pairwise_cons.2 ⟨fun q hq=>?_,h.inc.filter _⟩,fun a ha b hb=>?_⟩
  ·have:=(lZ.1 hq).2
   simp only[decide_eq_true_eq]at this
   exact this
  ·have h1:=(lZ.1 ha).2
   simp only[decide_eq_true_eq]at h1
   rcases eI.1 hb with rfl | hb
   ·exact h1
   ·have h2:=(lZ.1 hb).2
    simp only[decide_eq_true_eq]at h2
    omega
 ·rcases eI.1 (hp.mem_iff.1 hpm)with rfl | h1
  ·exact hr
  ·exact h.rg p (lZ.1 h1).1
 ·rw[hp.length_eq,gF]
  have h1:=List.length_filter_le (fun p:L3=>decide (p.1≠c)) x
  cases hq:kf x c with
  |none=>have:=hn hq;omega
  |some q=>
   have h2:∃ p∈x,p.1=c:=by
    unfold kf at hq
    cases hc:oD x c with
    |none=>rw[hc]at hq;cases hq
    |some i=>obtain⟨k1,k2,_⟩:=xB hc;exact⟨_,tU k1,k2⟩
   obtain⟨p,hpx,hpc⟩:=h2
   have h3:(x.filter (fun p:L3=>decide (p.1≠c))).length<x.length:=List.length_filter_lt_length_iff_exists.2 ⟨p,hpx,by simp [hpc]⟩
   have:=h.len
   omega
theorem adN {x:List L3} {c n e:Int} (h:∀ p∈x,p.1<c):oS x c n e=x++[(c,n,e)]:=by
 unfold oS
 have e1:x.filter (fun p=>decide (p.1<c))=x:=by
  rw[List.filter_eq_self];intro p hp;simpa using h p hp
 have e2:x.filter (fun p=>decide (c<p.1))=[]:=by
  rw[List.filter_eq_nil_iff];intro p hp;have:=h p hp;simp;omega
 rw[e1,e2]
theorem aaQ {x:List L3} {c:Int} (hi:x.Pairwise (fun a b=>a.1<b.1)) (h:ni x<c):∀ p∈x,p.1<c:=fun p hp=>by
 unfold ni at h
 cases hl:x.getLast? with
 |none=>rw[List.getLast?_eq_none_iff]at hl;subst hl;cases hp
 |some q=>
  rw[hl]at h
  simp only at h
  obtain⟨y,rfl⟩:=List.getLast?_eq_some_iff.1 hl
  rcases dQ.1 hp with h1 | h1
  ·have:=(List.pairwise_append.1 hi).2.2 p h1 q (dm.2 rfl);omega
  ·rw[dm]at h1;subst h1;exact h
theorem aaR {x:List L3} {c:Int} (h0:0<=c) (h:∀ p∈x,p.1<c):ni x<c:=by
 unfold ni
 cases hl:x.getLast? with
 |none=>simp only;omega
 |some q=>exact h q (List.mem_of_getLast? hl)
theorem aaS {x:List L3} {p:L3}:ni (x++[p])=p.1:=by unfold ni;simp
theorem yT {l:List Int} {most:Int} (h0:0<=most) (e:Int):(cz l e most).1<=most/\0<=(cz l e most).1:=by
 unfold cz
 split
 ·split
  ·split
   ·exact⟨h0,dy _⟩
   ·exact⟨by simp only;omega,by simp only;omega⟩
  ·exact⟨h0,dy _⟩
  ·exact⟨h0,dy _⟩
 ·exact⟨h0,dy _⟩
theorem ad0 {b:List Int} {v:Int} {u:Nat} {most:Int} (hb:bm b) (h:cz b 0 most=(v,u,0)):b=aY v++b.drop u/\u=(aY v).length/\0<=v/\v<=9223372036854775807:=by
 unfold cz at h
 rw[if_pos rfl]at h
 split at h
 ·rename_i w n hn
  split at h
  ·simp at h
  ·simp only[Prod.mk.injEq,and_true]at h
   obtain⟨rfl,rfl⟩:=h
   obtain⟨h1,h2,r,h3⟩:=CG hb hn
   refine⟨?_,h2,by omega,h1⟩
   have:b.drop n=r:=by rw[h3,h2,List.drop_left]
   rw[this];exact h3
 ·simp at h
 ·simp at h
theorem CX {l:List Int} {e most:Int} (h:e≠0):cz l e most=(0,0,e):=by unfold cz;rw[if_neg h]
theorem v6 {b:List Int} {p:Nat×Int} {m:Int} (h:(ia b p m).2=0):p.2=0:=Classical.byContradiction fun f=>by
 unfold ia at h
 rw[CX f]at h
 exact f h
theorem uv {b:List Int} (hb:bm b) {p:Nat×Int} (h:p.1<=b.length) (m:Int):(ia b p m).1<=b.length:=by
 have:=(yU (pZ hb p.1) p.2 m).2.2
 rw[fZ]at this
 unfold ia;simp only;omega
theorem yG {b:List Int} (hb:bm b) {p:Nat×Int} {m:Int} (h:(ia b p m).2=0):b.drop p.1=aY (jz b p m)++b.drop (ia b p m).1:=by
 have hp:=v6 h
 unfold ia at h
 simp only at h
 rw[hp]at h
 have:=ad0 (b:=b.drop p.1) (v:=(cz (b.drop p.1) 0 m).1) (u:=(cz (b.drop p.1) 0 m).2.1) (most:=m) (pZ hb _) (Prod.ext rfl (Prod.ext rfl h))
 unfold jz ia
 simp only
 rw[hp,<- List.drop_drop]
 exact this.1
theorem yF {pre rest:List Int} {v m:Int} (h0:0<=v) (h:v<=9223372036854775807) (hm:v<=m):ia (pre++(aY v++rest)) (pre.length,0) m=((pre++aY v).length,0)/\jz (pre++(aY v++rest)) (pre.length,0) m=v:=by
 unfold ia jz
 simp only
 rw[List.drop_left,JL h0 h hm,bo]
 exact⟨rfl,rfl⟩
theorem QJ {b:List Int}:jz b (0,0) 32=(lc b:Int)/\lc b<=32:=by
 have:=yT (l:=b.drop 0) (most:=32) (by omega) 0
 unfold lc jz
 simp only at this ⊢
 omega
theorem B9 {b:List Int} (hb:bm b):∀ i,(bE b i).1.1<=b.length/\(bE b i).2.length=i
 | 0=>⟨uv hb (bt _) _,rfl⟩
 |i+1=>by
  obtain⟨h1,h2⟩:=B9 hb i
  exact⟨uv hb (uv hb (uv hb h1 _) _) _,by simp only[bE,bo,iL,h2]⟩
theorem QF {b:List Int} (hb:bm b):∀ i,(bE b i).1.2=0->b=aY (lc b:Int)++(gJ (bE b i).2++b.drop (bE b i).1.1)
 | 0,h=>by
  have:=yG (p:=(0,0)) (m:=32) hb h
  rw[QJ.1]at this
  exact this
 |i+1,h=>by
  have h3:(s3 b (bE b i).1).2=0:=h
  have h2:(s2 b (bE b i).1).2=0:=v6 h3
  have h1:(s1 b (bE b i).1).2=0:=v6 h2
  have h0:(bE b i).1.2=0:=v6 h1
  have ih:=QF hb i h0
  have a1:=yG (p:=(bE b i).1) (m:=255) hb h1
  have a2:=yG (p:=s1 b (bE b i).1) (m:=1099511627776) hb h2
  have a3:=yG (p:=s2 b (bE b i).1) (m:=63) hb h3
  have e:b.drop (bE b i).1.1=mO (v3 b (bE b i).1)++b.drop (s3 b (bE b i).1).1:=by
   rw[a1]
   show _++b.drop (s1 b (bE b i).1).1=_
   rw[a2]
   show _++(_++b.drop (s2 b (bE b i).1).1)=_
   rw[a3]
   unfold mO v3
   simp only[eH]
   rfl
  rw[e]at ih
  show b=aY (lc b:Int)++(gJ ((bE b i).2++[v3 b (bE b i).1])++b.drop (s3 b (bE b i).1).1)
  rw[FH,eH]
  have e1:gJ [v3 b (bE b i).1]=mO (v3 b (bE b i).1):=by simp [gJ]
  rw[e1]
  exact ih
theorem Zh {x:List L3} {i:Nat} (h:i<x.length):x.drop i=g3 x i::x.drop (i+1):=by
 have h1:=List.drop_eq_getElem_cons h
 have h2:=sK h
 rw[bz h,bc.injEq]at h2
 rw[h1,h2]
theorem B_ {x:List L3} (hx:fa x):lc (be x)=x.length/\∀ i,i<=x.length->bE (be x) i=(((fQ x i).length,0),x.take i):=by
 have hl:=hx.len
 have e0:=yF (pre:=[]) (rest:=gJ x) (v:=(x.length:Int)) (m:=32) (by omega) (by omega) (by omega)
 simp only[ju,ko]at e0
 have hc:lc (be x)=x.length:=by
  unfold lc be
  rw[e0.2];exact dD _
 refine⟨hc,fun i=>?_⟩
 induction i with
 |zero=>
  intro _
  show(ia (be x) (0,0) 32,[])=_
  unfold be
  rw[e0.1,UI];rfl
 |succ i ih=>
  intro hi
  have ih:=ih (by omega)
  have hr:=hx.rg _ (tU (show i<x.length by omega))
  have Gz:be x=fQ x i++(mO (g3 x i)++gJ (x.drop (i+1))):=by
   have e1:x=x.take i++g3 x i::x.drop (i+1):=by rw[<- Zh (by omega),List.take_append_drop]
   have e2:gJ x=gJ (x.take i)++(mO (g3 x i)++gJ (x.drop (i+1))):=by
    conv=>lhs;rw[e1]
    rw[FH];simp [gJ]
   unfold be fQ
   rw[e2,eH]
  have a1:=yF (pre:=fQ x i) (rest:=aY (g3 x i).2.1++aY (g3 x i).2.2++gJ (x.drop (i+1))) (v:=(g3 x i).1) (m:=255) (by omega) (by omega) (by omega)
  have a2:=yF (pre:=fQ x i++aY (g3 x i).1) (rest:=aY (g3 x i).2.2++gJ (x.drop (i+1))) (v:=(g3 x i).2.1) (m:=1099511627776) (by omega) (by omega) (by omega)
  have a3:=yF (pre:=fQ x i++aY (g3 x i).1++aY (g3 x i).2.1) (rest:=gJ (x.drop (i+1))) (v:=(g3 x i).2.2) (m:=63) (by omega) (by omega) (by omega)
  have f1:fQ x i++(aY (g3 x i).1++(aY (g3 x i).2.1++aY (g3 x i).2.2++gJ (x.drop (i+1))))=be x:=by rw[Gz];unfold mO;simp only[eH]
  have f2:fQ x i++aY (g3 x i).1++(aY (g3 x i).2.1++(aY (g3 x i).2.2++gJ (x.drop (i+1))))=be x:=by rw[Gz];unfold mO;simp only[eH]
  have f3:fQ x i++aY (g3 x i).1++aY (g3 x i).2.1++(aY (g3 x i).2.2++gJ (x.drop (i+1)))=be x:=by rw[Gz];unfold mO;simp only[eH]
  rw[f1]at a1
  rw[f2]at a2
  rw[f3]at a3
  have b1:s1 (be x) ((fQ x i).length,0)=((fQ x i++aY (g3 x i).1).length,0):=a1.1
  have b2:s2 (be x) ((fQ x i).length,0)=((fQ x i++aY (g3 x i).1++aY (g3 x i).2.1).length,0):=by unfold s2;rw[b1];exact a2.1
  have b3:s3 (be x) ((fQ x i).length,0)=((fQ x (i+1)).length,0):=by
   unfold s3
   rw[b2,a3.1,UJ (by omega)]
   unfold mO
   simp only[eH]
  have bv:v3 (be x) ((fQ x i).length,0)=g3 x i:=by
   unfold v3
   rw[b1,b2,a1.2,a2.2,a3.2]
  show(s3 (be x) (bE (be x) i).1,(bE (be x) i).2++[v3 (be x) (bE (be x) i).1])=_
  rw[ih]
  simp only
  rw[b3,bv,<- G4 (by omega)]
theorem abv {x:List L3} (hx:fa x) {i:Nat} (hi:i<lc (be x)):(s3 (be x) (bE (be x) i).1).2=0/\ni (bE (be x) i).2<(v3 (be x) (bE (be x) i).1).1/\
  cW (bE (be x) i).2 (v3 (be x) (bE (be x) i).1).1 (v3 (be x) (bE (be x) i).1).2.1 (v3 (be x) (bE (be x) i).1).2.2=0:=by
 obtain⟨h1,h2⟩:=B_ hx
 rw[h1]at hi
 have e1:=h2 (i+1) (by omega)
 have e0:=h2 i (by omega)
 have e2:(s3 (be x) (bE (be x) i).1,(bE (be x) i).2++[v3 (be x) (bE (be x) i).1])=(((fQ x (i+1)).length,(0:Int)),x.take (i+1)):=e1
 rw[Prod.mk.injEq]at e2
 have ev:v3 (be x) (bE (be x) i).1=g3 x i:=by
  have e3:=e2.2
  rw[e0,G4 hi]at e3
  simp only at e3
  have e4:=List.append_cancel_left e3
  simp only[List.cons.injEq,and_true]at e4
  rw[e0];exact e4
 have hr:=hx.rg _ (tU hi)
 have hlt:∀ p∈x.take i,p.1<(g3 x i).1:=fun p hp=>by
  obtain⟨j,hj,rfl⟩:=List.getElem_of_mem hp
  rw[dc]at hj
  have e5:=sK (show j<x.length by omega)
  rw[bz (show j<x.length by omega),bc.injEq]at e5
  rw[List.getElem_take,e5]
  exact Qt hx.inc (by omega) hi
 refine⟨by rw[e2.1],?_,?_⟩
 ·rw[ev,e0]
  exact aaR hr.1 hlt
 ·rw[ev,e0]
  simp only
  unfold cW
  rw[if_neg (by omega),RH (fun p hp=>by have:=hlt p hp;omega)]
  simp only
  rw[if_neg (by rw[dc];have:=hx.len;omega)]
theorem M8 {a:Int} (h:(a != 0)=true):a≠0:=by simpa using h
theorem M7 {a:Int} (h:(a != 0)=false):a=0:=by simpa using h
theorem Tj {l:List Int} {e:Int} (h:iS l e=0):e=0/\l=[]:=by
 unfold iS at h
 split at h
 ·omega
 ·rename_i hh
  refine⟨h,?_⟩
  by_cases hd:l=[]
  ·exact hd
  ·exact absurd ⟨hd,h⟩ hh
theorem Y4 {x:List L3} (hx:fa x):iS ((be x).drop (bE (be x) (lc (be x))).1.1) (bE (be x) (lc (be x))).1.2=0:=by
 obtain⟨h1,h2⟩:=B_ hx
 rw[h1,h2 _ (au _),tq]
 show iS ((be x).drop (be x).length) 0=0
 rw[List.drop_length];rfl
theorem Y3 {b:List Int} (hb:bm b) (h:iS (b.drop (bE b (lc b)).1.1) (bE b (lc b)).1.2=0):b=be (bE b (lc b)).2:=by
 obtain⟨h1,h2⟩:=Tj h
 have:=QF hb _ h1
 rw[h2,fu]at this
 unfold be
 rw[(B9 hb (lc b)).2]
 exact this
theorem R9:aR Tryz.prog 34 zV:=lh WE mixed (fun args kb K h=>by
 unfold zV at h;split at h<;>try exact h.elim
 obtain⟨b,rfl,hb,hl,hno,hyes⟩:=h
 obtain⟨c1,c2⟩:=QJ (b:=b)
 have bad:∀ i,i<lc b->¬ ((s3 b (bE b i).1).2=0/\ni (bE b i).2<(v3 b (bE b i).1).1/\cW (bE b i).2 (v3 b (bE b i).1).1 (v3 b (bE b i).1).2.1 (v3 b (bE b i).1).2.2=0)->K (.χ [.agg [δ (.map none)],ξ false]) []:=fun i hi hn=>hno (by
  rintro⟨x,hx,rfl⟩
  exact hn (abv hx hi))
 have Xr:iS (b.drop (bE b (lc b)).1.1) (bE b (lc b)).1.2≠0->K (.χ [.agg [δ (.map none)],ξ false]) []:=fun hn=>hno (by
  rintro⟨x,hx,rfl⟩
  exact hn (Y4 hx))
 refine⟨QL b 34,ag2 b K ⟨by rw[bh];omega,b,rfl,bh,bt _,hb,by omega,?_,?_⟩⟩
 ·have e1:(cz (ax 0 b) 0 32).1=(lc b:Int):=c1
  rw[e1]
  exact At.mk' ⟨(0,[]),bt _,UL,(B9 hb 0).1⟩ rfl
 ·rintro⟨⟨i,M⟩,i2,ht,hpos⟩
  dsimp only at i2 ht hpos ⊢
  refine⟨fun hc=>?_,fun hc=>?_⟩
  ·have hi:i<lc b:=by have:(i:Int)<(lc b:Int):=of_decide_eq_true hc;omega
   have p1:=uv hb hpos 255
   have p2:=uv hb p1 1099511627776
   refine⟨b,rfl,rfl,hpos,hb,by omega,b,rfl,rfl,p1,hb,by omega,b,rfl,rfl,p2,hb,by omega,fun h1=>?_,fun h1=>⟨fun h2=>?_,fun h2=>⟨(bE b i).2,ht,fun h3=>⟨fun h4=>?_,fun h4=>absurd (M7 h4) h3.h⟩,fun h3=>⟨fun f=>(by cases f),fun _=>?_⟩⟩⟩⟩
   ·have he:(s3 b (bE b i).1).2≠0:=M8 h1
    exact bad i hi fun w=>he w.1
   ·have gM:(v3 b (bE b i).1).1<=ni (bE b i).2:=of_decide_eq_true h2
    exact bad i hi fun w=>by have:=w.2.1;omega
   ·exact bad i hi fun w=>h3.h w.2.2
   ·have gM:¬ (v3 b (bE b i).1).1<=ni (bE b i).2:=of_decide_eq_false h2
    have h4:bG (bL M [(v3 b (bE b i).1).1] [dn γ (v3 b (bE b i).1).2.1,dn γ (v3 b (bE b i).1).2.2]) (oS (bE b i).2 (v3 b (bE b i).1).1 (v3 b (bE b i).1).2.1 (v3 b (bE b i).1).2.2):=Dy ht h3.h
    rw[adN (aaQ ht.inc (Int.not_le.1 gM))]at h4
    have hL:D6 b (i+1) _:=⟨hi,h4,(B9 hb (i+1)).1⟩
    have aai:(v3 b (bE b i).1).1=ni (bE b (i+1)).2:=aaS.symm
    have e1:γ.wrap ((i:Int)+1)=((i+1:Nat):Int):=by rw[bS (by omega) (by omega)];rfl
    have key:∀(c' w':Int),c'=ni (bE b (i+1)).2->w'=((i+1:Nat):Int)->(([an 0 0,an 1 0,.int γ c',an 2 0,.int γ (lc b:Int),.int γ w'],[aw [δ (.map none)],aw [.sl 3 (s3 b (bE b i).1).1 b.length,.int γ (s3 b (bE b i).1).2],aw [ai (bL M [(v3 b (bE b i).1).1] [dn γ (v3 b (bE b i).1).2.1,dn γ (v3 b (bE b i).1).2.2])],υ 5 1 (ints ν b)]):List V×KB)=(yn b).st ⟨(i+1,_),hL⟩:=by
     rintro _ _ rfl rfl;rfl
    exact Nx.mk' ⟨(i+1,_),hL⟩ (key _ _ aai e1) (by show lc b - (i+1)<lc b - i;omega)
  ·have hi:i=lc b:=by
    have:¬ (i:Int)<(lc b:Int):=of_decide_eq_false hc
    omega
   subst hi
   exact⟨b,rfl,rfl,fun h1=>Xr (M8 h1),fun h1=>hyes _ M ht (Y3 hb (M7 h1))⟩)
noncomputable def XB:bN:=dU Tryz.prog AT aI 10
def qo (k:Nat):Prop:=k<=8
abbrev vj (a0 a1 a2 a3 a4 a5 a7 a8 a9 aE aZ a12 aN ο π aW aF aP aG a20 a21:Value) (C:List D) (o:Nat->List (List D)):LI where
 α:={k:Nat // qo k}
 live:=[0,3,9,10]
 dV:=[.slot 1 5 1]
 st k:=([an 0 6,.sl 1 0 (16*k.1),.agg [bD 128 C],.int γ (k.1:Int)],[aw [δ a0,δ a1,δ a2,δ a3,δ a4,δ a5,bD 128 C,δ a7,δ a8,δ a9,δ aE,δ aZ,δ a12,δ aN,δ ο,δ π,δ aW,δ aF,δ aP,δ aG,δ a20,δ a21],υ 5 1 (o k.1)])
 μ k:=8 - k.1
def MO (a0 a1 a2 a3 a4 a5 a7 a8 a9 aE aZ a12 aN ο π aW aF aP aG a20 a21:Value) (C:List D) (o:Nat->List (List D)):FuncId->Nat->Option LI
 | 68,3=>some (vj a0 a1 a2 a3 a4 a5 a7 a8 a9 aE aZ a12 aN ο π aW aF aP aG a20 a21 C o)
 |_,_=>none
abbrev vo (m:List Int) (o:Nat->List D) (z:List D):LI where
 α:={k:Nat // qo k}
 live:=[2,4,6,21]
 st k:=([an 0 0,.sl 1 0 m.length,an 2 0,.int γ (k.1:Int)],[aw [bD 128 z],υ 5 1 (ints ν m),aw [bD 128 (o k.1)]])
 μ k:=8 - k.1
def Fx (m:List Int) (o:Nat->List D) (z:List D):FuncId->Nat->Option LI
 | 33,6=>some (vo m o z)
 |_,_=>none
theorem agj (a0 a1 a2 a3 a4 a5 a7 a8 a9 aE aZ a12 aN ο π aW aF aP aG a20 a21:Value) (c:List D) (A:List (List D)) (i:Int) (K:V->KB->Prop) (ar:
 let ah:=(aA 16 (ax 0 A.flatten));let κ:=K (ζ γ 1) [aw [δ a0,δ a1,δ a2,δ a3,δ a4,δ a5,bD 128 c,δ a7,δ a8,δ a9,δ aE,δ aZ,δ a12,δ aN,δ ο,δ π,δ aW,δ aF,δ aP,δ aG,δ a20,δ a21]];(decide (i ≥ 0)=true->
 ((!decide (i<8))=true->
 κ)/\
 ((!decide (i<8))=false->
 (((↑A.length:Int) != 16)=true->
 κ)/\
 (((↑A.length:Int) != 16)=false->
 16<=A.length/\
 16<=A.flatten.length/\
 bj i 8/\
 i.toNat*16+16<=128/\
 K (ζ γ 0) [aw [δ a0,δ a1,δ a2,δ a3,δ a4,δ a5,bD 128 (((aA (i.toNat*16) c++mw ah [])++(ax (i.toNat*16+(mw ah []).length) c))),δ a7,δ a8,δ a9,δ aE,δ aZ,δ a12,δ aN,δ ο,δ π,δ aW,δ aF,δ aP,δ aG,δ a20,δ a21]])))/\
 (decide (i ≥ 0)=false->
 κ)
 ):aK Tryz.prog XB (aI 84) 84 [an 0 6,.int γ i,aH (.sl 1 A)] [aw [δ a0,δ a1,δ a2,δ a3,δ a4,δ a5,bD 128 c,δ a7,δ a8,δ a9,δ aE,δ aZ,δ a12,δ aN,δ ο,δ π,δ aW,δ aF,δ aP,δ aG,δ a20,δ a21]] K:=by apply Eq.mp (a:=ar);kernel_rfl
theorem agi (a0 a1 a2 a3 a4 a5 a7 a8 a9 aE aZ a12 aN ο π aW aF aP aG a20 a21:Value) (c:List D) (i:Int) (K:V->KB->Prop) (ar:
 let ah:=(aA 16 (ax (i.toNat*16+0) c));let κ:=aw [δ a0,δ a1,δ a2,δ a3,δ a4,δ a5,bD 128 c,δ a7,δ a8,δ a9,δ aE,δ aZ,δ a12,δ aN,δ ο,δ π,δ aW,δ aF,δ aP,δ aG,δ a20,δ a21];let az:=K (av [δ (Value.slice none 0 0),ζ γ 1]) [κ];(decide (i ≥ 0)=true->
 ((!decide (i<8))=true->
 az)/\
 ((!decide (i<8))=false->
 bj i 8/\
 True/\
 True/\
 0<=16/\
 16<=16/\
 (i.toNat*16+0+16<=128/\
 True)/\
 (kF ah).length<=140737488355328/\
 (kF ah=[]->
 True/\
 K (av [δ (Value.slice none 0 0),ζ γ 0]) [κ])/\
 o7 (kF ah).flatten/\
 K (av [ε 1 0 (kF ah).length,ζ γ 0]) [κ,υ 5 1 (kF ah)]))/\
 (decide (i ≥ 0)=false->
 az)
 ):aK Tryz.prog XB (aI 86) 86 [an 0 6,.int γ i] [aw [δ a0,δ a1,δ a2,δ a3,δ a4,δ a5,bD 128 c,δ a7,δ a8,δ a9,δ aE,δ aZ,δ a12,δ aN,δ ο,δ π,δ aW,δ aF,δ aP,δ aG,δ a20,δ a21]] K:=by apply Eq.mp (a:=ar);kernel_rfl
theorem ahM (a0 a1 a2 a3 a4 a5 a7 a8 a9 aE aZ a12 aN ο π aW aF aP aG a20 a21:Value) (c:List D) (i:Int) (K:V->KB->Prop) (ar:
 let κ:=K (ζ γ 1) [aw [δ a0,δ a1,δ a2,δ a3,δ a4,δ a5,bD 128 c,δ a7,δ a8,δ a9,δ aE,δ aZ,δ a12,δ aN,δ ο,δ π,δ aW,δ aF,δ aP,δ aG,δ a20,δ a21]];(decide (i ≥ 0)=true->
 ((!decide (i<8))=true->
 κ)/\
 ((!decide (i<8))=false->
 bj i 8/\
 i.toNat*16+16<=128/\
 K (ζ γ 0) [aw [δ a0,δ a1,δ a2,δ a3,δ a4,δ a5,bD 128 (((aA (i.toNat*16) c++(dp 16 (η (φ ν 0))))++(ax (i.toNat*16+16) c))),δ a7,δ a8,δ a9,δ aE,δ aZ,δ a12,δ aN,δ ο,δ π,δ aW,δ aF,δ aP,δ aG,δ a20,δ a21]]))/\
 (decide (i ≥ 0)=false->
 κ)
 ):aK Tryz.prog XB (aI 85) 85 [an 0 6,.int γ i] [aw [δ a0,δ a1,δ a2,δ a3,δ a4,δ a5,bD 128 c,δ a7,δ a8,δ a9,δ aE,δ aZ,δ a12,δ aN,δ ο,δ π,δ aW,δ aF,δ aP,δ aG,δ a20,δ a21]] K:=by apply Eq.mp (a:=ar);kernel_rfl
theorem K3 (a0 a1 a2 a3 a4 a5 a7 a8 a9 aE aZ a12 aN ο π aW aF aP aG a20 a21:Value) (c:List D) (o:Nat->List (List D)) (K:V->KB->Prop) (ar:
 let az:=(vj a0 a1 a2 a3 a4 a5 a7 a8 a9 aE aZ a12 aN ο π aW aF aP aG a20 a21 c o);let κ:=aw [δ a0,δ a1,δ a2,δ a3,δ a4,δ a5,bD 128 c,δ a7,δ a8,δ a9,δ aE,δ aZ,δ a12,δ aN,δ ο,δ π,δ aW,δ aF,δ aP,δ aG,δ a20,δ a21];At az ([an 0 6,ε 1 0 0,fw [bD 128 c],ζ γ 0],[κ,υ 5 1 []])/\
 ∀(y2:{y1:Nat // qo y1}),let ah:=(aA 16 (ax 0 (aA 16 (ax ((↑y2.val:Int).toNat*16) c))));(decide ((↑y2.val:Int)<8)=true->
 bj (↑y2.val:Int) 8/\
 (↑y2.val:Int).toNat*16+16<=c.length/\
 True/\
 True/\
 0<=16/\
 16<=16/\
 16<=16/\
 16*y2.val<=(o y2.val).length/\
 (16*y2.val+(kF ah).length)*1<=140737488355328/\
 Nx az y2 ([an 0 6,ε 1 0 (16*y2.val+(kF ah).length),fw [bD 128 c],ζ γ (γ.wrap ((↑y2.val:Int)+1))],[κ,υ 5 1 (aA (16*y2.val) (o y2.val)++kF ah)]))/\
 (decide ((↑y2.val:Int)<8)=false->
 K (ε 1 0 (16*y2.val)) [κ,υ 5 1 (o y2.val)])
 ):aK Tryz.prog XB (MO a0 a1 a2 a3 a4 a5 a7 a8 a9 aE aZ a12 aN ο π aW aF aP aG a20 a21 c o 68) 68 [an 0 6] [aw [δ a0,δ a1,δ a2,δ a3,δ a4,δ a5,bD 128 c,δ a7,δ a8,δ a9,δ aE,δ aZ,δ a12,δ aN,δ ο,δ π,δ aW,δ aF,δ aP,δ aG,δ a20,δ a21]] K:=by apply Eq.mp (a:=ar);kernel_rfl
theorem Vm (l m:List Int) (o:Nat->List D) (z:List D) (K:V->KB->Prop) (ar:
 let bC:=m.length - 0<=m.length - 0;let bp:=υ 5 1 (ints ν m);let κ:=[bD 128 (dp 128 (η (φ ν 0)))];let aV:=At (vo m o z) ([an 0 0,δ (Value.slice none 0 0),an 1 0,ζ γ 0],[aw κ,aw κ]);let ah:=K (av [fw κ,ξ false]) [];∃(y1:List Int),ints ν l=ints ν y1/\
 (∀(y2:Int),dW y2 y1->
 0<=y2/\
 y2<256)/\
 y1.length<=900000/\
 (fB y1=none->
 (true=true->
 ah)/\
 (true=false->
 (true=true->
 ah)/\
 (true=false->
 aV/\
 ∀(y4:{y3:Nat // qo y3}),let az:=(γ.wrap ((↑y4.val:Int)*16));let cf:=(ax (0+az.toNat) (ints ν m));(decide ((↑y4.val:Int)<8)=true->
 aM az/\
 True/\
 az.toNat<=m.length - 0/\
 bC/\
 16<=0+(m.length - 0) - (0+az.toNat)/\
 16<=cf.flatten.length/\
 bj (↑y4.val:Int) 8/\
 (↑y4.val:Int).toNat*16+16<=128/\
 Nx (vo m o z) y4 ([an 0 0,ε 1 0 m.length,an 2 0,ζ γ (γ.wrap ((↑y4.val:Int)+1))],[aw [bD 128 z],bp,aw [bD 128 (splice (o y4.val) ((↑y4.val:Int).toNat*16) (mw (aA 16 (ax 0 cf.flatten)) []))]]))/\
 (decide ((↑y4.val:Int)<8)=false->
 K (av [fw [bD 128 (o y4.val)],ξ true]) []))))/\
 ∀(y5:List Int),fB y1=some y5->
 (y5=[]->
 (false=true->
 ah)/\
 (false=false->
 (true=true->
 ah)/\
 (true=false->
 aV/\
 ∀(y7:{y6:Nat // qo y6}),let aL:=(γ.wrap ((↑y7.val:Int)*16));let bV:=(ax (0+aL.toNat) (ints ν m));(decide ((↑y7.val:Int)<8)=true->
 aM aL/\
 True/\
 aL.toNat<=m.length - 0/\
 bC/\
 16<=0+(m.length - 0) - (0+aL.toNat)/\
 16<=bV.flatten.length/\
 bj (↑y7.val:Int) 8/\
 (↑y7.val:Int).toNat*16+16<=128/\
 Nx (vo m o z) y7 ([an 0 0,ε 1 0 m.length,an 2 0,ζ γ (γ.wrap ((↑y7.val:Int)+1))],[aw [bD 128 z],bp,aw [bD 128 (splice (o y7.val) ((↑y7.val:Int).toNat*16) (mw (aA 16 (ax 0 bV.flatten)) []))]]))/\
 (decide ((↑y7.val:Int)<8)=false->
 K (av [fw [bD 128 (o y7.val)],ξ true]) []))))/\
 (false=true->
 ah)/\
 (false=false->
 (((↑(y5.length - 0):Int) != 128)=true->
 ah)/\
 (((↑(y5.length - 0):Int) != 128)=false->
 At (vo m o z) ([an 0 0,ε 1 0 y5.length,an 2 0,ζ γ 0],[aw κ,υ 5 1 (ints ν y5),aw κ])/\
 ∀(y9:{y8:Nat // qo y8}),let aJ:=(γ.wrap ((↑y9.val:Int)*16));let cw:=(ax (0+aJ.toNat) (ints ν m));(decide ((↑y9.val:Int)<8)=true->
 aM aJ/\
 True/\
 aJ.toNat<=m.length - 0/\
 bC/\
 16<=0+(m.length - 0) - (0+aJ.toNat)/\
 16<=cw.flatten.length/\
 bj (↑y9.val:Int) 8/\
 (↑y9.val:Int).toNat*16+16<=128/\
 Nx (vo m o z) y9 ([an 0 0,ε 1 0 m.length,an 2 0,ζ γ (γ.wrap ((↑y9.val:Int)+1))],[aw [bD 128 z],bp,aw [bD 128 (splice (o y9.val) ((↑y9.val:Int).toNat*16) (mw (aA 16 (ax 0 cw.flatten)) []))]]))/\
 (decide ((↑y9.val:Int)<8)=false->
 K (av [fw [bD 128 (o y9.val)],ξ true]) [])))
 ):aK Tryz.prog XB (Fx m o z 33) 33 [aH (.sl 1 (ints ν l))] [] K:=by apply Eq.mp (a:=ar);kernel_rfl
theorem xk:b9 Tryz.prog XB:=dY mixed NA aI 10
structure lR (i:Int):Prop where
 lo:0<=i
 hi:i<8
def Aw:aD:=fun args kb K=>match args,kb with
 | [an 0 6,.int γ i,aH (.sl 1 A)],[aw [δ a0,δ a1,δ a2,δ a3,δ a4,δ a5,bD 128 C,δ a7,δ a8,δ a9,δ aE,δ aZ,δ a12,δ aN,δ ο,δ π,δ aW,δ aF,δ aP,δ aG,δ a20,δ a21]]=>∃ c b:List Int,C=aU ν c/\A=ints ν b/\c.length=128/\(lR i/\b.length=16->K (.int γ 0) [aw [δ a0,δ a1,δ a2,δ a3,δ a4,δ a5,bD 128 (aU ν (splice c (i.toNat*16) b)),δ a7,δ a8,δ a9,δ aE,δ aZ,δ a12,δ aN,δ ο,δ π,δ aW,δ aF,δ aP,δ aG,δ a20,δ a21]])/\(¬ (lR i/\b.length=16)->K (.int γ 1) [aw [δ a0,δ a1,δ a2,δ a3,δ a4,δ a5,bD 128 (aU ν c),δ a7,δ a8,δ a9,δ aE,δ aZ,δ a12,δ aN,δ ο,δ π,δ aW,δ aF,δ aP,δ aG,δ a20,δ a21]])
 |_,_=>False
def Av:aD:=fun args kb K=>match args,kb with
 | [an 0 6,.int γ i],[aw [δ a0,δ a1,δ a2,δ a3,δ a4,δ a5,bD 128 C,δ a7,δ a8,δ a9,δ aE,δ aZ,δ a12,δ aN,δ ο,δ π,δ aW,δ aF,δ aP,δ aG,δ a20,δ a21]]=>∃ c:List Int,C=aU ν c/\c.length=128/\(lR i->K (.int γ 0) [aw [δ a0,δ a1,δ a2,δ a3,δ a4,δ a5,bD 128 (aU ν (splice c (i.toNat*16) (dp 16 0))),δ a7,δ a8,δ a9,δ aE,δ aZ,δ a12,δ aN,δ ο,δ π,δ aW,δ aF,δ aP,δ aG,δ a20,δ a21]])/\(¬ lR i->K (.int γ 1) [aw [δ a0,δ a1,δ a2,δ a3,δ a4,δ a5,bD 128 (aU ν c),δ a7,δ a8,δ a9,δ aE,δ aZ,δ a12,δ aN,δ ο,δ π,δ aW,δ aF,δ aP,δ aG,δ a20,δ a21]])
 |_,_=>False
def zX:aD:=fun args kb K=>match args,kb with
 | [an 0 6,.int γ i],[aw [δ a0,δ a1,δ a2,δ a3,δ a4,δ a5,bD 128 C,δ a7,δ a8,δ a9,δ aE,δ aZ,δ a12,δ aN,δ ο,δ π,δ aW,δ aF,δ aP,δ aG,δ a20,δ a21]]=>∃ c:List Int,C=aU ν c/\c.length=128/\(lR i->K (.χ [.sl 1 0 16,.int γ 0]) [aw [δ a0,δ a1,δ a2,δ a3,δ a4,δ a5,bD 128 (aU ν c),δ a7,δ a8,δ a9,δ aE,δ aZ,δ a12,δ aN,δ ο,δ π,δ aW,δ aF,δ aP,δ aG,δ a20,δ a21],υ 5 1 (ints ν ((c.drop (i.toNat*16)).take 16))])/\(¬ lR i->K (.χ [δ (.slice none 0 0),.int γ 1]) [aw [δ a0,δ a1,δ a2,δ a3,δ a4,δ a5,bD 128 (aU ν c),δ a7,δ a8,δ a9,δ aE,δ aZ,δ a12,δ aN,δ ο,δ π,δ aW,δ aF,δ aP,δ aG,δ a20,δ a21]])
 |_,_=>False
def tE:aD:=fun args kb K=>match args,kb with
 | [an 0 6],[aw [δ a0,δ a1,δ a2,δ a3,δ a4,δ a5,bD 128 C,δ a7,δ a8,δ a9,δ aE,δ aZ,δ a12,δ aN,δ ο,δ π,δ aW,δ aF,δ aP,δ aG,δ a20,δ a21]]=>∃ c:List Int,C=aU ν c/\c.length=128/\K (.sl 1 0 128) [aw [δ a0,δ a1,δ a2,δ a3,δ a4,δ a5,bD 128 (aU ν c),δ a7,δ a8,δ a9,δ aE,δ aZ,δ a12,δ aN,δ ο,δ π,δ aW,δ aF,δ aP,δ aG,δ a20,δ a21],υ 5 1 (ints ν c)]
 |_,_=>False
theorem Sn:aR Tryz.prog 84 Aw:=fC xk mixed (fun args kb K h=>by
 unfold Aw at h;split at h<;>try exact h.elim
 rename_i i A a0 a1 a2 a3 a4 a5 C a7 a8 a9 aE aZ a12 aN ο π aW aF aP aG a20 a21
 obtain⟨c,b,rfl,rfl,hl,h1,h2⟩:=h
 refine⟨aI 84,agj _ _ _ _ _ _ _ _ _ _ _ _ _ _ _ _ _ _ _ _ _ _ _ i K ⟨fun hi=>⟨fun h8=>h2 ?_,fun h8=>⟨fun hb=>h2 ?_,fun hb=>?_⟩⟩,fun hi=>h2 ?_⟩⟩
 ·rintro⟨⟨a1,a2⟩,_⟩;simp at h8;omega
 ·rintro⟨_,gh⟩;simp [bh]at hb;omega
 ·simp only[bh,bne_eq_false_iff_eq]at hb
  have hb:b.length=16:=by omega
  have hi:0<=i:=by simpa using hi
  have h8:i<8:=by simpa using h8
  have k:=h1 ⟨⟨hi,h8⟩,hb⟩
  refine⟨by rw[bh];omega,by rw[yj];simp [aU];omega,by unfold bj;omega,by omega,?_⟩
  have e:splice (aU ν c) (i.toNat*16) (mw (aA 16 (ax 0 (ints ν b).flatten)) [])=aU ν (splice c (i.toNat*16) b):=by
   rw[iX,yj,fI (by simp [aU];omega)]
   have:mw (aU ν b) []=aU ν b:=by simp [mw]
   rw[this]
   simp [splice,aU]
  rw[<- e]at k
  exact k
 ·rintro⟨⟨a1,a2⟩,_⟩;simp at hi;omega)
theorem Sk:aR Tryz.prog 85 Av:=fC xk mixed (fun args kb K h=>by
 unfold Av at h;split at h<;>try exact h.elim
 rename_i i a0 a1 a2 a3 a4 a5 C a7 a8 a9 aE aZ a12 aN ο π aW aF aP aG a20 a21
 obtain⟨c,rfl,hl,h1,h2⟩:=h
 refine⟨aI 85,ahM _ _ _ _ _ _ _ _ _ _ _ _ _ _ _ _ _ _ _ _ _ _ i K ⟨fun hi=>⟨fun h8=>h2 ?_,fun h8=>?_⟩,fun hi=>h2 ?_⟩⟩
 ·rintro⟨a1,a2⟩;simp at h8;omega
 ·have hi:0<=i:=by simpa using hi
  have h8:i<8:=by simpa using h8
  have k:=h1 ⟨hi,h8⟩
  refine⟨by unfold bj;omega,by omega,?_⟩
  have e:splice (aU ν c) (i.toNat*16) (dp 16 (η (.int ν 0)))=aU ν (splice c (i.toNat*16) (dp 16 0)):=by
   simp [splice,aU]
  rw[<- e]at k
  exact k
 ·rintro⟨a1,a2⟩;simp at hi;omega)
theorem Su {c:List Int} {o n:Nat}:kF (aA n (ax o (aU ν c)))=ints ν ((c.drop o).take n):=by
 simp only[kF,aU,ints,List.map_take,List.map_drop,List.map_map];rfl
theorem RT:aR Tryz.prog 86 zX:=fC xk mixed (fun args kb K h=>by
 unfold zX at h;split at h<;>try exact h.elim
 rename_i i a0 a1 a2 a3 a4 a5 C a7 a8 a9 aE aZ a12 aN ο π aW aF aP aG a20 a21
 obtain⟨c,rfl,hl,h1,h2⟩:=h
 refine⟨aI 86,agi _ _ _ _ _ _ _ _ _ _ _ _ _ _ _ _ _ _ _ _ _ _ i K ⟨fun hi=>⟨fun h8=>h2 ?_,fun h8=>?_⟩,fun hi=>h2 ?_⟩⟩
 ·rintro⟨a1,a2⟩;simp at h8;omega
 ·have hi:0<=i:=by simpa using hi
  have h8:i<8:=by simpa using h8
  have k:=h1 ⟨hi,h8⟩
  have hlen:((c.drop (i.toNat*16)).take 16).length=16:=by simp;omega
  simp only[Nat.add_zero,Su,bh,hlen]
  refine⟨by unfold bj;omega,trivial,trivial,by omega,by omega,⟨by omega,trivial⟩,by omega,fun e=>?_,⟨pJ⟩,k⟩
  have:=congrArg List.length e
  rw[bh,hlen]at this
  cases this
 ·rintro⟨a1,a2⟩;simp at hi;omega)
theorem Jh:aR Tryz.prog 68 tE:=fC xk mixed (fun args kb K h=>by
 unfold tE at h;split at h<;>try exact h.elim
 obtain⟨c,rfl,hl,h⟩:=h
 refine⟨MO _ _ _ _ _ _ _ _ _ _ _ _ _ _ _ _ _ _ _ _ _ (aU ν c) (fun k=>ints ν (c.take (16*k))) 68,K3 _ _ _ _ _ _ _ _ _ _ _ _ _ _ _ _ _ _ _ _ _ _ (fun k=>ints ν (c.take (16*k))) K ⟨At.mk' ⟨0,bt _⟩ rfl,?_⟩⟩
 rintro⟨k,hk⟩
 simp only[qo]at hk ⊢
 have e2:((k:Nat):Int).toNat=k:=by omega
 refine⟨fun hc=>?_,fun hc=>?_⟩
 ·simp only[decide_eq_true_eq]at hc
  have w2:=bS (n:=(k:Int)+1) (by omega) (by omega)
  have e3:kF (aA 16 (ax 0 (aA 16 (ax (k*16) (aU ν c)))))=ints ν ((c.drop (16*k)).take 16):=by
   rw[iX,List.take_take,Nat.min_self,Su,Nat.mul_comm]
  have hlen:((c.drop (16*k)).take 16).length=16:=by simp;omega
  rw[e2,e3,w2,bh,bh,hlen]
  have e4:aA (16*k) (ints ν (c.take (16*k)))++ints ν ((c.drop (16*k)).take 16)=ints ν (c.take (16*(k+1))):=by
   rw[fI (by rw[bh,dc];omega),<- qj,Nat.mul_succ,List.take_add]
  refine⟨by unfold bj;omega,by simp [aU];omega,trivial,trivial,by omega,by omega,by omega,by rw[dc];omega,by omega,?_⟩
  rw[e4]
  exact Nx.mk' (⟨k+1,by show k+1<=8;omega⟩:{k:Nat // qo k}) rfl (by show 8 - (k+1)<8 - k;omega)
 ·simp only[decide_eq_false_iff_not]at hc
  have:k=8:=by omega
  subst this
  rw[fI (by omega)]
  exact h)
abbrev jD:List Int:=dp 128 0
def xd:aD:=fun args kb K=>match args,kb with
 | [aH (.sl 1 A)],[]=>∃ l:List Int,A=ints ν l/\bm l/\l.length<=900000/\(∀ m,fB l=some m->m.length=128->K (.χ [.agg [bD 128 (aU ν m)],ξ true]) [])/\((∀ m,fB l=some m->¬ m.length=128)->K (.χ [.agg [bD 128 (aU ν jD)],ξ false]) [])
 |_,_=>False
def o_ (m:List Int) (k:Nat):List D:=aU ν (m.take (16*k)++dp (128 - 16*k) 0)
theorem Xz {m:List Int} (hm:m.length=128) {k:Nat} (hk:k<8):splice (o_ m k) (k*16) (mw (aA 16 (ax 0 (ax (k*16) (ints ν m)).flatten)) [])=o_ m (k+1):=by
 have e1:mw (aA 16 (ax 0 (ax (k*16) (ints ν m)).flatten)) []=aU ν ((m.drop (k*16)).take 16):=by
  rw[B0,yj,iX]
  simp [mw,aU]
 rw[e1]
 have e2:splice (o_ m k) (k*16) (aU ν ((m.drop (k*16)).take 16))=aU ν (splice (m.take (16*k)++dp (128 - 16*k) 0) (k*16) ((m.drop (k*16)).take 16)):=by
  simp [splice,aU,o_]
 rw[e2]
 unfold o_
 congr 1
 unfold splice
 have l1:(m.take (16*k)).length=16*k:=by rw[dc];omega
 have l2:((m.drop (k*16)).take 16).length=16:=by simp;omega
 have a1:aA (k*16) (m.take (16*k)++dp (128 - 16*k) (0:Int))=m.take (16*k):=by
  rw[List.take_append_of_le_length (by omega)];exact fI (by omega)
 have a2:ax (k*16+16) (m.take (16*k)++dp (128 - 16*k) (0:Int))=dp (128 - 16*(k+1)) 0:=by
  rw[List.drop_append,List.drop_of_length_le (by omega),ju,List.drop_replicate,l1];congr 1;omega
 rw[l2,a1,a2,show 16*(k+1)=16*k+16 by omega,List.take_add,show k*16=16*k by omega]
theorem Ji:aR Tryz.prog 33 xd:=fC xk mixed (fun args kb K h=>by
 unfold xd at h;split at h<;>try exact h.elim
 obtain⟨l,rfl,hb,hl,h1,h2⟩:=h
 cases ho:fB l with
 |none=>
  refine⟨Fx [] (o_ []) [] 33,Vm l [] (o_ []) [] K ⟨l,rfl,hb,hl,fun _=>⟨fun _=>h2 (fun m hm=>by rw[ho]at hm;cases hm),fun h=>by cases h⟩,fun m hm=>by rw[ho]at hm;cases hm⟩⟩
 |some m=>
  have hml:=CN ho
  refine⟨Fx m (o_ m) (dp 128 (η (.int ν 0))) 33,Vm l m (o_ m) (dp 128 (η (.int ν 0))) K ⟨l,rfl,hb,hl,fun h0=>(by rw[ho]at h0;cases h0),fun m' hm=>?_⟩⟩
  rw[ho]at hm;cases hm
  refine⟨fun e=>⟨fun h=>(by cases h),fun _=>⟨fun _=>h2 (fun m' hm'=>?_),fun h=>?_⟩⟩,fun h=>(by cases h),fun _=>⟨fun hn=>h2 (fun m' hm'=>?_),fun hn=>?_⟩⟩
  ·rw[ho]at hm';cases hm'
   rw[e];simp
  ·cases h
  ·rw[ho]at hm';cases hm'
   simp only[kV,bne_iff_ne,ne_eq]at hn;omega
  ·have BM:m.length=128:=by simp only[kV,bne_eq_false_iff_eq]at hn;omega
   refine⟨At.mk' ⟨0,bt _⟩ rfl,?_⟩
   rintro⟨k,hk⟩
   simp only[qo]at hk ⊢
   refine⟨fun hc=>?_,fun hc=>?_⟩
   ·simp only[decide_eq_true_eq]at hc
    have w1:=bS (n:=(k:Int)*16) (by omega) (by omega)
    have w2:=bS (n:=(k:Int)+1) (by omega) (by omega)
    have e2:((k:Nat):Int).toNat=k:=by omega
    have e3:((k:Int)*16).toNat=k*16:=by omega
    rw[w1,w2,e2,e3]
    simp only[cQ,kV]
    rw[Xz BM (by omega)]
    refine⟨by unfold aM;omega,trivial,by omega,by omega,by omega,?_,by unfold bj;omega,by omega,?_⟩
    ·rw[B0,yj];simp [aU];omega
    ·exact Nx.mk' (⟨k+1,by show k+1<=8;omega⟩:{k:Nat // qo k}) rfl (by show 8 - (k+1)<8 - k;omega)
   ·simp only[decide_eq_false_iff_not]at hc
    have:k=8:=by omega
    subst this
    have e:o_ m 8=aU ν m:=by
     unfold o_
     rw[fI (by omega)];simp
    rw[e]
    exact h1 m ho BM)
def Fw:FuncId->Option dK
 | 84=>some ⟨[.my,.my,.gj 1],Aw⟩
 | 86=>some ⟨[],zX⟩
 | 85=>some ⟨[],Av⟩
 | 68=>some ⟨[],tE⟩
 | 33=>some ⟨[.gj 1],xd⟩
 |f=>AT f
noncomputable def XD:bN:=dU Tryz.prog Fw aI 10
theorem agh (a0 a1 a2 a3 a4 a5 a7 a8 a9 aE aZ a12 aN ο π aW aF aP aG a20 a21:Value) (c:List D) (K:V->KB->Prop) (ar:
 ∃(pd:List Int),c=aU ν pd/\
 pd.length=128/\
 (128<=(ints ν pd).length/\
 True)/\
 ∃(l:List Int),ax 0 (aA 128 (ints ν pd))=ints ν l/\
 (∀(c:Int),dW c l->
 0<=c/\
 c<256)/\
 l.length<=900000/\
 o7 (ints ν (bZ l)).flatten/\
 K (ε 1 0 (l.length+4)) [aw [δ a0,δ a1,δ a2,δ a3,δ a4,δ a5,bD 128 (aU ν pd),δ a7,δ a8,δ a9,δ aE,δ aZ,δ a12,δ aN,δ ο,δ π,δ aW,δ aF,δ aP,δ aG,δ a20,δ a21],υ 5 1 (ints ν (bZ l))]
 ):aK Tryz.prog XD (aI 38) 38 [an 0 6] [aw [δ a0,δ a1,δ a2,δ a3,δ a4,δ a5,bD 128 c,δ a7,δ a8,δ a9,δ aE,δ aZ,δ a12,δ aN,δ ο,δ π,δ aW,δ aF,δ aP,δ aG,δ a20,δ a21]] K:=by apply Eq.mp (a:=ar);kernel_rfl
theorem agn (a0 a1 a2 a3 a4 a5 a7 a8 a9 aE aZ a12 aN ο π aW aF aP aG a20 a21:Value) (c:List D) (K:V->KB->Prop) (ar:
 ∃(pd:List Int),c=aU ν pd/\
 pd.length=128/\
 128<=(ints ν pd).length/\
 (1<=1/\
 True)/\
 ∃(ls:List (List Int)),[[ω 1 (ax 0 (aA 128 (ints ν pd)))]]=ae bB ls/\
 (ls.length<=1000000/\
 ∀(l:List Int),dW l ls->
 (∀(c:Int),dW c l->
 0<=c/\
 c<256)/\
 l.length.le 1000000)/\
 True/\
 K (ζ iy (dN ls.flatten)) [aw [δ a0,δ a1,δ a2,δ a3,δ a4,δ a5,bD 128 (aU ν pd),δ a7,δ a8,δ a9,δ aE,δ aZ,δ a12,δ aN,δ ο,δ π,δ aW,δ aF,δ aP,δ aG,δ a20,δ a21]]
 ):aK Tryz.prog XD (aI 49) 49 [an 0 6] [aw [δ a0,δ a1,δ a2,δ a3,δ a4,δ a5,bD 128 c,δ a7,δ a8,δ a9,δ aE,δ aZ,δ a12,δ aN,δ ο,δ π,δ aW,δ aF,δ aP,δ aG,δ a20,δ a21]] K:=by apply Eq.mp (a:=ar);kernel_rfl
theorem Xy:dP Tryz.prog Fw:=fun f k h=>by
 unfold Fw at h
 split at h
 ·cases h;exact Sn
 ·cases h;exact RT
 ·cases h;exact Sk
 ·cases h;exact Jh
 ·cases h;exact Ji
 ·exact NA _ _ h
theorem Ml:b9 Tryz.prog XD:=dY mixed Xy aI 10
def zY:aD:=fun args kb K=>match args,kb with
 | [an 0 6],[aw [δ a0,δ a1,δ a2,δ a3,δ a4,δ a5,bD 128 C,δ a7,δ a8,δ a9,δ aE,δ aZ,δ a12,δ aN,δ ο,δ π,δ aW,δ aF,δ aP,δ aG,δ a20,δ a21]]=>∃ c:List Int,C=aU ν c/\c.length=128/\bm c/\K (.sl 1 0 132) [aw [δ a0,δ a1,δ a2,δ a3,δ a4,δ a5,bD 128 (aU ν c),δ a7,δ a8,δ a9,δ aE,δ aZ,δ a12,δ aN,δ ο,δ π,δ aW,δ aF,δ aP,δ aG,δ a20,δ a21],υ 5 1 (ints ν (bZ c))]
 |_,_=>False
def xe:aD:=fun args kb K=>match args,kb with
 | [an 0 6],[aw [δ a0,δ a1,δ a2,δ a3,δ a4,δ a5,bD 128 C,δ a7,δ a8,δ a9,δ aE,δ aZ,δ a12,δ aN,δ ο,δ π,δ aW,δ aF,δ aP,δ aG,δ a20,δ a21]]=>∃ c:List Int,C=aU ν c/\c.length=128/\bm c/\K (.int iy (dN c)) [aw [δ a0,δ a1,δ a2,δ a3,δ a4,δ a5,bD 128 (aU ν c),δ a7,δ a8,δ a9,δ aE,δ aZ,δ a12,δ aN,δ ο,δ π,δ aW,δ aF,δ aP,δ aG,δ a20,δ a21]]
 |_,_=>False
theorem t128 {c:List Int} (h:c.length=128):ax 0 (aA 128 (ints ν c))=ints ν c:=by rw[<- h];rw[iX];exact fI (by rw[bh];omega)
theorem RU:aR Tryz.prog 38 zY:=fC Ml mixed (fun args kb K h=>by
 unfold zY at h;split at h<;>try exact h.elim
 obtain⟨c,rfl,hl,hb,h⟩:=h
 refine⟨aI 38,agh _ _ _ _ _ _ _ _ _ _ _ _ _ _ _ _ _ _ _ _ _ _ K ⟨c,rfl,hl,⟨by rw[bh];omega,trivial⟩,c,t128 hl,hb,by omega,⟨pJ⟩,?_⟩⟩
 rw[hl];exact h)
theorem Jj:aR Tryz.prog 49 xe:=fC Ml mixed (fun args kb K h=>by
 unfold xe at h;split at h<;>try exact h.elim
 obtain⟨c,rfl,hl,hb,h⟩:=h
 refine⟨aI 49,agn _ _ _ _ _ _ _ _ _ _ _ _ _ _ _ _ _ _ _ _ _ _ K ⟨c,rfl,hl,by rw[bh];omega,⟨by decide,trivial⟩,[c],by rw[t128 hl];rfl,⟨by simp,fun x hx=>?_⟩,trivial,?_⟩⟩
 ·cases hx with
  |head=>exact⟨hb,by show c.length<=1000000;omega⟩
  |tail _ hx=>cases hx
 ·rw[NI];exact h)
end Go.Proofs.YtfcjngcnifdmnaaGreat
set_option linter.unusedSimpArgs false
set_option linter.unusedVariables false
namespace Vc
open Go
open Go.IntKind renaming i64->γ,u8->ν,u32->iy
open Go.Value renaming int->φ,map->kr,oneCell'->l0
open List renaming map->ae,drop->ax,take->aA,length_append->bo,getElem?_eq_getElem->bz,getElem?_eq_some_iff->bO,length_map->cp,take_length->cZ,length_take->dc,mem_singleton->dm,replicate->dp,mem_append->dQ,Mem->dW,getElem?_append_left->dX,mem_map->ef,append_assoc->eH,mem_cons->eI,getElem?_append_right->e_,append_nil->fu,getElem?_map->fH,take_of_length_le->fI,length_drop->fZ,mem_cons_of_mem->f_,getElem?_set_ne->gE,length_cons->gF,mem_of_getElem?->gG,getElem?_eq_none->g_,getElem?_set_self->iz,length_set->iA,mem_cons_self->iB,length_singleton->iL,mem_append_left->iM,range->iN,drop_zero->iX,getD_eq_getElem?_getD->iY,getElem?_take_of_lt->ji,flatten_cons->jt,nil_append->ju,getElem?_drop->jE,map_append->jZ,take_add_one->j2,length_nil->ko,ext_getElem?->lB,getElem?_of_mem->lC,mem_append_right->lD,map_cons->lY,mem_filter->lZ,eq_nil_of_length_eq_zero->mq
open Nat renaming le_refl->au,zero_le->bt,beq->cq,eq_of_beq_eq_true->cP,zero_add->cQ,add_assoc->gR,lor->iO,lt_or_ge->jF,sub_zero->kV
open Option renaming some->bc,bind_eq_some_iff->kW,map->mU
open Int renaming le_refl->dy,toNat_natCast->dD
open Bool renaming and_eq_true->iW,not_eq_false'->nI
def mF (f:Nat->Value):List Bool->List V->Nat->Option (List V)
 |true::ms,v::l,i=>match v,mF f ms l (i+1)with
  | .arr _ _,_=>none
  |_,some r=>some (.any (f i)::r)
  |_,none=>none
 |false::ms,v::l,i=>match mF f ms l (i+1)with
  |some r=>some (v::r)
  |none=>none
 | [],l,_=>some l
 |_:: _,[],_=>some []
def oe (f:Nat->Value):List Bool->List V->List V->Nat->Option (List (Value×Value)×List V)
 |true::ms,v::l,w::l2,i=>match w,oe f ms l l2 (i+1)with
  | .any y',some (es,r)=>some ((y',f i)::es,v::r)
  |_,_=>none
 |false::ms,_::l,w::l2,i=>match oe f ms l l2 (i+1)with
  |some (es,r)=>some (es,w::r)
  |none=>none
 | [],_,l2,_=>some ([],l2)
 |_:: _,[],[],_=>some ([],[])
 |_,_,_,_=>none
def bQ:List (Value×Value)->Prop
 | []=>True
 |p::l=>p.1=p.2/\bQ l
structure L5 (l:List (Value×Value)):Prop where
 h:bQ l
abbrev bw (f:Nat->Value) (l:List Nat):Prop:=L5 (l.map fun i=>(f i,f i))
def kU (f:Nat->Value) (σ:Sg) (E:EH):List Bool->List V->Nat->Prop
 |true::ms,v::l,i=>((f i).oneCell'=true/\Den σ E v (f i))/\kU f σ E ms l (i+1)
 |false::ms,v::l,i=>kU f σ E ms l (i+1)
 | [],_,_=>True
 |_:: _,[],_=>True
theorem IB {f g:Nat->Value}:∀{ms:List Bool} {l:List V} {i:Nat},(∀ j,i<=j->f j=g j)->mF f ms l i=mF g ms l i
 |true::ms,v::l,i,h=>by simp only[mF,IB (ms:=ms) (l:=l) (i:=i+1) (fun j hj=>h j (by omega)),h i (au _)]
 |false::ms,v::l,i,h=>by simp only[mF,IB (ms:=ms) (l:=l) (i:=i+1) (fun j hj=>h j (by omega))]
 | [],l,i,h=>rfl
 |true:: _,[],i,h=>rfl
 |false:: _,[],i,h=>rfl
theorem D7 {f g:Nat->Value} {σ:Sg} {E:EH}:∀{ms:List Bool} {l:List V} {i:Nat},(∀ j,i<=j->f j=g j)->kU f σ E ms l i->kU g σ E ms l i
 |true::ms,v::l,i,h,k=>by
  simp only[kU]at k ⊢
  rw[<- h i (au _)]
  exact⟨k.1,D7 (fun j hj=>h j (by omega)) k.2⟩
 |false::ms,v::l,i,h,k=>by
  simp only[kU]at k ⊢
  exact D7 (fun j hj=>h j (by omega)) k
 | [],l,i,h,k=>by simp only[kU]
 |true:: _,[],i,h,k=>by simp only[kU]
 |false:: _,[],i,h,k=>by simp only[kU]
theorem Cp {σ:Sg} {E:EH}:∀{ms:List Bool} {l:List V} {i:Nat} {xs:List Value},aT σ E l xs->∃ f:Nat->Value,(∀ l',mF f ms l i=some l'->aT σ E l' xs/\kU f σ E ms l i)
 | [],l,i,xs,hd=>⟨fun _=>undef,fun l' h=>by simp only[mF,bc.injEq]at h;subst h;exact⟨hd,by simp only[kU]⟩⟩
 |true:: _,[],i,xs,hd=>⟨fun _=>undef,fun l' h=>by simp only[mF,bc.injEq]at h;subst h;exact⟨hd,by simp only[kU]⟩⟩
 |false:: _,[],i,xs,hd=>⟨fun _=>undef,fun l' h=>by simp only[mF,bc.injEq]at h;subst h;exact⟨hd,by simp only[kU]⟩⟩
 |false::ms,v::l,i,xs,hd=>by
  obtain⟨ys,zs,rfl,h1,h2⟩:=hd.iI
  obtain⟨f,hf⟩:=Cp (ms:=ms) (i:=i+1) h2
  refine⟨f,fun l' h=>?_⟩
  simp only[mF]at h
  split at h<;>try (cases h;done)
  rename_i r hr
  cases h
  obtain⟨h3,h4⟩:=hf r hr
  exact⟨.cons h1 h3,by simp only[kU];exact h4⟩
 |true::ms,v::l,i,xs,hd=>by
  obtain⟨ys,zs,rfl,h1,h2⟩:=hd.iI
  obtain⟨f,hf⟩:=Cp (ms:=ms) (i:=i+1) h2
  rcases h1 with ⟨y,rfl,hy,hv⟩ | ⟨m,cs,rfl,_,_⟩
  ·refine⟨fun j=>if j=i then y else f j,fun l' h=>?_⟩
   have hc:∀ j,i+1<=j->(fun j=>if j=i then y else f j) j=f j:=fun j hj=>by dsimp only;rw[if_neg (by omega)]
   simp only[mF,IB hc]at h
   split at h<;>try (cases h;done)
   rename_i _ _ r _ hr
   simp only[if_true,bc.injEq]at h
   subst h
   obtain⟨h3,h4⟩:=hf r hr
   refine⟨aT.jj (by simp [Den]) hy h3,?_⟩
   simp only[kU,if_pos rfl]
   exact⟨⟨hy,hv⟩,D7 (fun j hj=>(hc j hj).symm) h4⟩
  ·exact⟨fun _=>undef,fun l' h=>by simp only[mF]at h;cases h⟩
theorem KW {f:Nat->Value} {σ τ:Sg} {E E':EH} (hE:E.le E'):∀{ms:List Bool} {l l2:List V} {i:Nat} {es:List (Value×Value)} {r:List V},oe f ms l l2 i=some (es,r)->bQ es->kU f σ E ms l i->∀{xs:List Value},aT (σ++τ) E' l2 xs->aT (σ++τ) E' r xs
 | [],l,l2,i,es,r,h,hs,hm,xs,hd=>by
  simp only[oe,bc.injEq,Prod.mk.injEq]at h
  rw[<- h.2];exact hd
 |false::ms,v::l,w::l2,i,es,r,h,hs,hm,xs,hd=>by
  simp only[oe]at h
  split at h<;>try (cases h;done)
  rename_i es' r' hr
  cases h
  simp only[kU]at hm
  obtain⟨ys,zs,rfl,h1,h2⟩:=hd.iI
  exact .cons h1 (KW hE hr hs hm h2)
 |true::ms,v::l,w::l2,i,es,r,h,hs,hm,xs,hd=>by
  simp only[oe]at h
  split at h<;>try (cases h;done)
  rename_i y' es' r' hr
  cases h
  simp only[kU]at hm
  simp only[bQ]at hs
  obtain⟨ys,zs,rfl,h1,h2⟩:=hd.iI
  rcases h1 with ⟨z,rfl,hz,ul⟩ | ⟨m,cs,e,_,_⟩
  ·simp only[Den]at ul
   subst ul
   rw[hs.1]at*
   exact aT.jj (Den.mono hE hm.1.2) hm.1.1 (KW hE hr hs.2 hm.2 h2)
  ·cases e
 |true:: _,[],[],i,es,r,h,hs,hm,xs,hd=>by
  simp only[oe,bc.injEq,Prod.mk.injEq]at h
  rw[<- h.2];exact hd
 |false:: _,[],[],i,es,r,h,hs,hm,xs,hd=>by
  simp only[oe,bc.injEq,Prod.mk.injEq]at h
  rw[<- h.2];exact hd
 |true:: _,[],_:: _,i,es,r,h,hs,hm,xs,hd=>by simp [oe]at h
 |true:: _,_:: _,[],i,es,r,h,hs,hm,xs,hd=>by simp [oe]at h
 |false:: _,[],_:: _,i,es,r,h,hs,hm,xs,hd=>by simp [oe]at h
 |false:: _,_:: _,[],i,es,r,h,hs,hm,xs,hd=>by simp [oe]at h
def eB (ms:List Bool) (S:aD):aD:=fun args kb K=>match kb with
 | .cells l::r=>∀ f:Nat->Value,match mF f ms l 0 with
  |some l'=>y0 S args (.cells l'::r) (fun res bF=>match bF with
   | .cells l2::r2=>match oe f ms l l2 0 with
    |some (es,l3)=>L5 es/\K res (.cells l3::r2)
    |none=>False
   |_=>False)
  |none=>False
 |_=>False
theorem ta {σ:Sg} {l l':List V} {r:KB} {b:Nat} (h:ct σ (.cells l::r) b):ct σ (.cells l'::r) b:=by
 obtain⟨i,q,o,h1,h2,h3⟩:=h
 cases i with
 |zero=>simp at h2;subst h2;exact⟨0,q,.cells l',h1,rfl,h3⟩
 |succ i=>exact⟨i+1,q,o,h1,by simpa using h2,h3⟩
theorem fy {P:Program} {f:FuncId} {S:aD} (hS:aR P f S) (ms:List Bool):aR P f (eB ms S):=fun args kb K h σ E W xs hi hd=>by
 unfold eB at h
 split at h<;>try exact h.elim
 rename_i l r
 have h0:∃ q,σ[0]? =some q:=by
  have:=hi.len
  cases σ with
  |nil=>simp at this
  |cons q σ=>exact⟨q,rfl⟩
 obtain⟨q,hq⟩:=h0
 obtain⟨arr,ty,ha,hl⟩:=hi.obj 0 q _ hq rfl
 obtain⟨f,hf⟩:=Cp (ms:=ms) (i:=0) hl
 have h:=h f
 split at h<;>try exact h.elim
 rename_i l' hl'
 obtain⟨h1,h2⟩:=hf l' hl'
 have h3:=h
 have hi':Inv σ E (.cells l'::r) W:=by
  refine⟨by simpa using hi.len,fun i q' o k1 k2=>?_,fun i j q1 q2 o o' b hij k1 k2 k3 k4 k5 k6=>?_,hi.dj,fun b hb=>hi.sep b (ta hb)⟩
  ·cases i with
   |zero=>
    simp at k2;subst k2
    rw[hq]at k1;cases k1
    exact⟨arr,ty,ha,h1⟩
   |succ i=>exact hi.obj (i+1) q' o k1 (by simpa using k2)
  ·have key:∀(i:Nat) (o:KO) (q:Re),(KO.cells l'::r)[i]? =some o->owned q o b->∃ o2,(KO.cells l::r)[i]? =some o2/\owned q o2 b:=fun i o q h2 h5=>by
    cases i with
    |zero=>simp at h2;subst h2;exact⟨_,rfl,h5⟩
    |succ i=>exact⟨o,by simpa using h2,h5⟩
   obtain⟨o2,g1,g2⟩:=key i o q1 k2 k5
   obtain⟨o3,g3,g4⟩:=key j o' q2 k4 k6
   exact hi.dA i j q1 q2 o2 o3 b hij k1 g1 k3 g3 g2 g4
 refine(Dp hS h3 hi' hd).mono ?_
 rintro e W' ⟨v,res,σ',E',bF,rfl,hst,eM,hK⟩
 split at hK<;>try exact hK.elim
 rename_i l2 r2
 obtain⟨τ,rfl⟩:=hst.pre
 have px:(σ++τ)[0]? =some q:=gA hq
 obtain⟨Xg,Ve,ZJ,hl2⟩:=hst.inv.obj 0 q _ px rfl
 split at hK<;>try exact hK.elim
 rename_i es l3 hun
 obtain⟨hsame,h5⟩:=hK
 have h4:=KW hst.le hun hsame.h h2 hl2
 refine⟨v,res,σ++τ,E',.cells l3::r2,rfl,⟨?_,⟨hst.bM.os,hst.bM.tape,hst.bM.output,hst.bM.size,fun k hk hn=>hst.bM.block k hk (fun ho=>hn (ta ho))⟩,⟨τ,rfl⟩,hst.le,fun b hb=>?_,fun b o hb=>?_⟩,eM,h5⟩
 ·refine⟨by simpa using hst.inv.len,fun i q' o k1 k2=>?_,fun i j q1 q2 o o' b hij k1 k2 k3 k4 k5 k6=>?_,hst.inv.dj,fun b hb=>hst.inv.sep b (ta hb)⟩
  ·cases i with
   |zero=>
    simp at k2;subst k2
    rw[px]at k1;cases k1
    exact⟨Xg,Ve,ZJ,h4⟩
   |succ i=>exact hst.inv.obj (i+1) q' o k1 (by simpa using k2)
  ·have key:∀(i:Nat) (o:KO) (q:Re),(KO.cells l3::r2)[i]? =some o->owned q o b->∃ o2,(KO.cells l2::r2)[i]? =some o2/\owned q o2 b:=fun i o q h2 h5=>by
    cases i with
    |zero=>simp at h2;subst h2;exact⟨_,rfl,h5⟩
    |succ i=>exact⟨o,by simpa using h2,h5⟩
   obtain⟨o2,g1,g2⟩:=key i o q1 k2 k5
   obtain⟨o3,g3,g4⟩:=key j o' q2 k4 k6
   exact hst.inv.dA i j q1 q2 o2 o3 b hij k1 g1 k3 g3 g2 g4
 ·rcases hst.own b (ta hb)with k | k
  ·exact .inl (ta k)
  ·exact .inr k
 ·rcases hst.new b o hb with k | k | k
  ·exact .inl k
  ·exact .inr (.inl (ta k))
  ·exact .inr (.inr k)
end Vc
set_option linter.unusedSimpArgs false
set_option linter.unusedVariables false
namespace Vc
open Go Go.Shelf Go.RowKit Go.Proofs Go.Lib
open Go.IntKind renaming i64->γ,u8->ν,u32->iy
open Go.Value renaming int->φ,map->kr,oneCell'->l0
open List renaming map->ae,drop->ax,take->aA,length_append->bo,getElem?_eq_getElem->bz,getElem?_eq_some_iff->bO,length_map->cp,take_length->cZ,length_take->dc,mem_singleton->dm,replicate->dp,mem_append->dQ,Mem->dW,getElem?_append_left->dX,mem_map->ef,append_assoc->eH,mem_cons->eI,getElem?_append_right->e_,append_nil->fu,getElem?_map->fH,take_of_length_le->fI,length_drop->fZ,mem_cons_of_mem->f_,getElem?_set_ne->gE,length_cons->gF,mem_of_getElem?->gG,getElem?_eq_none->g_,getElem?_set_self->iz,length_set->iA,mem_cons_self->iB,length_singleton->iL,mem_append_left->iM,range->iN,drop_zero->iX,getD_eq_getElem?_getD->iY,getElem?_take_of_lt->ji,flatten_cons->jt,nil_append->ju,getElem?_drop->jE,map_append->jZ,take_add_one->j2,length_nil->ko,ext_getElem?->lB,getElem?_of_mem->lC,mem_append_right->lD,map_cons->lY,mem_filter->lZ,eq_nil_of_length_eq_zero->mq
open Nat renaming le_refl->au,zero_le->bt,beq->cq,eq_of_beq_eq_true->cP,zero_add->cQ,add_assoc->gR,lor->iO,lt_or_ge->jF,sub_zero->kV
open Option renaming some->bc,bind_eq_some_iff->kW,map->mU
open Int renaming le_refl->dy,toNat_natCast->dD
open Bool renaming and_eq_true->iW,not_eq_false'->nI
def Aa (ty:TypeId):aD:=fun args kb K=>match args,kb with
 | [.any (.slice none 0 0),.int γ n],[]=>0<=n/\n<=1000000/\K (.sl 0 0 0) [.row ty 1 []]
 |_,_=>False
theorem ab2 {P:Program} {ρ:Ren} (L:Lays8.n4 P ρ) (i0:TypeInfo) (z:Value) (hi0:P.info? (ρ.t 25)=some i0) (hz0:i0.zero=some z) (hs0:i0.size=1) (hb0:i0.bytes=8) (uk:z.cells.size=1):aR P (ρ.f 4) (Aa (ρ.t 25)):=fun args kb K h σ E W xs hi hd=>by
 unfold Aa at h
 split at h<;>try exact h.elim
 rename_i n
 obtain⟨h0,h1,h⟩:=h
 simp only[aq,Den]at hd
 obtain⟨x,xs',rfl,rfl,x2,VN,rfl,rfl,rfl⟩:=hd
 obtain⟨m,rfl⟩:∃ m:Nat,n=(m:Int):=⟨n.toNat,by omega⟩
 have hlen:σ.length=0:=hi.len
 rcases Nat.eq_zero_or_pos m with hm | hm
 ·subst hm
  refine(Any8.slices_Grow_room L none 0 0 0 W (au _) (by omega) (by omega) (by omega)).mono ?_
  rintro e W' ⟨rfl,rfl⟩
  have hgrow:=hi.grow (W':=W') ⟨0,0,1⟩ (.row (ρ.t 25) 1 []) rfl rfl rfl (au _) (fun _ _=>rfl) (fun b hb=>absurd rfl hb.1) ⟨rfl,wl.nil,au _,bt _,.inl rfl⟩
  refine⟨_,.sl 0 0 0,_,E,_,rfl,hgrow,?_,h⟩
  simp only[Den]
  exact⟨⟨0,0,1⟩,none,by rw[e_ (by omega),hlen];rfl,rfl,au _,au _,fun f=>absurd f (Nat.lt_irrefl _)⟩
 ·have hG:=Any8.slices_Grow_grow L i0 z hi0 hz0 (by omega) none 0 0 m [] W (au _) (by omega) (by rw[hb0];omega) (by omega) (by simp) (fun _=>rfl) (fun a f=>by cases f)
  refine hG.mono ?_
  rintro e W' ⟨rfl,rfl⟩
  have hge:0+m<=grownCap W (0+m) 0 (ρ.t 25):=grownCap_ge W _ _ _
  have hle:=grownCap_le_maxLen W (0+m) 0 (ρ.t 25) (by simp only[maxLen];omega)
  have hheap:∀ o:Obj,(W.drew.alloc o).heap=W.heap.push o:=fun _=>rfl
  have hgrow:=hi.grow (W':=W.drew.alloc (.cells (([]:List Value).toArray++Builtin.zeroCells z.cells (0+m - 0)++Builtin.zeroCells z.cells (grownCap W (0+m) 0 (ρ.t 25) - (0+m))) (ρ.t 25)))
   ⟨W.heap.size,grownCap W (0+m) 0 (ρ.t 25),1⟩ (.row (ρ.t 25) 1 []) rfl rfl rfl (by rw[hheap,Array.size_push];omega) (fun k hk=>by rw[hheap,Array.getElem?_push_lt hk,Array.getElem?_eq_getElem hk]) (fun b hb=>by have:=hb.2;simp only at this;omega)
   ⟨rfl,wl.nil,bt _,hle,.inr ⟨_,(MapKept.heap_alloc W.drew _).1,by simp only[Array.size_append,List.size_toArray,size_zeroCells,uk,ko];omega,by simp [a_]⟩⟩
  refine⟨_,.sl 0 0 0,_,E,_,rfl,hgrow,?_,h⟩
  simp only[Den]
  exact⟨⟨W.heap.size,grownCap W (0+m) 0 (ρ.t 25),1⟩,some ⟨W.heap.size,0,none⟩,by rw[e_ (by omega),hlen];rfl,rfl,au _,bt _,fun _=>by simp⟩
end Vc
namespace Go.Proofs.YtfcjngcnifdmnaaGreat
open Go.Shelf
open Go.IntKind renaming i64->γ,u8->ν,u32->iy
open Vc.V renaming any->δ,sl->ε,int->ζ,sb->ξ,ptr->an,χ->av,dat->aH,af->aO,mp->bb,arr->bD,agg->fw
open Vc.D renaming val->η,sl->ω
open Vc.KO renaming row->υ,dead->aa,cells->aw,objs->cY
open Go.Value renaming int->φ,map->kr,oneCell'->l0
open List renaming map->ae,drop->ax,take->aA,length_append->bo,getElem?_eq_getElem->bz,getElem?_eq_some_iff->bO,length_map->cp,take_length->cZ,length_take->dc,mem_singleton->dm,replicate->dp,mem_append->dQ,Mem->dW,getElem?_append_left->dX,mem_map->ef,append_assoc->eH,mem_cons->eI,getElem?_append_right->e_,append_nil->fu,getElem?_map->fH,take_of_length_le->fI,length_drop->fZ,mem_cons_of_mem->f_,getElem?_set_ne->gE,length_cons->gF,mem_of_getElem?->gG,getElem?_eq_none->g_,getElem?_set_self->iz,length_set->iA,mem_cons_self->iB,length_singleton->iL,mem_append_left->iM,range->iN,drop_zero->iX,getD_eq_getElem?_getD->iY,getElem?_take_of_lt->ji,flatten_cons->jt,nil_append->ju,getElem?_drop->jE,map_append->jZ,take_add_one->j2,length_nil->ko,ext_getElem?->lB,getElem?_of_mem->lC,mem_append_right->lD,map_cons->lY,mem_filter->lZ,eq_nil_of_length_eq_zero->mq
open Nat renaming le_refl->au,zero_le->bt,beq->cq,eq_of_beq_eq_true->cP,zero_add->cQ,add_assoc->gR,lor->iO,lt_or_ge->jF,sub_zero->kV
open Option renaming some->bc,bind_eq_some_iff->kW,map->mU
open Int renaming le_refl->dy,toNat_natCast->dD
open Bool renaming and_eq_true->iW,not_eq_false'->nI
def O6:Go.Shelf.Ren:=⟨fun | 4=>100 | n=>n,fun | 22=>38 | 25=>3 | 3=>3 | 4=>4 | 9=>9 | 20=>20 | 0=>0 | n=>n,fun | n=>n⟩
theorem Zm:Go.Proofs.Lays8.n4 Tryz.prog O6:={
 mixed:=by kernel_rfl
 f4:=⟨Tryz.f100.name,by decide,Tryz.func100.trans (congrArg some (by kernel_rfl))⟩
 t0:=Tryz.underlying0
 a0:=Tryz.isAgg0
 z0:=Tryz.sizeOf0
 v0:=Tryz.zeroValue0
 t3:=Tryz.underlying3
 a3:=Tryz.isAgg3
 z3:=Tryz.sizeOf3
 v3:=Tryz.zeroValue3
 t4:=Tryz.underlying4
 a4:=Tryz.isAgg4
 z4:=Tryz.sizeOf4
 v4:=Tryz.zeroValue4
 t9:=Tryz.underlying9
 a9:=Tryz.isAgg9
 z9:=Tryz.sizeOf9
 v9:=Tryz.zeroValue9
 t20:=Tryz.underlying20
 a20:=Tryz.isAgg20
 z20:=Tryz.sizeOf20
 v20:=Tryz.zeroValue20
 t22:=Tryz.underlying38
 a22:=Tryz.isAgg38
 z22:=Tryz.sizeOf38
 v22:=Tryz.zeroValue38 }
theorem ab1:Vc.aR Tryz.prog 100 (Vc.Aa 3):=Vc.ab2 (ρ:=O6) Zm ((Tryz.prog.info? 3).get (by kernel_rfl)) (.int γ 0) (by kernel_rfl) (by kernel_rfl) (by kernel_rfl) (by kernel_rfl) rfl
end Go.Proofs.YtfcjngcnifdmnaaGreat
namespace Go.Proofs.YtfcjngcnifdmnaaGreat
open Vc Go
open Go.IntKind renaming i64->γ,u8->ν,u32->iy
open Vc.V renaming any->δ,sl->ε,int->ζ,sb->ξ,ptr->an,χ->av,dat->aH,af->aO,mp->bb,arr->bD,agg->fw
open Vc.D renaming val->η,sl->ω
open Vc.KO renaming row->υ,dead->aa,cells->aw,objs->cY
open Go.Value renaming int->φ,map->kr,oneCell'->l0
open List renaming map->ae,drop->ax,take->aA,length_append->bo,getElem?_eq_getElem->bz,getElem?_eq_some_iff->bO,length_map->cp,take_length->cZ,length_take->dc,mem_singleton->dm,replicate->dp,mem_append->dQ,Mem->dW,getElem?_append_left->dX,mem_map->ef,append_assoc->eH,mem_cons->eI,getElem?_append_right->e_,append_nil->fu,getElem?_map->fH,take_of_length_le->fI,length_drop->fZ,mem_cons_of_mem->f_,getElem?_set_ne->gE,length_cons->gF,mem_of_getElem?->gG,getElem?_eq_none->g_,getElem?_set_self->iz,length_set->iA,mem_cons_self->iB,length_singleton->iL,mem_append_left->iM,range->iN,drop_zero->iX,getD_eq_getElem?_getD->iY,getElem?_take_of_lt->ji,flatten_cons->jt,nil_append->ju,getElem?_drop->jE,map_append->jZ,take_add_one->j2,length_nil->ko,ext_getElem?->lB,getElem?_of_mem->lC,mem_append_right->lD,map_cons->lY,mem_filter->lZ,eq_nil_of_length_eq_zero->mq
open Nat renaming le_refl->au,zero_le->bt,beq->cq,eq_of_beq_eq_true->cP,zero_add->cQ,add_assoc->gR,lor->iO,lt_or_ge->jF,sub_zero->kV
open Option renaming some->bc,bind_eq_some_iff->kW,map->mU
open Int renaming le_refl->dy,toNat_natCast->dD
open Bool renaming and_eq_true->iW,not_eq_false'->nI
set_option linter.unusedVariables false
set_option linter.unusedSimpArgs false
set_option maxRecDepth 100000
def kD (Ls:List (List Int)):List (List D):=Ls.map fun l=>[ω 1 (ints γ l)]
def gv (Ls:List (List Int)) (i:Nat):List Int:=(Ls.take i).flatten
abbrev FI (Ls:List (List Int)):LI where
 α:={i:Nat // i<=Ls.length}
 live:=[0,3,9,10,11]
 st i:=([aH (.sl 1 (kD Ls)),.int γ ((gv Ls i.1).length:Int),aH (.sl 1 (kD Ls)),.int γ (Ls.length:Int),.int γ (i.1:Int)],[])
 μ i:=Ls.length - i.1
abbrev FJ (Ls:List (List Int)):LI where
 α:={i:Nat // i<=Ls.length}
 live:=[6,25,26,27]
 st i:=([.sl 0 0 (gv Ls i.1).length,aH (.sl 1 (kD Ls)),.int γ (Ls.length:Int),.int γ (i.1:Int)],[υ 3 1 (ints γ (gv Ls i.1))])
 μ i:=Ls.length - i.1
def Nq (Ls:List (List Int)):FuncId->Nat->Option LI
 | 73,3=>some (FI Ls)
 | 73,11=>some (FJ Ls)
 |_,_=>none
def Ha:FuncId->Option dK
 | 100=>some ⟨[],Aa 3⟩
 |_=>none
noncomputable def Mu:bN:=dU Tryz.prog Ha aI 10
def kw (p:Int->Bool) (l:List Int):Int:=match l.findIdx? p with | some i=>(i:Int) | none=>-1
abbrev B7 (p:Int->Bool) (l:List Int) (v g:V) (B:KB):LI where
 α:={i:Nat // i<=l.length/\∀ j n,j<i->l[j]? =some n->p n=false}
 live:=[0,1,7,8]
 st i:=([v,g,.int γ (l.length:Int),.int γ (i.1:Int)],B)
 μ i:=l.length - i.1
def H_ (p:Int->Bool) (l:List Int) (v g:V) (B:KB):FuncId->Nat->Option LI
 | 99,2=>some (B7 p l v g B)
 |_,_=>none
def ng (me:Int) (n:Int):Bool:=n == me
def nS (M:ML) (n:Int):Bool:=!jn M [n] 0
def cI (n:Int):Bool:=decide (n<0∨1099511627776<n)
structure lz (M:ML):Prop where
 h:∀ k cs,bK M k=some cs->∃ b,cs=[.val (.bool b)]
structure dH (n:Nat):Prop where
 h:n<=100000
def Em:aD:=fun args kb K=>match args,kb with
 | [aH (.sl 1 A)],[]=>∃ Ls,A=kD Ls/\dH Ls.length/\dH (gv Ls Ls.length).length/\K (.sl 0 0 (gv Ls Ls.length).length) [υ 3 1 (ints γ (gv Ls Ls.length))]
 |_,_=>False
def Es:aD:=fun args kb K=>match args,kb with
 | [.sl 0 0 n,.fn 74 [an 1 0]],[υ 3 1 A,aw [an 2 0],aw [.int γ me,δ a1,δ a2,δ a3,δ a4,δ a5,bD 128 C,δ a7,δ a8,δ a9,δ aE,aH (.sl 1 M),aH (.sl 1 J),δ aN,δ ο,δ π,δ aW,δ aF,δ aP,δ aG,δ a20,δ a21]]=>∃ l,A=ints γ l/\n<=l.length/\dH l.length/\K (.int γ (kw (ng me) (l.take n))) [υ 3 1 (ints γ l),aw [an 2 0],aw [.int γ me,δ a1,δ a2,δ a3,δ a4,δ a5,bD 128 C,δ a7,δ a8,δ a9,δ aE,aH (.sl 1 M),aH (.sl 1 J),δ aN,δ ο,δ π,δ aW,δ aF,δ aP,δ aG,δ a20,δ a21]]
 | [.sl 0 0 n,.fn 71 [an 1 0]],[υ 3 1 A,aw [.mp 2],.mp [γ] false false 1 M]=>∃ l,A=ints γ l/\n<=l.length/\dH l.length/\lz M/\K (.int γ (kw (nS M) (l.take n))) [υ 3 1 (ints γ l),aw [.mp 2],.mp [γ] false false 1 M]
 | [aH (.sl 1 A),.fn 92 []],[]=>∃ l,A=ints γ l/\dH l.length/\K (.int γ (kw cI l)) []
 |_,_=>False
def jb (me:Int) (l:List Int):List Int:=l.filter fun x=> !(x == me)
def vO (me:Int) (l:List Int):List Int:=jb me l++dp (l.length - (jb me l).length) 0
abbrev N6 (a1 a2 a3 a4 a5 a7 a8 a9 aE aN ο π aW aF aP aG a20 a21:Value) (C:List D) (M J:List (List D)) (me:Int) (l:List Int):LI where
 α:={j:Nat // j<=l.length/\(jb me (l.take j)).length<j}
 live:=[0,1,5,6]
 st j:=([.sl 0 0 l.length,.fn 74 [an 1 0],.int γ ((jb me (l.take j.1)).length:Int),.int γ (j.1:Int)],[υ 3 1 (ints γ (jb me (l.take j.1)++l.drop (jb me (l.take j.1)).length)),aw [an 2 0],aw [.int γ me,δ a1,δ a2,δ a3,δ a4,δ a5,bD 128 C,δ a7,δ a8,δ a9,δ aE,aH (.sl 1 M),aH (.sl 1 J),δ aN,δ ο,δ π,δ aW,δ aF,δ aP,δ aG,δ a20,δ a21]])
 μ j:=l.length - j.1
def Ys (a1 a2 a3 a4 a5 a7 a8 a9 aE aN ο π aW aF aP aG a20 a21:Value) (C:List D) (M J:List (List D)) (me:Int) (l:List Int):FuncId->Nat->Option LI
 | 72,5=>some (N6 a1 a2 a3 a4 a5 a7 a8 a9 aE aN ο π aW aF aP aG a20 a21 C M J me l)
 |_,_=>none
def Ep:aD:=fun args kb K=>match args,kb with
 | [.sl 0 0 n,.fn 74 [an 1 0]],[υ 3 1 A,aw [an 2 0],aw [.int γ me,δ a1,δ a2,δ a3,δ a4,δ a5,bD 128 C,δ a7,δ a8,δ a9,δ aE,aH (.sl 1 M),aH (.sl 1 J),δ aN,δ ο,δ π,δ aW,δ aF,δ aP,δ aG,δ a20,δ a21]]=>∃ l,A=ints γ l/\n=l.length/\dH l.length/\K (.sl 0 0 (jb me l).length) [υ 3 1 (ints γ (vO me l)),aw [an 2 0],aw [.int γ me,δ a1,δ a2,δ a3,δ a4,δ a5,bD 128 C,δ a7,δ a8,δ a9,δ aE,aH (.sl 1 M),aH (.sl 1 J),δ aN,δ ο,δ π,δ aW,δ aF,δ aP,δ aG,δ a20,δ a21]]
 |_,_=>False
def CO:FuncId->Option dK
 | 73=>some ⟨[.gj 1],Em⟩
 | 99=>some ⟨[],Es⟩
 |_=>none
noncomputable def AH:bN:=dU Tryz.prog CO aI 10
def Jv:FuncId->Option dK
 | 72=>some ⟨[],Ep⟩
 |f=>CO f
noncomputable def MC:bN:=dU Tryz.prog Jv aI 10
def bx (me:Int) (m j:List Int):List Int:=jb me (m++j)
def iu (me:Int) (m j:List Int):List Int:=vO me (m++j)
def vf:aD:=fun args kb K=>match args,kb with
 | [an 0 0],[aw [.int γ me,δ a1,δ a2,δ a3,δ a4,δ a5,bD 128 C,δ a7,δ a8,δ a9,δ aE,aH (.sl 1 M),aH (.sl 1 J),δ aN,δ ο,δ π,δ aW,δ aF,δ aP,δ aG,δ a20,δ a21]]=>∃ m j:List Int,M=ints γ m/\J=ints γ j/\dH (m.length+j.length)/\K (.sl 1 0 (bx me m j).length) [aw [.int γ me,δ a1,δ a2,δ a3,δ a4,δ a5,bD 128 C,δ a7,δ a8,δ a9,δ aE,aH (.sl 1 M),aH (.sl 1 J),δ aN,δ ο,δ π,δ aW,δ aF,δ aP,δ aG,δ a20,δ a21],υ 3 1 (ints γ (iu me m j))]
 |_,_=>False
def z7:aD:=fun args kb K=>match args,kb with
 | [.sl 0 0 n,.fn 71 [an 1 0]],[υ 3 1 A,aw [.mp 2],.mp [γ] false false 1 M]=>∃ l,A=ints γ l/\n<=l.length/\dH l.length/\lz M/\K (ξ ((l.take n).any (nS M))) [υ 3 1 (ints γ l),aw [.mp 2],.mp [γ] false false 1 M]
 | [aH (.sl 1 A),.fn 92 []],[]=>∃ l,A=ints γ l/\dH l.length/\K (ξ (l.any cI)) []
 |_,_=>False
theorem agx (Ls:List (List Int)) (K:V->KB->Prop) (ar:
 let ah:=ζ γ (↑(kD Ls).length:Int);At (FI Ls) ([aH (ω 1 (kD Ls)),ζ γ 0,aH (ω 1 (kD Ls)),ah,ζ γ 0],[])/\
 ∀(i:{i:Nat // i<=Ls.length }),(decide ((↑i.val:Int)<(↑Ls.length:Int))=true->
 aM (↑i.val:Int)/\
 ∃(e:List D),(kD Ls)[(↑i.val:Int).toNat]? =some e/\
 ∃(l:List (List D)),e[0]? =some (ω 1 l)/\
 (decide (γ.wrap ((↑(gv Ls i.val).length:Int)+(↑l.length:Int))<0)=true->
 False)/\
 (decide (γ.wrap ((↑(gv Ls i.val).length:Int)+(↑l.length:Int))<0)=false->
 Nx (FI Ls) i ([aH (ω 1 (kD Ls)),ζ γ (γ.wrap ((↑(gv Ls i.val).length:Int)+(↑l.length:Int))),aH (ω 1 (kD Ls)),ζ γ (↑Ls.length:Int),ζ γ (γ.wrap ((↑i.val:Int)+1))],[])))/\
 (decide ((↑i.val:Int)<(↑Ls.length:Int))=false->
 0<=(↑(gv Ls i.val).length:Int)/\
 (↑(gv Ls i.val).length:Int)<=1000000/\
 At (FJ Ls) ([ε 0 0 0,aH (ω 1 (kD Ls)),ah,ζ γ 0],[υ 3 1 []])/\
 ∀(i:{i:Nat // i<=Ls.length }),let κ:=(ints γ (gv Ls i.val));(decide ((↑i.val:Int)<(↑Ls.length:Int))=true->
 aM (↑i.val:Int)/\
 ∃(e:List D),(kD Ls)[(↑i.val:Int).toNat]? =some e/\
 ∃(l:List (List D)),e[0]? =some (ω 1 l)/\
 True/\
 (gv Ls i.val).length<=κ.length/\
 ((gv Ls i.val).length+l.length)*8<=140737488355328/\
 Nx (FJ Ls) i ([ε 0 0 ((gv Ls i.val).length+l.length),aH (ω 1 (kD Ls)),ζ γ (↑Ls.length:Int),ζ γ (γ.wrap ((↑i.val:Int)+1))],[υ 3 1 (aA (gv Ls i.val).length κ++l)]))/\
 (decide ((↑i.val:Int)<(↑Ls.length:Int))=false->
 K (ε 0 0 (gv Ls i.val).length) [υ 3 1 κ]))
 ):aK Tryz.prog Mu (Nq Ls 73) 73 [aH (.sl 1 (kD Ls))] [] K:=by apply Eq.mp (a:=ar);kernel_rfl
theorem agS (a1 a2 a3 a4 a5 a7 a8 a9 aE aN ο π aW aF aP aG a20 a21:Value) (C:List D) (M J:List (List D)) (p:Int->Bool) (l ln:List Int) (n:Nat) (me:Int) (K:V->KB->Prop) (ar:
 let κ:KB:=[υ 3 1 (ints γ l),aw [an 2 0],aw [ζ γ me,δ a1,δ a2,δ a3,δ a4,δ a5,bD 128 C,δ a7,δ a8,δ a9,δ aE,aH (ω 1 M),aH (ω 1 J),δ aN,δ ο,δ π,δ aW,δ aF,δ aP,δ aG,δ a20,δ a21]];let ah:=(B7 p ln (ε 0 0 n) (V.fn 74 [an 1 0]) κ);At ah ([ε 0 0 n,V.fn 74 [an 1 0],ζ γ (↑(n - 0):Int),ζ γ 0],κ)/\
 ∀(i:{i:Nat // i<=ln.length/\
 ∀(j:Nat) (n:Int),j<i->
 ln[j]? =some n->
 p n=false }),(decide ((↑i.val:Int)<(↑ln.length:Int))=true->
 bj (↑i.val:Int) (n - 0)/\
 ∃(e:List D),(ints γ l)[0+(↑i.val:Int).toNat]? =some e/\
 ∃(n_1:Int),e[0]? =some (η (φ γ n_1))/\
 ((n_1 == me)=true->
 K (ζ γ (↑i.val:Int)) κ)/\
 ((n_1 == me)=false->
 Nx ah i ([ε 0 0 n,V.fn 74 [an 1 0],ζ γ (↑ln.length:Int),ζ γ (γ.wrap ((↑i.val:Int)+1))],κ)))/\
 (decide ((↑i.val:Int)<(↑ln.length:Int))=false->
 K (ζ γ (-1)) κ)
 ):aK Tryz.prog X0 (H_ p ln (.sl 0 0 n) (.fn 74 [an 1 0]) [υ 3 1 (ints γ l),aw [an 2 0],aw [.int γ me,δ a1,δ a2,δ a3,δ a4,δ a5,bD 128 C,δ a7,δ a8,δ a9,δ aE,aH (.sl 1 M),aH (.sl 1 J),δ aN,δ ο,δ π,δ aW,δ aF,δ aP,δ aG,δ a20,δ a21]] 99) 99 [.sl 0 0 n,.fn 74 [an 1 0]] [υ 3 1 (ints γ l),aw [an 2 0],aw [.int γ me,δ a1,δ a2,δ a3,δ a4,δ a5,bD 128 C,δ a7,δ a8,δ a9,δ aE,aH (.sl 1 M),aH (.sl 1 J),δ aN,δ ο,δ π,δ aW,δ aF,δ aP,δ aG,δ a20,δ a21]] K:=by apply Eq.mp (a:=ar);kernel_rfl
theorem agT (p:Int->Bool) (l ln:List Int) (n:Nat) (M:ML) (K:V->KB->Prop) (ar:
 let κ:KB:=[υ 3 1 (ints γ l),aw [bb 2],KO.mp [γ] false false 1 M];let ah:=(B7 p ln (ε 0 0 n) (V.fn 71 [an 1 0]) κ);At ah ([ε 0 0 n,V.fn 71 [an 1 0],ζ γ (↑(n - 0):Int),ζ γ 0],κ)/\
 ∀(i:{i:Nat // i<=ln.length/\
 ∀(j:Nat) (n:Int),j<i->
 ln[j]? =some n->
 p n=false }),(decide ((↑i.val:Int)<(↑ln.length:Int))=true->
 bj (↑i.val:Int) (n - 0)/\
 ∃(e:List D),(ints γ l)[0+(↑i.val:Int).toNat]? =some e/\
 ∃(n_1:Int),e[0]? =some (η (φ γ n_1))/\
 (∀(cs:List D),bK M [n_1]=some cs->
 gQ [CK.bool] cs)/\
 ((!jn M [n_1] 0)=true->
 K (ζ γ (↑i.val:Int)) κ)/\
 ((!jn M [n_1] 0)=false->
 Nx ah i ([ε 0 0 n,V.fn 71 [an 1 0],ζ γ (↑ln.length:Int),ζ γ (γ.wrap ((↑i.val:Int)+1))],κ)))/\
 (decide ((↑i.val:Int)<(↑ln.length:Int))=false->
 K (ζ γ (-1)) κ)
 ):aK Tryz.prog X0 (H_ p ln (.sl 0 0 n) (.fn 71 [an 1 0]) [υ 3 1 (ints γ l),aw [.mp 2],.mp [γ] false false 1 M] 99) 99 [.sl 0 0 n,.fn 71 [an 1 0]] [υ 3 1 (ints γ l),aw [.mp 2],.mp [γ] false false 1 M] K:=by apply Eq.mp (a:=ar);kernel_rfl
theorem agU (p:Int->Bool) (l:List Int) (K:V->KB->Prop) (ar:
 let κ:=(ω 1 (ints γ l));let az:=(B7 p l (aH κ) (V.fn 92 []) []);At az ([aH κ,V.fn 92 [],ζ γ (↑(ints γ l).length:Int),ζ γ 0],[])/\
 ∀(i:{i:Nat // i<=l.length/\
 ∀(j:Nat) (n:Int),j<i->
 l[j]? =some n->
 p n=false }),let ah:=K (ζ γ (↑i.val:Int)) [];(decide ((↑i.val:Int)<(↑l.length:Int))=true->
 aM (↑i.val:Int)/\
 ∃(e:List D),(ints γ l)[(↑i.val:Int).toNat]? =some e/\
 ∃(n:Int),e[0]? =some (η (φ γ n))/\
 (decide (n<0)=true->
 ah)/\
 (decide (n<0)=false->
 (decide (n > 1099511627776)=true->
 ah)/\
 (decide (n > 1099511627776)=false->
 Nx az i ([aH κ,V.fn 92 [],ζ γ (↑l.length:Int),ζ γ (γ.wrap ((↑i.val:Int)+1))],[]))))/\
 (decide ((↑i.val:Int)<(↑l.length:Int))=false->
 K (ζ γ (-1)) [])
 ):aK Tryz.prog X0 (H_ p l (aH (.sl 1 (ints γ l))) (.fn 92 []) [] 99) 99 [aH (.sl 1 (ints γ l)),.fn 92 []] [] K:=by apply Eq.mp (a:=ar);kernel_rfl
theorem agC (a1 a2 a3 a4 a5 a7 a8 a9 aE aN ο π aW aF aP aG a20 a21:Value) (C:List D) (M J:List (List D)) (l:List Int) (me:Int) (K:V->KB->Prop) (ar:
 let aL:=(N6 a1 a2 a3 a4 a5 a7 a8 a9 aE aN ο π aW aF aP aG a20 a21 C M J me l);let κ:=aw [ζ γ me,δ a1,δ a2,δ a3,δ a4,δ a5,bD 128 C,δ a7,δ a8,δ a9,δ aE,aH (ω 1 M),aH (ω 1 J),δ aN,δ ο,δ π,δ aW,δ aF,δ aP,δ aG,δ a20,δ a21];∃(l_1:List Int),let aV:KB:=[υ 3 1 (ints γ l_1),aw [an 2 0],κ];let aJ:=(aA l.length l_1);ints γ l=ints γ l_1/\
 l.length<=l_1.length/\
 dH l_1.length/\
 ((kw (ng me) aJ == -1)=true->
 K (ε 0 0 l.length) aV)/\
 ((kw (ng me) aJ == -1)=false->
 At aL ([ε 0 0 l.length,V.fn 74 [an 1 0],ζ γ (kw (ng me) aJ),ζ γ (γ.wrap (kw (ng me) aJ+1))],aV)/\
 ∀(i:{j:Nat // j<=l.length/\
 (jb me (aA j l)).length<j }),let bC:=(↑i.val:Int)<(↑(l.length - 0):Int);let bp:=ζ γ (γ.wrap ((↑i.val:Int)+1));let az:=(jb me (aA i.val l));let cf:=(↑az.length:Int).toNat<=l.length - 0;let ah:=(ints γ (jb me (aA i.val l)++ax az.length l));(decide (bC)=true->
 bj (↑i.val:Int) (l.length - 0)/\
 ∃(e:List D),ah[0+(↑i.val:Int).toNat]? =some e/\
 ∃(n:Int),e[0]? =some (η (φ γ n))/\
 ((!n == me)=true->
 bj (↑az.length:Int) (l.length - 0)/\
 0+(↑az.length:Int).toNat<ah.length/\
 Nx aL i ([ε 0 0 l.length,V.fn 74 [an 1 0],ζ γ (γ.wrap ((↑az.length:Int)+1)),bp],[υ 3 1 (ah.set (0+(↑az.length:Int).toNat) [η (φ γ n)]),aw [an 2 0],κ]))/\
 ((!n == me)=false->
 Nx aL i ([ε 0 0 l.length,V.fn 74 [an 1 0],ζ γ (↑az.length:Int),bp],[υ 3 1 ah,aw [an 2 0],κ])))/\
 (decide (bC)=false->
 aM (↑az.length:Int)/\
 True/\
 cf/\
 l.length - 0<=l.length - 0/\
 0+(l.length - 0)<=ah.length/\
 True/\
 aM (↑az.length:Int)/\
 0<=(↑az.length:Int).toNat/\
 cf/\
 K (ε 0 0 (0+(↑az.length:Int).toNat)) [υ 3 1 (splice ah (0+(↑az.length:Int).toNat) (dp (0+(l.length - 0) - (0+(↑az.length:Int).toNat)) [η (φ γ 0)])),aw [an 2 0],κ]))
 ):aK Tryz.prog AH (Ys a1 a2 a3 a4 a5 a7 a8 a9 aE aN ο π aW aF aP aG a20 a21 C M J me l 72) 72 [.sl 0 0 l.length,.fn 74 [an 1 0]] [υ 3 1 (ints γ l),aw [an 2 0],aw [.int γ me,δ a1,δ a2,δ a3,δ a4,δ a5,bD 128 C,δ a7,δ a8,δ a9,δ aE,aH (.sl 1 M),aH (.sl 1 J),δ aN,δ ο,δ π,δ aW,δ aF,δ aP,δ aG,δ a20,δ a21]] K:=by apply Eq.mp (a:=ar);kernel_rfl
theorem ahf (a1 a2 a3 a4 a5 a7 a8 a9 aE aN ο π aW aF aP aG a20 a21:Value) (C:List D) (me:Int) (M J:List (List D)) (K:V->KB->Prop) (ar:
 (2<=2/\
 True)/\
 ∃(Ls:List (List Int)),[[ω 1 M],[ω 1 J]]=kD Ls/\
 dH Ls.length/\
 dH (gv Ls Ls.length).length/\
 o7 (ints γ (gv Ls Ls.length)).flatten/\
 ∃(l:List Int),ints γ (gv Ls Ls.length)=ints γ l/\
 (gv Ls Ls.length).length=l.length/\
 dH l.length/\
 K (ε 1 0 (jb me l).length) [aw [ζ γ me,δ a1,δ a2,δ a3,δ a4,δ a5,bD 128 C,δ a7,δ a8,δ a9,δ aE,aH (ω 1 M),aH (ω 1 J),δ aN,δ ο,δ π,δ aW,δ aF,δ aP,δ aG,δ a20,δ a21],υ 3 1 (ints γ (vO me l))]
 ):aK Tryz.prog MC (aI 44) 44 [an 0 0] [aw [.int γ me,δ a1,δ a2,δ a3,δ a4,δ a5,bD 128 C,δ a7,δ a8,δ a9,δ aE,aH (.sl 1 M),aH (.sl 1 J),δ aN,δ ο,δ π,δ aW,δ aF,δ aP,δ aG,δ a20,δ a21]] (dx 1 K):=by apply Eq.mp (a:=ar);kernel_rfl
theorem agy (A:List (List D)) (n:Nat) (M:ML) (K:V->KB->Prop) (ar:
 ∃(l:List Int),A=ints γ l/\
 n<=l.length/\
 dH l.length/\
 lz M/\
 K (ξ (decide (kw (nS M) (aA n l) ≥ 0))) [υ 3 1 (ints γ l),aw [bb 2],KO.mp [γ] false false 1 M]
 ):aK Tryz.prog AH (aI 70) 70 [.sl 0 0 n,.fn 71 [an 1 0]] [υ 3 1 (A),aw [.mp 2],.mp [γ] false false 1 M] K:=by apply Eq.mp (a:=ar);kernel_rfl
theorem agz (A:List (List D)) (K:V->KB->Prop) (ar:
 ∃(l:List Int),A=ints γ l/\
 dH l.length/\
 K (ξ (decide (kw cI l ≥ 0))) []
 ):aK Tryz.prog AH (aI 70) 70 [aH (.sl 1 A),.fn 92 []] [] K:=by apply Eq.mp (a:=ar);kernel_rfl
theorem Bs {p:Int->Bool} {l:List Int} {i:Nat} {n:Int} (h:∀ j n,j<i->l[j]? =some n->p n=false) (hi:l[i]? =some n) (hp:p n=true):kw p l=(i:Int):=by
 obtain⟨hl,he⟩:=bO.1 hi
 have:l.findIdx? p=some i:=List.findIdx?_eq_some_iff_getElem.2 ⟨hl,by rw[he];exact hp,fun j hj=>by
  rw[h j l[j] hj (bz _)];simp⟩
 unfold kw;rw[this]
theorem G2 {p:Int->Bool} {l:List Int} (h:∀ j n,j<l.length->l[j]? =some n->p n=false):kw p l=-1:=by
 have:l.findIdx? p=none:=List.findIdx?_eq_none_iff.2 fun x hx=>by
  obtain⟨j,hj,rfl⟩:=List.getElem_of_mem hx
  exact h j _ hj (bz _)
 unfold kw;rw[this]
theorem G1 (p:Int->Bool) (l:List Int):(kw p l=-1/\∀ n∈l,p n=false)∨∃(i:Nat) (n:Int),kw p l=i/\l[i]? =some n/\p n=true/\∀ j n,j<i->l[j]? =some n->p n=false:=by
 unfold kw
 cases h:l.findIdx? p with
 |none=>exact .inl ⟨rfl,List.findIdx?_eq_none_iff.1 h⟩
 |some i=>
  obtain⟨h1,h2,h3⟩:=List.findIdx?_eq_some_iff_getElem.1 h
  refine .inr ⟨i,l[i],rfl,bz _,h2,fun j n hj hn=>?_⟩
  obtain⟨hl,he⟩:=bO.1 hn
  have:=h3 j hj
  rw[he]at this
  simpa using this
theorem MT (p:Int->Bool) (l:List Int):decide (kw p l ≥ 0)=l.any p:=by
 rcases G1 p l with ⟨h1,h2⟩ | ⟨i,n,h1,h2,h3,_⟩
 ·rw[h1,List.any_eq_false.2 (fun x hx=>by rw[h2 x hx];simp)];rfl
 ·rw[h1,List.any_eq_true.2 ⟨n,gG h2,h3⟩]
  simp
theorem Zp:dP Tryz.prog Ha:=fun f k h=>by
 unfold Ha at h
 split at h<;>first | (cases h;exact ab1) | cases h
theorem WO:b9 Tryz.prog Mu:=dY mixed Zp aI 10
theorem OO {Ls:List (List Int)} {i:Nat} (h:i<Ls.length):gv Ls (i+1)=gv Ls i++Ls[i]:=by
 unfold gv
 rw[j2,bz h,List.flatten_append]
 simp only[Option.toList_some,jt,List.flatten_nil,fu]
theorem Bp {Ls:List (List Int)} {i:Nat} (h:i<=Ls.length):(gv Ls i).length<=(gv Ls Ls.length).length:=by
 unfold gv
 rw[cZ]
 conv=>rhs;rw[<- List.take_append_drop i Ls]
 rw[List.flatten_append,bo]
 omega
theorem Q1 {Ls:List (List Int)} {i:Nat} (h:i<Ls.length):(kD Ls)[(i:Int).toNat]? =some [ω 1 (ints γ Ls[i])]:=by
 rw[dD];unfold kD;rw[fH,bz h];rfl
theorem Q2 {Ls:List (List Int)}:(kD Ls).length=Ls.length:=by unfold kD;rw[cp]
theorem abQ:aR Tryz.prog 73 Em:=fC WO mixed (fun args kb K h=>by
 unfold Em at h;split at h<;>try exact h.elim
 obtain⟨Ls,rfl,⟨hl0⟩,⟨hl⟩,h⟩:=h
 refine⟨Nq Ls 73,agx Ls K ⟨?_,?_⟩⟩
 ·rw[Q2]
  exact At.mk' ⟨0,bt _⟩ rfl
 rintro⟨i,hi⟩
 simp only[decide_eq_true_eq,decide_eq_false_iff_not]
 have hle:=Bp hi
 refine⟨fun hc=>?_,fun hc=>?_⟩
 ·have hi2:i<Ls.length:=by omega
  have hs:=OO hi2
  have hle2:=Bp (show i+1<=Ls.length by omega)
  have kB:=congrArg List.length hs
  rw[bo]at kB
  refine⟨by unfold aM;omega,_,Q1 hi2,_,rfl,?_⟩
  rw[bh,bS (by omega) (by omega),bS (by omega) (by omega)]
  refine⟨fun f=>by omega,fun _=>?_⟩
  refine Nx.mk' (⟨i+1,by omega⟩:{i:Nat // i<=Ls.length}) ?_ (by show Ls.length - (i+1)<Ls.length - i;omega)
  show(_:List V×KB)=_
  have e:((gv Ls i).length:Int)+(Ls[i].length:Int)=((gv Ls (i+1)).length:Int):=by omega
  rw[e];rfl
 have:i=Ls.length:=by omega
 subst this
 refine⟨by omega,by omega,?_,?_⟩
 ·rw[Q2]
  exact At.mk' ⟨0,bt _⟩ rfl
 rintro⟨i,hi⟩
 have hle:=Bp hi
 dsimp only
 refine⟨fun hc=>?_,fun hc=>?_⟩
 ·have hi2:i<Ls.length:=by omega
  have hs:=OO hi2
  have hle2:=Bp (show i+1<=Ls.length by omega)
  have kB:=congrArg List.length hs
  rw[bo]at kB
  refine⟨by unfold aM;omega,_,Q1 hi2,_,rfl,trivial,by rw[bh];omega,by rw[bh];omega,?_⟩
  rw[bh,bS (by omega) (by omega)]
  refine Nx.mk' (⟨i+1,by omega⟩:{i:Nat // i<=Ls.length}) ?_ (by show Ls.length - (i+1)<Ls.length - i;omega)
  show(_:List V×KB)=_
  rw[qk,cZ,<- qj,<- hs,<- kB];rfl
 ·have:i=Ls.length:=by omega
  subst this
  exact h)
theorem Mg {l:List Int} {n i:Nat} {m:Int} (h:(l.take n)[i]? =some m):(ints γ l)[0+(i:Int).toNat]? =some [η (.int γ m)]/\i<n:=by
 obtain⟨hl,he⟩:=bO.1 h
 rw[dc]at hl
 have:i<n:=by omega
 rw[ji this]at h
 rw[cQ,dD,mb,h]
 exact⟨rfl,this⟩
theorem ab_:aR Tryz.prog 99 Es:=fC hZ mixed (fun args kb K h=>by
 unfold Es at h;split at h<;>try exact h.elim
 ·rename_i n A me a1 a2 a3 a4 a5 C a7 a8 a9 aE MM JJ aN ο π aW aF aP aG a20 a21
  obtain⟨l,rfl,hn,⟨hl⟩,h⟩:=h
  have hlen:(l.take n).length=n:=by rw[dc];omega
  refine⟨_,agS _ _ _ _ _ _ _ _ _ _ _ _ _ _ _ _ _ _ _ _ _ (ng me) l (l.take n) n me K ⟨?_,?_⟩⟩
  ·rw[kV]
   refine At.mk' ⟨0,bt _,fun j _ hj=>absurd hj (Nat.not_lt_zero _)⟩ ?_
   show(_:List V×KB)=_
   simp only[hlen];rfl
  rintro⟨i,hi,hp⟩
  simp only[decide_eq_true_eq,decide_eq_false_iff_not,hlen]at hi ⊢
  refine⟨fun hc=>?_,fun hc=>?_⟩
  ·have hil:i<(l.take n).length:=by omega
   have hg:=bz hil
   obtain⟨g1,g2⟩:=Mg hg
   refine⟨by unfold bj;omega,_,g1,_,rfl,fun h1=>?_,fun h1=>?_⟩
   ·rw[Bs hp hg h1]at h;exact h
   ·rw[bS (by omega) (by omega)]
    refine Nx.mk' (⟨i+1,by omega,fun j m hj hm=>?_⟩:{i:Nat // i<=(l.take n).length/\∀ j n',j<i->(l.take n)[j]? =some n'->ng me n'=false}) ?_ (by show(l.take n).length - (i+1)<(l.take n).length - i;omega)
    ·by_cases hji:j=i
     ·subst hji;rw[hg]at hm;cases hm;exact h1
     ·exact hp j m (by omega) hm
    ·show(_:List V×KB)=_
     simp only[hlen];rfl
  ·rw[G2 (fun j m hj hm=>hp j m (by omega) hm)]at h;exact h
 ·rename_i n A M
  obtain⟨l,rfl,hn,⟨hl⟩,hM,h⟩:=h
  have hlen:(l.take n).length=n:=by rw[dc];omega
  refine⟨_,agT (nS M) l (l.take n) n M K ⟨?_,?_⟩⟩
  ·rw[kV]
   refine At.mk' ⟨0,bt _,fun j _ hj=>absurd hj (Nat.not_lt_zero _)⟩ ?_
   show(_:List V×KB)=_
   simp only[hlen];rfl
  rintro⟨i,hi,hp⟩
  simp only[decide_eq_true_eq,decide_eq_false_iff_not,hlen]at hi ⊢
  refine⟨fun hc=>?_,fun hc=>?_⟩
  ·have hil:i<(l.take n).length:=by omega
   have hg:=bz hil
   obtain⟨g1,g2⟩:=Mg hg
   refine⟨by unfold bj;omega,_,g1,_,rfl,fun cs hcs=>?_,fun h1=>?_,fun h1=>?_⟩
   ·obtain⟨b,rfl⟩:=hM.h _ _ hcs
    exact⟨_,_,rfl,rfl⟩
   ·rw[Bs hp hg h1]at h;exact h
   ·rw[bS (by omega) (by omega)]
    refine Nx.mk' (⟨i+1,by omega,fun j m hj hm=>?_⟩:{i:Nat // i<=(l.take n).length/\∀ j n',j<i->(l.take n)[j]? =some n'->nS M n'=false}) ?_ (by show(l.take n).length - (i+1)<(l.take n).length - i;omega)
    ·by_cases hji:j=i
     ·subst hji;rw[hg]at hm;cases hm;exact h1
     ·exact hp j m (by omega) hm
    ·show(_:List V×KB)=_
     simp only[hlen];rfl
  ·rw[G2 (fun j m hj hm=>hp j m (by omega) hm)]at h;exact h
 ·rename_i A
  obtain⟨l,rfl,⟨hl⟩,h⟩:=h
  refine⟨_,agU cI l K ⟨?_,?_⟩⟩
  ·rw[bh]
   exact At.mk' ⟨0,bt _,fun j _ hj=>absurd hj (Nat.not_lt_zero _)⟩ rfl
  rintro⟨i,hi,hp⟩
  simp only[decide_eq_true_eq,decide_eq_false_iff_not]at hi ⊢
  refine⟨fun hc=>?_,fun hc=>?_⟩
  ·have hil:i<l.length:=by omega
   have hg:=bz hil
   refine⟨by unfold aM;omega,[η (.int γ l[i])],by rw[dD,mb,hg];rfl,_,rfl,fun h1=>?_,fun h1=>⟨fun h2=>?_,fun h2=>?_⟩⟩
   ·rw[Bs hp hg (by unfold cI;simp;omega)]at h;exact h
   ·rw[Bs hp hg (by unfold cI;simp;omega)]at h;exact h
   ·rw[bS (by omega) (by omega)]
    refine Nx.mk' (⟨i+1,by omega,fun j m hj hm=>?_⟩:{i:Nat // i<=l.length/\∀ j n',j<i->l[j]? =some n'->cI n'=false}) rfl (by show l.length - (i+1)<l.length - i;omega)
    by_cases hji:j=i
    ·subst hji;rw[hg]at hm;cases hm;unfold cI;simp;omega
    ·exact hp j m (by omega) hm
  ·rw[G2 (fun j m hj hm=>hp j m (by omega) hm)]at h;exact h)
theorem QE {me:Int} {l:List Int} {j:Nat} {n:Int} (h:l[j]? =some n):jb me (l.take (j+1))=jb me (l.take j)++if n=me then[]else[n]:=by
 unfold jb
 rw[j2,h,List.filter_append]
 congr 1
 by_cases hn:n=me<;>simp [hn]
theorem QD {me:Int} {l:List Int} (h:∀ n∈l,ng me n=false):jb me l=l:=List.filter_eq_self.2 fun n hn=>by have:=h n hn;unfold ng at this;rw[this];rfl
theorem B8 (me:Int) (l:List Int):(jb me l).length<=l.length:=List.length_filter_le ..
theorem aev {l k:List Int} {j:Nat} {n:Int} (h:l[j]? =some n) (hk:k.length<=j):(k++l.drop k.length)[j]? =some n:=by
 rw[e_ hk,jE,show k.length+(j - k.length)=j by omega,h]
theorem aex {l k:List Int} {n:Int} (h:k.length<l.length):(k++l.drop k.length).set k.length n=(k++[n])++l.drop (k++[n]).length:=by
 rw[List.set_append_right _ _ (au _),Nat.sub_self,eH]
 congr 1
 rw[List.drop_eq_getElem_cons h,List.set_cons_zero,bo,iL];rfl
theorem aew {l k:List Int} (h:k.length<=l.length):splice (ints γ (k++l.drop k.length)) k.length (dp (l.length - k.length) [η (.int γ 0)])=ints γ (k++dp (l.length - k.length) 0):=by
 unfold splice
 rw[List.length_replicate,qk,List.take_left,B0,show k.length+(l.length - k.length)=(k++l.drop k.length).length by rw[bo,fZ],List.drop_length,qj,aaC]
 simp [ints]
theorem SN:dP Tryz.prog CO:=fun f k h=>by
 unfold CO at h
 split at h<;>first | (cases h;first | exact abQ | exact ab_) | cases h
theorem MA:b9 Tryz.prog AH:=dY mixed SN aI 10
theorem abT:aR Tryz.prog 72 Ep:=fC MA mixed (fun args kb K h=>by
 unfold Ep at h;split at h<;>try exact h.elim
 rename_i n A me a1 a2 a3 a4 a5 C a7 a8 a9 aE M J aN ο π aW aF aP aG a20 a21
 obtain⟨l,rfl,rfl,⟨hl⟩,h⟩:=h
 refine⟨_,agC _ _ _ _ _ _ _ _ _ _ _ _ _ _ _ _ _ _ _ M J l me K ⟨l,rfl,au _,⟨hl⟩,?_,?_⟩⟩
 all_goals rw[cZ]
 ·intro hf
  have hf:kw (ng me) l=-1:=by simpa using hf
  rcases G1 (ng me) l with ⟨_,h2⟩ | ⟨i,n,h1,_⟩
  ·have e:=QD h2
   unfold vO at h
   rw[e,Nat.sub_self]at h
   simpa using h
  ·omega
 ·intro hf
  have hf:¬ kw (ng me) l=-1:=by simpa using hf
  rcases G1 (ng me) l with ⟨h1,_⟩ | ⟨i,n,h1,h2,h3,h4⟩
  ·exact absurd h1 hf
  have hil:i<l.length:=(bO.1 h2).1
  have hn:n=me:=by simpa [ng]using h3
  have ek:jb me (l.take i)=l.take i:=QD fun m hm=>by
   obtain⟨j,hj,rfl⟩:=List.getElem_of_mem hm
   rw[dc]at hj
   exact h4 j _ (by omega) (by rw[List.getElem_take,bz])
  have Oh:jb me (l.take (i+1))=l.take i:=by rw[QE h2,ek,if_pos hn,fu]
  have el:(l.take i).length=i:=by rw[dc];omega
  refine⟨?_,?_⟩
  ·refine At.mk' ⟨i+1,by omega,by rw[Oh,el];omega⟩ ?_
   show(_:List V×KB)=_
   dsimp only
   rw[Oh,el,List.take_append_drop,h1,bS (by omega) (by omega)];rfl
  rintro⟨j,hj,hk⟩
  dsimp only
  have hks:=B8 me (l.take j)
  simp only[decide_eq_true_eq,decide_eq_false_iff_not,kV,cQ,dD]
  refine⟨fun hc=>?_,fun hc=>?_⟩
  ·have hjl:j<l.length:=by omega
   have hg:=bz hjl
   have hs:=QE (me:=me) hg
   refine⟨by unfold bj;omega,[η (.int γ l[j])],by rw[mb,aev hg (by omega)];rfl,_,rfl,fun h5=>?_,fun h5=>?_⟩
   ·have h5:¬ l[j]=me:=by simpa using h5
    rw[if_neg h5]at hs
    refine⟨by unfold bj;omega,by rw[bh,bo,fZ];omega,?_⟩
    rw[bS (by omega) (by omega),bS (by omega) (by omega)]
    refine Nx.mk' (⟨j+1,by omega,by rw[hs,bo,iL];omega⟩:{j:Nat // j<=l.length/\(jb me (l.take j)).length<j}) ?_ (by show l.length - (j+1)<l.length - j;omega)
    show(_:List V×KB)=_
    dsimp only
    rw[ints_set,aex (by omega),<- hs]
    have:((jb me (l.take j)).length:Int)+1=((jb me (l.take (j+1))).length:Int):=by rw[hs,bo,iL];omega
    rw[this];rfl
   ·have h5:l[j]=me:=by simpa using h5
    rw[if_pos h5,fu]at hs
    rw[bS (by omega) (by omega)]
    refine Nx.mk' (⟨j+1,by omega,by rw[hs];omega⟩:{j:Nat // j<=l.length/\(jb me (l.take j)).length<j}) ?_ (by show l.length - (j+1)<l.length - j;omega)
    show(_:List V×KB)=_
    dsimp only
    rw[hs];rfl
  ·have:j=l.length:=by omega
   subst this
   rw[cZ]at hks hk ⊢
   refine⟨by unfold aM;omega,trivial,by omega,by omega,by rw[bh,bo,fZ];omega,trivial,by unfold aM;omega,by omega,by omega,?_⟩
   rw[aew (B8 _ _)]
   exact h)
theorem adB:dP Tryz.prog Jv:=fun f k h=>by
 unfold Jv at h
 split at h
 ·cases h;exact abT
 ·exact SN _ _ h
theorem WV:b9 Tryz.prog MC:=dY mixed adB aI 10
theorem R0:aR Tryz.prog 70 z7:=fC MA mixed (fun args kb K h=>by
 unfold z7 at h;split at h<;>try exact h.elim
 ·rename_i n A M
  obtain⟨l,rfl,hn,hl,hM,h⟩:=h
  refine⟨_,agy _ n M K ⟨l,rfl,hn,hl,hM,?_⟩⟩
  rw[MT];exact h
 ·rename_i A
  obtain⟨l,rfl,hl,h⟩:=h
  refine⟨_,agz _ K ⟨l,rfl,hl,?_⟩⟩
  rw[MT];exact h)
theorem CJ:aR Tryz.prog 44 vf:=lh WV mixed (fun args kb K h=>by
 unfold vf at h;split at h<;>try exact h.elim
 rename_i me a1 a2 a3 a4 a5 C a7 a8 a9 aE M J aN ο π aW aF aP aG a20 a21
 obtain⟨m,j,rfl,rfl,⟨hl⟩,h⟩:=h
 have e:gv [m,j] [m,j].length=m++j:=by unfold gv;simp
 refine⟨_,ahf _ _ _ _ _ _ _ _ _ _ _ _ _ _ _ _ _ _ _ me _ _ K ⟨⟨au _,trivial⟩,[m,j],rfl,⟨by show 2<=100000;omega⟩,⟨by rw[e,bo];exact hl⟩,?_⟩⟩
 rw[e]
 refine⟨⟨pJ⟩,m++j,rfl,rfl,⟨by rw[bo];exact hl⟩,h⟩)
structure Op where
 cl:Int
 nm:Int
 kd:Int
 bk:Int
 b:List Int
def bn (o:Op):List D:=[dn γ o.cl,dn γ o.nm,dn γ o.kd,dn γ o.bk,.sl 1 (ints ν o.b)]
def fW (to kind id ep:Int) (N B L:List (List D)):List D:=[dn γ to,dn γ kind,.sl 1 ([[dn γ id],[dn γ ep]]++N),.sl 1 B,.sl 1 L]
def Gc (o:Op) (e:Int) (X:List (List D)):List D:=[dn γ o.cl,dn γ o.nm,dn γ o.kd,dn γ o.bk,.sl 1 (ints ν o.b),dn γ e,.sl 1 X]
def yl:Option Op->List (List D)
 |none=>[]
 |some p=>[Gc p 19 []]
structure bP (n:Nat):Prop where
 h:n<=1000000
def Ap:aD:=fun args kb K=>match args,kb with
 | [an 0 0,.int γ to,.int γ kind,aH (.sl 1 N),aH (.sl 1 B),aH (.sl 1 L)],[aw [δ a0,.int γ id,δ a2,δ a3,.int γ ep,δ a5,bD 128 C,δ a7,δ a8,δ a9,δ aE,δ aZ,δ a12,δ aN,δ ο,δ π,δ aW,δ aF,δ aP,δ aG,.sl 1 0 n,δ a21],υ 107 5 (A)]=>n=A.length/\bP n/\bP N.length/\K (.χ []) [aw [δ a0,.int γ id,δ a2,δ a3,.int γ ep,δ a5,bD 128 C,δ a7,δ a8,δ a9,δ aE,δ aZ,δ a12,δ aN,δ ο,δ π,δ aW,δ aF,δ aP,δ aG,.sl 2 0 (n+1),δ a21],aa,υ 107 5 (A++[fW to kind id ep N B L])]
 |_,_=>False
def Ax:aD:=fun args kb K=>match args,kb with
 | [an 0 0],[aw [δ a0,δ a1,δ a2,δ a3,δ a4,δ a5,bD 128 C,δ a7,δ a8,δ a9,δ aE,δ aZ,δ a12,ξ ld,δ ο,δ π,.af o,δ aF,δ aP,δ aG,δ a20,.sl 1 0 n],υ 70 7 (A)]=>n=A.length/\bP n/\∃ q,o=mU bn q/\K (.χ []) [aw [δ a0,δ a1,δ a2,δ a3,δ a4,δ a5,bD 128 C,δ a7,δ a8,δ a9,δ aE,δ aZ,δ a12,ξ false,δ ο,δ π,.af none,δ aF,δ aP,δ aG,δ a20,.sl 2 0 (A++yl q).length],aa,υ 70 7 (A++yl q)]
 |_,_=>False
def Ki:FuncId->Option dK
 | 75=>some ⟨[.my,.my,.my,.fk 1,.fk 1,.fk 1],eB [true,false,true,true,false,true,false,true,true,true,true,true,true,true,true,true,true,true,true,true,false,true] Ap⟩
 | 38=>some ⟨[],eB [true,true,true,true,true,true,false,true,true,true,true,true,true,true,true,true,true,true,true,true,true,true] zY⟩
 | 49=>some ⟨[],eB [true,true,true,true,true,true,false,true,true,true,true,true,true,true,true,true,true,true,true,true,true,true] xe⟩
 | 39=>some ⟨[],eB [true,true,true,true,true,true,false,false,true,true,true,true,true,true,true,true,true,true,true,true,true,true] Ar⟩
 |_=>none
noncomputable def AI:bN:=dU Tryz.prog Ki aI 10
def Ey:aD:=fun args kb K=>match args,kb with
 | [an 0 0,.int γ to],[aw [δ a0,.int γ id,δ a2,δ a3,.int γ ep,.int γ nu,bD 128 C,δ a7,δ a8,δ a9,δ aE,δ aZ,δ a12,δ aN,δ ο,δ π,δ aW,δ aF,δ aP,δ aG,.sl 1 0 n,δ a21],υ 107 5 (A)]=>n=A.length/\bP n/\K (.χ []) [aw [δ a0,.int γ id,δ a2,δ a3,.int γ ep,.int γ nu,bD 128 C,δ a7,δ a8,δ a9,δ aE,δ aZ,δ a12,δ aN,δ ο,δ π,δ aW,δ aF,δ aP,δ aG,.sl 2 0 (n+1),δ a21],aa,υ 107 5 (A++[fW to 14 id ep [[dn γ nu]] [] []])]
 |_,_=>False
structure iJ (C:List D) (c:List Int):Prop where
 e:C=aU ν c
 l:c.length=128
 b:bm c
def mM (to id ep nu:Int) (c:List Int) (x:List L3):List D:=fW to 10 id ep [[dn γ nu]] (ints ν (bZ c)) [[.sl 1 (ints ν (be x))]]
def xi:aD:=fun args kb K=>match args,kb with
 | [an 0 0,.int γ to],[aw [δ a0,.int γ id,δ a2,δ a3,.int γ ep,.int γ nu,bD 128 C,.imp [γ] false true 2 M,δ a8,δ a9,δ aE,δ aZ,δ a12,δ aN,δ ο,δ π,δ aW,δ aF,δ aP,δ aG,.sl 1 0 n,δ a21],υ 107 5 (A)]=>n=A.length/\bP n/\∃ c x,iJ C c/\bG M x/\K (.χ []) [aw [δ a0,.int γ id,δ a2,δ a3,.int γ ep,.int γ nu,bD 128 (aU ν c),ai M,δ a8,δ a9,δ aE,δ aZ,δ a12,δ aN,δ ο,δ π,δ aW,δ aF,δ aP,δ aG,.sl 2 0 (n+1),δ a21],aa,υ 107 5 (A++[mM to id ep nu c x])]
 |_,_=>False
def qb (to id ep nu:Int) (c:List Int) (o:Op):List D:=fW to 12 id ep [[dn γ nu],[dn γ o.cl],[dn γ o.nm],[dn γ o.kd],[dn γ o.bk],[dn γ (dN c)]] (ints ν o.b) []
def Ab:aD:=fun args kb K=>match args,kb with
 | [an 0 0,.int γ to],[aw [δ a0,.int γ id,δ a2,δ a3,.int γ ep,.int γ nu,bD 128 C,δ a7,δ a8,δ a9,δ aE,δ aZ,δ a12,δ aN,δ ο,δ π,.af o,δ aF,δ aP,δ aG,.sl 1 0 n,δ a21],υ 107 5 (A)]=>n=A.length/\bP n/\∃ c p,iJ C c/\o=some (bn p)/\K (.χ []) [aw [δ a0,.int γ id,δ a2,δ a3,.int γ ep,.int γ nu,bD 128 (aU ν c),δ a7,δ a8,δ a9,δ aE,δ aZ,δ a12,δ aN,δ ο,δ π,.af o,δ aF,δ aP,δ aG,.sl 2 0 (n+1),δ a21],aa,υ 107 5 (A++[qb to id ep nu c p])]
 |_,_=>False
theorem ahs (a0 a2 a3 a5 a7 a8 a9 aE aZ a12 aN ο π aW aF aP aG a21:Value) (C:List D) (to kind id ep:Int) (N B L:List (List D)) (n:Nat) (A:List (List D)) (K:V->KB->Prop) (ar:
 let aJ:=(2+N.length)*8<=140737488355328;let aL:=[[η (φ γ id)],[η (φ γ ep)]];let az:=(n+1)*88<=140737488355328;let ah:=2+N.length<=(aL++N).length;let κ:=K (av []) [aw [δ a0,ζ γ id,δ a2,δ a3,ζ γ ep,δ a5,bD 128 C,δ a7,δ a8,δ a9,δ aE,δ aZ,δ a12,δ aN,δ ο,δ π,δ aW,δ aF,δ aP,δ aG,ε 2 0 (n+1),δ a21],aa,υ 107 5 (aA n A++[[η (φ γ to),η (φ γ kind),ω 1 (ax 0 (aA (2+N.length) (aL++N))),ω 1 B,ω 1 L]])];(True/\
 2<=2/\
 aJ/\
 ah/\
 1<=1/\
 n<=A.length/\
 az/\
 κ)/\
 (True/\
 2<=2/\
 aJ/\
 ah/\
 1<=1/\
 n<=A.length/\
 az/\
 κ)/\
 True/\
 2<=2/\
 aJ/\
 (ah/\
 1<=1/\
 n<=A.length/\
 az/\
 κ)/\
 ah/\
 1<=1/\
 n<=A.length/\
 az/\
 κ
 ):aK Tryz.prog X0 (aI 75) 75 [an 0 0,.int γ to,.int γ kind,aH (.sl 1 N),aH (.sl 1 B),aH (.sl 1 L)] [aw [δ a0,.int γ id,δ a2,δ a3,.int γ ep,δ a5,bD 128 C,δ a7,δ a8,δ a9,δ aE,δ aZ,δ a12,δ aN,δ ο,δ π,δ aW,δ aF,δ aP,δ aG,.sl 1 0 n,δ a21],υ 107 5 (A)] (dx 2 K):=by apply Eq.mp (a:=ar);kernel_rfl
theorem ahU (a0 a1 a2 a3 a4 a5 a7 a8 a9 aE aZ a12 ο π aF aP aG a20:Value) (C:List D) (ld:Bool) (o:Option (List D)) (n:Nat) (A:List (List D)) (K:V->KB->Prop) (ar:
 ((!o.isNone)=true->
 ∃(y1:List D),o=some y1/\
 ∃(y2:Int),y1[0]? =some (η (φ γ y2))/\
 ∃(y3:Int),y1[1]? =some (η (φ γ y3))/\
 ∃(y4:Int),y1[2]? =some (η (φ γ y4))/\
 ∃(y5:Int),y1[3]? =some (η (φ γ y5))/\
 ∃(y6:List (List D)),let κ:=K (av []) [aw [δ a0,δ a1,δ a2,δ a3,δ a4,δ a5,bD 128 C,δ a7,δ a8,δ a9,δ aE,δ aZ,δ a12,ξ false,δ ο,δ π,aO none,δ aF,δ aP,δ aG,δ a20,ε 2 0 (n+1)],aa,υ 70 7 (aA n A++[[η (φ γ y2),η (φ γ y3),η (φ γ y4),η (φ γ y5),ω 1 y6,η (φ γ 19),ω 1 []]])];y1[4]? =some (ω 1 y6)/\
 (1<=1/\
 n<=A.length/\
 (n+1)*88<=140737488355328/\
 κ)/\
 1<=1/\
 n<=A.length/\
 (n+1)*88<=140737488355328/\
 κ)/\
 ((!o.isNone)=false->
 K (av []) [aw [δ a0,δ a1,δ a2,δ a3,δ a4,δ a5,bD 128 C,δ a7,δ a8,δ a9,δ aE,δ aZ,δ a12,ξ false,δ ο,δ π,aO o,δ aF,δ aP,δ aG,δ a20,ε 2 0 n],aa,υ 70 7 A])
 ):aK Tryz.prog X0 (aI 42) 42 [an 0 0] [aw [δ a0,δ a1,δ a2,δ a3,δ a4,δ a5,bD 128 C,δ a7,δ a8,δ a9,δ aE,δ aZ,δ a12,ξ ld,δ ο,δ π,.af o,δ aF,δ aP,δ aG,δ a20,.sl 1 0 n],υ 70 7 (A)] (fA [.ql 0 143,.mv 0 148] (dx 2 K)):=by apply Eq.mp (a:=ar);kernel_rfl
theorem ag5 (a0 a2 a3 a7 a8 a9 aE aZ a12 aN ο π aW aF aP aG a21:Value) (C:List D) (to id ep nu:Int) (n:Nat) (A:List (List D)) (K:V->KB->Prop) (ar:
 1<=1/\
 ∀(y1:Nat->
 Value),n=A.length/\
 bP n/\
 bP 1/\
 bw y1 [0,2,3,5,7,8,9,10,11,12,13,14,15,16,17,18,19,21]/\
 K (av []) [aw [δ a0,ζ γ id,δ a2,δ a3,ζ γ ep,ζ γ nu,bD 128 C,δ a7,δ a8,δ a9,δ aE,δ aZ,δ a12,δ aN,δ ο,δ π,δ aW,δ aF,δ aP,δ aG,ε 2 0 (n+1),δ a21],aa,υ 107 5 (A++[[dn γ to,η (φ γ 14),ω 1 [[dn γ id],[dn γ ep],[η (φ γ nu)]],ω 1 [],ω 1 []]])]
 ):aK Tryz.prog AI (aI 110) 110 [an 0 0,.int γ to] [aw [δ a0,.int γ id,δ a2,δ a3,.int γ ep,.int γ nu,bD 128 C,δ a7,δ a8,δ a9,δ aE,δ aZ,δ a12,δ aN,δ ο,δ π,δ aW,δ aF,δ aP,δ aG,.sl 1 0 n,δ a21],υ 107 5 (A)] (dx 2 K):=by apply Eq.mp (a:=ar);kernel_rfl
theorem ahw (a0 a2 a3 a8 a9 aE aZ a12 aN ο π aW aF aP aG a21:Value) (C:List D) (to id ep nu:Int) (n:Nat) (M:ML) (A:List (List D)) (K:V->KB->Prop) (ar:
 let bC:=[0,1,2,3,4,5,7,8,9,10,11,12,13,14,15,16,17,18,19,20,21];let bp:=η (φ γ 10);let aJ:=[0,1,2,3,4,5,8,9,10,11,12,13,14,15,16,17,18,19,20,21];let aL:=[0,2,3,5,7,8,9,10,11,12,13,14,15,16,17,18,19,21];let az:=ω 1 [[dn γ id],[dn γ ep],[η (φ γ nu)]];(∀(y1:Nat->
 Value),∃(y2:List Int),C=aU ν y2/\
 y2.length=128/\
 (∀(y3:Int),dW y3 y2->
 0<=y3/\
 y3<256)/\
 bw y1 bC/\
 ∀(y4:Nat->
 Value),∃(y5:List L3),bG M y5/\
 bw y4 aJ/\
 (be y5).length<=(ints ν (be y5)).length/\
 1<=1/\
 132<=(ints ν (bZ y2)).length/\
 1<=1/\
 ∀(y6:Nat->
 Value),n=A.length/\
 bP n/\
 bP 1/\
 bw y6 aL/\
 K (av []) [aw [δ a0,ζ γ id,δ a2,δ a3,ζ γ ep,ζ γ nu,bD 128 (aU ν y2),V.imp [γ] false true 2 M,δ a8,δ a9,δ aE,δ aZ,δ a12,δ aN,δ ο,δ π,δ aW,δ aF,δ aP,δ aG,ε 2 0 (n+1),δ a21],aa,υ 107 5 (A++[[dn γ to,bp,az,ω 1 (ax 0 (aA 132 (ints ν (bZ y2)))),ω 1 [[ω 1 (ax 0 (aA (be y5).length (ints ν (be y5))))]]]])])/\
 ∀(y7:Nat->
 Value),∃(y8:List Int),let aV:=(ints ν (bZ y8));let bV:=ω 1 (ax 0 (aA 132 aV));let ah:=aw [δ a0,ζ γ id,δ a2,δ a3,ζ γ ep,ζ γ nu,bD 128 (aU ν y8),V.imp [γ] false true 2 M,δ a8,δ a9,δ aE,δ aZ,δ a12,δ aN,δ ο,δ π,δ aW,δ aF,δ aP,δ aG,ε 2 0 (n+1),δ a21];C=aU ν y8/\
 y8.length=128/\
 (∀(y9:Int),dW y9 y8->
 0<=y9/\
 y9<256)/\
 bw y7 bC/\
 kS nu nu/\
 (∀(cO:Nat->
 Value),∃(cC:List L3),bG M cC/\
 bw cO aJ/\
 (be cC).length<=(ints ν (be cC)).length/\
 1<=1/\
 132<=aV.length/\
 1<=1/\
 ∀(cD:Nat->
 Value),n=A.length/\
 bP n/\
 bP 1/\
 bw cD aL/\
 K (av []) [ah,aa,υ 107 5 (A++[[dn γ to,bp,az,bV,ω 1 [[ω 1 (ax 0 (aA (be cC).length (ints ν (be cC))))]]]])])/\
 ∀(cM:Nat->
 Value),∃(dC:List L3),let cf:=(be dC).length<=(ints ν (be dC)).length;let κ:=K (av []) [ah,aa,υ 107 5 (A++[[dn γ to,bp,az,bV,ω 1 [[ω 1 (ax 0 (aA (be dC).length (ints ν (be dC))))]]]])];bG M dC/\
 bw cM aJ/\
 kS nu nu/\
 (cf/\
 1<=1/\
 132<=aV.length/\
 1<=1/\
 ∀(cX:Nat->
 Value),n=A.length/\
 bP n/\
 bP 1/\
 bw cX aL/\
 κ)/\
 cf/\
 kS nu nu/\
 1<=1/\
 132<=aV.length/\
 1<=1/\
 ∀(fS:Nat->
 Value),n=A.length/\
 bP n/\
 bP 1/\
 bw fS aL/\
 κ
 ):aK Tryz.prog AI (aI 45) 45 [an 0 0,.int γ to] [aw [δ a0,.int γ id,δ a2,δ a3,.int γ ep,.int γ nu,bD 128 C,.imp [γ] false true 2 M,δ a8,δ a9,δ aE,δ aZ,δ a12,δ aN,δ ο,δ π,δ aW,δ aF,δ aP,δ aG,.sl 1 0 n,δ a21],υ 107 5 (A)] (dx 2 K):=by apply Eq.mp (a:=ar);kernel_rfl
theorem agO (a0 a2 a3 a7 a8 a9 aE aZ a12 aN ο π aF aP aG a21:Value) (C:List D) (to id ep nu:Int) (o:Option (List D)) (n:Nat) (A:List (List D)) (K:V->KB->Prop) (ar:
 ∃(y1:List D),o=some y1/\
 ∃(y2:Int),y1[0]? =some (η (φ γ y2))/\
 ∃(y3:List D),o=some y3/\
 ∃(y4:Int),y3[1]? =some (η (φ γ y4))/\
 ∃(y5:List D),o=some y5/\
 ∃(y6:Int),y5[2]? =some (η (φ γ y6))/\
 ∃(y7:List D),o=some y7/\
 ∃(y8:Int),y7[3]? =some (η (φ γ y8))/\
 ∃(y9:List D),o=some y9/\
 ∃(cO:List (List D)),y9[4]? =some (ω 1 cO)/\
 ∀(cC:Nat->
 Value),∃(cD:List Int),C=aU ν cD/\
 cD.length=128/\
 (∀(cM:Int),dW cM cD->
 0<=cM/\
 cM<256)/\
 bw cC [0,1,2,3,4,5,7,8,9,10,11,12,13,14,15,16,17,18,19,20,21]/\
 (∃(dC:List (List D)),y9[4]? =some (ω 1 dC)/\
 True)/\
 (∃(cX:Int),y7[3]? =some (η (φ γ cX))/\
 kS cX y8)/\
 (∃(fS:Int),y5[2]? =some (η (φ γ fS))/\
 kS fS y6)/\
 (∃(dg:Int),y3[1]? =some (η (φ γ dg))/\
 kS dg y4)/\
 (∃(fg:Int),y1[0]? =some (η (φ γ fg))/\
 kS fg y2)/\
 kS nu nu/\
 (∃(fD:List (List D)),y9[4]? =some (ω 1 fD)/\
 True)/\
 6<=6/\
 ∀(fN:Nat->
 Value),n=A.length/\
 bP n/\
 bP 6/\
 bw fN [0,2,3,5,7,8,9,10,11,12,13,14,15,16,17,18,19,21]/\
 K (av []) [aw [δ a0,ζ γ id,δ a2,δ a3,ζ γ ep,ζ γ nu,bD 128 (aU ν cD),δ a7,δ a8,δ a9,δ aE,δ aZ,δ a12,δ aN,δ ο,δ π,aO o,δ aF,δ aP,δ aG,ε 2 0 (n+1),δ a21],aa,υ 107 5 (A++[[dn γ to,η (φ γ 12),ω 1 [[dn γ id],[dn γ ep],[η (φ γ nu)],[η (φ γ y2)],[η (φ γ y4)],[η (φ γ y6)],[η (φ γ y8)],[η (φ γ (γ.wrap (dN cD)))]],ω 1 cO,ω 1 []]])]
 ):aK Tryz.prog AI (aI 57) 57 [an 0 0,.int γ to] [aw [δ a0,.int γ id,δ a2,δ a3,.int γ ep,.int γ nu,bD 128 C,δ a7,δ a8,δ a9,δ aE,δ aZ,δ a12,δ aN,δ ο,δ π,.af o,δ aF,δ aP,δ aG,.sl 1 0 n,δ a21],υ 107 5 (A)] (dx 2 K):=by apply Eq.mp (a:=ar);kernel_rfl
theorem UN {A:List (List D)}:aA A.length A=A:=cZ
theorem r9 {l:List Int} {n:Nat} (h:n=l.length):ax 0 (aA n (ints ν l))=ints ν l:=by
 subst h;rw[iX,qk,cZ]
theorem takeN {a b:List D} {N:List (List D)}:ax 0 (aA (2+N.length) ([a,b]++N))=[a,b]++N:=by
 rw[iX];exact fI (by simp;omega)
theorem Cc {a b:List D} {N:List (List D)}:2+N.length<=([a,b]++N).length:=by simp;omega
theorem Sf:aR Tryz.prog 75 Ap:=lh hZ mixed (fun args kb K h=>by
 unfold Ap at h;split at h<;>try exact h.elim
 obtain⟨rfl,⟨hn⟩,⟨hN⟩,h⟩:=h
 refine⟨_,ahs _ _ _ _ _ _ _ _ _ _ _ _ _ _ _ _ _ _ _ _ _ _ _ _ _ _ _ _ K ?_⟩
 simp only[takeN,UN]
 exact⟨⟨trivial,au _,by omega,Cc,au _,au _,by omega,h⟩,⟨trivial,au _,by omega,Cc,au _,au _,by omega,h⟩,trivial,au _,by omega,⟨Cc,au _,au _,by omega,h⟩,Cc,au _,au _,by omega,h⟩)
theorem Sr:aR Tryz.prog 42 Ax:=oa hZ mixed [.ql 0 143,.mv 0 148] (fun args kb K h=>by
 unfold Ax at h;split at h<;>try exact h.elim
 obtain⟨rfl,⟨hn⟩,q,rfl,h⟩:=h
 refine⟨_,ahU _ _ _ _ _ _ _ _ _ _ _ _ _ _ _ _ _ _ _ _ _ _ _ K ?_⟩
 cases q with
 |none=>
  simp only[yl,fu]at h
  exact⟨fun f=>(by cases f),fun _=>h⟩
 |some p=>
  simp only[yl,bo,iL]at h
  refine⟨fun _=>⟨bn p,rfl,p.cl,rfl,p.nm,rfl,p.kd,rfl,p.bk,rfl,ints ν p.b,rfl,?_⟩,fun f=>(by cases f)⟩
  simp only[UN]
  exact⟨⟨au _,au _,by omega,h⟩,au _,au _,by omega,h⟩)
theorem aeW:dP Tryz.prog Ki:=fun f k h=>by
 unfold Ki at h
 split at h
 ·cases h;exact fy Sf _
 ·cases h;exact fy RU _
 ·cases h;exact fy Jj _
 ·cases h;exact fy Si _
 ·cases h
theorem E8:b9 Tryz.prog AI:=dY mixed aeW aI 10
theorem ack:aR Tryz.prog 110 Ey:=lh E8 mixed (fun args kb K h=>by
 unfold Ey at h;split at h<;>try exact h.elim
 obtain⟨rfl,hn,h⟩:=h
 exact⟨_,ag5 _ _ _ _ _ _ _ _ _ _ _ _ _ _ _ _ _ _ _ _ _ _ _ _ K ⟨au _,fun f=>⟨rfl,hn,⟨by omega⟩,⟨by simp [bQ]⟩,h⟩⟩⟩)
theorem tg {c:List Int} (h:c.length=128):(bZ c).length=132:=by rw[oU];omega
theorem Jn:aR Tryz.prog 45 xi:=lh E8 mixed (fun args kb K h=>by
 unfold xi at h;split at h<;>try exact h.elim
 obtain⟨rfl,hn,c,x,⟨rfl,hl,hb⟩,ht,h⟩:=h
 have e1:=r9 (tg hl).symm
 have e2:=r9 (l:=be x) rfl
 refine⟨_,ahw _ _ _ _ _ _ _ _ _ _ _ _ _ _ _ _ _ _ _ _ _ _ _ _ K ?_⟩
 unfold mM fW at h
 repeat' first
  | (exact⟨by simp [bQ]⟩)
  | (exact⟨rfl⟩)
  | (exact hn)
  | (exact⟨by omega⟩)
  | (exact au _)
  | (rw[bh,tg hl];exact au _)
  | (rw[bh];exact au _)
  | (rw[e1,e2];exact h)
  | (rw[e1];exact h)
  |rfl
  | (refine⟨c,rfl,hl,hb,?_⟩)
  | (refine⟨x,ht,?_⟩)
  | (refine And.intro ?_ ?_)
  |intro f)
theorem R7:aR Tryz.prog 57 Ab:=lh E8 mixed (fun args kb K h=>by
 unfold Ab at h;split at h<;>try exact h.elim
 obtain⟨rfl,hn,c,p,⟨rfl,hl,hb⟩,rfl,h⟩:=h
 have hr:=xM c
 have ew:γ.wrap (dN c)=dN c:=bS (by omega) (by omega)
 refine⟨_,agO _ _ _ _ _ _ _ _ _ _ _ _ _ _ _ _ _ _ _ _ _ _ _ _ K ?_⟩
 unfold qb fW at h
 refine⟨bn p,rfl,p.cl,rfl,bn p,rfl,p.nm,rfl,bn p,rfl,p.kd,rfl,bn p,rfl,p.bk,rfl,bn p,rfl,ints ν p.b,rfl,fun f=>⟨c,rfl,hl,hb,⟨by simp [bQ]⟩,⟨_,rfl,trivial⟩,⟨_,rfl,⟨rfl⟩⟩,⟨_,rfl,⟨rfl⟩⟩,⟨_,rfl,⟨rfl⟩⟩,⟨_,rfl,⟨rfl⟩⟩,⟨rfl⟩,⟨_,rfl,trivial⟩,au _,fun f=>⟨rfl,hn,⟨by omega⟩,⟨by simp [bQ]⟩,?_⟩⟩⟩
 rw[ew];exact h)
def zW:aD:=fun args kb K=>match args,kb with
 | [an 0 0,.mp 1],[aw [.int γ me,δ a1,δ a2,δ a3,δ a4,δ a5,bD 128 C,δ a7,δ a8,δ a9,δ aE,aH (.sl 1 M),aH (.sl 1 J),δ aN,δ ο,δ π,δ aW,δ aF,δ aP,δ aG,δ a20,δ a21],.mp [γ] false false 1 (Q)]=>∃ m j,M=ints γ m/\J=ints γ j/\dH (m.length+j.length)/\lz Q/\K (ξ (!(bx me m j).any (nS Q))) [aw [.int γ me,δ a1,δ a2,δ a3,δ a4,δ a5,bD 128 C,δ a7,δ a8,δ a9,δ aE,aH (.sl 1 M),aH (.sl 1 J),δ aN,δ ο,δ π,δ aW,δ aF,δ aP,δ aG,δ a20,δ a21],.mp [γ] false false 1 (Q)]
 |_,_=>False
def Fe:FuncId->Option dK
 | 44=>some ⟨[],eB [false,true,true,true,true,true,false,true,true,true,true,false,false,true,true,true,true,true,true,true,true,true] vf⟩
 | 70=>some ⟨[],z7⟩
 |_=>none
noncomputable def Mh:bN:=dU Tryz.prog Fe aI 10
def allI (me:Int) (m j:List Int) (Q:ML):Bool:=!(bx me m j).any (nS Q)
def qQ:aD:=fun args kb K=>match args,kb with
 | [an 0 0],[aw [δ a0,δ a1,δ a2,δ a3,δ a4,δ a5,bD 128 C,δ a7,δ a8,δ a9,δ aE,δ aZ,δ a12,ξ ld,δ ο,δ π,.af o,δ aF,δ aP,δ aG,δ a20,δ a21]]=>ld=false/\K (.χ [ξ false,ξ false,ξ (!o.isNone)]) [aw [δ a0,δ a1,δ a2,δ a3,δ a4,δ a5,bD 128 C,δ a7,δ a8,δ a9,δ aE,δ aZ,δ a12,ξ ld,δ ο,δ π,.af o,δ aF,δ aP,δ aG,δ a20,δ a21]]
 | [an 0 0],[aw [.int γ me,δ a1,δ a2,δ a3,δ a4,δ a5,bD 128 C,δ a7,δ a8,δ a9,δ aE,aH (.sl 1 M),aH (.sl 1 J),ξ ld,.mp 1,δ π,.af o,δ aF,δ aP,δ aG,δ a20,δ a21],.mp [γ] false false 1 (Q)]=>∃ m j,M=ints γ m/\J=ints γ j/\dH (m.length+j.length)/\lz Q/\ld=true/\K (.χ [ξ true,ξ (allI me m j Q),ξ (!o.isNone)]) [aw [.int γ me,δ a1,δ a2,δ a3,δ a4,δ a5,bD 128 C,δ a7,δ a8,δ a9,δ aE,aH (.sl 1 M),aH (.sl 1 J),ξ ld,.mp 1,δ π,.af o,δ aF,δ aP,δ aG,δ a20,δ a21],.mp [γ] false false 1 (Q)]
 |_,_=>False
def Ij:FuncId->Option dK
 | 41=>some ⟨[],eB [false,true,true,true,true,true,false,true,true,true,true,false,false,true,true,true,true,true,true,true,true,true] zW⟩
 |_=>none
noncomputable def E6:bN:=dU Tryz.prog Ij aI 10
def kI (cl nm kd bk:Int) (b:Nat):Bool:=decide (1<=kd/\kd<=4/\0<=bk/\bk<8/\0<=cl/\cl<=255/\1<=nm/\nm<=1099511627776/\(kd=1->b=16))
def oM (kd:Int):Bool:=decide (kd=1∨kd=2)
def Ac:aD:=fun args kb K=>match args,kb with
 | [.agg [.int γ cl,.int γ nm,.int γ kd,.int γ bk,aH (.sl 1 B)]],[]=>K (ξ (kI cl nm kd bk B.length)) []
 |_,_=>False
def Et:aD:=fun args kb K=>match args,kb with
 | [.agg [.int γ cl,.int γ nm,.int γ kd,.int γ bk,aH (.sl 1 B)]],[]=>K (ξ (oM kd)) []
 |_,_=>False
def qa (c:List Int) (kd bk:Int):List (List D):=if kd=3 then ints ν ((c.drop (bk.toNat*16)).take 16)else[]
def z_:aD:=fun args kb K=>match args,kb with
 | [an 0 0],[aw [.int γ me,δ a1,δ a2,δ a3,δ a4,δ a5,bD 128 C,δ a7,δ a8,δ a9,δ aE,aH (.sl 1 M),aH (.sl 1 J),δ aN,δ ο,.mp 1,.af o,δ aF,δ aP,δ aG,δ a20,.sl 2 0 n],.mp [γ] false false 1 (Q),υ 70 7 (A)]=>n=A.length/\bP n/\∃ m j c p,iJ C c/\M=ints γ m/\J=ints γ j/\dH (m.length+j.length)/\lz Q/\o=some (bn p)/\lR p.bk/\
  (allI me m j Q=false->K (.χ []) [aw [.int γ me,δ a1,δ a2,δ a3,δ a4,δ a5,bD 128 C,δ a7,δ a8,δ a9,δ aE,aH (.sl 1 M),aH (.sl 1 J),δ aN,δ ο,.mp 1,.af o,δ aF,δ aP,δ aG,δ a20,.sl 2 0 n],.mp [γ] false false 1 (Q),υ 70 7 (A)])/\
  (allI me m j Q=true->K (.χ []) [aw [.int γ me,δ a1,δ a2,δ a3,δ a4,δ a5,bD 128 (aU ν c),δ a7,δ a8,δ a9,δ aE,aH (.sl 1 M),aH (.sl 1 J),δ aN,δ ο,.mp 1,.af none,δ aF,δ aP,δ aG,δ a20,.sl 3 0 (n+1)],.mp [γ] false false 1 (Q),aa,υ 70 7 (A++[Gc p 0 (qa c p.kd p.bk)])])
 |_,_=>False
def GD:FuncId->Option dK
 | 41=>some ⟨[],eB [false,true,true,true,true,true,false,true,true,true,true,false,false,true,true,true,true,true,true,true,true,true] zW⟩
 | 86=>some ⟨[],eB [true,true,true,true,true,true,false,true,true,true,true,true,true,true,true,true,true,true,true,true,true,true] zX⟩
 |_=>none
noncomputable def Mr:bN:=dU Tryz.prog GD aI 10
def fj (c:List Int) (kd bk:Int) (b:List Int):List Int:=if kd=1 then splice c (bk.toNat*16) b else if kd=2 then splice c (bk.toNat*16) (dp 16 0)else c
structure qP (n:Int):Prop where
 lo:0<=n
 hi:n<=4398046511104
structure zP (kd:Int):Prop where
 h:oM kd=false
structure zB (kd:Int):Prop where
 h:oM kd=true
structure vd (cl nm kd bk:Int) (b:Nat):Prop where
 h:kI cl nm kd bk b=true
def z8:aD:=fun args kb K=>match args,kb with
 | [an 0 0,.agg [.int γ cl,.int γ nm,.int γ kd,.int γ bk,aH (.sl 1 B)]],[aw [δ a0,δ a1,δ a2,δ a3,δ a4,.int γ nu,bD 128 C,.imp [γ] false true 2 T,δ a8,δ a9,δ aE,δ aZ,δ a12,δ aN,δ ο,δ π,δ aW,δ aF,ξ ch,δ aG,δ a20,δ a21]]=>∃ c b x,iJ C c/\B=ints ν b/\bG T x/\qP nu/\vd cl nm kd bk b.length/\
  (zP kd->K (.χ []) [aw [δ a0,δ a1,δ a2,δ a3,δ a4,.int γ (nu+1),bD 128 (aU ν (fj c kd bk b)),ai T,δ a8,δ a9,δ aE,δ aZ,δ a12,δ aN,δ ο,δ π,δ aW,δ aF,ξ true,δ aG,δ a20,δ a21]])/\
  (zB kd->(mr (cW x cl nm 0)->K (.χ []) [aw [δ a0,δ a1,δ a2,δ a3,δ a4,.int γ (nu+1),bD 128 (aU ν (fj c kd bk b)),ai T,δ a8,δ a9,δ aE,δ aZ,δ a12,δ aN,δ ο,δ π,δ aW,δ aF,ξ true,δ aG,δ a20,δ a21]])/\(mj (cW x cl nm 0)->K (.χ []) [aw [δ a0,δ a1,δ a2,δ a3,δ a4,.int γ (nu+1),bD 128 (aU ν (fj c kd bk b)),ai (bL T [cl] [dn γ nm,dn γ 0]),δ a8,δ a9,δ aE,δ aZ,δ a12,δ aN,δ ο,δ π,δ aW,δ aF,ξ true,δ aG,δ a20,δ a21]]))
 |_,_=>False
def Gd:FuncId->Option dK
 | 84=>some ⟨[],eB [true,true,true,true,true,true,false,true,true,true,true,true,true,true,true,true,true,true,true,true,true,true] Aw⟩
 | 85=>some ⟨[],eB [true,true,true,true,true,true,false,true,true,true,true,true,true,true,true,true,true,true,true,true,true,true] Av⟩
 | 66=>some ⟨[],eB [true,true,true,true,true,true,false,false,true,true,true,true,true,true,true,true,true,true,true,true,true,true] EE⟩
 |_=>none
noncomputable def Mn:bN:=dU Tryz.prog Gd aI 10
structure va (a b:Int):Prop where
 h:a=b
def Eu:aD:=fun args kb K=>match args,kb with
 | [an 0 0,.agg [.int γ cl,.int γ nm,.int γ kd,.int γ bk,aH (.sl 1 B)]],[aw [δ a0,δ a1,δ a2,δ a3,δ a4,δ a5,bD 128 C,.imp [γ] false true 2 T,δ a8,δ a9,δ aE,δ aZ,δ a12,δ aN,δ ο,δ π,δ aW,δ aF,δ aP,δ aG,δ a20,.sl 1 0 n],υ 70 7 (A)]=>n=A.length/\bP n/\∃ x,bG T x/\
  (va (gu x cl nm) 1->K (.χ [.int γ 0,ξ true]) [aw [δ a0,δ a1,δ a2,δ a3,δ a4,δ a5,bD 128 C,ai T,δ a8,δ a9,δ aE,δ aZ,δ a12,δ aN,δ ο,δ π,δ aW,δ aF,δ aP,δ aG,δ a20,.sl 2 0 (n+1)],aa,υ 70 7 (A++[[dn γ cl,dn γ nm,dn γ kd,dn γ bk,.sl 1 B,dn γ (sD x cl nm),.sl 1 []]])])/\
  (va (gu x cl nm) 2->K (.χ [.int γ 13,ξ true]) [aw [δ a0,δ a1,δ a2,δ a3,δ a4,δ a5,bD 128 C,.imp [γ] false true 2 T,δ a8,δ a9,δ aE,δ aZ,δ a12,δ aN,δ ο,δ π,δ aW,δ aF,δ aP,δ aG,δ a20,.sl 1 0 n],υ 70 7 (A)])/\
  (va (gu x cl nm) 0->(mr (cW x cl nm 0)->K (.χ [.int γ (cW x cl nm 0),ξ true]) [aw [δ a0,δ a1,δ a2,δ a3,δ a4,δ a5,bD 128 C,.imp [γ] false true 2 T,δ a8,δ a9,δ aE,δ aZ,δ a12,δ aN,δ ο,δ π,δ aW,δ aF,δ aP,δ aG,δ a20,.sl 1 0 n],υ 70 7 (A)])/\(mj (cW x cl nm 0)->K (.χ [.int γ 0,ξ false]) [aw [δ a0,δ a1,δ a2,δ a3,δ a4,δ a5,bD 128 C,.imp [γ] false true 2 T,δ a8,δ a9,δ aE,δ aZ,δ a12,δ aN,δ ο,δ π,δ aW,δ aF,δ aP,δ aG,δ a20,.sl 1 0 n],υ 70 7 (A)]))
 |_,_=>False
def Ii:FuncId->Option dK
 | 83=>some ⟨[],eB [true,true,true,true,true,true,false,false,true,true,true,true,true,true,true,true,true,true,true,true,true,true] Eh⟩
 | 66=>some ⟨[],Aj⟩
 |_=>none
noncomputable def Mw:bN:=dU Tryz.prog Ii aI 10
theorem age (a1 a2 a3 a4 a5 a7 a8 a9 aE aN ο π aW aF aP aG a20 a21:Value) (C:List D) (me:Int) (M J:List (List D)) (Q:ML) (K:V->KB->Prop) (ar:
 ∀(y1:Nat->
 Value),∃(y2:List Int),∃(y3:List Int),M=ints γ y2/\
 J=ints γ y3/\
 dH (y2.length+y3.length)/\
 bw y1 [1,2,3,4,5,7,8,9,10,13,14,15,16,17,18,19,20,21]/\
 ∃(y4:List Int),ints γ (iu me y2 y3)=ints γ y4/\
 (bx me y2 y3).length<=y4.length/\
 dH y4.length/\
 lz Q/\
 K (ξ !(aA (bx me y2 y3).length y4).any (nS Q)) [aw [ζ γ me,δ a1,δ a2,δ a3,δ a4,δ a5,bD 128 C,δ a7,δ a8,δ a9,δ aE,aH (ω 1 M),aH (ω 1 J),δ aN,δ ο,δ π,δ aW,δ aF,δ aP,δ aG,δ a20,δ a21],KO.mp [γ] false false 1 Q]
 ):aK Tryz.prog Mh (aI 41) 41 [an 0 0,.mp 1] [aw [.int γ me,δ a1,δ a2,δ a3,δ a4,δ a5,bD 128 C,δ a7,δ a8,δ a9,δ aE,aH (.sl 1 M),aH (.sl 1 J),δ aN,δ ο,δ π,δ aW,δ aF,δ aP,δ aG,δ a20,δ a21],.mp [γ] false false 1 (Q)] (dx 2 K):=by apply Eq.mp (a:=ar);kernel_rfl
theorem agW (cl nm kd bk:Int) (B:List (List D)) (K:V->KB->Prop) (ar:
 (decide (kd ≥ 1)=true->
 (decide (kd<=4)=true->
 (decide (bk ≥ 0)=true->
 (decide (bk<8)=true->
 (decide (cl ≥ 0)=true->
 (decide (cl<=255)=true->
 (decide (nm ≥ 1)=true->
 (decide (nm<=1099511627776)=true->
 ((kd != 1)=true->
 K (ξ true) [])/\
 ((kd != 1)=false->
 K (ξ ((↑B.length:Int) == 16)) []))/\
 (decide (nm<=1099511627776)=false->
 K (ξ false) []))/\
 (decide (nm ≥ 1)=false->
 K (ξ false) []))/\
 (decide (cl<=255)=false->
 K (ξ false) []))/\
 (decide (cl ≥ 0)=false->
 K (ξ false) []))/\
 (decide (bk<8)=false->
 K (ξ false) []))/\
 (decide (bk ≥ 0)=false->
 K (ξ false) []))/\
 (decide (kd<=4)=false->
 K (ξ false) []))/\
 (decide (kd ≥ 1)=false->
 K (ξ false) [])
 ):aK Tryz.prog X0 (aI 52) 52 [.agg [.int γ cl,.int γ nm,.int γ kd,.int γ bk,aH (.sl 1 B)]] [] (dx 0 K):=by apply Eq.mp (a:=ar);kernel_rfl
theorem agV (cl nm kd bk:Int) (B:List (List D)) (K:V->KB->Prop) (ar:
 ((kd == 1)=true->
 K (ξ true) [])/\
 ((kd == 1)=false->
 K (ξ (kd == 2)) [])
 ):aK Tryz.prog X0 (aI 53) 53 [.agg [.int γ cl,.int γ nm,.int γ kd,.int γ bk,aH (.sl 1 B)]] [] (dx 0 K):=by apply Eq.mp (a:=ar);kernel_rfl
theorem agY (a0 a1 a2 a3 a4 a5 a7 a8 a9 aE aZ a12 ο π aF aP aG a20 a21:Value) (C:List D) (ld:Bool) (o:Option (List D)) (K:V->KB->Prop) (ar:
 let κ:=K (av [ξ ld,ξ false,ξ !o.isNone]) [aw [δ a0,δ a1,δ a2,δ a3,δ a4,δ a5,bD 128 C,δ a7,δ a8,δ a9,δ aE,δ aZ,δ a12,ξ ld,δ ο,δ π,aO o,δ aF,δ aP,δ aG,δ a20,δ a21]];(ld=true->
 (∀(y1:Nat->
 Value),False)/\
 ∀(y2:Nat->
 Value),False)/\
 (ld=false->
 κ/\
 κ)
 ):aK Tryz.prog E6 (aI 14) 14 [an 0 0] [aw [δ a0,δ a1,δ a2,δ a3,δ a4,δ a5,bD 128 C,δ a7,δ a8,δ a9,δ aE,δ aZ,δ a12,ξ ld,δ ο,δ π,.af o,δ aF,δ aP,δ aG,δ a20,δ a21]] (dx 1 K):=by apply Eq.mp (a:=ar);kernel_rfl
theorem agZ (a1 a2 a3 a4 a5 a7 a8 a9 aE π aF aP aG a20 a21:Value) (C:List D) (ld:Bool) (me:Int) (M J:List (List D)) (Q:ML) (o:Option (List D)) (K:V->KB->Prop) (ar:
 let az:=[1,2,3,4,5,7,8,9,10,13,14,15,16,17,18,19,20,21];let κ:KB:=[aw [ζ γ me,δ a1,δ a2,δ a3,δ a4,δ a5,bD 128 C,δ a7,δ a8,δ a9,δ aE,aH (ω 1 M),aH (ω 1 J),ξ ld,bb 1,δ π,aO o,δ aF,δ aP,δ aG,δ a20,δ a21],KO.mp [γ] false false 1 Q];let ah:=K (av [ξ ld,ξ false,ξ !o.isNone]) κ;(ld=true->
 (∀(y1:Nat->
 Value),∃(y2:List Int),∃(y3:List Int),M=ints γ y2/\
 J=ints γ y3/\
 dH (y2.length+y3.length)/\
 lz Q/\
 bw y1 az/\
 ld=ld/\
 K (av [ξ ld,ξ !(bx me y2 y3).any (nS Q),ξ !o.isNone]) κ)/\
 ∀(y4:Nat->
 Value),∃(y5:List Int),∃(y6:List Int),M=ints γ y5/\
 J=ints γ y6/\
 dH (y5.length+y6.length)/\
 lz Q/\
 bw y4 az/\
 ld=ld/\
 K (av [ξ ld,ξ !(bx me y5 y6).any (nS Q),ξ !o.isNone]) κ)/\
 (ld=false->
 ah/\
 ah)
 ):aK Tryz.prog E6 (aI 14) 14 [an 0 0] [aw [.int γ me,δ a1,δ a2,δ a3,δ a4,δ a5,bD 128 C,δ a7,δ a8,δ a9,δ aE,aH (.sl 1 M),aH (.sl 1 J),ξ ld,.mp 1,δ π,.af o,δ aF,δ aP,δ aG,δ a20,δ a21],.mp [γ] false false 1 (Q)] (dx 2 K):=by apply Eq.mp (a:=ar);kernel_rfl
theorem agN (a1 a2 a3 a4 a5 a7 a8 a9 aE aN ο aF aP aG a20:Value) (C:List D) (me:Int) (M J:List (List D)) (Q:ML) (o:Option (List D)) (n:Nat) (A:List (List D)) (K:V->KB->Prop) (ar:
 let cK:=[0,1,2,3,4,5,7,8,9,10,11,12,13,14,15,16,17,18,19,20,21];let bC:=KO.mp [γ] false false 1 Q;let aV:=(n+1)*88<=140737488355328;let aL:=K (av []) [aw [ζ γ me,δ a1,δ a2,δ a3,δ a4,δ a5,bD 128 C,δ a7,δ a8,δ a9,δ aE,aH (ω 1 M),aH (ω 1 J),δ aN,δ ο,bb 1,aO o,δ aF,δ aP,δ aG,δ a20,ε 2 0 n],bC,υ 70 7 A];(o.isNone=true->
 aL)/\
 (o.isNone=false->
 ∀(y1:Nat->
 Value),∃(y2:List Int),∃(y3:List Int),M=ints γ y2/\
 J=ints γ y3/\
 dH (y2.length+y3.length)/\
 lz Q/\
 bw y1 [1,2,3,4,5,7,8,9,10,13,14,15,16,17,18,19,20,21]/\
 ((!!(bx me y2 y3).any (nS Q))=true->
 aL)/\
 ((!!(bx me y2 y3).any (nS Q))=false->
 ∃(y4:List D),o=some y4/\
 ∃(y5:Int),let cf:=(φ γ y5);y4[0]? =some (η cf)/\
 ∃(y6:Int),let bV:=(φ γ y6);y4[1]? =some (η bV)/\
 ∃(y7:Int),let cw:=(φ γ y7);y4[2]? =some (η cw)/\
 ∃(y8:Int),let bW:=(φ γ y8);y4[3]? =some (η bW)/\
 ∃(y9:List (List D)),let ah:=K (av []) [aw [ζ γ me,δ a1,δ a2,δ a3,δ a4,δ a5,bD 128 C,δ a7,δ a8,δ a9,δ aE,aH (ω 1 M),aH (ω 1 J),δ aN,δ ο,bb 1,aO none,δ aF,δ aP,δ aG,δ a20,ε 3 0 (n+1)],bC,aa,υ 70 7 (aA n A++[[η cf,η bV,η cw,η bW,ω 1 y9,η (φ γ 0),ω 1 []]])];y4[4]? =some (ω 1 y9)/\
 ∃(cO:List D),o=some cO/\
 ∃(cC:Int),cO[2]? =some (η (φ γ cC))/\
 ((cC == 3)=true->
 ∃(cD:List D),o=some cD/\
 ∃(cM:Int),cD[3]? =some (η (φ γ cM))/\
 ∀(dC:Nat->
 Value),∃(cX:List Int),let bp:=(ints ν (aA 16 (ax (cM.toNat*16) cX)));let κ:=aw [ζ γ me,δ a1,δ a2,δ a3,δ a4,δ a5,bD 128 (aU ν cX),δ a7,δ a8,δ a9,δ aE,aH (ω 1 M),aH (ω 1 J),δ aN,δ ο,bb 1,aO none,δ aF,δ aP,δ aG,δ a20,ε 3 0 (n+1)];let aJ:=K (av []) [κ,bC,aa,υ 70 7 (aA n A++[[η cf,η bV,η cw,η bW,ω 1 y9,η (φ γ 1),ω 1 []]])];let az:=K (av []) [κ,bC,aa,υ 70 7 (aA n A++[[η cf,η bV,η cw,η bW,ω 1 y9,η (φ γ 0),ω 1 (ax 0 (aA 16 bp))]])];C=aU ν cX/\
 cX.length=128/\
 (lR cM->
 bw dC cK/\
 (16<=bp.length/\
 1<=1/\
 n<=A.length/\
 aV/\
 az)/\
 16<=bp.length/\
 1<=1/\
 n<=A.length/\
 aV/\
 az)/\
 ((lR cM->
 False)->
 bw dC cK/\
 (1<=1/\
 n<=A.length/\
 aV/\
 aJ)/\
 1<=1/\
 n<=A.length/\
 aV/\
 aJ))/\
 ((cC == 3)=false->
 (1<=1/\
 n<=A.length/\
 aV/\
 ah)/\
 1<=1/\
 n<=A.length/\
 aV/\
 ah)))
 ):aK Tryz.prog Mr (aI 58) 58 [an 0 0] [aw [.int γ me,δ a1,δ a2,δ a3,δ a4,δ a5,bD 128 C,δ a7,δ a8,δ a9,δ aE,aH (.sl 1 M),aH (.sl 1 J),δ aN,δ ο,.mp 1,.af o,δ aF,δ aP,δ aG,δ a20,.sl 2 0 n],.mp [γ] false false 1 (Q),υ 70 7 (A)] (fA [.ql 0 143] (dx 3 K)):=by apply Eq.mp (a:=ar);kernel_rfl
theorem agE (a0 a1 a2 a3 a4 a8 a9 aE aZ a12 aN ο π aW aF aG a20 a21:Value) (C:List D) (nu:Int) (ch:Bool) (T:ML) (cl nm kd bk:Int) (B:List (List D)) (K:V->KB->Prop) (ar:
 let aJ:=V.imp [γ] false true 2 T;let aL:=[0,1,2,3,4,5,7,8,9,10,11,12,13,14,15,16,17,18,19,20,21];let az:=V.imp [γ] false true 2 (bL T [cl] [dn γ nm,η (φ γ 0)]);let ah:=ζ γ (γ.wrap (nu+1));let κ:=[0,1,2,3,4,5,8,9,10,11,12,13,14,15,16,17,18,19,20,21];((kd == 1)=true->
 ∀(y1:Nat->
 Value),∃(y2:List Int),∃(y3:List Int),let bp:=bD 128 (aU ν (splice y2 (bk.toNat*16) y3));C=aU ν y2/\
 B=ints ν y3/\
 y2.length=128/\
 (lR bk/\
 y3.length=16->
 bw y1 aL/\
 ∀(y4:Nat->
 Value),∃(y5:List L3),bG T y5/\
 (mr (cW y5 cl nm 0)->
 bw y4 κ/\
 K (av []) [aw [δ a0,δ a1,δ a2,δ a3,δ a4,ah,bp,aJ,δ a8,δ a9,δ aE,δ aZ,δ a12,δ aN,δ ο,δ π,δ aW,δ aF,ξ true,δ aG,δ a20,δ a21]])/\
 (mj (cW y5 cl nm 0)->
 bw y4 κ/\
 K (av []) [aw [δ a0,δ a1,δ a2,δ a3,δ a4,ah,bp,az,δ a8,δ a9,δ aE,δ aZ,δ a12,δ aN,δ ο,δ π,δ aW,δ aF,ξ true,δ aG,δ a20,δ a21]]))/\
 ((lR bk/\
 y3.length=16->
 False)->
 bw y1 aL/\
 ∀(y6:Nat->
 Value),∃(y7:List L3),bG T y7/\
 (mr (cW y7 cl nm 0)->
 bw y6 κ/\
 K (av []) [aw [δ a0,δ a1,δ a2,δ a3,δ a4,ah,bD 128 (aU ν y2),aJ,δ a8,δ a9,δ aE,δ aZ,δ a12,δ aN,δ ο,δ π,δ aW,δ aF,ξ true,δ aG,δ a20,δ a21]])/\
 (mj (cW y7 cl nm 0)->
 bw y6 κ/\
 K (av []) [aw [δ a0,δ a1,δ a2,δ a3,δ a4,ah,bD 128 (aU ν y2),az,δ a8,δ a9,δ aE,δ aZ,δ a12,δ aN,δ ο,δ π,δ aW,δ aF,ξ true,δ aG,δ a20,δ a21]])))/\
 ((kd == 1)=false->
 ((kd == 2)=true->
 ∀(y8:Nat->
 Value),∃(y9:List Int),let aV:=bD 128 (aU ν (splice y9 (bk.toNat*16) [0,0,0,0,0,0,0,0,0,0,0,0,0,0,0,0]));C=aU ν y9/\
 y9.length=128/\
 (lR bk->
 bw y8 aL/\
 ∀(cO:Nat->
 Value),∃(cC:List L3),bG T cC/\
 (mr (cW cC cl nm 0)->
 bw cO κ/\
 K (av []) [aw [δ a0,δ a1,δ a2,δ a3,δ a4,ah,aV,aJ,δ a8,δ a9,δ aE,δ aZ,δ a12,δ aN,δ ο,δ π,δ aW,δ aF,ξ true,δ aG,δ a20,δ a21]])/\
 (mj (cW cC cl nm 0)->
 bw cO κ/\
 K (av []) [aw [δ a0,δ a1,δ a2,δ a3,δ a4,ah,aV,az,δ a8,δ a9,δ aE,δ aZ,δ a12,δ aN,δ ο,δ π,δ aW,δ aF,ξ true,δ aG,δ a20,δ a21]]))/\
 ((lR bk->
 False)->
 bw y8 aL/\
 ∀(cD:Nat->
 Value),∃(cM:List L3),bG T cM/\
 (mr (cW cM cl nm 0)->
 bw cD κ/\
 K (av []) [aw [δ a0,δ a1,δ a2,δ a3,δ a4,ah,bD 128 (aU ν y9),aJ,δ a8,δ a9,δ aE,δ aZ,δ a12,δ aN,δ ο,δ π,δ aW,δ aF,ξ true,δ aG,δ a20,δ a21]])/\
 (mj (cW cM cl nm 0)->
 bw cD κ/\
 K (av []) [aw [δ a0,δ a1,δ a2,δ a3,δ a4,ah,bD 128 (aU ν y9),az,δ a8,δ a9,δ aE,δ aZ,δ a12,δ aN,δ ο,δ π,δ aW,δ aF,ξ true,δ aG,δ a20,δ a21]])))/\
 ((kd == 2)=false->
 K (av []) [aw [δ a0,δ a1,δ a2,δ a3,δ a4,ah,bD 128 C,aJ,δ a8,δ a9,δ aE,δ aZ,δ a12,δ aN,δ ο,δ π,δ aW,δ aF,ξ true,δ aG,δ a20,δ a21]]))
 ):aK Tryz.prog Mn (aI 56) 56 [an 0 0,.agg [.int γ cl,.int γ nm,.int γ kd,.int γ bk,aH (.sl 1 B)]] [aw [δ a0,δ a1,δ a2,δ a3,δ a4,.int γ nu,bD 128 C,.imp [γ] false true 2 T,δ a8,δ a9,δ aE,δ aZ,δ a12,δ aN,δ ο,δ π,δ aW,δ aF,ξ ch,δ aG,δ a20,δ a21]] (dx 1 K):=by apply Eq.mp (a:=ar);kernel_rfl
theorem agX (a0 a1 a2 a3 a4 a5 a8 a9 aE aZ a12 aN ο π aW aF aP aG a20:Value) (C:List D) (T:ML) (cl nm kd bk:Int) (B:List (List D)) (n:Nat) (A:List (List D)) (K:V->KB->Prop) (ar:
 let aL:=(av [ζ γ 0,ξ true]);let κ:KB:=[aw [δ a0,δ a1,δ a2,δ a3,δ a4,δ a5,bD 128 C,V.imp [γ] false true 2 T,δ a8,δ a9,δ aE,δ aZ,δ a12,δ aN,δ ο,δ π,δ aW,δ aF,δ aP,δ aG,δ a20,ε 1 0 n],υ 70 7 A];let az:=K (av [ζ γ 0,ξ false]) κ;∀(y1:Nat->
 Value),∃(y2:List L3),let ah:=K aL [aw [δ a0,δ a1,δ a2,δ a3,δ a4,δ a5,bD 128 C,V.imp [γ] false true 2 T,δ a8,δ a9,δ aE,δ aZ,δ a12,δ aN,δ ο,δ π,δ aW,δ aF,δ aP,δ aG,δ a20,ε 2 0 (n+1)],aa,υ 70 7 (aA n A++[[η (φ γ cl),η (φ γ nm),η (φ γ kd),η (φ γ bk),ω 1 B,η (φ γ (sD y2 cl nm)),ω 1 []]])];bG T y2/\
 bw y1 [0,1,2,3,4,5,8,9,10,11,12,13,14,15,16,17,18,19,20,21]/\
 ((gu y2 cl nm == 1)=true->
 (1<=1/\
 n<=A.length/\
 (n+1)*88<=140737488355328/\
 ah)/\
 1<=1/\
 n<=A.length/\
 (n+1)*88<=140737488355328/\
 ah)/\
 ((gu y2 cl nm == 1)=false->
 ((gu y2 cl nm == 2)=true->
 K (av [ζ γ 13,ξ true]) κ)/\
 ((gu y2 cl nm == 2)=false->
 ∃(y3:List L3),bG T y3/\
 (mr (cW y3 cl nm 0)->
 ((cW y3 cl nm 0 != 0)=true->
 K (av [ζ γ (cW y3 cl nm 0),ξ true]) κ)/\
 ((cW y3 cl nm 0 != 0)=false->
 az))/\
 (mj (cW y3 cl nm 0)->
 (false=true->
 K aL κ)/\
 (false=false->
 az))))
 ):aK Tryz.prog Mw (aI 54) 54 [an 0 0,.agg [.int γ cl,.int γ nm,.int γ kd,.int γ bk,aH (.sl 1 B)]] [aw [δ a0,δ a1,δ a2,δ a3,δ a4,δ a5,bD 128 C,.imp [γ] false true 2 T,δ a8,δ a9,δ aE,δ aZ,δ a12,δ aN,δ ο,δ π,δ aW,δ aF,δ aP,δ aG,δ a20,.sl 1 0 n],υ 70 7 (A)] (dx 2 K):=by apply Eq.mp (a:=ar);kernel_rfl
theorem Jy (me:Int) (m j:List Int):(iu me m j).take (bx me m j).length=bx me m j:=by
 unfold iu bx vO;exact List.take_left
theorem Jw (me:Int) (m j:List Int):(iu me m j).length=m.length+j.length:=by
 unfold iu vO
 have:=B8 me (m++j)
 rw[bo,List.length_replicate,<- bo];omega
theorem SO (me:Int) (m j:List Int):(bx me m j).length<=m.length+j.length:=by
 have:=B8 me (m++j)
 rw[bo]at this;exact this
theorem Xa:dP Tryz.prog Fe:=fun f k h=>by
 unfold Fe at h
 split at h
 ·cases h;exact fy CJ _
 ·cases h;exact R0
 ·cases h
theorem Wz:b9 Tryz.prog Mh:=dY mixed Xa aI 10
theorem RS:aR Tryz.prog 41 zW:=lh Wz mixed (fun args kb K h=>by
 unfold zW at h;split at h<;>try exact h.elim
 obtain⟨m,j,rfl,rfl,h5,hB,h⟩:=h
 refine⟨_,age _ _ _ _ _ _ _ _ _ _ _ _ _ _ _ _ _ _ _ _ _ _ _ K fun f=>⟨m,j,rfl,rfl,h5,⟨by simp [bQ]⟩,iu _ m j,rfl,?_,⟨?_⟩,hB,?_⟩⟩
 ·rw[Jw];exact SO _ _ _
 ·rw[Jw];exact h5.h
 ·rw[Jy];exact h)
theorem aaW:dP Tryz.prog Ij:=fun f k h=>by
 unfold Ij at h
 split at h
 ·cases h;exact fy RS _
 ·cases h
theorem WQ:b9 Tryz.prog E6:=dY mixed aaW aI 10
theorem Jk:aR Tryz.prog 14 qQ:=lh WQ mixed (fun args kb K h=>by
 unfold qQ at h;split at h<;>try exact h.elim
 ·obtain⟨rfl,h⟩:=h
  exact⟨_,agY _ _ _ _ _ _ _ _ _ _ _ _ _ _ _ _ _ _ _ _ _ _ K ⟨fun e=>(by cases e),fun _=>⟨h,h⟩⟩⟩
 ·obtain⟨m,j,rfl,rfl,h5,hB,rfl,h⟩:=h
  have k:∀ f:Nat->Value,bw f [1,2,3,4,5,7,8,9,10,13,14,15,16,17,18,19,20,21]:=fun f=>⟨by simp [bQ]⟩
  exact⟨_,agZ _ _ _ _ _ _ _ _ _ _ _ _ _ _ _ _ _ _ _ _ _ _ K ⟨fun _=>⟨fun f=>⟨m,j,rfl,rfl,h5,hB,k f,rfl,h⟩,fun f=>⟨m,j,rfl,rfl,h5,hB,k f,rfl,h⟩⟩,fun f=>by cases f⟩⟩)
theorem R8:aR Tryz.prog 52 Ac:=lh hZ mixed (fun args kb K h=>by
 unfold Ac at h;split at h<;>try exact h.elim
 rename_i cl nm kd bk B
 refine⟨_,agW _ _ _ _ _ K ?_⟩
 have key:∀{b:Bool},b=kI cl nm kd bk B.length->K (ξ b) []:=fun e=>by rw[e];exact h
 refine⟨fun e1=>⟨fun e2=>⟨fun e3=>⟨fun e4=>⟨fun e5=>⟨fun e6=>⟨fun e7=>⟨fun e8=>⟨fun e9=>?_,fun e9=>?_⟩,fun e8=>?_⟩,fun e7=>?_⟩,fun e6=>?_⟩,fun e5=>?_⟩,fun e4=>?_⟩,fun e3=>?_⟩,fun e2=>?_⟩,fun e1=>?_⟩<;>refine key ?_<;>unfold kI
 ·simp only[decide_eq_true_eq,bne_iff_ne,ne_eq]at*
  exact(decide_eq_true ⟨e1,e2,e3,e4,e5,e6,e7,e8,fun h=>absurd h e9⟩).symm
 ·simp only[decide_eq_true_eq,bne_eq_false_iff_eq]at*
  rw[Bool.eq_iff_iff]
  simp only[beq_iff_eq,decide_eq_true_eq]
  omega
 all_goals
  simp only[decide_eq_true_eq,decide_eq_false_iff_not]at*
  refine(decide_eq_false ?_).symm
  omega)
theorem aca:aR Tryz.prog 53 Et:=lh hZ mixed (fun args kb K h=>by
 unfold Et at h;split at h<;>try exact h.elim
 rename_i cl nm kd bk B
 refine⟨_,agV _ _ _ _ _ K ?_⟩
 have key:∀{b:Bool},b=oM kd->K (ξ b) []:=fun e=>by rw[e];exact h
 refine⟨fun e=>key ?_,fun e=>key ?_⟩<;>unfold oM
 ·simp only[beq_iff_eq]at e
  exact(decide_eq_true (.inl e)).symm
 ·simp only[beq_eq_false_iff_ne,ne_eq]at e
  rw[Bool.eq_iff_iff]
  simp only[beq_iff_eq,decide_eq_true_eq]
  omega)
theorem Y0:dP Tryz.prog GD:=fun f k h=>by
 unfold GD at h
 split at h
 ·cases h;exact fy RS _
 ·cases h;exact fy RT _
 ·cases h
theorem WK:b9 Tryz.prog Mr:=dY mixed Y0 aI 10
theorem r8 {A:List (List D)} {n:Nat} (h:n=A.length):aA n A=A:=by subst h;exact cZ
theorem R6:aR Tryz.prog 58 z_:=oa WK mixed [.ql 0 143] (fun args kb K h=>by
 unfold z_ at h;split at h<;>try exact h.elim
 rename_i me _ _ _ _ _ C _ _ _ _ M J _ _ _ _ _ _ _ n Q A
 obtain⟨hn,⟨hn2⟩,m,j,c,p,⟨rfl,hl,hb⟩,rfl,rfl,h5,hB,rfl,Hn,h0,h1⟩:=h
 refine⟨_,agN _ _ _ _ _ _ _ _ _ _ _ _ _ _ _ _ _ _ _ _ _ _ _ K ⟨fun f=>(by cases f),fun _ f=>⟨m,j,rfl,rfl,h5,hB,⟨by simp [bQ]⟩,fun e=>h0 (by simpa [allI]using e),fun e=>?_⟩⟩⟩
 have e:allI me m j Q=true:=by simpa [allI]using e
 have h1:=h1 e
 have hlen:(aA 16 (ax (p.bk.toNat*16) c)).length=16:=by
  have:=Hn.1;have:=Hn.2
  rw[dc,fZ,hl];omega
 refine⟨bn p,rfl,p.cl,rfl,p.nm,rfl,p.kd,rfl,p.bk,rfl,ints ν p.b,rfl,bn p,rfl,p.kd,rfl,fun e3=>⟨bn p,rfl,p.bk,rfl,fun f=>⟨c,rfl,hl,fun _=>⟨⟨by simp [bQ]⟩,?_⟩,fun ho=>(ho Hn).elim⟩⟩,fun e3=>?_⟩
 ·have:qa c p.kd p.bk=ints ν ((c.drop (p.bk.toNat*16)).take 16):=by unfold qa;rw[if_pos (by simpa using e3)]
  rw[this]at h1
  rw[r9 hlen.symm,r8 hn,bh,hlen]
  exact⟨⟨au _,au _,Nat.le_of_eq hn,by omega,h1⟩,au _,au _,Nat.le_of_eq hn,by omega,h1⟩
 ·have:qa c p.kd p.bk=[]:=by unfold qa;rw[if_neg (by simpa using e3)]
  rw[this]at h1
  rw[r8 hn]
  exact⟨⟨au _,Nat.le_of_eq hn,by omega,h1⟩,au _,Nat.le_of_eq hn,by omega,h1⟩)
theorem Yw:dP Tryz.prog Gd:=fun f k h=>by
 unfold Gd at h
 split at h
 ·cases h;exact fy Sn _
 ·cases h;exact fy Sk _
 ·cases h;exact fy acL _
 ·cases h
theorem WD:b9 Tryz.prog Mn:=dY mixed Yw aI 10
theorem C4 {cl nm kd bk:Int} {b:Nat} (h:vd cl nm kd bk b):lR bk:=by
 have:=h.h
 simp only[kI,decide_eq_true_eq]at this
 exact⟨by omega,by omega⟩
theorem aeD {cl nm bk:Int} {b:Nat} (h:vd cl nm 1 bk b):b=16:=by
 have:=h.h
 simp only[kI,decide_eq_true_eq]at this
 exact this.2.2.2.2.2.2.2.2 trivial
theorem Yt {c b:List Int} {bk:Int}:fj c 1 bk b=splice c (bk.toNat*16) b:=by simp [fj]
theorem Yu {c b:List Int} {bk:Int}:fj c 2 bk b=splice c (bk.toNat*16) (dp 16 0):=by simp [fj]
theorem Yv {c b:List Int} {kd bk:Int} (h1:¬ kd=1) (h2:¬ kd=2):fj c kd bk b=c:=by simp [fj,h1,h2]
theorem R4:aR Tryz.prog 56 z8:=lh WD mixed (fun args kb K h=>by
 unfold z8 at h;split at h<;>try exact h.elim
 ·rename_i cl nm kd bk B _ _ _ _ _ nu C T _ _ _ _ _ _ _ _ _ _ ch _ _ _
  obtain⟨c,b,x,⟨rfl,hl,hb⟩,rfl,hT,kc,hR,hn,hc⟩:=h
  have ew:γ.wrap (nu+1)=nu+1:=bS (by have:=kc.lo;omega) (by have:=kc.hi;omega)
  have hok:=C4 hR
  refine⟨_,agE _ _ _ _ _ _ _ _ _ _ _ _ _ _ _ _ _ _ _ _ _ _ _ _ _ _ _ K ?_⟩
  rw[ew]
  refine⟨fun e=>?_,fun e=>⟨fun e2=>?_,fun e2=>?_⟩⟩
  ·have e:kd=1:=by simpa using e
   subst e
   obtain⟨h1,h2⟩:=hc ⟨rfl⟩
   rw[Yt]at h1 h2
   refine fun f=>⟨c,b,rfl,rfl,hl,fun _=>⟨⟨by simp [bQ]⟩,fun f=>⟨x,hT,fun e=>⟨⟨by simp [bQ]⟩,h1 e⟩,fun e=>⟨⟨by simp [bQ]⟩,h2 e⟩⟩⟩,fun hno=>(hno ⟨hok,aeD hR⟩).elim⟩
  ·have e:kd=2:=by simpa using e2
   subst e
   obtain⟨h1,h2⟩:=hc ⟨rfl⟩
   rw[Yu]at h1 h2
   refine fun f=>⟨c,rfl,hl,fun _=>⟨⟨by simp [bQ]⟩,fun f=>⟨x,hT,fun e=>⟨⟨by simp [bQ]⟩,h1 e⟩,fun e=>⟨⟨by simp [bQ]⟩,h2 e⟩⟩⟩,fun hno=>(hno hok).elim⟩
  ·have e1:¬ kd=1:=by simpa using e
   have e2:¬ kd=2:=by simpa using e2
   have:=hn ⟨by simp [oM,e1,e2]⟩
   rw[Yv e1 e2]at this
   exact this)
theorem aaO:dP Tryz.prog Ii:=fun f k h=>by
 unfold Ii at h
 split at h
 ·cases h;exact fy abM _
 ·cases h;exact Sd
 ·cases h
theorem WP:b9 Tryz.prog Mw:=dY mixed aaO aI 10
theorem XW (x:List L3) (c n:Int):gu x c n=0∨gu x c n=1∨gu x c n=2:=by
 unfold gu
 split
 ·exact .inl rfl
 ·split
  ·exact .inl rfl
  ·split
   ·exact .inr (.inl rfl)
   ·exact .inr (.inr rfl)
theorem acb:aR Tryz.prog 54 Eu:=lh WP mixed (fun args kb K h=>by
 unfold Eu at h;split at h<;>try exact h.elim
 ·rename_i cl nm kd bk B _ _ _ _ _ _ C T _ _ _ _ _ _ _ _ _ _ _ _ _ n A
  obtain⟨hn,⟨hn2⟩,x,hT,h1,h2,h0⟩:=h
  refine⟨_,agX _ _ _ _ _ _ _ _ _ _ _ _ _ _ _ _ _ _ _ _ _ _ _ _ _ _ _ _ K fun f=>⟨x,hT,⟨by simp [bQ]⟩,fun e=>?_,fun e=>⟨fun e2=>?_,fun e2=>?_⟩⟩⟩
  ·have h1:=h1 ⟨by simpa using e⟩
   rw[r8 hn]
   exact⟨⟨au _,Nat.le_of_eq hn,by omega,h1⟩,au _,Nat.le_of_eq hn,by omega,h1⟩
  ·exact h2 ⟨by simpa using e2⟩
  ·have e:¬ gu x cl nm=1:=by simpa using e
   have e2:¬ gu x cl nm=2:=by simpa using e2
   obtain⟨h3,h4⟩:=h0 ⟨by have:=XW x cl nm;omega⟩
   exact⟨x,hT,fun hz=>⟨fun _=>h3 hz,fun he=>(hz.h (by simpa using he)).elim⟩,fun hz=>⟨fun f=>(by cases f),fun _=>h4 hz⟩⟩)
end Go.Proofs.YtfcjngcnifdmnaaGreat
set_option linter.unusedSimpArgs false
set_option linter.unusedVariables false
namespace Vc
open Go
open Go.IntKind renaming i64->γ,u8->ν,u32->iy
open Go.Value renaming int->φ,map->kr,oneCell'->l0
open List renaming map->ae,drop->ax,take->aA,length_append->bo,getElem?_eq_getElem->bz,getElem?_eq_some_iff->bO,length_map->cp,take_length->cZ,length_take->dc,mem_singleton->dm,replicate->dp,mem_append->dQ,Mem->dW,getElem?_append_left->dX,mem_map->ef,append_assoc->eH,mem_cons->eI,getElem?_append_right->e_,append_nil->fu,getElem?_map->fH,take_of_length_le->fI,length_drop->fZ,mem_cons_of_mem->f_,getElem?_set_ne->gE,length_cons->gF,mem_of_getElem?->gG,getElem?_eq_none->g_,getElem?_set_self->iz,length_set->iA,mem_cons_self->iB,length_singleton->iL,mem_append_left->iM,range->iN,drop_zero->iX,getD_eq_getElem?_getD->iY,getElem?_take_of_lt->ji,flatten_cons->jt,nil_append->ju,getElem?_drop->jE,map_append->jZ,take_add_one->j2,length_nil->ko,ext_getElem?->lB,getElem?_of_mem->lC,mem_append_right->lD,map_cons->lY,mem_filter->lZ,eq_nil_of_length_eq_zero->mq
open Nat renaming le_refl->au,zero_le->bt,beq->cq,eq_of_beq_eq_true->cP,zero_add->cQ,add_assoc->gR,lor->iO,lt_or_ge->jF,sub_zero->kV
open Option renaming some->bc,bind_eq_some_iff->kW,map->mU
open Int renaming le_refl->dy,toNat_natCast->dD
open Bool renaming and_eq_true->iW,not_eq_false'->nI
abbrev pv (b:Nat):Value:=.pointer (some ⟨b,0,none⟩)
def w7:V->Value->Prop
 | .any v,p=>v=p
 | .dat d,p=>d= .val p
 |_,_=>False
theorem w7.den {v:V} {p:Value} (h:w7 v p) {σ:Sg} {E:EH} {x:Value} (hd:Den σ E v x):x=p:=by
 cases v<;>simp only[w7]at h
 ·subst h;simpa only[Den]using hd
 ·subst h;simp only[Den,bI]at hd;exact hd.1
theorem wm {σ σ':Sg} {E:EH} {v v':V} (h:V.bU (fun _=>none) v=some v') {x:Value} (hd:Den σ E v x):Den σ' E v' x:=
 Den.bU (fun i j r hi=>by cases hi) h hd
theorem Tu {σ σ':Sg} {E:EH} {vs vs':List V} (h:V.k_ (fun _=>none) vs=some vs') {xs:List Value} (hd:aq σ E vs xs):aq σ' E vs' xs:=
 aq.bU (fun i j r hi=>by cases hi) h hd
theorem Ka {σ:Sg} {o:List Nat} (ho:o.take 1=iN 1) {b:Nat} (h:nX σ b):nX (dS σ o) b:=by
 obtain⟨r,h1,h2⟩:=h
 cases o with
 |nil=>simp at ho
 |cons i o=>
  simp [List.range_succ]at ho
  subst ho
  exact⟨r,by simp [dS,h1],h2⟩
theorem adI {q:Re} {E E':EH} {W W':World} {A:List (Sg×KB)} (hi:Inv [q] E [.objs A] W) {k:Nat} {a:Sg×KB} (hk:A[k]? =some a) {σ':Sg} {bF:KB} (hst:Step a.1 E a.2 W σ' E' bF W')
  {a':Sg×KB} (ha:nL E' W' a') (hown:∀ b,jv a' b->ct σ' bF b):Step [q] E [.objs A] W [q] E' [.objs (A.set k a')] W':=by
 have hp:pR E W A:=hi.obj 0 q _ rfl rfl
 have hka:=(bO.1 hk).1
 have hmem:a∈A:=gG hk
 have hin:∀{b:Nat} {c:Sg×KB},c∈A->jv c b->ct [q] [.objs A] b:=fun{b c} hc hb=>⟨0,q,_,rfl,rfl,c,hc,hb⟩
 have BO:∀(m:Nat) (c:Sg×KB) (b:Nat),m≠k->A[m]? =some c->jv c b->¬ ct a.1 a.2 b:=fun m c b hm hc hb ho=>
  hp.dA m k c a b hm hc hk hb ((hp.ok a hmem).owns ho)
 have hkeep:∀(m:Nat) (c:Sg×KB) (b:Nat),m≠k->A[m]? =some c->jv c b->W'.heap[b]? =W.heap[b]?:=fun m c b hm hc hb=>
  hst.bM.block b ((hp.ok c (gG hc)).lt hb) (BO m c b hm hc hb)
 have eU:∀(m:Nat) (c:Sg×KB),(A.set k a')[m]? =some c->(m=k/\c=a')∨(m≠k/\A[m]? =some c):=fun m c h=>by
  by_cases e:k=m
  ·subst e
   rw[iz hka]at h
   exact .inl ⟨rfl,(bc.inj h).symm⟩
  ·rw[gE e]at h
   exact .inr ⟨fun x=>e x.symm,h⟩
 have hnew:∀ b,jv a' b->ct a.1 a.2 b∨W.heap.size<=b:=fun b hb=>hst.own b (hown b hb)
 have HU:pR E' W' (A.set k a'):=by
  refine⟨fun c hc=>?_,fun m n c d b hmn hc hd h1 h2=>?_⟩
  ·obtain⟨m,hm⟩:=lC hc
   rcases eU m c hm with ⟨rfl,rfl⟩ | ⟨e,h⟩
   ·exact ha
   ·exact(hp.ok c (gG h)).mono hst.le (fun b hb=>hkeep m c b e h hb)
  ·rcases eU m c hc with ⟨rfl,rfl⟩ | ⟨e,h⟩<;>rcases eU n d hd with ⟨rfl,rfl⟩ | ⟨e',h'⟩
   ·exact hmn rfl
   ·rcases hnew b h1 with k1 | k1
    ·exact BO n d b e' h' h2 k1
    ·have:=(hp.ok d (gG h')).lt h2;omega
   ·rcases hnew b h2 with k1 | k1
    ·exact BO m c b e h h1 k1
    ·have:=(hp.ok c (gG h)).lt h1;omega
   ·exact hp.dA m n c d b hmn h h' h1 h2
 have rn:∀ b,ct [q] [.objs (A.set k a')] b->ct [q] [.objs A] b∨W.heap.size<=b:=by
  rintro b ⟨i,r,o,h1,h2,h3⟩
  have:i=0:=by
   rcases i with _ | i
   ·rfl
   ·simp at h1
  subst this
  simp at h1 h2;subst h1;subst h2
  obtain⟨c,hc,hb⟩:=h3
  obtain⟨m,hm⟩:=lC hc
  rcases eU m c hm with ⟨rfl,rfl⟩ | ⟨e,h⟩
  ·rcases hnew b hb with k1 | k1
   ·exact .inl (hin hmem ((hp.ok a hmem).owns k1))
   ·exact .inr k1
  ·exact .inl (hin (gG h) hb)
 refine⟨⟨rfl,fun i r o h1 h2=>?_,fun i j r r' o o' b hij h1 h2 h3 h4 _ _=>?_,hst.inv.dj,fun b hb=>?_⟩,⟨hst.bM.os,hst.bM.tape,hst.bM.output,hst.bM.size,fun b hb hn=>hst.bM.block b hb (fun ho=>hn (hin hmem ((hp.ok a hmem).owns ho)))⟩,⟨[],by simp⟩,hst.le,rn,fun b o hb=>?_⟩
 ·have:i=0:=by
   rcases i with _ | i
   ·rfl
   ·simp at h1
  subst this
  simp at h1 h2;subst h1;subst h2
  exact HU
 ·have e1:i=0:=by
   rcases i with _ | i
   ·rfl
   ·simp at h1
  have e2:j=0:=by
   rcases j with _ | j
   ·rfl
   ·simp at h3
  omega
 ·obtain⟨i,r,o,h1,h2,h3⟩:=hb
  have:i=0:=by
   rcases i with _ | i
   ·rfl
   ·simp at h1
  subst this
  simp at h1 h2;subst h1;subst h2
  obtain⟨c,hc,hcb⟩:=h3
  obtain⟨m,hm⟩:=lC hc
  rcases eU m c hm with ⟨rfl,rfl⟩ | ⟨e,h⟩
  ·exact hst.inv.sep b (hown b hcb)
  ·cases hE:E' b with
   |none=>rfl
   |some x=>
    rcases hst.new b x hE with k1 | k1 | k1
    ·rw[hi.sep b (hin (gG h) hcb)]at k1;cases k1
    ·exact(BO m c b e h hcb k1).elim
    ·have:=(hp.ok c (gG h)).lt hcb;omega
 ·rcases hst.new b o hb with k1 | k1 | k1
  ·exact .inl k1
  ·exact .inr (.inl (hin hmem ((hp.ok a hmem).owns k1)))
  ·exact .inr (.inr k1)
def eX (K:V->KB->Prop):V->KB->Prop:=fun r kb=>match sC false 1 [] kb,V.bU (fun _=>none) r with
 |some (_,dF,_),some r'=>match gw dF with | true=>K r' dF | false=>False
 |_,_=>False
theorem ID {P:Program} {f:FuncId} {S S0:aD} (hS:aR P f S0) (h:∀ args kb K,S args kb K->S0 args kb (eX K)):gq P f S:=fun args kb K hs σ E W xs hi hd=>by
 refine(hS _ _ _ (h args kb K hs) σ E W xs hi hd).mono ?_
 rintro e W' ⟨v,r,σ',E',bF,rfl,hst,eM,hK⟩
 unfold eX at hK
 split at hK<;>try exact hK.elim
 rename_i vs' dF o r' hc hr'
 split at hK<;>try exact hK.elim
 rename_i mY
 obtain⟨hn,ht,_,hsel⟩:=qT hc
 obtain⟨k1,k2,k3⟩:=hst.inv.sel hn hsel
 refine⟨v,r',σ',E',bF,_,dF,rfl,hst,k1,mY,k2,fun b hb=>?_,fun τ=>wm hr' eM,hK⟩
 obtain⟨τ,rfl⟩:=hst.pre
 obtain⟨r,hr,hrb⟩:=hb
 exact Ka ht ⟨r,gA hr,hrb⟩
theorem Cq {P:Program} (hm:P.follows .mixedOrders=true) {f:FuncId} {S:aD} (h:∀ args kb K,S args kb K->∃(X:bN) (T:Nat->Option LI),b9 P X/\aK P X T f args kb (eX K)):gq P f S:=
 ID (wB hm (S:=fun a k K0=>∃ X T,b9 P X/\aK P X T f a k K0) fun _ _ _ h=>h) h
def YZ (l:List V) (k:Nat):Bool:=match l[k]? with
 |some (.sb b)=>match b with | true=>false | false=>true
 |some .ff=>true
 |_=>false
def HI (k:Nat) (ms:List Bool) (kb:KB) (K:KB->Prop):Prop:=match kb with
 | .cells l::rest=>match YZ l k with
  |true=>∀ f:Nat->Value,match mF f ms l 0 with
   |some l'=>K (.cells l'::rest)
   |none=>False
  |false=>K (.cells l::rest)
 |kb=>K kb
theorem PY {k:Nat} {ms:List Bool} {kb:KB} {K:KB->Prop} (h:HI k ms kb K) {σ:Sg} {E:EH} {W:World} (hi:Inv σ E kb W):∃ kb',Inv σ E kb' W/\(∀ b,ct σ kb' b->ct σ kb b)/\K kb':=by
 unfold HI at h
 split at h
 ·rename_i l rest
  split at h
  ·obtain⟨q,hq⟩:∃ q,σ[0]? =some q:=by
    have:=hi.len
    cases σ with
    |nil=>simp at this
    |cons q σ=>exact⟨q,rfl⟩
   obtain⟨arr,ty,ha,hl⟩:=hi.obj 0 q _ hq rfl
   obtain⟨f,hf⟩:=Cp (ms:=ms) (i:=0) hl
   have h:=h f
   split at h<;>try exact h.elim
   rename_i l' hl'
   obtain⟨h1,h2⟩:=hf l' hl'
   refine⟨_,⟨by simpa using hi.len,fun i q' o k1 k2=>?_,fun i j q1 q2 o o' b hij k1 k2 k3 k4 k5 k6=>?_,hi.dj,fun b hb=>hi.sep b (ta hb)⟩,fun b hb=>ta hb,h⟩
   ·cases i with
    |zero=>
     simp at k2;subst k2
     rw[hq]at k1;cases k1
     exact⟨arr,ty,ha,h1⟩
    |succ i=>exact hi.obj (i+1) q' o k1 (by simpa using k2)
   ·have key:∀(i:Nat) (o:KO) (q:Re),(KO.cells l'::rest)[i]? =some o->owned q o b->∃ o2,(KO.cells l::rest)[i]? =some o2/\owned q o2 b:=fun i o q h2 h5=>by
     cases i with
     |zero=>simp at h2;subst h2;exact⟨_,rfl,h5⟩
     |succ i=>exact⟨o,by simpa using h2,h5⟩
    obtain⟨o2,g1,g2⟩:=key i o q1 k2 k5
    obtain⟨o3,g3,g4⟩:=key j o' q2 k4 k6
    exact hi.dA i j q1 q2 o2 o3 b hij k1 g1 k3 g3 g2 g4
  ·exact⟨_,hi,fun b hb=>hb,h⟩
 ·exact⟨_,hi,fun b hb=>hb,h⟩
def gz (k:Nat) (ms:List Bool) (K:V->KB->Prop):V->KB->Prop:=fun r kb=>HI k ms kb (eX K r)
theorem abi {P:Program} {f:FuncId} {S S0:aD} (hS:aR P f S0) (k:Nat) (ms:List Bool) (h:∀ args kb K,S args kb K->S0 args kb (gz k ms K)):gq P f S:=fun args kb K hs σ E W xs hi hd=>by
 refine(hS _ _ _ (h args kb K hs) σ E W xs hi hd).mono ?_
 rintro e W' ⟨v,r,σ',E',bF,rfl,hst,eM,hK⟩
 obtain⟨kbm,him,HS,hK⟩:=PY hK hst.inv
 unfold eX at hK
 split at hK<;>try exact hK.elim
 rename_i vs' dF o r' hc hr'
 split at hK<;>try exact hK.elim
 rename_i mY
 obtain⟨hn,ht,_,hsel⟩:=qT hc
 obtain⟨k1,k2,k3⟩:=him.sel hn hsel
 refine⟨v,r',σ',E',bF,_,dF,rfl,hst,k1,mY,fun b hb=>HS b (k2 b hb),fun b hb=>?_,fun τ=>wm hr' eM,hK⟩
 obtain⟨τ,rfl⟩:=hst.pre
 obtain⟨r,hr,hrb⟩:=hb
 exact Ka ht ⟨r,gA hr,hrb⟩
theorem ur {P:Program} (hm:P.follows .mixedOrders=true) (k:Nat) (ms:List Bool) {f:FuncId} {S:aD} (h:∀ args kb K,S args kb K->∃(X:bN) (T:Nat->Option LI),b9 P X/\aK P X T f args kb (gz k ms K)):gq P f S:=
 abi (wB hm (S:=fun a k K0=>∃ X T,b9 P X/\aK P X T f a k K0) fun _ _ _ h=>h) k ms h
def wn (k:Nat) (ms:List Bool) (K:V->KB->Prop):V->KB->Prop:=fun r kb=>match kb with
 | .jd a:: _=>match V.bU (fun _=>none) r with
  |some r'=>gw a.2=true/\K r' a.2
  |none=>False
 |kb=>gz k ms K r kb
theorem abj {P:Program} (hm:P.follows .mixedOrders=true) (k:Nat) (ms:List Bool) {f:FuncId} {S:aD} (h:∀ args kb K,S args kb K->∃(X:bN) (T:Nat->Option LI),b9 P X/\aK P X T f args kb (wn k ms K)):gq P f S:=fun args kb K hs σ E W xs hi hd=>by
 have h0:aR P f (fun a k K0=>∃ X T,b9 P X/\aK P X T f a k K0):=wB hm fun _ _ _ h=>h
 refine(h0 _ _ _ (h args kb K hs) σ E W xs hi hd).mono ?_
 rintro e W' ⟨v,r,σ',E',bF,rfl,hst,eM,hK⟩
 unfold wn at hK
 split at hK
 ·rename_i a rest
  split at hK<;>try exact hK.elim
  rename_i r' hr'
  obtain⟨mY,hK⟩:=hK
  obtain⟨q,hq⟩:∃ q,σ'[0]? =some q:=by
   have:=hst.inv.len
   cases σ' with
   |nil=>simp at this
   |cons q _=>exact⟨q,rfl⟩
  obtain⟨h1,h2⟩:=hst.inv.obj 0 q _ hq rfl
  refine⟨v,r',σ',E',_,a.1,a.2,rfl,hst,h1.inv hst.inv.dj (fun b hb=>hst.inv.sep b ⟨0,q,_,hq,rfl,hb⟩),mY,fun b hb=>⟨0,q,_,hq,rfl,h1.owns hb⟩,fun b hb=>?_,fun τ=>wm hr' eM,hK⟩
  obtain⟨q0,g1,rfl⟩:=hb
  obtain⟨τ,rfl⟩:=hst.pre
  have:=gA (τ:=τ) g1
  rw[hq]at this;cases this
  exact h2
 ·obtain⟨kbm,him,HS,hK⟩:=PY hK hst.inv
  unfold eX at hK
  split at hK<;>try exact hK.elim
  rename_i vs' dF o r' hc hr'
  split at hK<;>try exact hK.elim
  rename_i mY
  obtain⟨hn,ht,_,hsel⟩:=qT hc
  obtain⟨k1,k2,k3⟩:=him.sel hn hsel
  refine⟨v,r',σ',E',bF,_,dF,rfl,hst,k1,mY,fun b hb=>HS b (k2 b hb),fun b hb=>?_,fun τ=>wm hr' eM,hK⟩
  obtain⟨τ,rfl⟩:=hst.pre
  obtain⟨r,hr,hrb⟩:=hb
  exact Ka ht ⟨r,gA hr,hrb⟩
def Q7 (S:aD):aD:=fun args kb K=>match args,kb with
 |v::rest,[.objs A]=>∃ k a b rest',A[k]? =some a/\nX a.1 b/\w7 v (pv b)/\V.k_ (fun _=>none) rest=some rest'/\
  S (.ptr 0 0::rest') a.2 (fun r dF=>∀ τ,nX τ b->K r [.objs (A.set k (τ,dF))])
 |_,_=>False
theorem abk {P:Program} {f:FuncId} {S:aD} (hS:gq P f S):aR P f (Q7 S):=fun args kb K h σ E W xs hi hd=>by
 unfold Q7 at h
 split at h<;>try exact h.elim
 rename_i v rest A
 obtain⟨k,a,b,rest',hk,sS,hv,ru,h⟩:=h
 obtain⟨q,rfl⟩:∃ q,σ=[q]:=by
  have:=hi.len
  match σ,this with
  | [q],_=>exact⟨q,rfl⟩
 have hp:pR E W A:=hi.obj 0 q _ rfl rfl
 have hmem:a∈A:=gG hk
 simp only[aq]at hd
 obtain⟨x,xs',rfl,hx,hxs⟩:=hd
 have hx:=hv.den hx
 subst hx
 have hsep:∀ c,jv a c->E c=none:=fun c hc=>hi.sep c ⟨0,q,_,rfl,rfl,a,hmem,hc⟩
 have hia:=(hp.ok a hmem).inv hi.dj hsep
 have aas:=sS
 obtain⟨r,hr,hrb⟩:=sS
 refine(hS _ _ _ h a.1 E W _ hia (aq.cons (by simp only[Den];exact⟨r,hr,by rw[hrb]⟩) (Tu ru hxs))).mono ?_
 rintro e W' ⟨v2,r2,σ',E',bF,σ3,dF,rfl,hst,hin,mY,hown,m_,eM,hK⟩
 exact⟨v2,r2,[q],E',_,rfl,adI hi hk hst (hin.Jf mY) (fun c hc=>hown c hc.up),eM _,hK _ (m_ b aas)⟩
def KX (b:Nat):V->Option V
 | .ptr 0 0=>some (.any (pv b))
 | .χ [.ptr 0 0,v]=>match V.bU (fun _=>none) v with | some v'=>some (.χ [.any (pv b),v']) | none=>none
 |_=>none
theorem Vh {b:Nat} {v v':V} (h:KX b v=some v') {σ σ':Sg} {E:EH} (hr:nX σ b) {x:Value} (hd:Den σ E v x):Den σ' E v' x:=by
 obtain⟨r,hr,hb⟩:=hr
 unfold KX at h
 split at h<;>try (cases h;done)
 ·cases h
  simp only[Den]at hd ⊢
  obtain⟨r',h1,h2⟩:=hd
  rw[hr]at h1;cases h1
  rw[h2,hb]
 ·split at h<;>try (cases h;done)
  rename_i w w' hw
  cases h
  simp only[Den]at hd ⊢
  obtain⟨vs,rfl,h1⟩:=hd
  simp only[aq,Den]at h1
  obtain⟨x1,xs1,rfl,⟨r',h2,h3⟩,x2,VN,rfl,h4,rfl⟩:=h1
  rw[hr]at h2;cases h2
  refine⟨_,rfl,aq.cons (by simp only[Den];rw[h3,hb]) (aq.cons (wm hw h4) .nil)⟩
theorem aaE {σ:Sg} {E:EH} {kb:KB} {W:World} (h:Inv σ E kb W):Inv [] E [] W:=
 ⟨rfl,fun i r o h=>by simp at h,fun i j r r' o o' b _ h=>by simp at h,h.dj,fun b ⟨i,r,o,h,_⟩=>by simp at h⟩
theorem yM {b:Nat} (h:ct [] [] b):False:=by obtain⟨i,r,o,h,_⟩:=h;simp at h
def XE (S:aD):aD:=fun args kb K=>∃ A args',(kb=[]/\A=[]∨kb=[.objs A])/\V.k_ (fun _=>none) args=some args'/\
 S args' [] (fun r bF=>match sC false 0 [r] bF with
  |some ([r'],[],_)=>match V.bU (fun _=>none) r' with | some r2=>K r2 kb | none=>False
  |some ([r'],dF,_)=>gw dF=true/\∀ b τ,nX τ b->match KX b r' with | some r2=>K r2 [.objs (A++[(τ,dF)])] | none=>False
  |_=>False)
theorem Fz {P:Program} {f:FuncId} {S:aD} (hS:aR P f S):aR P f (XE S):=fun args kb K h σ E W xs hi hd=>by
 obtain⟨A,args',hkb,ha,h⟩:=h
 refine(hS _ _ _ h [] E W _ (aaE hi) (Tu ha hd)).mono ?_
 rintro e W' ⟨v,r,σ',E',bF,rfl,hst,eM,hK⟩
 have keep:∀ b,b<W.heap.size->W'.heap[b]? =W.heap[b]?:=fun b hb=>hst.bM.block b hb (fun ho=>yM ho)
 have Pc:∀ b,b<W.heap.size->E b=none->E' b=none:=fun b hb hE=>by
  cases x7:E' b with
  |none=>rfl
  |some x=>
   rcases hst.new b x x7 with k | k | k
   ·rw[hE]at k;cases k
   ·exact(yM k).elim
   ·omega
 have hnew2:∀{u0:Sg} {rG:KB} (b:Nat) (o:Obj),E' b=some o->E b=some o∨ct u0 rG b∨W.heap.size<=b:=fun b o hb=>by
  rcases hst.new b o hb with k | k | k
  ·exact .inl k
  ·exact(yM k).elim
  ·exact .inr (.inr k)
 split at hK<;>try exact hK.elim
 ·
  split at hK<;>try exact hK.elim
  rename_i r' o hc _ r2 BP
  obtain⟨hn,ht,HW,hsel⟩:=qT hc
  obtain⟨k1,k2,k3⟩:=hst.inv.sel hn hsel
  have hl:=aq.bU k3 HW (xP eM)
  refine⟨v,r2,σ,E',kb,rfl,⟨⟨hi.len,fun i r o h1 h2=>?_,hi.dA,hst.inv.dj,fun b hb=>Pc b (hi.lt hb) (hi.sep b hb)⟩,⟨hst.bM.os,hst.bM.tape,hst.bM.output,hst.bM.size,fun b hb _=>keep b hb⟩,⟨[],by simp⟩,hst.le,fun b hb=> .inl hb,hnew2⟩,wm BP (xQ hl),hK⟩
  have:=(hi.obj i r o h1 h2).mono (τ:=[]) (W':=W') hst.le (fun b hb=>keep b ((hi.obj i r o h1 h2).lt hb))
  simpa using this
 ·rename_i r' dF o hne hc
  obtain⟨mY,hK⟩:=hK
  obtain⟨hn,ht,HW,hsel⟩:=qT hc
  obtain⟨k1,k2,k3⟩:=hst.inv.sel hn hsel
  have hl:=xQ (aq.bU k3 HW (xP eM))
  obtain⟨q,hq⟩:∃ q,(dS σ' o)[0]? =some q:=by
   have:=k1.len
   cases hs:dS σ' o with
   |nil=>
    rw[hs]at this
    cases dF with
    |nil=>exact absurd rfl hne
    |cons _ _=>simp at this
   |cons q _=>exact⟨q,rfl⟩
  have sS:nX (dS σ' o) q.blk:=⟨q,hq,rfl⟩
  have hK:=hK q.blk _ sS
  split at hK<;>try exact hK.elim
  rename_i r2 BP
  have qf:=k1.Jf mY
  have HG:∀ b,jv (dS σ' o,dF) b->W.heap.size<=b:=fun b hb=>by
   rcases hst.own b (k2 b hb.up)with k | k
   ·exact(yM k).elim
   ·exact k
  have hold:pR E W A:=by
   rcases hkb with ⟨rfl,rfl⟩ | rfl
   ·exact⟨fun a ha=>by simp at ha,fun k m a a' b _ h=>by simp at h⟩
   ·have h1:σ.length=1:=hi.len
    exact hi.obj 0 σ[0] _ (bz (by omega)) rfl
  have HU:pR E' W' (A++[(dS σ' o,dF)]):=by
   have eU:∀(m:Nat) (c:Sg×KB),(A++[(dS σ' o,dF)])[m]? =some c->A[m]? =some c∨(m=A.length/\c=(dS σ' o,dF)):=fun m c h=>by
    rcases Nat.lt_trichotomy m A.length with hm | hm | hm
    ·rw[dX hm]at h;exact .inl h
    ·subst hm
     rw[e_ (au _)]at h
     simp at h
     exact .inr ⟨rfl,h.symm⟩
    ·rw[g_ (by simp;omega)]at h;cases h
   refine⟨fun c hc=>?_,fun m n c d b hmn h1 h2 h3 h4=>?_⟩
   ·obtain⟨m,hm⟩:=lC hc
    rcases eU m c hm with h | ⟨_,rfl⟩
    ·have hc:=gG h
     exact(hold.ok c hc).mono hst.le (fun b hb=>keep b ((hold.ok c hc).lt hb))
    ·exact qf
   ·rcases eU m c h1 with k | ⟨e1,rfl⟩<;>rcases eU n d h2 with k' | ⟨e2,rfl⟩
    ·exact hold.dA m n c d b hmn k k' h3 h4
    ·have:=(hold.ok c (gG k)).lt h3;have:=HG b h4;omega
    ·have:=(hold.ok d (gG k')).lt h4;have:=HG b h3;omega
    ·omega
  have one:∀{q':Re} {u0:Sg} {rG:KB},(∀ b,(∃ a∈A,jv a b)->ct u0 rG b)->(∀ b,ct u0 rG b->E b=none)->(∃ τ,[q']=u0++τ)->Step u0 E rG W [q'] E' [.objs (A++[(dS σ' o,dF)])] W':=by
   intro q' u0 rG h1 h2 h3
   have hz:∀{i:Nat} {r:Re},[q'][i]? =some r->i=0/\r=q':=fun{i r} h=>by
    rcases i with _ | i
    ·simp at h;exact⟨rfl,h.symm⟩
    ·simp at h
   have Qf:∀ b,ct [q'] [.objs (A++[(dS σ' o,dF)])] b->(∃ a∈A,jv a b)∨jv (dS σ' o,dF) b:=by
    rintro b ⟨i,r,ob,g1,g2,g3⟩
    obtain⟨rfl,rfl⟩:=hz g1
    simp at g2;subst g2
    obtain⟨c,hc,hb⟩:=g3
    rcases dQ.1 hc with hc | hc
    ·exact .inl ⟨c,hc,hb⟩
    ·simp at hc;subst hc;exact .inr hb
   refine⟨⟨rfl,fun i r ob g1 g2=>?_,fun i j r r' ob yH b hij g1 g2 g3 g4 _ _=>?_,hst.inv.dj,fun b hb=>?_⟩,⟨hst.bM.os,hst.bM.tape,hst.bM.output,hst.bM.size,fun b hb _=>keep b hb⟩,h3,hst.le,fun b hb=>?_,hnew2⟩
   ·obtain⟨rfl,rfl⟩:=hz g1
    simp at g2;subst g2
    exact HU
   ·obtain⟨rfl,rfl⟩:=hz g1
    obtain⟨rfl,rfl⟩:=hz g3
    exact(hij rfl).elim
   ·rcases Qf b hb with ⟨c,hc,hcb⟩ | hcb
    ·exact Pc b ((hold.ok c hc).lt hcb) (h2 b (h1 b ⟨c,hc,hcb⟩))
    ·exact k1.sep b hcb.up
   ·rcases Qf b hb with k | k
    ·exact .inl (h1 b k)
    ·exact .inr (HG b k)
  rcases hkb with ⟨rfl,rfl⟩ | rfl
  ·have:σ=[]:=mq hi.len
   subst this
   exact⟨v,r2,[JN],E',_,rfl,one (fun b ⟨a,ha,_⟩=>by simp at ha) (fun b hb=>(yM hb).elim) ⟨[JN],rfl⟩,Vh BP sS hl,hK⟩
  ·have h1:σ.length=1:=hi.len
   match σ,h1 with
   | [q'],_=>exact⟨v,r2,[q'],E',_,rfl,one (fun b hb=>⟨0,q',_,rfl,rfl,hb⟩) (fun b hb=>hi.sep b hb) ⟨[],by simp⟩,Vh BP sS hl,hK⟩
end Vc
