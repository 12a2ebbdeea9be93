import Derived.Test.YtfcjngcnifdmnaaGreatQc
import Derived.KernelRfl
import Derived.Shelf.Sort.Plain
import Derived.Shelf.Slices.In.SortNone
import Derived.Shelf.SlMaps.Clone
import Derived.Shelf.SlIterI.Nil
import Derived.Shelf.SlIterI.Sorted
import Derived.Shelf.SortM.Plain
import Derived.Shelf.SortM.SortNone
import Derived.Ground.GgzProg
import Derived.Ground.SlgmProg
import Derived.Ground.SlmcProg
import Derived.Test.YtfcjngcnifdmnaaGreatProg
import Derived.Shelf.Spec.SlicesGrow
namespace Go.Proofs.YtfcjngcnifdmnaaGreat
open Vc Go
open Go.IntKind renaming i64->Z,u8->ι,u32->ic
open Vc.V renaming any->γ,sl->δ,int->ε,sb->θ,ptr->aj,υ->aw,dat->aD,aa->aP,mp->aX,arr->bB,agg->fF
open Vc.D renaming val->ζ,sl->ψ
open Go.Value renaming int->ν,map->kq,oneCell'->lU,bool->nE
open Vc.KO renaming row->ξ,dead->χ,cells->ar,objs->cD
open List renaming map->φ,drop->ay,take->az,length_append->bn,getElem?_eq_getElem->bp,getElem?_eq_some_iff->bG,length_map->bX,take_length->cM,length_take->cQ,replicate->dq,mem_append->dM,append_assoc->dO,getElem?_append_left->dP,mem_singleton->dQ,Mem->dS,mem_cons->ey,mem_map->eL,take_of_length_le->eM,getElem?_append_right->eW,mem_of_getElem?->fi,append_nil->fD,getElem?_map->fE,mem_cons_of_mem->fM,length_drop->fQ,getElem?_set_ne->gr,getD_eq_getElem?_getD->gD,getElem?_eq_none->gO,drop_zero->g_,getElem?_take_of_lt->hU,getElem?_set_self->ig,length_singleton->ii,length_set->ir,mem_cons_self->iu,range->iw,mem_append_left->iL,length_cons->iZ,take_add_one->i_,flatten_cons->jm,getElem?_drop->jw,getElem?_of_mem->jx,map_append->jy,nil_append->jV,length_nil->kn,mem_filter->kM,ext_getElem?->lw,eq_nil_of_length_eq_zero->ma,map_cons->mb,mem_append_right->mc
open Nat renaming le_refl->av,zero_le->bt,beq->cp,eq_of_beq_eq_true->cU,zero_add->c9,add_assoc->gE,lor->iy,lt_or_ge->jX,sub_zero->lT,le_trans->mf
open Option renaming some->bb,bind_eq_some_iff->kP,map->mO
open Int renaming toNat_natCast->cP,le_refl->fa
open Bool renaming and_eq_true->km,not_eq_false'->lm,not_eq_true'->lR
set_option linter.unusedVariables false
set_option linter.unusedSimpArgs false
set_option maxRecDepth 100000
def B_:FuncId->Option dA
 | 62=>some ⟨[],Eh⟩
 |f=>Fe f
noncomputable def Mh:bJ:=dG Tryz.prog B_ aG 10
def z8:aE:=fun args kb K=>match args,kb with
 | [aj 0 0,.int Z most],[ar [.sl 1 lo h,.int Z e],ξ 5 1 A]=>∃ l:List Int,A=ints ι l/\h=l.length/\lo<=l.length/\bm l/\l.length<=140737488355328/\
  K (.int Z (cx (l.drop lo) e most).1) [ar [.sl 1 (lo+(cx (l.drop lo) e most).2.1) l.length,.int Z (cx (l.drop lo) e most).2.2],ξ 5 1 (ints ι l)]
 |_,_=>False
def Cs:FuncId->Option dA
 | 31=>some ⟨[],z8⟩
 | 36=>some ⟨[],yj [.cell 0 0 5 1] Ez⟩
 |f=>B_ f
noncomputable def tw:bJ:=dG Tryz.prog Cs aG 10
theorem agU (l:List Int) (lo:Nat) (e most:Int) (K:V->KB->Prop) (an:
 ((e != 0)=true->
 K (ε Z 0) [ar [δ 1 lo l.length,ε Z e],ξ 5 1 (ints ι l)])/\
 ((e != 0)=false->
 ∃(l_1:List Int),let bj:=(lo+(l_1.length - lo));let aO:=l_1.length - lo<=l_1.length - lo;let η:=ξ 5 1 (ints ι l_1);let aC:=K (ε Z 0) [ar [δ 1 lo l_1.length,ε Z 3],η];let aH:=K (ε Z 0) [ar [δ 1 lo l_1.length,ε Z 2],η];let au:=K (ε Z 0) [ar [δ 1 lo l_1.length,ε Z 0],η];let ω:=K (ε Z 0) [ar [δ 1 lo l_1.length,ε Z 5],η];ints ι l=ints ι l_1/\
 l.length=l_1.length/\
 lo<=l_1.length/\
 (∀(c:Int),dS c l_1->
 0<=c/\
 c<256)/\
 l_1.length<=140737488355328/\
 e=0/\
 (∀(v n:Nat),jq 0 0 (ay lo l_1)=zI.got v n->
 (((↑n:Int) == 0)=true->
 au)/\
 (((↑n:Int) == 0)=false->
 (decide ((↑v:Int) > most)=true->
 (true=true->
 ω)/\
 (true=false->
 au))/\
 (decide ((↑v:Int) > most)=false->
 aB (↑n:Int)/\
 True/\
 (↑n:Int).toNat<=l_1.length - lo/\
 aO/\
 K (ε Z (↑v:Int)) [ar [δ 1 (lo+(↑n:Int).toNat) bj,ε Z 0],η])))/\
 (jq 0 0 (ay lo l_1)=zI.short->
 (true=true->
 aH)/\
 (true=false->
 (decide (0 > most)=true->
 (false=true->
 ω)/\
 (false=false->
 aH))/\
 (decide (0 > most)=false->
 aB 0/\
 True/\
 0<=l_1.length - lo/\
 aO/\
 K (ε Z 0) [ar [δ 1 (lo+0) bj,ε Z 2],η])))/\
 (jq 0 0 (ay lo l_1)=zI.form->
 (true=true->
 aC)/\
 (true=false->
 (decide (0 > most)=true->
 (false=true->
 ω)/\
 (false=false->
 aC))/\
 (decide (0 > most)=false->
 aB 0/\
 True/\
 0<=l_1.length - lo/\
 aO/\
 K (ε Z 0) [ar [δ 1 (lo+0) bj,ε Z 3],η]))))
 ):aI Tryz.prog Mh (aG 31) 31 [aj 0 0,.int Z most] [ar [.sl 1 lo l.length,.int Z e],ξ 5 1 (ints ι l)] K:=by apply Eq.mp (a:=an);kernel_rfl
theorem ahx (l:List Int) (lo:Nat) (e most:Int) (K:V->KB->Prop) (an:
 ∃(l_1:List Int),let aC:=ξ 5 1 (ints ι l_1);let η:=(cx (ay lo l_1) e most);let aO:=η.fst.toNat<=l_1.length - (lo+η.snd.fst);let aH:=(l_1.length - (lo+η.snd.fst));let au:=K (δ 2 0 0) [ar [δ 1 (lo+η.snd.fst) l_1.length,ε Z η.snd.snd],aC,ξ 5 1 []];let ω:=(ay (lo+η.snd.fst+0) (az (lo+η.snd.fst+η.fst.toNat) (ints ι l_1)));ints ι l=ints ι l_1/\
 l.length=l_1.length/\
 lo<=l_1.length/\
 (∀(c:Int),dS c l_1->
 0<=c/\
 c<256)/\
 l_1.length<=140737488355328/\
 ((η.snd.snd != 0)=true->
 au)/\
 ((η.snd.snd != 0)=false->
 (decide (η.fst > (↑aH:Int))=true->
 ((η.snd.snd == 0)=true->
 K (δ 2 0 0) [ar [δ 1 (lo+η.snd.fst) l_1.length,ε Z 2],aC,ξ 5 1 []])/\
 ((η.snd.snd == 0)=false->
 au))/\
 (decide (η.fst > (↑aH:Int))=false->
 True/\
 aB η.fst/\
 0<=η.fst.toNat/\
 aO/\
 (lo+η.snd.fst+η.fst.toNat<=(ints ι l_1).length/\
 True)/\
 ω.length<=140737488355328/\
 ox ω.flatten/\
 aB η.fst/\
 True/\
 aO/\
 l_1.length - (lo+η.snd.fst)<=l_1.length - (lo+η.snd.fst)/\
 K (δ 2 0 ω.length) [ar [δ 1 (lo+η.snd.fst+η.fst.toNat) (lo+η.snd.fst+aH),ε Z η.snd.snd],aC,ξ 5 1 ω]))
 ):aI Tryz.prog tw (aG 32) 32 [aj 0 0,.int Z most] [ar [.sl 1 lo l.length,.int Z e],ξ 5 1 (ints ι l)] (eZ [.slot 0 5 1] K):=by apply Eq.mp (a:=an);kernel_rfl
theorem ahI (a:List Int) (B:List (List D)) (K:V->KB->Prop) (an:
 ∃(a_1:List Int),let η:=(a_1++aY (↑B.length:Int));ints ι a=ints ι a_1/\
 a.length=a_1.length/\
 a_1.length<=10000000/\
 jk (↑B.length:Int)/\
 True/\
 η.length<=(ints ι η).length/\
 (η.length+B.length)*1<=140737488355328/\
 K (aw []) [ar [δ 2 0 (η.length+B.length)],χ,ξ 5 1 (az η.length (ints ι η)++B)]
 ):aI Tryz.prog tw (aG 37) 37 [aj 0 0,aD (.sl 1 B)] [ar [.sl 1 0 a.length],ξ 5 1 (ints ι a)] (dp 2 K):=by apply Eq.mp (a:=an);kernel_rfl
theorem af6 (A:List (List D)) (n:Nat) (K:V->KB->Prop) (an:
 let η:=(ay 0 (az n A));(n<=A.length/\
 True)/\
 η.length<=140737488355328/\
 ox η.flatten/\
 K (δ 2 0 η.length) [ar [δ 1 0 n],ξ 5 1 A,ξ 5 1 η]
 ):aI Tryz.prog tw (aG 40) 40 [aj 0 0] [ar [.sl 1 0 n],ξ 5 1 A] K:=by apply Eq.mp (a:=an);kernel_rfl
theorem aha (A:List (List D)) (K:V->KB->Prop) (an:
 A.length<=140737488355328/\
 K (aj 0 0) [ar [δ 1 0 A.length,ε Z 0],ξ 5 1 A]
 ):aI Tryz.prog tw (aG 30) 30 [aD (.sl 1 A)] [] (dp 0 K):=by apply Eq.mp (a:=an);kernel_rfl
theorem agu (l:List Int) (lo:Nat) (e:Int) (K:V->KB->Prop) (an:
 let η:=K (ε Z e) [ar [δ 1 lo l.length,ε Z e],ξ 5 1 (ints ι l)];(decide ((↑(l.length - lo):Int) > 0)=true->
 ((e == 0)=true->
 K (ε Z 3) [ar [δ 1 lo l.length,ε Z 3],ξ 5 1 (ints ι l)])/\
 ((e == 0)=false->
 η))/\
 (decide ((↑(l.length - lo):Int) > 0)=false->
 η)
 ):aI Tryz.prog tw (aG 35) 35 [aj 0 0] [ar [.sl 1 lo l.length,.int Z e],ξ 5 1 (ints ι l)] K:=by apply Eq.mp (a:=an);kernel_rfl
theorem agy (A:List (List D)) (lo hi:Nat) (e:Int) (K:V->KB->Prop) (an:
 K (ε Z e) [ar [δ 1 lo hi,ε Z e],ξ 5 1 A]
 ):aI Tryz.prog tw (aG 65) 65 [aj 0 0] [ar [.sl 1 lo hi,.int Z e],ξ 5 1 A] K:=by apply Eq.mp (a:=an);kernel_rfl
theorem Wu:dF Tryz.prog Fe:=fun f k h=>by
 unfold Fe at h
 split at h<;>first | (cases h;first | exact Rp | exact Xa Q_ | exact I3) | cases h
theorem QS:dF Tryz.prog B_:=fun f k h=>by
 unfold B_ at h
 split at h
 ·cases h;exact abZ
 ·exact Wu _ _ h
theorem VX:bZ Tryz.prog Mh:=dI mixed QS aG 10
theorem pY {l:List Int} (h:bm l) (n:Nat):bm (l.drop n):=fun c hc=>h c (List.mem_of_mem_drop hc)
theorem Rl:aN Tryz.prog 31 z8:=dW VX mixed (fun args kb K h=>by
 unfold z8 at h;split at h<;>try exact h.elim
 rename_i most lo _ e _
 obtain⟨l,rfl,rfl,hlo,hb,hl,h⟩:=h
 refine⟨aG 31,agU l lo e most K ⟨fun hc=>?_,fun hc=>?_⟩⟩
 ·simp only[bne_iff_ne,ne_eq]at hc
  unfold cx at h
  rw[if_neg hc]at h
  exact h
 ·simp only[bne_eq_false_iff_eq]at hc
  subst hc
  refine⟨l,rfl,rfl,hlo,hb,hl,rfl,fun v n hn=>⟨fun h0=>?_,fun h0=>⟨fun hv=>⟨fun _=>?_,fun h=>by simp at h⟩,fun hv=>⟨by unfold aB;omega,trivial,?_,av _,?_⟩⟩⟩,fun hn=>⟨fun _=>?_,fun h=>by simp at h⟩,fun hn=>⟨fun _=>?_,fun h=>by simp at h⟩⟩
  ·obtain⟨_,h2,_⟩:=Ca (pY hb lo) hn
   have:=jJ (v:Int)
   simp only[beq_iff_eq]at h0
   omega
  ·simp only[decide_eq_true_eq]at hv
   unfold cx at h
   rw[if_pos rfl,hn]at h
   simp only[if_pos (show most<(v:Int)from hv)]at h
   exact h
  ·obtain⟨_,h2,r,h3⟩:=Ca (pY hb lo) hn
   have:=congrArg List.length h3
   rw[fQ,bn]at this
   omega
  ·simp only[decide_eq_false_iff_not]at hv
   unfold cx at h
   rw[if_pos rfl,hn]at h
   simp only[if_neg (show ¬ most<(v:Int)from hv)]at h
   rw[show lo+(l.length - lo)=l.length by omega]
   exact h
  ·unfold cx at h
   rw[if_pos rfl,hn]at h
   exact h
  ·unfold cx at h
   rw[if_pos rfl,hn]at h
   exact h)
theorem Sx:dF Tryz.prog Cs:=fun f k h=>by
 unfold Cs at h
 split at h
 ·cases h;exact Rl
 ·cases h;exact B1 acK _
 ·exact QS _ _ h
theorem u6:bZ Tryz.prog tw:=dI mixed Sx aG 10
def z_:aE:=fun args kb K=>match args,kb with
 | [aj 0 0,.int Z most],[ar [.sl 1 lo h,.int Z e],ξ 5 1 A]=>∃ l:List Int,A=ints ι l/\h=l.length/\lo<=l.length/\bm l/\l.length<=140737488355328/\
  K (.sl 2 0 (gA (l.drop lo) e most).1.length) [ar [.sl 1 (lo+(gA (l.drop lo) e most).2.1) l.length,.int Z (gA (l.drop lo) e most).2.2],ξ 5 1 (ints ι l),ξ 5 1 (ints ι (gA (l.drop lo) e most).1)]
 |_,_=>False
theorem Rt:aN Tryz.prog 32 z_:=J5 u6 mixed [.slot 0 5 1] (fun args kb K h=>by
 unfold z_ at h;split at h<;>try exact h.elim
 rename_i most lo _ e _
 obtain⟨l,rfl,rfl,hlo,hb,hl,h⟩:=h
 refine⟨aG 32,ahx l lo e most K ⟨l,rfl,rfl,hlo,hb,by omega,?_⟩⟩
 have hv:=yI (pY hb lo) e most
 rw[fQ]at hv
 unfold gA at h
 generalize hr:cx (l.drop lo) e most=r at h hv ⊢
 obtain⟨n,u,e'⟩:=r
 simp only at h hv ⊢
 refine⟨fun hc=>?_,fun hc=>⟨fun hx=>⟨fun hy=>?_,fun hy=>?_⟩,fun hx=>?_⟩⟩
 ·simp only[bne_iff_ne,ne_eq]at hc
  rw[if_neg hc]at h
  exact h
 ·simp only[decide_eq_true_eq]at hx
  simp only[bne_eq_false_iff_eq]at hc
  subst hc
  rw[if_pos rfl,if_pos (by rw[fQ,fQ];omega)]at h
  exact h
 ·rw[bne,hy]at hc
  cases hc
 ·simp only[decide_eq_false_iff_not]at hx
  simp only[bne_eq_false_iff_eq]at hc
  subst hc
  rw[if_pos rfl,if_neg (by rw[fQ,fQ];omega)]at h
  have ku:aB n:=hv.1
  have e1:ay (lo+u+0) (az (lo+u+n.toNat) (ints ι l))=ints ι (az n.toNat (ay u (ay lo l))):=by
   rw[Nat.add_zero,List.drop_take,Bz,oI,List.drop_drop,Nat.add_sub_cancel_left]
  rw[e1]
  simp only[List.drop_drop,bi]at h ⊢
  have e3:lo+u+(l.length - (lo+u))=l.length:=by omega
  rw[e3]
  refine⟨trivial,ku,bt _,by omega,⟨by omega,trivial⟩,by rw[cQ,fQ];omega,⟨oP⟩,ku,trivial,by omega,av _,?_⟩
  rw[show lo+u+n.toNat=lo+(u+n.toNat) by omega]
  exact h)
def EA:aE:=fun args kb K=>match args,kb with
 | [aj 0 0,aD (.sl 1 B)],[ar [.sl 1 0 h],ξ 5 1 A]=>∃ a b:List Int,A=ints ι a/\B=ints ι b/\h=a.length/\a.length<=1000000/\b.length<=1000000/\
  K (.υ []) [ar [.sl 2 0 (a++cJ b).length],χ,ξ 5 1 (ints ι (a++cJ b))]
 |_,_=>False
theorem acL:aN Tryz.prog 37 EA:=kY u6 mixed (fun args kb K h=>by
 unfold EA at h;split at h<;>try exact h.elim
 obtain⟨a,b,rfl,rfl,rfl,h1,h2,h⟩:=h
 refine⟨aG 37,ahI a _ K ⟨a,rfl,rfl,by omega,⟨by rw[bi];omega⟩,trivial,by simp only[bi];exact av _,?_,?_⟩⟩
 ·have:=(jJ ((ints ι b).length:Int)).2
  rw[bn,bi]
  rw[bi]at this
  omega
 ·rw[bi,oI,cM,<- py,<- bn,dO]
  exact h)
def Ey:aE:=fun args kb K=>match args,kb with
 | [aj 0 0],[ar [.sl 1 0 h],ξ 5 1 A]=>∃ a:List Int,A=ints ι a/\h=a.length/\a.length<=1000000/\K (.sl 2 0 a.length) [ar [.sl 1 0 a.length],ξ 5 1 (ints ι a),ξ 5 1 (ints ι a)]
 |_,_=>False
theorem XI {k:IntKind} {a:List Int}:ay 0 (az a.length (ints k a))=ints k a:=by rw[g_,oI,cM]
theorem abh:aN Tryz.prog 40 Ey:=dW u6 mixed (fun args kb K h=>by
 unfold Ey at h;split at h<;>try exact h.elim
 obtain⟨a,rfl,rfl,h1,h⟩:=h
 refine⟨aG 40,af6 _ _ K ?_⟩
 dsimp only
 rw[XI,bi]
 exact⟨⟨av _,trivial⟩,by omega,⟨oP⟩,h⟩)
def zY:aE:=fun args kb K=>match args,kb with
 | [aD (.sl 1 A)],[]=>A.length<=140737488355328/\K (aj 0 0) [ar [.sl 1 0 A.length,.int Z 0],ξ 5 1 A]
 |_,_=>False
theorem Rn:aN Tryz.prog 30 zY:=kY u6 mixed (fun args kb K h=>by
 unfold zY at h;split at h<;>try exact h.elim
 exact⟨aG 30,aha _ K h⟩)
def z7:aE:=fun args kb K=>match args,kb with
 | [aj 0 0],[ar [.sl 1 lo h,.int Z e],ξ 5 1 A]=>∃ l:List Int,A=ints ι l/\h=l.length/\
  K (.int Z (iE (l.drop lo) e)) [ar [.sl 1 lo l.length,.int Z (iE (l.drop lo) e)],ξ 5 1 (ints ι l)]
 |_,_=>False
theorem Rc:aN Tryz.prog 35 z7:=dW u6 mixed (fun args kb K h=>by
 unfold z7 at h;split at h<;>try exact h.elim
 rename_i lo _ e _
 obtain⟨l,rfl,rfl,h⟩:=h
 have hd:l.drop lo=[] ↔ l.length - lo=0:=by rw[<- List.length_eq_zero_iff,fQ]
 refine⟨aG 35,agu l lo e K ⟨fun hc=>⟨fun h0=>?_,fun h0=>?_⟩,fun hc=>?_⟩⟩
 ·simp only[decide_eq_true_eq]at hc
  simp only[beq_iff_eq]at h0
  unfold iE at h
  rw[if_pos ⟨fun hh=>by rw[hd]at hh;omega,h0⟩]at h
  exact h
 ·simp only[beq_eq_false_iff_ne,ne_eq]at h0
  unfold iE at h
  rw[if_neg (fun hh=>h0 hh.2)]at h
  exact h
 ·simp only[decide_eq_false_iff_not]at hc
  unfold iE at h
  rw[if_neg (fun hh=>hh.1 (hd.2 (by omega)))]at h
  exact h)
def En:aE:=fun args kb K=>match args,kb with
 | [aj 0 0],[ar [.sl 1 lo hi,.int Z e],ξ 5 1 A]=>K (.int Z e) [ar [.sl 1 lo hi,.int Z e],ξ 5 1 A]
 |_,_=>False
theorem abA:aN Tryz.prog 65 En:=dW u6 mixed (fun args kb K h=>by
 unfold En at h;split at h<;>try exact h.elim
 exact⟨aG 65,agy _ _ _ _ K h⟩)
def v6:FuncId->Option dA
 | 32=>some ⟨[],z_⟩
 | 37=>some ⟨[.mj,.fI 1],yj [.cell 0 0 5 1] EA⟩
 | 40=>some ⟨[],yj [.cell 0 0 5 1] Ey⟩
 | 30=>some ⟨[.fI 1],zY⟩
 | 35=>some ⟨[],z7⟩
 | 65=>some ⟨[],En⟩
 |f=>Cs f
theorem Cn:dF Tryz.prog v6:=fun f k h=>by
 unfold v6 at h
 split at h
 ·cases h;exact Rt
 ·cases h;exact B1 acL _
 ·cases h;exact B1 abh _
 ·cases h;exact Rn
 ·cases h;exact Rc
 ·cases h;exact abA
 ·exact Sx _ _ h
def Jq:FuncId->Option dA:=v6
theorem Sn:dF Tryz.prog Jq:=Cn
end Go.Proofs.YtfcjngcnifdmnaaGreat
set_option linter.unusedSimpArgs false
set_option linter.unusedVariables false
namespace Vc
open Go Go.Shelf Go.Sort Go.RowKit Go.Proofs
open Go.IntKind renaming i64->Z,u8->ι,u32->ic
open Go.Value renaming int->ν,map->kq,oneCell'->lU,bool->nE
open List renaming map->φ,drop->ay,take->az,length_append->bn,getElem?_eq_getElem->bp,getElem?_eq_some_iff->bG,length_map->bX,take_length->cM,length_take->cQ,replicate->dq,mem_append->dM,append_assoc->dO,getElem?_append_left->dP,mem_singleton->dQ,Mem->dS,mem_cons->ey,mem_map->eL,take_of_length_le->eM,getElem?_append_right->eW,mem_of_getElem?->fi,append_nil->fD,getElem?_map->fE,mem_cons_of_mem->fM,length_drop->fQ,getElem?_set_ne->gr,getD_eq_getElem?_getD->gD,getElem?_eq_none->gO,drop_zero->g_,getElem?_take_of_lt->hU,getElem?_set_self->ig,length_singleton->ii,length_set->ir,mem_cons_self->iu,range->iw,mem_append_left->iL,length_cons->iZ,take_add_one->i_,flatten_cons->jm,getElem?_drop->jw,getElem?_of_mem->jx,map_append->jy,nil_append->jV,length_nil->kn,mem_filter->kM,ext_getElem?->lw,eq_nil_of_length_eq_zero->ma,map_cons->mb,mem_append_right->mc
open Nat renaming le_refl->av,zero_le->bt,beq->cp,eq_of_beq_eq_true->cU,zero_add->c9,add_assoc->gE,lor->iy,lt_or_ge->jX,sub_zero->lT,le_trans->mf
open Option renaming some->bb,bind_eq_some_iff->kP,map->mO
open Int renaming toNat_natCast->cP,le_refl->fa
open Bool renaming and_eq_true->km,not_eq_false'->lm,not_eq_true'->lR
theorem Inv.more {σ:Sg} {E:EH} {kb:KB} {W W':World} (h:Inv σ E kb W) (hos:W'.os=W.os) (tZ:W'.tape=W.tape) (hout:W'.output=W.output) (hsz:W.heap.size<=W'.heap.size)
  (cd:∀ b,b<W.heap.size->W'.heap[b]? =W.heap[b]?):Step σ E kb W σ E kb W':=by
 refine⟨⟨h.len,fun i r o h1 h2=>?_,h.dx,fun b o hb=>?_,h.sep⟩,⟨hos,tZ,hout,hsz,fun b hb _=>cd b hb⟩,⟨[],by simp⟩,EH.le.refl E,fun _ h=> .inl h,fun _ _ h=> .inl h⟩
 ·have ho:=h.obj i r o h1 h2
  have:=ho.mono (τ:=[]) (W':=W') (EH.le.refl E) (fun b hb=>cd b (ho.lt hb))
  simpa using this
 ·have:=h.dj b o hb
  rw[cd b ((Array.getElem?_eq_some_iff.1 this).1)];exact this
def nW (l:List Int):List Int:=l.mergeSort fun x y=>decide (x<=y)
theorem aeK (l:List Int):(nW l).length=l.length:=(List.mergeSort_perm l _).length_eq
theorem PN {E:EH} {k:IntKind}:∀(l:List Int),a_ E (ints k l).flatten (l.map (ν k))
 | []=>by simp [ints,a_]
 |a::l=>by
  simp only[ints,mb,jm,List.cons_append,jV,a_,bK]
  exact⟨_,_,rfl,⟨rfl,rfl⟩,by simpa [ints]using PN l⟩
end Vc
set_option linter.unusedSimpArgs false
set_option linter.unusedVariables false
namespace Vc
open Go Go.Shelf Go.Sort Go.RowKit Go.Proofs Go.Maps
open Go.IntKind renaming i64->Z,u8->ι,u32->ic
open Go.Value renaming int->ν,map->kq,oneCell'->lU,bool->nE
open List renaming map->φ,drop->ay,take->az,length_append->bn,getElem?_eq_getElem->bp,getElem?_eq_some_iff->bG,length_map->bX,take_length->cM,length_take->cQ,replicate->dq,mem_append->dM,append_assoc->dO,getElem?_append_left->dP,mem_singleton->dQ,Mem->dS,mem_cons->ey,mem_map->eL,take_of_length_le->eM,getElem?_append_right->eW,mem_of_getElem?->fi,append_nil->fD,getElem?_map->fE,mem_cons_of_mem->fM,length_drop->fQ,getElem?_set_ne->gr,getD_eq_getElem?_getD->gD,getElem?_eq_none->gO,drop_zero->g_,getElem?_take_of_lt->hU,getElem?_set_self->ig,length_singleton->ii,length_set->ir,mem_cons_self->iu,range->iw,mem_append_left->iL,length_cons->iZ,take_add_one->i_,flatten_cons->jm,getElem?_drop->jw,getElem?_of_mem->jx,map_append->jy,nil_append->jV,length_nil->kn,mem_filter->kM,ext_getElem?->lw,eq_nil_of_length_eq_zero->ma,map_cons->mb,mem_append_right->mc
open Nat renaming le_refl->av,zero_le->bt,beq->cp,eq_of_beq_eq_true->cU,zero_add->c9,add_assoc->gE,lor->iy,lt_or_ge->jX,sub_zero->lT,le_trans->mf
open Option renaming some->bb,bind_eq_some_iff->kP,map->mO
open Int renaming toNat_natCast->cP,le_refl->fa
open Bool renaming and_eq_true->km,not_eq_false'->lm,not_eq_true'->lR
def zV:aE:=fun args kb K=>match args,kb with
 | [.mp 0],[.mp aA aS agg sz M]=>K (.mp 1) [.mp aA aS agg sz M,.mp aA aS agg sz M]
 | [.any (.map none)],[]=>K (.any (.map none)) []
 | [.imp aA aS agg sz M],[]=>(M=[]->K (.any (.map none)) [])/\K (.mp 0) [.mp aA aS agg sz M]
 |_,_=>False
theorem abS {P:Program} {ρ:Ren} (L:SlLaysW.n5 P ρ):aN P (ρ.f 5) zV:=fun args kb K h σ E W xs hi hd=>by
 unfold zV at h
 split at h<;>try exact h.elim
 ·rename_i aA aS agg sz M
  simp only[aq,Den]at hd
  obtain⟨x,xs',rfl,⟨r,hr,rfl⟩,rfl⟩:=hd
  obtain⟨h1,es,clock,h2,h3,h4⟩:=hi.obj 0 r _ hr rfl
  refine(AnyW.maps_Clone L r.blk es clock W h2).mono ?_
  rintro e W' ⟨rfl,rfl⟩
  have hlen:σ.length=1:=hi.len
  have ho:fY (σ++[⟨W.heap.size,0,0⟩]) E (W.alloc (.map es clock)) ⟨W.heap.size,0,0⟩ (.mp aA aS agg sz M):=
   ⟨h1,es,clock,(MapKept.heap_alloc W _).1,h3,h4⟩
  have hst:=hi.alloc (.map es clock) ⟨W.heap.size,0,0⟩ (.mp aA aS agg sz M) (fun b hb=>hb) ho
  refine⟨_,.mp 1,_,E,_,rfl,hst,?_,h⟩
  simp only[Den]
  exact⟨⟨W.heap.size,0,0⟩,by rw[eW (by omega),hlen];rfl,rfl⟩
 ·simp only[aq,Den]at hd
  obtain⟨x,xs',rfl,rfl,rfl⟩:=hd
  refine(AnyW.maps_Clone_nil L W).mono ?_
  rintro e W' ⟨rfl,rfl⟩
  exact⟨_,.any (.map none),σ,E,_,rfl,Step.refl hi,by simp only[Den],h⟩
 ·rename_i aA aS agg sz M
  simp only[aq,Den]at hd
  obtain⟨x,xs',rfl,⟨a,rfl,ha⟩,rfl⟩:=hd
  cases a with
  |none=>
   have ha:M=[]:=ha
   refine(AnyW.maps_Clone_nil L W).mono ?_
   rintro e W' ⟨rfl,rfl⟩
   exact⟨_,.any (.map none),σ,E,_,rfl,Step.refl hi,by simp only[Den],h.1 ha⟩
  |some b=>
   obtain⟨h1,es,clock,h2,h3,h4⟩:=ha
   refine(AnyW.maps_Clone L b es clock W (hi.dj b _ h2)).mono ?_
   rintro e W' ⟨rfl,rfl⟩
   have hlen:σ.length=0:=hi.len
   have ho:fY (σ++[⟨W.heap.size,0,0⟩]) E (W.alloc (.map es clock)) ⟨W.heap.size,0,0⟩ (.mp aA aS agg sz M):=
    ⟨h1,es,clock,(MapKept.heap_alloc W _).1,h3,h4⟩
   have hst:=hi.alloc (.map es clock) ⟨W.heap.size,0,0⟩ (.mp aA aS agg sz M) (fun b hb=>hb) ho
   refine⟨_,.mp 0,_,E,_,rfl,hst,?_,h.2⟩
   simp only[Den]
   exact⟨⟨W.heap.size,0,0⟩,by rw[eW (by omega),hlen];rfl,rfl⟩
def zW (g:FuncId):aE:=fun args kb K=>match args,kb with
 | [.mp 0],[.mp aA aS agg sz M]=>K (.fn g [.ptr 1 0]) [.mp aA aS agg sz M,.cells [.mp 0]]
 | [.any (.map none)],[]=>K (.fn g [.ptr 0 0]) [.cells [.any (.map none)]]
 | [.imp aA aS agg sz M],[]=>K (.fn g [.ptr 0 0]) [.cells [.imp aA aS agg sz M]]
 |_,_=>False
theorem abU {P:Program} {ρ:Ren} (L:SlLaysZI.n7 P ρ):aN P (ρ.f 7) (zW (ρ.f 10)):=fun args kb K h σ E W xs hi hd=>by
 unfold zW at h
 split at h<;>try exact h.elim
 ·rename_i aA aS agg sz M
  simp only[aq,Den]at hd
  obtain⟨x,xs',rfl,⟨r,hr,rfl⟩,rfl⟩:=hd
  refine(callsIn_wide.1 (AnyZI.keys_in L Fence.wide 5 trivial rfl (some r.blk) W)).mono ?_
  rintro e W' ⟨rfl,rfl⟩
  have hlen:σ.length=1:=hi.len
  have hD:aT (σ++[⟨W.heap.size,0,0⟩]) E [V.mp 0] [kq (some r.blk)]:=
   aT.jc (by simp only[Den];exact⟨r,by rw[dP (by omega)];exact hr,rfl⟩) rfl aT.nil
  have hst:=hi.alloc (.cells #[.map (some r.blk)] (ρ.t 23)) ⟨W.heap.size,0,0⟩ (.cells [.mp 0]) (fun b hb=>hb) ⟨_,_,(MapKept.heap_alloc W _).1,hD⟩
  refine⟨_,.fn (ρ.f 10) [.ptr 1 0],_,E,_,rfl,hst,?_,h⟩
  simp only[Den,aq]
  exact⟨_,rfl,_,_,rfl,⟨⟨W.heap.size,0,0⟩,by rw[eW (by omega),hlen];rfl,rfl⟩,rfl⟩
 ·simp only[aq,Den]at hd
  obtain⟨x,xs',rfl,rfl,rfl⟩:=hd
  refine(callsIn_wide.1 (AnyZI.keys_in L Fence.wide 5 trivial rfl none W)).mono ?_
  rintro e W' ⟨rfl,rfl⟩
  have hlen:σ.length=0:=hi.len
  have hD:aT (σ++[⟨W.heap.size,0,0⟩]) E [V.any (.map none)] [kq none]:=
   aT.jc (by simp only[Den]) rfl aT.nil
  have hst:=hi.alloc (.cells #[.map none] (ρ.t 23)) ⟨W.heap.size,0,0⟩ (.cells [.any (.map none)]) (fun b hb=>hb) ⟨_,_,(MapKept.heap_alloc W _).1,hD⟩
  refine⟨_,.fn (ρ.f 10) [.ptr 0 0],_,E,_,rfl,hst,?_,h⟩
  simp only[Den,aq]
  exact⟨_,rfl,_,_,rfl,⟨⟨W.heap.size,0,0⟩,by rw[eW (by omega),hlen];rfl,rfl⟩,rfl⟩
 ·rename_i aA aS agg sz M
  simp only[aq,Den]at hd
  obtain⟨x,xs',rfl,⟨a,rfl,ha⟩,rfl⟩:=hd
  refine(callsIn_wide.1 (AnyZI.keys_in L Fence.wide 5 trivial rfl a W)).mono ?_
  rintro e W' ⟨rfl,rfl⟩
  have hlen:σ.length=0:=hi.len
  have hD:aT (σ++[⟨W.heap.size,0,0⟩]) E [V.imp aA aS agg sz M] [kq a]:=
   aT.jc (by simp only[Den];exact⟨a,rfl,ha⟩) rfl aT.nil
  have hst:=hi.alloc (.cells #[.map a] (ρ.t 23)) ⟨W.heap.size,0,0⟩ (.cells [.imp aA aS agg sz M]) (fun b hb=>hb) ⟨_,_,(MapKept.heap_alloc W _).1,hD⟩
  refine⟨_,.fn (ρ.f 10) [.ptr 0 0],_,E,_,rfl,hst,?_,h⟩
  simp only[Den,aq]
  exact⟨_,rfl,_,_,rfl,⟨⟨W.heap.size,0,0⟩,by rw[eW (by omega),hlen];rfl,rfl⟩,rfl⟩
structure tj (M:ML):Prop where
 one:∀ e∈M,∃ n,e.1=[n]/\-9223372036854775808<=n/\n<=9223372036854775807
 nd:(M.map (·.1)).Nodup
 len:M.length<=1000000
def iR (M:ML):List Int:=M.map fun e=>e.1.headD 0
theorem aaj {M:ML} (h:tj M):(iR M).Nodup:=by
 unfold iR
 have h1:=h.nd
 have h2:=h.one
 clear h
 induction M with
 |nil=>simp
 |cons e M ih=>
  simp only[mb,List.nodup_cons]at h1 ⊢
  refine⟨fun hm=>h1.1 ?_,ih h1.2 (fun x hx=>h2 x (fM _ hx))⟩
  obtain⟨x,hx,he⟩:=eL.1 hm
  obtain⟨n,hn,_⟩:=h2 e iu
  obtain⟨m,hm',_⟩:=h2 x (fM _ hx)
  rw[hn,hm']at he
  simp only[List.headD_cons]at he
  exact eL.2 ⟨x,hx,by rw[hn,hm',he]⟩
def pV:Value->Option (DataW Unit×List MemPlace):=fun _=>some (.nil,[])
theorem N3 {E:EH} {agg:Bool}:∀{es:List MapEntry} {M:ML},ct E [Z] false agg es M->(∀ e∈M,∃ n,e.1=[n]/\-9223372036854775808<=n/\n<=9223372036854775807)->
  es.map (·.key)=(iR M).map (ν Z)/\es.length=M.length
 | [],M,h,_=>by simp only[ct]at h;subst h;exact⟨rfl,rfl⟩
 |e::es,M,h,hk=>by
  simp only[ct]at h
  obtain⟨k,c,l',rfl,⟨_,h2,_⟩,h4⟩:=h
  obtain⟨ih1,ih2⟩:=N3 h4 (fun x hx=>hk x (fM _ hx))
  obtain⟨n,hn,_⟩:=hk _ iu
  simp only at hn
  subst hn
  refine⟨?_,by simp [ih2]⟩
  simp only[mb,iR,ih1,h2]
  rfl
theorem ahU {n:Int} (h1:-9223372036854775808<=n) (h2:n<=9223372036854775807):(Lit.int Z n).wf=true:=by
 have e1:Z.min=-9223372036854775808:=by decide
 have e2:Z.max=9223372036854775807:=by decide
 simp only[Lit.wf,km,decide_eq_true_eq,e1,e2]
 exact⟨h1,h2⟩
theorem insert_perm {x:Lit×DataW Unit}:∀(l:List (Lit×DataW Unit)),(DataW.insert x l).Perm (x::l)
 | []=>List.Perm.refl _
 |y::r=>by
  simp only[DataW.insert]
  split
  ·exact List.Perm.refl _
  ·exact((insert_perm r).cons y).trans (List.Perm.swap x y r)
theorem Oq (l:List (Lit×DataW Unit)):(l.foldr DataW.insert []).Perm l:=by
 induction l with
 |nil=>exact List.Perm.refl _
 |cons x l ih=>exact(insert_perm _).trans (ih.cons x)
theorem adj {P:Program} {k:TypeId} (hk:P.underlying k=some (.int Z)) {E:EH} {agg:Bool} {es:Array MapEntry} {clock:Nat} {M:ML} (h:ct E [Z] false agg es.toList M) (hb:tg es.toList clock) (hM:tj M) {w:World} {b:Nat} (hw:w.heap[b]? =some (.map es clock)):
  ∃ D0:DataW Unit,w.ownsMap P k pV b es.size D0/\(intKeys D0).Perm (iR M)/\Maps.size D0=M.length:=by
 obtain⟨h1,h2⟩:=N3 h hM.one
 have Pw:∀ x∈es.toList,∃ n:Int,x.key= .int Z n/\Go.WideElems.rd P k pV x=some (.int Z n,.nil):=fun x hx=>by
  have hx':x.key∈es.toList.map (·.key):=eL.2 ⟨x,hx,rfl⟩
  rw[h1]at hx'
  obtain⟨n,hn,he⟩:=eL.1 hx'
  obtain⟨e,Y0,vA⟩:=eL.1 hn
  obtain⟨m,hm,b1,b2⟩:=hM.one e Y0
  rw[hm]at vA
  simp only[List.headD_cons]at vA
  subst vA
  refine⟨m,he.symm,?_⟩
  have hkey:keyOf P k x.key=some (.int Z m):=by
   rw[<- he]
   simp [keyOf,hk,mapKey,ahU b1 b2]
  simp [Go.WideElems.rd,hkey,pV]
 have hnd:(es.toList.map (·.key)).Nodup:=by
  rw[h1]
  exact List.pairwise_map.2 ((aaj hM).imp fun hne e=>hne (by simpa using e))
 have hF:Go.WideElems.Fit P k pV es clock:=⟨by
  have:=hM.len
  simp only[maxLen]
  simp only[Array.length_toList]at h2
  omega,⟨fun x hx=>hb.2 x hx,hb.1,hnd⟩,fun x hx=>by obtain⟨n,_,h3⟩:=Pw x hx;exact⟨_,h3⟩⟩
 refine⟨.map ((es.toList.map (Go.WideElems.rg P k pV)).foldr DataW.insert []),⟨es,clock,hw,hF,av _,rfl⟩,?_,?_⟩
 ·show((List.foldr DataW.insert [] (es.toList.map (Go.WideElems.rg P k pV))).map fun p=>Go.intOf p.1).Perm _
  refine((Oq _).map _).trans ?_
  have e2:(es.toList.map (Go.WideElems.rg P k pV)).map (fun p=>Go.intOf p.1)=iR M:=by
   have e3:(es.toList.map (Go.WideElems.rg P k pV)).map (fun p=>ν Z (Go.intOf p.1))=es.toList.map (·.key):=by
    rw[List.map_map]
    refine List.map_congr_left fun x hx=>?_
    obtain⟨n,h3,h4⟩:=Pw x hx
    simp only[Function.comp,Go.WideElems.rg,h4,Option.getD_some,Go.intOf,h3]
   rw[h1]at e3
   have e4:((es.toList.map (Go.WideElems.rg P k pV)).map (fun p=>Go.intOf p.1)).map (ν Z)=(iR M).map (ν Z):=by rw[List.map_map];exact e3
   exact(List.map_inj_right (fun a b e=>by simpa using e)).1 e4
  rw[e2]
 ·show(List.foldr DataW.insert [] (es.toList.map (Go.WideElems.rg P k pV))).length=_
  rw[(Oq _).length_eq,bX]
  exact h2
def Ac (g:FuncId) (ty:TypeId):aE:=fun args kb K=>match args,kb with
 | [.fn g' [.ptr 0 0]],[.cells [.mp 1],.mp aA aS agg sz M]=>g'=g/\aA=[Z]/\aS=false/\tj M/\(M=[]->K (.any (.slice none 0 0)) [.cells [.mp 1],.mp aA aS agg sz M])/\
  K (.sl 2 0 M.length) [.cells [.mp 1],.mp aA aS agg sz M,.row ty 1 (ints Z (nW (iR M)))]
 | [.fn g' [.ptr 0 0]],[.cells [.any (.map none)]]=>g'=g/\K (.any (.slice none 0 0)) [.cells [.any (.map none)]]
 | [.fn g' [.ptr 0 0]],[.cells [.imp aA aS agg sz M]]=>g'=g/\aA=[Z]/\aS=false/\tj M/\(M=[]->K (.any (.slice none 0 0)) [.cells [.imp aA aS agg sz M]])/\
  K (.sl 1 0 M.length) [.cells [.imp aA aS agg sz M],.row ty 1 (ints Z (nW (iR M)))]
 |_,_=>False
theorem Tg {a b:List Int} (h:a.Perm b):nW a=nW b:=mergeSort_of_perm_i h
theorem Tj {P:Program} {kK jT:Ren} (Lk:SlLaysZI.n10 P kK) (Ls:SlLaysZI.n6 P jT) (hs:∀ m,AnyZI.SortsIn P jT Fence.wide m)
  (e9:∀ args w,(callFunc (jT.f 9) args).run P w= .ok (.enter (jT.f 9) args) w) (eg:∀ args w,(callFunc (kK.f 10) args).run P w= .ok (.enter (kK.f 10) args) w)
  {W:World} {E:EH} {rb b:Nat} {agg:Bool} {es:Array MapEntry} {clock:Nat} {M:ML} (hlt:rb<W.heap.size) (hcell:W.cell? ⟨rb,0,none⟩=some (.map (some b))) (m2:W.heap[b]? =some (.map es clock)) (m3:ct E [Z] false agg es.toList M) (m4:tg es.toList clock) (hM:tj M):
  Calls P (jT.f 6) #[.func (.func (kK.f 10)) #[] #[.pointer (some ⟨rb,0,none⟩)]] W fun e W'=>∃ v,e= .returned v/\RowKit.Below W.heap.size W W'/\((M=[]/\v= .slice none 0 0)∨
   ∃ gb cap,v= .slice (some ⟨gb,0,none⟩) M.length cap/\M.length<=cap/\W.heap.size<=gb/\fY [] E W' ⟨gb,cap,1⟩ (.row (jT.t 26) 1 (ints Z (nW (iR M))))):=by
 obtain⟨D0,o1,o2,o3⟩:=adj Lk.t26 m3 m4 hM m2
 have hseq:SeqGives Fence.wide 2 P (kK.f 10) #[.pointer (some ⟨rb,0,none⟩)] encZ (fun ss=>ss.Perm (intKeys D0)) (Maps.size D0) W:=
  AnyZI.keys_gives Lk Fence.wide _ trivial rfl (by omega) rb b es.size D0 W hlt hcell o1
 have hlen:=hM.len
 have cS:=AnyZI.sorted_in Ls Fence.wide 5 trivial trivial trivial trivial rfl (by omega) (hs _) e9 (kK.f 10) #[.pointer (some ⟨rb,0,none⟩)] trivial eg _ _ (by rw[o3];simp only[maxLen];omega) (by rw[o3];omega) W hseq
 refine(callsIn_wide.1 cS).mono ?_
 rintro e W' ⟨v,ss,rfl,hS,hrow,PD,cd⟩
 have hp:ss.Perm (iR M):=hS.trans o2
 have jF:ss.length=M.length:=by rw[hp.length_eq];unfold iR;rw[bX]
 rcases hrow.2 with ⟨rfl,hz⟩ | ⟨gb,cap,cur,rfl,hbase,Za,c1,c2,c3,c4⟩
 ·exact⟨_,rfl,cd,.inl ⟨ma (by omega),rfl⟩⟩
 ·have hss:ss.mergeSort (fun x y=>decide (x<=y))=nW (iR M):=Tg hp
  have Py:(nW (iR M)).length=M.length:=by rw[aeK];unfold iR;rw[bX]
  refine⟨_,rfl,cd,.inr ⟨gb,cap,by rw[jF],by omega,by omega,rfl,fun e he=>by simp only[ints,eL]at he;obtain⟨_,_,rfl⟩:=he;rfl,by rw[bi,Py];simp only;omega,c2,.inr ⟨cur,Za,by simp only;omega,?_⟩⟩⟩
  rw[bi,Py,<- jF]
  simp only[Nat.mul_one]at c4 ⊢
  rw[c4,hss]
  exact PN _
theorem Tk {P:Program} {kK jT:Ren} (Lk:SlLaysZI.n10 P kK) (Ls:SlLaysZI.n6 P jT) (hs:∀ m,AnyZI.SortsIn P jT Fence.wide m)
  (e9:∀ args w,(callFunc (jT.f 9) args).run P w= .ok (.enter (jT.f 9) args) w) (eg:∀ args w,(callFunc (kK.f 10) args).run P w= .ok (.enter (kK.f 10) args) w)
  {W:World} {rb:Nat} (hlt:rb<W.heap.size) (hcell:W.cell? ⟨rb,0,none⟩=some (.map none)):
  Calls P (jT.f 6) #[.func (.func (kK.f 10)) #[] #[.pointer (some ⟨rb,0,none⟩)]] W fun e W'=>e= .returned (.slice none 0 0)/\RowKit.Below W.heap.size W W':=by
 have hseq:SeqGives Fence.wide 2 P (kK.f 10) #[.pointer (some ⟨rb,0,none⟩)] encZ (fun ss:List Int=>ss=[]) 0 W:=
  AnyZI.keys_gives_nil Lk Fence.wide _ trivial rfl rb W hlt hcell
 have cS:=AnyZI.sorted_in Ls Fence.wide 5 trivial trivial trivial trivial rfl (by omega) (hs _) e9 (kK.f 10) #[.pointer (some ⟨rb,0,none⟩)] trivial eg _ 0 (bt _) (by omega) W hseq
 refine(callsIn_wide.1 cS).mono ?_
 rintro e W' ⟨v,ss,rfl,hS,hrow,PD,cd⟩
 exact⟨by rw[PD.2 hS],cd⟩
theorem FA {σ:Sg} {E:EH} {W:World} {kb:KB} (hi:Inv σ E kb W) {r:Re} (hr:σ[0]? =some r) {v:V} (hk:kb[0]? =some (.cells [v])) (hna:∀ m cs,v≠.arr m cs):∃ y,Den σ E v y/\W.cell? ⟨r.blk,0,none⟩=some y/\r.blk<W.heap.size:=by
 obtain⟨arr,ty',k1,k2⟩:=hi.obj 0 r _ hr hk
 obtain⟨zs,zs',k3,k4,k5⟩:=k2.io
 simp only[aT]at k5
 subst k5
 rcases k4 with ⟨y,rfl,_,k4⟩ | ⟨m,cs,e,_,_⟩
 ·refine⟨y,k4,?_,(Array.getElem?_eq_some_iff.1 k1).1⟩
  have:arr=#[y]:=by apply Array.ext';rw[k3];rfl
  rw[vc k1,this];rfl
 ·exact(hna _ _ e).elim
theorem acv {P:Program} {kK jT:Ren} (Lk:SlLaysZI.n10 P kK) (Ls:SlLaysZI.n6 P jT) (hs:∀ m,AnyZI.SortsIn P jT Fence.wide m)
  (e9:∀ args w,(callFunc (jT.f 9) args).run P w= .ok (.enter (jT.f 9) args) w) (eg:∀ args w,(callFunc (kK.f 10) args).run P w= .ok (.enter (kK.f 10) args) w):
  aN P (jT.f 6) (Ac (kK.f 10) (jT.t 26)):=fun args kb K h σ E W xs hi hd=>by
 unfold Ac at h
 split at h<;>try exact h.elim
 ·rename_i g' aA aS agg sz M
  obtain⟨rfl,rfl,rfl,hM,hnil,h⟩:=h
  simp only[aq,Den]at hd
  obtain⟨x,xs',rfl,⟨vs,rfl,y,ys,rfl,⟨r,hr,rfl⟩,rfl⟩,rfl⟩:=hd
  obtain⟨y,k4,hcell,hlt⟩:=FA hi hr rfl (fun _ _ e=>by cases e)
  simp only[Den]at k4
  obtain⟨r1,ZF,rfl⟩:=k4
  obtain⟨m1,es,clock,m2,m3,m4⟩:=hi.obj 1 r1 _ ZF rfl
  refine(Tj Lk Ls hs e9 eg hlt hcell m2 m3 m4 hM).mono ?_
  rintro e W' ⟨v,rfl,cd,⟨GW,rfl⟩ | ⟨gb,cap,rfl,c1,c2,c3⟩⟩
  ·exact⟨_,.any (.slice none 0 0),σ,E,_,rfl,hi.more cd.os cd.tape cd.output cd.size cd.block,by simp only[Den],hnil GW⟩
  ·have hgrow:=hi.grow (W':=W') ⟨gb,cap,1⟩ (.row (jT.t 26) 1 (ints Z (nW (iR M)))) cd.os cd.tape cd.output cd.size cd.block (fun b hb=>by have:=hb.2;simp only at this;omega) c3
   refine⟨_,.sl 2 0 M.length,_,E,_,rfl,hgrow,?_,h⟩
   simp only[Den]
   exact⟨⟨gb,cap,1⟩,some ⟨gb,0,none⟩,by rw[eW (by rw[hi.len];exact av _),hi.len];rfl,rfl,bt _,c1,fun _=>by simp⟩
 ·rename_i g'
  obtain⟨rfl,h⟩:=h
  simp only[aq,Den]at hd
  obtain⟨x,xs',rfl,⟨vs,rfl,y,ys,rfl,⟨r,hr,rfl⟩,rfl⟩,rfl⟩:=hd
  obtain⟨y,k4,hcell,hlt⟩:=FA hi hr rfl (fun _ _ e=>by cases e)
  simp only[Den]at k4
  subst k4
  refine(Tk Lk Ls hs e9 eg hlt hcell).mono ?_
  rintro e W' ⟨rfl,cd⟩
  exact⟨_,.any (.slice none 0 0),σ,E,_,rfl,hi.more cd.os cd.tape cd.output cd.size cd.block,by simp only[Den],h⟩
 ·rename_i g' aA aS agg sz M
  obtain⟨rfl,rfl,rfl,hM,hnil,h⟩:=h
  simp only[aq,Den]at hd
  obtain⟨x,xs',rfl,⟨vs,rfl,y,ys,rfl,⟨r,hr,rfl⟩,rfl⟩,rfl⟩:=hd
  obtain⟨y,k4,hcell,hlt⟩:=FA hi hr rfl (fun _ _ e=>by cases e)
  simp only[Den]at k4
  obtain⟨a,rfl,ha⟩:=k4
  cases a with
  |none=>
   refine(Tk Lk Ls hs e9 eg hlt hcell).mono ?_
   rintro e W' ⟨rfl,cd⟩
   exact⟨_,.any (.slice none 0 0),σ,E,_,rfl,hi.more cd.os cd.tape cd.output cd.size cd.block,by simp only[Den],hnil ha⟩
  |some b=>
   obtain⟨m1,es,clock,m2,m3,m4⟩:=ha
   refine(Tj Lk Ls hs e9 eg hlt hcell (hi.dj b _ m2) m3 m4 hM).mono ?_
   rintro e W' ⟨v,rfl,cd,⟨GW,rfl⟩ | ⟨gb,cap,rfl,c1,c2,c3⟩⟩
   ·exact⟨_,.any (.slice none 0 0),σ,E,_,rfl,hi.more cd.os cd.tape cd.output cd.size cd.block,by simp only[Den],hnil GW⟩
   ·have hgrow:=hi.grow (W':=W') ⟨gb,cap,1⟩ (.row (jT.t 26) 1 (ints Z (nW (iR M)))) cd.os cd.tape cd.output cd.size cd.block (fun b hb=>by have:=hb.2;simp only at this;omega) c3
    refine⟨_,.sl 1 0 M.length,_,E,_,rfl,hgrow,?_,h⟩
    simp only[Den]
    exact⟨⟨gb,cap,1⟩,some ⟨gb,0,none⟩,by rw[eW (by rw[hi.len];exact av _),hi.len];rfl,rfl,bt _,c1,fun _=>by simp⟩
end Vc
namespace Go.Proofs.YtfcjngcnifdmnaaGreat
open Go.Shelf
open Go.IntKind renaming i64->Z,u8->ι,u32->ic
open Vc.V renaming any->γ,sl->δ,int->ε,sb->θ,ptr->aj,υ->aw,dat->aD,aa->aP,mp->aX,arr->bB,agg->fF
open Vc.D renaming val->ζ,sl->ψ
open Go.Value renaming int->ν,map->kq,oneCell'->lU,bool->nE
open Vc.KO renaming row->ξ,dead->χ,cells->ar,objs->cD
open List renaming map->φ,drop->ay,take->az,length_append->bn,getElem?_eq_getElem->bp,getElem?_eq_some_iff->bG,length_map->bX,take_length->cM,length_take->cQ,replicate->dq,mem_append->dM,append_assoc->dO,getElem?_append_left->dP,mem_singleton->dQ,Mem->dS,mem_cons->ey,mem_map->eL,take_of_length_le->eM,getElem?_append_right->eW,mem_of_getElem?->fi,append_nil->fD,getElem?_map->fE,mem_cons_of_mem->fM,length_drop->fQ,getElem?_set_ne->gr,getD_eq_getElem?_getD->gD,getElem?_eq_none->gO,drop_zero->g_,getElem?_take_of_lt->hU,getElem?_set_self->ig,length_singleton->ii,length_set->ir,mem_cons_self->iu,range->iw,mem_append_left->iL,length_cons->iZ,take_add_one->i_,flatten_cons->jm,getElem?_drop->jw,getElem?_of_mem->jx,map_append->jy,nil_append->jV,length_nil->kn,mem_filter->kM,ext_getElem?->lw,eq_nil_of_length_eq_zero->ma,map_cons->mb,mem_append_right->mc
open Nat renaming le_refl->av,zero_le->bt,beq->cp,eq_of_beq_eq_true->cU,zero_add->c9,add_assoc->gE,lor->iy,lt_or_ge->jX,sub_zero->lT,le_trans->mf
open Option renaming some->bb,bind_eq_some_iff->kP,map->mO
open Int renaming toNat_natCast->cP,le_refl->fa
open Bool renaming and_eq_true->km,not_eq_false'->lm,not_eq_true'->lR
def PT:Go.Shelf.Ren:=⟨fun | 7=>98 | 10=>114 | n=>n,fun | 23=>82 | 26=>3 | 3=>133 | 28=>162 | 0=>0 | 27=>161 | 33=>135 | 4=>4 | n=>n,fun | n=>n⟩
theorem iR:Go.Proofs.SlLaysZI.n7 Tryz.prog PT:={
 mixed:=by kernel_rfl
 f7:=⟨Tryz.f98.name,by decide,Tryz.func98.trans (congrArg some (by kernel_rfl))⟩
 f10:=⟨Tryz.f114.name,by decide,Tryz.func114.trans (congrArg some (by kernel_rfl))⟩
 t0:=Tryz.underlying0
 a0:=Tryz.isAgg0
 z0:=Tryz.sizeOf0
 v0:=Tryz.zeroValue0
 t4:=Tryz.underlying4
 a4:=Tryz.isAgg4
 z4:=Tryz.sizeOf4
 v4:=Tryz.zeroValue4
 t23:=Tryz.underlying82
 a23:=Tryz.isAgg82
 z23:=Tryz.sizeOf82
 v23:=Tryz.zeroValue82
 t26:=Tryz.underlying3
 a26:=Tryz.isAgg3
 z26:=Tryz.sizeOf3
 v26:=Tryz.zeroValue3
 t27:=Tryz.underlying161
 a27:=Tryz.isAgg161
 z27:=Tryz.sizeOf161
 v27:=Tryz.zeroValue161
 t28:=Tryz.underlying162
 a28:=Tryz.isAgg162
 z28:=Tryz.sizeOf162
 v28:=Tryz.zeroValue162
 t33:=Tryz.underlying135
 a33:=Tryz.isAgg135
 z33:=Tryz.sizeOf135
 v33:=Tryz.zeroValue135 }
def Ti:Go.Shelf.Ren:=⟨fun | 6=>97 | 8=>112 | 9=>113 | 11=>117 | 13=>119 | 12=>118 | 23=>129 | 24=>130 | 14=>120 | 15=>121 | 16=>122 | 17=>123 | 18=>124 | 19=>125 | 20=>126 | 21=>127 | 22=>128 | 25=>131 | 26=>132 | 27=>133 | 28=>134 | 29=>135 | 30=>136 | 31=>137 | n=>n,fun | 26=>3 | 28=>162 | 24=>38 | 0=>0 | 3=>3 | 37=>129 | 48=>52 | 50=>193 | 4=>4 | 40=>186 | 39=>185 | 45=>173 | 5=>5 | 9=>9 | 51=>194 | 55=>198 | 57=>200 | 58=>43 | 33=>135 | n=>n,fun | n=>n⟩
theorem aeM:Go.Proofs.SlLaysZI.n6 Tryz.prog Ti:={
 mixed:=by kernel_rfl
 f6:=⟨Tryz.f97.name,by decide,Tryz.func97.trans (congrArg some (by kernel_rfl))⟩
 f8:=⟨Tryz.f112.name,by decide,Tryz.func112.trans (congrArg some (by kernel_rfl))⟩
 f11:=⟨Tryz.f117.name,by decide,Tryz.func117.trans (congrArg some (by kernel_rfl))⟩
 t0:=Tryz.underlying0
 a0:=Tryz.isAgg0
 z0:=Tryz.sizeOf0
 v0:=Tryz.zeroValue0
 t24:=Tryz.underlying38
 a24:=Tryz.isAgg38
 z24:=Tryz.sizeOf38
 v24:=Tryz.zeroValue38
 t26:=Tryz.underlying3
 a26:=Tryz.isAgg3
 z26:=Tryz.sizeOf3
 v26:=Tryz.zeroValue3
 t28:=Tryz.underlying162
 a28:=Tryz.isAgg162
 z28:=Tryz.sizeOf162
 v28:=Tryz.zeroValue162
 i26:=by kernel_rfl }
def aeL:Go.Shelf.Ren:=⟨fun | 5=>113 | 8=>119 | 7=>118 | 19=>129 | 20=>130 | 10=>120 | 11=>121 | 12=>122 | 13=>123 | 14=>124 | 15=>125 | 16=>126 | 17=>127 | 18=>128 | 30=>131 | 31=>132 | 32=>133 | 33=>134 | 34=>135 | 35=>136 | 40=>137 | n=>n,fun | 23=>38 | 25=>3 | 3=>3 | 32=>129 | 22=>38 | 0=>0 | 44=>52 | 46=>193 | 4=>4 | 36=>186 | 35=>185 | 41=>173 | 5=>5 | 9=>9 | 53=>194 | 57=>198 | 63=>200 | 64=>43 | n=>n,fun | n=>n⟩
theorem Th:Go.Proofs.SlLaysM.n5 Tryz.prog aeL:={
 mixed:=by kernel_rfl
 f5:=⟨Tryz.f113.name,by decide,Tryz.func113.trans (congrArg some (by kernel_rfl))⟩
 f7:=⟨Tryz.f118.name,by decide,Tryz.func118.trans (congrArg some (by kernel_rfl))⟩
 f8:=Tryz.func119.trans (congrArg some (by kernel_rfl))
 f10:=⟨Tryz.f120.name,by decide,Tryz.func120.trans (congrArg some (by kernel_rfl))⟩
 f11:=⟨Tryz.f121.name,by decide,Tryz.func121.trans (congrArg some (by kernel_rfl))⟩
 f12:=⟨Tryz.f122.name,by decide,Tryz.func122.trans (congrArg some (by kernel_rfl))⟩
 f13:=⟨Tryz.f123.name,by decide,Tryz.func123.trans (congrArg some (by kernel_rfl))⟩
 f14:=⟨Tryz.f124.name,by decide,Tryz.func124.trans (congrArg some (by kernel_rfl))⟩
 f15:=⟨Tryz.f125.name,by decide,Tryz.func125.trans (congrArg some (by kernel_rfl))⟩
 f16:=⟨Tryz.f126.name,by decide,Tryz.func126.trans (congrArg some (by kernel_rfl))⟩
 f17:=⟨Tryz.f127.name,by decide,Tryz.func127.trans (congrArg some (by kernel_rfl))⟩
 f18:=⟨Tryz.f128.name,by decide,Tryz.func128.trans (congrArg some (by kernel_rfl))⟩
 f19:=Tryz.func129.trans (congrArg some (by kernel_rfl))
 f20:=Tryz.func130.trans (congrArg some (by kernel_rfl))
 f30:=⟨Tryz.f131.name,by decide,Tryz.func131.trans (congrArg some (by kernel_rfl))⟩
 f31:=Tryz.func132.trans (congrArg some (by kernel_rfl))
 f32:=Tryz.func133.trans (congrArg some (by kernel_rfl))
 f33:=⟨Tryz.f134.name,by decide,Tryz.func134.trans (congrArg some (by kernel_rfl))⟩
 f34:=⟨Tryz.f135.name,by decide,Tryz.func135.trans (congrArg some (by kernel_rfl))⟩
 f35:=⟨Tryz.f136.name,by decide,Tryz.func136.trans (congrArg some (by kernel_rfl))⟩
 f40:=⟨Tryz.f137.name,by decide,Tryz.func137.trans (congrArg some (by kernel_rfl))⟩
 t0:=Tryz.underlying0
 a0:=Tryz.isAgg0
 z0:=Tryz.sizeOf0
 v0:=Tryz.zeroValue0
 t3:=Tryz.underlying3
 a3:=Tryz.isAgg3
 z3:=Tryz.sizeOf3
 v3:=Tryz.zeroValue3
 t4:=Tryz.underlying4
 a4:=Tryz.isAgg4
 z4:=Tryz.sizeOf4
 v4:=Tryz.zeroValue4
 t5:=Tryz.underlying5
 a5:=Tryz.isAgg5
 z5:=Tryz.sizeOf5
 v5:=Tryz.zeroValue5
 t9:=Tryz.underlying9
 a9:=Tryz.isAgg9
 z9:=Tryz.sizeOf9
 v9:=Tryz.zeroValue9
 t22:=Tryz.underlying38
 a22:=Tryz.isAgg38
 z22:=Tryz.sizeOf38
 v22:=Tryz.zeroValue38
 t23:=Tryz.underlying38
 a23:=Tryz.isAgg38
 z23:=Tryz.sizeOf38
 v23:=Tryz.zeroValue38
 t25:=Tryz.underlying3
 a25:=Tryz.isAgg3
 z25:=Tryz.sizeOf3
 v25:=Tryz.zeroValue3
 t32:=Tryz.underlying129
 a32:=Tryz.isAgg129
 z32:=Tryz.sizeOf129
 v32:=Tryz.zeroValue129
 t35:=Tryz.underlying185
 a35:=Tryz.isAgg185
 z35:=Tryz.sizeOf185
 v35:=Tryz.zeroValue185
 t36:=Tryz.underlying186
 a36:=Tryz.isAgg186
 z36:=Tryz.sizeOf186
 v36:=Tryz.zeroValue186
 t41:=Tryz.underlying173
 a41:=Tryz.isAgg173
 z41:=Tryz.sizeOf173
 v41:=Tryz.zeroValue173
 t44:=Tryz.underlying52
 a44:=Tryz.isAgg52
 z44:=Tryz.sizeOf52
 v44:=Tryz.zeroValue52
 t46:=Tryz.underlying193
 a46:=Tryz.isAgg193
 z46:=Tryz.sizeOf193
 v46:=Tryz.zeroValue193
 t53:=Tryz.underlying194
 a53:=Tryz.isAgg194
 z53:=Tryz.sizeOf194
 v53:=Tryz.zeroValue194
 t57:=Tryz.underlying198
 a57:=Tryz.isAgg198
 z57:=Tryz.sizeOf198
 v57:=Tryz.zeroValue198
 t63:=Tryz.underlying200
 a63:=Tryz.isAgg200
 z63:=Tryz.sizeOf200
 v63:=Tryz.zeroValue200
 t64:=Tryz.underlying43
 a64:=Tryz.isAgg43
 z64:=Tryz.sizeOf43
 v64:=Tryz.zeroValue43 }
def Xc:Go.Shelf.Ren:=⟨fun | 5=>96 | 7=>111 | n=>n,fun | 23=>82 | 25=>3 | 3=>133 | 4=>4 | 20=>20 | n=>n,fun | n=>n⟩
theorem Xb:Go.Proofs.SlLaysW.n5 Tryz.prog Xc:={
 mixed:=by kernel_rfl
 f5:=⟨Tryz.f96.name,by decide,Tryz.func96.trans (congrArg some (by kernel_rfl))⟩
 f7:=Tryz.func111.trans (congrArg some (by kernel_rfl))
 t4:=Tryz.underlying4
 a4:=Tryz.isAgg4
 z4:=Tryz.sizeOf4
 v4:=Tryz.zeroValue4
 t20:=Tryz.underlying20
 a20:=Tryz.isAgg20
 z20:=Tryz.sizeOf20
 v20:=Tryz.zeroValue20
 t23:=Tryz.underlying82
 a23:=Tryz.isAgg82
 z23:=Tryz.sizeOf82
 v23:=Tryz.zeroValue82 }
theorem aeN (m:Nat):AnyZI.SortsIn Tryz.prog Ti Fence.wide m:=
 ⟨fun blk off cap ss W hH hblk hsz=>callsIn_wide.2 (AnyM.slices_Sort_int Th blk off cap ss W hH hblk hsz),fun p cap W=>callsIn_wide.2 (AnyM.slices_Sort_int_none Th p cap W)⟩
theorem abR:Vc.aN Tryz.prog 96 Vc.zV:=Vc.abS Xb
theorem abT:Vc.aN Tryz.prog 98 (Vc.zW 114):=Vc.abU iR
theorem acu:Vc.aN Tryz.prog 97 (Vc.Ac 114 3):=Vc.acv (kK:=PT) {iR with } aeM aeN (enters_of Tryz.func113 (by kernel_rfl) rfl) (enters_of Tryz.func114 (by kernel_rfl) rfl)
end Go.Proofs.YtfcjngcnifdmnaaGreat
namespace Go.Proofs.YtfcjngcnifdmnaaGreat
open Vc Go
open Go.IntKind renaming i64->Z,u8->ι,u32->ic
open Vc.V renaming any->γ,sl->δ,int->ε,sb->θ,ptr->aj,υ->aw,dat->aD,aa->aP,mp->aX,arr->bB,agg->fF
open Vc.D renaming val->ζ,sl->ψ
open Go.Value renaming int->ν,map->kq,oneCell'->lU,bool->nE
open Vc.KO renaming row->ξ,dead->χ,cells->ar,objs->cD
open List renaming map->φ,drop->ay,take->az,length_append->bn,getElem?_eq_getElem->bp,getElem?_eq_some_iff->bG,length_map->bX,take_length->cM,length_take->cQ,replicate->dq,mem_append->dM,append_assoc->dO,getElem?_append_left->dP,mem_singleton->dQ,Mem->dS,mem_cons->ey,mem_map->eL,take_of_length_le->eM,getElem?_append_right->eW,mem_of_getElem?->fi,append_nil->fD,getElem?_map->fE,mem_cons_of_mem->fM,length_drop->fQ,getElem?_set_ne->gr,getD_eq_getElem?_getD->gD,getElem?_eq_none->gO,drop_zero->g_,getElem?_take_of_lt->hU,getElem?_set_self->ig,length_singleton->ii,length_set->ir,mem_cons_self->iu,range->iw,mem_append_left->iL,length_cons->iZ,take_add_one->i_,flatten_cons->jm,getElem?_drop->jw,getElem?_of_mem->jx,map_append->jy,nil_append->jV,length_nil->kn,mem_filter->kM,ext_getElem?->lw,eq_nil_of_length_eq_zero->ma,map_cons->mb,mem_append_right->mc
open Nat renaming le_refl->av,zero_le->bt,beq->cp,eq_of_beq_eq_true->cU,zero_add->c9,add_assoc->gE,lor->iy,lt_or_ge->jX,sub_zero->lT,le_trans->mf
open Option renaming some->bb,bind_eq_some_iff->kP,map->mO
open Int renaming toNat_natCast->cP,le_refl->fa
open Bool renaming and_eq_true->km,not_eq_false'->lm,not_eq_true'->lR
set_option linter.unusedVariables false
set_option linter.unusedSimpArgs false
set_option maxRecDepth 100000
abbrev L3:=Int×Int×Int
def o7 (p:L3):List Int×List D:=([p.1],[dn Z p.2.1,dn Z p.2.2])
structure bI (M:ML) (x:List L3):Prop where
 perm:M.Perm (x.map o7)
 inc:x.Pairwise (fun a b=>a.1<b.1)
 rg:∀ p∈x,0<=p.1/\p.1<=255/\1<=p.2.1/\p.2.1<=1099511627776/\0<=p.2.2/\p.2.2<=63
 len:x.length<=32
def oA:List L3->Int->Option Nat
 | [],_=>none
 |p::l,c=>if p.1=c then some 0 else(oA l c).map (·+1)
def g3 (x:List L3) (i:Nat):L3:=x.getD i (0,0,0)
def j_ (x:List L3) (c:Int):Option (Int×Int):=(oA x c).map fun i=>(g3 x i).2
def cX (x:List L3) (c n e:Int):Int:=
 if c<0∨255<c∨n<1∨1099511627776<n∨e<0∨63<e then 1 else match j_ x c with
 |some q=>if n<=q.1 then 13 else 0
 |none=>if 32<=x.length then 6 else 0
def oQ (x:List L3) (c n e:Int):List L3:=x.filter (fun p=>decide (p.1<c))++(c,n,e)::x.filter (fun p=>decide (c<p.1))
def fT (x:List L3) (c n:Int):Int:=match j_ x c with
 |none=>0
 |some q=>if q.1<n then 0 else if n=q.1 then 1 else 2
def sk (x:List L3) (c n:Int):Int:=match j_ x c with
 |none=>0
 |some q=>if n=q.1 then q.2 else 0
structure mg (n:Int):Prop where
 h:n≠0
structure l_ (n:Int):Prop where
 h:n=0
abbrev ae (M:ML):V:=.imp [Z] false true 2 M
def z6:aE:=fun args kb K=>match args,kb with
 | [aj 0 0,.int Z c,.int Z n,.int Z e],[ar [.imp [Z] false true 2 M]]=>∃ x,bI M x/\
  (mg (cX x c n e)->K (.int Z (cX x c n e)) [ar [ae M]])/\(l_ (cX x c n e)->K (.int Z 0) [ar [ae (bF M [c] [dn Z n,dn Z e])]])
 |_,_=>False
def El:aE:=fun args kb K=>match args,kb with
 | [aj 0 134,.int Z c,.int Z n,.int Z e],[ar [γ a0,γ a1,γ a2,γ a3,γ a4,γ a5,bB 128 C,.imp [Z] false true 2 M,γ a8,γ a9,γ aJ,γ bc,γ a12,γ aR,γ ο,γ π,γ aV,γ aK,γ aQ,γ aL,γ a20,γ a21]]=>∃ x,bI M x/\
  (mg (cX x c n e)->K (.int Z (cX x c n e)) [ar [γ a0,γ a1,γ a2,γ a3,γ a4,γ a5,bB 128 C,ae M,γ a8,γ a9,γ aJ,γ bc,γ a12,γ aR,γ ο,γ π,γ aV,γ aK,γ aQ,γ aL,γ a20,γ a21]])/\(l_ (cX x c n e)->K (.int Z 0) [ar [γ a0,γ a1,γ a2,γ a3,γ a4,γ a5,bB 128 C,ae (bF M [c] [dn Z n,dn Z e]),γ a8,γ a9,γ aJ,γ bc,γ a12,γ aR,γ ο,γ π,γ aV,γ aK,γ aQ,γ aL,γ a20,γ a21]])
 |_,_=>False
def DX:aE:=fun args kb K=>match args,kb with
 | [aj 0 134,.int Z c,.int Z n],[ar [γ a0,γ a1,γ a2,γ a3,γ a4,γ a5,bB 128 C,.imp [Z] false true 2 M,γ a8,γ a9,γ aJ,γ bc,γ a12,γ aR,γ ο,γ π,γ aV,γ aK,γ aQ,γ aL,γ a20,γ a21]]=>∃ x,bI M x/\K (.υ [.int Z (fT x c n),.int Z (sk x c n)]) [ar [γ a0,γ a1,γ a2,γ a3,γ a4,γ a5,bB 128 C,ae M,γ a8,γ a9,γ aJ,γ bc,γ a12,γ aR,γ ο,γ π,γ aV,γ aK,γ aQ,γ aL,γ a20,γ a21]]
 |_,_=>False
def D1:aE:=fun args kb K=>match args,kb with
 | [aj 0 134],[ar [γ a0,γ a1,γ a2,γ a3,γ a4,γ a5,bB 128 C,.imp [Z] false true 2 M,γ a8,γ a9,γ aJ,γ bc,γ a12,γ aR,γ ο,γ π,γ aV,γ aK,γ aQ,γ aL,γ a20,γ a21]]=>∃ x,bI M x/\K (.sl 1 0 x.length) [ar [γ a0,γ a1,γ a2,γ a3,γ a4,γ a5,bB 128 C,ae M,γ a8,γ a9,γ aJ,γ bc,γ a12,γ aR,γ ο,γ π,γ aV,γ aK,γ aQ,γ aL,γ a20,γ a21],ξ 3 1 (ints Z (x.map (·.1)))]
 |_,_=>False
def FF:FuncId->Option dA
 | 96=>some ⟨[],zV⟩
 | 98=>some ⟨[],zW 114⟩
 | 97=>some ⟨[],Ac 114 3⟩
 |_=>none
noncomputable def xc:bJ:=dG Tryz.prog FF aG 10
abbrev Fu:=fun(M:ML) (c:Int) (n:Int) (e:Int) mr Ys Yt (K:V->KB->Prop)=>(
 let aO:=K (ε Z 6) [ar mr];let aC:=((↑(List.length M):Int) == 32)=true;let aH:=((↑(List.length M):Int) == 32)=false;let au:=K (ε Z 0) [ar Yt];let ω:=K (ε Z 0) [ar Ys];let η:=K (ε Z 1) [ar mr];(∀(y1:List D),bH M [c]=some y1->
 gp ([CK.int Z]++([CK.int Z]++[])) y1)/\
 (decide (c<0)=true->
 η)/\
 (decide (c<0)=false->
 (decide (c > 255)=true->
 η)/\
 (decide (c > 255)=false->
 (decide (n<1)=true->
 η)/\
 (decide (n<1)=false->
 (decide (n > 1099511627776)=true->
 η)/\
 (decide (n > 1099511627776)=false->
 (decide (e<0)=true->
 η)/\
 (decide (e<0)=false->
 (decide (e > 63)=true->
 η)/\
 (decide (e > 63)=false->
 (mA M [c]=true->
 (decide (n<=dX M [c] 0)=true->
 K (ε Z 13) [ar mr])/\
 (decide (n<=dX M [c] 0)=false->
 ((!mA M [c])=true->
 (aC->
 aO)/\
 (aH->
 (M=[]->
 ω)/\
 au))/\
 ((!mA M [c])=false->
 (M=[]->
 ω)/\
 au)))/\
 (mA M [c]=false->
 ((!mA M [c])=true->
 (aC->
 aO)/\
 (aH->
 (M=[]->
 ω)/\
 au))/\
 ((!mA M [c])=false->
 (M=[]->
 ω)/\
 au))))))))
 :Prop)
theorem ag9 (M:ML) (c n e:Int) (K:V->KB->Prop) (an:
 Fu M c n e [V.imp [Z] false true 2 M] [V.imp [Z] false true 2 [([c],[ζ (ν Z n),ζ (ν Z e)])]] [V.imp [Z] false true 2 (bF M [c] [ζ (ν Z n),ζ (ν Z e)])] K
 ):aI Tryz.prog xc (aG 66) 66 [aj 0 0,.int Z c,.int Z n,.int Z e] [ar [ae M]] (eZ [.oG 0 0 [Z] false true 2] (dp 1 K)):=by apply Eq.mp (a:=an);kernel_rfl
theorem ag_ (a0 a1 a2 a3 a4 a5 a8 a9 aJ bc a12 aR ο π aV aK aQ aL a20 a21:Value) (C:List D) (M:ML) (c n e:Int) (K:V->KB->Prop) (an:
 Fu M c n e [γ a0,γ a1,γ a2,γ a3,γ a4,γ a5,bB 128 C,V.imp [Z] false true 2 M,γ a8,γ a9,γ aJ,γ bc,γ a12,γ aR,γ ο,γ π,γ aV,γ aK,γ aQ,γ aL,γ a20,γ a21] [γ a0,γ a1,γ a2,γ a3,γ a4,γ a5,bB 128 C,V.imp [Z] false true 2 [([c],[ζ (ν Z n),ζ (ν Z e)])],γ a8,γ a9,γ aJ,γ bc,γ a12,γ aR,γ ο,γ π,γ aV,γ aK,γ aQ,γ aL,γ a20,γ a21] [γ a0,γ a1,γ a2,γ a3,γ a4,γ a5,bB 128 C,V.imp [Z] false true 2 (bF M [c] [ζ (ν Z n),ζ (ν Z e)]),γ a8,γ a9,γ aJ,γ bc,γ a12,γ aR,γ ο,γ π,γ aV,γ aK,γ aQ,γ aL,γ a20,γ a21] K
 ):aI Tryz.prog xc (aG 66) 66 [aj 0 134,.int Z c,.int Z n,.int Z e] [ar [γ a0,γ a1,γ a2,γ a3,γ a4,γ a5,bB 128 C,ae M,γ a8,γ a9,γ aJ,γ bc,γ a12,γ aR,γ ο,γ π,γ aV,γ aK,γ aQ,γ aL,γ a20,γ a21]] (eZ [.oG 0 134 [Z] false true 2] (dp 1 K)):=by apply Eq.mp (a:=an);kernel_rfl
theorem agc (a0 a1 a2 a3 a4 a5 a8 a9 aJ bc a12 aR ο π aV aK aQ aL a20 a21:Value) (C:List D) (M:ML) (c n:Int) (K:V->KB->Prop) (an:
 let η:KB:=[ar [γ a0,γ a1,γ a2,γ a3,γ a4,γ a5,bB 128 C,V.imp [Z] false true 2 M,γ a8,γ a9,γ aJ,γ bc,γ a12,γ aR,γ ο,γ π,γ aV,γ aK,γ aQ,γ aL,γ a20,γ a21]];let ω:=K (aw [ε Z 0,ε Z 0]) η;(∀(y1:List D),bH M [c]=some y1->
 gp ([CK.int Z]++([CK.int Z]++[])) y1)/\
 ((!mA M [c])=true->
 ω)/\
 ((!mA M [c])=false->
 (decide (n > dX M [c] 0)=true->
 ω)/\
 (decide (n > dX M [c] 0)=false->
 ((n == dX M [c] 0)=true->
 K (aw [ε Z 1,ε Z (dX M [c] 1)]) η)/\
 ((n == dX M [c] 0)=false->
 K (aw [ε Z 2,ε Z 0]) η)))
 ):aI Tryz.prog xc (aG 83) 83 [aj 0 134,.int Z c,.int Z n] [ar [γ a0,γ a1,γ a2,γ a3,γ a4,γ a5,bB 128 C,ae M,γ a8,γ a9,γ aJ,γ bc,γ a12,γ aR,γ ο,γ π,γ aV,γ aK,γ aQ,γ aL,γ a20,γ a21]] (dp 1 K):=by apply Eq.mp (a:=an);kernel_rfl
theorem agf (a0 a1 a2 a3 a4 a5 a8 a9 aJ bc a12 aR ο π aV aK aQ aL a20 a21:Value) (C:List D) (M:ML) (K:V->KB->Prop) (an:
 let η:=ar [γ a0,γ a1,γ a2,γ a3,γ a4,γ a5,bB 128 C,V.imp [Z] false true 2 M,γ a8,γ a9,γ aJ,γ bc,γ a12,γ aR,γ ο,γ π,γ aV,γ aK,γ aQ,γ aL,γ a20,γ a21];114=114/\
 [Z]=[Z]/\
 false=false/\
 tj M/\
 (M=[]->
 K (δ 1 0 0) [η,ξ 3 1 []])/\
 K (δ 1 0 (List.length M)) [η,ξ 3 1 (ints Z (nW (Vc.iR M)))]
 ):aI Tryz.prog xc (aG 69) 69 [aj 0 134] [ar [γ a0,γ a1,γ a2,γ a3,γ a4,γ a5,bB 128 C,ae M,γ a8,γ a9,γ aJ,γ bc,γ a12,γ aR,γ ο,γ π,γ aV,γ aK,γ aQ,γ aL,γ a20,γ a21]] (eZ [.slot 0 3 1] (dp 1 K)):=by apply Eq.mp (a:=an);kernel_rfl
theorem Qq:∀{M:ML} {k:List Int} {v:List D},(M.map (·.1)).Nodup->(k,v)∈M->bH M k=some v
 | (a,c)::M,k,v,hn,h=>by
  simp only[mb,List.nodup_cons]at hn
  simp only[bH]
  rcases ey.1 h with h | h
  ·cases h;rw[if_pos rfl]
  ·have hne:k≠a:=fun e=>hn.1 (eL.2 ⟨_,h,e⟩)
   rw[if_neg hne]
   exact Qq hn.2 h
theorem Qr:∀{M:ML} {k:List Int},(∀ e∈M,e.1≠k)->bH M k=none
 | [],_,_=>rfl
 | (a,c)::M,k,h=>by
  simp only[bH]
  rw[if_neg (fun e=>h _ iu e.symm)]
  exact Qr fun e he=>h e (fM _ he)
theorem xo:∀{x:List L3} {c:Int} {i:Nat},oA x c=some i->i<x.length/\(g3 x i).1=c/\∀ j,j<i->(g3 x j).1≠c
 |p::l,c,i,h=>by
  simp only[oA]at h
  split at h
  ·rename_i hp
   cases h
   exact⟨by simp,by simp [g3,hp],fun j hj=>absurd hj (Nat.not_lt_zero _)⟩
  ·rename_i hp
   simp only[Option.map_eq_some_iff]at h
   obtain⟨k,hk,rfl⟩:=h
   obtain⟨h1,h2,h3⟩:=xo hk
   refine⟨by simp;omega,by simpa [g3]using h2,fun j hj=>?_⟩
   cases j with
   |zero=>simpa [g3]using hp
   |succ j=>have:=h3 j (by omega);simpa [g3]using this
theorem E7:∀{x:List L3} {c:Int},oA x c=none->∀ p∈x,p.1≠c
 | [],_,_,p,hp=>by cases hp
 |q::l,c,h,p,hp=>by
  simp only[oA]at h
  split at h
  ·cases h
  ·rename_i hq
   simp only[Option.map_eq_none_iff]at h
   rcases ey.1 hp with rfl | hp
   ·exact hq
   ·exact E7 h p hp
theorem sy {x:List L3} {i:Nat} (h:i<x.length):x[i]? =some (g3 x i):=by
 unfold g3;rw[gD,bp h];rfl
theorem tL {x:List L3} {i:Nat} (h:i<x.length):g3 x i∈x:=fi (sy h)
theorem Wn {x:List L3} {c:Int} {i:Nat} (hi:i<x.length) (h1:(g3 x i).1=c) (h2:∀ j,j<i->(g3 x j).1≠c):oA x c=some i:=by
 cases h:oA x c with
 |none=>exact absurd h1 (E7 h _ (tL hi))
 |some k=>
  obtain⟨k1,k2,k3⟩:=xo h
  have:k=i:=by
   rcases Nat.lt_trichotomy k i with h4 | h4 | h4
   ·exact absurd k2 (h2 k h4)
   ·exact h4
   ·exact absurd h1 (k3 i h4)
  rw[this]
theorem Wm {x:List L3} {c:Int} (h:∀ j,j<x.length->(g3 x j).1≠c):oA x c=none:=by
 cases h1:oA x c with
 |none=>rfl
 |some k=>obtain⟨k1,k2,_⟩:=xo h1;exact absurd k2 (h k k1)
theorem Kr {M:ML} {x:List L3} (h:bI M x):(M.map (·.1)).Nodup:=by
 have h1:(M.map (·.1)).Perm ((x.map o7).map (·.1)):=h.perm.map _
 refine h1.nodup_iff.2 ?_
 rw[List.map_map]
 exact List.pairwise_map.2 (h.inc.imp fun hlt e=>by simp [o7]at e;omega)
theorem F9 {M:ML} {x:List L3} (h:bI M x) (c:Int):bH M [c]=(j_ x c).map fun q=>[dn Z q.1,dn Z q.2]:=by
 unfold j_
 cases hc:oA x c with
 |none=>
  refine Qr fun e he e1=>?_
  obtain⟨p,hp,rfl⟩:=eL.1 (h.perm.mem_iff.1 he)
  simp only[o7,List.cons.injEq,and_true]at e1
  exact E7 hc p hp e1
 |some i=>
  obtain⟨h1,h2,_⟩:=xo hc
  refine Qq (Kr h) (h.perm.mem_iff.2 (eL.2 ⟨g3 x i,tL h1,?_⟩))
  simp only[o7,h2,Option.map_some]
theorem Kq {M:ML} {x:List L3} (h:bI M x):tj M/\nW (Vc.iR M)=x.map (·.1)/\M.length=x.length:=by
 have hl:M.length=x.length:=by rw[h.perm.length_eq,bX]
 refine⟨⟨fun e he=>?_,Kr h,by have:=h.len;omega⟩,?_,hl⟩
 ·obtain⟨p,hp,rfl⟩:=eL.1 (h.perm.mem_iff.1 he)
  have:=h.rg p hp
  exact⟨p.1,rfl,by omega,by omega⟩
 ·have h1:(Vc.iR M).Perm (x.map (·.1)):=by
   unfold Vc.iR
   have:=h.perm.map (fun e:List Int×List D=>e.1.headD 0)
   rw[List.map_map]at this
   exact this
  rw[Tg h1]
  unfold nW
  exact List.mergeSort_of_pairwise (List.pairwise_map.2 (h.inc.imp fun hlt=>by simp only[decide_eq_true_eq];omega))
theorem T3:bI [] []:=⟨List.Perm.refl _,List.Pairwise.nil,fun p hp=>(by cases hp),by simp⟩
theorem AD {M:ML} {x:List L3} (h:bI M x) (c:Int):∀ cs,bH M [c]=some cs->gp ([CK.int Z]++([CK.int Z]++[])) cs:=fun cs hc=>by
 rw[F9 h]at hc
 simp only[Option.map_eq_some_iff]at hc
 obtain⟨q,_,rfl⟩:=hc
 exact⟨_,_,rfl,_,_,rfl,rfl⟩
theorem Ko {M:ML} {x:List L3} (h:bI M x) (c:Int):mA M [c]=(j_ x c).isSome/\(∀ q,j_ x c=some q->dX M [c] 0=q.1/\dX M [c] 1=q.2):=by
 refine⟨?_,fun q hq=>?_⟩
 ·unfold mA;rw[F9 h];cases j_ x c<;>rfl
 ·unfold dX;rw[F9 h,hq];exact⟨rfl,rfl⟩
theorem W8:dF Tryz.prog FF:=fun f k h=>by
 unfold FF at h
 split at h<;>first | (cases h;first | exact abR | exact abT | exact acu) | cases h
theorem An:bZ Tryz.prog xc:=dI mixed W8 aG 10
theorem Sl {M:ML} {c n e:Int} {x:List L3} {B B2 B3:List V} {K:V->KB->Prop} (ht:bI M x) (hno:mg (cX x c n e)->K (.int Z (cX x c n e)) [ar B]) (hy:l_ (cX x c n e)->K (.int Z 0) [ar B2]) (e3:M=[]->B3=B2):Fu M c n e B B3 B2 K:=by
 obtain⟨t1,t2⟩:=Ko ht c
 have hl:=(Kq ht).2.2
 have hle:=ht.len
 unfold cX at hno hy
 refine⟨AD ht c,?_⟩
 simp only[decide_eq_true_eq,decide_eq_false_iff_not]
 have bad:(c<0∨255<c∨n<1∨1099511627776<n∨e<0∨63<e)->K (ε Z 1) [ar B]:=fun hb=>by
  simp only[if_pos hb]at hno
  exact hno ⟨by decide⟩
 refine⟨fun h1=>bad (.inl h1),fun h1=>⟨fun h2=>bad (.inr (.inl h2)),fun h2=>⟨fun h3=>bad (.inr (.inr (.inl h3))),fun h3=>⟨fun h4=>bad (.inr (.inr (.inr (.inl h4)))),fun h4=>⟨fun h5=>bad (.inr (.inr (.inr (.inr (.inl h5))))),fun h5=>⟨fun h6=>bad (.inr (.inr (.inr (.inr (.inr h6))))),fun h6=>?_⟩⟩⟩⟩⟩⟩
 have hg:¬ (c<0∨255<c∨n<1∨1099511627776<n∨e<0∨63<e):=by omega
 simp only[if_neg hg]at hno hy
 have fin:K (.int Z 0) [ar B2]->(M=[]->K (.int Z 0) [ar B3])/\K (.int Z 0) [ar B2]:=fun h=>⟨fun hm=>by rw[e3 hm];exact h,h⟩
 cases hq:j_ x c with
 |some q=>
  rw[hq]at t1 hno hy
  simp only[Option.isSome_some]at t1
  simp only at hno hy
  have t3:=(t2 q hq).1
  rw[t1,t3]
  refine⟨fun _=>⟨fun h7=>?_,fun h7=>⟨fun f=>(by cases f),fun _=>fin ?_⟩⟩,fun f=>(by cases f)⟩
  ·rw[if_pos h7]at hno;exact hno ⟨by decide⟩
  ·rw[if_neg h7]at hy;exact hy ⟨rfl⟩
 |none=>
  rw[hq]at t1 hno hy
  simp only[Option.isSome_none]at t1
  simp only at hno hy
  rw[t1]
  refine⟨fun f=>(by cases f),fun _=>⟨fun _=>⟨fun h7=>?_,fun h7=>fin ?_⟩,fun f=>(by cases f)⟩⟩
  ·simp only[beq_iff_eq]at h7
   rw[if_pos (by omega)]at hno;exact hno ⟨by decide⟩
  ·simp only[beq_eq_false_iff_ne,ne_eq]at h7
   rw[if_neg (by omega)]at hy;exact hy ⟨rfl⟩
theorem Ro:aN Tryz.prog 66 z6:=mE An mixed [.oG 0 0 [Z] false true 2] (fun args kb K h=>by
 unfold z6 at h;split at h<;>try exact h.elim
 obtain⟨x,ht,hno,hy⟩:=h
 exact⟨_,ag9 _ _ _ _ K (Sl ht hno hy (fun hm=>by subst hm;rfl))⟩)
theorem acm:aN Tryz.prog 66 El:=mE An mixed [.oG 0 134 [Z] false true 2] (fun args kb K h=>by
 unfold El at h;split at h<;>try exact h.elim
 obtain⟨x,ht,hno,hy⟩:=h
 exact⟨_,ag_ _ _ _ _ _ _ _ _ _ _ _ _ _ _ _ _ _ _ _ _ _ _ _ _ _ K (Sl ht hno hy (fun hm=>by subst hm;rfl))⟩)
theorem abj:aN Tryz.prog 83 DX:=kY An mixed (fun args kb K h=>by
 unfold DX at h;split at h<;>try exact h.elim
 rename_i c n _ _ _ _ _ _ _ M _ _ _ _ _ _ _ _ _ _ _ _ _ _
 obtain⟨x,ht,h⟩:=h
 obtain⟨t1,t2⟩:=Ko ht c
 unfold fT sk at h
 refine⟨_,agc _ _ _ _ _ _ _ _ _ _ _ _ _ _ _ _ _ _ _ _ _ M c n K ⟨AD ht c,?_⟩⟩
 simp only[decide_eq_true_eq,decide_eq_false_iff_not]
 cases hq:j_ x c with
 |none=>
  rw[hq]at t1 h
  simp only[Option.isSome_none]at t1
  rw[t1]
  exact⟨fun _=>h,fun f=>(by cases f)⟩
 |some q=>
  rw[hq]at t1 h
  simp only[Option.isSome_some]at t1
  simp only at h
  obtain⟨t3,t4⟩:=t2 q hq
  rw[t1,t3,t4]
  refine⟨fun f=>(by cases f),fun _=>⟨fun h7=>?_,fun h7=>⟨fun h8=>?_,fun h8=>?_⟩⟩⟩
  ·rw[if_pos (by omega),if_neg (by omega)]at h;exact h
  ·simp only[beq_iff_eq]at h8
   rw[if_neg (by omega),if_pos h8,if_pos h8]at h;exact h
  ·simp only[beq_eq_false_iff_ne,ne_eq]at h8
   rw[if_neg (by omega),if_neg h8,if_neg h8]at h;exact h)
theorem abm:aN Tryz.prog 69 D1:=mE An mixed [.slot 0 3 1] (fun args kb K h=>by
 unfold D1 at h;split at h<;>try exact h.elim
 rename_i M _ _ _ _ _ _ _ _ _ _ _ _ _ _
 obtain⟨x,ht,h⟩:=h
 obtain⟨k1,k2,k3⟩:=Kq ht
 refine⟨_,agf _ _ _ _ _ _ _ _ _ _ _ _ _ _ _ _ _ _ _ _ _ M K ⟨rfl,rfl,rfl,k1,fun hM=>?_,?_⟩⟩
 ·subst hM
  have hx:x=[]:=ma (by rw[<- k3];rfl)
  subst hx
  exact h
 ·rw[k2,k3];exact h)
structure eX (x:List L3):Prop where
 inc:x.Pairwise (fun a b=>a.1<b.1)
 rg:∀ p∈x,0<=p.1/\p.1<=255/\1<=p.2.1/\p.2.1<=1099511627776/\0<=p.2.2/\p.2.2<=63
 len:x.length<=32
def mI (p:L3):List Int:=aY p.1++aY p.2.1++aY p.2.2
def gv (x:List L3):List Int:=(x.map mI).flatten
def bh (x:List L3):List Int:=aY (x.length:Int)++gv x
def fJ (x:List L3) (i:Nat):List Int:=aY (x.length:Int)++gv (x.take i)
abbrev T6 (a0 a1 a2 a3 a4 a5 a8 a9 aJ bc a12 aR ο π aV aK aQ aL a20 a21:Value) (C:List D) (M:ML) (x:List L3):LI where
 α:={i:Nat // i<=x.length}
 live:=[0,3,13,14,15]
 st i:=([aj 0 134,aj 1 0,.sl 2 0 x.length,.int Z (x.length:Int),.int Z (i.1:Int)],[ar [γ a0,γ a1,γ a2,γ a3,γ a4,γ a5,bB 128 C,ae M,γ a8,γ a9,γ aJ,γ bc,γ a12,γ aR,γ ο,γ π,γ aV,γ aK,γ aQ,γ aL,γ a20,γ a21],ar [.sl 3 0 (fJ x i.1).length],ξ 3 1 (ints Z (x.map (·.1))),ξ 5 1 (ints ι (fJ x i.1))])
 μ i:=x.length - i.1
def NY (a0 a1 a2 a3 a4 a5 a8 a9 aJ bc a12 aR ο π aV aK aQ aL a20 a21:Value) (C:List D) (M:ML) (x:List L3):FuncId->Nat->Option LI
 | 39,4=>some (T6 a0 a1 a2 a3 a4 a5 a8 a9 aJ bc a12 aR ο π aV aK aQ aL a20 a21 C M x)
 |_,_=>none
def Ad:aE:=fun args kb K=>match args,kb with
 | [aj 0 134],[ar [γ a0,γ a1,γ a2,γ a3,γ a4,γ a5,bB 128 C,.imp [Z] false true 2 M,γ a8,γ a9,γ aJ,γ bc,γ a12,γ aR,γ ο,γ π,γ aV,γ aK,γ aQ,γ aL,γ a20,γ a21]]=>∃ x,bI M x/\K (.sl 1 0 (bh x).length) [ar [γ a0,γ a1,γ a2,γ a3,γ a4,γ a5,bB 128 C,ae M,γ a8,γ a9,γ aJ,γ bc,γ a12,γ aR,γ ο,γ π,γ aV,γ aK,γ aQ,γ aL,γ a20,γ a21],ξ 5 1 (ints ι (bh x))]
 |_,_=>False
def Ga:FuncId->Option dA
 | 69=>some ⟨[],D1⟩
 |f=>v6 f
def F_:FuncId->Option dA
 | 66=>some ⟨[],z6⟩
 |f=>v6 f
noncomputable def Ma:bJ:=dG Tryz.prog Ga aG 10
theorem ahw (a0 a1 a2 a3 a4 a5 a8 a9 aJ bc a12 aR ο π aV aK aQ aL a20 a21:Value) (C:List D) (M:ML) (x:List L3) (K:V->KB->Prop) (an:
 let ω:=(T6 a0 a1 a2 a3 a4 a5 a8 a9 aJ bc a12 aR ο π aV aK aQ aL a20 a21 C M x);let η:=ar [γ a0,γ a1,γ a2,γ a3,γ a4,γ a5,bB 128 C,V.imp [Z] false true 2 M,γ a8,γ a9,γ aJ,γ bc,γ a12,γ aR,γ ο,γ π,γ aV,γ aK,γ aQ,γ aL,γ a20,γ a21];∃(y1:List Int),let au:=(y1++aY (↑(List.length M):Int));[]=ints ι y1/\
 0=y1.length/\
 y1.length<=10000000/\
 jk (↑(List.length M):Int)/\
 ∃(y2:List L3),bI M y2/\
 At ω ([aj 0 134,aj 1 0,δ 2 0 y2.length,ε Z (↑(y2.length - 0):Int),ε Z 0],[η,ar [δ 3 0 au.length],ξ 3 1 (ints Z (φ (fun(y3:L3)=>y3.fst) y2)),ξ 5 1 (ints ι au)])/\
 ∀(y5:{y4:Nat // y4<=x.length}),(decide ((↑y5.val:Int)<(↑x.length:Int))=true->
 bw (↑y5.val:Int) (x.length - 0)/\
 ∃(y6:List D),(ints Z (φ (fun(y7:L3)=>y7.fst) x))[0+(↑y5.val:Int).toNat]? =some y6/\
 ∃(y8:Int),y6[0]? =some (ζ (ν Z y8))/\
 ∃(y9:List Int),ints ι (fJ x y5.val)=ints ι y9/\
 (fJ x y5.val).length=y9.length/\
 y9.length<=10000000/\
 jk y8/\
 (∀(cO:List D),bH M [y8]=some cO->
 gp ([CK.int Z]++([CK.int Z]++[])) cO)/\
 ∃(cy:List Int),ints ι (y9++aY y8)=ints ι cy/\
 (y9++aY y8).length=cy.length/\
 cy.length<=10000000/\
 jk (dX M [y8] 0)/\
 (∀(cz:List D),bH M [y8]=some cz->
 gp ([CK.int Z]++([CK.int Z]++[])) cz)/\
 ∃(cL:List Int),ints ι (cy++aY (dX M [y8] 0))=ints ι cL/\
 (cy++aY (dX M [y8] 0)).length=cL.length/\
 cL.length<=10000000/\
 jk (dX M [y8] 1)/\
 Nx ω y5 ([aj 0 134,aj 1 0,δ 2 0 x.length,ε Z (↑x.length:Int),ε Z (Z.wrap ((↑y5.val:Int)+1))],[η,ar [δ 3 0 (cL++aY (dX M [y8] 1)).length],ξ 3 1 (ints Z (φ (fun(dy:L3)=>dy.fst) x)),ξ 5 1 (ints ι (cL++aY (dX M [y8] 1)))]))/\
 (decide ((↑y5.val:Int)<(↑x.length:Int))=false->
 ∃(cY:List Int),ints ι (fJ x y5.val)=ints ι cY/\
 (fJ x y5.val).length=cY.length/\
 cY.length<=1000000/\
 K (δ 1 0 cY.length) [η,ξ 5 1 (ints ι cY)])
 ):aI Tryz.prog Ma (NY a0 a1 a2 a3 a4 a5 a8 a9 aJ bc a12 aR ο π aV aK aQ aL a20 a21 C M x 39) 39 [aj 0 134] [ar [γ a0,γ a1,γ a2,γ a3,γ a4,γ a5,bB 128 C,ae M,γ a8,γ a9,γ aJ,γ bc,γ a12,γ aR,γ ο,γ π,γ aV,γ aK,γ aQ,γ aL,γ a20,γ a21]] (dp 1 K):=by apply Eq.mp (a:=an);kernel_rfl
theorem GJ {x:List L3} {i:Nat} (h:i<x.length):x.take (i+1)=x.take i++[g3 x i]:=by rw[i_,sy h];rfl
theorem XL:dF Tryz.prog F_:=fun f k h=>by
 unfold F_ at h
 split at h
 ·cases h;exact Ro
 ·exact Cn _ _ h
theorem XM:dF Tryz.prog Ga:=fun f k h=>by
 unfold Ga at h
 split at h
 ·cases h;exact abm
 ·exact Cn _ _ h
theorem VP:bZ Tryz.prog Ma:=dI mixed XM aG 10
theorem PI {x:List L3} (h:x.Pairwise (fun a b=>a.1<b.1)) {i j:Nat} (hij:i<j) (hj:j<x.length):(g3 x i).1<(g3 x j).1:=by
 have:=List.pairwise_iff_getElem.1 h i j (by omega) hj hij
 have e1:=sy (show i<x.length by omega)
 have e2:=sy hj
 rw[bp (show i<x.length by omega),bb.injEq]at e1
 rw[bp hj,bb.injEq]at e2
 rwa [e1,e2]at this
theorem QU {x:List L3} (h:x.Pairwise (fun a b=>a.1<b.1)) {i:Nat} (hi:i<x.length):j_ x (g3 x i).1=some (g3 x i).2:=by
 unfold j_
 rw[Wn hi rfl (fun j hj=>by have:=PI h hj hi;omega)]
 rfl
theorem Fx {a b:List L3}:gv (a++b)=gv a++gv b:=by unfold gv;rw[jy,List.flatten_append]
theorem T0 {x:List L3} {i:Nat} (h:i<x.length):fJ x (i+1)=fJ x i++mI (g3 x i):=by
 unfold fJ
 rw[GJ h,Fx,<- dO]
 simp [gv]
theorem ta {x:List L3}:fJ x x.length=bh x:=by unfold fJ bh;rw[cM]
theorem TZ {x:List L3}:fJ x 0=aY (x.length:Int):=by simp [fJ,gv]
theorem M7:∀(x:List L3),(gv x).length<=27*x.length
 | []=>by simp [gv]
 |p::l=>by
  have:=M7 l
  have h1:=jJ p.1
  have h2:=jJ p.2.1
  have h3:=jJ p.2.2
  have e:gv (p::l)=mI p++gv l:=by simp [gv]
  rw[e,bn,iZ]
  unfold mI
  simp only[bn];omega
theorem ux {x:List L3} (h:x.length<=32) (i:Nat):(fJ x i).length<=1000:=by
 have h1:=M7 (x.take i)
 have h2:=jJ (x.length:Int)
 rw[cQ]at h1
 unfold fJ
 rw[bn];omega
theorem bI.ok {M:ML} {x:List L3} (h:bI M x):eX x:=⟨h.inc,h.rg,h.len⟩
theorem Rs:aN Tryz.prog 39 Ad:=kY VP mixed (fun args kb K h=>by
 unfold Ad at h;split at h<;>try exact h.elim
 ·rename_i a0 a1 a2 a3 a4 a5 C M a8 a9 aJ bc a12 aR ο π aV aK aQ aL a20 a21
  obtain⟨x,ht,h⟩:=h
  have hl:=ht.len
  have YD:=(Kq ht).2.2
  refine⟨NY a0 a1 a2 a3 a4 a5 a8 a9 aJ bc a12 aR ο π aV aK aQ aL a20 a21 C M x 39,ahw _ _ _ _ _ _ _ _ _ _ _ _ _ _ _ _ _ _ _ _ _ M x K ⟨[],rfl,rfl,by simp,⟨by omega⟩,x,ht,?_,?_⟩⟩
  ·rw[YD,jV,<- TZ]
   exact At.mk' ⟨0,bt _⟩ rfl
  rintro⟨i,hi⟩
  dsimp only
  have hb:=ux hl i
  simp only[decide_eq_true_eq,decide_eq_false_iff_not]
  refine⟨fun hc=>?_,fun hc=>?_⟩
  ·have l0:i<x.length:=by omega
   have hr:=ht.rg _ (tL l0)
   have n1:=jJ (g3 x i).1
   have n2:=jJ (g3 x i).2.1
   have n3:=jJ (g3 x i).2.2
   obtain⟨t3,t4⟩:=(Ko ht (g3 x i).1).2 _ (QU ht.inc l0)
   have hk:(x.map (·.1))[i]? =some (g3 x i).1:=by rw[fE,sy l0];rfl
   refine⟨by unfold bw;omega,[ζ (.int Z (g3 x i).1)],by rw[c9,cP,kv,hk];rfl,_,rfl,_,rfl,rfl,by omega,⟨by omega⟩,AD ht _,_,rfl,rfl,by rw[bn];omega,⟨by rw[t3];omega⟩,AD ht _,_,rfl,rfl,by rw[t3];simp only[bn];omega,⟨by rw[t4];omega⟩,?_⟩
   have e1:Z.wrap ((i:Int)+1)=((i+1:Nat):Int):=by rw[bD (by omega) (by omega)];rfl
   have e2:fJ x i++aY (g3 x i).1++aY (g3 x i).2.1++aY (g3 x i).2.2=fJ x (i+1):=by
    rw[T0 l0];unfold mI;simp only[dO]
   rw[t3,t4,e1,e2]
   exact Nx.mk' (⟨i+1,by omega⟩:{i:Nat // i<=x.length}) rfl (by show x.length - (i+1)<x.length - i;omega)
  ·have:i=x.length:=by omega
   subst this
   refine⟨_,rfl,rfl,by omega,?_⟩
   rw[ta]
   exact h)
def gU (l:List Int) (p:Nat×Int) (most:Int):Nat×Int:=(p.1+(cx (l.drop p.1) p.2 most).2.1,(cx (l.drop p.1) p.2 most).2.2)
def jp (l:List Int) (p:Nat×Int) (most:Int):Int:=(cx (l.drop p.1) p.2 most).1
def s1 (b:List Int) (p:Nat×Int):Nat×Int:=gU b p 255
def s2 (b:List Int) (p:Nat×Int):Nat×Int:=gU b (s1 b p) 1099511627776
def s3 (b:List Int) (p:Nat×Int):Nat×Int:=gU b (s2 b p) 63
def v3 (b:List Int) (p:Nat×Int):L3:=(jp b p 255,jp b (s1 b p) 1099511627776,jp b (s2 b p) 63)
def bC (b:List Int):Nat->(Nat×Int)×List L3
 | 0=>(gU b (0,0) 32,[])
 |i+1=>(s3 b (bC b i).1,(bC b i).2++[v3 b (bC b i).1])
def lc (b:List Int):Nat:=(jp b (0,0) 32).toNat
def m8 (x:List L3):Int:=match x.getLast? with | some p=>p.1 | none=>-1
structure DJ (b:List Int) (i:Nat) (M:ML):Prop where
 i2:i<=lc b
 tab:bI M (bC b i).2
 pos:(bC b i).1.1<=b.length
abbrev x8 (b:List Int):LI where
 α:={p:Nat×ML // DJ b p.1 p.2}
 live:=[2,4,5,6,13,14]
 dU:=[.oG 2 0 [Z] false true 2]
 st p:=([aj 0 0,aj 1 0,.int Z (m8 (bC b p.1.1).2),aj 2 0,.int Z (lc b:Int),.int Z (p.1.1:Int)],[ar [γ (.map none)],ar [.sl 3 (bC b p.1.1).1.1 b.length,.int Z (bC b p.1.1).1.2],ar [ae p.1.2],ξ 5 1 (ints ι b)])
 μ p:=lc b - p.1.1
def P6 (b:List Int):FuncId->Nat->Option LI
 | 34,4=>some (x8 b)
 |_,_=>none
def zJ:aE:=fun args kb K=>match args,kb with
 | [aD (.sl 1 B)],[]=>∃ b:List Int,B=ints ι b/\bm b/\b.length<=140737488355328/\((¬ ∃ x,eX x/\b=bh x)->K (.υ [.agg [γ (.map none)],θ false]) [])/\
  ∀ x M,bI M x->b=bh x->K (.υ [.agg [ae M],θ true]) []
 |_,_=>False
noncomputable def L_:bJ:=dG Tryz.prog F_ aG 10
theorem agP (b:List Int) (K:V->KB->Prop) (an:
 let bq:=[γ (kq none)];let aH:=K (aw [fF bq,θ false]) [];(ints ι b).length<=140737488355328/\
 ∃(y1:List Int),let bP:=(cx (ay 0 y1) 0 32);ints ι b=ints ι y1/\
 (ints ι b).length=y1.length/\
 0<=y1.length/\
 (∀(y2:Int),dS y2 y1->
 0<=y2/\
 y2<256)/\
 y1.length<=140737488355328/\
 At (x8 b) ([aj 0 0,aj 1 0,ε Z (-1),aj 2 0,ε Z bP.fst,ε Z 0],[ar bq,ar [δ 3 (0+bP.snd.fst) y1.length,ε Z bP.snd.snd],ar [V.imp [Z] false true 2 []],ξ 5 1 (ints ι y1)])/\
 ∀(y4:{y3:Nat×ML // DJ b y3.fst y3.snd}),let cC:=(↑y4.val.fst:Int)<(↑(lc b):Int);let bN:=[V.imp [Z] false true 2 y4.val.snd];(decide (cC)=true->
 ∃(y5:List Int),let ω:=(cx (ay (bC b y4.val.fst).fst.fst y5) (bC b y4.val.fst).fst.snd 255);let bS:=ω.fst<=m8 (bC b y4.val.fst).snd;let aC:=[aj 0 0,aj 1 0,ε Z ω.fst,aj 2 0,ε Z (↑(lc b):Int),ε Z (Z.wrap ((↑y4.val.fst:Int)+1))];ints ι b=ints ι y5/\
 b.length=y5.length/\
 (bC b y4.val.fst).fst.fst<=y5.length/\
 (∀(y6:Int),dS y6 y5->
 0<=y6/\
 y6<256)/\
 y5.length<=140737488355328/\
 ∃(y7:List Int),let η:=(cx (ay ((bC b y4.val.fst).fst.fst+ω.snd.fst) y7) ω.snd.snd 1099511627776);ints ι y5=ints ι y7/\
 y5.length=y7.length/\
 (bC b y4.val.fst).fst.fst+ω.snd.fst<=y7.length/\
 (∀(y8:Int),dS y8 y7->
 0<=y8/\
 y8<256)/\
 y7.length<=140737488355328/\
 ∃(y9:List Int),let au:=(cx (ay ((bC b y4.val.fst).fst.fst+ω.snd.fst+η.snd.fst) y9) η.snd.snd 63);let aO:=ar [δ 3 ((bC b y4.val.fst).fst.fst+ω.snd.fst+η.snd.fst+au.snd.fst) y9.length,ε Z au.snd.snd];ints ι y7=ints ι y9/\
 y7.length=y9.length/\
 (bC b y4.val.fst).fst.fst+ω.snd.fst+η.snd.fst<=y9.length/\
 (∀(cO:Int),dS cO y9->
 0<=cO/\
 cO<256)/\
 y9.length<=140737488355328/\
 ((au.snd.snd != 0)=true->
 aH)/\
 ((au.snd.snd != 0)=false->
 (decide (bS)=true->
 aH)/\
 (decide (bS)=false->
 ∃(cy:List L3),let b9:=(cX cy ω.fst η.fst au.fst != 0);bI y4.val.snd cy/\
 (mg (cX cy ω.fst η.fst au.fst)->
 (b9=true->
 aH)/\
 (b9=false->
 Nx (x8 b) y4 (aC,[ar bq,aO,ar bN,ξ 5 1 (ints ι y9)])))/\
 (l_ (cX cy ω.fst η.fst au.fst)->
 (false=true->
 aH)/\
 (false=false->
 Nx (x8 b) y4 (aC,[ar bq,aO,ar [V.imp [Z] false true 2 (bF y4.val.snd [ω.fst] [dn Z η.fst,dn Z au.fst])],ξ 5 1 (ints ι y9)]))))))/\
 (decide (cC)=false->
 ∃(cz:List Int),let bj:=(iE (ay (bC b y4.val.fst).fst.fst cz) (bC b y4.val.fst).fst.snd != 0);ints ι b=ints ι cz/\
 b.length=cz.length/\
 (bj=true->
 aH)/\
 (bj=false->
 K (aw [fF bN,θ true]) []))
 ):aI Tryz.prog L_ (P6 b 34) 34 [aD (.sl 1 (ints ι b))] [] (dp 0 K):=by apply Eq.mp (a:=an);kernel_rfl
theorem VO:bZ Tryz.prog L_:=dI mixed XL aG 10
theorem Qx:∀{M:ML} {k:List Int} {v:List D},(M.map (·.1)).Nodup->(bF M k v).Perm ((k,v)::M.filter (fun e=>decide (e.1≠k)))
 | [],k,v,_=>by simp [bF]
 | (a,c)::M,k,v,hn=>by
  simp only[mb,List.nodup_cons]at hn
  simp only[bF]
  by_cases h:k=a
  ·subst h
   rw[if_pos rfl]
   have:M.filter (fun e=>decide (e.1≠k))=M:=by
    rw[List.filter_eq_self]
    intro e he
    simp only[decide_eq_true_eq]
    exact fun e1=>hn.1 (eL.2 ⟨e,he,e1⟩)
   rw[List.filter_cons_of_neg (by simp),this]
  ·rw[if_neg h,List.filter_cons_of_pos (by simpa using Ne.symm h)]
   exact((Qx hn.2).cons (a,c)).trans (List.Perm.swap _ _ _)
theorem Si {x:List L3} {c n e:Int}:(oQ x c n e).Perm ((c,n,e)::x.filter (fun p=>decide (p.1≠c))):=by
 have h1:=List.filter_append_perm (fun p:L3=>decide (p.1<c)) (x.filter (fun p=>decide (p.1≠c)))
 have e1:(x.filter (fun p=>decide (p.1≠c))).filter (fun p:L3=>decide (p.1<c))=x.filter (fun p=>decide (p.1<c)):=by
  rw[List.filter_filter]
  apply List.filter_congr
  intro p _
  by_cases h:p.1<c
  ·have:p.1≠c:=by omega
   simp [h,this]
  ·simp [h]
 have e2:(x.filter (fun p=>decide (p.1≠c))).filter (fun p:L3=> !decide (p.1<c))=x.filter (fun p=>decide (c<p.1)):=by
  rw[List.filter_filter]
  apply List.filter_congr
  intro p _
  by_cases h:c<p.1
  ·have h1:p.1≠c:=by omega
   have h2:¬ p.1<c:=by omega
   simp [h,h1,h2]
  ·by_cases h2:p.1=c
   ·simp [h2]
   ·have h3:p.1<c:=by omega
    simp [h,h3]
 rw[e1,e2]at h1
 unfold oQ
 exact(List.perm_middle).trans (h1.cons _)
theorem adu {x:List L3} {c n e:Int} (h:cX x c n e=0):(0<=c/\c<=255/\1<=n/\n<=1099511627776/\0<=e/\e<=63)/\(j_ x c=none->x.length<32):=by
 unfold cX at h
 split at h
 ·cases h
 ·rename_i hg
  refine⟨by omega,fun hn=>?_⟩
  rw[hn]at h
  simp only at h
  split at h
  ·cases h
  ·omega
theorem QV {x:List L3} {c:Int} (h:∀ p∈x,p.1≠c):j_ x c=none:=by
 unfold j_
 rw[Wm (fun j hj=>h _ (tL hj))];rfl
theorem C5 {M:ML} {x:List L3} {c n e:Int} (h:bI M x) (h0:cX x c n e=0):bI (bF M [c] [dn Z n,dn Z e]) (oQ x c n e):=by
 obtain⟨hr,hn⟩:=adu h0
 have hp:(oQ x c n e).Perm ((c,n,e)::x.filter (fun p=>decide (p.1≠c))):=Si
 refine⟨?_,?_,fun p ZC=>?_,?_⟩
 ·have h1:=Qx (M:=M) (k:=[c]) (v:=[dn Z n,dn Z e]) (Kr h)
  have h2:(M.filter (fun q=>decide (q.1≠[c]))).Perm ((x.map o7).filter (fun q=>decide (q.1≠[c]))):=h.perm.filter _
  have h3:(x.map o7).filter (fun q=>decide (q.1≠[c]))=(x.filter (fun p=>decide (p.1≠c))).map o7:=by
   rw[List.filter_map]
   congr 1
   apply List.filter_congr
   intro p _
   simp [o7]
  rw[h3]at h2
  have h4:=(hp.map o7).symm
  exact(h1.trans (h2.cons _)).trans h4
 ·unfold oQ
  refine List.pairwise_append.2 ⟨h.inc.filter _,List.pairwise_cons.2 ⟨fun q hq=>?_,h.inc.filter _⟩,fun a ha b hb=>?_⟩
  ·have:=(kM.1 hq).2
   simp only[decide_eq_true_eq]at this
   exact this
  ·have h1:=(kM.1 ha).2
   simp only[decide_eq_true_eq]at h1
   rcases ey.1 hb with rfl | hb
   ·exact h1
   ·have h2:=(kM.1 hb).2
    simp only[decide_eq_true_eq]at h2
    omega
 ·rcases ey.1 (hp.mem_iff.1 ZC)with rfl | h1
  ·exact hr
  ·exact h.rg p (kM.1 h1).1
 ·rw[hp.length_eq,iZ]
  have h1:=List.length_filter_le (fun p:L3=>decide (p.1≠c)) x
  cases hq:j_ x c with
  |none=>have:=hn hq;omega
  |some q=>
   have h2:∃ p∈x,p.1=c:=by
    unfold j_ at hq
    cases hc:oA x c with
    |none=>rw[hc]at hq;cases hq
    |some i=>obtain⟨k1,k2,_⟩:=xo hc;exact⟨_,tL k1,k2⟩
   obtain⟨p,hpx,hpc⟩:=h2
   have h3:(x.filter (fun p:L3=>decide (p.1≠c))).length<x.length:=List.length_filter_lt_length_iff_exists.2 ⟨p,hpx,by simp [hpc]⟩
   have:=h.len
   omega
theorem adw {x:List L3} {c n e:Int} (h:∀ p∈x,p.1<c):oQ x c n e=x++[(c,n,e)]:=by
 unfold oQ
 have e1:x.filter (fun p=>decide (p.1<c))=x:=by
  rw[List.filter_eq_self];intro p hp;simpa using h p hp
 have e2:x.filter (fun p=>decide (c<p.1))=[]:=by
  rw[List.filter_eq_nil_iff];intro p hp;have:=h p hp;simp;omega
 rw[e1,e2]
theorem aan {x:List L3} {c:Int} (hi:x.Pairwise (fun a b=>a.1<b.1)) (h:m8 x<c):∀ p∈x,p.1<c:=fun p hp=>by
 unfold m8 at h
 cases hl:x.getLast? with
 |none=>rw[List.getLast?_eq_none_iff]at hl;subst hl;cases hp
 |some q=>
  rw[hl]at h
  simp only at h
  obtain⟨y,rfl⟩:=List.getLast?_eq_some_iff.1 hl
  rcases dM.1 hp with h1 | h1
  ·have:=(List.pairwise_append.1 hi).2.2 p h1 q (dQ.2 rfl);omega
  ·rw[dQ]at h1;subst h1;exact h
theorem aao {x:List L3} {c:Int} (h0:0<=c) (h:∀ p∈x,p.1<c):m8 x<c:=by
 unfold m8
 cases hl:x.getLast? with
 |none=>simp only;omega
 |some q=>exact h q (List.mem_of_getLast? hl)
theorem aap {x:List L3} {p:L3}:m8 (x++[p])=p.1:=by unfold m8;simp
theorem yH {l:List Int} {most:Int} (h0:0<=most) (e:Int):(cx l e most).1<=most/\0<=(cx l e most).1:=by
 unfold cx
 split
 ·split
  ·split
   ·exact⟨h0,fa _⟩
   ·exact⟨by simp only;omega,by simp only;omega⟩
  ·exact⟨h0,fa _⟩
  ·exact⟨h0,fa _⟩
 ·exact⟨h0,fa _⟩
theorem adJ {b:List Int} {v:Int} {u:Nat} {most:Int} (hb:bm b) (h:cx b 0 most=(v,u,0)):b=aY v++b.drop u/\u=(aY v).length/\0<=v/\v<=9223372036854775807:=by
 unfold cx at h
 rw[if_pos rfl]at h
 split at h
 ·rename_i w n hn
  split at h
  ·simp at h
  ·simp only[Prod.mk.injEq,and_true]at h
   obtain⟨rfl,rfl⟩:=h
   obtain⟨h1,h2,r,h3⟩:=Ca hb hn
   refine⟨?_,h2,by omega,h1⟩
   have:b.drop n=r:=by rw[h3,h2,List.drop_left]
   rw[this];exact h3
 ·simp at h
 ·simp at h
theorem Cq {l:List Int} {e most:Int} (h:e≠0):cx l e most=(0,0,e):=by unfold cx;rw[if_neg h]
theorem vS {b:List Int} {p:Nat×Int} {m:Int} (h:(gU b p m).2=0):p.2=0:=Classical.byContradiction fun f=>by
 unfold gU at h
 rw[Cq f]at h
 exact f h
theorem uk {b:List Int} (hb:bm b) {p:Nat×Int} (h:p.1<=b.length) (m:Int):(gU b p m).1<=b.length:=by
 have:=(yI (pY hb p.1) p.2 m).2.2
 rw[fQ]at this
 unfold gU;simp only;omega
theorem yn {b:List Int} (hb:bm b) {p:Nat×Int} {m:Int} (h:(gU b p m).2=0):b.drop p.1=aY (jp b p m)++b.drop (gU b p m).1:=by
 have hp:=vS h
 unfold gU at h
 simp only at h
 rw[hp]at h
 have:=adJ (b:=b.drop p.1) (v:=(cx (b.drop p.1) 0 m).1) (u:=(cx (b.drop p.1) 0 m).2.1) (most:=m) (pY hb _) (Prod.ext rfl (Prod.ext rfl h))
 unfold jp gU
 simp only
 rw[hp,<- List.drop_drop]
 exact this.1
theorem ym {pre rest:List Int} {v m:Int} (h0:0<=v) (h:v<=9223372036854775807) (hm:v<=m):gU (pre++(aY v++rest)) (pre.length,0) m=((pre++aY v).length,0)/\jp (pre++(aY v++rest)) (pre.length,0) m=v:=by
 unfold gU jp
 simp only
 rw[List.drop_left,Jt h0 h hm,bn]
 exact⟨rfl,rfl⟩
theorem P4 {b:List Int}:jp b (0,0) 32=(lc b:Int)/\lc b<=32:=by
 have:=yH (l:=b.drop 0) (most:=32) (by omega) 0
 unfold lc jp
 simp only at this ⊢
 omega
theorem BH {b:List Int} (hb:bm b):∀ i,(bC b i).1.1<=b.length/\(bC b i).2.length=i
 | 0=>⟨uk hb (bt _) _,rfl⟩
 |i+1=>by
  obtain⟨h1,h2⟩:=BH hb i
  exact⟨uk hb (uk hb (uk hb h1 _) _) _,by simp only[bC,bn,ii,h2]⟩
theorem PY {b:List Int} (hb:bm b):∀ i,(bC b i).1.2=0->b=aY (lc b:Int)++(gv (bC b i).2++b.drop (bC b i).1.1)
 | 0,h=>by
  have:=yn (p:=(0,0)) (m:=32) hb h
  rw[P4.1]at this
  exact this
 |i+1,h=>by
  have h3:(s3 b (bC b i).1).2=0:=h
  have h2:(s2 b (bC b i).1).2=0:=vS h3
  have h1:(s1 b (bC b i).1).2=0:=vS h2
  have h0:(bC b i).1.2=0:=vS h1
  have ih:=PY hb i h0
  have a1:=yn (p:=(bC b i).1) (m:=255) hb h1
  have a2:=yn (p:=s1 b (bC b i).1) (m:=1099511627776) hb h2
  have a3:=yn (p:=s2 b (bC b i).1) (m:=63) hb h3
  have e:b.drop (bC b i).1.1=mI (v3 b (bC b i).1)++b.drop (s3 b (bC b i).1).1:=by
   rw[a1]
   show _++b.drop (s1 b (bC b i).1).1=_
   rw[a2]
   show _++(_++b.drop (s2 b (bC b i).1).1)=_
   rw[a3]
   unfold mI v3
   simp only[dO]
   rfl
  rw[e]at ih
  show b=aY (lc b:Int)++(gv ((bC b i).2++[v3 b (bC b i).1])++b.drop (s3 b (bC b i).1).1)
  rw[Fx,dO]
  have e1:gv [v3 b (bC b i).1]=mI (v3 b (bC b i).1):=by simp [gv]
  rw[e1]
  exact ih
theorem Yg {x:List L3} {i:Nat} (h:i<x.length):x.drop i=g3 x i::x.drop (i+1):=by
 have h1:=List.drop_eq_getElem_cons h
 have h2:=sy h
 rw[bp h,bb.injEq]at h2
 rw[h1,h2]
theorem BI {x:List L3} (hx:eX x):lc (bh x)=x.length/\∀ i,i<=x.length->bC (bh x) i=(((fJ x i).length,0),x.take i):=by
 have hl:=hx.len
 have e0:=ym (pre:=[]) (rest:=gv x) (v:=(x.length:Int)) (m:=32) (by omega) (by omega) (by omega)
 simp only[jV,kn]at e0
 have hc:lc (bh x)=x.length:=by
  unfold lc bh
  rw[e0.2];exact cP _
 refine⟨hc,fun i=>?_⟩
 induction i with
 |zero=>
  intro _
  show(gU (bh x) (0,0) 32,[])=_
  unfold bh
  rw[e0.1,TZ];rfl
 |succ i ih=>
  intro hi
  have ih:=ih (by omega)
  have hr:=hx.rg _ (tL (show i<x.length by omega))
  have Gi:bh x=fJ x i++(mI (g3 x i)++gv (x.drop (i+1))):=by
   have e1:x=x.take i++g3 x i::x.drop (i+1):=by rw[<- Yg (by omega),List.take_append_drop]
   have e2:gv x=gv (x.take i)++(mI (g3 x i)++gv (x.drop (i+1))):=by
    conv=>lhs;rw[e1]
    rw[Fx];simp [gv]
   unfold bh fJ
   rw[e2,dO]
  have a1:=ym (pre:=fJ x i) (rest:=aY (g3 x i).2.1++aY (g3 x i).2.2++gv (x.drop (i+1))) (v:=(g3 x i).1) (m:=255) (by omega) (by omega) (by omega)
  have a2:=ym (pre:=fJ x i++aY (g3 x i).1) (rest:=aY (g3 x i).2.2++gv (x.drop (i+1))) (v:=(g3 x i).2.1) (m:=1099511627776) (by omega) (by omega) (by omega)
  have a3:=ym (pre:=fJ x i++aY (g3 x i).1++aY (g3 x i).2.1) (rest:=gv (x.drop (i+1))) (v:=(g3 x i).2.2) (m:=63) (by omega) (by omega) (by omega)
  have f1:fJ x i++(aY (g3 x i).1++(aY (g3 x i).2.1++aY (g3 x i).2.2++gv (x.drop (i+1))))=bh x:=by rw[Gi];unfold mI;simp only[dO]
  have f2:fJ x i++aY (g3 x i).1++(aY (g3 x i).2.1++(aY (g3 x i).2.2++gv (x.drop (i+1))))=bh x:=by rw[Gi];unfold mI;simp only[dO]
  have f3:fJ x i++aY (g3 x i).1++aY (g3 x i).2.1++(aY (g3 x i).2.2++gv (x.drop (i+1)))=bh x:=by rw[Gi];unfold mI;simp only[dO]
  rw[f1]at a1
  rw[f2]at a2
  rw[f3]at a3
  have b1:s1 (bh x) ((fJ x i).length,0)=((fJ x i++aY (g3 x i).1).length,0):=a1.1
  have b2:s2 (bh x) ((fJ x i).length,0)=((fJ x i++aY (g3 x i).1++aY (g3 x i).2.1).length,0):=by unfold s2;rw[b1];exact a2.1
  have b3:s3 (bh x) ((fJ x i).length,0)=((fJ x (i+1)).length,0):=by
   unfold s3
   rw[b2,a3.1,T0 (by omega)]
   unfold mI
   simp only[dO]
  have bv:v3 (bh x) ((fJ x i).length,0)=g3 x i:=by
   unfold v3
   rw[b1,b2,a1.2,a2.2,a3.2]
  show(s3 (bh x) (bC (bh x) i).1,(bC (bh x) i).2++[v3 (bh x) (bC (bh x) i).1])=_
  rw[ih]
  simp only
  rw[b3,bv,<- GJ (by omega)]
theorem aa0 {x:List L3} (hx:eX x) {i:Nat} (hi:i<lc (bh x)):(s3 (bh x) (bC (bh x) i).1).2=0/\m8 (bC (bh x) i).2<(v3 (bh x) (bC (bh x) i).1).1/\
  cX (bC (bh x) i).2 (v3 (bh x) (bC (bh x) i).1).1 (v3 (bh x) (bC (bh x) i).1).2.1 (v3 (bh x) (bC (bh x) i).1).2.2=0:=by
 obtain⟨h1,h2⟩:=BI hx
 rw[h1]at hi
 have e1:=h2 (i+1) (by omega)
 have e0:=h2 i (by omega)
 have e2:(s3 (bh x) (bC (bh x) i).1,(bC (bh x) i).2++[v3 (bh x) (bC (bh x) i).1])=(((fJ x (i+1)).length,(0:Int)),x.take (i+1)):=e1
 rw[Prod.mk.injEq]at e2
 have ev:v3 (bh x) (bC (bh x) i).1=g3 x i:=by
  have e3:=e2.2
  rw[e0,GJ hi]at e3
  simp only at e3
  have e4:=List.append_cancel_left e3
  simp only[List.cons.injEq,and_true]at e4
  rw[e0];exact e4
 have hr:=hx.rg _ (tL hi)
 have hlt:∀ p∈x.take i,p.1<(g3 x i).1:=fun p hp=>by
  obtain⟨j,hj,rfl⟩:=List.getElem_of_mem hp
  rw[cQ]at hj
  have e5:=sy (show j<x.length by omega)
  rw[bp (show j<x.length by omega),bb.injEq]at e5
  rw[List.getElem_take,e5]
  exact PI hx.inc (by omega) hi
 refine⟨by rw[e2.1],?_,?_⟩
 ·rw[ev,e0]
  exact aao hr.1 hlt
 ·rw[ev,e0]
  simp only
  unfold cX
  rw[if_neg (by omega),QV (fun p hp=>by have:=hlt p hp;omega)]
  simp only
  rw[if_neg (by rw[cQ];have:=hx.len;omega)]
theorem MQ {a:Int} (h:(a != 0)=true):a≠0:=by simpa using h
theorem MP {a:Int} (h:(a != 0)=false):a=0:=by simpa using h
theorem St {l:List Int} {e:Int} (h:iE l e=0):e=0/\l=[]:=by
 unfold iE at h
 split at h
 ·omega
 ·rename_i hh
  refine⟨h,?_⟩
  by_cases hd:l=[]
  ·exact hd
  ·exact absurd ⟨hd,h⟩ hh
theorem X5 {x:List L3} (hx:eX x):iE ((bh x).drop (bC (bh x) (lc (bh x))).1.1) (bC (bh x) (lc (bh x))).1.2=0:=by
 obtain⟨h1,h2⟩:=BI hx
 rw[h1,h2 _ (av _),ta]
 show iE ((bh x).drop (bh x).length) 0=0
 rw[List.drop_length];rfl
theorem X4 {b:List Int} (hb:bm b) (h:iE (b.drop (bC b (lc b)).1.1) (bC b (lc b)).1.2=0):b=bh (bC b (lc b)).2:=by
 obtain⟨h1,h2⟩:=St h
 have:=PY hb _ h1
 rw[h2,fD]at this
 unfold bh
 rw[(BH hb (lc b)).2]
 exact this
theorem Rj:aN Tryz.prog 34 zJ:=kY VO mixed (fun args kb K h=>by
 unfold zJ at h;split at h<;>try exact h.elim
 obtain⟨b,rfl,hb,hl,hno,hyes⟩:=h
 obtain⟨c1,c2⟩:=P4 (b:=b)
 have bad:∀ i,i<lc b->¬ ((s3 b (bC b i).1).2=0/\m8 (bC b i).2<(v3 b (bC b i).1).1/\cX (bC b i).2 (v3 b (bC b i).1).1 (v3 b (bC b i).1).2.1 (v3 b (bC b i).1).2.2=0)->K (.υ [.agg [γ (.map none)],θ false]) []:=fun i hi hn=>hno (by
  rintro⟨x,hx,rfl⟩
  exact hn (aa0 hx hi))
 have Wv:iE (b.drop (bC b (lc b)).1.1) (bC b (lc b)).1.2≠0->K (.υ [.agg [γ (.map none)],θ false]) []:=fun hn=>hno (by
  rintro⟨x,hx,rfl⟩
  exact hn (X5 hx))
 refine⟨P6 b 34,agP b K ⟨by rw[bi];omega,b,rfl,bi,bt _,hb,by omega,?_,?_⟩⟩
 ·have e1:(cx (ay 0 b) 0 32).1=(lc b:Int):=c1
  rw[e1]
  exact At.mk' ⟨(0,[]),bt _,T3,(BH hb 0).1⟩ rfl
 ·rintro⟨⟨i,M⟩,i2,ht,hpos⟩
  dsimp only at i2 ht hpos ⊢
  refine⟨fun hc=>?_,fun hc=>?_⟩
  ·have hi:i<lc b:=by have:(i:Int)<(lc b:Int):=of_decide_eq_true hc;omega
   have p1:=uk hb hpos 255
   have p2:=uk hb p1 1099511627776
   refine⟨b,rfl,rfl,hpos,hb,by omega,b,rfl,rfl,p1,hb,by omega,b,rfl,rfl,p2,hb,by omega,fun h1=>?_,fun h1=>⟨fun h2=>?_,fun h2=>⟨(bC b i).2,ht,fun h3=>⟨fun h4=>?_,fun h4=>absurd (MP h4) h3.h⟩,fun h3=>⟨fun f=>(by cases f),fun _=>?_⟩⟩⟩⟩
   ·have he:(s3 b (bC b i).1).2≠0:=MQ h1
    exact bad i hi fun w=>he w.1
   ·have fk:(v3 b (bC b i).1).1<=m8 (bC b i).2:=of_decide_eq_true h2
    exact bad i hi fun w=>by have:=w.2.1;omega
   ·exact bad i hi fun w=>h3.h w.2.2
   ·have fk:¬ (v3 b (bC b i).1).1<=m8 (bC b i).2:=of_decide_eq_false h2
    have h4:bI (bF M [(v3 b (bC b i).1).1] [dn Z (v3 b (bC b i).1).2.1,dn Z (v3 b (bC b i).1).2.2]) (oQ (bC b i).2 (v3 b (bC b i).1).1 (v3 b (bC b i).1).2.1 (v3 b (bC b i).1).2.2):=C5 ht h3.h
    rw[adw (aan ht.inc (Int.not_le.1 fk))]at h4
    have hL:DJ b (i+1) _:=⟨hi,h4,(BH hb (i+1)).1⟩
    have Zp:(v3 b (bC b i).1).1=m8 (bC b (i+1)).2:=aap.symm
    have e1:Z.wrap ((i:Int)+1)=((i+1:Nat):Int):=by rw[bD (by omega) (by omega)];rfl
    have key:∀(c' w':Int),c'=m8 (bC b (i+1)).2->w'=((i+1:Nat):Int)->(([aj 0 0,aj 1 0,.int Z c',aj 2 0,.int Z (lc b:Int),.int Z w'],[ar [γ (.map none)],ar [.sl 3 (s3 b (bC b i).1).1 b.length,.int Z (s3 b (bC b i).1).2],ar [ae (bF M [(v3 b (bC b i).1).1] [dn Z (v3 b (bC b i).1).2.1,dn Z (v3 b (bC b i).1).2.2])],ξ 5 1 (ints ι b)]):List V×KB)=(x8 b).st ⟨(i+1,_),hL⟩:=by
     rintro _ _ rfl rfl;rfl
    exact Nx.mk' ⟨(i+1,_),hL⟩ (key _ _ Zp e1) (by show lc b - (i+1)<lc b - i;omega)
  ·have hi:i=lc b:=by
    have:¬ (i:Int)<(lc b:Int):=of_decide_eq_false hc
    omega
   subst hi
   exact⟨b,rfl,rfl,fun h1=>Wv (MQ h1),fun h1=>hyes _ M ht (X4 hb (MP h1))⟩)
noncomputable def XB:bJ:=dG Tryz.prog AB aG 10
def qh (k:Nat):Prop:=k<=8
abbrev u9 (a0 a1 a2 a3 a4 a5 a7 a8 a9 aJ bc a12 aR ο π aV aK aQ aL a20 a21:Value) (C:List D) (o:Nat->List (List D)):LI where
 α:={k:Nat // qh k}
 live:=[0,3,9,10]
 dU:=[.slot 1 5 1]
 st k:=([aj 0 6,.sl 1 0 (16*k.1),.agg [bB 128 C],.int Z (k.1:Int)],[ar [γ a0,γ a1,γ a2,γ a3,γ a4,γ a5,bB 128 C,γ a7,γ a8,γ a9,γ aJ,γ bc,γ a12,γ aR,γ ο,γ π,γ aV,γ aK,γ aQ,γ aL,γ a20,γ a21],ξ 5 1 (o k.1)])
 μ k:=8 - k.1
def Mu (a0 a1 a2 a3 a4 a5 a7 a8 a9 aJ bc a12 aR ο π aV aK aQ aL a20 a21:Value) (C:List D) (o:Nat->List (List D)):FuncId->Nat->Option LI
 | 68,3=>some (u9 a0 a1 a2 a3 a4 a5 a7 a8 a9 aJ bc a12 aR ο π aV aK aQ aL a20 a21 C o)
 |_,_=>none
abbrev vb (m:List Int) (o:Nat->List D) (z:List D):LI where
 α:={k:Nat // qh k}
 live:=[2,4,6,21]
 st k:=([aj 0 0,.sl 1 0 m.length,aj 2 0,.int Z (k.1:Int)],[ar [bB 128 z],ξ 5 1 (ints ι m),ar [bB 128 (o k.1)]])
 μ k:=8 - k.1
def Fj (m:List Int) (o:Nat->List D) (z:List D):FuncId->Nat->Option LI
 | 33,6=>some (vb m o z)
 |_,_=>none
theorem af5 (a0 a1 a2 a3 a4 a5 a7 a8 a9 aJ bc a12 aR ο π aV aK aQ aL a20 a21:Value) (c:List D) (A:List (List D)) (i:Int) (K:V->KB->Prop) (an:
 let ω:=(az 16 (ay 0 A.flatten));let η:=K (ε Z 1) [ar [γ a0,γ a1,γ a2,γ a3,γ a4,γ a5,bB 128 c,γ a7,γ a8,γ a9,γ aJ,γ bc,γ a12,γ aR,γ ο,γ π,γ aV,γ aK,γ aQ,γ aL,γ a20,γ a21]];(decide (i ≥ 0)=true->
 ((!decide (i<8))=true->
 η)/\
 ((!decide (i<8))=false->
 (((↑A.length:Int) != 16)=true->
 η)/\
 (((↑A.length:Int) != 16)=false->
 16<=A.length/\
 16<=A.flatten.length/\
 bw i 8/\
 i.toNat*16+16<=128/\
 K (ε Z 0) [ar [γ a0,γ a1,γ a2,γ a3,γ a4,γ a5,bB 128 (((az (i.toNat*16) c++mi ω [])++(ay (i.toNat*16+(mi ω []).length) c))),γ a7,γ a8,γ a9,γ aJ,γ bc,γ a12,γ aR,γ ο,γ π,γ aV,γ aK,γ aQ,γ aL,γ a20,γ a21]])))/\
 (decide (i ≥ 0)=false->
 η)
 ):aI Tryz.prog XB (aG 84) 84 [aj 0 6,.int Z i,aD (.sl 1 A)] [ar [γ a0,γ a1,γ a2,γ a3,γ a4,γ a5,bB 128 c,γ a7,γ a8,γ a9,γ aJ,γ bc,γ a12,γ aR,γ ο,γ π,γ aV,γ aK,γ aQ,γ aL,γ a20,γ a21]] K:=by apply Eq.mp (a:=an);kernel_rfl
theorem af4 (a0 a1 a2 a3 a4 a5 a7 a8 a9 aJ bc a12 aR ο π aV aK aQ aL a20 a21:Value) (c:List D) (i:Int) (K:V->KB->Prop) (an:
 let ω:=(az 16 (ay (i.toNat*16+0) c));let η:=ar [γ a0,γ a1,γ a2,γ a3,γ a4,γ a5,bB 128 c,γ a7,γ a8,γ a9,γ aJ,γ bc,γ a12,γ aR,γ ο,γ π,γ aV,γ aK,γ aQ,γ aL,γ a20,γ a21];let au:=K (aw [γ (Value.slice none 0 0),ε Z 1]) [η];(decide (i ≥ 0)=true->
 ((!decide (i<8))=true->
 au)/\
 ((!decide (i<8))=false->
 bw i 8/\
 True/\
 True/\
 0<=16/\
 16<=16/\
 (i.toNat*16+0+16<=128/\
 True)/\
 (kB ω).length<=140737488355328/\
 (kB ω=[]->
 True/\
 K (aw [γ (Value.slice none 0 0),ε Z 0]) [η])/\
 ox (kB ω).flatten/\
 K (aw [δ 1 0 (kB ω).length,ε Z 0]) [η,ξ 5 1 (kB ω)]))/\
 (decide (i ≥ 0)=false->
 au)
 ):aI Tryz.prog XB (aG 86) 86 [aj 0 6,.int Z i] [ar [γ a0,γ a1,γ a2,γ a3,γ a4,γ a5,bB 128 c,γ a7,γ a8,γ a9,γ aJ,γ bc,γ a12,γ aR,γ ο,γ π,γ aV,γ aK,γ aQ,γ aL,γ a20,γ a21]] K:=by apply Eq.mp (a:=an);kernel_rfl
theorem ahB (a0 a1 a2 a3 a4 a5 a7 a8 a9 aJ bc a12 aR ο π aV aK aQ aL a20 a21:Value) (c:List D) (i:Int) (K:V->KB->Prop) (an:
 let η:=K (ε Z 1) [ar [γ a0,γ a1,γ a2,γ a3,γ a4,γ a5,bB 128 c,γ a7,γ a8,γ a9,γ aJ,γ bc,γ a12,γ aR,γ ο,γ π,γ aV,γ aK,γ aQ,γ aL,γ a20,γ a21]];(decide (i ≥ 0)=true->
 ((!decide (i<8))=true->
 η)/\
 ((!decide (i<8))=false->
 bw i 8/\
 i.toNat*16+16<=128/\
 K (ε Z 0) [ar [γ a0,γ a1,γ a2,γ a3,γ a4,γ a5,bB 128 (((az (i.toNat*16) c++(dq 16 (ζ (ν ι 0))))++(ay (i.toNat*16+16) c))),γ a7,γ a8,γ a9,γ aJ,γ bc,γ a12,γ aR,γ ο,γ π,γ aV,γ aK,γ aQ,γ aL,γ a20,γ a21]]))/\
 (decide (i ≥ 0)=false->
 η)
 ):aI Tryz.prog XB (aG 85) 85 [aj 0 6,.int Z i] [ar [γ a0,γ a1,γ a2,γ a3,γ a4,γ a5,bB 128 c,γ a7,γ a8,γ a9,γ aJ,γ bc,γ a12,γ aR,γ ο,γ π,γ aV,γ aK,γ aQ,γ aL,γ a20,γ a21]] K:=by apply Eq.mp (a:=an);kernel_rfl
theorem KJ (a0 a1 a2 a3 a4 a5 a7 a8 a9 aJ bc a12 aR ο π aV aK aQ aL a20 a21:Value) (c:List D) (o:Nat->List (List D)) (K:V->KB->Prop) (an:
 let au:=(u9 a0 a1 a2 a3 a4 a5 a7 a8 a9 aJ bc a12 aR ο π aV aK aQ aL a20 a21 c o);let η:=ar [γ a0,γ a1,γ a2,γ a3,γ a4,γ a5,bB 128 c,γ a7,γ a8,γ a9,γ aJ,γ bc,γ a12,γ aR,γ ο,γ π,γ aV,γ aK,γ aQ,γ aL,γ a20,γ a21];At au ([aj 0 6,δ 1 0 0,fF [bB 128 c],ε Z 0],[η,ξ 5 1 []])/\
 ∀(y2:{y1:Nat // qh y1}),let ω:=(az 16 (ay 0 (az 16 (ay ((↑y2.val:Int).toNat*16) c))));(decide ((↑y2.val:Int)<8)=true->
 bw (↑y2.val:Int) 8/\
 (↑y2.val:Int).toNat*16+16<=c.length/\
 True/\
 True/\
 0<=16/\
 16<=16/\
 16<=16/\
 16*y2.val<=(o y2.val).length/\
 (16*y2.val+(kB ω).length)*1<=140737488355328/\
 Nx au y2 ([aj 0 6,δ 1 0 (16*y2.val+(kB ω).length),fF [bB 128 c],ε Z (Z.wrap ((↑y2.val:Int)+1))],[η,ξ 5 1 (az (16*y2.val) (o y2.val)++kB ω)]))/\
 (decide ((↑y2.val:Int)<8)=false->
 K (δ 1 0 (16*y2.val)) [η,ξ 5 1 (o y2.val)])
 ):aI Tryz.prog XB (Mu a0 a1 a2 a3 a4 a5 a7 a8 a9 aJ bc a12 aR ο π aV aK aQ aL a20 a21 c o 68) 68 [aj 0 6] [ar [γ a0,γ a1,γ a2,γ a3,γ a4,γ a5,bB 128 c,γ a7,γ a8,γ a9,γ aJ,γ bc,γ a12,γ aR,γ ο,γ π,γ aV,γ aK,γ aQ,γ aL,γ a20,γ a21]] K:=by apply Eq.mp (a:=an);kernel_rfl
theorem Uw (l m:List Int) (o:Nat->List D) (z:List D) (K:V->KB->Prop) (an:
 let bq:=m.length - 0<=m.length - 0;let bj:=ξ 5 1 (ints ι m);let η:=[bB 128 (dq 128 (ζ (ν ι 0)))];let aO:=At (vb m o z) ([aj 0 0,γ (Value.slice none 0 0),aj 1 0,ε Z 0],[ar η,ar η]);let ω:=K (aw [fF η,θ false]) [];∃(y1:List Int),ints ι l=ints ι y1/\
 (∀(y2:Int),dS y2 y1->
 0<=y2/\
 y2<256)/\
 y1.length<=900000/\
 (fq y1=none->
 (true=true->
 ω)/\
 (true=false->
 (true=true->
 ω)/\
 (true=false->
 aO/\
 ∀(y4:{y3:Nat // qh y3}),let au:=(Z.wrap ((↑y4.val:Int)*16));let bP:=(ay (0+au.toNat) (ints ι m));(decide ((↑y4.val:Int)<8)=true->
 aB au/\
 True/\
 au.toNat<=m.length - 0/\
 bq/\
 16<=0+(m.length - 0) - (0+au.toNat)/\
 16<=bP.flatten.length/\
 bw (↑y4.val:Int) 8/\
 (↑y4.val:Int).toNat*16+16<=128/\
 Nx (vb m o z) y4 ([aj 0 0,δ 1 0 m.length,aj 2 0,ε Z (Z.wrap ((↑y4.val:Int)+1))],[ar [bB 128 z],bj,ar [bB 128 (splice (o y4.val) ((↑y4.val:Int).toNat*16) (mi (az 16 (ay 0 bP.flatten)) []))]]))/\
 (decide ((↑y4.val:Int)<8)=false->
 K (aw [fF [bB 128 (o y4.val)],θ true]) []))))/\
 ∀(y5:List Int),fq y1=some y5->
 (y5=[]->
 (false=true->
 ω)/\
 (false=false->
 (true=true->
 ω)/\
 (true=false->
 aO/\
 ∀(y7:{y6:Nat // qh y6}),let aH:=(Z.wrap ((↑y7.val:Int)*16));let bN:=(ay (0+aH.toNat) (ints ι m));(decide ((↑y7.val:Int)<8)=true->
 aB aH/\
 True/\
 aH.toNat<=m.length - 0/\
 bq/\
 16<=0+(m.length - 0) - (0+aH.toNat)/\
 16<=bN.flatten.length/\
 bw (↑y7.val:Int) 8/\
 (↑y7.val:Int).toNat*16+16<=128/\
 Nx (vb m o z) y7 ([aj 0 0,δ 1 0 m.length,aj 2 0,ε Z (Z.wrap ((↑y7.val:Int)+1))],[ar [bB 128 z],bj,ar [bB 128 (splice (o y7.val) ((↑y7.val:Int).toNat*16) (mi (az 16 (ay 0 bN.flatten)) []))]]))/\
 (decide ((↑y7.val:Int)<8)=false->
 K (aw [fF [bB 128 (o y7.val)],θ true]) []))))/\
 (false=true->
 ω)/\
 (false=false->
 (((↑(y5.length - 0):Int) != 128)=true->
 ω)/\
 (((↑(y5.length - 0):Int) != 128)=false->
 At (vb m o z) ([aj 0 0,δ 1 0 y5.length,aj 2 0,ε Z 0],[ar η,ξ 5 1 (ints ι y5),ar η])/\
 ∀(y9:{y8:Nat // qh y8}),let aC:=(Z.wrap ((↑y9.val:Int)*16));let b9:=(ay (0+aC.toNat) (ints ι m));(decide ((↑y9.val:Int)<8)=true->
 aB aC/\
 True/\
 aC.toNat<=m.length - 0/\
 bq/\
 16<=0+(m.length - 0) - (0+aC.toNat)/\
 16<=b9.flatten.length/\
 bw (↑y9.val:Int) 8/\
 (↑y9.val:Int).toNat*16+16<=128/\
 Nx (vb m o z) y9 ([aj 0 0,δ 1 0 m.length,aj 2 0,ε Z (Z.wrap ((↑y9.val:Int)+1))],[ar [bB 128 z],bj,ar [bB 128 (splice (o y9.val) ((↑y9.val:Int).toNat*16) (mi (az 16 (ay 0 b9.flatten)) []))]]))/\
 (decide ((↑y9.val:Int)<8)=false->
 K (aw [fF [bB 128 (o y9.val)],θ true]) [])))
 ):aI Tryz.prog XB (Fj m o z 33) 33 [aD (.sl 1 (ints ι l))] [] K:=by apply Eq.mp (a:=an);kernel_rfl
theorem xa:bZ Tryz.prog XB:=dI mixed Nj aG 10
structure lH (i:Int):Prop where
 lo:0<=i
 hi:i<8
def Ah:aE:=fun args kb K=>match args,kb with
 | [aj 0 6,.int Z i,aD (.sl 1 A)],[ar [γ a0,γ a1,γ a2,γ a3,γ a4,γ a5,bB 128 C,γ a7,γ a8,γ a9,γ aJ,γ bc,γ a12,γ aR,γ ο,γ π,γ aV,γ aK,γ aQ,γ aL,γ a20,γ a21]]=>∃ c b:List Int,C=aU ι c/\A=ints ι b/\c.length=128/\(lH i/\b.length=16->K (.int Z 0) [ar [γ a0,γ a1,γ a2,γ a3,γ a4,γ a5,bB 128 (aU ι (splice c (i.toNat*16) b)),γ a7,γ a8,γ a9,γ aJ,γ bc,γ a12,γ aR,γ ο,γ π,γ aV,γ aK,γ aQ,γ aL,γ a20,γ a21]])/\(¬ (lH i/\b.length=16)->K (.int Z 1) [ar [γ a0,γ a1,γ a2,γ a3,γ a4,γ a5,bB 128 (aU ι c),γ a7,γ a8,γ a9,γ aJ,γ bc,γ a12,γ aR,γ ο,γ π,γ aV,γ aK,γ aQ,γ aL,γ a20,γ a21]])
 |_,_=>False
def Ag:aE:=fun args kb K=>match args,kb with
 | [aj 0 6,.int Z i],[ar [γ a0,γ a1,γ a2,γ a3,γ a4,γ a5,bB 128 C,γ a7,γ a8,γ a9,γ aJ,γ bc,γ a12,γ aR,γ ο,γ π,γ aV,γ aK,γ aQ,γ aL,γ a20,γ a21]]=>∃ c:List Int,C=aU ι c/\c.length=128/\(lH i->K (.int Z 0) [ar [γ a0,γ a1,γ a2,γ a3,γ a4,γ a5,bB 128 (aU ι (splice c (i.toNat*16) (dq 16 0))),γ a7,γ a8,γ a9,γ aJ,γ bc,γ a12,γ aR,γ ο,γ π,γ aV,γ aK,γ aQ,γ aL,γ a20,γ a21]])/\(¬ lH i->K (.int Z 1) [ar [γ a0,γ a1,γ a2,γ a3,γ a4,γ a5,bB 128 (aU ι c),γ a7,γ a8,γ a9,γ aJ,γ bc,γ a12,γ aR,γ ο,γ π,γ aV,γ aK,γ aQ,γ aL,γ a20,γ a21]])
 |_,_=>False
def zL:aE:=fun args kb K=>match args,kb with
 | [aj 0 6,.int Z i],[ar [γ a0,γ a1,γ a2,γ a3,γ a4,γ a5,bB 128 C,γ a7,γ a8,γ a9,γ aJ,γ bc,γ a12,γ aR,γ ο,γ π,γ aV,γ aK,γ aQ,γ aL,γ a20,γ a21]]=>∃ c:List Int,C=aU ι c/\c.length=128/\(lH i->K (.υ [.sl 1 0 16,.int Z 0]) [ar [γ a0,γ a1,γ a2,γ a3,γ a4,γ a5,bB 128 (aU ι c),γ a7,γ a8,γ a9,γ aJ,γ bc,γ a12,γ aR,γ ο,γ π,γ aV,γ aK,γ aQ,γ aL,γ a20,γ a21],ξ 5 1 (ints ι ((c.drop (i.toNat*16)).take 16))])/\(¬ lH i->K (.υ [γ (.slice none 0 0),.int Z 1]) [ar [γ a0,γ a1,γ a2,γ a3,γ a4,γ a5,bB 128 (aU ι c),γ a7,γ a8,γ a9,γ aJ,γ bc,γ a12,γ aR,γ ο,γ π,γ aV,γ aK,γ aQ,γ aL,γ a20,γ a21]])
 |_,_=>False
def tp:aE:=fun args kb K=>match args,kb with
 | [aj 0 6],[ar [γ a0,γ a1,γ a2,γ a3,γ a4,γ a5,bB 128 C,γ a7,γ a8,γ a9,γ aJ,γ bc,γ a12,γ aR,γ ο,γ π,γ aV,γ aK,γ aQ,γ aL,γ a20,γ a21]]=>∃ c:List Int,C=aU ι c/\c.length=128/\K (.sl 1 0 128) [ar [γ a0,γ a1,γ a2,γ a3,γ a4,γ a5,bB 128 (aU ι c),γ a7,γ a8,γ a9,γ aJ,γ bc,γ a12,γ aR,γ ο,γ π,γ aV,γ aK,γ aQ,γ aL,γ a20,γ a21],ξ 5 1 (ints ι c)]
 |_,_=>False
theorem Rw:aN Tryz.prog 84 Ah:=dW xa mixed (fun args kb K h=>by
 unfold Ah at h;split at h<;>try exact h.elim
 rename_i i A a0 a1 a2 a3 a4 a5 C a7 a8 a9 aJ bc a12 aR ο π aV aK aQ aL a20 a21
 obtain⟨c,b,rfl,rfl,hl,h1,h2⟩:=h
 refine⟨aG 84,af5 _ _ _ _ _ _ _ _ _ _ _ _ _ _ _ _ _ _ _ _ _ _ _ i K ⟨fun hi=>⟨fun h8=>h2 ?_,fun h8=>⟨fun hb=>h2 ?_,fun hb=>?_⟩⟩,fun hi=>h2 ?_⟩⟩
 ·rintro⟨⟨a1,a2⟩,_⟩;simp at h8;omega
 ·rintro⟨_,fx⟩;simp [bi]at hb;omega
 ·simp only[bi,bne_eq_false_iff_eq]at hb
  have hb:b.length=16:=by omega
  have hi:0<=i:=by simpa using hi
  have h8:i<8:=by simpa using h8
  have k:=h1 ⟨⟨hi,h8⟩,hb⟩
  refine⟨by rw[bi];omega,by rw[x5];simp [aU];omega,by unfold bw;omega,by omega,?_⟩
  have e:splice (aU ι c) (i.toNat*16) (mi (az 16 (ay 0 (ints ι b).flatten)) [])=aU ι (splice c (i.toNat*16) b):=by
   rw[g_,x5,eM (by simp [aU];omega)]
   have:mi (aU ι b) []=aU ι b:=by simp [mi]
   rw[this]
   simp [splice,aU]
  rw[<- e]at k
  exact k
 ·rintro⟨⟨a1,a2⟩,_⟩;simp at hi;omega)
theorem Ru:aN Tryz.prog 85 Ag:=dW xa mixed (fun args kb K h=>by
 unfold Ag at h;split at h<;>try exact h.elim
 rename_i i a0 a1 a2 a3 a4 a5 C a7 a8 a9 aJ bc a12 aR ο π aV aK aQ aL a20 a21
 obtain⟨c,rfl,hl,h1,h2⟩:=h
 refine⟨aG 85,ahB _ _ _ _ _ _ _ _ _ _ _ _ _ _ _ _ _ _ _ _ _ _ i K ⟨fun hi=>⟨fun h8=>h2 ?_,fun h8=>?_⟩,fun hi=>h2 ?_⟩⟩
 ·rintro⟨a1,a2⟩;simp at h8;omega
 ·have hi:0<=i:=by simpa using hi
  have h8:i<8:=by simpa using h8
  have k:=h1 ⟨hi,h8⟩
  refine⟨by unfold bw;omega,by omega,?_⟩
  have e:splice (aU ι c) (i.toNat*16) (dq 16 (ζ (.int ι 0)))=aU ι (splice c (i.toNat*16) (dq 16 0)):=by
   simp [splice,aU]
  rw[<- e]at k
  exact k
 ·rintro⟨a1,a2⟩;simp at hi;omega)
theorem RD {c:List Int} {o n:Nat}:kB (az n (ay o (aU ι c)))=ints ι ((c.drop o).take n):=by
 simp only[kB,aU,ints,List.map_take,List.map_drop,List.map_map];rfl
theorem Q7:aN Tryz.prog 86 zL:=dW xa mixed (fun args kb K h=>by
 unfold zL at h;split at h<;>try exact h.elim
 rename_i i a0 a1 a2 a3 a4 a5 C a7 a8 a9 aJ bc a12 aR ο π aV aK aQ aL a20 a21
 obtain⟨c,rfl,hl,h1,h2⟩:=h
 refine⟨aG 86,af4 _ _ _ _ _ _ _ _ _ _ _ _ _ _ _ _ _ _ _ _ _ _ i K ⟨fun hi=>⟨fun h8=>h2 ?_,fun h8=>?_⟩,fun hi=>h2 ?_⟩⟩
 ·rintro⟨a1,a2⟩;simp at h8;omega
 ·have hi:0<=i:=by simpa using hi
  have h8:i<8:=by simpa using h8
  have k:=h1 ⟨hi,h8⟩
  have hlen:((c.drop (i.toNat*16)).take 16).length=16:=by simp;omega
  simp only[Nat.add_zero,RD,bi,hlen]
  refine⟨by unfold bw;omega,trivial,trivial,by omega,by omega,⟨by omega,trivial⟩,by omega,fun e=>?_,⟨oP⟩,k⟩
  have:=congrArg List.length e
  rw[bi,hlen]at this
  cases this
 ·rintro⟨a1,a2⟩;simp at hi;omega)
theorem IZ:aN Tryz.prog 68 tp:=dW xa mixed (fun args kb K h=>by
 unfold tp at h;split at h<;>try exact h.elim
 obtain⟨c,rfl,hl,h⟩:=h
 refine⟨Mu _ _ _ _ _ _ _ _ _ _ _ _ _ _ _ _ _ _ _ _ _ (aU ι c) (fun k=>ints ι (c.take (16*k))) 68,KJ _ _ _ _ _ _ _ _ _ _ _ _ _ _ _ _ _ _ _ _ _ _ (fun k=>ints ι (c.take (16*k))) K ⟨At.mk' ⟨0,bt _⟩ rfl,?_⟩⟩
 rintro⟨k,hk⟩
 simp only[qh]at hk ⊢
 have e2:((k:Nat):Int).toNat=k:=by omega
 refine⟨fun hc=>?_,fun hc=>?_⟩
 ·simp only[decide_eq_true_eq]at hc
  have w2:=bD (n:=(k:Int)+1) (by omega) (by omega)
  have e3:kB (az 16 (ay 0 (az 16 (ay (k*16) (aU ι c)))))=ints ι ((c.drop (16*k)).take 16):=by
   rw[g_,List.take_take,Nat.min_self,RD,Nat.mul_comm]
  have hlen:((c.drop (16*k)).take 16).length=16:=by simp;omega
  rw[e2,e3,w2,bi,bi,hlen]
  have e4:az (16*k) (ints ι (c.take (16*k)))++ints ι ((c.drop (16*k)).take 16)=ints ι (c.take (16*(k+1))):=by
   rw[eM (by rw[bi,cQ];omega),<- py,Nat.mul_succ,List.take_add]
  refine⟨by unfold bw;omega,by simp [aU];omega,trivial,trivial,by omega,by omega,by omega,by rw[cQ];omega,by omega,?_⟩
  rw[e4]
  exact Nx.mk' (⟨k+1,by show k+1<=8;omega⟩:{k:Nat // qh k}) rfl (by show 8 - (k+1)<8 - k;omega)
 ·simp only[decide_eq_false_iff_not]at hc
  have:k=8:=by omega
  subst this
  rw[eM (by omega)]
  exact h)
abbrev jR:List Int:=dq 128 0
def wX:aE:=fun args kb K=>match args,kb with
 | [aD (.sl 1 A)],[]=>∃ l:List Int,A=ints ι l/\bm l/\l.length<=900000/\(∀ m,fq l=some m->m.length=128->K (.υ [.agg [bB 128 (aU ι m)],θ true]) [])/\((∀ m,fq l=some m->¬ m.length=128)->K (.υ [.agg [bB 128 (aU ι jR)],θ false]) [])
 |_,_=>False
def o5 (m:List Int) (k:Nat):List D:=aU ι (m.take (16*k)++dq (128 - 16*k) 0)
theorem WE {m:List Int} (hm:m.length=128) {k:Nat} (hk:k<8):splice (o5 m k) (k*16) (mi (az 16 (ay 0 (ay (k*16) (ints ι m)).flatten)) [])=o5 m (k+1):=by
 have e1:mi (az 16 (ay 0 (ay (k*16) (ints ι m)).flatten)) []=aU ι ((m.drop (k*16)).take 16):=by
  rw[Bz,x5,g_]
  simp [mi,aU]
 rw[e1]
 have e2:splice (o5 m k) (k*16) (aU ι ((m.drop (k*16)).take 16))=aU ι (splice (m.take (16*k)++dq (128 - 16*k) 0) (k*16) ((m.drop (k*16)).take 16)):=by
  simp [splice,aU,o5]
 rw[e2]
 unfold o5
 congr 1
 unfold splice
 have l1:(m.take (16*k)).length=16*k:=by rw[cQ];omega
 have l2:((m.drop (k*16)).take 16).length=16:=by simp;omega
 have a1:az (k*16) (m.take (16*k)++dq (128 - 16*k) (0:Int))=m.take (16*k):=by
  rw[List.take_append_of_le_length (by omega)];exact eM (by omega)
 have a2:ay (k*16+16) (m.take (16*k)++dq (128 - 16*k) (0:Int))=dq (128 - 16*(k+1)) 0:=by
  rw[List.drop_append,List.drop_of_length_le (by omega),jV,List.drop_replicate,l1];congr 1;omega
 rw[l2,a1,a2,show 16*(k+1)=16*k+16 by omega,List.take_add,show k*16=16*k by omega]
theorem I0:aN Tryz.prog 33 wX:=dW xa mixed (fun args kb K h=>by
 unfold wX at h;split at h<;>try exact h.elim
 obtain⟨l,rfl,hb,hl,h1,h2⟩:=h
 cases ho:fq l with
 |none=>
  refine⟨Fj [] (o5 []) [] 33,Uw l [] (o5 []) [] K ⟨l,rfl,hb,hl,fun _=>⟨fun _=>h2 (fun m hm=>by rw[ho]at hm;cases hm),fun h=>by cases h⟩,fun m hm=>by rw[ho]at hm;cases hm⟩⟩
 |some m=>
  have hml:=Cg ho
  refine⟨Fj m (o5 m) (dq 128 (ζ (.int ι 0))) 33,Uw l m (o5 m) (dq 128 (ζ (.int ι 0))) K ⟨l,rfl,hb,hl,fun h0=>(by rw[ho]at h0;cases h0),fun m' hm=>?_⟩⟩
  rw[ho]at hm;cases hm
  refine⟨fun e=>⟨fun h=>(by cases h),fun _=>⟨fun _=>h2 (fun m' hm'=>?_),fun h=>?_⟩⟩,fun h=>(by cases h),fun _=>⟨fun hn=>h2 (fun m' hm'=>?_),fun hn=>?_⟩⟩
  ·rw[ho]at hm';cases hm'
   rw[e];simp
  ·cases h
  ·rw[ho]at hm';cases hm'
   simp only[lT,bne_iff_ne,ne_eq]at hn;omega
  ·have Bo:m.length=128:=by simp only[lT,bne_eq_false_iff_eq]at hn;omega
   refine⟨At.mk' ⟨0,bt _⟩ rfl,?_⟩
   rintro⟨k,hk⟩
   simp only[qh]at hk ⊢
   refine⟨fun hc=>?_,fun hc=>?_⟩
   ·simp only[decide_eq_true_eq]at hc
    have w1:=bD (n:=(k:Int)*16) (by omega) (by omega)
    have w2:=bD (n:=(k:Int)+1) (by omega) (by omega)
    have e2:((k:Nat):Int).toNat=k:=by omega
    have e3:((k:Int)*16).toNat=k*16:=by omega
    rw[w1,w2,e2,e3]
    simp only[c9,lT]
    rw[WE Bo (by omega)]
    refine⟨by unfold aB;omega,trivial,by omega,by omega,by omega,?_,by unfold bw;omega,by omega,?_⟩
    ·rw[Bz,x5];simp [aU];omega
    ·exact Nx.mk' (⟨k+1,by show k+1<=8;omega⟩:{k:Nat // qh k}) rfl (by show 8 - (k+1)<8 - k;omega)
   ·simp only[decide_eq_false_iff_not]at hc
    have:k=8:=by omega
    subst this
    have e:o5 m 8=aU ι m:=by
     unfold o5
     rw[eM (by omega)];simp
    rw[e]
    exact h1 m ho Bo)
def Fi:FuncId->Option dA
 | 84=>some ⟨[.mj,.mj,.fI 1],Ah⟩
 | 86=>some ⟨[],zL⟩
 | 85=>some ⟨[],Ag⟩
 | 68=>some ⟨[],tp⟩
 | 33=>some ⟨[.fI 1],wX⟩
 |f=>AB f
noncomputable def XD:bJ:=dG Tryz.prog Fi aG 10
theorem af3 (a0 a1 a2 a3 a4 a5 a7 a8 a9 aJ bc a12 aR ο π aV aK aQ aL a20 a21:Value) (c:List D) (K:V->KB->Prop) (an:
 ∃(o6:List Int),c=aU ι o6/\
 o6.length=128/\
 (128<=(ints ι o6).length/\
 True)/\
 ∃(l:List Int),ay 0 (az 128 (ints ι o6))=ints ι l/\
 (∀(c:Int),dS c l->
 0<=c/\
 c<256)/\
 l.length<=900000/\
 ox (ints ι (b_ l)).flatten/\
 K (δ 1 0 (l.length+4)) [ar [γ a0,γ a1,γ a2,γ a3,γ a4,γ a5,bB 128 (aU ι o6),γ a7,γ a8,γ a9,γ aJ,γ bc,γ a12,γ aR,γ ο,γ π,γ aV,γ aK,γ aQ,γ aL,γ a20,γ a21],ξ 5 1 (ints ι (b_ l))]
 ):aI Tryz.prog XD (aG 38) 38 [aj 0 6] [ar [γ a0,γ a1,γ a2,γ a3,γ a4,γ a5,bB 128 c,γ a7,γ a8,γ a9,γ aJ,γ bc,γ a12,γ aR,γ ο,γ π,γ aV,γ aK,γ aQ,γ aL,γ a20,γ a21]] K:=by apply Eq.mp (a:=an);kernel_rfl
theorem af9 (a0 a1 a2 a3 a4 a5 a7 a8 a9 aJ bc a12 aR ο π aV aK aQ aL a20 a21:Value) (c:List D) (K:V->KB->Prop) (an:
 ∃(o6:List Int),c=aU ι o6/\
 o6.length=128/\
 128<=(ints ι o6).length/\
 (1<=1/\
 True)/\
 ∃(ls:List (List Int)),[[ψ 1 (ay 0 (az 128 (ints ι o6)))]]=φ bx ls/\
 (ls.length<=1000000/\
 ∀(l:List Int),dS l ls->
 (∀(c:Int),dS c l->
 0<=c/\
 c<256)/\
 l.length.le 1000000)/\
 True/\
 K (ε ic (dZ ls.flatten)) [ar [γ a0,γ a1,γ a2,γ a3,γ a4,γ a5,bB 128 (aU ι o6),γ a7,γ a8,γ a9,γ aJ,γ bc,γ a12,γ aR,γ ο,γ π,γ aV,γ aK,γ aQ,γ aL,γ a20,γ a21]]
 ):aI Tryz.prog XD (aG 49) 49 [aj 0 6] [ar [γ a0,γ a1,γ a2,γ a3,γ a4,γ a5,bB 128 c,γ a7,γ a8,γ a9,γ aJ,γ bc,γ a12,γ aR,γ ο,γ π,γ aV,γ aK,γ aQ,γ aL,γ a20,γ a21]] K:=by apply Eq.mp (a:=an);kernel_rfl
theorem WD:dF Tryz.prog Fi:=fun f k h=>by
 unfold Fi at h
 split at h
 ·cases h;exact Rw
 ·cases h;exact Q7
 ·cases h;exact Ru
 ·cases h;exact IZ
 ·cases h;exact I0
 ·exact Nj _ _ h
theorem L7:bZ Tryz.prog XD:=dI mixed WD aG 10
def zM:aE:=fun args kb K=>match args,kb with
 | [aj 0 6],[ar [γ a0,γ a1,γ a2,γ a3,γ a4,γ a5,bB 128 C,γ a7,γ a8,γ a9,γ aJ,γ bc,γ a12,γ aR,γ ο,γ π,γ aV,γ aK,γ aQ,γ aL,γ a20,γ a21]]=>∃ c:List Int,C=aU ι c/\c.length=128/\bm c/\K (.sl 1 0 132) [ar [γ a0,γ a1,γ a2,γ a3,γ a4,γ a5,bB 128 (aU ι c),γ a7,γ a8,γ a9,γ aJ,γ bc,γ a12,γ aR,γ ο,γ π,γ aV,γ aK,γ aQ,γ aL,γ a20,γ a21],ξ 5 1 (ints ι (b_ c))]
 |_,_=>False
def wY:aE:=fun args kb K=>match args,kb with
 | [aj 0 6],[ar [γ a0,γ a1,γ a2,γ a3,γ a4,γ a5,bB 128 C,γ a7,γ a8,γ a9,γ aJ,γ bc,γ a12,γ aR,γ ο,γ π,γ aV,γ aK,γ aQ,γ aL,γ a20,γ a21]]=>∃ c:List Int,C=aU ι c/\c.length=128/\bm c/\K (.int ic (dZ c)) [ar [γ a0,γ a1,γ a2,γ a3,γ a4,γ a5,bB 128 (aU ι c),γ a7,γ a8,γ a9,γ aJ,γ bc,γ a12,γ aR,γ ο,γ π,γ aV,γ aK,γ aQ,γ aL,γ a20,γ a21]]
 |_,_=>False
theorem t128 {c:List Int} (h:c.length=128):ay 0 (az 128 (ints ι c))=ints ι c:=by rw[<- h];rw[g_];exact eM (by rw[bi];omega)
theorem Q8:aN Tryz.prog 38 zM:=dW L7 mixed (fun args kb K h=>by
 unfold zM at h;split at h<;>try exact h.elim
 obtain⟨c,rfl,hl,hb,h⟩:=h
 refine⟨aG 38,af3 _ _ _ _ _ _ _ _ _ _ _ _ _ _ _ _ _ _ _ _ _ _ K ⟨c,rfl,hl,⟨by rw[bi];omega,trivial⟩,c,t128 hl,hb,by omega,⟨oP⟩,?_⟩⟩
 rw[hl];exact h)
theorem I1:aN Tryz.prog 49 wY:=dW L7 mixed (fun args kb K h=>by
 unfold wY at h;split at h<;>try exact h.elim
 obtain⟨c,rfl,hl,hb,h⟩:=h
 refine⟨aG 49,af9 _ _ _ _ _ _ _ _ _ _ _ _ _ _ _ _ _ _ _ _ _ _ K ⟨c,rfl,hl,by rw[bi];omega,⟨by decide,trivial⟩,[c],by rw[t128 hl];rfl,⟨by simp,fun x hx=>?_⟩,trivial,?_⟩⟩
 ·cases hx with
  |head=>exact⟨hb,by show c.length<=1000000;omega⟩
  |tail _ hx=>cases hx
 ·rw[Ns];exact h)
end Go.Proofs.YtfcjngcnifdmnaaGreat
set_option linter.unusedSimpArgs false
set_option linter.unusedVariables false
namespace Vc
open Go
open Go.IntKind renaming i64->Z,u8->ι,u32->ic
open Go.Value renaming int->ν,map->kq,oneCell'->lU,bool->nE
open List renaming map->φ,drop->ay,take->az,length_append->bn,getElem?_eq_getElem->bp,getElem?_eq_some_iff->bG,length_map->bX,take_length->cM,length_take->cQ,replicate->dq,mem_append->dM,append_assoc->dO,getElem?_append_left->dP,mem_singleton->dQ,Mem->dS,mem_cons->ey,mem_map->eL,take_of_length_le->eM,getElem?_append_right->eW,mem_of_getElem?->fi,append_nil->fD,getElem?_map->fE,mem_cons_of_mem->fM,length_drop->fQ,getElem?_set_ne->gr,getD_eq_getElem?_getD->gD,getElem?_eq_none->gO,drop_zero->g_,getElem?_take_of_lt->hU,getElem?_set_self->ig,length_singleton->ii,length_set->ir,mem_cons_self->iu,range->iw,mem_append_left->iL,length_cons->iZ,take_add_one->i_,flatten_cons->jm,getElem?_drop->jw,getElem?_of_mem->jx,map_append->jy,nil_append->jV,length_nil->kn,mem_filter->kM,ext_getElem?->lw,eq_nil_of_length_eq_zero->ma,map_cons->mb,mem_append_right->mc
open Nat renaming le_refl->av,zero_le->bt,beq->cp,eq_of_beq_eq_true->cU,zero_add->c9,add_assoc->gE,lor->iy,lt_or_ge->jX,sub_zero->lT,le_trans->mf
open Option renaming some->bb,bind_eq_some_iff->kP,map->mO
open Int renaming toNat_natCast->cP,le_refl->fa
open Bool renaming and_eq_true->km,not_eq_false'->lm,not_eq_true'->lR
def my (f:Nat->Value):List Bool->List V->Nat->Option (List V)
 |true::ms,v::l,i=>match v,my f ms l (i+1)with
  | .arr _ _,_=>none
  |_,some r=>some (.any (f i)::r)
  |_,none=>none
 |false::ms,v::l,i=>match my f ms l (i+1)with
  |some r=>some (v::r)
  |none=>none
 | [],l,_=>some l
 |_:: _,[],_=>some []
def nZ (f:Nat->Value):List Bool->List V->List V->Nat->Option (List (Value×Value)×List V)
 |true::ms,v::l,w::l2,i=>match w,nZ f ms l l2 (i+1)with
  | .any y',some (es,r)=>some ((y',f i)::es,v::r)
  |_,_=>none
 |false::ms,_::l,w::l2,i=>match nZ f ms l l2 (i+1)with
  |some (es,r)=>some (es,w::r)
  |none=>none
 | [],_,l2,_=>some ([],l2)
 |_:: _,[],[],_=>some ([],[])
 |_,_,_,_=>none
def bT:List (Value×Value)->Prop
 | []=>True
 |p::l=>p.1=p.2/\bT l
structure LN (l:List (Value×Value)):Prop where
 h:bT l
abbrev bu (f:Nat->Value) (l:List Nat):Prop:=LN (l.map fun i=>(f i,f i))
def kO (f:Nat->Value) (σ:Sg) (E:EH):List Bool->List V->Nat->Prop
 |true::ms,v::l,i=>((f i).oneCell'=true/\Den σ E v (f i))/\kO f σ E ms l (i+1)
 |false::ms,v::l,i=>kO f σ E ms l (i+1)
 | [],_,_=>True
 |_:: _,[],_=>True
theorem Ig {f g:Nat->Value}:∀{ms:List Bool} {l:List V} {i:Nat},(∀ j,i<=j->f j=g j)->my f ms l i=my g ms l i
 |true::ms,v::l,i,h=>by simp only[my,Ig (ms:=ms) (l:=l) (i:=i+1) (fun j hj=>h j (by omega)),h i (av _)]
 |false::ms,v::l,i,h=>by simp only[my,Ig (ms:=ms) (l:=l) (i:=i+1) (fun j hj=>h j (by omega))]
 | [],l,i,h=>rfl
 |true:: _,[],i,h=>rfl
 |false:: _,[],i,h=>rfl
theorem DL {f g:Nat->Value} {σ:Sg} {E:EH}:∀{ms:List Bool} {l:List V} {i:Nat},(∀ j,i<=j->f j=g j)->kO f σ E ms l i->kO g σ E ms l i
 |true::ms,v::l,i,h,k=>by
  simp only[kO]at k ⊢
  rw[<- h i (av _)]
  exact⟨k.1,DL (fun j hj=>h j (by omega)) k.2⟩
 |false::ms,v::l,i,h,k=>by
  simp only[kO]at k ⊢
  exact DL (fun j hj=>h j (by omega)) k
 | [],l,i,h,k=>by simp only[kO]
 |true:: _,[],i,h,k=>by simp only[kO]
 |false:: _,[],i,h,k=>by simp only[kO]
theorem BT {σ:Sg} {E:EH}:∀{ms:List Bool} {l:List V} {i:Nat} {xs:List Value},aT σ E l xs->∃ f:Nat->Value,(∀ l',my f ms l i=some l'->aT σ E l' xs/\kO f σ E ms l i)
 | [],l,i,xs,hd=>⟨fun _=>undef,fun l' h=>by simp only[my,bb.injEq]at h;subst h;exact⟨hd,by simp only[kO]⟩⟩
 |true:: _,[],i,xs,hd=>⟨fun _=>undef,fun l' h=>by simp only[my,bb.injEq]at h;subst h;exact⟨hd,by simp only[kO]⟩⟩
 |false:: _,[],i,xs,hd=>⟨fun _=>undef,fun l' h=>by simp only[my,bb.injEq]at h;subst h;exact⟨hd,by simp only[kO]⟩⟩
 |false::ms,v::l,i,xs,hd=>by
  obtain⟨ys,zs,rfl,h1,h2⟩:=hd.io
  obtain⟨f,hf⟩:=BT (ms:=ms) (i:=i+1) h2
  refine⟨f,fun l' h=>?_⟩
  simp only[my]at h
  split at h<;>try (cases h;done)
  rename_i r hr
  cases h
  obtain⟨h3,h4⟩:=hf r hr
  exact⟨.cons h1 h3,by simp only[kO];exact h4⟩
 |true::ms,v::l,i,xs,hd=>by
  obtain⟨ys,zs,rfl,h1,h2⟩:=hd.io
  obtain⟨f,hf⟩:=BT (ms:=ms) (i:=i+1) h2
  rcases h1 with ⟨y,rfl,hy,hv⟩ | ⟨m,cs,rfl,_,_⟩
  ·refine⟨fun j=>if j=i then y else f j,fun l' h=>?_⟩
   have hc:∀ j,i+1<=j->(fun j=>if j=i then y else f j) j=f j:=fun j hj=>by dsimp only;rw[if_neg (by omega)]
   simp only[my,Ig hc]at h
   split at h<;>try (cases h;done)
   rename_i _ _ r _ hr
   simp only[if_true,bb.injEq]at h
   subst h
   obtain⟨h3,h4⟩:=hf r hr
   refine⟨aT.jc (by simp [Den]) hy h3,?_⟩
   simp only[kO,if_pos rfl]
   exact⟨⟨hy,hv⟩,DL (fun j hj=>(hc j hj).symm) h4⟩
  ·exact⟨fun _=>undef,fun l' h=>by simp only[my]at h;cases h⟩
theorem KF {f:Nat->Value} {σ τ:Sg} {E E':EH} (hE:E.le E'):∀{ms:List Bool} {l l2:List V} {i:Nat} {es:List (Value×Value)} {r:List V},nZ f ms l l2 i=some (es,r)->bT es->kO f σ E ms l i->∀{xs:List Value},aT (σ++τ) E' l2 xs->aT (σ++τ) E' r xs
 | [],l,l2,i,es,r,h,hs,hm,xs,hd=>by
  simp only[nZ,bb.injEq,Prod.mk.injEq]at h
  rw[<- h.2];exact hd
 |false::ms,v::l,w::l2,i,es,r,h,hs,hm,xs,hd=>by
  simp only[nZ]at h
  split at h<;>try (cases h;done)
  rename_i es' r' hr
  cases h
  simp only[kO]at hm
  obtain⟨ys,zs,rfl,h1,h2⟩:=hd.io
  exact .cons h1 (KF hE hr hs hm h2)
 |true::ms,v::l,w::l2,i,es,r,h,hs,hm,xs,hd=>by
  simp only[nZ]at h
  split at h<;>try (cases h;done)
  rename_i y' es' r' hr
  cases h
  simp only[kO]at hm
  simp only[bT]at hs
  obtain⟨ys,zs,rfl,h1,h2⟩:=hd.io
  rcases h1 with ⟨z,rfl,hz,uc⟩ | ⟨m,cs,e,_,_⟩
  ·simp only[Den]at uc
   subst uc
   rw[hs.1]at*
   exact aT.jc (Den.mono hE hm.1.2) hm.1.1 (KF hE hr hs.2 hm.2 h2)
  ·cases e
 |true:: _,[],[],i,es,r,h,hs,hm,xs,hd=>by
  simp only[nZ,bb.injEq,Prod.mk.injEq]at h
  rw[<- h.2];exact hd
 |false:: _,[],[],i,es,r,h,hs,hm,xs,hd=>by
  simp only[nZ,bb.injEq,Prod.mk.injEq]at h
  rw[<- h.2];exact hd
 |true:: _,[],_:: _,i,es,r,h,hs,hm,xs,hd=>by simp [nZ]at h
 |true:: _,_:: _,[],i,es,r,h,hs,hm,xs,hd=>by simp [nZ]at h
 |false:: _,[],_:: _,i,es,r,h,hs,hm,xs,hd=>by simp [nZ]at h
 |false:: _,_:: _,[],i,es,r,h,hs,hm,xs,hd=>by simp [nZ]at h
def ee (ms:List Bool) (S:aE):aE:=fun args kb K=>match kb with
 | .cells l::r=>∀ f:Nat->Value,match my f ms l 0 with
  |some l'=>yQ S args (.cells l'::r) (fun res bE=>match bE with
   | .cells l2::r2=>match nZ f ms l l2 0 with
    |some (es,l3)=>LN es/\K res (.cells l3::r2)
    |none=>False
   |_=>False)
  |none=>False
 |_=>False
theorem sR {σ:Sg} {l l':List V} {r:KB} {b:Nat} (h:cq σ (.cells l::r) b):cq σ (.cells l'::r) b:=by
 obtain⟨i,q,o,h1,h2,h3⟩:=h
 cases i with
 |zero=>simp at h2;subst h2;exact⟨0,q,.cells l',h1,rfl,h3⟩
 |succ i=>exact⟨i+1,q,o,h1,by simpa using h2,h3⟩
theorem fm {P:Program} {f:FuncId} {S:aE} (hS:aN P f S) (ms:List Bool):aN P f (ee ms S):=fun args kb K h σ E W xs hi hd=>by
 unfold ee at h
 split at h<;>try exact h.elim
 rename_i l r
 have h0:∃ q,σ[0]? =some q:=by
  have:=hi.len
  cases σ with
  |nil=>simp at this
  |cons q σ=>exact⟨q,rfl⟩
 obtain⟨q,hq⟩:=h0
 obtain⟨arr,ty,ha,hl⟩:=hi.obj 0 q _ hq rfl
 obtain⟨f,hf⟩:=BT (ms:=ms) (i:=0) hl
 have h:=h f
 split at h<;>try exact h.elim
 rename_i l' hl'
 obtain⟨h1,h2⟩:=hf l' hl'
 have h3:=h
 have hi':Inv σ E (.cells l'::r) W:=by
  refine⟨by simpa using hi.len,fun i q' o k1 k2=>?_,fun i j q1 q2 o o' b hij k1 k2 k3 k4 k5 k6=>?_,hi.dj,fun b hb=>hi.sep b (sR hb)⟩
  ·cases i with
   |zero=>
    simp at k2;subst k2
    rw[hq]at k1;cases k1
    exact⟨arr,ty,ha,h1⟩
   |succ i=>exact hi.obj (i+1) q' o k1 (by simpa using k2)
  ·have key:∀(i:Nat) (o:KO) (q:Re),(KO.cells l'::r)[i]? =some o->owned q o b->∃ o2,(KO.cells l::r)[i]? =some o2/\owned q o2 b:=fun i o q h2 h5=>by
    cases i with
    |zero=>simp at h2;subst h2;exact⟨_,rfl,h5⟩
    |succ i=>exact⟨o,by simpa using h2,h5⟩
   obtain⟨o2,g1,g2⟩:=key i o q1 k2 k5
   obtain⟨o3,g3,g4⟩:=key j o' q2 k4 k6
   exact hi.dx i j q1 q2 o2 o3 b hij k1 g1 k3 g3 g2 g4
 refine(CX hS h3 hi' hd).mono ?_
 rintro e W' ⟨v,res,σ',E',bE,rfl,hst,eG,hK⟩
 split at hK<;>try exact hK.elim
 rename_i l2 r2
 obtain⟨τ,rfl⟩:=hst.pre
 have pp:(σ++τ)[0]? =some q:=gk hq
 obtain⟨Wj,Uo,YH,hl2⟩:=hst.inv.obj 0 q _ pp rfl
 split at hK<;>try exact hK.elim
 rename_i es l3 hun
 obtain⟨hsame,h5⟩:=hK
 have h4:=KF hst.le hun hsame.h h2 hl2
 refine⟨v,res,σ++τ,E',.cells l3::r2,rfl,⟨?_,⟨hst.bQ.os,hst.bQ.tape,hst.bQ.output,hst.bQ.size,fun k hk hn=>hst.bQ.block k hk (fun ho=>hn (sR ho))⟩,⟨τ,rfl⟩,hst.le,fun b hb=>?_,fun b o hb=>?_⟩,eG,h5⟩
 ·refine⟨by simpa using hst.inv.len,fun i q' o k1 k2=>?_,fun i j q1 q2 o o' b hij k1 k2 k3 k4 k5 k6=>?_,hst.inv.dj,fun b hb=>hst.inv.sep b (sR hb)⟩
  ·cases i with
   |zero=>
    simp at k2;subst k2
    rw[pp]at k1;cases k1
    exact⟨Wj,Uo,YH,h4⟩
   |succ i=>exact hst.inv.obj (i+1) q' o k1 (by simpa using k2)
  ·have key:∀(i:Nat) (o:KO) (q:Re),(KO.cells l3::r2)[i]? =some o->owned q o b->∃ o2,(KO.cells l2::r2)[i]? =some o2/\owned q o2 b:=fun i o q h2 h5=>by
    cases i with
    |zero=>simp at h2;subst h2;exact⟨_,rfl,h5⟩
    |succ i=>exact⟨o,by simpa using h2,h5⟩
   obtain⟨o2,g1,g2⟩:=key i o q1 k2 k5
   obtain⟨o3,g3,g4⟩:=key j o' q2 k4 k6
   exact hst.inv.dx i j q1 q2 o2 o3 b hij k1 g1 k3 g3 g2 g4
 ·rcases hst.own b (sR hb)with k | k
  ·exact .inl (sR k)
  ·exact .inr k
 ·rcases hst.new b o hb with k | k | k
  ·exact .inl k
  ·exact .inr (.inl (sR k))
  ·exact .inr (.inr k)
end Vc
set_option linter.unusedSimpArgs false
set_option linter.unusedVariables false
namespace Vc
open Go Go.Shelf Go.RowKit Go.Proofs Go.Lib
open Go.IntKind renaming i64->Z,u8->ι,u32->ic
open Go.Value renaming int->ν,map->kq,oneCell'->lU,bool->nE
open List renaming map->φ,drop->ay,take->az,length_append->bn,getElem?_eq_getElem->bp,getElem?_eq_some_iff->bG,length_map->bX,take_length->cM,length_take->cQ,replicate->dq,mem_append->dM,append_assoc->dO,getElem?_append_left->dP,mem_singleton->dQ,Mem->dS,mem_cons->ey,mem_map->eL,take_of_length_le->eM,getElem?_append_right->eW,mem_of_getElem?->fi,append_nil->fD,getElem?_map->fE,mem_cons_of_mem->fM,length_drop->fQ,getElem?_set_ne->gr,getD_eq_getElem?_getD->gD,getElem?_eq_none->gO,drop_zero->g_,getElem?_take_of_lt->hU,getElem?_set_self->ig,length_singleton->ii,length_set->ir,mem_cons_self->iu,range->iw,mem_append_left->iL,length_cons->iZ,take_add_one->i_,flatten_cons->jm,getElem?_drop->jw,getElem?_of_mem->jx,map_append->jy,nil_append->jV,length_nil->kn,mem_filter->kM,ext_getElem?->lw,eq_nil_of_length_eq_zero->ma,map_cons->mb,mem_append_right->mc
open Nat renaming le_refl->av,zero_le->bt,beq->cp,eq_of_beq_eq_true->cU,zero_add->c9,add_assoc->gE,lor->iy,lt_or_ge->jX,sub_zero->lT,le_trans->mf
open Option renaming some->bb,bind_eq_some_iff->kP,map->mO
open Int renaming toNat_natCast->cP,le_refl->fa
open Bool renaming and_eq_true->km,not_eq_false'->lm,not_eq_true'->lR
def zS (ty:TypeId):aE:=fun args kb K=>match args,kb with
 | [.any (.slice none 0 0),.int Z n],[]=>0<=n/\n<=1000000/\K (.sl 0 0 0) [.row ty 1 []]
 |_,_=>False
theorem abD {P:Program} {ρ:Ren} (L:Lays8.n4 P ρ) (i0:TypeInfo) (z:Value) (hi0:P.info? (ρ.t 25)=some i0) (hz0:i0.zero=some z) (hs0:i0.size=1) (hb0:i0.bytes=8) (ub:z.cells.size=1):aN P (ρ.f 4) (zS (ρ.t 25)):=fun args kb K h σ E W xs hi hd=>by
 unfold zS at h
 split at h<;>try exact h.elim
 rename_i n
 obtain⟨h0,h1,h⟩:=h
 simp only[aq,Den]at hd
 obtain⟨x,xs',rfl,rfl,x2,UX,rfl,rfl,rfl⟩:=hd
 obtain⟨m,rfl⟩:∃ m:Nat,n=(m:Int):=⟨n.toNat,by omega⟩
 have hlen:σ.length=0:=hi.len
 rcases Nat.eq_zero_or_pos m with hm | hm
 ·subst hm
  refine(Any8.slices_Grow_room L none 0 0 0 W (av _) (by omega) (by omega) (by omega)).mono ?_
  rintro e W' ⟨rfl,rfl⟩
  have hgrow:=hi.grow (W':=W') ⟨0,0,1⟩ (.row (ρ.t 25) 1 []) rfl rfl rfl (av _) (fun _ _=>rfl) (fun b hb=>absurd rfl hb.1) ⟨rfl,wl.nil,av _,bt _,.inl rfl⟩
  refine⟨_,.sl 0 0 0,_,E,_,rfl,hgrow,?_,h⟩
  simp only[Den]
  exact⟨⟨0,0,1⟩,none,by rw[eW (by omega),hlen];rfl,rfl,av _,av _,fun f=>absurd f (Nat.lt_irrefl _)⟩
 ·have hG:=Any8.slices_Grow_grow L i0 z hi0 hz0 (by omega) none 0 0 m [] W (av _) (by omega) (by rw[hb0];omega) (by omega) (by simp) (fun _=>rfl) (fun a f=>by cases f)
  refine hG.mono ?_
  rintro e W' ⟨rfl,rfl⟩
  have hge:0+m<=grownCap W (0+m) 0 (ρ.t 25):=grownCap_ge W _ _ _
  have hle:=grownCap_le_maxLen W (0+m) 0 (ρ.t 25) (by simp only[maxLen];omega)
  have hheap:∀ o:Obj,(W.drew.alloc o).heap=W.heap.push o:=fun _=>rfl
  have hgrow:=hi.grow (W':=W.drew.alloc (.cells (([]:List Value).toArray++Builtin.zeroCells z.cells (0+m - 0)++Builtin.zeroCells z.cells (grownCap W (0+m) 0 (ρ.t 25) - (0+m))) (ρ.t 25)))
   ⟨W.heap.size,grownCap W (0+m) 0 (ρ.t 25),1⟩ (.row (ρ.t 25) 1 []) rfl rfl rfl (by rw[hheap,Array.size_push];omega) (fun k hk=>by rw[hheap,Array.getElem?_push_lt hk,Array.getElem?_eq_getElem hk]) (fun b hb=>by have:=hb.2;simp only at this;omega)
   ⟨rfl,wl.nil,bt _,hle,.inr ⟨_,(MapKept.heap_alloc W.drew _).1,by simp only[Array.size_append,List.size_toArray,size_zeroCells,ub,kn];omega,by simp [a_]⟩⟩
  refine⟨_,.sl 0 0 0,_,E,_,rfl,hgrow,?_,h⟩
  simp only[Den]
  exact⟨⟨W.heap.size,grownCap W (0+m) 0 (ρ.t 25),1⟩,some ⟨W.heap.size,0,none⟩,by rw[eW (by omega),hlen];rfl,rfl,av _,bt _,fun _=>by simp⟩
end Vc
namespace Go.Proofs.YtfcjngcnifdmnaaGreat
open Go.Shelf
open Go.IntKind renaming i64->Z,u8->ι,u32->ic
open Vc.V renaming any->γ,sl->δ,int->ε,sb->θ,ptr->aj,υ->aw,dat->aD,aa->aP,mp->aX,arr->bB,agg->fF
open Vc.D renaming val->ζ,sl->ψ
open Go.Value renaming int->ν,map->kq,oneCell'->lU,bool->nE
open Vc.KO renaming row->ξ,dead->χ,cells->ar,objs->cD
open List renaming map->φ,drop->ay,take->az,length_append->bn,getElem?_eq_getElem->bp,getElem?_eq_some_iff->bG,length_map->bX,take_length->cM,length_take->cQ,replicate->dq,mem_append->dM,append_assoc->dO,getElem?_append_left->dP,mem_singleton->dQ,Mem->dS,mem_cons->ey,mem_map->eL,take_of_length_le->eM,getElem?_append_right->eW,mem_of_getElem?->fi,append_nil->fD,getElem?_map->fE,mem_cons_of_mem->fM,length_drop->fQ,getElem?_set_ne->gr,getD_eq_getElem?_getD->gD,getElem?_eq_none->gO,drop_zero->g_,getElem?_take_of_lt->hU,getElem?_set_self->ig,length_singleton->ii,length_set->ir,mem_cons_self->iu,range->iw,mem_append_left->iL,length_cons->iZ,take_add_one->i_,flatten_cons->jm,getElem?_drop->jw,getElem?_of_mem->jx,map_append->jy,nil_append->jV,length_nil->kn,mem_filter->kM,ext_getElem?->lw,eq_nil_of_length_eq_zero->ma,map_cons->mb,mem_append_right->mc
open Nat renaming le_refl->av,zero_le->bt,beq->cp,eq_of_beq_eq_true->cU,zero_add->c9,add_assoc->gE,lor->iy,lt_or_ge->jX,sub_zero->lT,le_trans->mf
open Option renaming some->bb,bind_eq_some_iff->kP,map->mO
open Int renaming toNat_natCast->cP,le_refl->fa
open Bool renaming and_eq_true->km,not_eq_false'->lm,not_eq_true'->lR
def OB:Go.Shelf.Ren:=⟨fun | 4=>100 | n=>n,fun | 22=>38 | 25=>3 | 3=>3 | 4=>4 | 9=>9 | 20=>20 | 0=>0 | n=>n,fun | n=>n⟩
theorem Yl:Go.Proofs.Lays8.n4 Tryz.prog OB:={
 mixed:=by kernel_rfl
 f4:=⟨Tryz.f100.name,by decide,Tryz.func100.trans (congrArg some (by kernel_rfl))⟩
 t0:=Tryz.underlying0
 a0:=Tryz.isAgg0
 z0:=Tryz.sizeOf0
 v0:=Tryz.zeroValue0
 t3:=Tryz.underlying3
 a3:=Tryz.isAgg3
 z3:=Tryz.sizeOf3
 v3:=Tryz.zeroValue3
 t4:=Tryz.underlying4
 a4:=Tryz.isAgg4
 z4:=Tryz.sizeOf4
 v4:=Tryz.zeroValue4
 t9:=Tryz.underlying9
 a9:=Tryz.isAgg9
 z9:=Tryz.sizeOf9
 v9:=Tryz.zeroValue9
 t20:=Tryz.underlying20
 a20:=Tryz.isAgg20
 z20:=Tryz.sizeOf20
 v20:=Tryz.zeroValue20
 t22:=Tryz.underlying38
 a22:=Tryz.isAgg38
 z22:=Tryz.sizeOf38
 v22:=Tryz.zeroValue38 }
theorem abC:Vc.aN Tryz.prog 100 (Vc.zS 3):=Vc.abD (ρ:=OB) Yl ((Tryz.prog.info? 3).get (by kernel_rfl)) (.int Z 0) (by kernel_rfl) (by kernel_rfl) (by kernel_rfl) (by kernel_rfl) rfl
end Go.Proofs.YtfcjngcnifdmnaaGreat
namespace Go.Proofs.YtfcjngcnifdmnaaGreat
open Vc Go
open Go.IntKind renaming i64->Z,u8->ι,u32->ic
open Vc.V renaming any->γ,sl->δ,int->ε,sb->θ,ptr->aj,υ->aw,dat->aD,aa->aP,mp->aX,arr->bB,agg->fF
open Vc.D renaming val->ζ,sl->ψ
open Go.Value renaming int->ν,map->kq,oneCell'->lU,bool->nE
open Vc.KO renaming row->ξ,dead->χ,cells->ar,objs->cD
open List renaming map->φ,drop->ay,take->az,length_append->bn,getElem?_eq_getElem->bp,getElem?_eq_some_iff->bG,length_map->bX,take_length->cM,length_take->cQ,replicate->dq,mem_append->dM,append_assoc->dO,getElem?_append_left->dP,mem_singleton->dQ,Mem->dS,mem_cons->ey,mem_map->eL,take_of_length_le->eM,getElem?_append_right->eW,mem_of_getElem?->fi,append_nil->fD,getElem?_map->fE,mem_cons_of_mem->fM,length_drop->fQ,getElem?_set_ne->gr,getD_eq_getElem?_getD->gD,getElem?_eq_none->gO,drop_zero->g_,getElem?_take_of_lt->hU,getElem?_set_self->ig,length_singleton->ii,length_set->ir,mem_cons_self->iu,range->iw,mem_append_left->iL,length_cons->iZ,take_add_one->i_,flatten_cons->jm,getElem?_drop->jw,getElem?_of_mem->jx,map_append->jy,nil_append->jV,length_nil->kn,mem_filter->kM,ext_getElem?->lw,eq_nil_of_length_eq_zero->ma,map_cons->mb,mem_append_right->mc
open Nat renaming le_refl->av,zero_le->bt,beq->cp,eq_of_beq_eq_true->cU,zero_add->c9,add_assoc->gE,lor->iy,lt_or_ge->jX,sub_zero->lT,le_trans->mf
open Option renaming some->bb,bind_eq_some_iff->kP,map->mO
open Int renaming toNat_natCast->cP,le_refl->fa
open Bool renaming and_eq_true->km,not_eq_false'->lm,not_eq_true'->lR
set_option linter.unusedVariables false
set_option linter.unusedSimpArgs false
set_option maxRecDepth 100000
def kx (Ls:List (List Int)):List (List D):=Ls.map fun l=>[ψ 1 (ints Z l)]
def ga (Ls:List (List Int)) (i:Nat):List Int:=(Ls.take i).flatten
abbrev Fy (Ls:List (List Int)):LI where
 α:={i:Nat // i<=Ls.length}
 live:=[0,3,9,10,11]
 st i:=([aD (.sl 1 (kx Ls)),.int Z ((ga Ls i.1).length:Int),aD (.sl 1 (kx Ls)),.int Z (Ls.length:Int),.int Z (i.1:Int)],[])
 μ i:=Ls.length - i.1
abbrev Fz (Ls:List (List Int)):LI where
 α:={i:Nat // i<=Ls.length}
 live:=[6,25,26,27]
 st i:=([.sl 0 0 (ga Ls i.1).length,aD (.sl 1 (kx Ls)),.int Z (Ls.length:Int),.int Z (i.1:Int)],[ξ 3 1 (ints Z (ga Ls i.1))])
 μ i:=Ls.length - i.1
def M_ (Ls:List (List Int)):FuncId->Nat->Option LI
 | 73,3=>some (Fy Ls)
 | 73,11=>some (Fz Ls)
 |_,_=>none
def GQ:FuncId->Option dA
 | 100=>some ⟨[],zS 3⟩
 |_=>none
noncomputable def Md:bJ:=dG Tryz.prog GQ aG 10
def kr (p:Int->Bool) (l:List Int):Int:=match l.findIdx? p with | some i=>(i:Int) | none=>-1
abbrev BF (p:Int->Bool) (l:List Int) (v g:V) (B:KB):LI where
 α:={i:Nat // i<=l.length/\∀ j n,j<i->l[j]? =some n->p n=false}
 live:=[0,1,7,8]
 st i:=([v,g,.int Z (l.length:Int),.int Z (i.1:Int)],B)
 μ i:=l.length - i.1
def HO (p:Int->Bool) (l:List Int) (v g:V) (B:KB):FuncId->Nat->Option LI
 | 99,2=>some (BF p l v g B)
 |_,_=>none
def m6 (me:Int) (n:Int):Bool:=n == me
def nM (M:ML) (n:Int):Bool:=!ij M [n] 0
def df (n:Int):Bool:=decide (n<0∨1099511627776<n)
structure lp (M:ML):Prop where
 h:∀ k cs,bH M k=some cs->∃ b,cs=[.val (.bool b)]
structure dE (n:Nat):Prop where
 h:n<=100000
def D3:aE:=fun args kb K=>match args,kb with
 | [aD (.sl 1 A)],[]=>∃ Ls,A=kx Ls/\dE Ls.length/\dE (ga Ls Ls.length).length/\K (.sl 0 0 (ga Ls Ls.length).length) [ξ 3 1 (ints Z (ga Ls Ls.length))]
 |_,_=>False
def D_:aE:=fun args kb K=>match args,kb with
 | [.sl 0 0 n,.fn 74 [aj 1 0]],[ξ 3 1 A,ar [aj 2 0],ar [.int Z me,γ a1,γ a2,γ a3,γ a4,γ a5,bB 128 C,γ a7,γ a8,γ a9,γ aJ,aD (.sl 1 M),aD (.sl 1 J),γ aR,γ ο,γ π,γ aV,γ aK,γ aQ,γ aL,γ a20,γ a21]]=>∃ l,A=ints Z l/\n<=l.length/\dE l.length/\K (.int Z (kr (m6 me) (l.take n))) [ξ 3 1 (ints Z l),ar [aj 2 0],ar [.int Z me,γ a1,γ a2,γ a3,γ a4,γ a5,bB 128 C,γ a7,γ a8,γ a9,γ aJ,aD (.sl 1 M),aD (.sl 1 J),γ aR,γ ο,γ π,γ aV,γ aK,γ aQ,γ aL,γ a20,γ a21]]
 | [.sl 0 0 n,.fn 71 [aj 1 0]],[ξ 3 1 A,ar [.mp 2],.mp [Z] false false 1 M]=>∃ l,A=ints Z l/\n<=l.length/\dE l.length/\lp M/\K (.int Z (kr (nM M) (l.take n))) [ξ 3 1 (ints Z l),ar [.mp 2],.mp [Z] false false 1 M]
 | [aD (.sl 1 A),.fn 92 []],[]=>∃ l,A=ints Z l/\dE l.length/\K (.int Z (kr df l)) []
 |_,_=>False
def iS (me:Int) (l:List Int):List Int:=l.filter fun x=> !(x == me)
def vH (me:Int) (l:List Int):List Int:=iS me l++dq (l.length - (iS me l).length) 0
abbrev NP (a1 a2 a3 a4 a5 a7 a8 a9 aJ aR ο π aV aK aQ aL a20 a21:Value) (C:List D) (M J:List (List D)) (me:Int) (l:List Int):LI where
 α:={j:Nat // j<=l.length/\(iS me (l.take j)).length<j}
 live:=[0,1,5,6]
 st j:=([.sl 0 0 l.length,.fn 74 [aj 1 0],.int Z ((iS me (l.take j.1)).length:Int),.int Z (j.1:Int)],[ξ 3 1 (ints Z (iS me (l.take j.1)++l.drop (iS me (l.take j.1)).length)),ar [aj 2 0],ar [.int Z me,γ a1,γ a2,γ a3,γ a4,γ a5,bB 128 C,γ a7,γ a8,γ a9,γ aJ,aD (.sl 1 M),aD (.sl 1 J),γ aR,γ ο,γ π,γ aV,γ aK,γ aQ,γ aL,γ a20,γ a21]])
 μ j:=l.length - j.1
def XA (a1 a2 a3 a4 a5 a7 a8 a9 aJ aR ο π aV aK aQ aL a20 a21:Value) (C:List D) (M J:List (List D)) (me:Int) (l:List Int):FuncId->Nat->Option LI
 | 72,5=>some (NP a1 a2 a3 a4 a5 a7 a8 a9 aJ aR ο π aV aK aQ aL a20 a21 C M J me l)
 |_,_=>none
def D6:aE:=fun args kb K=>match args,kb with
 | [.sl 0 0 n,.fn 74 [aj 1 0]],[ξ 3 1 A,ar [aj 2 0],ar [.int Z me,γ a1,γ a2,γ a3,γ a4,γ a5,bB 128 C,γ a7,γ a8,γ a9,γ aJ,aD (.sl 1 M),aD (.sl 1 J),γ aR,γ ο,γ π,γ aV,γ aK,γ aQ,γ aL,γ a20,γ a21]]=>∃ l,A=ints Z l/\n=l.length/\dE l.length/\K (.sl 0 0 (iS me l).length) [ξ 3 1 (ints Z (vH me l)),ar [aj 2 0],ar [.int Z me,γ a1,γ a2,γ a3,γ a4,γ a5,bB 128 C,γ a7,γ a8,γ a9,γ aJ,aD (.sl 1 M),aD (.sl 1 J),γ aR,γ ο,γ π,γ aV,γ aK,γ aQ,γ aL,γ a20,γ a21]]
 |_,_=>False
def Ch:FuncId->Option dA
 | 73=>some ⟨[.fI 1],D3⟩
 | 99=>some ⟨[],D_⟩
 |_=>none
noncomputable def Ap:bJ:=dG Tryz.prog Ch aG 10
def Jd:FuncId->Option dA
 | 72=>some ⟨[],D6⟩
 |f=>Ch f
noncomputable def Ml:bJ:=dG Tryz.prog Jd aG 10
def bz (me:Int) (m j:List Int):List Int:=iS me (m++j)
def ia (me:Int) (m j:List Int):List Int:=vH me (m++j)
def uY:aE:=fun args kb K=>match args,kb with
 | [aj 0 0],[ar [.int Z me,γ a1,γ a2,γ a3,γ a4,γ a5,bB 128 C,γ a7,γ a8,γ a9,γ aJ,aD (.sl 1 M),aD (.sl 1 J),γ aR,γ ο,γ π,γ aV,γ aK,γ aQ,γ aL,γ a20,γ a21]]=>∃ m j:List Int,M=ints Z m/\J=ints Z j/\dE (m.length+j.length)/\K (.sl 1 0 (bz me m j).length) [ar [.int Z me,γ a1,γ a2,γ a3,γ a4,γ a5,bB 128 C,γ a7,γ a8,γ a9,γ aJ,aD (.sl 1 M),aD (.sl 1 J),γ aR,γ ο,γ π,γ aV,γ aK,γ aQ,γ aL,γ a20,γ a21],ξ 3 1 (ints Z (ia me m j))]
 |_,_=>False
def zP:aE:=fun args kb K=>match args,kb with
 | [.sl 0 0 n,.fn 71 [aj 1 0]],[ξ 3 1 A,ar [.mp 2],.mp [Z] false false 1 M]=>∃ l,A=ints Z l/\n<=l.length/\dE l.length/\lp M/\K (θ ((l.take n).any (nM M))) [ξ 3 1 (ints Z l),ar [.mp 2],.mp [Z] false false 1 M]
 | [aD (.sl 1 A),.fn 92 []],[]=>∃ l,A=ints Z l/\dE l.length/\K (θ (l.any df)) []
 |_,_=>False
theorem agj (Ls:List (List Int)) (K:V->KB->Prop) (an:
 let ω:=ε Z (↑(kx Ls).length:Int);At (Fy Ls) ([aD (ψ 1 (kx Ls)),ε Z 0,aD (ψ 1 (kx Ls)),ω,ε Z 0],[])/\
 ∀(i:{i:Nat // i<=Ls.length }),(decide ((↑i.val:Int)<(↑Ls.length:Int))=true->
 aB (↑i.val:Int)/\
 ∃(e:List D),(kx Ls)[(↑i.val:Int).toNat]? =some e/\
 ∃(l:List (List D)),e[0]? =some (ψ 1 l)/\
 (decide (Z.wrap ((↑(ga Ls i.val).length:Int)+(↑l.length:Int))<0)=true->
 False)/\
 (decide (Z.wrap ((↑(ga Ls i.val).length:Int)+(↑l.length:Int))<0)=false->
 Nx (Fy Ls) i ([aD (ψ 1 (kx Ls)),ε Z (Z.wrap ((↑(ga Ls i.val).length:Int)+(↑l.length:Int))),aD (ψ 1 (kx Ls)),ε Z (↑Ls.length:Int),ε Z (Z.wrap ((↑i.val:Int)+1))],[])))/\
 (decide ((↑i.val:Int)<(↑Ls.length:Int))=false->
 0<=(↑(ga Ls i.val).length:Int)/\
 (↑(ga Ls i.val).length:Int)<=1000000/\
 At (Fz Ls) ([δ 0 0 0,aD (ψ 1 (kx Ls)),ω,ε Z 0],[ξ 3 1 []])/\
 ∀(i:{i:Nat // i<=Ls.length }),let η:=(ints Z (ga Ls i.val));(decide ((↑i.val:Int)<(↑Ls.length:Int))=true->
 aB (↑i.val:Int)/\
 ∃(e:List D),(kx Ls)[(↑i.val:Int).toNat]? =some e/\
 ∃(l:List (List D)),e[0]? =some (ψ 1 l)/\
 True/\
 (ga Ls i.val).length<=η.length/\
 ((ga Ls i.val).length+l.length)*8<=140737488355328/\
 Nx (Fz Ls) i ([δ 0 0 ((ga Ls i.val).length+l.length),aD (ψ 1 (kx Ls)),ε Z (↑Ls.length:Int),ε Z (Z.wrap ((↑i.val:Int)+1))],[ξ 3 1 (az (ga Ls i.val).length η++l)]))/\
 (decide ((↑i.val:Int)<(↑Ls.length:Int))=false->
 K (δ 0 0 (ga Ls i.val).length) [ξ 3 1 η]))
 ):aI Tryz.prog Md (M_ Ls 73) 73 [aD (.sl 1 (kx Ls))] [] K:=by apply Eq.mp (a:=an);kernel_rfl
theorem agF (a1 a2 a3 a4 a5 a7 a8 a9 aJ aR ο π aV aK aQ aL a20 a21:Value) (C:List D) (M J:List (List D)) (p:Int->Bool) (l ln:List Int) (n:Nat) (me:Int) (K:V->KB->Prop) (an:
 let η:KB:=[ξ 3 1 (ints Z l),ar [aj 2 0],ar [ε Z me,γ a1,γ a2,γ a3,γ a4,γ a5,bB 128 C,γ a7,γ a8,γ a9,γ aJ,aD (ψ 1 M),aD (ψ 1 J),γ aR,γ ο,γ π,γ aV,γ aK,γ aQ,γ aL,γ a20,γ a21]];let ω:=(BF p ln (δ 0 0 n) (V.fn 74 [aj 1 0]) η);At ω ([δ 0 0 n,V.fn 74 [aj 1 0],ε Z (↑(n - 0):Int),ε Z 0],η)/\
 ∀(i:{i:Nat // i<=ln.length/\
 ∀(j:Nat) (n:Int),j<i->
 ln[j]? =some n->
 p n=false }),(decide ((↑i.val:Int)<(↑ln.length:Int))=true->
 bw (↑i.val:Int) (n - 0)/\
 ∃(e:List D),(ints Z l)[0+(↑i.val:Int).toNat]? =some e/\
 ∃(n_1:Int),e[0]? =some (ζ (ν Z n_1))/\
 ((n_1 == me)=true->
 K (ε Z (↑i.val:Int)) η)/\
 ((n_1 == me)=false->
 Nx ω i ([δ 0 0 n,V.fn 74 [aj 1 0],ε Z (↑ln.length:Int),ε Z (Z.wrap ((↑i.val:Int)+1))],η)))/\
 (decide ((↑i.val:Int)<(↑ln.length:Int))=false->
 K (ε Z (-1)) η)
 ):aI Tryz.prog X0 (HO p ln (.sl 0 0 n) (.fn 74 [aj 1 0]) [ξ 3 1 (ints Z l),ar [aj 2 0],ar [.int Z me,γ a1,γ a2,γ a3,γ a4,γ a5,bB 128 C,γ a7,γ a8,γ a9,γ aJ,aD (.sl 1 M),aD (.sl 1 J),γ aR,γ ο,γ π,γ aV,γ aK,γ aQ,γ aL,γ a20,γ a21]] 99) 99 [.sl 0 0 n,.fn 74 [aj 1 0]] [ξ 3 1 (ints Z l),ar [aj 2 0],ar [.int Z me,γ a1,γ a2,γ a3,γ a4,γ a5,bB 128 C,γ a7,γ a8,γ a9,γ aJ,aD (.sl 1 M),aD (.sl 1 J),γ aR,γ ο,γ π,γ aV,γ aK,γ aQ,γ aL,γ a20,γ a21]] K:=by apply Eq.mp (a:=an);kernel_rfl
theorem agG (p:Int->Bool) (l ln:List Int) (n:Nat) (M:ML) (K:V->KB->Prop) (an:
 let η:KB:=[ξ 3 1 (ints Z l),ar [aX 2],KO.mp [Z] false false 1 M];let ω:=(BF p ln (δ 0 0 n) (V.fn 71 [aj 1 0]) η);At ω ([δ 0 0 n,V.fn 71 [aj 1 0],ε Z (↑(n - 0):Int),ε Z 0],η)/\
 ∀(i:{i:Nat // i<=ln.length/\
 ∀(j:Nat) (n:Int),j<i->
 ln[j]? =some n->
 p n=false }),(decide ((↑i.val:Int)<(↑ln.length:Int))=true->
 bw (↑i.val:Int) (n - 0)/\
 ∃(e:List D),(ints Z l)[0+(↑i.val:Int).toNat]? =some e/\
 ∃(n_1:Int),e[0]? =some (ζ (ν Z n_1))/\
 (∀(cs:List D),bH M [n_1]=some cs->
 gp [CK.bool] cs)/\
 ((!ij M [n_1] 0)=true->
 K (ε Z (↑i.val:Int)) η)/\
 ((!ij M [n_1] 0)=false->
 Nx ω i ([δ 0 0 n,V.fn 71 [aj 1 0],ε Z (↑ln.length:Int),ε Z (Z.wrap ((↑i.val:Int)+1))],η)))/\
 (decide ((↑i.val:Int)<(↑ln.length:Int))=false->
 K (ε Z (-1)) η)
 ):aI Tryz.prog X0 (HO p ln (.sl 0 0 n) (.fn 71 [aj 1 0]) [ξ 3 1 (ints Z l),ar [.mp 2],.mp [Z] false false 1 M] 99) 99 [.sl 0 0 n,.fn 71 [aj 1 0]] [ξ 3 1 (ints Z l),ar [.mp 2],.mp [Z] false false 1 M] K:=by apply Eq.mp (a:=an);kernel_rfl
theorem agH (p:Int->Bool) (l:List Int) (K:V->KB->Prop) (an:
 let η:=(ψ 1 (ints Z l));let au:=(BF p l (aD η) (V.fn 92 []) []);At au ([aD η,V.fn 92 [],ε Z (↑(ints Z l).length:Int),ε Z 0],[])/\
 ∀(i:{i:Nat // i<=l.length/\
 ∀(j:Nat) (n:Int),j<i->
 l[j]? =some n->
 p n=false }),let ω:=K (ε Z (↑i.val:Int)) [];(decide ((↑i.val:Int)<(↑l.length:Int))=true->
 aB (↑i.val:Int)/\
 ∃(e:List D),(ints Z l)[(↑i.val:Int).toNat]? =some e/\
 ∃(n:Int),e[0]? =some (ζ (ν Z n))/\
 (decide (n<0)=true->
 ω)/\
 (decide (n<0)=false->
 (decide (n > 1099511627776)=true->
 ω)/\
 (decide (n > 1099511627776)=false->
 Nx au i ([aD η,V.fn 92 [],ε Z (↑l.length:Int),ε Z (Z.wrap ((↑i.val:Int)+1))],[]))))/\
 (decide ((↑i.val:Int)<(↑l.length:Int))=false->
 K (ε Z (-1)) [])
 ):aI Tryz.prog X0 (HO p l (aD (.sl 1 (ints Z l))) (.fn 92 []) [] 99) 99 [aD (.sl 1 (ints Z l)),.fn 92 []] [] K:=by apply Eq.mp (a:=an);kernel_rfl
theorem ago (a1 a2 a3 a4 a5 a7 a8 a9 aJ aR ο π aV aK aQ aL a20 a21:Value) (C:List D) (M J:List (List D)) (l:List Int) (me:Int) (K:V->KB->Prop) (an:
 let aH:=(NP a1 a2 a3 a4 a5 a7 a8 a9 aJ aR ο π aV aK aQ aL a20 a21 C M J me l);let η:=ar [ε Z me,γ a1,γ a2,γ a3,γ a4,γ a5,bB 128 C,γ a7,γ a8,γ a9,γ aJ,aD (ψ 1 M),aD (ψ 1 J),γ aR,γ ο,γ π,γ aV,γ aK,γ aQ,γ aL,γ a20,γ a21];∃(l_1:List Int),let aO:KB:=[ξ 3 1 (ints Z l_1),ar [aj 2 0],η];let aC:=(az l.length l_1);ints Z l=ints Z l_1/\
 l.length<=l_1.length/\
 dE l_1.length/\
 ((kr (m6 me) aC == -1)=true->
 K (δ 0 0 l.length) aO)/\
 ((kr (m6 me) aC == -1)=false->
 At aH ([δ 0 0 l.length,V.fn 74 [aj 1 0],ε Z (kr (m6 me) aC),ε Z (Z.wrap (kr (m6 me) aC+1))],aO)/\
 ∀(i:{j:Nat // j<=l.length/\
 (iS me (az j l)).length<j }),let bq:=(↑i.val:Int)<(↑(l.length - 0):Int);let bj:=ε Z (Z.wrap ((↑i.val:Int)+1));let au:=(iS me (az i.val l));let bP:=(↑au.length:Int).toNat<=l.length - 0;let ω:=(ints Z (iS me (az i.val l)++ay au.length l));(decide (bq)=true->
 bw (↑i.val:Int) (l.length - 0)/\
 ∃(e:List D),ω[0+(↑i.val:Int).toNat]? =some e/\
 ∃(n:Int),e[0]? =some (ζ (ν Z n))/\
 ((!n == me)=true->
 bw (↑au.length:Int) (l.length - 0)/\
 0+(↑au.length:Int).toNat<ω.length/\
 Nx aH i ([δ 0 0 l.length,V.fn 74 [aj 1 0],ε Z (Z.wrap ((↑au.length:Int)+1)),bj],[ξ 3 1 (ω.set (0+(↑au.length:Int).toNat) [ζ (ν Z n)]),ar [aj 2 0],η]))/\
 ((!n == me)=false->
 Nx aH i ([δ 0 0 l.length,V.fn 74 [aj 1 0],ε Z (↑au.length:Int),bj],[ξ 3 1 ω,ar [aj 2 0],η])))/\
 (decide (bq)=false->
 aB (↑au.length:Int)/\
 True/\
 bP/\
 l.length - 0<=l.length - 0/\
 0+(l.length - 0)<=ω.length/\
 True/\
 aB (↑au.length:Int)/\
 0<=(↑au.length:Int).toNat/\
 bP/\
 K (δ 0 0 (0+(↑au.length:Int).toNat)) [ξ 3 1 (splice ω (0+(↑au.length:Int).toNat) (dq (0+(l.length - 0) - (0+(↑au.length:Int).toNat)) [ζ (ν Z 0)])),ar [aj 2 0],η]))
 ):aI Tryz.prog Ap (XA a1 a2 a3 a4 a5 a7 a8 a9 aJ aR ο π aV aK aQ aL a20 a21 C M J me l 72) 72 [.sl 0 0 l.length,.fn 74 [aj 1 0]] [ξ 3 1 (ints Z l),ar [aj 2 0],ar [.int Z me,γ a1,γ a2,γ a3,γ a4,γ a5,bB 128 C,γ a7,γ a8,γ a9,γ aJ,aD (.sl 1 M),aD (.sl 1 J),γ aR,γ ο,γ π,γ aV,γ aK,γ aQ,γ aL,γ a20,γ a21]] K:=by apply Eq.mp (a:=an);kernel_rfl
theorem ag4 (a1 a2 a3 a4 a5 a7 a8 a9 aJ aR ο π aV aK aQ aL a20 a21:Value) (C:List D) (me:Int) (M J:List (List D)) (K:V->KB->Prop) (an:
 (2<=2/\
 True)/\
 ∃(Ls:List (List Int)),[[ψ 1 M],[ψ 1 J]]=kx Ls/\
 dE Ls.length/\
 dE (ga Ls Ls.length).length/\
 ox (ints Z (ga Ls Ls.length)).flatten/\
 ∃(l:List Int),ints Z (ga Ls Ls.length)=ints Z l/\
 (ga Ls Ls.length).length=l.length/\
 dE l.length/\
 K (δ 1 0 (iS me l).length) [ar [ε Z me,γ a1,γ a2,γ a3,γ a4,γ a5,bB 128 C,γ a7,γ a8,γ a9,γ aJ,aD (ψ 1 M),aD (ψ 1 J),γ aR,γ ο,γ π,γ aV,γ aK,γ aQ,γ aL,γ a20,γ a21],ξ 3 1 (ints Z (vH me l))]
 ):aI Tryz.prog Ml (aG 44) 44 [aj 0 0] [ar [.int Z me,γ a1,γ a2,γ a3,γ a4,γ a5,bB 128 C,γ a7,γ a8,γ a9,γ aJ,aD (.sl 1 M),aD (.sl 1 J),γ aR,γ ο,γ π,γ aV,γ aK,γ aQ,γ aL,γ a20,γ a21]] (dp 1 K):=by apply Eq.mp (a:=an);kernel_rfl
theorem agk (A:List (List D)) (n:Nat) (M:ML) (K:V->KB->Prop) (an:
 ∃(l:List Int),A=ints Z l/\
 n<=l.length/\
 dE l.length/\
 lp M/\
 K (θ (decide (kr (nM M) (az n l) ≥ 0))) [ξ 3 1 (ints Z l),ar [aX 2],KO.mp [Z] false false 1 M]
 ):aI Tryz.prog Ap (aG 70) 70 [.sl 0 0 n,.fn 71 [aj 1 0]] [ξ 3 1 (A),ar [.mp 2],.mp [Z] false false 1 M] K:=by apply Eq.mp (a:=an);kernel_rfl
theorem agl (A:List (List D)) (K:V->KB->Prop) (an:
 ∃(l:List Int),A=ints Z l/\
 dE l.length/\
 K (θ (decide (kr df l ≥ 0))) []
 ):aI Tryz.prog Ap (aG 70) 70 [aD (.sl 1 A),.fn 92 []] [] K:=by apply Eq.mp (a:=an);kernel_rfl
theorem AZ {p:Int->Bool} {l:List Int} {i:Nat} {n:Int} (h:∀ j n,j<i->l[j]? =some n->p n=false) (hi:l[i]? =some n) (hp:p n=true):kr p l=(i:Int):=by
 obtain⟨hl,he⟩:=bG.1 hi
 have:l.findIdx? p=some i:=List.findIdx?_eq_some_iff_getElem.2 ⟨hl,by rw[he];exact hp,fun j hj=>by
  rw[h j l[j] hj (bp _)];simp⟩
 unfold kr;rw[this]
theorem GG {p:Int->Bool} {l:List Int} (h:∀ j n,j<l.length->l[j]? =some n->p n=false):kr p l=-1:=by
 have:l.findIdx? p=none:=List.findIdx?_eq_none_iff.2 fun x hx=>by
  obtain⟨j,hj,rfl⟩:=List.getElem_of_mem hx
  exact h j _ hj (bp _)
 unfold kr;rw[this]
theorem GF (p:Int->Bool) (l:List Int):(kr p l=-1/\∀ n∈l,p n=false)∨∃(i:Nat) (n:Int),kr p l=i/\l[i]? =some n/\p n=true/\∀ j n,j<i->l[j]? =some n->p n=false:=by
 unfold kr
 cases h:l.findIdx? p with
 |none=>exact .inl ⟨rfl,List.findIdx?_eq_none_iff.1 h⟩
 |some i=>
  obtain⟨h1,h2,h3⟩:=List.findIdx?_eq_some_iff_getElem.1 h
  refine .inr ⟨i,l[i],rfl,bp _,h2,fun j n hj hn=>?_⟩
  obtain⟨hl,he⟩:=bG.1 hn
  have:=h3 j hj
  rw[he]at this
  simpa using this
theorem Mz (p:Int->Bool) (l:List Int):decide (kr p l ≥ 0)=l.any p:=by
 rcases GF p l with ⟨h1,h2⟩ | ⟨i,n,h1,h2,h3,_⟩
 ·rw[h1,List.any_eq_false.2 (fun x hx=>by rw[h2 x hx];simp)];rfl
 ·rw[h1,List.any_eq_true.2 ⟨n,fi h2,h3⟩]
  simp
theorem Yo:dF Tryz.prog GQ:=fun f k h=>by
 unfold GQ at h
 split at h<;>first | (cases h;exact abC) | cases h
theorem VS:bZ Tryz.prog Md:=dI mixed Yo aG 10
theorem Og {Ls:List (List Int)} {i:Nat} (h:i<Ls.length):ga Ls (i+1)=ga Ls i++Ls[i]:=by
 unfold ga
 rw[i_,bp h,List.flatten_append]
 simp only[Option.toList_some,jm,List.flatten_nil,fD]
theorem AV {Ls:List (List Int)} {i:Nat} (h:i<=Ls.length):(ga Ls i).length<=(ga Ls Ls.length).length:=by
 unfold ga
 rw[cM]
 conv=>rhs;rw[<- List.take_append_drop i Ls]
 rw[List.flatten_append,bn]
 omega
theorem Ql {Ls:List (List Int)} {i:Nat} (h:i<Ls.length):(kx Ls)[(i:Int).toNat]? =some [ψ 1 (ints Z Ls[i])]:=by
 rw[cP];unfold kx;rw[fE,bp h];rfl
theorem Qm {Ls:List (List Int)}:(kx Ls).length=Ls.length:=by unfold kx;rw[bX]
theorem abo:aN Tryz.prog 73 D3:=dW VS mixed (fun args kb K h=>by
 unfold D3 at h;split at h<;>try exact h.elim
 obtain⟨Ls,rfl,⟨hl0⟩,⟨hl⟩,h⟩:=h
 refine⟨M_ Ls 73,agj Ls K ⟨?_,?_⟩⟩
 ·rw[Qm]
  exact At.mk' ⟨0,bt _⟩ rfl
 rintro⟨i,hi⟩
 simp only[decide_eq_true_eq,decide_eq_false_iff_not]
 have hle:=AV hi
 refine⟨fun hc=>?_,fun hc=>?_⟩
 ·have hi2:i<Ls.length:=by omega
  have hs:=Og hi2
  have hle2:=AV (show i+1<=Ls.length by omega)
  have jF:=congrArg List.length hs
  rw[bn]at jF
  refine⟨by unfold aB;omega,_,Ql hi2,_,rfl,?_⟩
  rw[bi,bD (by omega) (by omega),bD (by omega) (by omega)]
  refine⟨fun f=>by omega,fun _=>?_⟩
  refine Nx.mk' (⟨i+1,by omega⟩:{i:Nat // i<=Ls.length}) ?_ (by show Ls.length - (i+1)<Ls.length - i;omega)
  show(_:List V×KB)=_
  have e:((ga Ls i).length:Int)+(Ls[i].length:Int)=((ga Ls (i+1)).length:Int):=by omega
  rw[e];rfl
 have:i=Ls.length:=by omega
 subst this
 refine⟨by omega,by omega,?_,?_⟩
 ·rw[Qm]
  exact At.mk' ⟨0,bt _⟩ rfl
 rintro⟨i,hi⟩
 have hle:=AV hi
 dsimp only
 refine⟨fun hc=>?_,fun hc=>?_⟩
 ·have hi2:i<Ls.length:=by omega
  have hs:=Og hi2
  have hle2:=AV (show i+1<=Ls.length by omega)
  have jF:=congrArg List.length hs
  rw[bn]at jF
  refine⟨by unfold aB;omega,_,Ql hi2,_,rfl,trivial,by rw[bi];omega,by rw[bi];omega,?_⟩
  rw[bi,bD (by omega) (by omega)]
  refine Nx.mk' (⟨i+1,by omega⟩:{i:Nat // i<=Ls.length}) ?_ (by show Ls.length - (i+1)<Ls.length - i;omega)
  show(_:List V×KB)=_
  rw[oI,cM,<- py,<- hs,<- jF];rfl
 ·have:i=Ls.length:=by omega
  subst this
  exact h)
theorem L1 {l:List Int} {n i:Nat} {m:Int} (h:(l.take n)[i]? =some m):(ints Z l)[0+(i:Int).toNat]? =some [ζ (.int Z m)]/\i<n:=by
 obtain⟨hl,he⟩:=bG.1 h
 rw[cQ]at hl
 have:i<n:=by omega
 rw[hU this]at h
 rw[c9,cP,kv,h]
 exact⟨rfl,this⟩
theorem abL:aN Tryz.prog 99 D_:=dW fN mixed (fun args kb K h=>by
 unfold D_ at h;split at h<;>try exact h.elim
 ·rename_i n A me a1 a2 a3 a4 a5 C a7 a8 a9 aJ MM JJ aR ο π aV aK aQ aL a20 a21
  obtain⟨l,rfl,hn,⟨hl⟩,h⟩:=h
  have hlen:(l.take n).length=n:=by rw[cQ];omega
  refine⟨_,agF _ _ _ _ _ _ _ _ _ _ _ _ _ _ _ _ _ _ _ _ _ (m6 me) l (l.take n) n me K ⟨?_,?_⟩⟩
  ·rw[lT]
   refine At.mk' ⟨0,bt _,fun j _ hj=>absurd hj (Nat.not_lt_zero _)⟩ ?_
   show(_:List V×KB)=_
   simp only[hlen];rfl
  rintro⟨i,hi,hp⟩
  simp only[decide_eq_true_eq,decide_eq_false_iff_not,hlen]at hi ⊢
  refine⟨fun hc=>?_,fun hc=>?_⟩
  ·have hil:i<(l.take n).length:=by omega
   have hg:=bp hil
   obtain⟨g1,g2⟩:=L1 hg
   refine⟨by unfold bw;omega,_,g1,_,rfl,fun h1=>?_,fun h1=>?_⟩
   ·rw[AZ hp hg h1]at h;exact h
   ·rw[bD (by omega) (by omega)]
    refine Nx.mk' (⟨i+1,by omega,fun j m hj hm=>?_⟩:{i:Nat // i<=(l.take n).length/\∀ j n',j<i->(l.take n)[j]? =some n'->m6 me n'=false}) ?_ (by show(l.take n).length - (i+1)<(l.take n).length - i;omega)
    ·by_cases hji:j=i
     ·subst hji;rw[hg]at hm;cases hm;exact h1
     ·exact hp j m (by omega) hm
    ·show(_:List V×KB)=_
     simp only[hlen];rfl
  ·rw[GG (fun j m hj hm=>hp j m (by omega) hm)]at h;exact h
 ·rename_i n A M
  obtain⟨l,rfl,hn,⟨hl⟩,hM,h⟩:=h
  have hlen:(l.take n).length=n:=by rw[cQ];omega
  refine⟨_,agG (nM M) l (l.take n) n M K ⟨?_,?_⟩⟩
  ·rw[lT]
   refine At.mk' ⟨0,bt _,fun j _ hj=>absurd hj (Nat.not_lt_zero _)⟩ ?_
   show(_:List V×KB)=_
   simp only[hlen];rfl
  rintro⟨i,hi,hp⟩
  simp only[decide_eq_true_eq,decide_eq_false_iff_not,hlen]at hi ⊢
  refine⟨fun hc=>?_,fun hc=>?_⟩
  ·have hil:i<(l.take n).length:=by omega
   have hg:=bp hil
   obtain⟨g1,g2⟩:=L1 hg
   refine⟨by unfold bw;omega,_,g1,_,rfl,fun cs hcs=>?_,fun h1=>?_,fun h1=>?_⟩
   ·obtain⟨b,rfl⟩:=hM.h _ _ hcs
    exact⟨_,_,rfl,rfl⟩
   ·rw[AZ hp hg h1]at h;exact h
   ·rw[bD (by omega) (by omega)]
    refine Nx.mk' (⟨i+1,by omega,fun j m hj hm=>?_⟩:{i:Nat // i<=(l.take n).length/\∀ j n',j<i->(l.take n)[j]? =some n'->nM M n'=false}) ?_ (by show(l.take n).length - (i+1)<(l.take n).length - i;omega)
    ·by_cases hji:j=i
     ·subst hji;rw[hg]at hm;cases hm;exact h1
     ·exact hp j m (by omega) hm
    ·show(_:List V×KB)=_
     simp only[hlen];rfl
  ·rw[GG (fun j m hj hm=>hp j m (by omega) hm)]at h;exact h
 ·rename_i A
  obtain⟨l,rfl,⟨hl⟩,h⟩:=h
  refine⟨_,agH df l K ⟨?_,?_⟩⟩
  ·rw[bi]
   exact At.mk' ⟨0,bt _,fun j _ hj=>absurd hj (Nat.not_lt_zero _)⟩ rfl
  rintro⟨i,hi,hp⟩
  simp only[decide_eq_true_eq,decide_eq_false_iff_not]at hi ⊢
  refine⟨fun hc=>?_,fun hc=>?_⟩
  ·have hil:i<l.length:=by omega
   have hg:=bp hil
   refine⟨by unfold aB;omega,[ζ (.int Z l[i])],by rw[cP,kv,hg];rfl,_,rfl,fun h1=>?_,fun h1=>⟨fun h2=>?_,fun h2=>?_⟩⟩
   ·rw[AZ hp hg (by unfold df;simp;omega)]at h;exact h
   ·rw[AZ hp hg (by unfold df;simp;omega)]at h;exact h
   ·rw[bD (by omega) (by omega)]
    refine Nx.mk' (⟨i+1,by omega,fun j m hj hm=>?_⟩:{i:Nat // i<=l.length/\∀ j n',j<i->l[j]? =some n'->df n'=false}) rfl (by show l.length - (i+1)<l.length - i;omega)
    by_cases hji:j=i
    ·subst hji;rw[hg]at hm;cases hm;unfold df;simp;omega
    ·exact hp j m (by omega) hm
  ·rw[GG (fun j m hj hm=>hp j m (by omega) hm)]at h;exact h)
theorem PX {me:Int} {l:List Int} {j:Nat} {n:Int} (h:l[j]? =some n):iS me (l.take (j+1))=iS me (l.take j)++if n=me then[]else[n]:=by
 unfold iS
 rw[i_,h,List.filter_append]
 congr 1
 by_cases hn:n=me<;>simp [hn]
theorem PV {me:Int} {l:List Int} (h:∀ n∈l,m6 me n=false):iS me l=l:=List.filter_eq_self.2 fun n hn=>by have:=h n hn;unfold m6 at this;rw[this];rfl
theorem BG (me:Int) (l:List Int):(iS me l).length<=l.length:=List.length_filter_le ..
theorem aee {l k:List Int} {j:Nat} {n:Int} (h:l[j]? =some n) (hk:k.length<=j):(k++l.drop k.length)[j]? =some n:=by
 rw[eW hk,jw,show k.length+(j - k.length)=j by omega,h]
theorem aeg {l k:List Int} {n:Int} (h:k.length<l.length):(k++l.drop k.length).set k.length n=(k++[n])++l.drop (k++[n]).length:=by
 rw[List.set_append_right _ _ (av _),Nat.sub_self,dO]
 congr 1
 rw[List.drop_eq_getElem_cons h,List.set_cons_zero,bn,ii];rfl
theorem aef {l k:List Int} (h:k.length<=l.length):splice (ints Z (k++l.drop k.length)) k.length (dq (l.length - k.length) [ζ (.int Z 0)])=ints Z (k++dq (l.length - k.length) 0):=by
 unfold splice
 rw[List.length_replicate,oI,List.take_left,Bz,show k.length+(l.length - k.length)=(k++l.drop k.length).length by rw[bn,fQ],List.drop_length,py,aaa]
 simp [ints]
theorem RX:dF Tryz.prog Ch:=fun f k h=>by
 unfold Ch at h
 split at h<;>first | (cases h;first | exact abo | exact abL) | cases h
theorem Mj:bZ Tryz.prog Ap:=dI mixed RX aG 10
theorem abr:aN Tryz.prog 72 D6:=dW Mj mixed (fun args kb K h=>by
 unfold D6 at h;split at h<;>try exact h.elim
 rename_i n A me a1 a2 a3 a4 a5 C a7 a8 a9 aJ M J aR ο π aV aK aQ aL a20 a21
 obtain⟨l,rfl,rfl,⟨hl⟩,h⟩:=h
 refine⟨_,ago _ _ _ _ _ _ _ _ _ _ _ _ _ _ _ _ _ _ _ M J l me K ⟨l,rfl,av _,⟨hl⟩,?_,?_⟩⟩
 all_goals rw[cM]
 ·intro hf
  have hf:kr (m6 me) l=-1:=by simpa using hf
  rcases GF (m6 me) l with ⟨_,h2⟩ | ⟨i,n,h1,_⟩
  ·have e:=PV h2
   unfold vH at h
   rw[e,Nat.sub_self]at h
   simpa using h
  ·omega
 ·intro hf
  have hf:¬ kr (m6 me) l=-1:=by simpa using hf
  rcases GF (m6 me) l with ⟨h1,_⟩ | ⟨i,n,h1,h2,h3,h4⟩
  ·exact absurd h1 hf
  have hil:i<l.length:=(bG.1 h2).1
  have hn:n=me:=by simpa [m6]using h3
  have ek:iS me (l.take i)=l.take i:=PV fun m hm=>by
   obtain⟨j,hj,rfl⟩:=List.getElem_of_mem hm
   rw[cQ]at hj
   exact h4 j _ (by omega) (by rw[List.getElem_take,bp])
  have N0:iS me (l.take (i+1))=l.take i:=by rw[PX h2,ek,if_pos hn,fD]
  have el:(l.take i).length=i:=by rw[cQ];omega
  refine⟨?_,?_⟩
  ·refine At.mk' ⟨i+1,by omega,by rw[N0,el];omega⟩ ?_
   show(_:List V×KB)=_
   dsimp only
   rw[N0,el,List.take_append_drop,h1,bD (by omega) (by omega)];rfl
  rintro⟨j,hj,hk⟩
  dsimp only
  have hks:=BG me (l.take j)
  simp only[decide_eq_true_eq,decide_eq_false_iff_not,lT,c9,cP]
  refine⟨fun hc=>?_,fun hc=>?_⟩
  ·have hjl:j<l.length:=by omega
   have hg:=bp hjl
   have hs:=PX (me:=me) hg
   refine⟨by unfold bw;omega,[ζ (.int Z l[j])],by rw[kv,aee hg (by omega)];rfl,_,rfl,fun h5=>?_,fun h5=>?_⟩
   ·have h5:¬ l[j]=me:=by simpa using h5
    rw[if_neg h5]at hs
    refine⟨by unfold bw;omega,by rw[bi,bn,fQ];omega,?_⟩
    rw[bD (by omega) (by omega),bD (by omega) (by omega)]
    refine Nx.mk' (⟨j+1,by omega,by rw[hs,bn,ii];omega⟩:{j:Nat // j<=l.length/\(iS me (l.take j)).length<j}) ?_ (by show l.length - (j+1)<l.length - j;omega)
    show(_:List V×KB)=_
    dsimp only
    rw[ints_set,aeg (by omega),<- hs]
    have:((iS me (l.take j)).length:Int)+1=((iS me (l.take (j+1))).length:Int):=by rw[hs,bn,ii];omega
    rw[this];rfl
   ·have h5:l[j]=me:=by simpa using h5
    rw[if_pos h5,fD]at hs
    rw[bD (by omega) (by omega)]
    refine Nx.mk' (⟨j+1,by omega,by rw[hs];omega⟩:{j:Nat // j<=l.length/\(iS me (l.take j)).length<j}) ?_ (by show l.length - (j+1)<l.length - j;omega)
    show(_:List V×KB)=_
    dsimp only
    rw[hs];rfl
  ·have:j=l.length:=by omega
   subst this
   rw[cM]at hks hk ⊢
   refine⟨by unfold aB;omega,trivial,by omega,by omega,by rw[bi,bn,fQ];omega,trivial,by unfold aB;omega,by omega,by omega,?_⟩
   rw[aef (BG _ _)]
   exact h)
theorem adi:dF Tryz.prog Jd:=fun f k h=>by
 unfold Jd at h
 split at h
 ·cases h;exact abr
 ·exact RX _ _ h
theorem V1:bZ Tryz.prog Ml:=dI mixed adi aG 10
theorem Ra:aN Tryz.prog 70 zP:=dW Mj mixed (fun args kb K h=>by
 unfold zP at h;split at h<;>try exact h.elim
 ·rename_i n A M
  obtain⟨l,rfl,hn,hl,hM,h⟩:=h
  refine⟨_,agk _ n M K ⟨l,rfl,hn,hl,hM,?_⟩⟩
  rw[Mz];exact h
 ·rename_i A
  obtain⟨l,rfl,hl,h⟩:=h
  refine⟨_,agl _ K ⟨l,rfl,hl,?_⟩⟩
  rw[Mz];exact h)
theorem Cd:aN Tryz.prog 44 uY:=kY V1 mixed (fun args kb K h=>by
 unfold uY at h;split at h<;>try exact h.elim
 rename_i me a1 a2 a3 a4 a5 C a7 a8 a9 aJ M J aR ο π aV aK aQ aL a20 a21
 obtain⟨m,j,rfl,rfl,⟨hl⟩,h⟩:=h
 have e:ga [m,j] [m,j].length=m++j:=by unfold ga;simp
 refine⟨_,ag4 _ _ _ _ _ _ _ _ _ _ _ _ _ _ _ _ _ _ _ me _ _ K ⟨⟨av _,trivial⟩,[m,j],rfl,⟨by show 2<=100000;omega⟩,⟨by rw[e,bn];exact hl⟩,?_⟩⟩
 rw[e]
 refine⟨⟨oP⟩,m++j,rfl,rfl,⟨by rw[bn];exact hl⟩,h⟩)
structure Op where
 cl:Int
 nm:Int
 kd:Int
 bk:Int
 b:List Int
def bo (o:Op):List D:=[dn Z o.cl,dn Z o.nm,dn Z o.kd,dn Z o.bk,.sl 1 (ints ι o.b)]
def fP (to kind id ep:Int) (N B L:List (List D)):List D:=[dn Z to,dn Z kind,.sl 1 ([[dn Z id],[dn Z ep]]++N),.sl 1 B,.sl 1 L]
def F4 (o:Op) (e:Int) (X:List (List D)):List D:=[dn Z o.cl,dn Z o.nm,dn Z o.kd,dn Z o.bk,.sl 1 (ints ι o.b),dn Z e,.sl 1 X]
def yl:Option Op->List (List D)
 |none=>[]
 |some p=>[F4 p 19 []]
structure bR (n:Nat):Prop where
 h:n<=1000000
def Ab:aE:=fun args kb K=>match args,kb with
 | [aj 0 0,.int Z to,.int Z kind,aD (.sl 1 N),aD (.sl 1 B),aD (.sl 1 L)],[ar [γ a0,.int Z id,γ a2,γ a3,.int Z ep,γ a5,bB 128 C,γ a7,γ a8,γ a9,γ aJ,γ bc,γ a12,γ aR,γ ο,γ π,γ aV,γ aK,γ aQ,γ aL,.sl 1 0 n,γ a21],ξ 107 5 (A)]=>n=A.length/\bR n/\bR N.length/\K (.υ []) [ar [γ a0,.int Z id,γ a2,γ a3,.int Z ep,γ a5,bB 128 C,γ a7,γ a8,γ a9,γ aJ,γ bc,γ a12,γ aR,γ ο,γ π,γ aV,γ aK,γ aQ,γ aL,.sl 2 0 (n+1),γ a21],χ,ξ 107 5 (A++[fP to kind id ep N B L])]
 |_,_=>False
def Ai:aE:=fun args kb K=>match args,kb with
 | [aj 0 0],[ar [γ a0,γ a1,γ a2,γ a3,γ a4,γ a5,bB 128 C,γ a7,γ a8,γ a9,γ aJ,γ bc,γ a12,θ ld,γ ο,γ π,.aa o,γ aK,γ aQ,γ aL,γ a20,.sl 1 0 n],ξ 70 7 (A)]=>n=A.length/\bR n/\∃ q,o=mO bo q/\K (.υ []) [ar [γ a0,γ a1,γ a2,γ a3,γ a4,γ a5,bB 128 C,γ a7,γ a8,γ a9,γ aJ,γ bc,γ a12,θ false,γ ο,γ π,.aa none,γ aK,γ aQ,γ aL,γ a20,.sl 2 0 (A++yl q).length],χ,ξ 70 7 (A++yl q)]
 |_,_=>False
def J2:FuncId->Option dA
 | 75=>some ⟨[.mj,.mj,.mj,.fe 1,.fe 1,.fe 1],ee [true,false,true,true,false,true,false,true,true,true,true,true,true,true,true,true,true,true,true,true,false,true] Ab⟩
 | 38=>some ⟨[],ee [true,true,true,true,true,true,false,true,true,true,true,true,true,true,true,true,true,true,true,true,true,true] zM⟩
 | 49=>some ⟨[],ee [true,true,true,true,true,true,false,true,true,true,true,true,true,true,true,true,true,true,true,true,true,true] wY⟩
 | 39=>some ⟨[],ee [true,true,true,true,true,true,false,false,true,true,true,true,true,true,true,true,true,true,true,true,true,true] Ad⟩
 |_=>none
noncomputable def Aq:bJ:=dG Tryz.prog J2 aG 10
def Ef:aE:=fun args kb K=>match args,kb with
 | [aj 0 0,.int Z to],[ar [γ a0,.int Z id,γ a2,γ a3,.int Z ep,.int Z nu,bB 128 C,γ a7,γ a8,γ a9,γ aJ,γ bc,γ a12,γ aR,γ ο,γ π,γ aV,γ aK,γ aQ,γ aL,.sl 1 0 n,γ a21],ξ 107 5 (A)]=>n=A.length/\bR n/\K (.υ []) [ar [γ a0,.int Z id,γ a2,γ a3,.int Z ep,.int Z nu,bB 128 C,γ a7,γ a8,γ a9,γ aJ,γ bc,γ a12,γ aR,γ ο,γ π,γ aV,γ aK,γ aQ,γ aL,.sl 2 0 (n+1),γ a21],χ,ξ 107 5 (A++[fP to 14 id ep [[dn Z nu]] [] []])]
 |_,_=>False
structure iq (C:List D) (c:List Int):Prop where
 e:C=aU ι c
 l:c.length=128
 b:bm c
def mG (to id ep nu:Int) (c:List Int) (x:List L3):List D:=fP to 10 id ep [[dn Z nu]] (ints ι (b_ c)) [[.sl 1 (ints ι (bh x))]]
def w7:aE:=fun args kb K=>match args,kb with
 | [aj 0 0,.int Z to],[ar [γ a0,.int Z id,γ a2,γ a3,.int Z ep,.int Z nu,bB 128 C,.imp [Z] false true 2 M,γ a8,γ a9,γ aJ,γ bc,γ a12,γ aR,γ ο,γ π,γ aV,γ aK,γ aQ,γ aL,.sl 1 0 n,γ a21],ξ 107 5 (A)]=>n=A.length/\bR n/\∃ c x,iq C c/\bI M x/\K (.υ []) [ar [γ a0,.int Z id,γ a2,γ a3,.int Z ep,.int Z nu,bB 128 (aU ι c),ae M,γ a8,γ a9,γ aJ,γ bc,γ a12,γ aR,γ ο,γ π,γ aV,γ aK,γ aQ,γ aL,.sl 2 0 (n+1),γ a21],χ,ξ 107 5 (A++[mG to id ep nu c x])]
 |_,_=>False
def p_ (to id ep nu:Int) (c:List Int) (o:Op):List D:=fP to 12 id ep [[dn Z nu],[dn Z o.cl],[dn Z o.nm],[dn Z o.kd],[dn Z o.bk],[dn Z (dZ c)]] (ints ι o.b) []
def zT:aE:=fun args kb K=>match args,kb with
 | [aj 0 0,.int Z to],[ar [γ a0,.int Z id,γ a2,γ a3,.int Z ep,.int Z nu,bB 128 C,γ a7,γ a8,γ a9,γ aJ,γ bc,γ a12,γ aR,γ ο,γ π,.aa o,γ aK,γ aQ,γ aL,.sl 1 0 n,γ a21],ξ 107 5 (A)]=>n=A.length/\bR n/\∃ c p,iq C c/\o=some (bo p)/\K (.υ []) [ar [γ a0,.int Z id,γ a2,γ a3,.int Z ep,.int Z nu,bB 128 (aU ι c),γ a7,γ a8,γ a9,γ aJ,γ bc,γ a12,γ aR,γ ο,γ π,.aa o,γ aK,γ aQ,γ aL,.sl 2 0 (n+1),γ a21],χ,ξ 107 5 (A++[p_ to id ep nu c p])]
 |_,_=>False
theorem ahi (a0 a2 a3 a5 a7 a8 a9 aJ bc a12 aR ο π aV aK aQ aL a21:Value) (C:List D) (to kind id ep:Int) (N B L:List (List D)) (n:Nat) (A:List (List D)) (K:V->KB->Prop) (an:
 let aC:=(2+N.length)*8<=140737488355328;let aH:=[[ζ (ν Z id)],[ζ (ν Z ep)]];let au:=(n+1)*88<=140737488355328;let ω:=2+N.length<=(aH++N).length;let η:=K (aw []) [ar [γ a0,ε Z id,γ a2,γ a3,ε Z ep,γ a5,bB 128 C,γ a7,γ a8,γ a9,γ aJ,γ bc,γ a12,γ aR,γ ο,γ π,γ aV,γ aK,γ aQ,γ aL,δ 2 0 (n+1),γ a21],χ,ξ 107 5 (az n A++[[ζ (ν Z to),ζ (ν Z kind),ψ 1 (ay 0 (az (2+N.length) (aH++N))),ψ 1 B,ψ 1 L]])];(True/\
 2<=2/\
 aC/\
 ω/\
 1<=1/\
 n<=A.length/\
 au/\
 η)/\
 (True/\
 2<=2/\
 aC/\
 ω/\
 1<=1/\
 n<=A.length/\
 au/\
 η)/\
 True/\
 2<=2/\
 aC/\
 (ω/\
 1<=1/\
 n<=A.length/\
 au/\
 η)/\
 ω/\
 1<=1/\
 n<=A.length/\
 au/\
 η
 ):aI Tryz.prog X0 (aG 75) 75 [aj 0 0,.int Z to,.int Z kind,aD (.sl 1 N),aD (.sl 1 B),aD (.sl 1 L)] [ar [γ a0,.int Z id,γ a2,γ a3,.int Z ep,γ a5,bB 128 C,γ a7,γ a8,γ a9,γ aJ,γ bc,γ a12,γ aR,γ ο,γ π,γ aV,γ aK,γ aQ,γ aL,.sl 1 0 n,γ a21],ξ 107 5 (A)] (dp 2 K):=by apply Eq.mp (a:=an);kernel_rfl
theorem ahL (a0 a1 a2 a3 a4 a5 a7 a8 a9 aJ bc a12 ο π aK aQ aL a20:Value) (C:List D) (ld:Bool) (o:Option (List D)) (n:Nat) (A:List (List D)) (K:V->KB->Prop) (an:
 ((!o.isNone)=true->
 ∃(y1:List D),o=some y1/\
 ∃(y2:Int),y1[0]? =some (ζ (ν Z y2))/\
 ∃(y3:Int),y1[1]? =some (ζ (ν Z y3))/\
 ∃(y4:Int),y1[2]? =some (ζ (ν Z y4))/\
 ∃(y5:Int),y1[3]? =some (ζ (ν Z y5))/\
 ∃(y6:List (List D)),let η:=K (aw []) [ar [γ a0,γ a1,γ a2,γ a3,γ a4,γ a5,bB 128 C,γ a7,γ a8,γ a9,γ aJ,γ bc,γ a12,θ false,γ ο,γ π,aP none,γ aK,γ aQ,γ aL,γ a20,δ 2 0 (n+1)],χ,ξ 70 7 (az n A++[[ζ (ν Z y2),ζ (ν Z y3),ζ (ν Z y4),ζ (ν Z y5),ψ 1 y6,ζ (ν Z 19),ψ 1 []]])];y1[4]? =some (ψ 1 y6)/\
 (1<=1/\
 n<=A.length/\
 (n+1)*88<=140737488355328/\
 η)/\
 1<=1/\
 n<=A.length/\
 (n+1)*88<=140737488355328/\
 η)/\
 ((!o.isNone)=false->
 K (aw []) [ar [γ a0,γ a1,γ a2,γ a3,γ a4,γ a5,bB 128 C,γ a7,γ a8,γ a9,γ aJ,γ bc,γ a12,θ false,γ ο,γ π,aP o,γ aK,γ aQ,γ aL,γ a20,δ 2 0 n],χ,ξ 70 7 A])
 ):aI Tryz.prog X0 (aG 42) 42 [aj 0 0] [ar [γ a0,γ a1,γ a2,γ a3,γ a4,γ a5,bB 128 C,γ a7,γ a8,γ a9,γ aJ,γ bc,γ a12,θ ld,γ ο,γ π,.aa o,γ aK,γ aQ,γ aL,γ a20,.sl 1 0 n],ξ 70 7 (A)] (eZ [.qf 0 143,.mv 0 148] (dp 2 K)):=by apply Eq.mp (a:=an);kernel_rfl
theorem agS (a0 a2 a3 a7 a8 a9 aJ bc a12 aR ο π aV aK aQ aL a21:Value) (C:List D) (to id ep nu:Int) (n:Nat) (A:List (List D)) (K:V->KB->Prop) (an:
 1<=1/\
 ∀(y1:Nat->
 Value),n=A.length/\
 bR n/\
 bR 1/\
 bu y1 [0,2,3,5,7,8,9,10,11,12,13,14,15,16,17,18,19,21]/\
 K (aw []) [ar [γ a0,ε Z id,γ a2,γ a3,ε Z ep,ε Z nu,bB 128 C,γ a7,γ a8,γ a9,γ aJ,γ bc,γ a12,γ aR,γ ο,γ π,γ aV,γ aK,γ aQ,γ aL,δ 2 0 (n+1),γ a21],χ,ξ 107 5 (A++[[dn Z to,ζ (ν Z 14),ψ 1 [[dn Z id],[dn Z ep],[ζ (ν Z nu)]],ψ 1 [],ψ 1 []]])]
 ):aI Tryz.prog Aq (aG 110) 110 [aj 0 0,.int Z to] [ar [γ a0,.int Z id,γ a2,γ a3,.int Z ep,.int Z nu,bB 128 C,γ a7,γ a8,γ a9,γ aJ,γ bc,γ a12,γ aR,γ ο,γ π,γ aV,γ aK,γ aQ,γ aL,.sl 1 0 n,γ a21],ξ 107 5 (A)] (dp 2 K):=by apply Eq.mp (a:=an);kernel_rfl
theorem ahm (a0 a2 a3 a8 a9 aJ bc a12 aR ο π aV aK aQ aL a21:Value) (C:List D) (to id ep nu:Int) (n:Nat) (M:ML) (A:List (List D)) (K:V->KB->Prop) (an:
 let bq:=[0,1,2,3,4,5,7,8,9,10,11,12,13,14,15,16,17,18,19,20,21];let bj:=ζ (ν Z 10);let aC:=[0,1,2,3,4,5,8,9,10,11,12,13,14,15,16,17,18,19,20,21];let aH:=[0,2,3,5,7,8,9,10,11,12,13,14,15,16,17,18,19,21];let au:=ψ 1 [[dn Z id],[dn Z ep],[ζ (ν Z nu)]];(∀(y1:Nat->
 Value),∃(y2:List Int),C=aU ι y2/\
 y2.length=128/\
 (∀(y3:Int),dS y3 y2->
 0<=y3/\
 y3<256)/\
 bu y1 bq/\
 ∀(y4:Nat->
 Value),∃(y5:List L3),bI M y5/\
 bu y4 aC/\
 (bh y5).length<=(ints ι (bh y5)).length/\
 1<=1/\
 132<=(ints ι (b_ y2)).length/\
 1<=1/\
 ∀(y6:Nat->
 Value),n=A.length/\
 bR n/\
 bR 1/\
 bu y6 aH/\
 K (aw []) [ar [γ a0,ε Z id,γ a2,γ a3,ε Z ep,ε Z nu,bB 128 (aU ι y2),V.imp [Z] false true 2 M,γ a8,γ a9,γ aJ,γ bc,γ a12,γ aR,γ ο,γ π,γ aV,γ aK,γ aQ,γ aL,δ 2 0 (n+1),γ a21],χ,ξ 107 5 (A++[[dn Z to,bj,au,ψ 1 (ay 0 (az 132 (ints ι (b_ y2)))),ψ 1 [[ψ 1 (ay 0 (az (bh y5).length (ints ι (bh y5))))]]]])])/\
 ∀(y7:Nat->
 Value),∃(y8:List Int),let aO:=(ints ι (b_ y8));let bN:=ψ 1 (ay 0 (az 132 aO));let ω:=ar [γ a0,ε Z id,γ a2,γ a3,ε Z ep,ε Z nu,bB 128 (aU ι y8),V.imp [Z] false true 2 M,γ a8,γ a9,γ aJ,γ bc,γ a12,γ aR,γ ο,γ π,γ aV,γ aK,γ aQ,γ aL,δ 2 0 (n+1),γ a21];C=aU ι y8/\
 y8.length=128/\
 (∀(y9:Int),dS y9 y8->
 0<=y9/\
 y9<256)/\
 bu y7 bq/\
 lS nu nu/\
 (∀(cO:Nat->
 Value),∃(cy:List L3),bI M cy/\
 bu cO aC/\
 (bh cy).length<=(ints ι (bh cy)).length/\
 1<=1/\
 132<=aO.length/\
 1<=1/\
 ∀(cz:Nat->
 Value),n=A.length/\
 bR n/\
 bR 1/\
 bu cz aH/\
 K (aw []) [ω,χ,ξ 107 5 (A++[[dn Z to,bj,au,bN,ψ 1 [[ψ 1 (ay 0 (az (bh cy).length (ints ι (bh cy))))]]]])])/\
 ∀(cL:Nat->
 Value),∃(dy:List L3),let bP:=(bh dy).length<=(ints ι (bh dy)).length;let η:=K (aw []) [ω,χ,ξ 107 5 (A++[[dn Z to,bj,au,bN,ψ 1 [[ψ 1 (ay 0 (az (bh dy).length (ints ι (bh dy))))]]]])];bI M dy/\
 bu cL aC/\
 lS nu nu/\
 (bP/\
 1<=1/\
 132<=aO.length/\
 1<=1/\
 ∀(cY:Nat->
 Value),n=A.length/\
 bR n/\
 bR 1/\
 bu cY aH/\
 η)/\
 bP/\
 lS nu nu/\
 1<=1/\
 132<=aO.length/\
 1<=1/\
 ∀(fK:Nat->
 Value),n=A.length/\
 bR n/\
 bR 1/\
 bu fK aH/\
 η
 ):aI Tryz.prog Aq (aG 45) 45 [aj 0 0,.int Z to] [ar [γ a0,.int Z id,γ a2,γ a3,.int Z ep,.int Z nu,bB 128 C,.imp [Z] false true 2 M,γ a8,γ a9,γ aJ,γ bc,γ a12,γ aR,γ ο,γ π,γ aV,γ aK,γ aQ,γ aL,.sl 1 0 n,γ a21],ξ 107 5 (A)] (dp 2 K):=by apply Eq.mp (a:=an);kernel_rfl
theorem agC (a0 a2 a3 a7 a8 a9 aJ bc a12 aR ο π aK aQ aL a21:Value) (C:List D) (to id ep nu:Int) (o:Option (List D)) (n:Nat) (A:List (List D)) (K:V->KB->Prop) (an:
 ∃(y1:List D),o=some y1/\
 ∃(y2:Int),y1[0]? =some (ζ (ν Z y2))/\
 ∃(y3:List D),o=some y3/\
 ∃(y4:Int),y3[1]? =some (ζ (ν Z y4))/\
 ∃(y5:List D),o=some y5/\
 ∃(y6:Int),y5[2]? =some (ζ (ν Z y6))/\
 ∃(y7:List D),o=some y7/\
 ∃(y8:Int),y7[3]? =some (ζ (ν Z y8))/\
 ∃(y9:List D),o=some y9/\
 ∃(cO:List (List D)),y9[4]? =some (ψ 1 cO)/\
 ∀(cy:Nat->
 Value),∃(cz:List Int),C=aU ι cz/\
 cz.length=128/\
 (∀(cL:Int),dS cL cz->
 0<=cL/\
 cL<256)/\
 bu cy [0,1,2,3,4,5,7,8,9,10,11,12,13,14,15,16,17,18,19,20,21]/\
 (∃(dy:List (List D)),y9[4]? =some (ψ 1 dy)/\
 True)/\
 (∃(cY:Int),y7[3]? =some (ζ (ν Z cY))/\
 lS cY y8)/\
 (∃(fK:Int),y5[2]? =some (ζ (ν Z fK))/\
 lS fK y6)/\
 (∃(dh:Int),y3[1]? =some (ζ (ν Z dh))/\
 lS dh y4)/\
 (∃(e_:Int),y1[0]? =some (ζ (ν Z e_))/\
 lS e_ y2)/\
 lS nu nu/\
 (∃(ft:List (List D)),y9[4]? =some (ψ 1 ft)/\
 True)/\
 6<=6/\
 ∀(fC:Nat->
 Value),n=A.length/\
 bR n/\
 bR 6/\
 bu fC [0,2,3,5,7,8,9,10,11,12,13,14,15,16,17,18,19,21]/\
 K (aw []) [ar [γ a0,ε Z id,γ a2,γ a3,ε Z ep,ε Z nu,bB 128 (aU ι cz),γ a7,γ a8,γ a9,γ aJ,γ bc,γ a12,γ aR,γ ο,γ π,aP o,γ aK,γ aQ,γ aL,δ 2 0 (n+1),γ a21],χ,ξ 107 5 (A++[[dn Z to,ζ (ν Z 12),ψ 1 [[dn Z id],[dn Z ep],[ζ (ν Z nu)],[ζ (ν Z y2)],[ζ (ν Z y4)],[ζ (ν Z y6)],[ζ (ν Z y8)],[ζ (ν Z (Z.wrap (dZ cz)))]],ψ 1 cO,ψ 1 []]])]
 ):aI Tryz.prog Aq (aG 57) 57 [aj 0 0,.int Z to] [ar [γ a0,.int Z id,γ a2,γ a3,.int Z ep,.int Z nu,bB 128 C,γ a7,γ a8,γ a9,γ aJ,γ bc,γ a12,γ aR,γ ο,γ π,.aa o,γ aK,γ aQ,γ aL,.sl 1 0 n,γ a21],ξ 107 5 (A)] (dp 2 K):=by apply Eq.mp (a:=an);kernel_rfl
theorem T5 {A:List (List D)}:az A.length A=A:=cM
theorem rQ {l:List Int} {n:Nat} (h:n=l.length):ay 0 (az n (ints ι l))=ints ι l:=by
 subst h;rw[g_,oI,cM]
theorem takeN {a b:List D} {N:List (List D)}:ay 0 (az (2+N.length) ([a,b]++N))=[a,b]++N:=by
 rw[g_];exact eM (by simp;omega)
theorem BL {a b:List D} {N:List (List D)}:2+N.length<=([a,b]++N).length:=by simp;omega
theorem Rr:aN Tryz.prog 75 Ab:=kY fN mixed (fun args kb K h=>by
 unfold Ab at h;split at h<;>try exact h.elim
 obtain⟨rfl,⟨hn⟩,⟨hN⟩,h⟩:=h
 refine⟨_,ahi _ _ _ _ _ _ _ _ _ _ _ _ _ _ _ _ _ _ _ _ _ _ _ _ _ _ _ _ K ?_⟩
 simp only[takeN,T5]
 exact⟨⟨trivial,av _,by omega,BL,av _,av _,by omega,h⟩,⟨trivial,av _,by omega,BL,av _,av _,by omega,h⟩,trivial,av _,by omega,⟨BL,av _,av _,by omega,h⟩,BL,av _,av _,by omega,h⟩)
theorem Ry:aN Tryz.prog 42 Ai:=mE fN mixed [.qf 0 143,.mv 0 148] (fun args kb K h=>by
 unfold Ai at h;split at h<;>try exact h.elim
 obtain⟨rfl,⟨hn⟩,q,rfl,h⟩:=h
 refine⟨_,ahL _ _ _ _ _ _ _ _ _ _ _ _ _ _ _ _ _ _ _ _ _ _ _ K ?_⟩
 cases q with
 |none=>
  simp only[yl,fD]at h
  exact⟨fun f=>(by cases f),fun _=>h⟩
 |some p=>
  simp only[yl,bn,ii]at h
  refine⟨fun _=>⟨bo p,rfl,p.cl,rfl,p.nm,rfl,p.kd,rfl,p.bk,rfl,ints ι p.b,rfl,?_⟩,fun f=>(by cases f)⟩
  simp only[T5]
  exact⟨⟨av _,av _,by omega,h⟩,av _,av _,by omega,h⟩)
theorem aeJ:dF Tryz.prog J2:=fun f k h=>by
 unfold J2 at h
 split at h
 ·cases h;exact fm Rr _
 ·cases h;exact fm Q8 _
 ·cases h;exact fm I1 _
 ·cases h;exact fm Rs _
 ·cases h
theorem EP:bZ Tryz.prog Aq:=dI mixed aeJ aG 10
theorem abV:aN Tryz.prog 110 Ef:=kY EP mixed (fun args kb K h=>by
 unfold Ef at h;split at h<;>try exact h.elim
 obtain⟨rfl,hn,h⟩:=h
 exact⟨_,agS _ _ _ _ _ _ _ _ _ _ _ _ _ _ _ _ _ _ _ _ _ _ _ _ K ⟨av _,fun f=>⟨rfl,hn,⟨by omega⟩,⟨by simp [bT]⟩,h⟩⟩⟩)
theorem sW {c:List Int} (h:c.length=128):(b_ c).length=132:=by rw[oS];omega
theorem I4:aN Tryz.prog 45 w7:=kY EP mixed (fun args kb K h=>by
 unfold w7 at h;split at h<;>try exact h.elim
 obtain⟨rfl,hn,c,x,⟨rfl,hl,hb⟩,ht,h⟩:=h
 have e1:=rQ (sW hl).symm
 have e2:=rQ (l:=bh x) rfl
 refine⟨_,ahm _ _ _ _ _ _ _ _ _ _ _ _ _ _ _ _ _ _ _ _ _ _ _ _ K ?_⟩
 unfold mG fP at h
 repeat' first
  | (exact⟨by simp [bT]⟩)
  | (exact⟨rfl⟩)
  | (exact hn)
  | (exact⟨by omega⟩)
  | (exact av _)
  | (rw[bi,sW hl];exact av _)
  | (rw[bi];exact av _)
  | (rw[e1,e2];exact h)
  | (rw[e1];exact h)
  |rfl
  | (refine⟨c,rfl,hl,hb,?_⟩)
  | (refine⟨x,ht,?_⟩)
  | (refine And.intro ?_ ?_)
  |intro f)
theorem Rh:aN Tryz.prog 57 zT:=kY EP mixed (fun args kb K h=>by
 unfold zT at h;split at h<;>try exact h.elim
 obtain⟨rfl,hn,c,p,⟨rfl,hl,hb⟩,rfl,h⟩:=h
 have hr:=AG c
 have ew:Z.wrap (dZ c)=dZ c:=bD (by omega) (by omega)
 refine⟨_,agC _ _ _ _ _ _ _ _ _ _ _ _ _ _ _ _ _ _ _ _ _ _ _ _ K ?_⟩
 unfold p_ fP at h
 refine⟨bo p,rfl,p.cl,rfl,bo p,rfl,p.nm,rfl,bo p,rfl,p.kd,rfl,bo p,rfl,p.bk,rfl,bo p,rfl,ints ι p.b,rfl,fun f=>⟨c,rfl,hl,hb,⟨by simp [bT]⟩,⟨_,rfl,trivial⟩,⟨_,rfl,⟨rfl⟩⟩,⟨_,rfl,⟨rfl⟩⟩,⟨_,rfl,⟨rfl⟩⟩,⟨_,rfl,⟨rfl⟩⟩,⟨rfl⟩,⟨_,rfl,trivial⟩,av _,fun f=>⟨rfl,hn,⟨by omega⟩,⟨by simp [bT]⟩,?_⟩⟩⟩
 rw[ew];exact h)
def zK:aE:=fun args kb K=>match args,kb with
 | [aj 0 0,.mp 1],[ar [.int Z me,γ a1,γ a2,γ a3,γ a4,γ a5,bB 128 C,γ a7,γ a8,γ a9,γ aJ,aD (.sl 1 M),aD (.sl 1 J),γ aR,γ ο,γ π,γ aV,γ aK,γ aQ,γ aL,γ a20,γ a21],.mp [Z] false false 1 (Q)]=>∃ m j,M=ints Z m/\J=ints Z j/\dE (m.length+j.length)/\lp Q/\K (θ (!(bz me m j).any (nM Q))) [ar [.int Z me,γ a1,γ a2,γ a3,γ a4,γ a5,bB 128 C,γ a7,γ a8,γ a9,γ aJ,aD (.sl 1 M),aD (.sl 1 J),γ aR,γ ο,γ π,γ aV,γ aK,γ aQ,γ aL,γ a20,γ a21],.mp [Z] false false 1 (Q)]
 |_,_=>False
def EU:FuncId->Option dA
 | 44=>some ⟨[],ee [false,true,true,true,true,true,false,true,true,true,true,false,false,true,true,true,true,true,true,true,true,true] uY⟩
 | 70=>some ⟨[],zP⟩
 |_=>none
noncomputable def L2:bJ:=dG Tryz.prog EU aG 10
def allI (me:Int) (m j:List Int) (Q:ML):Bool:=!(bz me m j).any (nM Q)
def qF:aE:=fun args kb K=>match args,kb with
 | [aj 0 0],[ar [γ a0,γ a1,γ a2,γ a3,γ a4,γ a5,bB 128 C,γ a7,γ a8,γ a9,γ aJ,γ bc,γ a12,θ ld,γ ο,γ π,.aa o,γ aK,γ aQ,γ aL,γ a20,γ a21]]=>ld=false/\K (.υ [θ false,θ false,θ (!o.isNone)]) [ar [γ a0,γ a1,γ a2,γ a3,γ a4,γ a5,bB 128 C,γ a7,γ a8,γ a9,γ aJ,γ bc,γ a12,θ ld,γ ο,γ π,.aa o,γ aK,γ aQ,γ aL,γ a20,γ a21]]
 | [aj 0 0],[ar [.int Z me,γ a1,γ a2,γ a3,γ a4,γ a5,bB 128 C,γ a7,γ a8,γ a9,γ aJ,aD (.sl 1 M),aD (.sl 1 J),θ ld,.mp 1,γ π,.aa o,γ aK,γ aQ,γ aL,γ a20,γ a21],.mp [Z] false false 1 (Q)]=>∃ m j,M=ints Z m/\J=ints Z j/\dE (m.length+j.length)/\lp Q/\ld=true/\K (.υ [θ true,θ (allI me m j Q),θ (!o.isNone)]) [ar [.int Z me,γ a1,γ a2,γ a3,γ a4,γ a5,bB 128 C,γ a7,γ a8,γ a9,γ aJ,aD (.sl 1 M),aD (.sl 1 J),θ ld,.mp 1,γ π,.aa o,γ aK,γ aQ,γ aL,γ a20,γ a21],.mp [Z] false false 1 (Q)]
 |_,_=>False
def HV:FuncId->Option dA
 | 41=>some ⟨[],ee [false,true,true,true,true,true,false,true,true,true,true,false,false,true,true,true,true,true,true,true,true,true] zK⟩
 |_=>none
noncomputable def EN:bJ:=dG Tryz.prog HV aG 10
def ke (cl nm kd bk:Int) (b:Nat):Bool:=decide (1<=kd/\kd<=4/\0<=bk/\bk<8/\0<=cl/\cl<=255/\1<=nm/\nm<=1099511627776/\(kd=1->b=16))
def nL (kd:Int):Bool:=decide (kd=1∨kd=2)
def zU:aE:=fun args kb K=>match args,kb with
 | [.agg [.int Z cl,.int Z nm,.int Z kd,.int Z bk,aD (.sl 1 B)]],[]=>K (θ (ke cl nm kd bk B.length)) []
 |_,_=>False
def Eb:aE:=fun args kb K=>match args,kb with
 | [.agg [.int Z cl,.int Z nm,.int Z kd,.int Z bk,aD (.sl 1 B)]],[]=>K (θ (nL kd)) []
 |_,_=>False
def p9 (c:List Int) (kd bk:Int):List (List D):=if kd=3 then ints ι ((c.drop (bk.toNat*16)).take 16)else[]
def zR:aE:=fun args kb K=>match args,kb with
 | [aj 0 0],[ar [.int Z me,γ a1,γ a2,γ a3,γ a4,γ a5,bB 128 C,γ a7,γ a8,γ a9,γ aJ,aD (.sl 1 M),aD (.sl 1 J),γ aR,γ ο,.mp 1,.aa o,γ aK,γ aQ,γ aL,γ a20,.sl 2 0 n],.mp [Z] false false 1 (Q),ξ 70 7 (A)]=>n=A.length/\bR n/\∃ m j c p,iq C c/\M=ints Z m/\J=ints Z j/\dE (m.length+j.length)/\lp Q/\o=some (bo p)/\lH p.bk/\
  (allI me m j Q=false->K (.υ []) [ar [.int Z me,γ a1,γ a2,γ a3,γ a4,γ a5,bB 128 C,γ a7,γ a8,γ a9,γ aJ,aD (.sl 1 M),aD (.sl 1 J),γ aR,γ ο,.mp 1,.aa o,γ aK,γ aQ,γ aL,γ a20,.sl 2 0 n],.mp [Z] false false 1 (Q),ξ 70 7 (A)])/\
  (allI me m j Q=true->K (.υ []) [ar [.int Z me,γ a1,γ a2,γ a3,γ a4,γ a5,bB 128 (aU ι c),γ a7,γ a8,γ a9,γ aJ,aD (.sl 1 M),aD (.sl 1 J),γ aR,γ ο,.mp 1,.aa none,γ aK,γ aQ,γ aL,γ a20,.sl 3 0 (n+1)],.mp [Z] false false 1 (Q),χ,ξ 70 7 (A++[F4 p 0 (p9 c p.kd p.bk)])])
 |_,_=>False
def Gk:FuncId->Option dA
 | 41=>some ⟨[],ee [false,true,true,true,true,true,false,true,true,true,true,false,false,true,true,true,true,true,true,true,true,true] zK⟩
 | 86=>some ⟨[],ee [true,true,true,true,true,true,false,true,true,true,true,true,true,true,true,true,true,true,true,true,true,true] zL⟩
 |_=>none
noncomputable def Mb:bJ:=dG Tryz.prog Gk aG 10
def fc (c:List Int) (kd bk:Int) (b:List Int):List Int:=if kd=1 then splice c (bk.toNat*16) b else if kd=2 then splice c (bk.toNat*16) (dq 16 0)else c
structure qE (n:Int):Prop where
 lo:0<=n
 hi:n<=4398046511104
structure zD (kd:Int):Prop where
 h:nL kd=false
structure zo (kd:Int):Prop where
 h:nL kd=true
structure uW (cl nm kd bk:Int) (b:Nat):Prop where
 h:ke cl nm kd bk b=true
def zQ:aE:=fun args kb K=>match args,kb with
 | [aj 0 0,.agg [.int Z cl,.int Z nm,.int Z kd,.int Z bk,aD (.sl 1 B)]],[ar [γ a0,γ a1,γ a2,γ a3,γ a4,.int Z nu,bB 128 C,.imp [Z] false true 2 T,γ a8,γ a9,γ aJ,γ bc,γ a12,γ aR,γ ο,γ π,γ aV,γ aK,θ ch,γ aL,γ a20,γ a21]]=>∃ c b x,iq C c/\B=ints ι b/\bI T x/\qE nu/\uW cl nm kd bk b.length/\
  (zD kd->K (.υ []) [ar [γ a0,γ a1,γ a2,γ a3,γ a4,.int Z (nu+1),bB 128 (aU ι (fc c kd bk b)),ae T,γ a8,γ a9,γ aJ,γ bc,γ a12,γ aR,γ ο,γ π,γ aV,γ aK,θ true,γ aL,γ a20,γ a21]])/\
  (zo kd->(mg (cX x cl nm 0)->K (.υ []) [ar [γ a0,γ a1,γ a2,γ a3,γ a4,.int Z (nu+1),bB 128 (aU ι (fc c kd bk b)),ae T,γ a8,γ a9,γ aJ,γ bc,γ a12,γ aR,γ ο,γ π,γ aV,γ aK,θ true,γ aL,γ a20,γ a21]])/\(l_ (cX x cl nm 0)->K (.υ []) [ar [γ a0,γ a1,γ a2,γ a3,γ a4,.int Z (nu+1),bB 128 (aU ι (fc c kd bk b)),ae (bF T [cl] [dn Z nm,dn Z 0]),γ a8,γ a9,γ aJ,γ bc,γ a12,γ aR,γ ο,γ π,γ aV,γ aK,θ true,γ aL,γ a20,γ a21]]))
 |_,_=>False
def F5:FuncId->Option dA
 | 84=>some ⟨[],ee [true,true,true,true,true,true,false,true,true,true,true,true,true,true,true,true,true,true,true,true,true,true] Ah⟩
 | 85=>some ⟨[],ee [true,true,true,true,true,true,false,true,true,true,true,true,true,true,true,true,true,true,true,true,true,true] Ag⟩
 | 66=>some ⟨[],ee [true,true,true,true,true,true,false,false,true,true,true,true,true,true,true,true,true,true,true,true,true,true] El⟩
 |_=>none
noncomputable def L9:bJ:=dG Tryz.prog F5 aG 10
structure uT (a b:Int):Prop where
 h:a=b
def Ec:aE:=fun args kb K=>match args,kb with
 | [aj 0 0,.agg [.int Z cl,.int Z nm,.int Z kd,.int Z bk,aD (.sl 1 B)]],[ar [γ a0,γ a1,γ a2,γ a3,γ a4,γ a5,bB 128 C,.imp [Z] false true 2 T,γ a8,γ a9,γ aJ,γ bc,γ a12,γ aR,γ ο,γ π,γ aV,γ aK,γ aQ,γ aL,γ a20,.sl 1 0 n],ξ 70 7 (A)]=>n=A.length/\bR n/\∃ x,bI T x/\
  (uT (fT x cl nm) 1->K (.υ [.int Z 0,θ true]) [ar [γ a0,γ a1,γ a2,γ a3,γ a4,γ a5,bB 128 C,ae T,γ a8,γ a9,γ aJ,γ bc,γ a12,γ aR,γ ο,γ π,γ aV,γ aK,γ aQ,γ aL,γ a20,.sl 2 0 (n+1)],χ,ξ 70 7 (A++[[dn Z cl,dn Z nm,dn Z kd,dn Z bk,.sl 1 B,dn Z (sk x cl nm),.sl 1 []]])])/\
  (uT (fT x cl nm) 2->K (.υ [.int Z 13,θ true]) [ar [γ a0,γ a1,γ a2,γ a3,γ a4,γ a5,bB 128 C,.imp [Z] false true 2 T,γ a8,γ a9,γ aJ,γ bc,γ a12,γ aR,γ ο,γ π,γ aV,γ aK,γ aQ,γ aL,γ a20,.sl 1 0 n],ξ 70 7 (A)])/\
  (uT (fT x cl nm) 0->(mg (cX x cl nm 0)->K (.υ [.int Z (cX x cl nm 0),θ true]) [ar [γ a0,γ a1,γ a2,γ a3,γ a4,γ a5,bB 128 C,.imp [Z] false true 2 T,γ a8,γ a9,γ aJ,γ bc,γ a12,γ aR,γ ο,γ π,γ aV,γ aK,γ aQ,γ aL,γ a20,.sl 1 0 n],ξ 70 7 (A)])/\(l_ (cX x cl nm 0)->K (.υ [.int Z 0,θ false]) [ar [γ a0,γ a1,γ a2,γ a3,γ a4,γ a5,bB 128 C,.imp [Z] false true 2 T,γ a8,γ a9,γ aJ,γ bc,γ a12,γ aR,γ ο,γ π,γ aV,γ aK,γ aQ,γ aL,γ a20,.sl 1 0 n],ξ 70 7 (A)]))
 |_,_=>False
def HT:FuncId->Option dA
 | 83=>some ⟨[],ee [true,true,true,true,true,true,false,false,true,true,true,true,true,true,true,true,true,true,true,true,true,true] DX⟩
 | 66=>some ⟨[],z6⟩
 |_=>none
noncomputable def Mf:bJ:=dG Tryz.prog HT aG 10
theorem af1 (a1 a2 a3 a4 a5 a7 a8 a9 aJ aR ο π aV aK aQ aL a20 a21:Value) (C:List D) (me:Int) (M J:List (List D)) (Q:ML) (K:V->KB->Prop) (an:
 ∀(y1:Nat->
 Value),∃(y2:List Int),∃(y3:List Int),M=ints Z y2/\
 J=ints Z y3/\
 dE (y2.length+y3.length)/\
 bu y1 [1,2,3,4,5,7,8,9,10,13,14,15,16,17,18,19,20,21]/\
 ∃(y4:List Int),ints Z (ia me y2 y3)=ints Z y4/\
 (bz me y2 y3).length<=y4.length/\
 dE y4.length/\
 lp Q/\
 K (θ !(az (bz me y2 y3).length y4).any (nM Q)) [ar [ε Z me,γ a1,γ a2,γ a3,γ a4,γ a5,bB 128 C,γ a7,γ a8,γ a9,γ aJ,aD (ψ 1 M),aD (ψ 1 J),γ aR,γ ο,γ π,γ aV,γ aK,γ aQ,γ aL,γ a20,γ a21],KO.mp [Z] false false 1 Q]
 ):aI Tryz.prog L2 (aG 41) 41 [aj 0 0,.mp 1] [ar [.int Z me,γ a1,γ a2,γ a3,γ a4,γ a5,bB 128 C,γ a7,γ a8,γ a9,γ aJ,aD (.sl 1 M),aD (.sl 1 J),γ aR,γ ο,γ π,γ aV,γ aK,γ aQ,γ aL,γ a20,γ a21],.mp [Z] false false 1 (Q)] (dp 2 K):=by apply Eq.mp (a:=an);kernel_rfl
theorem agJ (cl nm kd bk:Int) (B:List (List D)) (K:V->KB->Prop) (an:
 (decide (kd ≥ 1)=true->
 (decide (kd<=4)=true->
 (decide (bk ≥ 0)=true->
 (decide (bk<8)=true->
 (decide (cl ≥ 0)=true->
 (decide (cl<=255)=true->
 (decide (nm ≥ 1)=true->
 (decide (nm<=1099511627776)=true->
 ((kd != 1)=true->
 K (θ true) [])/\
 ((kd != 1)=false->
 K (θ ((↑B.length:Int) == 16)) []))/\
 (decide (nm<=1099511627776)=false->
 K (θ false) []))/\
 (decide (nm ≥ 1)=false->
 K (θ false) []))/\
 (decide (cl<=255)=false->
 K (θ false) []))/\
 (decide (cl ≥ 0)=false->
 K (θ false) []))/\
 (decide (bk<8)=false->
 K (θ false) []))/\
 (decide (bk ≥ 0)=false->
 K (θ false) []))/\
 (decide (kd<=4)=false->
 K (θ false) []))/\
 (decide (kd ≥ 1)=false->
 K (θ false) [])
 ):aI Tryz.prog X0 (aG 52) 52 [.agg [.int Z cl,.int Z nm,.int Z kd,.int Z bk,aD (.sl 1 B)]] [] (dp 0 K):=by apply Eq.mp (a:=an);kernel_rfl
theorem agI (cl nm kd bk:Int) (B:List (List D)) (K:V->KB->Prop) (an:
 ((kd == 1)=true->
 K (θ true) [])/\
 ((kd == 1)=false->
 K (θ (kd == 2)) [])
 ):aI Tryz.prog X0 (aG 53) 53 [.agg [.int Z cl,.int Z nm,.int Z kd,.int Z bk,aD (.sl 1 B)]] [] (dp 0 K):=by apply Eq.mp (a:=an);kernel_rfl
theorem agL (a0 a1 a2 a3 a4 a5 a7 a8 a9 aJ bc a12 ο π aK aQ aL a20 a21:Value) (C:List D) (ld:Bool) (o:Option (List D)) (K:V->KB->Prop) (an:
 let η:=K (aw [θ ld,θ false,θ !o.isNone]) [ar [γ a0,γ a1,γ a2,γ a3,γ a4,γ a5,bB 128 C,γ a7,γ a8,γ a9,γ aJ,γ bc,γ a12,θ ld,γ ο,γ π,aP o,γ aK,γ aQ,γ aL,γ a20,γ a21]];(ld=true->
 (∀(y1:Nat->
 Value),False)/\
 ∀(y2:Nat->
 Value),False)/\
 (ld=false->
 η/\
 η)
 ):aI Tryz.prog EN (aG 14) 14 [aj 0 0] [ar [γ a0,γ a1,γ a2,γ a3,γ a4,γ a5,bB 128 C,γ a7,γ a8,γ a9,γ aJ,γ bc,γ a12,θ ld,γ ο,γ π,.aa o,γ aK,γ aQ,γ aL,γ a20,γ a21]] (dp 1 K):=by apply Eq.mp (a:=an);kernel_rfl
theorem agM (a1 a2 a3 a4 a5 a7 a8 a9 aJ π aK aQ aL a20 a21:Value) (C:List D) (ld:Bool) (me:Int) (M J:List (List D)) (Q:ML) (o:Option (List D)) (K:V->KB->Prop) (an:
 let au:=[1,2,3,4,5,7,8,9,10,13,14,15,16,17,18,19,20,21];let η:KB:=[ar [ε Z me,γ a1,γ a2,γ a3,γ a4,γ a5,bB 128 C,γ a7,γ a8,γ a9,γ aJ,aD (ψ 1 M),aD (ψ 1 J),θ ld,aX 1,γ π,aP o,γ aK,γ aQ,γ aL,γ a20,γ a21],KO.mp [Z] false false 1 Q];let ω:=K (aw [θ ld,θ false,θ !o.isNone]) η;(ld=true->
 (∀(y1:Nat->
 Value),∃(y2:List Int),∃(y3:List Int),M=ints Z y2/\
 J=ints Z y3/\
 dE (y2.length+y3.length)/\
 lp Q/\
 bu y1 au/\
 ld=ld/\
 K (aw [θ ld,θ !(bz me y2 y3).any (nM Q),θ !o.isNone]) η)/\
 ∀(y4:Nat->
 Value),∃(y5:List Int),∃(y6:List Int),M=ints Z y5/\
 J=ints Z y6/\
 dE (y5.length+y6.length)/\
 lp Q/\
 bu y4 au/\
 ld=ld/\
 K (aw [θ ld,θ !(bz me y5 y6).any (nM Q),θ !o.isNone]) η)/\
 (ld=false->
 ω/\
 ω)
 ):aI Tryz.prog EN (aG 14) 14 [aj 0 0] [ar [.int Z me,γ a1,γ a2,γ a3,γ a4,γ a5,bB 128 C,γ a7,γ a8,γ a9,γ aJ,aD (.sl 1 M),aD (.sl 1 J),θ ld,.mp 1,γ π,.aa o,γ aK,γ aQ,γ aL,γ a20,γ a21],.mp [Z] false false 1 (Q)] (dp 2 K):=by apply Eq.mp (a:=an);kernel_rfl
theorem agz (a1 a2 a3 a4 a5 a7 a8 a9 aJ aR ο aK aQ aL a20:Value) (C:List D) (me:Int) (M J:List (List D)) (Q:ML) (o:Option (List D)) (n:Nat) (A:List (List D)) (K:V->KB->Prop) (an:
 let cC:=[0,1,2,3,4,5,7,8,9,10,11,12,13,14,15,16,17,18,19,20,21];let bq:=KO.mp [Z] false false 1 Q;let aO:=(n+1)*88<=140737488355328;let aH:=K (aw []) [ar [ε Z me,γ a1,γ a2,γ a3,γ a4,γ a5,bB 128 C,γ a7,γ a8,γ a9,γ aJ,aD (ψ 1 M),aD (ψ 1 J),γ aR,γ ο,aX 1,aP o,γ aK,γ aQ,γ aL,γ a20,δ 2 0 n],bq,ξ 70 7 A];(o.isNone=true->
 aH)/\
 (o.isNone=false->
 ∀(y1:Nat->
 Value),∃(y2:List Int),∃(y3:List Int),M=ints Z y2/\
 J=ints Z y3/\
 dE (y2.length+y3.length)/\
 lp Q/\
 bu y1 [1,2,3,4,5,7,8,9,10,13,14,15,16,17,18,19,20,21]/\
 ((!!(bz me y2 y3).any (nM Q))=true->
 aH)/\
 ((!!(bz me y2 y3).any (nM Q))=false->
 ∃(y4:List D),o=some y4/\
 ∃(y5:Int),let bP:=(ν Z y5);y4[0]? =some (ζ bP)/\
 ∃(y6:Int),let bN:=(ν Z y6);y4[1]? =some (ζ bN)/\
 ∃(y7:Int),let b9:=(ν Z y7);y4[2]? =some (ζ b9)/\
 ∃(y8:Int),let bS:=(ν Z y8);y4[3]? =some (ζ bS)/\
 ∃(y9:List (List D)),let ω:=K (aw []) [ar [ε Z me,γ a1,γ a2,γ a3,γ a4,γ a5,bB 128 C,γ a7,γ a8,γ a9,γ aJ,aD (ψ 1 M),aD (ψ 1 J),γ aR,γ ο,aX 1,aP none,γ aK,γ aQ,γ aL,γ a20,δ 3 0 (n+1)],bq,χ,ξ 70 7 (az n A++[[ζ bP,ζ bN,ζ b9,ζ bS,ψ 1 y9,ζ (ν Z 0),ψ 1 []]])];y4[4]? =some (ψ 1 y9)/\
 ∃(cO:List D),o=some cO/\
 ∃(cy:Int),cO[2]? =some (ζ (ν Z cy))/\
 ((cy == 3)=true->
 ∃(cz:List D),o=some cz/\
 ∃(cL:Int),cz[3]? =some (ζ (ν Z cL))/\
 ∀(dy:Nat->
 Value),∃(cY:List Int),let bj:=(ints ι (az 16 (ay (cL.toNat*16) cY)));let η:=ar [ε Z me,γ a1,γ a2,γ a3,γ a4,γ a5,bB 128 (aU ι cY),γ a7,γ a8,γ a9,γ aJ,aD (ψ 1 M),aD (ψ 1 J),γ aR,γ ο,aX 1,aP none,γ aK,γ aQ,γ aL,γ a20,δ 3 0 (n+1)];let aC:=K (aw []) [η,bq,χ,ξ 70 7 (az n A++[[ζ bP,ζ bN,ζ b9,ζ bS,ψ 1 y9,ζ (ν Z 1),ψ 1 []]])];let au:=K (aw []) [η,bq,χ,ξ 70 7 (az n A++[[ζ bP,ζ bN,ζ b9,ζ bS,ψ 1 y9,ζ (ν Z 0),ψ 1 (ay 0 (az 16 bj))]])];C=aU ι cY/\
 cY.length=128/\
 (lH cL->
 bu dy cC/\
 (16<=bj.length/\
 1<=1/\
 n<=A.length/\
 aO/\
 au)/\
 16<=bj.length/\
 1<=1/\
 n<=A.length/\
 aO/\
 au)/\
 ((lH cL->
 False)->
 bu dy cC/\
 (1<=1/\
 n<=A.length/\
 aO/\
 aC)/\
 1<=1/\
 n<=A.length/\
 aO/\
 aC))/\
 ((cy == 3)=false->
 (1<=1/\
 n<=A.length/\
 aO/\
 ω)/\
 1<=1/\
 n<=A.length/\
 aO/\
 ω)))
 ):aI Tryz.prog Mb (aG 58) 58 [aj 0 0] [ar [.int Z me,γ a1,γ a2,γ a3,γ a4,γ a5,bB 128 C,γ a7,γ a8,γ a9,γ aJ,aD (.sl 1 M),aD (.sl 1 J),γ aR,γ ο,.mp 1,.aa o,γ aK,γ aQ,γ aL,γ a20,.sl 2 0 n],.mp [Z] false false 1 (Q),ξ 70 7 (A)] (eZ [.qf 0 143] (dp 3 K)):=by apply Eq.mp (a:=an);kernel_rfl
theorem agq (a0 a1 a2 a3 a4 a8 a9 aJ bc a12 aR ο π aV aK aL a20 a21:Value) (C:List D) (nu:Int) (ch:Bool) (T:ML) (cl nm kd bk:Int) (B:List (List D)) (K:V->KB->Prop) (an:
 let aC:=V.imp [Z] false true 2 T;let aH:=[0,1,2,3,4,5,7,8,9,10,11,12,13,14,15,16,17,18,19,20,21];let au:=V.imp [Z] false true 2 (bF T [cl] [dn Z nm,ζ (ν Z 0)]);let ω:=ε Z (Z.wrap (nu+1));let η:=[0,1,2,3,4,5,8,9,10,11,12,13,14,15,16,17,18,19,20,21];((kd == 1)=true->
 ∀(y1:Nat->
 Value),∃(y2:List Int),∃(y3:List Int),let bj:=bB 128 (aU ι (splice y2 (bk.toNat*16) y3));C=aU ι y2/\
 B=ints ι y3/\
 y2.length=128/\
 (lH bk/\
 y3.length=16->
 bu y1 aH/\
 ∀(y4:Nat->
 Value),∃(y5:List L3),bI T y5/\
 (mg (cX y5 cl nm 0)->
 bu y4 η/\
 K (aw []) [ar [γ a0,γ a1,γ a2,γ a3,γ a4,ω,bj,aC,γ a8,γ a9,γ aJ,γ bc,γ a12,γ aR,γ ο,γ π,γ aV,γ aK,θ true,γ aL,γ a20,γ a21]])/\
 (l_ (cX y5 cl nm 0)->
 bu y4 η/\
 K (aw []) [ar [γ a0,γ a1,γ a2,γ a3,γ a4,ω,bj,au,γ a8,γ a9,γ aJ,γ bc,γ a12,γ aR,γ ο,γ π,γ aV,γ aK,θ true,γ aL,γ a20,γ a21]]))/\
 ((lH bk/\
 y3.length=16->
 False)->
 bu y1 aH/\
 ∀(y6:Nat->
 Value),∃(y7:List L3),bI T y7/\
 (mg (cX y7 cl nm 0)->
 bu y6 η/\
 K (aw []) [ar [γ a0,γ a1,γ a2,γ a3,γ a4,ω,bB 128 (aU ι y2),aC,γ a8,γ a9,γ aJ,γ bc,γ a12,γ aR,γ ο,γ π,γ aV,γ aK,θ true,γ aL,γ a20,γ a21]])/\
 (l_ (cX y7 cl nm 0)->
 bu y6 η/\
 K (aw []) [ar [γ a0,γ a1,γ a2,γ a3,γ a4,ω,bB 128 (aU ι y2),au,γ a8,γ a9,γ aJ,γ bc,γ a12,γ aR,γ ο,γ π,γ aV,γ aK,θ true,γ aL,γ a20,γ a21]])))/\
 ((kd == 1)=false->
 ((kd == 2)=true->
 ∀(y8:Nat->
 Value),∃(y9:List Int),let aO:=bB 128 (aU ι (splice y9 (bk.toNat*16) [0,0,0,0,0,0,0,0,0,0,0,0,0,0,0,0]));C=aU ι y9/\
 y9.length=128/\
 (lH bk->
 bu y8 aH/\
 ∀(cO:Nat->
 Value),∃(cy:List L3),bI T cy/\
 (mg (cX cy cl nm 0)->
 bu cO η/\
 K (aw []) [ar [γ a0,γ a1,γ a2,γ a3,γ a4,ω,aO,aC,γ a8,γ a9,γ aJ,γ bc,γ a12,γ aR,γ ο,γ π,γ aV,γ aK,θ true,γ aL,γ a20,γ a21]])/\
 (l_ (cX cy cl nm 0)->
 bu cO η/\
 K (aw []) [ar [γ a0,γ a1,γ a2,γ a3,γ a4,ω,aO,au,γ a8,γ a9,γ aJ,γ bc,γ a12,γ aR,γ ο,γ π,γ aV,γ aK,θ true,γ aL,γ a20,γ a21]]))/\
 ((lH bk->
 False)->
 bu y8 aH/\
 ∀(cz:Nat->
 Value),∃(cL:List L3),bI T cL/\
 (mg (cX cL cl nm 0)->
 bu cz η/\
 K (aw []) [ar [γ a0,γ a1,γ a2,γ a3,γ a4,ω,bB 128 (aU ι y9),aC,γ a8,γ a9,γ aJ,γ bc,γ a12,γ aR,γ ο,γ π,γ aV,γ aK,θ true,γ aL,γ a20,γ a21]])/\
 (l_ (cX cL cl nm 0)->
 bu cz η/\
 K (aw []) [ar [γ a0,γ a1,γ a2,γ a3,γ a4,ω,bB 128 (aU ι y9),au,γ a8,γ a9,γ aJ,γ bc,γ a12,γ aR,γ ο,γ π,γ aV,γ aK,θ true,γ aL,γ a20,γ a21]])))/\
 ((kd == 2)=false->
 K (aw []) [ar [γ a0,γ a1,γ a2,γ a3,γ a4,ω,bB 128 C,aC,γ a8,γ a9,γ aJ,γ bc,γ a12,γ aR,γ ο,γ π,γ aV,γ aK,θ true,γ aL,γ a20,γ a21]]))
 ):aI Tryz.prog L9 (aG 56) 56 [aj 0 0,.agg [.int Z cl,.int Z nm,.int Z kd,.int Z bk,aD (.sl 1 B)]] [ar [γ a0,γ a1,γ a2,γ a3,γ a4,.int Z nu,bB 128 C,.imp [Z] false true 2 T,γ a8,γ a9,γ aJ,γ bc,γ a12,γ aR,γ ο,γ π,γ aV,γ aK,θ ch,γ aL,γ a20,γ a21]] (dp 1 K):=by apply Eq.mp (a:=an);kernel_rfl
theorem agK (a0 a1 a2 a3 a4 a5 a8 a9 aJ bc a12 aR ο π aV aK aQ aL a20:Value) (C:List D) (T:ML) (cl nm kd bk:Int) (B:List (List D)) (n:Nat) (A:List (List D)) (K:V->KB->Prop) (an:
 let aH:=(aw [ε Z 0,θ true]);let η:KB:=[ar [γ a0,γ a1,γ a2,γ a3,γ a4,γ a5,bB 128 C,V.imp [Z] false true 2 T,γ a8,γ a9,γ aJ,γ bc,γ a12,γ aR,γ ο,γ π,γ aV,γ aK,γ aQ,γ aL,γ a20,δ 1 0 n],ξ 70 7 A];let au:=K (aw [ε Z 0,θ false]) η;∀(y1:Nat->
 Value),∃(y2:List L3),let ω:=K aH [ar [γ a0,γ a1,γ a2,γ a3,γ a4,γ a5,bB 128 C,V.imp [Z] false true 2 T,γ a8,γ a9,γ aJ,γ bc,γ a12,γ aR,γ ο,γ π,γ aV,γ aK,γ aQ,γ aL,γ a20,δ 2 0 (n+1)],χ,ξ 70 7 (az n A++[[ζ (ν Z cl),ζ (ν Z nm),ζ (ν Z kd),ζ (ν Z bk),ψ 1 B,ζ (ν Z (sk y2 cl nm)),ψ 1 []]])];bI T y2/\
 bu y1 [0,1,2,3,4,5,8,9,10,11,12,13,14,15,16,17,18,19,20,21]/\
 ((fT y2 cl nm == 1)=true->
 (1<=1/\
 n<=A.length/\
 (n+1)*88<=140737488355328/\
 ω)/\
 1<=1/\
 n<=A.length/\
 (n+1)*88<=140737488355328/\
 ω)/\
 ((fT y2 cl nm == 1)=false->
 ((fT y2 cl nm == 2)=true->
 K (aw [ε Z 13,θ true]) η)/\
 ((fT y2 cl nm == 2)=false->
 ∃(y3:List L3),bI T y3/\
 (mg (cX y3 cl nm 0)->
 ((cX y3 cl nm 0 != 0)=true->
 K (aw [ε Z (cX y3 cl nm 0),θ true]) η)/\
 ((cX y3 cl nm 0 != 0)=false->
 au))/\
 (l_ (cX y3 cl nm 0)->
 (false=true->
 K aH η)/\
 (false=false->
 au))))
 ):aI Tryz.prog Mf (aG 54) 54 [aj 0 0,.agg [.int Z cl,.int Z nm,.int Z kd,.int Z bk,aD (.sl 1 B)]] [ar [γ a0,γ a1,γ a2,γ a3,γ a4,γ a5,bB 128 C,.imp [Z] false true 2 T,γ a8,γ a9,γ aJ,γ bc,γ a12,γ aR,γ ο,γ π,γ aV,γ aK,γ aQ,γ aL,γ a20,.sl 1 0 n],ξ 70 7 (A)] (dp 2 K):=by apply Eq.mp (a:=an);kernel_rfl
theorem Jg (me:Int) (m j:List Int):(ia me m j).take (bz me m j).length=bz me m j:=by
 unfold ia bz vH;exact List.take_left
theorem Je (me:Int) (m j:List Int):(ia me m j).length=m.length+j.length:=by
 unfold ia vH
 have:=BG me (m++j)
 rw[bn,List.length_replicate,<- bn];omega
theorem RY (me:Int) (m j:List Int):(bz me m j).length<=m.length+j.length:=by
 have:=BG me (m++j)
 rw[bn]at this;exact this
theorem Wc:dF Tryz.prog EU:=fun f k h=>by
 unfold EU at h
 split at h
 ·cases h;exact fm Cd _
 ·cases h;exact Ra
 ·cases h
theorem VH:bZ Tryz.prog L2:=dI mixed Wc aG 10
theorem Q6:aN Tryz.prog 41 zK:=kY VH mixed (fun args kb K h=>by
 unfold zK at h;split at h<;>try exact h.elim
 obtain⟨m,j,rfl,rfl,h5,hB,h⟩:=h
 refine⟨_,af1 _ _ _ _ _ _ _ _ _ _ _ _ _ _ _ _ _ _ _ _ _ _ _ K fun f=>⟨m,j,rfl,rfl,h5,⟨by simp [bT]⟩,ia _ m j,rfl,?_,⟨?_⟩,hB,?_⟩⟩
 ·rw[Je];exact RY _ _ _
 ·rw[Je];exact h5.h
 ·rw[Jg];exact h)
theorem aat:dF Tryz.prog HV:=fun f k h=>by
 unfold HV at h
 split at h
 ·cases h;exact fm Q6 _
 ·cases h
theorem VU:bZ Tryz.prog EN:=dI mixed aat aG 10
theorem I2:aN Tryz.prog 14 qF:=kY VU mixed (fun args kb K h=>by
 unfold qF at h;split at h<;>try exact h.elim
 ·obtain⟨rfl,h⟩:=h
  exact⟨_,agL _ _ _ _ _ _ _ _ _ _ _ _ _ _ _ _ _ _ _ _ _ _ K ⟨fun e=>(by cases e),fun _=>⟨h,h⟩⟩⟩
 ·obtain⟨m,j,rfl,rfl,h5,hB,rfl,h⟩:=h
  have k:∀ f:Nat->Value,bu f [1,2,3,4,5,7,8,9,10,13,14,15,16,17,18,19,20,21]:=fun f=>⟨by simp [bT]⟩
  exact⟨_,agM _ _ _ _ _ _ _ _ _ _ _ _ _ _ _ _ _ _ _ _ _ _ K ⟨fun _=>⟨fun f=>⟨m,j,rfl,rfl,h5,hB,k f,rfl,h⟩,fun f=>⟨m,j,rfl,rfl,h5,hB,k f,rfl,h⟩⟩,fun f=>by cases f⟩⟩)
theorem Ri:aN Tryz.prog 52 zU:=kY fN mixed (fun args kb K h=>by
 unfold zU at h;split at h<;>try exact h.elim
 rename_i cl nm kd bk B
 refine⟨_,agJ _ _ _ _ _ K ?_⟩
 have key:∀{b:Bool},b=ke cl nm kd bk B.length->K (θ b) []:=fun e=>by rw[e];exact h
 refine⟨fun e1=>⟨fun e2=>⟨fun e3=>⟨fun e4=>⟨fun e5=>⟨fun e6=>⟨fun e7=>⟨fun e8=>⟨fun e9=>?_,fun e9=>?_⟩,fun e8=>?_⟩,fun e7=>?_⟩,fun e6=>?_⟩,fun e5=>?_⟩,fun e4=>?_⟩,fun e3=>?_⟩,fun e2=>?_⟩,fun e1=>?_⟩<;>refine key ?_<;>unfold ke
 ·simp only[decide_eq_true_eq,bne_iff_ne,ne_eq]at*
  exact(decide_eq_true ⟨e1,e2,e3,e4,e5,e6,e7,e8,fun h=>absurd h e9⟩).symm
 ·simp only[decide_eq_true_eq,bne_eq_false_iff_eq]at*
  rw[Bool.eq_iff_iff]
  simp only[beq_iff_eq,decide_eq_true_eq]
  omega
 all_goals
  simp only[decide_eq_true_eq,decide_eq_false_iff_not]at*
  refine(decide_eq_false ?_).symm
  omega)
theorem abM:aN Tryz.prog 53 Eb:=kY fN mixed (fun args kb K h=>by
 unfold Eb at h;split at h<;>try exact h.elim
 rename_i cl nm kd bk B
 refine⟨_,agI _ _ _ _ _ K ?_⟩
 have key:∀{b:Bool},b=nL kd->K (θ b) []:=fun e=>by rw[e];exact h
 refine⟨fun e=>key ?_,fun e=>key ?_⟩<;>unfold nL
 ·simp only[beq_iff_eq]at e
  exact(decide_eq_true (.inl e)).symm
 ·simp only[beq_eq_false_iff_ne,ne_eq]at e
  rw[Bool.eq_iff_iff]
  simp only[beq_iff_eq,decide_eq_true_eq]
  omega)
theorem X1:dF Tryz.prog Gk:=fun f k h=>by
 unfold Gk at h
 split at h
 ·cases h;exact fm Q6 _
 ·cases h;exact fm Q7 _
 ·cases h
theorem VQ:bZ Tryz.prog Mb:=dI mixed X1 aG 10
theorem rP {A:List (List D)} {n:Nat} (h:n=A.length):az n A=A:=by subst h;exact cM
theorem Rf:aN Tryz.prog 58 zR:=mE VQ mixed [.qf 0 143] (fun args kb K h=>by
 unfold zR at h;split at h<;>try exact h.elim
 rename_i me _ _ _ _ _ C _ _ _ _ M J _ _ _ _ _ _ _ n Q A
 obtain⟨hn,⟨hn2⟩,m,j,c,p,⟨rfl,hl,hb⟩,rfl,rfl,h5,hB,rfl,G5,h0,h1⟩:=h
 refine⟨_,agz _ _ _ _ _ _ _ _ _ _ _ _ _ _ _ _ _ _ _ _ _ _ _ K ⟨fun f=>(by cases f),fun _ f=>⟨m,j,rfl,rfl,h5,hB,⟨by simp [bT]⟩,fun e=>h0 (by simpa [allI]using e),fun e=>?_⟩⟩⟩
 have e:allI me m j Q=true:=by simpa [allI]using e
 have h1:=h1 e
 have hlen:(az 16 (ay (p.bk.toNat*16) c)).length=16:=by
  have:=G5.1;have:=G5.2
  rw[cQ,fQ,hl];omega
 refine⟨bo p,rfl,p.cl,rfl,p.nm,rfl,p.kd,rfl,p.bk,rfl,ints ι p.b,rfl,bo p,rfl,p.kd,rfl,fun e3=>⟨bo p,rfl,p.bk,rfl,fun f=>⟨c,rfl,hl,fun _=>⟨⟨by simp [bT]⟩,?_⟩,fun ho=>(ho G5).elim⟩⟩,fun e3=>?_⟩
 ·have:p9 c p.kd p.bk=ints ι ((c.drop (p.bk.toNat*16)).take 16):=by unfold p9;rw[if_pos (by simpa using e3)]
  rw[this]at h1
  rw[rQ hlen.symm,rP hn,bi,hlen]
  exact⟨⟨av _,av _,Nat.le_of_eq hn,by omega,h1⟩,av _,av _,Nat.le_of_eq hn,by omega,h1⟩
 ·have:p9 c p.kd p.bk=[]:=by unfold p9;rw[if_neg (by simpa using e3)]
  rw[this]at h1
  rw[rP hn]
  exact⟨⟨av _,Nat.le_of_eq hn,by omega,h1⟩,av _,Nat.le_of_eq hn,by omega,h1⟩)
theorem XH:dF Tryz.prog F5:=fun f k h=>by
 unfold F5 at h
 split at h
 ·cases h;exact fm Rw _
 ·cases h;exact fm Ru _
 ·cases h;exact fm acm _
 ·cases h
theorem VN:bZ Tryz.prog L9:=dI mixed XH aG 10
theorem CA {cl nm kd bk:Int} {b:Nat} (h:uW cl nm kd bk b):lH bk:=by
 have:=h.h
 simp only[ke,decide_eq_true_eq]at this
 exact⟨by omega,by omega⟩
theorem aek {cl nm bk:Int} {b:Nat} (h:uW cl nm 1 bk b):b=16:=by
 have:=h.h
 simp only[ke,decide_eq_true_eq]at this
 exact this.2.2.2.2.2.2.2.2 trivial
theorem XE {c b:List Int} {bk:Int}:fc c 1 bk b=splice c (bk.toNat*16) b:=by simp [fc]
theorem XF {c b:List Int} {bk:Int}:fc c 2 bk b=splice c (bk.toNat*16) (dq 16 0):=by simp [fc]
theorem XG {c b:List Int} {kd bk:Int} (h1:¬ kd=1) (h2:¬ kd=2):fc c kd bk b=c:=by simp [fc,h1,h2]
theorem Rb:aN Tryz.prog 56 zQ:=kY VN mixed (fun args kb K h=>by
 unfold zQ at h;split at h<;>try exact h.elim
 ·rename_i cl nm kd bk B _ _ _ _ _ nu C T _ _ _ _ _ _ _ _ _ _ ch _ _ _
  obtain⟨c,b,x,⟨rfl,hl,hb⟩,rfl,hT,mu,hR,hn,hc⟩:=h
  have ew:Z.wrap (nu+1)=nu+1:=bD (by have:=mu.lo;omega) (by have:=mu.hi;omega)
  have hok:=CA hR
  refine⟨_,agq _ _ _ _ _ _ _ _ _ _ _ _ _ _ _ _ _ _ _ _ _ _ _ _ _ _ _ K ?_⟩
  rw[ew]
  refine⟨fun e=>?_,fun e=>⟨fun e2=>?_,fun e2=>?_⟩⟩
  ·have e:kd=1:=by simpa using e
   subst e
   obtain⟨h1,h2⟩:=hc ⟨rfl⟩
   rw[XE]at h1 h2
   refine fun f=>⟨c,b,rfl,rfl,hl,fun _=>⟨⟨by simp [bT]⟩,fun f=>⟨x,hT,fun e=>⟨⟨by simp [bT]⟩,h1 e⟩,fun e=>⟨⟨by simp [bT]⟩,h2 e⟩⟩⟩,fun hno=>(hno ⟨hok,aek hR⟩).elim⟩
  ·have e:kd=2:=by simpa using e2
   subst e
   obtain⟨h1,h2⟩:=hc ⟨rfl⟩
   rw[XF]at h1 h2
   refine fun f=>⟨c,rfl,hl,fun _=>⟨⟨by simp [bT]⟩,fun f=>⟨x,hT,fun e=>⟨⟨by simp [bT]⟩,h1 e⟩,fun e=>⟨⟨by simp [bT]⟩,h2 e⟩⟩⟩,fun hno=>(hno hok).elim⟩
  ·have e1:¬ kd=1:=by simpa using e
   have e2:¬ kd=2:=by simpa using e2
   have:=hn ⟨by simp [nL,e1,e2]⟩
   rw[XG e1 e2]at this
   exact this)
theorem aal:dF Tryz.prog HT:=fun f k h=>by
 unfold HT at h
 split at h
 ·cases h;exact fm abj _
 ·cases h;exact Ro
 ·cases h
theorem VT:bZ Tryz.prog Mf:=dI mixed aal aG 10
theorem W5 (x:List L3) (c n:Int):fT x c n=0∨fT x c n=1∨fT x c n=2:=by
 unfold fT
 split
 ·exact .inl rfl
 ·split
  ·exact .inl rfl
  ·split
   ·exact .inr (.inl rfl)
   ·exact .inr (.inr rfl)
theorem abN:aN Tryz.prog 54 Ec:=kY VT mixed (fun args kb K h=>by
 unfold Ec at h;split at h<;>try exact h.elim
 ·rename_i cl nm kd bk B _ _ _ _ _ _ C T _ _ _ _ _ _ _ _ _ _ _ _ _ n A
  obtain⟨hn,⟨hn2⟩,x,hT,h1,h2,h0⟩:=h
  refine⟨_,agK _ _ _ _ _ _ _ _ _ _ _ _ _ _ _ _ _ _ _ _ _ _ _ _ _ _ _ _ K fun f=>⟨x,hT,⟨by simp [bT]⟩,fun e=>?_,fun e=>⟨fun e2=>?_,fun e2=>?_⟩⟩⟩
  ·have h1:=h1 ⟨by simpa using e⟩
   rw[rP hn]
   exact⟨⟨av _,Nat.le_of_eq hn,by omega,h1⟩,av _,Nat.le_of_eq hn,by omega,h1⟩
  ·exact h2 ⟨by simpa using e2⟩
  ·have e:¬ fT x cl nm=1:=by simpa using e
   have e2:¬ fT x cl nm=2:=by simpa using e2
   obtain⟨h3,h4⟩:=h0 ⟨by have:=W5 x cl nm;omega⟩
   exact⟨x,hT,fun hz=>⟨fun _=>h3 hz,fun he=>(hz.h (by simpa using he)).elim⟩,fun hz=>⟨fun f=>(by cases f),fun _=>h4 hz⟩⟩)
end Go.Proofs.YtfcjngcnifdmnaaGreat
set_option linter.unusedSimpArgs false
set_option linter.unusedVariables false
namespace Vc
open Go
open Go.IntKind renaming i64->Z,u8->ι,u32->ic
open Go.Value renaming int->ν,map->kq,oneCell'->lU,bool->nE
open List renaming map->φ,drop->ay,take->az,length_append->bn,getElem?_eq_getElem->bp,getElem?_eq_some_iff->bG,length_map->bX,take_length->cM,length_take->cQ,replicate->dq,mem_append->dM,append_assoc->dO,getElem?_append_left->dP,mem_singleton->dQ,Mem->dS,mem_cons->ey,mem_map->eL,take_of_length_le->eM,getElem?_append_right->eW,mem_of_getElem?->fi,append_nil->fD,getElem?_map->fE,mem_cons_of_mem->fM,length_drop->fQ,getElem?_set_ne->gr,getD_eq_getElem?_getD->gD,getElem?_eq_none->gO,drop_zero->g_,getElem?_take_of_lt->hU,getElem?_set_self->ig,length_singleton->ii,length_set->ir,mem_cons_self->iu,range->iw,mem_append_left->iL,length_cons->iZ,take_add_one->i_,flatten_cons->jm,getElem?_drop->jw,getElem?_of_mem->jx,map_append->jy,nil_append->jV,length_nil->kn,mem_filter->kM,ext_getElem?->lw,eq_nil_of_length_eq_zero->ma,map_cons->mb,mem_append_right->mc
open Nat renaming le_refl->av,zero_le->bt,beq->cp,eq_of_beq_eq_true->cU,zero_add->c9,add_assoc->gE,lor->iy,lt_or_ge->jX,sub_zero->lT,le_trans->mf
open Option renaming some->bb,bind_eq_some_iff->kP,map->mO
open Int renaming toNat_natCast->cP,le_refl->fa
open Bool renaming and_eq_true->km,not_eq_false'->lm,not_eq_true'->lR
abbrev pv (b:Nat):Value:=.pointer (some ⟨b,0,none⟩)
def wQ:V->Value->Prop
 | .any v,p=>v=p
 | .dat d,p=>d= .val p
 |_,_=>False
theorem wQ.den {v:V} {p:Value} (h:wQ v p) {σ:Sg} {E:EH} {x:Value} (hd:Den σ E v x):x=p:=by
 cases v<;>simp only[wQ]at h
 ·subst h;simpa only[Den]using hd
 ·subst h;simp only[Den,bK]at hd;exact hd.1
theorem wb {σ σ':Sg} {E:EH} {v v':V} (h:V.bY (fun _=>none) v=some v') {x:Value} (hd:Den σ E v x):Den σ' E v' x:=
 Den.bY (fun i j r hi=>by cases hi) h hd
theorem SI {σ σ':Sg} {E:EH} {vs vs':List V} (h:V.kW (fun _=>none) vs=some vs') {xs:List Value} (hd:aq σ E vs xs):aq σ' E vs' xs:=
 aq.bY (fun i j r hi=>by cases hi) h hd
theorem JW {σ:Sg} {o:List Nat} (ho:o.take 1=iw 1) {b:Nat} (h:nT σ b):nT (dN σ o) b:=by
 obtain⟨r,h1,h2⟩:=h
 cases o with
 |nil=>simp at ho
 |cons i o=>
  simp [List.range_succ]at ho
  subst ho
  exact⟨r,by simp [dN,h1],h2⟩
theorem adp {q:Re} {E E':EH} {W W':World} {A:List (Sg×KB)} (hi:Inv [q] E [.objs A] W) {k:Nat} {a:Sg×KB} (hk:A[k]? =some a) {σ':Sg} {bE:KB} (hst:Step a.1 E a.2 W σ' E' bE W')
  {a':Sg×KB} (ha:nC E' W' a') (hown:∀ b,jn a' b->cq σ' bE b):Step [q] E [.objs A] W [q] E' [.objs (A.set k a')] W':=by
 have hp:pP E W A:=hi.obj 0 q _ rfl rfl
 have hka:=(bG.1 hk).1
 have hmem:a∈A:=fi hk
 have hin:∀{b:Nat} {c:Sg×KB},c∈A->jn c b->cq [q] [.objs A] b:=fun{b c} hc hb=>⟨0,q,_,rfl,rfl,c,hc,hb⟩
 have Bq:∀(m:Nat) (c:Sg×KB) (b:Nat),m≠k->A[m]? =some c->jn c b->¬ cq a.1 a.2 b:=fun m c b hm hc hb ho=>
  hp.dx m k c a b hm hc hk hb ((hp.ok a hmem).owns ho)
 have hkeep:∀(m:Nat) (c:Sg×KB) (b:Nat),m≠k->A[m]? =some c->jn c b->W'.heap[b]? =W.heap[b]?:=fun m c b hm hc hb=>
  hst.bQ.block b ((hp.ok c (fi hc)).lt hb) (Bq m c b hm hc hb)
 have eO:∀(m:Nat) (c:Sg×KB),(A.set k a')[m]? =some c->(m=k/\c=a')∨(m≠k/\A[m]? =some c):=fun m c h=>by
  by_cases e:k=m
  ·subst e
   rw[ig hka]at h
   exact .inl ⟨rfl,(bb.inj h).symm⟩
  ·rw[gr e]at h
   exact .inr ⟨fun x=>e x.symm,h⟩
 have hnew:∀ b,jn a' b->cq a.1 a.2 b∨W.heap.size<=b:=fun b hb=>hst.own b (hown b hb)
 have Hw:pP E' W' (A.set k a'):=by
  refine⟨fun c hc=>?_,fun m n c d b hmn hc hd h1 h2=>?_⟩
  ·obtain⟨m,hm⟩:=jx hc
   rcases eO m c hm with ⟨rfl,rfl⟩ | ⟨e,h⟩
   ·exact ha
   ·exact(hp.ok c (fi h)).mono hst.le (fun b hb=>hkeep m c b e h hb)
  ·rcases eO m c hc with ⟨rfl,rfl⟩ | ⟨e,h⟩<;>rcases eO n d hd with ⟨rfl,rfl⟩ | ⟨e',h'⟩
   ·exact hmn rfl
   ·rcases hnew b h1 with k1 | k1
    ·exact Bq n d b e' h' h2 k1
    ·have:=(hp.ok d (fi h')).lt h2;omega
   ·rcases hnew b h2 with k1 | k1
    ·exact Bq m c b e h h1 k1
    ·have:=(hp.ok c (fi h)).lt h1;omega
   ·exact hp.dx m n c d b hmn h h' h1 h2
 have qT:∀ b,cq [q] [.objs (A.set k a')] b->cq [q] [.objs A] b∨W.heap.size<=b:=by
  rintro b ⟨i,r,o,h1,h2,h3⟩
  have:i=0:=by
   rcases i with _ | i
   ·rfl
   ·simp at h1
  subst this
  simp at h1 h2;subst h1;subst h2
  obtain⟨c,hc,hb⟩:=h3
  obtain⟨m,hm⟩:=jx hc
  rcases eO m c hm with ⟨rfl,rfl⟩ | ⟨e,h⟩
  ·rcases hnew b hb with k1 | k1
   ·exact .inl (hin hmem ((hp.ok a hmem).owns k1))
   ·exact .inr k1
  ·exact .inl (hin (fi h) hb)
 refine⟨⟨rfl,fun i r o h1 h2=>?_,fun i j r r' o o' b hij h1 h2 h3 h4 _ _=>?_,hst.inv.dj,fun b hb=>?_⟩,⟨hst.bQ.os,hst.bQ.tape,hst.bQ.output,hst.bQ.size,fun b hb hn=>hst.bQ.block b hb (fun ho=>hn (hin hmem ((hp.ok a hmem).owns ho)))⟩,⟨[],by simp⟩,hst.le,qT,fun b o hb=>?_⟩
 ·have:i=0:=by
   rcases i with _ | i
   ·rfl
   ·simp at h1
  subst this
  simp at h1 h2;subst h1;subst h2
  exact Hw
 ·have e1:i=0:=by
   rcases i with _ | i
   ·rfl
   ·simp at h1
  have e2:j=0:=by
   rcases j with _ | j
   ·rfl
   ·simp at h3
  omega
 ·obtain⟨i,r,o,h1,h2,h3⟩:=hb
  have:i=0:=by
   rcases i with _ | i
   ·rfl
   ·simp at h1
  subst this
  simp at h1 h2;subst h1;subst h2
  obtain⟨c,hc,hcb⟩:=h3
  obtain⟨m,hm⟩:=jx hc
  rcases eO m c hm with ⟨rfl,rfl⟩ | ⟨e,h⟩
  ·exact hst.inv.sep b (hown b hcb)
  ·cases hE:E' b with
   |none=>rfl
   |some x=>
    rcases hst.new b x hE with k1 | k1 | k1
    ·rw[hi.sep b (hin (fi h) hcb)]at k1;cases k1
    ·exact(Bq m c b e h hcb k1).elim
    ·have:=(hp.ok c (fi h)).lt hcb;omega
 ·rcases hst.new b o hb with k1 | k1 | k1
  ·exact .inl k1
  ·exact .inr (.inl (hin hmem ((hp.ok a hmem).owns k1)))
  ·exact .inr (.inr k1)
def eQ (K:V->KB->Prop):V->KB->Prop:=fun r kb=>match sj false 1 [] kb,V.bY (fun _=>none) r with
 |some (_,dB,_),some r'=>match gd dB with | true=>K r' dB | false=>False
 |_,_=>False
theorem Ij {P:Program} {f:FuncId} {S S0:aE} (hS:aN P f S0) (h:∀ args kb K,S args kb K->S0 args kb (eQ K)):fZ P f S:=fun args kb K hs σ E W xs hi hd=>by
 refine(hS _ _ _ (h args kb K hs) σ E W xs hi hd).mono ?_
 rintro e W' ⟨v,r,σ',E',bE,rfl,hst,eG,hK⟩
 unfold eQ at hK
 split at hK<;>try exact hK.elim
 rename_i vs' dB o r' hc hr'
 split at hK<;>try exact hK.elim
 rename_i mW
 obtain⟨hn,ht,_,hsel⟩:=qI hc
 obtain⟨k1,k2,k3⟩:=hst.inv.sel hn hsel
 refine⟨v,r',σ',E',bE,_,dB,rfl,hst,k1,mW,k2,fun b hb=>?_,fun τ=>wb hr' eG,hK⟩
 obtain⟨τ,rfl⟩:=hst.pre
 obtain⟨r,hr,hrb⟩:=hb
 exact JW ht ⟨r,gk hr,hrb⟩
theorem BU {P:Program} (hm:P.follows .mixedOrders=true) {f:FuncId} {S:aE} (h:∀ args kb K,S args kb K->∃(X:bJ) (T:Nat->Option LI),bZ P X/\aI P X T f args kb (eQ K)):fZ P f S:=
 Ij (wn hm (S:=fun a k K0=>∃ X T,bZ P X/\aI P X T f a k K0) fun _ _ _ h=>h) h
def XZ (l:List V) (k:Nat):Bool:=match l[k]? with
 |some (.sb b)=>match b with | true=>false | false=>true
 |some .ff=>true
 |_=>false
def Hi (k:Nat) (ms:List Bool) (kb:KB) (K:KB->Prop):Prop:=match kb with
 | .cells l::rest=>match XZ l k with
  |true=>∀ f:Nat->Value,match my f ms l 0 with
   |some l'=>K (.cells l'::rest)
   |none=>False
  |false=>K (.cells l::rest)
 |kb=>K kb
theorem Pj {k:Nat} {ms:List Bool} {kb:KB} {K:KB->Prop} (h:Hi k ms kb K) {σ:Sg} {E:EH} {W:World} (hi:Inv σ E kb W):∃ kb',Inv σ E kb' W/\(∀ b,cq σ kb' b->cq σ kb b)/\K kb':=by
 unfold Hi at h
 split at h
 ·rename_i l rest
  split at h
  ·obtain⟨q,hq⟩:∃ q,σ[0]? =some q:=by
    have:=hi.len
    cases σ with
    |nil=>simp at this
    |cons q σ=>exact⟨q,rfl⟩
   obtain⟨arr,ty,ha,hl⟩:=hi.obj 0 q _ hq rfl
   obtain⟨f,hf⟩:=BT (ms:=ms) (i:=0) hl
   have h:=h f
   split at h<;>try exact h.elim
   rename_i l' hl'
   obtain⟨h1,h2⟩:=hf l' hl'
   refine⟨_,⟨by simpa using hi.len,fun i q' o k1 k2=>?_,fun i j q1 q2 o o' b hij k1 k2 k3 k4 k5 k6=>?_,hi.dj,fun b hb=>hi.sep b (sR hb)⟩,fun b hb=>sR hb,h⟩
   ·cases i with
    |zero=>
     simp at k2;subst k2
     rw[hq]at k1;cases k1
     exact⟨arr,ty,ha,h1⟩
    |succ i=>exact hi.obj (i+1) q' o k1 (by simpa using k2)
   ·have key:∀(i:Nat) (o:KO) (q:Re),(KO.cells l'::rest)[i]? =some o->owned q o b->∃ o2,(KO.cells l::rest)[i]? =some o2/\owned q o2 b:=fun i o q h2 h5=>by
     cases i with
     |zero=>simp at h2;subst h2;exact⟨_,rfl,h5⟩
     |succ i=>exact⟨o,by simpa using h2,h5⟩
    obtain⟨o2,g1,g2⟩:=key i o q1 k2 k5
    obtain⟨o3,g3,g4⟩:=key j o' q2 k4 k6
    exact hi.dx i j q1 q2 o2 o3 b hij k1 g1 k3 g3 g2 g4
  ·exact⟨_,hi,fun b hb=>hb,h⟩
 ·exact⟨_,hi,fun b hb=>hb,h⟩
def gj (k:Nat) (ms:List Bool) (K:V->KB->Prop):V->KB->Prop:=fun r kb=>Hi k ms kb (eQ K r)
theorem aaP {P:Program} {f:FuncId} {S S0:aE} (hS:aN P f S0) (k:Nat) (ms:List Bool) (h:∀ args kb K,S args kb K->S0 args kb (gj k ms K)):fZ P f S:=fun args kb K hs σ E W xs hi hd=>by
 refine(hS _ _ _ (h args kb K hs) σ E W xs hi hd).mono ?_
 rintro e W' ⟨v,r,σ',E',bE,rfl,hst,eG,hK⟩
 obtain⟨kbm,him,Hu,hK⟩:=Pj hK hst.inv
 unfold eQ at hK
 split at hK<;>try exact hK.elim
 rename_i vs' dB o r' hc hr'
 split at hK<;>try exact hK.elim
 rename_i mW
 obtain⟨hn,ht,_,hsel⟩:=qI hc
 obtain⟨k1,k2,k3⟩:=him.sel hn hsel
 refine⟨v,r',σ',E',bE,_,dB,rfl,hst,k1,mW,fun b hb=>Hu b (k2 b hb),fun b hb=>?_,fun τ=>wb hr' eG,hK⟩
 obtain⟨τ,rfl⟩:=hst.pre
 obtain⟨r,hr,hrb⟩:=hb
 exact JW ht ⟨r,gk hr,hrb⟩
theorem uh {P:Program} (hm:P.follows .mixedOrders=true) (k:Nat) (ms:List Bool) {f:FuncId} {S:aE} (h:∀ args kb K,S args kb K->∃(X:bJ) (T:Nat->Option LI),bZ P X/\aI P X T f args kb (gj k ms K)):fZ P f S:=
 aaP (wn hm (S:=fun a k K0=>∃ X T,bZ P X/\aI P X T f a k K0) fun _ _ _ h=>h) k ms h
def wc (k:Nat) (ms:List Bool) (K:V->KB->Prop):V->KB->Prop:=fun r kb=>match kb with
 | .iW a:: _=>match V.bY (fun _=>none) r with
  |some r'=>gd a.2=true/\K r' a.2
  |none=>False
 |kb=>gj k ms K r kb
theorem aaQ {P:Program} (hm:P.follows .mixedOrders=true) (k:Nat) (ms:List Bool) {f:FuncId} {S:aE} (h:∀ args kb K,S args kb K->∃(X:bJ) (T:Nat->Option LI),bZ P X/\aI P X T f args kb (wc k ms K)):fZ P f S:=fun args kb K hs σ E W xs hi hd=>by
 have h0:aN P f (fun a k K0=>∃ X T,bZ P X/\aI P X T f a k K0):=wn hm fun _ _ _ h=>h
 refine(h0 _ _ _ (h args kb K hs) σ E W xs hi hd).mono ?_
 rintro e W' ⟨v,r,σ',E',bE,rfl,hst,eG,hK⟩
 unfold wc at hK
 split at hK
 ·rename_i a rest
  split at hK<;>try exact hK.elim
  rename_i r' hr'
  obtain⟨mW,hK⟩:=hK
  obtain⟨q,hq⟩:∃ q,σ'[0]? =some q:=by
   have:=hst.inv.len
   cases σ' with
   |nil=>simp at this
   |cons q _=>exact⟨q,rfl⟩
  obtain⟨h1,h2⟩:=hst.inv.obj 0 q _ hq rfl
  refine⟨v,r',σ',E',_,a.1,a.2,rfl,hst,h1.inv hst.inv.dj (fun b hb=>hst.inv.sep b ⟨0,q,_,hq,rfl,hb⟩),mW,fun b hb=>⟨0,q,_,hq,rfl,h1.owns hb⟩,fun b hb=>?_,fun τ=>wb hr' eG,hK⟩
  obtain⟨q0,g1,rfl⟩:=hb
  obtain⟨τ,rfl⟩:=hst.pre
  have:=gk (τ:=τ) g1
  rw[hq]at this;cases this
  exact h2
 ·obtain⟨kbm,him,Hu,hK⟩:=Pj hK hst.inv
  unfold eQ at hK
  split at hK<;>try exact hK.elim
  rename_i vs' dB o r' hc hr'
  split at hK<;>try exact hK.elim
  rename_i mW
  obtain⟨hn,ht,_,hsel⟩:=qI hc
  obtain⟨k1,k2,k3⟩:=him.sel hn hsel
  refine⟨v,r',σ',E',bE,_,dB,rfl,hst,k1,mW,fun b hb=>Hu b (k2 b hb),fun b hb=>?_,fun τ=>wb hr' eG,hK⟩
  obtain⟨τ,rfl⟩:=hst.pre
  obtain⟨r,hr,hrb⟩:=hb
  exact JW ht ⟨r,gk hr,hrb⟩
def Qp (S:aE):aE:=fun args kb K=>match args,kb with
 |v::rest,[.objs A]=>∃ k a b rest',A[k]? =some a/\nT a.1 b/\wQ v (pv b)/\V.kW (fun _=>none) rest=some rest'/\
  S (.ptr 0 0::rest') a.2 (fun r dB=>∀ τ,nT τ b->K r [.objs (A.set k (τ,dB))])
 |_,_=>False
theorem aaR {P:Program} {f:FuncId} {S:aE} (hS:fZ P f S):aN P f (Qp S):=fun args kb K h σ E W xs hi hd=>by
 unfold Qp at h
 split at h<;>try exact h.elim
 rename_i v rest A
 obtain⟨k,a,b,rest',hk,sG,hv,qX,h⟩:=h
 obtain⟨q,rfl⟩:∃ q,σ=[q]:=by
  have:=hi.len
  match σ,this with
  | [q],_=>exact⟨q,rfl⟩
 have hp:pP E W A:=hi.obj 0 q _ rfl rfl
 have hmem:a∈A:=fi hk
 simp only[aq]at hd
 obtain⟨x,xs',rfl,hx,hxs⟩:=hd
 have hx:=hv.den hx
 subst hx
 have hsep:∀ c,jn a c->E c=none:=fun c hc=>hi.sep c ⟨0,q,_,rfl,rfl,a,hmem,hc⟩
 have Zd:=(hp.ok a hmem).inv hi.dj hsep
 have ZI:=sG
 obtain⟨r,hr,hrb⟩:=sG
 refine(hS _ _ _ h a.1 E W _ Zd (aq.cons (by simp only[Den];exact⟨r,hr,by rw[hrb]⟩) (SI qX hxs))).mono ?_
 rintro e W' ⟨v2,r2,σ',E',bE,σ3,dB,rfl,hst,hin,mW,hown,mZ,eG,hK⟩
 exact⟨v2,r2,[q],E',_,rfl,adp hi hk hst (hin.IW mW) (fun c hc=>hown c hc.up),eG _,hK _ (mZ b ZI)⟩
def KG (b:Nat):V->Option V
 | .ptr 0 0=>some (.any (pv b))
 | .υ [.ptr 0 0,v]=>match V.bY (fun _=>none) v with | some v'=>some (.υ [.any (pv b),v']) | none=>none
 |_=>none
theorem Ur {b:Nat} {v v':V} (h:KG b v=some v') {σ σ':Sg} {E:EH} (hr:nT σ b) {x:Value} (hd:Den σ E v x):Den σ' E v' x:=by
 obtain⟨r,hr,hb⟩:=hr
 unfold KG at h
 split at h<;>try (cases h;done)
 ·cases h
  simp only[Den]at hd ⊢
  obtain⟨r',h1,h2⟩:=hd
  rw[hr]at h1;cases h1
  rw[h2,hb]
 ·split at h<;>try (cases h;done)
  rename_i w w' hw
  cases h
  simp only[Den]at hd ⊢
  obtain⟨vs,rfl,h1⟩:=hd
  simp only[aq,Den]at h1
  obtain⟨x1,xs1,rfl,⟨r',h2,h3⟩,x2,UX,rfl,h4,rfl⟩:=h1
  rw[hr]at h2;cases h2
  refine⟨_,rfl,aq.cons (by simp only[Den];rw[h3,hb]) (aq.cons (wb hw h4) .nil)⟩
theorem aac {σ:Sg} {E:EH} {kb:KB} {W:World} (h:Inv σ E kb W):Inv [] E [] W:=
 ⟨rfl,fun i r o h=>by simp at h,fun i j r r' o o' b _ h=>by simp at h,h.dj,fun b ⟨i,r,o,h,_⟩=>by simp at h⟩
theorem yz {b:Nat} (h:cq [] [] b):False:=by obtain⟨i,r,o,h,_⟩:=h;simp at h
def WH (S:aE):aE:=fun args kb K=>∃ A args',(kb=[]/\A=[]∨kb=[.objs A])/\V.kW (fun _=>none) args=some args'/\
 S args' [] (fun r bE=>match sj false 0 [r] bE with
  |some ([r'],[],_)=>match V.bY (fun _=>none) r' with | some r2=>K r2 kb | none=>False
  |some ([r'],dB,_)=>gd dB=true/\∀ b τ,nT τ b->match KG b r' with | some r2=>K r2 [.objs (A++[(τ,dB)])] | none=>False
  |_=>False)
theorem Fo {P:Program} {f:FuncId} {S:aE} (hS:aN P f S):aN P f (WH S):=fun args kb K h σ E W xs hi hd=>by
 obtain⟨A,args',hkb,ha,h⟩:=h
 refine(hS _ _ _ h [] E W _ (aac hi) (SI ha hd)).mono ?_
 rintro e W' ⟨v,r,σ',E',bE,rfl,hst,eG,hK⟩
 have keep:∀ b,b<W.heap.size->W'.heap[b]? =W.heap[b]?:=fun b hb=>hst.bQ.block b hb (fun ho=>yz ho)
 have OI:∀ b,b<W.heap.size->E b=none->E' b=none:=fun b hb hE=>by
  cases xP:E' b with
  |none=>rfl
  |some x=>
   rcases hst.new b x xP with k | k | k
   ·rw[hE]at k;cases k
   ·exact(yz k).elim
   ·omega
 have hnew2:∀{uP:Sg} {rf:KB} (b:Nat) (o:Obj),E' b=some o->E b=some o∨cq uP rf b∨W.heap.size<=b:=fun b o hb=>by
  rcases hst.new b o hb with k | k | k
  ·exact .inl k
  ·exact(yz k).elim
  ·exact .inr (.inr k)
 split at hK<;>try exact hK.elim
 ·
  split at hK<;>try exact hK.elim
  rename_i r' o hc _ r2 Br
  obtain⟨hn,ht,Hz,hsel⟩:=qI hc
  obtain⟨k1,k2,k3⟩:=hst.inv.sel hn hsel
  have hl:=aq.bY k3 Hz (xB eG)
  refine⟨v,r2,σ,E',kb,rfl,⟨⟨hi.len,fun i r o h1 h2=>?_,hi.dx,hst.inv.dj,fun b hb=>OI b (hi.lt hb) (hi.sep b hb)⟩,⟨hst.bQ.os,hst.bQ.tape,hst.bQ.output,hst.bQ.size,fun b hb _=>keep b hb⟩,⟨[],by simp⟩,hst.le,fun b hb=> .inl hb,hnew2⟩,wb Br (xC hl),hK⟩
  have:=(hi.obj i r o h1 h2).mono (τ:=[]) (W':=W') hst.le (fun b hb=>keep b ((hi.obj i r o h1 h2).lt hb))
  simpa using this
 ·rename_i r' dB o hne hc
  obtain⟨mW,hK⟩:=hK
  obtain⟨hn,ht,Hz,hsel⟩:=qI hc
  obtain⟨k1,k2,k3⟩:=hst.inv.sel hn hsel
  have hl:=xC (aq.bY k3 Hz (xB eG))
  obtain⟨q,hq⟩:∃ q,(dN σ' o)[0]? =some q:=by
   have:=k1.len
   cases hs:dN σ' o with
   |nil=>
    rw[hs]at this
    cases dB with
    |nil=>exact absurd rfl hne
    |cons _ _=>simp at this
   |cons q _=>exact⟨q,rfl⟩
  have sG:nT (dN σ' o) q.blk:=⟨q,hq,rfl⟩
  have hK:=hK q.blk _ sG
  split at hK<;>try exact hK.elim
  rename_i r2 Br
  have qd:=k1.IW mW
  have Hg:∀ b,jn (dN σ' o,dB) b->W.heap.size<=b:=fun b hb=>by
   rcases hst.own b (k2 b hb.up)with k | k
   ·exact(yz k).elim
   ·exact k
  have hold:pP E W A:=by
   rcases hkb with ⟨rfl,rfl⟩ | rfl
   ·exact⟨fun a ha=>by simp at ha,fun k m a a' b _ h=>by simp at h⟩
   ·have h1:σ.length=1:=hi.len
    exact hi.obj 0 σ[0] _ (bp (by omega)) rfl
  have Hw:pP E' W' (A++[(dN σ' o,dB)]):=by
   have eO:∀(m:Nat) (c:Sg×KB),(A++[(dN σ' o,dB)])[m]? =some c->A[m]? =some c∨(m=A.length/\c=(dN σ' o,dB)):=fun m c h=>by
    rcases Nat.lt_trichotomy m A.length with hm | hm | hm
    ·rw[dP hm]at h;exact .inl h
    ·subst hm
     rw[eW (av _)]at h
     simp at h
     exact .inr ⟨rfl,h.symm⟩
    ·rw[gO (by simp;omega)]at h;cases h
   refine⟨fun c hc=>?_,fun m n c d b hmn h1 h2 h3 h4=>?_⟩
   ·obtain⟨m,hm⟩:=jx hc
    rcases eO m c hm with h | ⟨_,rfl⟩
    ·have hc:=fi h
     exact(hold.ok c hc).mono hst.le (fun b hb=>keep b ((hold.ok c hc).lt hb))
    ·exact qd
   ·rcases eO m c h1 with k | ⟨e1,rfl⟩<;>rcases eO n d h2 with k' | ⟨e2,rfl⟩
    ·exact hold.dx m n c d b hmn k k' h3 h4
    ·have:=(hold.ok c (fi k)).lt h3;have:=Hg b h4;omega
    ·have:=(hold.ok d (fi k')).lt h4;have:=Hg b h3;omega
    ·omega
  have one:∀{q':Re} {uP:Sg} {rf:KB},(∀ b,(∃ a∈A,jn a b)->cq uP rf b)->(∀ b,cq uP rf b->E b=none)->(∃ τ,[q']=uP++τ)->Step uP E rf W [q'] E' [.objs (A++[(dN σ' o,dB)])] W':=by
   intro q' uP rf h1 h2 h3
   have hz:∀{i:Nat} {r:Re},[q'][i]? =some r->i=0/\r=q':=fun{i r} h=>by
    rcases i with _ | i
    ·simp at h;exact⟨rfl,h.symm⟩
    ·simp at h
   have Pt:∀ b,cq [q'] [.objs (A++[(dN σ' o,dB)])] b->(∃ a∈A,jn a b)∨jn (dN σ' o,dB) b:=by
    rintro b ⟨i,r,ob,g1,g2,g3⟩
    obtain⟨rfl,rfl⟩:=hz g1
    simp at g2;subst g2
    obtain⟨c,hc,hb⟩:=g3
    rcases dM.1 hc with hc | hc
    ·exact .inl ⟨c,hc,hb⟩
    ·simp at hc;subst hc;exact .inr hb
   refine⟨⟨rfl,fun i r ob g1 g2=>?_,fun i j r r' ob yq b hij g1 g2 g3 g4 _ _=>?_,hst.inv.dj,fun b hb=>?_⟩,⟨hst.bQ.os,hst.bQ.tape,hst.bQ.output,hst.bQ.size,fun b hb _=>keep b hb⟩,h3,hst.le,fun b hb=>?_,hnew2⟩
   ·obtain⟨rfl,rfl⟩:=hz g1
    simp at g2;subst g2
    exact Hw
   ·obtain⟨rfl,rfl⟩:=hz g1
    obtain⟨rfl,rfl⟩:=hz g3
    exact(hij rfl).elim
   ·rcases Pt b hb with ⟨c,hc,hcb⟩ | hcb
    ·exact OI b ((hold.ok c hc).lt hcb) (h2 b (h1 b ⟨c,hc,hcb⟩))
    ·exact k1.sep b hcb.up
   ·rcases Pt b hb with k | k
    ·exact .inl (h1 b k)
    ·exact .inr (Hg b k)
  rcases hkb with ⟨rfl,rfl⟩ | rfl
  ·have:σ=[]:=ma hi.len
   subst this
   exact⟨v,r2,[Jv],E',_,rfl,one (fun b ⟨a,ha,_⟩=>by simp at ha) (fun b hb=>(yz hb).elim) ⟨[Jv],rfl⟩,Ur Br sG hl,hK⟩
  ·have h1:σ.length=1:=hi.len
   match σ,h1 with
   | [q'],_=>exact⟨v,r2,[q'],E',_,rfl,one (fun b hb=>⟨0,q',_,rfl,rfl,hb⟩) (fun b hb=>hi.sep b hb) ⟨[],by simp⟩,Ur Br sG hl,hK⟩
end Vc
