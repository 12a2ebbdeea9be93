import Derived.Test.YtfcjngcnifdmnaaGreatQg
import Derived.KernelRfl
namespace Go.Proofs.YtfcjngcnifdmnaaGreat
open Vc Go
open Go.IntKind renaming i64->γ,u8->ν,u32->iy
open Vc.V renaming any->δ,sl->ε,int->ζ,sb->ξ,ptr->an,χ->av,dat->aH,af->aO,mp->bb,arr->bD,agg->fw
open Vc.D renaming val->η,sl->ω
open Vc.KO renaming row->υ,dead->aa,cells->aw,objs->cY
open Go.Value renaming int->φ,map->kr,oneCell'->l0
open List renaming map->ae,drop->ax,take->aA,length_append->bo,getElem?_eq_getElem->bz,getElem?_eq_some_iff->bO,length_map->cp,take_length->cZ,length_take->dc,mem_singleton->dm,replicate->dp,mem_append->dQ,Mem->dW,getElem?_append_left->dX,mem_map->ef,append_assoc->eH,mem_cons->eI,getElem?_append_right->e_,append_nil->fu,getElem?_map->fH,take_of_length_le->fI,length_drop->fZ,mem_cons_of_mem->f_,getElem?_set_ne->gE,length_cons->gF,mem_of_getElem?->gG,getElem?_eq_none->g_,getElem?_set_self->iz,length_set->iA,mem_cons_self->iB,length_singleton->iL,mem_append_left->iM,range->iN,drop_zero->iX,getD_eq_getElem?_getD->iY,getElem?_take_of_lt->ji,flatten_cons->jt,nil_append->ju,getElem?_drop->jE,map_append->jZ,take_add_one->j2,length_nil->ko,ext_getElem?->lB,getElem?_of_mem->lC,mem_append_right->lD,map_cons->lY,mem_filter->lZ,eq_nil_of_length_eq_zero->mq
open Nat renaming le_refl->au,zero_le->bt,beq->cq,eq_of_beq_eq_true->cP,zero_add->cQ,add_assoc->gR,lor->iO,lt_or_ge->jF,sub_zero->kV
open Option renaming some->bc,bind_eq_some_iff->kW,map->mU
open Int renaming le_refl->dy,toNat_natCast->dD
open Bool renaming and_eq_true->iW,not_eq_false'->nI
set_option linter.unusedVariables false
set_option linter.unusedSimpArgs false
set_option maxRecDepth 100000
def fR (v:Vw) (w:Wd):Nat->Wd
 | 0=>w
 |i+1=>sc (fR v w i) i v
def kv (w:Wd):Wd:={w with ψ:=[] }
section
variable {T:Int} {w:Wd} {E:Int} {d:Nat} {L:bX}
structure VP (E:Int) (d:Nat) (v:Vw) (i:Nat) (w:Wd):Prop where
 j:∃ G,WJ G w
 ej:EJ w
 vm:v∈w.vs
 ve:v.ve=E
 vl:(w.vs.length:Int)=E
 hd:dJ v=d
 d4:d<4
 no:∀ j,j<i->j≠d->(ι w j).ld=none
 b0:i<=d->w.ψ=[]
 le:d<i->∃ L,(ι w d).ld=some L/\(ι w d).ep=E/\(ι w d).v=v/\(∀ l∈w.ψ,LF E (ι w d).nu d l)/\eS w.ψ<=8
theorem Y6 {R:θ} {v:Vw} (h:v.mem≠[]) (he:dJ v=R.me):dZ R v=true:=by
 unfold dZ
 cases hm:v.mem with
 |nil=>exact absurd hm h
 |cons a r=>
  unfold dJ at he;rw[hm]at he
  have he:a=R.me:=he
  rw[he];simp
theorem ahV {v:Vw} {i:Nat} (hw:WI T w) (hT:T<800) (h:VP E d v i w) (hi:i<4):VP E d v (i+1) (sc w i v):=by
 obtain⟨G,hJ⟩:=h.j
 have hj:=Vt hw hJ hi h.vm
 have he:=Vr hw h.ej hi v
 have hir:i<w.R.length:=by rw[hw.rl];exact hi
 have hr:=hw.r i hi
 have fP:=hJ.r i hi
 have kx:=h.d4
 have qg:=h.ve
 have kC:=hw.vs v h.vm
 have BS:=uL hJ.vi h.vm
 have vi5:v.vi=5:=by
  obtain⟨k,hk⟩:=lC h.vm
  exact(hJ.vi.ve k v hk).2
 have epE:(ι w i).ep<=E:=by
  by_cases e:(ι w i).ep=0
  ·omega
  ·have:=(hJ.gi.a0 _ (fP.ac e).1).2;have:=h.vl;omega
 have rvE:(ι w i).v.ve<=E:=by
  rcases fP.v with e | e
  ·rw[e];show(0:Int)<=E;omega
  ·have:=(uL hJ.vi e).2.2;have:=h.vl;omega
 have G9:decide (v.vi=(ι w i).id/\(ι w i).v.ve<=v.ve/\(ι w i).ep<=v.ve/\1<=v.ve)=true:=by
  rw[decide_eq_true_eq];exact⟨by rw[vi5,fP.id],by omega,by omega,by omega⟩
 unfold sc at hj he ⊢
 have ei:=xI w (dT (ι w i) v) hir
 have en:∀ j,i≠j->ι (cU (bA w i (dT (ι w i) v)) i) j=ι w j:=fun j e=>vr w _ e hir
 have ev:=xK w i (dT (ι w i) v)
 have Bk:((cU (bA w i (dT (ι w i) v)) i).vs.length:Int)=E:=by rw[ev];exact h.vl
 have hlen:d<i->w.ψ.length<=8:=fun q=>by obtain⟨L,_,_,_,_,g⟩:=h.le q;have:=zl w.ψ;omega
 have cj:w.ψ.length<=8:=by
  rcases jF d i with q | q
  ·exact hlen q
  ·rw[h.b0 q];exact bt _
 by_cases e:i=d
 ·subst e
  have hb:=h.b0 (au _)
  have fst:dZ (ι w i) v=true:=Y6 kC.m0 (by rw[h.hd];exact fP.me.symm)
  cases hg:dL (ι w i) v with
  |false=>
   unfold dL at hg
   rw[G9,fst,Bool.true_and,nI,iW,Bool.or_eq_true]at hg
   have q1:v.ve=(ι w i).v.ve:=by simpa using hg.1
   have q2:eL (ι w i)=true:=by simpa using hg.2
   unfold eL at q2
   rw[uK (by unfold dL;rw[G9,fst,Bool.true_and,nI,iW,Bool.or_eq_true];exact hg)]at hj he ei en ev Bk ⊢
   cases hL:(ι w i).ld with
   |none=>rw[hL]at q2;cases q2
   |some L=>
    have hl:=fP.l L hL
    have hvv:(ι w i).v=v:=by rw[<- (uL hJ.vi hl.v).1,<- q1];exact BS.1
    have eb:=sF w (ι w i) hir (by rw[hr.out];show w.ψ.length+0<=_;omega) (fun p hp=>by rw[hr.out]at hp;cases hp)
    rw[hr.out,hb]at eb
    have eb:(cU (bA w i (ι w i)) i).ψ=[]:=eb
    refine⟨hj,he,by rw[ev];exact h.vm,qg,Bk,h.hd,kx,fun j hj hne=>by rw[en j (by omega)];exact h.no j (by omega) hne,fun q=>by omega,fun _=>⟨L,by rw[ei];exact hL,by rw[ei];show(ι w i).ep=E;rw[hl.ep,<- q1];exact qg,by rw[ei];exact hvv,by rw[eb];exact fun l hl=>by(cases hl),by rw[eb];exact bt _⟩⟩
  |true=>
   have hlg:fe (ι w i) v=true:=by unfold fe;rw[fst,fP.lo,fP.bl,Bool.and_false];rfl
   have Oz:=wK hg hlg
   have eo:(dT (ι w i) v).out=(bx (ι w i).me v.mem v.aC).map (jh (jk (ι w i) v)):=by rw[Oz];show(ι w i).out++_=_;rw[hr.out];rfl
   have mo:∀ x∈bx (ι w i).me v.mem v.aC,0<=x/\x<4/\x≠i:=fun x hx=>by
    have hx2:x∈aQ (jk (ι w i) v):=hx
    obtain⟨h1,h2⟩:=uq.1 hx2
    have:=kC.rg x h1
    exact⟨this.1,this.2,by rw[<- fP.me];exact h2⟩
   have lo:(bx (ι w i).me v.mem v.aC).length<=4:=IQ 4 _ (by unfold bx;exact kC.nd.filter _) (fun x hx=>by have:=mo x hx;omega)
   have eb:=sF w (dT (ι w i) v) hir (by rw[eo,cp];omega) (fun p hp=>by
    rw[eo]at hp;obtain⟨x,hx,rfl⟩:=ef.1 hp;exact⟨(mo x hx).1,(mo x hx).2.1⟩)
   rw[hb,eo]at eb
   have wl:∀ l:List Int,eS ((l.map (jh (jk (ι w i) v))).map fun p=>(⟨i,p.to,p.m⟩:fU))=2*l.length:=fun l=>by
    induction l with
    |nil=>rfl
    |cons a r ih=>rw[lY,lY,DR,ih,gF];show 2+_=_;omega
   have e2:(ι (cU (bA w i (dT (ι w i) v)) i) i)=iR (jk (ι w i) v):=by rw[ei,Oz];rfl
   generalize cU (bA w i (dT (ι w i) v)) i=w' at*
   refine⟨hj,he,by rw[ev];exact h.vm,qg,Bk,h.hd,kx,fun j hj hne=>by rw[en j (by omega)];exact h.no j (by omega) hne,fun q=>by omega,fun _=>⟨_,by rw[e2];rfl,by rw[e2];exact qg,by rw[e2];rfl,?_,?_⟩⟩
   ·rw[eb,e2]
    intro l hl
    rw[ju]at hl
    obtain⟨p,hp,rfl⟩:=ef.1 hl
    obtain⟨x,hx,rfl⟩:=ef.1 hp
    exact⟨.inl ⟨rfl,(mo x hx).2.2,.inl rfl,qg,rfl⟩,fun q=>by have q:(10:Int)=12:=q;omega⟩
   ·rw[eb,ju,wl];omega
 ·have nf:dZ (ι w i) v=false:=by
   cases hf:dZ (ι w i) v with
   |false=>rfl
   |true=>
    have:=OM hf
    rw[h.hd,fP.me]at this
    omega
  have key:(dT (ι w i) v).ld=none/\(dT (ι w i) v).out=[]:=by
   cases hg:dL (ι w i) v with
   |false=>
    rw[uK hg]
    unfold dL at hg
    rw[G9,nf,Bool.true_and,nI,iW]at hg
    have q1:v.ve=(ι w i).v.ve:=by simpa using hg.1
    refine⟨?_,hr.out⟩
    cases hL:(ι w i).ld with
    |none=>rfl
    |some L=>
     have hl:=fP.l L hL
     have:=hl.hd
     rw[hl.ep,<- q1]at this
     unfold iF at this
     rw[BS.1,h.hd]at this
     omega
   |true=>
    rw[wJ hg (by unfold fe;rw[nf];rfl)]
    exact⟨rfl,hr.out⟩
  have eb:=sF w (dT (ι w i) v) hir (by rw[key.2];show w.ψ.length+0<=_;omega) (fun p hp=>by rw[key.2]at hp;cases hp)
  rw[key.2]at eb
  have eb:(cU (bA w i (dT (ι w i) v)) i).ψ=w.ψ:=eb.trans (fu _)
  have ed:=en d e
  refine⟨hj,he,by rw[ev];exact h.vm,qg,Bk,h.hd,kx,fun j hj hne=>?_,fun q=>by rw[eb];exact h.b0 (by omega),fun q=>by rw[ed,eb];exact h.le (by omega)⟩
  by_cases q:i=j
  ·subst q;rw[ei];exact key.1
  ·rw[en j q];exact h.no j (by omega) hne
theorem UR {v:Vw} (hw:WI T w) (hT:T<800) (h:VP E d v 0 w):∀ i,i<=4->WI T (fR v w i)/\VP E d v i (fR v w i)
 | 0,_=>⟨hw,h⟩
 |i+1,hi=>by
  obtain⟨h1,h2⟩:=UR hw hT h i (by omega)
  exact⟨(zh h1 hT (by omega) h2.vm).2.2.2.2,ahV h1 hT h2 (by omega)⟩
theorem afL {G:Gh} (hw:WI T w) (hT:T<800) (hJ:WJ G w) (he:EJ w):WI T (fR (bq w) (kv w) 4)/\∃ L,FP (bq w).ve (dJ (bq w)).toNat (fR (bq w) (kv w) 4) L/\(ι (fR (bq w) (kv w) 4) (dJ (bq w)).toNat).v=bq w/\eS (fR (bq w) (kv w) 4).ψ<=8:=by
 have ky:=vP hw
 have kC:=hw.vs _ ky
 have Qj:=kC.rg _ (iM _ (HC kC.m0))
 have hc:WI T (kv w):=⟨hw.rl,hw.dl,hw.r,hw.dk,hw.vs,hw.v0,hw.vm,fun l hl=>(by cases hl),bt _,hw.cs,hw.cl,hw.n3,hw.nb,hw.n0,hw.n1⟩
 have hv:VP (bq w).ve (dJ (bq w)).toNat (bq w) 0 (kv w):=⟨⟨G,AN hJ fun l hl=>(by cases hl)⟩,he.cg rfl fun l hl=>(by cases hl),ky,rfl,(QI hJ hw).symm,by omega,by omega,fun j hj=>by omega,fun _=>rfl,fun q=>by omega⟩
 obtain⟨h1,h2⟩:=UR hc hT hv 4 (au _)
 obtain⟨L,g1,g2,g3,g4,g5⟩:=h2.le (by omega)
 refine⟨h1,L,⟨h2.j,h2.ej,h2.d4,g1,g2,fun i hi hne=>⟨h2.no i hi hne,?_⟩,g4⟩,g3,g5⟩
 obtain⟨G',Pd⟩:=h2.j
 by_cases e:(ι (fR (bq w) (kv w) 4) i).ep=0
 ·have:=h2.d4
  rw[e]
  exact kC.e0
 ·have a:=(Pd.gi.a0 _ ((Pd.r i hi).ac e).1).2
  have b:=h2.vl
  omega
end
section
variable {T:Int} {w:Wd} {E:Int} {d:Nat} {L:bX}
theorem Bg (hw:WI T w) (hT:T<800):∀ k,WI T (gS k w)
 | 0=>hw
 |k+1=>by
  unfold gS
  split
  ·rename_i hl;exact(xO (Bg hw hT k) hT hl).2
  ·exact Bg hw hT k
theorem Bo (hw:WI T w):∀ n:Nat,T+3*(n:Int)<700->WI (T+3*(n:Int)) (gU n w)
 | 0,_=>by rw[show T+3*((0:Nat):Int)=T by omega];exact hw
 |n+1,hT=>by
  rw[show T+3*((n+1:Nat):Int)=T+3*(n:Int)+3 by omega]
  exact Bg (tn (Bo hw n (by omega)) (by omega) s7).2 (by omega) 500
structure zH (w:Wd) (n:Nat):Prop where
 s:∀ t,t<n->xf (gU t w) s7
 d:∀ t,t<n->∀ k,0<(gS k (eP (gU t w) s7)).ψ.length->u9 (gS k (eP (gU t w) s7)) 0
theorem YX (hw:WI T w) {n:Nat} (hT:T+3*(n:Int)<690):zH w n:=
 ⟨fun t ht=>(tn (Bo hw t (by omega)) (by omega) s7).1,fun t ht k hl=>(xO (Bg (tn (Bo hw t (by omega)) (by omega) s7).2 (by omega) k) (by omega) hl).1⟩
theorem YY (hw:WI T w) (h:FP E d w L) (hs:eS w.ψ<=400) {n:Nat} (hn:3<=n) (hT:T+3*(n:Int)<690):∃ L',Ec E d (gU n w) L'/\(ι (gU n w) d).v=(ι w d).v/\(gU n w).vs=w.vs:=by
 obtain⟨h0,L',h1,h2,h3,h4,h5⟩:=OB hw h hs n hT
 have t0:=(hw.r d h.d4).w.t0
 have ho:=h1.aQ
 exact⟨L',aeA h1.fp (h3 (by omega)) (fun k hk=>h5.resolve_right (by omega) k (by rw[<- ho];exact hk)),h1.v,h1.vs⟩
end
structure zF (w:Wd) (n:Nat) (x:j5):Prop where
 le:x.i<=n
 W:x.W=gU x.i w
 p:PW x.A x.q x.W.R
structure zG (w:Wd) (x:j5):Prop where
 le:x.i<=500
 W:x.W=gS x.i (eP w s7)
 p:PW x.A x.q x.W.R
abbrev GB (w:Wd) (n t:Nat):LI where
 α:={x:j5 // zG (gU t w) x}
 live:=[0,1,4,5]
 dV:=eW
 st x:=([an 0 0,.int γ (n:Int),.int γ (t:Int),.int γ (x.1.i:Int)],d_ x.1.W x.1.q x.1.A)
 μ x:=500 - x.1.i
def YW (w:Wd) (n t:Nat):Nat->Option LI
 | 5=>some (GB w n t)
 |_=>none
abbrev Bn (w:Wd) (n:Nat):LI where
 α:={x:j5 // zF w n x}
 live:=[0,1,4]
 dV:=eW
 st x:=([an 0 0,.int γ (n:Int),.int γ (x.1.i:Int)],d_ x.1.W x.1.q x.1.A)
 μ x:=n - x.1.i
 sub x:=YW w n x.1.i
def OA (w:Wd) (n:Nat):FuncId->Nat->Option LI
 | 17,1=>some (Bn w n)
 |_,_=>none
def GC:FuncId->Option dK
 | 9=>some ⟨[.ig],WM GStep⟩
 | 27=>some ⟨[.ig],WM D5⟩
 |_=>none
noncomputable def Mq:bN:=dU Tryz.prog GC aI 10
theorem agM (w:Wd) (n:Nat) (q:List (Nat×Nat)) (A:List (Sg×KB)) (K:V->KB->Prop) (ar:
 let ah:=ζ γ (↑n:Int);At (Bn w n) ([an 0 0,ah,ζ γ 0],(d_ w q A))/\
 ∀(i:{x:j5 // zF w n x }),(decide ((↑i.val.i:Int)<(↑n:Int))=true->
 ∃(w_1:Wd),∃(q:List (Nat×Nat)),∃(A:List (Sg×KB)),mn (gl i.val.W i.val.q i.val.A) w_1 q A/\
 PW A q w_1.R/\
 ∃(s:Sp),[fw [ζ γ 7,ζ γ 0,ζ γ 0,ζ γ 0,ξ false]]=[qB s]/\
 xf w_1 s/\
 ∀(w':Wd),w'=eP w_1 s->
 ∀(q':List (Nat×Nat)) (A':List (Sg×KB)),PW A' q' w'.R->
 At (GB w n i.val.i) ([an 0 0,ah,ζ γ (↑i.val.i:Int),ζ γ 0],(d_ w' q' A'))/\
 ∀(i_1:{x:j5 // zG (gU i.val.i w) x }),let κ:=Nx (Bn w n) i ([an 0 0,ah,ζ γ (γ.wrap ((↑i.val.i:Int)+1))],(d_ i_1.val.W i_1.val.q i_1.val.A));(decide ((↑i_1.val.i:Int)<500)=true->
 (decide ((↑(i_1.val.W.ψ.length - 0):Int) > 0)=true->
 ∃(w_2:Wd),∃(q:List (Nat×Nat)),∃(A:List (Sg×KB)),mn (gl i_1.val.W i_1.val.q i_1.val.A) w_2 q A/\
 PW A q w_2.R/\
 ∃(i_2:Nat),[ζ γ 0]=[ζ γ (↑i_2:Int)]/\
 u9 w_2 i_2/\
 ∀(w':Wd),w'=l7 w_2 i_2->
 ∀(q':List (Nat×Nat)) (A':List (Sg×KB)),PW A' q' w'.R->
 Nx (GB w n i.val.i) i_1 ([an 0 0,ah,ζ γ (↑i.val.i:Int),ζ γ (γ.wrap ((↑i_1.val.i:Int)+1))],(d_ w' q' A')))/\
 (decide ((↑(i_1.val.W.ψ.length - 0):Int) > 0)=false->
 κ))/\
 (decide ((↑i_1.val.i:Int)<500)=false->
 κ))/\
 (decide ((↑i.val.i:Int)<(↑n:Int))=false->
 K (av []) (d_ i.val.W i.val.q i.val.A))
 ):aK Tryz.prog Mq (OA w n 17) 17 [an 0 0,.int γ (n:Int)] (gl w q A) (fA eW (dx 8 K)):=by apply Eq.mp (a:=ar);kernel_rfl
theorem YV:dP Tryz.prog GC:=fun f k h=>by
 unfold GC at h
 split at h
 ·cases h;exact Sh
 ·cases h;exact R3
 ·cases h
theorem WH:b9 Tryz.prog Mq:=dY mixed YV aI 10
def Ly:List V->Wd->(V->Wd->Prop)->Prop:=fun rest w k=>∃ n:Nat,rest=[.int γ (n:Int)]/\(zH w n/\n<=1000)/\∀ w',w'=gU n w->k (.χ []) w'
theorem Of {w:Wd} {k:Nat} (h:¬ 0<(gS k w).ψ.length):∀ j,gS (k+j) w=gS k w
 | 0=>rfl
 |j+1=>by
  have e:=Of h j
  show(if 0<(gS (k+j) w).ψ.length then l7 (gS (k+j) w) 0 else gS (k+j) w)=_
  rw[e,if_neg h]
theorem Yx {w:Wd} {k:Nat} (h:0<(gS k w).ψ.length):gS (k+1) w=l7 (gS k w) 0:=if_pos h
theorem ab0:aR Tryz.prog 17 (WM Ly):=oa WH mixed eW (fun args kb K h=>by
 unfold WM at h;split at h<;>try exact h.elim
 obtain⟨w,q,A,⟨rfl⟩,hp,n,rfl,⟨hc,hn⟩,h⟩:=h
 refine⟨OA w n 17,?_⟩
 show aK _ _ _ _ _ _ (fA eW (dx 8 K))
 apply agM w n q A K
 dsimp only
 refine⟨At.mk' (⟨⟨0,w,q,A⟩,bt _,rfl,hp⟩:{x:j5 // zF w n x}) rfl,?_⟩
 rintro⟨⟨t,W,q1,A1⟩,ht,hW,P1⟩
 dsimp only at ht hW P1 ⊢
 refine⟨fun hlt=>?_,fun hge=>?_⟩
 ·have hlt:t<n:=by rw[decide_eq_true_eq]at hlt;omega
  refine⟨W,q1,A1,⟨rfl⟩,P1,s7,rfl,by rw[hW];exact hc.s t hlt,fun w' hw' q' A' p'=>?_⟩
  refine⟨At.mk' (⟨⟨0,w',q',A'⟩,bt _,by rw[hw',hW];rfl,p'⟩:{x:j5 // zG (gU t w) x}) rfl,?_⟩
  rintro⟨⟨k,W2,q2,A2⟩,hk,vI,P2⟩
  dsimp only at hk vI P2 ⊢
  have ew:∀ m:Nat,m<=1000->γ.wrap ((m:Int)+1)=((m+1:Nat):Int):=fun m hm=>by rw[bS (by omega) (by omega)];omega
  have out:W2=qA (gU t w)->Nx (Bn w n) ⟨⟨t,W,q1,A1⟩,ht,hW,P1⟩ ([an 0 0,ζ γ (n:Int),ζ γ (γ.wrap ((t:Int)+1))],(d_ W2 q2 A2)):=fun e=>
   Nx.mk' (⟨⟨t+1,W2,q2,A2⟩,hlt,e,P2⟩:{x:j5 // zF w n x}) (by rw[ew t (by omega)]) (by show n - (t+1)<n - t;omega)
  rw[kV]
  refine⟨fun ue=>⟨fun hb=>?_,fun hb=>out ?_⟩,fun ue=>out ?_⟩
  ·have ue:k<500:=by rw[decide_eq_true_eq]at ue;omega
   have hb:0<W2.ψ.length:=by rw[decide_eq_true_eq]at hb;omega
   refine⟨W2,q2,A2,⟨rfl⟩,P2,0,rfl,by rw[vI]at hb ⊢;exact hc.d t hlt k hb,fun w3 BU q3 A3 p3=>?_⟩
   refine Nx.mk' (⟨⟨k+1,w3,q3,A3⟩,ue,by rw[BU,vI];rw[vI]at hb;exact(Yx hb).symm,p3⟩:{x:j5 // zG (gU t w) x}) (by rw[ew k (by omega)]) (by show 500 - (k+1)<500 - k;omega)
  ·have hb:¬ 0<W2.ψ.length:=by rw[decide_eq_false_iff_not]at hb;omega
   rw[vI]at hb ⊢
   have:=Of hb (500 - k)
   rw[show k+(500 - k)=500 by omega]at this
   exact this.symm
  ·have ue:k=500:=by rw[decide_eq_false_iff_not]at ue;omega
   subst ue
   exact vI
 ·have hge:t=n:=by rw[decide_eq_false_iff_not]at hge;omega
  subst hge
  exact h W hW q1 A1 P1)
abbrev Gv (l:List Sp):LI where
 α:={x:j5 // zJ l x}
 live:=[0,3,4]
 st x:=([aH (.sl 5 (l.map nA)),an 0 0,.int γ (x.1.i:Int)],gl x.1.W x.1.q x.1.A)
 μ x:=l.length - x.1.i
structure EZ (F:Wd) (x:PA):Prop where
 p:PW x.A x.q F.R
structure ku where
 q:List (Nat×Nat)
 A:List (Sg×KB)
 e:List D
structure kX (F:Wd) (v:Vw) (x:ku):Prop where
 e:x.e=c8 v
 p:PW x.A x.q F.R
structure pS where
 i:Nat
 q:List (Nat×Nat)
 A:List (Sg×KB)
 e:List D
structure AD (Z:Wd) (v:Vw) (x:pS):Prop where
 le:x.i<=4
 e:x.e=c8 v
 p:PW x.A x.q (fR v Z x.i).R
structure AC (F:Wd) (v:Vw) (n:Nat) (x:pS):Prop where
 le:x.i<=n
 e:x.e=c8 v
 p:PW x.A x.q F.R
abbrev Oq (Z:Wd):LI where
 α:={x:PA // EZ Z x}
 live:=[3]
 dV:=[.cell 0 3 73 3]
 st x:=([an 0 0],gl Z x.1.q x.1.A)
 μ x:=0
abbrev Ot (Z:Wd) (v:Vw):LI where
 α:={x:ku // kX Z v x}
 live:=[3,5]
 dV:=[.qh 1]
 st x:=([an 0 0,.cF x.1.e 0],gl Z x.1.q x.1.A)
 μ x:=0
abbrev Gw (Z:Wd) (v:Vw):LI where
 α:={x:pS // AD Z v x}
 live:=[3,5,6]
 st x:=([an 0 0,.cF x.1.e 0,.int γ (x.1.i:Int)],gl (fR v Z x.1.i) x.1.q x.1.A)
 μ x:=4 - x.1.i
abbrev Ou (F:Wd) (v:Vw):LI where
 α:={x:ku // kX F v x}
 live:=[3,5]
 st x:=([an 0 0,.cF x.1.e 0],gl F x.1.q x.1.A)
 μ x:=0
abbrev Ov (F:Wd) (v:Vw) (a b:Int):LI where
 α:={x:ku // kX F v x}
 live:=[3,5,7,8]
 st x:=([an 0 0,.cF x.1.e 0,.int γ a,.int γ b],gl F x.1.q x.1.A)
 μ x:=0
abbrev qH (w:Wd) (q:List (Nat×Nat)) (A:List (Sg×KB)) (o:List Int):KB:=[jC 2 w,υ 3 1 (ints γ o),ki q,kJ w,kj w,jQ w,la w,lb w,cY A]
abbrev Ow (F:Wd) (v:Vw) (a b:Int) (o:List Int):LI where
 α:={x:ku // kX F v x}
 live:=[3,5,7,8,9]
 st x:=([an 0 0,.cF x.1.e 0,.int γ a,.int γ b,.sl 1 0 o.length],qH F x.1.q x.1.A o)
 μ x:=0
abbrev Ox (F:Wd) (v:Vw) (a b:Int) (o:List Int) (i:Nat):LI where
 α:={x:ku // kX F v x}
 live:=[3,5,7,8,9,10,11,12]
 st x:=([an 0 0,.cF x.1.e 0,.int γ a,.int γ b,.sl 1 0 o.length,.int γ (i:Int),.int γ a,.int γ b],qH F x.1.q x.1.A o)
 μ x:=0
abbrev Oy (F:Wd) (v:Vw) (a b:Int) (o:List Int) (i:Nat):LI where
 α:={x:ku // kX F v x}
 live:=[3,5,7,8,9,10,164]
 st x:=([an 0 0,.cF x.1.e 0,.int γ a,.int γ b,.sl 1 0 o.length,.int γ (i:Int),ξ false],qH F x.1.q x.1.A o)
 μ x:=0
def YQ (F:Wd) (v:Vw) (a b:Int) (o:List Int) (i:Nat):Nat->Option LI
 | 1024=>some (Ox F v a b o i)
 | 1025=>some (Oy F v a b o i)
 |_=>none
abbrev Gx (F:Wd) (v:Vw) (a b:Int) (o:List Int):LI where
 α:={x:pS // AC F v o.length x}
 live:=[3,5,7,8,9,10]
 st x:=([an 0 0,.cF x.1.e 0,.int γ a,.int γ b,.sl 1 0 o.length,.int γ (x.1.i:Int)],qH F x.1.q x.1.A o)
 μ x:=o.length - x.1.i
 sub x:=YQ F v a b o x.1.i
def YP (l:List Sp) (Z F:Wd) (v:Vw) (a b:Int) (o:List Int):FuncId->Nat->Option LI
 | 4,7=>some (Gv l)
 | 4,1011=>some (Oq Z)
 | 4,1012=>some (Ot Z v)
 | 4,13=>some (Gw Z v)
 | 4,1018=>some (Ou F v)
 | 4,1019=>some (Ov F v a b)
 | 4,1020=>some (Ow F v a b o)
 | 4,21=>some (Gx F v a b o)
 |_,_=>none
def Gy:FuncId->Option dK
 | 16=>some ⟨[.ig],WM D4⟩
 | 17=>some ⟨[.ig],WM Ly⟩
 |f=>Ie f
noncomputable def AF (l:List Sp) (Z F:Wd) (v:Vw) (a b:Int) (o:List Int):bN:=dU Tryz.prog Gy (YP l Z F v a b o) 10
theorem ahq (l:List Sp) (Z F:Wd) (v:Vw) (a b:Int) (o:List Int) (ar:
 (decide ((↑(ae nA l).length:Int) > 80)=true->
 true=true)/\
 (decide ((↑(ae nA l).length:Int) > 80)=false->
 ∃(l_1:List (Nat×θ)),bY [] l_1/\
 ∀(W:Wd),W=jN 4->
 ∀(q:List (Nat×Nat)) (A':List (Sg×KB)),PW A' q W.R->
 At (Gv l) ([aH (ω 5 (ae nA l)),an 0 0,ζ γ 0],(gl W q A'))/\
 ∀(i:{x:j5 // zJ l x }),let aJ:=(↑i.val.i:Int)<(↑(ae nA l).length:Int);(decide (aJ)=true->
 aM (↑i.val.i:Int)/\
 ∃(e:List D),(ae nA l)[(↑i.val.i:Int).toNat]? =some e/\
 ∃(n:Int),e[0]? =some (η (φ γ n))/\
 ∃(n_1:Int),e[1]? =some (η (φ γ n_1))/\
 ∃(n_2:Int),e[2]? =some (η (φ γ n_2))/\
 ∃(lO:Int),e[3]? =some (η (φ γ lO))/\
 ∃(b:Bool),e[4]? =some (η (Value.bool b))/\
 ∃(w:Wd),∃(q:List (Nat×Nat)),∃(A:List (Sg×KB)),mn (gl i.val.W i.val.q i.val.A) w q A/\
 PW A q w.R/\
 ∃(s:Sp),[fw [ζ γ n,ζ γ n_1,ζ γ n_2,ζ γ lO,ξ b]]=[qB s]/\
 xf w s/\
 ∀(w':Wd),w'=eP w s->
 ∀(q':List (Nat×Nat)) (A':List (Sg×KB)),PW A' q' w'.R->
 Nx (Gv l) i ([aH (ω 5 (ae nA l)),an 0 0,ζ γ (γ.wrap ((↑i.val.i:Int)+1))],(gl w' q' A')))/\
 (decide (aJ)=false->
 At (Oq Z) ([an 0 0],[aw [ε 1 0 i.val.W.R.length,ε 2 0 i.val.W.dk.length,ε 3 0 i.val.W.vs.length,ε 4 0 0,ε 5 0 i.val.W.cs.length,ε 6 0 i.val.W.aX.length,ζ γ i.val.W.now,ξ i.val.W.ok],υ 30 1 (ae cd i.val.q),υ 23 1 (ae bB i.val.W.dk),υ 49 5 (ae c8 i.val.W.vs),υ 73 3 [],υ 61 10 (ae c9 i.val.W.cs),υ 3 1 (ints γ i.val.W.aX),cY i.val.A])/\
 ∀(i:{x:PA // EZ Z x }),(bj (γ.wrap ((↑(Z.vs.length - 0):Int) - 1)) (Z.vs.length - 0)/\
 ∃(e:List D),(ae c8 Z.vs)[0+(γ.wrap ((↑(Z.vs.length - 0):Int) - 1)).toNat]? =some e/\
 ∃(n:Int),e[0]? =some (η (φ γ n))/\
 ∃(n_1:Int),e[1]? =some (η (φ γ n_1))/\
 ∃(n_2:Int),e[2]? =some (η (φ γ n_2))/\
 ∃(l:List (List D)),e[3]? =some (ω 1 l)/\
 ∃(l_2:List (List D)),e[4]? =some (ω 1 l_2)/\
 (∃(e:List D),(ae c8 Z.vs)[0+(γ.wrap ((↑(Z.vs.length - 0):Int) - 1)).toNat]? =some e/\
 ∃(n:Int),e[0]? =some (η (φ γ n))/\
 ∃(n:Int),e[1]? =some (η (φ γ n))/\
 ∃(n:Int),e[2]? =some (η (φ γ n))/\
 ∃(l:List (List D)),e[3]? =some (ω 1 l)/\
 ∃(l:List (List D)),e[4]? =some (ω 1 l)/\
 True)/\
 True/\
 True/\
 At (Ot Z v) ([an 0 0,V.cF [η (φ γ n),η (φ γ n_1),η (φ γ n_2),ω 1 l,ω 1 l_2] 0],(gl Z i.val.q i.val.A)))/\
 ∀(i:{x:ku // kX Z v x }),At (Gw Z v) ([an 0 0,V.cF i.val.3 0,ζ γ 0],(gl Z i.val.q i.val.A))/\
 ∀(i:{x:pS // AD Z v x }),(decide ((↑i.val.i:Int)<4)=true->
 bj (↑i.val.i:Int) ((fR v Z i.val.i).R.length - 0)/\
 ∃(e:List D),(ae cd i.val.q)[0+(↑i.val.i:Int).toNat]? =some e/\
 ∃(v_1:Value),e[0]? =some (η v_1)/\
 ∃(n:Int),i.val.e[0]? =some (η (φ γ n))/\
 ∃(n_1:Int),i.val.e[1]? =some (η (φ γ n_1))/\
 ∃(n_2:Int),i.val.e[2]? =some (η (φ γ n_2))/\
 ∃(l:List (List D)),i.val.e[3]? =some (ω 1 l)/\
 ∃(l_2:List (List D)),i.val.e[4]? =some (ω 1 l_2)/\
 ∃(jy:List (Nat×θ)),∃(i_1:Nat),∃(b:Nat),∃(R:θ),bY i.val.A jy/\
 jy[i_1]? =some (b,R)/\
 η v_1=η (pv b)/\
 ∃(w:Vw),[fw [ζ γ n,ζ γ n_1,ζ γ n_2,aH (ω 1 l),aH (ω 1 l_2)]]=[wL w]/\
 bu R/\
 w.mem.length+w.aC.length<=1000/\
 R.out.length+(bx R.me w.mem w.aC).length<=100000/\
 ∀(A':List (Sg×KB)),bY A' (jy.set i_1 (b,dT R w))->
 ∃(w:Wd),∃(q:List (Nat×Nat)),∃(A:List (Sg×KB)),mn (gl (fR v Z i.val.i) i.val.q A') w q A/\
 PW A q w.R/\
 ∃(i_2:Nat),[ζ γ (↑i.val.i:Int)]=[ζ γ (↑i_2:Int)]/\
 jX w i_2/\
 ∀(w':Wd),w'=cU w i_2->
 ∀(q':List (Nat×Nat)) (A':List (Sg×KB)),PW A' q' w'.R->
 Nx (Gw Z v) i ([an 0 0,V.cF i.val.e 0,ζ γ (γ.wrap ((↑i.val.i:Int)+1))],(gl w' q' A')))/\
 (decide ((↑i.val.i:Int)<4)=false->
 (∃(w:Wd),∃(q:List (Nat×Nat)),∃(A:List (Sg×KB)),mn (gl (fR v Z i.val.i) i.val.q i.val.A) w q A/\
 PW A q w.R/\
 ∃(n:Nat),[ζ γ 30]=[ζ γ (↑n:Int)]/\
 (zH w n/\
 n<=1000)/\
 ∀(w':Wd),w'=gU n w->
 ∀(q':List (Nat×Nat)) (A':List (Sg×KB)),PW A' q' w'.R->
 At (Ou F v) ([an 0 0,V.cF i.val.e 0],(gl w' q' A')))/\
 ∀(i:{x:ku // kX F v x }),(∃(l:List (List D)),i.val.e[3]? =some (ω 1 l)/\
 aM 0/\
 ∃(e:List D),l[0]? =some e/\
 ∃(n:Int),e[0]? =some (η (φ γ n))/\
 bj n (F.R.length - 0)/\
 ∃(e:List D),(ae cd i.val.q)[0+n.toNat]? =some e/\
 ∃(v_1:Value),e[0]? =some (η v_1)/\
 ∃(l:List (Nat×θ)),∃(i_1:Nat),∃(b_1:Nat),∃(R:θ),bY i.val.A l/\
 l[i_1]? =some (b_1,R)/\
 η v_1=η (pv b_1)/\
 iP []/\
 bu R/\
 ∀(A':List (Sg×KB)),bY A' (l.set i_1 (b_1,R))->
 At (Ov F v a b) ([an 0 0,V.cF i.val.e 0,ζ γ R.ep,ζ γ R.nu],(gl F i.val.q A')))/\
 ∀(i:{x:ku // kX F v x }),(∃(l:List (List D)),let aL:=(∃(l:List (List D)),i.val.e[4]? =some (ω 1 l)/\
 True);i.val.e[3]? =some (ω 1 l)/\
 ∃(l_2:List (List D)),i.val.e[4]? =some (ω 1 l_2)/\
 (aL)/\
 (∃(l:List (List D)),i.val.e[3]? =some (ω 1 l)/\
 True)/\
 True/\
 0<=0/\
 (0+l.length)*8<=140737488355328/\
 (aL)/\
 True/\
 0+l.length<=([]++l).length/\
 (0+l.length+l_2.length)*8<=140737488355328/\
 At (Ow F v a b o) ([an 0 0,V.cF i.val.e 0,ζ γ a,ζ γ b,ε 1 0 (0+l.length+l_2.length)],[aw [ε 2 0 F.R.length,ε 3 0 F.dk.length,ε 4 0 F.vs.length,ε 5 0 F.ψ.length,ε 6 0 F.cs.length,ε 7 0 F.aX.length,ζ γ F.now,ξ F.ok],υ 3 1 (aA (0+l.length) ([]++l)++l_2),υ 30 1 (ae cd i.val.q),υ 23 1 (ae bB F.dk),υ 49 5 (ae c8 F.vs),υ 73 3 (ae cN F.ψ),υ 61 10 (ae c9 F.cs),υ 3 1 (ints γ F.aX),cY i.val.A]))/\
 ∀(i:{x:ku // kX F v x }),At (Gx F v a b o) ([an 0 0,V.cF i.val.3 0,ζ γ a,ζ γ b,ε 1 0 o.length,ζ γ 0],(qH F i.val.q i.val.A o))/\
 ∀(i:{x:pS // AC F v o.length x }),let bp:=(↑i.val.i:Int)<(↑(o.length - 0):Int);let aV:=(Oy F v a b o i.val.i);let az:=ζ γ (↑i.val.i:Int);(decide (bp)=true->
 (bj (↑i.val.i:Int) (o.length - 0)/\
 ∃(e:List D),(ints γ o)[0+(↑i.val.i:Int).toNat]? =some e/\
 ∃(n:Int),e[0]? =some (η (φ γ n))/\
 bj n (F.R.length - 0)/\
 ∃(e:List D),(ae cd i.val.q)[0+n.toNat]? =some e/\
 ∃(v_1:Value),e[0]? =some (η v_1)/\
 ∃(l:List (Nat×θ)),∃(i_1:Nat),∃(b_1:Nat),∃(R:θ),bY i.val.A l/\
 l[i_1]? =some (b_1,R)/\
 η v_1=η (pv b_1)/\
 iP []/\
 bu R/\
 ∀(A':List (Sg×KB)),bY A' (l.set i_1 (b_1,R))->
 At (Ox F v a b o i.val.i) ([an 0 0,V.cF i.val.e 0,ζ γ a,ζ γ b,ε 1 0 o.length,az,ζ γ R.ep,ζ γ R.nu],(qH F i.val.q A' o)))/\
 ∀(i_1:{x:ku // kX F v x }),let ah:=(ae cd i_1.val.q);let κ:=At aV ([an 0 0,V.cF i_1.val.e 0,ζ γ a,ζ γ b,ε 1 0 o.length,az,ξ true],(qH F i_1.val.q i_1.val.A o));(((a != a)=true->
 κ)/\
 ((a != a)=false->
 ((b != b)=true->
 κ)/\
 ((b != b)=false->
 bj (↑i.val.i:Int) (o.length - 0)/\
 ∃(e:List D),(ints γ o)[0+(↑i.val.i:Int).toNat]? =some e/\
 ∃(n:Int),e[0]? =some (η (φ γ n))/\
 bj n (F.R.length - 0)/\
 ∃(e:List D),ah[0+n.toNat]? =some e/\
 ∃(v_1:Value),e[0]? =some (η v_1)/\
 ∃(l:List (List D)),i_1.val.e[3]? =some (ω 1 l)/\
 aM 0/\
 ∃(e:List D),l[0]? =some e/\
 ∃(n:Int),e[0]? =some (η (φ γ n))/\
 bj n (F.R.length - 0)/\
 ∃(e_1:List D),ah[0+n.toNat]? =some e_1/\
 ∃(v_2:Value),e_1[0]? =some (η v_2)/\
 True/\
 True/\
 ∃(l:List (Nat×θ)),∃(i_2:Nat),∃(b_1:Nat),∃(R:θ),bY i_1.val.A l/\
 l[i_2]? =some (b_1,R)/\
 η v_1=η (pv b_1)/\
 iP []/\
 bu R/\
 ∀(A':List (Sg×KB)),bY A' (l.set i_2 (b_1,R))->
 (∃(e:List D),ah[0+n.toNat]? =some e/\
 ∃(v:Value),e[0]? =some (η v)/\
 aH (η v)=aH (η v_2))/\
 (∃(n_1:Int),e[0]? =some (η (φ γ n_1))/\
 kS n_1 n)/\
 (∃(l:List (List D)),i_1.val.e[3]? =some (ω 1 l)/\
 True)/\
 ∃(l:List (Nat×θ)),∃(fm:Nat),∃(b_2:Nat),∃(gr:θ),bY A' l/\
 l[fm]? =some (b_2,gr)/\
 η v_2=η (pv b_2)/\
 iP []/\
 bu gr/\
 ∀(A':List (Sg×KB)),bY A' (l.set fm (b_2,gr))->
 ((dN R.c != dN gr.c)=true->
 At aV ([an 0 0,V.cF i_1.val.e 0,ζ γ a,ζ γ b,ε 1 0 o.length,az,ξ true],(qH F i_1.val.q A' o)))/\
 ((dN R.c != dN gr.c)=false->
 bj (↑i.val.i:Int) (o.length - 0)/\
 ∃(e:List D),(ints γ o)[0+(↑i.val.i:Int).toNat]? =some e/\
 ∃(n:Int),e[0]? =some (η (φ γ n))/\
 bj n (F.R.length - 0)/\
 ∃(e:List D),ah[0+n.toNat]? =some e/\
 ∃(Vk:Value),e[0]? =some (η Vk)/\
 ∃(l:List (List D)),i_1.val.e[3]? =some (ω 1 l)/\
 aM 0/\
 ∃(e:List D),l[0]? =some e/\
 ∃(n:Int),e[0]? =some (η (φ γ n))/\
 bj n (F.R.length - 0)/\
 ∃(e_2:List D),ah[0+n.toNat]? =some e_2/\
 ∃(KY:Value),e_2[0]? =some (η KY)/\
 True/\
 True/\
 ∃(l:List (Nat×θ)),∃(eC:Nat),∃(oF:Nat),∃(R:θ),bY A' l/\
 l[eC]? =some (oF,R)/\
 η Vk=η (pv oF)/\
 iP []/\
 bu R/\
 iK R.ep/\
 ∀(A':List (Sg×KB)),bY A' (l.set eC (oF,R))->
 (∃(e:List D),ah[0+n.toNat]? =some e/\
 ∃(v:Value),e[0]? =some (η v)/\
 aH (η v)=aH (η KY))/\
 (∃(n_1:Int),e[0]? =some (η (φ γ n_1))/\
 kS n_1 n)/\
 (∃(l:List (List D)),i_1.val.e[3]? =some (ω 1 l)/\
 True)/\
 ∃(l:List (Nat×θ)),∃(fV:Nat),∃(tL:Nat),∃(nM:θ),bY A' l/\
 l[fV]? =some (tL,nM)/\
 η KY=η (pv tL)/\
 iP []/\
 bu nM/\
 iK nM.ep/\
 ∀(A':List (Sg×KB)),bY A' (l.set fV (tL,nM))->
 ∃(a_14:List Int),∃(vk:List Int),ints ν (fJ R)=ints ν a_14/\
 ints ν (fJ nM)=ints ν vk/\
 a_14.length.le 1000000/\
 At aV ([an 0 0,V.cF i_1.val.e 0,ζ γ a,ζ γ b,ε 1 0 o.length,az,ξ !decide (a_14=vk)],(qH F i_1.val.q A' o))))))/\
 ∀(i_2:{x:ku // kX F v x }),(false=true->
 False)/\
 (false=false->
 Nx (Gx F v a b o) i ([an 0 0,V.cF i_2.val.e 0,ζ γ a,ζ γ b,ε 1 0 o.length,ζ γ (γ.wrap ((↑i.val.i:Int)+1))],(qH F i_2.val.q i_2.val.A o))))/\
 (decide (bp)=false->
 ∃(n:Int),i.val.e[2]? =some (η (φ γ n))/\
 ((a == n)=true->
 true=true)/\
 ((a == n)=false->
 False)))))
 ):AF l Z F v a b o 4 [aH (.sl 5 (l.map nA))] [] KT:=by apply Eq.mp (a:=ar);kernel_rfl
theorem YO:dP Tryz.prog Gy:=fun f k h=>by
 unfold Gy at h
 split at h
 ·cases h;exact RZ
 ·cases h;exact ab0
 ·exact aaJ _ _ h
theorem WG (l:List Sp) (Z F:Wd) (v:Vw) (a b:Int) (o:List Int):b9 Tryz.prog (AF l Z F v a b o):=dY mixed YO _ 10
structure Lt (l:List Sp) (Z:Wd) (v:Vw) (o:List Int):Prop where
 z:Z=kv (dB l)
 v0:0<Z.vs.length/\Z.vs.length<=1000
 hv:v=bq Z
 vl:v.mem.length+v.aC.length<=1000
 tl:∀ i,i<4->(fR v Z i).R.length=4/\bu (ι (fR v Z i) i)/\(ι (fR v Z i) i).out.length+(bx (ι (fR v Z i) i).me v.mem v.aC).length<=100000/\jX (bA (fR v Z i) i (dT (ι (fR v Z i) i) v)) i
 m0:v.mem≠[]
 ho:o=v.mem++v.aC
 rg:∀ x∈o,0<=x/\x<4
structure Lr (F:Wd) (v:Vw) (a b:Int) (o:List Int):Prop where
 rl:F.R.length=4
 ve:a=v.ve
 mm:∃ C B,∀ k:Nat,(k:Int)∈o->bu (ι F k)/\iK (ι F k).ep/\(ι F k).ep=a/\(ι F k).nu=b/\(ι F k).c=C/\fJ (ι F k)=B/\B.length<=2000
theorem YS {l:List Sp} (hl:l.length<=80):Lt l (kv (dB l)) (bq (dB l)) ((bq (dB l)).mem++(bq (dB l)).aC)/\WI (1+3*(l.length:Int)) (fR (bq (dB l)) (kv (dB l)) 4):=by
 have hw:=J6 hl
 obtain⟨G,hJ⟩:=TH (l:=l) (by omega)
 have ky:=vP hw
 have kC:=hw.vs _ ky
 have HN:=kC.len
 have hc:WI (1+3*(l.length:Int)) (kv (dB l)):=⟨hw.rl,hw.dl,hw.r,hw.dk,hw.vs,hw.v0,hw.vm,fun l hl=>(by cases hl),bt _,hw.cs,hw.cl,hw.n3,hw.nb,hw.n0,hw.n1⟩
 have tw:∀ i,i<=4->WI (1+3*(l.length:Int)) (fR (bq (dB l)) (kv (dB l)) i)/\bq (dB l)∈(fR (bq (dB l)) (kv (dB l)) i).vs:=fun i=>by
  induction i with
  |zero=>exact fun _=>⟨hc,ky⟩
  |succ i ih=>
   intro hi
   obtain⟨h1,h2⟩:=ih (by omega)
   exact⟨(zh h1 (by omega) (by omega) h2).2.2.2.2,by
    show _∈(sc _ i _).vs
    unfold sc;rw[xK];exact h2⟩
 refine⟨⟨rfl,⟨hw.v0,by have:=hw.vm;show(dB l).vs.length<=_;omega⟩,rfl,by omega,fun i hi=>?_,kC.m0,rfl,kC.rg⟩,(tw 4 (au _)).1⟩
 obtain⟨h1,h2⟩:=tw i (by omega)
 obtain⟨c1,c2,c3,c4,_⟩:=zh h1 (by omega) hi h2
 exact⟨h1.rl,c1,c3,c4⟩
theorem YR {l:List Sp} (hl:l.length<=80):Lr (gU 30 (fR (bq (dB l)) (kv (dB l)) 4)) (bq (dB l)) (ι (gU 30 (fR (bq (dB l)) (kv (dB l)) 4)) (dJ (bq (dB l))).toNat).ep (ι (gU 30 (fR (bq (dB l)) (kv (dB l)) 4)) (dJ (bq (dB l))).toNat).nu ((bq (dB l)).mem++(bq (dB l)).aC):=by
 have hw:=J6 hl
 obtain⟨G,hJ⟩:=TH (l:=l) (by omega)
 obtain⟨h1,L,h2,h3,h4⟩:=afL hw (by omega) hJ (aeH (by omega))
 obtain⟨L',h5,h6,h7⟩:=YY h1 h2 (by omega) (n:=30) (by omega) (by omega)
 have h8:=Bo h1 30 (by omega)
 generalize gU 30 (fR (bq (dB l)) (kv (dB l)) 4)=F at*
 have kC:=hw.vs _ (vP hw)
 have kx:=h2.d4
 have hme:=(h8.r _ kx).me
 have key:∀ k:Nat,(k:Int)∈(bq (dB l)).mem++(bq (dB l)).aC->k<4/\(ι F k).ep=(ι F (dJ (bq (dB l))).toNat).ep/\(ι F k).nu=(ι F (dJ (bq (dB l))).toNat).nu/\(ι F k).c=(ι F (dJ (bq (dB l))).toNat).c/\(ι F k).t=(ι F (dJ (bq (dB l))).toNat).t:=fun k hk=>by
  have hk4:=kC.rg _ hk
  refine⟨by omega,?_⟩
  by_cases e:k=(dJ (bq (dB l))).toNat
  ·subst e;exact⟨rfl,rfl,rfl,rfl⟩
  ·exact aeB h8 h5 (by omega) (uq.2 ⟨by rw[h6,h3];exact hk,by rw[hme];omega⟩)
 refine⟨h8.rl,h5.fp.ep,(ι F (dJ (bq (dB l))).toNat).c,fJ (ι F (dJ (bq (dB l))).toNat),fun k hk=>?_⟩
 obtain⟨k4,k1,k2,k3,k5⟩:=key k hk
 have hr:=(h8.r k k4).w
 have hrd:=(h8.r _ kx).w
 have he:=hr.e1
 refine⟨hr.i,⟨by omega⟩,k1,k2,k3,?_,Tv _ _ hrd.i.ok.cl hrd.i.tx.len⟩
 show jg (ι F k).ep (ι F k).nu (ι F k).c (ι F k).t=jg _ _ _ _
 rw[k1,k2,k3,k5];rfl
theorem Yj {l:List (Nat×θ)} {q:List (Nat×Nat)} {F:Wd} (h:CU l q F.R) {k:Nat} (hk:k<F.R.length):∃ j b,q[k]? =some (j,b)/\l[j]? =some (b,ι F k):=by
 obtain⟨⟨j,b⟩,hq⟩:=h.lt hk
 obtain⟨R2,g1,g2⟩:=h.a k _ hq
 rw[qx (w:=F) hk]at g1;cases g1
 exact⟨j,b,hq,g2⟩
theorem aaU {l:List Sp} {Z F:Wd} {v:Vw} {a b:Int} {o:List Int} (hp:l.length<=80->Lt l Z v o/\zH (fR v Z 4) 30/\F=gU 30 (fR v Z 4)/\Lr F v a b o):AF l Z F v a b o 4 [aH (.sl 5 (l.map nA))] [] KT:=by
 apply ahq l Z F v a b o
 dsimp only
 rw[cp]
 refine⟨fun _=>rfl,fun h1=>?_⟩
 have hl:l.length<=80:=by rw[decide_eq_false_iff_not]at h1;omega
 obtain⟨hP,ZE,hF,hE⟩:=hp hl
 refine⟨[],S3,fun W hW q A' p=>?_⟩
 subst hW
 refine⟨At.mk' (⟨⟨0,jN 4,q,A'⟩,bt _,rfl,p⟩:{x:j5 // zJ l x}) rfl,?_⟩
 rintro⟨⟨i,W,q1,A1⟩,hi,hW,P1⟩
 dsimp only at hi hW P1 ⊢
 have Pf:WI (1+3*(i:Int)) W:=by
  have:=J6 (l:=l.take i) (by rw[dc];omega)
  rw[dc,Nat.min_eq_left hi]at this
  rw[hW];exact this
 refine⟨fun hlt=>?_,fun hge=>?_⟩
 ·have hlt:i<l.length:=by rw[decide_eq_true_eq]at hlt;omega
  refine⟨by unfold aM;omega,nA l[i],by rw[dD,fH,bz hlt];rfl,_,rfl,_,rfl,_,rfl,_,rfl,_,rfl,W,q1,A1,⟨rfl⟩,P1,l[i],rfl,(tn Pf (by omega) _).1,fun w' hw' q' A' p'=>?_⟩
  refine Nx.mk' (⟨⟨i+1,w',q',A'⟩,hlt,by show w'=_;rw[hw',hW,aeJ hlt],p'⟩:{x:j5 // zJ l x}) ?_ (by show l.length - (i+1)<l.length - i;omega)
  rw[bS (by omega) (by omega)]
  rfl
 have hi:i=l.length:=by rw[decide_eq_false_iff_not]at hge;omega
 subst hi
 rw[cZ]at hW
 have hz:=hP.z
 rw[<- hW]at hz
 refine⟨At.mk' (⟨⟨q1,A1⟩,⟨by rw[hz];exact P1⟩⟩:{x:PA // EZ Z x}) (by subst hz;rfl),?_⟩
 clear Pf hW P1 hge hz hi
 rintro⟨⟨q2,A2⟩,⟨P2⟩⟩
 dsimp only at P2 ⊢
 have hv0:=hP.v0
 have ew:γ.wrap (((Z.vs.length - 0:Nat):Int) - 1)=((Z.vs.length - 1:Nat):Int):=by rw[bS (by omega) (by omega)];omega
 have hg:(ae c8 Z.vs)[0+((Z.vs.length - 1:Nat):Int).toNat]? =some (c8 v):=by
  rw[cQ,dD,fH,uJ (by omega),hP.hv];rfl
 rw[ew]
 refine⟨⟨by unfold bj;omega,_,hg,_,rfl,_,rfl,_,rfl,_,rfl,_,rfl,⟨_,hg,_,rfl,_,rfl,_,rfl,_,rfl,_,rfl,trivial⟩,trivial,trivial,At.mk' (⟨⟨q2,A2,c8 v⟩,rfl,P2⟩:{x:ku // kX Z v x}) rfl⟩,?_⟩
 rintro⟨⟨q3,A3,e3⟩,HA,P3⟩
 dsimp only at HA P3 ⊢
 refine⟨At.mk' (⟨⟨0,q3,A3,e3⟩,bt _,HA,P3⟩:{x:pS // AD Z v x}) rfl,?_⟩
 rintro⟨⟨j,q4,A4,e4⟩,hj,PI,P4⟩
 dsimp only at hj PI P4 ⊢
 subst PI
 refine⟨fun hlt=>?_,fun hge=>⟨?_,?_⟩⟩
 ·have hlt:j<4:=by rw[decide_eq_true_eq]at hlt;omega
  obtain⟨c0,c1,c3,c4⟩:=hP.tl j hlt
  obtain⟨l2,k,b2,hq,hA,hl2,dR⟩:=P4.get (qx (w:=fR v Z j) (i:=j) (by omega))
  refine⟨by unfold bj;omega,_,pL hq,_,rfl,_,rfl,_,rfl,_,rfl,_,rfl,_,rfl,l2,k,b2,_,hA,hl2,rfl,v,rfl,c1,hP.vl,c3,fun A5 p5=>⟨bA (fR v Z j) j (dT (ι (fR v Z j) j) v),q4,A5,⟨zi (W:=fR v Z j) (by show((fR v Z j).R.set _ _).length=_;rw[iA]) q4 A5⟩,dR _ _ p5,j,rfl,c4,fun w' hw' q' A' p'=>?_⟩⟩
  subst hw'
  refine Nx.mk' (⟨⟨j+1,q',A',c8 v⟩,hlt,rfl,p'⟩:{x:pS // AD Z v x}) ?_ (by show 4 - (j+1)<4 - j;omega)
  rw[bS (by omega) (by omega)]
  rfl
 ·have hj:j=4:=by rw[decide_eq_false_iff_not]at hge;omega
  subst hj
  refine⟨_,q4,A4,⟨rfl⟩,P4,30,rfl,⟨ZE,by omega⟩,fun w' hw' q' A' p'=>?_⟩
  have hw':=hw'.trans hF.symm
  subst hw'
  exact At.mk' (⟨⟨q',A',c8 v⟩,rfl,p'⟩:{x:ku // kX w' v x}) rfl
 clear hge hj P4 q4 A4 P3 q3 A3 HA P2
 obtain⟨C,B,mm⟩:=hE.mm
 have hrl:=hE.rl
 have rd:∀{l2:List (Nat×θ)} {q:List (Nat×Nat)},CU l2 q F.R->∀ x∈o,bj x (F.R.length - 0)/\∃ j b',(ae cd q)[0+x.toNat]? =some [η (pv b')]/\l2[j]? =some (b',ι F x.toNat)/\(x.toNat:Int)=x:=fun rf x hx=>by
  have uj:=hP.rg x hx
  obtain⟨j,b',h1,h2⟩:=Yj rf (k:=x.toNat) (by omega)
  exact⟨by unfold bj;omega,j,b',by rw[cQ,fH,h1];rfl,h2,by omega⟩
 have hm0:dJ v∈o:=by rw[hP.ho];exact iM _ (HC hP.m0)
 obtain⟨x0,r0,hx0⟩:∃ x r,v.mem=x::r:=by
  cases hm:v.mem with
  |nil=>exact absurd hm hP.m0
  |cons x r=>exact⟨x,r,rfl⟩
 have hh:dJ v=x0:=by unfold dJ;rw[hx0];rfl
 rw[hh]at hm0
 have hI:(ints γ v.mem)[0]? =some [dn γ x0]:=by rw[hx0];rfl
 have hov:=hP.vl
 have fz:o.length=v.mem.length+v.aC.length:=by rw[hP.ho,bo]
 rintro⟨⟨q5,A5,e5⟩,PJ,⟨l5,O9,Hu⟩⟩
 dsimp only at PJ ⊢
 subst PJ
 refine⟨?_,?_⟩
 ·obtain⟨g1,j,b',g2,g3,g4⟩:=rd Hu x0 hm0
  obtain⟨m1,m2,m3,m4,m5,m6,m7⟩:=mm x0.toNat (by rw[g4];exact hm0)
  refine⟨_,rfl,by unfold aM;omega,_,hI,_,rfl,g1,_,g2,_,rfl,l5,j,b',_,O9,g3,rfl,⟨rfl⟩,m1,fun A6 p6=>?_⟩
  rw[wy g3]at p6
  exact At.mk' (⟨⟨q5,A6,c8 v⟩,rfl,⟨l5,p6,Hu⟩⟩:{x:ku // kX F v x}) (by rw[m3,m4])
 rintro⟨⟨q6,A6,e6⟩,PL,P6⟩
 dsimp only at PL P6 ⊢
 subst PL
 refine⟨⟨_,rfl,_,rfl,⟨_,rfl,trivial⟩,⟨_,rfl,trivial⟩,trivial,au _,by rw[bh];omega,⟨_,rfl,trivial⟩,trivial,by simp,by rw[bh,bh];omega,At.mk' (⟨⟨q6,A6,c8 v⟩,rfl,P6⟩:{x:ku // kX F v x}) ?_⟩,?_⟩
 ·have e1:aA (0+(ints γ v.mem).length) ([]++ints γ v.mem)++ints γ v.aC=ints γ o:=by
   rw[cQ,ju,cZ,hP.ho,qj]
  rw[e1,bh,bh,cQ,<- fz]
 clear P6 q6 A6 Hu O9
 rintro⟨⟨q7,A7,e7⟩,HB,P7⟩
 dsimp only at HB P7 ⊢
 refine⟨At.mk' (⟨⟨0,q7,A7,e7⟩,bt _,HB,P7⟩:{x:pS // AC F v o.length x}) rfl,?_⟩
 clear P7 HB
 rintro⟨⟨i,q8,A8,e8⟩,hi,PN,P8⟩
 dsimp only at hi PN P8 ⊢
 subst PN
 rw[kV]
 refine⟨fun hlt=>⟨?_,?_⟩,fun hge=>?_⟩
 ·have hlt:i<o.length:=by rw[decide_eq_true_eq]at hlt;omega
  obtain⟨l8,Zy,Pz⟩:=P8.h
  have ye:o[i]∈o:=List.getElem_mem hlt
  have eJ:(ints γ o)[0+(i:Int).toNat]? =some [dn γ o[i]]:=by rw[cQ,dD];unfold ints;rw[fH,bz hlt];rfl
  obtain⟨g1,j,b',g2,g3,g4⟩:=rd Pz _ ye
  obtain⟨m1,m2,m3,m4,m5,m6,m7⟩:=mm (o[i]).toNat (by rw[g4];exact ye)
  refine⟨by unfold bj;omega,_,eJ,_,rfl,g1,_,g2,_,rfl,l8,j,b',_,Zy,g3,rfl,⟨rfl⟩,m1,fun A9 p9=>?_⟩
  rw[wy g3]at p9
  exact At.mk' (⟨⟨q8,A9,c8 v⟩,rfl,⟨l8,p9,Pz⟩⟩:{x:ku // kX F v x}) (by rw[m3,m4])
 ·have hlt:i<o.length:=by rw[decide_eq_true_eq]at hlt;omega
  have ye:o[i]∈o:=List.getElem_mem hlt
  have eJ:(ints γ o)[0+(i:Int).toNat]? =some [dn γ o[i]]:=by rw[cQ,dD];unfold ints;rw[fH,bz hlt];rfl
  have P5:bj (i:Int) o.length:=by unfold bj;omega
  rintro⟨⟨q9,A9,e9⟩,PO,P9⟩
  dsimp only at PO P9 ⊢
  subst PO
  obtain⟨l9,Zz,Hv⟩:=P9.h
  obtain⟨g1,j,b',g2,g3,g4⟩:=rd Hv _ ye
  obtain⟨m1,m2,m3,m4,m5,m6,m7⟩:=mm (o[i]).toNat (by rw[g4];exact ye)
  obtain⟨k1,j0,b0,k2,k3,k4⟩:=rd Hv x0 hm0
  obtain⟨n1,n2,n3,n4,n5,n6,n7⟩:=mm x0.toNat (by rw[k4];exact hm0)
  refine⟨⟨fun t=>(by simp at t),fun _=>⟨fun t=>(by simp at t),fun _=>?_⟩⟩,?_⟩
  ·refine⟨P5,_,eJ,_,rfl,g1,_,g2,_,rfl,_,rfl,by unfold aM;omega,_,hI,_,rfl,k1,_,k2,_,rfl,trivial,trivial,l9,j,b',_,Zz,g3,rfl,⟨rfl⟩,m1,fun A10 SQ=>?_⟩
   rw[wy g3]at SQ
   refine⟨⟨_,k2,_,rfl,rfl⟩,⟨_,rfl,⟨rfl⟩⟩,⟨_,rfl,trivial⟩,l9,j0,b0,_,SQ,k3,rfl,⟨rfl⟩,n1,fun A11 SR=>?_⟩
   rw[wy k3]at SR
   rw[m5,n5]
   refine⟨fun t=>(by simp at t),fun _=>⟨P5,_,eJ,_,rfl,g1,_,g2,_,rfl,_,rfl,by unfold aM;omega,_,hI,_,rfl,k1,_,k2,_,rfl,trivial,trivial,l9,j,b',_,SR,g3,rfl,⟨rfl⟩,m1,m2,fun A12 SS=>?_⟩⟩
   rw[wy g3]at SS
   refine⟨⟨_,k2,_,rfl,rfl⟩,⟨_,rfl,⟨rfl⟩⟩,⟨_,rfl,trivial⟩,l9,j0,b0,_,SS,k3,rfl,⟨rfl⟩,n1,n2,fun V7 SU=>⟨B,B,by rw[m6],by rw[n6],Nat.le_trans m7 (by omega),?_⟩⟩
   rw[wy k3]at SU
   exact At.mk' (⟨⟨q9,V7,c8 v⟩,rfl,⟨l9,SU,Hv⟩⟩:{x:ku // kX F v x}) (by simp)
  ·rintro⟨⟨q14,V8,YE⟩,PH,LX⟩
   dsimp only at PH LX ⊢
   refine⟨fun t=>(by cases t),fun _=>Nx.mk' (⟨⟨i+1,q14,V8,YE⟩,hlt,PH,LX⟩:{x:pS // AC F v o.length x}) ?_ (by show o.length - (i+1)<o.length - i;omega)⟩
   rw[bS (by omega) (by omega)]
   rfl
 ·refine⟨_,rfl,fun _=>rfl,fun t=>?_⟩
  have:=hE.ve
  simp [this]at t
noncomputable def Gu (l:List Sp):Wd:=gU 30 (fR (bq (dB l)) (kv (dB l)) 4)
theorem aaT (l:List Sp):AF l (kv (dB l)) (Gu l) (bq (dB l)) (ι (Gu l) (dJ (bq (dB l))).toNat).ep (ι (Gu l) (dJ (bq (dB l))).toNat).nu ((bq (dB l)).mem++(bq (dB l)).aC) 4 [aH (.sl 5 (l.map nA))] [] KT:=
 aaU fun hl=>by
  obtain⟨h1,h2⟩:=YS hl
  exact⟨h1,YX h2 (by omega),rfl,YR hl⟩
end Go.Proofs.YtfcjngcnifdmnaaGreat
