import Derived.Test.YtfcjngcnifdmnaaGreatQf
import Derived.KernelRfl
namespace Go.Proofs.YtfcjngcnifdmnaaGreat
open Vc Go
open Go.IntKind renaming i64->γ,u8->ν,u32->iy
open Vc.V renaming any->δ,sl->ε,int->ζ,sb->ξ,ptr->an,χ->av,dat->aH,af->aO,mp->bb,arr->bD,agg->fw
open Vc.D renaming val->η,sl->ω
open Vc.KO renaming row->υ,dead->aa,cells->aw,objs->cY
open Go.Value renaming int->φ,map->kr,oneCell'->l0
open List renaming map->ae,drop->ax,take->aA,length_append->bo,getElem?_eq_getElem->bz,getElem?_eq_some_iff->bO,length_map->cp,take_length->cZ,length_take->dc,mem_singleton->dm,replicate->dp,mem_append->dQ,Mem->dW,getElem?_append_left->dX,mem_map->ef,append_assoc->eH,mem_cons->eI,getElem?_append_right->e_,append_nil->fu,getElem?_map->fH,take_of_length_le->fI,length_drop->fZ,mem_cons_of_mem->f_,getElem?_set_ne->gE,length_cons->gF,mem_of_getElem?->gG,getElem?_eq_none->g_,getElem?_set_self->iz,length_set->iA,mem_cons_self->iB,length_singleton->iL,mem_append_left->iM,range->iN,drop_zero->iX,getD_eq_getElem?_getD->iY,getElem?_take_of_lt->ji,flatten_cons->jt,nil_append->ju,getElem?_drop->jE,map_append->jZ,take_add_one->j2,length_nil->ko,ext_getElem?->lB,getElem?_of_mem->lC,mem_append_right->lD,map_cons->lY,mem_filter->lZ,eq_nil_of_length_eq_zero->mq
open Nat renaming le_refl->au,zero_le->bt,beq->cq,eq_of_beq_eq_true->cP,zero_add->cQ,add_assoc->gR,lor->iO,lt_or_ge->jF,sub_zero->kV
open Option renaming some->bc,bind_eq_some_iff->kW,map->mU
open Int renaming le_refl->dy,toNat_natCast->dD
open Bool renaming and_eq_true->iW,not_eq_false'->nI
set_option linter.unusedVariables false
set_option linter.unusedSimpArgs false
set_option maxRecDepth 100000
def Iw:fU:=⟨0,0,⟨0,[],[],[]⟩⟩
def fx (w:Wd) (k:Nat):fU:=w.ψ.getD k Iw
def fq (w:Wd) (k:Nat):Wd:={w with ψ:=w.ψ.eraseIdx k }
noncomputable def x_ (w:Wd) (l:fU):Wd:={w with R:=w.R.set l.to.toNat (dE (ι w l.to.toNat) l.fr l.m) }
noncomputable def l7 (w:Wd) (k:Nat):Wd:=cU (x_ (fq w k) (fx w k)) (fx w k).to.toNat
def EL:aD:=fun args kb K=>match args,kb with
 | [aH (.sl 1 B)],[]=>∃ m:dI,B=ints ν (mJ m)/\kq m/\K (.χ [IK m,.int γ 0]) []
 |_,_=>False
structure zD where
 W:Wd
 e:List D
 q:List (Nat×Nat)
 A:List (Sg×KB)
structure D3 (w:Wd) (k:Nat) (x:zD):Prop where
 W:x.W=fq w k
 e:x.e=jo (fx w k).m
 p:PW x.A x.q x.W.R
abbrev NR (w:Wd) (k:Nat) (l:fU):LI where
 α:={x:zD // D3 w k x}
 live:=[0,4,5,40]
 dV:=eW++[.qh 2]
 st x:=([an 0 0,an 14 0,.cF x.1.e 0,ξ true],[jC 8 x.1.W,aa,aa,aa,aa,aa,aa,cY x.1.A,ki x.1.q,kJ x.1.W,kj x.1.W,jQ x.1.W,la x.1.W,lb x.1.W,aw [.int γ l.fr,.int γ l.to,aH (.sl 1 (ints ν (mJ l.m)))]])
 μ x:=0
def zf (w:Wd) (i:Nat):Vw:=w.vs.getD i ⟨0,0,0,[],[]⟩
def bq (w:Wd):Vw:=zf w (w.vs.length - 1)
def dJ (c:Vw):Int:=c.mem.getD 0 0
def oZ (w:Wd) (s:Sp) (a:Int):Wd:=
 if bH s.k 3=2/\¬ (ii (ι w (dJ (bq w)).toNat)=true/\(ι w (dJ (bq w)).toNat).ep=(bq w).ve)then w
 else if(lQ (bq w) (bH s.k 3) a).ve≠(bq w).ve then{w with vs:=w.vs++[lQ (bq w) (bH s.k 3) a] }else w
structure EW (w:Wd) (s:Sp) (x:lE):Prop where
 e:x.e=c8 (bq w)
 b:x.b=(bH s.k 3 == 2)
 p:PW x.A x.q w.R
abbrev Vb (w:Wd) (s:Sp) (a:Int):LI where
 α:={x:lE // EW w s x}
 live:=[0,2,6,7,30]
 dV:=eW++[.qh 2]
 st x:=([an 0 0,.int γ a,.cF x.1.e 0,.int γ (bH s.k 3),ξ x.1.b],d_ w x.1.q x.1.A)
 μ x:=0
structure AA (w:Wd) (s:Sp) (x:lE):Prop where
 e:x.e=c8 (bq w)
 ok:bH s.k 3=2->ii (ι w (dJ (bq w)).toNat)=true/\(ι w (dJ (bq w)).toNat).ep=(bq w).ve
 p:PW x.A x.q w.R
abbrev KR (w:Wd) (s:Sp) (a:Int):LI where
 α:={x:lE // AA w s x}
 live:=[0,2,6,7]
 dV:=eW
 st x:=([an 0 0,.int γ a,.cF x.1.e 0,.int γ (bH s.k 3)],d_ w x.1.q x.1.A)
 μ x:=0
structure EX (w:Wd) (s:Sp) (a:Int) (x:lE):Prop where
 e:x.e=c8 (lQ (bq w) (bH s.k 3) a)
 b:x.b=((lQ (bq w) (bH s.k 3) a).ve != (bq w).ve)
 p:PW x.A x.q w.R
abbrev Vd (w:Wd) (s:Sp) (a:Int):LI where
 α:={x:lE // EX w s a x}
 live:=[0,13,76]
 dV:=eW++[.qh 1]
 st x:=([an 0 0,.cF x.1.e 0,ξ x.1.b],d_ w x.1.q x.1.A)
 μ x:=0
def A0 (w:Wd) (s:Sp) (a:Int) (k:Nat) (l:fU):FuncId->Nat->Option LI
 | 27,1004=>some (NR w k l)
 | 28,1004=>some (Vb w s a)
 | 28,1007=>some (KR w s a)
 | 28,1009=>some (Vd w s a)
 |_,_=>none
def Ez:aD:=fun args kb K=>match args,kb with
 | [.agg [.int γ vi,.int γ vv,.int γ ve,aH (.sl 1 M),aH (.sl 1 J)],.int γ ch,.int γ id],[]=>∃ m j:List Int,M=ints γ m/\J=ints γ j/\m.length<=1000/\j.length<=1000/\qP ve/\ve<=1000000/\∀ x:Vw,x=lQ ⟨vi,vv,ve,m,j⟩ ch id->K (wL x) []
 |_,_=>False
def F4:FuncId->Option dK
 | 59=>some ⟨[],EL⟩
 | 61=>some ⟨[],Ez⟩
 |f=>y_ f
noncomputable def E5:bN:=dU Tryz.prog F4 aI 10
theorem agD (w:Wd) (k:Nat) (l:fU) (q:List (Nat×Nat)) (A:List (Sg×KB)) (K:V->KB->Prop) (ar:
 let az:=(aA (0+(w.ψ.length - 0)) (ae cN w.ψ));let ah:=(γ.wrap ((↑k:Int)+1));let κ:=(aA (0+(↑k:Int).toNat) (ae cN w.ψ));bj (↑k:Int) (w.ψ.length - 0)/\
 ∃(e:List D),(ae cN w.ψ)[0+(↑k:Int).toNat]? =some e/\
 ∃(n:Int),e[0]? =some (η (φ γ n))/\
 ∃(n_1:Int),e[1]? =some (η (φ γ n_1))/\
 ∃(l_1:List (List D)),e[2]? =some (ω 1 l_1)/\
 True/\
 aM (↑k:Int)/\
 0<=(↑k:Int).toNat/\
 (↑k:Int).toNat<=w.ψ.length - 0/\
 aM ah/\
 True/\
 ah.toNat<=w.ψ.length - 0/\
 w.ψ.length - 0<=w.ψ.length - 0/\
 True/\
 True/\
 True/\
 True/\
 0+(↑k:Int).toNat<=(ae cN w.ψ).length/\
 0<=0/\
 (0+(ax 0 κ).length)*40<=140737488355328/\
 0+(w.ψ.length - 0)<=(ae cN w.ψ).length/\
 0+(ax 0 κ).length<=([]++ax 0 κ).length/\
 (0+(ax 0 κ).length+(ax (0+ah.toNat) az).length)*40<=140737488355328/\
 ∃(m:dI),l_1=ints ν (mJ m)/\
 kq m/\
 At (NR w k l) ([an 0 0,an 14 0,V.cF [η (φ γ m.kd),ω 1 (ints γ m.n),ω 1 (ints ν m.b),ω 1 (cm m.l)] 0,ξ true],[aw [ε 8 0 w.R.length,ε 9 0 w.dk.length,ε 10 0 w.vs.length,ε 11 0 (0+(ax 0 κ).length+(ax (0+ah.toNat) az).length),ε 12 0 w.cs.length,ε 13 0 w.aX.length,ζ γ w.now,ξ w.ok],aa,aa,aa,aa,aa,aa,cY A,υ 30 1 (ae cd q),υ 23 1 (ae bB w.dk),υ 49 5 (ae c8 w.vs),υ 73 3 (aA (0+(ax 0 κ).length) ([]++ax 0 κ)++ax (0+ah.toNat) az),υ 61 10 (ae c9 w.cs),υ 3 1 (ints γ w.aX),aw [ζ γ n,ζ γ n_1,aH (ω 1 l_1)]])/\
 ∀(i:{x:zD // D3 w k x }),let bC:=υ 49 5 (ae c8 i.val.W.vs);let bp:=υ 23 1 (ae bB i.val.W.dk);let aV:=υ 61 10 (ae c9 i.val.W.cs);let aJ:=υ 73 3 (ae cN i.val.W.ψ);let aL:=υ 3 1 (ints γ i.val.W.aX);(true=true->
 bj l.to (i.val.W.R.length - 0)/\
 ∃(e:List D),(ae cd i.val.q)[0+l.to.toNat]? =some e/\
 ∃(v:Value),e[0]? =some (η v)/\
 ∃(n:Int),i.val.e[0]? =some (η (φ γ n))/\
 ∃(l_2:List (List D)),i.val.e[1]? =some (ω 1 l_2)/\
 ∃(jy:List (List D)),i.val.e[2]? =some (ω 1 jy)/\
 ∃(gV:List (List D)),i.val.e[3]? =some (ω 1 gV)/\
 ∃(oN:List (Nat×θ)),∃(i_1:Nat),∃(b:Nat),∃(R:θ),bY i.val.A oN/\
 oN[i_1]? =some (b,R)/\
 η v=η (pv b)/\
 ∃(fr:Int),∃(m:dI),[ζ γ l.fr,fw [ζ γ n,aH (ω 1 l_2),aH (ω 1 jy),aH (ω 1 gV)]]=[ζ γ fr,IK m]/\
 bu R/\
 kT m/\
 ∀(A':List (Sg×KB)),bY A' (oN.set i_1 (b,dE R fr m))->
 ∃(w_1:Wd),∃(q:List (Nat×Nat)),∃(A:List (Sg×KB)),mn [aw [ε 1 0 i.val.W.R.length,ε 2 0 i.val.W.dk.length,ε 3 0 i.val.W.vs.length,ε 4 0 i.val.W.ψ.length,ε 5 0 i.val.W.cs.length,ε 6 0 i.val.W.aX.length,ζ γ i.val.W.now,ξ i.val.W.ok],υ 30 1 (ae cd i.val.q),bp,bC,aJ,aV,aL,cY A'] w_1 q A/\
 PW A q w_1.R/\
 ∃(i:Nat),[ζ γ l.to]=[ζ γ (↑i:Int)]/\
 jX w_1 i/\
 ∀(w':Wd),w'=cU w_1 i->
 ∀(q':List (Nat×Nat)) (A':List (Sg×KB)),PW A' q' w'.R->
 K (av []) [aw [ε 8 0 w'.R.length,ε 9 0 w'.dk.length,ε 10 0 w'.vs.length,ε 11 0 w'.ψ.length,ε 12 0 w'.cs.length,ε 13 0 w'.aX.length,ζ γ w'.now,ξ w'.ok],aa,aa,aa,aa,aa,aa,cY A',υ 30 1 (ae cd q'),υ 23 1 (ae bB w'.dk),υ 49 5 (ae c8 w'.vs),υ 73 3 (ae cN w'.ψ),υ 61 10 (ae c9 w'.cs),υ 3 1 (ints γ w'.aX)])/\
 (true=false->
 K (av []) [aw [ε 8 0 i.val.W.R.length,ε 9 0 i.val.W.dk.length,ε 10 0 i.val.W.vs.length,ε 11 0 i.val.W.ψ.length,ε 12 0 i.val.W.cs.length,ε 13 0 i.val.W.aX.length,ζ γ i.val.W.now,ξ i.val.W.ok],aa,aa,aa,aa,aa,aa,cY i.val.A,υ 30 1 (ae cd i.val.q),bp,bC,aJ,aV,aL])
 ):aK Tryz.prog E5 (A0 w ⟨0,0,0,0,false⟩ 0 k l 27) 27 [an 0 0,.int γ (k:Int)] (gl w q A) (fA eW (dx 8 K)):=by apply Eq.mp (a:=ar);kernel_rfl
theorem ahN (w:Wd) (s:Sp) (a:Int) (q:List (Nat×Nat)) (A:List (Sg×KB)) (K:V->KB->Prop) (ar:
 let bC:=ζ γ (bH s.k 3);let bp:=υ 49 5 (ae c8 w.vs);let aV:=υ 23 1 (ae bB w.dk);let aJ:=υ 61 10 (ae c9 w.cs);let aL:=υ 73 3 (ae cN w.ψ);let az:=υ 3 1 (ints γ w.aX);let ah:=aw [ε 8 0 w.R.length,ε 9 0 w.dk.length,ε 10 0 w.vs.length,ε 11 0 w.ψ.length,ε 12 0 w.cs.length,ε 13 0 w.aX.length,ζ γ w.now,ξ w.ok];bj (γ.wrap ((↑(w.vs.length - 0):Int) - 1)) (w.vs.length - 0)/\
 ∃(e:List D),(ae c8 w.vs)[0+(γ.wrap ((↑(w.vs.length - 0):Int) - 1)).toNat]? =some e/\
 ∃(n:Int),e[0]? =some (η (φ γ n))/\
 ∃(n_1:Int),e[1]? =some (η (φ γ n_1))/\
 ∃(n_2:Int),e[2]? =some (η (φ γ n_2))/\
 ∃(l:List (List D)),e[3]? =some (ω 1 l)/\
 ∃(l_1:List (List D)),e[4]? =some (ω 1 l_1)/\
 (∃(e:List D),(ae c8 w.vs)[0+(γ.wrap ((↑(w.vs.length - 0):Int) - 1)).toNat]? =some e/\
 ∃(n:Int),e[0]? =some (η (φ γ n))/\
 ∃(n:Int),e[1]? =some (η (φ γ n))/\
 ∃(n:Int),e[2]? =some (η (φ γ n))/\
 ∃(l:List (List D)),e[3]? =some (ω 1 l)/\
 ∃(l:List (List D)),e[4]? =some (ω 1 l)/\
 True)/\
 True/\
 True/\
 nJ 3/\
 (At (Vb w s a) ([an 0 0,ζ γ a,V.cF [η (φ γ n),η (φ γ n_1),η (φ γ n_2),ω 1 l,ω 1 l_1] 0,bC,ξ (bH s.k 3 == 2)],[ah,aa,aa,aa,aa,aa,aa,cY A,υ 30 1 (ae cd q),aV,bp,aL,aJ,az])/\
 ∀(i:{x:lE // EW w s x }),(i.val.b=true->
 ∃(l:List (List D)),i.val.e[3]? =some (ω 1 l)/\
 aM 0/\
 ∃(e:List D),l[0]? =some e/\
 ∃(n:Int),e[0]? =some (η (φ γ n))/\
 bj n (w.R.length - 0)/\
 ∃(e:List D),(ae cd i.val.q)[0+n.toNat]? =some e/\
 ∃(v:Value),e[0]? =some (η v)/\
 ∃(l:List (Nat×θ)),∃(i_1:Nat),∃(b:Nat),∃(R:θ),bY i.val.A l/\
 l[i_1]? =some (b,R)/\
 η v=η (pv b)/\
 iP []/\
 bu R/\
 ∀(A':List (Sg×KB)),bY A' (l.set i_1 (b,R))->
 ∃(l:List (List D)),i.val.e[3]? =some (ω 1 l)/\
 aM 0/\
 ∃(e:List D),l[0]? =some e/\
 ∃(n:Int),e[0]? =some (η (φ γ n))/\
 bj n (w.R.length - 0)/\
 ∃(e:List D),(ae cd i.val.q)[0+n.toNat]? =some e/\
 ∃(v:Value),e[0]? =some (η v)/\
 ∃(l:List (Nat×θ)),∃(i_2:Nat),∃(b:Nat),∃(gr:θ),bY A' l/\
 l[i_2]? =some (b,gr)/\
 η v=η (pv b)/\
 iP []/\
 bu gr/\
 ∀(A':List (Sg×KB)),let κ:KB:=[aw [ε 8 0 w.R.length,ε 9 0 w.dk.length,ε 10 0 w.vs.length,ε 11 0 w.ψ.length,ε 12 0 w.cs.length,ε 13 0 w.aX.length,ζ γ w.now,ξ w.ok],aa,aa,aa,aa,aa,aa,cY A',υ 30 1 (ae cd i.val.q),aV,bp,aL,aJ,az];bY A' (l.set i_2 (b,gr))->
 ((!ii gr)=true->
 K (av []) κ)/\
 ((!ii gr)=false->
 ∃(n:Int),i.val.e[2]? =some (η (φ γ n))/\
 ((R.ep != n)=true->
 K (av []) κ)/\
 ((R.ep != n)=false->
 At (KR w s a) ([an 0 0,ζ γ a,V.cF i.val.e 0,bC],κ))))/\
 (i.val.b=false->
 At (KR w s a) ([an 0 0,ζ γ a,V.cF i.val.e 0,bC],[ah,aa,aa,aa,aa,aa,aa,cY i.val.A,υ 30 1 (ae cd i.val.q),aV,bp,aL,aJ,az])))/\
 ∀(i:{x:lE // AA w s x }),∃(n:Int),i.val.e[0]? =some (η (φ γ n))/\
 ∃(lO:Int),i.val.e[1]? =some (η (φ γ lO))/\
 ∃(mc:Int),i.val.e[2]? =some (η (φ γ mc))/\
 ∃(l:List (List D)),i.val.e[3]? =some (ω 1 l)/\
 ∃(l_2:List (List D)),i.val.e[4]? =some (ω 1 l_2)/\
 ∃(m:List Int),∃(j:List Int),l=ints γ m/\
 l_2=ints γ j/\
 m.length<=1000/\
 j.length<=1000/\
 qP mc/\
 mc<=1000000/\
 ∀(x:Vw),x=lQ {vi:=n,vv:=lO,ve:=mc,mem:=m,aC:=j } (bH s.k 3) a->
 (∃(n:Int),i.val.e[2]? =some (η (φ γ n))/\
 At (Vd w s a) ([an 0 0,V.cF [η (φ γ x.vi),η (φ γ x.vv),η (φ γ x.ve),ω 1 (ints γ x.mem),ω 1 (ints γ x.aC)] 0,ξ (x.ve != n)],[ah,aa,aa,aa,aa,aa,aa,cY i.val.A,υ 30 1 (ae cd i.val.q),aV,bp,aL,aJ,az]))/\
 ∀(i:{x:lE // EX w s a x }),(i.val.b=true->
 ∃(n:Int),i.val.e[0]? =some (η (φ γ n))/\
 ∃(pD:Int),i.val.e[1]? =some (η (φ γ pD))/\
 ∃(qp:Int),i.val.e[2]? =some (η (φ γ qp))/\
 ∃(l:List (List D)),i.val.e[3]? =some (ω 1 l)/\
 ∃(jy:List (List D)),i.val.e[4]? =some (ω 1 jy)/\
 True/\
 1<=1/\
 w.vs.length<=(ae c8 w.vs).length/\
 (w.vs.length+1)*72<=140737488355328/\
 K (av []) [aw [ε 8 0 w.R.length,ε 9 0 w.dk.length,ε 10 0 (w.vs.length+1),ε 11 0 w.ψ.length,ε 12 0 w.cs.length,ε 13 0 w.aX.length,ζ γ w.now,ξ w.ok],aa,aa,aa,aa,aa,aa,cY i.val.A,υ 30 1 (ae cd i.val.q),aV,υ 49 5 (aA w.vs.length (ae c8 w.vs)++[[η (φ γ n),η (φ γ pD),η (φ γ qp),ω 1 l,ω 1 jy]]),aL,aJ,az])/\
 (i.val.b=false->
 K (av []) [ah,aa,aa,aa,aa,aa,aa,cY i.val.A,υ 30 1 (ae cd i.val.q),aV,bp,aL,aJ,az])
 ):aK Tryz.prog E5 (A0 w s a 0 Iw 28) 28 [an 0 0,qB s,.int γ a] (gl w q A) (fA eW (dx 8 K)):=by apply Eq.mp (a:=ar);kernel_rfl
theorem acO:aR Tryz.prog 59 EL:=fun args kb K hs=>Fm.acN args kb K (by
 unfold EL at hs;split at hs<;>try exact hs.elim
 obtain⟨m,rfl,hm,h⟩:=hs
 have hl:=Fm.aes hm.r
 refine⟨mJ m,rfl,Dd (Fm.Td hm.r hm.b),by unfold mJ;rw[oU];omega,?_⟩
 unfold mJ
 rw[Fm.aea hm.r]
 exact h)
theorem acm:aR Tryz.prog 61 Ez:=fun args kb K hs=>acl args kb K (by
 unfold Ez at hs;split at hs<;>try exact hs.elim
 obtain⟨m,j,rfl,rfl,h1,h2,h3,h4,h⟩:=hs
 exact⟨m,j,rfl,rfl,h1,h2,h3.lo,h4,h _ rfl⟩)
theorem Yl:dP Tryz.prog F4:=fun f k h=>by
 unfold F4 at h
 split at h
 ·cases h;exact acO
 ·cases h;exact acm
 ·exact KC _ _ h
theorem Mm:b9 Tryz.prog E5:=dY mixed Yl aI 10
theorem Fv {w:Wd} {k:Nat} (h:k<w.ψ.length):w.ψ[k]? =some (fx w k):=by
 unfold fx;rw[iY,bz h];rfl
theorem T0 {α:Type} {M:List α} {k n:Nat} (hk:k<M.length) (hn:n=M.length):aA (0+(ax 0 (aA (0+k) M)).length) ([]++ax 0 (aA (0+k) M))++ax (0+(k+1)) (aA (0+(n - 0)) M)=M.eraseIdx k:=by
 subst hn
 rw[wA,kV,cQ,cQ,cQ,ju,cZ,cZ,List.eraseIdx_eq_take_drop_succ]
theorem T1 {α:Type} {M:List α} {k n:Nat} (hk:k<M.length) (hn:n=M.length):0+(ax 0 (aA (0+k) M)).length+(ax (0+(k+1)) (aA (0+(n - 0)) M)).length=(M.eraseIdx k).length:=by
 subst hn
 rw[wA,kV,cQ,cQ,cQ,cZ,List.length_eraseIdx_of_lt hk,dc,fZ];omega
theorem Q3 {α β:Type} (f:α->β) (M:List α) (k:Nat):(M.eraseIdx k).map f=(M.map f).eraseIdx k:=by
 rw[List.eraseIdx_eq_take_drop_succ,List.eraseIdx_eq_take_drop_succ,jZ,List.map_take,List.map_drop]
structure u9 (w:Wd) (k:Nat):Prop where
 hk:k<w.ψ.length
 bl:w.ψ.length<=10000
 t0:0<=(fx w k).to
 t1:(fx w k).to<w.R.length
 rt:kq (fx w k).m
 mo:kT (fx w k).m
 r:bu (ι w (fx w k).to.toNat)
 c:jX (x_ (fq w k) (fx w k)) (fx w k).to.toNat
def D5:List V->Wd->(V->Wd->Prop)->Prop:=fun rest w k=>∃ i:Nat,rest=[.int γ (i:Int)]/\u9 w i/\∀ w',w'=l7 w i->k (.χ []) w'
theorem R3:aR Tryz.prog 27 (WM D5):=oa Mm mixed eW (fun args kb K h=>by
 unfold WM at h;split at h<;>try exact h.elim
 obtain⟨w,q,A,⟨rfl⟩,hp,k,rfl,hc,h⟩:=h
 refine⟨A0 w ⟨0,0,0,0,false⟩ 0 k (fx w k) 27,?_⟩
 show aK _ _ _ _ _ _ (fA eW (dx 8 K))
 apply agD w k (fx w k) q A K
 dsimp only
 have hk:=hc.hk
 have cj:=hc.bl
 have hg:=Fv hk
 have w1:γ.wrap ((k:Int)+1)=((k+1:Nat):Int):=by rw[bS (by omega) (by omega)];rfl
 have hM:k<(w.ψ.map cN).length:=by rw[cp];exact hk
 have hL:w.ψ.length=(w.ψ.map cN).length:=by rw[cp]
 have t0:=hc.t0
 have t1:=hc.t1
 obtain⟨to,hto⟩:∃ to:Nat,(fx w k).to=(to:Int):=⟨(fx w k).to.toNat,by omega⟩
 have rh:(w.ψ.map cN)[0+(k:Int).toNat]? =some (cN (fx w k)):=by rw[cQ,dD,fH,hg];rfl
 have m_:=hc.rt
 have hmo:=hc.mo
 have hr:=hc.r
 have tY:=hc.c
 have hst:l7 w k=cU (x_ (fq w k) (fx w k)) (fx w k).to.toNat:=rfl
 clear hc
 generalize hl:fx w k=l at*
 have htn:l.to.toNat=to:=by omega
 rw[w1,dD,dD]at*
 have hel:(fq w k).ψ.length=((w.ψ.map cN).eraseIdx k).length:=by
  show(w.ψ.eraseIdx k).length=_
  rw[List.length_eraseIdx_of_lt hk,List.length_eraseIdx_of_lt hM,cp]
 have hem:(fq w k).ψ.map cN=(w.ψ.map cN).eraseIdx k:=by
  show(w.ψ.eraseIdx k).map cN=_
  exact Q3 cN w.ψ k
 try dsimp only
 rw[T1 hM hL]
 refine⟨by unfold bj;omega,_,rh,_,rfl,_,rfl,_,rfl,trivial,by unfold aM;omega,bt _,by omega,by unfold aM;omega,trivial,by omega,au _,trivial,trivial,trivial,trivial,by omega,au _,by simp only[fZ,dc];omega,by omega,by simp,?_,l.m,rfl,m_,?_⟩
 ·rw[<- hel];have:(fq w k).ψ.length<=w.ψ.length:=by show(w.ψ.eraseIdx k).length<=_;rw[List.length_eraseIdx_of_lt hk];omega
  omega
 refine⟨?_,?_⟩
 ·rw[T0 hM hL,<- hel,<- hem]
  exact At.mk' (⟨⟨fq w k,jo l.m,q,A⟩,rfl,by rw[hl],hp⟩:{x:zD // D3 w k x}) rfl
 rintro⟨⟨W,e,q1,A1⟩,hW,he,P1⟩
 dsimp only at hW he P1 ⊢
 subst hW he
 rw[hl]
 refine⟨fun _=>?_,fun t=>(by cases t)⟩
 have htl:to<w.R.length:=by omega
 have rq:(fq w k).R[to]? =some (ι w to):=qx htl
 obtain⟨l2,i,b,hq,hA,vL,dR⟩:=P1.get rq
 rw[htn]at hr tY hst
 refine⟨by show bj _ w.R.length;unfold bj;omega,_,by rw[htn];have:=pL hq;rw[dD]at this;exact this,_,rfl,_,rfl,_,rfl,_,rfl,_,rfl,l2,i,b,_,hA,vL,rfl,l.fr,l.m,rfl,hr,hmo,fun A2 p2=>⟨x_ (fq w k) l,q1,A2,⟨?_⟩,?_,to,by rw[hto],tY,fun w' hw' q' A' p'=>h w' (by rw[hw',hst]) q' A' p'⟩⟩
 ·exact zi (by show _=w.R.length;rw[iA];rfl) q1 A2
 ·have:=dR _ _ p2
  show PW A2 q1 (w.R.set l.to.toNat (dE (ι w l.to.toNat) l.fr l.m))
  rw[htn];exact this)
theorem uJ {w:Wd} {i:Nat} (h:i<w.vs.length):w.vs[i]? =some (zf w i):=by
 unfold zf;rw[iY,bz h];rfl
structure EY (w:Wd):Prop where
 vl:0<w.vs.length
 v1:w.vs.length<=10000
 ml:(bq w).mem.length<=1000
 jl:(bq w).aC.length<=1000
 m0:0<(bq w).mem.length
 h0:0<=dJ (bq w)
 h1:dJ (bq w)<w.R.length
 r:bu (ι w (dJ (bq w)).toNat)
 e0:0<=(bq w).ve
 e1:(bq w).ve<=1000000
def LJ:List V->Wd->(V->Wd->Prop)->Prop:=fun rest w k=>∃(s:Sp) (a:Int),rest=[qB s,.int γ a]/\EY w/\∀ w',w'=oZ w s a->k (.χ []) w'
theorem ac4:aR Tryz.prog 28 (WM LJ):=oa Mm mixed eW (fun args kb K h=>by
 unfold WM at h;split at h<;>try exact h.elim
 obtain⟨w,q,A,⟨rfl⟩,hp,s,a,rfl,hc,h⟩:=h
 refine⟨A0 w s a 0 Iw 28,?_⟩
 show aK _ _ _ _ _ _ (fA eW (dx 8 K))
 apply ahN w s a q A K
 obtain⟨vl,v1,ml,jl,m0,h0,h1,hr,ve0,ve1⟩:=hc
 have w1:γ.wrap (((w.vs.length - 0:Nat):Int) - 1)=((w.vs.length - 1:Nat):Int):=by rw[bS (by omega) (by omega)];omega
 have hv:(w.vs.map c8)[0+((w.vs.length - 1:Nat):Int).toNat]? =some (c8 (bq w)):=by
  rw[cQ,dD,fH,uJ (by omega)];rfl
 have aaf:nJ 3:=⟨by omega,by omega⟩
 have hh:(bq w).mem.getD 0 0=dJ (bq w):=rfl
 obtain⟨hd,BG⟩:∃ n:Nat,dJ (bq w)=(n:Int):=⟨(dJ (bq w)).toNat,by omega⟩
 have hdn:(dJ (bq w)).toNat=hd:=by omega
 have hdl:hd<w.R.length:=by omega
 rw[hdn]at hr
 have no:∀ q' A',PW A' q' w.R->bH s.k 3=2/\¬ (ii (ι w hd)=true/\(ι w hd).ep=(bq w).ve)->K (.χ []) (d_ w q' A'):=fun q' A' p' t=>h w (by unfold oZ;rw[hdn,if_pos t]) q' A' p'
 have hm0:(ints γ (bq w).mem)[0]? =some [η (.int γ (dJ (bq w)))]:=by rw[mb,x4 m0];rfl
 have hpt:∀{q1:List (Nat×Nat)} {k b:Nat},q1[hd]? =some (k,b)->(q1.map cd)[0+(dJ (bq w)).toNat]? =some [η (pv b)]:=fun hq=>by have:=pL hq;rw[hdn];rw[dD]at this;exact this
 have kA:aM 0:=by unfold aM;omega
 have hin:bj (dJ (bq w)) (w.R.length - 0):=by show bj _ w.R.length;unfold bj;omega
 dsimp only
 rw[w1]
 refine⟨by unfold bj;omega,_,hv,_,rfl,_,rfl,_,rfl,_,rfl,_,rfl,⟨_,hv,_,rfl,_,rfl,_,rfl,_,rfl,_,rfl,trivial⟩,trivial,trivial,aaf,⟨?_,?_⟩,?_⟩
 ·exact At.mk' (⟨⟨_,q,A,_⟩,rfl,rfl,hp⟩:{x:lE // EW w s x}) rfl
 ·rintro⟨⟨e,q1,A1,b⟩,he,hb,P1⟩
  dsimp only at he hb P1 ⊢
  subst he
  refine⟨fun tb=>?_,fun tb=>?_⟩
  ·rw[tb]at hb
   have hp2:bH s.k 3=2:=by simpa using hb.symm
   obtain⟨l,i,b',hq,hA,vL,dR⟩:=P1.get (qx hdl)
   refine⟨_,rfl,kA,_,hm0,_,rfl,hin,_,hpt hq,_,rfl,l,i,b',_,hA,vL,rfl,⟨rfl⟩,hr,fun A2 p2=>?_⟩
   have P2:=dR _ _ p2
   have hsame:w.R.set hd (ι w hd)=w.R:=by
    apply lB
    intro k
    by_cases ek:hd=k
    ·subst ek;rw[iz hdl,qx hdl]
    ·rw[gE ek]
   rw[hsame]at P2
   obtain⟨l',i',b'',px,Zv,aam,aav⟩:=P2.get (qx hdl)
   refine⟨_,rfl,kA,_,hm0,_,rfl,hin,_,hpt px,_,rfl,l',i',b'',_,Zv,aam,rfl,⟨rfl⟩,hr,fun A3 p3=>?_⟩
   have P3:=aav _ _ p3
   rw[hsame]at P3
   refine⟨fun t1=>?_,fun t1=>⟨_,rfl,fun t2=>?_,fun t2=>?_⟩⟩
   ·exact no _ _ P3 ⟨hp2,fun t=>by rw[t.1]at t1;cases t1⟩
   ·exact no _ _ P3 ⟨hp2,fun t=>by rw[t.2]at t2;simp at t2⟩
   ·exact At.mk' (⟨⟨_,q1,A3,true⟩,rfl,fun _=>by rw[hdn];exact⟨by simpa using t1,by simpa using t2⟩,P3⟩:{x:lE // AA w s x}) rfl
  ·rw[tb]at hb
   have hp2:¬ bH s.k 3=2:=by intro t;rw[t]at hb;cases hb
   exact At.mk' (⟨⟨_,q1,A1,true⟩,rfl,fun t=>absurd t hp2,P1⟩:{x:lE // AA w s x}) rfl
 rintro⟨⟨e,q1,A1,b⟩,he,hok,P1⟩
 dsimp only at he P1 ⊢
 subst he
 refine⟨_,rfl,_,rfl,_,rfl,_,rfl,_,rfl,(bq w).mem,(bq w).aC,rfl,rfl,ml,jl,⟨ve0,by omega⟩,ve1,fun x hx=>?_⟩
 have hx:x=lQ (bq w) (bH s.k 3) a:=hx
 refine⟨⟨_,rfl,?_⟩,?_⟩
 ·exact At.mk' (⟨⟨c8 x,q1,A1,x.ve != (bq w).ve⟩,by rw[<- hx],by rw[<- hx],P1⟩:{x:lE // EX w s a x}) rfl
 rintro⟨⟨e,q2,A2,b⟩,he,hb,P2⟩
 dsimp only at he hb P2 ⊢
 subst he
 rw[<- hx]at hb ⊢
 have hsk:¬ (bH s.k 3=2/\¬ (ii (ι w (dJ (bq w)).toNat)=true/\(ι w (dJ (bq w)).toNat).ep=(bq w).ve)):=fun t=>t.2 (hok t.1)
 refine⟨fun tb=>?_,fun tb=>?_⟩
 ·rw[tb]at hb
  have hne:x.ve≠(bq w).ve:=by simpa using hb.symm
  refine⟨_,rfl,_,rfl,_,rfl,_,rfl,_,rfl,trivial,au _,by rw[cp];exact au _,by omega,?_⟩
  have:=h {w with vs:=w.vs++[x] } (by unfold oZ;rw[if_neg hsk,<- hx,if_pos hne]) q2 A2 P2
  have e1:(w.vs++[x]).length=w.vs.length+1:=by rw[bo];rfl
  have e2:(w.vs++[x]).map c8=aA w.vs.length (w.vs.map c8)++[c8 x]:=by
   rw[jZ,fI (by rw[cp];exact au _)];rfl
  unfold d_ jC kj at this
  dsimp only at this
  rw[e1,e2]at this
  exact this
 ·rw[tb]at hb
  have hne:¬ x.ve≠(bq w).ve:=by simpa using hb.symm
  exact h w (by unfold oZ;rw[if_neg hsk,<- hx,if_neg hne]) q2 A2 P2)
def rU (R:θ) (a:Int):θ:=newR a 5 false R.ep R.nu R.c R.t
def cJ (w:Wd):Wd:={w with now:=w.now+1 }
def bA (w:Wd) (i:Nat) (R:θ):Wd:={w with R:=w.R.set i R }
def xT (w:Wd) (k:Nat):Wd:={w with ψ:=w.ψ++[fx w k] }
def oY (w:Wd) (i:Nat):Wd:=cU (bA w i (cL (ι w i))) i
def eQ (w:Wd):Nat->Wd
 | 0=>w
 |i+1=>oY (eQ w i) i
def mN (w:Wd) (s:Sp):Vw:=zf w (max 0 ((w.vs.length:Int) - 1 - bH s.n 3)).toNat
def sc (w:Wd) (a:Nat) (v:Vw):Wd:=cU (bA w a (dT (ι w a) v)) a
noncomputable def kK (w:Wd) (s:Sp) (a k:Nat):Wd:=
 if s.d=0 then lV w s a
 else if s.d=1 then(if 0<w.ψ.length then l7 w k else w)
 else if s.d=2 then(if 0<w.ψ.length then fq w k else w)
 else if s.d=3 then(if 0<w.ψ.length/\w.ψ.length<500 then xT w k else w)
 else if s.d=4 then bA w a (rU (ι w a) a)
 else if s.d=5 then oZ w s (a:Int)
 else if s.d=6 then sc w a (mN w s)
 else if s.d=7 then eQ w 4 else w
def cE (s:Sp):Nat:=(bH s.df 4).toNat
def iw (w:Wd) (s:Sp):Nat:=(bH s.n w.ψ.length).toNat
noncomputable def eP (w:Wd) (s:Sp):Wd:=kK (cJ w) s (cE s) (iw w s)
structure j5 where
 i:Nat
 W:Wd
 q:List (Nat×Nat)
 A:List (Sg×KB)
structure Az (w:Wd) (x:j5):Prop where
 le:x.i<=4
 W:x.W=eQ (cJ w) x.i
 p:PW x.A x.q x.W.R
abbrev KM (w:Wd):LI where
 α:={x:j5 // Az w x}
 live:=[0,8]
 dV:=eW
 st x:=([an 0 0,.int γ (x.1.i:Int)],d_ x.1.W x.1.q x.1.A)
 μ x:=4 - x.1.i
def TO (w:Wd):FuncId->Nat->Option LI
 | 9,28=>some (KM w)
 |_,_=>none
def J9:FuncId->Option dK
 | 26=>some ⟨[.ig],WM LD⟩
 | 27=>some ⟨[.ig],WM D5⟩
 | 28=>some ⟨[.ig],WM LJ⟩
 |f=>y_ f
noncomputable def ME:bN:=dU Tryz.prog J9 aI 10
theorem ahx (w:Wd) (s:Sp) (q:List (Nat×Nat)) (A:List (Sg×KB)) (K:V->KB->Prop) (ar:
 let kn:=(γ.wrap ((↑(w.vs.length - 0):Int) - 1) - bH s.n 3);let kN:=decide ((↑(w.ψ.length - 0):Int) > 0)=true;let jV:=decide ((↑(w.ψ.length - 0):Int) > 0)=false;let lq:=(aA (0+(w.ψ.length - 0)) (ae cN w.ψ));let iV:=0+(bH s.df 4).toNat<(ae cd q).length;let fT:=[fw [ζ γ s.d,ζ γ s.df,ζ γ s.n,ζ γ s.k,ξ s.ag],ζ γ (bH s.df 4)];let cK:=υ 30 1 (ae cd q);let bW:=(bH s.n (↑(w.ψ.length - 0):Int));let cw:=(γ.wrap (bH s.n (↑(w.ψ.length - 0):Int)+1));let bV:=υ 73 3 (ae cN w.ψ);let cf:=ζ γ (γ.wrap (w.now+1));let fY:=aw [ε 8 0 w.R.length,ε 9 0 w.dk.length,ε 10 0 w.vs.length,ε 11 0 w.ψ.length,ε 12 0 w.cs.length,ε 13 0 w.aX.length,cf,ξ true];let bC:=υ 49 5 (ae c8 w.vs);let bp:=υ 23 1 (ae bB w.dk);let aV:=υ 61 10 (ae c9 w.cs);let aJ:=υ 3 1 (ints γ w.aX);let aL:=(aA (0+bW.toNat) (ae cN w.ψ));let az:KB:=[aw [ε 1 0 w.R.length,ε 2 0 w.dk.length,ε 3 0 w.vs.length,ε 4 0 w.ψ.length,ε 5 0 w.cs.length,ε 6 0 w.aX.length,cf,ξ w.ok],cK,bp,bC,bV,aV,aJ,cY A];let ah:=aw [ε 8 0 w.R.length,ε 9 0 w.dk.length,ε 10 0 w.vs.length,ε 11 0 w.ψ.length,ε 12 0 w.cs.length,ε 13 0 w.aX.length,cf,ξ false];let jq:=K (av []) [ah,aa,aa,aa,aa,aa,aa,cY A,cK,bp,bC,bV,aV,aJ];let dO:=K (av []) [ah,aa,aa,aa,aa,aa,aa,cY A,υ 30 1 ((ae cd q).set (0+(bH s.df 4).toNat) [η (Value.pointer none)]),bp,bC,bV,aV,aJ];let κ:KB:=[aw [ε 8 0 w.R.length,ε 9 0 w.dk.length,ε 10 0 w.vs.length,ε 11 0 w.ψ.length,ε 12 0 w.cs.length,ε 13 0 w.aX.length,cf,ξ w.ok],aa,aa,aa,aa,aa,aa,cY A,cK,bp,bC,bV,aV,aJ];nJ 4/\
 nJ (↑(w.ψ.length - 0):Int)/\
 ((s.d == 0)=true->
 ∃(w_1:Wd),∃(pM:List (Nat×Nat)),∃(o6:List (Sg×KB)),mn az w_1 pM o6/\
 PW o6 pM w_1.R/\
 ∃(s_1:Sp),∃(a:Nat),fT=[qB s_1,ζ γ (↑a:Int)]/\
 Au w_1 s_1 a/\
 ∀(w':Wd),w'=lV w_1 s_1 a->
 ∀(q':List (Nat×Nat)) (A':List (Sg×KB)),PW A' q' w'.R->
 K (av []) [aw [ε 8 0 w'.R.length,ε 9 0 w'.dk.length,ε 10 0 w'.vs.length,ε 11 0 w'.ψ.length,ε 12 0 w'.cs.length,ε 13 0 w'.aX.length,ζ γ w'.now,ξ w'.ok],aa,aa,aa,aa,aa,aa,cY A',υ 30 1 (ae cd q'),υ 23 1 (ae bB w'.dk),υ 49 5 (ae c8 w'.vs),υ 73 3 (ae cN w'.ψ),υ 61 10 (ae c9 w'.cs),υ 3 1 (ints γ w'.aX)])/\
 ((s.d == 0)=false->
 ((s.d == 1)=true->
 (kN->
 ∃(w_1:Wd),∃(pM:List (Nat×Nat)),∃(o6:List (Sg×KB)),mn az w_1 pM o6/\
 PW o6 pM w_1.R/\
 ∃(i:Nat),[ζ γ bW]=[ζ γ (↑i:Int)]/\
 u9 w_1 i/\
 ∀(w':Wd),w'=l7 w_1 i->
 ∀(q':List (Nat×Nat)) (A':List (Sg×KB)),PW A' q' w'.R->
 K (av []) [aw [ε 8 0 w'.R.length,ε 9 0 w'.dk.length,ε 10 0 w'.vs.length,ε 11 0 w'.ψ.length,ε 12 0 w'.cs.length,ε 13 0 w'.aX.length,ζ γ w'.now,ξ w'.ok],aa,aa,aa,aa,aa,aa,cY A',υ 30 1 (ae cd q'),υ 23 1 (ae bB w'.dk),υ 49 5 (ae c8 w'.vs),υ 73 3 (ae cN w'.ψ),υ 61 10 (ae c9 w'.cs),υ 3 1 (ints γ w'.aX)])/\
 (jV->
 K (av []) κ))/\
 ((s.d == 1)=false->
 ((s.d == 2)=true->
 (kN->
 True/\
 aM bW/\
 0<=bW.toNat/\
 bW.toNat<=w.ψ.length - 0/\
 aM cw/\
 True/\
 cw.toNat<=w.ψ.length - 0/\
 w.ψ.length - 0<=w.ψ.length - 0/\
 True/\
 True/\
 True/\
 True/\
 0+bW.toNat<=(ae cN w.ψ).length/\
 0<=0/\
 (0+(ax 0 aL).length)*40<=140737488355328/\
 0+(w.ψ.length - 0)<=(ae cN w.ψ).length/\
 0+(ax 0 aL).length<=([]++ax 0 aL).length/\
 (0+(ax 0 aL).length+(ax (0+cw.toNat) lq).length)*40<=140737488355328/\
 K (av []) [aw [ε 8 0 w.R.length,ε 9 0 w.dk.length,ε 10 0 w.vs.length,ε 11 0 (0+(ax 0 aL).length+(ax (0+cw.toNat) lq).length),ε 12 0 w.cs.length,ε 13 0 w.aX.length,cf,ξ w.ok],aa,aa,aa,aa,aa,aa,cY A,cK,bp,bC,υ 73 3 (aA (0+(ax 0 aL).length) ([]++ax 0 aL)++ax (0+cw.toNat) lq),aV,aJ])/\
 (jV->
 K (av []) κ))/\
 ((s.d == 2)=false->
 ((s.d == 3)=true->
 (kN->
 (decide ((↑(w.ψ.length - 0):Int)<500)=true->
 bj bW (w.ψ.length - 0)/\
 ∃(e:List D),(ae cN w.ψ)[0+(bH s.n (↑(w.ψ.length - 0):Int)).toNat]? =some e/\
 ∃(n:Int),e[0]? =some (η (φ γ n))/\
 ∃(n_1:Int),e[1]? =some (η (φ γ n_1))/\
 ∃(l:List (List D)),e[2]? =some (ω 1 l)/\
 True/\
 True/\
 1<=1/\
 w.ψ.length<=(ae cN w.ψ).length/\
 (w.ψ.length+1)*40<=140737488355328/\
 K (av []) [aw [ε 8 0 w.R.length,ε 9 0 w.dk.length,ε 10 0 w.vs.length,ε 11 0 (w.ψ.length+1),ε 12 0 w.cs.length,ε 13 0 w.aX.length,cf,ξ w.ok],aa,aa,aa,aa,aa,aa,cY A,cK,bp,bC,υ 73 3 (aA w.ψ.length (ae cN w.ψ)++[[η (φ γ n),η (φ γ n_1),ω 1 l]]),aV,aJ])/\
 (decide ((↑(w.ψ.length - 0):Int)<500)=false->
 K (av []) κ))/\
 (jV->
 K (av []) κ))/\
 ((s.d == 3)=false->
 ((s.d == 4)=true->
 bj (bH s.df 4) (w.dk.length - 0)/\
 ∃(e:List D),(ae bB w.dk)[0+(bH s.df 4).toNat]? =some e/\
 ∃(l:List (List D)),e[0]? =some (ω 1 l)/\
 ∃(o6:List (Sg×KB)),∃(l_1:List (Nat×θ)),∃(t:List Int),w0 [cY A] o6/\
 bY o6 l_1/\
 l=ints ν t/\
 (∀(c:Int),dW c t->
 0<=c/\
 c<256)/\
 t.length<=900000/\
 (((∃(ep:Int),∃(nu:Int),∃(c:List Int),∃(x:List L3),ou t ep nu c x)->
 False)->
 (w.ok=true->
 (false=true->
 bj (bH s.df 4) (w.R.length - 0)/\
 iV/\
 dO)/\
 (false=false->
 jq))/\
 (w.ok=false->
 (false=true->
 bj (bH s.df 4) (w.R.length - 0)/\
 iV/\
 dO)/\
 (false=false->
 jq)))/\
 ∀(ep nu:Int) (c:List Int) (x:List L3),ou t ep nu c x->
 ∀(b:Nat) (A':List (Sg×KB)),let kO:=υ 30 1 ((ae cd q).set (0+(bH s.df 4).toNat) [η (pv b)]);bY A' (l_1++[(b,newR (bH s.df 4) 5 false ep nu c x)])->
 (w.ok=true->
 (true=true->
 bj (bH s.df 4) (w.R.length - 0)/\
 iV/\
 K (av []) [fY,aa,aa,aa,aa,aa,aa,cY A',kO,bp,bC,bV,aV,aJ])/\
 (true=false->
 K (av []) [fY,aa,aa,aa,aa,aa,aa,cY A',cK,bp,bC,bV,aV,aJ]))/\
 (w.ok=false->
 (true=true->
 bj (bH s.df 4) (w.R.length - 0)/\
 iV/\
 K (av []) [ah,aa,aa,aa,aa,aa,aa,cY A',kO,bp,bC,bV,aV,aJ])/\
 (true=false->
 K (av []) [ah,aa,aa,aa,aa,aa,aa,cY A',cK,bp,bC,bV,aV,aJ])))/\
 ((s.d == 4)=false->
 ((s.d == 5)=true->
 ∃(w_1:Wd),∃(pM:List (Nat×Nat)),∃(o6:List (Sg×KB)),mn az w_1 pM o6/\
 PW o6 pM w_1.R/\
 ∃(s_1:Sp),∃(a:Int),fT=[qB s_1,ζ γ a]/\
 EY w_1/\
 ∀(w':Wd),w'=oZ w_1 s_1 a->
 ∀(q':List (Nat×Nat)) (A':List (Sg×KB)),PW A' q' w'.R->
 K (av []) [aw [ε 8 0 w'.R.length,ε 9 0 w'.dk.length,ε 10 0 w'.vs.length,ε 11 0 w'.ψ.length,ε 12 0 w'.cs.length,ε 13 0 w'.aX.length,ζ γ w'.now,ξ w'.ok],aa,aa,aa,aa,aa,aa,cY A',υ 30 1 (ae cd q'),υ 23 1 (ae bB w'.dk),υ 49 5 (ae c8 w'.vs),υ 73 3 (ae cN w'.ψ),υ 61 10 (ae c9 w'.cs),υ 3 1 (ints γ w'.aX)])/\
 ((s.d == 5)=false->
 ((s.d == 6)=true->
 bj (bH s.df 4) (w.R.length - 0)/\
 ∃(e:List D),(ae cd q)[0+(bH s.df 4).toNat]? =some e/\
 ∃(v:Value),e[0]? =some (η v)/\
 True/\
 True/\
 True/\
 nJ 3/\
 (∃(e:List D),(ae cd q)[0+(bH s.df 4).toNat]? =some e/\
 ∃(v_1:Value),e[0]? =some (η v_1)/\
 aH (η v_1)=aH (η v))/\
 bj (if γ.wrap kn > 0 then γ.wrap kn else 0) (w.vs.length - 0)/\
 ∃(e:List D),(ae c8 w.vs)[0+(if γ.wrap (γ.wrap ((↑(w.vs.length - 0):Int) - 1) - bH s.n 3) > 0 then γ.wrap (γ.wrap ((↑(w.vs.length - 0):Int) - 1) - bH s.n 3)else 0).toNat]? =some e/\
 ∃(n:Int),e[0]? =some (η (φ γ n))/\
 ∃(n_1:Int),e[1]? =some (η (φ γ n_1))/\
 ∃(n_2:Int),e[2]? =some (η (φ γ n_2))/\
 ∃(l:List (List D)),e[3]? =some (ω 1 l)/\
 ∃(l_1:List (List D)),e[4]? =some (ω 1 l_1)/\
 ∃(l_2:List (Nat×θ)),∃(i:Nat),∃(b:Nat),∃(R:θ),bY A l_2/\
 l_2[i]? =some (b,R)/\
 η v=η (pv b)/\
 ∃(w_1:Vw),[fw [ζ γ n,ζ γ n_1,ζ γ n_2,aH (ω 1 l),aH (ω 1 l_1)]]=[wL w_1]/\
 bu R/\
 w_1.mem.length+w_1.aC.length<=1000/\
 R.out.length+(bx R.me w_1.mem w_1.aC).length<=100000/\
 ∀(A':List (Sg×KB)),bY A' (l_2.set i (b,dT R w_1))->
 ∃(w_2:Wd),∃(pM:List (Nat×Nat)),∃(A:List (Sg×KB)),mn [aw [ε 1 0 w.R.length,ε 2 0 w.dk.length,ε 3 0 w.vs.length,ε 4 0 w.ψ.length,ε 5 0 w.cs.length,ε 6 0 w.aX.length,cf,ξ w.ok],cK,bp,bC,bV,aV,aJ,cY A'] w_2 pM A/\
 PW A pM w_2.R/\
 ∃(i:Nat),[ζ γ (bH s.df 4)]=[ζ γ (↑i:Int)]/\
 jX w_2 i/\
 ∀(w':Wd),w'=cU w_2 i->
 ∀(q':List (Nat×Nat)) (A':List (Sg×KB)),PW A' q' w'.R->
 K (av []) [aw [ε 8 0 w'.R.length,ε 9 0 w'.dk.length,ε 10 0 w'.vs.length,ε 11 0 w'.ψ.length,ε 12 0 w'.cs.length,ε 13 0 w'.aX.length,ζ γ w'.now,ξ w'.ok],aa,aa,aa,aa,aa,aa,cY A',υ 30 1 (ae cd q'),υ 23 1 (ae bB w'.dk),υ 49 5 (ae c8 w'.vs),υ 73 3 (ae cN w'.ψ),υ 61 10 (ae c9 w'.cs),υ 3 1 (ints γ w'.aX)])/\
 ((s.d == 6)=false->
 ((s.d == 7)=true->
 At (KM w) ([an 0 0,ζ γ 0],κ)/\
 ∀(i:{x:j5 // Az w x }),let lw:=υ 49 5 (ae c8 i.val.W.vs);let lW:=υ 23 1 (ae bB i.val.W.dk);let lu:=υ 61 10 (ae c9 i.val.W.cs);let kP:=υ 73 3 (ae cN i.val.W.ψ);let mh:=υ 3 1 (ints γ i.val.W.aX);(decide ((↑i.val.i:Int)<4)=true->
 bj (↑i.val.i:Int) (i.val.W.R.length - 0)/\
 ∃(e:List D),(ae cd i.val.q)[0+(↑i.val.i:Int).toNat]? =some e/\
 ∃(v:Value),e[0]? =some (η v)/\
 ∃(l:List (Nat×θ)),∃(i_1:Nat),∃(b:Nat),∃(R:θ),bY i.val.A l/\
 l[i_1]? =some (b,R)/\
 η v=η (pv b)/\
 iP []/\
 bu R/\
 0<=R.ti/\
 R.ti<=2199023255552/\
 R.out.length+(aQ R).length<=100000/\
 ∀(A':List (Sg×KB)),bY A' (l.set i_1 (b,cL R))->
 ∃(w_1:Wd),∃(q:List (Nat×Nat)),∃(A:List (Sg×KB)),mn [aw [ε 1 0 i.val.W.R.length,ε 2 0 i.val.W.dk.length,ε 3 0 i.val.W.vs.length,ε 4 0 i.val.W.ψ.length,ε 5 0 i.val.W.cs.length,ε 6 0 i.val.W.aX.length,ζ γ i.val.W.now,ξ i.val.W.ok],υ 30 1 (ae cd i.val.q),lW,lw,kP,lu,mh,cY A'] w_1 q A/\
 PW A q w_1.R/\
 ∃(i_2:Nat),[ζ γ (↑i.val.i:Int)]=[ζ γ (↑i_2:Int)]/\
 jX w_1 i_2/\
 ∀(w':Wd),w'=cU w_1 i_2->
 ∀(q':List (Nat×Nat)) (A':List (Sg×KB)),PW A' q' w'.R->
 Nx (KM w) i ([an 0 0,ζ γ (γ.wrap ((↑i.val.i:Int)+1))],[aw [ε 8 0 w'.R.length,ε 9 0 w'.dk.length,ε 10 0 w'.vs.length,ε 11 0 w'.ψ.length,ε 12 0 w'.cs.length,ε 13 0 w'.aX.length,ζ γ w'.now,ξ w'.ok],aa,aa,aa,aa,aa,aa,cY A',υ 30 1 (ae cd q'),υ 23 1 (ae bB w'.dk),υ 49 5 (ae c8 w'.vs),υ 73 3 (ae cN w'.ψ),υ 61 10 (ae c9 w'.cs),υ 3 1 (ints γ w'.aX)]))/\
 (decide ((↑i.val.i:Int)<4)=false->
 K (av []) [aw [ε 8 0 i.val.W.R.length,ε 9 0 i.val.W.dk.length,ε 10 0 i.val.W.vs.length,ε 11 0 i.val.W.ψ.length,ε 12 0 i.val.W.cs.length,ε 13 0 i.val.W.aX.length,ζ γ i.val.W.now,ξ i.val.W.ok],aa,aa,aa,aa,aa,aa,cY i.val.A,υ 30 1 (ae cd i.val.q),lW,lw,kP,lu,mh]))/\
 ((s.d == 7)=false->
 K (av []) κ))))))))
 ):aK Tryz.prog ME (TO w 9) 9 [an 0 0,qB s] (gl w q A) (fA eW (dx 8 K)):=by apply Eq.mp (a:=ar);kernel_rfl
theorem aeO:dP Tryz.prog J9:=fun f k h=>by
 unfold J9 at h
 split at h
 ·cases h;exact acU
 ·cases h;exact R3
 ·cases h;exact ac4
 ·exact KC _ _ h
theorem WX:b9 Tryz.prog ME:=dY mixed aeO aI 10
theorem aaF {l:List Int} (hb:bm l) (hl:l.length<=900000) {ep nu Om RA:Int} {c c':List Int} {x x':List L3} (h:ou l ep nu c x) (h':ou l Om RA c' x'):ep=Om/\nu=RA/\c=c'/\x=x':=by
 have F:=S4 (l:=l) hb hl (Prod.ext rfl (Prod.ext rfl rfl)) (Prod.ext rfl (Prod.ext rfl rfl)) (Prod.ext rfl (Prod.ext rfl rfl)) (Prod.ext rfl (Prod.ext rfl rfl)) rfl
 obtain⟨a1,a2,a3,a4,_⟩:=F.fwd _ _ _ _ h
 obtain⟨b1,b2,b3,b4,_⟩:=F.fwd _ _ _ _ h'
 refine⟨a1.symm.trans b1,a2.symm.trans b2,?_,UK h.x h'.x (a4.symm.trans b4)⟩
 have e:=congrArg fB (a3.symm.trans b3)
 rw[wa,wa]at e
 exact bc.inj e
theorem abz {xs:List Nat} (h:xs.Nodup) {i v:Nat} (hi:i<xs.length) (hv:∀ x∈xs,x<v):(xs.set i v).Nodup:=by
 rw[List.set_eq_take_append_cons_drop,if_pos hi]
 have e:xs=xs.take i++xs[i]::xs.drop (i+1):=by rw[<- List.drop_eq_getElem_cons hi,List.take_append_drop]
 have h2:=h
 rw[e]at h2
 obtain⟨a,b,c⟩:=List.nodup_append.1 h2
 obtain⟨b1,b2⟩:=List.nodup_cons.1 b
 refine List.nodup_append.2 ⟨a,List.nodup_cons.2 ⟨fun hm=>by have:=hv v (List.mem_of_mem_drop hm);omega,b2⟩,fun x hx y hy=>?_⟩
 rcases eI.1 hy with rfl | hy
 ·have:=hv x (List.mem_of_mem_take hx);omega
 ·exact c x hx y (f_ _ hy)
theorem CU.add {l:List (Nat×θ)} {q:List (Nat×Nat)} {R:List θ} (h:CU l q R) {i:Nat} (hi:i<R.length) (b:Nat) (r:θ):CU (l++[(b,r)]) (q.set i (l.length,b)) (R.set i r):=by
 have hlt:∀(j:Nat) (p:Nat×Nat),q[j]? =some p->p.1<l.length:=fun j p hj=>by
  obtain⟨_,_,h2⟩:=h.a j p hj
  exact(bO.1 h2).1
 have P_:i<q.length:=by rw[h.len];exact hi
 refine⟨by simp [h.len],fun j p hj=>?_,?_⟩
 ·by_cases e:i=j
  ·subst e
   rw[iz P_]at hj
   cases hj
   exact⟨r,iz hi,by rw[e_ (au _)];simp⟩
  ·rw[gE e]at hj
   obtain⟨r2,h1,h2⟩:=h.a j p hj
   exact⟨r2,by rw[gE e];exact h1,by rw[dX (hlt j p hj)];exact h2⟩
 ·rw[List.map_set]
  refine abz h.nd (by rw[cp];exact P_) fun x hx=>?_
  obtain⟨p,hp,rfl⟩:=ef.1 hx
  obtain⟨j,hj⟩:=lC hp
  exact hlt j p hj
structure xf (w:Wd) (s:Sp):Prop where
 rl:w.R.length=4
 dl:w.dk.length=4
 n0:0<=w.now
 n1:w.now<=1000000
 bl:w.ψ.length<=10000
 vl:0<w.vs.length
 vm:w.vs.length<=10000
 c0:s.d=0->Au (cJ w) s (cE s)
 c1:s.d=1->0<w.ψ.length->u9 (cJ w) (iw w s)
 c4:s.d=4->w.dk[cE s]? =some (fJ (ι w (cE s)))/\ou (fJ (ι w (cE s))) (ι w (cE s)).ep (ι w (cE s)).nu (ι w (cE s)).c (ι w (cE s)).t/\bm (fJ (ι w (cE s)))/\(fJ (ι w (cE s))).length<=900000
 c5:s.d=5->EY (cJ w)
 c6:s.d=6->bu (ι w (cE s))/\(mN w s).mem.length+(mN w s).aC.length<=1000/\(ι w (cE s)).out.length+(bx (ι w (cE s)).me (mN w s).mem (mN w s).aC).length<=100000/\jX (bA (cJ w) (cE s) (dT (ι w (cE s)) (mN w s))) (cE s)
 c7:s.d=7->∀ i,i<4->(eQ (cJ w) i).R.length=4/\bu (ι (eQ (cJ w) i) i)/\0<=(ι (eQ (cJ w) i) i).ti/\(ι (eQ (cJ w) i) i).ti<=1000000/\(ι (eQ (cJ w) i) i).out.length+(aQ (ι (eQ (cJ w) i) i)).length<=100000/\jX (bA (eQ (cJ w) i) i (cL (ι (eQ (cJ w) i) i))) i
def GStep:List V->Wd->(V->Wd->Prop)->Prop:=fun rest w k=>∃ s:Sp,rest=[qB s]/\xf w s/\∀ w',w'=eP w s->k (.χ []) w'
theorem Sh:aR Tryz.prog 9 (WM GStep):=oa WX mixed eW (fun args kb K h=>by
 unfold WM at h;split at h<;>try exact h.elim
 obtain⟨w,q,A,⟨rfl⟩,hp,s,rfl,hc,h⟩:=h
 refine⟨TO w 9,?_⟩
 show aK _ _ _ _ _ _ (fA eW (dx 8 K))
 apply ahx w s q A K
 have hn0:=hc.n0
 have hn1:=hc.n1
 have cj:=hc.bl
 have hrl:=hc.rl
 have hdl:=hc.dl
 have e1:γ.wrap (w.now+1)=w.now+1:=by rw[bS (by omega) (by omega)]
 have pa:=kG s.df (n:=4) (by omega)
 have hat:bH s.df 4=(cE s:Int):=by unfold cE;omega
 have ZK:cE s<4:=by unfold cE;omega
 dsimp only
 rw[e1,hat]
 have K0:∀ W:Wd,W.R=w.R->W=eP w s->K (.χ []) (d_ W q A):=fun W hR hW=>h W hW q A (by rw[hR];exact hp)
 have hin:bj (cE s:Int) w.R.length:=by unfold bj;omega
 have hpk:0<w.ψ.length->bH s.n ((w.ψ.length - 0:Nat):Int)=(iw w s:Int)/\iw w s<w.ψ.length:=fun hl=>by
  have:=kG s.n (n:=((w.ψ.length - 0:Nat):Int)) (by omega)
  have e:iw w s=(bH s.n ((w.ψ.length - 0:Nat):Int)).toNat:=rfl
  omega
 simp only[beq_iff_eq,beq_eq_false_iff_ne,ne_eq,decide_eq_true_eq,decide_eq_false_iff_not]
 refine⟨⟨by omega,by omega⟩,⟨by omega,by omega⟩,fun d0=>?_,fun d0=>⟨fun d1=>⟨fun hl=>?_,fun hl=>?_⟩,fun d1=>⟨fun d2=>⟨fun hl=>?_,fun hl=>?_⟩,fun d2=>⟨fun d3=>⟨fun hl=>⟨fun h5=>?_,fun h5=>?_⟩,fun hl=>?_⟩,fun d3=>⟨fun d4=>?_,fun d4=>⟨fun d5=>?_,fun d5=>⟨fun d6=>?_,fun d6=>⟨fun d7=>?_,fun d7=>?_⟩⟩⟩⟩⟩⟩⟩⟩
 ·exact⟨cJ w,q,A,⟨rfl⟩,hp,s,cE s,rfl,hc.c0 d0,fun w' hw' q' A' p'=>h w' (by rw[hw'];unfold eP kK;rw[if_pos d0]) q' A' p'⟩
 ·have hl:0<w.ψ.length:=by omega
  obtain⟨k1,k2⟩:=hpk hl
  rw[k1]
  exact⟨cJ w,q,A,⟨rfl⟩,hp,iw w s,rfl,hc.c1 d1 hl,fun w' hw' q' A' p'=>h w' (by rw[hw'];unfold eP kK;rw[if_neg d0,if_pos d1,if_pos (by exact hl)]) q' A' p'⟩
 ·have hl:¬ 0<w.ψ.length:=by omega
  exact K0 (cJ w) rfl (by unfold eP kK;rw[if_neg d0,if_pos d1,if_neg (by exact hl)])
 ·have hl:0<w.ψ.length:=by omega
  obtain⟨k1,k2⟩:=hpk hl
  have w1:γ.wrap ((iw w s:Int)+1)=((iw w s+1:Nat):Int):=by rw[bS (by omega) (by omega)];rfl
  have hM:iw w s<(w.ψ.map cN).length:=by rw[cp];exact k2
  have hL:w.ψ.length=(w.ψ.map cN).length:=by rw[cp]
  rw[k1,w1,dD,dD,T1 hM hL,T0 hM hL]
  have hst:fq (cJ w) (iw w s)=eP w s:=by unfold eP kK;rw[if_neg d0,if_neg d1,if_pos d2,if_pos (by exact hl)]
  have hel:(fq (cJ w) (iw w s)).ψ.length=((w.ψ.map cN).eraseIdx (iw w s)).length:=by
   show(w.ψ.eraseIdx _).length=_
   rw[List.length_eraseIdx_of_lt k2,List.length_eraseIdx_of_lt hM,cp]
  have hem:(fq (cJ w) (iw w s)).ψ.map cN=(w.ψ.map cN).eraseIdx (iw w s):=Q3 cN w.ψ _
  have hle:((w.ψ.map cN).eraseIdx (iw w s)).length<=10000:=by rw[List.length_eraseIdx_of_lt hM];omega
  refine⟨trivial,by unfold aM;omega,bt _,by omega,by unfold aM;omega,trivial,by omega,au _,trivial,trivial,trivial,trivial,by omega,au _,by simp only[fZ,dc];omega,by omega,by simp,by omega,?_⟩
  have:=K0 (fq (cJ w) (iw w s)) rfl hst
  unfold d_ jC jQ at this
  rw[hel,hem]at this
  exact this
 ·have hl:¬ 0<w.ψ.length:=by omega
  exact K0 (cJ w) rfl (by unfold eP kK;rw[if_neg d0,if_neg d1,if_pos d2,if_neg (by exact hl)])
 ·have hl:0<w.ψ.length:=by omega
  have h5:w.ψ.length<500:=by omega
  obtain⟨k1,k2⟩:=hpk hl
  rw[k1]
  have hst:xT (cJ w) (iw w s)=eP w s:=by unfold eP kK;rw[if_neg d0,if_neg d1,if_neg d2,if_pos d3,if_pos (by exact⟨hl,h5⟩)]
  refine⟨by unfold bj;omega,cN (fx w (iw w s)),by rw[cQ,dD,fH,Fv k2];rfl,_,rfl,_,rfl,_,rfl,trivial,trivial,au _,by rw[cp];exact au _,by omega,?_⟩
  have:=K0 (xT (cJ w) (iw w s)) rfl hst
  have eb:(w.ψ++[fx w (iw w s)]).length=w.ψ.length+1:=by rw[bo];rfl
  have er:(w.ψ++[fx w (iw w s)]).map cN=aA w.ψ.length (w.ψ.map cN)++[cN (fx w (iw w s))]:=by
   rw[jZ,fI (by rw[cp];exact au _)];rfl
  unfold d_ jC jQ at this
  have e9:(xT (cJ w) (iw w s)).ψ=w.ψ++[fx w (iw w s)]:=rfl
  rw[e9,eb,er]at this
  exact this
 ·have h5:¬ w.ψ.length<500:=by omega
  exact K0 (cJ w) rfl (by unfold eP kK;rw[if_neg d0,if_neg d1,if_neg d2,if_pos d3,if_neg (by exact fun t=>h5 t.2)])
 ·have hl:¬ 0<w.ψ.length:=by omega
  exact K0 (cJ w) rfl (by unfold eP kK;rw[if_neg d0,if_neg d1,if_neg d2,if_pos d3,if_neg (by exact fun t=>hl t.1)])
 ·obtain⟨c1,c2,c3,c4⟩:=hc.c4 d4
  obtain⟨l,hA,rf⟩:=hp.h
  have hst:bA (cJ w) (cE s) (rU (ι w (cE s)) (cE s))=eP w s:=by unfold eP kK;rw[if_neg d0,if_neg d1,if_neg d2,if_neg d3,if_pos d4];rfl
  have ok4:∀(ep nu:Int) (c:List Int) (x:List L3),ou (fJ (ι w (cE s))) ep nu c x->∀(b:Nat) (A':List (Sg×KB)),bY A' (l++[(b,newR (cE s:Int) 5 false ep nu c x)])->K (.χ []) (d_ (bA (cJ w) (cE s) (rU (ι w (cE s)) (cE s))) (q.set (cE s) (l.length,b)) A'):=fun ep nu c x hr b A' pA=>by
   obtain⟨i1,i2,i3,i4⟩:=aaF c3 c4 c2 hr
   refine h _ hst _ _ ⟨_,pA,?_⟩
   rw[<- i1,<- i2,<- i3,<- i4]
   exact rf.add (by rw[hrl];exact ZK) b _
  have di:(w.dk.map bB)[0+(cE s:Int).toNat]? =some (bB (fJ (ι w (cE s)))):=by rw[cQ,dD,fH,c1];rfl
  have On:∀ b:Nat,(q.map cd).set (0+(cE s:Int).toNat) [η (pv b)]=(q.set (cE s) (l.length,b)).map cd:=fun b=>by rw[cQ,dD,List.map_set];rfl
  have YK:∀ b (A':List (Sg×KB)),d_ (bA (cJ w) (cE s) (rU (ι w (cE s)) (cE s))) (q.set (cE s) (l.length,b)) A'=d_ (cJ w) (q.set (cE s) (l.length,b)) A':=fun b A'=>(DL (W:=cJ w) (by show(w.R.set _ _).length=w.R.length;rw[iA]) _ _).symm
  have vL:0+(cE s:Int).toNat<(q.map cd).length:=by rw[cp,rf.len,hrl];omega
  refine⟨by unfold bj;omega,_,di,_,rfl,A,l,fJ (ι w (cE s)),⟨.inr rfl⟩,hA,rfl,c3,c4,fun hn=>absurd ⟨_,_,_,_,c2⟩ hn,fun ep nu c x hr b A' pA=>?_⟩
  have k:=ok4 ep nu c x hr b A' pA
  rw[YK]at k
  refine⟨fun t=>⟨fun _=>⟨hin,vL,?_⟩,fun t2=>(by cases t2)⟩,fun t=>⟨fun _=>⟨hin,vL,?_⟩,fun t2=>(by cases t2)⟩⟩
  ·rw[On,<- t];exact k
  ·rw[On,<- t];exact k
 ·exact⟨cJ w,q,A,⟨rfl⟩,hp,s,(cE s:Int),rfl,hc.c5 d5,fun w' hw' q' A' p'=>h w' (by rw[hw'];unfold eP kK;rw[if_neg d0,if_neg d1,if_neg d2,if_neg d3,if_neg d4,if_pos d5]) q' A' p'⟩
 ·have vl:=hc.vl
  have vm:=hc.vm
  have p3:=kG s.n (n:=3) (by omega)
  have x1:γ.wrap (γ.wrap (((w.vs.length - 0:Nat):Int) - 1) - bH s.n 3)=(w.vs.length:Int) - 1 - bH s.n 3:=by
   have:γ.wrap (((w.vs.length - 0:Nat):Int) - 1)=(w.vs.length:Int) - 1:=by rw[bS (by omega) (by omega)];omega
   rw[this,bS (by omega) (by omega)]
  rw[x1]
  obtain⟨tN,htN⟩:∃ tN,(max 0 ((w.vs.length:Int) - 1 - bH s.n 3)).toNat=tN:=⟨_,rfl⟩
  have x2:(if(w.vs.length:Int) - 1 - bH s.n 3 > 0 then(w.vs.length:Int) - 1 - bH s.n 3 else 0)=(tN:Int):=by split<;>omega
  rw[x2]
  have tl:tN<w.vs.length:=by omega
  have hv:(w.vs.map c8)[0+(tN:Int).toNat]? =some (c8 (mN w s)):=by rw[cQ,dD,fH,uJ tl];unfold mN;rw[htN];rfl
  obtain⟨c1,c2,c3,c4⟩:=hc.c6 d6
  obtain⟨l,k,b,hq,hA,hl,dR⟩:=hp.get (qx (w:=w) (i:=cE s) (by omega))
  refine⟨hin,_,pL hq,_,rfl,trivial,trivial,trivial,⟨by omega,by omega⟩,⟨_,pL hq,_,rfl,rfl⟩,by unfold bj;omega,_,hv,_,rfl,_,rfl,_,rfl,_,rfl,_,rfl,l,k,b,_,hA,hl,rfl,mN w s,rfl,c1,c2,c3,fun A2 p2=>⟨bA (cJ w) (cE s) (dT (ι w (cE s)) (mN w s)),q,A2,⟨zi (W:=cJ w) (by show(w.R.set _ _).length=w.R.length;rw[iA]) q A2⟩,dR _ _ p2,cE s,rfl,c4,fun w' hw' q' A' p'=>h w' (by rw[hw'];unfold eP kK;rw[if_neg d0,if_neg d1,if_neg d2,if_neg d3,if_neg d4,if_neg d5,if_pos d6];rfl) q' A' p'⟩⟩
 ·refine⟨At.mk' (⟨⟨0,cJ w,q,A⟩,bt _,rfl,hp⟩:{x:j5 // Az w x}) rfl,?_⟩
  rintro⟨⟨i,W,q1,A1⟩,hi,hW,P1⟩
  dsimp only at hi hW P1 ⊢
  subst hW
  refine⟨fun hlt=>?_,fun hge=>?_⟩
  ·have hlt:i<4:=by omega
   obtain⟨c1,c2,c3,c4,c5,c6⟩:=hc.c7 d7 i hlt
   obtain⟨l,k,b,hq,hA,hl,dR⟩:=P1.get (qx (w:=eQ (cJ w) i) (i:=i) (by omega))
   refine⟨by show bj _ (eQ (cJ w) i).R.length;unfold bj;omega,_,pL hq,_,rfl,l,k,b,_,hA,hl,rfl,⟨rfl⟩,c2,c3,by omega,c5,fun A2 p2=>⟨bA (eQ (cJ w) i) i (cL (ι (eQ (cJ w) i) i)),q1,A2,⟨zi (W:=eQ (cJ w) i) (by show((eQ (cJ w) i).R.set _ _).length=_;rw[iA]) q1 A2⟩,dR _ _ p2,i,rfl,c6,fun w' hw' q' A' p'=>?_⟩⟩
   refine Nx.mk' (⟨⟨i+1,w',q',A'⟩,by show i+1<=4;omega,hw',p'⟩:{x:j5 // Az w x}) ?_ (by show 4 - (i+1)<4 - i;omega)
   rw[bS (by omega) (by omega)]
   rfl
  ·have hi:i=4:=by omega
   subst hi
   exact h _ (by unfold eP kK;rw[if_neg d0,if_neg d1,if_neg d2,if_neg d3,if_neg d4,if_neg d5,if_neg d6,if_pos d7]) q1 A1 P1
 ·exact K0 (cJ w) rfl (by unfold eP kK;rw[if_neg d0,if_neg d1,if_neg d2,if_neg d3,if_neg d4,if_neg d5,if_neg d6,if_neg d7]))
structure Kp (R R2:θ):Prop where
 h:R2.ch=true∨(R2.ep=R.ep/\R2.nu=R.nu/\R2.c=R.c/\R2.t=R.t/\R2.ch=R.ch)
theorem Kp.same {R R2:θ} (h1:R2.ep=R.ep) (h2:R2.nu=R.nu) (h3:R2.c=R.c) (h4:R2.t=R.t) (h5:R2.ch=R.ch):Kp R R2:=⟨.inr ⟨h1,h2,h3,h4,h5⟩⟩
theorem Kp.refl (R:θ):Kp R R:=.same rfl rfl rfl rfl rfl
theorem OL {R R1:θ} (h:Kp R R1):Kp R (fb R1):=by
 unfold fb
 split
 ·split
  ·split
   ·exact⟨h.h⟩
   ·exact h
  ·exact h
 ·exact h
theorem ZO (R:θ) (fr:Int) (m:dI):Kp R (dE R fr m):=by
 have r:=Kp.refl R
 unfold dE
 split
 ·exact r
 ·split
  ·unfold iH
   split
   ·exact .same rfl rfl rfl rfl rfl
   ·split
    ·exact⟨.inl rfl⟩
    ·exact r
  ·split
   ·unfold im
    split
    ·exact r
    ·split
     ·exact r
     ·split
      ·exact .same rfl rfl rfl rfl rfl
      ·exact OL (.same rfl rfl rfl rfl rfl)
   ·split
    ·unfold iG
     split
     ·exact .same rfl rfl rfl rfl rfl
     ·split
      ·exact⟨.inl rfl⟩
      ·exact .same rfl rfl rfl rfl rfl
    ·split
     ·unfold ic
      split
      ·exact r
      ·split
       ·exact r
       ·split
        ·exact OL (.same rfl rfl rfl rfl rfl)
        ·exact r
     ·unfold ij
      split
      ·exact r
      ·split
       ·exact .same rfl rfl rfl rfl rfl
       ·split
        ·exact .same rfl rfl rfl rfl rfl
        ·exact .same rfl rfl rfl rfl rfl
theorem afU (R:θ):Kp R (cL R):=by
 unfold cL
 split
 ·exact .same rfl rfl rfl rfl rfl
 ·split
  ·exact .same rfl rfl rfl rfl rfl
  ·exact .same rfl rfl rfl rfl rfl
theorem Y5 {R:θ}:(fb R).ch=R.ch:=by
 unfold fb
 split
 ·split
  ·split<;>rfl
  ·rfl
 ·rfl
theorem afd (R:θ) (o:Op):Kp R (eE R o).2:=by
 have r:=Kp.refl R
 unfold eE
 split
 ·exact r
 ·split
  ·exact r
  ·rename_i L hl
   split
   ·exact r
   ·split
    ·exact r
    ·split
     ·rename_i e R1 hk
      split at hk
      ·unfold lN at hk
       split at hk
       ·cases hk;exact .same rfl rfl rfl rfl rfl
       ·split at hk
        ·cases hk;exact r
        ·split at hk
         ·cases hk
         ·cases hk;exact r
      ·cases hk
     ·refine⟨.inl ?_⟩
      show(lF R L o).ch=true
      unfold lF
      dsimp only
      rw[sO,Y5];rfl
theorem ahX (R:θ) (w:Vw):Kp R (dT R w):=by
 cases hg:dL R w with
 |false=>rw[uK hg];exact .refl R
 |true=>
  cases hl:fe R w with
  |false=>rw[wJ hg hl];exact .same rfl rfl rfl rfl rfl
  |true=>
   rw[wK hg hl]
   by_cases he:R.ep=w.ve
   ·cases hc:R.ch with
    |true=>exact⟨.inl (by show(R.ch || _)=true;rw[hc];rfl)⟩
    |false=>exact .same he.symm rfl rfl rfl (by show(R.ch || (R.ep != w.ve))=R.ch;rw[hc,he];simp)
   ·exact⟨.inl (by show(R.ch || (R.ep != w.ve))=true;simp [he])⟩
structure RC (T:Int) (k:Nat) (R:θ):Prop where
 w:RW T R
 me:R.me=k
 out:R.out=[]
 done:R.done=[]
 ch:R.ch=false
structure LW (T:Int) (l:fU):Prop where
 m:MW T l.m
 t0:0<=l.to
 t1:l.to<4
structure VW (T:Int) (v:Vw):Prop where
 len:((v.mem.length+v.aC.length:Nat):Int)<=T+2
 e0:0<=v.ve
 e1:v.ve<=T
 m0:v.mem≠[]
 rg:∀ x∈v.mem++v.aC,0<=x/\x<4
 nd:(v.mem++v.aC).Nodup
structure WI (T:Int) (w:Wd):Prop where
 rl:w.R.length=4
 dl:w.dk.length=4
 r:∀ i,i<4->RC T i (ι w i)
 dk:∀ i,i<4->w.dk[i]? =some (fJ (ι w i))
 vs:∀ v∈w.vs,VW T v
 v0:0<w.vs.length
 vm:(w.vs.length:Int)<=T+1
 ψ:∀ l∈w.ψ,LW T l
 bl:w.ψ.length<=2500
 cs:∀ c∈w.cs,ga c.o/\c.o.b.length<=2048
 cl:w.cs.length<=20
 n3:w.aX.length=3
 nb:∀ n∈w.aX,0<=n/\n<=T
 n0:0<=w.now
 n1:w.now<=T
theorem WI.mono {T T2:Int} {w:Wd} (h:WI T w) (hT:T<=T2):WI T2 w:=
 ⟨h.rl,h.dl,fun i hi=>⟨(h.r i hi).w.mono hT,(h.r i hi).me,(h.r i hi).out,(h.r i hi).done,(h.r i hi).ch⟩,h.dk,fun v hv=>⟨by have:=(h.vs v hv).len;omega,(h.vs v hv).e0,by have:=(h.vs v hv).e1;omega,(h.vs v hv).m0,(h.vs v hv).rg,(h.vs v hv).nd⟩,h.v0,by have:=h.vm;omega,fun l hl=>⟨⟨(h.ψ l hl).m.r,by have:=(h.ψ l hl).m.n1;omega,by have:=(h.ψ l hl).m.n2;omega⟩,(h.ψ l hl).t0,(h.ψ l hl).t1⟩,h.bl,h.cs,h.cl,h.n3,fun n hn=>by have:=h.nb n hn;omega,h.n0,by have:=h.n1;omega⟩
theorem lT {w:Wd} {i:Nat} (R:θ) (hi:i<w.R.length):ι (bA w i R) i=R:=by
 unfold ι bA;rw[iY,iz hi];rfl
theorem qy {w:Wd} {i j:Nat} (R:θ) (h:i≠j):ι (bA w i R) j=ι w j:=by
 unfold ι bA;rw[iY,iY,gE h]
theorem TS {T:Int} (i:Nat):∀(l:List Post) (w:Wd),(∀ p∈l,kq p.m/\bi p.m 1<=T/\bi p.m 2<=T)->(∀ x∈w.ψ,LW T x)->∀ x∈(dr w i l).ψ,LW T x
 | [],w,_,h=>h
 |p::l,w,hp,h=>TS i l (gZ i w p) (fun p' mD=>hp p' (f_ _ mD)) (by
  unfold gZ;split
  ·rename_i hc
   have hh:=hp p iB
   exact fun x hx=>mH (P:=LW T) h ⟨⟨hh.1,hh.2.1,hh.2.2⟩,hc.1,hc.2.1⟩ hx
  ·exact h)
theorem af9 (l:List Dn):∀(w:Wd) (c:fG),c∈(l.foldl fM w).cs->∃ c0∈w.cs,c0.o=c.o:=by
 induction l with
 |nil=>exact fun w c hc=>⟨c,hc,rfl⟩
 |cons d l ih=>
  intro w c hc
  obtain⟨c1,h1,h2⟩:=ih (fM w d) c hc
  have h1:c1∈w.cs.map (gC w.now d):=h1
  obtain⟨c0,h3,h4⟩:=ef.1 h1
  refine⟨c0,h3,?_⟩
  rw[<- h2,<- h4]
  unfold gC;split<;>rfl
theorem wH:∀(l:List Dn) (w:Wd),(l.foldl fM w).dk=w.dk/\(l.foldl fM w).vs=w.vs/\(l.foldl fM w).ψ=w.ψ/\(l.foldl fM w).aX=w.aX/\(l.foldl fM w).now=w.now
 | [],w=>⟨rfl,rfl,rfl,rfl,rfl⟩
 |d::l,w=>wH l (fM w d)
theorem td {w w2:Wd} (h:w2.R=w.R) (i:Nat):ι w2 i=ι w i:=by unfold ι;rw[h]
theorem AV {T:Int} {w:Wd} (h:WI T w) {i:Nat} (hi:i<4) {R:θ} (hr:RW T R) (hT:T<=900) (me:R.me=i) (ol:R.out.length<=1000) (dl:R.done.length<=1000) (hk:Kp (ι w i) R):jX (bA w i R) i/\WI T (cU (bA w i R) i):=by
 have hir:i<w.R.length:=by rw[h.rl];exact hi
 have e1:ι (bA w i R) i=R:=lT R hir
 have hle:iK R.ep:=⟨by have:=hr.e1;omega⟩
 have cj:=h.bl
 have hcl:=h.cl
 refine⟨⟨by show i<(w.R.set i R).length;rw[iA];exact hir,by show i<w.dk.length;rw[h.dl];exact hi,by rw[e1];exact hr.i,by rw[e1];exact hle,by rw[e1];exact ol,by rw[e1];exact dl,by rw[e1];exact fun p hp=>(hr.om p hp).1,by rw[e1];exact hr.dn,by show w.ψ.length<=_;omega,by show w.cs.length<=_;omega⟩,?_⟩
 obtain⟨s1,s2,s3,s4,s5,s6,s7,s8⟩:=oV i R.out (fK (bA w i R) i)
 have Hw:cU (bA w i R) i=R.done.foldl fM (dr (fK (bA w i R) i) i R.out):=by unfold cU;rw[e1]
 obtain⟨t1,t2⟩:=uH R.done (dr (fK (bA w i R) i) i R.out)
 obtain⟨u1,u2,u3,u4,u5⟩:=wH R.done (dr (fK (bA w i R) i) i R.out)
 rw[Hw]
 have eR:(R.done.foldl fM (dr (fK (bA w i R) i) i R.out)).R=(bA w i (iR R)).R:=by
  rw[t1,s1];show(w.R.set i R).set i (iR (ι (bA w i R) i))=w.R.set i (iR R);rw[e1,List.set_set]
 have eA:∀ j,ι (R.done.foldl fM (dr (fK (bA w i R) i) i R.out)) j=ι (bA w i (iR R)) j:=td eR
 have eD:(R.done.foldl fM (dr (fK (bA w i R) i) i R.out)).dk=if R.ch then w.dk.set i (fJ R)else w.dk:=by
  rw[u1,s2];show(if(ι (bA w i R) i).ch then w.dk.set i (fJ (ι (bA w i R) i))else w.dk)=_;rw[e1]
 refine⟨by rw[eR];show(w.R.set i _).length=4;rw[iA];exact h.rl,?_,fun j hj=>?_,fun j hj=>?_,?_,?_,?_,?_,?_,?_,?_,?_,?_,?_,?_⟩
 ·rw[eD];split
  ·rw[iA];exact h.dl
  ·exact h.dl
 ·rw[eA]
  by_cases e:i=j
  ·subst e;rw[lT _ hir]
   exact⟨X1 hr R.ch,me,rfl,rfl,rfl⟩
  ·rw[qy _ e];exact h.r j hj
 ·rw[eA,eD]
  by_cases e:i=j
  ·subst e;rw[lT _ hir]
   cases hc:R.ch with
   |true=>rw[if_pos rfl,iz (by rw[h.dl];exact hi)];rfl
   |false=>
    rw[if_neg Bool.false_ne_true,h.dk i hi]
    rcases hk.h with k | ⟨k1,k2,k3,k4,_⟩
    ·rw[hc]at k;cases k
    ·show some (jg (ι w i).ep (ι w i).nu (ι w i).c (ι w i).t)=some (jg R.ep R.nu R.c R.t)
     rw[k1,k2,k3,k4]
  ·rw[qy _ e]
   split
   ·rw[gE e];exact h.dk j hj
   ·exact h.dk j hj
 ·rw[u2,s3];exact h.vs
 ·rw[u2,s3];exact h.v0
 ·rw[u2,s3];exact h.vm
 ·rw[u3];exact TS i R.out _ hr.om h.ψ
 ·rw[u3];have:(fK (bA w i R) i).ψ.length=w.ψ.length:=rfl;omega
 ·intro c hc
  obtain⟨c0,g1,g2⟩:=af9 _ _ _ hc
  rw[s4]at g1
  rw[<- g2];exact h.cs c0 g1
 ·rw[t2,s4];exact h.cl
 ·rw[u4,s5];exact h.n3
 ·rw[u4,s5];exact h.nb
 ·rw[u5,s6];exact h.n0
 ·rw[u5,s6];exact h.n1
section
variable {T:Int} {w:Wd}
theorem yE (h:WI T w):WI (T+1) (cJ w):=by
 have:=h.mono (by omega:T<=T+1)
 exact⟨this.rl,this.dl,this.r,this.dk,this.vs,this.v0,this.vm,this.ψ,this.bl,this.cs,this.cl,this.n3,this.nb,by have:=h.n0;show 0<=w.now+1;omega,by have:=h.n1;show w.now+1<=_;omega⟩
theorem Jz (h:WI T w) (k:Nat):WI T (fq w k):=⟨h.rl,h.dl,h.r,h.dk,h.vs,h.v0,h.vm,fun l hl=>h.ψ l (List.mem_of_mem_eraseIdx hl),by have:=h.bl;have:=List.length_eraseIdx_le w.ψ k;show(w.ψ.eraseIdx k).length<=_;omega,h.cs,h.cl,h.n3,h.nb,h.n0,h.n1⟩
theorem sA {k:Nat} (hk:k<w.ψ.length):fx w k∈w.ψ:=gG (Fv hk)
theorem YA (h:WI T w) {k:Nat} (hk:k<w.ψ.length) (h5:w.ψ.length<500):WI T (xT w k):=⟨h.rl,h.dl,h.r,h.dk,h.vs,h.v0,h.vm,fun l hl=>mH (P:=LW T) h.ψ (h.ψ _ (sA hk)) hl,by show(w.ψ++[_]).length<=_;rw[bo,iL];omega,h.cs,h.cl,h.n3,h.nb,h.n0,h.n1⟩
theorem aec (h:WI T w) {a:Nat} (ha:a<4):WI T (bA w a (rU (ι w a) a)):=by
 have sP:a<w.R.length:=by rw[h.rl];exact ha
 have hr:=(h.r a ha).w
 refine⟨by show(w.R.set a _).length=4;rw[iA];exact h.rl,h.dl,fun j hj=>?_,fun j hj=>?_,h.vs,h.v0,h.vm,h.ψ,h.bl,h.cs,h.cl,h.n3,h.nb,h.n0,h.n1⟩
 ·by_cases e:a=j
  ·subst e
   rw[lT _ sP]
   have h0:=hr.t0
   have h1:=hr.t1
   refine⟨⟨Cw _ _ _ _ hr.i.ok.n0 hr.i.ok.n1 hr.i.ok.cl hr.i.ok.cb hr.i.tx,rfl,hr.e0,hr.e1,hr.n1,bt _,dy _,by show(0:Int)<=T;omega,fun p hp=>(by cases hp),fun d hd=>(by cases hd),fun o ho=>by simp [rU,newR,b_]at ho⟩,rfl,rfl,rfl,rfl⟩
  ·rw[qy _ e];exact h.r j hj
 ·by_cases e:a=j
  ·subst e;rw[lT _ sP];exact h.dk a ha
  ·rw[qy _ e];exact h.dk j hj
theorem vP (h:WI T w):bq w∈w.vs:=gG (uJ (by have:=h.v0;omega))
theorem sZ {l:List Int} {v x:Int}:x∈gX l v ↔ x∈l/\x≠v:=by unfold gX;rw[lZ,bne_iff_ne]
theorem I0 {l:List Int} (h:l.Nodup) (v:Int):(gX l v).Nodup:=h.filter _
theorem IU {v:Vw} (h:VW T v) (ch:Int) {id:Int} (hid:0<=id/\id<4):VW (T+1) (lQ v ch id)/\((lQ v ch id).ve=v.ve∨(lQ v ch id).ve=v.ve+1):=by
 have same:VW (T+1) v:=⟨by have:=h.len;omega,h.e0,by have:=h.e1;omega,h.m0,h.rg,h.nd⟩
 have hnd:=List.nodup_append.1 h.nd
 have l1:=IZ v.mem id
 have l2:=IZ v.aC id
 have hl:=h.len
 have e0:=h.e0
 have e1:=h.e1
 unfold lQ
 split
 ·split
  ·exact⟨same,.inl rfl⟩
  ·rename_i hn
   refine⟨⟨by dsimp only;omega,by dsimp only;omega,by dsimp only;omega,?_,?_,?_⟩,.inr rfl⟩
   ·dsimp only
    intro he
    have hm:∀ x∈v.mem,x=id:=fun x hx=>by
     by_cases e:x=id
     ·exact e
     ·have:x∈gX v.mem id:=sZ.2 ⟨hx,e⟩
      rw[he]at this;cases this
    cases hv:v.mem with
    |nil=>exact h.m0 hv
    |cons a r=>
     have ha:=hm a (by rw[hv];exact iB)
     cases r with
     |nil=>exact hn (.inr ⟨by rw[hv,ha];exact iB,by rw[hv];rfl⟩)
     |cons b r=>
      have hb:=hm b (by rw[hv];exact f_ _ iB)
      have:=hnd.1
      rw[hv]at this
      exact(List.nodup_cons.1 this).1 (by rw[ha,<- hb];exact iB)
   ·intro x hx
    refine h.rg x ?_
    rcases dQ.1 hx with hx | hx
    ·exact iM _ (sZ.1 hx).1
    ·exact lD _ (sZ.1 hx).1
   ·exact List.nodup_append.2 ⟨I0 hnd.1 _,I0 hnd.2.1 _,fun a ha b hb=>hnd.2.2 a (sZ.1 ha).1 b (sZ.1 hb).1⟩
 ·split
  ·split
   ·exact⟨same,.inl rfl⟩
   ·rename_i hn
    refine⟨⟨by dsimp only;rw[bo,iL];omega,by dsimp only;omega,by dsimp only;omega,h.m0,fun x hx=>?_,?_⟩,.inr rfl⟩
    ·dsimp only at hx
     rw[<- eH]at hx
     exact mH (P:=fun x=>0<=x/\x<4) h.rg hid hx
    ·dsimp only
     rw[<- eH]
     refine List.nodup_append.2 ⟨h.nd,by simp,fun a ha b hb=>?_⟩
     rw[dm]at hb;subst hb
     intro e;subst e
     exact hn (dQ.1 ha)
  ·split
   ·split
    ·exact⟨same,.inl rfl⟩
    ·rename_i hn
     have hn:id∈v.aC:=by simpa using hn
     refine⟨⟨by dsimp only;rw[bo,iL];omega,by dsimp only;omega,by dsimp only;omega,by simp,fun x hx=>?_,?_⟩,.inr rfl⟩
     ·dsimp only at hx
      rcases dQ.1 hx with hx | hx
      ·rcases dQ.1 hx with hx | hx
       ·exact h.rg x (iM _ hx)
       ·rw[dm]at hx;subst hx;exact hid
      ·exact h.rg x (lD _ (sZ.1 hx).1)
     ·dsimp only
      refine List.nodup_append.2 ⟨List.nodup_append.2 ⟨hnd.1,by simp,fun a ha b hb=>?_⟩,I0 hnd.2.1 _,fun a ha b hb=>?_⟩
      ·rw[dm]at hb;subst hb
       exact hnd.2.2 a ha _ hn
      ·have hb:=sZ.1 hb
       rcases dQ.1 ha with ha | ha
       ·exact hnd.2.2 a ha b hb.1
       ·rw[dm]at ha;subst ha
        exact fun e=>hb.2 e.symm
   ·exact⟨same,.inl rfl⟩
theorem agb (h:WI T w) (s:Sp) {a:Int} (ha:0<=a/\a<4):WI (T+1) (oZ w s a):=by
 have h1:=h.mono (by omega:T<=T+1)
 unfold oZ
 split
 ·exact h1
 ·split
  ·exact⟨h1.rl,h1.dl,h1.r,h1.dk,fun v hv=>mH (P:=VW (T+1)) h1.vs (IU (h.vs _ (vP h)) _ ha).1 hv,by show 0<(w.vs++[_]).length;rw[bo];simp,by have:=h.vm;show(((w.vs++[_]).length:Nat):Int)<=_;rw[bo,iL];omega,h1.ψ,h1.bl,h1.cs,h1.cl,h1.n3,h1.nb,h1.n0,h1.n1⟩
  ·exact h1
theorem IT (h:WI T w) (s:Sp) (h12:w.cs.length<12):WI (T+1) (lP w s):=by
 have h1:=h.mono (by omega:T<=T+1)
 have hb:=IS w s
 have pc:=kG s.n (n:=2) (by omega)
 have cn:(bJ s).toNat<w.aX.length:=by rw[h.n3];unfold bJ;omega
 have hm:=h.nb _ (Bx cn)
 refine⟨h1.rl,h1.dl,h1.r,h1.dk,h1.vs,h1.v0,h1.vm,h1.ψ,h1.bl,fun c hc=>?_,by show(w.cs++[_]).length<=_;rw[bo,iL];omega,by show(w.aX.set _ _).length=3;rw[iA];exact h.n3,fun n hn=>?_,h1.n0,h1.n1⟩
 ·refine mH (P:=fun c:fG=>ga c.o/\c.o.b.length<=2048) h.cs ⟨⟨hb.1,by have:=hb.2;show(gk w s).b.length<=_;omega⟩,?_⟩ hc
  show(gk w s).b.length<=_
  unfold gk;dsimp only;split
  ·rw[DJ];omega
  ·exact bt _
 ·have hn:n∈w.aX.set (bJ s).toNat (kE w (bJ s)+1):=hn
  rcases List.mem_or_eq_of_mem_set hn with hn | hn
  ·exact h1.nb n hn
  ·have:kE w (bJ s)=w.aX.getD (bJ s).toNat 0:=rfl
   rw[hn,this];omega
theorem qL {α:Type} {l:List α} (h:l=[]):l.length=0:=by rw[h];rfl
theorem Kv (h:WI T w) (hT:T<800) {a:Nat} (ha:a<4) {o:Op} (ho:ga o) (hb:o.b.length<=2048):jX (tX w o a) a/\WI (T+1) (rZ w o a):=by
 have hr:=h.r a ha
 have z1:=qL hr.out
 have z2:=qL hr.done
 have fz:=wb hr.w
 have hw:=afi hr.w (by omega) (by omega) (by omega) ho hb
 have hs:=Uk hr.w.i ho (by have:=hr.w.n1;omega) (by omega) (by omega)
 have so:=hs.o
 have sd:=hs.d
 exact AV (h.mono (by omega)) ha hw (by omega) (hs.me.trans hr.me) (by omega) (by omega) (afd _ _)
theorem Uf (h:WI T w) (hT:T<790) (s:Sp):Au w s (cE s)/\WI (T+2) (lV w s (cE s)):=by
 have pa:=kG s.df (n:=4) (by omega)
 have ha:cE s<4:=by unfold cE;omega
 have hr:=h.r _ ha
 have z1:=qL hr.out
 have fz:=wb hr.w
 have ra:∀ c,tJ w (bJ s)=some c->c∈w.cs:=fun c hc=>(lZ.1 (List.mem_of_getLast? hc)).1
 have hcl:=h.cl
 have hB:w.cs.length<12->jX (tX (lP w s) (gk w s) (cE s)) (cE s)/\WI (T+2) (rZ (lP w s) (gk w s) (cE s)):=fun h12=>by
  have hn:=IT h s h12
  have hb:=IS w s
  have hm:(⟨gk w s,qq w s,w.now,-1⟩:fG)∈(lP w s).cs:=lD _ (dm.2 rfl)
  have:=Kv hn (by omega) ha (hn.cs _ hm).1 (hn.cs _ hm).2
  rw[show T+1+1=T+2 by omega]at this
  exact this
 refine⟨⟨by rw[h.rl];exact ha,by rw[h.dl];exact ha,hr.w.i,by omega,by omega,fun c hc=>⟨(h.cs c hc).1.b,by have:=(h.cs c hc).2;omega⟩,h.n3,fun n hn=>by have:=h.nb n hn;omega,fun c hc=>(Kv h (by omega) ha (h.cs c (ra c hc)).1 (h.cs c (ra c hc)).2).1,fun h12=>(hB h12).1⟩,?_⟩
 unfold lV
 split
 ·split
  ·rename_i c hc
   exact(Kv h (by omega) ha (h.cs c (ra c hc)).1 (h.cs c (ra c hc)).2).2.mono (by omega)
  ·exact h.mono (by omega)
 ·split
  ·exact h.mono (by omega)
  ·exact(hB (by omega)).2
theorem xO (h:WI T w) (hT:T<800) {k:Nat} (hk:k<w.ψ.length):u9 w k/\WI T (l7 w k):=by
 have hl:=h.ψ _ (sA hk)
 have t0:=hl.t0
 have t1:=hl.t1
 have hto:(fx w k).to.toNat<4:=by omega
 have hr:=h.r _ hto
 have z1:=qL hr.out
 have z2:=qL hr.done
 have hw:=ZS hr.w (by omega) (by omega) (by omega) (fx w k).fr hl.m
 have hs:=ZN hr.w.i (by omega) (by omega) (fx w k).fr hl.m.ok
 have so:=hs.o
 have sd:=hs.d
 have:=AV (Jz h k) hto hw (by omega) (hs.me.trans hr.me) (by omega) (by omega) (ZO _ _ _)
 exact⟨⟨hk,by have:=h.bl;omega,t0,by rw[h.rl];exact t1,hl.m.r,hl.m.ok,hr.w.i,this.1⟩,this.2⟩
theorem zh (h:WI T w) (hT:T<800) {a:Nat} (ha:a<4) {v:Vw} (hv:v∈w.vs):bu (ι w a)/\v.mem.length+v.aC.length<=1000/\(ι w a).out.length+(bx (ι w a).me v.mem v.aC).length<=100000/\jX (bA w a (dT (ι w a) v)) a/\WI T (sc w a v):=by
 have hr:=h.r a ha
 have kC:=h.vs v hv
 have hl:=kC.len
 have z1:=qL hr.out
 have z2:=qL hr.done
 have ho:(bx (ι w a).me v.mem v.aC).length<=1000:=by
  have h1:(bx (ι w a).me v.mem v.aC).length<=(v.mem++v.aC).length:=List.length_filter_le ..
  rw[bo]at h1;omega
 have hw:=ah1 hr.w (by omega) (by omega) (by omega) (w:=v) (by omega) kC.e1
 have hs:=Vs (w:=v) hr.w.i (by omega) (by omega) (by omega)
 have so:=hs.o
 have sd:=hs.d
 have:=AV h ha hw (by omega) (hs.me.trans hr.me) (by omega) (by omega) (ahX _ _)
 exact⟨hr.w.i,by omega,by omega,this.1,this.2⟩
theorem vr (w:Wd) {i j:Nat} (R:θ) (h:i≠j) (hi:i<w.R.length):ι (cU (bA w i R) i) j=ι w j:=by
 have e1:ι (bA w i R) i=R:=lT R hi
 have e2:(cU (bA w i R) i).R=(bA w i (iR R)).R:=by
  unfold cU
  rw[e1,(uH _ _).1,(oV i _ _).1]
  show(w.R.set i R).set i (iR (ι (bA w i R) i))=w.R.set i (iR R)
  rw[e1,List.set_set]
 rw[td e2,qy _ h]
theorem uG (h:WI T w) (hT:T<800):∀ i,i<=4->WI (T+1) (eQ w i)/\(∀ j,i<=j->j<4->ι (eQ w i) j=ι w j)/\(∀ k,k<i->jX (bA (eQ w k) k (cL (ι (eQ w k) k))) k)
 | 0,_=>⟨h.mono (by omega),fun j _ _=>rfl,fun k hk=>by omega⟩
 |i+1,hi=>by
  obtain⟨h1,h2,h3⟩:=uG h hT i (by omega)
  have hr:=h.r i (by omega)
  have e:=h2 i (au _) (by omega)
  have z1:=qL hr.out
  have z2:=qL hr.done
  have fz:=wb hr.w
  have hw:=afZ hr.w (by omega) (by omega)
  have hs:=afT hr.w.i (by omega)
  have c:(cL (ι w i)).me=(ι w i).me/\(cL (ι w i)).done=(ι w i).done:=by
   unfold cL
   split
   ·exact⟨rfl,rfl⟩
   ·split<;>exact⟨rfl,rfl⟩
  have so:=hs.2
  have:=AV h1 (i:=i) (by omega) (R:=cL (ι w i)) hw (by omega) (c.1.trans hr.me) (by omega) (by rw[c.2];omega) (by rw[e];exact afU _)
  have et:eQ w (i+1)=cU (bA (eQ w i) i (cL (ι w i))) i:=by
   show oY (eQ w i) i=_
   unfold oY;rw[e]
  rw[et]
  refine⟨this.2,fun j hj hj4=>?_,fun k hk=>?_⟩
  ·rw[vr _ _ (by omega) (by rw[h1.rl];omega)]
   exact h2 j (by omega) hj4
  ·by_cases ek:k=i
   ·subst ek;rw[e];exact this.1
   ·exact h3 k (by omega)
theorem tn (h:WI T w) (hT:T<700) (s:Sp):xf w s/\WI (T+3) (eP w s):=by
 have hn:=yE h
 have pa:=kG s.df (n:=4) (by omega)
 have ha:cE s<4:=by unfold cE;omega
 have hN:∀ j,ι (cJ w) j=ι w j:=fun j=>rfl
 have p3:=kG s.n (n:=3) (by omega)
 have v0:=h.v0
 have BT:mN w s∈w.vs:=gG (uJ (by omega))
 have hpk:0<w.ψ.length->iw w s<(cJ w).ψ.length:=fun hl=>by
  have:=kG s.n (n:=(w.ψ.length:Int)) (by omega)
  show(bH s.n w.ψ.length).toNat<w.ψ.length
  omega
 have ky:=vP hn
 have hlv:=hn.vs _ ky
 obtain⟨x0,hx0⟩:∃ x,(bq w).mem[0]? =some x:=by
  cases hm:(bq w).mem with
  |nil=>exact absurd hm hlv.m0
  |cons a r=>exact⟨a,rfl⟩
 have BG:dJ (bq w)=x0:=by unfold dJ;rw[iY,hx0];rfl
 have Qj:=hlv.rg x0 (iM _ (gG hx0))
 have hlen:=hlv.len
 refine⟨⟨h.rl,h.dl,h.n0,by have:=h.n1;omega,by have:=h.bl;omega,h.v0,by have:=h.vm;omega,fun _=>(Uf hn (by omega) s).1,fun _ hl=>(xO hn (by omega) (hpk hl)).1,fun _=>?_,fun _=>?_,fun _=>?_,fun _ i hi=>?_⟩,?_⟩
 ·have hr:=(h.r _ ha).w
  refine⟨h.dk _ ha,⟨rfl,hr.e0,by have:=hr.e1;omega,hr.i.ok.n0,by have:=hr.n1;omega,hr.i.ok.cl,hr.i.tx⟩,aep (by have:=hr.e1;omega) (by have:=hr.n1;omega) hr.i.ok.cl hr.i.ok.cb hr.i.tx,?_⟩
  have:=Tv (ι w (cE s)).ep (ι w (cE s)).nu hr.i.ok.cl hr.i.tx.len
  exact Nat.le_trans this (by omega)
 ·have BJ:(bq (cJ w)).mem.length+(bq (cJ w)).aC.length<=1000:=by omega
  refine⟨v0,by have:=h.vm;show w.vs.length<=_;omega,by omega,by omega,?_,by show 0<=dJ (bq w);rw[BG];omega,by show dJ (bq w)<((w.R.length:Nat):Int);rw[BG,h.rl];omega,?_,hlv.e0,by have:=hlv.e1;omega⟩
  ·rcases Nat.eq_zero_or_pos (bq (cJ w)).mem.length with e | e
   ·exact absurd (List.length_eq_zero_iff.1 e) hlv.m0
   ·exact e
  ·refine(h.r (dJ (bq w)).toNat ?_).w.i
   rw[BG];omega
 ·obtain⟨c1,c2,c3,c4,_⟩:=zh hn (by omega) ha (v:=mN w s) BT
  exact⟨c1,c2,c3,c4⟩
 ·obtain⟨h1,h2,_⟩:=uG hn (by omega) i (by omega)
  have h4:=(uG hn (by omega) 4 (au _)).2.2 i hi
  have hr:=hn.r i hi
  have e:=h2 i (au _) hi
  have z1:=qL hr.out
  have fz:=wb hr.w
  rw[e]at h4 ⊢
  exact⟨h1.rl,hr.w.i,hr.w.t0,by have:=hr.w.t1;omega,by omega,h4⟩
 ·unfold eP kK
  repeat' split
  ·exact(Uf hn (by omega) s).2.mono (by omega)
  ·rename_i hl;exact(xO hn (by omega) (hpk hl)).2.mono (by omega)
  ·exact hn.mono (by omega)
  ·exact(Jz hn _).mono (by omega)
  ·exact hn.mono (by omega)
  ·rename_i hl;exact(YA hn (hpk hl.1) hl.2).mono (by omega)
  ·exact hn.mono (by omega)
  ·exact(aec hn ha).mono (by omega)
  ·exact(agb hn s (by omega)).mono (by omega)
  ·exact(zh hn (by omega) ha (v:=mN w s) BT).2.2.2.2.mono (by omega)
  ·exact(uG hn (by omega) 4 (au _)).1.mono (by omega)
  ·exact hn.mono (by omega)
end
def xS (s:List Int×List L3) (o:Op):List Int×List L3:=(fj s.1 o.kd o.bk o.b,mA s.2 o)
def dd (l:List Op):List Int×List L3:=l.foldl xS (jD,[])
theorem Ds (l:List Op) (o:Op):dd (l++[o])=xS (dd l) o:=by unfold dd;rw[List.foldl_append];rfl
structure Gh where
 act:Int->Prop
 ba:Int->Nat
 pe:Int->Int
 lg:Int->List Op
 rc:Int->Int->Nat
def Vv:Vw:=⟨0,0,0,[],[]⟩
def og (vs:List Vw) (e:Int):Vw:=vs.getD (e - 1).toNat Vv
def iF (vs:List Vw) (e:Int):Int:=dJ (og vs e)
structure GI (vs:List Vw) (G:Gh):Prop where
 a0:∀ e,G.act e->1<=e/\e<=vs.length
 nl:∀ e,¬ G.act e->G.lg e=[]
 nr:∀ x e,¬ G.act e->G.rc x e=0
 bl:∀ e,G.act e->G.ba e<=(G.lg e).length
 p0:∀ e,G.act e->0<=G.pe e/\G.pe e<e
 p1:∀ e,G.act e->G.pe e=0->G.ba e=0
 p2:∀ e,G.act e->1<=G.pe e->G.act (G.pe e)/\G.ba (G.pe e)<=G.ba e/\G.ba e<=(G.lg (G.pe e)).length/\(G.lg e).take (G.ba e)=(G.lg (G.pe e)).take (G.ba e)
 p3:∀ e,G.act e->G.rc (iF vs e) (G.pe e)=G.ba e
 p4:∀ e,G.act e->∀ e',G.pe e<e'->e'<e->G.rc (iF vs e) e'=0
 rl:∀ x e,G.rc x e<=(G.lg e).length
 ld:∀ e,G.act e->G.rc (iF vs e) e=(G.lg e).length
structure VI (vs:List Vw) (G:Gh):Prop where
 ve:∀(i:Nat) (v:Vw),vs[i]? =some v->v.ve=(i:Int)+1/\v.vi=5
 m0:∀ v∈vs,v.mem≠[]
 nd:∀ v∈vs,(v.mem++v.aC).Nodup
 nx:∀(i:Nat) (v v':Vw),vs[i]? =some v->vs[i+1]? =some v'->∀ x∈v'.mem,x∈v.mem∨(x∈v.aC/\G.act v.ve/\G.ba v.ve<=G.rc x v.ve)
structure jY (vs:List Vw) (G:Gh) (k:Int) (R:θ) (L:bX):Prop where
 v:R.v∈vs
 ep:R.ep=R.v.ve
 hd:iF vs R.ep=k
 ins:∀ x∈aQ R,L.ins x=true->R.nu<=(G.rc x R.ep:Int)+(if L.cur.isSome then 1 else 0)
 cy:∀ x,L.cy x=true->R.nu<=(G.rc x R.ep:Int)
 cur:∀ o,L.cur=some o->(G.ba R.ep:Int)<R.nu/\(G.lg R.ep)[R.nu.toNat - 1]? =some o
structure RI (vs:List Vw) (G:Gh) (k:Int) (R:θ):Prop where
 me:R.me=k
 id:R.id=5
 bl:R.bl=false
 lo:R.lo=false
 e0:0<=R.ep
 n0:0<=R.nu
 ac:R.ep≠0->G.act R.ep/\(G.ba R.ep:Int)<=R.nu
 nl:R.nu<=((G.lg R.ep).length:Int)
 st:(R.c,R.t)=dd ((G.lg R.ep).take R.nu.toNat)
 rc:(G.rc k R.ep:Int)=R.nu
 rz:∀ e,R.ep<e->G.rc k e=0
 al:∀ e,G.act e->iF vs e=k->e<=R.ep
 v:R.v=Vv∨R.v∈vs
 l:∀ L,R.ld=some L->jY vs G k R L
inductive iC (vs:List Vw) (G:Gh) (fr:Int):dI->Prop
 |sync (e:Int) (n:Nat):G.act e->fr=iF vs e->G.ba e<=n->n<=(G.lg e).length->fa (dd ((G.lg e).take n)).2->(dd ((G.lg e).take n)).1.length=128->iC vs G fr ⟨10,[5,e,(n:Int)],bZ (dd ((G.lg e).take n)).1,[be (dd ((G.lg e).take n)).2]⟩
 |ok (kd e:Int) (n:Nat):(kd=11∨kd=13∨kd=14)->n<=G.rc fr e->iC vs G fr ⟨kd,[5,e,(n:Int)],[],[]⟩
 |op (e:Int) (n:Nat) (o:Op) (s:Int):G.act e->fr=iF vs e->G.ba e<n->(G.lg e)[n - 1]? =some o->iC vs G fr ⟨12,[5,e,(n:Int),o.cl,o.nm,o.kd,o.bk,s],o.b,[]⟩
structure Cm (vs:List Vw) (G:Gh) (e:Int) (n:Nat):Prop where
 a:G.act e
 n1:1<=n
 nl:n<=(G.lg e).length
 al:∀ x∈(og vs e).mem++(og vs e).aC,n<=G.rc x e
structure u_ (vs:List Vw) (G:Gh) (d:Dn):Prop where
 h:d.e=0->∃ e n,Cm vs G e n/\d.o∈(G.lg e).take n/\(d.o.kd=3->(G.lg e)[n - 1]? =some d.o/\d.x=mK (dd ((G.lg e).take n)).1 d.o)
structure Ex (vs:List Vw) (k:Int) (G G':Gh):Prop where
 act:∀ e,G.act e->G'.act e
 ba:∀ e,G.act e->G'.ba e=G.ba e
 lg:∀ e,G.lg e<+:G'.lg e
 lk:∀ e,iF vs e≠k->G'.lg e=G.lg e
 ak:∀ e,G'.act e->¬ G.act e->iF vs e=k
 rc:∀ x e,G.rc x e<=G'.rc x e
 rk:∀ x e,x≠k->G'.rc x e=G.rc x e
theorem Ex.refl (vs:List Vw) (k:Int) (G:Gh):Ex vs k G G:=⟨fun _ h=>h,fun _ _=>rfl,fun _=>List.prefix_rfl,fun _ _=>rfl,fun _ h n=>absurd h n,fun _ _=>au _,fun _ _ _=>rfl⟩
theorem qw {l l':List Op} (h:l<+:l') {n:Nat} (hn:n<=l.length):l'.take n=l.take n:=by
 obtain⟨t,rfl⟩:=h;rw[List.take_append_of_le_length hn]
theorem wg {l l':List Op} (h:l<+:l') {n:Nat} {o:Op} (hn:l[n]? =some o):l'[n]? =some o:=by
 obtain⟨t,rfl⟩:=h;rw[dX (bO.1 hn).1];exact hn
theorem wh {l l':List Op} (h:l<+:l'):l.length<=l'.length:=h.length_le
theorem G8 {l:List Op} {n:Nat} {o:Op} (hn:l[n]? =some o):n<l.length:=(bO.1 hn).1
theorem jY.mono {vs:List Vw} {k j:Int} {G G':Gh} {R:θ} {L:bX} (h:jY vs G j R L) (ha:G.act R.ep) (hx:Ex vs k G G'):jY vs G' j R L:=
 ⟨h.v,h.ep,h.hd,fun x ho hx'=>Int.le_trans (h.ins x ho hx') (Int.add_le_add_right (Int.ofNat_le.2 (hx.rc x R.ep)) _),fun x hx'=>by have:=h.cy x hx';have:=hx.rc x R.ep;omega,fun o ho=>⟨by rw[hx.ba _ ha];exact(h.cur o ho).1,wg (hx.lg _) (h.cur o ho).2⟩⟩
theorem jY.act {vs:List Vw} {k:Int} {G:Gh} {R:θ} {L:bX} (hV:VI vs G) (h:jY vs G k R L):1<=R.ep:=by
 obtain⟨i,hi⟩:=lC h.v
 have:=(hV.ve i _ hi).1
 rw[h.ep];omega
theorem RI.mono {vs:List Vw} {k j:Int} {G G':Gh} {R:θ} (hV:VI vs G) (h:RI vs G j R) (hx:Ex vs k G G') (hj:j≠k):RI vs G' j R:=by
 have hnl:=h.nl
 have hn0:=h.n0
 refine⟨h.me,h.id,h.bl,h.lo,h.e0,h.n0,fun he=>⟨hx.act _ (h.ac he).1,by rw[hx.ba _ (h.ac he).1];exact(h.ac he).2⟩,?_,?_,by rw[hx.rk _ _ hj];exact h.rc,fun e he=>by rw[hx.rk _ _ hj];exact h.rz e he,fun e he hl=>?_,h.v,fun L hL=>?_⟩
 ·have:=wh (hx.lg R.ep);omega
 ·rw[qw (hx.lg R.ep) (by omega)];exact h.st
 ·exact Classical.byCases (fun ha:G.act e=>h.al e ha hl) (fun ha=>absurd (hl.symm.trans (hx.ak e he ha)) hj)
 ·have:=(h.l L hL).act hV
  exact(h.l L hL).mono (h.ac (by omega)).1 hx
theorem iC.mono {vs:List Vw} {k fr:Int} {G G':Gh} {m:dI} (h:iC vs G fr m) (hx:Ex vs k G G'):iC vs G' fr m:=by
 cases h with
 |sync e n a f b l x c=>
  have e1:=qw (hx.lg e) l
  have:=wh (hx.lg e)
  rw[<- e1]
  exact .sync e n (hx.act e a) f (by rw[hx.ba e a];exact b) (by omega) (by rw[e1];exact x) (by rw[e1];exact c)
 |ok kd e n hk hn=>exact .ok kd e n hk (Nat.le_trans hn (hx.rc _ _))
 |op e n o s a f b g=>exact .op e n o s (hx.act e a) f (by rw[hx.ba e a];exact b) (wg (hx.lg e) g)
theorem Cm.mono {vs:List Vw} {k:Int} {G G':Gh} {e:Int} {n:Nat} (h:Cm vs G e n) (hx:Ex vs k G G'):Cm vs G' e n:=
 ⟨hx.act e h.a,h.n1,Nat.le_trans h.nl (wh (hx.lg e)),fun x hx'=>Nat.le_trans (h.al x hx') (hx.rc x e)⟩
theorem VI.mono {vs:List Vw} {k:Int} {G G':Gh} (h:VI vs G) (hx:Ex vs k G G'):VI vs G':=
 ⟨h.ve,h.m0,h.nd,fun i v v' h1 h2 x hx'=>(h.nx i v v' h1 h2 x hx').imp id (fun⟨a,b,c⟩=>⟨a,hx.act _ b,by rw[hx.ba _ b];exact Nat.le_trans c (hx.rc _ _)⟩)⟩
theorem ah3 {vs:List Vw} {e:Int} (h1:1<=e) (h2:e<=vs.length):vs[(e - 1).toNat]? =some (og vs e):=by
 unfold og
 rw[iY,bz (by omega)];rfl
theorem ah4 {vs:List Vw} {G:Gh} (hV:VI vs G) {e:Int} (h1:1<=e) (h2:e<=vs.length):(og vs e).ve=e:=by
 have:=(hV.ve _ _ (ah3 h1 h2)).1
 omega
theorem uL {vs:List Vw} {G:Gh} (hV:VI vs G) {v:Vw} (hv:v∈vs):og vs v.ve=v/\1<=v.ve/\v.ve<=vs.length:=by
 obtain⟨i,hi⟩:=lC hv
 have h1:=(hV.ve i _ hi).1
 have h2:=(bO.1 hi).1
 refine⟨?_,by omega,by omega⟩
 unfold og
 rw[iY,show(v.ve - 1).toNat=i by omega,hi];rfl
theorem HC {v:Vw} (h:v.mem≠[]):dJ v∈v.mem:=by
 unfold dJ
 cases hm:v.mem with
 |nil=>exact absurd hm h
 |cons a r=>exact iB
def Gh.pV (G:Gh) (k E:Int) (n:Nat):Gh:={G with rc:=fun x e=>if e=E/\x=k then n else G.rc x e }
def Gh.add (G:Gh) (k E:Int) (o:Op):Gh:={G with lg:=fun e=>if e=E then G.lg E++[o]else G.lg e,rc:=fun x e=>if e=E/\x=k then(G.lg E).length+1 else G.rc x e }
def Gh.kY (G:Gh) (k E p:Int) (n:Nat):Gh:=
 ⟨fun e=>e=E∨G.act e,fun e=>if e=E then n else G.ba e,fun e=>if e=E then p else G.pe e,fun e=>if e=E then(G.lg p).take n else G.lg e,fun x e=>if e=E/\x=k then n else G.rc x e⟩
theorem AL (G:Gh) (k E:Int) (n:Nat):(G.pV k E n).rc k E=n:=if_pos ⟨rfl,rfl⟩
theorem qS (G:Gh) {k E x e:Int} (n:Nat) (h:¬ (e=E/\x=k)):(G.pV k E n).rc x e=G.rc x e:=if_neg h
theorem AK (G:Gh) (k E:Int) (o:Op):(G.add k E o).rc k E=(G.lg E).length+1:=if_pos ⟨rfl,rfl⟩
theorem su (G:Gh) {k E x e:Int} (o:Op) (h:¬ (e=E/\x=k)):(G.add k E o).rc x e=G.rc x e:=if_neg h
theorem tI (G:Gh) (k E:Int) (o:Op):(G.add k E o).lg E=G.lg E++[o]:=if_pos rfl
theorem xu (G:Gh) {k E e:Int} (o:Op) (h:e≠E):(G.add k E o).lg e=G.lg e:=if_neg h
section
variable {vs:List Vw} {G:Gh} {k:Int} {R:θ}
theorem MN (hG:GI vs G) (h:RI vs G k R) {E:Int} {n:Nat} (ha:G.act E) (hk:iF vs E≠k) (he:R.ep<=E) (h1:G.rc k E<=n) (h2:n<=(G.lg E).length):GI vs (G.pV k E n)/\Ex vs k G (G.pV k E n):=by
 have nk:∀ e e',G.act e->e'<e->¬ (e'=E/\iF vs e=k):=fun e e' a1 a2 ⟨a3,a4⟩=>by
  have:=h.al e a1 a4;omega
 refine⟨⟨hG.a0,hG.nl,fun x e hn=>?_,hG.bl,hG.p0,hG.p1,hG.p2,fun e a=>?_,fun e a e' q1 q2=>?_,fun x e=>?_,fun e a=>?_⟩,⟨fun _ h=>h,fun _ _=>rfl,fun _=>List.prefix_rfl,fun _ _=>rfl,fun _ a n=>absurd a n,fun x e=>?_,fun x e hx=>qS G n (fun t=>hx t.2)⟩⟩
 ·rw[qS G n (fun t=>hn (by rw[t.1];exact ha))];exact hG.nr x e hn
 ·have:=(hG.p0 e a).2
  exact(qS G n (nk e _ a this)).trans (hG.p3 e a)
 ·exact(qS G n (nk e e' a q2)).trans (hG.p4 e a e' q1 q2)
 ·by_cases c:e=E/\x=k
  ·obtain⟨rfl,rfl⟩:=c;rw[AL];exact h2
  ·rw[qS G n c];exact hG.rl x e
 ·by_cases c:e=E/\iF vs e=k
  ·exact absurd (by rw[<- c.1];exact c.2) hk
  ·exact(qS G n c).trans (hG.ld e a)
 ·by_cases c:e=E/\x=k
  ·obtain⟨rfl,rfl⟩:=c;rw[AL];exact h1
  ·rw[qS G n c];exact au _
theorem W7 (hG:GI vs G) (h:RI vs G k R) (o:Op) (ha:G.act R.ep) (hk:iF vs R.ep=k):GI vs (G.add k R.ep o)/\Ex vs k G (G.add k R.ep o):=by
 have nk:∀ e e',G.act e->e'<e->¬ (e'=R.ep/\iF vs e=k):=fun e e' a1 a2 ⟨a3,a4⟩=>by
  have:=h.al e a1 a4;omega
 have pre:∀ e,G.lg e<+:(G.add k R.ep o).lg e:=fun e=>by
  by_cases c:e=R.ep
  ·subst c;rw[tI];exact List.prefix_append _ _
  ·rw[xu G o c];exact List.prefix_rfl
 refine⟨⟨hG.a0,fun e hn=>?_,fun x e hn=>?_,fun e a=>Nat.le_trans (hG.bl e a) (wh (pre e)),hG.p0,hG.p1,fun e a q=>?_,fun e a=>?_,fun e a e' q1 q2=>?_,fun x e=>?_,fun e a=>?_⟩,⟨fun _ h=>h,fun _ _=>rfl,pre,fun e he=>xu G o (fun t=>he (by rw[t];exact hk)),fun _ a n=>absurd a n,fun x e=>?_,fun x e hx=>su G o (fun t=>hx t.2)⟩⟩
 ·rw[xu G o (fun t=>hn (by rw[t];exact ha))];exact hG.nl e hn
 ·rw[su G o (fun t=>hn (by rw[t.1];exact ha))];exact hG.nr x e hn
 ·obtain⟨b1,b2,b3,b4⟩:=hG.p2 e a q
  exact⟨b1,b2,Nat.le_trans b3 (wh (pre _)),by show((G.add k R.ep o).lg e).take (G.ba e)=((G.add k R.ep o).lg (G.pe e)).take (G.ba e);rw[qw (pre e) (hG.bl e a),qw (pre (G.pe e)) b3];exact b4⟩
 ·have:=(hG.p0 e a).2
  exact(su G o (nk e _ a this)).trans (hG.p3 e a)
 ·exact(su G o (nk e e' a q2)).trans (hG.p4 e a e' q1 q2)
 ·by_cases c:e=R.ep/\x=k
  ·obtain⟨rfl,rfl⟩:=c;rw[AK,tI,bo];exact au _
  ·rw[su G o c];exact Nat.le_trans (hG.rl x e) (wh (pre e))
 ·by_cases c:e=R.ep
  ·subst c;rw[hk,AK,tI,bo];rfl
  ·rw[su G o (fun t=>c t.1),xu G o c];exact hG.ld e a
 ·by_cases c:e=R.ep/\x=k
  ·obtain⟨rfl,rfl⟩:=c;rw[AK];exact Nat.le_trans (hG.rl _ _) (Nat.le_succ _)
  ·rw[su G o c];exact au _
theorem Xs (hG:GI vs G) (h:RI vs G k R) {E:Int} (hk:iF vs E=k) (he:R.ep<E) (hE:E<=vs.length):GI vs (G.kY k E R.ep R.nu.toNat)/\Ex vs k G (G.kY k E R.ep R.nu.toNat):=by
 have e0:=h.e0
 have n0:=h.n0
 have nl:=h.nl
 have na:¬ G.act E:=fun a=>by have:=h.al E a hk;omega
 have rJ:∀ e,e≠E->(G.kY k E R.ep R.nu.toNat).lg e=G.lg e:=fun e c=>if_neg c
 have sW:(G.kY k E R.ep R.nu.toNat).lg E=(G.lg R.ep).take R.nu.toNat:=if_pos rfl
 have tM:∀ e,e≠E->(G.kY k E R.ep R.nu.toNat).ba e=G.ba e:=fun e c=>if_neg c
 have vn:(G.kY k E R.ep R.nu.toNat).ba E=R.nu.toNat:=if_pos rfl
 have yO:∀ e,e≠E->(G.kY k E R.ep R.nu.toNat).pe e=G.pe e:=fun e c=>if_neg c
 have yN:(G.kY k E R.ep R.nu.toNat).pe E=R.ep:=if_pos rfl
 have nW:∀ x e,¬ (e=E/\x=k)->(G.kY k E R.ep R.nu.toNat).rc x e=G.rc x e:=fun x e c=>if_neg c
 have CY:(G.kY k E R.ep R.nu.toNat).rc k E=R.nu.toNat:=if_pos ⟨rfl,rfl⟩
 have hlen:((G.lg R.ep).take R.nu.toNat).length=R.nu.toNat:=by rw[dc];omega
 have hrc:=h.rc
 have tH:∀ e,(G.kY k E R.ep R.nu.toNat).act e->e≠E->G.act e:=fun e a c=>a.resolve_left c
 refine⟨⟨fun e a=>?_,fun e hn=>?_,fun x e hn=>?_,fun e a=>?_,fun e a=>?_,fun e a q=>?_,fun e a q=>?_,fun e a=>?_,fun e a e' q1 q2=>?_,fun x e=>?_,fun e a=>?_⟩,⟨fun _ h=> .inr h,fun e a=>tM e (fun t=>na (by rw[<- t];exact a)),fun e=>?_,fun e c=>rJ e (fun t=>c (by rw[t];exact hk)),fun e a n=>?_,fun x e=>?_,fun x e hx=>nW x e (fun t=>hx t.2)⟩⟩
 ·rcases a with rfl | a
  ·omega
  ·exact hG.a0 e a
 ·rw[rJ e (fun t=>hn (.inl t))];exact hG.nl e (fun a=>hn (.inr a))
 ·rw[nW x e (fun t=>hn (.inl t.1))];exact hG.nr x e (fun a=>hn (.inr a))
 ·by_cases c:e=E
  ·subst c;rw[vn,sW,hlen];exact au _
  ·rw[tM e c,rJ e c];exact hG.bl e (tH e a c)
 ·by_cases c:e=E
  ·subst c;rw[yN];exact⟨e0,he⟩
  ·rw[yO e c];exact hG.p0 e (tH e a c)
 ·by_cases c:e=E
  ·subst c;rw[yN]at q;rw[vn]
   have:=hG.nr k R.ep (fun a=>by have:=(hG.a0 _ a).1;omega)
   omega
  ·rw[yO e c]at q;rw[tM e c];exact hG.p1 e (tH e a c) q
 ·by_cases c:e=E
  ·subst c;rw[yN]at q ⊢;rw[vn,sW,tM _ (by omega),rJ _ (by omega)]
   have:=h.ac (by omega)
   exact⟨.inr this.1,by omega,by omega,by rw[List.take_take,Nat.min_self]⟩
  ·rw[yO e c]at q ⊢
   obtain⟨b1,b2,b3,b4⟩:=hG.p2 e (tH e a c) q
   have c2:G.pe e≠E:=fun t=>na (by rw[<- t];exact b1)
   rw[tM e c,rJ e c,tM _ c2,rJ _ c2]
   exact⟨.inr b1,b2,b3,b4⟩
 ·by_cases c:e=E
  ·subst c;rw[yN,vn,hk,nW _ _ (fun t=>by have:=t.1;omega)];omega
  ·have a2:=tH e a c
   have c2:G.pe e≠E:=fun t=>by
    have h0:=hG.p0 e a2
    exact na (by rw[<- t];exact(hG.p2 e a2 (by omega)).1)
   rw[yO e c,tM e c,nW _ _ (fun t=>c2 t.1)];exact hG.p3 e a2
 ·by_cases c:e=E
  ·subst c;rw[yN]at q1;rw[hk,nW _ _ (fun t=>by have:=t.1;omega)];exact h.rz e' q1
  ·have a2:=tH e a c
   rw[yO e c]at q1
   rw[nW _ _ (fun t=>by have h1:=h.al e a2 t.2;have:=t.1;omega)];exact hG.p4 e a2 e' q1 q2
 ·by_cases c:e=E/\x=k
  ·obtain⟨rfl,rfl⟩:=c;rw[CY,sW,hlen];exact au _
  ·rw[nW x e c]
   by_cases c2:e=E
   ·subst c2;rw[hG.nr x e na];exact bt _
   ·rw[rJ e c2];exact hG.rl x e
 ·by_cases c:e=E
  ·subst c;rw[hk,CY,sW,hlen]
  ·rw[nW _ _ (fun t=>c t.1),rJ e c];exact hG.ld e (tH e a c)
 ·by_cases c:e=E
  ·subst c;rw[hG.nl e na];exact List.nil_prefix
  ·rw[rJ e c];exact List.prefix_rfl
 ·rcases a with rfl | a
  ·exact hk
  ·exact absurd a n
 ·by_cases c:e=E/\x=k
  ·obtain⟨rfl,rfl⟩:=c;rw[hG.nr x e na];exact bt _
  ·rw[nW x e c];exact au _
end
structure fv (vs:List Vw) (G:Gh) (k:Int) (R:θ):Prop where
 ri:RI vs G k R
 out:∀ p∈R.out,iC vs G k p.m
 dn:∀ d∈R.done,u_ vs G d
structure oA (vs:List Vw) (G:Gh) (k:Int) (R':θ):Prop where
 h:∃ G',GI vs G'/\Ex vs k G G'/\fv vs G' k R'/\∀ e,∃ e',G'.lg e<+:G.lg e'
section
variable {vs:List Vw} {G:Gh} {k:Int} {R:θ}
theorem fv.jB (hG:GI vs G) (h:fv vs G k R):oA vs G k R:=⟨G,hG,Ex.refl _ _ _,h,fun e=>⟨e,List.prefix_rfl⟩⟩
structure Ev (R R':θ):Prop where
 me:R'.me=R.me
 id:R'.id=R.id
 bl:R'.bl=R.bl
 lo:R'.lo=R.lo
 ep:R'.ep=R.ep
 nu:R'.nu=R.nu
 c:R'.c=R.c
 t:R'.t=R.t
 v:R'.v=R.v
theorem RI.cg {R':θ} (h:RI vs G k R) (e:Ev R R') (hl:∀ L,R'.ld=some L->jY vs G k R' L):RI vs G k R':=by
 obtain⟨e1,e2,e3,e4,e5,e6,e7,e8,e9⟩:=e
 exact⟨e1.trans h.me,e2.trans h.id,e3.trans h.bl,e4.trans h.lo,by rw[e5];exact h.e0,by rw[e6];exact h.n0,by rw[e5,e6];exact h.ac,by rw[e5,e6];exact h.nl,by rw[e5,e6,e7,e8];exact h.st,by rw[e5,e6];exact h.rc,by rw[e5];exact h.rz,by rw[e5];exact h.al,by rw[e9];exact h.v,hl⟩
theorem jY.cg {R':θ} {L:bX} (h:jY vs G k R L) (e:Ev R R'):jY vs G k R' L:=by
 obtain⟨e1,e2,e3,e4,e5,e6,e7,e8,e9⟩:=e
 have eo:aQ R'=aQ R:=by unfold aQ;rw[e1,e9]
 exact⟨by rw[e9];exact h.v,by rw[e5,e9];exact h.ep,by rw[e5];exact h.hd,by rw[eo,e5,e6];exact h.ins,by rw[e5,e6];exact h.cy,by rw[e5,e6];exact h.cur⟩
theorem RI.out {R':θ} (h:RI vs G k R) (e:Ev R R') (hl:R'.ld=R.ld):RI vs G k R':=h.cg e fun L hL=>(h.l L (hl ▸ hL)).cg e
theorem qu {α:Type} {x:α} {P:Prop} (h:none=some x):P:=by cases h
theorem DY (h:fv vs G k R):fv vs G k (gn R):=
 ⟨h.ri.cg ⟨rfl,rfl,rfl,rfl,rfl,rfl,rfl,rfl,rfl⟩ fun L hL=>qu hL,h.out,fun d hd=>by
  have hd:d∈R.done++(match b_ R with | some o=>[⟨o,19,[]⟩] | none=>[]):=hd
  rcases dQ.1 hd with hd | hd
  ·exact h.dn d hd
  ·split at hd
   ·rw[dm]at hd;subst hd
    exact⟨fun e=>by cases e⟩
   ·cases hd⟩
theorem fv.send (h:fv vs G k R) {to kd:Int} {n b:List Int} {l:List (List Int)} (hm:iC vs G k ⟨kd,R.id::R.ep::n,b,l⟩):fv vs G k (il R to kd n b l):=
 ⟨h.ri.out ⟨rfl,rfl,rfl,rfl,rfl,rfl,rfl,rfl,rfl⟩ rfl,fun p hp=>by
  have hp:p∈R.out++[⟨to,⟨kd,R.id::R.ep::n,b,l⟩⟩]:=hp
  rcases dQ.1 hp with hp | hp
  ·exact h.out p hp
  ·rw[dm]at hp;subst hp;exact hm,h.dn⟩
theorem RI.qv (h:RI vs G k R):((R.nu.toNat:Nat):Int)=R.nu:=Int.toNat_of_nonneg h.n0
theorem RI.nW (h:RI vs G k R):G.rc k R.ep=R.nu.toNat:=by have:=h.rc;have:=h.qv;omega
theorem UG (h:RI vs G k R) (ha:R.ep≠0) (hk:iF vs R.ep=k) (htx:fa R.t) (hcl:R.c.length=128):iC vs G k ⟨10,[R.id,R.ep,R.nu],bZ R.c,[be R.t]⟩:=by
 have e1:R.c=(dd ((G.lg R.ep).take R.nu.toNat)).1:=congrArg Prod.fst h.st
 have e2:R.t=(dd ((G.lg R.ep).take R.nu.toNat)).2:=congrArg Prod.snd h.st
 have h1:=(h.ac ha).2
 have h2:=h.nl
 have h3:=h.n0
 have:=iC.sync (vs:=vs) (G:=G) (fr:=k) R.ep R.nu.toNat (h.ac ha).1 hk.symm (by omega) (by omega) (by rw[<- e2];exact htx) (by rw[<- e1];exact hcl)
 rw[<- e1,<- e2,h.qv]at this
 rw[h.id];exact this
theorem AJ (h:RI vs G k R) {kd:Int} (hk:kd=11∨kd=13∨kd=14):iC vs G k ⟨kd,[R.id,R.ep,R.nu],[],[]⟩:=by
 have:=iC.ok (vs:=vs) (G:=G) (fr:=k) kd R.ep R.nu.toNat hk (by rw[h.nW];exact au _)
 rw[h.qv]at this
 rw[h.id];exact this
theorem Rp (h:fv vs G k R) (to:Int):fv vs G k (nT R to):=h.send (AJ h.ri (by omega))
theorem Pm (h:RI vs G k R) {L:bX} {o:Op} (hl:jY vs G k R L) (hc:L.cur=some o) (hV:VI vs G) (s:Int):iC vs G k ⟨12,[R.id,R.ep,R.nu,o.cl,o.nm,o.kd,o.bk,s],o.b,[]⟩:=by
 obtain⟨c1,c2⟩:=hl.cur o hc
 have:=hl.act hV
 have:=iC.op (vs:=vs) (G:=G) (fr:=k) R.ep R.nu.toNat o s (h.ac (by omega)).1 hl.hd.symm (by omega) c2
 rw[h.qv]at this
 rw[h.id];exact this
theorem uq {x:Int}:x∈aQ R ↔ x∈R.v.mem++R.v.aC/\x≠R.me:=by
 unfold aQ bx jb
 rw[lZ]
 simp
theorem QM (hV:VI vs G) (h:RI vs G k R) {L:bX} (hl:jY vs G k R L) (h1:1<=R.nu) (ha:∀ x∈aQ R,R.nu<=(G.rc x R.ep:Int)):Cm vs G R.ep R.nu.toNat:=by
 have e1:=hl.act hV
 have hnl:=h.nl
 refine⟨(h.ac (by omega)).1,by omega,by omega,fun x hx=>?_⟩
 have hv:=(uL hV hl.v).1
 rw[hl.ep,hv]at hx
 by_cases e:x=k
 ·subst e;rw[h.nW];exact au _
 ·have:=ha x (uq.2 ⟨hx,by rw[h.me];exact e⟩)
  omega
theorem Zj {l:List Op} {n:Nat} {o:Op} (h1:1<=n) (h:l[n - 1]? =some o):o∈l.take n:=by
 refine gG (i:=n - 1) ?_
 rw[ji (by omega)];exact h
theorem GO (hV:VI vs G) (h:fv vs G k R):fv vs G k (fb R):=by
 unfold fb
 split
 ·rename_i L hL
  split
  ·rename_i o ho
   split
   ·rename_i hall
    have hl:=h.ri.l L hL
    obtain⟨c1,c2⟩:=hl.cur o ho
    have Pj:∀ x∈aQ R,R.nu<=(G.rc x R.ep:Int):=fun x hx=>hl.cy x (List.all_eq_true.1 hall x hx)
    have hn:=h.ri.qv
    have pu:=QM hV h.ri hl (by omega) Pj
    refine⟨h.ri.cg ⟨rfl,rfl,rfl,rfl,rfl,rfl,rfl,rfl,rfl⟩ fun L' hL'=>?_,h.out,fun d hd=>?_⟩
    ·have e:L'={L with cur:=none }:=(bc.inj hL').symm
     subst e
     exact⟨hl.v,hl.ep,hl.hd,fun x hx _=>by have:=Pj x hx;show R.nu<=(G.rc x R.ep:Int)+0;omega,hl.cy,fun o ho=>qu ho⟩
    ·have hd:d∈R.done++[⟨o,0,mK R.c o⟩]:=hd
     rcases dQ.1 hd with hd | hd
     ·exact h.dn d hd
     ·rw[dm]at hd;subst hd
      refine⟨fun _=>⟨R.ep,R.nu.toNat,pu,Zj pu.n1 c2,fun _=>⟨c2,?_⟩⟩⟩
      show mK R.c o=_
      rw[<- congrArg Prod.fst h.ri.st]
   ·exact h
  ·exact h
 ·exact h
theorem Co {f:Int->Bool} {k x:Int} (h:mark f k true x=true):x=k∨f x=true:=by
 unfold mark at h;split at h
 ·exact .inl ‹_›
 ·exact .inr h
theorem Q4 {f:Int->Bool} {k x:Int} (h:mark f k false x=true):f x=true:=by
 unfold mark at h;split at h
 ·cases h
 ·exact h
theorem Di (h:fv vs G k R) {L':bX} (hl:jY vs G k R L'):fv vs G k {R with ld:=some L' }:=
 ⟨h.ri.cg ⟨rfl,rfl,rfl,rfl,rfl,rfl,rfl,rfl,rfl⟩ fun L'' e=>(bc.inj e) ▸ hl.cg ⟨rfl,rfl,rfl,rfl,rfl,rfl,rfl,rfl,rfl⟩,h.out,h.dn⟩
theorem OM {w:Vw} (h:dZ R w=true):dJ w=R.me:=by
 unfold dZ at h
 split at h
 ·rename_i a r hm
  unfold dJ;rw[hm]
  simpa using h
 ·cases h
theorem ah0 (hG:GI vs G) (hV:VI vs G) (h:fv vs G k R) (hi:bu R) {w:Vw} (hw:w∈vs):oA vs G k (dT R w):=by
 obtain⟨w1,w2,w3⟩:=uL hV hw
 cases hg:dL R w with
 |false=>rw[uK hg];exact h.jB hG
 |true=>
  have hge:R.ep<=w.ve:=by
   unfold dL at hg
   rw[iW,decide_eq_true_eq]at hg
   exact hg.1.2.2.1
  cases hl:fe R w with
  |false=>
   rw[wJ hg hl]
   have hy:=DY h
   exact fv.jB hG ⟨⟨hy.ri.me,hy.ri.id,hy.ri.bl,hy.ri.lo,hy.ri.e0,hy.ri.n0,hy.ri.ac,hy.ri.nl,hy.ri.st,hy.ri.rc,hy.ri.rz,hy.ri.al,.inr hw,fun L hL=>qu hL⟩,hy.out,hy.dn⟩
  |true=>
   have hf:dZ R w=true:=by
    unfold fe at hl
    rw[iW,iW]at hl
    exact hl.1.1
   have hk:iF vs w.ve=k:=by
    unfold iF;rw[w1,OM hf];exact h.ri.me
   rw[wK hg hl]
   have hy:=DY h
   have hiL:bu (jk R w)∨True:=.inr trivial
   have fin:∀ G',VI vs G'->Ex vs k G G'->RI vs G' k (jk R w)->fv vs G' k {jk R w with out:=R.out++(bx R.me w.mem w.aC).map (jh (jk R w)) }:=fun G' Hh hx hr=>by
    refine⟨hr.out ⟨rfl,rfl,rfl,rfl,rfl,rfl,rfl,rfl,rfl⟩ rfl,fun p hp=>?_,fun d hd=>?_⟩
    ·have hp:p∈R.out++(bx R.me w.mem w.aC).map (jh (jk R w)):=hp
     rcases dQ.1 hp with hp | hp
     ·exact(h.out p hp).mono hx
     ·obtain⟨x,_,rfl⟩:=ef.1 hp
      have e1:(jk R w).c=(dd ((G'.lg w.ve).take R.nu.toNat)).1:=congrArg Prod.fst hr.st
      have e2:(jk R w).t=(dd ((G'.lg w.ve).take R.nu.toNat)).2:=congrArg Prod.snd hr.st
      have a1:=hr.ac (show w.ve≠0 by omega)
      have a2:=hr.nl
      have a3:=hr.n0
      have a4:((R.nu.toNat:Nat):Int)=R.nu:=h.ri.qv
      have a5:(G'.ba w.ve:Int)<=R.nu:=a1.2
      have a6:R.nu<=((G'.lg w.ve).length:Int):=a2
      have:=iC.sync (vs:=vs) (G:=G') (fr:=k) w.ve R.nu.toNat a1.1 hk.symm (by omega) (by omega) (by rw[<- e2];exact hi.tx) (by rw[<- e1];exact hi.ok.cl)
      rw[<- e1,<- e2,a4,<- h.ri.id]at this
      exact this
    ·obtain⟨q⟩:=hy.dn d hd
     exact⟨fun e=>by obtain⟨e',n,c1,c2,c3⟩:=q e;exact⟨e',n,c1.mono hx,by rw[qw (hx.lg e') c1.nl];exact c2,fun t=>⟨wg (hx.lg e') (c3 t).1,by rw[qw (hx.lg e') c1.nl];exact(c3 t).2⟩⟩⟩
   have lead:∀ G':Gh,jY vs G' k (jk R w) ⟨fun _=>false,fun _=>false,none⟩:=fun G'=>⟨hw,rfl,hk,fun x _ hx=>(by cases hx),fun x hx=>(by cases hx),fun o ho=>qu ho⟩
   rcases(by omega:R.ep=w.ve∨R.ep<w.ve)with he | he
   ·refine⟨G,hG,Ex.refl _ _ _,fin G hV (Ex.refl _ _ _) ?_,fun e=>⟨e,List.prefix_rfl⟩⟩
    have hr:=h.ri
    exact⟨hr.me,hr.id,hr.bl,hr.lo,by show 0<=w.ve;omega,hr.n0,fun _=>by show G.act w.ve/\(G.ba w.ve:Int)<=R.nu;rw[<- he];exact hr.ac (by omega),by show R.nu<=((G.lg w.ve).length:Int);rw[<- he];exact hr.nl,by show(R.c,R.t)=dd ((G.lg w.ve).take R.nu.toNat);rw[<- he];exact hr.st,by show(G.rc k w.ve:Int)=R.nu;rw[<- he];exact hr.rc,fun e q=>hr.rz e (by have:w.ve<e:=q;omega),fun e a q=>by show e<=w.ve;rw[<- he];exact hr.al e a q,.inr hw,fun L hL=>(bc.inj hL) ▸ lead G⟩
   ·obtain⟨b1,b2⟩:=Xs hG h.ri hk he w3
    have hr:=h.ri
    have sW:(G.kY k w.ve R.ep R.nu.toNat).lg w.ve=(G.lg R.ep).take R.nu.toNat:=if_pos rfl
    have vn:(G.kY k w.ve R.ep R.nu.toNat).ba w.ve=R.nu.toNat:=if_pos rfl
    have CY:(G.kY k w.ve R.ep R.nu.toNat).rc k w.ve=R.nu.toNat:=if_pos ⟨rfl,rfl⟩
    have hn:=hr.qv
    have hnl:=hr.nl
    refine⟨_,b1,b2,fin _ (hV.mono b2) b2 ?_,fun e=>?_⟩
    ·refine⟨hr.me,hr.id,hr.bl,hr.lo,by show 0<=w.ve;omega,hr.n0,fun _=>⟨.inl rfl,?_⟩,?_,?_,?_,fun e q=>?_,fun e a q=>?_,.inr hw,fun L hL=>(bc.inj hL) ▸ lead _⟩
     ·show(((G.kY k w.ve R.ep R.nu.toNat).ba w.ve:Nat):Int)<=R.nu
      rw[vn];omega
     ·show R.nu<=(((G.kY k w.ve R.ep R.nu.toNat).lg w.ve).length:Int)
      rw[sW,dc];omega
     ·show(R.c,R.t)=dd (((G.kY k w.ve R.ep R.nu.toNat).lg w.ve).take R.nu.toNat)
      rw[sW,List.take_take,Nat.min_self];exact hr.st
     ·show(((G.kY k w.ve R.ep R.nu.toNat).rc k w.ve:Nat):Int)=R.nu
      rw[CY];exact hn
     ·have q:w.ve<e:=q
      show(if e=w.ve/\k=k then R.nu.toNat else G.rc k e)=0
      rw[if_neg (by omega)];exact hr.rz e (by omega)
     ·show e<=w.ve
      rcases a with rfl | a
      ·exact dy _
      ·have:=hr.al e a q;omega
    ·by_cases c:e=w.ve
     ·exact⟨R.ep,by rw[c,sW];exact List.take_prefix _ _⟩
     ·exact⟨e,by show(if e=w.ve then _ else G.lg e)<+: _;rw[if_neg c];exact List.prefix_rfl⟩
end
theorem u_.mono {vs:List Vw} {k:Int} {G G':Gh} {d:Dn} (h:u_ vs G d) (hx:Ex vs k G G'):u_ vs G' d:=
 ⟨fun e=>by obtain⟨e',n,c1,c2,c3⟩:=h.h e;exact⟨e',n,c1.mono hx,by rw[qw (hx.lg e') c1.nl];exact c2,fun t=>⟨wg (hx.lg e') (c3 t).1,by rw[qw (hx.lg e') c1.nl];exact(c3 t).2⟩⟩⟩
section
variable {vs:List Vw} {G:Gh} {k:Int} {R:θ}
theorem QN (h:eL R=false):R.ld=none:=by
 unfold eL at h
 cases hl:R.ld with
 |none=>rfl
 |some L=>rw[hl]at h;cases h
theorem afC (hG:GI vs G) (hV:VI vs G) (h:fv vs G k R) {fr e:Int} {n:Nat} (hfr:fr≠k) (a:G.act e) (f:fr=iF vs e) (b:G.ba e<=n) (l:n<=(G.lg e).length) (x:fa (dd ((G.lg e).take n)).2) (c:(dd ((G.lg e).take n)).1.length=128):
  oA vs G k (iH R fr ⟨10,[5,e,(n:Int)],bZ (dd ((G.lg e).take n)).1,[be (dd ((G.lg e).take n)).2]⟩):=by
 unfold iH
 have m1:bi ⟨10,[5,e,(n:Int)],bZ (dd ((G.lg e).take n)).1,[be (dd ((G.lg e).take n)).2]⟩ 1=e:=rfl
 have m2:bi ⟨10,[5,e,(n:Int)],bZ (dd ((G.lg e).take n)).1,[be (dd ((G.lg e).take n)).2]⟩ 2=(n:Int):=rfl
 rw[m1,m2]
 split
 ·exact(Rp h fr).jB hG
 ·rename_i hn
  have lc:jm (bZ (dd ((G.lg e).take n)).1)=some (dd ((G.lg e).take n)).1:=by unfold jm;rw[wa];dsimp only;rw[if_pos c]
  have lt:loadT ([be (dd ((G.lg e).take n)).2].getD 0 [])=some (dd ((G.lg e).take n)).2:=Ci x rfl
  dsimp only
  rw[lc,lt]
  dsimp only
  have hr:=h.ri
  have q1:R.ep<=e:=by omega
  have q2:e=R.ep->R.nu<=(n:Int):=fun t=>by
   rcases Int.lt_or_le (n:Int) R.nu with q | q
   ·exact absurd (.inr (.inl ⟨t,.inl q⟩)) hn
   ·exact q
  have q3:G.rc k e<=n:=by
   rcases(by omega:e=R.ep∨R.ep<e)with q | q
   ·have:=q2 q;have:=hr.rc;rw[q];omega
   ·rw[hr.rz e q];exact bt _
  have q4:=(hG.a0 e a).1
  obtain⟨g1,g2⟩:=MN hG hr a (by rw[<- f];exact hfr) q1 q3 l
  have hy:=DY h
  have hR:RI vs (G.pV k e n) k {gn R with ep:=e,nu:=(n:Int),c:=(dd ((G.lg e).take n)).1,t:=(dd ((G.lg e).take n)).2,ch:=true }:=
   ⟨hr.me,hr.id,hr.bl,hr.lo,by show 0<=e;omega,Int.natCast_nonneg n,fun _=>⟨a,Int.ofNat_le.2 b⟩,Int.ofNat_le.2 l,by show(_,_)=dd (((G.pV k e n).lg e).take (n:Int).toNat);rw[dD];rfl,congrArg Int.ofNat (AL G k e n),fun e' q=>by
    have q:e<e':=q
    rw[qS G n (fun t=>by have:=t.1;omega)];exact hr.rz e' (by omega),fun e' a' q=>Int.le_trans (hr.al e' a' q) q1,hr.v,fun L hL=>qu hL⟩
  have hO:fv vs (G.pV k e n) k {gn R with ep:=e,nu:=(n:Int),c:=(dd ((G.lg e).take n)).1,t:=(dd ((G.lg e).take n)).2,ch:=true }:=
   ⟨hR,fun p hp=>(hy.out p hp).mono g2,fun d hd=>(hy.dn d hd).mono g2⟩
  exact⟨_,g1,g2,hO.send (AJ hR (by omega)),fun e'=>⟨e',List.prefix_rfl⟩⟩
theorem jY.marks {L:bX} (hl:jY vs G k R L) {fr:Int} (h:R.nu<=(G.rc fr R.ep:Int)) {cy:Int->Bool} (ha:∀ x,cy x=true->x=fr∨L.cy x=true):jY vs G k R ⟨mark L.ins fr true,cy,L.cur⟩:=
 ⟨hl.v,hl.ep,hl.hd,fun x hx ht=>by
  rcases Co ht with rfl | ht
  ·exact Int.le_trans h (Int.le_add_of_nonneg_right (by split<;>omega))
  ·exact hl.ins x hx ht,fun x hx=>by
  rcases ha x hx with rfl | hx
  ·exact h
  ·exact hl.cy x hx,hl.cur⟩
theorem afx (hG:GI vs G) (hV:VI vs G) (h:fv vs G k R) {fr e:Int} {n:Nat} (hn:n<=G.rc fr e):oA vs G k (im R fr ⟨11,[5,e,(n:Int)],[],[]⟩):=by
 unfold im
 split
 ·exact h.jB hG
 ·rename_i L hL
  have hl:=h.ri.l L hL
  have m1:bi ⟨11,[5,e,(n:Int)],[],[]⟩ 1=e:=rfl
  have m2:bi ⟨11,[5,e,(n:Int)],[],[]⟩ 2=(n:Int):=rfl
  rw[m1,m2]
  split
  ·exact h.jB hG
  ·rename_i hne
   have e1:e=R.ep:=Classical.byContradiction fun t=>hne (.inl t)
   have e2:(n:Int)=R.nu:=Classical.byContradiction fun t=>hne (.inr t)
   have hfr:R.nu<=(G.rc fr R.ep:Int):=by rw[<- e1,<- e2];exact Int.ofNat_le.2 hn
   split
   ·rename_i hc
    have:=hl.marks hfr (cy:=L.cy) (fun x hx=> .inr hx)
    rw[hc]at this
    exact(Di h this).jB hG
   ·rename_i o hc
    have:=hl.marks hfr (cy:=mark L.cy fr true) (fun x hx=>Co hx)
    rw[hc]at this
    exact(GO hV (Di h this)).jB hG
theorem adl (hG:GI vs G) (hV:VI vs G) (h:fv vs G k R) {fr e:Int} {n:Nat} (hn:n<=G.rc fr e):oA vs G k (ic R fr ⟨13,[5,e,(n:Int)],[],[]⟩):=by
 unfold ic
 split
 ·exact h.jB hG
 ·rename_i L hL
  have hl:=h.ri.l L hL
  split
  ·exact h.jB hG
  ·rename_i o hc
   have m1:bi ⟨13,[5,e,(n:Int)],[],[]⟩ 1=e:=rfl
   have m2:bi ⟨13,[5,e,(n:Int)],[],[]⟩ 2=(n:Int):=rfl
   rw[m1,m2]
   split
   ·rename_i he
    have hfr:R.nu<=(G.rc fr R.ep:Int):=by rw[<- he.1,<- he.2];exact Int.ofNat_le.2 hn
    have hl2:jY vs G k R ⟨L.ins,mark L.cy fr true,some o⟩:=⟨hl.v,hl.ep,hl.hd,by rw[<- hc];exact hl.ins,fun x hx=>by
     rcases Co hx with rfl | hx
     ·exact hfr
     ·exact hl.cy x hx,by rw[<- hc];exact hl.cur⟩
    exact(GO hV (Di h hl2)).jB hG
   ·exact h.jB hG
theorem yr (hG:GI vs G) (hV:VI vs G) (h:RI vs G k R) {L:bX} (hl:jY vs G k R L):R.nu=((G.lg R.ep).length:Int):=by
 have:=hl.act hV
 have:=hG.ld R.ep (h.ac (by omega)).1
 rw[hl.hd]at this
 rw[<- this];exact h.rc.symm
theorem ael (hG:GI vs G) (hV:VI vs G) (h:fv vs G k R) (hi:bu R) {fr e:Int} {n:Nat} (hn:n<=G.rc fr e):oA vs G k (ij R fr ⟨14,[5,e,(n:Int)],[],[]⟩):=by
 unfold ij
 split
 ·exact h.jB hG
 ·rename_i L hL
  have hl:=h.ri.l L hL
  have m1:bi ⟨14,[5,e,(n:Int)],[],[]⟩ 1=e:=rfl
  have m2:bi ⟨14,[5,e,(n:Int)],[],[]⟩ 2=(n:Int):=rfl
  rw[m1,m2]
  split
  ·exact(DY h).jB hG
  ·split
   ·rename_i hc
    have h1:=yr hG hV h.ri hl
    have h2:=hG.rl fr e
    rw[hc.1]at h2 hn
    omega
   ·have hl2:jY vs G k R {L with ins:=mark L.ins fr false }:=⟨hl.v,hl.ep,hl.hd,fun x hx ht=>hl.ins x hx (Q4 ht),hl.cy,hl.cur⟩
    have h2:=Di h hl2
    have:=hl.act hV
    exact(h2.send (UG h2.ri (by show R.ep≠0;omega) hl.hd hi.tx hi.ok.cl)).jB hG
theorem adu (hG:GI vs G) (hV:VI vs G) (h:fv vs G k R) {fr e s:Int} {n:Nat} {o:Op} (hfr:fr≠k) (a:G.act e) (f:fr=iF vs e) (b:G.ba e<n) (g:(G.lg e)[n - 1]? =some o):oA vs G k (iG R fr ⟨12,[5,e,(n:Int),o.cl,o.nm,o.kd,o.bk,s],o.b,[]⟩):=by
 unfold iG
 have m1:bi ⟨12,[5,e,(n:Int),o.cl,o.nm,o.kd,o.bk,s],o.b,[]⟩ 1=e:=rfl
 have m2:bi ⟨12,[5,e,(n:Int),o.cl,o.nm,o.kd,o.bk,s],o.b,[]⟩ 2=(n:Int):=rfl
 have mo:ux ⟨12,[5,e,(n:Int),o.cl,o.nm,o.kd,o.bk,s],o.b,[]⟩=o:=rfl
 rw[m1,m2,mo]
 have hr:=h.ri
 split
 ·exact(h.send (AJ hr (by omega))).jB hG
 ·split
  ·rename_i hc
   obtain⟨c1,c2,c3,c4,c5⟩:=hc
   subst c1
   have hl:=QN c3
   have hlt:=G8 g
   have hn:=hr.qv
   have kA:n=R.nu.toNat+1:=by omega
   subst kA
   rw[Nat.add_sub_cancel]at g hlt
   have hrc:=hr.nW
   obtain⟨g1,g2⟩:=MN hG hr (E:=R.ep) (n:=R.nu.toNat+1) a (by rw[<- f];exact hfr) (dy _) (by omega) (by omega)
   have hst:dd ((G.lg R.ep).take (R.nu.toNat+1))=xS (dd ((G.lg R.ep).take R.nu.toNat)) o:=by
    rw[j2,g];exact Ds _ o
   have hR:RI vs (G.pV k R.ep (R.nu.toNat+1)) k (ir R o):=
    ⟨hr.me,hr.id,hr.bl,hr.lo,hr.e0,by show 0<=R.nu+1;omega,fun q=>⟨a,by have:=(hr.ac q).2;show(G.ba R.ep:Int)<=R.nu+1;omega⟩,by show R.nu+1<=((G.lg R.ep).length:Int);omega,by
     show(fj R.c o.kd o.bk o.b,mA R.t o)=dd ((G.lg R.ep).take (R.nu+1).toNat)
     rw[show(R.nu+1).toNat=R.nu.toNat+1 by omega,hst,<- hr.st];rfl,by
     show(((G.pV k R.ep (R.nu.toNat+1)).rc k R.ep:Nat):Int)=R.nu+1
     rw[AL];omega,fun e' q=>by
     have q:R.ep<e':=q
     rw[qS G _ (fun t=>by have:=t.1;omega)];exact hr.rz e' q,hr.al,hr.v,fun L hL=>qu (hl.symm.trans hL)⟩
   have hO:fv vs (G.pV k R.ep (R.nu.toNat+1)) k (ir R o):=⟨hR,fun p hp=>(h.out p hp).mono g2,fun d hd=>(h.dn d hd).mono g2⟩
   exact⟨_,g1,g2,hO.send (AJ hR (by omega)),fun e'=>⟨e',List.prefix_rfl⟩⟩
  ·exact(Rp h fr).jB hG
theorem ZR (hG:GI vs G) (hV:VI vs G) (h:fv vs G k R) (hi:bu R) {fr:Int} {m:dI} (hm:iC vs G fr m):oA vs G k (dE R fr m):=by
 cases eJ:ca R fr m with
 |false=>unfold dE;rw[if_pos eJ];exact h.jB hG
 |true=>
  have hfr:fr≠k:=by
   unfold ca at eJ
   rw[iW,decide_eq_true_eq,h.ri.me]at eJ
   exact eJ.1.2.2.2.2
  unfold dE
  rw[if_neg (by rw[eJ];decide)]
  cases hm with
  |sync e n a f b l x c=>rw[if_pos rfl];exact afC hG hV h hfr a f b l x c
  |ok kd e n hk hn=>
   rcases hk with rfl | rfl | rfl
   ·exact afx hG hV h hn
   ·exact adl hG hV h hn
   ·exact ael hG hV h hi hn
  |op e n o s a f b g=>exact adu hG hV h hfr a f b g
theorem afY (hG:GI vs G) (hV:VI vs G) (h:fv vs G k R) (hi:bu R):oA vs G k (cL R):=by
 unfold cL
 split
 ·rename_i hl
  exact fv.jB hG ⟨h.ri.out ⟨rfl,rfl,rfl,rfl,rfl,rfl,rfl,rfl,rfl⟩ rfl,h.out,h.dn⟩
 ·rename_i L hL
  split
  ·have hl:=h.ri.l L hL
   have:=hl.act hV
   refine fv.jB hG ⟨h.ri.out ⟨rfl,rfl,rfl,rfl,rfl,rfl,rfl,rfl,rfl⟩ rfl,fun p hp=>?_,h.dn⟩
   have hp:p∈R.out++(aQ R).flatMap (fX R L):=hp
   rcases dQ.1 hp with hp | hp
   ·exact h.out p hp
   ·obtain⟨x,_,hx⟩:=List.mem_flatMap.1 hp
    unfold fX at hx
    split at hx
    ·rw[dm]at hx;subst hx
     exact UG h.ri (by omega) hl.hd hi.tx hi.ok.cl
    ·split at hx
     ·rename_i o ho
      split at hx
      ·rw[dm]at hx;subst hx
       exact Pm h.ri hl ho hV _
      ·cases hx
     ·cases hx
  ·exact fv.jB hG ⟨h.ri.out ⟨rfl,rfl,rfl,rfl,rfl,rfl,rfl,rfl,rfl⟩ rfl,h.out,h.dn⟩
structure zO (l:List Op) (o:Op):Prop where
 rt:gO o=true
 k1:jw o=true->gu (dd l).2 o.cl o.nm≠1
 k2:jw o=true->gu (dd l).2 o.cl o.nm≠2
 p:jw o=true->cW (dd l).2 o.cl o.nm 0=0
structure xb (vs:List Vw) (G:Gh) (k:Int) (R':θ) (o:Op):Prop where
 h:∃ G',GI vs G'/\Ex vs k G G'/\fv vs G' k R'/\∀ e,(∃ e',G'.lg e<+:G.lg e')∨∃ E,G'.lg e=G.lg E++[o]/\zO (G.lg E) o
theorem oA.s {R':θ} (h:oA vs G k R') (o:Op):xb vs G k R' o:=by
 obtain⟨G',h1,h2,h3,h4⟩:=h
 exact⟨G',h1,h2,h3,fun e=> .inl (h4 e)⟩
theorem Xw (hG:GI vs G) (hV:VI vs G) (h:fv vs G k R) (hi:bu R) {o:Op} {L:bX} (hL:R.ld=some L) (hc:L.cur=none) (hr:ii R=true) (hn:zO (G.lg R.ep) o):xb vs G k (lF R L o) o:=by
 have hl:=h.ri.l L hL
 have e1:=hl.act hV
 have kc:=yr hG hV h.ri hl
 have hn1:=h.ri.qv
 have a:=h.ri.ac (by omega)
 have fP:=h.ri
 have hrd:∀ x∈aQ R,R.nu<=(G.rc x R.ep:Int):=fun x hx=>by
  unfold ii at hr
  rw[hL]at hr
  have:=hl.ins x hx (List.all_eq_true.1 hr x hx)
  rw[hc]at this
  simpa using this
 obtain⟨g1,g2⟩:=W7 hG fP o a.1 hl.hd
 have hst:dd (G.lg R.ep)=(R.c,R.t):=by
  have:=fP.st
  rw[show R.nu.toNat=(G.lg R.ep).length by omega,cZ]at this
  exact this.symm
 have Hh:=hV.mono g2
 have hR:RI vs (G.add k R.ep o) k {ir R o with ld:=some {L with cy:=fun _=>false,cur:=some o } }:=by
  refine⟨fP.me,fP.id,fP.bl,fP.lo,fP.e0,by show 0<=R.nu+1;omega,fun _=>⟨a.1,by have:=a.2;show(G.ba R.ep:Int)<=R.nu+1;omega⟩,?_,?_,?_,fun e' q=>?_,fP.al,fP.v,fun L' hL'=>?_⟩
  ·show R.nu+1<=((((G.add k R.ep o).lg R.ep).length:Nat):Int)
   rw[tI,bo,iL];omega
  ·show(fj R.c o.kd o.bk o.b,mA R.t o)=dd (((G.add k R.ep o).lg R.ep).take (R.nu+1).toNat)
   rw[tI,fI (by rw[bo,iL];omega),Ds,hst];rfl
  ·show((((G.add k R.ep o).rc k R.ep:Nat)):Int)=R.nu+1
   rw[AK];omega
  ·have q:R.ep<e':=q
   rw[su G o (fun t=>by have:=t.1;omega)];exact fP.rz e' q
  ·have e:L'={L with cy:=fun _=>false,cur:=some o }:=(bc.inj hL').symm
   subst e
   refine⟨hl.v,hl.ep,hl.hd,fun x hx _=>?_,fun x hx=>(by cases hx),fun o' ho'=>?_⟩
   ·have h1:=hrd x hx
    have h2:=g2.rc x R.ep
    show R.nu+1<=(((G.add k R.ep o).rc x R.ep:Nat):Int)+1
    omega
   ·cases ho'
    refine⟨by have:=a.2;show(G.ba R.ep:Int)<R.nu+1;omega,?_⟩
    show((G.add k R.ep o).lg R.ep)[(R.nu+1).toNat - 1]? =some o
    rw[tI,show(R.nu+1).toNat - 1=(G.lg R.ep).length by omega]
    simp
 have hO:fv vs (G.add k R.ep o) k {ir R o with ld:=some {L with cy:=fun _=>false,cur:=some o } }:=⟨hR,fun p hp=>(h.out p hp).mono g2,fun d hd=>(h.dn d hd).mono g2⟩
 refine⟨_,g1,g2,?_,fun e=>?_⟩
 ·unfold lF
  dsimp only
  rw[sO]
  refine GO Hh ⟨hR.out ⟨rfl,rfl,rfl,rfl,rfl,rfl,rfl,rfl,rfl⟩ rfl,fun p hp=>?_,hO.dn⟩
  rcases dQ.1 hp with hp | hp
  ·exact hO.out p hp
  ·obtain⟨x,_,rfl⟩:=ef.1 hp
   exact Pm hR (hR.l _ rfl) rfl Hh _
 ·by_cases c:e=R.ep
  ·subst c;exact .inr ⟨R.ep,tI G k R.ep o,hn⟩
  ·exact .inl ⟨e,by rw[xu G o c];exact List.prefix_rfl⟩
theorem afh (hG:GI vs G) (hV:VI vs G) (h:fv vs G k R) (hi:bu R) (o:Op) (hkn:jw o=true->gu R.t o.cl o.nm=1->o∈(G.lg R.ep).take R.nu.toNat):xb vs G k (eE R o).2 o:=by
 have same:xb vs G k R o:=(h.jB hG).s o
 unfold eE
 split
 ·exact same
 ·rename_i m_
  split
  ·exact same
  ·rename_i L hL
   split
   ·exact same
   ·rename_i hr
    split
    ·exact same
    ·rename_i hb
     have hr:ii R=true:=by simpa using hr
     have hc:L.cur=none:=by
      unfold l6 b_ at hb
      rw[hL]at hb
      cases l_:L.cur with
      |none=>rfl
      |some o=>exfalso;apply hb;show(Option.bind (some L) fun x=>x.cur).isSome=true;rw[Option.bind_some,l_];rfl
     have hl:=h.ri.l L hL
     have kc:=yr hG hV h.ri hl
     have hn1:=h.ri.qv
     have hst:dd (G.lg R.ep)=(R.c,R.t):=by
      have:=h.ri.st
      rw[show R.nu.toNat=(G.lg R.ep).length by omega,cZ]at this
      exact this.symm
     split
     ·rename_i e R1 hk
      split at hk
      ·rename_i hch
       unfold lN at hk
       split at hk
       ·rename_i h1
        cases hk
        refine(fv.jB (R:={R with done:=R.done++[⟨o,sD (gB R) o.cl o.nm,[]⟩] }) hG ⟨h.ri.out ⟨rfl,rfl,rfl,rfl,rfl,rfl,rfl,rfl,rfl⟩ rfl,h.out,fun d hd=>?_⟩).s o
        rcases dQ.1 hd with hd | hd
        ·exact h.dn d hd
        ·rw[dm]at hd;subst hd
         have hm:=hkn hch h1
         have hlen:0<((G.lg R.ep).take R.nu.toNat).length:=List.length_pos_of_mem hm
         rw[dc]at hlen
         have pu:=QM hV h.ri hl (by omega) (fun x hx=>by
          unfold ii at hr
          rw[hL]at hr
          have:=hl.ins x hx (List.all_eq_true.1 hr x hx)
          rw[hc]at this
          simpa using this)
         refine⟨fun _=>⟨R.ep,R.nu.toNat,pu,hm,fun t=>?_⟩⟩
         have t:o.kd=3:=t
         unfold jw at hch
         rw[t]at hch
         exact absurd hch (by decide)
       ·split at hk
        ·cases hk;exact same
        ·split at hk
         ·cases hk
         ·cases hk;exact same
      ·cases hk
     ·rename_i hk
      refine Xw hG hV h hi hL hc hr ⟨by simpa using m_,fun hch=>?_,fun hch=>?_,fun hch=>?_⟩
      all_goals
       rw[if_pos hch]at hk
       unfold lN gB at hk
       rw[hst]
       show _
      ·intro h1
       rw[if_pos h1]at hk;cases hk
      ·intro h2
       have h1:¬ gu R.t o.cl o.nm=1:=fun t=>by have h2:gu R.t o.cl o.nm=2:=h2;omega
       rw[if_neg h1,if_pos h2]at hk;cases hk
      ·split at hk
       ·cases hk
       ·split at hk
        ·cases hk
        ·split at hk
         ·assumption
         ·cases hk
end
structure nK (l:List Op):Prop where
 nw:∀(i:Nat) (o:Op),l[i]? =some o->zO (l.take i) o/\(o.kd=3->o ∉ l.take i)
theorem nK.pre {l l':List Op} (h:nK l) (hp:l'<+:l):nK l':=⟨fun i o hi=>by
 have h1:=h.nw i o (wg hp hi)
 rw[qw hp (Nat.le_of_lt (G8 hi))]at h1
 exact h1⟩
theorem nK.nil:nK []:=⟨fun i o hi=>by simp at hi⟩
theorem nK.snoc {l:List Op} (h:nK l) {o:Op} (hn:zO l o) (h3:o.kd=3->o ∉ l):nK (l++[o]):=⟨fun i o' hi=>by
 have hlt:=G8 hi
 rw[bo,iL]at hlt
 rcases(by omega:i<l.length∨i=l.length)with q | q
 ·rw[dX q]at hi
  rw[List.take_append_of_le_length (by omega)]
  exact h.nw i o' hi
 ·subst q
  simp at hi
  subst hi
  rw[List.take_append_of_le_length (au _),cZ]
  exact⟨hn,h3⟩⟩
theorem RG {x:List L3} (h:x.Pairwise (fun a b=>a.1<b.1)) {c:Int} {q:Int×Int}:kf x c=some q ↔ (c,q)∈x:=by
 have key:∀ p:L3,p∈x->kf x p.1=some p.2:=fun p hp=>by
  obtain⟨i,hi⟩:=lC hp
  have hlt:=(bO.1 hi).1
  have:=RF h hlt
  rw[sK hlt]at hi
  cases hi
  exact this
 constructor
 ·intro hs
  by_cases e:∃ p∈x,p.1=c
  ·obtain⟨p,hp,rfl⟩:=e
   have:=(key p hp).symm.trans hs
   cases this
   exact hp
  ·rw[RH (fun p hp t=>e ⟨p,hp,t⟩)]at hs;cases hs
 ·exact fun hm=>key _ hm
theorem T_:∀(l:List Op) (s:List Int×List L3),fa s.2->fa (l.foldl xS s).2
 | [],s,h=>h
 |o::l,s,h=>T_ l (xS s o) (N_ h o)
theorem ac_:fa []:=⟨List.Pairwise.nil,fun p hp=>(by cases hp),bt _⟩
theorem Ua (l:List Op):fa (dd l).2:=T_ l _ ac_
theorem CV {x:List L3} {c n e:Int} {p:L3}:p∈oS x c n e ↔ (p∈x/\p.1≠c)∨p=(c,n,e):=by
 rw[(Tb (x:=x) (c:=c) (n:=n) (e:=e)).mem_iff,eI,lZ,decide_eq_true_eq]
 exact or_comm
structure Md (l:List Op) (t:List L3):Prop where
 a:∀ o∈l,jw o=true->∃ q,(o.cl,q)∈t/\o.nm<=q.1
 b:∀ c q,(c,q)∈t->∃ o∈l,jw o=true/\o.cl=c/\o.nm=q.1
theorem UP {l:List Op} (h:nK l):∀ n,Md (l.take n) (dd (l.take n)).2
 | 0=>⟨fun o ho=>(by simp at ho),fun c q hq=>(by cases hq)⟩
 |n+1=>by
  have ih:=UP h n
  cases ho:l[n]? with
  |none=>
   have:l.length<=n:=List.getElem?_eq_none_iff.1 ho
   rw[fI this]at ih
   rw[fI (by omega)];exact ih
  |some o=>
   have hn:=(h.nw n o ho).1
   have ht:l.take (n+1)=l.take n++[o]:=by rw[j2,ho];rfl
   rw[ht,Ds]
   show Md _ (mA (dd (l.take n)).2 o)
   have hok:=Ua (l.take n)
   by_cases hc:jw o=true
   ·have hp:=hn.p hc
    rw[Oa hc hp]
    refine⟨fun o' ho' fc=>?_,fun c q hq=>?_⟩
    ·rcases dQ.1 ho' with ho' | ho'
     ·obtain⟨q,q1,q2⟩:=ih.a o' ho' fc
      by_cases e:o'.cl=o.cl
      ·refine⟨(o.nm,0),CV.2 (.inr (by rw[e])),?_⟩
       have hA:=(RG hok.inc).2 q1
       rw[e]at hA
       unfold cW at hp
       rw[hA]at hp
       dsimp only at hp
       show o'.nm<=o.nm
       split at hp
       ·omega
       ·split at hp
        ·omega
        ·omega
      ·exact⟨q,CV.2 (.inl ⟨q1,e⟩),q2⟩
     ·rw[dm]at ho';subst ho'
      exact⟨(o'.nm,0),CV.2 (.inr rfl),dy _⟩
    ·rcases CV.1 hq with ⟨h1,h2⟩ | h1
     ·obtain⟨o',c1,c2⟩:=ih.b c q h1
      exact⟨o',iM _ c1,c2⟩
     ·cases h1
      exact⟨o,lD _ (dm.2 rfl),hc,rfl,rfl⟩
   ·rw[Ge (.inl (by simpa using hc))]
    refine⟨fun o' ho' fc=>?_,fun c q hq=>?_⟩
    ·rcases dQ.1 ho' with ho' | ho'
     ·exact ih.a o' ho' fc
     ·rw[dm]at ho';subst ho';exact absurd fc hc
    ·obtain⟨o',c1,c2⟩:=ih.b c q hq
     exact⟨o',iM _ c1,c2⟩
theorem XX {l:List Op} (h:nK l) (n:Nat) {cl nm:Int} (hc:gu (dd (l.take n)).2 cl nm=1):∃ o∈l.take n,jw o=true/\o.cl=cl/\o.nm=nm:=by
 unfold gu at hc
 split at hc
 ·cases hc
 ·rename_i q hq
  split at hc
  ·cases hc
  ·split at hc
   ·rename_i e
    obtain⟨o,c1,c2,c3,c4⟩:=(UP h n).b cl q ((RG (Ua _).inc).1 hq)
    exact⟨o,c1,c2,c3,c4.trans e.symm⟩
   ·cases hc
def wI (bk:Int) (v:Int) (o:Op):Int:=if o.bk=bk then(if o.kd=1 then jP o.b else if o.kd=2 then 0 else v)else v
def mP (bk:Int) (l:List Op):Int:=l.foldl (wI bk) 0
theorem K1 (bk:Int) (l:List Op) (o:Op):mP bk (l++[o])=wI bk (mP bk l) o:=by unfold mP;rw[List.foldl_append];rfl
structure LL (o:Op):Prop where
 b0:0<=o.bk
 b1:o.bk<8
 w:o.kd=1->∃ v,0<=v/\v<256/\o.b=io v
theorem zg (v:Int):(io v).length=16:=by simp [io]
theorem RQ {v:Int} (h:0<=v/\v<256):jP (io v)=v:=by
 have hw:ν.wrap v=v:=by rw[w8 (by omega) (by omega)]
 have e0:(io v).getD 0 0=v:=by unfold io;rw[hw];rfl
 have YF:(io v).getD 15 0=if v > 0 then 7 else 0:=rfl
 have em:∀ k,k<15->1<=k->(io v).getD k 0=0:=fun k h1 h2=>by
  rcases k with _ | k
  ·omega
  ·unfold io
   rw[List.getD_cons_succ,iY,dX (by rw[List.length_replicate];omega),List.getElem?_replicate]
   split<;>rfl
 unfold jP
 rw[if_pos ⟨zg v,em,by rw[e0,YF];split<;>omega⟩,e0]
theorem M6 {c x:List Int} (hc:c.length=128) (hx:x.length=16) {a b:Nat} (ha:a<8) (hb:b<8):((splice c (b*16) x).drop (a*16)).take 16=if a=b then x else(c.drop (a*16)).take 16:=by
 refine lB fun j=>?_
 by_cases hj:j<16
 ·rw[ji hj,jE,tW (by omega)]
  split
  ·rename_i q
   rw[if_neg (by omega),ji hj,jE]
  ·split
   ·rename_i q1 q2
    rw[if_pos (by omega)]
    have:a=b:=by omega
    subst this
    congr 1;omega
   ·rename_i q1 q2
    rw[if_neg (by omega),ji hj,jE]
 ·rw[g_ (by rw[dc];omega)]
  split
  ·rw[g_ (by omega)]
  ·rw[g_ (by rw[dc];omega)]
structure V9 (l:List Op):Prop where
 len:(dd l).1.length=128
 v:∀ bk,0<=bk->bk<8->((dd l).1.drop (bk.toNat*16)).take 16=io (mP bk l)/\0<=mP bk l/\mP bk l<256
theorem aib {a:Nat} (ha:a<8):(jD.drop (a*16)).take 16=io 0:=by
 have:a=0∨a=1∨a=2∨a=3∨a=4∨a=5∨a=6∨a=7:=by omega
 rcases this with rfl | rfl | rfl | rfl | rfl | rfl | rfl | rfl<;>decide
theorem M5 {l:List Op} (h:∀ o∈l,LL o):∀ n,V9 (l.take n)
 | 0=>⟨rfl,fun bk h0 h1=>⟨by show(jD.drop _).take 16=io 0;exact aib (by omega),by show(0:Int)<=0;omega,by show(0:Int)<256;omega⟩⟩
 |n+1=>by
  have ih:=M5 h n
  cases ho:l[n]? with
  |none=>
   have:l.length<=n:=List.getElem?_eq_none_iff.1 ho
   rw[fI this]at ih
   rw[fI (by omega)];exact ih
  |some o=>
   have hg:=h o (gG ho)
   have b0:=hg.b0
   have b1:=hg.b1
   have ht:l.take (n+1)=l.take n++[o]:=by rw[j2,ho];rfl
   rw[ht]
   have e1:(dd (l.take n++[o])).1=fj (dd (l.take n)).1 o.kd o.bk o.b:=by rw[Ds];rfl
   have hlen:=ih.len
   by_cases k1:o.kd=1
   ·obtain⟨v,v0,v1,hv⟩:=hg.w k1
    have e2:fj (dd (l.take n)).1 o.kd o.bk o.b=splice (dd (l.take n)).1 (o.bk.toNat*16) (io v):=by unfold fj;rw[if_pos k1,hv]
    refine⟨by rw[e1,e2,mL (by rw[zg,hlen];omega)];exact hlen,fun bk h0 h1=>?_⟩
    rw[e1,e2,M6 hlen (zg v) (by omega) (by omega),K1]
    unfold wI
    by_cases c:o.bk=bk
    ·rw[if_pos (by omega),if_pos c,if_pos k1,hv,RQ ⟨v0,v1⟩]
     exact⟨rfl,v0,v1⟩
    ·rw[if_neg (by omega),if_neg c];exact ih.v bk h0 h1
   ·by_cases k2:o.kd=2
    ·have e2:fj (dd (l.take n)).1 o.kd o.bk o.b=splice (dd (l.take n)).1 (o.bk.toNat*16) (io 0):=by unfold fj;rw[if_neg k1,if_pos k2];rfl
     refine⟨by rw[e1,e2,mL (by rw[zg,hlen];omega)];exact hlen,fun bk h0 h1=>?_⟩
     rw[e1,e2,M6 hlen (zg 0) (by omega) (by omega),K1]
     unfold wI
     by_cases c:o.bk=bk
     ·rw[if_pos (by omega),if_pos c,if_neg k1,if_pos k2]
      exact⟨rfl,dy _,by omega⟩
     ·rw[if_neg (by omega),if_neg c];exact ih.v bk h0 h1
    ·have e2:fj (dd (l.take n)).1 o.kd o.bk o.b=(dd (l.take n)).1:=by unfold fj;rw[if_neg k1,if_neg k2]
     refine⟨by rw[e1,e2];exact hlen,fun bk h0 h1=>?_⟩
     have e3:wI bk (mP bk (l.take n)) o=mP bk (l.take n):=by
      unfold wI
      by_cases c:o.bk=bk
      ·rw[if_pos c,if_neg k1,if_neg k2]
      ·rw[if_neg c]
     rw[e1,e2,K1,e3]
     exact ih.v bk h0 h1
structure zE (vs:List Vw) (G:Gh) (cs:List fG) (c:fG):Prop where
 h:∃ e n,Cm vs G e n/\c.o∈(G.lg e).take n/\(∀ c'∈cs,c'.o∈(G.lg e).take n->c'.bg<=c.en)/\(c.o.kd=3->(G.lg e)[n - 1]? =some c.o/\c.v=mP c.o.bk ((G.lg e).take n))
structure L8 (i:Nat) (c:fG):Prop where
 b0:0<=c.o.bk
 b1:c.o.bk<2
 k0:1<=c.o.kd
 k1:c.o.kd<=4
 w:c.o.kd=1->c.o.b=io ((i:Int)+1)/\c.v=(i:Int)+1
 t:c.o.kd=2->c.v=0
structure Ww (now:Int) (c:fG):Prop where
 b0:0<=c.bg
 b1:c.bg<=now
 e:c.en=-1∨(c.bg<=c.en/\c.en<=now)
structure kR (vs:List Vw) (G:Gh) (cs:List fG) (now:Int):Prop where
 key:cs.Pairwise (fun a b=>a.o.cl=b.o.cl->a.o.nm≠b.o.nm)
 ln:cs.length<=13
 n0:0<=now
 sh:∀(i:Nat) (c:fG),cs[i]? =some c->L8 i c
 tm:∀ c∈cs,Ww now c
 ow:∀ e,∀ o∈G.lg e,∃ c∈cs,c.o=o
 lo:∀ e,nK (G.lg e)
 en:∀ c∈cs,c.en≠-1->c.o.kd≠4->zE vs G cs c
section
variable {vs:List Vw} {G:Gh} {cs:List fG} {now:Int}
theorem kR.same (h:kR vs G cs now) {a b:fG} (ha:a∈cs) (hb:b∈cs) (h1:a.o.cl=b.o.cl) (h2:a.o.nm=b.o.nm):a=b:=by
 obtain⟨i,hi⟩:=lC ha
 obtain⟨j,hj⟩:=lC hb
 obtain⟨li,ei⟩:=bO.1 hi
 obtain⟨lj,ej⟩:=bO.1 hj
 have hp:=List.pairwise_iff_getElem.1 h.key
 rcases Nat.lt_trichotomy i j with c | c | c
 ·exact absurd (by rw[ei,ej];exact h2) (hp i j li lj c (by rw[ei,ej];exact h1))
 ·subst c;rw[hi]at hj;exact bc.inj hj
 ·exact absurd (by rw[ei,ej];exact h2.symm) (hp j i lj li c (by rw[ei,ej];exact h1.symm))
theorem kR.go (h:kR vs G cs now) {e:Int} {o:Op} (ho:o∈G.lg e):LL o:=by
 obtain⟨c,hc,rfl⟩:=h.ow e o ho
 obtain⟨i,hi⟩:=lC hc
 have hl:=(bO.1 hi).1
 have:=h.ln
 have hs:=h.sh i c hi
 exact⟨hs.b0,by have:=hs.b1;omega,fun k=>⟨(i:Int)+1,by omega,by omega,(hs.w k).1⟩⟩
theorem zE.mono {k:Int} {G':Gh} {c:fG} (h:zE vs G cs c) (hx:Ex vs k G G'):zE vs G' cs c:=by
 obtain⟨e,n,c1,c2,c3,c4⟩:=h
 refine⟨e,n,c1.mono hx,?_⟩
 rw[qw (hx.lg e) c1.nl]
 exact⟨c2,c3,fun t=>⟨wg (hx.lg e) (c4 t).1,(c4 t).2⟩⟩
theorem kR.mono {k:Int} {G':Gh} (h:kR vs G cs now) (hx:Ex vs k G G') (ow:∀ e,∀ o∈G'.lg e,∃ c∈cs,c.o=o) (lo:∀ e,nK (G'.lg e)):kR vs G' cs now:=
 ⟨h.key,h.ln,h.n0,h.sh,h.tm,ow,lo,fun c hc h1 h2=>(h.en c hc h1 h2).mono hx⟩
theorem kR.val (h:kR vs G cs now) {e:Int} {n:Nat} {o:Op} (ho:o∈G.lg e) (hk:o.kd=3):jP (mK (dd ((G.lg e).take n)).1 o)=mP o.bk ((G.lg e).take n)/\0<=mP o.bk ((G.lg e).take n):=by
 have hg:=h.go ho
 obtain⟨b1,b2,b3⟩:=(M5 (fun o ho=>h.go (e:=e) ho) n).v o.bk hg.b0 hg.b1
 unfold mK
 rw[if_pos hk,b1,RQ ⟨b2,b3⟩]
 exact⟨rfl,b2⟩
theorem tr (now:Int) (d:Dn) (c:fG):(gC now d c).o=c.o/\(gC now d c).bg=c.bg:=by unfold gC;split<;>exact⟨rfl,rfl⟩
theorem af8 (h:kR vs G cs now) {d:Dn} (hd:u_ vs G d):kR vs G (cs.map (gC now d)) now/\cs.all (od d)=true:=by
 have hit:∀ c∈cs,qe d c->c.o=d.o/\∃ e n,Cm vs G e n/\d.o∈(G.lg e).take n/\(d.o.kd=3->(G.lg e)[n - 1]? =some d.o/\jP d.x=mP d.o.bk ((G.lg e).take n)/\0<=jP d.x):=fun c hc ⟨h1,h2,h3,h4⟩=>by
  obtain⟨e,n,c1,c2,c3⟩:=hd.h h4
  have hm:=List.mem_of_mem_take c2
  obtain⟨c',fc,e'⟩:=h.ow e d.o hm
  have:c=c':=h.same hc fc (by rw[h1,e']) (by rw[h2,e'])
  subst this
  refine⟨e',e,n,c1,c2,fun t=>⟨(c3 t).1,?_⟩⟩
  obtain⟨v1,v2⟩:=h.val (n:=n) hm t
  rw[(c3 t).2,v1]
  exact⟨rfl,v2⟩
 refine⟨⟨?_,by rw[cp];exact h.ln,h.n0,fun i c hi=>?_,fun c hc=>?_,fun e o ho=>?_,h.lo,fun c hc h1 h2=>?_⟩,List.all_eq_true.2 fun c hc=>?_⟩
 ·refine List.pairwise_map.2 (h.key.imp fun{a b} hab=>?_)
  rw[(tr now d a).1,(tr now d b).1];exact hab
 ·rw[fH]at hi
  cases hc:cs[i]? with
  |none=>rw[hc]at hi;cases hi
  |some c0=>
   rw[hc]at hi;cases hi
   have hs:=h.sh i c0 hc
   unfold gC
   split
   ·exact⟨hs.b0,hs.b1,hs.k0,hs.k1,fun k=>⟨(hs.w k).1,by have k:c0.o.kd=1:=k;show(if c0.o.kd=3 then _ else c0.v)=_;rw[if_neg (by omega)];exact(hs.w k).2⟩,fun k=>by have k:c0.o.kd=2:=k;show(if c0.o.kd=3 then _ else c0.v)=_;rw[if_neg (by omega)];exact hs.t k⟩
   ·exact hs
 ·obtain⟨c0,hc0,rfl⟩:=ef.1 hc
  have ht:=h.tm c0 hc0
  unfold gC
  split
  ·exact⟨ht.b0,ht.b1,.inr ⟨ht.b1,dy _⟩⟩
  ·exact ht
 ·obtain⟨c,hc,rfl⟩:=h.ow e o ho
  exact⟨_,List.mem_map_of_mem hc,(tr now d c).1⟩
 ·obtain⟨c0,hc0,rfl⟩:=ef.1 hc
  by_cases hh:qe d c0
  ·obtain⟨e1,e,n,c1,c2,c3⟩:=hit c0 hc0 hh
   have et:gC now d c0=⟨c0.o,if c0.o.kd=3 then jP d.x else c0.v,c0.bg,now⟩:=if_pos hh
   rw[et]
   refine⟨e,n,c1,by show c0.o∈_;rw[e1];exact c2,fun c' fc _=>?_,fun t=>?_⟩
   ·obtain⟨c2,gM,rfl⟩:=ef.1 fc
    rw[(tr now d c2).2];exact(h.tm c2 gM).b1
   ·have t:c0.o.kd=3:=t
    show(G.lg e)[n - 1]? =some c0.o/\(if c0.o.kd=3 then jP d.x else c0.v)=mP c0.o.bk _
    rw[if_pos t,e1]
    have:=c3 (by rw[<- e1];exact t)
    exact⟨this.1,this.2.1⟩
  ·have et:gC now d c0=c0:=if_neg hh
   rw[et]at h1 h2 ⊢
   obtain⟨e,n,c1,c2,c3,c4⟩:=h.en c0 hc0 h1 h2
   refine⟨e,n,c1,c2,fun c' fc ho=>?_,c4⟩
   obtain⟨c2,gM,rfl⟩:=ef.1 fc
   rw[(tr now d c2).1]at ho
   rw[(tr now d c2).2];exact c3 c2 gM ho
 ·unfold od
  rw[decide_eq_true_eq]
  intro ⟨hh,t⟩
  obtain⟨e1,e,n,c1,c2,c3⟩:=hit c hc hh
  exact(c3 (by rw[<- e1];exact t)).2.2
end
structure WJ (G:Gh) (w:Wd):Prop where
 gi:GI w.vs G
 vi:VI w.vs G
 r:∀ i:Nat,i<4->RI w.vs G i (ι w i)
 ψ:∀ l∈w.ψ,iC w.vs G l.fr l.m
 cs:kR w.vs G w.cs w.now
 ok:w.ok=true
theorem U9 {vs:List Vw} {G:Gh}:∀(l:List Dn) (w:Wd),(∀ d∈l,u_ vs G d)->kR vs G w.cs w.now->w.ok=true->kR vs G (l.foldl fM w).cs (l.foldl fM w).now/\(l.foldl fM w).ok=true
 | [],w,_,h,ho=>⟨h,ho⟩
 |d::l,w,hd,h,ho=>by
  obtain⟨h1,h2⟩:=af8 h (hd d iB)
  exact U9 l (fM w d) (fun d' hd'=>hd d' (f_ _ hd')) h1 (by show(w.ok && w.cs.all (od d))=true;rw[ho,h2];rfl)
theorem Kc {P:fU->Prop} (i:Nat):∀(l:List Post) (w:Wd),(∀ p∈l,P ⟨i,p.to,p.m⟩)->(∀ x∈w.ψ,P x)->∀ x∈(dr w i l).ψ,P x
 | [],w,_,h=>h
 |p::l,w,hp,h=>Kc i l (gZ i w p) (fun p' mD=>hp p' (f_ _ mD)) (by
  unfold gZ;split
  ·exact fun x hx=>mH (P:=P) h (hp p iB) hx
  ·exact h)
theorem NC {T:Int} {w:Wd} {G G':Gh} (hw:WI T w) (h:WJ G w) {i:Nat} (hi:i<4) {R:θ} (g1:GI w.vs G') (g2:Ex w.vs i G G') (hR:fv w.vs G' i R) (ow:∀ e,∀ o∈G'.lg e,∃ c∈w.cs,c.o=o) (lo:∀ e,nK (G'.lg e)):WJ G' (cU (bA w i R) i):=by
 have hir:i<w.R.length:=by rw[hw.rl];exact hi
 have e1:ι (bA w i R) i=R:=lT R hir
 obtain⟨s1,s2,s3,s4,s5,s6,s7,s8⟩:=oV i R.out (fK (bA w i R) i)
 have Hw:cU (bA w i R) i=R.done.foldl fM (dr (fK (bA w i R) i) i R.out):=by unfold cU;rw[e1]
 obtain⟨t1,t2⟩:=uH R.done (dr (fK (bA w i R) i) i R.out)
 obtain⟨u1,u2,u3,u4,u5⟩:=wH R.done (dr (fK (bA w i R) i) i R.out)
 rw[Hw]
 have eR:(R.done.foldl fM (dr (fK (bA w i R) i) i R.out)).R=(bA w i (iR R)).R:=by
  rw[t1,s1];show(w.R.set i R).set i (iR (ι (bA w i R) i))=w.R.set i (iR R);rw[e1,List.set_set]
 have eA:∀ j,ι (R.done.foldl fM (dr (fK (bA w i R) i) i R.out)) j=ι (bA w i (iR R)) j:=td eR
 have eV:(R.done.foldl fM (dr (fK (bA w i R) i) i R.out)).vs=w.vs:=u2.trans s3
 have hcs:kR w.vs G' (dr (fK (bA w i R) i) i R.out).cs (dr (fK (bA w i R) i) i R.out).now:=by
  rw[s4,s6];exact h.cs.mono g2 ow lo
 obtain⟨v1,v2⟩:=U9 R.done _ hR.dn hcs (by rw[s7];exact h.ok)
 have ZU:∀ l∈(R.done.foldl fM (dr (fK (bA w i R) i) i R.out)).ψ,iC w.vs G' l.fr l.m:=by
  rw[u3]
  exact Kc (P:=fun l=>iC w.vs G' l.fr l.m) i R.out (fK (bA w i R) i) (fun p hp=>hR.out p hp) (fun x hx=>(h.ψ x hx).mono g2)
 refine⟨by rw[eV];exact g1,by rw[eV];exact h.vi.mono g2,fun j hj=>?_,by rw[eV];exact ZU,by rw[eV];exact v1,v2⟩
 rw[eV,eA]
 by_cases e:i=j
 ·subst e
  rw[lT _ hir]
  exact hR.ri.out ⟨rfl,rfl,rfl,rfl,rfl,rfl,rfl,rfl,rfl⟩ rfl
 ·rw[qy _ e]
  exact(h.r j hj).mono h.vi g2 (by omega)
section
variable {T:Int} {w:Wd} {G:Gh}
theorem WJ.CL (hw:WI T w) (h:WJ G w) {i:Nat} (hi:i<4):fv w.vs G i (ι w i):=
 ⟨h.r i hi,fun p hp=>(by rw[(hw.r i hi).out]at hp;cases hp),fun d hd=>(by rw[(hw.r i hi).done]at hd;cases hd)⟩
theorem Jc (hw:WI T w) (h:WJ G w) {i:Nat} (hi:i<4) {R:θ} (hn:oA w.vs G i R):∃ G',WJ G' (cU (bA w i R) i):=by
 obtain⟨G',g1,g2,g3,g4⟩:=hn
 refine⟨G',NC hw h hi g1 g2 g3 (fun e o ho=>?_) (fun e=>?_)⟩
 ·obtain⟨e',he⟩:=g4 e
  exact h.cs.ow e' o (he.subset ho)
 ·obtain⟨e',he⟩:=g4 e
  exact(h.cs.lo e').pre he
theorem abE (hw:WI T w) (h:WJ G w) {i:Nat} (hi:i<4) {R:θ} {o:Op} (hn:xb w.vs G i R o) (hc:∃ c∈w.cs,c.o=o) (hf:o.kd=3->∀ E,o ∉ G.lg E):∃ G',WJ G' (cU (bA w i R) i):=by
 obtain⟨G',g1,g2,g3,g4⟩:=hn
 refine⟨G',NC hw h hi g1 g2 g3 (fun e o' ho=>?_) (fun e=>?_)⟩
 ·rcases g4 e with ⟨e',he⟩ | ⟨E,he,_⟩
  ·exact h.cs.ow e' o' (he.subset ho)
  ·rw[he]at ho
   rcases dQ.1 ho with ho | ho
   ·exact h.cs.ow E o' ho
   ·rw[dm]at ho;subst ho;exact hc
 ·rcases g4 e with ⟨e',he⟩ | ⟨E,he,hne⟩
  ·exact(h.cs.lo e').pre he
  ·rw[he];exact(h.cs.lo E).snoc hne (fun k=>hf k E)
theorem Rz (h:WJ G w):WJ G (cJ w):=
 ⟨h.gi,h.vi,h.r,h.ψ,⟨h.cs.key,h.cs.ln,by have:=h.cs.n0;show 0<=w.now+1;omega,h.cs.sh,fun c hc=>by
  have t:=h.cs.tm c hc
  exact⟨t.b0,by have:=t.b1;show c.bg<=w.now+1;omega,t.e.imp id (fun⟨a,b⟩=>⟨a,by show c.en<=w.now+1;omega⟩)⟩,h.cs.ow,h.cs.lo,h.cs.en⟩,h.ok⟩
theorem AN (h:WJ G w) {b:List fU} (hb:∀ l∈b,l∈w.ψ):WJ G {w with ψ:=b }:=⟨h.gi,h.vi,h.r,fun l hl=>h.ψ l (hb l hl),h.cs,h.ok⟩
theorem NT (hw:WI T w) (h:WJ G w) {k:Nat} (hk:k<w.ψ.length):∃ G',WJ G' (l7 w k):=by
 have hl:=hw.ψ _ (sA hk)
 have t0:=hl.t0
 have t1:=hl.t1
 have hi:(fx w k).to.toNat<4:=by omega
 have h':WJ G (fq w k):=AN h (fun l hl=>List.mem_of_mem_eraseIdx hl)
 have hlt:iC w.vs G (fx w k).fr (fx w k).m:=h.ψ _ (sA hk)
 exact Jc (Jz hw k) h' hi (ZR (vs:=w.vs) h.gi h.vi (h.CL hw hi) (hw.r _ hi).w.i hlt)
theorem Vt (hw:WI T w) (h:WJ G w) {a:Nat} (ha:a<4) {v:Vw} (hv:v∈w.vs):∃ G',WJ G' (sc w a v):=
 Jc hw h ha (ah0 h.gi h.vi (h.CL hw ha) (hw.r _ ha).w.i hv)
theorem UZ (hw:WI T w) (h:WJ G w) {a:Nat} (ha:a<4):∃ G',WJ G' (oY w a):=
 Jc hw h ha (afY h.gi h.vi (h.CL hw ha) (hw.r _ ha).w.i)
theorem U3 (hw:WI T w) (hT:T<800) (h:WJ G w):∀ i,i<=4->∃ G',WJ G' (eQ w i)
 | 0,_=>⟨G,h⟩
 |i+1,hi=>by
  obtain⟨G',h'⟩:=U3 hw hT h i (by omega)
  exact UZ (uG hw hT i (by omega)).1 h' (by omega)
theorem aed (hw:WI T w) (h:WJ G w) {a:Nat} (ha:a<4):WJ G (bA w a (rU (ι w a) a)):=by
 have sP:a<w.R.length:=by rw[hw.rl];exact ha
 refine⟨h.gi,h.vi,fun j hj=>?_,h.ψ,h.cs,h.ok⟩
 by_cases e:a=j
 ·subst e
  rw[lT _ sP]
  have hr:=h.r a ha
  exact⟨rfl,rfl,rfl,rfl,hr.e0,hr.n0,hr.ac,hr.nl,hr.st,hr.rc,hr.rz,hr.al,.inl rfl,fun L hL=>qu hL⟩
 ·rw[qy _ e];exact h.r j hj
theorem aaP (h:WJ G w) {i:Nat} (hi:i<4) {c:fG} (hc:c∈w.cs):jw c.o=true->gu (ι w i).t c.o.cl c.o.nm=1->c.o∈(G.lg (ι w i).ep).take (ι w i).nu.toNat:=fun _ h1=>by
 have e2:(ι w i).t=(dd ((G.lg (ι w i).ep).take (ι w i).nu.toNat)).2:=congrArg Prod.snd (h.r i hi).st
 rw[e2]at h1
 obtain⟨o,c1,c2,c3,c4⟩:=XX (h.cs.lo _) _ h1
 obtain⟨c',fc,e'⟩:=h.cs.ow _ o (List.mem_of_mem_take c1)
 have:c'=c:=h.cs.same fc hc (by rw[e',c3]) (by rw[e',c4])
 subst this
 rw[e'];exact c1
theorem Ue (hw:WI T w) (h:WJ G w) {a:Nat} (ha:a<4) {c:fG} (hc:c∈w.cs) (hf:c.o.kd=3->∀ E,c.o ∉ G.lg E):∃ G',WJ G' (rZ w c.o a):=
 abE hw h ha (afh h.gi h.vi (h.CL hw ha) (hw.r _ ha).w.i c.o (aaP h ha hc)) ⟨c,hc,rfl⟩ hf
structure jH (w:Wd):Prop where
 h:∀ c∈w.cs,0<=c.o.cl/\c.o.nm<=kE w c.o.cl
theorem Ru (hn:jH w) (s:Sp) {c:fG} (hc:c∈w.cs):c.o.cl=(gk w s).cl->c.o.nm≠(gk w s).nm:=fun e t=>by
 have:=(hn.h c hc).2
 rw[e,t]at this
 have:kE w (bJ s)+1<=kE w (bJ s):=this
 omega
theorem abr (h:WJ G w) (h12:w.cs.length<=12) {o:Op} {v:Int} (hf:∀ c∈w.cs,c.o.cl=o.cl->c.o.nm≠o.nm) (hs:L8 w.cs.length ⟨o,v,w.now,-1⟩):WJ G {w with cs:=w.cs++[⟨o,v,w.now,-1⟩] }:=by
 refine⟨h.gi,h.vi,h.r,h.ψ,⟨?_,?_,h.cs.n0,fun i c hi=>?_,fun c hc=>mH h.cs.tm ⟨h.cs.n0,dy _,.inl rfl⟩ hc,fun e o ho=>?_,h.cs.lo,fun c hc h1 h2=>?_⟩,h.ok⟩
 ·refine List.pairwise_append.2 ⟨h.cs.key,List.pairwise_singleton _ _,fun a ha b hb=>?_⟩
  rw[dm]at hb;subst hb
  exact hf a ha
 ·show(w.cs++[_]).length<=13
  rw[bo,iL];omega
 ·have hi:(w.cs++[(⟨o,v,w.now,-1⟩:fG)])[i]? =some c:=hi
  have hlt:=(bO.1 hi).1
  rw[bo,iL]at hlt
  rcases(by omega:i<w.cs.length∨i=w.cs.length)with q | q
  ·rw[dX q]at hi;exact h.cs.sh i c hi
  ·subst q
   simp at hi
   subst hi
   exact hs
 ·obtain⟨c,hc,e'⟩:=h.cs.ow e o ho
  exact⟨c,iM _ hc,e'⟩
 ·have hc:c∈w.cs++[(⟨o,v,w.now,-1⟩:fG)]:=hc
  rcases dQ.1 hc with hc | hc
  ·obtain⟨e,n,c1,c2,c3,c4⟩:=h.cs.en c hc h1 h2
   refine⟨e,n,c1,c2,fun c' fc ho=>?_,c4⟩
   have fc:c'∈w.cs++[(⟨o,v,w.now,-1⟩:fG)]:=fc
   rcases dQ.1 fc with fc | fc
   ·exact c3 c' fc ho
   ·rw[dm]at fc;subst fc
    obtain⟨c2,gM,e2⟩:=h.cs.ow e _ (List.mem_of_mem_take ho)
    exact absurd (by rw[e2]) (hf c2 gM (by rw[e2]))
  ·rw[dm]at hc;subst hc
   exact absurd rfl h1
theorem abt (hn:jH w) (h:WJ G w) (s:Sp) (h12:w.cs.length<12):WJ G (lP w s):=by
 have pk:=kG s.k (n:=4) (by omega)
 have pb:=kG (γ.wrap (s.n.tdiv 2)) (n:=2) (by omega)
 have g:=abr h (by omega) (o:=gk w s) (v:=qq w s) (fun c hc=>Ru hn s hc) ⟨pb.1,pb.2,by show 1<=1+bH s.k 4;omega,by show 1+bH s.k 4<=4;omega,fun k=>by
  have k:1+bH s.k 4=1:=k
  exact⟨if_pos k,if_pos k⟩,fun k=>by
  have k:1+bH s.k 4=2:=k
  exact if_neg (by omega)⟩
 exact⟨g.gi,g.vi,g.r,g.ψ,g.cs,g.ok⟩
theorem afc (hw:WI T w) (hT:T<790) (hn:jH w) (h:WJ G w) (s:Sp):∃ G',WJ G' (lV w s (cE s)):=by
 have pa:=kG s.df (n:=4) (by omega)
 have ha:cE s<4:=by unfold cE;omega
 unfold lV
 split
 ·split
  ·rename_i c hc
   have hm:=List.mem_of_getLast? hc
   rw[lZ]at hm
   have hl:=hm.2
   unfold nh at hl
   rw[decide_eq_true_eq]at hl
   exact Ue hw h ha hm.1 (fun k=>absurd k hl.2.2)
  ·exact⟨G,h⟩
 ·split
  ·exact⟨G,h⟩
  ·rename_i h12
   have h2:=abt hn h s (by omega)
   have hm:(⟨gk w s,qq w s,w.now,-1⟩:fG)∈(lP w s).cs:=lD _ (dm.2 rfl)
   exact Ue (IT hw s (by omega)) h2 ha hm (fun _ E ho=>by
    obtain⟨c,hc,e⟩:=h.cs.ow E _ ho
    exact absurd (by rw[e]) (Ru hn s hc (by rw[e])))
end
section
variable {vs:List Vw} {G:Gh} {v:Vw}
theorem VD {e:Int} (h1:1<=e) (h2:e<=vs.length):og (vs++[v]) e=og vs e:=by
 unfold og
 rw[iY,iY,dX (by omega)]
theorem yo {e:Int} (h1:1<=e) (h2:e<=vs.length):iF (vs++[v]) e=iF vs e:=by unfold iF;rw[VD h1 h2]
theorem GI.pQ (h:GI vs G):GI (vs++[v]) G:=by
 have hl:∀ e,G.act e->iF (vs++[v]) e=iF vs e:=fun e a=>yo (h.a0 e a).1 (h.a0 e a).2
 exact⟨fun e a=>⟨(h.a0 e a).1,by have:=(h.a0 e a).2;rw[bo,iL];omega⟩,h.nl,h.nr,h.bl,h.p0,h.p1,h.p2,fun e a=>by rw[hl e a];exact h.p3 e a,fun e a=>by rw[hl e a];exact h.p4 e a,h.rl,fun e a=>by rw[hl e a];exact h.ld e a⟩
theorem Cm.pQ (hG:GI vs G) {e:Int} {n:Nat} (h:Cm vs G e n):Cm (vs++[v]) G e n:=
 ⟨h.a,h.n1,h.nl,by rw[VD (hG.a0 e h.a).1 (hG.a0 e h.a).2];exact h.al⟩
theorem RI.pQ (hG:GI vs G) (hV:VI vs G) {k:Int} {R:θ} (h:RI vs G k R):RI (vs++[v]) G k R:=
 ⟨h.me,h.id,h.bl,h.lo,h.e0,h.n0,h.ac,h.nl,h.st,h.rc,h.rz,fun e a q=>h.al e a (by rw[yo (hG.a0 e a).1 (hG.a0 e a).2]at q;exact q),h.v.imp (fun t=>t) (iM _),fun L hL=>by
  have hl:=h.l L hL
  have hv:=uL hV hl.v
  exact⟨iM _ hl.v,hl.ep,by rw[yo (by rw[hl.ep];exact hv.2.1) (by rw[hl.ep];exact hv.2.2)];exact hl.hd,hl.ins,hl.cy,hl.cur⟩⟩
theorem iC.pQ (hG:GI vs G) {fr:Int} {m:dI} (h:iC vs G fr m):iC (vs++[v]) G fr m:=by
 cases h with
 |sync e n a f b l x c=>exact .sync e n a (by rw[yo (hG.a0 e a).1 (hG.a0 e a).2];exact f) b l x c
 |ok kd e n hk hn=>exact .ok kd e n hk hn
 |op e n o s a f b g=>exact .op e n o s a (by rw[yo (hG.a0 e a).1 (hG.a0 e a).2];exact f) b g
theorem kR.pQ (hG:GI vs G) {cs:List fG} {now:Int} (h:kR vs G cs now):kR (vs++[v]) G cs now:=
 ⟨h.key,h.ln,h.n0,h.sh,h.tm,h.ow,h.lo,fun c hc h1 h2=>by
  obtain⟨e,n,c1,c2⟩:=h.en c hc h1 h2
  exact⟨e,n,c1.pQ hG,c2⟩⟩
theorem VI.pQ (hV:VI vs G) (h1:v.ve=(vs.length:Int)+1) (h2:v.vi=5) (h3:v.mem≠[]) (h4:(v.mem++v.aC).Nodup) (hx:∀ l,vs[vs.length - 1]? =some l->0<vs.length->∀ x∈v.mem,x∈l.mem∨(x∈l.aC/\G.act l.ve/\G.ba l.ve<=G.rc x l.ve)):VI (vs++[v]) G:=by
 refine⟨fun i u hi=>?_,fun u hu=>mH (P:=fun u:Vw=>u.mem≠[]) hV.m0 h3 hu,fun u hu=>mH (P:=fun u:Vw=>(u.mem++u.aC).Nodup) hV.nd h4 hu,fun i u u' hi hi' x hx'=>?_⟩
 ·have hlt:=(bO.1 hi).1
  rw[bo,iL]at hlt
  rcases(by omega:i<vs.length∨i=vs.length)with q | q
  ·rw[dX q]at hi;exact hV.ve i u hi
  ·subst q
   simp at hi
   subst hi
   exact⟨h1,h2⟩
 ·have hlt:=(bO.1 hi').1
  rw[bo,iL]at hlt
  rw[dX (by omega)]at hi
  rcases(by omega:i+1<vs.length∨i+1=vs.length)with q | q
  ·rw[dX q]at hi';exact hV.nx i u u' hi hi' x hx'
  ·rw[q]at hi'
   simp at hi'
   subst hi'
   exact hx u (by rw[<- q,Nat.add_sub_cancel];exact hi) (by omega) x hx'
end
section
variable {T:Int} {w:Wd} {G:Gh}
theorem QH (w:Wd):og w.vs (w.vs.length:Int)=bq w:=by
 unfold og bq zf
 rw[show((w.vs.length:Int) - 1).toNat=w.vs.length - 1 by omega];rfl
theorem QI (h:WJ G w) (hw:WI T w):(bq w).ve=w.vs.length:=by
 have:=hw.v0
 rw[<- QH,ah4 h.vi (by omega) (by omega)]
theorem agc (hw:WI T w) (h:WJ G w) (s:Sp) {a:Int} (ha:0<=a/\a<4):WJ G (oZ w s a):=by
 have v0:=hw.v0
 have qg:=QI h hw
 have ky:=vP hw
 have di:w.vs[w.vs.length - 1]? =some (bq w):=uJ (by omega)
 unfold oZ
 split
 ·exact h
 ·rename_i hr
  split
  ·rename_i hne
   have kC:=(IU (hw.vs _ ky) (bH s.k 3) ha).1
   have aay:(lQ (bq w) (bH s.k 3) a).ve=(bq w).ve+1:=((IU (hw.vs _ ky) (bH s.k 3) ha).2).resolve_left hne
   have hvi:(lQ (bq w) (bH s.k 3) a).vi=5:=by
    have:=(h.vi.ve _ _ di).2
    unfold lQ
    repeat' split
    all_goals exact this
   refine⟨h.gi.pQ,h.vi.pQ (by rw[aay,qg]) hvi kC.m0 kC.nd (fun l hl _ x hx=>?_),fun i hi=>(h.r i hi).pQ h.gi h.vi,fun l hl=>(h.ψ l hl).pQ h.gi,h.cs.pQ h.gi,h.ok⟩
   rw[di]at hl;cases hl
   unfold lQ at hx
   split at hx
   ·split at hx
    ·exact .inl hx
    ·exact .inl (sZ.1 hx).1
   ·split at hx
    ·split at hx
     ·exact .inl hx
     ·exact .inl hx
    ·split at hx
     ·rename_i h2
      split at hx
      ·exact .inl hx
      ·rename_i hj
       have hj:a∈(bq w).aC:=by simpa using hj
       rcases dQ.1 hx with hx | hx
       ·exact .inl hx
       ·rw[dm]at hx;subst hx
        refine .inr ⟨hj,?_⟩
        have hrd:=Classical.byContradiction fun t=>hr ⟨h2,t⟩
        have hm0:=(hw.vs _ ky).m0
        have hin:=HC hm0
        have Qj:=(hw.vs _ ky).rg _ (iM _ hin)
        have hk:(dJ (bq w)).toNat<4:=by omega
        have fP:=h.r _ hk
        obtain⟨r1,r2⟩:=hrd
        generalize ι w (dJ (bq w)).toNat=R at r1 r2 fP
        unfold ii at r1
        split at r1
        ·rename_i L hL
         have hl:=fP.l L hL
         have hv:=uL h.vi hl.v
         have e1:=hl.act h.vi
         have hvl:R.v=bq w:=by
          rw[<- hv.1,<- QH]
          congr 1
          rw[<- hl.ep,r2,qg]
         have hac:=fP.ac (by omega)
         have Qc:x≠R.me:=fun e=>by
          have hnd:=List.nodup_append.1 (hw.vs _ ky).nd
          have:x=dJ (bq w):=by rw[e,fP.me];omega
          exact hnd.2.2 _ hin _ hj this.symm
         have hins:=hl.ins x (uq.2 ⟨by rw[hvl];exact lD _ hj,Qc⟩) (List.all_eq_true.1 r1 x (uq.2 ⟨by rw[hvl];exact lD _ hj,Qc⟩))
         rw[<- r2]
         refine⟨hac.1,?_⟩
         have hb:=hac.2
         cases hc:L.cur with
         |none=>
          rw[hc]at hins
          have hins:R.nu<=(G.rc x R.ep:Int)+0:=hins
          omega
         |some o=>
          rw[hc]at hins
          have hins:R.nu<=(G.rc x R.ep:Int)+1:=hins
          have:=(hl.cur o hc).1
          omega
        ·cases r1
     ·exact .inl hx
  ·exact h
theorem jH.eq {w':Wd} (h:jH w) (h1:∀ c∈w'.cs,∃ c0∈w.cs,c.o=c0.o) (h2:w'.aX=w.aX):jH w':=⟨fun c hc=>by
 obtain⟨c0,hc0,e⟩:=h1 c hc
 have:=h.h c0 hc0
 rw[e];unfold kE at this ⊢;rw[h2];exact this⟩
theorem U6:∀(l:List Dn) (w:Wd),∀ c∈(l.foldl fM w).cs,∃ c0∈w.cs,c.o=c0.o
 | [],w,c,hc=>⟨c,hc,rfl⟩
 |d::l,w,c,hc=>by
  obtain⟨c1,h1,e1⟩:=U6 l (fM w d) c hc
  obtain⟨c0,h0,rfl⟩:=ef.1 h1
  exact⟨c0,h0,e1.trans (tr _ d c0).1⟩
theorem xJ (h:jH w) (i:Nat) (R:List θ):jH (cU {w with R:=R } i):=by
 refine h.eq (fun c hc=>?_) ?_
 ·unfold cU at hc
  obtain⟨c0,h0,e⟩:=U6 _ _ c hc
  rw[(oV i _ _).2.2.2.1]at h0
  exact⟨c0,h0,e⟩
 ·unfold cU
  rw[(wH _ _).2.2.2.1,(oV i _ _).2.2.2.2.1];rfl
theorem abu (h:jH w) (hw:WI T w) (s:Sp):jH (lP w s):=⟨fun c hc=>by
 have pc:=kG s.n (n:=2) (by omega)
 have hcl:bJ s=1+bH s.n 2:=rfl
 have hc:c∈w.cs++[(⟨gk w s,qq w s,w.now,-1⟩:fG)]:=hc
 have e0:kE (lP w s) (bJ s)=kE w (bJ s)+1:=by
  show(w.aX.set (bJ s).toNat _).getD (bJ s).toNat 0=_
  rw[iY,iz (by rw[hw.n3];omega)];rfl
 rcases dQ.1 hc with hc | hc
 ·obtain⟨h1,h2⟩:=h.h c hc
  refine⟨h1,?_⟩
  by_cases e:c.o.cl=bJ s
  ·rw[e,e0];rw[e]at h2;omega
  ·show c.o.nm<=(w.aX.set (bJ s).toNat _).getD c.o.cl.toNat 0
   rw[iY,gE (by omega),<- iY];exact h2
 ·rw[dm]at hc;subst hc
  exact⟨by show 0<=bJ s;omega,by show kE w (bJ s)+1<=kE (lP w s) (bJ s);rw[e0];exact dy _⟩⟩
theorem afg (h:jH w) (hw:WI T w) (s:Sp):jH (lV w s (cE s)):=by
 unfold lV
 split
 ·split
  ·exact xJ h _ _
  ·exact h
 ·split
  ·exact h
  ·exact xJ (abu h hw s) _ _
theorem U4 (h:jH w):∀ i,jH (eQ w i)
 | 0=>h
 |i+1=>xJ (U4 h i) _ _
theorem afn (h:jH w) (hw:WI T w) (s:Sp):jH (eP w s):=by
 have hN:jH (cJ w):=⟨h.h⟩
 have hn:=yE hw
 unfold eP kK
 repeat' split
 ·exact afg hN hn s
 ·exact xJ (w:=fq (cJ w) _) ⟨hN.h⟩ _ _
 ·exact hN
 ·exact⟨hN.h⟩
 ·exact hN
 ·exact⟨hN.h⟩
 ·exact hN
 ·exact⟨hN.h⟩
 ·unfold oZ
  repeat' split
  all_goals first | exact hN | exact⟨hN.h⟩
 ·exact xJ hN _ _
 ·exact U4 hN 4
 ·exact hN
theorem afm (hw:WI T w) (hT:T<700) (hn:jH w) (h:WJ G w) (s:Sp):∃ G',WJ G' (eP w s):=by
 have hN:=yE hw
 have hJ:=Rz h
 have hm:jH (cJ w):=⟨hn.h⟩
 have pa:=kG s.df (n:=4) (by omega)
 have ha:cE s<4:=by unfold cE;omega
 have p3:=kG s.n (n:=3) (by omega)
 have v0:=hw.v0
 have BT:mN w s∈w.vs:=gG (uJ (by omega))
 have hpk:0<w.ψ.length->iw w s<(cJ w).ψ.length:=fun hl=>by
  have:=kG s.n (n:=(w.ψ.length:Int)) (by omega)
  show(bH s.n w.ψ.length).toNat<w.ψ.length
  omega
 unfold eP kK
 repeat' split
 ·exact afc hN (by omega) hm hJ s
 ·rename_i hl;exact NT hN hJ (hpk hl)
 ·exact⟨G,hJ⟩
 ·exact⟨G,AN hJ (fun l hl=>List.mem_of_mem_eraseIdx hl)⟩
 ·exact⟨G,hJ⟩
 ·rename_i hl
  exact⟨G,AN hJ (fun l hl2=>mH (P:=fun l=>l∈w.ψ) (fun l h=>h) (sA (hpk hl.1)) hl2)⟩
 ·exact⟨G,hJ⟩
 ·exact⟨G,aed hN hJ ha⟩
 ·exact⟨G,agc hN hJ s (by omega)⟩
 ·exact Vt hN hJ ha (v:=mN w s) BT
 ·exact U3 hN (by omega) hJ 4 (au _)
 ·exact⟨G,hJ⟩
end
end Go.Proofs.YtfcjngcnifdmnaaGreat
namespace Go.Proofs.YtfcjngcnifdmnaaGreat.Hy
open Vc Go
open Go.IntKind renaming i64->γ,u8->ν,u32->iy
open Vc.V renaming any->δ,sl->ε,int->ζ,sb->ξ,ptr->an,χ->av,dat->aH,af->aO,mp->bb,arr->bD,agg->fw
open Vc.D renaming val->η,sl->ω
open Vc.KO renaming row->υ,dead->aa,cells->aw,objs->cY
open Go.Value renaming int->φ,map->kr,oneCell'->l0
open List renaming map->ae,drop->ax,take->aA,length_append->bo,getElem?_eq_getElem->bz,getElem?_eq_some_iff->bO,length_map->cp,take_length->cZ,length_take->dc,mem_singleton->dm,replicate->dp,mem_append->dQ,Mem->dW,getElem?_append_left->dX,mem_map->ef,append_assoc->eH,mem_cons->eI,getElem?_append_right->e_,append_nil->fu,getElem?_map->fH,take_of_length_le->fI,length_drop->fZ,mem_cons_of_mem->f_,getElem?_set_ne->gE,length_cons->gF,mem_of_getElem?->gG,getElem?_eq_none->g_,getElem?_set_self->iz,length_set->iA,mem_cons_self->iB,length_singleton->iL,mem_append_left->iM,range->iN,drop_zero->iX,getD_eq_getElem?_getD->iY,getElem?_take_of_lt->ji,flatten_cons->jt,nil_append->ju,getElem?_drop->jE,map_append->jZ,take_add_one->j2,length_nil->ko,ext_getElem?->lB,getElem?_of_mem->lC,mem_append_right->lD,map_cons->lY,mem_filter->lZ,eq_nil_of_length_eq_zero->mq
open Nat renaming le_refl->au,zero_le->bt,beq->cq,eq_of_beq_eq_true->cP,zero_add->cQ,add_assoc->gR,lor->iO,lt_or_ge->jF,sub_zero->kV
open Option renaming some->bc,bind_eq_some_iff->kW,map->mU
open Int renaming le_refl->dy,toNat_natCast->dD
open Bool renaming and_eq_true->iW,not_eq_false'->nI
set_option linter.unusedVariables false
set_option linter.unusedSimpArgs false
abbrev Call:=Int×Int×Int×Int
def RV (c:Call):Prop:=1<=c.1/\c.1<=3/\0<=c.2.2.1/\(c.2.2.2=-1∨c.2.2.1<=c.2.2.2)
def Fc (a b:Call):Prop:=a.2.2.2≠-1/\a.2.2.2<b.2.2.1
def KV (c:Call):Prop:=c.1=3/\c.2.2.2=-1
def ON (c:Call) (v:Int):Prop:=c.1=1∨c.1=2∨c.2.1=v
def Fl (l:List Call) (k:Nat):Call:=l.getD k (0,0,0,0)
instance (c:Call):Decidable (RV c):=by unfold RV;infer_instance
instance (a b:Call):Decidable (Fc a b):=by unfold Fc;infer_instance
instance (c:Call):Decidable (KV c):=by unfold KV;infer_instance
instance (c:Call) (v:Int):Decidable (ON c v):=by unfold ON;infer_instance
def free (l:List Call) (m k:Nat):Prop:=m.testBit k=false/\¬ KV (Fl l k)/\∀ o,o<l.length->m.testBit o=false->¬ Fc (Fl l o) (Fl l k)
end Go.Proofs.YtfcjngcnifdmnaaGreat.Hy
namespace Go.Proofs.YtfcjngcnifdmnaaGreat
open Vc Go
open Go.IntKind renaming i64->γ,u8->ν,u32->iy
open Vc.V renaming any->δ,sl->ε,int->ζ,sb->ξ,ptr->an,χ->av,dat->aH,af->aO,mp->bb,arr->bD,agg->fw
open Vc.D renaming val->η,sl->ω
open Vc.KO renaming row->υ,dead->aa,cells->aw,objs->cY
open Go.Value renaming int->φ,map->kr,oneCell'->l0
open List renaming map->ae,drop->ax,take->aA,length_append->bo,getElem?_eq_getElem->bz,getElem?_eq_some_iff->bO,length_map->cp,take_length->cZ,length_take->dc,mem_singleton->dm,replicate->dp,mem_append->dQ,Mem->dW,getElem?_append_left->dX,mem_map->ef,append_assoc->eH,mem_cons->eI,getElem?_append_right->e_,append_nil->fu,getElem?_map->fH,take_of_length_le->fI,length_drop->fZ,mem_cons_of_mem->f_,getElem?_set_ne->gE,length_cons->gF,mem_of_getElem?->gG,getElem?_eq_none->g_,getElem?_set_self->iz,length_set->iA,mem_cons_self->iB,length_singleton->iL,mem_append_left->iM,range->iN,drop_zero->iX,getD_eq_getElem?_getD->iY,getElem?_take_of_lt->ji,flatten_cons->jt,nil_append->ju,getElem?_drop->jE,map_append->jZ,take_add_one->j2,length_nil->ko,ext_getElem?->lB,getElem?_of_mem->lC,mem_append_right->lD,map_cons->lY,mem_filter->lZ,eq_nil_of_length_eq_zero->mq
open Nat renaming le_refl->au,zero_le->bt,beq->cq,eq_of_beq_eq_true->cP,zero_add->cQ,add_assoc->gR,lor->iO,lt_or_ge->jF,sub_zero->kV
open Option renaming some->bc,bind_eq_some_iff->kW,map->mU
open Int renaming le_refl->dy,toNat_natCast->dD
open Bool renaming and_eq_true->iW,not_eq_false'->nI
set_option linter.unusedVariables false
set_option linter.unusedSimpArgs false
set_option maxRecDepth 100000
open Classical in
section
variable {vs:List Vw} {G:Gh} {cs:List fG} {now:Int} {bk:Int}
end
def oQ (i:Nat):List θ:=(iN i).map fun(k:Nat)=>newR (k:Int) 5 false 0 0 jD []
def jN (i:Nat):Wd:=⟨oQ i,(oQ i).map fJ,[⟨5,1,1,[0,1],[]⟩],[],[],[0,0,0],0,true⟩
structure w9 where
 i:Nat
 W:Wd
 q:List (Nat×Nat)
 A:List (Sg×KB)
structure zN (x:w9):Prop where
 le:x.i<=4
 W:x.W=jN x.i
 p:PW x.A x.q x.W.R
abbrev zj (w:Wd) (q:List (Nat×Nat)) (A:List (Sg×KB)):KB:=[cY A,jC 2 w,ki q,kJ w,kj w,jQ w,la w,lb w]
def mdN:List jG:=[.cell 1 0 30 1,.cell 1 1 23 1,.cell 1 3 73 3,.cell 1 4 61 10]
abbrev IC:LI where
 α:={x:w9 // zN x}
 live:=[1,2]
 dV:=mdN
 st x:=([an 1 0,.int γ (x.1.i:Int)],zj x.1.W x.1.q x.1.A)
 μ x:=4 - x.1.i
def Q6:FuncId->Nat->Option LI
 | 8,3=>some IC
 |_,_=>none
def Je (S:aD):aD:=fun args kb K=>match kb with
 | []=>S args [cY []] K
 |kb=>S args kb K
def Ew:aD:=fun args kb K=>match args,kb with
 | [],[cY A]=>∃ l,bY A l/\∀ W,W=jN 4->∀ q A',PW A' q W.R->K (an 1 0) (zj W q A')
 |_,_=>False
theorem ag4 (A:List (Sg×KB)) (K:V->KB->Prop) (ar:
 let ah:=η (φ γ 1);let κ:=[η (φ γ 0)];2<=2/\
 At IC ([an 1 0,ζ γ 0],[cY A,aw [ε 2 0 0,ε 3 0 0,ε 4 0 1,ε 5 0 0,ε 6 0 0,ε 7 0 3,ζ γ 0,ξ true],υ 30 1 [],υ 23 1 [],υ 49 5 [[η (φ γ 5),ah,ah,ω 1 [κ,[ah]],ω 1 []]],υ 73 3 [],υ 61 10 [],υ 3 1 [κ,κ,κ]])/\
 ∀(i:{x:w9 // zN x }),let bp:=υ 49 5 (ae c8 i.val.W.vs);let aV:=υ 61 10 (ae c9 i.val.W.cs);let aJ:=υ 73 3 (ae cN i.val.W.ψ);let aL:=υ 3 1 (ints γ i.val.W.aX);let az:=(ae bB i.val.W.dk);(decide ((↑i.val.i:Int)<4)=true->
 ∃(A:List (Sg×KB)),∃(l:List (Nat×θ)),w0 [cY i.val.A] A/\
 bY A l/\
 ∀(b:Nat) (A':List (Sg×KB)),bY A' (l++[(b,newR (↑i.val.i:Int) 5 false 0 0 jD [])])->
 (false=true->
 K (δ (Value.pointer none)) [cY A'])/\
 (false=false->
 1<=1/\
 i.val.W.R.length<=(ae cd i.val.q).length/\
 (i.val.W.R.length+1)*8<=140737488355328/\
 True/\
 ∃(l:List (Nat×θ)),∃(i_1:Nat),∃(b_1:Nat),∃(R:θ),bY A' l/\
 l[i_1]? =some (b_1,R)/\
 pv b=pv b_1/\
 iP []/\
 bu R/\
 iK R.ep/\
 ∀(A':List (Sg×KB)),bY A' (l.set i_1 (b_1,R))->
 True/\
 1<=1/\
 i.val.W.dk.length<=az.length/\
 (i.val.W.dk.length+1)*24<=140737488355328/\
 Nx IC i ([an 1 0,ζ γ (γ.wrap ((↑i.val.i:Int)+1))],[cY A',aw [ε 2 0 (i.val.W.R.length+1),ε 3 0 (i.val.W.dk.length+1),ε 4 0 i.val.W.vs.length,ε 5 0 i.val.W.ψ.length,ε 6 0 i.val.W.cs.length,ε 7 0 i.val.W.aX.length,ζ γ i.val.W.now,ξ i.val.W.ok],υ 30 1 (aA i.val.W.R.length (ae cd i.val.q)++[[η (pv b)]]),υ 23 1 (aA i.val.W.dk.length az++[[ω 1 (ints ν (fJ R))]]),bp,aJ,aV,aL])))/\
 (decide ((↑i.val.i:Int)<4)=false->
 K (an 1 0) [cY i.val.A,aw [ε 2 0 i.val.W.R.length,ε 3 0 i.val.W.dk.length,ε 4 0 i.val.W.vs.length,ε 5 0 i.val.W.ψ.length,ε 6 0 i.val.W.cs.length,ε 7 0 i.val.W.aX.length,ζ γ i.val.W.now,ξ i.val.W.ok],υ 30 1 (ae cd i.val.q),υ 23 1 az,bp,aJ,aV,aL])
 ):aK Tryz.prog E7 (Q6 8) 8 [] [cY A] (dx 1 K):=by apply Eq.mp (a:=ar);kernel_rfl
theorem abF {P:Program} {f:FuncId} {S:aD} (hS:aR P f S):aR P f (Je S):=fun args kb K h σ E W xs hi hd=>by
 unfold Je at h
 split at h
 ·have hl:=hi.len
  have hσ:σ=[]:=List.length_eq_zero_iff.1 (by rw[hl];rfl)
  subst hσ
  have hno:∀ b,¬ ct ([⟨0,0,0⟩]:Sg) [cY []] b:=by
   rintro b ⟨i,r,o,h1,h2,h3⟩
   cases i with
   |zero=>
    simp at h2;subst h2
    obtain⟨a,ha,_⟩:=h3
    cases ha
   |succ i=>simp at h2
  have hs:Step [] E [] W ([⟨0,0,0⟩]:Sg) E [cY []] W:=by
   refine⟨⟨rfl,fun i r o h1 h2=>?_,fun i j r r' o o' b hij h1 h2 h3 h4 h5 h6=>(hno b ⟨i,r,o,h1,h2,h5⟩).elim,hi.dj,fun b hb=>(hno b hb).elim⟩,tF.refl _ _,⟨_,rfl⟩,EH.le.refl E,fun b hb=>(hno b hb).elim,fun b o hb=> .inl hb⟩
   cases i with
   |zero=>
    simp at h2;subst h2
    exact⟨fun a ha=>(by cases ha),fun i j a a' b hij h=>by simp at h⟩
   |succ i=>simp at h2
  have hd2:aq ([⟨0,0,0⟩]:Sg) E args xs:=by
   have:=aq.mono (σ:=[]) (τ:=[⟨0,0,0⟩]) (EH.le.refl E) hd
   simpa using this
  refine(hS _ _ _ h _ E W xs hs.inv hd2).mono ?_
  rintro e W' ⟨v,r,σ',E',kb',h1,h2,h3,h4⟩
  exact⟨v,r,σ',E',kb',h1,hs.trans h2,h3,h4⟩
 ·exact hS _ _ _ h σ E W xs hi hd
theorem Q_ (i:Nat):oQ (i+1)=oQ i++[newR (i:Int) 5 false 0 0 jD []]:=by unfold oQ;rw[List.range_succ,jZ];rfl
theorem yy (i:Nat):(oQ i).length=i:=by unfold oQ;rw[cp,List.length_range]
theorem Yi (l:List (Nat×θ)):CU l [] []:=⟨rfl,fun i p h=>by simp at h,List.Pairwise.nil⟩
theorem CU.app {l:List (Nat×θ)} {q:List (Nat×Nat)} {R:List θ} (h:CU l q R) (b:Nat) (r:θ):CU (l++[(b,r)]) (q++[(l.length,b)]) (R++[r]):=by
 have hlt:∀(j:Nat) (p:Nat×Nat),q[j]? =some p->p.1<l.length:=fun j p hj=>by
  obtain⟨_,_,h2⟩:=h.a j p hj
  exact(bO.1 h2).1
 refine⟨by simp [h.len],fun j p hj=>?_,?_⟩
 ·rcases Nat.lt_trichotomy j q.length with hm | hm | hm
  ·rw[dX hm]at hj
   obtain⟨r2,h1,h2⟩:=h.a j p hj
   exact⟨r2,by rw[dX (by rw[<- h.len];exact hm)];exact h1,by rw[dX (hlt j p hj)];exact h2⟩
  ·subst hm
   rw[e_ (au _)]at hj
   simp at hj;subst hj
   exact⟨r,by rw[e_ (by rw[h.len];exact au _)];simp [h.len],by rw[e_ (au _)];simp⟩
  ·rw[g_ (by simp;omega)]at hj;cases hj
 ·rw[jZ]
  refine List.nodup_append.2 ⟨h.nd,by simp,fun x hx y hy=>?_⟩
  rw[lY,List.map_nil,dm]at hy
  obtain⟨p,hp,rfl⟩:=ef.1 hx
  obtain⟨j,hj⟩:=lC hp
  have:=hlt j p hj
  rw[hy];show p.1≠l.length;omega
theorem acf:aR Tryz.prog 8 Ew:=lh MD mixed (fun args kb K h=>by
 unfold Ew at h;split at h<;>try exact h.elim
 rename_i A
 obtain⟨l,hA,h⟩:=h
 refine⟨Q6 8,ag4 A K ⟨au _,At.mk' (⟨⟨0,jN 0,[],A⟩,bt _,rfl,⟨l,hA,Yi l⟩⟩:{x:w9 // zN x}) rfl,?_⟩⟩
 rintro⟨⟨i,W,q1,A1⟩,hi,hW,P1⟩
 dsimp only at hi hW P1 ⊢
 subst hW
 obtain⟨l1,Zw,rf⟩:=P1.h
 have Pe:(jN i).R.length=i:=yy i
 have hDl:(jN i).dk.length=i:=by show((oQ i).map fJ).length=i;rw[cp,yy]
 have Qg:q1.length=i:=by rw[rf.len];exact yy i
 rw[Pe,hDl]
 refine⟨fun hlt=>⟨A1,l1,⟨.inr rfl⟩,Zw,fun b A2 p2=>⟨fun t=>(by cases t),fun _=>⟨au _,by rw[cp,Qg];exact au _,by omega,trivial,_,l1.length,b,newR (i:Int) 5 false 0 0 jD [],p2,by simp,rfl,⟨rfl⟩,Cw _ _ _ _ (dy _) (by omega) rfl Lf Jp,⟨by show(0:Int)<=_;omega⟩,fun A3 p3=>⟨trivial,au _,by rw[cp,hDl];exact au _,by omega,?_⟩⟩⟩⟩,fun hge=>?_⟩
 ·have hlt:i<4:=by rw[decide_eq_true_eq]at hlt;omega
  have dR:(l1++[(b,newR (i:Int) 5 false 0 0 jD [])]).set l1.length (b,newR (i:Int) 5 false 0 0 jD [])=l1++[(b,newR (i:Int) 5 false 0 0 jD [])]:=by
   rw[List.set_append_right _ _ (au _),Nat.sub_self];rfl
  rw[dR]at p3
  refine Nx.mk' (⟨⟨i+1,jN (i+1),q1++[(l1.length,b)],A3⟩,hlt,rfl,⟨_,p3,by show CU _ _ (oQ (i+1));rw[Q_];exact rf.app b _⟩⟩:{x:w9 // zN x}) ?_ (by show 4 - (i+1)<4 - i;omega)
  have e1:(jN (i+1)).R.length=i+1:=yy _
  have e2:(jN (i+1)).dk.length=i+1:=by show((oQ (i+1)).map fJ).length=_;rw[cp,yy]
  have e3:(jN (i+1)).dk.map bB=aA i ((jN i).dk.map bB)++[[ω 1 (ints ν (fJ (newR (i:Int) 5 false 0 0 jD [])))]]:=by
   rw[fI (by rw[cp,hDl];exact au _)]
   show((oQ (i+1)).map fJ).map bB=((oQ i).map fJ).map bB++_
   rw[Q_,jZ,jZ];rfl
  have e4:(q1++[(l1.length,b)]).map cd=aA i (q1.map cd)++[[η (pv b)]]:=by
   rw[fI (by rw[cp,Qg];exact au _),jZ];rfl
  show(_,_)=(_,zj (jN (i+1)) (q1++[(l1.length,b)]) A3)
  unfold zj jC kJ ki
  rw[e1,e2,e3,e4,bS (by omega) (by omega)]
  rfl
 ·have hi:i=4:=by rw[decide_eq_false_iff_not]at hge;omega
  subst hi
  have:=h _ rfl q1 A1 P1
  unfold zj jC at this
  rw[Pe,hDl]at this
  exact this)
def L9:aD:=Je Ew
theorem ace:aR Tryz.prog 8 L9:=abF acf
theorem IH:WI 1 (jN 4):=by
 have hr:∀ i,i<4->ι (jN 4) i=newR (i:Int) 5 false 0 0 jD []:=fun i hi=>by
  rcases i with _ | _ | _ | _ | i
  ·rfl
  ·rfl
  ·rfl
  ·rfl
  ·omega
 refine⟨rfl,rfl,fun i hi=>?_,fun i hi=>?_,fun v hv=>?_,by decide,by decide,fun l hl=>(by cases hl),by decide,fun c hc=>(by cases hc),by decide,rfl,fun n hn=>?_,by decide,by decide⟩
 ·rw[hr i hi]
  exact⟨⟨Cw _ _ _ _ (dy _) (by omega) rfl Lf Jp,rfl,dy _,by show(0:Int)<=1;omega,by show(0:Int)<=1;omega,bt _,dy _,by show(0:Int)<=1;omega,fun p hp=>(by cases hp),fun d hd=>(by cases hd),fun o ho=>by simp [newR,b_]at ho⟩,rfl,rfl,rfl,rfl⟩
 ·rw[hr i hi]
  rcases i with _ | _ | _ | _ | i
  ·rfl
  ·rfl
  ·rfl
  ·rfl
  ·omega
 ·have hv:v∈[(⟨5,1,1,[0,1],[]⟩:Vw)]:=hv
  rw[dm]at hv;subst hv
  exact⟨by decide,by decide,by decide,by decide,by decide,by decide⟩
 ·have hn:n∈[(0:Int),0,0]:=hn
  simp only[eI,List.not_mem_nil,or_false]at hn;omega
def nA (s:Sp):List D:=[dn γ s.d,dn γ s.df,dn γ s.n,dn γ s.k,db s.ag]
noncomputable def dB (l:List Sp):Wd:=l.foldl eP (jN 4)
structure zJ (l:List Sp) (x:j5):Prop where
 le:x.i<=l.length
 W:x.W=dB (l.take x.i)
 p:PW x.A x.q x.W.R
def Ie:FuncId->Option dK
 | 8=>some ⟨[.ig],L9⟩
 | 9=>some ⟨[.ig],WM GStep⟩
 | 7=>some ⟨[.ig],Eg⟩
 | 12=>some ⟨[.gj 1,.gj 1],An⟩
 |f=>wo f
theorem aaJ:dP Tryz.prog Ie:=fun f k h=>by
 unfold Ie at h
 split at h
 ·cases h;exact ace
 ·cases h;exact Sh
 ·cases h;exact abH
 ·cases h;exact Jm
 ·exact C3 _ _ h
theorem OV:∀(l:List Sp) {w:Wd} {T:Int},WI T w->T+3*(l.length:Int)<=690->WI (T+3*(l.length:Int)) (l.foldl eP w)
 | [],w,T,h,_=>h.mono (by simp)
 |s::l,w,T,h,ht=>by
  rw[gF]at ht
  exact(OV l (tn h (by omega) s).2 (by omega)).mono (by rw[gF];omega)
theorem J6 {l:List Sp} (h:l.length<=80):WI (1+3*(l.length:Int)) (dB l):=OV l IH (by omega)
theorem aeJ {l:List Sp} {i:Nat} (h:i<l.length):dB (l.take (i+1))=eP (dB (l.take i)) l[i]:=by
 unfold dB
 rw[j2,bz h,List.foldl_append];rfl
theorem wy {α:Type} {l:List α} {i:Nat} {x:α} (h:l[i]? =some x):l.set i x=l:=by
 obtain⟨h1,h2⟩:=bO.1 h
 rw[<- h2,List.set_getElem_self]
theorem Xe {α:Type} {l:List α} {i:Nat} {x:α} (y:α) (h:l[i]? =some x):(l++[y])[i]? =some x:=by
 rw[dX (bO.1 h).1];exact h
theorem CU.grow {l:List (Nat×θ)} {q:List (Nat×Nat)} {R:List θ} (h:CU l q R) (y:Nat×θ):CU (l++[y]) q R:=
 ⟨h.len,fun j p hj=>by
  obtain⟨r2,h1,h2⟩:=h.a j p hj
  exact⟨r2,h1,Xe y h2⟩,h.nd⟩
theorem X9 {x:List D} (h:gP [.int γ,.int γ,.int γ,.int γ,.bool] x):∃ a:Sp,x=nA a/\True:=by
 simp only[gP,tC]at h
 obtain⟨_,_,rfl,⟨a,rfl,_⟩,_,_,rfl,⟨b,rfl,_⟩,_,_,rfl,⟨c,rfl,_⟩,_,_,rfl,⟨d,rfl,_⟩,_,_,rfl,⟨e,rfl⟩,rfl⟩:=h
 exact⟨⟨a,b,c,d,e⟩,rfl,trivial⟩
def Zk:Gh:=⟨fun _=>False,fun _=>0,fun _=>0,fun _=>[],fun _ _=>0⟩
theorem abm:WJ Zk (jN 4):=by
 refine⟨⟨fun e a=>a.elim,fun e _=>rfl,fun x e _=>rfl,fun e a=>a.elim,fun e a=>a.elim,fun e a=>a.elim,fun e a=>a.elim,fun e a=>a.elim,fun e a=>a.elim,fun x e=>au _,fun e a=>a.elim⟩,⟨fun i v hi=>?_,fun v hv=>?_,fun v hv=>?_,fun i v v' h1 h2=>?_⟩,fun i hi=>?_,fun l hl=>(by cases hl),⟨List.Pairwise.nil,bt _,dy _,fun i c hi=>(by have hi:([]:List fG)[i]? =some c:=hi;simp at hi),fun c hc=>(by cases hc),fun e o ho=>(by cases ho),fun e=> .nil,fun c hc=>(by cases hc)⟩,rfl⟩
 ·have hi:[(⟨5,1,1,[0,1],[]⟩:Vw)][i]? =some v:=hi
  rcases i with _ | i
  ·cases hi;exact⟨rfl,rfl⟩
  ·simp at hi
 ·have hv:v∈[(⟨5,1,1,[0,1],[]⟩:Vw)]:=hv
  rw[dm]at hv;subst hv;decide
 ·have hv:v∈[(⟨5,1,1,[0,1],[]⟩:Vw)]:=hv
  rw[dm]at hv;subst hv;decide
 ·have h2:[(⟨5,1,1,[0,1],[]⟩:Vw)][i+1]? =some v':=h2
  simp at h2
 ·have hr:ι (jN 4) i=newR (i:Int) 5 false 0 0 jD []:=by
   rcases i with _ | _ | _ | _ | i
   ·rfl
   ·rfl
   ·rfl
   ·rfl
   ·omega
  rw[hr]
  exact⟨rfl,rfl,rfl,rfl,dy _,dy _,fun h=>absurd rfl h,dy _,rfl,rfl,fun _ _=>rfl,fun e a=>a.elim,.inl rfl,fun L hL=>qu hL⟩
theorem abn:jH (jN 4):=⟨fun c hc=>by cases hc⟩
theorem OW:∀(l:List Sp) {w:Wd} {T:Int} {G:Gh},WI T w->jH w->WJ G w->T+3*(l.length:Int)<=690->∃ G',WJ G' (l.foldl eP w)
 | [],w,T,G,_,_,h,_=>⟨G,h⟩
 |s::l,w,T,G,hw,hn,h,ht=>by
  rw[gF]at ht
  obtain⟨G',h'⟩:=afm hw (by omega) hn h s
  exact OW l (tn hw (by omega) s).2 (afn hn hw s) h' (by omega)
theorem TH {l:List Sp} (h:l.length<=120):∃ G,WJ G (dB l):=OW l IH abn abm (by omega)
def Dq (R:θ):Prop:=∀ L o,R.ld=some L->L.cur=some o->(aQ R).all L.cy=false
structure Gs (ac:Int->Int->Prop) (R R':θ):Prop where
 ep:R.ep<=R'.ep
 ins:∀ L',R'.ld=some L'->∀ x,L'.ins x=true->(∃ L,R.ld=some L/\R.ep=R'.ep/\L.ins x=true)∨ac x R'.ep
 out:∀ p∈R'.out,p∈R.out∨bi p.m 1<=R'.ep
section
variable {ac:Int->Int->Prop} {R R1:θ}
theorem qX (h:R.ld=none):Dq R:=fun L o h1=>qu (h.symm.trans h1)
theorem Gs.same (e1:R1.ep=R.ep) (e2:R1.ld=R.ld) (ho:∀ p∈R1.out,p∈R.out∨bi p.m 1<=R.ep):Gs ac R R1:=
 ⟨by rw[e1];exact dy _,fun L' h x hx=> .inl ⟨L',e2 ▸ h,e1.symm,hx⟩,by rw[e1];exact ho⟩
theorem Gs.refl (R:θ):Gs ac R R:=.same rfl rfl fun p hp=> .inl hp
theorem Gs.no (e1:R.ep<=R1.ep) (e2:R1.ld=none) (ho:∀ p∈R1.out,p∈R.out∨bi p.m 1<=R1.ep):Gs ac R R1:=
 ⟨e1,fun L' h=>qu (e2.symm.trans h),ho⟩
theorem Gs.snd (h:Gs ac R R1) (to kd:Int) (n b:List Int) (l:List (List Int)):Gs ac R (il R1 to kd n b l):=
 ⟨h.ep,h.ins,fun p hp=>by
  have hp:p∈R1.out++[⟨to,⟨kd,R1.id::R1.ep::n,b,l⟩⟩]:=hp
  rcases dQ.1 hp with hp | hp
  ·exact h.out p hp
  ·rw[dm]at hp;subst hp;exact .inr (dy _)⟩
theorem Gs.fin (h:Gs ac R R1):Gs ac R (fb R1):=by
 unfold fb
 split
 ·rename_i L hL
  split
  ·split
   ·exact⟨h.ep,fun L' e=>(bc.inj e) ▸ h.ins L hL,h.out⟩
   ·exact h
  ·exact h
 ·exact h
theorem GK:Dq (fb R):=by
 unfold fb
 split
 ·rename_i L hL
  split
  ·rename_i o ho
   split
   ·exact fun L' o' e c=>by cases e;cases c
   ·rename_i hn
    exact fun L' o' e c=>by rw[hL]at e;cases e;simpa using hn
  ·rename_i ho
   exact fun L' o' e c=>by rw[hL]at e;cases e;rw[ho]at c;cases c
 ·rename_i hl;exact qX hl
theorem Gs.Rc {L:bX} (hL:R.ld=some L) {fr:Int} {q:Int->Bool} {c:Option Op}:Gs (fun x e=>x=fr/\R.ep=e) R {R with ld:=some ⟨mark L.ins fr true,q,c⟩ }:=
 ⟨dy _,fun L' e x hx=>by
  cases e
  rcases Co hx with rfl | hx
  ·exact .inr ⟨rfl,rfl⟩
  ·exact .inl ⟨L,hL,rfl,hx⟩,fun p hp=> .inl hp⟩
theorem Gs.cg {MK:Int->Int->Prop} (h:Gs ac R R1) (e:∀ x,ac x R1.ep->MK x R1.ep):Gs MK R R1:=⟨h.ep,fun L' a x b=>(h.ins L' a x b).imp id (e x),h.out⟩
theorem ZM (R:θ) (fr:Int) (m:dI):Gs (fun x e=>x=fr/\bi m 1=e) R (dE R fr m)/\(Dq R->Dq (dE R fr m)):=by
 have same:Gs (fun x e=>x=fr/\bi m 1=e) R R/\(Dq R->Dq R):=⟨.refl R,id⟩
 have Rn:Gs (fun x e=>x=fr/\bi m 1=e) R (nT R fr)/\(Dq R->Dq (nT R fr)):=⟨(Gs.refl R).snd ..,id⟩
 unfold dE
 split
 ·exact same
 ·split
  ·unfold iH
   split
   ·exact Rn
   ·rename_i hn
    split
    ·exact⟨Gs.snd (R:=R) (R1:={gn R with ep:=bi m 1,nu:=bi m 2,c:=_,t:=_,ch:=true }) (Gs.no (R:=R) (by show R.ep<=bi m 1;omega) rfl fun p hp=> .inl hp) ..,fun _=>qX rfl⟩
    ·exact same
  ·split
   ·unfold im
    split
    ·exact same
    ·rename_i L hL
     split
     ·exact same
     ·rename_i hne
      have he:bi m 1=R.ep:=Classical.byContradiction fun t=>hne (.inl t)
      split
      ·rename_i hc
       exact⟨(Gs.Rc hL).cg fun x a=>⟨a.1,he⟩,fun _ L' o e c=>by cases e;cases c⟩
      ·exact⟨Gs.fin ((Gs.Rc hL).cg fun x a=>⟨a.1,he⟩),fun _=>GK⟩
   ·split
    ·unfold iG
     split
     ·exact⟨(Gs.refl R).snd ..,id⟩
     ·split
      ·rename_i hc
       have hl:=QN hc.2.2.1
       exact⟨Gs.snd (R1:=ir R (ux m)) (Gs.same (R:=R) (R1:=ir R (ux m)) rfl rfl fun p hp=> .inl hp) ..,fun _=>qX hl⟩
      ·exact Rn
    ·split
     ·unfold ic
      split
      ·exact same
      ·rename_i L hL
       split
       ·exact same
       ·split
        ·exact⟨Gs.fin ⟨dy _,fun L' e x hx=>by cases e;exact .inl ⟨L,hL,rfl,hx⟩,fun p hp=> .inl hp⟩,fun _=>GK⟩
        ·exact same
     ·unfold ij
      split
      ·exact same
      ·rename_i L hL
       split
       ·exact⟨.no (dy _) rfl fun p hp=> .inl hp,fun _=>qX rfl⟩
       ·split
        ·exact⟨.no (dy _) rfl fun p hp=> .inl hp,fun _=>qX rfl⟩
        ·exact⟨(⟨dy _,fun L' e x hx=>by cases e;exact .inl ⟨L,hL,rfl,Q4 hx⟩,fun p hp=> .inl hp⟩:Gs (fun x e=>x=fr/\bi m 1=e) R {R with ld:=some {L with ins:=mark L.ins fr false } }).snd ..,fun h L' o e c=>by cases e;exact h L o hL c⟩
theorem afS (R:θ):Gs ac R (cL R)/\(Dq R->Dq (cL R)):=by
 unfold cL
 split
 ·rename_i hl;exact⟨.same rfl rfl fun p hp=> .inl hp,fun _=>qX hl⟩
 ·rename_i L hL
  split
  ·refine⟨.same rfl rfl fun p hp=>?_,id⟩
   rcases dQ.1 hp with hp | hp
   ·exact .inl hp
   ·obtain⟨x,_,hx⟩:=List.mem_flatMap.1 hp
    unfold fX at hx
    split at hx
    ·rw[dm]at hx;subst hx;exact .inr (dy _)
    ·split at hx
     ·split at hx
      ·rw[dm]at hx;subst hx;exact .inr (dy _)
      ·cases hx
     ·cases hx
  ·exact⟨.same rfl rfl fun p hp=> .inl hp,id⟩
theorem ahW (R:θ) (w:Vw):Gs ac R (dT R w)/\(Dq R->Dq (dT R w)):=by
 cases hg:dL R w with
 |false=>rw[uK hg];exact⟨.refl R,id⟩
 |true=>
  have hge:R.ep<=w.ve:=by
   unfold dL at hg
   rw[iW,decide_eq_true_eq]at hg
   exact hg.1.2.2.1
  cases hl:fe R w with
  |false=>rw[wJ hg hl];exact⟨.no (dy _) rfl fun p hp=> .inl hp,fun _=>qX rfl⟩
  |true=>
   rw[wK hg hl]
   refine⟨⟨hge,fun L' e x hx=>?_,fun p hp=>?_⟩,fun _ L' o e c=>?_⟩
   ·cases e;cases hx
   ·rcases dQ.1 hp with hp | hp
    ·exact .inl hp
    ·obtain⟨x,_,rfl⟩:=ef.1 hp;exact .inr (dy _)
   ·cases e;cases c
theorem afb (R:θ) (o:Op):Gs ac R (eE R o).2/\(Dq R->Dq (eE R o).2):=by
 have same:Gs ac R R/\(Dq R->Dq R):=⟨.refl R,id⟩
 unfold eE
 split
 ·exact same
 ·split
  ·exact same
  ·rename_i L hL
   split
   ·exact same
   ·split
    ·exact same
    ·split
     ·rename_i e R1 hk
      split at hk
      ·unfold lN at hk
       split at hk
       ·cases hk;exact⟨.same rfl rfl fun p hp=> .inl hp,id⟩
       ·split at hk
        ·cases hk;exact same
        ·split at hk
         ·cases hk
         ·cases hk;exact same
      ·cases hk
     ·unfold lF
      dsimp only
      rw[sO]
      refine⟨Gs.fin ⟨dy _,fun L' e x hx=>?_,fun p hp=>?_⟩,fun _=>GK⟩
      ·cases e;exact .inl ⟨L,hL,rfl,hx⟩
      ·rcases dQ.1 hp with hp | hp
       ·exact .inl hp
       ·obtain⟨x,_,rfl⟩:=ef.1 hp;exact .inr (dy _)
end
structure EJ (w:Wd):Prop where
 ψ:∀ l∈w.ψ,∃ i:Nat,i<4/\l.fr=i/\bi l.m 1<=(ι w i).ep
 ins:∀ i,i<4->∀ L,(ι w i).ld=some L->∀ x:Nat,x<4->L.ins x=true->(ι w i).ep<=(ι w x).ep
 dq:∀ i,i<4->Dq (ι w i)
section
variable {w:Wd} {T:Int}
theorem xI (w:Wd) {i:Nat} (R:θ) (hi:i<w.R.length):ι (cU (bA w i R) i) i=iR R:=by
 have e1:ι (bA w i R) i=R:=lT R hi
 have e2:(cU (bA w i R) i).R=(bA w i (iR R)).R:=by
  unfold cU
  rw[e1,(uH _ _).1,(oV i _ _).1]
  show(w.R.set i R).set i (iR (ι (bA w i R) i))=w.R.set i (iR R)
  rw[e1,List.set_set]
 rw[td e2,lT _ hi]
theorem xK (w:Wd) (i:Nat) (R:θ):(cU (bA w i R) i).vs=w.vs:=by
 unfold cU
 rw[(wH _ _).2.1,(oV i _ _).2.2.1];rfl
theorem NB (w:Wd) {i:Nat} (R:θ) (hi:i<w.R.length):(cU (bA w i R) i).ψ=(dr (fK (bA w i R) i) i R.out).ψ:=by
 unfold cU
 rw[lT R hi,(wH _ _).2.2.1]
theorem AU {ac:Int->Int->Prop} (h:EJ w) (hl:w.R.length=4) {i:Nat} (hi:i<4) {R:θ} (ho:(ι w i).out=[]) (g:Gs ac (ι w i) R/\(Dq (ι w i)->Dq R)) (hac:∀(x:Nat) e,x<4->ac x e->e<=(ι w x).ep):EJ (cU (bA w i R) i):=by
 obtain⟨g,gd⟩:=g
 have ea:=xI w R (i:=i) (by omega)
 have en:∀ j,i≠j->ι (cU (bA w i R) i) j=ι w j:=fun j e=>vr w R e (by omega)
 have mono:∀ j,(ι w j).ep<=(ι (cU (bA w i R) i) j).ep:=fun j=>by
  by_cases e:i=j
  ·subst e;rw[ea];exact g.ep
  ·rw[en j e];exact dy _
 refine⟨?_,fun j hj L hL x hx hm=>?_,fun j hj=>?_⟩
 ·rw[NB w R (by omega)]
  refine Kc (P:=fun l=>∃ k:Nat,k<4/\l.fr=k/\bi l.m 1<=(ι (cU (bA w i R) i) k).ep) i R.out _ (fun p hp=>⟨i,hi,rfl,?_⟩) (fun l hl=>?_)
  ·rcases g.out p hp with h1 | h1
   ·rw[ho]at h1;cases h1
   ·rw[ea];exact h1
  ·obtain⟨k,k1,k2,k3⟩:=h.ψ l hl
   exact⟨k,k1,k2,Int.le_trans k3 (mono k)⟩
 ·by_cases e:i=j
  ·subst e
   rw[ea]at hL ⊢
   rcases g.ins L hL x hm with ⟨L0,l1,l2,l3⟩ | a
   ·show R.ep<=_
    rw[<- l2];exact Int.le_trans (h.ins i hj L0 l1 x hx l3) (mono x)
   ·exact Int.le_trans (hac x _ hx a) (mono x)
  ·rw[en j e]at hL ⊢
   exact Int.le_trans (h.ins j hj L hL x hx hm) (mono x)
 ·by_cases e:i=j
  ·subst e;rw[ea];exact gd (h.dq i hi)
  ·rw[en j e];exact h.dq j hj
theorem EJ.cg (h:EJ w) {w2:Wd} (e:w2.R=w.R) (hb:∀ l∈w2.ψ,l∈w.ψ):EJ w2:=
 ⟨fun l hl=>by obtain⟨i,a,b,c⟩:=h.ψ l (hb l hl);exact⟨i,a,b,by rw[td e];exact c⟩,fun i hi L hL x hx hm=>by rw[td e]at hL ⊢;rw[td e];exact h.ins i hi L hL x hx hm,fun i hi=>by rw[td e];exact h.dq i hi⟩
theorem I4 {w:Wd} (x:Nat) (e:Int) (_:x<4) (h:False):e<=(ι w x).ep:=h.elim
theorem Vr (hw:WI T w) (h:EJ w) {a:Nat} (ha:a<4) (v:Vw):EJ (sc w a v):=AU (ac:=fun _ _=>False) h hw.rl ha (hw.r a ha).out (ahW _ v) I4
theorem UY (hw:WI T w) (h:EJ w) {a:Nat} (ha:a<4):EJ (oY w a):=AU (ac:=fun _ _=>False) h hw.rl ha (hw.r a ha).out (afS _) I4
theorem Uj (hw:WI T w) (h:EJ w) {a:Nat} (ha:a<4) (o:Op):EJ (rZ w o a):=AU (ac:=fun _ _=>False) h hw.rl ha (hw.r a ha).out (afb _ o) I4
theorem NS (hw:WI T w) (h:EJ w) {k:Nat} (hk:k<w.ψ.length):EJ (l7 w k):=by
 have hl:=hw.ψ _ (sA hk)
 have t0:=hl.t0
 have t1:=hl.t1
 have hi:(fx w k).to.toNat<4:=by omega
 obtain⟨i,i1,i2,i3⟩:=h.ψ _ (sA hk)
 refine AU (w:=fq w k) (h.cg rfl fun l hl=>List.mem_of_mem_eraseIdx hl) hw.rl hi (hw.r _ hi).out (ZM _ _ _) (fun x e hx ⟨a,b⟩=>?_)
 have:x=i:=by omega
 subst this
 rw[<- b];exact i3
theorem U1 (hw:WI T w) (hT:T<800) (h:EJ w):∀ i,i<=4->EJ (eQ w i)
 | 0,_=>h
 |i+1,hi=>UY (uG hw hT i (by omega)).1 (U1 hw hT h i (by omega)) (by omega)
theorem aeb (hw:WI T w) (h:EJ w) {a:Nat} (ha:a<4):EJ (bA w a (rU (ι w a) a)):=by
 have sP:a<w.R.length:=by rw[hw.rl];exact ha
 have ee:∀ j,(ι (bA w a (rU (ι w a) a)) j).ep=(ι w j).ep:=fun j=>by
  by_cases e:a=j
  ·subst e;rw[lT _ sP];rfl
  ·rw[qy _ e]
 refine⟨fun l hl=>?_,fun j hj L hL x hx hm=>?_,fun j hj=>?_⟩
 ·obtain⟨i,a,b,c⟩:=h.ψ l hl
  exact⟨i,a,b,by rw[ee];exact c⟩
 ·rw[ee,ee]
  by_cases e:a=j
  ·subst e;rw[lT _ sP]at hL;cases hL
  ·rw[qy _ e]at hL;exact h.ins j hj L hL x hx hm
 ·by_cases e:a=j
  ·subst e;rw[lT _ sP];exact qX rfl
  ·rw[qy _ e];exact h.dq j hj
theorem afl (hw:WI T w) (hT:T<700) (h:EJ w) (s:Sp):EJ (eP w s):=by
 have hN:=yE hw
 have hJ:EJ (cJ w):=h.cg rfl fun l hl=>hl
 have pa:=kG s.df (n:=4) (by omega)
 have ha:cE s<4:=by unfold cE;omega
 have hpk:0<w.ψ.length->iw w s<(cJ w).ψ.length:=fun hl=>by
  have:=kG s.n (n:=(w.ψ.length:Int)) (by omega)
  show(bH s.n w.ψ.length).toNat<w.ψ.length
  omega
 unfold eP kK
 repeat' split
 ·unfold lV
  split
  ·split
   ·exact Uj hN hJ ha _
   ·exact hJ
  ·split
   ·exact hJ
   ·exact Uj (IT hN s (by omega)) (hJ.cg rfl fun l hl=>hl) ha _
 ·rename_i hl;exact NS hN hJ (hpk hl)
 ·exact hJ
 ·exact hJ.cg rfl (fun l hl=>List.mem_of_mem_eraseIdx hl)
 ·exact hJ
 ·rename_i hl
  exact hJ.cg rfl (fun l hl2=>mH (P:=fun l=>l∈w.ψ) (fun l h=>h) (sA (hpk hl.1)) hl2)
 ·exact hJ
 ·exact aeb hN hJ ha
 ·unfold oZ
  repeat' split
  all_goals exact hJ.cg rfl fun l hl=>hl
 ·exact Vr hN hJ ha _
 ·exact U1 hN (by omega) hJ 4 (au _)
 ·exact hJ
end
theorem abl:EJ (jN 4):=by
 have hr:∀ i:Nat,i<4->ι (jN 4) i=newR (i:Int) 5 false 0 0 jD []:=fun i hi=>by
  rcases i with _ | _ | _ | _ | i
  ·rfl
  ·rfl
  ·rfl
  ·rfl
  ·omega
 exact⟨fun l hl=>(by cases hl),fun i hi L hL=>(by rw[hr i hi]at hL;cases hL),fun i hi=>by rw[hr i hi];exact qX rfl⟩
theorem OU:∀(l:List Sp) {w:Wd} {T:Int},WI T w->EJ w->T+3*(l.length:Int)<=690->EJ (l.foldl eP w)
 | [],w,T,_,h,_=>h
 |s::l,w,T,hw,h,ht=>by
  rw[gF]at ht
  exact OU l (tn hw (by omega) s).2 (afl hw (by omega) h s) (by omega)
theorem aeH {l:List Sp} (h:l.length<=120):EJ (dB l):=OU l IH abl (by omega)
def nF (m:dI):Nat:=if m.kd=10 then 2 else if m.kd=12 then 4 else if m.kd=14 then 3 else 1
def eS (b:List fU):Nat:=(b.map fun l=>nF l.m).sum
structure LF (e n:Int) (d:Nat) (l:fU):Prop where
 h:(l.fr=d/\l.to≠d/\(l.m.kd=10∨l.m.kd=12)/\bi l.m 1=e/\bi l.m 2=n)∨(l.to=d/\l.fr≠d/\((l.m.kd=11∨l.m.kd=13)/\bi l.m 1=e/\bi l.m 2=n∨l.m.kd=14/\bi l.m 1<=e))
 w:l.m.kd=12->l.m.n.any cI=false
def Ad (L:bX) (k:Int):Prop:=L.ins k=true/\(L.cur≠none->L.cy k=true)
def Bd (b:List fU) (k:Int):Prop:=∃ l∈b,l.to=k/\l.m.kd=10∨l.fr=k/\(l.m.kd=11∨l.m.kd=14)
def Cd (b:List fU) (k:Int):Prop:=∃ l∈b,l.to=k/\l.m.kd=12∨l.fr=k/\l.m.kd=13
def St (L:bX) (b:List fU) (k:Int):Prop:=Ad L k∨Bd b k∨(L.ins k=true/\Cd b k)
structure Wb (R':θ) (d:Int) (e n kd:Int) (m':dI):Prop where
 out:R'.out=[⟨d,m'⟩]
 dn:R'.done=[]
 ld:R'.ld=none
 ep:R'.ep<=e
 Ib:kd=10->m'.kd=11
 Ic:kd=12->m'.kd=13∨m'.kd=14
 xz:m'.kd≠14->bi m' 1=e/\bi m' 2=n
 le:bi m' 1<=e
section
variable {R:θ} {m:dI}
theorem Ps {fr:Int} (go:ca R fr m=true):dE R fr m=if m.kd=10 then iH R fr m else if m.kd=11 then im R fr m else if m.kd=12 then iG R fr m else if m.kd=13 then ic R fr m else ij R fr m:=by
 unfold dE;rw[if_neg (by rw[go];decide)]
theorem Y8 {d e n:Int} (yg:R.ld=none) (ua:R.ep<=e) (ho:R.out=[]) (hdn:R.done=[]) (go:ca R d m=true) (h1:bi m 1=e) (h2:bi m 2=n)
  (hk:m.kd=10/\(R.ep=e->R.nu<=n)/\m.l.length=1/\(∃ c,jm m.b=some c)/\(∃ t,loadT (m.l.getD 0 [])=some t)∨m.kd=12):∃ m',Wb (dE R d m) d e n m.kd m':=by
 rw[Ps go]
 have hl:eL R=false:=by unfold eL;rw[yg];rfl
 have hc:b_ R=none:=by unfold b_;rw[yg];rfl
 rcases hk with ⟨k,k2,k3,⟨c,hc1⟩,t,ht⟩ | k
 ·rw[if_pos k]
  have hn:¬ (bi m 1<R.ep∨bi m 1=R.ep/\(bi m 2<R.nu∨eL R=true)∨m.l.length≠1):=by
   rintro(q | ⟨q1,q2 | q2⟩ | q)
   ·omega
   ·have:=k2 (by omega);omega
   ·rw[hl]at q2;cases q2
   ·exact q k3
  unfold iH
  rw[if_neg hn,hc1,ht]
  refine⟨⟨11,[R.id,bi m 1,bi m 2],[],[]⟩,?_,?_,rfl,by show bi m 1<=e;omega,fun _=>rfl,fun q=>by omega,fun _=>⟨h1,h2⟩,by show bi m 1<=e;omega⟩
  ·show R.out++_=_;rw[ho];rfl
  ·show R.done++(match b_ R with | some o=>[⟨o,19,[]⟩] | none=>[])=[]
   rw[hdn,hc];rfl
 ·rw[if_neg (by omega),if_neg (by omega),if_pos k]
  unfold iG
  split
  ·rename_i q
   exact⟨⟨13,[R.id,R.ep,R.nu],[],[]⟩,by show R.out++_=_;rw[ho];rfl,hdn,yg,ua,fun q=>by omega,fun _=> .inl rfl,fun _=>⟨q.1.symm.trans h1,q.2.1.symm.trans h2⟩,ua⟩
  ·split
   ·rename_i q
    exact⟨⟨13,[R.id,R.ep,R.nu+1],[],[]⟩,by show R.out++_=_;rw[ho];rfl,hdn,yg,ua,fun q=>by omega,fun _=> .inl rfl,fun _=>⟨q.1.symm.trans h1,q.2.1.symm.trans h2⟩,ua⟩
   ·exact⟨⟨14,[R.id,R.ep,R.nu],[],[]⟩,by show R.out++_=_;rw[ho];rfl,hdn,yg,ua,fun q=>by omega,fun _=> .inr rfl,fun q=>absurd rfl q,ua⟩
structure vb (R R':θ) (L L':bX) (fr kd:Int):Prop where
 ld:R'.ld=some L'
 ep:R'.ep=R.ep
 nu:R'.nu=R.nu
 v:R'.v=R.v
 ti:R'.ti=R.ti
 me:R'.me=R.me
 out:R'.out=if kd=14 then[jh R fr]else[]
 ins:∀ x,x≠fr∨kd≠14->L.ins x=true->L'.ins x=true
 ad:∀ x,x≠fr∨kd≠14->Ad L x->Ad L' x
 aZ:kd=11->Ad L' fr
 aN:kd=13->L.ins fr=true->Ad L' fr
 cur:(L'.cur=L.cur/\R'.done=[])∨∃ o x,L.cur=some o/\L'.cur=none/\R'.done=[⟨o,0,x⟩]
theorem vU {f:Int->Bool} {k x:Int} (h:f x=true):mark f k true x=true:=by unfold mark;split<;>simp_all
theorem Cn (f:Int->Bool) (k:Int) (b:Bool):mark f k b k=b:=if_pos rfl
theorem Q5 {f:Int->Bool} {k x:Int} (b:Bool) (h:x≠k):mark f k b x=f x:=if_neg h
theorem vb.fin {R1:θ} {L L1:bX} {fr kd:Int} (h:vb R R1 L L1 fr kd) (hk:kd≠14) (hd:R1.done=[]) (hc:L1.cur=L.cur):∃ L',vb R (fb R1) L L' fr kd:=by
 unfold fb
 rw[h.ld]
 dsimp only
 split
 ·rename_i o ho
  split
  ·refine⟨{L1 with cur:=none },rfl,h.ep,h.nu,h.v,h.ti,h.me,h.out,h.ins,fun x hx a=>⟨h.ins x hx a.1,fun q=>absurd rfl q⟩,fun q=>⟨(h.aZ q).1,fun q=>absurd rfl q⟩,fun q i=>⟨(h.aN q i).1,fun q=>absurd rfl q⟩,.inr ⟨o,_,hc.symm.trans ho,rfl,by show R1.done++_=_;rw[hd];rfl⟩⟩
  ·exact⟨L1,h⟩
 ·exact⟨L1,h⟩
theorem aaY {L:bX} {fr:Int} (hL:R.ld=some L) (ho:R.out=[]) (hdn:R.done=[]) (go:ca R fr m=true)
  (hk:(m.kd=11∨m.kd=13)/\bi m 1=R.ep/\bi m 2=R.nu∨m.kd=14/\bi m 1<=R.ep/\(bi m 1=R.ep->bi m 2<=R.nu)):∃ L',vb R (dE R fr m) L L' fr m.kd:=by
 rw[Ps go]
 rcases hk with ⟨k | k,h1,h2⟩ | ⟨k,h1,h2⟩
 ·rw[if_neg (by omega),if_pos k]
  unfold im
  rw[hL]
  dsimp only
  rw[if_neg (fun q=>by rcases q with q | q;exact q h1;exact q h2)]
  split
  ·rename_i hc
   exact⟨⟨mark L.ins fr true,L.cy,none⟩,rfl,rfl,rfl,rfl,rfl,rfl,by rw[if_neg (by omega)];exact ho,fun x _ hx=>vU hx,fun x _ a=>⟨vU a.1,fun q=>absurd rfl q⟩,fun _=>⟨Cn ..,fun q=>absurd rfl q⟩,fun q=>by omega,.inl ⟨hc.symm,hdn⟩⟩
  ·rename_i o hc
   refine vb.fin (L1:=⟨mark L.ins fr true,mark L.cy fr true,some o⟩) ⟨rfl,rfl,rfl,rfl,rfl,rfl,by rw[if_neg (by omega)];exact ho,fun x _ hx=>vU hx,fun x _ a=>⟨vU a.1,fun q=>vU (a.2 (by rw[hc];exact q))⟩,fun _=>⟨Cn ..,fun _=>Cn ..⟩,fun q=>by omega,.inl ⟨hc.symm,hdn⟩⟩ (by omega) hdn hc.symm
 ·rw[if_neg (by omega),if_neg (by omega),if_neg (by omega),if_pos k]
  unfold ic
  rw[hL]
  dsimp only
  split
  ·rename_i hc
   exact⟨L,hL,rfl,rfl,rfl,rfl,rfl,by rw[if_neg (by omega)];exact ho,fun x _ hx=>hx,fun x _ a=>a,fun q=>by omega,fun _ i=>⟨i,fun q=>absurd hc q⟩,.inl ⟨rfl,hdn⟩⟩
  ·rename_i o hc
   rw[if_pos ⟨h1,h2⟩]
   refine vb.fin (L1:=⟨L.ins,mark L.cy fr true,some o⟩) ⟨rfl,rfl,rfl,rfl,rfl,rfl,by rw[if_neg (by omega)];exact ho,fun x _ hx=>hx,fun x _ a=>⟨a.1,fun q=>vU (a.2 (by rw[hc];exact q))⟩,fun q=>by omega,fun _ i=>⟨i,fun _=>Cn ..⟩,.inl ⟨hc.symm,hdn⟩⟩ (by omega) hdn hc.symm
 ·rw[if_neg (by omega),if_neg (by omega),if_neg (by omega),if_neg (by omega)]
  unfold ij
  rw[hL]
  dsimp only
  rw[if_neg (by omega),if_neg (fun q=>by have:=h2 q.1;omega)]
  exact⟨{L with ins:=mark L.ins fr false },rfl,rfl,rfl,rfl,rfl,rfl,by rw[if_pos k];show R.out++_=_;rw[ho];rfl,fun x q hx=>by
   rcases q with q | q
   ·show mark L.ins fr false x=true;rw[Q5 _ q];exact hx
   ·exact absurd k q,fun x q a=>by
   rcases q with q | q
   ·exact⟨by show mark L.ins fr false x=true;rw[Q5 _ q];exact a.1,a.2⟩
   ·exact absurd k q,fun q=>by omega,fun q=>by omega,.inl ⟨rfl,hdn⟩⟩
theorem O3 {vs:List Vw} {G:Gh} {fr T:Int} (hl:iC vs G fr m) (hm:MW T m) (hT:T<=1000000) (hid:R.id=5) (hfr:fr≠R.me) (hw:m.kd=12->m.n.any cI=false):ca R fr m=true:=by
 have key:10<=m.kd/\m.kd<=14/\m.n.length=iD m.kd/\bi m 0=5/\m.n.any cI=false:=by
  have hn1:=hm.n1
  have hn2:=hm.n2
  have m9:=hm.r.r.ns
  have sm:∀ e n:Int,m.n=[5,e,n]->m.n.any cI=false:=fun e n q=>by
   have e1:bi m 1=e:=by unfold bi;rw[q];rfl
   have e2:bi m 2=n:=by unfold bi;rw[q];rfl
   have g1:=m9 e (by rw[q];simp)
   have g2:=m9 n (by rw[q];simp)
   rw[q,List.any_eq_false]
   intro x hx
   simp only[eI,List.not_mem_nil,or_false]at hx
   unfold cI
   rw[decide_eq_true_eq]
   omega
  cases hl with
  |sync e n a f b l x c=>exact⟨by show(10:Int)<=10;omega,by show(10:Int)<=14;omega,rfl,rfl,sm _ _ rfl⟩
  |ok kd e n hk hn=>exact⟨by show 10<=kd;omega,by show kd<=14;omega,by show 3=iD kd;unfold iD;rw[if_neg (by omega)],rfl,sm _ _ rfl⟩
  |op e n o s a f b g=>exact⟨by show(10:Int)<=12;omega,by show(12:Int)<=14;omega,rfl,rfl,hw rfl⟩
 unfold ca
 rw[iW,decide_eq_true_eq]
 exact⟨⟨key.1,key.2.1,key.2.2.1,by rw[hid];exact key.2.2.2.1,hfr⟩,by rw[key.2.2.2.2];rfl⟩
end
section
variable {w:Wd} {T:Int}
theorem sent_eq (i:Nat):∀(l:List Post) (w:Wd),w.ψ.length+l.length<=2000->(∀ p∈l,0<=p.to/\p.to<4)->(dr w i l).ψ=w.ψ++l.map fun p=>⟨i,p.to,p.m⟩
 | [],w,_,_=>(fu _).symm
 |p::l,w,h,hp=>by
  rw[gF]at h
  have h0:=hp p iB
  have e:(gZ i w p).ψ=w.ψ++[⟨i,p.to,p.m⟩]:=by unfold gZ;rw[if_pos ⟨h0.1,h0.2,by omega⟩]
  have:=sent_eq i l (gZ i w p) (by rw[e,bo,iL];omega) (fun p' mD=>hp p' (f_ _ mD))
  show(dr (gZ i w p) i l).ψ=_
  rw[this,e,eH];rfl
theorem sF (w:Wd) {i:Nat} (R:θ) (hi:i<w.R.length) (hl:w.ψ.length+R.out.length<=2000) (hp:∀ p∈R.out,0<=p.to/\p.to<4):(cU (bA w i R) i).ψ=w.ψ++R.out.map fun p=>⟨i,p.to,p.m⟩:=by
 rw[NB w R hi];exact sent_eq i R.out (fK (bA w i R) i) hl hp
theorem FX (w:Wd) {i:Nat} (R:θ) (hi:i<w.R.length) (h:R.done=[]):(cU (bA w i R) i).cs=w.cs:=by
 unfold cU;rw[lT R hi,h];exact(oV i _ _).2.2.2.1
theorem X8 (w:Wd) {i:Nat} (R:θ) (hi:i<w.R.length) {x:Dn} (h:R.done=[x]):(cU (bA w i R) i).cs=w.cs.map (gC w.now x):=by
 unfold cU;rw[lT R hi,h]
 have e:=oV i R.out (fK (bA w i R) i)
 show ae (gC (dr (fK (bA w i R) i) i R.out).now x) (dr (fK (bA w i R) i) i R.out).cs=_
 rw[e.2.2.2.1,e.2.2.2.2.2.1];rfl
end
structure FP (E:Int) (d:Nat) (w:Wd) (L:bX):Prop where
 j:∃ G,WJ G w
 ej:EJ w
 d4:d<4
 ld:(ι w d).ld=some L
 ep:(ι w d).ep=E
 no:∀ i,i<4->i≠d->(ι w i).ld=none/\(ι w i).ep<=E
 ψ:∀ l∈w.ψ,LF E (ι w d).nu d l
def Tk (o:Op) (ix:Nat) (w:Wd) (L:bX):Prop:=∃ c,w.cs[ix]? =some c/\c.o=o/\(c.en≠-1∨L.cur=some o)
structure mi (E:Int) (d:Nat) (w:Wd) (L:bX) (w':Wd) (L':bX):Prop where
 fp:FP E d w' L'
 nu:(ι w' d).nu=(ι w d).nu
 v:(ι w' d).v=(ι w d).v
 me:(ι w' d).me=(ι w d).me
 vs:w'.vs=w.vs
 st:∀ k:Int,k≠d->St L w.ψ k->St L' w'.ψ k
 tk:∀ o ix,Tk o ix w L->Tk o ix w' L'
section
variable {T:Int} {w:Wd} {E:Int} {d:Nat} {L:bX}
theorem VM (m:dI):1<=nF m:=by
 unfold nF
 repeat' split
 all_goals omega
theorem DQ (a b:List fU):eS (a++b)=eS a+eS b:=by unfold eS;rw[jZ,List.sum_append]
theorem DR (l:fU) (b:List fU):eS (l::b)=nF l.m+eS b:=by unfold eS;rw[lY,List.sum_cons]
theorem zl:∀ b:List fU,b.length<=eS b
 | []=>au _
 |l::b=>by have:=zl b;have:=VM l.m;rw[DR,gF];omega
theorem abd {vs:List Vw} {G:Gh} {fr:Int} {m:dI} (h:iC vs G fr m) (hk:m.kd=10):m.l.length=1/\(∃ c,jm m.b=some c)/\∃ t,loadT (m.l.getD 0 [])=some t:=by
 cases h with
 |sync e n a f b l x c=>exact⟨rfl,⟨_,by unfold jm;rw[wa];dsimp only;rw[if_pos c]⟩,_,Ci x rfl⟩
 |ok kd e n q hn=>have hk:kd=10:=hk;omega
 |op e n o s a f b g=>have hk:(12:Int)=10:=hk;omega
theorem abc {vs:List Vw} {G:Gh} (hG:GI vs G) {fr:Int} {m:dI} (h:iC vs G fr m) (hk:m.kd=14):bi m 2<=((G.lg (bi m 1)).length:Int):=by
 cases h with
 |sync e n a f b l x c=>have hk:(10:Int)=14:=hk;omega
 |ok kd e n q hn=>exact Int.ofNat_le.2 (Nat.le_trans hn (hG.rl fr e))
 |op e n o s a f b g=>have hk:(12:Int)=14:=hk;omega
theorem Yp {l:fU} {r:List fU} (hb:w.ψ=l::r):l7 w 0=cU (bA (fq w 0) l.to.toNat (dE (ι w l.to.toNat) l.fr l.m)) l.to.toNat:=by
 have e:fx w 0=l:=by unfold fx;rw[hb];rfl
 unfold l7 x_;rw[e];rfl
theorem Tk.same {o:Op} {ix:Nat} {w':Wd} {L':bX} (h:Tk o ix w L) (e:w'.cs=w.cs) (c:L'.cur=L.cur):Tk o ix w' L':=by
 obtain⟨x,h1,h2,h3⟩:=h
 exact⟨x,by rw[e];exact h1,h2,by rw[c];exact h3⟩
theorem Tk.done {o o':Op} {ix:Nat} {w':Wd} {L':bX} {x:List Int} (h:Tk o ix w L) (hn:0<=w.now) (e:w'.cs=w.cs.map (gC w.now ⟨o',0,x⟩)) (c:L.cur=some o'):Tk o ix w' L':=by
 obtain⟨y,h1,h2,h3⟩:=h
 refine⟨gC w.now ⟨o',0,x⟩ y,by rw[e,fH,h1];rfl,(tr _ _ _).1.trans h2,.inl ?_⟩
 unfold gC
 split
 ·show w.now≠-1;omega
 ·rename_i hh
  rcases h3 with h3 | h3
  ·exact h3
  ·rw[c]at h3;cases h3
   intro t
   exact hh ⟨by rw[h2],by rw[h2],t,rfl⟩
theorem Yn (hw:WI T w) (hT:T<800) (h:FP E d w L) {l:fU} {r:List fU} (hb:w.ψ=l::r) (hs:eS w.ψ<=1000):∃ L',mi E d w L (l7 w 0) L'/\eS (l7 w 0).ψ<eS w.ψ/\(ι (l7 w 0) d).ti=(ι w d).ti:=by
 have hm:l∈w.ψ:=by rw[hb];exact iB
 have hk:0<w.ψ.length:=by rw[hb,gF];omega
 have lf:=h.ψ l hm
 obtain⟨G,hJ⟩:=h.j
 have hlt:=hJ.ψ l hm
 have BL:=hw.ψ l hm
 have t0:=BL.t0
 have t1:=BL.t1
 have kx:=h.d4
 have hi:l.to.toNat<4:=by omega
 have hir:l.to.toNat<(fq w 0).R.length:=by show _<w.R.length;rw[hw.rl];exact hi
 have BE:(fq w 0).ψ=r:=by show w.ψ.eraseIdx 0=r;rw[hb];rfl
 have hlen:=zl w.ψ
 have hrl:r.length+1=w.ψ.length:=by rw[hb,gF]
 have hj:=NT hw hJ hk
 have he:=NS hw h.ej hk
 obtain⟨fi,f1,f2,f3⟩:=h.ej.ψ l hm
 have kc:=yr hJ.gi hJ.vi (hJ.r d kx) ((hJ.r d kx).l L h.ld)
 rw[h.ep]at kc
 have hr:=hw.r _ hi
 have lL:eS w.ψ=nF l.m+eS r:=by rw[hb,DR]
 have hw1:=VM l.m
 rw[Yp hb]at hj he ⊢
 have lr:∀ x∈r,LF E (ι w d).nu d x:=fun x hx=>h.ψ x (by rw[hb];exact f_ _ hx)
 rcases lf.h with ⟨a1,a2,a3,a4,a5⟩ | ⟨a1,a2,a3⟩
 ·
  have hid:l.to.toNat≠d:=fun t=>a2 (by omega)
  obtain⟨n1,n2⟩:=h.no _ hi hid
  have go:ca (ι w l.to.toNat) l.fr l.m=true:=O3 hlt BL.m (by omega) hr.w.id (by rw[hr.me,a1];omega) lf.w
  obtain⟨m',F⟩:=Y8 (n:=(ι w d).nu) n1 n2 hr.out hr.done (by rw[a1]at go;exact go) a4 a5 (a3.imp (fun k=>⟨k,fun t=>(by
   have:=(hJ.r _ hi).nl
   rw[t]at this
   rw[kc];exact this),abd hlt k⟩) id)
  rw[a1]at hj he ⊢
  have eb:=sF (fq w 0) (dE (ι w l.to.toNat) d l.m) hir (by rw[BE,F.out];show r.length+1<=2000;omega) (fun p hp=>by
   rw[F.out,dm]at hp;subst hp;exact⟨by show(0:Int)<=d;omega,by show(d:Int)<4;omega⟩)
  rw[BE,F.out]at eb
  have ei:=xI (fq w 0) (dE (ι w l.to.toNat) d l.m) hir
  have en:∀ j,l.to.toNat≠j->ι (cU (bA (fq w 0) l.to.toNat (dE (ι w l.to.toNat) d l.m)) l.to.toNat) j=ι w j:=fun j e=>vr (fq w 0) _ e hir
  have ed:=en d hid
  have ev:=xK (fq w 0) l.to.toNat (dE (ι w l.to.toNat) d l.m)
  have ec:=FX (fq w 0) (dE (ι w l.to.toNat) d l.m) hir F.dn
  generalize cU (bA (fq w 0) l.to.toNat (dE (ι w l.to.toNat) d l.m)) l.to.toNat=w' at*
  have eb:w'.ψ=r++[⟨((l.to.toNat:Nat):Int),d,m'⟩]:=eb
  have aif:m'.kd=11∨m'.kd=13∨m'.kd=14:=by
   rcases a3 with k | k
   ·exact .inl (F.Ib k)
   ·exact .inr (F.Ic k)
  have nm:(⟨((l.to.toNat:Nat):Int),d,m'⟩:fU)∈w'.ψ:=by rw[eb];exact lD _ (dm.2 rfl)
  have rm:∀ x∈r,x∈w'.ψ:=fun x hx=>by rw[eb];exact iM _ hx
  refine⟨L,⟨⟨hj,he,kx,by rw[ed];exact h.ld,by rw[ed];exact h.ep,fun j hj hne=>?_,?_⟩,by rw[ed],by rw[ed],by rw[ed],ev,fun k yf hs=>?_,fun o ix t=>t.same ec rfl⟩,?_,by rw[ed]⟩
  ·by_cases e:l.to.toNat=j
   ·subst e;rw[ei];exact⟨F.ld,F.ep⟩
   ·rw[en j e];exact h.no j hj hne
  ·rw[eb,ed]
   intro x hx
   refine mH (P:=LF E (ι w d).nu d) lr ⟨.inr ⟨rfl,by show((l.to.toNat:Nat):Int)≠d;omega,?_⟩,fun q=>?_⟩ hx
   ·by_cases q:m'.kd=14
    ·exact .inr ⟨q,F.le⟩
    ·exact .inl ⟨by show m'.kd=11∨m'.kd=13;omega,F.xz q⟩
   ·have q:m'.kd=12:=q
    omega
  ·have hto:((l.to.toNat:Nat):Int)=l.to:=by omega
   rcases hs with hs | ⟨x,hx,hs⟩ | ⟨hs0,x,hx,hs⟩
   ·exact .inl hs
   ·rw[hb]at hx
    rcases eI.1 hx with rfl | hx
    ·rcases hs with ⟨s1,s2⟩ | ⟨s1,s2⟩
     ·exact .inr (.inl ⟨_,nm,.inr ⟨hto.trans s1,.inl (F.Ib s2)⟩⟩)
     ·exact absurd (s1.symm.trans a1) yf
    ·exact .inr (.inl ⟨x,rm x hx,hs⟩)
   ·rw[hb]at hx
    rcases eI.1 hx with rfl | hx
    ·rcases hs with ⟨s1,s2⟩ | ⟨s1,s2⟩
     ·rcases F.Ic s2 with q | q
      ·exact .inr (.inr ⟨hs0,_,nm,.inr ⟨hto.trans s1,q⟩⟩)
      ·exact .inr (.inl ⟨_,nm,.inr ⟨hto.trans s1,.inr q⟩⟩)
     ·exact absurd (s1.symm.trans a1) yf
    ·exact .inr (.inr ⟨hs0,x,rm x hx,hs⟩)
  ·rw[eb,DQ,lL,DR]
   show eS r+(nF m'+0)<_
   have:nF m'<nF l.m:=by
    rcases a3 with k | k
    ·have:=F.Ib k
     unfold nF;rw[if_neg (by omega),if_neg (by omega),if_neg (by omega),if_pos k];omega
    ·have:=F.Ic k
     have e4:nF l.m=4:=by unfold nF;rw[if_neg (by omega),if_pos k]
     rw[e4]
     unfold nF;rw[if_neg (by omega),if_neg (by omega)]
     split<;>omega
   omega
 ·
  have hid:l.to.toNat=d:=by omega
  rw[hid]at hi hir hr hj he ⊢
  have go:ca (ι w d) l.fr l.m=true:=O3 hlt BL.m (by omega) hr.w.id (by rw[hr.me];exact a2) lf.w
  obtain⟨L',F⟩:=aaY h.ld hr.out hr.done go (by
   rw[h.ep]
   rcases a3 with ⟨k,k1,k2⟩ | ⟨k,k1⟩
   ·exact .inl ⟨k,k1,k2⟩
   ·refine .inr ⟨k,k1,fun t=>?_⟩
    have:=abc hJ.gi hlt k
    rw[t]at this
    rw[kc];exact this)
  have hfr:0<=l.fr/\l.fr<4:=by omega
  have eb:=sF (fq w 0) (dE (ι w d) l.fr l.m) hir (by
   rw[BE,F.out];split
   ·show r.length+1<=2000;omega
   ·show r.length+0<=2000;omega) (fun p hp=>by
   rw[F.out]at hp;split at hp
   ·rw[dm]at hp;subst hp;exact hfr
   ·cases hp)
  rw[BE,F.out]at eb
  have ei:=xI (fq w 0) (dE (ι w d) l.fr l.m) hir
  have en:∀ j,d≠j->ι (cU (bA (fq w 0) d (dE (ι w d) l.fr l.m)) d) j=ι w j:=fun j e=>vr (fq w 0) _ e hir
  have ev:=xK (fq w 0) d (dE (ι w d) l.fr l.m)
  have YH:=FX (fq w 0) (dE (ι w d) l.fr l.m) hir
  have YI:=fun x=>X8 (fq w 0) (dE (ι w d) l.fr l.m) (x:=x) hir
  generalize cU (bA (fq w 0) d (dE (ι w d) l.fr l.m)) d=w' at*
  have RE:(ι w' d).nu=(ι w d).nu:=by rw[ei];exact F.nu
  have rm:∀ x∈r,x∈w'.ψ:=fun x hx=>by rw[eb];exact iM _ hx
  have nb:l.m.kd=14->Bd w'.ψ l.fr:=fun q=>⟨⟨d,l.fr,(jh (ι w d) l.fr).m⟩,by rw[eb,if_pos q];exact lD _ (dm.2 rfl),.inl ⟨rfl,rfl⟩⟩
  refine⟨L',⟨⟨hj,he,kx,by rw[ei];exact F.ld,by rw[ei];exact F.ep.trans h.ep,fun j hj hne=>by rw[en j (fun e=>hne e.symm)];exact h.no j hj hne,?_⟩,RE,by rw[ei];exact F.v,by rw[ei];exact F.me,ev,fun k yf hs=>?_,fun o ix t=>?_⟩,?_,by rw[ei];exact F.ti⟩
  ·rw[eb,RE]
   intro x hx
   rcases dQ.1 hx with hx | hx
   ·exact lr x hx
   ·split at hx
    ·have hx:x∈[(⟨d,l.fr,(jh (ι w d) l.fr).m⟩:fU)]:=hx
     rw[dm]at hx;subst hx
     exact⟨.inl ⟨rfl,a2,.inl rfl,h.ep,rfl⟩,fun q=>by have q:(10:Int)=12:=q;omega⟩
    ·cases hx
  ·by_cases kk:k≠l.fr∨l.m.kd≠14
   ·rcases hs with hs | ⟨x,hx,hs⟩ | ⟨hs0,x,hx,hs⟩
    ·exact .inl (F.ad k kk hs)
    ·rw[hb]at hx
     rcases eI.1 hx with rfl | hx
     ·rcases hs with ⟨s1,s2⟩ | ⟨s1,s2 | s2⟩
      ·exact absurd (s1.symm.trans a1) yf
      ·rw[<- s1];exact .inl (F.aZ s2)
      ·rw[<- s1];exact .inr (.inl (nb s2))
     ·exact .inr (.inl ⟨x,rm x hx,hs⟩)
    ·rw[hb]at hx
     rcases eI.1 hx with rfl | hx
     ·rcases hs with ⟨s1,s2⟩ | ⟨s1,s2⟩
      ·exact absurd (s1.symm.trans a1) yf
      ·rw[<- s1]at hs0 ⊢;exact .inl (F.aN s2 hs0)
     ·exact .inr (.inr ⟨F.ins k kk hs0,x,rm x hx,hs⟩)
   ·have q1:k=l.fr:=Classical.byContradiction fun t=>kk (.inl t)
    have q2:l.m.kd=14:=Classical.byContradiction fun t=>kk (.inr t)
    rw[q1];exact .inr (.inl (nb q2))
  ·rcases F.cur with ⟨c1,c2⟩ | ⟨o',x,c1,c2,c3⟩
   ·exact t.same (YH c2) c1
   ·exact t.done hw.n0 (YI _ c3) c1
  ·rw[eb,DQ,lL]
   split
   ·rename_i q
    show eS r+(2+0)<_
    have:nF l.m=3:=by unfold nF;rw[if_neg (by omega),if_neg (by omega),if_pos q]
    omega
   ·show eS r+0<_;omega
end
def s7:Sp:=⟨7,0,0,0,false⟩
noncomputable def gS:Nat->Wd->Wd
 | 0,w=>w
 |k+1,w=>if 0<(gS k w).ψ.length then l7 (gS k w) 0 else gS k w
noncomputable def qA (w:Wd):Wd:=gS 500 (eP w s7)
noncomputable def gU:Nat->Wd->Wd
 | 0,w=>w
 |n+1,w=>qA (gU n w)
theorem Um (w:Wd):eP w s7=eQ (cJ w) 4:=by
 unfold eP kK
 have e:s7.d=7:=rfl
 rw[e,if_neg (by omega),if_neg (by omega),if_neg (by omega),if_neg (by omega),if_neg (by omega),if_neg (by omega),if_neg (by omega),if_pos rfl]
theorem IQ:∀(n:Nat) (l:List Int),l.Nodup->(∀ x∈l,0<=x/\x<n)->l.length<=n
 | 0,l,_,h=>by
  cases l with
  |nil=>exact au _
  |cons a r=>have:=h a iB;omega
 |n+1,l,hd,h=>by
  have:=IQ n (l.erase (n:Int)) (hd.erase _) (fun x hx=>by
   have h1:=h x (List.mem_of_mem_erase hx)
   have h2:=(hd.mem_erase_iff.1 hx).1
   omega)
  rw[List.length_erase]at this
  split at this<;>omega
section
variable {T:Int} {w:Wd} {E:Int} {d:Nat} {L:bX}
theorem mi.refl (h:FP E d w L):mi E d w L w L:=⟨h,rfl,rfl,rfl,rfl,fun _ _ t=>t,fun _ _ t=>t⟩
theorem mi.trans {w1 w2:Wd} {L1 L2:bX} (h:mi E d w L w1 L1) (g:mi E d w1 L1 w2 L2):mi E d w L w2 L2:=
 ⟨g.fp,g.nu.trans h.nu,g.v.trans h.v,g.me.trans h.me,g.vs.trans h.vs,fun k hk t=>g.st k hk (h.st k hk t),fun o ix t=>g.tk o ix (h.tk o ix t)⟩
theorem mi.aQ {w1:Wd} {L1:bX} (h:mi E d w L w1 L1):aQ (ι w1 d)=aQ (ι w d):=by unfold Go.Proofs.YtfcjngcnifdmnaaGreat.aQ;rw[h.v,h.me]
theorem FP.rg (hw:WI T w) (h:FP E d w L):(∀ x∈aQ (ι w d),0<=x/\x<4/\x≠d)/\(aQ (ι w d)).length<=4:=by
 obtain⟨G,hJ⟩:=h.j
 have hv:=hw.vs _ ((hJ.r d h.d4).l L h.ld).v
 have me:=(hJ.r d h.d4).me
 refine⟨fun x hx=>?_,?_⟩
 ·obtain⟨h1,h2⟩:=uq.1 hx
  have:=hv.rg x h1
  exact⟨this.1,this.2,by rw[<- me];exact h2⟩
 ·refine IQ 4 _ ?_ (fun x hx=>?_)
  ·unfold Go.Proofs.YtfcjngcnifdmnaaGreat.aQ bx;exact hv.nd.filter _
  ·exact hv.rg x (uq.1 hx).1
theorem ae_ {b:List fU} {k:Int} (h:St L b k) (c:List fU):St L (b++c) k:=by
 rcases h with h | ⟨x,hx,h⟩ | ⟨i,x,hx,h⟩
 ·exact .inl h
 ·exact .inr (.inl ⟨x,iM _ hx,h⟩)
 ·exact .inr (.inr ⟨i,x,iM _ hx,h⟩)
theorem ZL {R:θ} (hr:RW T R) (hT:T<=1000000) {o:Op} (ho:gO o=true) (k:Int):(j8 R o k).m.n.any cI=false:=by
 have k:=J3 ho
 have hc:=xM R.c
 have e0:=hr.e0
 have e1:=hr.e1
 have n0:=hr.i.ok.n0
 have n1:=hr.n1
 have hid:=hr.id
 show[R.id,R.ep,R.nu,o.cl,o.nm,o.kd,o.bk,dN R.c].any cI=false
 rw[List.any_eq_false]
 intro x hx
 simp only[eI,List.not_mem_nil,or_false]at hx
 unfold cI
 rw[decide_eq_true_eq]
 omega
theorem U0 {R:θ} (h:R.ld=some L):cL R=if(R.ti+1).tmod 3=0 then{R with ti:=R.ti+1,out:=R.out++(aQ R).flatMap (fX R L) }else{R with ti:=R.ti+1 }:=by
 unfold cL
 split
 ·rename_i h2;rw[h]at h2;cases h2
 ·rename_i L2 h2;rw[h]at h2;cases h2;rfl
theorem afX {R:θ} (h:R.ld=none):cL R={R with ti:=R.ti+1 }:=by
 unfold cL
 split
 ·rfl
 ·rename_i L2 h2;rw[h]at h2;cases h2
theorem afR (hw:WI T w) (hT:T<800) (h:FP E d w L) {i:Nat} (hi:i<4) (hs:eS w.ψ<=1000):mi E d w L (oY w i) L/\eS (oY w i).ψ<=eS w.ψ+(if i=d then 16 else 0)/\(ι (oY w i) d).ti=(ι w d).ti+(if i=d then 1 else 0)/\(i=d->((ι w d).ti+1).tmod 3=0->∀ k∈aQ (ι w d),St L (oY w i).ψ k):=by
 have hir:i<w.R.length:=by rw[hw.rl];exact hi
 obtain⟨G,hJ⟩:=h.j
 have hj:=UZ hw hJ hi
 have he:=UY hw h.ej hi
 have hr:=hw.r i hi
 have kx:=h.d4
 have hlen:=zl w.ψ
 have hrd:=hw.r d kx
 obtain⟨rg,rgl⟩:=h.rg hw
 have hdn:(cL (ι w i)).done=[]:=by
  unfold cL
  split
  ·exact hr.done
  ·split<;>exact hr.done
 unfold oY at hj he ⊢
 have ei:=xI w (cL (ι w i)) hir
 have en:∀ j,i≠j->ι (cU (bA w i (cL (ι w i))) i) j=ι w j:=fun j e=>vr w _ e hir
 have ev:=xK w i (cL (ι w i))
 have ec:=FX w (cL (ι w i)) hir hdn
 by_cases e:i=d
 ·subst e
  rw[if_pos rfl,if_pos rfl]
  by_cases ht:((ι w i).ti+1).tmod 3=0
  ·have et:cL (ι w i)={ι w i with ti:=(ι w i).ti+1,out:=(ι w i).out++(aQ (ι w i)).flatMap (fX (ι w i) L) }:=by
    rw[U0 h.ld,if_pos ht]
   have eo:(cL (ι w i)).out=(aQ (ι w i)).flatMap (fX (ι w i) L):=by rw[et,hr.out];rfl
   have post:∀ p∈(cL (ι w i)).out,(0<=p.to/\p.to<4)/\LF E (ι w i).nu i ⟨i,p.to,p.m⟩:=fun p hp=>by
    rw[eo]at hp
    obtain⟨x,hx,hp⟩:=List.mem_flatMap.1 hp
    have uj:=rg x hx
    unfold fX at hp
    split at hp
    ·rw[dm]at hp;subst hp
     exact⟨⟨uj.1,uj.2.1⟩,.inl ⟨rfl,uj.2.2,.inl rfl,h.ep,rfl⟩,fun q=>by have q:(10:Int)=12:=q;omega⟩
    ·split at hp
     ·rename_i o ho
      split at hp
      ·rw[dm]at hp;subst hp
       exact⟨⟨uj.1,uj.2.1⟩,.inl ⟨rfl,uj.2.2,.inr rfl,h.ep,rfl⟩,fun q=>ZL hr.w (by omega) (hr.w.i.ok.cr o (by unfold b_;rw[h.ld];exact ho)) x⟩
      ·cases hp
     ·cases hp
   have pl:∀ l:List Int,(l.flatMap (fX (ι w i) L)).length<=l.length/\eS ((l.flatMap (fX (ι w i) L)).map fun p=>⟨i,p.to,p.m⟩)<=4*l.length:=fun l=>by
    induction l with
    |nil=>exact⟨au _,au _⟩
    |cons a r ih=>
     have h1:(fX (ι w i) L a).length<=1/\eS ((fX (ι w i) L a).map fun p=>⟨i,p.to,p.m⟩)<=4:=by
      unfold fX
      repeat' split
      all_goals refine⟨by simp,?_⟩
      ·show 2+0<=4;omega
      ·show 4+0<=4;omega
      ·show 0<=4;omega
      ·show 0<=4;omega
     rw[List.flatMap_cons,bo,jZ,DQ,gF]
     omega
   have plo:=pl (aQ (ι w i))
   rw[<- eo]at plo
   have eb:=sF w (cL (ι w i)) hir (by omega) (fun p hp=>(post p hp).1)
   have e3:iR (cL (ι w i))={iR (ι w i)with ti:=(ι w i).ti+1 }:=by rw[et];rfl
   rw[e3]at ei
   generalize cU (bA w i (cL (ι w i))) i=w' at*
   refine⟨⟨⟨hj,he,kx,by rw[ei];exact h.ld,by rw[ei];exact h.ep,fun j hj hne=>by rw[en j (fun e=>hne e.symm)];exact h.no j hj hne,?_⟩,by rw[ei];rfl,by rw[ei];rfl,by rw[ei];rfl,ev,fun k hk hs=>by rw[eb];exact ae_ hs _,fun o ix t=>t.same ec rfl⟩,by rw[eb,DQ];omega,by rw[ei],fun _ _ k hk=>?_⟩
   ·rw[eb]
    have Gp:(ι w' i).nu=(ι w i).nu:=by rw[ei];rfl
    rw[Gp]
    intro x hx
    rcases dQ.1 hx with hx | hx
    ·exact h.ψ x hx
    ·obtain⟨p,hp,rfl⟩:=ef.1 hx;exact(post p hp).2
   ·rw[eb]
    have TU:∀ p∈fX (ι w i) L k,(⟨i,p.to,p.m⟩:fU)∈w.ψ++(cL (ι w i)).out.map fun p=>⟨i,p.to,p.m⟩:=fun p hp=>lD _ (List.mem_map_of_mem (f:=fun p:Post=>(⟨i,p.to,p.m⟩:fU)) (by rw[eo];exact List.mem_flatMap.2 ⟨k,hk,hp⟩))
    cases hik:L.ins k with
    |false=>exact .inr (.inl ⟨_,TU (jh (ι w i) k) (by unfold fX;rw[if_pos hik];exact dm.2 rfl),.inl ⟨rfl,rfl⟩⟩)
    |true=>
     cases hc:L.cur with
     |none=>exact .inl ⟨hik,fun q=>absurd hc q⟩
     |some o=>
      cases ha:L.cy k with
      |false=>exact .inr (.inr ⟨hik,_,TU (j8 (ι w i) o k) (by unfold fX;rw[if_neg (by rw[hik];decide),hc];dsimp only;rw[if_pos ha];exact dm.2 rfl),.inl ⟨rfl,rfl⟩⟩)
      |true=>exact .inl ⟨hik,fun _=>ha⟩
  ·have et:cL (ι w i)={ι w i with ti:=(ι w i).ti+1 }:=by
    rw[U0 h.ld,if_neg ht]
   have eo:(cL (ι w i)).out=[]:=by rw[et];exact hr.out
   have eb:=sF w (cL (ι w i)) hir (by rw[eo];show w.ψ.length+0<=2000;omega) (fun p hp=>by rw[eo]at hp;cases hp)
   rw[eo]at eb
   have e3:iR (cL (ι w i))={iR (ι w i)with ti:=(ι w i).ti+1 }:=by rw[et];rfl
   rw[e3]at ei
   have eb:(cU (bA w i (cL (ι w i))) i).ψ=w.ψ:=eb.trans (fu _)
   generalize cU (bA w i (cL (ι w i))) i=w' at*
   refine⟨⟨⟨hj,he,kx,by rw[ei];exact h.ld,by rw[ei];exact h.ep,fun j hj hne=>by rw[en j (fun e=>hne e.symm)];exact h.no j hj hne,?_⟩,by rw[ei];rfl,by rw[ei];rfl,by rw[ei];rfl,ev,fun k hk hs=>by rw[eb];exact hs,fun o ix t=>t.same ec rfl⟩,by rw[eb];omega,by rw[ei],fun _ q=>absurd q ht⟩
   have Gp:(ι w' i).nu=(ι w i).nu:=by rw[ei];rfl
   rw[eb,Gp];exact h.ψ
 ·rw[if_neg e,if_neg e]
  obtain⟨n1,n2⟩:=h.no i hi e
  have et:cL (ι w i)={ι w i with ti:=(ι w i).ti+1 }:=afX n1
  have eo:(cL (ι w i)).out=[]:=by rw[et];exact hr.out
  have eb:=sF w (cL (ι w i)) hir (by rw[eo];show w.ψ.length+0<=2000;omega) (fun p hp=>by rw[eo]at hp;cases hp)
  rw[eo]at eb
  have e3:iR (cL (ι w i))={iR (ι w i)with ti:=(ι w i).ti+1 }:=by rw[et];rfl
  rw[e3]at ei
  have eb:(cU (bA w i (cL (ι w i))) i).ψ=w.ψ:=eb.trans (fu _)
  have ed:=en d e
  generalize cU (bA w i (cL (ι w i))) i=w' at*
  refine⟨⟨⟨hj,he,kx,by rw[ed];exact h.ld,by rw[ed];exact h.ep,fun j hj hne=>?_,by rw[eb,ed];exact h.ψ⟩,by rw[ed],by rw[ed],by rw[ed],ev,fun k hk hs=>by rw[eb];exact hs,fun o ix t=>t.same ec rfl⟩,by rw[eb];omega,by rw[ed];omega,fun q=>absurd q e⟩
  by_cases q:i=j
  ·subst q;rw[ei];exact⟨n1,n2⟩
  ·rw[en j q];exact h.no j hj hne
theorem U2 (hw:WI T w) (hT:T<790) (h:FP E d w L) (hs:eS w.ψ<=900):∀ i,i<=4->mi E d w L (eQ w i) L/\eS (eQ w i).ψ<=eS w.ψ+(if d<i then 16 else 0)/\(ι (eQ w i) d).ti=(ι w d).ti+(if d<i then 1 else 0)/\(d<i->((ι w d).ti+1).tmod 3=0->∀ k∈aQ (ι w d),St L (eQ w i).ψ k)
 | 0,_=>⟨.refl h,au _,by rw[if_neg (by omega)];exact(Int.add_zero _).symm,fun q=>by omega⟩
 |i+1,hi=>by
  obtain⟨h1,h2,h3,h4⟩:=U2 hw hT h hs i (by omega)
  have hwi:=(uG hw (by omega) i (by omega)).1
  have h5:eS (eQ w i).ψ<=1000:=by split at h2<;>omega
  obtain⟨k1,k2,k3,k4⟩:=afR hwi (by omega) h1.fp (i:=i) (by omega) h5
  rw[h1.aQ]at k4
  refine⟨h1.trans k1,?_,?_,fun q ht k hk=>?_⟩
  ·show eS (oY (eQ w i) i).ψ<=_
   split at h2<;>split at k2<;>split<;>omega
  ·show(ι (oY (eQ w i) i) d).ti=_
   rw[k3,h3]
   split<;>split<;>split<;>omega
  ·rcases(by omega:d<i∨i=d)with q | q
   ·exact k1.st k ((h.rg hw).1 k hk).2.2 (h4 q ht k hk)
   ·refine k4 q ?_ k hk
    rw[h3,if_neg (by omega),Int.add_zero];exact ht
theorem Oe (hw:WI T w) (hT:T<800) (h:FP E d w L) (hs:eS w.ψ<=1000):∀ k,WI T (gS k w)/\∃ L',mi E d w L (gS k w) L'/\eS (gS k w).ψ<=eS w.ψ - k/\(ι (gS k w) d).ti=(ι w d).ti
 | 0=>⟨hw,L,.refl h,au _,rfl⟩
 |k+1=>by
  obtain⟨hwi,L',h1,h2,h3⟩:=Oe hw hT h hs k
  unfold gS
  split
  ·rename_i hl
   obtain⟨l,r,hb⟩:∃ l r,(gS k w).ψ=l::r:=by
    cases hb:(gS k w).ψ with
    |nil=>rw[hb]at hl;exact absurd hl (Nat.lt_irrefl _)
    |cons l r=>exact⟨l,r,rfl⟩
   obtain⟨L2,g1,g2,g3⟩:=Yn hwi hT h1.fp hb (by omega)
   exact⟨(xO hwi hT hl).2,L2,h1.trans g1,by omega,g3.trans h3⟩
  ·rename_i hl
   refine⟨hwi,L',h1,?_,h3⟩
   have:(gS k w).ψ=[]:=List.length_eq_zero_iff.1 (by omega)
   rw[this];exact bt _
theorem Ud {k:Int} (h:St L [] k):Ad L k:=by
 rcases h with h | ⟨x,hx,h⟩ | ⟨i,x,hx,h⟩
 ·exact h
 ·cases hx
 ·cases hx
theorem FP.now (h:FP E d w L):FP E d (cJ w) L:=⟨by obtain⟨G,hJ⟩:=h.j;exact⟨G,Rz hJ⟩,h.ej.cg rfl fun l hl=>hl,h.d4,h.ld,h.ep,h.no,h.ψ⟩
theorem aet (hw:WI T w) (hT:T<690) (h:FP E d w L) (hs:eS w.ψ<=400):WI (T+3) (qA w)/\∃ L',mi E d w L (qA w) L'/\(qA w).ψ=[]/\(ι (qA w) d).ti=(ι w d).ti+1/\(((ι w d).ti+1).tmod 3=0->∀ k∈aQ (ι w d),Ad L' k):=by
 have hN:=yE hw
 obtain⟨k1,k2,k3,k4⟩:=U2 hN (by omega) h.now (w:=cJ w) (by show eS w.ψ<=900;omega) 4 (au _)
 have kx:=h.d4
 rw[if_pos kx]at k2 k3
 have BU:WI (T+3) (eP w s7):=(tn hw (by omega) s7).2
 rw[Um]at BU
 have k2:eS (eQ (cJ w) 4).ψ<=eS w.ψ+16:=k2
 obtain⟨g0,L',g1,g2,g3⟩:=Oe BU (by omega) k1.fp (by omega) 500
 have e:qA w=gS 500 (eQ (cJ w) 4):=by unfold qA;rw[Um]
 rw[e]
 have hb:(gS 500 (eQ (cJ w) 4)).ψ=[]:=by
  have:=zl (gS 500 (eQ (cJ w) 4)).ψ
  exact List.length_eq_zero_iff.1 (by omega)
 have t1:mi E d w L (eQ (cJ w) 4) L:=⟨k1.fp,k1.nu,k1.v,k1.me,k1.vs,k1.st,k1.tk⟩
 refine⟨g0,L',t1.trans g1,hb,by rw[g3,k3];rfl,fun ht k hk=>?_⟩
 have:=g1.st k ((h.rg hw).1 k hk).2.2 (k4 kx ht k hk)
 rw[hb]at this
 exact Ud this
theorem OB (hw:WI T w) (h:FP E d w L) (hs:eS w.ψ<=400):∀ n:Nat,T+3*(n:Int)<690->WI (T+3*(n:Int)) (gU n w)/\∃ L',mi E d w L (gU n w) L'/\eS (gU n w).ψ<=400/\(1<=n->(gU n w).ψ=[])/\(ι (gU n w) d).ti=(ι w d).ti+n/\((∀ k∈aQ (ι w d),Ad L' k)∨(ι w d).ti % 3+n<3)
 | 0,_=>⟨by rw[show T+3*((0:Nat):Int)=T by omega];exact hw,L,.refl h,hs,fun q=>by omega,(Int.add_zero _).symm,.inr (by show _+0<3;omega)⟩
 |n+1,hT=>by
  obtain⟨h0,L1,h1,h2,h3,h4,h5⟩:=OB hw h hs n (by omega)
  obtain⟨g0,L2,g1,g2,g3,g4⟩:=aet h0 (by omega) h1.fp h2
  have hr:=h1.aQ
  rw[hr]at g4
  refine⟨by rw[show T+3*((n+1:Nat):Int)=T+3*(n:Int)+3 by omega];exact g0,L2,h1.trans g1,?_,fun _=>g2,by show(ι (qA (gU n w)) d).ti=_;rw[g3,h4];omega,?_⟩
  ·show eS (qA (gU n w)).ψ<=400;rw[g2];exact bt _
  ·rcases h5 with h5 | h5
   ·refine .inl fun k hk=>?_
    have:=g1.st k ((h.rg hw).1 k hk).2.2 (.inl (h5 k hk))
    rw[g2]at this
    exact Ud this
   ·by_cases q:((ι w d).ti+n+1) % 3=0
    ·refine .inl (g4 ?_)
     have t0:=(hw.r d h.d4).w.t0
     rw[h4,Int.tmod_eq_emod_of_nonneg (by omega)];exact q
    ·exact .inr (by omega)
structure Ec (E:Int) (d:Nat) (w:Wd) (L:bX):Prop where
 fp:FP E d w L
 ψ:w.ψ=[]
 ins:∀ k∈aQ (ι w d),L.ins k=true
 cur:L.cur=none
theorem aeA (h:FP E d w L) (hb:w.ψ=[]) (ha:∀ k∈aQ (ι w d),Ad L k):Ec E d w L:=by
 refine⟨h,hb,fun k hk=>(ha k hk).1,?_⟩
 cases hc:L.cur with
 |none=>rfl
 |some o=>
  have:=h.ej.dq d h.d4 L o h.ld hc
  rw[List.all_eq_true.2 fun k hk=>(ha k hk).2 (by rw[hc];intro q;cases q)]at this
  cases this
theorem aeB (hw:WI T w) (h:Ec E d w L) {x:Nat} (hx:x<4) (hm:(x:Int)∈aQ (ι w d)):(ι w x).ep=(ι w d).ep/\(ι w x).nu=(ι w d).nu/\(ι w x).c=(ι w d).c/\(ι w x).t=(ι w d).t:=by
 have hf:=h.fp
 obtain⟨G,hJ⟩:=hf.j
 have hne:x≠d:=fun e=>((hf.rg hw).1 _ hm).2.2 (by rw[e])
 have hl:=(hJ.r d hf.d4).l L hf.ld
 have h1:=hl.ins x hm (h.ins x hm)
 rw[h.cur]at h1
 have h1:(ι w d).nu<=(G.rc x (ι w d).ep:Int)+0:=h1
 have h2:=hf.ej.ins d hf.d4 L hf.ld x hx (h.ins x hm)
 have h3:=(hf.no x hx hne).2
 have ua:=hf.ep
 have he:(ι w x).ep=(ι w d).ep:=by omega
 have kc:=yr hJ.gi hJ.vi (hJ.r d hf.d4) hl
 have hx2:=hJ.r x hx
 have h4:=hx2.rc
 have h5:=hx2.nl
 rw[he]at h4 h5
 have hn:(ι w x).nu=(ι w d).nu:=by omega
 have s1:=hx2.st
 have s2:=(hJ.r d hf.d4).st
 rw[he,hn,<- s2]at s1
 exact⟨he,hn,congrArg Prod.fst s1,congrArg Prod.snd s1⟩
end
end Go.Proofs.YtfcjngcnifdmnaaGreat
