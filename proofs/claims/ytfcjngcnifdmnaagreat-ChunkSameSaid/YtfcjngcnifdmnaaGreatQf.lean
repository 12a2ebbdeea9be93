import Derived.Test.YtfcjngcnifdmnaaGreatQe
import Derived.KernelRfl
namespace Go.Proofs.YtfcjngcnifdmnaaGreat
open Vc Go
open Go.IntKind renaming i64->γ,u8->ν,u32->iy
open Vc.V renaming any->δ,sl->ε,int->ζ,sb->ξ,ptr->an,χ->av,dat->aH,af->aO,mp->bb,arr->bD,agg->fw
open Vc.D renaming val->η,sl->ω
open Vc.KO renaming row->υ,dead->aa,cells->aw,objs->cY
open Go.Value renaming int->φ,map->kr,oneCell'->l0
open List renaming map->ae,drop->ax,take->aA,length_append->bo,getElem?_eq_getElem->bz,getElem?_eq_some_iff->bO,length_map->cp,take_length->cZ,length_take->dc,mem_singleton->dm,replicate->dp,mem_append->dQ,Mem->dW,getElem?_append_left->dX,mem_map->ef,append_assoc->eH,mem_cons->eI,getElem?_append_right->e_,append_nil->fu,getElem?_map->fH,take_of_length_le->fI,length_drop->fZ,mem_cons_of_mem->f_,getElem?_set_ne->gE,length_cons->gF,mem_of_getElem?->gG,getElem?_eq_none->g_,getElem?_set_self->iz,length_set->iA,mem_cons_self->iB,length_singleton->iL,mem_append_left->iM,range->iN,drop_zero->iX,getD_eq_getElem?_getD->iY,getElem?_take_of_lt->ji,flatten_cons->jt,nil_append->ju,getElem?_drop->jE,map_append->jZ,take_add_one->j2,length_nil->ko,ext_getElem?->lB,getElem?_of_mem->lC,mem_append_right->lD,map_cons->lY,mem_filter->lZ,eq_nil_of_length_eq_zero->mq
open Nat renaming le_refl->au,zero_le->bt,beq->cq,eq_of_beq_eq_true->cP,zero_add->cQ,add_assoc->gR,lor->iO,lt_or_ge->jF,sub_zero->kV
open Option renaming some->bc,bind_eq_some_iff->kW,map->mU
open Int renaming le_refl->dy,toNat_natCast->dD
open Bool renaming and_eq_true->iW,not_eq_false'->nI
set_option linter.unusedVariables false
set_option linter.unusedSimpArgs false
set_option maxRecDepth 100000
def jg (ep nu:Int) (c:List Int) (x:List L3):List Int:=aY ep++(aY nu++(cH (bZ c)++cH (be x)))
def fJ (R:θ):List Int:=jg R.ep R.nu R.c (gB R)
def FC:FuncId->Option dK
 | 38=>some ⟨[],eB [true,true,true,true,true,true,false,true,true,true,true,true,true,true,true,true,true,true,true,true,true,true] zY⟩
 | 39=>some ⟨[],eB [true,true,true,true,true,true,false,false,true,true,true,true,true,true,true,true,true,true,true,true,true,true] Ar⟩
 |f=>we f
noncomputable def xl:bN:=dU Tryz.prog FC aI 10
abbrev IR (me id:Int) (bl:Bool) (ep nu:Int) (c:List Int) (M:ML):KO:=.cells [.int γ me,.int γ id,ξ bl,ξ false,.int γ ep,.int γ nu,bD 128 (aU ν c),ai M,.int γ 0,.int γ 0,.int γ 0,aH (.sl 1 []),aH (.sl 1 []),ξ false,δ (.map none),δ (.map none),.af none,.int γ 0,ξ false,.int γ 0,.sl 1 0 0,.sl 2 0 0]
def Ed:aD:=fun args kb K=>match args,kb with
 | [.int γ me,.int γ id,ξ bl],[]=>K (an 0 0) [IR me id bl 0 0 jD [],υ 107 5 [],υ 70 7 []]
 |_,_=>False
def nv (l:List Int) (lo:Nat) (e most:Int):Int×Nat×Int:=((cz (l.drop lo) e most).1,lo+(cz (l.drop lo) e most).2.1,(cz (l.drop lo) e most).2.2)
def pP (l:List Int) (lo:Nat) (e most:Int):List Int×Nat×Int:=((gN (l.drop lo) e most).1,lo+(gN (l.drop lo) e most).2.1,(gN (l.drop lo) e most).2.2)
structure oy (A:List (List D)) (h lo:Nat) (l:List Int):Prop where
 e:A=ints ν l
 h:h=l.length
 lo:lo<=l.length
 b:bm l
 m:l.length<=140737488355328
def EI:aD:=fun args kb K=>match args,kb with
 | [an 0 0,.int γ most],[aw [.sl 1 lo h,.int γ e],υ 5 1 A]=>∃ l:List Int,oy A h lo l/\
  ∀ v p e',nv l lo e most=(v,p,e')->K (.int γ v) [aw [.sl 1 p l.length,.int γ e'],υ 5 1 (ints ν l)]
 |_,_=>False
def EK:aD:=fun args kb K=>match args,kb with
 | [an 0 0,.int γ most],[aw [.sl 1 lo h,.int γ e],υ 5 1 A]=>∃ l:List Int,oy A h lo l/\
  ∀ t p e',pP l lo e most=(t,p,e')->K (.sl 2 0 t.length) [aw [.sl 1 p l.length,.int γ e'],υ 5 1 (ints ν l),υ 5 1 (ints ν t)]
 |_,_=>False
def EF:aD:=fun args kb K=>match args,kb with
 | [an 0 0],[aw [.sl 1 lo h,.int γ e],υ 5 1 A]=>∃ l:List Int,oy A h lo l/\
  ∀ e',iS (l.drop lo) e=e'->K (.int γ e') [aw [.sl 1 lo l.length,.int γ e'],υ 5 1 (ints ν l)]
 |_,_=>False
def Ir:FuncId->Option dK
 | 22=>some ⟨[],Ed⟩
 | 31=>some ⟨[],EI⟩
 | 32=>some ⟨[],EK⟩
 | 35=>some ⟨[],EF⟩
 | 30=>some ⟨[.gj 1],Ah⟩
 | 33=>some ⟨[.fk 1],xd⟩
 | 34=>some ⟨[.fk 1],zV⟩
 |_=>none
noncomputable def Mx:bN:=dU Tryz.prog Ir aI 10
abbrev M_:=fun(R:θ) (T:ML) (mC:(List Int)->_) (K:V->KB->Prop)=>(
 ∃(y1:List Int),[]=ints ν y1/\
 0=y1.length/\
 y1.length<=10000000/\
 iK R.ep/\
 ∃(y2:List Int),ints ν (y1++aY R.ep)=ints ν y2/\
 (y1++aY R.ep).length=y2.length/\
 y2.length<=10000000/\
 iK R.nu/\
 ∀(y3:Nat->
 Value),∃(y4:List Int),aU ν R.c=aU ν y4/\
 y4.length=128/\
 (∀(y5:Int),dW y5 y4->
 0<=y5/\
 y5<256)/\
 bw y3 [0,1,2,3,4,5,7,8,9,10,11,12,13,14,15,16,17,18,19,20,21]/\
 (132<=(ints ν (bZ y4)).length/\
 True)/\
 ∃(y6:List Int),∃(y7:List Int),ints ν (y2++aY R.nu)=ints ν y6/\
 ax 0 (aA 132 (ints ν (bZ y4)))=ints ν y7/\
 (y2++aY R.nu).length=y6.length/\
 y6.length<=1000000/\
 y7.length<=1000000/\
 o7 (ints ν (y6++cH y7)).flatten/\
 ∀(y8:Nat->
 Value),∃(y9:List L3),bG T y9/\
 bw y8 [0,1,2,3,4,5,8,9,10,11,12,13,14,15,16,17,18,19,20,21]/\
 ((be y9).length<=(ints ν (be y9)).length/\
 True)/\
 ∃(cO:List Int),∃(cC:List Int),ints ν (y6++cH y7)=ints ν cO/\
 ax 0 (aA (be y9).length (ints ν (be y9)))=ints ν cC/\
 (y6++cH y7).length=cO.length/\
 cO.length<=1000000/\
 cC.length<=1000000/\
 o7 (ints ν (cO++cH cC)).flatten/\
 ∃(cD:List Int),ints ν (cO++cH cC)=ints ν cD/\
 (cO++cH cC).length=cD.length/\
 cD.length<=1000000/\
 cD.length<=(ints ν cD).length/\
 K (aH (ω 1 (ax 0 (aA cD.length (ints ν cD))))) (mC y4)
 :Prop)
theorem agm (R:θ) (T:ML) (ο π:Value) (K:V->KB->Prop) (ar:
 M_ R T (fun y4=>[cS R (ζ γ R.nu) (bD 128 (aU ν y4)) (ξ R.ch) (ai T) (ξ false) (δ ο) (δ π) (aO none) (ε 1 0 (nO R)) (ε 2 0 (nD R)),rO R,rD R]) K
 ):aK Tryz.prog xl (aI 11) 11 [an 0 0] [cR R (ai T) (ξ false) (δ ο) (δ π) (.af none) (.sl 1 0 (nO R)) (.sl 2 0 (nD R)),rO R,rD R] (jJ [.fk 1] (eX K)):=by apply Eq.mp (a:=ar);kernel_rfl
theorem agl (R:θ) (T:ML) (I Q:ML) (u:Option (List D)) (K:V->KB->Prop) (ar:
 M_ R T (fun y4=>[cS R (ζ γ R.nu) (bD 128 (aU ν y4)) (ξ R.ch) (ai T) (ξ true) (bb 1) (bb 2) (aO u) (ε 3 0 (nO R)) (ε 4 0 (nD R)),aj I,aj Q,rO R,rD R]) K
 ):aK Tryz.prog xl (aI 11) 11 [an 0 0] [cR R (ai T) (ξ true) (.mp 1) (.mp 2) (.af u) (.sl 3 0 (nO R)) (.sl 4 0 (nD R)),aj I,aj Q,rO R,rD R] (jJ [.fk 1] (eX K)):=by apply Eq.mp (a:=ar);kernel_rfl
theorem ag6 (me id:Int) (bl:Bool) (K:V->KB->Prop) (ar:
 K (an 0 0) [aw [ζ γ me,ζ γ id,ξ bl,ξ false,ζ γ 0,ζ γ 0,bD 128 (dp 128 (η (φ ν 0))),ai [],ζ γ 0,ζ γ 0,ζ γ 0,aH (ω 1 []),aH (ω 1 []),ξ false,δ (kr none),δ (kr none),aO none,ζ γ 0,ξ false,ζ γ 0,ε 1 0 0,ε 2 0 0],υ 107 5 [],υ 70 7 []]
 ):aK Tryz.prog X0 (aI 22) 22 [.int γ me,.int γ id,ξ bl] [] (fA [.tP 0 138 1,.tP 0 139 1,.cell 0 147 107 5,.cell 0 148 70 7,.oK 0 134 [γ] false true 2,.ql 0 143] K):=by apply Eq.mp (a:=ar);kernel_rfl
theorem ag3 (me id:Int) (l:List Int) (K:V->KB->Prop) (ar:
 let aJ:=bD 128 (dp 128 (η (φ ν 0)));let aL:=(av [an 0 0,ξ true]);let κ:=K (av [δ (Value.pointer none),ξ false]) [];(ints ν l).length<=140737488355328/\
 ∃(y1:List Int),oy (ints ν l) (ints ν l).length 0 y1/\
 ∀(y2:Int) (y3:Nat) (y4:Int),nv y1 0 0 1099511627776=(y2,y3,y4)->
 ∃(y5:List Int),oy (ints ν y1) y1.length y3 y5/\
 ∀(y6:Int) (y7:Nat) (y8:Int),nv y5 y3 y4 1099511627776=(y6,y7,y8)->
 ∃(y9:List Int),oy (ints ν y5) y5.length y7 y9/\
 ∀(cO:List Int) (cC:Nat) (cD:Int),pP y9 y7 y8 (↑(ints ν l).length:Int)=(cO,cC,cD)->
 ∃(cM:List Int),oy (ints ν y9) y9.length cC cM/\
 ∀(dC:List Int) (cX:Nat) (fS:Int),let bp:=dC.length<=(ints ν dC).length;let aV:=(aA dC.length (ints ν dC));pP cM cC cD (↑(ints ν l).length:Int)=(dC,cX,fS)->
 cO.length<=(ints ν cO).length/\
 ∃(dg:List Int),ax 0 (aA cO.length (ints ν cO))=ints ν dg/\
 (∀(fg:Int),dW fg dg->
 0<=fg/\
 fg<256)/\
 dg.length<=900000/\
 (∀(fD:List Int),fB dg=some fD->
 fD.length=128->
 bp/\
 ∃(fN:List Int),ax 0 aV=ints ν fN/\
 (∀(eY:Int),dW eY fN->
 0<=eY/\
 eY<256)/\
 fN.length<=140737488355328/\
 (((∃(fE:List L3),fa fE/\
 fN=be fE)->
 False)->
 ∃(iT:List Int),oy (ints ν cM) cM.length cX iT/\
 ∀(gm:Int),iS (ax cX iT) fS=gm->
 ((gm != 0)=true->
 κ)/\
 ((gm != 0)=false->
 (false=true->
 κ)/\
 (false=false->
 (true=true->
 κ)/\
 (true=false->
 δ (kr none)=δ (kr none)/\
 K aL [aw [ζ γ me,ζ γ id,ξ false,ξ false,ζ γ y2,ζ γ y6,bD 128 (aU ν fD),δ (kr none),ζ γ 0,ζ γ 0,ζ γ 0,aH (ω 1 []),aH (ω 1 []),ξ false,δ (kr none),δ (kr none),aO none,ζ γ 0,ξ false,ζ γ 0,ε 1 0 0,ε 2 0 0],υ 107 5 [],υ 70 7 []]))))/\
 ∀(eT:List L3) (eZ:ML),let az:=K aL [aw [ζ γ me,ζ γ id,ξ false,ξ false,ζ γ y2,ζ γ y6,bD 128 (aU ν fD),ai eZ,ζ γ 0,ζ γ 0,ζ γ 0,aH (ω 1 []),aH (ω 1 []),ξ false,δ (kr none),δ (kr none),aO none,ζ γ 0,ξ false,ζ γ 0,ε 1 0 0,ε 2 0 0],υ 107 5 [],υ 70 7 []];bG eZ eT->
 fN=be eT->
 ∃(eF:List Int),oy (ints ν cM) cM.length cX eF/\
 ∀(iU:Int),iS (ax cX eF) fS=iU->
 ((iU != 0)=true->
 κ)/\
 ((iU != 0)=false->
 (false=true->
 κ)/\
 (false=false->
 (false=true->
 κ)/\
 (false=false->
 az/\
 az))))/\
 ((∀(jS:List Int),fB dg=some jS->
 jS.length=128->
 False)->
 bp/\
 ∃(iq:List Int),ax 0 aV=ints ν iq/\
 (∀(ft:Int),dW ft iq->
 0<=ft/\
 ft<256)/\
 iq.length<=140737488355328/\
 (((∃(jT:List L3),fa jT/\
 iq=be jT)->
 False)->
 ∃(km:List Int),oy (ints ν cM) cM.length cX km/\
 ∀(jU:Int),iS (ax cX km) fS=jU->
 ((jU != 0)=true->
 κ)/\
 ((jU != 0)=false->
 (true=true->
 κ)/\
 (true=false->
 (true=true->
 κ)/\
 (true=false->
 δ (kr none)=δ (kr none)/\
 K aL [aw [ζ γ me,ζ γ id,ξ false,ξ false,ζ γ y2,ζ γ y6,aJ,δ (kr none),ζ γ 0,ζ γ 0,ζ γ 0,aH (ω 1 []),aH (ω 1 []),ξ false,δ (kr none),δ (kr none),aO none,ζ γ 0,ξ false,ζ γ 0,ε 1 0 0,ε 2 0 0],υ 107 5 [],υ 70 7 []]))))/\
 ∀(kL:List L3) (oh:ML),let ah:=K aL [aw [ζ γ me,ζ γ id,ξ false,ξ false,ζ γ y2,ζ γ y6,aJ,ai oh,ζ γ 0,ζ γ 0,ζ γ 0,aH (ω 1 []),aH (ω 1 []),ξ false,δ (kr none),δ (kr none),aO none,ζ γ 0,ξ false,ζ γ 0,ε 1 0 0,ε 2 0 0],υ 107 5 [],υ 70 7 []];bG oh kL->
 iq=be kL->
 ∃(mQ:List Int),oy (ints ν cM) cM.length cX mQ/\
 ∀(kM:Int),iS (ax cX mQ) fS=kM->
 ((kM != 0)=true->
 κ)/\
 ((kM != 0)=false->
 (true=true->
 κ)/\
 (true=false->
 (false=true->
 κ)/\
 (false=false->
 ah/\
 ah))))
 ):aK Tryz.prog Mx (aI 10) 10 [.int γ me,.int γ id,aH (.sl 1 (ints ν l))] [] K:=by apply Eq.mp (a:=ar);kernel_rfl
theorem AP {a b:List Int} (ha:bm a) (hb:bm b):bm (a++b):=fun c hc=>(dQ.1 hc).elim (ha c) (hb c)
theorem RM {l:List Int} (hb:bm l) {lo:Nat} {e m v e':Int} {p:Nat} (hlo:lo<=l.length) (h:nv l lo e m=(v,p,e')):p<=l.length:=by
 have:=uv hb (p:=(lo,e)) hlo m
 unfold nv at h
 simp only[Prod.mk.injEq]at h
 obtain⟨-,h2,-⟩:=h
 rw[<- h2];exact this
theorem I7 {l:List Int} (hb:bm l) {lo:Nat} {e m v:Int} {p:Nat} (hm:0<=m) (h:nv l lo e m=(v,p,0)):e=0/\l.drop lo=aY v++l.drop p/\0<=v/\v<=m:=by
 unfold nv at h
 simp only[Prod.mk.injEq]at h
 obtain⟨h1,h2,h3⟩:=h
 have hs:(ia l (lo,e) m).2=0:=h3
 have k1:=v6 hs
 have k2:=yG hb hs
 have k3:=yT (l:=l.drop lo) hm e
 refine⟨k1,?_,by rw[<- h1];exact k3.2,by rw[<- h1];exact k3.1⟩
 rw[<- h1,<- h2]
 exact k2
theorem RL {pre rest:List Int} {v m:Int} (h0:0<=v) (hm:v<=m) (h:m<=9223372036854775807):nv (pre++(aY v++rest)) pre.length 0 m=(v,(pre++aY v).length,0):=by
 have:=yF (pre:=pre) (rest:=rest) h0 (by omega) hm
 unfold ia jz at this
 simp only[Prod.mk.injEq]at this
 unfold nv
 rw[this.2,this.1.1,this.1.2]
theorem ad6 {l:List Int} {e most:Int} (h:e≠0):gN l e most=([],0,e):=by
 unfold gN
 rw[CX h]
 simp [h]
theorem ad5 {l:List Int} (hb:bm l) (e m:Int):(gN l e m).1.length<=l.length/\(gN l e m).2.1<=l.length/\bm (gN l e m).1:=by
 have k:=(yU hb e m).2.2
 unfold gN
 split
 ·split
  ·exact⟨bt _,k,fun c hc=>by cases hc⟩
  ·rename_i h2
   rw[fZ]at h2
   refine⟨by rw[dc,fZ];omega,by simp only;omega,bm.take (pZ hb _) _⟩
 ·exact⟨bt _,k,fun c hc=>by cases hc⟩
theorem UW {l:List Int} (hb:bm l) {lo:Nat} {e m e':Int} {t:List Int} {p:Nat} (hlo:lo<=l.length) (h:pP l lo e m=(t,p,e')):p<=l.length/\t.length<=l.length/\bm t:=by
 have:=ad5 (pZ hb lo) e m
 rw[fZ]at this
 unfold pP at h
 simp only[Prod.mk.injEq]at h
 obtain⟨h1,h2,-⟩:=h
 rw[<- h1,<- h2]
 exact⟨by omega,by omega,this.2.2⟩
theorem UX {l:List Int} (hb:bm l) {lo:Nat} {e m:Int} {t:List Int} {p:Nat} (hm:0<=m) (h:pP l lo e m=(t,p,0)):e=0/\l.drop lo=cH t++l.drop p:=by
 unfold pP at h
 simp only[Prod.mk.injEq]at h
 obtain⟨h1,h2,h3⟩:=h
 have he:e=0:=Classical.byContradiction fun f=>by
  rw[ad6 f]at h3;exact f h3
 subst he
 refine⟨rfl,?_⟩
 unfold gN at h1 h2 h3
 split at h3
 ·rename_i hn
  rw[if_pos hn]at h1 h2
  split at h3
  ·cases h3
  ·rename_i hl
   rw[if_neg hl]at h1 h2
   obtain⟨-,k1,k2,-⟩:=I7 (lo:=lo) (e:=0) (m:=m) (v:=(cz (l.drop lo) 0 m).1) (p:=lo+(cz (l.drop lo) 0 m).2.1) hb hm (by unfold nv;rw[hn])
   simp only at h1 h2
   have hlen:(t.length:Int)=(cz (l.drop lo) 0 m).1:=by
    rw[<- h1,dc]
    omega
   unfold cH
   rw[hlen,eH]
   have e2:t++l.drop p=l.drop (lo+(cz (l.drop lo) 0 m).2.1):=by
    rw[<- h1,<- h2,<- gR,<- List.drop_drop,<- List.drop_drop,List.take_append_drop]
   rw[e2]
   exact k1
 ·rename_i hn
  exact absurd h3 hn
theorem UV {pre rest b:List Int} {m:Int} (hm:(b.length:Int)<=m) (h:m<=9223372036854775807):pP (pre++(cH b++rest)) pre.length 0 m=(b,(pre++cH b).length,0):=by
 unfold pP
 rw[List.drop_left,Tl hm (by omega),bo]
structure ou (l:List Int) (ep nu:Int) (c:List Int) (x:List L3):Prop where
 e:l=jg ep nu c x
 e0:0<=ep
 e1:ep<=1099511627776
 n0:0<=nu
 n1:nu<=1099511627776
 cl:c.length=128
 x:fa x
structure LY (l:List Int) (v v1:Int) (t t1:List Int) (e:Int):Prop where
 back:e=0->∀ c x,t=bZ c->c.length=128->t1=be x->fa x->ou l v v1 c x
 fwd:∀ ep nu c x,ou l ep nu c x->v=ep/\v1=nu/\t=bZ c/\t1=be x/\e=0
theorem S4 {l:List Int} (hb:bm l) (hl:l.length<=900000) {v v1:Int} {t t1:List Int} {p p1 p2 p3:Nat} {e e1 e2 e3 e4:Int} (h1:nv l 0 0 1099511627776=(v,p,e)) (h2:nv l p e 1099511627776=(v1,p1,e1)) (h3:pP l p1 e1 l.length=(t,p2,e2)) (h4:pP l p2 e2 l.length=(t1,p3,e3)) (h5:iS (l.drop p3) e3=e4):LY l v v1 t t1 e4:=by
 refine⟨fun h c x ht hc ht1 hx=>?_,fun ep nu c x hr=>?_⟩
 ·subst h
  obtain⟨rfl,q5⟩:=Tj h5
  obtain⟨rfl,q4⟩:=UX hb (by omega) h4
  obtain⟨rfl,q3⟩:=UX hb (by omega) h3
  obtain⟨rfl,q2,k1,k2⟩:=I7 hb (by omega) h2
  obtain⟨-,q1,k3,k4⟩:=I7 hb (by omega) h1
  refine⟨?_,k3,k4,k1,k2,hc,hx⟩
  rw[iX]at q1
  unfold jg
  rw[q1,q2,q3,q4,q5,fu,ht,ht1]
 ·obtain⟨rfl,a0,a1,a2,a3,a4,a5⟩:=hr
  have hlen:(bZ c).length<=(jg ep nu c x).length/\(be x).length<=(jg ep nu c x).length:=by
   unfold jg cH;simp only[bo];omega
  have b1:=RL (pre:=[]) (rest:=aY nu++(cH (bZ c)++cH (be x))) a0 a1 (by omega)
  rw[ju]at b1
  have c1:nv (jg ep nu c x) 0 0 1099511627776=(ep,([]++aY ep).length,0):=b1
  rw[c1]at h1
  simp only[Prod.mk.injEq]at h1
  obtain⟨rfl,rfl,rfl⟩:=h1
  have b2:=RL (pre:=[]++aY ep) (rest:=cH (bZ c)++cH (be x)) a2 a3 (by omega)
  have c2:nv (jg ep nu c x) ([]++aY ep).length 0 1099511627776=(nu,([]++aY ep++aY nu).length,0):=b2
  rw[c2]at h2
  simp only[Prod.mk.injEq]at h2
  obtain⟨rfl,rfl,rfl⟩:=h2
  have b3:=UV (pre:=[]++aY ep++aY nu) (b:=bZ c) (rest:=cH (be x)) (m:=((jg ep nu c x).length:Int)) (by omega) (by omega)
  have r3:[]++aY ep++aY nu++(cH (bZ c)++cH (be x))=jg ep nu c x:=by unfold jg;simp [eH]
  rw[r3]at b3
  rw[b3]at h3
  simp only[Prod.mk.injEq]at h3
  obtain⟨rfl,rfl,rfl⟩:=h3
  have b4:=UV (pre:=[]++aY ep++aY nu++cH (bZ c)) (b:=be x) (rest:=[]) (m:=((jg ep nu c x).length:Int)) (by omega) (by omega)
  have r4:[]++aY ep++aY nu++cH (bZ c)++(cH (be x)++[])=jg ep nu c x:=by unfold jg;simp [eH]
  rw[r4]at b4
  rw[b4]at h4
  simp only[Prod.mk.injEq]at h4
  obtain⟨rfl,rfl,rfl⟩:=h4
  refine⟨rfl,rfl,rfl,rfl,?_⟩
  rw[<- h5]
  have r5:jg ep nu c x=[]++aY ep++aY nu++cH (bZ c)++cH (be x):=by rw[<- r4,fu]
  rw[r5,List.drop_length]
  rfl
theorem Tv (ep nu:Int) {c:List Int} (hc:c.length=128) {x:List L3} (hx:x.length<=32):(jg ep nu c x).length<=2000:=by
 have h1:=jO ep
 have h2:=jO nu
 have h3:=r_ (bZ c)
 have h4:=r_ (be x)
 have h5:=uE hx x.length
 rw[tq]at h5
 rw[oU,hc]at h3
 unfold jg;simp only[bo];omega
theorem KE {x:List L3} (h:fa x):bm (be x):=by
 unfold be gJ
 refine AP (pG (by have:=h.len;omega)) fun c hc=>?_
 simp only[List.mem_flatten,ef]at hc
 obtain⟨_,⟨p,hp,rfl⟩,hc⟩:=hc
 have hr:=h.rg p hp
 unfold mO at hc
 simp only[dQ]at hc
 rcases hc with (hc | hc) | hc
 ·exact pG (by omega) c hc
 ·exact pG (by omega) c hc
 ·exact pG (by omega) c hc
theorem aep {ep nu:Int} {c:List Int} {x:List L3} (h1:ep<=9223372036854775807) (h2:nu<=9223372036854775807) (hc:c.length=128) (hb:bm c) (hx:fa x):bm (jg ep nu c x):=by
 have h5:=uE hx.len x.length
 rw[tq]at h5
 exact AP (pG h1) (AP (pG h2) (AP (DC (Dd hb) (by rw[oU];omega)) (DC (KE hx) (by omega))))
theorem acn:aR Tryz.prog 31 EI:=fun args kb K h=>Sa args kb K (by
 unfold EI at h
 unfold Al
 split at h<;>try exact h.elim
 obtain⟨l,h1,h2⟩:=h
 exact⟨l,h1.e,h1.h,h1.lo,h1.b,h1.m,h2 _ _ _ rfl⟩)
theorem ac0:aR Tryz.prog 32 EK:=fun args kb K h=>Sj args kb K (by
 unfold EK at h
 unfold Am
 split at h<;>try exact h.elim
 obtain⟨l,h1,h2⟩:=h
 exact⟨l,h1.e,h1.h,h1.lo,h1.b,h1.m,h2 _ _ _ rfl⟩)
theorem abV:aR Tryz.prog 35 EF:=fun args kb K h=>R5 args kb K (by
 unfold EF at h
 unfold Ak
 split at h<;>try exact h.elim
 obtain⟨l,h1,h2⟩:=h
 exact⟨l,h1.e,h1.h,h2 _ rfl⟩)
theorem XH:dP Tryz.prog FC:=fun f k h=>by
 unfold FC at h
 split at h
 ·cases h;exact fy RU _
 ·cases h;exact fy Si _
 ·exact CT _ _ h
theorem Mi:b9 Tryz.prog xl:=dY mixed XH aI 10
theorem R_:aR Tryz.prog 22 Ed:=Kl hZ mixed [.tP 0 138 1,.tP 0 139 1,.cell 0 147 107 5,.cell 0 148 70 7,.oK 0 134 [γ] false true 2,.ql 0 143] (fun args kb K h=>by
 unfold Ed at h;split at h<;>try exact h.elim
 exact⟨_,ag6 _ _ _ K h⟩)
theorem aa7:dP Tryz.prog Ir:=fun f k h=>by
 unfold Ir at h
 split at h
 ·cases h;exact R_
 ·cases h;exact acn
 ·cases h;exact ac0
 ·cases h;exact abV
 ·cases h;exact Sc
 ·cases h;exact Ji
 ·cases h;exact R9
 ·cases h
theorem WR:b9 Tryz.prog Mx:=dY mixed aa7 aI 10
def L4:aD:=fun args kb K=>match args,kb with
 | [.int γ me,.int γ id,aH (.sl 1 B)],[]=>∃ l,B=ints ν l/\bm l/\l.length<=900000/\
  ((¬ ∃ ep nu c x,ou l ep nu c x)->K (.χ [δ (.pointer none),ξ false]) [])/\
  ∀ ep nu c x M,ou l ep nu c x->bG M x->K (.χ [an 0 0,ξ true]) [IR me id false ep nu c M,υ 107 5 [],υ 70 7 []]
 |_,_=>False
theorem acM:aR Tryz.prog 10 L4:=fC WR mixed (fun args kb K h=>by
 unfold L4 at h;split at h<;>try exact h.elim
 obtain⟨l,rfl,hb,hl,hno,h1⟩:=h
 refine⟨_,ag3 _ _ l K ?_⟩
 have hk:∀{lo:Nat},lo<=l.length->oy (ints ν l) l.length lo l:=fun h=>⟨rfl,rfl,h,hb,by omega⟩
 have tk:∀ t:List Int,ax 0 (aA t.length (ints ν t))=ints ν t:=fun t=>by rw[iX,fI (by rw[bh];omega)]
 simp only[bh]
 refine⟨by omega,l,hk (bt _),fun v p e q1=>?_⟩
 have b1:=RM hb (bt _) q1
 refine⟨l,hk b1,fun v1 p1 e1 q2=>?_⟩
 have b2:=RM hb b1 q2
 refine⟨l,hk b2,fun t p2 e2 q3=>?_⟩
 have b3:=UW hb b2 q3
 refine⟨l,hk b3.1,fun t1 p3 e3 q4=>?_⟩
 have b4:=UW hb b3.1 q4
 have fin:∀ e4,iS (l.drop p3) e3=e4->LY l v v1 t t1 e4:=fun e4 q5=>S4 hb hl q1 q2 q3 q4 q5
 refine⟨au _,t,tk t,b3.2.2,by omega,fun m hm BM=>⟨au _,t1,tk t1,b4.2.2,by omega,fun HQ=>⟨l,hk b4.1,fun e4 q5=>?_⟩,fun x M hT BV=>⟨l,hk b4.1,fun e4 q5=>?_⟩⟩,fun hnm=>?_⟩
 ·have no:K (.χ [δ (.pointer none),ξ false]) []:=hno fun⟨ep,nu,c,x,hr⟩=>by
   obtain⟨-,-,-,k4,-⟩:=(fin e4 q5).fwd _ _ _ _ hr
   exact HQ ⟨x,hr.x,k4⟩
  exact⟨fun _=>no,fun _=>⟨fun q=>(by cases q),fun _=>⟨fun _=>no,fun q=>(by cases q)⟩⟩⟩
 ·have F:=fin e4 q5
  refine⟨fun hne=>hno fun⟨ep,nu,c,x,hr⟩=>?_,fun he=>⟨fun q=>(by cases q),fun _=>⟨fun q=>(by cases q),fun _=>?_⟩⟩⟩
  ·obtain⟨-,-,-,-,k⟩:=F.fwd _ _ _ _ hr
   rw[k]at hne;simp at hne
  ·have he:e4=0:=by simpa using he
   have k:=h1 v v1 m x M (F.back he m x (CN hm) BM BV hT.ok) hT
   exact⟨k,k⟩
 ·have no:K (.χ [δ (.pointer none),ξ false]) []:=hno fun⟨ep,nu,c,x',hr⟩=>by
   obtain⟨-,-,k3,-,-⟩:=(fin _ rfl).fwd _ _ _ _ hr
   exact hnm c (by rw[k3,wa]) hr.cl
  exact⟨au _,t1,tk t1,b4.2.2,by omega,fun _=>⟨l,hk b4.1,fun e4 q5=>⟨fun _=>no,fun _=>⟨fun _=>no,fun q=>(by cases q)⟩⟩⟩,fun x M hT BV=>⟨l,hk b4.1,fun e4 q5=>⟨fun _=>no,fun _=>⟨fun _=>no,fun q=>(by cases q)⟩⟩⟩⟩)
def newR (me id:Int) (bl:Bool) (ep nu:Int) (c:List Int) (x:List L3):θ:=⟨me,id,ep,nu,0,0,bl,false,false,c,x,⟨0,0,0,[],[]⟩,none,[],[]⟩
theorem Tw (me id:Int) (bl:Bool) (ep nu:Int) (c:List Int) {x:List L3} {M:ML} (hM:bG M x):aB (newR me id bl ep nu c x) [IR me id bl ep nu c M,υ 107 5 [],υ 70 7 []]:=by
 unfold aB newR
 exact⟨_,_,M,hM,rfl⟩
theorem aeo (me id:Int) (bl:Bool) (ep:Int) {nu:Int} {c:List Int} (x:List L3) (h0:0<=nu) (h1:nu<=2199023255552) (hc:c.length=128) (hb:bm c):dz (newR me id bl ep nu c x):=
 ⟨hc,hb,h0,h1,bt _,bt _,bt _,fun o h=>by simp [newR,b_]at h⟩
theorem adR (R:θ) (T:ML) (ο π:Value) (hT:bG T R.t) (hl:R.ld=none) (hR:dz R) (hE:iK R.ep) (K:V->KB->Prop) (hK:∀ kb',aB R kb'->K (aH (.sl 1 (ints ν (fJ R)))) kb'):aK Tryz.prog xl (aI 11) 11 [an 0 0] [cR R (ai T) (ξ false) (δ ο) (δ π) (.af none) (.sl 1 0 (nO R)) (.sl 2 0 (nD R)),rO R,rD R] (jJ [.fk 1] (eX K)):=by
 have hN:iK R.nu:=⟨by have:=hR.n1;omega⟩
 have e1:=r9 (tg hR.cl).symm
 have e2:=r9 (l:=be R.t) rfl
 have w1:=jO R.ep
 have w2:=jO R.nu
 have w3:=r_ (bZ R.c)
 have w4:=r_ (be R.t)
 have w5:=uE hT.len R.t.length
 rw[tq]at w5
 have w6:=tg hR.cl
 refine agm R T ο π K ⟨[],rfl,rfl,bt _,hE,[]++aY R.ep,rfl,rfl,by rw[bo,ko];omega,hN,fun f=>⟨R.c,rfl,hR.cl,fun c h=>hR.cb c h,⟨by simp [bQ]⟩,⟨by rw[bh,w6];exact au _,trivial⟩,[]++aY R.ep++aY R.nu,bZ R.c,rfl,e1,rfl,by simp only[bo,ko];omega,by omega,⟨pJ⟩,fun f=>⟨R.t,hT,⟨by simp [bQ]⟩,⟨by rw[bh];exact au _,trivial⟩,[]++aY R.ep++aY R.nu++cH (bZ R.c),be R.t,rfl,e2,rfl,by simp only[bo,ko];omega,by omega,⟨pJ⟩,_,rfl,rfl,by simp only[bo,ko];omega,by rw[bh];exact au _,?_⟩⟩⟩
 rw[r9 rfl]
 have eb:[]++aY R.ep++aY R.nu++cH (bZ R.c)++cH (be R.t)=fJ R:=by
  unfold fJ jg gB;simp [eH]
 rw[eb]
 refine hK _ ?_
 unfold aB
 simp only[hl]
 exact⟨ο,π,T,hT,rfl⟩
theorem adQ (R:θ) (T:ML) (I Q:ML) (L:bX) (hT:bG T R.t) (hl:R.ld=some L) (hI:MB I L.ins) (hQ:MB Q L.cy) (hR:dz R) (hE:iK R.ep) (K:V->KB->Prop) (hK:∀ kb',aB R kb'->K (aH (.sl 1 (ints ν (fJ R)))) kb'):aK Tryz.prog xl (aI 11) 11 [an 0 0] [cR R (ai T) (ξ true) (.mp 1) (.mp 2) (.af (L.cur.map bn)) (.sl 3 0 (nO R)) (.sl 4 0 (nD R)),aj I,aj Q,rO R,rD R] (jJ [.fk 1] (eX K)):=by
 have hN:iK R.nu:=⟨by have:=hR.n1;omega⟩
 have e1:=r9 (tg hR.cl).symm
 have e2:=r9 (l:=be R.t) rfl
 have w1:=jO R.ep
 have w2:=jO R.nu
 have w3:=r_ (bZ R.c)
 have w4:=r_ (be R.t)
 have w5:=uE hT.len R.t.length
 rw[tq]at w5
 have w6:=tg hR.cl
 refine agl R T I Q (L.cur.map bn) K ⟨[],rfl,rfl,bt _,hE,[]++aY R.ep,rfl,rfl,by rw[bo,ko];omega,hN,fun f=>⟨R.c,rfl,hR.cl,fun c h=>hR.cb c h,⟨by simp [bQ]⟩,⟨by rw[bh,w6];exact au _,trivial⟩,[]++aY R.ep++aY R.nu,bZ R.c,rfl,e1,rfl,by simp only[bo,ko];omega,by omega,⟨pJ⟩,fun f=>⟨R.t,hT,⟨by simp [bQ]⟩,⟨by rw[bh];exact au _,trivial⟩,[]++aY R.ep++aY R.nu++cH (bZ R.c),be R.t,rfl,e2,rfl,by simp only[bo,ko];omega,by omega,⟨pJ⟩,_,rfl,rfl,by simp only[bo,ko];omega,by rw[bh];exact au _,?_⟩⟩⟩
 rw[r9 rfl]
 have eb:[]++aY R.ep++aY R.nu++cH (bZ R.c)++cH (be R.t)=fJ R:=by
  unfold fJ jg gB;simp [eH]
 rw[eb]
 refine hK _ ?_
 unfold aB
 simp only[hl]
 exact⟨I,Q,T,hI,hQ,hT,rfl⟩
def Wc:aD:=fun args kb K=>∃ R,args=[an 0 0]/\aB R kb/\dz R/\iK R.ep/\∀ kb',aB R kb'->K (aH (.sl 1 (ints ν (fJ R)))) kb'
set_option maxHeartbeats 4000000 in
theorem abJ:gq Tryz.prog 11 Wc:=IE mixed [.fk 1] [] (fun args kb K h=>by
 obtain⟨R,rfl,hkb,hR,hE,hK⟩:=h
 have i_:=hkb
 unfold aB at hkb
 split at hkb
 ·rename_i hl
  obtain⟨ο,π,T,hT,rfl⟩:=hkb
  exact⟨_,_,Mi,adR R T ο π hT hl hR hE K hK⟩
 ·rename_i L hl
  obtain⟨I,Q,T,hI,hQ,hT,rfl⟩:=hkb
  exact⟨_,_,Mi,adQ R T I Q L hT hl hI hQ hR hE K hK⟩)
structure ga (o:Op):Prop where
 b:bm o.b
 l:o.b.length<=900000
structure bu (R:θ):Prop where
 ok:dz R
 tx:fa R.t
 om:∀ p∈R.out,kT p.m
 oc:∀ o,b_ R=some o->ga o
structure j4 (R R2:θ):Prop where
 i:bu R2
 o:R2.out.length<=R.out.length+1
 d:R2.done.length<=R.done.length+1
 me:R2.me=R.me
 id:R2.id=R.id
 v:R2.v=R.v
 ti:R2.ti=R.ti
theorem j4.refl {R:θ} (h:bu R):j4 R R:=⟨h,Nat.le_succ _,Nat.le_succ _,rfl,rfl,rfl,rfl⟩
theorem afG {x:List L3} (h:fa x):bG (x.map pf) x:=⟨List.Perm.refl _,h.inc,h.rg,h.len⟩
theorem ada {x:List L3} {c n e:Int} (h:fa x) (h0:cW x c n e=0):fa (oS x c n e):=(Dy (afG h) h0).ok
theorem QX {b:List Int} {x:List L3} (h:loadT b=some x):fa x/\b=be x:=by
 unfold loadT at h
 split at h
 ·rename_i hex
  have hc:=hex.choose_spec
  simp only[bc.injEq]at h
  exact⟨h ▸ hc.1,h ▸ hc.2⟩
 ·cases h
theorem QU {b c:List Int} (h:jm b=some c):c.length=128/\b=bZ c:=by
 unfold jm at h
 split at h
 ·rename_i c' hc
  split at h
  ·rename_i hl
   cases h
   exact⟨hl,CN hc⟩
  ·cases h
 ·cases h
theorem CA (kd:Int) (n:List Int):kT ⟨kd,n,[],[]⟩:=⟨fun c h=>(by cases h),bt _,fun y h=>(by cases h)⟩
theorem Kw {R:θ} (hI:bu R) (to:Int):kT (jh R to).m:=by
 have hx:fa (gB R):=hI.tx
 have hl:=uE hx.len (gB R).length
 rw[tq]at hl
 refine⟨Dd hI.ok.cb,by show(bZ R.c).length<=_;rw[tg hI.ok.cl];omega,fun y hy=>?_⟩
 have:y=be (gB R):=by simpa [jh]using hy
 subst this
 exact⟨KE hx,by omega⟩
theorem Pl {R:θ} {o:Op} (h:ga o) (to:Int):kT (j8 R o to).m:=⟨h.b,h.l,fun y h=>(by cases h)⟩
theorem ww {R:θ} (h:bu R) (ho:R.out.length<100000) {to kd:Int} {n b:List Int} {l:List (List Int)} (hm:kT ⟨kd,R.id::R.ep::n,b,l⟩):j4 R (il R to kd n b l):=by
 refine⟨⟨⟨h.ok.cl,h.ok.cb,h.ok.n0,h.ok.n1,h.ok.vl,?_,h.ok.dl,h.ok.cr⟩,h.tx,fun p hp=>?_,h.oc⟩,?_,Nat.le_succ _,rfl,rfl,rfl,rfl⟩
 ·simp only[il,bo,iL];omega
 ·simp only[il,dQ,dm]at hp
  rcases hp with hp | rfl
  ·exact h.om p hp
  ·exact hm
 ·simp only[il,bo,iL];omega
theorem Ro {R:θ} (h:bu R) (ho:R.out.length<100000) (to:Int):j4 R (nT R to):=ww h ho (CA _ _)
theorem afj {R:θ} (h:bu R) (ho:R.out.length<100000) (to:Int):j4 R (qC R to):=ww h ho (Kw h to)
theorem wQ {R:θ} (h:bu R) (hd:R.done.length<100000):bu (gn R)/\(gn R).done.length<=R.done.length+1:=by
 have hl:(gn R).done.length<=R.done.length+1:=by
  unfold gn
  cases b_ R<;>simp
 exact⟨⟨⟨h.ok.cl,h.ok.cb,h.ok.n0,h.ok.n1,h.ok.vl,h.ok.ol,by omega,fun o ho=>by simp [gn,b_]at ho⟩,h.tx,h.om,fun o ho=>by simp [gn,b_]at ho⟩,hl⟩
theorem GN {R:θ} (h:bu R) (hd:R.done.length<100000):bu (fb R)/\(fb R).done.length<=R.done.length+1/\(fb R).out=R.out/\(fb R).me=R.me/\(fb R).id=R.id/\(fb R).v=R.v/\(fb R).ti=R.ti:=by
 unfold fb
 split
 ·rename_i L hl
  split
  ·rename_i o ho
   split
   ·exact⟨⟨⟨h.ok.cl,h.ok.cb,h.ok.n0,h.ok.n1,h.ok.vl,h.ok.ol,by simp;omega,fun o ho=>by simp [b_]at ho⟩,h.tx,h.om,fun o ho=>by simp [b_]at ho⟩,by simp,rfl,rfl,rfl,rfl,rfl⟩
   ·exact⟨h,Nat.le_succ _,rfl,rfl,rfl,rfl,rfl⟩
  ·exact⟨h,Nat.le_succ _,rfl,rfl,rfl,rfl,rfl⟩
 ·exact⟨h,Nat.le_succ _,rfl,rfl,rfl,rfl,rfl⟩
theorem DP {l:List Int} (h:l.any cI=false) {i:Nat}:0<=l.getD i 0/\l.getD i 0<=1099511627776:=by
 rw[List.any_eq_false]at h
 rw[iY]
 cases hi:l[i]? with
 |none=>simp
 |some x=>
  have:=h x (gG hi)
  simp only[cI,decide_eq_true_eq]at this
  simp only[Option.getD_some]
  omega
theorem afz {R:θ} (h:bu R) (ho:R.out.length<100000) (hd:R.done.length<100000) (fr:Int) {m:dI} (hm:kT m) (hw:m.n.any cI=false):j4 R (iH R fr m):=by
 unfold iH
 split
 ·exact Ro h ho fr
 ·split
  ·rename_i c t hc ht
   obtain⟨k1,k2⟩:=wQ h hd
   obtain⟨c1,c2⟩:=QU hc
   have cb:bm c:=fun x hx=>hm.b x (by rw[c2];unfold bZ;exact iM _ hx)
   have n2:=DP hw (i:=2)
   have hY:bu {gn R with ep:=bi m 1,nu:=bi m 2,c:=c,t:=t,ch:=true }:=by
    refine⟨⟨c1,cb,n2.1,by have:=n2.2;show bi m 2<=_;unfold bi;omega,k1.ok.vl,k1.ok.ol,k1.ok.dl,fun o ho=>by simp [gn,b_]at ho⟩,(QX ht).1,k1.om,fun o ho=>by simp [gn,b_]at ho⟩
   have:=ww (to:=fr) (kd:=11) (n:=[bi m 2]) (b:=[]) (l:=[]) hY (by exact ho) (CA _ _)
   exact⟨this.i,this.o,k2,this.me,this.id,this.v,this.ti⟩
  ·exact j4.refl h
theorem OG {R R1:θ} (h:bu R1) (hd:R1.done.length<100000) (e1:R1.out=R.out) (e2:R1.done=R.done) (e3:R1.me=R.me) (e4:R1.id=R.id) (e5:R1.v=R.v) (e6:R1.ti=R.ti):j4 R (fb R1):=by
 obtain⟨k1,k2,k3,k4,k5,k6,k7⟩:=GN h hd
 exact⟨k1,by rw[k3,e1];omega,by rw[<- e2];exact k2,k4.trans e3,k5.trans e4,k6.trans e5,k7.trans e6⟩
theorem yq {R:θ} (h:bu R) {L:bX} (hl:R.ld=some L) (f g:Int->Bool):bu {R with ld:=some ⟨f,g,L.cur⟩ }:=by
 have hc:b_ R=L.cur:=by unfold b_;rw[hl];rfl
 refine⟨⟨h.ok.cl,h.ok.cb,h.ok.n0,h.ok.n1,h.ok.vl,h.ok.ol,h.ok.dl,fun o ho=>h.ok.cr o (by rw[hc];exact ho)⟩,h.tx,h.om,fun o ho=>h.oc o (by rw[hc];exact ho)⟩
theorem afu {R:θ} (h:bu R) (hd:R.done.length<100000) (fr:Int) (m:dI):j4 R (im R fr m):=by
 unfold im
 split
 ·exact j4.refl h
 ·rename_i L hl
  split
  ·exact j4.refl h
  ·split
   ·rename_i hc
    have:=yq h hl (mark L.ins fr true) L.cy
    rw[hc]at this
    exact⟨this,Nat.le_succ _,Nat.le_succ _,rfl,rfl,rfl,rfl⟩
   ·rename_i o hc
    have:=yq h hl (mark L.ins fr true) (mark L.cy fr true)
    rw[hc]at this
    exact OG this hd rfl rfl rfl rfl rfl rfl
theorem adi {R:θ} (h:bu R) (hd:R.done.length<100000) (fr:Int) (m:dI):j4 R (ic R fr m):=by
 unfold ic
 split
 ·exact j4.refl h
 ·rename_i L hl
  split
  ·exact j4.refl h
  ·rename_i o hc
   split
   ·have:=yq h hl L.ins (mark L.cy fr true)
    rw[hc]at this
    exact OG this hd rfl rfl rfl rfl rfl rfl
   ·exact j4.refl h
theorem aei {R:θ} (h:bu R) (ho:R.out.length<100000) (hd:R.done.length<100000) (fr:Int) (m:dI):j4 R (ij R fr m):=by
 unfold ij
 split
 ·exact j4.refl h
 ·rename_i L hl
  split
  ·obtain⟨k1,k2⟩:=wQ h hd
   exact⟨k1,Nat.le_succ _,k2,rfl,rfl,rfl,rfl⟩
  ·split
   ·have h2:bu {R with lo:=true }:=⟨⟨h.ok.cl,h.ok.cb,h.ok.n0,h.ok.n1,h.ok.vl,h.ok.ol,h.ok.dl,h.ok.cr⟩,h.tx,h.om,h.oc⟩
    obtain⟨k1,k2⟩:=wQ h2 hd
    exact⟨k1,Nat.le_succ _,k2,rfl,rfl,rfl,rfl⟩
   ·have:=afj (yq h hl (mark L.ins fr false) L.cy) ho fr
    exact⟨this.i,this.o,this.d,this.me,this.id,this.v,this.ti⟩
theorem J3 {o:Op} (h:gO o=true):1<=o.kd/\o.kd<=4/\0<=o.bk/\o.bk<8/\0<=o.cl/\o.cl<=255/\1<=o.nm/\o.nm<=1099511627776/\(o.kd=1->o.b.length=16):=by
 unfold gO kI at h
 simp at h
 omega
theorem N_ {t:List L3} (h:fa t) (o:Op):fa (mA t o):=by
 unfold mA
 split
 ·rename_i hp
  exact ada h hp.2
 ·exact h
theorem Gf {R:θ} (h:bu R) {o:Op} (hr:gO o=true) (hb:bm o.b) (hn:R.nu<2199023255552):bu (ir R o):=by
 have k:=J3 hr
 have c1:=N9 (c:=R.c) h.ok.cl hr
 have c2:=N8 (kd:=o.kd) (bk:=o.bk) h.ok.cb hb
 have n0:=h.ok.n0
 exact⟨⟨c1,c2,by show 0<=R.nu+1;omega,by show R.nu+1<=_;omega,h.ok.vl,h.ok.ol,h.ok.dl,h.ok.cr⟩,N_ h.tx o,h.om,h.oc⟩
theorem adq {R:θ} (h:bu R) (ho:R.out.length<100000) (fr:Int) {m:dI} (hm:kT m) (hw:m.n.any cI=false):j4 R (iG R fr m):=by
 unfold iG
 split
 ·exact ww h ho (CA _ _)
 ·split
  ·rename_i k
   obtain⟨_,k2,_,k4,_⟩:=k
   have n2:=DP hw (i:=2)
   have k2:m.n.getD 2 0=R.nu+1:=k2
   have hD:=Gf h (o:=ux m) k4 hm.b (by omega)
   have:=ww (to:=fr) (kd:=13) (n:=[R.nu+1]) (b:=[]) (l:=[]) hD (by exact ho) (CA _ _)
   exact⟨this.i,this.o,this.d,this.me,this.id,this.v,this.ti⟩
  ·exact Ro h ho fr
theorem O5 {R:θ} {fr:Int} {m:dI} (h:ca R fr m=true):m.n.any cI=false:=by
 unfold ca at h
 simp only[iW,Bool.not_eq_true']at h
 exact h.2
theorem ZN {R:θ} (h:bu R) (ho:R.out.length<100000) (hd:R.done.length<100000) (fr:Int) {m:dI} (hm:kT m):j4 R (dE R fr m):=by
 unfold dE
 split
 ·exact j4.refl h
 ·rename_i hg
  have hw:=O5 (by simpa using hg)
  split
  ·exact afz h ho hd fr hm hw
  ·split
   ·exact afu h hd fr m
   ·split
    ·exact adq h ho fr hm hw
    ·split
     ·exact adi h hd fr m
     ·exact aei h ho hd fr m
theorem CP {R:θ} (h:bu R) {ps:List Post} (hp:∀ p∈ps,kT p.m) (hl:R.out.length+ps.length<=100000):bu {R with out:=R.out++ps }:=
 ⟨⟨h.ok.cl,h.ok.cb,h.ok.n0,h.ok.n1,h.ok.vl,by show(R.out++ps).length<=_;rw[bo];exact hl,h.ok.dl,h.ok.cr⟩,h.tx,fun p hm=>(dQ.1 hm).elim (h.om p) (hp p),h.oc⟩
theorem DD {R:θ} (h:bu R) (n:Int):bu {R with ti:=n }:=⟨⟨h.ok.cl,h.ok.cb,h.ok.n0,h.ok.n1,h.ok.vl,h.ok.ol,h.ok.dl,h.ok.cr⟩,h.tx,h.om,h.oc⟩
theorem AR {R:θ} (h:bu R) (b:Bool):bu {R with ch:=b }:=⟨⟨h.ok.cl,h.ok.cb,h.ok.n0,h.ok.n1,h.ok.vl,h.ok.ol,h.ok.dl,h.ok.cr⟩,h.tx,h.om,h.oc⟩
theorem SP {R:θ} (h:bu R):bu {R with out:=[] }:=⟨⟨h.ok.cl,h.ok.cb,h.ok.n0,h.ok.n1,h.ok.vl,bt _,h.ok.dl,h.ok.cr⟩,h.tx,fun p hp=>(by cases hp),h.oc⟩
theorem Gg {R:θ} (h:bu R):bu {R with done:=[] }:=⟨⟨h.ok.cl,h.ok.cb,h.ok.n0,h.ok.n1,h.ok.vl,h.ok.ol,bt _,h.ok.cr⟩,h.tx,h.om,h.oc⟩
theorem Oc {R:θ} (h:bu R) {d:List Dn} (hl:R.done.length+d.length<=100000):bu {R with done:=R.done++d }:=⟨⟨h.ok.cl,h.ok.cb,h.ok.n0,h.ok.n1,h.ok.vl,h.ok.ol,by show(R.done++d).length<=_;rw[bo];exact hl,h.ok.cr⟩,h.tx,h.om,h.oc⟩
theorem afM (R:θ) (L:bX) (k:Int):(fX R L k).length<=1:=by
 unfold fX
 split
 ·simp
 ·split
  ·split<;>simp
  ·simp
theorem KL (R:θ) (L:bX):∀ l:List Int,(l.flatMap (fX R L)).length<=l.length
 | []=>by simp
 |a::l=>by
  have:=KL R L l
  have:=afM R L a
  rw[List.flatMap_cons,bo,gF];omega
theorem afN {R:θ} (h:bu R) {L:bX} (hl:R.ld=some L) (k:Int):∀ p∈fX R L k,kT p.m:=by
 unfold fX
 split
 ·intro p hp
  rw[dm]at hp;subst hp
  exact Kw h k
 ·split
  ·rename_i o ho
   split
   ·intro p hp
    rw[dm]at hp;subst hp
    exact Pl (h.oc o (by unfold b_;rw[hl];exact ho)) k
   ·intro p hp;cases hp
  ·intro p hp;cases hp
theorem afT {R:θ} (h:bu R) (ho:R.out.length+(aQ R).length<=100000):bu (cL R)/\(cL R).out.length<=R.out.length+(aQ R).length:=by
 unfold cL
 split
 ·exact⟨DD h _,by simp⟩
 ·rename_i L hl
  have:=KL R L (aQ R)
  split
  ·refine⟨DD (CP h (fun p hp=>?_) (by omega)) _,by show(R.out++_).length<=_;rw[bo];omega⟩
   obtain⟨k,_,hk⟩:=List.mem_flatMap.1 hp
   exact afN h hl k p hk
  ·exact⟨DD h _,by simp⟩
structure oB (n:Nat) (R R2:θ):Prop where
 i:bu R2
 o:R2.out.length<=R.out.length+n
 d:R2.done.length<=R.done.length+1
 me:R2.me=R.me
 id:R2.id=R.id
 ti:R2.ti=R.ti
theorem oB.refl {n:Nat} {R:θ} (h:bu R):oB n R R:=⟨h,Nat.le_add_right _ _,Nat.le_succ _,rfl,rfl,rfl⟩
theorem Xv {R:θ} (h:bu R) {L:bX} {o:Op} (hr:gO o=true) (ho:ga o) (hn:R.nu<2199023255552) (hout:R.out.length+(aQ R).length<=100000) (hd:R.done.length<100000):oB (aQ R).length R (lF R L o):=by
 have hD:=Gf h hr ho.b hn
 obtain⟨B,hB⟩:∃ B:θ,B={ir R o with ld:=some {L with cy:=fun _=>false,cur:=some o } }:=⟨_,rfl⟩
 have h1:bu B:=by
  subst hB
  exact⟨⟨hD.ok.cl,hD.ok.cb,hD.ok.n0,hD.ok.n1,hD.ok.vl,hD.ok.ol,hD.ok.dl,fun o' ho'=>by simp [b_]at ho';subst ho';exact hr⟩,hD.tx,hD.om,fun o' ho'=>by simp [b_]at ho';subst ho';exact ho⟩
 have e:lF R L o=fb {B with out:=B.out++(aQ R).map (j8 B o) }:=by
  have e0:aQ B=aQ R:=by subst hB;rfl
  have e9:lF R L o=fb ((aQ B).foldl (fun r k=>x9 r o k) B):=by subst hB;rfl
  rw[e9,sO,e0]
 have e1:B.out=R.out:=by subst hB;rfl
 have e2:B.done=R.done:=by subst hB;rfl
 have e3:B.me=R.me/\B.id=R.id/\B.ti=R.ti:=by subst hB;exact⟨rfl,rfl,rfl⟩
 rw[e]
 have h2:=CP h1 (ps:=(aQ R).map (j8 B o)) (fun p hp=>by
  obtain⟨k,_,rfl⟩:=ef.1 hp
  exact Pl ho k) (by rw[cp,e1];exact hout)
 obtain⟨k1,k2,k3,k4,k5,k6,k7⟩:=GN h2 (by rw[e2];exact hd)
 exact⟨k1,by rw[k3];show(B.out++_).length<=_;rw[bo,cp,e1];exact au _,by rw[<- e2];exact k2,k4.trans e3.1,k5.trans e3.2.1,k7.trans e3.2.2⟩
theorem Uk {R:θ} (h:bu R) {o:Op} (ho:ga o) (hn:R.nu<2199023255552) (hout:R.out.length+(aQ R).length<=100000) (hd:R.done.length<100000):oB (aQ R).length R (eE R o).2:=by
 unfold eE
 split
 ·exact oB.refl h
 ·rename_i hr
  have hr:gO o=true:=by simpa using hr
  split
  ·exact oB.refl h
  ·rename_i L hl
   split
   ·exact oB.refl h
   ·split
    ·exact oB.refl h
    ·split
     ·rename_i e R1 hk
      split at hk
      ·unfold lN at hk
       split at hk
       ·cases hk
        exact⟨Oc h (by simp;omega),Nat.le_add_right _ _,by simp,rfl,rfl,rfl⟩
       ·split at hk
        ·cases hk;exact oB.refl h
        ·split at hk
         ·cases hk
         ·cases hk;exact oB.refl h
      ·cases hk
     ·exact Xv h hr ho hn hout hd
def jk (R:θ) (w:Vw):θ:={gn R with v:=w,ep:=w.ve,ch:=R.ch || (R.ep != w.ve),ld:=some ⟨fun _=>false,fun _=>false,none⟩ }
theorem uK {R:θ} {w:Vw} (h:dL R w=false):dT R w=R:=if_pos h
theorem wJ {R:θ} {w:Vw} (h:dL R w=true) (h2:fe R w=false):dT R w={gn R with v:=w }:=by
 unfold dT;rw[if_neg (by simp [h])];dsimp only;rw[if_pos h2]
theorem wK {R:θ} {w:Vw} (h:dL R w=true) (h2:fe R w=true):dT R w={jk R w with out:=R.out++(bx R.me w.mem w.aC).map (jh (jk R w)) }:=by
 have e:dT R w=(aQ (jk R w)).foldl qC (jk R w):=by
  unfold dT;rw[if_neg (by simp [h])];dsimp only;rw[if_neg (by simp [h2])];rfl
 rw[e,Kx];rfl
theorem QK {R:θ} (h:bu R) {w:Vw} (hw:w.mem.length+w.aC.length<=1000) (hd:R.done.length<100000):bu (jk R w)/\(jk R w).done.length<=R.done.length+1:=by
 obtain⟨k1,k2⟩:=wQ h hd
 exact⟨⟨⟨k1.ok.cl,k1.ok.cb,k1.ok.n0,k1.ok.n1,hw,k1.ok.ol,k1.ok.dl,fun o ho=>by simp [jk,b_]at ho⟩,k1.tx,k1.om,fun o ho=>by simp [jk,b_]at ho⟩,k2⟩
theorem Vs {R:θ} (h:bu R) {w:Vw} (hw:w.mem.length+w.aC.length<=1000) (hout:R.out.length+(bx R.me w.mem w.aC).length<=100000) (hd:R.done.length<100000):oB (bx R.me w.mem w.aC).length R (dT R w):=by
 cases hg:dL R w with
 |false=>rw[uK hg];exact oB.refl h
 |true=>
  obtain⟨k1,k2⟩:=wQ h hd
  cases hl:fe R w with
  |false=>
   rw[wJ hg hl]
   exact⟨⟨⟨k1.ok.cl,k1.ok.cb,k1.ok.n0,k1.ok.n1,hw,k1.ok.ol,k1.ok.dl,k1.ok.cr⟩,k1.tx,k1.om,k1.oc⟩,Nat.le_add_right _ _,k2,rfl,rfl,rfl⟩
  |true=>
   rw[wK hg hl]
   obtain⟨q1,q2⟩:=QK h hw hd
   have:=CP q1 (ps:=(bx R.me w.mem w.aC).map (jh (jk R w))) (fun p hp=>by
    obtain⟨k,_,rfl⟩:=ef.1 hp
    exact Kw q1 k) (by rw[cp];exact hout)
   refine⟨this,?_,q2,rfl,rfl,rfl⟩
   show(R.out++_).length<=_
   rw[bo,cp];exact au _
theorem Cw (me id:Int) (bl:Bool) (ep:Int) {nu:Int} {c:List Int} {x:List L3} (h0:0<=nu) (h1:nu<=2199023255552) (hc:c.length=128) (hb:bm c) (hx:fa x):bu (newR me id bl ep nu c x):=
 ⟨aeo me id bl ep x h0 h1 hc hb,hx,fun p hp=>(by cases hp),fun o ho=>by simp [newR,b_]at ho⟩
theorem Lf:bm jD:=fun c hc=>by
 have:=List.eq_of_mem_replicate hc
 omega
end Go.Proofs.YtfcjngcnifdmnaaGreat
set_option linter.unusedSimpArgs false
set_option linter.unusedVariables false
namespace Vc
open Go
open Go.IntKind renaming i64->γ,u8->ν,u32->iy
open Go.Value renaming int->φ,map->kr,oneCell'->l0
open List renaming map->ae,drop->ax,take->aA,length_append->bo,getElem?_eq_getElem->bz,getElem?_eq_some_iff->bO,length_map->cp,take_length->cZ,length_take->dc,mem_singleton->dm,replicate->dp,mem_append->dQ,Mem->dW,getElem?_append_left->dX,mem_map->ef,append_assoc->eH,mem_cons->eI,getElem?_append_right->e_,append_nil->fu,getElem?_map->fH,take_of_length_le->fI,length_drop->fZ,mem_cons_of_mem->f_,getElem?_set_ne->gE,length_cons->gF,mem_of_getElem?->gG,getElem?_eq_none->g_,getElem?_set_self->iz,length_set->iA,mem_cons_self->iB,length_singleton->iL,mem_append_left->iM,range->iN,drop_zero->iX,getD_eq_getElem?_getD->iY,getElem?_take_of_lt->ji,flatten_cons->jt,nil_append->ju,getElem?_drop->jE,map_append->jZ,take_add_one->j2,length_nil->ko,ext_getElem?->lB,getElem?_of_mem->lC,mem_append_right->lD,map_cons->lY,mem_filter->lZ,eq_nil_of_length_eq_zero->mq
open Nat renaming le_refl->au,zero_le->bt,beq->cq,eq_of_beq_eq_true->cP,zero_add->cQ,add_assoc->gR,lor->iO,lt_or_ge->jF,sub_zero->kV
open Option renaming some->bc,bind_eq_some_iff->kW,map->mU
open Int renaming le_refl->dy,toNat_natCast->dD
open Bool renaming and_eq_true->iW,not_eq_false'->nI
def pm:List (List FM)->List V->KB->(List V->KB->Prop)->Prop
 |_,[],kb,K=>K [] kb
 | [],v::vs,kb,K=>K (v::vs) kb
 | []::ms,v::vs,kb,K=>pm ms vs kb (fun us kb'=>K (v::us) kb')
 | (a::m)::ms,.agg l::vs,kb,K=>po (a::m) l kb (fun us kb'=>pm ms vs kb' (fun ws jK=>K (.agg us::ws) jK))
 | (.sl s:: _)::ms,v::vs,kb,K=>qU (.sl s) v kb (fun d kb'=>pm ms vs kb' (fun ws jK=>K (.dat d::ws) jK))
 | (_:: _)::ms,v::vs,kb,K=>pm ms vs kb (fun us kb'=>K (s9 v::us) kb')
theorem Zc:∀{ms:List (List FM)} {vs:List V} {kb:KB} {K:List V->KB->Prop},pm ms vs kb K->∀{σ:Sg} {E:EH} {W:World},Inv σ E kb W->∀{xs:List Value},aq σ E vs xs->
  ∃ E' kb' us,Step σ E kb W σ E' kb' W/\aq σ E' us xs/\K us kb':=by
 intro ms
 induction ms with
 |nil=>
  intro vs kb K h σ E W hi xs hd
  cases vs with
  |nil=>exact⟨E,kb,[],Step.refl hi,hd,h⟩
  |cons v vs=>exact⟨E,kb,v::vs,Step.refl hi,hd,h⟩
 |cons m ms ih=>
  intro vs kb K h σ E W hi xs hd
  cases vs with
  |nil=>
   have h:K [] kb:=by
    cases m with
    |nil=>exact h
    |cons a m=>cases a<;>exact h
   exact⟨E,kb,[],Step.refl hi,hd,h⟩
  |cons v vs=>
   simp only[aq]at hd
   obtain⟨x,xs',rfl,h1,h2⟩:=hd
   have plain:∀ w,Den σ E w x->pm ms vs kb (fun us kb'=>K (w::us) kb')->∃ E' kb' us,Step σ E kb W σ E' kb' W/\aq σ E' us (x::xs')/\K us kb':=fun w hw h=>by
    obtain⟨E1,eN,us,s1,d1,hK⟩:=ih h hi h2
    have:=Den.mono (τ:=[]) s1.le hw
    rw[fu]at this
    exact⟨E1,eN,w::us,s1,.cons this d1,hK⟩
   have agg:∀ a m l,v= .agg l->po (a::m) l kb (fun us kb'=>pm ms vs kb' (fun ws jK=>K (.agg us::ws) jK))->∃ E' kb' us,Step σ E kb W σ E' kb' W/\aq σ E' us (x::xs')/\K us kb':=fun a m l e hh=>by
    subst e
    simp only[Den]at h1
    obtain⟨cs,rfl,hl⟩:=h1
    obtain⟨E1,eN,us,s1,d1,hh⟩:=vD hh hi hl
    have h2':=aq.mono (τ:=[]) s1.le h2
    rw[fu]at h2'
    obtain⟨E2,bF,ws,s2,d2,hK⟩:=ih hh s1.inv h2'
    have d1':=aT.mono (τ:=[]) s2.le d1
    rw[fu]at d1'
    exact⟨E2,bF,.agg us::ws,s1.trans s2,.cons (by simp only[Den];exact⟨cs,rfl,d1'⟩) d2,hK⟩
   have sli:∀ s,qU (.sl s) v kb (fun d kb'=>pm ms vs kb' (fun ws jK=>K (.dat d::ws) jK))->∃ E' kb' us,Step σ E kb W σ E' kb' W/\aq σ E' us (x::xs')/\K us kb':=fun s h=>by
    obtain⟨E1,eN,d,s1,r1,h⟩:=xL h hi h1
    have h2':=aq.mono (τ:=[]) s1.le h2
    rw[fu]at h2'
    obtain⟨E2,bF,ws,s2,d2,hK⟩:=ih h s1.inv h2'
    exact⟨E2,bF,.dat d::ws,s1.trans s2,.cons (by simp only[Den];exact r1.mono s2.le) d2,hK⟩
   cases m with
   |nil=>simp only[pm]at h;exact plain v h1 h
   |cons a m=>
    cases v<;>cases a<;>simp only[pm]at h<;>first
     |exact agg _ _ _ rfl h
     |exact sli _ h
     |exact plain _ (I8 h1) h
def vE (ms:List (List FM)) (S:aD):aD:=fun args kb K=>pm ms args kb (fun us kb'=>Kk S us kb' K)
theorem xY {P:Program} {f:FuncId} {S:aD} (hS:aR P f S) (ms:List (List FM)):aR P f (vE ms S):=fun args kb K h σ E W xs hi hd=>by
 obtain⟨E1,eN,us,s1,d1,h⟩:=Zc h hi hd
 refine(T5 hS h s1.inv d1).mono ?_
 rintro e W' ⟨v,r,σ',E',kb',rfl,hst,eM,hK⟩
 exact⟨v,r,σ',E',kb',rfl,s1.trans hst,eM,hK⟩
theorem NY {σ:Sg} {E:EH}:∀{vs:List V} {xs:List Value},aq σ E vs xs->aq σ E (vs.map s9) xs
 | [],_,h=>h
 |v::vs,_,h=>by
  simp only[aq]at h
  obtain⟨x,xs',rfl,h1,h2⟩:=h
  exact .cons (I8 h1) (NY h2)
def IX (S:aD):aD:=fun args kb K=>S (args.map s9) kb K
theorem Rt {P:Program} {f:FuncId} {S:aD} (hS:aR P f S):aR P f (IX S):=fun args kb K h σ E W xs hi hd=>hS _ kb K h σ E W xs hi (NY hd)
end Vc
namespace Go.Proofs.YtfcjngcnifdmnaaGreat
open Vc Go
open Go.IntKind renaming i64->γ,u8->ν,u32->iy
open Vc.V renaming any->δ,sl->ε,int->ζ,sb->ξ,ptr->an,χ->av,dat->aH,af->aO,mp->bb,arr->bD,agg->fw
open Vc.D renaming val->η,sl->ω
open Vc.KO renaming row->υ,dead->aa,cells->aw,objs->cY
open Go.Value renaming int->φ,map->kr,oneCell'->l0
open List renaming map->ae,drop->ax,take->aA,length_append->bo,getElem?_eq_getElem->bz,getElem?_eq_some_iff->bO,length_map->cp,take_length->cZ,length_take->dc,mem_singleton->dm,replicate->dp,mem_append->dQ,Mem->dW,getElem?_append_left->dX,mem_map->ef,append_assoc->eH,mem_cons->eI,getElem?_append_right->e_,append_nil->fu,getElem?_map->fH,take_of_length_le->fI,length_drop->fZ,mem_cons_of_mem->f_,getElem?_set_ne->gE,length_cons->gF,mem_of_getElem?->gG,getElem?_eq_none->g_,getElem?_set_self->iz,length_set->iA,mem_cons_self->iB,length_singleton->iL,mem_append_left->iM,range->iN,drop_zero->iX,getD_eq_getElem?_getD->iY,getElem?_take_of_lt->ji,flatten_cons->jt,nil_append->ju,getElem?_drop->jE,map_append->jZ,take_add_one->j2,length_nil->ko,ext_getElem?->lB,getElem?_of_mem->lC,mem_append_right->lD,map_cons->lY,mem_filter->lZ,eq_nil_of_length_eq_zero->mq
open Nat renaming le_refl->au,zero_le->bt,beq->cq,eq_of_beq_eq_true->cP,zero_add->cQ,add_assoc->gR,lor->iO,lt_or_ge->jF,sub_zero->kV
open Option renaming some->bc,bind_eq_some_iff->kW,map->mU
open Int renaming le_refl->dy,toNat_natCast->dD
open Bool renaming and_eq_true->iW,not_eq_false'->nI
set_option linter.unusedVariables false
set_option linter.unusedSimpArgs false
set_option maxRecDepth 100000
structure bY (A:List (Sg×KB)) (l:List (Nat×θ)):Prop where
 len:A.length=l.length
 h:∀(i:Nat) (p:Nat×θ),l[i]? =some p->∃ a:Sg×KB,A[i]? =some a/\nX a.1 p.1/\aB p.2 a.2
abbrev PK:=V->θ->Prop
def PM (g:List V->θ->PK->Prop):aD:=fun args kb K=>match args,kb with
 |v::rest,[cY A]=>∃ l i b R,bY A l/\l[i]? =some (b,R)/\w7 v (pv b)/\g rest R (fun r R'=>∀ A',bY A' (l.set i (b,R'))->K r [cY A'])
 |_,_=>False
abbrev v_ (o:Op):V:=.agg [.int γ o.cl,.int γ o.nm,.int γ o.kd,.int γ o.bk,aH (.sl 1 (ints ν o.b))]
abbrev wL (w:Vw):V:=.agg [.int γ w.vi,.int γ w.vv,.int γ w.ve,aH (.sl 1 (ints γ w.mem)),aH (.sl 1 (ints γ w.aC))]
abbrev IK (m:dI):V:=.agg [.int γ m.kd,aH (.sl 1 (ints γ m.n)),aH (.sl 1 (ints ν m.b)),aH (.sl 1 (cm m.l))]
structure w0 (kb:KB) (A:List (Sg×KB)):Prop where
 h:kb=[]/\A=[]∨kb=[cY A]
structure iP (l:List V):Prop where
 h:l=[]
def LK:List V->θ->PK->Prop:=fun rest R k=>∃ w,rest=[wL w]/\bu R/\w.mem.length+w.aC.length<=1000/\R.out.length+(bx R.me w.mem w.aC).length<=100000/\k (.χ []) (dT R w)
def LC:List V->θ->PK->Prop:=fun rest R k=>∃ o,rest=[v_ o]/\bu R/\R.out.length+(aQ R).length<=100000/\bm o.b/\o.b.length<=100000/\k (.int γ (eE R o).1) (eE R o).2
def Lz:List V->θ->PK->Prop:=fun rest R k=>∃ fr m,rest=[.int γ fr,IK m]/\bu R/\kT m/\k (.χ []) (dE R fr m)
def LH:List V->θ->PK->Prop:=fun rest R k=>iP rest/\bu R/\0<=R.ti/\R.ti<=2199023255552/\R.out.length+(aQ R).length<=100000/\k (.χ []) (cL R)
def LB:List V->θ->PK->Prop:=fun rest R k=>iP rest/\bu R/\k (aH (.sl 5 (R.out.map bR))) {R with out:=[] }
def Lw:List V->θ->PK->Prop:=fun rest R k=>iP rest/\bu R/\k (aH (.sl 7 (R.done.map dv))) {R with done:=[] }
def Lv:List V->θ->PK->Prop:=fun rest R k=>iP rest/\bu R/\k (ξ R.ch) {R with ch:=false }
def Lx:List V->θ->PK->Prop:=fun rest R k=>iP rest/\bu R/\k (.χ [.int γ R.ep,.int γ R.nu]) R
def LG:List V->θ->PK->Prop:=fun rest R k=>iP rest/\bu R/\k (.int iy (dN R.c)) R
def LA:List V->θ->PK->Prop:=fun rest R k=>iP rest/\bu R/\k (.χ [ξ (eL R),ξ (ii R),ξ (l6 R)]) R
def Lu:List V->θ->PK->Prop:=fun rest R k=>iP rest/\bu R/\iK R.ep/\k (aH (.sl 1 (ints ν (fJ R)))) R
def Ea:aD:=fun args kb K=>match args with
 | [.int γ me,.int γ id,ξ bl]=>∃ A l,w0 kb A/\bY A l/\∀ b A',bY A' (l++[(b,newR me id bl 0 0 jD [])])->K (δ (pv b)) [cY A']
 |_=>False
def D_:aD:=fun args kb K=>match args with
 | [.int γ me,.int γ id,aH (.sl 1 B)]=>∃ A l t,w0 kb A/\bY A l/\B=ints ν t/\bm t/\t.length<=900000/\
  ((¬ ∃ ep nu c x,ou t ep nu c x)->K (.χ [δ (.pointer none),ξ false]) kb)/\
  ∀ ep nu c x,ou t ep nu c x->∀ b A',bY A' (l++[(b,newR me id false ep nu c x)])->K (.χ [δ (pv b),ξ true]) [cY A']
 |_=>False
def io (n:Int):List Int:=ν.wrap n::(dp 14 0++[if n > 0 then 7 else 0])
def Ef:aD:=fun args kb K=>match args,kb with
 | [.int γ n],[]=>K (aH (.sl 1 (ints ν (io n)))) []
 |_,_=>False
theorem ahO (n:Int) (K:V->KB->Prop) (ar:
 let ah:=[η (φ ν (ν.wrap n))];let κ:=[η (φ ν 0)];aM 16/\
 Room 16 16 1/\
 bj 0 16/\
 0<16/\
 (decide (n > 0)=true->
 bj 15 16/\
 15<16/\
 16<=16/\
 K (aH (ω 1 [ah,κ,κ,κ,κ,κ,κ,κ,κ,κ,κ,κ,κ,κ,κ,[η (φ ν 7)]])) [])/\
 (decide (n > 0)=false->
 16<=16/\
 K (aH (ω 1 [ah,κ,κ,κ,κ,κ,κ,κ,κ,κ,κ,κ,κ,κ,κ,κ])) [])
 ):aK Tryz.prog X0 (aI 23) 23 [.int γ n] [] (jJ [.fk 1] (dx 0 K)):=by apply Eq.mp (a:=ar);kernel_rfl
theorem S3:bY [] []:=⟨rfl,fun i p h=>by simp at h⟩
theorem bY.set {A:List (Sg×KB)} {l:List (Nat×θ)} (h:bY A l) {i b:Nat} {R:θ} (hi:i<l.length) {τ:Sg} {kb:KB} (ht:nX τ b) (hk:aB R kb):bY (A.set i (τ,kb)) (l.set i (b,R)):=by
 refine⟨by simp [h.len],fun j p hj=>?_⟩
 by_cases e:i=j
 ·subst e
  rw[iz hi]at hj
  cases hj
  exact⟨(τ,kb),iz (by rw[h.len];exact hi),ht,hk⟩
 ·rw[gE e]at hj
  obtain⟨a,h1,h2⟩:=h.h j p hj
  exact⟨a,by rw[gE e];exact h1,h2⟩
theorem bY.add {A:List (Sg×KB)} {l:List (Nat×θ)} (h:bY A l) {b:Nat} {R:θ} {τ:Sg} {kb:KB} (ht:nX τ b) (hk:aB R kb):bY (A++[(τ,kb)]) (l++[(b,R)]):=by
 refine⟨by simp [h.len],fun j p hj=>?_⟩
 rcases Nat.lt_trichotomy j l.length with hm | hm | hm
 ·rw[dX hm]at hj
  obtain⟨a,h1,h2⟩:=h.h j p hj
  exact⟨a,by rw[dX (by rw[h.len];exact hm)];exact h1,h2⟩
 ·subst hm
  rw[e_ (au _)]at hj
  simp at hj;subst hj
  exact⟨(τ,kb),by rw[e_ (by rw[h.len];exact au _)];simp [h.len],ht,hk⟩
 ·rw[g_ (by simp;omega)]at hj;cases hj
theorem pK {f:FuncId} {M:aD} {g:List V->θ->PK->Prop} (hM:gq Tryz.prog f M) (hg:∀ rest R k,g rest R k->V.k_ (fun _=>none) rest=some rest/\∀ kb K,aB R kb->(∀ r R' kb',k r R'->aB R' kb'->K r kb')->M (an 0 0::rest) kb K):aR Tryz.prog f (PM g):=fun args kb K h=>abk hM args kb K (by
 unfold PM at h
 split at h<;>try exact h.elim
 rename_i v rest A
 obtain⟨l,i,b,R,hP,hi,hv,hG⟩:=h
 obtain⟨a,h1,h2,h3⟩:=hP.h i _ hi
 obtain⟨h4,h5⟩:=hg _ _ _ hG
 refine⟨i,a,b,rest,h1,h2,hv,h4,h5 _ _ h3 fun r R' kb' hr hkb τ oJ=>hr _ (hP.set ?_ oJ hkb)⟩
 exact(bO.1 hi).1)
theorem acG:aR Tryz.prog 15 (PM LK):=pK ac6 fun rest R k ⟨w,e,h1,h2,h3,h4⟩=>by
 subst e
 exact⟨rfl,fun kb K hkb hK=>⟨R,w,rfl,hkb,h1.ok,h2,h3,fun kb' h=>hK _ _ _ h4 h⟩⟩
theorem acD:aR Tryz.prog 21 (PM LC):=pK acT fun rest R k ⟨o,e,h1,h2,h3,h5,h4⟩=>by
 subst e
 exact⟨rfl,fun kb K hkb hK=>⟨R,o,rfl,hkb,h1.ok,h2,h3,h5,fun kb' h=>hK _ _ _ h4 h⟩⟩
theorem acy:aR Tryz.prog 60 (PM Lz):=pK ab3 fun rest R k ⟨fr,m,e,h1,h2,h4⟩=>by
 subst e
 exact⟨rfl,fun kb K hkb hK=>⟨R,fr,m,rfl,hkb,h1.ok,h2,fun kb' h=>hK _ _ _ h4 h⟩⟩
theorem acF:aR Tryz.prog 29 (PM LH):=pK ac1 fun rest R k ⟨⟨e⟩,h1,h2,h3,h5,h4⟩=>by
 subst e
 exact⟨rfl,fun kb K hkb hK=>⟨R,rfl,hkb,h1.ok,h2,h3,h5,fun kb' h=>hK _ _ _ h4 h⟩⟩
theorem acC:aR Tryz.prog 46 (PM LB):=pK acs fun rest R k ⟨⟨e⟩,h1,h4⟩=>by
 subst e
 exact⟨rfl,fun kb K hkb hK=>⟨R,rfl,hkb,h1.ok,fun kb' h=>hK _ _ _ h4 h⟩⟩
theorem acw:aR Tryz.prog 24 (PM Lw):=pK abU fun rest R k ⟨⟨e⟩,h1,h4⟩=>by
 subst e
 exact⟨rfl,fun kb K hkb hK=>⟨R,rfl,hkb,h1.ok,fun kb' h=>hK _ _ _ h4 h⟩⟩
theorem acv:aR Tryz.prog 25 (PM Lv):=pK abL fun rest R k ⟨⟨e⟩,h1,h4⟩=>by
 subst e
 exact⟨rfl,fun kb K hkb hK=>⟨R,rfl,hkb,h1.ok,fun kb' h=>hK _ _ _ h4 h⟩⟩
theorem acx:aR Tryz.prog 13 (PM Lx):=pK abW fun rest R k ⟨⟨e⟩,h1,h4⟩=>by
 subst e
 exact⟨rfl,fun kb K hkb hK=>⟨R,rfl,hkb,h1.ok,fun kb' h=>hK _ _ _ h4 h⟩⟩
theorem acE:aR Tryz.prog 18 (PM LG):=pK acW fun rest R k ⟨⟨e⟩,h1,h4⟩=>by
 subst e
 exact⟨rfl,fun kb K hkb hK=>⟨R,rfl,hkb,h1.ok,fun kb' h=>hK _ _ _ h4 h⟩⟩
theorem acz:aR Tryz.prog 14 (PM LA):=pK acd fun rest R k ⟨⟨e⟩,h1,h4⟩=>by
 subst e
 exact⟨rfl,fun kb K hkb hK=>⟨R,rfl,hkb,h1.ok,fun kb' h=>hK _ _ _ h4 h⟩⟩
theorem acu:aR Tryz.prog 11 (PM Lu):=pK abJ fun rest R k ⟨⟨e⟩,h1,h2,h4⟩=>by
 subst e
 exact⟨rfl,fun kb K hkb hK=>⟨R,rfl,hkb,h1.ok,h2,fun kb' h=>hK _ _ _ h4 h⟩⟩
theorem acB:aR Tryz.prog 22 Ea:=fun args kb K h=>Fz R_ args kb K (by
 unfold Ea at h
 split at h<;>try exact h.elim
 rename_i me id bl
 obtain⟨A,l,hkb,hP,hK⟩:=h
 refine⟨A,_,hkb.h,rfl,?_⟩
 show(_:Prop)
 refine⟨by rfl,fun b τ oJ=>?_⟩
 exact hK b _ (hP.add oJ (Tw _ _ _ _ _ _ UL)))
theorem acA:aR Tryz.prog 10 D_:=fun args kb K h=>Fz acM args kb K (by
 unfold D_ at h
 split at h<;>try exact h.elim
 rename_i me id B
 obtain⟨A,l,t,hkb,hP,rfl,hb,hl,h0,h1⟩:=h
 refine⟨A,_,hkb.h,rfl,t,rfl,hb,hl,fun hn=>h0 hn,fun ep nu c x M hr hT=>?_⟩
 refine⟨by rfl,fun b τ oJ=>?_⟩
 exact h1 _ _ _ _ hr b _ (hP.add oJ (Tw _ _ _ _ _ _ hT)))
theorem DJ (n:Int):(io n).length=16:=by simp [io]
theorem KZ (n:Int):bm (io n):=fun c hc=>by
 unfold io at hc
 simp only[eI,dQ,List.mem_replicate,dm,List.not_mem_nil,or_false]at hc
 rcases hc with rfl | ⟨_,rfl⟩ | hc
 ·rw[IntKind.wrap_u8];omega
 ·omega
 ·subst hc;split<;>omega
theorem Sl:aR Tryz.prog 23 Ef:=fun args kb K h=>By (fC hZ mixed (S:=fun a k K0=>∃ T,aK Tryz.prog X0 T 23 a k K0) fun _ _ _ h=>h) [.fk 1] args kb K (by
 unfold Ef at h;split at h<;>try exact h.elim
 rename_i n
 refine⟨_,ahO n K ⟨by unfold aM;omega,⟨by omega,by omega,by omega⟩,⟨by omega,by omega⟩,by omega,fun h1=>⟨⟨by omega,by omega⟩,by omega,by omega,?_⟩,fun h1=>⟨by omega,?_⟩⟩⟩
 ·have h1:n > 0:=by simpa using h1
  unfold io at h;rw[if_pos h1]at h;exact h
 ·have h1:¬ n > 0:=by simpa using h1
  unfold io at h;rw[if_neg h1]at h;exact h)
def wo:FuncId->Option dK
 | 22=>some ⟨[.ig],vE [[.num],[.num]] (TN Ea)⟩
 | 23=>some ⟨[],IX Ef⟩
 | 15=>some ⟨[.ig],vE [[],[.num,.num,.num,.sl 1,.sl 1]] (PM LK)⟩
 | 21=>some ⟨[.ig],vE [[],[.num,.num,.num,.num,.sl 1]] (PM LC)⟩
 | 60=>some ⟨[.ig],vE [[],[.num]] (PM Lz)⟩
 | 46=>some ⟨[.ig],PM LB⟩
 | 24=>some ⟨[.ig],PM Lw⟩
 | 13=>some ⟨[.ig],PM Lx⟩
 | 18=>some ⟨[.ig],PM LG⟩
 | 14=>some ⟨[.ig],PM LA⟩
 | 25=>some ⟨[.ig],PM Lv⟩
 | 11=>some ⟨[.ig],PM Lu⟩
 | 29=>some ⟨[.ig],PM LH⟩
 | 10=>some ⟨[.ig],vE [[.num],[.num]] D_⟩
 |_=>none
theorem C3:dP Tryz.prog wo:=fun f k h=>by
 unfold wo at h
 split at h
 ·cases h;exact xY (aeN acB) _
 ·cases h;exact Rt Sl
 ·cases h;exact xY acG _
 ·cases h;exact xY acD _
 ·cases h;exact xY acy _
 ·cases h;exact acC
 ·cases h;exact acw
 ·cases h;exact acx
 ·cases h;exact acE
 ·cases h;exact acz
 ·cases h;exact acv
 ·cases h;exact acu
 ·cases h;exact acF
 ·cases h;exact xY acA _
 ·cases h
noncomputable def E7:bN:=dU Tryz.prog wo aI 10
theorem MD:b9 Tryz.prog E7:=dY mixed C3 aI 10
theorem agf (Cv:Nat) (K:V->KB->Prop) (ar:
 let κ:=[η (φ ν 0)];∃(A:List (Sg×KB)),∃(l:List (Nat×θ)),w0 [] A/\
 bY A l/\
 ∀(b:Nat) (A':List (Sg×KB)),bY A' (l++[(b,newR 3 1 false 0 0 jD [])])->
 (false=true->
 K (ξ false) [cY A'])/\
 (false=false->
 1<=1/\
 ∃(l:List (Nat×θ)),∃(i:Nat),∃(b_1:Nat),∃(R:θ),bY A' l/\
 l[i]? =some (b_1,R)/\
 pv b=pv b_1/\
 ∃(w:Vw),[fw [ζ γ 1,ζ γ 0,ζ γ 1,aH (ω 1 [[η (φ γ 3)]]),aH (ω 1 [])]]=[wL w]/\
 bu R/\
 w.mem.length+w.aC.length<=1000/\
 R.out.length+(bx R.me w.mem w.aC).length<=100000/\
 ∀(A':List (Sg×KB)),bY A' (l.set i (b_1,dT R w))->
 ∃(l:List (Nat×θ)),∃(i:Nat),∃(b_2:Nat),∃(R:θ),bY A' l/\
 l[i]? =some (b_2,R)/\
 pv b=pv b_2/\
 ∃(o:Op),[fw [ζ γ 1,ζ γ 1,ζ γ 1,ζ γ 2,aH (ω 1 [[η (φ ν 9)],κ,κ,κ,κ,κ,κ,κ,κ,κ,κ,κ,κ,κ,κ,[η (φ ν 7)]])]]=[v_ o]/\
 bu R/\
 R.out.length+(aQ R).length<=100000/\
 (∀(c:Int),dW c o.b->
 0<=c/\
 c<256)/\
 o.b.length<=100000/\
 ∀(A':List (Sg×KB)),bY A' (l.set i (b_2,(eE R o).snd))->
 ∃(l:List (Nat×θ)),∃(i:Nat),∃(oF:Nat),∃(gr:θ),bY A' l/\
 l[i]? =some (oF,gr)/\
 pv b=pv oF/\
 iP []/\
 bu gr/\
 ∀(A':List (Sg×KB)),bY A' (l.set i (oF,{me:=gr.me,id:=gr.id,ep:=gr.ep,nu:=gr.nu,ce:=gr.ce,ti:=gr.ti,bl:=gr.bl,lo:=gr.lo,ch:=gr.ch,c:=gr.c,t:=gr.t,v:=gr.v,ld:=gr.ld,out:=gr.out,done:=[] }))->
 ∃(l:List (Nat×θ)),∃(i:Nat),∃(tL:Nat),∃(nM:θ),bY A' l/\
 l[i]? =some (tL,nM)/\
 pv b=pv tL/\
 iP []/\
 bu nM/\
 ∀(A':List (Sg×KB)),let ah:=K (ξ false) [cY A'];bY A' (l.set i (tL,nM))->
 (((eE R o).fst == 0)=true->
 (((↑(ae dv gr.done).length:Int) == 1)=true->
 aM 0/\
 ∃(e:List D),(ae dv gr.done)[0]? =some e/\
 ∃(n:Int),e[5]? =some (η (φ γ n))/\
 ((n == 0)=true->
 ((nM.ep == 1)=true->
 ((nM.nu == 1)=true->
 ∃(l:List (Nat×θ)),∃(i:Nat),∃(vk:Nat),∃(R:θ),bY A' l/\
 l[i]? =some (vk,R)/\
 pv b=pv vk/\
 iP []/\
 bu R/\
 ∀(A':List (Sg×KB)),bY A' (l.set i (vk,{me:=R.me,id:=R.id,ep:=R.ep,nu:=R.nu,ce:=R.ce,ti:=R.ti,bl:=R.bl,lo:=R.lo,ch:=false,c:=R.c,t:=R.t,v:=R.v,ld:=R.ld,out:=R.out,done:=R.done }))->
 K (ξ R.ch) [cY A'])/\
 ((nM.nu == 1)=false->
 ah))/\
 ((nM.ep == 1)=false->
 ah))/\
 ((n == 0)=false->
 ah))/\
 (((↑(ae dv gr.done).length:Int) == 1)=false->
 ah))/\
 (((eE R o).fst == 0)=false->
 ah))
 ):aK Tryz.prog E7 (aI 7) 7 [] [] K:=by apply Eq.mp (a:=ar);kernel_rfl
def AM:θ:=newR 3 1 false 0 0 jD []
def Fq:Vw:=⟨1,0,1,[3],[]⟩
def pY:θ:=dT AM Fq
def tK:Op:=⟨1,1,1,2,io 9⟩
def oE:θ:=(eE pY tK).2
theorem MY:bu AM:=Cw 3 1 false 0 (by omega) (by omega) rfl Lf Jp
theorem MZ:bu pY:=(Vs (w:=Fq) MY (by decide) (by decide) (by decide)).i
theorem M0:(aQ pY).length=0:=by kernel_rfl
theorem M1:pY.out.length=0:=by kernel_rfl
theorem Xk:pY.done.length=0:=by kernel_rfl
theorem Xl:pY.nu=0:=by kernel_rfl
theorem Fp:bu oE:=(Uk (o:=tK) MZ ⟨KZ 9,by show(io 9).length<=_;rw[DJ];omega⟩ (by rw[Xl];omega) (by rw[M0,M1];omega) (by rw[Xk];omega)).i
theorem Xn:(eE pY tK).1=0:=by kernel_rfl
theorem M2:oE.done=[⟨tK,0,[]⟩]:=by kernel_rfl
theorem Xo:oE.ep=1:=by kernel_rfl
theorem Xp:oE.nu=1:=by kernel_rfl
theorem Xm:oE.ch=true:=by kernel_rfl
def L6:aD:=fun args kb K=>match args,kb with
 | [],[]=>∀ A,K (ξ true) [cY A]
 |_,_=>False
def Eg:aD:=fun args kb K=>match args,kb with
 | [],[]=>K (ξ true) []
 | [],[cY A]=>K (ξ true) [cY A]
 |_,_=>False
theorem abI:aR Tryz.prog 7 L6:=fC MD mixed (fun args kb K h=>by
 unfold L6 at h;split at h<;>try exact h.elim
 refine⟨_,agf 0 K ⟨[],[],⟨.inl ⟨rfl,rfl⟩⟩,S3,fun b A1 p1=>⟨fun q=>(by cases q),fun _=>⟨au _,[(b,AM)],0,b,AM,p1,rfl,rfl,Fq,rfl,MY,by decide,by decide,fun A2 p2=>?_⟩⟩⟩⟩
 refine⟨[(b,pY)],0,b,pY,p2,rfl,rfl,tK,rfl,MZ,by rw[M0,M1];omega,KZ 9,by show(io 9).length<=_;rw[DJ];omega,fun A3 p3=>?_⟩
 refine⟨[(b,oE)],0,b,oE,p3,rfl,rfl,⟨rfl⟩,Fp,fun A4 p4=>?_⟩
 refine⟨[(b,{oE with done:=[] })],0,b,_,p4,rfl,rfl,⟨rfl⟩,Gg Fp,fun A5 p5=>⟨fun _=>⟨fun _=>?_,fun q=>?_⟩,fun q=>?_⟩⟩
 ·refine⟨by unfold aM;omega,dv ⟨tK,0,[]⟩,by rw[M2];rfl,0,rfl,fun _=>⟨fun _=>⟨fun _=>?_,fun q=>?_⟩,fun q=>?_⟩,fun q=>(by cases q)⟩
  ·refine⟨[(b,{oE with done:=[] })],0,b,_,p5,rfl,rfl,⟨rfl⟩,Gg Fp,fun A6 p6=>?_⟩
   show K (ξ oE.ch) [cY A6]
   rw[Xm];exact h A6
  ·have q:(oE.nu == 1)=false:=q
   rw[Xp]at q;cases q
  ·have q:(oE.ep == 1)=false:=q
   rw[Xo]at q;cases q
 ·rw[M2]at q;cases q
 ·have q:((eE pY tK).1 == 0)=false:=q
  rw[Xn]at q;cases q)
theorem abH:aR Tryz.prog 7 Eg:=fun args kb K h=>Fz abI args kb K (by
 unfold Eg at h
 split at h<;>try exact h.elim
 ·exact⟨[],[],.inl ⟨rfl,rfl⟩,rfl,fun A=>h⟩
 ·exact⟨_,[],.inr rfl,rfl,fun A=>h⟩)
end Go.Proofs.YtfcjngcnifdmnaaGreat
namespace Go.Proofs.YtfcjngcnifdmnaaGreat.Fm
open Vc Go
open Go.IntKind renaming i64->γ,u8->ν,u32->iy
open Vc.V renaming any->δ,sl->ε,int->ζ,sb->ξ,ptr->an,χ->av,dat->aH,af->aO,mp->bb,arr->bD,agg->fw
open Vc.D renaming val->η,sl->ω
open Vc.KO renaming row->υ,dead->aa,cells->aw,objs->cY
open Go.Value renaming int->φ,map->kr,oneCell'->l0
open List renaming map->ae,drop->ax,take->aA,length_append->bo,getElem?_eq_getElem->bz,getElem?_eq_some_iff->bO,length_map->cp,take_length->cZ,length_take->dc,mem_singleton->dm,replicate->dp,mem_append->dQ,Mem->dW,getElem?_append_left->dX,mem_map->ef,append_assoc->eH,mem_cons->eI,getElem?_append_right->e_,append_nil->fu,getElem?_map->fH,take_of_length_le->fI,length_drop->fZ,mem_cons_of_mem->f_,getElem?_set_ne->gE,length_cons->gF,mem_of_getElem?->gG,getElem?_eq_none->g_,getElem?_set_self->iz,length_set->iA,mem_cons_self->iB,length_singleton->iL,mem_append_left->iM,range->iN,drop_zero->iX,getD_eq_getElem?_getD->iY,getElem?_take_of_lt->ji,flatten_cons->jt,nil_append->ju,getElem?_drop->jE,map_append->jZ,take_add_one->j2,length_nil->ko,ext_getElem?->lB,getElem?_of_mem->lC,mem_append_right->lD,map_cons->lY,mem_filter->lZ,eq_nil_of_length_eq_zero->mq
open Nat renaming le_refl->au,zero_le->bt,beq->cq,eq_of_beq_eq_true->cP,zero_add->cQ,add_assoc->gR,lor->iO,lt_or_ge->jF,sub_zero->kV
open Option renaming some->bc,bind_eq_some_iff->kW,map->mU
open Int renaming le_refl->dy,toNat_natCast->dD
open Bool renaming and_eq_true->iW,not_eq_false'->nI
set_option linter.unusedVariables false
set_option linter.unusedSimpArgs false
set_option maxRecDepth 100000
def gI (l:List Int) (i:Nat):Int:=l.getD i 0
def gT (l:List (List Int)) (i:Nat):List Int:=l.getD i []
def tot:List (List Int)->Nat
 | []=>0
 |t::l=>t.length+tot l
structure kp (k:Int) (n b:List Int) (l:List (List Int)):Prop where
 k1:1<=k
 k2:k<=40
 nl:n.length<=16
 bl:b.length<=2048
 ll:l.length<=64
 ns:∀ x∈n,0<=x/\x<=4611686018427387904
 ts:∀ t∈l,t.length<=2048
 al:tot l<=65536
abbrev Ct (k:Int) (n b:List Int) (l:List (List Int)):List V:=[.int γ k,aH (.sl 1 (ints γ n)),aH (.sl 1 (ints ν b)),aH (.sl 1 (l.map bB))]
abbrev vj (l:List (List Int)):LI where
 α:={i:Nat // i<=l.length}
 live:=[3,6,7,8]
 st i:=([.int γ (tot (l.take i.1):Int),aH (.sl 1 (l.map bB)),.int γ (l.length:Int),.int γ (i.1:Int)],[])
 μ i:=l.length - i.1
abbrev H9 (n:List Int):LI where
 α:={i:Nat // i<=n.length/\∀ x∈n.take i,0<=x/\x<=4611686018427387904}
 live:=[0,1,7,8]
 st i:=([aH (.sl 1 (ints γ n)),.fn 101 [],.int γ (n.length:Int),.int γ (i.1:Int)],[])
 μ i:=n.length - i.1
abbrev Ia (l:List (List Int)):LI where
 α:={i:Nat // i<=l.length/\∀ t∈l.take i,t.length<=2048}
 live:=[0,1,7,8]
 st i:=([aH (.sl 1 (l.map bB)),.fn 102 [],.int γ (l.length:Int),.int γ (i.1:Int)],[])
 μ i:=l.length - i.1
def iZ (l:List Int):List Int:=(l.map aY).flatten
def gK (l:List (List Int)):List Int:=(l.map cH).flatten
def pu1 (k:Int) (n:List Int) (i:Nat):List Int:=aY k++aY (n.length:Int)++iZ (n.take i)
def pu2 (k:Int) (n b:List Int) (l:List (List Int)) (i:Nat):List Int:=pu1 k n n.length++cH b++aY (l.length:Int)++gK (l.take i)
def dw (k:Int) (n b:List Int) (l:List (List Int)):List Int:=pu2 k n b l l.length
abbrev JF (k:Int) (n b:List Int) (l:List (List Int)):LI where
 α:={i:Nat // i<=n.length}
 live:=[1,5,23,24,25]
 st i:=([an 0 0,an 1 0,aH (.sl 1 (ints γ n)),.int γ (n.length:Int),.int γ (i.1:Int)],[aw (Ct k n b l),aw [.sl 2 0 (pu1 k n i.1).length],υ 5 1 (ints ν (pu1 k n i.1))])
 μ i:=n.length - i.1
abbrev JG (k:Int) (n b:List Int) (l:List (List Int)):LI where
 α:={i:Nat // i<=l.length}
 live:=[5,40,41,42]
 st i:=([an 0 0,aH (.sl 1 (l.map bB)),.int γ (l.length:Int),.int γ (i.1:Int)],[aw [.sl 1 0 (pu2 k n b l i.1).length],υ 5 1 (ints ν (pu2 k n b l i.1))])
 μ i:=l.length - i.1
def xX (k:Int) (n b:List Int) (l:List (List Int)):FuncId->Nat->Option LI
 | 104,3=>some (vj l)
 | 99,2=>some (H9 n)
 | 115,2=>some (Ia l)
 | 47,8=>some (JF k n b l)
 | 47,15=>some (JG k n b l)
 |_,_=>none
def tE:aD:=fun args kb K=>match args,kb with
 | [aH (.sl 1 L)],[]=>∃ l:List (List Int),L=l.map bB/\l.length<=maxLen/\tot l<=1000000/\K (.int γ (tot l)) []
 |_,_=>False
structure vc (n b:List Int) (l:List (List Int)):Prop where
 nl:n.length<=maxLen
 bl:b.length<=maxLen
 ll:l.length<=maxLen
 tl:∀ t∈l,t.length<=maxLen
def zZ:aD:=fun args kb K=>match args,kb with
 | [.agg [.int γ k,aH (.sl 1 N),aH (.sl 1 B),aH (.sl 1 L)]],[]=>∃ n b l,N=ints γ n/\B=ints ν b/\L=l.map bB/\vc n b l/\(kp k n b l->K (.int γ 0) [])/\(¬ kp k n b l->K (.int γ 3) [])
 |_,_=>False
def En:aD:=fun args kb K=>match args,kb with
 | [aH (.sl 1 N),.fn 101 []],[]=>∃ n:List Int,N=ints γ n/\n.length<=maxLen/\∀ q:Bool,(q=true ↔ ¬ ∀ x∈n,0<=x/\x<=4611686018427387904)->K (ξ q) []
 |_,_=>False
def Eo:aD:=fun args kb K=>match args,kb with
 | [aH (.sl 1 L),.fn 102 []],[]=>∃ l:List (List Int),L=l.map bB/\l.length<=maxLen/\∀ q:Bool,(q=true ↔ ¬ ∀ t∈l,t.length<=2048)->K (ξ q) []
 |_,_=>False
def gg:FuncId->Option dK
 | 104=>some ⟨[.gj 1],tE⟩
 | 70=>some ⟨[.gj 1],En⟩
 | 103=>some ⟨[.gj 1],Eo⟩
 |_=>none
noncomputable def Mj:bN:=dU Tryz.prog gg aI 10
noncomputable def AG (n:List Int) (l:List (List Int)):bN:=dU Tryz.prog I1 (xX 0 n [] l) 10
theorem agA (n:List Int) (K:V->KB->Prop) (ar:
 At (H9 n) ([aH (ω 1 (ints γ n)),V.fn 101 [],ζ γ (↑(ints γ n).length:Int),ζ γ 0],[])/\
 ∀(i:{i:Nat // i<=n.length/\
 ∀(x:Int),x∈aA i n->
 0<=x/\
 x<=4611686018427387904 }),let κ:=K (ξ (decide ((↑i.val:Int) ≥ 0))) [];(decide ((↑i.val:Int)<(↑n.length:Int))=true->
 aM (↑i.val:Int)/\
 ∃(e:List D),(ints γ n)[(↑i.val:Int).toNat]? =some e/\
 ∃(n_1:Int),e[0]? =some (η (φ γ n_1))/\
 (decide (n_1<0)=true->
 κ)/\
 (decide (n_1<0)=false->
 (decide (n_1 > 4611686018427387904)=true->
 κ)/\
 (decide (n_1 > 4611686018427387904)=false->
 Nx (H9 n) i ([aH (ω 1 (ints γ n)),V.fn 101 [],ζ γ (↑n.length:Int),ζ γ (γ.wrap ((↑i.val:Int)+1))],[]))))/\
 (decide ((↑i.val:Int)<(↑n.length:Int))=false->
 K (ξ false) [])
 ):aK Tryz.prog (AG n []) (aI 70) 70 [aH (.sl 1 (ints γ n)),.fn 101 []] [] K:=by apply Eq.mp (a:=ar);kernel_rfl
theorem agB (l:List (List Int)) (K:V->KB->Prop) (ar:
 At (Ia l) ([aH (ω 1 (ae bB l)),V.fn 102 [],ζ γ (↑(ae bB l).length:Int),ζ γ 0],[])/\
 ∀(i:{i:Nat // i<=l.length/\
 ∀(t:List Int),t∈aA i l->
 t.length<=2048 }),(decide ((↑i.val:Int)<(↑l.length:Int))=true->
 aM (↑i.val:Int)/\
 ∃(e:List D),(ae bB l)[(↑i.val:Int).toNat]? =some e/\
 ∃(l_1:List (List D)),e[0]? =some (ω 1 l_1)/\
 (decide ((↑l_1.length:Int) > 2048)=true->
 K (ξ (decide ((↑i.val:Int) ≥ 0))) [])/\
 (decide ((↑l_1.length:Int) > 2048)=false->
 Nx (Ia l) i ([aH (ω 1 (ae bB l)),V.fn 102 [],ζ γ (↑l.length:Int),ζ γ (γ.wrap ((↑i.val:Int)+1))],[])))/\
 (decide ((↑i.val:Int)<(↑l.length:Int))=false->
 K (ξ false) [])
 ):aK Tryz.prog (AG [] l) (aI 103) 103 [aH (.sl 1 (l.map bB)),.fn 102 []] [] K:=by apply Eq.mp (a:=ar);kernel_rfl
theorem K3 (l:List (List Int)) (K:V->KB->Prop) (ar:
 At (vj l) ([ζ γ 0,aH (ω 1 (ae bB l)),ζ γ (↑(ae bB l).length:Int),ζ γ 0],[])/\
 ∀(i:{i:Nat // i<=l.length }),(decide ((↑i.val:Int)<(↑l.length:Int))=true->
 aM (↑i.val:Int)/\
 ∃(e:List D),(ae bB l)[(↑i.val:Int).toNat]? =some e/\
 ∃(l_1:List (List D)),e[0]? =some (ω 1 l_1)/\
 Nx (vj l) i ([ζ γ (γ.wrap ((↑(tot (aA i.val l)):Int)+(↑l_1.length:Int))),aH (ω 1 (ae bB l)),ζ γ (↑l.length:Int),ζ γ (γ.wrap ((↑i.val:Int)+1))],[]))/\
 (decide ((↑i.val:Int)<(↑l.length:Int))=false->
 K (ζ γ (↑(tot (aA i.val l)):Int)) [])
 ):aK Tryz.prog X0 (xX 0 [] [] l 104) 104 [aH (.sl 1 (l.map bB))] [] K:=by apply Eq.mp (a:=ar);kernel_rfl
theorem agq (k:Int) (n b:List Int) (l:List (List Int)) (K:V->KB->Prop) (ar:
 let κ:=K (ζ γ 3) [];(decide (k<1)=true->
 κ)/\
 (decide (k<1)=false->
 (decide (k > 40)=true->
 κ)/\
 (decide (k > 40)=false->
 (decide ((↑(ints γ n).length:Int) > 16)=true->
 κ)/\
 (decide ((↑(ints γ n).length:Int) > 16)=false->
 (decide ((↑(ae bB l).length:Int) > 64)=true->
 κ)/\
 (decide ((↑(ae bB l).length:Int) > 64)=false->
 (decide ((↑(ints ν b).length:Int) > 2048)=true->
 κ)/\
 (decide ((↑(ints ν b).length:Int) > 2048)=false->
 ∃(n_1:List Int),ints γ n=ints γ n_1/\
 n_1.length<=maxLen/\
 ∀(q:Bool),(q=true ↔ ¬∀(x:Int),x∈n_1->
 0<=x/\
 x<=4611686018427387904)->
 (q=true->
 κ)/\
 (q=false->
 ∃(l_1:List (List Int)),ae bB l=ae bB l_1/\
 l_1.length<=maxLen/\
 ∀(q:Bool),(q=true ↔ ¬∀(t:List Int),t∈l_1->
 t.length<=2048)->
 (q=true->
 κ)/\
 (q=false->
 ∃(l_2:List (List Int)),ae bB l=ae bB l_2/\
 l_2.length<=maxLen/\
 tot l_2<=1000000/\
 (decide ((↑(tot l_2):Int) > 65536)=true->
 κ)/\
 (decide ((↑(tot l_2):Int) > 65536)=false->
 K (ζ γ 0) []))))))))
 ):aK Tryz.prog Mj (aI 76) 76 [.agg (Ct k n b l)] [] K:=by apply Eq.mp (a:=ar);kernel_rfl
theorem Bt {l:List Int} {i:Nat} (h:i<l.length):l[i]? =some (gI l i):=by
 unfold gI;rw[iY,bz h];rfl
theorem Bu {l:List Int} {i:Nat} (h:i<l.length):gI l i∈l:=gG (Bt h)
theorem G5 {l:List Int} {i:Nat} (h:i<l.length):l.take (i+1)=l.take i++[gI l i]:=by rw[j2,Bt h];rfl
theorem Bv {l:List (List Int)} {i:Nat} (h:i<l.length):l[i]? =some (gT l i):=by
 unfold gT;rw[iY,bz h];rfl
theorem G6 {l:List (List Int)} {i:Nat} (h:i<l.length):gT l i∈l:=gG (Bv h)
theorem Bw {l:List (List Int)} {i:Nat} (h:i<l.length):l.take (i+1)=l.take i++[gT l i]:=by rw[j2,Bv h];rfl
theorem el {k:IntKind} {l:List Int} {i:Nat} {Q:Int->Prop} (h:i<l.length) (q:Q (gI l i)):aM (i:Int)/\∃ e,(ints k l)[(i:Int).toNat]? =some e/\∃ n,e[0]? =some (η (.int k n))/\Q n:=
 ⟨by unfold aM;omega,[η (.int k (gI l i))],by rw[dD,mb,Bt h];rfl,_,rfl,q⟩
theorem Gm {l:List (List Int)} {i:Nat} {Q:List (List D)->Prop} (h:i<l.length) (q:Q (ints ν (gT l i))):aM (i:Int)/\∃ e,(l.map bB)[(i:Int).toNat]? =some e/\∃ n,e[0]? =some (ω 1 n)/\Q n:=
 ⟨by unfold aM;omega,[ω 1 (ints ν (gT l i))],by rw[dD,fH,Bv h];rfl,_,rfl,q⟩
theorem sX {l:List (List Int)}:(l.map bB).length=l.length:=cp ..
theorem U_ {a b:List (List Int)}:tot (a++b)=tot a+tot b:=by
 induction a with
 |nil=>simp [tot]
 |cons x a ih=>simp only[List.cons_append,tot,ih];omega
theorem aga {l:List (List Int)} {i:Nat} (h:i<l.length):tot (l.take (i+1))=tot (l.take i)+(gT l i).length:=by rw[Bw h,U_];simp [tot]
theorem Va {l:List (List Int)} (i:Nat):tot (l.take i)<=tot l:=by
 have:=U_ (a:=l.take i) (b:=l.drop i)
 rw[List.take_append_drop]at this;omega
theorem af_ {l:List (List Int)} {m:Nat} (h:∀ t∈l,t.length<=m):tot l<=m*l.length:=by
 induction l with
 |nil=>simp [tot]
 |cons x l ih=>
  have h1:=h x iB
  have h2:=ih fun t ht=>h t (f_ _ ht)
  simp only[tot,gF]
  rw[Nat.mul_add,Nat.mul_one];omega
theorem Jh:aR Tryz.prog 104 tE:=fC hZ mixed (fun args kb K h=>by
 unfold tE at h;split at h<;>try exact h.elim
 obtain⟨l,rfl,hl0,hl,h⟩:=h
 simp only[maxLen]at hl0
 refine⟨xX 0 [] [] l 104,K3 l K ⟨by rw[sX];exact At.mk' ⟨0,bt _⟩ rfl,?_⟩⟩
 rintro⟨i,hi⟩
 dsimp only
 simp only[decide_eq_true_eq,decide_eq_false_iff_not]
 refine⟨fun hc=>Gm (by omega) ?_,fun hc=>?_⟩
 ·have h1:=aga (l:=l) (i:=i) (by omega)
  have h2:=Va (l:=l) (i+1)
  have e1:γ.wrap ((i:Int)+1)=((i+1:Nat):Int):=by rw[bS (by omega) (by omega)];rfl
  rw[bh,bS (by omega) (by omega),e1]
  have e2:(tot (l.take i):Int)+((gT l i).length:Int)=((tot (l.take (i+1)):Nat):Int):=by omega
  rw[e2]
  exact Nx.mk' (⟨i+1,by omega⟩:{i:Nat // i<=l.length}) rfl (by show l.length - (i+1)<l.length - i;omega)
 ·have:i=l.length:=by omega
  subst this
  rwa [cZ])
theorem abR:aR Tryz.prog 70 En:=wB mixed (fun args kb K h=>by
 unfold En at h;split at h<;>try exact h.elim
 obtain⟨n,rfl,hl,h⟩:=h
 simp only[maxLen]at hl
 refine⟨AG n [],aI 70,dY mixed I2 _ 10,agA n K ⟨by rw[bh];exact At.mk' ⟨0,bt _,by simp⟩ rfl,?_⟩⟩
 rintro⟨i,hi,ht⟩
 dsimp only
 simp only[decide_eq_true_eq,decide_eq_false_iff_not]
 refine⟨fun hc=>el (by omega) ⟨fun h1=>h _ ⟨fun _ f=>?_,fun _=>by simp⟩,fun h1=>⟨fun h2=>h _ ⟨fun _ f=>?_,fun _=>by simp⟩,fun h2=>?_⟩⟩,fun hc=>h _ ⟨fun f=>(by cases f),fun f=>?_⟩⟩
 ·have:=f _ (Bu (show i<n.length by omega));omega
 ·have:=f _ (Bu (show i<n.length by omega));omega
 ·rw[bS (by omega) (by omega)]
  refine Nx.mk' (⟨i+1,by omega,fun x hx=>?_⟩:{i:Nat // i<=n.length/\∀ x∈n.take i,0<=x/\x<=4611686018427387904}) rfl (by show n.length - (i+1)<n.length - i;omega)
  rw[G5 (by omega),dQ,dm]at hx
  rcases hx with hx | rfl
  ·exact ht x hx
  ·omega
 ·have:i=n.length:=by omega
  subst this
  rw[cZ]at ht
  exact absurd ht f)
theorem abS:aR Tryz.prog 103 Eo:=wB mixed (fun args kb K h=>by
 unfold Eo at h;split at h<;>try exact h.elim
 obtain⟨l,rfl,hl,h⟩:=h
 simp only[maxLen]at hl
 refine⟨AG [] l,aI 103,dY mixed I2 _ 10,agB l K ⟨by rw[sX];exact At.mk' ⟨0,bt _,by simp⟩ rfl,?_⟩⟩
 rintro⟨i,hi,ht⟩
 dsimp only
 simp only[decide_eq_true_eq,decide_eq_false_iff_not]
 refine⟨fun hc=>Gm (by omega) ⟨fun h1=>h _ ⟨fun _ f=>?_,fun _=>by simp⟩,fun h2=>?_⟩,fun hc=>h _ ⟨fun f=>(by cases f),fun f=>?_⟩⟩
 ·rw[bh]at h1
  have:=f _ (G6 (show i<l.length by omega));omega
 ·rw[bh]at h2
  rw[bS (by omega) (by omega)]
  refine Nx.mk' (⟨i+1,by omega,fun x hx=>?_⟩:{i:Nat // i<=l.length/\∀ t∈l.take i,t.length<=2048}) rfl (by show l.length - (i+1)<l.length - i;omega)
  rw[Bw (by omega),dQ,dm]at hx
  rcases hx with hx | rfl
  ·exact ht x hx
  ·omega
 ·have:i=l.length:=by omega
  subst this
  rw[cZ]at ht
  exact absurd ht f)
theorem XY:dP Tryz.prog gg:=fun f k h=>by
 unfold gg at h
 split at h<;>first | (cases h;first | exact Jh | exact abR | exact abS) | cases h
theorem WB:b9 Tryz.prog Mj:=dY mixed XY aI 10
theorem RX:aR Tryz.prog 76 zZ:=fC WB mixed (fun args kb K h=>by
 unfold zZ at h;split at h<;>try exact h.elim
 rename_i k _ _ _
 obtain⟨n,b,l,rfl,rfl,rfl,⟨n1,b1,l1,t1⟩,hy,hn⟩:=h
 refine⟨aI 76,agq k n b l K ?_⟩
 simp only[decide_eq_true_eq,decide_eq_false_iff_not,bh,sX]
 refine⟨fun h1=>hn fun w=>by have:=w.k1;omega,fun h1=>⟨fun h2=>hn fun w=>by have:=w.k2;omega,fun h2=>⟨fun h3=>hn fun w=>by have:=w.nl;omega,fun h3=>⟨fun h4=>hn fun w=>by have:=w.ll;omega,fun h4=>⟨fun h5=>hn fun w=>by have:=w.bl;omega,fun h5=>⟨n,rfl,n1,fun q hq=>⟨fun h6=>hn fun w=>hq.1 h6 w.ns,fun h6=>⟨l,rfl,l1,fun q' px=>⟨fun h7=>hn fun w=>px.1 h7 w.ts,fun h7=>?_⟩⟩⟩⟩⟩⟩⟩⟩⟩
 have m9:∀ x∈n,0<=x/\x<=4611686018427387904:=Classical.byContradiction fun f=>by rw[hq.2 f]at h6;cases h6
 have hts:∀ t∈l,t.length<=2048:=Classical.byContradiction fun f=>by rw[px.2 f]at h7;cases h7
 have htb:=af_ hts
 refine⟨l,rfl,l1,by omega,fun h8=>hn fun w=>by have:=w.al;omega,fun h8=>hy ⟨by omega,by omega,by omega,by omega,by omega,m9,hts,by omega⟩⟩)
structure wZ (b:List Int) (l:List (List Int)):Prop where
 b:bm b
 l:∀ t∈l,bm t
def Mb:aD:=fun args kb K=>match args,kb with
 | [.agg [.int γ k,aH (.sl 1 N),aH (.sl 1 B),aH (.sl 1 L)]],[]=>∃ n b l,N=ints γ n/\B=ints ν b/\L=l.map bB/\vc n b l/\wZ b l/\
  (kp k n b l->K (.χ [.sl 0 0 ((dw k n b l).length+4),.int γ 0]) [υ 5 1 (ints ν (bZ (dw k n b l)))])/\(¬ kp k n b l->K (.χ [.sl 0 0 0,.int γ 3]) [υ 5 1 []])
 |_,_=>False
def GY:FuncId->Option dK
 | 76=>some ⟨[.gj 1],zZ⟩
 | 67=>some ⟨[.gj 1],Ao⟩
 |f=>JI f
noncomputable def Ms:bN:=dU Tryz.prog GY aI 10
theorem ahj (k:Int) (n b:List Int) (l:List (List Int)) (K:V->KB->Prop) (ar:
 let aL:=aH (ω 1 (ae bB l));let az:=aH (ω 1 (ints γ n));let ah:=aw [ζ γ k,az,aH (ω 1 (ints ν b)),aL];let κ:=(∃(a:List Int),[]=ints ν a/\
 0=a.length/\
 a.length<=10000000/\
 iK k/\
 ∃(a_1:List Int),let aJ:=(a_1++aY (↑(ints γ n).length:Int));ints ν (a++aY k)=ints ν a_1/\
 (a++aY k).length=a_1.length/\
 a_1.length<=10000000/\
 iK (↑(ints γ n).length:Int)/\
 At (JF k n b l) ([an 0 0,an 1 0,az,ζ γ (↑(ints γ n).length:Int),ζ γ 0],[ah,aw [ε 2 0 aJ.length],υ 5 1 (ints ν aJ)])/\
 ∀(i:{i:Nat // i<=n.length }),(decide ((↑i.val:Int)<(↑n.length:Int))=true->
 aM (↑i.val:Int)/\
 ∃(e:List D),(ints γ n)[(↑i.val:Int).toNat]? =some e/\
 ∃(n_2:Int),e[0]? =some (η (φ γ n_2))/\
 ∃(a:List Int),ints ν (pu1 k n i.val)=ints ν a/\
 (pu1 k n i.val).length=a.length/\
 a.length<=10000000/\
 iK n_2/\
 Nx (JF k n b l) i ([an 0 0,an 1 0,az,ζ γ (↑n.length:Int),ζ γ (γ.wrap ((↑i.val:Int)+1))],[ah,aw [ε 2 0 (a++aY n_2).length],υ 5 1 (ints ν (a++aY n_2))]))/\
 (decide ((↑i.val:Int)<(↑n.length:Int))=false->
 ∃(a:List Int),∃(b_2:List Int),ints ν (pu1 k n i.val)=ints ν a/\
 ints ν b=ints ν b_2/\
 (pu1 k n i.val).length=a.length/\
 a.length<=1000000/\
 b_2.length<=1000000/\
 ∃(a_2:List Int),let aV:=(a_2++aY (↑(ae bB l).length:Int));ints ν (a++cH b_2)=ints ν a_2/\
 (a++cH b_2).length=a_2.length/\
 a_2.length<=10000000/\
 iK (↑(ae bB l).length:Int)/\
 At (JG k n b l) ([an 0 0,aL,ζ γ (↑(ae bB l).length:Int),ζ γ 0],[aw [ε 1 0 aV.length],υ 5 1 (ints ν aV)])/\
 ∀(i:{i:Nat // i<=l.length }),(decide ((↑i.val:Int)<(↑l.length:Int))=true->
 aM (↑i.val:Int)/\
 ∃(e:List D),(ae bB l)[(↑i.val:Int).toNat]? =some e/\
 ∃(l_2:List (List D)),e[0]? =some (ω 1 l_2)/\
 ∃(a:List Int),∃(oF:List Int),ints ν (pu2 k n b l i.val)=ints ν a/\
 l_2=ints ν oF/\
 (pu2 k n b l i.val).length=a.length/\
 a.length<=1000000/\
 oF.length<=1000000/\
 Nx (JG k n b l) i ([an 0 0,aL,ζ γ (↑l.length:Int),ζ γ (γ.wrap ((↑i.val:Int)+1))],[aw [ε 1 0 (a++cH oF).length],υ 5 1 (ints ν (a++cH oF))]))/\
 (decide ((↑i.val:Int)<(↑l.length:Int))=false->
 ∃(a:List Int),ints ν (pu2 k n b l i.val)=ints ν a/\
 (pu2 k n b l i.val).length=a.length/\
 a.length<=1000000/\
 (a.length<=(ints ν a).length/\
 True)/\
 ∃(l:List Int),ax 0 (aA a.length (ints ν a))=ints ν l/\
 (∀(c:Int),dW c l->
 0<=c/\
 c<256)/\
 l.length<=900000/\
 o7 (ints ν (bZ l)).flatten/\
 K (av [ε 0 0 (l.length+4),ζ γ 0]) [υ 5 1 (ints ν (bZ l))])));∃(n_1:List Int),∃(b_1:List Int),∃(l_1:List (List Int)),ints γ n=ints γ n_1/\
 ints ν b=ints ν b_1/\
 ae bB l=ae bB l_1/\
 vc n_1 b_1 l_1/\
 (kp k n_1 b_1 l_1->
 (false=true->
 K (av [ε 0 0 0,ζ γ 0]) [υ 5 1 []])/\
 (false=false->
 κ))/\
 ((kp k n_1 b_1 l_1->
 False)->
 (true=true->
 K (av [ε 0 0 0,ζ γ 3]) [υ 5 1 []])/\
 (true=false->
 κ))
 ):aK Tryz.prog Ms (xX k n b l 47) 47 [.agg (Ct k n b l)] [] (fA [.slot 0 5 1] (dx 0 K)):=by apply Eq.mp (a:=ar);kernel_rfl
theorem Nj {a b:List Int}:iZ (a++b)=iZ a++iZ b:=by unfold iZ;rw[jZ,List.flatten_append]
theorem Nn {a b:List (List Int)}:gK (a++b)=gK a++gK b:=by unfold gK;rw[jZ,List.flatten_append]
theorem XP {l:List Int} {i:Nat} (h:i<l.length):iZ (l.take (i+1))=iZ (l.take i)++aY (gI l i):=by
 rw[G5 h,Nj];simp [iZ]
theorem XR {l:List (List Int)} {i:Nat} (h:i<l.length):gK (l.take (i+1))=gK (l.take i)++cH (gT l i):=by
 rw[Bw h,Nn];simp [gK]
theorem Nk:∀(l:List Int),(iZ l).length<=9*l.length
 | []=>by simp [iZ]
 |a::l=>by
  have:=Nk l
  have h1:=jO a
  have e:iZ (a::l)=aY a++iZ l:=by simp [iZ]
  rw[e,bo,gF];omega
theorem Np:∀(l:List (List Int)),(gK l).length<=tot l+9*l.length
 | []=>by simp [gK,tot]
 |a::l=>by
  have:=Np l
  have h1:=r_ a
  have e:gK (a::l)=cH a++gK l:=by simp [gK]
  rw[e,bo,gF]
  simp only[tot];omega
theorem S5 {k:Int} {n:List Int}:pu1 k n 0=aY k++aY (n.length:Int):=by simp [pu1,iZ]
theorem S7 {k:Int} {n:List Int} {i:Nat} (h:i<n.length):pu1 k n (i+1)=pu1 k n i++aY (gI n i):=by
 unfold pu1;rw[XP h,eH (_++_)]
theorem S8 {k:Int} {n b:List Int} {l:List (List Int)}:pu2 k n b l 0=pu1 k n n.length++cH b++aY (l.length:Int):=by simp [pu2,gK]
theorem S_ {k:Int} {n b:List Int} {l:List (List Int)} {i:Nat} (h:i<l.length):pu2 k n b l (i+1)=pu2 k n b l i++cH (gT l i):=by
 unfold pu2;rw[XR h];simp only[eH]
theorem S6 {k:Int} {n b:List Int} {l:List (List Int)} (h:kp k n b l) (i:Nat):(pu1 k n i).length<=162:=by
 have h1:=jO k
 have h2:=jO (n.length:Int)
 have h3:=Nk (n.take i)
 have:=h.nl
 rw[dc]at h3
 unfold pu1;simp only[bo];omega
theorem S9 {k:Int} {n b:List Int} {l:List (List Int)} (h:kp k n b l) (i:Nat):(pu2 k n b l i).length<=100000:=by
 have h1:=S6 h n.length
 have h2:=jO (l.length:Int)
 have h3:=Np (l.take i)
 have h4:=r_ b
 have h5:=h.bl
 have h6:=h.ll
 have h7:=h.al
 have h8:=Va (l:=l) i
 rw[dc]at h3
 unfold pu2;simp only[bo];omega
theorem xC {a b:List Int} (ha:bm a) (hb:bm b):bm (a++b):=fun c hc=>by
 rcases dQ.1 hc with h | h
 ·exact ha c h
 ·exact hb c h
theorem Td {k:Int} {n b:List Int} {l:List (List Int)} (h:kp k n b l) (hb:wZ b l):bm (dw k n b l):=by
 unfold dw pu2 pu1
 refine xC (xC (xC (xC (xC (pG ?_) (pG ?_)) ?_) (DC hb.b ?_)) (pG ?_)) ?_
 ·have:=h.k2;omega
 ·have:=h.nl;omega
 ·intro c hc
  unfold iZ at hc
  obtain⟨x,hx,hc⟩:=List.mem_flatten.1 hc
  obtain⟨m,hm,rfl⟩:=ef.1 hx
  exact pG (by have:=h.ns m (List.mem_of_mem_take hm);omega) c hc
 ·have:=h.bl;omega
 ·have:=h.ll;omega
 ·intro c hc
  unfold gK at hc
  obtain⟨x,hx,hc⟩:=List.mem_flatten.1 hc
  obtain⟨m,hm,rfl⟩:=ef.1 hx
  exact DC (hb.l m (List.mem_of_mem_take hm)) (by have:=h.ts m (List.mem_of_mem_take hm);omega) c hc
theorem Y9:dP Tryz.prog GY:=fun f k h=>by
 unfold GY at h
 split at h
 ·cases h;exact RX
 ·cases h;exact Se
 ·exact Tf _ _ h
theorem WL:b9 Tryz.prog Ms:=dY mixed Y9 aI 10
theorem acJ:aR Tryz.prog 47 Mb:=oa WL mixed [.slot 0 5 1] (fun args kb K h=>by
 unfold Mb at h;split at h<;>try exact h.elim
 rename_i k _ _ _
 obtain⟨n,b,l,rfl,rfl,rfl,HN,hb,hy,hn⟩:=h
 refine⟨xX k n b l 47,ahj k n b l K ⟨n,b,l,rfl,rfl,rfl,HN,fun hr=>⟨fun f=>(by cases f),fun _=>?_⟩,fun hr=>⟨fun _=>hn hr,fun f=>(by cases f)⟩⟩⟩
 replace hy:=hy hr
 have k1:=jO k
 have hk2:=hr.k2
 have hnl:=hr.nl
 have BJ:=hr.ll
 have cj:=hr.bl
 refine⟨[],rfl,rfl,by simp,⟨by omega⟩,_,rfl,rfl,by simp only[bo,ko];omega,⟨by rw[bh];omega⟩,?_,?_⟩
 ·rw[ju,bh,<- S5]
  exact At.mk' ⟨0,bt _⟩ rfl
 rintro⟨i,hi⟩
 dsimp only
 simp only[decide_eq_true_eq,decide_eq_false_iff_not]
 have p1:=S6 hr i
 refine⟨fun hc=>el (by omega) ⟨_,rfl,rfl,by omega,⟨by have:=hr.ns _ (Bu (show i<n.length by omega));omega⟩,?_⟩,fun hc=>?_⟩
 ·have e1:γ.wrap ((i:Int)+1)=((i+1:Nat):Int):=by rw[bS (by omega) (by omega)];rfl
  rw[e1,<- S7 (by omega)]
  exact Nx.mk' (⟨i+1,by omega⟩:{i:Nat // i<=n.length}) rfl (by show n.length - (i+1)<n.length - i;omega)
 have:i=n.length:=by omega
 subst this
 have t1:=r_ b
 refine⟨_,b,rfl,rfl,rfl,by omega,by omega,_,rfl,rfl,by rw[bo];omega,⟨by rw[sX];omega⟩,?_,?_⟩
 ·rw[sX,<- S8]
  exact At.mk' ⟨0,bt _⟩ rfl
 rintro⟨j,hj⟩
 dsimp only
 try simp only[decide_eq_true_eq,decide_eq_false_iff_not]
 have p2:=S9 hr j
 refine⟨fun hc=>Gm (by omega) ⟨_,_,rfl,rfl,rfl,by omega,by have:=hr.ts _ (G6 (show j<l.length by omega));omega,?_⟩,fun hc=>?_⟩
 ·have e1:γ.wrap ((j:Int)+1)=((j+1:Nat):Int):=by rw[bS (by omega) (by omega)];rfl
  rw[e1,<- S_ (by omega)]
  exact Nx.mk' (⟨j+1,by omega⟩:{i:Nat // i<=l.length}) rfl (by show l.length - (j+1)<l.length - j;omega)
 have:j=l.length:=by omega
 subst this
 refine⟨_,rfl,rfl,by omega,⟨by rw[bh];exact au _,trivial⟩,dw k n b l,by rw[iX,qk];unfold dw;rw[cZ],Td hr hb,by unfold dw;omega,⟨pJ⟩,hy⟩)
def ia (l:List Int) (p:Nat×Int) (most:Int):Nat×Int:=(p.1+(cz (l.drop p.1) p.2 most).2.1,(cz (l.drop p.1) p.2 most).2.2)
def jz (l:List Int) (p:Nat×Int) (most:Int):Int:=(cz (l.drop p.1) p.2 most).1
def wG (l:List Int) (p:Nat×Int) (most:Int):Nat×Int:=(p.1+(gN (l.drop p.1) p.2 most).2.1,(gN (l.drop p.1) p.2 most).2.2)
def wF (l:List Int) (p:Nat×Int) (most:Int):List Int:=(gN (l.drop p.1) p.2 most).1
def rM (l:List Int) (p:Nat×Int):Nat->(Nat×Int)×List Int
 | 0=>(p,[])
 |i+1=>(ia l (rM l p i).1 4611686018427387904,(rM l p i).2++[jz l (rM l p i).1 4611686018427387904])
def pO (l:List Int) (p:Nat×Int):Nat->(Nat×Int)×List (List Int)
 | 0=>(p,[])
 |i+1=>(wG l (pO l p i).1 2048,(pO l p i).2++[wF l (pO l p i).1 2048])
def q1 (l:List Int):Nat×Int:=ia l (0,0) 40
def kd (l:List Int):Int:=jz l (0,0) 40
def q2 (l:List Int):Nat×Int:=ia l (q1 l) 16
def cn (l:List Int):Nat:=(jz l (q1 l) 16).toNat
def qn (l:List Int) (i:Nat):(Nat×Int)×List Int:=rM l (q2 l) i
def pn (l:List Int):Nat×Int:=(qn l (cn l)).1
def q3 (l:List Int):Nat×Int:=wG l (pn l) 2048
def bd (l:List Int):List Int:=wF l (pn l) 2048
def q4 (l:List Int):Nat×Int:=ia l (q3 l) 64
def cl (l:List Int):Nat:=(jz l (q3 l) 64).toNat
def qt (l:List Int) (i:Nat):(Nat×Int)×List (List Int):=pO l (q4 l) i
def pt (l:List Int):Nat×Int:=(qt l (cl l)).1
def fin (l:List Int):Int:=iS (l.drop (pt l).1) (pt l).2
structure LZ where
 e:Int
 k:Int
 n:List Int
 b:List Int
 l:List (List Int)
def wi (e:Int):LZ:=⟨e,0,[],[],[]⟩
def xc (l:List Int):Prop:=kp (kd l) (qn l (cn l)).2 (bd l) (qt l (cl l)).2
open Classical in
noncomputable def nz (b:List Int):LZ:=match fB b with
 |none=>wi 4
 |some l=>if fin l≠0 then wi (fin l)else if xc l then⟨0,kd l,(qn l (cn l)).2,bd l,(qt l (cl l)).2⟩else wi 3
abbrev Ll:List V:=[.int γ 0,δ (.slice none 0 0),δ (.slice none 0 0),δ (.slice none 0 0)]
abbrev C1 (l:List Int):LI where
 α:={i:Nat // i<=cn l/\(qn l i).1.1<=l.length}
 live:=[2,6,7,24,25]
 dV:=[.cell 2 1 3 1]
 st i:=([an 0 0,an 1 0,an 2 0,.int γ (cn l:Int),.int γ (i.1:Int)],[aw Ll,aw [.sl 3 (qn l i.1).1.1 l.length,.int γ (qn l i.1).1.2],aw [.int γ (kd l),.sl 4 0 i.1,δ (.slice none 0 0),δ (.slice none 0 0)],υ 5 1 (ints ν l),υ 3 1 (ints γ (qn l i.1).2)])
 μ i:=cn l - i.1
abbrev C2 (l:List Int):LI where
 α:={i:Nat // i<=cl l/\(qt l i).1.1<=l.length}
 live:=[2,6,7,39,40]
 dV:=[.cell 2 3 23 1]
 st i:=([an 0 0,an 1 0,an 2 0,.int γ (cl l:Int),.int γ (i.1:Int)],[aw Ll,aw [.sl 3 (qt l i.1).1.1 l.length,.int γ (qt l i.1).1.2],aw [.int γ (kd l),.sl 4 0 (cn l),.sl 5 0 (bd l).length,.sl 6 0 i.1],υ 5 1 (ints ν l),υ 3 1 (ints γ (qn l (cn l)).2),υ 5 1 (ints ν (bd l)),υ 23 1 ((qt l i.1).2.map bB)])
 μ i:=cl l - i.1
abbrev JU (b l:List Int):LI where
 α:={q:Nat // fB b=some l}
 live:=[2,4]
 dV:=[.slot 1 5 1]
 st q:=([an 0 0,.sl 1 0 l.length],[aw Ll,υ 5 1 (ints ν l)])
 μ q:=0
def G0 (b l:List Int):FuncId->Nat->Option LI
 | 59,1004=>some (JU b l)
 | 59,7=>some (C1 l)
 | 59,12=>some (C2 l)
 |_,_=>none
def Mc:aD:=fun args kb K=>match args,kb with
 | [aH (.sl 1 B)],[]=>∃ b:List Int,B=ints ν b/\bm b/\b.length<=200000/\K (.χ [.agg (Ct (nz b).k (nz b).n (nz b).b (nz b).l),.int γ (nz b).e]) []
 |_,_=>False
def GZ:FuncId->Option dK
 | 76=>some ⟨[.gj 1],zZ⟩
 | 64=>some ⟨[.gj 1],Ag⟩
 |f=>JI f
noncomputable def Mt:bN:=dU Tryz.prog GZ aI 10
theorem Vn (b l:List Int) (K:V->KB->Prop) (ar:
 let kn:=ζ γ (kd l);let kN:=(aA l.length (ints ν l));let jq:=(ints ν (bd l));let oq:=(bd l).length<=jq.length;let cK:=(ints γ (qn l (cn l)).snd);let bW:=δ (Value.slice none 0 0);let bp:=fw [ζ γ 0,aH (ω 1 []),aH (ω 1 []),aH (ω 1 [])];let kP:=K (av [bp,ζ γ 4]) [];let ah:=aw [ζ γ 0,bW,bW,bW];let o5:=At (JU b l) ([an 0 0,ε 1 0 0],[ah,υ 5 1 []]);let κ:=(∀(i:{q:Nat // fB b=some l }),(l.length<=(ints ν l).length/\
 True)/\
 (ax 0 kN).length<=140737488355328/\
 o7 (ax 0 kN).flatten/\
 ∃(l_2:List Int),let cw:=(cz (ax 0 l_2) 0 40);ax 0 kN=ints ν l_2/\
 (ax 0 kN).length=l_2.length/\
 0<=l_2.length/\
 (∀(c:Int),dW c l_2->
 0<=c/\
 c<256)/\
 l_2.length<=140737488355328/\
 ∃(jy:List Int),let kO:=(cz (ax (0+cw.snd.fst) jy) cw.snd.snd 16);ints ν l_2=ints ν jy/\
 l_2.length=jy.length/\
 0+cw.snd.fst<=jy.length/\
 (∀(c:Int),dW c jy->
 0<=c/\
 c<256)/\
 jy.length<=140737488355328/\
 At (C1 l) ([an 0 0,an 1 0,an 2 0,ζ γ kO.fst,ζ γ 0],[ah,aw [ε 3 (0+cw.snd.fst+kO.snd.fst) jy.length,ζ γ kO.snd.snd],aw [ζ γ cw.fst,ε 4 0 0,bW,bW],υ 5 1 (ints ν jy),υ 3 1 []])/\
 ∀(i:{i:Nat // i<=cn l/\
 (qn l i).fst.fst<=l.length }),let ot:=aw [kn,ε 4 0 (i.val+1),bW,bW];let lw:=(i.val+1)*8<=140737488355328;let lq:=[an 0 0,an 1 0,an 2 0,ζ γ (↑(cn l):Int),ζ γ (γ.wrap ((↑i.val:Int)+1))];let fT:=(ints γ (qn l i.val).snd);(decide ((↑i.val:Int)<(↑(cn l):Int))=true->
 (∃(gV:List Int),let dO:=(cz (ax (qn l i.val).fst.fst gV) (qn l i.val).fst.snd 4611686018427387904);ints ν l=ints ν gV/\
 l.length=gV.length/\
 (qn l i.val).fst.fst<=gV.length/\
 (∀(c:Int),dW c gV->
 0<=c/\
 c<256)/\
 gV.length<=140737488355328/\
 1<=1/\
 i.val<=fT.length/\
 lw/\
 Nx (C1 l) i (lq,[ah,aw [ε 3 ((qn l i.val).fst.fst+dO.snd.fst) gV.length,ζ γ dO.snd.snd],ot,υ 5 1 (ints ν gV),υ 3 1 (aA i.val fT++[[η (φ γ dO.fst)]])]))/\
 ∃(gV:List Int),let fY:=(cz (ax (qn l i.val).fst.fst gV) (qn l i.val).fst.snd 4611686018427387904);let aL:=Nx (C1 l) i (lq,[ah,aw [ε 3 ((qn l i.val).fst.fst+fY.snd.fst) gV.length,ζ γ fY.snd.snd],ot,υ 5 1 (ints ν gV),υ 3 1 (aA i.val fT++[[η (φ γ fY.fst)]])]);ints ν l=ints ν gV/\
 l.length=gV.length/\
 (qn l i.val).fst.fst<=gV.length/\
 (∀(c:Int),dW c gV->
 0<=c/\
 c<256)/\
 gV.length<=140737488355328/\
 (1<=1/\
 i.val<=fT.length/\
 lw/\
 aL)/\
 1<=1/\
 i.val<=fT.length/\
 lw/\
 aL)/\
 (decide ((↑i.val:Int)<(↑(cn l):Int))=false->
 ∃(gV:List Int),let aJ:=(gN (ax (qn l i.val).fst.fst gV) (qn l i.val).fst.snd 2048);ints ν l=ints ν gV/\
 l.length=gV.length/\
 (qn l i.val).fst.fst<=gV.length/\
 (∀(c:Int),dW c gV->
 0<=c/\
 c<256)/\
 gV.length<=140737488355328/\
 ∃(oN:List Int),let iV:=(cz (ax ((qn l i.val).fst.fst+aJ.snd.fst) oN) aJ.snd.snd 64);ints ν gV=ints ν oN/\
 gV.length=oN.length/\
 (qn l i.val).fst.fst+aJ.snd.fst<=oN.length/\
 (∀(c:Int),dW c oN->
 0<=c/\
 c<256)/\
 oN.length<=140737488355328/\
 At (C2 l) ([an 0 0,an 1 0,an 2 0,ζ γ iV.fst,ζ γ 0],[ah,aw [ε 3 ((qn l i.val).fst.fst+aJ.snd.fst+iV.snd.fst) oN.length,ζ γ iV.snd.snd],aw [kn,ε 4 0 i.val,ε 5 0 aJ.fst.length,ε 6 0 0],υ 5 1 (ints ν oN),υ 3 1 fT,υ 5 1 (ints ν aJ.fst),υ 23 1 []])/\
 ∀(i:{i:Nat // i<=cl l/\
 (qt l i).fst.fst<=l.length }),let lW:=(i.val+1)*24<=140737488355328;let mh:=aw [kn,ε 4 0 (cn l),ε 5 0 (bd l).length,ε 6 0 (i.val+1)];let jV:=[an 0 0,an 1 0,an 2 0,ζ γ (↑(cl l):Int),ζ γ (γ.wrap ((↑i.val:Int)+1))];let bV:=(ae bB (qt l i.val).snd);let cf:=K (av [fw [kn,aH (ω 1 (ax 0 (aA (cn l) cK))),aH (ω 1 (ax 0 (aA (bd l).length jq))),aH (ω 1 (ax 0 (aA i.val bV)))],ζ γ 0]) [];(decide ((↑i.val:Int)<(↑(cl l):Int))=true->
 (∃(jM:List Int),let bC:=(gN (ax (qt l i.val).fst.fst jM) (qt l i.val).fst.snd 2048);ints ν l=ints ν jM/\
 l.length=jM.length/\
 (qt l i.val).fst.fst<=jM.length/\
 (∀(c:Int),dW c jM->
 0<=c/\
 c<256)/\
 jM.length<=140737488355328/\
 bC.fst.length<=(ints ν bC.fst).length/\
 1<=1/\
 i.val<=bV.length/\
 lW/\
 Nx (C2 l) i (jV,[ah,aw [ε 3 ((qt l i.val).fst.fst+bC.snd.fst) jM.length,ζ γ bC.snd.snd],mh,υ 5 1 (ints ν jM),υ 3 1 cK,υ 5 1 jq,υ 23 1 (aA i.val bV++[[ω 1 (ax 0 (aA bC.fst.length (ints ν bC.fst)))]])]))/\
 ∃(jM:List Int),let aV:=(gN (ax (qt l i.val).fst.fst jM) (qt l i.val).fst.snd 2048);let qK:=aV.fst.length<=(ints ν aV.fst).length;let az:=Nx (C2 l) i (jV,[ah,aw [ε 3 ((qt l i.val).fst.fst+aV.snd.fst) jM.length,ζ γ aV.snd.snd],mh,υ 5 1 (ints ν jM),υ 3 1 cK,υ 5 1 jq,υ 23 1 (aA i.val bV++[[ω 1 (ax 0 (aA aV.fst.length (ints ν aV.fst)))]])]);ints ν l=ints ν jM/\
 l.length=jM.length/\
 (qt l i.val).fst.fst<=jM.length/\
 (∀(c:Int),dW c jM->
 0<=c/\
 c<256)/\
 jM.length<=140737488355328/\
 (qK/\
 1<=1/\
 i.val<=bV.length/\
 lW/\
 az)/\
 qK/\
 1<=1/\
 i.val<=bV.length/\
 lW/\
 az)/\
 (decide ((↑i.val:Int)<(↑(cl l):Int))=false->
 ∃(jM:List Int),let lu:=(ax (qt l i.val).fst.fst jM);let tA:=(iS lu (qt l i.val).fst.snd != 0);ints ν l=ints ν jM/\
 l.length=jM.length/\
 (tA=true->
 K (av [bp,ζ γ (iS lu (qt l i.val).fst.snd)]) [])/\
 (tA=false->
 ((cn l<=cK.length/\
 oq/\
 i.val<=bV.length/\
 True)/\
 True)/\
 ∃(n:List Int),∃(b:List Int),∃(Ca:List (List Int)),ax 0 (aA (cn l) cK)=ints γ n/\
 ax 0 (aA (bd l).length jq)=ints ν b/\
 ax 0 (aA i.val bV)=ae bB Ca/\
 vc n b Ca/\
 (kp (kd l) n b Ca->
 True/\
 (false=true->
 K (av [bp,ζ γ 0]) [])/\
 (false=false->
 cn l<=cK.length/\
 oq/\
 i.val<=bV.length/\
 cf))/\
 ((kp (kd l) n b Ca->
 False)->
 True/\
 (true=true->
 K (av [bp,ζ γ 3]) [])/\
 (true=false->
 cn l<=cK.length/\
 oq/\
 i.val<=bV.length/\
 cf))))));∃(l_1:List Int),ints ν b=ints ν l_1/\
 (∀(c:Int),dW c l_1->
 0<=c/\
 c<256)/\
 l_1.length<=900000/\
 (fB l_1=none->
 ((true=true->
 kP)/\
 (true=false->
 o5))/\
 κ)/\
 ∀(m:List Int),fB l_1=some m->
 (m=[]->
 ((false=true->
 kP)/\
 (false=false->
 o5))/\
 κ)/\
 ((false=true->
 kP)/\
 (false=false->
 At (JU b l) ([an 0 0,ε 1 0 m.length],[ah,υ 5 1 (ints ν m)])))/\
 κ
 ):aK Tryz.prog Mt (G0 b l 59) 59 [aH (.sl 1 (ints ν b))] [] (xZ [.num,.sl 1,.sl 1,.sl 1] (dx 0 K)):=by apply Eq.mp (a:=ar);kernel_rfl
theorem yT {l:List Int} {most:Int} (h0:0<=most) (e:Int):(cz l e most).1<=most/\0<=(cz l e most).1:=by
 unfold cz
 split
 ·split
  ·split
   ·exact⟨h0,dy _⟩
   ·exact⟨by simp only;omega,by simp only;omega⟩
  ·exact⟨h0,dy _⟩
  ·exact⟨h0,dy _⟩
 ·exact⟨h0,dy _⟩
theorem CX {l:List Int} {e most:Int} (h:e≠0):cz l e most=(0,0,e):=by unfold cz;rw[if_neg h]
theorem Tm {l:List Int} (hb:bm l) (e most:Int):(gN l e most).1.length<=l.length/\(gN l e most).2.1<=l.length:=by
 have h1:=(yU hb e most).2.2
 unfold gN
 split
 ·split
  ·exact⟨bt _,h1⟩
  ·rename_i h2
   simp only[dc,fZ]at h2 ⊢
   omega
 ·exact⟨bt _,h1⟩
theorem CI {l:List Int} (hb:bm l) {p:Nat×Int} (h:p.1<=l.length) (m:Int):(ia l p m).1<=l.length:=by
 have:=(yU (pZ hb p.1) p.2 m).2.2
 rw[fZ]at this
 unfold ia;simp only;omega
theorem UU {l:List Int} (hb:bm l) {p:Nat×Int} (h:p.1<=l.length) (m:Int):(wG l p m).1<=l.length:=by
 have:=(Tm (pZ hb p.1) p.2 m).2
 rw[fZ]at this
 unfold wG;simp only;omega
theorem US {l:List Int} (hb:bm l) (p:Nat×Int) (m:Int):(wF l p m).length<=l.length:=by
 have:=(Tm (pZ hb p.1) p.2 m).1
 rw[fZ]at this
 unfold wF;omega
theorem Ri {l:List Int} (hb:bm l) {p:Nat×Int} (h:p.1<=l.length):∀ i,(rM l p i).1.1<=l.length/\(rM l p i).2.length=i
 | 0=>⟨h,rfl⟩
 |i+1=>by
  obtain⟨h1,h2⟩:=Ri hb h i
  exact⟨CI hb h1 _,by simp only[rM,bo,iL,h2]⟩
theorem UH {l:List Int} (hb:bm l) {p:Nat×Int} (h:p.1<=l.length):∀ i,(pO l p i).1.1<=l.length/\(pO l p i).2.length=i/\∀ t∈(pO l p i).2,t.length<=l.length
 | 0=>⟨h,rfl,fun t ht=>by cases ht⟩
 |i+1=>by
  obtain⟨h1,h2,h3⟩:=UH hb h i
  refine⟨UU hb h1 _,by simp only[pO,bo,iL,h2],fun t ht=>?_⟩
  simp only[pO,dQ,dm]at ht
  rcases ht with ht | rfl
  ·exact h3 t ht
  ·exact US hb _ _
theorem Tg {l:List Int} (hb:bm l):(q1 l).1<=l.length:=CI hb (bt _) _
theorem adO {l:List Int} (hb:bm l):(q2 l).1<=l.length:=CI hb (Tg hb) _
theorem yQ {l:List Int} (hb:bm l) (i:Nat):(qn l i).1.1<=l.length/\(qn l i).2.length=i:=Ri hb (adO hb) i
theorem Th {l:List Int} (hb:bm l):(q3 l).1<=l.length:=UU hb (yQ hb _).1 _
theorem adP {l:List Int} (hb:bm l):(q4 l).1<=l.length:=CI hb (Th hb) _
theorem CW {l:List Int} (hb:bm l) (i:Nat):(qt l i).1.1<=l.length/\(qt l i).2.length=i/\∀ t∈(qt l i).2,t.length<=l.length:=UH hb (adP hb) i
theorem Ny {l:List Int}:jz l (q1 l) 16=(cn l:Int)/\cn l<=16:=by
 have:=yT (l:=l.drop (q1 l).1) (most:=16) (by omega) (q1 l).2
 unfold cn jz;omega
theorem Nu {l:List Int}:jz l (q3 l) 64=(cl l:Int)/\cl l<=64:=by
 have:=yT (l:=l.drop (q3 l).1) (most:=64) (by omega) (q3 l).2
 unfold cl jz;omega
theorem v6 {l:List Int} {p:Nat×Int} {m:Int} (h:p.2≠0):(ia l p m).2=p.2:=by unfold ia;rw[CX h]
theorem ad_ {b:List Int} (h:fB b=none):nz b=wi 4:=by unfold nz;rw[h]
theorem ad8 {b l:List Int} (h:fB b=some l) (hf:fin l≠0):nz b=wi (fin l):=by unfold nz;rw[h];simp only;rw[if_pos hf]
theorem Tp {b l:List Int} (h:fB b=some l) (hf:fin l=0) (hr:xc l):nz b=⟨0,kd l,(qn l (cn l)).2,bd l,(qt l (cl l)).2⟩:=by
 unfold nz;rw[h];simp only;rw[if_neg (by simp [hf]),if_pos hr]
theorem ad9 {b l:List Int} (h:fB b=some l) (hf:fin l=0) (hr:¬ xc l):nz b=wi 3:=by
 unfold nz;rw[h];simp only;rw[if_neg (by simp [hf]),if_neg hr]
theorem adx {b l:List Int} (h:fB b=some l) (hb:bm b):bm l/\l.length<=b.length:=by
 have:=CN h
 subst this
 exact⟨fun c hc=>hb c (iM _ hc),by rw[oU];omega⟩
theorem Y_:dP Tryz.prog GZ:=fun f k h=>by
 unfold GZ at h
 split at h
 ·cases h;exact RX
 ·cases h;exact Sb
 ·exact Tf _ _ h
theorem WN:b9 Tryz.prog Mt:=dY mixed Y_ aI 10
theorem OY {α:Type} {A B C D E X:α->Prop} (q:∃ l,A l/\B l/\C l/\D l/\E l/\X l):(∃ l,A l/\B l/\C l/\D l/\E l/\X l)/\∃ l,A l/\B l/\C l/\D l/\E l/\X l/\X l:=
 ⟨q,q.imp fun _ h=>⟨h.1,h.2.1,h.2.2.1,h.2.2.2.1,h.2.2.2.2.1,h.2.2.2.2.2,h.2.2.2.2.2⟩⟩
theorem r8 {k:IntKind} {o:List Int} {n:Nat} (h:n=o.length):ax 0 (aA n (ints k o))=ints k o:=by
 subst h
 rw[iX,qk,cZ]
theorem afH {o:List (List Int)} {n:Nat} (h:n=o.length):ax 0 (aA n (o.map bB))=o.map bB:=by
 subst h
 rw[iX,<- List.map_take,cZ]
theorem aa0 {l:List Int} (hb:bm l) (hl:l.length<=900000):vc (qn l (cn l)).2 (bd l) (qt l (cl l)).2:=by
 have h1:=(yQ hb (cn l)).2
 have h2:=US hb (pn l) 2048
 have h3:=CW hb (cl l)
 have h4:=(Ny (l:=l)).2
 have h5:=(Nu (l:=l)).2
 have h6:(bd l).length<=l.length:=h2
 refine⟨?_,?_,?_,fun t ht=>?_⟩<;>simp only[maxLen]
 ·omega
 ·omega
 ·omega
 ·have:=h3.2.2 t ht;omega
theorem acN:aR Tryz.prog 59 Mc:=T6 WN mixed [.num,.sl 1,.sl 1,.sl 1] (fun args kb K h=>by
 unfold Mc at h;split at h<;>try exact h.elim
 obtain⟨b,rfl,hb,hl,h⟩:=h
 cases ho:fB b with
 |none=>
  rw[ad_ ho]at h
  refine⟨G0 b [] 59,Vn b [] K ((fun t=>⟨b,rfl,hb,by omega,fun _=>⟨⟨fun _=>h,fun f=>(by cases f)⟩,t⟩,fun m hm=>absurd hm (by rw[ho];simp)⟩) ?_)⟩
  rintro⟨_,hq⟩
  rw[ho]at hq;cases hq
 |some l=>
  obtain⟨hlb,BJ⟩:=adx ho hb
  refine⟨G0 b l 59,Vn b l K ((fun t=>⟨b,rfl,hb,by omega,fun hn=>(by rw[ho]at hn;cases hn),fun m hm=>⟨fun hm0=>⟨⟨fun f=>(by cases f),fun _=>?_⟩,t⟩,⟨⟨fun f=>(by cases f),fun _=>?_⟩,t⟩⟩⟩) ?_)⟩
  rotate_left
  ·rw[ho,bc.injEq]at hm
   subst hm
   subst hm0
   exact At.mk' ⟨0,ho⟩ rfl
  ·rw[ho,bc.injEq]at hm
   subst hm
   exact At.mk' ⟨0,ho⟩ rfl
  rintro⟨_,_⟩
  have e0:ax 0 (aA l.length (ints ν l))=ints ν l:=r8 rfl
  rw[e0]
  obtain⟨c1,c2⟩:=Ny (l:=l)
  obtain⟨d1,d2⟩:=Nu (l:=l)
  refine⟨⟨by rw[bh];exact au _,trivial⟩,by rw[bh];omega,⟨pJ⟩,l,rfl,bh,bt _,hlb,by omega,l,rfl,rfl,Tg hlb,hlb,by omega,?_,?_⟩
  ·have e1:(cz (ax (0+(cz (ax 0 l) 0 40).2.1) l) (cz (ax 0 l) 0 40).2.2 16).1=(cn l:Int):=c1
   rw[e1]
   exact At.mk' ⟨0,bt _,(yQ hlb 0).1⟩ rfl
  rintro⟨i,hi,hil⟩
  dsimp only at hil ⊢
  have hq:=yQ hlb i
  have e1:γ.wrap ((i:Int)+1)=((i+1:Nat):Int):=by rw[bS (by omega) (by omega)];rfl
  simp only[decide_eq_true_eq,decide_eq_false_iff_not]
  refine⟨fun hc=>OY ⟨l,rfl,rfl,hil,hlb,by omega,au _,by rw[bh];omega,by omega,?_⟩,fun hc=>?_⟩
  ·refine Nx.mk' (⟨i+1,by omega,(yQ hlb (i+1)).1⟩:{i:Nat // i<=cn l/\(qn l i).1.1<=l.length}) ?_ (by show cn l - (i+1)<cn l - i;omega)
   show(_:List V×KB)=_
   have e2:aA i (ints γ (qn l i).2)=ints γ (qn l i).2:=fI (by rw[bh];omega)
   have e3:ints γ (qn l i).2++[[η (.int γ (cz (l.drop (qn l i).1.1) (qn l i).1.2 4611686018427387904).1)]]=ints γ (qn l (i+1)).2:=by
    show _=ints γ ((qn l i).2++[_])
    rw[qj];rfl
   rw[e1,e2,e3]
   rfl
  have:i=cn l:=by omega
  subst this
  refine⟨l,rfl,rfl,hil,hlb,by omega,l,rfl,rfl,Th hlb,hlb,by omega,?_,?_⟩
  ·have e2:(cz (ax ((qn l (cn l)).1.1+(gN (ax (qn l (cn l)).1.1 l) (qn l (cn l)).1.2 2048).2.1) l) (gN (ax (qn l (cn l)).1.1 l) (qn l (cn l)).1.2 2048).2.2 64).1=(cl l:Int):=d1
   rw[e2]
   exact At.mk' ⟨0,bt _,(CW hlb 0).1⟩ rfl
  rintro⟨j,hj,hjl⟩
  dsimp only at hjl ⊢
  have hqj:=CW hlb j
  have e1:γ.wrap ((j:Int)+1)=((j+1:Nat):Int):=by rw[bS (by omega) (by omega)];rfl
  try simp only[decide_eq_true_eq,decide_eq_false_iff_not]
  refine⟨fun hc=>OY ⟨l,rfl,rfl,hjl,hlb,by omega,by rw[bh];exact au _,au _,by rw[sX];omega,by omega,?_⟩,fun hc=>?_⟩
  ·refine Nx.mk' (⟨j+1,by omega,(CW hlb (j+1)).1⟩:{i:Nat // i<=cl l/\(qt l i).1.1<=l.length}) ?_ (by show cl l - (j+1)<cl l - j;omega)
   show(_:List V×KB)=_
   have e2:aA j ((qt l j).2.map bB)=(qt l j).2.map bB:=fI (by rw[sX];omega)
   have e3:(qt l j).2.map bB++[[ω 1 (ax 0 (aA (gN (l.drop (qt l j).1.1) (qt l j).1.2 2048).1.length (ints ν (gN (l.drop (qt l j).1.1) (qt l j).1.2 2048).1)))]]=(qt l (j+1)).2.map bB:=by
    rw[r8 rfl]
    show _=((qt l j).2++[_]).map bB
    rw[jZ];rfl
   rw[e1,e2,e3]
   rfl
  have:j=cl l:=by omega
  subst this
  refine⟨l,rfl,rfl,fun h1=>?_,fun h1=>?_⟩
  ·have hf:fin l≠0:=by
    have h2:iS (ax (qt l (cl l)).1.1 l) (qt l (cl l)).1.2≠0:=by simpa using h1
    exact h2
   rw[ad8 ho hf]at h
   exact h
  ·have hf:fin l=0:=by
    have h2:iS (ax (qt l (cl l)).1.1 l) (qt l (cl l)).1.2=0:=by simpa using h1
    exact h2
   have f1:ax 0 (aA (cn l) (ints γ (qn l (cn l)).2))=ints γ (qn l (cn l)).2:=r8 hq.2.symm
   have f2:ax 0 (aA (bd l).length (ints ν (bd l)))=ints ν (bd l):=r8 rfl
   have f3:ax 0 (aA (cl l) ((qt l (cl l)).2.map bB))=(qt l (cl l)).2.map bB:=afH hqj.2.1.symm
   have g1:cn l<=(ints γ (qn l (cn l)).2).length:=by rw[bh];omega
   have g2:(bd l).length<=(ints ν (bd l)).length:=by rw[bh];omega
   have g3:cl l<=((qt l (cl l)).2.map bB).length:=by rw[sX];omega
   rw[f1,f2,f3]
   refine⟨⟨⟨g1,g2,g3,trivial⟩,trivial⟩,_,_,_,rfl,rfl,rfl,aa0 hlb (by omega),fun hr=>⟨trivial,fun f=>(by cases f),fun _=>⟨g1,g2,g3,?_⟩⟩,fun hr=>⟨trivial,fun _=>?_,fun f=>(by cases f)⟩⟩
   ·rw[Tp ho hf hr]at h;exact h
   ·rw[ad9 ho hf hr]at h;exact h)
def Ma:aD:=fun args kb K=>match args,kb with
 | [.agg [.int γ k,aH (.sl 1 N),aH (.sl 1 B),aH (.sl 1 L)]],[]=>∃ n b l,N=ints γ n/\B=ints ν b/\L=l.map bB/\vc n b l/\wZ b l/\
  (kp k n b l->K (.χ [aH (.sl 1 (ints ν (bZ (dw k n b l)))),.int γ 0]) [])/\(¬ kp k n b l->K (.χ [aH (.sl 1 []),.int γ 3]) [])
 |_,_=>False
theorem CH {pre rest:List Int} {v m:Int} (h0:0<=v) (h:v<=9223372036854775807) (hm:v<=m):ia (pre++(aY v++rest)) (pre.length,0) m=((pre++aY v).length,0)/\jz (pre++(aY v++rest)) (pre.length,0) m=v:=by
 unfold ia jz
 simp only
 rw[List.drop_left,JL h0 h hm,bo]
 exact⟨rfl,rfl⟩
theorem UT {pre rest t:List Int} {m:Int} (hm:(t.length:Int)<=m) (h:(t.length:Int)<=9223372036854775807):wG (pre++(cH t++rest)) (pre.length,0) m=((pre++cH t).length,0)/\wF (pre++(cH t++rest)) (pre.length,0) m=t:=by
 unfold wG wF
 simp only
 rw[List.drop_left,Tl hm h,bo]
 exact⟨rfl,rfl⟩
theorem adK {k:Int} {n:List Int} (i:Nat):pu1 k n n.length=pu1 k n i++iZ (n.drop i):=by
 unfold pu1
 have:=Nj (a:=n.take i) (b:=n.drop i)
 rw[List.take_append_drop]at this
 rw[cZ,this]
 simp only[eH]
theorem adL {k:Int} {n b:List Int} {l:List (List Int)} (i:Nat):dw k n b l=pu2 k n b l i++gK (l.drop i):=by
 unfold dw pu2
 have:=Nn (a:=l.take i) (b:=l.drop i)
 rw[List.take_append_drop]at this
 rw[cZ,this]
 simp only[eH]
theorem XN {n:List Int} {i:Nat} (h:i<n.length):iZ (n.drop i)=aY (gI n i)++iZ (n.drop (i+1)):=by
 have h1:=List.drop_eq_getElem_cons h
 have h2:=Bt h
 rw[bz h,bc.injEq]at h2
 rw[h1,h2]
 simp [iZ]
theorem XQ {n:List (List Int)} {i:Nat} (h:i<n.length):gK (n.drop i)=cH (gT n i)++gK (n.drop (i+1)):=by
 have h1:=List.drop_eq_getElem_cons h
 have h2:=Bv h
 rw[bz h,bc.injEq]at h2
 rw[h1,h2]
 simp [gK]
section
variable {k:Int} {n b:List Int} {l:List (List Int)} (hr:kp k n b l)
include hr
theorem Ty:q1 (dw k n b l)=((aY k).length,0)/\kd (dw k n b l)=k:=by
 have e:dw k n b l=[]++(aY k++(aY (n.length:Int)++iZ n++cH b++aY (l.length:Int)++gK l)):=by
  unfold dw pu2 pu1
  rw[cZ,cZ]
  simp only[eH,ju]
 have h1:=hr.k1
 have h2:=hr.k2
 unfold q1 kd
 rw[e]
 exact CH (pre:=[]) (by omega) (by omega) (by omega)
theorem JZ:q2 (dw k n b l)=((aY k++aY (n.length:Int)).length,0)/\cn (dw k n b l)=n.length:=by
 have e:dw k n b l=aY k++(aY (n.length:Int)++(iZ n++cH b++aY (l.length:Int)++gK l)):=by
  unfold dw pu2 pu1
  rw[cZ,cZ]
  simp only[eH]
 have h1:=hr.nl
 have h2:=CH (pre:=aY k) (rest:=iZ n++cH b++aY (l.length:Int)++gK l) (v:=(n.length:Int)) (m:=16) (by omega) (by omega) (by omega)
 rw[<- e]at h2
 unfold q2 cn
 rw[(Ty hr).1,h2.1,h2.2]
 exact⟨rfl,dD _⟩
theorem J0:∀ i,i<=n.length->qn (dw k n b l) i=(((pu1 k n i).length,0),n.take i)
 | 0,_=>by
  unfold qn rM
  rw[(JZ hr).1,S5];rfl
 |i+1,hi=>by
  have ih:=J0 i (by omega)
  unfold qn at ih ⊢
  simp only[rM]
  rw[ih]
  have e:dw k n b l=pu1 k n i++(aY (gI n i)++(iZ (n.drop (i+1))++cH b++aY (l.length:Int)++gK l)):=by
   unfold dw pu2
   rw[adK i,XN (by omega),cZ]
   simp only[eH]
  have h0:=hr.ns _ (Bu (show i<n.length by omega))
  have h2:=CH (pre:=pu1 k n i) (rest:=iZ (n.drop (i+1))++cH b++aY (l.length:Int)++gK l) (v:=gI n i) (m:=4611686018427387904) h0.1 (by omega) h0.2
  rw[<- e]at h2
  simp only
  rw[h2.1,h2.2,S7 (by omega),G5 (by omega)]
theorem aez:pn (dw k n b l)=((pu1 k n n.length).length,0):=by
 unfold pn
 rw[(JZ hr).2,J0 hr _ (au _)]
theorem Tz:q3 (dw k n b l)=((pu1 k n n.length++cH b).length,0)/\bd (dw k n b l)=b:=by
 have e:dw k n b l=pu1 k n n.length++(cH b++(aY (l.length:Int)++gK l)):=by
  unfold dw pu2
  rw[cZ]
  simp only[eH]
 have h1:=hr.bl
 have h2:=UT (pre:=pu1 k n n.length) (rest:=aY (l.length:Int)++gK l) (t:=b) (m:=2048) (by omega) (by omega)
 rw[<- e]at h2
 unfold q3 bd
 rw[aez hr]
 exact h2
theorem TA:q4 (dw k n b l)=((pu2 k n b l 0).length,0)/\cl (dw k n b l)=l.length:=by
 have e:dw k n b l=(pu1 k n n.length++cH b)++(aY (l.length:Int)++gK l):=by
  unfold dw pu2
  rw[cZ]
  simp only[eH]
 have h1:=hr.ll
 have h2:=CH (pre:=pu1 k n n.length++cH b) (rest:=gK l) (v:=(l.length:Int)) (m:=64) (by omega) (by omega) (by omega)
 rw[<- e]at h2
 unfold q4 cl
 rw[(Tz hr).1,h2.1,h2.2,S8]
 exact⟨rfl,dD _⟩
theorem J1:∀ i,i<=l.length->qt (dw k n b l) i=(((pu2 k n b l i).length,0),l.take i)
 | 0,_=>by
  unfold qt pO
  rw[(TA hr).1];rfl
 |i+1,hi=>by
  have ih:=J1 i (by omega)
  unfold qt at ih ⊢
  simp only[pO]
  rw[ih]
  have e:dw k n b l=pu2 k n b l i++(cH (gT l i)++gK (l.drop (i+1))):=by
   rw[adL i,XQ (by omega)]
  have h0:=hr.ts _ (G6 (show i<l.length by omega))
  have h2:=UT (pre:=pu2 k n b l i) (rest:=gK (l.drop (i+1))) (t:=gT l i) (m:=2048) (by omega) (by omega)
  rw[<- e]at h2
  simp only
  rw[h2.1,h2.2,S_ (by omega),Bw (by omega)]
theorem aea:nz (bZ (dw k n b l))=⟨0,k,n,b,l⟩:=by
 have h1:=(TA hr).2
 have h2:pt (dw k n b l)=((dw k n b l).length,0):=by
  unfold pt
  rw[h1,J1 hr _ (au _)];rfl
 have hf:fin (dw k n b l)=0:=by
  unfold fin
  rw[h2]
  show iS ((dw k n b l).drop (dw k n b l).length) 0=0
  rw[List.drop_length];rfl
 have e1:kd (dw k n b l)=k:=(Ty hr).2
 have e2:(qn (dw k n b l) (cn (dw k n b l))).2=n:=by rw[(JZ hr).2,J0 hr _ (au _),cZ]
 have e3:bd (dw k n b l)=b:=(Tz hr).2
 have e4:(qt (dw k n b l) (cl (dw k n b l))).2=l:=by rw[h1,J1 hr _ (au _),cZ]
 have hR:xc (dw k n b l):=by
  unfold xc
  rw[e1,e2,e3,e4];exact hr
 rw[Tp wa hf hR,e1,e2,e3,e4]
end
theorem acI:aR Tryz.prog 47 Ma:=fun args kb K hs=>By acJ [.fk 1] args kb K (by
 unfold Ma at hs;split at hs<;>try exact hs.elim
 rename_i k _ _ _
 obtain⟨n,b,l,rfl,rfl,rfl,hl,hb,hy,hn⟩:=hs
 refine⟨n,b,l,rfl,rfl,rfl,hl,hb,fun hr=>?_,fun hr=>?_⟩
 ·refine⟨by rw[bh,oU];exact au _,?_⟩
  have e:ax 0 (aA ((dw k n b l).length+4) (ints ν (bZ (dw k n b l))))=ints ν (bZ (dw k n b l)):=r8 (by rw[oU])
  show K (.χ [aH (.sl 1 (ax 0 (aA ((dw k n b l).length+4) (ints ν (bZ (dw k n b l)))))),.int γ 0]) []
  rw[e]
  exact hy hr
 ·refine⟨au _,?_⟩
  exact hn hr)
theorem aes {k:Int} {n b:List Int} {l:List (List Int)} (h:kp k n b l):(dw k n b l).length<=100000:=S9 h _
end Go.Proofs.YtfcjngcnifdmnaaGreat.Fm
namespace Go.Proofs.YtfcjngcnifdmnaaGreat
open Vc Go
open Go.IntKind renaming i64->γ,u8->ν,u32->iy
open Vc.V renaming any->δ,sl->ε,int->ζ,sb->ξ,ptr->an,χ->av,dat->aH,af->aO,mp->bb,arr->bD,agg->fw
open Vc.D renaming val->η,sl->ω
open Vc.KO renaming row->υ,dead->aa,cells->aw,objs->cY
open Go.Value renaming int->φ,map->kr,oneCell'->l0
open List renaming map->ae,drop->ax,take->aA,length_append->bo,getElem?_eq_getElem->bz,getElem?_eq_some_iff->bO,length_map->cp,take_length->cZ,length_take->dc,mem_singleton->dm,replicate->dp,mem_append->dQ,Mem->dW,getElem?_append_left->dX,mem_map->ef,append_assoc->eH,mem_cons->eI,getElem?_append_right->e_,append_nil->fu,getElem?_map->fH,take_of_length_le->fI,length_drop->fZ,mem_cons_of_mem->f_,getElem?_set_ne->gE,length_cons->gF,mem_of_getElem?->gG,getElem?_eq_none->g_,getElem?_set_self->iz,length_set->iA,mem_cons_self->iB,length_singleton->iL,mem_append_left->iM,range->iN,drop_zero->iX,getD_eq_getElem?_getD->iY,getElem?_take_of_lt->ji,flatten_cons->jt,nil_append->ju,getElem?_drop->jE,map_append->jZ,take_add_one->j2,length_nil->ko,ext_getElem?->lB,getElem?_of_mem->lC,mem_append_right->lD,map_cons->lY,mem_filter->lZ,eq_nil_of_length_eq_zero->mq
open Nat renaming le_refl->au,zero_le->bt,beq->cq,eq_of_beq_eq_true->cP,zero_add->cQ,add_assoc->gR,lor->iO,lt_or_ge->jF,sub_zero->kV
open Option renaming some->bc,bind_eq_some_iff->kW,map->mU
open Int renaming le_refl->dy,toNat_natCast->dD
open Bool renaming and_eq_true->iW,not_eq_false'->nI
set_option linter.unusedVariables false
set_option linter.unusedSimpArgs false
set_option maxRecDepth 100000
abbrev HX (o:List Int) (v:Int):LI where
 α:={i:Nat // i<=o.length/\v ∉ o.take i}
 live:=[0,1,5]
 st i:=([aH (.sl 1 (ints γ o)),.int γ v,.int γ (i.1:Int)],[])
 μ i:=o.length - i.1
def gX (l:List Int) (v:Int):List Int:=l.filter (fun x=>x != v)
abbrev DO (o:List Int) (v:Int):LI where
 α:={i:Nat // i<=o.length}
 live:=[0,1,5,6]
 dV:=[.slot 2 3 1]
 st i:=([aH (.sl 1 (ints γ o)),.int γ v,.sl 0 0 (gX (o.take i.1) v).length,.int γ (i.1:Int)],[υ 3 1 (ints γ (gX (o.take i.1) v))])
 μ i:=o.length - i.1
abbrev Jg (b:List Int):LI where
 α:={i:Nat // 1<=i/\i<=15/\∀ k,1<=k->k<i->b.getD k 0=0}
 live:=[0,3]
 st i:=([aH (.sl 1 (ints ν b)),.int γ (i.1:Int)],[])
 μ i:=15 - i.1
def Lb (o:List Int) (v:Int):FuncId->Nat->Option LI
 | 93,2=>some (HX o v)
 | 94,3=>some (DO o v)
 | 77,4=>some (Jg o)
 |_,_=>none
def Er:aD:=fun args kb K=>match args,kb with
 | [aH (.sl 1 O),.int γ v],[]=>∃ o:List Int,O=ints γ o/\o.length<=100000/\K (ξ (decide (v∈o))) []
 |_,_=>False
def ET:aD:=fun args kb K=>match args,kb with
 | [aH (.sl 1 O),.int γ v],[]=>∃ o:List Int,O=ints γ o/\o.length<=100000/\K (aH (.sl 1 (ints γ (gX o v)))) []
 |_,_=>False
def jP (b:List Int):Int:=if b.length=16/\(∀ k,k<15->1<=k->b.getD k 0=0)/\¬ (b.getD 0 0=0/\b.getD 15 0≠0∨b.getD 0 0≠0/\b.getD 15 0≠7)then b.getD 0 0 else -1
def EB:aD:=fun args kb K=>match args,kb with
 | [aH (.sl 1 B)],[]=>∃ b:List Int,B=ints ν b/\bm b/\b.length<=100000/\K (.int γ (jP b)) []
 |_,_=>False
def lQ (c:Vw) (ch id:Int):Vw:=
 if ch=0 then(if(id ∉ c.mem/\id ∉ c.aC)∨(id∈c.mem/\c.mem.length=1)then c else⟨c.vi,c.vv,c.ve+1,gX c.mem id,gX c.aC id⟩)
 else if ch=1 then(if id∈c.mem∨id∈c.aC then c else⟨c.vi,c.vv,c.ve+1,c.mem,c.aC++[id]⟩)
 else if ch=2 then(if id ∉ c.aC then c else⟨c.vi,c.vv,c.ve+1,c.mem++[id],gX c.aC id⟩)else c
def L_:aD:=fun args kb K=>match args,kb with
 | [.agg [.int γ vi,.int γ vv,.int γ ve,aH (.sl 1 M),aH (.sl 1 J)],.int γ ch,.int γ id],[]=>∃ m j:List Int,M=ints γ m/\J=ints γ j/\m.length<=1000/\j.length<=1000/\0<=ve/\ve<=1000000/\K (wL (lQ ⟨vi,vv,ve,m,j⟩ ch id)) []
 |_,_=>False
def Jb:FuncId->Option dK
 | 93=>some ⟨[.gj 1],Er⟩
 | 94=>some ⟨[.fk 1],ET⟩
 |_=>none
noncomputable def Mz:bN:=dU Tryz.prog Jb aI 10
theorem agR (o:List Int) (v:Int) (K:V->KB->Prop) (ar:
 At (HX o v) ([aH (ω 1 (ints γ o)),ζ γ v,ζ γ 0],[])/\
 ∀(i:{i:Nat // i<=o.length/\
 ¬v∈aA i o }),let κ:=(↑i.val:Int)<(↑(ints γ o).length:Int);(decide (κ)=true->
 aM (↑i.val:Int)/\
 ∃(e:List D),(ints γ o)[(↑i.val:Int).toNat]? =some e/\
 ∃(n:Int),e[0]? =some (η (φ γ n))/\
 ((n == v)=true->
 K (ξ true) [])/\
 ((n == v)=false->
 Nx (HX o v) i ([aH (ω 1 (ints γ o)),ζ γ v,ζ γ (γ.wrap ((↑i.val:Int)+1))],[])))/\
 (decide (κ)=false->
 K (ξ false) [])
 ):aK Tryz.prog X0 (Lb o v 93) 93 [aH (.sl 1 (ints γ o)),.int γ v] [] K:=by apply Eq.mp (a:=ar);kernel_rfl
theorem ahT (o:List Int) (v:Int) (K:V->KB->Prop) (ar:
 let ah:=aH (ω 1 (ints γ o));At (DO o v) ([ah,ζ γ v,ε 0 0 0,ζ γ 0],[υ 3 1 []])/\
 ∀(i:{i:Nat // i<=o.length }),let aL:=(↑i.val:Int)<(↑(ints γ o).length:Int);let az:=ζ γ (γ.wrap ((↑i.val:Int)+1));let κ:=(gX (aA i.val o) v);let aJ:=κ.length<=(ints γ κ).length;(decide (aL)=true->
 aM (↑i.val:Int)/\
 ∃(e:List D),(ints γ o)[(↑i.val:Int).toNat]? =some e/\
 ∃(n:Int),e[0]? =some (η (φ γ n))/\
 ((n != v)=true->
 aM (↑i.val:Int)/\
 ∃(e:List D),(ints γ o)[(↑i.val:Int).toNat]? =some e/\
 ∃(n:Int),e[0]? =some (η (φ γ n))/\
 1<=1/\
 aJ/\
 (κ.length+1)*8<=140737488355328/\
 Nx (DO o v) i ([ah,ζ γ v,ε 0 0 (κ.length+1),az],[υ 3 1 (aA κ.length (ints γ κ)++[[η (φ γ n)]])]))/\
 ((n != v)=false->
 Nx (DO o v) i ([ah,ζ γ v,ε 0 0 κ.length,az],[υ 3 1 (ints γ κ)])))/\
 (decide (aL)=false->
 aJ/\
 K (aH (ω 1 (ax 0 (aA κ.length (ints γ κ))))) [])
 ):aK Tryz.prog X0 (Lb o v 94) 94 [aH (.sl 1 (ints γ o)),.int γ v] [] (jJ [.fk 1] (dx 0 K)):=by apply Eq.mp (a:=ar);kernel_rfl
theorem ag_ (b:List Int) (K:V->KB->Prop) (ar:
 let κ:=K (ζ γ (-1)) [];(((↑(ints ν b).length:Int) != 16)=true->
 κ)/\
 (((↑(ints ν b).length:Int) != 16)=false->
 At (Jg b) ([aH (ω 1 (ints ν b)),ζ γ 1],[])/\
 ∀(i:{i:Nat // 1<=i/\
 i<=15/\
 ∀(k:Nat),1<=k->
 k<i->
 b.getD k 0=0 }),(decide ((↑i.val:Int)<15)=true->
 aM (↑i.val:Int)/\
 ∃(e:List D),(ints ν b)[(↑i.val:Int).toNat]? =some e/\
 ∃(n:Int),e[0]? =some (η (φ ν n))/\
 ((n != 0)=true->
 κ)/\
 ((n != 0)=false->
 Nx (Jg b) i ([aH (ω 1 (ints ν b)),ζ γ (γ.wrap ((↑i.val:Int)+1))],[])))/\
 (decide ((↑i.val:Int)<15)=false->
 aM 0/\
 ∃(e:List D),(ints ν b)[0]? =some e/\
 ∃(n:Int),e[0]? =some (η (φ ν n))/\
 ((n == 0)=true->
 aM 15/\
 ∃(e:List D),(ints ν b)[15]? =some e/\
 ∃(n:Int),e[0]? =some (η (φ ν n))/\
 ((n != 0)=true->
 κ)/\
 ((n != 0)=false->
 aM 0/\
 ∃(e:List D),(ints ν b)[0]? =some e/\
 ∃(n:Int),e[0]? =some (η (φ ν n))/\
 ((n != 0)=true->
 aM 15/\
 ∃(e:List D),(ints ν b)[15]? =some e/\
 ∃(n:Int),e[0]? =some (η (φ ν n))/\
 ((n != 7)=true->
 κ)/\
 ((n != 7)=false->
 aM 0/\
 ∃(e:List D),(ints ν b)[0]? =some e/\
 ∃(n:Int),e[0]? =some (η (φ ν n))/\
 K (ζ γ (γ.wrap n)) []))/\
 ((n != 0)=false->
 aM 0/\
 ∃(e:List D),(ints ν b)[0]? =some e/\
 ∃(n:Int),e[0]? =some (η (φ ν n))/\
 K (ζ γ (γ.wrap n)) [])))/\
 ((n == 0)=false->
 aM 0/\
 ∃(e:List D),(ints ν b)[0]? =some e/\
 ∃(n:Int),e[0]? =some (η (φ ν n))/\
 ((n != 0)=true->
 aM 15/\
 ∃(e:List D),(ints ν b)[15]? =some e/\
 ∃(n:Int),e[0]? =some (η (φ ν n))/\
 ((n != 7)=true->
 κ)/\
 ((n != 7)=false->
 aM 0/\
 ∃(e:List D),(ints ν b)[0]? =some e/\
 ∃(n:Int),e[0]? =some (η (φ ν n))/\
 K (ζ γ (γ.wrap n)) []))/\
 ((n != 0)=false->
 aM 0/\
 ∃(e:List D),(ints ν b)[0]? =some e/\
 ∃(n:Int),e[0]? =some (η (φ ν n))/\
 K (ζ γ (γ.wrap n)) []))))
 ):aK Tryz.prog X0 (Lb b 0 77) 77 [aH (.sl 1 (ints ν b))] [] K:=by apply Eq.mp (a:=ar);kernel_rfl
theorem ag7 (vi vv ve:Int) (m j:List Int) (ch id:Int) (K:V->KB->Prop) (ar:
 let bp:=((↑(ints γ m).length:Int) == 1)=true;let aV:=((↑(ints γ m).length:Int) == 1)=false;let aJ:=ζ γ (γ.wrap (ve+1));let aL:=(aA (0+(ints γ m).length) ([]++ints γ m)++[[η (φ γ id)]]);let az:=(aA (0+(ints γ j).length) ([]++ints γ j)++[[η (φ γ id)]]);let ah:=K (fw [ζ γ vi,ζ γ vv,ζ γ ve,aH (ω 1 (ints γ m)),aH (ω 1 (ints γ j))]) [];∃(o:List Int),let κ:=(∃(o:List Int),ints γ m=ints γ o/\
 o.length<=100000/\
 ∃(Jd:List Int),ints γ j=ints γ Jd/\
 Jd.length<=100000/\
 K (fw [ζ γ vi,ζ γ vv,aJ,aH (ω 1 (ints γ (gX o id))),aH (ω 1 (ints γ (gX Jd id)))]) []);ints γ m=ints γ o/\
 o.length<=100000/\
 ∃(s_:List Int),ints γ j=ints γ s_/\
 s_.length<=100000/\
 ((ch == 0)=true->
 ((!decide (id∈o))=true->
 ((!decide (id∈s_))=true->
 ah)/\
 ((!decide (id∈s_))=false->
 (decide (id∈o)=true->
 (bp->
 ah)/\
 (aV->
 κ))/\
 (decide (id∈o)=false->
 κ)))/\
 ((!decide (id∈o))=false->
 (decide (id∈o)=true->
 (bp->
 ah)/\
 (aV->
 κ))/\
 (decide (id∈o)=false->
 κ)))/\
 ((ch == 0)=false->
 ((ch == 1)=true->
 (decide (id∈o)=true->
 ah)/\
 (decide (id∈o)=false->
 (decide (id∈s_)=true->
 ah)/\
 (decide (id∈s_)=false->
 True/\
 0<=0/\
 (0+(ints γ j).length)*8<=140737488355328/\
 1<=1/\
 0+(ints γ j).length<=([]++ints γ j).length/\
 (0+(ints γ j).length+1)*8<=140737488355328/\
 0+(ints γ j).length+1<=az.length/\
 K (fw [ζ γ vi,ζ γ vv,aJ,aH (ω 1 (ints γ m)),aH (ω 1 (ax 0 (aA (0+(ints γ j).length+1) az)))]) [])))/\
 ((ch == 1)=false->
 ((ch == 2)=true->
 ((!decide (id∈s_))=true->
 ah)/\
 ((!decide (id∈s_))=false->
 True/\
 0<=0/\
 (0+(ints γ m).length)*8<=140737488355328/\
 1<=1/\
 0+(ints γ m).length<=([]++ints γ m).length/\
 (0+(ints γ m).length+1)*8<=140737488355328/\
 ∃(o:List Int),ints γ j=ints γ o/\
 o.length<=100000/\
 0+(ints γ m).length+1<=aL.length/\
 K (fw [ζ γ vi,ζ γ vv,aJ,aH (ω 1 (ax 0 (aA (0+(ints γ m).length+1) aL))),aH (ω 1 (ints γ (gX o id)))]) []))/\
 ((ch == 2)=false->
 ah)))
 ):aK Tryz.prog Mz (aI 61) 61 [.agg [.int γ vi,.int γ vv,.int γ ve,aH (.sl 1 (ints γ m)),aH (.sl 1 (ints γ j))],.int γ ch,.int γ id] [] (xZ [.num,.num,.num,.sl 1,.sl 1] (dx 0 K)):=by apply Eq.mp (a:=ar);kernel_rfl
theorem p_ {k:IntKind} {l:List Int} {n:Int} {i:Nat} {Q:Int->Prop} (hn:0<=n) (h:i<l.length) (q:Q (l.getD i 0)):aM n/\∃ e,(ints k l)[i]? =some e/\∃ x,e[0]? =some (η (.int k x))/\Q x:=
 ⟨by unfold aM;omega,[η (.int k (l.getD i 0))],by rw[mb,bz h,iY,bz h];rfl,_,rfl,q⟩
theorem x4 {l:List Int} {i:Nat} (h:i<l.length):l[i]? =some (l.getD i 0):=by rw[iY,bz h];rfl
theorem Bx {l:List Int} {i:Nat} (h:i<l.length):l.getD i 0∈l:=gG (x4 h)
theorem KI {l:List Int} {i:Nat} (h:i<l.length):l.take (i+1)=l.take i++[l.getD i 0]:=by rw[j2,x4 h];rfl
theorem ab4:aR Tryz.prog 93 Er:=fC hZ mixed (fun args kb K h=>by
 unfold Er at h;split at h<;>try exact h.elim
 rename_i v
 obtain⟨o,rfl,hl,h⟩:=h
 refine⟨_,agR o v K ⟨At.mk' ⟨0,bt _,by simp⟩ rfl,?_⟩⟩
 rintro⟨i,hi,ht⟩
 simp only[bh,decide_eq_true_eq,decide_eq_false_iff_not]
 refine⟨fun hc=>p_ (by omega) (by omega) ⟨fun hx=>?_,fun hx=>?_⟩,fun hc=>?_⟩
 ·simp only[beq_iff_eq]at hx
  rw[dD]at hx
  rwa [decide_eq_true (by rw[<- hx];exact Bx (by omega))]at h
 ·simp only[beq_eq_false_iff_ne,ne_eq]at hx
  rw[dD]at hx
  rw[bS (by omega) (by omega)]
  refine Nx.mk' (⟨i+1,by omega,?_⟩:{i:Nat // i<=o.length/\v ∉ o.take i}) rfl (by show o.length - (i+1)<o.length - i;omega)
  rw[KI (by omega),dQ,dm]
  rintro(h1 | h1)
  ·exact ht h1
  ·exact hx h1.symm
 ·have:i=o.length:=by omega
  subst this
  rw[cZ]at ht
  rwa [decide_eq_false ht]at h)
theorem Rw (a b:List Int) (v:Int):gX (a++b) v=gX a v++gX b v:=List.filter_append ..
theorem IZ (a:List Int) (v:Int):(gX a v).length<=a.length:=List.length_filter_le ..
theorem ac9:aR Tryz.prog 94 ET:=fun args kb K h=>By (fC hZ mixed (S:=fun a k K0=>∃ T,aK Tryz.prog X0 T 94 a k K0) fun _ _ _ h=>h) [.fk 1] args kb K (by
 unfold ET at h;split at h<;>try exact h.elim
 rename_i v
 obtain⟨o,rfl,hl,h⟩:=h
 refine⟨_,ahT o v K ⟨At.mk' ⟨0,bt _⟩ rfl,?_⟩⟩
 rintro⟨i,hi⟩
 have hn:=IZ (o.take i) v
 rw[dc]at hn
 simp only[bh,decide_eq_true_eq,decide_eq_false_iff_not]
 refine⟨fun hc=>p_ (by omega) (by omega) ⟨fun hx=>p_ (by omega) (by omega) ⟨au _,au _,by omega,?_⟩,fun hx=>?_⟩,fun hc=>⟨au _,?_⟩⟩
 ·rw[dD]at hx ⊢
  have e:gX (o.take (i+1)) v=gX (o.take i) v++[o.getD i 0]:=by rw[KI (by omega),Rw];unfold gX;rw[List.filter_cons_of_pos (by exact hx)];rfl
  refine Nx.mk' (⟨i+1,by omega⟩:{i:Nat // i<=o.length}) ?_ (by show o.length - (i+1)<o.length - i;omega)
  rw[bS (by omega) (by omega)]
  dsimp only
  have e2:aA (gX (o.take i) v).length (ints γ (gX (o.take i) v))=ints γ (gX (o.take i) v):=fI (by rw[bh];exact au _)
  rw[e,e2,qj,bo]
  rfl
 ·rw[dD]at hx
  have e:gX (o.take (i+1)) v=gX (o.take i) v:=by rw[KI (by omega),Rw];unfold gX;rw[List.filter_cons_of_neg (by rw[hx];exact Bool.false_ne_true)];simp
  refine Nx.mk' (⟨i+1,by omega⟩:{i:Nat // i<=o.length}) ?_ (by show o.length - (i+1)<o.length - i;omega)
  rw[bS (by omega) (by omega)]
  dsimp only
  rw[e];rfl
 ·have:i=o.length:=by omega
  subst this
  rw[iX,fI (by rw[bh];exact au _),cZ]
  exact h)
theorem XJ {b:List Int} (h:bm b) (i:Nat):0<=b.getD i 0/\b.getD i 0<256:=by
 by_cases hi:i<b.length
 ·exact h _ (Bx hi)
 ·rw[iY,g_ (by omega)];exact⟨by decide,by decide⟩
theorem acp:aR Tryz.prog 77 EB:=fC hZ mixed (fun args kb K h=>by
 unfold EB at h;split at h<;>try exact h.elim
 obtain⟨b,rfl,hb,hl,h⟩:=h
 refine⟨_,ag_ b K ⟨fun hc=>?_,fun hc=>?_⟩⟩
 ·rw[bh]at hc
  have:jP b=-1:=if_neg (fun w=>by simp [w.1]at hc)
  rwa [this]at h
 rw[bh]at hc
 have Zs:b.length=16:=by simp at hc;omega
 refine⟨At.mk' ⟨1,by omega,by omega,fun k h1 h2=>by omega⟩ rfl,?_⟩
 rintro⟨i,h1,h2,h3⟩
 simp only[decide_eq_true_eq,decide_eq_false_iff_not,bne_iff_ne,ne_eq,bne_eq_false_iff_eq,beq_iff_eq,beq_eq_false_iff_ne]
 refine⟨fun hc=>p_ (by omega) (by omega) ⟨fun hx=>?_,fun hx=>?_⟩,fun hc=>?_⟩
 ·rw[dD]at hx
  have:jP b=-1:=if_neg (fun w=>hx (w.2.1 i (by omega) h1))
  rwa [this]at h
 ·rw[dD]at hx
  rw[bS (by omega) (by omega)]
  refine Nx.mk' (⟨i+1,by omega,by omega,fun k k1 k2=>?_⟩:{i:Nat // 1<=i/\i<=15/\∀ k,1<=k->k<i->b.getD k 0=0}) rfl (by show 15 - (i+1)<15 - i;omega)
  by_cases e:k=i
  ·subst e;exact hx
  ·exact h3 k k1 (by omega)
 ·have hi:i=15:=by omega
  subst hi
  have h0:=XJ hb 0
  have bad:(b.getD 0 0=0/\b.getD 15 0≠0∨b.getD 0 0≠0/\b.getD 15 0≠7)->K (.int γ (-1)) []:=fun w=>by
   have:jP b=-1:=if_neg (fun q=>q.2.2 w)
   rwa [this]at h
  have good:¬ (b.getD 0 0=0/\b.getD 15 0≠0∨b.getD 0 0≠0/\b.getD 15 0≠7)->aM 0/\∃ e,(ints ν b)[0]? =some e/\∃ n,e[0]? =some (η (.int ν n))/\K (.int γ (γ.wrap n)) []:=fun w=>p_ (by omega) (by omega) (by
   have:jP b=b.getD 0 0:=if_pos ⟨Zs,fun k k1 k2=>h3 k k2 k1,w⟩
   rw[this]at h
   rwa [bS (by omega) (by omega)])
  refine p_ (by omega) (by omega) ⟨fun h4=>p_ (by omega) (by omega) ⟨fun h5=>bad (.inl ⟨h4,h5⟩),fun h5=>p_ (by omega) (by omega) ⟨fun h6=>absurd h4 h6,fun h6=>good (by omega)⟩⟩,fun h4=>p_ (by omega) (by omega) ⟨fun h5=>p_ (by omega) (by omega) ⟨fun h6=>bad (.inr ⟨h5,h6⟩),fun h6=>good (by omega)⟩,fun h5=>absurd h5 h4⟩⟩)
theorem abD:dP Tryz.prog Jb:=fun f k h=>by
 unfold Jb at h
 split at h
 ·cases h;exact ab4
 ·cases h;exact ac9
 ·cases h
theorem WT:b9 Tryz.prog Mz:=dY mixed abD aI 10
theorem acl:aR Tryz.prog 61 L_:=T6 WT mixed [.num,.num,.num,.sl 1,.sl 1] (fun args kb K h=>by
 unfold L_ at h;split at h<;>try exact h.elim
 rename_i vi vv ve _ _ ch id
 obtain⟨m,j,rfl,rfl,hm,hj,e0,e1,h⟩:=h
 refine⟨_,ag7 vi vv ve m j ch id K ?_⟩
 have w1:γ.wrap (ve+1)=ve+1:=by rw[bS (by omega) (by omega)]
 have hm1:(ints γ m).length=m.length:=bh
 have hj1:(ints γ j).length=j.length:=bh
 have ap:∀(l:List Int) (x:Int),ax 0 (aA (0+(ints γ l).length+1) (aA (0+(ints γ l).length) ([]++ints γ l)++[[η (.int γ x)]]))=ints γ (l++[x]):=fun l x=>by
  rw[iX,ju,cQ,cZ,fI (by rw[bo];exact au _),qj];rfl
 have al:∀(l:List Int) (x:Int),0+(ints γ l).length+1<=(aA (0+(ints γ l).length) ([]++ints γ l)++[[η (.int γ x)]]).length:=fun l x=>by
  rw[ju,cQ,cZ,bo];exact au _
 unfold lQ at h
 dsimp only at h ⊢
 refine⟨m,rfl,by omega,j,rfl,by omega,?_⟩
 simp only[beq_iff_eq,beq_eq_false_iff_ne,ne_eq,Bool.not_eq_true',nI,decide_eq_true_eq,decide_eq_false_iff_not,w1,ap]at h ⊢
 have gh:((ints γ m).length:Int)=1 ↔ m.length=1:=by rw[hm1];omega
 refine⟨fun c0=>?_,fun c0=>⟨fun c1=>?_,fun c1=>⟨fun c2=>?_,fun c2=>?_⟩⟩⟩
 ·rw[if_pos c0]at h
  have go:¬ ((id ∉ m/\id ∉ j)∨(id∈m/\m.length=1))->∃ o,ints γ m=ints γ o/\o.length<=100000/\∃ o2,ints γ j=ints γ o2/\o2.length<=100000/\K (.agg [.int γ vi,.int γ vv,.int γ (ve+1),aH (.sl 1 (ints γ (gX o id))),aH (.sl 1 (ints γ (gX o2 id)))]) []:=fun w=>by
   rw[if_neg w]at h
   exact⟨m,rfl,by omega,j,rfl,by omega,h⟩
  have no:((id ∉ m/\id ∉ j)∨(id∈m/\m.length=1))->K (.agg [.int γ vi,.int γ vv,.int γ ve,aH (.sl 1 (ints γ m)),aH (.sl 1 (ints γ j))]) []:=fun w=>by rw[if_pos w]at h;exact h
  refine⟨fun m1=>⟨fun j1=>no (.inl ⟨m1,j1⟩),fun j1=>⟨fun m2=>absurd m2 m1,fun m2=>go (fun w=>w.elim (fun w=>w.2 j1) (fun w=>m1 w.1))⟩⟩,fun m1=>⟨fun m2=>⟨fun l1=>no (.inr ⟨m1,gh.1 l1⟩),fun l1=>go (fun w=>w.elim (fun w=>w.1 m1) (fun w=>l1 (gh.2 w.2)))⟩,fun m2=>absurd m1 m2⟩⟩
 ·rw[if_neg c0,if_pos c1]at h
  refine⟨fun m1=>?_,fun m1=>⟨fun j1=>?_,fun j1=>⟨trivial,au _,by omega,au _,by simp,by omega,al _ _,?_⟩⟩⟩
  ·rw[if_pos (.inl m1)]at h;exact h
  ·rw[if_pos (.inr j1)]at h;exact h
  ·rw[if_neg (fun w=>w.elim (fun w=>m1 w) (fun w=>j1 w))]at h;exact h
 ·rw[if_neg c0,if_neg c1,if_pos c2]at h
  refine⟨fun j1=>?_,fun j1=>⟨trivial,au _,by omega,au _,by simp,by omega,j,rfl,by omega,al _ _,?_⟩⟩
  ·rw[if_pos j1]at h;exact h
  ·rw[if_neg (fun w=>w j1)]at h;exact h
 ·rw[if_neg c0,if_neg c1,if_neg c2]at h;exact h)
structure fU where
 fr:Int
 to:Int
 m:dI
structure fG where
 o:Op
 v:Int
 bg:Int
 en:Int
structure Wd where
 R:List θ
 dk:List (List Int)
 vs:List Vw
 ψ:List fU
 cs:List fG
 aX:List Int
 now:Int
 ok:Bool
def mJ (m:dI):List Int:=bZ (Fm.dw m.kd m.n m.b m.l)
def cN (x:fU):List D:=[dn γ x.fr,dn γ x.to,.sl 1 (ints ν (mJ x.m))]
def c8 (w:Vw):List D:=[dn γ w.vi,dn γ w.vv,dn γ w.ve,.sl 1 (ints γ w.mem),.sl 1 (ints γ w.aC)]
def c9 (c:fG):List D:=[dn γ c.o.cl,dn γ c.o.nm,dn γ c.o.kd,dn γ c.o.bk,.sl 1 (ints ν c.o.b),dn γ c.o.kd,dn γ c.v,dn γ c.bg,dn γ c.en,db false]
def cd (p:Nat×Nat):List D:=[.val (pv p.2)]
abbrev jC (b:Nat) (w:Wd):KO:=.cells [.sl b 0 w.R.length,.sl (b+1) 0 w.dk.length,.sl (b+2) 0 w.vs.length,.sl (b+3) 0 w.ψ.length,.sl (b+4) 0 w.cs.length,.sl (b+5) 0 w.aX.length,.int γ w.now,ξ w.ok]
abbrev ki (q:List (Nat×Nat)):KO:=.row 30 1 (q.map cd)
abbrev kJ (w:Wd):KO:=.row 23 1 (w.dk.map bB)
abbrev kj (w:Wd):KO:=.row 49 5 (w.vs.map c8)
abbrev jQ (w:Wd):KO:=.row 73 3 (w.ψ.map cN)
abbrev la (w:Wd):KO:=.row 61 10 (w.cs.map c9)
abbrev lb (w:Wd):KO:=.row 3 1 (ints γ w.aX)
abbrev gl (w:Wd) (q:List (Nat×Nat)) (A:List (Sg×KB)):KB:=[jC 1 w,ki q,kJ w,kj w,jQ w,la w,lb w,cY A]
abbrev d_ (w:Wd) (q:List (Nat×Nat)) (A:List (Sg×KB)):KB:=[jC 8 w,aa,aa,aa,aa,aa,aa,cY A,ki q,kJ w,kj w,jQ w,la w,lb w]
abbrev Vj (w:Wd) (q:List (Nat×Nat)):KB:=[jC 1 w,ki q,kJ w,kj w,jQ w,la w,lb w]
abbrev vKo (w:Wd) (q:List (Nat×Nat)):KB:=[jC 7 w,aa,aa,aa,aa,aa,aa,ki q,kJ w,kj w,jQ w,la w,lb w]
def eW:List jG:=[.mv 0 0,.mv 0 1,.mv 0 2,.mv 0 3,.mv 0 4,.mv 0 5,.kill 1,.kill 2,.kill 3,.kill 4,.kill 5,.kill 6]
structure CU (l:List (Nat×θ)) (q:List (Nat×Nat)) (R:List θ):Prop where
 len:q.length=R.length
 a:∀(i:Nat) (p:Nat×Nat),q[i]? =some p->∃ r,R[i]? =some r/\l[p.1]? =some (p.2,r)
 nd:(q.map (·.1)).Nodup
structure PW (A:List (Sg×KB)) (q:List (Nat×Nat)) (R:List θ):Prop where
 h:∃ l,bY A l/\CU l q R
structure mn (kb:KB) (w:Wd) (q:List (Nat×Nat)) (A:List (Sg×KB)):Prop where
 h:kb=gl w q A
structure LR (kb:KB) (w:Wd) (q:List (Nat×Nat)):Prop where
 h:kb=Vj w q
def qe (d:Dn) (c:fG):Prop:=c.o.cl=d.o.cl/\c.o.nm=d.o.nm/\c.en=-1/\d.e=0
instance (d:Dn) (c:fG):Decidable (qe d c):=by unfold qe;infer_instance
def gC (now:Int) (d:Dn) (c:fG):fG:=if qe d c then⟨c.o,if c.o.kd=3 then jP d.x else c.v,c.bg,now⟩else c
def od (d:Dn) (c:fG):Bool:=decide (qe d c/\c.o.kd=3->0<=jP d.x)
def de (w:Wd) (d:Dn) (i:Nat):Wd:={w with cs:=(w.cs.take i).map (gC w.now d)++w.cs.drop i,ok:=w.ok && (w.cs.take i).all (od d) }
def fM (w:Wd) (d:Dn):Wd:={w with cs:=w.cs.map (gC w.now d),ok:=w.ok && w.cs.all (od d) }
def XK:fG:=⟨⟨0,0,0,0,[]⟩,0,0,0⟩
def da (w:Wd) (i:Nat):fG:=w.cs.getD i XK
def KQ (w:Wd) (d:Dn) (i:Nat):Wd:={de w d i with ok:=(de w d (i+1)).ok }
abbrev xR (d:Dn):KO:=.cells [.int γ d.o.cl,.int γ d.o.nm,.int γ d.o.kd,.int γ d.o.bk,aH (.sl 1 (ints ν d.o.b)),.int γ d.e,aH (.sl 1 (ints ν d.x))]
structure Ay where
 W:Wd
 e:List D
structure EV (w:Wd) (d:Dn) (i:Nat) (x:Ay):Prop where
 lt:i<w.cs.length
 hit:qe d (da w i)
 W:x.W=KQ w d i
 e:x.e=c9 (gC w.now d (da w i))
abbrev zb (w:Wd) (q:List (Nat×Nat)) (d:Dn) (i:Nat):LI where
 α:={x:Ay // EV w d i x}
 live:=[0,3,4,5]
 dV:=eW++[.qh 3]
 st x:=([an 0 0,an 13 0,.int γ (i:Int),.cF x.1.e 0],[jC 7 x.1.W,aa,aa,aa,aa,aa,aa,ki q,kJ w,kj w,jQ w,la x.1.W,lb w,xR d])
 μ x:=0
def afK (w:Wd) (q:List (Nat×Nat)) (d:Dn) (i:Nat):Nat->Option LI
 | 1010=>some (zb w q d i)
 |_=>none
abbrev wE (w:Wd) (q:List (Nat×Nat)) (d:Dn):LI where
 α:={x:Nat×Wd // x.1<=w.cs.length/\x.2=de w d x.1}
 live:=[0,3,4]
 dV:=eW
 st x:=([an 0 0,an 13 0,.int γ (x.1.1:Int)],[jC 7 x.1.2,aa,aa,aa,aa,aa,aa,ki q,kJ w,kj w,jQ w,la x.1.2,lb w,xR d])
 μ x:=w.cs.length - x.1.1
 sub x:=afK w q d x.1.1
def UQ (w:Wd) (q:List (Nat×Nat)) (d:Dn):FuncId->Nat->Option LI
 | 48,2=>some (wE w q d)
 |_,_=>none
def KK:FuncId->Option dK
 | 77=>some ⟨[.gj 1],EB⟩
 |_=>none
noncomputable def MH:bN:=dU Tryz.prog KK aI 10
abbrev N7 (d:Dn):V:=.agg [.int γ d.o.cl,.int γ d.o.nm,.int γ d.o.kd,.int γ d.o.bk,aH (.sl 1 (ints ν d.o.b)),.int γ d.e,aH (.sl 1 (ints ν d.x))]
theorem ahL (w:Wd) (q:List (Nat×Nat)) (d:Dn) (K:V->KB->Prop) (ar:
 let Lj:=ζ γ d.o.bk;let Li:=ζ γ d.o.kd;let Lh:=ζ γ d.o.nm;let Lg:=ζ γ d.o.cl;let kP:=aH (ω 1 (ints ν d.x));let iV:=υ 30 1 (ae cd q);let fT:=υ 49 5 (ae c8 w.vs);let fY:=υ 23 1 (ae bB w.dk);let dO:=υ 73 3 (ae cN w.ψ);let cK:=υ 3 1 (ints γ w.aX);At (wE w q d) ([an 0 0,an 13 0,ζ γ 0],[aw [ε 7 0 w.R.length,ε 8 0 w.dk.length,ε 9 0 w.vs.length,ε 10 0 w.ψ.length,ε 11 0 w.cs.length,ε 12 0 w.aX.length,ζ γ w.now,ξ w.ok],aa,aa,aa,aa,aa,aa,iV,fY,fT,dO,υ 61 10 (ae c9 w.cs),cK,aw [Lg,Lh,Li,Lj,aH (ω 1 (ints ν d.o.b)),ζ γ d.e,kP]])/\
 ∀(i:{x:Nat×Wd // x.fst<=w.cs.length/\
 x.snd=de w d x.fst }),let V6:=η (φ γ i.val.snd.now);let wR:=ε 7 0 i.val.snd.R.length;let tA:=ε 9 0 i.val.snd.vs.length;let qK:=ε 8 0 i.val.snd.dk.length;let oq:=(↑i.val.fst:Int)<(↑(i.val.snd.cs.length - 0):Int);let o5:=ε 11 0 i.val.snd.cs.length;let lw:=ε 10 0 i.val.snd.ψ.length;let lW:=ζ γ i.val.snd.now;let lu:=ε 12 0 i.val.snd.aX.length;let lq:=υ 61 10 (ae c9 i.val.snd.cs);let bV:=aw [wR,qK,tA,lw,o5,lu,lW,ξ i.val.snd.ok];let aV:=(γ.wrap ((↑i.val.fst:Int)+1));let zx:=[an 0 0,an 13 0,ζ γ aV];(decide (oq)=true->
 bj (↑i.val.fst:Int) (i.val.snd.cs.length - 0)/\
 ∃(e:List D),(ae c9 i.val.snd.cs)[0+(↑i.val.fst:Int).toNat]? =some e/\
 ∃(n:Int),let wX:=(φ γ n);e[0]? =some (η wX)/\
 ∃(n_1:Int),let uY:=(φ γ n_1);e[1]? =some (η uY)/\
 ∃(n_2:Int),let wS:=(φ γ n_2);e[2]? =some (η wS)/\
 ∃(lO:Int),let wU:=(φ γ lO);e[3]? =some (η wU)/\
 ∃(l:List (List D)),e[4]? =some (ω 1 l)/\
 ∃(mc:Int),let wV:=(φ γ mc);e[5]? =some (η wV)/\
 ∃(pD:Int),e[6]? =some (η (φ γ pD))/\
 ∃(qp:Int),let wW:=(φ γ qp);e[7]? =some (η wW)/\
 ∃(rN:Int),e[8]? =some (η (φ γ rN))/\
 ∃(b:Bool),let bp:=aw [Lg,Lh,Li,Lj,aH (ω 1 (ints ν d.o.b)),ζ γ d.e,kP];let ah:KB:=[bV,aa,aa,aa,aa,aa,aa,iV,fY,fT,dO,lq,cK,bp];let bW:=Nx (wE w q d) i (zx,ah);e[9]? =some (η (Value.bool b))/\
 ((n != d.o.cl)=true->
 bW)/\
 ((n != d.o.cl)=false->
 ((n_1 != d.o.nm)=true->
 bW)/\
 ((n_1 != d.o.nm)=false->
 ((rN != -1)=true->
 bW)/\
 ((rN != -1)=false->
 ((d.e != 0)=true->
 bW)/\
 ((d.e != 0)=false->
 (((n_2 == 3)=true->
 ∃(b_1:List Int),let bC:=[an 0 0,an 13 0,ζ γ (↑i.val.fst:Int),V.cF [η wX,η uY,η wS,η wU,ω 1 l,η wV,η (φ γ (jP b_1)),η wW,V6,η (Value.bool b)] 0];ints ν d.x=ints ν b_1/\
 (∀(c:Int),dW c b_1->
 0<=c/\
 c<256)/\
 b_1.length<=100000/\
 (i.val.snd.ok=true->
 At (zb w q d i.val.fst) (bC,[aw [wR,qK,tA,lw,o5,lu,lW,ξ (decide (jP b_1 ≥ 0))],aa,aa,aa,aa,aa,aa,iV,fY,fT,dO,lq,cK,bp]))/\
 (i.val.snd.ok=false->
 At (zb w q d i.val.fst) (bC,[aw [wR,qK,tA,lw,o5,lu,lW,ξ false],aa,aa,aa,aa,aa,aa,iV,fY,fT,dO,lq,cK,bp])))/\
 ((n_2 == 3)=false->
 At (zb w q d i.val.fst) ([an 0 0,an 13 0,ζ γ (↑i.val.fst:Int),V.cF [η wX,η uY,η wS,η wU,ω 1 l,η wV,η (φ γ pD),η wW,V6,η (Value.bool b)] 0],ah)))/\
 ∀(i_1:{x:Ay // EV w d i.val.fst x }),let jV:=(i_1.val.W.cs.length - 0);let cw:=(ae c9 i_1.val.W.cs);let ot:=(ax (0+aV.toNat) (aA (0+jV) cw));let mh:=0+(↑i.val.fst:Int).toNat<=cw.length;let az:=(aA (0+(↑i.val.fst:Int).toNat) cw);let kO:=(0+(ax 0 az).length)*96<=140737488355328;let kN:=(0+(ax 0 az).length+1)*96<=140737488355328;let jq:=0+(ax 0 az).length<=([]++ax 0 az).length;let cf:=(0+(ax 0 az).length+1+ot.length)*96<=140737488355328;True/\
 aM (↑i.val.fst:Int)/\
 0<=(↑i.val.fst:Int).toNat/\
 (↑i.val.fst:Int).toNat<=i_1.val.W.cs.length - 0/\
 ∃(n:Int),i_1.val.e[0]? =some (η (φ γ n))/\
 ∃(oR:Int),i_1.val.e[1]? =some (η (φ γ oR))/\
 ∃(yB:Int),i_1.val.e[2]? =some (η (φ γ yB))/\
 ∃(yA:Int),i_1.val.e[3]? =some (η (φ γ yA))/\
 ∃(l:List (List D)),i_1.val.e[4]? =some (ω 1 l)/\
 ∃(Rj:Int),i_1.val.e[5]? =some (η (φ γ Rj))/\
 ∃(Rk:Int),i_1.val.e[6]? =some (η (φ γ Rk))/\
 ∃(Rl:Int),i_1.val.e[7]? =some (η (φ γ Rl))/\
 ∃(Rm:Int),i_1.val.e[8]? =some (η (φ γ Rm))/\
 ∃(b:Bool),let aJ:=(∃(n:Int),i_1.val.e[0]? =some (η (φ γ n))/\
 ∃(n:Int),i_1.val.e[1]? =some (η (φ γ n))/\
 ∃(n:Int),i_1.val.e[2]? =some (η (φ γ n))/\
 ∃(n:Int),i_1.val.e[3]? =some (η (φ γ n))/\
 ∃(l:List (List D)),i_1.val.e[4]? =some (ω 1 l)/\
 ∃(n:Int),i_1.val.e[5]? =some (η (φ γ n))/\
 ∃(n:Int),i_1.val.e[6]? =some (η (φ γ n))/\
 ∃(n:Int),i_1.val.e[7]? =some (η (φ γ n))/\
 ∃(n:Int),i_1.val.e[8]? =some (η (φ γ n))/\
 ∃(b:Bool),i_1.val.e[9]? =some (η (Value.bool b))/\
 True);let aL:=(aA (0+(ax 0 az).length) ([]++ax 0 az)++[[η (φ γ n),η (φ γ oR),η (φ γ yB),η (φ γ yA),ω 1 l,η (φ γ Rj),η (φ γ Rk),η (φ γ Rl),η (φ γ Rm),η (Value.bool b)]]);let kn:=0+(ax 0 az).length+1<=aL.length;let κ:=Nx (wE w q d) i (zx,[aw [ε 7 0 i_1.val.W.R.length,ε 8 0 i_1.val.W.dk.length,ε 9 0 i_1.val.W.vs.length,ε 10 0 i_1.val.W.ψ.length,ε 11 0 (0+(ax 0 az).length+1+ot.length),ε 12 0 i_1.val.W.aX.length,ζ γ i_1.val.W.now,ξ i_1.val.W.ok],aa,aa,aa,aa,aa,aa,iV,fY,fT,dO,υ 61 10 (aA (0+(ax 0 az).length+1) aL++ax (0+aV.toNat) (aA (0+jV) cw)),cK,aw [Lg,Lh,Li,Lj,aH (ω 1 (ints ν d.o.b)),ζ γ d.e,kP]]);i_1.val.e[9]? =some (η (Value.bool b))/\
 aM aV/\
 True/\
 aV.toNat<=i_1.val.W.cs.length - 0/\
 i_1.val.W.cs.length - 0<=i_1.val.W.cs.length - 0/\
 (True/\
 True/\
 (aJ)/\
 (True/\
 True/\
 mh/\
 0<=0/\
 kO/\
 (aJ)/\
 True/\
 True/\
 1<=1/\
 jq/\
 kN/\
 0+jV<=cw.length/\
 kn/\
 cf/\
 κ)/\
 True/\
 True/\
 True/\
 True/\
 mh/\
 0<=0/\
 kO/\
 True/\
 1<=1/\
 jq/\
 kN/\
 0+jV<=cw.length/\
 kn/\
 cf/\
 κ)/\
 True/\
 True/\
 True/\
 True/\
 True/\
 True/\
 mh/\
 0<=0/\
 kO/\
 True/\
 1<=1/\
 jq/\
 kN/\
 0+jV<=cw.length/\
 kn/\
 cf/\
 κ)))))/\
 (decide (oq)=false->
 K (av []) [bV,aa,aa,aa,aa,aa,aa,iV,fY,fT,dO,lq,cK])
 ):aK Tryz.prog MH (UQ w q d 48) 48 [an 0 0,N7 d] (Vj w q) (fA eW (dx 7 K)):=by apply Eq.mp (a:=ar);kernel_rfl
theorem wA {α:Type} (M:List α) (i:Nat):ax 0 (aA (0+i) M)=M.take i:=by rw[iX,cQ]
theorem ae3 {α:Type} {M:List α} {x:α} {i n:Nat} (hi:i<M.length) (hn:n=M.length):aA (0+(ax 0 (aA (0+i) M)).length+1) (aA (0+(ax 0 (aA (0+i) M)).length) ([]++ax 0 (aA (0+i) M))++[x])++ax (0+(i+1)) (aA (0+(n - 0)) M)=M.set i x:=by
 subst hn
 rw[wA,kV,cQ,cQ,cQ,ju,cZ,cZ,fI (by rw[bo];exact au _),List.set_eq_take_append_cons_drop,if_pos hi,eH]
 rfl
theorem ae1 {α:Type} {M:List α} {i n:Nat} (hi:i<M.length) (hn:n=M.length):0+(ax 0 (aA (0+i) M)).length+1+(ax (0+(i+1)) (aA (0+(n - 0)) M)).length=M.length:=by
 subst hn
 rw[wA,kV,cQ,cQ,cQ,cZ,dc,fZ];omega
theorem vw {w:Wd} {i:Nat} (h:i<w.cs.length):w.cs[i]? =some (da w i):=by
 unfold da;rw[iY,bz h];rfl
theorem KP (w:Wd) (d:Dn) (i:Nat):(de w d i).cs.length=w.cs.length:=by
 simp only[de,bo,cp,dc,fZ];omega
theorem af4 (w:Wd) (d:Dn):de w d 0=w:=by unfold de;simp
theorem af5 (w:Wd) (d:Dn):de w d w.cs.length=fM w d:=by unfold de fM;simp
theorem U7 {w:Wd} {d:Dn} {i:Nat} (h:i<w.cs.length):(de w d i).cs[i]? =some (da w i):=by
 show((w.cs.take i).map (gC w.now d)++w.cs.drop i)[i]? =_
 have e:((w.cs.take i).map (gC w.now d)).length=i:=by rw[cp,dc];omega
 rw[e_ (by omega),e,Nat.sub_self,jE,Nat.add_zero]
 exact vw h
theorem U8 {w:Wd} {d:Dn} {i:Nat} (h:i<w.cs.length):(de w d (i+1)).cs=(de w d i).cs.set i (gC w.now d (da w i))/\(de w d (i+1)).ok=((de w d i).ok && od d (da w i)):=by
 have hc:=vw h
 have e:((w.cs.take i).map (gC w.now d)).length=i:=by rw[cp,dc];omega
 have ht:w.cs.take (i+1)=w.cs.take i++[da w i]:=by rw[j2,hc];rfl
 constructor
 ·show(w.cs.take (i+1)).map (gC w.now d)++w.cs.drop (i+1)=((w.cs.take i).map (gC w.now d)++w.cs.drop i).set i _
  have hd:w.cs.drop i=da w i::w.cs.drop (i+1):=by
   rw[List.drop_eq_getElem_cons h]
   congr 1
   rw[bz h]at hc
   exact bc.inj hc
  rw[List.set_append_right _ _ (by omega),e,Nat.sub_self,hd,List.set_cons_zero,ht,jZ,eH]
  rfl
 ·show(w.ok && (w.cs.take (i+1)).all (od d))=((w.ok && (w.cs.take i).all (od d)) && _)
  rw[ht,List.all_append,Bool.and_assoc];simp
theorem af6 {w:Wd} {d:Dn} {i:Nat} (h:i<w.cs.length) (hh:¬ qe d (da w i)):de w d (i+1)=de w d i:=by
 obtain⟨h1,h2⟩:=U8 (d:=d) h
 have e1:gC w.now d (da w i)=da w i:=if_neg hh
 have e2:od d (da w i)=true:=by unfold od;rw[decide_eq_true_eq];exact fun w=>absurd w.1 hh
 have e3:(de w d (i+1)).cs=(de w d i).cs:=by
  rw[h1,e1]
  have:=U7 (d:=d) h
  apply lB
  intro k
  by_cases e:i=k
  ·subst e;rw[this,iz (by rw[KP];exact h)]
  ·rw[gE e]
 have e4:(de w d (i+1)).ok=(de w d i).ok:=by rw[h2,e2,Bool.and_true]
 have e5:de w d (i+1)={de w d i with cs:=(de w d (i+1)).cs,ok:=(de w d (i+1)).ok }:=rfl
 rw[e5,e3,e4]
theorem afJ:dP Tryz.prog KK:=fun f k h=>by
 unfold KK at h
 split at h
 ·cases h;exact acp
 ·cases h
theorem W6:b9 Tryz.prog MH:=dY mixed afJ aI 10
structure qM (d:Dn):Prop where
 b:bm d.x
 l:d.x.length<=100000
def EP:aD:=fun args kb K=>match args with
 | [an 0 0,.agg [.int γ cl,.int γ nm,.int γ kd,.int γ bk,aH (.sl 1 B),.int γ e,aH (.sl 1 Y)]]=>∃ w q b x,LR kb w q/\B=ints ν b/\Y=ints ν x/\w.cs.length<=1000/\qM ⟨⟨cl,nm,kd,bk,b⟩,e,x⟩/\∀ w',w'=fM w ⟨⟨cl,nm,kd,bk,b⟩,e,x⟩->K (.χ []) (vKo w' q)
 |_=>False
theorem ac3:aR Tryz.prog 48 EP:=oa W6 mixed eW (fun args kb K h=>by
 unfold EP at h;split at h<;>try exact h.elim
 rename_i cl nm kd bk _ e _
 obtain⟨w,q,b,x,⟨rfl⟩,rfl,rfl,hl,hd,h⟩:=h
 generalize hde:(⟨⟨cl,nm,kd,bk,b⟩,e,x⟩:Dn)=d at*
 refine⟨UQ w q d 48,?_⟩
 show aK _ _ _ _ _ _ (fA eW (dx 7 K))
 have hv:(fw [.int γ cl,.int γ nm,.int γ kd,.int γ bk,aH (.sl 1 (ints ν b)),.int γ e,aH (.sl 1 (ints ν x))]:V)=N7 d:=by subst hde;rfl
 rw[hv]
 apply ahL w q d K
 refine⟨At.mk' (⟨(0,w),bt _,(af4 w d).symm⟩:{x:Nat×Wd // x.1<=w.cs.length/\x.2=de w d x.1}) rfl,?_⟩
 rintro⟨⟨i,W⟩,hi,hW⟩
 dsimp only at hi hW ⊢
 subst hW
 have hL:=KP w d i
 have nx:∀(hlt:i<w.cs.length),de w d (i+1)=de w d i->Nx (wE w q d) ⟨(i,de w d i),hi,rfl⟩ ([an 0 0,an 13 0,.int γ (γ.wrap ((i:Int)+1))],[jC 7 (de w d i),aa,aa,aa,aa,aa,aa,ki q,kJ w,kj w,jQ w,la (de w d i),lb w,xR d]):=fun hlt he=>by
  refine Nx.mk' (⟨(i+1,de w d i),hlt,he.symm⟩:{x:Nat×Wd // x.1<=w.cs.length/\x.2=de w d x.1}) ?_ (by show w.cs.length - (i+1)<w.cs.length - i;omega)
  rw[bS (by omega) (by omega)];rfl
 refine⟨fun hc=>?_,fun hc=>?_⟩
 ·have hlt:i<w.cs.length:=by rw[decide_eq_true_eq]at hc;omega
  have ha:=U7 (d:=d) hlt
  have hs:=U8 (d:=d) hlt
  have nn:¬ qe d (da w i)->de w d (i+1)=de w d i:=af6 hlt
  refine⟨by unfold bj;omega,c9 (da w i),by rw[cQ,dD,fH,ha];rfl,_,rfl,_,rfl,_,rfl,_,rfl,_,rfl,_,rfl,_,rfl,_,rfl,_,rfl,_,rfl,?_⟩
  simp only[bne_iff_ne,ne_eq,bne_eq_false_iff_eq,beq_iff_eq,beq_eq_false_iff_ne]
  refine⟨fun h1=>nx hlt (nn fun q=>h1 q.1),fun h1=>⟨fun h2=>nx hlt (nn fun q=>h2 q.2.1),fun h2=>⟨fun h3=>nx hlt (nn fun q=>h3 q.2.2.1),fun h3=>⟨fun h4=>nx hlt (nn fun q=>h4 q.2.2.2),fun h4=>?_⟩⟩⟩⟩
  have hit:qe d (da w i):=⟨h1,h2,h3,h4⟩
  have tY:gC w.now d (da w i)=⟨(da w i).o,if(da w i).o.kd=3 then jP d.x else(da w i).v,(da w i).bg,w.now⟩:=if_pos hit
  have hat:∀(v:Int) (ok:Bool),v=(gC w.now d (da w i)).v->ok=(de w d (i+1)).ok->At (zb w q d i) ([an 0 0,an 13 0,.int γ (i:Int),.cF [dn γ (da w i).o.cl,dn γ (da w i).o.nm,dn γ (da w i).o.kd,dn γ (da w i).o.bk,.sl 1 (ints ν (da w i).o.b),dn γ (da w i).o.kd,dn γ v,dn γ (da w i).bg,dn γ w.now,db false] 0],[jC 7 {de w d i with ok:=ok },aa,aa,aa,aa,aa,aa,ki q,kJ w,kj w,jQ w,la (de w d i),lb w,xR d]):=fun v ok hv ho=>by
   have hcl:[dn γ (da w i).o.cl,dn γ (da w i).o.nm,dn γ (da w i).o.kd,dn γ (da w i).o.bk,.sl 1 (ints ν (da w i).o.b),dn γ (da w i).o.kd,dn γ v,dn γ (da w i).bg,dn γ w.now,db false]=c9 (gC w.now d (da w i)):=by rw[hv,tY];rfl
   refine At.mk' (⟨⟨KQ w d i,_⟩,hlt,hit,rfl,hcl⟩:{x:Ay // EV w d i x}) ?_
   subst ho
   rfl
  refine⟨⟨fun h5=>⟨d.x,rfl,hd.b,hd.l,fun h6=>?_,fun h6=>?_⟩,fun h5=>?_⟩,?_⟩
  ·refine hat (jP d.x) (decide (jP d.x ≥ 0)) (by rw[tY];dsimp only;rw[if_pos h5]) ?_
   rw[hs.2,h6,Bool.true_and]
   unfold od
   apply decide_eq_decide.2
   exact⟨fun h7 _=>h7,fun h7=>h7 ⟨hit,h5⟩⟩
  ·refine hat (jP d.x) false (by rw[tY];dsimp only;rw[if_pos h5]) ?_
   rw[hs.2,h6,Bool.false_and]
  ·refine hat (da w i).v (de w d i).ok (by rw[tY];dsimp only;rw[if_neg h5]) ?_
   rw[hs.2]
   have:od d (da w i)=true:=by unfold od;rw[decide_eq_true_eq];exact fun q=>absurd q.2 h5
   rw[this,Bool.and_true]
  ·rintro⟨⟨W,e⟩,hI⟩
   obtain⟨k1,k2,k3,k4⟩:=hI
   dsimp only at k3 k4 ⊢
   subst k3 k4
   have w1:γ.wrap ((i:Int)+1)=((i+1:Nat):Int):=by rw[bS (by omega) (by omega)];rfl
   have hM:i<((de w d i).cs.map c9).length:=by rw[cp];omega
   have e1:=ae3 (x:=c9 (gC w.now d (da w i))) hM (n:=(de w d i).cs.length) (by rw[cp])
   have e2:=ae1 hM (n:=(de w d i).cs.length) (by rw[cp])
   have e4:((de w d i).cs.map c9).set i (c9 (gC w.now d (da w i)))=(de w d (i+1)).cs.map c9:=by rw[hs.1,List.map_set]
   have e5:(de w d (i+1)).cs.length=w.cs.length:=KP w d (i+1)
   have hN:∀ Y:List D,Y=c9 (gC w.now d (da w i))->Nx (wE w q d) ⟨(i,de w d i),hi,rfl⟩ ([an 0 0,an 13 0,.int γ (γ.wrap ((i:Int)+1))],[aw [.sl 7 0 w.R.length,.sl 8 0 w.dk.length,.sl 9 0 w.vs.length,.sl 10 0 w.ψ.length,.sl 11 0 (0+(ax 0 (aA (0+(i:Int).toNat) ((de w d i).cs.map c9))).length+1+(ax (0+(γ.wrap ((i:Int)+1)).toNat) (aA (0+((de w d i).cs.length - 0)) ((de w d i).cs.map c9))).length),.sl 12 0 w.aX.length,.int γ w.now,ξ (de w d (i+1)).ok],aa,aa,aa,aa,aa,aa,ki q,kJ w,kj w,jQ w,υ 61 10 (aA (0+(ax 0 (aA (0+(i:Int).toNat) ((de w d i).cs.map c9))).length+1) (aA (0+(ax 0 (aA (0+(i:Int).toNat) ((de w d i).cs.map c9))).length) ([]++ax 0 (aA (0+(i:Int).toNat) ((de w d i).cs.map c9)))++[Y])++ax (0+(γ.wrap ((i:Int)+1)).toNat) (aA (0+((de w d i).cs.length - 0)) ((de w d i).cs.map c9))),lb w,xR d]):=fun Y hY=>by
    subst hY
    rw[w1,dD,dD,e1,e2,e4,cp,hL.trans e5.symm]
    exact Nx.mk' (⟨(i+1,de w d (i+1)),hlt,rfl⟩:{x:Nat×Wd // x.1<=w.cs.length/\x.2=de w d x.1}) rfl (by show w.cs.length - (i+1)<w.cs.length - i;omega)
   have l3:(KQ w d i).cs.length=w.cs.length:=hL
   repeat' (first | exact trivial | exact hN _ rfl | refine⟨_,rfl,?_⟩ | apply And.intro)
   all_goals first | exact au _ | exact bt _ | (unfold aM;omega) | omega | (simp only[ju,bo,dc,fZ,iL,gF,ko,cp,w1,dD];omega)
 ·have:i=w.cs.length:=by rw[decide_eq_false_iff_not]at hc;omega
  subst this
  rw[af5]
  exact h _ rfl)
def ι (w:Wd) (i:Nat):θ:=w.R.getD i (newR 0 0 false 0 0 [] [])
def gZ (i:Int) (w:Wd) (p:Post):Wd:=if 0<=p.to/\p.to<4/\w.ψ.length<2000 then{w with ψ:=w.ψ++[⟨i,p.to,p.m⟩] }else w
def iR (R:θ):θ:={R with ch:=false,out:=[],done:=[] }
def jL (w:Wd) (i:Nat):Wd:={w with R:=w.R.set i {ι w i with ch:=false,out:=[] },dk:=if(ι w i).ch then w.dk.set i (fJ (ι w i))else w.dk }
def fK (w:Wd) (i:Nat):Wd:={w with R:=w.R.set i (iR (ι w i)),dk:=if(ι w i).ch then w.dk.set i (fJ (ι w i))else w.dk }
def dr (w:Wd) (i:Nat) (l:List Post):Wd:=l.foldl (gZ i) w
def cU (w:Wd) (i:Nat):Wd:=(ι w i).done.foldl fM (dr (fK w i) i (ι w i).out)
def WM (g:List V->Wd->(V->Wd->Prop)->Prop):aD:=fun args kb K=>match args with
 |an 0 0::rest=>∃ w q A,mn kb w q A/\PW A q w.R/\g rest w (fun r w'=>∀ q' A',PW A' q' w'.R->K r (d_ w' q' A'))
 |_=>False
structure mS where
 k:Nat
 W:Wd
 q:List (Nat×Nat)
 A:List (Sg×KB)
structure kq (m:dI):Prop where
 r:Fm.kp m.kd m.n m.b m.l
 b:Fm.wZ m.b m.l
structure jX (w:Wd) (i:Nat):Prop where
 hi:i<w.R.length
 hd:i<w.dk.length
 r:bu (ι w i)
 e:iK (ι w i).ep
 ol:(ι w i).out.length<=1000
 dl:(ι w i).done.length<=1000
 om:∀ p∈(ι w i).out,kq p.m
 dn:∀ d∈(ι w i).done,qM d
 bl:w.ψ.length<=10000
 cl:w.cs.length<=1000
structure sk (w:Wd) (i:Nat) (x:mS):Prop where
 le:x.k<=(ι w i).out.length
 W:x.W=dr (jL w i) i ((ι w i).out.take x.k)
 p:PW x.A x.q x.W.R
structure zC (w:Wd) (i:Nat) (x:mS):Prop where
 le:x.k<=(ι w i).done.length
 W:x.W=((ι w i).done.take x.k).foldl fM (dr (fK w i) i (ι w i).out)
 p:PW x.A x.q x.W.R
structure PA where
 q:List (Nat×Nat)
 A:List (Sg×KB)
def gy (w:Wd) (i:Nat):Wd:={w with R:=w.R.set i {ι w i with ch:=false },dk:=if(ι w i).ch then w.dk.set i (fJ (ι w i))else w.dk }
abbrev xH (w:Wd) (i:Nat):LI where
 α:={x:PA // PW x.A x.q (gy w i).R}
 live:=[0,1]
 dV:=eW
 st x:=([an 0 0,.int γ (i:Int)],d_ (gy w i) x.1.q x.1.A)
 μ x:=0
abbrev FU (w:Wd) (i k:Nat):LI where
 α:={x:mS // sk w i x/\x.k=k/\k<(ι w i).out.length}
 live:=[0,1,4,5,6]
 dV:=eW
 st x:=([an 0 0,.int γ (i:Int),aH (.sl 5 ((ι w i).out.map bR)),.int γ (x.1.k:Int),aH (.sl 1 (ints ν (mJ (((ι w i).out.getD k ⟨0,⟨0,[],[],[]⟩⟩).m))))],d_ x.1.W x.1.q x.1.A)
 μ x:=0
def X7 (w:Wd) (i k:Nat):Nat->Option LI
 | 1008=>some (FU w i k)
 |_=>none
abbrev xG (w:Wd) (i:Nat):LI where
 α:={x:mS // sk w i x}
 live:=[0,1,4,5]
 dV:=eW
 st x:=([an 0 0,.int γ (i:Int),aH (.sl 5 ((ι w i).out.map bR)),.int γ (x.1.k:Int)],d_ x.1.W x.1.q x.1.A)
 μ x:=(ι w i).out.length - x.1.k
 sub x:=X7 w i x.1.k
abbrev FT (w:Wd) (i:Nat):LI where
 α:={x:mS // zC w i x}
 live:=[0,8,9]
 dV:=eW
 st x:=([an 0 0,aH (.sl 7 ((ι w i).done.map dv)),.int γ (x.1.k:Int)],d_ x.1.W x.1.q x.1.A)
 μ x:=(ι w i).done.length - x.1.k
def Nz (w:Wd) (i:Nat):FuncId->Nat->Option LI
 | 16,1002=>some (xH w i)
 | 16,4=>some (xG w i)
 | 16,12=>some (FT w i)
 |_,_=>none
def ED:aD:=fun args kb K=>match args,kb with
 | [.agg [.int γ k,aH (.sl 1 N),aH (.sl 1 B),aH (.sl 1 L)]],[]=>∃ n b l,N=ints γ n/\B=ints ν b/\L=l.map bB/\kq ⟨k,n,b,l⟩/\K (.χ [aH (.sl 1 (ints ν (mJ ⟨k,n,b,l⟩))),.int γ 0]) []
 |_,_=>False
def FV:FuncId->Option dK
 | 47=>some ⟨[],ED⟩
 | 48=>some ⟨[],EP⟩
 |f=>wo f
noncomputable def Mk:bN:=dU Tryz.prog FV aI 10
theorem agw (w:Wd) (i:Nat) (q:List (Nat×Nat)) (A:List (Sg×KB)) (K:V->KB->Prop) (ar:
 let bp:=(ae dv (ι w i).done);let aL:=ζ γ (↑i:Int);let ah:=(ae bR (ι w i).out);(bj (↑i:Int) (w.R.length - 0)/\
 ∃(e:List D),(ae cd q)[0+(↑i:Int).toNat]? =some e/\
 ∃(v:Value),e[0]? =some (η v)/\
 ∃(l:List (Nat×θ)),∃(i_1:Nat),∃(b:Nat),∃(R:θ),bY A l/\
 l[i_1]? =some (b,R)/\
 η v=η (pv b)/\
 iP []/\
 bu R/\
 ∀(A':List (Sg×KB)),bY A' (l.set i_1 (b,{me:=R.me,id:=R.id,ep:=R.ep,nu:=R.nu,ce:=R.ce,ti:=R.ti,bl:=R.bl,lo:=R.lo,ch:=false,c:=R.c,t:=R.t,v:=R.v,ld:=R.ld,out:=R.out,done:=R.done }))->
 (R.ch=true->
 bj (↑i:Int) (w.R.length - 0)/\
 ∃(e:List D),(ae cd q)[0+(↑i:Int).toNat]? =some e/\
 ∃(v:Value),e[0]? =some (η v)/\
 True/\
 True/\
 ∃(l:List (Nat×θ)),∃(i_2:Nat),∃(b:Nat),∃(R:θ),bY A' l/\
 l[i_2]? =some (b,R)/\
 η v=η (pv b)/\
 iP []/\
 bu R/\
 iK R.ep/\
 ∀(A':List (Sg×KB)),bY A' (l.set i_2 (b,R))->
 bj (↑i:Int) (w.dk.length - 0)/\
 0+(↑i:Int).toNat<(ae bB w.dk).length/\
 At (xH w i) ([an 0 0,aL],[aw [ε 8 0 w.R.length,ε 9 0 w.dk.length,ε 10 0 w.vs.length,ε 11 0 w.ψ.length,ε 12 0 w.cs.length,ε 13 0 w.aX.length,ζ γ w.now,ξ w.ok],aa,aa,aa,aa,aa,aa,cY A',υ 30 1 (ae cd q),υ 23 1 ((ae bB w.dk).set (0+(↑i:Int).toNat) [ω 1 (ints ν (fJ R))]),υ 49 5 (ae c8 w.vs),υ 73 3 (ae cN w.ψ),υ 61 10 (ae c9 w.cs),υ 3 1 (ints γ w.aX)]))/\
 (R.ch=false->
 At (xH w i) ([an 0 0,aL],[aw [ε 8 0 w.R.length,ε 9 0 w.dk.length,ε 10 0 w.vs.length,ε 11 0 w.ψ.length,ε 12 0 w.cs.length,ε 13 0 w.aX.length,ζ γ w.now,ξ w.ok],aa,aa,aa,aa,aa,aa,cY A',υ 30 1 (ae cd q),υ 23 1 (ae bB w.dk),υ 49 5 (ae c8 w.vs),υ 73 3 (ae cN w.ψ),υ 61 10 (ae c9 w.cs),υ 3 1 (ints γ w.aX)])))/\
 ∀(i_1:{x:PA // PW x.A x.q (gy w i).R }),bj (↑i:Int) ((gy w i).R.length - 0)/\
 ∃(e:List D),(ae cd i_1.val.q)[0+(↑i:Int).toNat]? =some e/\
 ∃(v:Value),e[0]? =some (η v)/\
 ∃(l:List (Nat×θ)),∃(i_2:Nat),∃(b:Nat),∃(R:θ),bY i_1.val.A l/\
 l[i_2]? =some (b,R)/\
 η v=η (pv b)/\
 iP []/\
 bu R/\
 ∀(A':List (Sg×KB)),bY A' (l.set i_2 (b,{me:=R.me,id:=R.id,ep:=R.ep,nu:=R.nu,ce:=R.ce,ti:=R.ti,bl:=R.bl,lo:=R.lo,ch:=R.ch,c:=R.c,t:=R.t,v:=R.v,ld:=R.ld,out:=[],done:=R.done }))->
 At (xG w i) ([an 0 0,aL,aH (ω 5 (ae bR R.out)),ζ γ 0],[aw [ε 8 0 (gy w i).R.length,ε 9 0 (gy w i).dk.length,ε 10 0 (gy w i).vs.length,ε 11 0 (gy w i).ψ.length,ε 12 0 (gy w i).cs.length,ε 13 0 (gy w i).aX.length,ζ γ (gy w i).now,ξ (gy w i).ok],aa,aa,aa,aa,aa,aa,cY A',υ 30 1 (ae cd i_1.val.q),υ 23 1 (ae bB (gy w i).dk),υ 49 5 (ae c8 (gy w i).vs),υ 73 3 (ae cN (gy w i).ψ),υ 61 10 (ae c9 (gy w i).cs),υ 3 1 (ints γ (gy w i).aX)])/\
 ∀(fm:{x:mS // sk w i x }),let kn:=(↑fm.val.k:Int)<(↑ah.length:Int);let jq:=ε 9 0 fm.val.W.dk.length;let iV:=ε 12 0 fm.val.W.cs.length;let fT:=ε 10 0 fm.val.W.vs.length;let fY:=ε 11 0 fm.val.W.ψ.length;let dO:=ζ γ fm.val.W.now;let cK:=ε 13 0 fm.val.W.aX.length;let bW:=υ 30 1 (ae cd fm.val.q);let cw:=υ 49 5 (ae c8 fm.val.W.vs);let bV:=υ 23 1 (ae bB fm.val.W.dk);let cf:=υ 61 10 (ae c9 fm.val.W.cs);let bC:=υ 73 3 (ae cN fm.val.W.ψ);let aV:=υ 3 1 (ints γ fm.val.W.aX);(decide (kn)=true->
 aM (↑fm.val.k:Int)/\
 ∃(e:List D),ah[(↑fm.val.k:Int).toNat]? =some e/\
 ∃(n:Int),e[1]? =some (η (φ γ n))/\
 ∃(l:List (List D)),e[2]? =some (ω 1 l)/\
 ∃(l_1:List (List D)),e[3]? =some (ω 1 l_1)/\
 ∃(l_2:List (List D)),e[4]? =some (ω 1 l_2)/\
 ∃(n_1:List Int),∃(b:List Int),∃(jy:List (List Int)),let az:=[an 0 0,aL,aH (ω 5 ah),ζ γ (↑fm.val.k:Int),aH (ω 1 (ints ν (mJ {kd:=n,n:=n_1,b:=b,l:=jy })))];l=ints γ n_1/\
 l_1=ints ν b/\
 l_2=ae bB jy/\
 kq {kd:=n,n:=n_1,b:=b,l:=jy }/\
 ((fm.val.W.ok=true->
 At (FU w i fm.val.k) (az,[aw [ε 8 0 fm.val.W.R.length,jq,fT,fY,iV,cK,dO,ξ true],aa,aa,aa,aa,aa,aa,cY fm.val.A,bW,bV,cw,bC,cf,aV]))/\
 (fm.val.W.ok=false->
 At (FU w i fm.val.k) (az,[aw [ε 8 0 fm.val.W.R.length,jq,fT,fY,iV,cK,dO,ξ false],aa,aa,aa,aa,aa,aa,cY fm.val.A,bW,bV,cw,bC,cf,aV])))/\
 ∀(eC:{x:mS // sk w i x/\
 x.k=fm.val.k/\
 fm.val.k<(ι w i).out.length }),let o5:=υ 49 5 (ae c8 eC.val.W.vs);let lw:=υ 23 1 (ae bB eC.val.W.dk);let mh:=υ 61 10 (ae c9 eC.val.W.cs);let kO:=(↑(eC.val.W.ψ.length - 0):Int)<2000;let jV:=υ 3 1 (ints γ eC.val.W.aX);let lq:=(ae cN eC.val.W.ψ);let aJ:=[an 0 0,aL,aH (ω 5 ah),ζ γ (γ.wrap ((↑eC.val.k:Int)+1))];let κ:=Nx (xG w i) fm (aJ,[aw [ε 8 0 eC.val.W.R.length,ε 9 0 eC.val.W.dk.length,ε 10 0 eC.val.W.vs.length,ε 11 0 eC.val.W.ψ.length,ε 12 0 eC.val.W.cs.length,ε 13 0 eC.val.W.aX.length,ζ γ eC.val.W.now,ξ eC.val.W.ok],aa,aa,aa,aa,aa,aa,cY eC.val.A,υ 30 1 (ae cd eC.val.q),lw,o5,υ 73 3 lq,mh,jV]);aM (↑eC.val.k:Int)/\
 ∃(e:List D),ah[(↑eC.val.k:Int).toNat]? =some e/\
 ∃(n:Int),e[0]? =some (η (φ γ n))/\
 (decide (n ≥ 0)=true->
 aM (↑eC.val.k:Int)/\
 ∃(e:List D),ah[(↑eC.val.k:Int).toNat]? =some e/\
 ∃(n:Int),e[0]? =some (η (φ γ n))/\
 (decide (n<4)=true->
 (decide (kO)=true->
 aM (↑eC.val.k:Int)/\
 ∃(e:List D),ah[(↑eC.val.k:Int).toNat]? =some e/\
 ∃(n:Int),e[0]? =some (η (φ γ n))/\
 True/\
 1<=1/\
 eC.val.W.ψ.length<=lq.length/\
 (eC.val.W.ψ.length+1)*40<=140737488355328/\
 Nx (xG w i) fm (aJ,[aw [ε 8 0 eC.val.W.R.length,ε 9 0 eC.val.W.dk.length,ε 10 0 eC.val.W.vs.length,ε 11 0 (eC.val.W.ψ.length+1),ε 12 0 eC.val.W.cs.length,ε 13 0 eC.val.W.aX.length,ζ γ eC.val.W.now,ξ eC.val.W.ok],aa,aa,aa,aa,aa,aa,cY eC.val.A,υ 30 1 (ae cd eC.val.q),lw,o5,υ 73 3 (aA eC.val.W.ψ.length lq++[[η (φ γ (↑i:Int)),η (φ γ n),ω 1 (ints ν (mJ ((ι w i).out.getD fm.val.k {to:=0,m:={kd:=0,n:=[],b:=[],l:=[] } }).m))]]),mh,jV]))/\
 (decide (kO)=false->
 κ))/\
 (decide (n<4)=false->
 κ))/\
 (decide (n ≥ 0)=false->
 κ))/\
 (decide (kn)=false->
 bj (↑i:Int) (fm.val.W.R.length - 0)/\
 ∃(e:List D),(ae cd fm.val.q)[0+(↑i:Int).toNat]? =some e/\
 ∃(v:Value),e[0]? =some (η v)/\
 ∃(l:List (Nat×θ)),∃(eC:Nat),∃(b:Nat),∃(R:θ),bY fm.val.A l/\
 l[eC]? =some (b,R)/\
 η v=η (pv b)/\
 iP []/\
 bu R/\
 ∀(A':List (Sg×KB)),bY A' (l.set eC (b,{me:=R.me,id:=R.id,ep:=R.ep,nu:=R.nu,ce:=R.ce,ti:=R.ti,bl:=R.bl,lo:=R.lo,ch:=R.ch,c:=R.c,t:=R.t,v:=R.v,ld:=R.ld,out:=R.out,done:=[] }))->
 At (FT w i) ([an 0 0,aH (ω 7 (ae dv R.done)),ζ γ 0],[aw [ε 8 0 fm.val.W.R.length,jq,fT,fY,iV,cK,dO,ξ fm.val.W.ok],aa,aa,aa,aa,aa,aa,cY A',bW,bV,cw,bC,cf,aV])/\
 ∀(fV:{x:mS // zC w i x }),let ot:=υ 49 5 (ae c8 fV.val.W.vs);let oq:=υ 23 1 (ae bB fV.val.W.dk);let lW:=υ 61 10 (ae c9 fV.val.W.cs);let lu:=υ 73 3 (ae cN fV.val.W.ψ);let kP:=(↑fV.val.k:Int)<(↑bp.length:Int);let kN:=υ 3 1 (ints γ fV.val.W.aX);(decide (kP)=true->
 aM (↑fV.val.k:Int)/\
 ∃(e:List D),bp[(↑fV.val.k:Int).toNat]? =some e/\
 ∃(n:Int),e[0]? =some (η (φ γ n))/\
 ∃(n_1:Int),e[1]? =some (η (φ γ n_1))/\
 ∃(n_2:Int),e[2]? =some (η (φ γ n_2))/\
 ∃(lO:Int),e[3]? =some (η (φ γ lO))/\
 ∃(l:List (List D)),e[4]? =some (ω 1 l)/\
 ∃(mc:Int),e[5]? =some (η (φ γ mc))/\
 ∃(l_1:List (List D)),e[6]? =some (ω 1 l_1)/\
 ∃(w_1:Wd),∃(q:List (Nat×Nat)),∃(b:List Int),∃(x:List Int),LR [aw [ε 1 0 fV.val.W.R.length,ε 2 0 fV.val.W.dk.length,ε 3 0 fV.val.W.vs.length,ε 4 0 fV.val.W.ψ.length,ε 5 0 fV.val.W.cs.length,ε 6 0 fV.val.W.aX.length,ζ γ fV.val.W.now,ξ fV.val.W.ok],υ 30 1 (ae cd fV.val.q),oq,ot,lu,lW,kN] w_1 q/\
 l=ints ν b/\
 l_1=ints ν x/\
 w_1.cs.length<=1000/\
 qM {o:={cl:=n,nm:=n_1,kd:=n_2,bk:=lO,b:=b },e:=mc,x:=x }/\
 ∀(w':Wd),w'=fM w_1 {o:={cl:=n,nm:=n_1,kd:=n_2,bk:=lO,b:=b },e:=mc,x:=x }->
 Nx (FT w i) fV ([an 0 0,aH (ω 7 bp),ζ γ (γ.wrap ((↑fV.val.k:Int)+1))],[aw [ε 8 0 w'.R.length,ε 9 0 w'.dk.length,ε 10 0 w'.vs.length,ε 11 0 w'.ψ.length,ε 12 0 w'.cs.length,ε 13 0 w'.aX.length,ζ γ w'.now,ξ w'.ok],aa,aa,aa,aa,aa,aa,cY fV.val.A,υ 30 1 (ae cd q),υ 23 1 (ae bB w'.dk),υ 49 5 (ae c8 w'.vs),υ 73 3 (ae cN w'.ψ),υ 61 10 (ae c9 w'.cs),υ 3 1 (ints γ w'.aX)]))/\
 (decide (kP)=false->
 K (av []) [aw [ε 8 0 fV.val.W.R.length,ε 9 0 fV.val.W.dk.length,ε 10 0 fV.val.W.vs.length,ε 11 0 fV.val.W.ψ.length,ε 12 0 fV.val.W.cs.length,ε 13 0 fV.val.W.aX.length,ζ γ fV.val.W.now,ξ fV.val.W.ok],aa,aa,aa,aa,aa,aa,cY fV.val.A,υ 30 1 (ae cd fV.val.q),oq,ot,lu,lW,kN]))
 ):aK Tryz.prog Mk (Nz w i 16) 16 [an 0 0,.int γ (i:Int)] (gl w q A) (fA eW (dx 8 K)):=by apply Eq.mp (a:=ar);kernel_rfl
theorem CU.lt {l:List (Nat×θ)} {q:List (Nat×Nat)} {R:List θ} (h:CU l q R) {i:Nat} (hi:i<R.length):∃ p,q[i]? =some p:=⟨_,bz (by rw[h.len];exact hi)⟩
theorem PW.get {A:List (Sg×KB)} {q:List (Nat×Nat)} {R:List θ} (h:PW A q R) {i:Nat} {r:θ} (hi:R[i]? =some r):∃ l k b,q[i]? =some (k,b)/\bY A l/\l[k]? =some (b,r)/\∀(r':θ) A',bY A' (l.set k (b,r'))->PW A' q (R.set i r'):=by
 obtain⟨l,hp,hc⟩:=h.h
 obtain⟨⟨k,b⟩,hq⟩:=hc.lt (bO.1 hi).1
 obtain⟨r2,h1,h2⟩:=hc.a i _ hq
 rw[hi]at h1;cases h1
 refine⟨l,k,b,hq,hp,h2,fun r' A' hA=>⟨_,hA,by rw[iA];exact hc.len,fun j p hj=>?_,hc.nd⟩⟩
 by_cases e:i=j
 ·subst e
  rw[hq]at hj;cases hj
  refine⟨r',iz (bO.1 hi).1,iz (bO.1 h2).1⟩
 ·obtain⟨r3,h3,h4⟩:=hc.a j p hj
  refine⟨r3,by rw[gE e];exact h3,?_⟩
  rw[gE]
  ·exact h4
  ·intro e2
   have n1:(q.map (·.1))[i]? =some k:=by rw[fH,hq];rfl
   have n2:(q.map (·.1))[j]? =some k:=by rw[fH,hj,e2];rfl
   have h5:=(bO.1 n1)
   have h6:=(bO.1 n2)
   exact e ((List.getElem_inj (h₀:=h5.1) (h₁:=h6.1) hc.nd).1 (h5.2.trans h6.2.symm))
theorem qx {w:Wd} {i:Nat} (h:i<w.R.length):w.R[i]? =some (ι w i):=by
 unfold ι;rw[iY,bz h];rfl
theorem TQ (i:Int) (w:Wd) (p:Post):(gZ i w p).R=w.R/\(gZ i w p).dk=w.dk/\(gZ i w p).vs=w.vs/\(gZ i w p).cs=w.cs/\(gZ i w p).aX=w.aX/\(gZ i w p).now=w.now/\(gZ i w p).ok=w.ok/\(gZ i w p).ψ.length<=max 2000 w.ψ.length:=by
 unfold gZ;split
 ·refine⟨rfl,rfl,rfl,rfl,rfl,rfl,rfl,?_⟩
  simp only[bo,iL];omega
 ·exact⟨rfl,rfl,rfl,rfl,rfl,rfl,rfl,by omega⟩
theorem oV (i:Nat):∀(l:List Post) (w:Wd),(dr w i l).R=w.R/\(dr w i l).dk=w.dk/\(dr w i l).vs=w.vs/\(dr w i l).cs=w.cs/\(dr w i l).aX=w.aX/\(dr w i l).now=w.now/\(dr w i l).ok=w.ok/\(dr w i l).ψ.length<=max 2000 w.ψ.length
 | [],w=>⟨rfl,rfl,rfl,rfl,rfl,rfl,rfl,by show w.ψ.length<=_;omega⟩
 |p::l,w=>by
  obtain⟨a1,a2,a3,a4,a5,a6,a7,a8⟩:=TQ i w p
  obtain⟨b1,b2,b3,b4,b5,b6,b7,b8⟩:=oV i l (gZ i w p)
  exact⟨b1.trans a1,b2.trans a2,b3.trans a3,b4.trans a4,b5.trans a5,b6.trans a6,b7.trans a7,by show(dr (gZ i w p) i l).ψ.length<=_;omega⟩
theorem TR (i:Nat) (R:List θ):∀(l:List Post) (w:Wd),dr {w with R:=R } i l={dr w i l with R:=R }
 | [],w=>rfl
 |p::l,w=>by
  have:gZ i {w with R:=R } p={gZ i w p with R:=R }:=by unfold gZ;dsimp only;split<;>rfl
  show dr (gZ i {w with R:=R } p) i l=_
  rw[this,TR i R l];rfl
theorem af7 (w:Wd) (d:Dn):(fM w d).R=w.R/\(fM w d).cs.length=w.cs.length:=⟨rfl,by show(w.cs.map _).length=_;rw[cp]⟩
theorem uH:∀(l:List Dn) (w:Wd),(l.foldl fM w).R=w.R/\(l.foldl fM w).cs.length=w.cs.length
 | [],w=>⟨rfl,rfl⟩
 |d::l,w=>⟨(uH l (fM w d)).1,(uH l (fM w d)).2.trans (af7 w d).2⟩
theorem acK:aR Tryz.prog 47 ED:=fun args kb K hs=>Fm.acI args kb K (by
 unfold ED at hs;split at hs<;>try exact hs.elim
 obtain⟨n,b,l,rfl,rfl,rfl,hr,h⟩:=hs
 have BQ:Fm.kp _ n b l:=hr.r
 exact⟨n,b,l,rfl,rfl,rfl,⟨by have:=BQ.nl;simp only[maxLen];omega,by have:=BQ.bl;simp only[maxLen];omega,by have:=BQ.ll;simp only[maxLen];omega,fun t ht=>by have:=BQ.ts t ht;simp only[maxLen];omega⟩,hr.b,fun _=>h,fun hn=>absurd hr.r hn⟩)
theorem X6:dP Tryz.prog FV:=fun f k h=>by
 unfold FV at h
 split at h
 ·cases h;exact acK
 ·cases h;exact ac3
 ·exact C3 _ _ h
theorem WC:b9 Tryz.prog Mk:=dY mixed X6 aI 10
def D4:List V->Wd->(V->Wd->Prop)->Prop:=fun rest w k=>∃ i:Nat,rest=[.int γ (i:Int)]/\jX w i/\∀ w',w'=cU w i->k (.χ []) w'
theorem pL {q:List (Nat×Nat)} {i k b:Nat} (h:q[i]? =some (k,b)):(q.map cd)[0+(i:Int).toNat]? =some [η (pv b)]:=by rw[cQ,dD,fH,h];rfl
theorem DL {W:Wd} {R':List θ} (h:R'.length=W.R.length) (q:List (Nat×Nat)) (A:List (Sg×KB)):d_ W q A=d_ {W with R:=R' } q A:=by
 show[aw [.sl 8 0 W.R.length,_,_,_,_,_,_,_],_,_,_,_,_,_,_,_,_,_,_,_,_]=[aw [.sl 8 0 R'.length,_,_,_,_,_,_,_],_,_,_,_,_,_,_,_,_,_,_,_,_]
 rw[h]
theorem aeR {W:Wd} {i:Nat} {x:Post} (h:0<=x.to/\x.to<4/\W.ψ.length<2000) (q:List (Nat×Nat)) (A:List (Sg×KB)):d_ (gZ i W x) q A=[aw [.sl 8 0 W.R.length,.sl 9 0 W.dk.length,.sl 10 0 W.vs.length,.sl 11 0 (W.ψ.length+1),.sl 12 0 W.cs.length,.sl 13 0 W.aX.length,.int γ W.now,ξ W.ok],aa,aa,aa,aa,aa,aa,cY A,ki q,kJ W,kj W,υ 73 3 (aA W.ψ.length (W.ψ.map cN)++[[.val (.int γ (i:Int)),.val (.int γ x.to),.sl 1 (ints ν (mJ x.m))]]),la W,lb W]:=by
 have hy:gZ i W x={W with ψ:=W.ψ++[⟨i,x.to,x.m⟩] }:=if_pos h
 have eb:(W.ψ++[(⟨i,x.to,x.m⟩:fU)]).length=W.ψ.length+1:=by rw[bo];rfl
 have er:(W.ψ++[(⟨i,x.to,x.m⟩:fU)]).map cN=aA W.ψ.length (W.ψ.map cN)++[[η (.int γ (i:Int)),η (.int γ x.to),.sl 1 (ints ν (mJ x.m))]]:=by
  rw[jZ,fI (by rw[cp];exact au _)];rfl
 rw[hy]
 unfold d_ jC jQ
 dsimp only
 rw[eb,er]
theorem RZ:aR Tryz.prog 16 (WM D4):=oa WC mixed eW (fun args kb K h=>by
 unfold WM at h;split at h<;>try exact h.elim
 obtain⟨w,q,A,⟨rfl⟩,hp,i,rfl,hc,h⟩:=h
 refine⟨Nz w i 16,?_⟩
 show aK _ _ _ _ _ _ (fA eW (dx 8 K))
 apply agw w i q A K
 have fP:=qx hc.hi
 have hi:=hc.hi
 have hd:=hc.hd
 obtain⟨l,k,b,hq,hA,hl,dR⟩:=hp.get fP
 rw[kV]
 have cut:∀ A',PW A' q (gy w i).R->(ι w i).ch=true->At (xH w i) ([an 0 0,.int γ (i:Int)],[jC 8 w,aa,aa,aa,aa,aa,aa,cY A',ki q,υ 23 1 ((w.dk.map bB).set (0+(i:Int).toNat) [.sl 1 (ints ν (fJ (ι w i)))]),kj w,jQ w,la w,lb w]):=fun A' p h1=>by
  refine At.mk' (⟨⟨q,A'⟩,p⟩:{x:PA // PW x.A x.q (gy w i).R}) ?_
  have e:gy w i={w with R:=w.R.set i {ι w i with ch:=false },dk:=w.dk.set i (fJ (ι w i)) }:=by unfold gy;rw[if_pos h1]
  show(_,_)=(_,d_ (gy w i) q A')
  rw[e,cQ,dD]
  show(_,_)=([an 0 0,.int γ (i:Int)],[aw [.sl 8 0 (w.R.set i _).length,.sl 9 0 (w.dk.set i _).length,_,_,_,_,_,_],_,_,_,_,_,_,_,_,υ _ _ (ae bB (w.dk.set i _)),_,_,_,_])
  rw[iA,iA,List.map_set];rfl
 have NM:∀ A',PW A' q (gy w i).R->(ι w i).ch=false->At (xH w i) ([an 0 0,.int γ (i:Int)],d_ w q A'):=fun A' p h1=>by
  refine At.mk' (⟨⟨q,A'⟩,p⟩:{x:PA // PW x.A x.q (gy w i).R}) ?_
  have e:gy w i={w with R:=w.R.set i {ι w i with ch:=false } }:=by unfold gy;rw[if_neg (by rw[h1];exact Bool.false_ne_true)]
  show(_,_)=(_,d_ (gy w i) q A')
  rw[e,DL (W:=w) (R':=w.R.set i {ι w i with ch:=false }) (by rw[iA])]
 have hin:bj (i:Int) w.R.length:=by unfold bj;omega
 refine⟨⟨hin,_,pL hq,_,rfl,l,k,b,_,hA,hl,rfl,⟨rfl⟩,hc.r,fun A1 p1=>⟨fun c1=>?_,fun c1=>?_⟩⟩,?_⟩
 ·have P1:=dR _ _ p1
  obtain⟨l2,k2,b2,rp,Zx,hl2,aaw⟩:=P1.get (i:=i) (r:={ι w i with ch:=false }) (iz hi)
  rw[hq]at rp;cases rp
  refine⟨hin,_,pL hq,_,rfl,trivial,trivial,l2,k,b,_,Zx,hl2,rfl,⟨rfl⟩,AR hc.r false,hc.e,fun A2 p2=>⟨by unfold bj;omega,by rw[cp];omega,?_⟩⟩
  have P2:=aaw _ _ p2
  rw[List.set_set]at P2
  exact cut A2 P2 c1
 ·exact NM A1 (dR _ _ p1) c1
 clear cut NM dR hl hA l
 rintro⟨⟨q1,A1⟩,P1⟩
 dsimp only at P1 ⊢
 have kl:(gy w i).R.length=w.R.length:=by show(w.R.set i _).length=_;rw[iA]
 obtain⟨l,k,b,hq,hA,hl,dR⟩:=P1.get (i:=i) (r:={ι w i with ch:=false }) (iz hi)
 refine⟨by rw[kl,kV];exact hin,_,pL hq,_,rfl,l,k,b,_,hA,hl,rfl,⟨rfl⟩,AR hc.r false,fun A2 p2=>⟨?_,?_⟩⟩
 ·have P2:=dR _ _ p2
  have e:(gy w i).R.set i {ι w i with ch:=false,out:=[] }=(jL w i).R:=by show(w.R.set i _).set i _=_;rw[List.set_set];rfl
  refine At.mk' (⟨⟨0,jL w i,q1,A2⟩,bt _,rfl,by rw[<- e];exact P2⟩:{x:mS // sk w i x}) ?_
  show(_,d_ (gy w i) q1 A2)=(_,d_ (jL w i) q1 A2)
  rw[DL (W:=gy w i) (R':=(jL w i).R) (by rw[<- e,iA])]
  rfl
 clear p2 A2 dR hl hA l hq k b P1 A1 q1 kl
 rintro⟨⟨k,W,q1,A1⟩,hle,hW,P1⟩
 dsimp only at hle hW P1 ⊢
 subst hW
 obtain⟨s1,s2,s3,s4,s5,s6,s7,s8⟩:=oV i ((ι w i).out.take k) (jL w i)
 have e3:(jL w i).R.length=w.R.length:=by show(w.R.set i _).length=_;rw[iA]
 have ol:=hc.ol
 refine⟨fun hlt=>?_,fun hge=>?_⟩
 ·have hlt:k<(ι w i).out.length:=by rw[decide_eq_true_eq,cp]at hlt;omega
  have hg:=bz hlt
  have hgd:(ι w i).out.getD k ⟨0,⟨0,[],[],[]⟩⟩=(ι w i).out[k]:=by rw[iY,hg];rfl
  have H2:(ι w i).out.take (k+1)=(ι w i).out.take k++[(ι w i).out[k]]:=by rw[j2,hg];rfl
  have hmem:(ι w i).out[k]∈(ι w i).out:=List.getElem_mem hlt
  generalize (ι w i).out[k]=x at*
  refine⟨by unfold aM;omega,bR x,by rw[dD,fH,hg];rfl,x.m.kd,rfl,_,rfl,_,rfl,_,rfl,x.m.n,x.m.b,x.m.l,rfl,rfl,rfl,hc.om x hmem,⟨fun h1=>?_,fun h1=>?_⟩,?_⟩
  ·refine At.mk' (⟨⟨k,dr (jL w i) i ((ι w i).out.take k),q1,A1⟩,⟨hle,rfl,P1⟩,rfl,hlt⟩:{x:mS // sk w i x/\x.k=k/\k<(ι w i).out.length}) ?_
   show(_,_)=([_,_,_,_,aH (.sl 1 (ints ν (mJ ((ι w i).out.getD k ⟨0,⟨0,[],[],[]⟩⟩).m)))],d_ (dr (jL w i) i ((ι w i).out.take k)) q1 A1)
   rw[hgd,<- h1]
  ·refine At.mk' (⟨⟨k,dr (jL w i) i ((ι w i).out.take k),q1,A1⟩,⟨hle,rfl,P1⟩,rfl,hlt⟩:{x:mS // sk w i x/\x.k=k/\k<(ι w i).out.length}) ?_
   show(_,_)=([_,_,_,_,aH (.sl 1 (ints ν (mJ ((ι w i).out.getD k ⟨0,⟨0,[],[],[]⟩⟩).m)))],d_ (dr (jL w i) i ((ι w i).out.take k)) q1 A1)
   rw[hgd,<- h1]
  rintro⟨⟨k2,W,q2,A2⟩,⟨_,hW,P2⟩,hk,_⟩
  dsimp only at hk hW P2 ⊢
  subst hk hW
  have w1:γ.wrap ((k2:Int)+1)=((k2+1:Nat):Int):=by rw[bS (by omega) (by omega)];rfl
  have hS:dr (jL w i) i ((ι w i).out.take (k2+1))=gZ i (dr (jL w i) i ((ι w i).out.take k2)) x:=by unfold dr;rw[H2,List.foldl_append];rfl
  have nx:∀ W':Wd,W'=gZ i (dr (jL w i) i ((ι w i).out.take k2)) x->Nx (xG w i) ⟨⟨k2,dr (jL w i) i ((ι w i).out.take k2),q1,A1⟩,hle,rfl,P1⟩ ([an 0 0,.int γ (i:Int),aH (.sl 5 ((ι w i).out.map bR)),.int γ (γ.wrap ((k2:Int)+1))],d_ W' q2 A2):=fun W' BB=>by
   refine Nx.mk' (⟨⟨k2+1,W',q2,A2⟩,⟨hlt,BB.trans hS.symm,by rw[BB,(TQ i _ x).1];exact P2⟩⟩:{x:mS // sk w i x}) ?_ (by show(ι w i).out.length - (k2+1)<(ι w i).out.length - k2;omega)
   rw[w1]
  have no:∀ W:Wd,¬ (0<=x.to/\x.to<4/\W.ψ.length<2000)->gZ i W x=W:=fun W h=>if_neg h
  have hge:((ι w i).out.map bR)[(k2:Int).toNat]? =some (bR x):=by rw[dD,fH,hg];rfl
  have kA:aM (k2:Int):=by unfold aM;omega
  have cj:=hc.bl
  refine⟨kA,bR x,hge,x.to,rfl,fun t1=>⟨kA,bR x,hge,x.to,rfl,fun t2=>⟨fun t3=>?_,fun t3=>?_⟩,fun t2=>?_⟩,fun t1=>?_⟩
  ·rw[decide_eq_true_eq]at t1 t2 t3
   refine⟨kA,bR x,hge,x.to,rfl,trivial,au _,by rw[cp];exact au _,by omega,?_⟩
   have:=nx _ rfl
   rw[aeR ⟨t1,t2,by omega⟩]at this
   rw[hgd]
   exact this
  ·rw[decide_eq_false_iff_not]at t3
   exact nx _ (no _ fun q=>t3 (by omega)).symm
  ·rw[decide_eq_false_iff_not]at t2
   exact nx _ (no _ fun q=>t2 q.2.1).symm
  ·rw[decide_eq_false_iff_not]at t1
   exact nx _ (no _ fun q=>t1 q.1).symm
 ·have hk:k=(ι w i).out.length:=by rw[decide_eq_false_iff_not,cp]at hge;omega
  subst hk
  rw[cZ]at*
  have hR:(dr (jL w i) i (ι w i).out).R[i]? =some {ι w i with ch:=false,out:=[] }:=by rw[s1];exact iz hi
  obtain⟨l,k,b,hq,hA,hl,dR⟩:=P1.get hR
  refine⟨by rw[s1,e3,kV];exact hin,_,pL hq,_,rfl,l,k,b,_,hA,hl,rfl,⟨rfl⟩,SP (AR hc.r false),fun A2 p2=>⟨?_,?_⟩⟩
  ·have P2:=dR _ _ p2
   have e:(dr (jL w i) i (ι w i).out).R.set i (iR (ι w i))=(fK w i).R:=by rw[s1];show(w.R.set i _).set i _=_;rw[List.set_set];rfl
   have e2:dr (fK w i) i (ι w i).out={dr (jL w i) i (ι w i).out with R:=(fK w i).R }:=TR i (fK w i).R (ι w i).out (jL w i)
   refine At.mk' (⟨⟨0,{dr (jL w i) i (ι w i).out with R:=(fK w i).R },q1,A2⟩,bt _,e2.symm,by rw[<- e];exact P2⟩:{x:mS // zC w i x}) ?_
   show(_,d_ _ q1 A2)=(_,d_ {dr (jL w i) i (ι w i).out with R:=(fK w i).R } q1 A2)
   rw[<- DL (R':=(fK w i).R) (by rw[<- e,iA])]
   rfl
  rintro⟨⟨k,W,q2,A2⟩,hle2,hW,P2⟩
  dsimp only at hle2 hW P2 ⊢
  have dl:=hc.dl
  obtain⟨t1,t2,t3,t4,_⟩:=oV i (ι w i).out (fK w i)
  have f1:=uH ((ι w i).done.take k) (dr (fK w i) i (ι w i).out)
  rw[<- hW,t4]at f1
  refine⟨fun hlt=>?_,fun hge=>?_⟩
  ·have hlt:k<(ι w i).done.length:=by rw[decide_eq_true_eq,cp]at hlt;omega
   have hg:=bz hlt
   have H2:(ι w i).done.take (k+1)=(ι w i).done.take k++[(ι w i).done[k]]:=by rw[j2,hg];rfl
   have hmem:(ι w i).done[k]∈(ι w i).done:=List.getElem_mem hlt
   generalize (ι w i).done[k]=d at*
   refine⟨by unfold aM;omega,dv d,by rw[dD,fH,hg];rfl,d.o.cl,rfl,d.o.nm,rfl,d.o.kd,rfl,d.o.bk,rfl,_,rfl,d.e,rfl,_,rfl,W,q2,d.o.b,d.x,⟨rfl⟩,rfl,rfl,by rw[f1.2];exact hc.cl,hc.dn d hmem,fun w' hw'=>?_⟩
   refine Nx.mk' (⟨⟨k+1,w',q2,A2⟩,⟨hlt,by rw[hw',H2,List.foldl_append,<- hW];rfl,by rw[hw'];exact P2⟩⟩:{x:mS // zC w i x}) ?_ (by show(ι w i).done.length - (k+1)<(ι w i).done.length - k;omega)
   rw[bS (by omega) (by omega)]
   rfl
  ·have hk:k=(ι w i).done.length:=by rw[decide_eq_false_iff_not,cp]at hge;omega
   subst hk
   rw[cZ]at hW
   exact h W hW q2 A2 P2)
structure RW (T:Int) (R:θ):Prop where
 i:bu R
 id:R.id=5
 e0:0<=R.ep
 e1:R.ep<=T
 n1:R.nu<=T
 vl:R.v.mem.length+R.v.aC.length<=1000
 t0:0<=R.ti
 t1:R.ti<=T
 om:∀ p∈R.out,kq p.m/\bi p.m 1<=T/\bi p.m 2<=T
 dn:∀ d∈R.done,qM d
 cu:∀ o,b_ R=some o->o.b.length<=2048
structure MW (T:Int) (m:dI):Prop where
 r:kq m
 n1:bi m 1<=T
 n2:bi m 2<=T
theorem MW.ok {T:Int} {m:dI} (h:MW T m):kT m:=⟨h.r.b.b,by have:=h.r.r.bl;omega,fun y hy=>⟨h.r.b.l y hy,by have:=h.r.r.ts y hy;omega⟩⟩
theorem J2 {kd:Int} {n b:List Int} {l:List (List Int)} (h:Fm.kp kd n b l) (hb:Fm.wZ b l):kq ⟨kd,n,b,l⟩:=⟨h,hb⟩
theorem C5 {T kd ep nu:Int} (hT:T<=1000000) (k:kd=11∨kd=13∨kd=14) (h1:0<=ep/\ep<=T) (h2:0<=nu/\nu<=T):kq ⟨kd,[5,ep,nu],[],[]⟩:=
 J2 ⟨by omega,by omega,by show 3<=16;omega,bt _,bt _,fun x hx=>by
  simp only[eI,List.not_mem_nil,or_false]at hx;omega,fun t ht=>(by cases ht),bt _⟩ ⟨fun c h=>(by cases h),fun t h=>(by cases h)⟩
theorem TB {T ep nu:Int} (hT:T<=1000000) {c:List Int} {x:List L3} (hc:c.length=128) (hb:bm c) (hx:fa x) (h1:0<=ep/\ep<=T) (h2:0<=nu/\nu<=T):kq ⟨10,[5,ep,nu],bZ c,[be x]⟩:=by
 have hl:=uE hx.len x.length
 rw[tq]at hl
 refine J2 ⟨by omega,by omega,by show 3<=16;omega,by rw[tg hc];omega,by show 1<=64;omega,fun y hy=>?_,fun t ht=>?_,?_⟩ ⟨Dd hb,fun t ht=>?_⟩
 ·simp only[eI,List.not_mem_nil,or_false]at hy;omega
 ·rw[dm]at ht;subst ht;omega
 ·show(be x).length+0<=_;omega
 ·rw[dm]at ht;subst ht;exact KE hx
theorem aeC {T ep nu:Int} (hT:T<=1000000) {o:Op} (hr:gO o=true) (ho:ga o) (hb:o.b.length<=2048) (c:List Int) (h1:0<=ep/\ep<=T) (h2:0<=nu/\nu<=T):kq ⟨12,[5,ep,nu,o.cl,o.nm,o.kd,o.bk,dN c],o.b,[]⟩:=by
 have k:=J3 hr
 have Px:=xM c
 refine J2 ⟨by omega,by omega,by show 8<=16;omega,hb,bt _,fun y hy=>?_,fun t ht=>(by cases ht),bt _⟩ ⟨ho.b,fun t ht=>(by cases ht)⟩
 simp only[eI,List.not_mem_nil,or_false]at hy;omega
theorem qM.nil (o:Op) (e:Int):qM ⟨o,e,[]⟩:=⟨fun c h=>(by cases h),bt _⟩
theorem ad7 {c:List Int} (hb:bm c) (o:Op) (e:Int):qM ⟨o,e,mK c o⟩:=by
 constructor
 ·intro x hx
  have hx:x∈mK c o:=hx
  unfold mK at hx;split at hx
  ·exact hb x (List.mem_of_mem_drop (List.mem_of_mem_take hx))
  ·cases hx
 ·show(mK c o).length<=_
  unfold mK;split
  ·rw[dc];omega
  ·exact bt _
section
variable {T:Int} {R:θ}
theorem RW.mono {T2:Int} (h:RW T R) (hT:T<=T2):RW T2 R:=⟨h.i,h.id,h.e0,by have:=h.e1;omega,by have:=h.n1;omega,h.vl,h.t0,by have:=h.t1;omega,fun p hp=>by have:=h.om p hp;exact⟨this.1,by omega,by omega⟩,h.dn,h.cu⟩
theorem mH {α:Type} {l:List α} {a x:α} {P:α->Prop} (h:∀ y∈l,P y) (ha:P a) (hx:x∈l++[a]):P x:=by
 rcases dQ.1 hx with hx | hx
 ·exact h x hx
 ·rw[dm]at hx;rw[hx];exact ha
theorem DZ (h:RW T R) (hd:R.done.length<100000):RW T (gn R):=by
 refine⟨(wQ h.i hd).1,h.id,h.e0,h.e1,h.n1,h.vl,h.t0,h.t1,h.om,fun d hm=>?_,fun o ho=>by simp [gn,b_]at ho⟩
 have hm:d∈R.done++(match b_ R with | some o=>[⟨o,19,[]⟩] | none=>[]):=hm
 rcases dQ.1 hm with hm | hm
 ·exact h.dn d hm
 ·cases hc:b_ R with
  |none=>rw[hc]at hm;cases hm
  |some o=>rw[hc]at hm;rw[dm]at hm;subst hm;exact qM.nil _ _
theorem GP (h:RW T R) (hd:R.done.length<100000):RW T (fb R):=by
 have hi:=(GN h.i hd).1
 unfold fb at hi ⊢
 split
 ·rename_i L hl
  split
  ·rename_i o ho
   split
   ·rename_i ha
    rw[hl]at hi;dsimp only at hi;rw[ho]at hi;dsimp only at hi;rw[if_pos ha]at hi
    exact⟨hi,h.id,h.e0,h.e1,h.n1,h.vl,h.t0,h.t1,h.om,fun d hm=>mH h.dn (ad7 h.i.ok.cb o 0) hm,fun o ho=>by simp [b_]at ho⟩
   ·exact h
  ·exact h
 ·exact h
theorem yY (h:RW T R) (hT:T<=1000000) (ho:R.out.length<100000) {to kd:Int} {n b:List Int} {l:List (List Int)} {nu:Int} (hn:n=nu::n.tail) (kc:nu<=T) (hm:kq ⟨kd,5::R.ep::n,b,l⟩):RW T (il R to kd n b l):=by
 have hm':kT ⟨kd,R.id::R.ep::n,b,l⟩:=by
  rw[h.id]
  exact⟨hm.b.b,by have:=hm.r.bl;have:b.length<=2048:=this;show b.length<=_;omega,fun y hy=>⟨hm.b.l y hy,by have:=hm.r.ts y hy;omega⟩⟩
 refine⟨(ww h.i ho hm').i,h.id,h.e0,h.e1,h.n1,h.vl,h.t0,h.t1,fun p hp=>?_,h.dn,h.cu⟩
 have hP:kq (⟨to,⟨kd,R.id::R.ep::n,b,l⟩⟩:Post).m/\bi (⟨to,⟨kd,R.id::R.ep::n,b,l⟩⟩:Post).m 1<=T/\bi (⟨to,⟨kd,R.id::R.ep::n,b,l⟩⟩:Post).m 2<=T:=
  ⟨by rw[<- h.id]at hm;exact hm,h.e1,by show(R.id::R.ep::n).getD 2 0<=T;rw[hn];exact kc⟩
 exact mH (P:=fun p=>kq p.m/\bi p.m 1<=T/\bi p.m 2<=T) h.om hP hp
theorem vZ (h:RW T R):0<=R.nu/\R.nu<=T:=⟨h.i.ok.n0,h.n1⟩
theorem Rq (h:RW T R) (hT:T<=1000000) (ho:R.out.length<100000) (to:Int):RW T (nT R to):=yY h hT ho (nu:=R.nu) rfl h.n1 (C5 hT (.inr (.inr rfl)) ⟨h.e0,h.e1⟩ (vZ h))
theorem afk (h:RW T R) (hT:T<=1000000) (ho:R.out.length<100000) (to:Int):RW T (qC R to):=yY h hT ho (nu:=R.nu) rfl h.n1 (TB hT h.i.ok.cl h.i.ok.cb h.i.tx ⟨h.e0,h.e1⟩ (vZ h))
theorem Cb (h:RW T R) {L:bX} (hl:R.ld=some L) (f g:Int->Bool):RW T {R with ld:=some ⟨f,g,L.cur⟩ }:=by
 have hc:b_ R=L.cur:=by unfold b_;rw[hl];rfl
 exact⟨yq h.i hl f g,h.id,h.e0,h.e1,h.n1,h.vl,h.t0,h.t1,h.om,h.dn,fun o ho=>h.cu o (by rw[hc];exact ho)⟩
theorem afD (h:RW T R) (hT:T<=1000000) (ho:R.out.length<100000) (hd:R.done.length<100000) (fr:Int) {m:dI} (hm:MW T m) (hw:m.n.any cI=false):RW T (iH R fr m):=by
 unfold iH
 split
 ·exact Rq h hT ho fr
 ·split
  ·rename_i c t hc ht
   have hy:=DZ h hd
   obtain⟨c1,c2⟩:=QU hc
   have cb:bm c:=fun x hx=>hm.ok.b x (by rw[c2];unfold bZ;exact iM _ hx)
   have n1:=DP hw (i:=1)
   have n2:=DP hw (i:=2)
   have m1:=hm.n1
   have m2:=hm.n2
   have hY:RW T {gn R with ep:=bi m 1,nu:=bi m 2,c:=c,t:=t,ch:=true }:=by
    refine⟨⟨⟨c1,cb,n2.1,by show bi m 2<=_;omega,hy.i.ok.vl,hy.i.ok.ol,hy.i.ok.dl,fun o ho=>by simp [gn,b_]at ho⟩,(QX ht).1,hy.i.om,fun o ho=>by simp [gn,b_]at ho⟩,h.id,n1.1,m1,m2,h.vl,h.t0,h.t1,h.om,hy.dn,fun o ho=>by simp [gn,b_]at ho⟩
   exact yY (to:=fr) (kd:=11) (n:=[bi m 2]) (b:=[]) (l:=[]) hY hT ho (nu:=bi m 2) rfl m2 (C5 hT (.inl rfl) ⟨n1.1,m1⟩ ⟨n2.1,m2⟩)
  ·exact h
theorem afy (h:RW T R) (hd:R.done.length<100000) (fr:Int) (m:dI):RW T (im R fr m):=by
 unfold im
 split
 ·exact h
 ·rename_i L hl
  split
  ·exact h
  ·split
   ·rename_i hc
    have:=Cb h hl (mark L.ins fr true) L.cy
    rw[hc]at this;exact this
   ·rename_i o hc
    have:=Cb h hl (mark L.ins fr true) (mark L.cy fr true)
    rw[hc]at this
    exact GP this hd
theorem adm (h:RW T R) (hd:R.done.length<100000) (fr:Int) (m:dI):RW T (ic R fr m):=by
 unfold ic
 split
 ·exact h
 ·rename_i L hl
  split
  ·exact h
  ·rename_i o hc
   split
   ·have:=Cb h hl L.ins (mark L.cy fr true)
    rw[hc]at this
    exact GP this hd
   ·exact h
theorem aa8 (h:RW T R) (b:Bool):RW T {R with lo:=b }:=⟨⟨⟨h.i.ok.cl,h.i.ok.cb,h.i.ok.n0,h.i.ok.n1,h.i.ok.vl,h.i.ok.ol,h.i.ok.dl,h.i.ok.cr⟩,h.i.tx,h.i.om,h.i.oc⟩,h.id,h.e0,h.e1,h.n1,h.vl,h.t0,h.t1,h.om,h.dn,h.cu⟩
theorem aem (h:RW T R) (hT:T<=1000000) (ho:R.out.length<100000) (hd:R.done.length<100000) (fr:Int) (m:dI):RW T (ij R fr m):=by
 unfold ij
 split
 ·exact h
 ·rename_i L hl
  split
  ·exact DZ h hd
  ·split
   ·exact DZ (aa8 h true) hd
   ·exact afk (Cb h hl (mark L.ins fr false) L.cy) hT ho fr
theorem Ob (h:RW T R) (hT:T<=1000000) {o:Op} (hr:gO o=true) (hb:bm o.b):RW (T+1) (ir R o):=by
 have n1:=h.n1
 exact⟨Gf h.i hr hb (by omega),h.id,h.e0,by have:=h.e1;show R.ep<=_;omega,by show R.nu+1<=_;omega,h.vl,h.t0,by have:=h.t1;show R.ti<=_;omega,(h.mono (by omega:T<=T+1)).om,h.dn,h.cu⟩
theorem adw (h:RW T R) (hT:T<=1000000) (ho:R.out.length<100000) (fr:Int) {m:dI} (hm:MW T m) (hw:m.n.any cI=false):RW T (iG R fr m):=by
 unfold iG
 split
 ·exact yY h hT ho (nu:=R.nu) rfl h.n1 (C5 hT (.inr (.inl rfl)) ⟨h.e0,h.e1⟩ (vZ h))
 ·split
  ·rename_i k
   obtain⟨_,k2,_,k4,_⟩:=k
   have m2:=hm.n2
   have n0:=(vZ h).1
   have hD:=Ob h hT k4 hm.ok.b
   have sN:RW T (ir R (ux m)):=⟨hD.i,h.id,h.e0,h.e1,by show R.nu+1<=T;omega,h.vl,h.t0,h.t1,h.om,h.dn,h.cu⟩
   exact yY sN hT ho (nu:=R.nu+1) rfl (by omega) (C5 hT (.inr (.inl rfl)) ⟨h.e0,h.e1⟩ ⟨by omega,by omega⟩)
  ·exact Rq h hT ho fr
theorem ZS (h:RW T R) (hT:T<=1000000) (ho:R.out.length<100000) (hd:R.done.length<100000) (fr:Int) {m:dI} (hm:MW T m):RW T (dE R fr m):=by
 unfold dE
 split
 ·exact h
 ·rename_i hg
  have hw:=O5 (by simpa using hg)
  split
  ·exact afD h hT ho hd fr hm hw
  ·split
   ·exact afy h hd fr m
   ·split
    ·exact adw h hT ho fr hm hw
    ·split
     ·exact adm h hd fr m
     ·exact aem h hT ho hd fr m
theorem JD (h:RW T R) (hT:T<=1000000) {ps:List Post} (hp:∀ p∈ps,kq p.m/\bi p.m 1<=T/\bi p.m 2<=T) (hl:R.out.length+ps.length<=100000):RW T {R with out:=R.out++ps }:=by
 refine⟨CP h.i (fun p hm=>?_) hl,h.id,h.e0,h.e1,h.n1,h.vl,h.t0,h.t1,fun p hm=>(dQ.1 hm).elim (h.om p) (hp p),h.dn,h.cu⟩
 exact MW.ok ⟨(hp p hm).1,(hp p hm).2.1,(hp p hm).2.2⟩
theorem Ul (h:RW T R) (hT:T<=1000000) (k:Int):kq (jh R k).m/\bi (jh R k).m 1<=T/\bi (jh R k).m 2<=T:=by
 refine⟨?_,h.e1,h.n1⟩
 unfold jh;rw[h.id]
 exact TB hT h.i.ok.cl h.i.ok.cb h.i.tx ⟨h.e0,h.e1⟩ (vZ h)
theorem Pk (h:RW T R) (hT:T<=1000000) {o:Op} (hr:gO o=true) (ho:ga o) (hb:o.b.length<=2048) (k:Int):kq (j8 R o k).m/\bi (j8 R o k).m 1<=T/\bi (j8 R o k).m 2<=T:=by
 refine⟨?_,h.e1,h.n1⟩
 unfold j8;rw[h.id]
 exact aeC hT hr ho hb _ ⟨h.e0,h.e1⟩ (vZ h)
theorem wb (h:RW T R):(aQ R).length<=1000:=by
 have h1:(bx R.me R.v.mem R.v.aC).length<=(R.v.mem++R.v.aC).length:=List.length_filter_le ..
 rw[bo]at h1
 have:=h.vl
 unfold aQ;omega
theorem afZ (h:RW T R) (hT:T<=1000000) (ho:R.out.length<=1000):RW (T+1) (cL R):=by
 have h2:=h.mono (by omega:T<=T+1)
 have ol:=wb h
 have ti:∀{R2:θ},RW (T+1) R2->R2.ti=R.ti->RW (T+1) {R2 with ti:=R.ti+1 }:=fun{R2} q e=>⟨DD q.i _,q.id,q.e0,q.e1,q.n1,q.vl,by have:=h.t0;show 0<=R.ti+1;omega,by have:=h.t1;show R.ti+1<=_;omega,q.om,q.dn,q.cu⟩
 unfold cL
 split
 ·exact ti h2 rfl
 ·rename_i L hl
  have hc:b_ R=L.cur:=by unfold b_;rw[hl];rfl
  have:=KL R L (aQ R)
  split
  ·refine ti (R2:={R with out:=R.out++(aQ R).flatMap (fX R L) }) ?_ rfl
   refine(JD h hT (fun p hp=>?_) (by omega)).mono (by omega)
   obtain⟨k,_,hk⟩:=List.mem_flatMap.1 hp
   unfold fX at hk
   split at hk
   ·rw[dm]at hk;subst hk;exact Ul h hT k
   ·split at hk
    ·rename_i o rf
     rw[rf]at hc
     split at hk
     ·rw[dm]at hk;subst hk;exact Pk h hT (h.i.ok.cr o hc) (h.i.oc o hc) (h.cu o hc) k
     ·cases hk
    ·cases hk
  ·exact ti h2 rfl
theorem ah1 (h:RW T R) (hT:T<=1000000) (ho:R.out.length<=1000) (hd:R.done.length<100000) {w:Vw} (hw:w.mem.length+w.aC.length<=1000) (hv:w.ve<=T):RW T (dT R w):=by
 have ol:(bx R.me w.mem w.aC).length<=1000:=by
  have h1:(bx R.me w.mem w.aC).length<=(w.mem++w.aC).length:=List.length_filter_le ..
  rw[bo]at h1;omega
 cases hg:dL R w with
 |false=>rw[uK hg];exact h
 |true=>
  have hy:=DZ h hd
  cases hl:fe R w with
  |false=>
   rw[wJ hg hl]
   exact⟨⟨⟨hy.i.ok.cl,hy.i.ok.cb,hy.i.ok.n0,hy.i.ok.n1,hw,hy.i.ok.ol,hy.i.ok.dl,hy.i.ok.cr⟩,hy.i.tx,hy.i.om,hy.i.oc⟩,h.id,h.e0,h.e1,h.n1,hw,h.t0,h.t1,h.om,hy.dn,hy.cu⟩
  |true=>
   rw[wK hg hl]
   have qg:1<=w.ve:=by
    unfold dL at hg
    rw[iW,decide_eq_true_eq]at hg
    exact hg.1.2.2.2
   have q1:=(QK h.i (w:=w) (by omega) hd).1
   have q2:RW T (jk R w):=⟨q1,h.id,by show 0<=w.ve;omega,hv,h.n1,hw,h.t0,h.t1,h.om,hy.dn,fun o ho=>by simp [jk,b_]at ho⟩
   exact JD q2 hT (fun p hp=>by
    obtain⟨k,_,rfl⟩:=ef.1 hp
    exact Ul q2 hT k) (by rw[cp];show R.out.length+_<=_;omega)
theorem Xx (h:RW T R) (hT:T<1000000) (ho:R.out.length<=1000) (hd:R.done.length<100000) {L:bX} {o:Op} (hr:gO o=true) (yh:ga o) (hb:o.b.length<=2048):RW (T+1) (lF R L o):=by
 have ol:=wb h
 have hD:=Ob h (by omega) hr yh.b
 obtain⟨B,hB⟩:∃ B:θ,B={ir R o with ld:=some {L with cy:=fun _=>false,cur:=some o } }:=⟨_,rfl⟩
 have h1:RW (T+1) B:=by
  subst hB
  exact⟨⟨⟨hD.i.ok.cl,hD.i.ok.cb,hD.i.ok.n0,hD.i.ok.n1,hD.i.ok.vl,hD.i.ok.ol,hD.i.ok.dl,fun o' ho'=>by simp [b_]at ho';subst ho';exact hr⟩,hD.i.tx,hD.i.om,fun o' ho'=>by simp [b_]at ho';subst ho';exact yh⟩,hD.id,hD.e0,hD.e1,hD.n1,hD.vl,hD.t0,hD.t1,hD.om,hD.dn,fun o' ho'=>by simp [b_]at ho';subst ho';exact hb⟩
 have e:lF R L o=fb {B with out:=B.out++(aQ R).map (j8 B o) }:=by
  have e0:aQ B=aQ R:=by subst hB;rfl
  have e9:lF R L o=fb ((aQ B).foldl (fun r k=>x9 r o k) B):=by subst hB;rfl
  rw[e9,sO,e0]
 have e1:B.out=R.out:=by subst hB;rfl
 have e2:B.done=R.done:=by subst hB;rfl
 rw[e]
 refine GP (JD h1 (by omega) (fun p hp=>?_) (by rw[cp,e1];omega)) (by show B.done.length<_;rw[e2];exact hd)
 obtain⟨k,_,rfl⟩:=ef.1 hp
 exact Pk h1 (by omega) hr yh hb k
theorem afi (h:RW T R) (hT:T<1000000) (ho:R.out.length<=1000) (hd:R.done.length<100000) {o:Op} (yh:ga o) (hb:o.b.length<=2048):RW (T+1) (eE R o).2:=by
 have h2:=h.mono (by omega:T<=T+1)
 unfold eE
 split
 ·exact h2
 ·rename_i hr
  have hr:gO o=true:=by simpa using hr
  split
  ·exact h2
  ·rename_i L hl
   split
   ·exact h2
   ·split
    ·exact h2
    ·split
     ·rename_i e R1 hk
      split at hk
      ·unfold lN at hk
       split at hk
       ·cases hk
        exact⟨Oc h.i (by simp;omega),h.id,h.e0,h2.e1,h2.n1,h.vl,h.t0,h2.t1,h2.om,fun d hm=>mH h.dn (qM.nil _ _) hm,h.cu⟩
       ·split at hk
        ·cases hk;exact h2
        ·split at hk
         ·cases hk
         ·cases hk;exact h2
      ·cases hk
     ·exact Xx h hT ho hd hr yh hb
theorem X1 (h:RW T R) (b:Bool):RW T (iR R):=⟨Gg (SP (AR h.i false)),h.id,h.e0,h.e1,h.n1,h.vl,h.t0,h.t1,fun p hp=>(by cases hp),fun d hd=>(by cases hd),h.cu⟩
end
structure Sp where
 d:Int
 df:Int
 n:Int
 k:Int
 ag:Bool
abbrev qB (s:Sp):V:=.agg [.int γ s.d,.int γ s.df,.int γ s.n,.int γ s.k,ξ s.ag]
def bJ (s:Sp):Int:=1+bH s.n 2
def kE (w:Wd) (cl:Int):Int:=w.aX.getD cl.toNat 0
def nh (w:Wd) (cl:Int) (c:fG):Bool:=decide (c.o.cl=cl/\c.o.nm=kE w cl/\c.o.kd≠3)
def tJ (w:Wd) (cl:Int):Option fG:=(w.cs.filter (nh w cl)).getLast?
def gk (w:Wd) (s:Sp):Op:=⟨bJ s,kE w (bJ s)+1,1+bH s.k 4,bH (γ.wrap (s.n.tdiv 2)) 2,if 1+bH s.k 4=1 then io ((w.cs.length:Int)+1)else[]⟩
def qq (w:Wd) (s:Sp):Int:=if 1+bH s.k 4=1 then(w.cs.length:Int)+1 else 0
def pE (w:Wd) (s:Sp):Wd:={w with aX:=w.aX.set (bJ s).toNat (kE w (bJ s)+1) }
def lP (w:Wd) (s:Sp):Wd:={pE w s with cs:=w.cs++[⟨gk w s,qq w s,w.now,-1⟩] }
def tX (w:Wd) (o:Op) (df:Nat):Wd:={w with R:=w.R.set df (eE (ι w df) o).2 }
def rZ (w:Wd) (o:Op) (df:Nat):Wd:=cU (tX w o df) df
def lV (w:Wd) (s:Sp) (df:Nat):Wd:=
 if s.ag then(match tJ w (bJ s)with | some c=>rZ w c.o df | none=>w)
 else if 12<=w.cs.length then w else rZ (lP w s) (gk w s) df
structure xj where
 k:Nat
 q:List (Nat×Nat)
 A:List (Sg×KB)
structure As (w:Wd) (cl:Int) (x:xj):Prop where
 le:x.k<=w.cs.length
 no:∀ j,x.k<=j->j<w.cs.length->nh w cl (da w j)=false
 p:PW x.A x.q w.R
structure lE where
 e:List D
 q:List (Nat×Nat)
 A:List (Sg×KB)
 b:Bool
structure EO (w:Wd) (cl:Int) (k:Nat) (x:lE):Prop where
 k0:0<k
 lt:k - 1<w.cs.length
 e:x.e=c9 (da w (k - 1))
 hit:x.b=nh w cl (da w (k - 1))
 no:∀ j,k<=j->j<w.cs.length->nh w cl (da w j)=false
 p:PW x.A x.q w.R
abbrev Dr (w:Wd) (cl df:Int) (k:Nat):LI where
 α:={x:lE // EO w cl k x}
 live:=[0,2,6,7,8,57]
 dV:=eW++[.qh 4]
 st x:=([an 0 0,.int γ df,.int γ cl,.int γ ((k:Int) - 1),.cF x.1.e 0,ξ x.1.b],d_ w x.1.q x.1.A)
 μ x:=0
def afr (w:Wd) (cl df:Int) (k:Nat):Nat->Option LI
 | 1008=>some (Dr w cl df k)
 |_=>none
abbrev Ks (w:Wd) (cl df:Int):LI where
 α:={x:xj // As w cl x}
 live:=[0,2,6,7]
 dV:=eW
 st x:=([an 0 0,.int γ df,.int γ cl,.int γ ((x.1.k:Int) - 1)],d_ w x.1.q x.1.A)
 μ x:=x.1.k
 sub x:=afr w cl df x.1.k
structure zQ where
 W:Wd
 q:List (Nat×Nat)
 A:List (Sg×KB)
structure D8 (w:Wd) (s:Sp) (x:zQ):Prop where
 W:x.W=pE w s
 p:PW x.A x.q x.W.R
abbrev I9 (w:Wd) (s:Sp) (df:Int):LI where
 α:={x:zQ // D8 w s x}
 live:=[0,2,4,6]
 dV:=eW
 st x:=([an 0 0,.int γ df,an 14 0,.int γ (bJ s)],[jC 8 x.1.W,aa,aa,aa,aa,aa,aa,cY x.1.A,ki x.1.q,kJ x.1.W,kj x.1.W,jQ x.1.W,la x.1.W,lb x.1.W,aw [.int γ s.d,.int γ s.df,.int γ s.n,.int γ s.k,ξ s.ag]])
 μ x:=0
structure zS where
 W:Wd
 o:Op
 q:List (Nat×Nat)
 A:List (Sg×KB)
structure D9 (w:Wd) (s:Sp) (x:zS):Prop where
 W:x.W=pE w s
 o:x.o={gk w s with b:=[] }
 p:PW x.A x.q x.W.R
structure xa where
 W:Wd
 e:List D
 v:Int
 q:List (Nat×Nat)
 A:List (Sg×KB)
structure zR (w:Wd) (s:Sp) (x:xa):Prop where
 W:x.W=pE w s
 e:x.e=bn (gk w s)
 v:x.v=qq w s
 p:PW x.A x.q x.W.R
abbrev I_ (w:Wd) (s:Sp) (df:Int):LI where
 α:={x:zS // D9 w s x}
 live:=[0,2,9]
 dV:=eW++[.tP 14 4 1]
 st x:=([an 0 0,.int γ df,an 14 0],[jC 8 x.1.W,aa,aa,aa,aa,aa,aa,cY x.1.A,ki x.1.q,kJ x.1.W,kj x.1.W,jQ x.1.W,la x.1.W,lb x.1.W,aw [.int γ x.1.o.cl,.int γ x.1.o.nm,.int γ x.1.o.kd,.int γ x.1.o.bk,aH (.sl 1 [])]])
 μ x:=0
abbrev Ja (w:Wd) (s:Sp) (df:Int):LI where
 α:={x:xa // zR w s x}
 live:=[0,2,9,10]
 dV:=eW++[.qh 2]
 st x:=([an 0 0,.int γ df,.cF x.1.e 0,.int γ x.1.v],d_ x.1.W x.1.q x.1.A)
 μ x:=0
def Uq (w:Wd) (s:Sp) (df:Int):FuncId->Nat->Option LI
 | 26,4=>some (Ks w (bJ s) df)
 | 26,1012=>some (I9 w s df)
 | 26,1013=>some (I_ w s df)
 | 26,1017=>some (Ja w s df)
 |_,_=>none
def Ee:aD:=fun args kb K=>match args,kb with
 | [.int γ n],[]=>∀ b:List Int,b=io n->K (aH (.sl 1 (ints ν b))) []
 |_,_=>False
structure nJ (n:Int):Prop where
 h:-9223372036854775808<=n/\n<=9223372036854775807
def EC:aD:=fun args kb K=>match args,kb with
 | [.int γ k,.int γ n],[]=>nJ n/\K (.int γ (bH k n)) []
 |_,_=>False
def y_:FuncId->Option dK
 | 20=>some ⟨[],EC⟩
 | 16=>some ⟨[.ig],WM D4⟩
 | 23=>some ⟨[],IX Ee⟩
 |f=>wo f
noncomputable def MG:bN:=dU Tryz.prog y_ aI 10
theorem aht (w:Wd) (s:Sp) (a:Nat) (q:List (Nat×Nat)) (A:List (Sg×KB)) (K:V->KB->Prop) (ar:
 let ot:=ζ γ (bJ s);let lu:=υ 49 5 (ae c8 w.vs);let kP:=υ 23 1 (ae bB w.dk);let kn:=υ 61 10 (ae c9 w.cs);let kO:=υ 73 3 (ae cN w.ψ);let jV:=(γ.wrap (1+bH s.n 2));let dO:=ζ γ (↑a:Int);let bW:=(ints γ w.aX);let qK:=0+(w.aX.length - 0)<=bW.length;let o5:=(aA (0+(w.aX.length - 0)) bW);let cf:=aw [ε 8 0 w.R.length,ε 9 0 w.dk.length,ε 10 0 w.vs.length,ε 11 0 w.ψ.length,ε 12 0 w.cs.length,ε 13 0 w.aX.length,ζ γ w.now,ξ w.ok];let fY:KB:=[cf,aa,aa,aa,aa,aa,aa,cY A,υ 30 1 (ae cd q),kP,lu,kO,kn,υ 3 1 bW];nJ 2/\
 (s.ag=true->
 At (Ks w (bJ s) (↑a:Int)) ([an 0 0,dO,ζ γ jV,ζ γ (γ.wrap ((↑(w.cs.length - 0):Int) - 1))],fY)/\
 ∀(i:{x:xj // As w (bJ s) x }),let wU:=ζ γ ((↑i.val.k:Int) - 1);let aL:KB:=[cf,aa,aa,aa,aa,aa,aa,cY i.val.A,υ 30 1 (ae cd i.val.q),kP,lu,kO,kn,υ 3 1 bW];(decide ((↑i.val.k:Int) - 1 ≥ 0)=true->
 bj ((↑i.val.k:Int) - 1) (w.cs.length - 0)/\
 ∃(e:List D),(ae c9 w.cs)[0+((↑i.val.k:Int) - 1).toNat]? =some e/\
 ∃(n:Int),e[0]? =some (η (φ γ n))/\
 ∃(n_1:Int),e[1]? =some (η (φ γ n_1))/\
 ∃(n_2:Int),e[2]? =some (η (φ γ n_2))/\
 ∃(lO:Int),e[3]? =some (η (φ γ lO))/\
 ∃(l:List (List D)),e[4]? =some (ω 1 l)/\
 ∃(mc:Int),e[5]? =some (η (φ γ mc))/\
 ∃(pD:Int),e[6]? =some (η (φ γ pD))/\
 ∃(qp:Int),e[7]? =some (η (φ γ qp))/\
 ∃(rN:Int),e[8]? =some (η (φ γ rN))/\
 ∃(b:Bool),let bp:=V.cF [η (φ γ n),η (φ γ n_1),η (φ γ n_2),η (φ γ lO),ω 1 l,η (φ γ mc),η (φ γ pD),η (φ γ qp),η (φ γ rN),η (Value.bool b)] 0;let lq:=At (Dr w (bJ s) (↑a:Int) i.val.k) ([an 0 0,dO,ot,wU,bp,ξ false],aL);e[9]? =some (η (Value.bool b))/\
 (((n == bJ s)=true->
 bj (bJ s) (w.aX.length - 0)/\
 ∃(e:List D),bW[0+(bJ s).toNat]? =some e/\
 ∃(oR:Int),e[0]? =some (η (φ γ oR))/\
 ((n_1 == oR)=true->
 At (Dr w (bJ s) (↑a:Int) i.val.k) ([an 0 0,dO,ot,wU,bp,ξ (n_2 != 3)],aL))/\
 ((n_1 == oR)=false->
 lq))/\
 ((n == bJ s)=false->
 lq))/\
 ∀(i_1:{x:lE // EO w (bJ s) i.val.k x }),(i_1.val.b=true->
 bj (↑a:Int) (w.R.length - 0)/\
 ∃(e:List D),(ae cd i_1.val.q)[0+(↑a:Int).toNat]? =some e/\
 ∃(v:Value),e[0]? =some (η v)/\
 ∃(n:Int),i_1.val.e[0]? =some (η (φ γ n))/\
 ∃(oR:Int),i_1.val.e[1]? =some (η (φ γ oR))/\
 ∃(yB:Int),i_1.val.e[2]? =some (η (φ γ yB))/\
 ∃(yA:Int),i_1.val.e[3]? =some (η (φ γ yA))/\
 ∃(l:List (List D)),i_1.val.e[4]? =some (ω 1 l)/\
 ∃(l_1:List (Nat×θ)),∃(i_2:Nat),∃(b:Nat),∃(R:θ),bY i_1.val.A l_1/\
 l_1[i_2]? =some (b,R)/\
 η v=η (pv b)/\
 ∃(o:Op),[fw [ζ γ n,ζ γ oR,ζ γ yB,ζ γ yA,aH (ω 1 l)]]=[v_ o]/\
 bu R/\
 R.out.length+(aQ R).length<=100000/\
 (∀(c:Int),dW c o.b->
 0<=c/\
 c<256)/\
 o.b.length<=100000/\
 ∀(A':List (Sg×KB)),bY A' (l_1.set i_2 (b,(eE R o).snd))->
 ∃(w_1:Wd),∃(q:List (Nat×Nat)),∃(A:List (Sg×KB)),mn [aw [ε 1 0 w.R.length,ε 2 0 w.dk.length,ε 3 0 w.vs.length,ε 4 0 w.ψ.length,ε 5 0 w.cs.length,ε 6 0 w.aX.length,ζ γ w.now,ξ w.ok],υ 30 1 (ae cd i_1.val.q),kP,lu,kO,kn,υ 3 1 bW,cY A'] w_1 q A/\
 PW A q w_1.R/\
 ∃(i:Nat),[dO]=[ζ γ (↑i:Int)]/\
 jX w_1 i/\
 ∀(w':Wd),w'=cU w_1 i->
 ∀(q':List (Nat×Nat)) (A':List (Sg×KB)),PW A' q' w'.R->
 K (av []) [aw [ε 8 0 w'.R.length,ε 9 0 w'.dk.length,ε 10 0 w'.vs.length,ε 11 0 w'.ψ.length,ε 12 0 w'.cs.length,ε 13 0 w'.aX.length,ζ γ w'.now,ξ w'.ok],aa,aa,aa,aa,aa,aa,cY A',υ 30 1 (ae cd q'),υ 23 1 (ae bB w'.dk),υ 49 5 (ae c8 w'.vs),υ 73 3 (ae cN w'.ψ),υ 61 10 (ae c9 w'.cs),υ 3 1 (ints γ w'.aX)])/\
 (i_1.val.b=false->
 Nx (Ks w (bJ s) (↑a:Int)) i ([an 0 0,dO,ot,ζ γ (γ.wrap ((↑i.val.k:Int) - 1 - 1))],[cf,aa,aa,aa,aa,aa,aa,cY i_1.val.A,υ 30 1 (ae cd i_1.val.q),kP,lu,kO,kn,υ 3 1 bW])))/\
 (decide ((↑i.val.k:Int) - 1 ≥ 0)=false->
 K (av []) aL))/\
 (s.ag=false->
 (decide ((↑(w.cs.length - 0):Int) ≥ 12)=true->
 K (av []) fY)/\
 (decide ((↑(w.cs.length - 0):Int) ≥ 12)=false->
 (True/\
 aM jV/\
 0<=jV.toNat/\
 jV.toNat<=w.aX.length - 0/\
 bj jV (w.aX.length - 0)/\
 ∃(e:List D),bW[0+(γ.wrap (1+bH s.n 2)).toNat]? =some e/\
 ∃(n:Int),let tA:=[[η (φ γ (γ.wrap (n+1)))]];let kN:=(γ.wrap (1+bH s.n 2));let uY:=0+kN.toNat<=bW.length;let iV:=(∃(e:List D),bW[0+(γ.wrap (1+bH s.n 2)).toNat]? =some e/\
 ∃(n_1:Int),e[0]? =some (η (φ γ n_1))/\
 kS n_1 n);let fT:=(γ.wrap (γ.wrap (1+bH s.n 2)+1));let wS:=(tA++ax (0+fT.toNat) o5);let aV:=(ax (0+fT.toNat) o5);let oq:=(1+aV.length)*8<=140737488355328;let cw:=1+aV.length<=wS.length;let aJ:=(aA (0+kN.toNat) bW);let lW:=(0+(ax 0 aJ).length)*8<=140737488355328;let mh:=0+(ax 0 aJ).length<=([]++ax 0 aJ).length;let az:=(aA (1+aV.length) wS);let jq:=(0+(ax 0 aJ).length+(ax 0 az).length)*8<=140737488355328;let κ:=At (I9 w s (↑a:Int)) ([an 0 0,dO,an 14 0,ζ γ kN],[aw [ε 8 0 w.R.length,ε 9 0 w.dk.length,ε 10 0 w.vs.length,ε 11 0 w.ψ.length,ε 12 0 w.cs.length,ε 13 0 (0+(ax 0 aJ).length+(ax 0 az).length),ζ γ w.now,ξ w.ok],aa,aa,aa,aa,aa,aa,cY A,υ 30 1 (ae cd q),kP,lu,kO,kn,υ 3 1 (aA (0+(ax 0 aJ).length) ([]++ax 0 aJ)++ax 0 az),aw [ζ γ s.d,ζ γ s.df,ζ γ s.n,ζ γ s.k,ξ s.ag]]);e[0]? =some (η (φ γ n))/\
 aM fT/\
 True/\
 fT.toNat<=w.aX.length - 0/\
 w.aX.length - 0<=w.aX.length - 0/\
 (True/\
 True/\
 True/\
 (iV)/\
 (True/\
 True/\
 True/\
 uY/\
 0<=0/\
 lW/\
 (iV)/\
 True/\
 True/\
 qK/\
 1<=1/\
 oq/\
 cw/\
 mh/\
 jq/\
 κ)/\
 True/\
 True/\
 True/\
 True/\
 True/\
 uY/\
 0<=0/\
 lW/\
 qK/\
 1<=1/\
 oq/\
 cw/\
 mh/\
 jq/\
 κ)/\
 True/\
 True/\
 True/\
 True/\
 True/\
 True/\
 True/\
 uY/\
 0<=0/\
 lW/\
 qK/\
 1<=1/\
 oq/\
 cw/\
 mh/\
 jq/\
 κ)/\
 ∀(i:{x:zQ // D8 w s x }),let lw:=(ints γ i.val.W.aX);(bj (bJ s) (i.val.W.aX.length - 0)/\
 ∃(e:List D),lw[0+(bJ s).toNat]? =some e/\
 ∃(n:Int),let cK:=(∃(e:List D),lw[0+(bJ s).toNat]? =some e/\
 ∃(n:Int),e[0]? =some (η (φ γ n))/\
 True);let bC:=(∃(e:List D),lw[0+(bJ s).toNat]? =some e/\
 ∃(n_1:Int),e[0]? =some (η (φ γ n_1))/\
 kS n_1 n);let ah:=At (I_ w s (↑a:Int)) ([an 0 0,dO,an 14 0],[aw [ε 8 0 i.val.W.R.length,ε 9 0 i.val.W.dk.length,ε 10 0 i.val.W.vs.length,ε 11 0 i.val.W.ψ.length,ε 12 0 i.val.W.cs.length,ε 13 0 i.val.W.aX.length,ζ γ i.val.W.now,ξ i.val.W.ok],aa,aa,aa,aa,aa,aa,cY i.val.A,υ 30 1 (ae cd i.val.q),υ 23 1 (ae bB i.val.W.dk),υ 49 5 (ae c8 i.val.W.vs),υ 73 3 (ae cN i.val.W.ψ),υ 61 10 (ae c9 i.val.W.cs),υ 3 1 lw,aw [ot,ζ γ n,ζ γ (γ.wrap (1+bH s.k 4)),ζ γ (bH (γ.wrap (s.n.tdiv 2)) 2),aH (ω 1 [])]]);e[0]? =some (η (φ γ n))/\
 (True/\
 nJ 4/\
 kS s.n s.n/\
 (bC)/\
 (True/\
 nJ 2/\
 (bC)/\
 (cK)/\
 True/\
 ah)/\
 True/\
 (cK)/\
 True/\
 True/\
 nJ 2/\
 (bC)/\
 ah)/\
 True/\
 True/\
 (cK)/\
 True/\
 True/\
 nJ 4/\
 kS s.n s.n/\
 (bC)/\
 True/\
 nJ 2/\
 (bC)/\
 ah)/\
 ∀(i:{x:zS // D9 w s x }),let zx:=η (φ γ i.val.o.bk);let wX:=η (φ γ i.val.o.kd);let wW:=η (φ γ i.val.o.nm);let wV:=η (φ γ i.val.o.cl);let wR:=(γ.wrap ((↑(i.val.W.cs.length - 0):Int)+1));let bV:KB:=[aw [ε 8 0 i.val.W.R.length,ε 9 0 i.val.W.dk.length,ε 10 0 i.val.W.vs.length,ε 11 0 i.val.W.ψ.length,ε 12 0 i.val.W.cs.length,ε 13 0 i.val.W.aX.length,ζ γ i.val.W.now,ξ i.val.W.ok],aa,aa,aa,aa,aa,aa,cY i.val.A,υ 30 1 (ae cd i.val.q),υ 23 1 (ae bB i.val.W.dk),υ 49 5 (ae c8 i.val.W.vs),υ 73 3 (ae cN i.val.W.ψ),υ 61 10 (ae c9 i.val.W.cs),υ 3 1 (ints γ i.val.W.aX)];(((i.val.o.kd == 1)=true->
 ∀(b:List Int),b=[ν.wrap wR,0,0,0,0,0,0,0,0,0,0,0,0,0,0,if γ.wrap ((↑(i.val.W.cs.length - 0):Int)+1) > 0 then 7 else 0]->
 At (Ja w s (↑a:Int)) ([an 0 0,dO,V.cF [wV,wW,wX,zx,ω 1 (ints ν b)] 0,ζ γ wR],bV))/\
 ((i.val.o.kd == 1)=false->
 At (Ja w s (↑a:Int)) ([an 0 0,dO,V.cF [wV,wW,wX,zx,ω 1 []] 0,ζ γ 0],bV)))/\
 ∀(i:{x:xa // zR w s x }),∃(n:Int),i.val.e[0]? =some (η (φ γ n))/\
 ∃(n_1:Int),i.val.e[1]? =some (η (φ γ n_1))/\
 ∃(n_2:Int),i.val.e[2]? =some (η (φ γ n_2))/\
 ∃(lO:Int),i.val.e[3]? =some (η (φ γ lO))/\
 ∃(l:List (List D)),i.val.e[4]? =some (ω 1 l)/\
 ∃(mc:Int),i.val.e[2]? =some (η (φ γ mc))/\
 True/\
 True/\
 1<=1/\
 i.val.W.cs.length<=(ae c9 i.val.W.cs).length/\
 (i.val.W.cs.length+1)*96<=140737488355328/\
 bj (↑a:Int) (i.val.W.R.length - 0)/\
 ∃(e:List D),(ae cd i.val.q)[0+(↑a:Int).toNat]? =some e/\
 ∃(v:Value),e[0]? =some (η v)/\
 ∃(pD:Int),i.val.e[0]? =some (η (φ γ pD))/\
 ∃(qp:Int),i.val.e[1]? =some (η (φ γ qp))/\
 ∃(rN:Int),i.val.e[2]? =some (η (φ γ rN))/\
 ∃(oR:Int),i.val.e[3]? =some (η (φ γ oR))/\
 ∃(l_1:List (List D)),i.val.e[4]? =some (ω 1 l_1)/\
 ∃(l_2:List (Nat×θ)),∃(i_1:Nat),∃(b:Nat),∃(R:θ),bY i.val.A l_2/\
 l_2[i_1]? =some (b,R)/\
 η v=η (pv b)/\
 ∃(o:Op),[fw [ζ γ pD,ζ γ qp,ζ γ rN,ζ γ oR,aH (ω 1 l_1)]]=[v_ o]/\
 bu R/\
 R.out.length+(aQ R).length<=100000/\
 (∀(c:Int),dW c o.b->
 0<=c/\
 c<256)/\
 o.b.length<=100000/\
 ∀(A':List (Sg×KB)),bY A' (l_2.set i_1 (b,(eE R o).snd))->
 ∃(w_1:Wd),∃(q:List (Nat×Nat)),∃(A:List (Sg×KB)),mn [aw [ε 1 0 i.val.W.R.length,ε 2 0 i.val.W.dk.length,ε 3 0 i.val.W.vs.length,ε 4 0 i.val.W.ψ.length,ε 5 0 (i.val.W.cs.length+1),ε 6 0 i.val.W.aX.length,ζ γ i.val.W.now,ξ i.val.W.ok],υ 30 1 (ae cd i.val.q),υ 23 1 (ae bB i.val.W.dk),υ 49 5 (ae c8 i.val.W.vs),υ 73 3 (ae cN i.val.W.ψ),υ 61 10 (aA i.val.W.cs.length (ae c9 i.val.W.cs)++[[η (φ γ n),η (φ γ n_1),η (φ γ n_2),η (φ γ lO),ω 1 l,η (φ γ mc),η (φ γ i.val.v),η (φ γ i.val.W.now),η (φ γ (-1)),η (Value.bool false)]]),υ 3 1 (ints γ i.val.W.aX),cY A'] w_1 q A/\
 PW A q w_1.R/\
 ∃(i:Nat),[dO]=[ζ γ (↑i:Int)]/\
 jX w_1 i/\
 ∀(w':Wd),w'=cU w_1 i->
 ∀(q':List (Nat×Nat)) (A':List (Sg×KB)),PW A' q' w'.R->
 K (av []) [aw [ε 8 0 w'.R.length,ε 9 0 w'.dk.length,ε 10 0 w'.vs.length,ε 11 0 w'.ψ.length,ε 12 0 w'.cs.length,ε 13 0 w'.aX.length,ζ γ w'.now,ξ w'.ok],aa,aa,aa,aa,aa,aa,cY A',υ 30 1 (ae cd q'),υ 23 1 (ae bB w'.dk),υ 49 5 (ae c8 w'.vs),υ 73 3 (ae cN w'.ψ),υ 61 10 (ae c9 w'.cs),υ 3 1 (ints γ w'.aX)]))
 ):aK Tryz.prog MG (Uq w s (a:Int) 26) 26 [an 0 0,qB s,.int γ (a:Int)] (gl w q A) (fA eW (dx 8 K)):=by apply Eq.mp (a:=ar);kernel_rfl
theorem T3 {α:Type} (x:α) (D:List α):aA (1+D.length) ([x]++D)=x::D:=fI (by rw[bo];exact au _)
theorem ae4 {α:Type} {M:List α} {x:α} {c n:Nat} (hc:c<M.length) (hn:n=M.length):aA (0+(ax 0 (aA (0+c) M)).length) ([]++ax 0 (aA (0+c) M))++ax 0 (aA (1+(ax (0+(c+1)) (aA (0+(n - 0)) M)).length) ([x]++ax (0+(c+1)) (aA (0+(n - 0)) M)))=M.set c x:=by
 subst hn
 rw[wA,T3,kV,cQ,cQ,cQ,ju,cZ,cZ,iX,List.set_eq_take_append_cons_drop,if_pos hc]
theorem ae2 {α:Type} {M:List α} {x:α} {c n:Nat} (hc:c<M.length) (hn:n=M.length):0+(ax 0 (aA (0+c) M)).length+(ax 0 (aA (1+(ax (0+(c+1)) (aA (0+(n - 0)) M)).length) ([x]++ax (0+(c+1)) (aA (0+(n - 0)) M)))).length=M.length:=by
 subst hn
 rw[wA,T3,kV,cQ,cQ,cQ,cZ,iX,gF,dc,fZ];omega
theorem zi {W:Wd} {R':List θ} (h:R'.length=W.R.length) (q:List (Nat×Nat)) (A:List (Sg×KB)):gl W q A=gl {W with R:=R' } q A:=by
 show[aw [.sl 1 0 W.R.length,_,_,_,_,_,_,_],_,_,_,_,_,_,_]=[aw [.sl 1 0 R'.length,_,_,_,_,_,_,_],_,_,_,_,_,_,_]
 rw[h]
theorem acH:aR Tryz.prog 20 EC:=fun args kb K hs=>Jl args kb K (by
 unfold EC at hs;split at hs<;>try exact hs.elim
 exact⟨hs.1.h,hs.2⟩)
theorem ac5:aR Tryz.prog 23 Ee:=fun args kb K hs=>Sl args kb K (by
 unfold Ee at hs;split at hs<;>try exact hs.elim
 exact hs _ rfl)
theorem KC:dP Tryz.prog y_:=fun f k h=>by
 unfold y_ at h
 split at h
 ·cases h;exact acH
 ·cases h;exact RZ
 ·cases h;exact Rt ac5
 ·exact C3 _ _ h
theorem W5:b9 Tryz.prog MG:=dY mixed KC aI 10
theorem W8 {w:Wd} {cl:Int} (h:∀ j,j<w.cs.length->nh w cl (da w j)=false):tJ w cl=none:=by
 unfold tJ
 have:w.cs.filter (nh w cl)=[]:=List.filter_eq_nil_iff.2 fun c hc=>by
  obtain⟨j,hj⟩:=lC hc
  have hl:=(bO.1 hj).1
  have:=h j hl
  rw[vw hl,bc.injEq]at hj
  rw[<- hj,this];exact Bool.false_ne_true
 rw[this];rfl
theorem W9 {w:Wd} {cl:Int} {k:Nat} (hk:k<w.cs.length) (h1:nh w cl (da w k)=true) (h:∀ j,k<j->j<w.cs.length->nh w cl (da w j)=false):tJ w cl=some (da w k):=by
 unfold tJ
 have e:w.cs=w.cs.take k++da w k::w.cs.drop (k+1):=by
  have hc:=vw hk
  rw[bz hk,bc.injEq]at hc
  rw[<- hc,<- List.drop_eq_getElem_cons hk,List.take_append_drop]
 have e2:(w.cs.drop (k+1)).filter (nh w cl)=[]:=List.filter_eq_nil_iff.2 fun c hc=>by
  obtain⟨j,hj⟩:=lC hc
  rw[jE]at hj
  have hl:=(bO.1 hj).1
  have:=h (k+1+j) (by omega) hl
  rw[vw hl,bc.injEq]at hj
  rw[<- hj,this];exact Bool.false_ne_true
 generalize da w k=c at*
 rw[e,List.filter_append,List.filter_cons_of_pos h1,e2,List.getLast?_concat]
structure Au (w:Wd) (s:Sp) (a:Nat):Prop where
 hi:a<w.R.length
 hd:a<w.dk.length
 r:bu (ι w a)
 ol:(ι w a).out.length+(aQ (ι w a)).length<=100000
 cl:w.cs.length<=1000
 cb:∀ c∈w.cs,bm c.o.b/\c.o.b.length<=100000
 n3:w.aX.length=3
 nb:∀ n∈w.aX,0<=n/\n<=1000000
 cA:∀ c,tJ w (bJ s)=some c->jX (tX w c.o a) a
 cB:w.cs.length<12->jX (tX (lP w s) (gk w s) a) a
def LD:List V->Wd->(V->Wd->Prop)->Prop:=fun rest w k=>∃(s:Sp) (a:Nat),rest=[qB s,.int γ (a:Int)]/\Au w s a/\∀ w',w'=lV w s a->k (.χ []) w'
theorem kG (k:Int) {n:Int} (h:1<=n):0<=bH k n/\bH k n<n:=adE h
theorem IS (w:Wd) (s:Sp):bm (gk w s).b/\(gk w s).b.length<=100000:=by
 unfold gk;dsimp only;split
 ·exact⟨KZ _,by rw[DJ];omega⟩
 ·exact⟨fun c h=>(by cases h),bt _⟩
theorem acU:aR Tryz.prog 26 (WM LD):=oa W5 mixed eW (fun args kb K h=>by
 unfold WM at h;split at h<;>try exact h.elim
 obtain⟨w,q,A,⟨rfl⟩,hp,s,a,rfl,hc,h⟩:=h
 refine⟨Uq w s (a:Int) 26,?_⟩
 show aK _ _ _ _ _ _ (fA eW (dx 8 K))
 apply aht w s a q A K
 have hi:=hc.hi
 have hcl:=hc.cl
 have pc:=kG s.n (n:=2) (by omega)
 have e1:γ.wrap (1+bH s.n 2)=bJ s:=by rw[bS (by omega) (by omega)];rfl
 have hcs:1<=bJ s/\bJ s<=2:=by unfold bJ;omega
 have H6:∀ n:Int,0<=n->n<=10->nJ n:=fun n h1 h2=>⟨by omega,by omega⟩
 have hin:bj (a:Int) w.R.length:=by unfold bj;omega
 have hn3:=hc.n3
 have cv:bj (bJ s) w.aX.length:=by unfold bj;omega
 have cn:(bJ s).toNat<w.aX.length:=by omega
 have go:∀(W:Wd) (o:Op) (q1:List (Nat×Nat)) (A1:List (Sg×KB)),W.R=w.R->PW A1 q1 W.R->(bm o.b/\o.b.length<=100000)->jX (tX W o a) a->lV w s a=rZ W o a->
   ∀(F:List (Sg×KB)->KB),(∀ A',F A'=gl W q1 A')->∀(X:List V),X=[v_ o]->bj (a:Int) (w.R.length - 0)/\∃ e,(q1.map cd)[0+(a:Int).toNat]? =some e/\∃ d:Value,e[0]? =some (η d)/\∃(l:List (Nat×θ)) (i:Nat) (b:Nat) (R:θ),bY A1 l/\l[i]? =some (b,R)/\η d=η (pv b)/\∃ o:Op,X=[v_ o]/\bu R/\R.out.length+(aQ R).length<=100000/\(∀ c,dW c o.b->0<=c/\c<256)/\o.b.length<=100000/\
    ∀ A',bY A' (l.set i (b,(eE R o).2))->∃(w1:Wd) (q:List (Nat×Nat)) (A:List (Sg×KB)),mn (F A') w1 q A/\PW A q w1.R/\∃ i:Nat,[ζ γ (a:Int)]=[ζ γ (i:Int)]/\jX w1 i/\∀ w',w'=cU w1 i->∀ q' A',PW A' q' w'.R->K (.χ []) (d_ w' q' A'):=by
  intro W o q1 A1 Pg P1 qf ZZ hst F hF X hX
  have rq:W.R[a]? =some (ι w a):=by rw[Pg];exact qx hi
  have hrW:ι W a=ι w a:=by unfold ι;rw[Pg]
  obtain⟨l,k,b,hq,hA,hl,dR⟩:=P1.get rq
  refine⟨hin,_,pL hq,_,rfl,l,k,b,_,hA,hl,rfl,o,hX,hc.r,hc.ol,qf.1,qf.2,fun A2 p2=>⟨tX W o a,q1,A2,⟨?_⟩,?_,a,rfl,ZZ,fun w' hw' q' A' p'=>h w' (by rw[hw',hst];rfl) q' A' p'⟩⟩
  ·rw[hF];exact zi (by rw[iA]) q1 A2
  ·have:=dR _ _ p2
   show PW A2 q1 (W.R.set a (eE (ι W a) o).2)
   rw[hrW];exact this
 rw[e1]
 refine⟨H6 2 (by omega) (by omega),fun ha=>⟨?_,?_⟩,fun ha=>⟨fun h12=>?_,fun h12=>?_⟩⟩
 ·refine At.mk' (⟨⟨w.cs.length,q,A⟩,au _,fun j h1 h2=>absurd h1 (by show ¬ w.cs.length<=j;omega),hp⟩:{x:xj // As w (bJ s) x}) ?_
  rw[bS (by omega) (by omega)]
  rfl
 ·rintro⟨⟨k,q1,A1⟩,hk,hno,P1⟩
  dsimp only at hk hno P1 ⊢
  refine⟨fun ud=>?_,fun ud=>?_⟩
  ·have ud:0<k:=by rw[decide_eq_true_eq]at ud;omega
   have hlt:k - 1<w.cs.length:=by omega
   have ek:((k:Int) - 1)=((k - 1:Nat):Int):=by omega
   have hg:=vw hlt
   have xz:∀ b:Bool,b=nh w (bJ s) (da w (k - 1))->At (Dr w (bJ s) (a:Int) k) ([an 0 0,.int γ (a:Int),.int γ (bJ s),.int γ ((k:Int) - 1),.cF (c9 (da w (k - 1))) 0,ξ b],d_ w q1 A1):=fun b hb=>At.mk' (⟨⟨_,q1,A1,b⟩,ud,hlt,rfl,hb,hno,P1⟩:{x:lE // EO w (bJ s) k x}) rfl
   refine⟨by rw[ek];unfold bj;omega,c9 (da w (k - 1)),by rw[ek,cQ,dD,fH,hg];rfl,_,rfl,_,rfl,_,rfl,_,rfl,_,rfl,_,rfl,_,rfl,_,rfl,_,rfl,_,rfl,⟨fun t1=>⟨cv,_,by rw[cQ,mb,x4 cn];rfl,w.aX.getD (bJ s).toNat 0,rfl,fun t2=>?_,fun t2=>?_⟩,fun t1=>?_⟩,?_⟩
   ·refine xz _ ?_
    rw[beq_iff_eq]at t1 t2
    unfold nh
    rw[Bool.eq_iff_iff,decide_eq_true_eq]
    rw[bne_iff_ne]
    exact⟨fun t3=>⟨t1,t2,t3⟩,fun t3=>t3.2.2⟩
   ·refine xz _ ?_
    rw[beq_eq_false_iff_ne]at t2
    unfold nh
    exact(decide_eq_false fun t3=>t2 t3.2.1).symm
   ·refine xz _ ?_
    rw[beq_eq_false_iff_ne]at t1
    unfold nh
    exact(decide_eq_false fun t3=>t1 t3.1).symm
   ·rintro⟨⟨e,q2,A2,b⟩,_,_,he,hb,_,P2⟩
    dsimp only at he hb P2 ⊢
    subst he
    refine⟨fun tb=>?_,fun tb=>?_⟩
    ·rw[tb]at hb
     have ra:=W9 hlt hb.symm (fun j h1 h2=>hno j (by omega) h2)
     have hst:lV w s a=rZ w (da w (k - 1)).o a:=by
      unfold lV;rw[if_pos ha,ra]
     have hmem:da w (k - 1)∈w.cs:=gG hg
     obtain⟨g1,e,g2,d,g3,l,i,b',R,g4⟩:=go w (da w (k - 1)).o q2 A2 rfl P2 (hc.cb _ hmem) (hc.cA _ ra) hst (fun A'=>gl w q2 A') (fun _=>rfl) _ rfl
     exact⟨g1,e,g2,d,g3,_,rfl,_,rfl,_,rfl,_,rfl,_,rfl,l,i,b',R,g4⟩
    ·rw[tb]at hb
     refine Nx.mk' (⟨⟨k - 1,q2,A2⟩,by show k - 1<=_;omega,fun j h1 h2=>?_,P2⟩:{x:xj // As w (bJ s) x}) ?_ (by show k - 1<k;omega)
     ·have h1:k - 1<=j:=h1
      by_cases ej:j=k - 1
      ·subst ej;exact hb.symm
      ·exact hno j (by omega) h2
     ·rw[bS (by omega) (by omega),ek]
  ·have ud:k=0:=by rw[decide_eq_false_iff_not]at ud;omega
   subst ud
   have ra:=W8 (w:=w) (cl:=bJ s) (fun j h1=>hno j (bt _) h1)
   exact h w (by unfold lV;rw[if_pos ha,ra]) q1 A1 P1
 ·have h12:12<=w.cs.length:=by rw[decide_eq_true_eq]at h12;omega
  exact h w (by unfold lV;rw[if_neg (by rw[ha];exact Bool.false_ne_true),if_pos h12]) q A hp
 have h12:w.cs.length<12:=by rw[decide_eq_false_iff_not]at h12;omega
 have e2:γ.wrap (bJ s+1)=bJ s+1:=by rw[bS (by omega) (by omega)]
 have e3:(bJ s+1).toNat=(bJ s).toNat+1:=by omega
 have hmem:=hc.nb _ (Bx cn)
 have e4:γ.wrap (w.aX.getD (bJ s).toNat 0+1)=kE w (bJ s)+1:=by rw[bS (by omega) (by omega)];rfl
 have di:(ints γ w.aX)[0+(bJ s).toNat]? =some [η (.int γ (w.aX.getD (bJ s).toNat 0))]:=by rw[cQ,mb,x4 cn];rfl
 have hM:(bJ s).toNat<(ints γ w.aX).length:=by rw[bh];exact cn
 have hL:w.aX.length=(ints γ w.aX).length:=bh.symm
 have hst:lV w s a=rZ (lP w s) (gk w s) a:=by
  unfold lV;rw[if_neg (by rw[ha];exact Bool.false_ne_true),if_neg (by omega)]
 refine⟨?_,?_⟩
 ·simp only[e2,e3]
  have Hb:At (I9 w s (a:Int)) ([an 0 0,.int γ (a:Int),an 14 0,.int γ (bJ s)],[aw [.sl 8 0 w.R.length,.sl 9 0 w.dk.length,.sl 10 0 w.vs.length,.sl 11 0 w.ψ.length,.sl 12 0 w.cs.length,.sl 13 0 (0+(ax 0 (aA (0+(bJ s).toNat) (ints γ w.aX))).length+(ax 0 (aA (1+(ax (0+((bJ s).toNat+1)) (aA (0+(w.aX.length - 0)) (ints γ w.aX))).length) ([[η (.int γ (γ.wrap (w.aX.getD (bJ s).toNat 0+1)))]]++ax (0+((bJ s).toNat+1)) (aA (0+(w.aX.length - 0)) (ints γ w.aX))))).length),.int γ w.now,ξ w.ok],aa,aa,aa,aa,aa,aa,cY A,ki q,kJ w,kj w,jQ w,la w,
    .row 3 1 (aA (0+(ax 0 (aA (0+(bJ s).toNat) (ints γ w.aX))).length) ([]++ax 0 (aA (0+(bJ s).toNat) (ints γ w.aX)))++ax 0 (aA (1+(ax (0+((bJ s).toNat+1)) (aA (0+(w.aX.length - 0)) (ints γ w.aX))).length) ([[η (.int γ (γ.wrap (w.aX.getD (bJ s).toNat 0+1)))]]++ax (0+((bJ s).toNat+1)) (aA (0+(w.aX.length - 0)) (ints γ w.aX))))),aw [.int γ s.d,.int γ s.df,.int γ s.n,.int γ s.k,ξ s.ag]]):=by
   rw[ae4 hM hL,ae2 hM hL,<- hL,e4]
   refine At.mk' (⟨⟨pE w s,q,A⟩,rfl,hp⟩:{x:zQ // D8 w s x}) ?_
   have e5:(ints γ w.aX).set (bJ s).toNat [η (.int γ (kE w (bJ s)+1))]=ints γ (pE w s).aX:=by
    show _=ints γ (w.aX.set _ _)
    simp only[ints,List.map_set]
   rw[e5]
   show(_,_)=(_,[aw [_,_,_,_,_,.sl 13 0 (w.aX.set (bJ s).toNat (kE w (bJ s)+1)).length,_,_],_,_,_,_,_,_,_,_,_,_,_,_,_,_])
   rw[iA]
   rfl
  repeat' (first | exact trivial | exact Hb | refine⟨_,di,_,rfl,?_⟩ | exact⟨_,di,_,rfl,⟨rfl⟩⟩ | apply And.intro)
  all_goals first | exact cv | exact⟨rfl⟩ | exact au _ | exact bt _ | (unfold aM;omega) | omega | (simp only[ju,bo,dc,fZ,iL,gF,ko,bh];omega)
 rintro⟨⟨W,q1,A1⟩,hW,P1⟩
 dsimp only at hW P1 ⊢
 have Hi:W.aX=w.aX.set (bJ s).toNat (kE w (bJ s)+1):=by rw[hW];rfl
 have Ph:W.aX.length=w.aX.length:=by rw[Hi,iA]
 have p4:=kG s.k (n:=4) (by omega)
 have e6:γ.wrap (1+bH s.k 4)=1+bH s.k 4:=by rw[bS (by omega) (by omega)]
 have PU:(ints γ W.aX)[0+(bJ s).toNat]? =some [η (.int γ (kE w (bJ s)+1))]:=by rw[cQ,mb,Hi,iz cn];rfl
 have NO:bj (bJ s) (W.aX.length - 0):=by rw[Ph];exact cv
 refine⟨?_,?_⟩
 ·have Hb:At (I_ w s (a:Int)) ([an 0 0,.int γ (a:Int),an 14 0],[jC 8 W,aa,aa,aa,aa,aa,aa,cY A1,ki q1,kJ W,kj W,jQ W,la W,lb W,aw [.int γ (bJ s),.int γ (kE w (bJ s)+1),.int γ (γ.wrap (1+bH s.k 4)),.int γ (bH (γ.wrap (s.n.tdiv 2)) 2),aH (.sl 1 [])]]):=by
   refine At.mk' (⟨⟨W,{gk w s with b:=[] },q1,A1⟩,hW,rfl,P1⟩:{x:zS // D9 w s x}) ?_
   rw[e6];rfl
  repeat' (first | exact trivial | exact Hb | exact NO | exact H6 2 (by omega) (by omega) | exact H6 4 (by omega) (by omega) | refine⟨_,PU,_,rfl,?_⟩ | exact⟨rfl⟩ | apply And.intro)
 clear PU NO P1 hW Hi Ph A1 q1 W
 rintro⟨⟨W,o,q1,A1⟩,hW,ho,P1⟩
 dsimp only at hW ho P1 ⊢
 subst hW ho
 refine⟨?_,?_⟩
 ·have e7:γ.wrap ((((pE w s).cs.length - 0:Nat):Int)+1)=(w.cs.length:Int)+1:=by
   show γ.wrap ((w.cs.length:Int)+1)=_
   rw[bS (by omega) (by omega)]
  rw[e7]
  refine⟨fun t=>?_,fun t=>?_⟩
  ·have t:1+bH s.k 4=1:=by rw[beq_iff_eq]at t;exact t
   intro b hb
   have hb:b=io ((w.cs.length:Int)+1):=hb
   refine At.mk' (⟨⟨pE w s,bn (gk w s),(w.cs.length:Int)+1,q1,A1⟩,rfl,rfl,by unfold qq;rw[if_pos t],P1⟩:{x:xa // zR w s x}) ?_
   show(_,_)=([_,_,V.cF [_,_,_,_,.sl 1 (ints ν (gk w s).b)] 0,_],_)
   have:(gk w s).b=b:=by rw[hb];unfold gk;dsimp only;rw[if_pos t]
   rw[this]
  ·have t:¬ 1+bH s.k 4=1:=by rw[beq_eq_false_iff_ne]at t;exact t
   refine At.mk' (⟨⟨pE w s,bn (gk w s),0,q1,A1⟩,rfl,rfl,by unfold qq;rw[if_neg t],P1⟩:{x:xa // zR w s x}) ?_
   show(_,_)=([_,_,V.cF [_,_,_,_,.sl 1 (ints ν (gk w s).b)] 0,_],_)
   have:(gk w s).b=[]:=by unfold gk;dsimp only;rw[if_neg t]
   rw[this];rfl
 ·clear P1 A1 q1
  rintro⟨⟨W,e,v,q1,A1⟩,hW,he,hv,P1⟩
  dsimp only at hW he hv P1 ⊢
  subst hW he hv
  have hb:=IS w s
  refine⟨_,rfl,_,rfl,_,rfl,_,rfl,_,rfl,_,rfl,trivial,trivial,au _,by rw[cp];exact au _,by show(w.cs.length+1)*96<=_;omega,?_⟩
  obtain⟨g1,e,g2,d,g3,l,i,b',R,g4⟩:=go (lP w s) (gk w s) q1 A1 rfl P1 hb (hc.cB h12) hst (fun A'=>gl (lP w s) q1 A') (fun _=>rfl) _ rfl
  have ek:∀ A',gl (lP w s) q1 A'=[aw [.sl 1 0 w.R.length,.sl 2 0 w.dk.length,.sl 3 0 w.vs.length,.sl 4 0 w.ψ.length,.sl 5 0 (w.cs.length+1),.sl 6 0 (pE w s).aX.length,.int γ w.now,ξ w.ok],ki q1,kJ w,kj w,jQ w,υ 61 10 (aA w.cs.length (w.cs.map c9)++[c9 ⟨gk w s,qq w s,w.now,-1⟩]),lb (pE w s),cY A']:=fun A'=>by
   have e8:(lP w s).cs.length=w.cs.length+1:=by show(w.cs++[_]).length=_;rw[bo];rfl
   have e9:(lP w s).cs.map c9=aA w.cs.length (w.cs.map c9)++[c9 ⟨gk w s,qq w s,w.now,-1⟩]:=by
    show(w.cs++[_]).map c9=_
    rw[jZ,fI (by rw[cp];exact au _)];rfl
   unfold gl jC la
   rw[e8,e9]
   rfl
  simp only[ek]at g4
  exact⟨g1,e,g2,d,g3,_,rfl,_,rfl,_,rfl,_,rfl,_,rfl,l,i,b',R,g4⟩)
end Go.Proofs.YtfcjngcnifdmnaaGreat
