import Derived.Test.YtfcjngcnifdmnaaGreatQe
import Derived.KernelRfl
namespace Go.Proofs.YtfcjngcnifdmnaaGreat
open Vc Go
open Go.IntKind renaming i64->Z,u8->ι,u32->ic
open Vc.V renaming any->γ,sl->δ,int->ε,sb->θ,ptr->aj,υ->aw,dat->aD,aa->aP,mp->aX,arr->bB,agg->fF
open Vc.D renaming val->ζ,sl->ψ
open Go.Value renaming int->ν,map->kq,oneCell'->lU,bool->nE
open Vc.KO renaming row->ξ,dead->χ,cells->ar,objs->cD
open List renaming map->φ,drop->ay,take->az,length_append->bn,getElem?_eq_getElem->bp,getElem?_eq_some_iff->bG,length_map->bX,take_length->cM,length_take->cQ,replicate->dq,mem_append->dM,append_assoc->dO,getElem?_append_left->dP,mem_singleton->dQ,Mem->dS,mem_cons->ey,mem_map->eL,take_of_length_le->eM,getElem?_append_right->eW,mem_of_getElem?->fi,append_nil->fD,getElem?_map->fE,mem_cons_of_mem->fM,length_drop->fQ,getElem?_set_ne->gr,getD_eq_getElem?_getD->gD,getElem?_eq_none->gO,drop_zero->g_,getElem?_take_of_lt->hU,getElem?_set_self->ig,length_singleton->ii,length_set->ir,mem_cons_self->iu,range->iw,mem_append_left->iL,length_cons->iZ,take_add_one->i_,flatten_cons->jm,getElem?_drop->jw,getElem?_of_mem->jx,map_append->jy,nil_append->jV,length_nil->kn,mem_filter->kM,ext_getElem?->lw,eq_nil_of_length_eq_zero->ma,map_cons->mb,mem_append_right->mc
open Nat renaming le_refl->av,zero_le->bt,beq->cp,eq_of_beq_eq_true->cU,zero_add->c9,add_assoc->gE,lor->iy,lt_or_ge->jX,sub_zero->lT,le_trans->mf
open Option renaming some->bb,bind_eq_some_iff->kP,map->mO
open Int renaming toNat_natCast->cP,le_refl->fa
open Bool renaming and_eq_true->km,not_eq_false'->lm,not_eq_true'->lR
set_option linter.unusedVariables false
set_option linter.unusedSimpArgs false
set_option maxRecDepth 100000
def jt (ep nu:Int) (c:List Int) (x:List L3):List Int:=aY ep++(aY nu++(cJ (b_ c)++cJ (bh x)))
def f_ (R:κ):List Int:=jt R.ep R.nu R.c (gl R)
def Fs:FuncId->Option dA
 | 38=>some ⟨[],ee [true,true,true,true,true,true,false,true,true,true,true,true,true,true,true,true,true,true,true,true,true,true] zM⟩
 | 39=>some ⟨[],ee [true,true,true,true,true,true,false,false,true,true,true,true,true,true,true,true,true,true,true,true,true,true] Ad⟩
 |f=>v6 f
noncomputable def xb:bJ:=dG Tryz.prog Fs aG 10
abbrev Iw (me id:Int) (bl:Bool) (ep nu:Int) (c:List Int) (M:ML):KO:=.cells [.int Z me,.int Z id,θ bl,θ false,.int Z ep,.int Z nu,bB 128 (aU ι c),ae M,.int Z 0,.int Z 0,.int Z 0,aD (.sl 1 []),aD (.sl 1 []),θ false,γ (.map none),γ (.map none),.aa none,.int Z 0,θ false,.int Z 0,.sl 1 0 0,.sl 2 0 0]
def DS:aE:=fun args kb K=>match args,kb with
 | [.int Z me,.int Z id,θ bl],[]=>K (aj 0 0) [Iw me id bl 0 0 jR [],ξ 107 5 [],ξ 70 7 []]
 |_,_=>False
def nh (l:List Int) (lo:Nat) (e most:Int):Int×Nat×Int:=((cx (l.drop lo) e most).1,lo+(cx (l.drop lo) e most).2.1,(cx (l.drop lo) e most).2.2)
def pM (l:List Int) (lo:Nat) (e most:Int):List Int×Nat×Int:=((gA (l.drop lo) e most).1,lo+(gA (l.drop lo) e most).2.1,(gA (l.drop lo) e most).2.2)
structure oq (A:List (List D)) (h lo:Nat) (l:List Int):Prop where
 e:A=ints ι l
 h:h=l.length
 lo:lo<=l.length
 b:bm l
 m:l.length<=140737488355328
def Eo:aE:=fun args kb K=>match args,kb with
 | [aj 0 0,.int Z most],[ar [.sl 1 lo h,.int Z e],ξ 5 1 A]=>∃ l:List Int,oq A h lo l/\
  ∀ v p e',nh l lo e most=(v,p,e')->K (.int Z v) [ar [.sl 1 p l.length,.int Z e'],ξ 5 1 (ints ι l)]
 |_,_=>False
def Ep:aE:=fun args kb K=>match args,kb with
 | [aj 0 0,.int Z most],[ar [.sl 1 lo h,.int Z e],ξ 5 1 A]=>∃ l:List Int,oq A h lo l/\
  ∀ t p e',pM l lo e most=(t,p,e')->K (.sl 2 0 t.length) [ar [.sl 1 p l.length,.int Z e'],ξ 5 1 (ints ι l),ξ 5 1 (ints ι t)]
 |_,_=>False
def Em:aE:=fun args kb K=>match args,kb with
 | [aj 0 0],[ar [.sl 1 lo h,.int Z e],ξ 5 1 A]=>∃ l:List Int,oq A h lo l/\
  ∀ e',iE (l.drop lo) e=e'->K (.int Z e') [ar [.sl 1 lo l.length,.int Z e'],ξ 5 1 (ints ι l)]
 |_,_=>False
def H3:FuncId->Option dA
 | 22=>some ⟨[],DS⟩
 | 31=>some ⟨[],Eo⟩
 | 32=>some ⟨[],Ep⟩
 | 35=>some ⟨[],Em⟩
 | 30=>some ⟨[.fI 1],zY⟩
 | 33=>some ⟨[.fe 1],wX⟩
 | 34=>some ⟨[.fe 1],zJ⟩
 |_=>none
noncomputable def Mg:bJ:=dG Tryz.prog H3 aG 10
abbrev MS:=fun(R:κ) (T:ML) (mr:(List Int)->_) (K:V->KB->Prop)=>(
 ∃(y1:List Int),[]=ints ι y1/\
 0=y1.length/\
 y1.length<=10000000/\
 jk R.ep/\
 ∃(y2:List Int),ints ι (y1++aY R.ep)=ints ι y2/\
 (y1++aY R.ep).length=y2.length/\
 y2.length<=10000000/\
 jk R.nu/\
 ∀(y3:Nat->
 Value),∃(y4:List Int),aU ι R.c=aU ι y4/\
 y4.length=128/\
 (∀(y5:Int),dS y5 y4->
 0<=y5/\
 y5<256)/\
 bu y3 [0,1,2,3,4,5,7,8,9,10,11,12,13,14,15,16,17,18,19,20,21]/\
 (132<=(ints ι (b_ y4)).length/\
 True)/\
 ∃(y6:List Int),∃(y7:List Int),ints ι (y2++aY R.nu)=ints ι y6/\
 ay 0 (az 132 (ints ι (b_ y4)))=ints ι y7/\
 (y2++aY R.nu).length=y6.length/\
 y6.length<=1000000/\
 y7.length<=1000000/\
 ox (ints ι (y6++cJ y7)).flatten/\
 ∀(y8:Nat->
 Value),∃(y9:List L3),bI T y9/\
 bu y8 [0,1,2,3,4,5,8,9,10,11,12,13,14,15,16,17,18,19,20,21]/\
 ((bh y9).length<=(ints ι (bh y9)).length/\
 True)/\
 ∃(cO:List Int),∃(cy:List Int),ints ι (y6++cJ y7)=ints ι cO/\
 ay 0 (az (bh y9).length (ints ι (bh y9)))=ints ι cy/\
 (y6++cJ y7).length=cO.length/\
 cO.length<=1000000/\
 cy.length<=1000000/\
 ox (ints ι (cO++cJ cy)).flatten/\
 ∃(cz:List Int),ints ι (cO++cJ cy)=ints ι cz/\
 (cO++cJ cy).length=cz.length/\
 cz.length<=1000000/\
 cz.length<=(ints ι cz).length/\
 K (aD (ψ 1 (ay 0 (az cz.length (ints ι cz))))) (mr y4)
 :Prop)
theorem af8 (R:κ) (T:ML) (ο π:Value) (K:V->KB->Prop) (an:
 MS R T (fun y4=>[cS R (ε Z R.nu) (bB 128 (aU ι y4)) (θ R.ch) (ae T) (θ false) (γ ο) (γ π) (aP none) (δ 1 0 (nO R)) (δ 2 0 (nD R)),rO R,rD R]) K
 ):aI Tryz.prog xb (aG 11) 11 [aj 0 0] [cR R (ae T) (θ false) (γ ο) (γ π) (.aa none) (.sl 1 0 (nO R)) (.sl 2 0 (nD R)),rO R,rD R] (jE [.fe 1] (eQ K)):=by apply Eq.mp (a:=an);kernel_rfl
theorem af7 (R:κ) (T:ML) (I Q:ML) (u:Option (List D)) (K:V->KB->Prop) (an:
 MS R T (fun y4=>[cS R (ε Z R.nu) (bB 128 (aU ι y4)) (θ R.ch) (ae T) (θ true) (aX 1) (aX 2) (aP u) (δ 3 0 (nO R)) (δ 4 0 (nD R)),ai I,ai Q,rO R,rD R]) K
 ):aI Tryz.prog xb (aG 11) 11 [aj 0 0] [cR R (ae T) (θ true) (.mp 1) (.mp 2) (.aa u) (.sl 3 0 (nO R)) (.sl 4 0 (nD R)),ai I,ai Q,rO R,rD R] (jE [.fe 1] (eQ K)):=by apply Eq.mp (a:=an);kernel_rfl
theorem agT (me id:Int) (bl:Bool) (K:V->KB->Prop) (an:
 K (aj 0 0) [ar [ε Z me,ε Z id,θ bl,θ false,ε Z 0,ε Z 0,bB 128 (dq 128 (ζ (ν ι 0))),ae [],ε Z 0,ε Z 0,ε Z 0,aD (ψ 1 []),aD (ψ 1 []),θ false,γ (kq none),γ (kq none),aP none,ε Z 0,θ false,ε Z 0,δ 1 0 0,δ 2 0 0],ξ 107 5 [],ξ 70 7 []]
 ):aI Tryz.prog X0 (aG 22) 22 [.int Z me,.int Z id,θ bl] [] (eZ [.tF 0 138 1,.tF 0 139 1,.cell 0 147 107 5,.cell 0 148 70 7,.oG 0 134 [Z] false true 2,.qf 0 143] K):=by apply Eq.mp (a:=an);kernel_rfl
theorem agQ (me id:Int) (l:List Int) (K:V->KB->Prop) (an:
 let aC:=bB 128 (dq 128 (ζ (ν ι 0)));let aH:=(aw [aj 0 0,θ true]);let η:=K (aw [γ (Value.pointer none),θ false]) [];(ints ι l).length<=140737488355328/\
 ∃(y1:List Int),oq (ints ι l) (ints ι l).length 0 y1/\
 ∀(y2:Int) (y3:Nat) (y4:Int),nh y1 0 0 1099511627776=(y2,y3,y4)->
 ∃(y5:List Int),oq (ints ι y1) y1.length y3 y5/\
 ∀(y6:Int) (y7:Nat) (y8:Int),nh y5 y3 y4 1099511627776=(y6,y7,y8)->
 ∃(y9:List Int),oq (ints ι y5) y5.length y7 y9/\
 ∀(cO:List Int) (cy:Nat) (cz:Int),pM y9 y7 y8 (↑(ints ι l).length:Int)=(cO,cy,cz)->
 ∃(cL:List Int),oq (ints ι y9) y9.length cy cL/\
 ∀(dy:List Int) (cY:Nat) (fK:Int),let bj:=dy.length<=(ints ι dy).length;let aO:=(az dy.length (ints ι dy));pM cL cy cz (↑(ints ι l).length:Int)=(dy,cY,fK)->
 cO.length<=(ints ι cO).length/\
 ∃(dh:List Int),ay 0 (az cO.length (ints ι cO))=ints ι dh/\
 (∀(e_:Int),dS e_ dh->
 0<=e_/\
 e_<256)/\
 dh.length<=900000/\
 (∀(ft:List Int),fq dh=some ft->
 ft.length=128->
 bj/\
 ∃(fC:List Int),ay 0 aO=ints ι fC/\
 (∀(eT:Int),dS eT fC->
 0<=eT/\
 eT<256)/\
 fC.length<=140737488355328/\
 (((∃(fu:List L3),eX fu/\
 fC=bh fu)->
 False)->
 ∃(iI:List Int),oq (ints ι cL) cL.length cY iI/\
 ∀(fX:Int),iE (ay cY iI) fK=fX->
 ((fX != 0)=true->
 η)/\
 ((fX != 0)=false->
 (false=true->
 η)/\
 (false=false->
 (true=true->
 η)/\
 (true=false->
 γ (kq none)=γ (kq none)/\
 K aH [ar [ε Z me,ε Z id,θ false,θ false,ε Z y2,ε Z y6,bB 128 (aU ι ft),γ (kq none),ε Z 0,ε Z 0,ε Z 0,aD (ψ 1 []),aD (ψ 1 []),θ false,γ (kq none),γ (kq none),aP none,ε Z 0,θ false,ε Z 0,δ 1 0 0,δ 2 0 0],ξ 107 5 [],ξ 70 7 []]))))/\
 ∀(eK:List L3) (eU:ML),let au:=K aH [ar [ε Z me,ε Z id,θ false,θ false,ε Z y2,ε Z y6,bB 128 (aU ι ft),ae eU,ε Z 0,ε Z 0,ε Z 0,aD (ψ 1 []),aD (ψ 1 []),θ false,γ (kq none),γ (kq none),aP none,ε Z 0,θ false,ε Z 0,δ 1 0 0,δ 2 0 0],ξ 107 5 [],ξ 70 7 []];bI eU eK->
 fC=bh eK->
 ∃(ef:List Int),oq (ints ι cL) cL.length cY ef/\
 ∀(iJ:Int),iE (ay cY ef) fK=iJ->
 ((iJ != 0)=true->
 η)/\
 ((iJ != 0)=false->
 (false=true->
 η)/\
 (false=false->
 (false=true->
 η)/\
 (false=false->
 au/\
 au))))/\
 ((∀(jO:List Int),fq dh=some jO->
 jO.length=128->
 False)->
 bj/\
 ∃(gZ:List Int),ay 0 aO=ints ι gZ/\
 (∀(fh:Int),dS fh gZ->
 0<=fh/\
 fh<256)/\
 gZ.length<=140737488355328/\
 (((∃(jP:List L3),eX jP/\
 gZ=bh jP)->
 False)->
 ∃(ki:List Int),oq (ints ι cL) cL.length cY ki/\
 ∀(jQ:Int),iE (ay cY ki) fK=jQ->
 ((jQ != 0)=true->
 η)/\
 ((jQ != 0)=false->
 (true=true->
 η)/\
 (true=false->
 (true=true->
 η)/\
 (true=false->
 γ (kq none)=γ (kq none)/\
 K aH [ar [ε Z me,ε Z id,θ false,θ false,ε Z y2,ε Z y6,aC,γ (kq none),ε Z 0,ε Z 0,ε Z 0,aD (ψ 1 []),aD (ψ 1 []),θ false,γ (kq none),γ (kq none),aP none,ε Z 0,θ false,ε Z 0,δ 1 0 0,δ 2 0 0],ξ 107 5 [],ξ 70 7 []]))))/\
 ∀(kF:List L3) (n_:ML),let ω:=K aH [ar [ε Z me,ε Z id,θ false,θ false,ε Z y2,ε Z y6,aC,ae n_,ε Z 0,ε Z 0,ε Z 0,aD (ψ 1 []),aD (ψ 1 []),θ false,γ (kq none),γ (kq none),aP none,ε Z 0,θ false,ε Z 0,δ 1 0 0,δ 2 0 0],ξ 107 5 [],ξ 70 7 []];bI n_ kF->
 gZ=bh kF->
 ∃(mK:List Int),oq (ints ι cL) cL.length cY mK/\
 ∀(kG:Int),iE (ay cY mK) fK=kG->
 ((kG != 0)=true->
 η)/\
 ((kG != 0)=false->
 (true=true->
 η)/\
 (true=false->
 (false=true->
 η)/\
 (false=false->
 ω/\
 ω))))
 ):aI Tryz.prog Mg (aG 10) 10 [.int Z me,.int Z id,aD (.sl 1 (ints ι l))] [] K:=by apply Eq.mp (a:=an);kernel_rfl
theorem Ax {a b:List Int} (ha:bm a) (hb:bm b):bm (a++b):=fun c hc=>(dM.1 hc).elim (ha c) (hb c)
theorem QZ {l:List Int} (hb:bm l) {lo:Nat} {e m v e':Int} {p:Nat} (hlo:lo<=l.length) (h:nh l lo e m=(v,p,e')):p<=l.length:=by
 have:=uk hb (p:=(lo,e)) hlo m
 unfold nh at h
 simp only[Prod.mk.injEq]at h
 obtain⟨-,h2,-⟩:=h
 rw[<- h2];exact this
theorem IM {l:List Int} (hb:bm l) {lo:Nat} {e m v:Int} {p:Nat} (hm:0<=m) (h:nh l lo e m=(v,p,0)):e=0/\l.drop lo=aY v++l.drop p/\0<=v/\v<=m:=by
 unfold nh at h
 simp only[Prod.mk.injEq]at h
 obtain⟨h1,h2,h3⟩:=h
 have hs:(gU l (lo,e) m).2=0:=h3
 have k1:=vS hs
 have k2:=yn hb hs
 have k3:=yH (l:=l.drop lo) hm e
 refine⟨k1,?_,by rw[<- h1];exact k3.2,by rw[<- h1];exact k3.1⟩
 rw[<- h1,<- h2]
 exact k2
theorem QY {pre rest:List Int} {v m:Int} (h0:0<=v) (hm:v<=m) (h:m<=9223372036854775807):nh (pre++(aY v++rest)) pre.length 0 m=(v,(pre++aY v).length,0):=by
 have:=ym (pre:=pre) (rest:=rest) h0 (by omega) hm
 unfold gU jp at this
 simp only[Prod.mk.injEq]at this
 unfold nh
 rw[this.2,this.1.1,this.1.2]
theorem adP {l:List Int} {e most:Int} (h:e≠0):gA l e most=([],0,e):=by
 unfold gA
 rw[Cq h]
 simp [h]
theorem adO {l:List Int} (hb:bm l) (e m:Int):(gA l e m).1.length<=l.length/\(gA l e m).2.1<=l.length/\bm (gA l e m).1:=by
 have k:=(yI hb e m).2.2
 unfold gA
 split
 ·split
  ·exact⟨bt _,k,fun c hc=>by cases hc⟩
  ·rename_i h2
   rw[fQ]at h2
   refine⟨by rw[cQ,fQ];omega,by simp only;omega,bm.take (pY hb _) _⟩
 ·exact⟨bt _,k,fun c hc=>by cases hc⟩
theorem Ub {l:List Int} (hb:bm l) {lo:Nat} {e m e':Int} {t:List Int} {p:Nat} (hlo:lo<=l.length) (h:pM l lo e m=(t,p,e')):p<=l.length/\t.length<=l.length/\bm t:=by
 have:=adO (pY hb lo) e m
 rw[fQ]at this
 unfold pM at h
 simp only[Prod.mk.injEq]at h
 obtain⟨h1,h2,-⟩:=h
 rw[<- h1,<- h2]
 exact⟨by omega,by omega,this.2.2⟩
theorem Uc {l:List Int} (hb:bm l) {lo:Nat} {e m:Int} {t:List Int} {p:Nat} (hm:0<=m) (h:pM l lo e m=(t,p,0)):e=0/\l.drop lo=cJ t++l.drop p:=by
 unfold pM at h
 simp only[Prod.mk.injEq]at h
 obtain⟨h1,h2,h3⟩:=h
 have he:e=0:=Classical.byContradiction fun f=>by
  rw[adP f]at h3;exact f h3
 subst he
 refine⟨rfl,?_⟩
 unfold gA at h1 h2 h3
 split at h3
 ·rename_i hn
  rw[if_pos hn]at h1 h2
  split at h3
  ·cases h3
  ·rename_i hl
   rw[if_neg hl]at h1 h2
   obtain⟨-,k1,k2,-⟩:=IM (lo:=lo) (e:=0) (m:=m) (v:=(cx (l.drop lo) 0 m).1) (p:=lo+(cx (l.drop lo) 0 m).2.1) hb hm (by unfold nh;rw[hn])
   simp only at h1 h2
   have hlen:(t.length:Int)=(cx (l.drop lo) 0 m).1:=by
    rw[<- h1,cQ]
    omega
   unfold cJ
   rw[hlen,dO]
   have e2:t++l.drop p=l.drop (lo+(cx (l.drop lo) 0 m).2.1):=by
    rw[<- h1,<- h2,<- gE,<- List.drop_drop,<- List.drop_drop,List.take_append_drop]
   rw[e2]
   exact k1
 ·rename_i hn
  exact absurd h3 hn
theorem Ua {pre rest b:List Int} {m:Int} (hm:(b.length:Int)<=m) (h:m<=9223372036854775807):pM (pre++(cJ b++rest)) pre.length 0 m=(b,(pre++cJ b).length,0):=by
 unfold pM
 rw[List.drop_left,Su hm (by omega),bn]
structure oh (l:List Int) (ep nu:Int) (c:List Int) (x:List L3):Prop where
 e:l=jt ep nu c x
 e0:0<=ep
 e1:ep<=1099511627776
 n0:0<=nu
 n1:nu<=1099511627776
 cl:c.length=128
 x:eX x
structure LK (l:List Int) (v v1:Int) (t t1:List Int) (e:Int):Prop where
 back:e=0->∀ c x,t=b_ c->c.length=128->t1=bh x->eX x->oh l v v1 c x
 fwd:∀ ep nu c x,oh l ep nu c x->v=ep/\v1=nu/\t=b_ c/\t1=bh x/\e=0
theorem R_ {l:List Int} (hb:bm l) (hl:l.length<=900000) {v v1:Int} {t t1:List Int} {p p1 p2 p3:Nat} {e e1 e2 e3 e4:Int} (h1:nh l 0 0 1099511627776=(v,p,e)) (h2:nh l p e 1099511627776=(v1,p1,e1)) (h3:pM l p1 e1 l.length=(t,p2,e2)) (h4:pM l p2 e2 l.length=(t1,p3,e3)) (h5:iE (l.drop p3) e3=e4):LK l v v1 t t1 e4:=by
 refine⟨fun h c x ht hc ht1 hx=>?_,fun ep nu c x hr=>?_⟩
 ·subst h
  obtain⟨rfl,q5⟩:=St h5
  obtain⟨rfl,q4⟩:=Uc hb (by omega) h4
  obtain⟨rfl,q3⟩:=Uc hb (by omega) h3
  obtain⟨rfl,q2,k1,k2⟩:=IM hb (by omega) h2
  obtain⟨-,q1,k3,k4⟩:=IM hb (by omega) h1
  refine⟨?_,k3,k4,k1,k2,hc,hx⟩
  rw[g_]at q1
  unfold jt
  rw[q1,q2,q3,q4,q5,fD,ht,ht1]
 ·obtain⟨rfl,a0,a1,a2,a3,a4,a5⟩:=hr
  have hlen:(b_ c).length<=(jt ep nu c x).length/\(bh x).length<=(jt ep nu c x).length:=by
   unfold jt cJ;simp only[bn];omega
  have b1:=QY (pre:=[]) (rest:=aY nu++(cJ (b_ c)++cJ (bh x))) a0 a1 (by omega)
  rw[jV]at b1
  have c1:nh (jt ep nu c x) 0 0 1099511627776=(ep,([]++aY ep).length,0):=b1
  rw[c1]at h1
  simp only[Prod.mk.injEq]at h1
  obtain⟨rfl,rfl,rfl⟩:=h1
  have b2:=QY (pre:=[]++aY ep) (rest:=cJ (b_ c)++cJ (bh x)) a2 a3 (by omega)
  have c2:nh (jt ep nu c x) ([]++aY ep).length 0 1099511627776=(nu,([]++aY ep++aY nu).length,0):=b2
  rw[c2]at h2
  simp only[Prod.mk.injEq]at h2
  obtain⟨rfl,rfl,rfl⟩:=h2
  have b3:=Ua (pre:=[]++aY ep++aY nu) (b:=b_ c) (rest:=cJ (bh x)) (m:=((jt ep nu c x).length:Int)) (by omega) (by omega)
  have r3:[]++aY ep++aY nu++(cJ (b_ c)++cJ (bh x))=jt ep nu c x:=by unfold jt;simp [dO]
  rw[r3]at b3
  rw[b3]at h3
  simp only[Prod.mk.injEq]at h3
  obtain⟨rfl,rfl,rfl⟩:=h3
  have b4:=Ua (pre:=[]++aY ep++aY nu++cJ (b_ c)) (b:=bh x) (rest:=[]) (m:=((jt ep nu c x).length:Int)) (by omega) (by omega)
  have r4:[]++aY ep++aY nu++cJ (b_ c)++(cJ (bh x)++[])=jt ep nu c x:=by unfold jt;simp [dO]
  rw[r4]at b4
  rw[b4]at h4
  simp only[Prod.mk.injEq]at h4
  obtain⟨rfl,rfl,rfl⟩:=h4
  refine⟨rfl,rfl,rfl,rfl,?_⟩
  rw[<- h5]
  have r5:jt ep nu c x=[]++aY ep++aY nu++cJ (b_ c)++cJ (bh x):=by rw[<- r4,fD]
  rw[r5,List.drop_length]
  rfl
theorem ad_ (ep nu:Int) {c:List Int} (hc:c.length=128) {x:List L3} (hx:x.length<=32):(jt ep nu c x).length<=2000:=by
 have h1:=jJ ep
 have h2:=jJ nu
 have h3:=rR (b_ c)
 have h4:=rR (bh x)
 have h5:=ux hx x.length
 rw[ta]at h5
 rw[oS,hc]at h3
 unfold jt;simp only[bn];omega
theorem Kn {x:List L3} (h:eX x):bm (bh x):=by
 unfold bh gv
 refine Ax (pF (by have:=h.len;omega)) fun c hc=>?_
 simp only[List.mem_flatten,eL]at hc
 obtain⟨_,⟨p,hp,rfl⟩,hc⟩:=hc
 have hr:=h.rg p hp
 unfold mI at hc
 simp only[dM]at hc
 rcases hc with (hc | hc) | hc
 ·exact pF (by omega) c hc
 ·exact pF (by omega) c hc
 ·exact pF (by omega) c hc
theorem ad9 {ep nu:Int} {c:List Int} {x:List L3} (h1:ep<=9223372036854775807) (h2:nu<=9223372036854775807) (hc:c.length=128) (hb:bm c) (hx:eX x):bm (jt ep nu c x):=by
 have h5:=ux hx.len x.length
 rw[ta]at h5
 exact Ax (pF h1) (Ax (pF h2) (Ax (C7 (CL hb) (by rw[oS];omega)) (C7 (Kn hx) (by omega))))
theorem abY:aN Tryz.prog 31 Eo:=fun args kb K h=>Rl args kb K (by
 unfold Eo at h
 unfold z8
 split at h<;>try exact h.elim
 obtain⟨l,h1,h2⟩:=h
 exact⟨l,h1.e,h1.h,h1.lo,h1.b,h1.m,h2 _ _ _ rfl⟩)
theorem acE:aN Tryz.prog 32 Ep:=fun args kb K h=>Rt args kb K (by
 unfold Ep at h
 unfold z_
 split at h<;>try exact h.elim
 obtain⟨l,h1,h2⟩:=h
 exact⟨l,h1.e,h1.h,h1.lo,h1.b,h1.m,h2 _ _ _ rfl⟩)
theorem abw:aN Tryz.prog 35 Em:=fun args kb K h=>Rc args kb K (by
 unfold Em at h
 unfold z7
 split at h<;>try exact h.elim
 obtain⟨l,h1,h2⟩:=h
 exact⟨l,h1.e,h1.h,h2 _ rfl⟩)
theorem WN:dF Tryz.prog Fs:=fun f k h=>by
 unfold Fs at h
 split at h
 ·cases h;exact fm Q8 _
 ·cases h;exact fm Rs _
 ·exact Cn _ _ h
theorem L4:bZ Tryz.prog xb:=dI mixed WN aG 10
theorem Rk:aN Tryz.prog 22 DS:=J5 fN mixed [.tF 0 138 1,.tF 0 139 1,.cell 0 147 107 5,.cell 0 148 70 7,.oG 0 134 [Z] false true 2,.qf 0 143] (fun args kb K h=>by
 unfold DS at h;split at h<;>try exact h.elim
 exact⟨_,agT _ _ _ K h⟩)
theorem aaE:dF Tryz.prog H3:=fun f k h=>by
 unfold H3 at h
 split at h
 ·cases h;exact Rk
 ·cases h;exact abY
 ·cases h;exact acE
 ·cases h;exact abw
 ·cases h;exact Rn
 ·cases h;exact I0
 ·cases h;exact Rj
 ·cases h
theorem VV:bZ Tryz.prog Mg:=dI mixed aaE aG 10
def LM:aE:=fun args kb K=>match args,kb with
 | [.int Z me,.int Z id,aD (.sl 1 B)],[]=>∃ l,B=ints ι l/\bm l/\l.length<=900000/\
  ((¬ ∃ ep nu c x,oh l ep nu c x)->K (.υ [γ (.pointer none),θ false]) [])/\
  ∀ ep nu c x M,oh l ep nu c x->bI M x->K (.υ [aj 0 0,θ true]) [Iw me id false ep nu c M,ξ 107 5 [],ξ 70 7 []]
 |_,_=>False
theorem acn:aN Tryz.prog 10 LM:=dW VV mixed (fun args kb K h=>by
 unfold LM at h;split at h<;>try exact h.elim
 obtain⟨l,rfl,hb,hl,hno,h1⟩:=h
 refine⟨_,agQ _ _ l K ?_⟩
 have hk:∀{lo:Nat},lo<=l.length->oq (ints ι l) l.length lo l:=fun h=>⟨rfl,rfl,h,hb,by omega⟩
 have tk:∀ t:List Int,ay 0 (az t.length (ints ι t))=ints ι t:=fun t=>by rw[g_,eM (by rw[bi];omega)]
 simp only[bi]
 refine⟨by omega,l,hk (bt _),fun v p e q1=>?_⟩
 have b1:=QZ hb (bt _) q1
 refine⟨l,hk b1,fun v1 p1 e1 q2=>?_⟩
 have b2:=QZ hb b1 q2
 refine⟨l,hk b2,fun t p2 e2 q3=>?_⟩
 have b3:=Ub hb b2 q3
 refine⟨l,hk b3.1,fun t1 p3 e3 q4=>?_⟩
 have b4:=Ub hb b3.1 q4
 have fin:∀ e4,iE (l.drop p3) e3=e4->LK l v v1 t t1 e4:=fun e4 q5=>R_ hb hl q1 q2 q3 q4 q5
 refine⟨av _,t,tk t,b3.2.2,by omega,fun m hm Bo=>⟨av _,t1,tk t1,b4.2.2,by omega,fun Hs=>⟨l,hk b4.1,fun e4 q5=>?_⟩,fun x M hT ua=>⟨l,hk b4.1,fun e4 q5=>?_⟩⟩,fun hnm=>?_⟩
 ·have no:K (.υ [γ (.pointer none),θ false]) []:=hno fun⟨ep,nu,c,x,hr⟩=>by
   obtain⟨-,-,-,k4,-⟩:=(fin e4 q5).fwd _ _ _ _ hr
   exact Hs ⟨x,hr.x,k4⟩
  exact⟨fun _=>no,fun _=>⟨fun q=>(by cases q),fun _=>⟨fun _=>no,fun q=>(by cases q)⟩⟩⟩
 ·have F:=fin e4 q5
  refine⟨fun hne=>hno fun⟨ep,nu,c,x,hr⟩=>?_,fun he=>⟨fun q=>(by cases q),fun _=>⟨fun q=>(by cases q),fun _=>?_⟩⟩⟩
  ·obtain⟨-,-,-,-,k⟩:=F.fwd _ _ _ _ hr
   rw[k]at hne;simp at hne
  ·have he:e4=0:=by simpa using he
   have k:=h1 v v1 m x M (F.back he m x (Cg hm) Bo ua hT.ok) hT
   exact⟨k,k⟩
 ·have no:K (.υ [γ (.pointer none),θ false]) []:=hno fun⟨ep,nu,c,x',hr⟩=>by
   obtain⟨-,-,k3,-,-⟩:=(fin _ rfl).fwd _ _ _ _ hr
   exact hnm c (by rw[k3,yy]) hr.cl
  exact⟨av _,t1,tk t1,b4.2.2,by omega,fun _=>⟨l,hk b4.1,fun e4 q5=>⟨fun _=>no,fun _=>⟨fun _=>no,fun q=>(by cases q)⟩⟩⟩,fun x M hT ua=>⟨l,hk b4.1,fun e4 q5=>⟨fun _=>no,fun _=>⟨fun _=>no,fun q=>(by cases q)⟩⟩⟩⟩)
def newR (me id:Int) (bl:Bool) (ep nu:Int) (c:List Int) (x:List L3):κ:=⟨me,id,ep,nu,0,0,bl,false,false,c,x,⟨0,0,0,[],[]⟩,none,[],[]⟩
theorem SJ (me id:Int) (bl:Bool) (ep nu:Int) (c:List Int) {x:List L3} {M:ML} (hM:bI M x):aF (newR me id bl ep nu c x) [Iw me id bl ep nu c M,ξ 107 5 [],ξ 70 7 []]:=by
 unfold aF newR
 exact⟨_,_,M,hM,rfl⟩
theorem ad8 (me id:Int) (bl:Bool) (ep:Int) {nu:Int} {c:List Int} (x:List L3) (h0:0<=nu) (h1:nu<=2199023255552) (hc:c.length=128) (hb:bm c):dw (newR me id bl ep nu c x):=
 ⟨hc,hb,h0,h1,bt _,bt _,bt _,fun o h=>by simp [newR,cw]at h⟩
theorem adA (R:κ) (T:ML) (ο π:Value) (hT:bI T R.t) (hl:R.ld=none) (hR:dw R) (hE:jk R.ep) (K:V->KB->Prop) (hK:∀ kb',aF R kb'->K (aD (.sl 1 (ints ι (f_ R)))) kb'):aI Tryz.prog xb (aG 11) 11 [aj 0 0] [cR R (ae T) (θ false) (γ ο) (γ π) (.aa none) (.sl 1 0 (nO R)) (.sl 2 0 (nD R)),rO R,rD R] (jE [.fe 1] (eQ K)):=by
 have hN:jk R.nu:=⟨by have:=hR.n1;omega⟩
 have e1:=rQ (sW hR.cl).symm
 have e2:=rQ (l:=bh R.t) rfl
 have w1:=jJ R.ep
 have w2:=jJ R.nu
 have w3:=rR (b_ R.c)
 have w4:=rR (bh R.t)
 have w5:=ux hT.len R.t.length
 rw[ta]at w5
 have w6:=sW hR.cl
 refine af8 R T ο π K ⟨[],rfl,rfl,bt _,hE,[]++aY R.ep,rfl,rfl,by rw[bn,kn];omega,hN,fun f=>⟨R.c,rfl,hR.cl,fun c h=>hR.cb c h,⟨by simp [bT]⟩,⟨by rw[bi,w6];exact av _,trivial⟩,[]++aY R.ep++aY R.nu,b_ R.c,rfl,e1,rfl,by simp only[bn,kn];omega,by omega,⟨oP⟩,fun f=>⟨R.t,hT,⟨by simp [bT]⟩,⟨by rw[bi];exact av _,trivial⟩,[]++aY R.ep++aY R.nu++cJ (b_ R.c),bh R.t,rfl,e2,rfl,by simp only[bn,kn];omega,by omega,⟨oP⟩,_,rfl,rfl,by simp only[bn,kn];omega,by rw[bi];exact av _,?_⟩⟩⟩
 rw[rQ rfl]
 have eb:[]++aY R.ep++aY R.nu++cJ (b_ R.c)++cJ (bh R.t)=f_ R:=by
  unfold f_ jt gl;simp [dO]
 rw[eb]
 refine hK _ ?_
 unfold aF
 simp only[hl]
 exact⟨ο,π,T,hT,rfl⟩
theorem adz (R:κ) (T:ML) (I Q:ML) (L:de) (hT:bI T R.t) (hl:R.ld=some L) (hI:MB I L.ins) (hQ:MB Q L.cN) (hR:dw R) (hE:jk R.ep) (K:V->KB->Prop) (hK:∀ kb',aF R kb'->K (aD (.sl 1 (ints ι (f_ R)))) kb'):aI Tryz.prog xb (aG 11) 11 [aj 0 0] [cR R (ae T) (θ true) (.mp 1) (.mp 2) (.aa (L.cur.map bo)) (.sl 3 0 (nO R)) (.sl 4 0 (nD R)),ai I,ai Q,rO R,rD R] (jE [.fe 1] (eQ K)):=by
 have hN:jk R.nu:=⟨by have:=hR.n1;omega⟩
 have e1:=rQ (sW hR.cl).symm
 have e2:=rQ (l:=bh R.t) rfl
 have w1:=jJ R.ep
 have w2:=jJ R.nu
 have w3:=rR (b_ R.c)
 have w4:=rR (bh R.t)
 have w5:=ux hT.len R.t.length
 rw[ta]at w5
 have w6:=sW hR.cl
 refine af7 R T I Q (L.cur.map bo) K ⟨[],rfl,rfl,bt _,hE,[]++aY R.ep,rfl,rfl,by rw[bn,kn];omega,hN,fun f=>⟨R.c,rfl,hR.cl,fun c h=>hR.cb c h,⟨by simp [bT]⟩,⟨by rw[bi,w6];exact av _,trivial⟩,[]++aY R.ep++aY R.nu,b_ R.c,rfl,e1,rfl,by simp only[bn,kn];omega,by omega,⟨oP⟩,fun f=>⟨R.t,hT,⟨by simp [bT]⟩,⟨by rw[bi];exact av _,trivial⟩,[]++aY R.ep++aY R.nu++cJ (b_ R.c),bh R.t,rfl,e2,rfl,by simp only[bn,kn];omega,by omega,⟨oP⟩,_,rfl,rfl,by simp only[bn,kn];omega,by rw[bi];exact av _,?_⟩⟩⟩
 rw[rQ rfl]
 have eb:[]++aY R.ep++aY R.nu++cJ (b_ R.c)++cJ (bh R.t)=f_ R:=by
  unfold f_ jt gl;simp [dO]
 rw[eb]
 refine hK _ ?_
 unfold aF
 simp only[hl]
 exact⟨I,Q,T,hI,hQ,hT,rfl⟩
def Vj:aE:=fun args kb K=>∃ R,args=[aj 0 0]/\aF R kb/\dw R/\jk R.ep/\∀ kb',aF R kb'->K (aD (.sl 1 (ints ι (f_ R)))) kb'
set_option maxHeartbeats 4000000 in
theorem abg:fZ Tryz.prog 11 Vj:=Ik mixed [.fe 1] [] (fun args kb K h=>by
 obtain⟨R,rfl,hkb,hR,hE,hK⟩:=h
 have iP:=hkb
 unfold aF at hkb
 split at hkb
 ·rename_i hl
  obtain⟨ο,π,T,hT,rfl⟩:=hkb
  exact⟨_,_,L4,adA R T ο π hT hl hR hE K hK⟩
 ·rename_i L hl
  obtain⟨I,Q,T,hI,hQ,hT,rfl⟩:=hkb
  exact⟨_,_,L4,adz R T I Q L hT hl hI hQ hR hE K hK⟩)
structure fR (o:Op):Prop where
 b:bm o.b
 l:o.b.length<=900000
structure bA (R:κ):Prop where
 ok:dw R
 tx:eX R.t
 om:∀ p∈R.out,kN p.m
 oc:∀ o,cw R=some o->fR o
structure jY (R R2:κ):Prop where
 i:bA R2
 o:R2.out.length<=R.out.length+1
 d:R2.done.length<=R.done.length+1
 me:R2.me=R.me
 id:R2.id=R.id
 v:R2.v=R.v
 ti:R2.ti=R.ti
theorem jY.refl {R:κ} (h:bA R):jY R R:=⟨h,Nat.le_succ _,Nat.le_succ _,rfl,rfl,rfl,rfl⟩
theorem afr {x:List L3} (h:eX x):bI (x.map o7) x:=⟨List.Perm.refl _,h.inc,h.rg,h.len⟩
theorem acP {x:List L3} {c n e:Int} (h:eX x) (h0:cX x c n e=0):eX (oQ x c n e):=(C5 (afr h) h0).ok
theorem Qg {b:List Int} {x:List L3} (h:loadT b=some x):eX x/\b=bh x:=by
 unfold loadT at h
 split at h
 ·rename_i hex
  have hc:=hex.choose_spec
  simp only[bb.injEq]at h
  exact⟨h ▸ hc.1,h ▸ hc.2⟩
 ·cases h
theorem Qd {b c:List Int} (h:j9 b=some c):c.length=128/\b=b_ c:=by
 unfold j9 at h
 split at h
 ·rename_i c' hc
  split at h
  ·rename_i hl
   cases h
   exact⟨hl,Cg hc⟩
  ·cases h
 ·cases h
theorem B5 (kd:Int) (n:List Int):kN ⟨kd,n,[],[]⟩:=⟨fun c h=>(by cases h),bt _,fun y h=>(by cases h)⟩
theorem Kf {R:κ} (hI:bA R) (to:Int):kN (kZ R to).m:=by
 have hx:eX (gl R):=hI.tx
 have hl:=ux hx.len (gl R).length
 rw[ta]at hl
 refine⟨CL hI.ok.cb,by show(b_ R.c).length<=_;rw[sW hI.ok.cl];omega,fun y hy=>?_⟩
 have:y=bh (gl R):=by simpa [kZ]using hy
 subst this
 exact⟨Kn hx,by omega⟩
theorem OP {R:κ} {o:Op} (h:fR o) (to:Int):kN (kS R o to).m:=⟨h.b,h.l,fun y h=>(by cases h)⟩
theorem wi {R:κ} (h:bA R) (ho:R.out.length<100000) {to kd:Int} {n b:List Int} {l:List (List Int)} (hm:kN ⟨kd,R.id::R.ep::n,b,l⟩):jY R (ib R to kd n b l):=by
 refine⟨⟨⟨h.ok.cl,h.ok.cb,h.ok.n0,h.ok.n1,h.ok.vl,?_,h.ok.dl,h.ok.cr⟩,h.tx,fun p hp=>?_,h.oc⟩,?_,Nat.le_succ _,rfl,rfl,rfl,rfl⟩
 ·simp only[ib,bn,ii];omega
 ·simp only[ib,dM,dQ]at hp
  rcases hp with hp | rfl
  ·exact h.om p hp
  ·exact hm
 ·simp only[ib,bn,ii];omega
theorem QF {R:κ} (h:bA R) (ho:R.out.length<100000) (to:Int):jY R (pC R to):=wi h ho (B5 _ _)
theorem ae6 {R:κ} (h:bA R) (ho:R.out.length<100000) (to:Int):jY R (qp R to):=wi h ho (Kf h to)
theorem wF {R:κ} (h:bA R) (hd:R.done.length<100000):bA (gn R)/\(gn R).done.length<=R.done.length+1:=by
 have hl:(gn R).done.length<=R.done.length+1:=by
  unfold gn
  cases cw R<;>simp
 exact⟨⟨⟨h.ok.cl,h.ok.cb,h.ok.n0,h.ok.n1,h.ok.vl,h.ok.ol,by omega,fun o ho=>by simp [gn,cw]at ho⟩,h.tx,h.om,fun o ho=>by simp [gn,cw]at ho⟩,hl⟩
theorem Gr {R:κ} (h:bA R) (hd:R.done.length<100000):bA (fV R)/\(fV R).done.length<=R.done.length+1/\(fV R).out=R.out/\(fV R).me=R.me/\(fV R).id=R.id/\(fV R).v=R.v/\(fV R).ti=R.ti:=by
 unfold fV
 split
 ·rename_i L hl
  split
  ·rename_i o ho
   split
   ·exact⟨⟨⟨h.ok.cl,h.ok.cb,h.ok.n0,h.ok.n1,h.ok.vl,h.ok.ol,by simp;omega,fun o ho=>by simp [cw]at ho⟩,h.tx,h.om,fun o ho=>by simp [cw]at ho⟩,by simp,rfl,rfl,rfl,rfl,rfl⟩
   ·exact⟨h,Nat.le_succ _,rfl,rfl,rfl,rfl,rfl⟩
  ·exact⟨h,Nat.le_succ _,rfl,rfl,rfl,rfl,rfl⟩
 ·exact⟨h,Nat.le_succ _,rfl,rfl,rfl,rfl,rfl⟩
theorem Ds {l:List Int} (h:l.any df=false) {i:Nat}:0<=l.getD i 0/\l.getD i 0<=1099511627776:=by
 rw[List.any_eq_false]at h
 rw[gD]
 cases hi:l[i]? with
 |none=>simp
 |some x=>
  have:=h x (fi hi)
  simp only[df,decide_eq_true_eq]at this
  simp only[Option.getD_some]
  omega
theorem afk {R:κ} (h:bA R) (ho:R.out.length<100000) (hd:R.done.length<100000) (fr:Int) {m:dY} (hm:kN m) (hw:m.n.any df=false):jY R (jh R fr m):=by
 unfold jh
 split
 ·exact QF h ho fr
 ·split
  ·rename_i c t hc ht
   obtain⟨k1,k2⟩:=wF h hd
   obtain⟨c1,c2⟩:=Qd hc
   have cb:bm c:=fun x hx=>hm.b x (by rw[c2];unfold b_;exact iL _ hx)
   have n2:=Ds hw (i:=2)
   have hY:bA {gn R with ep:=bU m 1,nu:=bU m 2,c:=c,t:=t,ch:=true }:=by
    refine⟨⟨c1,cb,n2.1,by have:=n2.2;show bU m 2<=_;unfold bU;omega,k1.ok.vl,k1.ok.ol,k1.ok.dl,fun o ho=>by simp [gn,cw]at ho⟩,(Qg ht).1,k1.om,fun o ho=>by simp [gn,cw]at ho⟩
   have:=wi (to:=fr) (kd:=11) (n:=[bU m 2]) (b:=[]) (l:=[]) hY (by exact ho) (B5 _ _)
   exact⟨this.i,this.o,k2,this.me,this.id,this.v,this.ti⟩
  ·exact jY.refl h
theorem Oa {R R1:κ} (h:bA R1) (hd:R1.done.length<100000) (e1:R1.out=R.out) (e2:R1.done=R.done) (e3:R1.me=R.me) (e4:R1.id=R.id) (e5:R1.v=R.v) (e6:R1.ti=R.ti):jY R (fV R1):=by
 obtain⟨k1,k2,k3,k4,k5,k6,k7⟩:=Gr h hd
 exact⟨k1,by rw[k3,e1];omega,by rw[<- e2];exact k2,k4.trans e3,k5.trans e4,k6.trans e5,k7.trans e6⟩
theorem ya {R:κ} (h:bA R) {L:de} (hl:R.ld=some L) (f g:Int->Bool):bA {R with ld:=some ⟨f,g,L.cur⟩ }:=by
 have hc:cw R=L.cur:=by unfold cw;rw[hl];rfl
 refine⟨⟨h.ok.cl,h.ok.cb,h.ok.n0,h.ok.n1,h.ok.vl,h.ok.ol,h.ok.dl,fun o ho=>h.ok.cr o (by rw[hc];exact ho)⟩,h.tx,h.om,fun o ho=>h.oc o (by rw[hc];exact ho)⟩
theorem aff {R:κ} (h:bA R) (hd:R.done.length<100000) (fr:Int) (m:dY):jY R (iH R fr m):=by
 unfold iH
 split
 ·exact jY.refl h
 ·rename_i L hl
  split
  ·exact jY.refl h
  ·split
   ·rename_i hc
    have:=ya h hl (mark L.ins fr true) L.cN
    rw[hc]at this
    exact⟨this,Nat.le_succ _,Nat.le_succ _,rfl,rfl,rfl,rfl⟩
   ·rename_i o hc
    have:=ya h hl (mark L.ins fr true) (mark L.cN fr true)
    rw[hc]at this
    exact Oa this hd rfl rfl rfl rfl rfl rfl
theorem ac1 {R:κ} (h:bA R) (hd:R.done.length<100000) (fr:Int) (m:dY):jY R (iC R fr m):=by
 unfold iC
 split
 ·exact jY.refl h
 ·rename_i L hl
  split
  ·exact jY.refl h
  ·rename_i o hc
   split
   ·have:=ya h hl L.ins (mark L.cN fr true)
    rw[hc]at this
    exact Oa this hd rfl rfl rfl rfl rfl rfl
   ·exact jY.refl h
theorem ad2 {R:κ} (h:bA R) (ho:R.out.length<100000) (hd:R.done.length<100000) (fr:Int) (m:dY):jY R (iF R fr m):=by
 unfold iF
 split
 ·exact jY.refl h
 ·rename_i L hl
  split
  ·obtain⟨k1,k2⟩:=wF h hd
   exact⟨k1,Nat.le_succ _,k2,rfl,rfl,rfl,rfl⟩
  ·split
   ·have h2:bA {R with lo:=true }:=⟨⟨h.ok.cl,h.ok.cb,h.ok.n0,h.ok.n1,h.ok.vl,h.ok.ol,h.ok.dl,h.ok.cr⟩,h.tx,h.om,h.oc⟩
    obtain⟨k1,k2⟩:=wF h2 hd
    exact⟨k1,Nat.le_succ _,k2,rfl,rfl,rfl,rfl⟩
   ·have:=ae6 (ya h hl (mark L.ins fr false) L.cN) ho fr
    exact⟨this.i,this.o,this.d,this.me,this.id,this.v,this.ti⟩
theorem SO {o:Op} (h:gB o=true):1<=o.kd/\o.kd<=4/\0<=o.bk/\o.bk<8/\0<=o.cl/\o.cl<=255/\1<=o.nm/\o.nm<=1099511627776/\(o.kd=1->o.b.length=16):=by
 unfold gB ke at h
 simp at h
 omega
theorem NT {t:List L3} (h:eX t) (o:Op):eX (j6 t o):=by
 unfold j6
 split
 ·rename_i hp
  exact acP h hp.2
 ·exact h
theorem F7 {R:κ} (h:bA R) {o:Op} (hr:gB o=true) (hb:bm o.b) (hn:R.nu<2199023255552):bA (iB R o):=by
 have k:=SO hr
 have c1:=NS (c:=R.c) h.ok.cl hr
 have c2:=NR (kd:=o.kd) (bk:=o.bk) h.ok.cb hb
 have n0:=h.ok.n0
 exact⟨⟨c1,c2,by show 0<=R.nu+1;omega,by show R.nu+1<=_;omega,h.ok.vl,h.ok.ol,h.ok.dl,h.ok.cr⟩,NT h.tx o,h.om,h.oc⟩
theorem ac9 {R:κ} (h:bA R) (ho:R.out.length<100000) (fr:Int) {m:dY} (hm:kN m) (hw:m.n.any df=false):jY R (jf R fr m):=by
 unfold jf
 split
 ·exact wi h ho (B5 _ _)
 ·split
  ·rename_i k
   obtain⟨_,k2,_,k4,_⟩:=k
   have n2:=Ds hw (i:=2)
   have k2:m.n.getD 2 0=R.nu+1:=k2
   have hD:=F7 h (o:=yw m) k4 hm.b (by omega)
   have:=wi (to:=fr) (kd:=13) (n:=[R.nu+1]) (b:=[]) (l:=[]) hD (by exact ho) (B5 _ _)
   exact⟨this.i,this.o,this.d,this.me,this.id,this.v,this.ti⟩
  ·exact QF h ho fr
theorem OA {R:κ} {fr:Int} {m:dY} (h:cI R fr m=true):m.n.any df=false:=by
 unfold cI at h
 simp only[km,lR]at h
 exact h.2
theorem YJ {R:κ} (h:bA R) (ho:R.out.length<100000) (hd:R.done.length<100000) (fr:Int) {m:dY} (hm:kN m):jY R (gF R fr m):=by
 unfold gF
 split
 ·exact jY.refl h
 ·rename_i hg
  have hw:=OA (by simpa using hg)
  split
  ·exact afk h ho hd fr hm hw
  ·split
   ·exact aff h hd fr m
   ·split
    ·exact ac9 h ho fr hm hw
    ·split
     ·exact ac1 h hd fr m
     ·exact ad2 h ho hd fr m
theorem Ci {R:κ} (h:bA R) {ps:List Post} (hp:∀ p∈ps,kN p.m) (hl:R.out.length+ps.length<=100000):bA {R with out:=R.out++ps }:=
 ⟨⟨h.ok.cl,h.ok.cb,h.ok.n0,h.ok.n1,h.ok.vl,by show(R.out++ps).length<=_;rw[bn];exact hl,h.ok.dl,h.ok.cr⟩,h.tx,fun p hm=>(dM.1 hm).elim (h.om p) (hp p),h.oc⟩
theorem C8 {R:κ} (h:bA R) (n:Int):bA {R with ti:=n }:=⟨⟨h.ok.cl,h.ok.cb,h.ok.n0,h.ok.n1,h.ok.vl,h.ok.ol,h.ok.dl,h.ok.cr⟩,h.tx,h.om,h.oc⟩
theorem Az {R:κ} (h:bA R) (b:Bool):bA {R with ch:=b }:=⟨⟨h.ok.cl,h.ok.cb,h.ok.n0,h.ok.n1,h.ok.vl,h.ok.ol,h.ok.dl,h.ok.cr⟩,h.tx,h.om,h.oc⟩
theorem RZ {R:κ} (h:bA R):bA {R with out:=[] }:=⟨⟨h.ok.cl,h.ok.cb,h.ok.n0,h.ok.n1,h.ok.vl,bt _,h.ok.dl,h.ok.cr⟩,h.tx,fun p hp=>(by cases hp),h.oc⟩
theorem F8 {R:κ} (h:bA R):bA {R with done:=[] }:=⟨⟨h.ok.cl,h.ok.cb,h.ok.n0,h.ok.n1,h.ok.vl,h.ok.ol,bt _,h.ok.cr⟩,h.tx,h.om,h.oc⟩
theorem NW {R:κ} (h:bA R) {d:List Dn} (hl:R.done.length+d.length<=100000):bA {R with done:=R.done++d }:=⟨⟨h.ok.cl,h.ok.cb,h.ok.n0,h.ok.n1,h.ok.vl,h.ok.ol,by show(R.done++d).length<=_;rw[bn];exact hl,h.ok.cr⟩,h.tx,h.om,h.oc⟩
theorem afy (R:κ) (L:de) (k:Int):(kh R L k).length<=1:=by
 unfold kh
 split
 ·simp
 ·split
  ·split<;>simp
  ·simp
theorem Kw (R:κ) (L:de):∀ l:List Int,(l.flatMap (kh R L)).length<=l.length
 | []=>by simp
 |a::l=>by
  have:=Kw R L l
  have:=afy R L a
  rw[List.flatMap_cons,bn,iZ];omega
theorem afz {R:κ} (h:bA R) {L:de} (hl:R.ld=some L) (k:Int):∀ p∈kh R L k,kN p.m:=by
 unfold kh
 split
 ·intro p hp
  rw[dQ]at hp;subst hp
  exact Kf h k
 ·split
  ·rename_i o ho
   split
   ·intro p hp
    rw[dQ]at hp;subst hp
    exact OP (h.oc o (by unfold cw;rw[hl];exact ho)) k
   ·intro p hp;cases hp
  ·intro p hp;cases hp
theorem afD {R:κ} (h:bA R) (ho:R.out.length+(aZ R).length<=100000):bA (gm R)/\(gm R).out.length<=R.out.length+(aZ R).length:=by
 unfold gm
 split
 ·exact⟨C8 h _,by simp⟩
 ·rename_i L hl
  have:=Kw R L (aZ R)
  split
  ·refine⟨C8 (Ci h (fun p hp=>?_) (by omega)) _,by show(R.out++_).length<=_;rw[bn];omega⟩
   obtain⟨k,_,hk⟩:=List.mem_flatMap.1 hp
   exact afz h hl k p hk
  ·exact⟨C8 h _,by simp⟩
structure oy (n:Nat) (R R2:κ):Prop where
 i:bA R2
 o:R2.out.length<=R.out.length+n
 d:R2.done.length<=R.done.length+1
 me:R2.me=R.me
 id:R2.id=R.id
 ti:R2.ti=R.ti
theorem oy.refl {n:Nat} {R:κ} (h:bA R):oy n R R:=⟨h,Nat.le_add_right _ _,Nat.le_succ _,rfl,rfl,rfl⟩
theorem Wz {R:κ} (h:bA R) {L:de} {o:Op} (hr:gB o=true) (ho:fR o) (hn:R.nu<2199023255552) (hout:R.out.length+(aZ R).length<=100000) (hd:R.done.length<100000):oy (aZ R).length R (lV R L o):=by
 have hD:=F7 h hr ho.b hn
 obtain⟨B,hB⟩:∃ B:κ,B={iB R o with ld:=some {L with cN:=fun _=>false,cur:=some o } }:=⟨_,rfl⟩
 have h1:bA B:=by
  subst hB
  exact⟨⟨hD.ok.cl,hD.ok.cb,hD.ok.n0,hD.ok.n1,hD.ok.vl,hD.ok.ol,hD.ok.dl,fun o' ho'=>by simp [cw]at ho';subst ho';exact hr⟩,hD.tx,hD.om,fun o' ho'=>by simp [cw]at ho';subst ho';exact ho⟩
 have e:lV R L o=fV {B with out:=B.out++(aZ R).map (kS B o) }:=by
  have e0:aZ B=aZ R:=by subst hB;rfl
  have e9:lV R L o=fV ((aZ B).foldl (fun r k=>xR r o k) B):=by subst hB;rfl
  rw[e9,tQ,e0]
 have e1:B.out=R.out:=by subst hB;rfl
 have e2:B.done=R.done:=by subst hB;rfl
 have e3:B.me=R.me/\B.id=R.id/\B.ti=R.ti:=by subst hB;exact⟨rfl,rfl,rfl⟩
 rw[e]
 have h2:=Ci h1 (ps:=(aZ R).map (kS B o)) (fun p hp=>by
  obtain⟨k,_,rfl⟩:=eL.1 hp
  exact OP ho k) (by rw[bX,e1];exact hout)
 obtain⟨k1,k2,k3,k4,k5,k6,k7⟩:=Gr h2 (by rw[e2];exact hd)
 exact⟨k1,by rw[k3];show(B.out++_).length<=_;rw[bn,bX,e1];exact av _,by rw[<- e2];exact k2,k4.trans e3.1,k5.trans e3.2.1,k7.trans e3.2.2⟩
theorem TC {R:κ} (h:bA R) {o:Op} (ho:fR o) (hn:R.nu<2199023255552) (hout:R.out.length+(aZ R).length<=100000) (hd:R.done.length<100000):oy (aZ R).length R (eS R o).2:=by
 unfold eS
 split
 ·exact oy.refl h
 ·rename_i hr
  have hr:gB o=true:=by simpa using hr
  split
  ·exact oy.refl h
  ·rename_i L hl
   split
   ·exact oy.refl h
   ·split
    ·exact oy.refl h
    ·split
     ·rename_i e R1 hk
      split at hk
      ·unfold l4 at hk
       split at hk
       ·cases hk
        exact⟨NW h (by simp;omega),Nat.le_add_right _ _,by simp,rfl,rfl,rfl⟩
       ·split at hk
        ·cases hk;exact oy.refl h
        ·split at hk
         ·cases hk
         ·cases hk;exact oy.refl h
      ·cases hk
     ·exact Wz h hr ho hn hout hd
def kw (R:κ) (w:Vw):κ:={gn R with v:=w,ep:=w.ve,ch:=R.ch || (R.ep != w.ve),ld:=some ⟨fun _=>false,fun _=>false,none⟩ }
theorem Di {R:κ} {w:Vw} (h:eC R w=false):gN R w=R:=if_pos h
theorem Dg {R:κ} {w:Vw} (h:eC R w=true) (h2:fH R w=false):gN R w={gn R with v:=w }:=by
 unfold gN;rw[if_neg (by simp [h])];dsimp only;rw[if_pos h2]
theorem Dh {R:κ} {w:Vw} (h:eC R w=true) (h2:fH R w=true):gN R w={kw R w with out:=R.out++(bz R.me w.mem w.aM).map (kZ (kw R w)) }:=by
 have e:gN R w=(aZ (kw R w)).foldl qp (kw R w):=by
  unfold gN;rw[if_neg (by simp [h])];dsimp only;rw[if_neg (by simp [h2])];rfl
 rw[e,Kg];rfl
theorem P5 {R:κ} (h:bA R) {w:Vw} (hw:w.mem.length+w.aM.length<=1000) (hd:R.done.length<100000):bA (kw R w)/\(kw R w).done.length<=R.done.length+1:=by
 obtain⟨k1,k2⟩:=wF h hd
 exact⟨⟨⟨k1.ok.cl,k1.ok.cb,k1.ok.n0,k1.ok.n1,hw,k1.ok.ol,k1.ok.dl,fun o ho=>by simp [kw,cw]at ho⟩,k1.tx,k1.om,fun o ho=>by simp [kw,cw]at ho⟩,k2⟩
theorem UD {R:κ} (h:bA R) {w:Vw} (hw:w.mem.length+w.aM.length<=1000) (hout:R.out.length+(bz R.me w.mem w.aM).length<=100000) (hd:R.done.length<100000):oy (bz R.me w.mem w.aM).length R (gN R w):=by
 cases hg:eC R w with
 |false=>rw[Di hg];exact oy.refl h
 |true=>
  obtain⟨k1,k2⟩:=wF h hd
  cases hl:fH R w with
  |false=>
   rw[Dg hg hl]
   exact⟨⟨⟨k1.ok.cl,k1.ok.cb,k1.ok.n0,k1.ok.n1,hw,k1.ok.ol,k1.ok.dl,k1.ok.cr⟩,k1.tx,k1.om,k1.oc⟩,Nat.le_add_right _ _,k2,rfl,rfl,rfl⟩
  |true=>
   rw[Dh hg hl]
   obtain⟨q1,q2⟩:=P5 h hw hd
   have:=Ci q1 (ps:=(bz R.me w.mem w.aM).map (kZ (kw R w))) (fun p hp=>by
    obtain⟨k,_,rfl⟩:=eL.1 hp
    exact Kf q1 k) (by rw[bX];exact hout)
   refine⟨this,?_,q2,rfl,rfl,rfl⟩
   show(R.out++_).length<=_
   rw[bn,bX];exact av _
theorem B0 (me id:Int) (bl:Bool) (ep:Int) {nu:Int} {c:List Int} {x:List L3} (h0:0<=nu) (h1:nu<=2199023255552) (hc:c.length=128) (hb:bm c) (hx:eX x):bA (newR me id bl ep nu c x):=
 ⟨ad8 me id bl ep x h0 h1 hc hb,hx,fun p hp=>(by cases hp),fun o ho=>by simp [newR,cw]at ho⟩
theorem K4:bm jR:=fun c hc=>by
 have:=List.eq_of_mem_replicate hc
 omega
end Go.Proofs.YtfcjngcnifdmnaaGreat
set_option linter.unusedSimpArgs false
set_option linter.unusedVariables false
namespace Vc
open Go
open Go.IntKind renaming i64->Z,u8->ι,u32->ic
open Go.Value renaming int->ν,map->kq,oneCell'->lU,bool->nE
open List renaming map->φ,drop->ay,take->az,length_append->bn,getElem?_eq_getElem->bp,getElem?_eq_some_iff->bG,length_map->bX,take_length->cM,length_take->cQ,replicate->dq,mem_append->dM,append_assoc->dO,getElem?_append_left->dP,mem_singleton->dQ,Mem->dS,mem_cons->ey,mem_map->eL,take_of_length_le->eM,getElem?_append_right->eW,mem_of_getElem?->fi,append_nil->fD,getElem?_map->fE,mem_cons_of_mem->fM,length_drop->fQ,getElem?_set_ne->gr,getD_eq_getElem?_getD->gD,getElem?_eq_none->gO,drop_zero->g_,getElem?_take_of_lt->hU,getElem?_set_self->ig,length_singleton->ii,length_set->ir,mem_cons_self->iu,range->iw,mem_append_left->iL,length_cons->iZ,take_add_one->i_,flatten_cons->jm,getElem?_drop->jw,getElem?_of_mem->jx,map_append->jy,nil_append->jV,length_nil->kn,mem_filter->kM,ext_getElem?->lw,eq_nil_of_length_eq_zero->ma,map_cons->mb,mem_append_right->mc
open Nat renaming le_refl->av,zero_le->bt,beq->cp,eq_of_beq_eq_true->cU,zero_add->c9,add_assoc->gE,lor->iy,lt_or_ge->jX,sub_zero->lT,le_trans->mf
open Option renaming some->bb,bind_eq_some_iff->kP,map->mO
open Int renaming toNat_natCast->cP,le_refl->fa
open Bool renaming and_eq_true->km,not_eq_false'->lm,not_eq_true'->lR
def pd:List (List FM)->List V->KB->(List V->KB->Prop)->Prop
 |_,[],kb,K=>K [] kb
 | [],v::vs,kb,K=>K (v::vs) kb
 | []::ms,v::vs,kb,K=>pd ms vs kb (fun us kb'=>K (v::us) kb')
 | (a::m)::ms,.agg l::vs,kb,K=>pf (a::m) l kb (fun us kb'=>pd ms vs kb' (fun ws jG=>K (.agg us::ws) jG))
 | (.sl s:: _)::ms,v::vs,kb,K=>qJ (.sl s) v kb (fun d kb'=>pd ms vs kb' (fun ws jG=>K (.dat d::ws) jG))
 | (_:: _)::ms,v::vs,kb,K=>pd ms vs kb (fun us kb'=>K (sQ v::us) kb')
theorem Yb:∀{ms:List (List FM)} {vs:List V} {kb:KB} {K:List V->KB->Prop},pd ms vs kb K->∀{σ:Sg} {E:EH} {W:World},Inv σ E kb W->∀{xs:List Value},aq σ E vs xs->
  ∃ E' kb' us,Step σ E kb W σ E' kb' W/\aq σ E' us xs/\K us kb':=by
 intro ms
 induction ms with
 |nil=>
  intro vs kb K h σ E W hi xs hd
  cases vs with
  |nil=>exact⟨E,kb,[],Step.refl hi,hd,h⟩
  |cons v vs=>exact⟨E,kb,v::vs,Step.refl hi,hd,h⟩
 |cons m ms ih=>
  intro vs kb K h σ E W hi xs hd
  cases vs with
  |nil=>
   have h:K [] kb:=by
    cases m with
    |nil=>exact h
    |cons a m=>cases a<;>exact h
   exact⟨E,kb,[],Step.refl hi,hd,h⟩
  |cons v vs=>
   simp only[aq]at hd
   obtain⟨x,xs',rfl,h1,h2⟩:=hd
   have plain:∀ w,Den σ E w x->pd ms vs kb (fun us kb'=>K (w::us) kb')->∃ E' kb' us,Step σ E kb W σ E' kb' W/\aq σ E' us (x::xs')/\K us kb':=fun w hw h=>by
    obtain⟨E1,eH,us,s1,d1,hK⟩:=ih h hi h2
    have:=Den.mono (τ:=[]) s1.le hw
    rw[fD]at this
    exact⟨E1,eH,w::us,s1,.cons this d1,hK⟩
   have agg:∀ a m l,v= .agg l->pf (a::m) l kb (fun us kb'=>pd ms vs kb' (fun ws jG=>K (.agg us::ws) jG))->∃ E' kb' us,Step σ E kb W σ E' kb' W/\aq σ E' us (x::xs')/\K us kb':=fun a m l e hh=>by
    subst e
    simp only[Den]at h1
    obtain⟨cs,rfl,hl⟩:=h1
    obtain⟨E1,eH,us,s1,d1,hh⟩:=vt hh hi hl
    have h2':=aq.mono (τ:=[]) s1.le h2
    rw[fD]at h2'
    obtain⟨E2,bE,ws,s2,d2,hK⟩:=ih hh s1.inv h2'
    have d1':=aT.mono (τ:=[]) s2.le d1
    rw[fD]at d1'
    exact⟨E2,bE,.agg us::ws,s1.trans s2,.cons (by simp only[Den];exact⟨cs,rfl,d1'⟩) d2,hK⟩
   have sli:∀ s,qJ (.sl s) v kb (fun d kb'=>pd ms vs kb' (fun ws jG=>K (.dat d::ws) jG))->∃ E' kb' us,Step σ E kb W σ E' kb' W/\aq σ E' us (x::xs')/\K us kb':=fun s h=>by
    obtain⟨E1,eH,d,s1,r1,h⟩:=xz h hi h1
    have h2':=aq.mono (τ:=[]) s1.le h2
    rw[fD]at h2'
    obtain⟨E2,bE,ws,s2,d2,hK⟩:=ih h s1.inv h2'
    exact⟨E2,bE,.dat d::ws,s1.trans s2,.cons (by simp only[Den];exact r1.mono s2.le) d2,hK⟩
   cases m with
   |nil=>simp only[pd]at h;exact plain v h1 h
   |cons a m=>
    cases v<;>cases a<;>simp only[pd]at h<;>first
     |exact agg _ _ _ rfl h
     |exact sli _ h
     |exact plain _ (IN h1) h
def vu (ms:List (List FM)) (S:aE):aE:=fun args kb K=>pd ms args kb (fun us kb'=>J4 S us kb' K)
theorem xK {P:Program} {f:FuncId} {S:aE} (hS:aN P f S) (ms:List (List FM)):aN P f (vu ms S):=fun args kb K h σ E W xs hi hd=>by
 obtain⟨E1,eH,us,s1,d1,h⟩:=Yb h hi hd
 refine(Tp hS h s1.inv d1).mono ?_
 rintro e W' ⟨v,r,σ',E',kb',rfl,hst,eG,hK⟩
 exact⟨v,r,σ',E',kb',rfl,s1.trans hst,eG,hK⟩
theorem NI {σ:Sg} {E:EH}:∀{vs:List V} {xs:List Value},aq σ E vs xs->aq σ E (vs.map sQ) xs
 | [],_,h=>h
 |v::vs,_,h=>by
  simp only[aq]at h
  obtain⟨x,xs',rfl,h1,h2⟩:=h
  exact .cons (IN h1) (NI h2)
def IA (S:aE):aE:=fun args kb K=>S (args.map sQ) kb K
theorem QL {P:Program} {f:FuncId} {S:aE} (hS:aN P f S):aN P f (IA S):=fun args kb K h σ E W xs hi hd=>hS _ kb K h σ E W xs hi (NI hd)
end Vc
namespace Go.Proofs.YtfcjngcnifdmnaaGreat
open Vc Go
open Go.IntKind renaming i64->Z,u8->ι,u32->ic
open Vc.V renaming any->γ,sl->δ,int->ε,sb->θ,ptr->aj,υ->aw,dat->aD,aa->aP,mp->aX,arr->bB,agg->fF
open Vc.D renaming val->ζ,sl->ψ
open Go.Value renaming int->ν,map->kq,oneCell'->lU,bool->nE
open Vc.KO renaming row->ξ,dead->χ,cells->ar,objs->cD
open List renaming map->φ,drop->ay,take->az,length_append->bn,getElem?_eq_getElem->bp,getElem?_eq_some_iff->bG,length_map->bX,take_length->cM,length_take->cQ,replicate->dq,mem_append->dM,append_assoc->dO,getElem?_append_left->dP,mem_singleton->dQ,Mem->dS,mem_cons->ey,mem_map->eL,take_of_length_le->eM,getElem?_append_right->eW,mem_of_getElem?->fi,append_nil->fD,getElem?_map->fE,mem_cons_of_mem->fM,length_drop->fQ,getElem?_set_ne->gr,getD_eq_getElem?_getD->gD,getElem?_eq_none->gO,drop_zero->g_,getElem?_take_of_lt->hU,getElem?_set_self->ig,length_singleton->ii,length_set->ir,mem_cons_self->iu,range->iw,mem_append_left->iL,length_cons->iZ,take_add_one->i_,flatten_cons->jm,getElem?_drop->jw,getElem?_of_mem->jx,map_append->jy,nil_append->jV,length_nil->kn,mem_filter->kM,ext_getElem?->lw,eq_nil_of_length_eq_zero->ma,map_cons->mb,mem_append_right->mc
open Nat renaming le_refl->av,zero_le->bt,beq->cp,eq_of_beq_eq_true->cU,zero_add->c9,add_assoc->gE,lor->iy,lt_or_ge->jX,sub_zero->lT,le_trans->mf
open Option renaming some->bb,bind_eq_some_iff->kP,map->mO
open Int renaming toNat_natCast->cP,le_refl->fa
open Bool renaming and_eq_true->km,not_eq_false'->lm,not_eq_true'->lR
set_option linter.unusedVariables false
set_option linter.unusedSimpArgs false
set_option maxRecDepth 100000
structure cW (A:List (Sg×KB)) (l:List (Nat×κ)):Prop where
 len:A.length=l.length
 h:∀(i:Nat) (p:Nat×κ),l[i]? =some p->∃ a:Sg×KB,A[i]? =some a/\nT a.1 p.1/\aF p.2 a.2
abbrev PK:=V->κ->Prop
def PM (g:List V->κ->PK->Prop):aE:=fun args kb K=>match args,kb with
 |v::rest,[cD A]=>∃ l i b R,cW A l/\l[i]? =some (b,R)/\wQ v (pv b)/\g rest R (fun r R'=>∀ A',cW A' (l.set i (b,R'))->K r [cD A'])
 |_,_=>False
abbrev vX (o:Op):V:=.agg [.int Z o.cl,.int Z o.nm,.int Z o.kd,.int Z o.bk,aD (.sl 1 (ints ι o.b))]
abbrev y0 (w:Vw):V:=.agg [.int Z w.vi,.int Z w.vv,.int Z w.ve,aD (.sl 1 (ints Z w.mem)),aD (.sl 1 (ints Z w.aM))]
abbrev Ir (m:dY):V:=.agg [.int Z m.kd,aD (.sl 1 (ints Z m.n)),aD (.sl 1 (ints ι m.b)),aD (.sl 1 (cf m.l))]
structure wP (kb:KB) (A:List (Sg×KB)):Prop where
 h:kb=[]/\A=[]∨kb=[cD A]
structure jB (l:List V):Prop where
 h:l=[]
def Lw:List V->κ->PK->Prop:=fun rest R k=>∃ w,rest=[y0 w]/\bA R/\w.mem.length+w.aM.length<=1000/\R.out.length+(bz R.me w.mem w.aM).length<=100000/\k (.υ []) (gN R w)
def Lq:List V->κ->PK->Prop:=fun rest R k=>∃ o,rest=[vX o]/\bA R/\R.out.length+(aZ R).length<=100000/\bm o.b/\o.b.length<=100000/\k (.int Z (eS R o).1) (eS R o).2
def Lm:List V->κ->PK->Prop:=fun rest R k=>∃ fr m,rest=[.int Z fr,Ir m]/\bA R/\kN m/\k (.υ []) (gF R fr m)
def Lu:List V->κ->PK->Prop:=fun rest R k=>jB rest/\bA R/\0<=R.ti/\R.ti<=2199023255552/\R.out.length+(aZ R).length<=100000/\k (.υ []) (gm R)
def Lp:List V->κ->PK->Prop:=fun rest R k=>jB rest/\bA R/\k (aD (.sl 5 (R.out.map bV))) {R with out:=[] }
def Lj:List V->κ->PK->Prop:=fun rest R k=>jB rest/\bA R/\k (aD (.sl 7 (R.done.map du))) {R with done:=[] }
def Lg:List V->κ->PK->Prop:=fun rest R k=>jB rest/\bA R/\k (θ R.ch) {R with ch:=false }
def Ll:List V->κ->PK->Prop:=fun rest R k=>jB rest/\bA R/\k (.υ [.int Z R.ep,.int Z R.nu]) R
def Lt:List V->κ->PK->Prop:=fun rest R k=>jB rest/\bA R/\k (.int ic (dZ R.c)) R
def Ln:List V->κ->PK->Prop:=fun rest R k=>jB rest/\bA R/\k (.υ [θ (fp R),θ (gW R),θ (lX R)]) R
def Lf:List V->κ->PK->Prop:=fun rest R k=>jB rest/\bA R/\jk R.ep/\k (aD (.sl 1 (ints ι (f_ R)))) R
def DQ:aE:=fun args kb K=>match args with
 | [.int Z me,.int Z id,θ bl]=>∃ A l,wP kb A/\cW A l/\∀ b A',cW A' (l++[(b,newR me id bl 0 0 jR [])])->K (γ (pv b)) [cD A']
 |_=>False
def DP:aE:=fun args kb K=>match args with
 | [.int Z me,.int Z id,aD (.sl 1 B)]=>∃ A l t,wP kb A/\cW A l/\B=ints ι t/\bm t/\t.length<=900000/\
  ((¬ ∃ ep nu c x,oh t ep nu c x)->K (.υ [γ (.pointer none),θ false]) kb)/\
  ∀ ep nu c x,oh t ep nu c x->∀ b A',cW A' (l++[(b,newR me id false ep nu c x)])->K (.υ [γ (pv b),θ true]) [cD A']
 |_=>False
def gY (n:Int):List Int:=ι.wrap n::(dq 14 0++[if n > 0 then 7 else 0])
def DU:aE:=fun args kb K=>match args,kb with
 | [.int Z n],[]=>K (aD (.sl 1 (ints ι (gY n)))) []
 |_,_=>False
theorem ahE (n:Int) (K:V->KB->Prop) (an:
 let ω:=[ζ (ν ι (ι.wrap n))];let η:=[ζ (ν ι 0)];aB 16/\
 Room 16 16 1/\
 bw 0 16/\
 0<16/\
 (decide (n > 0)=true->
 bw 15 16/\
 15<16/\
 16<=16/\
 K (aD (ψ 1 [ω,η,η,η,η,η,η,η,η,η,η,η,η,η,η,[ζ (ν ι 7)]])) [])/\
 (decide (n > 0)=false->
 16<=16/\
 K (aD (ψ 1 [ω,η,η,η,η,η,η,η,η,η,η,η,η,η,η,η])) [])
 ):aI Tryz.prog X0 (aG 23) 23 [.int Z n] [] (jE [.fe 1] (dp 0 K)):=by apply Eq.mp (a:=an);kernel_rfl
theorem R9:cW [] []:=⟨rfl,fun i p h=>by simp at h⟩
theorem cW.set {A:List (Sg×KB)} {l:List (Nat×κ)} (h:cW A l) {i b:Nat} {R:κ} (hi:i<l.length) {τ:Sg} {kb:KB} (ht:nT τ b) (hk:aF R kb):cW (A.set i (τ,kb)) (l.set i (b,R)):=by
 refine⟨by simp [h.len],fun j p hj=>?_⟩
 by_cases e:i=j
 ·subst e
  rw[ig hi]at hj
  cases hj
  exact⟨(τ,kb),ig (by rw[h.len];exact hi),ht,hk⟩
 ·rw[gr e]at hj
  obtain⟨a,h1,h2⟩:=h.h j p hj
  exact⟨a,by rw[gr e];exact h1,h2⟩
theorem cW.add {A:List (Sg×KB)} {l:List (Nat×κ)} (h:cW A l) {b:Nat} {R:κ} {τ:Sg} {kb:KB} (ht:nT τ b) (hk:aF R kb):cW (A++[(τ,kb)]) (l++[(b,R)]):=by
 refine⟨by simp [h.len],fun j p hj=>?_⟩
 rcases Nat.lt_trichotomy j l.length with hm | hm | hm
 ·rw[dP hm]at hj
  obtain⟨a,h1,h2⟩:=h.h j p hj
  exact⟨a,by rw[dP (by rw[h.len];exact hm)];exact h1,h2⟩
 ·subst hm
  rw[eW (av _)]at hj
  simp at hj;subst hj
  exact⟨(τ,kb),by rw[eW (by rw[h.len];exact av _)];simp [h.len],ht,hk⟩
 ·rw[gO (by simp;omega)]at hj;cases hj
theorem pI {f:FuncId} {M:aE} {g:List V->κ->PK->Prop} (hM:fZ Tryz.prog f M) (hg:∀ rest R k,g rest R k->V.kW (fun _=>none) rest=some rest/\∀ kb K,aF R kb->(∀ r R' kb',k r R'->aF R' kb'->K r kb')->M (aj 0 0::rest) kb K):aN Tryz.prog f (PM g):=fun args kb K h=>aaR hM args kb K (by
 unfold PM at h
 split at h<;>try exact h.elim
 rename_i v rest A
 obtain⟨l,i,b,R,hP,hi,hv,hG⟩:=h
 obtain⟨a,h1,h2,h3⟩:=hP.h i _ hi
 obtain⟨h4,h5⟩:=hg _ _ _ hG
 refine⟨i,a,b,rest,h1,h2,hv,h4,h5 _ _ h3 fun r R' kb' hr hkb τ oF=>hr _ (hP.set ?_ oF hkb)⟩
 exact(bG.1 hi).1)
theorem ach:aN Tryz.prog 15 (PM Lw):=pI acJ fun rest R k ⟨w,e,h1,h2,h3,h4⟩=>by
 subst e
 exact⟨rfl,fun kb K hkb hK=>⟨R,w,rfl,hkb,h1.ok,h2,h3,fun kb' h=>hK _ _ _ h4 h⟩⟩
theorem ace:aN Tryz.prog 21 (PM Lq):=pI acw fun rest R k ⟨o,e,h1,h2,h3,h5,h4⟩=>by
 subst e
 exact⟨rfl,fun kb K hkb hK=>⟨R,o,rfl,hkb,h1.ok,h2,h3,h5,fun kb' h=>hK _ _ _ h4 h⟩⟩
theorem ab9:aN Tryz.prog 60 (PM Lm):=pI abE fun rest R k ⟨fr,m,e,h1,h2,h4⟩=>by
 subst e
 exact⟨rfl,fun kb K hkb hK=>⟨R,fr,m,rfl,hkb,h1.ok,h2,fun kb' h=>hK _ _ _ h4 h⟩⟩
theorem acg:aN Tryz.prog 29 (PM Lu):=pI acF fun rest R k ⟨⟨e⟩,h1,h2,h3,h5,h4⟩=>by
 subst e
 exact⟨rfl,fun kb K hkb hK=>⟨R,rfl,hkb,h1.ok,h2,h3,h5,fun kb' h=>hK _ _ _ h4 h⟩⟩
theorem acd:aN Tryz.prog 46 (PM Lp):=pI ab4 fun rest R k ⟨⟨e⟩,h1,h4⟩=>by
 subst e
 exact⟨rfl,fun kb K hkb hK=>⟨R,rfl,hkb,h1.ok,fun kb' h=>hK _ _ _ h4 h⟩⟩
theorem ab7:aN Tryz.prog 24 (PM Lj):=pI abv fun rest R k ⟨⟨e⟩,h1,h4⟩=>by
 subst e
 exact⟨rfl,fun kb K hkb hK=>⟨R,rfl,hkb,h1.ok,fun kb' h=>hK _ _ _ h4 h⟩⟩
theorem ab6:aN Tryz.prog 25 (PM Lg):=pI abi fun rest R k ⟨⟨e⟩,h1,h4⟩=>by
 subst e
 exact⟨rfl,fun kb K hkb hK=>⟨R,rfl,hkb,h1.ok,fun kb' h=>hK _ _ _ h4 h⟩⟩
theorem ab8:aN Tryz.prog 13 (PM Ll):=pI abx fun rest R k ⟨⟨e⟩,h1,h4⟩=>by
 subst e
 exact⟨rfl,fun kb K hkb hK=>⟨R,rfl,hkb,h1.ok,fun kb' h=>hK _ _ _ h4 h⟩⟩
theorem acf:aN Tryz.prog 18 (PM Lt):=pI acA fun rest R k ⟨⟨e⟩,h1,h4⟩=>by
 subst e
 exact⟨rfl,fun kb K hkb hK=>⟨R,rfl,hkb,h1.ok,fun kb' h=>hK _ _ _ h4 h⟩⟩
theorem ab_:aN Tryz.prog 14 (PM Ln):=pI abO fun rest R k ⟨⟨e⟩,h1,h4⟩=>by
 subst e
 exact⟨rfl,fun kb K hkb hK=>⟨R,rfl,hkb,h1.ok,fun kb' h=>hK _ _ _ h4 h⟩⟩
theorem ab5:aN Tryz.prog 11 (PM Lf):=pI abg fun rest R k ⟨⟨e⟩,h1,h2,h4⟩=>by
 subst e
 exact⟨rfl,fun kb K hkb hK=>⟨R,rfl,hkb,h1.ok,h2,fun kb' h=>hK _ _ _ h4 h⟩⟩
theorem acb:aN Tryz.prog 22 DQ:=fun args kb K h=>Fo Rk args kb K (by
 unfold DQ at h
 split at h<;>try exact h.elim
 rename_i me id bl
 obtain⟨A,l,hkb,hP,hK⟩:=h
 refine⟨A,_,hkb.h,rfl,?_⟩
 show(_:Prop)
 refine⟨by rfl,fun b τ oF=>?_⟩
 exact hK b _ (hP.add oF (SJ _ _ _ _ _ _ T3)))
theorem aca:aN Tryz.prog 10 DP:=fun args kb K h=>Fo acn args kb K (by
 unfold DP at h
 split at h<;>try exact h.elim
 rename_i me id B
 obtain⟨A,l,t,hkb,hP,rfl,hb,hl,h0,h1⟩:=h
 refine⟨A,_,hkb.h,rfl,t,rfl,hb,hl,fun hn=>h0 hn,fun ep nu c x M hr hT=>?_⟩
 refine⟨by rfl,fun b τ oF=>?_⟩
 exact h1 _ _ _ _ hr b _ (hP.add oF (SJ _ _ _ _ _ _ hT)))
theorem Df (n:Int):(gY n).length=16:=by simp [gY]
theorem KH (n:Int):bm (gY n):=fun c hc=>by
 unfold gY at hc
 simp only[ey,dM,List.mem_replicate,dQ,List.not_mem_nil,or_false]at hc
 rcases hc with rfl | ⟨_,rfl⟩ | hc
 ·rw[IntKind.wrap_u8];omega
 ·omega
 ·subst hc;split<;>omega
theorem Rv:aN Tryz.prog 23 DU:=fun args kb K h=>Ba (dW fN mixed (S:=fun a k K0=>∃ T,aI Tryz.prog X0 T 23 a k K0) fun _ _ _ h=>h) [.fe 1] args kb K (by
 unfold DU at h;split at h<;>try exact h.elim
 rename_i n
 refine⟨_,ahE n K ⟨by unfold aB;omega,⟨by omega,by omega,by omega⟩,⟨by omega,by omega⟩,by omega,fun h1=>⟨⟨by omega,by omega⟩,by omega,by omega,?_⟩,fun h1=>⟨by omega,?_⟩⟩⟩
 ·have h1:n > 0:=by simpa using h1
  unfold gY at h;rw[if_pos h1]at h;exact h
 ·have h1:¬ n > 0:=by simpa using h1
  unfold gY at h;rw[if_neg h1]at h;exact h)
def yM:FuncId->Option dA
 | 22=>some ⟨[.iD],vu [[.num],[.num]] (S8 DQ)⟩
 | 23=>some ⟨[],IA DU⟩
 | 15=>some ⟨[.iD],vu [[],[.num,.num,.num,.sl 1,.sl 1]] (PM Lw)⟩
 | 21=>some ⟨[.iD],vu [[],[.num,.num,.num,.num,.sl 1]] (PM Lq)⟩
 | 60=>some ⟨[.iD],vu [[],[.num]] (PM Lm)⟩
 | 46=>some ⟨[.iD],PM Lp⟩
 | 24=>some ⟨[.iD],PM Lj⟩
 | 13=>some ⟨[.iD],PM Ll⟩
 | 18=>some ⟨[.iD],PM Lt⟩
 | 14=>some ⟨[.iD],PM Ln⟩
 | 25=>some ⟨[.iD],PM Lg⟩
 | 11=>some ⟨[.iD],PM Lf⟩
 | 29=>some ⟨[.iD],PM Lu⟩
 | 10=>some ⟨[.iD],vu [[.num],[.num]] DP⟩
 |_=>none
theorem JL:dF Tryz.prog yM:=fun f k h=>by
 unfold yM at h
 split at h
 ·cases h;exact xK (aeu acb) _
 ·cases h;exact QL Rv
 ·cases h;exact xK ach _
 ·cases h;exact xK ace _
 ·cases h;exact xK ab9 _
 ·cases h;exact acd
 ·cases h;exact ab7
 ·cases h;exact ab8
 ·cases h;exact acf
 ·cases h;exact ab_
 ·cases h;exact ab6
 ·cases h;exact ab5
 ·cases h;exact acg
 ·cases h;exact xK aca _
 ·cases h
noncomputable def EO:bJ:=dG Tryz.prog yM aG 10
theorem Mm:bZ Tryz.prog EO:=dI mixed JL aG 10
theorem af2 (BZ:Nat) (K:V->KB->Prop) (an:
 let η:=[ζ (ν ι 0)];∃(A:List (Sg×KB)),∃(l:List (Nat×κ)),wP [] A/\
 cW A l/\
 ∀(b:Nat) (A':List (Sg×KB)),cW A' (l++[(b,newR 3 1 false 0 0 jR [])])->
 (false=true->
 K (θ false) [cD A'])/\
 (false=false->
 1<=1/\
 ∃(l:List (Nat×κ)),∃(i:Nat),∃(b_1:Nat),∃(R:κ),cW A' l/\
 l[i]? =some (b_1,R)/\
 pv b=pv b_1/\
 ∃(w:Vw),[fF [ε Z 1,ε Z 0,ε Z 1,aD (ψ 1 [[ζ (ν Z 3)]]),aD (ψ 1 [])]]=[y0 w]/\
 bA R/\
 w.mem.length+w.aM.length<=1000/\
 R.out.length+(bz R.me w.mem w.aM).length<=100000/\
 ∀(A':List (Sg×KB)),cW A' (l.set i (b_1,gN R w))->
 ∃(l:List (Nat×κ)),∃(i:Nat),∃(b_2:Nat),∃(R:κ),cW A' l/\
 l[i]? =some (b_2,R)/\
 pv b=pv b_2/\
 ∃(o:Op),[fF [ε Z 1,ε Z 1,ε Z 1,ε Z 2,aD (ψ 1 [[ζ (ν ι 9)],η,η,η,η,η,η,η,η,η,η,η,η,η,η,[ζ (ν ι 7)]])]]=[vX o]/\
 bA R/\
 R.out.length+(aZ R).length<=100000/\
 (∀(c:Int),dS c o.b->
 0<=c/\
 c<256)/\
 o.b.length<=100000/\
 ∀(A':List (Sg×KB)),cW A' (l.set i (b_2,(eS R o).snd))->
 ∃(l:List (Nat×κ)),∃(i:Nat),∃(sc:Nat),∃(iz:κ),cW A' l/\
 l[i]? =some (sc,iz)/\
 pv b=pv sc/\
 jB []/\
 bA iz/\
 ∀(A':List (Sg×KB)),cW A' (l.set i (sc,{me:=iz.me,id:=iz.id,ep:=iz.ep,nu:=iz.nu,ce:=iz.ce,ti:=iz.ti,bl:=iz.bl,lo:=iz.lo,ch:=iz.ch,c:=iz.c,t:=iz.t,v:=iz.v,ld:=iz.ld,out:=iz.out,done:=[] }))->
 ∃(l:List (Nat×κ)),∃(i:Nat),∃(Fb:Nat),∃(tn:κ),cW A' l/\
 l[i]? =some (Fb,tn)/\
 pv b=pv Fb/\
 jB []/\
 bA tn/\
 ∀(A':List (Sg×KB)),let ω:=K (θ false) [cD A'];cW A' (l.set i (Fb,tn))->
 (((eS R o).fst == 0)=true->
 (((↑(φ du iz.done).length:Int) == 1)=true->
 aB 0/\
 ∃(e:List D),(φ du iz.done)[0]? =some e/\
 ∃(n:Int),e[5]? =some (ζ (ν Z n))/\
 ((n == 0)=true->
 ((tn.ep == 1)=true->
 ((tn.nu == 1)=true->
 ∃(l:List (Nat×κ)),∃(i:Nat),∃(Fc:Nat),∃(R:κ),cW A' l/\
 l[i]? =some (Fc,R)/\
 pv b=pv Fc/\
 jB []/\
 bA R/\
 ∀(A':List (Sg×KB)),cW A' (l.set i (Fc,{me:=R.me,id:=R.id,ep:=R.ep,nu:=R.nu,ce:=R.ce,ti:=R.ti,bl:=R.bl,lo:=R.lo,ch:=false,c:=R.c,t:=R.t,v:=R.v,ld:=R.ld,out:=R.out,done:=R.done }))->
 K (θ R.ch) [cD A'])/\
 ((tn.nu == 1)=false->
 ω))/\
 ((tn.ep == 1)=false->
 ω))/\
 ((n == 0)=false->
 ω))/\
 (((↑(φ du iz.done).length:Int) == 1)=false->
 ω))/\
 (((eS R o).fst == 0)=false->
 ω))
 ):aI Tryz.prog EO (aG 7) 7 [] [] K:=by apply Eq.mp (a:=an);kernel_rfl
def Av:κ:=newR 3 1 false 0 0 jR []
def E_:Vw:=⟨1,0,1,[3],[]⟩
def pX:κ:=gN Av E_
def tC:Op:=⟨1,1,1,2,gY 9⟩
def oB:κ:=(eS pX tC).2
theorem ME:bA Av:=B0 3 1 false 0 (by omega) (by omega) rfl K4 I6
theorem MF:bA pX:=(UD (w:=E_) ME (by decide) (by decide) (by decide)).i
theorem MG:(aZ pX).length=0:=by kernel_rfl
theorem MH:pX.out.length=0:=by kernel_rfl
theorem Wo:pX.done.length=0:=by kernel_rfl
theorem Wp:pX.nu=0:=by kernel_rfl
theorem E9:bA oB:=(TC (o:=tC) MF ⟨KH 9,by show(gY 9).length<=_;rw[Df];omega⟩ (by rw[Wp];omega) (by rw[MG,MH];omega) (by rw[Wo];omega)).i
theorem Wr:(eS pX tC).1=0:=by kernel_rfl
theorem MI:oB.done=[⟨tC,0,[]⟩]:=by kernel_rfl
theorem Ws:oB.ep=1:=by kernel_rfl
theorem Wt:oB.nu=1:=by kernel_rfl
theorem Wq:oB.ch=true:=by kernel_rfl
def LO:aE:=fun args kb K=>match args,kb with
 | [],[]=>∀ A,K (θ true) [cD A]
 |_,_=>False
def DW:aE:=fun args kb K=>match args,kb with
 | [],[]=>K (θ true) []
 | [],[cD A]=>K (θ true) [cD A]
 |_,_=>False
theorem abf:aN Tryz.prog 7 LO:=dW Mm mixed (fun args kb K h=>by
 unfold LO at h;split at h<;>try exact h.elim
 refine⟨_,af2 0 K ⟨[],[],⟨.inl ⟨rfl,rfl⟩⟩,R9,fun b A1 p1=>⟨fun q=>(by cases q),fun _=>⟨av _,[(b,Av)],0,b,Av,p1,rfl,rfl,E_,rfl,ME,by decide,by decide,fun A2 p2=>?_⟩⟩⟩⟩
 refine⟨[(b,pX)],0,b,pX,p2,rfl,rfl,tC,rfl,MF,by rw[MG,MH];omega,KH 9,by show(gY 9).length<=_;rw[Df];omega,fun A3 p3=>?_⟩
 refine⟨[(b,oB)],0,b,oB,p3,rfl,rfl,⟨rfl⟩,E9,fun A4 p4=>?_⟩
 refine⟨[(b,{oB with done:=[] })],0,b,_,p4,rfl,rfl,⟨rfl⟩,F8 E9,fun A5 p5=>⟨fun _=>⟨fun _=>?_,fun q=>?_⟩,fun q=>?_⟩⟩
 ·refine⟨by unfold aB;omega,du ⟨tC,0,[]⟩,by rw[MI];rfl,0,rfl,fun _=>⟨fun _=>⟨fun _=>?_,fun q=>?_⟩,fun q=>?_⟩,fun q=>(by cases q)⟩
  ·refine⟨[(b,{oB with done:=[] })],0,b,_,p5,rfl,rfl,⟨rfl⟩,F8 E9,fun A6 p6=>?_⟩
   show K (θ oB.ch) [cD A6]
   rw[Wq];exact h A6
  ·have q:(oB.nu == 1)=false:=q
   rw[Wt]at q;cases q
  ·have q:(oB.ep == 1)=false:=q
   rw[Ws]at q;cases q
 ·rw[MI]at q;cases q
 ·have q:((eS pX tC).1 == 0)=false:=q
  rw[Wr]at q;cases q)
theorem abe:aN Tryz.prog 7 DW:=fun args kb K h=>Fo abf args kb K (by
 unfold DW at h
 split at h<;>try exact h.elim
 ·exact⟨[],[],.inl ⟨rfl,rfl⟩,rfl,fun A=>h⟩
 ·exact⟨_,[],.inr rfl,rfl,fun A=>h⟩)
end Go.Proofs.YtfcjngcnifdmnaaGreat
namespace Go.Proofs.YtfcjngcnifdmnaaGreat.Fm
open Vc Go
open Go.IntKind renaming i64->Z,u8->ι,u32->ic
open Vc.V renaming any->γ,sl->δ,int->ε,sb->θ,ptr->aj,υ->aw,dat->aD,aa->aP,mp->aX,arr->bB,agg->fF
open Vc.D renaming val->ζ,sl->ψ
open Go.Value renaming int->ν,map->kq,oneCell'->lU,bool->nE
open Vc.KO renaming row->ξ,dead->χ,cells->ar,objs->cD
open List renaming map->φ,drop->ay,take->az,length_append->bn,getElem?_eq_getElem->bp,getElem?_eq_some_iff->bG,length_map->bX,take_length->cM,length_take->cQ,replicate->dq,mem_append->dM,append_assoc->dO,getElem?_append_left->dP,mem_singleton->dQ,Mem->dS,mem_cons->ey,mem_map->eL,take_of_length_le->eM,getElem?_append_right->eW,mem_of_getElem?->fi,append_nil->fD,getElem?_map->fE,mem_cons_of_mem->fM,length_drop->fQ,getElem?_set_ne->gr,getD_eq_getElem?_getD->gD,getElem?_eq_none->gO,drop_zero->g_,getElem?_take_of_lt->hU,getElem?_set_self->ig,length_singleton->ii,length_set->ir,mem_cons_self->iu,range->iw,mem_append_left->iL,length_cons->iZ,take_add_one->i_,flatten_cons->jm,getElem?_drop->jw,getElem?_of_mem->jx,map_append->jy,nil_append->jV,length_nil->kn,mem_filter->kM,ext_getElem?->lw,eq_nil_of_length_eq_zero->ma,map_cons->mb,mem_append_right->mc
open Nat renaming le_refl->av,zero_le->bt,beq->cp,eq_of_beq_eq_true->cU,zero_add->c9,add_assoc->gE,lor->iy,lt_or_ge->jX,sub_zero->lT,le_trans->mf
open Option renaming some->bb,bind_eq_some_iff->kP,map->mO
open Int renaming toNat_natCast->cP,le_refl->fa
open Bool renaming and_eq_true->km,not_eq_false'->lm,not_eq_true'->lR
set_option linter.unusedVariables false
set_option linter.unusedSimpArgs false
set_option maxRecDepth 100000
def gI (l:List Int) (i:Nat):Int:=l.getD i 0
def gT (l:List (List Int)) (i:Nat):List Int:=l.getD i []
def tot:List (List Int)->Nat
 | []=>0
 |t::l=>t.length+tot l
structure ko (k:Int) (n b:List Int) (l:List (List Int)):Prop where
 k1:1<=k
 k2:k<=40
 nl:n.length<=16
 bl:b.length<=2048
 ll:l.length<=64
 ns:∀ x∈n,0<=x/\x<=4611686018427387904
 ts:∀ t∈l,t.length<=2048
 al:tot l<=65536
abbrev BX (k:Int) (n b:List Int) (l:List (List Int)):List V:=[.int Z k,aD (.sl 1 (ints Z n)),aD (.sl 1 (ints ι b)),aD (.sl 1 (l.map bx))]
abbrev u9 (l:List (List Int)):LI where
 α:={i:Nat // i<=l.length}
 live:=[3,6,7,8]
 st i:=([.int Z (tot (l.take i.1):Int),aD (.sl 1 (l.map bx)),.int Z (l.length:Int),.int Z (i.1:Int)],[])
 μ i:=l.length - i.1
abbrev HN (n:List Int):LI where
 α:={i:Nat // i<=n.length/\∀ x∈n.take i,0<=x/\x<=4611686018427387904}
 live:=[0,1,7,8]
 st i:=([aD (.sl 1 (ints Z n)),.fn 101 [],.int Z (n.length:Int),.int Z (i.1:Int)],[])
 μ i:=n.length - i.1
abbrev HP (l:List (List Int)):LI where
 α:={i:Nat // i<=l.length/\∀ t∈l.take i,t.length<=2048}
 live:=[0,1,7,8]
 st i:=([aD (.sl 1 (l.map bx)),.fn 102 [],.int Z (l.length:Int),.int Z (i.1:Int)],[])
 μ i:=l.length - i.1
def iN (l:List Int):List Int:=(l.map aY).flatten
def gw (l:List (List Int)):List Int:=(l.map cJ).flatten
def pu1 (k:Int) (n:List Int) (i:Nat):List Int:=aY k++aY (n.length:Int)++iN (n.take i)
def pu2 (k:Int) (n b:List Int) (l:List (List Int)) (i:Nat):List Int:=pu1 k n n.length++cJ b++aY (l.length:Int)++gw (l.take i)
def dv (k:Int) (n b:List Int) (l:List (List Int)):List Int:=pu2 k n b l l.length
abbrev Jn (k:Int) (n b:List Int) (l:List (List Int)):LI where
 α:={i:Nat // i<=n.length}
 live:=[1,5,23,24,25]
 st i:=([aj 0 0,aj 1 0,aD (.sl 1 (ints Z n)),.int Z (n.length:Int),.int Z (i.1:Int)],[ar (BX k n b l),ar [.sl 2 0 (pu1 k n i.1).length],ξ 5 1 (ints ι (pu1 k n i.1))])
 μ i:=n.length - i.1
abbrev Jo (k:Int) (n b:List Int) (l:List (List Int)):LI where
 α:={i:Nat // i<=l.length}
 live:=[5,40,41,42]
 st i:=([aj 0 0,aD (.sl 1 (l.map bx)),.int Z (l.length:Int),.int Z (i.1:Int)],[ar [.sl 1 0 (pu2 k n b l i.1).length],ξ 5 1 (ints ι (pu2 k n b l i.1))])
 μ i:=l.length - i.1
def xJ (k:Int) (n b:List Int) (l:List (List Int)):FuncId->Nat->Option LI
 | 104,3=>some (u9 l)
 | 99,2=>some (HN n)
 | 115,2=>some (HP l)
 | 47,8=>some (Jn k n b l)
 | 47,15=>some (Jo k n b l)
 |_,_=>none
def tp:aE:=fun args kb K=>match args,kb with
 | [aD (.sl 1 L)],[]=>∃ l:List (List Int),L=l.map bx/\l.length<=maxLen/\tot l<=1000000/\K (.int Z (tot l)) []
 |_,_=>False
structure uU (n b:List Int) (l:List (List Int)):Prop where
 nl:n.length<=maxLen
 bl:b.length<=maxLen
 ll:l.length<=maxLen
 tl:∀ t∈l,t.length<=maxLen
def zN:aE:=fun args kb K=>match args,kb with
 | [.agg [.int Z k,aD (.sl 1 N),aD (.sl 1 B),aD (.sl 1 L)]],[]=>∃ n b l,N=ints Z n/\B=ints ι b/\L=l.map bx/\uU n b l/\(ko k n b l->K (.int Z 0) [])/\(¬ ko k n b l->K (.int Z 3) [])
 |_,_=>False
def D4:aE:=fun args kb K=>match args,kb with
 | [aD (.sl 1 N),.fn 101 []],[]=>∃ n:List Int,N=ints Z n/\n.length<=maxLen/\∀ q:Bool,(q=true ↔ ¬ ∀ x∈n,0<=x/\x<=4611686018427387904)->K (θ q) []
 |_,_=>False
def D5:aE:=fun args kb K=>match args,kb with
 | [aD (.sl 1 L),.fn 102 []],[]=>∃ l:List (List Int),L=l.map bx/\l.length<=maxLen/\∀ q:Bool,(q=true ↔ ¬ ∀ t∈l,t.length<=2048)->K (θ q) []
 |_,_=>False
def fU:FuncId->Option dA
 | 104=>some ⟨[.fI 1],tp⟩
 | 70=>some ⟨[.fI 1],D4⟩
 | 103=>some ⟨[.fI 1],D5⟩
 |_=>none
noncomputable def L5:bJ:=dG Tryz.prog fU aG 10
noncomputable def Ao (n:List Int) (l:List (List Int)):bJ:=dG Tryz.prog IE (xJ 0 n [] l) 10
theorem agm (n:List Int) (K:V->KB->Prop) (an:
 At (HN n) ([aD (ψ 1 (ints Z n)),V.fn 101 [],ε Z (↑(ints Z n).length:Int),ε Z 0],[])/\
 ∀(i:{i:Nat // i<=n.length/\
 ∀(x:Int),x∈az i n->
 0<=x/\
 x<=4611686018427387904 }),let η:=K (θ (decide ((↑i.val:Int) ≥ 0))) [];(decide ((↑i.val:Int)<(↑n.length:Int))=true->
 aB (↑i.val:Int)/\
 ∃(e:List D),(ints Z n)[(↑i.val:Int).toNat]? =some e/\
 ∃(n_1:Int),e[0]? =some (ζ (ν Z n_1))/\
 (decide (n_1<0)=true->
 η)/\
 (decide (n_1<0)=false->
 (decide (n_1 > 4611686018427387904)=true->
 η)/\
 (decide (n_1 > 4611686018427387904)=false->
 Nx (HN n) i ([aD (ψ 1 (ints Z n)),V.fn 101 [],ε Z (↑n.length:Int),ε Z (Z.wrap ((↑i.val:Int)+1))],[]))))/\
 (decide ((↑i.val:Int)<(↑n.length:Int))=false->
 K (θ false) [])
 ):aI Tryz.prog (Ao n []) (aG 70) 70 [aD (.sl 1 (ints Z n)),.fn 101 []] [] K:=by apply Eq.mp (a:=an);kernel_rfl
theorem agn (l:List (List Int)) (K:V->KB->Prop) (an:
 At (HP l) ([aD (ψ 1 (φ bx l)),V.fn 102 [],ε Z (↑(φ bx l).length:Int),ε Z 0],[])/\
 ∀(i:{i:Nat // i<=l.length/\
 ∀(t:List Int),t∈az i l->
 t.length<=2048 }),(decide ((↑i.val:Int)<(↑l.length:Int))=true->
 aB (↑i.val:Int)/\
 ∃(e:List D),(φ bx l)[(↑i.val:Int).toNat]? =some e/\
 ∃(l_1:List (List D)),e[0]? =some (ψ 1 l_1)/\
 (decide ((↑l_1.length:Int) > 2048)=true->
 K (θ (decide ((↑i.val:Int) ≥ 0))) [])/\
 (decide ((↑l_1.length:Int) > 2048)=false->
 Nx (HP l) i ([aD (ψ 1 (φ bx l)),V.fn 102 [],ε Z (↑l.length:Int),ε Z (Z.wrap ((↑i.val:Int)+1))],[])))/\
 (decide ((↑i.val:Int)<(↑l.length:Int))=false->
 K (θ false) [])
 ):aI Tryz.prog (Ao [] l) (aG 103) 103 [aD (.sl 1 (l.map bx)),.fn 102 []] [] K:=by apply Eq.mp (a:=an);kernel_rfl
theorem KJ (l:List (List Int)) (K:V->KB->Prop) (an:
 At (u9 l) ([ε Z 0,aD (ψ 1 (φ bx l)),ε Z (↑(φ bx l).length:Int),ε Z 0],[])/\
 ∀(i:{i:Nat // i<=l.length }),(decide ((↑i.val:Int)<(↑l.length:Int))=true->
 aB (↑i.val:Int)/\
 ∃(e:List D),(φ bx l)[(↑i.val:Int).toNat]? =some e/\
 ∃(l_1:List (List D)),e[0]? =some (ψ 1 l_1)/\
 Nx (u9 l) i ([ε Z (Z.wrap ((↑(tot (az i.val l)):Int)+(↑l_1.length:Int))),aD (ψ 1 (φ bx l)),ε Z (↑l.length:Int),ε Z (Z.wrap ((↑i.val:Int)+1))],[]))/\
 (decide ((↑i.val:Int)<(↑l.length:Int))=false->
 K (ε Z (↑(tot (az i.val l)):Int)) [])
 ):aI Tryz.prog X0 (xJ 0 [] [] l 104) 104 [aD (.sl 1 (l.map bx))] [] K:=by apply Eq.mp (a:=an);kernel_rfl
theorem agb (k:Int) (n b:List Int) (l:List (List Int)) (K:V->KB->Prop) (an:
 let η:=K (ε Z 3) [];(decide (k<1)=true->
 η)/\
 (decide (k<1)=false->
 (decide (k > 40)=true->
 η)/\
 (decide (k > 40)=false->
 (decide ((↑(ints Z n).length:Int) > 16)=true->
 η)/\
 (decide ((↑(ints Z n).length:Int) > 16)=false->
 (decide ((↑(φ bx l).length:Int) > 64)=true->
 η)/\
 (decide ((↑(φ bx l).length:Int) > 64)=false->
 (decide ((↑(ints ι b).length:Int) > 2048)=true->
 η)/\
 (decide ((↑(ints ι b).length:Int) > 2048)=false->
 ∃(n_1:List Int),ints Z n=ints Z n_1/\
 n_1.length<=maxLen/\
 ∀(q:Bool),(q=true ↔ ¬∀(x:Int),x∈n_1->
 0<=x/\
 x<=4611686018427387904)->
 (q=true->
 η)/\
 (q=false->
 ∃(l_1:List (List Int)),φ bx l=φ bx l_1/\
 l_1.length<=maxLen/\
 ∀(q:Bool),(q=true ↔ ¬∀(t:List Int),t∈l_1->
 t.length<=2048)->
 (q=true->
 η)/\
 (q=false->
 ∃(l_2:List (List Int)),φ bx l=φ bx l_2/\
 l_2.length<=maxLen/\
 tot l_2<=1000000/\
 (decide ((↑(tot l_2):Int) > 65536)=true->
 η)/\
 (decide ((↑(tot l_2):Int) > 65536)=false->
 K (ε Z 0) []))))))))
 ):aI Tryz.prog L5 (aG 76) 76 [.agg (BX k n b l)] [] K:=by apply Eq.mp (a:=an);kernel_rfl
theorem A0 {l:List Int} {i:Nat} (h:i<l.length):l[i]? =some (gI l i):=by
 unfold gI;rw[gD,bp h];rfl
theorem A7 {l:List Int} {i:Nat} (h:i<l.length):gI l i∈l:=fi (A0 h)
theorem GK {l:List Int} {i:Nat} (h:i<l.length):l.take (i+1)=l.take i++[gI l i]:=by rw[i_,A0 h];rfl
theorem A8 {l:List (List Int)} {i:Nat} (h:i<l.length):l[i]? =some (gT l i):=by
 unfold gT;rw[gD,bp h];rfl
theorem GM {l:List (List Int)} {i:Nat} (h:i<l.length):gT l i∈l:=fi (A8 h)
theorem A9 {l:List (List Int)} {i:Nat} (h:i<l.length):l.take (i+1)=l.take i++[gT l i]:=by rw[i_,A8 h];rfl
theorem el {k:IntKind} {l:List Int} {i:Nat} {Q:Int->Prop} (h:i<l.length) (q:Q (gI l i)):aB (i:Int)/\∃ e,(ints k l)[(i:Int).toNat]? =some e/\∃ n,e[0]? =some (ζ (.int k n))/\Q n:=
 ⟨by unfold aB;omega,[ζ (.int k (gI l i))],by rw[cP,kv,A0 h];rfl,_,rfl,q⟩
theorem Gc {l:List (List Int)} {i:Nat} {Q:List (List D)->Prop} (h:i<l.length) (q:Q (ints ι (gT l i))):aB (i:Int)/\∃ e,(l.map bx)[(i:Int).toNat]? =some e/\∃ n,e[0]? =some (ψ 1 n)/\Q n:=
 ⟨by unfold aB;omega,[ψ 1 (ints ι (gT l i))],by rw[cP,fE,A8 h];rfl,_,rfl,q⟩
theorem sM {l:List (List Int)}:(l.map bx).length=l.length:=bX ..
theorem Uk {a b:List (List Int)}:tot (a++b)=tot a+tot b:=by
 induction a with
 |nil=>simp [tot]
 |cons x a ih=>simp only[List.cons_append,tot,ih];omega
theorem afW {l:List (List Int)} {i:Nat} (h:i<l.length):tot (l.take (i+1))=tot (l.take i)+(gT l i).length:=by rw[A9 h,Uk];simp [tot]
theorem Ul {l:List (List Int)} (i:Nat):tot (l.take i)<=tot l:=by
 have:=Uk (a:=l.take i) (b:=l.drop i)
 rw[List.take_append_drop]at this;omega
theorem afV {l:List (List Int)} {m:Nat} (h:∀ t∈l,t.length<=m):tot l<=m*l.length:=by
 induction l with
 |nil=>simp [tot]
 |cons x l ih=>
  have h1:=h x iu
  have h2:=ih fun t ht=>h t (fM _ ht)
  simp only[tot,iZ]
  rw[Nat.mul_add,Nat.mul_one];omega
theorem IZ:aN Tryz.prog 104 tp:=dW fN mixed (fun args kb K h=>by
 unfold tp at h;split at h<;>try exact h.elim
 obtain⟨l,rfl,hl0,hl,h⟩:=h
 simp only[maxLen]at hl0
 refine⟨xJ 0 [] [] l 104,KJ l K ⟨by rw[sM];exact At.mk' ⟨0,bt _⟩ rfl,?_⟩⟩
 rintro⟨i,hi⟩
 dsimp only
 simp only[decide_eq_true_eq,decide_eq_false_iff_not]
 refine⟨fun hc=>Gc (by omega) ?_,fun hc=>?_⟩
 ·have h1:=afW (l:=l) (i:=i) (by omega)
  have h2:=Ul (l:=l) (i+1)
  have e1:Z.wrap ((i:Int)+1)=((i+1:Nat):Int):=by rw[bD (by omega) (by omega)];rfl
  rw[bi,bD (by omega) (by omega),e1]
  have e2:(tot (l.take i):Int)+((gT l i).length:Int)=((tot (l.take (i+1)):Nat):Int):=by omega
  rw[e2]
  exact Nx.mk' (⟨i+1,by omega⟩:{i:Nat // i<=l.length}) rfl (by show l.length - (i+1)<l.length - i;omega)
 ·have:i=l.length:=by omega
  subst this
  rwa [cM])
theorem abp:aN Tryz.prog 70 D4:=wn mixed (fun args kb K h=>by
 unfold D4 at h;split at h<;>try exact h.elim
 obtain⟨n,rfl,hl,h⟩:=h
 simp only[maxLen]at hl
 refine⟨Ao n [],aG 70,dI mixed IF _ 10,agm n K ⟨by rw[bi];exact At.mk' ⟨0,bt _,by simp⟩ rfl,?_⟩⟩
 rintro⟨i,hi,ht⟩
 dsimp only
 simp only[decide_eq_true_eq,decide_eq_false_iff_not]
 refine⟨fun hc=>el (by omega) ⟨fun h1=>h _ ⟨fun _ f=>?_,fun _=>by simp⟩,fun h1=>⟨fun h2=>h _ ⟨fun _ f=>?_,fun _=>by simp⟩,fun h2=>?_⟩⟩,fun hc=>h _ ⟨fun f=>(by cases f),fun f=>?_⟩⟩
 ·have:=f _ (A7 (show i<n.length by omega));omega
 ·have:=f _ (A7 (show i<n.length by omega));omega
 ·rw[bD (by omega) (by omega)]
  refine Nx.mk' (⟨i+1,by omega,fun x hx=>?_⟩:{i:Nat // i<=n.length/\∀ x∈n.take i,0<=x/\x<=4611686018427387904}) rfl (by show n.length - (i+1)<n.length - i;omega)
  rw[GK (by omega),dM,dQ]at hx
  rcases hx with hx | rfl
  ·exact ht x hx
  ·omega
 ·have:i=n.length:=by omega
  subst this
  rw[cM]at ht
  exact absurd ht f)
theorem abq:aN Tryz.prog 103 D5:=wn mixed (fun args kb K h=>by
 unfold D5 at h;split at h<;>try exact h.elim
 obtain⟨l,rfl,hl,h⟩:=h
 simp only[maxLen]at hl
 refine⟨Ao [] l,aG 103,dI mixed IF _ 10,agn l K ⟨by rw[sM];exact At.mk' ⟨0,bt _,by simp⟩ rfl,?_⟩⟩
 rintro⟨i,hi,ht⟩
 dsimp only
 simp only[decide_eq_true_eq,decide_eq_false_iff_not]
 refine⟨fun hc=>Gc (by omega) ⟨fun h1=>h _ ⟨fun _ f=>?_,fun _=>by simp⟩,fun h2=>?_⟩,fun hc=>h _ ⟨fun f=>(by cases f),fun f=>?_⟩⟩
 ·rw[bi]at h1
  have:=f _ (GM (show i<l.length by omega));omega
 ·rw[bi]at h2
  rw[bD (by omega) (by omega)]
  refine Nx.mk' (⟨i+1,by omega,fun x hx=>?_⟩:{i:Nat // i<=l.length/\∀ t∈l.take i,t.length<=2048}) rfl (by show l.length - (i+1)<l.length - i;omega)
  rw[A9 (by omega),dM,dQ]at hx
  rcases hx with hx | rfl
  ·exact ht x hx
  ·omega
 ·have:i=l.length:=by omega
  subst this
  rw[cM]at ht
  exact absurd ht f)
theorem W7:dF Tryz.prog fU:=fun f k h=>by
 unfold fU at h
 split at h<;>first | (cases h;first | exact IZ | exact abp | exact abq) | cases h
theorem VK:bZ Tryz.prog L5:=dI mixed W7 aG 10
theorem Q9:aN Tryz.prog 76 zN:=dW VK mixed (fun args kb K h=>by
 unfold zN at h;split at h<;>try exact h.elim
 rename_i k _ _ _
 obtain⟨n,b,l,rfl,rfl,rfl,⟨n1,b1,l1,t1⟩,hy,hn⟩:=h
 refine⟨aG 76,agb k n b l K ?_⟩
 simp only[decide_eq_true_eq,decide_eq_false_iff_not,bi,sM]
 refine⟨fun h1=>hn fun w=>by have:=w.k1;omega,fun h1=>⟨fun h2=>hn fun w=>by have:=w.k2;omega,fun h2=>⟨fun h3=>hn fun w=>by have:=w.nl;omega,fun h3=>⟨fun h4=>hn fun w=>by have:=w.ll;omega,fun h4=>⟨fun h5=>hn fun w=>by have:=w.bl;omega,fun h5=>⟨n,rfl,n1,fun q hq=>⟨fun h6=>hn fun w=>hq.1 h6 w.ns,fun h6=>⟨l,rfl,l1,fun q' pp=>⟨fun h7=>hn fun w=>pp.1 h7 w.ts,fun h7=>?_⟩⟩⟩⟩⟩⟩⟩⟩⟩
 have po:∀ x∈n,0<=x/\x<=4611686018427387904:=Classical.byContradiction fun f=>by rw[hq.2 f]at h6;cases h6
 have hts:∀ t∈l,t.length<=2048:=Classical.byContradiction fun f=>by rw[pp.2 f]at h7;cases h7
 have htb:=afV hts
 refine⟨l,rfl,l1,by omega,fun h8=>hn fun w=>by have:=w.al;omega,fun h8=>hy ⟨by omega,by omega,by omega,by omega,by omega,po,hts,by omega⟩⟩)
structure wN (b:List Int) (l:List (List Int)):Prop where
 b:bm b
 l:∀ t∈l,bm t
def LU:aE:=fun args kb K=>match args,kb with
 | [.agg [.int Z k,aD (.sl 1 N),aD (.sl 1 B),aD (.sl 1 L)]],[]=>∃ n b l,N=ints Z n/\B=ints ι b/\L=l.map bx/\uU n b l/\wN b l/\
  (ko k n b l->K (.υ [.sl 0 0 ((dv k n b l).length+4),.int Z 0]) [ξ 5 1 (ints ι (b_ (dv k n b l)))])/\(¬ ko k n b l->K (.υ [.sl 0 0 0,.int Z 3]) [ξ 5 1 []])
 |_,_=>False
def GB:FuncId->Option dA
 | 76=>some ⟨[.fI 1],zN⟩
 | 67=>some ⟨[.fI 1],Aa⟩
 |f=>Jq f
noncomputable def Mc:bJ:=dG Tryz.prog GB aG 10
theorem ag8 (k:Int) (n b:List Int) (l:List (List Int)) (K:V->KB->Prop) (an:
 let aH:=aD (ψ 1 (φ bx l));let au:=aD (ψ 1 (ints Z n));let ω:=ar [ε Z k,au,aD (ψ 1 (ints ι b)),aH];let η:=(∃(a:List Int),[]=ints ι a/\
 0=a.length/\
 a.length<=10000000/\
 jk k/\
 ∃(a_1:List Int),let aC:=(a_1++aY (↑(ints Z n).length:Int));ints ι (a++aY k)=ints ι a_1/\
 (a++aY k).length=a_1.length/\
 a_1.length<=10000000/\
 jk (↑(ints Z n).length:Int)/\
 At (Jn k n b l) ([aj 0 0,aj 1 0,au,ε Z (↑(ints Z n).length:Int),ε Z 0],[ω,ar [δ 2 0 aC.length],ξ 5 1 (ints ι aC)])/\
 ∀(i:{i:Nat // i<=n.length }),(decide ((↑i.val:Int)<(↑n.length:Int))=true->
 aB (↑i.val:Int)/\
 ∃(e:List D),(ints Z n)[(↑i.val:Int).toNat]? =some e/\
 ∃(n_2:Int),e[0]? =some (ζ (ν Z n_2))/\
 ∃(a:List Int),ints ι (pu1 k n i.val)=ints ι a/\
 (pu1 k n i.val).length=a.length/\
 a.length<=10000000/\
 jk n_2/\
 Nx (Jn k n b l) i ([aj 0 0,aj 1 0,au,ε Z (↑n.length:Int),ε Z (Z.wrap ((↑i.val:Int)+1))],[ω,ar [δ 2 0 (a++aY n_2).length],ξ 5 1 (ints ι (a++aY n_2))]))/\
 (decide ((↑i.val:Int)<(↑n.length:Int))=false->
 ∃(a:List Int),∃(b_2:List Int),ints ι (pu1 k n i.val)=ints ι a/\
 ints ι b=ints ι b_2/\
 (pu1 k n i.val).length=a.length/\
 a.length<=1000000/\
 b_2.length<=1000000/\
 ∃(a_2:List Int),let aO:=(a_2++aY (↑(φ bx l).length:Int));ints ι (a++cJ b_2)=ints ι a_2/\
 (a++cJ b_2).length=a_2.length/\
 a_2.length<=10000000/\
 jk (↑(φ bx l).length:Int)/\
 At (Jo k n b l) ([aj 0 0,aH,ε Z (↑(φ bx l).length:Int),ε Z 0],[ar [δ 1 0 aO.length],ξ 5 1 (ints ι aO)])/\
 ∀(i:{i:Nat // i<=l.length }),(decide ((↑i.val:Int)<(↑l.length:Int))=true->
 aB (↑i.val:Int)/\
 ∃(e:List D),(φ bx l)[(↑i.val:Int).toNat]? =some e/\
 ∃(l_2:List (List D)),e[0]? =some (ψ 1 l_2)/\
 ∃(a:List Int),∃(sc:List Int),ints ι (pu2 k n b l i.val)=ints ι a/\
 l_2=ints ι sc/\
 (pu2 k n b l i.val).length=a.length/\
 a.length<=1000000/\
 sc.length<=1000000/\
 Nx (Jo k n b l) i ([aj 0 0,aH,ε Z (↑l.length:Int),ε Z (Z.wrap ((↑i.val:Int)+1))],[ar [δ 1 0 (a++cJ sc).length],ξ 5 1 (ints ι (a++cJ sc))]))/\
 (decide ((↑i.val:Int)<(↑l.length:Int))=false->
 ∃(a:List Int),ints ι (pu2 k n b l i.val)=ints ι a/\
 (pu2 k n b l i.val).length=a.length/\
 a.length<=1000000/\
 (a.length<=(ints ι a).length/\
 True)/\
 ∃(l:List Int),ay 0 (az a.length (ints ι a))=ints ι l/\
 (∀(c:Int),dS c l->
 0<=c/\
 c<256)/\
 l.length<=900000/\
 ox (ints ι (b_ l)).flatten/\
 K (aw [δ 0 0 (l.length+4),ε Z 0]) [ξ 5 1 (ints ι (b_ l))])));∃(n_1:List Int),∃(b_1:List Int),∃(l_1:List (List Int)),ints Z n=ints Z n_1/\
 ints ι b=ints ι b_1/\
 φ bx l=φ bx l_1/\
 uU n_1 b_1 l_1/\
 (ko k n_1 b_1 l_1->
 (false=true->
 K (aw [δ 0 0 0,ε Z 0]) [ξ 5 1 []])/\
 (false=false->
 η))/\
 ((ko k n_1 b_1 l_1->
 False)->
 (true=true->
 K (aw [δ 0 0 0,ε Z 3]) [ξ 5 1 []])/\
 (true=false->
 η))
 ):aI Tryz.prog Mc (xJ k n b l 47) 47 [.agg (BX k n b l)] [] (eZ [.slot 0 5 1] (dp 0 K)):=by apply Eq.mp (a:=an);kernel_rfl
theorem M5 {a b:List Int}:iN (a++b)=iN a++iN b:=by unfold iN;rw[jy,List.flatten_append]
theorem M8 {a b:List (List Int)}:gw (a++b)=gw a++gw b:=by unfold gw;rw[jy,List.flatten_append]
theorem WU {l:List Int} {i:Nat} (h:i<l.length):iN (l.take (i+1))=iN (l.take i)++aY (gI l i):=by
 rw[GK h,M5];simp [iN]
theorem WW {l:List (List Int)} {i:Nat} (h:i<l.length):gw (l.take (i+1))=gw (l.take i)++cJ (gT l i):=by
 rw[A9 h,M8];simp [gw]
theorem M6:∀(l:List Int),(iN l).length<=9*l.length
 | []=>by simp [iN]
 |a::l=>by
  have:=M6 l
  have h1:=jJ a
  have e:iN (a::l)=aY a++iN l:=by simp [iN]
  rw[e,bn,iZ];omega
theorem M9:∀(l:List (List Int)),(gw l).length<=tot l+9*l.length
 | []=>by simp [gw,tot]
 |a::l=>by
  have:=M9 l
  have h1:=rR a
  have e:gw (a::l)=cJ a++gw l:=by simp [gw]
  rw[e,bn,iZ]
  simp only[tot];omega
theorem Sa {k:Int} {n:List Int}:pu1 k n 0=aY k++aY (n.length:Int):=by simp [pu1,iN]
theorem Sc {k:Int} {n:List Int} {i:Nat} (h:i<n.length):pu1 k n (i+1)=pu1 k n i++aY (gI n i):=by
 unfold pu1;rw[WU h,dO (_++_)]
theorem Sd {k:Int} {n b:List Int} {l:List (List Int)}:pu2 k n b l 0=pu1 k n n.length++cJ b++aY (l.length:Int):=by simp [pu2,gw]
theorem Sf {k:Int} {n b:List Int} {l:List (List Int)} {i:Nat} (h:i<l.length):pu2 k n b l (i+1)=pu2 k n b l i++cJ (gT l i):=by
 unfold pu2;rw[WW h];simp only[dO]
theorem Sb {k:Int} {n b:List Int} {l:List (List Int)} (h:ko k n b l) (i:Nat):(pu1 k n i).length<=162:=by
 have h1:=jJ k
 have h2:=jJ (n.length:Int)
 have h3:=M6 (n.take i)
 have:=h.nl
 rw[cQ]at h3
 unfold pu1;simp only[bn];omega
theorem Se {k:Int} {n b:List Int} {l:List (List Int)} (h:ko k n b l) (i:Nat):(pu2 k n b l i).length<=100000:=by
 have h1:=Sb h n.length
 have h2:=jJ (l.length:Int)
 have h3:=M9 (l.take i)
 have h4:=rR b
 have h5:=h.bl
 have h6:=h.ll
 have h7:=h.al
 have h8:=Ul (l:=l) i
 rw[cQ]at h3
 unfold pu2;simp only[bn];omega
theorem xq {a b:List Int} (ha:bm a) (hb:bm b):bm (a++b):=fun c hc=>by
 rcases dM.1 hc with h | h
 ·exact ha c h
 ·exact hb c h
theorem Sk {k:Int} {n b:List Int} {l:List (List Int)} (h:ko k n b l) (hb:wN b l):bm (dv k n b l):=by
 unfold dv pu2 pu1
 refine xq (xq (xq (xq (xq (pF ?_) (pF ?_)) ?_) (C7 hb.b ?_)) (pF ?_)) ?_
 ·have:=h.k2;omega
 ·have:=h.nl;omega
 ·intro c hc
  unfold iN at hc
  obtain⟨x,hx,hc⟩:=List.mem_flatten.1 hc
  obtain⟨m,hm,rfl⟩:=eL.1 hx
  exact pF (by have:=h.ns m (List.mem_of_mem_take hm);omega) c hc
 ·have:=h.bl;omega
 ·have:=h.ll;omega
 ·intro c hc
  unfold gw at hc
  obtain⟨x,hx,hc⟩:=List.mem_flatten.1 hc
  obtain⟨m,hm,rfl⟩:=eL.1 hx
  exact C7 (hb.l m (List.mem_of_mem_take hm)) (by have:=h.ts m (List.mem_of_mem_take hm);omega) c hc
theorem X9:dF Tryz.prog GB:=fun f k h=>by
 unfold GB at h
 split at h
 ·cases h;exact Q9
 ·cases h;exact Rq
 ·exact Sn _ _ h
theorem VR:bZ Tryz.prog Mc:=dI mixed X9 aG 10
theorem ack:aN Tryz.prog 47 LU:=mE VR mixed [.slot 0 5 1] (fun args kb K h=>by
 unfold LU at h;split at h<;>try exact h.elim
 rename_i k _ _ _
 obtain⟨n,b,l,rfl,rfl,rfl,Hp,hb,hy,hn⟩:=h
 refine⟨xJ k n b l 47,ag8 k n b l K ⟨n,b,l,rfl,rfl,rfl,Hp,fun hr=>⟨fun f=>(by cases f),fun _=>?_⟩,fun hr=>⟨fun _=>hn hr,fun f=>(by cases f)⟩⟩⟩
 replace hy:=hy hr
 have k1:=jJ k
 have hk2:=hr.k2
 have hnl:=hr.nl
 have Bm:=hr.ll
 have cd:=hr.bl
 refine⟨[],rfl,rfl,by simp,⟨by omega⟩,_,rfl,rfl,by simp only[bn,kn];omega,⟨by rw[bi];omega⟩,?_,?_⟩
 ·rw[jV,bi,<- Sa]
  exact At.mk' ⟨0,bt _⟩ rfl
 rintro⟨i,hi⟩
 dsimp only
 simp only[decide_eq_true_eq,decide_eq_false_iff_not]
 have p1:=Sb hr i
 refine⟨fun hc=>el (by omega) ⟨_,rfl,rfl,by omega,⟨by have:=hr.ns _ (A7 (show i<n.length by omega));omega⟩,?_⟩,fun hc=>?_⟩
 ·have e1:Z.wrap ((i:Int)+1)=((i+1:Nat):Int):=by rw[bD (by omega) (by omega)];rfl
  rw[e1,<- Sc (by omega)]
  exact Nx.mk' (⟨i+1,by omega⟩:{i:Nat // i<=n.length}) rfl (by show n.length - (i+1)<n.length - i;omega)
 have:i=n.length:=by omega
 subst this
 have t1:=rR b
 refine⟨_,b,rfl,rfl,rfl,by omega,by omega,_,rfl,rfl,by rw[bn];omega,⟨by rw[sM];omega⟩,?_,?_⟩
 ·rw[sM,<- Sd]
  exact At.mk' ⟨0,bt _⟩ rfl
 rintro⟨j,hj⟩
 dsimp only
 try simp only[decide_eq_true_eq,decide_eq_false_iff_not]
 have p2:=Se hr j
 refine⟨fun hc=>Gc (by omega) ⟨_,_,rfl,rfl,rfl,by omega,by have:=hr.ts _ (GM (show j<l.length by omega));omega,?_⟩,fun hc=>?_⟩
 ·have e1:Z.wrap ((j:Int)+1)=((j+1:Nat):Int):=by rw[bD (by omega) (by omega)];rfl
  rw[e1,<- Sf (by omega)]
  exact Nx.mk' (⟨j+1,by omega⟩:{i:Nat // i<=l.length}) rfl (by show l.length - (j+1)<l.length - j;omega)
 have:j=l.length:=by omega
 subst this
 refine⟨_,rfl,rfl,by omega,⟨by rw[bi];exact av _,trivial⟩,dv k n b l,by rw[g_,oI];unfold dv;rw[cM],Sk hr hb,by unfold dv;omega,⟨oP⟩,hy⟩)
def gU (l:List Int) (p:Nat×Int) (most:Int):Nat×Int:=(p.1+(cx (l.drop p.1) p.2 most).2.1,(cx (l.drop p.1) p.2 most).2.2)
def jp (l:List Int) (p:Nat×Int) (most:Int):Int:=(cx (l.drop p.1) p.2 most).1
def ww (l:List Int) (p:Nat×Int) (most:Int):Nat×Int:=(p.1+(gA (l.drop p.1) p.2 most).2.1,(gA (l.drop p.1) p.2 most).2.2)
def wv (l:List Int) (p:Nat×Int) (most:Int):List Int:=(gA (l.drop p.1) p.2 most).1
def rq (l:List Int) (p:Nat×Int):Nat->(Nat×Int)×List Int
 | 0=>(p,[])
 |i+1=>(gU l (rq l p i).1 4611686018427387904,(rq l p i).2++[jp l (rq l p i).1 4611686018427387904])
def pL (l:List Int) (p:Nat×Int):Nat->(Nat×Int)×List (List Int)
 | 0=>(p,[])
 |i+1=>(ww l (pL l p i).1 2048,(pL l p i).2++[wv l (pL l p i).1 2048])
def q1 (l:List Int):Nat×Int:=gU l (0,0) 40
def kd (l:List Int):Int:=jp l (0,0) 40
def q2 (l:List Int):Nat×Int:=gU l (q1 l) 16
def cn (l:List Int):Nat:=(jp l (q1 l) 16).toNat
def qn (l:List Int) (i:Nat):(Nat×Int)×List Int:=rq l (q2 l) i
def pn (l:List Int):Nat×Int:=(qn l (cn l)).1
def q3 (l:List Int):Nat×Int:=ww l (pn l) 2048
def bd (l:List Int):List Int:=wv l (pn l) 2048
def q4 (l:List Int):Nat×Int:=gU l (q3 l) 64
def cl (l:List Int):Nat:=(jp l (q3 l) 64).toNat
def qt (l:List Int) (i:Nat):(Nat×Int)×List (List Int):=pL l (q4 l) i
def pt (l:List Int):Nat×Int:=(qt l (cl l)).1
def fin (l:List Int):Int:=iE (l.drop (pt l).1) (pt l).2
structure LL where
 e:Int
 k:Int
 n:List Int
 b:List Int
 l:List (List Int)
def v_ (e:Int):LL:=⟨e,0,[],[],[]⟩
def wW (l:List Int):Prop:=ko (kd l) (qn l (cn l)).2 (bd l) (qt l (cl l)).2
open Classical in
noncomputable def nj (b:List Int):LL:=match fq b with
 |none=>v_ 4
 |some l=>if fin l≠0 then v_ (fin l)else if wW l then⟨0,kd l,(qn l (cn l)).2,bd l,(qt l (cl l)).2⟩else v_ 3
abbrev K9:List V:=[.int Z 0,γ (.slice none 0 0),γ (.slice none 0 0),γ (.slice none 0 0)]
abbrev Cy (l:List Int):LI where
 α:={i:Nat // i<=cn l/\(qn l i).1.1<=l.length}
 live:=[2,6,7,24,25]
 dU:=[.cell 2 1 3 1]
 st i:=([aj 0 0,aj 1 0,aj 2 0,.int Z (cn l:Int),.int Z (i.1:Int)],[ar K9,ar [.sl 3 (qn l i.1).1.1 l.length,.int Z (qn l i.1).1.2],ar [.int Z (kd l),.sl 4 0 i.1,γ (.slice none 0 0),γ (.slice none 0 0)],ξ 5 1 (ints ι l),ξ 3 1 (ints Z (qn l i.1).2)])
 μ i:=cn l - i.1
abbrev Cz (l:List Int):LI where
 α:={i:Nat // i<=cl l/\(qt l i).1.1<=l.length}
 live:=[2,6,7,39,40]
 dU:=[.cell 2 3 23 1]
 st i:=([aj 0 0,aj 1 0,aj 2 0,.int Z (cl l:Int),.int Z (i.1:Int)],[ar K9,ar [.sl 3 (qt l i.1).1.1 l.length,.int Z (qt l i.1).1.2],ar [.int Z (kd l),.sl 4 0 (cn l),.sl 5 0 (bd l).length,.sl 6 0 i.1],ξ 5 1 (ints ι l),ξ 3 1 (ints Z (qn l (cn l)).2),ξ 5 1 (ints ι (bd l)),ξ 23 1 ((qt l i.1).2.map bx)])
 μ i:=cl l - i.1
abbrev JF (b l:List Int):LI where
 α:={q:Nat // fq b=some l}
 live:=[2,4]
 dU:=[.slot 1 5 1]
 st q:=([aj 0 0,.sl 1 0 l.length],[ar K9,ξ 5 1 (ints ι l)])
 μ q:=0
def GD (b l:List Int):FuncId->Nat->Option LI
 | 59,1004=>some (JF b l)
 | 59,7=>some (Cy l)
 | 59,12=>some (Cz l)
 |_,_=>none
def LV:aE:=fun args kb K=>match args,kb with
 | [aD (.sl 1 B)],[]=>∃ b:List Int,B=ints ι b/\bm b/\b.length<=200000/\K (.υ [.agg (BX (nj b).k (nj b).n (nj b).b (nj b).l),.int Z (nj b).e]) []
 |_,_=>False
def tK:FuncId->Option dA
 | 76=>some ⟨[.fI 1],zN⟩
 | 64=>some ⟨[.fI 1],zX⟩
 |f=>Jq f
noncomputable def xd:bJ:=dG Tryz.prog tK aG 10
theorem Ux (b l:List Int) (K:V->KB->Prop) (an:
 let kj:=ε Z (kd l);let kH:=(az l.length (ints ι l));let ji:=(ints ι (bd l));let od:=(bd l).length<=ji.length;let cC:=(ints Z (qn l (cn l)).snd);let bS:=γ (Value.slice none 0 0);let bj:=fF [ε Z 0,aD (ψ 1 []),aD (ψ 1 []),aD (ψ 1 [])];let kJ:=K (aw [bj,ε Z 4]) [];let ω:=ar [ε Z 0,bS,bS,bS];let oX:=At (JF b l) ([aj 0 0,δ 1 0 0],[ω,ξ 5 1 []]);let η:=(∀(i:{q:Nat // fq b=some l }),(l.length<=(ints ι l).length/\
 True)/\
 (ay 0 kH).length<=140737488355328/\
 ox (ay 0 kH).flatten/\
 ∃(l_2:List Int),let b9:=(cx (ay 0 l_2) 0 40);ay 0 kH=ints ι l_2/\
 (ay 0 kH).length=l_2.length/\
 0<=l_2.length/\
 (∀(c:Int),dS c l_2->
 0<=c/\
 c<256)/\
 l_2.length<=140737488355328/\
 ∃(iT:List Int),let kI:=(cx (ay (0+b9.snd.fst) iT) b9.snd.snd 16);ints ι l_2=ints ι iT/\
 l_2.length=iT.length/\
 0+b9.snd.fst<=iT.length/\
 (∀(c:Int),dS c iT->
 0<=c/\
 c<256)/\
 iT.length<=140737488355328/\
 At (Cy l) ([aj 0 0,aj 1 0,aj 2 0,ε Z kI.fst,ε Z 0],[ω,ar [δ 3 (0+b9.snd.fst+kI.snd.fst) iT.length,ε Z kI.snd.snd],ar [ε Z b9.fst,δ 4 0 0,bS,bS],ξ 5 1 (ints ι iT),ξ 3 1 []])/\
 ∀(i:{i:Nat // i<=cn l/\
 (qn l i).fst.fst<=l.length }),let oe:=ar [kj,δ 4 0 (i.val+1),bS,bS];let lb:=(i.val+1)*8<=140737488355328;let k_:=[aj 0 0,aj 1 0,aj 2 0,ε Z (↑(cn l):Int),ε Z (Z.wrap ((↑i.val:Int)+1))];let fL:=(ints Z (qn l i.val).snd);(decide ((↑i.val:Int)<(↑(cn l):Int))=true->
 (∃(gH:List Int),let dz:=(cx (ay (qn l i.val).fst.fst gH) (qn l i.val).fst.snd 4611686018427387904);ints ι l=ints ι gH/\
 l.length=gH.length/\
 (qn l i.val).fst.fst<=gH.length/\
 (∀(c:Int),dS c gH->
 0<=c/\
 c<256)/\
 gH.length<=140737488355328/\
 1<=1/\
 i.val<=fL.length/\
 lb/\
 Nx (Cy l) i (k_,[ω,ar [δ 3 ((qn l i.val).fst.fst+dz.snd.fst) gH.length,ε Z dz.snd.snd],oe,ξ 5 1 (ints ι gH),ξ 3 1 (az i.val fL++[[ζ (ν Z dz.fst)]])]))/\
 ∃(gH:List Int),let fv:=(cx (ay (qn l i.val).fst.fst gH) (qn l i.val).fst.snd 4611686018427387904);let aH:=Nx (Cy l) i (k_,[ω,ar [δ 3 ((qn l i.val).fst.fst+fv.snd.fst) gH.length,ε Z fv.snd.snd],oe,ξ 5 1 (ints ι gH),ξ 3 1 (az i.val fL++[[ζ (ν Z fv.fst)]])]);ints ι l=ints ι gH/\
 l.length=gH.length/\
 (qn l i.val).fst.fst<=gH.length/\
 (∀(c:Int),dS c gH->
 0<=c/\
 c<256)/\
 gH.length<=140737488355328/\
 (1<=1/\
 i.val<=fL.length/\
 lb/\
 aH)/\
 1<=1/\
 i.val<=fL.length/\
 lb/\
 aH)/\
 (decide ((↑i.val:Int)<(↑(cn l):Int))=false->
 ∃(gH:List Int),let aC:=(gA (ay (qn l i.val).fst.fst gH) (qn l i.val).fst.snd 2048);ints ι l=ints ι gH/\
 l.length=gH.length/\
 (qn l i.val).fst.fst<=gH.length/\
 (∀(c:Int),dS c gH->
 0<=c/\
 c<256)/\
 gH.length<=140737488355328/\
 ∃(oJ:List Int),let iK:=(cx (ay ((qn l i.val).fst.fst+aC.snd.fst) oJ) aC.snd.snd 64);ints ι gH=ints ι oJ/\
 gH.length=oJ.length/\
 (qn l i.val).fst.fst+aC.snd.fst<=oJ.length/\
 (∀(c:Int),dS c oJ->
 0<=c/\
 c<256)/\
 oJ.length<=140737488355328/\
 At (Cz l) ([aj 0 0,aj 1 0,aj 2 0,ε Z iK.fst,ε Z 0],[ω,ar [δ 3 ((qn l i.val).fst.fst+aC.snd.fst+iK.snd.fst) oJ.length,ε Z iK.snd.snd],ar [kj,δ 4 0 i.val,δ 5 0 aC.fst.length,δ 6 0 0],ξ 5 1 (ints ι oJ),ξ 3 1 fL,ξ 5 1 (ints ι aC.fst),ξ 23 1 []])/\
 ∀(i:{i:Nat // i<=cl l/\
 (qt l i).fst.fst<=l.length }),let lP:=(i.val+1)*24<=140737488355328;let l9:=ar [kj,δ 4 0 (cn l),δ 5 0 (bd l).length,δ 6 0 (i.val+1)];let jS:=[aj 0 0,aj 1 0,aj 2 0,ε Z (↑(cl l):Int),ε Z (Z.wrap ((↑i.val:Int)+1))];let bN:=(φ bx (qt l i.val).snd);let bP:=K (aw [fF [kj,aD (ψ 1 (ay 0 (az (cn l) cC))),aD (ψ 1 (ay 0 (az (bd l).length ji))),aD (ψ 1 (ay 0 (az i.val bN)))],ε Z 0]) [];(decide ((↑i.val:Int)<(↑(cl l):Int))=true->
 (∃(jI:List Int),let bq:=(gA (ay (qt l i.val).fst.fst jI) (qt l i.val).fst.snd 2048);ints ι l=ints ι jI/\
 l.length=jI.length/\
 (qt l i.val).fst.fst<=jI.length/\
 (∀(c:Int),dS c jI->
 0<=c/\
 c<256)/\
 jI.length<=140737488355328/\
 bq.fst.length<=(ints ι bq.fst).length/\
 1<=1/\
 i.val<=bN.length/\
 lP/\
 Nx (Cz l) i (jS,[ω,ar [δ 3 ((qt l i.val).fst.fst+bq.snd.fst) jI.length,ε Z bq.snd.snd],l9,ξ 5 1 (ints ι jI),ξ 3 1 cC,ξ 5 1 ji,ξ 23 1 (az i.val bN++[[ψ 1 (ay 0 (az bq.fst.length (ints ι bq.fst)))]])]))/\
 ∃(jI:List Int),let aO:=(gA (ay (qt l i.val).fst.fst jI) (qt l i.val).fst.snd 2048);let qz:=aO.fst.length<=(ints ι aO.fst).length;let au:=Nx (Cz l) i (jS,[ω,ar [δ 3 ((qt l i.val).fst.fst+aO.snd.fst) jI.length,ε Z aO.snd.snd],l9,ξ 5 1 (ints ι jI),ξ 3 1 cC,ξ 5 1 ji,ξ 23 1 (az i.val bN++[[ψ 1 (ay 0 (az aO.fst.length (ints ι aO.fst)))]])]);ints ι l=ints ι jI/\
 l.length=jI.length/\
 (qt l i.val).fst.fst<=jI.length/\
 (∀(c:Int),dS c jI->
 0<=c/\
 c<256)/\
 jI.length<=140737488355328/\
 (qz/\
 1<=1/\
 i.val<=bN.length/\
 lP/\
 au)/\
 qz/\
 1<=1/\
 i.val<=bN.length/\
 lP/\
 au)/\
 (decide ((↑i.val:Int)<(↑(cl l):Int))=false->
 ∃(jI:List Int),let la:=(ay (qt l i.val).fst.fst jI);let tf:=(iE la (qt l i.val).fst.snd != 0);ints ι l=ints ι jI/\
 l.length=jI.length/\
 (tf=true->
 K (aw [bj,ε Z (iE la (qt l i.val).fst.snd)]) [])/\
 (tf=false->
 ((cn l<=cC.length/\
 od/\
 i.val<=bN.length/\
 True)/\
 True)/\
 ∃(n:List Int),∃(b:List Int),∃(BJ:List (List Int)),ay 0 (az (cn l) cC)=ints Z n/\
 ay 0 (az (bd l).length ji)=ints ι b/\
 ay 0 (az i.val bN)=φ bx BJ/\
 uU n b BJ/\
 (ko (kd l) n b BJ->
 True/\
 (false=true->
 K (aw [bj,ε Z 0]) [])/\
 (false=false->
 cn l<=cC.length/\
 od/\
 i.val<=bN.length/\
 bP))/\
 ((ko (kd l) n b BJ->
 False)->
 True/\
 (true=true->
 K (aw [bj,ε Z 3]) [])/\
 (true=false->
 cn l<=cC.length/\
 od/\
 i.val<=bN.length/\
 bP))))));∃(l_1:List Int),ints ι b=ints ι l_1/\
 (∀(c:Int),dS c l_1->
 0<=c/\
 c<256)/\
 l_1.length<=900000/\
 (fq l_1=none->
 ((true=true->
 kJ)/\
 (true=false->
 oX))/\
 η)/\
 ∀(m:List Int),fq l_1=some m->
 (m=[]->
 ((false=true->
 kJ)/\
 (false=false->
 oX))/\
 η)/\
 ((false=true->
 kJ)/\
 (false=false->
 At (JF b l) ([aj 0 0,δ 1 0 m.length],[ω,ξ 5 1 (ints ι m)])))/\
 η
 ):aI Tryz.prog xd (GD b l 59) 59 [aD (.sl 1 (ints ι b))] [] (xL [.num,.sl 1,.sl 1,.sl 1] (dp 0 K)):=by apply Eq.mp (a:=an);kernel_rfl
theorem yH {l:List Int} {most:Int} (h0:0<=most) (e:Int):(cx l e most).1<=most/\0<=(cx l e most).1:=by
 unfold cx
 split
 ·split
  ·split
   ·exact⟨h0,fa _⟩
   ·exact⟨by simp only;omega,by simp only;omega⟩
  ·exact⟨h0,fa _⟩
  ·exact⟨h0,fa _⟩
 ·exact⟨h0,fa _⟩
theorem Cq {l:List Int} {e most:Int} (h:e≠0):cx l e most=(0,0,e):=by unfold cx;rw[if_neg h]
theorem Sv {l:List Int} (hb:bm l) (e most:Int):(gA l e most).1.length<=l.length/\(gA l e most).2.1<=l.length:=by
 have h1:=(yI hb e most).2.2
 unfold gA
 split
 ·split
  ·exact⟨bt _,h1⟩
  ·rename_i h2
   simp only[cQ,fQ]at h2 ⊢
   omega
 ·exact⟨bt _,h1⟩
theorem Cc {l:List Int} (hb:bm l) {p:Nat×Int} (h:p.1<=l.length) (m:Int):(gU l p m).1<=l.length:=by
 have:=(yI (pY hb p.1) p.2 m).2.2
 rw[fQ]at this
 unfold gU;simp only;omega
theorem T_ {l:List Int} (hb:bm l) {p:Nat×Int} (h:p.1<=l.length) (m:Int):(ww l p m).1<=l.length:=by
 have:=(Sv (pY hb p.1) p.2 m).2
 rw[fQ]at this
 unfold ww;simp only;omega
theorem T8 {l:List Int} (hb:bm l) (p:Nat×Int) (m:Int):(wv l p m).length<=l.length:=by
 have:=(Sv (pY hb p.1) p.2 m).1
 rw[fQ]at this
 unfold wv;omega
theorem QA {l:List Int} (hb:bm l) {p:Nat×Int} (h:p.1<=l.length):∀ i,(rq l p i).1.1<=l.length/\(rq l p i).2.length=i
 | 0=>⟨h,rfl⟩
 |i+1=>by
  obtain⟨h1,h2⟩:=QA hb h i
  exact⟨Cc hb h1 _,by simp only[rq,bn,ii,h2]⟩
theorem TY {l:List Int} (hb:bm l) {p:Nat×Int} (h:p.1<=l.length):∀ i,(pL l p i).1.1<=l.length/\(pL l p i).2.length=i/\∀ t∈(pL l p i).2,t.length<=l.length
 | 0=>⟨h,rfl,fun t ht=>by cases ht⟩
 |i+1=>by
  obtain⟨h1,h2,h3⟩:=TY hb h i
  refine⟨T_ hb h1 _,by simp only[pL,bn,ii,h2],fun t ht=>?_⟩
  simp only[pL,dM,dQ]at ht
  rcases ht with ht | rfl
  ·exact h3 t ht
  ·exact T8 hb _ _
theorem Sq {l:List Int} (hb:bm l):(q1 l).1<=l.length:=Cc hb (bt _) _
theorem adx {l:List Int} (hb:bm l):(q2 l).1<=l.length:=Cc hb (Sq hb) _
theorem yE {l:List Int} (hb:bm l) (i:Nat):(qn l i).1.1<=l.length/\(qn l i).2.length=i:=QA hb (adx hb) i
theorem Sr {l:List Int} (hb:bm l):(q3 l).1<=l.length:=T_ hb (yE hb _).1 _
theorem ady {l:List Int} (hb:bm l):(q4 l).1<=l.length:=Cc hb (Sr hb) _
theorem Cp {l:List Int} (hb:bm l) (i:Nat):(qt l i).1.1<=l.length/\(qt l i).2.length=i/\∀ t∈(qt l i).2,t.length<=l.length:=TY hb (ady hb) i
theorem Nh {l:List Int}:jp l (q1 l) 16=(cn l:Int)/\cn l<=16:=by
 have:=yH (l:=l.drop (q1 l).1) (most:=16) (by omega) (q1 l).2
 unfold cn jp;omega
theorem Nd {l:List Int}:jp l (q3 l) 64=(cl l:Int)/\cl l<=64:=by
 have:=yH (l:=l.drop (q3 l).1) (most:=64) (by omega) (q3 l).2
 unfold cl jp;omega
theorem vS {l:List Int} {p:Nat×Int} {m:Int} (h:p.2≠0):(gU l p m).2=p.2:=by unfold gU;rw[Cq h]
theorem adT {b:List Int} (h:fq b=none):nj b=v_ 4:=by unfold nj;rw[h]
theorem adR {b l:List Int} (h:fq b=some l) (hf:fin l≠0):nj b=v_ (fin l):=by unfold nj;rw[h];simp only;rw[if_pos hf]
theorem Sy {b l:List Int} (h:fq b=some l) (hf:fin l=0) (hr:wW l):nj b=⟨0,kd l,(qn l (cn l)).2,bd l,(qt l (cl l)).2⟩:=by
 unfold nj;rw[h];simp only;rw[if_neg (by simp [hf]),if_pos hr]
theorem adS {b l:List Int} (h:fq b=some l) (hf:fin l=0) (hr:¬ wW l):nj b=v_ 3:=by
 unfold nj;rw[h];simp only;rw[if_neg (by simp [hf]),if_neg hr]
theorem ade {b l:List Int} (h:fq b=some l) (hb:bm b):bm l/\l.length<=b.length:=by
 have:=Cg h
 subst this
 exact⟨fun c hc=>hb c (iL _ hc),by rw[oS];omega⟩
theorem GC:dF Tryz.prog tK:=fun f k h=>by
 unfold tK at h
 split at h
 ·cases h;exact Q9
 ·cases h;exact Rm
 ·exact Sn _ _ h
theorem EM:bZ Tryz.prog xd:=dI mixed GC aG 10
theorem Ot {α:Type} {A B C D E X:α->Prop} (q:∃ l,A l/\B l/\C l/\D l/\E l/\X l):(∃ l,A l/\B l/\C l/\D l/\E l/\X l)/\∃ l,A l/\B l/\C l/\D l/\E l/\X l/\X l:=
 ⟨q,q.imp fun _ h=>⟨h.1,h.2.1,h.2.2.1,h.2.2.2.1,h.2.2.2.2.1,h.2.2.2.2.2,h.2.2.2.2.2⟩⟩
theorem rP {k:IntKind} {o:List Int} {n:Nat} (h:n=o.length):ay 0 (az n (ints k o))=ints k o:=by
 subst h
 rw[g_,oI,cM]
theorem afs {o:List (List Int)} {n:Nat} (h:n=o.length):ay 0 (az n (o.map bx))=o.map bx:=by
 subst h
 rw[g_,<- List.map_take,cM]
theorem aax {l:List Int} (hb:bm l) (hl:l.length<=900000):uU (qn l (cn l)).2 (bd l) (qt l (cl l)).2:=by
 have h1:=(yE hb (cn l)).2
 have h2:=T8 hb (pn l) 2048
 have h3:=Cp hb (cl l)
 have h4:=(Nh (l:=l)).2
 have h5:=(Nd (l:=l)).2
 have h6:(bd l).length<=l.length:=h2
 refine⟨?_,?_,?_,fun t ht=>?_⟩<;>simp only[maxLen]
 ·omega
 ·omega
 ·omega
 ·have:=h3.2.2 t ht;omega
theorem aco:aN Tryz.prog 59 LV:=Tq EM mixed [.num,.sl 1,.sl 1,.sl 1] (fun args kb K h=>by
 unfold LV at h;split at h<;>try exact h.elim
 obtain⟨b,rfl,hb,hl,h⟩:=h
 cases ho:fq b with
 |none=>
  rw[adT ho]at h
  refine⟨GD b [] 59,Ux b [] K ((fun t=>⟨b,rfl,hb,by omega,fun _=>⟨⟨fun _=>h,fun f=>(by cases f)⟩,t⟩,fun m hm=>absurd hm (by rw[ho];simp)⟩) ?_)⟩
  rintro⟨_,hq⟩
  rw[ho]at hq;cases hq
 |some l=>
  obtain⟨hlb,Bm⟩:=ade ho hb
  refine⟨GD b l 59,Ux b l K ((fun t=>⟨b,rfl,hb,by omega,fun hn=>(by rw[ho]at hn;cases hn),fun m hm=>⟨fun hm0=>⟨⟨fun f=>(by cases f),fun _=>?_⟩,t⟩,⟨⟨fun f=>(by cases f),fun _=>?_⟩,t⟩⟩⟩) ?_)⟩
  rotate_left
  ·rw[ho,bb.injEq]at hm
   subst hm
   subst hm0
   exact At.mk' ⟨0,ho⟩ rfl
  ·rw[ho,bb.injEq]at hm
   subst hm
   exact At.mk' ⟨0,ho⟩ rfl
  rintro⟨_,_⟩
  have e0:ay 0 (az l.length (ints ι l))=ints ι l:=rP rfl
  rw[e0]
  obtain⟨c1,c2⟩:=Nh (l:=l)
  obtain⟨d1,d2⟩:=Nd (l:=l)
  refine⟨⟨by rw[bi];exact av _,trivial⟩,by rw[bi];omega,⟨oP⟩,l,rfl,bi,bt _,hlb,by omega,l,rfl,rfl,Sq hlb,hlb,by omega,?_,?_⟩
  ·have e1:(cx (ay (0+(cx (ay 0 l) 0 40).2.1) l) (cx (ay 0 l) 0 40).2.2 16).1=(cn l:Int):=c1
   rw[e1]
   exact At.mk' ⟨0,bt _,(yE hlb 0).1⟩ rfl
  rintro⟨i,hi,hil⟩
  dsimp only at hil ⊢
  have hq:=yE hlb i
  have e1:Z.wrap ((i:Int)+1)=((i+1:Nat):Int):=by rw[bD (by omega) (by omega)];rfl
  simp only[decide_eq_true_eq,decide_eq_false_iff_not]
  refine⟨fun hc=>Ot ⟨l,rfl,rfl,hil,hlb,by omega,av _,by rw[bi];omega,by omega,?_⟩,fun hc=>?_⟩
  ·refine Nx.mk' (⟨i+1,by omega,(yE hlb (i+1)).1⟩:{i:Nat // i<=cn l/\(qn l i).1.1<=l.length}) ?_ (by show cn l - (i+1)<cn l - i;omega)
   show(_:List V×KB)=_
   have e2:az i (ints Z (qn l i).2)=ints Z (qn l i).2:=eM (by rw[bi];omega)
   have e3:ints Z (qn l i).2++[[ζ (.int Z (cx (l.drop (qn l i).1.1) (qn l i).1.2 4611686018427387904).1)]]=ints Z (qn l (i+1)).2:=by
    show _=ints Z ((qn l i).2++[_])
    rw[py];rfl
   rw[e1,e2,e3]
   rfl
  have:i=cn l:=by omega
  subst this
  refine⟨l,rfl,rfl,hil,hlb,by omega,l,rfl,rfl,Sr hlb,hlb,by omega,?_,?_⟩
  ·have e2:(cx (ay ((qn l (cn l)).1.1+(gA (ay (qn l (cn l)).1.1 l) (qn l (cn l)).1.2 2048).2.1) l) (gA (ay (qn l (cn l)).1.1 l) (qn l (cn l)).1.2 2048).2.2 64).1=(cl l:Int):=d1
   rw[e2]
   exact At.mk' ⟨0,bt _,(Cp hlb 0).1⟩ rfl
  rintro⟨j,hj,hjl⟩
  dsimp only at hjl ⊢
  have ZD:=Cp hlb j
  have e1:Z.wrap ((j:Int)+1)=((j+1:Nat):Int):=by rw[bD (by omega) (by omega)];rfl
  try simp only[decide_eq_true_eq,decide_eq_false_iff_not]
  refine⟨fun hc=>Ot ⟨l,rfl,rfl,hjl,hlb,by omega,by rw[bi];exact av _,av _,by rw[sM];omega,by omega,?_⟩,fun hc=>?_⟩
  ·refine Nx.mk' (⟨j+1,by omega,(Cp hlb (j+1)).1⟩:{i:Nat // i<=cl l/\(qt l i).1.1<=l.length}) ?_ (by show cl l - (j+1)<cl l - j;omega)
   show(_:List V×KB)=_
   have e2:az j ((qt l j).2.map bx)=(qt l j).2.map bx:=eM (by rw[sM];omega)
   have e3:(qt l j).2.map bx++[[ψ 1 (ay 0 (az (gA (l.drop (qt l j).1.1) (qt l j).1.2 2048).1.length (ints ι (gA (l.drop (qt l j).1.1) (qt l j).1.2 2048).1)))]]=(qt l (j+1)).2.map bx:=by
    rw[rP rfl]
    show _=((qt l j).2++[_]).map bx
    rw[jy];rfl
   rw[e1,e2,e3]
   rfl
  have:j=cl l:=by omega
  subst this
  refine⟨l,rfl,rfl,fun h1=>?_,fun h1=>?_⟩
  ·have hf:fin l≠0:=by
    have h2:iE (ay (qt l (cl l)).1.1 l) (qt l (cl l)).1.2≠0:=by simpa using h1
    exact h2
   rw[adR ho hf]at h
   exact h
  ·have hf:fin l=0:=by
    have h2:iE (ay (qt l (cl l)).1.1 l) (qt l (cl l)).1.2=0:=by simpa using h1
    exact h2
   have f1:ay 0 (az (cn l) (ints Z (qn l (cn l)).2))=ints Z (qn l (cn l)).2:=rP hq.2.symm
   have f2:ay 0 (az (bd l).length (ints ι (bd l)))=ints ι (bd l):=rP rfl
   have f3:ay 0 (az (cl l) ((qt l (cl l)).2.map bx))=(qt l (cl l)).2.map bx:=afs ZD.2.1.symm
   have g1:cn l<=(ints Z (qn l (cn l)).2).length:=by rw[bi];omega
   have g2:(bd l).length<=(ints ι (bd l)).length:=by rw[bi];omega
   have g3:cl l<=((qt l (cl l)).2.map bx).length:=by rw[sM];omega
   rw[f1,f2,f3]
   refine⟨⟨⟨g1,g2,g3,trivial⟩,trivial⟩,_,_,_,rfl,rfl,rfl,aax hlb (by omega),fun hr=>⟨trivial,fun f=>(by cases f),fun _=>⟨g1,g2,g3,?_⟩⟩,fun hr=>⟨trivial,fun _=>?_,fun f=>(by cases f)⟩⟩
   ·rw[Sy ho hf hr]at h;exact h
   ·rw[adS ho hf hr]at h;exact h)
def LS:aE:=fun args kb K=>match args,kb with
 | [.agg [.int Z k,aD (.sl 1 N),aD (.sl 1 B),aD (.sl 1 L)]],[]=>∃ n b l,N=ints Z n/\B=ints ι b/\L=l.map bx/\uU n b l/\wN b l/\
  (ko k n b l->K (.υ [aD (.sl 1 (ints ι (b_ (dv k n b l)))),.int Z 0]) [])/\(¬ ko k n b l->K (.υ [aD (.sl 1 []),.int Z 3]) [])
 |_,_=>False
theorem Cb {pre rest:List Int} {v m:Int} (h0:0<=v) (h:v<=9223372036854775807) (hm:v<=m):gU (pre++(aY v++rest)) (pre.length,0) m=((pre++aY v).length,0)/\jp (pre++(aY v++rest)) (pre.length,0) m=v:=by
 unfold gU jp
 simp only
 rw[List.drop_left,Jt h0 h hm,bn]
 exact⟨rfl,rfl⟩
theorem T9 {pre rest t:List Int} {m:Int} (hm:(t.length:Int)<=m) (h:(t.length:Int)<=9223372036854775807):ww (pre++(cJ t++rest)) (pre.length,0) m=((pre++cJ t).length,0)/\wv (pre++(cJ t++rest)) (pre.length,0) m=t:=by
 unfold ww wv
 simp only
 rw[List.drop_left,Su hm h,bn]
 exact⟨rfl,rfl⟩
theorem adr {k:Int} {n:List Int} (i:Nat):pu1 k n n.length=pu1 k n i++iN (n.drop i):=by
 unfold pu1
 have:=M5 (a:=n.take i) (b:=n.drop i)
 rw[List.take_append_drop]at this
 rw[cM,this]
 simp only[dO]
theorem adt {k:Int} {n b:List Int} {l:List (List Int)} (i:Nat):dv k n b l=pu2 k n b l i++gw (l.drop i):=by
 unfold dv pu2
 have:=M8 (a:=l.take i) (b:=l.drop i)
 rw[List.take_append_drop]at this
 rw[cM,this]
 simp only[dO]
theorem WT {n:List Int} {i:Nat} (h:i<n.length):iN (n.drop i)=aY (gI n i)++iN (n.drop (i+1)):=by
 have h1:=List.drop_eq_getElem_cons h
 have h2:=A0 h
 rw[bp h,bb.injEq]at h2
 rw[h1,h2]
 simp [iN]
theorem WV {n:List (List Int)} {i:Nat} (h:i<n.length):gw (n.drop i)=cJ (gT n i)++gw (n.drop (i+1)):=by
 have h1:=List.drop_eq_getElem_cons h
 have h2:=A8 h
 rw[bp h,bb.injEq]at h2
 rw[h1,h2]
 simp [gw]
section
variable {k:Int} {n b:List Int} {l:List (List Int)} (hr:ko k n b l)
include hr
theorem SL:q1 (dv k n b l)=((aY k).length,0)/\kd (dv k n b l)=k:=by
 have e:dv k n b l=[]++(aY k++(aY (n.length:Int)++iN n++cJ b++aY (l.length:Int)++gw l)):=by
  unfold dv pu2 pu1
  rw[cM,cM]
  simp only[dO,jV]
 have h1:=hr.k1
 have h2:=hr.k2
 unfold q1 kd
 rw[e]
 exact Cb (pre:=[]) (by omega) (by omega) (by omega)
theorem JM:q2 (dv k n b l)=((aY k++aY (n.length:Int)).length,0)/\cn (dv k n b l)=n.length:=by
 have e:dv k n b l=aY k++(aY (n.length:Int)++(iN n++cJ b++aY (l.length:Int)++gw l)):=by
  unfold dv pu2 pu1
  rw[cM,cM]
  simp only[dO]
 have h1:=hr.nl
 have h2:=Cb (pre:=aY k) (rest:=iN n++cJ b++aY (l.length:Int)++gw l) (v:=(n.length:Int)) (m:=16) (by omega) (by omega) (by omega)
 rw[<- e]at h2
 unfold q2 cn
 rw[(SL hr).1,h2.1,h2.2]
 exact⟨rfl,cP _⟩
theorem JN:∀ i,i<=n.length->qn (dv k n b l) i=(((pu1 k n i).length,0),n.take i)
 | 0,_=>by
  unfold qn rq
  rw[(JM hr).1,Sa];rfl
 |i+1,hi=>by
  have ih:=JN i (by omega)
  unfold qn at ih ⊢
  simp only[rq]
  rw[ih]
  have e:dv k n b l=pu1 k n i++(aY (gI n i)++(iN (n.drop (i+1))++cJ b++aY (l.length:Int)++gw l)):=by
   unfold dv pu2
   rw[adr i,WT (by omega),cM]
   simp only[dO]
  have h0:=hr.ns _ (A7 (show i<n.length by omega))
  have h2:=Cb (pre:=pu1 k n i) (rest:=iN (n.drop (i+1))++cJ b++aY (l.length:Int)++gw l) (v:=gI n i) (m:=4611686018427387904) h0.1 (by omega) h0.2
  rw[<- e]at h2
  simp only
  rw[h2.1,h2.2,Sc (by omega),GK (by omega)]
theorem aei:pn (dv k n b l)=((pu1 k n n.length).length,0):=by
 unfold pn
 rw[(JM hr).2,JN hr _ (av _)]
theorem SM:q3 (dv k n b l)=((pu1 k n n.length++cJ b).length,0)/\bd (dv k n b l)=b:=by
 have e:dv k n b l=pu1 k n n.length++(cJ b++(aY (l.length:Int)++gw l)):=by
  unfold dv pu2
  rw[cM]
  simp only[dO]
 have h1:=hr.bl
 have h2:=T9 (pre:=pu1 k n n.length) (rest:=aY (l.length:Int)++gw l) (t:=b) (m:=2048) (by omega) (by omega)
 rw[<- e]at h2
 unfold q3 bd
 rw[aei hr]
 exact h2
theorem SN:q4 (dv k n b l)=((pu2 k n b l 0).length,0)/\cl (dv k n b l)=l.length:=by
 have e:dv k n b l=(pu1 k n n.length++cJ b)++(aY (l.length:Int)++gw l):=by
  unfold dv pu2
  rw[cM]
  simp only[dO]
 have h1:=hr.ll
 have h2:=Cb (pre:=pu1 k n n.length++cJ b) (rest:=gw l) (v:=(l.length:Int)) (m:=64) (by omega) (by omega) (by omega)
 rw[<- e]at h2
 unfold q4 cl
 rw[(SM hr).1,h2.1,h2.2,Sd]
 exact⟨rfl,cP _⟩
theorem JO:∀ i,i<=l.length->qt (dv k n b l) i=(((pu2 k n b l i).length,0),l.take i)
 | 0,_=>by
  unfold qt pL
  rw[(SN hr).1];rfl
 |i+1,hi=>by
  have ih:=JO i (by omega)
  unfold qt at ih ⊢
  simp only[pL]
  rw[ih]
  have e:dv k n b l=pu2 k n b l i++(cJ (gT l i)++gw (l.drop (i+1))):=by
   rw[adt i,WV (by omega)]
  have h0:=hr.ts _ (GM (show i<l.length by omega))
  have h2:=T9 (pre:=pu2 k n b l i) (rest:=gw (l.drop (i+1))) (t:=gT l i) (m:=2048) (by omega) (by omega)
  rw[<- e]at h2
  simp only
  rw[h2.1,h2.2,Sf (by omega),A9 (by omega)]
theorem adU:nj (b_ (dv k n b l))=⟨0,k,n,b,l⟩:=by
 have h1:=(SN hr).2
 have h2:pt (dv k n b l)=((dv k n b l).length,0):=by
  unfold pt
  rw[h1,JO hr _ (av _)];rfl
 have hf:fin (dv k n b l)=0:=by
  unfold fin
  rw[h2]
  show iE ((dv k n b l).drop (dv k n b l).length) 0=0
  rw[List.drop_length];rfl
 have e1:kd (dv k n b l)=k:=(SL hr).2
 have e2:(qn (dv k n b l) (cn (dv k n b l))).2=n:=by rw[(JM hr).2,JN hr _ (av _),cM]
 have e3:bd (dv k n b l)=b:=(SM hr).2
 have e4:(qt (dv k n b l) (cl (dv k n b l))).2=l:=by rw[h1,JO hr _ (av _),cM]
 have hR:wW (dv k n b l):=by
  unfold wW
  rw[e1,e2,e3,e4];exact hr
 rw[Sy yy hf hR,e1,e2,e3,e4]
end
theorem acj:aN Tryz.prog 47 LS:=fun args kb K hs=>Ba ack [.fe 1] args kb K (by
 unfold LS at hs;split at hs<;>try exact hs.elim
 rename_i k _ _ _
 obtain⟨n,b,l,rfl,rfl,rfl,hl,hb,hy,hn⟩:=hs
 refine⟨n,b,l,rfl,rfl,rfl,hl,hb,fun hr=>?_,fun hr=>?_⟩
 ·refine⟨by rw[bi,oS];exact av _,?_⟩
  have e:ay 0 (az ((dv k n b l).length+4) (ints ι (b_ (dv k n b l))))=ints ι (b_ (dv k n b l)):=rP (by rw[oS])
  show K (.υ [aD (.sl 1 (ay 0 (az ((dv k n b l).length+4) (ints ι (b_ (dv k n b l)))))),.int Z 0]) []
  rw[e]
  exact hy hr
 ·refine⟨av _,?_⟩
  exact hn hr)
theorem aec {k:Int} {n b:List Int} {l:List (List Int)} (h:ko k n b l):(dv k n b l).length<=100000:=Se h _
end Go.Proofs.YtfcjngcnifdmnaaGreat.Fm
namespace Go.Proofs.YtfcjngcnifdmnaaGreat
open Vc Go
open Go.IntKind renaming i64->Z,u8->ι,u32->ic
open Vc.V renaming any->γ,sl->δ,int->ε,sb->θ,ptr->aj,υ->aw,dat->aD,aa->aP,mp->aX,arr->bB,agg->fF
open Vc.D renaming val->ζ,sl->ψ
open Go.Value renaming int->ν,map->kq,oneCell'->lU,bool->nE
open Vc.KO renaming row->ξ,dead->χ,cells->ar,objs->cD
open List renaming map->φ,drop->ay,take->az,length_append->bn,getElem?_eq_getElem->bp,getElem?_eq_some_iff->bG,length_map->bX,take_length->cM,length_take->cQ,replicate->dq,mem_append->dM,append_assoc->dO,getElem?_append_left->dP,mem_singleton->dQ,Mem->dS,mem_cons->ey,mem_map->eL,take_of_length_le->eM,getElem?_append_right->eW,mem_of_getElem?->fi,append_nil->fD,getElem?_map->fE,mem_cons_of_mem->fM,length_drop->fQ,getElem?_set_ne->gr,getD_eq_getElem?_getD->gD,getElem?_eq_none->gO,drop_zero->g_,getElem?_take_of_lt->hU,getElem?_set_self->ig,length_singleton->ii,length_set->ir,mem_cons_self->iu,range->iw,mem_append_left->iL,length_cons->iZ,take_add_one->i_,flatten_cons->jm,getElem?_drop->jw,getElem?_of_mem->jx,map_append->jy,nil_append->jV,length_nil->kn,mem_filter->kM,ext_getElem?->lw,eq_nil_of_length_eq_zero->ma,map_cons->mb,mem_append_right->mc
open Nat renaming le_refl->av,zero_le->bt,beq->cp,eq_of_beq_eq_true->cU,zero_add->c9,add_assoc->gE,lor->iy,lt_or_ge->jX,sub_zero->lT,le_trans->mf
open Option renaming some->bb,bind_eq_some_iff->kP,map->mO
open Int renaming toNat_natCast->cP,le_refl->fa
open Bool renaming and_eq_true->km,not_eq_false'->lm,not_eq_true'->lR
set_option linter.unusedVariables false
set_option linter.unusedSimpArgs false
set_option maxRecDepth 100000
abbrev HA (o:List Int) (v:Int):LI where
 α:={i:Nat // i<=o.length/\v ∉ o.take i}
 live:=[0,1,5]
 st i:=([aD (.sl 1 (ints Z o)),.int Z v,.int Z (i.1:Int)],[])
 μ i:=o.length - i.1
def gK (l:List Int) (v:Int):List Int:=l.filter (fun x=>x != v)
abbrev Dr (o:List Int) (v:Int):LI where
 α:={i:Nat // i<=o.length}
 live:=[0,1,5,6]
 dU:=[.slot 2 3 1]
 st i:=([aD (.sl 1 (ints Z o)),.int Z v,.sl 0 0 (gK (o.take i.1) v).length,.int Z (i.1:Int)],[ξ 3 1 (ints Z (gK (o.take i.1) v))])
 μ i:=o.length - i.1
abbrev IY (b:List Int):LI where
 α:={i:Nat // 1<=i/\i<=15/\∀ k,1<=k->k<i->b.getD k 0=0}
 live:=[0,3]
 st i:=([aD (.sl 1 (ints ι b)),.int Z (i.1:Int)],[])
 μ i:=15 - i.1
def KX (o:List Int) (v:Int):FuncId->Nat->Option LI
 | 93,2=>some (HA o v)
 | 94,3=>some (Dr o v)
 | 77,4=>some (IY o)
 |_,_=>none
def tr:aE:=fun args kb K=>match args,kb with
 | [aD (.sl 1 O),.int Z v],[]=>∃ o:List Int,O=ints Z o/\o.length<=100000/\K (θ (decide (v∈o))) []
 |_,_=>False
def EC:aE:=fun args kb K=>match args,kb with
 | [aD (.sl 1 O),.int Z v],[]=>∃ o:List Int,O=ints Z o/\o.length<=100000/\K (aD (.sl 1 (ints Z (gK o v)))) []
 |_,_=>False
def jL (b:List Int):Int:=if b.length=16/\(∀ k,k<15->1<=k->b.getD k 0=0)/\¬ (b.getD 0 0=0/\b.getD 15 0≠0∨b.getD 0 0≠0/\b.getD 15 0≠7)then b.getD 0 0 else -1
def Ei:aE:=fun args kb K=>match args,kb with
 | [aD (.sl 1 B)],[]=>∃ b:List Int,B=ints ι b/\bm b/\b.length<=100000/\K (.int Z (jL b)) []
 |_,_=>False
def lG (c:Vw) (ch id:Int):Vw:=
 if ch=0 then(if(id ∉ c.mem/\id ∉ c.aM)∨(id∈c.mem/\c.mem.length=1)then c else⟨c.vi,c.vv,c.ve+1,gK c.mem id,gK c.aM id⟩)
 else if ch=1 then(if id∈c.mem∨id∈c.aM then c else⟨c.vi,c.vv,c.ve+1,c.mem,c.aM++[id]⟩)
 else if ch=2 then(if id ∉ c.aM then c else⟨c.vi,c.vv,c.ve+1,c.mem++[id],gK c.aM id⟩)else c
def uX:aE:=fun args kb K=>match args,kb with
 | [.agg [.int Z vi,.int Z vv,.int Z ve,aD (.sl 1 M),aD (.sl 1 J)],.int Z ch,.int Z id],[]=>∃ m j:List Int,M=ints Z m/\J=ints Z j/\m.length<=1000/\j.length<=1000/\0<=ve/\ve<=1000000/\K (y0 (lG ⟨vi,vv,ve,m,j⟩ ch id)) []
 |_,_=>False
def IS:FuncId->Option dA
 | 93=>some ⟨[.fI 1],tr⟩
 | 94=>some ⟨[.fe 1],EC⟩
 |_=>none
noncomputable def Mi:bJ:=dG Tryz.prog IS aG 10
theorem KK (o:List Int) (v:Int) (K:V->KB->Prop) (an:
 At (HA o v) ([aD (ψ 1 (ints Z o)),ε Z v,ε Z 0],[])/\
 ∀(i:{i:Nat // i<=o.length/\
 ¬v∈az i o }),let η:=(↑i.val:Int)<(↑(ints Z o).length:Int);(decide (η)=true->
 aB (↑i.val:Int)/\
 ∃(e:List D),(ints Z o)[(↑i.val:Int).toNat]? =some e/\
 ∃(n:Int),e[0]? =some (ζ (ν Z n))/\
 ((n == v)=true->
 K (θ true) [])/\
 ((n == v)=false->
 Nx (HA o v) i ([aD (ψ 1 (ints Z o)),ε Z v,ε Z (Z.wrap ((↑i.val:Int)+1))],[])))/\
 (decide (η)=false->
 K (θ false) [])
 ):aI Tryz.prog X0 (KX o v 93) 93 [aD (.sl 1 (ints Z o)),.int Z v] [] K:=by apply Eq.mp (a:=an);kernel_rfl
theorem ahK (o:List Int) (v:Int) (K:V->KB->Prop) (an:
 let ω:=aD (ψ 1 (ints Z o));At (Dr o v) ([ω,ε Z v,δ 0 0 0,ε Z 0],[ξ 3 1 []])/\
 ∀(i:{i:Nat // i<=o.length }),let aH:=(↑i.val:Int)<(↑(ints Z o).length:Int);let au:=ε Z (Z.wrap ((↑i.val:Int)+1));let η:=(gK (az i.val o) v);let aC:=η.length<=(ints Z η).length;(decide (aH)=true->
 aB (↑i.val:Int)/\
 ∃(e:List D),(ints Z o)[(↑i.val:Int).toNat]? =some e/\
 ∃(n:Int),e[0]? =some (ζ (ν Z n))/\
 ((n != v)=true->
 aB (↑i.val:Int)/\
 ∃(e:List D),(ints Z o)[(↑i.val:Int).toNat]? =some e/\
 ∃(n:Int),e[0]? =some (ζ (ν Z n))/\
 1<=1/\
 aC/\
 (η.length+1)*8<=140737488355328/\
 Nx (Dr o v) i ([ω,ε Z v,δ 0 0 (η.length+1),au],[ξ 3 1 (az η.length (ints Z η)++[[ζ (ν Z n)]])]))/\
 ((n != v)=false->
 Nx (Dr o v) i ([ω,ε Z v,δ 0 0 η.length,au],[ξ 3 1 (ints Z η)])))/\
 (decide (aH)=false->
 aC/\
 K (aD (ψ 1 (ay 0 (az η.length (ints Z η))))) [])
 ):aI Tryz.prog X0 (KX o v 94) 94 [aD (.sl 1 (ints Z o)),.int Z v] [] (jE [.fe 1] (dp 0 K)):=by apply Eq.mp (a:=an);kernel_rfl
theorem agW (b:List Int) (K:V->KB->Prop) (an:
 let η:=K (ε Z (-1)) [];(((↑(ints ι b).length:Int) != 16)=true->
 η)/\
 (((↑(ints ι b).length:Int) != 16)=false->
 At (IY b) ([aD (ψ 1 (ints ι b)),ε Z 1],[])/\
 ∀(i:{i:Nat // 1<=i/\
 i<=15/\
 ∀(k:Nat),1<=k->
 k<i->
 b.getD k 0=0 }),(decide ((↑i.val:Int)<15)=true->
 aB (↑i.val:Int)/\
 ∃(e:List D),(ints ι b)[(↑i.val:Int).toNat]? =some e/\
 ∃(n:Int),e[0]? =some (ζ (ν ι n))/\
 ((n != 0)=true->
 η)/\
 ((n != 0)=false->
 Nx (IY b) i ([aD (ψ 1 (ints ι b)),ε Z (Z.wrap ((↑i.val:Int)+1))],[])))/\
 (decide ((↑i.val:Int)<15)=false->
 aB 0/\
 ∃(e:List D),(ints ι b)[0]? =some e/\
 ∃(n:Int),e[0]? =some (ζ (ν ι n))/\
 ((n == 0)=true->
 aB 15/\
 ∃(e:List D),(ints ι b)[15]? =some e/\
 ∃(n:Int),e[0]? =some (ζ (ν ι n))/\
 ((n != 0)=true->
 η)/\
 ((n != 0)=false->
 aB 0/\
 ∃(e:List D),(ints ι b)[0]? =some e/\
 ∃(n:Int),e[0]? =some (ζ (ν ι n))/\
 ((n != 0)=true->
 aB 15/\
 ∃(e:List D),(ints ι b)[15]? =some e/\
 ∃(n:Int),e[0]? =some (ζ (ν ι n))/\
 ((n != 7)=true->
 η)/\
 ((n != 7)=false->
 aB 0/\
 ∃(e:List D),(ints ι b)[0]? =some e/\
 ∃(n:Int),e[0]? =some (ζ (ν ι n))/\
 K (ε Z (Z.wrap n)) []))/\
 ((n != 0)=false->
 aB 0/\
 ∃(e:List D),(ints ι b)[0]? =some e/\
 ∃(n:Int),e[0]? =some (ζ (ν ι n))/\
 K (ε Z (Z.wrap n)) [])))/\
 ((n == 0)=false->
 aB 0/\
 ∃(e:List D),(ints ι b)[0]? =some e/\
 ∃(n:Int),e[0]? =some (ζ (ν ι n))/\
 ((n != 0)=true->
 aB 15/\
 ∃(e:List D),(ints ι b)[15]? =some e/\
 ∃(n:Int),e[0]? =some (ζ (ν ι n))/\
 ((n != 7)=true->
 η)/\
 ((n != 7)=false->
 aB 0/\
 ∃(e:List D),(ints ι b)[0]? =some e/\
 ∃(n:Int),e[0]? =some (ζ (ν ι n))/\
 K (ε Z (Z.wrap n)) []))/\
 ((n != 0)=false->
 aB 0/\
 ∃(e:List D),(ints ι b)[0]? =some e/\
 ∃(n:Int),e[0]? =some (ζ (ν ι n))/\
 K (ε Z (Z.wrap n)) []))))
 ):aI Tryz.prog X0 (KX b 0 77) 77 [aD (.sl 1 (ints ι b))] [] K:=by apply Eq.mp (a:=an);kernel_rfl
theorem KL (vi vv ve:Int) (m j:List Int) (ch id:Int) (K:V->KB->Prop) (an:
 let bj:=((↑(ints Z m).length:Int) == 1)=true;let aO:=((↑(ints Z m).length:Int) == 1)=false;let aC:=ε Z (Z.wrap (ve+1));let aH:=(az (0+(ints Z m).length) ([]++ints Z m)++[[ζ (ν Z id)]]);let au:=(az (0+(ints Z j).length) ([]++ints Z j)++[[ζ (ν Z id)]]);let ω:=K (fF [ε Z vi,ε Z vv,ε Z ve,aD (ψ 1 (ints Z m)),aD (ψ 1 (ints Z j))]) [];∃(o:List Int),let η:=(∃(o:List Int),ints Z m=ints Z o/\
 o.length<=100000/\
 ∃(IU:List Int),ints Z j=ints Z IU/\
 IU.length<=100000/\
 K (fF [ε Z vi,ε Z vv,aC,aD (ψ 1 (ints Z (gK o id))),aD (ψ 1 (ints Z (gK IU id)))]) []);ints Z m=ints Z o/\
 o.length<=100000/\
 ∃(h_:List Int),ints Z j=ints Z h_/\
 h_.length<=100000/\
 ((ch == 0)=true->
 ((!decide (id∈o))=true->
 ((!decide (id∈h_))=true->
 ω)/\
 ((!decide (id∈h_))=false->
 (decide (id∈o)=true->
 (bj->
 ω)/\
 (aO->
 η))/\
 (decide (id∈o)=false->
 η)))/\
 ((!decide (id∈o))=false->
 (decide (id∈o)=true->
 (bj->
 ω)/\
 (aO->
 η))/\
 (decide (id∈o)=false->
 η)))/\
 ((ch == 0)=false->
 ((ch == 1)=true->
 (decide (id∈o)=true->
 ω)/\
 (decide (id∈o)=false->
 (decide (id∈h_)=true->
 ω)/\
 (decide (id∈h_)=false->
 True/\
 0<=0/\
 (0+(ints Z j).length)*8<=140737488355328/\
 1<=1/\
 0+(ints Z j).length<=([]++ints Z j).length/\
 (0+(ints Z j).length+1)*8<=140737488355328/\
 0+(ints Z j).length+1<=au.length/\
 K (fF [ε Z vi,ε Z vv,aC,aD (ψ 1 (ints Z m)),aD (ψ 1 (ay 0 (az (0+(ints Z j).length+1) au)))]) [])))/\
 ((ch == 1)=false->
 ((ch == 2)=true->
 ((!decide (id∈h_))=true->
 ω)/\
 ((!decide (id∈h_))=false->
 True/\
 0<=0/\
 (0+(ints Z m).length)*8<=140737488355328/\
 1<=1/\
 0+(ints Z m).length<=([]++ints Z m).length/\
 (0+(ints Z m).length+1)*8<=140737488355328/\
 ∃(o:List Int),ints Z j=ints Z o/\
 o.length<=100000/\
 0+(ints Z m).length+1<=aH.length/\
 K (fF [ε Z vi,ε Z vv,aC,aD (ψ 1 (ay 0 (az (0+(ints Z m).length+1) aH))),aD (ψ 1 (ints Z (gK o id)))]) []))/\
 ((ch == 2)=false->
 ω)))
 ):aI Tryz.prog Mi (aG 61) 61 [.agg [.int Z vi,.int Z vv,.int Z ve,aD (.sl 1 (ints Z m)),aD (.sl 1 (ints Z j))],.int Z ch,.int Z id] [] (xL [.num,.num,.num,.sl 1,.sl 1] (dp 0 K)):=by apply Eq.mp (a:=an);kernel_rfl
theorem p8 {k:IntKind} {l:List Int} {n:Int} {i:Nat} {Q:Int->Prop} (hn:0<=n) (h:i<l.length) (q:Q (l.getD i 0)):aB n/\∃ e,(ints k l)[i]? =some e/\∃ x,e[0]? =some (ζ (.int k x))/\Q x:=
 ⟨by unfold aB;omega,[ζ (.int k (l.getD i 0))],by rw[kv,bp h,gD,bp h];rfl,_,rfl,q⟩
theorem xM {l:List Int} {i:Nat} (h:i<l.length):l[i]? =some (l.getD i 0):=by rw[gD,bp h];rfl
theorem A_ {l:List Int} {i:Nat} (h:i<l.length):l.getD i 0∈l:=fi (xM h)
theorem Ks {l:List Int} {i:Nat} (h:i<l.length):l.take (i+1)=l.take i++[l.getD i 0]:=by rw[i_,xM h];rfl
theorem abF:aN Tryz.prog 93 tr:=dW fN mixed (fun args kb K h=>by
 unfold tr at h;split at h<;>try exact h.elim
 rename_i v
 obtain⟨o,rfl,hl,h⟩:=h
 refine⟨_,KK o v K ⟨At.mk' ⟨0,bt _,by simp⟩ rfl,?_⟩⟩
 rintro⟨i,hi,ht⟩
 simp only[bi,decide_eq_true_eq,decide_eq_false_iff_not]
 refine⟨fun hc=>p8 (by omega) (by omega) ⟨fun hx=>?_,fun hx=>?_⟩,fun hc=>?_⟩
 ·simp only[beq_iff_eq]at hx
  rw[cP]at hx
  rwa [decide_eq_true (by rw[<- hx];exact A_ (by omega))]at h
 ·simp only[beq_eq_false_iff_ne,ne_eq]at hx
  rw[cP]at hx
  rw[bD (by omega) (by omega)]
  refine Nx.mk' (⟨i+1,by omega,?_⟩:{i:Nat // i<=o.length/\v ∉ o.take i}) rfl (by show o.length - (i+1)<o.length - i;omega)
  rw[Ks (by omega),dM,dQ]
  rintro(h1 | h1)
  ·exact ht h1
  ·exact hx h1.symm
 ·have:i=o.length:=by omega
  subst this
  rw[cM]at ht
  rwa [decide_eq_false ht]at h)
theorem QO (a b:List Int) (v:Int):gK (a++b) v=gK a v++gK b v:=List.filter_append ..
theorem IC (a:List Int) (v:Int):(gK a v).length<=a.length:=List.length_filter_le ..
theorem acN:aN Tryz.prog 94 EC:=fun args kb K h=>Ba (dW fN mixed (S:=fun a k K0=>∃ T,aI Tryz.prog X0 T 94 a k K0) fun _ _ _ h=>h) [.fe 1] args kb K (by
 unfold EC at h;split at h<;>try exact h.elim
 rename_i v
 obtain⟨o,rfl,hl,h⟩:=h
 refine⟨_,ahK o v K ⟨At.mk' ⟨0,bt _⟩ rfl,?_⟩⟩
 rintro⟨i,hi⟩
 have hn:=IC (o.take i) v
 rw[cQ]at hn
 simp only[bi,decide_eq_true_eq,decide_eq_false_iff_not]
 refine⟨fun hc=>p8 (by omega) (by omega) ⟨fun hx=>p8 (by omega) (by omega) ⟨av _,av _,by omega,?_⟩,fun hx=>?_⟩,fun hc=>⟨av _,?_⟩⟩
 ·rw[cP]at hx ⊢
  have e:gK (o.take (i+1)) v=gK (o.take i) v++[o.getD i 0]:=by rw[Ks (by omega),QO];unfold gK;rw[List.filter_cons_of_pos (by exact hx)];rfl
  refine Nx.mk' (⟨i+1,by omega⟩:{i:Nat // i<=o.length}) ?_ (by show o.length - (i+1)<o.length - i;omega)
  rw[bD (by omega) (by omega)]
  dsimp only
  have e2:az (gK (o.take i) v).length (ints Z (gK (o.take i) v))=ints Z (gK (o.take i) v):=eM (by rw[bi];exact av _)
  rw[e,e2,py,bn]
  rfl
 ·rw[cP]at hx
  have e:gK (o.take (i+1)) v=gK (o.take i) v:=by rw[Ks (by omega),QO];unfold gK;rw[List.filter_cons_of_neg (by rw[hx];exact Bool.false_ne_true)];simp
  refine Nx.mk' (⟨i+1,by omega⟩:{i:Nat // i<=o.length}) ?_ (by show o.length - (i+1)<o.length - i;omega)
  rw[bD (by omega) (by omega)]
  dsimp only
  rw[e];rfl
 ·have:i=o.length:=by omega
  subst this
  rw[g_,eM (by rw[bi];exact av _),cM]
  exact h)
theorem WP {b:List Int} (h:bm b) (i:Nat):0<=b.getD i 0/\b.getD i 0<256:=by
 by_cases hi:i<b.length
 ·exact h _ (A_ hi)
 ·rw[gD,gO (by omega)];exact⟨by decide,by decide⟩
theorem ab0:aN Tryz.prog 77 Ei:=dW fN mixed (fun args kb K h=>by
 unfold Ei at h;split at h<;>try exact h.elim
 obtain⟨b,rfl,hb,hl,h⟩:=h
 refine⟨_,agW b K ⟨fun hc=>?_,fun hc=>?_⟩⟩
 ·rw[bi]at hc
  have:jL b=-1:=if_neg (fun w=>by simp [w.1]at hc)
  rwa [this]at h
 rw[bi]at hc
 have Yr:b.length=16:=by simp at hc;omega
 refine⟨At.mk' ⟨1,by omega,by omega,fun k h1 h2=>by omega⟩ rfl,?_⟩
 rintro⟨i,h1,h2,h3⟩
 simp only[decide_eq_true_eq,decide_eq_false_iff_not,bne_iff_ne,ne_eq,bne_eq_false_iff_eq,beq_iff_eq,beq_eq_false_iff_ne]
 refine⟨fun hc=>p8 (by omega) (by omega) ⟨fun hx=>?_,fun hx=>?_⟩,fun hc=>?_⟩
 ·rw[cP]at hx
  have:jL b=-1:=if_neg (fun w=>hx (w.2.1 i (by omega) h1))
  rwa [this]at h
 ·rw[cP]at hx
  rw[bD (by omega) (by omega)]
  refine Nx.mk' (⟨i+1,by omega,by omega,fun k k1 k2=>?_⟩:{i:Nat // 1<=i/\i<=15/\∀ k,1<=k->k<i->b.getD k 0=0}) rfl (by show 15 - (i+1)<15 - i;omega)
  by_cases e:k=i
  ·subst e;exact hx
  ·exact h3 k k1 (by omega)
 ·have hi:i=15:=by omega
  subst hi
  have h0:=WP hb 0
  have bad:(b.getD 0 0=0/\b.getD 15 0≠0∨b.getD 0 0≠0/\b.getD 15 0≠7)->K (.int Z (-1)) []:=fun w=>by
   have:jL b=-1:=if_neg (fun q=>q.2.2 w)
   rwa [this]at h
  have good:¬ (b.getD 0 0=0/\b.getD 15 0≠0∨b.getD 0 0≠0/\b.getD 15 0≠7)->aB 0/\∃ e,(ints ι b)[0]? =some e/\∃ n,e[0]? =some (ζ (.int ι n))/\K (.int Z (Z.wrap n)) []:=fun w=>p8 (by omega) (by omega) (by
   have:jL b=b.getD 0 0:=if_pos ⟨Yr,fun k k1 k2=>h3 k k2 k1,w⟩
   rw[this]at h
   rwa [bD (by omega) (by omega)])
  refine p8 (by omega) (by omega) ⟨fun h4=>p8 (by omega) (by omega) ⟨fun h5=>bad (.inl ⟨h4,h5⟩),fun h5=>p8 (by omega) (by omega) ⟨fun h6=>absurd h4 h6,fun h6=>good (by omega)⟩⟩,fun h4=>p8 (by omega) (by omega) ⟨fun h5=>p8 (by omega) (by omega) ⟨fun h6=>bad (.inr ⟨h5,h6⟩),fun h6=>good (by omega)⟩,fun h5=>absurd h5 h4⟩⟩)
theorem aa_:dF Tryz.prog IS:=fun f k h=>by
 unfold IS at h
 split at h
 ·cases h;exact abF
 ·cases h;exact acN
 ·cases h
theorem VY:bZ Tryz.prog Mi:=dI mixed aa_ aG 10
theorem abW:aN Tryz.prog 61 uX:=Tq VY mixed [.num,.num,.num,.sl 1,.sl 1] (fun args kb K h=>by
 unfold uX at h;split at h<;>try exact h.elim
 rename_i vi vv ve _ _ ch id
 obtain⟨m,j,rfl,rfl,hm,hj,e0,e1,h⟩:=h
 refine⟨_,KL vi vv ve m j ch id K ?_⟩
 have w1:Z.wrap (ve+1)=ve+1:=by rw[bD (by omega) (by omega)]
 have hm1:(ints Z m).length=m.length:=bi
 have hj1:(ints Z j).length=j.length:=bi
 have ap:∀(l:List Int) (x:Int),ay 0 (az (0+(ints Z l).length+1) (az (0+(ints Z l).length) ([]++ints Z l)++[[ζ (.int Z x)]]))=ints Z (l++[x]):=fun l x=>by
  rw[g_,jV,c9,cM,eM (by rw[bn];exact av _),py];rfl
 have al:∀(l:List Int) (x:Int),0+(ints Z l).length+1<=(az (0+(ints Z l).length) ([]++ints Z l)++[[ζ (.int Z x)]]).length:=fun l x=>by
  rw[jV,c9,cM,bn];exact av _
 unfold lG at h
 dsimp only at h ⊢
 refine⟨m,rfl,by omega,j,rfl,by omega,?_⟩
 simp only[beq_iff_eq,beq_eq_false_iff_ne,ne_eq,lR,lm,decide_eq_true_eq,decide_eq_false_iff_not,w1,ap]at h ⊢
 have fx:((ints Z m).length:Int)=1 ↔ m.length=1:=by rw[hm1];omega
 refine⟨fun c0=>?_,fun c0=>⟨fun c1=>?_,fun c1=>⟨fun c2=>?_,fun c2=>?_⟩⟩⟩
 ·rw[if_pos c0]at h
  have go:¬ ((id ∉ m/\id ∉ j)∨(id∈m/\m.length=1))->∃ o,ints Z m=ints Z o/\o.length<=100000/\∃ o2,ints Z j=ints Z o2/\o2.length<=100000/\K (.agg [.int Z vi,.int Z vv,.int Z (ve+1),aD (.sl 1 (ints Z (gK o id))),aD (.sl 1 (ints Z (gK o2 id)))]) []:=fun w=>by
   rw[if_neg w]at h
   exact⟨m,rfl,by omega,j,rfl,by omega,h⟩
  have no:((id ∉ m/\id ∉ j)∨(id∈m/\m.length=1))->K (.agg [.int Z vi,.int Z vv,.int Z ve,aD (.sl 1 (ints Z m)),aD (.sl 1 (ints Z j))]) []:=fun w=>by rw[if_pos w]at h;exact h
  refine⟨fun m1=>⟨fun j1=>no (.inl ⟨m1,j1⟩),fun j1=>⟨fun m2=>absurd m2 m1,fun m2=>go (fun w=>w.elim (fun w=>w.2 j1) (fun w=>m1 w.1))⟩⟩,fun m1=>⟨fun m2=>⟨fun l1=>no (.inr ⟨m1,fx.1 l1⟩),fun l1=>go (fun w=>w.elim (fun w=>w.1 m1) (fun w=>l1 (fx.2 w.2)))⟩,fun m2=>absurd m1 m2⟩⟩
 ·rw[if_neg c0,if_pos c1]at h
  refine⟨fun m1=>?_,fun m1=>⟨fun j1=>?_,fun j1=>⟨trivial,av _,by omega,av _,by simp,by omega,al _ _,?_⟩⟩⟩
  ·rw[if_pos (.inl m1)]at h;exact h
  ·rw[if_pos (.inr j1)]at h;exact h
  ·rw[if_neg (fun w=>w.elim (fun w=>m1 w) (fun w=>j1 w))]at h;exact h
 ·rw[if_neg c0,if_neg c1,if_pos c2]at h
  refine⟨fun j1=>?_,fun j1=>⟨trivial,av _,by omega,av _,by simp,by omega,j,rfl,by omega,al _ _,?_⟩⟩
  ·rw[if_pos j1]at h;exact h
  ·rw[if_neg (fun w=>w j1)]at h;exact h
 ·rw[if_neg c0,if_neg c1,if_neg c2]at h;exact h)
structure nB where
 fr:Int
 to:Int
 m:dY
structure dD where
 o:Op
 v:Int
 bg:Int
 en:Int
structure Wd where
 R:List κ
 dk:List (List Int)
 vs:List Vw
 af:List nB
 cs:List dD
 aW:List Int
 now:Int
 ok:Bool
def mB (m:dY):List Int:=b_ (Fm.dv m.kd m.n m.b m.l)
def cH (x:nB):List D:=[dn Z x.fr,dn Z x.to,.sl 1 (ints ι (mB x.m))]
def dL (w:Vw):List D:=[dn Z w.vi,dn Z w.vv,dn Z w.ve,.sl 1 (ints Z w.mem),.sl 1 (ints Z w.aM)]
def cF (c:dD):List D:=[dn Z c.o.cl,dn Z c.o.nm,dn Z c.o.kd,dn Z c.o.bk,.sl 1 (ints ι c.o.b),dn Z c.o.kd,dn Z c.v,dn Z c.bg,dn Z c.en,db false]
def cj (p:Nat×Nat):List D:=[.val (pv p.2)]
abbrev jN (b:Nat) (w:Wd):KO:=.cells [.sl b 0 w.R.length,.sl (b+1) 0 w.dk.length,.sl (b+2) 0 w.vs.length,.sl (b+3) 0 w.af.length,.sl (b+4) 0 w.cs.length,.sl (b+5) 0 w.aW.length,.int Z w.now,θ w.ok]
abbrev kD (q:List (Nat×Nat)):KO:=.row 30 1 (q.map cj)
abbrev kX (w:Wd):KO:=.row 23 1 (w.dk.map bx)
abbrev kE (w:Wd):KO:=.row 49 5 (w.vs.map dL)
abbrev kg (w:Wd):KO:=.row 73 3 (w.af.map cH)
abbrev lL (w:Wd):KO:=.row 61 10 (w.cs.map cF)
abbrev lM (w:Wd):KO:=.row 3 1 (ints Z w.aW)
abbrev mJ (w:Wd) (q:List (Nat×Nat)) (A:List (Sg×KB)):KB:=[jN 1 w,kD q,kX w,kE w,kg w,lL w,lM w,cD A]
abbrev eE (w:Wd) (q:List (Nat×Nat)) (A:List (Sg×KB)):KB:=[jN 8 w,χ,χ,χ,χ,χ,χ,cD A,kD q,kX w,kE w,kg w,lL w,lM w]
abbrev Ut (w:Wd) (q:List (Nat×Nat)):KB:=[jN 1 w,kD q,kX w,kE w,kg w,lL w,lM w]
abbrev vKo (w:Wd) (q:List (Nat×Nat)):KB:=[jN 7 w,χ,χ,χ,χ,χ,χ,kD q,kX w,kE w,kg w,lL w,lM w]
def eP:List jz:=[.mv 0 0,.mv 0 1,.mv 0 2,.mv 0 3,.mv 0 4,.mv 0 5,.kill 1,.kill 2,.kill 3,.kill 4,.kill 5,.kill 6]
structure CU (l:List (Nat×κ)) (q:List (Nat×Nat)) (R:List κ):Prop where
 len:q.length=R.length
 a:∀(i:Nat) (p:Nat×Nat),q[i]? =some p->∃ r,R[i]? =some r/\l[p.1]? =some (p.2,r)
 nd:(q.map (·.1)).Nodup
structure PW (A:List (Sg×KB)) (q:List (Nat×Nat)) (R:List κ):Prop where
 h:∃ l,cW A l/\CU l q R
structure og (kb:KB) (w:Wd) (q:List (Nat×Nat)) (A:List (Sg×KB)):Prop where
 h:kb=mJ w q A
structure LD (kb:KB) (w:Wd) (q:List (Nat×Nat)):Prop where
 h:kb=Ut w q
def qc (d:Dn) (c:dD):Prop:=c.o.cl=d.o.cl/\c.o.nm=d.o.nm/\c.en=-1/\d.e=0
instance (d:Dn) (c:dD):Decidable (qc d c):=by unfold qc;infer_instance
def im (now:Int) (d:Dn) (c:dD):dD:=if qc d c then⟨c.o,if c.o.kd=3 then jL d.x else c.v,c.bg,now⟩else c
def nY (d:Dn) (c:dD):Bool:=decide (qc d c/\c.o.kd=3->0<=jL d.x)
def dd (w:Wd) (d:Dn) (i:Nat):Wd:={w with cs:=(w.cs.take i).map (im w.now d)++w.cs.drop i,ok:=w.ok && (w.cs.take i).all (nY d) }
def fB (w:Wd) (d:Dn):Wd:={w with cs:=w.cs.map (im w.now d),ok:=w.ok && w.cs.all (nY d) }
def WQ:dD:=⟨⟨0,0,0,0,[]⟩,0,0,0⟩
def c8 (w:Wd) (i:Nat):dD:=w.cs.getD i WQ
def KA (w:Wd) (d:Dn) (i:Nat):Wd:={dd w d i with ok:=(dd w d (i+1)).ok }
abbrev xD (d:Dn):KO:=.cells [.int Z d.o.cl,.int Z d.o.nm,.int Z d.o.kd,.int Z d.o.bk,aD (.sl 1 (ints ι d.o.b)),.int Z d.e,aD (.sl 1 (ints ι d.x))]
structure Aj where
 W:Wd
 e:List D
structure EE (w:Wd) (d:Dn) (i:Nat) (x:Aj):Prop where
 lt:i<w.cs.length
 hit:qc d (c8 w i)
 W:x.W=KA w d i
 e:x.e=cF (im w.now d (c8 w i))
abbrev yT (w:Wd) (q:List (Nat×Nat)) (d:Dn) (i:Nat):LI where
 α:={x:Aj // EE w d i x}
 live:=[0,3,4,5]
 dU:=eP++[.q9 3]
 st x:=([aj 0 0,aj 13 0,.int Z (i:Int),.dK x.1.e 0],[jN 7 x.1.W,χ,χ,χ,χ,χ,χ,kD q,kX w,kE w,kg w,lL x.1.W,lM w,xD d])
 μ x:=0
def afx (w:Wd) (q:List (Nat×Nat)) (d:Dn) (i:Nat):Nat->Option LI
 | 1010=>some (yT w q d i)
 |_=>none
abbrev wu (w:Wd) (q:List (Nat×Nat)) (d:Dn):LI where
 α:={x:Nat×Wd // x.1<=w.cs.length/\x.2=dd w d x.1}
 live:=[0,3,4]
 dU:=eP
 st x:=([aj 0 0,aj 13 0,.int Z (x.1.1:Int)],[jN 7 x.1.2,χ,χ,χ,χ,χ,χ,kD q,kX w,kE w,kg w,lL x.1.2,lM w,xD d])
 μ x:=w.cs.length - x.1.1
 sub x:=afx w q d x.1.1
def T7 (w:Wd) (q:List (Nat×Nat)) (d:Dn):FuncId->Nat->Option LI
 | 48,2=>some (wu w q d)
 |_,_=>none
def Kv:FuncId->Option dA
 | 77=>some ⟨[.fI 1],Ei⟩
 |_=>none
noncomputable def Mp:bJ:=dG Tryz.prog Kv aG 10
abbrev NQ (d:Dn):V:=.agg [.int Z d.o.cl,.int Z d.o.nm,.int Z d.o.kd,.int Z d.o.bk,aD (.sl 1 (ints ι d.o.b)),.int Z d.e,aD (.sl 1 (ints ι d.x))]
theorem ahA (w:Wd) (q:List (Nat×Nat)) (d:Dn) (K:V->KB->Prop) (an:
 let K8:=ε Z d.o.bk;let K7:=ε Z d.o.kd;let K6:=ε Z d.o.nm;let K5:=ε Z d.o.cl;let kJ:=aD (ψ 1 (ints ι d.x));let iK:=ξ 30 1 (φ cj q);let fL:=ξ 49 5 (φ dL w.vs);let fv:=ξ 23 1 (φ bx w.dk);let dz:=ξ 73 3 (φ cH w.af);let cC:=ξ 3 1 (ints Z w.aW);At (wu w q d) ([aj 0 0,aj 13 0,ε Z 0],[ar [δ 7 0 w.R.length,δ 8 0 w.dk.length,δ 9 0 w.vs.length,δ 10 0 w.af.length,δ 11 0 w.cs.length,δ 12 0 w.aW.length,ε Z w.now,θ w.ok],χ,χ,χ,χ,χ,χ,iK,fv,fL,dz,ξ 61 10 (φ cF w.cs),cC,ar [K5,K6,K7,K8,aD (ψ 1 (ints ι d.o.b)),ε Z d.e,kJ]])/\
 ∀(i:{x:Nat×Wd // x.fst<=w.cs.length/\
 x.snd=dd w d x.fst }),let Ve:=ζ (ν Z i.val.snd.now);let wG:=δ 7 0 i.val.snd.R.length;let tf:=δ 9 0 i.val.snd.vs.length;let qz:=δ 8 0 i.val.snd.dk.length;let od:=(↑i.val.fst:Int)<(↑(i.val.snd.cs.length - 0):Int);let oX:=δ 11 0 i.val.snd.cs.length;let lb:=δ 10 0 i.val.snd.af.length;let lP:=ε Z i.val.snd.now;let la:=δ 12 0 i.val.snd.aW.length;let k_:=ξ 61 10 (φ cF i.val.snd.cs);let bN:=ar [wG,qz,tf,lb,oX,la,lP,θ i.val.snd.ok];let aO:=(Z.wrap ((↑i.val.fst:Int)+1));let zl:=[aj 0 0,aj 13 0,ε Z aO];(decide (od)=true->
 bw (↑i.val.fst:Int) (i.val.snd.cs.length - 0)/\
 ∃(e:List D),(φ cF i.val.snd.cs)[0+(↑i.val.fst:Int).toNat]? =some e/\
 ∃(n:Int),let wL:=(ν Z n);e[0]? =some (ζ wL)/\
 ∃(n_1:Int),let uN:=(ν Z n_1);e[1]? =some (ζ uN)/\
 ∃(n_2:Int),let wH:=(ν Z n_2);e[2]? =some (ζ wH)/\
 ∃(eJ:Int),let wI:=(ν Z eJ);e[3]? =some (ζ wI)/\
 ∃(l:List (List D)),e[4]? =some (ψ 1 l)/\
 ∃(iV:Int),let wJ:=(ν Z iV);e[5]? =some (ζ wJ)/\
 ∃(nf:Int),e[6]? =some (ζ (ν Z nf))/\
 ∃(nP:Int),let wK:=(ν Z nP);e[7]? =some (ζ wK)/\
 ∃(oN:Int),e[8]? =some (ζ (ν Z oN))/\
 ∃(b:Bool),let bj:=ar [K5,K6,K7,K8,aD (ψ 1 (ints ι d.o.b)),ε Z d.e,kJ];let ω:KB:=[bN,χ,χ,χ,χ,χ,χ,iK,fv,fL,dz,k_,cC,bj];let bS:=Nx (wu w q d) i (zl,ω);e[9]? =some (ζ (nE b))/\
 ((n != d.o.cl)=true->
 bS)/\
 ((n != d.o.cl)=false->
 ((n_1 != d.o.nm)=true->
 bS)/\
 ((n_1 != d.o.nm)=false->
 ((oN != -1)=true->
 bS)/\
 ((oN != -1)=false->
 ((d.e != 0)=true->
 bS)/\
 ((d.e != 0)=false->
 (((n_2 == 3)=true->
 ∃(b_1:List Int),let bq:=[aj 0 0,aj 13 0,ε Z (↑i.val.fst:Int),V.dK [ζ wL,ζ uN,ζ wH,ζ wI,ψ 1 l,ζ wJ,ζ (ν Z (jL b_1)),ζ wK,Ve,ζ (nE b)] 0];ints ι d.x=ints ι b_1/\
 (∀(c:Int),dS c b_1->
 0<=c/\
 c<256)/\
 b_1.length<=100000/\
 (i.val.snd.ok=true->
 At (yT w q d i.val.fst) (bq,[ar [wG,qz,tf,lb,oX,la,lP,θ (decide (jL b_1 ≥ 0))],χ,χ,χ,χ,χ,χ,iK,fv,fL,dz,k_,cC,bj]))/\
 (i.val.snd.ok=false->
 At (yT w q d i.val.fst) (bq,[ar [wG,qz,tf,lb,oX,la,lP,θ false],χ,χ,χ,χ,χ,χ,iK,fv,fL,dz,k_,cC,bj])))/\
 ((n_2 == 3)=false->
 At (yT w q d i.val.fst) ([aj 0 0,aj 13 0,ε Z (↑i.val.fst:Int),V.dK [ζ wL,ζ uN,ζ wH,ζ wI,ψ 1 l,ζ wJ,ζ (ν Z nf),ζ wK,Ve,ζ (nE b)] 0],ω)))/\
 ∀(i_1:{x:Aj // EE w d i.val.fst x }),let jS:=(i_1.val.W.cs.length - 0);let b9:=(φ cF i_1.val.W.cs);let oe:=(ay (0+aO.toNat) (az (0+jS) b9));let l9:=0+(↑i.val.fst:Int).toNat<=b9.length;let au:=(az (0+(↑i.val.fst:Int).toNat) b9);let kI:=(0+(ay 0 au).length)*96<=140737488355328;let kH:=(0+(ay 0 au).length+1)*96<=140737488355328;let ji:=0+(ay 0 au).length<=([]++ay 0 au).length;let bP:=(0+(ay 0 au).length+1+oe.length)*96<=140737488355328;True/\
 aB (↑i.val.fst:Int)/\
 0<=(↑i.val.fst:Int).toNat/\
 (↑i.val.fst:Int).toNat<=i_1.val.W.cs.length - 0/\
 ∃(n:Int),i_1.val.e[0]? =some (ζ (ν Z n))/\
 ∃(oO:Int),i_1.val.e[1]? =some (ζ (ν Z oO))/\
 ∃(yi:Int),i_1.val.e[2]? =some (ζ (ν Z yi))/\
 ∃(yh:Int),i_1.val.e[3]? =some (ζ (ν Z yh))/\
 ∃(l:List (List D)),i_1.val.e[4]? =some (ψ 1 l)/\
 ∃(QB:Int),i_1.val.e[5]? =some (ζ (ν Z QB))/\
 ∃(QC:Int),i_1.val.e[6]? =some (ζ (ν Z QC))/\
 ∃(QD:Int),i_1.val.e[7]? =some (ζ (ν Z QD))/\
 ∃(QE:Int),i_1.val.e[8]? =some (ζ (ν Z QE))/\
 ∃(b:Bool),let aC:=(∃(n:Int),i_1.val.e[0]? =some (ζ (ν Z n))/\
 ∃(n:Int),i_1.val.e[1]? =some (ζ (ν Z n))/\
 ∃(n:Int),i_1.val.e[2]? =some (ζ (ν Z n))/\
 ∃(n:Int),i_1.val.e[3]? =some (ζ (ν Z n))/\
 ∃(l:List (List D)),i_1.val.e[4]? =some (ψ 1 l)/\
 ∃(n:Int),i_1.val.e[5]? =some (ζ (ν Z n))/\
 ∃(n:Int),i_1.val.e[6]? =some (ζ (ν Z n))/\
 ∃(n:Int),i_1.val.e[7]? =some (ζ (ν Z n))/\
 ∃(n:Int),i_1.val.e[8]? =some (ζ (ν Z n))/\
 ∃(b:Bool),i_1.val.e[9]? =some (ζ (nE b))/\
 True);let aH:=(az (0+(ay 0 au).length) ([]++ay 0 au)++[[ζ (ν Z n),ζ (ν Z oO),ζ (ν Z yi),ζ (ν Z yh),ψ 1 l,ζ (ν Z QB),ζ (ν Z QC),ζ (ν Z QD),ζ (ν Z QE),ζ (nE b)]]);let kj:=0+(ay 0 au).length+1<=aH.length;let η:=Nx (wu w q d) i (zl,[ar [δ 7 0 i_1.val.W.R.length,δ 8 0 i_1.val.W.dk.length,δ 9 0 i_1.val.W.vs.length,δ 10 0 i_1.val.W.af.length,δ 11 0 (0+(ay 0 au).length+1+oe.length),δ 12 0 i_1.val.W.aW.length,ε Z i_1.val.W.now,θ i_1.val.W.ok],χ,χ,χ,χ,χ,χ,iK,fv,fL,dz,ξ 61 10 (az (0+(ay 0 au).length+1) aH++ay (0+aO.toNat) (az (0+jS) b9)),cC,ar [K5,K6,K7,K8,aD (ψ 1 (ints ι d.o.b)),ε Z d.e,kJ]]);i_1.val.e[9]? =some (ζ (nE b))/\
 aB aO/\
 True/\
 aO.toNat<=i_1.val.W.cs.length - 0/\
 i_1.val.W.cs.length - 0<=i_1.val.W.cs.length - 0/\
 (True/\
 True/\
 (aC)/\
 (True/\
 True/\
 l9/\
 0<=0/\
 kI/\
 (aC)/\
 True/\
 True/\
 1<=1/\
 ji/\
 kH/\
 0+jS<=b9.length/\
 kj/\
 bP/\
 η)/\
 True/\
 True/\
 True/\
 True/\
 l9/\
 0<=0/\
 kI/\
 True/\
 1<=1/\
 ji/\
 kH/\
 0+jS<=b9.length/\
 kj/\
 bP/\
 η)/\
 True/\
 True/\
 True/\
 True/\
 True/\
 True/\
 l9/\
 0<=0/\
 kI/\
 True/\
 1<=1/\
 ji/\
 kH/\
 0+jS<=b9.length/\
 kj/\
 bP/\
 η)))))/\
 (decide (od)=false->
 K (aw []) [bN,χ,χ,χ,χ,χ,χ,iK,fv,fL,dz,k_,cC])
 ):aI Tryz.prog Mp (T7 w q d 48) 48 [aj 0 0,NQ d] (Ut w q) (eZ eP (dp 7 K)):=by apply Eq.mp (a:=an);kernel_rfl
theorem wm {α:Type} (M:List α) (i:Nat):ay 0 (az (0+i) M)=M.take i:=by rw[g_,c9]
theorem aeQ {α:Type} {M:List α} {x:α} {i n:Nat} (hi:i<M.length) (hn:n=M.length):az (0+(ay 0 (az (0+i) M)).length+1) (az (0+(ay 0 (az (0+i) M)).length) ([]++ay 0 (az (0+i) M))++[x])++ay (0+(i+1)) (az (0+(n - 0)) M)=M.set i x:=by
 subst hn
 rw[wm,lT,c9,c9,c9,jV,cM,cM,eM (by rw[bn];exact av _),List.set_eq_take_append_cons_drop,if_pos hi,dO]
 rfl
theorem aeO {α:Type} {M:List α} {i n:Nat} (hi:i<M.length) (hn:n=M.length):0+(ay 0 (az (0+i) M)).length+1+(ay (0+(i+1)) (az (0+(n - 0)) M)).length=M.length:=by
 subst hn
 rw[wm,lT,c9,c9,c9,cM,cQ,fQ];omega
theorem vh {w:Wd} {i:Nat} (h:i<w.cs.length):w.cs[i]? =some (c8 w i):=by
 unfold c8;rw[gD,bp h];rfl
theorem Kz (w:Wd) (d:Dn) (i:Nat):(dd w d i).cs.length=w.cs.length:=by
 simp only[dd,bn,bX,cQ,fQ];omega
theorem afO (w:Wd) (d:Dn):dd w d 0=w:=by unfold dd;simp
theorem afP (w:Wd) (d:Dn):dd w d w.cs.length=fB w d:=by unfold dd fB;simp
theorem Uh {w:Wd} {d:Dn} {i:Nat} (h:i<w.cs.length):(dd w d i).cs[i]? =some (c8 w i):=by
 show((w.cs.take i).map (im w.now d)++w.cs.drop i)[i]? =_
 have e:((w.cs.take i).map (im w.now d)).length=i:=by rw[bX,cQ];omega
 rw[eW (by omega),e,Nat.sub_self,jw,Nat.add_zero]
 exact vh h
theorem Ui {w:Wd} {d:Dn} {i:Nat} (h:i<w.cs.length):(dd w d (i+1)).cs=(dd w d i).cs.set i (im w.now d (c8 w i))/\(dd w d (i+1)).ok=((dd w d i).ok && nY d (c8 w i)):=by
 have hc:=vh h
 have e:((w.cs.take i).map (im w.now d)).length=i:=by rw[bX,cQ];omega
 have ht:w.cs.take (i+1)=w.cs.take i++[c8 w i]:=by rw[i_,hc];rfl
 constructor
 ·show(w.cs.take (i+1)).map (im w.now d)++w.cs.drop (i+1)=((w.cs.take i).map (im w.now d)++w.cs.drop i).set i _
  have hd:w.cs.drop i=c8 w i::w.cs.drop (i+1):=by
   rw[List.drop_eq_getElem_cons h]
   congr 1
   rw[bp h]at hc
   exact bb.inj hc
  rw[List.set_append_right _ _ (by omega),e,Nat.sub_self,hd,List.set_cons_zero,ht,jy,dO]
  rfl
 ·show(w.ok && (w.cs.take (i+1)).all (nY d))=((w.ok && (w.cs.take i).all (nY d)) && _)
  rw[ht,List.all_append,Bool.and_assoc];simp
theorem afQ {w:Wd} {d:Dn} {i:Nat} (h:i<w.cs.length) (hh:¬ qc d (c8 w i)):dd w d (i+1)=dd w d i:=by
 obtain⟨h1,h2⟩:=Ui (d:=d) h
 have e1:im w.now d (c8 w i)=c8 w i:=if_neg hh
 have e2:nY d (c8 w i)=true:=by unfold nY;rw[decide_eq_true_eq];exact fun w=>absurd w.1 hh
 have e3:(dd w d (i+1)).cs=(dd w d i).cs:=by
  rw[h1,e1]
  have:=Uh (d:=d) h
  apply lw
  intro k
  by_cases e:i=k
  ·subst e;rw[this,ig (by rw[Kz];exact h)]
  ·rw[gr e]
 have e4:(dd w d (i+1)).ok=(dd w d i).ok:=by rw[h2,e2,Bool.and_true]
 have e5:dd w d (i+1)={dd w d i with cs:=(dd w d (i+1)).cs,ok:=(dd w d (i+1)).ok }:=rfl
 rw[e5,e3,e4]
theorem afw:dF Tryz.prog Kv:=fun f k h=>by
 unfold Kv at h
 split at h
 ·cases h;exact ab0
 ·cases h
theorem V7:bZ Tryz.prog Mp:=dI mixed afw aG 10
structure qB (d:Dn):Prop where
 b:bm d.x
 l:d.x.length<=100000
def Ew:aE:=fun args kb K=>match args with
 | [aj 0 0,.agg [.int Z cl,.int Z nm,.int Z kd,.int Z bk,aD (.sl 1 B),.int Z e,aD (.sl 1 Y)]]=>∃ w q b x,LD kb w q/\B=ints ι b/\Y=ints ι x/\w.cs.length<=1000/\qB ⟨⟨cl,nm,kd,bk,b⟩,e,x⟩/\∀ w',w'=fB w ⟨⟨cl,nm,kd,bk,b⟩,e,x⟩->K (.υ []) (vKo w' q)
 |_=>False
theorem acG:aN Tryz.prog 48 Ew:=mE V7 mixed eP (fun args kb K h=>by
 unfold Ew at h;split at h<;>try exact h.elim
 rename_i cl nm kd bk _ e _
 obtain⟨w,q,b,x,⟨rfl⟩,rfl,rfl,hl,hd,h⟩:=h
 generalize hde:(⟨⟨cl,nm,kd,bk,b⟩,e,x⟩:Dn)=d at*
 refine⟨T7 w q d 48,?_⟩
 show aI _ _ _ _ _ _ (eZ eP (dp 7 K))
 have hv:(fF [.int Z cl,.int Z nm,.int Z kd,.int Z bk,aD (.sl 1 (ints ι b)),.int Z e,aD (.sl 1 (ints ι x))]:V)=NQ d:=by subst hde;rfl
 rw[hv]
 apply ahA w q d K
 refine⟨At.mk' (⟨(0,w),bt _,(afO w d).symm⟩:{x:Nat×Wd // x.1<=w.cs.length/\x.2=dd w d x.1}) rfl,?_⟩
 rintro⟨⟨i,W⟩,hi,hW⟩
 dsimp only at hi hW ⊢
 subst hW
 have hL:=Kz w d i
 have nx:∀(hlt:i<w.cs.length),dd w d (i+1)=dd w d i->Nx (wu w q d) ⟨(i,dd w d i),hi,rfl⟩ ([aj 0 0,aj 13 0,.int Z (Z.wrap ((i:Int)+1))],[jN 7 (dd w d i),χ,χ,χ,χ,χ,χ,kD q,kX w,kE w,kg w,lL (dd w d i),lM w,xD d]):=fun hlt he=>by
  refine Nx.mk' (⟨(i+1,dd w d i),hlt,he.symm⟩:{x:Nat×Wd // x.1<=w.cs.length/\x.2=dd w d x.1}) ?_ (by show w.cs.length - (i+1)<w.cs.length - i;omega)
  rw[bD (by omega) (by omega)];rfl
 refine⟨fun hc=>?_,fun hc=>?_⟩
 ·have hlt:i<w.cs.length:=by rw[decide_eq_true_eq]at hc;omega
  have ha:=Uh (d:=d) hlt
  have hs:=Ui (d:=d) hlt
  have nn:¬ qc d (c8 w i)->dd w d (i+1)=dd w d i:=afQ hlt
  refine⟨by unfold bw;omega,cF (c8 w i),by rw[c9,cP,fE,ha];rfl,_,rfl,_,rfl,_,rfl,_,rfl,_,rfl,_,rfl,_,rfl,_,rfl,_,rfl,_,rfl,?_⟩
  simp only[bne_iff_ne,ne_eq,bne_eq_false_iff_eq,beq_iff_eq,beq_eq_false_iff_ne]
  refine⟨fun h1=>nx hlt (nn fun q=>h1 q.1),fun h1=>⟨fun h2=>nx hlt (nn fun q=>h2 q.2.1),fun h2=>⟨fun h3=>nx hlt (nn fun q=>h3 q.2.2.1),fun h3=>⟨fun h4=>nx hlt (nn fun q=>h4 q.2.2.2),fun h4=>?_⟩⟩⟩⟩
  have hit:qc d (c8 w i):=⟨h1,h2,h3,h4⟩
  have tS:im w.now d (c8 w i)=⟨(c8 w i).o,if(c8 w i).o.kd=3 then jL d.x else(c8 w i).v,(c8 w i).bg,w.now⟩:=if_pos hit
  have hat:∀(v:Int) (ok:Bool),v=(im w.now d (c8 w i)).v->ok=(dd w d (i+1)).ok->At (yT w q d i) ([aj 0 0,aj 13 0,.int Z (i:Int),.dK [dn Z (c8 w i).o.cl,dn Z (c8 w i).o.nm,dn Z (c8 w i).o.kd,dn Z (c8 w i).o.bk,.sl 1 (ints ι (c8 w i).o.b),dn Z (c8 w i).o.kd,dn Z v,dn Z (c8 w i).bg,dn Z w.now,db false] 0],[jN 7 {dd w d i with ok:=ok },χ,χ,χ,χ,χ,χ,kD q,kX w,kE w,kg w,lL (dd w d i),lM w,xD d]):=fun v ok hv ho=>by
   have hcl:[dn Z (c8 w i).o.cl,dn Z (c8 w i).o.nm,dn Z (c8 w i).o.kd,dn Z (c8 w i).o.bk,.sl 1 (ints ι (c8 w i).o.b),dn Z (c8 w i).o.kd,dn Z v,dn Z (c8 w i).bg,dn Z w.now,db false]=cF (im w.now d (c8 w i)):=by rw[hv,tS];rfl
   refine At.mk' (⟨⟨KA w d i,_⟩,hlt,hit,rfl,hcl⟩:{x:Aj // EE w d i x}) ?_
   subst ho
   rfl
  refine⟨⟨fun h5=>⟨d.x,rfl,hd.b,hd.l,fun h6=>?_,fun h6=>?_⟩,fun h5=>?_⟩,?_⟩
  ·refine hat (jL d.x) (decide (jL d.x ≥ 0)) (by rw[tS];dsimp only;rw[if_pos h5]) ?_
   rw[hs.2,h6,Bool.true_and]
   unfold nY
   apply decide_eq_decide.2
   exact⟨fun h7 _=>h7,fun h7=>h7 ⟨hit,h5⟩⟩
  ·refine hat (jL d.x) false (by rw[tS];dsimp only;rw[if_pos h5]) ?_
   rw[hs.2,h6,Bool.false_and]
  ·refine hat (c8 w i).v (dd w d i).ok (by rw[tS];dsimp only;rw[if_neg h5]) ?_
   rw[hs.2]
   have:nY d (c8 w i)=true:=by unfold nY;rw[decide_eq_true_eq];exact fun q=>absurd q.2 h5
   rw[this,Bool.and_true]
  ·rintro⟨⟨W,e⟩,hI⟩
   obtain⟨k1,k2,k3,k4⟩:=hI
   dsimp only at k3 k4 ⊢
   subst k3 k4
   have w1:Z.wrap ((i:Int)+1)=((i+1:Nat):Int):=by rw[bD (by omega) (by omega)];rfl
   have hM:i<((dd w d i).cs.map cF).length:=by rw[bX];omega
   have e1:=aeQ (x:=cF (im w.now d (c8 w i))) hM (n:=(dd w d i).cs.length) (by rw[bX])
   have e2:=aeO hM (n:=(dd w d i).cs.length) (by rw[bX])
   have e4:((dd w d i).cs.map cF).set i (cF (im w.now d (c8 w i)))=(dd w d (i+1)).cs.map cF:=by rw[hs.1,List.map_set]
   have e5:(dd w d (i+1)).cs.length=w.cs.length:=Kz w d (i+1)
   have hN:∀ Y:List D,Y=cF (im w.now d (c8 w i))->Nx (wu w q d) ⟨(i,dd w d i),hi,rfl⟩ ([aj 0 0,aj 13 0,.int Z (Z.wrap ((i:Int)+1))],[ar [.sl 7 0 w.R.length,.sl 8 0 w.dk.length,.sl 9 0 w.vs.length,.sl 10 0 w.af.length,.sl 11 0 (0+(ay 0 (az (0+(i:Int).toNat) ((dd w d i).cs.map cF))).length+1+(ay (0+(Z.wrap ((i:Int)+1)).toNat) (az (0+((dd w d i).cs.length - 0)) ((dd w d i).cs.map cF))).length),.sl 12 0 w.aW.length,.int Z w.now,θ (dd w d (i+1)).ok],χ,χ,χ,χ,χ,χ,kD q,kX w,kE w,kg w,ξ 61 10 (az (0+(ay 0 (az (0+(i:Int).toNat) ((dd w d i).cs.map cF))).length+1) (az (0+(ay 0 (az (0+(i:Int).toNat) ((dd w d i).cs.map cF))).length) ([]++ay 0 (az (0+(i:Int).toNat) ((dd w d i).cs.map cF)))++[Y])++ay (0+(Z.wrap ((i:Int)+1)).toNat) (az (0+((dd w d i).cs.length - 0)) ((dd w d i).cs.map cF))),lM w,xD d]):=fun Y hY=>by
    subst hY
    rw[w1,cP,cP,e1,e2,e4,bX,hL.trans e5.symm]
    exact Nx.mk' (⟨(i+1,dd w d (i+1)),hlt,rfl⟩:{x:Nat×Wd // x.1<=w.cs.length/\x.2=dd w d x.1}) rfl (by show w.cs.length - (i+1)<w.cs.length - i;omega)
   have l3:(KA w d i).cs.length=w.cs.length:=hL
   repeat' (first | exact trivial | exact hN _ rfl | refine⟨_,rfl,?_⟩ | apply And.intro)
   all_goals first | exact av _ | exact bt _ | (unfold aB;omega) | omega | (simp only[jV,bn,cQ,fQ,ii,iZ,kn,bX,w1,cP];omega)
 ·have:i=w.cs.length:=by rw[decide_eq_false_iff_not]at hc;omega
  subst this
  rw[afP]
  exact h _ rfl)
def ax (w:Wd) (i:Nat):κ:=w.R.getD i (newR 0 0 false 0 0 [] [])
def iG (i:Int) (w:Wd) (p:Post):Wd:=if 0<=p.to/\p.to<4/\w.af.length<2000 then{w with af:=w.af++[⟨i,p.to,p.m⟩] }else w
def mT (R:κ):κ:={R with ch:=false,out:=[],done:=[] }
def jH (w:Wd) (i:Nat):Wd:={w with R:=w.R.set i {ax w i with ch:=false,out:=[] },dk:=if(ax w i).ch then w.dk.set i (f_ (ax w i))else w.dk }
def gz (w:Wd) (i:Nat):Wd:={w with R:=w.R.set i (mT (ax w i)),dk:=if(ax w i).ch then w.dk.set i (f_ (ax w i))else w.dk }
def dH (w:Wd) (i:Nat) (l:List Post):Wd:=l.foldl (iG i) w
def hZ (w:Wd) (i:Nat):Wd:=(ax w i).done.foldl fB (dH (gz w i) i (ax w i).out)
def WM (g:List V->Wd->(V->Wd->Prop)->Prop):aE:=fun args kb K=>match args with
 |aj 0 0::rest=>∃ w q A,og kb w q A/\PW A q w.R/\g rest w (fun r w'=>∀ q' A',PW A' q' w'.R->K r (eE w' q' A'))
 |_=>False
structure mM where
 k:Nat
 W:Wd
 q:List (Nat×Nat)
 A:List (Sg×KB)
structure kp (m:dY):Prop where
 r:Fm.ko m.kd m.n m.b m.l
 b:Fm.wN m.b m.l
structure kL (w:Wd) (i:Nat):Prop where
 hi:i<w.R.length
 hd:i<w.dk.length
 r:bA (ax w i)
 e:jk (ax w i).ep
 ol:(ax w i).out.length<=1000
 dl:(ax w i).done.length<=1000
 om:∀ p∈(ax w i).out,kp p.m
 dn:∀ d∈(ax w i).done,qB d
 bl:w.af.length<=10000
 cl:w.cs.length<=1000
structure rZ (w:Wd) (i:Nat) (x:mM):Prop where
 le:x.k<=(ax w i).out.length
 W:x.W=dH (jH w i) i ((ax w i).out.take x.k)
 p:PW x.A x.q x.W.R
structure zp (w:Wd) (i:Nat) (x:mM):Prop where
 le:x.k<=(ax w i).done.length
 W:x.W=((ax w i).done.take x.k).foldl fB (dH (gz w i) i (ax w i).out)
 p:PW x.A x.q x.W.R
structure PA where
 q:List (Nat×Nat)
 A:List (Sg×KB)
def gg (w:Wd) (i:Nat):Wd:={w with R:=w.R.set i {ax w i with ch:=false },dk:=if(ax w i).ch then w.dk.set i (f_ (ax w i))else w.dk }
abbrev xx (w:Wd) (i:Nat):LI where
 α:={x:PA // PW x.A x.q (gg w i).R}
 live:=[0,1]
 dU:=eP
 st x:=([aj 0 0,.int Z (i:Int)],eE (gg w i) x.1.q x.1.A)
 μ x:=0
abbrev FI (w:Wd) (i k:Nat):LI where
 α:={x:mM // rZ w i x/\x.k=k/\k<(ax w i).out.length}
 live:=[0,1,4,5,6]
 dU:=eP
 st x:=([aj 0 0,.int Z (i:Int),aD (.sl 5 ((ax w i).out.map bV)),.int Z (x.1.k:Int),aD (.sl 1 (ints ι (mB (((ax w i).out.getD k ⟨0,⟨0,[],[],[]⟩⟩).m))))],eE x.1.W x.1.q x.1.A)
 μ x:=0
def Xg (w:Wd) (i k:Nat):Nat->Option LI
 | 1008=>some (FI w i k)
 |_=>none
abbrev xw (w:Wd) (i:Nat):LI where
 α:={x:mM // rZ w i x}
 live:=[0,1,4,5]
 dU:=eP
 st x:=([aj 0 0,.int Z (i:Int),aD (.sl 5 ((ax w i).out.map bV)),.int Z (x.1.k:Int)],eE x.1.W x.1.q x.1.A)
 μ x:=(ax w i).out.length - x.1.k
 sub x:=Xg w i x.1.k
abbrev FH (w:Wd) (i:Nat):LI where
 α:={x:mM // zp w i x}
 live:=[0,8,9]
 dU:=eP
 st x:=([aj 0 0,aD (.sl 7 ((ax w i).done.map du)),.int Z (x.1.k:Int)],eE x.1.W x.1.q x.1.A)
 μ x:=(ax w i).done.length - x.1.k
def Ni (w:Wd) (i:Nat):FuncId->Nat->Option LI
 | 16,1002=>some (xx w i)
 | 16,4=>some (xw w i)
 | 16,12=>some (FH w i)
 |_,_=>none
def Ek:aE:=fun args kb K=>match args,kb with
 | [.agg [.int Z k,aD (.sl 1 N),aD (.sl 1 B),aD (.sl 1 L)]],[]=>∃ n b l,N=ints Z n/\B=ints ι b/\L=l.map bx/\kp ⟨k,n,b,l⟩/\K (.υ [aD (.sl 1 (ints ι (mB ⟨k,n,b,l⟩))),.int Z 0]) []
 |_,_=>False
def FK:FuncId->Option dA
 | 47=>some ⟨[],Ek⟩
 | 48=>some ⟨[],Ew⟩
 |f=>yM f
noncomputable def L6:bJ:=dG Tryz.prog FK aG 10
theorem agi (w:Wd) (i:Nat) (q:List (Nat×Nat)) (A:List (Sg×KB)) (K:V->KB->Prop) (an:
 let bj:=(φ du (ax w i).done);let aH:=ε Z (↑i:Int);let ω:=(φ bV (ax w i).out);(bw (↑i:Int) (w.R.length - 0)/\
 ∃(e:List D),(φ cj q)[0+(↑i:Int).toNat]? =some e/\
 ∃(v:Value),e[0]? =some (ζ v)/\
 ∃(l:List (Nat×κ)),∃(i_1:Nat),∃(b:Nat),∃(R:κ),cW A l/\
 l[i_1]? =some (b,R)/\
 ζ v=ζ (pv b)/\
 jB []/\
 bA R/\
 ∀(A':List (Sg×KB)),cW A' (l.set i_1 (b,{me:=R.me,id:=R.id,ep:=R.ep,nu:=R.nu,ce:=R.ce,ti:=R.ti,bl:=R.bl,lo:=R.lo,ch:=false,c:=R.c,t:=R.t,v:=R.v,ld:=R.ld,out:=R.out,done:=R.done }))->
 (R.ch=true->
 bw (↑i:Int) (w.R.length - 0)/\
 ∃(e:List D),(φ cj q)[0+(↑i:Int).toNat]? =some e/\
 ∃(v:Value),e[0]? =some (ζ v)/\
 True/\
 True/\
 ∃(l:List (Nat×κ)),∃(i_2:Nat),∃(b:Nat),∃(R:κ),cW A' l/\
 l[i_2]? =some (b,R)/\
 ζ v=ζ (pv b)/\
 jB []/\
 bA R/\
 jk R.ep/\
 ∀(A':List (Sg×KB)),cW A' (l.set i_2 (b,R))->
 bw (↑i:Int) (w.dk.length - 0)/\
 0+(↑i:Int).toNat<(φ bx w.dk).length/\
 At (xx w i) ([aj 0 0,aH],[ar [δ 8 0 w.R.length,δ 9 0 w.dk.length,δ 10 0 w.vs.length,δ 11 0 w.af.length,δ 12 0 w.cs.length,δ 13 0 w.aW.length,ε Z w.now,θ w.ok],χ,χ,χ,χ,χ,χ,cD A',ξ 30 1 (φ cj q),ξ 23 1 ((φ bx w.dk).set (0+(↑i:Int).toNat) [ψ 1 (ints ι (f_ R))]),ξ 49 5 (φ dL w.vs),ξ 73 3 (φ cH w.af),ξ 61 10 (φ cF w.cs),ξ 3 1 (ints Z w.aW)]))/\
 (R.ch=false->
 At (xx w i) ([aj 0 0,aH],[ar [δ 8 0 w.R.length,δ 9 0 w.dk.length,δ 10 0 w.vs.length,δ 11 0 w.af.length,δ 12 0 w.cs.length,δ 13 0 w.aW.length,ε Z w.now,θ w.ok],χ,χ,χ,χ,χ,χ,cD A',ξ 30 1 (φ cj q),ξ 23 1 (φ bx w.dk),ξ 49 5 (φ dL w.vs),ξ 73 3 (φ cH w.af),ξ 61 10 (φ cF w.cs),ξ 3 1 (ints Z w.aW)])))/\
 ∀(i_1:{x:PA // PW x.A x.q (gg w i).R }),bw (↑i:Int) ((gg w i).R.length - 0)/\
 ∃(e:List D),(φ cj i_1.val.q)[0+(↑i:Int).toNat]? =some e/\
 ∃(v:Value),e[0]? =some (ζ v)/\
 ∃(l:List (Nat×κ)),∃(i_2:Nat),∃(b:Nat),∃(R:κ),cW i_1.val.A l/\
 l[i_2]? =some (b,R)/\
 ζ v=ζ (pv b)/\
 jB []/\
 bA R/\
 ∀(A':List (Sg×KB)),cW A' (l.set i_2 (b,{me:=R.me,id:=R.id,ep:=R.ep,nu:=R.nu,ce:=R.ce,ti:=R.ti,bl:=R.bl,lo:=R.lo,ch:=R.ch,c:=R.c,t:=R.t,v:=R.v,ld:=R.ld,out:=[],done:=R.done }))->
 At (xw w i) ([aj 0 0,aH,aD (ψ 5 (φ bV R.out)),ε Z 0],[ar [δ 8 0 (gg w i).R.length,δ 9 0 (gg w i).dk.length,δ 10 0 (gg w i).vs.length,δ 11 0 (gg w i).af.length,δ 12 0 (gg w i).cs.length,δ 13 0 (gg w i).aW.length,ε Z (gg w i).now,θ (gg w i).ok],χ,χ,χ,χ,χ,χ,cD A',ξ 30 1 (φ cj i_1.val.q),ξ 23 1 (φ bx (gg w i).dk),ξ 49 5 (φ dL (gg w i).vs),ξ 73 3 (φ cH (gg w i).af),ξ 61 10 (φ cF (gg w i).cs),ξ 3 1 (ints Z (gg w i).aW)])/\
 ∀(fz:{x:mM // rZ w i x }),let kj:=(↑fz.val.k:Int)<(↑ω.length:Int);let ji:=δ 9 0 fz.val.W.dk.length;let iK:=δ 12 0 fz.val.W.cs.length;let fL:=δ 10 0 fz.val.W.vs.length;let fv:=δ 11 0 fz.val.W.af.length;let dz:=ε Z fz.val.W.now;let cC:=δ 13 0 fz.val.W.aW.length;let bS:=ξ 30 1 (φ cj fz.val.q);let b9:=ξ 49 5 (φ dL fz.val.W.vs);let bN:=ξ 23 1 (φ bx fz.val.W.dk);let bP:=ξ 61 10 (φ cF fz.val.W.cs);let bq:=ξ 73 3 (φ cH fz.val.W.af);let aO:=ξ 3 1 (ints Z fz.val.W.aW);(decide (kj)=true->
 aB (↑fz.val.k:Int)/\
 ∃(e:List D),ω[(↑fz.val.k:Int).toNat]? =some e/\
 ∃(n:Int),e[1]? =some (ζ (ν Z n))/\
 ∃(l:List (List D)),e[2]? =some (ψ 1 l)/\
 ∃(l_1:List (List D)),e[3]? =some (ψ 1 l_1)/\
 ∃(l_2:List (List D)),e[4]? =some (ψ 1 l_2)/\
 ∃(n_1:List Int),∃(b:List Int),∃(iT:List (List Int)),let au:=[aj 0 0,aH,aD (ψ 5 ω),ε Z (↑fz.val.k:Int),aD (ψ 1 (ints ι (mB {kd:=n,n:=n_1,b:=b,l:=iT })))];l=ints Z n_1/\
 l_1=ints ι b/\
 l_2=φ bx iT/\
 kp {kd:=n,n:=n_1,b:=b,l:=iT }/\
 ((fz.val.W.ok=true->
 At (FI w i fz.val.k) (au,[ar [δ 8 0 fz.val.W.R.length,ji,fL,fv,iK,cC,dz,θ true],χ,χ,χ,χ,χ,χ,cD fz.val.A,bS,bN,b9,bq,bP,aO]))/\
 (fz.val.W.ok=false->
 At (FI w i fz.val.k) (au,[ar [δ 8 0 fz.val.W.R.length,ji,fL,fv,iK,cC,dz,θ false],χ,χ,χ,χ,χ,χ,cD fz.val.A,bS,bN,b9,bq,bP,aO])))/\
 ∀(dR:{x:mM // rZ w i x/\
 x.k=fz.val.k/\
 fz.val.k<(ax w i).out.length }),let oX:=ξ 49 5 (φ dL dR.val.W.vs);let lb:=ξ 23 1 (φ bx dR.val.W.dk);let l9:=ξ 61 10 (φ cF dR.val.W.cs);let kI:=(↑(dR.val.W.af.length - 0):Int)<2000;let jS:=ξ 3 1 (ints Z dR.val.W.aW);let k_:=(φ cH dR.val.W.af);let aC:=[aj 0 0,aH,aD (ψ 5 ω),ε Z (Z.wrap ((↑dR.val.k:Int)+1))];let η:=Nx (xw w i) fz (aC,[ar [δ 8 0 dR.val.W.R.length,δ 9 0 dR.val.W.dk.length,δ 10 0 dR.val.W.vs.length,δ 11 0 dR.val.W.af.length,δ 12 0 dR.val.W.cs.length,δ 13 0 dR.val.W.aW.length,ε Z dR.val.W.now,θ dR.val.W.ok],χ,χ,χ,χ,χ,χ,cD dR.val.A,ξ 30 1 (φ cj dR.val.q),lb,oX,ξ 73 3 k_,l9,jS]);aB (↑dR.val.k:Int)/\
 ∃(e:List D),ω[(↑dR.val.k:Int).toNat]? =some e/\
 ∃(n:Int),e[0]? =some (ζ (ν Z n))/\
 (decide (n ≥ 0)=true->
 aB (↑dR.val.k:Int)/\
 ∃(e:List D),ω[(↑dR.val.k:Int).toNat]? =some e/\
 ∃(n:Int),e[0]? =some (ζ (ν Z n))/\
 (decide (n<4)=true->
 (decide (kI)=true->
 aB (↑dR.val.k:Int)/\
 ∃(e:List D),ω[(↑dR.val.k:Int).toNat]? =some e/\
 ∃(n:Int),e[0]? =some (ζ (ν Z n))/\
 True/\
 1<=1/\
 dR.val.W.af.length<=k_.length/\
 (dR.val.W.af.length+1)*40<=140737488355328/\
 Nx (xw w i) fz (aC,[ar [δ 8 0 dR.val.W.R.length,δ 9 0 dR.val.W.dk.length,δ 10 0 dR.val.W.vs.length,δ 11 0 (dR.val.W.af.length+1),δ 12 0 dR.val.W.cs.length,δ 13 0 dR.val.W.aW.length,ε Z dR.val.W.now,θ dR.val.W.ok],χ,χ,χ,χ,χ,χ,cD dR.val.A,ξ 30 1 (φ cj dR.val.q),lb,oX,ξ 73 3 (az dR.val.W.af.length k_++[[ζ (ν Z (↑i:Int)),ζ (ν Z n),ψ 1 (ints ι (mB ((ax w i).out.getD fz.val.k {to:=0,m:={kd:=0,n:=[],b:=[],l:=[] } }).m))]]),l9,jS]))/\
 (decide (kI)=false->
 η))/\
 (decide (n<4)=false->
 η))/\
 (decide (n ≥ 0)=false->
 η))/\
 (decide (kj)=false->
 bw (↑i:Int) (fz.val.W.R.length - 0)/\
 ∃(e:List D),(φ cj fz.val.q)[0+(↑i:Int).toNat]? =some e/\
 ∃(v:Value),e[0]? =some (ζ v)/\
 ∃(l:List (Nat×κ)),∃(dR:Nat),∃(b:Nat),∃(R:κ),cW fz.val.A l/\
 l[dR]? =some (b,R)/\
 ζ v=ζ (pv b)/\
 jB []/\
 bA R/\
 ∀(A':List (Sg×KB)),cW A' (l.set dR (b,{me:=R.me,id:=R.id,ep:=R.ep,nu:=R.nu,ce:=R.ce,ti:=R.ti,bl:=R.bl,lo:=R.lo,ch:=R.ch,c:=R.c,t:=R.t,v:=R.v,ld:=R.ld,out:=R.out,done:=[] }))->
 At (FH w i) ([aj 0 0,aD (ψ 7 (φ du R.done)),ε Z 0],[ar [δ 8 0 fz.val.W.R.length,ji,fL,fv,iK,cC,dz,θ fz.val.W.ok],χ,χ,χ,χ,χ,χ,cD A',bS,bN,b9,bq,bP,aO])/\
 ∀(gy:{x:mM // zp w i x }),let oe:=ξ 49 5 (φ dL gy.val.W.vs);let od:=ξ 23 1 (φ bx gy.val.W.dk);let lP:=ξ 61 10 (φ cF gy.val.W.cs);let la:=ξ 73 3 (φ cH gy.val.W.af);let kJ:=(↑gy.val.k:Int)<(↑bj.length:Int);let kH:=ξ 3 1 (ints Z gy.val.W.aW);(decide (kJ)=true->
 aB (↑gy.val.k:Int)/\
 ∃(e:List D),bj[(↑gy.val.k:Int).toNat]? =some e/\
 ∃(n:Int),e[0]? =some (ζ (ν Z n))/\
 ∃(n_1:Int),e[1]? =some (ζ (ν Z n_1))/\
 ∃(n_2:Int),e[2]? =some (ζ (ν Z n_2))/\
 ∃(eJ:Int),e[3]? =some (ζ (ν Z eJ))/\
 ∃(l:List (List D)),e[4]? =some (ψ 1 l)/\
 ∃(iV:Int),e[5]? =some (ζ (ν Z iV))/\
 ∃(l_1:List (List D)),e[6]? =some (ψ 1 l_1)/\
 ∃(w_1:Wd),∃(q:List (Nat×Nat)),∃(b:List Int),∃(x:List Int),LD [ar [δ 1 0 gy.val.W.R.length,δ 2 0 gy.val.W.dk.length,δ 3 0 gy.val.W.vs.length,δ 4 0 gy.val.W.af.length,δ 5 0 gy.val.W.cs.length,δ 6 0 gy.val.W.aW.length,ε Z gy.val.W.now,θ gy.val.W.ok],ξ 30 1 (φ cj gy.val.q),od,oe,la,lP,kH] w_1 q/\
 l=ints ι b/\
 l_1=ints ι x/\
 w_1.cs.length<=1000/\
 qB {o:={cl:=n,nm:=n_1,kd:=n_2,bk:=eJ,b:=b },e:=iV,x:=x }/\
 ∀(w':Wd),w'=fB w_1 {o:={cl:=n,nm:=n_1,kd:=n_2,bk:=eJ,b:=b },e:=iV,x:=x }->
 Nx (FH w i) gy ([aj 0 0,aD (ψ 7 bj),ε Z (Z.wrap ((↑gy.val.k:Int)+1))],[ar [δ 8 0 w'.R.length,δ 9 0 w'.dk.length,δ 10 0 w'.vs.length,δ 11 0 w'.af.length,δ 12 0 w'.cs.length,δ 13 0 w'.aW.length,ε Z w'.now,θ w'.ok],χ,χ,χ,χ,χ,χ,cD gy.val.A,ξ 30 1 (φ cj q),ξ 23 1 (φ bx w'.dk),ξ 49 5 (φ dL w'.vs),ξ 73 3 (φ cH w'.af),ξ 61 10 (φ cF w'.cs),ξ 3 1 (ints Z w'.aW)]))/\
 (decide (kJ)=false->
 K (aw []) [ar [δ 8 0 gy.val.W.R.length,δ 9 0 gy.val.W.dk.length,δ 10 0 gy.val.W.vs.length,δ 11 0 gy.val.W.af.length,δ 12 0 gy.val.W.cs.length,δ 13 0 gy.val.W.aW.length,ε Z gy.val.W.now,θ gy.val.W.ok],χ,χ,χ,χ,χ,χ,cD gy.val.A,ξ 30 1 (φ cj gy.val.q),od,oe,la,lP,kH]))
 ):aI Tryz.prog L6 (Ni w i 16) 16 [aj 0 0,.int Z (i:Int)] (mJ w q A) (eZ eP (dp 8 K)):=by apply Eq.mp (a:=an);kernel_rfl
theorem CU.lt {l:List (Nat×κ)} {q:List (Nat×Nat)} {R:List κ} (h:CU l q R) {i:Nat} (hi:i<R.length):∃ p,q[i]? =some p:=⟨_,bp (by rw[h.len];exact hi)⟩
theorem PW.get {A:List (Sg×KB)} {q:List (Nat×Nat)} {R:List κ} (h:PW A q R) {i:Nat} {r:κ} (hi:R[i]? =some r):∃ l k b,q[i]? =some (k,b)/\cW A l/\l[k]? =some (b,r)/\∀(r':κ) A',cW A' (l.set k (b,r'))->PW A' q (R.set i r'):=by
 obtain⟨l,hp,hc⟩:=h.h
 obtain⟨⟨k,b⟩,hq⟩:=hc.lt (bG.1 hi).1
 obtain⟨r2,h1,h2⟩:=hc.a i _ hq
 rw[hi]at h1;cases h1
 refine⟨l,k,b,hq,hp,h2,fun r' A' hA=>⟨_,hA,by rw[ir];exact hc.len,fun j p hj=>?_,hc.nd⟩⟩
 by_cases e:i=j
 ·subst e
  rw[hq]at hj;cases hj
  refine⟨r',ig (bG.1 hi).1,ig (bG.1 h2).1⟩
 ·obtain⟨r3,h3,h4⟩:=hc.a j p hj
  refine⟨r3,by rw[gr e];exact h3,?_⟩
  rw[gr]
  ·exact h4
  ·intro e2
   have n1:(q.map (·.1))[i]? =some k:=by rw[fE,hq];rfl
   have n2:(q.map (·.1))[j]? =some k:=by rw[fE,hj,e2];rfl
   have h5:=(bG.1 n1)
   have h6:=(bG.1 n2)
   exact e ((List.getElem_inj (h₀:=h5.1) (h₁:=h6.1) hc.nd).1 (h5.2.trans h6.2.symm))
theorem sT {w:Wd} {i:Nat} (h:i<w.R.length):w.R[i]? =some (ax w i):=by
 unfold ax;rw[gD,bp h];rfl
theorem Ta (i:Int) (w:Wd) (p:Post):(iG i w p).R=w.R/\(iG i w p).dk=w.dk/\(iG i w p).vs=w.vs/\(iG i w p).cs=w.cs/\(iG i w p).aW=w.aW/\(iG i w p).now=w.now/\(iG i w p).ok=w.ok/\(iG i w p).af.length<=max 2000 w.af.length:=by
 unfold iG;split
 ·refine⟨rfl,rfl,rfl,rfl,rfl,rfl,rfl,?_⟩
  simp only[bn,ii];omega
 ·exact⟨rfl,rfl,rfl,rfl,rfl,rfl,rfl,by omega⟩
theorem sX (i:Nat):∀(l:List Post) (w:Wd),(dH w i l).R=w.R/\(dH w i l).dk=w.dk/\(dH w i l).vs=w.vs/\(dH w i l).cs=w.cs/\(dH w i l).aW=w.aW/\(dH w i l).now=w.now/\(dH w i l).ok=w.ok/\(dH w i l).af.length<=max 2000 w.af.length
 | [],w=>⟨rfl,rfl,rfl,rfl,rfl,rfl,rfl,by show w.af.length<=_;omega⟩
 |p::l,w=>by
  obtain⟨a1,a2,a3,a4,a5,a6,a7,a8⟩:=Ta i w p
  obtain⟨b1,b2,b3,b4,b5,b6,b7,b8⟩:=sX i l (iG i w p)
  exact⟨b1.trans a1,b2.trans a2,b3.trans a3,b4.trans a4,b5.trans a5,b6.trans a6,b7.trans a7,by show(dH (iG i w p) i l).af.length<=_;omega⟩
theorem Tb (i:Nat) (R:List κ):∀(l:List Post) (w:Wd),dH {w with R:=R } i l={dH w i l with R:=R }
 | [],w=>rfl
 |p::l,w=>by
  have:iG i {w with R:=R } p={iG i w p with R:=R }:=by unfold iG;dsimp only;split<;>rfl
  show dH (iG i {w with R:=R } p) i l=_
  rw[this,Tb i R l];rfl
theorem afR (w:Wd) (d:Dn):(fB w d).R=w.R/\(fB w d).cs.length=w.cs.length:=⟨rfl,by show(w.cs.map _).length=_;rw[bX]⟩
theorem wx:∀(l:List Dn) (w:Wd),(l.foldl fB w).R=w.R/\(l.foldl fB w).cs.length=w.cs.length
 | [],w=>⟨rfl,rfl⟩
 |d::l,w=>⟨(wx l (fB w d)).1,(wx l (fB w d)).2.trans (afR w d).2⟩
theorem acl:aN Tryz.prog 47 Ek:=fun args kb K hs=>Fm.acj args kb K (by
 unfold Ek at hs;split at hs<;>try exact hs.elim
 obtain⟨n,b,l,rfl,rfl,rfl,hr,h⟩:=hs
 have Bs:Fm.ko _ n b l:=hr.r
 exact⟨n,b,l,rfl,rfl,rfl,⟨by have:=Bs.nl;simp only[maxLen];omega,by have:=Bs.bl;simp only[maxLen];omega,by have:=Bs.ll;simp only[maxLen];omega,fun t ht=>by have:=Bs.ts t ht;simp only[maxLen];omega⟩,hr.b,fun _=>h,fun hn=>absurd hr.r hn⟩)
theorem Xe:dF Tryz.prog FK:=fun f k h=>by
 unfold FK at h
 split at h
 ·cases h;exact acl
 ·cases h;exact acG
 ·exact JL _ _ h
theorem VM:bZ Tryz.prog L6:=dI mixed Xe aG 10
def Lh:List V->Wd->(V->Wd->Prop)->Prop:=fun rest w k=>∃ i:Nat,rest=[.int Z (i:Int)]/\kL w i/\∀ w',w'=hZ w i->k (.υ []) w'
theorem ql {q:List (Nat×Nat)} {i k b:Nat} (h:q[i]? =some (k,b)):(q.map cj)[0+(i:Int).toNat]? =some [ζ (pv b)]:=by rw[c9,cP,fE,h];rfl
theorem Do {W:Wd} {R':List κ} (h:R'.length=W.R.length) (q:List (Nat×Nat)) (A:List (Sg×KB)):eE W q A=eE {W with R:=R' } q A:=by
 show[ar [.sl 8 0 W.R.length,_,_,_,_,_,_,_],_,_,_,_,_,_,_,_,_,_,_,_,_]=[ar [.sl 8 0 R'.length,_,_,_,_,_,_,_],_,_,_,_,_,_,_,_,_,_,_,_,_]
 rw[h]
theorem aey {W:Wd} {i:Nat} {x:Post} (h:0<=x.to/\x.to<4/\W.af.length<2000) (q:List (Nat×Nat)) (A:List (Sg×KB)):eE (iG i W x) q A=[ar [.sl 8 0 W.R.length,.sl 9 0 W.dk.length,.sl 10 0 W.vs.length,.sl 11 0 (W.af.length+1),.sl 12 0 W.cs.length,.sl 13 0 W.aW.length,.int Z W.now,θ W.ok],χ,χ,χ,χ,χ,χ,cD A,kD q,kX W,kE W,ξ 73 3 (az W.af.length (W.af.map cH)++[[.val (.int Z (i:Int)),.val (.int Z x.to),.sl 1 (ints ι (mB x.m))]]),lL W,lM W]:=by
 have hy:iG i W x={W with af:=W.af++[⟨i,x.to,x.m⟩] }:=if_pos h
 have eb:(W.af++[(⟨i,x.to,x.m⟩:nB)]).length=W.af.length+1:=by rw[bn];rfl
 have er:(W.af++[(⟨i,x.to,x.m⟩:nB)]).map cH=az W.af.length (W.af.map cH)++[[ζ (.int Z (i:Int)),ζ (.int Z x.to),.sl 1 (ints ι (mB x.m))]]:=by
  rw[jy,eM (by rw[bX];exact av _)];rfl
 rw[hy]
 unfold eE jN kg
 dsimp only
 rw[eb,er]
theorem abn:aN Tryz.prog 16 (WM Lh):=mE VM mixed eP (fun args kb K h=>by
 unfold WM at h;split at h<;>try exact h.elim
 obtain⟨w,q,A,⟨rfl⟩,hp,i,rfl,hc,h⟩:=h
 refine⟨Ni w i 16,?_⟩
 show aI _ _ _ _ _ _ (eZ eP (dp 8 K))
 apply agi w i q A K
 have jd:=sT hc.hi
 have hi:=hc.hi
 have hd:=hc.hd
 obtain⟨l,k,b,hq,hA,hl,dT⟩:=hp.get jd
 rw[lT]
 have cut:∀ A',PW A' q (gg w i).R->(ax w i).ch=true->At (xx w i) ([aj 0 0,.int Z (i:Int)],[jN 8 w,χ,χ,χ,χ,χ,χ,cD A',kD q,ξ 23 1 ((w.dk.map bx).set (0+(i:Int).toNat) [.sl 1 (ints ι (f_ (ax w i)))]),kE w,kg w,lL w,lM w]):=fun A' p h1=>by
  refine At.mk' (⟨⟨q,A'⟩,p⟩:{x:PA // PW x.A x.q (gg w i).R}) ?_
  have e:gg w i={w with R:=w.R.set i {ax w i with ch:=false },dk:=w.dk.set i (f_ (ax w i)) }:=by unfold gg;rw[if_pos h1]
  show(_,_)=(_,eE (gg w i) q A')
  rw[e,c9,cP]
  show(_,_)=([aj 0 0,.int Z (i:Int)],[ar [.sl 8 0 (w.R.set i _).length,.sl 9 0 (w.dk.set i _).length,_,_,_,_,_,_],_,_,_,_,_,_,_,_,ξ _ _ (φ bx (w.dk.set i _)),_,_,_,_])
  rw[ir,ir,List.map_set];rfl
 have Nw:∀ A',PW A' q (gg w i).R->(ax w i).ch=false->At (xx w i) ([aj 0 0,.int Z (i:Int)],eE w q A'):=fun A' p h1=>by
  refine At.mk' (⟨⟨q,A'⟩,p⟩:{x:PA // PW x.A x.q (gg w i).R}) ?_
  have e:gg w i={w with R:=w.R.set i {ax w i with ch:=false } }:=by unfold gg;rw[if_neg (by rw[h1];exact Bool.false_ne_true)]
  show(_,_)=(_,eE (gg w i) q A')
  rw[e,Do (W:=w) (R':=w.R.set i {ax w i with ch:=false }) (by rw[ir])]
 have hin:bw (i:Int) w.R.length:=by unfold bw;omega
 refine⟨⟨hin,_,ql hq,_,rfl,l,k,b,_,hA,hl,rfl,⟨rfl⟩,hc.r,fun A1 p1=>⟨fun c1=>?_,fun c1=>?_⟩⟩,?_⟩
 ·have P1:=dT _ _ p1
  obtain⟨l2,k2,b2,qV,Yw,hl2,ZN⟩:=P1.get (i:=i) (r:={ax w i with ch:=false }) (ig hi)
  rw[hq]at qV;cases qV
  refine⟨hin,_,ql hq,_,rfl,trivial,trivial,l2,k,b,_,Yw,hl2,rfl,⟨rfl⟩,Az hc.r false,hc.e,fun A2 p2=>⟨by unfold bw;omega,by rw[bX];omega,?_⟩⟩
  have P2:=ZN _ _ p2
  rw[List.set_set]at P2
  exact cut A2 P2 c1
 ·exact Nw A1 (dT _ _ p1) c1
 clear cut Nw dT hl hA l
 rintro⟨⟨q1,A1⟩,P1⟩
 dsimp only at P1 ⊢
 have kl:(gg w i).R.length=w.R.length:=by show(w.R.set i _).length=_;rw[ir]
 obtain⟨l,k,b,hq,hA,hl,dT⟩:=P1.get (i:=i) (r:={ax w i with ch:=false }) (ig hi)
 refine⟨by rw[kl,lT];exact hin,_,ql hq,_,rfl,l,k,b,_,hA,hl,rfl,⟨rfl⟩,Az hc.r false,fun A2 p2=>⟨?_,?_⟩⟩
 ·have P2:=dT _ _ p2
  have e:(gg w i).R.set i {ax w i with ch:=false,out:=[] }=(jH w i).R:=by show(w.R.set i _).set i _=_;rw[List.set_set];rfl
  refine At.mk' (⟨⟨0,jH w i,q1,A2⟩,bt _,rfl,by rw[<- e];exact P2⟩:{x:mM // rZ w i x}) ?_
  show(_,eE (gg w i) q1 A2)=(_,eE (jH w i) q1 A2)
  rw[Do (W:=gg w i) (R':=(jH w i).R) (by rw[<- e,ir])]
  rfl
 clear p2 A2 dT hl hA l hq k b P1 A1 q1 kl
 rintro⟨⟨k,W,q1,A1⟩,hle,hW,P1⟩
 dsimp only at hle hW P1 ⊢
 subst hW
 obtain⟨s1,s2,s3,s4,s5,s6,s7,s8⟩:=sX i ((ax w i).out.take k) (jH w i)
 have e3:(jH w i).R.length=w.R.length:=by show(w.R.set i _).length=_;rw[ir]
 have ol:=hc.ol
 refine⟨fun hlt=>?_,fun hge=>?_⟩
 ·have hlt:k<(ax w i).out.length:=by rw[decide_eq_true_eq,bX]at hlt;omega
  have hg:=bp hlt
  have hgd:(ax w i).out.getD k ⟨0,⟨0,[],[],[]⟩⟩=(ax w i).out[k]:=by rw[gD,hg];rfl
  have HF:(ax w i).out.take (k+1)=(ax w i).out.take k++[(ax w i).out[k]]:=by rw[i_,hg];rfl
  have hmem:(ax w i).out[k]∈(ax w i).out:=List.getElem_mem hlt
  generalize (ax w i).out[k]=x at*
  refine⟨by unfold aB;omega,bV x,by rw[cP,fE,hg];rfl,x.m.kd,rfl,_,rfl,_,rfl,_,rfl,x.m.n,x.m.b,x.m.l,rfl,rfl,rfl,hc.om x hmem,⟨fun h1=>?_,fun h1=>?_⟩,?_⟩
  ·refine At.mk' (⟨⟨k,dH (jH w i) i ((ax w i).out.take k),q1,A1⟩,⟨hle,rfl,P1⟩,rfl,hlt⟩:{x:mM // rZ w i x/\x.k=k/\k<(ax w i).out.length}) ?_
   show(_,_)=([_,_,_,_,aD (.sl 1 (ints ι (mB ((ax w i).out.getD k ⟨0,⟨0,[],[],[]⟩⟩).m)))],eE (dH (jH w i) i ((ax w i).out.take k)) q1 A1)
   rw[hgd,<- h1]
  ·refine At.mk' (⟨⟨k,dH (jH w i) i ((ax w i).out.take k),q1,A1⟩,⟨hle,rfl,P1⟩,rfl,hlt⟩:{x:mM // rZ w i x/\x.k=k/\k<(ax w i).out.length}) ?_
   show(_,_)=([_,_,_,_,aD (.sl 1 (ints ι (mB ((ax w i).out.getD k ⟨0,⟨0,[],[],[]⟩⟩).m)))],eE (dH (jH w i) i ((ax w i).out.take k)) q1 A1)
   rw[hgd,<- h1]
  rintro⟨⟨k2,W,q2,A2⟩,⟨_,hW,P2⟩,hk,_⟩
  dsimp only at hk hW P2 ⊢
  subst hk hW
  have w1:Z.wrap ((k2:Int)+1)=((k2+1:Nat):Int):=by rw[bD (by omega) (by omega)];rfl
  have hS:dH (jH w i) i ((ax w i).out.take (k2+1))=iG i (dH (jH w i) i ((ax w i).out.take k2)) x:=by unfold dH;rw[HF,List.foldl_append];rfl
  have nx:∀ W':Wd,W'=iG i (dH (jH w i) i ((ax w i).out.take k2)) x->Nx (xw w i) ⟨⟨k2,dH (jH w i) i ((ax w i).out.take k2),q1,A1⟩,hle,rfl,P1⟩ ([aj 0 0,.int Z (i:Int),aD (.sl 5 ((ax w i).out.map bV)),.int Z (Z.wrap ((k2:Int)+1))],eE W' q2 A2):=fun W' Bd=>by
   refine Nx.mk' (⟨⟨k2+1,W',q2,A2⟩,⟨hlt,Bd.trans hS.symm,by rw[Bd,(Ta i _ x).1];exact P2⟩⟩:{x:mM // rZ w i x}) ?_ (by show(ax w i).out.length - (k2+1)<(ax w i).out.length - k2;omega)
   rw[w1]
  have no:∀ W:Wd,¬ (0<=x.to/\x.to<4/\W.af.length<2000)->iG i W x=W:=fun W h=>if_neg h
  have hge:((ax w i).out.map bV)[(k2:Int).toNat]? =some (bV x):=by rw[cP,fE,hg];rfl
  have ku:aB (k2:Int):=by unfold aB;omega
  have cd:=hc.bl
  refine⟨ku,bV x,hge,x.to,rfl,fun t1=>⟨ku,bV x,hge,x.to,rfl,fun t2=>⟨fun t3=>?_,fun t3=>?_⟩,fun t2=>?_⟩,fun t1=>?_⟩
  ·rw[decide_eq_true_eq]at t1 t2 t3
   refine⟨ku,bV x,hge,x.to,rfl,trivial,av _,by rw[bX];exact av _,by omega,?_⟩
   have:=nx _ rfl
   rw[aey ⟨t1,t2,by omega⟩]at this
   rw[hgd]
   exact this
  ·rw[decide_eq_false_iff_not]at t3
   exact nx _ (no _ fun q=>t3 (by omega)).symm
  ·rw[decide_eq_false_iff_not]at t2
   exact nx _ (no _ fun q=>t2 q.2.1).symm
  ·rw[decide_eq_false_iff_not]at t1
   exact nx _ (no _ fun q=>t1 q.1).symm
 ·have hk:k=(ax w i).out.length:=by rw[decide_eq_false_iff_not,bX]at hge;omega
  subst hk
  rw[cM]at*
  have hR:(dH (jH w i) i (ax w i).out).R[i]? =some {ax w i with ch:=false,out:=[] }:=by rw[s1];exact ig hi
  obtain⟨l,k,b,hq,hA,hl,dT⟩:=P1.get hR
  refine⟨by rw[s1,e3,lT];exact hin,_,ql hq,_,rfl,l,k,b,_,hA,hl,rfl,⟨rfl⟩,RZ (Az hc.r false),fun A2 p2=>⟨?_,?_⟩⟩
  ·have P2:=dT _ _ p2
   have e:(dH (jH w i) i (ax w i).out).R.set i (mT (ax w i))=(gz w i).R:=by rw[s1];show(w.R.set i _).set i _=_;rw[List.set_set];rfl
   have e2:dH (gz w i) i (ax w i).out={dH (jH w i) i (ax w i).out with R:=(gz w i).R }:=Tb i (gz w i).R (ax w i).out (jH w i)
   refine At.mk' (⟨⟨0,{dH (jH w i) i (ax w i).out with R:=(gz w i).R },q1,A2⟩,bt _,e2.symm,by rw[<- e];exact P2⟩:{x:mM // zp w i x}) ?_
   show(_,eE _ q1 A2)=(_,eE {dH (jH w i) i (ax w i).out with R:=(gz w i).R } q1 A2)
   rw[<- Do (R':=(gz w i).R) (by rw[<- e,ir])]
   rfl
  rintro⟨⟨k,W,q2,A2⟩,hle2,hW,P2⟩
  dsimp only at hle2 hW P2 ⊢
  have dl:=hc.dl
  obtain⟨t1,t2,t3,t4,_⟩:=sX i (ax w i).out (gz w i)
  have f1:=wx ((ax w i).done.take k) (dH (gz w i) i (ax w i).out)
  rw[<- hW,t4]at f1
  refine⟨fun hlt=>?_,fun hge=>?_⟩
  ·have hlt:k<(ax w i).done.length:=by rw[decide_eq_true_eq,bX]at hlt;omega
   have hg:=bp hlt
   have HF:(ax w i).done.take (k+1)=(ax w i).done.take k++[(ax w i).done[k]]:=by rw[i_,hg];rfl
   have hmem:(ax w i).done[k]∈(ax w i).done:=List.getElem_mem hlt
   generalize (ax w i).done[k]=d at*
   refine⟨by unfold aB;omega,du d,by rw[cP,fE,hg];rfl,d.o.cl,rfl,d.o.nm,rfl,d.o.kd,rfl,d.o.bk,rfl,_,rfl,d.e,rfl,_,rfl,W,q2,d.o.b,d.x,⟨rfl⟩,rfl,rfl,by rw[f1.2];exact hc.cl,hc.dn d hmem,fun w' hw'=>?_⟩
   refine Nx.mk' (⟨⟨k+1,w',q2,A2⟩,⟨hlt,by rw[hw',HF,List.foldl_append,<- hW];rfl,by rw[hw'];exact P2⟩⟩:{x:mM // zp w i x}) ?_ (by show(ax w i).done.length - (k+1)<(ax w i).done.length - k;omega)
   rw[bD (by omega) (by omega)]
   rfl
  ·have hk:k=(ax w i).done.length:=by rw[decide_eq_false_iff_not,bX]at hge;omega
   subst hk
   rw[cM]at hW
   exact h W hW q2 A2 P2)
structure RW (T:Int) (R:κ):Prop where
 i:bA R
 id:R.id=5
 e0:0<=R.ep
 e1:R.ep<=T
 n1:R.nu<=T
 vl:R.v.mem.length+R.v.aM.length<=1000
 t0:0<=R.ti
 t1:R.ti<=T
 om:∀ p∈R.out,kp p.m/\bU p.m 1<=T/\bU p.m 2<=T
 dn:∀ d∈R.done,qB d
 cu:∀ o,cw R=some o->o.b.length<=2048
structure MW (T:Int) (m:dY):Prop where
 r:kp m
 n1:bU m 1<=T
 n2:bU m 2<=T
theorem MW.ok {T:Int} {m:dY} (h:MW T m):kN m:=⟨h.r.b.b,by have:=h.r.r.bl;omega,fun y hy=>⟨h.r.b.l y hy,by have:=h.r.r.ts y hy;omega⟩⟩
theorem JP {kd:Int} {n b:List Int} {l:List (List Int)} (h:Fm.ko kd n b l) (hb:Fm.wN b l):kp ⟨kd,n,b,l⟩:=⟨h,hb⟩
theorem CB {T kd ep nu:Int} (hT:T<=1000000) (k:kd=11∨kd=13∨kd=14) (h1:0<=ep/\ep<=T) (h2:0<=nu/\nu<=T):kp ⟨kd,[5,ep,nu],[],[]⟩:=
 JP ⟨by omega,by omega,by show 3<=16;omega,bt _,bt _,fun x hx=>by
  simp only[ey,List.not_mem_nil,or_false]at hx;omega,fun t ht=>(by cases ht),bt _⟩ ⟨fun c h=>(by cases h),fun t h=>(by cases h)⟩
theorem SP {T ep nu:Int} (hT:T<=1000000) {c:List Int} {x:List L3} (hc:c.length=128) (hb:bm c) (hx:eX x) (h1:0<=ep/\ep<=T) (h2:0<=nu/\nu<=T):kp ⟨10,[5,ep,nu],b_ c,[bh x]⟩:=by
 have hl:=ux hx.len x.length
 rw[ta]at hl
 refine JP ⟨by omega,by omega,by show 3<=16;omega,by rw[sW hc];omega,by show 1<=64;omega,fun y hy=>?_,fun t ht=>?_,?_⟩ ⟨CL hb,fun t ht=>?_⟩
 ·simp only[ey,List.not_mem_nil,or_false]at hy;omega
 ·rw[dQ]at ht;subst ht;omega
 ·show(bh x).length+0<=_;omega
 ·rw[dQ]at ht;subst ht;exact Kn hx
theorem aej {T ep nu:Int} (hT:T<=1000000) {o:Op} (hr:gB o=true) (ho:fR o) (hb:o.b.length<=2048) (c:List Int) (h1:0<=ep/\ep<=T) (h2:0<=nu/\nu<=T):kp ⟨12,[5,ep,nu,o.cl,o.nm,o.kd,o.bk,dZ c],o.b,[]⟩:=by
 have k:=SO hr
 have O1:=AG c
 refine JP ⟨by omega,by omega,by show 8<=16;omega,hb,bt _,fun y hy=>?_,fun t ht=>(by cases ht),bt _⟩ ⟨ho.b,fun t ht=>(by cases ht)⟩
 simp only[ey,List.not_mem_nil,or_false]at hy;omega
theorem qB.nil (o:Op) (e:Int):qB ⟨o,e,[]⟩:=⟨fun c h=>(by cases h),bt _⟩
theorem adQ {c:List Int} (hb:bm c) (o:Op) (e:Int):qB ⟨o,e,mD c o⟩:=by
 constructor
 ·intro x hx
  have hx:x∈mD c o:=hx
  unfold mD at hx;split at hx
  ·exact hb x (List.mem_of_mem_drop (List.mem_of_mem_take hx))
  ·cases hx
 ·show(mD c o).length<=_
  unfold mD;split
  ·rw[cQ];omega
  ·exact bt _
section
variable {T:Int} {R:κ}
theorem RW.mono {T2:Int} (h:RW T R) (hT:T<=T2):RW T2 R:=⟨h.i,h.id,h.e0,by have:=h.e1;omega,by have:=h.n1;omega,h.vl,h.t0,by have:=h.t1;omega,fun p hp=>by have:=h.om p hp;exact⟨this.1,by omega,by omega⟩,h.dn,h.cu⟩
theorem nN {α:Type} {l:List α} {a x:α} {P:α->Prop} (h:∀ y∈l,P y) (ha:P a) (hx:x∈l++[a]):P x:=by
 rcases dM.1 hx with hx | hx
 ·exact h x hx
 ·rw[dQ]at hx;rw[hx];exact ha
theorem DC (h:RW T R) (hd:R.done.length<100000):RW T (gn R):=by
 refine⟨(wF h.i hd).1,h.id,h.e0,h.e1,h.n1,h.vl,h.t0,h.t1,h.om,fun d hm=>?_,fun o ho=>by simp [gn,cw]at ho⟩
 have hm:d∈R.done++(match cw R with | some o=>[⟨o,19,[]⟩] | none=>[]):=hm
 rcases dM.1 hm with hm | hm
 ·exact h.dn d hm
 ·cases hc:cw R with
  |none=>rw[hc]at hm;cases hm
  |some o=>rw[hc]at hm;rw[dQ]at hm;subst hm;exact qB.nil _ _
theorem Gt (h:RW T R) (hd:R.done.length<100000):RW T (fV R):=by
 have hi:=(Gr h.i hd).1
 unfold fV at hi ⊢
 split
 ·rename_i L hl
  split
  ·rename_i o ho
   split
   ·rename_i ha
    rw[hl]at hi;dsimp only at hi;rw[ho]at hi;dsimp only at hi;rw[if_pos ha]at hi
    exact⟨hi,h.id,h.e0,h.e1,h.n1,h.vl,h.t0,h.t1,h.om,fun d hm=>nN h.dn (adQ h.i.ok.cb o 0) hm,fun o ho=>by simp [cw]at ho⟩
   ·exact h
  ·exact h
 ·exact h
theorem yN (h:RW T R) (hT:T<=1000000) (ho:R.out.length<100000) {to kd:Int} {n b:List Int} {l:List (List Int)} {nu:Int} (hn:n=nu::n.tail) (mu:nu<=T) (hm:kp ⟨kd,5::R.ep::n,b,l⟩):RW T (ib R to kd n b l):=by
 have hm':kN ⟨kd,R.id::R.ep::n,b,l⟩:=by
  rw[h.id]
  exact⟨hm.b.b,by have:=hm.r.bl;have:b.length<=2048:=this;show b.length<=_;omega,fun y hy=>⟨hm.b.l y hy,by have:=hm.r.ts y hy;omega⟩⟩
 refine⟨(wi h.i ho hm').i,h.id,h.e0,h.e1,h.n1,h.vl,h.t0,h.t1,fun p hp=>?_,h.dn,h.cu⟩
 have hP:kp (⟨to,⟨kd,R.id::R.ep::n,b,l⟩⟩:Post).m/\bU (⟨to,⟨kd,R.id::R.ep::n,b,l⟩⟩:Post).m 1<=T/\bU (⟨to,⟨kd,R.id::R.ep::n,b,l⟩⟩:Post).m 2<=T:=
  ⟨by rw[<- h.id]at hm;exact hm,h.e1,by show(R.id::R.ep::n).getD 2 0<=T;rw[hn];exact mu⟩
 exact nN (P:=fun p=>kp p.m/\bU p.m 1<=T/\bU p.m 2<=T) h.om hP hp
theorem vR (h:RW T R):0<=R.nu/\R.nu<=T:=⟨h.i.ok.n0,h.n1⟩
theorem QH (h:RW T R) (hT:T<=1000000) (ho:R.out.length<100000) (to:Int):RW T (pC R to):=yN h hT ho (nu:=R.nu) rfl h.n1 (CB hT (.inr (.inr rfl)) ⟨h.e0,h.e1⟩ (vR h))
theorem ae7 (h:RW T R) (hT:T<=1000000) (ho:R.out.length<100000) (to:Int):RW T (qp R to):=yN h hT ho (nu:=R.nu) rfl h.n1 (SP hT h.i.ok.cl h.i.ok.cb h.i.tx ⟨h.e0,h.e1⟩ (vR h))
theorem BK (h:RW T R) {L:de} (hl:R.ld=some L) (f g:Int->Bool):RW T {R with ld:=some ⟨f,g,L.cur⟩ }:=by
 have hc:cw R=L.cur:=by unfold cw;rw[hl];rfl
 exact⟨ya h.i hl f g,h.id,h.e0,h.e1,h.n1,h.vl,h.t0,h.t1,h.om,h.dn,fun o ho=>h.cu o (by rw[hc];exact ho)⟩
theorem afo (h:RW T R) (hT:T<=1000000) (ho:R.out.length<100000) (hd:R.done.length<100000) (fr:Int) {m:dY} (hm:MW T m) (hw:m.n.any df=false):RW T (jh R fr m):=by
 unfold jh
 split
 ·exact QH h hT ho fr
 ·split
  ·rename_i c t hc ht
   have hy:=DC h hd
   obtain⟨c1,c2⟩:=Qd hc
   have cb:bm c:=fun x hx=>hm.ok.b x (by rw[c2];unfold b_;exact iL _ hx)
   have n1:=Ds hw (i:=1)
   have n2:=Ds hw (i:=2)
   have m1:=hm.n1
   have m2:=hm.n2
   have hY:RW T {gn R with ep:=bU m 1,nu:=bU m 2,c:=c,t:=t,ch:=true }:=by
    refine⟨⟨⟨c1,cb,n2.1,by show bU m 2<=_;omega,hy.i.ok.vl,hy.i.ok.ol,hy.i.ok.dl,fun o ho=>by simp [gn,cw]at ho⟩,(Qg ht).1,hy.i.om,fun o ho=>by simp [gn,cw]at ho⟩,h.id,n1.1,m1,m2,h.vl,h.t0,h.t1,h.om,hy.dn,fun o ho=>by simp [gn,cw]at ho⟩
   exact yN (to:=fr) (kd:=11) (n:=[bU m 2]) (b:=[]) (l:=[]) hY hT ho (nu:=bU m 2) rfl m2 (CB hT (.inl rfl) ⟨n1.1,m1⟩ ⟨n2.1,m2⟩)
  ·exact h
theorem afj (h:RW T R) (hd:R.done.length<100000) (fr:Int) (m:dY):RW T (iH R fr m):=by
 unfold iH
 split
 ·exact h
 ·rename_i L hl
  split
  ·exact h
  ·split
   ·rename_i hc
    have:=BK h hl (mark L.ins fr true) L.cN
    rw[hc]at this;exact this
   ·rename_i o hc
    have:=BK h hl (mark L.ins fr true) (mark L.cN fr true)
    rw[hc]at this
    exact Gt this hd
theorem ac5 (h:RW T R) (hd:R.done.length<100000) (fr:Int) (m:dY):RW T (iC R fr m):=by
 unfold iC
 split
 ·exact h
 ·rename_i L hl
  split
  ·exact h
  ·rename_i o hc
   split
   ·have:=BK h hl L.ins (mark L.cN fr true)
    rw[hc]at this
    exact Gt this hd
   ·exact h
theorem aaF (h:RW T R) (b:Bool):RW T {R with lo:=b }:=⟨⟨⟨h.i.ok.cl,h.i.ok.cb,h.i.ok.n0,h.i.ok.n1,h.i.ok.vl,h.i.ok.ol,h.i.ok.dl,h.i.ok.cr⟩,h.i.tx,h.i.om,h.i.oc⟩,h.id,h.e0,h.e1,h.n1,h.vl,h.t0,h.t1,h.om,h.dn,h.cu⟩
theorem ad6 (h:RW T R) (hT:T<=1000000) (ho:R.out.length<100000) (hd:R.done.length<100000) (fr:Int) (m:dY):RW T (iF R fr m):=by
 unfold iF
 split
 ·exact h
 ·rename_i L hl
  split
  ·exact DC h hd
  ·split
   ·exact DC (aaF h true) hd
   ·exact ae7 (BK h hl (mark L.ins fr false) L.cN) hT ho fr
theorem NV (h:RW T R) (hT:T<=1000000) {o:Op} (hr:gB o=true) (hb:bm o.b):RW (T+1) (iB R o):=by
 have n1:=h.n1
 exact⟨F7 h.i hr hb (by omega),h.id,h.e0,by have:=h.e1;show R.ep<=_;omega,by show R.nu+1<=_;omega,h.vl,h.t0,by have:=h.t1;show R.ti<=_;omega,(h.mono (by omega:T<=T+1)).om,h.dn,h.cu⟩
theorem adc (h:RW T R) (hT:T<=1000000) (ho:R.out.length<100000) (fr:Int) {m:dY} (hm:MW T m) (hw:m.n.any df=false):RW T (jf R fr m):=by
 unfold jf
 split
 ·exact yN h hT ho (nu:=R.nu) rfl h.n1 (CB hT (.inr (.inl rfl)) ⟨h.e0,h.e1⟩ (vR h))
 ·split
  ·rename_i k
   obtain⟨_,k2,_,k4,_⟩:=k
   have m2:=hm.n2
   have n0:=(vR h).1
   have hD:=NV h hT k4 hm.ok.b
   have sC:RW T (iB R (yw m)):=⟨hD.i,h.id,h.e0,h.e1,by show R.nu+1<=T;omega,h.vl,h.t0,h.t1,h.om,h.dn,h.cu⟩
   exact yN sC hT ho (nu:=R.nu+1) rfl (by omega) (CB hT (.inr (.inl rfl)) ⟨h.e0,h.e1⟩ ⟨by omega,by omega⟩)
  ·exact QH h hT ho fr
theorem YO (h:RW T R) (hT:T<=1000000) (ho:R.out.length<100000) (hd:R.done.length<100000) (fr:Int) {m:dY} (hm:MW T m):RW T (gF R fr m):=by
 unfold gF
 split
 ·exact h
 ·rename_i hg
  have hw:=OA (by simpa using hg)
  split
  ·exact afo h hT ho hd fr hm hw
  ·split
   ·exact afj h hd fr m
   ·split
    ·exact adc h hT ho fr hm hw
    ·split
     ·exact ac5 h hd fr m
     ·exact ad6 h hT ho hd fr m
theorem Jl (h:RW T R) (hT:T<=1000000) {ps:List Post} (hp:∀ p∈ps,kp p.m/\bU p.m 1<=T/\bU p.m 2<=T) (hl:R.out.length+ps.length<=100000):RW T {R with out:=R.out++ps }:=by
 refine⟨Ci h.i (fun p hm=>?_) hl,h.id,h.e0,h.e1,h.n1,h.vl,h.t0,h.t1,fun p hm=>(dM.1 hm).elim (h.om p) (hp p),h.dn,h.cu⟩
 exact MW.ok ⟨(hp p hm).1,(hp p hm).2.1,(hp p hm).2.2⟩
theorem TD (h:RW T R) (hT:T<=1000000) (k:Int):kp (kZ R k).m/\bU (kZ R k).m 1<=T/\bU (kZ R k).m 2<=T:=by
 refine⟨?_,h.e1,h.n1⟩
 unfold kZ;rw[h.id]
 exact SP hT h.i.ok.cl h.i.ok.cb h.i.tx ⟨h.e0,h.e1⟩ (vR h)
theorem OO (h:RW T R) (hT:T<=1000000) {o:Op} (hr:gB o=true) (ho:fR o) (hb:o.b.length<=2048) (k:Int):kp (kS R o k).m/\bU (kS R o k).m 1<=T/\bU (kS R o k).m 2<=T:=by
 refine⟨?_,h.e1,h.n1⟩
 unfold kS;rw[h.id]
 exact aej hT hr ho hb _ ⟨h.e0,h.e1⟩ (vR h)
theorem vY (h:RW T R):(aZ R).length<=1000:=by
 have h1:(bz R.me R.v.mem R.v.aM).length<=(R.v.mem++R.v.aM).length:=List.length_filter_le ..
 rw[bn]at h1
 have:=h.vl
 unfold aZ;omega
theorem afJ (h:RW T R) (hT:T<=1000000) (ho:R.out.length<=1000):RW (T+1) (gm R):=by
 have h2:=h.mono (by omega:T<=T+1)
 have ol:=vY h
 have ti:∀{R2:κ},RW (T+1) R2->R2.ti=R.ti->RW (T+1) {R2 with ti:=R.ti+1 }:=fun{R2} q e=>⟨C8 q.i _,q.id,q.e0,q.e1,q.n1,q.vl,by have:=h.t0;show 0<=R.ti+1;omega,by have:=h.t1;show R.ti+1<=_;omega,q.om,q.dn,q.cu⟩
 unfold gm
 split
 ·exact ti h2 rfl
 ·rename_i L hl
  have hc:cw R=L.cur:=by unfold cw;rw[hl];rfl
  have:=Kw R L (aZ R)
  split
  ·refine ti (R2:={R with out:=R.out++(aZ R).flatMap (kh R L) }) ?_ rfl
   refine(Jl h hT (fun p hp=>?_) (by omega)).mono (by omega)
   obtain⟨k,_,hk⟩:=List.mem_flatMap.1 hp
   unfold kh at hk
   split at hk
   ·rw[dQ]at hk;subst hk;exact TD h hT k
   ·split at hk
    ·rename_i o lY
     rw[lY]at hc
     split at hk
     ·rw[dQ]at hk;subst hk;exact OO h hT (h.i.ok.cr o hc) (h.i.oc o hc) (h.cu o hc) k
     ·cases hk
    ·cases hk
  ·exact ti h2 rfl
theorem ahR (h:RW T R) (hT:T<=1000000) (ho:R.out.length<=1000) (hd:R.done.length<100000) {w:Vw} (hw:w.mem.length+w.aM.length<=1000) (hv:w.ve<=T):RW T (gN R w):=by
 have ol:(bz R.me w.mem w.aM).length<=1000:=by
  have h1:(bz R.me w.mem w.aM).length<=(w.mem++w.aM).length:=List.length_filter_le ..
  rw[bn]at h1;omega
 cases hg:eC R w with
 |false=>rw[Di hg];exact h
 |true=>
  have hy:=DC h hd
  cases hl:fH R w with
  |false=>
   rw[Dg hg hl]
   exact⟨⟨⟨hy.i.ok.cl,hy.i.ok.cb,hy.i.ok.n0,hy.i.ok.n1,hw,hy.i.ok.ol,hy.i.ok.dl,hy.i.ok.cr⟩,hy.i.tx,hy.i.om,hy.i.oc⟩,h.id,h.e0,h.e1,h.n1,hw,h.t0,h.t1,h.om,hy.dn,hy.cu⟩
  |true=>
   rw[Dh hg hl]
   have xZ:1<=w.ve:=by
    unfold eC at hg
    rw[km,decide_eq_true_eq]at hg
    exact hg.1.2.2.2
   have q1:=(P5 h.i (w:=w) (by omega) hd).1
   have q2:RW T (kw R w):=⟨q1,h.id,by show 0<=w.ve;omega,hv,h.n1,hw,h.t0,h.t1,h.om,hy.dn,fun o ho=>by simp [kw,cw]at ho⟩
   exact Jl q2 hT (fun p hp=>by
    obtain⟨k,_,rfl⟩:=eL.1 hp
    exact TD q2 hT k) (by rw[bX];show R.out.length+_<=_;omega)
theorem WB (h:RW T R) (hT:T<1000000) (ho:R.out.length<=1000) (hd:R.done.length<100000) {L:de} {o:Op} (hr:gB o=true) (xX:fR o) (hb:o.b.length<=2048):RW (T+1) (lV R L o):=by
 have ol:=vY h
 have hD:=NV h (by omega) hr xX.b
 obtain⟨B,hB⟩:∃ B:κ,B={iB R o with ld:=some {L with cN:=fun _=>false,cur:=some o } }:=⟨_,rfl⟩
 have h1:RW (T+1) B:=by
  subst hB
  exact⟨⟨⟨hD.i.ok.cl,hD.i.ok.cb,hD.i.ok.n0,hD.i.ok.n1,hD.i.ok.vl,hD.i.ok.ol,hD.i.ok.dl,fun o' ho'=>by simp [cw]at ho';subst ho';exact hr⟩,hD.i.tx,hD.i.om,fun o' ho'=>by simp [cw]at ho';subst ho';exact xX⟩,hD.id,hD.e0,hD.e1,hD.n1,hD.vl,hD.t0,hD.t1,hD.om,hD.dn,fun o' ho'=>by simp [cw]at ho';subst ho';exact hb⟩
 have e:lV R L o=fV {B with out:=B.out++(aZ R).map (kS B o) }:=by
  have e0:aZ B=aZ R:=by subst hB;rfl
  have e9:lV R L o=fV ((aZ B).foldl (fun r k=>xR r o k) B):=by subst hB;rfl
  rw[e9,tQ,e0]
 have e1:B.out=R.out:=by subst hB;rfl
 have e2:B.done=R.done:=by subst hB;rfl
 rw[e]
 refine Gt (Jl h1 (by omega) (fun p hp=>?_) (by rw[bX,e1];omega)) (by show B.done.length<_;rw[e2];exact hd)
 obtain⟨k,_,rfl⟩:=eL.1 hp
 exact OO h1 (by omega) hr xX hb k
theorem ae5 (h:RW T R) (hT:T<1000000) (ho:R.out.length<=1000) (hd:R.done.length<100000) {o:Op} (xX:fR o) (hb:o.b.length<=2048):RW (T+1) (eS R o).2:=by
 have h2:=h.mono (by omega:T<=T+1)
 unfold eS
 split
 ·exact h2
 ·rename_i hr
  have hr:gB o=true:=by simpa using hr
  split
  ·exact h2
  ·rename_i L hl
   split
   ·exact h2
   ·split
    ·exact h2
    ·split
     ·rename_i e R1 hk
      split at hk
      ·unfold l4 at hk
       split at hk
       ·cases hk
        exact⟨NW h.i (by simp;omega),h.id,h.e0,h2.e1,h2.n1,h.vl,h.t0,h2.t1,h2.om,fun d hm=>nN h.dn (qB.nil _ _) hm,h.cu⟩
       ·split at hk
        ·cases hk;exact h2
        ·split at hk
         ·cases hk
         ·cases hk;exact h2
      ·cases hk
     ·exact WB h hT ho hd hr xX hb
theorem W9 (h:RW T R) (b:Bool):RW T (mT R):=⟨F8 (RZ (Az h.i false)),h.id,h.e0,h.e1,h.n1,h.vl,h.t0,h.t1,fun p hp=>(by cases hp),fun d hd=>(by cases hd),h.cu⟩
end
structure Sp where
 d:Int
 dg:Int
 n:Int
 k:Int
 ag:Bool
abbrev rL (s:Sp):V:=.agg [.int Z s.d,.int Z s.dg,.int Z s.n,.int Z s.k,θ s.ag]
def bO (s:Sp):Int:=1+bM s.n 2
def kA (w:Wd) (cl:Int):Int:=w.aW.getD cl.toNat 0
def m7 (w:Wd) (cl:Int) (c:dD):Bool:=decide (c.o.cl=cl/\c.o.nm=kA w cl/\c.o.kd≠3)
def tB (w:Wd) (cl:Int):Option dD:=(w.cs.filter (m7 w cl)).getLast?
def fW (w:Wd) (s:Sp):Op:=⟨bO s,kA w (bO s)+1,1+bM s.k 4,bM (Z.wrap (s.n.tdiv 2)) 2,if 1+bM s.k 4=1 then gY ((w.cs.length:Int)+1)else[]⟩
def qi (w:Wd) (s:Sp):Int:=if 1+bM s.k 4=1 then(w.cs.length:Int)+1 else 0
def pD (w:Wd) (s:Sp):Wd:={w with aW:=w.aW.set (bO s).toNat (kA w (bO s)+1) }
def lF (w:Wd) (s:Sp):Wd:={pD w s with cs:=w.cs++[⟨fW w s,qi w s,w.now,-1⟩] }
def tP (w:Wd) (o:Op) (dg:Nat):Wd:={w with R:=w.R.set dg (eS (ax w dg) o).2 }
def s9 (w:Wd) (o:Op) (dg:Nat):Wd:=hZ (tP w o dg) dg
def l8 (w:Wd) (s:Sp) (dg:Nat):Wd:=
 if s.ag then(match tB w (bO s)with | some c=>s9 w c.o dg | none=>w)
 else if 12<=w.cs.length then w else s9 (lF w s) (fW w s) dg
structure w9 where
 k:Nat
 q:List (Nat×Nat)
 A:List (Sg×KB)
structure Ae (w:Wd) (cl:Int) (x:w9):Prop where
 le:x.k<=w.cs.length
 no:∀ j,x.k<=j->j<w.cs.length->m7 w cl (c8 w j)=false
 p:PW x.A x.q w.R
structure lx where
 e:List D
 q:List (Nat×Nat)
 A:List (Sg×KB)
 b:Bool
structure Ev (w:Wd) (cl:Int) (k:Nat) (x:lx):Prop where
 k0:0<k
 lt:k - 1<w.cs.length
 e:x.e=cF (c8 w (k - 1))
 hit:x.b=m7 w cl (c8 w (k - 1))
 no:∀ j,k<=j->j<w.cs.length->m7 w cl (c8 w j)=false
 p:PW x.A x.q w.R
abbrev CY (w:Wd) (cl dg:Int) (k:Nat):LI where
 α:={x:lx // Ev w cl k x}
 live:=[0,2,6,7,8,57]
 dU:=eP++[.q9 4]
 st x:=([aj 0 0,.int Z dg,.int Z cl,.int Z ((k:Int) - 1),.dK x.1.e 0,θ x.1.b],eE w x.1.q x.1.A)
 μ x:=0
def afc (w:Wd) (cl dg:Int) (k:Nat):Nat->Option LI
 | 1008=>some (CY w cl dg k)
 |_=>none
abbrev Ka (w:Wd) (cl dg:Int):LI where
 α:={x:w9 // Ae w cl x}
 live:=[0,2,6,7]
 dU:=eP
 st x:=([aj 0 0,.int Z dg,.int Z cl,.int Z ((x.1.k:Int) - 1)],eE w x.1.q x.1.A)
 μ x:=x.1.k
 sub x:=afc w cl dg x.1.k
structure zE where
 W:Wd
 q:List (Nat×Nat)
 A:List (Sg×KB)
structure DM (w:Wd) (s:Sp) (x:zE):Prop where
 W:x.W=pD w s
 p:PW x.A x.q x.W.R
abbrev IP (w:Wd) (s:Sp) (dg:Int):LI where
 α:={x:zE // DM w s x}
 live:=[0,2,4,6]
 dU:=eP
 st x:=([aj 0 0,.int Z dg,aj 14 0,.int Z (bO s)],[jN 8 x.1.W,χ,χ,χ,χ,χ,χ,cD x.1.A,kD x.1.q,kX x.1.W,kE x.1.W,kg x.1.W,lL x.1.W,lM x.1.W,ar [.int Z s.d,.int Z s.dg,.int Z s.n,.int Z s.k,θ s.ag]])
 μ x:=0
structure zG where
 W:Wd
 o:Op
 q:List (Nat×Nat)
 A:List (Sg×KB)
structure DN (w:Wd) (s:Sp) (x:zG):Prop where
 W:x.W=pD w s
 o:x.o={fW w s with b:=[] }
 p:PW x.A x.q x.W.R
structure wU where
 W:Wd
 e:List D
 v:Int
 q:List (Nat×Nat)
 A:List (Sg×KB)
structure zF (w:Wd) (s:Sp) (x:wU):Prop where
 W:x.W=pD w s
 e:x.e=bo (fW w s)
 v:x.v=qi w s
 p:PW x.A x.q x.W.R
abbrev IQ (w:Wd) (s:Sp) (dg:Int):LI where
 α:={x:zG // DN w s x}
 live:=[0,2,9]
 dU:=eP++[.tF 14 4 1]
 st x:=([aj 0 0,.int Z dg,aj 14 0],[jN 8 x.1.W,χ,χ,χ,χ,χ,χ,cD x.1.A,kD x.1.q,kX x.1.W,kE x.1.W,kg x.1.W,lL x.1.W,lM x.1.W,ar [.int Z x.1.o.cl,.int Z x.1.o.nm,.int Z x.1.o.kd,.int Z x.1.o.bk,aD (.sl 1 [])]])
 μ x:=0
abbrev IR (w:Wd) (s:Sp) (dg:Int):LI where
 α:={x:wU // zF w s x}
 live:=[0,2,9,10]
 dU:=eP++[.q9 2]
 st x:=([aj 0 0,.int Z dg,.dK x.1.e 0,.int Z x.1.v],eE x.1.W x.1.q x.1.A)
 μ x:=0
def TH (w:Wd) (s:Sp) (dg:Int):FuncId->Nat->Option LI
 | 26,4=>some (Ka w (bO s) dg)
 | 26,1012=>some (IP w s dg)
 | 26,1013=>some (IQ w s dg)
 | 26,1017=>some (IR w s dg)
 |_,_=>none
def DT:aE:=fun args kb K=>match args,kb with
 | [.int Z n],[]=>∀ b:List Int,b=gY n->K (aD (.sl 1 (ints ι b))) []
 |_,_=>False
structure nA (n:Int):Prop where
 h:-9223372036854775808<=n/\n<=9223372036854775807
def Ej:aE:=fun args kb K=>match args,kb with
 | [.int Z k,.int Z n],[]=>nA n/\K (.int Z (bM k n)) []
 |_,_=>False
def yR:FuncId->Option dA
 | 20=>some ⟨[],Ej⟩
 | 16=>some ⟨[.iD],WM Lh⟩
 | 23=>some ⟨[],IA DT⟩
 |f=>yM f
noncomputable def Mo:bJ:=dG Tryz.prog yR aG 10
theorem ahj (w:Wd) (s:Sp) (a:Nat) (q:List (Nat×Nat)) (A:List (Sg×KB)) (K:V->KB->Prop) (an:
 let oe:=ε Z (bO s);let la:=ξ 49 5 (φ dL w.vs);let kJ:=ξ 23 1 (φ bx w.dk);let kj:=ξ 61 10 (φ cF w.cs);let kI:=ξ 73 3 (φ cH w.af);let jS:=(Z.wrap (1+bM s.n 2));let dz:=ε Z (↑a:Int);let bS:=(ints Z w.aW);let qz:=0+(w.aW.length - 0)<=bS.length;let oX:=(az (0+(w.aW.length - 0)) bS);let bP:=ar [δ 8 0 w.R.length,δ 9 0 w.dk.length,δ 10 0 w.vs.length,δ 11 0 w.af.length,δ 12 0 w.cs.length,δ 13 0 w.aW.length,ε Z w.now,θ w.ok];let fv:KB:=[bP,χ,χ,χ,χ,χ,χ,cD A,ξ 30 1 (φ cj q),kJ,la,kI,kj,ξ 3 1 bS];nA 2/\
 (s.ag=true->
 At (Ka w (bO s) (↑a:Int)) ([aj 0 0,dz,ε Z jS,ε Z (Z.wrap ((↑(w.cs.length - 0):Int) - 1))],fv)/\
 ∀(i:{x:w9 // Ae w (bO s) x }),let wI:=ε Z ((↑i.val.k:Int) - 1);let aH:KB:=[bP,χ,χ,χ,χ,χ,χ,cD i.val.A,ξ 30 1 (φ cj i.val.q),kJ,la,kI,kj,ξ 3 1 bS];(decide ((↑i.val.k:Int) - 1 ≥ 0)=true->
 bw ((↑i.val.k:Int) - 1) (w.cs.length - 0)/\
 ∃(e:List D),(φ cF w.cs)[0+((↑i.val.k:Int) - 1).toNat]? =some e/\
 ∃(n:Int),e[0]? =some (ζ (ν Z n))/\
 ∃(n_1:Int),e[1]? =some (ζ (ν Z n_1))/\
 ∃(n_2:Int),e[2]? =some (ζ (ν Z n_2))/\
 ∃(eJ:Int),e[3]? =some (ζ (ν Z eJ))/\
 ∃(l:List (List D)),e[4]? =some (ψ 1 l)/\
 ∃(iV:Int),e[5]? =some (ζ (ν Z iV))/\
 ∃(nf:Int),e[6]? =some (ζ (ν Z nf))/\
 ∃(nP:Int),e[7]? =some (ζ (ν Z nP))/\
 ∃(oN:Int),e[8]? =some (ζ (ν Z oN))/\
 ∃(b:Bool),let bj:=V.dK [ζ (ν Z n),ζ (ν Z n_1),ζ (ν Z n_2),ζ (ν Z eJ),ψ 1 l,ζ (ν Z iV),ζ (ν Z nf),ζ (ν Z nP),ζ (ν Z oN),ζ (nE b)] 0;let k_:=At (CY w (bO s) (↑a:Int) i.val.k) ([aj 0 0,dz,oe,wI,bj,θ false],aH);e[9]? =some (ζ (nE b))/\
 (((n == bO s)=true->
 bw (bO s) (w.aW.length - 0)/\
 ∃(e:List D),bS[0+(bO s).toNat]? =some e/\
 ∃(oO:Int),e[0]? =some (ζ (ν Z oO))/\
 ((n_1 == oO)=true->
 At (CY w (bO s) (↑a:Int) i.val.k) ([aj 0 0,dz,oe,wI,bj,θ (n_2 != 3)],aH))/\
 ((n_1 == oO)=false->
 k_))/\
 ((n == bO s)=false->
 k_))/\
 ∀(i_1:{x:lx // Ev w (bO s) i.val.k x }),(i_1.val.b=true->
 bw (↑a:Int) (w.R.length - 0)/\
 ∃(e:List D),(φ cj i_1.val.q)[0+(↑a:Int).toNat]? =some e/\
 ∃(v:Value),e[0]? =some (ζ v)/\
 ∃(n:Int),i_1.val.e[0]? =some (ζ (ν Z n))/\
 ∃(oO:Int),i_1.val.e[1]? =some (ζ (ν Z oO))/\
 ∃(yi:Int),i_1.val.e[2]? =some (ζ (ν Z yi))/\
 ∃(yh:Int),i_1.val.e[3]? =some (ζ (ν Z yh))/\
 ∃(l:List (List D)),i_1.val.e[4]? =some (ψ 1 l)/\
 ∃(l_1:List (Nat×κ)),∃(i_2:Nat),∃(b:Nat),∃(R:κ),cW i_1.val.A l_1/\
 l_1[i_2]? =some (b,R)/\
 ζ v=ζ (pv b)/\
 ∃(o:Op),[fF [ε Z n,ε Z oO,ε Z yi,ε Z yh,aD (ψ 1 l)]]=[vX o]/\
 bA R/\
 R.out.length+(aZ R).length<=100000/\
 (∀(c:Int),dS c o.b->
 0<=c/\
 c<256)/\
 o.b.length<=100000/\
 ∀(A':List (Sg×KB)),cW A' (l_1.set i_2 (b,(eS R o).snd))->
 ∃(w_1:Wd),∃(q:List (Nat×Nat)),∃(A:List (Sg×KB)),og [ar [δ 1 0 w.R.length,δ 2 0 w.dk.length,δ 3 0 w.vs.length,δ 4 0 w.af.length,δ 5 0 w.cs.length,δ 6 0 w.aW.length,ε Z w.now,θ w.ok],ξ 30 1 (φ cj i_1.val.q),kJ,la,kI,kj,ξ 3 1 bS,cD A'] w_1 q A/\
 PW A q w_1.R/\
 ∃(i:Nat),[dz]=[ε Z (↑i:Int)]/\
 kL w_1 i/\
 ∀(w':Wd),w'=hZ w_1 i->
 ∀(q':List (Nat×Nat)) (A':List (Sg×KB)),PW A' q' w'.R->
 K (aw []) [ar [δ 8 0 w'.R.length,δ 9 0 w'.dk.length,δ 10 0 w'.vs.length,δ 11 0 w'.af.length,δ 12 0 w'.cs.length,δ 13 0 w'.aW.length,ε Z w'.now,θ w'.ok],χ,χ,χ,χ,χ,χ,cD A',ξ 30 1 (φ cj q'),ξ 23 1 (φ bx w'.dk),ξ 49 5 (φ dL w'.vs),ξ 73 3 (φ cH w'.af),ξ 61 10 (φ cF w'.cs),ξ 3 1 (ints Z w'.aW)])/\
 (i_1.val.b=false->
 Nx (Ka w (bO s) (↑a:Int)) i ([aj 0 0,dz,oe,ε Z (Z.wrap ((↑i.val.k:Int) - 1 - 1))],[bP,χ,χ,χ,χ,χ,χ,cD i_1.val.A,ξ 30 1 (φ cj i_1.val.q),kJ,la,kI,kj,ξ 3 1 bS])))/\
 (decide ((↑i.val.k:Int) - 1 ≥ 0)=false->
 K (aw []) aH))/\
 (s.ag=false->
 (decide ((↑(w.cs.length - 0):Int) ≥ 12)=true->
 K (aw []) fv)/\
 (decide ((↑(w.cs.length - 0):Int) ≥ 12)=false->
 (True/\
 aB jS/\
 0<=jS.toNat/\
 jS.toNat<=w.aW.length - 0/\
 bw jS (w.aW.length - 0)/\
 ∃(e:List D),bS[0+(Z.wrap (1+bM s.n 2)).toNat]? =some e/\
 ∃(n:Int),let tf:=[[ζ (ν Z (Z.wrap (n+1)))]];let kH:=(Z.wrap (1+bM s.n 2));let uN:=0+kH.toNat<=bS.length;let iK:=(∃(e:List D),bS[0+(Z.wrap (1+bM s.n 2)).toNat]? =some e/\
 ∃(n_1:Int),e[0]? =some (ζ (ν Z n_1))/\
 lS n_1 n);let fL:=(Z.wrap (Z.wrap (1+bM s.n 2)+1));let wH:=(tf++ay (0+fL.toNat) oX);let aO:=(ay (0+fL.toNat) oX);let od:=(1+aO.length)*8<=140737488355328;let b9:=1+aO.length<=wH.length;let aC:=(az (0+kH.toNat) bS);let lP:=(0+(ay 0 aC).length)*8<=140737488355328;let l9:=0+(ay 0 aC).length<=([]++ay 0 aC).length;let au:=(az (1+aO.length) wH);let ji:=(0+(ay 0 aC).length+(ay 0 au).length)*8<=140737488355328;let η:=At (IP w s (↑a:Int)) ([aj 0 0,dz,aj 14 0,ε Z kH],[ar [δ 8 0 w.R.length,δ 9 0 w.dk.length,δ 10 0 w.vs.length,δ 11 0 w.af.length,δ 12 0 w.cs.length,δ 13 0 (0+(ay 0 aC).length+(ay 0 au).length),ε Z w.now,θ w.ok],χ,χ,χ,χ,χ,χ,cD A,ξ 30 1 (φ cj q),kJ,la,kI,kj,ξ 3 1 (az (0+(ay 0 aC).length) ([]++ay 0 aC)++ay 0 au),ar [ε Z s.d,ε Z s.dg,ε Z s.n,ε Z s.k,θ s.ag]]);e[0]? =some (ζ (ν Z n))/\
 aB fL/\
 True/\
 fL.toNat<=w.aW.length - 0/\
 w.aW.length - 0<=w.aW.length - 0/\
 (True/\
 True/\
 True/\
 (iK)/\
 (True/\
 True/\
 True/\
 uN/\
 0<=0/\
 lP/\
 (iK)/\
 True/\
 True/\
 qz/\
 1<=1/\
 od/\
 b9/\
 l9/\
 ji/\
 η)/\
 True/\
 True/\
 True/\
 True/\
 True/\
 uN/\
 0<=0/\
 lP/\
 qz/\
 1<=1/\
 od/\
 b9/\
 l9/\
 ji/\
 η)/\
 True/\
 True/\
 True/\
 True/\
 True/\
 True/\
 True/\
 uN/\
 0<=0/\
 lP/\
 qz/\
 1<=1/\
 od/\
 b9/\
 l9/\
 ji/\
 η)/\
 ∀(i:{x:zE // DM w s x }),let lb:=(ints Z i.val.W.aW);(bw (bO s) (i.val.W.aW.length - 0)/\
 ∃(e:List D),lb[0+(bO s).toNat]? =some e/\
 ∃(n:Int),let cC:=(∃(e:List D),lb[0+(bO s).toNat]? =some e/\
 ∃(n:Int),e[0]? =some (ζ (ν Z n))/\
 True);let bq:=(∃(e:List D),lb[0+(bO s).toNat]? =some e/\
 ∃(n_1:Int),e[0]? =some (ζ (ν Z n_1))/\
 lS n_1 n);let ω:=At (IQ w s (↑a:Int)) ([aj 0 0,dz,aj 14 0],[ar [δ 8 0 i.val.W.R.length,δ 9 0 i.val.W.dk.length,δ 10 0 i.val.W.vs.length,δ 11 0 i.val.W.af.length,δ 12 0 i.val.W.cs.length,δ 13 0 i.val.W.aW.length,ε Z i.val.W.now,θ i.val.W.ok],χ,χ,χ,χ,χ,χ,cD i.val.A,ξ 30 1 (φ cj i.val.q),ξ 23 1 (φ bx i.val.W.dk),ξ 49 5 (φ dL i.val.W.vs),ξ 73 3 (φ cH i.val.W.af),ξ 61 10 (φ cF i.val.W.cs),ξ 3 1 lb,ar [oe,ε Z n,ε Z (Z.wrap (1+bM s.k 4)),ε Z (bM (Z.wrap (s.n.tdiv 2)) 2),aD (ψ 1 [])]]);e[0]? =some (ζ (ν Z n))/\
 (True/\
 nA 4/\
 lS s.n s.n/\
 (bq)/\
 (True/\
 nA 2/\
 (bq)/\
 (cC)/\
 True/\
 ω)/\
 True/\
 (cC)/\
 True/\
 True/\
 nA 2/\
 (bq)/\
 ω)/\
 True/\
 True/\
 (cC)/\
 True/\
 True/\
 nA 4/\
 lS s.n s.n/\
 (bq)/\
 True/\
 nA 2/\
 (bq)/\
 ω)/\
 ∀(i:{x:zG // DN w s x }),let zl:=ζ (ν Z i.val.o.bk);let wL:=ζ (ν Z i.val.o.kd);let wK:=ζ (ν Z i.val.o.nm);let wJ:=ζ (ν Z i.val.o.cl);let wG:=(Z.wrap ((↑(i.val.W.cs.length - 0):Int)+1));let bN:KB:=[ar [δ 8 0 i.val.W.R.length,δ 9 0 i.val.W.dk.length,δ 10 0 i.val.W.vs.length,δ 11 0 i.val.W.af.length,δ 12 0 i.val.W.cs.length,δ 13 0 i.val.W.aW.length,ε Z i.val.W.now,θ i.val.W.ok],χ,χ,χ,χ,χ,χ,cD i.val.A,ξ 30 1 (φ cj i.val.q),ξ 23 1 (φ bx i.val.W.dk),ξ 49 5 (φ dL i.val.W.vs),ξ 73 3 (φ cH i.val.W.af),ξ 61 10 (φ cF i.val.W.cs),ξ 3 1 (ints Z i.val.W.aW)];(((i.val.o.kd == 1)=true->
 ∀(b:List Int),b=[ι.wrap wG,0,0,0,0,0,0,0,0,0,0,0,0,0,0,if Z.wrap ((↑(i.val.W.cs.length - 0):Int)+1) > 0 then 7 else 0]->
 At (IR w s (↑a:Int)) ([aj 0 0,dz,V.dK [wJ,wK,wL,zl,ψ 1 (ints ι b)] 0,ε Z wG],bN))/\
 ((i.val.o.kd == 1)=false->
 At (IR w s (↑a:Int)) ([aj 0 0,dz,V.dK [wJ,wK,wL,zl,ψ 1 []] 0,ε Z 0],bN)))/\
 ∀(i:{x:wU // zF w s x }),∃(n:Int),i.val.e[0]? =some (ζ (ν Z n))/\
 ∃(n_1:Int),i.val.e[1]? =some (ζ (ν Z n_1))/\
 ∃(n_2:Int),i.val.e[2]? =some (ζ (ν Z n_2))/\
 ∃(eJ:Int),i.val.e[3]? =some (ζ (ν Z eJ))/\
 ∃(l:List (List D)),i.val.e[4]? =some (ψ 1 l)/\
 ∃(iV:Int),i.val.e[2]? =some (ζ (ν Z iV))/\
 True/\
 True/\
 1<=1/\
 i.val.W.cs.length<=(φ cF i.val.W.cs).length/\
 (i.val.W.cs.length+1)*96<=140737488355328/\
 bw (↑a:Int) (i.val.W.R.length - 0)/\
 ∃(e:List D),(φ cj i.val.q)[0+(↑a:Int).toNat]? =some e/\
 ∃(v:Value),e[0]? =some (ζ v)/\
 ∃(nf:Int),i.val.e[0]? =some (ζ (ν Z nf))/\
 ∃(nP:Int),i.val.e[1]? =some (ζ (ν Z nP))/\
 ∃(oN:Int),i.val.e[2]? =some (ζ (ν Z oN))/\
 ∃(oO:Int),i.val.e[3]? =some (ζ (ν Z oO))/\
 ∃(l_1:List (List D)),i.val.e[4]? =some (ψ 1 l_1)/\
 ∃(l_2:List (Nat×κ)),∃(i_1:Nat),∃(b:Nat),∃(R:κ),cW i.val.A l_2/\
 l_2[i_1]? =some (b,R)/\
 ζ v=ζ (pv b)/\
 ∃(o:Op),[fF [ε Z nf,ε Z nP,ε Z oN,ε Z oO,aD (ψ 1 l_1)]]=[vX o]/\
 bA R/\
 R.out.length+(aZ R).length<=100000/\
 (∀(c:Int),dS c o.b->
 0<=c/\
 c<256)/\
 o.b.length<=100000/\
 ∀(A':List (Sg×KB)),cW A' (l_2.set i_1 (b,(eS R o).snd))->
 ∃(w_1:Wd),∃(q:List (Nat×Nat)),∃(A:List (Sg×KB)),og [ar [δ 1 0 i.val.W.R.length,δ 2 0 i.val.W.dk.length,δ 3 0 i.val.W.vs.length,δ 4 0 i.val.W.af.length,δ 5 0 (i.val.W.cs.length+1),δ 6 0 i.val.W.aW.length,ε Z i.val.W.now,θ i.val.W.ok],ξ 30 1 (φ cj i.val.q),ξ 23 1 (φ bx i.val.W.dk),ξ 49 5 (φ dL i.val.W.vs),ξ 73 3 (φ cH i.val.W.af),ξ 61 10 (az i.val.W.cs.length (φ cF i.val.W.cs)++[[ζ (ν Z n),ζ (ν Z n_1),ζ (ν Z n_2),ζ (ν Z eJ),ψ 1 l,ζ (ν Z iV),ζ (ν Z i.val.v),ζ (ν Z i.val.W.now),ζ (ν Z (-1)),ζ (nE false)]]),ξ 3 1 (ints Z i.val.W.aW),cD A'] w_1 q A/\
 PW A q w_1.R/\
 ∃(i:Nat),[dz]=[ε Z (↑i:Int)]/\
 kL w_1 i/\
 ∀(w':Wd),w'=hZ w_1 i->
 ∀(q':List (Nat×Nat)) (A':List (Sg×KB)),PW A' q' w'.R->
 K (aw []) [ar [δ 8 0 w'.R.length,δ 9 0 w'.dk.length,δ 10 0 w'.vs.length,δ 11 0 w'.af.length,δ 12 0 w'.cs.length,δ 13 0 w'.aW.length,ε Z w'.now,θ w'.ok],χ,χ,χ,χ,χ,χ,cD A',ξ 30 1 (φ cj q'),ξ 23 1 (φ bx w'.dk),ξ 49 5 (φ dL w'.vs),ξ 73 3 (φ cH w'.af),ξ 61 10 (φ cF w'.cs),ξ 3 1 (ints Z w'.aW)]))
 ):aI Tryz.prog Mo (TH w s (a:Int) 26) 26 [aj 0 0,rL s,.int Z (a:Int)] (mJ w q A) (eZ eP (dp 8 K)):=by apply Eq.mp (a:=an);kernel_rfl
theorem Tn {α:Type} (x:α) (D:List α):az (1+D.length) ([x]++D)=x::D:=eM (by rw[bn];exact av _)
theorem aeR {α:Type} {M:List α} {x:α} {c n:Nat} (hc:c<M.length) (hn:n=M.length):az (0+(ay 0 (az (0+c) M)).length) ([]++ay 0 (az (0+c) M))++ay 0 (az (1+(ay (0+(c+1)) (az (0+(n - 0)) M)).length) ([x]++ay (0+(c+1)) (az (0+(n - 0)) M)))=M.set c x:=by
 subst hn
 rw[wm,Tn,lT,c9,c9,c9,jV,cM,cM,g_,List.set_eq_take_append_cons_drop,if_pos hc]
theorem aeP {α:Type} {M:List α} {x:α} {c n:Nat} (hc:c<M.length) (hn:n=M.length):0+(ay 0 (az (0+c) M)).length+(ay 0 (az (1+(ay (0+(c+1)) (az (0+(n - 0)) M)).length) ([x]++ay (0+(c+1)) (az (0+(n - 0)) M)))).length=M.length:=by
 subst hn
 rw[wm,Tn,lT,c9,c9,c9,cM,g_,iZ,cQ,fQ];omega
theorem Dm {W:Wd} {R':List κ} (h:R'.length=W.R.length) (q:List (Nat×Nat)) (A:List (Sg×KB)):mJ W q A=mJ {W with R:=R' } q A:=by
 show[ar [.sl 1 0 W.R.length,_,_,_,_,_,_,_],_,_,_,_,_,_,_]=[ar [.sl 1 0 R'.length,_,_,_,_,_,_,_],_,_,_,_,_,_,_]
 rw[h]
theorem aci:aN Tryz.prog 20 Ej:=fun args kb K hs=>I3 args kb K (by
 unfold Ej at hs;split at hs<;>try exact hs.elim
 exact⟨hs.1.h,hs.2⟩)
theorem acI:aN Tryz.prog 23 DT:=fun args kb K hs=>Rv args kb K (by
 unfold DT at hs;split at hs<;>try exact hs.elim
 exact hs _ rfl)
theorem Kl:dF Tryz.prog yR:=fun f k h=>by
 unfold yR at h
 split at h
 ·cases h;exact aci
 ·cases h;exact abn
 ·cases h;exact QL acI
 ·exact JL _ _ h
theorem V6:bZ Tryz.prog Mo:=dI mixed Kl aG 10
theorem V_ {w:Wd} {cl:Int} (h:∀ j,j<w.cs.length->m7 w cl (c8 w j)=false):tB w cl=none:=by
 unfold tB
 have:w.cs.filter (m7 w cl)=[]:=List.filter_eq_nil_iff.2 fun c hc=>by
  obtain⟨j,hj⟩:=jx hc
  have hl:=(bG.1 hj).1
  have:=h j hl
  rw[vh hl,bb.injEq]at hj
  rw[<- hj,this];exact Bool.false_ne_true
 rw[this];rfl
theorem Wa {w:Wd} {cl:Int} {k:Nat} (hk:k<w.cs.length) (h1:m7 w cl (c8 w k)=true) (h:∀ j,k<j->j<w.cs.length->m7 w cl (c8 w j)=false):tB w cl=some (c8 w k):=by
 unfold tB
 have e:w.cs=w.cs.take k++c8 w k::w.cs.drop (k+1):=by
  have hc:=vh hk
  rw[bp hk,bb.injEq]at hc
  rw[<- hc,<- List.drop_eq_getElem_cons hk,List.take_append_drop]
 have e2:(w.cs.drop (k+1)).filter (m7 w cl)=[]:=List.filter_eq_nil_iff.2 fun c hc=>by
  obtain⟨j,hj⟩:=jx hc
  rw[jw]at hj
  have hl:=(bG.1 hj).1
  have:=h (k+1+j) (by omega) hl
  rw[vh hl,bb.injEq]at hj
  rw[<- hj,this];exact Bool.false_ne_true
 generalize c8 w k=c at*
 rw[e,List.filter_append,List.filter_cons_of_pos h1,e2,List.getLast?_concat]
structure Af (w:Wd) (s:Sp) (a:Nat):Prop where
 hi:a<w.R.length
 hd:a<w.dk.length
 r:bA (ax w a)
 ol:(ax w a).out.length+(aZ (ax w a)).length<=100000
 cl:w.cs.length<=1000
 cb:∀ c∈w.cs,bm c.o.b/\c.o.b.length<=100000
 n3:w.aW.length=3
 nb:∀ n∈w.aW,0<=n/\n<=1000000
 cA:∀ c,tB w (bO s)=some c->kL (tP w c.o a) a
 cB:w.cs.length<12->kL (tP (lF w s) (fW w s) a) a
def Lr:List V->Wd->(V->Wd->Prop)->Prop:=fun rest w k=>∃(s:Sp) (a:Nat),rest=[rL s,.int Z (a:Int)]/\Af w s a/\∀ w',w'=l8 w s a->k (.υ []) w'
theorem lJ (k:Int) {n:Int} (h:1<=n):0<=bM k n/\bM k n<n:=adl h
theorem Ix (w:Wd) (s:Sp):bm (fW w s).b/\(fW w s).b.length<=100000:=by
 unfold fW;dsimp only;split
 ·exact⟨KH _,by rw[Df];omega⟩
 ·exact⟨fun c h=>(by cases h),bt _⟩
theorem acx:aN Tryz.prog 26 (WM Lr):=mE V6 mixed eP (fun args kb K h=>by
 unfold WM at h;split at h<;>try exact h.elim
 obtain⟨w,q,A,⟨rfl⟩,hp,s,a,rfl,hc,h⟩:=h
 refine⟨TH w s (a:Int) 26,?_⟩
 show aI _ _ _ _ _ _ (eZ eP (dp 8 K))
 apply ahj w s a q A K
 have hi:=hc.hi
 have hcl:=hc.cl
 have pc:=lJ s.n (n:=2) (by omega)
 have e1:Z.wrap (1+bM s.n 2)=bO s:=by rw[bD (by omega) (by omega)];rfl
 have hcs:1<=bO s/\bO s<=2:=by unfold bO;omega
 have HK:∀ n:Int,0<=n->n<=10->nA n:=fun n h1 h2=>⟨by omega,by omega⟩
 have hin:bw (a:Int) w.R.length:=by unfold bw;omega
 have hn3:=hc.n3
 have cv:bw (bO s) w.aW.length:=by unfold bw;omega
 have cn:(bO s).toNat<w.aW.length:=by omega
 have go:∀(W:Wd) (o:Op) (q1:List (Nat×Nat)) (A1:List (Sg×KB)),W.R=w.R->PW A1 q1 W.R->(bm o.b/\o.b.length<=100000)->kL (tP W o a) a->l8 w s a=s9 W o a->
   ∀(F:List (Sg×KB)->KB),(∀ A',F A'=mJ W q1 A')->∀(X:List V),X=[vX o]->bw (a:Int) (w.R.length - 0)/\∃ e,(q1.map cj)[0+(a:Int).toNat]? =some e/\∃ d:Value,e[0]? =some (ζ d)/\∃(l:List (Nat×κ)) (i:Nat) (b:Nat) (R:κ),cW A1 l/\l[i]? =some (b,R)/\ζ d=ζ (pv b)/\∃ o:Op,X=[vX o]/\bA R/\R.out.length+(aZ R).length<=100000/\(∀ c,dS c o.b->0<=c/\c<256)/\o.b.length<=100000/\
    ∀ A',cW A' (l.set i (b,(eS R o).2))->∃(w1:Wd) (q:List (Nat×Nat)) (A:List (Sg×KB)),og (F A') w1 q A/\PW A q w1.R/\∃ i:Nat,[ε Z (a:Int)]=[ε Z (i:Int)]/\kL w1 i/\∀ w',w'=hZ w1 i->∀ q' A',PW A' q' w'.R->K (.υ []) (eE w' q' A'):=by
  intro W o q1 A1 OK P1 qd YV hst F hF X hX
  have qW:W.R[a]? =some (ax w a):=by rw[OK];exact sT hi
  have ZG:ax W a=ax w a:=by unfold ax;rw[OK]
  obtain⟨l,k,b,hq,hA,hl,dT⟩:=P1.get qW
  refine⟨hin,_,ql hq,_,rfl,l,k,b,_,hA,hl,rfl,o,hX,hc.r,hc.ol,qd.1,qd.2,fun A2 p2=>⟨tP W o a,q1,A2,⟨?_⟩,?_,a,rfl,YV,fun w' hw' q' A' p'=>h w' (by rw[hw',hst];rfl) q' A' p'⟩⟩
  ·rw[hF];exact Dm (by rw[ir]) q1 A2
  ·have:=dT _ _ p2
   show PW A2 q1 (W.R.set a (eS (ax W a) o).2)
   rw[ZG];exact this
 rw[e1]
 refine⟨HK 2 (by omega) (by omega),fun ha=>⟨?_,?_⟩,fun ha=>⟨fun h12=>?_,fun h12=>?_⟩⟩
 ·refine At.mk' (⟨⟨w.cs.length,q,A⟩,av _,fun j h1 h2=>absurd h1 (by show ¬ w.cs.length<=j;omega),hp⟩:{x:w9 // Ae w (bO s) x}) ?_
  rw[bD (by omega) (by omega)]
  rfl
 ·rintro⟨⟨k,q1,A1⟩,hk,hno,P1⟩
  dsimp only at hk hno P1 ⊢
  refine⟨fun pm=>?_,fun pm=>?_⟩
  ·have pm:0<k:=by rw[decide_eq_true_eq]at pm;omega
   have hlt:k - 1<w.cs.length:=by omega
   have ek:((k:Int) - 1)=((k - 1:Nat):Int):=by omega
   have hg:=vh hlt
   have E6:∀ b:Bool,b=m7 w (bO s) (c8 w (k - 1))->At (CY w (bO s) (a:Int) k) ([aj 0 0,.int Z (a:Int),.int Z (bO s),.int Z ((k:Int) - 1),.dK (cF (c8 w (k - 1))) 0,θ b],eE w q1 A1):=fun b hb=>At.mk' (⟨⟨_,q1,A1,b⟩,pm,hlt,rfl,hb,hno,P1⟩:{x:lx // Ev w (bO s) k x}) rfl
   refine⟨by rw[ek];unfold bw;omega,cF (c8 w (k - 1)),by rw[ek,c9,cP,fE,hg];rfl,_,rfl,_,rfl,_,rfl,_,rfl,_,rfl,_,rfl,_,rfl,_,rfl,_,rfl,_,rfl,⟨fun t1=>⟨cv,_,by rw[c9,kv,xM cn];rfl,w.aW.getD (bO s).toNat 0,rfl,fun t2=>?_,fun t2=>?_⟩,fun t1=>?_⟩,?_⟩
   ·refine E6 _ ?_
    rw[beq_iff_eq]at t1 t2
    unfold m7
    rw[Bool.eq_iff_iff,decide_eq_true_eq]
    rw[bne_iff_ne]
    exact⟨fun t3=>⟨t1,t2,t3⟩,fun t3=>t3.2.2⟩
   ·refine E6 _ ?_
    rw[beq_eq_false_iff_ne]at t2
    unfold m7
    exact(decide_eq_false fun t3=>t2 t3.2.1).symm
   ·refine E6 _ ?_
    rw[beq_eq_false_iff_ne]at t1
    unfold m7
    exact(decide_eq_false fun t3=>t1 t3.1).symm
   ·rintro⟨⟨e,q2,A2,b⟩,_,_,he,hb,_,P2⟩
    dsimp only at he hb P2 ⊢
    subst he
    refine⟨fun tb=>?_,fun tb=>?_⟩
    ·rw[tb]at hb
     have qP:=Wa hlt hb.symm (fun j h1 h2=>hno j (by omega) h2)
     have hst:l8 w s a=s9 w (c8 w (k - 1)).o a:=by
      unfold l8;rw[if_pos ha,qP]
     have hmem:c8 w (k - 1)∈w.cs:=fi hg
     obtain⟨g1,e,g2,d,g3,l,i,b',R,g4⟩:=go w (c8 w (k - 1)).o q2 A2 rfl P2 (hc.cb _ hmem) (hc.cA _ qP) hst (fun A'=>mJ w q2 A') (fun _=>rfl) _ rfl
     exact⟨g1,e,g2,d,g3,_,rfl,_,rfl,_,rfl,_,rfl,_,rfl,l,i,b',R,g4⟩
    ·rw[tb]at hb
     refine Nx.mk' (⟨⟨k - 1,q2,A2⟩,by show k - 1<=_;omega,fun j h1 h2=>?_,P2⟩:{x:w9 // Ae w (bO s) x}) ?_ (by show k - 1<k;omega)
     ·have h1:k - 1<=j:=h1
      by_cases ej:j=k - 1
      ·subst ej;exact hb.symm
      ·exact hno j (by omega) h2
     ·rw[bD (by omega) (by omega),ek]
  ·have pm:k=0:=by rw[decide_eq_false_iff_not]at pm;omega
   subst pm
   have qP:=V_ (w:=w) (cl:=bO s) (fun j h1=>hno j (bt _) h1)
   exact h w (by unfold l8;rw[if_pos ha,qP]) q1 A1 P1
 ·have h12:12<=w.cs.length:=by rw[decide_eq_true_eq]at h12;omega
  exact h w (by unfold l8;rw[if_neg (by rw[ha];exact Bool.false_ne_true),if_pos h12]) q A hp
 have h12:w.cs.length<12:=by rw[decide_eq_false_iff_not]at h12;omega
 have e2:Z.wrap (bO s+1)=bO s+1:=by rw[bD (by omega) (by omega)]
 have e3:(bO s+1).toNat=(bO s).toNat+1:=by omega
 have hmem:=hc.nb _ (A_ cn)
 have e4:Z.wrap (w.aW.getD (bO s).toNat 0+1)=kA w (bO s)+1:=by rw[bD (by omega) (by omega)];rfl
 have da:(ints Z w.aW)[0+(bO s).toNat]? =some [ζ (.int Z (w.aW.getD (bO s).toNat 0))]:=by rw[c9,kv,xM cn];rfl
 have hM:(bO s).toNat<(ints Z w.aW).length:=by rw[bi];exact cn
 have hL:w.aW.length=(ints Z w.aW).length:=bi.symm
 have hst:l8 w s a=s9 (lF w s) (fW w s) a:=by
  unfold l8;rw[if_neg (by rw[ha];exact Bool.false_ne_true),if_neg (by omega)]
 refine⟨?_,?_⟩
 ·simp only[e2,e3]
  have GR:At (IP w s (a:Int)) ([aj 0 0,.int Z (a:Int),aj 14 0,.int Z (bO s)],[ar [.sl 8 0 w.R.length,.sl 9 0 w.dk.length,.sl 10 0 w.vs.length,.sl 11 0 w.af.length,.sl 12 0 w.cs.length,.sl 13 0 (0+(ay 0 (az (0+(bO s).toNat) (ints Z w.aW))).length+(ay 0 (az (1+(ay (0+((bO s).toNat+1)) (az (0+(w.aW.length - 0)) (ints Z w.aW))).length) ([[ζ (.int Z (Z.wrap (w.aW.getD (bO s).toNat 0+1)))]]++ay (0+((bO s).toNat+1)) (az (0+(w.aW.length - 0)) (ints Z w.aW))))).length),.int Z w.now,θ w.ok],χ,χ,χ,χ,χ,χ,cD A,kD q,kX w,kE w,kg w,lL w,
    .row 3 1 (az (0+(ay 0 (az (0+(bO s).toNat) (ints Z w.aW))).length) ([]++ay 0 (az (0+(bO s).toNat) (ints Z w.aW)))++ay 0 (az (1+(ay (0+((bO s).toNat+1)) (az (0+(w.aW.length - 0)) (ints Z w.aW))).length) ([[ζ (.int Z (Z.wrap (w.aW.getD (bO s).toNat 0+1)))]]++ay (0+((bO s).toNat+1)) (az (0+(w.aW.length - 0)) (ints Z w.aW))))),ar [.int Z s.d,.int Z s.dg,.int Z s.n,.int Z s.k,θ s.ag]]):=by
   rw[aeR hM hL,aeP hM hL,<- hL,e4]
   refine At.mk' (⟨⟨pD w s,q,A⟩,rfl,hp⟩:{x:zE // DM w s x}) ?_
   have e5:(ints Z w.aW).set (bO s).toNat [ζ (.int Z (kA w (bO s)+1))]=ints Z (pD w s).aW:=by
    show _=ints Z (w.aW.set _ _)
    simp only[ints,List.map_set]
   rw[e5]
   show(_,_)=(_,[ar [_,_,_,_,_,.sl 13 0 (w.aW.set (bO s).toNat (kA w (bO s)+1)).length,_,_],_,_,_,_,_,_,_,_,_,_,_,_,_,_])
   rw[ir]
   rfl
  repeat' (first | exact trivial | exact GR | refine⟨_,da,_,rfl,?_⟩ | exact⟨_,da,_,rfl,⟨rfl⟩⟩ | apply And.intro)
  all_goals first | exact cv | exact⟨rfl⟩ | exact av _ | exact bt _ | (unfold aB;omega) | omega | (simp only[jV,bn,cQ,fQ,ii,iZ,kn,bi];omega)
 rintro⟨⟨W,q1,A1⟩,hW,P1⟩
 dsimp only at hW P1 ⊢
 have GZ:W.aW=w.aW.set (bO s).toNat (kA w (bO s)+1):=by rw[hW];rfl
 have OL:W.aW.length=w.aW.length:=by rw[GZ,ir]
 have p4:=lJ s.k (n:=4) (by omega)
 have e6:Z.wrap (1+bM s.k 4)=1+bM s.k 4:=by rw[bD (by omega) (by omega)]
 have Pf:(ints Z W.aW)[0+(bO s).toNat]? =some [ζ (.int Z (kA w (bO s)+1))]:=by rw[c9,kv,GZ,ig cn];rfl
 have Nz:bw (bO s) (W.aW.length - 0):=by rw[OL];exact cv
 refine⟨?_,?_⟩
 ·have GR:At (IQ w s (a:Int)) ([aj 0 0,.int Z (a:Int),aj 14 0],[jN 8 W,χ,χ,χ,χ,χ,χ,cD A1,kD q1,kX W,kE W,kg W,lL W,lM W,ar [.int Z (bO s),.int Z (kA w (bO s)+1),.int Z (Z.wrap (1+bM s.k 4)),.int Z (bM (Z.wrap (s.n.tdiv 2)) 2),aD (.sl 1 [])]]):=by
   refine At.mk' (⟨⟨W,{fW w s with b:=[] },q1,A1⟩,hW,rfl,P1⟩:{x:zG // DN w s x}) ?_
   rw[e6];rfl
  repeat' (first | exact trivial | exact GR | exact Nz | exact HK 2 (by omega) (by omega) | exact HK 4 (by omega) (by omega) | refine⟨_,Pf,_,rfl,?_⟩ | exact⟨rfl⟩ | apply And.intro)
 clear Pf Nz P1 hW GZ OL A1 q1 W
 rintro⟨⟨W,o,q1,A1⟩,hW,ho,P1⟩
 dsimp only at hW ho P1 ⊢
 subst hW ho
 refine⟨?_,?_⟩
 ·have e7:Z.wrap ((((pD w s).cs.length - 0:Nat):Int)+1)=(w.cs.length:Int)+1:=by
   show Z.wrap ((w.cs.length:Int)+1)=_
   rw[bD (by omega) (by omega)]
  rw[e7]
  refine⟨fun t=>?_,fun t=>?_⟩
  ·have t:1+bM s.k 4=1:=by rw[beq_iff_eq]at t;exact t
   intro b hb
   have hb:b=gY ((w.cs.length:Int)+1):=hb
   refine At.mk' (⟨⟨pD w s,bo (fW w s),(w.cs.length:Int)+1,q1,A1⟩,rfl,rfl,by unfold qi;rw[if_pos t],P1⟩:{x:wU // zF w s x}) ?_
   show(_,_)=([_,_,V.dK [_,_,_,_,.sl 1 (ints ι (fW w s).b)] 0,_],_)
   have:(fW w s).b=b:=by rw[hb];unfold fW;dsimp only;rw[if_pos t]
   rw[this]
  ·have t:¬ 1+bM s.k 4=1:=by rw[beq_eq_false_iff_ne]at t;exact t
   refine At.mk' (⟨⟨pD w s,bo (fW w s),0,q1,A1⟩,rfl,rfl,by unfold qi;rw[if_neg t],P1⟩:{x:wU // zF w s x}) ?_
   show(_,_)=([_,_,V.dK [_,_,_,_,.sl 1 (ints ι (fW w s).b)] 0,_],_)
   have:(fW w s).b=[]:=by unfold fW;dsimp only;rw[if_neg t]
   rw[this];rfl
 ·clear P1 A1 q1
  rintro⟨⟨W,e,v,q1,A1⟩,hW,he,hv,P1⟩
  dsimp only at hW he hv P1 ⊢
  subst hW he hv
  have hb:=Ix w s
  refine⟨_,rfl,_,rfl,_,rfl,_,rfl,_,rfl,_,rfl,trivial,trivial,av _,by rw[bX];exact av _,by show(w.cs.length+1)*96<=_;omega,?_⟩
  obtain⟨g1,e,g2,d,g3,l,i,b',R,g4⟩:=go (lF w s) (fW w s) q1 A1 rfl P1 hb (hc.cB h12) hst (fun A'=>mJ (lF w s) q1 A') (fun _=>rfl) _ rfl
  have ek:∀ A',mJ (lF w s) q1 A'=[ar [.sl 1 0 w.R.length,.sl 2 0 w.dk.length,.sl 3 0 w.vs.length,.sl 4 0 w.af.length,.sl 5 0 (w.cs.length+1),.sl 6 0 (pD w s).aW.length,.int Z w.now,θ w.ok],kD q1,kX w,kE w,kg w,ξ 61 10 (az w.cs.length (w.cs.map cF)++[cF ⟨fW w s,qi w s,w.now,-1⟩]),lM (pD w s),cD A']:=fun A'=>by
   have e8:(lF w s).cs.length=w.cs.length+1:=by show(w.cs++[_]).length=_;rw[bn];rfl
   have e9:(lF w s).cs.map cF=az w.cs.length (w.cs.map cF)++[cF ⟨fW w s,qi w s,w.now,-1⟩]:=by
    show(w.cs++[_]).map cF=_
    rw[jy,eM (by rw[bX];exact av _)];rfl
   unfold mJ jN lL
   rw[e8,e9]
   rfl
  simp only[ek]at g4
  exact⟨g1,e,g2,d,g3,_,rfl,_,rfl,_,rfl,_,rfl,_,rfl,l,i,b',R,g4⟩)
end Go.Proofs.YtfcjngcnifdmnaaGreat
