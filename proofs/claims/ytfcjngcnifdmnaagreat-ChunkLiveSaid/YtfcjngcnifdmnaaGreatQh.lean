import Derived.Test.YtfcjngcnifdmnaaGreatQg
import Derived.KernelRfl
namespace Go.Proofs.YtfcjngcnifdmnaaGreat.Hy
open Vc Go
open Go.IntKind renaming i64->γ,u8->ξ,u32->iM
open Vc.V renaming any->δ,int->ε,sl->ζ,sb->ο,ptr->aj,φ->au,dat->aC,aa->aR,mp->aY,arr->bF,agg->fz
open Vc.D renaming val->η,sl->χ
open Go.Value renaming int->ν,map->kT,bool->mG,oneCell'->mH
open List renaming map->ae,drop->ax,take->ay,length_append->bn,getElem?_eq_getElem->bu,getElem?_eq_some_iff->bH,length_map->bT,take_length->cQ,length_take->cW,mem_singleton->da,replicate->dv,mem_append->dz,mem_map->dO,mem_cons->dS,Mem->dW,append_assoc->dX,getElem?_append_left->dY,take_of_length_le->eQ,getElem?_append_right->fk,getElem?_map->fy,mem_of_getElem?->fF,length_drop->gm,mem_cons_of_mem->gn,append_nil->gz,length_cons->gA,getD_eq_getElem?_getD->gO,getElem?_set_ne->gP,mem_append_left->gQ,length_singleton->gZ,drop_zero->iD,getElem?_eq_none->iE,getElem?_take_of_lt->iF,length_set->iG,getElem?_set_self->iN,mem_cons_self->iV,map_append->ja,range->jb,nil_append->jr,take_add_one->jt,flatten_cons->jF,getElem?_of_mem->jG,getElem?_drop->jW,map_cons->kv,length_nil->kP,mem_append_right->kQ,mem_filter->lu,ext_getElem?->mb,eq_nil_of_length_eq_zero->mD
open Vc.KO renaming row->ai,dead->aw,cells->aB,objs->fE
open Nat renaming le_refl->ar,zero_le->bj,beq->cX,zero_add->c9,eq_of_beq_eq_true->de,add_assoc->g_,lor->iW,lt_or_ge->kx,sub_zero->ly,le_trans->mc
open Option renaming some->bb,bind_eq_some_iff->lO,map->ng
open Int renaming toNat_natCast->cN,le_refl->dE
open Bool renaming and_eq_true->jo,not_eq_false'->kr,not_eq_true'->mA
set_option linter.unusedVariables false
set_option linter.unusedSimpArgs false
set_option maxRecDepth 100000
set_option maxHeartbeats 2000000
def xC (l:List Call) (m:Nat) (v:Int):Prop:=¬ ∃ r,Ext l m v r
def Af (l:List Call) (e:List Int×List D):Prop:=∃(m:Nat) (b:Int),e=([(m:Int),b],[db true])/\xC l m b
structure X2 (l:List Call) (m:Nat) (M:ML):Prop where
 all:∀ e∈M,(∃(m':Nat) (b:Int),e=([(m':Int),b],[db true])/\m'<m)∨Af l e
structure EB (l:List Call) (m:Nat) (v:Int) (M:ML) (o:List Int) (b:Bool) (M':ML) (o':List Int):Prop where
 t:b=true->∃ r:List Nat,o'=o++r.map (fun(k:Nat)=>(k:Int))/\Ext l m v r
 f:b=false->o'=o/\xC l m v/\∀ e∈M',e∈M∨Af l e
structure EC (l:List Call) (m n:Nat) (M:ML) (o:List Int):Prop where
 len:l.length<=14
 lo:o.length<=m
 lt:m<2 ^ l.length
 fuel:2 ^ l.length - m<n
 seen:X2 l m M
def uc (n:Nat):aE:=fun args kb K=>match args,kb with
 | [aj 0 0,.int γ m0,.int γ v],[aB [aC (.sl 4 L),.mp 1,.sl 2 0 h],.mp [γ,γ] true false 1 M,ai 3 1 R]=>
  ∃(l:List Call) (m:Nat) (o t:List Int),m0=m/\L=l.map bN/\R=ints γ (o++t)/\h=o.length/\EC l m n M o/\
   ∀ b M' o' t',EB l m v M o b M' o'->K (ο b) [aB [aC (.sl 4 (l.map bN)),.mp 1,.sl 3 0 o'.length],.mp [γ,γ] true false 1 M',aw,ai 3 1 (ints γ (o'++t'))]
 |_,_=>False
def uv (n:Nat):FuncId->Option du
 | 80=>some ⟨[],uc n⟩
 | 106=>some ⟨[],E8⟩
 | 108=>some ⟨[],E9⟩
 |f=>sk f
noncomputable def xX (n:Nat):cd:=dM Tryz.prog (uv n) aG 10
structure EI (l:List Call) (m:Nat) (v:Int) (M:ML) (p:Nat×ML×List Int):Prop where
 le:p.1<=l.length
 seen:∀ e∈p.2.1,e∈M∨e=([(m:Int),v],[db true])∨Af l e
 no:∀ j,j<p.1->free l m j->jZ (bc l j) v->xC l (ph m j) (kf (bc l j) v)
abbrev wI (l:List Call) (m:Nat) (v:Int) (M:ML) (o:List Int):LI where
 α:={p:Nat×ML×List Int // EI l m v M p}
 live:=[0,1,2,32,33,34]
 dT:=[.mv 0 2]
 st p:=([aj 0 0,.int γ (m:Int),.int γ v,aC (.sl 4 (l.map bN)),.int γ (l.length:Int),.int γ (p.1.1:Int)],
  [aB [aC (.sl 4 (l.map bN)),.mp 1,.sl 3 0 o.length],.mp [γ,γ] true false 1 p.1.2.1,aw,ai 3 1 (ints γ (o++p.1.2.2))])
 μ p:=l.length - p.1.1
def Sd (l:List Call) (m:Nat) (v:Int) (M:ML) (o:List Int):FuncId->Nat->Option LI
 | 80,8=>some (wI l m v M o)
 |_,_=>none
theorem ahN (n:Nat) (l:List Call) (m:Nat) (v:Int) (M:ML) (o t:List Int) (K:V->KB->Prop) (aq:
 let bM:=ai 3 1 (ints γ (o++t));let aJ:=[γ,γ];∃(l_1:List Call),let bp:=aB [aC (χ 4 (ae bN l_1)),aY 1,ζ 3 0 o.length];let av:KB:=[bp,KO.mp aJ true false 1 M,aw,bM];∃(m_1:Nat),(↑m:Int)=(↑m_1:Int)/\
 ae bN l=ae bN l_1/\
 l_1.length<=20/\
 m_1<4611686018427387904/\
 (decide (full l_1 m_1)=true->
 K (ο true) av)/\
 (decide (full l_1 m_1)=false->
 (∀(cs:List D),bK M [(↑m:Int),v]=some cs->
 gN [CK.bool] cs)/\
 (iQ M [(↑m:Int),v] 0=true->
 K (ο false) av)/\
 (iQ M [(↑m:Int),v] 0=false->
 At (wI l m v M o) ([aj 0 0,ε γ (↑m:Int),ε γ v,aC (χ 4 (ae bN l_1)),ε γ (↑(ae bN l_1).length:Int),ε γ 0],[bp,KO.mp aJ true false 1 (bI M [(↑m:Int),v] [η (mG true)]),aw,bM])/\
 ∀(i:{p:Nat×ML×List Int // EI l m v M p }),let bQ:=(↑i.val.fst:Int)<(↑l.length:Int);let aU:=(ints γ (o++i.val.snd.snd));let ω:KB:=[aB [aC (χ 4 (ae bN l)),aY 1,ζ 3 0 o.length],KO.mp aJ true false 1 i.val.snd.fst,aw,ai 3 1 aU];let θ:=[aj 0 0,ε γ (↑m:Int),ε γ v,aC (χ 4 (ae bN l)),ε γ (↑l.length:Int),ε γ (γ.wrap ((↑i.val.fst:Int)+1))];(decide (bQ)=true->
 aA (↑i.val.fst:Int)/\
 ∃(e:List D),(ae bN l)[(↑i.val.fst:Int).toNat]? =some e/\
 ∃(n_1:Int),e[0]? =some (η (ν γ n_1))/\
 ∃(n_2:Int),e[1]? =some (η (ν γ n_2))/\
 ∃(dB:Int),e[2]? =some (η (ν γ dB))/\
 ∃(iI:Int),e[3]? =some (η (ν γ iI))/\
 ((!decide (jZ (n_1,n_2,dB,iI) v))=true->
 Nx (wI l m v M o) i (θ,ω))/\
 ((!decide (jZ (n_1,n_2,dB,iI) v))=false->
 ∃(l_2:List Call),∃(m_2:Nat),∃(k:Nat),(↑m:Int)=(↑m_2:Int)/\
 (↑i.val.fst:Int)=(↑k:Int)/\
 ae bN l=ae bN l_2/\
 l_2.length<=20/\
 m_2<4611686018427387904/\
 k<l_2.length/\
 ((!decide (free l_2 m_2 k))=true->
 Nx (wI l m v M o) i (θ,[aB [aC (χ 4 (ae bN l_2)),aY 1,ζ 3 0 o.length],KO.mp aJ true false 1 i.val.snd.fst,aw,ai 3 1 aU]))/\
 ((!decide (free l_2 m_2 k))=false->
 1<=1/\
 o.length<=aU.length/\
 (o.length+1)*8<=140737488355328/\
 ((↑i.val.fst:Int)<0->
 False)/\
 ∃(io:List Call),∃(Ji:Nat),∃(gf:List Int),∃(t:List Int),γ.wrap (↑(BitVec.ofInt 64 (↑m:Int) ||| BitVec.ofInt 64 (mw γ 1 (↑i.val.fst:Int))).toNat:Int)=(↑Ji:Int)/\
 ae bN l_2=ae bN io/\
 ay o.length aU++[[η (ν γ (↑i.val.fst:Int))]]=ints γ (gf++t)/\
 o.length+1=gf.length/\
 EC io Ji n i.val.snd.fst gf/\
 ∀(b:Bool) (M':ML) (o' t':List Int),let bD:=ai 3 1 (ints γ (o'++t'));let aN:=(γ.wrap ((↑(o'.length - 0):Int) - 1));EB io Ji (kf (n_1,n_2,dB,iI) v) i.val.snd.fst gf b M' o'->
 (b=true->
 K (ο true) [aB [aC (χ 4 (ae bN io)),aY 1,ζ 3 0 o'.length],KO.mp aJ true false 1 M',aw,bD])/\
 (b=false->
 True/\
 aA aN/\
 0<=aN.toNat/\
 aN.toNat<=o'.length - 0/\
 Nx (wI l m v M o) i (θ,[aB [aC (χ 4 (ae bN io)),aY 1,ζ 3 0 (0+aN.toNat)],KO.mp aJ true false 1 M',aw,bD])))))/\
 (decide (bQ)=false->
 K (ο false) ω)))
 ):aI Tryz.prog (xX n) (Sd l m v M o 80) 80 [aj 0 0,.int γ (m:Int),.int γ v] (sK l M o.length (ints γ (o++t))) (eX [.mv 0 2] (dp 3 K)):=by apply Eq.mp (a:=aq);kernel_rfl
theorem Jr:∀{M:ML} {k:List Int} {c:List D},bK M k=some c->(k,c)∈M
 | [],k,c,h=>by simp [bK]at h
 | (a,x)::M,k,c,h=>by
  simp only[bK]at h
  split at h
  ·rename_i e;subst e;cases h;exact iV
  ·exact gn _ (Jr h)
theorem SG:∀{M:ML} {k:List Int} {c:List D} {e:List Int×List D},e∈bI M k c->e∈M∨e=(k,c)
 | [],k,c,e,h=>by simp [bI]at h;exact .inr h
 | (a,x)::M,k,c,e,h=>by
  simp only[bI]at h
  split at h
  ·rename_i q;subst q
   rcases dS.1 h with h | h
   ·exact .inr h
   ·exact .inl (gn _ h)
  ·rcases dS.1 h with h | h
   ·exact .inl (h ▸ iV)
   ·rcases SG h with h | h
    ·exact .inl (gn _ h)
    ·exact .inr h
theorem afD {m k:Nat} (h:m.testBit k=false):m<ph m k:=by
 have h1:m<=ph m k:=Nat.left_le_or
 have h2:m≠ph m k:=fun e=>by
  have:=K8 m k k
  rw[<- e,h]at this
  simp at this
 omega
theorem Vi {m k n:Nat} (h:m<2 ^ n) (hk:k<n):ph m k<2 ^ n:=Nat.or_lt_two_pow h (Nat.pow_lt_pow_right (by decide) hk)
theorem afE {m k:Nat} (hm:m<2 ^ 14) (hk:k<14):γ.wrap ((BitVec.ofInt 64 (m:Int) ||| BitVec.ofInt 64 (mw γ 1 (k:Int))).toNat:Int)=((ph m k:Nat):Int):=by
 have hp:(2:Nat) ^ k<2 ^ 14:=Nat.pow_lt_pow_right (by decide) hk
 have e1:mw γ 1 (k:Int)=((2 ^ k:Nat):Int):=by
  unfold mw
  rw[cN,show min k γ.bits=k from Nat.min_eq_left (by show k<=64;omega),Int.one_mul]
  have e0:((2:Int) ^ k)=((2 ^ k:Nat):Int):=by norm_cast
  rw[e0]
  generalize 2 ^ k=z at hp
  rw[bE (by omega) (by omega)]
 have hs:=Vi hm hk
 unfold ph at hs ⊢
 rw[e1,BitVec.toNat_or,BitVec.toNat_ofInt,BitVec.toNat_ofInt]
 generalize 2 ^ k=z at hp hs
 have e2:((m:Int) % ((2 ^ 64:Nat):Int)).toNat=m:=by omega
 have e3:((z:Int) % ((2 ^ 64:Nat):Int)).toNat=z:=by omega
 rw[e2,e3,bE (by omega) (by omega)]
theorem HN {n:Nat} (hn:aO Tryz.prog 80 (uc n)):dD Tryz.prog (uv n):=fun f k h=>by
 unfold uv at h
 split at h
 ·cases h;exact hn
 ·cases h;exact acI
 ·cases h;exact acQ
 ·exact zy _ _ h
theorem FL {n:Nat} (hn:aO Tryz.prog 80 (uc n)):cx Tryz.prog (xX n):=dP mixed (HN hn) aG 10
theorem Tw:∀ n,aO Tryz.prog 80 (uc n)
 | 0=>fun args kb K h=>by
  unfold uc at h;split at h<;>try exact h.elim
  obtain⟨l,m,o,t,rfl,rfl,rfl,rfl,hp,h⟩:=h
  exact absurd hp.fuel (Nat.not_lt_zero _)
 |n+1=>my (FL (Tw n)) mixed [.mv 0 2] (fun args kb K h=>by
  unfold uc at h;split at h<;>try exact h.elim
  rename_i v _ _ M _
  obtain⟨l,m,o,t,rfl,rfl,rfl,rfl,hp,h⟩:=h
  have hl:=hp.len
  have Rg:m<2 ^ 14:=Nat.lt_of_lt_of_le hp.lt (Nat.pow_le_pow_right (by decide) hl)
  have hlo:=hp.lo
  refine⟨Sd l m v M o 80,ahN n l m v M o t _ ⟨l,m,rfl,rfl,by omega,by omega,fun hf=>?_,fun hf=>⟨fun cs hcs=>?_,fun hg=>?_,fun hg=>⟨?_,?_⟩⟩⟩⟩
  ·refine h true M o t ⟨fun _=>⟨[],by simp,?_⟩,fun f=>by cases f⟩
   unfold Ext
   simpa using hf
  ·rcases hp.seen.all _ (Jr hcs)with ⟨m',b,e,_⟩ | ⟨m',b,e,_⟩
   ·simp only[Prod.mk.injEq]at e;rw[e.2];exact⟨true,[],rfl,rfl⟩
   ·simp only[Prod.mk.injEq]at e;rw[e.2];exact⟨true,[],rfl,rfl⟩
  ·refine h false M o t ⟨fun f=>(by cases f),fun _=>⟨rfl,?_,fun e he=> .inl he⟩⟩
   unfold iQ at hg
   split at hg
   ·rename_i cs hcs
    rcases hp.seen.all _ (Jr hcs)with ⟨m',b,e,hlt⟩ | ⟨m',b,e,hd⟩
    ·simp only[Prod.mk.injEq,List.cons.injEq,and_true]at e
     omega
    ·simp only[Prod.mk.injEq,List.cons.injEq,and_true]at e
     obtain⟨⟨e1,e2⟩,_⟩:=e
     have Z3:m=m':=by omega
     subst Z3;subst e2
     exact hd
   ·cases hg
  ·rw[bT]
   refine At.mk' ⟨(0,bI M [(m:Int),v] [db true],t),bj _,fun e he=>?_,fun j hj=>absurd hj (Nat.not_lt_zero _)⟩ rfl
   rcases SG he with he | he
   ·exact .inl he
   ·exact .inr (.inl he)
  rintro⟨⟨k,M',t'⟩,hi⟩
  have kF:=hi.le
  have wy:=hi.seen
  have hno:=hi.no
  simp only at kF wy hno
  have nx:∀ M2 t2,(∀ e∈M2,e∈M∨e=([(m:Int),v],[db true])∨Af l e)->k<l.length->(free l m k->jZ (bc l k) v->xC l (ph m k) (kf (bc l k) v))->
    Nx (wI l m v M o) ⟨(k,M',t'),hi⟩ ([aj 0 0,ε γ (m:Int),ε γ v,aC (χ 4 (l.map bN)),ε γ (l.length:Int),ε γ (γ.wrap ((k:Int)+1))],
     [aB [aC (χ 4 (l.map bN)),aY 1,ζ 3 0 o.length],KO.mp [γ,γ] true false 1 M2,aw,ai 3 1 (ints γ (o++t2))]):=fun M2 t2 hM hlt hd=>by
   rw[bE (by omega) (by omega)]
   refine Nx.mk' (⟨(k+1,M2,t2),by simp only;omega,hM,fun j hj hf tq=>?_⟩:{p:Nat×ML×List Int // EI l m v M p}) rfl (by show l.length - (k+1)<l.length - k;omega)
   simp only at hj
   by_cases hjk:j=k
   ·subst hjk;exact hd hf tq
   ·exact hno j (by omega) hf tq
  simp only[decide_eq_true_eq,decide_eq_false_iff_not]
  refine⟨fun hc=>?_,fun hc=>?_⟩
  ·have hlt:k<l.length:=by omega
   refine⟨by unfold aA;omega,bN (bc l k),sV hlt,(bc l k).1,rfl,(bc l k).2.1,rfl,(bc l k).2.2.1,rfl,(bc l k).2.2.2,rfl,fun tq=>?_,fun tq=>⟨l,m,k,rfl,rfl,rfl,by omega,by omega,hlt,fun hfr=>?_,fun hfr=>?_⟩⟩
   ·simp only[mA,decide_eq_false_iff_not]at tq
    exact nx _ _ wy hlt fun _ f=>absurd f tq
   ·simp only[mA,decide_eq_false_iff_not]at hfr
    exact nx _ _ wy hlt fun f=>absurd f hfr
   ·simp only[kr,decide_eq_true_eq]at hfr tq
    have hgt:=afD hfr.1
    have j6:=Vi hp.lt hlt
    have aa1:jZ (bc l k) v:=tq
    refine⟨ar _,by rw[bi,bn];omega,by omega,fun f=>by omega,l,ph m k,o++[(k:Int)],[],afE Rg (by omega),rfl,?_,by simp,⟨hl,by rw[bn,gZ];omega,j6,by have:=hp.fuel;omega,⟨fun e he=>?_⟩⟩,?_⟩
    ·rw[oX,List.take_left,gz,pR];rfl
    ·rcases wy e he with h1 | h1 | h1
     ·rcases hp.seen.all e h1 with ⟨m',b,e1,h2⟩ | h2
      ·exact .inl ⟨m',b,e1,by omega⟩
      ·exact .inr h2
     ·exact .inl ⟨m,v,h1,hgt⟩
     ·exact .inr h1
    ·intro b M2 o2 t2 hpost
     refine⟨fun hb=>?_,fun hb=>?_⟩
     ·obtain⟨r,h1,h2⟩:=hpost.t hb
      refine h true M2 o2 t2 ⟨fun _=>⟨k::r,?_,hlt,hfr,aa1,h2⟩,fun f=>by cases f⟩
      rw[h1,dX];rfl
     ·obtain⟨h1,h2,h3⟩:=hpost.f hb
      subst h1
      have e0:γ.wrap ((((o++[(k:Int)]).length - 0:Nat):Int) - 1)=(o.length:Int):=by
       rw[bn,gZ,bE (by omega) (by omega)];omega
      rw[e0,cN,c9]
      refine⟨trivial,by unfold aA;omega,bj _,by simp,?_⟩
      have:=nx M2 ((k:Int)::t2) (fun e he=>?_) hlt (fun _ _=>h2)
      ·rwa [show o++(k:Int)::t2=o++[(k:Int)]++t2 by simp]at this
      ·rcases h3 e he with h4 | h4
       ·exact wy e h4
       ·exact .inr (.inr h4)
  ·have:k=l.length:=by omega
   subst this
   have QV:xC l m v:=by
    rintro⟨r,hr⟩
    cases r with
    |nil=>unfold Ext at hr;exact absurd hr (by simpa using hf)
    |cons j r=>
     obtain⟨h1,h2,h3,h4⟩:=hr
     exact hno j h1 h2 h3 ⟨r,h4⟩
   refine h false M' o t' ⟨fun f=>(by cases f),fun _=>⟨rfl,QV,fun e he=>?_⟩⟩
   rcases wy e he with h1 | h1 | h1
   ·exact .inl h1
   ·exact .inr ⟨m,v,h1,QV⟩
   ·exact .inr h1)
abbrev nz (r:List Nat):List Int:=r.map (fun(k:Nat)=>(k:Int))
def sN (l:List Call):Prop:=∀ c∈l,ey c
def uf (l:List Call) (o:List Int):Prop:=∃ r:List Nat,o=nz r/\xS l r
structure vG (l:List Call) (o:List Int) (p:Nat×Int):Prop where
 le:p.1<=o.length
 run:∃ r:List Nat,o.take p.1=nz r/\(∀ x∈r,x<l.length)/\(sN l->∀ s,nh l [] 0 (r++s) ↔ nh l r p.2 s)
abbrev cj (o:List Int) (i:Nat):Int:=o.getD i 0
structure pq (l:List Call) (o:List Int) (p:Nat×Int):Prop where
 lt:p.1<o.length
 lo:0<=cj o p.1
 hi:cj o p.1<l.length
 new:cj o p.1 ∉ o.take p.1
 ok:sN l->¬ sA (bc l (cj o p.1).toNat)/\jZ (bc l (cj o p.1).toNat) p.2
abbrev UH (l:List Call) (o:List Int) (p:Nat×Int):LI where
 α:={q:Nat // q=0/\pq l o p}
 live:=[0,1,5,6,7]
 st q:=([aC (.sl 4 (l.map bN)),aC (.sl 1 (ints γ o)),.int γ p.2,.int γ (p.1:Int),.int γ (cj o p.1)],[])
 μ q:=0
def zc (c:Call) (v:Int):Int:=if c.1=1 then c.2.1 else v
abbrev KG (l:List Call) (o:List Int) (p:Nat×Int):LI where
 α:={q:Nat // q=0/\pq l o p}
 live:=[0,1,5,6,7]
 st q:=([aC (.sl 4 (l.map bN)),aC (.sl 1 (ints γ o)),.int γ (zc (bc l (cj o p.1).toNat) p.2),.int γ (p.1:Int),.int γ (cj o p.1)],[])
 μ q:=0
abbrev KF (l:List Call) (o:List Int) (p:Nat×Int):LI where
 α:={q:Nat // q=0/\pq l o p}
 live:=[0,1,5,6,7]
 st q:=([aC (.sl 4 (l.map bN)),aC (.sl 1 (ints γ o)),.int γ (kf (bc l (cj o p.1).toNat) p.2),.int γ (p.1:Int),.int γ (cj o p.1)],[])
 μ q:=0
abbrev Dz (l:List Call) (o:List Int) (p:Nat×Int):LI where
 α:={j:Nat // j<=p.1/\pq l o p/\∀ x,x<j->¬ jc (bc l (cj o p.1).toNat) (bc l (cj o x).toNat)}
 live:=[0,1,5,6,7,8]
 st j:=([aC (.sl 4 (l.map bN)),aC (.sl 1 (ints γ o)),.int γ (kf (bc l (cj o p.1).toNat) p.2),.int γ (p.1:Int),.int γ (cj o p.1),.int γ (j.1:Int)],[])
 μ j:=p.1 - j.1
abbrev KH (l:List Call) (o:List Int):LI where
 α:={p:Nat×Int // vG l o p}
 live:=[0,1,5,6]
 st p:=([aC (.sl 4 (l.map bN)),aC (.sl 1 (ints γ o)),.int γ p.1.2,.int γ (p.1.1:Int)],[])
 μ p:=o.length - p.1.1
 sub p r:=match r with
  | 1010=>some (UH l o p.1)
  | 1012=>some (KG l o p.1)
  | 1014=>some (KF l o p.1)
  | 15=>some (Dz l o p.1)
  |_=>none
abbrev Dy (l:List Call) (o:List Int):LI where
 α:={k:Nat // k<=l.length/\(∃ r:List Nat,o=nz r/\(sN l->nh l [] 0 r))/\∀ x,x<k->ey (bc l x)/\((bc l x).2.2.2≠-1->(x:Int)∈o)}
 live:=[0,1,9]
 st k:=([aC (.sl 4 (l.map bN)),aC (.sl 1 (ints γ o)),.int γ (k.1:Int)],[])
 μ k:=l.length - k.1
def UI (l:List Call) (o:List Int):FuncId->Nat->Option LI
 | 51,3=>some (KH l o)
 | 51,20=>some (Dy l o)
 |_,_=>none
structure M5 (l:List Call) (o:List Int):Prop where
 l1:l.length<=1000
 l2:o.length<=1000
def Fa:aE:=fun args kb K=>match args,kb with
 | [aC (.sl 4 L),aC (.sl 1 O)],[]=>∃(l:List Call) (o:List Int),L=l.map bN/\O=ints γ o/\M5 l o/\∀ b:Bool,(b=true ↔ uf l o)->K (ο b) []
 |_,_=>False
structure Nr (l:List Call) (b:Bool) (o:List Int):Prop where
 t:b=true->uf l o
 f:b=false->o=[]/\(14<l.length∨¬ ∃ r,xS l r)
def FB:aE:=fun args kb K=>match args,kb with
 | [aC (.sl 4 L)],[]=>∃ l:List Call,L=l.map bN/\l.length<=1000/\∀ b o t,Nr l b o->K (.φ [.sl 0 0 o.length,ο b]) [ai 3 1 (ints γ (o++t))]
 |_,_=>False
def Mg:FuncId->Option du
 | 80=>some ⟨[],y0 [.cell 0 2 3 1] (uc 100000)⟩
 |f=>sk f
noncomputable def NV:cd:=dM Tryz.prog Mg aG 10
abbrev Mf (l:List Call):LI where
 α:={i:Nat // i<=l.length/\∀ k,k<i->ey (bc l k)}
 live:=[0,10,11,12]
 st i:=([aC (.sl 4 (l.map bN)),aC (.sl 4 (l.map bN)),.int γ (l.length:Int),.int γ (i.1:Int)],[])
 μ i:=l.length - i.1
def Xb (l:List Call):FuncId->Nat->Option LI
 | 50,4=>some (Mf l)
 |_,_=>none
theorem ain (l:List Call) (o:List Int) (K:V->KB->Prop) (aq:
 let ω:=aC (χ 4 (ae bN l));let θ:=aC (χ 1 (ints γ o));At (KH l o) ([ω,θ,ε γ 0,ε γ 0],[])/\
 ∀(i:{p:Nat×Int // vG l o p }),let bM:=(↑i.val.fst:Int)<(↑(ints γ o).length:Int);let aU:=ε γ (kf (bc l (cj o i.val.fst).toNat) i.val.snd);let aJ:=ε γ (cj o i.val.fst);let av:=ε γ (↑i.val.fst:Int);(decide (bM)=true->
 aA (↑i.val.fst:Int)/\
 ∃(e:List D),(ints γ o)[(↑i.val.fst:Int).toNat]? =some e/\
 ∃(n:Int),let bW:=(n ≥ (↑(ae bN l).length:Int));let bp:=At (UH l o i.val) ([ω,θ,ε γ i.val.snd,av,ε γ n],[]);e[0]? =some (η (ν γ n))/\
 (decide (n<0)=true->
 K (ο false) [])/\
 (decide (n<0)=false->
 (decide bW=true->
 K (ο false) [])/\
 (decide bW=false->
 True/\
 aA (↑i.val.fst:Int)/\
 0<=(↑i.val.fst:Int).toNat/\
 (↑i.val.fst:Int).toNat<=(ints γ o).length/\
 ∃(gf:List Int),ax 0 (ay (↑i.val.fst:Int).toNat (ints γ o))=ints γ gf/\
 gf.length.le 1000000/\
 (decide (n∈gf)=true->
 K (ο false) [])/\
 (decide (n∈gf)=false->
 (aA n/\
 ∃(e:List D),(ae bN l)[n.toNat]? =some e/\
 ∃(n_1:Int),e[0]? =some (η (ν γ n_1))/\
 ((n_1 == 3)=true->
 aA n/\
 ∃(e:List D),(ae bN l)[n.toNat]? =some e/\
 ∃(n_2:Int),e[3]? =some (η (ν γ n_2))/\
 ((n_2 == -1)=true->
 K (ο false) [])/\
 ((n_2 == -1)=false->
 aA n/\
 ∃(e:List D),(ae bN l)[n.toNat]? =some e/\
 ∃(dB:Int),e[1]? =some (η (ν γ dB))/\
 ((dB != i.val.snd)=true->
 K (ο false) [])/\
 ((dB != i.val.snd)=false->
 bp)))/\
 ((n_1 == 3)=false->
 bp))/\
 ∀(i_1:{q:Nat // q=0/\
 pq l o i.val }),(aA (cj o i.val.fst)/\
 ∃(e:List D),(ae bN l)[(cj o i.val.fst).toNat]? =some e/\
 ∃(n:Int),e[0]? =some (η (ν γ n))/\
 ((n == 1)=true->
 aA (cj o i.val.fst)/\
 ∃(e:List D),(ae bN l)[(cj o i.val.fst).toNat]? =some e/\
 ∃(n:Int),e[1]? =some (η (ν γ n))/\
 At (KG l o i.val) ([ω,θ,ε γ n,av,aJ],[]))/\
 ((n == 1)=false->
 At (KG l o i.val) ([ω,θ,ε γ i.val.snd,av,aJ],[])))/\
 ∀(i_2:{q:Nat // q=0/\
 pq l o i.val }),(aA (cj o i.val.fst)/\
 ∃(e:List D),(ae bN l)[(cj o i.val.fst).toNat]? =some e/\
 ∃(n:Int),e[0]? =some (η (ν γ n))/\
 ((n == 2)=true->
 At (KF l o i.val) ([ω,θ,ε γ 0,av,aJ],[]))/\
 ((n == 2)=false->
 At (KF l o i.val) ([ω,θ,ε γ (zc (bc l (cj o i.val.fst).toNat) i.val.snd),av,aJ],[])))/\
 ∀(eU:{q:Nat // q=0/\
 pq l o i.val }),At (Dz l o i.val) ([ω,θ,aU,av,aJ,ε γ 0],[])/\
 ∀(fc:{j:Nat // j<=i.val.fst/\
 pq l o i.val/\
 ∀(x:Nat),x<j->
 ¬jc (bc l (cj o i.val.fst).toNat) (bc l (cj o x).toNat) }),let b_:=(↑fc.val:Int)<(↑i.val.fst:Int);let aN:=Nx (Dz l o i.val) fc ([ω,θ,aU,av,aJ,ε γ (γ.wrap ((↑fc.val:Int)+1))],[]);(decide (b_)=true->
 aA (cj o i.val.fst)/\
 ∃(e:List D),(ae bN l)[(cj o i.val.fst).toNat]? =some e/\
 ∃(n:Int),e[3]? =some (η (ν γ n))/\
 ((n != -1)=true->
 aA (cj o i.val.fst)/\
 ∃(e:List D),(ae bN l)[(cj o i.val.fst).toNat]? =some e/\
 ∃(n:Int),e[3]? =some (η (ν γ n))/\
 aA (↑fc.val:Int)/\
 ∃(e:List D),(ints γ o)[(↑fc.val:Int).toNat]? =some e/\
 ∃(n_1:Int),e[0]? =some (η (ν γ n_1))/\
 aA n_1/\
 ∃(e:List D),(ae bN l)[n_1.toNat]? =some e/\
 ∃(n_2:Int),e[2]? =some (η (ν γ n_2))/\
 (decide (n<n_2)=true->
 K (ο false) [])/\
 (decide (n<n_2)=false->
 aN))/\
 ((n != -1)=false->
 aN))/\
 (decide (b_)=false->
 Nx (KH l o) i ([ω,θ,aU,ε γ (γ.wrap ((↑i.val.fst:Int)+1))],[]))))))/\
 (decide (bM)=false->
 At (Dy l o) ([ω,θ,ε γ 0],[])/\
 ∀(i:{k:Nat // k<=l.length/\
 (∃(r:List Nat),o=nz r/\
 (sN l->
 nh l [] 0 r))/\
 ∀(x:Nat),x<k->
 ey (bc l x)/\
 ((bc l x).snd.snd.snd≠-1->
 (↑x:Int)∈o) }),let bQ:=(↑i.val:Int)<(↑(ae bN l).length:Int);let bD:=Nx (Dy l o) i ([ω,θ,ε γ (γ.wrap ((↑i.val:Int)+1))],[]);(decide (bQ)=true->
 aA (↑i.val:Int)/\
 ∃(e:List D),(ae bN l)[(↑i.val:Int).toNat]? =some e/\
 ∃(n:Int),e[0]? =some (η (ν γ n))/\
 ∃(n_1:Int),e[1]? =some (η (ν γ n_1))/\
 ∃(n_2:Int),e[2]? =some (η (ν γ n_2))/\
 ∃(dB:Int),e[3]? =some (η (ν γ dB))/\
 ((!decide (ey (n,n_1,n_2,dB)))=true->
 K (ο false) [])/\
 ((!decide (ey (n,n_1,n_2,dB)))=false->
 aA (↑i.val:Int)/\
 ∃(e:List D),(ae bN l)[(↑i.val:Int).toNat]? =some e/\
 ∃(n:Int),e[3]? =some (η (ν γ n))/\
 ((n != -1)=true->
 ∃(gf:List Int),ints γ o=ints γ gf/\
 gf.length.le 1000000/\
 ((!decide ((↑i.val:Int)∈gf))=true->
 K (ο false) [])/\
 ((!decide ((↑i.val:Int)∈gf))=false->
 bD))/\
 ((n != -1)=false->
 bD)))/\
 (decide (bQ)=false->
 K (ο true) []))
 ):aI Tryz.prog ql (UI l o 51) 51 [aC (.sl 4 (l.map bN)),aC (.sl 1 (ints γ o))] [] K:=by apply Eq.mp (a:=aq);kernel_rfl
theorem aiU (l:List Call) (K:V->KB->Prop) (aq:
 let ω:=aC (χ 4 (ae bN l));let θ:=K (au [ζ 0 0 0,ο false]) [ai 3 1 []];(decide ((↑(ae bN l).length:Int) > 14)=true->
 θ)/\
 (decide ((↑(ae bN l).length:Int) > 14)=false->
 At (Mf l) ([ω,ω,ε γ (↑(ae bN l).length:Int),ε γ 0],[])/\
 ∀(i:{i:Nat // i<=l.length/\
 ∀(k:Nat),k<i->
 ey (bc l k) }),(decide ((↑i.val:Int)<(↑l.length:Int))=true->
 aA (↑i.val:Int)/\
 ∃(e:List D),(ae bN l)[(↑i.val:Int).toNat]? =some e/\
 ∃(n:Int),e[0]? =some (η (ν γ n))/\
 ∃(n_1:Int),e[1]? =some (η (ν γ n_1))/\
 ∃(n_2:Int),e[2]? =some (η (ν γ n_2))/\
 ∃(dB:Int),e[3]? =some (η (ν γ dB))/\
 ((!decide (ey (n,n_1,n_2,dB)))=true->
 θ)/\
 ((!decide (ey (n,n_1,n_2,dB)))=false->
 Nx (Mf l) i ([ω,ω,ε γ (↑l.length:Int),ε γ (γ.wrap ((↑i.val:Int)+1))],[])))/\
 (decide ((↑i.val:Int)<(↑l.length:Int))=false->
 ∃(l_1:List Call),∃(m:Nat),∃(o:List Int),∃(t:List Int),0=(↑m:Int)/\
 ae bN l=ae bN l_1/\
 []=ints γ (o++t)/\
 0=o.length/\
 EC l_1 m 100000 [] o/\
 ∀(b:Bool) (M':ML) (o' t':List Int),EB l_1 m 0 [] o b M' o'->
 ((!b)=true->
 θ)/\
 ((!b)=false->
 K (au [ζ 0 0 o'.length,ο true]) [ai 3 1 (ints γ (o'++t'))])))
 ):aI Tryz.prog NV (Xb l 50) 50 [aC (.sl 4 (l.map bN))] [] (eX [.slot 0 3 1] (dp 0 K)):=by apply Eq.mp (a:=aq);kernel_rfl
theorem Ti {r s:List Nat} (h:nz r=nz s):r=s:=by
 induction r generalizing s with
 |nil=>cases s with
  |nil=>rfl
  |cons a s=>cases h
 |cons a r ih=>cases s with
  |nil=>cases h
  |cons b s=>
   simp only[kv,List.cons.injEq]at h
   rw[ih h.2,Int.ofNat.inj h.1]
theorem zd {r:List Nat} {k:Nat}:(k:Int)∈nz r ↔ k∈r:=by
 simp only[nz,dO]
 constructor
 ·rintro⟨a,h1,h2⟩;rwa [<- Int.ofNat.inj h2]
 ·intro h;exact⟨k,h,rfl⟩
theorem acr {r:List Nat} {n:Int} (h:n∈nz r):0<=n/\n.toNat∈r:=by
 simp only[nz,dO]at h
 obtain⟨a,h1,rfl⟩:=h
 exact⟨by omega,by simpa using h1⟩
theorem wC {o:List Int} {i:Nat} (h:i<o.length):o[i]? =some (cj o i):=by
 unfold cj;rw[gO,bu h];rfl
theorem agD {o:List Int} {i:Nat} (h:i<o.length):o.take (i+1)=o.take i++[cj o i]:=by
 rw[jt,wC h];rfl
theorem Ov {l:List Call} {n:Int} (h0:0<=n) (h:n<l.length):(l.map bN)[n.toNat]? =some (bN (bc l n.toNat)):=by
 have:=sV (l:=l) (i:=n.toNat) (by omega)
 rwa [cN]at this
theorem af1 {o:List Int} {rs r:List Nat} {i:Nat} (hi:i<o.length) (ho:o=nz rs) (hr:o.take i=nz r):∃(k:Nat) (s:List Nat),cj o i=k/\rs=r++k::s:=by
 subst ho
 have hl:i<rs.length:=by simpa using hi
 have e1:rs.take i=r:=Ti (by rw[<- hr];simp [nz])
 refine⟨rs[i],rs.drop (i+1),?_,?_⟩
 ·have h2:=wC hi
  simp only[nz,fy,bu hl,Option.map_some,bb.injEq]at h2
  exact h2.symm
 ·rw[<- e1,<- List.drop_eq_getElem_cons hl,List.take_append_drop]
structure XF (l:List Call) (r:List Nat) (k:Nat) (v:Int):Prop where
 lt:k<l.length
 new:k ∉ r
 un:¬ sA (bc l k)
 fit:jZ (bc l k) v
 ah:∀ j,j∈r->¬ jc (bc l k) (bc l j)
theorem DC {l:List Call} {o:List Int} {p:Nat×Int} (hp:vG l o p) (hi:p.1<o.length) (hw:uf l o):sN l/\∃(k:Nat) (r:List Nat),cj o p.1=k/\o.take p.1=nz r/\XF l r k p.2:=by
 obtain⟨rs,ho,h1,h2⟩:=hw
 have hall:sN l:=wU.2 fun k hk=>(h2 k hk).1
 obtain⟨r,hr,hlt,hrun⟩:=hp.run
 obtain⟨k,s,hk,hrs⟩:=af1 hi ho hr
 refine⟨hall,k,r,hk,hr,?_⟩
 have:=(hrun hall (k::s)).1 (hrs ▸ h1)
 obtain⟨a,b,c,d,e,f⟩:=this
 exact⟨a,b,c,d,e⟩
theorem ae7 {l:List Call} {o:List Int} {p:Nat×Int} (hp:vG l o p) (hc:pq l o p) (ha:∀ x,x<p.1->¬ jc (bc l (cj o p.1).toNat) (bc l (cj o x).toNat)):
  vG l o (p.1+1,kf (bc l (cj o p.1).toNat) p.2):=by
 obtain⟨r,hr,hlt,hrun⟩:=hp.run
 have hk:((cj o p.1).toNat:Int)=cj o p.1:=Int.toNat_of_nonneg hc.lo
 have hnew:(cj o p.1).toNat ∉ r:=fun h=>hc.new (by rw[hr,<- hk];exact zd.2 h)
 refine⟨by have:=hc.lt;simp only;omega,r++[(cj o p.1).toNat],?_,?_,fun hall s=>?_⟩
 ·rw[agD hc.lt,hr]
  simp only[nz,ja,kv,List.map_nil,hk]
 ·intro x hx
  rcases dz.1 hx with hx | hx
  ·exact hlt x hx
  ·rw[da]at hx;subst hx;have:=hc.hi;omega
 ·rw[dX]
  refine(hrun hall _).trans ⟨fun h=>h.2.2.2.2.2,fun h=>⟨by have:=hc.hi;omega,hnew,(hc.ok hall).1,(hc.ok hall).2,fun j hj=>?_,h⟩⟩
  have hj':(j:Int)∈o.take p.1:=by rw[hr];exact zd.2 hj
  obtain⟨x,hx,uJ⟩:=List.getElem_of_mem hj'
  have im:x<p.1:=by simp at hx;omega
  have Rw:x<o.length:=by have:=hc.lt;omega
  have:cj o x=j:=by
   have h1:=wC Rw
   rw[List.getElem_take]at uJ
   rw[bu Rw,uJ,bb.injEq]at h1
   exact h1.symm
  have:=ha x im
  rwa [‹cj o x=j›,cN]at this
theorem adH:aO Tryz.prog 51 Fa:=eC vP mixed (fun args kb K h=>by
 unfold Fa at h;split at h<;>try exact h.elim
 obtain⟨l,o,rfl,rfl,⟨yI,hl2⟩,h⟩:=h
 have no:¬ uf l o->K (ο false) []:=fun hn=>h false ⟨fun f=>(by cases f),fun w=>absurd w hn⟩
 refine⟨UI l o 51,ain l o K ⟨At.mk' ⟨(0,0),bj _,[],by simp,by simp,fun _ s=>Iff.rfl⟩ rfl,?_⟩⟩
 rintro⟨⟨i,v⟩,hp⟩
 have hi:=hp.le
 simp only at hi
 simp only[bi,bT,decide_eq_true_eq,decide_eq_false_iff_not]
 refine⟨fun hc=>?_,fun hc=>⟨?_,?_⟩⟩
 ·have tr:i<o.length:=by omega
  have pK:∀ w:uf l o,0<=cj o i/\cj o i<l.length/\cj o i ∉ o.take i:=fun w=>by
   obtain⟨_,k,r,h1,h2,h3⟩:=DC hp tr w
   have:=h3.lt
   simp only at h1 h2
   exact⟨by omega,by omega,by rw[h2,h1];exact fun h=>h3.new (zd.1 h)⟩
  refine⟨by unfold aA;omega,[η (.int γ (cj o i))],by rw[cN,kY,wC tr];rfl,cj o i,rfl,fun hn=>no fun w=>by have:=pK w;omega,fun hn=>⟨fun hn2=>no fun w=>by have:=pK w;omega,fun hn2=>?_⟩⟩
  have hlo:0<=cj o i:=by omega
  have hhi:cj o i<l.length:=by omega
  have hg:=Ov hlo hhi
  refine⟨trivial,by unfold aA;omega,bj _,by omega,o.take i,by rw[cN,iD,oX],?_,fun hm=>no fun w=>(pK w).2.2 hm,fun hm=>⟨?_,?_⟩⟩
  ·show(o.take i).length<=_
   rw[cW];omega
  ·have cu:(sN l->¬ sA (bc l (cj o i).toNat)/\jZ (bc l (cj o i).toNat) v)->pq l o (i,v):=fun h=>⟨tr,hlo,hhi,hm,h⟩
   refine⟨hlo,_,hg,(bc l (cj o i).toNat).1,rfl,fun h3=>?_,fun h3=>?_⟩
   ·simp only[beq_iff_eq]at h3
    refine⟨hlo,_,hg,(bc l (cj o i).toNat).2.2.2,rfl,fun h4=>no fun w=>?_,fun h4=>⟨hlo,_,hg,(bc l (cj o i).toNat).2.1,rfl,fun h5=>no fun w=>?_,fun h5=>?_⟩⟩
    ·obtain⟨_,k,r,h1,h2,hck⟩:=DC hp tr w
     simp only[beq_iff_eq]at h4 h1
     rw[h1,cN]at h3 h4
     exact hck.un ⟨h3,h4⟩
    ·obtain⟨_,k,r,h1,h2,hck⟩:=DC hp tr w
     simp only[bne_iff_ne,ne_eq]at h5 h1
     rw[h1,cN]at h3 h5
     have:=hck.fit
     unfold jZ at this
     simp only at this
     omega
    ·simp only[beq_eq_false_iff_ne,ne_eq,bne_eq_false_iff_eq]at h4 h5
     exact At.mk' ⟨0,rfl,cu fun _=>⟨fun hu=>h4 hu.2,.inr (.inr h5)⟩⟩ rfl
   ·simp only[beq_eq_false_iff_ne,ne_eq]at h3
    refine At.mk' ⟨0,rfl,cu fun hall=>⟨fun hu=>h3 hu.1,?_⟩⟩ rfl
    have:=wU.1 hall (cj o i).toNat (by omega)
    unfold ey at this;unfold jZ;omega
  rintro⟨q,rfl,mg⟩
  refine⟨⟨hlo,_,hg,(bc l (cj o i).toNat).1,rfl,fun h3=>⟨hlo,_,hg,(bc l (cj o i).toNat).2.1,rfl,?_⟩,fun h3=>?_⟩,?_⟩
  ·simp only[beq_iff_eq]at h3
   exact At.mk' ⟨0,rfl,mg⟩ (by simp only[zc,if_pos h3])
  ·simp only[beq_eq_false_iff_ne,ne_eq]at h3
   exact At.mk' ⟨0,rfl,mg⟩ (by simp only[zc,if_neg h3])
  rintro⟨q,rfl,_⟩
  refine⟨⟨hlo,_,hg,(bc l (cj o i).toNat).1,rfl,fun h3=>?_,fun h3=>?_⟩,?_⟩
  ·simp only[beq_iff_eq]at h3
   exact At.mk' ⟨0,rfl,mg⟩ (by simp only[kf,if_pos h3,if_neg (show ¬ (bc l (cj o i).toNat).1=1 by omega)])
  ·simp only[beq_eq_false_iff_ne,ne_eq]at h3
   exact At.mk' ⟨0,rfl,mg⟩ (by simp only[kf,zc,if_neg h3])
  rintro⟨q,rfl,_⟩
  refine⟨At.mk' ⟨0,bj _,mg,fun x hx=>absurd hx (Nat.not_lt_zero _)⟩ rfl,?_⟩
  rintro⟨j,hj,_,H9⟩
  refine⟨fun hji=>?_,fun hji=>?_⟩
  ·have ajg:j<i:=Int.ofNat_lt.1 hji
   have It:j<o.length:=by omega
   obtain⟨r,hr,hlt,hrun⟩:=hp.run
   have hjm:cj o j∈nz r:=by
    rw[<- hr]
    have h1:=wC It
    rw[bu It,bb.injEq]at h1
    rw[<- h1]
    exact List.mem_take_iff_getElem.2 ⟨j,by first | omega | (simp;omega),by first | rfl | simp⟩
   obtain⟨hj0,Ce⟩:=acr hjm
   have hjl:=hlt _ Ce
   have nx:¬ jc (bc l (cj o i).toNat) (bc l (cj o j).toNat)->Nx (Dz l o (i,v)) ⟨j,hj,mg,H9⟩ ([aC (χ 4 (l.map bN)),aC (χ 1 (ints γ o)),ε γ (kf (bc l (cj o i).toNat) v),ε γ (i:Int),ε γ (cj o i),ε γ (γ.wrap ((j:Int)+1))],[]):=fun hn=>by
    rw[bE (by omega) (by omega)]
    refine Nx.mk' (⟨j+1,by simp only;omega,mg,fun x hx=>?_⟩:{j:Nat // j<=(i,v).1/\pq l o (i,v)/\∀ x,x<j->¬ jc (bc l (cj o (i,v).1).toNat) (bc l (cj o x).toNat)}) rfl (by show i - (j+1)<i - j;omega)
    by_cases hxj:x=j
    ·subst hxj;exact hn
    ·exact H9 x (by omega)
   refine⟨hlo,_,hg,(bc l (cj o i).toNat).2.2.2,rfl,fun h4=>?_,fun h4=>?_⟩
   ·simp only[bne_iff_ne,ne_eq]at h4
    refine⟨hlo,_,hg,(bc l (cj o i).toNat).2.2.2,rfl,by unfold aA;omega,[η (.int γ (cj o j))],by rw[cN,kY,wC It];rfl,cj o j,rfl,hj0,_,Ov hj0 (by omega),(bc l (cj o j).toNat).2.2.1,rfl,fun h5=>no fun w=>?_,fun h5=>?_⟩
    ·obtain⟨_,k,r',h1,h2,hck⟩:=DC hp tr w
     simp only at h1 h2
     rw[hr]at h2
     have:=Ti h2
     subst this
     have:=hck.ah _ Ce
     rw[h1,cN]at h4 h5
     exact this ⟨h4,h5⟩
    ·exact nx fun ha=>h5 ha.2
   ·simp only[bne_eq_false_iff_eq]at h4
    exact nx fun ha=>ha.1 h4
  ·have ajh:¬ (j:Int)<i:=hji
   have:j=i:=by have:j<=i:=hj;omega
   subst this
   rw[bE (by omega) (by omega)]
   exact Nx.mk' (⟨(j+1,kf (bc l (cj o j).toNat) v),ae7 hp mg H9⟩:{p:Nat×Int // vG l o p}) rfl (by show o.length - (j+1)<o.length - j;omega)
 ·have tr:i=o.length:=by omega
  subst tr
  obtain⟨r,hr,hlt,hrun⟩:=hp.run
  rw[cQ]at hr
  refine At.mk' ⟨0,bj _,⟨r,hr,fun hall=>?_⟩,fun x hx=>absurd hx (Nat.not_lt_zero _)⟩ rfl
  have:=(hrun hall []).2 trivial
  rwa [gz]at this
 ·rintro⟨k,hk,hr,hok⟩
  have nx:k<l.length->ey (bc l k)->((bc l k).2.2.2≠-1->(k:Int)∈o)->Nx (Dy l o) ⟨k,hk,hr,hok⟩ ([aC (χ 4 (l.map bN)),aC (χ 1 (ints γ o)),ε γ (γ.wrap ((k:Int)+1))],[]):=fun hlt h1 h2=>by
   rw[bE (by omega) (by omega)]
   refine Nx.mk' (⟨k+1,by omega,hr,fun x hx=>?_⟩:{k:Nat // k<=l.length/\(∃ r:List Nat,o=nz r/\(sN l->nh l [] 0 r))/\∀ x,x<k->ey (bc l x)/\((bc l x).2.2.2≠-1->(x:Int)∈o)}) rfl (by show l.length - (k+1)<l.length - k;omega)
   by_cases hxk:x=k
   ·subst hxk;exact⟨h1,h2⟩
   ·exact hok x (by omega)
  have wk:uf l o->k<l.length->ey (bc l k)/\((bc l k).2.2.2≠-1->(k:Int)∈o):=by
   rintro⟨rs,rfl,_,QP⟩ hlt
   exact⟨(QP k hlt).1,fun he=>zd.2 ((QP k hlt).2 he)⟩
  refine⟨fun fI=>?_,fun fI=>?_⟩
  ·have hlt:k<l.length:=Int.ofNat_lt.1 fI
   refine⟨by unfold aA;omega,_,sV hlt,(bc l k).1,rfl,(bc l k).2.1,rfl,(bc l k).2.2.1,rfl,(bc l k).2.2.2,rfl,fun h1=>no fun w=>?_,fun h1=>⟨by unfold aA;omega,_,sV hlt,(bc l k).2.2.2,rfl,fun h2=>⟨o,rfl,?_,fun h3=>no fun w=>?_,fun h3=>?_⟩,fun h2=>?_⟩⟩
   ·simp only[mA,decide_eq_false_iff_not]at h1
    exact h1 (wk w hlt).1
   ·show o.length<=_
    omega
   ·simp only[mA,decide_eq_false_iff_not,bne_iff_ne,ne_eq]at h2 h3
    exact h3 ((wk w hlt).2 h2)
   ·simp only[kr,decide_eq_true_eq,bne_iff_ne,ne_eq]at h1 h2 h3
    exact nx hlt h1 fun _=>h3
   ·simp only[kr,decide_eq_true_eq,bne_eq_false_iff_eq]at h1 h2
    exact nx hlt h1 fun f=>absurd h2 f
  ·have:k=l.length:=by have hc3:¬ (k:Int)<l.length:=fI;omega
   subst this
   obtain⟨r,rfl,hrun⟩:=hr
   exact h true ⟨fun _=>⟨r,rfl,hrun (wU.2 fun x hx=>(hok x hx).1),fun x hx=>⟨(hok x hx).1,fun he=>zd.1 ((hok x hx).2 he)⟩⟩,fun _=>rfl⟩)
theorem U4 {l:List Call}:∀{s p:List Nat} {v:Int},nh l p v s->∀ x∈s,x ∉ p
 |k::s,p,v,h,x,hx=>by
  obtain⟨a,b,c,d,e,f⟩:=h
  rcases dS.1 hx with rfl | hx
  ·exact b
  ·exact fun hp=>U4 f x hx (gQ _ hp)
theorem U5 {l:List Call}:∀{s p:List Nat} {v:Int},nh l p v s->s.Nodup
 | [],_,_,_=>List.nodup_nil
 |k::s,p,v,h=>by
  obtain⟨a,b,c,d,e,f⟩:=h
  exact List.nodup_cons.2 ⟨fun hk=>U4 f k hk (by simp),U5 f⟩
theorem JO:∀{n:Nat} {r:List Nat},r.Nodup->(∀ x∈r,x<n)->r.length<=n
 | 0,r,_,h=>by
  cases r with
  |nil=>simp
  |cons a r=>exact absurd (h a (by simp)) (Nat.not_lt_zero _)
 |n+1,r,hn,h=>by
  by_cases hm:n∈r
  ·have h1:=JO (n:=n) (hn.erase n) (fun x hx=>by
    have:=(List.Nodup.mem_erase_iff hn).1 hx
    have:=h x this.2
    omega)
   rw[List.length_erase_of_mem hm]at h1
   omega
  ·have:=JO (n:=n) hn (fun x hx=>by
    have h1:=h x hx
    have h2:x≠n:=fun e=>hm (e ▸ hx)
    omega)
   omega
theorem ai7:dD Tryz.prog Mg:=fun f k h=>by
 unfold Mg at h
 split at h
 ·cases h;exact C8 (Tw _) _
 ·exact zy _ _ h
theorem Yx:cx Tryz.prog NV:=dP mixed ai7 aG 10
theorem ad1:aO Tryz.prog 50 FB:=my Yx mixed [.slot 0 3 1] (fun args kb K h=>by
 unfold FB at h;split at h<;>try exact h.elim
 obtain⟨l,rfl,hl,h⟩:=h
 refine⟨Xb l 50,aiU l K ?_⟩
 simp only[bT,decide_eq_true_eq,decide_eq_false_iff_not]
 refine⟨fun hc=>?_,fun hc=>⟨At.mk' ⟨0,bj _,fun x hx=>absurd hx (Nat.not_lt_zero _)⟩ rfl,?_⟩⟩
 ·exact h false [] [] ⟨fun f=>(by cases f),fun _=>⟨rfl,.inl (by omega)⟩⟩
 rintro⟨i,hi,hok⟩
 simp only
 refine⟨fun fI=>?_,fun fI=>?_⟩
 ·have hlt:i<l.length:=by omega
  refine⟨by unfold aA;omega,_,sV hlt,(bc l i).1,rfl,(bc l i).2.1,rfl,(bc l i).2.2.1,rfl,(bc l i).2.2.2,rfl,fun h1=>?_,fun h1=>?_⟩
  ·simp only[mA,decide_eq_false_iff_not]at h1
   exact h false [] [] ⟨fun f=>(by cases f),fun _=>⟨rfl,.inr fun⟨r,hr⟩=>h1 (hr.2 i hlt).1⟩⟩
  ·simp only[kr,decide_eq_true_eq]at h1
   rw[bE (by omega) (by omega)]
   refine Nx.mk' (⟨i+1,by omega,fun x hx=>?_⟩:{i:Nat // i<=l.length/\∀ k,k<i->ey (bc l k)}) rfl (by show l.length - (i+1)<l.length - i;omega)
   by_cases hxi:x=i
   ·subst hxi;exact h1
   ·exact hok x (by omega)
 ·have:i=l.length:=by omega
  subst this
  have hall:∀ c∈l,ey c:=wU.2 hok
  refine⟨l,0,[],[],rfl,rfl,rfl,rfl,⟨by omega,ar _,Nat.pow_pos (by decide),?_,⟨fun e he=>(by cases he)⟩⟩,fun b M' o' t' hpost=>⟨fun hb=>?_,fun hb=>?_⟩⟩
  ·have:2 ^ l.length<=2 ^ 14:=Nat.pow_le_pow_right (by decide) (by omega)
   omega
  ·simp only[mA]at hb
   obtain⟨h1,h2,h3⟩:=hpost.f hb
   exact h false [] [] ⟨fun f=>(by cases f),fun _=>⟨rfl,.inr fun⟨r,hr⟩=>h2 ⟨r,(Xc.1 hr).2⟩⟩⟩
  ·simp only[kr]at hb
   obtain⟨r,h1,h2⟩:=hpost.t hb
   rw[jr]at h1
   exact h true o' t' ⟨fun _=>⟨r,h1,Xc.2 ⟨hall,h2⟩⟩,fun f=>(by cases f)⟩)
end Go.Proofs.YtfcjngcnifdmnaaGreat.Hy
namespace Go.Proofs.YtfcjngcnifdmnaaGreat
open Vc Go
open Go.IntKind renaming i64->γ,u8->ξ,u32->iM
open Vc.V renaming any->δ,int->ε,sl->ζ,sb->ο,ptr->aj,φ->au,dat->aC,aa->aR,mp->aY,arr->bF,agg->fz
open Vc.D renaming val->η,sl->χ
open Go.Value renaming int->ν,map->kT,bool->mG,oneCell'->mH
open List renaming map->ae,drop->ax,take->ay,length_append->bn,getElem?_eq_getElem->bu,getElem?_eq_some_iff->bH,length_map->bT,take_length->cQ,length_take->cW,mem_singleton->da,replicate->dv,mem_append->dz,mem_map->dO,mem_cons->dS,Mem->dW,append_assoc->dX,getElem?_append_left->dY,take_of_length_le->eQ,getElem?_append_right->fk,getElem?_map->fy,mem_of_getElem?->fF,length_drop->gm,mem_cons_of_mem->gn,append_nil->gz,length_cons->gA,getD_eq_getElem?_getD->gO,getElem?_set_ne->gP,mem_append_left->gQ,length_singleton->gZ,drop_zero->iD,getElem?_eq_none->iE,getElem?_take_of_lt->iF,length_set->iG,getElem?_set_self->iN,mem_cons_self->iV,map_append->ja,range->jb,nil_append->jr,take_add_one->jt,flatten_cons->jF,getElem?_of_mem->jG,getElem?_drop->jW,map_cons->kv,length_nil->kP,mem_append_right->kQ,mem_filter->lu,ext_getElem?->mb,eq_nil_of_length_eq_zero->mD
open Vc.KO renaming row->ai,dead->aw,cells->aB,objs->fE
open Nat renaming le_refl->ar,zero_le->bj,beq->cX,zero_add->c9,eq_of_beq_eq_true->de,add_assoc->g_,lor->iW,lt_or_ge->kx,sub_zero->ly,le_trans->mc
open Option renaming some->bb,bind_eq_some_iff->lO,map->ng
open Int renaming toNat_natCast->cN,le_refl->dE
open Bool renaming and_eq_true->jo,not_eq_false'->kr,not_eq_true'->mA
set_option linter.unusedVariables false
set_option linter.unusedSimpArgs false
set_option maxRecDepth 100000
set_option maxHeartbeats 2000000
abbrev ad6 (w:Wd) (q:List (Nat×Nat)) (A:List (Sg×KB)):LI where
 α:={i:Nat // i<=2}
 live:=[0,3]
 dT:=eu
 st i:=([aj 0 0,.int γ (i.1:Int)],bR w q A)
 μ i:=2 - i.1
def gH (w:Wd) (b i:Nat):List (List D):=((eS (b:Int) (w.cs.take i)).map nj).map Hy.bN
abbrev wV (w:Wd) (q:List (Nat×Nat)) (A:List (Sg×KB)) (b:Nat):LI where
 α:={i:Nat // i<=w.cs.length}
 live:=[0,3,4,5]
 dT:=eu++[.slot 2 59 4]
 st i:=([aj 0 0,.int γ (b:Int),.sl 14 0 (gH w b i.1).length,.int γ (i.1:Int)],bR w q A++[ai 59 4 (gH w b i.1)])
 μ i:=w.cs.length - i.1
def ad9 (w:Wd) (q:List (Nat×Nat)) (A:List (Sg×KB)) (b:Nat):Nat->Option LI
 | 6=>some (wV w q A b)
 |_=>none
abbrev Ke (w:Wd) (q:List (Nat×Nat)) (A:List (Sg×KB)):LI:={ad6 w q A with sub:=fun i=>ad9 w q A i.1 }
def TR (w:Wd) (q:List (Nat×Nat)) (A:List (Sg×KB)):FuncId->Nat->Option LI
 | 19,2=>some (Ke w q A)
 |_,_=>none
def Kf:FuncId->Option du
 | 50=>some ⟨[.fL 4],Hy.FB⟩
 | 51=>some ⟨[.fL 4,.fL 1],Hy.Fa⟩
 |_=>none
noncomputable def NN:cd:=dM Tryz.prog Kf aG 10
theorem ah_ (w:Wd) (q:List (Nat×Nat)) (A:List (Sg×KB)) (K:V->KB->Prop) (aq:
 let b_:=ai 30 1 (ae eB q);let bQ:=ai 49 5 (ae eY w.vs);let bM:=ai 23 1 (ae bO w.dk);let bD:=ai 61 10 (ae cL w.cs);let bp:=ai 73 3 (ae dG w.ψ);let aN:=ai 3 1 (ints γ w.bt);let ω:=aB [ζ 8 0 w.R.length,ζ 9 0 w.dk.length,ζ 10 0 w.vs.length,ζ 11 0 w.ψ.length,ζ 12 0 w.cs.length,ζ 13 0 w.bt.length,ε γ w.now,ο w.ok];At (Ke w q A) ([aj 0 0,ε γ 0],(bR w q A))/\
 ∀(i:{i:Nat // i<=2 }),let aU:=ε γ (↑i.val:Int);(decide ((↑i.val:Int)<2)=true->
 At (wV w q A i.val) ([aj 0 0,aU,ζ 14 0 0,ε γ 0],[ω,aw,aw,aw,aw,aw,aw,fE A,b_,bM,bQ,bp,bD,aN,ai 59 4 []])/\
 ∀(i_1:{i:Nat // i<=w.cs.length }),let eP:=(↑i_1.val:Int)<(↑(w.cs.length - 0):Int);let bW:=ε γ (γ.wrap ((↑i_1.val:Int)+1));let aJ:=(ay (gH w i.val i_1.val).length (gH w i.val i_1.val));let av:=(gH w i.val i_1.val).length<=(gH w i.val i_1.val).length;let θ:=Nx (wV w q A i.val) i_1 ([aj 0 0,aU,ζ 14 0 (gH w i.val i_1.val).length,bW],[ω,aw,aw,aw,aw,aw,aw,fE A,b_,bM,bQ,bp,bD,aN,ai 59 4 (gH w i.val i_1.val)]);(decide (eP)=true->
 br (↑i_1.val:Int) (w.cs.length - 0)/\
 ∃(e:List D),(ae cL w.cs)[0+(↑i_1.val:Int).toNat]? =some e/\
 ∃(n:Int),e[3]? =some (η (ν γ n))/\
 ((n == (↑i.val:Int))=true->
 br (↑i_1.val:Int) (w.cs.length - 0)/\
 ∃(e:List D),(ae cL w.cs)[0+(↑i_1.val:Int).toNat]? =some e/\
 ∃(n:Int),e[2]? =some (η (ν γ n))/\
 ((n != 4)=true->
 br (↑i_1.val:Int) (w.cs.length - 0)/\
 ∃(e:List D),(ae cL w.cs)[0+(↑i_1.val:Int).toNat]? =some e/\
 ∃(n:Int),e[5]? =some (η (ν γ n))/\
 ∃(n_1:Int),e[6]? =some (η (ν γ n_1))/\
 ∃(n_2:Int),e[7]? =some (η (ν γ n_2))/\
 ∃(dB:Int),e[8]? =some (η (ν γ dB))/\
 1<=1/\
 av/\
 ((gH w i.val i_1.val).length+1)*32<=140737488355328/\
 Nx (wV w q A i.val) i_1 ([aj 0 0,aU,ζ 14 0 ((gH w i.val i_1.val).length+1),bW],[ω,aw,aw,aw,aw,aw,aw,fE A,b_,bM,bQ,bp,bD,aN,ai 59 4 (ay (gH w i.val i_1.val).length (gH w i.val i_1.val)++[[η (ν γ n),η (ν γ n_1),η (ν γ n_2),η (ν γ dB)]])]))/\
 ((n != 4)=false->
 θ))/\
 ((n == (↑i.val:Int))=false->
 θ))/\
 (decide (eP)=false->
 (av/\
 True)/\
 ∃(l:List Hy.Call),ax 0 aJ=ae Hy.bN l/\
 l.length<=1000/\
 ∀(b:Bool) (o t:List Int),let cI:=(ints γ (o++t));Hy.Nr l b o->
 oM cI.flatten/\
 ((!b)=true->
 K (ο false) (bR w q A))/\
 ((!b)=false->
 (av/\
 o.length<=cI.length/\
 True)/\
 ∃(l:List Hy.Call),∃(gf:List Int),ax 0 aJ=ae Hy.bN l/\
 ax 0 (ay o.length cI)=ints γ gf/\
 Hy.M5 l gf/\
 ∀(b:Bool),(b=true ↔ Hy.uf l gf)->
 True/\
 ((!b)=true->
 K (ο false) (bR w q A))/\
 ((!b)=false->
 Nx (Ke w q A) i ([aj 0 0,ε γ (γ.wrap ((↑i.val:Int)+1))],(bR w q A))))))/\
 (decide ((↑i.val:Int)<2)=false->
 K (ο true) (bR w q A))
 ):aI Tryz.prog NN (TR w q A 19) 19 [aj 0 0] (dx w q A) (eX eu (dp 8 K)):=by apply Eq.mp (a:=aq);kernel_rfl
theorem ad8:dD Tryz.prog Kf:=fun f k h=>by
 unfold Kf at h
 split at h
 ·cases h;exact Hy.ad1
 ·cases h;exact Hy.adH
 ·cases h
theorem Yp:cx Tryz.prog NN:=dP mixed ad8 aG 10
structure EN (w:Wd):Prop where
 cl:w.cs.length<=13
 wt:∀ bk:Nat,bk<2->∃ r,Hy.xS ((eS (bk:Int) w.cs).map nj) r
def MN:List V->Wd->(V->Wd->Prop)->Prop:=fun rest w k=>jI rest/\EN w/\k (ο true) w
theorem TQ {w:Wd} {b i:Nat} (h:i<w.cs.length):gH w b (i+1)=gH w b i++(if ni (b:Int) w.cs[i]=true then[Hy.bN (nj w.cs[i])]else[]):=by
 unfold gH eS
 rw[jt,bu h,List.filter_append,ja,ja]
 congr 1
 show ae Hy.bN (ae nj ([w.cs[i]].filter (ni (b:Int))))=_
 rw[List.filter_cons]
 split<;>rfl
theorem ad7 (w:Wd) (b i:Nat):(gH w b i).length<=w.cs.length:=by
 unfold gH eS
 rw[bT,bT]
 exact mc (List.length_filter_le ..) (by rw[cW];omega)
theorem adh:aO Tryz.prog 19 (WM MN):=my Yp mixed eu (fun args kb K h=>by
 unfold WM at h;split at h<;>try exact h.elim
 obtain⟨w,q,A,⟨rfl⟩,hp,⟨rfl⟩,hc,h⟩:=h
 have hK:=h q A hp
 refine⟨TR w q A 19,?_⟩
 show aI _ _ _ _ _ _ (eX eu (dp 8 K))
 apply ah_ w q A K
 have hcl:=hc.cl
 dsimp only
 refine⟨At.mk' (⟨0,bj _⟩:{i:Nat // i<=2}) rfl,?_⟩
 rintro⟨b,hb⟩
 dsimp only
 refine⟨fun hlt=>⟨At.mk' (⟨0,bj _⟩:{i:Nat // i<=w.cs.length}) rfl,?_⟩,fun _=>hK⟩
 have fR:b<2:=by rw[decide_eq_true_eq]at hlt;omega
 rintro⟨i,hi⟩
 dsimp only
 have hrl:=ad7 w b i
 refine⟨fun hlt=>?_,fun hge=>?_⟩
 ·have hlt:i<w.cs.length:=by rw[decide_eq_true_eq]at hlt;omega
  have hin:br (i:Int) (w.cs.length - 0):=by unfold br;omega
  have hg:(w.cs.map cL)[0+(i:Int).toNat]? =some (cL w.cs[i]):=by rw[c9,cN,fy,bu hlt];rfl
  have ew:γ.wrap ((i:Int)+1)=((i+1:Nat):Int):=by rw[bE (by omega) (by omega)];omega
  have no:ni (b:Int) w.cs[i]=false->gH w b (i+1)=gH w b i:=fun t=>by rw[TQ hlt,t];simp
  rw[ew]
  have Th:ni (b:Int) w.cs[i]=false->∀ s,s=(wV w q A b).st ⟨i+1,hlt⟩->Nx (wV w q A b) ⟨i,hi⟩ s:=fun _ s hs=>Nx.mk' (⟨i+1,hlt⟩:{i:Nat // i<=w.cs.length}) hs (by show w.cs.length - (i+1)<w.cs.length - i;omega)
  refine⟨hin,_,hg,_,rfl,fun h1=>⟨hin,_,hg,_,rfl,fun h2=>⟨hin,_,hg,_,rfl,_,rfl,_,rfl,_,rfl,ar _,ar _,by omega,?_⟩,fun h2=>?_⟩,fun h1=>?_⟩
  ·have ht:ni (b:Int) w.cs[i]=true:=by
    unfold ni
    rw[decide_eq_true_eq]
    exact⟨by simpa using h1,by simpa using h2⟩
   refine Nx.mk' (⟨i+1,hlt⟩:{i:Nat // i<=w.cs.length}) ?_ (by show w.cs.length - (i+1)<w.cs.length - i;omega)
   have e1:gH w b (i+1)=gH w b i++[Hy.bN (nj w.cs[i])]:=by rw[TQ hlt,if_pos ht]
   show _=([_,_,ζ 14 0 (gH w b (i+1)).length,_],bR w q A++[ai 59 4 (gH w b (i+1))])
   rw[e1,bn,eQ (ar _)]
   rfl
  ·have ht:ni (b:Int) w.cs[i]=false:=by
    unfold ni
    rw[decide_eq_false_iff_not]
    exact fun t=>t.2 (by simpa using h2)
   refine Th ht _ ?_
   show _=([_,_,ζ 14 0 (gH w b (i+1)).length,_],bR w q A++[ai 59 4 (gH w b (i+1))])
   rw[no ht];rfl
  ·have ht:ni (b:Int) w.cs[i]=false:=by
    unfold ni
    rw[decide_eq_false_iff_not]
    exact fun t=>(by simpa using h1:¬ w.cs[i].o.bk=(b:Int)) t.1
   refine Th ht _ ?_
   show _=([_,_,ζ 14 0 (gH w b (i+1)).length,_],bR w q A++[ai 59 4 (gH w b (i+1))])
   rw[no ht];rfl
 ·have Ir:i=w.cs.length:=by rw[decide_eq_false_iff_not]at hge;omega
  subst Ir
  have er:gH w b w.cs.length=((eS (b:Int) w.cs).map nj).map Hy.bN:=by unfold gH;rw[cQ]
  have ed:ax 0 (ay (gH w b w.cs.length).length (gH w b w.cs.length))=((eS (b:Int) w.cs).map nj).map Hy.bN:=by rw[iD,cQ,er]
  have aji:((eS (b:Int) w.cs).map nj).length<=13:=by
   rw[bT];exact mc (List.length_filter_le ..) hcl
  refine⟨⟨ar _,trivial⟩,_,ed,by omega,fun f o t hw=>⟨?_,fun hf=>?_,fun hf=>?_⟩⟩
  ·exact⟨o9⟩
  ·have hf:f=false:=by simpa using hf
   rcases(hw.f hf).2 with q | q
   ·omega
   ·exact absurd (hc.wt b fR) q
  ·have hf:f=true:=by simpa using hf
   have kG:=hw.t hf
   have fK:o.length<=1000:=by
    obtain⟨r,rfl,hr⟩:=kG
    have:=Hy.JO (Hy.U5 hr.1) (fun x hx=>Hy.U2 hr.1 x hx)
    unfold Hy.nz
    rw[bT]
    omega
   refine⟨⟨ar _,by rw[bi,bn];omega,trivial⟩,_,o,ed,?_,⟨by omega,by omega⟩,fun g hg=>⟨trivial,fun q=>?_,fun _=>?_⟩⟩
   ·rw[iD,pR,List.take_append_of_le_length (by rw[bi];exact ar _),eQ (by rw[bi];exact ar _)]
   ·have:=hg.2 kG;rw[this]at q;cases q
   ·refine Nx.mk' (⟨b+1,fR⟩:{i:Nat // i<=2}) ?_ (by show 2 - (b+1)<2 - b;omega)
    rw[bE (by omega) (by omega)]
    rfl)
abbrev Je (l:List Sp) (n:Int):LI where
 α:={x:kA // Ak l x}
 live:=[0,1,5,6]
 st x:=([aC (.sl 5 (l.map nP)),.int γ n,aj 0 0,.int γ (x.1.i:Int)],dx x.1.W x.1.q x.1.A)
 μ x:=l.length - x.1.i
abbrev Sh (Z:Wd) (n:Int):LI where
 α:={x:PA // jK Z x}
 live:=[1,5]
 dT:=[.cell 0 3 73 3]
 st x:=([.int γ n,aj 0 0],dx Z x.1.q x.1.A)
 μ x:=0
abbrev Si (Z:Wd) (v:Vw) (n:Int):LI where
 α:={x:px // FJ Z v x}
 live:=[1,5,7]
 dT:=[.pQ 2]
 st x:=([.int γ n,aj 0 0,.dm x.1.e 0],dx Z x.1.q x.1.A)
 μ x:=0
abbrev Jf (Z:Wd) (v:Vw) (n:Int):LI where
 α:={x:xT // Bg Z v x}
 live:=[1,5,7,8]
 st x:=([.int γ n,aj 0 0,.dm x.1.e 0,.int γ (x.1.i:Int)],dx (fN v Z x.1.i) x.1.q x.1.A)
 μ x:=4 - x.1.i
abbrev wJ (F:Wd) (n d:Int):LI where
 α:={x:PA // jK F x}
 live:=[1,5,9]
 st x:=([.int γ n,aj 0 0,.int γ d],dx F x.1.q x.1.A)
 μ x:=0
abbrev Sj (F:Wd) (n d:Int):LI where
 α:={x:PA // jK F x}
 live:=[1,5,9,10,11]
 st x:=([.int γ n,aj 0 0,.int γ d,ο true,ο true],dx F x.1.q x.1.A)
 μ x:=0
abbrev Sk (F:Wd) (n d c:Int):LI where
 α:={x:PA // jK F x}
 live:=[1,5,9,13]
 st x:=([.int γ n,aj 0 0,.int γ d,.int γ c],dx F x.1.q x.1.A)
 μ x:=0
structure vN (F:Wd) (o:Op) (x:px):Prop where
 e:x.e=bo o
 p:PW x.A x.q F.R
abbrev Sl (F:Wd) (o:Op) (d c:Int):LI where
 α:={x:px // vN F o x}
 live:=[5,9,13,14]
 dT:=[.sY 1 4 1,.pQ 3]
 st x:=([aj 0 0,.int γ d,.int γ c,.dm x.1.e 0],dx F x.1.q x.1.A)
 μ x:=0
abbrev Sn (F:Wd) (o:Op) (d c:Int):LI where
 α:={x:px // vN F o x}
 live:=[5,9,13,14]
 st x:=([aj 0 0,.int γ d,.int γ c,.dm x.1.e 0],dx F x.1.q x.1.A)
 μ x:=0
abbrev Sq (F:Wd) (d c:Int):LI where
 α:={x:PA // jK F x}
 live:=[5,9,13,15]
 st x:=([aj 0 0,.int γ d,.int γ c,.int γ 0],dx F x.1.q x.1.A)
 μ x:=0
abbrev Sr (F:Wd) (c:Int):LI where
 α:={x:PA // jK F x}
 live:=[5,13,15]
 st x:=([aj 0 0,.int γ c,.int γ 0],dx F x.1.q x.1.A)
 μ x:=0
def lvT (l:List Sp) (Z F2 F3 F4 F5 F6:Wd) (v:Vw) (n d c:Int) (o:Op):FuncId->Nat->Option LI
 | 6,7=>some (Je l n)
 | 6,1011=>some (Sh Z n)
 | 6,1012=>some (Si Z v n)
 | 6,13=>some (Jf Z v n)
 | 6,1018=>some (wJ (fN v Z 4) n d)
 | 6,1019=>some (wJ F2 n d)
 | 6,1020=>some (Sj F2 n d)
 | 6,1022=>some (wJ F2 n d)
 | 6,1024=>some (Sk F3 n d c)
 | 6,1025=>some (Sl F3 o d c)
 | 6,1026=>some (Sn F4 o d c)
 | 6,1027=>some (Sq F5 d c)
 | 6,1029=>some (Sr F6 c)
 |_,_=>none
def Jg:FuncId->Option du
 | 19=>some ⟨[.ic],WM MN⟩
 | 20=>some ⟨[],AO⟩
 |f=>Ho f
noncomputable def Bj (l:List Sp) (Z F2 F3 F4 F5 F6:Wd) (v:Vw) (n d c:Int) (o:Op):cd:=dM Tryz.prog Jg (lvT l Z F2 F3 F4 F5 F6 v n d c o) 10
theorem ah1 (l:List Sp) (Z F2 F3 F4 F5 F6:Wd) (v:Vw) (n d c:Int) (o:Op) (aq:
 let ω:=[ε γ n,aj 0 0,ε γ d];let θ:=η (ν γ 3);(decide ((↑(ae nP l).length:Int) > 80)=true->
 true=true)/\
 (decide ((↑(ae nP l).length:Int) > 80)=false->
 ∃(l_1:List (Nat×ι)),cF [] l_1/\
 ∀(W:Wd),W=kc 4->
 ∀(q:List (Nat×Nat)) (A':List (Sg×KB)),PW A' q W.R->
 At (Je l n) ([aC (χ 5 (ae nP l)),ε γ n,aj 0 0,ε γ 0],(dx W q A'))/\
 ∀(i:{x:kA // Ak l x }),let av:=(↑i.val.i:Int)<(↑(ae nP l).length:Int);(decide (av)=true->
 aA (↑i.val.i:Int)/\
 ∃(e:List D),(ae nP l)[(↑i.val.i:Int).toNat]? =some e/\
 ∃(n_1:Int),e[0]? =some (η (ν γ n_1))/\
 ∃(n_2:Int),e[1]? =some (η (ν γ n_2))/\
 ∃(dB:Int),e[2]? =some (η (ν γ dB))/\
 ∃(iI:Int),e[3]? =some (η (ν γ iI))/\
 ∃(b:Bool),e[4]? =some (η (mG b))/\
 ∃(w:Wd),∃(q:List (Nat×Nat)),∃(A:List (Sg×KB)),lq (dx i.val.W i.val.q i.val.A) w q A/\
 PW A q w.R/\
 ∃(s:Sp),[fz [ε γ n_1,ε γ n_2,ε γ dB,ε γ iI,ο b]]=[qO s]/\
 xN w s/\
 ∀(w':Wd),w'=eE w s->
 ∀(q':List (Nat×Nat)) (A':List (Sg×KB)),PW A' q' w'.R->
 Nx (Je l n) i ([aC (χ 5 (ae nP l)),ε γ n,aj 0 0,ε γ (γ.wrap ((↑i.val.i:Int)+1))],(dx w' q' A')))/\
 (decide (av)=false->
 At (Sh Z n) ([ε γ n,aj 0 0],[aB [ζ 1 0 i.val.W.R.length,ζ 2 0 i.val.W.dk.length,ζ 3 0 i.val.W.vs.length,ζ 4 0 0,ζ 5 0 i.val.W.cs.length,ζ 6 0 i.val.W.bt.length,ε γ i.val.W.now,ο i.val.W.ok],ai 30 1 (ae eB i.val.q),ai 23 1 (ae bO i.val.W.dk),ai 49 5 (ae eY i.val.W.vs),ai 73 3 [],ai 61 10 (ae cL i.val.W.cs),ai 3 1 (ints γ i.val.W.bt),fE i.val.A])/\
 ∀(i:{x:PA // jK Z x }),(br (γ.wrap ((↑(Z.vs.length - 0):Int) - 1)) (Z.vs.length - 0)/\
 ∃(e:List D),(ae eY Z.vs)[0+(γ.wrap ((↑(Z.vs.length - 0):Int) - 1)).toNat]? =some e/\
 ∃(n_1:Int),e[0]? =some (η (ν γ n_1))/\
 ∃(n_2:Int),e[1]? =some (η (ν γ n_2))/\
 ∃(dB:Int),e[2]? =some (η (ν γ dB))/\
 ∃(l:List (List D)),e[3]? =some (χ 1 l)/\
 ∃(l_2:List (List D)),e[4]? =some (χ 1 l_2)/\
 (∃(e:List D),(ae eY Z.vs)[0+(γ.wrap ((↑(Z.vs.length - 0):Int) - 1)).toNat]? =some e/\
 ∃(n:Int),e[0]? =some (η (ν γ n))/\
 ∃(n:Int),e[1]? =some (η (ν γ n))/\
 ∃(n:Int),e[2]? =some (η (ν γ n))/\
 ∃(l:List (List D)),e[3]? =some (χ 1 l)/\
 ∃(l:List (List D)),e[4]? =some (χ 1 l)/\
 True)/\
 True/\
 True/\
 At (Si Z v n) ([ε γ n,aj 0 0,V.dm [η (ν γ n_1),η (ν γ n_2),η (ν γ dB),χ 1 l,χ 1 l_2] 0],(dx Z i.val.q i.val.A)))/\
 ∀(i:{x:px // FJ Z v x }),At (Jf Z v n) ([ε γ n,aj 0 0,V.dm i.val.3 0,ε γ 0],(dx Z i.val.q i.val.A))/\
 ∀(i:{x:xT // Bg Z v x }),(decide ((↑i.val.i:Int)<4)=true->
 br (↑i.val.i:Int) ((fN v Z i.val.i).R.length - 0)/\
 ∃(e:List D),(ae eB i.val.q)[0+(↑i.val.i:Int).toNat]? =some e/\
 ∃(v_1:Value),e[0]? =some (η v_1)/\
 ∃(n_1:Int),i.val.e[0]? =some (η (ν γ n_1))/\
 ∃(n_2:Int),i.val.e[1]? =some (η (ν γ n_2))/\
 ∃(dB:Int),i.val.e[2]? =some (η (ν γ dB))/\
 ∃(l:List (List D)),i.val.e[3]? =some (χ 1 l)/\
 ∃(l_2:List (List D)),i.val.e[4]? =some (χ 1 l_2)/\
 ∃(io:List (Nat×ι)),∃(i_1:Nat),∃(b:Nat),∃(R:ι),cF i.val.A io/\
 io[i_1]? =some (b,R)/\
 η v_1=η (pv b)/\
 ∃(w:Vw),[fz [ε γ n_1,ε γ n_2,ε γ dB,aC (χ 1 l),aC (χ 1 l_2)]]=[xr w]/\
 bB R/\
 w.mem.length+w.aH.length<=1000/\
 R.out.length+(bA R.me w.mem w.aH).length<=100000/\
 ∀(A':List (Sg×KB)),cF A' (io.set i_1 (b,dV R w))->
 ∃(w:Wd),∃(q:List (Nat×Nat)),∃(A:List (Sg×KB)),lq (dx (fN v Z i.val.i) i.val.q A') w q A/\
 PW A q w.R/\
 ∃(i_2:Nat),[ε γ (↑i.val.i:Int)]=[ε γ (↑i_2:Int)]/\
 jD w i_2/\
 ∀(w':Wd),w'=cf w i_2->
 ∀(q':List (Nat×Nat)) (A':List (Sg×KB)),PW A' q' w'.R->
 Nx (Jf Z v n) i ([ε γ n,aj 0 0,V.dm i.val.e 0,ε γ (γ.wrap ((↑i.val.i:Int)+1))],(dx w' q' A')))/\
 (decide ((↑i.val.i:Int)<4)=false->
 (∃(l:List (List D)),i.val.e[3]? =some (χ 1 l)/\
 aA 0/\
 ∃(e:List D),l[0]? =some e/\
 ∃(n_1:Int),e[0]? =some (η (ν γ n_1))/\
 At (wJ (fN v Z 4) n d) ([ε γ n,aj 0 0,ε γ n_1],(dx (fN v Z i.val.i) i.val.q i.val.A)))/\
 ∀(i:{x:PA // jK (fN v Z 4) x }),(∃(w:Wd),∃(q:List (Nat×Nat)),∃(A:List (Sg×KB)),lq (dx (fN v Z 4) i.val.q i.val.A) w q A/\
 PW A q w.R/\
 ∃(n_1:Nat),[ε γ 20]=[ε γ (↑n_1:Int)]/\
 (vD w n_1/\
 n_1<=1000)/\
 ∀(w':Wd),w'=gu n_1 w->
 ∀(q':List (Nat×Nat)) (A':List (Sg×KB)),PW A' q' w'.R->
 At (wJ F2 n d) (ω,(dx w' q' A')))/\
 ∀(i:{x:PA // jK F2 x }),(br d (F2.R.length - 0)/\
 ∃(e:List D),(ae eB i.val.q)[0+d.toNat]? =some e/\
 ∃(v:Value),e[0]? =some (η v)/\
 ∃(l:List (Nat×ι)),∃(i_1:Nat),∃(b:Nat),∃(R:ι),cF i.val.A l/\
 l[i_1]? =some (b,R)/\
 η v=η (pv b)/\
 jI []/\
 bB R/\
 ∀(A':List (Sg×KB)),cF A' (l.set i_1 (b,R))->
 At (Sj F2 n d) ([ε γ n,aj 0 0,ε γ d,ο (ef R),ο (gw R)],(dx F2 i.val.q A')))/\
 ∀(i:{x:PA // jK F2 x }),((false=true->
 False)/\
 (false=false->
 (false=true->
 False)/\
 (false=false->
 At (wJ F2 n d) (ω,(dx F2 i.val.q i.val.A)))))/\
 ∀(i:{x:PA // jK F2 x }),At (Sk F3 n d c) ([ε γ n,aj 0 0,ε γ d,ε γ (↑(F2.cs.length - 0):Int)],[aB [ζ 1 0 F2.R.length,ζ 2 0 F2.dk.length,ζ 3 0 F2.vs.length,ζ 4 0 F2.ψ.length,ζ 5 0 F2.cs.length,ζ 6 0 F2.bt.length,ε γ (γ.wrap (F2.now+1)),ο F2.ok],ai 30 1 (ae eB i.val.q),ai 23 1 (ae bO F2.dk),ai 49 5 (ae eY F2.vs),ai 73 3 (ae dG F2.ψ),ai 61 10 (ae cL F2.cs),ai 3 1 (ints γ F2.bt),fE i.val.A])/\
 ∀(i:{x:PA // jK F3 x }),(nc 2/\
 At (Sl F3 o d c) ([aj 0 0,ε γ d,ε γ c,V.dm [θ,η (ν γ 1),θ,η (ν γ (bC n 2)),χ 1 []] 0],(dx F3 i.val.q i.val.A)))/\
 ∀(i:{x:px // vN F3 o x }),(∃(n:Int),i.val.e[0]? =some (η (ν γ n))/\
 ∃(n_1:Int),i.val.e[1]? =some (η (ν γ n_1))/\
 ∃(n_2:Int),i.val.e[2]? =some (η (ν γ n_2))/\
 ∃(dB:Int),i.val.e[3]? =some (η (ν γ dB))/\
 ∃(l:List (List D)),i.val.e[4]? =some (χ 1 l)/\
 True/\
 True/\
 1<=1/\
 F3.cs.length<=(ae cL F3.cs).length/\
 (F3.cs.length+1)*96<=140737488355328/\
 At (Sn F4 o d c) ([aj 0 0,ε γ d,ε γ c,V.dm i.val.e 0],[aB [ζ 1 0 F3.R.length,ζ 2 0 F3.dk.length,ζ 3 0 F3.vs.length,ζ 4 0 F3.ψ.length,ζ 5 0 (F3.cs.length+1),ζ 6 0 F3.bt.length,ε γ F3.now,ο F3.ok],ai 30 1 (ae eB i.val.q),ai 23 1 (ae bO F3.dk),ai 49 5 (ae eY F3.vs),ai 73 3 (ae dG F3.ψ),ai 61 10 (ay F3.cs.length (ae cL F3.cs)++[[η (ν γ n),η (ν γ n_1),η (ν γ n_2),η (ν γ dB),χ 1 l,θ,η (ν γ 0),η (ν γ F3.now),η (ν γ (-1)),η (mG false)]]),ai 3 1 (ints γ F3.bt),fE i.val.A]))/\
 ∀(i:{x:px // vN F4 o x }),(br d (F4.R.length - 0)/\
 ∃(e:List D),(ae eB i.val.q)[0+d.toNat]? =some e/\
 ∃(v:Value),e[0]? =some (η v)/\
 ∃(n:Int),i.val.e[0]? =some (η (ν γ n))/\
 ∃(n_1:Int),i.val.e[1]? =some (η (ν γ n_1))/\
 ∃(n_2:Int),i.val.e[2]? =some (η (ν γ n_2))/\
 ∃(dB:Int),i.val.e[3]? =some (η (ν γ dB))/\
 ∃(l:List (List D)),i.val.e[4]? =some (χ 1 l)/\
 ∃(l_2:List (Nat×ι)),∃(i_1:Nat),∃(b:Nat),∃(R:ι),cF i.val.A l_2/\
 l_2[i_1]? =some (b,R)/\
 η v=η (pv b)/\
 ∃(gf:Op),[fz [ε γ n,ε γ n_1,ε γ n_2,ε γ dB,aC (χ 1 l)]]=[uW gf]/\
 bB R/\
 R.out.length+(aP R).length<=100000/\
 (∀(c:Int),dW c gf.b->
 0<=c/\
 c<256)/\
 gf.b.length<=100000/\
 ∀(A':List (Sg×KB)),cF A' (l_2.set i_1 (b,(dN R gf).snd))->
 At (Sq F5 d c) ([aj 0 0,ε γ d,ε γ c,ε γ (dN R gf).fst],(dx F4 i.val.q A')))/\
 ∀(i:{x:PA // jK F5 x }),∃(w:Wd),∃(q:List (Nat×Nat)),∃(A:List (Sg×KB)),lq (dx F5 i.val.q i.val.A) w q A/\
 PW A q w.R/\
 ∃(i:Nat),[ε γ d]=[ε γ (↑i:Int)]/\
 jD w i/\
 ∀(w':Wd),w'=cf w i->
 ∀(q':List (Nat×Nat)) (A':List (Sg×KB)),PW A' q' w'.R->
 (∃(w:Wd),∃(q:List (Nat×Nat)),∃(A:List (Sg×KB)),lq (dx w' q' A') w q A/\
 PW A q w.R/\
 ∃(n:Nat),[ε γ 20]=[ε γ (↑n:Int)]/\
 (vD w n/\
 n<=1000)/\
 ∀(w':Wd),w'=gu n w->
 ∀(q':List (Nat×Nat)) (A':List (Sg×KB)),PW A' q' w'.R->
 At (Sr F6 c) ([aj 0 0,ε γ c,ε γ 0],(dx w' q' A')))/\
 ∀(i:{x:PA // jK F6 x }),(true=true->
 br c (F6.cs.length - 0)/\
 ∃(e:List D),(ae cL F6.cs)[0+c.toNat]? =some e/\
 ∃(n:Int),e[8]? =some (η (ν γ n))/\
 ((n != -1)=true->
 (F6.ok=true->
 ∃(w:Wd),∃(q:List (Nat×Nat)),∃(A:List (Sg×KB)),lq (dx F6 i.val.q i.val.A) w q A/\
 PW A q w.R/\
 jI []/\
 EN w/\
 ∀(q':List (Nat×Nat)) (A':List (Sg×KB)),PW A' q' w.R->
 (true=true->
 true=true)/\
 (true=false->
 False))/\
 (F6.ok=false->
 False))/\
 ((n != -1)=false->
 False))/\
 (true=false->
 False))))
 ):Bj l Z F2 F3 F4 F5 F6 v n d c o 6 [aC (.sl 5 (l.map nP)),.int γ n] [] KT:=by apply Eq.mp (a:=aq);kernel_rfl
theorem ab0:dD Tryz.prog Jg:=fun f k h=>by
 unfold Jg at h
 split at h
 ·cases h;exact adh
 ·cases h;exact TE
 ·exact Z9 _ _ h
theorem Yl (l:List Sp) (Z F2 F3 F4 F5 F6:Wd) (v:Vw) (n d c:Int) (o:Op):cx Tryz.prog (Bj l Z F2 F3 F4 F5 F6 v n d c o):=dP mixed ab0 _ 10
structure M9 (l:List Sp) (Z F2 F3 F4 F5 F6:Wd) (v:Vw) (n d c:Int) (o:Op):Prop where
 p:∃ x,MD l Z v x
 dn:∃ k:Nat,d=(k:Int)/\k<4/\bB (κ F2 k)/\ef (κ F2 k)=true/\gw (κ F2 k)=true/\bB (κ F4 k)/\(κ F4 k).out.length+(aP (κ F4 k)).length<=100000/\(dN (κ F4 k) o).1=0/\F5=bx F4 k (dN (κ F4 k) o).2/\jD F5 k/\vD (cf F5 k) 20/\F6=gu 20 (cf F5 k)
 hd:d=fb v
 fa:vD (fN v Z 4) 20
 f2:F2=gu 20 (fN v Z 4)
 rl:F2.R.length=4
 nw:γ.wrap (F2.now+1)=F2.now+1
 f3:F3=cw F2
 c0:c=F2.cs.length
 cl:F2.cs.length<=12
 ho:o=dg (bC n 2)
 f4:F4=il F2 (bC n 2)
 ok:F6.ok=true
 on:EN F6
 en:∃ x,F6.cs[F2.cs.length]? =some x/\x.en≠-1
theorem abG {l:List Sp} {Z F2 F3 F4 F5 F6:Wd} {v:Vw} {n d c:Int} {o:Op} (hp:l.length<=80->M9 l Z F2 F3 F4 F5 F6 v n d c o):Bj l Z F2 F3 F4 F5 F6 v n d c o 6 [aC (.sl 5 (l.map nP)),.int γ n] [] KT:=by
 apply ah1 l Z F2 F3 F4 F5 F6 v n d c o
 dsimp only
 rw[bT]
 refine⟨fun _=>rfl,fun h1=>?_⟩
 have hl:l.length<=80:=by rw[decide_eq_false_iff_not]at h1;omega
 have hL:=hp hl
 obtain⟨vl,hP⟩:=hL.p
 refine⟨[],Ul,fun W hW q A' p=>?_⟩
 subst hW
 refine⟨At.mk' (⟨⟨0,kc 4,q,A'⟩,bj _,rfl,p⟩:{x:kA // Ak l x}) rfl,?_⟩
 rintro⟨⟨i,W,q1,A1⟩,hi,hW,P1⟩
 dsimp only at hi hW P1 ⊢
 have Qv:WI (1+3*(i:Int)) W:=by
  have:=K1 (l:=l.take i) (by rw[cW];omega)
  rw[cW,Nat.min_eq_left hi]at this
  rw[hW];exact this
 refine⟨fun hlt=>?_,fun hge=>?_⟩
 ·have hlt:i<l.length:=by rw[decide_eq_true_eq]at hlt;omega
  refine⟨by unfold aA;omega,nP l[i],by rw[cN,fy,bu hlt];rfl,_,rfl,_,rfl,_,rfl,_,rfl,_,rfl,W,q1,A1,⟨rfl⟩,P1,l[i],rfl,(sn Qv (by omega) _).1,fun w' hw' q' A' p'=>?_⟩
  refine Nx.mk' (⟨⟨i+1,w',q',A'⟩,hlt,by show w'=_;rw[hw',hW,afw hlt],p'⟩:{x:kA // Ak l x}) ?_ (by show l.length - (i+1)<l.length - i;omega)
  rw[bE (by omega) (by omega)]
  rfl
 have hi:i=l.length:=by rw[decide_eq_false_iff_not]at hge;omega
 subst hi
 rw[cQ]at hW
 have hz:=hP.z
 rw[<- hW]at hz
 refine⟨At.mk' (⟨⟨q1,A1⟩,⟨by rw[hz];exact P1⟩⟩:{x:PA // jK Z x}) (by subst hz;rfl),?_⟩
 clear Qv hW P1 hge hz hi
 rintro⟨⟨q2,A2⟩,⟨P2⟩⟩
 dsimp only at P2 ⊢
 have hv0:=hP.v0
 have ew:γ.wrap (((Z.vs.length - 0:Nat):Int) - 1)=((Z.vs.length - 1:Nat):Int):=by rw[bE (by omega) (by omega)];omega
 have hg:(ae eY Z.vs)[0+((Z.vs.length - 1:Nat):Int).toNat]? =some (eY v):=by
  rw[c9,cN,fy,vf (by omega),hP.hv];rfl
 rw[ew]
 refine⟨⟨by unfold br;omega,_,hg,_,rfl,_,rfl,_,rfl,_,rfl,_,rfl,⟨_,hg,_,rfl,_,rfl,_,rfl,_,rfl,_,rfl,trivial⟩,trivial,trivial,At.mk' (⟨⟨q2,A2,eY v⟩,rfl,P2⟩:{x:px // FJ Z v x}) rfl⟩,?_⟩
 rintro⟨⟨q3,A3,e3⟩,Ik,P3⟩
 dsimp only at Ik P3 ⊢
 refine⟨At.mk' (⟨⟨0,q3,A3,e3⟩,bj _,Ik,P3⟩:{x:xT // Bg Z v x}) rfl,?_⟩
 rintro⟨⟨j,q4,A4,e4⟩,hj,QX,P4⟩
 dsimp only at hj QX P4 ⊢
 subst QX
 have wu:=hL.hd
 refine⟨fun hlt=>?_,fun hge=>⟨?_,?_⟩⟩
 ·have hlt:j<4:=by rw[decide_eq_true_eq]at hlt;omega
  obtain⟨c0,c1,c3,c4⟩:=hP.tl j hlt
  obtain⟨l2,k,b2,hq,hA,hl2,dQ⟩:=P4.get (p8 (w:=fN v Z j) (i:=j) (by omega))
  refine⟨by unfold br;omega,_,ox hq,_,rfl,_,rfl,_,rfl,_,rfl,_,rfl,_,rfl,l2,k,b2,_,hA,hl2,rfl,v,rfl,c1,hP.vl,c3,fun A5 p5=>⟨bx (fN v Z j) j (dV (κ (fN v Z j) j) v),q4,A5,⟨xt (W:=fN v Z j) (by show((fN v Z j).R.set _ _).length=_;rw[iG]) q4 A5⟩,dQ _ _ p5,j,rfl,c4,fun w' hw' q' A' p'=>?_⟩⟩
  subst hw'
  refine Nx.mk' (⟨⟨j+1,q',A',eY v⟩,hlt,rfl,p'⟩:{x:xT // Bg Z v x}) ?_ (by show 4 - (j+1)<4 - j;omega)
  rw[bE (by omega) (by omega)]
  rfl
 ·have hj:j=4:=by rw[decide_eq_false_iff_not]at hge;omega
  subst hj
  obtain⟨x0,r0,hx0⟩:∃ x r,v.mem=x::r:=by
   cases hm:v.mem with
   |nil=>exact absurd hm hP.m0
   |cons x r=>exact⟨x,r,rfl⟩
  have hh:fb v=x0:=by unfold fb;rw[hx0];rfl
  have hI:(ints γ v.mem)[0]? =some [dn γ x0]:=by rw[hx0];rfl
  refine⟨_,rfl,by unfold aA;omega,_,hI,_,rfl,At.mk' (⟨⟨q4,A4⟩,⟨P4⟩⟩:{x:PA // jK (fN v Z 4) x}) (by rw[<- hh,<- wu])⟩
 clear hge hj P4 q4 A4 P3 q3 A3 Ik P2
 obtain⟨k,hk,k4,r2,ld2,rd2,r4,o4,s4,f5,Zu,fa5,f6⟩:=hL.dn
 have f2:=hL.f2
 have rl:=hL.rl
 have cl:=hL.cl
 have f3:=hL.f3
 have f4:=hL.f4
 have c0:=hL.c0
 subst hk
 rintro⟨⟨q5,A5⟩,⟨P5⟩⟩
 dsimp only at P5 ⊢
 refine⟨⟨_,q5,A5,⟨rfl⟩,P5,20,rfl,⟨hL.fa,by omega⟩,fun w' hw' q' A' p'=>?_⟩,?_⟩
 ·have hw':=hw'.trans f2.symm
  subst hw'
  exact At.mk' (⟨⟨q',A'⟩,⟨p'⟩⟩:{x:PA // jK w' x}) rfl
 clear P5 q5 A5
 rintro⟨⟨q6,A6⟩,⟨l6,Qq,Ih⟩⟩
 dsimp only
 have aa6:br (k:Int) (F2.R.length - 0):=by unfold br;omega
 refine⟨?_,?_⟩
 ·obtain⟨j,b',g1,g2⟩:=ZI Ih (k:=k) (by omega)
  refine⟨aa6,_,ox g1,_,rfl,l6,j,b',_,Qq,g2,rfl,⟨rfl⟩,r2,fun A7 p7=>?_⟩
  rw[afF g2]at p7
  exact At.mk' (⟨⟨q6,A7⟩,⟨l6,p7,Ih⟩⟩:{x:PA // jK F2 x}) (by rw[ld2,rd2])
 clear Qq Ih q6 A6
 rintro⟨⟨q7,A7⟩,⟨P7⟩⟩
 dsimp only at P7 ⊢
 refine⟨⟨fun t=>(by cases t),fun _=>⟨fun t=>(by cases t),fun _=>At.mk' (⟨⟨q7,A7⟩,⟨P7⟩⟩:{x:PA // jK F2 x}) rfl⟩⟩,?_⟩
 clear P7 q7 A7
 rintro⟨⟨q8,A8⟩,⟨P8⟩⟩
 dsimp only at P8 ⊢
 have M_:PW A8 q8 F3.R:=by rw[f3];exact P8
 refine⟨At.mk' (⟨⟨q8,A8⟩,⟨M_⟩⟩:{x:PA // jK F3 x}) (by rw[hL.nw,c0,ly];subst f3;rfl),?_⟩
 clear P8 M_ q8 A8
 rintro⟨⟨q9,A9⟩,⟨P9⟩⟩
 dsimp only at P9 ⊢
 have ho:=hL.ho
 refine⟨⟨⟨by omega⟩,At.mk' (⟨⟨q9,A9,bo o⟩,rfl,P9⟩:{x:px // vN F3 o x}) (by rw[ho];rfl)⟩,?_⟩
 clear P9 q9 A9
 rintro⟨⟨qa,Aa,ea⟩,QY,Pa⟩
 dsimp only at QY Pa ⊢
 subst QY
 have BO:F4={F3 with cs:=F3.cs++[⟨o,0,F3.now,-1⟩] }:=by rw[f4,f3,ho];rfl
 have h3l:F3.cs.length=F2.cs.length:=by rw[f3];rfl
 refine⟨⟨_,rfl,_,rfl,_,rfl,_,rfl,_,rfl,trivial,trivial,ar _,by rw[bT];exact ar _,by omega,?_⟩,?_⟩
 ·refine At.mk' (⟨⟨qa,Aa,bo o⟩,rfl,by rw[BO];exact Pa⟩:{x:px // vN F4 o x}) ?_
  have e1:ay F3.cs.length (ae cL F3.cs)=ae cL F3.cs:=eQ (by rw[bT];exact ar _)
  have e2:(F3.cs++[(⟨o,0,F3.now,-1⟩:dy)]).length=F3.cs.length+1:=by rw[bn];rfl
  have e3:ae cL F4.cs=ae cL F3.cs++[cL ⟨o,0,F3.now,-1⟩]:=by rw[BO];show ae cL (F3.cs++[_])=_;rw[ja];rfl
  have e5:F4.cs.length=F3.cs.length+1:=by rw[BO];exact e2
  have kd3:o.kd=3:=by rw[ho];rfl
  have e6:cL ⟨o,0,F3.now,-1⟩=[η (ν γ o.cl),η (ν γ o.nm),η (ν γ o.kd),η (ν γ o.bk),χ 1 (ints ξ o.b),η (ν γ 3),η (ν γ 0),η (ν γ F3.now),η (ν γ (-1)),η (mG false)]:=by unfold cL;rw[kd3]
  show _=([aj 0 0,ε γ _,ε γ _,V.dm (bo o) 0],dx F4 qa Aa)
  have ew:dx F4 qa Aa=[aB [.sl 1 0 F3.R.length,.sl 2 0 F3.dk.length,.sl 3 0 F3.vs.length,.sl 4 0 F3.ψ.length,.sl 5 0 F4.cs.length,.sl 6 0 F3.bt.length,.int γ F3.now,ο F3.ok],kL qa,la F3,kM F3,ki F3,ai 61 10 (F4.cs.map cL),lE F3,fE Aa]:=by rw[BO]
  rw[ew,e1,e3,e5,e6]
 clear Pa qa Aa
 rintro⟨⟨qb,Ab,eb⟩,QZ,Pb⟩
 dsimp only at QZ Pb ⊢
 subst QZ
 have r4l:F4.R.length=4:=by rw[f4];exact rl
 have oa:o.b=[]:=by rw[ho];rfl
 refine⟨?_,?_⟩
 ·obtain⟨l2,j,b2,hq,hA,hl2,dQ⟩:=Pb.get (p8 (w:=F4) (i:=k) (by omega))
  refine⟨by unfold br;omega,_,ox hq,_,rfl,_,rfl,_,rfl,_,rfl,_,rfl,_,rfl,l2,j,b2,_,hA,hl2,rfl,o,rfl,r4,o4,fun x hx=>(by rw[oa]at hx;cases hx),by rw[oa];exact bj _,fun A5 p5=>?_⟩
  have e5:dx F4 qb A5=dx F5 qb A5:=by rw[f5];exact xt (W:=F4) (by rw[iG]) qb A5
  rw[s4,e5]
  exact At.mk' (⟨⟨qb,A5⟩,⟨by rw[f5];exact dQ _ _ p5⟩⟩:{x:PA // jK F5 x}) rfl
 clear Pb qb Ab
 rintro⟨⟨qc,Ac⟩,⟨Pc⟩⟩
 dsimp only at Pc ⊢
 refine⟨F5,qc,Ac,⟨rfl⟩,Pc,k,rfl,Zu,fun w' hw' q' A' p'=>⟨⟨w',q',A',⟨rfl⟩,p',20,rfl,⟨by rw[hw'];exact fa5,by omega⟩,fun w2 IM q2' Xz p2'=>?_⟩,?_⟩⟩
 ·have IM:w2=F6:=by rw[IM,hw',f6]
  subst IM
  exact At.mk' (⟨⟨q2',Xz⟩,⟨p2'⟩⟩:{x:PA // jK w2 x}) rfl
 clear Pc qc Ac
 rintro⟨⟨qd,Ad⟩,⟨Pd⟩⟩
 dsimp only at Pd ⊢
 obtain⟨x,x1,x2⟩:=hL.en
 have hlt:=(bH.1 x1).1
 have hx:(ae cL F6.cs)[0+c.toNat]? =some (cL x):=by rw[c0,c9,cN,fy,x1];rfl
 refine⟨fun _=>⟨by unfold br;omega,_,hx,_,rfl,fun _=>⟨fun _=>⟨F6,qd,Ad,⟨rfl⟩,Pd,⟨rfl⟩,hL.on,fun q' A' p'=>⟨fun _=>rfl,fun t=>(by cases t)⟩⟩,fun t=>(by rw[hL.ok]at t;cases t)⟩,fun t=>?_⟩,fun t=>(by cases t)⟩
 simp at t
 exact x2 t
noncomputable def Jh (l:List Sp):Wd:=mL (ig l)
noncomputable def oq (l:List Sp):Wd:=gu 20 (fN (bJ (ig l)) (Jh l) 4)
noncomputable def CV (l:List Sp) (n:Int):Wd:=il (oq l) (bC n 2)
noncomputable def pT (l:List Sp):Nat:=(fb (bJ (ig l))).toNat
noncomputable def Jd (l:List Sp) (n:Int):Wd:=tf (CV l n) (dg (bC n 2)) (pT l)
noncomputable def Ss (l:List Sp) (n:Int):Wd:=gu 20 (cf (Jd l n) (pT l))
theorem acl {F:Wd} {T:Int} (h:WI T F) (hT:T<=1000):γ.wrap (F.now+1)=F.now+1:=by
 have n0:=h.n0
 have n1:=h.n1
 rw[bE (by omega) (by omega)]
theorem aeH (w:Wd) (bk:Int) (k:Nat):κ (il w bk) k=κ w k:=rfl
theorem ab1 {l:List Sp} (hl:l.length<=80) (n:Int):M9 l (Jh l) (oq l) (cw (oq l)) (CV l n) (Jd l n) (Ss l n) (bJ (ig l)) n (pT l:Int) ((oq l).cs.length:Int) (dg (bC n 2)):=by
 have hw:=K1 hl
 obtain⟨G,hJ⟩:=U0 (l:=l) (by omega)
 have hq:Qn (ig l):=U7 l C3 ⟨SC,bj _⟩ (by omega)
 obtain⟨p1,p2⟩:=Z_ hl
 obtain⟨h1,L,h2,h3,h4⟩:=agH hw (by omega) hJ (afu (by omega))
 obtain⟨L',h5,h6,h7⟩:=aad h1 h2 (by omega) (n:=20) (by omega) (by omega)
 have h8:WI (1+3*(l.length:Int)+60) (oq l):=BU h1 20 (by omega)
 have od:Qn (oq l):=PJ (Wf _ (⟨⟨hq.n.h⟩,hq.l⟩:Qn (mL (ig l))) 4) 20
 have h5:vH (bJ (ig l)).ve (pT l) (oq l) L':=h5
 have hb:=kJ n (n:=2) (by omega)
 have yG:pT l<4:=h2.d4
 obtain⟨a1,L3,a2,a3,a4,a5⟩:=YL h8 (by omega) od h5 hb
 obtain⟨⟨G6,yA⟩,x,x1,x2⟩:=aac a1 a2 a3 a4 a5 (n:=20) (by omega) (by omega)
 have ha:=N8 h8 od (bC n 2)
 have Ig:=(zB ha (by omega) yG (o:=dg (bC n 2)) ⟨fun x hx=>(by cases hx),bj _⟩ (bj _)).1
 have wx:=(h8.r _ yG).w
 have Ro:=(ha.r _ yG).w
 have ho4:=(ha.r _ yG).out
 have fK:=uX Ro
 have Cl:=(hw.vs _ (uN hw)).rg _ (gQ _ (Cc (hw.vs _ (uN hw)).m0))
 refine⟨⟨_,p1⟩,⟨pT l,rfl,yG,wx.i,?_,(KW h5).1,Ro.i,?_,?_,rfl,Ig,PI a1 (by omega),rfl⟩,?_,PI h1 (by omega),rfl,h8.rl,?_,rfl,rfl,od.l,rfl,rfl,yA.ok,⟨yA.cs.ln,fun bk _=>ai8 yA.gi yA.vi yA.cs _⟩,x,x1,x2⟩
 ·unfold ef;rw[h5.fp.ld];rfl
 ·show(κ (il (oq l) (bC n 2)) (pT l)).out.length+_<=_
  rw[ho4]
  show 0+(aP (κ (il (oq l) (bC n 2)) (pT l))).length<=_
  omega
 ·rw[show κ (CV l n) (pT l)=κ (oq l) (pT l)from aeH _ _ _,N9 h5 hb]
 ·exact Int.toNat_of_nonneg Cl.1
 ·exact acl h8 (by omega)
theorem abF (l:List Sp) (n:Int):Bj l (Jh l) (oq l) (cw (oq l)) (CV l n) (Jd l n) (Ss l n) (bJ (ig l)) n (pT l:Int) ((oq l).cs.length:Int) (dg (bC n 2)) 6 [aC (.sl 5 (l.map nP)),.int γ n] [] KT:=
 abG fun hl=>ab1 hl n
end Go.Proofs.YtfcjngcnifdmnaaGreat
