import Derived.Test.YtfcjngcnifdmnaaGreatQb
import Derived.Deep.LoopGhost
import Derived.Scope
import Derived.RangeFuncIn
import Derived.RangeFuncSeq
import Derived.OrdersIn
import Derived.TacticsIn
import Derived.Below
import Derived.ProofKit
import Derived.OpenShut
import Derived.Carry
import Derived.IntWalk
import Derived.Test.YtfcjngcnifdmnaaGreatRows
import Derived.KernelRfl
set_option linter.unusedSimpArgs false
set_option linter.unusedVariables false
namespace Vc
open Go
open Go.IntKind renaming i64->Z,u8->θ,u32->gq
open List renaming map->ι,drop->ν,take->ah,length_append->bw,getElem?_eq_getElem->bx,getElem?_eq_some_iff->bU,length_map->cg,Mem->ct,take_length->cN,replicate->cQ,length_take->cW,append_assoc->dQ,getElem?_append_right->ef,getElem?_append_left->eH,mem_cons->eP,append_nil->fg,length_drop->fh,getElem?_map->fG,mem_map->fH,take_of_length_le->fI,getElem?_set_ne->fR,mem_cons_of_mem->fS,mem_append->gl,mem_of_getElem?->gm,getElem?_eq_none->gA,getElem?_set_self->gB,length_set->gC,range->gD,drop_zero->gK,mem_singleton->gY,flatten_cons->im,length_cons->io,mem_cons_self->iA,getElem?_take_of_lt->jj,length_nil->jk,nil_append->jm,getElem?_drop->jB,map_append->jC,take_add_one->jY,ext_getElem?->km,getD_eq_getElem?_getD->kn,length_singleton->ko,eq_nil_of_length_eq_zero->kG,mem_append_left->lR,mem_filter->lS
open Go.Value renaming int->κ,slice->eI,bool->fa,map->gr,oneCell'->kq
open Nat renaming le_refl->aE,zero_le->bF,beq->bZ,eq_of_beq_eq_true->cy,zero_add->cL,add_assoc->fT,lor->gE,lt_or_ge->iX,sub_zero->kp
open Option renaming some->bh,bind_eq_some_iff->jF,map->jZ
open Int renaming toNat_natCast->dr,le_refl->gp
open Bool renaming and_eq_true->kE
inductive iB where
 |slot (k:Nat) (ty:TypeId) (sz:Nat)
 |cell (i off:Nat) (ty:TypeId) (sz:Nat)
 |bq (k off:Nat) (ty:TypeId) (sz:Nat)
 |Pu (k:Nat) (sz:Nat)
 |K4 (k off:Nat) (sz:Nat)
 |rf (i off:Nat) (sz:Nat)
 |mv (i off:Nat)
 |Nc (k:Nat)
 |pj (k:Nat)
 |kill (i:Nat)
 |Nb (i off:Nat)
 |ot (i off:Nat)
 |mG (i off:Nat) (aA:List IntKind) (aR agg:Bool) (sz:Nat)
def iB.CO:iB->Bool
 | .pj _=>true
 | .ot .. =>true
 | .mG .. =>true
 |_=>false
def zV (n:Nat):V->Option (Nat×V)
 | .mp j=>some (j,.mp n)
 | .ptr j o=>some (j,.ptr n o)
 |_=>none
structure LI where
 α:Type
 live:List Nat
 dN:List iB:=[]
 st:α->List V×KB
 μ:α->Nat
 all:(α->Prop)->Prop:=fun Q=>∀ i,Q i
 uQ:∀ Q,all Q->∀ i,Q i:=by exact fun _ h=>h
 sub:α->Nat->Option LI:=fun _ _=>none
 VK:Nat->Option LI:=fun _=>none
def As (li:LI) (i:li.α) (T:Nat->Option LI):Nat->Option LI:=fun r=>match li.sub i r with
 |some l=>some l
 |none=>T r
def m8:Code->Option Nat
 | .region id _ _=>some id
 | .seq a b=>match m8 a with | some i=>some i | none=>m8 b
 | .block _ b=>m8 b
 | .loop b=>m8 b
 | .scope b=>m8 b
 | .cond _ a b=>match m8 a with | some i=>some i | none=>m8 b
 |_=>none
def vH (fr:Fr):List Nat->Option (List V)
 | []=>some []
 |t::ts=>match look fr t with
  |some v=>match vH fr ts with | some vs=>some (v::vs) | none=>none
  |none=>none
def oo:List V->Option (List D)
 | []=>some []
 | .int k n::vs=>match oo vs with | some ds=>some (.val (.int k n)::ds) | none=>none
 | .lit k n::vs=>match oo vs with | some ds=>some (.val (.int k n)::ds) | none=>none
 | .sb b::vs=>match oo vs with | some ds=>some (.val (.bool b)::ds) | none=>none
 | .dat d::vs=>match oo vs with | some ds=>some (d::ds) | none=>none
 |_:: _=>none
theorem Mm:∀{vs:List V} {ds:List D},oo vs=some ds->∀{σ:Sg} {E:EH} {xs:List Value},aS σ E vs xs->aY E ds xs
 | [],ds,h,σ,E,xs,hd=>by
  simp only[oo,bh.injEq]at h
  subst h
  simp only[aS]at hd
  subst hd
  exact aY.nil
 |v::vs,ds,h,σ,E,xs,hd=>by
  obtain⟨ys,zs,rfl,h1,h2⟩:=hd.gx
  cases v<;>simp only[oo,reduceCtorEq]at h
  all_goals
   split at h<;>try (cases h;done)
   rename_i ds' hds
   simp only[bh.injEq]at h
   subst h
   rcases h1 with ⟨y,rfl,h3,h4⟩ | ⟨m,cs,e,_,_⟩
   ·refine aY.cons ?_ (Mm hds h2)
    simp only[Den]at h4
    first
    |exact h4
    | (subst h4;simp [bH,kq])
   ·cases e
theorem Inv.K_ {σ:Sg} {E:EH} {kb:KB} {W:World} (h:Inv σ E kb W) {i:Nat} {r:Re} {o:KO} (hs:σ[i]? =some r) (hk:kb[i]? =some o) (hw:∀ b,b=r.blk->owned r o b):
  ∃ E',Step σ E kb W σ E' (kb.set i .dead) W/\E' r.blk=W.heap[r.blk]?:=by
 have hi:i<kb.length:=(bU.1 hk).1
 let E':EH:=fun b=>if b=r.blk then W.heap[b]? else E b
 have hle:E.le E':=fun b x hb=>by
  show(if b=r.blk then W.heap[b]? else E b)=some x
  by_cases hc:b=r.blk
  ·have:=h.sep b ⟨i,r,_,hs,hk,hw b hc⟩
   rw[this]at hb;cases hb
  ·rw[if_neg hc];exact hb
 have da:∀(j:Nat) (x:KO),(kb.set i .dead)[j]? =some x->(j=i/\x= .dead)∨(j≠i/\kb[j]? =some x):=by
  intro j x hj
  by_cases hji:j=i
  ·subst hji
   rw[gB hi]at hj
   exact .inl ⟨rfl,(bh.inj hj).symm⟩
  ·rw[fR (Ne.symm hji)]at hj
   exact .inr ⟨hji,hj⟩
 have hown:∀ b,b9 σ (kb.set i .dead) b->b9 σ kb b/\¬ b=r.blk:=by
  rintro b ⟨j,r',x,h1,h2,h3⟩
  rcases da j x h2 with ⟨rfl,rfl⟩ | ⟨hji,h4⟩
  ·exact h3.elim
  ·exact⟨⟨j,r',x,h1,h4,h3⟩,fun hc=>h.c9 i j r r' _ x b (Ne.symm hji) hs hk h1 h4 (hw b hc) h3⟩
 refine⟨E',⟨⟨by simp [h.len],fun j r' x h1 h2=>?_,fun a c r1 r2 o1 o2 b hac h1 h2 h3 h4 h5 h6=>?_,fun b x hb=>?_,fun b hb=>?_⟩,qW.refl _ W,⟨[],by simp⟩,hle,fun b hb=> .inl (hown b hb).1,fun b x hb=>?_⟩,?_⟩
 ·rcases da j x h2 with ⟨rfl,rfl⟩ | ⟨hji,h4⟩
  ·trivial
  ·have:=(h.obj j r' x h1 h4).mono (τ:=[]) (W':=W) hle (fun b hb=>rfl)
   simpa using this
 ·rcases da a o1 h2 with ⟨rfl,rfl⟩ | ⟨_,k2⟩
  ·exact h5.elim
  rcases da c o2 h4 with ⟨rfl,rfl⟩ | ⟨_,k4⟩
  ·exact h6.elim
  exact h.c9 a c r1 r2 o1 o2 b hac h1 k2 h3 k4 h5 h6
 ·by_cases hc:b=r.blk
  ·simp only[E',if_pos hc]at hb;exact hb
  ·simp only[E',if_neg hc]at hb;exact h.cP b x hb
 ·obtain⟨h1,h2⟩:=hown b hb
  show(if b=r.blk then W.heap[b]? else E b)=none
  rw[if_neg h2]
  exact h.sep b h1
 ·by_cases hc:b=r.blk
  ·exact .inr (.inl ⟨i,r,_,hs,hk,hw b hc⟩)
  ·simp only[E',if_neg hc]at hb;exact .inl hb
 ·simp only[E',if_pos]
theorem Inv.La {σ:Sg} {E:EH} {kb:KB} {W:World} (h:Inv σ E kb W) {i:Nat} {r:Re} {l:List V} {ds:List D} (hs:σ[i]? =some r) (hk:kb[i]? =some (.cells l)) (hc:oo l=some ds):
  ∃ E',Step σ E kb W σ E' (kb.set i .dead) W/\cO E' ds r.blk 0:=by
 obtain⟨E',hst,hE⟩:=h.K_ hs hk (fun b hb=>hb)
 obtain⟨arr,ty,k1,k2⟩:=h.obj i r _ hs hk
 refine⟨E',hst,((Mm hc k2).mono hst.le).rep fun j x hj=>?_⟩
 rw[k1]at hE
 unfold EH.cell
 rw[hE]
 simpa using hj
theorem Inv.TS {σ:Sg} {E:EH} {kb:KB} {W:World} (h:Inv σ E kb W) {i:Nat} {r:Re} {aA:List IntKind} {aR agg:Bool} {sz:Nat} {l:List (List Int×List D)} (hs:σ[i]? =some r) (hk:kb[i]? =some (.mp aA aR agg sz l)):
  ∃ E',Step σ E kb W σ E' (kb.set i .dead) W/\qa E' aA aR agg sz (some r.blk) l:=by
 obtain⟨E',hst,hE⟩:=h.K_ hs hk (fun b hb=>hb)
 obtain⟨k0,es,ck,k1,k2,k3⟩:=h.obj i r _ hs hk
 rw[k1]at hE
 exact⟨E',hst,k0,es,ck,hE,k2.mono hst.le,k3⟩
def jK:iB->List V×KB->List V×KB
 | .slot k ty sz,(vs,kb)=>match vs[k]? with
  |some (.any (.slice none 0 0))=>(vs.set k (.sl kb.length 0 0),kb++[KO.row ty sz []])
  |_=>(vs,kb)
 | .cell i off ty sz,(vs,kb)=>match kb[i]? with
  |some (.cells l)=>match gR l off with
   |some (.any (.slice none 0 0))=>match ij l off [.sl kb.length 0 0]with
    |some l'=>(vs,(kb++[KO.row ty sz []]).set i (KO.cells l'))
    |none=>(vs,kb)
   |_=>(vs,kb)
  |_=>(vs,kb)
 | .bq k off ty sz,(vs,kb)=>match vs[k]? with
  |some (.agg l)=>match gR l off with
   |some (.any (.slice none 0 0))=>match ij l off [.sl kb.length 0 0]with
    |some l'=>(vs.set k (.agg l'),kb++[KO.row ty sz []])
    |none=>(vs,kb)
   |_=>(vs,kb)
  |_=>(vs,kb)
 | .Pu k sz,(vs,kb)=>match vs[k]? with
  |some (.any (.slice none 0 0))=>(vs.set k (.dat (.sl sz [])),kb)
  |_=>(vs,kb)
 | .K4 k off sz,(vs,kb)=>match vs[k]? with
  |some (.agg l)=>match gR l off with
   |some (.any (.slice none 0 0))=>match ij l off [.dat (.sl sz [])]with
    |some l'=>(vs.set k (.agg l'),kb)
    |none=>(vs,kb)
   |_=>(vs,kb)
  |_=>(vs,kb)
 | .rf i off sz,(vs,kb)=>match kb[i]? with
  |some (.cells l)=>match gR l off with
   |some (.any (.slice none 0 0))=>match ij l off [.dat (.sl sz [])]with
    |some l'=>(vs,kb.set i (KO.cells l'))
    |none=>(vs,kb)
   |_=>(vs,kb)
  |_=>(vs,kb)
 | .mv i off,(vs,kb)=>match kb[i]? with
  |some (.cells l)=>match gR l off with
   |some (.sl j lo hi)=>match kb[j]? with
    |some (.row ty sz L)=>match ij l off [.sl kb.length lo hi]with
     |some l'=>(vs,(kb.set j .dead++[KO.row ty sz L]).set i (KO.cells l'))
     |none=>(vs,kb)
    |_=>(vs,kb)
   |_=>(vs,kb)
  |_=>(vs,kb)
 | .Nc k,(vs,kb)=>match vs[k]? with
  |some (.sl j lo hi)=>match kb[j]? with
   |some (.row ty sz L)=>(vs.set k (.sl kb.length lo hi),kb.set j .dead++[KO.row ty sz L])
   |_=>(vs,kb)
  |_=>(vs,kb)
 | .pj k,(vs,kb)=>match vs[k]? with
  |some (.ptr i 0)=>match kb[i]? with
   |some (.cells l)=>match oo l with
    |some ds=>(vs.set k (.dd ds 0),kb.set i .dead)
    |none=>(vs,kb)
   |_=>(vs,kb)
  |_=>(vs,kb)
 | .kill i,(vs,kb)=>match kb[i]? with
  |some _=>(vs,kb.set i .dead)
  |none=>(vs,kb)
 | .Nb i off,(vs,kb)=>match kb[i]? with
  |some (.cells l)=>match gR l off with
   |some v=>match zV kb.length v with
    |some (j,u)=>match kb[j]? with
     |some o=>match ij l off [u]with
      |some l'=>if i=j then(vs,kb)else(vs,(kb.set j .dead++[o]).set i (KO.cells l'))
      |none=>(vs,kb)
     |none=>(vs,kb)
    |none=>(vs,kb)
   |none=>(vs,kb)
  |_=>(vs,kb)
 | .ot i off,(vs,kb)=>match kb[i]? with
  |some (.cells l)=>match gR l off with
   |some (.any (.pointer none))=>match ij l off [.ae none]with
    |some l'=>(vs,kb.set i (KO.cells l'))
    |none=>(vs,kb)
   |some (.ptr j 0)=>match kb[j]? with
    |some (.cells m)=>match oo m with
     |some ds=>match ij l off [.ae (some ds)]with
      |some l'=>if i=j then(vs,kb)else(vs,(kb.set j .dead).set i (KO.cells l'))
      |none=>(vs,kb)
     |none=>(vs,kb)
    |_=>(vs,kb)
   |_=>(vs,kb)
  |_=>(vs,kb)
 | .mG i off aA aR agg sz,(vs,kb)=>match kb[i]? with
  |some (.cells l)=>match gR l off with
   |some (.any (.map none))=>match ij l off [.imp aA aR agg sz []]with
    |some l'=>(vs,kb.set i (KO.cells l'))
    |none=>(vs,kb)
   |some (.mp j)=>match kb[j]? with
    |some (.mp aA aR agg sz m)=>match ij l off [.imp aA aR agg sz m]with
     |some l'=>if i=j then(vs,kb)else(vs,(kb.set j .dead).set i (KO.cells l'))
     |none=>(vs,kb)
    |_=>(vs,kb)
   |_=>(vs,kb)
  |_=>(vs,kb)
def nA:List iB->List V×KB->List V×KB
 | [],s=>s
 |d::ds,s=>nA ds (jK d s)
theorem Inv.B_ {σ:Sg} {E:EH} {kb:KB} {W:World} (hi:Inv σ E kb W) (ty:TypeId) (sz:Nat):Step σ E kb W (σ++[⟨0,0,sz⟩]) E (kb++[.row ty sz []]) W:=
 hi.grow ⟨0,0,sz⟩ (.row ty sz []) rfl rfl rfl (aE _) (fun _ _=>rfl) (fun b hb=>absurd rfl hb.1) ⟨rfl,fun e he=>(by cases he),aE _,bF _,.inl rfl⟩
theorem C8 {σ:Sg} {E:EH} {kb:KB} (hl:σ.length=kb.length) (sz:Nat):Den (σ++[⟨0,0,sz⟩]) E (.sl kb.length 0 0) (.slice none 0 0):=by
 simp only[Den]
 exact⟨⟨0,0,sz⟩,none,by rw[<- hl];simp,rfl,aE _,aE _,fun h=>absurd h (Nat.lt_irrefl _)⟩
theorem Kr {σ:Sg} {E:EH} {vs:List V} {xs:List Value} (h:aw σ E vs xs) {k:Nat} {v u:V} {x:Value} (hv:vs[k]? =some v) (hx:∀ y,Den σ E v y->y=x) (hu:Den σ E u x):aw σ E (vs.set k u) xs:=by
 obtain⟨y,h1,h2⟩:=h.get hv
 have:=hx y h2
 subst this
 clear hx
 induction vs generalizing k xs with
 |nil=>simp at hv
 |cons w vs ih=>
  simp only[aw]at h
  obtain⟨z,zs,rfl,h3,h4⟩:=h
  cases k with
  |zero=>
   simp at h1
   subst h1
   exact .cons hu h4
  |succ k=>exact .cons h3 (ih h4 (by simpa using hv) (by simpa using h1))
theorem Ow {σ:Sg} {E:EH} {l:List V} {off:Nat} {v:V} (h:gR l off=some v) (hna:∀ m cs,v≠.arr m cs) {xs:List Value} (hd:aS σ E l xs):∃ y,xs[off]? =some y/\y.oneCell'=true/\Den σ E v y:=by
 unfold gR at h
 split at h<;>try (cases h;done)
 rename_i v' r hr
 cases h
 obtain⟨h1,h2⟩:=qi hr hd
 obtain⟨ys,zs,e,h3,h4⟩:=h1.gx
 rcases h3 with ⟨y,rfl,h5,hy⟩ | ⟨m,cs,e',_,_⟩
 ·refine⟨y,?_,h5,hy⟩
  have:=congrArg (fun z=>z[0]?) e
  simpa using this
 ·exact(hna _ _ e').elim
theorem ya {σ:Sg} {E:EH} {l l':List V} {xs:List Value} (h:aS σ E l xs) {off:Nat} {v u:V} {x:Value} (hv:gR l off=some v) (hna:∀ m cs,v≠.arr m cs) (hx:∀ y,Den σ E v y->y=x) (hu:Den σ E u x) (hl:ij l off [u]=some l'):aS σ E l' xs:=by
 obtain⟨y,h1,h2,h3⟩:=Ow hv hna h
 have:=hx y h3
 subst this
 obtain⟨h4,h5⟩:=sg hl h (.hU hu h2 .nil)
 have:splice xs off [y]=xs:=by
  apply km
  intro j
  rw[te (by omega)]
  split
  ·rfl
  ·split
   ·rename_i c1 c2
    have:j=off:=by simp at c2;omega
    subst this
    simp [h1]
   ·rfl
 rwa [this]at h4
theorem C7 {σ:Sg} {E:EH} {l l':List V} {xs:List Value} (h:aS σ E l xs) {off:Nat} {v u:V} (hv:gR l off=some v) (hna:∀ m cs,v≠.arr m cs) (hu:∀ y,Den σ E v y->Den σ E u y) (hl:ij l off [u]=some l'):aS σ E l' xs:=by
 obtain⟨y,h1,h2,h3⟩:=Ow hv hna h
 obtain⟨h4,h5⟩:=sg hl h (.hU (hu y h3) h2 .nil)
 have:splice xs off [y]=xs:=by
  apply km
  intro j
  rw[te (by omega)]
  split
  ·rfl
  ·split
   ·rename_i c1 c2
    have:j=off:=by simp at c2;omega
    subst this
    simp [h1]
   ·rfl
 rwa [this]at h4
theorem Inv.M_ {σ:Sg} {E:EH} {kb:KB} {W:World} (hi:Inv σ E kb W) {j:Nat} {ty:TypeId} {sz:Nat} {L:List (List D)} (hk:kb[j]? =some (.row ty sz L)):
  ∃ r,σ[j]? =some r/\Step σ E kb W (σ++[r]) E (kb.set j .dead++[KO.row ty sz L]) W:=by
 obtain⟨r,hr⟩:∃ r,σ[j]? =some r:=⟨_,bx (by rw[hi.len];exact(bU.1 hk).1)⟩
 exact⟨r,hr,hi.renew (W':=W) (r':=r) (o':=.row ty sz L) hr hk rfl rfl rfl (aE _) (fun _ _ _=>rfl) (fun b hb=> .inl hb) ((hi.obj j r _ hr hk).mono (EH.le.refl E) (fun _ _=>rfl))⟩
theorem Kt {σ:Sg} {E:EH} {kb:KB} (hl:σ.length=kb.length) {j lo hi:Nat} {r:Re} (hr:σ[j]? =some r) {y:Value} (hy:Den (σ++[r]) E (.sl j lo hi) y):Den (σ++[r]) E (.sl kb.length lo hi) y:=by
 simp only[Den]at hy ⊢
 obtain⟨r',a,h1,h2⟩:=hy
 rw[fE hr]at h1
 cases h1
 exact⟨r,a,by rw[<- hl];simp,h2⟩
theorem Inv.Wt {σ:Sg} {E:EH} {kb:KB} {W:World} (hi:Inv σ E kb W) {j:Nat} {o:KO} (hk:kb[j]? =some o):
  ∃ r,σ[j]? =some r/\Step σ E kb W (σ++[r]) E (kb.set j .dead++[o]) W:=by
 obtain⟨r,hr⟩:∃ r,σ[j]? =some r:=⟨_,bx (by rw[hi.len];exact(bU.1 hk).1)⟩
 exact⟨r,hr,hi.renew (W':=W) (r':=r) (o':=o) hr hk rfl rfl rfl (aE _) (fun _ _ _=>rfl) (fun b hb=> .inl hb) ((hi.obj j r _ hr hk).mono (EH.le.refl E) (fun _ _=>rfl))⟩
theorem Zz {σ:Sg} {E:EH} {kb:KB} (hl:σ.length=kb.length) {j:Nat} {v u:V} (hv:zV kb.length v=some (j,u)) {r:Re} (hr:σ[j]? =some r) {y:Value} (hy:Den (σ++[r]) E v y):Den (σ++[r]) E u y:=by
 have hn:(σ++[r])[kb.length]? =some r:=by rw[<- hl];simp
 cases v<;>simp only[zV,reduceCtorEq,bh.injEq,Prod.mk.injEq]at hv
 all_goals
  obtain⟨rfl,rfl⟩:=hv
  simp only[Den]at hy ⊢
  obtain⟨r',h1,h2⟩:=hy
  rw[fE hr]at h1
  cases h1
  exact⟨r,hn,h2⟩
theorem yc {σ:Sg} {E:EH} {vs:List V} {xs:List Value} (h:aw σ E vs xs) {k:Nat} {v u:V} (hv:vs[k]? =some v) (hu:∀ y,Den σ E v y->Den σ E u y):aw σ E (vs.set k u) xs:=by
 obtain⟨y,h1,h2⟩:=h.get hv
 have h3:=hu y h2
 clear hu h2
 induction vs generalizing k xs with
 |nil=>simp at hv
 |cons w vs ih=>
  simp only[aw]at h
  obtain⟨z,zs,rfl,h4,h5⟩:=h
  cases k with
  |zero=>
   simp at h1
   subst h1
   exact .cons h3 h5
  |succ k=>exact .cons h4 (ih h5 (by simpa using hv) (by simpa using h1))
theorem WA {c:Cx} {E:EH} {W:World}:∀(d:iB) (_:d.CO=false) {σ:Sg} {vs:List V} {kb:KB} {xs:List Value},Step c.σ c.E c.kb c.W σ E kb W->aw σ E vs xs->∃ σ',Step c.σ c.E c.kb c.W σ' E (jK d (vs,kb)).2 W/\aw σ' E (jK d (vs,kb)).1 xs
 | .slot k ty sz,_,σ,vs,kb,xs,hs,hd=>by
  simp only[jK]
  split
  ·rename_i hk
   have hst:=hs.inv.B_ ty sz
   exact⟨_,hs.trans hst,Kr (aw.mono (EH.le.refl E) hd) hk (fun y hy=>by simpa only[Den]using hy) (C8 hs.inv.len sz)⟩
  ·exact⟨σ,hs,hd⟩
 | .cell i off ty sz,_,σ,vs,kb,xs,hs,hd=>by
  simp only[jK]
  split
  ·rename_i l hl
   split
   ·rename_i hk
    split
    ·rename_i l' hl'
     have hst:=hs.inv.B_ ty sz
     have hi2:=hst.inv
     have hlt:i<kb.length:=(bU.1 hl).1
     have hkb:(kb++[KO.row ty sz []])[i]? =some (.cells l):=by rw[eH hlt];exact hl
     obtain⟨r,hr⟩:∃ r,(σ++[⟨0,0,sz⟩])[i]? =some r:=⟨_,bx (by rw[hi2.len];simp;omega)⟩
     obtain⟨arr,ty',h1,h2⟩:=hi2.obj i r _ hr hkb
     have dG:=hi2.set (o':=.cells l') hr hkb rfl rfl rfl rfl (fun _ _=>rfl) (fun b hb=>hb) ⟨arr,ty',h1,ya h2 hk (fun _ _ h=>by cases h) (fun y hy=>by simpa only[Den]using hy) (C8 hs.inv.len sz) hl'⟩
     exact⟨_,hs.trans (hst.trans dG),aw.mono (EH.le.refl E) hd⟩
    ·exact⟨σ,hs,hd⟩
   ·exact⟨σ,hs,hd⟩
  ·exact⟨σ,hs,hd⟩
 | .bq k off ty sz,_,σ,vs,kb,xs,hs,hd=>by
  simp only[jK]
  split
  ·rename_i l hk
   split
   ·rename_i hp
    split
    ·rename_i l' hl'
     have hst:=hs.inv.B_ ty sz
     refine⟨_,hs.trans hst,yc (aw.mono (EH.le.refl E) hd) hk fun y hy=>?_⟩
     simp only[Den]at hy ⊢
     obtain⟨zs,rfl,hz⟩:=hy
     exact⟨zs,rfl,ya hz hp (fun _ _ h=>by cases h) (fun y hy=>by simpa only[Den]using hy) (C8 hs.inv.len sz) hl'⟩
    ·exact⟨σ,hs,hd⟩
   ·exact⟨σ,hs,hd⟩
  ·exact⟨σ,hs,hd⟩
 | .Pu k sz,_,σ,vs,kb,xs,hs,hd=>by
  simp only[jK]
  split
  ·rename_i hk
   exact⟨_,hs,Kr hd hk (fun y hy=>by simpa only[Den]using hy) (by simp only[Den];exact⟨none,0,rfl,aE _,.inl rfl⟩)⟩
  ·exact⟨σ,hs,hd⟩
 | .K4 k off sz,_,σ,vs,kb,xs,hs,hd=>by
  simp only[jK]
  split
  ·rename_i l hk
   split
   ·rename_i hp
    split
    ·rename_i l' hl'
     refine⟨_,hs,yc hd hk fun y hy=>?_⟩
     simp only[Den]at hy ⊢
     obtain⟨zs,rfl,hz⟩:=hy
     exact⟨zs,rfl,ya hz hp (fun _ _ h=>by cases h) (fun y hy=>by simpa only[Den]using hy) (by simp only[Den];exact⟨none,0,rfl,aE _,.inl rfl⟩) hl'⟩
    ·exact⟨σ,hs,hd⟩
   ·exact⟨σ,hs,hd⟩
  ·exact⟨σ,hs,hd⟩
 | .rf i off sz,_,σ,vs,kb,xs,hs,hd=>by
  simp only[jK]
  split
  ·rename_i l hl
   split
   ·rename_i hk
    split
    ·rename_i l' hl'
     have hi2:=hs.inv
     obtain⟨r,hr⟩:∃ r,σ[i]? =some r:=⟨_,bx (by rw[hi2.len];exact(bU.1 hl).1)⟩
     obtain⟨arr,ty',h1,h2⟩:=hi2.obj i r _ hr hl
     have dG:=hi2.set (o':=.cells l') hr hl rfl rfl rfl rfl (fun _ _=>rfl) (fun b hb=>hb) ⟨arr,ty',h1,ya h2 hk (fun _ _ h=>by cases h) (fun y hy=>by simpa only[Den]using hy) (by simp only[Den];exact⟨none,0,rfl,aE _,.inl rfl⟩) hl'⟩
     exact⟨_,hs.trans dG,hd⟩
    ·exact⟨σ,hs,hd⟩
   ·exact⟨σ,hs,hd⟩
  ·exact⟨σ,hs,hd⟩
 | .mv i off,_,σ,vs,kb,xs,hs,hd=>by
  simp only[jK]
  split
  ·rename_i l hl
   split
   ·rename_i j lo hi hk
    split
    ·rename_i ty sz L hj
     split
     ·rename_i l' hl'
      obtain⟨r,hr,hst⟩:=hs.inv.M_ hj
      have hi2:=hst.inv
      have hne:i≠j:=fun e=>by subst e;rw[hl]at hj;cases hj
      have hlt:i<kb.length:=(bU.1 hl).1
      have hkb:(kb.set j .dead++[KO.row ty sz L])[i]? =some (.cells l):=by
       rw[eH (by simpa using hlt),fR (Ne.symm hne)];exact hl
      obtain⟨ri,rH⟩:∃ ri,(σ++[r])[i]? =some ri:=⟨_,bx (by rw[hi2.len];simp;omega)⟩
      obtain⟨arr,ty',h1,h2⟩:=hi2.obj i ri _ rH hkb
      have dG:=hi2.set (o':=.cells l') rH hkb rfl rfl rfl rfl (fun _ _=>rfl) (fun b hb=>hb) ⟨arr,ty',h1,C7 h2 hk (fun _ _ h=>by cases h) (fun y hy=>Kt hs.inv.len hr hy) hl'⟩
      exact⟨_,hs.trans (hst.trans dG),aw.mono (EH.le.refl E) hd⟩
     ·exact⟨σ,hs,hd⟩
    ·exact⟨σ,hs,hd⟩
   ·exact⟨σ,hs,hd⟩
  ·exact⟨σ,hs,hd⟩
 | .Nc k,_,σ,vs,kb,xs,hs,hd=>by
  simp only[jK]
  split
  ·rename_i j lo hi hk
   split
   ·rename_i ty sz L hj
    obtain⟨r,hr,hst⟩:=hs.inv.M_ hj
    exact⟨_,hs.trans hst,yc (aw.mono (EH.le.refl E) hd) hk (fun y hy=>Kt hs.inv.len hr hy)⟩
   ·exact⟨σ,hs,hd⟩
  ·exact⟨σ,hs,hd⟩
 | .Nb i off,_,σ,vs,kb,xs,hs,hd=>by
  simp only[jK]
  split
  ·rename_i l hl
   split
   ·rename_i v hk
    split
    ·rename_i j u hu
     split
     ·rename_i o hj
      split
      ·rename_i l' hl'
       split
       ·exact⟨σ,hs,hd⟩
       ·rename_i hne
        obtain⟨r,hr,hst⟩:=hs.inv.Wt hj
        have hi2:=hst.inv
        have hlt:i<kb.length:=(bU.1 hl).1
        have hkb:(kb.set j .dead++[o])[i]? =some (.cells l):=by
         rw[eH (by simpa using hlt),fR (Ne.symm hne)];exact hl
        obtain⟨ri,rH⟩:∃ ri,(σ++[r])[i]? =some ri:=⟨_,bx (by rw[hi2.len];simp;omega)⟩
        obtain⟨arr,ty',h1,h2⟩:=hi2.obj i ri _ rH hkb
        have hna:∀ m cs,v≠.arr m cs:=fun m cs e=>by subst e;simp [zV]at hu
        have dG:=hi2.set (o':=.cells l') rH hkb rfl rfl rfl rfl (fun _ _=>rfl) (fun b hb=>hb) ⟨arr,ty',h1,C7 h2 hk hna (fun y hy=>Zz hs.inv.len hu hr hy) hl'⟩
        exact⟨_,hs.trans (hst.trans dG),aw.mono (EH.le.refl E) hd⟩
      ·exact⟨σ,hs,hd⟩
     ·exact⟨σ,hs,hd⟩
    ·exact⟨σ,hs,hd⟩
   ·exact⟨σ,hs,hd⟩
  ·exact⟨σ,hs,hd⟩
 | .pj k,hno,_,_,_,_,_,_=>by cases hno
 | .ot ..,hno,_,_,_,_,_,_=>by cases hno
 | .mG ..,hno,_,_,_,_,_,_=>by cases hno
 | .kill i,_,σ,vs,kb,xs,hs,hd=>by
  simp only[jK]
  split
  ·rename_i o ho
   have hi2:=hs.inv
   obtain⟨r,hr⟩:∃ r,σ[i]? =some r:=⟨_,bx (by rw[hi2.len];exact(bU.1 ho).1)⟩
   have dG:=hi2.set (o':=.dead) hr ho rfl rfl rfl rfl (fun _ _=>rfl) (fun b hb=>hb.elim) trivial
   exact⟨_,hs.trans dG,hd⟩
  ·exact⟨σ,hs,hd⟩
theorem Wz {c:Cx} {E:EH} {W:World}:∀(d:iB) {σ:Sg} {vs:List V} {kb:KB} {xs:List Value},Step c.σ c.E c.kb c.W σ E kb W->aw σ E vs xs->∃ σ' E',Step c.σ c.E c.kb c.W σ' E' (jK d (vs,kb)).2 W/\aw σ' E' (jK d (vs,kb)).1 xs/\E.le E':=fun d σ vs kb xs hs hd=>by
 have sq:∀{σ:Sg} {E:EH} {kb:KB} {i off:Nat} {l l':List V} {v u:V} {vs:List V} {xs:List Value},Step c.σ c.E c.kb c.W σ E kb W->kb[i]? =some (.cells l)->gR l off=some v->(∀ m cs,v≠.arr m cs)->(∀ y,Den σ E v y->Den σ E u y)->ij l off [u]=some l'->aw σ E vs xs->Step c.σ c.E c.kb c.W σ E (kb.set i (KO.cells l')) W/\aw σ E vs xs:=by
  intro σ E kb i off l l' v u vs xs hs hl hk hna hu hl' hd
  have hi2:=hs.inv
  obtain⟨r,hr⟩:∃ r,σ[i]? =some r:=⟨_,bx (by rw[hi2.len];exact(bU.1 hl).1)⟩
  obtain⟨arr,ty',h1,h2⟩:=hi2.obj i r _ hr hl
  have dG:=hi2.set (o':=.cells l') hr hl rfl rfl rfl rfl (fun _ _=>rfl) (fun b hb=>hb) ⟨arr,ty',h1,C7 h2 hk hna hu hl'⟩
  exact⟨hs.trans dG,hd⟩
 cases hch:d.CO with
 |false=>
  obtain⟨σ',h1,h2⟩:=WA d hch hs hd
  exact⟨σ',E,h1,h2,EH.le.refl E⟩
 |true=>
 cases d<;>simp only[iB.CO,Bool.false_eq_true]at hch
 ·rename_i k
  simp only[jK]
  split
  ·rename_i i hk
   split
   ·rename_i l hl
    split
    ·rename_i ds hds
     have hi2:=hs.inv
     obtain⟨r,hr⟩:∃ r,σ[i]? =some r:=⟨_,bx (by rw[hi2.len];exact(bU.1 hl).1)⟩
     obtain⟨E',hst,eC⟩:=hi2.La hr hl hds
     have hd':=aw.mono (τ:=[]) hst.le hd
     rw[fg]at hd'
     refine⟨σ,E',hs.trans hst,yc hd' hk (fun y hy=>?_),hst.le⟩
     simp only[Den]at hy ⊢
     obtain⟨r',h1,rfl⟩:=hy
     rw[hr]at h1;cases h1
     exact⟨r.blk,0,rfl,eC⟩
    ·exact⟨σ,E,hs,hd,EH.le.refl E⟩
   ·exact⟨σ,E,hs,hd,EH.le.refl E⟩
  ·exact⟨σ,E,hs,hd,EH.le.refl E⟩
 ·rename_i i off
  simp only[jK]
  split
  ·rename_i l hl
   split
   ·rename_i hk
    split
    ·rename_i l' hl'
     obtain⟨h1,h2⟩:=sq (u:=.ae none) hs hl hk (fun _ _ h=>by cases h) (fun y hy=>by simp only[Den]at hy ⊢;exact .inl ⟨rfl,hy⟩) hl' hd
     exact⟨σ,E,h1,h2,EH.le.refl E⟩
    ·exact⟨σ,E,hs,hd,EH.le.refl E⟩
   ·rename_i j hk
    split
    ·rename_i m hm
     split
     ·rename_i ds hds
      split
      ·rename_i l' hl'
       split
       ·exact⟨σ,E,hs,hd,EH.le.refl E⟩
       ·rename_i hne
        have hi2:=hs.inv
        obtain⟨r,hr⟩:∃ r,σ[j]? =some r:=⟨_,bx (by rw[hi2.len];exact(bU.1 hm).1)⟩
        obtain⟨E',hst,eC⟩:=hi2.La hr hm hds
        have hd':=aw.mono (τ:=[]) hst.le hd
        rw[fg]at hd'
        have hl2:(kb.set j .dead)[i]? =some (.cells l):=by rw[fR (Ne.symm hne)];exact hl
        obtain⟨h1,h2⟩:=sq (u:=.ae (some ds)) (hs.trans hst) hl2 hk (fun _ _ h=>by cases h) (fun y hy=>by
         simp only[Den]at hy ⊢
         obtain⟨r',h1,rfl⟩:=hy
         rw[hr]at h1;cases h1
         exact .inr ⟨ds,r.blk,rfl,rfl,eC⟩) hl' hd'
        exact⟨σ,E',h1,h2,hst.le⟩
      ·exact⟨σ,E,hs,hd,EH.le.refl E⟩
     ·exact⟨σ,E,hs,hd,EH.le.refl E⟩
    ·exact⟨σ,E,hs,hd,EH.le.refl E⟩
   ·exact⟨σ,E,hs,hd,EH.le.refl E⟩
  ·exact⟨σ,E,hs,hd,EH.le.refl E⟩
 ·rename_i i off aA aR agg sz
  simp only[jK]
  split
  ·rename_i l hl
   split
   ·rename_i hk
    split
    ·rename_i l' hl'
     obtain⟨h1,h2⟩:=sq (u:=.imp aA aR agg sz []) hs hl hk (fun _ _ h=>by cases h) (fun y hy=>by simp only[Den]at hy ⊢;exact⟨none,hy,rfl⟩) hl' hd
     exact⟨σ,E,h1,h2,EH.le.refl E⟩
    ·exact⟨σ,E,hs,hd,EH.le.refl E⟩
   ·rename_i j hk
    split
    ·rename_i VT VM R9 sz' m hm
     split
     ·rename_i l' hl'
      split
      ·exact⟨σ,E,hs,hd,EH.le.refl E⟩
      ·rename_i hne
       have hi2:=hs.inv
       obtain⟨r,hr⟩:∃ r,σ[j]? =some r:=⟨_,bx (by rw[hi2.len];exact(bU.1 hm).1)⟩
       obtain⟨E',hst,eC⟩:=hi2.TS hr hm
       have hd':=aw.mono (τ:=[]) hst.le hd
       rw[fg]at hd'
       have hl2:(kb.set j .dead)[i]? =some (.cells l):=by rw[fR (Ne.symm hne)];exact hl
       obtain⟨h1,h2⟩:=sq (u:=.imp VT VM R9 sz' m) (hs.trans hst) hl2 hk (fun _ _ h=>by cases h) (fun y hy=>by
        simp only[Den]at hy ⊢
        obtain⟨r',h1,rfl⟩:=hy
        rw[hr]at h1;cases h1
        exact⟨some r.blk,rfl,eC⟩) hl' hd'
       exact⟨σ,E',h1,h2,hst.le⟩
     ·exact⟨σ,E,hs,hd,EH.le.refl E⟩
    ·exact⟨σ,E,hs,hd,EH.le.refl E⟩
   ·exact⟨σ,E,hs,hd,EH.le.refl E⟩
  ·exact⟨σ,E,hs,hd,EH.le.refl E⟩
theorem vM {c:Cx} {W:World}:∀(ds:List iB) {E:EH} {σ:Sg} {s:List V×KB} {xs:List Value},Step c.σ c.E c.kb c.W σ E s.2 W->aw σ E s.1 xs->∃ σ' E',Step c.σ c.E c.kb c.W σ' E' (nA ds s).2 W/\aw σ' E' (nA ds s).1 xs/\E.le E'
 | [],E,σ,s,xs,hs,hd=>⟨σ,E,hs,hd,EH.le.refl E⟩
 |d::ds,E,σ,s,xs,hs,hd=>by
  obtain⟨σ',E',h1,h2,h3⟩:=Wz d hs hd
  obtain⟨σ2,E2,h4,h5,h6⟩:=vM ds h1 h2
  exact⟨σ2,E2,h4,h5,h3.trans h6⟩
structure At (li:LI) (s:List V×KB):Prop where
 has:∃ i,s=li.st i
structure Nx (li:LI) (i:li.α) (s:List V×KB):Prop where
 has:∃ j,s=li.st j/\li.μ j<li.μ i
theorem At.mk' {li:LI} {s:List V×KB} (i:li.α) (h:s=li.st i):At li s:=⟨i,h⟩
theorem Nx.mk' {li:LI} {i:li.α} {s:List V×KB} (j:li.α) (h:s=li.st j) (k:li.μ j<li.μ i):Nx li i s:=⟨j,h,k⟩
def nU (n0:Nat) (dN:List iB) (live:List Nat) (fr:Fr) (kb:KB) (R:List V×KB->Prop):Prop:=
 match vH fr live with
 |some vals=>match canon n0 vals kb with
  |some (vs,kb',_)=>match dN with
   | []=>R (vs,kb')
   |d::ds=>match canon n0 (nA (d::ds) (vs,kb')).1 (nA (d::ds) (vs,kb')).2 with
    |some (vs2,bC,_)=>R (vs2,bC)
    |none=>False
  |none=>False
 |none=>False
def iter (R:(Exit->Fr->KB->Prop)->Fr->KB->Prop) (Q:Exit->Fr->KB->Prop):Nat->Fr->KB->Prop
 | 0,_,_=>False
 |m+1,fr,kb=>R (fun e fr kb=>match e with | .normal=>iter R Q m fr kb | e=>Q e fr kb) fr kb
structure Bh (c:Cx) (n:Nat) (Q:Exit->Fr->KB->Prop) (Q':Exit->Act->World->Prop):Prop where
 hat:∀ e a W,il c n (Q e) a W->Q' e a W
 l7:∀ ch a a' w,Q' (.panic ch) a w->Q' (.panic ch) a' w
theorem MQ {σ:Sg} {E:EH} {fr:Fr} {n:Nat} {a:Act} (h:dL σ E fr n a):∀{live:List Nat} {vals:List V},vH fr live=some vals->∃ xs:List Value,aw σ E vals xs/\xs.length=live.length/\∀(k t:Nat) (x:Value),live[k]? =some t->xs[k]? =some x->a.tmps[t]? =some x
 | [],vals,hv=>by simp only[vH,bh.injEq]at hv;subst hv;exact⟨[],.nil,rfl,by simp⟩
 |t::ts,vals,hv=>by
  simp only[vH]at hv
  split at hv<;>try (cases hv;done)
  rename_i v hl
  split at hv<;>try (cases hv;done)
  rename_i vs hvs
  cases hv
  obtain⟨x,h1,h2⟩:=h.get t v hl
  obtain⟨xs,h3,h4,h5⟩:=MQ h hvs
  refine⟨x::xs,.cons h2 h3,by simp [h4],fun k u y hk hy=>?_⟩
  cases k with
  |zero=>simp at hk hy;subst hk;subst hy;exact h1
  |succ k=>exact h5 k u y (by simpa using hk) (by simpa using hy)
theorem Fc {σ:Sg} {E:EH}:∀{live:List Nat} {vs:List V} {xs:List Value},aw σ E vs xs->∀{t:Nat} {v:V},look (live.zip vs) t=some v->∃(k:Nat) (x:Value),live[k]? =some t/\xs[k]? =some x/\Den σ E v x
 | [],_,_,_,t,v,h=>by simp [look]at h
 |u::live,[],_,_,t,v,h=>by simp [look]at h
 |u::live,w::vs,xs,hd,t,v,h=>by
  simp only[aw]at hd
  obtain⟨x,xs',rfl,h1,h2⟩:=hd
  simp only[List.zip_cons_cons,look]at h
  split at h
  ·rename_i hb
   have:=cy hb
   subst this
   cases h
   exact⟨0,x,rfl,rfl,h1⟩
  ·obtain⟨k,y,k1,k2,k3⟩:=Fc h2 h
   exact⟨k+1,y,by simpa using k1,by simpa using k2,k3⟩
theorem uT {c:Cx} {dN:List iB} {live:List Nat} {fr:Fr} {kb:KB} {R:List V×KB->Prop} (h:nU c.σ.length dN live fr kb R) {σ:Sg} {E:EH} {n:Nat} {a:Act} {W:World} (hs:Step c.σ c.E c.kb c.W σ E kb W) (hf:dL σ E fr n a):
  ∃ s,R s/\il c n (fun fr' kb'=>fr'=live.zip s.1/\kb'=s.2) a W:=by
 unfold nU at h
 split at h<;>try exact h.elim
 rename_i vals Vt
 split at h<;>try exact h.elim
 rename_i vs kb' o hc
 obtain⟨xs,h1,h2,h3⟩:=MQ hf Vt
 obtain⟨σ',h4,h5⟩:=hs.sel hc h1
 split at h
 ·refine⟨(vs,kb'),h,σ',E,live.zip vs,kb',h4,⟨hf.size,hf.defers,fun t v hv=>?_⟩,rfl,rfl⟩
  obtain⟨k,x,k1,k2,k3⟩:=Fc h5 hv
  exact⟨x,h3 k t x k1 k2,k3⟩
 ·rename_i d ds
  split at h<;>try exact h.elim
  rename_i vs2 bC o2 gM
  obtain⟨σ2,E2,h6,h7,th⟩:=vM (c:=c) (d::ds) (s:=(vs,kb')) h4 h5
  obtain⟨σ3,h8,h9⟩:=h6.sel gM h7
  refine⟨(vs2,bC),h,σ3,E2,live.zip vs2,bC,h8,⟨hf.size,hf.defers.mono th,fun t v hv=>?_⟩,rfl,rfl⟩
  obtain⟨k,x,k1,k2,k3⟩:=Fc h9 hv
  exact⟨x,h3 k t x k1 k2,k3⟩
abbrev FW (r:Option Nat):Fence:={Fence.wide with round:=r }
theorem SL {r:Option Nat} {n:Nat} {P:Program} {f:FuncId} {args:Array Value} {w:World} {R:Ending->World->Prop} (h:Calls P f args w R):CallsIn (FW r) n P f args w R:=
 (callsIn_wide (n:=n)).2 h
theorem ZF {r:Option Nat} {n:Nat} {P:Program} {row:String} {args:Array Value} {w:World} {R:Value->World->Prop} (h:Rows P row args w R):RowsIn (FW r) n P row args w R:=
 fun c cs _=>let ⟨v,w',q,s⟩:=h c cs;⟨v,w',q,(stepsIn_wide (P:=P)).2 s⟩
theorem zJ {r:Option Nat} {n:Nat} {P:Program} {o:Oper} {a:Act} {w:World} {next:Act->World->Prop} {Q:Exit->Act->World->Prop} (hnd:∀ c,o.op≠.defer c) (h:o.wp P a w next Q):o.wpIn (FW r) n P a w next Q:=by
 refine⟨fun _ _=>trivial,?_⟩
 show o.uponIn (FW r) n P a next Q ((o.semAt r a.eval).run P w)
 rw[Oper.semAt_eq r a.eval o hnd]
 unfold Oper.wp at h
 generalize (execOp a.eval o).run P w=res at h
 cases res with
 |ok x w'=>
  cases x with
  |value v=>exact h
  |skip=>exact h
  |defer d=>exact h
  |enter f args=>exact⟨fun q=>(by cases q),SL h⟩
  |row row args=>exact⟨fun q=>(by cases q),ZF h⟩
  |round l f tmps assign body=>exact h.elim
  |_=>exact h.elim
 |halt x w'=>
  cases x with
  |panic v=>exact h
  |_=>exact h.elim
def FE (ops:Array Oper):Bool:=ops.toList.all fun o=>match o.op with | .defer _=>false | _=>true
theorem Nk {ops:Array Oper} (h:FE ops=true):∀ o∈ops.toList,∀ c,o.op≠.defer c:=fun o ho c e=>by
 have:=List.all_eq_true.1 h o ho
 rw[e]at this
 cases this
theorem MO {r:Option Nat} {n:Nat} {P:Program} {ops:Array Oper} {Q:Exit->Act->World->Prop} (hout:¬ LetsOut Q):∀{l:List Oper},(∀ o∈l,∀ c,o.op≠.defer c)->∀{a:Act} {w:World},wpList P ops Q l a w->wpListIn (FW r) n P ops Q l a w
 | [],_,a,w,h=>h
 |o::l,hl,a,w,h=>by
  have ih:∀ a w,wpList P ops Q l a w->wpListIn (FW r) n P ops Q l a w:=fun a w=>MO hout (fun o ho=>hl o (fS _ ho))
  simp only[wpList]at h
  simp only[wpListIn]
  split
  ·rename_i hw
   rw[if_pos hw]at h
   rcases h with h | ⟨_,h⟩
   ·exact Oper.wpIn_mono ih (zJ (hl o iA) h)
   ·exact absurd h hout
  ·rename_i hw
   rw[if_neg hw]at h
   exact⟨fun _ _=>trivial,ih _ _ h⟩
theorem Ys {r:Option Nat} {n:Nat} {P:Program} {ops:Array Oper} {Q:Exit->Act->World->Prop} (hout:¬ LetsOut Q) (hd:∀ o∈ops.toList,∀ c,o.op≠.defer c) {i:Nat} {K K':Act->World->Prop} (hK:∀ a w,K a w->K' a w) {a:Act} {w:World} (h:wpOp P ops Q i K a w):wpOpIn (FW r) n P ops Q i K' a w:=by
 unfold wpOp at h
 unfold wpOpIn
 split at h
 ·rename_i ho;rw[ho];exact hK _ _ h
 ·rename_i o ho
  rw[ho]
  have hm:o∈ops.toList:=by
   obtain⟨hlt,rfl⟩:=Array.getElem?_eq_some_iff.1 ho
   simp
  simp only
  split
  ·rename_i hw
   rw[if_pos hw]at h
   rcases h with h | ⟨_,h⟩
   ·exact Oper.wpIn_mono hK (zJ (hd o hm) h)
   ·exact absurd h hout
  ·rename_i hw
   rw[if_neg hw]at h
   exact⟨fun _ _=>trivial,hK _ _ h⟩
theorem Js {r:Option Nat} {n:Nat} {P:Program} {md:Region.Mode} {ops:Array Oper} {Q:Exit->Act->World->Prop} (hout:¬ LetsOut Q) (hd:∀ o∈ops.toList,∀ c,o.op≠.defer c):∀{fuel:Nat} {listed:Array Bool} {a:Act} {w:World},wpAny P md ops Q fuel listed a w->wpAnyIn (FW r) n P md ops Q fuel listed a w
 | 0,listed,a,w,h=>h
 |fuel+1,listed,a,w,h=>⟨h.1,fun i hi=>Ys hout hd (fun a w h=>Js hout hd h) (h.2 i hi)⟩
def oD (P:Program) (fr:Fr) (kb:KB):List ResultVar->(List V->Prop)->Prop
 | [],K=>K []
 | .tmp t::rs,K=>match look fr t with | some v=>oD P fr kb rs (fun vs=>K (v::vs)) | none=>False
 | .cell t ty::rs,K=>match look fr t with | some ad=>lD P ty ad kb (fun v=>oD P fr kb rs (fun vs=>K (v::vs))) | none=>False
def qH:List V->V
 | [v]=>v
 |vs=> .υ vs
def fin (P:Program) (fn:Func) (K:V->KB->Prop):Exit->Fr->KB->Prop
 | .normal,fr,kb=>oD P fr kb fn.results.toList (fun vs=>K (qH vs) kb)
 | .ret,fr,kb=>oD P fr kb fn.results.toList (fun vs=>K (qH vs) kb)
 |_,_,_=>False
theorem Gt {P:Program} {fr:Fr} {kb:KB} {σ:Sg} {E:EH} {n:Nat} {a:Act} (hf:dL σ E fr n a) {W:World} (hi:Inv σ E kb W):∀{rs:List ResultVar} {K:List V->Prop},oD P fr kb rs K->
  ∃ vs xs,K vs/\aw σ E vs xs/\(rs.mapM (m:=Sem) fun | .tmp t=>pure (a.tmps.getD t undef) | .cell t ty=>do loadVar ty (<- asAddr (a.tmps.getD t undef))).run P W= .ok xs W
 | [],K,h=>⟨[],[],h,.nil,by simp⟩
 | .tmp t::rs,K,h=>by
  simp only[oD]at h
  split at h<;>try exact h.elim
  rename_i v hv
  obtain⟨x,h1,h2⟩:=hf.get t v hv
  obtain⟨vs,xs,h3,h4,h5⟩:=Gt hf hi h
  refine⟨_,x::xs,h3,.cons h2 h4,?_⟩
  rw[List.mapM_cons,Sem.run_bind,Sem.run_pure,Result.andThen_ok,Sem.run_bind,h5,Result.andThen_ok]
  simp [Array.getD_eq_getD_getElem?,h1]
 | .cell t ty::rs,K,h=>by
  simp only[oD]at h
  split at h<;>try exact h.elim
  rename_i ad had
  obtain⟨x,h1,h2⟩:=hf.get t ad had
  obtain⟨v,y,h6,h7,h8⟩:=E_ h hi h2
  obtain⟨vs,xs,h3,h4,h5⟩:=Gt hf hi h8
  refine⟨_,y::xs,h3,.cons h7 h4,?_⟩
  have hx:a.tmps.getD t undef=x:=by simp [Array.getD_eq_getD_getElem?,h1]
  have U3:(do loadVar ty (<- asAddr x):Sem Value).run P W= .ok y W:=by
   unfold Instr.loadAt at h6
   cases x with
   |pointer p=>cases p with
    |some p=>simpa [Instr.sureAddr,asAddr]using h6
    |none=>simp [Instr.sureAddr]at h6
   |_=>simp [Instr.sureAddr]at h6
  rw[List.mapM_cons,Sem.run_bind]
  simp only[hx]
  rw[U3,Result.andThen_ok,Sem.run_bind,h5,Result.andThen_ok]
  simp
def qd:Nat->List V->Fr
 |_,[]=>[]
 |k,v::vs=>(k,v)::qd (k+1) vs
theorem Fb {σ:Sg} {E:EH}:∀{vs:List V} {xs:List Value} (k:Nat),aw σ E vs xs->∀{t:Nat} {v:V},look (qd k vs) t=some v->∃ x,k<=t/\xs[t - k]? =some x/\Den σ E v x
 | [],_,k,_,t,v,h=>by simp [qd,look]at h
 |w::vs,xs,k,hd,t,v,h=>by
  simp only[aw]at hd
  obtain⟨x,xs',rfl,h1,h2⟩:=hd
  simp only[qd,look]at h
  split at h
  ·rename_i hb
   have:=cy hb
   subst this
   cases h
   exact⟨x,aE _,by simp,h1⟩
  ·obtain⟨y,h3,h4,h5⟩:=Fb (k+1) h2 h
   exact⟨y,by omega,by rw[show t - k=(t - (k+1))+1 by omega];simpa using h4,h5⟩
theorem KQ {P:Program} {fn:Func} {fr:Fr} {kb:KB} {K:V->KB->Prop} {σ:Sg} {E:EH} {n:Nat} {a:Act} {W:World} (hf:dL σ E fr n a) (hi:Inv σ E kb W) (h:oD P fr kb fn.results.toList (fun vs=>K (qH vs) kb)):
  ∃ v r,(results fn a.tmps).run P W= .ok v W/\Den σ E r v/\K r kb:=by
 obtain⟨vs,ys,h1,h2,h3⟩:=Gt hf hi h
 have hrun:(results fn a.tmps).run P W= .ok (if h:ys.toArray.size=1 then ys.toArray[0]else .tuple ys.toArray) W:=by
  unfold results
  rw[Sem.run_bind,Array.mapM_eq_mapM_toList]
  simp only[Sem.run_map]
  exact(congrArg (fun z=>Result.andThen (Result.andThen z (fun(a:List Value) w'=>Result.ok a.toArray w')) (fun(a:Array Value) w'=>Sem.run P (pure (if h:a.size=1 then a[0]else Value.tuple a)) w')) h3).trans rfl
 refine⟨_,qH vs,hrun,?_,h1⟩
 match vs,ys,h2 with
 | [v],ys,h2=>
  simp only[aw]at h2
  obtain⟨x,xs',rfl,h4,rfl⟩:=h2
  exact h4
 | [],ys,h2=>
  simp only[aw]at h2
  subst h2
  simp [qH,Den,aw]
 |v::w::vs,ys,h2=>
  have hl:=h2.len
  have:¬ ys.toArray.size=1:=by simp [hl]
  rw[dif_neg this]
  simp only[qH,Den]
  exact⟨ys,rfl,h2⟩
theorem TG {P:Program} {o:Oper} {g:Operand} {args:Array Operand} {ats:Array TypeId} (ho:o.op= .call {callee:=.value g,args:=args,argTypes:=ats }) {a:Act} {W:World} {l:Nat} (hg:a.eval g= .func (.yield l) #[] #[]):
  (execOp a.eval o).run P W=(Instr.yield l (args.map a.eval)).run P W:=by
 have e:execOp a.eval o=(do let d <- resolve a.eval {callee:=.value g,args:=args,argTypes:=ats } o.type;invoke d.target d.args):=by unfold execOp;rw[ho]
 have r:resolve a.eval {callee:=.value g,args:=args,argTypes:=ats } o.type=pure {target:=.fn (.yield l) #[],args:=args.map a.eval }:=by
  unfold resolve
  simp only[hg,Deferred.ofValue,Array.empty_append]
 rw[e,r,Sem.run_bind]
 simp [invoke,Result.andThen]
def kc (P:Program) (X:bM) (n:Nat):Code->(Exit->Fr->KB->Prop)->Fr->KB->Prop
 | .skip,Q,fr,kb=>Q .normal fr kb
 | .label _,Q,fr,kb=>Q .normal fr kb
 | .region _ ops false,Q,fr,kb=>match Region.noSelect ops,FE ops with
  |true,true=>ub P X n ops ops.toList (Q .normal) fr kb
  |_,_=>False
 | .region _ ops true,Q,fr,kb=>match Region.noSelect ops,yh ops,FE ops with
  |true,true,true=>kP P X n ops (gS P ops 0 ops.size) ops.size 0 [] (Q .normal) fr kb
  |_,_,_=>False
 | .seq x y,Q,fr,kb=>kc P X n x (fun e fr kb=>match e with | .normal=>kc P X n y Q fr kb | e=>Q e fr kb) fr kb
 | .cond c x y,Q,fr,kb=>match ev fr c with
  |some .tt=>kc P X n x Q fr kb
  |some .ff=>kc P X n y Q fr kb
  |some (.sb b)=>(b=true->kc P X n x Q fr kb)/\(b=false->kc P X n y Q fr kb)
  |_=>False
 | .block id x,Q,fr,kb=>kc P X n x (fun e fr kb=>match e with
  | .exit i=>match bZ i id with | true=>Q .normal fr kb | false=>Q (.exit i) fr kb
  |e=>Q e fr kb) fr kb
 | .exit id,Q,fr,kb=>Q (.exit id) fr kb
 |_,_,_,_=>False
theorem pH {P:Program} {X:bM} (hX:bW P X) (hm:P.follows .mixedOrders=true) {c:Cx} {n:Nat} {r:Option Nat}:∀(code:Code) {Q:Exit->Fr->KB->Prop} {Q':Exit->Act->World->Prop},Bh c n Q Q'->¬ LetsOut Q'->∀{a:Act} {W:World},
  il c n (kc P X n code Q) a W->code.wpIn (FW r) 0 P Q' a W
 | .skip,Q,Q',hQ,ho,a,W,h=>wpIn_skip (hQ.hat _ _ _ h)
 | .label _,Q,Q',hQ,ho,a,W,h=>wpIn_label (hQ.hat _ _ _ h)
 | .region id ops false,Q,Q',hQ,ho,a,W,h=>by
  obtain⟨σ,E,fr,kb,hs,hf,h⟩:=h
  simp only[kc]at h
  split at h<;>try exact h.elim
  rename_i ni hnd
  exact wpIn_region_list (MO ho (Nk hnd) (Ag hX (fun a W h=>hQ.hat _ _ _ h) ⟨σ,E,fr,kb,hs,hf,h⟩))
 | .region id ops true,Q,Q',hQ,ho,a,W,h=>by
  obtain⟨σ,E,fr,kb,hs,hf,h⟩:=h
  simp only[kc]at h
  split at h<;>try exact h.elim
  rename_i ni vu hnd
  refine wpIn_region_any hm (Js ho (Nk hnd) ?_)
  have hd:=(hs.trans (Inv.drew hs.inv))
  exact(KE hX ni vu (Q:=Q') (K:=Q .normal) (fun a W h=>hQ.hat _ _ _ h) hQ.l7 ops.size 0 _ [] fr kb a _ σ E [] ⟨by simp,fun i hi=>by simp [hi]⟩ Closed.empty hd hf (fun r hr=>by cases hr) h).any
 | .seq x y,Q,Q',hQ,ho,a,W,h=>by
  refine wpIn_seq (pH hX hm x (Q':=Exit.then (y.wpIn (FW r) 0 P Q') Q') (Q:=fun e fr kb=>match e with | .normal=>kc P X n y Q fr kb | e=>Q e fr kb) ⟨fun e a W h=>?_,fun ch a a' w h=>hQ.l7 ch a a' w h⟩ ho (by
   obtain⟨σ,E,fr,kb,hs,hf,h⟩:=h
   simp only[kc]at h
   exact⟨σ,E,fr,kb,hs,hf,h⟩))
  cases e with
  |normal=>exact pH hX hm y hQ ho h
  |exit id=>exact hQ.hat _ _ _ h
  |goto l=>exact hQ.hat _ _ _ h
  |ret=>exact hQ.hat _ _ _ h
  |panic ch=>exact hQ.hat _ _ _ h
  |outgrown=>exact hQ.hat _ _ _ h
 | .cond o x y,Q,Q',hQ,ho,a,W,h=>by
  obtain⟨σ,E,fr,kb,hs,hf,h⟩:=h
  simp only[kc]at h
  split at h
  ·rename_i hc
   have:=bQ hf hc
   simp only[Den]at this
   exact wpIn_cond_true this (pH hX hm x hQ ho ⟨σ,E,fr,kb,hs,hf,h⟩)
  ·rename_i hc
   have:=bQ hf hc
   simp only[Den]at this
   exact wpIn_cond_false this (pH hX hm y hQ ho ⟨σ,E,fr,kb,hs,hf,h⟩)
  ·rename_i b hc
   have:=bQ hf hc
   simp only[Den]at this
   exact wpIn_cond_split this (fun hb=>pH hX hm x hQ ho ⟨σ,E,fr,kb,hs,hf,h.1 hb⟩) (fun hb=>pH hX hm y hQ ho ⟨σ,E,fr,kb,hs,hf,h.2 hb⟩)
  ·exact h.elim
 | .block id x,Q,Q',hQ,ho,a,W,h=>by
  refine wpIn_block (pH hX hm x (Q':=Exit.inBlock id Q') (Q:=fun e fr kb=>match e with
   | .exit i=>match bZ i id with | true=>Q .normal fr kb | false=>Q (.exit i) fr kb
   |e=>Q e fr kb) ⟨fun e a W h=>?_,fun ch a a' w h=>hQ.l7 ch a a' w h⟩ ho (by
   obtain⟨σ,E,fr,kb,hs,hf,h⟩:=h
   simp only[kc]at h
   exact⟨σ,E,fr,kb,hs,hf,h⟩))
  cases e with
  |normal=>exact hQ.hat _ _ _ h
  |exit i=>
   simp only[Exit.inBlock]
   simp only at h
   cases hb:bZ i id with
   |true=>
    rw[if_pos (cy hb)]
    simp only[hb]at h
    exact hQ.hat _ _ _ h
   |false=>
    rw[if_neg (fun e=>by subst e;simp at hb)]
    simp only[hb]at h
    exact hQ.hat _ _ _ h
  |goto l=>exact hQ.hat _ _ _ h
  |ret=>exact hQ.hat _ _ _ h
  |panic ch=>exact hQ.hat _ _ _ h
  |outgrown=>exact hQ.hat _ _ _ h
 | .loop ..,Q,Q',hQ,ho,a,W,h=>by obtain⟨_,_,_,_,_,_,h⟩:=h;exact h.elim
 | .scope ..,Q,Q',hQ,ho,a,W,h=>by obtain⟨_,_,_,_,_,_,h⟩:=h;exact h.elim
 | .exit _,Q,Q',hQ,ho,a,W,h=>wpIn_exit (hQ.hat _ _ _ h)
 | .ret,Q,Q',hQ,ho,a,W,h=>by obtain⟨_,_,_,_,_,_,h⟩:=h;exact h.elim
 | .goto ..,Q,Q',hQ,ho,a,W,h=>by obtain⟨_,_,_,_,_,_,h⟩:=h;exact h.elim
 | .refuse ..,Q,Q',hQ,ho,a,W,h=>by obtain⟨_,_,_,_,_,_,h⟩:=h;exact h.elim
 | .rangeFunc ..,Q,Q',hQ,ho,a,W,h=>by obtain⟨_,_,_,_,_,_,h⟩:=h;exact h.elim
abbrev nS:=List V->KB->(V->KB->Prop)->Prop
def F7 (P:Program) (X:bM) (yv:Value) (Y:nS) (o:Oper) (fr:Fr) (kb:KB) (K:V->KB->Prop):Prop:=
 match o.op with
 | .call {callee:=.value g,args:=args,argTypes:=_ }=>match ev fr g with
  |some (.any v)=>v=yv/\match evs fr args.toList with
   |some vs=>Y vs kb K
   |none=>False
  |_=>nE P X o fr kb K
 | .defer _=>False
 |_=>nE P X o fr kb K
def uO (P:Program) (c:Cx) (l:Nat) (Y:nS):Prop:=
 ∀ vs kb K σ E W xs,Y vs kb K->Step c.σ c.E c.kb c.W σ E kb W->aw σ E vs xs->YieldAt Fence.wide 0 P l xs.toArray W (fun e W'=>∃ v x σ' E' kb',e= .returned x/\Step σ E kb W σ' E' kb' W'/\Den σ' E' v x/\K v kb')
theorem YD {P:Program} {X:bM} (hX:bW P X) {c:Cx} {l:Nat} {Y:nS} (hY:uO P c l Y) {o:Oper} {fr:Fr} {kb:KB} {K:V->KB->Prop} (h:F7 P X (.func (.yield l) #[] #[]) Y o fr kb K) {σ:Sg} {E:EH} {n:Nat} {a:Act} (hf:dL σ E fr n a) {W:World} (hs:Step c.σ c.E c.kb c.W σ E kb W) (Q:Exit->Act->World->Prop):
  o.wpIn Fence.wide 0 P a W (sM σ E kb W a o K) Q:=by
 unfold F7 at h
 split at h
 ·rename_i g args ats ho
  have hnd:∀ c,o.op≠.defer c:=fun c e=>by rw[ho]at e;cases e
  split at h
  ·rename_i v hv
   obtain⟨rfl,h⟩:=h
   split at h<;>try exact h.elim
   rename_i vs hvs
   have hg:=bQ hf hv
   simp only[Den]at hg
   have hd:=ym hf hvs
   obtain⟨DF,tmps,assign,body,hrun,Vh⟩:=hY vs kb K σ E W _ h hs hd
   refine⟨fun _ _=>trivial,?_⟩
   show o.uponIn Fence.wide 0 P a _ Q ((o.semAt none a.eval).run P W)
   rw[Oper.semAt_none,TG ho hg]
   have ea:args.map a.eval=(args.toList.map a.eval).toArray:=by apply Array.ext';simp
   rw[ea,hrun]
   refine⟨fun q=>(by cases q),Vh.mono ?_⟩
   rintro e W' ⟨v,x,σ',E',kb',rfl,h1,h2,h3⟩
   exact⟨σ',E',kb',v,x,h1,h2,rfl,h3⟩
  ·exact zJ (r:=none) hnd (tJ hX h hf hs.inv Q)
 ·exact h.elim
 ·rename_i hnc hnd
  exact zJ (r:=none) (fun c e=>hnd c e) (tJ hX h hf hs.inv Q)
def wm (P:Program) (X:bM) (yv:Value) (Y:nS) (n:Nat) (ops:Array Oper):List Oper->(Fr->KB->Prop)->Fr->KB->Prop
 | [],K,fr,kb=>K fr kb
 |o::rest,K,fr,kb=>qo ops o fr (fun fr=>F7 P X yv Y o fr kb (fun v kb'=>je n o.dst v fr (fun fr'=>wm P X yv Y n ops rest K fr' kb')))
  (fun fr=>je n o.dst (.any undef) fr (fun fr'=>wm P X yv Y n ops rest K fr' kb))
theorem GM {P:Program} {X:bM} (hX:bW P X) {c:Cx} {l:Nat} {Y:nS} (hY:uO P c l Y) {n:Nat} {ops:Array Oper} {Q:Exit->Act->World->Prop} {K:Fr->KB->Prop} (hQ:∀ a W,il c n K a W->Q .normal a W):
  ∀{os:List Oper} {a:Act} {W:World},il c n (wm P X (.func (.yield l) #[] #[]) Y n ops os K) a W->wpListIn Fence.wide 0 P ops Q os a W
 | [],a,W,h=>hQ a W h
 |o::rest,a,W,h=>by
  obtain⟨σ,E,fr,kb,hs,hf,h⟩:=h
  simp only[wm]at h
  obtain⟨fr',hf',h | h⟩:=tg h hf
  ·unfold wpListIn
   rw[if_pos h.1]
   exact Oper.wpIn_mono (fun a' W' ha=>GM hX hY hQ (ha.hat hs hf')) (YD hX hY h.2 hf' hs Q)
  ·unfold wpListIn
   rw[if_neg (by simp [h.1])]
   obtain⟨eU,h1,h2⟩:=lH h.2 hf' (σ:=σ) (E:=E) (x:=undef) (by simp [Den])
   exact⟨fun _ _=>trivial,GM hX hY hQ ⟨σ,E,eU,kb,hs,h1,h2⟩⟩
def ma (P:Program) (X:bM) (yv:Value) (Y:nS) (jM:Option LI) (n0 n:Nat):Code->(Exit->Fr->KB->Prop)->Fr->KB->Prop
 | .skip,Q,fr,kb=>Q .normal fr kb
 | .label _,Q,fr,kb=>Q .normal fr kb
 | .region _ ops false,Q,fr,kb=>wm P X yv Y n ops ops.toList (Q .normal) fr kb
 | .seq x y,Q,fr,kb=>ma P X yv Y jM n0 n x (fun e fr kb=>match e with | .normal=>ma P X yv Y jM n0 n y Q fr kb | e=>Q e fr kb) fr kb
 | .cond c x y,Q,fr,kb=>match ev fr c with
  |some .tt=>ma P X yv Y jM n0 n x Q fr kb
  |some .ff=>ma P X yv Y jM n0 n y Q fr kb
  |some (.sb b)=>(b=true->ma P X yv Y jM n0 n x Q fr kb)/\(b=false->ma P X yv Y jM n0 n y Q fr kb)
  |_=>False
 | .block id x,Q,fr,kb=>ma P X yv Y jM n0 n x (fun e fr kb=>match e with
  | .exit i=>match bZ i id with | true=>Q .normal fr kb | false=>Q (.exit i) fr kb
  |e=>Q e fr kb) fr kb
 | .loop x,Q,fr,kb=>match jM with
  |some li=>nU n0 li.dN li.live fr kb (fun s=>At li s/\
   li.all (fun i=>ma P X yv Y jM n0 n x (fun e fr kb=>match e with
    | .normal=>nU n0 li.dN li.live fr kb (fun s=>Nx li i s)
    |e=>Q e fr kb) (li.live.zip (li.st i).1) (li.st i).2))
  |none=>False
 | .exit id,Q,fr,kb=>Q (.exit id) fr kb
 | .ret,Q,fr,kb=>Q .ret fr kb
 |_,_,_,_=>False
theorem pI {P:Program} {X:bM} (hX:bW P X) {c:Cx} {l:Nat} {Y:nS} (hY:uO P c l Y) {jM:Option LI} {n:Nat}:∀(code:Code) {Q:Exit->Fr->KB->Prop} {Q':Exit->Act->World->Prop},Bh c n Q Q'->∀{a:Act} {W:World},
  il c n (ma P X (.func (.yield l) #[] #[]) Y jM c.σ.length n code Q) a W->code.wp P Q' a W
 | .skip,Q,Q',hQ,a,W,h=>wp_skip (hQ.hat _ _ _ h)
 | .label _,Q,Q',hQ,a,W,h=>wp_label (hQ.hat _ _ _ h)
 | .exit id,Q,Q',hQ,a,W,h=>wp_exit (hQ.hat _ _ _ h)
 | .ret,Q,Q',hQ,a,W,h=>wp_ret (hQ.hat _ _ _ h)
 | .region id ops false,Q,Q',hQ,a,W,h=>wpIn_wide.1 (wpIn_region_list (GM hX hY (fun a W h=>hQ.hat _ _ _ h) h))
 | .seq x y,Q,Q',hQ,a,W,h=>by
  refine wp_seq (pI hX hY x (Q':=Exit.then (y.wp P Q') Q') (Q:=fun e fr kb=>match e with | .normal=>ma P X (.func (.yield l) #[] #[]) Y jM c.σ.length n y Q fr kb | e=>Q e fr kb) ⟨fun e a W h=>?_,fun ch a a' w h=>hQ.l7 ch a a' w h⟩ h)
  cases e with
  |normal=>exact pI hX hY y hQ h
  |exit id=>exact hQ.hat _ _ _ h
  |goto l=>exact hQ.hat _ _ _ h
  |ret=>exact hQ.hat _ _ _ h
  |panic ch=>exact hQ.hat _ _ _ h
  |outgrown=>exact hQ.hat _ _ _ h
 | .cond o x y,Q,Q',hQ,a,W,h=>by
  obtain⟨σ,E,fr,kb,hs,hf,h⟩:=h
  simp only[ma]at h
  split at h
  ·rename_i hc
   have:=bQ hf hc
   simp only[Den]at this
   exact wp_cond_true this (pI hX hY x hQ ⟨σ,E,fr,kb,hs,hf,h⟩)
  ·rename_i hc
   have:=bQ hf hc
   simp only[Den]at this
   exact wp_cond_false this (pI hX hY y hQ ⟨σ,E,fr,kb,hs,hf,h⟩)
  ·rename_i b hc
   have:=bQ hf hc
   simp only[Den]at this
   exact wp_cond_split this (fun hb=>pI hX hY x hQ ⟨σ,E,fr,kb,hs,hf,h.1 hb⟩) (fun hb=>pI hX hY y hQ ⟨σ,E,fr,kb,hs,hf,h.2 hb⟩)
  ·exact h.elim
 | .block id x,Q,Q',hQ,a,W,h=>by
  refine wp_block (pI hX hY x (Q':=Exit.inBlock id Q') (Q:=fun e fr kb=>match e with
   | .exit i=>match bZ i id with | true=>Q .normal fr kb | false=>Q (.exit i) fr kb
   |e=>Q e fr kb) ⟨fun e a W h=>?_,fun ch a a' w h=>hQ.l7 ch a a' w h⟩ h)
  cases e with
  |normal=>exact hQ.hat _ _ _ h
  |exit i=>
   simp only[Exit.inBlock]
   simp only at h
   cases hb:bZ i id with
   |true=>
    rw[if_pos (cy hb)]
    simp only[hb]at h
    exact hQ.hat _ _ _ h
   |false=>
    rw[if_neg (fun e=>by subst e;simp at hb)]
    simp only[hb]at h
    exact hQ.hat _ _ _ h
  |goto l=>exact hQ.hat _ _ _ h
  |ret=>exact hQ.hat _ _ _ h
  |panic ch=>exact hQ.hat _ _ _ h
  |outgrown=>exact hQ.hat _ _ _ h
 | .loop x,Q,Q',hQ,a,W,h=>by
  obtain⟨σ,E,fr,kb,hs,hf,h⟩:=h
  simp only[ma]at h
  split at h<;>try exact h.elim
  rename_i li
  obtain⟨s,⟨⟨⟨i,rfl⟩⟩,D2⟩,hh⟩:=uT h hs hf
  refine wp_loop_ghost (fun k a w=>∃ i,li.μ i=k/\il c n (fun fr' kb'=>fr'=li.live.zip (li.st i).1/\kb'=(li.st i).2) a w) (li.μ i) ⟨i,rfl,hh⟩ ?_
  rintro k a' w' ⟨j,rfl,σ',E',fr',kb',hs',hf',rfl,rfl⟩
  refine pI hX hY x (Q':=Exit.then (fun a' w'=>∃ n',n'<li.μ j/\∃ i,li.μ i=n'/\il c n (fun fr' kb'=>fr'=li.live.zip (li.st i).1/\kb'=(li.st i).2) a' w') Q') (Q:=fun e fr kb=>match e with
     | .normal=>nU c.σ.length li.dN li.live fr kb (fun s=>Nx li j s)
     |e=>Q e fr kb) ⟨fun e a W h=>?_,fun ch a a' w h=>hQ.l7 ch a a' w h⟩ ⟨σ',E',_,_,hs',hf',li.uQ _ D2 j⟩
  cases e with
  |normal=>
   obtain⟨σ2,E2,eU,bC,mE,fA,h2⟩:=h
   obtain⟨s,⟨⟨j',rfl,hlt⟩⟩,hh⟩:=uT h2 mE fA
   exact⟨_,hlt,j',rfl,hh⟩
  |exit id=>exact hQ.hat _ _ _ h
  |goto l=>exact hQ.hat _ _ _ h
  |ret=>exact hQ.hat _ _ _ h
  |panic ch=>exact hQ.hat _ _ _ h
  |outgrown=>exact hQ.hat _ _ _ h
 | .region id ops true,Q,Q',hQ,a,W,h=>by obtain⟨_,_,_,_,_,_,h⟩:=h;exact h.elim
 | .scope ..,Q,Q',hQ,a,W,h=>by obtain⟨_,_,_,_,_,_,h⟩:=h;exact h.elim
 | .goto ..,Q,Q',hQ,a,W,h=>by obtain⟨_,_,_,_,_,_,h⟩:=h;exact h.elim
 | .refuse ..,Q,Q',hQ,a,W,h=>by obtain⟨_,_,_,_,_,_,h⟩:=h;exact h.elim
 | .rangeFunc ..,Q,Q',hQ,a,W,h=>by obtain⟨_,_,_,_,_,_,h⟩:=h;exact h.elim
def GC (P:Program) (X:bM) (yv:Value) (Y:nS) (jM:Option LI) (f:FuncId) (args:List V) (kb:KB) (K:V->KB->Prop):Prop:=
 match P.funcs[f]? with
 |some fn=>match fn.body,Nat.ble args.length fn.ntmps with
  |some code,true=>ma P X yv Y jM kb.length fn.ntmps code (fin P fn K) (qd 0 args) kb
  |_,_=>False
 |none=>False
theorem ZJ {P:Program} {X:bM} (hX:bW P X) {l:Nat} {Y:nS} {jM:Option LI} {f:FuncId} {args:List V} {kb:KB} {K:V->KB->Prop} (h:GC P X (.func (.yield l) #[] #[]) Y jM f args kb K) {σ:Sg} {E:EH} {W:World} {xs:List Value} (hi:Inv σ E kb W)
  (hd:aw σ E args xs) (hY:uO P ⟨σ,E.strip,kb,W⟩ l Y):Calls P f xs.toArray W (fun e W'=>∃ v r σ' E' kb',e= .returned v/\Step σ E kb W σ' E' kb' W'/\Den σ' E' r v/\K r kb'):=by
 unfold GC at h
 split at h<;>try exact h.elim
 rename_i fn hfn
 split at h<;>try exact h.elim
 rename_i code Ea hb
 have hle:=Nat.le_of_ble_eq_true hb
 rw[<- hd.len]at hle
 rw[<- hi.len]at h
 have hi0:=hi.strip
 have Eb:aw σ E.strip args xs:=by
  have:=aw.cX (τ:=[]) E.uf hd
  rwa [fg]at this
 refine callsIn_wide.1 (callsIn_of_wp_marks (n:=0) hfn Ea trivial (wpIn_wide.2 (wp_mono (Q:=fun e a w=>match e with | .panic _=>False | e=>bodyPostM Fence.wide 0 P fn (fun e W'=>∃ v r σ' E' kb',e= .returned v/\Step σ E kb W σ' E' kb' W'/\Den σ' E' r v/\K r kb') e a w) (pI hX (c:=⟨σ,E.strip,kb,W⟩) hY (jM:=jM) (n:=fn.ntmps) code (Q:=fin P fn K) ⟨fun e a' W' hh=>?_,fun ch a a' w hp=>?_⟩ ?_) (fun e a w hq=>?_))))
 ·obtain⟨σ',E',fr',kb',hs,hf,hK⟩:=hh
  have key:oD P fr' kb' fn.results.toList (fun vs=>K (qH vs) kb')->LeavesInM Fence.wide 0 P fn a'.tmps (fun e W'=>∃ v r σ' E' kb',e= .returned v/\Step σ E kb W σ' E' kb' W'/\Den σ' E' r v/\K r kb') a'.defers .returning W':=by
   intro hK
   refine EY a'.defers W' hf.defers.nodup (fun d hd=>?_) (fun W2 e1 e2 e3 e4 e5=>?_)
   ·obtain⟨b,h1,h2⟩:=hf.defers.all d hd
    exact⟨b,h1,hs.inv.cP b _ h2⟩
   ·obtain⟨E2,h1,h2⟩:=Step.Qz hi hs e1 e2 e3 e4 (M:=fun b=>{target:=.collected b,args:=#[] }∈a'.defers) (fun b hb=>by
     obtain⟨b',k1,k2⟩:=hf.defers.all _ hb
     cases k1;exact k2) (fun b hb=>e5 b (fun d hd e=>hb (e ▸ hd)))
    have fA:dL σ' E2 fr' fn.ntmps {a' with defers:=[] }:=⟨hf.size,mr.nil _,fun t v hv=>by
     obtain⟨x,k1,k2⟩:=hf.get t v hv
     refine⟨x,k1,?_⟩
     have:=Den.cX (τ:=[]) h2 k2
     rwa [fg]at this⟩
    obtain⟨v,r,k1,k2,k3⟩:=KQ fA h1.inv hK
    exact⟨v,k1,v,r,σ',E2,kb',rfl,h1,k2,k3⟩
  cases e with
  |normal=>exact key hK
  |ret=>exact key hK
  |exit id=>exact hK.elim
  |goto l=>exact hK.elim
  |panic ch=>exact hK.elim
  |outgrown=>exact hK.elim
 ·exact hp
 rotate_left
 ·cases e<;>first | exact hq | exact hq.elim
 ·refine⟨σ,E.strip,qd 0 args,kb,Step.refl hi0,⟨by simp;omega,mr.nil _,fun t v hv=>?_⟩,h⟩
  obtain⟨x,_,h2,h3⟩:=Fb 0 Eb hv
  refine⟨x,?_,h3⟩
  have hlt:t<xs.length:=by
   have:=(bU.1 h2).1
   simpa using this
  rw[Array.getElem?_append_left (by simpa using hlt)]
  simpa using h2
def ra (n:Nat):List Nat->List V->Fr->Option Fr
 | [],[],fr=>some fr
 |t::ts,v::vs,fr=>match Nat.blt t n with
  |true=>ra n ts vs ((t,v)::fr)
  |false=>none
 |_,_,_=>none
theorem JC {σ:Sg} {E:EH} {n:Nat}:∀{ts:List Nat} {vs:List V} {fr ql:Fr} {xs:List Value} {tmps:Array Value} {ds:List Deferred},ra n ts vs fr=some ql->aw σ E vs xs->dL σ E fr n {tmps:=tmps,defers:=ds }->
  ts.length=xs.length/\dL σ E ql n {tmps:=(ts.zip xs).foldl (fun tmps p=>tmps.setIfInBounds p.1 p.2) tmps,defers:=ds }
 | [],[],fr,ql,xs,tmps,ds,h,hd,hf=>by
  simp only[ra,bh.injEq]at h
  subst h
  simp only[aw]at hd
  subst hd
  exact⟨rfl,hf⟩
 |t::ts,v::vs,fr,ql,xs,tmps,ds,h,hd,hf=>by
  simp only[aw]at hd
  obtain⟨x,xs',rfl,h1,h2⟩:=hd
  simp only[ra]at h
  split at h<;>try (cases h;done)
  rename_i hb
  have hf':dL σ E ((t,v)::fr) n {tmps:=tmps.setIfInBounds t x,defers:=ds }:=hf.put (of_decide_eq_true (by simpa [Nat.blt_eq]using hb)) h1
  obtain⟨k1,k2⟩:=JC h h2 hf'
  exact⟨by simp [k1],k2⟩
 | [],_:: _,_,_,_,_,_,h,_,_=>by simp [ra]at h
 |_:: _,[],_,_,_,_,_,h,_,_=>by simp [ra]at h
def Gv (P:Program) (X:bM) (n:Nat) (ps:Array Tmp) (assign body:Code) (fr:Fr):nS:=fun vs kb K=>match ra n ps.toList vs fr with
 |some ql=>kc P X n assign (fun e eU bC=>match e with
  | .normal=>kc P X n body (fun e _ de=>match e with | .normal=>K .tt de | _=>False) eU bC
  |_=>False) ql kb
 |none=>False
theorem Inv.OL {σ:Sg} {E:EH} {kb:KB} {W:World} (h:Inv σ E kb W) {l:Nat} (hno:¬ b9 σ kb l) (hE:E l=none) (o:Obj):Inv σ E kb (W.putObj l o):=
 ⟨h.len,fun i r x h1 h2=>by
  have:=(h.obj i r x h1 h2).mono (τ:=[]) (W':=W.putObj l o) (EH.le.refl E) (fun b hb=>World.putObj_heap_other (fun e=>by subst e;exact hno ⟨i,r,x,h1,h2,hb⟩))
  simpa using this,h.c9,fun b x hb=>by
  rw[World.putObj_heap_other (fun e=>by subst e;rw[hE]at hb;cases hb)]
  exact h.cP b x hb,h.sep⟩
theorem Step.aaT {σ2:Sg} {E2:EH} {bC:KB} {W2:World} {σ3:Sg} {E3:EH} {de:KB} {W3:World} {sL:Sg} {E4:EH} {rP:KB} {W4:World} {l:Nat} {o o1:Obj}
  (SA:Step σ2 E2 bC W2 σ3 E3 de W3) (SB:Step σ3 E3 de (W3.putObj l o1) sL E4 rP W4) (hl:W2.heap[l]? =some o) (hno:¬ b9 sL rP l) (hE:E4 l=none):Step σ2 E2 bC W2 sL E4 rP (W4.putObj l o):=by
 have hlt:l<W2.heap.size:=(Array.getElem?_eq_some_iff.1 hl).1
 have h1:=SA.bK.size
 have h2:=SB.bK.size
 rw[World.putObj_size]at h2
 refine⟨SB.inv.OL hno hE o,⟨?_,?_,?_,by rw[World.putObj_size];omega,fun k hk hn=>?_⟩,?_,SA.le.trans SB.le,fun b hb=>?_,fun b x hb=>?_⟩
 ·exact SB.bK.os.trans SA.bK.os
 ·exact SB.bK.tape.trans SA.bK.tape
 ·exact SB.bK.output.trans SA.bK.output
 ·by_cases jb:k=l
  ·subst jb
   rw[World.putObj_heap_same (by omega),hl]
  ·rw[World.putObj_heap_other jb,SB.bK.block k (by rw[World.putObj_size];omega) (fun ho=>(SA.own k ho).elim hn (fun q=>by omega)),World.putObj_heap_other jb]
   exact SA.bK.block k hk hn
 ·obtain⟨τ,rfl⟩:=SA.pre
  obtain⟨Ie,rfl⟩:=SB.pre
  exact⟨τ++Ie,by rw[dQ]⟩
 ·rcases SB.own b hb with q | q
  ·exact SA.own b q
  ·rw[World.putObj_size]at q;exact .inr (by omega)
 ·rcases SB.new b x hb with q | q | q
  ·exact SA.new b x q
  ·rcases SA.own b q with q | q
   ·exact .inr (.inl q)
   ·exact .inr (.inr q)
  ·rw[World.putObj_size]at q;exact .inr (.inr (by omega))
theorem ZB {P:Program} {X:bM} (hX:bW P X) (hm:P.follows .mixedOrders=true) {c:Cx} {l n:Nat} {r:Loop} (hl:c.W.heap[l]? =some (.loop r)) (hno:¬ b9 c.σ c.kb l) (hE:c.E l=none) (hr:r.state= .ready) (hp:r.pending=none) {fr:Fr} {ds:List Deferred}
  (hf:dL c.σ c.E fr n {tmps:=r.tmps,defers:=ds }):uO P c l (Gv P X n r.params r.assign r.body fr):=by
 intro vs bC K σ2 E2 W2 xs hy mE hd
 have hlt:l<c.W.heap.size:=(Array.getElem?_eq_some_iff.1 hl).1
 have hl2:W2.heap[l]? =some (.loop r):=by rw[mE.bK.block l hlt hno];exact hl
 have Eo:¬ b9 σ2 bC l:=fun h=>(mE.own l h).elim hno (fun q=>by omega)
 have th:E2 l=none:=by
  cases h:E2 l with
  |none=>rfl
  |some x=>
   rcases mE.new l x h with k | k | k
   ·rw[hE]at k;cases k
   ·exact(hno k).elim
   ·omega
 have U5:l<W2.heap.size:=(Array.getElem?_eq_some_iff.1 hl2).1
 unfold Gv at hy
 split at hy<;>try exact hy.elim
 rename_i ql hb
 have fA:dL σ2 E2 fr n {tmps:=r.tmps,defers:=[] }:=by
  obtain⟨τ,rfl⟩:=mE.pre
  have:=hf.mono (τ:=τ) mE.le
  exact⟨this.size,mr.nil _,this.get⟩
 obtain⟨hlen,hfr⟩:=JC hb hd fA
 have TF:(r.params.zip xs.toArray).foldl (fun tmps (x:Tmp×Value)=>tmps.setIfInBounds x.1 x.2) r.tmps=(r.params.toList.zip xs).foldl (fun tmps p=>tmps.setIfInBounds p.1 p.2) r.tmps:=by
  rw[<- Array.foldl_toList]
  simp
 refine⟨r.fn,_,r.assign,r.body,run_yield hl2 (by simpa using hlen.symm),roundIn_of_wpIn (F:=Fence.wide) trivial ?_⟩
 refine pH hX hm (c:=⟨σ2,E2,bC,W2⟩) (n:=n) (r:=some l) r.assign (Q:=fun e eU bC=>match e with
   | .normal=>kc P X n r.body (fun e _ de=>match e with | .normal=>K .tt de | _=>False) eU bC
   |_=>False) ⟨fun e a' W3 hh=>?_,fun ch a a' w h=>h⟩ (fun⟨_,_,h⟩=>h) ⟨σ2,E2,ql,bC,Step.refl mE.inv,?_,hy⟩
 rotate_left
 ·have:=hfr
  rw[<- TF]at this
  exact this
 cases e with
 |normal=>
  obtain⟨σ3,E3,eU,de,vz,UF,hh⟩:=hh
  have yL:W3.heap[l]? =some (.loop r):=by rw[vz.bK.block l U5 Eo];exact hl2
  have tr:¬ b9 σ3 de l:=fun h=>(vz.own l h).elim Eo (fun q=>by dsimp only at q;omega)
  have yB:E3 l=none:=by
   cases h:E3 l with
   |none=>rfl
   |some x=>
    rcases vz.new l x h with k | k | k
    ·dsimp only at k;rw[th]at k;cases k
    ·exact(Eo k).elim
    ·dsimp only at k;omega
  have hlt3:l<W3.heap.size:=(Array.getElem?_eq_some_iff.1 yL).1
  refine⟨_,run_beginRound yL hr,?_⟩
  have UL:=vz.inv.OL tr yB (.loop {r with state:=.busy })
  refine pH hX hm (c:=⟨σ3,E3,de,W3.putObj l (.loop {r with state:=.busy })⟩) (n:=n) (r:=some l) r.body (Q:=fun e _ de=>match e with | .normal=>K .tt de | _=>False) ⟨fun e a5 W4 hh=>?_,fun ch a a' w h=>h⟩ (fun⟨_,_,h⟩=>h) ⟨σ3,E3,eU,de,Step.refl UL,UF,hh⟩
  cases e with
  |normal=>
   obtain⟨sL,E4,fr4,rP,hs4,hf4,hK⟩:=hh
   have hsz:l<(W3.putObj l (.loop {r with state:=.busy })).heap.size:=by rw[World.putObj_size];exact hlt3
   have UZ:W4.heap[l]? =some (.loop {r with state:=.busy }):=by
    rw[hs4.bK.block l hsz tr];exact World.putObj_heap_same hlt3
   have U8:¬ b9 sL rP l:=fun h=>(hs4.own l h).elim tr (fun q=>by dsimp only at q;omega)
   have Ud:E4 l=none:=by
    cases h:E4 l with
    |none=>rfl
    |some x=>
     rcases hs4.new l x h with k | k | k
     ·dsimp only at k;rw[yB]at k;cases k
     ·exact(tr k).elim
     ·dsimp only at k;omega
   have er:({r with state:=.ready,pending:=none }:Loop)=r:=by cases r;simp only at hr hp;subst hr;subst hp;rfl
   refine⟨_,_,run_endRound none UZ,.tt,.bool true,sL,E4,rP,rfl,?_,by simp only[Den],hK⟩
   show Step σ2 E2 bC W2 sL E4 rP (W4.putObj l (.loop {r with state:=.ready,pending:=none }))
   rw[er]
   exact Step.aaT vz hs4 hl2 U8 Ud
  |exit id=>obtain⟨_,_,_,_,_,_,h⟩:=hh;exact h.elim
  |goto l=>obtain⟨_,_,_,_,_,_,h⟩:=hh;exact h.elim
  |ret=>obtain⟨_,_,_,_,_,_,h⟩:=hh;exact h.elim
  |panic ch=>obtain⟨_,_,_,_,_,_,h⟩:=hh;exact h.elim
  |outgrown=>obtain⟨_,_,_,_,_,_,h⟩:=hh;exact h.elim
 |exit id=>obtain⟨_,_,_,_,_,_,h⟩:=hh;exact h.elim
 |goto l=>obtain⟨_,_,_,_,_,_,h⟩:=hh;exact h.elim
 |ret=>obtain⟨_,_,_,_,_,_,h⟩:=hh;exact h.elim
 |panic ch=>obtain⟨_,_,_,_,_,_,h⟩:=hh;exact h.elim
 |outgrown=>obtain⟨_,_,_,_,_,_,h⟩:=hh;exact h.elim
def gh (P:Program) (X:bM):(Nat->Option LI)->Nat->Nat->Code->(Exit->Fr->KB->Prop)->Fr->KB->Prop
 |T,n0,n,.skip,Q,fr,kb=>Q .normal fr kb
 |T,n0,n,.label _,Q,fr,kb=>Q .normal fr kb
 |T,n0,n,.region _ ops false,Q,fr,kb=>match Region.noSelect ops with
  |true=>ub P X n ops ops.toList (Q .normal) fr kb
  |false=>sc P X n ops ops.toList (Q .normal) fr kb
 |T,n0,n,.region _ ops true,Q,fr,kb=>match Region.noSelect ops,yh ops with
  |true,true=>kP P X n ops (gS P ops 0 ops.size) ops.size 0 [] (Q .normal) fr kb
  |_,_=>False
 |T,n0,n,.seq x y,Q,fr,kb=>match (m8 y).bind (fun r=>T (1000+r))with
  |some li=>gh P X T n0 n x (fun e fr kb=>match e with | .normal=>nU n0 li.dN li.live fr kb (fun s=>At li s) | e=>Q e fr kb) fr kb/\
    li.all (fun i=>gh P X (As li i T) n0 n y Q (li.live.zip (li.st i).1) (li.st i).2)
  |none=>gh P X T n0 n x (fun e fr kb=>match e with | .normal=>gh P X T n0 n y Q fr kb | e=>Q e fr kb) fr kb
 |T,n0,n,.cond c x y,Q,fr,kb=>match ev fr c with
  |some .tt=>gh P X T n0 n x Q fr kb
  |some .ff=>gh P X T n0 n y Q fr kb
  |some (.sb b)=>(b=true->gh P X T n0 n x Q fr kb)/\(b=false->gh P X T n0 n y Q fr kb)
  |_=>False
 |T,n0,n,.block id x,Q,fr,kb=>gh P X T n0 n x (fun e fr kb=>match e with
  | .exit i=>match bZ i id with | true=>Q .normal fr kb | false=>Q (.exit i) fr kb
  |e=>Q e fr kb) fr kb
 |T,n0,n,.loop x,Q,fr,kb=>match (m8 x).bind T with
  |some li=>nU n0 li.dN li.live fr kb (fun s=>At li s/\
    li.all (fun i=>gh P X (As li i T) n0 n x (fun e fr kb=>match e with
     | .normal=>nU n0 li.dN li.live fr kb (fun s=>Nx li i s)
     |e=>Q e fr kb) (li.live.zip (li.st i).1) (li.st i).2))
  |none=>iter (fun Q fr kb=>gh P X T n0 n x Q fr kb) Q 600 fr kb
 |T,n0,n,.scope x,Q,fr,kb=>gh P X T n0 n x (fun e fr kb=>match e with | .goto _=>False | e=>Q e fr kb) fr kb
 |T,n0,n,.rangeFunc g ps assign body,Q,fr,kb=>match ev fr g with
  |some (.fn f cap)=>match yG P f with
   |true=>match (m8 body).bind (fun r=>T (2000+r))with
    |none=>∀ l,X f (.any (.func (.yield l) #[] #[])::cap) kb (fun _ kb'=>Q .normal fr kb')
    |some lo=>∀ l,GC P X (.func (.yield l) #[] #[]) (Gv P X n ps assign body fr) (lo.VK l) f (.any (.func (.yield l) #[] #[])::cap) kb (fun _ kb'=>Q .normal fr kb')
   |false=>False
  |_=>False
 |T,n0,n,.exit id,Q,fr,kb=>Q (.exit id) fr kb
 |T,n0,n,.ret,Q,fr,kb=>Q .ret fr kb
 |_,_,_,_,_,_,_=>False
theorem mb {P:Program} {X:bM} (hX:bW P X) (hm:P.follows .mixedOrders=true) {c:Cx} {n:Nat}:∀(code:Code) {T:Nat->Option LI} {Q:Exit->Fr->KB->Prop} {Q':Exit->Act->World->Prop},Bh c n Q Q'->∀{a:Act} {W:World},
  il c n (gh P X T c.σ.length n code Q) a W->code.wp P Q' a W
 | .skip,T,Q,Q',hQ,a,W,h=>wp_skip (hQ.hat _ _ _ h)
 | .label _,T,Q,Q',hQ,a,W,h=>wp_label (hQ.hat _ _ _ h)
 | .exit id,T,Q,Q',hQ,a,W,h=>wp_exit (hQ.hat _ _ _ h)
 | .ret,T,Q,Q',hQ,a,W,h=>wp_ret (hQ.hat _ _ _ h)
 | .region id ops false,T,Q,Q',hQ,a,W,h=>by
  cases ni:Region.noSelect ops with
  |true=>
   simp only[gh,ni]at h
   exact wp_region_list (Ag hX (fun a W h=>hQ.hat _ _ _ h) h)
  |false=>
   simp only[gh,ni]at h
   exact Zw hX (fun a W h=>hQ.hat _ _ _ h) h
 | .region id ops true,T,Q,Q',hQ,a,W,h=>by
  obtain⟨σ,E,fr,kb,hs,hf,h⟩:=h
  simp only[gh]at h
  split at h<;>try exact h.elim
  rename_i ni vu
  refine wp_region_any hm ?_
  have hd:=(hs.trans (Inv.drew hs.inv))
  exact(KE hX ni vu (Q:=Q') (K:=Q .normal) (fun a W h=>hQ.hat _ _ _ h) hQ.l7 ops.size 0 _ [] fr kb a _ σ E [] ⟨by simp,fun i hi=>by simp [hi]⟩ Closed.empty hd hf (fun r hr=>by cases hr) h).any
 | .seq x y,T,Q,Q',hQ,a,W,h=>by
  cases LJ:(m8 y).bind (fun r=>T (1000+r))with
  |some li=>
   obtain⟨σ,E,fr,kb,hs,hf,h⟩:=h
   simp only[gh,LJ]at h
   obtain⟨hx,hy⟩:=h
   refine wp_seq (mb hX hm x (Q':=Exit.then (y.wp P Q') Q') (Q:=fun e fr kb=>match e with | .normal=>nU c.σ.length li.dN li.live fr kb (fun s=>At li s) | e=>Q e fr kb) ⟨fun e a W h=>?_,fun ch a a' w h=>hQ.l7 ch a a' w h⟩ ⟨σ,E,fr,kb,hs,hf,hx⟩)
   cases e with
   |normal=>
    obtain⟨σ2,E2,eU,bC,mE,fA,h2⟩:=h
    obtain⟨s,⟨⟨i,rfl⟩⟩,hh⟩:=uT h2 mE fA
    refine mb (T:=As li i T) hX hm y hQ ?_
    obtain⟨σ3,E3,fr3,de,k1,k2,rfl,rfl⟩:=hh
    exact⟨σ3,E3,_,_,k1,k2,li.uQ _ hy i⟩
   |exit id=>exact hQ.hat _ _ _ h
   |goto l=>exact hQ.hat _ _ _ h
   |ret=>exact hQ.hat _ _ _ h
   |panic ch=>exact hQ.hat _ _ _ h
   |outgrown=>exact hQ.hat _ _ _ h
  |none=>
  replace h:il c n (gh P X T c.σ.length n x (fun e fr kb=>match e with | .normal=>gh P X T c.σ.length n y Q fr kb | e=>Q e fr kb)) a W:=by
   obtain⟨σ,E,fr,kb,hs,hf,h⟩:=h
   simp only[gh,LJ]at h
   exact⟨σ,E,fr,kb,hs,hf,h⟩
  refine wp_seq (mb hX hm x (Q':=Exit.then (y.wp P Q') Q') (Q:=fun e fr kb=>match e with | .normal=>gh P X T c.σ.length n y Q fr kb | e=>Q e fr kb) ⟨fun e a W h=>?_,fun ch a a' w h=>hQ.l7 ch a a' w h⟩ h)
  cases e with
  |normal=>exact mb hX hm y hQ h
  |exit id=>exact hQ.hat _ _ _ h
  |goto l=>exact hQ.hat _ _ _ h
  |ret=>exact hQ.hat _ _ _ h
  |panic ch=>exact hQ.hat _ _ _ h
  |outgrown=>exact hQ.hat _ _ _ h
 | .cond o x y,T,Q,Q',hQ,a,W,h=>by
  obtain⟨σ,E,fr,kb,hs,hf,h⟩:=h
  simp only[gh]at h
  split at h
  ·rename_i hc
   have:=bQ hf hc
   simp only[Den]at this
   exact wp_cond_true this (mb hX hm x hQ ⟨σ,E,fr,kb,hs,hf,h⟩)
  ·rename_i hc
   have:=bQ hf hc
   simp only[Den]at this
   exact wp_cond_false this (mb hX hm y hQ ⟨σ,E,fr,kb,hs,hf,h⟩)
  ·rename_i b hc
   have:=bQ hf hc
   simp only[Den]at this
   exact wp_cond_split this (fun hb=>mb hX hm x hQ ⟨σ,E,fr,kb,hs,hf,h.1 hb⟩) (fun hb=>mb hX hm y hQ ⟨σ,E,fr,kb,hs,hf,h.2 hb⟩)
  ·exact h.elim
 | .block id x,T,Q,Q',hQ,a,W,h=>by
  refine wp_block (mb hX hm x (Q':=Exit.inBlock id Q') (Q:=fun e fr kb=>match e with
   | .exit i=>match bZ i id with | true=>Q .normal fr kb | false=>Q (.exit i) fr kb
   |e=>Q e fr kb) ⟨fun e a W h=>?_,fun ch a a' w h=>hQ.l7 ch a a' w h⟩ h)
  cases e with
  |normal=>exact hQ.hat _ _ _ h
  |exit i=>
   simp only[Exit.inBlock]
   simp only at h
   cases hb:bZ i id with
   |true=>
    rw[if_pos (cy hb)]
    simp only[hb]at h
    exact hQ.hat _ _ _ h
   |false=>
    rw[if_neg (fun e=>by subst e;simp at hb)]
    simp only[hb]at h
    exact hQ.hat _ _ _ h
  |goto l=>exact hQ.hat _ _ _ h
  |ret=>exact hQ.hat _ _ _ h
  |panic ch=>exact hQ.hat _ _ _ h
  |outgrown=>exact hQ.hat _ _ _ h
 | .loop x,T,Q,Q',hQ,a,W,h=>by
  obtain⟨σ,E,fr,kb,hs,hf,h⟩:=h
  simp only[gh]at h
  split at h
  case h_2=>
   refine wp_loop_ghost (fun k a w=>il c n (iter (fun Q fr kb=>gh P X T c.σ.length n x Q fr kb) Q k) a w) 600 ⟨σ,E,fr,kb,hs,hf,h⟩ ?_
   intro k a' w' hk
   cases k with
   |zero=>obtain⟨_,_,_,_,_,_,h⟩:=hk;exact h.elim
   |succ k=>
    refine mb hX hm x (Q':=Exit.then (fun a' w'=>∃ n',n'<k+1/\il c n (iter (fun Q fr kb=>gh P X T c.σ.length n x Q fr kb) Q n') a' w') Q')
     (Q:=fun e fr kb=>match e with | .normal=>iter (fun Q fr kb=>gh P X T c.σ.length n x Q fr kb) Q k fr kb | e=>Q e fr kb) ⟨fun e a W h=>?_,fun ch a a' w h=>hQ.l7 ch a a' w h⟩ hk
    cases e with
    |normal=>exact⟨k,by omega,h⟩
    |exit id=>exact hQ.hat _ _ _ h
    |goto l=>exact hQ.hat _ _ _ h
    |ret=>exact hQ.hat _ _ _ h
    |panic ch=>exact hQ.hat _ _ _ h
    |outgrown=>exact hQ.hat _ _ _ h
  rename_i li hli
  obtain⟨s,⟨⟨⟨i,rfl⟩⟩,D2⟩,hh⟩:=uT h hs hf
  refine wp_loop_ghost (fun k a w=>∃ i,li.μ i=k/\il c n (fun fr' kb'=>fr'=li.live.zip (li.st i).1/\kb'=(li.st i).2) a w) (li.μ i) ⟨i,rfl,hh⟩ ?_
  rintro k a' w' ⟨j,rfl,σ',E',fr',kb',hs',hf',rfl,rfl⟩
  refine mb hX hm x (T:=As li j T) (Q':=Exit.then (fun a' w'=>∃ n',n'<li.μ j/\∃ i,li.μ i=n'/\il c n (fun fr' kb'=>fr'=li.live.zip (li.st i).1/\kb'=(li.st i).2) a' w') Q') (Q:=fun e fr kb=>match e with
     | .normal=>nU c.σ.length li.dN li.live fr kb (fun s=>Nx li j s)
     |e=>Q e fr kb) ⟨fun e a W h=>?_,fun ch a a' w h=>hQ.l7 ch a a' w h⟩ ⟨σ',E',_,_,hs',hf',li.uQ _ D2 j⟩
  cases e with
  |normal=>
   obtain⟨σ2,E2,eU,bC,mE,fA,h2⟩:=h
   obtain⟨s,⟨⟨j',rfl,hlt⟩⟩,hh⟩:=uT h2 mE fA
   exact⟨_,hlt,j',rfl,hh⟩
  |exit id=>exact hQ.hat _ _ _ h
  |goto l=>exact hQ.hat _ _ _ h
  |ret=>exact hQ.hat _ _ _ h
  |panic ch=>exact hQ.hat _ _ _ h
  |outgrown=>exact hQ.hat _ _ _ h
 | .rangeFunc g ps assign body,T,Q,Q',hQ,a,W,h=>by
  obtain⟨σ,E,fr,kb,hs,hf,h⟩:=h
  simp only[gh]at h
  split at h<;>try exact h.elim
  rename_i f cap hg
  split at h<;>try exact h.elim
  rename_i hb
  unfold yG at hb
  split at hb<;>try (cases hb;done)
  rename_i fn hfn
  simp only[kE,Bool.not_eq_true',beq_eq_false_iff_ne,ne_eq]at hb
  obtain⟨acW,hbody⟩:=Option.isSome_iff_exists.1 hb.1
  have vw:=bQ hf hg
  simp only[Den]at vw
  obtain⟨cs,Ef,hcs⟩:=vw
  refine wpIn_wide.1 (wpIn_rangeFunc (F:=Fence.wide) (n:=0) fun DF _=>?_)
  let r:Loop:={state:=.ready,pending:=none,fn:=DF,tmps:=a.tmps,params:=ps,assign,body,defers:=W.heap.size }
  obtain⟨E1,hst,Uc,Lg,hl⟩:=Step.TD hs.inv r
  have hres:∀ w,(resolve a.eval (rangeCall g (W.heap.size+1)) 0).run P w= .ok {target:=.fn (.func f) cs.toArray,args:=#[.func (.yield (W.heap.size+1)) #[] #[]] } w:=by
   intro w
   have hc:a.eval (.const (.func (.yield (W.heap.size+1)) #[] #[]))= .func (.yield (W.heap.size+1)) #[] #[]:=rfl
   simp [resolve,rangeCall,Deferred.ofValue,Ef,hc]
  have hinv:∀ w,(invoke (.fn (.func f) cs.toArray) #[.func (.yield (W.heap.size+1)) #[] #[]]).run P w= .ok (.enter f (#[.func (.yield (W.heap.size+1)) #[] #[]]++cs.toArray)) w:=by
   intro w
   simp [invoke,callFunc,hfn,hb.2,hbody]
  refine⟨W.heap.size+1,[{target:=.collected W.heap.size,args:=#[] }],_,_,_,f,_,_,run_enterLoop_outer DF a.tmps ps assign body,hres _,fun _ _=>trivial,hinv _,by simp [Fence.wide],?_⟩
  refine callsIn_wide.2 ?_
  have LG:=aw.mono (τ:=[]) hst.le hcs
  rw[fg]at LG
  have hno:¬ b9 σ kb (W.heap.size+1):=fun ho=>by have:=hs.inv.lt ho;omega
  have hdl:aw σ E1 (V.any (.func (.yield (W.heap.size+1)) #[] #[])::cap) (.func (.yield (W.heap.size+1)) #[] #[]::cs):=aw.cons (by simp [Den]) LG
  have D8:Calls P f (Value.func (.yield (W.heap.size+1)) #[] #[]::cs).toArray ((W.alloc (.deferred (some []))).alloc (.loop r)) (fun e W'=>∃ v rv σ' E' kb',e= .returned v/\Step σ E1 kb ((W.alloc (.deferred (some []))).alloc (.loop r)) σ' E' kb' W'/\Den σ' E' rv v/\Q .normal fr kb'):=by
   split at h
   ·exact hX f _ kb _ (h (W.heap.size+1)) σ E1 _ _ hst.inv hdl
   ·rename_i lo _
    refine ZJ hX (h (W.heap.size+1)) hst.inv hdl ?_
    refine ZB hX hm (c:=⟨σ,E1.strip,kb,(W.alloc (.deferred (some []))).alloc (.loop r)⟩) (r:=r) (ds:=[]) hl hno (by simp only[EH.strip,Lg]) rfl rfl ?_
    refine⟨hf.size,mr.nil _,fun t v hv=>?_⟩
    obtain⟨x,k1,k2⟩:=hf.get t v hv
    have k3:=Den.mono (τ:=[]) hst.le k2
    have k4:=Den.cX (τ:=[]) E1.uf k3
    rw[fg,fg]at k4
    exact⟨x,k1,k4⟩
  have Tz:(#[.func (.yield (W.heap.size+1)) #[] #[]]++cs.toArray:Array Value)=((Value.func (.yield (W.heap.size+1)) #[] #[])::cs).toArray:=by apply Array.ext';simp
  rw[Tz]
  refine D8.mono ?_
  rintro e W3 ⟨v,rv,σ',E',kb',rfl,h1,h2,h3⟩
  have hsz:W.heap.size+1<((W.alloc (.deferred (some []))).alloc (.loop r)).heap.size:=by simp
  have yL:W3.heap[W.heap.size+1]? =some (.loop r):=by
   rw[h1.bK.block _ hsz hno];exact hl
  refine⟨none,_,run_endLoop yL (by simp [r]),?_⟩
  have yB:E' (W.heap.size+1)=none:=by
   cases hE:E' (W.heap.size+1)with
   |none=>rfl
   |some x=>
    rcases h1.new _ x hE with k | k | k
    ·rw[Lg]at k;cases k
    ·exact(hno k).elim
    ·omega
  have tr:¬ b9 σ' kb' (W.heap.size+1):=fun ho=>by
   rcases h1.own _ ho with k | k
   ·exact hno k
   ·omega
  have hall:=(hst.trans h1).other (l:=W.heap.size+1) (by omega) tr yB (.loop {r with state:=.exhausted })
  obtain⟨τ,rfl⟩:=h1.pre
  refine hQ.hat _ _ _ ⟨σ++τ,E',fr,kb',hs.trans hall,?_,h3⟩
  have hf':=hf.mono (τ:=τ) (hst.le.trans h1.le)
  refine⟨hf'.size,⟨fun d hd=>?_,?_⟩,hf'.get⟩
  ·simp only[List.singleton_append,eP]at hd
   rcases hd with rfl | hd
   ·exact⟨_,rfl,h1.le _ _ Uc⟩
   ·exact hf'.defers.all d hd
  ·simp only[List.singleton_append]
   refine List.pairwise_cons.2 ⟨fun d hd e=>?_,hf.defers.nodup⟩
   subst e
   obtain⟨b,e1,e2⟩:=hf.defers.all _ hd
   cases e1
   have:=(Array.getElem?_eq_some_iff.1 (hs.inv.cP _ _ e2)).1
   omega
 | .scope x,T,Q,Q',hQ,a,W,h=>by
  refine wp_scope_straight (mb hX hm x (Q':=Exit.noGoto Q') (Q:=fun e fr kb=>match e with | .goto _=>False | e=>Q e fr kb) ⟨fun e a W h=>?_,fun ch a a' w h=>hQ.l7 ch a a' w h⟩ h)
  cases e with
  |normal=>exact hQ.hat _ _ _ h
  |exit id=>exact hQ.hat _ _ _ h
  |goto l=>obtain⟨_,_,_,_,_,_,h⟩:=h;exact h.elim
  |ret=>exact hQ.hat _ _ _ h
  |panic ch=>exact hQ.hat _ _ _ h
  |outgrown=>exact hQ.hat _ _ _ h
 | .goto _,_,_,_,_,_,_,h=>by obtain⟨_,_,_,_,_,_,h⟩:=h;exact h.elim
 | .refuse _,_,_,_,_,_,_,h=>by obtain⟨_,_,_,_,_,_,h⟩:=h;exact h.elim
def z6 (P:Program) (X:bM) (T:Nat->Option LI) (f:FuncId) (args:List V) (kb:KB) (K:V->KB->Prop):Prop:=
 match P.funcs[f]? with
 |some fn=>match fn.body,Nat.ble args.length fn.ntmps with
  |some code,true=>gh P X T kb.length fn.ntmps code (fin P fn K) (qd 0 args) kb
  |_,_=>False
 |none=>False
theorem Pc {P:Program} {X:bM} (hX:bW P X) (hm:P.follows .mixedOrders=true) {T:Nat->Option LI} {f:FuncId} {args:List V} {kb:KB} {K:V->KB->Prop} (h:z6 P X T f args kb K) {σ:Sg} {E:EH} {W:World} {xs:List Value} (hi:Inv σ E kb W)
  (hd:aw σ E args xs):Calls P f xs.toArray W (fun e W'=>∃ v r σ' E' kb',e= .returned v/\Step σ E kb W σ' E' kb' W'/\Den σ' E' r v/\K r kb'):=by
 unfold z6 at h
 split at h<;>try exact h.elim
 rename_i fn hfn
 split at h<;>try exact h.elim
 rename_i code Ea hb
 have hle:=Nat.le_of_ble_eq_true hb
 rw[<- hd.len]at hle
 rw[<- hi.len]at h
 have hi0:=hi.strip
 have Eb:aw σ E.strip args xs:=by
  have:=aw.cX (τ:=[]) E.uf hd
  rwa [fg]at this
 refine callsIn_wide.1 (callsIn_of_wp_marks (n:=0) hfn Ea trivial (wpIn_wide.2 (wp_mono (Q:=fun e a w=>match e with | .panic _=>False | e=>bodyPostM Fence.wide 0 P fn (fun e W'=>∃ v r σ' E' kb',e= .returned v/\Step σ E kb W σ' E' kb' W'/\Den σ' E' r v/\K r kb') e a w) (mb hX hm (T:=T) (c:=⟨σ,E.strip,kb,W⟩) (n:=fn.ntmps) code (Q:=fin P fn K) ⟨fun e a' W' hh=>?_,fun ch a a' w hp=>?_⟩ ?_) (fun e a w hq=>?_))))
 ·obtain⟨σ',E',fr',kb',hs,hf,hK⟩:=hh
  have key:oD P fr' kb' fn.results.toList (fun vs=>K (qH vs) kb')->LeavesInM Fence.wide 0 P fn a'.tmps (fun e W'=>∃ v r σ' E' kb',e= .returned v/\Step σ E kb W σ' E' kb' W'/\Den σ' E' r v/\K r kb') a'.defers .returning W':=by
   intro hK
   refine EY a'.defers W' hf.defers.nodup (fun d hd=>?_) (fun W2 e1 e2 e3 e4 e5=>?_)
   ·obtain⟨b,h1,h2⟩:=hf.defers.all d hd
    exact⟨b,h1,hs.inv.cP b _ h2⟩
   ·obtain⟨E2,h1,h2⟩:=Step.Qz hi hs e1 e2 e3 e4 (M:=fun b=>{target:=.collected b,args:=#[] }∈a'.defers) (fun b hb=>by
     obtain⟨b',k1,k2⟩:=hf.defers.all _ hb
     cases k1;exact k2) (fun b hb=>e5 b (fun d hd e=>hb (e ▸ hd)))
    have fA:dL σ' E2 fr' fn.ntmps {a' with defers:=[] }:=⟨hf.size,mr.nil _,fun t v hv=>by
     obtain⟨x,k1,k2⟩:=hf.get t v hv
     refine⟨x,k1,?_⟩
     have:=Den.cX (τ:=[]) h2 k2
     rwa [fg]at this⟩
    obtain⟨v,r,k1,k2,k3⟩:=KQ fA h1.inv hK
    exact⟨v,k1,v,r,σ',E2,kb',rfl,h1,k2,k3⟩
  cases e with
  |normal=>exact key hK
  |ret=>exact key hK
  |exit id=>exact hK.elim
  |goto l=>exact hK.elim
  |panic ch=>exact hK.elim
  |outgrown=>exact hK.elim
 ·exact hp
 rotate_left
 ·cases e<;>first | exact hq | exact hq.elim
 ·refine⟨σ,E.strip,qd 0 args,kb,Step.refl hi0,⟨by simp;omega,mr.nil _,fun t v hv=>?_⟩,h⟩
  obtain⟨x,_,h2,h3⟩:=Fb 0 Eb hv
  refine⟨x,?_,h3⟩
  have hlt:t<xs.length:=by
   have:=(bU.1 h2).1
   simpa using this
  rw[Array.getElem?_append_left (by simpa using hlt)]
  simpa using h2
abbrev aH:=List V->KB->(V->KB->Prop)->Prop
def aT (P:Program) (f:FuncId) (S:aH):Prop:=∀ args kb K,S args kb K->∀ σ E W xs,Inv σ E kb W->aw σ E args xs->
 Calls P f xs.toArray W (fun e W'=>∃ v r σ' E' kb',e= .returned v/\Step σ E kb W σ' E' kb' W'/\Den σ' E' r v/\K r kb')
def iZ (o:List Nat) (n:Nat) (k:Nat):Option Nat:=
 match o[k]? with
 |some i=>some i
 |none=>some (n+(k - o.length))
def wg (ρ:Nat->Option Nat):KB->Option KB
 | []=>some []
 |x::xs=>match KO.bS ρ x,wg ρ xs with
  |some y,some ys=>some (y::ys)
  |_,_=>none
theorem O2 {ρ:Nat->Option Nat}:∀{l r:KB},wg ρ l=some r->r.length=l.length/\∀(m:Nat) (b:KO),r[m]? =some b->∃ a,l[m]? =some a/\KO.bS ρ a=some b
 | [],r,h=>by simp only[wg,bh.injEq]at h;subst h;simp
 |x::xs,r,h=>by
  simp only[wg]at h
  split at h<;>try (cases h;done)
  rename_i y ys h1 h2
  cases h
  obtain⟨h3,h4⟩:=O2 h2
  refine⟨by simp [h3],fun m b hb=>?_⟩
  cases m with
  |zero=>simp at hb;subst hb;exact⟨x,rfl,h1⟩
  |succ m=>simpa using h4 m b (by simpa using hb)
def qe (bC:KB) (o:List Nat) (ρ:Nat->Option Nat):Nat->KB->Option KB
 |_,[]=>wg ρ (bC.drop o.length)
 |i,x::r=>match idx o i with
  |some k=>match bC[k]? with
   |some a=>match KO.bS ρ a,qe bC o ρ (i+1) r with
    |some b,some t=>some (b::t)
    |_,_=>none
   |none=>none
  |none=>match qe bC o ρ (i+1) r with
   |some t=>some (x::t)
   |none=>none
theorem Cs {bC:KB} {o:List Nat} {ρ:Nat->Option Nat}:∀{r:KB} {i0:Nat} {out:KB},qe bC o ρ i0 r=some out->
  out.length=r.length+(bC.length - o.length)/\∀(j:Nat) (b:KO),out[j]? =some b->
   (j<r.length/\idx o (i0+j)=none/\r[j]? =some b)∨(j<r.length/\∃ k a,idx o (i0+j)=some k/\bC[k]? =some a/\KO.bS ρ a=some b)∨
   (r.length<=j/\∃ a,bC[o.length+(j - r.length)]? =some a/\KO.bS ρ a=some b)
 | [],i0,out,h=>by
  simp only[qe]at h
  obtain⟨h1,h2⟩:=O2 h
  refine⟨by simp [h1],fun j b hb=> .inr (.inr ⟨by simp,?_⟩)⟩
  obtain⟨a,ha,hr⟩:=h2 j b hb
  exact⟨a,by simpa using ha,hr⟩
 |x::r,i0,out,h=>by
  simp only[qe]at h
  have step:∀{t:KB},qe bC o ρ (i0+1) r=some t->∀(y:KO),((idx o i0=none/\y=x)∨∃ k a,idx o i0=some k/\bC[k]? =some a/\KO.bS ρ a=some y)->
    (y::t).length=(x::r).length+(bC.length - o.length)/\∀(j:Nat) (b:KO),(y::t)[j]? =some b->
    (j<(x::r).length/\idx o (i0+j)=none/\(x::r)[j]? =some b)∨(j<(x::r).length/\∃ k a,idx o (i0+j)=some k/\bC[k]? =some a/\KO.bS ρ a=some b)∨
    ((x::r).length<=j/\∃ a,bC[o.length+(j - (x::r).length)]? =some a/\KO.bS ρ a=some b):=by
   intro t ht y hy
   obtain⟨h1,h2⟩:=Cs ht
   refine⟨by simp [h1];omega,fun j b hb=>?_⟩
   cases j with
   |zero=>
    simp at hb;subst hb
    rcases hy with ⟨h3,rfl⟩ | ⟨k,a,h3,h4,h5⟩
    ·exact .inl ⟨by simp,by simpa using h3,rfl⟩
    ·exact .inr (.inl ⟨by simp,k,a,by simpa using h3,h4,h5⟩)
   |succ j=>
    rcases h2 j b (by simpa using hb)with ⟨k1,k2,k3⟩ | ⟨k1,k,a,k2,k3,k4⟩ | ⟨k1,a,k2,k3⟩
    ·exact .inl ⟨by simpa using k1,by rw[show i0+(j+1)=i0+1+j by omega];exact k2,by simpa using k3⟩
    ·exact .inr (.inl ⟨by simpa using k1,k,a,by rw[show i0+(j+1)=i0+1+j by omega];exact k2,k3,k4⟩)
    ·exact .inr (.inr ⟨by simpa using k1,a,by rw[show o.length+(j+1 - (x::r).length)=o.length+(j - r.length) by simp];exact k2,k3⟩)
  split at h
  ·rename_i k hk
   split at h<;>try (cases h;done)
   rename_i a ha
   split at h<;>try (cases h;done)
   rename_i b t hb ht
   cases h
   exact step ht b (.inr ⟨k,a,hk,ha,hb⟩)
  ·rename_i hk
   split at h<;>try (cases h;done)
   rename_i t ht
   cases h
   exact step ht x (.inl ⟨hk,rfl⟩)
def An (pl:Bool) (S:aH) (args:List V) (kb:KB) (K:V->KB->Prop):Prop:=
 match qg pl 0 args kb with
 |some (args',sub,o)=>S args' sub (fun r bC=>match Nat.ble o.length bC.length,V.bS (iZ o kb.length) r,qe bC o (iZ o kb.length) 0 kb with
  |true,some r',some kb'=>K r' kb'
  |_,_,_=>False)
 |none=>False
def wn (S:aH) (args:List V) (kb:KB) (K:V->KB->Prop):Prop:=An false S args kb K
def GU (S:aH) (args:List V) (kb:KB) (K:V->KB->Prop):Prop:=An true S args kb K
theorem Mn {l:List Nat} {i:Nat} (h:idx l i=none):i ∉ l:=fun hm=>by
 obtain⟨k,hk⟩:=yV hm
 rw[h]at hk;cases hk
theorem Gc {σ:Sg} {kb:KB} (hlen:σ.length=kb.length) {o:List Nat} {sub:KB} (hs:pK (idx o) kb o=some sub) {b:Nat} (h:b9 (dB σ o) sub b):
  ∃ i r ob,i∈o/\σ[i]? =some r/\kb[i]? =some ob/\owned r ob b:=by
 obtain⟨hl,da⟩:=tZ hs
 obtain⟨k,r,o',h1,h2,h3⟩:=h
 simp only[dB,fG,Option.map_eq_some_iff]at h1
 obtain⟨i,hi,hr⟩:=h1
 obtain⟨ob,o2,ho,o7,hk⟩:=da k i hi
 rw[h2]at hk;cases hk
 have hlt:i<σ.length:=by rw[hlen];exact(bU.1 ho).1
 rw[bx hlt]at hr
 simp at hr
 exact⟨i,r,ob,gm hi,by rw[bx hlt,hr],ho,(kC o7).1 h3⟩
theorem PE {pl:Bool} {P:Program} {f:FuncId} {S:aH} (hS:aT P f S) {args:List V} {kb:KB} {K:V->KB->Prop} (h:An pl S args kb K) {σ:Sg} {E:EH} {W:World} {xs:List Value} (hi:Inv σ E kb W) (hd:aw σ E args xs):
  Calls P f xs.toArray W (fun e W'=>∃ v r σ' E' kb',e= .returned v/\Step σ E kb W σ' E' kb' W'/\Den σ' E' r v/\K r kb'):=by
 unfold An at h
 split at h<;>try exact h.elim
 rename_i args' sub o hc
 obtain⟨hn,_,o_,hsel⟩:=oU hc
 obtain⟨k1,k2,k3⟩:=hi.sel hn hsel
 obtain⟨jq,da⟩:=tZ hsel
 refine(hS args' sub _ h (dB σ o) E W xs k1 (aw.bS k3 o_ hd)).mono ?_
 rintro e W' ⟨v,r,σs,E',bC,rfl,hst,dT,hK⟩
 split at hK<;>try exact hK.elim
 rename_i r' kb' D6 hr' hkb'
 have hle:=Nat.le_of_ble_eq_true D6
 obtain⟨τ,mF⟩:=hst.pre
 have Ez:(dB σ o).length=o.length:=by simp [dB]
 have hl2:σs.length=bC.length:=hst.inv.len
 obtain⟨hout,D9⟩:=Cs hkb'
 let lP:=σ++σs.drop o.length
 have ph:∀ i j r,iZ o kb.length i=some j->σs[i]? =some r->lP[j]? =some r:=by
  intro i j r hb hr
  unfold iZ at hb
  split at hb
  ·rename_i q hq
   cases hb
   have hil:i<o.length:=(bU.1 hq).1
   rw[mF,eH (by rw[Ez];exact hil)]at hr
   simp only[dB,fG,hq,Option.map_some,bh.injEq]at hr
   obtain⟨ob,_,oh,_,_⟩:=da i j hq
   have hjl:j<σ.length:=by rw[hi.len];exact(bU.1 oh).1
   rw[bx hjl]at hr
   simp only[Option.getD_some]at hr
   show(σ++_)[j]? =_
   rw[eH hjl,bx hjl,hr]
  ·rename_i hq
   cases hb
   have hil:o.length<=i:=by
    rcases iX i o.length with h' | h'
    ·rw[bx h']at hq;cases hq
    ·exact h'
   show(σ++_)[_]? =_
   rw[ef (by rw[hi.len];omega),hi.len,show kb.length+(i - o.length) - kb.length=i - o.length by omega,jB,show o.length+(i - o.length)=i by omega]
   exact hr
 have dZ:∀(i:Nat) (r:Re) (ob:KO),lP[i]? =some r->kb'[i]? =some ob->
   (∃ k a,iZ o kb.length k=some i/\σs[k]? =some r/\bC[k]? =some a/\KO.bS (iZ o kb.length) a=some ob)∨(i ∉ o/\σ[i]? =some r/\kb[i]? =some ob):=by
  intro i r ob h1 h2
  rcases D9 i ob h2 with ⟨c1,c2,c3⟩ | ⟨c1,k,a,c2,c3,c4⟩ | ⟨c1,a,c2,c3⟩
  ·rw[cL]at c2
   have h1':(σ++σs.drop o.length)[i]? =some r:=h1
   rw[eH (by rw[hi.len];exact c1)]at h1'
   exact .inr ⟨Mn c2,h1',c3⟩
  ·rw[cL]at c2
   have hk:=yW c2
   have jb:k<σs.length:=by rw[hl2];exact(bU.1 c3).1
   have hb:iZ o kb.length k=some i:=by simp [iZ,hk]
   have:=ph k i _ hb (bx jb)
   rw[this]at h1
   exact .inl ⟨k,a,hb,by rw[bx jb];exact h1,c3,c4⟩
  ·have hb:iZ o kb.length (o.length+(i - kb.length))=some i:=by
    have:o[o.length+(i - kb.length)]? =none:=gA (by omega)
    simp only[iZ,this]
    congr 1
    omega
   have jb:o.length+(i - kb.length)<σs.length:=by rw[hl2];exact(bU.1 c2).1
   have:=ph _ i _ hb (bx jb)
   rw[this]at h1
   exact .inl ⟨_,a,hb,by rw[bx jb];exact h1,c2,c3⟩
 have lx:∀ b,b9 (dB σ o) sub b->∀(j:Nat) (r:Re) (ob:KO),j ∉ o->σ[j]? =some r->kb[j]? =some ob->owned r ob b->False:=by
  intro b hb j r ob hj h1 h2 h3
  obtain⟨i,r2,o2,g1,g2,g3,g4⟩:=Gc hi.len hsel hb
  exact hi.c9 i j r2 r o2 ob b (fun e=>by subst e;exact hj g1) g2 g3 h1 h2 g4 h3
 have Et:∀(j:Nat) (r:Re) (ob:KO),j ∉ o->σ[j]? =some r->kb[j]? =some ob->∀ b,owned r ob b->W'.heap[b]? =W.heap[b]?:=by
  intro j r ob hj h1 h2 b h3
  exact hst.bK.block b ((hi.obj j r ob h1 h2).lt h3) (fun hb=>lx b hb j r ob hj h1 h2 h3)
 have o8:∀ b (k:Nat) (r:Re) (a:KO),σs[k]? =some r->bC[k]? =some a->owned r a b->b9 (dB σ o) sub b∨W.heap.size<=b:=fun b k r a h1 h2 h3=>hst.own b ⟨k,r,a,h1,h2,h3⟩
 have hown:∀ b,b9 lP kb' b->b9 σ kb b∨W.heap.size<=b:=by
  rintro b ⟨i,r,ob,h1,h2,h3⟩
  rcases dZ i r ob h1 h2 with ⟨k,a,_,g2,g3,g4⟩ | ⟨g1,g2,g3⟩
  ·rcases o8 b k r a g2 g3 ((kC g4).1 h3)with h4 | h4
   ·exact .inl (k2 b h4)
   ·exact .inr h4
  ·exact .inl ⟨i,r,ob,g2,g3,h3⟩
 refine⟨v,r',lP,E',kb',rfl,⟨⟨?_,fun i r ob h1 h2=>?_,fun i j r1 r2 o1 o2 b hij h1 h2 h3 h4 h5 h6=>?_,hst.inv.cP,fun b hb=>?_⟩,⟨hst.bK.os,hst.bK.tape,hst.bK.output,hst.bK.size,fun b hb hn'=>hst.bK.block b hb (fun h=>hn' (k2 b h))⟩,⟨_,rfl⟩,hst.le,hown,fun b x hb=>?_⟩,Den.bS ph hr' dT,hK⟩
 ·simp only[lP,bw,fh,hout,hi.len,hl2]
 ·rcases dZ i r ob h1 h2 with ⟨k,a,_,g2,g3,g4⟩ | ⟨g1,g2,g3⟩
  ·exact(hst.inv.obj k r a g2 g3).bS ph g4
  ·exact(hi.obj i r ob g2 g3).mono hst.le (fun b hb=>Et i r ob g1 g2 g3 b hb)
 ·rcases dZ i r1 o1 h1 h2 with ⟨k,a,g1,g2,g3,g4⟩ | ⟨g1,g2,g3⟩<;>rcases dZ j r2 o2 h3 h4 with ⟨m,a',q1,q2,q3,q4⟩ | ⟨q1,q2,q3⟩
  ·refine hst.inv.c9 k m r1 r2 a a' b (fun e=>?_) g2 g3 q2 q3 ((kC g4).1 h5) ((kC q4).1 h6)
   subst e
   rw[g1]at q1
   cases q1
   exact hij rfl
  ·rcases o8 b k r1 a g2 g3 ((kC g4).1 h5)with h7 | h7
   ·exact lx b h7 j r2 o2 q1 q2 q3 h6
   ·have:=(hi.obj j r2 o2 q2 q3).lt h6;omega
  ·rcases o8 b m r2 a' q2 q3 ((kC q4).1 h6)with h7 | h7
   ·exact lx b h7 i r1 o1 g1 g2 g3 h5
   ·have:=(hi.obj i r1 o1 g2 g3).lt h5;omega
  ·exact hi.c9 i j r1 r2 o1 o2 b hij g2 g3 q2 q3 h5 h6
 ·obtain⟨i,r,ob,h1,h2,h3⟩:=hb
  rcases dZ i r ob h1 h2 with ⟨k,a,_,g2,g3,g4⟩ | ⟨g1,g2,g3⟩
  ·exact hst.inv.sep b ⟨k,r,a,g2,g3,(kC g4).1 h3⟩
  ·cases hE:E' b with
   |none=>rfl
   |some x=>
    rcases hst.new b x hE with h4 | h4 | h4
    ·have:=hi.sep b ⟨i,r,ob,g2,g3,h3⟩;rw[this]at h4;cases h4
    ·exact(lx b h4 i r ob g1 g2 g3 h3).elim
    ·have:=(hi.obj i r ob g2 g3).lt h3;omega
 ·rcases hst.new b x hb with h4 | h4 | h4
  ·exact .inl h4
  ·exact .inr (.inl (k2 b h4))
  ·exact .inr (.inr h4)
theorem Ao {P:Program} {f:FuncId} {S:aH} (hS:aT P f S) {args:List V} {kb:KB} {K:V->KB->Prop} (h:wn S args kb K) {σ:Sg} {E:EH} {W:World} {xs:List Value} (hi:Inv σ E kb W) (hd:aw σ E args xs):
 Calls P f xs.toArray W (fun e W'=>∃ v r σ' E' kb',e= .returned v/\Step σ E kb W σ' E' kb' W'/\Den σ' E' r v/\K r kb'):=PE hS h hi hd
theorem PF {P:Program} {f:FuncId} {S:aH} (hS:aT P f S) {args:List V} {kb:KB} {K:V->KB->Prop} (h:GU S args kb K) {σ:Sg} {E:EH} {W:World} {xs:List Value} (hi:Inv σ E kb W) (hd:aw σ E args xs):
 Calls P f xs.toArray W (fun e W'=>∃ v r σ' E' kb',e= .returned v/\Step σ E kb W σ' E' kb' W'/\Den σ' E' r v/\K r kb'):=PE hS h hi hd
def fz:KB->Bool
 | []=>true
 | .objs _:: _=>false
 | .gQ _:: _=>false
 |_::kb=>fz kb
theorem KZ:∀{kb:KB},fz kb=true->∀(i:Nat) (o:KO),kb[i]? =some o->(∀ A,o≠.objs A)/\∀ a,o≠.gQ a
 | [],_,i,o,h=>by simp at h
 |x::kb,hf,0,o,h=>by
  simp at h;subst h
  exact⟨fun A e=>by subst e;simp [fz]at hf,fun A e=>by subst e;simp [fz]at hf⟩
 |x::kb,hf,i+1,o,h=>by
  refine KZ (kb:=kb) ?_ i o (by simpa using h)
  cases x<;>first | exact hf | (simp [fz]at hf)
theorem fF.down {σ:Sg} {E:EH} {W:World} {r:Re} {o:KO} (h:fF σ E W r o) {b:Nat} (ho:owned r o b):l6 r o b:=by
 cases o<;>first | exact ho | exact h.elim
theorem fv.down {σ:Sg} {E:EH} {W:World} {r:Re} {o:KO} (h:fv σ E W r o) (hn:(∀ A,o≠.objs A)/\∀ a,o≠.gQ a):fF σ E W r o:=by
 cases o<;>first | exact h | exact trivial | exact absurd rfl (hn.1 _) | exact absurd rfl (hn.2 _)
theorem lT.owns {E:EH} {W:World} {a:Sg×KB} (h:lT E W a) {b:Nat} (ho:b9 a.1 a.2 b):iq a b:=by
 obtain⟨i,r,o,h1,h2,h3⟩:=ho
 exact⟨i,r,o,h1,h2,(h.obj i r o h1 h2).down h3⟩
theorem iq.up {a:Sg×KB} {b:Nat} (h:iq a b):b9 a.1 a.2 b:=by
 obtain⟨i,r,o,h1,h2,h3⟩:=h
 exact⟨i,r,o,h1,h2,h3.up⟩
theorem lT.inv {E:EH} {W:World} {a:Sg×KB} (h:lT E W a) (UQ:∀ b o,E b=some o->W.heap[b]? =some o) (hsep:∀ b,iq a b->E b=none):Inv a.1 E a.2 W:=
 ⟨h.len,fun i r o h1 h2=>(h.obj i r o h1 h2).up,fun i j r r' o o' b hij h1 h2 h3 h4 h5 h6=>h.c9 i j r r' o o' b hij h1 h2 h3 h4 ((h.obj i r o h1 h2).down h5) ((h.obj j r' o' h3 h4).down h6),UQ,fun b hb=>hsep b (h.owns hb)⟩
theorem Inv.FS {σ:Sg} {E:EH} {kb:KB} {W:World} (h:Inv σ E kb W) (hf:fz kb=true):lT E W (σ,kb):=
 ⟨h.len,fun i r o h1 h2=>(h.obj i r o h1 h2).down (KZ hf i o h2),fun i j r r' o o' b hij h1 h2 h3 h4 h5 h6=>h.c9 i j r r' o o' b hij h1 h2 h3 h4 h5.up h6.up⟩
def fw (P:Program) (f:FuncId) (S:aH):Prop:=∀ args kb K,S args kb K->∀ σ E W xs,Inv σ E kb W->aw σ E args xs->
 Calls P f xs.toArray W (fun e W'=>∃ v r σ' E' bC σ3 de,e= .returned v/\Step σ E kb W σ' E' bC W'/\Inv σ3 E' de W'/\fz de=true/\(∀ b,b9 σ3 de b->b9 σ' bC b)/\(∀ b,l_ σ b->l_ σ3 b)/\(∀ τ,Den τ E' r v)/\K r de)
def qy:List Nat->KB->KB
 | [],kb=>kb
 |i::is,kb=>qy is (kb.set i .dead)
theorem ER:∀{o:List Nat} {kb:KB},(qy o kb).length=kb.length
 | [],kb=>rfl
 |i::is,kb=>by simp only[qy];rw[ER,gC]
theorem MA:∀{o:List Nat} {kb:KB} {j:Nat} {b:KO},(qy o kb)[j]? =some b->b= .dead∨(j ∉ o/\kb[j]? =some b)
 | [],kb,j,b,h=> .inr ⟨by simp,h⟩
 |i::is,kb,j,b,h=>by
  simp only[qy]at h
  rcases MA h with h1 | ⟨h1,h2⟩
  ·exact .inl h1
  ·by_cases e:i=j
   ·subst e
    rw[List.getElem?_set_self']at h2
    cases hk:kb[i]? with
    |none=>rw[hk]at h2;simp at h2
    |some x=>rw[hk]at h2;simp at h2;exact .inl h2.symm
   ·rw[fR e]at h2
    exact .inr ⟨fun hm=>by
     rcases eP.1 hm with e2 | e2
     ·exact e e2.symm
     ·exact h1 e2,h2⟩
def GW (S:aH) (args:List V) (kb:KB) (K:V->KB->Prop):Prop:=
 match qg false 0 args kb with
 |some (args',sub,o)=>match o with
  |i0:: _=>S args' sub (fun r de=>fz de=true->∀ τ,K r ((qy o kb).set i0 (.gQ (τ,de))))
  | []=>False
 |none=>False
theorem aaa {P:Program} {f:FuncId} {S:aH} (hS:fw P f S) {args:List V} {kb:KB} {K:V->KB->Prop} (h:GW S args kb K) {σ:Sg} {E:EH} {W:World} {xs:List Value} (hi:Inv σ E kb W) (hd:aw σ E args xs):
  Calls P f xs.toArray W (fun e W'=>∃ v r σ' E' kb',e= .returned v/\Step σ E kb W σ' E' kb' W'/\Den σ' E' r v/\K r kb'):=by
 unfold GW at h
 split at h<;>try exact h.elim
 rename_i args' sub o hc
 split at h<;>try exact h.elim
 rename_i i0 o'
 obtain⟨hn,_,o_,hsel⟩:=oU hc
 obtain⟨k1,k2,k3⟩:=hi.sel hn hsel
 obtain⟨jq,da⟩:=tZ hsel
 have hi0:i0<kb.length:=by
  obtain⟨ob,_,oh,_,_⟩:=da 0 i0 rfl
  exact(bU.1 oh).1
 have Vd:(dB σ (i0::o'))[0]? =σ[i0]?:=by
  have:i0<σ.length:=by rw[hi.len];exact hi0
  simp [dB,bx this]
 refine(hS args' sub _ h (dB σ (i0::o')) E W xs k1 (aw.bS k3 o_ hd)).mono ?_
 rintro e W' ⟨v,r,σ',E',bC,σ3,de,rfl,hst,hin,lq,U_,qw,dT,hK⟩
 have U9:=hin.FS lq
 have lx:∀ b,b9 (dB σ (i0::o')) sub b->∀(j:Nat) (r:Re) (ob:KO),j ∉ i0::o'->σ[j]? =some r->kb[j]? =some ob->owned r ob b->False:=by
  intro b hb j r ob hj h1 h2 h3
  obtain⟨i,r2,o2,g1,g2,g3,g4⟩:=Gc hi.len hsel hb
  exact hi.c9 i j r2 r o2 ob b (fun e=>by subst e;exact hj g1) g2 g3 h1 h2 g4 h3
 have En:∀ b,iq (σ3,de) b->b9 (dB σ (i0::o')) sub b∨W.heap.size<=b:=fun b hb=>hst.own b (U_ b hb.up)
 have dZ:∀(j:Nat) (ob:KO),((qy (i0::o') kb).set i0 (.gQ (σ3,de)))[j]? =some ob->(j=i0/\ob= .gQ (σ3,de))∨ob= .dead∨(j ∉ i0::o'/\kb[j]? =some ob):=by
  intro j ob hj
  by_cases e:i0=j
  ·subst e
   rw[gB (by rw[ER];exact hi0)]at hj
   exact .inl ⟨rfl,(bh.inj hj).symm⟩
  ·rw[fR e]at hj
   exact .inr (MA hj)
 have hown:∀ b,b9 σ ((qy (i0::o') kb).set i0 (.gQ (σ3,de))) b->b9 σ kb b∨W.heap.size<=b:=by
  rintro b ⟨j,q,ob,h1,h2,h3⟩
  rcases dZ j ob h2 with ⟨rfl,rfl⟩ | rfl | ⟨g1,g2⟩
  ·rcases En b h3 with g | g
   ·exact .inl (k2 b g)
   ·exact .inr g
  ·exact h3.elim
  ·exact .inl ⟨j,q,ob,h1,g2,h3⟩
 refine⟨v,r,σ,E',_,rfl,⟨⟨?_,fun j q ob h1 h2=>?_,fun j j' q q' ob vS b hij h1 h2 h3 h4 h5 h6=>?_,hst.inv.cP,fun b hb=>?_⟩,⟨hst.bK.os,hst.bK.tape,hst.bK.output,hst.bK.size,fun b hb hn'=>hst.bK.block b hb (fun h=>hn' (k2 b h))⟩,⟨[],by simp⟩,hst.le,hown,fun b x hb=>?_⟩,dT σ,hK lq σ3⟩
 ·rw[gC,ER,hi.len]
 ·rcases dZ j ob h2 with ⟨rfl,rfl⟩ | rfl | ⟨g1,g2⟩
  ·exact⟨U9,qw q.blk ⟨q,by rw[Vd];exact h1,rfl⟩⟩
  ·trivial
  ·have:=(hi.obj j q ob h1 g2).mono (τ:=[]) (W':=W') hst.le (fun b hb=>hst.bK.block b ((hi.obj j q ob h1 g2).lt hb) (fun hs=>lx b hs j q ob g1 h1 g2 hb))
   simpa using this
 ·rcases dZ j ob h2 with ⟨rfl,rfl⟩ | rfl | ⟨g1,g2⟩<;>rcases dZ j' vS h4 with ⟨e2,e3⟩ | rfl | ⟨TX,DM⟩
  ·exact hij e2.symm
  ·exact h6.elim
  ·rcases En b h5 with g | g
   ·exact lx b g j' q' vS TX h3 DM h6
   ·have:=(hi.obj j' q' vS h3 DM).lt h6;omega
  ·exact h5.elim
  ·exact h5.elim
  ·exact h5.elim
  ·subst e3
   rcases En b h6 with g | g
   ·exact lx b g j q ob g1 h1 g2 h5
   ·have:=(hi.obj j q ob h1 g2).lt h5;omega
  ·exact h6.elim
  ·exact hi.c9 j j' q q' ob vS b hij h1 g2 h3 DM h5 h6
 ·obtain⟨j,q,ob,h1,h2,h3⟩:=hb
  rcases dZ j ob h2 with ⟨rfl,rfl⟩ | rfl | ⟨g1,g2⟩
  ·exact hin.sep b h3.up
  ·exact h3.elim
  ·cases hE:E' b with
   |none=>rfl
   |some x=>
    rcases hst.new b x hE with h4 | h4 | h4
    ·have:=hi.sep b ⟨j,q,ob,h1,g2,h3⟩;rw[this]at h4;cases h4
    ·exact(lx b h4 j q ob g1 h1 g2 h3).elim
    ·have:=(hi.obj j q ob h1 g2).lt h3;omega
 ·rcases hst.new b x hb with h4 | h4 | h4
  ·exact .inl h4
  ·exact .inr (.inl (k2 b h4))
  ·exact .inr (.inr h4)
theorem u9 {σ:Sg} {E:EH} {v:V} {x:Value} (h:Den σ E v x):aw σ E [v] [x]:=by simp only[aw];exact⟨x,[],rfl,h,rfl⟩
theorem u_ {σ:Sg} {E:EH} {v:V} {x:Value} (h:aw σ E [v] [x]):Den σ E v x:=by
 simp only[aw]at h
 obtain⟨y,ys,e,h1,rfl⟩:=h
 cases e
 exact h1
def zw (ds:List iB) (S:aH):aH:=fun args kb K=>wn S (nA ds (args,kb)).1 (nA ds (args,kb)).2 K
theorem FB {P:Program} {f:FuncId} {S:aH} (hS:aT P f S) (ds:List iB):aT P f (zw ds S):=fun args kb K h σ E W xs hi hd=>by
 obtain⟨σ',Ih,h1,h2,_⟩:=vM (c:=⟨σ,E,kb,W⟩) ds (s:=(args,kb)) (Step.refl hi) hd
 refine(Ao hS h h1.inv h2).mono ?_
 rintro e W' ⟨v,r,σs,E',bC,rfl,hst,dT,hK⟩
 exact⟨v,r,σs,E',bC,rfl,Step.trans h1 hst,dT,hK⟩
def eX (ds:List iB) (K:V->KB->Prop):V->KB->Prop:=fun r kb=>match r with
 | .υ l=>K (.υ (nA ds (l,kb)).1) (nA ds (l,kb)).2
 |r=>match (nA ds ([r],kb)).1 with
  | [r']=>K r' (nA ds ([r],kb)).2
  |_=>False
def WB (ds:List iB) (S:aH):aH:=fun args kb K=>S args kb (eX ds K)
theorem FC {P:Program} {f:FuncId} {S:aH} (hS:aT P f S) (ds:List iB):aT P f (WB ds S):=fun args kb K h σ E W xs hi hd=>by
 refine(hS args kb _ h σ E W xs hi hd).mono ?_
 rintro e W' ⟨v,r,σs,E',bC,rfl,hst,dT,hK⟩
 unfold eX at hK
 split at hK
 ·rename_i l
  simp only[Den]at dT
  obtain⟨vs,rfl,hl⟩:=dT
  obtain⟨σ',Ih,h1,h2,_⟩:=vM (c:=⟨σ,E,kb,W⟩) ds (s:=(l,bC)) hst hl
  exact⟨_,_,_,_,_,rfl,h1,by simp only[Den];exact⟨vs,rfl,h2⟩,hK⟩
 ·split at hK<;>try exact hK.elim
  rename_i r' hr
  obtain⟨σ',Ih,h1,h2,_⟩:=vM (c:=⟨σ,E,kb,W⟩) ds (s:=([r],bC)) hst (u9 dT)
  rw[hr]at h2
  exact⟨_,_,_,_,_,rfl,h1,u_ h2,hK⟩
def dh (n0:Nat) (K:V->KB->Prop):V->KB->Prop:=fun r kb=>match canon n0 [r] kb with
 |some ([r'],kb',_)=>K r' kb'
 |_=>False
def aaQ (S:aH):aH:=fun args kb K=>S args kb (dh kb.length K)
theorem AB {P:Program} {f:FuncId} {S:aH} (hS:aT P f S):aT P f (aaQ S):=fun args kb K h σ E W xs hi hd=>by
 refine(hS args kb _ h σ E W xs hi hd).mono ?_
 rintro e W' ⟨v,r,σs,E',bC,rfl,hst,dT,hK⟩
 unfold dh at hK
 split at hK<;>try exact hK.elim
 rename_i r' kb' o hc
 rw[<- hi.len]at hc
 obtain⟨σ',h1,h2⟩:=Step.sel (c:=⟨σ,E,kb,W⟩) hst hc (u9 dT)
 exact⟨_,_,_,_,_,rfl,h1,u_ h2,hK⟩
inductive Mode where
 |kM
 |fp (s:Nat)
 |eB (s:Nat)
 |gU
 |tail
def qm:List Mode->List V->KB->(List V->KB->Prop)->Prop
 |_,[],kb,K=>K [] kb
 | [],v::vs,kb,K=>K (v::vs) kb
 | .eB s::ms,v::vs,kb,K=>oW (.sl s) v kb (fun d kb'=>qm ms vs kb' (fun us iI=>K (.dat d::us) iI))
 |_::ms,v::vs,kb,K=>qm ms vs kb (fun us kb'=>K (v::us) kb')
theorem vn:∀{ms:List Mode} {vs:List V} {kb:KB} {K:List V->KB->Prop},qm ms vs kb K->∀{σ:Sg} {E:EH} {W:World},Inv σ E kb W->∀{xs:List Value},aw σ E vs xs->
  ∃ E' kb' us,Step σ E kb W σ E' kb' W/\aw σ E' us xs/\K us kb'
 |ms,[],kb,K,h,σ,E,W,hi,xs,hd=>by
  have:K [] kb:=by cases ms with | nil=>exact h | cons m ms=>cases m<;>exact h
  exact⟨E,kb,[],Step.refl hi,hd,this⟩
 | [],v::vs,kb,K,h,σ,E,W,hi,xs,hd=>⟨E,kb,v::vs,Step.refl hi,hd,h⟩
 |m::ms,v::vs,kb,K,h,σ,E,W,hi,xs,hd=>by
  simp only[aw]at hd
  obtain⟨x,xs',rfl,h1,h2⟩:=hd
  have plain:qm ms vs kb (fun us kb'=>K (v::us) kb')->∃ E' kb' us,Step σ E kb W σ E' kb' W/\aw σ E' us (x::xs')/\K us kb':=fun h=>by
   obtain⟨E1,dU,us,s1,d1,hK⟩:=vn h hi h2
   have:=Den.mono (τ:=[]) s1.le h1
   rw[fg]at this
   exact⟨E1,dU,v::us,s1,.cons this d1,hK⟩
  cases m with
  |kM=>exact plain h
  |fp s=>exact plain h
  |gU=>exact plain h
  |tail=>exact plain h
  |eB s=>
   simp only[qm]at h
   obtain⟨E1,dU,d,s1,r1,h⟩:=u0 h hi h1
   have h2':=aw.mono (τ:=[]) s1.le h2
   rw[fg]at h2'
   obtain⟨E2,bC,us,s2,d2,hK⟩:=vn h s1.inv h2'
   exact⟨E2,bC,.dat d::us,s1.trans s2,.cons (by simp only[Den];exact r1.mono s2.le) d2,hK⟩
def qK:V->List Nat
 | .sl i _ _=>[i]
 | .sa i _ _ _ _ _=>[i]
 | .se i _ _ _ _ _=>[i]
 |_=>[]
def tz (kb:KB) (s:Nat) (v:V):Option (Prop×V×List Nat):=
 match qL kb v with
 |some (sz,p,xs)=>match wu s sz with
  |true=>some (p,.dat (.sl s xs),qK v)
  |false=>none
 |none=>none
def qz (kb:KB) (s:Nat):List V->Option (Prop×List V×List Nat)
 | []=>some (True,[],[])
 |v::vs=>match qz kb s vs with
  |some (q,us,js)=>match tz kb s v with
   |some (p,u,is)=>some (p/\q,u::us,is++js)
   |none=>some (q,v::us,js)
  |none=>none
def vG (kb:KB) (s:Nat) (v:V):Option (Prop×V×List Nat):=
 match v with
 | .agg l=>match qz kb s l with
  |some (p,us,is)=>some (p,.agg us,is)
  |none=>none
 |v=>tz kb s v
def gP (kb:KB):List Mode->List V->Option (Prop×List V×List Nat)
 |_,[]=>some (True,[],[])
 | .fp s::ss,v::vs=>match vG kb s v,gP kb ss vs with
  |some (p,u,is),some (q,us,js)=>some (p/\q,u::us,is++js)
  |_,_=>none
 | [],v::vs=>match gP kb [] vs with
  |some (p,us,is)=>some (p,v::us,is)
  |none=>none
 |_::ss,v::vs=>match gP kb ss vs with
  |some (p,us,is)=>some (p,v::us,is)
  |none=>none
open Classical in
noncomputable def lB (σ:Sg) (kb:KB) (is:List Nat) (W:World) (E:EH):EH:=fun b=>match E b with
 |some o=>some o
 |none=>if ∃ i∈is,∃ r o,σ[i]? =some r/\kb[i]? =some o/\owned r o b then W.heap[b]? else none
theorem rQ (σ:Sg) (kb:KB) (is:List Nat) (W:World) (E:EH):E.le (lB σ kb is W E):=fun b o h=>by simp [lB,h]
theorem MN {kb:KB} {s:Nat} {v u:V} {p:Prop} {is:List Nat} (h:tz kb s v=some (p,u,is)) (hp:p) {σ:Sg} {E:EH} {W:World} (hi:Inv σ E kb W) {x:Value} (hd:Den σ E v x) {js:List Nat} (lu:∀ i∈is,i∈js):
  Den σ (lB σ kb js W E) u x:=by
 unfold tz at h
 split at h<;>try (cases h;done)
 rename_i sz q xs hsrc
 split at h<;>try (cases h;done)
 rename_i hfit
 simp only[bh.injEq,Prod.mk.injEq]at h
 obtain⟨rfl,rfl,rfl⟩:=h
 have hle:=rQ σ kb js W E
 by_cases LL:∃ l,v= .dat (.sl s l)/\xs=l
 ·obtain⟨l,rfl,rfl⟩:=LL
  simp only[Den]at hd ⊢
  exact hd.mono hle
 have hE:=sh hsrc hp hi hd hfit
 obtain⟨hw,a,cap,ys,rfl,hc,hD,ha⟩:=hE
 simp only[Den,bH]
 refine⟨a,cap,rfl,hc,?_⟩
 rcases ha with ha | ⟨b,o,rfl,ha⟩
 ·exact .inl ha
 by_cases h0:xs.length=0
 ·exact .inl h0
 refine .inr ⟨b,o,rfl,ey.of_flat hw ((hD.mono hle).rep fun j y hj=>?_)⟩
 have hcell:=ha j y hj
 have key:∀{i:Nat} {r:Re} {ob:KO},i∈qK v->σ[i]? =some r->kb[i]? =some ob->owned r ob b->EH.cell (lB σ kb js W E) b (o+j)=some y:=by
  intro i r ob hin hr hk ho
  have hn:=hi.sep b ⟨i,r,ob,hr,hk,ho⟩
  have hlt:=(hi.obj i r ob hr hk).lt ho
  have hb:lB σ kb js W E b=W.heap[b]?:=by
   simp only[lB,hn]
   rw[if_pos ⟨i,lu i hin,r,ob,hr,hk,ho⟩]
  unfold EH.cell
  rw[hb]
  unfold World.cell? at hcell
  simp only at hcell
  split at hcell<;>first | (rename_i e;rw[e];simpa using hcell) | (cases hcell)
 unfold qL at hsrc
 split at hsrc
 ·rename_i i lo hi'
  split at hsrc<;>try (cases hsrc;done)
  rename_i ty sz' l hl
  simp only[bh.injEq,Prod.mk.injEq]at hsrc
  obtain⟨rfl,rfl,rfl⟩:=hsrc
  simp only[Den]at hd
  obtain⟨r,ad,hr,e,g1,g2,g3⟩:=hd
  have hl0:((l.take hi').drop lo).length=hi' - lo:=by simp;omega
  simp only[eI.injEq]at e
  have:=g3 (by omega)
  rw[<- e.1]at this
  cases this
  exact key (by simp [qK]) hr hl ⟨by omega,rfl⟩
 ·rename_i sz' l
  simp only[bh.injEq,Prod.mk.injEq]at hsrc
  obtain⟨rfl,rfl,rfl⟩:=hsrc
  have:sz'=s:=cy hfit
  subst this
  exact(LL ⟨_,rfl,rfl⟩).elim
 ·simp only[bh.injEq,Prod.mk.injEq]at hsrc
  obtain⟨_,_,rfl⟩:=hsrc
  exact(h0 rfl).elim
 ·simp only[bh.injEq,Prod.mk.injEq]at hsrc
  obtain⟨_,_,rfl⟩:=hsrc
  exact(h0 rfl).elim
 ·rename_i i base o' s' n c
  split at hsrc<;>try (cases hsrc;done)
  rename_i l hl hb
  split at hsrc<;>try (cases hsrc;done)
  rename_i m cs hpc
  simp only[bh.injEq,Prod.mk.injEq]at hsrc
  obtain⟨_,rfl,rfl⟩:=hsrc
  simp only[Den]at hd
  obtain⟨r,ad,hr,e,g1,g3⟩:=hd
  simp only[eI.injEq]at e
  have:=g3 (by omega)
  rw[<- e.1]at this
  cases this
  exact key (by simp [qK]) hr hl rfl
 ·rename_i i ix o' s' n c
  split at hsrc<;>try (cases hsrc;done)
  rename_i ty sz' l hl hb
  simp only[bh.injEq,Prod.mk.injEq]at hsrc
  obtain⟨_,rfl,rfl⟩:=hsrc
  simp only[Den]at hd
  obtain⟨r,ad,hr,e,g1,g3⟩:=hd
  simp only[eI.injEq]at e
  have:=g3 (by omega)
  rw[<- e.1]at this
  cases this
  have hk:=hi.obj i r _ hr hl
  obtain⟨_,_,k3,_,_⟩:=hk
  exact key (by simp [qK]) hr hl ⟨by have:=hp.1;omega,rfl⟩
 ·cases hsrc
theorem E7 {kb:KB} {s:Nat} {σ:Sg} {E:EH} {W:World} (hi:Inv σ E kb W) {js:List Nat}:∀{vs us:List V} {p:Prop} {is:List Nat},qz kb s vs=some (p,us,is)->p->(∀ i∈is,i∈js)->∀{xs:List Value},aS σ E vs xs->aS σ (lB σ kb js W E) us xs
 | [],us,p,is,h,_,_,xs,hd=>by
  simp only[qz,bh.injEq,Prod.mk.injEq]at h
  obtain⟨_,rfl,_⟩:=h
  simpa only[aS]using hd
 |v::vs,us,p,is,h,hp,lu,xs,hd=>by
  simp only[qz]at h
  obtain⟨ys,zs,rfl,h1,h2⟩:=hd.gx
  split at h<;>try (cases h;done)
  rename_i q ws ls hq
  split at h
  ·rename_i p1 u y0 h3
   simp only[bh.injEq,Prod.mk.injEq]at h
   obtain⟨rfl,rfl,rfl⟩:=h
   refine aS.cons ?_ (E7 hi hq hp.2 (fun i hi'=>lu i (List.mem_append_right _ hi')) h2)
   rcases h1 with ⟨y,rfl,h4,h5⟩ | ⟨m,cs,rfl,_,_⟩
   ·exact .inl ⟨y,rfl,h4,MN h3 hp.1 hi h5 (fun i hi'=>lu i (lR _ hi'))⟩
   ·cases h3
  ·simp only[bh.injEq,Prod.mk.injEq]at h
   obtain⟨rfl,rfl,rfl⟩:=h
   refine aS.cons ?_ (E7 hi hq hp lu h2)
   rcases h1 with ⟨y,rfl,h4,h5⟩ | ⟨m,cs,rfl,h4,h5⟩
   ·exact .inl ⟨y,rfl,h4,by simpa using Den.mono (τ:=[]) (rQ σ kb js W E) h5⟩
   ·exact .inr ⟨m,cs,rfl,h4,h5.mono (rQ σ kb js W E)⟩
theorem V9 {kb:KB} {s:Nat} {v u:V} {p:Prop} {is:List Nat} (h:vG kb s v=some (p,u,is)) (hp:p) {σ:Sg} {E:EH} {W:World} (hi:Inv σ E kb W) {x:Value} (hd:Den σ E v x) {js:List Nat} (lu:∀ i∈is,i∈js):
  Den σ (lB σ kb js W E) u x:=by
 unfold vG at h
 split at h
 ·split at h<;>try (cases h;done)
  rename_i l p1 us y0 h1
  simp only[bh.injEq,Prod.mk.injEq]at h
  obtain⟨rfl,rfl,rfl⟩:=h
  simp only[Den]at hd ⊢
  obtain⟨vs,rfl,h2⟩:=hd
  exact⟨vs,rfl,E7 hi h1 hp lu h2⟩
 ·exact MN h hp hi hd lu
theorem zj {kb:KB} {σ:Sg} {E:EH} {W:World} (hi:Inv σ E kb W) {js:List Nat}:∀{ss:List Mode} {vs us:List V} {p:Prop} {is:List Nat},gP kb ss vs=some (p,us,is)->p->(∀ i∈is,i∈js)->∀{xs:List Value},aw σ E vs xs->aw σ (lB σ kb js W E) us xs
 |ss,[],us,p,is,h,_,_,xs,hd=>by
  have:us=[]:=by
   cases ss with
   |nil=>simp only[gP,bh.injEq,Prod.mk.injEq]at h;exact h.2.1.symm
   |cons m ss=>cases m<;>(simp only[gP,bh.injEq,Prod.mk.injEq]at h;exact h.2.1.symm)
  subst this
  simpa only[aw]using hd
 | [],v::vs,us,p,is,h,hp,lu,xs,hd=>by
  simp only[gP]at h
  split at h<;>try (cases h;done)
  rename_i q ws ks hq
  simp only[bh.injEq,Prod.mk.injEq]at h
  obtain⟨rfl,rfl,rfl⟩:=h
  simp only[aw]at hd ⊢
  obtain⟨x,xs',rfl,h1,h2⟩:=hd
  exact⟨x,xs',rfl,by simpa using Den.mono (τ:=[]) (rQ σ kb js W E) h1,zj hi hq hp lu h2⟩
 |m::ss,v::vs,us,p,is,h,hp,lu,xs,hd=>by
  have plain:(match gP kb ss vs with | some (p,us,is)=>some (p,v::us,is) | none=>none)=some (p,us,is)->aw σ (lB σ kb js W E) us xs:=fun h=>by
   split at h<;>try (cases h;done)
   rename_i q ws ks hq
   simp only[bh.injEq,Prod.mk.injEq]at h
   obtain⟨rfl,rfl,rfl⟩:=h
   simp only[aw]at hd ⊢
   obtain⟨x,xs',rfl,h1,h2⟩:=hd
   exact⟨x,xs',rfl,by simpa using Den.mono (τ:=[]) (rQ σ kb js W E) h1,zj hi hq hp lu h2⟩
  cases m with
  |kM=>exact plain (by simpa only[gP]using h)
  |eB s=>exact plain (by simpa only[gP]using h)
  |gU=>exact plain (by simpa only[gP]using h)
  |tail=>exact plain (by simpa only[gP]using h)
  |fp s=>
   simp only[gP]at h
   split at h<;>try (cases h;done)
   rename_i q u ks q' ws ls hq np
   simp only[bh.injEq,Prod.mk.injEq]at h
   obtain⟨rfl,rfl,rfl⟩:=h
   simp only[aw]at hd ⊢
   obtain⟨x,xs',rfl,h1,h2⟩:=hd
   exact⟨x,xs',rfl,V9 hq hp.1 hi h1 (fun i hi'=>lu i (lR _ hi')),zj hi np hp.2 (fun i hi'=>lu i (List.mem_append_right _ hi')) h2⟩
def D.isVal:D->Prop
 | .val _=>True
 | .sl .. =>False
def Plain (cs:List D):Prop:=∀ d∈cs,d.isVal
theorem bH.free {E E':EH} {d:D} (h:d.isVal) {x:Value} (hr:bH E d x):bH E' d x:=by
 cases d with
 |val v=>simpa only[bH]using hr
 |sl _ _=>exact h.elim
theorem aY.free {E E':EH}:∀{ds:List D} {xs:List Value},Plain ds->aY E ds xs->aY E' ds xs
 | [],_,_,hd=>by simpa only[aY]using hd
 |d::ds,_,h,hd=>by
  simp only[aY]at hd ⊢
  obtain⟨x,xs',h0,h1,h2⟩:=hd
  exact⟨x,xs',h0,h1.free (h d (by simp)),h2.free (fun e he=>h e (fS _ he))⟩
structure lg (cs:List D):Prop where
 ok:Plain cs
def CW:List (List D)->Prop
 | []=>True
 | [a]=>lg a
 |a::b::l=>lg a/\CW (b::l)
theorem J8:∀{l:List (List D)},CW l->∀ a∈l,Plain a
 | [],_,a,ha=>by cases ha
 | [b],h,a,ha=>by simp at ha;subst ha;exact h.ok
 |b::c::l,h,a,ha=>by
  rcases eP.1 ha with rfl | ha
  ·exact h.1.ok
  ·exact J8 h.2 a ha
mutual
def V.free:V->Option (List (List D))
 | .dd .. =>none
 | .ae _=>none
 | .imp .. =>none
 | .dat (.sl ..)=>none
 | .arr _ cs=>some [cs]
 | .agg l=>V.o4 l
 | .υ l=>V.o4 l
 | .fn _ l=>V.o4 l
 | .dat d=>some [[d]]
 |_=>some []
def V.o4:List V->Option (List (List D))
 | []=>some []
 |v::vs=>match V.free v with
  |some p=>match V.o4 vs with | some q=>some (p++q) | none=>none
  |none=>none
end
mutual
theorem Den.free {σ:Sg} {E E':EH}:∀{v:V} {ps:List (List D)},V.free v=some ps->(∀ p∈ps,Plain p)->∀{x:Value},Den σ E v x->Den σ E' v x
 | .any _,_,_,_,_,hd | .int ..,_,_,_,_,hd | .lit ..,_,_,_,_,hd | .sb _,_,_,_,_,hd | .tt,_,_,_,_,hd | .ff,_,_,_,_,hd | .ptr ..,_,_,_,_,hd | .pa ..,_,_,_,_,hd | .sl ..,_,_,_,_,hd
 | .pe ..,_,_,_,_,hd | .pw ..,_,_,_,_,hd | .e0,_,_,_,_,hd | .sa ..,_,_,_,_,hd | .se ..,_,_,_,_,hd | .mp _,_,_,_,_,hd | .ch _,_,_,_,_,hd=>by simpa only[Den]using hd
 | .arr ..,_,_,_,_,hd=>by simp only[Den]at hd
 | .dd ..,_,h,_,_,_=>by simp [V.free]at h
 | .ae _,_,h,_,_,_=>by simp [V.free]at h
 | .imp ..,_,h,_,_,_=>by simp [V.free]at h
 | .dat d,ps,h,hp,x,hd=>by
  cases d with
  |val v=>simpa only[Den,bH]using hd
  |sl _ _=>simp [V.free]at h
 | .agg l,ps,h,hp,x,hd=>by
  simp only[V.free]at h
  simp only[Den]at hd ⊢
  obtain⟨vs,h1,h2⟩:=hd
  exact⟨vs,h1,aS.free h hp h2⟩
 | .υ l,ps,h,hp,x,hd=>by
  simp only[V.free]at h
  simp only[Den]at hd ⊢
  obtain⟨vs,h1,h2⟩:=hd
  exact⟨vs,h1,aw.free h hp h2⟩
 | .fn f l,ps,h,hp,x,hd=>by
  simp only[V.free]at h
  simp only[Den]at hd ⊢
  obtain⟨vs,h1,h2⟩:=hd
  exact⟨vs,h1,aw.free h hp h2⟩
theorem aw.free {σ:Sg} {E E':EH}:∀{vs:List V} {ps:List (List D)},V.o4 vs=some ps->(∀ p∈ps,Plain p)->∀{xs:List Value},aw σ E vs xs->aw σ E' vs xs
 | [],_,_,_,_,hd=>by simpa only[aw]using hd
 |v::vs,ps,h,hp,xs,hd=>by
  simp only[V.o4]at h
  split at h<;>try (cases h;done)
  rename_i p h1
  split at h<;>try (cases h;done)
  rename_i q h2
  cases h
  simp only[aw]at hd ⊢
  obtain⟨x,xs',h0,k1,k2⟩:=hd
  exact⟨x,xs',h0,Den.free h1 (fun a ha=>hp a (lR _ ha)) k1,aw.free h2 (fun a ha=>hp a (List.mem_append_right _ ha)) k2⟩
theorem aS.free {σ:Sg} {E E':EH}:∀{vs:List V} {ps:List (List D)},V.o4 vs=some ps->(∀ p∈ps,Plain p)->∀{xs:List Value},aS σ E vs xs->aS σ E' vs xs
 | [],_,_,_,_,hd=>by simpa only[aS]using hd
 |v::vs,ps,h,hp,xs,hd=>by
  simp only[V.o4]at h
  split at h<;>try (cases h;done)
  rename_i p h1
  split at h<;>try (cases h;done)
  rename_i q h2
  cases h
  simp only[aS]at hd ⊢
  obtain⟨ys,zs,h0,k1,k2⟩:=hd
  refine⟨ys,zs,h0,?_,aS.free h2 (fun a ha=>hp a (List.mem_append_right _ ha)) k2⟩
  rcases k1 with ⟨y,e,o,hy⟩ | ⟨m,cs,e,hl,hD⟩
  ·exact .inl ⟨y,e,o,Den.free h1 (fun a ha=>hp a (lR _ ha)) hy⟩
  ·subst e
   simp only[V.free,bh.injEq]at h1
   subst h1
   exact .inr ⟨m,cs,rfl,hl,hD.free (hp cs (by simp))⟩
end
def KO.free:KO->Option (List (List D))
 | .cells l=>V.o4 l
 | .row _ _ l=>some [l.flatten]
 | .mp _ _ _ _ l=>some [(l.map (·.2)).flatten]
 | .ch _ _ _ l=>some [l.flatten]
 | .objs _=>none
 | .gQ _=>none
 | .dead=>some []
def yp:KB->Option (List (List D))
 | []=>some []
 |o::kb=>match KO.free o with
  |some p=>match yp kb with | some q=>some (p++q) | none=>none
  |none=>none
theorem cd.free {E E':EH} {aA:List IntKind} {aR agg:Bool}:∀{es:List MapEntry} {l:List (List Int×List D)},Plain (l.map (·.2)).flatten->cd E aA aR agg es l->cd E' aA aR agg es l
 | [],_,_,h=>by simpa only[cd]using h
 |e::es,_,hp,h=>by
  simp only[cd]at h ⊢
  obtain⟨k,c,l',rfl,⟨h1,h1',ys,h2,h3⟩,h4⟩:=h
  simp only[List.map_cons,im]at hp
  exact⟨k,c,l',rfl,⟨h1,h1',ys,h2,h3.free (fun d hd=>hp d (lR _ hd))⟩,h4.free (fun d hd=>hp d (List.mem_append_right _ hd))⟩
theorem eO.free {E E':EH} {agg:Bool}:∀{vs:List Value} {l:List (List D)},Plain l.flatten->eO E agg vs l->eO E' agg vs l
 | [],_,_,h=>by simpa only[eO]using h
 |v::vs,_,hp,h=>by
  simp only[eO]at h ⊢
  obtain⟨c,l',rfl,⟨ys,h1,h2⟩,h3⟩:=h
  rw[im]at hp
  exact⟨c,l',rfl,⟨ys,h1,h2.free (fun d hd=>hp d (lR _ hd))⟩,h3.free (fun d hd=>hp d (List.mem_append_right _ hd))⟩
theorem fv.free {σ:Sg} {E E':EH} {W:World} {r:Re} {o:KO} {ps:List (List D)} (h:KO.free o=some ps) (hp:∀ p∈ps,Plain p) (hh:fv σ E W r o):fv σ E' W r o:=by
 cases o with
 |cells l=>obtain⟨arr,ty,h1,h2⟩:=hh;exact⟨arr,ty,h1,aS.free h hp h2⟩
 |row ty sz l=>
  simp only[KO.free,bh.injEq]at h
  subst h
  obtain⟨h0,h1,h2,h3,h4⟩:=hh
  exact⟨h0,h1,h2,h3,h4.elim .inl fun⟨arr,k1,k2,k3⟩=> .inr ⟨arr,k1,k2,k3.free (hp _ (by simp))⟩⟩
 |mp aA aR agg sz l=>
  simp only[KO.free,bh.injEq]at h
  subst h
  obtain⟨h0,es,ck,h1,h2,h3⟩:=hh
  exact⟨h0,es,ck,h1,h2.free (hp _ (by simp)),h3⟩
 |ch agg sz cap l=>
  simp only[KO.free,bh.injEq]at h
  subst h
  obtain⟨h0,vo,bf,s,rr,h1,h2⟩:=hh
  exact⟨h0,vo,bf,s,rr,h1,h2.free (hp _ (by simp))⟩
 |objs A=>simp [KO.free]at h
 |gQ a=>simp [KO.free]at h
 |dead=>trivial
theorem K9:∀{kb:KB} {ps:List (List D)},yp kb=some ps->(∀ p∈ps,Plain p)->∀(i:Nat) (o:KO),kb[i]? =some o->∃ qs,KO.free o=some qs/\∀ q∈qs,Plain q
 | [],_,_,_,i,o,ho=>by simp at ho
 |x::kb,ps,h,hp,i,o,ho=>by
  simp only[yp]at h
  split at h<;>try (cases h;done)
  rename_i p h1
  split at h<;>try (cases h;done)
  rename_i q h2
  cases h
  cases i with
  |zero=>simp at ho;subst ho;exact⟨p,h1,fun a ha=>hp a (lR _ ha)⟩
  |succ i=>exact K9 h2 (fun a ha=>hp a (List.mem_append_right _ ha)) i o (by simpa using ho)
def yf:List Nat->List Nat->Bool
 | [],_=>true
 |i::is,o=>match vJ o i with | true=>false | false=>yf is o
theorem Kw:∀{is o:List Nat},yf is o=true->∀ i∈is,i ∉ o
 |i::is,o,h,j,hj=>by
  simp only[yf]at h
  split at h
  ·cases h
  ·rename_i hm
   rcases eP.1 hj with rfl | hj
   ·intro hin
    obtain⟨k,hk⟩:=yV hin
    simp [vJ,hk]at hm
   ·exact Kw h j hj
def GS (S:aH) (ms:List Mode) (args:List V) (kb:KB) (K:V->KB->Prop):Prop:=
 qm ms args kb (fun args kb=>match gP kb ms args with
  |some (_,args1,[])=>wn S args1 kb K
  |some (p,args1,is)=>p/\(match qg false 0 args1 kb with
   |some (args',sub,o)=>match yf is o with
    |true=>S args' sub (fun r bC=>match Nat.ble o.length bC.length,V.bS (iZ o kb.length) r,qe bC o (iZ o kb.length) 0 kb,V.free r,yp bC with
     |true,some r',some kb',some ps,some qs=>CW (ps++qs)/\K r' kb'
     |_,_,_,_,_=>False)
    |false=>False
   |none=>False)
  |none=>False)
theorem MK {kb:KB} {s:Nat} {v u:V} {q:Prop} (hq:tz kb s v=some (q,u,[])) {σ:Sg} {E:EH} {x:Value} (h1:Den σ E v x):Den σ E u x:=by
 unfold tz at hq
 split at hq<;>try (cases hq;done)
 rename_i sz r QU hsrc
 split at hq<;>try (cases hq;done)
 rename_i hfit
 simp only[bh.injEq,Prod.mk.injEq]at hq
 obtain⟨_,rfl,Ej⟩:=hq
 unfold qL at hsrc
 split at hsrc
 ·simp [qK]at Ej
 ·simp only[bh.injEq,Prod.mk.injEq]at hsrc
  obtain⟨rfl,_,rfl⟩:=hsrc
  have: _=s:=cy hfit
  subst this
  exact h1
 ·simp only[bh.injEq,Prod.mk.injEq]at hsrc
  obtain⟨_,_,rfl⟩:=hsrc
  simp only[Den]at h1
  subst h1
  simp only[Den,bH]
  exact⟨none,0,rfl,aE _,.inl rfl⟩
 ·simp only[bh.injEq,Prod.mk.injEq]at hsrc
  obtain⟨_,_,rfl⟩:=hsrc
  simp only[Den]at h1
  obtain⟨a,rfl⟩:=h1
  simp only[Den,bH]
  exact⟨a,0,rfl,aE _,.inl rfl⟩
 ·simp [qK]at Ej
 ·simp [qK]at Ej
 ·cases hsrc
theorem E6 {kb:KB} {s:Nat} {σ:Sg} {E:EH}:∀{vs us:List V} {p:Prop},qz kb s vs=some (p,us,[])->∀{xs:List Value},aS σ E vs xs->aS σ E us xs
 | [],us,p,h,xs,hd=>by
  simp only[qz,bh.injEq,Prod.mk.injEq]at h
  obtain⟨_,rfl,_⟩:=h
  exact hd
 |v::vs,us,p,h,xs,hd=>by
  simp only[qz]at h
  obtain⟨ys,zs,rfl,h1,h2⟩:=hd.gx
  split at h<;>try (cases h;done)
  rename_i q ws ls hq
  split at h
  ·rename_i p1 u y0 h3
   simp only[bh.injEq,Prod.mk.injEq]at h
   obtain⟨rfl,rfl,he⟩:=h
   have hk:y0=[]/\ls=[]:=List.append_eq_nil_iff.1 he
   obtain⟨rfl,rfl⟩:=hk
   refine aS.cons ?_ (E6 hq h2)
   rcases h1 with ⟨y,rfl,h4,h5⟩ | ⟨m,cs,rfl,_,_⟩
   ·exact .inl ⟨y,rfl,h4,MK h3 h5⟩
   ·cases h3
  ·simp only[bh.injEq,Prod.mk.injEq]at h
   obtain⟨rfl,rfl,rfl⟩:=h
   exact aS.cons h1 (E6 hq h2)
theorem V8 {kb:KB} {s:Nat} {v u:V} {q:Prop} (hq:vG kb s v=some (q,u,[])) {σ:Sg} {E:EH} {x:Value} (h1:Den σ E v x):Den σ E u x:=by
 unfold vG at hq
 split at hq
 ·split at hq<;>try (cases hq;done)
  rename_i l p1 us y0 h2
  simp only[bh.injEq,Prod.mk.injEq]at hq
  obtain⟨rfl,rfl,rfl⟩:=hq
  simp only[Den]at h1 ⊢
  obtain⟨vs,rfl,h3⟩:=h1
  exact⟨vs,rfl,E6 h2 h3⟩
 ·exact MK hq h1
theorem zi {kb:KB} {σ:Sg} {E:EH} {W:World} (hi:Inv σ E kb W):∀{ss:List Mode} {vs us:List V} {p:Prop},gP kb ss vs=some (p,us,[])->∀{xs:List Value},aw σ E vs xs->aw σ E us xs
 |ss,[],us,p,h,xs,hd=>by
  have:us=[]:=by
   cases ss with
   |nil=>simp only[gP,bh.injEq,Prod.mk.injEq]at h;exact h.2.1.symm
   |cons m ss=>cases m<;>(simp only[gP,bh.injEq,Prod.mk.injEq]at h;exact h.2.1.symm)
  subst this
  simpa only[aw]using hd
 | [],v::vs,us,p,h,xs,hd=>by
  simp only[gP]at h
  split at h<;>try (cases h;done)
  rename_i q ws ks hq
  simp only[bh.injEq,Prod.mk.injEq]at h
  obtain⟨rfl,rfl,rfl⟩:=h
  simp only[aw]at hd ⊢
  obtain⟨x,xs',rfl,h1,h2⟩:=hd
  exact⟨x,xs',rfl,h1,zi hi hq h2⟩
 |m::ss,v::vs,us,p,h,xs,hd=>by
  have plain:(match gP kb ss vs with | some (p,us,is)=>some (p,v::us,is) | none=>none)=some (p,us,[])->aw σ E us xs:=fun h=>by
   split at h<;>try (cases h;done)
   rename_i q ws ks hq
   simp only[bh.injEq,Prod.mk.injEq]at h
   obtain⟨rfl,rfl,rfl⟩:=h
   simp only[aw]at hd ⊢
   obtain⟨x,xs',rfl,h1,h2⟩:=hd
   exact⟨x,xs',rfl,h1,zi hi hq h2⟩
  cases m with
  |kM=>exact plain (by simpa only[gP]using h)
  |eB s=>exact plain (by simpa only[gP]using h)
  |gU=>exact plain (by simpa only[gP]using h)
  |tail=>exact plain (by simpa only[gP]using h)
  |fp s=>
   simp only[gP]at h
   split at h<;>try (cases h;done)
   rename_i q u ks q' ws ls hq np
   simp only[bh.injEq,Prod.mk.injEq]at h
   obtain⟨rfl,rfl,he⟩:=h
   have hk:ks=[]/\ls=[]:=List.append_eq_nil_iff.1 he
   obtain⟨rfl,rfl⟩:=hk
   simp only[aw]at hd ⊢
   obtain⟨x,xs',rfl,h1,h2⟩:=hd
   refine⟨x,xs',rfl,?_,zi hi np h2⟩
   exact V8 hq h1
theorem Z_ {P:Program} {f:FuncId} {S:aH} (hS:aT P f S) {ms:List Mode} {args:List V} {kb:KB} {K:V->KB->Prop} (h:GS S ms args kb K) {σ:Sg} {E:EH} {W:World} {xs:List Value} (hi:Inv σ E kb W) (hd:aw σ E args xs):
  Calls P f xs.toArray W (fun e W'=>∃ v r σ' E' kb',e= .returned v/\Step σ E kb W σ' E' kb' W'/\Den σ' E' r v/\K r kb'):=by
 unfold GS at h
 obtain⟨E0,pp,us0,s0,d0,h⟩:=vn h hi hd
 suffices body:Calls P f xs.toArray W (fun e W'=>∃ v r σ' E' kb',e= .returned v/\Step σ E0 pp W σ' E' kb' W'/\Den σ' E' r v/\K r kb') by
  refine body.mono ?_
  rintro e W' ⟨v,r,σ',E',kb',h1,h2,h3,h4⟩
  exact⟨v,r,σ',E',kb',h1,s0.trans h2,h3,h4⟩
 replace hi:=s0.inv
 replace hd:=d0
 clear s0 d0
 generalize E0=E at*
 generalize pp=kb at*
 generalize us0=args at*
 split at h<;>try exact h.elim
 ·rename_i q args1 Em
  exact Ao hS h hi (zi hi Em hd)
 rename_i p args1 is _ Em
 obtain⟨hp,h⟩:=h
 split at h<;>try exact h.elim
 rename_i args' sub o hc
 split at h<;>try exact h.elim
 rename_i Uz
 obtain⟨hn,_,o_,hsel⟩:=oU hc
 obtain⟨k1,k2,k3⟩:=hi.sel hn hsel
 obtain⟨jq,da⟩:=tZ hsel
 have hdj:=Kw Uz
 have Uw:=zj hi (js:=is) Em hp (fun i h=>h) hd
 have lx:∀ b,b9 (dB σ o) sub b->∀(j:Nat) (r:Re) (ob:KO),j ∉ o->σ[j]? =some r->kb[j]? =some ob->owned r ob b->False:=by
  intro b hb j r ob hj h1 h2 h3
  obtain⟨i,r2,o2,g1,g2,g3,g4⟩:=Gc hi.len hsel hb
  exact hi.c9 i j r2 r o2 ob b (fun e=>by subst e;exact hj g1) g2 g3 h1 h2 g4 h3
 have VL:Inv (dB σ o) (lB σ kb is W E) sub W:=by
  refine⟨k1.len,fun i r ob h1 h2=>?_,k1.c9,fun b x hb=>?_,fun b hb=>?_⟩
  ·simpa using(k1.obj i r ob h1 h2).mono (τ:=[]) (W':=W) (rQ σ kb is W E) (fun _ _=>rfl)
  ·simp only[lB]at hb
   split at hb
   ·rename_i x' hx;rw[<- hb];exact k1.cP b x' hx
   ·split at hb
    ·exact hb
    ·cases hb
  ·have h0:=k1.sep b hb
   simp only[lB,h0]
   rw[if_neg]
   rintro⟨i,hi',r,ob,hr,hk,ho⟩
   exact lx _ hb i r ob (hdj i hi') hr hk ho
 refine(hS args' sub _ h (dB σ o) (lB σ kb is W E) W xs VL (aw.bS k3 o_ Uw)).mono ?_
 rintro e W' ⟨v,r,σs,E',bC,rfl,hst,dT,hK⟩
 split at hK<;>try exact hK.elim
 rename_i r' kb' ps qs D6 hr' hkb' UC UD
 obtain⟨qv,hK⟩:=hK
 have L8:=J8 qv
 have hle:=Nat.le_of_ble_eq_true D6
 obtain⟨τ,mF⟩:=hst.pre
 have Ez:(dB σ o).length=o.length:=by simp [dB]
 have hl2:σs.length=bC.length:=hst.inv.len
 obtain⟨hout,D9⟩:=Cs hkb'
 let lP:=σ++σs.drop o.length
 have ph:∀ i j r,iZ o kb.length i=some j->σs[i]? =some r->lP[j]? =some r:=by
  intro i j r hb hr
  unfold iZ at hb
  split at hb
  ·rename_i q hq
   cases hb
   have hil:i<o.length:=(bU.1 hq).1
   rw[mF,eH (by rw[Ez];exact hil)]at hr
   simp only[dB,fG,hq,Option.map_some,bh.injEq]at hr
   obtain⟨ob,_,oh,_,_⟩:=da i j hq
   have hjl:j<σ.length:=by rw[hi.len];exact(bU.1 oh).1
   rw[bx hjl]at hr
   simp only[Option.getD_some]at hr
   show(σ++_)[j]? =_
   rw[eH hjl,bx hjl,hr]
  ·rename_i hq
   cases hb
   have hil:o.length<=i:=by
    rcases iX i o.length with h' | h'
    ·rw[bx h']at hq;cases hq
    ·exact h'
   show(σ++_)[_]? =_
   rw[ef (by rw[hi.len];omega),hi.len,show kb.length+(i - o.length) - kb.length=i - o.length by omega,jB,show o.length+(i - o.length)=i by omega]
   exact hr
 have dZ:∀(i:Nat) (r:Re) (ob:KO),lP[i]? =some r->kb'[i]? =some ob->
   (∃ k a,iZ o kb.length k=some i/\σs[k]? =some r/\bC[k]? =some a/\KO.bS (iZ o kb.length) a=some ob)∨(i ∉ o/\σ[i]? =some r/\kb[i]? =some ob):=by
  intro i r ob h1 h2
  rcases D9 i ob h2 with ⟨c1,c2,c3⟩ | ⟨c1,k,a,c2,c3,c4⟩ | ⟨c1,a,c2,c3⟩
  ·rw[cL]at c2
   have h1':(σ++σs.drop o.length)[i]? =some r:=h1
   rw[eH (by rw[hi.len];exact c1)]at h1'
   exact .inr ⟨Mn c2,h1',c3⟩
  ·rw[cL]at c2
   have hk:=yW c2
   have jb:k<σs.length:=by rw[hl2];exact(bU.1 c3).1
   have hb:iZ o kb.length k=some i:=by simp [iZ,hk]
   have:=ph k i _ hb (bx jb)
   rw[this]at h1
   exact .inl ⟨k,a,hb,by rw[bx jb];exact h1,c3,c4⟩
  ·have hb:iZ o kb.length (o.length+(i - kb.length))=some i:=by
    have:o[o.length+(i - kb.length)]? =none:=gA (by omega)
    simp only[iZ,this]
    congr 1
    omega
   have jb:o.length+(i - kb.length)<σs.length:=by rw[hl2];exact(bU.1 c2).1
   have:=ph _ i _ hb (bx jb)
   rw[this]at h1
   exact .inl ⟨_,a,hb,by rw[bx jb];exact h1,c2,c3⟩
 have Et:∀(j:Nat) (r:Re) (ob:KO),j ∉ o->σ[j]? =some r->kb[j]? =some ob->∀ b,owned r ob b->W'.heap[b]? =W.heap[b]?:=by
  intro j r ob hj h1 h2 b h3
  exact hst.bK.block b ((hi.obj j r ob h1 h2).lt h3) (fun hb=>lx b hb j r ob hj h1 h2 h3)
 have o8:∀ b (k:Nat) (r:Re) (a:KO),σs[k]? =some r->bC[k]? =some a->owned r a b->b9 (dB σ o) sub b∨W.heap.size<=b:=fun b k r a h1 h2 h3=>hst.own b ⟨k,r,a,h1,h2,h3⟩
 have hown:∀ b,b9 lP kb' b->b9 σ kb b∨W.heap.size<=b:=by
  rintro b ⟨i,r,ob,h1,h2,h3⟩
  rcases dZ i r ob h1 h2 with ⟨k,a,_,g2,g3,g4⟩ | ⟨g1,g2,g3⟩
  ·rcases o8 b k r a g2 g3 ((kC g4).1 h3)with h4 | h4
   ·exact .inl (k2 b h4)
   ·exact .inr h4
  ·exact .inl ⟨i,r,ob,g2,g3,h3⟩
 have Lh:E.le E':=(rQ σ kb is W E).trans hst.le
 refine⟨v,r',lP,E,kb',rfl,⟨⟨?_,fun i r ob h1 h2=>?_,fun i j r1 r2 o1 o2 b hij h1 h2 h3 h4 h5 h6=>?_,fun b x hb=>hst.inv.cP b x (Lh b x hb),fun b hb=>?_⟩,⟨hst.bK.os,hst.bK.tape,hst.bK.output,hst.bK.size,fun b hb hn'=>hst.bK.block b hb (fun h=>hn' (k2 b h))⟩,⟨_,rfl⟩,EH.le.refl E,hown,fun b x hb=> .inl hb⟩,Den.bS ph hr' (Den.free UC (fun p hp=>L8 p (lR _ hp)) dT),hK⟩
 ·simp only[lP,bw,fh,hout,hi.len,hl2]
 ·rcases dZ i r ob h1 h2 with ⟨k,a,_,g2,g3,g4⟩ | ⟨g1,g2,g3⟩
  ·obtain⟨us,u1,u2⟩:=K9 UD (fun p hp=>L8 p (List.mem_append_right _ hp)) k a g3
   exact((hst.inv.obj k r a g2 g3).free u1 u2).bS ph g4
  ·exact(hi.obj i r ob g2 g3).mono (EH.le.refl E) (fun b hb=>Et i r ob g1 g2 g3 b hb)
 ·rcases dZ i r1 o1 h1 h2 with ⟨k,a,g1,g2,g3,g4⟩ | ⟨g1,g2,g3⟩<;>rcases dZ j r2 o2 h3 h4 with ⟨m,a',q1,q2,q3,q4⟩ | ⟨q1,q2,q3⟩
  ·refine hst.inv.c9 k m r1 r2 a a' b (fun e=>?_) g2 g3 q2 q3 ((kC g4).1 h5) ((kC q4).1 h6)
   subst e
   rw[g1]at q1
   cases q1
   exact hij rfl
  ·rcases o8 b k r1 a g2 g3 ((kC g4).1 h5)with h7 | h7
   ·exact lx b h7 j r2 o2 q1 q2 q3 h6
   ·have:=(hi.obj j r2 o2 q2 q3).lt h6;omega
  ·rcases o8 b m r2 a' q2 q3 ((kC q4).1 h6)with h7 | h7
   ·exact lx b h7 i r1 o1 g1 g2 g3 h5
   ·have:=(hi.obj i r1 o1 g2 g3).lt h5;omega
  ·exact hi.c9 i j r1 r2 o1 o2 b hij g2 g3 q2 q3 h5 h6
 ·obtain⟨i,r,ob,h1,h2,h3⟩:=hb
  rcases dZ i r ob h1 h2 with ⟨k,a,_,g2,g3,g4⟩ | ⟨g1,g2,g3⟩
  ·cases hE:E b with
   |none=>rfl
   |some x=>
    have h0:=hst.inv.sep b ⟨k,r,a,g2,g3,(kC g4).1 h3⟩
    have:=Lh b x hE
    rw[h0]at this;cases this
  ·exact hi.sep b ⟨i,r,ob,g2,g3,h3⟩
structure dw where
 M9:List Mode
 S:aH
def dF (P:Program) (Sp:FuncId->Option dw) (T:FuncId->Nat->Option LI):Nat->bM
 | 0=>fun _ _ _ _=>False
 |d+1=>fun f args kb K=>match Sp f with
  |some k=>match k.M9 with
   | []=>wn k.S args kb K
   | .gU:: _=>GU k.S args kb K
   | .tail:: _=>GW k.S args kb K
   |ms=>GS k.S ms args kb K
  |none=>z6 P (dF P Sp T d) (T f) f args kb K
def IF (P:Program) (f:FuncId) (S:aH):List Mode->Prop
 | .tail:: _=>fw P f S
 |_=>aT P f S
def dE (P:Program) (Sp:FuncId->Option dw):Prop:=∀ f k,Sp f=some k->IF P f k.S k.M9
theorem dI {P:Program} (hm:P.follows .mixedOrders=true) {Sp:FuncId->Option dw} (hS:dE P Sp) (T:FuncId->Nat->Option LI):∀ d,bW P (dF P Sp T d)
 | 0=>fun f args kb K h=>h.elim
 |d+1=>fun f args kb K h σ E W xs hi hd=>by
  simp only[dF]at h
  split at h
  ·rename_i k hk
   split at h
   ·rename_i hm;have:=hS f k hk;rw[hm]at this;exact Ao this h hi hd
   ·rename_i hm;have:=hS f k hk;rw[hm]at this;exact PF this h hi hd
   ·rename_i hm;have:=hS f k hk;rw[hm]at this;exact aaa this h hi hd
   ·rename_i h1 h2 h3;have:=hS f k hk;unfold IF at this;split at this
    ·rename_i l hm;exact absurd hm (h3 l)
    ·exact Z_ this h hi hd
  ·exact Pc (dI hm hS T d) hm h hi hd
def aO (P:Program) (X:bM) (T:Nat->Option LI) (f:FuncId) (args:List V) (kb:KB) (K:V->KB->Prop):Prop:=
 z6 P X T f args kb (fun r kb'=>match canon kb.length [r] kb' with
  |some ([r'],kb',_)=>K r' kb'
  |_=>False)
theorem Pd {P:Program} {X:bM} (hX:bW P X) (hm:P.follows .mixedOrders=true) {T:Nat->Option LI} {f:FuncId} {args:List V} {kb:KB} {K:V->KB->Prop} (h:aO P X T f args kb K) {σ:Sg} {E:EH} {W:World} {xs:List Value} (hi:Inv σ E kb W)
  (hd:aw σ E args xs):Calls P f xs.toArray W (fun e W'=>∃ v r σ' E' kb',e= .returned v/\Step σ E kb W σ' E' kb' W'/\Den σ' E' r v/\K r kb'):=by
 refine(Pc hX hm h hi hd).mono ?_
 rintro e W' ⟨v,r,σ',E',kb',rfl,h1,h2,h3⟩
 split at h3<;>try exact h3.elim
 rename_i r' bC o hc
 rw[<- hi.len]at hc
 obtain⟨σ2,h4,h5⟩:=Step.sel (c:=⟨σ,E,kb,W⟩) h1 hc (.cons h2 .nil)
 simp only[aw]at h5
 obtain⟨x,xs',he,h6,rfl⟩:=h5
 cases he
 exact⟨v,r',σ2,E',bC,rfl,h4,h6,h3⟩
def zb:V->Prop
 | .tt=>True
 | .sb b=>b=true
 |_=>False
theorem VJ {v:V} (h:zb v) {σ:Sg} {E:EH} {x:Value} (hd:Den σ E v x):x= .bool true:=by
 cases v<;>simp only[zb]at h
 ·subst h;simpa [Den]using hd
 ·simpa [Den]using hd
def mY (W:World):EH:=fun b=>W.heap[b]?
theorem VF (W:World):Inv [] (mY W) [] W:=
 ⟨rfl,fun i r o h=>by simp at h,fun i j r r' o o' b _ h=>by simp at h,fun b o h=>h,fun b ⟨i,r,o,h,_⟩=>by simp at h⟩
theorem V0 {P:Program} {X:bM} (hX:bW P X) {f:FuncId} {args:List V} (h:X f args [] (fun r _=>zb r)) {W:World} {xs:List Value} (hd:aw [] (mY W) args xs):
  Calls P f xs.toArray W (fun e W'=>e= .returned (.bool true)/\RowKit.Below W.heap.size W W'):=by
 refine(hX f args [] _ h [] (mY W) W xs (VF W) hd).mono ?_
 rintro e W' ⟨v,r,σ',E',kb',rfl,h1,h2,h3⟩
 refine⟨by rw[VJ h3 h2],⟨h1.bK.os,h1.bK.tape,h1.bK.output,h1.bK.size,fun k hk=>h1.bK.block k hk (fun⟨i,r,o,h,_⟩=>by simp at h)⟩⟩
inductive SH where
 |int (k:IntKind)
 |bool
 |sl (es:List SH)
mutual
def pZ:SH->D->Prop
 | .int k,d=>∃ n,d= .val (.int k n)/\(Lit.int k n).wf=true
 | .bool,d=>∃ b,d= .val (.bool b)
 | .sl es,d=>∃ l,d= .sl es.length l/\l.length<=maxLen/\∀ e∈l,fu es e
def fu:List SH->List D->Prop
 | [],ds=>ds=[]
 |s::ss,ds=>∃ d ds',ds=d::ds'/\pZ s d/\fu ss ds'
end
theorem fu.len:∀{ks:List SH} {vs:List D},fu ks vs->vs.length=ks.length
 | [],_,h=>by simp only[fu]at h;simp [h]
 |k::ks,_,h=>by simp only[fu]at h;obtain⟨v,vs',rfl,_,h2⟩:=h;simp [fu.len h2]
theorem fu.append:∀{ks:List SH} {vs:List D},fu ks vs->∀{ls:List SH} {us:List D},fu ls us->fu (ks++ls) (vs++us)
 | [],_,h,_,_,k=>by simp only[fu]at h;subst h;simpa using k
 |k::ks,_,h,_,_,k'=>by
  simp only[fu]at h
  obtain⟨v,vs',rfl,h1,h2⟩:=h
  simp only[List.cons_append,fu]
  exact⟨v,_,rfl,h1,h2.append k'⟩
def nK (P:Program):Nat->TypeId->Option (List SH)
 | 0,_=>none
 |n+1,t=>
  match P.underlying t with
  |some .bool=>some [.bool]
  |some (.int k)=>some [.int k]
  |some (.slice e)=>match nK P n e with
   |some (s::ss)=>match bZ (s::ss).length (P.cellsOf e)with
    |true=>some [.sl (s::ss)]
    |false=>none
   |_=>none
  |some (.struct fs)=>fs.toList.foldl (fun acc f=>match acc,nK P n f.type with
   |some ks,some l=>match bZ ks.length f.offset,bZ l.length (P.cellsOf f.type)with
    |true,true=>some (ks++l)
    |_,_=>none
   |_,_=>none) (some [])
  |some (.array m e)=>match nK P n e with
   |some l=>match bZ l.length (P.cellsOf e)with
    |true=>some (cQ m l).flatten
    |false=>none
   |none=>none
  |_=>none
theorem vI {α β:Type} {f:α->Option β}:∀{l:List α} {r:List β},l.mapM f=some r->r.length=l.length/\∀(i:Nat) (a:α),l[i]? =some a->∃ b,f a=some b/\r[i]? =some b
 | [],r,h=>by simp at h;subst h;simp
 |a::l,r,h=>by
  simp only[List.mapM_cons,Option.bind_eq_bind,jF,Option.pure_def,bh.injEq]at h
  obtain⟨b,hb,rs,hrs,rfl⟩:=h
  obtain⟨h1,h2⟩:=vI hrs
  refine⟨by simp [h1],fun i x hx=>?_⟩
  cases i with
  |zero=>simp at hx;subst hx;exact⟨b,hb,rfl⟩
  |succ i=>simpa using h2 i x (by simpa using hx)
section
variable {H:Type} {enc:TypeId×Value->H} {P:Program} {w:World} {base:Nat} {spare:Nat->Bool} {held:Bool}
theorem CM {a:Addr} {n:Nat} {cs:List Value} (h:w.cells? base a n=some cs):cs.length=n/\∀(j:Nat) (x:Value),cs[j]? =some x->w.cell? (a.add j)=some x:=by
 unfold World.cells? at h
 split at h
 ·obtain⟨h1,h2⟩:=vI h
  refine⟨by simpa using h1,fun j x hj=>?_⟩
  have hlt:j<n:=by
   have:=(bU.1 hj).1
   rw[h1]at this
   simpa using this
  obtain⟨b,hb,fl⟩:=h2 j j (by simp [hlt])
  rw[hj]at fl;cases fl
  exact hb
 ·cases h
def kI (w:World) (ks:List SH) (cs:List Value):Prop:=∃ ds,aY (mY w) ds cs/\fu ks ds
theorem kI.append {ks ls:List SH} {cs es:List Value} (h:kI w ks cs) (k:kI w ls es):kI w (ks++ls) (cs++es):=by
 obtain⟨ds,h1,h2⟩:=h
 obtain⟨us,k1,k2⟩:=k
 exact⟨ds++us,h1.append k1,h2.append k2⟩
theorem kI.nil:kI w [] []:=⟨[],.nil,by simp [fu]⟩
theorem kI.len {ks:List SH} {cs:List Value} (h:kI w ks cs):cs.length=ks.length:=by
 obtain⟨ds,h1,h2⟩:=h
 rw[h1.len,h2.len]
theorem AC:∀(m fuel:Nat) (t:TypeId) (cs:List Value) (ks:List SH) (x:DataW H×List MemPlace),nK P m t=some ks->DataW.trod enc P w base spare held fuel t cs=some x->kI w ks (cs.take ks.length)
 | 0,_,_,_,_,_,h,_=>by simp [nK]at h
 |m+1,0,_,_,_,_,_,h=>by simp [DataW.trod]at h
 |m+1,fuel+1,t,cs,ks,x,hs,hx=>by
  simp only[nK]at hs
  unfold DataW.trod at hx
  split at hs
  ·rename_i ht
   cases hs
   simp only[ht]at hx
   split at hx<;>try (simp at hx;done)
   all_goals rename_i heq;simp at heq
   exact⟨[.val _],.cons (show bH _ (.val _) _ from⟨rfl,rfl⟩) .nil,by simp only[fu,pZ];exact⟨_,[],rfl,⟨_,rfl⟩,rfl⟩⟩
  ·rename_i k ht
   cases hs
   simp only[ht]at hx
   split at hx<;>try (simp at hx;done)
   all_goals rename_i heq;simp at heq
   subst heq
   split at hx
   ·rename_i hc
    obtain⟨rfl,hw⟩:=hc
    exact⟨[.val _],.cons (show bH _ (.val _) _ from⟨rfl,rfl⟩) .nil,by simp only[fu,pZ];exact⟨_,[],rfl,⟨_,rfl,hw⟩,rfl⟩⟩
   ·cases hx
  ·rename_i e ht
   split at hs<;>try (cases hs;done)
   rename_i s0 ss0 qq
   split at hs<;>try (cases hs;done)
   rename_i hb
   cases hs
   have hc:=(cy hb).symm
   obtain⟨es,LR⟩:∃ es,es=s0::ss0:=⟨_,rfl⟩
   rw[<- LR]at qq hc ⊢
   have hk:0<es.length:=by rw[LR];simp
   simp only[ht]at hx
   have wrap:∀{v:Value} {l:List (List D)},bH (mY w) (.sl es.length l) v->l.length<=maxLen->(∀ e∈l,fu es e)->kI w [.sl es] [v]:=fun h1 h2 h3=>
    ⟨[.sl es.length _],.cons h1 .nil,by simp only[fu,pZ];exact⟨_,[],rfl,⟨_,rfl,h2,h3⟩,rfl⟩⟩
   split at hx<;>try (simp at hx;done)
   all_goals try (rename_i heq;simp at heq;done)
   ·exact wrap (l:=[]) (by simp only[bH];exact⟨none,0,rfl,aE _,.inl rfl⟩) (by simp) (fun e he=>by cases he)
   ·rename_i a len cap heq
    simp only[bh.injEq,TypeDesc.slice.injEq]at heq
    subst heq
    simp only[io,jk,List.take_succ_cons,List.take_zero]
    split at hx
    ·rename_i LC
     obtain⟨hb,hlc,tn⟩:=LC
     simp only[jF]at hx
     obtain⟨elems,hel,pb⟩:=hx
     obtain⟨UE,da⟩:=vI hel
     have hex:∀ i,i<len->∃ cs ds,w.cells? base (a.add (i*P.cellsOf e)) (P.cellsOf e)=some cs/\aY (mY w) ds cs/\fu es ds:=by
      intro i hi
      obtain⟨b,hb,_⟩:=da i i (by simp [hi])
      simp only[jF]at hb
      obtain⟨cs,h1,h2⟩:=hb
      have h3:=AC m fuel e cs es _ qq h2
      rw[fI (by rw[(CM h1).1];omega)]at h3
      obtain⟨ds,h4,h5⟩:=h3
      exact⟨cs,ds,h1,h4,h5⟩
     have hl:∃ l:List (List D),l.length=len/\∀ i d,l[i]? =some d->∃ c,w.cells? base (a.add (i*P.cellsOf e)) (P.cellsOf e)=some c/\aY (mY w) d c/\fu es d:=by
      clear UE da hel tn hlc pb
      induction len with
      |zero=>exact⟨[],rfl,by simp⟩
      |succ len ih=>
       obtain⟨l,h1,h2⟩:=ih (fun i hi=>hex i (by omega))
       obtain⟨c,d,h3,h4,h5⟩:=hex len (by omega)
       refine⟨l++[d],by simp [h1],fun i d' hd'=>?_⟩
       rcases Nat.lt_trichotomy i l.length with hi | hi | hi
       ·rw[eH hi]at hd'
        exact h2 i d' hd'
       ·subst hi
        simp at hd'
        subst hd'
        rw[h1]
        exact⟨c,h3,h4,h5⟩
       ·rw[gA (by simp;omega)]at hd';cases hd'
     obtain⟨l,yM,hl⟩:=hl
     have yI:∀ x∈l,fu es x:=fun x hx=>by
      obtain⟨i,hi⟩:=List.getElem?_of_mem hx
      obtain⟨_,_,_,h⟩:=hl i x hi
      exact h
     have hw:wl es.length l:=fun x hx=>(yI x hx).len
     refine wrap (l:=l) ?_ (by omega) yI
     simp only[bH]
     refine⟨some a,cap,by rw[yM],by omega,?_⟩
     by_cases h0:len=0
     ·left;omega
     ·right
      obtain⟨c0,d0,k1,k2,k3⟩:=hex 0 (by omega)
      have hcl:=k2.len
      have hdl:=k3.len
      obtain⟨x0,hx0⟩:∃ x,c0[0]? =some x:=⟨c0[0],bx (by omega)⟩
      have hcell:=(CM k1).2 0 x0 hx0
      simp only[Nat.zero_mul]at hcell
      have ha0:(a.add 0).add 0=a:=by simp [Addr.add]
      rw[ha0]at hcell
      have Me:=World.cell?_spot hcell
      obtain⟨ab,ao,sp⟩:=a
      simp only at Me
      subst Me
      refine⟨ab,ao,rfl,ey.of_flat hw (cO.vT fun j d hj=>?_)⟩
      have hjl:j<l.flatten.length:=(bU.1 hj).1
      rw[m9 hw]at hjl
      have hq:j / es.length<l.length:=Nat.div_lt_of_lt_mul (by rw[Nat.mul_comm];exact hjl)
      have hmod:j % es.length<es.length:=Nat.mod_lt _ hk
      have LN:j / es.length*es.length+j % es.length=j:=Nat.div_add_mod' j es.length
      obtain⟨c,q1,q2,q3⟩:=hl (j / es.length) _ (bx hq)
      have q4:=q3.len
      have hd2:=K1 hw (bx hq) (bx (l:=l[j / es.length]) (i:=j % es.length) (by omega))
      rw[LN,hj]at hd2
      obtain⟨y,hy1,hy2⟩:=q2.get (bx (l:=l[j / es.length]) (i:=j % es.length) (by omega))
      rw[<- bh.inj hd2]at hy2
      refine⟨y,?_,hy2⟩
      have:=(CM q1).2 (j % es.length) y hy1
      rw[Addr.add_lit,Addr.add_lit,hc,fT,LN]at this
      show EH.cell (mY w) ab (ao+j)=some y
      rw[<- this]
      unfold EH.cell mY World.cell?
      cases w.heap[ab]?<;>rfl
    ·cases hx
  ·rename_i fs ht
   simp only[ht]at hx
   split at hx
   ·simp only[Option.map_eq_some_iff]at hx
    obtain⟨xs,hxs,_⟩:=hx
    obtain⟨_,da⟩:=vI hxs
    have key:∀(l:List Field) (acc ks:List SH),(∀ f∈l,∃ y,DataW.trod enc P w base spare held fuel f.type ((cs.drop f.offset).take (P.cellsOf f.type))=some y)->kI w acc (cs.take acc.length)->
      l.foldl (fun acc f=>match acc,nK P m f.type with
       |some ks,some l=>match bZ ks.length f.offset,bZ l.length (P.cellsOf f.type)with
        |true,true=>some (ks++l)
        |_,_=>none
       |_,_=>none) (some acc)=some ks->kI w ks (cs.take ks.length):=by
     intro l
     induction l with
     |nil=>intro acc ks _ hacc hf;simp only[List.foldl_nil,bh.injEq]at hf;subst hf;exact hacc
     |cons f l ih=>
      intro acc ks hall hacc hf
      simp only[List.foldl_cons]at hf
      have hnone:∀ l:List Field,l.foldl (fun acc f=>match acc,nK P m f.type with
       |some ks,some l=>match bZ ks.length f.offset,bZ l.length (P.cellsOf f.type)with
        |true,true=>some (ks++l)
        |_,_=>none
       |_,_=>none) (none:Option (List SH))=none:=by
       intro l;induction l with
       |nil=>rfl
       |cons a l ih=>exact ih
      cases Ey:nK P m f.type with
      |none=>rw[Ey]at hf;exact absurd (hf.symm.trans (hnone l)) (by simp)
      |some sl=>
       rw[Ey]at hf
       simp only[]at hf
       cases fO:bZ acc.length f.offset with
       |false=>simp only[fO]at hf;exact absurd (hf.symm.trans (hnone l)) (by simp)
       |true=>
       cases fl:bZ sl.length (P.cellsOf f.type)with
       |false=>simp only[fO,fl]at hf;exact absurd (hf.symm.trans (hnone l)) (by simp)
       |true=>
        simp only[fO,fl]at hf
        have e1:=cy fO
        have e2:=cy fl
        obtain⟨y,hy⟩:=hall f iA
        have hc:=AC m fuel f.type _ sl y Ey hy
        rw[<- e2,List.take_take,Nat.min_self,<- e1]at hc
        refine ih (acc++sl) ks (fun g hg=>hall g (fS _ hg)) ?_ hf
        rw[bw,List.take_add]
        exact hacc.append hc
    refine key fs.toList [] ks (fun f hf=>?_) (by simpa using kI.nil) hs
    obtain⟨i,hi⟩:=List.getElem?_of_mem hf
    obtain⟨b,hb,_⟩:=da i f hi
    exact⟨b,hb⟩
   ·cases hx
  ·rename_i n e ht
   simp only[ht]at hx
   split at hx
   ·simp only[Option.map_eq_some_iff]at hx
    obtain⟨xs,hxs,_⟩:=hx
    obtain⟨_,da⟩:=vI hxs
    split at hs<;>try (cases hs;done)
    rename_i l hl
    split at hs<;>try (cases hs;done)
    rename_i hb
    cases hs
    have e2:=cy hb
    have key:∀ k,k<=n->kI w (cQ k l).flatten (cs.take (cQ k l).flatten.length):=by
     intro k
     induction k with
     |zero=>intro _;simpa using kI.nil
     |succ k ih=>
      intro hk
      obtain⟨y,hy,_⟩:=da k k (List.getElem?_range (by omega))
      have hc:=AC m fuel e _ l y hl hy
      rw[<- e2,List.take_take,Nat.min_self]at hc
      have hlen:(cQ k l).flatten.length=k*l.length:=by simp
      rw[List.replicate_succ',List.flatten_append,bw,List.take_add,hlen]
      simp only[im,List.flatten_nil,fg]
      rw[<- hlen]
      refine(ih (by omega)).append ?_
      rw[hlen]
      exact hc
    exact key n (aE _)
   ·cases hx
  ·cases hs
theorem YK {t:TypeId} {k:SH} (hs:nK P 20 t=some [k]) {v:Value} (hone:v.cells=#[v]) {d:DataW H} {p:List MemPlace} (h:DataW.Trod enc P w base spare held t v d p):
  ∃ x,bH (mY w) x v/\pZ k x:=by
 obtain⟨fuel,hf⟩:=h
 have:=AC 20 fuel t _ _ _ hs hf
 rw[hone]at this
 obtain⟨ds,h1,h2⟩:=this
 simp only[io,jk,List.take_succ_cons,List.take_zero]at h1
 simp only[fu]at h2
 obtain⟨d,ds',rfl,h3,rfl⟩:=h2
 simp only[aY]at h1
 obtain⟨x,xs',e,h4,rfl⟩:=h1
 cases e
 exact⟨d,h4,h3⟩
theorem Oj {t:TypeId} {es:List SH} (hs:nK P 20 t=some [.sl es]) {v:Value} (hv:∃ a len cap,v= .slice a len cap) {d:DataW H} {p:List MemPlace} (h:DataW.Trod enc P w base spare held t v d p):
  ∃ l,Den [] (mY w) (.dat (.sl es.length l)) v/\l.length<=maxLen/\∀ e∈l,fu es e:=by
 obtain⟨a,len,cap,rfl⟩:=hv
 obtain⟨x,h1,h2⟩:=YK hs rfl h
 simp only[pZ]at h2
 obtain⟨l,rfl,h3,h4⟩:=h2
 exact⟨l,by simpa only[Den]using h1,h3,h4⟩
end
def KT:V->KB->Prop:=fun r _=>zb r
theorem eM {P:Program} {X:bM} (hX:bW P X) (hm:P.follows .mixedOrders=true) {f:FuncId} {S:aH} (h:∀ args kb K,S args kb K->∃ T,aO P X T f args kb K):aT P f S:=
 fun args kb K hs σ E W xs hi hd=>by
  obtain⟨T,hT⟩:=h args kb K hs
  exact Pd hX hm hT hi hd
theorem ud {P:Program} (hm:P.follows .mixedOrders=true) {f:FuncId} {S:aH} (h:∀ args kb K,S args kb K->∃ X T,bW P X/\aO P X T f args kb K):aT P f S:=
 fun args kb K hs σ E W xs hi hd=>by
  obtain⟨X,T,hX,hT⟩:=h args kb K hs
  exact Pd hX hm hT hi hd
theorem GV {P:Program} {X:bM} (hX:bW P X) (hm:P.follows .mixedOrders=true) (ds:List iB) {f:FuncId} {S:aH} (h:∀ args kb K,S args kb K->∃ T,aO P X T f args kb (eX ds K)):aT P f S:=
 fun args kb K hs=>by
  have h0:aT P f (fun a k K0=>∃ T,aO P X T f a k K0):=eM hX hm fun _ _ _ h=>h
  exact FC h0 ds args kb K (h args kb K hs)
theorem jP {P:Program} {X:bM} (hX:bW P X) (hm:P.follows .mixedOrders=true) {f:FuncId} {S:aH} (h:∀ args kb K,S args kb K->∃ T,aO P X T f args kb (dh kb.length K)):aT P f S:=
 fun args kb K hs=>by
  have h0:aT P f (fun a k K0=>∃ T,aO P X T f a k K0):=eM hX hm fun _ _ _ h=>h
  exact AB h0 args kb K (h args kb K hs)
theorem mP {P:Program} {X:bM} (hX:bW P X) (hm:P.follows .mixedOrders=true) (ds:List iB) {f:FuncId} {S:aH} (h:∀ args kb K,S args kb K->∃ T,aO P X T f args kb (eX ds (dh kb.length K))):aT P f S:=by
 have h1:aT P f (fun args kb K=>∃ T,aO P X T f args kb (eX ds K)):=GV hX hm ds (fun args kb K h=>h)
 have h2:=AB h1
 exact fun args kb K hs=>h2 args kb K (h args kb K hs)
def Hv:V->V
 | .tt=> .sb true
 | .ff=> .sb false
 |v=>v
theorem Ks {σ:Sg} {E:EH}:∀{vs:List V} {xs:List Value},aw σ E vs xs->aw σ E (vs.map Hv) xs
 | [],_,h=>h
 |v::vs,_,h=>by
  simp only[aw]at h
  obtain⟨x,xs',rfl,h1,h2⟩:=h
  refine .cons ?_ (Ks h2)
  cases v<;>first | exact h1 | (simp only[Den]at h1;simpa [Hv,Den]using h1)
def Po (S:aH):aH:=fun args kb K=>S (args.map Hv) kb K
theorem ZR {P:Program} {f:FuncId} {S:aH} (hS:aT P f S):aT P f (Po S):=fun args kb K h σ E W xs hi hd=>hS _ kb K h σ E W xs hi (Ks hd)
abbrev dn (k:IntKind) (n:Int):D:=.val (.int k n)
abbrev db (b:Bool):D:=.val (.bool b)
def aK (k:IntKind) (l:List Int):List D:=l.map fun n=> .val (.int k n)
def ints (k:IntKind) (l:List Int):List (List D):=l.map fun n=>[.val (.int k n)]
theorem be {k:IntKind} {l:List Int}:(ints k l).length=l.length:=by simp [ints]
theorem mH {k:IntKind}:ints k []=[]:=rfl
theorem Ms {k:IntKind} {a:Int} {l:List Int}:ints k (a::l)=[.val (.int k a)]::ints k l:=rfl
theorem po {k:IntKind} {l m:List Int}:ints k (l++m)=ints k l++ints k m:=by simp [ints]
theorem ints_set {k:IntKind} {l:List Int} {i:Nat} {n:Int}:(ints k l).set i [.val (.int k n)]=ints k (l.set i n):=by simp [ints]
theorem oq {k:IntKind} {l:List Int} {i:Nat}:(ints k l).take i=ints k (l.take i):=by simp [ints]
theorem yZ {k:IntKind} {l:List Int} {i:Nat}:(ints k l).drop i=ints k (l.drop i):=by simp [ints]
theorem VE {k:IntKind} {m:Nat} {n:Int}:cQ m [D.val (.int k n)]=ints k (cQ m n):=by simp [ints]
theorem kw {k:IntKind} {l:List Int} {i:Nat}:(ints k l)[i]? =l[i]?.map fun n=>[D.val (.int k n)]:=by simp [ints]
theorem vA {k:IntKind} {l:List Int}:(ints k l).flatten=aK k l:=by
 induction l with
 |nil=>rfl
 |cons a l ih=>rw[Ms,im,ih];rfl
theorem YS {k:IntKind} {l:List Int}:Plain (aK k l):=fun d hd=>by
 obtain⟨n,_,rfl⟩:=fH.1 hd;trivial
theorem nG {k:IntKind} {l:List Int}:Plain (ints k l).flatten:=by rw[vA];exact YS
theorem S7 {k:IntKind} {l:List (List D)} (h:∀ x∈l,fu [.int k] x):∃ zs,l=ints k zs/\∀ n∈zs,(Lit.int k n).wf=true:=by
 induction l with
 |nil=>exact⟨[],rfl,by simp⟩
 |cons x l ih=>
  obtain⟨zs,h1,h2⟩:=ih (fun y hy=>h y (fS _ hy))
  have:=h x iA
  simp only[fu,pZ]at this
  obtain⟨v,vs,rfl,⟨n,rfl,hw⟩,rfl⟩:=this
  refine⟨n::zs,by rw[Ms,h1],fun m hm=>?_⟩
  rcases eP.1 hm with rfl | hm
  ·exact hw
  ·exact h2 m hm
theorem J6 {α:Type} {ss:List SH} {f:α->List D} {Q:α->Prop} (hf:∀ x,fu ss x->∃ a,x=f a/\Q a):∀{l:List (List D)},(∀ x∈l,fu ss x)->∃ zs:List α,l=zs.map f/\∀ a∈zs,Q a
 | [],_=>⟨[],rfl,by simp⟩
 |x::l,h=>by
  obtain⟨zs,h1,h2⟩:=J6 hf (l:=l) (fun y hy=>h y (fS _ hy))
  obtain⟨a,rfl,ha⟩:=hf x (h x iA)
  refine⟨a::zs,by rw[h1];rfl,fun m hm=>?_⟩
  rcases eP.1 hm with rfl | hm
  ·exact ha
  ·exact h2 m hm
def Mo (n:Int):Prop:=-9223372036854775808<=n/\n<=9223372036854775807
theorem bR {n:Int} (h1:-9223372036854775808<=n) (h2:n<=9223372036854775807):Z.wrap n=n:=IntWalk.i64_in n (by omega)
theorem Km {σ:Sg} {E:EH} {v:V} {vs:List V} {x:Value} {xs:List Value} (h:Den σ E v x) (k:aw σ E vs xs):aw σ E (v::vs) (x::xs):=by
 simp only[aw];exact⟨x,xs,rfl,h,k⟩
def Mx (P:Program) (t:TypeId):Bool:=match P.underlying t with
 |some (.slice _)=>true
 |_=>false
theorem N3 {P:Program} {w:World} {r:Reach} {base:Nat} {t:TypeId} {v:Value} (hs:Mx P t=true) (h:Value.okWide P w r base t v):∃ a len cap,v= .slice a len cap:=by
 unfold Mx at hs
 split at hs
 ·rename_i e he;exact WideShapes.okWide_slice he h
 ·cases hs
inductive FM where
 |kM
 |num
 |sl (s:Nat)
def qD:V->V
 | .lit k n=> .int k n
 | .any (.int k n)=> .int k n
 |v=>v
theorem FO {v:V} {σ:Sg} {E:EH} {x:Value} (h:Den σ E v x):Den σ E (qD v) x:=by
 unfold qD;split<;>first | exact h | (simp only[Den]at h ⊢;exact h)
theorem WJ {v:V} {σ:Sg} {E:EH} {ys:List Value} (h:lf σ E v ys):lf σ E (qD v) ys:=by
 rcases h with ⟨y,rfl,h1,h2⟩ | ⟨m,cs,rfl,h1,h2⟩
 ·exact .inl ⟨y,rfl,h1,FO h2⟩
 ·exact .inr ⟨m,cs,rfl,h1,h2⟩
theorem lf.mono' {σ:Sg} {E E':EH} (h:E.le E') {v:V} {ys:List Value} (hd:lf σ E v ys):lf σ E' v ys:=by
 rcases hd with ⟨y,rfl,h1,h2⟩ | ⟨m,cs,rfl,h1,h2⟩
 ·have:=Den.mono (τ:=[]) h h2
  rw[fg]at this
  exact .inl ⟨y,rfl,h1,this⟩
 ·exact .inr ⟨m,cs,rfl,h1,h2.mono h⟩
def nc:List FM->List V->KB->(List V->KB->Prop)->Prop
 |_,[],kb,K=>K [] kb
 | [],v::vs,kb,K=>K (v::vs) kb
 | .kM::ms,v::vs,kb,K=>nc ms vs kb (fun us kb'=>K (v::us) kb')
 | .num::ms,v::vs,kb,K=>nc ms vs kb (fun us kb'=>K (qD v::us) kb')
 | .sl s::ms,v::vs,kb,K=>oW (.sl s) v kb (fun d kb'=>nc ms vs kb' (fun us iI=>K (.dat d::us) iI))
theorem tc:∀{ms:List FM} {vs:List V} {kb:KB} {K:List V->KB->Prop},nc ms vs kb K->∀{σ:Sg} {E:EH} {W:World},Inv σ E kb W->∀{xs:List Value},aS σ E vs xs->
  ∃ E' kb' us,Step σ E kb W σ E' kb' W/\aS σ E' us xs/\K us kb'
 |ms,[],kb,K,h,σ,E,W,hi,xs,hd=>by
  have:K [] kb:=by cases ms with | nil=>exact h | cons m ms=>cases m<;>exact h
  exact⟨E,kb,[],Step.refl hi,hd,this⟩
 | [],v::vs,kb,K,h,σ,E,W,hi,xs,hd=>⟨E,kb,v::vs,Step.refl hi,hd,h⟩
 | .kM::ms,v::vs,kb,K,h,σ,E,W,hi,xs,hd=>by
  obtain⟨ys,zs,rfl,h1,h2⟩:=hd.gx
  simp only[nc]at h
  obtain⟨E1,dU,us,s1,d1,hK⟩:=tc h hi h2
  have:=lf.mono' s1.le h1
  exact⟨E1,dU,v::us,s1,.cons this d1,hK⟩
 | .num::ms,v::vs,kb,K,h,σ,E,W,hi,xs,hd=>by
  obtain⟨ys,zs,rfl,h1,h2⟩:=hd.gx
  simp only[nc]at h
  obtain⟨E1,dU,us,s1,d1,hK⟩:=tc h hi h2
  have:=lf.mono' s1.le (WJ h1)
  exact⟨E1,dU,qD v::us,s1,.cons this d1,hK⟩
 | .sl s::ms,v::vs,kb,K,h,σ,E,W,hi,xs,hd=>by
  obtain⟨ys,zs,rfl,h1,h2⟩:=hd.gx
  simp only[nc]at h
  rcases h1 with ⟨y,rfl,h1,hy⟩ | ⟨m,cs,rfl,_,_⟩
  ·obtain⟨E1,dU,d,s1,r1,h⟩:=u0 h hi hy
   have h2':=aS.mono (τ:=[]) s1.le h2
   rw[fg]at h2'
   obtain⟨E2,bC,us,s2,d2,hK⟩:=tc h s1.inv h2'
   exact⟨E2,bC,.dat d::us,s1.trans s2,aS.hU (by simp only[Den];exact r1.mono s2.le) h1 d2,hK⟩
  ·exact h.elim
def vj (ms:List FM) (K:V->KB->Prop):V->KB->Prop:=fun r kb=>match r with
 | .agg l=>nc ms l kb (fun us kb'=>K (.agg us) kb')
 | .υ (.agg l::rest)=>nc ms l kb (fun us kb'=>K (.υ (.agg us::rest)) kb')
 |_=>False
def TU (ms:List FM) (S:aH):aH:=fun args kb K=>S args kb (vj ms K)
theorem TV {P:Program} {f:FuncId} {S:aH} (hS:aT P f S) (ms:List FM):aT P f (TU ms S):=fun args kb K h σ E W xs hi hd=>by
 refine(hS args kb _ h σ E W xs hi hd).mono ?_
 rintro e W' ⟨v,r,σs,E',bC,rfl,hst,dT,hK⟩
 unfold vj at hK
 split at hK<;>try exact hK.elim
 ·rename_i l
  simp only[Den]at dT
  obtain⟨vs,rfl,hl⟩:=dT
  obtain⟨E1,dU,us,s1,d1,hK⟩:=tc hK hst.inv hl
  exact⟨_,_,_,_,_,rfl,hst.trans s1,by simp only[Den];exact⟨vs,rfl,d1⟩,hK⟩
 ·rename_i l rest
  simp only[Den]at dT
  obtain⟨vs,rfl,hl⟩:=dT
  simp only[aw]at hl
  obtain⟨x,xs',rfl,hx,hr⟩:=hl
  simp only[Den]at hx
  obtain⟨cs,rfl,hl⟩:=hx
  obtain⟨E1,dU,us,s1,d1,hK⟩:=tc hK hst.inv hl
  have:=aw.mono (τ:=[]) s1.le hr
  rw[fg]at this
  exact⟨_,_,_,_,_,rfl,hst.trans s1,by simp only[Den];exact⟨_,rfl,.cons (by simp only[Den];exact⟨cs,rfl,d1⟩) this⟩,hK⟩
theorem PG {P:Program} {X:bM} (hX:bW P X) (hm:P.follows .mixedOrders=true) (ms:List FM) {f:FuncId} {S:aH} (h:∀ args kb K,S args kb K->∃ T,aO P X T f args kb (vj ms (dh kb.length K))):aT P f S:=by
 have h0:aT P f (fun a k K0=>∃ T,aO P X T f a k K0):=eM hX hm fun _ _ _ h=>h
 have h2:=AB (TV h0 ms)
 exact fun args kb K hs=>h2 args kb K (h args kb K hs)
def iF (ms:List Mode) (K:V->KB->Prop):V->KB->Prop:=fun r kb=>match r with
 | .υ l=>qm ms l kb (fun us kb'=>K (.υ us) kb')
 |r=>qm ms [r] kb (fun us kb'=>match us with | [u]=>K u kb' | _=>False)
def T3 (ms:List Mode) (S:aH):aH:=fun args kb K=>S args kb (iF ms K)
theorem Le {P:Program} {f:FuncId} {S:aH} (hS:aT P f S) (ms:List Mode):aT P f (T3 ms S):=fun args kb K h σ E W xs hi hd=>by
 refine(hS args kb _ h σ E W xs hi hd).mono ?_
 rintro e W' ⟨v,r,σs,E',bC,rfl,hst,dT,hK⟩
 unfold iF at hK
 split at hK
 ·rename_i l
  simp only[Den]at dT
  obtain⟨vs,rfl,hl⟩:=dT
  obtain⟨E1,dU,us,s1,d1,hK⟩:=vn hK hst.inv hl
  exact⟨_,_,_,_,_,rfl,hst.trans s1,by simp only[Den];exact⟨vs,rfl,d1⟩,hK⟩
 ·rename_i r _
  obtain⟨E1,dU,us,s1,d1,hK⟩:=vn hK hst.inv (u9 dT)
  split at hK<;>try exact hK.elim
  exact⟨_,_,_,_,_,rfl,hst.trans s1,u_ d1,hK⟩
def T4 (ms:List Mode) (S:aH):aH:=fun args kb K=>S args kb (iF ms (dh kb.length K))
theorem yy {P:Program} {f:FuncId} {S:aH} (hS:aT P f S) (ms:List Mode):aT P f (T4 ms S):=by
 have h2:=AB (Le hS ms)
 exact fun args kb K hs=>h2 args kb K hs
abbrev fZ:=BitVec 32
def CZ:fZ:=3988292384#32
def cst (x:fZ):fZ:=(x >>> 1) ^^^ (if x.getLsbD 0 then CZ else 0#32)
def i_:Nat->fZ->fZ
 | 0,x=>x
 |n+1,x=>cst (i_ n x)
theorem acU (a b c d:fZ):(a ^^^ b) ^^^ (c ^^^ d)=(a ^^^ c) ^^^ (b ^^^ d):=by
 apply BitVec.eq_of_getLsbD_eq
 intro i hi
 simp only[BitVec.getLsbD_xor]
 cases a.getLsbD i<;>cases b.getLsbD i<;>cases c.getLsbD i<;>cases d.getLsbD i<;>rfl
theorem Tg (a b:fZ):cst (a ^^^ b)=cst a ^^^ cst b:=by
 unfold cst
 rw[acU,<- BitVec.ushiftRight_xor_distrib,BitVec.getLsbD_xor]
 congr 1
 cases a.getLsbD 0<;>cases b.getLsbD 0<;>decide
theorem Kc (a b:fZ):∀ n,i_ n (a ^^^ b)=i_ n a ^^^ i_ n b
 | 0=>rfl
 |n+1=>by rw[i_,Kc a b n,Tg];rfl
theorem Kb {x:fZ}:∀ n,(∀ i,i<n->x.getLsbD i=false)->i_ n x=x >>> n
 | 0,_=>by simp [i_]
 |n+1,h=>by
  rw[i_,Kb n (fun i hi=>h i (by omega)),cst]
  have:(x >>> n).getLsbD 0=false:=by rw[BitVec.getLsbD_ushiftRight];exact h _ (by omega)
  rw[this,<- BitVec.shiftRight_add]
  simp
theorem Tf (x:fZ):i_ 8 x=(x >>> 8) ^^^ i_ 8 (x &&& 255#32):=by
 have hx:x=(x &&& 4294967040#32) ^^^ (x &&& 255#32):=by
  apply BitVec.eq_of_getLsbD_eq
  intro i hi
  have e:(4294967040#32).getLsbD i= !(255#32).getLsbD i:=by
   rw[show(4294967040#32)= ~~~ 255#32 by decide,BitVec.getLsbD_not];simp [hi]
  rw[BitVec.getLsbD_xor,BitVec.getLsbD_and,BitVec.getLsbD_and,e]
  cases x.getLsbD i<;>cases (255#32).getLsbD i<;>rfl
 have h1:i_ 8 (x &&& 4294967040#32)=(x &&& 4294967040#32) >>> 8:=Kb 8 (fun i hi=>by
  rw[BitVec.getLsbD_and]
  have:(4294967040#32).getLsbD i=false:=by
   have:i=0∨i=1∨i=2∨i=3∨i=4∨i=5∨i=6∨i=7:=by omega
   rcases this with rfl | rfl | rfl | rfl | rfl | rfl | rfl | rfl<;>decide
  rw[this,Bool.and_false])
 have h2:(x &&& 4294967040#32) >>> 8=x >>> 8:=by
  rw[BitVec.ushiftRight_and_distrib]
  rw[show(4294967040#32 >>> 8)=16777215#32 by decide]
  apply BitVec.eq_of_getLsbD_eq
  intro i hi
  rw[BitVec.getLsbD_and,BitVec.getLsbD_ushiftRight]
  by_cases h:i<24
  ·have:(16777215#32).getLsbD i=true:=by
    rw[show(16777215#32)=(BitVec.allOnes 24).setWidth 32 by decide]
    rw[BitVec.getLsbD_setWidth,BitVec.getLsbD_allOnes];simp [h,hi]
   rw[this,Bool.and_true]
  ·rw[BitVec.getLsbD_of_ge x (8+i) (by omega),Bool.false_and]
 conv=>lhs;rw[hx,Kc]
 rw[h1,h2]
def U (x:fZ):Int:=(x.toNat:Int)
theorem IT (x:fZ):0<=U x/\U x<4294967296:=by unfold U;have:=x.isLt;omega
theorem xO (x:fZ):gq.wrap (U x)=U x:=IntWalk.u32_in _ (by have:=IT x;omega)
theorem sQ (x:fZ):BitVec.ofInt 32 (U x)=x:=by
 unfold U
 rw[BitVec.ofInt_natCast,BitVec.ofNat_toNat,BitVec.setWidth_eq]
theorem IU (x:fZ) (k:Nat):(U x).fdiv (2 ^ k:Nat)=U (x >>> k):=by
 unfold U
 rw[Int.fdiv_eq_ediv_of_nonneg _ (Int.natCast_nonneg _),BitVec.toNat_ushiftRight,Nat.shiftRight_eq_div_pow]
 exact(Int.natCast_ediv _ _).symm
theorem WN {n:Int} (h:0<=n/\n<4294967296):U (BitVec.ofInt 32 n)=n:=by
 obtain⟨k,rfl⟩:=Int.eq_ofNat_of_zero_le h.1
 unfold U
 show((BitVec.ofInt 32 (k:Int)).toNat:Int)=k
 rw[BitVec.ofInt_natCast,BitVec.toNat_ofNat]
 have:k % 2 ^ 32=k:=Nat.mod_eq_of_lt (by have:=h.2;omega)
 rw[this]
theorem RD (x:fZ):gq.wrap (gq.wrap (U (x &&& 1#32))*3988292384)=U (if x.getLsbD 0 then CZ else 0#32):=by
 rw[xO]
 have:x &&& 1#32=if x.getLsbD 0 then 1#32 else 0#32:=by
  have:=BitVec.and_one_eq_setWidth_ofBool_getLsbD (x:=x)
  rw[this]
  cases x.getLsbD 0<;>decide
 rw[this]
 cases x.getLsbD 0<;>decide
def bm (l:List Int):Prop:=∀ c∈l,0<=c/\c<256
def x7 (x:fZ) (c:Int):fZ:=i_ 8 (x ^^^ BitVec.ofInt 32 c)
def kO (x:fZ) (l:List Int):fZ:=l.foldl x7 x
def dy (l:List Int):Int:=U (~~~ (kO 4294967295#32 l))
theorem Tb (x:fZ) (l:List Int) (c:Int):kO x (l++[c])=x7 (kO x l) c:=by simp [kO]
theorem Ta (x:fZ) (l m:List Int):kO x (l++m)=kO (kO x l) m:=by simp [kO]
def sV (i:Nat):Int:=U (i_ 8 (BitVec.ofNat 32 i))
def rj (i:Nat):List Int:=(gD 256).map fun j=>if j<i then sV j else 0
theorem NB {n:Int} (h:0<=n/\n<256):(BitVec.ofInt 32 n).toNat=n.toNat:=by
 have:=WN (n:=n) (by omega)
 unfold U at this;omega
theorem M0 (y:fZ):(y &&& 255#32).toNat=y.toNat % 256:=by
 rw[BitVec.toNat_and,show(255#32).toNat=2 ^ 8 - 1 by decide,Nat.and_two_pow_sub_one_eq_mod]
theorem Td {x:fZ} {n:Int} (h:0<=n/\n<256):θ.wrap (((BitVec.ofInt 8 (θ.wrap (U x)) ^^^ BitVec.ofInt 8 n).toNat:Nat):Int)=(((x ^^^ BitVec.ofInt 32 n) &&& 255#32).toNat:Int):=by
 have e1:BitVec.ofInt 8 (θ.wrap (U x))=x.setWidth 8:=by
  apply BitVec.eq_of_toNat_eq
  rw[BitVec.toNat_ofInt,BitVec.toNat_setWidth]
  have:θ.wrap (U x)=U x % 256:=by rw[IntKind.wrap_u8]
  rw[this];unfold U;omega
 have e2:BitVec.ofInt 8 n=(BitVec.ofInt 32 n).setWidth 8:=by
  apply BitVec.eq_of_toNat_eq
  rw[BitVec.toNat_ofInt,BitVec.toNat_setWidth,NB h];omega
 rw[e1,e2,<- BitVec.setWidth_xor,M0,BitVec.toNat_setWidth]
 exact IntWalk.u8_in _ (by omega)
theorem ZW {x:fZ} {n:Int} (h:0<=n/\n<256):(x ^^^ BitVec.ofInt 32 n) >>> 8=x >>> 8:=by
 rw[BitVec.ushiftRight_xor_distrib]
 have:BitVec.ofInt 32 n >>> 8=0#32:=by
  apply BitVec.eq_of_toNat_eq
  rw[BitVec.toNat_ushiftRight,NB h,Nat.shiftRight_eq_div_pow]
  show n.toNat / 256=0
  omega
 rw[this,BitVec.xor_zero]
theorem Te {x:fZ} {n:Int} (h:0<=n/\n<256):gq.wrap (((BitVec.ofInt 32 ((U x).fdiv 256) ^^^ BitVec.ofInt 32 (U (i_ 8 ((x ^^^ BitVec.ofInt 32 n) &&& 255#32)))).toNat:Nat):Int)=U (x7 x n):=by
 have e1:=IU x 8
 rw[show((2 ^ 8:Nat):Int)=256 from rfl]at e1
 rw[e1,sQ,sQ]
 unfold x7
 rw[Tf (x ^^^ BitVec.ofInt 32 n),ZW h]
 exact xO _
theorem RE (x:fZ):gq.wrap (((BitVec.ofInt 32 4294967295 ^^^ BitVec.ofInt 32 (U x)).toNat:Nat):Int)=U (~~~x):=by
 rw[sQ,show BitVec.ofInt 32 4294967295=BitVec.allOnes 32 by decide,BitVec.allOnes_xor]
 exact xO _
def aN (k n:Int):Int:=if n<1 then 0 else if k.tmod n<0 then k.tmod n+n else k.tmod n
theorem YP {k n:Int} (h:1<=n):0<=aN k n/\aN k n<n:=by
 have h1:=Int.tmod_lt_of_pos k (show 0<n by omega)
 have h2:-n<k.tmod n:=by
  have:=Int.lt_tmod_of_pos k (show 0<n by omega)
  exact this
 unfold aN
 rw[if_neg (by omega)]
 split<;>omega
def vE (x:Int):List Int:=[θ.wrap x,θ.wrap (x.fdiv 256),θ.wrap (x.fdiv 65536),θ.wrap (x.fdiv 16777216)]
def bT (l:List Int):List Int:=l++vE (dy l)
theorem mO (l:List Int):(bT l).length=l.length+4:=by simp [bT,vE]
theorem V2 (x:Int):bm (vE x):=fun c hc=>by
 simp only[vE,eP,List.not_mem_nil,or_false]at hc
 rcases hc with rfl | rfl | rfl | rfl<;>(rw[IntKind.wrap_u8];omega)
theorem Ae {l:List Int} (h:bm l):bm (bT l):=fun c hc=>by
 rcases gl.1 hc with hc | hc
 ·exact h c hc
 ·exact V2 _ c hc
theorem x8 (l:List Int):0<=dy l/\dy l<4294967296:=IT _
def em (l:List Int):Option (List Int):=if 4<=l.length/\bT (l.take (l.length - 4))=l then some (l.take (l.length - 4))else none
theorem zK {l:List Int}:em (bT l)=some l:=by
 have h1:(bT l).take ((bT l).length - 4)=l:=by
  rw[mO,Nat.add_sub_cancel];unfold bT;rw[List.take_left]
 unfold em
 rw[h1,if_pos ⟨by rw[mO];omega,rfl⟩]
end Vc
namespace Go.Proofs.YtfcjngcnifdmnaaGreat
open Vc Go
open Go.IntKind renaming i64->Z,u8->θ,u32->gq
open Vc.V renaming any->γ,int->δ,sl->ε,sb->ξ,ptr->ac,dat->an,υ->ar,ae->aG,mp->aV,arr->bc,agg->cF
open Vc.KO renaming row->ζ,dead->ο,cells->ω,objs->bE
open Vc.D renaming val->η,sl->π
open List renaming map->ι,drop->ν,take->ah,length_append->bw,getElem?_eq_getElem->bx,getElem?_eq_some_iff->bU,length_map->cg,Mem->ct,take_length->cN,replicate->cQ,length_take->cW,append_assoc->dQ,getElem?_append_right->ef,getElem?_append_left->eH,mem_cons->eP,append_nil->fg,length_drop->fh,getElem?_map->fG,mem_map->fH,take_of_length_le->fI,getElem?_set_ne->fR,mem_cons_of_mem->fS,mem_append->gl,mem_of_getElem?->gm,getElem?_eq_none->gA,getElem?_set_self->gB,length_set->gC,range->gD,drop_zero->gK,mem_singleton->gY,flatten_cons->im,length_cons->io,mem_cons_self->iA,getElem?_take_of_lt->jj,length_nil->jk,nil_append->jm,getElem?_drop->jB,map_append->jC,take_add_one->jY,ext_getElem?->km,getD_eq_getElem?_getD->kn,length_singleton->ko,eq_nil_of_length_eq_zero->kG,mem_append_left->lR,mem_filter->lS
open Go.Value renaming int->κ,slice->eI,bool->fa,map->gr,oneCell'->kq
open Nat renaming le_refl->aE,zero_le->bF,beq->bZ,eq_of_beq_eq_true->cy,zero_add->cL,add_assoc->fT,lor->gE,lt_or_ge->iX,sub_zero->kp
open Option renaming some->bh,bind_eq_some_iff->jF,map->jZ
open Int renaming toNat_natCast->dr,le_refl->gp
open Bool renaming and_eq_true->kE
set_option linter.unusedVariables false
set_option linter.unusedSimpArgs false
set_option maxRecDepth 100000
def aM:FuncId->Nat->Option LI:=fun _ _=>none
def FH:FuncId->Option dw:=fun _=>none
noncomputable def X0:bM:=dF Tryz.prog FH aM 10
def Sm (l:List Int):Prop:=l.length<=1000000
def pJ (a b:List Int) (i:Nat):Prop:=i<=a.length/\a.take i=b.take i
abbrev GG (k:IntKind) (a b:List Int):LI where
 α:={i:Nat // pJ a b i}
 live:=[0,1,5]
 st i:=([an (.sl 1 (ints k a)),an (.sl 1 (ints k b)),.int Z (i.1:Int)],[])
 μ i:=a.length - i.1
abbrev Dm (k:IntKind) (a b:List Int):LI where
 α:={i:Nat // pJ a b i}
 live:=[0,1,12,13]
 st i:=([an (.sl 1 (ints k a)),an (.sl 1 (ints k b)),.int Z (a.length:Int),.int Z (i.1:Int)],[])
 μ i:=a.length - i.1
def Ad (k:IntKind) (a b:List Int):FuncId->Nat->Option LI
 | 12,4=>some (GG k a b)
 | 95,4=>some (Dm k a b)
 |_,_=>none
theorem ace (a b:List Int) (K:V->KB->Prop) (ay:
 (((↑(ints θ a).length:Int) != (↑(ints θ b).length:Int))=true->K (ξ false) [])/\
 (((↑(ints θ a).length:Int) != (↑(ints θ b).length:Int))=false->
 At (GG θ a b) ([an (π 1 (ints θ a)),an (π 1 (ints θ b)),δ Z 0],[])/\
 ∀(i:{i:Nat // pJ a b i }),
 (decide ((↑i.val:Int)<(↑(ints θ a).length:Int))=true->
 aQ (↑i.val:Int)/\
 ∃(e:List D),
 (ints θ a)[(↑i.val:Int).toNat]? =some e/\
 ∃(n:Int),
 e[0]? =some (η (κ θ n))/\
 aQ (↑i.val:Int)/\
 ∃(e:List D),(ints θ b)[(↑i.val:Int).toNat]? =some e/\∃(n_1:Int),e[0]? =some (η (κ θ n_1))/\((n != n_1)=true->K (ξ false) [])/\((n != n_1)=false->Nx (GG θ a b) i ([an (π 1 (ints θ a)),an (π 1 (ints θ b)),δ Z (Z.wrap ((↑i.val:Int)+1))],[])))/\
 (decide ((↑i.val:Int)<(↑(ints θ a).length:Int))=false->K (ξ true) []))
 ):aO Tryz.prog X0 (Ad θ a b 12) 12 [an (.sl 1 (ints θ a)),an (.sl 1 (ints θ b))] [] K:=by apply Eq.mp (a:=ay);kernel_rfl
theorem aby (a b:List Int) (K:V->KB->Prop) (ay:
 (((↑(ints θ a).length:Int) != (↑(ints θ b).length:Int))=true->K (ξ false) [])/\
 (((↑(ints θ a).length:Int) != (↑(ints θ b).length:Int))=false->
 At (Dm θ a b) ([an (π 1 (ints θ a)),an (π 1 (ints θ b)),δ Z (↑(ints θ a).length:Int),δ Z 0],[])/\
 ∀(i:{i:Nat // pJ a b i }),
 (decide ((↑i.val:Int)<(↑a.length:Int))=true->
 aQ (↑i.val:Int)/\
 ∃(e:List D),
 (ints θ a)[(↑i.val:Int).toNat]? =some e/\
 ∃(n:Int),
 e[0]? =some (η (κ θ n))/\
 aQ (↑i.val:Int)/\
 ∃(e:List D),
 (ints θ b)[(↑i.val:Int).toNat]? =some e/\
 ∃(n_1:Int),e[0]? =some (η (κ θ n_1))/\((n != n_1)=true->K (ξ false) [])/\((n != n_1)=false->Nx (Dm θ a b) i ([an (π 1 (ints θ a)),an (π 1 (ints θ b)),δ Z (↑a.length:Int),δ Z (Z.wrap ((↑i.val:Int)+1))],[])))/\
 (decide ((↑i.val:Int)<(↑a.length:Int))=false->K (ξ true) []))
 ):aO Tryz.prog X0 (Ad θ a b 95) 95 [an (.sl 1 (ints θ a)),an (.sl 1 (ints θ b))] [] K:=by apply Eq.mp (a:=ay);kernel_rfl
theorem abi (a:List (List D)) (K:V->KB->Prop) (ay:
 ∀(b:Bool),(b=true->a.length=0)->(b=true->K (γ (eI none 0 0)) [])/\(b=false->True/\0<=0/\(0+a.length)*1<=140737488355328/\K (ε 0 0 (0+a.length)) [ζ 5 1 ([]++a)])
 ):aO Tryz.prog X0 (aM 55) 55 [an (.sl 1 a)] [] K:=by apply Eq.mp (a:=ay);kernel_rfl
theorem ab7 (k n:Int) (K:V->KB->Prop) (ay:
 (decide (n<1)=true->K (δ Z 0) [])/\(decide (n<1)=false->(n=0->False)/\(decide (k.tmod n<0)=true->K (δ Z (Z.wrap (k.tmod n+n))) [])/\(decide (k.tmod n<0)=false->K (δ Z (k.tmod n)) []))
 ):aO Tryz.prog X0 (aM 20) 20 [.int Z k,.int Z n] [] K:=by apply Eq.mp (a:=ay);kernel_rfl
theorem mixed:Tryz.prog.follows .mixedOrders=true:=by kernel_rfl
theorem FI:dE Tryz.prog FH:=fun f k h=>by cases h
theorem f_:bW Tryz.prog X0:=dI mixed FI aM 10
def uE (k:IntKind):aH:=fun args kb K=>match args,kb with
 | [an (.sl 1 A),an (.sl 1 B)],[]=>∃ a b:List Int,A=ints k a/\B=ints k b/\a.length<=maxLen/\K (ξ (decide (a=b))) []
 |_,_=>False
def uD (k:IntKind):aH:=fun args kb K=>match args,kb with
 | [an (.sl 1 A),an (.sl 1 B)],[]=>∃ a b:List Int,A=ints k a/\B=ints k b/\Sm a/\K (ξ (decide (a=b))) []
 |_,_=>False
abbrev xB:aH:=uD θ
theorem Pn {f:FuncId} {k:IntKind} (h:aT Tryz.prog f (uE k)):aT Tryz.prog f (uD k):=fun args kb K hs=>h args kb K (by
 unfold uD at hs;split at hs<;>try exact hs.elim
 obtain⟨a,b,rfl,rfl,hl,hk⟩:=hs
 unfold Sm at hl
 exact⟨a,b,rfl,rfl,by simp only[maxLen];omega,hk⟩)
theorem Pm {a b:List Int} {i:Nat} (h:pJ a b i) (ha:i<a.length) (hb:i<b.length) (he:a[i]=b[i]):pJ a b (i+1):=by
 refine⟨by omega,?_⟩
 rw[jY,jY,h.2,bx ha,bx hb,he]
theorem X8:aT Tryz.prog 12 (uE θ):=eM f_ mixed (fun args kb K h=>by
 unfold uE at h;split at h<;>try exact h.elim
 obtain⟨a,b,rfl,rfl,pd,h⟩:=h
 simp only[maxLen]at pd
 refine⟨Ad θ a b 12,ace a b K ⟨fun hc=>?_,fun hc=>⟨At.mk' ⟨0,bF _,rfl⟩ rfl,?_⟩⟩⟩
 ·simp only[be,bne_iff_ne,ne_eq]at hc
  rw[decide_eq_false (fun e=>hc (by rw[e]))]at h;exact h
 simp only[be,bne_eq_false_iff_eq]at hc
 have hl:a.length=b.length:=by omega
 rintro⟨i,hi,ht⟩
 simp only[be]at ht ⊢
 refine⟨fun gM=>?_,fun gM=>?_⟩
 ·simp only[decide_eq_true_eq]at gM
  have e2:((i:Nat):Int).toNat=i:=by omega
  have hq:a[i]? =some a[i]:=bx (by omega)
  have o9:b[i]? =some b[i]:=bx (by omega)
  have j5:aQ (i:Int):=by unfold aQ;omega
  have w2:=bR (n:=(i:Int)+1) (by omega) (by omega)
  refine⟨j5,[η (.int θ a[i])],by rw[e2,kw,hq];rfl,a[i],rfl,j5,[η (.int θ b[i])],by rw[e2,kw,o9];rfl,b[i],rfl,fun hx=>?_,fun hx=>?_⟩
  ·simp only[bne_iff_ne,ne_eq]at hx
   rw[decide_eq_false (fun e=>hx (by subst e;rfl))]at h;exact h
  ·simp only[bne_eq_false_iff_eq]at hx
   rw[w2]
   exact Nx.mk' (⟨i+1,Pm ⟨hi,ht⟩ (by omega) (by omega) hx⟩:{i:Nat // pJ a b i}) rfl (by show a.length - (i+1)<a.length - i;omega)
 ·simp only[decide_eq_false_iff_not]at gM
  have:i=a.length:=by omega
  subst this
  rw[cN,hl,cN]at ht
  rw[decide_eq_true ht]at h;exact h)
theorem F0:aT Tryz.prog 12 (uD θ):=Pn X8
theorem Xc:aT Tryz.prog 95 (uE θ):=eM f_ mixed (fun args kb K h=>by
 unfold uE at h;split at h<;>try exact h.elim
 obtain⟨a,b,rfl,rfl,pd,h⟩:=h
 simp only[maxLen]at pd
 refine⟨Ad θ a b 95,aby a b K ⟨fun hc=>?_,fun hc=>⟨?_,?_⟩⟩⟩
 ·simp only[be,bne_iff_ne,ne_eq]at hc
  rw[decide_eq_false (fun e=>hc (by rw[e]))]at h;exact h
 ·rw[be];exact At.mk' (⟨0,bF _,rfl⟩:{i:Nat // pJ a b i}) rfl
 simp only[be,bne_eq_false_iff_eq]at hc
 have hl:a.length=b.length:=by omega
 rintro⟨i,hi,ht⟩
 simp only[be]at ht ⊢
 refine⟨fun gM=>?_,fun gM=>?_⟩
 ·simp only[decide_eq_true_eq]at gM
  have e2:((i:Nat):Int).toNat=i:=by omega
  have hq:a[i]? =some a[i]:=bx (by omega)
  have o9:b[i]? =some b[i]:=bx (by omega)
  have j5:aQ (i:Int):=by unfold aQ;omega
  have w2:=bR (n:=(i:Int)+1) (by omega) (by omega)
  refine⟨j5,[η (.int θ a[i])],by rw[e2,kw,hq];rfl,a[i],rfl,j5,[η (.int θ b[i])],by rw[e2,kw,o9];rfl,b[i],rfl,fun hx=>?_,fun hx=>?_⟩
  ·simp only[bne_iff_ne,ne_eq]at hx
   rw[decide_eq_false (fun e=>hx (by subst e;rfl))]at h;exact h
  ·simp only[bne_eq_false_iff_eq]at hx
   rw[w2]
   exact Nx.mk' (⟨i+1,Pm ⟨hi,ht⟩ (by omega) (by omega) hx⟩:{i:Nat // pJ a b i}) rfl (by show a.length - (i+1)<a.length - i;omega)
 ·simp only[decide_eq_false_iff_not]at gM
  have:i=a.length:=by omega
  subst this
  rw[cN,hl,cN]at ht
  rw[decide_eq_true ht]at h;exact h)
theorem Xb:aT Tryz.prog 95 (uD θ):=Pn Xc
def xj:aH:=fun args kb K=>match args,kb with
 | [an (.sl 1 A)],[]=>A.length<=140737488355328/\(A=[]->K (γ (.slice none 0 0)) [])/\K (.sl 0 0 A.length) [ζ 5 1 A]
 |_,_=>False
def Bq:aH:=fun args kb K=>match args,kb with
 | [an (.sl 1 A)],[]=>A.length<=140737488355328/\K (.sl 0 0 A.length) [ζ 5 1 A]
 |_,_=>False
theorem S1 {f:FuncId} (h:aT Tryz.prog f xj):aT Tryz.prog f Bq:=fun args kb K hs=>FC h [.slot 0 5 1] args kb K (by
 unfold Bq at hs;split at hs<;>try exact hs.elim
 refine⟨hs.1,fun e=>?_,hs.2⟩
 subst e
 exact hs.2)
abbrev Rz:aH:=xj
theorem NG:aT Tryz.prog 55 xj:=eM f_ mixed (fun args kb K h=>by
 unfold xj at h;split at h<;>try exact h.elim
 rename_i A
 refine⟨aM 55,abi A K (fun b hb=>⟨fun e=>h.2.1 (List.length_eq_zero_iff.1 (hb e)),fun e=>⟨trivial,aE _,by omega,?_⟩⟩)⟩
 have:=h.2.2
 simpa using this)
def xw:aH:=fun args kb K=>match args,kb with
 | [.int Z k,.int Z n],[]=>Mo n/\K (.int Z (aN k n)) []
 |_,_=>False
theorem FZ:aT Tryz.prog 20 xw:=eM f_ mixed (fun args kb K h=>by
 unfold xw at h;split at h<;>try exact h.elim
 rename_i k n
 obtain⟨hn,h⟩:=h
 unfold Mo at hn
 unfold aN at h
 refine⟨aM 20,ab7 k n K ⟨fun hc=>?_,fun hc=>⟨?_,fun h2=>?_,fun h2=>?_⟩⟩⟩
 ·rw[if_pos (by simpa using hc)]at h;exact h
 ·have:¬ n<1:=by simpa using hc
  omega
 ·have h1:¬ n<1:=by simpa using hc
  have h2:k.tmod n<0:=by simpa using h2
  have h3:-n<k.tmod n:=Int.lt_tmod_of_pos k (by omega)
  rw[if_neg h1,if_pos h2]at h
  rw[bR (by omega) (by omega)];exact h
 ·have h1:¬ n<1:=by simpa using hc
  have h2:¬ k.tmod n<0:=by simpa using h2
  rw[if_neg h1,if_neg h2]at h;exact h)
def Av (i:Nat):Prop:=i<=256
def AD (k:Nat):Prop:=k<=8
abbrev Hu (tb:Nat->List D) (h':Nat->Nat->Int) (i:Nat):LI where
 α:={k:Nat // AD k}
 live:=[1,2,3,5,10]
 st k:=([ac 0 0,.int Z (i:Int),.int gq (h' i k.1),.int Z (i:Int),.int Z (k.1:Int)],[ω [bc 256 (tb i)]])
 μ k:=8 - k.1
abbrev He (tb:Nat->List D) (h':Nat->Nat->Int):LI where
 α:={i:Nat // Av i}
 live:=[1,5]
 st i:=([ac 0 0,.int Z (i.1:Int)],[ω [bc 256 (tb i.1)]])
 μ i:=256 - i.1
 sub i:=fun r=>match r with | 7=>some (Hu tb h' i.1) | _=>none
def PY (tb:Nat->List D) (h':Nat->Nat->Int):FuncId->Nat->Option LI
 | 105,3=>some (He tb h')
 |_,_=>none
def mR (i:Nat):List D:=aK gq (rj i)
def pN (i k:Nat):Int:=U (i_ k (BitVec.ofNat 32 i))
def BO (ts:List D):aH:=fun args kb K=>match args,kb with
 | [],[]=>K (ac 0 0) [ω [bc 256 ts]]
 |_,_=>False
def C0 (ts:List D):FuncId->Option dw
 | 105=>some ⟨[],BO ts⟩
 |_=>none
noncomputable def XC (ts:List D):bM:=dF Tryz.prog (C0 ts) aM 10
def ax (l:List Int):List D:=[.sl 1 (ints θ l)]
def pE (n:Nat) (i:Nat):Prop:=i<=n
abbrev Cl (ts:List D) (ls:List (List Int)) (xv:Nat->Nat->Int) (j:Nat):LI where
 α:={i:Nat // pE (ls.getD j []).length i}
 live:=[3,4,10,11,12,16,17,18]
 st i:=([ac 0 0,.int gq (xv j i.1),an (.sl 1 (ls.map ax)),.int Z (ls.length:Int),.int Z (j:Int),an (.sl 1 (ints θ (ls.getD j []))),.int Z ((ls.getD j []).length:Int),.int Z (i.1:Int)],[ω [bc 256 ts]])
 μ i:=(ls.getD j []).length - i.1
abbrev B9 (ts:List D) (ls:List (List Int)) (xv:Nat->Nat->Int):LI where
 α:={j:Nat // pE ls.length j}
 live:=[3,4,10,11,12]
 st j:=([ac 0 0,.int gq (xv j.1 0),an (.sl 1 (ls.map ax)),.int Z (ls.length:Int),.int Z (j.1:Int)],[ω [bc 256 ts]])
 μ j:=ls.length - j.1
 sub j:=fun r=>match r with | 7=>some (Cl ts ls xv j.1) | _=>none
def Ka (ts:List D) (ls:List (List Int)) (xv:Nat->Nat->Int):FuncId->Nat->Option LI
 | 78,4=>some (B9 ts ls xv)
 |_,_=>none
theorem acp (tb:Nat->List D) (h':Nat->Nat->Int) (K:V->KB->Prop) (ay:
 At (He tb h')
 ([ac 0 0,δ Z 0],
 [ω
 [bc 256
 (cQ 256 (η (κ gq 0)))]])/\
 ∀(i:{i:Nat // Av i }),
 (decide ((↑i.val:Int)<256)=true->
 At (Hu tb h' i.val) ([ac 0 0,δ Z (↑i.val:Int),δ gq (gq.wrap (↑i.val:Int)),δ Z (↑i.val:Int),δ Z 0],[ω [bc 256 (tb i.val)]])/\
 ∀(i_1:{k:Nat // AD k }),
 (decide ((↑i_1.val:Int)<8)=true->
 Nx (Hu tb h' i.val) i_1
 ([ac 0 0,δ Z (↑i.val:Int),δ gq (gq.wrap (↑(BitVec.ofInt 32 ((h' i.val i_1.val).fdiv 2) ^^^ BitVec.ofInt 32 (gq.wrap (gq.wrap (↑(BitVec.ofInt 32 (h' i.val i_1.val) &&& BitVec.ofInt 32 1).toNat:Int)*3988292384))).toNat:Int)),δ Z (↑i.val:Int),
 δ Z (Z.wrap ((↑i_1.val:Int)+1))],
 [ω [bc 256 (tb i.val)]]))/\
 (decide ((↑i_1.val:Int)<8)=false->br (↑i.val:Int) 256/\(↑i.val:Int).toNat*1+1<=256/\Nx (He tb h') i ([ac 0 0,δ Z (Z.wrap ((↑i.val:Int)+1))],[ω [bc 256 (splice (tb i.val) ((↑i.val:Int).toNat*1) [η (κ gq (h' i.val i_1.val))])]])))/\
 (decide ((↑i.val:Int)<256)=false->K (ac 0 0) [ω [bc 256 (tb i.val)]])
 ):aO Tryz.prog X0 (PY tb h' 105) 105 [] [] K:=by apply Eq.mp (a:=ay);kernel_rfl
theorem acm (ts:List D) (ls:List (List Int)) (xv:Nat->Nat->Int) (K:V->KB->Prop) (ay:
 At (B9 ts ls xv) ([ac 0 0,δ gq 4294967295,an (π 1 (ι ax ls)),δ Z (↑(ι ax ls).length:Int),δ Z 0],[ω [bc 256 ts]])/\
 ∀(i:{j:Nat // pE ls.length j }),
 (decide ((↑i.val:Int)<(↑ls.length:Int))=true->
 aQ (↑i.val:Int)/\
 ∃(e:List D),
 (ι ax ls)[(↑i.val:Int).toNat]? =some e/\
 ∃(l:List (List D)),
 e[0]? =some (π 1 l)/\
 At (Cl ts ls xv i.val) ([ac 0 0,δ gq (xv i.val 0),an (π 1 (ι ax ls)),δ Z (↑ls.length:Int),δ Z (↑i.val:Int),an (π 1 l),δ Z (↑l.length:Int),δ Z 0],[ω [bc 256 ts]])/\
 ∀(i_1:{i_1:Nat // pE (ls.getD i.val []).length i_1 }),
 (decide ((↑i_1.val:Int)<(↑(ls.getD i.val []).length:Int))=true->
 aQ (↑i_1.val:Int)/\
 ∃(e:List D),
 (ints θ (ls.getD i.val []))[(↑i_1.val:Int).toNat]? =some e/\
 ∃(n:Int),
 e[0]? =some (η (κ θ n))/\
 br (θ.wrap (↑(BitVec.ofInt 8 (θ.wrap (xv i.val i_1.val)) ^^^ BitVec.ofInt 8 n).toNat:Int)) 256/\
 ∃(n_1:Int),
 ts[(θ.wrap (↑(BitVec.ofInt 8 (θ.wrap (xv i.val i_1.val)) ^^^ BitVec.ofInt 8 n).toNat:Int)).toNat*1]? =some (η (κ gq n_1))/\
 Nx (Cl ts ls xv i.val) i_1
 ([ac 0 0,δ gq (gq.wrap (↑(BitVec.ofInt 32 ((xv i.val i_1.val).fdiv 256) ^^^ BitVec.ofInt 32 n_1).toNat:Int)),an (π 1 (ι ax ls)),δ Z (↑ls.length:Int),δ Z (↑i.val:Int),an (π 1 (ints θ (ls.getD i.val []))),δ Z (↑(ls.getD i.val []).length:Int),
 δ Z (Z.wrap ((↑i_1.val:Int)+1))],
 [ω [bc 256 ts]]))/\
 (decide ((↑i_1.val:Int)<(↑(ls.getD i.val []).length:Int))=false->Nx (B9 ts ls xv) i ([ac 0 0,δ gq (xv i.val i_1.val),an (π 1 (ι ax ls)),δ Z (↑ls.length:Int),δ Z (Z.wrap ((↑i.val:Int)+1))],[ω [bc 256 ts]])))/\
 (decide ((↑i.val:Int)<(↑ls.length:Int))=false->K (δ gq (gq.wrap (↑(BitVec.ofInt 32 4294967295 ^^^ BitVec.ofInt 32 (xv i.val 0)).toNat:Int))) [])
 ):aO Tryz.prog (XC ts) (Ka ts ls xv 78) 78 [an (.sl 1 (ls.map ax))] [] K:=by apply Eq.mp (a:=ay);kernel_rfl
theorem Tc {i:Nat} (h:i<256):splice (rj i) (i*1) [sV i]=rj (i+1):=by
 unfold splice rj
 apply km
 intro j
 simp only[Nat.mul_one,io,jk]
 have hl:((gD 256).map fun j=>if j<i then sV j else 0).length=256:=by simp
 rcases Nat.lt_trichotomy j i with hj | rfl | hj
 ·rw[dQ,eH (by rw[cW,hl];omega),jj hj]
  simp only[fG,List.getElem?_range (show j<256 by omega),Option.map_some,if_pos hj,if_pos (show j<i+1 by omega)]
 ·rw[dQ,ef (by rw[cW,hl];omega)]
  rw[cW,hl,show j - min j 256=0 by omega]
  simp only[fG,List.getElem?_range h,Option.map_some,if_pos (show j<j+1 by omega)]
  rfl
 ·rw[dQ,ef (by rw[cW,hl];omega)]
  rw[cW,hl,ef (by simp;omega),jB]
  rw[show i+1+(j - min i 256 - [sV i].length)=j by simp;omega]
  by_cases h2:j<256
  ·simp only[fG,List.getElem?_range h2,Option.map_some,if_neg (show ¬ j<i by omega),if_neg (show ¬ j<i+1 by omega)]
  ·rw[gA (by rw[hl];omega),gA (by simp;omega)]
theorem aaz {i:Nat} (h:i<256):splice (mR i) (i*1) [η (.int gq (pN i 8))]=mR (i+1):=by
 have:splice (aK gq (rj i)) (i*1) (aK gq [sV i])=aK gq (splice (rj i) (i*1) [sV i]):=by simp [splice,aK]
 unfold mR
 rw[<- Tc h,<- this];rfl
theorem Yf:aT Tryz.prog 105 (BO (mR 256)):=eM f_ mixed (fun args kb K h=>by
 unfold BO at h;split at h<;>try exact h.elim
 refine⟨PY mR pN 105,acp mR pN K ⟨At.mk' ⟨0,bF _⟩ rfl,?_⟩⟩
 rintro⟨i,hi⟩
 simp only[Av]at hi ⊢
 refine⟨fun hc=>?_,fun hc=>?_⟩
 ·simp only[decide_eq_true_eq]at hc
  have hi2:i<256:=by omega
  have w1:gq.wrap (i:Int)=pN i 0:=by
   unfold pN U i_
   rw[BitVec.toNat_ofNat,Nat.mod_eq_of_lt (by omega)]
   exact IntWalk.u32_in _ (by omega)
  rw[w1]
  refine⟨At.mk' ⟨0,bF _⟩ rfl,?_⟩
  rintro⟨k,hk⟩
  simp only[AD]at hk ⊢
  refine⟨fun gM=>?_,fun gM=>?_⟩
  ·simp only[decide_eq_true_eq]at gM
   have w2:=bR (n:=(k:Int)+1) (by omega) (by omega)
   have e:gq.wrap (((BitVec.ofInt 32 ((pN i k).fdiv 2) ^^^ BitVec.ofInt 32 (gq.wrap (gq.wrap (((BitVec.ofInt 32 (pN i k) &&& BitVec.ofInt 32 1).toNat:Int))*3988292384))).toNat:Int))=pN i (k+1):=by
    unfold pN
    rw[sQ,show(BitVec.ofInt 32 1)=1#32 by decide]
    have h1:=RD (i_ k (BitVec.ofNat 32 i))
    unfold U at h1
    rw[h1]
    have h2:=IU (i_ k (BitVec.ofNat 32 i)) 1
    rw[show((2 ^ 1:Nat):Int)=2 from rfl]at h2
    rw[h2,sQ]
    have h3:=sQ (if(i_ k (BitVec.ofNat 32 i)).getLsbD 0 then CZ else 0#32)
    unfold U at h3
    rw[h3]
    exact xO _
   rw[e,w2]
   exact Nx.mk' (⟨k+1,by show k+1<=8;omega⟩:{x:Nat // AD x}) rfl (by show 8 - (k+1)<8 - k;omega)
  ·simp only[decide_eq_false_iff_not]at gM
   have UW:k=8:=by omega
   subst UW
   have e2:((i:Nat):Int).toNat=i:=by omega
   have w2:=bR (n:=(i:Int)+1) (by omega) (by omega)
   refine⟨by unfold br;omega,by omega,?_⟩
   rw[e2,w2,aaz hi2]
   exact Nx.mk' (⟨i+1,by show i+1<=256;omega⟩:{x:Nat // Av x}) rfl (by show 256 - (i+1)<256 - i;omega)
 ·simp only[decide_eq_false_iff_not]at hc
  have:i=256:=by omega
  subst this;exact h)
theorem S_:dE Tryz.prog (C0 (mR 256)):=fun f k h=>by
 unfold C0 at h
 split at h<;>first | (cases h;exact Yf) | cases h
theorem RG:bW Tryz.prog (XC (mR 256)):=dI mixed S_ aM 10
abbrev yY:fZ:=4294967295#32
def qM (ls:List (List Int)) (j i:Nat):Int:=U (kO (kO yY (ls.take j).flatten) ((ls.getD j []).take i))
def Rh (ls:List (List Int)):Prop:=ls.length<=1000000/\∀ l∈ls,bm l/\Sm l
def BN:aH:=fun args kb K=>match args,kb with
 | [an (.sl 1 L)],[]=>∃ ls:List (List Int),L=ls.map ax/\Rh ls/\K (.int gq (dy ls.flatten)) []
 |_,_=>False
theorem aaA {i:Nat} (h:i<256):(mR 256)[i]? =some (η (.int gq (U (i_ 8 (BitVec.ofNat 32 i))))):=by
 unfold mR rj aK
 simp only[fG,List.getElem?_range h,Option.map_some,if_pos h]
 rfl
theorem Yd:aT Tryz.prog 78 BN:=eM RG mixed (fun args kb K h=>by
 unfold BN at h;split at h<;>try exact h.elim
 obtain⟨ls,rfl,hb,h⟩:=h
 have bX:=hb.1
 refine⟨Ka (mR 256) ls (qM ls) 78,acm (mR 256) ls (qM ls) K ⟨?_,?_⟩⟩
 ·simp only[cg]
  exact At.mk' ⟨0,bF _⟩ rfl
 rintro⟨j,hj⟩
 simp only[pE]at hj ⊢
 refine⟨fun hc=>?_,fun hc=>?_⟩
 ·simp only[decide_eq_true_eq]at hc
  have e2:((j:Nat):Int).toNat=j:=by omega
  have hq:ls[j]? =some ls[j]:=bx (by omega)
  have hg:ls.getD j []=ls[j]:=by rw[kn,hq];rfl
  have j5:aQ (j:Int):=by unfold aQ;omega
  refine⟨j5,ax ls[j],by rw[e2,fG,hq];rfl,ints θ ls[j],rfl,?_,?_⟩
  ·rw[be,<- hg]
   exact At.mk' (⟨0,bF _⟩:{i:Nat // pE (ls.getD j []).length i}) rfl
  rintro⟨i,hi⟩
  simp only[pE]at hi ⊢
  refine⟨fun gM=>?_,fun gM=>?_⟩
  ·simp only[decide_eq_true_eq]at gM
   have e3:((i:Nat):Int).toNat=i:=by omega
   have hil:i<ls[j].length:=by rw[<- hg];omega
   have o9:(ls.getD j [])[i]? =some ls[j][i]:=by rw[hg];exact bx hil
   have hby:0<=ls[j][i]/\ls[j][i]<256:=(hb.2 ls[j] (List.getElem_mem _)).1 _ (List.getElem_mem _)
   have U7:aQ (i:Int):=by unfold aQ;omega
   have pd:ls[j].length<=1000000:=(hb.2 ls[j] (List.getElem_mem _)).2
   have w2:=bR (n:=(i:Int)+1) (by omega) (by omega)
   refine⟨U7,[η (.int θ ls[j][i])],by rw[e3,kw,o9];rfl,ls[j][i],rfl,?_⟩
   unfold qM
   rw[Td hby]
   have hlt:((kO (kO yY (ls.take j).flatten) ((ls.getD j []).take i) ^^^ BitVec.ofInt 32 ls[j][i]) &&& 255#32).toNat<256:=by rw[M0];omega
   refine⟨by unfold br;omega,_,by rw[dr,Nat.mul_one,aaA hlt],?_⟩
   rw[BitVec.ofNat_toNat,BitVec.setWidth_eq,Te hby,w2]
   refine Nx.mk' (⟨i+1,by show i+1<=(ls.getD j []).length;omega⟩:{i:Nat // pE (ls.getD j []).length i}) ?_ (by show(ls.getD j []).length - (i+1)<(ls.getD j []).length - i;omega)
   have ht:(ls.getD j []).take (i+1)=(ls.getD j []).take i++[ls[j][i]]:=by rw[jY,o9];rfl
   show _=(([ac 0 0,.int gq (U (kO (kO yY (ls.take j).flatten) ((ls.getD j []).take (i+1)))),_,_,_,_,_,_],_):List V×KB)
   rw[ht,Tb]
   rfl
  ·simp only[decide_eq_false_iff_not]at gM
   have hil:i=(ls.getD j []).length:=by omega
   subst hil
   have w2:=bR (n:=(j:Int)+1) (by omega) (by omega)
   rw[w2]
   refine Nx.mk' (⟨j+1,by show j+1<=ls.length;omega⟩:{j:Nat // pE ls.length j}) ?_ (by show ls.length - (j+1)<ls.length - j;omega)
   have ht:(ls.take (j+1)).flatten=(ls.take j).flatten++ls.getD j []:=by rw[jY,hq,hg,List.flatten_append];simp
   have e:qM ls j (ls.getD j []).length=qM ls (j+1) 0:=by
    unfold qM
    rw[cN,ht,Ta];rfl
   rw[e];rfl
 ·simp only[decide_eq_false_iff_not]at hc
  have:j=ls.length:=by omega
  subst this
  have e:qM ls ls.length 0=U (kO yY ls.flatten):=by
   unfold qM;rw[cN,List.take_zero];rfl
  rw[e,RE]
  exact h)
def Au:FuncId->Option dw
 | 78=>some ⟨[.fp 1],BN⟩
 | 12=>some ⟨[.fp 1,.fp 1],xB⟩
 | 95=>some ⟨[.fp 1,.fp 1],xB⟩
 | 55=>some ⟨[.fp 1],Rz⟩
 | 20=>some ⟨[],xw⟩
 |_=>none
noncomputable def XS:bM:=dF Tryz.prog Au aM 10
def xC:aH:=fun args kb K=>match args,kb with
 | [an (.sl 1 A)],[]=>∃ l:List Int,A=ints θ l/\bm l/\l.length<=900000/\K (.sl 0 0 (l.length+4)) [ζ 5 1 (ints θ (bT l))]
 |_,_=>False
def xt:aH:=fun args kb K=>match args,kb with
 | [an (.sl 1 A)],[]=>∃ l:List Int,A=ints θ l/\bm l/\l.length<=900000/\(em l=none->K (.υ [γ (.slice none 0 0),ξ false]) [])/\
  ∀ m,em l=some m->(m=[]->K (.υ [γ (.slice none 0 0),ξ true]) [])/\K (.υ [.sl 0 0 m.length,ξ true]) [ζ 5 1 (ints θ m)]
 |_,_=>False
def Af:FuncId->Option dw
 | 67=>some ⟨[.fp 1],xC⟩
 |f=>Au f
noncomputable def XO:bM:=dF Tryz.prog Af aM 10
theorem ab3 (l:List Int) (K:V->KB->Prop) (ay:
 (decide (Z.wrap ((↑(ints θ l).length:Int) - 4)<0)=true->K (ar [γ (eI none 0 0),ξ false]) [])/\
 (decide (Z.wrap ((↑(ints θ l).length:Int) - 4)<0)=false->
 True/\
 aQ (Z.wrap ((↑(ints θ l).length:Int) - 4))/\
 0<=(Z.wrap ((↑(ints θ l).length:Int) - 4)).toNat/\
 (Z.wrap ((↑(ints θ l).length:Int) - 4)).toNat<=(ints θ l).length/\
 ∃(l_1:List Int),
 ν 0 (ah (Z.wrap ((↑(ints θ l).length:Int) - 4)).toNat (ints θ l))=ints θ l_1/\
 (∀(c:Int),ct c l_1->0<=c/\c<256)/\
 l_1.length<=900000/\
 (l_1.length+4<=(ints θ (bT l_1)).length/\True/\True)/\
 ∃(a:List Int),
 ∃(b:List Int),
 ν 0 (ah (l_1.length+4) (ints θ (bT l_1)))=ints θ a/\
 ints θ l=ints θ b/\
 a.length.le 1000000/\
 True/\
 ((!decide (a=b))=true->K (ar [γ (eI none 0 0),ξ false]) [])/\
 ((!decide (a=b))=false->
 True/\
 aQ (Z.wrap ((↑(ints θ l).length:Int) - 4))/\
 0<=(Z.wrap ((↑(ints θ l).length:Int) - 4)).toNat/\
 (Z.wrap ((↑(ints θ l).length:Int) - 4)).toNat<=(ints θ l).length/\
 (ν 0 (ah (Z.wrap ((↑(ints θ l).length:Int) - 4)).toNat (ints θ l))).length<=140737488355328/\
 (ν 0 (ah (Z.wrap ((↑(ints θ l).length:Int) - 4)).toNat (ints θ l))=[]->K (ar [γ (eI none 0 0),ξ true]) [])/\
 K (ar [ε 0 0 (ν 0 (ah (Z.wrap ((↑(ints θ l).length:Int) - 4)).toNat (ints θ l))).length,ξ true]) [ζ 5 1 (ν 0 (ah (Z.wrap ((↑(ints θ l).length:Int) - 4)).toNat (ints θ l)))]))
 ):aO Tryz.prog XO (aM 64) 64 [an (.sl 1 (ints θ l))] [] K:=by apply Eq.mp (a:=ay);kernel_rfl
theorem acf (A:List (List D)) (K:V->KB->Prop) (ay:
 (1<=1/\True)/\
 ∃(ls:List (List Int)),
 [[π 1 A]]=ι ax ls/\
 (ls.length<=1000000/\∀(l:List Int),ct l ls->(∀(c:Int),ct c l->0<=c/\c<256)/\l.length.le 1000000)/\
 True/\
 A.length<=140737488355328/\
 (A=[]->4<=4/\4*1<=140737488355328/\K (ε 0 0 4) [ζ 5 1 [[η (κ θ (θ.wrap (dy ls.flatten)))],[η (κ θ (θ.wrap ((dy ls.flatten).fdiv 256)))],[η (κ θ (θ.wrap ((dy ls.flatten).fdiv 65536)))],[η (κ θ (θ.wrap ((dy ls.flatten).fdiv 16777216)))]]])/\
 4<=4/\
 A.length<=A.length/\
 (A.length+4)*1<=140737488355328/\
 K (ε 0 0 (A.length+4)) [ζ 5 1 (ah A.length A++[[η (κ θ (θ.wrap (dy ls.flatten)))],[η (κ θ (θ.wrap ((dy ls.flatten).fdiv 256)))],[η (κ θ (θ.wrap ((dy ls.flatten).fdiv 65536)))],[η (κ θ (θ.wrap ((dy ls.flatten).fdiv 16777216)))]])]
 ):aO Tryz.prog XS (aM 67) 67 [an (.sl 1 A)] [] K:=by apply Eq.mp (a:=ay);kernel_rfl
theorem PX:dE Tryz.prog Au:=fun f k h=>by
 unfold Au at h
 split at h<;>first | (cases h;first | exact Yd | exact ac0 | exact F0 | exact Xb | exact NG | exact FZ) | cases h
theorem RZ:bW Tryz.prog XS:=dI mixed PX aM 10
theorem J_ {l:List Int}:([l]:List (List Int)).flatten=l:=by simp
theorem NT:aT Tryz.prog 67 xC:=eM RZ mixed (fun args kb K h=>by
 unfold xC at h;split at h<;>try exact h.elim
 obtain⟨l,rfl,hb,pd,h⟩:=h
 refine⟨aM 67,acf _ K ⟨⟨aE _,trivial⟩,[l],rfl,⟨Nat.le_of_ble_eq_true rfl,fun x hx=>?_⟩,trivial,by rw[be];omega,fun e=>⟨aE _,by omega,?_⟩,aE _,aE _,by rw[be];omega,?_⟩⟩
 ·cases hx with
  |head=>exact⟨hb,Nat.le_trans pd (by decide)⟩
  |tail _ hx=>cases hx
 ·cases l with
  |cons a l=>simp [ints]at e
  |nil=>exact h
 ·rw[J_,be,fI (by rw[be];omega)]
  have:ints θ (bT l)=ints θ l++ints θ (vE (dy l)):=by unfold bT;rw[po]
  rw[this]at h
  exact h)
theorem Pq:dE Tryz.prog Af:=fun f k h=>by
 unfold Af at h
 split at h
 ·cases h;exact NT
 ·exact PX _ _ h
theorem RX:bW Tryz.prog XO:=dI mixed Pq aM 10
theorem aaD {l:List Int} (h:4<=l.length) (hm:l.length<=900000):(Z.wrap ((l.length:Int) - 4)).toNat=l.length - 4/\aQ (Z.wrap ((l.length:Int) - 4)):=by
 rw[bR (by omega) (by omega)]
 unfold aQ
 omega
theorem bm.take {l:List Int} (h:bm l) (n:Nat):bm (l.take n):=fun c hc=>h c (List.mem_of_mem_take hc)
theorem dt (n:Nat) (l:List Int):ν 0 (ah n (ints θ l))=ints θ (l.take n):=by rw[gK,oq]
theorem NQ:aT Tryz.prog 64 xt:=eM RX mixed (fun args kb K h=>by
 unfold xt at h;split at h<;>try exact h.elim
 obtain⟨l,rfl,hb,pd,h1,h2⟩:=h
 refine⟨aM 64,ab3 l K ⟨fun hc=>?_,fun hc=>?_⟩⟩
 ·simp only[be,decide_eq_true_eq]at hc
  refine h1 ?_
  unfold em
  rw[if_neg]
  rintro⟨h4,_⟩
  rw[bR (by omega) (by omega)]at hc;omega
 ·simp only[be,decide_eq_false_iff_not]at hc ⊢
  have h4:4<=l.length:=by rw[bR (by omega) (by omega)]at hc;omega
  obtain⟨t1,t2⟩:=aaD h4 pd
  rw[t1]
  refine⟨trivial,t2,bF _,Nat.sub_le _ _,l.take (l.length - 4),dt _ _,bm.take hb _,by simp;omega,⟨?_,trivial,trivial⟩,bT (l.take (l.length - 4)),l,?_,rfl,?_,trivial,fun hx=>?_,fun hx=>?_⟩
  ·simp only[be,mO];exact aE _
  ·rw[dt,<- mO,cN]
  ·show(bT (l.take (l.length - 4))).length<=1000000
   rw[mO,cW];omega
  ·refine h1 ?_
   unfold em
   rw[if_neg]
   rintro⟨_,he⟩
   simp [he]at hx
  ·have ho:em l=some (l.take (l.length - 4)):=by
    unfold em
    rw[if_pos ⟨h4,by simpa using hx⟩]
   obtain⟨k1,k2⟩:=h2 _ ho
   simp only[dt,be]
   refine⟨trivial,t2,bF _,Nat.sub_le _ _,by rw[cW];omega,fun e=>k1 ?_,k2⟩
   have:=congrArg List.length e
   rw[be]at this
   exact List.length_eq_zero_iff.1 this)
def xZ:FuncId->Option dw
 | 64=>some ⟨[.fp 1],xt⟩
 |f=>Af f
theorem J4:dE Tryz.prog xZ:=fun f k h=>by
 unfold xZ at h
 split at h
 ·cases h;exact NQ
 ·exact Pq _ _ h
end Go.Proofs.YtfcjngcnifdmnaaGreat
set_option linter.unusedVariables false
set_option linter.unusedSimpArgs false
namespace Vc
open Go
open Go.IntKind renaming i64->Z,u8->θ,u32->gq
open List renaming map->ι,drop->ν,take->ah,length_append->bw,getElem?_eq_getElem->bx,getElem?_eq_some_iff->bU,length_map->cg,Mem->ct,take_length->cN,replicate->cQ,length_take->cW,append_assoc->dQ,getElem?_append_right->ef,getElem?_append_left->eH,mem_cons->eP,append_nil->fg,length_drop->fh,getElem?_map->fG,mem_map->fH,take_of_length_le->fI,getElem?_set_ne->fR,mem_cons_of_mem->fS,mem_append->gl,mem_of_getElem?->gm,getElem?_eq_none->gA,getElem?_set_self->gB,length_set->gC,range->gD,drop_zero->gK,mem_singleton->gY,flatten_cons->im,length_cons->io,mem_cons_self->iA,getElem?_take_of_lt->jj,length_nil->jk,nil_append->jm,getElem?_drop->jB,map_append->jC,take_add_one->jY,ext_getElem?->km,getD_eq_getElem?_getD->kn,length_singleton->ko,eq_nil_of_length_eq_zero->kG,mem_append_left->lR,mem_filter->lS
open Go.Value renaming int->κ,slice->eI,bool->fa,map->gr,oneCell'->kq
open Nat renaming le_refl->aE,zero_le->bF,beq->bZ,eq_of_beq_eq_true->cy,zero_add->cL,add_assoc->fT,lor->gE,lt_or_ge->iX,sub_zero->kp
open Option renaming some->bh,bind_eq_some_iff->jF,map->jZ
open Int renaming toNat_natCast->dr,le_refl->gp
open Bool renaming and_eq_true->kE
theorem zL {l m:List Int} (h:em l=some m):l=bT m:=by
 unfold em at h
 split at h
 ·rename_i hc
  cases h
  exact hc.2.symm
 ·cases h
def ux (k:Nat) (s t:List Int):Prop:=s.length=t.length/\s.take k=t.take k/\(s.drop k).drop 4=(t.drop k).drop 4
theorem ux.refl (k:Nat) (s:List Int):ux k s s:=⟨rfl,rfl,rfl⟩
theorem ux.set {k:Nat} {s t:List Int} (h:ux k s t) {i:Nat} (hi:i<4) (c:Int):ux k (s.set (k+i) c) t:=by
 obtain⟨h1,h2,h3⟩:=h
 refine⟨by simpa using h1,?_,?_⟩
 ·rw[List.take_set_of_le (by omega)];exact h2
 ·rw[<- h3]
  apply km
  intro j
  simp only[jB]
  rw[fR (by omega)]
theorem bm.set {s:List Int} (h:bm s) {i:Nat} {c:Int} (hc:0<=c/\c<256):bm (s.set i c):=fun d hd=>by
 rcases List.mem_or_eq_of_mem_set hd with hd | rfl
 ·exact h d hd
 ·exact hc
def ga:Nat->Nat->List Int
 | 0,n=>[(n:Int)]
 |k+1,n=>if n<128 then[(n:Int)]else((n % 128+128:Nat):Int)::ga k (n / 128)
def aU (n:Int):List Int:=ga 8 n.toNat
def bY (b:List Int):List Int:=aU b.length++b
structure e_ (z:Int):Prop where
 h:z<=9223372036854775807
inductive xd where
 |got (v n:Nat)
 |short
 |form
def iy:Nat->Nat->List Int->xd
 |i,_,[]=>if i<9 then .short else .form
 |i,v,c::r=>if i=9∨(c=0/\0<i)then .form else if 128<=c then iy (i+1) (v+(c.toNat % 128)*128 ^ i) r else .got (v+c.toNat*128 ^ i) (i+1)
def ak (l:List Int) (e most:Int):Int×Nat×Int:=
 if e=0 then(match iy 0 0 l with
  | .got v n=>if most<(v:Int)then(0,0,5)else((v:Int),n,0)
  | .short=>(0,0,2)
  | .form=>(0,0,3))else(0,0,e)
def bp (l:List Int) (e most:Int):List Int×Nat×Int:=
 if(ak l e most).2.2=0 then
  (if((l.drop (ak l e most).2.1).length:Int)<(ak l e most).1 then([],(ak l e most).2.1,2)
   else((l.drop (ak l e most).2.1).take (ak l e most).1.toNat,(ak l e most).2.1+(ak l e most).1.toNat,0))
 else([],(ak l e most).2.1,(ak l e most).2.2)
def fe (l:List Int) (e:Int):Int:=if l≠[]/\e=0 then 3 else e
theorem WG:∀(k n:Nat),1<=(ga k n).length
 | 0,n=>by simp [ga]
 |k+1,n=>by unfold ga;split<;>simp
theorem Nu:∀(k n:Nat),(ga k n).length<=k+1
 | 0,n=>by simp [ga]
 |k+1,n=>by
  unfold ga;split
  ·simp
  ·simp;exact Nu k _
theorem Nt:∀(k n:Nat),n<128 ^ (k+1)->bm (ga k n)
 | 0,n,h=>fun c hc=>by simp [ga]at hc h;omega
 |k+1,n,h=>fun c hc=>by
  unfold ga at hc
  split at hc
  ·simp at hc;omega
  ·rcases eP.1 hc with rfl | hc
   ·have:=Nat.mod_lt n (show 128 > 0 by decide);omega
   ·exact Nt k _ (by rw[Nat.div_lt_iff_lt_mul (by decide),<- Nat.pow_succ];exact h) c hc
theorem iL (n:Int):1<=(aU n).length/\(aU n).length<=9:=⟨WG _ _,Nu _ _⟩
theorem nC {n:Int} (h:n<=9223372036854775807):bm (aU n):=Nt _ _ (by have:(128:Nat) ^ (8+1)=9223372036854775808:=rfl;omega)
theorem Nz (r:List Int):∀(k i v n:Nat),n<128 ^ (k+1)->i+k<=8->(n≠0∨i=0)->iy i v (ga k n++r)= .got (v+n*128 ^ i) (i+(ga k n).length)
 | 0,i,v,n,h,hi,hz=>by
  simp at h
  simp only[ga,List.cons_append,jm,iy,io,jk]
  rw[if_neg (by omega),if_neg (by omega)]
  simp
 |k+1,i,v,n,h,hi,hz=>by
  unfold ga
  split
  ·simp only[List.cons_append,jm,iy,io,jk]
   rw[if_neg (by omega),if_neg (by omega)]
   simp
  ·rename_i hn
   have hm:=Nat.mod_lt n (show 128 > 0 by decide)
   simp only[List.cons_append,iy,io]
   rw[if_neg (by omega),if_pos (by omega),Nz r k (i+1) _ (n / 128) (by rw[Nat.div_lt_iff_lt_mul (by decide),<- Nat.pow_succ];exact h) (by omega) (.inl (by omega))]
   have e1:(((n % 128+128:Nat):Int)).toNat % 128=n % 128:=by omega
   have e2:n*128 ^ i=n % 128*128 ^ i+n / 128*128 ^ (i+1):=by
    rw[Nat.pow_succ]
    have:=Nat.div_add_mod n 128
    calc n*128 ^ i=(128*(n / 128)+n % 128)*128 ^ i:=by rw[this]
     _=n % 128*128 ^ i+n / 128*(128 ^ i*128):=by rw[Nat.add_mul,Nat.add_comm,Nat.mul_comm 128 (n / 128),Nat.mul_assoc,Nat.mul_comm 128 (128 ^ i)]
   rw[e1,e2]
   congr 1
   ·omega
   ·omega
theorem WH {n:Int} (h0:0<=n) (h:n<=9223372036854775807) (r:List Int):iy 0 0 (aU n++r)= .got n.toNat (aU n).length:=by
 have:=Nz r 8 0 0 n.toNat (by have:(128:Nat) ^ (8+1)=9223372036854775808:=rfl;omega) (by omega) (.inr rfl)
 simpa [aU]using this
theorem Ny:∀(l:List Int) (i v w m:Nat),i<=9->bm l->iy i v l= .got w m->∃ n,i<=8/\w=v+n*128 ^ i/\n<128 ^ (9 - i)/\(0<i->n≠0)/\m=i+(ga (8 - i) n).length/\∃ r,l=ga (8 - i) n++r
 | [],i,v,w,m,hi,hb,h=>by unfold iy at h;split at h<;>cases h
 |c::r,i,v,w,m,hi,hb,h=>by
  have hc:=hb c iA
  unfold iy at h
  split at h
  ·cases h
  ·rename_i h1
   have LX:i<=8:=by omega
   split at h
   ·rename_i h2
    obtain⟨n,k1,k2,k3,k4,k5,r',k6⟩:=Ny r (i+1) _ w m (by omega) (fun d hd=>hb d (fS _ hd)) h
    have hn0:n≠0:=k4 (by omega)
    have e0:8 - i=(8 - (i+1))+1:=by omega
    have e9:9 - i=(9 - (i+1))+1:=by omega
    have ec:c.toNat % 128=c.toNat - 128:=by omega
    have e1:ga (8 - i) (c.toNat - 128+128*n)=c::ga (8 - (i+1)) n:=by
     rw[e0]
     rw[ga.eq_2,if_neg (by omega)]
     have a1:(c.toNat - 128+128*n) % 128=c.toNat - 128:=by omega
     have a2:(c.toNat - 128+128*n) / 128=n:=by omega
     rw[a1,a2]
     congr 1
     omega
    refine⟨c.toNat - 128+128*n,LX,?_,?_,fun _=>by omega,?_,r',?_⟩
    ·rw[k2,ec,Nat.pow_succ,Nat.add_mul,Nat.mul_comm (128 ^ i) 128,<- Nat.mul_assoc,Nat.mul_comm n 128];omega
    ·rw[e9,Nat.pow_succ];omega
    ·rw[e1,k5,io];omega
    ·rw[e1,k6];rfl
   ·rename_i h2
    cases h
    have e1:ga (8 - i) c.toNat=[c]:=by
     have:((c.toNat:Nat):Int)=c:=by omega
     cases h8:8 - i with
     |zero=>rw[ga.eq_1,this]
     |succ k=>rw[ga.eq_2,if_pos (by omega),this]
    refine⟨c.toNat,LX,rfl,?_,fun _=>by omega,by rw[e1];rfl,r,by rw[e1];rfl⟩
    have:9 - i=(8 - i)+1:=by omega
    rw[this,Nat.pow_succ]
    have:0<128 ^ (8 - i):=Nat.pow_pos (by decide)
    omega
theorem zE {l:List Int} {w m:Nat} (hb:bm l) (h:iy 0 0 l= .got w m):(w:Int)<=9223372036854775807/\m=(aU w).length/\∃ r,l=aU w++r:=by
 obtain⟨n,_,h1,h2,_,h3,h4⟩:=Ny l 0 0 w m (by omega) hb h
 simp at h1
 subst h1
 have:(128:Nat) ^ (9 - 0)=9223372036854775808:=rfl
 have e:aU (w:Int)=ga (8 - 0) w:=by unfold aU;rw[dr]
 exact⟨by omega,by rw[e,h3,cL],by rw[e];exact h4⟩
theorem wc {l:List Int} (hb:bm l) (e most:Int):0<=(ak l e most).1/\(ak l e most).1<=9223372036854775807/\(ak l e most).2.1<=l.length:=by
 unfold ak
 split
 ·split
  ·rename_i v n h
   obtain⟨h1,h2,r,h3⟩:=zE hb h
   split
   ·simp
   ·refine⟨by simp,h1,?_⟩
    show n<=l.length
    rw[h2,h3,bw];omega
  ·simp
  ·simp
 ·simp
theorem Gk {n:Int} (h0:0<=n) (h:n<=9223372036854775807) {most:Int} (hm:n<=most) (r:List Int):ak (aU n++r) 0 most=(n,(aU n).length,0):=by
 unfold ak
 rw[if_pos rfl,WH h0 h]
 show(if most<((n.toNat:Nat):Int)then _ else _)=_
 rw[if_neg (by omega)]
 rw[Int.toNat_of_nonneg h0]
theorem OU {b:List Int} {most:Int} (hm:(b.length:Int)<=most) (h:(b.length:Int)<=9223372036854775807) (r:List Int):bp (bY b++r) 0 most=(b,(bY b).length,0):=by
 unfold bp bY
 rw[dQ,Gk (by omega) h hm]
 simp
 omega
theorem Ol {n:Nat}:θ.wrap (((BitVec.ofInt 8 (θ.wrap (n:Int)) ||| BitVec.ofInt 8 128).toNat:Nat):Int)=((n % 128+128:Nat):Int):=by
 have e:θ.wrap (n:Int)=((n % 256:Nat):Int):=by
  show(n:Int) % 2 ^ 8=_
  omega
 rw[e]
 have h:∀ k:Fin 256,θ.wrap (((BitVec.ofInt 8 ((k.1:Nat):Int) ||| BitVec.ofInt 8 128).toNat:Nat):Int)=((k.1 % 128+128:Nat):Int):=by decide+kernel
 have:=h ⟨n % 256,Nat.mod_lt _ (by decide)⟩
 simp only at this
 rw[this]
 omega
theorem Sb {n:Int} (h0:0<=n) (h:n<256):θ.wrap (((BitVec.ofInt 8 n &&& BitVec.ofInt 8 127).toNat:Nat):Int)=((n.toNat % 128:Nat):Int):=by
 have h:∀ k:Fin 256,θ.wrap (((BitVec.ofInt 8 ((k.1:Nat):Int) &&& BitVec.ofInt 8 127).toNat:Nat):Int)=((k.1 % 128:Nat):Int):=by decide+kernel
 have:=h ⟨n.toNat,by omega⟩
 simp only at this
 rw[Int.toNat_of_nonneg h0]at this
 exact this
theorem Gg (i:Nat):(128:Nat) ^ i=2 ^ (7*i):=by rw[Nat.pow_mul]
theorem YU {i:Nat} (h:i<=8):(128:Nat) ^ i<=72057594037927936:=by
 have:=Nat.pow_le_pow_right (n:=128) (by decide) h
 exact Nat.le_trans this (by decide)
theorem NA {v m i:Nat} (hv:v<128 ^ i) (hm:m<128) (hi:i<=8):
  Z.wrap (((BitVec.ofInt 64 (v:Int) ||| BitVec.ofInt 64 (lJ Z (m:Int) (((7*i:Nat)):Int))).toNat:Nat):Int)=((v+m*128 ^ i:Nat):Int):=by
 have hp:=YU hi
 have hmul:m*128 ^ i<=127*72057594037927936:=Nat.mul_le_mul (by omega) hp
 have e1:lJ Z (m:Int) (((7*i:Nat)):Int)=((m*128 ^ i:Nat):Int):=by
  unfold lJ
  rw[dr,show min (7*i) Z.bits=7*i from Nat.min_eq_left (by show 7*i<=64;omega)]
  rw[show(m:Int)*2 ^ (7*i)=((m*128 ^ i:Nat):Int) by rw[Gg];simp]
  exact bR (by omega) (by omega)
 rw[e1]
 have e2:(BitVec.ofInt 64 (v:Int) ||| BitVec.ofInt 64 ((m*128 ^ i:Nat):Int)).toNat=v+m*128 ^ i:=by
  rw[BitVec.toNat_or,BitVec.toNat_ofInt,BitVec.toNat_ofInt]
  have a1:((v:Int) % ((2 ^ 64:Nat):Int)).toNat=v:=by
   have:((2 ^ 64:Nat):Int)=18446744073709551616:=rfl
   rw[this];omega
  have a2:(((m*128 ^ i:Nat):Int) % ((2 ^ 64:Nat):Int)).toNat=m*128 ^ i:=by
   have:((2 ^ 64:Nat):Int)=18446744073709551616:=rfl
   rw[this];omega
  rw[a1,a2]
  have:=Nat.shiftLeft_add_eq_or_of_lt (i:=7*i) (b:=v) (by rw[<- Gg];exact hv) m
  rw[Nat.shiftLeft_eq,<- Gg]at this
  rw[Nat.or_comm,<- this,Nat.add_comm]
 rw[e2]
 have:v<72057594037927936:=Nat.lt_of_lt_of_le hv hp
 exact bR (by omega) (by omega)
theorem pQ (b:List Int):1<=(bY b).length/\(bY b).length<=b.length+9:=by
 have:=iL b.length
 unfold bY
 rw[bw]
 omega
theorem Ay {b:List Int} (h:bm b) (hl:(b.length:Int)<=9223372036854775807):bm (bY b):=fun c hc=>by
 unfold bY at hc
 rcases gl.1 hc with hc | hc
 ·exact nC hl c hc
 ·exact h c hc
end Vc
namespace Go.Proofs.YtfcjngcnifdmnaaGreat
open Vc Go
open Go.IntKind renaming i64->Z,u8->θ,u32->gq
open Vc.V renaming any->γ,int->δ,sl->ε,sb->ξ,ptr->ac,dat->an,υ->ar,ae->aG,mp->aV,arr->bc,agg->cF
open Vc.KO renaming row->ζ,dead->ο,cells->ω,objs->bE
open Vc.D renaming val->η,sl->π
open List renaming map->ι,drop->ν,take->ah,length_append->bw,getElem?_eq_getElem->bx,getElem?_eq_some_iff->bU,length_map->cg,Mem->ct,take_length->cN,replicate->cQ,length_take->cW,append_assoc->dQ,getElem?_append_right->ef,getElem?_append_left->eH,mem_cons->eP,append_nil->fg,length_drop->fh,getElem?_map->fG,mem_map->fH,take_of_length_le->fI,getElem?_set_ne->fR,mem_cons_of_mem->fS,mem_append->gl,mem_of_getElem?->gm,getElem?_eq_none->gA,getElem?_set_self->gB,length_set->gC,range->gD,drop_zero->gK,mem_singleton->gY,flatten_cons->im,length_cons->io,mem_cons_self->iA,getElem?_take_of_lt->jj,length_nil->jk,nil_append->jm,getElem?_drop->jB,map_append->jC,take_add_one->jY,ext_getElem?->km,getD_eq_getElem?_getD->kn,length_singleton->ko,eq_nil_of_length_eq_zero->kG,mem_append_left->lR,mem_filter->lS
open Go.Value renaming int->κ,slice->eI,bool->fa,map->gr,oneCell'->kq
open Nat renaming le_refl->aE,zero_le->bF,beq->bZ,eq_of_beq_eq_true->cy,zero_add->cL,add_assoc->fT,lor->gE,lt_or_ge->iX,sub_zero->kp
open Option renaming some->bh,bind_eq_some_iff->jF,map->jZ
open Int renaming toNat_natCast->dr,le_refl->gp
open Bool renaming and_eq_true->kE
set_option linter.unusedVariables false
set_option linter.unusedSimpArgs false
set_option maxRecDepth 100000
def sr (tot:List Int) (n:Nat) (p:List Int×Nat×Nat):Prop:=tot=p.1++ga p.2.1 p.2.2/\p.2.2<128 ^ (p.2.1+1)/\p.1.length+p.2.1<=n+8
abbrev AM (tot:List Int) (n:Nat):LI where
 α:={p:List Int×Nat×Nat // sr tot n p} ⊕ {p:List Int×Nat×Nat // sr tot n p}
 live:=[0,1]
 st p:=match p with
  | .inl p=>([ac 0 0,.int Z (p.1.2.2:Int)],[ω [.sl 1 0 p.1.1.length],ζ 5 1 (ints θ p.1.1)])
  | .inr p=>([ac 0 0,.int Z (p.1.2.2:Int)],[ω [.sl 2 0 p.1.1.length],ο,ζ 5 1 (ints θ p.1.1)])
 μ p:=match p with
  | .inl p=>p.1.2.1
  | .inr p=>p.1.2.1
 all:=fun Q=>(∀ a,Q (.inl a))/\∀ b,Q (.inr b)
 uQ:=fun Q h i=>match i with
  | .inl a=>h.1 a
  | .inr b=>h.2 b
def zC (l:List Int) (p:Nat×Nat):Prop:=p.1<=9/\p.1<=l.length/\iy 0 0 l=iy p.1 p.2 (l.drop p.1)/\p.2<128 ^ p.1
abbrev vN (l:List Int) (lo:Nat) (e:Int):LI where
 α:={p:Nat×Nat // zC (l.drop lo) p}
 live:=[0,2,3,9,10,11]
 st p:=([ac 0 0,.int Z (p.1.2:Int),.int Z (p.1.1:Int),.sl 1 lo l.length,.int Z ((l.length - lo:Nat):Int),.int Z (p.1.1:Int)],[ω [.sl 1 lo l.length,.int Z e],ζ 5 1 (ints θ l)])
 μ p:=l.length - lo - p.1.1
def wT (tot:List Int) (n:Nat):FuncId->Nat->Option LI
 | 36,1=>some (AM tot n)
 |_,_=>none
def Ns (l:List Int) (lo:Nat) (e:Int):FuncId->Nat->Option LI
 | 62,2=>some (vN l lo e)
 |_,_=>none
def Cr:FuncId->Option dw
 | 12=>some ⟨[.fp 1,.fp 1],xB⟩
 | 55=>some ⟨[.fp 1],Bq⟩
 | 20=>some ⟨[],xw⟩
 |_=>none
theorem acF (tot:List Int) (n:Nat) (z:Int) (a:List Int) (K:V->KB->Prop) (ay:
 At (AM tot n) ([ac 0 0,δ Z (if 0 > z then 0 else z)],[ω [ε 1 0 a.length],ζ 5 1 (ints θ a)])/\
 (∀(a:{p:List Int×Nat×Nat // sr tot n p }),
 (decide ((↑a.val.snd.snd:Int) ≥ 128)=true->
 1<=1/\
 a.val.fst.length<=(ints θ a.val.fst).length/\
 (a.val.fst.length+1)*1<=140737488355328/\
 Nx (AM tot n) (Sum.inl a) ([ac 0 0,δ Z ((↑a.val.snd.snd:Int).fdiv 128)],[ω [ε 2 0 (a.val.fst.length+1)],ο,ζ 5 1 (ah a.val.fst.length (ints θ a.val.fst)++[[η (κ θ (θ.wrap (↑(BitVec.ofInt 8 (θ.wrap (↑a.val.snd.snd:Int)) ||| BitVec.ofInt 8 128).toNat:Int)))]])]))/\
 (decide ((↑a.val.snd.snd:Int) ≥ 128)=false->1<=1/\a.val.fst.length<=(ints θ a.val.fst).length/\(a.val.fst.length+1)*1<=140737488355328/\K (ar []) [ω [ε 2 0 (a.val.fst.length+1)],ο,ζ 5 1 (ah a.val.fst.length (ints θ a.val.fst)++[[η (κ θ (θ.wrap (↑a.val.snd.snd:Int)))]])]))/\
 ∀(b:{p:List Int×Nat×Nat // sr tot n p }),
 (decide ((↑b.val.snd.snd:Int) ≥ 128)=true->
 1<=1/\
 b.val.fst.length<=(ints θ b.val.fst).length/\
 (b.val.fst.length+1)*1<=140737488355328/\
 Nx (AM tot n) (Sum.inr b) ([ac 0 0,δ Z ((↑b.val.snd.snd:Int).fdiv 128)],[ω [ε 2 0 (b.val.fst.length+1)],ο,ζ 5 1 (ah b.val.fst.length (ints θ b.val.fst)++[[η (κ θ (θ.wrap (↑(BitVec.ofInt 8 (θ.wrap (↑b.val.snd.snd:Int)) ||| BitVec.ofInt 8 128).toNat:Int)))]])]))/\
 (decide ((↑b.val.snd.snd:Int) ≥ 128)=false->1<=1/\b.val.fst.length<=(ints θ b.val.fst).length/\(b.val.fst.length+1)*1<=140737488355328/\K (ar []) [ω [ε 2 0 (b.val.fst.length+1)],ο,ζ 5 1 (ah b.val.fst.length (ints θ b.val.fst)++[[η (κ θ (θ.wrap (↑b.val.snd.snd:Int)))]])])
 ):aO Tryz.prog X0 (wT tot n 36) 36 [ac 0 0,.int Z z] [ω [.sl 1 0 a.length],ζ 5 1 (ints θ a)] (dh 2 K):=by apply Eq.mp (a:=ay);kernel_rfl
theorem abX (l:List Int) (lo:Nat) (e:Int) (K:V->KB->Prop) (ay:
 At (vN l lo e) ([ac 0 0,δ Z 0,δ Z 0,ε 1 lo l.length,δ Z (↑(l.length - lo):Int),δ Z 0],[ω [ε 1 lo l.length,δ Z e],ζ 5 1 (ints θ l)])/\
 ∀(i:{p:Nat×Nat // zC (ν lo l) p }),
 (decide ((↑i.val.fst:Int)<(↑(l.length - lo):Int))=true->
 br (↑i.val.fst:Int) (l.length - lo)/\
 ∃(e_1:List D),
 (ints θ l)[lo+(↑i.val.fst:Int).toNat]? =some e_1/\
 ∃(n:Int),
 e_1[0]? =some (η (κ θ n))/\
 (((↑i.val.fst:Int) == 9)=true->
 (((↑i.val.fst:Int) == (↑(l.length - lo):Int))=true->
 (decide ((↑i.val.fst:Int)<9)=true->((e == 0)=true->K (ar [δ Z 0,δ Z 0]) [ω [ε 1 lo l.length,δ Z 2],ζ 5 1 (ints θ l)])/\((e == 0)=false->K (ar [δ Z 0,δ Z 0]) [ω [ε 1 lo l.length,δ Z e],ζ 5 1 (ints θ l)]))/\
 (decide ((↑i.val.fst:Int)<9)=false->((e == 0)=true->K (ar [δ Z 0,δ Z 0]) [ω [ε 1 lo l.length,δ Z 3],ζ 5 1 (ints θ l)])/\((e == 0)=false->K (ar [δ Z 0,δ Z 0]) [ω [ε 1 lo l.length,δ Z e],ζ 5 1 (ints θ l)])))/\
 (((↑i.val.fst:Int) == (↑(l.length - lo):Int))=false->
 ((e == 0)=true->K (ar [δ Z 0,δ Z 0]) [ω [ε 1 lo l.length,δ Z 3],ζ 5 1 (ints θ l)])/\((e == 0)=false->K (ar [δ Z 0,δ Z 0]) [ω [ε 1 lo l.length,δ Z e],ζ 5 1 (ints θ l)])))/\
 (((↑i.val.fst:Int) == 9)=false->
 ((n == 0)=true->
 (decide ((↑i.val.fst:Int) > 0)=true->
 (((↑i.val.fst:Int) == (↑(l.length - lo):Int))=true->
 (decide ((↑i.val.fst:Int)<9)=true->((e == 0)=true->K (ar [δ Z 0,δ Z 0]) [ω [ε 1 lo l.length,δ Z 2],ζ 5 1 (ints θ l)])/\((e == 0)=false->K (ar [δ Z 0,δ Z 0]) [ω [ε 1 lo l.length,δ Z e],ζ 5 1 (ints θ l)]))/\
 (decide ((↑i.val.fst:Int)<9)=false->
 ((e == 0)=true->K (ar [δ Z 0,δ Z 0]) [ω [ε 1 lo l.length,δ Z 3],ζ 5 1 (ints θ l)])/\((e == 0)=false->K (ar [δ Z 0,δ Z 0]) [ω [ε 1 lo l.length,δ Z e],ζ 5 1 (ints θ l)])))/\
 (((↑i.val.fst:Int) == (↑(l.length - lo):Int))=false->
 ((e == 0)=true->K (ar [δ Z 0,δ Z 0]) [ω [ε 1 lo l.length,δ Z 3],ζ 5 1 (ints θ l)])/\((e == 0)=false->K (ar [δ Z 0,δ Z 0]) [ω [ε 1 lo l.length,δ Z e],ζ 5 1 (ints θ l)])))/\
 (decide ((↑i.val.fst:Int) > 0)=false->
 (decide (n ≥ 128)=true->
 (Z.wrap (7*(↑i.val.fst:Int))<0->False)/\
 Nx (vN l lo e) i
 ([ac 0 0,δ Z (Z.wrap (↑(BitVec.ofInt 64 (↑i.val.snd:Int) ||| BitVec.ofInt 64 (lJ Z (Z.wrap (θ.wrap (↑(BitVec.ofInt 8 n &&& BitVec.ofInt 8 127).toNat:Int))) (Z.wrap (7*(↑i.val.fst:Int))))).toNat:Int)),δ Z (Z.wrap ((↑i.val.fst:Int)+1)),ε 1 lo l.length,
 δ Z (↑(l.length - lo):Int),δ Z (Z.wrap ((↑i.val.fst:Int)+1))],
 [ω [ε 1 lo l.length,δ Z e],ζ 5 1 (ints θ l)]))/\
 (decide (n ≥ 128)=false->
 (Z.wrap (7*(↑i.val.fst:Int))<0->False)/\
 K (ar [δ Z (Z.wrap (↑(BitVec.ofInt 64 (↑i.val.snd:Int) ||| BitVec.ofInt 64 (lJ Z (Z.wrap n) (Z.wrap (7*(↑i.val.fst:Int))))).toNat:Int)),δ Z (Z.wrap ((↑i.val.fst:Int)+1))]) [ω [ε 1 lo l.length,δ Z e],ζ 5 1 (ints θ l)])))/\
 ((n == 0)=false->
 (decide (n ≥ 128)=true->
 (Z.wrap (7*(↑i.val.fst:Int))<0->False)/\
 Nx (vN l lo e) i
 ([ac 0 0,δ Z (Z.wrap (↑(BitVec.ofInt 64 (↑i.val.snd:Int) ||| BitVec.ofInt 64 (lJ Z (Z.wrap (θ.wrap (↑(BitVec.ofInt 8 n &&& BitVec.ofInt 8 127).toNat:Int))) (Z.wrap (7*(↑i.val.fst:Int))))).toNat:Int)),δ Z (Z.wrap ((↑i.val.fst:Int)+1)),ε 1 lo l.length,
 δ Z (↑(l.length - lo):Int),δ Z (Z.wrap ((↑i.val.fst:Int)+1))],
 [ω [ε 1 lo l.length,δ Z e],ζ 5 1 (ints θ l)]))/\
 (decide (n ≥ 128)=false->
 (Z.wrap (7*(↑i.val.fst:Int))<0->False)/\
 K (ar [δ Z (Z.wrap (↑(BitVec.ofInt 64 (↑i.val.snd:Int) ||| BitVec.ofInt 64 (lJ Z (Z.wrap n) (Z.wrap (7*(↑i.val.fst:Int))))).toNat:Int)),δ Z (Z.wrap ((↑i.val.fst:Int)+1))]) [ω [ε 1 lo l.length,δ Z e],ζ 5 1 (ints θ l)]))))/\
 (decide ((↑i.val.fst:Int)<(↑(l.length - lo):Int))=false->
 (((↑i.val.fst:Int) == (↑(l.length - lo):Int))=true->
 (decide ((↑i.val.fst:Int)<9)=true->((e == 0)=true->K (ar [δ Z 0,δ Z 0]) [ω [ε 1 lo l.length,δ Z 2],ζ 5 1 (ints θ l)])/\((e == 0)=false->K (ar [δ Z 0,δ Z 0]) [ω [ε 1 lo l.length,δ Z e],ζ 5 1 (ints θ l)]))/\
 (decide ((↑i.val.fst:Int)<9)=false->((e == 0)=true->K (ar [δ Z 0,δ Z 0]) [ω [ε 1 lo l.length,δ Z 3],ζ 5 1 (ints θ l)])/\((e == 0)=false->K (ar [δ Z 0,δ Z 0]) [ω [ε 1 lo l.length,δ Z e],ζ 5 1 (ints θ l)])))/\
 (((↑i.val.fst:Int) == (↑(l.length - lo):Int))=false->((e == 0)=true->K (ar [δ Z 0,δ Z 0]) [ω [ε 1 lo l.length,δ Z 3],ζ 5 1 (ints θ l)])/\((e == 0)=false->K (ar [δ Z 0,δ Z 0]) [ω [ε 1 lo l.length,δ Z e],ζ 5 1 (ints θ l)])))
 ):aO Tryz.prog X0 (Ns l lo e 62) 62 [ac 0 0] [ω [.sl 1 lo l.length,.int Z e],ζ 5 1 (ints θ l)] K:=by apply Eq.mp (a:=ay);kernel_rfl
theorem w8 {n:Int} (h1:0<=n) (h2:n<256):θ.wrap n=n:=IntWalk.u8_in n (by omega)
theorem Al {a:List Int} {n:Int}:ah a.length (ints θ a)++[[η (.int θ n)]]=ints θ (a++[n]):=by
 rw[oq,cN,po];rfl
theorem QP {tot:List Int} {n:Nat} {p:List Int×Nat×Nat} (h:sr tot n p) (hc:128<=p.2.2):
  ∃ q:List Int×Nat×Nat,sr tot n q/\q.2.1<p.2.1/\q.1=p.1++[((p.2.2 % 128+128:Nat):Int)]/\q.2.2=p.2.2 / 128:=by
 obtain⟨o,k,m⟩:=p
 obtain⟨h1,h2,h3⟩:=h
 simp only at h1 h2 h3 hc
 cases k with
 |zero=>simp at h2;omega
 |succ k=>
  rw[ga.eq_2,if_neg (by omega)]at h1
  refine⟨(o++[((m % 128+128:Nat):Int)],k,m / 128),⟨by simp only;rw[h1,dQ];rfl,?_,by simp only[bw,io,jk];omega⟩,by simp only;omega,rfl,rfl⟩
  simp only
  rw[Nat.div_lt_iff_lt_mul (by decide),<- Nat.pow_succ];exact h2
theorem AN {tot:List Int} {n:Nat} {p:List Int×Nat×Nat} (h:sr tot n p) (hc:p.2.2<128):tot=p.1++[(p.2.2:Int)]:=by
 obtain⟨o,k,m⟩:=p
 obtain⟨h1,h2,h3⟩:=h
 simp only at h1 hc
 cases k with
 |zero=>rw[h1,ga.eq_1]
 |succ k=>rw[h1,ga.eq_2,if_pos hc]
theorem Wj {z:Int} (h:z<=9223372036854775807):z.toNat<128 ^ (8+1):=by
 have:(128:Nat) ^ (8+1)=9223372036854775808:=rfl
 omega
def BS:aH:=fun args kb K=>match args,kb with
 | [ac 0 0,.int Z z],[ω [.sl 1 0 h],ζ 5 1 A]=>∃ a:List Int,A=ints θ a/\h=a.length/\a.length<=10000000/\e_ z/\
  K (.υ []) [ω [.sl 2 0 (a++aU z).length],ο,ζ 5 1 (ints θ (a++aU z))]
 |_,_=>False
theorem Yo:aT Tryz.prog 36 BS:=jP f_ mixed (fun args kb K h=>by
 unfold BS at h;split at h<;>try exact h.elim
 rename_i z _ _
 obtain⟨a,rfl,rfl,hl,⟨hz⟩,h⟩:=h
 have e0:(if 0 > z then 0 else z)=((z.toNat:Nat):Int):=by split<;>omega
 refine⟨wT (a++aU z) a.length 36,acF (a++aU z) a.length z a K ⟨?_,?_,?_⟩⟩
 ·rw[e0]
  exact At.mk' (.inl ⟨(a,8,z.toNat),rfl,Wj hz,aE _⟩) rfl
 ·rintro⟨p,hp⟩
  have hb:=hp.2.2
  simp only[be,Ol]
  refine⟨fun hc=>⟨by omega,by omega,by omega,?_⟩,fun hc=>⟨by omega,by omega,by omega,?_⟩⟩
  ·simp only[decide_eq_true_eq]at hc
   obtain⟨q,h1,h2,h3,h4⟩:=QP hp (by omega)
   have e1:(p.2.2:Int).fdiv 128=((q.2.2:Nat):Int):=by rw[h4,Int.fdiv_eq_ediv_of_nonneg _ (by omega)];omega
   rw[e1,Al,<- h3,show p.1.length+1=q.1.length by rw[h3];simp]
   exact Nx.mk' (.inr ⟨q,h1⟩) rfl h2
  ·simp only[decide_eq_false_iff_not]at hc
   rw[w8 (by omega) (by omega),Al,<- AN hp (by omega),show p.1.length+1=(a++aU z).length by rw[AN hp (by omega)];simp]
   exact h
 ·rintro⟨p,hp⟩
  have hb:=hp.2.2
  simp only[be,Ol]
  refine⟨fun hc=>⟨by omega,by omega,by omega,?_⟩,fun hc=>⟨by omega,by omega,by omega,?_⟩⟩
  ·simp only[decide_eq_true_eq]at hc
   obtain⟨q,h1,h2,h3,h4⟩:=QP hp (by omega)
   have e1:(p.2.2:Int).fdiv 128=((q.2.2:Nat):Int):=by rw[h4,Int.fdiv_eq_ediv_of_nonneg _ (by omega)];omega
   rw[e1,Al,<- h3,show p.1.length+1=q.1.length by rw[h3];simp]
   exact Nx.mk' (.inr ⟨q,h1⟩) rfl h2
  ·simp only[decide_eq_false_iff_not]at hc
   rw[w8 (by omega) (by omega),Al,<- AN hp (by omega),show p.1.length+1=(a++aU z).length by rw[AN hp (by omega)];simp]
   exact h)
def BD:aH:=fun args kb K=>match args,kb with
 | [ac 0 0],[ω [.sl 1 lo h,.int Z e],ζ 5 1 A]=>∃ l:List Int,A=ints θ l/\h=l.length/\lo<=l.length/\bm l/\l.length<=140737488355328/\e=0/\
  (∀ v n,iy 0 0 (l.drop lo)= .got v n->K (.υ [.int Z (v:Int),.int Z (n:Int)]) [ω [.sl 1 lo l.length,.int Z 0],ζ 5 1 (ints θ l)])/\
  (iy 0 0 (l.drop lo)= .short->K (.υ [.int Z 0,.int Z 0]) [ω [.sl 1 lo l.length,.int Z 2],ζ 5 1 (ints θ l)])/\
  (iy 0 0 (l.drop lo)= .form->K (.υ [.int Z 0,.int Z 0]) [ω [.sl 1 lo l.length,.int Z 3],ζ 5 1 (ints θ l)])
 |_,_=>False
theorem Wv {i:Nat} (h:i<=9):Z.wrap (7*(i:Int))=((7*i:Nat):Int):=by
 rw[bR (by omega) (by omega)];omega
theorem XE:aT Tryz.prog 62 BD:=eM f_ mixed (fun args kb K h=>by
  unfold BD at h;split at h<;>try exact h.elim
  rename_i lo _ _ _
  obtain⟨l,rfl,rfl,hlo,hb,hl,rfl,hg,hs,hf⟩:=h
  refine⟨Ns l lo 0 62,abX l lo 0 K ⟨At.mk' ⟨(0,0),by omega,bF _,by rw[gK],by decide⟩ rfl,?_⟩⟩
  rintro⟨⟨i,v⟩,hh⟩
  obtain⟨h9,hi,hn,hv⟩:=hh
  have hh:zC (l.drop lo) (i,v):=⟨h9,hi,hn,hv⟩
  simp only[fh]at h9 hi hn hv ⊢
  refine⟨fun hc=>?_,fun hc=>?_⟩
  ·simp only[decide_eq_true_eq]at hc
   have hil:i<l.length - lo:=by omega
   have hel:l[lo+i]? =some l[lo+i]:=bx (by omega)
   have LO:(l.drop lo).drop i=l[lo+i]::(l.drop lo).drop (i+1):=by
    rw[List.drop_drop,List.drop_drop,show lo+(i+1)=lo+i+1 by omega]
    exact List.drop_eq_getElem_cons (by omega)
   have hbd:=hb l[lo+i] (List.getElem_mem _)
   rw[LO]at hn
   generalize l[lo+i]=c at hel hn hbd LO
   rw[iy.eq_2]at hn
   have ff:(i=9∨(c=0/\0<i))->iy 0 0 (l.drop lo)= .form:=fun h=>by rw[hn,if_pos h]
   refine⟨by unfold br;omega,[η (.int θ c)],by rw[dr,kw,hel];rfl,c,rfl,fun hx=>?_,fun hx=>?_⟩
   ·simp only[beq_iff_eq]at hx
    have:=ff (.inl (by omega))
    refine⟨fun hy=>?_,fun hy=>⟨fun _=>hf this,fun h=>by simp at h⟩⟩
    simp only[beq_iff_eq]at hy
    omega
   ·simp only[beq_eq_false_iff_ne,ne_eq]at hx
    have LY:i<=8:=by omega
    have go:¬ (c=0/\0<i)->((decide (c ≥ 128)=true->
 (Z.wrap (7*(i:Int))<0->False)/\
 Nx (vN l lo 0) ⟨(i,v),hh⟩
 ([ac 0 0,δ Z (Z.wrap ((BitVec.ofInt 64 (v:Int) ||| BitVec.ofInt 64 (lJ Z (Z.wrap (θ.wrap ((BitVec.ofInt 8 c &&& BitVec.ofInt 8 127).toNat:Int))) (Z.wrap (7*(i:Int))))).toNat:Int)),δ Z (Z.wrap ((i:Int)+1)),ε 1 lo l.length,
 δ Z ((l.length - lo:Nat):Int),δ Z (Z.wrap ((i:Int)+1))],
 [ω [ε 1 lo l.length,δ Z 0],ζ 5 1 (ints θ l)]))/\
 (decide (c ≥ 128)=false->
 (Z.wrap (7*(i:Int))<0->False)/\
 K (ar [δ Z (Z.wrap ((BitVec.ofInt 64 (v:Int) ||| BitVec.ofInt 64 (lJ Z (Z.wrap c) (Z.wrap (7*(i:Int))))).toNat:Int)),δ Z (Z.wrap ((i:Int)+1))]) [ω [ε 1 lo l.length,δ Z 0],ζ 5 1 (ints θ l)])):=by
     intro hz
     rw[if_neg (by omega)]at hn
     rw[Wv (by omega),Sb hbd.1 hbd.2]
     have hm:=Nat.mod_lt c.toNat (show 128 > 0 by decide)
     refine⟨fun h=>⟨fun f=>by omega,?_⟩,fun h=>⟨fun f=>by omega,?_⟩⟩
     ·simp only[decide_eq_true_eq]at h
      rw[if_pos (by omega)]at hn
      rw[bR (n:=((c.toNat % 128:Nat):Int)) (by omega) (by omega),NA hv hm LY,bR (n:=(i:Int)+1) (by omega) (by omega)]
      refine Nx.mk' (⟨(i+1,v+c.toNat % 128*128 ^ i),by simp only;omega,by simp only[fh];omega,hn,?_⟩:{p // zC (l.drop lo) p}) rfl (by show l.length - lo - (i+1)<l.length - lo - i;omega)
      simp only
      rw[Nat.pow_succ]
      have:c.toNat % 128*128 ^ i<=127*128 ^ i:=Nat.mul_le_mul_right _ (by omega)
      omega
     ·simp only[decide_eq_false_iff_not]at h
      rw[if_neg (by omega)]at hn
      have ec:c=((c.toNat:Nat):Int):=by omega
      have:=hg _ _ hn
      rw[bR (n:=c) (by omega) (by omega),bR (n:=(i:Int)+1) (by omega) (by omega)]
      rw[show lJ Z c ((7*i:Nat):Int)=lJ Z ((c.toNat:Nat):Int) ((7*i:Nat):Int) by rw[<- ec],NA hv (by omega) LY]
      exact this
    refine⟨fun h0=>⟨fun h1=>?_,fun h1=>?_⟩,fun h0=>?_⟩
    ·simp only[beq_iff_eq]at h0
     simp only[decide_eq_true_eq]at h1
     have:=ff (.inr ⟨h0,by omega⟩)
     refine⟨fun hy=>?_,fun hy=>⟨fun _=>hf this,fun h=>by simp at h⟩⟩
     simp only[beq_iff_eq]at hy
     omega
    ·simp only[decide_eq_false_iff_not]at h1
     exact go (fun h=>h1 (by omega))
    ·simp only[beq_eq_false_iff_ne,ne_eq]at h0
     exact go (fun h=>h0 h.1)
  ·simp only[decide_eq_false_iff_not]at hc
   have:i=l.length - lo:=by omega
   rw[show ν i (l.drop lo)=[]from List.drop_eq_nil_of_le (by rw[fh];omega),iy.eq_1]at hn
   refine⟨fun hy=>⟨fun h=>⟨fun _=>hs ?_,fun h=>by simp at h⟩,fun h=>⟨fun _=>hf ?_,fun h=>by simp at h⟩⟩,fun hy=>?_⟩
   ·simp only[decide_eq_true_eq]at h
    rw[hn,if_pos (by omega)]
   ·simp only[decide_eq_false_iff_not]at h
    rw[hn,if_neg (by omega)]
   ·simp only[beq_eq_false_iff_ne,ne_eq]at hy
    omega)
end Go.Proofs.YtfcjngcnifdmnaaGreat
