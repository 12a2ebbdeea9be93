import Derived.Test.YtfcjngcnifdmnaaGreatQb
import Derived.Deep.LoopGhost
import Derived.Scope
import Derived.RangeFuncIn
import Derived.RangeFuncSeq
import Derived.OrdersIn
import Derived.TacticsIn
import Derived.Below
import Derived.ProofKit
import Derived.OpenShut
import Derived.Carry
import Derived.IntWalk
import Derived.Test.YtfcjngcnifdmnaaGreatRows
import Derived.KernelRfl
set_option linter.unusedSimpArgs false
set_option linter.unusedVariables false
namespace Vc
open Go
open Go.IntKind renaming i64->Z,u8->ι,u32->ic
open Go.Value renaming int->ν,map->kq,oneCell'->lU,bool->nE
open List renaming map->φ,drop->ay,take->az,length_append->bn,getElem?_eq_getElem->bp,getElem?_eq_some_iff->bG,length_map->bX,take_length->cM,length_take->cQ,replicate->dq,mem_append->dM,append_assoc->dO,getElem?_append_left->dP,mem_singleton->dQ,Mem->dS,mem_cons->ey,mem_map->eL,take_of_length_le->eM,getElem?_append_right->eW,mem_of_getElem?->fi,append_nil->fD,getElem?_map->fE,mem_cons_of_mem->fM,length_drop->fQ,getElem?_set_ne->gr,getD_eq_getElem?_getD->gD,getElem?_eq_none->gO,drop_zero->g_,getElem?_take_of_lt->hU,getElem?_set_self->ig,length_singleton->ii,length_set->ir,mem_cons_self->iu,range->iw,mem_append_left->iL,length_cons->iZ,take_add_one->i_,flatten_cons->jm,getElem?_drop->jw,getElem?_of_mem->jx,map_append->jy,nil_append->jV,length_nil->kn,mem_filter->kM,ext_getElem?->lw,eq_nil_of_length_eq_zero->ma,map_cons->mb,mem_append_right->mc
open Nat renaming le_refl->av,zero_le->bt,beq->cp,eq_of_beq_eq_true->cU,zero_add->c9,add_assoc->gE,lor->iy,lt_or_ge->jX,sub_zero->lT,le_trans->mf
open Option renaming some->bb,bind_eq_some_iff->kP,map->mO
open Int renaming toNat_natCast->cP,le_refl->fa
open Bool renaming and_eq_true->km,not_eq_false'->lm,not_eq_true'->lR
inductive jz where
 |slot (k:Nat) (ty:TypeId) (sz:Nat)
 |cell (i off:Nat) (ty:TypeId) (sz:Nat)
 |br (k off:Nat) (ty:TypeId) (sz:Nat)
 |Tf (k:Nat) (sz:Nat)
 |Om (k off:Nat) (sz:Nat)
 |tF (i off:Nat) (sz:Nat)
 |mv (i off:Nat)
 |Qz (k:Nat)
 |q9 (k:Nat)
 |kill (i:Nat)
 |Qy (i off:Nat)
 |qf (i off:Nat)
 |oG (i off:Nat) (aA:List IntKind) (aS agg:Bool) (sz:Nat)
def jz.FD:jz->Bool
 | .q9 _=>true
 | .qf .. =>true
 | .oG .. =>true
 |_=>false
def Cw (n:Nat):V->Option (Nat×V)
 | .mp j=>some (j,.mp n)
 | .ptr j o=>some (j,.ptr n o)
 |_=>none
structure LI where
 α:Type
 live:List Nat
 dU:List jz:=[]
 st:α->List V×KB
 μ:α->Nat
 all:(α->Prop)->Prop:=fun Q=>∀ i,Q i
 xk:∀ Q,all Q->∀ i,Q i:=by exact fun _ h=>h
 sub:α->Nat->Option LI:=fun _ _=>none
 itl:Nat->Option LI:=fun _=>none
def C2 (li:LI) (i:li.α) (T:Nat->Option LI):Nat->Option LI:=fun r=>match li.sub i r with
 |some l=>some l
 |none=>T r
def o8:Code->Option Nat
 | .region id _ _=>some id
 | .seq a b=>match o8 a with | some i=>some i | none=>o8 b
 | .block _ b=>o8 b
 | .loop b=>o8 b
 | .scope b=>o8 b
 | .cond _ a b=>match o8 a with | some i=>some i | none=>o8 b
 |_=>none
def yc (fr:Fr):List Nat->Option (List V)
 | []=>some []
 |t::ts=>match look fr t with
  |some v=>match yc fr ts with | some vs=>some (v::vs) | none=>none
  |none=>none
def qe:List V->Option (List D)
 | []=>some []
 | .int k n::vs=>match qe vs with | some ds=>some (.val (.int k n)::ds) | none=>none
 | .lit k n::vs=>match qe vs with | some ds=>some (.val (.int k n)::ds) | none=>none
 | .sb b::vs=>match qe vs with | some ds=>some (.val (.bool b)::ds) | none=>none
 | .dat d::vs=>match qe vs with | some ds=>some (d::ds) | none=>none
 |_:: _=>none
theorem PF:∀{vs:List V} {ds:List D},qe vs=some ds->∀{σ:Sg} {E:EH} {xs:List Value},aT σ E vs xs->a_ E ds xs
 | [],ds,h,σ,E,xs,hd=>by
  simp only[qe,bb.injEq]at h
  subst h
  simp only[aT]at hd
  subst hd
  exact a_.nil
 |v::vs,ds,h,σ,E,xs,hd=>by
  obtain⟨ys,zs,rfl,h1,h2⟩:=hd.io
  cases v<;>simp only[qe,reduceCtorEq]at h
  all_goals
   split at h<;>try (cases h;done)
   rename_i ds' hds
   simp only[bb.injEq]at h
   subst h
   rcases h1 with ⟨y,rfl,h3,h4⟩ | ⟨m,cs,e,_,_⟩
   ·refine a_.cons ?_ (PF hds h2)
    simp only[Den]at h4
    first
    |exact h4
    | (subst h4;simp [bK,lU])
   ·cases e
theorem Inv.Ox {σ:Sg} {E:EH} {kb:KB} {W:World} (h:Inv σ E kb W) {i:Nat} {r:Re} {o:KO} (hs:σ[i]? =some r) (hk:kb[i]? =some o) (hw:∀ b,b=r.blk->owned r o b):
  ∃ E',Step σ E kb W σ E' (kb.set i .dead) W/\E' r.blk=W.heap[r.blk]?:=by
 have hi:i<kb.length:=(bG.1 hk).1
 let E':EH:=fun b=>if b=r.blk then W.heap[b]? else E b
 have hle:E.le E':=fun b x hb=>by
  show(if b=r.blk then W.heap[b]? else E b)=some x
  by_cases hc:b=r.blk
  ·have:=h.sep b ⟨i,r,_,hs,hk,hw b hc⟩
   rw[this]at hb;cases hb
  ·rw[if_neg hc];exact hb
 have da:∀(j:Nat) (x:KO),(kb.set i .dead)[j]? =some x->(j=i/\x= .dead)∨(j≠i/\kb[j]? =some x):=by
  intro j x hj
  by_cases hji:j=i
  ·subst hji
   rw[ig hi]at hj
   exact .inl ⟨rfl,(bb.inj hj).symm⟩
  ·rw[gr (Ne.symm hji)]at hj
   exact .inr ⟨hji,hj⟩
 have hown:∀ b,cq σ (kb.set i .dead) b->cq σ kb b/\¬ b=r.blk:=by
  rintro b ⟨j,r',x,h1,h2,h3⟩
  rcases da j x h2 with ⟨rfl,rfl⟩ | ⟨hji,h4⟩
  ·exact h3.elim
  ·exact⟨⟨j,r',x,h1,h4,h3⟩,fun hc=>h.dx i j r r' _ x b (Ne.symm hji) hs hk h1 h4 (hw b hc) h3⟩
 refine⟨E',⟨⟨by simp [h.len],fun j r' x h1 h2=>?_,fun a c r1 r2 o1 o2 b hac h1 h2 h3 h4 h5 h6=>?_,fun b x hb=>?_,fun b hb=>?_⟩,tu.refl _ W,⟨[],by simp⟩,hle,fun b hb=> .inl (hown b hb).1,fun b x hb=>?_⟩,?_⟩
 ·rcases da j x h2 with ⟨rfl,rfl⟩ | ⟨hji,h4⟩
  ·trivial
  ·have:=(h.obj j r' x h1 h4).mono (τ:=[]) (W':=W) hle (fun b hb=>rfl)
   simpa using this
 ·rcases da a o1 h2 with ⟨rfl,rfl⟩ | ⟨_,k2⟩
  ·exact h5.elim
  rcases da c o2 h4 with ⟨rfl,rfl⟩ | ⟨_,k4⟩
  ·exact h6.elim
  exact h.dx a c r1 r2 o1 o2 b hac h1 k2 h3 k4 h5 h6
 ·by_cases hc:b=r.blk
  ·simp only[E',if_pos hc]at hb;exact hb
  ·simp only[E',if_neg hc]at hb;exact h.dj b x hb
 ·obtain⟨h1,h2⟩:=hown b hb
  show(if b=r.blk then W.heap[b]? else E b)=none
  rw[if_neg h2]
  exact h.sep b h1
 ·by_cases hc:b=r.blk
  ·exact .inr (.inl ⟨i,r,_,hs,hk,hw b hc⟩)
  ·simp only[E',if_neg hc]at hb;exact .inl hb
 ·simp only[E',if_pos]
theorem Inv.Oy {σ:Sg} {E:EH} {kb:KB} {W:World} (h:Inv σ E kb W) {i:Nat} {r:Re} {l:List V} {ds:List D} (hs:σ[i]? =some r) (hk:kb[i]? =some (.cells l)) (hc:qe l=some ds):
  ∃ E',Step σ E kb W σ E' (kb.set i .dead) W/\di E' ds r.blk 0:=by
 obtain⟨E',hst,hE⟩:=h.Ox hs hk (fun b hb=>hb)
 obtain⟨arr,ty,k1,k2⟩:=h.obj i r _ hs hk
 refine⟨E',hst,((PF hc k2).mono hst.le).rep fun j x hj=>?_⟩
 rw[k1]at hE
 unfold EH.cell
 rw[hE]
 simpa using hj
theorem Inv.Ya {σ:Sg} {E:EH} {kb:KB} {W:World} (h:Inv σ E kb W) {i:Nat} {r:Re} {aA:List IntKind} {aS agg:Bool} {sz:Nat} {l:List (List Int×List D)} (hs:σ[i]? =some r) (hk:kb[i]? =some (.mp aA aS agg sz l)):
  ∃ E',Step σ E kb W σ E' (kb.set i .dead) W/\r7 E' aA aS agg sz (some r.blk) l:=by
 obtain⟨E',hst,hE⟩:=h.Ox hs hk (fun b hb=>hb)
 obtain⟨k0,es,ck,k1,k2,k3⟩:=h.obj i r _ hs hk
 rw[k1]at hE
 exact⟨E',hst,k0,es,ck,hE,k2.mono hst.le,k3⟩
def kT:jz->List V×KB->List V×KB
 | .slot k ty sz,(vs,kb)=>match vs[k]? with
  |some (.any (.slice none 0 0))=>(vs.set k (.sl kb.length 0 0),kb++[KO.row ty sz []])
  |_=>(vs,kb)
 | .cell i off ty sz,(vs,kb)=>match kb[i]? with
  |some (.cells l)=>match iX l off with
   |some (.any (.slice none 0 0))=>match jg l off [.sl kb.length 0 0]with
    |some l'=>(vs,(kb++[KO.row ty sz []]).set i (KO.cells l'))
    |none=>(vs,kb)
   |_=>(vs,kb)
  |_=>(vs,kb)
 | .br k off ty sz,(vs,kb)=>match vs[k]? with
  |some (.agg l)=>match iX l off with
   |some (.any (.slice none 0 0))=>match jg l off [.sl kb.length 0 0]with
    |some l'=>(vs.set k (.agg l'),kb++[KO.row ty sz []])
    |none=>(vs,kb)
   |_=>(vs,kb)
  |_=>(vs,kb)
 | .Tf k sz,(vs,kb)=>match vs[k]? with
  |some (.any (.slice none 0 0))=>(vs.set k (.dat (.sl sz [])),kb)
  |_=>(vs,kb)
 | .Om k off sz,(vs,kb)=>match vs[k]? with
  |some (.agg l)=>match iX l off with
   |some (.any (.slice none 0 0))=>match jg l off [.dat (.sl sz [])]with
    |some l'=>(vs.set k (.agg l'),kb)
    |none=>(vs,kb)
   |_=>(vs,kb)
  |_=>(vs,kb)
 | .tF i off sz,(vs,kb)=>match kb[i]? with
  |some (.cells l)=>match iX l off with
   |some (.any (.slice none 0 0))=>match jg l off [.dat (.sl sz [])]with
    |some l'=>(vs,kb.set i (KO.cells l'))
    |none=>(vs,kb)
   |_=>(vs,kb)
  |_=>(vs,kb)
 | .mv i off,(vs,kb)=>match kb[i]? with
  |some (.cells l)=>match iX l off with
   |some (.sl j lo hi)=>match kb[j]? with
    |some (.row ty sz L)=>match jg l off [.sl kb.length lo hi]with
     |some l'=>(vs,(kb.set j .dead++[KO.row ty sz L]).set i (KO.cells l'))
     |none=>(vs,kb)
    |_=>(vs,kb)
   |_=>(vs,kb)
  |_=>(vs,kb)
 | .Qz k,(vs,kb)=>match vs[k]? with
  |some (.sl j lo hi)=>match kb[j]? with
   |some (.row ty sz L)=>(vs.set k (.sl kb.length lo hi),kb.set j .dead++[KO.row ty sz L])
   |_=>(vs,kb)
  |_=>(vs,kb)
 | .q9 k,(vs,kb)=>match vs[k]? with
  |some (.ptr i 0)=>match kb[i]? with
   |some (.cells l)=>match qe l with
    |some ds=>(vs.set k (.dK ds 0),kb.set i .dead)
    |none=>(vs,kb)
   |_=>(vs,kb)
  |_=>(vs,kb)
 | .kill i,(vs,kb)=>match kb[i]? with
  |some _=>(vs,kb.set i .dead)
  |none=>(vs,kb)
 | .Qy i off,(vs,kb)=>match kb[i]? with
  |some (.cells l)=>match iX l off with
   |some v=>match Cw kb.length v with
    |some (j,u)=>match kb[j]? with
     |some o=>match jg l off [u]with
      |some l'=>if i=j then(vs,kb)else(vs,(kb.set j .dead++[o]).set i (KO.cells l'))
      |none=>(vs,kb)
     |none=>(vs,kb)
    |none=>(vs,kb)
   |none=>(vs,kb)
  |_=>(vs,kb)
 | .qf i off,(vs,kb)=>match kb[i]? with
  |some (.cells l)=>match iX l off with
   |some (.any (.pointer none))=>match jg l off [.aa none]with
    |some l'=>(vs,kb.set i (KO.cells l'))
    |none=>(vs,kb)
   |some (.ptr j 0)=>match kb[j]? with
    |some (.cells m)=>match qe m with
     |some ds=>match jg l off [.aa (some ds)]with
      |some l'=>if i=j then(vs,kb)else(vs,(kb.set j .dead).set i (KO.cells l'))
      |none=>(vs,kb)
     |none=>(vs,kb)
    |_=>(vs,kb)
   |_=>(vs,kb)
  |_=>(vs,kb)
 | .oG i off aA aS agg sz,(vs,kb)=>match kb[i]? with
  |some (.cells l)=>match iX l off with
   |some (.any (.map none))=>match jg l off [.imp aA aS agg sz []]with
    |some l'=>(vs,kb.set i (KO.cells l'))
    |none=>(vs,kb)
   |some (.mp j)=>match kb[j]? with
    |some (.mp aA aS agg sz m)=>match jg l off [.imp aA aS agg sz m]with
     |some l'=>if i=j then(vs,kb)else(vs,(kb.set j .dead).set i (KO.cells l'))
     |none=>(vs,kb)
    |_=>(vs,kb)
   |_=>(vs,kb)
  |_=>(vs,kb)
def pE:List jz->List V×KB->List V×KB
 | [],s=>s
 |d::ds,s=>pE ds (kT d s)
theorem Inv.ET {σ:Sg} {E:EH} {kb:KB} {W:World} (hi:Inv σ E kb W) (ty:TypeId) (sz:Nat):Step σ E kb W (σ++[⟨0,0,sz⟩]) E (kb++[.row ty sz []]) W:=
 hi.grow ⟨0,0,sz⟩ (.row ty sz []) rfl rfl rfl (av _) (fun _ _=>rfl) (fun b hb=>absurd rfl hb.1) ⟨rfl,fun e he=>(by cases he),av _,bt _,.inl rfl⟩
theorem F1 {σ:Sg} {E:EH} {kb:KB} (hl:σ.length=kb.length) (sz:Nat):Den (σ++[⟨0,0,sz⟩]) E (.sl kb.length 0 0) (.slice none 0 0):=by
 simp only[Den]
 exact⟨⟨0,0,sz⟩,none,by rw[<- hl];simp,rfl,av _,av _,fun h=>absurd h (Nat.lt_irrefl _)⟩
theorem NJ {σ:Sg} {E:EH} {vs:List V} {xs:List Value} (h:aq σ E vs xs) {k:Nat} {v u:V} {x:Value} (hv:vs[k]? =some v) (hx:∀ y,Den σ E v y->y=x) (hu:Den σ E u x):aq σ E (vs.set k u) xs:=by
 obtain⟨y,h1,h2⟩:=h.get hv
 have:=hx y h2
 subst this
 clear hx
 induction vs generalizing k xs with
 |nil=>simp at hv
 |cons w vs ih=>
  simp only[aq]at h
  obtain⟨z,zs,rfl,h3,h4⟩:=h
  cases k with
  |zero=>
   simp at h1
   subst h1
   exact .cons hu h4
  |succ k=>exact .cons h3 (ih h4 (by simpa using hv) (by simpa using h1))
theorem R4 {σ:Sg} {E:EH} {l:List V} {off:Nat} {v:V} (h:iX l off=some v) (hna:∀ m cs,v≠.arr m cs) {xs:List Value} (hd:aT σ E l xs):∃ y,xs[off]? =some y/\y.oneCell'=true/\Den σ E v y:=by
 unfold iX at h
 split at h<;>try (cases h;done)
 rename_i v' r hr
 cases h
 obtain⟨h1,h2⟩:=sr hr hd
 obtain⟨ys,zs,e,h3,h4⟩:=h1.io
 rcases h3 with ⟨y,rfl,h5,hy⟩ | ⟨m,cs,e',_,_⟩
 ·refine⟨y,?_,h5,hy⟩
  have:=congrArg (fun z=>z[0]?) e
  simpa using this
 ·exact(hna _ _ e').elim
theorem AJ {σ:Sg} {E:EH} {l l':List V} {xs:List Value} (h:aT σ E l xs) {off:Nat} {v u:V} {x:Value} (hv:iX l off=some v) (hna:∀ m cs,v≠.arr m cs) (hx:∀ y,Den σ E v y->y=x) (hu:Den σ E u x) (hl:jg l off [u]=some l'):aT σ E l' xs:=by
 obtain⟨y,h1,h2,h3⟩:=R4 hv hna h
 have:=hx y h3
 subst this
 obtain⟨h4,h5⟩:=uu hl h (.jc hu h2 .nil)
 have:splice xs off [y]=xs:=by
  apply lw
  intro j
  rw[tO (by omega)]
  split
  ·rfl
  ·split
   ·rename_i c1 c2
    have:j=off:=by simp at c2;omega
    subst this
    simp [h1]
   ·rfl
 rwa [this]at h4
theorem F0 {σ:Sg} {E:EH} {l l':List V} {xs:List Value} (h:aT σ E l xs) {off:Nat} {v u:V} (hv:iX l off=some v) (hna:∀ m cs,v≠.arr m cs) (hu:∀ y,Den σ E v y->Den σ E u y) (hl:jg l off [u]=some l'):aT σ E l' xs:=by
 obtain⟨y,h1,h2,h3⟩:=R4 hv hna h
 obtain⟨h4,h5⟩:=uu hl h (.jc (hu y h3) h2 .nil)
 have:splice xs off [y]=xs:=by
  apply lw
  intro j
  rw[tO (by omega)]
  split
  ·rfl
  ·split
   ·rename_i c1 c2
    have:j=off:=by simp at c2;omega
    subst this
    simp [h1]
   ·rfl
 rwa [this]at h4
theorem Inv.Qv {σ:Sg} {E:EH} {kb:KB} {W:World} (hi:Inv σ E kb W) {j:Nat} {ty:TypeId} {sz:Nat} {L:List (List D)} (hk:kb[j]? =some (.row ty sz L)):
  ∃ r,σ[j]? =some r/\Step σ E kb W (σ++[r]) E (kb.set j .dead++[KO.row ty sz L]) W:=by
 obtain⟨r,hr⟩:∃ r,σ[j]? =some r:=⟨_,bp (by rw[hi.len];exact(bG.1 hk).1)⟩
 exact⟨r,hr,hi.renew (W':=W) (r':=r) (o':=.row ty sz L) hr hk rfl rfl rfl (av _) (fun _ _ _=>rfl) (fun b hb=> .inl hb) ((hi.obj j r _ hr hk).mono (EH.le.refl E) (fun _ _=>rfl))⟩
theorem NL {σ:Sg} {E:EH} {kb:KB} (hl:σ.length=kb.length) {j lo hi:Nat} {r:Re} (hr:σ[j]? =some r) {y:Value} (hy:Den (σ++[r]) E (.sl j lo hi) y):Den (σ++[r]) E (.sl kb.length lo hi) y:=by
 simp only[Den]at hy ⊢
 obtain⟨r',a,h1,h2⟩:=hy
 rw[gk hr]at h1
 cases h1
 exact⟨r,a,by rw[<- hl];simp,h2⟩
theorem Inv.aaU {σ:Sg} {E:EH} {kb:KB} {W:World} (hi:Inv σ E kb W) {j:Nat} {o:KO} (hk:kb[j]? =some o):
  ∃ r,σ[j]? =some r/\Step σ E kb W (σ++[r]) E (kb.set j .dead++[o]) W:=by
 obtain⟨r,hr⟩:∃ r,σ[j]? =some r:=⟨_,bp (by rw[hi.len];exact(bG.1 hk).1)⟩
 exact⟨r,hr,hi.renew (W':=W) (r':=r) (o':=o) hr hk rfl rfl rfl (av _) (fun _ _ _=>rfl) (fun b hb=> .inl hb) ((hi.obj j r _ hr hk).mono (EH.le.refl E) (fun _ _=>rfl))⟩
theorem aeb {σ:Sg} {E:EH} {kb:KB} (hl:σ.length=kb.length) {j:Nat} {v u:V} (hv:Cw kb.length v=some (j,u)) {r:Re} (hr:σ[j]? =some r) {y:Value} (hy:Den (σ++[r]) E v y):Den (σ++[r]) E u y:=by
 have hn:(σ++[r])[kb.length]? =some r:=by rw[<- hl];simp
 cases v<;>simp only[Cw,reduceCtorEq,bb.injEq,Prod.mk.injEq]at hv
 all_goals
  obtain⟨rfl,rfl⟩:=hv
  simp only[Den]at hy ⊢
  obtain⟨r',h1,h2⟩:=hy
  rw[gk hr]at h1
  cases h1
  exact⟨r,hn,h2⟩
theorem AL {σ:Sg} {E:EH} {vs:List V} {xs:List Value} (h:aq σ E vs xs) {k:Nat} {v u:V} (hv:vs[k]? =some v) (hu:∀ y,Den σ E v y->Den σ E u y):aq σ E (vs.set k u) xs:=by
 obtain⟨y,h1,h2⟩:=h.get hv
 have h3:=hu y h2
 clear hu h2
 induction vs generalizing k xs with
 |nil=>simp at hv
 |cons w vs ih=>
  simp only[aq]at h
  obtain⟨z,zs,rfl,h4,h5⟩:=h
  cases k with
  |zero=>
   simp at h1
   subst h1
   exact .cons h3 h5
  |succ k=>exact .cons h4 (ih h5 (by simpa using hv) (by simpa using h1))
theorem aa2 {c:Cx} {E:EH} {W:World}:∀(d:jz) (_:d.FD=false) {σ:Sg} {vs:List V} {kb:KB} {xs:List Value},Step c.σ c.E c.kb c.W σ E kb W->aq σ E vs xs->∃ σ',Step c.σ c.E c.kb c.W σ' E (kT d (vs,kb)).2 W/\aq σ' E (kT d (vs,kb)).1 xs
 | .slot k ty sz,_,σ,vs,kb,xs,hs,hd=>by
  simp only[kT]
  split
  ·rename_i hk
   have hst:=hs.inv.ET ty sz
   exact⟨_,hs.trans hst,NJ (aq.mono (EH.le.refl E) hd) hk (fun y hy=>by simpa only[Den]using hy) (F1 hs.inv.len sz)⟩
  ·exact⟨σ,hs,hd⟩
 | .cell i off ty sz,_,σ,vs,kb,xs,hs,hd=>by
  simp only[kT]
  split
  ·rename_i l hl
   split
   ·rename_i hk
    split
    ·rename_i l' hl'
     have hst:=hs.inv.ET ty sz
     have hi2:=hst.inv
     have hlt:i<kb.length:=(bG.1 hl).1
     have hkb:(kb++[KO.row ty sz []])[i]? =some (.cells l):=by rw[dP hlt];exact hl
     obtain⟨r,hr⟩:∃ r,(σ++[⟨0,0,sz⟩])[i]? =some r:=⟨_,bp (by rw[hi2.len];simp;omega)⟩
     obtain⟨arr,ty',h1,h2⟩:=hi2.obj i r _ hr hkb
     have dT:=hi2.set (o':=.cells l') hr hkb rfl rfl rfl rfl (fun _ _=>rfl) (fun b hb=>hb) ⟨arr,ty',h1,AJ h2 hk (fun _ _ h=>by cases h) (fun y hy=>by simpa only[Den]using hy) (F1 hs.inv.len sz) hl'⟩
     exact⟨_,hs.trans (hst.trans dT),aq.mono (EH.le.refl E) hd⟩
    ·exact⟨σ,hs,hd⟩
   ·exact⟨σ,hs,hd⟩
  ·exact⟨σ,hs,hd⟩
 | .br k off ty sz,_,σ,vs,kb,xs,hs,hd=>by
  simp only[kT]
  split
  ·rename_i l hk
   split
   ·rename_i hp
    split
    ·rename_i l' hl'
     have hst:=hs.inv.ET ty sz
     refine⟨_,hs.trans hst,AL (aq.mono (EH.le.refl E) hd) hk fun y hy=>?_⟩
     simp only[Den]at hy ⊢
     obtain⟨zs,rfl,hz⟩:=hy
     exact⟨zs,rfl,AJ hz hp (fun _ _ h=>by cases h) (fun y hy=>by simpa only[Den]using hy) (F1 hs.inv.len sz) hl'⟩
    ·exact⟨σ,hs,hd⟩
   ·exact⟨σ,hs,hd⟩
  ·exact⟨σ,hs,hd⟩
 | .Tf k sz,_,σ,vs,kb,xs,hs,hd=>by
  simp only[kT]
  split
  ·rename_i hk
   exact⟨_,hs,NJ hd hk (fun y hy=>by simpa only[Den]using hy) (by simp only[Den];exact⟨none,0,rfl,av _,.inl rfl⟩)⟩
  ·exact⟨σ,hs,hd⟩
 | .Om k off sz,_,σ,vs,kb,xs,hs,hd=>by
  simp only[kT]
  split
  ·rename_i l hk
   split
   ·rename_i hp
    split
    ·rename_i l' hl'
     refine⟨_,hs,AL hd hk fun y hy=>?_⟩
     simp only[Den]at hy ⊢
     obtain⟨zs,rfl,hz⟩:=hy
     exact⟨zs,rfl,AJ hz hp (fun _ _ h=>by cases h) (fun y hy=>by simpa only[Den]using hy) (by simp only[Den];exact⟨none,0,rfl,av _,.inl rfl⟩) hl'⟩
    ·exact⟨σ,hs,hd⟩
   ·exact⟨σ,hs,hd⟩
  ·exact⟨σ,hs,hd⟩
 | .tF i off sz,_,σ,vs,kb,xs,hs,hd=>by
  simp only[kT]
  split
  ·rename_i l hl
   split
   ·rename_i hk
    split
    ·rename_i l' hl'
     have hi2:=hs.inv
     obtain⟨r,hr⟩:∃ r,σ[i]? =some r:=⟨_,bp (by rw[hi2.len];exact(bG.1 hl).1)⟩
     obtain⟨arr,ty',h1,h2⟩:=hi2.obj i r _ hr hl
     have dT:=hi2.set (o':=.cells l') hr hl rfl rfl rfl rfl (fun _ _=>rfl) (fun b hb=>hb) ⟨arr,ty',h1,AJ h2 hk (fun _ _ h=>by cases h) (fun y hy=>by simpa only[Den]using hy) (by simp only[Den];exact⟨none,0,rfl,av _,.inl rfl⟩) hl'⟩
     exact⟨_,hs.trans dT,hd⟩
    ·exact⟨σ,hs,hd⟩
   ·exact⟨σ,hs,hd⟩
  ·exact⟨σ,hs,hd⟩
 | .mv i off,_,σ,vs,kb,xs,hs,hd=>by
  simp only[kT]
  split
  ·rename_i l hl
   split
   ·rename_i j lo hi hk
    split
    ·rename_i ty sz L hj
     split
     ·rename_i l' hl'
      obtain⟨r,hr,hst⟩:=hs.inv.Qv hj
      have hi2:=hst.inv
      have hne:i≠j:=fun e=>by subst e;rw[hl]at hj;cases hj
      have hlt:i<kb.length:=(bG.1 hl).1
      have hkb:(kb.set j .dead++[KO.row ty sz L])[i]? =some (.cells l):=by
       rw[dP (by simpa using hlt),gr (Ne.symm hne)];exact hl
      obtain⟨ri,jd⟩:∃ ri,(σ++[r])[i]? =some ri:=⟨_,bp (by rw[hi2.len];simp;omega)⟩
      obtain⟨arr,ty',h1,h2⟩:=hi2.obj i ri _ jd hkb
      have dT:=hi2.set (o':=.cells l') jd hkb rfl rfl rfl rfl (fun _ _=>rfl) (fun b hb=>hb) ⟨arr,ty',h1,F0 h2 hk (fun _ _ h=>by cases h) (fun y hy=>NL hs.inv.len hr hy) hl'⟩
      exact⟨_,hs.trans (hst.trans dT),aq.mono (EH.le.refl E) hd⟩
     ·exact⟨σ,hs,hd⟩
    ·exact⟨σ,hs,hd⟩
   ·exact⟨σ,hs,hd⟩
  ·exact⟨σ,hs,hd⟩
 | .Qz k,_,σ,vs,kb,xs,hs,hd=>by
  simp only[kT]
  split
  ·rename_i j lo hi hk
   split
   ·rename_i ty sz L hj
    obtain⟨r,hr,hst⟩:=hs.inv.Qv hj
    exact⟨_,hs.trans hst,AL (aq.mono (EH.le.refl E) hd) hk (fun y hy=>NL hs.inv.len hr hy)⟩
   ·exact⟨σ,hs,hd⟩
  ·exact⟨σ,hs,hd⟩
 | .Qy i off,_,σ,vs,kb,xs,hs,hd=>by
  simp only[kT]
  split
  ·rename_i l hl
   split
   ·rename_i v hk
    split
    ·rename_i j u hu
     split
     ·rename_i o hj
      split
      ·rename_i l' hl'
       split
       ·exact⟨σ,hs,hd⟩
       ·rename_i hne
        obtain⟨r,hr,hst⟩:=hs.inv.aaU hj
        have hi2:=hst.inv
        have hlt:i<kb.length:=(bG.1 hl).1
        have hkb:(kb.set j .dead++[o])[i]? =some (.cells l):=by
         rw[dP (by simpa using hlt),gr (Ne.symm hne)];exact hl
        obtain⟨ri,jd⟩:∃ ri,(σ++[r])[i]? =some ri:=⟨_,bp (by rw[hi2.len];simp;omega)⟩
        obtain⟨arr,ty',h1,h2⟩:=hi2.obj i ri _ jd hkb
        have hna:∀ m cs,v≠.arr m cs:=fun m cs e=>by subst e;simp [Cw]at hu
        have dT:=hi2.set (o':=.cells l') jd hkb rfl rfl rfl rfl (fun _ _=>rfl) (fun b hb=>hb) ⟨arr,ty',h1,F0 h2 hk hna (fun y hy=>aeb hs.inv.len hu hr hy) hl'⟩
        exact⟨_,hs.trans (hst.trans dT),aq.mono (EH.le.refl E) hd⟩
      ·exact⟨σ,hs,hd⟩
     ·exact⟨σ,hs,hd⟩
    ·exact⟨σ,hs,hd⟩
   ·exact⟨σ,hs,hd⟩
  ·exact⟨σ,hs,hd⟩
 | .q9 k,hno,_,_,_,_,_,_=>by cases hno
 | .qf ..,hno,_,_,_,_,_,_=>by cases hno
 | .oG ..,hno,_,_,_,_,_,_=>by cases hno
 | .kill i,_,σ,vs,kb,xs,hs,hd=>by
  simp only[kT]
  split
  ·rename_i o ho
   have hi2:=hs.inv
   obtain⟨r,hr⟩:∃ r,σ[i]? =some r:=⟨_,bp (by rw[hi2.len];exact(bG.1 ho).1)⟩
   have dT:=hi2.set (o':=.dead) hr ho rfl rfl rfl rfl (fun _ _=>rfl) (fun b hb=>hb.elim) trivial
   exact⟨_,hs.trans dT,hd⟩
  ·exact⟨σ,hs,hd⟩
theorem aa1 {c:Cx} {E:EH} {W:World}:∀(d:jz) {σ:Sg} {vs:List V} {kb:KB} {xs:List Value},Step c.σ c.E c.kb c.W σ E kb W->aq σ E vs xs->∃ σ' E',Step c.σ c.E c.kb c.W σ' E' (kT d (vs,kb)).2 W/\aq σ' E' (kT d (vs,kb)).1 xs/\E.le E':=fun d σ vs kb xs hs hd=>by
 have uA:∀{σ:Sg} {E:EH} {kb:KB} {i off:Nat} {l l':List V} {v u:V} {vs:List V} {xs:List Value},Step c.σ c.E c.kb c.W σ E kb W->kb[i]? =some (.cells l)->iX l off=some v->(∀ m cs,v≠.arr m cs)->(∀ y,Den σ E v y->Den σ E u y)->jg l off [u]=some l'->aq σ E vs xs->Step c.σ c.E c.kb c.W σ E (kb.set i (KO.cells l')) W/\aq σ E vs xs:=by
  intro σ E kb i off l l' v u vs xs hs hl hk hna hu hl' hd
  have hi2:=hs.inv
  obtain⟨r,hr⟩:∃ r,σ[i]? =some r:=⟨_,bp (by rw[hi2.len];exact(bG.1 hl).1)⟩
  obtain⟨arr,ty',h1,h2⟩:=hi2.obj i r _ hr hl
  have dT:=hi2.set (o':=.cells l') hr hl rfl rfl rfl rfl (fun _ _=>rfl) (fun b hb=>hb) ⟨arr,ty',h1,F0 h2 hk hna hu hl'⟩
  exact⟨hs.trans dT,hd⟩
 cases hch:d.FD with
 |false=>
  obtain⟨σ',h1,h2⟩:=aa2 d hch hs hd
  exact⟨σ',E,h1,h2,EH.le.refl E⟩
 |true=>
 cases d<;>simp only[jz.FD,Bool.false_eq_true]at hch
 ·rename_i k
  simp only[kT]
  split
  ·rename_i i hk
   split
   ·rename_i l hl
    split
    ·rename_i ds hds
     have hi2:=hs.inv
     obtain⟨r,hr⟩:∃ r,σ[i]? =some r:=⟨_,bp (by rw[hi2.len];exact(bG.1 hl).1)⟩
     obtain⟨E',hst,fg⟩:=hi2.Oy hr hl hds
     have hd':=aq.mono (τ:=[]) hst.le hd
     rw[fD]at hd'
     refine⟨σ,E',hs.trans hst,AL hd' hk (fun y hy=>?_),hst.le⟩
     simp only[Den]at hy ⊢
     obtain⟨r',h1,rfl⟩:=hy
     rw[hr]at h1;cases h1
     exact⟨r.blk,0,rfl,fg⟩
    ·exact⟨σ,E,hs,hd,EH.le.refl E⟩
   ·exact⟨σ,E,hs,hd,EH.le.refl E⟩
  ·exact⟨σ,E,hs,hd,EH.le.refl E⟩
 ·rename_i i off
  simp only[kT]
  split
  ·rename_i l hl
   split
   ·rename_i hk
    split
    ·rename_i l' hl'
     obtain⟨h1,h2⟩:=uA (u:=.aa none) hs hl hk (fun _ _ h=>by cases h) (fun y hy=>by simp only[Den]at hy ⊢;exact .inl ⟨rfl,hy⟩) hl' hd
     exact⟨σ,E,h1,h2,EH.le.refl E⟩
    ·exact⟨σ,E,hs,hd,EH.le.refl E⟩
   ·rename_i j hk
    split
    ·rename_i m hm
     split
     ·rename_i ds hds
      split
      ·rename_i l' hl'
       split
       ·exact⟨σ,E,hs,hd,EH.le.refl E⟩
       ·rename_i hne
        have hi2:=hs.inv
        obtain⟨r,hr⟩:∃ r,σ[j]? =some r:=⟨_,bp (by rw[hi2.len];exact(bG.1 hm).1)⟩
        obtain⟨E',hst,fg⟩:=hi2.Oy hr hm hds
        have hd':=aq.mono (τ:=[]) hst.le hd
        rw[fD]at hd'
        have hl2:(kb.set j .dead)[i]? =some (.cells l):=by rw[gr (Ne.symm hne)];exact hl
        obtain⟨h1,h2⟩:=uA (u:=.aa (some ds)) (hs.trans hst) hl2 hk (fun _ _ h=>by cases h) (fun y hy=>by
         simp only[Den]at hy ⊢
         obtain⟨r',h1,rfl⟩:=hy
         rw[hr]at h1;cases h1
         exact .inr ⟨ds,r.blk,rfl,rfl,fg⟩) hl' hd'
        exact⟨σ,E',h1,h2,hst.le⟩
      ·exact⟨σ,E,hs,hd,EH.le.refl E⟩
     ·exact⟨σ,E,hs,hd,EH.le.refl E⟩
    ·exact⟨σ,E,hs,hd,EH.le.refl E⟩
   ·exact⟨σ,E,hs,hd,EH.le.refl E⟩
  ·exact⟨σ,E,hs,hd,EH.le.refl E⟩
 ·rename_i i off aA aS agg sz
  simp only[kT]
  split
  ·rename_i l hl
   split
   ·rename_i hk
    split
    ·rename_i l' hl'
     obtain⟨h1,h2⟩:=uA (u:=.imp aA aS agg sz []) hs hl hk (fun _ _ h=>by cases h) (fun y hy=>by simp only[Den]at hy ⊢;exact⟨none,hy,rfl⟩) hl' hd
     exact⟨σ,E,h1,h2,EH.le.refl E⟩
    ·exact⟨σ,E,hs,hd,EH.le.refl E⟩
   ·rename_i j hk
    split
    ·rename_i aak aag Wb sz' m hm
     split
     ·rename_i l' hl'
      split
      ·exact⟨σ,E,hs,hd,EH.le.refl E⟩
      ·rename_i hne
       have hi2:=hs.inv
       obtain⟨r,hr⟩:∃ r,σ[j]? =some r:=⟨_,bp (by rw[hi2.len];exact(bG.1 hm).1)⟩
       obtain⟨E',hst,fg⟩:=hi2.Ya hr hm
       have hd':=aq.mono (τ:=[]) hst.le hd
       rw[fD]at hd'
       have hl2:(kb.set j .dead)[i]? =some (.cells l):=by rw[gr (Ne.symm hne)];exact hl
       obtain⟨h1,h2⟩:=uA (u:=.imp aak aag Wb sz' m) (hs.trans hst) hl2 hk (fun _ _ h=>by cases h) (fun y hy=>by
        simp only[Den]at hy ⊢
        obtain⟨r',h1,rfl⟩:=hy
        rw[hr]at h1;cases h1
        exact⟨some r.blk,rfl,fg⟩) hl' hd'
       exact⟨σ,E',h1,h2,hst.le⟩
     ·exact⟨σ,E,hs,hd,EH.le.refl E⟩
    ·exact⟨σ,E,hs,hd,EH.le.refl E⟩
   ·exact⟨σ,E,hs,hd,EH.le.refl E⟩
  ·exact⟨σ,E,hs,hd,EH.le.refl E⟩
theorem yk {c:Cx} {W:World}:∀(ds:List jz) {E:EH} {σ:Sg} {s:List V×KB} {xs:List Value},Step c.σ c.E c.kb c.W σ E s.2 W->aq σ E s.1 xs->∃ σ' E',Step c.σ c.E c.kb c.W σ' E' (pE ds s).2 W/\aq σ' E' (pE ds s).1 xs/\E.le E'
 | [],E,σ,s,xs,hs,hd=>⟨σ,E,hs,hd,EH.le.refl E⟩
 |d::ds,E,σ,s,xs,hs,hd=>by
  obtain⟨σ',E',h1,h2,h3⟩:=aa1 d hs hd
  obtain⟨σ2,E2,h4,h5,h6⟩:=yk ds h1 h2
  exact⟨σ2,E2,h4,h5,h3.trans h6⟩
structure At (li:LI) (s:List V×KB):Prop where
 has:∃ i,s=li.st i
structure Nx (li:LI) (i:li.α) (s:List V×KB):Prop where
 has:∃ j,s=li.st j/\li.μ j<li.μ i
theorem At.mk' {li:LI} {s:List V×KB} (i:li.α) (h:s=li.st i):At li s:=⟨i,h⟩
theorem Nx.mk' {li:LI} {i:li.α} {s:List V×KB} (j:li.α) (h:s=li.st j) (k:li.μ j<li.μ i):Nx li i s:=⟨j,h,k⟩
def pW (n0:Nat) (dU:List jz) (live:List Nat) (fr:Fr) (kb:KB) (R:List V×KB->Prop):Prop:=
 match yc fr live with
 |some vals=>match canon n0 vals kb with
  |some (vs,kb',_)=>match dU with
   | []=>R (vs,kb')
   |d::ds=>match canon n0 (pE (d::ds) (vs,kb')).1 (pE (d::ds) (vs,kb')).2 with
    |some (vs2,bE,_)=>R (vs2,bE)
    |none=>False
  |none=>False
 |none=>False
def iter (R:(Exit->Fr->KB->Prop)->Fr->KB->Prop) (Q:Exit->Fr->KB->Prop):Nat->Fr->KB->Prop
 | 0,_,_=>False
 |m+1,fr,kb=>R (fun e fr kb=>match e with | .normal=>iter R Q m fr kb | e=>Q e fr kb) fr kb
structure DR (c:Cx) (n:Nat) (Q:Exit->Fr->KB->Prop) (Q':Exit->Act->World->Prop):Prop where
 hat:∀ e a W,jj c n (Q e) a W->Q' e a W
 nR:∀ ch a a' w,Q' (.panic ch) a w->Q' (.panic ch) a' w
theorem Qb {σ:Sg} {E:EH} {fr:Fr} {n:Nat} {a:Act} (h:eu σ E fr n a):∀{live:List Nat} {vals:List V},yc fr live=some vals->∃ xs:List Value,aq σ E vals xs/\xs.length=live.length/\∀(k t:Nat) (x:Value),live[k]? =some t->xs[k]? =some x->a.tmps[t]? =some x
 | [],vals,hv=>by simp only[yc,bb.injEq]at hv;subst hv;exact⟨[],.nil,rfl,by simp⟩
 |t::ts,vals,hv=>by
  simp only[yc]at hv
  split at hv<;>try (cases hv;done)
  rename_i v hl
  split at hv<;>try (cases hv;done)
  rename_i vs hvs
  cases hv
  obtain⟨x,h1,h2⟩:=h.get t v hl
  obtain⟨xs,h3,h4,h5⟩:=Qb h hvs
  refine⟨x::xs,.cons h2 h3,by simp [h4],fun k u y hk hy=>?_⟩
  cases k with
  |zero=>simp at hk hy;subst hk;subst hy;exact h1
  |succ k=>exact h5 k u y (by simpa using hk) (by simpa using hy)
theorem H8 {σ:Sg} {E:EH}:∀{live:List Nat} {vs:List V} {xs:List Value},aq σ E vs xs->∀{t:Nat} {v:V},look (live.zip vs) t=some v->∃(k:Nat) (x:Value),live[k]? =some t/\xs[k]? =some x/\Den σ E v x
 | [],_,_,_,t,v,h=>by simp [look]at h
 |u::live,[],_,_,t,v,h=>by simp [look]at h
 |u::live,w::vs,xs,hd,t,v,h=>by
  simp only[aq]at hd
  obtain⟨x,xs',rfl,h1,h2⟩:=hd
  simp only[List.zip_cons_cons,look]at h
  split at h
  ·rename_i hb
   have:=cU hb
   subst this
   cases h
   exact⟨0,x,rfl,rfl,h1⟩
  ·obtain⟨k,y,k1,k2,k3⟩:=H8 h2 h
   exact⟨k+1,y,by simpa using k1,by simpa using k2,k3⟩
theorem xn {c:Cx} {dU:List jz} {live:List Nat} {fr:Fr} {kb:KB} {R:List V×KB->Prop} (h:pW c.σ.length dU live fr kb R) {σ:Sg} {E:EH} {n:Nat} {a:Act} {W:World} (hs:Step c.σ c.E c.kb c.W σ E kb W) (hf:eu σ E fr n a):
  ∃ s,R s/\jj c n (fun fr' kb'=>fr'=live.zip s.1/\kb'=s.2) a W:=by
 unfold pW at h
 split at h<;>try exact h.elim
 rename_i vals ZV
 split at h<;>try exact h.elim
 rename_i vs kb' o hc
 obtain⟨xs,h1,h2,h3⟩:=Qb hf ZV
 obtain⟨σ',h4,h5⟩:=hs.sel hc h1
 split at h
 ·refine⟨(vs,kb'),h,σ',E,live.zip vs,kb',h4,⟨hf.size,hf.defers,fun t v hv=>?_⟩,rfl,rfl⟩
  obtain⟨k,x,k1,k2,k3⟩:=H8 h5 hv
  exact⟨x,h3 k t x k1 k2,k3⟩
 ·rename_i d ds
  split at h<;>try exact h.elim
  rename_i vs2 bE o2 fk
  obtain⟨σ2,E2,h6,h7,vy⟩:=yk (c:=c) (d::ds) (s:=(vs,kb')) h4 h5
  obtain⟨σ3,h8,h9⟩:=h6.sel fk h7
  refine⟨(vs2,bE),h,σ3,E2,live.zip vs2,bE,h8,⟨hf.size,hf.defers.mono vy,fun t v hv=>?_⟩,rfl,rfl⟩
  obtain⟨k,x,k1,k2,k3⟩:=H8 h9 hv
  exact⟨x,h3 k t x k1 k2,k3⟩
abbrev FW (r:Option Nat):Fence:={Fence.wide with round:=r }
theorem WR {r:Option Nat} {n:Nat} {P:Program} {f:FuncId} {args:Array Value} {w:World} {R:Ending->World->Prop} (h:Calls P f args w R):CallsIn (FW r) n P f args w R:=
 (callsIn_wide (n:=n)).2 h
theorem aeh {r:Option Nat} {n:Nat} {P:Program} {row:String} {args:Array Value} {w:World} {R:Value->World->Prop} (h:Rows P row args w R):RowsIn (FW r) n P row args w R:=
 fun c cs _=>let ⟨v,w',q,s⟩:=h c cs;⟨v,w',q,(stepsIn_wide (P:=P)).2 s⟩
theorem Cf {r:Option Nat} {n:Nat} {P:Program} {o:Oper} {a:Act} {w:World} {next:Act->World->Prop} {Q:Exit->Act->World->Prop} (hnd:∀ c,o.op≠.defer c) (h:o.wp P a w next Q):o.wpIn (FW r) n P a w next Q:=by
 refine⟨fun _ _=>trivial,?_⟩
 show o.uponIn (FW r) n P a next Q ((o.semAt r a.eval).run P w)
 rw[Oper.semAt_eq r a.eval o hnd]
 unfold Oper.wp at h
 generalize (execOp a.eval o).run P w=res at h
 cases res with
 |ok x w'=>
  cases x with
  |value v=>exact h
  |skip=>exact h
  |defer d=>exact h
  |enter f args=>exact⟨fun q=>(by cases q),WR h⟩
  |row row args=>exact⟨fun q=>(by cases q),aeh h⟩
  |round l f tmps assign body=>exact h.elim
  |_=>exact h.elim
 |halt x w'=>
  cases x with
  |panic v=>exact h
  |_=>exact h.elim
def IB (ops:Array Oper):Bool:=ops.toList.all fun o=>match o.op with | .defer _=>false | _=>true
theorem QN {ops:Array Oper} (h:IB ops=true):∀ o∈ops.toList,∀ c,o.op≠.defer c:=fun o ho c e=>by
 have:=List.all_eq_true.1 h o ho
 rw[e]at this
 cases this
theorem P_ {r:Option Nat} {n:Nat} {P:Program} {ops:Array Oper} {Q:Exit->Act->World->Prop} (hout:¬ LetsOut Q):∀{l:List Oper},(∀ o∈l,∀ c,o.op≠.defer c)->∀{a:Act} {w:World},wpList P ops Q l a w->wpListIn (FW r) n P ops Q l a w
 | [],_,a,w,h=>h
 |o::l,hl,a,w,h=>by
  have ih:∀ a w,wpList P ops Q l a w->wpListIn (FW r) n P ops Q l a w:=fun a w=>P_ hout (fun o ho=>hl o (fM _ ho))
  simp only[wpList]at h
  simp only[wpListIn]
  split
  ·rename_i hw
   rw[if_pos hw]at h
   rcases h with h | ⟨_,h⟩
   ·exact Oper.wpIn_mono ih (Cf (hl o iu) h)
   ·exact absurd h hout
  ·rename_i hw
   rw[if_neg hw]at h
   exact⟨fun _ _=>trivial,ih _ _ h⟩
theorem acW {r:Option Nat} {n:Nat} {P:Program} {ops:Array Oper} {Q:Exit->Act->World->Prop} (hout:¬ LetsOut Q) (hd:∀ o∈ops.toList,∀ c,o.op≠.defer c) {i:Nat} {K K':Act->World->Prop} (hK:∀ a w,K a w->K' a w) {a:Act} {w:World} (h:wpOp P ops Q i K a w):wpOpIn (FW r) n P ops Q i K' a w:=by
 unfold wpOp at h
 unfold wpOpIn
 split at h
 ·rename_i ho;rw[ho];exact hK _ _ h
 ·rename_i o ho
  rw[ho]
  have hm:o∈ops.toList:=by
   obtain⟨hlt,rfl⟩:=Array.getElem?_eq_some_iff.1 ho
   simp
  simp only
  split
  ·rename_i hw
   rw[if_pos hw]at h
   rcases h with h | ⟨_,h⟩
   ·exact Oper.wpIn_mono hK (Cf (hd o hm) h)
   ·exact absurd h hout
  ·rename_i hw
   rw[if_neg hw]at h
   exact⟨fun _ _=>trivial,hK _ _ h⟩
theorem MA {r:Option Nat} {n:Nat} {P:Program} {md:Region.Mode} {ops:Array Oper} {Q:Exit->Act->World->Prop} (hout:¬ LetsOut Q) (hd:∀ o∈ops.toList,∀ c,o.op≠.defer c):∀{fuel:Nat} {listed:Array Bool} {a:Act} {w:World},wpAny P md ops Q fuel listed a w->wpAnyIn (FW r) n P md ops Q fuel listed a w
 | 0,listed,a,w,h=>h
 |fuel+1,listed,a,w,h=>⟨h.1,fun i hi=>acW hout hd (fun a w h=>MA hout hd h) (h.2 i hi)⟩
def qm (P:Program) (fr:Fr) (kb:KB):List ResultVar->(List V->Prop)->Prop
 | [],K=>K []
 | .tmp t::rs,K=>match look fr t with | some v=>qm P fr kb rs (fun vs=>K (v::vs)) | none=>False
 | .cell t ty::rs,K=>match look fr t with | some ad=>nc P ty ad kb (fun v=>qm P fr kb rs (fun vs=>K (v::vs))) | none=>False
def sU:List V->V
 | [v]=>v
 |vs=> .υ vs
def fin (P:Program) (fn:Func) (K:V->KB->Prop):Exit->Fr->KB->Prop
 | .normal,fr,kb=>qm P fr kb fn.results.toList (fun vs=>K (sU vs) kb)
 | .ret,fr,kb=>qm P fr kb fn.results.toList (fun vs=>K (sU vs) kb)
 |_,_,_=>False
theorem JE {P:Program} {fr:Fr} {kb:KB} {σ:Sg} {E:EH} {n:Nat} {a:Act} (hf:eu σ E fr n a) {W:World} (hi:Inv σ E kb W):∀{rs:List ResultVar} {K:List V->Prop},qm P fr kb rs K->
  ∃ vs xs,K vs/\aq σ E vs xs/\(rs.mapM (m:=Sem) fun | .tmp t=>pure (a.tmps.getD t undef) | .cell t ty=>do loadVar ty (<- asAddr (a.tmps.getD t undef))).run P W= .ok xs W
 | [],K,h=>⟨[],[],h,.nil,by simp⟩
 | .tmp t::rs,K,h=>by
  simp only[qm]at h
  split at h<;>try exact h.elim
  rename_i v hv
  obtain⟨x,h1,h2⟩:=hf.get t v hv
  obtain⟨vs,xs,h3,h4,h5⟩:=JE hf hi h
  refine⟨_,x::xs,h3,.cons h2 h4,?_⟩
  rw[List.mapM_cons,Sem.run_bind,Sem.run_pure,Result.andThen_ok,Sem.run_bind,h5,Result.andThen_ok]
  simp [Array.getD_eq_getD_getElem?,h1]
 | .cell t ty::rs,K,h=>by
  simp only[qm]at h
  split at h<;>try exact h.elim
  rename_i ad had
  obtain⟨x,h1,h2⟩:=hf.get t ad had
  obtain⟨v,y,h6,h7,h8⟩:=H4 h hi h2
  obtain⟨vs,xs,h3,h4,h5⟩:=JE hf hi h8
  refine⟨_,y::xs,h3,.cons h7 h4,?_⟩
  have hx:a.tmps.getD t undef=x:=by simp [Array.getD_eq_getD_getElem?,h1]
  have Zs:(do loadVar ty (<- asAddr x):Sem Value).run P W= .ok y W:=by
   unfold Instr.loadAt at h6
   cases x with
   |pointer p=>cases p with
    |some p=>simpa [Instr.sureAddr,asAddr]using h6
    |none=>simp [Instr.sureAddr]at h6
   |_=>simp [Instr.sureAddr]at h6
  rw[List.mapM_cons,Sem.run_bind]
  simp only[hx]
  rw[Zs,Result.andThen_ok,Sem.run_bind,h5,Result.andThen_ok]
  simp
def r_:Nat->List V->Fr
 |_,[]=>[]
 |k,v::vs=>(k,v)::r_ (k+1) vs
theorem H7 {σ:Sg} {E:EH}:∀{vs:List V} {xs:List Value} (k:Nat),aq σ E vs xs->∀{t:Nat} {v:V},look (r_ k vs) t=some v->∃ x,k<=t/\xs[t - k]? =some x/\Den σ E v x
 | [],_,k,_,t,v,h=>by simp [r_,look]at h
 |w::vs,xs,k,hd,t,v,h=>by
  simp only[aq]at hd
  obtain⟨x,xs',rfl,h1,h2⟩:=hd
  simp only[r_,look]at h
  split at h
  ·rename_i hb
   have:=cU hb
   subst this
   cases h
   exact⟨x,av _,by simp,h1⟩
  ·obtain⟨y,h3,h4,h5⟩:=H7 (k+1) h2 h
   exact⟨y,by omega,by rw[show t - k=(t - (k+1))+1 by omega];simpa using h4,h5⟩
theorem N_ {P:Program} {fn:Func} {fr:Fr} {kb:KB} {K:V->KB->Prop} {σ:Sg} {E:EH} {n:Nat} {a:Act} {W:World} (hf:eu σ E fr n a) (hi:Inv σ E kb W) (h:qm P fr kb fn.results.toList (fun vs=>K (sU vs) kb)):
  ∃ v r,(results fn a.tmps).run P W= .ok v W/\Den σ E r v/\K r kb:=by
 obtain⟨vs,ys,h1,h2,h3⟩:=JE hf hi h
 have hrun:(results fn a.tmps).run P W= .ok (if h:ys.toArray.size=1 then ys.toArray[0]else .tuple ys.toArray) W:=by
  unfold results
  rw[Sem.run_bind,Array.mapM_eq_mapM_toList]
  simp only[Sem.run_map]
  exact(congrArg (fun z=>Result.andThen (Result.andThen z (fun(a:List Value) w'=>Result.ok a.toArray w')) (fun(a:Array Value) w'=>Sem.run P (pure (if h:a.size=1 then a[0]else Value.tuple a)) w')) h3).trans rfl
 refine⟨_,sU vs,hrun,?_,h1⟩
 match vs,ys,h2 with
 | [v],ys,h2=>
  simp only[aq]at h2
  obtain⟨x,xs',rfl,h4,rfl⟩:=h2
  exact h4
 | [],ys,h2=>
  simp only[aq]at h2
  subst h2
  simp [sU,Den,aq]
 |v::w::vs,ys,h2=>
  have hl:=h2.len
  have:¬ ys.toArray.size=1:=by simp [hl]
  rw[dif_neg this]
  simp only[sU,Den]
  exact⟨ys,rfl,h2⟩
theorem XY {P:Program} {o:Oper} {g:Operand} {args:Array Operand} {ats:Array TypeId} (ho:o.op= .call {callee:=.value g,args:=args,argTypes:=ats }) {a:Act} {W:World} {l:Nat} (hg:a.eval g= .func (.yield l) #[] #[]):
  (execOp a.eval o).run P W=(Instr.yield l (args.map a.eval)).run P W:=by
 have e:execOp a.eval o=(do let d <- resolve a.eval {callee:=.value g,args:=args,argTypes:=ats } o.type;invoke d.target d.args):=by unfold execOp;rw[ho]
 have r:resolve a.eval {callee:=.value g,args:=args,argTypes:=ats } o.type=pure {target:=.fn (.yield l) #[],args:=args.map a.eval }:=by
  unfold resolve
  simp only[hg,Deferred.ofValue,Array.empty_append]
 rw[e,r,Sem.run_bind]
 simp [invoke,Result.andThen]
def lK (P:Program) (X:bJ) (n:Nat):Code->(Exit->Fr->KB->Prop)->Fr->KB->Prop
 | .skip,Q,fr,kb=>Q .normal fr kb
 | .label _,Q,fr,kb=>Q .normal fr kb
 | .region _ ops false,Q,fr,kb=>match Region.noSelect ops,IB ops with
  |true,true=>wj P X n ops ops.toList (Q .normal) fr kb
  |_,_=>False
 | .region _ ops true,Q,fr,kb=>match Region.noSelect ops,AQ ops,IB ops with
  |true,true,true=>mq P X n ops (iY P ops 0 ops.size) ops.size 0 [] (Q .normal) fr kb
  |_,_,_=>False
 | .seq x y,Q,fr,kb=>lK P X n x (fun e fr kb=>match e with | .normal=>lK P X n y Q fr kb | e=>Q e fr kb) fr kb
 | .cond c x y,Q,fr,kb=>match ev fr c with
  |some .tt=>lK P X n x Q fr kb
  |some .ff=>lK P X n y Q fr kb
  |some (.sb b)=>(b=true->lK P X n x Q fr kb)/\(b=false->lK P X n y Q fr kb)
  |_=>False
 | .block id x,Q,fr,kb=>lK P X n x (fun e fr kb=>match e with
  | .exit i=>match cp i id with | true=>Q .normal fr kb | false=>Q (.exit i) fr kb
  |e=>Q e fr kb) fr kb
 | .exit id,Q,fr,kb=>Q (.exit id) fr kb
 |_,_,_,_=>False
theorem rF {P:Program} {X:bJ} (hX:bZ P X) (hm:P.follows .mixedOrders=true) {c:Cx} {n:Nat} {r:Option Nat}:∀(code:Code) {Q:Exit->Fr->KB->Prop} {Q':Exit->Act->World->Prop},DR c n Q Q'->¬ LetsOut Q'->∀{a:Act} {W:World},
  jj c n (lK P X n code Q) a W->code.wpIn (FW r) 0 P Q' a W
 | .skip,Q,Q',hQ,ho,a,W,h=>wpIn_skip (hQ.hat _ _ _ h)
 | .label _,Q,Q',hQ,ho,a,W,h=>wpIn_label (hQ.hat _ _ _ h)
 | .region id ops false,Q,Q',hQ,ho,a,W,h=>by
  obtain⟨σ,E,fr,kb,hs,hf,h⟩:=h
  simp only[lK]at h
  split at h<;>try exact h.elim
  rename_i po hnd
  exact wpIn_region_list (P_ ho (QN hnd) (CN hX (fun a W h=>hQ.hat _ _ _ h) ⟨σ,E,fr,kb,hs,hf,h⟩))
 | .region id ops true,Q,Q',hQ,ho,a,W,h=>by
  obtain⟨σ,E,fr,kb,hs,hf,h⟩:=h
  simp only[lK]at h
  split at h<;>try exact h.elim
  rename_i po xT hnd
  refine wpIn_region_any hm (MA ho (QN hnd) ?_)
  have hd:=(hs.trans (Inv.drew hs.inv))
  exact(NX hX po xT (Q:=Q') (K:=Q .normal) (fun a W h=>hQ.hat _ _ _ h) hQ.nR ops.size 0 _ [] fr kb a _ σ E [] ⟨by simp,fun i hi=>by simp [hi]⟩ Closed.empty hd hf (fun r hr=>by cases hr) h).any
 | .seq x y,Q,Q',hQ,ho,a,W,h=>by
  refine wpIn_seq (rF hX hm x (Q':=Exit.then (y.wpIn (FW r) 0 P Q') Q') (Q:=fun e fr kb=>match e with | .normal=>lK P X n y Q fr kb | e=>Q e fr kb) ⟨fun e a W h=>?_,fun ch a a' w h=>hQ.nR ch a a' w h⟩ ho (by
   obtain⟨σ,E,fr,kb,hs,hf,h⟩:=h
   simp only[lK]at h
   exact⟨σ,E,fr,kb,hs,hf,h⟩))
  cases e with
  |normal=>exact rF hX hm y hQ ho h
  |exit id=>exact hQ.hat _ _ _ h
  |goto l=>exact hQ.hat _ _ _ h
  |ret=>exact hQ.hat _ _ _ h
  |panic ch=>exact hQ.hat _ _ _ h
  |outgrown=>exact hQ.hat _ _ _ h
 | .cond o x y,Q,Q',hQ,ho,a,W,h=>by
  obtain⟨σ,E,fr,kb,hs,hf,h⟩:=h
  simp only[lK]at h
  split at h
  ·rename_i hc
   have:=bW hf hc
   simp only[Den]at this
   exact wpIn_cond_true this (rF hX hm x hQ ho ⟨σ,E,fr,kb,hs,hf,h⟩)
  ·rename_i hc
   have:=bW hf hc
   simp only[Den]at this
   exact wpIn_cond_false this (rF hX hm y hQ ho ⟨σ,E,fr,kb,hs,hf,h⟩)
  ·rename_i b hc
   have:=bW hf hc
   simp only[Den]at this
   exact wpIn_cond_split this (fun hb=>rF hX hm x hQ ho ⟨σ,E,fr,kb,hs,hf,h.1 hb⟩) (fun hb=>rF hX hm y hQ ho ⟨σ,E,fr,kb,hs,hf,h.2 hb⟩)
  ·exact h.elim
 | .block id x,Q,Q',hQ,ho,a,W,h=>by
  refine wpIn_block (rF hX hm x (Q':=Exit.inBlock id Q') (Q:=fun e fr kb=>match e with
   | .exit i=>match cp i id with | true=>Q .normal fr kb | false=>Q (.exit i) fr kb
   |e=>Q e fr kb) ⟨fun e a W h=>?_,fun ch a a' w h=>hQ.nR ch a a' w h⟩ ho (by
   obtain⟨σ,E,fr,kb,hs,hf,h⟩:=h
   simp only[lK]at h
   exact⟨σ,E,fr,kb,hs,hf,h⟩))
  cases e with
  |normal=>exact hQ.hat _ _ _ h
  |exit i=>
   simp only[Exit.inBlock]
   simp only at h
   cases hb:cp i id with
   |true=>
    rw[if_pos (cU hb)]
    simp only[hb]at h
    exact hQ.hat _ _ _ h
   |false=>
    rw[if_neg (fun e=>by subst e;simp at hb)]
    simp only[hb]at h
    exact hQ.hat _ _ _ h
  |goto l=>exact hQ.hat _ _ _ h
  |ret=>exact hQ.hat _ _ _ h
  |panic ch=>exact hQ.hat _ _ _ h
  |outgrown=>exact hQ.hat _ _ _ h
 | .loop ..,Q,Q',hQ,ho,a,W,h=>by obtain⟨_,_,_,_,_,_,h⟩:=h;exact h.elim
 | .scope ..,Q,Q',hQ,ho,a,W,h=>by obtain⟨_,_,_,_,_,_,h⟩:=h;exact h.elim
 | .exit _,Q,Q',hQ,ho,a,W,h=>wpIn_exit (hQ.hat _ _ _ h)
 | .ret,Q,Q',hQ,ho,a,W,h=>by obtain⟨_,_,_,_,_,_,h⟩:=h;exact h.elim
 | .goto ..,Q,Q',hQ,ho,a,W,h=>by obtain⟨_,_,_,_,_,_,h⟩:=h;exact h.elim
 | .refuse ..,Q,Q',hQ,ho,a,W,h=>by obtain⟨_,_,_,_,_,_,h⟩:=h;exact h.elim
 | .rangeFunc ..,Q,Q',hQ,ho,a,W,h=>by obtain⟨_,_,_,_,_,_,h⟩:=h;exact h.elim
abbrev pT:=List V->KB->(V->KB->Prop)->Prop
def Jb (P:Program) (X:bJ) (yv:Value) (Y:pT) (o:Oper) (fr:Fr) (kb:KB) (K:V->KB->Prop):Prop:=
 match o.op with
 | .call {callee:=.value g,args:=args,argTypes:=_ }=>match ev fr g with
  |some (.any v)=>v=yv/\match evs fr args.toList with
   |some vs=>Y vs kb K
   |none=>False
  |_=>pG P X o fr kb K
 | .defer _=>False
 |_=>pG P X o fr kb K
def xh (P:Program) (c:Cx) (l:Nat) (Y:pT):Prop:=
 ∀ vs kb K σ E W xs,Y vs kb K->Step c.σ c.E c.kb c.W σ E kb W->aq σ E vs xs->YieldAt Fence.wide 0 P l xs.toArray W (fun e W'=>∃ v x σ' E' kb',e= .returned x/\Step σ E kb W σ' E' kb' W'/\Den σ' E' v x/\K v kb')
theorem ac7 {P:Program} {X:bJ} (hX:bZ P X) {c:Cx} {l:Nat} {Y:pT} (hY:xh P c l Y) {o:Oper} {fr:Fr} {kb:KB} {K:V->KB->Prop} (h:Jb P X (.func (.yield l) #[] #[]) Y o fr kb K) {σ:Sg} {E:EH} {n:Nat} {a:Act} (hf:eu σ E fr n a) {W:World} (hs:Step c.σ c.E c.kb c.W σ E kb W) (Q:Exit->Act->World->Prop):
  o.wpIn Fence.wide 0 P a W (uR σ E kb W a o K) Q:=by
 unfold Jb at h
 split at h
 ·rename_i g args ats ho
  have hnd:∀ c,o.op≠.defer c:=fun c e=>by rw[ho]at e;cases e
  split at h
  ·rename_i v hv
   obtain⟨rfl,h⟩:=h
   split at h<;>try exact h.elim
   rename_i vs hvs
   have hg:=bW hf hv
   simp only[Den]at hg
   have hd:=AU hf hvs
   obtain⟨Gz,tmps,assign,body,hrun,ZJ⟩:=hY vs kb K σ E W _ h hs hd
   refine⟨fun _ _=>trivial,?_⟩
   show o.uponIn Fence.wide 0 P a _ Q ((o.semAt none a.eval).run P W)
   rw[Oper.semAt_none,XY ho hg]
   have ea:args.map a.eval=(args.toList.map a.eval).toArray:=by apply Array.ext';simp
   rw[ea,hrun]
   refine⟨fun q=>(by cases q),ZJ.mono ?_⟩
   rintro e W' ⟨v,x,σ',E',kb',rfl,h1,h2,h3⟩
   exact⟨σ',E',kb',v,x,h1,h2,rfl,h3⟩
  ·exact Cf (r:=none) hnd (vW hX h hf hs.inv Q)
 ·exact h.elim
 ·rename_i hnc hnd
  exact Cf (r:=none) (fun c e=>hnd c e) (vW hX h hf hs.inv Q)
def yO (P:Program) (X:bJ) (yv:Value) (Y:pT) (n:Nat) (ops:Array Oper):List Oper->(Fr->KB->Prop)->Fr->KB->Prop
 | [],K,fr,kb=>K fr kb
 |o::rest,K,fr,kb=>sB ops o fr (fun fr=>Jb P X yv Y o fr kb (fun v kb'=>kc n o.dst v fr (fun fr'=>yO P X yv Y n ops rest K fr' kb')))
  (fun fr=>kc n o.dst (.any undef) fr (fun fr'=>yO P X yv Y n ops rest K fr' kb))
theorem JY {P:Program} {X:bJ} (hX:bZ P X) {c:Cx} {l:Nat} {Y:pT} (hY:xh P c l Y) {n:Nat} {ops:Array Oper} {Q:Exit->Act->World->Prop} {K:Fr->KB->Prop} (hQ:∀ a W,jj c n K a W->Q .normal a W):
  ∀{os:List Oper} {a:Act} {W:World},jj c n (yO P X (.func (.yield l) #[] #[]) Y n ops os K) a W->wpListIn Fence.wide 0 P ops Q os a W
 | [],a,W,h=>hQ a W h
 |o::rest,a,W,h=>by
  obtain⟨σ,E,fr,kb,hs,hf,h⟩:=h
  simp only[yO]at h
  obtain⟨fr',hf',h | h⟩:=vx h hf
  ·unfold wpListIn
   rw[if_pos h.1]
   exact Oper.wpIn_mono (fun a' W' ha=>JY hX hY hQ (ha.hat hs hf')) (ac7 hX hY h.2 hf' hs Q)
  ·unfold wpListIn
   rw[if_neg (by simp [h.1])]
   obtain⟨fG,h1,h2⟩:=ni h.2 hf' (σ:=σ) (E:=E) (x:=undef) (by simp [Den])
   exact⟨fun _ _=>trivial,JY hX hY hQ ⟨σ,E,fG,kb,hs,h1,h2⟩⟩
def nU (P:Program) (X:bJ) (yv:Value) (Y:pT) (kU:Option LI) (n0 n:Nat):Code->(Exit->Fr->KB->Prop)->Fr->KB->Prop
 | .skip,Q,fr,kb=>Q .normal fr kb
 | .label _,Q,fr,kb=>Q .normal fr kb
 | .region _ ops false,Q,fr,kb=>yO P X yv Y n ops ops.toList (Q .normal) fr kb
 | .seq x y,Q,fr,kb=>nU P X yv Y kU n0 n x (fun e fr kb=>match e with | .normal=>nU P X yv Y kU n0 n y Q fr kb | e=>Q e fr kb) fr kb
 | .cond c x y,Q,fr,kb=>match ev fr c with
  |some .tt=>nU P X yv Y kU n0 n x Q fr kb
  |some .ff=>nU P X yv Y kU n0 n y Q fr kb
  |some (.sb b)=>(b=true->nU P X yv Y kU n0 n x Q fr kb)/\(b=false->nU P X yv Y kU n0 n y Q fr kb)
  |_=>False
 | .block id x,Q,fr,kb=>nU P X yv Y kU n0 n x (fun e fr kb=>match e with
  | .exit i=>match cp i id with | true=>Q .normal fr kb | false=>Q (.exit i) fr kb
  |e=>Q e fr kb) fr kb
 | .loop x,Q,fr,kb=>match kU with
  |some li=>pW n0 li.dU li.live fr kb (fun s=>At li s/\
   li.all (fun i=>nU P X yv Y kU n0 n x (fun e fr kb=>match e with
    | .normal=>pW n0 li.dU li.live fr kb (fun s=>Nx li i s)
    |e=>Q e fr kb) (li.live.zip (li.st i).1) (li.st i).2))
  |none=>False
 | .exit id,Q,fr,kb=>Q (.exit id) fr kb
 | .ret,Q,fr,kb=>Q .ret fr kb
 |_,_,_,_=>False
theorem rG {P:Program} {X:bJ} (hX:bZ P X) {c:Cx} {l:Nat} {Y:pT} (hY:xh P c l Y) {kU:Option LI} {n:Nat}:∀(code:Code) {Q:Exit->Fr->KB->Prop} {Q':Exit->Act->World->Prop},DR c n Q Q'->∀{a:Act} {W:World},
  jj c n (nU P X (.func (.yield l) #[] #[]) Y kU c.σ.length n code Q) a W->code.wp P Q' a W
 | .skip,Q,Q',hQ,a,W,h=>wp_skip (hQ.hat _ _ _ h)
 | .label _,Q,Q',hQ,a,W,h=>wp_label (hQ.hat _ _ _ h)
 | .exit id,Q,Q',hQ,a,W,h=>wp_exit (hQ.hat _ _ _ h)
 | .ret,Q,Q',hQ,a,W,h=>wp_ret (hQ.hat _ _ _ h)
 | .region id ops false,Q,Q',hQ,a,W,h=>wpIn_wide.1 (wpIn_region_list (JY hX hY (fun a W h=>hQ.hat _ _ _ h) h))
 | .seq x y,Q,Q',hQ,a,W,h=>by
  refine wp_seq (rG hX hY x (Q':=Exit.then (y.wp P Q') Q') (Q:=fun e fr kb=>match e with | .normal=>nU P X (.func (.yield l) #[] #[]) Y kU c.σ.length n y Q fr kb | e=>Q e fr kb) ⟨fun e a W h=>?_,fun ch a a' w h=>hQ.nR ch a a' w h⟩ h)
  cases e with
  |normal=>exact rG hX hY y hQ h
  |exit id=>exact hQ.hat _ _ _ h
  |goto l=>exact hQ.hat _ _ _ h
  |ret=>exact hQ.hat _ _ _ h
  |panic ch=>exact hQ.hat _ _ _ h
  |outgrown=>exact hQ.hat _ _ _ h
 | .cond o x y,Q,Q',hQ,a,W,h=>by
  obtain⟨σ,E,fr,kb,hs,hf,h⟩:=h
  simp only[nU]at h
  split at h
  ·rename_i hc
   have:=bW hf hc
   simp only[Den]at this
   exact wp_cond_true this (rG hX hY x hQ ⟨σ,E,fr,kb,hs,hf,h⟩)
  ·rename_i hc
   have:=bW hf hc
   simp only[Den]at this
   exact wp_cond_false this (rG hX hY y hQ ⟨σ,E,fr,kb,hs,hf,h⟩)
  ·rename_i b hc
   have:=bW hf hc
   simp only[Den]at this
   exact wp_cond_split this (fun hb=>rG hX hY x hQ ⟨σ,E,fr,kb,hs,hf,h.1 hb⟩) (fun hb=>rG hX hY y hQ ⟨σ,E,fr,kb,hs,hf,h.2 hb⟩)
  ·exact h.elim
 | .block id x,Q,Q',hQ,a,W,h=>by
  refine wp_block (rG hX hY x (Q':=Exit.inBlock id Q') (Q:=fun e fr kb=>match e with
   | .exit i=>match cp i id with | true=>Q .normal fr kb | false=>Q (.exit i) fr kb
   |e=>Q e fr kb) ⟨fun e a W h=>?_,fun ch a a' w h=>hQ.nR ch a a' w h⟩ h)
  cases e with
  |normal=>exact hQ.hat _ _ _ h
  |exit i=>
   simp only[Exit.inBlock]
   simp only at h
   cases hb:cp i id with
   |true=>
    rw[if_pos (cU hb)]
    simp only[hb]at h
    exact hQ.hat _ _ _ h
   |false=>
    rw[if_neg (fun e=>by subst e;simp at hb)]
    simp only[hb]at h
    exact hQ.hat _ _ _ h
  |goto l=>exact hQ.hat _ _ _ h
  |ret=>exact hQ.hat _ _ _ h
  |panic ch=>exact hQ.hat _ _ _ h
  |outgrown=>exact hQ.hat _ _ _ h
 | .loop x,Q,Q',hQ,a,W,h=>by
  obtain⟨σ,E,fr,kb,hs,hf,h⟩:=h
  simp only[nU]at h
  split at h<;>try exact h.elim
  rename_i li
  obtain⟨s,⟨⟨⟨i,rfl⟩⟩,G3⟩,hh⟩:=xn h hs hf
  refine wp_loop_ghost (fun k a w=>∃ i,li.μ i=k/\jj c n (fun fr' kb'=>fr'=li.live.zip (li.st i).1/\kb'=(li.st i).2) a w) (li.μ i) ⟨i,rfl,hh⟩ ?_
  rintro k a' w' ⟨j,rfl,σ',E',fr',kb',hs',hf',rfl,rfl⟩
  refine rG hX hY x (Q':=Exit.then (fun a' w'=>∃ n',n'<li.μ j/\∃ i,li.μ i=n'/\jj c n (fun fr' kb'=>fr'=li.live.zip (li.st i).1/\kb'=(li.st i).2) a' w') Q') (Q:=fun e fr kb=>match e with
     | .normal=>pW c.σ.length li.dU li.live fr kb (fun s=>Nx li j s)
     |e=>Q e fr kb) ⟨fun e a W h=>?_,fun ch a a' w h=>hQ.nR ch a a' w h⟩ ⟨σ',E',_,_,hs',hf',li.xk _ G3 j⟩
  cases e with
  |normal=>
   obtain⟨σ2,E2,fG,bE,oE,gf,h2⟩:=h
   obtain⟨s,⟨⟨j',rfl,hlt⟩⟩,hh⟩:=xn h2 oE gf
   exact⟨_,hlt,j',rfl,hh⟩
  |exit id=>exact hQ.hat _ _ _ h
  |goto l=>exact hQ.hat _ _ _ h
  |ret=>exact hQ.hat _ _ _ h
  |panic ch=>exact hQ.hat _ _ _ h
  |outgrown=>exact hQ.hat _ _ _ h
 | .region id ops true,Q,Q',hQ,a,W,h=>by obtain⟨_,_,_,_,_,_,h⟩:=h;exact h.elim
 | .scope ..,Q,Q',hQ,a,W,h=>by obtain⟨_,_,_,_,_,_,h⟩:=h;exact h.elim
 | .goto ..,Q,Q',hQ,a,W,h=>by obtain⟨_,_,_,_,_,_,h⟩:=h;exact h.elim
 | .refuse ..,Q,Q',hQ,a,W,h=>by obtain⟨_,_,_,_,_,_,h⟩:=h;exact h.elim
 | .rangeFunc ..,Q,Q',hQ,a,W,h=>by obtain⟨_,_,_,_,_,_,h⟩:=h;exact h.elim
def JQ (P:Program) (X:bJ) (yv:Value) (Y:pT) (kU:Option LI) (f:FuncId) (args:List V) (kb:KB) (K:V->KB->Prop):Prop:=
 match P.funcs[f]? with
 |some fn=>match fn.body,Nat.ble args.length fn.ntmps with
  |some code,true=>nU P X yv Y kU kb.length fn.ntmps code (fin P fn K) (r_ 0 args) kb
  |_,_=>False
 |none=>False
theorem ael {P:Program} {X:bJ} (hX:bZ P X) {l:Nat} {Y:pT} {kU:Option LI} {f:FuncId} {args:List V} {kb:KB} {K:V->KB->Prop} (h:JQ P X (.func (.yield l) #[] #[]) Y kU f args kb K) {σ:Sg} {E:EH} {W:World} {xs:List Value} (hi:Inv σ E kb W)
  (hd:aq σ E args xs) (hY:xh P ⟨σ,E.strip,kb,W⟩ l Y):Calls P f xs.toArray W (fun e W'=>∃ v r σ' E' kb',e= .returned v/\Step σ E kb W σ' E' kb' W'/\Den σ' E' r v/\K r kb'):=by
 unfold JQ at h
 split at h<;>try exact h.elim
 rename_i fn hfn
 split at h<;>try exact h.elim
 rename_i code Ha hb
 have hle:=Nat.le_of_ble_eq_true hb
 rw[<- hd.len]at hle
 rw[<- hi.len]at h
 have hi0:=hi.strip
 have Hc:aq σ E.strip args xs:=by
  have:=aq.dr (τ:=[]) E.wo hd
  rwa [fD]at this
 refine callsIn_wide.1 (callsIn_of_wp_marks (n:=0) hfn Ha trivial (wpIn_wide.2 (wp_mono (Q:=fun e a w=>match e with | .panic _=>False | e=>bodyPostM Fence.wide 0 P fn (fun e W'=>∃ v r σ' E' kb',e= .returned v/\Step σ E kb W σ' E' kb' W'/\Den σ' E' r v/\K r kb') e a w) (rG hX (c:=⟨σ,E.strip,kb,W⟩) hY (kU:=kU) (n:=fn.ntmps) code (Q:=fin P fn K) ⟨fun e a' W' hh=>?_,fun ch a a' w hp=>?_⟩ ?_) (fun e a w hq=>?_))))
 ·obtain⟨σ',E',fr',kb',hs,hf,hK⟩:=hh
  have key:qm P fr' kb' fn.results.toList (fun vs=>K (sU vs) kb')->LeavesInM Fence.wide 0 P fn a'.tmps (fun e W'=>∃ v r σ' E' kb',e= .returned v/\Step σ E kb W σ' E' kb' W'/\Den σ' E' r v/\K r kb') a'.defers .returning W':=by
   intro hK
   refine HX a'.defers W' hf.defers.nodup (fun d hd=>?_) (fun W2 e1 e2 e3 e4 e5=>?_)
   ·obtain⟨b,h1,h2⟩:=hf.defers.all d hd
    exact⟨b,h1,hs.inv.dj b _ h2⟩
   ·obtain⟨E2,h1,h2⟩:=Step.Uq hi hs e1 e2 e3 e4 (M:=fun b=>{target:=.collected b,args:=#[] }∈a'.defers) (fun b hb=>by
     obtain⟨b',k1,k2⟩:=hf.defers.all _ hb
     cases k1;exact k2) (fun b hb=>e5 b (fun d hd e=>hb (e ▸ hd)))
    have gf:eu σ' E2 fr' fn.ntmps {a' with defers:=[] }:=⟨hf.size,ot.nil _,fun t v hv=>by
     obtain⟨x,k1,k2⟩:=hf.get t v hv
     refine⟨x,k1,?_⟩
     have:=Den.dr (τ:=[]) h2 k2
     rwa [fD]at this⟩
    obtain⟨v,r,k1,k2,k3⟩:=N_ gf h1.inv hK
    exact⟨v,k1,v,r,σ',E2,kb',rfl,h1,k2,k3⟩
  cases e with
  |normal=>exact key hK
  |ret=>exact key hK
  |exit id=>exact hK.elim
  |goto l=>exact hK.elim
  |panic ch=>exact hK.elim
  |outgrown=>exact hK.elim
 ·exact hp
 rotate_left
 ·cases e<;>first | exact hq | exact hq.elim
 ·refine⟨σ,E.strip,r_ 0 args,kb,Step.refl hi0,⟨by simp;omega,ot.nil _,fun t v hv=>?_⟩,h⟩
  obtain⟨x,_,h2,h3⟩:=H7 0 Hc hv
  refine⟨x,?_,h3⟩
  have hlt:t<xs.length:=by
   have:=(bG.1 h2).1
   simpa using this
  rw[Array.getElem?_append_left (by simpa using hlt)]
  simpa using h2
def tE (n:Nat):List Nat->List V->Fr->Option Fr
 | [],[],fr=>some fr
 |t::ts,v::vs,fr=>match Nat.blt t n with
  |true=>tE n ts vs ((t,v)::fr)
  |false=>none
 |_,_,_=>none
theorem MK {σ:Sg} {E:EH} {n:Nat}:∀{ts:List Nat} {vs:List V} {fr sx:Fr} {xs:List Value} {tmps:Array Value} {ds:List Deferred},tE n ts vs fr=some sx->aq σ E vs xs->eu σ E fr n {tmps:=tmps,defers:=ds }->
  ts.length=xs.length/\eu σ E sx n {tmps:=(ts.zip xs).foldl (fun tmps p=>tmps.setIfInBounds p.1 p.2) tmps,defers:=ds }
 | [],[],fr,sx,xs,tmps,ds,h,hd,hf=>by
  simp only[tE,bb.injEq]at h
  subst h
  simp only[aq]at hd
  subst hd
  exact⟨rfl,hf⟩
 |t::ts,v::vs,fr,sx,xs,tmps,ds,h,hd,hf=>by
  simp only[aq]at hd
  obtain⟨x,xs',rfl,h1,h2⟩:=hd
  simp only[tE]at h
  split at h<;>try (cases h;done)
  rename_i hb
  have hf':eu σ E ((t,v)::fr) n {tmps:=tmps.setIfInBounds t x,defers:=ds }:=hf.put (of_decide_eq_true (by simpa [Nat.blt_eq]using hb)) h1
  obtain⟨k1,k2⟩:=MK h h2 hf'
  exact⟨by simp [k1],k2⟩
 | [],_:: _,_,_,_,_,_,h,_,_=>by simp [tE]at h
 |_:: _,[],_,_,_,_,_,h,_,_=>by simp [tE]at h
def JH (P:Program) (X:bJ) (n:Nat) (ps:Array Tmp) (assign body:Code) (fr:Fr):pT:=fun vs kb K=>match tE n ps.toList vs fr with
 |some sx=>lK P X n assign (fun e fG bE=>match e with
  | .normal=>lK P X n body (fun e _ dB=>match e with | .normal=>K .tt dB | _=>False) fG bE
  |_=>False) sx kb
 |none=>False
theorem Inv.Sj {σ:Sg} {E:EH} {kb:KB} {W:World} (h:Inv σ E kb W) {l:Nat} (hno:¬ cq σ kb l) (hE:E l=none) (o:Obj):Inv σ E kb (W.putObj l o):=
 ⟨h.len,fun i r x h1 h2=>by
  have:=(h.obj i r x h1 h2).mono (τ:=[]) (W':=W.putObj l o) (EH.le.refl E) (fun b hb=>World.putObj_heap_other (fun e=>by subst e;exact hno ⟨i,r,x,h1,h2,hb⟩))
  simpa using this,h.dx,fun b x hb=>by
  rw[World.putObj_heap_other (fun e=>by subst e;rw[hE]at hb;cases hb)]
  exact h.dj b x hb,h.sep⟩
theorem Step.afN {σ2:Sg} {E2:EH} {bE:KB} {W2:World} {σ3:Sg} {E3:EH} {dB:KB} {W3:World} {uQ:Sg} {E4:EH} {ue:KB} {W4:World} {l:Nat} {o o1:Obj}
  (SA:Step σ2 E2 bE W2 σ3 E3 dB W3) (SB:Step σ3 E3 dB (W3.putObj l o1) uQ E4 ue W4) (hl:W2.heap[l]? =some o) (hno:¬ cq uQ ue l) (hE:E4 l=none):Step σ2 E2 bE W2 uQ E4 ue (W4.putObj l o):=by
 have hlt:l<W2.heap.size:=(Array.getElem?_eq_some_iff.1 hl).1
 have h1:=SA.bQ.size
 have h2:=SB.bQ.size
 rw[World.putObj_size]at h2
 refine⟨SB.inv.Sj hno hE o,⟨?_,?_,?_,by rw[World.putObj_size];omega,fun k hk hn=>?_⟩,?_,SA.le.trans SB.le,fun b hb=>?_,fun b x hb=>?_⟩
 ·exact SB.bQ.os.trans SA.bQ.os
 ·exact SB.bQ.tape.trans SA.bQ.tape
 ·exact SB.bQ.output.trans SA.bQ.output
 ·by_cases iQ:k=l
  ·subst iQ
   rw[World.putObj_heap_same (by omega),hl]
  ·rw[World.putObj_heap_other iQ,SB.bQ.block k (by rw[World.putObj_size];omega) (fun ho=>(SA.own k ho).elim hn (fun q=>by omega)),World.putObj_heap_other iQ]
   exact SA.bQ.block k hk hn
 ·obtain⟨τ,rfl⟩:=SA.pre
  obtain⟨La,rfl⟩:=SB.pre
  exact⟨τ++La,by rw[dO]⟩
 ·rcases SB.own b hb with q | q
  ·exact SA.own b q
  ·rw[World.putObj_size]at q;exact .inr (by omega)
 ·rcases SB.new b x hb with q | q | q
  ·exact SA.new b x q
  ·rcases SA.own b q with q | q
   ·exact .inr (.inl q)
   ·exact .inr (.inr q)
  ·rw[World.putObj_size]at q;exact .inr (.inr (by omega))
theorem aed {P:Program} {X:bJ} (hX:bZ P X) (hm:P.follows .mixedOrders=true) {c:Cx} {l n:Nat} {r:Loop} (hl:c.W.heap[l]? =some (.loop r)) (hno:¬ cq c.σ c.kb l) (hE:c.E l=none) (hr:r.state= .ready) (hp:r.pending=none) {fr:Fr} {ds:List Deferred}
  (hf:eu c.σ c.E fr n {tmps:=r.tmps,defers:=ds }):xh P c l (JH P X n r.params r.assign r.body fr):=by
 intro vs bE K σ2 E2 W2 xs hy oE hd
 have hlt:l<c.W.heap.size:=(Array.getElem?_eq_some_iff.1 hl).1
 have hl2:W2.heap[l]? =some (.loop r):=by rw[oE.bQ.block l hlt hno];exact hl
 have Hr:¬ cq σ2 bE l:=fun h=>(oE.own l h).elim hno (fun q=>by omega)
 have vy:E2 l=none:=by
  cases h:E2 l with
  |none=>rfl
  |some x=>
   rcases oE.new l x h with k | k | k
   ·rw[hE]at k;cases k
   ·exact(hno k).elim
   ·omega
 have Zu:l<W2.heap.size:=(Array.getElem?_eq_some_iff.1 hl2).1
 unfold JH at hy
 split at hy<;>try exact hy.elim
 rename_i sx hb
 have gf:eu σ2 E2 fr n {tmps:=r.tmps,defers:=[] }:=by
  obtain⟨τ,rfl⟩:=oE.pre
  have:=hf.mono (τ:=τ) oE.le
  exact⟨this.size,ot.nil _,this.get⟩
 obtain⟨hlen,hfr⟩:=MK hb hd gf
 have XX:(r.params.zip xs.toArray).foldl (fun tmps (x:Tmp×Value)=>tmps.setIfInBounds x.1 x.2) r.tmps=(r.params.toList.zip xs).foldl (fun tmps p=>tmps.setIfInBounds p.1 p.2) r.tmps:=by
  rw[<- Array.foldl_toList]
  simp
 refine⟨r.fn,_,r.assign,r.body,run_yield hl2 (by simpa using hlen.symm),roundIn_of_wpIn (F:=Fence.wide) trivial ?_⟩
 refine rF hX hm (c:=⟨σ2,E2,bE,W2⟩) (n:=n) (r:=some l) r.assign (Q:=fun e fG bE=>match e with
   | .normal=>lK P X n r.body (fun e _ dB=>match e with | .normal=>K .tt dB | _=>False) fG bE
   |_=>False) ⟨fun e a' W3 hh=>?_,fun ch a a' w h=>h⟩ (fun⟨_,_,h⟩=>h) ⟨σ2,E2,sx,bE,Step.refl oE.inv,?_,hy⟩
 rotate_left
 ·have:=hfr
  rw[<- XX]at this
  exact this
 cases e with
 |normal=>
  obtain⟨σ3,E3,fG,dB,xY,Y6,hh⟩:=hh
  have Bl:W3.heap[l]? =some (.loop r):=by rw[xY.bQ.block l Zu Hr];exact hl2
  have vD:¬ cq σ3 dB l:=fun h=>(xY.own l h).elim Hr (fun q=>by dsimp only at q;omega)
  have Bb:E3 l=none:=by
   cases h:E3 l with
   |none=>rfl
   |some x=>
    rcases xY.new l x h with k | k | k
    ·dsimp only at k;rw[vy]at k;cases k
    ·exact(Hr k).elim
    ·dsimp only at k;omega
  have hlt3:l<W3.heap.size:=(Array.getElem?_eq_some_iff.1 Bl).1
  refine⟨_,run_beginRound Bl hr,?_⟩
  have Zc:=xY.inv.Sj vD Bb (.loop {r with state:=.busy })
  refine rF hX hm (c:=⟨σ3,E3,dB,W3.putObj l (.loop {r with state:=.busy })⟩) (n:=n) (r:=some l) r.body (Q:=fun e _ dB=>match e with | .normal=>K .tt dB | _=>False) ⟨fun e a5 W4 hh=>?_,fun ch a a' w h=>h⟩ (fun⟨_,_,h⟩=>h) ⟨σ3,E3,fG,dB,Step.refl Zc,Y6,hh⟩
  cases e with
  |normal=>
   obtain⟨uQ,E4,fr4,ue,hs4,hf4,hK⟩:=hh
   have hsz:l<(W3.putObj l (.loop {r with state:=.busy })).heap.size:=by rw[World.putObj_size];exact hlt3
   have Zo:W4.heap[l]? =some (.loop {r with state:=.busy }):=by
    rw[hs4.bQ.block l hsz vD];exact World.putObj_heap_same hlt3
   have Zy:¬ cq uQ ue l:=fun h=>(hs4.own l h).elim vD (fun q=>by dsimp only at q;omega)
   have Yz:E4 l=none:=by
    cases h:E4 l with
    |none=>rfl
    |some x=>
     rcases hs4.new l x h with k | k | k
     ·dsimp only at k;rw[Bb]at k;cases k
     ·exact(vD k).elim
     ·dsimp only at k;omega
   have er:({r with state:=.ready,pending:=none }:Loop)=r:=by cases r;simp only at hr hp;subst hr;subst hp;rfl
   refine⟨_,_,run_endRound none Zo,.tt,.bool true,uQ,E4,ue,rfl,?_,by simp only[Den],hK⟩
   show Step σ2 E2 bE W2 uQ E4 ue (W4.putObj l (.loop {r with state:=.ready,pending:=none }))
   rw[er]
   exact Step.afN xY hs4 hl2 Zy Yz
  |exit id=>obtain⟨_,_,_,_,_,_,h⟩:=hh;exact h.elim
  |goto l=>obtain⟨_,_,_,_,_,_,h⟩:=hh;exact h.elim
  |ret=>obtain⟨_,_,_,_,_,_,h⟩:=hh;exact h.elim
  |panic ch=>obtain⟨_,_,_,_,_,_,h⟩:=hh;exact h.elim
  |outgrown=>obtain⟨_,_,_,_,_,_,h⟩:=hh;exact h.elim
 |exit id=>obtain⟨_,_,_,_,_,_,h⟩:=hh;exact h.elim
 |goto l=>obtain⟨_,_,_,_,_,_,h⟩:=hh;exact h.elim
 |ret=>obtain⟨_,_,_,_,_,_,h⟩:=hh;exact h.elim
 |panic ch=>obtain⟨_,_,_,_,_,_,h⟩:=hh;exact h.elim
 |outgrown=>obtain⟨_,_,_,_,_,_,h⟩:=hh;exact h.elim
def gX (P:Program) (X:bJ):(Nat->Option LI)->Nat->Nat->Code->(Exit->Fr->KB->Prop)->Fr->KB->Prop
 |T,n0,n,.skip,Q,fr,kb=>Q .normal fr kb
 |T,n0,n,.label _,Q,fr,kb=>Q .normal fr kb
 |T,n0,n,.region _ ops false,Q,fr,kb=>match Region.noSelect ops with
  |true=>wj P X n ops ops.toList (Q .normal) fr kb
  |false=>ut P X n ops ops.toList (Q .normal) fr kb
 |T,n0,n,.region _ ops true,Q,fr,kb=>match Region.noSelect ops,AQ ops with
  |true,true=>mq P X n ops (iY P ops 0 ops.size) ops.size 0 [] (Q .normal) fr kb
  |_,_=>False
 |T,n0,n,.seq x y,Q,fr,kb=>match (o8 y).bind (fun r=>T (1000+r))with
  |some li=>gX P X T n0 n x (fun e fr kb=>match e with | .normal=>pW n0 li.dU li.live fr kb (fun s=>At li s) | e=>Q e fr kb) fr kb/\
    li.all (fun i=>gX P X (C2 li i T) n0 n y Q (li.live.zip (li.st i).1) (li.st i).2)
  |none=>gX P X T n0 n x (fun e fr kb=>match e with | .normal=>gX P X T n0 n y Q fr kb | e=>Q e fr kb) fr kb
 |T,n0,n,.cond c x y,Q,fr,kb=>match ev fr c with
  |some .tt=>gX P X T n0 n x Q fr kb
  |some .ff=>gX P X T n0 n y Q fr kb
  |some (.sb b)=>(b=true->gX P X T n0 n x Q fr kb)/\(b=false->gX P X T n0 n y Q fr kb)
  |_=>False
 |T,n0,n,.block id x,Q,fr,kb=>gX P X T n0 n x (fun e fr kb=>match e with
  | .exit i=>match cp i id with | true=>Q .normal fr kb | false=>Q (.exit i) fr kb
  |e=>Q e fr kb) fr kb
 |T,n0,n,.loop x,Q,fr,kb=>match (o8 x).bind T with
  |some li=>pW n0 li.dU li.live fr kb (fun s=>At li s/\
    li.all (fun i=>gX P X (C2 li i T) n0 n x (fun e fr kb=>match e with
     | .normal=>pW n0 li.dU li.live fr kb (fun s=>Nx li i s)
     |e=>Q e fr kb) (li.live.zip (li.st i).1) (li.st i).2))
  |none=>iter (fun Q fr kb=>gX P X T n0 n x Q fr kb) Q 600 fr kb
 |T,n0,n,.scope x,Q,fr,kb=>gX P X T n0 n x (fun e fr kb=>match e with | .goto _=>False | e=>Q e fr kb) fr kb
 |T,n0,n,.rangeFunc g ps assign body,Q,fr,kb=>match ev fr g with
  |some (.fn f cap)=>match Bg P f with
   |true=>match (o8 body).bind (fun r=>T (2000+r))with
    |none=>∀ l,X f (.any (.func (.yield l) #[] #[])::cap) kb (fun _ kb'=>Q .normal fr kb')
    |some lo=>∀ l,JQ P X (.func (.yield l) #[] #[]) (JH P X n ps assign body fr) (lo.itl l) f (.any (.func (.yield l) #[] #[])::cap) kb (fun _ kb'=>Q .normal fr kb')
   |false=>False
  |_=>False
 |T,n0,n,.exit id,Q,fr,kb=>Q (.exit id) fr kb
 |T,n0,n,.ret,Q,fr,kb=>Q .ret fr kb
 |_,_,_,_,_,_,_=>False
theorem nV {P:Program} {X:bJ} (hX:bZ P X) (hm:P.follows .mixedOrders=true) {c:Cx} {n:Nat}:∀(code:Code) {T:Nat->Option LI} {Q:Exit->Fr->KB->Prop} {Q':Exit->Act->World->Prop},DR c n Q Q'->∀{a:Act} {W:World},
  jj c n (gX P X T c.σ.length n code Q) a W->code.wp P Q' a W
 | .skip,T,Q,Q',hQ,a,W,h=>wp_skip (hQ.hat _ _ _ h)
 | .label _,T,Q,Q',hQ,a,W,h=>wp_label (hQ.hat _ _ _ h)
 | .exit id,T,Q,Q',hQ,a,W,h=>wp_exit (hQ.hat _ _ _ h)
 | .ret,T,Q,Q',hQ,a,W,h=>wp_ret (hQ.hat _ _ _ h)
 | .region id ops false,T,Q,Q',hQ,a,W,h=>by
  cases po:Region.noSelect ops with
  |true=>
   simp only[gX,po]at h
   exact wp_region_list (CN hX (fun a W h=>hQ.hat _ _ _ h) h)
  |false=>
   simp only[gX,po]at h
   exact ad7 hX (fun a W h=>hQ.hat _ _ _ h) h
 | .region id ops true,T,Q,Q',hQ,a,W,h=>by
  obtain⟨σ,E,fr,kb,hs,hf,h⟩:=h
  simp only[gX]at h
  split at h<;>try exact h.elim
  rename_i po xT
  refine wp_region_any hm ?_
  have hd:=(hs.trans (Inv.drew hs.inv))
  exact(NX hX po xT (Q:=Q') (K:=Q .normal) (fun a W h=>hQ.hat _ _ _ h) hQ.nR ops.size 0 _ [] fr kb a _ σ E [] ⟨by simp,fun i hi=>by simp [hi]⟩ Closed.empty hd hf (fun r hr=>by cases hr) h).any
 | .seq x y,T,Q,Q',hQ,a,W,h=>by
  cases O3:(o8 y).bind (fun r=>T (1000+r))with
  |some li=>
   obtain⟨σ,E,fr,kb,hs,hf,h⟩:=h
   simp only[gX,O3]at h
   obtain⟨hx,hy⟩:=h
   refine wp_seq (nV hX hm x (Q':=Exit.then (y.wp P Q') Q') (Q:=fun e fr kb=>match e with | .normal=>pW c.σ.length li.dU li.live fr kb (fun s=>At li s) | e=>Q e fr kb) ⟨fun e a W h=>?_,fun ch a a' w h=>hQ.nR ch a a' w h⟩ ⟨σ,E,fr,kb,hs,hf,hx⟩)
   cases e with
   |normal=>
    obtain⟨σ2,E2,fG,bE,oE,gf,h2⟩:=h
    obtain⟨s,⟨⟨i,rfl⟩⟩,hh⟩:=xn h2 oE gf
    refine nV (T:=C2 li i T) hX hm y hQ ?_
    obtain⟨σ3,E3,fr3,dB,k1,k2,rfl,rfl⟩:=hh
    exact⟨σ3,E3,_,_,k1,k2,li.xk _ hy i⟩
   |exit id=>exact hQ.hat _ _ _ h
   |goto l=>exact hQ.hat _ _ _ h
   |ret=>exact hQ.hat _ _ _ h
   |panic ch=>exact hQ.hat _ _ _ h
   |outgrown=>exact hQ.hat _ _ _ h
  |none=>
  replace h:jj c n (gX P X T c.σ.length n x (fun e fr kb=>match e with | .normal=>gX P X T c.σ.length n y Q fr kb | e=>Q e fr kb)) a W:=by
   obtain⟨σ,E,fr,kb,hs,hf,h⟩:=h
   simp only[gX,O3]at h
   exact⟨σ,E,fr,kb,hs,hf,h⟩
  refine wp_seq (nV hX hm x (Q':=Exit.then (y.wp P Q') Q') (Q:=fun e fr kb=>match e with | .normal=>gX P X T c.σ.length n y Q fr kb | e=>Q e fr kb) ⟨fun e a W h=>?_,fun ch a a' w h=>hQ.nR ch a a' w h⟩ h)
  cases e with
  |normal=>exact nV hX hm y hQ h
  |exit id=>exact hQ.hat _ _ _ h
  |goto l=>exact hQ.hat _ _ _ h
  |ret=>exact hQ.hat _ _ _ h
  |panic ch=>exact hQ.hat _ _ _ h
  |outgrown=>exact hQ.hat _ _ _ h
 | .cond o x y,T,Q,Q',hQ,a,W,h=>by
  obtain⟨σ,E,fr,kb,hs,hf,h⟩:=h
  simp only[gX]at h
  split at h
  ·rename_i hc
   have:=bW hf hc
   simp only[Den]at this
   exact wp_cond_true this (nV hX hm x hQ ⟨σ,E,fr,kb,hs,hf,h⟩)
  ·rename_i hc
   have:=bW hf hc
   simp only[Den]at this
   exact wp_cond_false this (nV hX hm y hQ ⟨σ,E,fr,kb,hs,hf,h⟩)
  ·rename_i b hc
   have:=bW hf hc
   simp only[Den]at this
   exact wp_cond_split this (fun hb=>nV hX hm x hQ ⟨σ,E,fr,kb,hs,hf,h.1 hb⟩) (fun hb=>nV hX hm y hQ ⟨σ,E,fr,kb,hs,hf,h.2 hb⟩)
  ·exact h.elim
 | .block id x,T,Q,Q',hQ,a,W,h=>by
  refine wp_block (nV hX hm x (Q':=Exit.inBlock id Q') (Q:=fun e fr kb=>match e with
   | .exit i=>match cp i id with | true=>Q .normal fr kb | false=>Q (.exit i) fr kb
   |e=>Q e fr kb) ⟨fun e a W h=>?_,fun ch a a' w h=>hQ.nR ch a a' w h⟩ h)
  cases e with
  |normal=>exact hQ.hat _ _ _ h
  |exit i=>
   simp only[Exit.inBlock]
   simp only at h
   cases hb:cp i id with
   |true=>
    rw[if_pos (cU hb)]
    simp only[hb]at h
    exact hQ.hat _ _ _ h
   |false=>
    rw[if_neg (fun e=>by subst e;simp at hb)]
    simp only[hb]at h
    exact hQ.hat _ _ _ h
  |goto l=>exact hQ.hat _ _ _ h
  |ret=>exact hQ.hat _ _ _ h
  |panic ch=>exact hQ.hat _ _ _ h
  |outgrown=>exact hQ.hat _ _ _ h
 | .loop x,T,Q,Q',hQ,a,W,h=>by
  obtain⟨σ,E,fr,kb,hs,hf,h⟩:=h
  simp only[gX]at h
  split at h
  case h_2=>
   refine wp_loop_ghost (fun k a w=>jj c n (iter (fun Q fr kb=>gX P X T c.σ.length n x Q fr kb) Q k) a w) 600 ⟨σ,E,fr,kb,hs,hf,h⟩ ?_
   intro k a' w' hk
   cases k with
   |zero=>obtain⟨_,_,_,_,_,_,h⟩:=hk;exact h.elim
   |succ k=>
    refine nV hX hm x (Q':=Exit.then (fun a' w'=>∃ n',n'<k+1/\jj c n (iter (fun Q fr kb=>gX P X T c.σ.length n x Q fr kb) Q n') a' w') Q')
     (Q:=fun e fr kb=>match e with | .normal=>iter (fun Q fr kb=>gX P X T c.σ.length n x Q fr kb) Q k fr kb | e=>Q e fr kb) ⟨fun e a W h=>?_,fun ch a a' w h=>hQ.nR ch a a' w h⟩ hk
    cases e with
    |normal=>exact⟨k,by omega,h⟩
    |exit id=>exact hQ.hat _ _ _ h
    |goto l=>exact hQ.hat _ _ _ h
    |ret=>exact hQ.hat _ _ _ h
    |panic ch=>exact hQ.hat _ _ _ h
    |outgrown=>exact hQ.hat _ _ _ h
  rename_i li hli
  obtain⟨s,⟨⟨⟨i,rfl⟩⟩,G3⟩,hh⟩:=xn h hs hf
  refine wp_loop_ghost (fun k a w=>∃ i,li.μ i=k/\jj c n (fun fr' kb'=>fr'=li.live.zip (li.st i).1/\kb'=(li.st i).2) a w) (li.μ i) ⟨i,rfl,hh⟩ ?_
  rintro k a' w' ⟨j,rfl,σ',E',fr',kb',hs',hf',rfl,rfl⟩
  refine nV hX hm x (T:=C2 li j T) (Q':=Exit.then (fun a' w'=>∃ n',n'<li.μ j/\∃ i,li.μ i=n'/\jj c n (fun fr' kb'=>fr'=li.live.zip (li.st i).1/\kb'=(li.st i).2) a' w') Q') (Q:=fun e fr kb=>match e with
     | .normal=>pW c.σ.length li.dU li.live fr kb (fun s=>Nx li j s)
     |e=>Q e fr kb) ⟨fun e a W h=>?_,fun ch a a' w h=>hQ.nR ch a a' w h⟩ ⟨σ',E',_,_,hs',hf',li.xk _ G3 j⟩
  cases e with
  |normal=>
   obtain⟨σ2,E2,fG,bE,oE,gf,h2⟩:=h
   obtain⟨s,⟨⟨j',rfl,hlt⟩⟩,hh⟩:=xn h2 oE gf
   exact⟨_,hlt,j',rfl,hh⟩
  |exit id=>exact hQ.hat _ _ _ h
  |goto l=>exact hQ.hat _ _ _ h
  |ret=>exact hQ.hat _ _ _ h
  |panic ch=>exact hQ.hat _ _ _ h
  |outgrown=>exact hQ.hat _ _ _ h
 | .rangeFunc g ps assign body,T,Q,Q',hQ,a,W,h=>by
  obtain⟨σ,E,fr,kb,hs,hf,h⟩:=h
  simp only[gX]at h
  split at h<;>try exact h.elim
  rename_i f cap hg
  split at h<;>try exact h.elim
  rename_i hb
  unfold Bg at hb
  split at hb<;>try (cases hb;done)
  rename_i fn hfn
  simp only[km,lR,beq_eq_false_iff_ne,ne_eq]at hb
  obtain⟨ah4,hbody⟩:=Option.isSome_iff_exists.1 hb.1
  have xU:=bW hf hg
  simp only[Den]at xU
  obtain⟨cs,Hf,hcs⟩:=xU
  refine wpIn_wide.1 (wpIn_rangeFunc (F:=Fence.wide) (n:=0) fun Gz _=>?_)
  let r:Loop:={state:=.ready,pending:=none,fn:=Gz,tmps:=a.tmps,params:=ps,assign,body,defers:=W.heap.size }
  obtain⟨E1,hst,Yy,OF,hl⟩:=Step.XV hs.inv r
  have hres:∀ w,(resolve a.eval (rangeCall g (W.heap.size+1)) 0).run P w= .ok {target:=.fn (.func f) cs.toArray,args:=#[.func (.yield (W.heap.size+1)) #[] #[]] } w:=by
   intro w
   have hc:a.eval (.const (.func (.yield (W.heap.size+1)) #[] #[]))= .func (.yield (W.heap.size+1)) #[] #[]:=rfl
   simp [resolve,rangeCall,Deferred.ofValue,Hf,hc]
  have hinv:∀ w,(invoke (.fn (.func f) cs.toArray) #[.func (.yield (W.heap.size+1)) #[] #[]]).run P w= .ok (.enter f (#[.func (.yield (W.heap.size+1)) #[] #[]]++cs.toArray)) w:=by
   intro w
   simp [invoke,callFunc,hfn,hb.2,hbody]
  refine⟨W.heap.size+1,[{target:=.collected W.heap.size,args:=#[] }],_,_,_,f,_,_,run_enterLoop_outer Gz a.tmps ps assign body,hres _,fun _ _=>trivial,hinv _,by simp [Fence.wide],?_⟩
  refine callsIn_wide.2 ?_
  have O2:=aq.mono (τ:=[]) hst.le hcs
  rw[fD]at O2
  have hno:¬ cq σ kb (W.heap.size+1):=fun ho=>by have:=hs.inv.lt ho;omega
  have hdl:aq σ E1 (V.any (.func (.yield (W.heap.size+1)) #[] #[])::cap) (.func (.yield (W.heap.size+1)) #[] #[]::cs):=aq.cons (by simp [Den]) O2
  have G8:Calls P f (Value.func (.yield (W.heap.size+1)) #[] #[]::cs).toArray ((W.alloc (.deferred (some []))).alloc (.loop r)) (fun e W'=>∃ v rv σ' E' kb',e= .returned v/\Step σ E1 kb ((W.alloc (.deferred (some []))).alloc (.loop r)) σ' E' kb' W'/\Den σ' E' rv v/\Q .normal fr kb'):=by
   split at h
   ·exact hX f _ kb _ (h (W.heap.size+1)) σ E1 _ _ hst.inv hdl
   ·rename_i lo _
    refine ael hX (h (W.heap.size+1)) hst.inv hdl ?_
    refine aed hX hm (c:=⟨σ,E1.strip,kb,(W.alloc (.deferred (some []))).alloc (.loop r)⟩) (r:=r) (ds:=[]) hl hno (by simp only[EH.strip,OF]) rfl rfl ?_
    refine⟨hf.size,ot.nil _,fun t v hv=>?_⟩
    obtain⟨x,k1,k2⟩:=hf.get t v hv
    have k3:=Den.mono (τ:=[]) hst.le k2
    have k4:=Den.dr (τ:=[]) E1.wo k3
    rw[fD,fD]at k4
    exact⟨x,k1,k4⟩
  have XQ:(#[.func (.yield (W.heap.size+1)) #[] #[]]++cs.toArray:Array Value)=((Value.func (.yield (W.heap.size+1)) #[] #[])::cs).toArray:=by apply Array.ext';simp
  rw[XQ]
  refine G8.mono ?_
  rintro e W3 ⟨v,rv,σ',E',kb',rfl,h1,h2,h3⟩
  have hsz:W.heap.size+1<((W.alloc (.deferred (some []))).alloc (.loop r)).heap.size:=by simp
  have Bl:W3.heap[W.heap.size+1]? =some (.loop r):=by
   rw[h1.bQ.block _ hsz hno];exact hl
  refine⟨none,_,run_endLoop Bl (by simp [r]),?_⟩
  have Bb:E' (W.heap.size+1)=none:=by
   cases hE:E' (W.heap.size+1)with
   |none=>rfl
   |some x=>
    rcases h1.new _ x hE with k | k | k
    ·rw[OF]at k;cases k
    ·exact(hno k).elim
    ·omega
  have vD:¬ cq σ' kb' (W.heap.size+1):=fun ho=>by
   rcases h1.own _ ho with k | k
   ·exact hno k
   ·omega
  have hall:=(hst.trans h1).other (l:=W.heap.size+1) (by omega) vD Bb (.loop {r with state:=.exhausted })
  obtain⟨τ,rfl⟩:=h1.pre
  refine hQ.hat _ _ _ ⟨σ++τ,E',fr,kb',hs.trans hall,?_,h3⟩
  have hf':=hf.mono (τ:=τ) (hst.le.trans h1.le)
  refine⟨hf'.size,⟨fun d hd=>?_,?_⟩,hf'.get⟩
  ·simp only[List.singleton_append,ey]at hd
   rcases hd with rfl | hd
   ·exact⟨_,rfl,h1.le _ _ Yy⟩
   ·exact hf'.defers.all d hd
  ·simp only[List.singleton_append]
   refine List.pairwise_cons.2 ⟨fun d hd e=>?_,hf.defers.nodup⟩
   subst e
   obtain⟨b,e1,e2⟩:=hf.defers.all _ hd
   cases e1
   have:=(Array.getElem?_eq_some_iff.1 (hs.inv.dj _ _ e2)).1
   omega
 | .scope x,T,Q,Q',hQ,a,W,h=>by
  refine wp_scope_straight (nV hX hm x (Q':=Exit.noGoto Q') (Q:=fun e fr kb=>match e with | .goto _=>False | e=>Q e fr kb) ⟨fun e a W h=>?_,fun ch a a' w h=>hQ.nR ch a a' w h⟩ h)
  cases e with
  |normal=>exact hQ.hat _ _ _ h
  |exit id=>exact hQ.hat _ _ _ h
  |goto l=>obtain⟨_,_,_,_,_,_,h⟩:=h;exact h.elim
  |ret=>exact hQ.hat _ _ _ h
  |panic ch=>exact hQ.hat _ _ _ h
  |outgrown=>exact hQ.hat _ _ _ h
 | .goto _,_,_,_,_,_,_,h=>by obtain⟨_,_,_,_,_,_,h⟩:=h;exact h.elim
 | .refuse _,_,_,_,_,_,_,h=>by obtain⟨_,_,_,_,_,_,h⟩:=h;exact h.elim
def CC (P:Program) (X:bJ) (T:Nat->Option LI) (f:FuncId) (args:List V) (kb:KB) (K:V->KB->Prop):Prop:=
 match P.funcs[f]? with
 |some fn=>match fn.body,Nat.ble args.length fn.ntmps with
  |some code,true=>gX P X T kb.length fn.ntmps code (fin P fn K) (r_ 0 args) kb
  |_,_=>False
 |none=>False
theorem SQ {P:Program} {X:bJ} (hX:bZ P X) (hm:P.follows .mixedOrders=true) {T:Nat->Option LI} {f:FuncId} {args:List V} {kb:KB} {K:V->KB->Prop} (h:CC P X T f args kb K) {σ:Sg} {E:EH} {W:World} {xs:List Value} (hi:Inv σ E kb W)
  (hd:aq σ E args xs):Calls P f xs.toArray W (fun e W'=>∃ v r σ' E' kb',e= .returned v/\Step σ E kb W σ' E' kb' W'/\Den σ' E' r v/\K r kb'):=by
 unfold CC at h
 split at h<;>try exact h.elim
 rename_i fn hfn
 split at h<;>try exact h.elim
 rename_i code Ha hb
 have hle:=Nat.le_of_ble_eq_true hb
 rw[<- hd.len]at hle
 rw[<- hi.len]at h
 have hi0:=hi.strip
 have Hc:aq σ E.strip args xs:=by
  have:=aq.dr (τ:=[]) E.wo hd
  rwa [fD]at this
 refine callsIn_wide.1 (callsIn_of_wp_marks (n:=0) hfn Ha trivial (wpIn_wide.2 (wp_mono (Q:=fun e a w=>match e with | .panic _=>False | e=>bodyPostM Fence.wide 0 P fn (fun e W'=>∃ v r σ' E' kb',e= .returned v/\Step σ E kb W σ' E' kb' W'/\Den σ' E' r v/\K r kb') e a w) (nV hX hm (T:=T) (c:=⟨σ,E.strip,kb,W⟩) (n:=fn.ntmps) code (Q:=fin P fn K) ⟨fun e a' W' hh=>?_,fun ch a a' w hp=>?_⟩ ?_) (fun e a w hq=>?_))))
 ·obtain⟨σ',E',fr',kb',hs,hf,hK⟩:=hh
  have key:qm P fr' kb' fn.results.toList (fun vs=>K (sU vs) kb')->LeavesInM Fence.wide 0 P fn a'.tmps (fun e W'=>∃ v r σ' E' kb',e= .returned v/\Step σ E kb W σ' E' kb' W'/\Den σ' E' r v/\K r kb') a'.defers .returning W':=by
   intro hK
   refine HX a'.defers W' hf.defers.nodup (fun d hd=>?_) (fun W2 e1 e2 e3 e4 e5=>?_)
   ·obtain⟨b,h1,h2⟩:=hf.defers.all d hd
    exact⟨b,h1,hs.inv.dj b _ h2⟩
   ·obtain⟨E2,h1,h2⟩:=Step.Uq hi hs e1 e2 e3 e4 (M:=fun b=>{target:=.collected b,args:=#[] }∈a'.defers) (fun b hb=>by
     obtain⟨b',k1,k2⟩:=hf.defers.all _ hb
     cases k1;exact k2) (fun b hb=>e5 b (fun d hd e=>hb (e ▸ hd)))
    have gf:eu σ' E2 fr' fn.ntmps {a' with defers:=[] }:=⟨hf.size,ot.nil _,fun t v hv=>by
     obtain⟨x,k1,k2⟩:=hf.get t v hv
     refine⟨x,k1,?_⟩
     have:=Den.dr (τ:=[]) h2 k2
     rwa [fD]at this⟩
    obtain⟨v,r,k1,k2,k3⟩:=N_ gf h1.inv hK
    exact⟨v,k1,v,r,σ',E2,kb',rfl,h1,k2,k3⟩
  cases e with
  |normal=>exact key hK
  |ret=>exact key hK
  |exit id=>exact hK.elim
  |goto l=>exact hK.elim
  |panic ch=>exact hK.elim
  |outgrown=>exact hK.elim
 ·exact hp
 rotate_left
 ·cases e<;>first | exact hq | exact hq.elim
 ·refine⟨σ,E.strip,r_ 0 args,kb,Step.refl hi0,⟨by simp;omega,ot.nil _,fun t v hv=>?_⟩,h⟩
  obtain⟨x,_,h2,h3⟩:=H7 0 Hc hv
  refine⟨x,?_,h3⟩
  have hlt:t<xs.length:=by
   have:=(bG.1 h2).1
   simpa using this
  rw[Array.getElem?_append_left (by simpa using hlt)]
  simpa using h2
abbrev aE:=List V->KB->(V->KB->Prop)->Prop
def aN (P:Program) (f:FuncId) (S:aE):Prop:=∀ args kb K,S args kb K->∀ σ E W xs,Inv σ E kb W->aq σ E args xs->
 Calls P f xs.toArray W (fun e W'=>∃ v r σ' E' kb',e= .returned v/\Step σ E kb W σ' E' kb' W'/\Den σ' E' r v/\K r kb')
def jZ (o:List Nat) (n:Nat) (k:Nat):Option Nat:=
 match o[k]? with
 |some i=>some i
 |none=>some (n+(k - o.length))
def yK (ρ:Nat->Option Nat):KB->Option KB
 | []=>some []
 |x::xs=>match KO.bY ρ x,yK ρ xs with
  |some y,some ys=>some (y::ys)
  |_,_=>none
theorem SG {ρ:Nat->Option Nat}:∀{l r:KB},yK ρ l=some r->r.length=l.length/\∀(m:Nat) (b:KO),r[m]? =some b->∃ a,l[m]? =some a/\KO.bY ρ a=some b
 | [],r,h=>by simp only[yK,bb.injEq]at h;subst h;simp
 |x::xs,r,h=>by
  simp only[yK]at h
  split at h<;>try (cases h;done)
  rename_i y ys h1 h2
  cases h
  obtain⟨h3,h4⟩:=SG h2
  refine⟨by simp [h3],fun m b hb=>?_⟩
  cases m with
  |zero=>simp at hb;subst hb;exact⟨x,rfl,h1⟩
  |succ m=>simpa using h4 m b (by simpa using hb)
def sf (bE:KB) (o:List Nat) (ρ:Nat->Option Nat):Nat->KB->Option KB
 |_,[]=>yK ρ (bE.drop o.length)
 |i,x::r=>match idx o i with
  |some k=>match bE[k]? with
   |some a=>match KO.bY ρ a,sf bE o ρ (i+1) r with
    |some b,some t=>some (b::t)
    |_,_=>none
   |none=>none
  |none=>match sf bE o ρ (i+1) r with
   |some t=>some (x::t)
   |none=>none
theorem Ff {bE:KB} {o:List Nat} {ρ:Nat->Option Nat}:∀{r:KB} {i0:Nat} {out:KB},sf bE o ρ i0 r=some out->
  out.length=r.length+(bE.length - o.length)/\∀(j:Nat) (b:KO),out[j]? =some b->
   (j<r.length/\idx o (i0+j)=none/\r[j]? =some b)∨(j<r.length/\∃ k a,idx o (i0+j)=some k/\bE[k]? =some a/\KO.bY ρ a=some b)∨
   (r.length<=j/\∃ a,bE[o.length+(j - r.length)]? =some a/\KO.bY ρ a=some b)
 | [],i0,out,h=>by
  simp only[sf]at h
  obtain⟨h1,h2⟩:=SG h
  refine⟨by simp [h1],fun j b hb=> .inr (.inr ⟨by simp,?_⟩)⟩
  obtain⟨a,ha,hr⟩:=h2 j b hb
  exact⟨a,by simpa using ha,hr⟩
 |x::r,i0,out,h=>by
  simp only[sf]at h
  have step:∀{t:KB},sf bE o ρ (i0+1) r=some t->∀(y:KO),((idx o i0=none/\y=x)∨∃ k a,idx o i0=some k/\bE[k]? =some a/\KO.bY ρ a=some y)->
    (y::t).length=(x::r).length+(bE.length - o.length)/\∀(j:Nat) (b:KO),(y::t)[j]? =some b->
    (j<(x::r).length/\idx o (i0+j)=none/\(x::r)[j]? =some b)∨(j<(x::r).length/\∃ k a,idx o (i0+j)=some k/\bE[k]? =some a/\KO.bY ρ a=some b)∨
    ((x::r).length<=j/\∃ a,bE[o.length+(j - (x::r).length)]? =some a/\KO.bY ρ a=some b):=by
   intro t ht y hy
   obtain⟨h1,h2⟩:=Ff ht
   refine⟨by simp [h1];omega,fun j b hb=>?_⟩
   cases j with
   |zero=>
    simp at hb;subst hb
    rcases hy with ⟨h3,rfl⟩ | ⟨k,a,h3,h4,h5⟩
    ·exact .inl ⟨by simp,by simpa using h3,rfl⟩
    ·exact .inr (.inl ⟨by simp,k,a,by simpa using h3,h4,h5⟩)
   |succ j=>
    rcases h2 j b (by simpa using hb)with ⟨k1,k2,k3⟩ | ⟨k1,k,a,k2,k3,k4⟩ | ⟨k1,a,k2,k3⟩
    ·exact .inl ⟨by simpa using k1,by rw[show i0+(j+1)=i0+1+j by omega];exact k2,by simpa using k3⟩
    ·exact .inr (.inl ⟨by simpa using k1,k,a,by rw[show i0+(j+1)=i0+1+j by omega];exact k2,k3,k4⟩)
    ·exact .inr (.inr ⟨by simpa using k1,a,by rw[show o.length+(j+1 - (x::r).length)=o.length+(j - r.length) by simp];exact k2,k3⟩)
  split at h
  ·rename_i k hk
   split at h<;>try (cases h;done)
   rename_i a ha
   split at h<;>try (cases h;done)
   rename_i b t hb ht
   cases h
   exact step ht b (.inr ⟨k,a,hk,ha,hb⟩)
  ·rename_i hk
   split at h<;>try (cases h;done)
   rename_i t ht
   cases h
   exact step ht x (.inl ⟨hk,rfl⟩)
def CW (pl:Bool) (S:aE) (args:List V) (kb:KB) (K:V->KB->Prop):Prop:=
 match sj pl 0 args kb with
 |some (args',sub,o)=>S args' sub (fun r bE=>match Nat.ble o.length bE.length,V.bY (jZ o kb.length) r,sf bE o (jZ o kb.length) 0 kb with
  |true,some r',some kb'=>K r' kb'
  |_,_,_=>False)
 |none=>False
def yQ (S:aE) (args:List V) (kb:KB) (K:V->KB->Prop):Prop:=CW false S args kb K
def J4 (S:aE) (args:List V) (kb:KB) (K:V->KB->Prop):Prop:=CW true S args kb K
theorem PG {l:List Nat} {i:Nat} (h:idx l i=none):i ∉ l:=fun hm=>by
 obtain⟨k,hk⟩:=Bv hm
 rw[h]at hk;cases hk
theorem Ji {σ:Sg} {kb:KB} (hlen:σ.length=kb.length) {o:List Nat} {sub:KB} (hs:rJ (idx o) kb o=some sub) {b:Nat} (h:cq (dN σ o) sub b):
  ∃ i r ob,i∈o/\σ[i]? =some r/\kb[i]? =some ob/\owned r ob b:=by
 obtain⟨hl,da⟩:=wh hs
 obtain⟨k,r,o',h1,h2,h3⟩:=h
 simp only[dN,fE,Option.map_eq_some_iff]at h1
 obtain⟨i,hi,hr⟩:=h1
 obtain⟨ob,o2,ho,qS,hk⟩:=da k i hi
 rw[h2]at hk;cases hk
 have hlt:i<σ.length:=by rw[hlen];exact(bG.1 ho).1
 rw[bp hlt]at hr
 simp at hr
 exact⟨i,r,ob,fi hi,by rw[bp hlt,hr],ho,(l6 qS).1 h3⟩
theorem To {pl:Bool} {P:Program} {f:FuncId} {S:aE} (hS:aN P f S) {args:List V} {kb:KB} {K:V->KB->Prop} (h:CW pl S args kb K) {σ:Sg} {E:EH} {W:World} {xs:List Value} (hi:Inv σ E kb W) (hd:aq σ E args xs):
  Calls P f xs.toArray W (fun e W'=>∃ v r σ' E' kb',e= .returned v/\Step σ E kb W σ' E' kb' W'/\Den σ' E' r v/\K r kb'):=by
 unfold CW at h
 split at h<;>try exact h.elim
 rename_i args' sub o hc
 obtain⟨hn,_,qW,hsel⟩:=qI hc
 obtain⟨k1,k2,k3⟩:=hi.sel hn hsel
 obtain⟨jF,da⟩:=wh hsel
 refine(hS args' sub _ h (dN σ o) E W xs k1 (aq.bY k3 qW hd)).mono ?_
 rintro e W' ⟨v,r,σs,E',bE,rfl,hst,eG,hK⟩
 split at hK<;>try exact hK.elim
 rename_i r' kb' G6 hr' hkb'
 have hle:=Nat.le_of_ble_eq_true G6
 obtain⟨τ,oF⟩:=hst.pre
 have HC:(dN σ o).length=o.length:=by simp [dN]
 have hl2:σs.length=bE.length:=hst.inv.len
 obtain⟨hout,G9⟩:=Ff hkb'
 let ny:=σ++σs.drop o.length
 have q8:∀ i j r,jZ o kb.length i=some j->σs[i]? =some r->ny[j]? =some r:=by
  intro i j r hb hr
  unfold jZ at hb
  split at hb
  ·rename_i q hq
   cases hb
   have hil:i<o.length:=(bG.1 hq).1
   rw[oF,dP (by rw[HC];exact hil)]at hr
   simp only[dN,fE,hq,Option.map_some,bb.injEq]at hr
   obtain⟨ob,_,qd,_,_⟩:=da i j hq
   have hjl:j<σ.length:=by rw[hi.len];exact(bG.1 qd).1
   rw[bp hjl]at hr
   simp only[Option.getD_some]at hr
   show(σ++_)[j]? =_
   rw[dP hjl,bp hjl,hr]
  ·rename_i hq
   cases hb
   have hil:o.length<=i:=by
    rcases jX i o.length with h' | h'
    ·rw[bp h']at hq;cases hq
    ·exact h'
   show(σ++_)[_]? =_
   rw[eW (by rw[hi.len];omega),hi.len,show kb.length+(i - o.length) - kb.length=i - o.length by omega,jw,show o.length+(i - o.length)=i by omega]
   exact hr
 have eO:∀(i:Nat) (r:Re) (ob:KO),ny[i]? =some r->kb'[i]? =some ob->
   (∃ k a,jZ o kb.length k=some i/\σs[k]? =some r/\bE[k]? =some a/\KO.bY (jZ o kb.length) a=some ob)∨(i ∉ o/\σ[i]? =some r/\kb[i]? =some ob):=by
  intro i r ob h1 h2
  rcases G9 i ob h2 with ⟨c1,c2,c3⟩ | ⟨c1,k,a,c2,c3,c4⟩ | ⟨c1,a,c2,c3⟩
  ·rw[c9]at c2
   have h1':(σ++σs.drop o.length)[i]? =some r:=h1
   rw[dP (by rw[hi.len];exact c1)]at h1'
   exact .inr ⟨PG c2,h1',c3⟩
  ·rw[c9]at c2
   have hk:=Bw c2
   have iQ:k<σs.length:=by rw[hl2];exact(bG.1 c3).1
   have hb:jZ o kb.length k=some i:=by simp [jZ,hk]
   have:=q8 k i _ hb (bp iQ)
   rw[this]at h1
   exact .inl ⟨k,a,hb,by rw[bp iQ];exact h1,c3,c4⟩
  ·have hb:jZ o kb.length (o.length+(i - kb.length))=some i:=by
    have:o[o.length+(i - kb.length)]? =none:=gO (by omega)
    simp only[jZ,this]
    congr 1
    omega
   have iQ:o.length+(i - kb.length)<σs.length:=by rw[hl2];exact(bG.1 c2).1
   have:=q8 _ i _ hb (bp iQ)
   rw[this]at h1
   exact .inl ⟨_,a,hb,by rw[bp iQ];exact h1,c2,c3⟩
 have m5:∀ b,cq (dN σ o) sub b->∀(j:Nat) (r:Re) (ob:KO),j ∉ o->σ[j]? =some r->kb[j]? =some ob->owned r ob b->False:=by
  intro b hb j r ob hj h1 h2 h3
  obtain⟨i,r2,o2,g1,g2,g3,g4⟩:=Ji hi.len hsel hb
  exact hi.dx i j r2 r o2 ob b (fun e=>by subst e;exact hj g1) g2 g3 h1 h2 g4 h3
 have Hv:∀(j:Nat) (r:Re) (ob:KO),j ∉ o->σ[j]? =some r->kb[j]? =some ob->∀ b,owned r ob b->W'.heap[b]? =W.heap[b]?:=by
  intro j r ob hj h1 h2 b h3
  exact hst.bQ.block b ((hi.obj j r ob h1 h2).lt h3) (fun hb=>m5 b hb j r ob hj h1 h2 h3)
 have qT:∀ b (k:Nat) (r:Re) (a:KO),σs[k]? =some r->bE[k]? =some a->owned r a b->cq (dN σ o) sub b∨W.heap.size<=b:=fun b k r a h1 h2 h3=>hst.own b ⟨k,r,a,h1,h2,h3⟩
 have hown:∀ b,cq ny kb' b->cq σ kb b∨W.heap.size<=b:=by
  rintro b ⟨i,r,ob,h1,h2,h3⟩
  rcases eO i r ob h1 h2 with ⟨k,a,_,g2,g3,g4⟩ | ⟨g1,g2,g3⟩
  ·rcases qT b k r a g2 g3 ((l6 g4).1 h3)with h4 | h4
   ·exact .inl (k2 b h4)
   ·exact .inr h4
  ·exact .inl ⟨i,r,ob,g2,g3,h3⟩
 refine⟨v,r',ny,E',kb',rfl,⟨⟨?_,fun i r ob h1 h2=>?_,fun i j r1 r2 o1 o2 b hij h1 h2 h3 h4 h5 h6=>?_,hst.inv.dj,fun b hb=>?_⟩,⟨hst.bQ.os,hst.bQ.tape,hst.bQ.output,hst.bQ.size,fun b hb hn'=>hst.bQ.block b hb (fun h=>hn' (k2 b h))⟩,⟨_,rfl⟩,hst.le,hown,fun b x hb=>?_⟩,Den.bY q8 hr' eG,hK⟩
 ·simp only[ny,bn,fQ,hout,hi.len,hl2]
 ·rcases eO i r ob h1 h2 with ⟨k,a,_,g2,g3,g4⟩ | ⟨g1,g2,g3⟩
  ·exact(hst.inv.obj k r a g2 g3).bY q8 g4
  ·exact(hi.obj i r ob g2 g3).mono hst.le (fun b hb=>Hv i r ob g1 g2 g3 b hb)
 ·rcases eO i r1 o1 h1 h2 with ⟨k,a,g1,g2,g3,g4⟩ | ⟨g1,g2,g3⟩<;>rcases eO j r2 o2 h3 h4 with ⟨m,a',q1,q2,q3,q4⟩ | ⟨q1,q2,q3⟩
  ·refine hst.inv.dx k m r1 r2 a a' b (fun e=>?_) g2 g3 q2 q3 ((l6 g4).1 h5) ((l6 q4).1 h6)
   subst e
   rw[g1]at q1
   cases q1
   exact hij rfl
  ·rcases qT b k r1 a g2 g3 ((l6 g4).1 h5)with h7 | h7
   ·exact m5 b h7 j r2 o2 q1 q2 q3 h6
   ·have:=(hi.obj j r2 o2 q2 q3).lt h6;omega
  ·rcases qT b m r2 a' q2 q3 ((l6 q4).1 h6)with h7 | h7
   ·exact m5 b h7 i r1 o1 g1 g2 g3 h5
   ·have:=(hi.obj i r1 o1 g2 g3).lt h5;omega
  ·exact hi.dx i j r1 r2 o1 o2 b hij g2 g3 q2 q3 h5 h6
 ·obtain⟨i,r,ob,h1,h2,h3⟩:=hb
  rcases eO i r ob h1 h2 with ⟨k,a,_,g2,g3,g4⟩ | ⟨g1,g2,g3⟩
  ·exact hst.inv.sep b ⟨k,r,a,g2,g3,(l6 g4).1 h3⟩
  ·cases hE:E' b with
   |none=>rfl
   |some x=>
    rcases hst.new b x hE with h4 | h4 | h4
    ·have:=hi.sep b ⟨i,r,ob,g2,g3,h3⟩;rw[this]at h4;cases h4
    ·exact(m5 b h4 i r ob g1 g2 g3 h3).elim
    ·have:=(hi.obj i r ob g2 g3).lt h3;omega
 ·rcases hst.new b x hb with h4 | h4 | h4
  ·exact .inl h4
  ·exact .inr (.inl (k2 b h4))
  ·exact .inr (.inr h4)
theorem CX {P:Program} {f:FuncId} {S:aE} (hS:aN P f S) {args:List V} {kb:KB} {K:V->KB->Prop} (h:yQ S args kb K) {σ:Sg} {E:EH} {W:World} {xs:List Value} (hi:Inv σ E kb W) (hd:aq σ E args xs):
 Calls P f xs.toArray W (fun e W'=>∃ v r σ' E' kb',e= .returned v/\Step σ E kb W σ' E' kb' W'/\Den σ' E' r v/\K r kb'):=To hS h hi hd
theorem Tp {P:Program} {f:FuncId} {S:aE} (hS:aN P f S) {args:List V} {kb:KB} {K:V->KB->Prop} (h:J4 S args kb K) {σ:Sg} {E:EH} {W:World} {xs:List Value} (hi:Inv σ E kb W) (hd:aq σ E args xs):
 Calls P f xs.toArray W (fun e W'=>∃ v r σ' E' kb',e= .returned v/\Step σ E kb W σ' E' kb' W'/\Den σ' E' r v/\K r kb'):=To hS h hi hd
def gd:KB->Bool
 | []=>true
 | .objs _:: _=>false
 | .iW _:: _=>false
 |_::kb=>gd kb
theorem Oh:∀{kb:KB},gd kb=true->∀(i:Nat) (o:KO),kb[i]? =some o->(∀ A,o≠.objs A)/\∀ a,o≠.iW a
 | [],_,i,o,h=>by simp at h
 |x::kb,hf,0,o,h=>by
  simp at h;subst h
  exact⟨fun A e=>by subst e;simp [gd]at hf,fun A e=>by subst e;simp [gd]at hf⟩
 |x::kb,hf,i+1,o,h=>by
  refine Oh (kb:=kb) ?_ i o (by simpa using h)
  cases x<;>first | exact hf | (simp [gd]at hf)
theorem gq.down {σ:Sg} {E:EH} {W:World} {r:Re} {o:KO} (h:gq σ E W r o) {b:Nat} (ho:owned r o b):nQ r o b:=by
 cases o<;>first | exact ho | exact h.elim
theorem fY.down {σ:Sg} {E:EH} {W:World} {r:Re} {o:KO} (h:fY σ E W r o) (hn:(∀ A,o≠.objs A)/\∀ a,o≠.iW a):gq σ E W r o:=by
 cases o<;>first | exact h | exact trivial | exact absurd rfl (hn.1 _) | exact absurd rfl (hn.2 _)
theorem nC.owns {E:EH} {W:World} {a:Sg×KB} (h:nC E W a) {b:Nat} (ho:cq a.1 a.2 b):jn a b:=by
 obtain⟨i,r,o,h1,h2,h3⟩:=ho
 exact⟨i,r,o,h1,h2,(h.obj i r o h1 h2).down h3⟩
theorem jn.up {a:Sg×KB} {b:Nat} (h:jn a b):cq a.1 a.2 b:=by
 obtain⟨i,r,o,h1,h2,h3⟩:=h
 exact⟨i,r,o,h1,h2,h3.up⟩
theorem nC.inv {E:EH} {W:World} {a:Sg×KB} (h:nC E W a) (Zg:∀ b o,E b=some o->W.heap[b]? =some o) (hsep:∀ b,jn a b->E b=none):Inv a.1 E a.2 W:=
 ⟨h.len,fun i r o h1 h2=>(h.obj i r o h1 h2).up,fun i j r r' o o' b hij h1 h2 h3 h4 h5 h6=>h.dx i j r r' o o' b hij h1 h2 h3 h4 ((h.obj i r o h1 h2).down h5) ((h.obj j r' o' h3 h4).down h6),Zg,fun b hb=>hsep b (h.owns hb)⟩
theorem Inv.IW {σ:Sg} {E:EH} {kb:KB} {W:World} (h:Inv σ E kb W) (hf:gd kb=true):nC E W (σ,kb):=
 ⟨h.len,fun i r o h1 h2=>(h.obj i r o h1 h2).down (Oh hf i o h2),fun i j r r' o o' b hij h1 h2 h3 h4 h5 h6=>h.dx i j r r' o o' b hij h1 h2 h3 h4 h5.up h6.up⟩
def fZ (P:Program) (f:FuncId) (S:aE):Prop:=∀ args kb K,S args kb K->∀ σ E W xs,Inv σ E kb W->aq σ E args xs->
 Calls P f xs.toArray W (fun e W'=>∃ v r σ' E' bE σ3 dB,e= .returned v/\Step σ E kb W σ' E' bE W'/\Inv σ3 E' dB W'/\gd dB=true/\(∀ b,cq σ3 dB b->cq σ' bE b)/\(∀ b,nT σ b->nT σ3 b)/\(∀ τ,Den τ E' r v)/\K r dB)
def sI:List Nat->KB->KB
 | [],kb=>kb
 |i::is,kb=>sI is (kb.set i .dead)
theorem HR:∀{o:List Nat} {kb:KB},(sI o kb).length=kb.length
 | [],kb=>rfl
 |i::is,kb=>by simp only[sI];rw[HR,ir]
theorem PU:∀{o:List Nat} {kb:KB} {j:Nat} {b:KO},(sI o kb)[j]? =some b->b= .dead∨(j ∉ o/\kb[j]? =some b)
 | [],kb,j,b,h=> .inr ⟨by simp,h⟩
 |i::is,kb,j,b,h=>by
  simp only[sI]at h
  rcases PU h with h1 | ⟨h1,h2⟩
  ·exact .inl h1
  ·by_cases e:i=j
   ·subst e
    rw[List.getElem?_set_self']at h2
    cases hk:kb[i]? with
    |none=>rw[hk]at h2;simp at h2
    |some x=>rw[hk]at h2;simp at h2;exact .inl h2.symm
   ·rw[gr e]at h2
    exact .inr ⟨fun hm=>by
     rcases ey.1 hm with e2 | e2
     ·exact e e2.symm
     ·exact h1 e2,h2⟩
def J6 (S:aE) (args:List V) (kb:KB) (K:V->KB->Prop):Prop:=
 match sj false 0 args kb with
 |some (args',sub,o)=>match o with
  |i0:: _=>S args' sub (fun r dB=>gd dB=true->∀ τ,K r ((sI o kb).set i0 (.iW (τ,dB))))
  | []=>False
 |none=>False
theorem aeT {P:Program} {f:FuncId} {S:aE} (hS:fZ P f S) {args:List V} {kb:KB} {K:V->KB->Prop} (h:J6 S args kb K) {σ:Sg} {E:EH} {W:World} {xs:List Value} (hi:Inv σ E kb W) (hd:aq σ E args xs):
  Calls P f xs.toArray W (fun e W'=>∃ v r σ' E' kb',e= .returned v/\Step σ E kb W σ' E' kb' W'/\Den σ' E' r v/\K r kb'):=by
 unfold J6 at h
 split at h<;>try exact h.elim
 rename_i args' sub o hc
 split at h<;>try exact h.elim
 rename_i i0 o'
 obtain⟨hn,_,qW,hsel⟩:=qI hc
 obtain⟨k1,k2,k3⟩:=hi.sel hn hsel
 obtain⟨jF,da⟩:=wh hsel
 have hi0:i0<kb.length:=by
  obtain⟨ob,_,qd,_,_⟩:=da 0 i0 rfl
  exact(bG.1 qd).1
 have ZE:(dN σ (i0::o'))[0]? =σ[i0]?:=by
  have:i0<σ.length:=by rw[hi.len];exact hi0
  simp [dN,bp this]
 refine(hS args' sub _ h (dN σ (i0::o')) E W xs k1 (aq.bY k3 qW hd)).mono ?_
 rintro e W' ⟨v,r,σ',E',bE,σ3,dB,rfl,hst,hin,mW,ZB,sG,eG,hK⟩
 have ZA:=hin.IW mW
 have m5:∀ b,cq (dN σ (i0::o')) sub b->∀(j:Nat) (r:Re) (ob:KO),j ∉ i0::o'->σ[j]? =some r->kb[j]? =some ob->owned r ob b->False:=by
  intro b hb j r ob hj h1 h2 h3
  obtain⟨i,r2,o2,g1,g2,g3,g4⟩:=Ji hi.len hsel hb
  exact hi.dx i j r2 r o2 ob b (fun e=>by subst e;exact hj g1) g2 g3 h1 h2 g4 h3
 have Hq:∀ b,jn (σ3,dB) b->cq (dN σ (i0::o')) sub b∨W.heap.size<=b:=fun b hb=>hst.own b (ZB b hb.up)
 have eO:∀(j:Nat) (ob:KO),((sI (i0::o') kb).set i0 (.iW (σ3,dB)))[j]? =some ob->(j=i0/\ob= .iW (σ3,dB))∨ob= .dead∨(j ∉ i0::o'/\kb[j]? =some ob):=by
  intro j ob hj
  by_cases e:i0=j
  ·subst e
   rw[ig (by rw[HR];exact hi0)]at hj
   exact .inl ⟨rfl,(bb.inj hj).symm⟩
  ·rw[gr e]at hj
   exact .inr (PU hj)
 have hown:∀ b,cq σ ((sI (i0::o') kb).set i0 (.iW (σ3,dB))) b->cq σ kb b∨W.heap.size<=b:=by
  rintro b ⟨j,q,ob,h1,h2,h3⟩
  rcases eO j ob h2 with ⟨rfl,rfl⟩ | rfl | ⟨g1,g2⟩
  ·rcases Hq b h3 with g | g
   ·exact .inl (k2 b g)
   ·exact .inr g
  ·exact h3.elim
  ·exact .inl ⟨j,q,ob,h1,g2,h3⟩
 refine⟨v,r,σ,E',_,rfl,⟨⟨?_,fun j q ob h1 h2=>?_,fun j j' q q' ob yq b hij h1 h2 h3 h4 h5 h6=>?_,hst.inv.dj,fun b hb=>?_⟩,⟨hst.bQ.os,hst.bQ.tape,hst.bQ.output,hst.bQ.size,fun b hb hn'=>hst.bQ.block b hb (fun h=>hn' (k2 b h))⟩,⟨[],by simp⟩,hst.le,hown,fun b x hb=>?_⟩,eG σ,hK mW σ3⟩
 ·rw[ir,HR,hi.len]
 ·rcases eO j ob h2 with ⟨rfl,rfl⟩ | rfl | ⟨g1,g2⟩
  ·exact⟨ZA,sG q.blk ⟨q,by rw[ZE];exact h1,rfl⟩⟩
  ·trivial
  ·have:=(hi.obj j q ob h1 g2).mono (τ:=[]) (W':=W') hst.le (fun b hb=>hst.bQ.block b ((hi.obj j q ob h1 g2).lt hb) (fun hs=>m5 b hs j q ob g1 h1 g2 hb))
   simpa using this
 ·rcases eO j ob h2 with ⟨rfl,rfl⟩ | rfl | ⟨g1,g2⟩<;>rcases eO j' yq h4 with ⟨e2,e3⟩ | rfl | ⟨Yf,GH⟩
  ·exact hij e2.symm
  ·exact h6.elim
  ·rcases Hq b h5 with g | g
   ·exact m5 b g j' q' yq Yf h3 GH h6
   ·have:=(hi.obj j' q' yq h3 GH).lt h6;omega
  ·exact h5.elim
  ·exact h5.elim
  ·exact h5.elim
  ·subst e3
   rcases Hq b h6 with g | g
   ·exact m5 b g j q ob g1 h1 g2 h5
   ·have:=(hi.obj j q ob h1 g2).lt h5;omega
  ·exact h6.elim
  ·exact hi.dx j j' q q' ob yq b hij h1 g2 h3 GH h5 h6
 ·obtain⟨j,q,ob,h1,h2,h3⟩:=hb
  rcases eO j ob h2 with ⟨rfl,rfl⟩ | rfl | ⟨g1,g2⟩
  ·exact hin.sep b h3.up
  ·exact h3.elim
  ·cases hE:E' b with
   |none=>rfl
   |some x=>
    rcases hst.new b x hE with h4 | h4 | h4
    ·have:=hi.sep b ⟨j,q,ob,h1,g2,h3⟩;rw[this]at h4;cases h4
    ·exact(m5 b h4 j q ob g1 h1 g2 h3).elim
    ·have:=(hi.obj j q ob h1 g2).lt h3;omega
 ·rcases hst.new b x hb with h4 | h4 | h4
  ·exact .inl h4
  ·exact .inr (.inl (k2 b h4))
  ·exact .inr (.inr h4)
theorem xB {σ:Sg} {E:EH} {v:V} {x:Value} (h:Den σ E v x):aq σ E [v] [x]:=by simp only[aq];exact⟨x,[],rfl,h,rfl⟩
theorem xC {σ:Sg} {E:EH} {v:V} {x:Value} (h:aq σ E [v] [x]):Den σ E v x:=by
 simp only[aq]at h
 obtain⟨y,ys,e,h1,rfl⟩:=h
 cases e
 exact h1
def yj (ds:List jz) (S:aE):aE:=fun args kb K=>yQ S (pE ds (args,kb)).1 (pE ds (args,kb)).2 K
theorem B1 {P:Program} {f:FuncId} {S:aE} (hS:aN P f S) (ds:List jz):aN P f (yj ds S):=fun args kb K h σ E W xs hi hd=>by
 obtain⟨σ',Le,h1,h2,_⟩:=yk (c:=⟨σ,E,kb,W⟩) ds (s:=(args,kb)) (Step.refl hi) hd
 refine(CX hS h h1.inv h2).mono ?_
 rintro e W' ⟨v,r,σs,E',bE,rfl,hst,eG,hK⟩
 exact⟨v,r,σs,E',bE,rfl,Step.trans h1 hst,eG,hK⟩
def eZ (ds:List jz) (K:V->KB->Prop):V->KB->Prop:=fun r kb=>match r with
 | .υ l=>K (.υ (pE ds (l,kb)).1) (pE ds (l,kb)).2
 |r=>match (pE ds ([r],kb)).1 with
  | [r']=>K r' (pE ds ([r],kb)).2
  |_=>False
def aa3 (ds:List jz) (S:aE):aE:=fun args kb K=>S args kb (eZ ds K)
theorem Iz {P:Program} {f:FuncId} {S:aE} (hS:aN P f S) (ds:List jz):aN P f (aa3 ds S):=fun args kb K h σ E W xs hi hd=>by
 refine(hS args kb _ h σ E W xs hi hd).mono ?_
 rintro e W' ⟨v,r,σs,E',bE,rfl,hst,eG,hK⟩
 unfold eZ at hK
 split at hK
 ·rename_i l
  simp only[Den]at eG
  obtain⟨vs,rfl,hl⟩:=eG
  obtain⟨σ',Le,h1,h2,_⟩:=yk (c:=⟨σ,E,kb,W⟩) ds (s:=(l,bE)) hst hl
  exact⟨_,_,_,_,_,rfl,h1,by simp only[Den];exact⟨vs,rfl,h2⟩,hK⟩
 ·split at hK<;>try exact hK.elim
  rename_i r' hr
  obtain⟨σ',Le,h1,h2,_⟩:=yk (c:=⟨σ,E,kb,W⟩) ds (s:=([r],bE)) hst (xB eG)
  rw[hr]at h2
  exact⟨_,_,_,_,_,rfl,h1,xC h2,hK⟩
def dp (n0:Nat) (K:V->KB->Prop):V->KB->Prop:=fun r kb=>match canon n0 [r] kb with
 |some ([r'],kb',_)=>K r' kb'
 |_=>False
def afK (S:aE):aE:=fun args kb K=>S args kb (dp kb.length K)
theorem C_ {P:Program} {f:FuncId} {S:aE} (hS:aN P f S):aN P f (afK S):=fun args kb K h σ E W xs hi hd=>by
 refine(hS args kb _ h σ E W xs hi hd).mono ?_
 rintro e W' ⟨v,r,σs,E',bE,rfl,hst,eG,hK⟩
 unfold dp at hK
 split at hK<;>try exact hK.elim
 rename_i r' kb' o hc
 rw[<- hi.len]at hc
 obtain⟨σ',h1,h2⟩:=Step.sel (c:=⟨σ,E,kb,W⟩) hst hc (xB eG)
 exact⟨_,_,_,_,_,rfl,h1,xC h2,hK⟩
inductive Mode where
 |mj
 |fI (s:Nat)
 |fe (s:Nat)
 |iD
 |tail
def sA:List Mode->List V->KB->(List V->KB->Prop)->Prop
 |_,[],kb,K=>K [] kb
 | [],v::vs,kb,K=>K (v::vs) kb
 | .fe s::ms,v::vs,kb,K=>qJ (.sl s) v kb (fun d kb'=>sA ms vs kb' (fun us jG=>K (.dat d::us) jG))
 |_::ms,v::vs,kb,K=>sA ms vs kb (fun us kb'=>K (v::us) kb')
theorem xN:∀{ms:List Mode} {vs:List V} {kb:KB} {K:List V->KB->Prop},sA ms vs kb K->∀{σ:Sg} {E:EH} {W:World},Inv σ E kb W->∀{xs:List Value},aq σ E vs xs->
  ∃ E' kb' us,Step σ E kb W σ E' kb' W/\aq σ E' us xs/\K us kb'
 |ms,[],kb,K,h,σ,E,W,hi,xs,hd=>by
  have:K [] kb:=by cases ms with | nil=>exact h | cons m ms=>cases m<;>exact h
  exact⟨E,kb,[],Step.refl hi,hd,this⟩
 | [],v::vs,kb,K,h,σ,E,W,hi,xs,hd=>⟨E,kb,v::vs,Step.refl hi,hd,h⟩
 |m::ms,v::vs,kb,K,h,σ,E,W,hi,xs,hd=>by
  simp only[aq]at hd
  obtain⟨x,xs',rfl,h1,h2⟩:=hd
  have plain:sA ms vs kb (fun us kb'=>K (v::us) kb')->∃ E' kb' us,Step σ E kb W σ E' kb' W/\aq σ E' us (x::xs')/\K us kb':=fun h=>by
   obtain⟨E1,eH,us,s1,d1,hK⟩:=xN h hi h2
   have:=Den.mono (τ:=[]) s1.le h1
   rw[fD]at this
   exact⟨E1,eH,v::us,s1,.cons this d1,hK⟩
  cases m with
  |mj=>exact plain h
  |fI s=>exact plain h
  |iD=>exact plain h
  |tail=>exact plain h
  |fe s=>
   simp only[sA]at h
   obtain⟨E1,eH,d,s1,r1,h⟩:=xz h hi h1
   have h2':=aq.mono (τ:=[]) s1.le h2
   rw[fD]at h2'
   obtain⟨E2,bE,us,s2,d2,hK⟩:=xN h s1.inv h2'
   exact⟨E2,bE,.dat d::us,s1.trans s2,.cons (by simp only[Den];exact r1.mono s2.le) d2,hK⟩
def sY:V->List Nat
 | .sl i _ _=>[i]
 | .sa i _ _ _ _ _=>[i]
 | .se i _ _ _ _ _=>[i]
 |_=>[]
def vJ (kb:KB) (s:Nat) (v:V):Option (Prop×V×List Nat):=
 match sZ kb v with
 |some (sz,p,xs)=>match yS s sz with
  |true=>some (p,.dat (.sl s xs),sY v)
  |false=>none
 |none=>none
def sJ (kb:KB) (s:Nat):List V->Option (Prop×List V×List Nat)
 | []=>some (True,[],[])
 |v::vs=>match sJ kb s vs with
  |some (q,us,js)=>match vJ kb s v with
   |some (p,u,is)=>some (p/\q,u::us,is++js)
   |none=>some (q,v::us,js)
  |none=>none
def yb (kb:KB) (s:Nat) (v:V):Option (Prop×V×List Nat):=
 match v with
 | .agg l=>match sJ kb s l with
  |some (p,us,is)=>some (p,.agg us,is)
  |none=>none
 |v=>vJ kb s v
def iU (kb:KB):List Mode->List V->Option (Prop×List V×List Nat)
 |_,[]=>some (True,[],[])
 | .fI s::ss,v::vs=>match yb kb s v,iU kb ss vs with
  |some (p,u,is),some (q,us,js)=>some (p/\q,u::us,is++js)
  |_,_=>none
 | [],v::vs=>match iU kb [] vs with
  |some (p,us,is)=>some (p,v::us,is)
  |none=>none
 |_::ss,v::vs=>match iU kb ss vs with
  |some (p,us,is)=>some (p,v::us,is)
  |none=>none
open Classical in
noncomputable def m9 (σ:Sg) (kb:KB) (is:List Nat) (W:World) (E:EH):EH:=fun b=>match E b with
 |some o=>some o
 |none=>if ∃ i∈is,∃ r o,σ[i]? =some r/\kb[i]? =some o/\owned r o b then W.heap[b]? else none
theorem uf (σ:Sg) (kb:KB) (is:List Nat) (W:World) (E:EH):E.le (m9 σ kb is W E):=fun b o h=>by simp [m9,h]
theorem P9 {kb:KB} {s:Nat} {v u:V} {p:Prop} {is:List Nat} (h:vJ kb s v=some (p,u,is)) (hp:p) {σ:Sg} {E:EH} {W:World} (hi:Inv σ E kb W) {x:Value} (hd:Den σ E v x) {js:List Nat} (mX:∀ i∈is,i∈js):
  Den σ (m9 σ kb js W E) u x:=by
 unfold vJ at h
 split at h<;>try (cases h;done)
 rename_i sz q xs hsrc
 split at h<;>try (cases h;done)
 rename_i hfit
 simp only[bb.injEq,Prod.mk.injEq]at h
 obtain⟨rfl,rfl,rfl⟩:=h
 have hle:=uf σ kb js W E
 by_cases O5:∃ l,v= .dat (.sl s l)/\xs=l
 ·obtain⟨l,rfl,rfl⟩:=O5
  simp only[Den]at hd ⊢
  exact hd.mono hle
 have hE:=uv hsrc hp hi hd hfit
 obtain⟨hw,a,cap,ys,rfl,hc,hD,ha⟩:=hE
 simp only[Den,bK]
 refine⟨a,cap,rfl,hc,?_⟩
 rcases ha with ha | ⟨b,o,rfl,ha⟩
 ·exact .inl ha
 by_cases h0:xs.length=0
 ·exact .inl h0
 refine .inr ⟨b,o,rfl,fb.of_flat hw ((hD.mono hle).rep fun j y hj=>?_)⟩
 have hcell:=ha j y hj
 have key:∀{i:Nat} {r:Re} {ob:KO},i∈sY v->σ[i]? =some r->kb[i]? =some ob->owned r ob b->EH.cell (m9 σ kb js W E) b (o+j)=some y:=by
  intro i r ob hin hr hk ho
  have hn:=hi.sep b ⟨i,r,ob,hr,hk,ho⟩
  have hlt:=(hi.obj i r ob hr hk).lt ho
  have hb:m9 σ kb js W E b=W.heap[b]?:=by
   simp only[m9,hn]
   rw[if_pos ⟨i,mX i hin,r,ob,hr,hk,ho⟩]
  unfold EH.cell
  rw[hb]
  unfold World.cell? at hcell
  simp only at hcell
  split at hcell<;>first | (rename_i e;rw[e];simpa using hcell) | (cases hcell)
 unfold sZ at hsrc
 split at hsrc
 ·rename_i i lo hi'
  split at hsrc<;>try (cases hsrc;done)
  rename_i ty sz' l hl
  simp only[bb.injEq,Prod.mk.injEq]at hsrc
  obtain⟨rfl,rfl,rfl⟩:=hsrc
  simp only[Den]at hd
  obtain⟨r,ad,hr,e,g1,g2,g3⟩:=hd
  have hl0:((l.take hi').drop lo).length=hi' - lo:=by simp;omega
  simp only[Value.slice.injEq]at e
  have:=g3 (by omega)
  rw[<- e.1]at this
  cases this
  exact key (by simp [sY]) hr hl ⟨by omega,rfl⟩
 ·rename_i sz' l
  simp only[bb.injEq,Prod.mk.injEq]at hsrc
  obtain⟨rfl,rfl,rfl⟩:=hsrc
  have:sz'=s:=cU hfit
  subst this
  exact(O5 ⟨_,rfl,rfl⟩).elim
 ·simp only[bb.injEq,Prod.mk.injEq]at hsrc
  obtain⟨_,_,rfl⟩:=hsrc
  exact(h0 rfl).elim
 ·simp only[bb.injEq,Prod.mk.injEq]at hsrc
  obtain⟨_,_,rfl⟩:=hsrc
  exact(h0 rfl).elim
 ·rename_i i base o' s' n c
  split at hsrc<;>try (cases hsrc;done)
  rename_i l hl hb
  split at hsrc<;>try (cases hsrc;done)
  rename_i m cs hpc
  simp only[bb.injEq,Prod.mk.injEq]at hsrc
  obtain⟨_,rfl,rfl⟩:=hsrc
  simp only[Den]at hd
  obtain⟨r,ad,hr,e,g1,g3⟩:=hd
  simp only[Value.slice.injEq]at e
  have:=g3 (by omega)
  rw[<- e.1]at this
  cases this
  exact key (by simp [sY]) hr hl rfl
 ·rename_i i ix o' s' n c
  split at hsrc<;>try (cases hsrc;done)
  rename_i ty sz' l hl hb
  simp only[bb.injEq,Prod.mk.injEq]at hsrc
  obtain⟨_,rfl,rfl⟩:=hsrc
  simp only[Den]at hd
  obtain⟨r,ad,hr,e,g1,g3⟩:=hd
  simp only[Value.slice.injEq]at e
  have:=g3 (by omega)
  rw[<- e.1]at this
  cases this
  have hk:=hi.obj i r _ hr hl
  obtain⟨_,_,k3,_,_⟩:=hk
  exact key (by simp [sY]) hr hl ⟨by have:=hp.1;omega,rfl⟩
 ·cases hsrc
theorem H1 {kb:KB} {s:Nat} {σ:Sg} {E:EH} {W:World} (hi:Inv σ E kb W) {js:List Nat}:∀{vs us:List V} {p:Prop} {is:List Nat},sJ kb s vs=some (p,us,is)->p->(∀ i∈is,i∈js)->∀{xs:List Value},aT σ E vs xs->aT σ (m9 σ kb js W E) us xs
 | [],us,p,is,h,_,_,xs,hd=>by
  simp only[sJ,bb.injEq,Prod.mk.injEq]at h
  obtain⟨_,rfl,_⟩:=h
  simpa only[aT]using hd
 |v::vs,us,p,is,h,hp,mX,xs,hd=>by
  simp only[sJ]at h
  obtain⟨ys,zs,rfl,h1,h2⟩:=hd.io
  split at h<;>try (cases h;done)
  rename_i q ws ls hq
  split at h
  ·rename_i p1 u BA h3
   simp only[bb.injEq,Prod.mk.injEq]at h
   obtain⟨rfl,rfl,rfl⟩:=h
   refine aT.cons ?_ (H1 hi hq hp.2 (fun i hi'=>mX i (mc _ hi')) h2)
   rcases h1 with ⟨y,rfl,h4,h5⟩ | ⟨m,cs,rfl,_,_⟩
   ·exact .inl ⟨y,rfl,h4,P9 h3 hp.1 hi h5 (fun i hi'=>mX i (iL _ hi'))⟩
   ·cases h3
  ·simp only[bb.injEq,Prod.mk.injEq]at h
   obtain⟨rfl,rfl,rfl⟩:=h
   refine aT.cons ?_ (H1 hi hq hp mX h2)
   rcases h1 with ⟨y,rfl,h4,h5⟩ | ⟨m,cs,rfl,h4,h5⟩
   ·exact .inl ⟨y,rfl,h4,by simpa using Den.mono (τ:=[]) (uf σ kb js W E) h5⟩
   ·exact .inr ⟨m,cs,rfl,h4,h5.mono (uf σ kb js W E)⟩
theorem aaC {kb:KB} {s:Nat} {v u:V} {p:Prop} {is:List Nat} (h:yb kb s v=some (p,u,is)) (hp:p) {σ:Sg} {E:EH} {W:World} (hi:Inv σ E kb W) {x:Value} (hd:Den σ E v x) {js:List Nat} (mX:∀ i∈is,i∈js):
  Den σ (m9 σ kb js W E) u x:=by
 unfold yb at h
 split at h
 ·split at h<;>try (cases h;done)
  rename_i l p1 us BA h1
  simp only[bb.injEq,Prod.mk.injEq]at h
  obtain⟨rfl,rfl,rfl⟩:=h
  simp only[Den]at hd ⊢
  obtain⟨vs,rfl,h2⟩:=hd
  exact⟨vs,rfl,H1 hi h1 hp mX h2⟩
 ·exact P9 h hp hi hd mX
theorem BO {kb:KB} {σ:Sg} {E:EH} {W:World} (hi:Inv σ E kb W) {js:List Nat}:∀{ss:List Mode} {vs us:List V} {p:Prop} {is:List Nat},iU kb ss vs=some (p,us,is)->p->(∀ i∈is,i∈js)->∀{xs:List Value},aq σ E vs xs->aq σ (m9 σ kb js W E) us xs
 |ss,[],us,p,is,h,_,_,xs,hd=>by
  have:us=[]:=by
   cases ss with
   |nil=>simp only[iU,bb.injEq,Prod.mk.injEq]at h;exact h.2.1.symm
   |cons m ss=>cases m<;>(simp only[iU,bb.injEq,Prod.mk.injEq]at h;exact h.2.1.symm)
  subst this
  simpa only[aq]using hd
 | [],v::vs,us,p,is,h,hp,mX,xs,hd=>by
  simp only[iU]at h
  split at h<;>try (cases h;done)
  rename_i q ws ks hq
  simp only[bb.injEq,Prod.mk.injEq]at h
  obtain⟨rfl,rfl,rfl⟩:=h
  simp only[aq]at hd ⊢
  obtain⟨x,xs',rfl,h1,h2⟩:=hd
  exact⟨x,xs',rfl,by simpa using Den.mono (τ:=[]) (uf σ kb js W E) h1,BO hi hq hp mX h2⟩
 |m::ss,v::vs,us,p,is,h,hp,mX,xs,hd=>by
  have plain:(match iU kb ss vs with | some (p,us,is)=>some (p,v::us,is) | none=>none)=some (p,us,is)->aq σ (m9 σ kb js W E) us xs:=fun h=>by
   split at h<;>try (cases h;done)
   rename_i q ws ks hq
   simp only[bb.injEq,Prod.mk.injEq]at h
   obtain⟨rfl,rfl,rfl⟩:=h
   simp only[aq]at hd ⊢
   obtain⟨x,xs',rfl,h1,h2⟩:=hd
   exact⟨x,xs',rfl,by simpa using Den.mono (τ:=[]) (uf σ kb js W E) h1,BO hi hq hp mX h2⟩
  cases m with
  |mj=>exact plain (by simpa only[iU]using h)
  |fe s=>exact plain (by simpa only[iU]using h)
  |iD=>exact plain (by simpa only[iU]using h)
  |tail=>exact plain (by simpa only[iU]using h)
  |fI s=>
   simp only[iU]at h
   split at h<;>try (cases h;done)
   rename_i q u ks q' ws ls hq pp
   simp only[bb.injEq,Prod.mk.injEq]at h
   obtain⟨rfl,rfl,rfl⟩:=h
   simp only[aq]at hd ⊢
   obtain⟨x,xs',rfl,h1,h2⟩:=hd
   exact⟨x,xs',rfl,aaC hq hp.1 hi h1 (fun i hi'=>mX i (iL _ hi')),BO hi pp hp.2 (fun i hi'=>mX i (mc _ hi')) h2⟩
def D.isVal:D->Prop
 | .val _=>True
 | .sl .. =>False
def Plain (cs:List D):Prop:=∀ d∈cs,d.isVal
theorem bK.free {E E':EH} {d:D} (h:d.isVal) {x:Value} (hr:bK E d x):bK E' d x:=by
 cases d with
 |val v=>simpa only[bK]using hr
 |sl _ _=>exact h.elim
theorem a_.free {E E':EH}:∀{ds:List D} {xs:List Value},Plain ds->a_ E ds xs->a_ E' ds xs
 | [],_,_,hd=>by simpa only[a_]using hd
 |d::ds,_,h,hd=>by
  simp only[a_]at hd ⊢
  obtain⟨x,xs',h0,h1,h2⟩:=hd
  exact⟨x,xs',h0,h1.free (h d (by simp)),h2.free (fun e he=>h e (fM _ he))⟩
structure ox (cs:List D):Prop where
 ok:Plain cs
def FO:List (List D)->Prop
 | []=>True
 | [a]=>ox a
 |a::b::l=>ox a/\FO (b::l)
theorem Nq:∀{l:List (List D)},FO l->∀ a∈l,Plain a
 | [],_,a,ha=>by cases ha
 | [b],h,a,ha=>by simp at ha;subst ha;exact h.ok
 |b::c::l,h,a,ha=>by
  rcases ey.1 ha with rfl | ha
  ·exact h.1.ok
  ·exact Nq h.2 a ha
mutual
def V.free:V->Option (List (List D))
 | .dK .. =>none
 | .aa _=>none
 | .imp .. =>none
 | .dat (.sl ..)=>none
 | .arr _ cs=>some [cs]
 | .agg l=>V.qO l
 | .υ l=>V.qO l
 | .fn _ l=>V.qO l
 | .dat d=>some [[d]]
 |_=>some []
def V.qO:List V->Option (List (List D))
 | []=>some []
 |v::vs=>match V.free v with
  |some p=>match V.qO vs with | some q=>some (p++q) | none=>none
  |none=>none
end
mutual
theorem Den.free {σ:Sg} {E E':EH}:∀{v:V} {ps:List (List D)},V.free v=some ps->(∀ p∈ps,Plain p)->∀{x:Value},Den σ E v x->Den σ E' v x
 | .any _,_,_,_,_,hd | .int ..,_,_,_,_,hd | .lit ..,_,_,_,_,hd | .sb _,_,_,_,_,hd | .tt,_,_,_,_,hd | .ff,_,_,_,_,hd | .ptr ..,_,_,_,_,hd | .pa ..,_,_,_,_,hd | .sl ..,_,_,_,_,hd
 | .pe ..,_,_,_,_,hd | .pw ..,_,_,_,_,hd | .e0,_,_,_,_,hd | .sa ..,_,_,_,_,hd | .se ..,_,_,_,_,hd | .mp _,_,_,_,_,hd | .ch _,_,_,_,_,hd=>by simpa only[Den]using hd
 | .arr ..,_,_,_,_,hd=>by simp only[Den]at hd
 | .dK ..,_,h,_,_,_=>by simp [V.free]at h
 | .aa _,_,h,_,_,_=>by simp [V.free]at h
 | .imp ..,_,h,_,_,_=>by simp [V.free]at h
 | .dat d,ps,h,hp,x,hd=>by
  cases d with
  |val v=>simpa only[Den,bK]using hd
  |sl _ _=>simp [V.free]at h
 | .agg l,ps,h,hp,x,hd=>by
  simp only[V.free]at h
  simp only[Den]at hd ⊢
  obtain⟨vs,h1,h2⟩:=hd
  exact⟨vs,h1,aT.free h hp h2⟩
 | .υ l,ps,h,hp,x,hd=>by
  simp only[V.free]at h
  simp only[Den]at hd ⊢
  obtain⟨vs,h1,h2⟩:=hd
  exact⟨vs,h1,aq.free h hp h2⟩
 | .fn f l,ps,h,hp,x,hd=>by
  simp only[V.free]at h
  simp only[Den]at hd ⊢
  obtain⟨vs,h1,h2⟩:=hd
  exact⟨vs,h1,aq.free h hp h2⟩
theorem aq.free {σ:Sg} {E E':EH}:∀{vs:List V} {ps:List (List D)},V.qO vs=some ps->(∀ p∈ps,Plain p)->∀{xs:List Value},aq σ E vs xs->aq σ E' vs xs
 | [],_,_,_,_,hd=>by simpa only[aq]using hd
 |v::vs,ps,h,hp,xs,hd=>by
  simp only[V.qO]at h
  split at h<;>try (cases h;done)
  rename_i p h1
  split at h<;>try (cases h;done)
  rename_i q h2
  cases h
  simp only[aq]at hd ⊢
  obtain⟨x,xs',h0,k1,k2⟩:=hd
  exact⟨x,xs',h0,Den.free h1 (fun a ha=>hp a (iL _ ha)) k1,aq.free h2 (fun a ha=>hp a (mc _ ha)) k2⟩
theorem aT.free {σ:Sg} {E E':EH}:∀{vs:List V} {ps:List (List D)},V.qO vs=some ps->(∀ p∈ps,Plain p)->∀{xs:List Value},aT σ E vs xs->aT σ E' vs xs
 | [],_,_,_,_,hd=>by simpa only[aT]using hd
 |v::vs,ps,h,hp,xs,hd=>by
  simp only[V.qO]at h
  split at h<;>try (cases h;done)
  rename_i p h1
  split at h<;>try (cases h;done)
  rename_i q h2
  cases h
  simp only[aT]at hd ⊢
  obtain⟨ys,zs,h0,k1,k2⟩:=hd
  refine⟨ys,zs,h0,?_,aT.free h2 (fun a ha=>hp a (mc _ ha)) k2⟩
  rcases k1 with ⟨y,e,o,hy⟩ | ⟨m,cs,e,hl,hD⟩
  ·exact .inl ⟨y,e,o,Den.free h1 (fun a ha=>hp a (iL _ ha)) hy⟩
  ·subst e
   simp only[V.free,bb.injEq]at h1
   subst h1
   exact .inr ⟨m,cs,rfl,hl,hD.free (hp cs (by simp))⟩
end
def KO.free:KO->Option (List (List D))
 | .cells l=>V.qO l
 | .row _ _ l=>some [l.flatten]
 | .mp _ _ _ _ l=>some [(l.map (·.2)).flatten]
 | .ch _ _ _ l=>some [l.flatten]
 | .objs _=>none
 | .iW _=>none
 | .dead=>some []
def AY:KB->Option (List (List D))
 | []=>some []
 |o::kb=>match KO.free o with
  |some p=>match AY kb with | some q=>some (p++q) | none=>none
  |none=>none
theorem ct.free {E E':EH} {aA:List IntKind} {aS agg:Bool}:∀{es:List MapEntry} {l:List (List Int×List D)},Plain (l.map (·.2)).flatten->ct E aA aS agg es l->ct E' aA aS agg es l
 | [],_,_,h=>by simpa only[ct]using h
 |e::es,_,hp,h=>by
  simp only[ct]at h ⊢
  obtain⟨k,c,l',rfl,⟨h1,h1',ys,h2,h3⟩,h4⟩:=h
  simp only[mb,jm]at hp
  exact⟨k,c,l',rfl,⟨h1,h1',ys,h2,h3.free (fun d hd=>hp d (iL _ hd))⟩,h4.free (fun d hd=>hp d (mc _ hd))⟩
theorem fw.free {E E':EH} {agg:Bool}:∀{vs:List Value} {l:List (List D)},Plain l.flatten->fw E agg vs l->fw E' agg vs l
 | [],_,_,h=>by simpa only[fw]using h
 |v::vs,_,hp,h=>by
  simp only[fw]at h ⊢
  obtain⟨c,l',rfl,⟨ys,h1,h2⟩,h3⟩:=h
  rw[jm]at hp
  exact⟨c,l',rfl,⟨ys,h1,h2.free (fun d hd=>hp d (iL _ hd))⟩,h3.free (fun d hd=>hp d (mc _ hd))⟩
theorem fY.free {σ:Sg} {E E':EH} {W:World} {r:Re} {o:KO} {ps:List (List D)} (h:KO.free o=some ps) (hp:∀ p∈ps,Plain p) (hh:fY σ E W r o):fY σ E' W r o:=by
 cases o with
 |cells l=>obtain⟨arr,ty,h1,h2⟩:=hh;exact⟨arr,ty,h1,aT.free h hp h2⟩
 |row ty sz l=>
  simp only[KO.free,bb.injEq]at h
  subst h
  obtain⟨h0,h1,h2,h3,h4⟩:=hh
  exact⟨h0,h1,h2,h3,h4.elim .inl fun⟨arr,k1,k2,k3⟩=> .inr ⟨arr,k1,k2,k3.free (hp _ (by simp))⟩⟩
 |mp aA aS agg sz l=>
  simp only[KO.free,bb.injEq]at h
  subst h
  obtain⟨h0,es,ck,h1,h2,h3⟩:=hh
  exact⟨h0,es,ck,h1,h2.free (hp _ (by simp)),h3⟩
 |ch agg sz cap l=>
  simp only[KO.free,bb.injEq]at h
  subst h
  obtain⟨h0,xO,bf,s,rr,h1,h2⟩:=hh
  exact⟨h0,xO,bf,s,rr,h1,h2.free (hp _ (by simp))⟩
 |objs A=>simp [KO.free]at h
 |iW a=>simp [KO.free]at h
 |dead=>trivial
theorem Ow:∀{kb:KB} {ps:List (List D)},AY kb=some ps->(∀ p∈ps,Plain p)->∀(i:Nat) (o:KO),kb[i]? =some o->∃ qs,KO.free o=some qs/\∀ q∈qs,Plain q
 | [],_,_,_,i,o,ho=>by simp at ho
 |x::kb,ps,h,hp,i,o,ho=>by
  simp only[AY]at h
  split at h<;>try (cases h;done)
  rename_i p h1
  split at h<;>try (cases h;done)
  rename_i q h2
  cases h
  cases i with
  |zero=>simp at ho;subst ho;exact⟨p,h1,fun a ha=>hp a (iL _ ha)⟩
  |succ i=>exact Ow h2 (fun a ha=>hp a (mc _ ha)) i o (by simpa using ho)
def AO:List Nat->List Nat->Bool
 | [],_=>true
 |i::is,o=>match ye o i with | true=>false | false=>AO is o
theorem NO:∀{is o:List Nat},AO is o=true->∀ i∈is,i ∉ o
 |i::is,o,h,j,hj=>by
  simp only[AO]at h
  split at h
  ·cases h
  ·rename_i hm
   rcases ey.1 hj with rfl | hj
   ·intro hin
    obtain⟨k,hk⟩:=Bv hin
    simp [ye,hk]at hm
   ·exact NO h j hj
def J3 (S:aE) (ms:List Mode) (args:List V) (kb:KB) (K:V->KB->Prop):Prop:=
 sA ms args kb (fun args kb=>match iU kb ms args with
  |some (_,args1,[])=>yQ S args1 kb K
  |some (p,args1,is)=>p/\(match sj false 0 args1 kb with
   |some (args',sub,o)=>match AO is o with
    |true=>S args' sub (fun r bE=>match Nat.ble o.length bE.length,V.bY (jZ o kb.length) r,sf bE o (jZ o kb.length) 0 kb,V.free r,AY bE with
     |true,some r',some kb',some ps,some qs=>FO (ps++qs)/\K r' kb'
     |_,_,_,_,_=>False)
    |false=>False
   |none=>False)
  |none=>False)
theorem P8 {kb:KB} {s:Nat} {v u:V} {q:Prop} (hq:vJ kb s v=some (q,u,[])) {σ:Sg} {E:EH} {x:Value} (h1:Den σ E v x):Den σ E u x:=by
 unfold vJ at hq
 split at hq<;>try (cases hq;done)
 rename_i sz r UX hsrc
 split at hq<;>try (cases hq;done)
 rename_i hfit
 simp only[bb.injEq,Prod.mk.injEq]at hq
 obtain⟨_,rfl,Hj⟩:=hq
 unfold sZ at hsrc
 split at hsrc
 ·simp [sY]at Hj
 ·simp only[bb.injEq,Prod.mk.injEq]at hsrc
  obtain⟨rfl,_,rfl⟩:=hsrc
  have: _=s:=cU hfit
  subst this
  exact h1
 ·simp only[bb.injEq,Prod.mk.injEq]at hsrc
  obtain⟨_,_,rfl⟩:=hsrc
  simp only[Den]at h1
  subst h1
  simp only[Den,bK]
  exact⟨none,0,rfl,av _,.inl rfl⟩
 ·simp only[bb.injEq,Prod.mk.injEq]at hsrc
  obtain⟨_,_,rfl⟩:=hsrc
  simp only[Den]at h1
  obtain⟨a,rfl⟩:=h1
  simp only[Den,bK]
  exact⟨a,0,rfl,av _,.inl rfl⟩
 ·simp [sY]at Hj
 ·simp [sY]at Hj
 ·cases hsrc
theorem H0 {kb:KB} {s:Nat} {σ:Sg} {E:EH}:∀{vs us:List V} {p:Prop},sJ kb s vs=some (p,us,[])->∀{xs:List Value},aT σ E vs xs->aT σ E us xs
 | [],us,p,h,xs,hd=>by
  simp only[sJ,bb.injEq,Prod.mk.injEq]at h
  obtain⟨_,rfl,_⟩:=h
  exact hd
 |v::vs,us,p,h,xs,hd=>by
  simp only[sJ]at h
  obtain⟨ys,zs,rfl,h1,h2⟩:=hd.io
  split at h<;>try (cases h;done)
  rename_i q ws ls hq
  split at h
  ·rename_i p1 u BA h3
   simp only[bb.injEq,Prod.mk.injEq]at h
   obtain⟨rfl,rfl,he⟩:=h
   have hk:BA=[]/\ls=[]:=List.append_eq_nil_iff.1 he
   obtain⟨rfl,rfl⟩:=hk
   refine aT.cons ?_ (H0 hq h2)
   rcases h1 with ⟨y,rfl,h4,h5⟩ | ⟨m,cs,rfl,_,_⟩
   ·exact .inl ⟨y,rfl,h4,P8 h3 h5⟩
   ·cases h3
  ·simp only[bb.injEq,Prod.mk.injEq]at h
   obtain⟨rfl,rfl,rfl⟩:=h
   exact aT.cons h1 (H0 hq h2)
theorem aaB {kb:KB} {s:Nat} {v u:V} {q:Prop} (hq:yb kb s v=some (q,u,[])) {σ:Sg} {E:EH} {x:Value} (h1:Den σ E v x):Den σ E u x:=by
 unfold yb at hq
 split at hq
 ·split at hq<;>try (cases hq;done)
  rename_i l p1 us BA h2
  simp only[bb.injEq,Prod.mk.injEq]at hq
  obtain⟨rfl,rfl,rfl⟩:=hq
  simp only[Den]at h1 ⊢
  obtain⟨vs,rfl,h3⟩:=h1
  exact⟨vs,rfl,H0 h2 h3⟩
 ·exact P8 hq h1
theorem BN {kb:KB} {σ:Sg} {E:EH} {W:World} (hi:Inv σ E kb W):∀{ss:List Mode} {vs us:List V} {p:Prop},iU kb ss vs=some (p,us,[])->∀{xs:List Value},aq σ E vs xs->aq σ E us xs
 |ss,[],us,p,h,xs,hd=>by
  have:us=[]:=by
   cases ss with
   |nil=>simp only[iU,bb.injEq,Prod.mk.injEq]at h;exact h.2.1.symm
   |cons m ss=>cases m<;>(simp only[iU,bb.injEq,Prod.mk.injEq]at h;exact h.2.1.symm)
  subst this
  simpa only[aq]using hd
 | [],v::vs,us,p,h,xs,hd=>by
  simp only[iU]at h
  split at h<;>try (cases h;done)
  rename_i q ws ks hq
  simp only[bb.injEq,Prod.mk.injEq]at h
  obtain⟨rfl,rfl,rfl⟩:=h
  simp only[aq]at hd ⊢
  obtain⟨x,xs',rfl,h1,h2⟩:=hd
  exact⟨x,xs',rfl,h1,BN hi hq h2⟩
 |m::ss,v::vs,us,p,h,xs,hd=>by
  have plain:(match iU kb ss vs with | some (p,us,is)=>some (p,v::us,is) | none=>none)=some (p,us,[])->aq σ E us xs:=fun h=>by
   split at h<;>try (cases h;done)
   rename_i q ws ks hq
   simp only[bb.injEq,Prod.mk.injEq]at h
   obtain⟨rfl,rfl,rfl⟩:=h
   simp only[aq]at hd ⊢
   obtain⟨x,xs',rfl,h1,h2⟩:=hd
   exact⟨x,xs',rfl,h1,BN hi hq h2⟩
  cases m with
  |mj=>exact plain (by simpa only[iU]using h)
  |fe s=>exact plain (by simpa only[iU]using h)
  |iD=>exact plain (by simpa only[iU]using h)
  |tail=>exact plain (by simpa only[iU]using h)
  |fI s=>
   simp only[iU]at h
   split at h<;>try (cases h;done)
   rename_i q u ks q' ws ls hq pp
   simp only[bb.injEq,Prod.mk.injEq]at h
   obtain⟨rfl,rfl,he⟩:=h
   have hk:ks=[]/\ls=[]:=List.append_eq_nil_iff.1 he
   obtain⟨rfl,rfl⟩:=hk
   simp only[aq]at hd ⊢
   obtain⟨x,xs',rfl,h1,h2⟩:=hd
   refine⟨x,xs',rfl,?_,BN hi pp h2⟩
   exact aaB hq h1
theorem aeS {P:Program} {f:FuncId} {S:aE} (hS:aN P f S) {ms:List Mode} {args:List V} {kb:KB} {K:V->KB->Prop} (h:J3 S ms args kb K) {σ:Sg} {E:EH} {W:World} {xs:List Value} (hi:Inv σ E kb W) (hd:aq σ E args xs):
  Calls P f xs.toArray W (fun e W'=>∃ v r σ' E' kb',e= .returned v/\Step σ E kb W σ' E' kb' W'/\Den σ' E' r v/\K r kb'):=by
 unfold J3 at h
 obtain⟨E0,rf,us0,s0,d0,h⟩:=xN h hi hd
 suffices body:Calls P f xs.toArray W (fun e W'=>∃ v r σ' E' kb',e= .returned v/\Step σ E0 rf W σ' E' kb' W'/\Den σ' E' r v/\K r kb') by
  refine body.mono ?_
  rintro e W' ⟨v,r,σ',E',kb',h1,h2,h3,h4⟩
  exact⟨v,r,σ',E',kb',h1,s0.trans h2,h3,h4⟩
 replace hi:=s0.inv
 replace hd:=d0
 clear s0 d0
 generalize E0=E at*
 generalize rf=kb at*
 generalize us0=args at*
 split at h<;>try exact h.elim
 ·rename_i q args1 Ho
  exact CX hS h hi (BN hi Ho hd)
 rename_i p args1 is _ Ho
 obtain⟨hp,h⟩:=h
 split at h<;>try exact h.elim
 rename_i args' sub o hc
 split at h<;>try exact h.elim
 rename_i YZ
 obtain⟨hn,_,qW,hsel⟩:=qI hc
 obtain⟨k1,k2,k3⟩:=hi.sel hn hsel
 obtain⟨jF,da⟩:=wh hsel
 have hdj:=NO YZ
 have YW:=BO hi (js:=is) Ho hp (fun i h=>h) hd
 have m5:∀ b,cq (dN σ o) sub b->∀(j:Nat) (r:Re) (ob:KO),j ∉ o->σ[j]? =some r->kb[j]? =some ob->owned r ob b->False:=by
  intro b hb j r ob hj h1 h2 h3
  obtain⟨i,r2,o2,g1,g2,g3,g4⟩:=Ji hi.len hsel hb
  exact hi.dx i j r2 r o2 ob b (fun e=>by subst e;exact hj g1) g2 g3 h1 h2 g4 h3
 have k1':Inv (dN σ o) (m9 σ kb is W E) sub W:=by
  refine⟨k1.len,fun i r ob h1 h2=>?_,k1.dx,fun b x hb=>?_,fun b hb=>?_⟩
  ·simpa using(k1.obj i r ob h1 h2).mono (τ:=[]) (W':=W) (uf σ kb is W E) (fun _ _=>rfl)
  ·simp only[m9]at hb
   split at hb
   ·rename_i x' hx;rw[<- hb];exact k1.dj b x' hx
   ·split at hb
    ·exact hb
    ·cases hb
  ·have h0:=k1.sep b hb
   simp only[m9,h0]
   rw[if_neg]
   rintro⟨i,hi',r,ob,hr,hk,ho⟩
   exact m5 _ hb i r ob (hdj i hi') hr hk ho
 refine(hS args' sub _ h (dN σ o) (m9 σ kb is W E) W xs k1' (aq.bY k3 qW YW)).mono ?_
 rintro e W' ⟨v,r,σs,E',bE,rfl,hst,eG,hK⟩
 split at hK<;>try exact hK.elim
 rename_i r' kb' ps qs G6 hr' hkb' Y2 Y3
 obtain⟨qU,hK⟩:=hK
 have Ps:=Nq qU
 have hle:=Nat.le_of_ble_eq_true G6
 obtain⟨τ,oF⟩:=hst.pre
 have HC:(dN σ o).length=o.length:=by simp [dN]
 have hl2:σs.length=bE.length:=hst.inv.len
 obtain⟨hout,G9⟩:=Ff hkb'
 let ny:=σ++σs.drop o.length
 have q8:∀ i j r,jZ o kb.length i=some j->σs[i]? =some r->ny[j]? =some r:=by
  intro i j r hb hr
  unfold jZ at hb
  split at hb
  ·rename_i q hq
   cases hb
   have hil:i<o.length:=(bG.1 hq).1
   rw[oF,dP (by rw[HC];exact hil)]at hr
   simp only[dN,fE,hq,Option.map_some,bb.injEq]at hr
   obtain⟨ob,_,qd,_,_⟩:=da i j hq
   have hjl:j<σ.length:=by rw[hi.len];exact(bG.1 qd).1
   rw[bp hjl]at hr
   simp only[Option.getD_some]at hr
   show(σ++_)[j]? =_
   rw[dP hjl,bp hjl,hr]
  ·rename_i hq
   cases hb
   have hil:o.length<=i:=by
    rcases jX i o.length with h' | h'
    ·rw[bp h']at hq;cases hq
    ·exact h'
   show(σ++_)[_]? =_
   rw[eW (by rw[hi.len];omega),hi.len,show kb.length+(i - o.length) - kb.length=i - o.length by omega,jw,show o.length+(i - o.length)=i by omega]
   exact hr
 have eO:∀(i:Nat) (r:Re) (ob:KO),ny[i]? =some r->kb'[i]? =some ob->
   (∃ k a,jZ o kb.length k=some i/\σs[k]? =some r/\bE[k]? =some a/\KO.bY (jZ o kb.length) a=some ob)∨(i ∉ o/\σ[i]? =some r/\kb[i]? =some ob):=by
  intro i r ob h1 h2
  rcases G9 i ob h2 with ⟨c1,c2,c3⟩ | ⟨c1,k,a,c2,c3,c4⟩ | ⟨c1,a,c2,c3⟩
  ·rw[c9]at c2
   have h1':(σ++σs.drop o.length)[i]? =some r:=h1
   rw[dP (by rw[hi.len];exact c1)]at h1'
   exact .inr ⟨PG c2,h1',c3⟩
  ·rw[c9]at c2
   have hk:=Bw c2
   have iQ:k<σs.length:=by rw[hl2];exact(bG.1 c3).1
   have hb:jZ o kb.length k=some i:=by simp [jZ,hk]
   have:=q8 k i _ hb (bp iQ)
   rw[this]at h1
   exact .inl ⟨k,a,hb,by rw[bp iQ];exact h1,c3,c4⟩
  ·have hb:jZ o kb.length (o.length+(i - kb.length))=some i:=by
    have:o[o.length+(i - kb.length)]? =none:=gO (by omega)
    simp only[jZ,this]
    congr 1
    omega
   have iQ:o.length+(i - kb.length)<σs.length:=by rw[hl2];exact(bG.1 c2).1
   have:=q8 _ i _ hb (bp iQ)
   rw[this]at h1
   exact .inl ⟨_,a,hb,by rw[bp iQ];exact h1,c2,c3⟩
 have Hv:∀(j:Nat) (r:Re) (ob:KO),j ∉ o->σ[j]? =some r->kb[j]? =some ob->∀ b,owned r ob b->W'.heap[b]? =W.heap[b]?:=by
  intro j r ob hj h1 h2 b h3
  exact hst.bQ.block b ((hi.obj j r ob h1 h2).lt h3) (fun hb=>m5 b hb j r ob hj h1 h2 h3)
 have qT:∀ b (k:Nat) (r:Re) (a:KO),σs[k]? =some r->bE[k]? =some a->owned r a b->cq (dN σ o) sub b∨W.heap.size<=b:=fun b k r a h1 h2 h3=>hst.own b ⟨k,r,a,h1,h2,h3⟩
 have hown:∀ b,cq ny kb' b->cq σ kb b∨W.heap.size<=b:=by
  rintro b ⟨i,r,ob,h1,h2,h3⟩
  rcases eO i r ob h1 h2 with ⟨k,a,_,g2,g3,g4⟩ | ⟨g1,g2,g3⟩
  ·rcases qT b k r a g2 g3 ((l6 g4).1 h3)with h4 | h4
   ·exact .inl (k2 b h4)
   ·exact .inr h4
  ·exact .inl ⟨i,r,ob,g2,g3,h3⟩
 have OG:E.le E':=(uf σ kb is W E).trans hst.le
 refine⟨v,r',ny,E,kb',rfl,⟨⟨?_,fun i r ob h1 h2=>?_,fun i j r1 r2 o1 o2 b hij h1 h2 h3 h4 h5 h6=>?_,fun b x hb=>hst.inv.dj b x (OG b x hb),fun b hb=>?_⟩,⟨hst.bQ.os,hst.bQ.tape,hst.bQ.output,hst.bQ.size,fun b hb hn'=>hst.bQ.block b hb (fun h=>hn' (k2 b h))⟩,⟨_,rfl⟩,EH.le.refl E,hown,fun b x hb=> .inl hb⟩,Den.bY q8 hr' (Den.free Y2 (fun p hp=>Ps p (iL _ hp)) eG),hK⟩
 ·simp only[ny,bn,fQ,hout,hi.len,hl2]
 ·rcases eO i r ob h1 h2 with ⟨k,a,_,g2,g3,g4⟩ | ⟨g1,g2,g3⟩
  ·obtain⟨us,u1,u2⟩:=Ow Y3 (fun p hp=>Ps p (mc _ hp)) k a g3
   exact((hst.inv.obj k r a g2 g3).free u1 u2).bY q8 g4
  ·exact(hi.obj i r ob g2 g3).mono (EH.le.refl E) (fun b hb=>Hv i r ob g1 g2 g3 b hb)
 ·rcases eO i r1 o1 h1 h2 with ⟨k,a,g1,g2,g3,g4⟩ | ⟨g1,g2,g3⟩<;>rcases eO j r2 o2 h3 h4 with ⟨m,a',q1,q2,q3,q4⟩ | ⟨q1,q2,q3⟩
  ·refine hst.inv.dx k m r1 r2 a a' b (fun e=>?_) g2 g3 q2 q3 ((l6 g4).1 h5) ((l6 q4).1 h6)
   subst e
   rw[g1]at q1
   cases q1
   exact hij rfl
  ·rcases qT b k r1 a g2 g3 ((l6 g4).1 h5)with h7 | h7
   ·exact m5 b h7 j r2 o2 q1 q2 q3 h6
   ·have:=(hi.obj j r2 o2 q2 q3).lt h6;omega
  ·rcases qT b m r2 a' q2 q3 ((l6 q4).1 h6)with h7 | h7
   ·exact m5 b h7 i r1 o1 g1 g2 g3 h5
   ·have:=(hi.obj i r1 o1 g2 g3).lt h5;omega
  ·exact hi.dx i j r1 r2 o1 o2 b hij g2 g3 q2 q3 h5 h6
 ·obtain⟨i,r,ob,h1,h2,h3⟩:=hb
  rcases eO i r ob h1 h2 with ⟨k,a,_,g2,g3,g4⟩ | ⟨g1,g2,g3⟩
  ·cases hE:E b with
   |none=>rfl
   |some x=>
    have h0:=hst.inv.sep b ⟨k,r,a,g2,g3,(l6 g4).1 h3⟩
    have:=OG b x hE
    rw[h0]at this;cases this
  ·exact hi.sep b ⟨i,r,ob,g2,g3,h3⟩
structure dA where
 Qu:List Mode
 S:aE
def dG (P:Program) (Sp:FuncId->Option dA) (T:FuncId->Nat->Option LI):Nat->bJ
 | 0=>fun _ _ _ _=>False
 |d+1=>fun f args kb K=>match Sp f with
  |some k=>match k.Qu with
   | []=>yQ k.S args kb K
   | .iD:: _=>J4 k.S args kb K
   | .tail:: _=>J6 k.S args kb K
   |ms=>J3 k.S ms args kb K
  |none=>CC P (dG P Sp T d) (T f) f args kb K
def LH (P:Program) (f:FuncId) (S:aE):List Mode->Prop
 | .tail:: _=>fZ P f S
 |_=>aN P f S
def dF (P:Program) (Sp:FuncId->Option dA):Prop:=∀ f k,Sp f=some k->LH P f k.S k.Qu
theorem dI {P:Program} (hm:P.follows .mixedOrders=true) {Sp:FuncId->Option dA} (hS:dF P Sp) (T:FuncId->Nat->Option LI):∀ d,bZ P (dG P Sp T d)
 | 0=>fun f args kb K h=>h.elim
 |d+1=>fun f args kb K h σ E W xs hi hd=>by
  simp only[dG]at h
  split at h
  ·rename_i k hk
   split at h
   ·rename_i hm;have:=hS f k hk;rw[hm]at this;exact CX this h hi hd
   ·rename_i hm;have:=hS f k hk;rw[hm]at this;exact Tp this h hi hd
   ·rename_i hm;have:=hS f k hk;rw[hm]at this;exact aeT this h hi hd
   ·rename_i h1 h2 h3;have:=hS f k hk;unfold LH at this;split at this
    ·rename_i l hm;exact absurd hm (h3 l)
    ·exact aeS this h hi hd
  ·exact SQ (dI hm hS T d) hm h hi hd
def aI (P:Program) (X:bJ) (T:Nat->Option LI) (f:FuncId) (args:List V) (kb:KB) (K:V->KB->Prop):Prop:=
 CC P X T f args kb (fun r kb'=>match canon kb.length [r] kb' with
  |some ([r'],kb',_)=>K r' kb'
  |_=>False)
theorem SR {P:Program} {X:bJ} (hX:bZ P X) (hm:P.follows .mixedOrders=true) {T:Nat->Option LI} {f:FuncId} {args:List V} {kb:KB} {K:V->KB->Prop} (h:aI P X T f args kb K) {σ:Sg} {E:EH} {W:World} {xs:List Value} (hi:Inv σ E kb W)
  (hd:aq σ E args xs):Calls P f xs.toArray W (fun e W'=>∃ v r σ' E' kb',e= .returned v/\Step σ E kb W σ' E' kb' W'/\Den σ' E' r v/\K r kb'):=by
 refine(SQ hX hm h hi hd).mono ?_
 rintro e W' ⟨v,r,σ',E',kb',rfl,h1,h2,h3⟩
 split at h3<;>try exact h3.elim
 rename_i r' bE o hc
 rw[<- hi.len]at hc
 obtain⟨σ2,h4,h5⟩:=Step.sel (c:=⟨σ,E,kb,W⟩) h1 hc (.cons h2 .nil)
 simp only[aq]at h5
 obtain⟨x,xs',he,h6,rfl⟩:=h5
 cases he
 exact⟨v,r',σ2,E',bE,rfl,h4,h6,h3⟩
def BD:V->Prop
 | .tt=>True
 | .sb b=>b=true
 |_=>False
theorem aaf {v:V} (h:BD v) {σ:Sg} {E:EH} {x:Value} (hd:Den σ E v x):x= .bool true:=by
 cases v<;>simp only[BD]at h
 ·subst h;simpa [Den]using hd
 ·simpa [Den]using hd
def o4 (W:World):EH:=fun b=>W.heap[b]?
theorem aab (W:World):Inv [] (o4 W) [] W:=
 ⟨rfl,fun i r o h=>by simp at h,fun i j r r' o o' b _ h=>by simp at h,fun b o h=>h,fun b ⟨i,r,o,h,_⟩=>by simp at h⟩
theorem aas {P:Program} {X:bJ} (hX:bZ P X) {f:FuncId} {args:List V} (h:X f args [] (fun r _=>BD r)) {W:World} {xs:List Value} (hd:aq [] (o4 W) args xs):
  Calls P f xs.toArray W (fun e W'=>e= .returned (.bool true)/\RowKit.Below W.heap.size W W'):=by
 refine(hX f args [] _ h [] (o4 W) W xs (aab W) hd).mono ?_
 rintro e W' ⟨v,r,σ',E',kb',rfl,h1,h2,h3⟩
 refine⟨by rw[aaf h3 h2],⟨h1.bQ.os,h1.bQ.tape,h1.bQ.output,h1.bQ.size,fun k hk=>h1.bQ.block k hk (fun⟨i,r,o,h,_⟩=>by simp at h)⟩⟩
inductive SH where
 |int (k:IntKind)
 |bool
 |sl (es:List SH)
mutual
def th:SH->D->Prop
 | .int k,d=>∃ n,d= .val (.int k n)/\(Lit.int k n).wf=true
 | .bool,d=>∃ b,d= .val (.bool b)
 | .sl es,d=>∃ l,d= .sl es.length l/\l.length<=maxLen/\∀ e∈l,gC es e
def gC:List SH->List D->Prop
 | [],ds=>ds=[]
 |s::ss,ds=>∃ d ds',ds=d::ds'/\th s d/\gC ss ds'
end
theorem gC.len:∀{ks:List SH} {vs:List D},gC ks vs->vs.length=ks.length
 | [],_,h=>by simp only[gC]at h;simp [h]
 |k::ks,_,h=>by simp only[gC]at h;obtain⟨v,vs',rfl,_,h2⟩:=h;simp [gC.len h2]
theorem gC.append:∀{ks:List SH} {vs:List D},gC ks vs->∀{ls:List SH} {us:List D},gC ls us->gC (ks++ls) (vs++us)
 | [],_,h,_,_,k=>by simp only[gC]at h;subst h;simpa using k
 |k::ks,_,h,_,_,k'=>by
  simp only[gC]at h
  obtain⟨v,vs',rfl,h1,h2⟩:=h
  simp only[List.cons_append,gC]
  exact⟨v,_,rfl,h1,h2.append k'⟩
def pK (P:Program):Nat->TypeId->Option (List SH)
 | 0,_=>none
 |n+1,t=>
  match P.underlying t with
  |some .bool=>some [.bool]
  |some (.int k)=>some [.int k]
  |some (.slice e)=>match pK P n e with
   |some (s::ss)=>match cp (s::ss).length (P.cellsOf e)with
    |true=>some [.sl (s::ss)]
    |false=>none
   |_=>none
  |some (.struct fs)=>fs.toList.foldl (fun acc f=>match acc,pK P n f.type with
   |some ks,some l=>match cp ks.length f.offset,cp l.length (P.cellsOf f.type)with
    |true,true=>some (ks++l)
    |_,_=>none
   |_,_=>none) (some [])
  |some (.array m e)=>match pK P n e with
   |some l=>match cp l.length (P.cellsOf e)with
    |true=>some (dq m l).flatten
    |false=>none
   |none=>none
  |_=>none
theorem yd {α β:Type} {f:α->Option β}:∀{l:List α} {r:List β},l.mapM f=some r->r.length=l.length/\∀(i:Nat) (a:α),l[i]? =some a->∃ b,f a=some b/\r[i]? =some b
 | [],r,h=>by simp at h;subst h;simp
 |a::l,r,h=>by
  simp only[List.mapM_cons,Option.bind_eq_bind,kP,Option.pure_def,bb.injEq]at h
  obtain⟨b,hb,rs,hrs,rfl⟩:=h
  obtain⟨h1,h2⟩:=yd hrs
  refine⟨by simp [h1],fun i x hx=>?_⟩
  cases i with
  |zero=>simp at hx;subst hx;exact⟨b,hb,rfl⟩
  |succ i=>simpa using h2 i x (by simpa using hx)
section
variable {H:Type} {enc:TypeId×Value->H} {P:Program} {w:World} {base:Nat} {spare:Nat->Bool} {held:Bool}
theorem FB {a:Addr} {n:Nat} {cs:List Value} (h:w.cells? base a n=some cs):cs.length=n/\∀(j:Nat) (x:Value),cs[j]? =some x->w.cell? (a.add j)=some x:=by
 unfold World.cells? at h
 split at h
 ·obtain⟨h1,h2⟩:=yd h
  refine⟨by simpa using h1,fun j x hj=>?_⟩
  have hlt:j<n:=by
   have:=(bG.1 hj).1
   rw[h1]at this
   simpa using this
  obtain⟨b,hb,fx⟩:=h2 j j (by simp [hlt])
  rw[hj]at fx;cases fx
  exact hb
 ·cases h
def mh (w:World) (ks:List SH) (cs:List Value):Prop:=∃ ds,a_ (o4 w) ds cs/\gC ks ds
theorem mh.append {ks ls:List SH} {cs es:List Value} (h:mh w ks cs) (k:mh w ls es):mh w (ks++ls) (cs++es):=by
 obtain⟨ds,h1,h2⟩:=h
 obtain⟨us,k1,k2⟩:=k
 exact⟨ds++us,h1.append k1,h2.append k2⟩
theorem mh.nil:mh w [] []:=⟨[],.nil,by simp [gC]⟩
theorem mh.len {ks:List SH} {cs:List Value} (h:mh w ks cs):cs.length=ks.length:=by
 obtain⟨ds,h1,h2⟩:=h
 rw[h1.len,h2.len]
theorem Db:∀(m fuel:Nat) (t:TypeId) (cs:List Value) (ks:List SH) (x:DataW H×List MemPlace),pK P m t=some ks->DataW.trod enc P w base spare held fuel t cs=some x->mh w ks (cs.take ks.length)
 | 0,_,_,_,_,_,h,_=>by simp [pK]at h
 |m+1,0,_,_,_,_,_,h=>by simp [DataW.trod]at h
 |m+1,fuel+1,t,cs,ks,x,hs,hx=>by
  simp only[pK]at hs
  unfold DataW.trod at hx
  split at hs
  ·rename_i ht
   cases hs
   simp only[ht]at hx
   split at hx<;>try (simp at hx;done)
   all_goals rename_i heq;simp at heq
   exact⟨[.val _],.cons (show bK _ (.val _) _ from⟨rfl,rfl⟩) .nil,by simp only[gC,th];exact⟨_,[],rfl,⟨_,rfl⟩,rfl⟩⟩
  ·rename_i k ht
   cases hs
   simp only[ht]at hx
   split at hx<;>try (simp at hx;done)
   all_goals rename_i heq;simp at heq
   subst heq
   split at hx
   ·rename_i hc
    obtain⟨rfl,hw⟩:=hc
    exact⟨[.val _],.cons (show bK _ (.val _) _ from⟨rfl,rfl⟩) .nil,by simp only[gC,th];exact⟨_,[],rfl,⟨_,rfl,hw⟩,rfl⟩⟩
   ·cases hx
  ·rename_i e ht
   split at hs<;>try (cases hs;done)
   rename_i s0 ss0 sD
   split at hs<;>try (cases hs;done)
   rename_i hb
   cases hs
   have hc:=(cU hb).symm
   obtain⟨es,Pc⟩:∃ es,es=s0::ss0:=⟨_,rfl⟩
   rw[<- Pc]at sD hc ⊢
   have hk:0<es.length:=by rw[Pc];simp
   simp only[ht]at hx
   have wrap:∀{v:Value} {l:List (List D)},bK (o4 w) (.sl es.length l) v->l.length<=maxLen->(∀ e∈l,gC es e)->mh w [.sl es] [v]:=fun h1 h2 h3=>
    ⟨[.sl es.length _],.cons h1 .nil,by simp only[gC,th];exact⟨_,[],rfl,⟨_,rfl,h2,h3⟩,rfl⟩⟩
   split at hx<;>try (simp at hx;done)
   all_goals try (rename_i heq;simp at heq;done)
   ·exact wrap (l:=[]) (by simp only[bK];exact⟨none,0,rfl,av _,.inl rfl⟩) (by simp) (fun e he=>by cases he)
   ·rename_i a len cap heq
    simp only[bb.injEq,TypeDesc.slice.injEq]at heq
    subst heq
    simp only[iZ,kn,List.take_succ_cons,List.take_zero]
    split at hx
    ·rename_i OY
     obtain⟨hb,hlc,pj⟩:=OY
     simp only[kP]at hx
     obtain⟨elems,hel,qX⟩:=hx
     obtain⟨Y4,da⟩:=yd hel
     have hex:∀ i,i<len->∃ cs ds,w.cells? base (a.add (i*P.cellsOf e)) (P.cellsOf e)=some cs/\a_ (o4 w) ds cs/\gC es ds:=by
      intro i hi
      obtain⟨b,hb,_⟩:=da i i (by simp [hi])
      simp only[kP]at hb
      obtain⟨cs,h1,h2⟩:=hb
      have h3:=Db m fuel e cs es _ sD h2
      rw[eM (by rw[(FB h1).1];omega)]at h3
      obtain⟨ds,h4,h5⟩:=h3
      exact⟨cs,ds,h1,h4,h5⟩
     have hl:∃ l:List (List D),l.length=len/\∀ i d,l[i]? =some d->∃ c,w.cells? base (a.add (i*P.cellsOf e)) (P.cellsOf e)=some c/\a_ (o4 w) d c/\gC es d:=by
      clear Y4 da hel pj hlc qX
      induction len with
      |zero=>exact⟨[],rfl,by simp⟩
      |succ len ih=>
       obtain⟨l,h1,h2⟩:=ih (fun i hi=>hex i (by omega))
       obtain⟨c,d,h3,h4,h5⟩:=hex len (by omega)
       refine⟨l++[d],by simp [h1],fun i d' hd'=>?_⟩
       rcases Nat.lt_trichotomy i l.length with hi | hi | hi
       ·rw[dP hi]at hd'
        exact h2 i d' hd'
       ·subst hi
        simp at hd'
        subst hd'
        rw[h1]
        exact⟨c,h3,h4,h5⟩
       ·rw[gO (by simp;omega)]at hd';cases hd'
     obtain⟨l,Bm,hl⟩:=hl
     have Bi:∀ x∈l,gC es x:=fun x hx=>by
      obtain⟨i,hi⟩:=jx hx
      obtain⟨_,_,_,h⟩:=hl i x hi
      exact h
     have hw:wl es.length l:=fun x hx=>(Bi x hx).len
     refine wrap (l:=l) ?_ (by omega) Bi
     simp only[bK]
     refine⟨some a,cap,by rw[Bm],by omega,?_⟩
     by_cases h0:len=0
     ·left;omega
     ·right
      obtain⟨c0,d0,k1,k2,k3⟩:=hex 0 (by omega)
      have hcl:=k2.len
      have hdl:=k3.len
      obtain⟨x0,hx0⟩:∃ x,c0[0]? =some x:=⟨c0[0],bp (by omega)⟩
      have hcell:=(FB k1).2 0 x0 hx0
      simp only[Nat.zero_mul]at hcell
      have ha0:(a.add 0).add 0=a:=by simp [Addr.add]
      rw[ha0]at hcell
      have Pz:=World.cell?_spot hcell
      obtain⟨ab,ao,sp⟩:=a
      simp only at Pz
      subst Pz
      refine⟨ab,ao,rfl,fb.of_flat hw (di.yr fun j d hj=>?_)⟩
      have hjl:j<l.flatten.length:=(bG.1 hj).1
      rw[o9 hw]at hjl
      have hq:j / es.length<l.length:=Nat.div_lt_of_lt_mul (by rw[Nat.mul_comm];exact hjl)
      have hmod:j % es.length<es.length:=Nat.mod_lt _ hk
      have O8:j / es.length*es.length+j % es.length=j:=Nat.div_add_mod' j es.length
      obtain⟨c,q1,q2,q3⟩:=hl (j / es.length) _ (bp hq)
      have q4:=q3.len
      have hd2:=Oi hw (bp hq) (bp (l:=l[j / es.length]) (i:=j % es.length) (by omega))
      rw[O8,hj]at hd2
      obtain⟨y,hy1,hy2⟩:=q2.get (bp (l:=l[j / es.length]) (i:=j % es.length) (by omega))
      rw[<- bb.inj hd2]at hy2
      refine⟨y,?_,hy2⟩
      have:=(FB q1).2 (j % es.length) y hy1
      rw[Addr.add_lit,Addr.add_lit,hc,gE,O8]at this
      show EH.cell (o4 w) ab (ao+j)=some y
      rw[<- this]
      unfold EH.cell o4 World.cell?
      cases w.heap[ab]?<;>rfl
    ·cases hx
  ·rename_i fs ht
   simp only[ht]at hx
   split at hx
   ·simp only[Option.map_eq_some_iff]at hx
    obtain⟨xs,hxs,_⟩:=hx
    obtain⟨_,da⟩:=yd hxs
    have key:∀(l:List Field) (acc ks:List SH),(∀ f∈l,∃ y,DataW.trod enc P w base spare held fuel f.type ((cs.drop f.offset).take (P.cellsOf f.type))=some y)->mh w acc (cs.take acc.length)->
      l.foldl (fun acc f=>match acc,pK P m f.type with
       |some ks,some l=>match cp ks.length f.offset,cp l.length (P.cellsOf f.type)with
        |true,true=>some (ks++l)
        |_,_=>none
       |_,_=>none) (some acc)=some ks->mh w ks (cs.take ks.length):=by
     intro l
     induction l with
     |nil=>intro acc ks _ hacc hf;simp only[List.foldl_nil,bb.injEq]at hf;subst hf;exact hacc
     |cons f l ih=>
      intro acc ks hall hacc hf
      simp only[List.foldl_cons]at hf
      have hnone:∀ l:List Field,l.foldl (fun acc f=>match acc,pK P m f.type with
       |some ks,some l=>match cp ks.length f.offset,cp l.length (P.cellsOf f.type)with
        |true,true=>some (ks++l)
        |_,_=>none
       |_,_=>none) (none:Option (List SH))=none:=by
       intro l;induction l with
       |nil=>rfl
       |cons a l ih=>exact ih
      cases HB:pK P m f.type with
      |none=>rw[HB]at hf;exact absurd (hf.symm.trans (hnone l)) (by simp)
      |some sl=>
       rw[HB]at hf
       simp only[]at hf
       cases gx:cp acc.length f.offset with
       |false=>simp only[gx]at hf;exact absurd (hf.symm.trans (hnone l)) (by simp)
       |true=>
       cases fx:cp sl.length (P.cellsOf f.type)with
       |false=>simp only[gx,fx]at hf;exact absurd (hf.symm.trans (hnone l)) (by simp)
       |true=>
        simp only[gx,fx]at hf
        have e1:=cU gx
        have e2:=cU fx
        obtain⟨y,hy⟩:=hall f iu
        have hc:=Db m fuel f.type _ sl y HB hy
        rw[<- e2,List.take_take,Nat.min_self,<- e1]at hc
        refine ih (acc++sl) ks (fun g hg=>hall g (fM _ hg)) ?_ hf
        rw[bn,List.take_add]
        exact hacc.append hc
    refine key fs.toList [] ks (fun f hf=>?_) (by simpa using mh.nil) hs
    obtain⟨i,hi⟩:=jx hf
    obtain⟨b,hb,_⟩:=da i f hi
    exact⟨b,hb⟩
   ·cases hx
  ·rename_i n e ht
   simp only[ht]at hx
   split at hx
   ·simp only[Option.map_eq_some_iff]at hx
    obtain⟨xs,hxs,_⟩:=hx
    obtain⟨_,da⟩:=yd hxs
    split at hs<;>try (cases hs;done)
    rename_i l hl
    split at hs<;>try (cases hs;done)
    rename_i hb
    cases hs
    have e2:=cU hb
    have key:∀ k,k<=n->mh w (dq k l).flatten (cs.take (dq k l).flatten.length):=by
     intro k
     induction k with
     |zero=>intro _;simpa using mh.nil
     |succ k ih=>
      intro hk
      obtain⟨y,hy,_⟩:=da k k (List.getElem?_range (by omega))
      have hc:=Db m fuel e _ l y hl hy
      rw[<- e2,List.take_take,Nat.min_self]at hc
      have hlen:(dq k l).flatten.length=k*l.length:=by simp
      rw[List.replicate_succ',List.flatten_append,bn,List.take_add,hlen]
      simp only[jm,List.flatten_nil,fD]
      rw[<- hlen]
      refine(ih (by omega)).append ?_
      rw[hlen]
      exact hc
    exact key n (av _)
   ·cases hx
  ·cases hs
theorem adf {t:TypeId} {k:SH} (hs:pK P 20 t=some [k]) {v:Value} (hone:v.cells=#[v]) {d:DataW H} {p:List MemPlace} (h:DataW.Trod enc P w base spare held t v d p):
  ∃ x,bK (o4 w) x v/\th k x:=by
 obtain⟨fuel,hf⟩:=h
 have:=Db 20 fuel t _ _ _ hs hf
 rw[hone]at this
 obtain⟨ds,h1,h2⟩:=this
 simp only[iZ,kn,List.take_succ_cons,List.take_zero]at h1
 simp only[gC]at h2
 obtain⟨d,ds',rfl,h3,rfl⟩:=h2
 simp only[a_]at h1
 obtain⟨x,xs',e,h4,rfl⟩:=h1
 cases e
 exact⟨d,h4,h3⟩
theorem adg {t:TypeId} {es:List SH} (hs:pK P 20 t=some [.sl es]) {v:Value} (hv:∃ a len cap,v= .slice a len cap) {d:DataW H} {p:List MemPlace} (h:DataW.Trod enc P w base spare held t v d p):
  ∃ l,Den [] (o4 w) (.dat (.sl es.length l)) v/\l.length<=maxLen/\∀ e∈l,gC es e:=by
 obtain⟨a,len,cap,rfl⟩:=hv
 obtain⟨x,h1,h2⟩:=adf hs rfl h
 simp only[th]at h2
 obtain⟨l,rfl,h3,h4⟩:=h2
 exact⟨l,by simpa only[Den]using h1,h3,h4⟩
end
def KT:V->KB->Prop:=fun r _=>BD r
theorem dW {P:Program} {X:bJ} (hX:bZ P X) (hm:P.follows .mixedOrders=true) {f:FuncId} {S:aE} (h:∀ args kb K,S args kb K->∃ T,aI P X T f args kb K):aN P f S:=
 fun args kb K hs σ E W xs hi hd=>by
  obtain⟨T,hT⟩:=h args kb K hs
  exact SR hX hm hT hi hd
theorem wn {P:Program} (hm:P.follows .mixedOrders=true) {f:FuncId} {S:aE} (h:∀ args kb K,S args kb K->∃ X T,bZ P X/\aI P X T f args kb K):aN P f S:=
 fun args kb K hs σ E W xs hi hd=>by
  obtain⟨X,T,hX,hT⟩:=h args kb K hs
  exact SR hX hm hT hi hd
theorem J5 {P:Program} {X:bJ} (hX:bZ P X) (hm:P.follows .mixedOrders=true) (ds:List jz) {f:FuncId} {S:aE} (h:∀ args kb K,S args kb K->∃ T,aI P X T f args kb (eZ ds K)):aN P f S:=
 fun args kb K hs=>by
  have h0:aN P f (fun a k K0=>∃ T,aI P X T f a k K0):=dW hX hm fun _ _ _ h=>h
  exact Iz h0 ds args kb K (h args kb K hs)
theorem kY {P:Program} {X:bJ} (hX:bZ P X) (hm:P.follows .mixedOrders=true) {f:FuncId} {S:aE} (h:∀ args kb K,S args kb K->∃ T,aI P X T f args kb (dp kb.length K)):aN P f S:=
 fun args kb K hs=>by
  have h0:aN P f (fun a k K0=>∃ T,aI P X T f a k K0):=dW hX hm fun _ _ _ h=>h
  exact C_ h0 args kb K (h args kb K hs)
theorem mE {P:Program} {X:bJ} (hX:bZ P X) (hm:P.follows .mixedOrders=true) (ds:List jz) {f:FuncId} {S:aE} (h:∀ args kb K,S args kb K->∃ T,aI P X T f args kb (eZ ds (dp kb.length K))):aN P f S:=by
 have h1:aN P f (fun args kb K=>∃ T,aI P X T f args kb (eZ ds K)):=J5 hX hm ds (fun args kb K h=>h)
 have h2:=C_ h1
 exact fun args kb K hs=>h2 args kb K (h args kb K hs)
def KE:V->V
 | .tt=> .sb true
 | .ff=> .sb false
 |v=>v
theorem NK {σ:Sg} {E:EH}:∀{vs:List V} {xs:List Value},aq σ E vs xs->aq σ E (vs.map KE) xs
 | [],_,h=>h
 |v::vs,_,h=>by
  simp only[aq]at h
  obtain⟨x,xs',rfl,h1,h2⟩:=h
  refine .cons ?_ (NK h2)
  cases v<;>first | exact h1 | (simp only[Den]at h1;simpa [KE,Den]using h1)
def S8 (S:aE):aE:=fun args kb K=>S (args.map KE) kb K
theorem aeu {P:Program} {f:FuncId} {S:aE} (hS:aN P f S):aN P f (S8 S):=fun args kb K h σ E W xs hi hd=>hS _ kb K h σ E W xs hi (NK hd)
abbrev dn (k:IntKind) (n:Int):D:=.val (.int k n)
abbrev db (b:Bool):D:=.val (.bool b)
def aU (k:IntKind) (l:List Int):List D:=l.map fun n=> .val (.int k n)
def ints (k:IntKind) (l:List Int):List (List D):=l.map fun n=>[.val (.int k n)]
theorem bi {k:IntKind} {l:List Int}:(ints k l).length=l.length:=by simp [ints]
theorem oH {k:IntKind}:ints k []=[]:=rfl
theorem Z_ {k:IntKind} {a:Int} {l:List Int}:ints k (a::l)=[.val (.int k a)]::ints k l:=rfl
theorem py {k:IntKind} {l m:List Int}:ints k (l++m)=ints k l++ints k m:=by simp [ints]
theorem ints_set {k:IntKind} {l:List Int} {i:Nat} {n:Int}:(ints k l).set i [.val (.int k n)]=ints k (l.set i n):=by simp [ints]
theorem oI {k:IntKind} {l:List Int} {i:Nat}:(ints k l).take i=ints k (l.take i):=by simp [ints]
theorem Bz {k:IntKind} {l:List Int} {i:Nat}:(ints k l).drop i=ints k (l.drop i):=by simp [ints]
theorem aaa {k:IntKind} {m:Nat} {n:Int}:dq m [D.val (.int k n)]=ints k (dq m n):=by simp [ints]
theorem kv {k:IntKind} {l:List Int} {i:Nat}:(ints k l)[i]? =l[i]?.map fun n=>[D.val (.int k n)]:=by simp [ints]
theorem x5 {k:IntKind} {l:List Int}:(ints k l).flatten=aU k l:=by
 induction l with
 |nil=>rfl
 |cons a l ih=>rw[Z_,jm,ih];rfl
theorem ado {k:IntKind} {l:List Int}:Plain (aU k l):=fun d hd=>by
 obtain⟨n,_,rfl⟩:=eL.1 hd;trivial
theorem oP {k:IntKind} {l:List Int}:Plain (ints k l).flatten:=by rw[x5];exact ado
theorem Nn {α:Type} {ss:List SH} {f:α->List D} {Q:α->Prop} (hf:∀ x,gC ss x->∃ a,x=f a/\Q a):∀{l:List (List D)},(∀ x∈l,gC ss x)->∃ zs:List α,l=zs.map f/\∀ a∈zs,Q a
 | [],_=>⟨[],rfl,by simp⟩
 |x::l,h=>by
  obtain⟨zs,h1,h2⟩:=Nn hf (l:=l) (fun y hy=>h y (fM _ hy))
  obtain⟨a,rfl,ha⟩:=hf x (h x iu)
  refine⟨a::zs,by rw[h1];rfl,fun m hm=>?_⟩
  rcases ey.1 hm with rfl | hm
  ·exact ha
  ·exact h2 m hm
def PH (n:Int):Prop:=-9223372036854775808<=n/\n<=9223372036854775807
theorem bD {n:Int} (h1:-9223372036854775808<=n) (h2:n<=9223372036854775807):Z.wrap n=n:=IntWalk.i64_in n (by omega)
theorem Xy {σ:Sg} {E:EH} {v:V} {vs:List V} {x:Value} {xs:List Value} (h:Den σ E v x) (k:aq σ E vs xs):aq σ E (v::vs) (x::xs):=by
 simp only[aq];exact⟨x,xs,rfl,h,k⟩
def PQ (P:Program) (t:TypeId):Bool:=match P.underlying t with
 |some (.slice _)=>true
 |_=>false
theorem acQ {P:Program} {w:World} {r:Reach} {base:Nat} {t:TypeId} {v:Value} (hs:PQ P t=true) (h:Value.okWide P w r base t v):∃ a len cap,v= .slice a len cap:=by
 unfold PQ at hs
 split at hs
 ·rename_i e he;exact WideShapes.okWide_slice he h
 ·cases hs
inductive FM where
 |mj
 |num
 |sl (s:Nat)
def sQ:V->V
 | .lit k n=> .int k n
 | .any (.int k n)=> .int k n
 |v=>v
theorem IN {v:V} {σ:Sg} {E:EH} {x:Value} (h:Den σ E v x):Den σ E (sQ v) x:=by
 unfold sQ;split<;>first | exact h | (simp only[Den]at h ⊢;exact h)
theorem aa9 {v:V} {σ:Sg} {E:EH} {ys:List Value} (h:mN σ E v ys):mN σ E (sQ v) ys:=by
 rcases h with ⟨y,rfl,h1,h2⟩ | ⟨m,cs,rfl,h1,h2⟩
 ·exact .inl ⟨y,rfl,h1,IN h2⟩
 ·exact .inr ⟨m,cs,rfl,h1,h2⟩
theorem mN.mono' {σ:Sg} {E E':EH} (h:E.le E') {v:V} {ys:List Value} (hd:mN σ E v ys):mN σ E' v ys:=by
 rcases hd with ⟨y,rfl,h1,h2⟩ | ⟨m,cs,rfl,h1,h2⟩
 ·have:=Den.mono (τ:=[]) h h2
  rw[fD]at this
  exact .inl ⟨y,rfl,h1,this⟩
 ·exact .inr ⟨m,cs,rfl,h1,h2.mono h⟩
def pf:List FM->List V->KB->(List V->KB->Prop)->Prop
 |_,[],kb,K=>K [] kb
 | [],v::vs,kb,K=>K (v::vs) kb
 | .mj::ms,v::vs,kb,K=>pf ms vs kb (fun us kb'=>K (v::us) kb')
 | .num::ms,v::vs,kb,K=>pf ms vs kb (fun us kb'=>K (sQ v::us) kb')
 | .sl s::ms,v::vs,kb,K=>qJ (.sl s) v kb (fun d kb'=>pf ms vs kb' (fun us jG=>K (.dat d::us) jG))
theorem vt:∀{ms:List FM} {vs:List V} {kb:KB} {K:List V->KB->Prop},pf ms vs kb K->∀{σ:Sg} {E:EH} {W:World},Inv σ E kb W->∀{xs:List Value},aT σ E vs xs->
  ∃ E' kb' us,Step σ E kb W σ E' kb' W/\aT σ E' us xs/\K us kb'
 |ms,[],kb,K,h,σ,E,W,hi,xs,hd=>by
  have:K [] kb:=by cases ms with | nil=>exact h | cons m ms=>cases m<;>exact h
  exact⟨E,kb,[],Step.refl hi,hd,this⟩
 | [],v::vs,kb,K,h,σ,E,W,hi,xs,hd=>⟨E,kb,v::vs,Step.refl hi,hd,h⟩
 | .mj::ms,v::vs,kb,K,h,σ,E,W,hi,xs,hd=>by
  obtain⟨ys,zs,rfl,h1,h2⟩:=hd.io
  simp only[pf]at h
  obtain⟨E1,eH,us,s1,d1,hK⟩:=vt h hi h2
  have:=mN.mono' s1.le h1
  exact⟨E1,eH,v::us,s1,.cons this d1,hK⟩
 | .num::ms,v::vs,kb,K,h,σ,E,W,hi,xs,hd=>by
  obtain⟨ys,zs,rfl,h1,h2⟩:=hd.io
  simp only[pf]at h
  obtain⟨E1,eH,us,s1,d1,hK⟩:=vt h hi h2
  have:=mN.mono' s1.le (aa9 h1)
  exact⟨E1,eH,sQ v::us,s1,.cons this d1,hK⟩
 | .sl s::ms,v::vs,kb,K,h,σ,E,W,hi,xs,hd=>by
  obtain⟨ys,zs,rfl,h1,h2⟩:=hd.io
  simp only[pf]at h
  rcases h1 with ⟨y,rfl,h1,hy⟩ | ⟨m,cs,rfl,_,_⟩
  ·obtain⟨E1,eH,d,s1,r1,h⟩:=xz h hi hy
   have h2':=aT.mono (τ:=[]) s1.le h2
   rw[fD]at h2'
   obtain⟨E2,bE,us,s2,d2,hK⟩:=vt h s1.inv h2'
   exact⟨E2,bE,.dat d::us,s1.trans s2,aT.jc (by simp only[Den];exact r1.mono s2.le) h1 d2,hK⟩
  ·exact h.elim
def xL (ms:List FM) (K:V->KB->Prop):V->KB->Prop:=fun r kb=>match r with
 | .agg l=>pf ms l kb (fun us kb'=>K (.agg us) kb')
 | .υ (.agg l::rest)=>pf ms l kb (fun us kb'=>K (.υ (.agg us::rest)) kb')
 |_=>False
def Yc (ms:List FM) (S:aE):aE:=fun args kb K=>S args kb (xL ms K)
theorem Yd {P:Program} {f:FuncId} {S:aE} (hS:aN P f S) (ms:List FM):aN P f (Yc ms S):=fun args kb K h σ E W xs hi hd=>by
 refine(hS args kb _ h σ E W xs hi hd).mono ?_
 rintro e W' ⟨v,r,σs,E',bE,rfl,hst,eG,hK⟩
 unfold xL at hK
 split at hK<;>try exact hK.elim
 ·rename_i l
  simp only[Den]at eG
  obtain⟨vs,rfl,hl⟩:=eG
  obtain⟨E1,eH,us,s1,d1,hK⟩:=vt hK hst.inv hl
  exact⟨_,_,_,_,_,rfl,hst.trans s1,by simp only[Den];exact⟨vs,rfl,d1⟩,hK⟩
 ·rename_i l rest
  simp only[Den]at eG
  obtain⟨vs,rfl,hl⟩:=eG
  simp only[aq]at hl
  obtain⟨x,xs',rfl,hx,hr⟩:=hl
  simp only[Den]at hx
  obtain⟨cs,rfl,hl⟩:=hx
  obtain⟨E1,eH,us,s1,d1,hK⟩:=vt hK hst.inv hl
  have:=aq.mono (τ:=[]) s1.le hr
  rw[fD]at this
  exact⟨_,_,_,_,_,rfl,hst.trans s1,by simp only[Den];exact⟨_,rfl,.cons (by simp only[Den];exact⟨cs,rfl,d1⟩) this⟩,hK⟩
theorem Tq {P:Program} {X:bJ} (hX:bZ P X) (hm:P.follows .mixedOrders=true) (ms:List FM) {f:FuncId} {S:aE} (h:∀ args kb K,S args kb K->∃ T,aI P X T f args kb (xL ms (dp kb.length K))):aN P f S:=by
 have h0:aN P f (fun a k K0=>∃ T,aI P X T f a k K0):=dW hX hm fun _ _ _ h=>h
 have h2:=C_ (Yd h0 ms)
 exact fun args kb K hs=>h2 args kb K (h args kb K hs)
def jE (ms:List Mode) (K:V->KB->Prop):V->KB->Prop:=fun r kb=>match r with
 | .υ l=>sA ms l kb (fun us kb'=>K (.υ us) kb')
 |r=>sA ms [r] kb (fun us kb'=>match us with | [u]=>K u kb' | _=>False)
def Ym (ms:List Mode) (S:aE):aE:=fun args kb K=>S args kb (jE ms K)
theorem OC {P:Program} {f:FuncId} {S:aE} (hS:aN P f S) (ms:List Mode):aN P f (Ym ms S):=fun args kb K h σ E W xs hi hd=>by
 refine(hS args kb _ h σ E W xs hi hd).mono ?_
 rintro e W' ⟨v,r,σs,E',bE,rfl,hst,eG,hK⟩
 unfold jE at hK
 split at hK
 ·rename_i l
  simp only[Den]at eG
  obtain⟨vs,rfl,hl⟩:=eG
  obtain⟨E1,eH,us,s1,d1,hK⟩:=xN hK hst.inv hl
  exact⟨_,_,_,_,_,rfl,hst.trans s1,by simp only[Den];exact⟨vs,rfl,d1⟩,hK⟩
 ·rename_i r _
  obtain⟨E1,eH,us,s1,d1,hK⟩:=xN hK hst.inv (xB eG)
  split at hK<;>try exact hK.elim
  exact⟨_,_,_,_,_,rfl,hst.trans s1,xC d1,hK⟩
def Yn (ms:List Mode) (S:aE):aE:=fun args kb K=>S args kb (jE ms (dp kb.length K))
theorem Ba {P:Program} {f:FuncId} {S:aE} (hS:aN P f S) (ms:List Mode):aN P f (Yn ms S):=by
 have h2:=C_ (OC hS ms)
 exact fun args kb K hs=>h2 args kb K hs
abbrev gP:=BitVec 32
def FR:gP:=3988292384#32
def cst (x:gP):gP:=(x >>> 1) ^^^ (if x.getLsbD 0 then FR else 0#32)
def j0:Nat->gP->gP
 | 0,x=>x
 |n+1,x=>cst (j0 n x)
theorem ah1 (a b c d:gP):(a ^^^ b) ^^^ (c ^^^ d)=(a ^^^ c) ^^^ (b ^^^ d):=by
 apply BitVec.eq_of_getLsbD_eq
 intro i hi
 simp only[BitVec.getLsbD_xor]
 cases a.getLsbD i<;>cases b.getLsbD i<;>cases c.getLsbD i<;>cases d.getLsbD i<;>rfl
theorem Xr (a b:gP):cst (a ^^^ b)=cst a ^^^ cst b:=by
 unfold cst
 rw[ah1,<- BitVec.ushiftRight_xor_distrib,BitVec.getLsbD_xor]
 congr 1
 cases a.getLsbD 0<;>cases b.getLsbD 0<;>decide
theorem Nv (a b:gP):∀ n,j0 n (a ^^^ b)=j0 n a ^^^ j0 n b
 | 0=>rfl
 |n+1=>by rw[j0,Nv a b n,Xr];rfl
theorem Nu {x:gP}:∀ n,(∀ i,i<n->x.getLsbD i=false)->j0 n x=x >>> n
 | 0,_=>by simp [j0]
 |n+1,h=>by
  rw[j0,Nu n (fun i hi=>h i (by omega)),cst]
  have:(x >>> n).getLsbD 0=false:=by rw[BitVec.getLsbD_ushiftRight];exact h _ (by omega)
  rw[this,<- BitVec.shiftRight_add]
  simp
theorem Xq (x:gP):j0 8 x=(x >>> 8) ^^^ j0 8 (x &&& 255#32):=by
 have hx:x=(x &&& 4294967040#32) ^^^ (x &&& 255#32):=by
  apply BitVec.eq_of_getLsbD_eq
  intro i hi
  have e:(4294967040#32).getLsbD i= !(255#32).getLsbD i:=by
   rw[show(4294967040#32)= ~~~ 255#32 by decide,BitVec.getLsbD_not];simp [hi]
  rw[BitVec.getLsbD_xor,BitVec.getLsbD_and,BitVec.getLsbD_and,e]
  cases x.getLsbD i<;>cases (255#32).getLsbD i<;>rfl
 have h1:j0 8 (x &&& 4294967040#32)=(x &&& 4294967040#32) >>> 8:=Nu 8 (fun i hi=>by
  rw[BitVec.getLsbD_and]
  have:(4294967040#32).getLsbD i=false:=by
   have:i=0∨i=1∨i=2∨i=3∨i=4∨i=5∨i=6∨i=7:=by omega
   rcases this with rfl | rfl | rfl | rfl | rfl | rfl | rfl | rfl<;>decide
  rw[this,Bool.and_false])
 have h2:(x &&& 4294967040#32) >>> 8=x >>> 8:=by
  rw[BitVec.ushiftRight_and_distrib]
  rw[show(4294967040#32 >>> 8)=16777215#32 by decide]
  apply BitVec.eq_of_getLsbD_eq
  intro i hi
  rw[BitVec.getLsbD_and,BitVec.getLsbD_ushiftRight]
  by_cases h:i<24
  ·have:(16777215#32).getLsbD i=true:=by
    rw[show(16777215#32)=(BitVec.allOnes 24).setWidth 32 by decide]
    rw[BitVec.getLsbD_setWidth,BitVec.getLsbD_allOnes];simp [h,hi]
   rw[this,Bool.and_true]
  ·rw[BitVec.getLsbD_of_ge x (8+i) (by omega),Bool.false_and]
 conv=>lhs;rw[hx,Nv]
 rw[h1,h2]
def U (x:gP):Int:=(x.toNat:Int)
theorem LY (x:gP):0<=U x/\U x<4294967296:=by unfold U;have:=x.isLt;omega
theorem Am (x:gP):ic.wrap (U x)=U x:=IntWalk.u32_in _ (by have:=LY x;omega)
theorem u0 (x:gP):BitVec.ofInt 32 (U x)=x:=by
 unfold U
 rw[BitVec.ofInt_natCast,BitVec.ofNat_toNat,BitVec.setWidth_eq]
theorem LZ (x:gP) (k:Nat):(U x).fdiv (2 ^ k:Nat)=U (x >>> k):=by
 unfold U
 rw[Int.fdiv_eq_ediv_of_nonneg _ (Int.natCast_nonneg _),BitVec.toNat_ushiftRight,Nat.shiftRight_eq_div_pow]
 exact(Int.natCast_ediv _ _).symm
theorem abd {n:Int} (h:0<=n/\n<4294967296):U (BitVec.ofInt 32 n)=n:=by
 obtain⟨k,rfl⟩:=Int.eq_ofNat_of_zero_le h.1
 unfold U
 show((BitVec.ofInt 32 (k:Int)).toNat:Int)=k
 rw[BitVec.ofInt_natCast,BitVec.toNat_ofNat]
 have:k % 2 ^ 32=k:=Nat.mod_eq_of_lt (by have:=h.2;omega)
 rw[this]
theorem VF (x:gP):ic.wrap (ic.wrap (U (x &&& 1#32))*3988292384)=U (if x.getLsbD 0 then FR else 0#32):=by
 rw[Am]
 have:x &&& 1#32=if x.getLsbD 0 then 1#32 else 0#32:=by
  have:=BitVec.and_one_eq_setWidth_ofBool_getLsbD (x:=x)
  rw[this]
  cases x.getLsbD 0<;>decide
 rw[this]
 cases x.getLsbD 0<;>decide
def bm (l:List Int):Prop:=∀ c∈l,0<=c/\c<256
def AF (x:gP) (c:Int):gP:=j0 8 (x ^^^ BitVec.ofInt 32 c)
def mn (x:gP) (l:List Int):gP:=l.foldl AF x
def dZ (l:List Int):Int:=U (~~~ (mn 4294967295#32 l))
theorem Xm (x:gP) (l:List Int) (c:Int):mn x (l++[c])=AF (mn x l) c:=by simp [mn]
theorem Xl (x:gP) (l m:List Int):mn x (l++m)=mn (mn x l) m:=by simp [mn]
def vg (i:Nat):Int:=U (j0 8 (BitVec.ofNat 32 i))
def tG (i:Nat):List Int:=(iw 256).map fun j=>if j<i then vg j else 0
theorem Q5 {n:Int} (h:0<=n/\n<256):(BitVec.ofInt 32 n).toNat=n.toNat:=by
 have:=abd (n:=n) (by omega)
 unfold U at this;omega
theorem Qj (y:gP):(y &&& 255#32).toNat=y.toNat % 256:=by
 rw[BitVec.toNat_and,show(255#32).toNat=2 ^ 8 - 1 by decide,Nat.and_two_pow_sub_one_eq_mod]
theorem Xo {x:gP} {n:Int} (h:0<=n/\n<256):ι.wrap (((BitVec.ofInt 8 (ι.wrap (U x)) ^^^ BitVec.ofInt 8 n).toNat:Nat):Int)=(((x ^^^ BitVec.ofInt 32 n) &&& 255#32).toNat:Int):=by
 have e1:BitVec.ofInt 8 (ι.wrap (U x))=x.setWidth 8:=by
  apply BitVec.eq_of_toNat_eq
  rw[BitVec.toNat_ofInt,BitVec.toNat_setWidth]
  have:ι.wrap (U x)=U x % 256:=by rw[IntKind.wrap_u8]
  rw[this];unfold U;omega
 have e2:BitVec.ofInt 8 n=(BitVec.ofInt 32 n).setWidth 8:=by
  apply BitVec.eq_of_toNat_eq
  rw[BitVec.toNat_ofInt,BitVec.toNat_setWidth,Q5 h];omega
 rw[e1,e2,<- BitVec.setWidth_xor,Qj,BitVec.toNat_setWidth]
 exact IntWalk.u8_in _ (by omega)
theorem aeB {x:gP} {n:Int} (h:0<=n/\n<256):(x ^^^ BitVec.ofInt 32 n) >>> 8=x >>> 8:=by
 rw[BitVec.ushiftRight_xor_distrib]
 have:BitVec.ofInt 32 n >>> 8=0#32:=by
  apply BitVec.eq_of_toNat_eq
  rw[BitVec.toNat_ushiftRight,Q5 h,Nat.shiftRight_eq_div_pow]
  show n.toNat / 256=0
  omega
 rw[this,BitVec.xor_zero]
theorem Xp {x:gP} {n:Int} (h:0<=n/\n<256):ic.wrap (((BitVec.ofInt 32 ((U x).fdiv 256) ^^^ BitVec.ofInt 32 (U (j0 8 ((x ^^^ BitVec.ofInt 32 n) &&& 255#32)))).toNat:Nat):Int)=U (AF x n):=by
 have e1:=LZ x 8
 rw[show((2 ^ 8:Nat):Int)=256 from rfl]at e1
 rw[e1,u0,u0]
 unfold AF
 rw[Xq (x ^^^ BitVec.ofInt 32 n),aeB h]
 exact Am _
theorem VG (x:gP):ic.wrap (((BitVec.ofInt 32 4294967295 ^^^ BitVec.ofInt 32 (U x)).toNat:Nat):Int)=U (~~~x):=by
 rw[u0,show BitVec.ofInt 32 4294967295=BitVec.allOnes 32 by decide,BitVec.allOnes_xor]
 exact Am _
def bM (k n:Int):Int:=if n<1 then 0 else if k.tmod n<0 then k.tmod n+n else k.tmod n
theorem adl {k n:Int} (h:1<=n):0<=bM k n/\bM k n<n:=by
 have h1:=Int.tmod_lt_of_pos k (show 0<n by omega)
 have h2:-n<k.tmod n:=by
  have:=Int.lt_tmod_of_pos k (show 0<n by omega)
  exact this
 unfold bM
 rw[if_neg (by omega)]
 split<;>omega
def x_ (x:Int):List Int:=[ι.wrap x,ι.wrap (x.fdiv 256),ι.wrap (x.fdiv 65536),ι.wrap (x.fdiv 16777216)]
def b_ (l:List Int):List Int:=l++x_ (dZ l)
theorem oS (l:List Int):(b_ l).length=l.length+4:=by simp [b_,x_]
theorem aau (x:Int):bm (x_ x):=fun c hc=>by
 simp only[x_,ey,List.not_mem_nil,or_false]at hc
 rcases hc with rfl | rfl | rfl | rfl<;>(rw[IntKind.wrap_u8];omega)
theorem CL {l:List Int} (h:bm l):bm (b_ l):=fun c hc=>by
 rcases dM.1 hc with hc | hc
 ·exact h c hc
 ·exact aau _ c hc
theorem AG (l:List Int):0<=dZ l/\dZ l<4294967296:=LY _
def fq (l:List Int):Option (List Int):=if 4<=l.length/\b_ (l.take (l.length - 4))=l then some (l.take (l.length - 4))else none
theorem yy {l:List Int}:fq (b_ l)=some l:=by
 have h1:(b_ l).take ((b_ l).length - 4)=l:=by
  rw[oS,Nat.add_sub_cancel];unfold b_;rw[List.take_left]
 unfold fq
 rw[h1,if_pos ⟨by rw[oS];omega,rfl⟩]
end Vc
namespace Go.Proofs.YtfcjngcnifdmnaaGreat
open Vc Go
open Go.IntKind renaming i64->Z,u8->ι,u32->ic
open Vc.V renaming any->γ,sl->δ,int->ε,sb->θ,ptr->aj,υ->aw,dat->aD,aa->aP,mp->aX,arr->bB,agg->fF
open Vc.D renaming val->ζ,sl->ψ
open Go.Value renaming int->ν,map->kq,oneCell'->lU,bool->nE
open Vc.KO renaming row->ξ,dead->χ,cells->ar,objs->cD
open List renaming map->φ,drop->ay,take->az,length_append->bn,getElem?_eq_getElem->bp,getElem?_eq_some_iff->bG,length_map->bX,take_length->cM,length_take->cQ,replicate->dq,mem_append->dM,append_assoc->dO,getElem?_append_left->dP,mem_singleton->dQ,Mem->dS,mem_cons->ey,mem_map->eL,take_of_length_le->eM,getElem?_append_right->eW,mem_of_getElem?->fi,append_nil->fD,getElem?_map->fE,mem_cons_of_mem->fM,length_drop->fQ,getElem?_set_ne->gr,getD_eq_getElem?_getD->gD,getElem?_eq_none->gO,drop_zero->g_,getElem?_take_of_lt->hU,getElem?_set_self->ig,length_singleton->ii,length_set->ir,mem_cons_self->iu,range->iw,mem_append_left->iL,length_cons->iZ,take_add_one->i_,flatten_cons->jm,getElem?_drop->jw,getElem?_of_mem->jx,map_append->jy,nil_append->jV,length_nil->kn,mem_filter->kM,ext_getElem?->lw,eq_nil_of_length_eq_zero->ma,map_cons->mb,mem_append_right->mc
open Nat renaming le_refl->av,zero_le->bt,beq->cp,eq_of_beq_eq_true->cU,zero_add->c9,add_assoc->gE,lor->iy,lt_or_ge->jX,sub_zero->lT,le_trans->mf
open Option renaming some->bb,bind_eq_some_iff->kP,map->mO
open Int renaming toNat_natCast->cP,le_refl->fa
open Bool renaming and_eq_true->km,not_eq_false'->lm,not_eq_true'->lR
set_option linter.unusedVariables false
set_option linter.unusedSimpArgs false
set_option maxRecDepth 100000
def aG:FuncId->Nat->Option LI:=fun _ _=>none
def IE:FuncId->Option dA:=fun _=>none
noncomputable def X0:bJ:=dG Tryz.prog IE aG 10
def Sm (l:List Int):Prop:=l.length<=1000000
def rI (a b:List Int) (i:Nat):Prop:=i<=a.length/\a.take i=b.take i
abbrev JT (k:IntKind) (a b:List Int):LI where
 α:={i:Nat // rI a b i}
 live:=[0,1,5]
 st i:=([aD (.sl 1 (ints k a)),aD (.sl 1 (ints k b)),.int Z (i.1:Int)],[])
 μ i:=a.length - i.1
abbrev Gg (k:IntKind) (a b:List Int):LI where
 α:={i:Nat // rI a b i}
 live:=[0,1,12,13]
 st i:=([aD (.sl 1 (ints k a)),aD (.sl 1 (ints k b)),.int Z (a.length:Int),.int Z (i.1:Int)],[])
 μ i:=a.length - i.1
def CJ (k:IntKind) (a b:List Int):FuncId->Nat->Option LI
 | 12,4=>some (JT k a b)
 | 95,4=>some (Gg k a b)
 |_,_=>none
theorem ahg (a b:List Int) (K:V->KB->Prop) (an:
 (((↑(ints ι a).length:Int) != (↑(ints ι b).length:Int))=true->
 K (θ false) [])/\
 (((↑(ints ι a).length:Int) != (↑(ints ι b).length:Int))=false->
 At (JT ι a b) ([aD (ψ 1 (ints ι a)),aD (ψ 1 (ints ι b)),ε Z 0],[])/\
 ∀(i:{i:Nat // rI a b i }),let η:=(↑i.val:Int)<(↑(ints ι a).length:Int);(decide (η)=true->
 aB (↑i.val:Int)/\
 ∃(e:List D),(ints ι a)[(↑i.val:Int).toNat]? =some e/\
 ∃(n:Int),e[0]? =some (ζ (ν ι n))/\
 aB (↑i.val:Int)/\
 ∃(e:List D),(ints ι b)[(↑i.val:Int).toNat]? =some e/\
 ∃(n_1:Int),e[0]? =some (ζ (ν ι n_1))/\
 ((n != n_1)=true->
 K (θ false) [])/\
 ((n != n_1)=false->
 Nx (JT ι a b) i ([aD (ψ 1 (ints ι a)),aD (ψ 1 (ints ι b)),ε Z (Z.wrap ((↑i.val:Int)+1))],[])))/\
 (decide (η)=false->
 K (θ true) []))
 ):aI Tryz.prog X0 (CJ ι a b 12) 12 [aD (.sl 1 (ints ι a)),aD (.sl 1 (ints ι b))] [] K:=by apply Eq.mp (a:=an);kernel_rfl
theorem agx (a b:List Int) (K:V->KB->Prop) (an:
 (((↑(ints ι a).length:Int) != (↑(ints ι b).length:Int))=true->
 K (θ false) [])/\
 (((↑(ints ι a).length:Int) != (↑(ints ι b).length:Int))=false->
 At (Gg ι a b) ([aD (ψ 1 (ints ι a)),aD (ψ 1 (ints ι b)),ε Z (↑(ints ι a).length:Int),ε Z 0],[])/\
 ∀(i:{i:Nat // rI a b i }),(decide ((↑i.val:Int)<(↑a.length:Int))=true->
 aB (↑i.val:Int)/\
 ∃(e:List D),(ints ι a)[(↑i.val:Int).toNat]? =some e/\
 ∃(n:Int),e[0]? =some (ζ (ν ι n))/\
 aB (↑i.val:Int)/\
 ∃(e:List D),(ints ι b)[(↑i.val:Int).toNat]? =some e/\
 ∃(n_1:Int),e[0]? =some (ζ (ν ι n_1))/\
 ((n != n_1)=true->
 K (θ false) [])/\
 ((n != n_1)=false->
 Nx (Gg ι a b) i ([aD (ψ 1 (ints ι a)),aD (ψ 1 (ints ι b)),ε Z (↑a.length:Int),ε Z (Z.wrap ((↑i.val:Int)+1))],[])))/\
 (decide ((↑i.val:Int)<(↑a.length:Int))=false->
 K (θ true) []))
 ):aI Tryz.prog X0 (CJ ι a b 95) 95 [aD (.sl 1 (ints ι a)),aD (.sl 1 (ints ι b))] [] K:=by apply Eq.mp (a:=an);kernel_rfl
theorem agh (a:List (List D)) (K:V->KB->Prop) (an:
 ∀(b:Bool),(b=true->
 a.length=0)->
 (b=true->
 K (γ (Value.slice none 0 0)) [])/\
 (b=false->
 True/\
 0<=0/\
 (0+a.length)*1<=140737488355328/\
 K (δ 0 0 (0+a.length)) [ξ 5 1 ([]++a)])
 ):aI Tryz.prog X0 (aG 55) 55 [aD (.sl 1 a)] [] K:=by apply Eq.mp (a:=an);kernel_rfl
theorem ag7 (k n:Int) (K:V->KB->Prop) (an:
 (decide (n<1)=true->
 K (ε Z 0) [])/\
 (decide (n<1)=false->
 (n=0->
 False)/\
 (decide (k.tmod n<0)=true->
 K (ε Z (Z.wrap (k.tmod n+n))) [])/\
 (decide (k.tmod n<0)=false->
 K (ε Z (k.tmod n)) []))
 ):aI Tryz.prog X0 (aG 20) 20 [.int Z k,.int Z n] [] K:=by apply Eq.mp (a:=an);kernel_rfl
theorem mixed:Tryz.prog.follows .mixedOrders=true:=by kernel_rfl
theorem IF:dF Tryz.prog IE:=fun f k h=>by cases h
theorem fN:bZ Tryz.prog X0:=dI mixed IF aG 10
def w0 (k:IntKind):aE:=fun args kb K=>match args,kb with
 | [aD (.sl 1 A),aD (.sl 1 B)],[]=>∃ a b:List Int,A=ints k a/\B=ints k b/\a.length<=maxLen/\K (θ (decide (a=b))) []
 |_,_=>False
def wZ (k:IntKind):aE:=fun args kb K=>match args,kb with
 | [aD (.sl 1 A),aD (.sl 1 B)],[]=>∃ a b:List Int,A=ints k a/\B=ints k b/\Sm a/\K (θ (decide (a=b))) []
 |_,_=>False
abbrev Es:aE:=wZ ι
theorem S7 {f:FuncId} {k:IntKind} (h:aN Tryz.prog f (w0 k)):aN Tryz.prog f (wZ k):=fun args kb K hs=>h args kb K (by
 unfold wZ at hs;split at hs<;>try exact hs.elim
 obtain⟨a,b,rfl,rfl,hl,hk⟩:=hs
 unfold Sm at hl
 exact⟨a,b,rfl,rfl,by simp only[maxLen];omega,hk⟩)
theorem S6 {a b:List Int} {i:Nat} (h:rI a b i) (ha:i<a.length) (hb:i<b.length) (he:a[i]=b[i]):rI a b (i+1):=by
 refine⟨by omega,?_⟩
 rw[i_,i_,h.2,bp ha,bp hb,he]
theorem acs:aN Tryz.prog 12 (w0 ι):=dW fN mixed (fun args kb K h=>by
 unfold w0 at h;split at h<;>try exact h.elim
 obtain⟨a,b,rfl,rfl,pu,h⟩:=h
 simp only[maxLen]at pu
 refine⟨CJ ι a b 12,ahg a b K ⟨fun hc=>?_,fun hc=>⟨At.mk' ⟨0,bt _,rfl⟩ rfl,?_⟩⟩⟩
 ·simp only[bi,bne_iff_ne,ne_eq]at hc
  rw[decide_eq_false (fun e=>hc (by rw[e]))]at h;exact h
 simp only[bi,bne_eq_false_iff_eq]at hc
 have hl:a.length=b.length:=by omega
 rintro⟨i,hi,ht⟩
 simp only[bi]at ht ⊢
 refine⟨fun fk=>?_,fun fk=>?_⟩
 ·simp only[decide_eq_true_eq]at fk
  have e2:((i:Nat):Int).toNat=i:=by omega
  have hq:a[i]? =some a[i]:=bp (by omega)
  have qV:b[i]? =some b[i]:=bp (by omega)
  have ku:aB (i:Int):=by unfold aB;omega
  have w2:=bD (n:=(i:Int)+1) (by omega) (by omega)
  refine⟨ku,[ζ (.int ι a[i])],by rw[e2,kv,hq];rfl,a[i],rfl,ku,[ζ (.int ι b[i])],by rw[e2,kv,qV];rfl,b[i],rfl,fun hx=>?_,fun hx=>?_⟩
  ·simp only[bne_iff_ne,ne_eq]at hx
   rw[decide_eq_false (fun e=>hx (by subst e;rfl))]at h;exact h
  ·simp only[bne_eq_false_iff_eq]at hx
   rw[w2]
   exact Nx.mk' (⟨i+1,S6 ⟨hi,ht⟩ (by omega) (by omega) hx⟩:{i:Nat // rI a b i}) rfl (by show a.length - (i+1)<a.length - i;omega)
 ·simp only[decide_eq_false_iff_not]at fk
  have:i=a.length:=by omega
  subst this
  rw[cM,hl,cM]at ht
  rw[decide_eq_true ht]at h;exact h)
theorem Rp:aN Tryz.prog 12 (wZ ι):=S7 acs
theorem abz:aN Tryz.prog 95 (w0 ι):=dW fN mixed (fun args kb K h=>by
 unfold w0 at h;split at h<;>try exact h.elim
 obtain⟨a,b,rfl,rfl,pu,h⟩:=h
 simp only[maxLen]at pu
 refine⟨CJ ι a b 95,agx a b K ⟨fun hc=>?_,fun hc=>⟨?_,?_⟩⟩⟩
 ·simp only[bi,bne_iff_ne,ne_eq]at hc
  rw[decide_eq_false (fun e=>hc (by rw[e]))]at h;exact h
 ·rw[bi];exact At.mk' (⟨0,bt _,rfl⟩:{i:Nat // rI a b i}) rfl
 simp only[bi,bne_eq_false_iff_eq]at hc
 have hl:a.length=b.length:=by omega
 rintro⟨i,hi,ht⟩
 simp only[bi]at ht ⊢
 refine⟨fun fk=>?_,fun fk=>?_⟩
 ·simp only[decide_eq_true_eq]at fk
  have e2:((i:Nat):Int).toNat=i:=by omega
  have hq:a[i]? =some a[i]:=bp (by omega)
  have qV:b[i]? =some b[i]:=bp (by omega)
  have ku:aB (i:Int):=by unfold aB;omega
  have w2:=bD (n:=(i:Int)+1) (by omega) (by omega)
  refine⟨ku,[ζ (.int ι a[i])],by rw[e2,kv,hq];rfl,a[i],rfl,ku,[ζ (.int ι b[i])],by rw[e2,kv,qV];rfl,b[i],rfl,fun hx=>?_,fun hx=>?_⟩
  ·simp only[bne_iff_ne,ne_eq]at hx
   rw[decide_eq_false (fun e=>hx (by subst e;rfl))]at h;exact h
  ·simp only[bne_eq_false_iff_eq]at hx
   rw[w2]
   exact Nx.mk' (⟨i+1,S6 ⟨hi,ht⟩ (by omega) (by omega) hx⟩:{i:Nat // rI a b i}) rfl (by show a.length - (i+1)<a.length - i;omega)
 ·simp only[decide_eq_false_iff_not]at fk
  have:i=a.length:=by omega
  subst this
  rw[cM,hl,cM]at ht
  rw[decide_eq_true ht]at h;exact h)
theorem aby:aN Tryz.prog 95 (wZ ι):=S7 abz
def zO:aE:=fun args kb K=>match args,kb with
 | [aD (.sl 1 A)],[]=>A.length<=140737488355328/\(A=[]->K (γ (.slice none 0 0)) [])/\K (.sl 0 0 A.length) [ξ 5 1 A]
 |_,_=>False
def D2:aE:=fun args kb K=>match args,kb with
 | [aD (.sl 1 A)],[]=>A.length<=140737488355328/\K (.sl 0 0 A.length) [ξ 5 1 A]
 |_,_=>False
theorem Xa {f:FuncId} (h:aN Tryz.prog f zO):aN Tryz.prog f D2:=fun args kb K hs=>Iz h [.slot 0 5 1] args kb K (by
 unfold D2 at hs;split at hs<;>try exact hs.elim
 refine⟨hs.1,fun e=>?_,hs.2⟩
 subst e
 exact hs.2)
abbrev VA:aE:=zO
theorem Q_:aN Tryz.prog 55 zO:=dW fN mixed (fun args kb K h=>by
 unfold zO at h;split at h<;>try exact h.elim
 rename_i A
 refine⟨aG 55,agh A K (fun b hb=>⟨fun e=>h.2.1 (List.length_eq_zero_iff.1 (hb e)),fun e=>⟨trivial,av _,by omega,?_⟩⟩)⟩
 have:=h.2.2
 simpa using this)
def zZ:aE:=fun args kb K=>match args,kb with
 | [.int Z k,.int Z n],[]=>PH n/\K (.int Z (bM k n)) []
 |_,_=>False
theorem I3:aN Tryz.prog 20 zZ:=dW fN mixed (fun args kb K h=>by
 unfold zZ at h;split at h<;>try exact h.elim
 rename_i k n
 obtain⟨hn,h⟩:=h
 unfold PH at hn
 unfold bM at h
 refine⟨aG 20,ag7 k n K ⟨fun hc=>?_,fun hc=>⟨?_,fun h2=>?_,fun h2=>?_⟩⟩⟩
 ·rw[if_pos (by simpa using hc)]at h;exact h
 ·have:¬ n<1:=by simpa using hc
  omega
 ·have h1:¬ n<1:=by simpa using hc
  have h2:k.tmod n<0:=by simpa using h2
  have h3:-n<k.tmod n:=Int.lt_tmod_of_pos k (by omega)
  rw[if_neg h1,if_pos h2]at h
  rw[bD (by omega) (by omega)];exact h
 ·have h1:¬ n<1:=by simpa using hc
  have h2:¬ k.tmod n<0:=by simpa using h2
  rw[if_neg h1,if_neg h2]at h;exact h)
def C4 (i:Nat):Prop:=i<=256
def Dc (k:Nat):Prop:=k<=8
abbrev KD (tb:Nat->List D) (h':Nat->Nat->Int) (i:Nat):LI where
 α:={k:Nat // Dc k}
 live:=[1,2,3,5,10]
 st k:=([aj 0 0,.int Z (i:Int),.int ic (h' i k.1),.int Z (i:Int),.int Z (k.1:Int)],[ar [bB 256 (tb i)]])
 μ k:=8 - k.1
abbrev Km (tb:Nat->List D) (h':Nat->Nat->Int):LI where
 α:={i:Nat // C4 i}
 live:=[1,5]
 st i:=([aj 0 0,.int Z (i.1:Int)],[ar [bB 256 (tb i.1)]])
 μ i:=256 - i.1
 sub i:=fun r=>match r with | 7=>some (KD tb h' i.1) | _=>none
def TG (tb:Nat->List D) (h':Nat->Nat->Int):FuncId->Nat->Option LI
 | 105,3=>some (Km tb h')
 |_,_=>none
def oU (i:Nat):List D:=aU ic (tG i)
def rN (i k:Nat):Int:=U (j0 k (BitVec.ofNat 32 i))
def Eu (ts:List D):aE:=fun args kb K=>match args,kb with
 | [],[]=>K (aj 0 0) [ar [bB 256 ts]]
 |_,_=>False
def FS (ts:List D):FuncId->Option dA
 | 105=>some ⟨[],Eu ts⟩
 |_=>none
noncomputable def XC (ts:List D):bJ:=dG Tryz.prog (FS ts) aG 10
def bx (l:List Int):List D:=[.sl 1 (ints ι l)]
def rB (n:Nat) (i:Nat):Prop:=i<=n
abbrev Fa (ts:List D) (ls:List (List Int)) (xv:Nat->Nat->Int) (j:Nat):LI where
 α:={i:Nat // rB (ls.getD j []).length i}
 live:=[3,4,10,11,12,16,17,18]
 st i:=([aj 0 0,.int ic (xv j i.1),aD (.sl 1 (ls.map bx)),.int Z (ls.length:Int),.int Z (j:Int),aD (.sl 1 (ints ι (ls.getD j []))),.int Z ((ls.getD j []).length:Int),.int Z (i.1:Int)],[ar [bB 256 ts]])
 μ i:=(ls.getD j []).length - i.1
abbrev ES (ts:List D) (ls:List (List Int)) (xv:Nat->Nat->Int):LI where
 α:={j:Nat // rB ls.length j}
 live:=[3,4,10,11,12]
 st j:=([aj 0 0,.int ic (xv j.1 0),aD (.sl 1 (ls.map bx)),.int Z (ls.length:Int),.int Z (j.1:Int)],[ar [bB 256 ts]])
 μ j:=ls.length - j.1
 sub j:=fun r=>match r with | 7=>some (Fa ts ls xv j.1) | _=>none
def Nt (ts:List D) (ls:List (List Int)) (xv:Nat->Nat->Int):FuncId->Nat->Option LI
 | 78,4=>some (ES ts ls xv)
 |_,_=>none
theorem ahr (tb:Nat->List D) (h':Nat->Nat->Int) (K:V->KB->Prop) (an:
 At (Km tb h') ([aj 0 0,ε Z 0],[ar [bB 256 (dq 256 (ζ (ν ic 0)))]])/\
 ∀(i:{i:Nat // C4 i }),let ω:KB:=[ar [bB 256 (tb i.val)]];let η:=ε Z (↑i.val:Int);(decide ((↑i.val:Int)<256)=true->
 At (KD tb h' i.val) ([aj 0 0,η,ε ic (ic.wrap (↑i.val:Int)),η,ε Z 0],ω)/\
 ∀(i_1:{k:Nat // Dc k }),(decide ((↑i_1.val:Int)<8)=true->
 Nx (KD tb h' i.val) i_1 ([aj 0 0,η,ε ic (ic.wrap (↑(BitVec.ofInt 32 ((h' i.val i_1.val).fdiv 2) ^^^ BitVec.ofInt 32 (ic.wrap (ic.wrap (↑(BitVec.ofInt 32 (h' i.val i_1.val) &&& BitVec.ofInt 32 1).toNat:Int)*3988292384))).toNat:Int)),η,ε Z (Z.wrap ((↑i_1.val:Int)+1))],ω))/\
 (decide ((↑i_1.val:Int)<8)=false->
 bw (↑i.val:Int) 256/\
 (↑i.val:Int).toNat*1+1<=256/\
 Nx (Km tb h') i ([aj 0 0,ε Z (Z.wrap ((↑i.val:Int)+1))],[ar [bB 256 (splice (tb i.val) ((↑i.val:Int).toNat*1) [ζ (ν ic (h' i.val i_1.val))])]])))/\
 (decide ((↑i.val:Int)<256)=false->
 K (aj 0 0) ω)
 ):aI Tryz.prog X0 (TG tb h' 105) 105 [] [] K:=by apply Eq.mp (a:=an);kernel_rfl
theorem aho (ts:List D) (ls:List (List Int)) (xv:Nat->Nat->Int) (K:V->KB->Prop) (an:
 let au:=ε Z (↑ls.length:Int);let ω:KB:=[ar [bB 256 ts]];let η:=aD (ψ 1 (φ bx ls));At (ES ts ls xv) ([aj 0 0,ε ic 4294967295,η,ε Z (↑(φ bx ls).length:Int),ε Z 0],ω)/\
 ∀(i:{j:Nat // rB ls.length j }),(decide ((↑i.val:Int)<(↑ls.length:Int))=true->
 aB (↑i.val:Int)/\
 ∃(e:List D),(φ bx ls)[(↑i.val:Int).toNat]? =some e/\
 ∃(l:List (List D)),e[0]? =some (ψ 1 l)/\
 At (Fa ts ls xv i.val) ([aj 0 0,ε ic (xv i.val 0),η,au,ε Z (↑i.val:Int),aD (ψ 1 l),ε Z (↑l.length:Int),ε Z 0],ω)/\
 ∀(i_1:{i_1:Nat // rB (ls.getD i.val []).length i_1 }),let aH:=(↑i_1.val:Int)<(↑(ls.getD i.val []).length:Int);(decide (aH)=true->
 aB (↑i_1.val:Int)/\
 ∃(e:List D),(ints ι (ls.getD i.val []))[(↑i_1.val:Int).toNat]? =some e/\
 ∃(n:Int),e[0]? =some (ζ (ν ι n))/\
 bw (ι.wrap (↑(BitVec.ofInt 8 (ι.wrap (xv i.val i_1.val)) ^^^ BitVec.ofInt 8 n).toNat:Int)) 256/\
 ∃(n_1:Int),ts[(ι.wrap (↑(BitVec.ofInt 8 (ι.wrap (xv i.val i_1.val)) ^^^ BitVec.ofInt 8 n).toNat:Int)).toNat*1]? =some (ζ (ν ic n_1))/\
 Nx (Fa ts ls xv i.val) i_1 ([aj 0 0,ε ic (ic.wrap (↑(BitVec.ofInt 32 ((xv i.val i_1.val).fdiv 256) ^^^ BitVec.ofInt 32 n_1).toNat:Int)),η,au,ε Z (↑i.val:Int),aD (ψ 1 (ints ι (ls.getD i.val []))),ε Z (↑(ls.getD i.val []).length:Int),ε Z (Z.wrap ((↑i_1.val:Int)+1))],ω))/\
 (decide (aH)=false->
 Nx (ES ts ls xv) i ([aj 0 0,ε ic (xv i.val i_1.val),η,au,ε Z (Z.wrap ((↑i.val:Int)+1))],ω)))/\
 (decide ((↑i.val:Int)<(↑ls.length:Int))=false->
 K (ε ic (ic.wrap (↑(BitVec.ofInt 32 4294967295 ^^^ BitVec.ofInt 32 (xv i.val 0)).toNat:Int))) [])
 ):aI Tryz.prog (XC ts) (Nt ts ls xv 78) 78 [aD (.sl 1 (ls.map bx))] [] K:=by apply Eq.mp (a:=an);kernel_rfl
theorem Xn {i:Nat} (h:i<256):splice (tG i) (i*1) [vg i]=tG (i+1):=by
 unfold splice tG
 apply lw
 intro j
 simp only[Nat.mul_one,iZ,kn]
 have hl:((iw 256).map fun j=>if j<i then vg j else 0).length=256:=by simp
 rcases Nat.lt_trichotomy j i with hj | rfl | hj
 ·rw[dO,dP (by rw[cQ,hl];omega),hU hj]
  simp only[fE,List.getElem?_range (show j<256 by omega),Option.map_some,if_pos hj,if_pos (show j<i+1 by omega)]
 ·rw[dO,eW (by rw[cQ,hl];omega)]
  rw[cQ,hl,show j - min j 256=0 by omega]
  simp only[fE,List.getElem?_range h,Option.map_some,if_pos (show j<j+1 by omega)]
  rfl
 ·rw[dO,eW (by rw[cQ,hl];omega)]
  rw[cQ,hl,eW (by simp;omega),jw]
  rw[show i+1+(j - min i 256 - [vg i].length)=j by simp;omega]
  by_cases h2:j<256
  ·simp only[fE,List.getElem?_range h2,Option.map_some,if_neg (show ¬ j<i by omega),if_neg (show ¬ j<i+1 by omega)]
  ·rw[gO (by rw[hl];omega),gO (by simp;omega)]
theorem afp {i:Nat} (h:i<256):splice (oU i) (i*1) [ζ (.int ic (rN i 8))]=oU (i+1):=by
 have:splice (aU ic (tG i)) (i*1) (aU ic [vg i])=aU ic (splice (tG i) (i*1) [vg i]):=by simp [splice,aU]
 unfold oU
 rw[<- Xn h,<- this];rfl
theorem acB:aN Tryz.prog 105 (Eu (oU 256)):=dW fN mixed (fun args kb K h=>by
 unfold Eu at h;split at h<;>try exact h.elim
 refine⟨TG oU rN 105,ahr oU rN K ⟨At.mk' ⟨0,bt _⟩ rfl,?_⟩⟩
 rintro⟨i,hi⟩
 simp only[C4]at hi ⊢
 refine⟨fun hc=>?_,fun hc=>?_⟩
 ·simp only[decide_eq_true_eq]at hc
  have hi2:i<256:=by omega
  have w1:ic.wrap (i:Int)=rN i 0:=by
   unfold rN U j0
   rw[BitVec.toNat_ofNat,Nat.mod_eq_of_lt (by omega)]
   exact IntWalk.u32_in _ (by omega)
  rw[w1]
  refine⟨At.mk' ⟨0,bt _⟩ rfl,?_⟩
  rintro⟨k,hk⟩
  simp only[Dc]at hk ⊢
  refine⟨fun fk=>?_,fun fk=>?_⟩
  ·simp only[decide_eq_true_eq]at fk
   have w2:=bD (n:=(k:Int)+1) (by omega) (by omega)
   have e:ic.wrap (((BitVec.ofInt 32 ((rN i k).fdiv 2) ^^^ BitVec.ofInt 32 (ic.wrap (ic.wrap (((BitVec.ofInt 32 (rN i k) &&& BitVec.ofInt 32 1).toNat:Int))*3988292384))).toNat:Int))=rN i (k+1):=by
    unfold rN
    rw[u0,show(BitVec.ofInt 32 1)=1#32 by decide]
    have h1:=VF (j0 k (BitVec.ofNat 32 i))
    unfold U at h1
    rw[h1]
    have h2:=LZ (j0 k (BitVec.ofNat 32 i)) 1
    rw[show((2 ^ 1:Nat):Int)=2 from rfl]at h2
    rw[h2,u0]
    have h3:=u0 (if(j0 k (BitVec.ofNat 32 i)).getLsbD 0 then FR else 0#32)
    unfold U at h3
    rw[h3]
    exact Am _
   rw[e,w2]
   exact Nx.mk' (⟨k+1,by show k+1<=8;omega⟩:{x:Nat // Dc x}) rfl (by show 8 - (k+1)<8 - k;omega)
  ·simp only[decide_eq_false_iff_not]at fk
   have Zl:k=8:=by omega
   subst Zl
   have e2:((i:Nat):Int).toNat=i:=by omega
   have w2:=bD (n:=(i:Int)+1) (by omega) (by omega)
   refine⟨by unfold bw;omega,by omega,?_⟩
   rw[e2,w2,afp hi2]
   exact Nx.mk' (⟨i+1,by show i+1<=256;omega⟩:{x:Nat // C4 x}) rfl (by show 256 - (i+1)<256 - i;omega)
 ·simp only[decide_eq_false_iff_not]at hc
  have:i=256:=by omega
  subst this;exact h)
theorem Xk:dF Tryz.prog (FS (oU 256)):=fun f k h=>by
 unfold FS at h
 split at h<;>first | (cases h;exact acB) | cases h
theorem VJ:bZ Tryz.prog (XC (oU 256)):=dI mixed Xk aG 10
abbrev By:gP:=4294967295#32
def s_ (ls:List (List Int)) (j i:Nat):Int:=U (mn (mn By (ls.take j).flatten) ((ls.getD j []).take i))
def Vg (ls:List (List Int)):Prop:=ls.length<=1000000/\∀ l∈ls,bm l/\Sm l
def Et:aE:=fun args kb K=>match args,kb with
 | [aD (.sl 1 L)],[]=>∃ ls:List (List Int),L=ls.map bx/\Vg ls/\K (.int ic (dZ ls.flatten)) []
 |_,_=>False
theorem afq {i:Nat} (h:i<256):(oU 256)[i]? =some (ζ (.int ic (U (j0 8 (BitVec.ofNat 32 i))))):=by
 unfold oU tG aU
 simp only[fE,List.getElem?_range h,Option.map_some,if_pos h]
 rfl
theorem acz:aN Tryz.prog 78 Et:=dW VJ mixed (fun args kb K h=>by
 unfold Et at h;split at h<;>try exact h.elim
 obtain⟨ls,rfl,hb,h⟩:=h
 have cd:=hb.1
 refine⟨Nt (oU 256) ls (s_ ls) 78,aho (oU 256) ls (s_ ls) K ⟨?_,?_⟩⟩
 ·simp only[bX]
  exact At.mk' ⟨0,bt _⟩ rfl
 rintro⟨j,hj⟩
 simp only[rB]at hj ⊢
 refine⟨fun hc=>?_,fun hc=>?_⟩
 ·simp only[decide_eq_true_eq]at hc
  have e2:((j:Nat):Int).toNat=j:=by omega
  have hq:ls[j]? =some ls[j]:=bp (by omega)
  have hg:ls.getD j []=ls[j]:=by rw[gD,hq];rfl
  have ku:aB (j:Int):=by unfold aB;omega
  refine⟨ku,bx ls[j],by rw[e2,fE,hq];rfl,ints ι ls[j],rfl,?_,?_⟩
  ·rw[bi,<- hg]
   exact At.mk' (⟨0,bt _⟩:{i:Nat // rB (ls.getD j []).length i}) rfl
  rintro⟨i,hi⟩
  simp only[rB]at hi ⊢
  refine⟨fun fk=>?_,fun fk=>?_⟩
  ·simp only[decide_eq_true_eq]at fk
   have e3:((i:Nat):Int).toNat=i:=by omega
   have hil:i<ls[j].length:=by rw[<- hg];omega
   have qV:(ls.getD j [])[i]? =some ls[j][i]:=by rw[hg];exact bp hil
   have hby:0<=ls[j][i]/\ls[j][i]<256:=(hb.2 ls[j] (List.getElem_mem _)).1 _ (List.getElem_mem _)
   have Zx:aB (i:Int):=by unfold aB;omega
   have pu:ls[j].length<=1000000:=(hb.2 ls[j] (List.getElem_mem _)).2
   have w2:=bD (n:=(i:Int)+1) (by omega) (by omega)
   refine⟨Zx,[ζ (.int ι ls[j][i])],by rw[e3,kv,qV];rfl,ls[j][i],rfl,?_⟩
   unfold s_
   rw[Xo hby]
   have hlt:((mn (mn By (ls.take j).flatten) ((ls.getD j []).take i) ^^^ BitVec.ofInt 32 ls[j][i]) &&& 255#32).toNat<256:=by rw[Qj];omega
   refine⟨by unfold bw;omega,_,by rw[cP,Nat.mul_one,afq hlt],?_⟩
   rw[BitVec.ofNat_toNat,BitVec.setWidth_eq,Xp hby,w2]
   refine Nx.mk' (⟨i+1,by show i+1<=(ls.getD j []).length;omega⟩:{i:Nat // rB (ls.getD j []).length i}) ?_ (by show(ls.getD j []).length - (i+1)<(ls.getD j []).length - i;omega)
   have ht:(ls.getD j []).take (i+1)=(ls.getD j []).take i++[ls[j][i]]:=by rw[i_,qV];rfl
   show _=(([aj 0 0,.int ic (U (mn (mn By (ls.take j).flatten) ((ls.getD j []).take (i+1)))),_,_,_,_,_,_],_):List V×KB)
   rw[ht,Xm]
   rfl
  ·simp only[decide_eq_false_iff_not]at fk
   have hil:i=(ls.getD j []).length:=by omega
   subst hil
   have w2:=bD (n:=(j:Int)+1) (by omega) (by omega)
   rw[w2]
   refine Nx.mk' (⟨j+1,by show j+1<=ls.length;omega⟩:{j:Nat // rB ls.length j}) ?_ (by show ls.length - (j+1)<ls.length - j;omega)
   have ht:(ls.take (j+1)).flatten=(ls.take j).flatten++ls.getD j []:=by rw[i_,hq,hg,List.flatten_append];simp
   have e:s_ ls j (ls.getD j []).length=s_ ls (j+1) 0:=by
    unfold s_
    rw[cM,ht,Xl];rfl
   rw[e];rfl
 ·simp only[decide_eq_false_iff_not]at hc
  have:j=ls.length:=by omega
  subst this
  have e:s_ ls ls.length 0=U (mn By ls.flatten):=by
   unfold s_;rw[cM,List.take_zero];rfl
  rw[e,VG]
  exact h)
def C3:FuncId->Option dA
 | 78=>some ⟨[.fI 1],Et⟩
 | 12=>some ⟨[.fI 1,.fI 1],Es⟩
 | 95=>some ⟨[.fI 1,.fI 1],Es⟩
 | 55=>some ⟨[.fI 1],VA⟩
 | 20=>some ⟨[],zZ⟩
 |_=>none
noncomputable def XS:bJ:=dG Tryz.prog C3 aG 10
def Aa:aE:=fun args kb K=>match args,kb with
 | [aD (.sl 1 A)],[]=>∃ l:List Int,A=ints ι l/\bm l/\l.length<=900000/\K (.sl 0 0 (l.length+4)) [ξ 5 1 (ints ι (b_ l))]
 |_,_=>False
def zX:aE:=fun args kb K=>match args,kb with
 | [aD (.sl 1 A)],[]=>∃ l:List Int,A=ints ι l/\bm l/\l.length<=900000/\(fq l=none->K (.υ [γ (.slice none 0 0),θ false]) [])/\
  ∀ m,fq l=some m->(m=[]->K (.υ [γ (.slice none 0 0),θ true]) [])/\K (.υ [.sl 0 0 m.length,θ true]) [ξ 5 1 (ints ι m)]
 |_,_=>False
def CM:FuncId->Option dA
 | 67=>some ⟨[.fI 1],Aa⟩
 |f=>C3 f
noncomputable def XO:bJ:=dG Tryz.prog CM aG 10
theorem ag3 (l:List Int) (K:V->KB->Prop) (an:
 let au:=K (aw [γ (Value.slice none 0 0),θ false]) [];let η:=(Z.wrap ((↑(ints ι l).length:Int) - 4));let aH:=η.toNat<=(ints ι l).length;let ω:=(az η.toNat (ints ι l));(decide (Z.wrap ((↑(ints ι l).length:Int) - 4)<0)=true->
 au)/\
 (decide (Z.wrap ((↑(ints ι l).length:Int) - 4)<0)=false->
 True/\
 aB η/\
 0<=η.toNat/\
 aH/\
 ∃(l_1:List Int),ay 0 ω=ints ι l_1/\
 (∀(c:Int),dS c l_1->
 0<=c/\
 c<256)/\
 l_1.length<=900000/\
 (l_1.length+4<=(ints ι (b_ l_1)).length/\
 True/\
 True)/\
 ∃(a:List Int),∃(b:List Int),ay 0 (az (l_1.length+4) (ints ι (b_ l_1)))=ints ι a/\
 ints ι l=ints ι b/\
 a.length.le 1000000/\
 True/\
 ((!decide (a=b))=true->
 au)/\
 ((!decide (a=b))=false->
 True/\
 aB η/\
 0<=η.toNat/\
 aH/\
 (ay 0 ω).length<=140737488355328/\
 (ay 0 ω=[]->
 K (aw [γ (Value.slice none 0 0),θ true]) [])/\
 K (aw [δ 0 0 (ay 0 ω).length,θ true]) [ξ 5 1 (ay 0 ω)]))
 ):aI Tryz.prog XO (aG 64) 64 [aD (.sl 1 (ints ι l))] [] K:=by apply Eq.mp (a:=an);kernel_rfl
theorem ahh (A:List (List D)) (K:V->KB->Prop) (an:
 (1<=1/\
 True)/\
 ∃(ls:List (List Int)),let η:=[[ζ (ν ι (ι.wrap (dZ ls.flatten)))],[ζ (ν ι (ι.wrap ((dZ ls.flatten).fdiv 256)))],[ζ (ν ι (ι.wrap ((dZ ls.flatten).fdiv 65536)))],[ζ (ν ι (ι.wrap ((dZ ls.flatten).fdiv 16777216)))]];[[ψ 1 A]]=φ bx ls/\
 (ls.length<=1000000/\
 ∀(l:List Int),dS l ls->
 (∀(c:Int),dS c l->
 0<=c/\
 c<256)/\
 l.length.le 1000000)/\
 True/\
 A.length<=140737488355328/\
 (A=[]->
 4<=4/\
 4*1<=140737488355328/\
 K (δ 0 0 4) [ξ 5 1 η])/\
 4<=4/\
 A.length<=A.length/\
 (A.length+4)*1<=140737488355328/\
 K (δ 0 0 (A.length+4)) [ξ 5 1 (az A.length A++η)]
 ):aI Tryz.prog XS (aG 67) 67 [aD (.sl 1 A)] [] K:=by apply Eq.mp (a:=an);kernel_rfl
theorem TF:dF Tryz.prog C3:=fun f k h=>by
 unfold C3 at h
 split at h<;>first | (cases h;first | exact acz | exact aia | exact Rp | exact aby | exact Q_ | exact I3) | cases h
theorem V2:bZ Tryz.prog XS:=dI mixed TF aG 10
theorem Ns {l:List Int}:([l]:List (List Int)).flatten=l:=by simp
theorem Rq:aN Tryz.prog 67 Aa:=dW V2 mixed (fun args kb K h=>by
 unfold Aa at h;split at h<;>try exact h.elim
 obtain⟨l,rfl,hb,pu,h⟩:=h
 refine⟨aG 67,ahh _ K ⟨⟨av _,trivial⟩,[l],rfl,⟨Nat.le_of_ble_eq_true rfl,fun x hx=>?_⟩,trivial,by rw[bi];omega,fun e=>⟨av _,by omega,?_⟩,av _,av _,by rw[bi];omega,?_⟩⟩
 ·cases hx with
  |head=>exact⟨hb,mf pu (by decide)⟩
  |tail _ hx=>cases hx
 ·cases l with
  |cons a l=>simp [ints]at e
  |nil=>exact h
 ·rw[Ns,bi,eM (by rw[bi];omega)]
  have:ints ι (b_ l)=ints ι l++ints ι (x_ (dZ l)):=by unfold b_;rw[py]
  rw[this]at h
  exact h)
theorem S_:dF Tryz.prog CM:=fun f k h=>by
 unfold CM at h
 split at h
 ·cases h;exact Rq
 ·exact TF _ _ h
theorem VZ:bZ Tryz.prog XO:=dI mixed S_ aG 10
theorem aft {l:List Int} (h:4<=l.length) (hm:l.length<=900000):(Z.wrap ((l.length:Int) - 4)).toNat=l.length - 4/\aB (Z.wrap ((l.length:Int) - 4)):=by
 rw[bD (by omega) (by omega)]
 unfold aB
 omega
theorem bm.take {l:List Int} (h:bm l) (n:Nat):bm (l.take n):=fun c hc=>h c (List.mem_of_mem_take hc)
theorem dt (n:Nat) (l:List Int):ay 0 (az n (ints ι l))=ints ι (l.take n):=by rw[g_,oI]
theorem Rm:aN Tryz.prog 64 zX:=dW VZ mixed (fun args kb K h=>by
 unfold zX at h;split at h<;>try exact h.elim
 obtain⟨l,rfl,hb,pu,h1,h2⟩:=h
 refine⟨aG 64,ag3 l K ⟨fun hc=>?_,fun hc=>?_⟩⟩
 ·simp only[bi,decide_eq_true_eq]at hc
  refine h1 ?_
  unfold fq
  rw[if_neg]
  rintro⟨h4,_⟩
  rw[bD (by omega) (by omega)]at hc;omega
 ·simp only[bi,decide_eq_false_iff_not]at hc ⊢
  have h4:4<=l.length:=by rw[bD (by omega) (by omega)]at hc;omega
  obtain⟨t1,t2⟩:=aft h4 pu
  rw[t1]
  refine⟨trivial,t2,bt _,Nat.sub_le _ _,l.take (l.length - 4),dt _ _,bm.take hb _,by simp;omega,⟨?_,trivial,trivial⟩,b_ (l.take (l.length - 4)),l,?_,rfl,?_,trivial,fun hx=>?_,fun hx=>?_⟩
  ·simp only[bi,oS];exact av _
  ·rw[dt,<- oS,cM]
  ·show(b_ (l.take (l.length - 4))).length<=1000000
   rw[oS,cQ];omega
  ·refine h1 ?_
   unfold fq
   rw[if_neg]
   rintro⟨_,he⟩
   simp [he]at hx
  ·have ho:fq l=some (l.take (l.length - 4)):=by
    unfold fq
    rw[if_pos ⟨h4,by simpa using hx⟩]
   obtain⟨k1,k2⟩:=h2 _ ho
   simp only[dt,bi]
   refine⟨trivial,t2,bt _,Nat.sub_le _ _,by rw[cQ];omega,fun e=>k1 ?_,k2⟩
   have:=congrArg List.length e
   rw[bi]at this
   exact List.length_eq_zero_iff.1 this)
def AB:FuncId->Option dA
 | 64=>some ⟨[.fI 1],zX⟩
 |f=>CM f
theorem Nj:dF Tryz.prog AB:=fun f k h=>by
 unfold AB at h
 split at h
 ·cases h;exact Rm
 ·exact S_ _ _ h
end Go.Proofs.YtfcjngcnifdmnaaGreat
set_option linter.unusedVariables false
set_option linter.unusedSimpArgs false
namespace Vc
open Go
open Go.IntKind renaming i64->Z,u8->ι,u32->ic
open Go.Value renaming int->ν,map->kq,oneCell'->lU,bool->nE
open List renaming map->φ,drop->ay,take->az,length_append->bn,getElem?_eq_getElem->bp,getElem?_eq_some_iff->bG,length_map->bX,take_length->cM,length_take->cQ,replicate->dq,mem_append->dM,append_assoc->dO,getElem?_append_left->dP,mem_singleton->dQ,Mem->dS,mem_cons->ey,mem_map->eL,take_of_length_le->eM,getElem?_append_right->eW,mem_of_getElem?->fi,append_nil->fD,getElem?_map->fE,mem_cons_of_mem->fM,length_drop->fQ,getElem?_set_ne->gr,getD_eq_getElem?_getD->gD,getElem?_eq_none->gO,drop_zero->g_,getElem?_take_of_lt->hU,getElem?_set_self->ig,length_singleton->ii,length_set->ir,mem_cons_self->iu,range->iw,mem_append_left->iL,length_cons->iZ,take_add_one->i_,flatten_cons->jm,getElem?_drop->jw,getElem?_of_mem->jx,map_append->jy,nil_append->jV,length_nil->kn,mem_filter->kM,ext_getElem?->lw,eq_nil_of_length_eq_zero->ma,map_cons->mb,mem_append_right->mc
open Nat renaming le_refl->av,zero_le->bt,beq->cp,eq_of_beq_eq_true->cU,zero_add->c9,add_assoc->gE,lor->iy,lt_or_ge->jX,sub_zero->lT,le_trans->mf
open Option renaming some->bb,bind_eq_some_iff->kP,map->mO
open Int renaming toNat_natCast->cP,le_refl->fa
open Bool renaming and_eq_true->km,not_eq_false'->lm,not_eq_true'->lR
theorem Cg {l m:List Int} (h:fq l=some m):l=b_ m:=by
 unfold fq at h
 split at h
 ·rename_i hc
  cases h
  exact hc.2.symm
 ·cases h
def wS (k:Nat) (s t:List Int):Prop:=s.length=t.length/\s.take k=t.take k/\(s.drop k).drop 4=(t.drop k).drop 4
theorem wS.refl (k:Nat) (s:List Int):wS k s s:=⟨rfl,rfl,rfl⟩
theorem wS.set {k:Nat} {s t:List Int} (h:wS k s t) {i:Nat} (hi:i<4) (c:Int):wS k (s.set (k+i) c) t:=by
 obtain⟨h1,h2,h3⟩:=h
 refine⟨by simpa using h1,?_,?_⟩
 ·rw[List.take_set_of_le (by omega)];exact h2
 ·rw[<- h3]
  apply lw
  intro j
  simp only[jw]
  rw[gr (by omega)]
theorem bm.set {s:List Int} (h:bm s) {i:Nat} {c:Int} (hc:0<=c/\c<256):bm (s.set i c):=fun d hd=>by
 rcases List.mem_or_eq_of_mem_set hd with hd | rfl
 ·exact h d hd
 ·exact hc
def gS:Nat->Nat->List Int
 | 0,n=>[(n:Int)]
 |k+1,n=>if n<128 then[(n:Int)]else((n % 128+128:Nat):Int)::gS k (n / 128)
def aY (n:Int):List Int:=gS 8 n.toNat
def cJ (b:List Int):List Int:=aY b.length++b
structure jk (z:Int):Prop where
 h:z<=9223372036854775807
inductive zI where
 |got (v n:Nat)
 |short
 |form
def jq:Nat->Nat->List Int->zI
 |i,_,[]=>if i<9 then .short else .form
 |i,v,c::r=>if i=9∨(c=0/\0<i)then .form else if 128<=c then jq (i+1) (v+(c.toNat % 128)*128 ^ i) r else .got (v+c.toNat*128 ^ i) (i+1)
def cx (l:List Int) (e most:Int):Int×Nat×Int:=
 if e=0 then(match jq 0 0 l with
  | .got v n=>if most<(v:Int)then(0,0,5)else((v:Int),n,0)
  | .short=>(0,0,2)
  | .form=>(0,0,3))else(0,0,e)
def gA (l:List Int) (e most:Int):List Int×Nat×Int:=
 if(cx l e most).2.2=0 then
  (if((l.drop (cx l e most).2.1).length:Int)<(cx l e most).1 then([],(cx l e most).2.1,2)
   else((l.drop (cx l e most).2.1).take (cx l e most).1.toNat,(cx l e most).2.1+(cx l e most).1.toNat,0))
 else([],(cx l e most).2.1,(cx l e most).2.2)
def iE (l:List Int) (e:Int):Int:=if l≠[]/\e=0 then 3 else e
theorem aa7:∀(k n:Nat),1<=(gS k n).length
 | 0,n=>by simp [gS]
 |k+1,n=>by unfold gS;split<;>simp
theorem QX:∀(k n:Nat),(gS k n).length<=k+1
 | 0,n=>by simp [gS]
 |k+1,n=>by
  unfold gS;split
  ·simp
  ·simp;exact QX k _
theorem QW:∀(k n:Nat),n<128 ^ (k+1)->bm (gS k n)
 | 0,n,h=>fun c hc=>by simp [gS]at hc h;omega
 |k+1,n,h=>fun c hc=>by
  unfold gS at hc
  split at hc
  ·simp at hc;omega
  ·rcases ey.1 hc with rfl | hc
   ·have:=Nat.mod_lt n (show 128 > 0 by decide);omega
   ·exact QW k _ (by rw[Nat.div_lt_iff_lt_mul (by decide),<- Nat.pow_succ];exact h) c hc
theorem jJ (n:Int):1<=(aY n).length/\(aY n).length<=9:=⟨aa7 _ _,QX _ _⟩
theorem pF {n:Int} (h:n<=9223372036854775807):bm (aY n):=QW _ _ (by have:(128:Nat) ^ (8+1)=9223372036854775808:=rfl;omega)
theorem Q1 (r:List Int):∀(k i v n:Nat),n<128 ^ (k+1)->i+k<=8->(n≠0∨i=0)->jq i v (gS k n++r)= .got (v+n*128 ^ i) (i+(gS k n).length)
 | 0,i,v,n,h,hi,hz=>by
  simp at h
  simp only[gS,List.cons_append,jV,jq,iZ,kn]
  rw[if_neg (by omega),if_neg (by omega)]
  simp
 |k+1,i,v,n,h,hi,hz=>by
  unfold gS
  split
  ·simp only[List.cons_append,jV,jq,iZ,kn]
   rw[if_neg (by omega),if_neg (by omega)]
   simp
  ·rename_i hn
   have hm:=Nat.mod_lt n (show 128 > 0 by decide)
   simp only[List.cons_append,jq,iZ]
   rw[if_neg (by omega),if_pos (by omega),Q1 r k (i+1) _ (n / 128) (by rw[Nat.div_lt_iff_lt_mul (by decide),<- Nat.pow_succ];exact h) (by omega) (.inl (by omega))]
   have e1:(((n % 128+128:Nat):Int)).toNat % 128=n % 128:=by omega
   have e2:n*128 ^ i=n % 128*128 ^ i+n / 128*128 ^ (i+1):=by
    rw[Nat.pow_succ]
    have:=Nat.div_add_mod n 128
    calc n*128 ^ i=(128*(n / 128)+n % 128)*128 ^ i:=by rw[this]
     _=n % 128*128 ^ i+n / 128*(128 ^ i*128):=by rw[Nat.add_mul,Nat.add_comm,Nat.mul_comm 128 (n / 128),Nat.mul_assoc,Nat.mul_comm 128 (128 ^ i)]
   rw[e1,e2]
   congr 1
   ·omega
   ·omega
theorem aa8 {n:Int} (h0:0<=n) (h:n<=9223372036854775807) (r:List Int):jq 0 0 (aY n++r)= .got n.toNat (aY n).length:=by
 have:=Q1 r 8 0 0 n.toNat (by have:(128:Nat) ^ (8+1)=9223372036854775808:=rfl;omega) (by omega) (.inr rfl)
 simpa [aY]using this
theorem Q0:∀(l:List Int) (i v w m:Nat),i<=9->bm l->jq i v l= .got w m->∃ n,i<=8/\w=v+n*128 ^ i/\n<128 ^ (9 - i)/\(0<i->n≠0)/\m=i+(gS (8 - i) n).length/\∃ r,l=gS (8 - i) n++r
 | [],i,v,w,m,hi,hb,h=>by unfold jq at h;split at h<;>cases h
 |c::r,i,v,w,m,hi,hb,h=>by
  have hc:=hb c iu
  unfold jq at h
  split at h
  ·cases h
  ·rename_i h1
   have Pg:i<=8:=by omega
   split at h
   ·rename_i h2
    obtain⟨n,k1,k2,k3,k4,k5,r',k6⟩:=Q0 r (i+1) _ w m (by omega) (fun d hd=>hb d (fM _ hd)) h
    have hn0:n≠0:=k4 (by omega)
    have e0:8 - i=(8 - (i+1))+1:=by omega
    have e9:9 - i=(9 - (i+1))+1:=by omega
    have ec:c.toNat % 128=c.toNat - 128:=by omega
    have e1:gS (8 - i) (c.toNat - 128+128*n)=c::gS (8 - (i+1)) n:=by
     rw[e0]
     rw[gS.eq_2,if_neg (by omega)]
     have a1:(c.toNat - 128+128*n) % 128=c.toNat - 128:=by omega
     have a2:(c.toNat - 128+128*n) / 128=n:=by omega
     rw[a1,a2]
     congr 1
     omega
    refine⟨c.toNat - 128+128*n,Pg,?_,?_,fun _=>by omega,?_,r',?_⟩
    ·rw[k2,ec,Nat.pow_succ,Nat.add_mul,Nat.mul_comm (128 ^ i) 128,<- Nat.mul_assoc,Nat.mul_comm n 128];omega
    ·rw[e9,Nat.pow_succ];omega
    ·rw[e1,k5,iZ];omega
    ·rw[e1,k6];rfl
   ·rename_i h2
    cases h
    have e1:gS (8 - i) c.toNat=[c]:=by
     have:((c.toNat:Nat):Int)=c:=by omega
     cases h8:8 - i with
     |zero=>rw[gS.eq_1,this]
     |succ k=>rw[gS.eq_2,if_pos (by omega),this]
    refine⟨c.toNat,Pg,rfl,?_,fun _=>by omega,by rw[e1];rfl,r,by rw[e1];rfl⟩
    have:9 - i=(8 - i)+1:=by omega
    rw[this,Nat.pow_succ]
    have:0<128 ^ (8 - i):=Nat.pow_pos (by decide)
    omega
theorem Ca {l:List Int} {w m:Nat} (hb:bm l) (h:jq 0 0 l= .got w m):(w:Int)<=9223372036854775807/\m=(aY w).length/\∃ r,l=aY w++r:=by
 obtain⟨n,_,h1,h2,_,h3,h4⟩:=Q0 l 0 0 w m (by omega) hb h
 simp at h1
 subst h1
 have:(128:Nat) ^ (9 - 0)=9223372036854775808:=rfl
 have e:aY (w:Int)=gS (8 - 0) w:=by unfold aY;rw[cP]
 exact⟨by omega,by rw[e,h3,c9],by rw[e];exact h4⟩
theorem yI {l:List Int} (hb:bm l) (e most:Int):0<=(cx l e most).1/\(cx l e most).1<=9223372036854775807/\(cx l e most).2.1<=l.length:=by
 unfold cx
 split
 ·split
  ·rename_i v n h
   obtain⟨h1,h2,r,h3⟩:=Ca hb h
   split
   ·simp
   ·refine⟨by simp,h1,?_⟩
    show n<=l.length
    rw[h2,h3,bn];omega
  ·simp
  ·simp
 ·simp
theorem Jt {n:Int} (h0:0<=n) (h:n<=9223372036854775807) {most:Int} (hm:n<=most) (r:List Int):cx (aY n++r) 0 most=(n,(aY n).length,0):=by
 unfold cx
 rw[if_pos rfl,aa8 h0 h]
 show(if most<((n.toNat:Nat):Int)then _ else _)=_
 rw[if_neg (by omega)]
 rw[Int.toNat_of_nonneg h0]
theorem Su {b:List Int} {most:Int} (hm:(b.length:Int)<=most) (h:(b.length:Int)<=9223372036854775807) (r:List Int):gA (cJ b++r) 0 most=(b,(cJ b).length,0):=by
 unfold gA cJ
 rw[dO,Jt (by omega) h hm]
 simp
 omega
theorem RU {n:Nat}:ι.wrap (((BitVec.ofInt 8 (ι.wrap (n:Int)) ||| BitVec.ofInt 8 128).toNat:Nat):Int)=((n % 128+128:Nat):Int):=by
 have e:ι.wrap (n:Int)=((n % 256:Nat):Int):=by
  show(n:Int) % 2 ^ 8=_
  omega
 rw[e]
 have h:∀ k:Fin 256,ι.wrap (((BitVec.ofInt 8 ((k.1:Nat):Int) ||| BitVec.ofInt 8 128).toNat:Nat):Int)=((k.1 % 128+128:Nat):Int):=by decide+kernel
 have:=h ⟨n % 256,Nat.mod_lt _ (by decide)⟩
 simp only at this
 rw[this]
 omega
theorem Wf {n:Int} (h0:0<=n) (h:n<256):ι.wrap (((BitVec.ofInt 8 n &&& BitVec.ofInt 8 127).toNat:Nat):Int)=((n.toNat % 128:Nat):Int):=by
 have h:∀ k:Fin 256,ι.wrap (((BitVec.ofInt 8 ((k.1:Nat):Int) &&& BitVec.ofInt 8 127).toNat:Nat):Int)=((k.1 % 128:Nat):Int):=by decide+kernel
 have:=h ⟨n.toNat,by omega⟩
 simp only at this
 rw[Int.toNat_of_nonneg h0]at this
 exact this
theorem Jm (i:Nat):(128:Nat) ^ i=2 ^ (7*i):=by rw[Nat.pow_mul]
theorem adq {i:Nat} (h:i<=8):(128:Nat) ^ i<=72057594037927936:=by
 have:=Nat.pow_le_pow_right (n:=128) (by decide) h
 exact mf this (by decide)
theorem Q2 {v m i:Nat} (hv:v<128 ^ i) (hm:m<128) (hi:i<=8):
  Z.wrap (((BitVec.ofInt 64 (v:Int) ||| BitVec.ofInt 64 (l7 Z (m:Int) (((7*i:Nat)):Int))).toNat:Nat):Int)=((v+m*128 ^ i:Nat):Int):=by
 have hp:=adq hi
 have hmul:m*128 ^ i<=127*72057594037927936:=Nat.mul_le_mul (by omega) hp
 have e1:l7 Z (m:Int) (((7*i:Nat)):Int)=((m*128 ^ i:Nat):Int):=by
  unfold l7
  rw[cP,show min (7*i) Z.bits=7*i from Nat.min_eq_left (by show 7*i<=64;omega)]
  rw[show(m:Int)*2 ^ (7*i)=((m*128 ^ i:Nat):Int) by rw[Jm];simp]
  exact bD (by omega) (by omega)
 rw[e1]
 have e2:(BitVec.ofInt 64 (v:Int) ||| BitVec.ofInt 64 ((m*128 ^ i:Nat):Int)).toNat=v+m*128 ^ i:=by
  rw[BitVec.toNat_or,BitVec.toNat_ofInt,BitVec.toNat_ofInt]
  have a1:((v:Int) % ((2 ^ 64:Nat):Int)).toNat=v:=by
   have:((2 ^ 64:Nat):Int)=18446744073709551616:=rfl
   rw[this];omega
  have a2:(((m*128 ^ i:Nat):Int) % ((2 ^ 64:Nat):Int)).toNat=m*128 ^ i:=by
   have:((2 ^ 64:Nat):Int)=18446744073709551616:=rfl
   rw[this];omega
  rw[a1,a2]
  have:=Nat.shiftLeft_add_eq_or_of_lt (i:=7*i) (b:=v) (by rw[<- Jm];exact hv) m
  rw[Nat.shiftLeft_eq,<- Jm]at this
  rw[Nat.or_comm,<- this,Nat.add_comm]
 rw[e2]
 have:v<72057594037927936:=Nat.lt_of_lt_of_le hv hp
 exact bD (by omega) (by omega)
def lead:List Int->Nat
 | []=>0
 |c::r=>if 128<=c then lead r+1 else 0
def ju:Nat->List Int->Nat
 | 0,_=>0
 |_+1,[]=>0
 |k+1,c::r=>c.toNat % 128+128*ju k r
theorem rR (b:List Int):1<=(cJ b).length/\(cJ b).length<=b.length+9:=by
 have:=jJ b.length
 unfold cJ
 rw[bn]
 omega
theorem C7 {b:List Int} (h:bm b) (hl:(b.length:Int)<=9223372036854775807):bm (cJ b):=fun c hc=>by
 unfold cJ at hc
 rcases dM.1 hc with hc | hc
 ·exact pF hl c hc
 ·exact h c hc
end Vc
namespace Go.Proofs.YtfcjngcnifdmnaaGreat
open Vc Go
open Go.IntKind renaming i64->Z,u8->ι,u32->ic
open Vc.V renaming any->γ,sl->δ,int->ε,sb->θ,ptr->aj,υ->aw,dat->aD,aa->aP,mp->aX,arr->bB,agg->fF
open Vc.D renaming val->ζ,sl->ψ
open Go.Value renaming int->ν,map->kq,oneCell'->lU,bool->nE
open Vc.KO renaming row->ξ,dead->χ,cells->ar,objs->cD
open List renaming map->φ,drop->ay,take->az,length_append->bn,getElem?_eq_getElem->bp,getElem?_eq_some_iff->bG,length_map->bX,take_length->cM,length_take->cQ,replicate->dq,mem_append->dM,append_assoc->dO,getElem?_append_left->dP,mem_singleton->dQ,Mem->dS,mem_cons->ey,mem_map->eL,take_of_length_le->eM,getElem?_append_right->eW,mem_of_getElem?->fi,append_nil->fD,getElem?_map->fE,mem_cons_of_mem->fM,length_drop->fQ,getElem?_set_ne->gr,getD_eq_getElem?_getD->gD,getElem?_eq_none->gO,drop_zero->g_,getElem?_take_of_lt->hU,getElem?_set_self->ig,length_singleton->ii,length_set->ir,mem_cons_self->iu,range->iw,mem_append_left->iL,length_cons->iZ,take_add_one->i_,flatten_cons->jm,getElem?_drop->jw,getElem?_of_mem->jx,map_append->jy,nil_append->jV,length_nil->kn,mem_filter->kM,ext_getElem?->lw,eq_nil_of_length_eq_zero->ma,map_cons->mb,mem_append_right->mc
open Nat renaming le_refl->av,zero_le->bt,beq->cp,eq_of_beq_eq_true->cU,zero_add->c9,add_assoc->gE,lor->iy,lt_or_ge->jX,sub_zero->lT,le_trans->mf
open Option renaming some->bb,bind_eq_some_iff->kP,map->mO
open Int renaming toNat_natCast->cP,le_refl->fa
open Bool renaming and_eq_true->km,not_eq_false'->lm,not_eq_true'->lR
set_option linter.unusedVariables false
set_option linter.unusedSimpArgs false
set_option maxRecDepth 100000
def uB (tot:List Int) (n:Nat) (p:List Int×Nat×Nat):Prop:=tot=p.1++gS p.2.1 p.2.2/\p.2.2<128 ^ (p.2.1+1)/\p.1.length+p.2.1<=n+8
abbrev Dp (tot:List Int) (n:Nat):LI where
 α:={p:List Int×Nat×Nat // uB tot n p} ⊕ {p:List Int×Nat×Nat // uB tot n p}
 live:=[0,1]
 st p:=match p with
  | .inl p=>([aj 0 0,.int Z (p.1.2.2:Int)],[ar [.sl 1 0 p.1.1.length],ξ 5 1 (ints ι p.1.1)])
  | .inr p=>([aj 0 0,.int Z (p.1.2.2:Int)],[ar [.sl 2 0 p.1.1.length],χ,ξ 5 1 (ints ι p.1.1)])
 μ p:=match p with
  | .inl p=>p.1.2.1
  | .inr p=>p.1.2.1
 all:=fun Q=>(∀ a,Q (.inl a))/\∀ b,Q (.inr b)
 xk:=fun Q h i=>match i with
  | .inl a=>h.1 a
  | .inr b=>h.2 b
def B8 (l:List Int) (p:Nat×Nat):Prop:=p.1<=9/\p.1<=l.length/\jq 0 0 l=jq p.1 p.2 (l.drop p.1)/\p.2<128 ^ p.1
abbrev B9 (l:List Int) (lo:Nat) (e:Int):LI where
 α:={p:Nat×Nat // B8 (l.drop lo) p}
 live:=[0,2,3,9,10,11]
 st p:=([aj 0 0,.int Z (p.1.2:Int),.int Z (p.1.1:Int),.sl 1 lo l.length,.int Z ((l.length - lo:Nat):Int),.int Z (p.1.1:Int)],[ar [.sl 1 lo l.length,.int Z e],ξ 5 1 (ints ι l)])
 μ p:=l.length - lo - p.1.1
def wT (tot:List Int) (n:Nat):FuncId->Nat->Option LI
 | 36,1=>some (Dp tot n)
 |_,_=>none
def QT (l:List Int) (lo:Nat) (e:Int):FuncId->Nat->Option LI
 | 62,2=>some (B9 l lo e)
 |_,_=>none
def Fe:FuncId->Option dA
 | 12=>some ⟨[.fI 1,.fI 1],Es⟩
 | 55=>some ⟨[.fI 1],D2⟩
 | 20=>some ⟨[],zZ⟩
 |_=>none
theorem ahH (tot:List Int) (n:Nat) (z:Int) (a:List Int) (K:V->KB->Prop) (an:
 At (Dp tot n) ([aj 0 0,ε Z (if 0 > z then 0 else z)],[ar [δ 1 0 a.length],ξ 5 1 (ints ι a)])/\
 (∀(a:{p:List Int×Nat×Nat // uB tot n p }),let bj:=(ι.wrap (↑a.val.snd.snd:Int));let aC:=ar [δ 2 0 (a.val.fst.length+1)];let au:=(a.val.fst.length+1)*1<=140737488355328;let η:=(ints ι a.val.fst);(decide ((↑a.val.snd.snd:Int) ≥ 128)=true->
 1<=1/\
 a.val.fst.length<=η.length/\
 au/\
 Nx (Dp tot n) (Sum.inl a) ([aj 0 0,ε Z ((↑a.val.snd.snd:Int).fdiv 128)],[aC,χ,ξ 5 1 (az a.val.fst.length η++[[ζ (ν ι (ι.wrap (↑(BitVec.ofInt 8 bj ||| BitVec.ofInt 8 128).toNat:Int)))]])]))/\
 (decide ((↑a.val.snd.snd:Int) ≥ 128)=false->
 1<=1/\
 a.val.fst.length<=η.length/\
 au/\
 K (aw []) [aC,χ,ξ 5 1 (az a.val.fst.length η++[[ζ (ν ι bj)]])]))/\
 ∀(b:{p:List Int×Nat×Nat // uB tot n p }),let bq:=(ι.wrap (↑b.val.snd.snd:Int));let aO:=ar [δ 2 0 (b.val.fst.length+1)];let aH:=(b.val.fst.length+1)*1<=140737488355328;let ω:=(ints ι b.val.fst);(decide ((↑b.val.snd.snd:Int) ≥ 128)=true->
 1<=1/\
 b.val.fst.length<=ω.length/\
 aH/\
 Nx (Dp tot n) (Sum.inr b) ([aj 0 0,ε Z ((↑b.val.snd.snd:Int).fdiv 128)],[aO,χ,ξ 5 1 (az b.val.fst.length ω++[[ζ (ν ι (ι.wrap (↑(BitVec.ofInt 8 bq ||| BitVec.ofInt 8 128).toNat:Int)))]])]))/\
 (decide ((↑b.val.snd.snd:Int) ≥ 128)=false->
 1<=1/\
 b.val.fst.length<=ω.length/\
 aH/\
 K (aw []) [aO,χ,ξ 5 1 (az b.val.fst.length ω++[[ζ (ν ι bq)]])])
 ):aI Tryz.prog X0 (wT tot n 36) 36 [aj 0 0,.int Z z] [ar [.sl 1 0 a.length],ξ 5 1 (ints ι a)] (dp 2 K):=by apply Eq.mp (a:=an);kernel_rfl
theorem agV (l:List Int) (lo:Nat) (e:Int) (K:V->KB->Prop) (an:
 let fL:=ε Z (↑(l.length - lo):Int);let cC:=ξ 5 1 (ints ι l);let bN:=(aw [ε Z 0,ε Z 0]);let aO:KB:=[ar [δ 1 lo l.length,ε Z e],cC];let aC:=K bN [ar [δ 1 lo l.length,ε Z 2],cC];let ω:=K bN [ar [δ 1 lo l.length,ε Z 3],cC];let η:=K bN aO;At (B9 l lo e) ([aj 0 0,ε Z 0,ε Z 0,δ 1 lo l.length,fL,ε Z 0],aO)/\
 ∀(i:{p:Nat×Nat // B8 (ay lo l) p }),let fv:=(Z.wrap (7*(↑i.val.fst:Int)));let dz:=(↑i.val.fst:Int)<(↑(l.length - lo):Int);let bS:=decide ((↑i.val.fst:Int)<9)=true;let b9:=decide ((↑i.val.fst:Int)<9)=false;let bP:=((↑i.val.fst:Int) == (↑(l.length - lo):Int))=true;let bq:=((↑i.val.fst:Int) == (↑(l.length - lo):Int))=false;let bj:=ε Z (Z.wrap ((↑i.val.fst:Int)+1));(decide (dz)=true->
 bw (↑i.val.fst:Int) (l.length - lo)/\
 ∃(e_1:List D),(ints ι l)[lo+(↑i.val.fst:Int).toNat]? =some e_1/\
 ∃(n:Int),let aH:=K (aw [ε Z (Z.wrap (↑(BitVec.ofInt 64 (↑i.val.snd:Int) ||| BitVec.ofInt 64 (l7 Z (Z.wrap n) fv)).toNat:Int)),bj]) aO;let au:=Nx (B9 l lo e) i ([aj 0 0,ε Z (Z.wrap (↑(BitVec.ofInt 64 (↑i.val.snd:Int) ||| BitVec.ofInt 64 (l7 Z (Z.wrap (ι.wrap (↑(BitVec.ofInt 8 n &&& BitVec.ofInt 8 127).toNat:Int))) fv)).toNat:Int)),bj,δ 1 lo l.length,fL,bj],aO);e_1[0]? =some (ζ (ν ι n))/\
 (((↑i.val.fst:Int) == 9)=true->
 (bP->
 (bS->
 ((e == 0)=true->
 aC)/\
 ((e == 0)=false->
 η))/\
 (b9->
 ((e == 0)=true->
 ω)/\
 ((e == 0)=false->
 η)))/\
 (bq->
 ((e == 0)=true->
 ω)/\
 ((e == 0)=false->
 η)))/\
 (((↑i.val.fst:Int) == 9)=false->
 ((n == 0)=true->
 (decide ((↑i.val.fst:Int) > 0)=true->
 (bP->
 (bS->
 ((e == 0)=true->
 aC)/\
 ((e == 0)=false->
 η))/\
 (b9->
 ((e == 0)=true->
 ω)/\
 ((e == 0)=false->
 η)))/\
 (bq->
 ((e == 0)=true->
 ω)/\
 ((e == 0)=false->
 η)))/\
 (decide ((↑i.val.fst:Int) > 0)=false->
 (decide (n ≥ 128)=true->
 (Z.wrap (7*(↑i.val.fst:Int))<0->
 False)/\
 au)/\
 (decide (n ≥ 128)=false->
 (Z.wrap (7*(↑i.val.fst:Int))<0->
 False)/\
 aH)))/\
 ((n == 0)=false->
 (decide (n ≥ 128)=true->
 (Z.wrap (7*(↑i.val.fst:Int))<0->
 False)/\
 au)/\
 (decide (n ≥ 128)=false->
 (Z.wrap (7*(↑i.val.fst:Int))<0->
 False)/\
 aH))))/\
 (decide (dz)=false->
 (bP->
 (bS->
 ((e == 0)=true->
 aC)/\
 ((e == 0)=false->
 η))/\
 (b9->
 ((e == 0)=true->
 ω)/\
 ((e == 0)=false->
 η)))/\
 (bq->
 ((e == 0)=true->
 ω)/\
 ((e == 0)=false->
 η)))
 ):aI Tryz.prog X0 (QT l lo e 62) 62 [aj 0 0] [ar [.sl 1 lo l.length,.int Z e],ξ 5 1 (ints ι l)] K:=by apply Eq.mp (a:=an);kernel_rfl
theorem w8 {n:Int} (h1:0<=n) (h2:n<256):ι.wrap n=n:=IntWalk.u8_in n (by omega)
theorem CT {a:List Int} {n:Int}:az a.length (ints ι a)++[[ζ (.int ι n)]]=ints ι (a++[n]):=by
 rw[oI,cM,py];rfl
theorem UQ {tot:List Int} {n:Nat} {p:List Int×Nat×Nat} (h:uB tot n p) (hc:128<=p.2.2):
  ∃ q:List Int×Nat×Nat,uB tot n q/\q.2.1<p.2.1/\q.1=p.1++[((p.2.2 % 128+128:Nat):Int)]/\q.2.2=p.2.2 / 128:=by
 obtain⟨o,k,m⟩:=p
 obtain⟨h1,h2,h3⟩:=h
 simp only at h1 h2 h3 hc
 cases k with
 |zero=>simp at h2;omega
 |succ k=>
  rw[gS.eq_2,if_neg (by omega)]at h1
  refine⟨(o++[((m % 128+128:Nat):Int)],k,m / 128),⟨by simp only;rw[h1,dO];rfl,?_,by simp only[bn,iZ,kn];omega⟩,by simp only;omega,rfl,rfl⟩
  simp only
  rw[Nat.div_lt_iff_lt_mul (by decide),<- Nat.pow_succ];exact h2
theorem Dq {tot:List Int} {n:Nat} {p:List Int×Nat×Nat} (h:uB tot n p) (hc:p.2.2<128):tot=p.1++[(p.2.2:Int)]:=by
 obtain⟨o,k,m⟩:=p
 obtain⟨h1,h2,h3⟩:=h
 simp only at h1 hc
 cases k with
 |zero=>rw[h1,gS.eq_1]
 |succ k=>rw[h1,gS.eq_2,if_pos hc]
theorem aaJ {z:Int} (h:z<=9223372036854775807):z.toNat<128 ^ (8+1):=by
 have:(128:Nat) ^ (8+1)=9223372036854775808:=rfl
 omega
def Ez:aE:=fun args kb K=>match args,kb with
 | [aj 0 0,.int Z z],[ar [.sl 1 0 h],ξ 5 1 A]=>∃ a:List Int,A=ints ι a/\h=a.length/\a.length<=10000000/\jk z/\
  K (.υ []) [ar [.sl 2 0 (a++aY z).length],χ,ξ 5 1 (ints ι (a++aY z))]
 |_,_=>False
theorem acK:aN Tryz.prog 36 Ez:=kY fN mixed (fun args kb K h=>by
 unfold Ez at h;split at h<;>try exact h.elim
 rename_i z _ _
 obtain⟨a,rfl,rfl,hl,⟨hz⟩,h⟩:=h
 have e0:(if 0 > z then 0 else z)=((z.toNat:Nat):Int):=by split<;>omega
 refine⟨wT (a++aY z) a.length 36,ahH (a++aY z) a.length z a K ⟨?_,?_,?_⟩⟩
 ·rw[e0]
  exact At.mk' (.inl ⟨(a,8,z.toNat),rfl,aaJ hz,av _⟩) rfl
 ·rintro⟨p,hp⟩
  have hb:=hp.2.2
  simp only[bi,RU]
  refine⟨fun hc=>⟨by omega,by omega,by omega,?_⟩,fun hc=>⟨by omega,by omega,by omega,?_⟩⟩
  ·simp only[decide_eq_true_eq]at hc
   obtain⟨q,h1,h2,h3,h4⟩:=UQ hp (by omega)
   have e1:(p.2.2:Int).fdiv 128=((q.2.2:Nat):Int):=by rw[h4,Int.fdiv_eq_ediv_of_nonneg _ (by omega)];omega
   rw[e1,CT,<- h3,show p.1.length+1=q.1.length by rw[h3];simp]
   exact Nx.mk' (.inr ⟨q,h1⟩) rfl h2
  ·simp only[decide_eq_false_iff_not]at hc
   rw[w8 (by omega) (by omega),CT,<- Dq hp (by omega),show p.1.length+1=(a++aY z).length by rw[Dq hp (by omega)];simp]
   exact h
 ·rintro⟨p,hp⟩
  have hb:=hp.2.2
  simp only[bi,RU]
  refine⟨fun hc=>⟨by omega,by omega,by omega,?_⟩,fun hc=>⟨by omega,by omega,by omega,?_⟩⟩
  ·simp only[decide_eq_true_eq]at hc
   obtain⟨q,h1,h2,h3,h4⟩:=UQ hp (by omega)
   have e1:(p.2.2:Int).fdiv 128=((q.2.2:Nat):Int):=by rw[h4,Int.fdiv_eq_ediv_of_nonneg _ (by omega)];omega
   rw[e1,CT,<- h3,show p.1.length+1=q.1.length by rw[h3];simp]
   exact Nx.mk' (.inr ⟨q,h1⟩) rfl h2
  ·simp only[decide_eq_false_iff_not]at hc
   rw[w8 (by omega) (by omega),CT,<- Dq hp (by omega),show p.1.length+1=(a++aY z).length by rw[Dq hp (by omega)];simp]
   exact h)
def Eh:aE:=fun args kb K=>match args,kb with
 | [aj 0 0],[ar [.sl 1 lo h,.int Z e],ξ 5 1 A]=>∃ l:List Int,A=ints ι l/\h=l.length/\lo<=l.length/\bm l/\l.length<=140737488355328/\e=0/\
  (∀ v n,jq 0 0 (l.drop lo)= .got v n->K (.υ [.int Z (v:Int),.int Z (n:Int)]) [ar [.sl 1 lo l.length,.int Z 0],ξ 5 1 (ints ι l)])/\
  (jq 0 0 (l.drop lo)= .short->K (.υ [.int Z 0,.int Z 0]) [ar [.sl 1 lo l.length,.int Z 2],ξ 5 1 (ints ι l)])/\
  (jq 0 0 (l.drop lo)= .form->K (.υ [.int Z 0,.int Z 0]) [ar [.sl 1 lo l.length,.int Z 3],ξ 5 1 (ints ι l)])
 |_,_=>False
theorem aaW {i:Nat} (h:i<=9):Z.wrap (7*(i:Int))=((7*i:Nat):Int):=by
 rw[bD (by omega) (by omega)];omega
theorem abZ:aN Tryz.prog 62 Eh:=dW fN mixed (fun args kb K h=>by
  unfold Eh at h;split at h<;>try exact h.elim
  rename_i lo _ _ _
  obtain⟨l,rfl,rfl,hlo,hb,hl,rfl,hg,hs,hf⟩:=h
  refine⟨QT l lo 0 62,agV l lo 0 K ⟨At.mk' ⟨(0,0),by omega,bt _,by rw[g_],by decide⟩ rfl,?_⟩⟩
  rintro⟨⟨i,v⟩,hh⟩
  obtain⟨h9,hi,hn,hv⟩:=hh
  have hh:B8 (l.drop lo) (i,v):=⟨h9,hi,hn,hv⟩
  simp only[fQ]at h9 hi hn hv ⊢
  refine⟨fun hc=>?_,fun hc=>?_⟩
  ·simp only[decide_eq_true_eq]at hc
   have hil:i<l.length - lo:=by omega
   have hel:l[lo+i]? =some l[lo+i]:=bp (by omega)
   have O9:(l.drop lo).drop i=l[lo+i]::(l.drop lo).drop (i+1):=by
    rw[List.drop_drop,List.drop_drop,show lo+(i+1)=lo+i+1 by omega]
    exact List.drop_eq_getElem_cons (by omega)
   have hbd:=hb l[lo+i] (List.getElem_mem _)
   rw[O9]at hn
   generalize l[lo+i]=c at hel hn hbd O9
   rw[jq.eq_2]at hn
   have ff:(i=9∨(c=0/\0<i))->jq 0 0 (l.drop lo)= .form:=fun h=>by rw[hn,if_pos h]
   refine⟨by unfold bw;omega,[ζ (.int ι c)],by rw[cP,kv,hel];rfl,c,rfl,fun hx=>?_,fun hx=>?_⟩
   ·simp only[beq_iff_eq]at hx
    have:=ff (.inl (by omega))
    refine⟨fun hy=>?_,fun hy=>⟨fun _=>hf this,fun h=>by simp at h⟩⟩
    simp only[beq_iff_eq]at hy
    omega
   ·simp only[beq_eq_false_iff_ne,ne_eq]at hx
    have Ph:i<=8:=by omega
    have go:¬ (c=0/\0<i)->((decide (c ≥ 128)=true->
 (Z.wrap (7*(i:Int))<0->False)/\
 Nx (B9 l lo 0) ⟨(i,v),hh⟩
 ([aj 0 0,ε Z (Z.wrap ((BitVec.ofInt 64 (v:Int) ||| BitVec.ofInt 64 (l7 Z (Z.wrap (ι.wrap ((BitVec.ofInt 8 c &&& BitVec.ofInt 8 127).toNat:Int))) (Z.wrap (7*(i:Int))))).toNat:Int)),ε Z (Z.wrap ((i:Int)+1)),δ 1 lo l.length,
 ε Z ((l.length - lo:Nat):Int),ε Z (Z.wrap ((i:Int)+1))],
 [ar [δ 1 lo l.length,ε Z 0],ξ 5 1 (ints ι l)]))/\
 (decide (c ≥ 128)=false->
 (Z.wrap (7*(i:Int))<0->False)/\
 K (aw [ε Z (Z.wrap ((BitVec.ofInt 64 (v:Int) ||| BitVec.ofInt 64 (l7 Z (Z.wrap c) (Z.wrap (7*(i:Int))))).toNat:Int)),ε Z (Z.wrap ((i:Int)+1))]) [ar [δ 1 lo l.length,ε Z 0],ξ 5 1 (ints ι l)])):=by
     intro hz
     rw[if_neg (by omega)]at hn
     rw[aaW (by omega),Wf hbd.1 hbd.2]
     have hm:=Nat.mod_lt c.toNat (show 128 > 0 by decide)
     refine⟨fun h=>⟨fun f=>by omega,?_⟩,fun h=>⟨fun f=>by omega,?_⟩⟩
     ·simp only[decide_eq_true_eq]at h
      rw[if_pos (by omega)]at hn
      rw[bD (n:=((c.toNat % 128:Nat):Int)) (by omega) (by omega),Q2 hv hm Ph,bD (n:=(i:Int)+1) (by omega) (by omega)]
      refine Nx.mk' (⟨(i+1,v+c.toNat % 128*128 ^ i),by simp only;omega,by simp only[fQ];omega,hn,?_⟩:{p // B8 (l.drop lo) p}) rfl (by show l.length - lo - (i+1)<l.length - lo - i;omega)
      simp only
      rw[Nat.pow_succ]
      have:c.toNat % 128*128 ^ i<=127*128 ^ i:=Nat.mul_le_mul_right _ (by omega)
      omega
     ·simp only[decide_eq_false_iff_not]at h
      rw[if_neg (by omega)]at hn
      have ec:c=((c.toNat:Nat):Int):=by omega
      have:=hg _ _ hn
      rw[bD (n:=c) (by omega) (by omega),bD (n:=(i:Int)+1) (by omega) (by omega)]
      rw[show l7 Z c ((7*i:Nat):Int)=l7 Z ((c.toNat:Nat):Int) ((7*i:Nat):Int) by rw[<- ec],Q2 hv (by omega) Ph]
      exact this
    refine⟨fun h0=>⟨fun h1=>?_,fun h1=>?_⟩,fun h0=>?_⟩
    ·simp only[beq_iff_eq]at h0
     simp only[decide_eq_true_eq]at h1
     have:=ff (.inr ⟨h0,by omega⟩)
     refine⟨fun hy=>?_,fun hy=>⟨fun _=>hf this,fun h=>by simp at h⟩⟩
     simp only[beq_iff_eq]at hy
     omega
    ·simp only[decide_eq_false_iff_not]at h1
     exact go (fun h=>h1 (by omega))
    ·simp only[beq_eq_false_iff_ne,ne_eq]at h0
     exact go (fun h=>h0 h.1)
  ·simp only[decide_eq_false_iff_not]at hc
   have:i=l.length - lo:=by omega
   rw[show ay i (l.drop lo)=[]from List.drop_eq_nil_of_le (by rw[fQ];omega),jq.eq_1]at hn
   refine⟨fun hy=>⟨fun h=>⟨fun _=>hs ?_,fun h=>by simp at h⟩,fun h=>⟨fun _=>hf ?_,fun h=>by simp at h⟩⟩,fun hy=>?_⟩
   ·simp only[decide_eq_true_eq]at h
    rw[hn,if_pos (by omega)]
   ·simp only[decide_eq_false_iff_not]at h
    rw[hn,if_neg (by omega)]
   ·simp only[beq_eq_false_iff_ne,ne_eq]at hy
    omega)
end Go.Proofs.YtfcjngcnifdmnaaGreat
