import Derived.Test.YtfcjngcnifdmnaaGreatQb
import Derived.Deep.LoopGhost
import Derived.Scope
import Derived.RangeFuncIn
import Derived.RangeFuncSeq
import Derived.OrdersIn
import Derived.TacticsIn
import Derived.Below
import Derived.ProofKit
import Derived.OpenShut
import Derived.Carry
import Derived.IntWalk
import Derived.Test.YtfcjngcnifdmnaaGreatRows
import Derived.KernelRfl
set_option linter.unusedSimpArgs false
set_option linter.unusedVariables false
namespace Vc
open Go
open Go.IntKind renaming i64->γ,u8->ν,u32->iy
open Go.Value renaming int->φ,map->kr,oneCell'->l0
open List renaming map->ae,drop->ax,take->aA,length_append->bo,getElem?_eq_getElem->bz,getElem?_eq_some_iff->bO,length_map->cp,take_length->cZ,length_take->dc,mem_singleton->dm,replicate->dp,mem_append->dQ,Mem->dW,getElem?_append_left->dX,mem_map->ef,append_assoc->eH,mem_cons->eI,getElem?_append_right->e_,append_nil->fu,getElem?_map->fH,take_of_length_le->fI,length_drop->fZ,mem_cons_of_mem->f_,getElem?_set_ne->gE,length_cons->gF,mem_of_getElem?->gG,getElem?_eq_none->g_,getElem?_set_self->iz,length_set->iA,mem_cons_self->iB,length_singleton->iL,mem_append_left->iM,range->iN,drop_zero->iX,getD_eq_getElem?_getD->iY,getElem?_take_of_lt->ji,flatten_cons->jt,nil_append->ju,getElem?_drop->jE,map_append->jZ,take_add_one->j2,length_nil->ko,ext_getElem?->lB,getElem?_of_mem->lC,mem_append_right->lD,map_cons->lY,mem_filter->lZ,eq_nil_of_length_eq_zero->mq
open Nat renaming le_refl->au,zero_le->bt,beq->cq,eq_of_beq_eq_true->cP,zero_add->cQ,add_assoc->gR,lor->iO,lt_or_ge->jF,sub_zero->kV
open Option renaming some->bc,bind_eq_some_iff->kW,map->mU
open Int renaming le_refl->dy,toNat_natCast->dD
open Bool renaming and_eq_true->iW,not_eq_false'->nI
inductive jG where
 |slot (k:Nat) (ty:TypeId) (sz:Nat)
 |cell (i off:Nat) (ty:TypeId) (sz:Nat)
 |br (k off:Nat) (ty:TypeId) (sz:Nat)
 |TT (k:Nat) (sz:Nat)
 |OT (k off:Nat) (sz:Nat)
 |tP (i off:Nat) (sz:Nat)
 |mv (i off:Nat)
 |Rh (k:Nat)
 |qh (k:Nat)
 |kill (i:Nat)
 |Rg (i off:Nat)
 |ql (i off:Nat)
 |oK (i off:Nat) (ay:List IntKind) (aS agg:Bool) (sz:Nat)
def jG.FO:jG->Bool
 | .qh _=>true
 | .ql .. =>true
 | .oK .. =>true
 |_=>false
def C0 (n:Nat):V->Option (Nat×V)
 | .mp j=>some (j,.mp n)
 | .ptr j o=>some (j,.ptr n o)
 |_=>none
structure LI where
 α:Type
 live:List Nat
 dV:List jG:=[]
 st:α->List V×KB
 μ:α->Nat
 all:(α->Prop)->Prop:=fun Q=>∀ i,Q i
 xw:∀ Q,all Q->∀ i,Q i:=by exact fun _ h=>h
 sub:α->Nat->Option LI:=fun _ _=>none
 itl:Nat->Option LI:=fun _=>none
def Dv (li:LI) (i:li.α) (T:Nat->Option LI):Nat->Option LI:=fun r=>match li.sub i r with
 |some l=>some l
 |none=>T r
def pg:Code->Option Nat
 | .region id _ _=>some id
 | .seq a b=>match pg a with | some i=>some i | none=>pg b
 | .block _ b=>pg b
 | .loop b=>pg b
 | .scope b=>pg b
 | .cond _ a b=>match pg a with | some i=>some i | none=>pg b
 |_=>none
def yu (fr:Fr):List Nat->Option (List V)
 | []=>some []
 |t::ts=>match look fr t with
  |some v=>match yu fr ts with | some vs=>some (v::vs) | none=>none
  |none=>none
def qi:List V->Option (List D)
 | []=>some []
 | .int k n::vs=>match qi vs with | some ds=>some (.val (.int k n)::ds) | none=>none
 | .lit k n::vs=>match qi vs with | some ds=>some (.val (.int k n)::ds) | none=>none
 | .sb b::vs=>match qi vs with | some ds=>some (.val (.bool b)::ds) | none=>none
 | .dat d::vs=>match qi vs with | some ds=>some (d::ds) | none=>none
 |_:: _=>none
theorem Qq:∀{vs:List V} {ds:List D},qi vs=some ds->∀{σ:Sg} {E:EH} {xs:List Value},aT σ E vs xs->a_ E ds xs
 | [],ds,h,σ,E,xs,hd=>by
  simp only[qi,bc.injEq]at h
  subst h
  simp only[aT]at hd
  subst hd
  exact a_.nil
 |v::vs,ds,h,σ,E,xs,hd=>by
  obtain⟨ys,zs,rfl,h1,h2⟩:=hd.iI
  cases v<;>simp only[qi,reduceCtorEq]at h
  all_goals
   split at h<;>try (cases h;done)
   rename_i ds' hds
   simp only[bc.injEq]at h
   subst h
   rcases h1 with ⟨y,rfl,h3,h4⟩ | ⟨m,cs,e,_,_⟩
   ·refine a_.cons ?_ (Qq hds h2)
    simp only[Den]at h4
    first
    |exact h4
    | (subst h4;simp [bI,l0])
   ·cases e
theorem Inv.O1 {σ:Sg} {E:EH} {kb:KB} {W:World} (h:Inv σ E kb W) {i:Nat} {r:Re} {o:KO} (hs:σ[i]? =some r) (hk:kb[i]? =some o) (hw:∀ b,b=r.blk->owned r o b):
  ∃ E',Step σ E kb W σ E' (kb.set i .dead) W/\E' r.blk=W.heap[r.blk]?:=by
 have hi:i<kb.length:=(bO.1 hk).1
 let E':EH:=fun b=>if b=r.blk then W.heap[b]? else E b
 have hle:E.le E':=fun b x hb=>by
  show(if b=r.blk then W.heap[b]? else E b)=some x
  by_cases hc:b=r.blk
  ·have:=h.sep b ⟨i,r,_,hs,hk,hw b hc⟩
   rw[this]at hb;cases hb
  ·rw[if_neg hc];exact hb
 have di:∀(j:Nat) (x:KO),(kb.set i .dead)[j]? =some x->(j=i/\x= .dead)∨(j≠i/\kb[j]? =some x):=by
  intro j x hj
  by_cases hji:j=i
  ·subst hji
   rw[iz hi]at hj
   exact .inl ⟨rfl,(bc.inj hj).symm⟩
  ·rw[gE (Ne.symm hji)]at hj
   exact .inr ⟨hji,hj⟩
 have hown:∀ b,ct σ (kb.set i .dead) b->ct σ kb b/\¬ b=r.blk:=by
  rintro b ⟨j,r',x,h1,h2,h3⟩
  rcases di j x h2 with ⟨rfl,rfl⟩ | ⟨hji,h4⟩
  ·exact h3.elim
  ·exact⟨⟨j,r',x,h1,h4,h3⟩,fun hc=>h.dA i j r r' _ x b (Ne.symm hji) hs hk h1 h4 (hw b hc) h3⟩
 refine⟨E',⟨⟨by simp [h.len],fun j r' x h1 h2=>?_,fun a c r1 r2 o1 o2 b hac h1 h2 h3 h4 h5 h6=>?_,fun b x hb=>?_,fun b hb=>?_⟩,tF.refl _ W,⟨[],by simp⟩,hle,fun b hb=> .inl (hown b hb).1,fun b x hb=>?_⟩,?_⟩
 ·rcases di j x h2 with ⟨rfl,rfl⟩ | ⟨hji,h4⟩
  ·trivial
  ·have:=(h.obj j r' x h1 h4).mono (τ:=[]) (W':=W) hle (fun b hb=>rfl)
   simpa using this
 ·rcases di a o1 h2 with ⟨rfl,rfl⟩ | ⟨_,k2⟩
  ·exact h5.elim
  rcases di c o2 h4 with ⟨rfl,rfl⟩ | ⟨_,k4⟩
  ·exact h6.elim
  exact h.dA a c r1 r2 o1 o2 b hac h1 k2 h3 k4 h5 h6
 ·by_cases hc:b=r.blk
  ·simp only[E',if_pos hc]at hb;exact hb
  ·simp only[E',if_neg hc]at hb;exact h.dj b x hb
 ·obtain⟨h1,h2⟩:=hown b hb
  show(if b=r.blk then W.heap[b]? else E b)=none
  rw[if_neg h2]
  exact h.sep b h1
 ·by_cases hc:b=r.blk
  ·exact .inr (.inl ⟨i,r,_,hs,hk,hw b hc⟩)
  ·simp only[E',if_neg hc]at hb;exact .inl hb
 ·simp only[E',if_pos]
theorem Inv.O2 {σ:Sg} {E:EH} {kb:KB} {W:World} (h:Inv σ E kb W) {i:Nat} {r:Re} {l:List V} {ds:List D} (hs:σ[i]? =some r) (hk:kb[i]? =some (.cells l)) (hc:qi l=some ds):
  ∃ E',Step σ E kb W σ E' (kb.set i .dead) W/\dh E' ds r.blk 0:=by
 obtain⟨E',hst,hE⟩:=h.O1 hs hk (fun b hb=>hb)
 obtain⟨arr,ty,k1,k2⟩:=h.obj i r _ hs hk
 refine⟨E',hst,((Qq hc k2).mono hst.le).rep fun j x hj=>?_⟩
 rw[k1]at hE
 unfold EH.cell
 rw[hE]
 simpa using hj
theorem Inv.Zb {σ:Sg} {E:EH} {kb:KB} {W:World} (h:Inv σ E kb W) {i:Nat} {r:Re} {ay:List IntKind} {aS agg:Bool} {sz:Nat} {l:List (List Int×List D)} (hs:σ[i]? =some r) (hk:kb[i]? =some (.mp ay aS agg sz l)):
  ∃ E',Step σ E kb W σ E' (kb.set i .dead) W/\sr E' ay aS agg sz (some r.blk) l:=by
 obtain⟨E',hst,hE⟩:=h.O1 hs hk (fun b hb=>hb)
 obtain⟨k0,es,ck,k1,k2,k3⟩:=h.obj i r _ hs hk
 rw[k1]at hE
 exact⟨E',hst,k0,es,ck,hE,k2.mono hst.le,k3⟩
def k8:jG->List V×KB->List V×KB
 | .slot k ty sz,(vs,kb)=>match vs[k]? with
  |some (.any (.slice none 0 0))=>(vs.set k (.sl kb.length 0 0),kb++[KO.row ty sz []])
  |_=>(vs,kb)
 | .cell i off ty sz,(vs,kb)=>match kb[i]? with
  |some (.cells l)=>match je l off with
   |some (.any (.slice none 0 0))=>match jp l off [.sl kb.length 0 0]with
    |some l'=>(vs,(kb++[KO.row ty sz []]).set i (KO.cells l'))
    |none=>(vs,kb)
   |_=>(vs,kb)
  |_=>(vs,kb)
 | .br k off ty sz,(vs,kb)=>match vs[k]? with
  |some (.agg l)=>match je l off with
   |some (.any (.slice none 0 0))=>match jp l off [.sl kb.length 0 0]with
    |some l'=>(vs.set k (.agg l'),kb++[KO.row ty sz []])
    |none=>(vs,kb)
   |_=>(vs,kb)
  |_=>(vs,kb)
 | .TT k sz,(vs,kb)=>match vs[k]? with
  |some (.any (.slice none 0 0))=>(vs.set k (.dat (.sl sz [])),kb)
  |_=>(vs,kb)
 | .OT k off sz,(vs,kb)=>match vs[k]? with
  |some (.agg l)=>match je l off with
   |some (.any (.slice none 0 0))=>match jp l off [.dat (.sl sz [])]with
    |some l'=>(vs.set k (.agg l'),kb)
    |none=>(vs,kb)
   |_=>(vs,kb)
  |_=>(vs,kb)
 | .tP i off sz,(vs,kb)=>match kb[i]? with
  |some (.cells l)=>match je l off with
   |some (.any (.slice none 0 0))=>match jp l off [.dat (.sl sz [])]with
    |some l'=>(vs,kb.set i (KO.cells l'))
    |none=>(vs,kb)
   |_=>(vs,kb)
  |_=>(vs,kb)
 | .mv i off,(vs,kb)=>match kb[i]? with
  |some (.cells l)=>match je l off with
   |some (.sl j lo hi)=>match kb[j]? with
    |some (.row ty sz L)=>match jp l off [.sl kb.length lo hi]with
     |some l'=>(vs,(kb.set j .dead++[KO.row ty sz L]).set i (KO.cells l'))
     |none=>(vs,kb)
    |_=>(vs,kb)
   |_=>(vs,kb)
  |_=>(vs,kb)
 | .Rh k,(vs,kb)=>match vs[k]? with
  |some (.sl j lo hi)=>match kb[j]? with
   |some (.row ty sz L)=>(vs.set k (.sl kb.length lo hi),kb.set j .dead++[KO.row ty sz L])
   |_=>(vs,kb)
  |_=>(vs,kb)
 | .qh k,(vs,kb)=>match vs[k]? with
  |some (.ptr i 0)=>match kb[i]? with
   |some (.cells l)=>match qi l with
    |some ds=>(vs.set k (.cF ds 0),kb.set i .dead)
    |none=>(vs,kb)
   |_=>(vs,kb)
  |_=>(vs,kb)
 | .kill i,(vs,kb)=>match kb[i]? with
  |some _=>(vs,kb.set i .dead)
  |none=>(vs,kb)
 | .Rg i off,(vs,kb)=>match kb[i]? with
  |some (.cells l)=>match je l off with
   |some v=>match C0 kb.length v with
    |some (j,u)=>match kb[j]? with
     |some o=>match jp l off [u]with
      |some l'=>if i=j then(vs,kb)else(vs,(kb.set j .dead++[o]).set i (KO.cells l'))
      |none=>(vs,kb)
     |none=>(vs,kb)
    |none=>(vs,kb)
   |none=>(vs,kb)
  |_=>(vs,kb)
 | .ql i off,(vs,kb)=>match kb[i]? with
  |some (.cells l)=>match je l off with
   |some (.any (.pointer none))=>match jp l off [.af none]with
    |some l'=>(vs,kb.set i (KO.cells l'))
    |none=>(vs,kb)
   |some (.ptr j 0)=>match kb[j]? with
    |some (.cells m)=>match qi m with
     |some ds=>match jp l off [.af (some ds)]with
      |some l'=>if i=j then(vs,kb)else(vs,(kb.set j .dead).set i (KO.cells l'))
      |none=>(vs,kb)
     |none=>(vs,kb)
    |_=>(vs,kb)
   |_=>(vs,kb)
  |_=>(vs,kb)
 | .oK i off ay aS agg sz,(vs,kb)=>match kb[i]? with
  |some (.cells l)=>match je l off with
   |some (.any (.map none))=>match jp l off [.imp ay aS agg sz []]with
    |some l'=>(vs,kb.set i (KO.cells l'))
    |none=>(vs,kb)
   |some (.mp j)=>match kb[j]? with
    |some (.mp ay aS agg sz m)=>match jp l off [.imp ay aS agg sz m]with
     |some l'=>if i=j then(vs,kb)else(vs,(kb.set j .dead).set i (KO.cells l'))
     |none=>(vs,kb)
    |_=>(vs,kb)
   |_=>(vs,kb)
  |_=>(vs,kb)
def pF:List jG->List V×KB->List V×KB
 | [],s=>s
 |d::ds,s=>pF ds (k8 d s)
theorem Inv.Fb {σ:Sg} {E:EH} {kb:KB} {W:World} (hi:Inv σ E kb W) (ty:TypeId) (sz:Nat):Step σ E kb W (σ++[⟨0,0,sz⟩]) E (kb++[.row ty sz []]) W:=
 hi.grow ⟨0,0,sz⟩ (.row ty sz []) rfl rfl rfl (au _) (fun _ _=>rfl) (fun b hb=>absurd rfl hb.1) ⟨rfl,fun e he=>(by cases he),au _,bt _,.inl rfl⟩
theorem F_ {σ:Sg} {E:EH} {kb:KB} (hl:σ.length=kb.length) (sz:Nat):Den (σ++[⟨0,0,sz⟩]) E (.sl kb.length 0 0) (.slice none 0 0):=by
 simp only[Den]
 exact⟨⟨0,0,sz⟩,none,by rw[<- hl];simp,rfl,au _,au _,fun h=>absurd h (Nat.lt_irrefl _)⟩
theorem N0 {σ:Sg} {E:EH} {vs:List V} {xs:List Value} (h:aq σ E vs xs) {k:Nat} {v u:V} {x:Value} (hv:vs[k]? =some v) (hx:∀ y,Den σ E v y->y=x) (hu:Den σ E u x):aq σ E (vs.set k u) xs:=by
 obtain⟨y,h1,h2⟩:=h.get hv
 have:=hx y h2
 subst this
 clear hx
 induction vs generalizing k xs with
 |nil=>simp at hv
 |cons w vs ih=>
  simp only[aq]at h
  obtain⟨z,zs,rfl,h3,h4⟩:=h
  cases k with
  |zero=>
   simp at h1
   subst h1
   exact .cons hu h4
  |succ k=>exact .cons h3 (ih h4 (by simpa using hv) (by simpa using h1))
theorem SX {σ:Sg} {E:EH} {l:List V} {off:Nat} {v:V} (h:je l off=some v) (hna:∀ m cs,v≠.arr m cs) {xs:List Value} (hd:aT σ E l xs):∃ y,xs[off]? =some y/\y.oneCell'=true/\Den σ E v y:=by
 unfold je at h
 split at h<;>try (cases h;done)
 rename_i v' r hr
 cases h
 obtain⟨h1,h2⟩:=sG hr hd
 obtain⟨ys,zs,e,h3,h4⟩:=h1.iI
 rcases h3 with ⟨y,rfl,h5,hy⟩ | ⟨m,cs,e',_,_⟩
 ·refine⟨y,?_,h5,hy⟩
  have:=congrArg (fun z=>z[0]?) e
  simpa using this
 ·exact(hna _ _ e').elim
theorem A_ {σ:Sg} {E:EH} {l l':List V} {xs:List Value} (h:aT σ E l xs) {off:Nat} {v u:V} {x:Value} (hv:je l off=some v) (hna:∀ m cs,v≠.arr m cs) (hx:∀ y,Den σ E v y->y=x) (hu:Den σ E u x) (hl:jp l off [u]=some l'):aT σ E l' xs:=by
 obtain⟨y,h1,h2,h3⟩:=SX hv hna h
 have:=hx y h3
 subst this
 obtain⟨h4,h5⟩:=uB hl h (.jj hu h2 .nil)
 have:splice xs off [y]=xs:=by
  apply lB
  intro j
  rw[tW (by omega)]
  split
  ·rfl
  ·split
   ·rename_i c1 c2
    have:j=off:=by simp at c2;omega
    subst this
    simp [h1]
   ·rfl
 rwa [this]at h4
theorem F9 {σ:Sg} {E:EH} {l l':List V} {xs:List Value} (h:aT σ E l xs) {off:Nat} {v u:V} (hv:je l off=some v) (hna:∀ m cs,v≠.arr m cs) (hu:∀ y,Den σ E v y->Den σ E u y) (hl:jp l off [u]=some l'):aT σ E l' xs:=by
 obtain⟨y,h1,h2,h3⟩:=SX hv hna h
 obtain⟨h4,h5⟩:=uB hl h (.jj (hu y h3) h2 .nil)
 have:splice xs off [y]=xs:=by
  apply lB
  intro j
  rw[tW (by omega)]
  split
  ·rfl
  ·split
   ·rename_i c1 c2
    have:j=off:=by simp at c2;omega
    subst this
    simp [h1]
   ·rfl
 rwa [this]at h4
theorem Inv.Rb {σ:Sg} {E:EH} {kb:KB} {W:World} (hi:Inv σ E kb W) {j:Nat} {ty:TypeId} {sz:Nat} {L:List (List D)} (hk:kb[j]? =some (.row ty sz L)):
  ∃ r,σ[j]? =some r/\Step σ E kb W (σ++[r]) E (kb.set j .dead++[KO.row ty sz L]) W:=by
 obtain⟨r,hr⟩:∃ r,σ[j]? =some r:=⟨_,bz (by rw[hi.len];exact(bO.1 hk).1)⟩
 exact⟨r,hr,hi.renew (W':=W) (r':=r) (o':=.row ty sz L) hr hk rfl rfl rfl (au _) (fun _ _ _=>rfl) (fun b hb=> .inl hb) ((hi.obj j r _ hr hk).mono (EH.le.refl E) (fun _ _=>rfl))⟩
theorem N2 {σ:Sg} {E:EH} {kb:KB} (hl:σ.length=kb.length) {j lo hi:Nat} {r:Re} (hr:σ[j]? =some r) {y:Value} (hy:Den (σ++[r]) E (.sl j lo hi) y):Den (σ++[r]) E (.sl kb.length lo hi) y:=by
 simp only[Den]at hy ⊢
 obtain⟨r',a,h1,h2⟩:=hy
 rw[gA hr]at h1
 cases h1
 exact⟨r,a,by rw[<- hl];simp,h2⟩
theorem Inv.abo {σ:Sg} {E:EH} {kb:KB} {W:World} (hi:Inv σ E kb W) {j:Nat} {o:KO} (hk:kb[j]? =some o):
  ∃ r,σ[j]? =some r/\Step σ E kb W (σ++[r]) E (kb.set j .dead++[o]) W:=by
 obtain⟨r,hr⟩:∃ r,σ[j]? =some r:=⟨_,bz (by rw[hi.len];exact(bO.1 hk).1)⟩
 exact⟨r,hr,hi.renew (W':=W) (r':=r) (o':=o) hr hk rfl rfl rfl (au _) (fun _ _ _=>rfl) (fun b hb=> .inl hb) ((hi.obj j r _ hr hk).mono (EH.le.refl E) (fun _ _=>rfl))⟩
theorem aer {σ:Sg} {E:EH} {kb:KB} (hl:σ.length=kb.length) {j:Nat} {v u:V} (hv:C0 kb.length v=some (j,u)) {r:Re} (hr:σ[j]? =some r) {y:Value} (hy:Den (σ++[r]) E v y):Den (σ++[r]) E u y:=by
 have hn:(σ++[r])[kb.length]? =some r:=by rw[<- hl];simp
 cases v<;>simp only[C0,reduceCtorEq,bc.injEq,Prod.mk.injEq]at hv
 all_goals
  obtain⟨rfl,rfl⟩:=hv
  simp only[Den]at hy ⊢
  obtain⟨r',h1,h2⟩:=hy
  rw[gA hr]at h1
  cases h1
  exact⟨r,hn,h2⟩
theorem Bb {σ:Sg} {E:EH} {vs:List V} {xs:List Value} (h:aq σ E vs xs) {k:Nat} {v u:V} (hv:vs[k]? =some v) (hu:∀ y,Den σ E v y->Den σ E u y):aq σ E (vs.set k u) xs:=by
 obtain⟨y,h1,h2⟩:=h.get hv
 have h3:=hu y h2
 clear hu h2
 induction vs generalizing k xs with
 |nil=>simp at hv
 |cons w vs ih=>
  simp only[aq]at h
  obtain⟨z,zs,rfl,h4,h5⟩:=h
  cases k with
  |zero=>
   simp at h1
   subst h1
   exact .cons h3 h5
  |succ k=>exact .cons h4 (ih h5 (by simpa using hv) (by simpa using h1))
theorem abx {c:Cx} {E:EH} {W:World}:∀(d:jG) (_:d.FO=false) {σ:Sg} {vs:List V} {kb:KB} {xs:List Value},Step c.σ c.E c.kb c.W σ E kb W->aq σ E vs xs->∃ σ',Step c.σ c.E c.kb c.W σ' E (k8 d (vs,kb)).2 W/\aq σ' E (k8 d (vs,kb)).1 xs
 | .slot k ty sz,_,σ,vs,kb,xs,hs,hd=>by
  simp only[k8]
  split
  ·rename_i hk
   have hst:=hs.inv.Fb ty sz
   exact⟨_,hs.trans hst,N0 (aq.mono (EH.le.refl E) hd) hk (fun y hy=>by simpa only[Den]using hy) (F_ hs.inv.len sz)⟩
  ·exact⟨σ,hs,hd⟩
 | .cell i off ty sz,_,σ,vs,kb,xs,hs,hd=>by
  simp only[k8]
  split
  ·rename_i l hl
   split
   ·rename_i hk
    split
    ·rename_i l' hl'
     have hst:=hs.inv.Fb ty sz
     have hi2:=hst.inv
     have hlt:i<kb.length:=(bO.1 hl).1
     have hkb:(kb++[KO.row ty sz []])[i]? =some (.cells l):=by rw[dX hlt];exact hl
     obtain⟨r,hr⟩:∃ r,(σ++[⟨0,0,sz⟩])[i]? =some r:=⟨_,bz (by rw[hi2.len];simp;omega)⟩
     obtain⟨arr,ty',h1,h2⟩:=hi2.obj i r _ hr hkb
     have dR:=hi2.set (o':=.cells l') hr hkb rfl rfl rfl rfl (fun _ _=>rfl) (fun b hb=>hb) ⟨arr,ty',h1,A_ h2 hk (fun _ _ h=>by cases h) (fun y hy=>by simpa only[Den]using hy) (F_ hs.inv.len sz) hl'⟩
     exact⟨_,hs.trans (hst.trans dR),aq.mono (EH.le.refl E) hd⟩
    ·exact⟨σ,hs,hd⟩
   ·exact⟨σ,hs,hd⟩
  ·exact⟨σ,hs,hd⟩
 | .br k off ty sz,_,σ,vs,kb,xs,hs,hd=>by
  simp only[k8]
  split
  ·rename_i l hk
   split
   ·rename_i hp
    split
    ·rename_i l' hl'
     have hst:=hs.inv.Fb ty sz
     refine⟨_,hs.trans hst,Bb (aq.mono (EH.le.refl E) hd) hk fun y hy=>?_⟩
     simp only[Den]at hy ⊢
     obtain⟨zs,rfl,hz⟩:=hy
     exact⟨zs,rfl,A_ hz hp (fun _ _ h=>by cases h) (fun y hy=>by simpa only[Den]using hy) (F_ hs.inv.len sz) hl'⟩
    ·exact⟨σ,hs,hd⟩
   ·exact⟨σ,hs,hd⟩
  ·exact⟨σ,hs,hd⟩
 | .TT k sz,_,σ,vs,kb,xs,hs,hd=>by
  simp only[k8]
  split
  ·rename_i hk
   exact⟨_,hs,N0 hd hk (fun y hy=>by simpa only[Den]using hy) (by simp only[Den];exact⟨none,0,rfl,au _,.inl rfl⟩)⟩
  ·exact⟨σ,hs,hd⟩
 | .OT k off sz,_,σ,vs,kb,xs,hs,hd=>by
  simp only[k8]
  split
  ·rename_i l hk
   split
   ·rename_i hp
    split
    ·rename_i l' hl'
     refine⟨_,hs,Bb hd hk fun y hy=>?_⟩
     simp only[Den]at hy ⊢
     obtain⟨zs,rfl,hz⟩:=hy
     exact⟨zs,rfl,A_ hz hp (fun _ _ h=>by cases h) (fun y hy=>by simpa only[Den]using hy) (by simp only[Den];exact⟨none,0,rfl,au _,.inl rfl⟩) hl'⟩
    ·exact⟨σ,hs,hd⟩
   ·exact⟨σ,hs,hd⟩
  ·exact⟨σ,hs,hd⟩
 | .tP i off sz,_,σ,vs,kb,xs,hs,hd=>by
  simp only[k8]
  split
  ·rename_i l hl
   split
   ·rename_i hk
    split
    ·rename_i l' hl'
     have hi2:=hs.inv
     obtain⟨r,hr⟩:∃ r,σ[i]? =some r:=⟨_,bz (by rw[hi2.len];exact(bO.1 hl).1)⟩
     obtain⟨arr,ty',h1,h2⟩:=hi2.obj i r _ hr hl
     have dR:=hi2.set (o':=.cells l') hr hl rfl rfl rfl rfl (fun _ _=>rfl) (fun b hb=>hb) ⟨arr,ty',h1,A_ h2 hk (fun _ _ h=>by cases h) (fun y hy=>by simpa only[Den]using hy) (by simp only[Den];exact⟨none,0,rfl,au _,.inl rfl⟩) hl'⟩
     exact⟨_,hs.trans dR,hd⟩
    ·exact⟨σ,hs,hd⟩
   ·exact⟨σ,hs,hd⟩
  ·exact⟨σ,hs,hd⟩
 | .mv i off,_,σ,vs,kb,xs,hs,hd=>by
  simp only[k8]
  split
  ·rename_i l hl
   split
   ·rename_i j lo hi hk
    split
    ·rename_i ty sz L hj
     split
     ·rename_i l' hl'
      obtain⟨r,hr,hst⟩:=hs.inv.Rb hj
      have hi2:=hst.inv
      have hne:i≠j:=fun e=>by subst e;rw[hl]at hj;cases hj
      have hlt:i<kb.length:=(bO.1 hl).1
      have hkb:(kb.set j .dead++[KO.row ty sz L])[i]? =some (.cells l):=by
       rw[dX (by simpa using hlt),gE (Ne.symm hne)];exact hl
      obtain⟨ri,fP⟩:∃ ri,(σ++[r])[i]? =some ri:=⟨_,bz (by rw[hi2.len];simp;omega)⟩
      obtain⟨arr,ty',h1,h2⟩:=hi2.obj i ri _ fP hkb
      have dR:=hi2.set (o':=.cells l') fP hkb rfl rfl rfl rfl (fun _ _=>rfl) (fun b hb=>hb) ⟨arr,ty',h1,F9 h2 hk (fun _ _ h=>by cases h) (fun y hy=>N2 hs.inv.len hr hy) hl'⟩
      exact⟨_,hs.trans (hst.trans dR),aq.mono (EH.le.refl E) hd⟩
     ·exact⟨σ,hs,hd⟩
    ·exact⟨σ,hs,hd⟩
   ·exact⟨σ,hs,hd⟩
  ·exact⟨σ,hs,hd⟩
 | .Rh k,_,σ,vs,kb,xs,hs,hd=>by
  simp only[k8]
  split
  ·rename_i j lo hi hk
   split
   ·rename_i ty sz L hj
    obtain⟨r,hr,hst⟩:=hs.inv.Rb hj
    exact⟨_,hs.trans hst,Bb (aq.mono (EH.le.refl E) hd) hk (fun y hy=>N2 hs.inv.len hr hy)⟩
   ·exact⟨σ,hs,hd⟩
  ·exact⟨σ,hs,hd⟩
 | .Rg i off,_,σ,vs,kb,xs,hs,hd=>by
  simp only[k8]
  split
  ·rename_i l hl
   split
   ·rename_i v hk
    split
    ·rename_i j u hu
     split
     ·rename_i o hj
      split
      ·rename_i l' hl'
       split
       ·exact⟨σ,hs,hd⟩
       ·rename_i hne
        obtain⟨r,hr,hst⟩:=hs.inv.abo hj
        have hi2:=hst.inv
        have hlt:i<kb.length:=(bO.1 hl).1
        have hkb:(kb.set j .dead++[o])[i]? =some (.cells l):=by
         rw[dX (by simpa using hlt),gE (Ne.symm hne)];exact hl
        obtain⟨ri,fP⟩:∃ ri,(σ++[r])[i]? =some ri:=⟨_,bz (by rw[hi2.len];simp;omega)⟩
        obtain⟨arr,ty',h1,h2⟩:=hi2.obj i ri _ fP hkb
        have hna:∀ m cs,v≠.arr m cs:=fun m cs e=>by subst e;simp [C0]at hu
        have dR:=hi2.set (o':=.cells l') fP hkb rfl rfl rfl rfl (fun _ _=>rfl) (fun b hb=>hb) ⟨arr,ty',h1,F9 h2 hk hna (fun y hy=>aer hs.inv.len hu hr hy) hl'⟩
        exact⟨_,hs.trans (hst.trans dR),aq.mono (EH.le.refl E) hd⟩
      ·exact⟨σ,hs,hd⟩
     ·exact⟨σ,hs,hd⟩
    ·exact⟨σ,hs,hd⟩
   ·exact⟨σ,hs,hd⟩
  ·exact⟨σ,hs,hd⟩
 | .qh k,hno,_,_,_,_,_,_=>by cases hno
 | .ql ..,hno,_,_,_,_,_,_=>by cases hno
 | .oK ..,hno,_,_,_,_,_,_=>by cases hno
 | .kill i,_,σ,vs,kb,xs,hs,hd=>by
  simp only[k8]
  split
  ·rename_i o ho
   have hi2:=hs.inv
   obtain⟨r,hr⟩:∃ r,σ[i]? =some r:=⟨_,bz (by rw[hi2.len];exact(bO.1 ho).1)⟩
   have dR:=hi2.set (o':=.dead) hr ho rfl rfl rfl rfl (fun _ _=>rfl) (fun b hb=>hb.elim) trivial
   exact⟨_,hs.trans dR,hd⟩
  ·exact⟨σ,hs,hd⟩
theorem abw {c:Cx} {E:EH} {W:World}:∀(d:jG) {σ:Sg} {vs:List V} {kb:KB} {xs:List Value},Step c.σ c.E c.kb c.W σ E kb W->aq σ E vs xs->∃ σ' E',Step c.σ c.E c.kb c.W σ' E' (k8 d (vs,kb)).2 W/\aq σ' E' (k8 d (vs,kb)).1 xs/\E.le E':=fun d σ vs kb xs hs hd=>by
 have uI:∀{σ:Sg} {E:EH} {kb:KB} {i off:Nat} {l l':List V} {v u:V} {vs:List V} {xs:List Value},Step c.σ c.E c.kb c.W σ E kb W->kb[i]? =some (.cells l)->je l off=some v->(∀ m cs,v≠.arr m cs)->(∀ y,Den σ E v y->Den σ E u y)->jp l off [u]=some l'->aq σ E vs xs->Step c.σ c.E c.kb c.W σ E (kb.set i (KO.cells l')) W/\aq σ E vs xs:=by
  intro σ E kb i off l l' v u vs xs hs hl hk hna hu hl' hd
  have hi2:=hs.inv
  obtain⟨r,hr⟩:∃ r,σ[i]? =some r:=⟨_,bz (by rw[hi2.len];exact(bO.1 hl).1)⟩
  obtain⟨arr,ty',h1,h2⟩:=hi2.obj i r _ hr hl
  have dR:=hi2.set (o':=.cells l') hr hl rfl rfl rfl rfl (fun _ _=>rfl) (fun b hb=>hb) ⟨arr,ty',h1,F9 h2 hk hna hu hl'⟩
  exact⟨hs.trans dR,hd⟩
 cases hch:d.FO with
 |false=>
  obtain⟨σ',h1,h2⟩:=abx d hch hs hd
  exact⟨σ',E,h1,h2,EH.le.refl E⟩
 |true=>
 cases d<;>simp only[jG.FO,Bool.false_eq_true]at hch
 ·rename_i k
  simp only[k8]
  split
  ·rename_i i hk
   split
   ·rename_i l hl
    split
    ·rename_i ds hds
     have hi2:=hs.inv
     obtain⟨r,hr⟩:∃ r,σ[i]? =some r:=⟨_,bz (by rw[hi2.len];exact(bO.1 hl).1)⟩
     obtain⟨E',hst,fl⟩:=hi2.O2 hr hl hds
     have hd':=aq.mono (τ:=[]) hst.le hd
     rw[fu]at hd'
     refine⟨σ,E',hs.trans hst,Bb hd' hk (fun y hy=>?_),hst.le⟩
     simp only[Den]at hy ⊢
     obtain⟨r',h1,rfl⟩:=hy
     rw[hr]at h1;cases h1
     exact⟨r.blk,0,rfl,fl⟩
    ·exact⟨σ,E,hs,hd,EH.le.refl E⟩
   ·exact⟨σ,E,hs,hd,EH.le.refl E⟩
  ·exact⟨σ,E,hs,hd,EH.le.refl E⟩
 ·rename_i i off
  simp only[k8]
  split
  ·rename_i l hl
   split
   ·rename_i hk
    split
    ·rename_i l' hl'
     obtain⟨h1,h2⟩:=uI (u:=.af none) hs hl hk (fun _ _ h=>by cases h) (fun y hy=>by simp only[Den]at hy ⊢;exact .inl ⟨rfl,hy⟩) hl' hd
     exact⟨σ,E,h1,h2,EH.le.refl E⟩
    ·exact⟨σ,E,hs,hd,EH.le.refl E⟩
   ·rename_i j hk
    split
    ·rename_i m hm
     split
     ·rename_i ds hds
      split
      ·rename_i l' hl'
       split
       ·exact⟨σ,E,hs,hd,EH.le.refl E⟩
       ·rename_i hne
        have hi2:=hs.inv
        obtain⟨r,hr⟩:∃ r,σ[j]? =some r:=⟨_,bz (by rw[hi2.len];exact(bO.1 hm).1)⟩
        obtain⟨E',hst,fl⟩:=hi2.O2 hr hm hds
        have hd':=aq.mono (τ:=[]) hst.le hd
        rw[fu]at hd'
        have hl2:(kb.set j .dead)[i]? =some (.cells l):=by rw[gE (Ne.symm hne)];exact hl
        obtain⟨h1,h2⟩:=uI (u:=.af (some ds)) (hs.trans hst) hl2 hk (fun _ _ h=>by cases h) (fun y hy=>by
         simp only[Den]at hy ⊢
         obtain⟨r',h1,rfl⟩:=hy
         rw[hr]at h1;cases h1
         exact .inr ⟨ds,r.blk,rfl,rfl,fl⟩) hl' hd'
        exact⟨σ,E',h1,h2,hst.le⟩
      ·exact⟨σ,E,hs,hd,EH.le.refl E⟩
     ·exact⟨σ,E,hs,hd,EH.le.refl E⟩
    ·exact⟨σ,E,hs,hd,EH.le.refl E⟩
   ·exact⟨σ,E,hs,hd,EH.le.refl E⟩
  ·exact⟨σ,E,hs,hd,EH.le.refl E⟩
 ·rename_i i off ay aS agg sz
  simp only[k8]
  split
  ·rename_i l hl
   split
   ·rename_i hk
    split
    ·rename_i l' hl'
     obtain⟨h1,h2⟩:=uI (u:=.imp ay aS agg sz []) hs hl hk (fun _ _ h=>by cases h) (fun y hy=>by simp only[Den]at hy ⊢;exact⟨none,hy,rfl⟩) hl' hd
     exact⟨σ,E,h1,h2,EH.le.refl E⟩
    ·exact⟨σ,E,hs,hd,EH.le.refl E⟩
   ·rename_i j hk
    split
    ·rename_i aaN aaI W_ sz' m hm
     split
     ·rename_i l' hl'
      split
      ·exact⟨σ,E,hs,hd,EH.le.refl E⟩
      ·rename_i hne
       have hi2:=hs.inv
       obtain⟨r,hr⟩:∃ r,σ[j]? =some r:=⟨_,bz (by rw[hi2.len];exact(bO.1 hm).1)⟩
       obtain⟨E',hst,fl⟩:=hi2.Zb hr hm
       have hd':=aq.mono (τ:=[]) hst.le hd
       rw[fu]at hd'
       have hl2:(kb.set j .dead)[i]? =some (.cells l):=by rw[gE (Ne.symm hne)];exact hl
       obtain⟨h1,h2⟩:=uI (u:=.imp aaN aaI W_ sz' m) (hs.trans hst) hl2 hk (fun _ _ h=>by cases h) (fun y hy=>by
        simp only[Den]at hy ⊢
        obtain⟨r',h1,rfl⟩:=hy
        rw[hr]at h1;cases h1
        exact⟨some r.blk,rfl,fl⟩) hl' hd'
       exact⟨σ,E',h1,h2,hst.le⟩
     ·exact⟨σ,E,hs,hd,EH.le.refl E⟩
    ·exact⟨σ,E,hs,hd,EH.le.refl E⟩
   ·exact⟨σ,E,hs,hd,EH.le.refl E⟩
  ·exact⟨σ,E,hs,hd,EH.le.refl E⟩
theorem yC {c:Cx} {W:World}:∀(ds:List jG) {E:EH} {σ:Sg} {s:List V×KB} {xs:List Value},Step c.σ c.E c.kb c.W σ E s.2 W->aq σ E s.1 xs->∃ σ' E',Step c.σ c.E c.kb c.W σ' E' (pF ds s).2 W/\aq σ' E' (pF ds s).1 xs/\E.le E'
 | [],E,σ,s,xs,hs,hd=>⟨σ,E,hs,hd,EH.le.refl E⟩
 |d::ds,E,σ,s,xs,hs,hd=>by
  obtain⟨σ',E',h1,h2,h3⟩:=abw d hs hd
  obtain⟨σ2,E2,h4,h5,h6⟩:=yC ds h1 h2
  exact⟨σ2,E2,h4,h5,h3.trans h6⟩
structure At (li:LI) (s:List V×KB):Prop where
 has:∃ i,s=li.st i
structure Nx (li:LI) (i:li.α) (s:List V×KB):Prop where
 has:∃ j,s=li.st j/\li.μ j<li.μ i
theorem At.mk' {li:LI} {s:List V×KB} (i:li.α) (h:s=li.st i):At li s:=⟨i,h⟩
theorem Nx.mk' {li:LI} {i:li.α} {s:List V×KB} (j:li.α) (h:s=li.st j) (k:li.μ j<li.μ i):Nx li i s:=⟨j,h,k⟩
def pX (n0:Nat) (dV:List jG) (live:List Nat) (fr:Fr) (kb:KB) (R:List V×KB->Prop):Prop:=
 match yu fr live with
 |some vals=>match canon n0 vals kb with
  |some (vs,kb',_)=>match dV with
   | []=>R (vs,kb')
   |d::ds=>match canon n0 (pF (d::ds) (vs,kb')).1 (pF (d::ds) (vs,kb')).2 with
    |some (vs2,bF,_)=>R (vs2,bF)
    |none=>False
  |none=>False
 |none=>False
def iter (R:(Exit->Fr->KB->Prop)->Fr->KB->Prop) (Q:Exit->Fr->KB->Prop):Nat->Fr->KB->Prop
 | 0,_,_=>False
 |m+1,fr,kb=>R (fun e fr kb=>match e with | .normal=>iter R Q m fr kb | e=>Q e fr kb) fr kb
structure Eb (c:Cx) (n:Nat) (Q:Exit->Fr->KB->Prop) (Q':Exit->Act->World->Prop):Prop where
 hat:∀ e a W,jr c n (Q e) a W->Q' e a W
 nV:∀ ch a a' w,Q' (.panic ch) a w->Q' (.panic ch) a' w
theorem QS {σ:Sg} {E:EH} {fr:Fr} {n:Nat} {a:Act} (h:eG σ E fr n a):∀{live:List Nat} {vals:List V},yu fr live=some vals->∃ xs:List Value,aq σ E vals xs/\xs.length=live.length/\∀(k t:Nat) (x:Value),live[k]? =some t->xs[k]? =some x->a.tmps[t]? =some x
 | [],vals,hv=>by simp only[yu,bc.injEq]at hv;subst hv;exact⟨[],.nil,rfl,by simp⟩
 |t::ts,vals,hv=>by
  simp only[yu]at hv
  split at hv<;>try (cases hv;done)
  rename_i v hl
  split at hv<;>try (cases hv;done)
  rename_i vs hvs
  cases hv
  obtain⟨x,h1,h2⟩:=h.get t v hl
  obtain⟨xs,h3,h4,h5⟩:=QS h hvs
  refine⟨x::xs,.cons h2 h3,by simp [h4],fun k u y hk hy=>?_⟩
  cases k with
  |zero=>simp at hk hy;subst hk;subst hy;exact h1
  |succ k=>exact h5 k u y (by simpa using hk) (by simpa using hy)
theorem Iv {σ:Sg} {E:EH}:∀{live:List Nat} {vs:List V} {xs:List Value},aq σ E vs xs->∀{t:Nat} {v:V},look (live.zip vs) t=some v->∃(k:Nat) (x:Value),live[k]? =some t/\xs[k]? =some x/\Den σ E v x
 | [],_,_,_,t,v,h=>by simp [look]at h
 |u::live,[],_,_,t,v,h=>by simp [look]at h
 |u::live,w::vs,xs,hd,t,v,h=>by
  simp only[aq]at hd
  obtain⟨x,xs',rfl,h1,h2⟩:=hd
  simp only[List.zip_cons_cons,look]at h
  split at h
  ·rename_i hb
   have:=cP hb
   subst this
   cases h
   exact⟨0,x,rfl,rfl,h1⟩
  ·obtain⟨k,y,k1,k2,k3⟩:=Iv h2 h
   exact⟨k+1,y,by simpa using k1,by simpa using k2,k3⟩
theorem xA {c:Cx} {dV:List jG} {live:List Nat} {fr:Fr} {kb:KB} {R:List V×KB->Prop} (h:pX c.σ.length dV live fr kb R) {σ:Sg} {E:EH} {n:Nat} {a:Act} {W:World} (hs:Step c.σ c.E c.kb c.W σ E kb W) (hf:eG σ E fr n a):
  ∃ s,R s/\jr c n (fun fr' kb'=>fr'=live.zip s.1/\kb'=s.2) a W:=by
 unfold pX at h
 split at h<;>try exact h.elim
 rename_i vals aax
 split at h<;>try exact h.elim
 rename_i vs kb' o hc
 obtain⟨xs,h1,h2,h3⟩:=QS hf aax
 obtain⟨σ',h4,h5⟩:=hs.sel hc h1
 split at h
 ·refine⟨(vs,kb'),h,σ',E,live.zip vs,kb',h4,⟨hf.size,hf.defers,fun t v hv=>?_⟩,rfl,rfl⟩
  obtain⟨k,x,k1,k2,k3⟩:=Iv h5 hv
  exact⟨x,h3 k t x k1 k2,k3⟩
 ·rename_i d ds
  split at h<;>try exact h.elim
  rename_i vs2 bF o2 gM
  obtain⟨σ2,E2,h6,h7,vH⟩:=yC (c:=c) (d::ds) (s:=(vs,kb')) h4 h5
  obtain⟨σ3,h8,h9⟩:=h6.sel gM h7
  refine⟨(vs2,bF),h,σ3,E2,live.zip vs2,bF,h8,⟨hf.size,hf.defers.mono vH,fun t v hv=>?_⟩,rfl,rfl⟩
  obtain⟨k,x,k1,k2,k3⟩:=Iv h9 hv
  exact⟨x,h3 k t x k1 k2,k3⟩
abbrev FW (r:Option Nat):Fence:={Fence.wide with round:=r }
theorem XL {r:Option Nat} {n:Nat} {P:Program} {f:FuncId} {args:Array Value} {w:World} {R:Ending->World->Prop} (h:Calls P f args w R):CallsIn (FW r) n P f args w R:=
 (callsIn_wide (n:=n)).2 h
theorem aey {r:Option Nat} {n:Nat} {P:Program} {row:String} {args:Array Value} {w:World} {R:Value->World->Prop} (h:Rows P row args w R):RowsIn (FW r) n P row args w R:=
 fun c cs _=>let ⟨v,w',q,s⟩:=h c cs;⟨v,w',q,(stepsIn_wide (P:=P)).2 s⟩
theorem CM {r:Option Nat} {n:Nat} {P:Program} {o:Oper} {a:Act} {w:World} {next:Act->World->Prop} {Q:Exit->Act->World->Prop} (hnd:∀ c,o.op≠.defer c) (h:o.wp P a w next Q):o.wpIn (FW r) n P a w next Q:=by
 refine⟨fun _ _=>trivial,?_⟩
 show o.uponIn (FW r) n P a next Q ((o.semAt r a.eval).run P w)
 rw[Oper.semAt_eq r a.eval o hnd]
 unfold Oper.wp at h
 generalize (execOp a.eval o).run P w=res at h
 cases res with
 |ok x w'=>
  cases x with
  |value v=>exact h
  |skip=>exact h
  |defer d=>exact h
  |enter f args=>exact⟨fun q=>(by cases q),XL h⟩
  |row row args=>exact⟨fun q=>(by cases q),aey h⟩
  |round l f tmps assign body=>exact h.elim
  |_=>exact h.elim
 |halt x w'=>
  cases x with
  |panic v=>exact h
  |_=>exact h.elim
def IY (ops:Array Oper):Bool:=ops.toList.all fun o=>match o.op with | .defer _=>false | _=>true
theorem Rv {ops:Array Oper} (h:IY ops=true):∀ o∈ops.toList,∀ c,o.op≠.defer c:=fun o ho c e=>by
 have:=List.all_eq_true.1 h o ho
 rw[e]at this
 cases this
theorem QQ {r:Option Nat} {n:Nat} {P:Program} {ops:Array Oper} {Q:Exit->Act->World->Prop} (hout:¬ LetsOut Q):∀{l:List Oper},(∀ o∈l,∀ c,o.op≠.defer c)->∀{a:Act} {w:World},wpList P ops Q l a w->wpListIn (FW r) n P ops Q l a w
 | [],_,a,w,h=>h
 |o::l,hl,a,w,h=>by
  have ih:∀ a w,wpList P ops Q l a w->wpListIn (FW r) n P ops Q l a w:=fun a w=>QQ hout (fun o ho=>hl o (f_ _ ho))
  simp only[wpList]at h
  simp only[wpListIn]
  split
  ·rename_i hw
   rw[if_pos hw]at h
   rcases h with h | ⟨_,h⟩
   ·exact Oper.wpIn_mono ih (CM (hl o iB) h)
   ·exact absurd h hout
  ·rename_i hw
   rw[if_neg hw]at h
   exact⟨fun _ _=>trivial,ih _ _ h⟩
theorem adc {r:Option Nat} {n:Nat} {P:Program} {ops:Array Oper} {Q:Exit->Act->World->Prop} (hout:¬ LetsOut Q) (hd:∀ o∈ops.toList,∀ c,o.op≠.defer c) {i:Nat} {K K':Act->World->Prop} (hK:∀ a w,K a w->K' a w) {a:Act} {w:World} (h:wpOp P ops Q i K a w):wpOpIn (FW r) n P ops Q i K' a w:=by
 unfold wpOp at h
 unfold wpOpIn
 split at h
 ·rename_i ho;rw[ho];exact hK _ _ h
 ·rename_i o ho
  rw[ho]
  have hm:o∈ops.toList:=by
   obtain⟨hlt,rfl⟩:=Array.getElem?_eq_some_iff.1 ho
   simp
  simp only
  split
  ·rename_i hw
   rw[if_pos hw]at h
   rcases h with h | ⟨_,h⟩
   ·exact Oper.wpIn_mono hK (CM (hd o hm) h)
   ·exact absurd h hout
  ·rename_i hw
   rw[if_neg hw]at h
   exact⟨fun _ _=>trivial,hK _ _ h⟩
theorem MU {r:Option Nat} {n:Nat} {P:Program} {md:Region.Mode} {ops:Array Oper} {Q:Exit->Act->World->Prop} (hout:¬ LetsOut Q) (hd:∀ o∈ops.toList,∀ c,o.op≠.defer c):∀{fuel:Nat} {listed:Array Bool} {a:Act} {w:World},wpAny P md ops Q fuel listed a w->wpAnyIn (FW r) n P md ops Q fuel listed a w
 | 0,listed,a,w,h=>h
 |fuel+1,listed,a,w,h=>⟨h.1,fun i hi=>adc hout hd (fun a w h=>MU hout hd h) (h.2 i hi)⟩
def qz (P:Program) (fr:Fr) (kb:KB):List ResultVar->(List V->Prop)->Prop
 | [],K=>K []
 | .tmp t::rs,K=>match look fr t with | some v=>qz P fr kb rs (fun vs=>K (v::vs)) | none=>False
 | .cell t ty::rs,K=>match look fr t with | some ad=>nq P ty ad kb (fun v=>qz P fr kb rs (fun vs=>K (v::vs))) | none=>False
def te:List V->V
 | [v]=>v
 |vs=> .χ vs
def fin (P:Program) (fn:Func) (K:V->KB->Prop):Exit->Fr->KB->Prop
 | .normal,fr,kb=>qz P fr kb fn.results.toList (fun vs=>K (te vs) kb)
 | .ret,fr,kb=>qz P fr kb fn.results.toList (fun vs=>K (te vs) kb)
 |_,_,_=>False
theorem JT {P:Program} {fr:Fr} {kb:KB} {σ:Sg} {E:EH} {n:Nat} {a:Act} (hf:eG σ E fr n a) {W:World} (hi:Inv σ E kb W):∀{rs:List ResultVar} {K:List V->Prop},qz P fr kb rs K->
  ∃ vs xs,K vs/\aq σ E vs xs/\(rs.mapM (m:=Sem) fun | .tmp t=>pure (a.tmps.getD t undef) | .cell t ty=>do loadVar ty (<- asAddr (a.tmps.getD t undef))).run P W= .ok xs W
 | [],K,h=>⟨[],[],h,.nil,by simp⟩
 | .tmp t::rs,K,h=>by
  simp only[qz]at h
  split at h<;>try exact h.elim
  rename_i v hv
  obtain⟨x,h1,h2⟩:=hf.get t v hv
  obtain⟨vs,xs,h3,h4,h5⟩:=JT hf hi h
  refine⟨_,x::xs,h3,.cons h2 h4,?_⟩
  rw[List.mapM_cons,Sem.run_bind,Sem.run_pure,Result.andThen_ok,Sem.run_bind,h5,Result.andThen_ok]
  simp [Array.getD_eq_getD_getElem?,h1]
 | .cell t ty::rs,K,h=>by
  simp only[qz]at h
  split at h<;>try exact h.elim
  rename_i ad had
  obtain⟨x,h1,h2⟩:=hf.get t ad had
  obtain⟨v,y,h6,h7,h8⟩:=Is h hi h2
  obtain⟨vs,xs,h3,h4,h5⟩:=JT hf hi h8
  refine⟨_,y::xs,h3,.cons h7 h4,?_⟩
  have hx:a.tmps.getD t undef=x:=by simp [Array.getD_eq_getD_getElem?,h1]
  have aal:(do loadVar ty (<- asAddr x):Sem Value).run P W= .ok y W:=by
   unfold Instr.loadAt at h6
   cases x with
   |pointer p=>cases p with
    |some p=>simpa [Instr.sureAddr,asAddr]using h6
    |none=>simp [Instr.sureAddr]at h6
   |_=>simp [Instr.sureAddr]at h6
  rw[List.mapM_cons,Sem.run_bind]
  simp only[hx]
  rw[aal,Result.andThen_ok,Sem.run_bind,h5,Result.andThen_ok]
  simp
def sx:Nat->List V->Fr
 |_,[]=>[]
 |k,v::vs=>(k,v)::sx (k+1) vs
theorem Iu {σ:Sg} {E:EH}:∀{vs:List V} {xs:List Value} (k:Nat),aq σ E vs xs->∀{t:Nat} {v:V},look (sx k vs) t=some v->∃ x,k<=t/\xs[t - k]? =some x/\Den σ E v x
 | [],_,k,_,t,v,h=>by simp [sx,look]at h
 |w::vs,xs,k,hd,t,v,h=>by
  simp only[aq]at hd
  obtain⟨x,xs',rfl,h1,h2⟩:=hd
  simp only[sx,look]at h
  split at h
  ·rename_i hb
   have:=cP hb
   subst this
   cases h
   exact⟨x,au _,by simp,h1⟩
  ·obtain⟨y,h3,h4,h5⟩:=Iu (k+1) h2 h
   exact⟨y,by omega,by rw[show t - k=(t - (k+1))+1 by omega];simpa using h4,h5⟩
theorem OF {P:Program} {fn:Func} {fr:Fr} {kb:KB} {K:V->KB->Prop} {σ:Sg} {E:EH} {n:Nat} {a:Act} {W:World} (hf:eG σ E fr n a) (hi:Inv σ E kb W) (h:qz P fr kb fn.results.toList (fun vs=>K (te vs) kb)):
  ∃ v r,(results fn a.tmps).run P W= .ok v W/\Den σ E r v/\K r kb:=by
 obtain⟨vs,ys,h1,h2,h3⟩:=JT hf hi h
 have hrun:(results fn a.tmps).run P W= .ok (if h:ys.toArray.size=1 then ys.toArray[0]else .tuple ys.toArray) W:=by
  unfold results
  rw[Sem.run_bind,Array.mapM_eq_mapM_toList]
  simp only[Sem.run_map]
  exact(congrArg (fun z=>Result.andThen (Result.andThen z (fun(a:List Value) w'=>Result.ok a.toArray w')) (fun(a:Array Value) w'=>Sem.run P (pure (if h:a.size=1 then a[0]else Value.tuple a)) w')) h3).trans rfl
 refine⟨_,te vs,hrun,?_,h1⟩
 match vs,ys,h2 with
 | [v],ys,h2=>
  simp only[aq]at h2
  obtain⟨x,xs',rfl,h4,rfl⟩:=h2
  exact h4
 | [],ys,h2=>
  simp only[aq]at h2
  subst h2
  simp [te,Den,aq]
 |v::w::vs,ys,h2=>
  have hl:=h2.len
  have:¬ ys.toArray.size=1:=by simp [hl]
  rw[dif_neg this]
  simp only[te,Den]
  exact⟨ys,rfl,h2⟩
theorem YU {P:Program} {o:Oper} {g:Operand} {args:Array Operand} {ats:Array TypeId} (ho:o.op= .call {callee:=.value g,args:=args,argTypes:=ats }) {a:Act} {W:World} {l:Nat} (hg:a.eval g= .func (.yield l) #[] #[]):
  (execOp a.eval o).run P W=(Instr.yield l (args.map a.eval)).run P W:=by
 have e:execOp a.eval o=(do let d <- resolve a.eval {callee:=.value g,args:=args,argTypes:=ats } o.type;invoke d.target d.args):=by unfold execOp;rw[ho]
 have r:resolve a.eval {callee:=.value g,args:=args,argTypes:=ats } o.type=pure {target:=.fn (.yield l) #[],args:=args.map a.eval }:=by
  unfold resolve
  simp only[hg,Deferred.ofValue,Array.empty_append]
 rw[e,r,Sem.run_bind]
 simp [invoke,Result.andThen]
def lU (P:Program) (X:bN) (n:Nat):Code->(Exit->Fr->KB->Prop)->Fr->KB->Prop
 | .skip,Q,fr,kb=>Q .normal fr kb
 | .label _,Q,fr,kb=>Q .normal fr kb
 | .region _ ops false,Q,fr,kb=>match Region.noSelect ops,IY ops with
  |true,true=>wx P X n ops ops.toList (Q .normal) fr kb
  |_,_=>False
 | .region _ ops true,Q,fr,kb=>match Region.noSelect ops,Bh ops,IY ops with
  |true,true,true=>mB P X n ops (jf P ops 0 ops.size) ops.size 0 [] (Q .normal) fr kb
  |_,_,_=>False
 | .seq x y,Q,fr,kb=>lU P X n x (fun e fr kb=>match e with | .normal=>lU P X n y Q fr kb | e=>Q e fr kb) fr kb
 | .cond c x y,Q,fr,kb=>match ev fr c with
  |some .tt=>lU P X n x Q fr kb
  |some .ff=>lU P X n y Q fr kb
  |some (.sb b)=>(b=true->lU P X n x Q fr kb)/\(b=false->lU P X n y Q fr kb)
  |_=>False
 | .block id x,Q,fr,kb=>lU P X n x (fun e fr kb=>match e with
  | .exit i=>match cq i id with | true=>Q .normal fr kb | false=>Q (.exit i) fr kb
  |e=>Q e fr kb) fr kb
 | .exit id,Q,fr,kb=>Q (.exit id) fr kb
 |_,_,_,_=>False
theorem rV {P:Program} {X:bN} (hX:b9 P X) (hm:P.follows .mixedOrders=true) {c:Cx} {n:Nat} {r:Option Nat}:∀(code:Code) {Q:Exit->Fr->KB->Prop} {Q':Exit->Act->World->Prop},Eb c n Q Q'->¬ LetsOut Q'->∀{a:Act} {W:World},
  jr c n (lU P X n code Q) a W->code.wpIn (FW r) 0 P Q' a W
 | .skip,Q,Q',hQ,ho,a,W,h=>wpIn_skip (hQ.hat _ _ _ h)
 | .label _,Q,Q',hQ,ho,a,W,h=>wpIn_label (hQ.hat _ _ _ h)
 | .region id ops false,Q,Q',hQ,ho,a,W,h=>by
  obtain⟨σ,E,fr,kb,hs,hf,h⟩:=h
  simp only[lU]at h
  split at h<;>try exact h.elim
  rename_i m9 hnd
  exact wpIn_region_list (QQ ho (Rv hnd) (Df hX (fun a W h=>hQ.hat _ _ _ h) ⟨σ,E,fr,kb,hs,hf,h⟩))
 | .region id ops true,Q,Q',hQ,ho,a,W,h=>by
  obtain⟨σ,E,fr,kb,hs,hf,h⟩:=h
  simp only[lU]at h
  split at h<;>try exact h.elim
  rename_i m9 yb hnd
  refine wpIn_region_any hm (MU ho (Rv hnd) ?_)
  have hd:=(hs.trans (Inv.drew hs.inv))
  exact(Od hX m9 yb (Q:=Q') (K:=Q .normal) (fun a W h=>hQ.hat _ _ _ h) hQ.nV ops.size 0 _ [] fr kb a _ σ E [] ⟨by simp,fun i hi=>by simp [hi]⟩ Closed.empty hd hf (fun r hr=>by cases hr) h).any
 | .seq x y,Q,Q',hQ,ho,a,W,h=>by
  refine wpIn_seq (rV hX hm x (Q':=Exit.then (y.wpIn (FW r) 0 P Q') Q') (Q:=fun e fr kb=>match e with | .normal=>lU P X n y Q fr kb | e=>Q e fr kb) ⟨fun e a W h=>?_,fun ch a a' w h=>hQ.nV ch a a' w h⟩ ho (by
   obtain⟨σ,E,fr,kb,hs,hf,h⟩:=h
   simp only[lU]at h
   exact⟨σ,E,fr,kb,hs,hf,h⟩))
  cases e with
  |normal=>exact rV hX hm y hQ ho h
  |exit id=>exact hQ.hat _ _ _ h
  |goto l=>exact hQ.hat _ _ _ h
  |ret=>exact hQ.hat _ _ _ h
  |panic ch=>exact hQ.hat _ _ _ h
  |outgrown=>exact hQ.hat _ _ _ h
 | .cond o x y,Q,Q',hQ,ho,a,W,h=>by
  obtain⟨σ,E,fr,kb,hs,hf,h⟩:=h
  simp only[lU]at h
  split at h
  ·rename_i hc
   have:=bT hf hc
   simp only[Den]at this
   exact wpIn_cond_true this (rV hX hm x hQ ho ⟨σ,E,fr,kb,hs,hf,h⟩)
  ·rename_i hc
   have:=bT hf hc
   simp only[Den]at this
   exact wpIn_cond_false this (rV hX hm y hQ ho ⟨σ,E,fr,kb,hs,hf,h⟩)
  ·rename_i b hc
   have:=bT hf hc
   simp only[Den]at this
   exact wpIn_cond_split this (fun hb=>rV hX hm x hQ ho ⟨σ,E,fr,kb,hs,hf,h.1 hb⟩) (fun hb=>rV hX hm y hQ ho ⟨σ,E,fr,kb,hs,hf,h.2 hb⟩)
  ·exact h.elim
 | .block id x,Q,Q',hQ,ho,a,W,h=>by
  refine wpIn_block (rV hX hm x (Q':=Exit.inBlock id Q') (Q:=fun e fr kb=>match e with
   | .exit i=>match cq i id with | true=>Q .normal fr kb | false=>Q (.exit i) fr kb
   |e=>Q e fr kb) ⟨fun e a W h=>?_,fun ch a a' w h=>hQ.nV ch a a' w h⟩ ho (by
   obtain⟨σ,E,fr,kb,hs,hf,h⟩:=h
   simp only[lU]at h
   exact⟨σ,E,fr,kb,hs,hf,h⟩))
  cases e with
  |normal=>exact hQ.hat _ _ _ h
  |exit i=>
   simp only[Exit.inBlock]
   simp only at h
   cases hb:cq i id with
   |true=>
    rw[if_pos (cP hb)]
    simp only[hb]at h
    exact hQ.hat _ _ _ h
   |false=>
    rw[if_neg (fun e=>by subst e;simp at hb)]
    simp only[hb]at h
    exact hQ.hat _ _ _ h
  |goto l=>exact hQ.hat _ _ _ h
  |ret=>exact hQ.hat _ _ _ h
  |panic ch=>exact hQ.hat _ _ _ h
  |outgrown=>exact hQ.hat _ _ _ h
 | .loop ..,Q,Q',hQ,ho,a,W,h=>by obtain⟨_,_,_,_,_,_,h⟩:=h;exact h.elim
 | .scope ..,Q,Q',hQ,ho,a,W,h=>by obtain⟨_,_,_,_,_,_,h⟩:=h;exact h.elim
 | .exit _,Q,Q',hQ,ho,a,W,h=>wpIn_exit (hQ.hat _ _ _ h)
 | .ret,Q,Q',hQ,ho,a,W,h=>by obtain⟨_,_,_,_,_,_,h⟩:=h;exact h.elim
 | .goto ..,Q,Q',hQ,ho,a,W,h=>by obtain⟨_,_,_,_,_,_,h⟩:=h;exact h.elim
 | .refuse ..,Q,Q',hQ,ho,a,W,h=>by obtain⟨_,_,_,_,_,_,h⟩:=h;exact h.elim
 | .rangeFunc ..,Q,Q',hQ,ho,a,W,h=>by obtain⟨_,_,_,_,_,_,h⟩:=h;exact h.elim
abbrev pU:=List V->KB->(V->KB->Prop)->Prop
def Jt (P:Program) (X:bN) (yv:Value) (Y:pU) (o:Oper) (fr:Fr) (kb:KB) (K:V->KB->Prop):Prop:=
 match o.op with
 | .call {callee:=.value g,args:=args,argTypes:=_ }=>match ev fr g with
  |some (.any v)=>v=yv/\match evs fr args.toList with
   |some vs=>Y vs kb K
   |none=>False
  |_=>pH P X o fr kb K
 | .defer _=>False
 |_=>pH P X o fr kb K
def xr (P:Program) (c:Cx) (l:Nat) (Y:pU):Prop:=
 ∀ vs kb K σ E W xs,Y vs kb K->Step c.σ c.E c.kb c.W σ E kb W->aq σ E vs xs->YieldAt Fence.wide 0 P l xs.toArray W (fun e W'=>∃ v x σ' E' kb',e= .returned x/\Step σ E kb W σ' E' kb' W'/\Den σ' E' v x/\K v kb')
theorem ado {P:Program} {X:bN} (hX:b9 P X) {c:Cx} {l:Nat} {Y:pU} (hY:xr P c l Y) {o:Oper} {fr:Fr} {kb:KB} {K:V->KB->Prop} (h:Jt P X (.func (.yield l) #[] #[]) Y o fr kb K) {σ:Sg} {E:EH} {n:Nat} {a:Act} (hf:eG σ E fr n a) {W:World} (hs:Step c.σ c.E c.kb c.W σ E kb W) (Q:Exit->Act->World->Prop):
  o.wpIn Fence.wide 0 P a W (u7 σ E kb W a o K) Q:=by
 unfold Jt at h
 split at h
 ·rename_i g args ats ho
  have hnd:∀ c,o.op≠.defer c:=fun c e=>by rw[ho]at e;cases e
  split at h
  ·rename_i v hv
   obtain⟨rfl,h⟩:=h
   split at h<;>try exact h.elim
   rename_i vs hvs
   have hg:=bT hf hv
   simp only[Den]at hg
   have hd:=Bm hf hvs
   obtain⟨GW,tmps,assign,body,hrun,aat⟩:=hY vs kb K σ E W _ h hs hd
   refine⟨fun _ _=>trivial,?_⟩
   show o.uponIn Fence.wide 0 P a _ Q ((o.semAt none a.eval).run P W)
   rw[Oper.semAt_none,YU ho hg]
   have ea:args.map a.eval=(args.toList.map a.eval).toArray:=by apply Array.ext';simp
   rw[ea,hrun]
   refine⟨fun q=>(by cases q),aat.mono ?_⟩
   rintro e W' ⟨v,x,σ',E',kb',rfl,h1,h2,h3⟩
   exact⟨σ',E',kb',v,x,h1,h2,rfl,h3⟩
  ·exact CM (r:=none) hnd (v8 hX h hf hs.inv Q)
 ·exact h.elim
 ·rename_i hnc hnd
  exact CM (r:=none) (fun c e=>hnd c e) (v8 hX h hf hs.inv Q)
def yZ (P:Program) (X:bN) (yv:Value) (Y:pU) (n:Nat) (ops:Array Oper):List Oper->(Fr->KB->Prop)->Fr->KB->Prop
 | [],K,fr,kb=>K fr kb
 |o::rest,K,fr,kb=>sM ops o fr (fun fr=>Jt P X yv Y o fr kb (fun v kb'=>kg n o.dst v fr (fun fr'=>yZ P X yv Y n ops rest K fr' kb')))
  (fun fr=>kg n o.dst (.any undef) fr (fun fr'=>yZ P X yv Y n ops rest K fr' kb))
theorem Kd {P:Program} {X:bN} (hX:b9 P X) {c:Cx} {l:Nat} {Y:pU} (hY:xr P c l Y) {n:Nat} {ops:Array Oper} {Q:Exit->Act->World->Prop} {K:Fr->KB->Prop} (hQ:∀ a W,jr c n K a W->Q .normal a W):
  ∀{os:List Oper} {a:Act} {W:World},jr c n (yZ P X (.func (.yield l) #[] #[]) Y n ops os K) a W->wpListIn Fence.wide 0 P ops Q os a W
 | [],a,W,h=>hQ a W h
 |o::rest,a,W,h=>by
  obtain⟨σ,E,fr,kb,hs,hf,h⟩:=h
  simp only[yZ]at h
  obtain⟨fr',hf',h | h⟩:=vG h hf
  ·unfold wpListIn
   rw[if_pos h.1]
   exact Oper.wpIn_mono (fun a' W' ha=>Kd hX hY hQ (ha.hat hs hf')) (ado hX hY h.2 hf' hs Q)
  ·unfold wpListIn
   rw[if_neg (by simp [h.1])]
   obtain⟨fO,h1,h2⟩:=ny h.2 hf' (σ:=σ) (E:=E) (x:=undef) (by simp [Den])
   exact⟨fun _ _=>trivial,Kd hX hY hQ ⟨σ,E,fO,kb,hs,h1,h2⟩⟩
def nY (P:Program) (X:bN) (yv:Value) (Y:pU) (k9:Option LI) (n0 n:Nat):Code->(Exit->Fr->KB->Prop)->Fr->KB->Prop
 | .skip,Q,fr,kb=>Q .normal fr kb
 | .label _,Q,fr,kb=>Q .normal fr kb
 | .region _ ops false,Q,fr,kb=>yZ P X yv Y n ops ops.toList (Q .normal) fr kb
 | .seq x y,Q,fr,kb=>nY P X yv Y k9 n0 n x (fun e fr kb=>match e with | .normal=>nY P X yv Y k9 n0 n y Q fr kb | e=>Q e fr kb) fr kb
 | .cond c x y,Q,fr,kb=>match ev fr c with
  |some .tt=>nY P X yv Y k9 n0 n x Q fr kb
  |some .ff=>nY P X yv Y k9 n0 n y Q fr kb
  |some (.sb b)=>(b=true->nY P X yv Y k9 n0 n x Q fr kb)/\(b=false->nY P X yv Y k9 n0 n y Q fr kb)
  |_=>False
 | .block id x,Q,fr,kb=>nY P X yv Y k9 n0 n x (fun e fr kb=>match e with
  | .exit i=>match cq i id with | true=>Q .normal fr kb | false=>Q (.exit i) fr kb
  |e=>Q e fr kb) fr kb
 | .loop x,Q,fr,kb=>match k9 with
  |some li=>pX n0 li.dV li.live fr kb (fun s=>At li s/\
   li.all (fun i=>nY P X yv Y k9 n0 n x (fun e fr kb=>match e with
    | .normal=>pX n0 li.dV li.live fr kb (fun s=>Nx li i s)
    |e=>Q e fr kb) (li.live.zip (li.st i).1) (li.st i).2))
  |none=>False
 | .exit id,Q,fr,kb=>Q (.exit id) fr kb
 | .ret,Q,fr,kb=>Q .ret fr kb
 |_,_,_,_=>False
theorem rW {P:Program} {X:bN} (hX:b9 P X) {c:Cx} {l:Nat} {Y:pU} (hY:xr P c l Y) {k9:Option LI} {n:Nat}:∀(code:Code) {Q:Exit->Fr->KB->Prop} {Q':Exit->Act->World->Prop},Eb c n Q Q'->∀{a:Act} {W:World},
  jr c n (nY P X (.func (.yield l) #[] #[]) Y k9 c.σ.length n code Q) a W->code.wp P Q' a W
 | .skip,Q,Q',hQ,a,W,h=>wp_skip (hQ.hat _ _ _ h)
 | .label _,Q,Q',hQ,a,W,h=>wp_label (hQ.hat _ _ _ h)
 | .exit id,Q,Q',hQ,a,W,h=>wp_exit (hQ.hat _ _ _ h)
 | .ret,Q,Q',hQ,a,W,h=>wp_ret (hQ.hat _ _ _ h)
 | .region id ops false,Q,Q',hQ,a,W,h=>wpIn_wide.1 (wpIn_region_list (Kd hX hY (fun a W h=>hQ.hat _ _ _ h) h))
 | .seq x y,Q,Q',hQ,a,W,h=>by
  refine wp_seq (rW hX hY x (Q':=Exit.then (y.wp P Q') Q') (Q:=fun e fr kb=>match e with | .normal=>nY P X (.func (.yield l) #[] #[]) Y k9 c.σ.length n y Q fr kb | e=>Q e fr kb) ⟨fun e a W h=>?_,fun ch a a' w h=>hQ.nV ch a a' w h⟩ h)
  cases e with
  |normal=>exact rW hX hY y hQ h
  |exit id=>exact hQ.hat _ _ _ h
  |goto l=>exact hQ.hat _ _ _ h
  |ret=>exact hQ.hat _ _ _ h
  |panic ch=>exact hQ.hat _ _ _ h
  |outgrown=>exact hQ.hat _ _ _ h
 | .cond o x y,Q,Q',hQ,a,W,h=>by
  obtain⟨σ,E,fr,kb,hs,hf,h⟩:=h
  simp only[nY]at h
  split at h
  ·rename_i hc
   have:=bT hf hc
   simp only[Den]at this
   exact wp_cond_true this (rW hX hY x hQ ⟨σ,E,fr,kb,hs,hf,h⟩)
  ·rename_i hc
   have:=bT hf hc
   simp only[Den]at this
   exact wp_cond_false this (rW hX hY y hQ ⟨σ,E,fr,kb,hs,hf,h⟩)
  ·rename_i b hc
   have:=bT hf hc
   simp only[Den]at this
   exact wp_cond_split this (fun hb=>rW hX hY x hQ ⟨σ,E,fr,kb,hs,hf,h.1 hb⟩) (fun hb=>rW hX hY y hQ ⟨σ,E,fr,kb,hs,hf,h.2 hb⟩)
  ·exact h.elim
 | .block id x,Q,Q',hQ,a,W,h=>by
  refine wp_block (rW hX hY x (Q':=Exit.inBlock id Q') (Q:=fun e fr kb=>match e with
   | .exit i=>match cq i id with | true=>Q .normal fr kb | false=>Q (.exit i) fr kb
   |e=>Q e fr kb) ⟨fun e a W h=>?_,fun ch a a' w h=>hQ.nV ch a a' w h⟩ h)
  cases e with
  |normal=>exact hQ.hat _ _ _ h
  |exit i=>
   simp only[Exit.inBlock]
   simp only at h
   cases hb:cq i id with
   |true=>
    rw[if_pos (cP hb)]
    simp only[hb]at h
    exact hQ.hat _ _ _ h
   |false=>
    rw[if_neg (fun e=>by subst e;simp at hb)]
    simp only[hb]at h
    exact hQ.hat _ _ _ h
  |goto l=>exact hQ.hat _ _ _ h
  |ret=>exact hQ.hat _ _ _ h
  |panic ch=>exact hQ.hat _ _ _ h
  |outgrown=>exact hQ.hat _ _ _ h
 | .loop x,Q,Q',hQ,a,W,h=>by
  obtain⟨σ,E,fr,kb,hs,hf,h⟩:=h
  simp only[nY]at h
  split at h<;>try exact h.elim
  rename_i li
  obtain⟨s,⟨⟨⟨i,rfl⟩⟩,Hk⟩,hh⟩:=xA h hs hf
  refine wp_loop_ghost (fun k a w=>∃ i,li.μ i=k/\jr c n (fun fr' kb'=>fr'=li.live.zip (li.st i).1/\kb'=(li.st i).2) a w) (li.μ i) ⟨i,rfl,hh⟩ ?_
  rintro k a' w' ⟨j,rfl,σ',E',fr',kb',hs',hf',rfl,rfl⟩
  refine rW hX hY x (Q':=Exit.then (fun a' w'=>∃ n',n'<li.μ j/\∃ i,li.μ i=n'/\jr c n (fun fr' kb'=>fr'=li.live.zip (li.st i).1/\kb'=(li.st i).2) a' w') Q') (Q:=fun e fr kb=>match e with
     | .normal=>pX c.σ.length li.dV li.live fr kb (fun s=>Nx li j s)
     |e=>Q e fr kb) ⟨fun e a W h=>?_,fun ch a a' w h=>hQ.nV ch a a' w h⟩ ⟨σ',E',_,_,hs',hf',li.xw _ Hk j⟩
  cases e with
  |normal=>
   obtain⟨σ2,E2,fO,bF,oI,gx,h2⟩:=h
   obtain⟨s,⟨⟨j',rfl,hlt⟩⟩,hh⟩:=xA h2 oI gx
   exact⟨_,hlt,j',rfl,hh⟩
  |exit id=>exact hQ.hat _ _ _ h
  |goto l=>exact hQ.hat _ _ _ h
  |ret=>exact hQ.hat _ _ _ h
  |panic ch=>exact hQ.hat _ _ _ h
  |outgrown=>exact hQ.hat _ _ _ h
 | .region id ops true,Q,Q',hQ,a,W,h=>by obtain⟨_,_,_,_,_,_,h⟩:=h;exact h.elim
 | .scope ..,Q,Q',hQ,a,W,h=>by obtain⟨_,_,_,_,_,_,h⟩:=h;exact h.elim
 | .goto ..,Q,Q',hQ,a,W,h=>by obtain⟨_,_,_,_,_,_,h⟩:=h;exact h.elim
 | .refuse ..,Q,Q',hQ,a,W,h=>by obtain⟨_,_,_,_,_,_,h⟩:=h;exact h.elim
 | .rangeFunc ..,Q,Q',hQ,a,W,h=>by obtain⟨_,_,_,_,_,_,h⟩:=h;exact h.elim
def J4 (P:Program) (X:bN) (yv:Value) (Y:pU) (k9:Option LI) (f:FuncId) (args:List V) (kb:KB) (K:V->KB->Prop):Prop:=
 match P.funcs[f]? with
 |some fn=>match fn.body,Nat.ble args.length fn.ntmps with
  |some code,true=>nY P X yv Y k9 kb.length fn.ntmps code (fin P fn K) (sx 0 args) kb
  |_,_=>False
 |none=>False
theorem aeE {P:Program} {X:bN} (hX:b9 P X) {l:Nat} {Y:pU} {k9:Option LI} {f:FuncId} {args:List V} {kb:KB} {K:V->KB->Prop} (h:J4 P X (.func (.yield l) #[] #[]) Y k9 f args kb K) {σ:Sg} {E:EH} {W:World} {xs:List Value} (hi:Inv σ E kb W)
  (hd:aq σ E args xs) (hY:xr P ⟨σ,E.strip,kb,W⟩ l Y):Calls P f xs.toArray W (fun e W'=>∃ v r σ' E' kb',e= .returned v/\Step σ E kb W σ' E' kb' W'/\Den σ' E' r v/\K r kb'):=by
 unfold J4 at h
 split at h<;>try exact h.elim
 rename_i fn hfn
 split at h<;>try exact h.elim
 rename_i code Ht hb
 have hle:=Nat.le_of_ble_eq_true hb
 rw[<- hd.len]at hle
 rw[<- hi.len]at h
 have hi0:=hi.strip
 have Hx:aq σ E.strip args xs:=by
  have:=aq.du (τ:=[]) E.wC hd
  rwa [fu]at this
 refine callsIn_wide.1 (callsIn_of_wp_marks (n:=0) hfn Ht trivial (wpIn_wide.2 (wp_mono (Q:=fun e a w=>match e with | .panic _=>False | e=>bodyPostM Fence.wide 0 P fn (fun e W'=>∃ v r σ' E' kb',e= .returned v/\Step σ E kb W σ' E' kb' W'/\Den σ' E' r v/\K r kb') e a w) (rW hX (c:=⟨σ,E.strip,kb,W⟩) hY (k9:=k9) (n:=fn.ntmps) code (Q:=fin P fn K) ⟨fun e a' W' hh=>?_,fun ch a a' w hp=>?_⟩ ?_) (fun e a w hq=>?_))))
 ·obtain⟨σ',E',fr',kb',hs,hf,hK⟩:=hh
  have key:qz P fr' kb' fn.results.toList (fun vs=>K (te vs) kb')->LeavesInM Fence.wide 0 P fn a'.tmps (fun e W'=>∃ v r σ' E' kb',e= .returned v/\Step σ E kb W σ' E' kb' W'/\Den σ' E' r v/\K r kb') a'.defers .returning W':=by
   intro hK
   refine Ik a'.defers W' hf.defers.nodup (fun d hd=>?_) (fun W2 e1 e2 e3 e4 e5=>?_)
   ·obtain⟨b,h1,h2⟩:=hf.defers.all d hd
    exact⟨b,h1,hs.inv.dj b _ h2⟩
   ·obtain⟨E2,h1,h2⟩:=Step.Vg hi hs e1 e2 e3 e4 (M:=fun b=>{target:=.collected b,args:=#[] }∈a'.defers) (fun b hb=>by
     obtain⟨b',k1,k2⟩:=hf.defers.all _ hb
     cases k1;exact k2) (fun b hb=>e5 b (fun d hd e=>hb (e ▸ hd)))
    have gx:eG σ' E2 fr' fn.ntmps {a' with defers:=[] }:=⟨hf.size,oz.nil _,fun t v hv=>by
     obtain⟨x,k1,k2⟩:=hf.get t v hv
     refine⟨x,k1,?_⟩
     have:=Den.du (τ:=[]) h2 k2
     rwa [fu]at this⟩
    obtain⟨v,r,k1,k2,k3⟩:=OF gx h1.inv hK
    exact⟨v,k1,v,r,σ',E2,kb',rfl,h1,k2,k3⟩
  cases e with
  |normal=>exact key hK
  |ret=>exact key hK
  |exit id=>exact hK.elim
  |goto l=>exact hK.elim
  |panic ch=>exact hK.elim
  |outgrown=>exact hK.elim
 ·exact hp
 rotate_left
 ·cases e<;>first | exact hq | exact hq.elim
 ·refine⟨σ,E.strip,sx 0 args,kb,Step.refl hi0,⟨by simp;omega,oz.nil _,fun t v hv=>?_⟩,h⟩
  obtain⟨x,_,h2,h3⟩:=Iu 0 Hx hv
  refine⟨x,?_,h3⟩
  have hlt:t<xs.length:=by
   have:=(bO.1 h2).1
   simpa using this
  rw[Array.getElem?_append_left (by simpa using hlt)]
  simpa using h2
def tO (n:Nat):List Nat->List V->Fr->Option Fr
 | [],[],fr=>some fr
 |t::ts,v::vs,fr=>match Nat.blt t n with
  |true=>tO n ts vs ((t,v)::fr)
  |false=>none
 |_,_,_=>none
theorem M4 {σ:Sg} {E:EH} {n:Nat}:∀{ts:List Nat} {vs:List V} {fr sJ:Fr} {xs:List Value} {tmps:Array Value} {ds:List Deferred},tO n ts vs fr=some sJ->aq σ E vs xs->eG σ E fr n {tmps:=tmps,defers:=ds }->
  ts.length=xs.length/\eG σ E sJ n {tmps:=(ts.zip xs).foldl (fun tmps p=>tmps.setIfInBounds p.1 p.2) tmps,defers:=ds }
 | [],[],fr,sJ,xs,tmps,ds,h,hd,hf=>by
  simp only[tO,bc.injEq]at h
  subst h
  simp only[aq]at hd
  subst hd
  exact⟨rfl,hf⟩
 |t::ts,v::vs,fr,sJ,xs,tmps,ds,h,hd,hf=>by
  simp only[aq]at hd
  obtain⟨x,xs',rfl,h1,h2⟩:=hd
  simp only[tO]at h
  split at h<;>try (cases h;done)
  rename_i hb
  have hf':eG σ E ((t,v)::fr) n {tmps:=tmps.setIfInBounds t x,defers:=ds }:=hf.put (of_decide_eq_true (by simpa [Nat.blt_eq]using hb)) h1
  obtain⟨k1,k2⟩:=M4 h h2 hf'
  exact⟨by simp [k1],k2⟩
 | [],_:: _,_,_,_,_,_,h,_,_=>by simp [tO]at h
 |_:: _,[],_,_,_,_,_,h,_,_=>by simp [tO]at h
def JW (P:Program) (X:bN) (n:Nat) (ps:Array Tmp) (assign body:Code) (fr:Fr):pU:=fun vs kb K=>match tO n ps.toList vs fr with
 |some sJ=>lU P X n assign (fun e fO bF=>match e with
  | .normal=>lU P X n body (fun e _ dF=>match e with | .normal=>K .tt dF | _=>False) fO bF
  |_=>False) sJ kb
 |none=>False
theorem Inv.Tc {σ:Sg} {E:EH} {kb:KB} {W:World} (h:Inv σ E kb W) {l:Nat} (hno:¬ ct σ kb l) (hE:E l=none) (o:Obj):Inv σ E kb (W.putObj l o):=
 ⟨h.len,fun i r x h1 h2=>by
  have:=(h.obj i r x h1 h2).mono (τ:=[]) (W':=W.putObj l o) (EH.le.refl E) (fun b hb=>World.putObj_heap_other (fun e=>by subst e;exact hno ⟨i,r,x,h1,h2,hb⟩))
  simpa using this,h.dA,fun b x hb=>by
  rw[World.putObj_heap_other (fun e=>by subst e;rw[hE]at hb;cases hb)]
  exact h.dj b x hb,h.sep⟩
theorem Step.af3 {σ2:Sg} {E2:EH} {bF:KB} {W2:World} {σ3:Sg} {E3:EH} {dF:KB} {W3:World} {u6:Sg} {E4:EH} {um:KB} {W4:World} {l:Nat} {o o1:Obj}
  (SA:Step σ2 E2 bF W2 σ3 E3 dF W3) (SB:Step σ3 E3 dF (W3.putObj l o1) u6 E4 um W4) (hl:W2.heap[l]? =some o) (hno:¬ ct u6 um l) (hE:E4 l=none):Step σ2 E2 bF W2 u6 E4 um (W4.putObj l o):=by
 have hlt:l<W2.heap.size:=(Array.getElem?_eq_some_iff.1 hl).1
 have h1:=SA.bM.size
 have h2:=SB.bM.size
 rw[World.putObj_size]at h2
 refine⟨SB.inv.Tc hno hE o,⟨?_,?_,?_,by rw[World.putObj_size];omega,fun k hk hn=>?_⟩,?_,SA.le.trans SB.le,fun b hb=>?_,fun b x hb=>?_⟩
 ·exact SB.bM.os.trans SA.bM.os
 ·exact SB.bM.tape.trans SA.bM.tape
 ·exact SB.bM.output.trans SA.bM.output
 ·by_cases j_:k=l
  ·subst j_
   rw[World.putObj_heap_same (by omega),hl]
  ·rw[World.putObj_heap_other j_,SB.bM.block k (by rw[World.putObj_size];omega) (fun ho=>(SA.own k ho).elim hn (fun q=>by omega)),World.putObj_heap_other j_]
   exact SA.bM.block k hk hn
 ·obtain⟨τ,rfl⟩:=SA.pre
  obtain⟨Ln,rfl⟩:=SB.pre
  exact⟨τ++Ln,by rw[eH]⟩
 ·rcases SB.own b hb with q | q
  ·exact SA.own b q
  ·rw[World.putObj_size]at q;exact .inr (by omega)
 ·rcases SB.new b x hb with q | q | q
  ·exact SA.new b x q
  ·rcases SA.own b q with q | q
   ·exact .inr (.inl q)
   ·exact .inr (.inr q)
  ·rw[World.putObj_size]at q;exact .inr (.inr (by omega))
theorem aeu {P:Program} {X:bN} (hX:b9 P X) (hm:P.follows .mixedOrders=true) {c:Cx} {l n:Nat} {r:Loop} (hl:c.W.heap[l]? =some (.loop r)) (hno:¬ ct c.σ c.kb l) (hE:c.E l=none) (hr:r.state= .ready) (hp:r.pending=none) {fr:Fr} {ds:List Deferred}
  (hf:eG c.σ c.E fr n {tmps:=r.tmps,defers:=ds }):xr P c l (JW P X n r.params r.assign r.body fr):=by
 intro vs bF K σ2 E2 W2 xs hy oI hd
 have hlt:l<c.W.heap.size:=(Array.getElem?_eq_some_iff.1 hl).1
 have hl2:W2.heap[l]? =some (.loop r):=by rw[oI.bM.block l hlt hno];exact hl
 have HP:¬ ct σ2 bF l:=fun h=>(oI.own l h).elim hno (fun q=>by omega)
 have vH:E2 l=none:=by
  cases h:E2 l with
  |none=>rfl
  |some x=>
   rcases oI.new l x h with k | k | k
   ·rw[hE]at k;cases k
   ·exact(hno k).elim
   ·omega
 have aan:l<W2.heap.size:=(Array.getElem?_eq_some_iff.1 hl2).1
 unfold JW at hy
 split at hy<;>try exact hy.elim
 rename_i sJ hb
 have gx:eG σ2 E2 fr n {tmps:=r.tmps,defers:=[] }:=by
  obtain⟨τ,rfl⟩:=oI.pre
  have:=hf.mono (τ:=τ) oI.le
  exact⟨this.size,oz.nil _,this.get⟩
 obtain⟨hlen,hfr⟩:=M4 hb hd gx
 have YT:(r.params.zip xs.toArray).foldl (fun tmps (x:Tmp×Value)=>tmps.setIfInBounds x.1 x.2) r.tmps=(r.params.toList.zip xs).foldl (fun tmps p=>tmps.setIfInBounds p.1 p.2) r.tmps:=by
  rw[<- Array.foldl_toList]
  simp
 refine⟨r.fn,_,r.assign,r.body,run_yield hl2 (by simpa using hlen.symm),roundIn_of_wpIn (F:=Fence.wide) trivial ?_⟩
 refine rV hX hm (c:=⟨σ2,E2,bF,W2⟩) (n:=n) (r:=some l) r.assign (Q:=fun e fO bF=>match e with
   | .normal=>lU P X n r.body (fun e _ dF=>match e with | .normal=>K .tt dF | _=>False) fO bF
   |_=>False) ⟨fun e a' W3 hh=>?_,fun ch a a' w h=>h⟩ (fun⟨_,_,h⟩=>h) ⟨σ2,E2,sJ,bF,Step.refl oI.inv,?_,hy⟩
 rotate_left
 ·have:=hfr
  rw[<- YT]at this
  exact this
 cases e with
 |normal=>
  obtain⟨σ3,E3,fO,dF,yi,Z9,hh⟩:=hh
  have BI:W3.heap[l]? =some (.loop r):=by rw[yi.bM.block l aan HP];exact hl2
  have vM:¬ ct σ3 dF l:=fun h=>(yi.own l h).elim HP (fun q=>by dsimp only at q;omega)
  have Bz:E3 l=none:=by
   cases h:E3 l with
   |none=>rfl
   |some x=>
    rcases yi.new l x h with k | k | k
    ·dsimp only at k;rw[vH]at k;cases k
    ·exact(HP k).elim
    ·dsimp only at k;omega
  have hlt3:l<W3.heap.size:=(Array.getElem?_eq_some_iff.1 BI).1
  refine⟨_,run_beginRound BI hr,?_⟩
  have hi3:=yi.inv.Tc vM Bz (.loop {r with state:=.busy })
  refine rV hX hm (c:=⟨σ3,E3,dF,W3.putObj l (.loop {r with state:=.busy })⟩) (n:=n) (r:=some l) r.body (Q:=fun e _ dF=>match e with | .normal=>K .tt dF | _=>False) ⟨fun e a5 W4 hh=>?_,fun ch a a' w h=>h⟩ (fun⟨_,_,h⟩=>h) ⟨σ3,E3,fO,dF,Step.refl hi3,Z9,hh⟩
  cases e with
  |normal=>
   obtain⟨u6,E4,fr4,um,hs4,hf4,hK⟩:=hh
   have hsz:l<(W3.putObj l (.loop {r with state:=.busy })).heap.size:=by rw[World.putObj_size];exact hlt3
   have hl4:W4.heap[l]? =some (.loop {r with state:=.busy }):=by
    rw[hs4.bM.block l hsz vM];exact World.putObj_heap_same hlt3
   have aap:¬ ct u6 um l:=fun h=>(hs4.own l h).elim vM (fun q=>by dsimp only at q;omega)
   have ZC:E4 l=none:=by
    cases h:E4 l with
    |none=>rfl
    |some x=>
     rcases hs4.new l x h with k | k | k
     ·dsimp only at k;rw[Bz]at k;cases k
     ·exact(vM k).elim
     ·dsimp only at k;omega
   have er:({r with state:=.ready,pending:=none }:Loop)=r:=by cases r;simp only at hr hp;subst hr;subst hp;rfl
   refine⟨_,_,run_endRound none hl4,.tt,.bool true,u6,E4,um,rfl,?_,by simp only[Den],hK⟩
   show Step σ2 E2 bF W2 u6 E4 um (W4.putObj l (.loop {r with state:=.ready,pending:=none }))
   rw[er]
   exact Step.af3 yi hs4 hl2 aap ZC
  |exit id=>obtain⟨_,_,_,_,_,_,h⟩:=hh;exact h.elim
  |goto l=>obtain⟨_,_,_,_,_,_,h⟩:=hh;exact h.elim
  |ret=>obtain⟨_,_,_,_,_,_,h⟩:=hh;exact h.elim
  |panic ch=>obtain⟨_,_,_,_,_,_,h⟩:=hh;exact h.elim
  |outgrown=>obtain⟨_,_,_,_,_,_,h⟩:=hh;exact h.elim
 |exit id=>obtain⟨_,_,_,_,_,_,h⟩:=hh;exact h.elim
 |goto l=>obtain⟨_,_,_,_,_,_,h⟩:=hh;exact h.elim
 |ret=>obtain⟨_,_,_,_,_,_,h⟩:=hh;exact h.elim
 |panic ch=>obtain⟨_,_,_,_,_,_,h⟩:=hh;exact h.elim
 |outgrown=>obtain⟨_,_,_,_,_,_,h⟩:=hh;exact h.elim
def ik (P:Program) (X:bN):(Nat->Option LI)->Nat->Nat->Code->(Exit->Fr->KB->Prop)->Fr->KB->Prop
 |T,n0,n,.skip,Q,fr,kb=>Q .normal fr kb
 |T,n0,n,.label _,Q,fr,kb=>Q .normal fr kb
 |T,n0,n,.region _ ops false,Q,fr,kb=>match Region.noSelect ops with
  |true=>wx P X n ops ops.toList (Q .normal) fr kb
  |false=>uA P X n ops ops.toList (Q .normal) fr kb
 |T,n0,n,.region _ ops true,Q,fr,kb=>match Region.noSelect ops,Bh ops with
  |true,true=>mB P X n ops (jf P ops 0 ops.size) ops.size 0 [] (Q .normal) fr kb
  |_,_=>False
 |T,n0,n,.seq x y,Q,fr,kb=>match (pg y).bind (fun r=>T (1000+r))with
  |some li=>ik P X T n0 n x (fun e fr kb=>match e with | .normal=>pX n0 li.dV li.live fr kb (fun s=>At li s) | e=>Q e fr kb) fr kb/\
    li.all (fun i=>ik P X (Dv li i T) n0 n y Q (li.live.zip (li.st i).1) (li.st i).2)
  |none=>ik P X T n0 n x (fun e fr kb=>match e with | .normal=>ik P X T n0 n y Q fr kb | e=>Q e fr kb) fr kb
 |T,n0,n,.cond c x y,Q,fr,kb=>match ev fr c with
  |some .tt=>ik P X T n0 n x Q fr kb
  |some .ff=>ik P X T n0 n y Q fr kb
  |some (.sb b)=>(b=true->ik P X T n0 n x Q fr kb)/\(b=false->ik P X T n0 n y Q fr kb)
  |_=>False
 |T,n0,n,.block id x,Q,fr,kb=>ik P X T n0 n x (fun e fr kb=>match e with
  | .exit i=>match cq i id with | true=>Q .normal fr kb | false=>Q (.exit i) fr kb
  |e=>Q e fr kb) fr kb
 |T,n0,n,.loop x,Q,fr,kb=>match (pg x).bind T with
  |some li=>pX n0 li.dV li.live fr kb (fun s=>At li s/\
    li.all (fun i=>ik P X (Dv li i T) n0 n x (fun e fr kb=>match e with
     | .normal=>pX n0 li.dV li.live fr kb (fun s=>Nx li i s)
     |e=>Q e fr kb) (li.live.zip (li.st i).1) (li.st i).2))
  |none=>iter (fun Q fr kb=>ik P X T n0 n x Q fr kb) Q 600 fr kb
 |T,n0,n,.scope x,Q,fr,kb=>ik P X T n0 n x (fun e fr kb=>match e with | .goto _=>False | e=>Q e fr kb) fr kb
 |T,n0,n,.rangeFunc g ps assign body,Q,fr,kb=>match ev fr g with
  |some (.fn f cap)=>match BC P f with
   |true=>match (pg body).bind (fun r=>T (2000+r))with
    |none=>∀ l,X f (.any (.func (.yield l) #[] #[])::cap) kb (fun _ kb'=>Q .normal fr kb')
    |some lo=>∀ l,J4 P X (.func (.yield l) #[] #[]) (JW P X n ps assign body fr) (lo.itl l) f (.any (.func (.yield l) #[] #[])::cap) kb (fun _ kb'=>Q .normal fr kb')
   |false=>False
  |_=>False
 |T,n0,n,.exit id,Q,fr,kb=>Q (.exit id) fr kb
 |T,n0,n,.ret,Q,fr,kb=>Q .ret fr kb
 |_,_,_,_,_,_,_=>False
theorem nZ {P:Program} {X:bN} (hX:b9 P X) (hm:P.follows .mixedOrders=true) {c:Cx} {n:Nat}:∀(code:Code) {T:Nat->Option LI} {Q:Exit->Fr->KB->Prop} {Q':Exit->Act->World->Prop},Eb c n Q Q'->∀{a:Act} {W:World},
  jr c n (ik P X T c.σ.length n code Q) a W->code.wp P Q' a W
 | .skip,T,Q,Q',hQ,a,W,h=>wp_skip (hQ.hat _ _ _ h)
 | .label _,T,Q,Q',hQ,a,W,h=>wp_label (hQ.hat _ _ _ h)
 | .exit id,T,Q,Q',hQ,a,W,h=>wp_exit (hQ.hat _ _ _ h)
 | .ret,T,Q,Q',hQ,a,W,h=>wp_ret (hQ.hat _ _ _ h)
 | .region id ops false,T,Q,Q',hQ,a,W,h=>by
  cases m9:Region.noSelect ops with
  |true=>
   simp only[ik,m9]at h
   exact wp_region_list (Df hX (fun a W h=>hQ.hat _ _ _ h) h)
  |false=>
   simp only[ik,m9]at h
   exact aen hX (fun a W h=>hQ.hat _ _ _ h) h
 | .region id ops true,T,Q,Q',hQ,a,W,h=>by
  obtain⟨σ,E,fr,kb,hs,hf,h⟩:=h
  simp only[ik]at h
  split at h<;>try exact h.elim
  rename_i m9 yb
  refine wp_region_any hm ?_
  have hd:=(hs.trans (Inv.drew hs.inv))
  exact(Od hX m9 yb (Q:=Q') (K:=Q .normal) (fun a W h=>hQ.hat _ _ _ h) hQ.nV ops.size 0 _ [] fr kb a _ σ E [] ⟨by simp,fun i hi=>by simp [hi]⟩ Closed.empty hd hf (fun r hr=>by cases hr) h).any
 | .seq x y,T,Q,Q',hQ,a,W,h=>by
  cases PB:(pg y).bind (fun r=>T (1000+r))with
  |some li=>
   obtain⟨σ,E,fr,kb,hs,hf,h⟩:=h
   simp only[ik,PB]at h
   obtain⟨hx,hy⟩:=h
   refine wp_seq (nZ hX hm x (Q':=Exit.then (y.wp P Q') Q') (Q:=fun e fr kb=>match e with | .normal=>pX c.σ.length li.dV li.live fr kb (fun s=>At li s) | e=>Q e fr kb) ⟨fun e a W h=>?_,fun ch a a' w h=>hQ.nV ch a a' w h⟩ ⟨σ,E,fr,kb,hs,hf,hx⟩)
   cases e with
   |normal=>
    obtain⟨σ2,E2,fO,bF,oI,gx,h2⟩:=h
    obtain⟨s,⟨⟨i,rfl⟩⟩,hh⟩:=xA h2 oI gx
    refine nZ (T:=Dv li i T) hX hm y hQ ?_
    obtain⟨σ3,E3,fr3,dF,k1,k2,rfl,rfl⟩:=hh
    exact⟨σ3,E3,_,_,k1,k2,li.xw _ hy i⟩
   |exit id=>exact hQ.hat _ _ _ h
   |goto l=>exact hQ.hat _ _ _ h
   |ret=>exact hQ.hat _ _ _ h
   |panic ch=>exact hQ.hat _ _ _ h
   |outgrown=>exact hQ.hat _ _ _ h
  |none=>
  replace h:jr c n (ik P X T c.σ.length n x (fun e fr kb=>match e with | .normal=>ik P X T c.σ.length n y Q fr kb | e=>Q e fr kb)) a W:=by
   obtain⟨σ,E,fr,kb,hs,hf,h⟩:=h
   simp only[ik,PB]at h
   exact⟨σ,E,fr,kb,hs,hf,h⟩
  refine wp_seq (nZ hX hm x (Q':=Exit.then (y.wp P Q') Q') (Q:=fun e fr kb=>match e with | .normal=>ik P X T c.σ.length n y Q fr kb | e=>Q e fr kb) ⟨fun e a W h=>?_,fun ch a a' w h=>hQ.nV ch a a' w h⟩ h)
  cases e with
  |normal=>exact nZ hX hm y hQ h
  |exit id=>exact hQ.hat _ _ _ h
  |goto l=>exact hQ.hat _ _ _ h
  |ret=>exact hQ.hat _ _ _ h
  |panic ch=>exact hQ.hat _ _ _ h
  |outgrown=>exact hQ.hat _ _ _ h
 | .cond o x y,T,Q,Q',hQ,a,W,h=>by
  obtain⟨σ,E,fr,kb,hs,hf,h⟩:=h
  simp only[ik]at h
  split at h
  ·rename_i hc
   have:=bT hf hc
   simp only[Den]at this
   exact wp_cond_true this (nZ hX hm x hQ ⟨σ,E,fr,kb,hs,hf,h⟩)
  ·rename_i hc
   have:=bT hf hc
   simp only[Den]at this
   exact wp_cond_false this (nZ hX hm y hQ ⟨σ,E,fr,kb,hs,hf,h⟩)
  ·rename_i b hc
   have:=bT hf hc
   simp only[Den]at this
   exact wp_cond_split this (fun hb=>nZ hX hm x hQ ⟨σ,E,fr,kb,hs,hf,h.1 hb⟩) (fun hb=>nZ hX hm y hQ ⟨σ,E,fr,kb,hs,hf,h.2 hb⟩)
  ·exact h.elim
 | .block id x,T,Q,Q',hQ,a,W,h=>by
  refine wp_block (nZ hX hm x (Q':=Exit.inBlock id Q') (Q:=fun e fr kb=>match e with
   | .exit i=>match cq i id with | true=>Q .normal fr kb | false=>Q (.exit i) fr kb
   |e=>Q e fr kb) ⟨fun e a W h=>?_,fun ch a a' w h=>hQ.nV ch a a' w h⟩ h)
  cases e with
  |normal=>exact hQ.hat _ _ _ h
  |exit i=>
   simp only[Exit.inBlock]
   simp only at h
   cases hb:cq i id with
   |true=>
    rw[if_pos (cP hb)]
    simp only[hb]at h
    exact hQ.hat _ _ _ h
   |false=>
    rw[if_neg (fun e=>by subst e;simp at hb)]
    simp only[hb]at h
    exact hQ.hat _ _ _ h
  |goto l=>exact hQ.hat _ _ _ h
  |ret=>exact hQ.hat _ _ _ h
  |panic ch=>exact hQ.hat _ _ _ h
  |outgrown=>exact hQ.hat _ _ _ h
 | .loop x,T,Q,Q',hQ,a,W,h=>by
  obtain⟨σ,E,fr,kb,hs,hf,h⟩:=h
  simp only[ik]at h
  split at h
  case h_2=>
   refine wp_loop_ghost (fun k a w=>jr c n (iter (fun Q fr kb=>ik P X T c.σ.length n x Q fr kb) Q k) a w) 600 ⟨σ,E,fr,kb,hs,hf,h⟩ ?_
   intro k a' w' hk
   cases k with
   |zero=>obtain⟨_,_,_,_,_,_,h⟩:=hk;exact h.elim
   |succ k=>
    refine nZ hX hm x (Q':=Exit.then (fun a' w'=>∃ n',n'<k+1/\jr c n (iter (fun Q fr kb=>ik P X T c.σ.length n x Q fr kb) Q n') a' w') Q')
     (Q:=fun e fr kb=>match e with | .normal=>iter (fun Q fr kb=>ik P X T c.σ.length n x Q fr kb) Q k fr kb | e=>Q e fr kb) ⟨fun e a W h=>?_,fun ch a a' w h=>hQ.nV ch a a' w h⟩ hk
    cases e with
    |normal=>exact⟨k,by omega,h⟩
    |exit id=>exact hQ.hat _ _ _ h
    |goto l=>exact hQ.hat _ _ _ h
    |ret=>exact hQ.hat _ _ _ h
    |panic ch=>exact hQ.hat _ _ _ h
    |outgrown=>exact hQ.hat _ _ _ h
  rename_i li hli
  obtain⟨s,⟨⟨⟨i,rfl⟩⟩,Hk⟩,hh⟩:=xA h hs hf
  refine wp_loop_ghost (fun k a w=>∃ i,li.μ i=k/\jr c n (fun fr' kb'=>fr'=li.live.zip (li.st i).1/\kb'=(li.st i).2) a w) (li.μ i) ⟨i,rfl,hh⟩ ?_
  rintro k a' w' ⟨j,rfl,σ',E',fr',kb',hs',hf',rfl,rfl⟩
  refine nZ hX hm x (T:=Dv li j T) (Q':=Exit.then (fun a' w'=>∃ n',n'<li.μ j/\∃ i,li.μ i=n'/\jr c n (fun fr' kb'=>fr'=li.live.zip (li.st i).1/\kb'=(li.st i).2) a' w') Q') (Q:=fun e fr kb=>match e with
     | .normal=>pX c.σ.length li.dV li.live fr kb (fun s=>Nx li j s)
     |e=>Q e fr kb) ⟨fun e a W h=>?_,fun ch a a' w h=>hQ.nV ch a a' w h⟩ ⟨σ',E',_,_,hs',hf',li.xw _ Hk j⟩
  cases e with
  |normal=>
   obtain⟨σ2,E2,fO,bF,oI,gx,h2⟩:=h
   obtain⟨s,⟨⟨j',rfl,hlt⟩⟩,hh⟩:=xA h2 oI gx
   exact⟨_,hlt,j',rfl,hh⟩
  |exit id=>exact hQ.hat _ _ _ h
  |goto l=>exact hQ.hat _ _ _ h
  |ret=>exact hQ.hat _ _ _ h
  |panic ch=>exact hQ.hat _ _ _ h
  |outgrown=>exact hQ.hat _ _ _ h
 | .rangeFunc g ps assign body,T,Q,Q',hQ,a,W,h=>by
  obtain⟨σ,E,fr,kb,hs,hf,h⟩:=h
  simp only[ik]at h
  split at h<;>try exact h.elim
  rename_i f cap hg
  split at h<;>try exact h.elim
  rename_i hb
  unfold BC at hb
  split at hb<;>try (cases hb;done)
  rename_i fn hfn
  simp only[iW,Bool.not_eq_true',beq_eq_false_iff_ne,ne_eq]at hb
  obtain⟨aid,hbody⟩:=Option.isSome_iff_exists.1 hb.1
  have yc:=bT hf hg
  simp only[Den]at yc
  obtain⟨cs,HF,hcs⟩:=yc
  refine wpIn_wide.1 (wpIn_rangeFunc (F:=Fence.wide) (n:=0) fun GW _=>?_)
  let r:Loop:={state:=.ready,pending:=none,fn:=GW,tmps:=a.tmps,params:=ps,assign,body,defers:=W.heap.size }
  obtain⟨E1,hst,ZB,O_,hl⟩:=Step.YM hs.inv r
  have hres:∀ w,(resolve a.eval (rangeCall g (W.heap.size+1)) 0).run P w= .ok {target:=.fn (.func f) cs.toArray,args:=#[.func (.yield (W.heap.size+1)) #[] #[]] } w:=by
   intro w
   have hc:a.eval (.const (.func (.yield (W.heap.size+1)) #[] #[]))= .func (.yield (W.heap.size+1)) #[] #[]:=rfl
   simp [resolve,rangeCall,Deferred.ofValue,HF,hc]
  have hinv:∀ w,(invoke (.fn (.func f) cs.toArray) #[.func (.yield (W.heap.size+1)) #[] #[]]).run P w= .ok (.enter f (#[.func (.yield (W.heap.size+1)) #[] #[]]++cs.toArray)) w:=by
   intro w
   simp [invoke,callFunc,hfn,hb.2,hbody]
  refine⟨W.heap.size+1,[{target:=.collected W.heap.size,args:=#[] }],_,_,_,f,_,_,run_enterLoop_outer GW a.tmps ps assign body,hres _,fun _ _=>trivial,hinv _,by simp [Fence.wide],?_⟩
  refine callsIn_wide.2 ?_
  have Py:=aq.mono (τ:=[]) hst.le hcs
  rw[fu]at Py
  have hno:¬ ct σ kb (W.heap.size+1):=fun ho=>by have:=hs.inv.lt ho;omega
  have hdl:aq σ E1 (V.any (.func (.yield (W.heap.size+1)) #[] #[])::cap) (.func (.yield (W.heap.size+1)) #[] #[]::cs):=aq.cons (by simp [Den]) Py
  have Hq:Calls P f (Value.func (.yield (W.heap.size+1)) #[] #[]::cs).toArray ((W.alloc (.deferred (some []))).alloc (.loop r)) (fun e W'=>∃ v rv σ' E' kb',e= .returned v/\Step σ E1 kb ((W.alloc (.deferred (some []))).alloc (.loop r)) σ' E' kb' W'/\Den σ' E' rv v/\Q .normal fr kb'):=by
   split at h
   ·exact hX f _ kb _ (h (W.heap.size+1)) σ E1 _ _ hst.inv hdl
   ·rename_i lo _
    refine aeE hX (h (W.heap.size+1)) hst.inv hdl ?_
    refine aeu hX hm (c:=⟨σ,E1.strip,kb,(W.alloc (.deferred (some []))).alloc (.loop r)⟩) (r:=r) (ds:=[]) hl hno (by simp only[EH.strip,O_]) rfl rfl ?_
    refine⟨hf.size,oz.nil _,fun t v hv=>?_⟩
    obtain⟨x,k1,k2⟩:=hf.get t v hv
    have k3:=Den.mono (τ:=[]) hst.le k2
    have k4:=Den.du (τ:=[]) E1.wC k3
    rw[fu,fu]at k4
    exact⟨x,k1,k4⟩
  have YG:(#[.func (.yield (W.heap.size+1)) #[] #[]]++cs.toArray:Array Value)=((Value.func (.yield (W.heap.size+1)) #[] #[])::cs).toArray:=by apply Array.ext';simp
  rw[YG]
  refine Hq.mono ?_
  rintro e W3 ⟨v,rv,σ',E',kb',rfl,h1,h2,h3⟩
  have hsz:W.heap.size+1<((W.alloc (.deferred (some []))).alloc (.loop r)).heap.size:=by simp
  have BI:W3.heap[W.heap.size+1]? =some (.loop r):=by
   rw[h1.bM.block _ hsz hno];exact hl
  refine⟨none,_,run_endLoop BI (by simp [r]),?_⟩
  have Bz:E' (W.heap.size+1)=none:=by
   cases hE:E' (W.heap.size+1)with
   |none=>rfl
   |some x=>
    rcases h1.new _ x hE with k | k | k
    ·rw[O_]at k;cases k
    ·exact(hno k).elim
    ·omega
  have vM:¬ ct σ' kb' (W.heap.size+1):=fun ho=>by
   rcases h1.own _ ho with k | k
   ·exact hno k
   ·omega
  have hall:=(hst.trans h1).other (l:=W.heap.size+1) (by omega) vM Bz (.loop {r with state:=.exhausted })
  obtain⟨τ,rfl⟩:=h1.pre
  refine hQ.hat _ _ _ ⟨σ++τ,E',fr,kb',hs.trans hall,?_,h3⟩
  have hf':=hf.mono (τ:=τ) (hst.le.trans h1.le)
  refine⟨hf'.size,⟨fun d hd=>?_,?_⟩,hf'.get⟩
  ·simp only[List.singleton_append,eI]at hd
   rcases hd with rfl | hd
   ·exact⟨_,rfl,h1.le _ _ ZB⟩
   ·exact hf'.defers.all d hd
  ·simp only[List.singleton_append]
   refine List.pairwise_cons.2 ⟨fun d hd e=>?_,hf.defers.nodup⟩
   subst e
   obtain⟨b,e1,e2⟩:=hf.defers.all _ hd
   cases e1
   have:=(Array.getElem?_eq_some_iff.1 (hs.inv.dj _ _ e2)).1
   omega
 | .scope x,T,Q,Q',hQ,a,W,h=>by
  refine wp_scope_straight (nZ hX hm x (Q':=Exit.noGoto Q') (Q:=fun e fr kb=>match e with | .goto _=>False | e=>Q e fr kb) ⟨fun e a W h=>?_,fun ch a a' w h=>hQ.nV ch a a' w h⟩ h)
  cases e with
  |normal=>exact hQ.hat _ _ _ h
  |exit id=>exact hQ.hat _ _ _ h
  |goto l=>obtain⟨_,_,_,_,_,_,h⟩:=h;exact h.elim
  |ret=>exact hQ.hat _ _ _ h
  |panic ch=>exact hQ.hat _ _ _ h
  |outgrown=>exact hQ.hat _ _ _ h
 | .goto _,_,_,_,_,_,_,h=>by obtain⟨_,_,_,_,_,_,h⟩:=h;exact h.elim
 | .refuse _,_,_,_,_,_,_,h=>by obtain⟨_,_,_,_,_,_,h⟩:=h;exact h.elim
def C6 (P:Program) (X:bN) (T:Nat->Option LI) (f:FuncId) (args:List V) (kb:KB) (K:V->KB->Prop):Prop:=
 match P.funcs[f]? with
 |some fn=>match fn.body,Nat.ble args.length fn.ntmps with
  |some code,true=>ik P X T kb.length fn.ntmps code (fin P fn K) (sx 0 args) kb
  |_,_=>False
 |none=>False
theorem TC {P:Program} {X:bN} (hX:b9 P X) (hm:P.follows .mixedOrders=true) {T:Nat->Option LI} {f:FuncId} {args:List V} {kb:KB} {K:V->KB->Prop} (h:C6 P X T f args kb K) {σ:Sg} {E:EH} {W:World} {xs:List Value} (hi:Inv σ E kb W)
  (hd:aq σ E args xs):Calls P f xs.toArray W (fun e W'=>∃ v r σ' E' kb',e= .returned v/\Step σ E kb W σ' E' kb' W'/\Den σ' E' r v/\K r kb'):=by
 unfold C6 at h
 split at h<;>try exact h.elim
 rename_i fn hfn
 split at h<;>try exact h.elim
 rename_i code Ht hb
 have hle:=Nat.le_of_ble_eq_true hb
 rw[<- hd.len]at hle
 rw[<- hi.len]at h
 have hi0:=hi.strip
 have Hx:aq σ E.strip args xs:=by
  have:=aq.du (τ:=[]) E.wC hd
  rwa [fu]at this
 refine callsIn_wide.1 (callsIn_of_wp_marks (n:=0) hfn Ht trivial (wpIn_wide.2 (wp_mono (Q:=fun e a w=>match e with | .panic _=>False | e=>bodyPostM Fence.wide 0 P fn (fun e W'=>∃ v r σ' E' kb',e= .returned v/\Step σ E kb W σ' E' kb' W'/\Den σ' E' r v/\K r kb') e a w) (nZ hX hm (T:=T) (c:=⟨σ,E.strip,kb,W⟩) (n:=fn.ntmps) code (Q:=fin P fn K) ⟨fun e a' W' hh=>?_,fun ch a a' w hp=>?_⟩ ?_) (fun e a w hq=>?_))))
 ·obtain⟨σ',E',fr',kb',hs,hf,hK⟩:=hh
  have key:qz P fr' kb' fn.results.toList (fun vs=>K (te vs) kb')->LeavesInM Fence.wide 0 P fn a'.tmps (fun e W'=>∃ v r σ' E' kb',e= .returned v/\Step σ E kb W σ' E' kb' W'/\Den σ' E' r v/\K r kb') a'.defers .returning W':=by
   intro hK
   refine Ik a'.defers W' hf.defers.nodup (fun d hd=>?_) (fun W2 e1 e2 e3 e4 e5=>?_)
   ·obtain⟨b,h1,h2⟩:=hf.defers.all d hd
    exact⟨b,h1,hs.inv.dj b _ h2⟩
   ·obtain⟨E2,h1,h2⟩:=Step.Vg hi hs e1 e2 e3 e4 (M:=fun b=>{target:=.collected b,args:=#[] }∈a'.defers) (fun b hb=>by
     obtain⟨b',k1,k2⟩:=hf.defers.all _ hb
     cases k1;exact k2) (fun b hb=>e5 b (fun d hd e=>hb (e ▸ hd)))
    have gx:eG σ' E2 fr' fn.ntmps {a' with defers:=[] }:=⟨hf.size,oz.nil _,fun t v hv=>by
     obtain⟨x,k1,k2⟩:=hf.get t v hv
     refine⟨x,k1,?_⟩
     have:=Den.du (τ:=[]) h2 k2
     rwa [fu]at this⟩
    obtain⟨v,r,k1,k2,k3⟩:=OF gx h1.inv hK
    exact⟨v,k1,v,r,σ',E2,kb',rfl,h1,k2,k3⟩
  cases e with
  |normal=>exact key hK
  |ret=>exact key hK
  |exit id=>exact hK.elim
  |goto l=>exact hK.elim
  |panic ch=>exact hK.elim
  |outgrown=>exact hK.elim
 ·exact hp
 rotate_left
 ·cases e<;>first | exact hq | exact hq.elim
 ·refine⟨σ,E.strip,sx 0 args,kb,Step.refl hi0,⟨by simp;omega,oz.nil _,fun t v hv=>?_⟩,h⟩
  obtain⟨x,_,h2,h3⟩:=Iu 0 Hx hv
  refine⟨x,?_,h3⟩
  have hlt:t<xs.length:=by
   have:=(bO.1 h2).1
   simpa using this
  rw[Array.getElem?_append_left (by simpa using hlt)]
  simpa using h2
abbrev aD:=List V->KB->(V->KB->Prop)->Prop
def aR (P:Program) (f:FuncId) (S:aD):Prop:=∀ args kb K,S args kb K->∀ σ E W xs,Inv σ E kb W->aq σ E args xs->
 Calls P f xs.toArray W (fun e W'=>∃ v r σ' E' kb',e= .returned v/\Step σ E kb W σ' E' kb' W'/\Den σ' E' r v/\K r kb')
def j6 (o:List Nat) (n:Nat) (k:Nat):Option Nat:=
 match o[k]? with
 |some i=>some i
 |none=>some (n+(k - o.length))
def yW (ρ:Nat->Option Nat):KB->Option KB
 | []=>some []
 |x::xs=>match KO.bU ρ x,yW ρ xs with
  |some y,some ys=>some (y::ys)
  |_,_=>none
theorem Tt {ρ:Nat->Option Nat}:∀{l r:KB},yW ρ l=some r->r.length=l.length/\∀(m:Nat) (b:KO),r[m]? =some b->∃ a,l[m]? =some a/\KO.bU ρ a=some b
 | [],r,h=>by simp only[yW,bc.injEq]at h;subst h;simp
 |x::xs,r,h=>by
  simp only[yW]at h
  split at h<;>try (cases h;done)
  rename_i y ys h1 h2
  cases h
  obtain⟨h3,h4⟩:=Tt h2
  refine⟨by simp [h3],fun m b hb=>?_⟩
  cases m with
  |zero=>simp at hb;subst hb;exact⟨x,rfl,h1⟩
  |succ m=>simpa using h4 m b (by simpa using hb)
def sy (bF:KB) (o:List Nat) (ρ:Nat->Option Nat):Nat->KB->Option KB
 |_,[]=>yW ρ (bF.drop o.length)
 |i,x::r=>match idx o i with
  |some k=>match bF[k]? with
   |some a=>match KO.bU ρ a,sy bF o ρ (i+1) r with
    |some b,some t=>some (b::t)
    |_,_=>none
   |none=>none
  |none=>match sy bF o ρ (i+1) r with
   |some t=>some (x::t)
   |none=>none
theorem Fu {bF:KB} {o:List Nat} {ρ:Nat->Option Nat}:∀{r:KB} {i0:Nat} {out:KB},sy bF o ρ i0 r=some out->
  out.length=r.length+(bF.length - o.length)/\∀(j:Nat) (b:KO),out[j]? =some b->
   (j<r.length/\idx o (i0+j)=none/\r[j]? =some b)∨(j<r.length/\∃ k a,idx o (i0+j)=some k/\bF[k]? =some a/\KO.bU ρ a=some b)∨
   (r.length<=j/\∃ a,bF[o.length+(j - r.length)]? =some a/\KO.bU ρ a=some b)
 | [],i0,out,h=>by
  simp only[sy]at h
  obtain⟨h1,h2⟩:=Tt h
  refine⟨by simp [h1],fun j b hb=> .inr (.inr ⟨by simp,?_⟩)⟩
  obtain⟨a,ha,hr⟩:=h2 j b hb
  exact⟨a,by simpa using ha,hr⟩
 |x::r,i0,out,h=>by
  simp only[sy]at h
  have step:∀{t:KB},sy bF o ρ (i0+1) r=some t->∀(y:KO),((idx o i0=none/\y=x)∨∃ k a,idx o i0=some k/\bF[k]? =some a/\KO.bU ρ a=some y)->
    (y::t).length=(x::r).length+(bF.length - o.length)/\∀(j:Nat) (b:KO),(y::t)[j]? =some b->
    (j<(x::r).length/\idx o (i0+j)=none/\(x::r)[j]? =some b)∨(j<(x::r).length/\∃ k a,idx o (i0+j)=some k/\bF[k]? =some a/\KO.bU ρ a=some b)∨
    ((x::r).length<=j/\∃ a,bF[o.length+(j - (x::r).length)]? =some a/\KO.bU ρ a=some b):=by
   intro t ht y hy
   obtain⟨h1,h2⟩:=Fu ht
   refine⟨by simp [h1];omega,fun j b hb=>?_⟩
   cases j with
   |zero=>
    simp at hb;subst hb
    rcases hy with ⟨h3,rfl⟩ | ⟨k,a,h3,h4,h5⟩
    ·exact .inl ⟨by simp,by simpa using h3,rfl⟩
    ·exact .inr (.inl ⟨by simp,k,a,by simpa using h3,h4,h5⟩)
   |succ j=>
    rcases h2 j b (by simpa using hb)with ⟨k1,k2,k3⟩ | ⟨k1,k,a,k2,k3,k4⟩ | ⟨k1,a,k2,k3⟩
    ·exact .inl ⟨by simpa using k1,by rw[show i0+(j+1)=i0+1+j by omega];exact k2,by simpa using k3⟩
    ·exact .inr (.inl ⟨by simpa using k1,k,a,by rw[show i0+(j+1)=i0+1+j by omega];exact k2,k3,k4⟩)
    ·exact .inr (.inr ⟨by simpa using k1,a,by rw[show o.length+(j+1 - (x::r).length)=o.length+(j - r.length) by simp];exact k2,k3⟩)
  split at h
  ·rename_i k hk
   split at h<;>try (cases h;done)
   rename_i a ha
   split at h<;>try (cases h;done)
   rename_i b t hb ht
   cases h
   exact step ht b (.inr ⟨k,a,hk,ha,hb⟩)
  ·rename_i hk
   split at h<;>try (cases h;done)
   rename_i t ht
   cases h
   exact step ht x (.inl ⟨hk,rfl⟩)
def Do (pl:Bool) (S:aD) (args:List V) (kb:KB) (K:V->KB->Prop):Prop:=
 match sC pl 0 args kb with
 |some (args',sub,o)=>S args' sub (fun r bF=>match Nat.ble o.length bF.length,V.bU (j6 o kb.length) r,sy bF o (j6 o kb.length) 0 kb with
  |true,some r',some kb'=>K r' kb'
  |_,_,_=>False)
 |none=>False
def y0 (S:aD) (args:List V) (kb:KB) (K:V->KB->Prop):Prop:=Do false S args kb K
def Kk (S:aD) (args:List V) (kb:KB) (K:V->KB->Prop):Prop:=Do true S args kb K
theorem Qr {l:List Nat} {i:Nat} (h:idx l i=none):i ∉ l:=fun hm=>by
 obtain⟨k,hk⟩:=BW hm
 rw[h]at hk;cases hk
theorem JA {σ:Sg} {kb:KB} (hlen:σ.length=kb.length) {o:List Nat} {sub:KB} (hs:rY (idx o) kb o=some sub) {b:Nat} (h:ct (dS σ o) sub b):
  ∃ i r ob,i∈o/\σ[i]? =some r/\kb[i]? =some ob/\owned r ob b:=by
 obtain⟨hl,di⟩:=wv hs
 obtain⟨k,r,o',h1,h2,h3⟩:=h
 simp only[dS,fH,Option.map_eq_some_iff]at h1
 obtain⟨i,hi,hr⟩:=h1
 obtain⟨ob,o2,ho,rj,hk⟩:=di k i hi
 rw[h2]at hk;cases hk
 have hlt:i<σ.length:=by rw[hlen];exact(bO.1 ho).1
 rw[bz hlt]at hr
 simp at hr
 exact⟨i,r,ob,gG hi,by rw[bz hlt,hr],ho,(mg rj).1 h3⟩
theorem T4 {pl:Bool} {P:Program} {f:FuncId} {S:aD} (hS:aR P f S) {args:List V} {kb:KB} {K:V->KB->Prop} (h:Do pl S args kb K) {σ:Sg} {E:EH} {W:World} {xs:List Value} (hi:Inv σ E kb W) (hd:aq σ E args xs):
  Calls P f xs.toArray W (fun e W'=>∃ v r σ' E' kb',e= .returned v/\Step σ E kb W σ' E' kb' W'/\Den σ' E' r v/\K r kb'):=by
 unfold Do at h
 split at h<;>try exact h.elim
 rename_i args' sub o hc
 obtain⟨hn,_,rq,hsel⟩:=qT hc
 obtain⟨k1,k2,k3⟩:=hi.sel hn hsel
 obtain⟨kB,di⟩:=wv hsel
 refine(hS args' sub _ h (dS σ o) E W xs k1 (aq.bU k3 rq hd)).mono ?_
 rintro e W' ⟨v,r,σs,E',bF,rfl,hst,eM,hK⟩
 split at hK<;>try exact hK.elim
 rename_i r' kb' Ho hr' hkb'
 have hle:=Nat.le_of_ble_eq_true Ho
 obtain⟨τ,oJ⟩:=hst.pre
 have HZ:(dS σ o).length=o.length:=by simp [dS]
 have hl2:σs.length=bF.length:=hst.inv.len
 obtain⟨hout,Hr⟩:=Fu hkb'
 let nH:=σ++σs.drop o.length
 have rC:∀ i j r,j6 o kb.length i=some j->σs[i]? =some r->nH[j]? =some r:=by
  intro i j r hb hr
  unfold j6 at hb
  split at hb
  ·rename_i q hq
   cases hb
   have hil:i<o.length:=(bO.1 hq).1
   rw[oJ,dX (by rw[HZ];exact hil)]at hr
   simp only[dS,fH,hq,Option.map_some,bc.injEq]at hr
   obtain⟨ob,_,qf,_,_⟩:=di i j hq
   have hjl:j<σ.length:=by rw[hi.len];exact(bO.1 qf).1
   rw[bz hjl]at hr
   simp only[Option.getD_some]at hr
   show(σ++_)[j]? =_
   rw[dX hjl,bz hjl,hr]
  ·rename_i hq
   cases hb
   have hil:o.length<=i:=by
    rcases jF i o.length with h' | h'
    ·rw[bz h']at hq;cases hq
    ·exact h'
   show(σ++_)[_]? =_
   rw[e_ (by rw[hi.len];omega),hi.len,show kb.length+(i - o.length) - kb.length=i - o.length by omega,jE,show o.length+(i - o.length)=i by omega]
   exact hr
 have eU:∀(i:Nat) (r:Re) (ob:KO),nH[i]? =some r->kb'[i]? =some ob->
   (∃ k a,j6 o kb.length k=some i/\σs[k]? =some r/\bF[k]? =some a/\KO.bU (j6 o kb.length) a=some ob)∨(i ∉ o/\σ[i]? =some r/\kb[i]? =some ob):=by
  intro i r ob h1 h2
  rcases Hr i ob h2 with ⟨c1,c2,c3⟩ | ⟨c1,k,a,c2,c3,c4⟩ | ⟨c1,a,c2,c3⟩
  ·rw[cQ]at c2
   have h1':(σ++σs.drop o.length)[i]? =some r:=h1
   rw[dX (by rw[hi.len];exact c1)]at h1'
   exact .inr ⟨Qr c2,h1',c3⟩
  ·rw[cQ]at c2
   have hk:=BX c2
   have j_:k<σs.length:=by rw[hl2];exact(bO.1 c3).1
   have hb:j6 o kb.length k=some i:=by simp [j6,hk]
   have:=rC k i _ hb (bz j_)
   rw[this]at h1
   exact .inl ⟨k,a,hb,by rw[bz j_];exact h1,c3,c4⟩
  ·have hb:j6 o kb.length (o.length+(i - kb.length))=some i:=by
    have:o[o.length+(i - kb.length)]? =none:=g_ (by omega)
    simp only[j6,this]
    congr 1
    omega
   have j_:o.length+(i - kb.length)<σs.length:=by rw[hl2];exact(bO.1 c2).1
   have:=rC _ i _ hb (bz j_)
   rw[this]at h1
   exact .inl ⟨_,a,hb,by rw[bz j_];exact h1,c2,c3⟩
 have nc:∀ b,ct (dS σ o) sub b->∀(j:Nat) (r:Re) (ob:KO),j ∉ o->σ[j]? =some r->kb[j]? =some ob->owned r ob b->False:=by
  intro b hb j r ob hj h1 h2 h3
  obtain⟨i,r2,o2,g1,g2,g3,g4⟩:=JA hi.len hsel hb
  exact hi.dA i j r2 r o2 ob b (fun e=>by subst e;exact hj g1) g2 g3 h1 h2 g4 h3
 have HT:∀(j:Nat) (r:Re) (ob:KO),j ∉ o->σ[j]? =some r->kb[j]? =some ob->∀ b,owned r ob b->W'.heap[b]? =W.heap[b]?:=by
  intro j r ob hj h1 h2 b h3
  exact hst.bM.block b ((hi.obj j r ob h1 h2).lt h3) (fun hb=>nc b hb j r ob hj h1 h2 h3)
 have rn:∀ b (k:Nat) (r:Re) (a:KO),σs[k]? =some r->bF[k]? =some a->owned r a b->ct (dS σ o) sub b∨W.heap.size<=b:=fun b k r a h1 h2 h3=>hst.own b ⟨k,r,a,h1,h2,h3⟩
 have hown:∀ b,ct nH kb' b->ct σ kb b∨W.heap.size<=b:=by
  rintro b ⟨i,r,ob,h1,h2,h3⟩
  rcases eU i r ob h1 h2 with ⟨k,a,_,g2,g3,g4⟩ | ⟨g1,g2,g3⟩
  ·rcases rn b k r a g2 g3 ((mg g4).1 h3)with h4 | h4
   ·exact .inl (k2 b h4)
   ·exact .inr h4
  ·exact .inl ⟨i,r,ob,g2,g3,h3⟩
 refine⟨v,r',nH,E',kb',rfl,⟨⟨?_,fun i r ob h1 h2=>?_,fun i j r1 r2 o1 o2 b hij h1 h2 h3 h4 h5 h6=>?_,hst.inv.dj,fun b hb=>?_⟩,⟨hst.bM.os,hst.bM.tape,hst.bM.output,hst.bM.size,fun b hb hn'=>hst.bM.block b hb (fun h=>hn' (k2 b h))⟩,⟨_,rfl⟩,hst.le,hown,fun b x hb=>?_⟩,Den.bU rC hr' eM,hK⟩
 ·simp only[nH,bo,fZ,hout,hi.len,hl2]
 ·rcases eU i r ob h1 h2 with ⟨k,a,_,g2,g3,g4⟩ | ⟨g1,g2,g3⟩
  ·exact(hst.inv.obj k r a g2 g3).bU rC g4
  ·exact(hi.obj i r ob g2 g3).mono hst.le (fun b hb=>HT i r ob g1 g2 g3 b hb)
 ·rcases eU i r1 o1 h1 h2 with ⟨k,a,g1,g2,g3,g4⟩ | ⟨g1,g2,g3⟩<;>rcases eU j r2 o2 h3 h4 with ⟨m,a',q1,q2,q3,q4⟩ | ⟨q1,q2,q3⟩
  ·refine hst.inv.dA k m r1 r2 a a' b (fun e=>?_) g2 g3 q2 q3 ((mg g4).1 h5) ((mg q4).1 h6)
   subst e
   rw[g1]at q1
   cases q1
   exact hij rfl
  ·rcases rn b k r1 a g2 g3 ((mg g4).1 h5)with h7 | h7
   ·exact nc b h7 j r2 o2 q1 q2 q3 h6
   ·have:=(hi.obj j r2 o2 q2 q3).lt h6;omega
  ·rcases rn b m r2 a' q2 q3 ((mg q4).1 h6)with h7 | h7
   ·exact nc b h7 i r1 o1 g1 g2 g3 h5
   ·have:=(hi.obj i r1 o1 g2 g3).lt h5;omega
  ·exact hi.dA i j r1 r2 o1 o2 b hij g2 g3 q2 q3 h5 h6
 ·obtain⟨i,r,ob,h1,h2,h3⟩:=hb
  rcases eU i r ob h1 h2 with ⟨k,a,_,g2,g3,g4⟩ | ⟨g1,g2,g3⟩
  ·exact hst.inv.sep b ⟨k,r,a,g2,g3,(mg g4).1 h3⟩
  ·cases hE:E' b with
   |none=>rfl
   |some x=>
    rcases hst.new b x hE with h4 | h4 | h4
    ·have:=hi.sep b ⟨i,r,ob,g2,g3,h3⟩;rw[this]at h4;cases h4
    ·exact(nc b h4 i r ob g1 g2 g3 h3).elim
    ·have:=(hi.obj i r ob g2 g3).lt h3;omega
 ·rcases hst.new b x hb with h4 | h4 | h4
  ·exact .inl h4
  ·exact .inr (.inl (k2 b h4))
  ·exact .inr (.inr h4)
theorem Dp {P:Program} {f:FuncId} {S:aD} (hS:aR P f S) {args:List V} {kb:KB} {K:V->KB->Prop} (h:y0 S args kb K) {σ:Sg} {E:EH} {W:World} {xs:List Value} (hi:Inv σ E kb W) (hd:aq σ E args xs):
 Calls P f xs.toArray W (fun e W'=>∃ v r σ' E' kb',e= .returned v/\Step σ E kb W σ' E' kb' W'/\Den σ' E' r v/\K r kb'):=T4 hS h hi hd
theorem T5 {P:Program} {f:FuncId} {S:aD} (hS:aR P f S) {args:List V} {kb:KB} {K:V->KB->Prop} (h:Kk S args kb K) {σ:Sg} {E:EH} {W:World} {xs:List Value} (hi:Inv σ E kb W) (hd:aq σ E args xs):
 Calls P f xs.toArray W (fun e W'=>∃ v r σ' E' kb',e= .returned v/\Step σ E kb W σ' E' kb' W'/\Den σ' E' r v/\K r kb'):=T4 hS h hi hd
def gw:KB->Bool
 | []=>true
 | .objs _:: _=>false
 | .jd _:: _=>false
 |_::kb=>gw kb
theorem OP:∀{kb:KB},gw kb=true->∀(i:Nat) (o:KO),kb[i]? =some o->(∀ A,o≠.objs A)/\∀ a,o≠.jd a
 | [],_,i,o,h=>by simp at h
 |x::kb,hf,0,o,h=>by
  simp at h;subst h
  exact⟨fun A e=>by subst e;simp [gw]at hf,fun A e=>by subst e;simp [gw]at hf⟩
 |x::kb,hf,i+1,o,h=>by
  refine OP (kb:=kb) ?_ i o (by simpa using h)
  cases x<;>first | exact hf | (simp [gw]at hf)
theorem gD.down {σ:Sg} {E:EH} {W:World} {r:Re} {o:KO} (h:gD σ E W r o) {b:Nat} (ho:owned r o b):nU r o b:=by
 cases o<;>first | exact ho | exact h.elim
theorem gp.down {σ:Sg} {E:EH} {W:World} {r:Re} {o:KO} (h:gp σ E W r o) (hn:(∀ A,o≠.objs A)/\∀ a,o≠.jd a):gD σ E W r o:=by
 cases o<;>first | exact h | exact trivial | exact absurd rfl (hn.1 _) | exact absurd rfl (hn.2 _)
theorem nL.owns {E:EH} {W:World} {a:Sg×KB} (h:nL E W a) {b:Nat} (ho:ct a.1 a.2 b):jv a b:=by
 obtain⟨i,r,o,h1,h2,h3⟩:=ho
 exact⟨i,r,o,h1,h2,(h.obj i r o h1 h2).down h3⟩
theorem jv.up {a:Sg×KB} {b:Nat} (h:jv a b):ct a.1 a.2 b:=by
 obtain⟨i,r,o,h1,h2,h3⟩:=h
 exact⟨i,r,o,h1,h2,h3.up⟩
theorem nL.inv {E:EH} {W:World} {a:Sg×KB} (h:nL E W a) (aae:∀ b o,E b=some o->W.heap[b]? =some o) (hsep:∀ b,jv a b->E b=none):Inv a.1 E a.2 W:=
 ⟨h.len,fun i r o h1 h2=>(h.obj i r o h1 h2).up,fun i j r r' o o' b hij h1 h2 h3 h4 h5 h6=>h.dA i j r r' o o' b hij h1 h2 h3 h4 ((h.obj i r o h1 h2).down h5) ((h.obj j r' o' h3 h4).down h6),aae,fun b hb=>hsep b (h.owns hb)⟩
theorem Inv.Jf {σ:Sg} {E:EH} {kb:KB} {W:World} (h:Inv σ E kb W) (hf:gw kb=true):nL E W (σ,kb):=
 ⟨h.len,fun i r o h1 h2=>(h.obj i r o h1 h2).down (OP hf i o h2),fun i j r r' o o' b hij h1 h2 h3 h4 h5 h6=>h.dA i j r r' o o' b hij h1 h2 h3 h4 h5.up h6.up⟩
def gq (P:Program) (f:FuncId) (S:aD):Prop:=∀ args kb K,S args kb K->∀ σ E W xs,Inv σ E kb W->aq σ E args xs->
 Calls P f xs.toArray W (fun e W'=>∃ v r σ' E' bF σ3 dF,e= .returned v/\Step σ E kb W σ' E' bF W'/\Inv σ3 E' dF W'/\gw dF=true/\(∀ b,ct σ3 dF b->ct σ' bF b)/\(∀ b,nX σ b->nX σ3 b)/\(∀ τ,Den τ E' r v)/\K r dF)
def sU:List Nat->KB->KB
 | [],kb=>kb
 |i::is,kb=>sU is (kb.set i .dead)
theorem Ig:∀{o:List Nat} {kb:KB},(sU o kb).length=kb.length
 | [],kb=>rfl
 |i::is,kb=>by simp only[sU];rw[Ig,iA]
theorem QC:∀{o:List Nat} {kb:KB} {j:Nat} {b:KO},(sU o kb)[j]? =some b->b= .dead∨(j ∉ o/\kb[j]? =some b)
 | [],kb,j,b,h=> .inr ⟨by simp,h⟩
 |i::is,kb,j,b,h=>by
  simp only[sU]at h
  rcases QC h with h1 | ⟨h1,h2⟩
  ·exact .inl h1
  ·by_cases e:i=j
   ·subst e
    rw[List.getElem?_set_self']at h2
    cases hk:kb[i]? with
    |none=>rw[hk]at h2;simp at h2
    |some x=>rw[hk]at h2;simp at h2;exact .inl h2.symm
   ·rw[gE e]at h2
    exact .inr ⟨fun hm=>by
     rcases eI.1 hm with e2 | e2
     ·exact e e2.symm
     ·exact h1 e2,h2⟩
def Km (S:aD) (args:List V) (kb:KB) (K:V->KB->Prop):Prop:=
 match sC false 0 args kb with
 |some (args',sub,o)=>match o with
  |i0:: _=>S args' sub (fun r dF=>gw dF=true->∀ τ,K r ((sU o kb).set i0 (.jd (τ,dF))))
  | []=>False
 |none=>False
theorem ae6 {P:Program} {f:FuncId} {S:aD} (hS:gq P f S) {args:List V} {kb:KB} {K:V->KB->Prop} (h:Km S args kb K) {σ:Sg} {E:EH} {W:World} {xs:List Value} (hi:Inv σ E kb W) (hd:aq σ E args xs):
  Calls P f xs.toArray W (fun e W'=>∃ v r σ' E' kb',e= .returned v/\Step σ E kb W σ' E' kb' W'/\Den σ' E' r v/\K r kb'):=by
 unfold Km at h
 split at h<;>try exact h.elim
 rename_i args' sub o hc
 split at h<;>try exact h.elim
 rename_i i0 o'
 obtain⟨hn,_,rq,hsel⟩:=qT hc
 obtain⟨k1,k2,k3⟩:=hi.sel hn hsel
 obtain⟨kB,di⟩:=wv hsel
 have hi0:i0<kb.length:=by
  obtain⟨ob,_,qf,_,_⟩:=di 0 i0 rfl
  exact(bO.1 qf).1
 have hr0:(dS σ (i0::o'))[0]? =σ[i0]?:=by
  have:i0<σ.length:=by rw[hi.len];exact hi0
  simp [dS,bz this]
 refine(hS args' sub _ h (dS σ (i0::o')) E W xs k1 (aq.bU k3 rq hd)).mono ?_
 rintro e W' ⟨v,r,σ',E',bF,σ3,dF,rfl,hst,hin,mY,aar,sS,eM,hK⟩
 have aaq:=hin.Jf mY
 have nc:∀ b,ct (dS σ (i0::o')) sub b->∀(j:Nat) (r:Re) (ob:KO),j ∉ i0::o'->σ[j]? =some r->kb[j]? =some ob->owned r ob b->False:=by
  intro b hb j r ob hj h1 h2 h3
  obtain⟨i,r2,o2,g1,g2,g3,g4⟩:=JA hi.len hsel hb
  exact hi.dA i j r2 r o2 ob b (fun e=>by subst e;exact hj g1) g2 g3 h1 h2 g4 h3
 have HO:∀ b,jv (σ3,dF) b->ct (dS σ (i0::o')) sub b∨W.heap.size<=b:=fun b hb=>hst.own b (aar b hb.up)
 have eU:∀(j:Nat) (ob:KO),((sU (i0::o') kb).set i0 (.jd (σ3,dF)))[j]? =some ob->(j=i0/\ob= .jd (σ3,dF))∨ob= .dead∨(j ∉ i0::o'/\kb[j]? =some ob):=by
  intro j ob hj
  by_cases e:i0=j
  ·subst e
   rw[iz (by rw[Ig];exact hi0)]at hj
   exact .inl ⟨rfl,(bc.inj hj).symm⟩
  ·rw[gE e]at hj
   exact .inr (QC hj)
 have hown:∀ b,ct σ ((sU (i0::o') kb).set i0 (.jd (σ3,dF))) b->ct σ kb b∨W.heap.size<=b:=by
  rintro b ⟨j,q,ob,h1,h2,h3⟩
  rcases eU j ob h2 with ⟨rfl,rfl⟩ | rfl | ⟨g1,g2⟩
  ·rcases HO b h3 with g | g
   ·exact .inl (k2 b g)
   ·exact .inr g
  ·exact h3.elim
  ·exact .inl ⟨j,q,ob,h1,g2,h3⟩
 refine⟨v,r,σ,E',_,rfl,⟨⟨?_,fun j q ob h1 h2=>?_,fun j j' q q' ob yH b hij h1 h2 h3 h4 h5 h6=>?_,hst.inv.dj,fun b hb=>?_⟩,⟨hst.bM.os,hst.bM.tape,hst.bM.output,hst.bM.size,fun b hb hn'=>hst.bM.block b hb (fun h=>hn' (k2 b h))⟩,⟨[],by simp⟩,hst.le,hown,fun b x hb=>?_⟩,eM σ,hK mY σ3⟩
 ·rw[iA,Ig,hi.len]
 ·rcases eU j ob h2 with ⟨rfl,rfl⟩ | rfl | ⟨g1,g2⟩
  ·exact⟨aaq,sS q.blk ⟨q,by rw[hr0];exact h1,rfl⟩⟩
  ·trivial
  ·have:=(hi.obj j q ob h1 g2).mono (τ:=[]) (W':=W') hst.le (fun b hb=>hst.bM.block b ((hi.obj j q ob h1 g2).lt hb) (fun hs=>nc b hs j q ob g1 h1 g2 hb))
   simpa using this
 ·rcases eU j ob h2 with ⟨rfl,rfl⟩ | rfl | ⟨g1,g2⟩<;>rcases eU j' yH h4 with ⟨e2,e3⟩ | rfl | ⟨Zg,G3⟩
  ·exact hij e2.symm
  ·exact h6.elim
  ·rcases HO b h5 with g | g
   ·exact nc b g j' q' yH Zg h3 G3 h6
   ·have:=(hi.obj j' q' yH h3 G3).lt h6;omega
  ·exact h5.elim
  ·exact h5.elim
  ·exact h5.elim
  ·subst e3
   rcases HO b h6 with g | g
   ·exact nc b g j q ob g1 h1 g2 h5
   ·have:=(hi.obj j q ob h1 g2).lt h5;omega
  ·exact h6.elim
  ·exact hi.dA j j' q q' ob yH b hij h1 g2 h3 G3 h5 h6
 ·obtain⟨j,q,ob,h1,h2,h3⟩:=hb
  rcases eU j ob h2 with ⟨rfl,rfl⟩ | rfl | ⟨g1,g2⟩
  ·exact hin.sep b h3.up
  ·exact h3.elim
  ·cases hE:E' b with
   |none=>rfl
   |some x=>
    rcases hst.new b x hE with h4 | h4 | h4
    ·have:=hi.sep b ⟨j,q,ob,h1,g2,h3⟩;rw[this]at h4;cases h4
    ·exact(nc b h4 j q ob g1 h1 g2 h3).elim
    ·have:=(hi.obj j q ob h1 g2).lt h3;omega
 ·rcases hst.new b x hb with h4 | h4 | h4
  ·exact .inl h4
  ·exact .inr (.inl (k2 b h4))
  ·exact .inr (.inr h4)
theorem xP {σ:Sg} {E:EH} {v:V} {x:Value} (h:Den σ E v x):aq σ E [v] [x]:=by simp only[aq];exact⟨x,[],rfl,h,rfl⟩
theorem xQ {σ:Sg} {E:EH} {v:V} {x:Value} (h:aq σ E [v] [x]):Den σ E v x:=by
 simp only[aq]at h
 obtain⟨y,ys,e,h1,rfl⟩:=h
 cases e
 exact h1
def Cy (ds:List jG) (S:aD):aD:=fun args kb K=>y0 S (pF ds (args,kb)).1 (pF ds (args,kb)).2 K
theorem IV {P:Program} {f:FuncId} {S:aD} (hS:aR P f S) (ds:List jG):aR P f (Cy ds S):=fun args kb K h σ E W xs hi hd=>by
 obtain⟨σ',Lq,h1,h2,_⟩:=yC (c:=⟨σ,E,kb,W⟩) ds (s:=(args,kb)) (Step.refl hi) hd
 refine(Dp hS h h1.inv h2).mono ?_
 rintro e W' ⟨v,r,σs,E',bF,rfl,hst,eM,hK⟩
 exact⟨v,r,σs,E',bF,rfl,Step.trans h1 hst,eM,hK⟩
def fA (ds:List jG) (K:V->KB->Prop):V->KB->Prop:=fun r kb=>match r with
 | .χ l=>K (.χ (pF ds (l,kb)).1) (pF ds (l,kb)).2
 |r=>match (pF ds ([r],kb)).1 with
  | [r']=>K r' (pF ds ([r],kb)).2
  |_=>False
def aby (ds:List jG) (S:aD):aD:=fun args kb K=>S args kb (fA ds K)
theorem IW {P:Program} {f:FuncId} {S:aD} (hS:aR P f S) (ds:List jG):aR P f (aby ds S):=fun args kb K h σ E W xs hi hd=>by
 refine(hS args kb _ h σ E W xs hi hd).mono ?_
 rintro e W' ⟨v,r,σs,E',bF,rfl,hst,eM,hK⟩
 unfold fA at hK
 split at hK
 ·rename_i l
  simp only[Den]at eM
  obtain⟨vs,rfl,hl⟩:=eM
  obtain⟨σ',Lq,h1,h2,_⟩:=yC (c:=⟨σ,E,kb,W⟩) ds (s:=(l,bF)) hst hl
  exact⟨_,_,_,_,_,rfl,h1,by simp only[Den];exact⟨vs,rfl,h2⟩,hK⟩
 ·split at hK<;>try exact hK.elim
  rename_i r' hr
  obtain⟨σ',Lq,h1,h2,_⟩:=yC (c:=⟨σ,E,kb,W⟩) ds (s:=([r],bF)) hst (xP eM)
  rw[hr]at h2
  exact⟨_,_,_,_,_,rfl,h1,xQ h2,hK⟩
def dx (n0:Nat) (K:V->KB->Prop):V->KB->Prop:=fun r kb=>match canon n0 [r] kb with
 |some ([r'],kb',_)=>K r' kb'
 |_=>False
def af0 (S:aD):aD:=fun args kb K=>S args kb (dx kb.length K)
theorem DE {P:Program} {f:FuncId} {S:aD} (hS:aR P f S):aR P f (af0 S):=fun args kb K h σ E W xs hi hd=>by
 refine(hS args kb _ h σ E W xs hi hd).mono ?_
 rintro e W' ⟨v,r,σs,E',bF,rfl,hst,eM,hK⟩
 unfold dx at hK
 split at hK<;>try exact hK.elim
 rename_i r' kb' o hc
 rw[<- hi.len]at hc
 obtain⟨σ',h1,h2⟩:=Step.sel (c:=⟨σ,E,kb,W⟩) hst hc (xP eM)
 exact⟨_,_,_,_,_,rfl,h1,xQ h2,hK⟩
inductive Mode where
 |my
 |gj (s:Nat)
 |fk (s:Nat)
 |ig
 |tail
def sL:List Mode->List V->KB->(List V->KB->Prop)->Prop
 |_,[],kb,K=>K [] kb
 | [],v::vs,kb,K=>K (v::vs) kb
 | .fk s::ms,v::vs,kb,K=>qU (.sl s) v kb (fun d kb'=>sL ms vs kb' (fun us jK=>K (.dat d::us) jK))
 |_::ms,v::vs,kb,K=>sL ms vs kb (fun us kb'=>K (v::us) kb')
theorem x5:∀{ms:List Mode} {vs:List V} {kb:KB} {K:List V->KB->Prop},sL ms vs kb K->∀{σ:Sg} {E:EH} {W:World},Inv σ E kb W->∀{xs:List Value},aq σ E vs xs->
  ∃ E' kb' us,Step σ E kb W σ E' kb' W/\aq σ E' us xs/\K us kb'
 |ms,[],kb,K,h,σ,E,W,hi,xs,hd=>by
  have:K [] kb:=by cases ms with | nil=>exact h | cons m ms=>cases m<;>exact h
  exact⟨E,kb,[],Step.refl hi,hd,this⟩
 | [],v::vs,kb,K,h,σ,E,W,hi,xs,hd=>⟨E,kb,v::vs,Step.refl hi,hd,h⟩
 |m::ms,v::vs,kb,K,h,σ,E,W,hi,xs,hd=>by
  simp only[aq]at hd
  obtain⟨x,xs',rfl,h1,h2⟩:=hd
  have plain:sL ms vs kb (fun us kb'=>K (v::us) kb')->∃ E' kb' us,Step σ E kb W σ E' kb' W/\aq σ E' us (x::xs')/\K us kb':=fun h=>by
   obtain⟨E1,eN,us,s1,d1,hK⟩:=x5 h hi h2
   have:=Den.mono (τ:=[]) s1.le h1
   rw[fu]at this
   exact⟨E1,eN,v::us,s1,.cons this d1,hK⟩
  cases m with
  |my=>exact plain h
  |gj s=>exact plain h
  |ig=>exact plain h
  |tail=>exact plain h
  |fk s=>
   simp only[sL]at h
   obtain⟨E1,eN,d,s1,r1,h⟩:=xL h hi h1
   have h2':=aq.mono (τ:=[]) s1.le h2
   rw[fu]at h2'
   obtain⟨E2,bF,us,s2,d2,hK⟩:=x5 h s1.inv h2'
   exact⟨E2,bF,.dat d::us,s1.trans s2,.cons (by simp only[Den];exact r1.mono s2.le) d2,hK⟩
def th:V->List Nat
 | .sl i _ _=>[i]
 | .sa i _ _ _ _ _=>[i]
 | .se i _ _ _ _ _=>[i]
 |_=>[]
def vR (kb:KB) (s:Nat) (v:V):Option (Prop×V×List Nat):=
 match tj kb v with
 |some (sz,p,xs)=>match za s sz with
  |true=>some (p,.dat (.sl s xs),th v)
  |false=>none
 |none=>none
def sV (kb:KB) (s:Nat):List V->Option (Prop×List V×List Nat)
 | []=>some (True,[],[])
 |v::vs=>match sV kb s vs with
  |some (q,us,js)=>match vR kb s v with
   |some (p,u,is)=>some (p/\q,u::us,is++js)
   |none=>some (q,v::us,js)
  |none=>none
def yt (kb:KB) (s:Nat) (v:V):Option (Prop×V×List Nat):=
 match v with
 | .agg l=>match sV kb s l with
  |some (p,us,is)=>some (p,.agg us,is)
  |none=>none
 |v=>vR kb s v
def jc (kb:KB):List Mode->List V->Option (Prop×List V×List Nat)
 |_,[]=>some (True,[],[])
 | .gj s::ss,v::vs=>match yt kb s v,jc kb ss vs with
  |some (p,u,is),some (q,us,js)=>some (p/\q,u::us,is++js)
  |_,_=>none
 | [],v::vs=>match jc kb [] vs with
  |some (p,us,is)=>some (p,v::us,is)
  |none=>none
 |_::ss,v::vs=>match jc kb ss vs with
  |some (p,us,is)=>some (p,v::us,is)
  |none=>none
open Classical in
noncomputable def nj (σ:Sg) (kb:KB) (is:List Nat) (W:World) (E:EH):EH:=fun b=>match E b with
 |some o=>some o
 |none=>if ∃ i∈is,∃ r o,σ[i]? =some r/\kb[i]? =some o/\owned r o b then W.heap[b]? else none
theorem un (σ:Sg) (kb:KB) (is:List Nat) (W:World) (E:EH):E.le (nj σ kb is W E):=fun b o h=>by simp [nj,h]
theorem QP {kb:KB} {s:Nat} {v u:V} {p:Prop} {is:List Nat} (h:vR kb s v=some (p,u,is)) (hp:p) {σ:Sg} {E:EH} {W:World} (hi:Inv σ E kb W) {x:Value} (hd:Den σ E v x) {js:List Nat} (mZ:∀ i∈is,i∈js):
  Den σ (nj σ kb js W E) u x:=by
 unfold vR at h
 split at h<;>try (cases h;done)
 rename_i sz q xs hsrc
 split at h<;>try (cases h;done)
 rename_i hfit
 simp only[bc.injEq,Prod.mk.injEq]at h
 obtain⟨rfl,rfl,rfl⟩:=h
 have hle:=un σ kb js W E
 by_cases PD:∃ l,v= .dat (.sl s l)/\xs=l
 ·obtain⟨l,rfl,rfl⟩:=PD
  simp only[Den]at hd ⊢
  exact hd.mono hle
 have hE:=uC hsrc hp hi hd hfit
 obtain⟨hw,a,cap,ys,rfl,hc,hD,ha⟩:=hE
 simp only[Den,bI]
 refine⟨a,cap,rfl,hc,?_⟩
 rcases ha with ha | ⟨b,o,rfl,ha⟩
 ·exact .inl ha
 by_cases h0:xs.length=0
 ·exact .inl h0
 refine .inr ⟨b,o,rfl,fh.of_flat hw ((hD.mono hle).rep fun j y hj=>?_)⟩
 have hcell:=ha j y hj
 have key:∀{i:Nat} {r:Re} {ob:KO},i∈th v->σ[i]? =some r->kb[i]? =some ob->owned r ob b->EH.cell (nj σ kb js W E) b (o+j)=some y:=by
  intro i r ob hin hr hk ho
  have hn:=hi.sep b ⟨i,r,ob,hr,hk,ho⟩
  have hlt:=(hi.obj i r ob hr hk).lt ho
  have hb:nj σ kb js W E b=W.heap[b]?:=by
   simp only[nj,hn]
   rw[if_pos ⟨i,mZ i hin,r,ob,hr,hk,ho⟩]
  unfold EH.cell
  rw[hb]
  unfold World.cell? at hcell
  simp only at hcell
  split at hcell<;>first | (rename_i e;rw[e];simpa using hcell) | (cases hcell)
 unfold tj at hsrc
 split at hsrc
 ·rename_i i lo hi'
  split at hsrc<;>try (cases hsrc;done)
  rename_i ty sz' l hl
  simp only[bc.injEq,Prod.mk.injEq]at hsrc
  obtain⟨rfl,rfl,rfl⟩:=hsrc
  simp only[Den]at hd
  obtain⟨r,ad,hr,e,g1,g2,g3⟩:=hd
  have hl0:((l.take hi').drop lo).length=hi' - lo:=by simp;omega
  simp only[Value.slice.injEq]at e
  have:=g3 (by omega)
  rw[<- e.1]at this
  cases this
  exact key (by simp [th]) hr hl ⟨by omega,rfl⟩
 ·rename_i sz' l
  simp only[bc.injEq,Prod.mk.injEq]at hsrc
  obtain⟨rfl,rfl,rfl⟩:=hsrc
  have:sz'=s:=cP hfit
  subst this
  exact(PD ⟨_,rfl,rfl⟩).elim
 ·simp only[bc.injEq,Prod.mk.injEq]at hsrc
  obtain⟨_,_,rfl⟩:=hsrc
  exact(h0 rfl).elim
 ·simp only[bc.injEq,Prod.mk.injEq]at hsrc
  obtain⟨_,_,rfl⟩:=hsrc
  exact(h0 rfl).elim
 ·rename_i i base o' s' n c
  split at hsrc<;>try (cases hsrc;done)
  rename_i l hl hb
  split at hsrc<;>try (cases hsrc;done)
  rename_i m cs hpc
  simp only[bc.injEq,Prod.mk.injEq]at hsrc
  obtain⟨_,rfl,rfl⟩:=hsrc
  simp only[Den]at hd
  obtain⟨r,ad,hr,e,g1,g3⟩:=hd
  simp only[Value.slice.injEq]at e
  have:=g3 (by omega)
  rw[<- e.1]at this
  cases this
  exact key (by simp [th]) hr hl rfl
 ·rename_i i ix o' s' n c
  split at hsrc<;>try (cases hsrc;done)
  rename_i ty sz' l hl hb
  simp only[bc.injEq,Prod.mk.injEq]at hsrc
  obtain⟨_,rfl,rfl⟩:=hsrc
  simp only[Den]at hd
  obtain⟨r,ad,hr,e,g1,g3⟩:=hd
  simp only[Value.slice.injEq]at e
  have:=g3 (by omega)
  rw[<- e.1]at this
  cases this
  have hk:=hi.obj i r _ hr hl
  obtain⟨_,_,k3,_,_⟩:=hk
  exact key (by simp [th]) hr hl ⟨by have:=hp.1;omega,rfl⟩
 ·cases hsrc
theorem Ip {kb:KB} {s:Nat} {σ:Sg} {E:EH} {W:World} (hi:Inv σ E kb W) {js:List Nat}:∀{vs us:List V} {p:Prop} {is:List Nat},sV kb s vs=some (p,us,is)->p->(∀ i∈is,i∈js)->∀{xs:List Value},aT σ E vs xs->aT σ (nj σ kb js W E) us xs
 | [],us,p,is,h,_,_,xs,hd=>by
  simp only[sV,bc.injEq,Prod.mk.injEq]at h
  obtain⟨_,rfl,_⟩:=h
  simpa only[aT]using hd
 |v::vs,us,p,is,h,hp,mZ,xs,hd=>by
  simp only[sV]at h
  obtain⟨ys,zs,rfl,h1,h2⟩:=hd.iI
  split at h<;>try (cases h;done)
  rename_i q ws ls hq
  split at h
  ·rename_i p1 u B1 h3
   simp only[bc.injEq,Prod.mk.injEq]at h
   obtain⟨rfl,rfl,rfl⟩:=h
   refine aT.cons ?_ (Ip hi hq hp.2 (fun i hi'=>mZ i (lD _ hi')) h2)
   rcases h1 with ⟨y,rfl,h4,h5⟩ | ⟨m,cs,rfl,_,_⟩
   ·exact .inl ⟨y,rfl,h4,QP h3 hp.1 hi h5 (fun i hi'=>mZ i (iM _ hi'))⟩
   ·cases h3
  ·simp only[bc.injEq,Prod.mk.injEq]at h
   obtain⟨rfl,rfl,rfl⟩:=h
   refine aT.cons ?_ (Ip hi hq hp mZ h2)
   rcases h1 with ⟨y,rfl,h4,h5⟩ | ⟨m,cs,rfl,h4,h5⟩
   ·exact .inl ⟨y,rfl,h4,by simpa using Den.mono (τ:=[]) (un σ kb js W E) h5⟩
   ·exact .inr ⟨m,cs,rfl,h4,h5.mono (un σ kb js W E)⟩
theorem aa5 {kb:KB} {s:Nat} {v u:V} {p:Prop} {is:List Nat} (h:yt kb s v=some (p,u,is)) (hp:p) {σ:Sg} {E:EH} {W:World} (hi:Inv σ E kb W) {x:Value} (hd:Den σ E v x) {js:List Nat} (mZ:∀ i∈is,i∈js):
  Den σ (nj σ kb js W E) u x:=by
 unfold yt at h
 split at h
 ·split at h<;>try (cases h;done)
  rename_i l p1 us B1 h1
  simp only[bc.injEq,Prod.mk.injEq]at h
  obtain⟨rfl,rfl,rfl⟩:=h
  simp only[Den]at hd ⊢
  obtain⟨vs,rfl,h2⟩:=hd
  exact⟨vs,rfl,Ip hi h1 hp mZ h2⟩
 ·exact QP h hp hi hd mZ
theorem Cg {kb:KB} {σ:Sg} {E:EH} {W:World} (hi:Inv σ E kb W) {js:List Nat}:∀{ss:List Mode} {vs us:List V} {p:Prop} {is:List Nat},jc kb ss vs=some (p,us,is)->p->(∀ i∈is,i∈js)->∀{xs:List Value},aq σ E vs xs->aq σ (nj σ kb js W E) us xs
 |ss,[],us,p,is,h,_,_,xs,hd=>by
  have:us=[]:=by
   cases ss with
   |nil=>simp only[jc,bc.injEq,Prod.mk.injEq]at h;exact h.2.1.symm
   |cons m ss=>cases m<;>(simp only[jc,bc.injEq,Prod.mk.injEq]at h;exact h.2.1.symm)
  subst this
  simpa only[aq]using hd
 | [],v::vs,us,p,is,h,hp,mZ,xs,hd=>by
  simp only[jc]at h
  split at h<;>try (cases h;done)
  rename_i q ws ks hq
  simp only[bc.injEq,Prod.mk.injEq]at h
  obtain⟨rfl,rfl,rfl⟩:=h
  simp only[aq]at hd ⊢
  obtain⟨x,xs',rfl,h1,h2⟩:=hd
  exact⟨x,xs',rfl,by simpa using Den.mono (τ:=[]) (un σ kb js W E) h1,Cg hi hq hp mZ h2⟩
 |m::ss,v::vs,us,p,is,h,hp,mZ,xs,hd=>by
  have plain:(match jc kb ss vs with | some (p,us,is)=>some (p,v::us,is) | none=>none)=some (p,us,is)->aq σ (nj σ kb js W E) us xs:=fun h=>by
   split at h<;>try (cases h;done)
   rename_i q ws ks hq
   simp only[bc.injEq,Prod.mk.injEq]at h
   obtain⟨rfl,rfl,rfl⟩:=h
   simp only[aq]at hd ⊢
   obtain⟨x,xs',rfl,h1,h2⟩:=hd
   exact⟨x,xs',rfl,by simpa using Den.mono (τ:=[]) (un σ kb js W E) h1,Cg hi hq hp mZ h2⟩
  cases m with
  |my=>exact plain (by simpa only[jc]using h)
  |fk s=>exact plain (by simpa only[jc]using h)
  |ig=>exact plain (by simpa only[jc]using h)
  |tail=>exact plain (by simpa only[jc]using h)
  |gj s=>
   simp only[jc]at h
   split at h<;>try (cases h;done)
   rename_i q u ks q' ws ls hq px
   simp only[bc.injEq,Prod.mk.injEq]at h
   obtain⟨rfl,rfl,rfl⟩:=h
   simp only[aq]at hd ⊢
   obtain⟨x,xs',rfl,h1,h2⟩:=hd
   exact⟨x,xs',rfl,aa5 hq hp.1 hi h1 (fun i hi'=>mZ i (iM _ hi')),Cg hi px hp.2 (fun i hi'=>mZ i (lD _ hi')) h2⟩
def D.isVal:D->Prop
 | .val _=>True
 | .sl .. =>False
def Plain (cs:List D):Prop:=∀ d∈cs,d.isVal
theorem bI.free {E E':EH} {d:D} (h:d.isVal) {x:Value} (hr:bI E d x):bI E' d x:=by
 cases d with
 |val v=>simpa only[bI]using hr
 |sl _ _=>exact h.elim
theorem a_.free {E E':EH}:∀{ds:List D} {xs:List Value},Plain ds->a_ E ds xs->a_ E' ds xs
 | [],_,_,hd=>by simpa only[a_]using hd
 |d::ds,_,h,hd=>by
  simp only[a_]at hd ⊢
  obtain⟨x,xs',h0,h1,h2⟩:=hd
  exact⟨x,xs',h0,h1.free (h d (by simp)),h2.free (fun e he=>h e (f_ _ he))⟩
structure o7 (cs:List D):Prop where
 ok:Plain cs
def FY:List (List D)->Prop
 | []=>True
 | [a]=>o7 a
 |a::b::l=>o7 a/\FY (b::l)
theorem NG:∀{l:List (List D)},FY l->∀ a∈l,Plain a
 | [],_,a,ha=>by cases ha
 | [b],h,a,ha=>by simp at ha;subst ha;exact h.ok
 |b::c::l,h,a,ha=>by
  rcases eI.1 ha with rfl | ha
  ·exact h.1.ok
  ·exact NG h.2 a ha
mutual
def V.free:V->Option (List (List D))
 | .cF .. =>none
 | .af _=>none
 | .imp .. =>none
 | .dat (.sl ..)=>none
 | .arr _ cs=>some [cs]
 | .agg l=>V.q_ l
 | .χ l=>V.q_ l
 | .fn _ l=>V.q_ l
 | .dat d=>some [[d]]
 |_=>some []
def V.q_:List V->Option (List (List D))
 | []=>some []
 |v::vs=>match V.free v with
  |some p=>match V.q_ vs with | some q=>some (p++q) | none=>none
  |none=>none
end
mutual
theorem Den.free {σ:Sg} {E E':EH}:∀{v:V} {ps:List (List D)},V.free v=some ps->(∀ p∈ps,Plain p)->∀{x:Value},Den σ E v x->Den σ E' v x
 | .any _,_,_,_,_,hd | .int ..,_,_,_,_,hd | .lit ..,_,_,_,_,hd | .sb _,_,_,_,_,hd | .tt,_,_,_,_,hd | .ff,_,_,_,_,hd | .ptr ..,_,_,_,_,hd | .pa ..,_,_,_,_,hd | .sl ..,_,_,_,_,hd
 | .pe ..,_,_,_,_,hd | .pw ..,_,_,_,_,hd | .e0,_,_,_,_,hd | .sa ..,_,_,_,_,hd | .se ..,_,_,_,_,hd | .mp _,_,_,_,_,hd | .ch _,_,_,_,_,hd=>by simpa only[Den]using hd
 | .arr ..,_,_,_,_,hd=>by simp only[Den]at hd
 | .cF ..,_,h,_,_,_=>by simp [V.free]at h
 | .af _,_,h,_,_,_=>by simp [V.free]at h
 | .imp ..,_,h,_,_,_=>by simp [V.free]at h
 | .dat d,ps,h,hp,x,hd=>by
  cases d with
  |val v=>simpa only[Den,bI]using hd
  |sl _ _=>simp [V.free]at h
 | .agg l,ps,h,hp,x,hd=>by
  simp only[V.free]at h
  simp only[Den]at hd ⊢
  obtain⟨vs,h1,h2⟩:=hd
  exact⟨vs,h1,aT.free h hp h2⟩
 | .χ l,ps,h,hp,x,hd=>by
  simp only[V.free]at h
  simp only[Den]at hd ⊢
  obtain⟨vs,h1,h2⟩:=hd
  exact⟨vs,h1,aq.free h hp h2⟩
 | .fn f l,ps,h,hp,x,hd=>by
  simp only[V.free]at h
  simp only[Den]at hd ⊢
  obtain⟨vs,h1,h2⟩:=hd
  exact⟨vs,h1,aq.free h hp h2⟩
theorem aq.free {σ:Sg} {E E':EH}:∀{vs:List V} {ps:List (List D)},V.q_ vs=some ps->(∀ p∈ps,Plain p)->∀{xs:List Value},aq σ E vs xs->aq σ E' vs xs
 | [],_,_,_,_,hd=>by simpa only[aq]using hd
 |v::vs,ps,h,hp,xs,hd=>by
  simp only[V.q_]at h
  split at h<;>try (cases h;done)
  rename_i p h1
  split at h<;>try (cases h;done)
  rename_i q h2
  cases h
  simp only[aq]at hd ⊢
  obtain⟨x,xs',h0,k1,k2⟩:=hd
  exact⟨x,xs',h0,Den.free h1 (fun a ha=>hp a (iM _ ha)) k1,aq.free h2 (fun a ha=>hp a (lD _ ha)) k2⟩
theorem aT.free {σ:Sg} {E E':EH}:∀{vs:List V} {ps:List (List D)},V.q_ vs=some ps->(∀ p∈ps,Plain p)->∀{xs:List Value},aT σ E vs xs->aT σ E' vs xs
 | [],_,_,_,_,hd=>by simpa only[aT]using hd
 |v::vs,ps,h,hp,xs,hd=>by
  simp only[V.q_]at h
  split at h<;>try (cases h;done)
  rename_i p h1
  split at h<;>try (cases h;done)
  rename_i q h2
  cases h
  simp only[aT]at hd ⊢
  obtain⟨ys,zs,h0,k1,k2⟩:=hd
  refine⟨ys,zs,h0,?_,aT.free h2 (fun a ha=>hp a (lD _ ha)) k2⟩
  rcases k1 with ⟨y,e,o,hy⟩ | ⟨m,cs,e,hl,hD⟩
  ·exact .inl ⟨y,e,o,Den.free h1 (fun a ha=>hp a (iM _ ha)) hy⟩
  ·subst e
   simp only[V.free,bc.injEq]at h1
   subst h1
   exact .inr ⟨m,cs,rfl,hl,hD.free (hp cs (by simp))⟩
end
def KO.free:KO->Option (List (List D))
 | .cells l=>V.q_ l
 | .row _ _ l=>some [l.flatten]
 | .mp _ _ _ _ l=>some [(l.map (·.2)).flatten]
 | .ch _ _ _ l=>some [l.flatten]
 | .objs _=>none
 | .jd _=>none
 | .dead=>some []
def Br:KB->Option (List (List D))
 | []=>some []
 |o::kb=>match KO.free o with
  |some p=>match Br kb with | some q=>some (p++q) | none=>none
  |none=>none
theorem cx.free {E E':EH} {ay:List IntKind} {aS agg:Bool}:∀{es:List MapEntry} {l:List (List Int×List D)},Plain (l.map (·.2)).flatten->cx E ay aS agg es l->cx E' ay aS agg es l
 | [],_,_,h=>by simpa only[cx]using h
 |e::es,_,hp,h=>by
  simp only[cx]at h ⊢
  obtain⟨k,c,l',rfl,⟨h1,h1',ys,h2,h3⟩,h4⟩:=h
  simp only[lY,jt]at hp
  exact⟨k,c,l',rfl,⟨h1,h1',ys,h2,h3.free (fun d hd=>hp d (iM _ hd))⟩,h4.free (fun d hd=>hp d (lD _ hd))⟩
theorem fF.free {E E':EH} {agg:Bool}:∀{vs:List Value} {l:List (List D)},Plain l.flatten->fF E agg vs l->fF E' agg vs l
 | [],_,_,h=>by simpa only[fF]using h
 |v::vs,_,hp,h=>by
  simp only[fF]at h ⊢
  obtain⟨c,l',rfl,⟨ys,h1,h2⟩,h3⟩:=h
  rw[jt]at hp
  exact⟨c,l',rfl,⟨ys,h1,h2.free (fun d hd=>hp d (iM _ hd))⟩,h3.free (fun d hd=>hp d (lD _ hd))⟩
theorem gp.free {σ:Sg} {E E':EH} {W:World} {r:Re} {o:KO} {ps:List (List D)} (h:KO.free o=some ps) (hp:∀ p∈ps,Plain p) (hh:gp σ E W r o):gp σ E' W r o:=by
 cases o with
 |cells l=>obtain⟨arr,ty,h1,h2⟩:=hh;exact⟨arr,ty,h1,aT.free h hp h2⟩
 |row ty sz l=>
  simp only[KO.free,bc.injEq]at h
  subst h
  obtain⟨h0,h1,h2,h3,h4⟩:=hh
  exact⟨h0,h1,h2,h3,h4.elim .inl fun⟨arr,k1,k2,k3⟩=> .inr ⟨arr,k1,k2,k3.free (hp _ (by simp))⟩⟩
 |mp ay aS agg sz l=>
  simp only[KO.free,bc.injEq]at h
  subst h
  obtain⟨h0,es,ck,h1,h2,h3⟩:=hh
  exact⟨h0,es,ck,h1,h2.free (hp _ (by simp)),h3⟩
 |ch agg sz cap l=>
  simp only[KO.free,bc.injEq]at h
  subst h
  obtain⟨h0,x6,bf,s,rr,h1,h2⟩:=hh
  exact⟨h0,x6,bf,s,rr,h1,h2.free (hp _ (by simp))⟩
 |objs A=>simp [KO.free]at h
 |jd a=>simp [KO.free]at h
 |dead=>trivial
theorem O0:∀{kb:KB} {ps:List (List D)},Br kb=some ps->(∀ p∈ps,Plain p)->∀(i:Nat) (o:KO),kb[i]? =some o->∃ qs,KO.free o=some qs/\∀ q∈qs,Plain q
 | [],_,_,_,i,o,ho=>by simp at ho
 |x::kb,ps,h,hp,i,o,ho=>by
  simp only[Br]at h
  split at h<;>try (cases h;done)
  rename_i p h1
  split at h<;>try (cases h;done)
  rename_i q h2
  cases h
  cases i with
  |zero=>simp at ho;subst ho;exact⟨p,h1,fun a ha=>hp a (iM _ ha)⟩
  |succ i=>exact O0 h2 (fun a ha=>hp a (lD _ ha)) i o (by simpa using ho)
def Bf:List Nat->List Nat->Bool
 | [],_=>true
 |i::is,o=>match yx o i with | true=>false | false=>Bf is o
theorem N5:∀{is o:List Nat},Bf is o=true->∀ i∈is,i ∉ o
 |i::is,o,h,j,hj=>by
  simp only[Bf]at h
  split at h
  ·cases h
  ·rename_i hm
   rcases eI.1 hj with rfl | hj
   ·intro hin
    obtain⟨k,hk⟩:=BW hin
    simp [yx,hk]at hm
   ·exact N5 h j hj
def Kj (S:aD) (ms:List Mode) (args:List V) (kb:KB) (K:V->KB->Prop):Prop:=
 sL ms args kb (fun args kb=>match jc kb ms args with
  |some (_,args1,[])=>y0 S args1 kb K
  |some (p,args1,is)=>p/\(match sC false 0 args1 kb with
   |some (args',sub,o)=>match Bf is o with
    |true=>S args' sub (fun r bF=>match Nat.ble o.length bF.length,V.bU (j6 o kb.length) r,sy bF o (j6 o kb.length) 0 kb,V.free r,Br bF with
     |true,some r',some kb',some ps,some qs=>FY (ps++qs)/\K r' kb'
     |_,_,_,_,_=>False)
    |false=>False
   |none=>False)
  |none=>False)
theorem QO {kb:KB} {s:Nat} {v u:V} {q:Prop} (hq:vR kb s v=some (q,u,[])) {σ:Sg} {E:EH} {x:Value} (h1:Den σ E v x):Den σ E u x:=by
 unfold vR at hq
 split at hq<;>try (cases hq;done)
 rename_i sz r VN hsrc
 split at hq<;>try (cases hq;done)
 rename_i hfit
 simp only[bc.injEq,Prod.mk.injEq]at hq
 obtain⟨_,rfl,HJ⟩:=hq
 unfold tj at hsrc
 split at hsrc
 ·simp [th]at HJ
 ·simp only[bc.injEq,Prod.mk.injEq]at hsrc
  obtain⟨rfl,_,rfl⟩:=hsrc
  have: _=s:=cP hfit
  subst this
  exact h1
 ·simp only[bc.injEq,Prod.mk.injEq]at hsrc
  obtain⟨_,_,rfl⟩:=hsrc
  simp only[Den]at h1
  subst h1
  simp only[Den,bI]
  exact⟨none,0,rfl,au _,.inl rfl⟩
 ·simp only[bc.injEq,Prod.mk.injEq]at hsrc
  obtain⟨_,_,rfl⟩:=hsrc
  simp only[Den]at h1
  obtain⟨a,rfl⟩:=h1
  simp only[Den,bI]
  exact⟨a,0,rfl,au _,.inl rfl⟩
 ·simp [th]at HJ
 ·simp [th]at HJ
 ·cases hsrc
theorem Io {kb:KB} {s:Nat} {σ:Sg} {E:EH}:∀{vs us:List V} {p:Prop},sV kb s vs=some (p,us,[])->∀{xs:List Value},aT σ E vs xs->aT σ E us xs
 | [],us,p,h,xs,hd=>by
  simp only[sV,bc.injEq,Prod.mk.injEq]at h
  obtain⟨_,rfl,_⟩:=h
  exact hd
 |v::vs,us,p,h,xs,hd=>by
  simp only[sV]at h
  obtain⟨ys,zs,rfl,h1,h2⟩:=hd.iI
  split at h<;>try (cases h;done)
  rename_i q ws ls hq
  split at h
  ·rename_i p1 u B1 h3
   simp only[bc.injEq,Prod.mk.injEq]at h
   obtain⟨rfl,rfl,he⟩:=h
   have hk:B1=[]/\ls=[]:=List.append_eq_nil_iff.1 he
   obtain⟨rfl,rfl⟩:=hk
   refine aT.cons ?_ (Io hq h2)
   rcases h1 with ⟨y,rfl,h4,h5⟩ | ⟨m,cs,rfl,_,_⟩
   ·exact .inl ⟨y,rfl,h4,QO h3 h5⟩
   ·cases h3
  ·simp only[bc.injEq,Prod.mk.injEq]at h
   obtain⟨rfl,rfl,rfl⟩:=h
   exact aT.cons h1 (Io hq h2)
theorem aa4 {kb:KB} {s:Nat} {v u:V} {q:Prop} (hq:yt kb s v=some (q,u,[])) {σ:Sg} {E:EH} {x:Value} (h1:Den σ E v x):Den σ E u x:=by
 unfold yt at hq
 split at hq
 ·split at hq<;>try (cases hq;done)
  rename_i l p1 us B1 h2
  simp only[bc.injEq,Prod.mk.injEq]at hq
  obtain⟨rfl,rfl,rfl⟩:=hq
  simp only[Den]at h1 ⊢
  obtain⟨vs,rfl,h3⟩:=h1
  exact⟨vs,rfl,Io h2 h3⟩
 ·exact QO hq h1
theorem Cf {kb:KB} {σ:Sg} {E:EH} {W:World} (hi:Inv σ E kb W):∀{ss:List Mode} {vs us:List V} {p:Prop},jc kb ss vs=some (p,us,[])->∀{xs:List Value},aq σ E vs xs->aq σ E us xs
 |ss,[],us,p,h,xs,hd=>by
  have:us=[]:=by
   cases ss with
   |nil=>simp only[jc,bc.injEq,Prod.mk.injEq]at h;exact h.2.1.symm
   |cons m ss=>cases m<;>(simp only[jc,bc.injEq,Prod.mk.injEq]at h;exact h.2.1.symm)
  subst this
  simpa only[aq]using hd
 | [],v::vs,us,p,h,xs,hd=>by
  simp only[jc]at h
  split at h<;>try (cases h;done)
  rename_i q ws ks hq
  simp only[bc.injEq,Prod.mk.injEq]at h
  obtain⟨rfl,rfl,rfl⟩:=h
  simp only[aq]at hd ⊢
  obtain⟨x,xs',rfl,h1,h2⟩:=hd
  exact⟨x,xs',rfl,h1,Cf hi hq h2⟩
 |m::ss,v::vs,us,p,h,xs,hd=>by
  have plain:(match jc kb ss vs with | some (p,us,is)=>some (p,v::us,is) | none=>none)=some (p,us,[])->aq σ E us xs:=fun h=>by
   split at h<;>try (cases h;done)
   rename_i q ws ks hq
   simp only[bc.injEq,Prod.mk.injEq]at h
   obtain⟨rfl,rfl,rfl⟩:=h
   simp only[aq]at hd ⊢
   obtain⟨x,xs',rfl,h1,h2⟩:=hd
   exact⟨x,xs',rfl,h1,Cf hi hq h2⟩
  cases m with
  |my=>exact plain (by simpa only[jc]using h)
  |fk s=>exact plain (by simpa only[jc]using h)
  |ig=>exact plain (by simpa only[jc]using h)
  |tail=>exact plain (by simpa only[jc]using h)
  |gj s=>
   simp only[jc]at h
   split at h<;>try (cases h;done)
   rename_i q u ks q' ws ls hq px
   simp only[bc.injEq,Prod.mk.injEq]at h
   obtain⟨rfl,rfl,he⟩:=h
   have hk:ks=[]/\ls=[]:=List.append_eq_nil_iff.1 he
   obtain⟨rfl,rfl⟩:=hk
   simp only[aq]at hd ⊢
   obtain⟨x,xs',rfl,h1,h2⟩:=hd
   refine⟨x,xs',rfl,?_,Cf hi px h2⟩
   exact aa4 hq h1
theorem ae5 {P:Program} {f:FuncId} {S:aD} (hS:aR P f S) {ms:List Mode} {args:List V} {kb:KB} {K:V->KB->Prop} (h:Kj S ms args kb K) {σ:Sg} {E:EH} {W:World} {xs:List Value} (hi:Inv σ E kb W) (hd:aq σ E args xs):
  Calls P f xs.toArray W (fun e W'=>∃ v r σ' E' kb',e= .returned v/\Step σ E kb W σ' E' kb' W'/\Den σ' E' r v/\K r kb'):=by
 unfold Kj at h
 obtain⟨E0,rG,us0,s0,d0,h⟩:=x5 h hi hd
 suffices body:Calls P f xs.toArray W (fun e W'=>∃ v r σ' E' kb',e= .returned v/\Step σ E0 rG W σ' E' kb' W'/\Den σ' E' r v/\K r kb') by
  refine body.mono ?_
  rintro e W' ⟨v,r,σ',E',kb',h1,h2,h3,h4⟩
  exact⟨v,r,σ',E',kb',h1,s0.trans h2,h3,h4⟩
 replace hi:=s0.inv
 replace hd:=d0
 clear s0 d0
 generalize E0=E at*
 generalize rG=kb at*
 generalize us0=args at*
 split at h<;>try exact h.elim
 ·rename_i q args1 HM
  exact Dp hS h hi (Cf hi HM hd)
 rename_i p args1 is _ HM
 obtain⟨hp,h⟩:=h
 split at h<;>try exact h.elim
 rename_i args' sub o hc
 split at h<;>try exact h.elim
 rename_i Z3
 obtain⟨hn,_,rq,hsel⟩:=qT hc
 obtain⟨k1,k2,k3⟩:=hi.sel hn hsel
 obtain⟨kB,di⟩:=wv hsel
 have hdj:=N5 Z3
 have Z0:=Cg hi (js:=is) HM hp (fun i h=>h) hd
 have nc:∀ b,ct (dS σ o) sub b->∀(j:Nat) (r:Re) (ob:KO),j ∉ o->σ[j]? =some r->kb[j]? =some ob->owned r ob b->False:=by
  intro b hb j r ob hj h1 h2 h3
  obtain⟨i,r2,o2,g1,g2,g3,g4⟩:=JA hi.len hsel hb
  exact hi.dA i j r2 r o2 ob b (fun e=>by subst e;exact hj g1) g2 g3 h1 h2 g4 h3
 have k1':Inv (dS σ o) (nj σ kb is W E) sub W:=by
  refine⟨k1.len,fun i r ob h1 h2=>?_,k1.dA,fun b x hb=>?_,fun b hb=>?_⟩
  ·simpa using(k1.obj i r ob h1 h2).mono (τ:=[]) (W':=W) (un σ kb is W E) (fun _ _=>rfl)
  ·simp only[nj]at hb
   split at hb
   ·rename_i x' hx;rw[<- hb];exact k1.dj b x' hx
   ·split at hb
    ·exact hb
    ·cases hb
  ·have h0:=k1.sep b hb
   simp only[nj,h0]
   rw[if_neg]
   rintro⟨i,hi',r,ob,hr,hk,ho⟩
   exact nc _ hb i r ob (hdj i hi') hr hk ho
 refine(hS args' sub _ h (dS σ o) (nj σ kb is W E) W xs k1' (aq.bU k3 rq Z0)).mono ?_
 rintro e W' ⟨v,r,σs,E',bF,rfl,hst,eM,hK⟩
 split at hK<;>try exact hK.elim
 rename_i r' kb' ps qs Ho hr' hkb' Z6 Z7
 obtain⟨sR,hK⟩:=hK
 have Qe:=NG sR
 have hle:=Nat.le_of_ble_eq_true Ho
 obtain⟨τ,oJ⟩:=hst.pre
 have HZ:(dS σ o).length=o.length:=by simp [dS]
 have hl2:σs.length=bF.length:=hst.inv.len
 obtain⟨hout,Hr⟩:=Fu hkb'
 let nH:=σ++σs.drop o.length
 have rC:∀ i j r,j6 o kb.length i=some j->σs[i]? =some r->nH[j]? =some r:=by
  intro i j r hb hr
  unfold j6 at hb
  split at hb
  ·rename_i q hq
   cases hb
   have hil:i<o.length:=(bO.1 hq).1
   rw[oJ,dX (by rw[HZ];exact hil)]at hr
   simp only[dS,fH,hq,Option.map_some,bc.injEq]at hr
   obtain⟨ob,_,qf,_,_⟩:=di i j hq
   have hjl:j<σ.length:=by rw[hi.len];exact(bO.1 qf).1
   rw[bz hjl]at hr
   simp only[Option.getD_some]at hr
   show(σ++_)[j]? =_
   rw[dX hjl,bz hjl,hr]
  ·rename_i hq
   cases hb
   have hil:o.length<=i:=by
    rcases jF i o.length with h' | h'
    ·rw[bz h']at hq;cases hq
    ·exact h'
   show(σ++_)[_]? =_
   rw[e_ (by rw[hi.len];omega),hi.len,show kb.length+(i - o.length) - kb.length=i - o.length by omega,jE,show o.length+(i - o.length)=i by omega]
   exact hr
 have eU:∀(i:Nat) (r:Re) (ob:KO),nH[i]? =some r->kb'[i]? =some ob->
   (∃ k a,j6 o kb.length k=some i/\σs[k]? =some r/\bF[k]? =some a/\KO.bU (j6 o kb.length) a=some ob)∨(i ∉ o/\σ[i]? =some r/\kb[i]? =some ob):=by
  intro i r ob h1 h2
  rcases Hr i ob h2 with ⟨c1,c2,c3⟩ | ⟨c1,k,a,c2,c3,c4⟩ | ⟨c1,a,c2,c3⟩
  ·rw[cQ]at c2
   have h1':(σ++σs.drop o.length)[i]? =some r:=h1
   rw[dX (by rw[hi.len];exact c1)]at h1'
   exact .inr ⟨Qr c2,h1',c3⟩
  ·rw[cQ]at c2
   have hk:=BX c2
   have j_:k<σs.length:=by rw[hl2];exact(bO.1 c3).1
   have hb:j6 o kb.length k=some i:=by simp [j6,hk]
   have:=rC k i _ hb (bz j_)
   rw[this]at h1
   exact .inl ⟨k,a,hb,by rw[bz j_];exact h1,c3,c4⟩
  ·have hb:j6 o kb.length (o.length+(i - kb.length))=some i:=by
    have:o[o.length+(i - kb.length)]? =none:=g_ (by omega)
    simp only[j6,this]
    congr 1
    omega
   have j_:o.length+(i - kb.length)<σs.length:=by rw[hl2];exact(bO.1 c2).1
   have:=rC _ i _ hb (bz j_)
   rw[this]at h1
   exact .inl ⟨_,a,hb,by rw[bz j_];exact h1,c2,c3⟩
 have HT:∀(j:Nat) (r:Re) (ob:KO),j ∉ o->σ[j]? =some r->kb[j]? =some ob->∀ b,owned r ob b->W'.heap[b]? =W.heap[b]?:=by
  intro j r ob hj h1 h2 b h3
  exact hst.bM.block b ((hi.obj j r ob h1 h2).lt h3) (fun hb=>nc b hb j r ob hj h1 h2 h3)
 have rn:∀ b (k:Nat) (r:Re) (a:KO),σs[k]? =some r->bF[k]? =some a->owned r a b->ct (dS σ o) sub b∨W.heap.size<=b:=fun b k r a h1 h2 h3=>hst.own b ⟨k,r,a,h1,h2,h3⟩
 have hown:∀ b,ct nH kb' b->ct σ kb b∨W.heap.size<=b:=by
  rintro b ⟨i,r,ob,h1,h2,h3⟩
  rcases eU i r ob h1 h2 with ⟨k,a,_,g2,g3,g4⟩ | ⟨g1,g2,g3⟩
  ·rcases rn b k r a g2 g3 ((mg g4).1 h3)with h4 | h4
   ·exact .inl (k2 b h4)
   ·exact .inr h4
  ·exact .inl ⟨i,r,ob,g2,g3,h3⟩
 have Pa:E.le E':=(un σ kb is W E).trans hst.le
 refine⟨v,r',nH,E,kb',rfl,⟨⟨?_,fun i r ob h1 h2=>?_,fun i j r1 r2 o1 o2 b hij h1 h2 h3 h4 h5 h6=>?_,fun b x hb=>hst.inv.dj b x (Pa b x hb),fun b hb=>?_⟩,⟨hst.bM.os,hst.bM.tape,hst.bM.output,hst.bM.size,fun b hb hn'=>hst.bM.block b hb (fun h=>hn' (k2 b h))⟩,⟨_,rfl⟩,EH.le.refl E,hown,fun b x hb=> .inl hb⟩,Den.bU rC hr' (Den.free Z6 (fun p hp=>Qe p (iM _ hp)) eM),hK⟩
 ·simp only[nH,bo,fZ,hout,hi.len,hl2]
 ·rcases eU i r ob h1 h2 with ⟨k,a,_,g2,g3,g4⟩ | ⟨g1,g2,g3⟩
  ·obtain⟨us,u1,u2⟩:=O0 Z7 (fun p hp=>Qe p (lD _ hp)) k a g3
   exact((hst.inv.obj k r a g2 g3).free u1 u2).bU rC g4
  ·exact(hi.obj i r ob g2 g3).mono (EH.le.refl E) (fun b hb=>HT i r ob g1 g2 g3 b hb)
 ·rcases eU i r1 o1 h1 h2 with ⟨k,a,g1,g2,g3,g4⟩ | ⟨g1,g2,g3⟩<;>rcases eU j r2 o2 h3 h4 with ⟨m,a',q1,q2,q3,q4⟩ | ⟨q1,q2,q3⟩
  ·refine hst.inv.dA k m r1 r2 a a' b (fun e=>?_) g2 g3 q2 q3 ((mg g4).1 h5) ((mg q4).1 h6)
   subst e
   rw[g1]at q1
   cases q1
   exact hij rfl
  ·rcases rn b k r1 a g2 g3 ((mg g4).1 h5)with h7 | h7
   ·exact nc b h7 j r2 o2 q1 q2 q3 h6
   ·have:=(hi.obj j r2 o2 q2 q3).lt h6;omega
  ·rcases rn b m r2 a' q2 q3 ((mg q4).1 h6)with h7 | h7
   ·exact nc b h7 i r1 o1 g1 g2 g3 h5
   ·have:=(hi.obj i r1 o1 g2 g3).lt h5;omega
  ·exact hi.dA i j r1 r2 o1 o2 b hij g2 g3 q2 q3 h5 h6
 ·obtain⟨i,r,ob,h1,h2,h3⟩:=hb
  rcases eU i r ob h1 h2 with ⟨k,a,_,g2,g3,g4⟩ | ⟨g1,g2,g3⟩
  ·cases hE:E b with
   |none=>rfl
   |some x=>
    have h0:=hst.inv.sep b ⟨k,r,a,g2,g3,(mg g4).1 h3⟩
    have:=Pa b x hE
    rw[h0]at this;cases this
  ·exact hi.sep b ⟨i,r,ob,g2,g3,h3⟩
structure dK where
 Ra:List Mode
 S:aD
def dU (P:Program) (Sp:FuncId->Option dK) (T:FuncId->Nat->Option LI):Nat->bN
 | 0=>fun _ _ _ _=>False
 |d+1=>fun f args kb K=>match Sp f with
  |some k=>match k.Ra with
   | []=>y0 k.S args kb K
   | .ig:: _=>Kk k.S args kb K
   | .tail:: _=>Km k.S args kb K
   |ms=>Kj k.S ms args kb K
  |none=>C6 P (dU P Sp T d) (T f) f args kb K
def LU (P:Program) (f:FuncId) (S:aD):List Mode->Prop
 | .tail:: _=>gq P f S
 |_=>aR P f S
def dP (P:Program) (Sp:FuncId->Option dK):Prop:=∀ f k,Sp f=some k->LU P f k.S k.Ra
theorem dY {P:Program} (hm:P.follows .mixedOrders=true) {Sp:FuncId->Option dK} (hS:dP P Sp) (T:FuncId->Nat->Option LI):∀ d,b9 P (dU P Sp T d)
 | 0=>fun f args kb K h=>h.elim
 |d+1=>fun f args kb K h σ E W xs hi hd=>by
  simp only[dU]at h
  split at h
  ·rename_i k hk
   split at h
   ·rename_i hm;have:=hS f k hk;rw[hm]at this;exact Dp this h hi hd
   ·rename_i hm;have:=hS f k hk;rw[hm]at this;exact T5 this h hi hd
   ·rename_i hm;have:=hS f k hk;rw[hm]at this;exact ae6 this h hi hd
   ·rename_i h1 h2 h3;have:=hS f k hk;unfold LU at this;split at this
    ·rename_i l hm;exact absurd hm (h3 l)
    ·exact ae5 this h hi hd
  ·exact TC (dY hm hS T d) hm h hi hd
def aK (P:Program) (X:bN) (T:Nat->Option LI) (f:FuncId) (args:List V) (kb:KB) (K:V->KB->Prop):Prop:=
 C6 P X T f args kb (fun r kb'=>match canon kb.length [r] kb' with
  |some ([r'],kb',_)=>K r' kb'
  |_=>False)
theorem TD {P:Program} {X:bN} (hX:b9 P X) (hm:P.follows .mixedOrders=true) {T:Nat->Option LI} {f:FuncId} {args:List V} {kb:KB} {K:V->KB->Prop} (h:aK P X T f args kb K) {σ:Sg} {E:EH} {W:World} {xs:List Value} (hi:Inv σ E kb W)
  (hd:aq σ E args xs):Calls P f xs.toArray W (fun e W'=>∃ v r σ' E' kb',e= .returned v/\Step σ E kb W σ' E' kb' W'/\Den σ' E' r v/\K r kb'):=by
 refine(TC hX hm h hi hd).mono ?_
 rintro e W' ⟨v,r,σ',E',kb',rfl,h1,h2,h3⟩
 split at h3<;>try exact h3.elim
 rename_i r' bF o hc
 rw[<- hi.len]at hc
 obtain⟨σ2,h4,h5⟩:=Step.sel (c:=⟨σ,E,kb,W⟩) h1 hc (.cons h2 .nil)
 simp only[aq]at h5
 obtain⟨x,xs',he,h6,rfl⟩:=h5
 cases he
 exact⟨v,r',σ2,E',bF,rfl,h4,h6,h3⟩
def B6:V->Prop
 | .tt=>True
 | .sb b=>b=true
 |_=>False
theorem aaH {v:V} (h:B6 v) {σ:Sg} {E:EH} {x:Value} (hd:Den σ E v x):x= .bool true:=by
 cases v<;>simp only[B6]at h
 ·subst h;simpa [Den]using hd
 ·simpa [Den]using hd
def o9 (W:World):EH:=fun b=>W.heap[b]?
theorem aaD (W:World):Inv [] (o9 W) [] W:=
 ⟨rfl,fun i r o h=>by simp at h,fun i j r r' o o' b _ h=>by simp at h,fun b o h=>h,fun b ⟨i,r,o,h,_⟩=>by simp at h⟩
theorem aaV {P:Program} {X:bN} (hX:b9 P X) {f:FuncId} {args:List V} (h:X f args [] (fun r _=>B6 r)) {W:World} {xs:List Value} (hd:aq [] (o9 W) args xs):
  Calls P f xs.toArray W (fun e W'=>e= .returned (.bool true)/\RowKit.Below W.heap.size W W'):=by
 refine(hX f args [] _ h [] (o9 W) W xs (aaD W) hd).mono ?_
 rintro e W' ⟨v,r,σ',E',kb',rfl,h1,h2,h3⟩
 refine⟨by rw[aaH h3 h2],⟨h1.bM.os,h1.bM.tape,h1.bM.output,h1.bM.size,fun k hk=>h1.bM.block k hk (fun⟨i,r,o,h,_⟩=>by simp at h)⟩⟩
inductive SH where
 |int (k:IntKind)
 |bool
 |sl (es:List SH)
mutual
def tC:SH->D->Prop
 | .int k,d=>∃ n,d= .val (.int k n)/\(Lit.int k n).wf=true
 | .bool,d=>∃ b,d= .val (.bool b)
 | .sl es,d=>∃ l,d= .sl es.length l/\l.length<=maxLen/\∀ e∈l,gP es e
def gP:List SH->List D->Prop
 | [],ds=>ds=[]
 |s::ss,ds=>∃ d ds',ds=d::ds'/\tC s d/\gP ss ds'
end
theorem gP.len:∀{ks:List SH} {vs:List D},gP ks vs->vs.length=ks.length
 | [],_,h=>by simp only[gP]at h;simp [h]
 |k::ks,_,h=>by simp only[gP]at h;obtain⟨v,vs',rfl,_,h2⟩:=h;simp [gP.len h2]
theorem gP.append:∀{ks:List SH} {vs:List D},gP ks vs->∀{ls:List SH} {us:List D},gP ls us->gP (ks++ls) (vs++us)
 | [],_,h,_,_,k=>by simp only[gP]at h;subst h;simpa using k
 |k::ks,_,h,_,_,k'=>by
  simp only[gP]at h
  obtain⟨v,vs',rfl,h1,h2⟩:=h
  simp only[List.cons_append,gP]
  exact⟨v,_,rfl,h1,h2.append k'⟩
def pN (P:Program):Nat->TypeId->Option (List SH)
 | 0,_=>none
 |n+1,t=>
  match P.underlying t with
  |some .bool=>some [.bool]
  |some (.int k)=>some [.int k]
  |some (.slice e)=>match pN P n e with
   |some (s::ss)=>match cq (s::ss).length (P.cellsOf e)with
    |true=>some [.sl (s::ss)]
    |false=>none
   |_=>none
  |some (.struct fs)=>fs.toList.foldl (fun acc f=>match acc,pN P n f.type with
   |some ks,some l=>match cq ks.length f.offset,cq l.length (P.cellsOf f.type)with
    |true,true=>some (ks++l)
    |_,_=>none
   |_,_=>none) (some [])
  |some (.array m e)=>match pN P n e with
   |some l=>match cq l.length (P.cellsOf e)with
    |true=>some (dp m l).flatten
    |false=>none
   |none=>none
  |_=>none
theorem yw {α β:Type} {f:α->Option β}:∀{l:List α} {r:List β},l.mapM f=some r->r.length=l.length/\∀(i:Nat) (a:α),l[i]? =some a->∃ b,f a=some b/\r[i]? =some b
 | [],r,h=>by simp at h;subst h;simp
 |a::l,r,h=>by
  simp only[List.mapM_cons,Option.bind_eq_bind,kW,Option.pure_def,bc.injEq]at h
  obtain⟨b,hb,rs,hrs,rfl⟩:=h
  obtain⟨h1,h2⟩:=yw hrs
  refine⟨by simp [h1],fun i x hx=>?_⟩
  cases i with
  |zero=>simp at hx;subst hx;exact⟨b,hb,rfl⟩
  |succ i=>simpa using h2 i x (by simpa using hx)
section
variable {H:Type} {enc:TypeId×Value->H} {P:Program} {w:World} {base:Nat} {spare:Nat->Bool} {held:Bool}
theorem FL {a:Addr} {n:Nat} {cs:List Value} (h:w.cells? base a n=some cs):cs.length=n/\∀(j:Nat) (x:Value),cs[j]? =some x->w.cell? (a.add j)=some x:=by
 unfold World.cells? at h
 split at h
 ·obtain⟨h1,h2⟩:=yw h
  refine⟨by simpa using h1,fun j x hj=>?_⟩
  have hlt:j<n:=by
   have:=(bO.1 hj).1
   rw[h1]at this
   simpa using this
  obtain⟨b,hb,gh⟩:=h2 j j (by simp [hlt])
  rw[hj]at gh;cases gh
  exact hb
 ·cases h
def mu (w:World) (ks:List SH) (cs:List Value):Prop:=∃ ds,a_ (o9 w) ds cs/\gP ks ds
theorem mu.append {ks ls:List SH} {cs es:List Value} (h:mu w ks cs) (k:mu w ls es):mu w (ks++ls) (cs++es):=by
 obtain⟨ds,h1,h2⟩:=h
 obtain⟨us,k1,k2⟩:=k
 exact⟨ds++us,h1.append k1,h2.append k2⟩
theorem mu.nil:mu w [] []:=⟨[],.nil,by simp [gP]⟩
theorem mu.len {ks:List SH} {cs:List Value} (h:mu w ks cs):cs.length=ks.length:=by
 obtain⟨ds,h1,h2⟩:=h
 rw[h1.len,h2.len]
theorem DF:∀(m fuel:Nat) (t:TypeId) (cs:List Value) (ks:List SH) (x:DataW H×List MemPlace),pN P m t=some ks->DataW.trod enc P w base spare held fuel t cs=some x->mu w ks (cs.take ks.length)
 | 0,_,_,_,_,_,h,_=>by simp [pN]at h
 |m+1,0,_,_,_,_,_,h=>by simp [DataW.trod]at h
 |m+1,fuel+1,t,cs,ks,x,hs,hx=>by
  simp only[pN]at hs
  unfold DataW.trod at hx
  split at hs
  ·rename_i ht
   cases hs
   simp only[ht]at hx
   split at hx<;>try (simp at hx;done)
   all_goals rename_i heq;simp at heq
   exact⟨[.val _],.cons (show bI _ (.val _) _ from⟨rfl,rfl⟩) .nil,by simp only[gP,tC];exact⟨_,[],rfl,⟨_,rfl⟩,rfl⟩⟩
  ·rename_i k ht
   cases hs
   simp only[ht]at hx
   split at hx<;>try (simp at hx;done)
   all_goals rename_i heq;simp at heq
   subst heq
   split at hx
   ·rename_i hc
    obtain⟨rfl,hw⟩:=hc
    exact⟨[.val _],.cons (show bI _ (.val _) _ from⟨rfl,rfl⟩) .nil,by simp only[gP,tC];exact⟨_,[],rfl,⟨_,rfl,hw⟩,rfl⟩⟩
   ·cases hx
  ·rename_i e ht
   split at hs<;>try (cases hs;done)
   rename_i s0 ss0 sQ
   split at hs<;>try (cases hs;done)
   rename_i hb
   cases hs
   have hc:=(cP hb).symm
   obtain⟨es,PR⟩:∃ es,es=s0::ss0:=⟨_,rfl⟩
   rw[<- PR]at sQ hc ⊢
   have hk:0<es.length:=by rw[PR];simp
   simp only[ht]at hx
   have wrap:∀{v:Value} {l:List (List D)},bI (o9 w) (.sl es.length l) v->l.length<=maxLen->(∀ e∈l,gP es e)->mu w [.sl es] [v]:=fun h1 h2 h3=>
    ⟨[.sl es.length _],.cons h1 .nil,by simp only[gP,tC];exact⟨_,[],rfl,⟨_,rfl,h2,h3⟩,rfl⟩⟩
   split at hx<;>try (simp at hx;done)
   all_goals try (rename_i heq;simp at heq;done)
   ·exact wrap (l:=[]) (by simp only[bI];exact⟨none,0,rfl,au _,.inl rfl⟩) (by simp) (fun e he=>by cases he)
   ·rename_i a len cap heq
    simp only[bc.injEq,TypeDesc.slice.injEq]at heq
    subst heq
    simp only[gF,ko,List.take_succ_cons,List.take_zero]
    split at hx
    ·rename_i Pv
     obtain⟨hb,hlc,pu⟩:=Pv
     simp only[kW]at hx
     obtain⟨elems,hel,ru⟩:=hx
     obtain⟨Z8,di⟩:=yw hel
     have hex:∀ i,i<len->∃ cs ds,w.cells? base (a.add (i*P.cellsOf e)) (P.cellsOf e)=some cs/\a_ (o9 w) ds cs/\gP es ds:=by
      intro i hi
      obtain⟨b,hb,_⟩:=di i i (by simp [hi])
      simp only[kW]at hb
      obtain⟨cs,h1,h2⟩:=hb
      have h3:=DF m fuel e cs es _ sQ h2
      rw[fI (by rw[(FL h1).1];omega)]at h3
      obtain⟨ds,h4,h5⟩:=h3
      exact⟨cs,ds,h1,h4,h5⟩
     have hl:∃ l:List (List D),l.length=len/\∀ i d,l[i]? =some d->∃ c,w.cells? base (a.add (i*P.cellsOf e)) (P.cellsOf e)=some c/\a_ (o9 w) d c/\gP es d:=by
      clear Z8 di hel pu hlc ru
      induction len with
      |zero=>exact⟨[],rfl,by simp⟩
      |succ len ih=>
       obtain⟨l,h1,h2⟩:=ih (fun i hi=>hex i (by omega))
       obtain⟨c,d,h3,h4,h5⟩:=hex len (by omega)
       refine⟨l++[d],by simp [h1],fun i d' hd'=>?_⟩
       rcases Nat.lt_trichotomy i l.length with hi | hi | hi
       ·rw[dX hi]at hd'
        exact h2 i d' hd'
       ·subst hi
        simp at hd'
        subst hd'
        rw[h1]
        exact⟨c,h3,h4,h5⟩
       ·rw[g_ (by simp;omega)]at hd';cases hd'
     obtain⟨l,BJ,hl⟩:=hl
     have BF:∀ x∈l,gP es x:=fun x hx=>by
      obtain⟨i,hi⟩:=lC hx
      obtain⟨_,_,_,h⟩:=hl i x hi
      exact h
     have hw:wl es.length l:=fun x hx=>(BF x hx).len
     refine wrap (l:=l) ?_ (by omega) BF
     simp only[bI]
     refine⟨some a,cap,by rw[BJ],by omega,?_⟩
     by_cases h0:len=0
     ·left;omega
     ·right
      obtain⟨c0,d0,k1,k2,k3⟩:=hex 0 (by omega)
      have hcl:=k2.len
      have hdl:=k3.len
      obtain⟨x0,hx0⟩:∃ x,c0[0]? =some x:=⟨c0[0],bz (by omega)⟩
      have hcell:=(FL k1).2 0 x0 hx0
      simp only[Nat.zero_mul]at hcell
      have ha0:(a.add 0).add 0=a:=by simp [Addr.add]
      rw[ha0]at hcell
      have Qm:=World.cell?_spot hcell
      obtain⟨ab,ao,sp⟩:=a
      simp only at Qm
      subst Qm
      refine⟨ab,ao,rfl,fh.of_flat hw (dh.yI fun j d hj=>?_)⟩
      have hjl:j<l.flatten.length:=(bO.1 hj).1
      rw[ph hw]at hjl
      have hq:j / es.length<l.length:=Nat.div_lt_of_lt_mul (by rw[Nat.mul_comm];exact hjl)
      have hmod:j % es.length<es.length:=Nat.mod_lt _ hk
      have PF:j / es.length*es.length+j % es.length=j:=Nat.div_add_mod' j es.length
      obtain⟨c,q1,q2,q3⟩:=hl (j / es.length) _ (bz hq)
      have q4:=q3.len
      have hd2:=OQ hw (bz hq) (bz (l:=l[j / es.length]) (i:=j % es.length) (by omega))
      rw[PF,hj]at hd2
      obtain⟨y,hy1,hy2⟩:=q2.get (bz (l:=l[j / es.length]) (i:=j % es.length) (by omega))
      rw[<- bc.inj hd2]at hy2
      refine⟨y,?_,hy2⟩
      have:=(FL q1).2 (j % es.length) y hy1
      rw[Addr.add_lit,Addr.add_lit,hc,gR,PF]at this
      show EH.cell (o9 w) ab (ao+j)=some y
      rw[<- this]
      unfold EH.cell o9 World.cell?
      cases w.heap[ab]?<;>rfl
    ·cases hx
  ·rename_i fs ht
   simp only[ht]at hx
   split at hx
   ·simp only[Option.map_eq_some_iff]at hx
    obtain⟨xs,hxs,_⟩:=hx
    obtain⟨_,di⟩:=yw hxs
    have key:∀(l:List Field) (acc ks:List SH),(∀ f∈l,∃ y,DataW.trod enc P w base spare held fuel f.type ((cs.drop f.offset).take (P.cellsOf f.type))=some y)->mu w acc (cs.take acc.length)->
      l.foldl (fun acc f=>match acc,pN P m f.type with
       |some ks,some l=>match cq ks.length f.offset,cq l.length (P.cellsOf f.type)with
        |true,true=>some (ks++l)
        |_,_=>none
       |_,_=>none) (some acc)=some ks->mu w ks (cs.take ks.length):=by
     intro l
     induction l with
     |nil=>intro acc ks _ hacc hf;simp only[List.foldl_nil,bc.injEq]at hf;subst hf;exact hacc
     |cons f l ih=>
      intro acc ks hall hacc hf
      simp only[List.foldl_cons]at hf
      have hnone:∀ l:List Field,l.foldl (fun acc f=>match acc,pN P m f.type with
       |some ks,some l=>match cq ks.length f.offset,cq l.length (P.cellsOf f.type)with
        |true,true=>some (ks++l)
        |_,_=>none
       |_,_=>none) (none:Option (List SH))=none:=by
       intro l;induction l with
       |nil=>rfl
       |cons a l ih=>exact ih
      cases HY:pN P m f.type with
      |none=>rw[HY]at hf;exact absurd (hf.symm.trans (hnone l)) (by simp)
      |some sl=>
       rw[HY]at hf
       simp only[]at hf
       cases gL:cq acc.length f.offset with
       |false=>simp only[gL]at hf;exact absurd (hf.symm.trans (hnone l)) (by simp)
       |true=>
       cases gh:cq sl.length (P.cellsOf f.type)with
       |false=>simp only[gL,gh]at hf;exact absurd (hf.symm.trans (hnone l)) (by simp)
       |true=>
        simp only[gL,gh]at hf
        have e1:=cP gL
        have e2:=cP gh
        obtain⟨y,hy⟩:=hall f iB
        have hc:=DF m fuel f.type _ sl y HY hy
        rw[<- e2,List.take_take,Nat.min_self,<- e1]at hc
        refine ih (acc++sl) ks (fun g hg=>hall g (f_ _ hg)) ?_ hf
        rw[bo,List.take_add]
        exact hacc.append hc
    refine key fs.toList [] ks (fun f hf=>?_) (by simpa using mu.nil) hs
    obtain⟨i,hi⟩:=lC hf
    obtain⟨b,hb,_⟩:=di i f hi
    exact⟨b,hb⟩
   ·cases hx
  ·rename_i n e ht
   simp only[ht]at hx
   split at hx
   ·simp only[Option.map_eq_some_iff]at hx
    obtain⟨xs,hxs,_⟩:=hx
    obtain⟨_,di⟩:=yw hxs
    split at hs<;>try (cases hs;done)
    rename_i l hl
    split at hs<;>try (cases hs;done)
    rename_i hb
    cases hs
    have e2:=cP hb
    have key:∀ k,k<=n->mu w (dp k l).flatten (cs.take (dp k l).flatten.length):=by
     intro k
     induction k with
     |zero=>intro _;simpa using mu.nil
     |succ k ih=>
      intro hk
      obtain⟨y,hy,_⟩:=di k k (List.getElem?_range (by omega))
      have hc:=DF m fuel e _ l y hl hy
      rw[<- e2,List.take_take,Nat.min_self]at hc
      have hlen:(dp k l).flatten.length=k*l.length:=by simp
      rw[List.replicate_succ',List.flatten_append,bo,List.take_add,hlen]
      simp only[jt,List.flatten_nil,fu]
      rw[<- hlen]
      refine(ih (by omega)).append ?_
      rw[hlen]
      exact hc
    exact key n (au _)
   ·cases hx
  ·cases hs
theorem ady {t:TypeId} {k:SH} (hs:pN P 20 t=some [k]) {v:Value} (hone:v.cells=#[v]) {d:DataW H} {p:List MemPlace} (h:DataW.Trod enc P w base spare held t v d p):
  ∃ x,bI (o9 w) x v/\tC k x:=by
 obtain⟨fuel,hf⟩:=h
 have:=DF 20 fuel t _ _ _ hs hf
 rw[hone]at this
 obtain⟨ds,h1,h2⟩:=this
 simp only[gF,ko,List.take_succ_cons,List.take_zero]at h1
 simp only[gP]at h2
 obtain⟨d,ds',rfl,h3,rfl⟩:=h2
 simp only[a_]at h1
 obtain⟨x,xs',e,h4,rfl⟩:=h1
 cases e
 exact⟨d,h4,h3⟩
theorem adz {t:TypeId} {es:List SH} (hs:pN P 20 t=some [.sl es]) {v:Value} (hv:∃ a len cap,v= .slice a len cap) {d:DataW H} {p:List MemPlace} (h:DataW.Trod enc P w base spare held t v d p):
  ∃ l,Den [] (o9 w) (.dat (.sl es.length l)) v/\l.length<=maxLen/\∀ e∈l,gP es e:=by
 obtain⟨a,len,cap,rfl⟩:=hv
 obtain⟨x,h1,h2⟩:=ady hs rfl h
 simp only[tC]at h2
 obtain⟨l,rfl,h3,h4⟩:=h2
 exact⟨l,by simpa only[Den]using h1,h3,h4⟩
end
def KT:V->KB->Prop:=fun r _=>B6 r
theorem fC {P:Program} {X:bN} (hX:b9 P X) (hm:P.follows .mixedOrders=true) {f:FuncId} {S:aD} (h:∀ args kb K,S args kb K->∃ T,aK P X T f args kb K):aR P f S:=
 fun args kb K hs σ E W xs hi hd=>by
  obtain⟨T,hT⟩:=h args kb K hs
  exact TD hX hm hT hi hd
theorem wB {P:Program} (hm:P.follows .mixedOrders=true) {f:FuncId} {S:aD} (h:∀ args kb K,S args kb K->∃ X T,b9 P X/\aK P X T f args kb K):aR P f S:=
 fun args kb K hs σ E W xs hi hd=>by
  obtain⟨X,T,hX,hT⟩:=h args kb K hs
  exact TD hX hm hT hi hd
theorem Kl {P:Program} {X:bN} (hX:b9 P X) (hm:P.follows .mixedOrders=true) (ds:List jG) {f:FuncId} {S:aD} (h:∀ args kb K,S args kb K->∃ T,aK P X T f args kb (fA ds K)):aR P f S:=
 fun args kb K hs=>by
  have h0:aR P f (fun a k K0=>∃ T,aK P X T f a k K0):=fC hX hm fun _ _ _ h=>h
  exact IW h0 ds args kb K (h args kb K hs)
theorem lh {P:Program} {X:bN} (hX:b9 P X) (hm:P.follows .mixedOrders=true) {f:FuncId} {S:aD} (h:∀ args kb K,S args kb K->∃ T,aK P X T f args kb (dx kb.length K)):aR P f S:=
 fun args kb K hs=>by
  have h0:aR P f (fun a k K0=>∃ T,aK P X T f a k K0):=fC hX hm fun _ _ _ h=>h
  exact DE h0 args kb K (h args kb K hs)
theorem oa {P:Program} {X:bN} (hX:b9 P X) (hm:P.follows .mixedOrders=true) (ds:List jG) {f:FuncId} {S:aD} (h:∀ args kb K,S args kb K->∃ T,aK P X T f args kb (fA ds (dx kb.length K))):aR P f S:=by
 have h1:aR P f (fun args kb K=>∃ T,aK P X T f args kb (fA ds K)):=Kl hX hm ds (fun args kb K h=>h)
 have h2:=DE h1
 exact fun args kb K hs=>h2 args kb K (h args kb K hs)
def KU:V->V
 | .tt=> .sb true
 | .ff=> .sb false
 |v=>v
theorem N1 {σ:Sg} {E:EH}:∀{vs:List V} {xs:List Value},aq σ E vs xs->aq σ E (vs.map KU) xs
 | [],_,h=>h
 |v::vs,_,h=>by
  simp only[aq]at h
  obtain⟨x,xs',rfl,h1,h2⟩:=h
  refine .cons ?_ (N1 h2)
  cases v<;>first | exact h1 | (simp only[Den]at h1;simpa [KU,Den]using h1)
def TN (S:aD):aD:=fun args kb K=>S (args.map KU) kb K
theorem aeN {P:Program} {f:FuncId} {S:aD} (hS:aR P f S):aR P f (TN S):=fun args kb K h σ E W xs hi hd=>hS _ kb K h σ E W xs hi (N1 hd)
abbrev dn (k:IntKind) (n:Int):D:=.val (.int k n)
abbrev db (b:Bool):D:=.val (.bool b)
def aU (k:IntKind) (l:List Int):List D:=l.map fun n=> .val (.int k n)
def ints (k:IntKind) (l:List Int):List (List D):=l.map fun n=>[.val (.int k n)]
theorem bh {k:IntKind} {l:List Int}:(ints k l).length=l.length:=by simp [ints]
theorem oL {k:IntKind}:ints k []=[]:=rfl
theorem aaB {k:IntKind} {a:Int} {l:List Int}:ints k (a::l)=[.val (.int k a)]::ints k l:=rfl
theorem qj {k:IntKind} {l m:List Int}:ints k (l++m)=ints k l++ints k m:=by simp [ints]
theorem ints_set {k:IntKind} {l:List Int} {i:Nat} {n:Int}:(ints k l).set i [.val (.int k n)]=ints k (l.set i n):=by simp [ints]
theorem qk {k:IntKind} {l:List Int} {i:Nat}:(ints k l).take i=ints k (l.take i):=by simp [ints]
theorem B0 {k:IntKind} {l:List Int} {i:Nat}:(ints k l).drop i=ints k (l.drop i):=by simp [ints]
theorem aaC {k:IntKind} {m:Nat} {n:Int}:dp m [D.val (.int k n)]=ints k (dp m n):=by simp [ints]
theorem mb {k:IntKind} {l:List Int} {i:Nat}:(ints k l)[i]? =l[i]?.map fun n=>[D.val (.int k n)]:=by simp [ints]
theorem yj {k:IntKind} {l:List Int}:(ints k l).flatten=aU k l:=by
 induction l with
 |nil=>rfl
 |cons a l ih=>rw[aaB,jt,ih];rfl
theorem adH {k:IntKind} {l:List Int}:Plain (aU k l):=fun d hd=>by
 obtain⟨n,_,rfl⟩:=ef.1 hd;trivial
theorem pJ {k:IntKind} {l:List Int}:Plain (ints k l).flatten:=by rw[yj];exact adH
theorem NE {α:Type} {ss:List SH} {f:α->List D} {Q:α->Prop} (hf:∀ x,gP ss x->∃ a,x=f a/\Q a):∀{l:List (List D)},(∀ x∈l,gP ss x)->∃ zs:List α,l=zs.map f/\∀ a∈zs,Q a
 | [],_=>⟨[],rfl,by simp⟩
 |x::l,h=>by
  obtain⟨zs,h1,h2⟩:=NE hf (l:=l) (fun y hy=>h y (f_ _ hy))
  obtain⟨a,rfl,ha⟩:=hf x (h x iB)
  refine⟨a::zs,by rw[h1];rfl,fun m hm=>?_⟩
  rcases eI.1 hm with rfl | hm
  ·exact ha
  ·exact h2 m hm
def Qs (n:Int):Prop:=-9223372036854775808<=n/\n<=9223372036854775807
theorem bS {n:Int} (h1:-9223372036854775808<=n) (h2:n<=9223372036854775807):γ.wrap n=n:=IntWalk.i64_in n (by omega)
theorem Yq {σ:Sg} {E:EH} {v:V} {vs:List V} {x:Value} {xs:List Value} (h:Den σ E v x) (k:aq σ E vs xs):aq σ E (v::vs) (x::xs):=by
 simp only[aq];exact⟨x,xs,rfl,h,k⟩
def Qz (P:Program) (t:TypeId):Bool:=match P.underlying t with
 |some (.slice _)=>true
 |_=>false
theorem adb {P:Program} {w:World} {r:Reach} {base:Nat} {t:TypeId} {v:Value} (hs:Qz P t=true) (h:Value.okWide P w r base t v):∃ a len cap,v= .slice a len cap:=by
 unfold Qz at hs
 split at hs
 ·rename_i e he;exact WideShapes.okWide_slice he h
 ·cases hs
inductive FM where
 |my
 |num
 |sl (s:Nat)
def s9:V->V
 | .lit k n=> .int k n
 | .any (.int k n)=> .int k n
 |v=>v
theorem I8 {v:V} {σ:Sg} {E:EH} {x:Value} (h:Den σ E v x):Den σ E (s9 v) x:=by
 unfold s9;split<;>first | exact h | (simp only[Den]at h ⊢;exact h)
theorem abC {v:V} {σ:Sg} {E:EH} {ys:List Value} (h:mT σ E v ys):mT σ E (s9 v) ys:=by
 rcases h with ⟨y,rfl,h1,h2⟩ | ⟨m,cs,rfl,h1,h2⟩
 ·exact .inl ⟨y,rfl,h1,I8 h2⟩
 ·exact .inr ⟨m,cs,rfl,h1,h2⟩
theorem mT.mono' {σ:Sg} {E E':EH} (h:E.le E') {v:V} {ys:List Value} (hd:mT σ E v ys):mT σ E' v ys:=by
 rcases hd with ⟨y,rfl,h1,h2⟩ | ⟨m,cs,rfl,h1,h2⟩
 ·have:=Den.mono (τ:=[]) h h2
  rw[fu]at this
  exact .inl ⟨y,rfl,h1,this⟩
 ·exact .inr ⟨m,cs,rfl,h1,h2.mono h⟩
def po:List FM->List V->KB->(List V->KB->Prop)->Prop
 |_,[],kb,K=>K [] kb
 | [],v::vs,kb,K=>K (v::vs) kb
 | .my::ms,v::vs,kb,K=>po ms vs kb (fun us kb'=>K (v::us) kb')
 | .num::ms,v::vs,kb,K=>po ms vs kb (fun us kb'=>K (s9 v::us) kb')
 | .sl s::ms,v::vs,kb,K=>qU (.sl s) v kb (fun d kb'=>po ms vs kb' (fun us jK=>K (.dat d::us) jK))
theorem vD:∀{ms:List FM} {vs:List V} {kb:KB} {K:List V->KB->Prop},po ms vs kb K->∀{σ:Sg} {E:EH} {W:World},Inv σ E kb W->∀{xs:List Value},aT σ E vs xs->
  ∃ E' kb' us,Step σ E kb W σ E' kb' W/\aT σ E' us xs/\K us kb'
 |ms,[],kb,K,h,σ,E,W,hi,xs,hd=>by
  have:K [] kb:=by cases ms with | nil=>exact h | cons m ms=>cases m<;>exact h
  exact⟨E,kb,[],Step.refl hi,hd,this⟩
 | [],v::vs,kb,K,h,σ,E,W,hi,xs,hd=>⟨E,kb,v::vs,Step.refl hi,hd,h⟩
 | .my::ms,v::vs,kb,K,h,σ,E,W,hi,xs,hd=>by
  obtain⟨ys,zs,rfl,h1,h2⟩:=hd.iI
  simp only[po]at h
  obtain⟨E1,eN,us,s1,d1,hK⟩:=vD h hi h2
  have:=mT.mono' s1.le h1
  exact⟨E1,eN,v::us,s1,.cons this d1,hK⟩
 | .num::ms,v::vs,kb,K,h,σ,E,W,hi,xs,hd=>by
  obtain⟨ys,zs,rfl,h1,h2⟩:=hd.iI
  simp only[po]at h
  obtain⟨E1,eN,us,s1,d1,hK⟩:=vD h hi h2
  have:=mT.mono' s1.le (abC h1)
  exact⟨E1,eN,s9 v::us,s1,.cons this d1,hK⟩
 | .sl s::ms,v::vs,kb,K,h,σ,E,W,hi,xs,hd=>by
  obtain⟨ys,zs,rfl,h1,h2⟩:=hd.iI
  simp only[po]at h
  rcases h1 with ⟨y,rfl,h1,hy⟩ | ⟨m,cs,rfl,_,_⟩
  ·obtain⟨E1,eN,d,s1,r1,h⟩:=xL h hi hy
   have h2':=aT.mono (τ:=[]) s1.le h2
   rw[fu]at h2'
   obtain⟨E2,bF,us,s2,d2,hK⟩:=vD h s1.inv h2'
   exact⟨E2,bF,.dat d::us,s1.trans s2,aT.jj (by simp only[Den];exact r1.mono s2.le) h1 d2,hK⟩
  ·exact h.elim
def xZ (ms:List FM) (K:V->KB->Prop):V->KB->Prop:=fun r kb=>match r with
 | .agg l=>po ms l kb (fun us kb'=>K (.agg us) kb')
 | .χ (.agg l::rest)=>po ms l kb (fun us kb'=>K (.χ (.agg us::rest)) kb')
 |_=>False
def Zd (ms:List FM) (S:aD):aD:=fun args kb K=>S args kb (xZ ms K)
theorem Ze {P:Program} {f:FuncId} {S:aD} (hS:aR P f S) (ms:List FM):aR P f (Zd ms S):=fun args kb K h σ E W xs hi hd=>by
 refine(hS args kb _ h σ E W xs hi hd).mono ?_
 rintro e W' ⟨v,r,σs,E',bF,rfl,hst,eM,hK⟩
 unfold xZ at hK
 split at hK<;>try exact hK.elim
 ·rename_i l
  simp only[Den]at eM
  obtain⟨vs,rfl,hl⟩:=eM
  obtain⟨E1,eN,us,s1,d1,hK⟩:=vD hK hst.inv hl
  exact⟨_,_,_,_,_,rfl,hst.trans s1,by simp only[Den];exact⟨vs,rfl,d1⟩,hK⟩
 ·rename_i l rest
  simp only[Den]at eM
  obtain⟨vs,rfl,hl⟩:=eM
  simp only[aq]at hl
  obtain⟨x,xs',rfl,hx,hr⟩:=hl
  simp only[Den]at hx
  obtain⟨cs,rfl,hl⟩:=hx
  obtain⟨E1,eN,us,s1,d1,hK⟩:=vD hK hst.inv hl
  have:=aq.mono (τ:=[]) s1.le hr
  rw[fu]at this
  exact⟨_,_,_,_,_,rfl,hst.trans s1,by simp only[Den];exact⟨_,rfl,.cons (by simp only[Den];exact⟨cs,rfl,d1⟩) this⟩,hK⟩
theorem T6 {P:Program} {X:bN} (hX:b9 P X) (hm:P.follows .mixedOrders=true) (ms:List FM) {f:FuncId} {S:aD} (h:∀ args kb K,S args kb K->∃ T,aK P X T f args kb (xZ ms (dx kb.length K))):aR P f S:=by
 have h0:aR P f (fun a k K0=>∃ T,aK P X T f a k K0):=fC hX hm fun _ _ _ h=>h
 have h2:=DE (Ze h0 ms)
 exact fun args kb K hs=>h2 args kb K (h args kb K hs)
def jJ (ms:List Mode) (K:V->KB->Prop):V->KB->Prop:=fun r kb=>match r with
 | .χ l=>sL ms l kb (fun us kb'=>K (.χ us) kb')
 |r=>sL ms [r] kb (fun us kb'=>match us with | [u]=>K u kb' | _=>False)
def Zn (ms:List Mode) (S:aD):aD:=fun args kb K=>S args kb (jJ ms K)
theorem O7 {P:Program} {f:FuncId} {S:aD} (hS:aR P f S) (ms:List Mode):aR P f (Zn ms S):=fun args kb K h σ E W xs hi hd=>by
 refine(hS args kb _ h σ E W xs hi hd).mono ?_
 rintro e W' ⟨v,r,σs,E',bF,rfl,hst,eM,hK⟩
 unfold jJ at hK
 split at hK
 ·rename_i l
  simp only[Den]at eM
  obtain⟨vs,rfl,hl⟩:=eM
  obtain⟨E1,eN,us,s1,d1,hK⟩:=x5 hK hst.inv hl
  exact⟨_,_,_,_,_,rfl,hst.trans s1,by simp only[Den];exact⟨vs,rfl,d1⟩,hK⟩
 ·rename_i r _
  obtain⟨E1,eN,us,s1,d1,hK⟩:=x5 hK hst.inv (xP eM)
  split at hK<;>try exact hK.elim
  exact⟨_,_,_,_,_,rfl,hst.trans s1,xQ d1,hK⟩
def Zo (ms:List Mode) (S:aD):aD:=fun args kb K=>S args kb (jJ ms (dx kb.length K))
theorem By {P:Program} {f:FuncId} {S:aD} (hS:aR P f S) (ms:List Mode):aR P f (Zo ms S):=by
 have h2:=DE (O7 hS ms)
 exact fun args kb K hs=>h2 args kb K hs
abbrev hU:=BitVec 32
def F1:hU:=3988292384#32
def cst (x:hU):hU:=(x >>> 1) ^^^ (if x.getLsbD 0 then F1 else 0#32)
def j7:Nat->hU->hU
 | 0,x=>x
 |n+1,x=>cst (j7 n x)
theorem aia (a b c d:hU):(a ^^^ b) ^^^ (c ^^^ d)=(a ^^^ c) ^^^ (b ^^^ d):=by
 apply BitVec.eq_of_getLsbD_eq
 intro i hi
 simp only[BitVec.getLsbD_xor]
 cases a.getLsbD i<;>cases b.getLsbD i<;>cases c.getLsbD i<;>cases d.getLsbD i<;>rfl
theorem Yh (a b:hU):cst (a ^^^ b)=cst a ^^^ cst b:=by
 unfold cst
 rw[aia,<- BitVec.ushiftRight_xor_distrib,BitVec.getLsbD_xor]
 congr 1
 cases a.getLsbD 0<;>cases b.getLsbD 0<;>decide
theorem NL (a b:hU):∀ n,j7 n (a ^^^ b)=j7 n a ^^^ j7 n b
 | 0=>rfl
 |n+1=>by rw[j7,NL a b n,Yh];rfl
theorem NK {x:hU}:∀ n,(∀ i,i<n->x.getLsbD i=false)->j7 n x=x >>> n
 | 0,_=>by simp [j7]
 |n+1,h=>by
  rw[j7,NK n (fun i hi=>h i (by omega)),cst]
  have:(x >>> n).getLsbD 0=false:=by rw[BitVec.getLsbD_ushiftRight];exact h _ (by omega)
  rw[this,<- BitVec.shiftRight_add]
  simp
theorem Yg (x:hU):j7 8 x=(x >>> 8) ^^^ j7 8 (x &&& 255#32):=by
 have hx:x=(x &&& 4294967040#32) ^^^ (x &&& 255#32):=by
  apply BitVec.eq_of_getLsbD_eq
  intro i hi
  have e:(4294967040#32).getLsbD i= !(255#32).getLsbD i:=by
   rw[show(4294967040#32)= ~~~ 255#32 by decide,BitVec.getLsbD_not];simp [hi]
  rw[BitVec.getLsbD_xor,BitVec.getLsbD_and,BitVec.getLsbD_and,e]
  cases x.getLsbD i<;>cases (255#32).getLsbD i<;>rfl
 have h1:j7 8 (x &&& 4294967040#32)=(x &&& 4294967040#32) >>> 8:=NK 8 (fun i hi=>by
  rw[BitVec.getLsbD_and]
  have:(4294967040#32).getLsbD i=false:=by
   have:i=0∨i=1∨i=2∨i=3∨i=4∨i=5∨i=6∨i=7:=by omega
   rcases this with rfl | rfl | rfl | rfl | rfl | rfl | rfl | rfl<;>decide
  rw[this,Bool.and_false])
 have h2:(x &&& 4294967040#32) >>> 8=x >>> 8:=by
  rw[BitVec.ushiftRight_and_distrib]
  rw[show(4294967040#32 >>> 8)=16777215#32 by decide]
  apply BitVec.eq_of_getLsbD_eq
  intro i hi
  rw[BitVec.getLsbD_and,BitVec.getLsbD_ushiftRight]
  by_cases h:i<24
  ·have:(16777215#32).getLsbD i=true:=by
    rw[show(16777215#32)=(BitVec.allOnes 24).setWidth 32 by decide]
    rw[BitVec.getLsbD_setWidth,BitVec.getLsbD_allOnes];simp [h,hi]
   rw[this,Bool.and_true]
  ·rw[BitVec.getLsbD_of_ge x (8+i) (by omega),Bool.false_and]
 conv=>lhs;rw[hx,NL]
 rw[h1,h2]
def U (x:hU):Int:=(x.toNat:Int)
theorem Me (x:hU):0<=U x/\U x<4294967296:=by unfold U;have:=x.isLt;omega
theorem AB (x:hU):iy.wrap (U x)=U x:=IntWalk.u32_in _ (by have:=Me x;omega)
theorem vg (x:hU):BitVec.ofInt 32 (U x)=x:=by
 unfold U
 rw[BitVec.ofInt_natCast,BitVec.ofNat_toNat,BitVec.setWidth_eq]
theorem Mf (x:hU) (k:Nat):(U x).fdiv (2 ^ k:Nat)=U (x >>> k):=by
 unfold U
 rw[Int.fdiv_eq_ediv_of_nonneg _ (Int.natCast_nonneg _),BitVec.toNat_ushiftRight,Nat.shiftRight_eq_div_pow]
 exact(Int.natCast_ediv _ _).symm
theorem abG {n:Int} (h:0<=n/\n<4294967296):U (BitVec.ofInt 32 n)=n:=by
 obtain⟨k,rfl⟩:=Int.eq_ofNat_of_zero_le h.1
 unfold U
 show((BitVec.ofInt 32 (k:Int)).toNat:Int)=k
 rw[BitVec.ofInt_natCast,BitVec.toNat_ofNat]
 have:k % 2 ^ 32=k:=Nat.mod_eq_of_lt (by have:=h.2;omega)
 rw[this]
theorem Wx (x:hU):iy.wrap (iy.wrap (U (x &&& 1#32))*3988292384)=U (if x.getLsbD 0 then F1 else 0#32):=by
 rw[AB]
 have:x &&& 1#32=if x.getLsbD 0 then 1#32 else 0#32:=by
  have:=BitVec.and_one_eq_setWidth_ofBool_getLsbD (x:=x)
  rw[this]
  cases x.getLsbD 0<;>decide
 rw[this]
 cases x.getLsbD 0<;>decide
def bm (l:List Int):Prop:=∀ c∈l,0<=c/\c<256
def AY (x:hU) (c:Int):hU:=j7 8 (x ^^^ BitVec.ofInt 32 c)
def mz (x:hU) (l:List Int):hU:=l.foldl AY x
def dN (l:List Int):Int:=U (~~~ (mz 4294967295#32 l))
theorem Yc (x:hU) (l:List Int) (c:Int):mz x (l++[c])=AY (mz x l) c:=by simp [mz]
theorem Yb (x:hU) (l m:List Int):mz x (l++m)=mz (mz x l) m:=by simp [mz]
def vu (i:Nat):Int:=U (j7 8 (BitVec.ofNat 32 i))
def tQ (i:Nat):List Int:=(iN 256).map fun j=>if j<i then vu j else 0
theorem RR {n:Int} (h:0<=n/\n<256):(BitVec.ofInt 32 n).toNat=n.toNat:=by
 have:=abG (n:=n) (by omega)
 unfold U at this;omega
theorem Q0 (y:hU):(y &&& 255#32).toNat=y.toNat % 256:=by
 rw[BitVec.toNat_and,show(255#32).toNat=2 ^ 8 - 1 by decide,Nat.and_two_pow_sub_one_eq_mod]
theorem Ye {x:hU} {n:Int} (h:0<=n/\n<256):ν.wrap (((BitVec.ofInt 8 (ν.wrap (U x)) ^^^ BitVec.ofInt 8 n).toNat:Nat):Int)=(((x ^^^ BitVec.ofInt 32 n) &&& 255#32).toNat:Int):=by
 have e1:BitVec.ofInt 8 (ν.wrap (U x))=x.setWidth 8:=by
  apply BitVec.eq_of_toNat_eq
  rw[BitVec.toNat_ofInt,BitVec.toNat_setWidth]
  have:ν.wrap (U x)=U x % 256:=by rw[IntKind.wrap_u8]
  rw[this];unfold U;omega
 have e2:BitVec.ofInt 8 n=(BitVec.ofInt 32 n).setWidth 8:=by
  apply BitVec.eq_of_toNat_eq
  rw[BitVec.toNat_ofInt,BitVec.toNat_setWidth,RR h];omega
 rw[e1,e2,<- BitVec.setWidth_xor,Q0,BitVec.toNat_setWidth]
 exact IntWalk.u8_in _ (by omega)
theorem aeS {x:hU} {n:Int} (h:0<=n/\n<256):(x ^^^ BitVec.ofInt 32 n) >>> 8=x >>> 8:=by
 rw[BitVec.ushiftRight_xor_distrib]
 have:BitVec.ofInt 32 n >>> 8=0#32:=by
  apply BitVec.eq_of_toNat_eq
  rw[BitVec.toNat_ushiftRight,RR h,Nat.shiftRight_eq_div_pow]
  show n.toNat / 256=0
  omega
 rw[this,BitVec.xor_zero]
theorem Yf {x:hU} {n:Int} (h:0<=n/\n<256):iy.wrap (((BitVec.ofInt 32 ((U x).fdiv 256) ^^^ BitVec.ofInt 32 (U (j7 8 ((x ^^^ BitVec.ofInt 32 n) &&& 255#32)))).toNat:Nat):Int)=U (AY x n):=by
 have e1:=Mf x 8
 rw[show((2 ^ 8:Nat):Int)=256 from rfl]at e1
 rw[e1,vg,vg]
 unfold AY
 rw[Yg (x ^^^ BitVec.ofInt 32 n),aeS h]
 exact AB _
theorem Wy (x:hU):iy.wrap (((BitVec.ofInt 32 4294967295 ^^^ BitVec.ofInt 32 (U x)).toNat:Nat):Int)=U (~~~x):=by
 rw[vg,show BitVec.ofInt 32 4294967295=BitVec.allOnes 32 by decide,BitVec.allOnes_xor]
 exact AB _
def bH (k n:Int):Int:=if n<1 then 0 else if k.tmod n<0 then k.tmod n+n else k.tmod n
theorem adE {k n:Int} (h:1<=n):0<=bH k n/\bH k n<n:=by
 have h1:=Int.tmod_lt_of_pos k (show 0<n by omega)
 have h2:-n<k.tmod n:=by
  have:=Int.lt_tmod_of_pos k (show 0<n by omega)
  exact this
 unfold bH
 rw[if_neg (by omega)]
 split<;>omega
def yp (x:Int):List Int:=[ν.wrap x,ν.wrap (x.fdiv 256),ν.wrap (x.fdiv 65536),ν.wrap (x.fdiv 16777216)]
def bZ (l:List Int):List Int:=l++yp (dN l)
theorem oU (l:List Int):(bZ l).length=l.length+4:=by simp [bZ,yp]
theorem aaX (x:Int):bm (yp x):=fun c hc=>by
 simp only[yp,eI,List.not_mem_nil,or_false]at hc
 rcases hc with rfl | rfl | rfl | rfl<;>(rw[IntKind.wrap_u8];omega)
theorem Dd {l:List Int} (h:bm l):bm (bZ l):=fun c hc=>by
 rcases dQ.1 hc with hc | hc
 ·exact h c hc
 ·exact aaX _ c hc
theorem xM (l:List Int):0<=dN l/\dN l<4294967296:=Me _
def fB (l:List Int):Option (List Int):=if 4<=l.length/\bZ (l.take (l.length - 4))=l then some (l.take (l.length - 4))else none
theorem wa {l:List Int}:fB (bZ l)=some l:=by
 have h1:(bZ l).take ((bZ l).length - 4)=l:=by
  rw[oU,Nat.add_sub_cancel];unfold bZ;rw[List.take_left]
 unfold fB
 rw[h1,if_pos ⟨by rw[oU];omega,rfl⟩]
end Vc
namespace Go.Proofs.YtfcjngcnifdmnaaGreat
open Vc Go
open Go.IntKind renaming i64->γ,u8->ν,u32->iy
open Vc.V renaming any->δ,sl->ε,int->ζ,sb->ξ,ptr->an,χ->av,dat->aH,af->aO,mp->bb,arr->bD,agg->fw
open Vc.D renaming val->η,sl->ω
open Vc.KO renaming row->υ,dead->aa,cells->aw,objs->cY
open Go.Value renaming int->φ,map->kr,oneCell'->l0
open List renaming map->ae,drop->ax,take->aA,length_append->bo,getElem?_eq_getElem->bz,getElem?_eq_some_iff->bO,length_map->cp,take_length->cZ,length_take->dc,mem_singleton->dm,replicate->dp,mem_append->dQ,Mem->dW,getElem?_append_left->dX,mem_map->ef,append_assoc->eH,mem_cons->eI,getElem?_append_right->e_,append_nil->fu,getElem?_map->fH,take_of_length_le->fI,length_drop->fZ,mem_cons_of_mem->f_,getElem?_set_ne->gE,length_cons->gF,mem_of_getElem?->gG,getElem?_eq_none->g_,getElem?_set_self->iz,length_set->iA,mem_cons_self->iB,length_singleton->iL,mem_append_left->iM,range->iN,drop_zero->iX,getD_eq_getElem?_getD->iY,getElem?_take_of_lt->ji,flatten_cons->jt,nil_append->ju,getElem?_drop->jE,map_append->jZ,take_add_one->j2,length_nil->ko,ext_getElem?->lB,getElem?_of_mem->lC,mem_append_right->lD,map_cons->lY,mem_filter->lZ,eq_nil_of_length_eq_zero->mq
open Nat renaming le_refl->au,zero_le->bt,beq->cq,eq_of_beq_eq_true->cP,zero_add->cQ,add_assoc->gR,lor->iO,lt_or_ge->jF,sub_zero->kV
open Option renaming some->bc,bind_eq_some_iff->kW,map->mU
open Int renaming le_refl->dy,toNat_natCast->dD
open Bool renaming and_eq_true->iW,not_eq_false'->nI
set_option linter.unusedVariables false
set_option linter.unusedSimpArgs false
set_option maxRecDepth 100000
def aI:FuncId->Nat->Option LI:=fun _ _=>none
def I1:FuncId->Option dK:=fun _=>none
noncomputable def X0:bN:=dU Tryz.prog I1 aI 10
def Sm (l:List Int):Prop:=l.length<=1000000
def rX (a b:List Int) (i:Nat):Prop:=i<=a.length/\a.take i=b.take i
abbrev J8 (k:IntKind) (a b:List Int):LI where
 α:={i:Nat // rX a b i}
 live:=[0,1,5]
 st i:=([aH (.sl 1 (ints k a)),aH (.sl 1 (ints k b)),.int γ (i.1:Int)],[])
 μ i:=a.length - i.1
abbrev Gt (k:IntKind) (a b:List Int):LI where
 α:={i:Nat // rX a b i}
 live:=[0,1,12,13]
 st i:=([aH (.sl 1 (ints k a)),aH (.sl 1 (ints k b)),.int γ (a.length:Int),.int γ (i.1:Int)],[])
 μ i:=a.length - i.1
def Dc (k:IntKind) (a b:List Int):FuncId->Nat->Option LI
 | 12,4=>some (J8 k a b)
 | 95,4=>some (Gt k a b)
 |_,_=>none
theorem ahp (a b:List Int) (K:V->KB->Prop) (ar:
 (((↑(ints ν a).length:Int) != (↑(ints ν b).length:Int))=true->
 K (ξ false) [])/\
 (((↑(ints ν a).length:Int) != (↑(ints ν b).length:Int))=false->
 At (J8 ν a b) ([aH (ω 1 (ints ν a)),aH (ω 1 (ints ν b)),ζ γ 0],[])/\
 ∀(i:{i:Nat // rX a b i }),let κ:=(↑i.val:Int)<(↑(ints ν a).length:Int);(decide (κ)=true->
 aM (↑i.val:Int)/\
 ∃(e:List D),(ints ν a)[(↑i.val:Int).toNat]? =some e/\
 ∃(n:Int),e[0]? =some (η (φ ν n))/\
 aM (↑i.val:Int)/\
 ∃(e:List D),(ints ν b)[(↑i.val:Int).toNat]? =some e/\
 ∃(n_1:Int),e[0]? =some (η (φ ν n_1))/\
 ((n != n_1)=true->
 K (ξ false) [])/\
 ((n != n_1)=false->
 Nx (J8 ν a b) i ([aH (ω 1 (ints ν a)),aH (ω 1 (ints ν b)),ζ γ (γ.wrap ((↑i.val:Int)+1))],[])))/\
 (decide (κ)=false->
 K (ξ true) []))
 ):aK Tryz.prog X0 (Dc ν a b 12) 12 [aH (.sl 1 (ints ν a)),aH (.sl 1 (ints ν b))] [] K:=by apply Eq.mp (a:=ar);kernel_rfl
theorem agK (a b:List Int) (K:V->KB->Prop) (ar:
 (((↑(ints ν a).length:Int) != (↑(ints ν b).length:Int))=true->
 K (ξ false) [])/\
 (((↑(ints ν a).length:Int) != (↑(ints ν b).length:Int))=false->
 At (Gt ν a b) ([aH (ω 1 (ints ν a)),aH (ω 1 (ints ν b)),ζ γ (↑(ints ν a).length:Int),ζ γ 0],[])/\
 ∀(i:{i:Nat // rX a b i }),(decide ((↑i.val:Int)<(↑a.length:Int))=true->
 aM (↑i.val:Int)/\
 ∃(e:List D),(ints ν a)[(↑i.val:Int).toNat]? =some e/\
 ∃(n:Int),e[0]? =some (η (φ ν n))/\
 aM (↑i.val:Int)/\
 ∃(e:List D),(ints ν b)[(↑i.val:Int).toNat]? =some e/\
 ∃(n_1:Int),e[0]? =some (η (φ ν n_1))/\
 ((n != n_1)=true->
 K (ξ false) [])/\
 ((n != n_1)=false->
 Nx (Gt ν a b) i ([aH (ω 1 (ints ν a)),aH (ω 1 (ints ν b)),ζ γ (↑a.length:Int),ζ γ (γ.wrap ((↑i.val:Int)+1))],[])))/\
 (decide ((↑i.val:Int)<(↑a.length:Int))=false->
 K (ξ true) []))
 ):aK Tryz.prog X0 (Dc ν a b 95) 95 [aH (.sl 1 (ints ν a)),aH (.sl 1 (ints ν b))] [] K:=by apply Eq.mp (a:=ar);kernel_rfl
theorem agv (a:List (List D)) (K:V->KB->Prop) (ar:
 ∀(b:Bool),(b=true->
 a.length=0)->
 (b=true->
 K (δ (Value.slice none 0 0)) [])/\
 (b=false->
 True/\
 0<=0/\
 (0+a.length)*1<=140737488355328/\
 K (ε 0 0 (0+a.length)) [υ 5 1 ([]++a)])
 ):aK Tryz.prog X0 (aI 55) 55 [aH (.sl 1 a)] [] K:=by apply Eq.mp (a:=ar);kernel_rfl
theorem ahi (k n:Int) (K:V->KB->Prop) (ar:
 (decide (n<1)=true->
 K (ζ γ 0) [])/\
 (decide (n<1)=false->
 (n=0->
 False)/\
 (decide (k.tmod n<0)=true->
 K (ζ γ (γ.wrap (k.tmod n+n))) [])/\
 (decide (k.tmod n<0)=false->
 K (ζ γ (k.tmod n)) []))
 ):aK Tryz.prog X0 (aI 20) 20 [.int γ k,.int γ n] [] K:=by apply Eq.mp (a:=ar);kernel_rfl
theorem mixed:Tryz.prog.follows .mixedOrders=true:=by kernel_rfl
theorem I2:dP Tryz.prog I1:=fun f k h=>by cases h
theorem hZ:b9 Tryz.prog X0:=dY mixed I2 aI 10
def xh (k:IntKind):aD:=fun args kb K=>match args,kb with
 | [aH (.sl 1 A),aH (.sl 1 B)],[]=>∃ a b:List Int,A=ints k a/\B=ints k b/\a.length<=maxLen/\K (ξ (decide (a=b))) []
 |_,_=>False
def xg (k:IntKind):aD:=fun args kb K=>match args,kb with
 | [aH (.sl 1 A),aH (.sl 1 B)],[]=>∃ a b:List Int,A=ints k a/\B=ints k b/\Sm a/\K (ξ (decide (a=b))) []
 |_,_=>False
abbrev An:aD:=xg ν
theorem TM {f:FuncId} {k:IntKind} (h:aR Tryz.prog f (xh k)):aR Tryz.prog f (xg k):=fun args kb K hs=>h args kb K (by
 unfold xg at hs;split at hs<;>try exact hs.elim
 obtain⟨a,b,rfl,rfl,hl,hk⟩:=hs
 unfold Sm at hl
 exact⟨a,b,rfl,rfl,by simp only[maxLen];omega,hk⟩)
theorem TL {a b:List Int} {i:Nat} (h:rX a b i) (ha:i<a.length) (hb:i<b.length) (he:a[i]=b[i]):rX a b (i+1):=by
 refine⟨by omega,?_⟩
 rw[j2,j2,h.2,bz ha,bz hb,he]
theorem acQ:aR Tryz.prog 12 (xh ν):=fC hZ mixed (fun args kb K h=>by
 unfold xh at h;split at h<;>try exact h.elim
 obtain⟨a,b,rfl,rfl,ry,h⟩:=h
 simp only[maxLen]at ry
 refine⟨Dc ν a b 12,ahp a b K ⟨fun hc=>?_,fun hc=>⟨At.mk' ⟨0,bt _,rfl⟩ rfl,?_⟩⟩⟩
 ·simp only[bh,bne_iff_ne,ne_eq]at hc
  rw[decide_eq_false (fun e=>hc (by rw[e]))]at h;exact h
 simp only[bh,bne_eq_false_iff_eq]at hc
 have hl:a.length=b.length:=by omega
 rintro⟨i,hi,ht⟩
 simp only[bh]at ht ⊢
 refine⟨fun gM=>?_,fun gM=>?_⟩
 ·simp only[decide_eq_true_eq]at gM
  have e2:((i:Nat):Int).toNat=i:=by omega
  have hq:a[i]? =some a[i]:=bz (by omega)
  have rp:b[i]? =some b[i]:=bz (by omega)
  have kA:aM (i:Int):=by unfold aM;omega
  have w2:=bS (n:=(i:Int)+1) (by omega) (by omega)
  refine⟨kA,[η (.int ν a[i])],by rw[e2,mb,hq];rfl,a[i],rfl,kA,[η (.int ν b[i])],by rw[e2,mb,rp];rfl,b[i],rfl,fun hx=>?_,fun hx=>?_⟩
  ·simp only[bne_iff_ne,ne_eq]at hx
   rw[decide_eq_false (fun e=>hx (by subst e;rfl))]at h;exact h
  ·simp only[bne_eq_false_iff_eq]at hx
   rw[w2]
   exact Nx.mk' (⟨i+1,TL ⟨hi,ht⟩ (by omega) (by omega) hx⟩:{i:Nat // rX a b i}) rfl (by show a.length - (i+1)<a.length - i;omega)
 ·simp only[decide_eq_false_iff_not]at gM
  have:i=a.length:=by omega
  subst this
  rw[cZ,hl,cZ]at ht
  rw[decide_eq_true ht]at h;exact h)
theorem Jm:aR Tryz.prog 12 (xg ν):=TM acQ
theorem abY:aR Tryz.prog 95 (xh ν):=fC hZ mixed (fun args kb K h=>by
 unfold xh at h;split at h<;>try exact h.elim
 obtain⟨a,b,rfl,rfl,ry,h⟩:=h
 simp only[maxLen]at ry
 refine⟨Dc ν a b 95,agK a b K ⟨fun hc=>?_,fun hc=>⟨?_,?_⟩⟩⟩
 ·simp only[bh,bne_iff_ne,ne_eq]at hc
  rw[decide_eq_false (fun e=>hc (by rw[e]))]at h;exact h
 ·rw[bh];exact At.mk' (⟨0,bt _,rfl⟩:{i:Nat // rX a b i}) rfl
 simp only[bh,bne_eq_false_iff_eq]at hc
 have hl:a.length=b.length:=by omega
 rintro⟨i,hi,ht⟩
 simp only[bh]at ht ⊢
 refine⟨fun gM=>?_,fun gM=>?_⟩
 ·simp only[decide_eq_true_eq]at gM
  have e2:((i:Nat):Int).toNat=i:=by omega
  have hq:a[i]? =some a[i]:=bz (by omega)
  have rp:b[i]? =some b[i]:=bz (by omega)
  have kA:aM (i:Int):=by unfold aM;omega
  have w2:=bS (n:=(i:Int)+1) (by omega) (by omega)
  refine⟨kA,[η (.int ν a[i])],by rw[e2,mb,hq];rfl,a[i],rfl,kA,[η (.int ν b[i])],by rw[e2,mb,rp];rfl,b[i],rfl,fun hx=>?_,fun hx=>?_⟩
  ·simp only[bne_iff_ne,ne_eq]at hx
   rw[decide_eq_false (fun e=>hx (by subst e;rfl))]at h;exact h
  ·simp only[bne_eq_false_iff_eq]at hx
   rw[w2]
   exact Nx.mk' (⟨i+1,TL ⟨hi,ht⟩ (by omega) (by omega) hx⟩:{i:Nat // rX a b i}) rfl (by show a.length - (i+1)<a.length - i;omega)
 ·simp only[decide_eq_false_iff_not]at gM
  have:i=a.length:=by omega
  subst this
  rw[cZ,hl,cZ]at ht
  rw[decide_eq_true ht]at h;exact h)
theorem abX:aR Tryz.prog 95 (xg ν):=TM abY
def z6:aD:=fun args kb K=>match args,kb with
 | [aH (.sl 1 A)],[]=>A.length<=140737488355328/\(A=[]->K (δ (.slice none 0 0)) [])/\K (.sl 0 0 A.length) [υ 5 1 A]
 |_,_=>False
def El:aD:=fun args kb K=>match args,kb with
 | [aH (.sl 1 A)],[]=>A.length<=140737488355328/\K (.sl 0 0 A.length) [υ 5 1 A]
 |_,_=>False
theorem X3 {f:FuncId} (h:aR Tryz.prog f z6):aR Tryz.prog f El:=fun args kb K hs=>IW h [.slot 0 5 1] args kb K (by
 unfold El at hs;split at hs<;>try exact hs.elim
 refine⟨hs.1,fun e=>?_,hs.2⟩
 subst e
 exact hs.2)
abbrev Wt:aD:=z6
theorem RY:aR Tryz.prog 55 z6:=fC hZ mixed (fun args kb K h=>by
 unfold z6 at h;split at h<;>try exact h.elim
 rename_i A
 refine⟨aI 55,agv A K (fun b hb=>⟨fun e=>h.2.1 (List.length_eq_zero_iff.1 (hb e)),fun e=>⟨trivial,au _,by omega,?_⟩⟩)⟩
 have:=h.2.2
 simpa using this)
def Ai:aD:=fun args kb K=>match args,kb with
 | [.int γ k,.int γ n],[]=>Qs n/\K (.int γ (bH k n)) []
 |_,_=>False
theorem Jl:aR Tryz.prog 20 Ai:=fC hZ mixed (fun args kb K h=>by
 unfold Ai at h;split at h<;>try exact h.elim
 rename_i k n
 obtain⟨hn,h⟩:=h
 unfold Qs at hn
 unfold bH at h
 refine⟨aI 20,ahi k n K ⟨fun hc=>?_,fun hc=>⟨?_,fun h2=>?_,fun h2=>?_⟩⟩⟩
 ·rw[if_pos (by simpa using hc)]at h;exact h
 ·have:¬ n<1:=by simpa using hc
  omega
 ·have h1:¬ n<1:=by simpa using hc
  have h2:k.tmod n<0:=by simpa using h2
  have h3:-n<k.tmod n:=Int.lt_tmod_of_pos k (by omega)
  rw[if_neg h1,if_pos h2]at h
  rw[bS (by omega) (by omega)];exact h
 ·have h1:¬ n<1:=by simpa using hc
  have h2:¬ k.tmod n<0:=by simpa using h2
  rw[if_neg h1,if_neg h2]at h;exact h)
def Dx (i:Nat):Prop:=i<=256
def DG (k:Nat):Prop:=k<=8
abbrev KS (tb:Nat->List D) (h':Nat->Nat->Int) (i:Nat):LI where
 α:={k:Nat // DG k}
 live:=[1,2,3,5,10]
 st k:=([an 0 0,.int γ (i:Int),.int iy (h' i k.1),.int γ (i:Int),.int γ (k.1:Int)],[aw [bD 256 (tb i)]])
 μ k:=8 - k.1
abbrev KD (tb:Nat->List D) (h':Nat->Nat->Int):LI where
 α:={i:Nat // Dx i}
 live:=[1,5]
 st i:=([an 0 0,.int γ (i.1:Int)],[aw [bD 256 (tb i.1)]])
 μ i:=256 - i.1
 sub i:=fun r=>match r with | 7=>some (KS tb h' i.1) | _=>none
def Up (tb:Nat->List D) (h':Nat->Nat->Int):FuncId->Nat->Option LI
 | 105,3=>some (KD tb h')
 |_,_=>none
def oX (i:Nat):List D:=aU iy (tQ i)
def r7 (i k:Nat):Int:=U (j7 k (BitVec.ofNat 32 i))
def EN (ts:List D):aD:=fun args kb K=>match args,kb with
 | [],[]=>K (an 0 0) [aw [bD 256 ts]]
 |_,_=>False
def F2 (ts:List D):FuncId->Option dK
 | 105=>some ⟨[],EN ts⟩
 |_=>none
noncomputable def XC (ts:List D):bN:=dU Tryz.prog (F2 ts) aI 10
def bB (l:List Int):List D:=[.sl 1 (ints ν l)]
def rS (n:Nat) (i:Nat):Prop:=i<=n
abbrev Fs (ts:List D) (ls:List (List Int)) (xv:Nat->Nat->Int) (j:Nat):LI where
 α:={i:Nat // rS (ls.getD j []).length i}
 live:=[3,4,10,11,12,16,17,18]
 st i:=([an 0 0,.int iy (xv j i.1),aH (.sl 1 (ls.map bB)),.int γ (ls.length:Int),.int γ (j:Int),aH (.sl 1 (ints ν (ls.getD j []))),.int γ ((ls.getD j []).length:Int),.int γ (i.1:Int)],[aw [bD 256 ts]])
 μ i:=(ls.getD j []).length - i.1
abbrev Fa (ts:List D) (ls:List (List Int)) (xv:Nat->Nat->Int):LI where
 α:={j:Nat // rS ls.length j}
 live:=[3,4,10,11,12]
 st j:=([an 0 0,.int iy (xv j.1 0),aH (.sl 1 (ls.map bB)),.int γ (ls.length:Int),.int γ (j.1:Int)],[aw [bD 256 ts]])
 μ j:=ls.length - j.1
 sub j:=fun r=>match r with | 7=>some (Fs ts ls xv j.1) | _=>none
def NJ (ts:List D) (ls:List (List Int)) (xv:Nat->Nat->Int):FuncId->Nat->Option LI
 | 78,4=>some (Fa ts ls xv)
 |_,_=>none
theorem ahB (tb:Nat->List D) (h':Nat->Nat->Int) (K:V->KB->Prop) (ar:
 At (KD tb h') ([an 0 0,ζ γ 0],[aw [bD 256 (dp 256 (η (φ iy 0)))]])/\
 ∀(i:{i:Nat // Dx i }),let ah:KB:=[aw [bD 256 (tb i.val)]];let κ:=ζ γ (↑i.val:Int);(decide ((↑i.val:Int)<256)=true->
 At (KS tb h' i.val) ([an 0 0,κ,ζ iy (iy.wrap (↑i.val:Int)),κ,ζ γ 0],ah)/\
 ∀(i_1:{k:Nat // DG k }),(decide ((↑i_1.val:Int)<8)=true->
 Nx (KS tb h' i.val) i_1 ([an 0 0,κ,ζ iy (iy.wrap (↑(BitVec.ofInt 32 ((h' i.val i_1.val).fdiv 2) ^^^ BitVec.ofInt 32 (iy.wrap (iy.wrap (↑(BitVec.ofInt 32 (h' i.val i_1.val) &&& BitVec.ofInt 32 1).toNat:Int)*3988292384))).toNat:Int)),κ,ζ γ (γ.wrap ((↑i_1.val:Int)+1))],ah))/\
 (decide ((↑i_1.val:Int)<8)=false->
 bj (↑i.val:Int) 256/\
 (↑i.val:Int).toNat*1+1<=256/\
 Nx (KD tb h') i ([an 0 0,ζ γ (γ.wrap ((↑i.val:Int)+1))],[aw [bD 256 (splice (tb i.val) ((↑i.val:Int).toNat*1) [η (φ iy (h' i.val i_1.val))])]])))/\
 (decide ((↑i.val:Int)<256)=false->
 K (an 0 0) ah)
 ):aK Tryz.prog X0 (Up tb h' 105) 105 [] [] K:=by apply Eq.mp (a:=ar);kernel_rfl
theorem ahy (ts:List D) (ls:List (List Int)) (xv:Nat->Nat->Int) (K:V->KB->Prop) (ar:
 let az:=ζ γ (↑ls.length:Int);let ah:KB:=[aw [bD 256 ts]];let κ:=aH (ω 1 (ae bB ls));At (Fa ts ls xv) ([an 0 0,ζ iy 4294967295,κ,ζ γ (↑(ae bB ls).length:Int),ζ γ 0],ah)/\
 ∀(i:{j:Nat // rS ls.length j }),(decide ((↑i.val:Int)<(↑ls.length:Int))=true->
 aM (↑i.val:Int)/\
 ∃(e:List D),(ae bB ls)[(↑i.val:Int).toNat]? =some e/\
 ∃(l:List (List D)),e[0]? =some (ω 1 l)/\
 At (Fs ts ls xv i.val) ([an 0 0,ζ iy (xv i.val 0),κ,az,ζ γ (↑i.val:Int),aH (ω 1 l),ζ γ (↑l.length:Int),ζ γ 0],ah)/\
 ∀(i_1:{i_1:Nat // rS (ls.getD i.val []).length i_1 }),let aL:=(↑i_1.val:Int)<(↑(ls.getD i.val []).length:Int);(decide (aL)=true->
 aM (↑i_1.val:Int)/\
 ∃(e:List D),(ints ν (ls.getD i.val []))[(↑i_1.val:Int).toNat]? =some e/\
 ∃(n:Int),e[0]? =some (η (φ ν n))/\
 bj (ν.wrap (↑(BitVec.ofInt 8 (ν.wrap (xv i.val i_1.val)) ^^^ BitVec.ofInt 8 n).toNat:Int)) 256/\
 ∃(n_1:Int),ts[(ν.wrap (↑(BitVec.ofInt 8 (ν.wrap (xv i.val i_1.val)) ^^^ BitVec.ofInt 8 n).toNat:Int)).toNat*1]? =some (η (φ iy n_1))/\
 Nx (Fs ts ls xv i.val) i_1 ([an 0 0,ζ iy (iy.wrap (↑(BitVec.ofInt 32 ((xv i.val i_1.val).fdiv 256) ^^^ BitVec.ofInt 32 n_1).toNat:Int)),κ,az,ζ γ (↑i.val:Int),aH (ω 1 (ints ν (ls.getD i.val []))),ζ γ (↑(ls.getD i.val []).length:Int),ζ γ (γ.wrap ((↑i_1.val:Int)+1))],ah))/\
 (decide (aL)=false->
 Nx (Fa ts ls xv) i ([an 0 0,ζ iy (xv i.val i_1.val),κ,az,ζ γ (γ.wrap ((↑i.val:Int)+1))],ah)))/\
 (decide ((↑i.val:Int)<(↑ls.length:Int))=false->
 K (ζ iy (iy.wrap (↑(BitVec.ofInt 32 4294967295 ^^^ BitVec.ofInt 32 (xv i.val 0)).toNat:Int))) [])
 ):aK Tryz.prog (XC ts) (NJ ts ls xv 78) 78 [aH (.sl 1 (ls.map bB))] [] K:=by apply Eq.mp (a:=ar);kernel_rfl
theorem Yd {i:Nat} (h:i<256):splice (tQ i) (i*1) [vu i]=tQ (i+1):=by
 unfold splice tQ
 apply lB
 intro j
 simp only[Nat.mul_one,gF,ko]
 have hl:((iN 256).map fun j=>if j<i then vu j else 0).length=256:=by simp
 rcases Nat.lt_trichotomy j i with hj | rfl | hj
 ·rw[eH,dX (by rw[dc,hl];omega),ji hj]
  simp only[fH,List.getElem?_range (show j<256 by omega),Option.map_some,if_pos hj,if_pos (show j<i+1 by omega)]
 ·rw[eH,e_ (by rw[dc,hl];omega)]
  rw[dc,hl,show j - min j 256=0 by omega]
  simp only[fH,List.getElem?_range h,Option.map_some,if_pos (show j<j+1 by omega)]
  rfl
 ·rw[eH,e_ (by rw[dc,hl];omega)]
  rw[dc,hl,e_ (by simp;omega),jE]
  rw[show i+1+(j - min i 256 - [vu i].length)=j by simp;omega]
  by_cases h2:j<256
  ·simp only[fH,List.getElem?_range h2,Option.map_some,if_neg (show ¬ j<i by omega),if_neg (show ¬ j<i+1 by omega)]
  ·rw[g_ (by rw[hl];omega),g_ (by simp;omega)]
theorem afE {i:Nat} (h:i<256):splice (oX i) (i*1) [η (.int iy (r7 i 8))]=oX (i+1):=by
 have:splice (aU iy (tQ i)) (i*1) (aU iy [vu i])=aU iy (splice (tQ i) (i*1) [vu i]):=by simp [splice,aU]
 unfold oX
 rw[<- Yd h,<- this];rfl
theorem acX:aR Tryz.prog 105 (EN (oX 256)):=fC hZ mixed (fun args kb K h=>by
 unfold EN at h;split at h<;>try exact h.elim
 refine⟨Up oX r7 105,ahB oX r7 K ⟨At.mk' ⟨0,bt _⟩ rfl,?_⟩⟩
 rintro⟨i,hi⟩
 simp only[Dx]at hi ⊢
 refine⟨fun hc=>?_,fun hc=>?_⟩
 ·simp only[decide_eq_true_eq]at hc
  have hi2:i<256:=by omega
  have w1:iy.wrap (i:Int)=r7 i 0:=by
   unfold r7 U j7
   rw[BitVec.toNat_ofNat,Nat.mod_eq_of_lt (by omega)]
   exact IntWalk.u32_in _ (by omega)
  rw[w1]
  refine⟨At.mk' ⟨0,bt _⟩ rfl,?_⟩
  rintro⟨k,hk⟩
  simp only[DG]at hk ⊢
  refine⟨fun gM=>?_,fun gM=>?_⟩
  ·simp only[decide_eq_true_eq]at gM
   have w2:=bS (n:=(k:Int)+1) (by omega) (by omega)
   have e:iy.wrap (((BitVec.ofInt 32 ((r7 i k).fdiv 2) ^^^ BitVec.ofInt 32 (iy.wrap (iy.wrap (((BitVec.ofInt 32 (r7 i k) &&& BitVec.ofInt 32 1).toNat:Int))*3988292384))).toNat:Int))=r7 i (k+1):=by
    unfold r7
    rw[vg,show(BitVec.ofInt 32 1)=1#32 by decide]
    have h1:=Wx (j7 k (BitVec.ofNat 32 i))
    unfold U at h1
    rw[h1]
    have h2:=Mf (j7 k (BitVec.ofNat 32 i)) 1
    rw[show((2 ^ 1:Nat):Int)=2 from rfl]at h2
    rw[h2,vg]
    have h3:=vg (if(j7 k (BitVec.ofNat 32 i)).getLsbD 0 then F1 else 0#32)
    unfold U at h3
    rw[h3]
    exact AB _
   rw[e,w2]
   exact Nx.mk' (⟨k+1,by show k+1<=8;omega⟩:{x:Nat // DG x}) rfl (by show 8 - (k+1)<8 - k;omega)
  ·simp only[decide_eq_false_iff_not]at gM
   have hk8:k=8:=by omega
   subst hk8
   have e2:((i:Nat):Int).toNat=i:=by omega
   have w2:=bS (n:=(i:Int)+1) (by omega) (by omega)
   refine⟨by unfold bj;omega,by omega,?_⟩
   rw[e2,w2,afE hi2]
   exact Nx.mk' (⟨i+1,by show i+1<=256;omega⟩:{x:Nat // Dx x}) rfl (by show 256 - (i+1)<256 - i;omega)
 ·simp only[decide_eq_false_iff_not]at hc
  have:i=256:=by omega
  subst this;exact h)
theorem Ya:dP Tryz.prog (F2 (oX 256)):=fun f k h=>by
 unfold F2 at h
 split at h<;>first | (cases h;exact acX) | cases h
theorem WA:b9 Tryz.prog (XC (oX 256)):=dY mixed Ya aI 10
abbrev BZ:hU:=4294967295#32
def tp (ls:List (List Int)) (j i:Nat):Int:=U (mz (mz BZ (ls.take j).flatten) ((ls.getD j []).take i))
def V_ (ls:List (List Int)):Prop:=ls.length<=1000000/\∀ l∈ls,bm l/\Sm l
def EM:aD:=fun args kb K=>match args,kb with
 | [aH (.sl 1 L)],[]=>∃ ls:List (List Int),L=ls.map bB/\V_ ls/\K (.int iy (dN ls.flatten)) []
 |_,_=>False
theorem afF {i:Nat} (h:i<256):(oX 256)[i]? =some (η (.int iy (U (j7 8 (BitVec.ofNat 32 i))))):=by
 unfold oX tQ aU
 simp only[fH,List.getElem?_range h,Option.map_some,if_pos h]
 rfl
theorem acV:aR Tryz.prog 78 EM:=fC WA mixed (fun args kb K h=>by
 unfold EM at h;split at h<;>try exact h.elim
 obtain⟨ls,rfl,hb,h⟩:=h
 have cj:=hb.1
 refine⟨NJ (oX 256) ls (tp ls) 78,ahy (oX 256) ls (tp ls) K ⟨?_,?_⟩⟩
 ·simp only[cp]
  exact At.mk' ⟨0,bt _⟩ rfl
 rintro⟨j,hj⟩
 simp only[rS]at hj ⊢
 refine⟨fun hc=>?_,fun hc=>?_⟩
 ·simp only[decide_eq_true_eq]at hc
  have e2:((j:Nat):Int).toNat=j:=by omega
  have hq:ls[j]? =some ls[j]:=bz (by omega)
  have hg:ls.getD j []=ls[j]:=by rw[iY,hq];rfl
  have kA:aM (j:Int):=by unfold aM;omega
  refine⟨kA,bB ls[j],by rw[e2,fH,hq];rfl,ints ν ls[j],rfl,?_,?_⟩
  ·rw[bh,<- hg]
   exact At.mk' (⟨0,bt _⟩:{i:Nat // rS (ls.getD j []).length i}) rfl
  rintro⟨i,hi⟩
  simp only[rS]at hi ⊢
  refine⟨fun gM=>?_,fun gM=>?_⟩
  ·simp only[decide_eq_true_eq]at gM
   have e3:((i:Nat):Int).toNat=i:=by omega
   have hil:i<ls[j].length:=by rw[<- hg];omega
   have rp:(ls.getD j [])[i]? =some ls[j][i]:=by rw[hg];exact bz hil
   have hby:0<=ls[j][i]/\ls[j][i]<256:=(hb.2 ls[j] (List.getElem_mem _)).1 _ (List.getElem_mem _)
   have aao:aM (i:Int):=by unfold aM;omega
   have ry:ls[j].length<=1000000:=(hb.2 ls[j] (List.getElem_mem _)).2
   have w2:=bS (n:=(i:Int)+1) (by omega) (by omega)
   refine⟨aao,[η (.int ν ls[j][i])],by rw[e3,mb,rp];rfl,ls[j][i],rfl,?_⟩
   unfold tp
   rw[Ye hby]
   have hlt:((mz (mz BZ (ls.take j).flatten) ((ls.getD j []).take i) ^^^ BitVec.ofInt 32 ls[j][i]) &&& 255#32).toNat<256:=by rw[Q0];omega
   refine⟨by unfold bj;omega,_,by rw[dD,Nat.mul_one,afF hlt],?_⟩
   rw[BitVec.ofNat_toNat,BitVec.setWidth_eq,Yf hby,w2]
   refine Nx.mk' (⟨i+1,by show i+1<=(ls.getD j []).length;omega⟩:{i:Nat // rS (ls.getD j []).length i}) ?_ (by show(ls.getD j []).length - (i+1)<(ls.getD j []).length - i;omega)
   have ht:(ls.getD j []).take (i+1)=(ls.getD j []).take i++[ls[j][i]]:=by rw[j2,rp];rfl
   show _=(([an 0 0,.int iy (U (mz (mz BZ (ls.take j).flatten) ((ls.getD j []).take (i+1)))),_,_,_,_,_,_],_):List V×KB)
   rw[ht,Yc]
   rfl
  ·simp only[decide_eq_false_iff_not]at gM
   have hil:i=(ls.getD j []).length:=by omega
   subst hil
   have w2:=bS (n:=(j:Int)+1) (by omega) (by omega)
   rw[w2]
   refine Nx.mk' (⟨j+1,by show j+1<=ls.length;omega⟩:{j:Nat // rS ls.length j}) ?_ (by show ls.length - (j+1)<ls.length - j;omega)
   have ht:(ls.take (j+1)).flatten=(ls.take j).flatten++ls.getD j []:=by rw[j2,hq,hg,List.flatten_append];simp
   have e:tp ls j (ls.getD j []).length=tp ls (j+1) 0:=by
    unfold tp
    rw[cZ,ht,Yb];rfl
   rw[e];rfl
 ·simp only[decide_eq_false_iff_not]at hc
  have:j=ls.length:=by omega
  subst this
  have e:tp ls ls.length 0=U (mz BZ ls.flatten):=by
   unfold tp;rw[cZ,List.take_zero];rfl
  rw[e,Wy]
  exact h)
def Dw:FuncId->Option dK
 | 78=>some ⟨[.gj 1],EM⟩
 | 12=>some ⟨[.gj 1,.gj 1],An⟩
 | 95=>some ⟨[.gj 1,.gj 1],An⟩
 | 55=>some ⟨[.gj 1],Wt⟩
 | 20=>some ⟨[],Ai⟩
 |_=>none
noncomputable def XS:bN:=dU Tryz.prog Dw aI 10
def Ao:aD:=fun args kb K=>match args,kb with
 | [aH (.sl 1 A)],[]=>∃ l:List Int,A=ints ν l/\bm l/\l.length<=900000/\K (.sl 0 0 (l.length+4)) [υ 5 1 (ints ν (bZ l))]
 |_,_=>False
def Ag:aD:=fun args kb K=>match args,kb with
 | [aH (.sl 1 A)],[]=>∃ l:List Int,A=ints ν l/\bm l/\l.length<=900000/\(fB l=none->K (.χ [δ (.slice none 0 0),ξ false]) [])/\
  ∀ m,fB l=some m->(m=[]->K (.χ [δ (.slice none 0 0),ξ true]) [])/\K (.χ [.sl 0 0 m.length,ξ true]) [υ 5 1 (ints ν m)]
 |_,_=>False
def De:FuncId->Option dK
 | 67=>some ⟨[.gj 1],Ao⟩
 |f=>Dw f
noncomputable def XO:bN:=dU Tryz.prog De aI 10
theorem ahe (l:List Int) (K:V->KB->Prop) (ar:
 let az:=K (av [δ (Value.slice none 0 0),ξ false]) [];let κ:=(γ.wrap ((↑(ints ν l).length:Int) - 4));let aL:=κ.toNat<=(ints ν l).length;let ah:=(aA κ.toNat (ints ν l));(decide (γ.wrap ((↑(ints ν l).length:Int) - 4)<0)=true->
 az)/\
 (decide (γ.wrap ((↑(ints ν l).length:Int) - 4)<0)=false->
 True/\
 aM κ/\
 0<=κ.toNat/\
 aL/\
 ∃(l_1:List Int),ax 0 ah=ints ν l_1/\
 (∀(c:Int),dW c l_1->
 0<=c/\
 c<256)/\
 l_1.length<=900000/\
 (l_1.length+4<=(ints ν (bZ l_1)).length/\
 True/\
 True)/\
 ∃(a:List Int),∃(b:List Int),ax 0 (aA (l_1.length+4) (ints ν (bZ l_1)))=ints ν a/\
 ints ν l=ints ν b/\
 a.length.le 1000000/\
 True/\
 ((!decide (a=b))=true->
 az)/\
 ((!decide (a=b))=false->
 True/\
 aM κ/\
 0<=κ.toNat/\
 aL/\
 (ax 0 ah).length<=140737488355328/\
 (ax 0 ah=[]->
 K (av [δ (Value.slice none 0 0),ξ true]) [])/\
 K (av [ε 0 0 (ax 0 ah).length,ξ true]) [υ 5 1 (ax 0 ah)]))
 ):aK Tryz.prog XO (aI 64) 64 [aH (.sl 1 (ints ν l))] [] K:=by apply Eq.mp (a:=ar);kernel_rfl
theorem ahr (A:List (List D)) (K:V->KB->Prop) (ar:
 (1<=1/\
 True)/\
 ∃(ls:List (List Int)),let κ:=[[η (φ ν (ν.wrap (dN ls.flatten)))],[η (φ ν (ν.wrap ((dN ls.flatten).fdiv 256)))],[η (φ ν (ν.wrap ((dN ls.flatten).fdiv 65536)))],[η (φ ν (ν.wrap ((dN ls.flatten).fdiv 16777216)))]];[[ω 1 A]]=ae bB ls/\
 (ls.length<=1000000/\
 ∀(l:List Int),dW l ls->
 (∀(c:Int),dW c l->
 0<=c/\
 c<256)/\
 l.length.le 1000000)/\
 True/\
 A.length<=140737488355328/\
 (A=[]->
 4<=4/\
 4*1<=140737488355328/\
 K (ε 0 0 4) [υ 5 1 κ])/\
 4<=4/\
 A.length<=A.length/\
 (A.length+4)*1<=140737488355328/\
 K (ε 0 0 (A.length+4)) [υ 5 1 (aA A.length A++κ)]
 ):aK Tryz.prog XS (aI 67) 67 [aH (.sl 1 A)] [] K:=by apply Eq.mp (a:=ar);kernel_rfl
theorem Uo:dP Tryz.prog Dw:=fun f k h=>by
 unfold Dw at h
 split at h<;>first | (cases h;first | exact acV | exact aii | exact Jm | exact abX | exact RY | exact Jl) | cases h
theorem WW:b9 Tryz.prog XS:=dY mixed Uo aI 10
theorem NI {l:List Int}:([l]:List (List Int)).flatten=l:=by simp
theorem Se:aR Tryz.prog 67 Ao:=fC WW mixed (fun args kb K h=>by
 unfold Ao at h;split at h<;>try exact h.elim
 obtain⟨l,rfl,hb,ry,h⟩:=h
 refine⟨aI 67,ahr _ K ⟨⟨au _,trivial⟩,[l],rfl,⟨Nat.le_of_ble_eq_true rfl,fun x hx=>?_⟩,trivial,by rw[bh];omega,fun e=>⟨au _,by omega,?_⟩,au _,au _,by rw[bh];omega,?_⟩⟩
 ·cases hx with
  |head=>exact⟨hb,Nat.le_trans ry (by decide)⟩
  |tail _ hx=>cases hx
 ·cases l with
  |cons a l=>simp [ints]at e
  |nil=>exact h
 ·rw[NI,bh,fI (by rw[bh];omega)]
  have:ints ν (bZ l)=ints ν l++ints ν (yp (dN l)):=by unfold bZ;rw[qj]
  rw[this]at h
  exact h)
theorem TP:dP Tryz.prog De:=fun f k h=>by
 unfold De at h
 split at h
 ·cases h;exact Se
 ·exact Uo _ _ h
theorem WU:b9 Tryz.prog XO:=dY mixed TP aI 10
theorem afI {l:List Int} (h:4<=l.length) (hm:l.length<=900000):(γ.wrap ((l.length:Int) - 4)).toNat=l.length - 4/\aM (γ.wrap ((l.length:Int) - 4)):=by
 rw[bS (by omega) (by omega)]
 unfold aM
 omega
theorem bm.take {l:List Int} (h:bm l) (n:Nat):bm (l.take n):=fun c hc=>h c (List.mem_of_mem_take hc)
theorem dt (n:Nat) (l:List Int):ax 0 (aA n (ints ν l))=ints ν (l.take n):=by rw[iX,qk]
theorem Sb:aR Tryz.prog 64 Ag:=fC WU mixed (fun args kb K h=>by
 unfold Ag at h;split at h<;>try exact h.elim
 obtain⟨l,rfl,hb,ry,h1,h2⟩:=h
 refine⟨aI 64,ahe l K ⟨fun hc=>?_,fun hc=>?_⟩⟩
 ·simp only[bh,decide_eq_true_eq]at hc
  refine h1 ?_
  unfold fB
  rw[if_neg]
  rintro⟨h4,_⟩
  rw[bS (by omega) (by omega)]at hc;omega
 ·simp only[bh,decide_eq_false_iff_not]at hc ⊢
  have h4:4<=l.length:=by rw[bS (by omega) (by omega)]at hc;omega
  obtain⟨t1,t2⟩:=afI h4 ry
  rw[t1]
  refine⟨trivial,t2,bt _,Nat.sub_le _ _,l.take (l.length - 4),dt _ _,bm.take hb _,by simp;omega,⟨?_,trivial,trivial⟩,bZ (l.take (l.length - 4)),l,?_,rfl,?_,trivial,fun hx=>?_,fun hx=>?_⟩
  ·simp only[bh,oU];exact au _
  ·rw[dt,<- oU,cZ]
  ·show(bZ (l.take (l.length - 4))).length<=1000000
   rw[oU,dc];omega
  ·refine h1 ?_
   unfold fB
   rw[if_neg]
   rintro⟨_,he⟩
   simp [he]at hx
  ·have ho:fB l=some (l.take (l.length - 4)):=by
    unfold fB
    rw[if_pos ⟨h4,by simpa using hx⟩]
   obtain⟨k1,k2⟩:=h2 _ ho
   simp only[dt,bh]
   refine⟨trivial,t2,bt _,Nat.sub_le _ _,by rw[dc];omega,fun e=>k1 ?_,k2⟩
   have:=congrArg List.length e
   rw[bh]at this
   exact List.length_eq_zero_iff.1 this)
def AT:FuncId->Option dK
 | 64=>some ⟨[.gj 1],Ag⟩
 |f=>De f
theorem NA:dP Tryz.prog AT:=fun f k h=>by
 unfold AT at h
 split at h
 ·cases h;exact Sb
 ·exact TP _ _ h
end Go.Proofs.YtfcjngcnifdmnaaGreat
set_option linter.unusedVariables false
set_option linter.unusedSimpArgs false
namespace Vc
open Go
open Go.IntKind renaming i64->γ,u8->ν,u32->iy
open Go.Value renaming int->φ,map->kr,oneCell'->l0
open List renaming map->ae,drop->ax,take->aA,length_append->bo,getElem?_eq_getElem->bz,getElem?_eq_some_iff->bO,length_map->cp,take_length->cZ,length_take->dc,mem_singleton->dm,replicate->dp,mem_append->dQ,Mem->dW,getElem?_append_left->dX,mem_map->ef,append_assoc->eH,mem_cons->eI,getElem?_append_right->e_,append_nil->fu,getElem?_map->fH,take_of_length_le->fI,length_drop->fZ,mem_cons_of_mem->f_,getElem?_set_ne->gE,length_cons->gF,mem_of_getElem?->gG,getElem?_eq_none->g_,getElem?_set_self->iz,length_set->iA,mem_cons_self->iB,length_singleton->iL,mem_append_left->iM,range->iN,drop_zero->iX,getD_eq_getElem?_getD->iY,getElem?_take_of_lt->ji,flatten_cons->jt,nil_append->ju,getElem?_drop->jE,map_append->jZ,take_add_one->j2,length_nil->ko,ext_getElem?->lB,getElem?_of_mem->lC,mem_append_right->lD,map_cons->lY,mem_filter->lZ,eq_nil_of_length_eq_zero->mq
open Nat renaming le_refl->au,zero_le->bt,beq->cq,eq_of_beq_eq_true->cP,zero_add->cQ,add_assoc->gR,lor->iO,lt_or_ge->jF,sub_zero->kV
open Option renaming some->bc,bind_eq_some_iff->kW,map->mU
open Int renaming le_refl->dy,toNat_natCast->dD
open Bool renaming and_eq_true->iW,not_eq_false'->nI
theorem CN {l m:List Int} (h:fB l=some m):l=bZ m:=by
 unfold fB at h
 split at h
 ·rename_i hc
  cases h
  exact hc.2.symm
 ·cases h
def w_ (k:Nat) (s t:List Int):Prop:=s.length=t.length/\s.take k=t.take k/\(s.drop k).drop 4=(t.drop k).drop 4
theorem w_.refl (k:Nat) (s:List Int):w_ k s s:=⟨rfl,rfl,rfl⟩
theorem w_.set {k:Nat} {s t:List Int} (h:w_ k s t) {i:Nat} (hi:i<4) (c:Int):w_ k (s.set (k+i) c) t:=by
 obtain⟨h1,h2,h3⟩:=h
 refine⟨by simpa using h1,?_,?_⟩
 ·rw[List.take_set_of_le (by omega)];exact h2
 ·rw[<- h3]
  apply lB
  intro j
  simp only[jE]
  rw[gE (by omega)]
theorem bm.set {s:List Int} (h:bm s) {i:Nat} {c:Int} (hc:0<=c/\c<256):bm (s.set i c):=fun d hd=>by
 rcases List.mem_or_eq_of_mem_set hd with hd | rfl
 ·exact h d hd
 ·exact hc
def h_:Nat->Nat->List Int
 | 0,n=>[(n:Int)]
 |k+1,n=>if n<128 then[(n:Int)]else((n % 128+128:Nat):Int)::h_ k (n / 128)
def aY (n:Int):List Int:=h_ 8 n.toNat
def cH (b:List Int):List Int:=aY b.length++b
structure iK (z:Int):Prop where
 h:z<=9223372036854775807
inductive zU where
 |got (v n:Nat)
 |short
 |form
def jA:Nat->Nat->List Int->zU
 |i,_,[]=>if i<9 then .short else .form
 |i,v,c::r=>if i=9∨(c=0/\0<i)then .form else if 128<=c then jA (i+1) (v+(c.toNat % 128)*128 ^ i) r else .got (v+c.toNat*128 ^ i) (i+1)
def cz (l:List Int) (e most:Int):Int×Nat×Int:=
 if e=0 then(match jA 0 0 l with
  | .got v n=>if most<(v:Int)then(0,0,5)else((v:Int),n,0)
  | .short=>(0,0,2)
  | .form=>(0,0,3))else(0,0,e)
def gN (l:List Int) (e most:Int):List Int×Nat×Int:=
 if(cz l e most).2.2=0 then
  (if((l.drop (cz l e most).2.1).length:Int)<(cz l e most).1 then([],(cz l e most).2.1,2)
   else((l.drop (cz l e most).2.1).take (cz l e most).1.toNat,(cz l e most).2.1+(cz l e most).1.toNat,0))
 else([],(cz l e most).2.1,(cz l e most).2.2)
def iS (l:List Int) (e:Int):Int:=if l≠[]/\e=0 then 3 else e
theorem abA:∀(k n:Nat),1<=(h_ k n).length
 | 0,n=>by simp [h_]
 |k+1,n=>by unfold h_;split<;>simp
theorem RK:∀(k n:Nat),(h_ k n).length<=k+1
 | 0,n=>by simp [h_]
 |k+1,n=>by
  unfold h_;split
  ·simp
  ·simp;exact RK k _
theorem RJ:∀(k n:Nat),n<128 ^ (k+1)->bm (h_ k n)
 | 0,n,h=>fun c hc=>by simp [h_]at hc h;omega
 |k+1,n,h=>fun c hc=>by
  unfold h_ at hc
  split at hc
  ·simp at hc;omega
  ·rcases eI.1 hc with rfl | hc
   ·have:=Nat.mod_lt n (show 128 > 0 by decide);omega
   ·exact RJ k _ (by rw[Nat.div_lt_iff_lt_mul (by decide),<- Nat.pow_succ];exact h) c hc
theorem jO (n:Int):1<=(aY n).length/\(aY n).length<=9:=⟨abA _ _,RK _ _⟩
theorem pG {n:Int} (h:n<=9223372036854775807):bm (aY n):=RJ _ _ (by have:(128:Nat) ^ (8+1)=9223372036854775808:=rfl;omega)
theorem RO (r:List Int):∀(k i v n:Nat),n<128 ^ (k+1)->i+k<=8->(n≠0∨i=0)->jA i v (h_ k n++r)= .got (v+n*128 ^ i) (i+(h_ k n).length)
 | 0,i,v,n,h,hi,hz=>by
  simp at h
  simp only[h_,List.cons_append,ju,jA,gF,ko]
  rw[if_neg (by omega),if_neg (by omega)]
  simp
 |k+1,i,v,n,h,hi,hz=>by
  unfold h_
  split
  ·simp only[List.cons_append,ju,jA,gF,ko]
   rw[if_neg (by omega),if_neg (by omega)]
   simp
  ·rename_i hn
   have hm:=Nat.mod_lt n (show 128 > 0 by decide)
   simp only[List.cons_append,jA,gF]
   rw[if_neg (by omega),if_pos (by omega),RO r k (i+1) _ (n / 128) (by rw[Nat.div_lt_iff_lt_mul (by decide),<- Nat.pow_succ];exact h) (by omega) (.inl (by omega))]
   have e1:(((n % 128+128:Nat):Int)).toNat % 128=n % 128:=by omega
   have e2:n*128 ^ i=n % 128*128 ^ i+n / 128*128 ^ (i+1):=by
    rw[Nat.pow_succ]
    have:=Nat.div_add_mod n 128
    calc n*128 ^ i=(128*(n / 128)+n % 128)*128 ^ i:=by rw[this]
     _=n % 128*128 ^ i+n / 128*(128 ^ i*128):=by rw[Nat.add_mul,Nat.add_comm,Nat.mul_comm 128 (n / 128),Nat.mul_assoc,Nat.mul_comm 128 (128 ^ i)]
   rw[e1,e2]
   congr 1
   ·omega
   ·omega
theorem abB {n:Int} (h0:0<=n) (h:n<=9223372036854775807) (r:List Int):jA 0 0 (aY n++r)= .got n.toNat (aY n).length:=by
 have:=RO r 8 0 0 n.toNat (by have:(128:Nat) ^ (8+1)=9223372036854775808:=rfl;omega) (by omega) (.inr rfl)
 simpa [aY]using this
theorem RN:∀(l:List Int) (i v w m:Nat),i<=9->bm l->jA i v l= .got w m->∃ n,i<=8/\w=v+n*128 ^ i/\n<128 ^ (9 - i)/\(0<i->n≠0)/\m=i+(h_ (8 - i) n).length/\∃ r,l=h_ (8 - i) n++r
 | [],i,v,w,m,hi,hb,h=>by unfold jA at h;split at h<;>cases h
 |c::r,i,v,w,m,hi,hb,h=>by
  have hc:=hb c iB
  unfold jA at h
  split at h
  ·cases h
  ·rename_i h1
   have PV:i<=8:=by omega
   split at h
   ·rename_i h2
    obtain⟨n,k1,k2,k3,k4,k5,r',k6⟩:=RN r (i+1) _ w m (by omega) (fun d hd=>hb d (f_ _ hd)) h
    have hn0:n≠0:=k4 (by omega)
    have e0:8 - i=(8 - (i+1))+1:=by omega
    have e9:9 - i=(9 - (i+1))+1:=by omega
    have ec:c.toNat % 128=c.toNat - 128:=by omega
    have e1:h_ (8 - i) (c.toNat - 128+128*n)=c::h_ (8 - (i+1)) n:=by
     rw[e0]
     rw[h_.eq_2,if_neg (by omega)]
     have a1:(c.toNat - 128+128*n) % 128=c.toNat - 128:=by omega
     have a2:(c.toNat - 128+128*n) / 128=n:=by omega
     rw[a1,a2]
     congr 1
     omega
    refine⟨c.toNat - 128+128*n,PV,?_,?_,fun _=>by omega,?_,r',?_⟩
    ·rw[k2,ec,Nat.pow_succ,Nat.add_mul,Nat.mul_comm (128 ^ i) 128,<- Nat.mul_assoc,Nat.mul_comm n 128];omega
    ·rw[e9,Nat.pow_succ];omega
    ·rw[e1,k5,gF];omega
    ·rw[e1,k6];rfl
   ·rename_i h2
    cases h
    have e1:h_ (8 - i) c.toNat=[c]:=by
     have:((c.toNat:Nat):Int)=c:=by omega
     cases h8:8 - i with
     |zero=>rw[h_.eq_1,this]
     |succ k=>rw[h_.eq_2,if_pos (by omega),this]
    refine⟨c.toNat,PV,rfl,?_,fun _=>by omega,by rw[e1];rfl,r,by rw[e1];rfl⟩
    have:9 - i=(8 - i)+1:=by omega
    rw[this,Nat.pow_succ]
    have:0<128 ^ (8 - i):=Nat.pow_pos (by decide)
    omega
theorem CG {l:List Int} {w m:Nat} (hb:bm l) (h:jA 0 0 l= .got w m):(w:Int)<=9223372036854775807/\m=(aY w).length/\∃ r,l=aY w++r:=by
 obtain⟨n,_,h1,h2,_,h3,h4⟩:=RN l 0 0 w m (by omega) hb h
 simp at h1
 subst h1
 have:(128:Nat) ^ (9 - 0)=9223372036854775808:=rfl
 have e:aY (w:Int)=h_ (8 - 0) w:=by unfold aY;rw[dD]
 exact⟨by omega,by rw[e,h3,cQ],by rw[e];exact h4⟩
theorem yU {l:List Int} (hb:bm l) (e most:Int):0<=(cz l e most).1/\(cz l e most).1<=9223372036854775807/\(cz l e most).2.1<=l.length:=by
 unfold cz
 split
 ·split
  ·rename_i v n h
   obtain⟨h1,h2,r,h3⟩:=CG hb h
   split
   ·simp
   ·refine⟨by simp,h1,?_⟩
    show n<=l.length
    rw[h2,h3,bo];omega
  ·simp
  ·simp
 ·simp
theorem JL {n:Int} (h0:0<=n) (h:n<=9223372036854775807) {most:Int} (hm:n<=most) (r:List Int):cz (aY n++r) 0 most=(n,(aY n).length,0):=by
 unfold cz
 rw[if_pos rfl,abB h0 h]
 show(if most<((n.toNat:Nat):Int)then _ else _)=_
 rw[if_neg (by omega)]
 rw[Int.toNat_of_nonneg h0]
theorem Tl {b:List Int} {most:Int} (hm:(b.length:Int)<=most) (h:(b.length:Int)<=9223372036854775807) (r:List Int):gN (cH b++r) 0 most=(b,(cH b).length,0):=by
 unfold gN cH
 rw[eH,JL (by omega) h hm]
 simp
 omega
theorem SM {n:Nat}:ν.wrap (((BitVec.ofInt 8 (ν.wrap (n:Int)) ||| BitVec.ofInt 8 128).toNat:Nat):Int)=((n % 128+128:Nat):Int):=by
 have e:ν.wrap (n:Int)=((n % 256:Nat):Int):=by
  show(n:Int) % 2 ^ 8=_
  omega
 rw[e]
 have h:∀ k:Fin 256,ν.wrap (((BitVec.ofInt 8 ((k.1:Nat):Int) ||| BitVec.ofInt 8 128).toNat:Nat):Int)=((k.1 % 128+128:Nat):Int):=by decide+kernel
 have:=h ⟨n % 256,Nat.mod_lt _ (by decide)⟩
 simp only at this
 rw[this]
 omega
theorem Xc {n:Int} (h0:0<=n) (h:n<256):ν.wrap (((BitVec.ofInt 8 n &&& BitVec.ofInt 8 127).toNat:Nat):Int)=((n.toNat % 128:Nat):Int):=by
 have h:∀ k:Fin 256,ν.wrap (((BitVec.ofInt 8 ((k.1:Nat):Int) &&& BitVec.ofInt 8 127).toNat:Nat):Int)=((k.1 % 128:Nat):Int):=by decide+kernel
 have:=h ⟨n.toNat,by omega⟩
 simp only at this
 rw[Int.toNat_of_nonneg h0]at this
 exact this
theorem JE (i:Nat):(128:Nat) ^ i=2 ^ (7*i):=by rw[Nat.pow_mul]
theorem adJ {i:Nat} (h:i<=8):(128:Nat) ^ i<=72057594037927936:=by
 have:=Nat.pow_le_pow_right (n:=128) (by decide) h
 exact Nat.le_trans this (by decide)
theorem RP {v m i:Nat} (hv:v<128 ^ i) (hm:m<128) (hi:i<=8):
  γ.wrap (((BitVec.ofInt 64 (v:Int) ||| BitVec.ofInt 64 (oW γ (m:Int) (((7*i:Nat)):Int))).toNat:Nat):Int)=((v+m*128 ^ i:Nat):Int):=by
 have hp:=adJ hi
 have hmul:m*128 ^ i<=127*72057594037927936:=Nat.mul_le_mul (by omega) hp
 have e1:oW γ (m:Int) (((7*i:Nat)):Int)=((m*128 ^ i:Nat):Int):=by
  unfold oW
  rw[dD,show min (7*i) γ.bits=7*i from Nat.min_eq_left (by show 7*i<=64;omega)]
  rw[show(m:Int)*2 ^ (7*i)=((m*128 ^ i:Nat):Int) by rw[JE];simp]
  exact bS (by omega) (by omega)
 rw[e1]
 have e2:(BitVec.ofInt 64 (v:Int) ||| BitVec.ofInt 64 ((m*128 ^ i:Nat):Int)).toNat=v+m*128 ^ i:=by
  rw[BitVec.toNat_or,BitVec.toNat_ofInt,BitVec.toNat_ofInt]
  have a1:((v:Int) % ((2 ^ 64:Nat):Int)).toNat=v:=by
   have:((2 ^ 64:Nat):Int)=18446744073709551616:=rfl
   rw[this];omega
  have a2:(((m*128 ^ i:Nat):Int) % ((2 ^ 64:Nat):Int)).toNat=m*128 ^ i:=by
   have:((2 ^ 64:Nat):Int)=18446744073709551616:=rfl
   rw[this];omega
  rw[a1,a2]
  have:=Nat.shiftLeft_add_eq_or_of_lt (i:=7*i) (b:=v) (by rw[<- JE];exact hv) m
  rw[Nat.shiftLeft_eq,<- JE]at this
  rw[Nat.or_comm,<- this,Nat.add_comm]
 rw[e2]
 have:v<72057594037927936:=Nat.lt_of_lt_of_le hv hp
 exact bS (by omega) (by omega)
def lead:List Int->Nat
 | []=>0
 |c::r=>if 128<=c then lead r+1 else 0
def mP:Nat->List Int->Nat
 | 0,_=>0
 |_+1,[]=>0
 |k+1,c::r=>c.toNat % 128+128*mP k r
theorem r_ (b:List Int):1<=(cH b).length/\(cH b).length<=b.length+9:=by
 have:=jO b.length
 unfold cH
 rw[bo]
 omega
theorem DC {b:List Int} (h:bm b) (hl:(b.length:Int)<=9223372036854775807):bm (cH b):=fun c hc=>by
 unfold cH at hc
 rcases dQ.1 hc with hc | hc
 ·exact pG hl c hc
 ·exact h c hc
end Vc
namespace Go.Proofs.YtfcjngcnifdmnaaGreat
open Vc Go
open Go.IntKind renaming i64->γ,u8->ν,u32->iy
open Vc.V renaming any->δ,sl->ε,int->ζ,sb->ξ,ptr->an,χ->av,dat->aH,af->aO,mp->bb,arr->bD,agg->fw
open Vc.D renaming val->η,sl->ω
open Vc.KO renaming row->υ,dead->aa,cells->aw,objs->cY
open Go.Value renaming int->φ,map->kr,oneCell'->l0
open List renaming map->ae,drop->ax,take->aA,length_append->bo,getElem?_eq_getElem->bz,getElem?_eq_some_iff->bO,length_map->cp,take_length->cZ,length_take->dc,mem_singleton->dm,replicate->dp,mem_append->dQ,Mem->dW,getElem?_append_left->dX,mem_map->ef,append_assoc->eH,mem_cons->eI,getElem?_append_right->e_,append_nil->fu,getElem?_map->fH,take_of_length_le->fI,length_drop->fZ,mem_cons_of_mem->f_,getElem?_set_ne->gE,length_cons->gF,mem_of_getElem?->gG,getElem?_eq_none->g_,getElem?_set_self->iz,length_set->iA,mem_cons_self->iB,length_singleton->iL,mem_append_left->iM,range->iN,drop_zero->iX,getD_eq_getElem?_getD->iY,getElem?_take_of_lt->ji,flatten_cons->jt,nil_append->ju,getElem?_drop->jE,map_append->jZ,take_add_one->j2,length_nil->ko,ext_getElem?->lB,getElem?_of_mem->lC,mem_append_right->lD,map_cons->lY,mem_filter->lZ,eq_nil_of_length_eq_zero->mq
open Nat renaming le_refl->au,zero_le->bt,beq->cq,eq_of_beq_eq_true->cP,zero_add->cQ,add_assoc->gR,lor->iO,lt_or_ge->jF,sub_zero->kV
open Option renaming some->bc,bind_eq_some_iff->kW,map->mU
open Int renaming le_refl->dy,toNat_natCast->dD
open Bool renaming and_eq_true->iW,not_eq_false'->nI
set_option linter.unusedVariables false
set_option linter.unusedSimpArgs false
set_option maxRecDepth 100000
def uM (tot:List Int) (n:Nat) (p:List Int×Nat×Nat):Prop:=tot=p.1++h_ p.2.1 p.2.2/\p.2.2<128 ^ (p.2.1+1)/\p.1.length+p.2.1<=n+8
abbrev DM (tot:List Int) (n:Nat):LI where
 α:={p:List Int×Nat×Nat // uM tot n p} ⊕ {p:List Int×Nat×Nat // uM tot n p}
 live:=[0,1]
 st p:=match p with
  | .inl p=>([an 0 0,.int γ (p.1.2.2:Int)],[aw [.sl 1 0 p.1.1.length],υ 5 1 (ints ν p.1.1)])
  | .inr p=>([an 0 0,.int γ (p.1.2.2:Int)],[aw [.sl 2 0 p.1.1.length],aa,υ 5 1 (ints ν p.1.1)])
 μ p:=match p with
  | .inl p=>p.1.2.1
  | .inr p=>p.1.2.1
 all:=fun Q=>(∀ a,Q (.inl a))/\∀ b,Q (.inr b)
 xw:=fun Q h i=>match i with
  | .inl a=>h.1 a
  | .inr b=>h.2 b
def CD (l:List Int) (p:Nat×Nat):Prop:=p.1<=9/\p.1<=l.length/\jA 0 0 l=jA p.1 p.2 (l.drop p.1)/\p.2<128 ^ p.1
abbrev CE (l:List Int) (lo:Nat) (e:Int):LI where
 α:={p:Nat×Nat // CD (l.drop lo) p}
 live:=[0,2,3,9,10,11]
 st p:=([an 0 0,.int γ (p.1.2:Int),.int γ (p.1.1:Int),.sl 1 lo l.length,.int γ ((l.length - lo:Nat):Int),.int γ (p.1.1:Int)],[aw [.sl 1 lo l.length,.int γ e],υ 5 1 (ints ν l)])
 μ p:=l.length - lo - p.1.1
def wT (tot:List Int) (n:Nat):FuncId->Nat->Option LI
 | 36,1=>some (DM tot n)
 |_,_=>none
def RD (l:List Int) (lo:Nat) (e:Int):FuncId->Nat->Option LI
 | 62,2=>some (CE l lo e)
 |_,_=>none
def Ft:FuncId->Option dK
 | 12=>some ⟨[.gj 1,.gj 1],An⟩
 | 55=>some ⟨[.gj 1],El⟩
 | 20=>some ⟨[],Ai⟩
 |_=>none
theorem ahR (tot:List Int) (n:Nat) (z:Int) (a:List Int) (K:V->KB->Prop) (ar:
 At (DM tot n) ([an 0 0,ζ γ (if 0 > z then 0 else z)],[aw [ε 1 0 a.length],υ 5 1 (ints ν a)])/\
 (∀(a:{p:List Int×Nat×Nat // uM tot n p }),let bp:=(ν.wrap (↑a.val.snd.snd:Int));let aJ:=aw [ε 2 0 (a.val.fst.length+1)];let az:=(a.val.fst.length+1)*1<=140737488355328;let κ:=(ints ν a.val.fst);(decide ((↑a.val.snd.snd:Int) ≥ 128)=true->
 1<=1/\
 a.val.fst.length<=κ.length/\
 az/\
 Nx (DM tot n) (Sum.inl a) ([an 0 0,ζ γ ((↑a.val.snd.snd:Int).fdiv 128)],[aJ,aa,υ 5 1 (aA a.val.fst.length κ++[[η (φ ν (ν.wrap (↑(BitVec.ofInt 8 bp ||| BitVec.ofInt 8 128).toNat:Int)))]])]))/\
 (decide ((↑a.val.snd.snd:Int) ≥ 128)=false->
 1<=1/\
 a.val.fst.length<=κ.length/\
 az/\
 K (av []) [aJ,aa,υ 5 1 (aA a.val.fst.length κ++[[η (φ ν bp)]])]))/\
 ∀(b:{p:List Int×Nat×Nat // uM tot n p }),let bC:=(ν.wrap (↑b.val.snd.snd:Int));let aV:=aw [ε 2 0 (b.val.fst.length+1)];let aL:=(b.val.fst.length+1)*1<=140737488355328;let ah:=(ints ν b.val.fst);(decide ((↑b.val.snd.snd:Int) ≥ 128)=true->
 1<=1/\
 b.val.fst.length<=ah.length/\
 aL/\
 Nx (DM tot n) (Sum.inr b) ([an 0 0,ζ γ ((↑b.val.snd.snd:Int).fdiv 128)],[aV,aa,υ 5 1 (aA b.val.fst.length ah++[[η (φ ν (ν.wrap (↑(BitVec.ofInt 8 bC ||| BitVec.ofInt 8 128).toNat:Int)))]])]))/\
 (decide ((↑b.val.snd.snd:Int) ≥ 128)=false->
 1<=1/\
 b.val.fst.length<=ah.length/\
 aL/\
 K (av []) [aV,aa,υ 5 1 (aA b.val.fst.length ah++[[η (φ ν bC)]])])
 ):aK Tryz.prog X0 (wT tot n 36) 36 [an 0 0,.int γ z] [aw [.sl 1 0 a.length],υ 5 1 (ints ν a)] (dx 2 K):=by apply Eq.mp (a:=ar);kernel_rfl
theorem ag9 (l:List Int) (lo:Nat) (e:Int) (K:V->KB->Prop) (ar:
 let fT:=ζ γ (↑(l.length - lo):Int);let cK:=υ 5 1 (ints ν l);let bV:=(av [ζ γ 0,ζ γ 0]);let aV:KB:=[aw [ε 1 lo l.length,ζ γ e],cK];let aJ:=K bV [aw [ε 1 lo l.length,ζ γ 2],cK];let ah:=K bV [aw [ε 1 lo l.length,ζ γ 3],cK];let κ:=K bV aV;At (CE l lo e) ([an 0 0,ζ γ 0,ζ γ 0,ε 1 lo l.length,fT,ζ γ 0],aV)/\
 ∀(i:{p:Nat×Nat // CD (ax lo l) p }),let fY:=(γ.wrap (7*(↑i.val.fst:Int)));let dO:=(↑i.val.fst:Int)<(↑(l.length - lo):Int);let bW:=decide ((↑i.val.fst:Int)<9)=true;let cw:=decide ((↑i.val.fst:Int)<9)=false;let cf:=((↑i.val.fst:Int) == (↑(l.length - lo):Int))=true;let bC:=((↑i.val.fst:Int) == (↑(l.length - lo):Int))=false;let bp:=ζ γ (γ.wrap ((↑i.val.fst:Int)+1));(decide (dO)=true->
 bj (↑i.val.fst:Int) (l.length - lo)/\
 ∃(e_1:List D),(ints ν l)[lo+(↑i.val.fst:Int).toNat]? =some e_1/\
 ∃(n:Int),let aL:=K (av [ζ γ (γ.wrap (↑(BitVec.ofInt 64 (↑i.val.snd:Int) ||| BitVec.ofInt 64 (oW γ (γ.wrap n) fY)).toNat:Int)),bp]) aV;let az:=Nx (CE l lo e) i ([an 0 0,ζ γ (γ.wrap (↑(BitVec.ofInt 64 (↑i.val.snd:Int) ||| BitVec.ofInt 64 (oW γ (γ.wrap (ν.wrap (↑(BitVec.ofInt 8 n &&& BitVec.ofInt 8 127).toNat:Int))) fY)).toNat:Int)),bp,ε 1 lo l.length,fT,bp],aV);e_1[0]? =some (η (φ ν n))/\
 (((↑i.val.fst:Int) == 9)=true->
 (cf->
 (bW->
 ((e == 0)=true->
 aJ)/\
 ((e == 0)=false->
 κ))/\
 (cw->
 ((e == 0)=true->
 ah)/\
 ((e == 0)=false->
 κ)))/\
 (bC->
 ((e == 0)=true->
 ah)/\
 ((e == 0)=false->
 κ)))/\
 (((↑i.val.fst:Int) == 9)=false->
 ((n == 0)=true->
 (decide ((↑i.val.fst:Int) > 0)=true->
 (cf->
 (bW->
 ((e == 0)=true->
 aJ)/\
 ((e == 0)=false->
 κ))/\
 (cw->
 ((e == 0)=true->
 ah)/\
 ((e == 0)=false->
 κ)))/\
 (bC->
 ((e == 0)=true->
 ah)/\
 ((e == 0)=false->
 κ)))/\
 (decide ((↑i.val.fst:Int) > 0)=false->
 (decide (n ≥ 128)=true->
 (γ.wrap (7*(↑i.val.fst:Int))<0->
 False)/\
 az)/\
 (decide (n ≥ 128)=false->
 (γ.wrap (7*(↑i.val.fst:Int))<0->
 False)/\
 aL)))/\
 ((n == 0)=false->
 (decide (n ≥ 128)=true->
 (γ.wrap (7*(↑i.val.fst:Int))<0->
 False)/\
 az)/\
 (decide (n ≥ 128)=false->
 (γ.wrap (7*(↑i.val.fst:Int))<0->
 False)/\
 aL))))/\
 (decide (dO)=false->
 (cf->
 (bW->
 ((e == 0)=true->
 aJ)/\
 ((e == 0)=false->
 κ))/\
 (cw->
 ((e == 0)=true->
 ah)/\
 ((e == 0)=false->
 κ)))/\
 (bC->
 ((e == 0)=true->
 ah)/\
 ((e == 0)=false->
 κ)))
 ):aK Tryz.prog X0 (RD l lo e 62) 62 [an 0 0] [aw [.sl 1 lo l.length,.int γ e],υ 5 1 (ints ν l)] K:=by apply Eq.mp (a:=ar);kernel_rfl
theorem w8 {n:Int} (h1:0<=n) (h2:n<256):ν.wrap n=n:=IntWalk.u8_in n (by omega)
theorem Dl {a:List Int} {n:Int}:aA a.length (ints ν a)++[[η (.int ν n)]]=ints ν (a++[n]):=by
 rw[qk,cZ,qj];rfl
theorem VG {tot:List Int} {n:Nat} {p:List Int×Nat×Nat} (h:uM tot n p) (hc:128<=p.2.2):
  ∃ q:List Int×Nat×Nat,uM tot n q/\q.2.1<p.2.1/\q.1=p.1++[((p.2.2 % 128+128:Nat):Int)]/\q.2.2=p.2.2 / 128:=by
 obtain⟨o,k,m⟩:=p
 obtain⟨h1,h2,h3⟩:=h
 simp only at h1 h2 h3 hc
 cases k with
 |zero=>simp at h2;omega
 |succ k=>
  rw[h_.eq_2,if_neg (by omega)]at h1
  refine⟨(o++[((m % 128+128:Nat):Int)],k,m / 128),⟨by simp only;rw[h1,eH];rfl,?_,by simp only[bo,gF,ko];omega⟩,by simp only;omega,rfl,rfl⟩
  simp only
  rw[Nat.div_lt_iff_lt_mul (by decide),<- Nat.pow_succ];exact h2
theorem DN {tot:List Int} {n:Nat} {p:List Int×Nat×Nat} (h:uM tot n p) (hc:p.2.2<128):tot=p.1++[(p.2.2:Int)]:=by
 obtain⟨o,k,m⟩:=p
 obtain⟨h1,h2,h3⟩:=h
 simp only at h1 hc
 cases k with
 |zero=>rw[h1,h_.eq_1]
 |succ k=>rw[h1,h_.eq_2,if_pos hc]
theorem abb {z:Int} (h:z<=9223372036854775807):z.toNat<128 ^ (8+1):=by
 have:(128:Nat) ^ (8+1)=9223372036854775808:=rfl
 omega
def ER:aD:=fun args kb K=>match args,kb with
 | [an 0 0,.int γ z],[aw [.sl 1 0 h],υ 5 1 A]=>∃ a:List Int,A=ints ν a/\h=a.length/\a.length<=10000000/\iK z/\
  K (.χ []) [aw [.sl 2 0 (a++aY z).length],aa,υ 5 1 (ints ν (a++aY z))]
 |_,_=>False
theorem ac7:aR Tryz.prog 36 ER:=lh hZ mixed (fun args kb K h=>by
 unfold ER at h;split at h<;>try exact h.elim
 rename_i z _ _
 obtain⟨a,rfl,rfl,hl,⟨hz⟩,h⟩:=h
 have e0:(if 0 > z then 0 else z)=((z.toNat:Nat):Int):=by split<;>omega
 refine⟨wT (a++aY z) a.length 36,ahR (a++aY z) a.length z a K ⟨?_,?_,?_⟩⟩
 ·rw[e0]
  exact At.mk' (.inl ⟨(a,8,z.toNat),rfl,abb hz,au _⟩) rfl
 ·rintro⟨p,hp⟩
  have hb:=hp.2.2
  simp only[bh,SM]
  refine⟨fun hc=>⟨by omega,by omega,by omega,?_⟩,fun hc=>⟨by omega,by omega,by omega,?_⟩⟩
  ·simp only[decide_eq_true_eq]at hc
   obtain⟨q,h1,h2,h3,h4⟩:=VG hp (by omega)
   have e1:(p.2.2:Int).fdiv 128=((q.2.2:Nat):Int):=by rw[h4,Int.fdiv_eq_ediv_of_nonneg _ (by omega)];omega
   rw[e1,Dl,<- h3,show p.1.length+1=q.1.length by rw[h3];simp]
   exact Nx.mk' (.inr ⟨q,h1⟩) rfl h2
  ·simp only[decide_eq_false_iff_not]at hc
   rw[w8 (by omega) (by omega),Dl,<- DN hp (by omega),show p.1.length+1=(a++aY z).length by rw[DN hp (by omega)];simp]
   exact h
 ·rintro⟨p,hp⟩
  have hb:=hp.2.2
  simp only[bh,SM]
  refine⟨fun hc=>⟨by omega,by omega,by omega,?_⟩,fun hc=>⟨by omega,by omega,by omega,?_⟩⟩
  ·simp only[decide_eq_true_eq]at hc
   obtain⟨q,h1,h2,h3,h4⟩:=VG hp (by omega)
   have e1:(p.2.2:Int).fdiv 128=((q.2.2:Nat):Int):=by rw[h4,Int.fdiv_eq_ediv_of_nonneg _ (by omega)];omega
   rw[e1,Dl,<- h3,show p.1.length+1=q.1.length by rw[h3];simp]
   exact Nx.mk' (.inr ⟨q,h1⟩) rfl h2
  ·simp only[decide_eq_false_iff_not]at hc
   rw[w8 (by omega) (by omega),Dl,<- DN hp (by omega),show p.1.length+1=(a++aY z).length by rw[DN hp (by omega)];simp]
   exact h)
def EA:aD:=fun args kb K=>match args,kb with
 | [an 0 0],[aw [.sl 1 lo h,.int γ e],υ 5 1 A]=>∃ l:List Int,A=ints ν l/\h=l.length/\lo<=l.length/\bm l/\l.length<=140737488355328/\e=0/\
  (∀ v n,jA 0 0 (l.drop lo)= .got v n->K (.χ [.int γ (v:Int),.int γ (n:Int)]) [aw [.sl 1 lo l.length,.int γ 0],υ 5 1 (ints ν l)])/\
  (jA 0 0 (l.drop lo)= .short->K (.χ [.int γ 0,.int γ 0]) [aw [.sl 1 lo l.length,.int γ 2],υ 5 1 (ints ν l)])/\
  (jA 0 0 (l.drop lo)= .form->K (.χ [.int γ 0,.int γ 0]) [aw [.sl 1 lo l.length,.int γ 3],υ 5 1 (ints ν l)])
 |_,_=>False
theorem abq {i:Nat} (h:i<=9):γ.wrap (7*(i:Int))=((7*i:Nat):Int):=by
 rw[bS (by omega) (by omega)];omega
theorem aco:aR Tryz.prog 62 EA:=fC hZ mixed (fun args kb K h=>by
  unfold EA at h;split at h<;>try exact h.elim
  rename_i lo _ _ _
  obtain⟨l,rfl,rfl,hlo,hb,hl,rfl,hg,hs,hf⟩:=h
  refine⟨RD l lo 0 62,ag9 l lo 0 K ⟨At.mk' ⟨(0,0),by omega,bt _,by rw[iX],by decide⟩ rfl,?_⟩⟩
  rintro⟨⟨i,v⟩,hh⟩
  obtain⟨h9,hi,hn,hv⟩:=hh
  have hh:CD (l.drop lo) (i,v):=⟨h9,hi,hn,hv⟩
  simp only[fZ]at h9 hi hn hv ⊢
  refine⟨fun hc=>?_,fun hc=>?_⟩
  ·simp only[decide_eq_true_eq]at hc
   have hil:i<l.length - lo:=by omega
   have hel:l[lo+i]? =some l[lo+i]:=bz (by omega)
   have PG:(l.drop lo).drop i=l[lo+i]::(l.drop lo).drop (i+1):=by
    rw[List.drop_drop,List.drop_drop,show lo+(i+1)=lo+i+1 by omega]
    exact List.drop_eq_getElem_cons (by omega)
   have hbd:=hb l[lo+i] (List.getElem_mem _)
   rw[PG]at hn
   generalize l[lo+i]=c at hel hn hbd PG
   rw[jA.eq_2]at hn
   have ff:(i=9∨(c=0/\0<i))->jA 0 0 (l.drop lo)= .form:=fun h=>by rw[hn,if_pos h]
   refine⟨by unfold bj;omega,[η (.int ν c)],by rw[dD,mb,hel];rfl,c,rfl,fun hx=>?_,fun hx=>?_⟩
   ·simp only[beq_iff_eq]at hx
    have:=ff (.inl (by omega))
    refine⟨fun hy=>?_,fun hy=>⟨fun _=>hf this,fun h=>by simp at h⟩⟩
    simp only[beq_iff_eq]at hy
    omega
   ·simp only[beq_eq_false_iff_ne,ne_eq]at hx
    have PX:i<=8:=by omega
    have go:¬ (c=0/\0<i)->((decide (c ≥ 128)=true->
 (γ.wrap (7*(i:Int))<0->False)/\
 Nx (CE l lo 0) ⟨(i,v),hh⟩
 ([an 0 0,ζ γ (γ.wrap ((BitVec.ofInt 64 (v:Int) ||| BitVec.ofInt 64 (oW γ (γ.wrap (ν.wrap ((BitVec.ofInt 8 c &&& BitVec.ofInt 8 127).toNat:Int))) (γ.wrap (7*(i:Int))))).toNat:Int)),ζ γ (γ.wrap ((i:Int)+1)),ε 1 lo l.length,
 ζ γ ((l.length - lo:Nat):Int),ζ γ (γ.wrap ((i:Int)+1))],
 [aw [ε 1 lo l.length,ζ γ 0],υ 5 1 (ints ν l)]))/\
 (decide (c ≥ 128)=false->
 (γ.wrap (7*(i:Int))<0->False)/\
 K (av [ζ γ (γ.wrap ((BitVec.ofInt 64 (v:Int) ||| BitVec.ofInt 64 (oW γ (γ.wrap c) (γ.wrap (7*(i:Int))))).toNat:Int)),ζ γ (γ.wrap ((i:Int)+1))]) [aw [ε 1 lo l.length,ζ γ 0],υ 5 1 (ints ν l)])):=by
     intro hz
     rw[if_neg (by omega)]at hn
     rw[abq (by omega),Xc hbd.1 hbd.2]
     have hm:=Nat.mod_lt c.toNat (show 128 > 0 by decide)
     refine⟨fun h=>⟨fun f=>by omega,?_⟩,fun h=>⟨fun f=>by omega,?_⟩⟩
     ·simp only[decide_eq_true_eq]at h
      rw[if_pos (by omega)]at hn
      rw[bS (n:=((c.toNat % 128:Nat):Int)) (by omega) (by omega),RP hv hm PX,bS (n:=(i:Int)+1) (by omega) (by omega)]
      refine Nx.mk' (⟨(i+1,v+c.toNat % 128*128 ^ i),by simp only;omega,by simp only[fZ];omega,hn,?_⟩:{p // CD (l.drop lo) p}) rfl (by show l.length - lo - (i+1)<l.length - lo - i;omega)
      simp only
      rw[Nat.pow_succ]
      have:c.toNat % 128*128 ^ i<=127*128 ^ i:=Nat.mul_le_mul_right _ (by omega)
      omega
     ·simp only[decide_eq_false_iff_not]at h
      rw[if_neg (by omega)]at hn
      have ec:c=((c.toNat:Nat):Int):=by omega
      have:=hg _ _ hn
      rw[bS (n:=c) (by omega) (by omega),bS (n:=(i:Int)+1) (by omega) (by omega)]
      rw[show oW γ c ((7*i:Nat):Int)=oW γ ((c.toNat:Nat):Int) ((7*i:Nat):Int) by rw[<- ec],RP hv (by omega) PX]
      exact this
    refine⟨fun h0=>⟨fun h1=>?_,fun h1=>?_⟩,fun h0=>?_⟩
    ·simp only[beq_iff_eq]at h0
     simp only[decide_eq_true_eq]at h1
     have:=ff (.inr ⟨h0,by omega⟩)
     refine⟨fun hy=>?_,fun hy=>⟨fun _=>hf this,fun h=>by simp at h⟩⟩
     simp only[beq_iff_eq]at hy
     omega
    ·simp only[decide_eq_false_iff_not]at h1
     exact go (fun h=>h1 (by omega))
    ·simp only[beq_eq_false_iff_ne,ne_eq]at h0
     exact go (fun h=>h0 h.1)
  ·simp only[decide_eq_false_iff_not]at hc
   have:i=l.length - lo:=by omega
   rw[show ax i (l.drop lo)=[]from List.drop_eq_nil_of_le (by rw[fZ];omega),jA.eq_1]at hn
   refine⟨fun hy=>⟨fun h=>⟨fun _=>hs ?_,fun h=>by simp at h⟩,fun h=>⟨fun _=>hf ?_,fun h=>by simp at h⟩⟩,fun hy=>?_⟩
   ·simp only[decide_eq_true_eq]at h
    rw[hn,if_pos (by omega)]
   ·simp only[decide_eq_false_iff_not]at h
    rw[hn,if_neg (by omega)]
   ·simp only[beq_eq_false_iff_ne,ne_eq]at hy
    omega)
end Go.Proofs.YtfcjngcnifdmnaaGreat
