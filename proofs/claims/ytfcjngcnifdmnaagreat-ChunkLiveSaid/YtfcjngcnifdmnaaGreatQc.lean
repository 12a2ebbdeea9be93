import Derived.Test.YtfcjngcnifdmnaaGreatQb
import Derived.Below
import Derived.ProofKit
import Derived.OpenShut
import Derived.Carry
import Derived.IntWalk
import Derived.Test.YtfcjngcnifdmnaaGreatRows
import Derived.KernelRfl
import Derived.Shelf.Sort.Plain
import Derived.Shelf.Slices.In.SortNone
import Derived.Shelf.SlMaps.Clone
import Derived.Shelf.SlIterI.Nil
import Derived.Shelf.SlIterI.Sorted
import Derived.Shelf.SortM.Plain
import Derived.Shelf.SortM.SortNone
import Derived.Ground.GgzProg
import Derived.Ground.SlgmProg
import Derived.Ground.SlmcProg
import Derived.Test.YtfcjngcnifdmnaaGreatProg
set_option linter.unusedSimpArgs false
set_option linter.unusedVariables false
namespace Vc
open Go
open Go.IntKind renaming i64->γ,u8->ξ,u32->iM
open Go.Value renaming int->ν,map->kT,bool->mG,oneCell'->mH
open List renaming map->ae,drop->ax,take->ay,length_append->bn,getElem?_eq_getElem->bu,getElem?_eq_some_iff->bH,length_map->bT,take_length->cQ,length_take->cW,mem_singleton->da,replicate->dv,mem_append->dz,mem_map->dO,mem_cons->dS,Mem->dW,append_assoc->dX,getElem?_append_left->dY,take_of_length_le->eQ,getElem?_append_right->fk,getElem?_map->fy,mem_of_getElem?->fF,length_drop->gm,mem_cons_of_mem->gn,append_nil->gz,length_cons->gA,getD_eq_getElem?_getD->gO,getElem?_set_ne->gP,mem_append_left->gQ,length_singleton->gZ,drop_zero->iD,getElem?_eq_none->iE,getElem?_take_of_lt->iF,length_set->iG,getElem?_set_self->iN,mem_cons_self->iV,map_append->ja,range->jb,nil_append->jr,take_add_one->jt,flatten_cons->jF,getElem?_of_mem->jG,getElem?_drop->jW,map_cons->kv,length_nil->kP,mem_append_right->kQ,mem_filter->lu,ext_getElem?->mb,eq_nil_of_length_eq_zero->mD
open Nat renaming le_refl->ar,zero_le->bj,beq->cX,zero_add->c9,eq_of_beq_eq_true->de,add_assoc->g_,lor->iW,lt_or_ge->kx,sub_zero->ly,le_trans->mc
open Option renaming some->bb,bind_eq_some_iff->lO,map->ng
open Int renaming toNat_natCast->cN,le_refl->dE
open Bool renaming and_eq_true->jo,not_eq_false'->kr,not_eq_true'->mA
inductive Mode where
 |mK
 |fL (s:Nat)
 |fA (s:Nat)
 |ic
 |tail
def te:List Mode->List V->KB->(List V->KB->Prop)->Prop
 |_,[],kb,K=>K [] kb
 | [],v::vs,kb,K=>K (v::vs) kb
 | .fA s::ms,v::vs,kb,K=>rv (.sl s) v kb (fun d kb'=>te ms vs kb' (fun us j8=>K (.dat d::us) j8))
 |_::ms,v::vs,kb,K=>te ms vs kb (fun us kb'=>K (v::us) kb')
theorem yz:∀{ms:List Mode} {vs:List V} {kb:KB} {K:List V->KB->Prop},te ms vs kb K->∀{σ:Sg} {E:EH} {W:World},Inv σ E kb W->∀{xs:List Value},az σ E vs xs->
  ∃ E' kb' us,Step σ E kb W σ E' kb' W/\az σ E' us xs/\K us kb'
 |ms,[],kb,K,h,σ,E,W,hi,xs,hd=>by
  have:K [] kb:=by cases ms with | nil=>exact h | cons m ms=>cases m<;>exact h
  exact⟨E,kb,[],Step.refl hi,hd,this⟩
 | [],v::vs,kb,K,h,σ,E,W,hi,xs,hd=>⟨E,kb,v::vs,Step.refl hi,hd,h⟩
 |m::ms,v::vs,kb,K,h,σ,E,W,hi,xs,hd=>by
  simp only[az]at hd
  obtain⟨x,xs',rfl,h1,h2⟩:=hd
  have plain:te ms vs kb (fun us kb'=>K (v::us) kb')->∃ E' kb' us,Step σ E kb W σ E' kb' W/\az σ E' us (x::xs')/\K us kb':=fun h=>by
   obtain⟨E1,fu,us,s1,d1,hK⟩:=yz h hi h2
   have:=Den.mono (τ:=[]) s1.le h1
   rw[gz]at this
   exact⟨E1,fu,v::us,s1,.cons this d1,hK⟩
  cases m with
  |mK=>exact plain h
  |fL s=>exact plain h
  |ic=>exact plain h
  |tail=>exact plain h
  |fA s=>
   simp only[te]at h
   obtain⟨E1,fu,d,s1,r1,h⟩:=yh h hi h1
   have h2':=az.mono (τ:=[]) s1.le h2
   rw[gz]at h2'
   obtain⟨E2,bY,us,s2,d2,hK⟩:=yz h s1.inv h2'
   exact⟨E2,bY,.dat d::us,s1.trans s2,.cons (by simp only[Den];exact r1.mono s2.le) d2,hK⟩
def tM:V->List Nat
 | .sl i _ _=>[i]
 | .sa i _ _ _ _ _=>[i]
 | .se i _ _ _ _ _=>[i]
 |_=>[]
def wF (kb:KB) (s:Nat) (v:V):Option (Prop×V×List Nat):=
 match tO kb v with
 |some (sz,p,xs)=>match zD s sz with
  |true=>some (p,.dat (.sl s xs),tM v)
  |false=>none
 |none=>none
def tA (kb:KB) (s:Nat):List V->Option (Prop×List V×List Nat)
 | []=>some (True,[],[])
 |v::vs=>match tA kb s vs with
  |some (q,us,js)=>match wF kb s v with
   |some (p,u,is)=>some (p/\q,u::us,is++js)
   |none=>some (q,v::us,js)
  |none=>none
def yS (kb:KB) (s:Nat) (v:V):Option (Prop×V×List Nat):=
 match v with
 | .agg l=>match tA kb s l with
  |some (p,us,is)=>some (p,.agg us,is)
  |none=>none
 |v=>wF kb s v
def jk (kb:KB):List Mode->List V->Option (Prop×List V×List Nat)
 |_,[]=>some (True,[],[])
 | .fL s::ss,v::vs=>match yS kb s v,jk kb ss vs with
  |some (p,u,is),some (q,us,js)=>some (p/\q,u::us,is++js)
  |_,_=>none
 | [],v::vs=>match jk kb [] vs with
  |some (p,us,is)=>some (p,v::us,is)
  |none=>none
 |_::ss,v::vs=>match jk kb ss vs with
  |some (p,us,is)=>some (p,v::us,is)
  |none=>none
open Classical in
noncomputable def nH (σ:Sg) (kb:KB) (is:List Nat) (W:World) (E:EH):EH:=fun b=>match E b with
 |some o=>some o
 |none=>if ∃ i∈is,∃ r o,σ[i]? =some r/\kb[i]? =some o/\owned r o b then W.heap[b]? else none
theorem uO (σ:Sg) (kb:KB) (is:List Nat) (W:World) (E:EH):E.le (nH σ kb is W E):=fun b o h=>by simp [nH,h]
theorem R0 {kb:KB} {s:Nat} {v u:V} {p:Prop} {is:List Nat} (h:wF kb s v=some (p,u,is)) (hp:p) {σ:Sg} {E:EH} {W:World} (hi:Inv σ E kb W) {x:Value} (hd:Den σ E v x) {js:List Nat} (ny:∀ i∈is,i∈js):
  Den σ (nH σ kb js W E) u x:=by
 unfold wF at h
 split at h<;>try (cases h;done)
 rename_i sz q xs hsrc
 split at h<;>try (cases h;done)
 rename_i hfit
 simp only[bb.injEq,Prod.mk.injEq]at h
 obtain⟨rfl,rfl,rfl⟩:=h
 have hle:=uO σ kb js W E
 by_cases QT:∃ l,v= .dat (.sl s l)/\xs=l
 ·obtain⟨l,rfl,rfl⟩:=QT
  simp only[Den]at hd ⊢
  exact hd.mono hle
 have hE:=u9 hsrc hp hi hd hfit
 obtain⟨hw,a,cap,ys,rfl,hc,hD,ha⟩:=hE
 simp only[Den,bX]
 refine⟨a,cap,rfl,hc,?_⟩
 rcases ha with ha | ⟨b,o,rfl,ha⟩
 ·exact .inl ha
 by_cases h0:xs.length=0
 ·exact .inl h0
 refine .inr ⟨b,o,rfl,gS.of_flat hw ((hD.mono hle).rep fun j y hj=>?_)⟩
 have hcell:=ha j y hj
 have key:∀{i:Nat} {r:Re} {ob:KO},i∈tM v->σ[i]? =some r->kb[i]? =some ob->owned r ob b->EH.cell (nH σ kb js W E) b (o+j)=some y:=by
  intro i r ob hin hr hk ho
  have hn:=hi.sep b ⟨i,r,ob,hr,hk,ho⟩
  have hlt:=(hi.obj i r ob hr hk).lt ho
  have hb:nH σ kb js W E b=W.heap[b]?:=by
   simp only[nH,hn]
   rw[if_pos ⟨i,ny i hin,r,ob,hr,hk,ho⟩]
  unfold EH.cell
  rw[hb]
  unfold World.cell? at hcell
  simp only at hcell
  split at hcell<;>first | (rename_i e;rw[e];simpa using hcell) | (cases hcell)
 unfold tO at hsrc
 split at hsrc
 ·rename_i i lo hi'
  split at hsrc<;>try (cases hsrc;done)
  rename_i ty sz' l hl
  simp only[bb.injEq,Prod.mk.injEq]at hsrc
  obtain⟨rfl,rfl,rfl⟩:=hsrc
  simp only[Den]at hd
  obtain⟨r,ad,hr,e,g1,g2,g3⟩:=hd
  have hl0:((l.take hi').drop lo).length=hi' - lo:=by simp;omega
  simp only[Value.slice.injEq]at e
  have:=g3 (by omega)
  rw[<- e.1]at this
  cases this
  exact key (by simp [tM]) hr hl ⟨by omega,rfl⟩
 ·rename_i sz' l
  simp only[bb.injEq,Prod.mk.injEq]at hsrc
  obtain⟨rfl,rfl,rfl⟩:=hsrc
  have:sz'=s:=de hfit
  subst this
  exact(QT ⟨_,rfl,rfl⟩).elim
 ·simp only[bb.injEq,Prod.mk.injEq]at hsrc
  obtain⟨_,_,rfl⟩:=hsrc
  exact(h0 rfl).elim
 ·simp only[bb.injEq,Prod.mk.injEq]at hsrc
  obtain⟨_,_,rfl⟩:=hsrc
  exact(h0 rfl).elim
 ·rename_i i base o' s' n c
  split at hsrc<;>try (cases hsrc;done)
  rename_i l hl hb
  split at hsrc<;>try (cases hsrc;done)
  rename_i m cs hpc
  simp only[bb.injEq,Prod.mk.injEq]at hsrc
  obtain⟨_,rfl,rfl⟩:=hsrc
  simp only[Den]at hd
  obtain⟨r,ad,hr,e,g1,g3⟩:=hd
  simp only[Value.slice.injEq]at e
  have:=g3 (by omega)
  rw[<- e.1]at this
  cases this
  exact key (by simp [tM]) hr hl rfl
 ·rename_i i ix o' s' n c
  split at hsrc<;>try (cases hsrc;done)
  rename_i ty sz' l hl hb
  simp only[bb.injEq,Prod.mk.injEq]at hsrc
  obtain⟨_,rfl,rfl⟩:=hsrc
  simp only[Den]at hd
  obtain⟨r,ad,hr,e,g1,g3⟩:=hd
  simp only[Value.slice.injEq]at e
  have:=g3 (by omega)
  rw[<- e.1]at this
  cases this
  have hk:=hi.obj i r _ hr hl
  obtain⟨_,_,k3,_,_⟩:=hk
  exact key (by simp [tM]) hr hl ⟨by have:=hp.1;omega,rfl⟩
 ·cases hsrc
theorem I7 {kb:KB} {s:Nat} {σ:Sg} {E:EH} {W:World} (hi:Inv σ E kb W) {js:List Nat}:∀{vs us:List V} {p:Prop} {is:List Nat},tA kb s vs=some (p,us,is)->p->(∀ i∈is,i∈js)->∀{xs:List Value},aV σ E vs xs->aV σ (nH σ kb js W E) us xs
 | [],us,p,is,h,_,_,xs,hd=>by
  simp only[tA,bb.injEq,Prod.mk.injEq]at h
  obtain⟨_,rfl,_⟩:=h
  simpa only[aV]using hd
 |v::vs,us,p,is,h,hp,ny,xs,hd=>by
  simp only[tA]at h
  obtain⟨ys,zs,rfl,h1,h2⟩:=hd.iT
  split at h<;>try (cases h;done)
  rename_i q ws ls hq
  split at h
  ·rename_i p1 u Cz h3
   simp only[bb.injEq,Prod.mk.injEq]at h
   obtain⟨rfl,rfl,rfl⟩:=h
   refine aV.cons ?_ (I7 hi hq hp.2 (fun i hi'=>ny i (kQ _ hi')) h2)
   rcases h1 with ⟨y,rfl,h4,h5⟩ | ⟨m,cs,rfl,_,_⟩
   ·exact .inl ⟨y,rfl,h4,R0 h3 hp.1 hi h5 (fun i hi'=>ny i (gQ _ hi'))⟩
   ·cases h3
  ·simp only[bb.injEq,Prod.mk.injEq]at h
   obtain⟨rfl,rfl,rfl⟩:=h
   refine aV.cons ?_ (I7 hi hq hp ny h2)
   rcases h1 with ⟨y,rfl,h4,h5⟩ | ⟨m,cs,rfl,h4,h5⟩
   ·exact .inl ⟨y,rfl,h4,by simpa using Den.mono (τ:=[]) (uO σ kb js W E) h5⟩
   ·exact .inr ⟨m,cs,rfl,h4,h5.mono (uO σ kb js W E)⟩
theorem abQ {kb:KB} {s:Nat} {v u:V} {p:Prop} {is:List Nat} (h:yS kb s v=some (p,u,is)) (hp:p) {σ:Sg} {E:EH} {W:World} (hi:Inv σ E kb W) {x:Value} (hd:Den σ E v x) {js:List Nat} (ny:∀ i∈is,i∈js):
  Den σ (nH σ kb js W E) u x:=by
 unfold yS at h
 split at h
 ·split at h<;>try (cases h;done)
  rename_i l p1 us Cz h1
  simp only[bb.injEq,Prod.mk.injEq]at h
  obtain⟨rfl,rfl,rfl⟩:=h
  simp only[Den]at hd ⊢
  obtain⟨vs,rfl,h2⟩:=hd
  exact⟨vs,rfl,I7 hi h1 hp ny h2⟩
 ·exact R0 h hp hi hd ny
theorem CP {kb:KB} {σ:Sg} {E:EH} {W:World} (hi:Inv σ E kb W) {js:List Nat}:∀{ss:List Mode} {vs us:List V} {p:Prop} {is:List Nat},jk kb ss vs=some (p,us,is)->p->(∀ i∈is,i∈js)->∀{xs:List Value},az σ E vs xs->az σ (nH σ kb js W E) us xs
 |ss,[],us,p,is,h,_,_,xs,hd=>by
  have:us=[]:=by
   cases ss with
   |nil=>simp only[jk,bb.injEq,Prod.mk.injEq]at h;exact h.2.1.symm
   |cons m ss=>cases m<;>(simp only[jk,bb.injEq,Prod.mk.injEq]at h;exact h.2.1.symm)
  subst this
  simpa only[az]using hd
 | [],v::vs,us,p,is,h,hp,ny,xs,hd=>by
  simp only[jk]at h
  split at h<;>try (cases h;done)
  rename_i q ws ks hq
  simp only[bb.injEq,Prod.mk.injEq]at h
  obtain⟨rfl,rfl,rfl⟩:=h
  simp only[az]at hd ⊢
  obtain⟨x,xs',rfl,h1,h2⟩:=hd
  exact⟨x,xs',rfl,by simpa using Den.mono (τ:=[]) (uO σ kb js W E) h1,CP hi hq hp ny h2⟩
 |m::ss,v::vs,us,p,is,h,hp,ny,xs,hd=>by
  have plain:(match jk kb ss vs with | some (p,us,is)=>some (p,v::us,is) | none=>none)=some (p,us,is)->az σ (nH σ kb js W E) us xs:=fun h=>by
   split at h<;>try (cases h;done)
   rename_i q ws ks hq
   simp only[bb.injEq,Prod.mk.injEq]at h
   obtain⟨rfl,rfl,rfl⟩:=h
   simp only[az]at hd ⊢
   obtain⟨x,xs',rfl,h1,h2⟩:=hd
   exact⟨x,xs',rfl,by simpa using Den.mono (τ:=[]) (uO σ kb js W E) h1,CP hi hq hp ny h2⟩
  cases m with
  |mK=>exact plain (by simpa only[jk]using h)
  |fA s=>exact plain (by simpa only[jk]using h)
  |ic=>exact plain (by simpa only[jk]using h)
  |tail=>exact plain (by simpa only[jk]using h)
  |fL s=>
   simp only[jk]at h
   split at h<;>try (cases h;done)
   rename_i q u ks q' ws ls hq pM
   simp only[bb.injEq,Prod.mk.injEq]at h
   obtain⟨rfl,rfl,rfl⟩:=h
   simp only[az]at hd ⊢
   obtain⟨x,xs',rfl,h1,h2⟩:=hd
   exact⟨x,xs',rfl,abQ hq hp.1 hi h1 (fun i hi'=>ny i (gQ _ hi')),CP hi pM hp.2 (fun i hi'=>ny i (kQ _ hi')) h2⟩
def D.isVal:D->Prop
 | .val _=>True
 | .sl .. =>False
def Plain (cs:List D):Prop:=∀ d∈cs,d.isVal
theorem bX.free {E E':EH} {d:D} (h:d.isVal) {x:Value} (hr:bX E d x):bX E' d x:=by
 cases d with
 |val v=>simpa only[bX]using hr
 |sl _ _=>exact h.elim
theorem bh.free {E E':EH}:∀{ds:List D} {xs:List Value},Plain ds->bh E ds xs->bh E' ds xs
 | [],_,_,hd=>by simpa only[bh]using hd
 |d::ds,_,h,hd=>by
  simp only[bh]at hd ⊢
  obtain⟨x,xs',h0,h1,h2⟩:=hd
  exact⟨x,xs',h0,h1.free (h d (by simp)),h2.free (fun e he=>h e (gn _ he))⟩
structure oM (cs:List D):Prop where
 ok:Plain cs
def GO:List (List D)->Prop
 | []=>True
 | [a]=>oM a
 |a::b::l=>oM a/\GO (b::l)
theorem OT:∀{l:List (List D)},GO l->∀ a∈l,Plain a
 | [],_,a,ha=>by cases ha
 | [b],h,a,ha=>by simp at ha;subst ha;exact h.ok
 |b::c::l,h,a,ha=>by
  rcases dS.1 ha with rfl | ha
  ·exact h.1.ok
  ·exact OT h.2 a ha
mutual
def V.free:V->Option (List (List D))
 | .dm .. =>none
 | .aa _=>none
 | .imp .. =>none
 | .dat (.sl ..)=>none
 | .arr _ cs=>some [cs]
 | .agg l=>V.rF l
 | .φ l=>V.rF l
 | .fn _ l=>V.rF l
 | .dat d=>some [[d]]
 |_=>some []
def V.rF:List V->Option (List (List D))
 | []=>some []
 |v::vs=>match V.free v with
  |some p=>match V.rF vs with | some q=>some (p++q) | none=>none
  |none=>none
end
mutual
theorem Den.free {σ:Sg} {E E':EH}:∀{v:V} {ps:List (List D)},V.free v=some ps->(∀ p∈ps,Plain p)->∀{x:Value},Den σ E v x->Den σ E' v x
 | .any _,_,_,_,_,hd | .int ..,_,_,_,_,hd | .lit ..,_,_,_,_,hd | .sb _,_,_,_,_,hd | .tt,_,_,_,_,hd | .ff,_,_,_,_,hd | .ptr ..,_,_,_,_,hd | .pa ..,_,_,_,_,hd | .sl ..,_,_,_,_,hd
 | .pe ..,_,_,_,_,hd | .pw ..,_,_,_,_,hd | .e0,_,_,_,_,hd | .sa ..,_,_,_,_,hd | .se ..,_,_,_,_,hd | .mp _,_,_,_,_,hd | .ch _,_,_,_,_,hd=>by simpa only[Den]using hd
 | .arr ..,_,_,_,_,hd=>by simp only[Den]at hd
 | .dm ..,_,h,_,_,_=>by simp [V.free]at h
 | .aa _,_,h,_,_,_=>by simp [V.free]at h
 | .imp ..,_,h,_,_,_=>by simp [V.free]at h
 | .dat d,ps,h,hp,x,hd=>by
  cases d with
  |val v=>simpa only[Den,bX]using hd
  |sl _ _=>simp [V.free]at h
 | .agg l,ps,h,hp,x,hd=>by
  simp only[V.free]at h
  simp only[Den]at hd ⊢
  obtain⟨vs,h1,h2⟩:=hd
  exact⟨vs,h1,aV.free h hp h2⟩
 | .φ l,ps,h,hp,x,hd=>by
  simp only[V.free]at h
  simp only[Den]at hd ⊢
  obtain⟨vs,h1,h2⟩:=hd
  exact⟨vs,h1,az.free h hp h2⟩
 | .fn f l,ps,h,hp,x,hd=>by
  simp only[V.free]at h
  simp only[Den]at hd ⊢
  obtain⟨vs,h1,h2⟩:=hd
  exact⟨vs,h1,az.free h hp h2⟩
theorem az.free {σ:Sg} {E E':EH}:∀{vs:List V} {ps:List (List D)},V.rF vs=some ps->(∀ p∈ps,Plain p)->∀{xs:List Value},az σ E vs xs->az σ E' vs xs
 | [],_,_,_,_,hd=>by simpa only[az]using hd
 |v::vs,ps,h,hp,xs,hd=>by
  simp only[V.rF]at h
  split at h<;>try (cases h;done)
  rename_i p h1
  split at h<;>try (cases h;done)
  rename_i q h2
  cases h
  simp only[az]at hd ⊢
  obtain⟨x,xs',h0,k1,k2⟩:=hd
  exact⟨x,xs',h0,Den.free h1 (fun a ha=>hp a (gQ _ ha)) k1,az.free h2 (fun a ha=>hp a (kQ _ ha)) k2⟩
theorem aV.free {σ:Sg} {E E':EH}:∀{vs:List V} {ps:List (List D)},V.rF vs=some ps->(∀ p∈ps,Plain p)->∀{xs:List Value},aV σ E vs xs->aV σ E' vs xs
 | [],_,_,_,_,hd=>by simpa only[aV]using hd
 |v::vs,ps,h,hp,xs,hd=>by
  simp only[V.rF]at h
  split at h<;>try (cases h;done)
  rename_i p h1
  split at h<;>try (cases h;done)
  rename_i q h2
  cases h
  simp only[aV]at hd ⊢
  obtain⟨ys,zs,h0,k1,k2⟩:=hd
  refine⟨ys,zs,h0,?_,aV.free h2 (fun a ha=>hp a (kQ _ ha)) k2⟩
  rcases k1 with ⟨y,e,o,hy⟩ | ⟨m,cs,e,hl,hD⟩
  ·exact .inl ⟨y,e,o,Den.free h1 (fun a ha=>hp a (gQ _ ha)) hy⟩
  ·subst e
   simp only[V.free,bb.injEq]at h1
   subst h1
   exact .inr ⟨m,cs,rfl,hl,hD.free (hp cs (by simp))⟩
end
def KO.free:KO->Option (List (List D))
 | .cells l=>V.rF l
 | .row _ _ l=>some [l.flatten]
 | .mp _ _ _ _ l=>some [(l.map (·.2)).flatten]
 | .ch _ _ _ l=>some [l.flatten]
 | .objs _=>none
 | .jP _=>none
 | .dead=>some []
def BY:KB->Option (List (List D))
 | []=>some []
 |o::kb=>match KO.free o with
  |some p=>match BY kb with | some q=>some (p++q) | none=>none
  |none=>none
theorem cM.free {E E':EH} {aD:List IntKind} {aW agg:Bool}:∀{es:List MapEntry} {l:List (List Int×List D)},Plain (l.map (·.2)).flatten->cM E aD aW agg es l->cM E' aD aW agg es l
 | [],_,_,h=>by simpa only[cM]using h
 |e::es,_,hp,h=>by
  simp only[cM]at h ⊢
  obtain⟨k,c,l',rfl,⟨h1,h1',ys,h2,h3⟩,h4⟩:=h
  simp only[kv,jF]at hp
  exact⟨k,c,l',rfl,⟨h1,h1',ys,h2,h3.free (fun d hd=>hp d (gQ _ hd))⟩,h4.free (fun d hd=>hp d (kQ _ hd))⟩
theorem jp.free {E E':EH} {agg:Bool}:∀{vs:List Value} {l:List (List D)},Plain l.flatten->jp E agg vs l->jp E' agg vs l
 | [],_,_,h=>by simpa only[jp]using h
 |v::vs,_,hp,h=>by
  simp only[jp]at h ⊢
  obtain⟨c,l',rfl,⟨ys,h1,h2⟩,h3⟩:=h
  rw[jF]at hp
  exact⟨c,l',rfl,⟨ys,h1,h2.free (fun d hd=>hp d (gQ _ hd))⟩,h3.free (fun d hd=>hp d (kQ _ hd))⟩
theorem ij.free {σ:Sg} {E E':EH} {W:World} {r:Re} {o:KO} {ps:List (List D)} (h:KO.free o=some ps) (hp:∀ p∈ps,Plain p) (hh:ij σ E W r o):ij σ E' W r o:=by
 cases o with
 |cells l=>obtain⟨arr,ty,h1,h2⟩:=hh;exact⟨arr,ty,h1,aV.free h hp h2⟩
 |row ty sz l=>
  simp only[KO.free,bb.injEq]at h
  subst h
  obtain⟨h0,h1,h2,h3,h4⟩:=hh
  exact⟨h0,h1,h2,h3,h4.elim .inl fun⟨arr,k1,k2,k3⟩=> .inr ⟨arr,k1,k2,k3.free (hp _ (by simp))⟩⟩
 |mp aD aW agg sz l=>
  simp only[KO.free,bb.injEq]at h
  subst h
  obtain⟨h0,es,ck,h1,h2,h3⟩:=hh
  exact⟨h0,es,ck,h1,h2.free (hp _ (by simp)),h3⟩
 |ch agg sz cap l=>
  simp only[KO.free,bb.injEq]at h
  subst h
  obtain⟨h0,H0,bf,s,rr,h1,h2⟩:=hh
  exact⟨h0,H0,bf,s,rr,h1,h2.free (hp _ (by simp))⟩
 |objs A=>simp [KO.free]at h
 |jP a=>simp [KO.free]at h
 |dead=>trivial
theorem Qg:∀{kb:KB} {ps:List (List D)},BY kb=some ps->(∀ p∈ps,Plain p)->∀(i:Nat) (o:KO),kb[i]? =some o->∃ qs,KO.free o=some qs/\∀ q∈qs,Plain q
 | [],_,_,_,i,o,ho=>by simp at ho
 |x::kb,ps,h,hp,i,o,ho=>by
  simp only[BY]at h
  split at h<;>try (cases h;done)
  rename_i p h1
  split at h<;>try (cases h;done)
  rename_i q h2
  cases h
  cases i with
  |zero=>simp at ho;subst ho;exact⟨p,h1,fun a ha=>hp a (gQ _ ha)⟩
  |succ i=>exact Qg h2 (fun a ha=>hp a (kQ _ ha)) i o (by simpa using ho)
def BL:List Nat->List Nat->Bool
 | [],_=>true
 |i::is,o=>match yV o i with | true=>false | false=>BL is o
theorem Pm:∀{is o:List Nat},BL is o=true->∀ i∈is,i ∉ o
 |i::is,o,h,j,hj=>by
  simp only[BL]at h
  split at h
  ·cases h
  ·rename_i hm
   rcases dS.1 hj with rfl | hj
   ·intro hin
    obtain⟨k,hk⟩:=Ct hin
    simp [yV,hk]at hm
   ·exact Pm h j hj
def Lb (S:aE) (ms:List Mode) (args:List V) (kb:KB) (K:V->KB->Prop):Prop:=
 te ms args kb (fun args kb=>match jk kb ms args with
  |some (_,args1,[])=>zA S args1 kb K
  |some (p,args1,is)=>p/\(match sX false 0 args1 kb with
   |some (args',sub,o)=>match BL is o with
    |true=>S args' sub (fun r bY=>match Nat.ble o.length bY.length,V.bZ (kB o kb.length) r,sT bY o (kB o kb.length) 0 kb,V.free r,BY bY with
     |true,some r',some kb',some ps,some qs=>GO (ps++qs)/\K r' kb'
     |_,_,_,_,_=>False)
    |false=>False
   |none=>False)
  |none=>False)
theorem RZ {kb:KB} {s:Nat} {v u:V} {q:Prop} (hq:wF kb s v=some (q,u,[])) {σ:Sg} {E:EH} {x:Value} (h1:Den σ E v x):Den σ E u x:=by
 unfold wF at hq
 split at hq<;>try (cases hq;done)
 rename_i sz r Xg hsrc
 split at hq<;>try (cases hq;done)
 rename_i hfit
 simp only[bb.injEq,Prod.mk.injEq]at hq
 obtain⟨_,rfl,Iq⟩:=hq
 unfold tO at hsrc
 split at hsrc
 ·simp [tM]at Iq
 ·simp only[bb.injEq,Prod.mk.injEq]at hsrc
  obtain⟨rfl,_,rfl⟩:=hsrc
  have: _=s:=de hfit
  subst this
  exact h1
 ·simp only[bb.injEq,Prod.mk.injEq]at hsrc
  obtain⟨_,_,rfl⟩:=hsrc
  simp only[Den]at h1
  subst h1
  simp only[Den,bX]
  exact⟨none,0,rfl,ar _,.inl rfl⟩
 ·simp only[bb.injEq,Prod.mk.injEq]at hsrc
  obtain⟨_,_,rfl⟩:=hsrc
  simp only[Den]at h1
  obtain⟨a,rfl⟩:=h1
  simp only[Den,bX]
  exact⟨a,0,rfl,ar _,.inl rfl⟩
 ·simp [tM]at Iq
 ·simp [tM]at Iq
 ·cases hsrc
theorem I6 {kb:KB} {s:Nat} {σ:Sg} {E:EH}:∀{vs us:List V} {p:Prop},tA kb s vs=some (p,us,[])->∀{xs:List Value},aV σ E vs xs->aV σ E us xs
 | [],us,p,h,xs,hd=>by
  simp only[tA,bb.injEq,Prod.mk.injEq]at h
  obtain⟨_,rfl,_⟩:=h
  exact hd
 |v::vs,us,p,h,xs,hd=>by
  simp only[tA]at h
  obtain⟨ys,zs,rfl,h1,h2⟩:=hd.iT
  split at h<;>try (cases h;done)
  rename_i q ws ls hq
  split at h
  ·rename_i p1 u Cz h3
   simp only[bb.injEq,Prod.mk.injEq]at h
   obtain⟨rfl,rfl,he⟩:=h
   have hk:Cz=[]/\ls=[]:=List.append_eq_nil_iff.1 he
   obtain⟨rfl,rfl⟩:=hk
   refine aV.cons ?_ (I6 hq h2)
   rcases h1 with ⟨y,rfl,h4,h5⟩ | ⟨m,cs,rfl,_,_⟩
   ·exact .inl ⟨y,rfl,h4,RZ h3 h5⟩
   ·cases h3
  ·simp only[bb.injEq,Prod.mk.injEq]at h
   obtain⟨rfl,rfl,rfl⟩:=h
   exact aV.cons h1 (I6 hq h2)
theorem abP {kb:KB} {s:Nat} {v u:V} {q:Prop} (hq:yS kb s v=some (q,u,[])) {σ:Sg} {E:EH} {x:Value} (h1:Den σ E v x):Den σ E u x:=by
 unfold yS at hq
 split at hq
 ·split at hq<;>try (cases hq;done)
  rename_i l p1 us Cz h2
  simp only[bb.injEq,Prod.mk.injEq]at hq
  obtain⟨rfl,rfl,rfl⟩:=hq
  simp only[Den]at h1 ⊢
  obtain⟨vs,rfl,h3⟩:=h1
  exact⟨vs,rfl,I6 h2 h3⟩
 ·exact RZ hq h1
theorem CO {kb:KB} {σ:Sg} {E:EH} {W:World} (hi:Inv σ E kb W):∀{ss:List Mode} {vs us:List V} {p:Prop},jk kb ss vs=some (p,us,[])->∀{xs:List Value},az σ E vs xs->az σ E us xs
 |ss,[],us,p,h,xs,hd=>by
  have:us=[]:=by
   cases ss with
   |nil=>simp only[jk,bb.injEq,Prod.mk.injEq]at h;exact h.2.1.symm
   |cons m ss=>cases m<;>(simp only[jk,bb.injEq,Prod.mk.injEq]at h;exact h.2.1.symm)
  subst this
  simpa only[az]using hd
 | [],v::vs,us,p,h,xs,hd=>by
  simp only[jk]at h
  split at h<;>try (cases h;done)
  rename_i q ws ks hq
  simp only[bb.injEq,Prod.mk.injEq]at h
  obtain⟨rfl,rfl,rfl⟩:=h
  simp only[az]at hd ⊢
  obtain⟨x,xs',rfl,h1,h2⟩:=hd
  exact⟨x,xs',rfl,h1,CO hi hq h2⟩
 |m::ss,v::vs,us,p,h,xs,hd=>by
  have plain:(match jk kb ss vs with | some (p,us,is)=>some (p,v::us,is) | none=>none)=some (p,us,[])->az σ E us xs:=fun h=>by
   split at h<;>try (cases h;done)
   rename_i q ws ks hq
   simp only[bb.injEq,Prod.mk.injEq]at h
   obtain⟨rfl,rfl,rfl⟩:=h
   simp only[az]at hd ⊢
   obtain⟨x,xs',rfl,h1,h2⟩:=hd
   exact⟨x,xs',rfl,h1,CO hi hq h2⟩
  cases m with
  |mK=>exact plain (by simpa only[jk]using h)
  |fA s=>exact plain (by simpa only[jk]using h)
  |ic=>exact plain (by simpa only[jk]using h)
  |tail=>exact plain (by simpa only[jk]using h)
  |fL s=>
   simp only[jk]at h
   split at h<;>try (cases h;done)
   rename_i q u ks q' ws ls hq pM
   simp only[bb.injEq,Prod.mk.injEq]at h
   obtain⟨rfl,rfl,he⟩:=h
   have hk:ks=[]/\ls=[]:=List.append_eq_nil_iff.1 he
   obtain⟨rfl,rfl⟩:=hk
   simp only[az]at hd ⊢
   obtain⟨x,xs',rfl,h1,h2⟩:=hd
   refine⟨x,xs',rfl,?_,CO hi pM h2⟩
   exact abP hq h1
theorem afX {P:Program} {f:FuncId} {S:aE} (hS:aO P f S) {ms:List Mode} {args:List V} {kb:KB} {K:V->KB->Prop} (h:Lb S ms args kb K) {σ:Sg} {E:EH} {W:World} {xs:List Value} (hi:Inv σ E kb W) (hd:az σ E args xs):
  Calls P f xs.toArray W (fun e W'=>∃ v r σ' E' kb',e= .returned v/\Step σ E kb W σ' E' kb' W'/\Den σ' E' r v/\K r kb'):=by
 unfold Lb at h
 obtain⟨E0,rU,us0,s0,d0,h⟩:=yz h hi hd
 suffices body:Calls P f xs.toArray W (fun e W'=>∃ v r σ' E' kb',e= .returned v/\Step σ E0 rU W σ' E' kb' W'/\Den σ' E' r v/\K r kb') by
  refine body.mono ?_
  rintro e W' ⟨v,r,σ',E',kb',h1,h2,h3,h4⟩
  exact⟨v,r,σ',E',kb',h1,s0.trans h2,h3,h4⟩
 replace hi:=s0.inv
 replace hd:=d0
 clear s0 d0
 generalize E0=E at*
 generalize rU=kb at*
 generalize us0=args at*
 split at h<;>try exact h.elim
 ·rename_i q args1 Iv
  exact D1 hS h hi (CO hi Iv hd)
 rename_i p args1 is _ Iv
 obtain⟨hp,h⟩:=h
 split at h<;>try exact h.elim
 rename_i args' sub o hc
 split at h<;>try exact h.elim
 rename_i aaT
 obtain⟨hn,_,rM,hsel⟩:=rq hc
 obtain⟨k1,k2,k3⟩:=hi.sel hn hsel
 obtain⟨j6,df⟩:=xf hsel
 have hdj:=Pm aaT
 have hd1:=CP hi (js:=is) Iv hp (fun i h=>h) hd
 have nC:∀ b,dc (dU σ o) sub b->∀(j:Nat) (r:Re) (ob:KO),j ∉ o->σ[j]? =some r->kb[j]? =some ob->owned r ob b->False:=by
  intro b hb j r ob hj h1 h2 h3
  obtain⟨i,r2,o2,g1,g2,g3,g4⟩:=Kq hi.len hsel hb
  exact hi.eH i j r2 r o2 ob b (fun e=>by subst e;exact hj g1) g2 g3 h1 h2 g4 h3
 have k1':Inv (dU σ o) (nH σ kb is W E) sub W:=by
  refine⟨k1.len,fun i r ob h1 h2=>?_,k1.eH,fun b x hb=>?_,fun b hb=>?_⟩
  ·simpa using(k1.obj i r ob h1 h2).mono (τ:=[]) (W':=W) (uO σ kb is W E) (fun _ _=>rfl)
  ·simp only[nH]at hb
   split at hb
   ·rename_i x' hx;rw[<- hb];exact k1.fe b x' hx
   ·split at hb
    ·exact hb
    ·cases hb
  ·have h0:=k1.sep b hb
   simp only[nH,h0]
   rw[if_neg]
   rintro⟨i,hi',r,ob,hr,hk,ho⟩
   exact nC _ hb i r ob (hdj i hi') hr hk ho
 refine(hS args' sub _ h (dU σ o) (nH σ kb is W E) W xs k1' (az.bZ k3 rM hd1)).mono ?_
 rintro e W' ⟨v,r,σs,E',bY,rfl,hst,eT,hK⟩
 split at hK<;>try exact hK.elim
 rename_i r' kb' ps qs Ic hr' hkb' aaV aaW
 obtain⟨rL,hK⟩:=hK
 have Rk:=OT rL
 have hle:=Nat.le_of_ble_eq_true Ic
 obtain⟨τ,oU⟩:=hst.pre
 have IJ:(dU σ o).length=o.length:=by simp [dU]
 have hl2:σs.length=bY.length:=hst.inv.len
 obtain⟨hout,If⟩:=Gf hkb'
 let nV:=σ++σs.drop o.length
 have rR:∀ i j r,kB o kb.length i=some j->σs[i]? =some r->nV[j]? =some r:=by
  intro i j r hb hr
  unfold kB at hb
  split at hb
  ·rename_i q hq
   cases hb
   have hil:i<o.length:=(bH.1 hq).1
   rw[oU,dY (by rw[IJ];exact hil)]at hr
   simp only[dU,fy,hq,Option.map_some,bb.injEq]at hr
   obtain⟨ob,_,oa,_,_⟩:=df i j hq
   have hjl:j<σ.length:=by rw[hi.len];exact(bH.1 oa).1
   rw[bu hjl]at hr
   simp only[Option.getD_some]at hr
   show(σ++_)[j]? =_
   rw[dY hjl,bu hjl,hr]
  ·rename_i hq
   cases hb
   have hil:o.length<=i:=by
    rcases kx i o.length with h' | h'
    ·rw[bu h']at hq;cases hq
    ·exact h'
   show(σ++_)[_]? =_
   rw[fk (by rw[hi.len];omega),hi.len,show kb.length+(i - o.length) - kb.length=i - o.length by omega,jW,show o.length+(i - o.length)=i by omega]
   exact hr
 have e_:∀(i:Nat) (r:Re) (ob:KO),nV[i]? =some r->kb'[i]? =some ob->
   (∃ k a,kB o kb.length k=some i/\σs[k]? =some r/\bY[k]? =some a/\KO.bZ (kB o kb.length) a=some ob)∨(i ∉ o/\σ[i]? =some r/\kb[i]? =some ob):=by
  intro i r ob h1 h2
  rcases If i ob h2 with ⟨c1,c2,c3⟩ | ⟨c1,k,a,c2,c3,c4⟩ | ⟨c1,a,c2,c3⟩
  ·rw[c9]at c2
   have h1':(σ++σs.drop o.length)[i]? =some r:=h1
   rw[dY (by rw[hi.len];exact c1)]at h1'
   exact .inr ⟨Ry c2,h1',c3⟩
  ·rw[c9]at c2
   have hk:=Cu c2
   have kF:k<σs.length:=by rw[hl2];exact(bH.1 c3).1
   have hb:kB o kb.length k=some i:=by simp [kB,hk]
   have:=rR k i _ hb (bu kF)
   rw[this]at h1
   exact .inl ⟨k,a,hb,by rw[bu kF];exact h1,c3,c4⟩
  ·have hb:kB o kb.length (o.length+(i - kb.length))=some i:=by
    have:o[o.length+(i - kb.length)]? =none:=iE (by omega)
    simp only[kB,this]
    congr 1
    omega
   have kF:o.length+(i - kb.length)<σs.length:=by rw[hl2];exact(bH.1 c2).1
   have:=rR _ i _ hb (bu kF)
   rw[this]at h1
   exact .inl ⟨_,a,hb,by rw[bu kF];exact h1,c2,c3⟩
 have IB:∀(j:Nat) (r:Re) (ob:KO),j ∉ o->σ[j]? =some r->kb[j]? =some ob->∀ b,owned r ob b->W'.heap[b]? =W.heap[b]?:=by
  intro j r ob hj h1 h2 b h3
  exact hst.c8.block b ((hi.obj j r ob h1 h2).lt h3) (fun hb=>nC b hb j r ob hj h1 h2 h3)
 have rK:∀ b (k:Nat) (r:Re) (a:KO),σs[k]? =some r->bY[k]? =some a->owned r a b->dc (dU σ o) sub b∨W.heap.size<=b:=fun b k r a h1 h2 h3=>hst.own b ⟨k,r,a,h1,h2,h3⟩
 have hown:∀ b,dc nV kb' b->dc σ kb b∨W.heap.size<=b:=by
  rintro b ⟨i,r,ob,h1,h2,h3⟩
  rcases e_ i r ob h1 h2 with ⟨k,a,_,g2,g3,g4⟩ | ⟨g1,g2,g3⟩
  ·rcases rK b k r a g2 g3 ((mr g4).1 h3)with h4 | h4
   ·exact .inl (k2 b h4)
   ·exact .inr h4
  ·exact .inl ⟨i,r,ob,g2,g3,h3⟩
 have Qr:E.le E':=(uO σ kb is W E).trans hst.le
 refine⟨v,r',nV,E,kb',rfl,⟨⟨?_,fun i r ob h1 h2=>?_,fun i j r1 r2 o1 o2 b hij h1 h2 h3 h4 h5 h6=>?_,fun b x hb=>hst.inv.fe b x (Qr b x hb),fun b hb=>?_⟩,⟨hst.c8.os,hst.c8.tape,hst.c8.output,hst.c8.size,fun b hb hn'=>hst.c8.block b hb (fun h=>hn' (k2 b h))⟩,⟨_,rfl⟩,EH.le.refl E,hown,fun b x hb=> .inl hb⟩,Den.bZ rR hr' (Den.free aaV (fun p hp=>Rk p (gQ _ hp)) eT),hK⟩
 ·simp only[nV,bn,gm,hout,hi.len,hl2]
 ·rcases e_ i r ob h1 h2 with ⟨k,a,_,g2,g3,g4⟩ | ⟨g1,g2,g3⟩
  ·obtain⟨us,u1,u2⟩:=Qg aaW (fun p hp=>Rk p (kQ _ hp)) k a g3
   exact((hst.inv.obj k r a g2 g3).free u1 u2).bZ rR g4
  ·exact(hi.obj i r ob g2 g3).mono (EH.le.refl E) (fun b hb=>IB i r ob g1 g2 g3 b hb)
 ·rcases e_ i r1 o1 h1 h2 with ⟨k,a,g1,g2,g3,g4⟩ | ⟨g1,g2,g3⟩<;>rcases e_ j r2 o2 h3 h4 with ⟨m,a',q1,q2,q3,q4⟩ | ⟨q1,q2,q3⟩
  ·refine hst.inv.eH k m r1 r2 a a' b (fun e=>?_) g2 g3 q2 q3 ((mr g4).1 h5) ((mr q4).1 h6)
   subst e
   rw[g1]at q1
   cases q1
   exact hij rfl
  ·rcases rK b k r1 a g2 g3 ((mr g4).1 h5)with h7 | h7
   ·exact nC b h7 j r2 o2 q1 q2 q3 h6
   ·have:=(hi.obj j r2 o2 q2 q3).lt h6;omega
  ·rcases rK b m r2 a' q2 q3 ((mr q4).1 h6)with h7 | h7
   ·exact nC b h7 i r1 o1 g1 g2 g3 h5
   ·have:=(hi.obj i r1 o1 g2 g3).lt h5;omega
  ·exact hi.eH i j r1 r2 o1 o2 b hij g2 g3 q2 q3 h5 h6
 ·obtain⟨i,r,ob,h1,h2,h3⟩:=hb
  rcases e_ i r ob h1 h2 with ⟨k,a,_,g2,g3,g4⟩ | ⟨g1,g2,g3⟩
  ·cases hE:E b with
   |none=>rfl
   |some x=>
    have h0:=hst.inv.sep b ⟨k,r,a,g2,g3,(mr g4).1 h3⟩
    have:=Qr b x hE
    rw[h0]at this;cases this
  ·exact hi.sep b ⟨i,r,ob,g2,g3,h3⟩
structure du where
 SD:List Mode
 S:aE
def dM (P:Program) (Sp:FuncId->Option du) (T:FuncId->Nat->Option LI):Nat->cd
 | 0=>fun _ _ _ _=>False
 |d+1=>fun f args kb K=>match Sp f with
  |some k=>match k.SD with
   | []=>zA k.S args kb K
   | .ic:: _=>Lc k.S args kb K
   | .tail:: _=>Le k.S args kb K
   |ms=>Lb k.S ms args kb K
  |none=>DJ P (dM P Sp T d) (T f) f args kb K
def M7 (P:Program) (f:FuncId) (S:aE):List Mode->Prop
 | .tail:: _=>gB P f S
 |_=>aO P f S
def dD (P:Program) (Sp:FuncId->Option du):Prop:=∀ f k,Sp f=some k->M7 P f k.S k.SD
theorem dP {P:Program} (hm:P.follows .mixedOrders=true) {Sp:FuncId->Option du} (hS:dD P Sp) (T:FuncId->Nat->Option LI):∀ d,cx P (dM P Sp T d)
 | 0=>fun f args kb K h=>h.elim
 |d+1=>fun f args kb K h σ E W xs hi hd=>by
  simp only[dM]at h
  split at h
  ·rename_i k hk
   split at h
   ·rename_i hm;have:=hS f k hk;rw[hm]at this;exact D1 this h hi hd
   ·rename_i hm;have:=hS f k hk;rw[hm]at this;exact Vu this h hi hd
   ·rename_i hm;have:=hS f k hk;rw[hm]at this;exact afY this h hi hd
   ·rename_i h1 h2 h3;have:=hS f k hk;unfold M7 at this;split at this
    ·rename_i l hm;exact absurd hm (h3 l)
    ·exact afX this h hi hd
  ·exact UV (dP hm hS T d) hm h hi hd
def aI (P:Program) (X:cd) (T:Nat->Option LI) (f:FuncId) (args:List V) (kb:KB) (K:V->KB->Prop):Prop:=
 DJ P X T f args kb (fun r kb'=>match canon kb.length [r] kb' with
  |some ([r'],kb',_)=>K r' kb'
  |_=>False)
theorem UW {P:Program} {X:cd} (hX:cx P X) (hm:P.follows .mixedOrders=true) {T:Nat->Option LI} {f:FuncId} {args:List V} {kb:KB} {K:V->KB->Prop} (h:aI P X T f args kb K) {σ:Sg} {E:EH} {W:World} {xs:List Value} (hi:Inv σ E kb W)
  (hd:az σ E args xs):Calls P f xs.toArray W (fun e W'=>∃ v r σ' E' kb',e= .returned v/\Step σ E kb W σ' E' kb' W'/\Den σ' E' r v/\K r kb'):=by
 refine(UV hX hm h hi hd).mono ?_
 rintro e W' ⟨v,r,σ',E',kb',rfl,h1,h2,h3⟩
 split at h3<;>try exact h3.elim
 rename_i r' bY o hc
 rw[<- hi.len]at hc
 obtain⟨σ2,h4,h5⟩:=Step.sel (c:=⟨σ,E,kb,W⟩) h1 hc (.cons h2 .nil)
 simp only[az]at h5
 obtain⟨x,xs',he,h6,rfl⟩:=h5
 cases he
 exact⟨v,r',σ2,E',bY,rfl,h4,h6,h3⟩
def CC:V->Prop
 | .tt=>True
 | .sb b=>b=true
 |_=>False
theorem abt {v:V} (h:CC v) {σ:Sg} {E:EH} {x:Value} (hd:Den σ E v x):x= .bool true:=by
 cases v<;>simp only[CC]at h
 ·subst h;simpa [Den]using hd
 ·simpa [Den]using hd
def py (W:World):EH:=fun b=>W.heap[b]?
theorem abo (W:World):Inv [] (py W) [] W:=
 ⟨rfl,fun i r o h=>by simp at h,fun i j r r' o o' b _ h=>by simp at h,fun b o h=>h,fun b ⟨i,r,o,h,_⟩=>by simp at h⟩
theorem abH {P:Program} {X:cd} (hX:cx P X) {f:FuncId} {args:List V} (h:X f args [] (fun r _=>CC r)) {W:World} {xs:List Value} (hd:az [] (py W) args xs):
  Calls P f xs.toArray W (fun e W'=>e= .returned (.bool true)/\RowKit.Below W.heap.size W W'):=by
 refine(hX f args [] _ h [] (py W) W xs (abo W) hd).mono ?_
 rintro e W' ⟨v,r,σ',E',kb',rfl,h1,h2,h3⟩
 refine⟨by rw[abt h3 h2],⟨h1.c8.os,h1.c8.tape,h1.c8.output,h1.c8.size,fun k hk=>h1.c8.block k hk (fun⟨i,r,o,h,_⟩=>by simp at h)⟩⟩
inductive SH where
 |int (k:IntKind)
 |bool
 |sl (es:List SH)
mutual
def tX:SH->D->Prop
 | .int k,d=>∃ n,d= .val (.int k n)/\(Lit.int k n).wf=true
 | .bool,d=>∃ b,d= .val (.bool b)
 | .sl es,d=>∃ l,d= .sl es.length l/\l.length<=maxLen/\∀ e∈l,gY es e
def gY:List SH->List D->Prop
 | [],ds=>ds=[]
 |s::ss,ds=>∃ d ds',ds=d::ds'/\tX s d/\gY ss ds'
end
theorem gY.len:∀{ks:List SH} {vs:List D},gY ks vs->vs.length=ks.length
 | [],_,h=>by simp only[gY]at h;simp [h]
 |k::ks,_,h=>by simp only[gY]at h;obtain⟨v,vs',rfl,_,h2⟩:=h;simp [gY.len h2]
theorem gY.append:∀{ks:List SH} {vs:List D},gY ks vs->∀{ls:List SH} {us:List D},gY ls us->gY (ks++ls) (vs++us)
 | [],_,h,_,_,k=>by simp only[gY]at h;subst h;simpa using k
 |k::ks,_,h,_,_,k'=>by
  simp only[gY]at h
  obtain⟨v,vs',rfl,h1,h2⟩:=h
  simp only[List.cons_append,gY]
  exact⟨v,_,rfl,h1,h2.append k'⟩
def p9 (P:Program):Nat->TypeId->Option (List SH)
 | 0,_=>none
 |n+1,t=>
  match P.underlying t with
  |some .bool=>some [.bool]
  |some (.int k)=>some [.int k]
  |some (.slice e)=>match p9 P n e with
   |some (s::ss)=>match cX (s::ss).length (P.cellsOf e)with
    |true=>some [.sl (s::ss)]
    |false=>none
   |_=>none
  |some (.struct fs)=>fs.toList.foldl (fun acc f=>match acc,p9 P n f.type with
   |some ks,some l=>match cX ks.length f.offset,cX l.length (P.cellsOf f.type)with
    |true,true=>some (ks++l)
    |_,_=>none
   |_,_=>none) (some [])
  |some (.array m e)=>match p9 P n e with
   |some l=>match cX l.length (P.cellsOf e)with
    |true=>some (dv m l).flatten
    |false=>none
   |none=>none
  |_=>none
theorem yU {α β:Type} {f:α->Option β}:∀{l:List α} {r:List β},l.mapM f=some r->r.length=l.length/\∀(i:Nat) (a:α),l[i]? =some a->∃ b,f a=some b/\r[i]? =some b
 | [],r,h=>by simp at h;subst h;simp
 |a::l,r,h=>by
  simp only[List.mapM_cons,Option.bind_eq_bind,lO,Option.pure_def,bb.injEq]at h
  obtain⟨b,hb,rs,hrs,rfl⟩:=h
  obtain⟨h1,h2⟩:=yU hrs
  refine⟨by simp [h1],fun i x hx=>?_⟩
  cases i with
  |zero=>simp at hx;subst hx;exact⟨b,hb,rfl⟩
  |succ i=>simpa using h2 i x (by simpa using hx)
section
variable {H:Type} {enc:TypeId×Value->H} {P:Program} {w:World} {base:Nat} {spare:Nat->Bool} {held:Bool}
theorem GB {a:Addr} {n:Nat} {cs:List Value} (h:w.cells? base a n=some cs):cs.length=n/\∀(j:Nat) (x:Value),cs[j]? =some x->w.cell? (a.add j)=some x:=by
 unfold World.cells? at h
 split at h
 ·obtain⟨h1,h2⟩:=yU h
  refine⟨by simpa using h1,fun j x hj=>?_⟩
  have hlt:j<n:=by
   have:=(bH.1 hj).1
   rw[h1]at this
   simpa using this
  obtain⟨b,hb,fR⟩:=h2 j j (by simp [hlt])
  rw[hj]at fR;cases fR
  exact hb
 ·cases h
def mF (w:World) (ks:List SH) (cs:List Value):Prop:=∃ ds,bh (py w) ds cs/\gY ks ds
theorem mF.append {ks ls:List SH} {cs es:List Value} (h:mF w ks cs) (k:mF w ls es):mF w (ks++ls) (cs++es):=by
 obtain⟨ds,h1,h2⟩:=h
 obtain⟨us,k1,k2⟩:=k
 exact⟨ds++us,h1.append k1,h2.append k2⟩
theorem mF.nil:mF w [] []:=⟨[],.nil,by simp [gY]⟩
theorem mF.len {ks:List SH} {cs:List Value} (h:mF w ks cs):cs.length=ks.length:=by
 obtain⟨ds,h1,h2⟩:=h
 rw[h1.len,h2.len]
theorem Ec:∀(m fuel:Nat) (t:TypeId) (cs:List Value) (ks:List SH) (x:DataW H×List MemPlace),p9 P m t=some ks->DataW.trod enc P w base spare held fuel t cs=some x->mF w ks (cs.take ks.length)
 | 0,_,_,_,_,_,h,_=>by simp [p9]at h
 |m+1,0,_,_,_,_,_,h=>by simp [DataW.trod]at h
 |m+1,fuel+1,t,cs,ks,x,hs,hx=>by
  simp only[p9]at hs
  unfold DataW.trod at hx
  split at hs
  ·rename_i ht
   cases hs
   simp only[ht]at hx
   split at hx<;>try (simp at hx;done)
   all_goals rename_i heq;simp at heq
   exact⟨[.val _],.cons (show bX _ (.val _) _ from⟨rfl,rfl⟩) .nil,by simp only[gY,tX];exact⟨_,[],rfl,⟨_,rfl⟩,rfl⟩⟩
  ·rename_i k ht
   cases hs
   simp only[ht]at hx
   split at hx<;>try (simp at hx;done)
   all_goals rename_i heq;simp at heq
   subst heq
   split at hx
   ·rename_i hc
    obtain⟨rfl,hw⟩:=hc
    exact⟨[.val _],.cons (show bX _ (.val _) _ from⟨rfl,rfl⟩) .nil,by simp only[gY,tX];exact⟨_,[],rfl,⟨_,rfl,hw⟩,rfl⟩⟩
   ·cases hx
  ·rename_i e ht
   split at hs<;>try (cases hs;done)
   rename_i s0 ss0 tp
   split at hs<;>try (cases hs;done)
   rename_i hb
   cases hs
   have hc:=(de hb).symm
   obtain⟨es,Q2⟩:∃ es,es=s0::ss0:=⟨_,rfl⟩
   rw[<- Q2]at tp hc ⊢
   have hk:0<es.length:=by rw[Q2];simp
   simp only[ht]at hx
   have wrap:∀{v:Value} {l:List (List D)},bX (py w) (.sl es.length l) v->l.length<=maxLen->(∀ e∈l,gY es e)->mF w [.sl es] [v]:=fun h1 h2 h3=>
    ⟨[.sl es.length _],.cons h1 .nil,by simp only[gY,tX];exact⟨_,[],rfl,⟨_,rfl,h2,h3⟩,rfl⟩⟩
   split at hx<;>try (simp at hx;done)
   all_goals try (rename_i heq;simp at heq;done)
   ·exact wrap (l:=[]) (by simp only[bX];exact⟨none,0,rfl,ar _,.inl rfl⟩) (by simp) (fun e he=>by cases he)
   ·rename_i a len cap heq
    simp only[bb.injEq,TypeDesc.slice.injEq]at heq
    subst heq
    simp only[gA,kP,List.take_succ_cons,List.take_zero]
    split at hx
    ·rename_i QN
     obtain⟨hb,hlc,pJ⟩:=QN
     simp only[lO]at hx
     obtain⟨elems,hel,IE⟩:=hx
     obtain⟨aaX,df⟩:=yU hel
     have hex:∀ i,i<len->∃ cs ds,w.cells? base (a.add (i*P.cellsOf e)) (P.cellsOf e)=some cs/\bh (py w) ds cs/\gY es ds:=by
      intro i hi
      obtain⟨b,hb,_⟩:=df i i (by simp [hi])
      simp only[lO]at hb
      obtain⟨cs,h1,h2⟩:=hb
      have h3:=Ec m fuel e cs es _ tp h2
      rw[eQ (by rw[(GB h1).1];omega)]at h3
      obtain⟨ds,h4,h5⟩:=h3
      exact⟨cs,ds,h1,h4,h5⟩
     have hl:∃ l:List (List D),l.length=len/\∀ i d,l[i]? =some d->∃ c,w.cells? base (a.add (i*P.cellsOf e)) (P.cellsOf e)=some c/\bh (py w) d c/\gY es d:=by
      clear aaX df hel pJ hlc IE
      induction len with
      |zero=>exact⟨[],rfl,by simp⟩
      |succ len ih=>
       obtain⟨l,h1,h2⟩:=ih (fun i hi=>hex i (by omega))
       obtain⟨c,d,h3,h4,h5⟩:=hex len (by omega)
       refine⟨l++[d],by simp [h1],fun i d' hd'=>?_⟩
       rcases Nat.lt_trichotomy i l.length with hi | hi | hi
       ·rw[dY hi]at hd'
        exact h2 i d' hd'
       ·subst hi
        simp at hd'
        subst hd'
        rw[h1]
        exact⟨c,h3,h4,h5⟩
       ·rw[iE (by simp;omega)]at hd';cases hd'
     obtain⟨l,Cf,hl⟩:=hl
     have Cb:∀ x∈l,gY es x:=fun x hx=>by
      obtain⟨i,hi⟩:=jG hx
      obtain⟨_,_,_,h⟩:=hl i x hi
      exact h
     have hw:wl es.length l:=fun x hx=>(Cb x hx).len
     refine wrap (l:=l) ?_ (by omega) Cb
     simp only[bX]
     refine⟨some a,cap,by rw[Cf],by omega,?_⟩
     by_cases h0:len=0
     ·left;omega
     ·right
      obtain⟨c0,d0,k1,k2,k3⟩:=hex 0 (by omega)
      have hcl:=k2.len
      have hdl:=k3.len
      obtain⟨x0,hx0⟩:∃ x,c0[0]? =some x:=⟨c0[0],bu (by omega)⟩
      have hcell:=(GB k1).2 0 x0 hx0
      simp only[Nat.zero_mul]at hcell
      have ha0:(a.add 0).add 0=a:=by simp [Addr.add]
      rw[ha0]at hcell
      have Rs:=World.cell?_spot hcell
      obtain⟨ab,ao,sp⟩:=a
      simp only at Rs
      subst Rs
      refine⟨ab,ao,rfl,gS.of_flat hw (dZ.zf fun j d hj=>?_)⟩
      have hjl:j<l.flatten.length:=(bH.1 hj).1
      rw[pD hw]at hjl
      have hq:j / es.length<l.length:=Nat.div_lt_of_lt_mul (by rw[Nat.mul_comm];exact hjl)
      have hmod:j % es.length<es.length:=Nat.mod_lt _ hk
      have QW:j / es.length*es.length+j % es.length=j:=Nat.div_add_mod' j es.length
      obtain⟨c,q1,q2,q3⟩:=hl (j / es.length) _ (bu hq)
      have q4:=q3.len
      have hd2:=PY hw (bu hq) (bu (l:=l[j / es.length]) (i:=j % es.length) (by omega))
      rw[QW,hj]at hd2
      obtain⟨y,hy1,hy2⟩:=q2.get (bu (l:=l[j / es.length]) (i:=j % es.length) (by omega))
      rw[<- bb.inj hd2]at hy2
      refine⟨y,?_,hy2⟩
      have:=(GB q1).2 (j % es.length) y hy1
      rw[Addr.add_lit,Addr.add_lit,hc,g_,QW]at this
      show EH.cell (py w) ab (ao+j)=some y
      rw[<- this]
      unfold EH.cell py World.cell?
      cases w.heap[ab]?<;>rfl
    ·cases hx
  ·rename_i fs ht
   simp only[ht]at hx
   split at hx
   ·simp only[Option.map_eq_some_iff]at hx
    obtain⟨xs,hxs,_⟩:=hx
    obtain⟨_,df⟩:=yU hxs
    have key:∀(l:List Field) (acc ks:List SH),(∀ f∈l,∃ y,DataW.trod enc P w base spare held fuel f.type ((cs.drop f.offset).take (P.cellsOf f.type))=some y)->mF w acc (cs.take acc.length)->
      l.foldl (fun acc f=>match acc,p9 P m f.type with
       |some ks,some l=>match cX ks.length f.offset,cX l.length (P.cellsOf f.type)with
        |true,true=>some (ks++l)
        |_,_=>none
       |_,_=>none) (some acc)=some ks->mF w ks (cs.take ks.length):=by
     intro l
     induction l with
     |nil=>intro acc ks _ hacc hf;simp only[List.foldl_nil,bb.injEq]at hf;subst hf;exact hacc
     |cons f l ih=>
      intro acc ks hall hacc hf
      simp only[List.foldl_cons]at hf
      have hnone:∀ l:List Field,l.foldl (fun acc f=>match acc,p9 P m f.type with
       |some ks,some l=>match cX ks.length f.offset,cX l.length (P.cellsOf f.type)with
        |true,true=>some (ks++l)
        |_,_=>none
       |_,_=>none) (none:Option (List SH))=none:=by
       intro l;induction l with
       |nil=>rfl
       |cons a l ih=>exact ih
      cases II:p9 P m f.type with
      |none=>rw[II]at hf;exact absurd (hf.symm.trans (hnone l)) (by simp)
      |some sl=>
       rw[II]at hf
       simp only[]at hf
       cases gW:cX acc.length f.offset with
       |false=>simp only[gW]at hf;exact absurd (hf.symm.trans (hnone l)) (by simp)
       |true=>
       cases fR:cX sl.length (P.cellsOf f.type)with
       |false=>simp only[gW,fR]at hf;exact absurd (hf.symm.trans (hnone l)) (by simp)
       |true=>
        simp only[gW,fR]at hf
        have e1:=de gW
        have e2:=de fR
        obtain⟨y,hy⟩:=hall f iV
        have hc:=Ec m fuel f.type _ sl y II hy
        rw[<- e2,List.take_take,Nat.min_self,<- e1]at hc
        refine ih (acc++sl) ks (fun g hg=>hall g (gn _ hg)) ?_ hf
        rw[bn,List.take_add]
        exact hacc.append hc
    refine key fs.toList [] ks (fun f hf=>?_) (by simpa using mF.nil) hs
    obtain⟨i,hi⟩:=jG hf
    obtain⟨b,hb,_⟩:=df i f hi
    exact⟨b,hb⟩
   ·cases hx
  ·rename_i n e ht
   simp only[ht]at hx
   split at hx
   ·simp only[Option.map_eq_some_iff]at hx
    obtain⟨xs,hxs,_⟩:=hx
    obtain⟨_,df⟩:=yU hxs
    split at hs<;>try (cases hs;done)
    rename_i l hl
    split at hs<;>try (cases hs;done)
    rename_i hb
    cases hs
    have e2:=de hb
    have key:∀ k,k<=n->mF w (dv k l).flatten (cs.take (dv k l).flatten.length):=by
     intro k
     induction k with
     |zero=>intro _;simpa using mF.nil
     |succ k ih=>
      intro hk
      obtain⟨y,hy,_⟩:=df k k (List.getElem?_range (by omega))
      have hc:=Ec m fuel e _ l y hl hy
      rw[<- e2,List.take_take,Nat.min_self]at hc
      have hlen:(dv k l).flatten.length=k*l.length:=by simp
      rw[List.replicate_succ',List.flatten_append,bn,List.take_add,hlen]
      simp only[jF,List.flatten_nil,gz]
      rw[<- hlen]
      refine(ih (by omega)).append ?_
      rw[hlen]
      exact hc
    exact key n (ar _)
   ·cases hx
  ·cases hs
theorem aep {t:TypeId} {k:SH} (hs:p9 P 20 t=some [k]) {v:Value} (hone:v.cells=#[v]) {d:DataW H} {p:List MemPlace} (h:DataW.Trod enc P w base spare held t v d p):
  ∃ x,bX (py w) x v/\tX k x:=by
 obtain⟨fuel,hf⟩:=h
 have:=Ec 20 fuel t _ _ _ hs hf
 rw[hone]at this
 obtain⟨ds,h1,h2⟩:=this
 simp only[gA,kP,List.take_succ_cons,List.take_zero]at h1
 simp only[gY]at h2
 obtain⟨d,ds',rfl,h3,rfl⟩:=h2
 simp only[bh]at h1
 obtain⟨x,xs',e,h4,rfl⟩:=h1
 cases e
 exact⟨d,h4,h3⟩
theorem aeq {t:TypeId} {es:List SH} (hs:p9 P 20 t=some [.sl es]) {v:Value} (hv:∃ a len cap,v= .slice a len cap) {d:DataW H} {p:List MemPlace} (h:DataW.Trod enc P w base spare held t v d p):
  ∃ l,Den [] (py w) (.dat (.sl es.length l)) v/\l.length<=maxLen/\∀ e∈l,gY es e:=by
 obtain⟨a,len,cap,rfl⟩:=hv
 obtain⟨x,h1,h2⟩:=aep hs rfl h
 simp only[tX]at h2
 obtain⟨l,rfl,h3,h4⟩:=h2
 exact⟨l,by simpa only[Den]using h1,h3,h4⟩
end
def KT:V->KB->Prop:=fun r _=>CC r
theorem eC {P:Program} {X:cd} (hX:cx P X) (hm:P.follows .mixedOrders=true) {f:FuncId} {S:aE} (h:∀ args kb K,S args kb K->∃ T,aI P X T f args kb K):aO P f S:=
 fun args kb K hs σ E W xs hi hd=>by
  obtain⟨T,hT⟩:=h args kb K hs
  exact UW hX hm hT hi hd
theorem xi {P:Program} (hm:P.follows .mixedOrders=true) {f:FuncId} {S:aE} (h:∀ args kb K,S args kb K->∃ X T,cx P X/\aI P X T f args kb K):aO P f S:=
 fun args kb K hs σ E W xs hi hd=>by
  obtain⟨X,T,hX,hT⟩:=h args kb K hs
  exact UW hX hm hT hi hd
theorem Ld {P:Program} {X:cd} (hX:cx P X) (hm:P.follows .mixedOrders=true) (ds:List jX) {f:FuncId} {S:aE} (h:∀ args kb K,S args kb K->∃ T,aI P X T f args kb (eX ds K)):aO P f S:=
 fun args kb K hs=>by
  have h0:aO P f (fun a k K0=>∃ T,aI P X T f a k K0):=eC hX hm fun _ _ _ h=>h
  exact JF h0 ds args kb K (h args kb K hs)
theorem lF {P:Program} {X:cd} (hX:cx P X) (hm:P.follows .mixedOrders=true) {f:FuncId} {S:aE} (h:∀ args kb K,S args kb K->∃ T,aI P X T f args kb (dp kb.length K)):aO P f S:=
 fun args kb K hs=>by
  have h0:aO P f (fun a k K0=>∃ T,aI P X T f a k K0):=eC hX hm fun _ _ _ h=>h
  exact Eb h0 args kb K (h args kb K hs)
theorem my {P:Program} {X:cd} (hX:cx P X) (hm:P.follows .mixedOrders=true) (ds:List jX) {f:FuncId} {S:aE} (h:∀ args kb K,S args kb K->∃ T,aI P X T f args kb (eX ds (dp kb.length K))):aO P f S:=by
 have h1:aO P f (fun args kb K=>∃ T,aI P X T f args kb (eX ds K)):=Ld hX hm ds (fun args kb K h=>h)
 have h2:=Eb h1
 exact fun args kb K hs=>h2 args kb K (h args kb K hs)
def LU:V->V
 | .tt=> .sb true
 | .ff=> .sb false
 |v=>v
theorem Ph {σ:Sg} {E:EH}:∀{vs:List V} {xs:List Value},az σ E vs xs->az σ E (vs.map LU) xs
 | [],_,h=>h
 |v::vs,_,h=>by
  simp only[az]at h
  obtain⟨x,xs',rfl,h1,h2⟩:=h
  refine .cons ?_ (Ph h2)
  cases v<;>first | exact h1 | (simp only[Den]at h1;simpa [LU,Den]using h1)
def Vb (S:aE):aE:=fun args kb K=>S (args.map LU) kb K
theorem afA {P:Program} {f:FuncId} {S:aE} (hS:aO P f S):aO P f (Vb S):=fun args kb K h σ E W xs hi hd=>hS _ kb K h σ E W xs hi (Ph hd)
abbrev dn (k:IntKind) (n:Int):D:=.val (.int k n)
abbrev db (b:Bool):D:=.val (.bool b)
def aT (k:IntKind) (l:List Int):List D:=l.map fun n=> .val (.int k n)
def ints (k:IntKind) (l:List Int):List (List D):=l.map fun n=>[.val (.int k n)]
theorem bi {k:IntKind} {l:List Int}:(ints k l).length=l.length:=by simp [ints]
theorem oW {k:IntKind}:ints k []=[]:=rfl
theorem abm {k:IntKind} {a:Int} {l:List Int}:ints k (a::l)=[.val (.int k a)]::ints k l:=rfl
theorem pR {k:IntKind} {l m:List Int}:ints k (l++m)=ints k l++ints k m:=by simp [ints]
theorem ints_set {k:IntKind} {l:List Int} {i:Nat} {n:Int}:(ints k l).set i [.val (.int k n)]=ints k (l.set i n):=by simp [ints]
theorem oX {k:IntKind} {l:List Int} {i:Nat}:(ints k l).take i=ints k (l.take i):=by simp [ints]
theorem Cy {k:IntKind} {l:List Int} {i:Nat}:(ints k l).drop i=ints k (l.drop i):=by simp [ints]
theorem abn {k:IntKind} {m:Nat} {n:Int}:dv m [D.val (.int k n)]=ints k (dv m n):=by simp [ints]
theorem kY {k:IntKind} {l:List Int} {i:Nat}:(ints k l)[i]? =l[i]?.map fun n=>[D.val (.int k n)]:=by simp [ints]
theorem yL {k:IntKind} {l:List Int}:(ints k l).flatten=aT k l:=by
 induction l with
 |nil=>rfl
 |cons a l ih=>rw[abm,jF,ih];rfl
theorem aey {k:IntKind} {l:List Int}:Plain (aT k l):=fun d hd=>by
 obtain⟨n,_,rfl⟩:=dO.1 hd;trivial
theorem o9 {k:IntKind} {l:List Int}:Plain (ints k l).flatten:=by rw[yL];exact aey
theorem OR {α:Type} {ss:List SH} {f:α->List D} {Q:α->Prop} (hf:∀ x,gY ss x->∃ a,x=f a/\Q a):∀{l:List (List D)},(∀ x∈l,gY ss x)->∃ zs:List α,l=zs.map f/\∀ a∈zs,Q a
 | [],_=>⟨[],rfl,by simp⟩
 |x::l,h=>by
  obtain⟨zs,h1,h2⟩:=OR hf (l:=l) (fun y hy=>h y (gn _ hy))
  obtain⟨a,rfl,ha⟩:=hf x (h x iV)
  refine⟨a::zs,by rw[h1];rfl,fun m hm=>?_⟩
  rcases dS.1 hm with rfl | hm
  ·exact ha
  ·exact h2 m hm
def Rz (n:Int):Prop:=-9223372036854775808<=n/\n<=9223372036854775807
theorem bE {n:Int} (h1:-9223372036854775808<=n) (h2:n<=9223372036854775807):γ.wrap n=n:=IntWalk.i64_in n (by omega)
theorem O9 {σ:Sg} {E:EH} {v:V} {vs:List V} {x:Value} {xs:List Value} (h:Den σ E v x) (k:az σ E vs xs):az σ E (v::vs) (x::xs):=by
 simp only[az];exact⟨x,xs,rfl,h,k⟩
def RH (P:Program) (t:TypeId):Bool:=match P.underlying t with
 |some (.slice _)=>true
 |_=>false
theorem ad5 {P:Program} {w:World} {r:Reach} {base:Nat} {t:TypeId} {v:Value} (hs:RH P t=true) (h:Value.okWide P w r base t v):∃ a len cap,v= .slice a len cap:=by
 unfold RH at hs
 split at hs
 ·rename_i e he;exact WideShapes.okWide_slice he h
 ·cases hs
inductive FM where
 |mK
 |num
 |sl (s:Nat)
def tF:V->V
 | .lit k n=> .int k n
 | .any (.int k n)=> .int k n
 |v=>v
theorem JU {v:V} {σ:Sg} {E:EH} {x:Value} (h:Den σ E v x):Den σ E (tF v) x:=by
 unfold tF;split<;>first | exact h | (simp only[Den]at h ⊢;exact h)
theorem aco {v:V} {σ:Sg} {E:EH} {ys:List Value} (h:m_ σ E v ys):m_ σ E (tF v) ys:=by
 rcases h with ⟨y,rfl,h1,h2⟩ | ⟨m,cs,rfl,h1,h2⟩
 ·exact .inl ⟨y,rfl,h1,JU h2⟩
 ·exact .inr ⟨m,cs,rfl,h1,h2⟩
theorem m_.mono' {σ:Sg} {E E':EH} (h:E.le E') {v:V} {ys:List Value} (hd:m_ σ E v ys):m_ σ E' v ys:=by
 rcases hd with ⟨y,rfl,h1,h2⟩ | ⟨m,cs,rfl,h1,h2⟩
 ·have:=Den.mono (τ:=[]) h h2
  rw[gz]at this
  exact .inl ⟨y,rfl,h1,this⟩
 ·exact .inr ⟨m,cs,rfl,h1,h2.mono h⟩
def pG:List FM->List V->KB->(List V->KB->Prop)->Prop
 |_,[],kb,K=>K [] kb
 | [],v::vs,kb,K=>K (v::vs) kb
 | .mK::ms,v::vs,kb,K=>pG ms vs kb (fun us kb'=>K (v::us) kb')
 | .num::ms,v::vs,kb,K=>pG ms vs kb (fun us kb'=>K (tF v::us) kb')
 | .sl s::ms,v::vs,kb,K=>rv (.sl s) v kb (fun d kb'=>pG ms vs kb' (fun us j8=>K (.dat d::us) j8))
theorem we:∀{ms:List FM} {vs:List V} {kb:KB} {K:List V->KB->Prop},pG ms vs kb K->∀{σ:Sg} {E:EH} {W:World},Inv σ E kb W->∀{xs:List Value},aV σ E vs xs->
  ∃ E' kb' us,Step σ E kb W σ E' kb' W/\aV σ E' us xs/\K us kb'
 |ms,[],kb,K,h,σ,E,W,hi,xs,hd=>by
  have:K [] kb:=by cases ms with | nil=>exact h | cons m ms=>cases m<;>exact h
  exact⟨E,kb,[],Step.refl hi,hd,this⟩
 | [],v::vs,kb,K,h,σ,E,W,hi,xs,hd=>⟨E,kb,v::vs,Step.refl hi,hd,h⟩
 | .mK::ms,v::vs,kb,K,h,σ,E,W,hi,xs,hd=>by
  obtain⟨ys,zs,rfl,h1,h2⟩:=hd.iT
  simp only[pG]at h
  obtain⟨E1,fu,us,s1,d1,hK⟩:=we h hi h2
  have:=m_.mono' s1.le h1
  exact⟨E1,fu,v::us,s1,.cons this d1,hK⟩
 | .num::ms,v::vs,kb,K,h,σ,E,W,hi,xs,hd=>by
  obtain⟨ys,zs,rfl,h1,h2⟩:=hd.iT
  simp only[pG]at h
  obtain⟨E1,fu,us,s1,d1,hK⟩:=we h hi h2
  have:=m_.mono' s1.le (aco h1)
  exact⟨E1,fu,tF v::us,s1,.cons this d1,hK⟩
 | .sl s::ms,v::vs,kb,K,h,σ,E,W,hi,xs,hd=>by
  obtain⟨ys,zs,rfl,h1,h2⟩:=hd.iT
  simp only[pG]at h
  rcases h1 with ⟨y,rfl,h1,hy⟩ | ⟨m,cs,rfl,_,_⟩
  ·obtain⟨E1,fu,d,s1,r1,h⟩:=yh h hi hy
   have h2':=aV.mono (τ:=[]) s1.le h2
   rw[gz]at h2'
   obtain⟨E2,bY,us,s2,d2,hK⟩:=we h s1.inv h2'
   exact⟨E2,bY,.dat d::us,s1.trans s2,aV.ju (by simp only[Den];exact r1.mono s2.le) h1 d2,hK⟩
  ·exact h.elim
def yx (ms:List FM) (K:V->KB->Prop):V->KB->Prop:=fun r kb=>match r with
 | .agg l=>pG ms l kb (fun us kb'=>K (.agg us) kb')
 | .φ (.agg l::rest)=>pG ms l kb (fun us kb'=>K (.φ (.agg us::rest)) kb')
 |_=>False
def aat (ms:List FM) (S:aE):aE:=fun args kb K=>S args kb (yx ms K)
theorem aau {P:Program} {f:FuncId} {S:aE} (hS:aO P f S) (ms:List FM):aO P f (aat ms S):=fun args kb K h σ E W xs hi hd=>by
 refine(hS args kb _ h σ E W xs hi hd).mono ?_
 rintro e W' ⟨v,r,σs,E',bY,rfl,hst,eT,hK⟩
 unfold yx at hK
 split at hK<;>try exact hK.elim
 ·rename_i l
  simp only[Den]at eT
  obtain⟨vs,rfl,hl⟩:=eT
  obtain⟨E1,fu,us,s1,d1,hK⟩:=we hK hst.inv hl
  exact⟨_,_,_,_,_,rfl,hst.trans s1,by simp only[Den];exact⟨vs,rfl,d1⟩,hK⟩
 ·rename_i l rest
  simp only[Den]at eT
  obtain⟨vs,rfl,hl⟩:=eT
  simp only[az]at hl
  obtain⟨x,xs',rfl,hx,hr⟩:=hl
  simp only[Den]at hx
  obtain⟨cs,rfl,hl⟩:=hx
  obtain⟨E1,fu,us,s1,d1,hK⟩:=we hK hst.inv hl
  have:=az.mono (τ:=[]) s1.le hr
  rw[gz]at this
  exact⟨_,_,_,_,_,rfl,hst.trans s1,by simp only[Den];exact⟨_,rfl,.cons (by simp only[Den];exact⟨cs,rfl,d1⟩) this⟩,hK⟩
theorem Vv {P:Program} {X:cd} (hX:cx P X) (hm:P.follows .mixedOrders=true) (ms:List FM) {f:FuncId} {S:aE} (h:∀ args kb K,S args kb K->∃ T,aI P X T f args kb (yx ms (dp kb.length K))):aO P f S:=by
 have h0:aO P f (fun a k K0=>∃ T,aI P X T f a k K0):=eC hX hm fun _ _ _ h=>h
 have h2:=Eb (aau h0 ms)
 exact fun args kb K hs=>h2 args kb K (h args kb K hs)
def j0 (ms:List Mode) (K:V->KB->Prop):V->KB->Prop:=fun r kb=>match r with
 | .φ l=>te ms l kb (fun us kb'=>K (.φ us) kb')
 |r=>te ms [r] kb (fun us kb'=>match us with | [u]=>K u kb' | _=>False)
def aaB (ms:List Mode) (S:aE):aE:=fun args kb K=>S args kb (j0 ms K)
theorem Qo {P:Program} {f:FuncId} {S:aE} (hS:aO P f S) (ms:List Mode):aO P f (aaB ms S):=fun args kb K h σ E W xs hi hd=>by
 refine(hS args kb _ h σ E W xs hi hd).mono ?_
 rintro e W' ⟨v,r,σs,E',bY,rfl,hst,eT,hK⟩
 unfold j0 at hK
 split at hK
 ·rename_i l
  simp only[Den]at eT
  obtain⟨vs,rfl,hl⟩:=eT
  obtain⟨E1,fu,us,s1,d1,hK⟩:=yz hK hst.inv hl
  exact⟨_,_,_,_,_,rfl,hst.trans s1,by simp only[Den];exact⟨vs,rfl,d1⟩,hK⟩
 ·rename_i r _
  obtain⟨E1,fu,us,s1,d1,hK⟩:=yz hK hst.inv (ym eT)
  split at hK<;>try exact hK.elim
  exact⟨_,_,_,_,_,rfl,hst.trans s1,yn d1,hK⟩
def aaC (ms:List Mode) (S:aE):aE:=fun args kb K=>S args kb (j0 ms (dp kb.length K))
theorem B8 {P:Program} {f:FuncId} {S:aE} (hS:aO P f S) (ms:List Mode):aO P f (aaC ms S):=by
 have h2:=Eb (Qo hS ms)
 exact fun args kb K hs=>h2 args kb K hs
abbrev ik:=BitVec 32
def GR:ik:=3988292384#32
def cst (x:ik):ik:=(x >>> 1) ^^^ (if x.getLsbD 0 then GR else 0#32)
def kC:Nat->ik->ik
 | 0,x=>x
 |n+1,x=>cst (kC n x)
theorem ajb (a b c d:ik):(a ^^^ b) ^^^ (c ^^^ d)=(a ^^^ c) ^^^ (b ^^^ d):=by
 apply BitVec.eq_of_getLsbD_eq
 intro i hi
 simp only[BitVec.getLsbD_xor]
 cases a.getLsbD i<;>cases b.getLsbD i<;>cases c.getLsbD i<;>cases d.getLsbD i<;>rfl
theorem ZG (a b:ik):cst (a ^^^ b)=cst a ^^^ cst b:=by
 unfold cst
 rw[ajb,<- BitVec.ushiftRight_xor_distrib,BitVec.getLsbD_xor]
 congr 1
 cases a.getLsbD 0<;>cases b.getLsbD 0<;>decide
theorem OY (a b:ik):∀ n,kC n (a ^^^ b)=kC n a ^^^ kC n b
 | 0=>rfl
 |n+1=>by rw[kC,OY a b n,ZG];rfl
theorem OX {x:ik}:∀ n,(∀ i,i<n->x.getLsbD i=false)->kC n x=x >>> n
 | 0,_=>by simp [kC]
 |n+1,h=>by
  rw[kC,OX n (fun i hi=>h i (by omega)),cst]
  have:(x >>> n).getLsbD 0=false:=by rw[BitVec.getLsbD_ushiftRight];exact h _ (by omega)
  rw[this,<- BitVec.shiftRight_add]
  simp
theorem ZF (x:ik):kC 8 x=(x >>> 8) ^^^ kC 8 (x &&& 255#32):=by
 have hx:x=(x &&& 4294967040#32) ^^^ (x &&& 255#32):=by
  apply BitVec.eq_of_getLsbD_eq
  intro i hi
  have e:(4294967040#32).getLsbD i= !(255#32).getLsbD i:=by
   rw[show(4294967040#32)= ~~~ 255#32 by decide,BitVec.getLsbD_not];simp [hi]
  rw[BitVec.getLsbD_xor,BitVec.getLsbD_and,BitVec.getLsbD_and,e]
  cases x.getLsbD i<;>cases (255#32).getLsbD i<;>rfl
 have h1:kC 8 (x &&& 4294967040#32)=(x &&& 4294967040#32) >>> 8:=OX 8 (fun i hi=>by
  rw[BitVec.getLsbD_and]
  have:(4294967040#32).getLsbD i=false:=by
   have:i=0∨i=1∨i=2∨i=3∨i=4∨i=5∨i=6∨i=7:=by omega
   rcases this with rfl | rfl | rfl | rfl | rfl | rfl | rfl | rfl<;>decide
  rw[this,Bool.and_false])
 have h2:(x &&& 4294967040#32) >>> 8=x >>> 8:=by
  rw[BitVec.ushiftRight_and_distrib]
  rw[show(4294967040#32 >>> 8)=16777215#32 by decide]
  apply BitVec.eq_of_getLsbD_eq
  intro i hi
  rw[BitVec.getLsbD_and,BitVec.getLsbD_ushiftRight]
  by_cases h:i<24
  ·have:(16777215#32).getLsbD i=true:=by
    rw[show(16777215#32)=(BitVec.allOnes 24).setWidth 32 by decide]
    rw[BitVec.getLsbD_setWidth,BitVec.getLsbD_allOnes];simp [h,hi]
   rw[this,Bool.and_true]
  ·rw[BitVec.getLsbD_of_ge x (8+i) (by omega),Bool.false_and]
 conv=>lhs;rw[hx,OY]
 rw[h1,h2]
def U (x:ik):Int:=(x.toNat:Int)
theorem Np (x:ik):0<=U x/\U x<4294967296:=by unfold U;have:=x.isLt;omega
theorem Bf (x:ik):iM.wrap (U x)=U x:=IntWalk.u32_in _ (by have:=Np x;omega)
theorem vM (x:ik):BitVec.ofInt 32 (U x)=x:=by
 unfold U
 rw[BitVec.ofInt_natCast,BitVec.ofNat_toNat,BitVec.setWidth_eq]
theorem Nq (x:ik) (k:Nat):(U x).fdiv (2 ^ k:Nat)=U (x >>> k):=by
 unfold U
 rw[Int.fdiv_eq_ediv_of_nonneg _ (Int.natCast_nonneg _),BitVec.toNat_ushiftRight,Nat.shiftRight_eq_div_pow]
 exact(Int.natCast_ediv _ _).symm
theorem acu {n:Int} (h:0<=n/\n<4294967296):U (BitVec.ofInt 32 n)=n:=by
 obtain⟨k,rfl⟩:=Int.eq_ofNat_of_zero_le h.1
 unfold U
 show((BitVec.ofInt 32 (k:Int)).toNat:Int)=k
 rw[BitVec.ofInt_natCast,BitVec.toNat_ofNat]
 have:k % 2 ^ 32=k:=Nat.mod_eq_of_lt (by have:=h.2;omega)
 rw[this]
theorem X6 (x:ik):iM.wrap (iM.wrap (U (x &&& 1#32))*3988292384)=U (if x.getLsbD 0 then GR else 0#32):=by
 rw[Bf]
 have:x &&& 1#32=if x.getLsbD 0 then 1#32 else 0#32:=by
  have:=BitVec.and_one_eq_setWidth_ofBool_getLsbD (x:=x)
  rw[this]
  cases x.getLsbD 0<;>decide
 rw[this]
 cases x.getLsbD 0<;>decide
def bq (l:List Int):Prop:=∀ c∈l,0<=c/\c<256
def BD (x:ik) (c:Int):ik:=kC 8 (x ^^^ BitVec.ofInt 32 c)
def mM (x:ik) (l:List Int):ik:=l.foldl BD x
def eG (l:List Int):Int:=U (~~~ (mM 4294967295#32 l))
theorem ZB (x:ik) (l:List Int) (c:Int):mM x (l++[c])=BD (mM x l) c:=by simp [mM]
theorem ZA (x:ik) (l m:List Int):mM x (l++m)=mM (mM x l) m:=by simp [mM]
def vZ (i:Nat):Int:=U (kC 8 (BitVec.ofNat 32 i))
def uq (i:Nat):List Int:=(jb 256).map fun j=>if j<i then vZ j else 0
theorem Tj {n:Int} (h:0<=n/\n<256):(BitVec.ofInt 32 n).toNat=n.toNat:=by
 have:=acu (n:=n) (by omega)
 unfold U at this;omega
theorem Sc (y:ik):(y &&& 255#32).toNat=y.toNat % 256:=by
 rw[BitVec.toNat_and,show(255#32).toNat=2 ^ 8 - 1 by decide,Nat.and_two_pow_sub_one_eq_mod]
theorem ZD {x:ik} {n:Int} (h:0<=n/\n<256):ξ.wrap (((BitVec.ofInt 8 (ξ.wrap (U x)) ^^^ BitVec.ofInt 8 n).toNat:Nat):Int)=(((x ^^^ BitVec.ofInt 32 n) &&& 255#32).toNat:Int):=by
 have e1:BitVec.ofInt 8 (ξ.wrap (U x))=x.setWidth 8:=by
  apply BitVec.eq_of_toNat_eq
  rw[BitVec.toNat_ofInt,BitVec.toNat_setWidth]
  have:ξ.wrap (U x)=U x % 256:=by rw[IntKind.wrap_u8]
  rw[this];unfold U;omega
 have e2:BitVec.ofInt 8 n=(BitVec.ofInt 32 n).setWidth 8:=by
  apply BitVec.eq_of_toNat_eq
  rw[BitVec.toNat_ofInt,BitVec.toNat_setWidth,Tj h];omega
 rw[e1,e2,<- BitVec.setWidth_xor,Sc,BitVec.toNat_setWidth]
 exact IntWalk.u8_in _ (by omega)
theorem afG {x:ik} {n:Int} (h:0<=n/\n<256):(x ^^^ BitVec.ofInt 32 n) >>> 8=x >>> 8:=by
 rw[BitVec.ushiftRight_xor_distrib]
 have:BitVec.ofInt 32 n >>> 8=0#32:=by
  apply BitVec.eq_of_toNat_eq
  rw[BitVec.toNat_ushiftRight,Tj h,Nat.shiftRight_eq_div_pow]
  show n.toNat / 256=0
  omega
 rw[this,BitVec.xor_zero]
theorem ZE {x:ik} {n:Int} (h:0<=n/\n<256):iM.wrap (((BitVec.ofInt 32 ((U x).fdiv 256) ^^^ BitVec.ofInt 32 (U (kC 8 ((x ^^^ BitVec.ofInt 32 n) &&& 255#32)))).toNat:Nat):Int)=U (BD x n):=by
 have e1:=Nq x 8
 rw[show((2 ^ 8:Nat):Int)=256 from rfl]at e1
 rw[e1,vM,vM]
 unfold BD
 rw[ZF (x ^^^ BitVec.ofInt 32 n),afG h]
 exact Bf _
theorem X7 (x:ik):iM.wrap (((BitVec.ofInt 32 4294967295 ^^^ BitVec.ofInt 32 (U x)).toNat:Nat):Int)=U (~~~x):=by
 rw[vM,show BitVec.ofInt 32 4294967295=BitVec.allOnes 32 by decide,BitVec.allOnes_xor]
 exact Bf _
def bC (k n:Int):Int:=if n<1 then 0 else if k.tmod n<0 then k.tmod n+n else k.tmod n
theorem aev {k n:Int} (h:1<=n):0<=bC k n/\bC k n<n:=by
 have h1:=Int.tmod_lt_of_pos k (show 0<n by omega)
 have h2:-n<k.tmod n:=by
  have:=Int.lt_tmod_of_pos k (show 0<n by omega)
  exact this
 unfold bC
 rw[if_neg (by omega)]
 split<;>omega
def yQ (x:Int):List Int:=[ξ.wrap x,ξ.wrap (x.fdiv 256),ξ.wrap (x.fdiv 65536),ξ.wrap (x.fdiv 16777216)]
def ca (l:List Int):List Int:=l++yQ (eG l)
theorem pg (l:List Int):(ca l).length=l.length+4:=by simp [ca,yQ]
theorem abJ (x:Int):bq (yQ x):=fun c hc=>by
 simp only[yQ,dS,List.not_mem_nil,or_false]at hc
 rcases hc with rfl | rfl | rfl | rfl<;>(rw[IntKind.wrap_u8];omega)
theorem DR {l:List Int} (h:bq l):bq (ca l):=fun c hc=>by
 rcases dz.1 hc with hc | hc
 ·exact h c hc
 ·exact abJ _ c hc
theorem yi (l:List Int):0<=eG l/\eG l<4294967296:=Np _
def fM (l:List Int):Option (List Int):=if 4<=l.length/\ca (l.take (l.length - 4))=l then some (l.take (l.length - 4))else none
theorem wX {l:List Int}:fM (ca l)=some l:=by
 have h1:(ca l).take ((ca l).length - 4)=l:=by
  rw[pg,Nat.add_sub_cancel];unfold ca;rw[List.take_left]
 unfold fM
 rw[h1,if_pos ⟨by rw[pg];omega,rfl⟩]
end Vc
namespace Go.Proofs.YtfcjngcnifdmnaaGreat
open Vc Go
open Go.IntKind renaming i64->γ,u8->ξ,u32->iM
open Vc.V renaming any->δ,int->ε,sl->ζ,sb->ο,ptr->aj,φ->au,dat->aC,aa->aR,mp->aY,arr->bF,agg->fz
open Vc.D renaming val->η,sl->χ
open Go.Value renaming int->ν,map->kT,bool->mG,oneCell'->mH
open List renaming map->ae,drop->ax,take->ay,length_append->bn,getElem?_eq_getElem->bu,getElem?_eq_some_iff->bH,length_map->bT,take_length->cQ,length_take->cW,mem_singleton->da,replicate->dv,mem_append->dz,mem_map->dO,mem_cons->dS,Mem->dW,append_assoc->dX,getElem?_append_left->dY,take_of_length_le->eQ,getElem?_append_right->fk,getElem?_map->fy,mem_of_getElem?->fF,length_drop->gm,mem_cons_of_mem->gn,append_nil->gz,length_cons->gA,getD_eq_getElem?_getD->gO,getElem?_set_ne->gP,mem_append_left->gQ,length_singleton->gZ,drop_zero->iD,getElem?_eq_none->iE,getElem?_take_of_lt->iF,length_set->iG,getElem?_set_self->iN,mem_cons_self->iV,map_append->ja,range->jb,nil_append->jr,take_add_one->jt,flatten_cons->jF,getElem?_of_mem->jG,getElem?_drop->jW,map_cons->kv,length_nil->kP,mem_append_right->kQ,mem_filter->lu,ext_getElem?->mb,eq_nil_of_length_eq_zero->mD
open Vc.KO renaming row->ai,dead->aw,cells->aB,objs->fE
open Nat renaming le_refl->ar,zero_le->bj,beq->cX,zero_add->c9,eq_of_beq_eq_true->de,add_assoc->g_,lor->iW,lt_or_ge->kx,sub_zero->ly,le_trans->mc
open Option renaming some->bb,bind_eq_some_iff->lO,map->ng
open Int renaming toNat_natCast->cN,le_refl->dE
open Bool renaming and_eq_true->jo,not_eq_false'->kr,not_eq_true'->mA
set_option linter.unusedVariables false
set_option linter.unusedSimpArgs false
set_option maxRecDepth 100000
set_option maxHeartbeats 2000000
def aG:FuncId->Nat->Option LI:=fun _ _=>none
def JK:FuncId->Option du:=fun _=>none
noncomputable def X0:cd:=dM Tryz.prog JK aG 10
def Sm (l:List Int):Prop:=l.length<=1000000
def si (a b:List Int) (i:Nat):Prop:=i<=a.length/\a.take i=b.take i
abbrev K3 (k:IntKind) (a b:List Int):LI where
 α:={i:Nat // si a b i}
 live:=[0,1,5]
 st i:=([aC (.sl 1 (ints k a)),aC (.sl 1 (ints k b)),.int γ (i.1:Int)],[])
 μ i:=a.length - i.1
abbrev Hn (k:IntKind) (a b:List Int):LI where
 α:={i:Nat // si a b i}
 live:=[0,1,12,13]
 st i:=([aC (.sl 1 (ints k a)),aC (.sl 1 (ints k b)),.int γ (a.length:Int),.int γ (i.1:Int)],[])
 μ i:=a.length - i.1
def DQ (k:IntKind) (a b:List Int):FuncId->Nat->Option LI
 | 12,4=>some (K3 k a b)
 | 95,4=>some (Hn k a b)
 |_,_=>none
theorem ais (a b:List Int) (K:V->KB->Prop) (aq:
 (((↑(ints ξ a).length:Int) != (↑(ints ξ b).length:Int))=true->
 K (ο false) [])/\
 (((↑(ints ξ a).length:Int) != (↑(ints ξ b).length:Int))=false->
 At (K3 ξ a b) ([aC (χ 1 (ints ξ a)),aC (χ 1 (ints ξ b)),ε γ 0],[])/\
 ∀(i:{i:Nat // si a b i }),let θ:=(↑i.val:Int)<(↑(ints ξ a).length:Int);(decide (θ)=true->
 aA (↑i.val:Int)/\
 ∃(e:List D),(ints ξ a)[(↑i.val:Int).toNat]? =some e/\
 ∃(n:Int),e[0]? =some (η (ν ξ n))/\
 aA (↑i.val:Int)/\
 ∃(e:List D),(ints ξ b)[(↑i.val:Int).toNat]? =some e/\
 ∃(n_1:Int),e[0]? =some (η (ν ξ n_1))/\
 ((n != n_1)=true->
 K (ο false) [])/\
 ((n != n_1)=false->
 Nx (K3 ξ a b) i ([aC (χ 1 (ints ξ a)),aC (χ 1 (ints ξ b)),ε γ (γ.wrap ((↑i.val:Int)+1))],[])))/\
 (decide (θ)=false->
 K (ο true) []))
 ):aI Tryz.prog X0 (DQ ξ a b 12) 12 [aC (.sl 1 (ints ξ a)),aC (.sl 1 (ints ξ b))] [] K:=by apply Eq.mp (a:=aq);kernel_rfl
theorem ahI (a b:List Int) (K:V->KB->Prop) (aq:
 (((↑(ints ξ a).length:Int) != (↑(ints ξ b).length:Int))=true->
 K (ο false) [])/\
 (((↑(ints ξ a).length:Int) != (↑(ints ξ b).length:Int))=false->
 At (Hn ξ a b) ([aC (χ 1 (ints ξ a)),aC (χ 1 (ints ξ b)),ε γ (↑(ints ξ a).length:Int),ε γ 0],[])/\
 ∀(i:{i:Nat // si a b i }),(decide ((↑i.val:Int)<(↑a.length:Int))=true->
 aA (↑i.val:Int)/\
 ∃(e:List D),(ints ξ a)[(↑i.val:Int).toNat]? =some e/\
 ∃(n:Int),e[0]? =some (η (ν ξ n))/\
 aA (↑i.val:Int)/\
 ∃(e:List D),(ints ξ b)[(↑i.val:Int).toNat]? =some e/\
 ∃(n_1:Int),e[0]? =some (η (ν ξ n_1))/\
 ((n != n_1)=true->
 K (ο false) [])/\
 ((n != n_1)=false->
 Nx (Hn ξ a b) i ([aC (χ 1 (ints ξ a)),aC (χ 1 (ints ξ b)),ε γ (↑a.length:Int),ε γ (γ.wrap ((↑i.val:Int)+1))],[])))/\
 (decide ((↑i.val:Int)<(↑a.length:Int))=false->
 K (ο true) []))
 ):aI Tryz.prog X0 (DQ ξ a b 95) 95 [aC (.sl 1 (ints ξ a)),aC (.sl 1 (ints ξ b))] [] K:=by apply Eq.mp (a:=aq);kernel_rfl
theorem ahr (a:List (List D)) (K:V->KB->Prop) (aq:
 ∀(b:Bool),(b=true->
 a.length=0)->
 (b=true->
 K (δ (Value.slice none 0 0)) [])/\
 (b=false->
 True/\
 0<=0/\
 (0+a.length)*1<=140737488355328/\
 K (ζ 0 0 (0+a.length)) [ai 5 1 ([]++a)])
 ):aI Tryz.prog X0 (aG 55) 55 [aC (.sl 1 a)] [] K:=by apply Eq.mp (a:=aq);kernel_rfl
theorem aii (k n:Int) (K:V->KB->Prop) (aq:
 (decide (n<1)=true->
 K (ε γ 0) [])/\
 (decide (n<1)=false->
 (n=0->
 False)/\
 (decide (k.tmod n<0)=true->
 K (ε γ (γ.wrap (k.tmod n+n))) [])/\
 (decide (k.tmod n<0)=false->
 K (ε γ (k.tmod n)) []))
 ):aI Tryz.prog X0 (aG 20) 20 [.int γ k,.int γ n] [] K:=by apply Eq.mp (a:=aq);kernel_rfl
theorem mixed:Tryz.prog.follows .mixedOrders=true:=by kernel_rfl
theorem JL:dD Tryz.prog JK:=fun f k h=>by cases h
theorem ga:cx Tryz.prog X0:=dP mixed JL aG 10
def xP (k:IntKind):aE:=fun args kb K=>match args,kb with
 | [aC (.sl 1 A),aC (.sl 1 B)],[]=>∃ a b:List Int,A=ints k a/\B=ints k b/\a.length<=maxLen/\K (ο (decide (a=b))) []
 |_,_=>False
def xO (k:IntKind):aE:=fun args kb K=>match args,kb with
 | [aC (.sl 1 A),aC (.sl 1 B)],[]=>∃ a b:List Int,A=ints k a/\B=ints k b/\Sm a/\K (ο (decide (a=b))) []
 |_,_=>False
abbrev AT:aE:=xO ξ
theorem Va {f:FuncId} {k:IntKind} (h:aO Tryz.prog f (xP k)):aO Tryz.prog f (xO k):=fun args kb K hs=>h args kb K (by
 unfold xO at hs;split at hs<;>try exact hs.elim
 obtain⟨a,b,rfl,rfl,hl,hk⟩:=hs
 unfold Sm at hl
 exact⟨a,b,rfl,rfl,by simp only[maxLen];omega,hk⟩)
theorem U_ {a b:List Int} {i:Nat} (h:si a b i) (ha:i<a.length) (hb:i<b.length) (he:a[i]=b[i]):si a b (i+1):=by
 refine⟨by omega,?_⟩
 rw[jt,jt,h.2,bu ha,bu hb,he]
theorem adJ:aO Tryz.prog 12 (xP ξ):=eC ga mixed (fun args kb K h=>by
 unfold xP at h;split at h<;>try exact h.elim
 obtain⟨a,b,rfl,rfl,pO,h⟩:=h
 simp only[maxLen]at pO
 refine⟨DQ ξ a b 12,ais a b K ⟨fun hc=>?_,fun hc=>⟨At.mk' ⟨0,bj _,rfl⟩ rfl,?_⟩⟩⟩
 ·simp only[bi,bne_iff_ne,ne_eq]at hc
  rw[decide_eq_false (fun e=>hc (by rw[e]))]at h;exact h
 simp only[bi,bne_eq_false_iff_eq]at hc
 have hl:a.length=b.length:=by omega
 rintro⟨i,hi,ht⟩
 simp only[bi]at ht ⊢
 refine⟨fun fI=>?_,fun fI=>?_⟩
 ·simp only[decide_eq_true_eq]at fI
  have e2:((i:Nat):Int).toNat=i:=by omega
  have hq:a[i]? =some a[i]:=bu (by omega)
  have od:b[i]? =some b[i]:=bu (by omega)
  have kW:aA (i:Int):=by unfold aA;omega
  have w2:=bE (n:=(i:Int)+1) (by omega) (by omega)
  refine⟨kW,[η (.int ξ a[i])],by rw[e2,kY,hq];rfl,a[i],rfl,kW,[η (.int ξ b[i])],by rw[e2,kY,od];rfl,b[i],rfl,fun hx=>?_,fun hx=>?_⟩
  ·simp only[bne_iff_ne,ne_eq]at hx
   rw[decide_eq_false (fun e=>hx (by subst e;rfl))]at h;exact h
  ·simp only[bne_eq_false_iff_eq]at hx
   rw[w2]
   exact Nx.mk' (⟨i+1,U_ ⟨hi,ht⟩ (by omega) (by omega) hx⟩:{i:Nat // si a b i}) rfl (by show a.length - (i+1)<a.length - i;omega)
 ·simp only[decide_eq_false_iff_not]at fI
  have:i=a.length:=by omega
  subst this
  rw[cQ,hl,cQ]at ht
  rw[decide_eq_true ht]at h;exact h)
theorem J_:aO Tryz.prog 12 (xO ξ):=Va adJ
theorem acN:aO Tryz.prog 95 (xP ξ):=eC ga mixed (fun args kb K h=>by
 unfold xP at h;split at h<;>try exact h.elim
 obtain⟨a,b,rfl,rfl,pO,h⟩:=h
 simp only[maxLen]at pO
 refine⟨DQ ξ a b 95,ahI a b K ⟨fun hc=>?_,fun hc=>⟨?_,?_⟩⟩⟩
 ·simp only[bi,bne_iff_ne,ne_eq]at hc
  rw[decide_eq_false (fun e=>hc (by rw[e]))]at h;exact h
 ·rw[bi];exact At.mk' (⟨0,bj _,rfl⟩:{i:Nat // si a b i}) rfl
 simp only[bi,bne_eq_false_iff_eq]at hc
 have hl:a.length=b.length:=by omega
 rintro⟨i,hi,ht⟩
 simp only[bi]at ht ⊢
 refine⟨fun fI=>?_,fun fI=>?_⟩
 ·simp only[decide_eq_true_eq]at fI
  have e2:((i:Nat):Int).toNat=i:=by omega
  have hq:a[i]? =some a[i]:=bu (by omega)
  have od:b[i]? =some b[i]:=bu (by omega)
  have kW:aA (i:Int):=by unfold aA;omega
  have w2:=bE (n:=(i:Int)+1) (by omega) (by omega)
  refine⟨kW,[η (.int ξ a[i])],by rw[e2,kY,hq];rfl,a[i],rfl,kW,[η (.int ξ b[i])],by rw[e2,kY,od];rfl,b[i],rfl,fun hx=>?_,fun hx=>?_⟩
  ·simp only[bne_iff_ne,ne_eq]at hx
   rw[decide_eq_false (fun e=>hx (by subst e;rfl))]at h;exact h
  ·simp only[bne_eq_false_iff_eq]at hx
   rw[w2]
   exact Nx.mk' (⟨i+1,U_ ⟨hi,ht⟩ (by omega) (by omega) hx⟩:{i:Nat // si a b i}) rfl (by show a.length - (i+1)<a.length - i;omega)
 ·simp only[decide_eq_false_iff_not]at fI
  have:i=a.length:=by omega
  subst this
  rw[cQ,hl,cQ]at ht
  rw[decide_eq_true ht]at h;exact h)
theorem acM:aO Tryz.prog 95 (xO ξ):=Va acN
def AC:aE:=fun args kb K=>match args,kb with
 | [aC (.sl 1 A)],[]=>A.length<=140737488355328/\(A=[]->K (δ (.slice none 0 0)) [])/\K (.sl 0 0 A.length) [ai 5 1 A]
 |_,_=>False
def EZ:aE:=fun args kb K=>match args,kb with
 | [aC (.sl 1 A)],[]=>A.length<=140737488355328/\K (.sl 0 0 A.length) [ai 5 1 A]
 |_,_=>False
theorem Zr {f:FuncId} (h:aO Tryz.prog f AC):aO Tryz.prog f EZ:=fun args kb K hs=>JF h [.slot 0 5 1] args kb K (by
 unfold EZ at hs;split at hs<;>try exact hs.elim
 refine⟨hs.1,fun e=>?_,hs.2⟩
 subst e
 exact hs.2)
abbrev X1:aE:=AC
theorem Tp:aO Tryz.prog 55 AC:=eC ga mixed (fun args kb K h=>by
 unfold AC at h;split at h<;>try exact h.elim
 rename_i A
 refine⟨aG 55,ahr A K (fun b hb=>⟨fun e=>h.2.1 (List.length_eq_zero_iff.1 (hb e)),fun e=>⟨trivial,ar _,by omega,?_⟩⟩)⟩
 have:=h.2.2
 simpa using this)
def AN:aE:=fun args kb K=>match args,kb with
 | [.int γ k,.int γ n],[]=>Rz n/\K (.int γ (bC k n)) []
 |_,_=>False
theorem J9:aO Tryz.prog 20 AN:=eC ga mixed (fun args kb K h=>by
 unfold AN at h;split at h<;>try exact h.elim
 rename_i k n
 obtain⟨hn,h⟩:=h
 unfold Rz at hn
 unfold bC at h
 refine⟨aG 20,aii k n K ⟨fun hc=>?_,fun hc=>⟨?_,fun h2=>?_,fun h2=>?_⟩⟩⟩
 ·rw[if_pos (by simpa using hc)]at h;exact h
 ·have:¬ n<1:=by simpa using hc
  omega
 ·have h1:¬ n<1:=by simpa using hc
  have h2:k.tmod n<0:=by simpa using h2
  have h3:-n<k.tmod n:=Int.lt_tmod_of_pos k (by omega)
  rw[if_neg h1,if_pos h2]at h
  rw[bE (by omega) (by omega)];exact h
 ·have h1:¬ n<1:=by simpa using hc
  have h2:¬ k.tmod n<0:=by simpa using h2
  rw[if_neg h1,if_neg h2]at h;exact h)
def D7 (i:Nat):Prop:=i<=256
def Ed (k:Nat):Prop:=k<=8
abbrev LS (tb:Nat->List D) (h':Nat->Nat->Int) (i:Nat):LI where
 α:={k:Nat // Ed k}
 live:=[1,2,3,5,10]
 st k:=([aj 0 0,.int γ (i:Int),.int iM (h' i k.1),.int γ (i:Int),.int γ (k.1:Int)],[aB [bF 256 (tb i)]])
 μ k:=8 - k.1
abbrev Lz (tb:Nat->List D) (h':Nat->Nat->Int):LI where
 α:={i:Nat // D7 i}
 live:=[1,5]
 st i:=([aj 0 0,.int γ (i.1:Int)],[aB [bF 256 (tb i.1)]])
 μ i:=256 - i.1
 sub i:=fun r=>match r with | 7=>some (LS tb h' i.1) | _=>none
def VL (tb:Nat->List D) (h':Nat->Nat->Int):FuncId->Nat->Option LI
 | 105,3=>some (Lz tb h')
 |_,_=>none
def pj (i:Nat):List D:=aT iM (uq i)
def sr (i k:Nat):Int:=U (kC k (BitVec.ofNat 32 i))
def Fv (ts:List D):aE:=fun args kb K=>match args,kb with
 | [],[]=>K (aj 0 0) [aB [bF 256 ts]]
 |_,_=>False
def GS (ts:List D):FuncId->Option du
 | 105=>some ⟨[],Fv ts⟩
 |_=>none
noncomputable def XC (ts:List D):cd:=dM Tryz.prog (GS ts) aG 10
def bO (l:List Int):List D:=[.sl 1 (ints ξ l)]
def r_ (n:Nat) (i:Nat):Prop:=i<=n
abbrev Gb (ts:List D) (ls:List (List Int)) (xv:Nat->Nat->Int) (j:Nat):LI where
 α:={i:Nat // r_ (ls.getD j []).length i}
 live:=[3,4,10,11,12,16,17,18]
 st i:=([aj 0 0,.int iM (xv j i.1),aC (.sl 1 (ls.map bO)),.int γ (ls.length:Int),.int γ (j:Int),aC (.sl 1 (ints ξ (ls.getD j []))),.int γ ((ls.getD j []).length:Int),.int γ (i.1:Int)],[aB [bF 256 ts]])
 μ i:=(ls.getD j []).length - i.1
abbrev FT (ts:List D) (ls:List (List Int)) (xv:Nat->Nat->Int):LI where
 α:={j:Nat // r_ ls.length j}
 live:=[3,4,10,11,12]
 st j:=([aj 0 0,.int iM (xv j.1 0),aC (.sl 1 (ls.map bO)),.int γ (ls.length:Int),.int γ (j.1:Int)],[aB [bF 256 ts]])
 μ j:=ls.length - j.1
 sub j:=fun r=>match r with | 7=>some (Gb ts ls xv j.1) | _=>none
def OW (ts:List D) (ls:List (List Int)) (xv:Nat->Nat->Int):FuncId->Nat->Option LI
 | 78,4=>some (FT ts ls xv)
 |_,_=>none
theorem aiD (tb:Nat->List D) (h':Nat->Nat->Int) (K:V->KB->Prop) (aq:
 At (Lz tb h') ([aj 0 0,ε γ 0],[aB [bF 256 (dv 256 (η (ν iM 0)))]])/\
 ∀(i:{i:Nat // D7 i }),let ω:KB:=[aB [bF 256 (tb i.val)]];let θ:=ε γ (↑i.val:Int);(decide ((↑i.val:Int)<256)=true->
 At (LS tb h' i.val) ([aj 0 0,θ,ε iM (iM.wrap (↑i.val:Int)),θ,ε γ 0],ω)/\
 ∀(i_1:{k:Nat // Ed k }),(decide ((↑i_1.val:Int)<8)=true->
 Nx (LS tb h' i.val) i_1 ([aj 0 0,θ,ε iM (iM.wrap (↑(BitVec.ofInt 32 ((h' i.val i_1.val).fdiv 2) ^^^ BitVec.ofInt 32 (iM.wrap (iM.wrap (↑(BitVec.ofInt 32 (h' i.val i_1.val) &&& BitVec.ofInt 32 1).toNat:Int)*3988292384))).toNat:Int)),θ,ε γ (γ.wrap ((↑i_1.val:Int)+1))],ω))/\
 (decide ((↑i_1.val:Int)<8)=false->
 br (↑i.val:Int) 256/\
 (↑i.val:Int).toNat*1+1<=256/\
 Nx (Lz tb h') i ([aj 0 0,ε γ (γ.wrap ((↑i.val:Int)+1))],[aB [bF 256 (splice (tb i.val) ((↑i.val:Int).toNat*1) [η (ν iM (h' i.val i_1.val))])]])))/\
 (decide ((↑i.val:Int)<256)=false->
 K (aj 0 0) ω)
 ):aI Tryz.prog X0 (VL tb h' 105) 105 [] [] K:=by apply Eq.mp (a:=aq);kernel_rfl
theorem aiA (ts:List D) (ls:List (List Int)) (xv:Nat->Nat->Int) (K:V->KB->Prop) (aq:
 let av:=ε γ (↑ls.length:Int);let ω:KB:=[aB [bF 256 ts]];let θ:=aC (χ 1 (ae bO ls));At (FT ts ls xv) ([aj 0 0,ε iM 4294967295,θ,ε γ (↑(ae bO ls).length:Int),ε γ 0],ω)/\
 ∀(i:{j:Nat // r_ ls.length j }),(decide ((↑i.val:Int)<(↑ls.length:Int))=true->
 aA (↑i.val:Int)/\
 ∃(e:List D),(ae bO ls)[(↑i.val:Int).toNat]? =some e/\
 ∃(l:List (List D)),e[0]? =some (χ 1 l)/\
 At (Gb ts ls xv i.val) ([aj 0 0,ε iM (xv i.val 0),θ,av,ε γ (↑i.val:Int),aC (χ 1 l),ε γ (↑l.length:Int),ε γ 0],ω)/\
 ∀(i_1:{i_1:Nat // r_ (ls.getD i.val []).length i_1 }),let aN:=(↑i_1.val:Int)<(↑(ls.getD i.val []).length:Int);(decide (aN)=true->
 aA (↑i_1.val:Int)/\
 ∃(e:List D),(ints ξ (ls.getD i.val []))[(↑i_1.val:Int).toNat]? =some e/\
 ∃(n:Int),e[0]? =some (η (ν ξ n))/\
 br (ξ.wrap (↑(BitVec.ofInt 8 (ξ.wrap (xv i.val i_1.val)) ^^^ BitVec.ofInt 8 n).toNat:Int)) 256/\
 ∃(n_1:Int),ts[(ξ.wrap (↑(BitVec.ofInt 8 (ξ.wrap (xv i.val i_1.val)) ^^^ BitVec.ofInt 8 n).toNat:Int)).toNat*1]? =some (η (ν iM n_1))/\
 Nx (Gb ts ls xv i.val) i_1 ([aj 0 0,ε iM (iM.wrap (↑(BitVec.ofInt 32 ((xv i.val i_1.val).fdiv 256) ^^^ BitVec.ofInt 32 n_1).toNat:Int)),θ,av,ε γ (↑i.val:Int),aC (χ 1 (ints ξ (ls.getD i.val []))),ε γ (↑(ls.getD i.val []).length:Int),ε γ (γ.wrap ((↑i_1.val:Int)+1))],ω))/\
 (decide (aN)=false->
 Nx (FT ts ls xv) i ([aj 0 0,ε iM (xv i.val i_1.val),θ,av,ε γ (γ.wrap ((↑i.val:Int)+1))],ω)))/\
 (decide ((↑i.val:Int)<(↑ls.length:Int))=false->
 K (ε iM (iM.wrap (↑(BitVec.ofInt 32 4294967295 ^^^ BitVec.ofInt 32 (xv i.val 0)).toNat:Int))) [])
 ):aI Tryz.prog (XC ts) (OW ts ls xv 78) 78 [aC (.sl 1 (ls.map bO))] [] K:=by apply Eq.mp (a:=aq);kernel_rfl
theorem ZC {i:Nat} (h:i<256):splice (uq i) (i*1) [vZ i]=uq (i+1):=by
 unfold splice uq
 apply mb
 intro j
 simp only[Nat.mul_one,gA,kP]
 have hl:((jb 256).map fun j=>if j<i then vZ j else 0).length=256:=by simp
 rcases Nat.lt_trichotomy j i with hj | rfl | hj
 ·rw[dX,dY (by rw[cW,hl];omega),iF hj]
  simp only[fy,List.getElem?_range (show j<256 by omega),Option.map_some,if_pos hj,if_pos (show j<i+1 by omega)]
 ·rw[dX,fk (by rw[cW,hl];omega)]
  rw[cW,hl,show j - min j 256=0 by omega]
  simp only[fy,List.getElem?_range h,Option.map_some,if_pos (show j<j+1 by omega)]
  rfl
 ·rw[dX,fk (by rw[cW,hl];omega)]
  rw[cW,hl,fk (by simp;omega),jW]
  rw[show i+1+(j - min i 256 - [vZ i].length)=j by simp;omega]
  by_cases h2:j<256
  ·simp only[fy,List.getElem?_range h2,Option.map_some,if_neg (show ¬ j<i by omega),if_neg (show ¬ j<i+1 by omega)]
  ·rw[iE (by rw[hl];omega),iE (by simp;omega)]
theorem agy {i:Nat} (h:i<256):splice (pj i) (i*1) [η (.int iM (sr i 8))]=pj (i+1):=by
 have:splice (aT iM (uq i)) (i*1) (aT iM [vZ i])=aT iM (splice (uq i) (i*1) [vZ i]):=by simp [splice,aT]
 unfold pj
 rw[<- ZC h,<- this];rfl
theorem adQ:aO Tryz.prog 105 (Fv (pj 256)):=eC ga mixed (fun args kb K h=>by
 unfold Fv at h;split at h<;>try exact h.elim
 refine⟨VL pj sr 105,aiD pj sr K ⟨At.mk' ⟨0,bj _⟩ rfl,?_⟩⟩
 rintro⟨i,hi⟩
 simp only[D7]at hi ⊢
 refine⟨fun hc=>?_,fun hc=>?_⟩
 ·simp only[decide_eq_true_eq]at hc
  have hi2:i<256:=by omega
  have w1:iM.wrap (i:Int)=sr i 0:=by
   unfold sr U kC
   rw[BitVec.toNat_ofNat,Nat.mod_eq_of_lt (by omega)]
   exact IntWalk.u32_in _ (by omega)
  rw[w1]
  refine⟨At.mk' ⟨0,bj _⟩ rfl,?_⟩
  rintro⟨k,hk⟩
  simp only[Ed]at hk ⊢
  refine⟨fun fI=>?_,fun fI=>?_⟩
  ·simp only[decide_eq_true_eq]at fI
   have w2:=bE (n:=(k:Int)+1) (by omega) (by omega)
   have e:iM.wrap (((BitVec.ofInt 32 ((sr i k).fdiv 2) ^^^ BitVec.ofInt 32 (iM.wrap (iM.wrap (((BitVec.ofInt 32 (sr i k) &&& BitVec.ofInt 32 1).toNat:Int))*3988292384))).toNat:Int))=sr i (k+1):=by
    unfold sr
    rw[vM,show(BitVec.ofInt 32 1)=1#32 by decide]
    have h1:=X6 (kC k (BitVec.ofNat 32 i))
    unfold U at h1
    rw[h1]
    have h2:=Nq (kC k (BitVec.ofNat 32 i)) 1
    rw[show((2 ^ 1:Nat):Int)=2 from rfl]at h2
    rw[h2,vM]
    have h3:=vM (if(kC k (BitVec.ofNat 32 i)).getLsbD 0 then GR else 0#32)
    unfold U at h3
    rw[h3]
    exact Bf _
   rw[e,w2]
   exact Nx.mk' (⟨k+1,by show k+1<=8;omega⟩:{x:Nat // Ed x}) rfl (by show 8 - (k+1)<8 - k;omega)
  ·simp only[decide_eq_false_iff_not]at fI
   have hk8:k=8:=by omega
   subst hk8
   have e2:((i:Nat):Int).toNat=i:=by omega
   have w2:=bE (n:=(i:Int)+1) (by omega) (by omega)
   refine⟨by unfold br;omega,by omega,?_⟩
   rw[e2,w2,agy hi2]
   exact Nx.mk' (⟨i+1,by show i+1<=256;omega⟩:{x:Nat // D7 x}) rfl (by show 256 - (i+1)<256 - i;omega)
 ·simp only[decide_eq_false_iff_not]at hc
  have:i=256:=by omega
  subst this;exact h)
theorem Zz:dD Tryz.prog (GS (pj 256)):=fun f k h=>by
 unfold GS at h
 split at h<;>first | (cases h;exact adQ) | cases h
theorem X9:cx Tryz.prog (XC (pj 256)):=dP mixed Zz aG 10
abbrev Cw:ik:=4294967295#32
def tP (ls:List (List Int)) (j i:Nat):Int:=U (mM (mM Cw (ls.take j).flatten) ((ls.getD j []).take i))
def XE (ls:List (List Int)):Prop:=ls.length<=1000000/\∀ l∈ls,bq l/\Sm l
def Fu:aE:=fun args kb K=>match args,kb with
 | [aC (.sl 1 L)],[]=>∃ ls:List (List Int),L=ls.map bO/\XE ls/\K (.int iM (eG ls.flatten)) []
 |_,_=>False
theorem agz {i:Nat} (h:i<256):(pj 256)[i]? =some (η (.int iM (U (kC 8 (BitVec.ofNat 32 i))))):=by
 unfold pj uq aT
 simp only[fy,List.getElem?_range h,Option.map_some,if_pos h]
 rfl
theorem adO:aO Tryz.prog 78 Fu:=eC X9 mixed (fun args kb K h=>by
 unfold Fu at h;split at h<;>try exact h.elim
 obtain⟨ls,rfl,hb,h⟩:=h
 have cz:=hb.1
 refine⟨OW (pj 256) ls (tP ls) 78,aiA (pj 256) ls (tP ls) K ⟨?_,?_⟩⟩
 ·simp only[bT]
  exact At.mk' ⟨0,bj _⟩ rfl
 rintro⟨j,hj⟩
 simp only[r_]at hj ⊢
 refine⟨fun hc=>?_,fun hc=>?_⟩
 ·simp only[decide_eq_true_eq]at hc
  have e2:((j:Nat):Int).toNat=j:=by omega
  have hq:ls[j]? =some ls[j]:=bu (by omega)
  have hg:ls.getD j []=ls[j]:=by rw[gO,hq];rfl
  have kW:aA (j:Int):=by unfold aA;omega
  refine⟨kW,bO ls[j],by rw[e2,fy,hq];rfl,ints ξ ls[j],rfl,?_,?_⟩
  ·rw[bi,<- hg]
   exact At.mk' (⟨0,bj _⟩:{i:Nat // r_ (ls.getD j []).length i}) rfl
  rintro⟨i,hi⟩
  simp only[r_]at hi ⊢
  refine⟨fun fI=>?_,fun fI=>?_⟩
  ·simp only[decide_eq_true_eq]at fI
   have e3:((i:Nat):Int).toNat=i:=by omega
   have hil:i<ls[j].length:=by rw[<- hg];omega
   have od:(ls.getD j [])[i]? =some ls[j][i]:=by rw[hg];exact bu hil
   have hby:0<=ls[j][i]/\ls[j][i]<256:=(hb.2 ls[j] (List.getElem_mem _)).1 _ (List.getElem_mem _)
   have abc:aA (i:Int):=by unfold aA;omega
   have pO:ls[j].length<=1000000:=(hb.2 ls[j] (List.getElem_mem _)).2
   have w2:=bE (n:=(i:Int)+1) (by omega) (by omega)
   refine⟨abc,[η (.int ξ ls[j][i])],by rw[e3,kY,od];rfl,ls[j][i],rfl,?_⟩
   unfold tP
   rw[ZD hby]
   have hlt:((mM (mM Cw (ls.take j).flatten) ((ls.getD j []).take i) ^^^ BitVec.ofInt 32 ls[j][i]) &&& 255#32).toNat<256:=by rw[Sc];omega
   refine⟨by unfold br;omega,_,by rw[cN,Nat.mul_one,agz hlt],?_⟩
   rw[BitVec.ofNat_toNat,BitVec.setWidth_eq,ZE hby,w2]
   refine Nx.mk' (⟨i+1,by show i+1<=(ls.getD j []).length;omega⟩:{i:Nat // r_ (ls.getD j []).length i}) ?_ (by show(ls.getD j []).length - (i+1)<(ls.getD j []).length - i;omega)
   have ht:(ls.getD j []).take (i+1)=(ls.getD j []).take i++[ls[j][i]]:=by rw[jt,od];rfl
   show _=(([aj 0 0,.int iM (U (mM (mM Cw (ls.take j).flatten) ((ls.getD j []).take (i+1)))),_,_,_,_,_,_],_):List V×KB)
   rw[ht,ZB]
   rfl
  ·simp only[decide_eq_false_iff_not]at fI
   have hil:i=(ls.getD j []).length:=by omega
   subst hil
   have w2:=bE (n:=(j:Int)+1) (by omega) (by omega)
   rw[w2]
   refine Nx.mk' (⟨j+1,by show j+1<=ls.length;omega⟩:{j:Nat // r_ ls.length j}) ?_ (by show ls.length - (j+1)<ls.length - j;omega)
   have ht:(ls.take (j+1)).flatten=(ls.take j).flatten++ls.getD j []:=by rw[jt,hq,hg,List.flatten_append];simp
   have e:tP ls j (ls.getD j []).length=tP ls (j+1) 0:=by
    unfold tP
    rw[cQ,ht,ZA];rfl
   rw[e];rfl
 ·simp only[decide_eq_false_iff_not]at hc
  have:j=ls.length:=by omega
  subst this
  have e:tP ls ls.length 0=U (mM Cw ls.flatten):=by
   unfold tP;rw[cQ,List.take_zero];rfl
  rw[e,X7]
  exact h)
def D6:FuncId->Option du
 | 78=>some ⟨[.fL 1],Fu⟩
 | 12=>some ⟨[.fL 1,.fL 1],AT⟩
 | 95=>some ⟨[.fL 1,.fL 1],AT⟩
 | 55=>some ⟨[.fL 1],X1⟩
 | 20=>some ⟨[],AN⟩
 |_=>none
noncomputable def XS:cd:=dM Tryz.prog D6 aG 10
def AU:aE:=fun args kb K=>match args,kb with
 | [aC (.sl 1 A)],[]=>∃ l:List Int,A=ints ξ l/\bq l/\l.length<=900000/\K (.sl 0 0 (l.length+4)) [ai 5 1 (ints ξ (ca l))]
 |_,_=>False
def AL:aE:=fun args kb K=>match args,kb with
 | [aC (.sl 1 A)],[]=>∃ l:List Int,A=ints ξ l/\bq l/\l.length<=900000/\(fM l=none->K (.φ [δ (.slice none 0 0),ο false]) [])/\
  ∀ m,fM l=some m->(m=[]->K (.φ [δ (.slice none 0 0),ο true]) [])/\K (.φ [.sl 0 0 m.length,ο true]) [ai 5 1 (ints ξ m)]
 |_,_=>False
def DS:FuncId->Option du
 | 67=>some ⟨[.fL 1],AU⟩
 |f=>D6 f
noncomputable def XO:cd:=dM Tryz.prog DS aG 10
theorem aie (l:List Int) (K:V->KB->Prop) (aq:
 let av:=K (au [δ (Value.slice none 0 0),ο false]) [];let θ:=(γ.wrap ((↑(ints ξ l).length:Int) - 4));let aN:=θ.toNat<=(ints ξ l).length;let ω:=(ay θ.toNat (ints ξ l));(decide (γ.wrap ((↑(ints ξ l).length:Int) - 4)<0)=true->
 av)/\
 (decide (γ.wrap ((↑(ints ξ l).length:Int) - 4)<0)=false->
 True/\
 aA θ/\
 0<=θ.toNat/\
 aN/\
 ∃(l_1:List Int),ax 0 ω=ints ξ l_1/\
 (∀(c:Int),dW c l_1->
 0<=c/\
 c<256)/\
 l_1.length<=900000/\
 (l_1.length+4<=(ints ξ (ca l_1)).length/\
 True/\
 True)/\
 ∃(a:List Int),∃(b:List Int),ax 0 (ay (l_1.length+4) (ints ξ (ca l_1)))=ints ξ a/\
 ints ξ l=ints ξ b/\
 a.length.le 1000000/\
 True/\
 ((!decide (a=b))=true->
 av)/\
 ((!decide (a=b))=false->
 True/\
 aA θ/\
 0<=θ.toNat/\
 aN/\
 (ax 0 ω).length<=140737488355328/\
 (ax 0 ω=[]->
 K (au [δ (Value.slice none 0 0),ο true]) [])/\
 K (au [ζ 0 0 (ax 0 ω).length,ο true]) [ai 5 1 (ax 0 ω)]))
 ):aI Tryz.prog XO (aG 64) 64 [aC (.sl 1 (ints ξ l))] [] K:=by apply Eq.mp (a:=aq);kernel_rfl
theorem ait (A:List (List D)) (K:V->KB->Prop) (aq:
 (1<=1/\
 True)/\
 ∃(ls:List (List Int)),let θ:=[[η (ν ξ (ξ.wrap (eG ls.flatten)))],[η (ν ξ (ξ.wrap ((eG ls.flatten).fdiv 256)))],[η (ν ξ (ξ.wrap ((eG ls.flatten).fdiv 65536)))],[η (ν ξ (ξ.wrap ((eG ls.flatten).fdiv 16777216)))]];[[χ 1 A]]=ae bO ls/\
 (ls.length<=1000000/\
 ∀(l:List Int),dW l ls->
 (∀(c:Int),dW c l->
 0<=c/\
 c<256)/\
 l.length.le 1000000)/\
 True/\
 A.length<=140737488355328/\
 (A=[]->
 4<=4/\
 4*1<=140737488355328/\
 K (ζ 0 0 4) [ai 5 1 θ])/\
 4<=4/\
 A.length<=A.length/\
 (A.length+4)*1<=140737488355328/\
 K (ζ 0 0 (A.length+4)) [ai 5 1 (ay A.length A++θ)]
 ):aI Tryz.prog XS (aG 67) 67 [aC (.sl 1 A)] [] K:=by apply Eq.mp (a:=aq);kernel_rfl
theorem VK:dD Tryz.prog D6:=fun f k h=>by
 unfold D6 at h
 split at h<;>first | (cases h;first | exact adO | exact ajk | exact J_ | exact acM | exact Tp | exact J9) | cases h
theorem Yr:cx Tryz.prog XS:=dP mixed VK aG 10
theorem OV {l:List Int}:([l]:List (List Int)).flatten=l:=by simp
theorem TG:aO Tryz.prog 67 AU:=eC Yr mixed (fun args kb K h=>by
 unfold AU at h;split at h<;>try exact h.elim
 obtain⟨l,rfl,hb,pO,h⟩:=h
 refine⟨aG 67,ait _ K ⟨⟨ar _,trivial⟩,[l],rfl,⟨Nat.le_of_ble_eq_true rfl,fun x hx=>?_⟩,trivial,by rw[bi];omega,fun e=>⟨ar _,by omega,?_⟩,ar _,ar _,by rw[bi];omega,?_⟩⟩
 ·cases hx with
  |head=>exact⟨hb,mc pO (by decide)⟩
  |tail _ hx=>cases hx
 ·cases l with
  |cons a l=>simp [ints]at e
  |nil=>exact h
 ·rw[OV,bi,eQ (by rw[bi];omega)]
  have:ints ξ (ca l)=ints ξ l++ints ξ (yQ (eG l)):=by unfold ca;rw[pR]
  rw[this]at h
  exact h)
theorem Ve:dD Tryz.prog DS:=fun f k h=>by
 unfold DS at h
 split at h
 ·cases h;exact TG
 ·exact VK _ _ h
theorem Yo:cx Tryz.prog XO:=dP mixed Ve aG 10
theorem agC {l:List Int} (h:4<=l.length) (hm:l.length<=900000):(γ.wrap ((l.length:Int) - 4)).toNat=l.length - 4/\aA (γ.wrap ((l.length:Int) - 4)):=by
 rw[bE (by omega) (by omega)]
 unfold aA
 omega
theorem bq.take {l:List Int} (h:bq l) (n:Nat):bq (l.take n):=fun c hc=>h c (List.mem_of_mem_take hc)
theorem dt (n:Nat) (l:List Int):ax 0 (ay n (ints ξ l))=ints ξ (l.take n):=by rw[iD,oX]
theorem TC:aO Tryz.prog 64 AL:=eC Yo mixed (fun args kb K h=>by
 unfold AL at h;split at h<;>try exact h.elim
 obtain⟨l,rfl,hb,pO,h1,h2⟩:=h
 refine⟨aG 64,aie l K ⟨fun hc=>?_,fun hc=>?_⟩⟩
 ·simp only[bi,decide_eq_true_eq]at hc
  refine h1 ?_
  unfold fM
  rw[if_neg]
  rintro⟨h4,_⟩
  rw[bE (by omega) (by omega)]at hc;omega
 ·simp only[bi,decide_eq_false_iff_not]at hc ⊢
  have h4:4<=l.length:=by rw[bE (by omega) (by omega)]at hc;omega
  obtain⟨t1,t2⟩:=agC h4 pO
  rw[t1]
  refine⟨trivial,t2,bj _,Nat.sub_le _ _,l.take (l.length - 4),dt _ _,bq.take hb _,by simp;omega,⟨?_,trivial,trivial⟩,ca (l.take (l.length - 4)),l,?_,rfl,?_,trivial,fun hx=>?_,fun hx=>?_⟩
  ·simp only[bi,pg];exact ar _
  ·rw[dt,<- pg,cQ]
  ·show(ca (l.take (l.length - 4))).length<=1000000
   rw[pg,cW];omega
  ·refine h1 ?_
   unfold fM
   rw[if_neg]
   rintro⟨_,he⟩
   simp [he]at hx
  ·have ho:fM l=some (l.take (l.length - 4)):=by
    unfold fM
    rw[if_pos ⟨h4,by simpa using hx⟩]
   obtain⟨k1,k2⟩:=h2 _ ho
   simp only[dt,bi]
   refine⟨trivial,t2,bj _,Nat.sub_le _ _,by rw[cW];omega,fun e=>k1 ?_,k2⟩
   have:=congrArg List.length e
   rw[bi]at this
   exact List.length_eq_zero_iff.1 this)
def Bx:FuncId->Option du
 | 64=>some ⟨[.fL 1],AL⟩
 |f=>DS f
theorem OM:dD Tryz.prog Bx:=fun f k h=>by
 unfold Bx at h
 split at h
 ·cases h;exact TC
 ·exact Ve _ _ h
end Go.Proofs.YtfcjngcnifdmnaaGreat
set_option linter.unusedVariables false
set_option linter.unusedSimpArgs false
namespace Vc
open Go
open Go.IntKind renaming i64->γ,u8->ξ,u32->iM
open Go.Value renaming int->ν,map->kT,bool->mG,oneCell'->mH
open List renaming map->ae,drop->ax,take->ay,length_append->bn,getElem?_eq_getElem->bu,getElem?_eq_some_iff->bH,length_map->bT,take_length->cQ,length_take->cW,mem_singleton->da,replicate->dv,mem_append->dz,mem_map->dO,mem_cons->dS,Mem->dW,append_assoc->dX,getElem?_append_left->dY,take_of_length_le->eQ,getElem?_append_right->fk,getElem?_map->fy,mem_of_getElem?->fF,length_drop->gm,mem_cons_of_mem->gn,append_nil->gz,length_cons->gA,getD_eq_getElem?_getD->gO,getElem?_set_ne->gP,mem_append_left->gQ,length_singleton->gZ,drop_zero->iD,getElem?_eq_none->iE,getElem?_take_of_lt->iF,length_set->iG,getElem?_set_self->iN,mem_cons_self->iV,map_append->ja,range->jb,nil_append->jr,take_add_one->jt,flatten_cons->jF,getElem?_of_mem->jG,getElem?_drop->jW,map_cons->kv,length_nil->kP,mem_append_right->kQ,mem_filter->lu,ext_getElem?->mb,eq_nil_of_length_eq_zero->mD
open Nat renaming le_refl->ar,zero_le->bj,beq->cX,zero_add->c9,eq_of_beq_eq_true->de,add_assoc->g_,lor->iW,lt_or_ge->kx,sub_zero->ly,le_trans->mc
open Option renaming some->bb,bind_eq_some_iff->lO,map->ng
open Int renaming toNat_natCast->cN,le_refl->dE
open Bool renaming and_eq_true->jo,not_eq_false'->kr,not_eq_true'->mA
theorem Dk {l m:List Int} (h:fM l=some m):l=ca m:=by
 unfold fM at h
 split at h
 ·rename_i hc
  cases h
  exact hc.2.symm
 ·cases h
def xH (k:Nat) (s t:List Int):Prop:=s.length=t.length/\s.take k=t.take k/\(s.drop k).drop 4=(t.drop k).drop 4
theorem xH.refl (k:Nat) (s:List Int):xH k s s:=⟨rfl,rfl,rfl⟩
theorem xH.set {k:Nat} {s t:List Int} (h:xH k s t) {i:Nat} (hi:i<4) (c:Int):xH k (s.set (k+i) c) t:=by
 obtain⟨h1,h2,h3⟩:=h
 refine⟨by simpa using h1,?_,?_⟩
 ·rw[List.take_set_of_le (by omega)];exact h2
 ·rw[<- h3]
  apply mb
  intro j
  simp only[jW]
  rw[gP (by omega)]
theorem bq.set {s:List Int} (h:bq s) {i:Nat} {c:Int} (hc:0<=c/\c<256):bq (s.set i c):=fun d hd=>by
 rcases List.mem_or_eq_of_mem_set hd with hd | rfl
 ·exact h d hd
 ·exact hc
def iq:Nat->Nat->List Int
 | 0,n=>[(n:Int)]
 |k+1,n=>if n<128 then[(n:Int)]else((n % 128+128:Nat):Int)::iq k (n / 128)
def aZ (n:Int):List Int:=iq 8 n.toNat
def cK (b:List Int):List Int:=aZ b.length++b
structure jE (z:Int):Prop where
 h:z<=9223372036854775807
inductive Aw where
 |got (v n:Nat)
 |short
 |form
def jN:Nat->Nat->List Int->Aw
 |i,_,[]=>if i<9 then .short else .form
 |i,v,c::r=>if i=9∨(c=0/\0<i)then .form else if 128<=c then jN (i+1) (v+(c.toNat % 128)*128 ^ i) r else .got (v+c.toNat*128 ^ i) (i+1)
def cC (l:List Int) (e most:Int):Int×Nat×Int:=
 if e=0 then(match jN 0 0 l with
  | .got v n=>if most<(v:Int)then(0,0,5)else((v:Int),n,0)
  | .short=>(0,0,2)
  | .form=>(0,0,3))else(0,0,e)
def gX (l:List Int) (e most:Int):List Int×Nat×Int:=
 if(cC l e most).2.2=0 then
  (if((l.drop (cC l e most).2.1).length:Int)<(cC l e most).1 then([],(cC l e most).2.1,2)
   else((l.drop (cC l e most).2.1).take (cC l e most).1.toNat,(cC l e most).2.1+(cC l e most).1.toNat,0))
 else([],(cC l e most).2.1,(cC l e most).2.2)
def iY (l:List Int) (e:Int):Int:=if l≠[]/\e=0 then 3 else e
theorem acm:∀(k n:Nat),1<=(iq k n).length
 | 0,n=>by simp [iq]
 |k+1,n=>by unfold iq;split<;>simp
theorem Tb:∀(k n:Nat),(iq k n).length<=k+1
 | 0,n=>by simp [iq]
 |k+1,n=>by
  unfold iq;split
  ·simp
  ·simp;exact Tb k _
theorem Ta:∀(k n:Nat),n<128 ^ (k+1)->bq (iq k n)
 | 0,n,h=>fun c hc=>by simp [iq]at hc h;omega
 |k+1,n,h=>fun c hc=>by
  unfold iq at hc
  split at hc
  ·simp at hc;omega
  ·rcases dS.1 hc with rfl | hc
   ·have:=Nat.mod_lt n (show 128 > 0 by decide);omega
   ·exact Ta k _ (by rw[Nat.div_lt_iff_lt_mul (by decide),<- Nat.pow_succ];exact h) c hc
theorem ke (n:Int):1<=(aZ n).length/\(aZ n).length<=9:=⟨acm _ _,Tb _ _⟩
theorem pW {n:Int} (h:n<=9223372036854775807):bq (aZ n):=Ta _ _ (by have:(128:Nat) ^ (8+1)=9223372036854775808:=rfl;omega)
theorem Tf (r:List Int):∀(k i v n:Nat),n<128 ^ (k+1)->i+k<=8->(n≠0∨i=0)->jN i v (iq k n++r)= .got (v+n*128 ^ i) (i+(iq k n).length)
 | 0,i,v,n,h,hi,hz=>by
  simp at h
  simp only[iq,List.cons_append,jr,jN,gA,kP]
  rw[if_neg (by omega),if_neg (by omega)]
  simp
 |k+1,i,v,n,h,hi,hz=>by
  unfold iq
  split
  ·simp only[List.cons_append,jr,jN,gA,kP]
   rw[if_neg (by omega),if_neg (by omega)]
   simp
  ·rename_i hn
   have hm:=Nat.mod_lt n (show 128 > 0 by decide)
   simp only[List.cons_append,jN,gA]
   rw[if_neg (by omega),if_pos (by omega),Tf r k (i+1) _ (n / 128) (by rw[Nat.div_lt_iff_lt_mul (by decide),<- Nat.pow_succ];exact h) (by omega) (.inl (by omega))]
   have e1:(((n % 128+128:Nat):Int)).toNat % 128=n % 128:=by omega
   have e2:n*128 ^ i=n % 128*128 ^ i+n / 128*128 ^ (i+1):=by
    rw[Nat.pow_succ]
    have:=Nat.div_add_mod n 128
    calc n*128 ^ i=(128*(n / 128)+n % 128)*128 ^ i:=by rw[this]
     _=n % 128*128 ^ i+n / 128*(128 ^ i*128):=by rw[Nat.add_mul,Nat.add_comm,Nat.mul_comm 128 (n / 128),Nat.mul_assoc,Nat.mul_comm 128 (128 ^ i)]
   rw[e1,e2]
   congr 1
   ·omega
   ·omega
theorem acn {n:Int} (h0:0<=n) (h:n<=9223372036854775807) (r:List Int):jN 0 0 (aZ n++r)= .got n.toNat (aZ n).length:=by
 have:=Tf r 8 0 0 n.toNat (by have:(128:Nat) ^ (8+1)=9223372036854775808:=rfl;omega) (by omega) (.inr rfl)
 simpa [aZ]using this
theorem Te:∀(l:List Int) (i v w m:Nat),i<=9->bq l->jN i v l= .got w m->∃ n,i<=8/\w=v+n*128 ^ i/\n<128 ^ (9 - i)/\(0<i->n≠0)/\m=i+(iq (8 - i) n).length/\∃ r,l=iq (8 - i) n++r
 | [],i,v,w,m,hi,hb,h=>by unfold jN at h;split at h<;>cases h
 |c::r,i,v,w,m,hi,hb,h=>by
  have hc:=hb c iV
  unfold jN at h
  split at h
  ·cases h
  ·rename_i h1
   have Q7:i<=8:=by omega
   split at h
   ·rename_i h2
    obtain⟨n,k1,k2,k3,k4,k5,r',k6⟩:=Te r (i+1) _ w m (by omega) (fun d hd=>hb d (gn _ hd)) h
    have hn0:n≠0:=k4 (by omega)
    have e0:8 - i=(8 - (i+1))+1:=by omega
    have e9:9 - i=(9 - (i+1))+1:=by omega
    have ec:c.toNat % 128=c.toNat - 128:=by omega
    have e1:iq (8 - i) (c.toNat - 128+128*n)=c::iq (8 - (i+1)) n:=by
     rw[e0]
     rw[iq.eq_2,if_neg (by omega)]
     have a1:(c.toNat - 128+128*n) % 128=c.toNat - 128:=by omega
     have a2:(c.toNat - 128+128*n) / 128=n:=by omega
     rw[a1,a2]
     congr 1
     omega
    refine⟨c.toNat - 128+128*n,Q7,?_,?_,fun _=>by omega,?_,r',?_⟩
    ·rw[k2,ec,Nat.pow_succ,Nat.add_mul,Nat.mul_comm (128 ^ i) 128,<- Nat.mul_assoc,Nat.mul_comm n 128];omega
    ·rw[e9,Nat.pow_succ];omega
    ·rw[e1,k5,gA];omega
    ·rw[e1,k6];rfl
   ·rename_i h2
    cases h
    have e1:iq (8 - i) c.toNat=[c]:=by
     have:((c.toNat:Nat):Int)=c:=by omega
     cases h8:8 - i with
     |zero=>rw[iq.eq_1,this]
     |succ k=>rw[iq.eq_2,if_pos (by omega),this]
    refine⟨c.toNat,Q7,rfl,?_,fun _=>by omega,by rw[e1];rfl,r,by rw[e1];rfl⟩
    have:9 - i=(8 - i)+1:=by omega
    rw[this,Nat.pow_succ]
    have:0<128 ^ (8 - i):=Nat.pow_pos (by decide)
    omega
theorem Df {l:List Int} {w m:Nat} (hb:bq l) (h:jN 0 0 l= .got w m):(w:Int)<=9223372036854775807/\m=(aZ w).length/\∃ r,l=aZ w++r:=by
 obtain⟨n,_,h1,h2,_,h3,h4⟩:=Te l 0 0 w m (by omega) hb h
 simp at h1
 subst h1
 have:(128:Nat) ^ (9 - 0)=9223372036854775808:=rfl
 have e:aZ (w:Int)=iq (8 - 0) w:=by unfold aZ;rw[cN]
 exact⟨by omega,by rw[e,h3,c9],by rw[e];exact h4⟩
theorem zr {l:List Int} (hb:bq l) (e most:Int):0<=(cC l e most).1/\(cC l e most).1<=9223372036854775807/\(cC l e most).2.1<=l.length:=by
 unfold cC
 split
 ·split
  ·rename_i v n h
   obtain⟨h1,h2,r,h3⟩:=Df hb h
   split
   ·simp
   ·refine⟨by simp,h1,?_⟩
    show n<=l.length
    rw[h2,h3,bn];omega
  ·simp
  ·simp
 ·simp
theorem KA {n:Int} (h0:0<=n) (h:n<=9223372036854775807) {most:Int} (hm:n<=most) (r:List Int):cC (aZ n++r) 0 most=(n,(aZ n).length,0):=by
 unfold cC
 rw[if_pos rfl,acn h0 h]
 show(if most<((n.toNat:Nat):Int)then _ else _)=_
 rw[if_neg (by omega)]
 rw[Int.toNat_of_nonneg h0]
theorem UC {b:List Int} {most:Int} (hm:(b.length:Int)<=most) (h:(b.length:Int)<=9223372036854775807) (r:List Int):gX (cK b++r) 0 most=(b,(cK b).length,0):=by
 unfold gX cK
 rw[dX,KA (by omega) h hm]
 simp
 omega
theorem T_ {n:Nat}:ξ.wrap (((BitVec.ofInt 8 (ξ.wrap (n:Int)) ||| BitVec.ofInt 8 128).toNat:Nat):Int)=((n % 128+128:Nat):Int):=by
 have e:ξ.wrap (n:Int)=((n % 256:Nat):Int):=by
  show(n:Int) % 2 ^ 8=_
  omega
 rw[e]
 have h:∀ k:Fin 256,ξ.wrap (((BitVec.ofInt 8 ((k.1:Nat):Int) ||| BitVec.ofInt 8 128).toNat:Nat):Int)=((k.1 % 128+128:Nat):Int):=by decide+kernel
 have:=h ⟨n % 256,Nat.mod_lt _ (by decide)⟩
 simp only at this
 rw[this]
 omega
theorem YF {n:Int} (h0:0<=n) (h:n<256):ξ.wrap (((BitVec.ofInt 8 n &&& BitVec.ofInt 8 127).toNat:Nat):Int)=((n.toNat % 128:Nat):Int):=by
 have h:∀ k:Fin 256,ξ.wrap (((BitVec.ofInt 8 ((k.1:Nat):Int) &&& BitVec.ofInt 8 127).toNat:Nat):Int)=((k.1 % 128:Nat):Int):=by decide+kernel
 have:=h ⟨n.toNat,by omega⟩
 simp only at this
 rw[Int.toNat_of_nonneg h0]at this
 exact this
theorem Ku (i:Nat):(128:Nat) ^ i=2 ^ (7*i):=by rw[Nat.pow_mul]
theorem aeA {i:Nat} (h:i<=8):(128:Nat) ^ i<=72057594037927936:=by
 have:=Nat.pow_le_pow_right (n:=128) (by decide) h
 exact mc this (by decide)
theorem Tg {v m i:Nat} (hv:v<128 ^ i) (hm:m<128) (hi:i<=8):
  γ.wrap (((BitVec.ofInt 64 (v:Int) ||| BitVec.ofInt 64 (mw γ (m:Int) (((7*i:Nat)):Int))).toNat:Nat):Int)=((v+m*128 ^ i:Nat):Int):=by
 have hp:=aeA hi
 have hmul:m*128 ^ i<=127*72057594037927936:=Nat.mul_le_mul (by omega) hp
 have e1:mw γ (m:Int) (((7*i:Nat)):Int)=((m*128 ^ i:Nat):Int):=by
  unfold mw
  rw[cN,show min (7*i) γ.bits=7*i from Nat.min_eq_left (by show 7*i<=64;omega)]
  rw[show(m:Int)*2 ^ (7*i)=((m*128 ^ i:Nat):Int) by rw[Ku];simp]
  exact bE (by omega) (by omega)
 rw[e1]
 have e2:(BitVec.ofInt 64 (v:Int) ||| BitVec.ofInt 64 ((m*128 ^ i:Nat):Int)).toNat=v+m*128 ^ i:=by
  rw[BitVec.toNat_or,BitVec.toNat_ofInt,BitVec.toNat_ofInt]
  have a1:((v:Int) % ((2 ^ 64:Nat):Int)).toNat=v:=by
   have:((2 ^ 64:Nat):Int)=18446744073709551616:=rfl
   rw[this];omega
  have a2:(((m*128 ^ i:Nat):Int) % ((2 ^ 64:Nat):Int)).toNat=m*128 ^ i:=by
   have:((2 ^ 64:Nat):Int)=18446744073709551616:=rfl
   rw[this];omega
  rw[a1,a2]
  have:=Nat.shiftLeft_add_eq_or_of_lt (i:=7*i) (b:=v) (by rw[<- Ku];exact hv) m
  rw[Nat.shiftLeft_eq,<- Ku]at this
  rw[Nat.or_comm,<- this,Nat.add_comm]
 rw[e2]
 have:v<72057594037927936:=Nat.lt_of_lt_of_le hv hp
 exact bE (by omega) (by omega)
def lead:List Int->Nat
 | []=>0
 |c::r=>if 128<=c then lead r+1 else 0
def jS:Nat->List Int->Nat
 | 0,_=>0
 |_+1,[]=>0
 |k+1,c::r=>c.toNat % 128+128*jS k r
theorem sx (b:List Int):1<=(cK b).length/\(cK b).length<=b.length+9:=by
 have:=ke b.length
 unfold cK
 rw[bn]
 omega
theorem D_ {b:List Int} (h:bq b) (hl:(b.length:Int)<=9223372036854775807):bq (cK b):=fun c hc=>by
 unfold cK at hc
 rcases dz.1 hc with hc | hc
 ·exact pW hl c hc
 ·exact h c hc
end Vc
namespace Go.Proofs.YtfcjngcnifdmnaaGreat
open Vc Go
open Go.IntKind renaming i64->γ,u8->ξ,u32->iM
open Vc.V renaming any->δ,int->ε,sl->ζ,sb->ο,ptr->aj,φ->au,dat->aC,aa->aR,mp->aY,arr->bF,agg->fz
open Vc.D renaming val->η,sl->χ
open Go.Value renaming int->ν,map->kT,bool->mG,oneCell'->mH
open List renaming map->ae,drop->ax,take->ay,length_append->bn,getElem?_eq_getElem->bu,getElem?_eq_some_iff->bH,length_map->bT,take_length->cQ,length_take->cW,mem_singleton->da,replicate->dv,mem_append->dz,mem_map->dO,mem_cons->dS,Mem->dW,append_assoc->dX,getElem?_append_left->dY,take_of_length_le->eQ,getElem?_append_right->fk,getElem?_map->fy,mem_of_getElem?->fF,length_drop->gm,mem_cons_of_mem->gn,append_nil->gz,length_cons->gA,getD_eq_getElem?_getD->gO,getElem?_set_ne->gP,mem_append_left->gQ,length_singleton->gZ,drop_zero->iD,getElem?_eq_none->iE,getElem?_take_of_lt->iF,length_set->iG,getElem?_set_self->iN,mem_cons_self->iV,map_append->ja,range->jb,nil_append->jr,take_add_one->jt,flatten_cons->jF,getElem?_of_mem->jG,getElem?_drop->jW,map_cons->kv,length_nil->kP,mem_append_right->kQ,mem_filter->lu,ext_getElem?->mb,eq_nil_of_length_eq_zero->mD
open Vc.KO renaming row->ai,dead->aw,cells->aB,objs->fE
open Nat renaming le_refl->ar,zero_le->bj,beq->cX,zero_add->c9,eq_of_beq_eq_true->de,add_assoc->g_,lor->iW,lt_or_ge->kx,sub_zero->ly,le_trans->mc
open Option renaming some->bb,bind_eq_some_iff->lO,map->ng
open Int renaming toNat_natCast->cN,le_refl->dE
open Bool renaming and_eq_true->jo,not_eq_false'->kr,not_eq_true'->mA
set_option linter.unusedVariables false
set_option linter.unusedSimpArgs false
set_option maxRecDepth 100000
set_option maxHeartbeats 2000000
def vj (tot:List Int) (n:Nat) (p:List Int×Nat×Nat):Prop:=tot=p.1++iq p.2.1 p.2.2/\p.2.2<128 ^ (p.2.1+1)/\p.1.length+p.2.1<=n+8
abbrev Ek (tot:List Int) (n:Nat):LI where
 α:={p:List Int×Nat×Nat // vj tot n p} ⊕ {p:List Int×Nat×Nat // vj tot n p}
 live:=[0,1]
 st p:=match p with
  | .inl p=>([aj 0 0,.int γ (p.1.2.2:Int)],[aB [.sl 1 0 p.1.1.length],ai 5 1 (ints ξ p.1.1)])
  | .inr p=>([aj 0 0,.int γ (p.1.2.2:Int)],[aB [.sl 2 0 p.1.1.length],aw,ai 5 1 (ints ξ p.1.1)])
 μ p:=match p with
  | .inl p=>p.1.2.1
  | .inr p=>p.1.2.1
 all:=fun Q=>(∀ a,Q (.inl a))/\∀ b,Q (.inr b)
 Bp:=fun Q h i=>match i with
  | .inl a=>h.1 a
  | .inr b=>h.2 b
def Dc (l:List Int) (p:Nat×Nat):Prop:=p.1<=9/\p.1<=l.length/\jN 0 0 l=jN p.1 p.2 (l.drop p.1)/\p.2<128 ^ p.1
abbrev Dd (l:List Int) (lo:Nat) (e:Int):LI where
 α:={p:Nat×Nat // Dc (l.drop lo) p}
 live:=[0,2,3,9,10,11]
 st p:=([aj 0 0,.int γ (p.1.2:Int),.int γ (p.1.1:Int),.sl 1 lo l.length,.int γ ((l.length - lo:Nat):Int),.int γ (p.1.1:Int)],[aB [.sl 1 lo l.length,.int γ e],ai 5 1 (ints ξ l)])
 μ p:=l.length - lo - p.1.1
def wT (tot:List Int) (n:Nat):FuncId->Nat->Option LI
 | 36,1=>some (Ek tot n)
 |_,_=>none
def S7 (l:List Int) (lo:Nat) (e:Int):FuncId->Nat->Option LI
 | 62,2=>some (Dd l lo e)
 |_,_=>none
def Ge:FuncId->Option du
 | 12=>some ⟨[.fL 1,.fL 1],AT⟩
 | 55=>some ⟨[.fL 1],EZ⟩
 | 20=>some ⟨[],AN⟩
 |_=>none
theorem aiS (tot:List Int) (n:Nat) (z:Int) (a:List Int) (K:V->KB->Prop) (aq:
 At (Ek tot n) ([aj 0 0,ε γ (if 0 > z then 0 else z)],[aB [ζ 1 0 a.length],ai 5 1 (ints ξ a)])/\
 (∀(a:{p:List Int×Nat×Nat // vj tot n p }),let bp:=(ξ.wrap (↑a.val.snd.snd:Int));let aJ:=aB [ζ 2 0 (a.val.fst.length+1)];let av:=(a.val.fst.length+1)*1<=140737488355328;let θ:=(ints ξ a.val.fst);(decide ((↑a.val.snd.snd:Int) ≥ 128)=true->
 1<=1/\
 a.val.fst.length<=θ.length/\
 av/\
 Nx (Ek tot n) (Sum.inl a) ([aj 0 0,ε γ ((↑a.val.snd.snd:Int).fdiv 128)],[aJ,aw,ai 5 1 (ay a.val.fst.length θ++[[η (ν ξ (ξ.wrap (↑(BitVec.ofInt 8 bp ||| BitVec.ofInt 8 128).toNat:Int)))]])]))/\
 (decide ((↑a.val.snd.snd:Int) ≥ 128)=false->
 1<=1/\
 a.val.fst.length<=θ.length/\
 av/\
 K (au []) [aJ,aw,ai 5 1 (ay a.val.fst.length θ++[[η (ν ξ bp)]])]))/\
 ∀(b:{p:List Int×Nat×Nat // vj tot n p }),let bD:=(ξ.wrap (↑b.val.snd.snd:Int));let aU:=aB [ζ 2 0 (b.val.fst.length+1)];let aN:=(b.val.fst.length+1)*1<=140737488355328;let ω:=(ints ξ b.val.fst);(decide ((↑b.val.snd.snd:Int) ≥ 128)=true->
 1<=1/\
 b.val.fst.length<=ω.length/\
 aN/\
 Nx (Ek tot n) (Sum.inr b) ([aj 0 0,ε γ ((↑b.val.snd.snd:Int).fdiv 128)],[aU,aw,ai 5 1 (ay b.val.fst.length ω++[[η (ν ξ (ξ.wrap (↑(BitVec.ofInt 8 bD ||| BitVec.ofInt 8 128).toNat:Int)))]])]))/\
 (decide ((↑b.val.snd.snd:Int) ≥ 128)=false->
 1<=1/\
 b.val.fst.length<=ω.length/\
 aN/\
 K (au []) [aU,aw,ai 5 1 (ay b.val.fst.length ω++[[η (ν ξ bD)]])])
 ):aI Tryz.prog X0 (wT tot n 36) 36 [aj 0 0,.int γ z] [aB [.sl 1 0 a.length],ai 5 1 (ints ξ a)] (dp 2 K):=by apply Eq.mp (a:=aq);kernel_rfl
theorem ah8 (l:List Int) (lo:Nat) (e:Int) (K:V->KB->Prop) (aq:
 let gM:=ε γ (↑(l.length - lo):Int);let cI:=ai 5 1 (ints ξ l);let bQ:=(au [ε γ 0,ε γ 0]);let aU:KB:=[aB [ζ 1 lo l.length,ε γ e],cI];let aJ:=K bQ [aB [ζ 1 lo l.length,ε γ 2],cI];let ω:=K bQ [aB [ζ 1 lo l.length,ε γ 3],cI];let θ:=K bQ aU;At (Dd l lo e) ([aj 0 0,ε γ 0,ε γ 0,ζ 1 lo l.length,gM,ε γ 0],aU)/\
 ∀(i:{p:Nat×Nat // Dc (ax lo l) p }),let gk:=(γ.wrap (7*(↑i.val.fst:Int)));let eP:=(↑i.val.fst:Int)<(↑(l.length - lo):Int);let b_:=decide ((↑i.val.fst:Int)<9)=true;let bW:=decide ((↑i.val.fst:Int)<9)=false;let bM:=((↑i.val.fst:Int) == (↑(l.length - lo):Int))=true;let bD:=((↑i.val.fst:Int) == (↑(l.length - lo):Int))=false;let bp:=ε γ (γ.wrap ((↑i.val.fst:Int)+1));(decide (eP)=true->
 br (↑i.val.fst:Int) (l.length - lo)/\
 ∃(e_1:List D),(ints ξ l)[lo+(↑i.val.fst:Int).toNat]? =some e_1/\
 ∃(n:Int),let aN:=K (au [ε γ (γ.wrap (↑(BitVec.ofInt 64 (↑i.val.snd:Int) ||| BitVec.ofInt 64 (mw γ (γ.wrap n) gk)).toNat:Int)),bp]) aU;let av:=Nx (Dd l lo e) i ([aj 0 0,ε γ (γ.wrap (↑(BitVec.ofInt 64 (↑i.val.snd:Int) ||| BitVec.ofInt 64 (mw γ (γ.wrap (ξ.wrap (↑(BitVec.ofInt 8 n &&& BitVec.ofInt 8 127).toNat:Int))) gk)).toNat:Int)),bp,ζ 1 lo l.length,gM,bp],aU);e_1[0]? =some (η (ν ξ n))/\
 (((↑i.val.fst:Int) == 9)=true->
 (bM->
 (b_->
 ((e == 0)=true->
 aJ)/\
 ((e == 0)=false->
 θ))/\
 (bW->
 ((e == 0)=true->
 ω)/\
 ((e == 0)=false->
 θ)))/\
 (bD->
 ((e == 0)=true->
 ω)/\
 ((e == 0)=false->
 θ)))/\
 (((↑i.val.fst:Int) == 9)=false->
 ((n == 0)=true->
 (decide ((↑i.val.fst:Int) > 0)=true->
 (bM->
 (b_->
 ((e == 0)=true->
 aJ)/\
 ((e == 0)=false->
 θ))/\
 (bW->
 ((e == 0)=true->
 ω)/\
 ((e == 0)=false->
 θ)))/\
 (bD->
 ((e == 0)=true->
 ω)/\
 ((e == 0)=false->
 θ)))/\
 (decide ((↑i.val.fst:Int) > 0)=false->
 (decide (n ≥ 128)=true->
 (γ.wrap (7*(↑i.val.fst:Int))<0->
 False)/\
 av)/\
 (decide (n ≥ 128)=false->
 (γ.wrap (7*(↑i.val.fst:Int))<0->
 False)/\
 aN)))/\
 ((n == 0)=false->
 (decide (n ≥ 128)=true->
 (γ.wrap (7*(↑i.val.fst:Int))<0->
 False)/\
 av)/\
 (decide (n ≥ 128)=false->
 (γ.wrap (7*(↑i.val.fst:Int))<0->
 False)/\
 aN))))/\
 (decide (eP)=false->
 (bM->
 (b_->
 ((e == 0)=true->
 aJ)/\
 ((e == 0)=false->
 θ))/\
 (bW->
 ((e == 0)=true->
 ω)/\
 ((e == 0)=false->
 θ)))/\
 (bD->
 ((e == 0)=true->
 ω)/\
 ((e == 0)=false->
 θ)))
 ):aI Tryz.prog X0 (S7 l lo e 62) 62 [aj 0 0] [aB [.sl 1 lo l.length,.int γ e],ai 5 1 (ints ξ l)] K:=by apply Eq.mp (a:=aq);kernel_rfl
theorem w8 {n:Int} (h1:0<=n) (h2:n<256):ξ.wrap n=n:=IntWalk.u8_in n (by omega)
theorem DX {a:List Int} {n:Int}:ay a.length (ints ξ a)++[[η (.int ξ n)]]=ints ξ (a++[n]):=by
 rw[oX,cQ,pR];rfl
theorem W_ {tot:List Int} {n:Nat} {p:List Int×Nat×Nat} (h:vj tot n p) (hc:128<=p.2.2):
  ∃ q:List Int×Nat×Nat,vj tot n q/\q.2.1<p.2.1/\q.1=p.1++[((p.2.2 % 128+128:Nat):Int)]/\q.2.2=p.2.2 / 128:=by
 obtain⟨o,k,m⟩:=p
 obtain⟨h1,h2,h3⟩:=h
 simp only at h1 h2 h3 hc
 cases k with
 |zero=>simp at h2;omega
 |succ k=>
  rw[iq.eq_2,if_neg (by omega)]at h1
  refine⟨(o++[((m % 128+128:Nat):Int)],k,m / 128),⟨by simp only;rw[h1,dX];rfl,?_,by simp only[bn,gA,kP];omega⟩,by simp only;omega,rfl,rfl⟩
  simp only
  rw[Nat.div_lt_iff_lt_mul (by decide),<- Nat.pow_succ];exact h2
theorem El {tot:List Int} {n:Nat} {p:List Int×Nat×Nat} (h:vj tot n p) (hc:p.2.2<128):tot=p.1++[(p.2.2:Int)]:=by
 obtain⟨o,k,m⟩:=p
 obtain⟨h1,h2,h3⟩:=h
 simp only at h1 hc
 cases k with
 |zero=>rw[h1,iq.eq_1]
 |succ k=>rw[h1,iq.eq_2,if_pos hc]
theorem abX {z:Int} (h:z<=9223372036854775807):z.toNat<128 ^ (8+1):=by
 have:(128:Nat) ^ (8+1)=9223372036854775808:=rfl
 omega
def Fz:aE:=fun args kb K=>match args,kb with
 | [aj 0 0,.int γ z],[aB [.sl 1 0 h],ai 5 1 A]=>∃ a:List Int,A=ints ξ a/\h=a.length/\a.length<=10000000/\jE z/\
  K (.φ []) [aB [.sl 2 0 (a++aZ z).length],aw,ai 5 1 (ints ξ (a++aZ z))]
 |_,_=>False
theorem adZ:aO Tryz.prog 36 Fz:=lF ga mixed (fun args kb K h=>by
 unfold Fz at h;split at h<;>try exact h.elim
 rename_i z _ _
 obtain⟨a,rfl,rfl,hl,⟨hz⟩,h⟩:=h
 have e0:(if 0 > z then 0 else z)=((z.toNat:Nat):Int):=by split<;>omega
 refine⟨wT (a++aZ z) a.length 36,aiS (a++aZ z) a.length z a K ⟨?_,?_,?_⟩⟩
 ·rw[e0]
  exact At.mk' (.inl ⟨(a,8,z.toNat),rfl,abX hz,ar _⟩) rfl
 ·rintro⟨p,hp⟩
  have hb:=hp.2.2
  simp only[bi,T_]
  refine⟨fun hc=>⟨by omega,by omega,by omega,?_⟩,fun hc=>⟨by omega,by omega,by omega,?_⟩⟩
  ·simp only[decide_eq_true_eq]at hc
   obtain⟨q,h1,h2,h3,h4⟩:=W_ hp (by omega)
   have e1:(p.2.2:Int).fdiv 128=((q.2.2:Nat):Int):=by rw[h4,Int.fdiv_eq_ediv_of_nonneg _ (by omega)];omega
   rw[e1,DX,<- h3,show p.1.length+1=q.1.length by rw[h3];simp]
   exact Nx.mk' (.inr ⟨q,h1⟩) rfl h2
  ·simp only[decide_eq_false_iff_not]at hc
   rw[w8 (by omega) (by omega),DX,<- El hp (by omega),show p.1.length+1=(a++aZ z).length by rw[El hp (by omega)];simp]
   exact h
 ·rintro⟨p,hp⟩
  have hb:=hp.2.2
  simp only[bi,T_]
  refine⟨fun hc=>⟨by omega,by omega,by omega,?_⟩,fun hc=>⟨by omega,by omega,by omega,?_⟩⟩
  ·simp only[decide_eq_true_eq]at hc
   obtain⟨q,h1,h2,h3,h4⟩:=W_ hp (by omega)
   have e1:(p.2.2:Int).fdiv 128=((q.2.2:Nat):Int):=by rw[h4,Int.fdiv_eq_ediv_of_nonneg _ (by omega)];omega
   rw[e1,DX,<- h3,show p.1.length+1=q.1.length by rw[h3];simp]
   exact Nx.mk' (.inr ⟨q,h1⟩) rfl h2
  ·simp only[decide_eq_false_iff_not]at hc
   rw[w8 (by omega) (by omega),DX,<- El hp (by omega),show p.1.length+1=(a++aZ z).length by rw[El hp (by omega)];simp]
   exact h)
def Fi:aE:=fun args kb K=>match args,kb with
 | [aj 0 0],[aB [.sl 1 lo h,.int γ e],ai 5 1 A]=>∃ l:List Int,A=ints ξ l/\h=l.length/\lo<=l.length/\bq l/\l.length<=140737488355328/\e=0/\
  (∀ v n,jN 0 0 (l.drop lo)= .got v n->K (.φ [.int γ (v:Int),.int γ (n:Int)]) [aB [.sl 1 lo l.length,.int γ 0],ai 5 1 (ints ξ l)])/\
  (jN 0 0 (l.drop lo)= .short->K (.φ [.int γ 0,.int γ 0]) [aB [.sl 1 lo l.length,.int γ 2],ai 5 1 (ints ξ l)])/\
  (jN 0 0 (l.drop lo)= .form->K (.φ [.int γ 0,.int γ 0]) [aB [.sl 1 lo l.length,.int γ 3],ai 5 1 (ints ξ l)])
 |_,_=>False
theorem acb {i:Nat} (h:i<=9):γ.wrap (7*(i:Int))=((7*i:Nat):Int):=by
 rw[bE (by omega) (by omega)];omega
theorem adf:aO Tryz.prog 62 Fi:=eC ga mixed (fun args kb K h=>by
  unfold Fi at h;split at h<;>try exact h.elim
  rename_i lo _ _ _
  obtain⟨l,rfl,rfl,hlo,hb,hl,rfl,hg,hs,hf⟩:=h
  refine⟨S7 l lo 0 62,ah8 l lo 0 K ⟨At.mk' ⟨(0,0),by omega,bj _,by rw[iD],by decide⟩ rfl,?_⟩⟩
  rintro⟨⟨i,v⟩,hh⟩
  obtain⟨h9,hi,hn,hv⟩:=hh
  have hh:Dc (l.drop lo) (i,v):=⟨h9,hi,hn,hv⟩
  simp only[gm]at h9 hi hn hv ⊢
  refine⟨fun hc=>?_,fun hc=>?_⟩
  ·simp only[decide_eq_true_eq]at hc
   have hil:i<l.length - lo:=by omega
   have hel:l[lo+i]? =some l[lo+i]:=bu (by omega)
   have tn:(l.drop lo).drop i=l[lo+i]::(l.drop lo).drop (i+1):=by
    rw[List.drop_drop,List.drop_drop,show lo+(i+1)=lo+i+1 by omega]
    exact List.drop_eq_getElem_cons (by omega)
   have hbd:=hb l[lo+i] (List.getElem_mem _)
   rw[tn]at hn
   generalize l[lo+i]=c at hel hn hbd tn
   rw[jN.eq_2]at hn
   have ff:(i=9∨(c=0/\0<i))->jN 0 0 (l.drop lo)= .form:=fun h=>by rw[hn,if_pos h]
   refine⟨by unfold br;omega,[η (.int ξ c)],by rw[cN,kY,hel];rfl,c,rfl,fun hx=>?_,fun hx=>?_⟩
   ·simp only[beq_iff_eq]at hx
    have:=ff (.inl (by omega))
    refine⟨fun hy=>?_,fun hy=>⟨fun _=>hf this,fun h=>by simp at h⟩⟩
    simp only[beq_iff_eq]at hy
    omega
   ·simp only[beq_eq_false_iff_ne,ne_eq]at hx
    have Q8:i<=8:=by omega
    have go:¬ (c=0/\0<i)->((decide (c ≥ 128)=true->
 (γ.wrap (7*(i:Int))<0->False)/\
 Nx (Dd l lo 0) ⟨(i,v),hh⟩
 ([aj 0 0,ε γ (γ.wrap ((BitVec.ofInt 64 (v:Int) ||| BitVec.ofInt 64 (mw γ (γ.wrap (ξ.wrap ((BitVec.ofInt 8 c &&& BitVec.ofInt 8 127).toNat:Int))) (γ.wrap (7*(i:Int))))).toNat:Int)),ε γ (γ.wrap ((i:Int)+1)),ζ 1 lo l.length,
 ε γ ((l.length - lo:Nat):Int),ε γ (γ.wrap ((i:Int)+1))],
 [aB [ζ 1 lo l.length,ε γ 0],ai 5 1 (ints ξ l)]))/\
 (decide (c ≥ 128)=false->
 (γ.wrap (7*(i:Int))<0->False)/\
 K (au [ε γ (γ.wrap ((BitVec.ofInt 64 (v:Int) ||| BitVec.ofInt 64 (mw γ (γ.wrap c) (γ.wrap (7*(i:Int))))).toNat:Int)),ε γ (γ.wrap ((i:Int)+1))]) [aB [ζ 1 lo l.length,ε γ 0],ai 5 1 (ints ξ l)])):=by
     intro hz
     rw[if_neg (by omega)]at hn
     rw[acb (by omega),YF hbd.1 hbd.2]
     have hm:=Nat.mod_lt c.toNat (show 128 > 0 by decide)
     refine⟨fun h=>⟨fun f=>by omega,?_⟩,fun h=>⟨fun f=>by omega,?_⟩⟩
     ·simp only[decide_eq_true_eq]at h
      rw[if_pos (by omega)]at hn
      rw[bE (n:=((c.toNat % 128:Nat):Int)) (by omega) (by omega),Tg hv hm Q8,bE (n:=(i:Int)+1) (by omega) (by omega)]
      refine Nx.mk' (⟨(i+1,v+c.toNat % 128*128 ^ i),by simp only;omega,by simp only[gm];omega,hn,?_⟩:{p // Dc (l.drop lo) p}) rfl (by show l.length - lo - (i+1)<l.length - lo - i;omega)
      simp only
      rw[Nat.pow_succ]
      have:c.toNat % 128*128 ^ i<=127*128 ^ i:=Nat.mul_le_mul_right _ (by omega)
      omega
     ·simp only[decide_eq_false_iff_not]at h
      rw[if_neg (by omega)]at hn
      have ec:c=((c.toNat:Nat):Int):=by omega
      have:=hg _ _ hn
      rw[bE (n:=c) (by omega) (by omega),bE (n:=(i:Int)+1) (by omega) (by omega)]
      rw[show mw γ c ((7*i:Nat):Int)=mw γ ((c.toNat:Nat):Int) ((7*i:Nat):Int) by rw[<- ec],Tg hv (by omega) Q8]
      exact this
    refine⟨fun h0=>⟨fun h1=>?_,fun h1=>?_⟩,fun h0=>?_⟩
    ·simp only[beq_iff_eq]at h0
     simp only[decide_eq_true_eq]at h1
     have:=ff (.inr ⟨h0,by omega⟩)
     refine⟨fun hy=>?_,fun hy=>⟨fun _=>hf this,fun h=>by simp at h⟩⟩
     simp only[beq_iff_eq]at hy
     omega
    ·simp only[decide_eq_false_iff_not]at h1
     exact go (fun h=>h1 (by omega))
    ·simp only[beq_eq_false_iff_ne,ne_eq]at h0
     exact go (fun h=>h0 h.1)
  ·simp only[decide_eq_false_iff_not]at hc
   have:i=l.length - lo:=by omega
   rw[show ax i (l.drop lo)=[]from List.drop_eq_nil_of_le (by rw[gm];omega),jN.eq_1]at hn
   refine⟨fun hy=>⟨fun h=>⟨fun _=>hs ?_,fun h=>by simp at h⟩,fun h=>⟨fun _=>hf ?_,fun h=>by simp at h⟩⟩,fun hy=>?_⟩
   ·simp only[decide_eq_true_eq]at h
    rw[hn,if_pos (by omega)]
   ·simp only[decide_eq_false_iff_not]at h
    rw[hn,if_neg (by omega)]
   ·simp only[beq_eq_false_iff_ne,ne_eq]at hy
    omega)
def De:FuncId->Option du
 | 62=>some ⟨[],Fi⟩
 |f=>Ge f
noncomputable def NK:cd:=dM Tryz.prog De aG 10
def AR:aE:=fun args kb K=>match args,kb with
 | [aj 0 0,.int γ most],[aB [.sl 1 lo h,.int γ e],ai 5 1 A]=>∃ l:List Int,A=ints ξ l/\h=l.length/\lo<=l.length/\bq l/\l.length<=140737488355328/\
  K (.int γ (cC (l.drop lo) e most).1) [aB [.sl 1 (lo+(cC (l.drop lo) e most).2.1) l.length,.int γ (cC (l.drop lo) e most).2.2],ai 5 1 (ints ξ l)]
 |_,_=>False
def Dx:FuncId->Option du
 | 31=>some ⟨[],AR⟩
 | 36=>some ⟨[],y0 [.cell 0 0 5 1] Fz⟩
 |f=>De f
noncomputable def ug:cd:=dM Tryz.prog Dx aG 10
theorem ah7 (l:List Int) (lo:Nat) (e most:Int) (K:V->KB->Prop) (aq:
 ((e != 0)=true->
 K (ε γ 0) [aB [ζ 1 lo l.length,ε γ e],ai 5 1 (ints ξ l)])/\
 ((e != 0)=false->
 ∃(l_1:List Int),let bp:=(lo+(l_1.length - lo));let aU:=l_1.length - lo<=l_1.length - lo;let θ:=ai 5 1 (ints ξ l_1);let aJ:=K (ε γ 0) [aB [ζ 1 lo l_1.length,ε γ 3],θ];let aN:=K (ε γ 0) [aB [ζ 1 lo l_1.length,ε γ 2],θ];let av:=K (ε γ 0) [aB [ζ 1 lo l_1.length,ε γ 0],θ];let ω:=K (ε γ 0) [aB [ζ 1 lo l_1.length,ε γ 5],θ];ints ξ l=ints ξ l_1/\
 l.length=l_1.length/\
 lo<=l_1.length/\
 (∀(c:Int),dW c l_1->
 0<=c/\
 c<256)/\
 l_1.length<=140737488355328/\
 e=0/\
 (∀(v n:Nat),jN 0 0 (ax lo l_1)=Aw.got v n->
 (((↑n:Int) == 0)=true->
 av)/\
 (((↑n:Int) == 0)=false->
 (decide ((↑v:Int) > most)=true->
 (true=true->
 ω)/\
 (true=false->
 av))/\
 (decide ((↑v:Int) > most)=false->
 aA (↑n:Int)/\
 True/\
 (↑n:Int).toNat<=l_1.length - lo/\
 aU/\
 K (ε γ (↑v:Int)) [aB [ζ 1 (lo+(↑n:Int).toNat) bp,ε γ 0],θ])))/\
 (jN 0 0 (ax lo l_1)=Aw.short->
 (true=true->
 aN)/\
 (true=false->
 (decide (0 > most)=true->
 (false=true->
 ω)/\
 (false=false->
 aN))/\
 (decide (0 > most)=false->
 aA 0/\
 True/\
 0<=l_1.length - lo/\
 aU/\
 K (ε γ 0) [aB [ζ 1 (lo+0) bp,ε γ 2],θ])))/\
 (jN 0 0 (ax lo l_1)=Aw.form->
 (true=true->
 aJ)/\
 (true=false->
 (decide (0 > most)=true->
 (false=true->
 ω)/\
 (false=false->
 aJ))/\
 (decide (0 > most)=false->
 aA 0/\
 True/\
 0<=l_1.length - lo/\
 aU/\
 K (ε γ 0) [aB [ζ 1 (lo+0) bp,ε γ 3],θ]))))
 ):aI Tryz.prog NK (aG 31) 31 [aj 0 0,.int γ most] [aB [.sl 1 lo l.length,.int γ e],ai 5 1 (ints ξ l)] K:=by apply Eq.mp (a:=aq);kernel_rfl
theorem aiJ (l:List Int) (lo:Nat) (e most:Int) (K:V->KB->Prop) (aq:
 ∃(l_1:List Int),let aJ:=ai 5 1 (ints ξ l_1);let θ:=(cC (ax lo l_1) e most);let aU:=θ.fst.toNat<=l_1.length - (lo+θ.snd.fst);let aN:=(l_1.length - (lo+θ.snd.fst));let av:=K (ζ 2 0 0) [aB [ζ 1 (lo+θ.snd.fst) l_1.length,ε γ θ.snd.snd],aJ,ai 5 1 []];let ω:=(ax (lo+θ.snd.fst+0) (ay (lo+θ.snd.fst+θ.fst.toNat) (ints ξ l_1)));ints ξ l=ints ξ l_1/\
 l.length=l_1.length/\
 lo<=l_1.length/\
 (∀(c:Int),dW c l_1->
 0<=c/\
 c<256)/\
 l_1.length<=140737488355328/\
 ((θ.snd.snd != 0)=true->
 av)/\
 ((θ.snd.snd != 0)=false->
 (decide (θ.fst > (↑aN:Int))=true->
 ((θ.snd.snd == 0)=true->
 K (ζ 2 0 0) [aB [ζ 1 (lo+θ.snd.fst) l_1.length,ε γ 2],aJ,ai 5 1 []])/\
 ((θ.snd.snd == 0)=false->
 av))/\
 (decide (θ.fst > (↑aN:Int))=false->
 True/\
 aA θ.fst/\
 0<=θ.fst.toNat/\
 aU/\
 (lo+θ.snd.fst+θ.fst.toNat<=(ints ξ l_1).length/\
 True)/\
 ω.length<=140737488355328/\
 oM ω.flatten/\
 aA θ.fst/\
 True/\
 aU/\
 l_1.length - (lo+θ.snd.fst)<=l_1.length - (lo+θ.snd.fst)/\
 K (ζ 2 0 ω.length) [aB [ζ 1 (lo+θ.snd.fst+θ.fst.toNat) (lo+θ.snd.fst+aN),ε γ θ.snd.snd],aJ,ai 5 1 ω]))
 ):aI Tryz.prog ug (aG 32) 32 [aj 0 0,.int γ most] [aB [.sl 1 lo l.length,.int γ e],ai 5 1 (ints ξ l)] (eX [.slot 0 5 1] K):=by apply Eq.mp (a:=aq);kernel_rfl
theorem aiT (a:List Int) (B:List (List D)) (K:V->KB->Prop) (aq:
 ∃(a_1:List Int),let θ:=(a_1++aZ (↑B.length:Int));ints ξ a=ints ξ a_1/\
 a.length=a_1.length/\
 a_1.length<=10000000/\
 jE (↑B.length:Int)/\
 True/\
 θ.length<=(ints ξ θ).length/\
 (θ.length+B.length)*1<=140737488355328/\
 K (au []) [aB [ζ 2 0 (θ.length+B.length)],aw,ai 5 1 (ay θ.length (ints ξ θ)++B)]
 ):aI Tryz.prog ug (aG 37) 37 [aj 0 0,aC (.sl 1 B)] [aB [.sl 1 0 a.length],ai 5 1 (ints ξ a)] (dp 2 K):=by apply Eq.mp (a:=aq);kernel_rfl
theorem ahg (A:List (List D)) (n:Nat) (K:V->KB->Prop) (aq:
 let θ:=(ax 0 (ay n A));(n<=A.length/\
 True)/\
 θ.length<=140737488355328/\
 oM θ.flatten/\
 K (ζ 2 0 θ.length) [aB [ζ 1 0 n],ai 5 1 A,ai 5 1 θ]
 ):aI Tryz.prog ug (aG 40) 40 [aj 0 0] [aB [.sl 1 0 n],ai 5 1 A] K:=by apply Eq.mp (a:=aq);kernel_rfl
theorem aim (A:List (List D)) (K:V->KB->Prop) (aq:
 A.length<=140737488355328/\
 K (aj 0 0) [aB [ζ 1 0 A.length,ε γ 0],ai 5 1 A]
 ):aI Tryz.prog ug (aG 30) 30 [aC (.sl 1 A)] [] (dp 0 K):=by apply Eq.mp (a:=aq);kernel_rfl
theorem ahF (l:List Int) (lo:Nat) (e:Int) (K:V->KB->Prop) (aq:
 let θ:=K (ε γ e) [aB [ζ 1 lo l.length,ε γ e],ai 5 1 (ints ξ l)];(decide ((↑(l.length - lo):Int) > 0)=true->
 ((e == 0)=true->
 K (ε γ 3) [aB [ζ 1 lo l.length,ε γ 3],ai 5 1 (ints ξ l)])/\
 ((e == 0)=false->
 θ))/\
 (decide ((↑(l.length - lo):Int) > 0)=false->
 θ)
 ):aI Tryz.prog ug (aG 35) 35 [aj 0 0] [aB [.sl 1 lo l.length,.int γ e],ai 5 1 (ints ξ l)] K:=by apply Eq.mp (a:=aq);kernel_rfl
theorem ahJ (A:List (List D)) (lo hi:Nat) (e:Int) (K:V->KB->Prop) (aq:
 K (ε γ e) [aB [ζ 1 lo hi,ε γ e],ai 5 1 A]
 ):aI Tryz.prog ug (aG 65) 65 [aj 0 0] [aB [.sl 1 lo hi,.int γ e],ai 5 1 A] K:=by apply Eq.mp (a:=aq);kernel_rfl
theorem YW:dD Tryz.prog Ge:=fun f k h=>by
 unfold Ge at h
 split at h<;>first | (cases h;first | exact J_ | exact Zr Tp | exact J9) | cases h
theorem S6:dD Tryz.prog De:=fun f k h=>by
 unfold De at h
 split at h
 ·cases h;exact adf
 ·exact YW _ _ h
theorem Ym:cx Tryz.prog NK:=dP mixed S6 aG 10
theorem qq {l:List Int} (h:bq l) (n:Nat):bq (l.drop n):=fun c hc=>h c (List.mem_of_mem_drop hc)
theorem TB:aO Tryz.prog 31 AR:=eC Ym mixed (fun args kb K h=>by
 unfold AR at h;split at h<;>try exact h.elim
 rename_i most lo _ e _
 obtain⟨l,rfl,rfl,hlo,hb,hl,h⟩:=h
 refine⟨aG 31,ah7 l lo e most K ⟨fun hc=>?_,fun hc=>?_⟩⟩
 ·simp only[bne_iff_ne,ne_eq]at hc
  unfold cC at h
  rw[if_neg hc]at h
  exact h
 ·simp only[bne_eq_false_iff_eq]at hc
  subst hc
  refine⟨l,rfl,rfl,hlo,hb,hl,rfl,fun v n hn=>⟨fun h0=>?_,fun h0=>⟨fun hv=>⟨fun _=>?_,fun h=>by simp at h⟩,fun hv=>⟨by unfold aA;omega,trivial,?_,ar _,?_⟩⟩⟩,fun hn=>⟨fun _=>?_,fun h=>by simp at h⟩,fun hn=>⟨fun _=>?_,fun h=>by simp at h⟩⟩
  ·obtain⟨_,h2,_⟩:=Df (qq hb lo) hn
   have:=ke (v:Int)
   simp only[beq_iff_eq]at h0
   omega
  ·simp only[decide_eq_true_eq]at hv
   unfold cC at h
   rw[if_pos rfl,hn]at h
   simp only[if_pos (show most<(v:Int)from hv)]at h
   exact h
  ·obtain⟨_,h2,r,h3⟩:=Df (qq hb lo) hn
   have:=congrArg List.length h3
   rw[gm,bn]at this
   omega
  ·simp only[decide_eq_false_iff_not]at hv
   unfold cC at h
   rw[if_pos rfl,hn]at h
   simp only[if_neg (show ¬ most<(v:Int)from hv)]at h
   rw[show lo+(l.length - lo)=l.length by omega]
   exact h
  ·unfold cC at h
   rw[if_pos rfl,hn]at h
   exact h
  ·unfold cC at h
   rw[if_pos rfl,hn]at h
   exact h)
theorem UF:dD Tryz.prog Dx:=fun f k h=>by
 unfold Dx at h
 split at h
 ·cases h;exact TB
 ·cases h;exact C8 adZ _
 ·exact S6 _ _ h
theorem vO:cx Tryz.prog ug:=dP mixed UF aG 10
def AS:aE:=fun args kb K=>match args,kb with
 | [aj 0 0,.int γ most],[aB [.sl 1 lo h,.int γ e],ai 5 1 A]=>∃ l:List Int,A=ints ξ l/\h=l.length/\lo<=l.length/\bq l/\l.length<=140737488355328/\
  K (.sl 2 0 (gX (l.drop lo) e most).1.length) [aB [.sl 1 (lo+(gX (l.drop lo) e most).2.1) l.length,.int γ (gX (l.drop lo) e most).2.2],ai 5 1 (ints ξ l),ai 5 1 (ints ξ (gX (l.drop lo) e most).1)]
 |_,_=>False
theorem TK:aO Tryz.prog 32 AS:=Ld vO mixed [.slot 0 5 1] (fun args kb K h=>by
 unfold AS at h;split at h<;>try exact h.elim
 rename_i most lo _ e _
 obtain⟨l,rfl,rfl,hlo,hb,hl,h⟩:=h
 refine⟨aG 32,aiJ l lo e most K ⟨l,rfl,rfl,hlo,hb,by omega,?_⟩⟩
 have hv:=zr (qq hb lo) e most
 rw[gm]at hv
 unfold gX at h
 generalize hr:cC (l.drop lo) e most=r at h hv ⊢
 obtain⟨n,u,e'⟩:=r
 simp only at h hv ⊢
 refine⟨fun hc=>?_,fun hc=>⟨fun hx=>⟨fun hy=>?_,fun hy=>?_⟩,fun hx=>?_⟩⟩
 ·simp only[bne_iff_ne,ne_eq]at hc
  rw[if_neg hc]at h
  exact h
 ·simp only[decide_eq_true_eq]at hx
  simp only[bne_eq_false_iff_eq]at hc
  subst hc
  rw[if_pos rfl,if_pos (by rw[gm,gm];omega)]at h
  exact h
 ·rw[bne,hy]at hc
  cases hc
 ·simp only[decide_eq_false_iff_not]at hx
  simp only[bne_eq_false_iff_eq]at hc
  subst hc
  rw[if_pos rfl,if_neg (by rw[gm,gm];omega)]at h
  have kW:aA n:=hv.1
  have e1:ax (lo+u+0) (ay (lo+u+n.toNat) (ints ξ l))=ints ξ (ay n.toNat (ax u (ax lo l))):=by
   rw[Nat.add_zero,List.drop_take,Cy,oX,List.drop_drop,Nat.add_sub_cancel_left]
  rw[e1]
  simp only[List.drop_drop,bi]at h ⊢
  have e3:lo+u+(l.length - (lo+u))=l.length:=by omega
  rw[e3]
  refine⟨trivial,kW,bj _,by omega,⟨by omega,trivial⟩,by rw[cW,gm];omega,⟨o9⟩,kW,trivial,by omega,ar _,?_⟩
  rw[show lo+u+n.toNat=lo+(u+n.toNat) by omega]
  exact h)
def FA:aE:=fun args kb K=>match args,kb with
 | [aj 0 0,aC (.sl 1 B)],[aB [.sl 1 0 h],ai 5 1 A]=>∃ a b:List Int,A=ints ξ a/\B=ints ξ b/\h=a.length/\a.length<=1000000/\b.length<=1000000/\
  K (.φ []) [aB [.sl 2 0 (a++cK b).length],aw,ai 5 1 (ints ξ (a++cK b))]
 |_,_=>False
theorem ad0:aO Tryz.prog 37 FA:=lF vO mixed (fun args kb K h=>by
 unfold FA at h;split at h<;>try exact h.elim
 obtain⟨a,b,rfl,rfl,rfl,h1,h2,h⟩:=h
 refine⟨aG 37,aiT a _ K ⟨a,rfl,rfl,by omega,⟨by rw[bi];omega⟩,trivial,by simp only[bi];exact ar _,?_,?_⟩⟩
 ·have:=(ke ((ints ξ b).length:Int)).2
  rw[bn,bi]
  rw[bi]at this
  omega
 ·rw[bi,oX,cQ,<- pR,<- bn,dX]
  exact h)
def Fy:aE:=fun args kb K=>match args,kb with
 | [aj 0 0],[aB [.sl 1 0 h],ai 5 1 A]=>∃ a:List Int,A=ints ξ a/\h=a.length/\a.length<=1000000/\K (.sl 2 0 a.length) [aB [.sl 1 0 a.length],ai 5 1 (ints ξ a),ai 5 1 (ints ξ a)]
 |_,_=>False
theorem ZY {k:IntKind} {a:List Int}:ax 0 (ay a.length (ints k a))=ints k a:=by rw[iD,oX,cQ]
theorem acy:aO Tryz.prog 40 Fy:=eC vO mixed (fun args kb K h=>by
 unfold Fy at h;split at h<;>try exact h.elim
 obtain⟨a,rfl,rfl,h1,h⟩:=h
 refine⟨aG 40,ahg _ _ K ?_⟩
 dsimp only
 rw[ZY,bi]
 exact⟨⟨ar _,trivial⟩,by omega,⟨o9⟩,h⟩)
def AM:aE:=fun args kb K=>match args,kb with
 | [aC (.sl 1 A)],[]=>A.length<=140737488355328/\K (aj 0 0) [aB [.sl 1 0 A.length,.int γ 0],ai 5 1 A]
 |_,_=>False
theorem TD:aO Tryz.prog 30 AM:=lF vO mixed (fun args kb K h=>by
 unfold AM at h;split at h<;>try exact h.elim
 exact⟨aG 30,aim _ K h⟩)
def AQ:aE:=fun args kb K=>match args,kb with
 | [aj 0 0],[aB [.sl 1 lo h,.int γ e],ai 5 1 A]=>∃ l:List Int,A=ints ξ l/\h=l.length/\
  K (.int γ (iY (l.drop lo) e)) [aB [.sl 1 lo l.length,.int γ (iY (l.drop lo) e)],ai 5 1 (ints ξ l)]
 |_,_=>False
theorem Tu:aO Tryz.prog 35 AQ:=eC vO mixed (fun args kb K h=>by
 unfold AQ at h;split at h<;>try exact h.elim
 rename_i lo _ e _
 obtain⟨l,rfl,rfl,h⟩:=h
 have hd:l.drop lo=[] ↔ l.length - lo=0:=by rw[<- List.length_eq_zero_iff,gm]
 refine⟨aG 35,ahF l lo e K ⟨fun hc=>⟨fun h0=>?_,fun h0=>?_⟩,fun hc=>?_⟩⟩
 ·simp only[decide_eq_true_eq]at hc
  simp only[beq_iff_eq]at h0
  unfold iY at h
  rw[if_pos ⟨fun hh=>by rw[hd]at hh;omega,h0⟩]at h
  exact h
 ·simp only[beq_eq_false_iff_ne,ne_eq]at h0
  unfold iY at h
  rw[if_neg (fun hh=>h0 hh.2)]at h
  exact h
 ·simp only[decide_eq_false_iff_not]at hc
  unfold iY at h
  rw[if_neg (fun hh=>hh.1 (hd.2 (by omega)))]at h
  exact h)
def Fp:aE:=fun args kb K=>match args,kb with
 | [aj 0 0],[aB [.sl 1 lo hi,.int γ e],ai 5 1 A]=>K (.int γ e) [aB [.sl 1 lo hi,.int γ e],ai 5 1 A]
 |_,_=>False
theorem acO:aO Tryz.prog 65 Fp:=eC vO mixed (fun args kb K h=>by
 unfold Fp at h;split at h<;>try exact h.elim
 exact⟨aG 65,ahJ _ _ _ _ K h⟩)
def wZ:FuncId->Option du
 | 32=>some ⟨[],AS⟩
 | 37=>some ⟨[.mK,.fL 1],y0 [.cell 0 0 5 1] FA⟩
 | 40=>some ⟨[],y0 [.cell 0 0 5 1] Fy⟩
 | 30=>some ⟨[.fL 1],AM⟩
 | 35=>some ⟨[],AQ⟩
 | 65=>some ⟨[],Fp⟩
 |f=>Dx f
theorem Ds:dD Tryz.prog wZ:=fun f k h=>by
 unfold wZ at h
 split at h
 ·cases h;exact TK
 ·cases h;exact C8 ad0 _
 ·cases h;exact C8 acy _
 ·cases h;exact TD
 ·cases h;exact Tu
 ·cases h;exact acO
 ·exact UF _ _ h
def Ky:FuncId->Option du:=wZ
theorem Ux:dD Tryz.prog Ky:=Ds
end Go.Proofs.YtfcjngcnifdmnaaGreat
set_option linter.unusedSimpArgs false
set_option linter.unusedVariables false
namespace Vc
open Go Go.Shelf Go.Sort Go.RowKit Go.Proofs
open Go.IntKind renaming i64->γ,u8->ξ,u32->iM
open Go.Value renaming int->ν,map->kT,bool->mG,oneCell'->mH
open List renaming map->ae,drop->ax,take->ay,length_append->bn,getElem?_eq_getElem->bu,getElem?_eq_some_iff->bH,length_map->bT,take_length->cQ,length_take->cW,mem_singleton->da,replicate->dv,mem_append->dz,mem_map->dO,mem_cons->dS,Mem->dW,append_assoc->dX,getElem?_append_left->dY,take_of_length_le->eQ,getElem?_append_right->fk,getElem?_map->fy,mem_of_getElem?->fF,length_drop->gm,mem_cons_of_mem->gn,append_nil->gz,length_cons->gA,getD_eq_getElem?_getD->gO,getElem?_set_ne->gP,mem_append_left->gQ,length_singleton->gZ,drop_zero->iD,getElem?_eq_none->iE,getElem?_take_of_lt->iF,length_set->iG,getElem?_set_self->iN,mem_cons_self->iV,map_append->ja,range->jb,nil_append->jr,take_add_one->jt,flatten_cons->jF,getElem?_of_mem->jG,getElem?_drop->jW,map_cons->kv,length_nil->kP,mem_append_right->kQ,mem_filter->lu,ext_getElem?->mb,eq_nil_of_length_eq_zero->mD
open Nat renaming le_refl->ar,zero_le->bj,beq->cX,zero_add->c9,eq_of_beq_eq_true->de,add_assoc->g_,lor->iW,lt_or_ge->kx,sub_zero->ly,le_trans->mc
open Option renaming some->bb,bind_eq_some_iff->lO,map->ng
open Int renaming toNat_natCast->cN,le_refl->dE
open Bool renaming and_eq_true->jo,not_eq_false'->kr,not_eq_true'->mA
theorem Inv.more {σ:Sg} {E:EH} {kb:KB} {W W':World} (h:Inv σ E kb W) (hos:W'.os=W.os) (uI:W'.tape=W.tape) (hout:W'.output=W.output) (hsz:W.heap.size<=W'.heap.size)
  (cz:∀ b,b<W.heap.size->W'.heap[b]? =W.heap[b]?):Step σ E kb W σ E kb W':=by
 refine⟨⟨h.len,fun i r o h1 h2=>?_,h.eH,fun b o hb=>?_,h.sep⟩,⟨hos,uI,hout,hsz,fun b hb _=>cz b hb⟩,⟨[],by simp⟩,EH.le.refl E,fun _ h=> .inl h,fun _ _ h=> .inl h⟩
 ·have ho:=h.obj i r o h1 h2
  have:=ho.mono (τ:=[]) (W':=W') (EH.le.refl E) (fun b hb=>cz b (ho.lt hb))
  simpa using this
 ·have:=h.fe b o hb
  rw[cz b ((Array.getElem?_eq_some_iff.1 this).1)];exact this
def oB (l:List Int):List Int:=l.mergeSort fun x y=>decide (x<=y)
theorem afP (l:List Int):(oB l).length=l.length:=(List.mergeSort_perm l _).length_eq
theorem RE {E:EH} {k:IntKind}:∀(l:List Int),bh E (ints k l).flatten (l.map (ν k))
 | []=>by simp [ints,bh]
 |a::l=>by
  simp only[ints,kv,jF,List.cons_append,jr,bh,bX]
  exact⟨_,_,rfl,⟨rfl,rfl⟩,by simpa [ints]using RE l⟩
end Vc
set_option linter.unusedSimpArgs false
set_option linter.unusedVariables false
namespace Vc
open Go Go.Shelf Go.Sort Go.RowKit Go.Proofs Go.Maps
open Go.IntKind renaming i64->γ,u8->ξ,u32->iM
open Go.Value renaming int->ν,map->kT,bool->mG,oneCell'->mH
open List renaming map->ae,drop->ax,take->ay,length_append->bn,getElem?_eq_getElem->bu,getElem?_eq_some_iff->bH,length_map->bT,take_length->cQ,length_take->cW,mem_singleton->da,replicate->dv,mem_append->dz,mem_map->dO,mem_cons->dS,Mem->dW,append_assoc->dX,getElem?_append_left->dY,take_of_length_le->eQ,getElem?_append_right->fk,getElem?_map->fy,mem_of_getElem?->fF,length_drop->gm,mem_cons_of_mem->gn,append_nil->gz,length_cons->gA,getD_eq_getElem?_getD->gO,getElem?_set_ne->gP,mem_append_left->gQ,length_singleton->gZ,drop_zero->iD,getElem?_eq_none->iE,getElem?_take_of_lt->iF,length_set->iG,getElem?_set_self->iN,mem_cons_self->iV,map_append->ja,range->jb,nil_append->jr,take_add_one->jt,flatten_cons->jF,getElem?_of_mem->jG,getElem?_drop->jW,map_cons->kv,length_nil->kP,mem_append_right->kQ,mem_filter->lu,ext_getElem?->mb,eq_nil_of_length_eq_zero->mD
open Nat renaming le_refl->ar,zero_le->bj,beq->cX,zero_add->c9,eq_of_beq_eq_true->de,add_assoc->g_,lor->iW,lt_or_ge->kx,sub_zero->ly,le_trans->mc
open Option renaming some->bb,bind_eq_some_iff->lO,map->ng
open Int renaming toNat_natCast->cN,le_refl->dE
open Bool renaming and_eq_true->jo,not_eq_false'->kr,not_eq_true'->mA
def AJ:aE:=fun args kb K=>match args,kb with
 | [.mp 0],[.mp aD aW agg sz M]=>K (.mp 1) [.mp aD aW agg sz M,.mp aD aW agg sz M]
 | [.any (.map none)],[]=>K (.any (.map none)) []
 | [.imp aD aW agg sz M],[]=>(M=[]->K (.any (.map none)) [])/\K (.mp 0) [.mp aD aW agg sz M]
 |_,_=>False
theorem ac8 {P:Program} {ρ:Ren} (L:SlLaysW.n5 P ρ):aO P (ρ.f 5) AJ:=fun args kb K h σ E W xs hi hd=>by
 unfold AJ at h
 split at h<;>try exact h.elim
 ·rename_i aD aW agg sz M
  simp only[az,Den]at hd
  obtain⟨x,xs',rfl,⟨r,hr,rfl⟩,rfl⟩:=hd
  obtain⟨h1,es,clock,h2,h3,h4⟩:=hi.obj 0 r _ hr rfl
  refine(AnyW.maps_Clone L r.blk es clock W h2).mono ?_
  rintro e W' ⟨rfl,rfl⟩
  have hlen:σ.length=1:=hi.len
  have ho:ij (σ++[⟨W.heap.size,0,0⟩]) E (W.alloc (.map es clock)) ⟨W.heap.size,0,0⟩ (.mp aD aW agg sz M):=
   ⟨h1,es,clock,(MapKept.heap_alloc W _).1,h3,h4⟩
  have hst:=hi.alloc (.map es clock) ⟨W.heap.size,0,0⟩ (.mp aD aW agg sz M) (fun b hb=>hb) ho
  refine⟨_,.mp 1,_,E,_,rfl,hst,?_,h⟩
  simp only[Den]
  exact⟨⟨W.heap.size,0,0⟩,by rw[fk (by omega),hlen];rfl,rfl⟩
 ·simp only[az,Den]at hd
  obtain⟨x,xs',rfl,rfl,rfl⟩:=hd
  refine(AnyW.maps_Clone_nil L W).mono ?_
  rintro e W' ⟨rfl,rfl⟩
  exact⟨_,.any (.map none),σ,E,_,rfl,Step.refl hi,by simp only[Den],h⟩
 ·rename_i aD aW agg sz M
  simp only[az,Den]at hd
  obtain⟨x,xs',rfl,⟨a,rfl,ha⟩,rfl⟩:=hd
  cases a with
  |none=>
   have ha:M=[]:=ha
   refine(AnyW.maps_Clone_nil L W).mono ?_
   rintro e W' ⟨rfl,rfl⟩
   exact⟨_,.any (.map none),σ,E,_,rfl,Step.refl hi,by simp only[Den],h.1 ha⟩
  |some b=>
   obtain⟨h1,es,clock,h2,h3,h4⟩:=ha
   refine(AnyW.maps_Clone L b es clock W (hi.fe b _ h2)).mono ?_
   rintro e W' ⟨rfl,rfl⟩
   have hlen:σ.length=0:=hi.len
   have ho:ij (σ++[⟨W.heap.size,0,0⟩]) E (W.alloc (.map es clock)) ⟨W.heap.size,0,0⟩ (.mp aD aW agg sz M):=
    ⟨h1,es,clock,(MapKept.heap_alloc W _).1,h3,h4⟩
   have hst:=hi.alloc (.map es clock) ⟨W.heap.size,0,0⟩ (.mp aD aW agg sz M) (fun b hb=>hb) ho
   refine⟨_,.mp 0,_,E,_,rfl,hst,?_,h.2⟩
   simp only[Den]
   exact⟨⟨W.heap.size,0,0⟩,by rw[fk (by omega),hlen];rfl,rfl⟩
def AK (g:FuncId):aE:=fun args kb K=>match args,kb with
 | [.mp 0],[.mp aD aW agg sz M]=>K (.fn g [.ptr 1 0]) [.mp aD aW agg sz M,.cells [.mp 0]]
 | [.any (.map none)],[]=>K (.fn g [.ptr 0 0]) [.cells [.any (.map none)]]
 | [.imp aD aW agg sz M],[]=>K (.fn g [.ptr 0 0]) [.cells [.imp aD aW agg sz M]]
 |_,_=>False
theorem ac_ {P:Program} {ρ:Ren} (L:SlLaysZI.n7 P ρ):aO P (ρ.f 7) (AK (ρ.f 10)):=fun args kb K h σ E W xs hi hd=>by
 unfold AK at h
 split at h<;>try exact h.elim
 ·rename_i aD aW agg sz M
  simp only[az,Den]at hd
  obtain⟨x,xs',rfl,⟨r,hr,rfl⟩,rfl⟩:=hd
  refine(callsIn_wide.1 (AnyZI.keys_in L Fence.wide 5 trivial rfl (some r.blk) W)).mono ?_
  rintro e W' ⟨rfl,rfl⟩
  have hlen:σ.length=1:=hi.len
  have hD:aV (σ++[⟨W.heap.size,0,0⟩]) E [V.mp 0] [kT (some r.blk)]:=
   aV.ju (by simp only[Den];exact⟨r,by rw[dY (by omega)];exact hr,rfl⟩) rfl aV.nil
  have hst:=hi.alloc (.cells #[.map (some r.blk)] (ρ.t 23)) ⟨W.heap.size,0,0⟩ (.cells [.mp 0]) (fun b hb=>hb) ⟨_,_,(MapKept.heap_alloc W _).1,hD⟩
  refine⟨_,.fn (ρ.f 10) [.ptr 1 0],_,E,_,rfl,hst,?_,h⟩
  simp only[Den,az]
  exact⟨_,rfl,_,_,rfl,⟨⟨W.heap.size,0,0⟩,by rw[fk (by omega),hlen];rfl,rfl⟩,rfl⟩
 ·simp only[az,Den]at hd
  obtain⟨x,xs',rfl,rfl,rfl⟩:=hd
  refine(callsIn_wide.1 (AnyZI.keys_in L Fence.wide 5 trivial rfl none W)).mono ?_
  rintro e W' ⟨rfl,rfl⟩
  have hlen:σ.length=0:=hi.len
  have hD:aV (σ++[⟨W.heap.size,0,0⟩]) E [V.any (.map none)] [kT none]:=
   aV.ju (by simp only[Den]) rfl aV.nil
  have hst:=hi.alloc (.cells #[.map none] (ρ.t 23)) ⟨W.heap.size,0,0⟩ (.cells [.any (.map none)]) (fun b hb=>hb) ⟨_,_,(MapKept.heap_alloc W _).1,hD⟩
  refine⟨_,.fn (ρ.f 10) [.ptr 0 0],_,E,_,rfl,hst,?_,h⟩
  simp only[Den,az]
  exact⟨_,rfl,_,_,rfl,⟨⟨W.heap.size,0,0⟩,by rw[fk (by omega),hlen];rfl,rfl⟩,rfl⟩
 ·rename_i aD aW agg sz M
  simp only[az,Den]at hd
  obtain⟨x,xs',rfl,⟨a,rfl,ha⟩,rfl⟩:=hd
  refine(callsIn_wide.1 (AnyZI.keys_in L Fence.wide 5 trivial rfl a W)).mono ?_
  rintro e W' ⟨rfl,rfl⟩
  have hlen:σ.length=0:=hi.len
  have hD:aV (σ++[⟨W.heap.size,0,0⟩]) E [V.imp aD aW agg sz M] [kT a]:=
   aV.ju (by simp only[Den];exact⟨a,rfl,ha⟩) rfl aV.nil
  have hst:=hi.alloc (.cells #[.map a] (ρ.t 23)) ⟨W.heap.size,0,0⟩ (.cells [.imp aD aW agg sz M]) (fun b hb=>hb) ⟨_,_,(MapKept.heap_alloc W _).1,hD⟩
  refine⟨_,.fn (ρ.f 10) [.ptr 0 0],_,E,_,rfl,hst,?_,h⟩
  simp only[Den,az]
  exact⟨_,rfl,_,_,rfl,⟨⟨W.heap.size,0,0⟩,by rw[fk (by omega),hlen];rfl,rfl⟩,rfl⟩
structure tY (M:ML):Prop where
 one:∀ e∈M,∃ n,e.1=[n]/\-9223372036854775808<=n/\n<=9223372036854775807
 nd:(M.map (·.1)).Nodup
 len:M.length<=1000000
def ji (M:ML):List Int:=M.map fun e=>e.1.headD 0
theorem aby {M:ML} (h:tY M):(ji M).Nodup:=by
 unfold ji
 have h1:=h.nd
 have h2:=h.one
 clear h
 induction M with
 |nil=>simp
 |cons e M ih=>
  simp only[kv,List.nodup_cons]at h1 ⊢
  refine⟨fun hm=>h1.1 ?_,ih h1.2 (fun x hx=>h2 x (gn _ hx))⟩
  obtain⟨x,hx,he⟩:=dO.1 hm
  obtain⟨n,hn,_⟩:=h2 e iV
  obtain⟨m,hm',_⟩:=h2 x (gn _ hx)
  rw[hn,hm']at he
  simp only[List.headD_cons]at he
  exact dO.2 ⟨x,hx,by rw[hn,hm',he]⟩
def qo:Value->Option (DataW Unit×List MemPlace):=fun _=>some (.nil,[])
theorem PB {E:EH} {agg:Bool}:∀{es:List MapEntry} {M:ML},cM E [γ] false agg es M->(∀ e∈M,∃ n,e.1=[n]/\-9223372036854775808<=n/\n<=9223372036854775807)->
  es.map (·.key)=(ji M).map (ν γ)/\es.length=M.length
 | [],M,h,_=>by simp only[cM]at h;subst h;exact⟨rfl,rfl⟩
 |e::es,M,h,hk=>by
  simp only[cM]at h
  obtain⟨k,c,l',rfl,⟨_,h2,_⟩,h4⟩:=h
  obtain⟨ih1,ih2⟩:=PB h4 (fun x hx=>hk x (gn _ hx))
  obtain⟨n,hn,_⟩:=hk _ iV
  simp only at hn
  subst hn
  refine⟨?_,by simp [ih2]⟩
  simp only[kv,ji,ih1,h2]
  rfl
theorem ai6 {n:Int} (h1:-9223372036854775808<=n) (h2:n<=9223372036854775807):(Lit.int γ n).wf=true:=by
 have e1:γ.min=-9223372036854775808:=by decide
 have e2:γ.max=9223372036854775807:=by decide
 simp only[Lit.wf,jo,decide_eq_true_eq,e1,e2]
 exact⟨h1,h2⟩
theorem insert_perm {x:Lit×DataW Unit}:∀(l:List (Lit×DataW Unit)),(DataW.insert x l).Perm (x::l)
 | []=>List.Perm.refl _
 |y::r=>by
  simp only[DataW.insert]
  split
  ·exact List.Perm.refl _
  ·exact((insert_perm r).cons y).trans (List.Perm.swap x y r)
theorem Qc (l:List (Lit×DataW Unit)):(l.foldr DataW.insert []).Perm l:=by
 induction l with
 |nil=>exact List.Perm.refl _
 |cons x l ih=>exact(insert_perm _).trans (ih.cons x)
theorem aet {P:Program} {k:TypeId} (hk:P.underlying k=some (.int γ)) {E:EH} {agg:Bool} {es:Array MapEntry} {clock:Nat} {M:ML} (h:cM E [γ] false agg es.toList M) (hb:tW es.toList clock) (hM:tY M) {w:World} {b:Nat} (hw:w.heap[b]? =some (.map es clock)):
  ∃ D0:DataW Unit,w.ownsMap P k qo b es.size D0/\(intKeys D0).Perm (ji M)/\Maps.size D0=M.length:=by
 obtain⟨h1,h2⟩:=PB h hM.one
 have Rp:∀ x∈es.toList,∃ n:Int,x.key= .int γ n/\Go.WideElems.rd P k qo x=some (.int γ n,.nil):=fun x hx=>by
  have hx':x.key∈es.toList.map (·.key):=dO.2 ⟨x,hx,rfl⟩
  rw[h1]at hx'
  obtain⟨n,hn,he⟩:=dO.1 hx'
  obtain⟨e,heM,wo⟩:=dO.1 hn
  obtain⟨m,hm,b1,b2⟩:=hM.one e heM
  rw[hm]at wo
  simp only[List.headD_cons]at wo
  subst wo
  refine⟨m,he.symm,?_⟩
  have hkey:keyOf P k x.key=some (.int γ m):=by
   rw[<- he]
   simp [keyOf,hk,mapKey,ai6 b1 b2]
  simp [Go.WideElems.rd,hkey,qo]
 have hnd:(es.toList.map (·.key)).Nodup:=by
  rw[h1]
  exact List.pairwise_map.2 ((aby hM).imp fun hne e=>hne (by simpa using e))
 have hF:Go.WideElems.Fit P k qo es clock:=⟨by
  have:=hM.len
  simp only[maxLen]
  simp only[Array.length_toList]at h2
  omega,⟨fun x hx=>hb.2 x hx,hb.1,hnd⟩,fun x hx=>by obtain⟨n,_,h3⟩:=Rp x hx;exact⟨_,h3⟩⟩
 refine⟨.map ((es.toList.map (Go.WideElems.rg P k qo)).foldr DataW.insert []),⟨es,clock,hw,hF,ar _,rfl⟩,?_,?_⟩
 ·show((List.foldr DataW.insert [] (es.toList.map (Go.WideElems.rg P k qo))).map fun p=>Go.intOf p.1).Perm _
  refine((Qc _).map _).trans ?_
  have e2:(es.toList.map (Go.WideElems.rg P k qo)).map (fun p=>Go.intOf p.1)=ji M:=by
   have e3:(es.toList.map (Go.WideElems.rg P k qo)).map (fun p=>ν γ (Go.intOf p.1))=es.toList.map (·.key):=by
    rw[List.map_map]
    refine List.map_congr_left fun x hx=>?_
    obtain⟨n,h3,h4⟩:=Rp x hx
    simp only[Function.comp,Go.WideElems.rg,h4,Option.getD_some,Go.intOf,h3]
   rw[h1]at e3
   have e4:((es.toList.map (Go.WideElems.rg P k qo)).map (fun p=>Go.intOf p.1)).map (ν γ)=(ji M).map (ν γ):=by rw[List.map_map];exact e3
   exact(List.map_inj_right (fun a b e=>by simpa using e)).1 e4
  rw[e2]
 ·show(List.foldr DataW.insert [] (es.toList.map (Go.WideElems.rg P k qo))).length=_
  rw[(Qc _).length_eq,bT]
  exact h2
def AW (g:FuncId) (ty:TypeId):aE:=fun args kb K=>match args,kb with
 | [.fn g' [.ptr 0 0]],[.cells [.mp 1],.mp aD aW agg sz M]=>g'=g/\aD=[γ]/\aW=false/\tY M/\(M=[]->K (.any (.slice none 0 0)) [.cells [.mp 1],.mp aD aW agg sz M])/\
  K (.sl 2 0 M.length) [.cells [.mp 1],.mp aD aW agg sz M,.row ty 1 (ints γ (oB (ji M)))]
 | [.fn g' [.ptr 0 0]],[.cells [.any (.map none)]]=>g'=g/\K (.any (.slice none 0 0)) [.cells [.any (.map none)]]
 | [.fn g' [.ptr 0 0]],[.cells [.imp aD aW agg sz M]]=>g'=g/\aD=[γ]/\aW=false/\tY M/\(M=[]->K (.any (.slice none 0 0)) [.cells [.imp aD aW agg sz M]])/\
  K (.sl 1 0 M.length) [.cells [.imp aD aW agg sz M],.row ty 1 (ints γ (oB (ji M)))]
 |_,_=>False
theorem Vl {a b:List Int} (h:a.Perm b):oB a=oB b:=mergeSort_of_perm_i h
theorem Vo {P:Program} {lp kq:Ren} (Lk:SlLaysZI.n10 P lp) (Ls:SlLaysZI.n6 P kq) (hs:∀ m,AnyZI.SortsIn P kq Fence.wide m)
  (e9:∀ args w,(callFunc (kq.f 9) args).run P w= .ok (.enter (kq.f 9) args) w) (eg:∀ args w,(callFunc (lp.f 10) args).run P w= .ok (.enter (lp.f 10) args) w)
  {W:World} {E:EH} {rb b:Nat} {agg:Bool} {es:Array MapEntry} {clock:Nat} {M:ML} (hlt:rb<W.heap.size) (hcell:W.cell? ⟨rb,0,none⟩=some (.map (some b))) (m2:W.heap[b]? =some (.map es clock)) (m3:cM E [γ] false agg es.toList M) (m4:tW es.toList clock) (hM:tY M):
  Calls P (kq.f 6) #[.func (.func (lp.f 10)) #[] #[.pointer (some ⟨rb,0,none⟩)]] W fun e W'=>∃ v,e= .returned v/\RowKit.Below W.heap.size W W'/\((M=[]/\v= .slice none 0 0)∨
   ∃ gb cap,v= .slice (some ⟨gb,0,none⟩) M.length cap/\M.length<=cap/\W.heap.size<=gb/\ij [] E W' ⟨gb,cap,1⟩ (.row (kq.t 26) 1 (ints γ (oB (ji M))))):=by
 obtain⟨D0,o1,o2,o3⟩:=aet Lk.t26 m3 m4 hM m2
 have hseq:SeqGives Fence.wide 2 P (lp.f 10) #[.pointer (some ⟨rb,0,none⟩)] encZ (fun ss=>ss.Perm (intKeys D0)) (Maps.size D0) W:=
  AnyZI.keys_gives Lk Fence.wide _ trivial rfl (by omega) rb b es.size D0 W hlt hcell o1
 have hlen:=hM.len
 have cS:=AnyZI.sorted_in Ls Fence.wide 5 trivial trivial trivial trivial rfl (by omega) (hs _) e9 (lp.f 10) #[.pointer (some ⟨rb,0,none⟩)] trivial eg _ _ (by rw[o3];simp only[maxLen];omega) (by rw[o3];omega) W hseq
 refine(callsIn_wide.1 cS).mono ?_
 rintro e W' ⟨v,ss,rfl,hS,hrow,Rv,cz⟩
 have hp:ss.Perm (ji M):=hS.trans o2
 have j6:ss.length=M.length:=by rw[hp.length_eq];unfold ji;rw[bT]
 rcases hrow.2 with ⟨rfl,hz⟩ | ⟨gb,cap,cur,rfl,hbase,hgb,c1,c2,c3,c4⟩
 ·exact⟨_,rfl,cz,.inl ⟨mD (by omega),rfl⟩⟩
 ·have hss:ss.mergeSort (fun x y=>decide (x<=y))=oB (ji M):=Vl hp
  have Rr:(oB (ji M)).length=M.length:=by rw[afP];unfold ji;rw[bT]
  refine⟨_,rfl,cz,.inr ⟨gb,cap,by rw[j6],by omega,by omega,rfl,fun e he=>by simp only[ints,dO]at he;obtain⟨_,_,rfl⟩:=he;rfl,by rw[bi,Rr];simp only;omega,c2,.inr ⟨cur,hgb,by simp only;omega,?_⟩⟩⟩
  rw[bi,Rr,<- j6]
  simp only[Nat.mul_one]at c4 ⊢
  rw[c4,hss]
  exact RE _
theorem Vp {P:Program} {lp kq:Ren} (Lk:SlLaysZI.n10 P lp) (Ls:SlLaysZI.n6 P kq) (hs:∀ m,AnyZI.SortsIn P kq Fence.wide m)
  (e9:∀ args w,(callFunc (kq.f 9) args).run P w= .ok (.enter (kq.f 9) args) w) (eg:∀ args w,(callFunc (lp.f 10) args).run P w= .ok (.enter (lp.f 10) args) w)
  {W:World} {rb:Nat} (hlt:rb<W.heap.size) (hcell:W.cell? ⟨rb,0,none⟩=some (.map none)):
  Calls P (kq.f 6) #[.func (.func (lp.f 10)) #[] #[.pointer (some ⟨rb,0,none⟩)]] W fun e W'=>e= .returned (.slice none 0 0)/\RowKit.Below W.heap.size W W':=by
 have hseq:SeqGives Fence.wide 2 P (lp.f 10) #[.pointer (some ⟨rb,0,none⟩)] encZ (fun ss:List Int=>ss=[]) 0 W:=
  AnyZI.keys_gives_nil Lk Fence.wide _ trivial rfl rb W hlt hcell
 have cS:=AnyZI.sorted_in Ls Fence.wide 5 trivial trivial trivial trivial rfl (by omega) (hs _) e9 (lp.f 10) #[.pointer (some ⟨rb,0,none⟩)] trivial eg _ 0 (bj _) (by omega) W hseq
 refine(callsIn_wide.1 cS).mono ?_
 rintro e W' ⟨v,ss,rfl,hS,hrow,Rv,cz⟩
 exact⟨by rw[Rv.2 hS],cz⟩
theorem GA {σ:Sg} {E:EH} {W:World} {kb:KB} (hi:Inv σ E kb W) {r:Re} (hr:σ[0]? =some r) {v:V} (hk:kb[0]? =some (.cells [v])) (hna:∀ m cs,v≠.arr m cs):∃ y,Den σ E v y/\W.cell? ⟨r.blk,0,none⟩=some y/\r.blk<W.heap.size:=by
 obtain⟨arr,ty',k1,k2⟩:=hi.obj 0 r _ hr hk
 obtain⟨zs,zs',k3,k4,k5⟩:=k2.iT
 simp only[aV]at k5
 subst k5
 rcases k4 with ⟨y,rfl,_,k4⟩ | ⟨m,cs,e,_,_⟩
 ·refine⟨y,k4,?_,(Array.getElem?_eq_some_iff.1 k1).1⟩
  have:arr=#[y]:=by apply Array.ext';rw[k3];rfl
  rw[vV k1,this];rfl
 ·exact(hna _ _ e).elim
theorem adL {P:Program} {lp kq:Ren} (Lk:SlLaysZI.n10 P lp) (Ls:SlLaysZI.n6 P kq) (hs:∀ m,AnyZI.SortsIn P kq Fence.wide m)
  (e9:∀ args w,(callFunc (kq.f 9) args).run P w= .ok (.enter (kq.f 9) args) w) (eg:∀ args w,(callFunc (lp.f 10) args).run P w= .ok (.enter (lp.f 10) args) w):
  aO P (kq.f 6) (AW (lp.f 10) (kq.t 26)):=fun args kb K h σ E W xs hi hd=>by
 unfold AW at h
 split at h<;>try exact h.elim
 ·rename_i g' aD aW agg sz M
  obtain⟨rfl,rfl,rfl,hM,hnil,h⟩:=h
  simp only[az,Den]at hd
  obtain⟨x,xs',rfl,⟨vs,rfl,y,ys,rfl,⟨r,hr,rfl⟩,rfl⟩,rfl⟩:=hd
  obtain⟨y,k4,hcell,hlt⟩:=GA hi hr rfl (fun _ _ e=>by cases e)
  simp only[Den]at k4
  obtain⟨r1,hr1,rfl⟩:=k4
  obtain⟨m1,es,clock,m2,m3,m4⟩:=hi.obj 1 r1 _ hr1 rfl
  refine(Vo Lk Ls hs e9 eg hlt hcell m2 m3 m4 hM).mono ?_
  rintro e W' ⟨v,rfl,cz,⟨H4,rfl⟩ | ⟨gb,cap,rfl,c1,c2,c3⟩⟩
  ·exact⟨_,.any (.slice none 0 0),σ,E,_,rfl,hi.more cz.os cz.tape cz.output cz.size cz.block,by simp only[Den],hnil H4⟩
  ·have hgrow:=hi.grow (W':=W') ⟨gb,cap,1⟩ (.row (kq.t 26) 1 (ints γ (oB (ji M)))) cz.os cz.tape cz.output cz.size cz.block (fun b hb=>by have:=hb.2;simp only at this;omega) c3
   refine⟨_,.sl 2 0 M.length,_,E,_,rfl,hgrow,?_,h⟩
   simp only[Den]
   exact⟨⟨gb,cap,1⟩,some ⟨gb,0,none⟩,by rw[fk (by rw[hi.len];exact ar _),hi.len];rfl,rfl,bj _,c1,fun _=>by simp⟩
 ·rename_i g'
  obtain⟨rfl,h⟩:=h
  simp only[az,Den]at hd
  obtain⟨x,xs',rfl,⟨vs,rfl,y,ys,rfl,⟨r,hr,rfl⟩,rfl⟩,rfl⟩:=hd
  obtain⟨y,k4,hcell,hlt⟩:=GA hi hr rfl (fun _ _ e=>by cases e)
  simp only[Den]at k4
  subst k4
  refine(Vp Lk Ls hs e9 eg hlt hcell).mono ?_
  rintro e W' ⟨rfl,cz⟩
  exact⟨_,.any (.slice none 0 0),σ,E,_,rfl,hi.more cz.os cz.tape cz.output cz.size cz.block,by simp only[Den],h⟩
 ·rename_i g' aD aW agg sz M
  obtain⟨rfl,rfl,rfl,hM,hnil,h⟩:=h
  simp only[az,Den]at hd
  obtain⟨x,xs',rfl,⟨vs,rfl,y,ys,rfl,⟨r,hr,rfl⟩,rfl⟩,rfl⟩:=hd
  obtain⟨y,k4,hcell,hlt⟩:=GA hi hr rfl (fun _ _ e=>by cases e)
  simp only[Den]at k4
  obtain⟨a,rfl,ha⟩:=k4
  cases a with
  |none=>
   refine(Vp Lk Ls hs e9 eg hlt hcell).mono ?_
   rintro e W' ⟨rfl,cz⟩
   exact⟨_,.any (.slice none 0 0),σ,E,_,rfl,hi.more cz.os cz.tape cz.output cz.size cz.block,by simp only[Den],hnil ha⟩
  |some b=>
   obtain⟨m1,es,clock,m2,m3,m4⟩:=ha
   refine(Vo Lk Ls hs e9 eg hlt hcell (hi.fe b _ m2) m3 m4 hM).mono ?_
   rintro e W' ⟨v,rfl,cz,⟨H4,rfl⟩ | ⟨gb,cap,rfl,c1,c2,c3⟩⟩
   ·exact⟨_,.any (.slice none 0 0),σ,E,_,rfl,hi.more cz.os cz.tape cz.output cz.size cz.block,by simp only[Den],hnil H4⟩
   ·have hgrow:=hi.grow (W':=W') ⟨gb,cap,1⟩ (.row (kq.t 26) 1 (ints γ (oB (ji M)))) cz.os cz.tape cz.output cz.size cz.block (fun b hb=>by have:=hb.2;simp only at this;omega) c3
    refine⟨_,.sl 1 0 M.length,_,E,_,rfl,hgrow,?_,h⟩
    simp only[Den]
    exact⟨⟨gb,cap,1⟩,some ⟨gb,0,none⟩,by rw[fk (by rw[hi.len];exact ar _),hi.len];rfl,rfl,bj _,c1,fun _=>by simp⟩
end Vc
namespace Go.Proofs.YtfcjngcnifdmnaaGreat
open Go.Shelf
open Go.IntKind renaming i64->γ,u8->ξ,u32->iM
open Vc.V renaming any->δ,int->ε,sl->ζ,sb->ο,ptr->aj,φ->au,dat->aC,aa->aR,mp->aY,arr->bF,agg->fz
open Vc.D renaming val->η,sl->χ
open Go.Value renaming int->ν,map->kT,bool->mG,oneCell'->mH
open List renaming map->ae,drop->ax,take->ay,length_append->bn,getElem?_eq_getElem->bu,getElem?_eq_some_iff->bH,length_map->bT,take_length->cQ,length_take->cW,mem_singleton->da,replicate->dv,mem_append->dz,mem_map->dO,mem_cons->dS,Mem->dW,append_assoc->dX,getElem?_append_left->dY,take_of_length_le->eQ,getElem?_append_right->fk,getElem?_map->fy,mem_of_getElem?->fF,length_drop->gm,mem_cons_of_mem->gn,append_nil->gz,length_cons->gA,getD_eq_getElem?_getD->gO,getElem?_set_ne->gP,mem_append_left->gQ,length_singleton->gZ,drop_zero->iD,getElem?_eq_none->iE,getElem?_take_of_lt->iF,length_set->iG,getElem?_set_self->iN,mem_cons_self->iV,map_append->ja,range->jb,nil_append->jr,take_add_one->jt,flatten_cons->jF,getElem?_of_mem->jG,getElem?_drop->jW,map_cons->kv,length_nil->kP,mem_append_right->kQ,mem_filter->lu,ext_getElem?->mb,eq_nil_of_length_eq_zero->mD
open Vc.KO renaming row->ai,dead->aw,cells->aB,objs->fE
open Nat renaming le_refl->ar,zero_le->bj,beq->cX,zero_add->c9,eq_of_beq_eq_true->de,add_assoc->g_,lor->iW,lt_or_ge->kx,sub_zero->ly,le_trans->mc
open Option renaming some->bb,bind_eq_some_iff->lO,map->ng
open Int renaming toNat_natCast->cN,le_refl->dE
open Bool renaming and_eq_true->jo,not_eq_false'->kr,not_eq_true'->mA
def RL:Go.Shelf.Ren:=⟨fun | 7=>98 | 10=>114 | n=>n,fun | 23=>82 | 26=>3 | 3=>133 | 28=>162 | 0=>0 | 27=>161 | 33=>135 | 4=>4 | n=>n,fun | n=>n⟩
theorem ji:Go.Proofs.SlLaysZI.n7 Tryz.prog RL:={
 mixed:=by kernel_rfl
 f7:=⟨Tryz.f98.name,by decide,Tryz.func98.trans (congrArg some (by kernel_rfl))⟩
 f10:=⟨Tryz.f114.name,by decide,Tryz.func114.trans (congrArg some (by kernel_rfl))⟩
 t0:=Tryz.underlying0
 a0:=Tryz.isAgg0
 z0:=Tryz.sizeOf0
 v0:=Tryz.zeroValue0
 t4:=Tryz.underlying4
 a4:=Tryz.isAgg4
 z4:=Tryz.sizeOf4
 v4:=Tryz.zeroValue4
 t23:=Tryz.underlying82
 a23:=Tryz.isAgg82
 z23:=Tryz.sizeOf82
 v23:=Tryz.zeroValue82
 t26:=Tryz.underlying3
 a26:=Tryz.isAgg3
 z26:=Tryz.sizeOf3
 v26:=Tryz.zeroValue3
 t27:=Tryz.underlying161
 a27:=Tryz.isAgg161
 z27:=Tryz.sizeOf161
 v27:=Tryz.zeroValue161
 t28:=Tryz.underlying162
 a28:=Tryz.isAgg162
 z28:=Tryz.sizeOf162
 v28:=Tryz.zeroValue162
 t33:=Tryz.underlying135
 a33:=Tryz.isAgg135
 z33:=Tryz.sizeOf135
 v33:=Tryz.zeroValue135 }
def Vn:Go.Shelf.Ren:=⟨fun | 6=>97 | 8=>112 | 9=>113 | 11=>117 | 13=>119 | 12=>118 | 23=>129 | 24=>130 | 14=>120 | 15=>121 | 16=>122 | 17=>123 | 18=>124 | 19=>125 | 20=>126 | 21=>127 | 22=>128 | 25=>131 | 26=>132 | 27=>133 | 28=>134 | 29=>135 | 30=>136 | 31=>137 | n=>n,fun | 26=>3 | 28=>162 | 24=>38 | 0=>0 | 3=>3 | 37=>129 | 48=>52 | 50=>193 | 4=>4 | 40=>186 | 39=>185 | 45=>173 | 5=>5 | 9=>9 | 51=>194 | 55=>198 | 57=>200 | 58=>43 | 33=>135 | n=>n,fun | n=>n⟩
theorem afR:Go.Proofs.SlLaysZI.n6 Tryz.prog Vn:={
 mixed:=by kernel_rfl
 f6:=⟨Tryz.f97.name,by decide,Tryz.func97.trans (congrArg some (by kernel_rfl))⟩
 f8:=⟨Tryz.f112.name,by decide,Tryz.func112.trans (congrArg some (by kernel_rfl))⟩
 f11:=⟨Tryz.f117.name,by decide,Tryz.func117.trans (congrArg some (by kernel_rfl))⟩
 t0:=Tryz.underlying0
 a0:=Tryz.isAgg0
 z0:=Tryz.sizeOf0
 v0:=Tryz.zeroValue0
 t24:=Tryz.underlying38
 a24:=Tryz.isAgg38
 z24:=Tryz.sizeOf38
 v24:=Tryz.zeroValue38
 t26:=Tryz.underlying3
 a26:=Tryz.isAgg3
 z26:=Tryz.sizeOf3
 v26:=Tryz.zeroValue3
 t28:=Tryz.underlying162
 a28:=Tryz.isAgg162
 z28:=Tryz.sizeOf162
 v28:=Tryz.zeroValue162
 i26:=by kernel_rfl }
def afQ:Go.Shelf.Ren:=⟨fun | 5=>113 | 8=>119 | 7=>118 | 19=>129 | 20=>130 | 10=>120 | 11=>121 | 12=>122 | 13=>123 | 14=>124 | 15=>125 | 16=>126 | 17=>127 | 18=>128 | 30=>131 | 31=>132 | 32=>133 | 33=>134 | 34=>135 | 35=>136 | 40=>137 | n=>n,fun | 23=>38 | 25=>3 | 3=>3 | 32=>129 | 22=>38 | 0=>0 | 44=>52 | 46=>193 | 4=>4 | 36=>186 | 35=>185 | 41=>173 | 5=>5 | 9=>9 | 53=>194 | 57=>198 | 63=>200 | 64=>43 | n=>n,fun | n=>n⟩
theorem Vm:Go.Proofs.SlLaysM.n5 Tryz.prog afQ:={
 mixed:=by kernel_rfl
 f5:=⟨Tryz.f113.name,by decide,Tryz.func113.trans (congrArg some (by kernel_rfl))⟩
 f7:=⟨Tryz.f118.name,by decide,Tryz.func118.trans (congrArg some (by kernel_rfl))⟩
 f8:=Tryz.func119.trans (congrArg some (by kernel_rfl))
 f10:=⟨Tryz.f120.name,by decide,Tryz.func120.trans (congrArg some (by kernel_rfl))⟩
 f11:=⟨Tryz.f121.name,by decide,Tryz.func121.trans (congrArg some (by kernel_rfl))⟩
 f12:=⟨Tryz.f122.name,by decide,Tryz.func122.trans (congrArg some (by kernel_rfl))⟩
 f13:=⟨Tryz.f123.name,by decide,Tryz.func123.trans (congrArg some (by kernel_rfl))⟩
 f14:=⟨Tryz.f124.name,by decide,Tryz.func124.trans (congrArg some (by kernel_rfl))⟩
 f15:=⟨Tryz.f125.name,by decide,Tryz.func125.trans (congrArg some (by kernel_rfl))⟩
 f16:=⟨Tryz.f126.name,by decide,Tryz.func126.trans (congrArg some (by kernel_rfl))⟩
 f17:=⟨Tryz.f127.name,by decide,Tryz.func127.trans (congrArg some (by kernel_rfl))⟩
 f18:=⟨Tryz.f128.name,by decide,Tryz.func128.trans (congrArg some (by kernel_rfl))⟩
 f19:=Tryz.func129.trans (congrArg some (by kernel_rfl))
 f20:=Tryz.func130.trans (congrArg some (by kernel_rfl))
 f30:=⟨Tryz.f131.name,by decide,Tryz.func131.trans (congrArg some (by kernel_rfl))⟩
 f31:=Tryz.func132.trans (congrArg some (by kernel_rfl))
 f32:=Tryz.func133.trans (congrArg some (by kernel_rfl))
 f33:=⟨Tryz.f134.name,by decide,Tryz.func134.trans (congrArg some (by kernel_rfl))⟩
 f34:=⟨Tryz.f135.name,by decide,Tryz.func135.trans (congrArg some (by kernel_rfl))⟩
 f35:=⟨Tryz.f136.name,by decide,Tryz.func136.trans (congrArg some (by kernel_rfl))⟩
 f40:=⟨Tryz.f137.name,by decide,Tryz.func137.trans (congrArg some (by kernel_rfl))⟩
 t0:=Tryz.underlying0
 a0:=Tryz.isAgg0
 z0:=Tryz.sizeOf0
 v0:=Tryz.zeroValue0
 t3:=Tryz.underlying3
 a3:=Tryz.isAgg3
 z3:=Tryz.sizeOf3
 v3:=Tryz.zeroValue3
 t4:=Tryz.underlying4
 a4:=Tryz.isAgg4
 z4:=Tryz.sizeOf4
 v4:=Tryz.zeroValue4
 t5:=Tryz.underlying5
 a5:=Tryz.isAgg5
 z5:=Tryz.sizeOf5
 v5:=Tryz.zeroValue5
 t9:=Tryz.underlying9
 a9:=Tryz.isAgg9
 z9:=Tryz.sizeOf9
 v9:=Tryz.zeroValue9
 t22:=Tryz.underlying38
 a22:=Tryz.isAgg38
 z22:=Tryz.sizeOf38
 v22:=Tryz.zeroValue38
 t23:=Tryz.underlying38
 a23:=Tryz.isAgg38
 z23:=Tryz.sizeOf38
 v23:=Tryz.zeroValue38
 t25:=Tryz.underlying3
 a25:=Tryz.isAgg3
 z25:=Tryz.sizeOf3
 v25:=Tryz.zeroValue3
 t32:=Tryz.underlying129
 a32:=Tryz.isAgg129
 z32:=Tryz.sizeOf129
 v32:=Tryz.zeroValue129
 t35:=Tryz.underlying185
 a35:=Tryz.isAgg185
 z35:=Tryz.sizeOf185
 v35:=Tryz.zeroValue185
 t36:=Tryz.underlying186
 a36:=Tryz.isAgg186
 z36:=Tryz.sizeOf186
 v36:=Tryz.zeroValue186
 t41:=Tryz.underlying173
 a41:=Tryz.isAgg173
 z41:=Tryz.sizeOf173
 v41:=Tryz.zeroValue173
 t44:=Tryz.underlying52
 a44:=Tryz.isAgg52
 z44:=Tryz.sizeOf52
 v44:=Tryz.zeroValue52
 t46:=Tryz.underlying193
 a46:=Tryz.isAgg193
 z46:=Tryz.sizeOf193
 v46:=Tryz.zeroValue193
 t53:=Tryz.underlying194
 a53:=Tryz.isAgg194
 z53:=Tryz.sizeOf194
 v53:=Tryz.zeroValue194
 t57:=Tryz.underlying198
 a57:=Tryz.isAgg198
 z57:=Tryz.sizeOf198
 v57:=Tryz.zeroValue198
 t63:=Tryz.underlying200
 a63:=Tryz.isAgg200
 z63:=Tryz.sizeOf200
 v63:=Tryz.zeroValue200
 t64:=Tryz.underlying43
 a64:=Tryz.isAgg43
 z64:=Tryz.sizeOf43
 v64:=Tryz.zeroValue43 }
def Zt:Go.Shelf.Ren:=⟨fun | 5=>96 | 7=>111 | n=>n,fun | 23=>82 | 25=>3 | 3=>133 | 4=>4 | 20=>20 | n=>n,fun | n=>n⟩
theorem Zs:Go.Proofs.SlLaysW.n5 Tryz.prog Zt:={
 mixed:=by kernel_rfl
 f5:=⟨Tryz.f96.name,by decide,Tryz.func96.trans (congrArg some (by kernel_rfl))⟩
 f7:=Tryz.func111.trans (congrArg some (by kernel_rfl))
 t4:=Tryz.underlying4
 a4:=Tryz.isAgg4
 z4:=Tryz.sizeOf4
 v4:=Tryz.zeroValue4
 t20:=Tryz.underlying20
 a20:=Tryz.isAgg20
 z20:=Tryz.sizeOf20
 v20:=Tryz.zeroValue20
 t23:=Tryz.underlying82
 a23:=Tryz.isAgg82
 z23:=Tryz.sizeOf82
 v23:=Tryz.zeroValue82 }
theorem afS (m:Nat):AnyZI.SortsIn Tryz.prog Vn Fence.wide m:=
 ⟨fun blk off cap ss W hH hblk hsz=>callsIn_wide.2 (AnyM.slices_Sort_int Vm blk off cap ss W hH hblk hsz),fun p cap W=>callsIn_wide.2 (AnyM.slices_Sort_int_none Vm p cap W)⟩
theorem ac7:Vc.aO Tryz.prog 96 Vc.AJ:=Vc.ac8 Zs
theorem ac9:Vc.aO Tryz.prog 98 (Vc.AK 114):=Vc.ac_ ji
theorem adK:Vc.aO Tryz.prog 97 (Vc.AW 114 3):=Vc.adL (lp:=RL) {ji with } afR afS (enters_of Tryz.func113 (by kernel_rfl) rfl) (enters_of Tryz.func114 (by kernel_rfl) rfl)
end Go.Proofs.YtfcjngcnifdmnaaGreat
namespace Go.Proofs.YtfcjngcnifdmnaaGreat
open Vc Go
open Go.IntKind renaming i64->γ,u8->ξ,u32->iM
open Vc.V renaming any->δ,int->ε,sl->ζ,sb->ο,ptr->aj,φ->au,dat->aC,aa->aR,mp->aY,arr->bF,agg->fz
open Vc.D renaming val->η,sl->χ
open Go.Value renaming int->ν,map->kT,bool->mG,oneCell'->mH
open List renaming map->ae,drop->ax,take->ay,length_append->bn,getElem?_eq_getElem->bu,getElem?_eq_some_iff->bH,length_map->bT,take_length->cQ,length_take->cW,mem_singleton->da,replicate->dv,mem_append->dz,mem_map->dO,mem_cons->dS,Mem->dW,append_assoc->dX,getElem?_append_left->dY,take_of_length_le->eQ,getElem?_append_right->fk,getElem?_map->fy,mem_of_getElem?->fF,length_drop->gm,mem_cons_of_mem->gn,append_nil->gz,length_cons->gA,getD_eq_getElem?_getD->gO,getElem?_set_ne->gP,mem_append_left->gQ,length_singleton->gZ,drop_zero->iD,getElem?_eq_none->iE,getElem?_take_of_lt->iF,length_set->iG,getElem?_set_self->iN,mem_cons_self->iV,map_append->ja,range->jb,nil_append->jr,take_add_one->jt,flatten_cons->jF,getElem?_of_mem->jG,getElem?_drop->jW,map_cons->kv,length_nil->kP,mem_append_right->kQ,mem_filter->lu,ext_getElem?->mb,eq_nil_of_length_eq_zero->mD
open Vc.KO renaming row->ai,dead->aw,cells->aB,objs->fE
open Nat renaming le_refl->ar,zero_le->bj,beq->cX,zero_add->c9,eq_of_beq_eq_true->de,add_assoc->g_,lor->iW,lt_or_ge->kx,sub_zero->ly,le_trans->mc
open Option renaming some->bb,bind_eq_some_iff->lO,map->ng
open Int renaming toNat_natCast->cN,le_refl->dE
open Bool renaming and_eq_true->jo,not_eq_false'->kr,not_eq_true'->mA
set_option linter.unusedVariables false
set_option linter.unusedSimpArgs false
set_option maxRecDepth 100000
set_option maxHeartbeats 2000000
abbrev L3:=Int×Int×Int
def pC (p:L3):List Int×List D:=([p.1],[dn γ p.2.1,dn γ p.2.2])
structure bL (M:ML) (x:List L3):Prop where
 perm:M.Perm (x.map pC)
 inc:x.Pairwise (fun a b=>a.1<b.1)
 rg:∀ p∈x,0<=p.1/\p.1<=255/\1<=p.2.1/\p.2.1<=1099511627776/\0<=p.2.2/\p.2.2<=63
 len:x.length<=32
def oP:List L3->Int->Option Nat
 | [],_=>none
 |p::l,c=>if p.1=c then some 0 else(oP l c).map (·+1)
def g3 (x:List L3) (i:Nat):L3:=x.getD i (0,0,0)
def kH (x:List L3) (c:Int):Option (Int×Int):=(oP x c).map fun i=>(g3 x i).2
def cY (x:List L3) (c n e:Int):Int:=
 if c<0∨255<c∨n<1∨1099511627776<n∨e<0∨63<e then 1 else match kH x c with
 |some q=>if n<=q.1 then 13 else 0
 |none=>if 32<=x.length then 6 else 0
def pd (x:List L3) (c n e:Int):List L3:=x.filter (fun p=>decide (p.1<c))++(c,n,e)::x.filter (fun p=>decide (c<p.1))
def gq (x:List L3) (c n:Int):Int:=match kH x c with
 |none=>0
 |some q=>if q.1<n then 0 else if n=q.1 then 1 else 2
def sZ (x:List L3) (c n:Int):Int:=match kH x c with
 |none=>0
 |some q=>if n=q.1 then q.2 else 0
structure mE (n:Int):Prop where
 h:n≠0
structure mC (n:Int):Prop where
 h:n=0
abbrev af (M:ML):V:=.imp [γ] false true 2 M
def AP:aE:=fun args kb K=>match args,kb with
 | [aj 0 0,.int γ c,.int γ n,.int γ e],[aB [.imp [γ] false true 2 M]]=>∃ x,bL M x/\
  (mE (cY x c n e)->K (.int γ (cY x c n e)) [aB [af M]])/\(mC (cY x c n e)->K (.int γ 0) [aB [af (bI M [c] [dn γ n,dn γ e])]])
 |_,_=>False
def Fl:aE:=fun args kb K=>match args,kb with
 | [aj 0 134,.int γ c,.int γ n,.int γ e],[aB [δ a0,δ a1,δ a2,δ a3,δ a4,δ a5,bF 128 C,.imp [γ] false true 2 M,δ a8,δ a9,δ aK,δ a_,δ a12,δ aQ,δ π,δ υ,δ aX,δ aL,δ aS,δ aM,δ a20,δ a21]]=>∃ x,bL M x/\
  (mE (cY x c n e)->K (.int γ (cY x c n e)) [aB [δ a0,δ a1,δ a2,δ a3,δ a4,δ a5,bF 128 C,af M,δ a8,δ a9,δ aK,δ a_,δ a12,δ aQ,δ π,δ υ,δ aX,δ aL,δ aS,δ aM,δ a20,δ a21]])/\(mC (cY x c n e)->K (.int γ 0) [aB [δ a0,δ a1,δ a2,δ a3,δ a4,δ a5,bF 128 C,af (bI M [c] [dn γ n,dn γ e]),δ a8,δ a9,δ aK,δ a_,δ a12,δ aQ,δ π,δ υ,δ aX,δ aL,δ aS,δ aM,δ a20,δ a21]])
 |_,_=>False
def EV:aE:=fun args kb K=>match args,kb with
 | [aj 0 134,.int γ c,.int γ n],[aB [δ a0,δ a1,δ a2,δ a3,δ a4,δ a5,bF 128 C,.imp [γ] false true 2 M,δ a8,δ a9,δ aK,δ a_,δ a12,δ aQ,δ π,δ υ,δ aX,δ aL,δ aS,δ aM,δ a20,δ a21]]=>∃ x,bL M x/\K (.φ [.int γ (gq x c n),.int γ (sZ x c n)]) [aB [δ a0,δ a1,δ a2,δ a3,δ a4,δ a5,bF 128 C,af M,δ a8,δ a9,δ aK,δ a_,δ a12,δ aQ,δ π,δ υ,δ aX,δ aL,δ aS,δ aM,δ a20,δ a21]]
 |_,_=>False
def EY:aE:=fun args kb K=>match args,kb with
 | [aj 0 134],[aB [δ a0,δ a1,δ a2,δ a3,δ a4,δ a5,bF 128 C,.imp [γ] false true 2 M,δ a8,δ a9,δ aK,δ a_,δ a12,δ aQ,δ π,δ υ,δ aX,δ aL,δ aS,δ aM,δ a20,δ a21]]=>∃ x,bL M x/\K (.sl 1 0 x.length) [aB [δ a0,δ a1,δ a2,δ a3,δ a4,δ a5,bF 128 C,af M,δ a8,δ a9,δ aK,δ a_,δ a12,δ aQ,δ π,δ υ,δ aX,δ aL,δ aS,δ aM,δ a20,δ a21],ai 3 1 (ints γ (x.map (·.1)))]
 |_,_=>False
def GF:FuncId->Option du
 | 96=>some ⟨[],AJ⟩
 | 98=>some ⟨[],AK 114⟩
 | 97=>some ⟨[],AW 114 3⟩
 |_=>none
noncomputable def xW:cd:=dM Tryz.prog GF aG 10
abbrev Gu:=fun(M:ML) (c:Int) (n:Int) (e:Int) mN h2_ h3_ (K:V->KB->Prop)=>(
 let aU:=K (ε γ 6) [aB mN];let aJ:=((↑(List.length M):Int) == 32)=true;let aN:=((↑(List.length M):Int) == 32)=false;let av:=K (ε γ 0) [aB h3_];let ω:=K (ε γ 0) [aB h2_];let θ:=K (ε γ 1) [aB mN];(∀(y1:List D),bK M [c]=some y1->
 gN ([CK.int γ]++([CK.int γ]++[])) y1)/\
 (decide (c<0)=true->
 θ)/\
 (decide (c<0)=false->
 (decide (c > 255)=true->
 θ)/\
 (decide (c > 255)=false->
 (decide (n<1)=true->
 θ)/\
 (decide (n<1)=false->
 (decide (n > 1099511627776)=true->
 θ)/\
 (decide (n > 1099511627776)=false->
 (decide (e<0)=true->
 θ)/\
 (decide (e<0)=false->
 (decide (e > 63)=true->
 θ)/\
 (decide (e > 63)=false->
 (mS M [c]=true->
 (decide (n<=eI M [c] 0)=true->
 K (ε γ 13) [aB mN])/\
 (decide (n<=eI M [c] 0)=false->
 ((!mS M [c])=true->
 (aJ->
 aU)/\
 (aN->
 (M=[]->
 ω)/\
 av))/\
 ((!mS M [c])=false->
 (M=[]->
 ω)/\
 av)))/\
 (mS M [c]=false->
 ((!mS M [c])=true->
 (aJ->
 aU)/\
 (aN->
 (M=[]->
 ω)/\
 av))/\
 ((!mS M [c])=false->
 (M=[]->
 ω)/\
 av))))))))
 :Prop)
theorem aik (M:ML) (c n e:Int) (K:V->KB->Prop) (aq:
 Gu M c n e [V.imp [γ] false true 2 M] [V.imp [γ] false true 2 [([c],[η (ν γ n),η (ν γ e)])]] [V.imp [γ] false true 2 (bI M [c] [η (ν γ n),η (ν γ e)])] K
 ):aI Tryz.prog xW (aG 66) 66 [aj 0 0,.int γ c,.int γ n,.int γ e] [aB [af M]] (eX [.oV 0 0 [γ] false true 2] (dp 1 K)):=by apply Eq.mp (a:=aq);kernel_rfl
theorem ail (a0 a1 a2 a3 a4 a5 a8 a9 aK a_ a12 aQ π υ aX aL aS aM a20 a21:Value) (C:List D) (M:ML) (c n e:Int) (K:V->KB->Prop) (aq:
 Gu M c n e [δ a0,δ a1,δ a2,δ a3,δ a4,δ a5,bF 128 C,V.imp [γ] false true 2 M,δ a8,δ a9,δ aK,δ a_,δ a12,δ aQ,δ π,δ υ,δ aX,δ aL,δ aS,δ aM,δ a20,δ a21] [δ a0,δ a1,δ a2,δ a3,δ a4,δ a5,bF 128 C,V.imp [γ] false true 2 [([c],[η (ν γ n),η (ν γ e)])],δ a8,δ a9,δ aK,δ a_,δ a12,δ aQ,δ π,δ υ,δ aX,δ aL,δ aS,δ aM,δ a20,δ a21] [δ a0,δ a1,δ a2,δ a3,δ a4,δ a5,bF 128 C,V.imp [γ] false true 2 (bI M [c] [η (ν γ n),η (ν γ e)]),δ a8,δ a9,δ aK,δ a_,δ a12,δ aQ,δ π,δ υ,δ aX,δ aL,δ aS,δ aM,δ a20,δ a21] K
 ):aI Tryz.prog xW (aG 66) 66 [aj 0 134,.int γ c,.int γ n,.int γ e] [aB [δ a0,δ a1,δ a2,δ a3,δ a4,δ a5,bF 128 C,af M,δ a8,δ a9,δ aK,δ a_,δ a12,δ aQ,δ π,δ υ,δ aX,δ aL,δ aS,δ aM,δ a20,δ a21]] (eX [.oV 0 134 [γ] false true 2] (dp 1 K)):=by apply Eq.mp (a:=aq);kernel_rfl
theorem ahn (a0 a1 a2 a3 a4 a5 a8 a9 aK a_ a12 aQ π υ aX aL aS aM a20 a21:Value) (C:List D) (M:ML) (c n:Int) (K:V->KB->Prop) (aq:
 let θ:KB:=[aB [δ a0,δ a1,δ a2,δ a3,δ a4,δ a5,bF 128 C,V.imp [γ] false true 2 M,δ a8,δ a9,δ aK,δ a_,δ a12,δ aQ,δ π,δ υ,δ aX,δ aL,δ aS,δ aM,δ a20,δ a21]];let ω:=K (au [ε γ 0,ε γ 0]) θ;(∀(y1:List D),bK M [c]=some y1->
 gN ([CK.int γ]++([CK.int γ]++[])) y1)/\
 ((!mS M [c])=true->
 ω)/\
 ((!mS M [c])=false->
 (decide (n > eI M [c] 0)=true->
 ω)/\
 (decide (n > eI M [c] 0)=false->
 ((n == eI M [c] 0)=true->
 K (au [ε γ 1,ε γ (eI M [c] 1)]) θ)/\
 ((n == eI M [c] 0)=false->
 K (au [ε γ 2,ε γ 0]) θ)))
 ):aI Tryz.prog xW (aG 83) 83 [aj 0 134,.int γ c,.int γ n] [aB [δ a0,δ a1,δ a2,δ a3,δ a4,δ a5,bF 128 C,af M,δ a8,δ a9,δ aK,δ a_,δ a12,δ aQ,δ π,δ υ,δ aX,δ aL,δ aS,δ aM,δ a20,δ a21]] (dp 1 K):=by apply Eq.mp (a:=aq);kernel_rfl
theorem ahq (a0 a1 a2 a3 a4 a5 a8 a9 aK a_ a12 aQ π υ aX aL aS aM a20 a21:Value) (C:List D) (M:ML) (K:V->KB->Prop) (aq:
 let θ:=aB [δ a0,δ a1,δ a2,δ a3,δ a4,δ a5,bF 128 C,V.imp [γ] false true 2 M,δ a8,δ a9,δ aK,δ a_,δ a12,δ aQ,δ π,δ υ,δ aX,δ aL,δ aS,δ aM,δ a20,δ a21];114=114/\
 [γ]=[γ]/\
 false=false/\
 tY M/\
 (M=[]->
 K (ζ 1 0 0) [θ,ai 3 1 []])/\
 K (ζ 1 0 (List.length M)) [θ,ai 3 1 (ints γ (oB (Vc.ji M)))]
 ):aI Tryz.prog xW (aG 69) 69 [aj 0 134] [aB [δ a0,δ a1,δ a2,δ a3,δ a4,δ a5,bF 128 C,af M,δ a8,δ a9,δ aK,δ a_,δ a12,δ aQ,δ π,δ υ,δ aX,δ aL,δ aS,δ aM,δ a20,δ a21]] (eX [.slot 0 3 1] (dp 1 K)):=by apply Eq.mp (a:=aq);kernel_rfl
theorem Sz:∀{M:ML} {k:List Int} {v:List D},(M.map (·.1)).Nodup->(k,v)∈M->bK M k=some v
 | (a,c)::M,k,v,hn,h=>by
  simp only[kv,List.nodup_cons]at hn
  simp only[bK]
  rcases dS.1 h with h | h
  ·cases h;rw[if_pos rfl]
  ·have hne:k≠a:=fun e=>hn.1 (dO.2 ⟨_,h,e⟩)
   rw[if_neg hne]
   exact Sz hn.2 h
theorem SA:∀{M:ML} {k:List Int},(∀ e∈M,e.1≠k)->bK M k=none
 | [],_,_=>rfl
 | (a,c)::M,k,h=>by
  simp only[bK]
  rw[if_neg (fun e=>h _ iV e.symm)]
  exact SA fun e he=>h e (gn _ he)
theorem x_:∀{x:List L3} {c:Int} {i:Nat},oP x c=some i->i<x.length/\(g3 x i).1=c/\∀ j,j<i->(g3 x j).1≠c
 |p::l,c,i,h=>by
  simp only[oP]at h
  split at h
  ·rename_i hp
   cases h
   exact⟨by simp,by simp [g3,hp],fun j hj=>absurd hj (Nat.not_lt_zero _)⟩
  ·rename_i hp
   simp only[Option.map_eq_some_iff]at h
   obtain⟨k,hk,rfl⟩:=h
   obtain⟨h1,h2,h3⟩:=x_ hk
   refine⟨by simp;omega,by simpa [g3]using h2,fun j hj=>?_⟩
   cases j with
   |zero=>simpa [g3]using hp
   |succ j=>have:=h3 j (by omega);simpa [g3]using this
theorem F8:∀{x:List L3} {c:Int},oP x c=none->∀ p∈x,p.1≠c
 | [],_,_,p,hp=>by cases hp
 |q::l,c,h,p,hp=>by
  simp only[oP]at h
  split at h
  ·cases h
  ·rename_i hq
   simp only[Option.map_eq_none_iff]at h
   rcases dS.1 hp with rfl | hp
   ·exact hq
   ·exact F8 h p hp
theorem td {x:List L3} {i:Nat} (h:i<x.length):x[i]? =some (g3 x i):=by
 unfold g3;rw[gO,bu h];rfl
theorem uw {x:List L3} {i:Nat} (h:i<x.length):g3 x i∈x:=fF (td h)
theorem YP {x:List L3} {c:Int} {i:Nat} (hi:i<x.length) (h1:(g3 x i).1=c) (h2:∀ j,j<i->(g3 x j).1≠c):oP x c=some i:=by
 cases h:oP x c with
 |none=>exact absurd h1 (F8 h _ (uw hi))
 |some k=>
  obtain⟨k1,k2,k3⟩:=x_ h
  have:k=i:=by
   rcases Nat.lt_trichotomy k i with h4 | h4 | h4
   ·exact absurd k2 (h2 k h4)
   ·exact h4
   ·exact absurd h1 (k3 i h4)
  rw[this]
theorem YO {x:List L3} {c:Int} (h:∀ j,j<x.length->(g3 x j).1≠c):oP x c=none:=by
 cases h1:oP x c with
 |none=>rfl
 |some k=>obtain⟨k1,k2,_⟩:=x_ h1;exact absurd k2 (h k k1)
theorem LD {M:ML} {x:List L3} (h:bL M x):(M.map (·.1)).Nodup:=by
 have h1:(M.map (·.1)).Perm ((x.map pC).map (·.1)):=h.perm.map _
 refine h1.nodup_iff.2 ?_
 rw[List.map_map]
 exact List.pairwise_map.2 (h.inc.imp fun hlt e=>by simp [pC]at e;omega)
theorem Hb {M:ML} {x:List L3} (h:bL M x) (c:Int):bK M [c]=(kH x c).map fun q=>[dn γ q.1,dn γ q.2]:=by
 unfold kH
 cases hc:oP x c with
 |none=>
  refine SA fun e he e1=>?_
  obtain⟨p,hp,rfl⟩:=dO.1 (h.perm.mem_iff.1 he)
  simp only[pC,List.cons.injEq,and_true]at e1
  exact F8 hc p hp e1
 |some i=>
  obtain⟨h1,h2,_⟩:=x_ hc
  refine Sz (LD h) (h.perm.mem_iff.2 (dO.2 ⟨g3 x i,uw h1,?_⟩))
  simp only[pC,h2,Option.map_some]
theorem LC {M:ML} {x:List L3} (h:bL M x):tY M/\oB (Vc.ji M)=x.map (·.1)/\M.length=x.length:=by
 have hl:M.length=x.length:=by rw[h.perm.length_eq,bT]
 refine⟨⟨fun e he=>?_,LD h,by have:=h.len;omega⟩,?_,hl⟩
 ·obtain⟨p,hp,rfl⟩:=dO.1 (h.perm.mem_iff.1 he)
  have:=h.rg p hp
  exact⟨p.1,rfl,by omega,by omega⟩
 ·have h1:(Vc.ji M).Perm (x.map (·.1)):=by
   unfold Vc.ji
   have:=h.perm.map (fun e:List Int×List D=>e.1.headD 0)
   rw[List.map_map]at this
   exact this
  rw[Vl h1]
  unfold oB
  exact List.mergeSort_of_pairwise (List.pairwise_map.2 (h.inc.imp fun hlt=>by simp only[decide_eq_true_eq];omega))
theorem V9:bL [] []:=⟨List.Perm.refl _,List.Pairwise.nil,fun p hp=>(by cases hp),by simp⟩
theorem BB {M:ML} {x:List L3} (h:bL M x) (c:Int):∀ cs,bK M [c]=some cs->gN ([CK.int γ]++([CK.int γ]++[])) cs:=fun cs hc=>by
 rw[Hb h]at hc
 simp only[Option.map_eq_some_iff]at hc
 obtain⟨q,_,rfl⟩:=hc
 exact⟨_,_,rfl,_,_,rfl,rfl⟩
theorem LB {M:ML} {x:List L3} (h:bL M x) (c:Int):mS M [c]=(kH x c).isSome/\(∀ q,kH x c=some q->eI M [c] 0=q.1/\eI M [c] 1=q.2):=by
 refine⟨?_,fun q hq=>?_⟩
 ·unfold mS;rw[Hb h];cases kH x c<;>rfl
 ·unfold eI;rw[Hb h,hq];exact⟨rfl,rfl⟩
theorem Zo:dD Tryz.prog GF:=fun f k h=>by
 unfold GF at h
 split at h<;>first | (cases h;first | exact ac7 | exact ac9 | exact adK) | cases h
theorem Bh:cx Tryz.prog xW:=dP mixed Zo aG 10
theorem Uw {M:ML} {c n e:Int} {x:List L3} {B B2 B3:List V} {K:V->KB->Prop} (ht:bL M x) (hno:mE (cY x c n e)->K (.int γ (cY x c n e)) [aB B]) (hy:mC (cY x c n e)->K (.int γ 0) [aB B2]) (e3:M=[]->B3=B2):Gu M c n e B B3 B2 K:=by
 obtain⟨t1,t2⟩:=LB ht c
 have hl:=(LC ht).2.2
 have hle:=ht.len
 unfold cY at hno hy
 refine⟨BB ht c,?_⟩
 simp only[decide_eq_true_eq,decide_eq_false_iff_not]
 have bad:(c<0∨255<c∨n<1∨1099511627776<n∨e<0∨63<e)->K (ε γ 1) [aB B]:=fun hb=>by
  simp only[if_pos hb]at hno
  exact hno ⟨by decide⟩
 refine⟨fun h1=>bad (.inl h1),fun h1=>⟨fun h2=>bad (.inr (.inl h2)),fun h2=>⟨fun h3=>bad (.inr (.inr (.inl h3))),fun h3=>⟨fun h4=>bad (.inr (.inr (.inr (.inl h4)))),fun h4=>⟨fun h5=>bad (.inr (.inr (.inr (.inr (.inl h5))))),fun h5=>⟨fun h6=>bad (.inr (.inr (.inr (.inr (.inr h6))))),fun h6=>?_⟩⟩⟩⟩⟩⟩
 have hg:¬ (c<0∨255<c∨n<1∨1099511627776<n∨e<0∨63<e):=by omega
 simp only[if_neg hg]at hno hy
 have fin:K (.int γ 0) [aB B2]->(M=[]->K (.int γ 0) [aB B3])/\K (.int γ 0) [aB B2]:=fun h=>⟨fun hm=>by rw[e3 hm];exact h,h⟩
 cases hq:kH x c with
 |some q=>
  rw[hq]at t1 hno hy
  simp only[Option.isSome_some]at t1
  simp only at hno hy
  have t3:=(t2 q hq).1
  rw[t1,t3]
  refine⟨fun _=>⟨fun h7=>?_,fun h7=>⟨fun f=>(by cases f),fun _=>fin ?_⟩⟩,fun f=>(by cases f)⟩
  ·rw[if_pos h7]at hno;exact hno ⟨by decide⟩
  ·rw[if_neg h7]at hy;exact hy ⟨rfl⟩
 |none=>
  rw[hq]at t1 hno hy
  simp only[Option.isSome_none]at t1
  simp only at hno hy
  rw[t1]
  refine⟨fun f=>(by cases f),fun _=>⟨fun _=>⟨fun h7=>?_,fun h7=>fin ?_⟩,fun f=>(by cases f)⟩⟩
  ·simp only[beq_iff_eq]at h7
   rw[if_pos (by omega)]at hno;exact hno ⟨by decide⟩
  ·simp only[beq_eq_false_iff_ne,ne_eq]at h7
   rw[if_neg (by omega)]at hy;exact hy ⟨rfl⟩
theorem TF:aO Tryz.prog 66 AP:=my Bh mixed [.oV 0 0 [γ] false true 2] (fun args kb K h=>by
 unfold AP at h;split at h<;>try exact h.elim
 obtain⟨x,ht,hno,hy⟩:=h
 exact⟨_,aik _ _ _ _ K (Uw ht hno hy (fun hm=>by subst hm;rfl))⟩)
theorem adD:aO Tryz.prog 66 Fl:=my Bh mixed [.oV 0 134 [γ] false true 2] (fun args kb K h=>by
 unfold Fl at h;split at h<;>try exact h.elim
 obtain⟨x,ht,hno,hy⟩:=h
 exact⟨_,ail _ _ _ _ _ _ _ _ _ _ _ _ _ _ _ _ _ _ _ _ _ _ _ _ _ K (Uw ht hno hy (fun hm=>by subst hm;rfl))⟩)
theorem acA:aO Tryz.prog 83 EV:=lF Bh mixed (fun args kb K h=>by
 unfold EV at h;split at h<;>try exact h.elim
 rename_i c n _ _ _ _ _ _ _ M _ _ _ _ _ _ _ _ _ _ _ _ _ _
 obtain⟨x,ht,h⟩:=h
 obtain⟨t1,t2⟩:=LB ht c
 unfold gq sZ at h
 refine⟨_,ahn _ _ _ _ _ _ _ _ _ _ _ _ _ _ _ _ _ _ _ _ _ M c n K ⟨BB ht c,?_⟩⟩
 simp only[decide_eq_true_eq,decide_eq_false_iff_not]
 cases hq:kH x c with
 |none=>
  rw[hq]at t1 h
  simp only[Option.isSome_none]at t1
  rw[t1]
  exact⟨fun _=>h,fun f=>(by cases f)⟩
 |some q=>
  rw[hq]at t1 h
  simp only[Option.isSome_some]at t1
  simp only at h
  obtain⟨t3,t4⟩:=t2 q hq
  rw[t1,t3,t4]
  refine⟨fun f=>(by cases f),fun _=>⟨fun h7=>?_,fun h7=>⟨fun h8=>?_,fun h8=>?_⟩⟩⟩
  ·rw[if_pos (by omega),if_neg (by omega)]at h;exact h
  ·simp only[beq_iff_eq]at h8
   rw[if_neg (by omega),if_pos h8,if_pos h8]at h;exact h
  ·simp only[beq_eq_false_iff_ne,ne_eq]at h8
   rw[if_neg (by omega),if_neg h8,if_neg h8]at h;exact h)
theorem acD:aO Tryz.prog 69 EY:=my Bh mixed [.slot 0 3 1] (fun args kb K h=>by
 unfold EY at h;split at h<;>try exact h.elim
 rename_i M _ _ _ _ _ _ _ _ _ _ _ _ _ _
 obtain⟨x,ht,h⟩:=h
 obtain⟨k1,k2,k3⟩:=LC ht
 refine⟨_,ahq _ _ _ _ _ _ _ _ _ _ _ _ _ _ _ _ _ _ _ _ _ M K ⟨rfl,rfl,rfl,k1,fun hM=>?_,?_⟩⟩
 ·subst hM
  have hx:x=[]:=mD (by rw[<- k3];rfl)
  subst hx
  exact h
 ·rw[k2,k3];exact h)
structure fl (x:List L3):Prop where
 inc:x.Pairwise (fun a b=>a.1<b.1)
 rg:∀ p∈x,0<=p.1/\p.1<=255/\1<=p.2.1/\p.2.1<=1099511627776/\0<=p.2.2/\p.2.2<=63
 len:x.length<=32
def mZ (p:L3):List Int:=aZ p.1++aZ p.2.1++aZ p.2.2
def gU (x:List L3):List Int:=(x.map mZ).flatten
def be (x:List L3):List Int:=aZ (x.length:Int)++gU x
def fY (x:List L3) (i:Nat):List Int:=aZ (x.length:Int)++gU (x.take i)
abbrev Wb (a0 a1 a2 a3 a4 a5 a8 a9 aK a_ a12 aQ π υ aX aL aS aM a20 a21:Value) (C:List D) (M:ML) (x:List L3):LI where
 α:={i:Nat // i<=x.length}
 live:=[0,3,13,14,15]
 st i:=([aj 0 134,aj 1 0,.sl 2 0 x.length,.int γ (x.length:Int),.int γ (i.1:Int)],[aB [δ a0,δ a1,δ a2,δ a3,δ a4,δ a5,bF 128 C,af M,δ a8,δ a9,δ aK,δ a_,δ a12,δ aQ,δ π,δ υ,δ aX,δ aL,δ aS,δ aM,δ a20,δ a21],aB [.sl 3 0 (fY x i.1).length],ai 3 1 (ints γ (x.map (·.1))),ai 5 1 (ints ξ (fY x i.1))])
 μ i:=x.length - i.1
def Pw (a0 a1 a2 a3 a4 a5 a8 a9 aK a_ a12 aQ π υ aX aL aS aM a20 a21:Value) (C:List D) (M:ML) (x:List L3):FuncId->Nat->Option LI
 | 39,4=>some (Wb a0 a1 a2 a3 a4 a5 a8 a9 aK a_ a12 aQ π υ aX aL aS aM a20 a21 C M x)
 |_,_=>none
def AX:aE:=fun args kb K=>match args,kb with
 | [aj 0 134],[aB [δ a0,δ a1,δ a2,δ a3,δ a4,δ a5,bF 128 C,.imp [γ] false true 2 M,δ a8,δ a9,δ aK,δ a_,δ a12,δ aQ,δ π,δ υ,δ aX,δ aL,δ aS,δ aM,δ a20,δ a21]]=>∃ x,bL M x/\K (.sl 1 0 (be x).length) [aB [δ a0,δ a1,δ a2,δ a3,δ a4,δ a5,bF 128 C,af M,δ a8,δ a9,δ aK,δ a_,δ a12,δ aQ,δ π,δ υ,δ aX,δ aL,δ aS,δ aM,δ a20,δ a21],ai 5 1 (ints ξ (be x))]
 |_,_=>False
def Hd:FuncId->Option du
 | 69=>some ⟨[],EY⟩
 |f=>wZ f
def Hc:FuncId->Option du
 | 66=>some ⟨[],AP⟩
 |f=>wZ f
noncomputable def NC:cd:=dM Tryz.prog Hd aG 10
theorem aiI (a0 a1 a2 a3 a4 a5 a8 a9 aK a_ a12 aQ π υ aX aL aS aM a20 a21:Value) (C:List D) (M:ML) (x:List L3) (K:V->KB->Prop) (aq:
 let ω:=(Wb a0 a1 a2 a3 a4 a5 a8 a9 aK a_ a12 aQ π υ aX aL aS aM a20 a21 C M x);let θ:=aB [δ a0,δ a1,δ a2,δ a3,δ a4,δ a5,bF 128 C,V.imp [γ] false true 2 M,δ a8,δ a9,δ aK,δ a_,δ a12,δ aQ,δ π,δ υ,δ aX,δ aL,δ aS,δ aM,δ a20,δ a21];∃(y1:List Int),let av:=(y1++aZ (↑(List.length M):Int));[]=ints ξ y1/\
 0=y1.length/\
 y1.length<=10000000/\
 jE (↑(List.length M):Int)/\
 ∃(y2:List L3),bL M y2/\
 At ω ([aj 0 134,aj 1 0,ζ 2 0 y2.length,ε γ (↑(y2.length - 0):Int),ε γ 0],[θ,aB [ζ 3 0 av.length],ai 3 1 (ints γ (ae (fun(y3:L3)=>y3.fst) y2)),ai 5 1 (ints ξ av)])/\
 ∀(y5:{y4:Nat // y4<=x.length}),(decide ((↑y5.val:Int)<(↑x.length:Int))=true->
 br (↑y5.val:Int) (x.length - 0)/\
 ∃(y6:List D),(ints γ (ae (fun(y7:L3)=>y7.fst) x))[0+(↑y5.val:Int).toNat]? =some y6/\
 ∃(y8:Int),y6[0]? =some (η (ν γ y8))/\
 ∃(y9:List Int),ints ξ (fY x y5.val)=ints ξ y9/\
 (fY x y5.val).length=y9.length/\
 y9.length<=10000000/\
 jE y8/\
 (∀(cU:List D),bK M [y8]=some cU->
 gN ([CK.int γ]++([CK.int γ]++[])) cU)/\
 ∃(cD:List Int),ints ξ (y9++aZ y8)=ints ξ cD/\
 (y9++aZ y8).length=cD.length/\
 cD.length<=10000000/\
 jE (eI M [y8] 0)/\
 (∀(cE:List D),bK M [y8]=some cE->
 gN ([CK.int γ]++([CK.int γ]++[])) cE)/\
 ∃(cP:List Int),ints ξ (cD++aZ (eI M [y8] 0))=ints ξ cP/\
 (cD++aZ (eI M [y8] 0)).length=cP.length/\
 cP.length<=10000000/\
 jE (eI M [y8] 1)/\
 Nx ω y5 ([aj 0 134,aj 1 0,ζ 2 0 x.length,ε γ (↑x.length:Int),ε γ (γ.wrap ((↑y5.val:Int)+1))],[θ,aB [ζ 3 0 (cP++aZ (eI M [y8] 1)).length],ai 3 1 (ints γ (ae (fun(dH:L3)=>dH.fst) x)),ai 5 1 (ints ξ (cP++aZ (eI M [y8] 1)))]))/\
 (decide ((↑y5.val:Int)<(↑x.length:Int))=false->
 ∃(cZ:List Int),ints ξ (fY x y5.val)=ints ξ cZ/\
 (fY x y5.val).length=cZ.length/\
 cZ.length<=1000000/\
 K (ζ 1 0 cZ.length) [θ,ai 5 1 (ints ξ cZ)])
 ):aI Tryz.prog NC (Pw a0 a1 a2 a3 a4 a5 a8 a9 aK a_ a12 aQ π υ aX aL aS aM a20 a21 C M x 39) 39 [aj 0 134] [aB [δ a0,δ a1,δ a2,δ a3,δ a4,δ a5,bF 128 C,af M,δ a8,δ a9,δ aK,δ a_,δ a12,δ aQ,δ π,δ υ,δ aX,δ aL,δ aS,δ aM,δ a20,δ a21]] (dp 1 K):=by apply Eq.mp (a:=aq);kernel_rfl
theorem HS {x:List L3} {i:Nat} (h:i<x.length):x.take (i+1)=x.take i++[g3 x i]:=by rw[jt,td h];rfl
theorem Z1:dD Tryz.prog Hc:=fun f k h=>by
 unfold Hc at h
 split at h
 ·cases h;exact TF
 ·exact Ds _ _ h
theorem Z2:dD Tryz.prog Hd:=fun f k h=>by
 unfold Hd at h
 split at h
 ·cases h;exact acD
 ·exact Ds _ _ h
theorem Yd:cx Tryz.prog NC:=dP mixed Z2 aG 10
theorem RA {x:List L3} (h:x.Pairwise (fun a b=>a.1<b.1)) {i j:Nat} (hij:i<j) (hj:j<x.length):(g3 x i).1<(g3 x j).1:=by
 have:=List.pairwise_iff_getElem.1 h i j (by omega) hj hij
 have e1:=td (show i<x.length by omega)
 have e2:=td hj
 rw[bu (show i<x.length by omega),bb.injEq]at e1
 rw[bu hj,bb.injEq]at e2
 rwa [e1,e2]at this
theorem S9 {x:List L3} (h:x.Pairwise (fun a b=>a.1<b.1)) {i:Nat} (hi:i<x.length):kH x (g3 x i).1=some (g3 x i).2:=by
 unfold kH
 rw[YP hi rfl (fun j hj=>by have:=RA h hj hi;omega)]
 rfl
theorem Gx {a b:List L3}:gU (a++b)=gU a++gU b:=by unfold gU;rw[ja,List.flatten_append]
theorem V7 {x:List L3} {i:Nat} (h:i<x.length):fY x (i+1)=fY x i++mZ (g3 x i):=by
 unfold fY
 rw[HS h,Gx,<- dX]
 simp [gU]
theorem tQ {x:List L3}:fY x x.length=be x:=by unfold fY be;rw[cQ]
theorem V6 {x:List L3}:fY x 0=aZ (x.length:Int):=by simp [fY,gU]
theorem OB:∀(x:List L3),(gU x).length<=27*x.length
 | []=>by simp [gU]
 |p::l=>by
  have:=OB l
  have h1:=ke p.1
  have h2:=ke p.2.1
  have h3:=ke p.2.2
  have e:gU (p::l)=mZ p++gU l:=by simp [gU]
  rw[e,bn,gA]
  unfold mZ
  simp only[bn];omega
theorem va {x:List L3} (h:x.length<=32) (i:Nat):(fY x i).length<=1000:=by
 have h1:=OB (x.take i)
 have h2:=ke (x.length:Int)
 rw[cW]at h1
 unfold fY
 rw[bn];omega
theorem bL.ok {M:ML} {x:List L3} (h:bL M x):fl x:=⟨h.inc,h.rg,h.len⟩
theorem TJ:aO Tryz.prog 39 AX:=lF Yd mixed (fun args kb K h=>by
 unfold AX at h;split at h<;>try exact h.elim
 ·rename_i a0 a1 a2 a3 a4 a5 C M a8 a9 aK a_ a12 aQ π υ aX aL aS aM a20 a21
  obtain⟨x,ht,h⟩:=h
  have hl:=ht.len
  have hML:=(LC ht).2.2
  refine⟨Pw a0 a1 a2 a3 a4 a5 a8 a9 aK a_ a12 aQ π υ aX aL aS aM a20 a21 C M x 39,aiI _ _ _ _ _ _ _ _ _ _ _ _ _ _ _ _ _ _ _ _ _ M x K ⟨[],rfl,rfl,by simp,⟨by omega⟩,x,ht,?_,?_⟩⟩
  ·rw[hML,jr,<- V6]
   exact At.mk' ⟨0,bj _⟩ rfl
  rintro⟨i,hi⟩
  dsimp only
  have hb:=va hl i
  simp only[decide_eq_true_eq,decide_eq_false_iff_not]
  refine⟨fun hc=>?_,fun hc=>?_⟩
  ·have mi:i<x.length:=by omega
   have hr:=ht.rg _ (uw mi)
   have n1:=ke (g3 x i).1
   have n2:=ke (g3 x i).2.1
   have n3:=ke (g3 x i).2.2
   obtain⟨t3,t4⟩:=(LB ht (g3 x i).1).2 _ (S9 ht.inc mi)
   have hk:(x.map (·.1))[i]? =some (g3 x i).1:=by rw[fy,td mi];rfl
   refine⟨by unfold br;omega,[η (.int γ (g3 x i).1)],by rw[c9,cN,kY,hk];rfl,_,rfl,_,rfl,rfl,by omega,⟨by omega⟩,BB ht _,_,rfl,rfl,by rw[bn];omega,⟨by rw[t3];omega⟩,BB ht _,_,rfl,rfl,by rw[t3];simp only[bn];omega,⟨by rw[t4];omega⟩,?_⟩
   have e1:γ.wrap ((i:Int)+1)=((i+1:Nat):Int):=by rw[bE (by omega) (by omega)];rfl
   have e2:fY x i++aZ (g3 x i).1++aZ (g3 x i).2.1++aZ (g3 x i).2.2=fY x (i+1):=by
    rw[V7 mi];unfold mZ;simp only[dX]
   rw[t3,t4,e1,e2]
   exact Nx.mk' (⟨i+1,by omega⟩:{i:Nat // i<=x.length}) rfl (by show x.length - (i+1)<x.length - i;omega)
  ·have:i=x.length:=by omega
   subst this
   refine⟨_,rfl,rfl,by omega,?_⟩
   rw[tQ]
   exact h)
def ir (l:List Int) (p:Nat×Int) (most:Int):Nat×Int:=(p.1+(cC (l.drop p.1) p.2 most).2.1,(cC (l.drop p.1) p.2 most).2.2)
def jM (l:List Int) (p:Nat×Int) (most:Int):Int:=(cC (l.drop p.1) p.2 most).1
def s1 (b:List Int) (p:Nat×Int):Nat×Int:=ir b p 255
def s2 (b:List Int) (p:Nat×Int):Nat×Int:=ir b (s1 b p) 1099511627776
def s3 (b:List Int) (p:Nat×Int):Nat×Int:=ir b (s2 b p) 63
def v3 (b:List Int) (p:Nat×Int):L3:=(jM b p 255,jM b (s1 b p) 1099511627776,jM b (s2 b p) 63)
def bG (b:List Int):Nat->(Nat×Int)×List L3
 | 0=>(ir b (0,0) 32,[])
 |i+1=>(s3 b (bG b i).1,(bG b i).2++[v3 b (bG b i).1])
def lc (b:List Int):Nat:=(jM b (0,0) 32).toNat
def nG (x:List L3):Int:=match x.getLast? with | some p=>p.1 | none=>-1
structure EG (b:List Int) (i:Nat) (M:ML):Prop where
 i2:i<=lc b
 tab:bL M (bG b i).2
 pos:(bG b i).1.1<=b.length
abbrev yO (b:List Int):LI where
 α:={p:Nat×ML // EG b p.1 p.2}
 live:=[2,4,5,6,13,14]
 dT:=[.oV 2 0 [γ] false true 2]
 st p:=([aj 0 0,aj 1 0,.int γ (nG (bG b p.1.1).2),aj 2 0,.int γ (lc b:Int),.int γ (p.1.1:Int)],[aB [δ (.map none)],aB [.sl 3 (bG b p.1.1).1.1 b.length,.int γ (bG b p.1.1).1.2],aB [af p.1.2],ai 5 1 (ints ξ b)])
 μ p:=lc b - p.1.1
def RV (b:List Int):FuncId->Nat->Option LI
 | 34,4=>some (yO b)
 |_,_=>none
def Ax:aE:=fun args kb K=>match args,kb with
 | [aC (.sl 1 B)],[]=>∃ b:List Int,B=ints ξ b/\bq b/\b.length<=140737488355328/\((¬ ∃ x,fl x/\b=be x)->K (.φ [.agg [δ (.map none)],ο false]) [])/\
  ∀ x M,bL M x->b=be x->K (.φ [.agg [af M],ο true]) []
 |_,_=>False
noncomputable def NB:cd:=dM Tryz.prog Hc aG 10
theorem ah2 (b:List Int) (K:V->KB->Prop) (aq:
 let bD:=[δ (kT none)];let aN:=K (au [fz bD,ο false]) [];(ints ξ b).length<=140737488355328/\
 ∃(y1:List Int),let bM:=(cC (ax 0 y1) 0 32);ints ξ b=ints ξ y1/\
 (ints ξ b).length=y1.length/\
 0<=y1.length/\
 (∀(y2:Int),dW y2 y1->
 0<=y2/\
 y2<256)/\
 y1.length<=140737488355328/\
 At (yO b) ([aj 0 0,aj 1 0,ε γ (-1),aj 2 0,ε γ bM.fst,ε γ 0],[aB bD,aB [ζ 3 (0+bM.snd.fst) y1.length,ε γ bM.snd.snd],aB [V.imp [γ] false true 2 []],ai 5 1 (ints ξ y1)])/\
 ∀(y4:{y3:Nat×ML // EG b y3.fst y3.snd}),let cI:=(↑y4.val.fst:Int)<(↑(lc b):Int);let bQ:=[V.imp [γ] false true 2 y4.val.snd];(decide (cI)=true->
 ∃(y5:List Int),let ω:=(cC (ax (bG b y4.val.fst).fst.fst y5) (bG b y4.val.fst).fst.snd 255);let b_:=ω.fst<=nG (bG b y4.val.fst).snd;let aJ:=[aj 0 0,aj 1 0,ε γ ω.fst,aj 2 0,ε γ (↑(lc b):Int),ε γ (γ.wrap ((↑y4.val.fst:Int)+1))];ints ξ b=ints ξ y5/\
 b.length=y5.length/\
 (bG b y4.val.fst).fst.fst<=y5.length/\
 (∀(y6:Int),dW y6 y5->
 0<=y6/\
 y6<256)/\
 y5.length<=140737488355328/\
 ∃(y7:List Int),let θ:=(cC (ax ((bG b y4.val.fst).fst.fst+ω.snd.fst) y7) ω.snd.snd 1099511627776);ints ξ y5=ints ξ y7/\
 y5.length=y7.length/\
 (bG b y4.val.fst).fst.fst+ω.snd.fst<=y7.length/\
 (∀(y8:Int),dW y8 y7->
 0<=y8/\
 y8<256)/\
 y7.length<=140737488355328/\
 ∃(y9:List Int),let av:=(cC (ax ((bG b y4.val.fst).fst.fst+ω.snd.fst+θ.snd.fst) y9) θ.snd.snd 63);let aU:=aB [ζ 3 ((bG b y4.val.fst).fst.fst+ω.snd.fst+θ.snd.fst+av.snd.fst) y9.length,ε γ av.snd.snd];ints ξ y7=ints ξ y9/\
 y7.length=y9.length/\
 (bG b y4.val.fst).fst.fst+ω.snd.fst+θ.snd.fst<=y9.length/\
 (∀(cU:Int),dW cU y9->
 0<=cU/\
 cU<256)/\
 y9.length<=140737488355328/\
 ((av.snd.snd != 0)=true->
 aN)/\
 ((av.snd.snd != 0)=false->
 (decide (b_)=true->
 aN)/\
 (decide (b_)=false->
 ∃(cD:List L3),let bW:=(cY cD ω.fst θ.fst av.fst != 0);bL y4.val.snd cD/\
 (mE (cY cD ω.fst θ.fst av.fst)->
 (bW=true->
 aN)/\
 (bW=false->
 Nx (yO b) y4 (aJ,[aB bD,aU,aB bQ,ai 5 1 (ints ξ y9)])))/\
 (mC (cY cD ω.fst θ.fst av.fst)->
 (false=true->
 aN)/\
 (false=false->
 Nx (yO b) y4 (aJ,[aB bD,aU,aB [V.imp [γ] false true 2 (bI y4.val.snd [ω.fst] [dn γ θ.fst,dn γ av.fst])],ai 5 1 (ints ξ y9)]))))))/\
 (decide (cI)=false->
 ∃(cE:List Int),let bp:=(iY (ax (bG b y4.val.fst).fst.fst cE) (bG b y4.val.fst).fst.snd != 0);ints ξ b=ints ξ cE/\
 b.length=cE.length/\
 (bp=true->
 aN)/\
 (bp=false->
 K (au [fz bQ,ο true]) []))
 ):aI Tryz.prog NB (RV b 34) 34 [aC (.sl 1 (ints ξ b))] [] (dp 0 K):=by apply Eq.mp (a:=aq);kernel_rfl
theorem Yc:cx Tryz.prog NB:=dP mixed Z1 aG 10
theorem SI:∀{M:ML} {k:List Int} {v:List D},(M.map (·.1)).Nodup->(bI M k v).Perm ((k,v)::M.filter (fun e=>decide (e.1≠k)))
 | [],k,v,_=>by simp [bI]
 | (a,c)::M,k,v,hn=>by
  simp only[kv,List.nodup_cons]at hn
  simp only[bI]
  by_cases h:k=a
  ·subst h
   rw[if_pos rfl]
   have:M.filter (fun e=>decide (e.1≠k))=M:=by
    rw[List.filter_eq_self]
    intro e he
    simp only[decide_eq_true_eq]
    exact fun e1=>hn.1 (dO.2 ⟨e,he,e1⟩)
   rw[List.filter_cons_of_neg (by simp),this]
  ·rw[if_neg h,List.filter_cons_of_pos (by simpa using Ne.symm h)]
   exact((SI hn.2).cons (a,c)).trans (List.Perm.swap _ _ _)
theorem Uu {x:List L3} {c n e:Int}:(pd x c n e).Perm ((c,n,e)::x.filter (fun p=>decide (p.1≠c))):=by
 have h1:=List.filter_append_perm (fun p:L3=>decide (p.1<c)) (x.filter (fun p=>decide (p.1≠c)))
 have e1:(x.filter (fun p=>decide (p.1≠c))).filter (fun p:L3=>decide (p.1<c))=x.filter (fun p=>decide (p.1<c)):=by
  rw[List.filter_filter]
  apply List.filter_congr
  intro p _
  by_cases h:p.1<c
  ·have:p.1≠c:=by omega
   simp [h,this]
  ·simp [h]
 have e2:(x.filter (fun p=>decide (p.1≠c))).filter (fun p:L3=> !decide (p.1<c))=x.filter (fun p=>decide (c<p.1)):=by
  rw[List.filter_filter]
  apply List.filter_congr
  intro p _
  by_cases h:c<p.1
  ·have h1:p.1≠c:=by omega
   have h2:¬ p.1<c:=by omega
   simp [h,h1,h2]
  ·by_cases h2:p.1=c
   ·simp [h2]
   ·have h3:p.1<c:=by omega
    simp [h,h3]
 rw[e1,e2]at h1
 unfold pd
 exact(List.perm_middle).trans (h1.cons _)
theorem aeD {x:List L3} {c n e:Int} (h:cY x c n e=0):(0<=c/\c<=255/\1<=n/\n<=1099511627776/\0<=e/\e<=63)/\(kH x c=none->x.length<32):=by
 unfold cY at h
 split at h
 ·cases h
 ·rename_i hg
  refine⟨by omega,fun hn=>?_⟩
  rw[hn]at h
  simp only at h
  split at h
  ·cases h
  ·omega
theorem S_ {x:List L3} {c:Int} (h:∀ p∈x,p.1≠c):kH x c=none:=by
 unfold kH
 rw[YO (fun j hj=>h _ (uw hj))];rfl
theorem D8 {M:ML} {x:List L3} {c n e:Int} (h:bL M x) (h0:cY x c n e=0):bL (bI M [c] [dn γ n,dn γ e]) (pd x c n e):=by
 obtain⟨hr,hn⟩:=aeD h0
 have hp:(pd x c n e).Perm ((c,n,e)::x.filter (fun p=>decide (p.1≠c))):=Uu
 refine⟨?_,?_,fun p hpm=>?_,?_⟩
 ·have h1:=SI (M:=M) (k:=[c]) (v:=[dn γ n,dn γ e]) (LD h)
  have h2:(M.filter (fun q=>decide (q.1≠[c]))).Perm ((x.map pC).filter (fun q=>decide (q.1≠[c]))):=h.perm.filter _
  have h3:(x.map pC).filter (fun q=>decide (q.1≠[c]))=(x.filter (fun p=>decide (p.1≠c))).map pC:=by
   rw[List.filter_map]
   congr 1
   apply List.filter_congr
   intro p _
   simp [pC]
  rw[h3]at h2
  have h4:=(hp.map pC).symm
  exact(h1.trans (h2.cons _)).trans h4
 ·unfold pd
  refine List.pairwise_append.2 ⟨h.inc.filter _,List.pairwise_cons.2 ⟨fun q hq=>?_,h.inc.filter _⟩,fun a ha b hb=>?_⟩
  ·have:=(lu.1 hq).2
   simp only[decide_eq_true_eq]at this
   exact this
  ·have h1:=(lu.1 ha).2
   simp only[decide_eq_true_eq]at h1
   rcases dS.1 hb with rfl | hb
   ·exact h1
   ·have h2:=(lu.1 hb).2
    simp only[decide_eq_true_eq]at h2
    omega
 ·rcases dS.1 (hp.mem_iff.1 hpm)with rfl | h1
  ·exact hr
  ·exact h.rg p (lu.1 h1).1
 ·rw[hp.length_eq,gA]
  have h1:=List.length_filter_le (fun p:L3=>decide (p.1≠c)) x
  cases hq:kH x c with
  |none=>have:=hn hq;omega
  |some q=>
   have h2:∃ p∈x,p.1=c:=by
    unfold kH at hq
    cases hc:oP x c with
    |none=>rw[hc]at hq;cases hq
    |some i=>obtain⟨k1,k2,_⟩:=x_ hc;exact⟨_,uw k1,k2⟩
   obtain⟨p,hpx,hpc⟩:=h2
   have h3:(x.filter (fun p:L3=>decide (p.1≠c))).length<x.length:=List.length_filter_lt_length_iff_exists.2 ⟨p,hpx,by simp [hpc]⟩
   have:=h.len
   omega
theorem aeE {x:List L3} {c n e:Int} (h:∀ p∈x,p.1<c):pd x c n e=x++[(c,n,e)]:=by
 unfold pd
 have e1:x.filter (fun p=>decide (p.1<c))=x:=by
  rw[List.filter_eq_self];intro p hp;simpa using h p hp
 have e2:x.filter (fun p=>decide (c<p.1))=[]:=by
  rw[List.filter_eq_nil_iff];intro p hp;have:=h p hp;simp;omega
 rw[e1,e2]
theorem abC {x:List L3} {c:Int} (hi:x.Pairwise (fun a b=>a.1<b.1)) (h:nG x<c):∀ p∈x,p.1<c:=fun p hp=>by
 unfold nG at h
 cases hl:x.getLast? with
 |none=>rw[List.getLast?_eq_none_iff]at hl;subst hl;cases hp
 |some q=>
  rw[hl]at h
  simp only at h
  obtain⟨y,rfl⟩:=List.getLast?_eq_some_iff.1 hl
  rcases dz.1 hp with h1 | h1
  ·have:=(List.pairwise_append.1 hi).2.2 p h1 q (da.2 rfl);omega
  ·rw[da]at h1;subst h1;exact h
theorem abD {x:List L3} {c:Int} (h0:0<=c) (h:∀ p∈x,p.1<c):nG x<c:=by
 unfold nG
 cases hl:x.getLast? with
 |none=>simp only;omega
 |some q=>exact h q (List.mem_of_getLast? hl)
theorem abE {x:List L3} {p:L3}:nG (x++[p])=p.1:=by unfold nG;simp
theorem zq {l:List Int} {most:Int} (h0:0<=most) (e:Int):(cC l e most).1<=most/\0<=(cC l e most).1:=by
 unfold cC
 split
 ·split
  ·split
   ·exact⟨h0,dE _⟩
   ·exact⟨by simp only;omega,by simp only;omega⟩
  ·exact⟨h0,dE _⟩
  ·exact⟨h0,dE _⟩
 ·exact⟨h0,dE _⟩
theorem aeS {b:List Int} {v:Int} {u:Nat} {most:Int} (hb:bq b) (h:cC b 0 most=(v,u,0)):b=aZ v++b.drop u/\u=(aZ v).length/\0<=v/\v<=9223372036854775807:=by
 unfold cC at h
 rw[if_pos rfl]at h
 split at h
 ·rename_i w n hn
  split at h
  ·simp at h
  ·simp only[Prod.mk.injEq,and_true]at h
   obtain⟨rfl,rfl⟩:=h
   obtain⟨h1,h2,r,h3⟩:=Df hb hn
   refine⟨?_,h2,by omega,h1⟩
   have:b.drop n=r:=by rw[h3,h2,List.drop_left]
   rw[this];exact h3
 ·simp at h
 ·simp at h
theorem Dv {l:List Int} {e most:Int} (h:e≠0):cC l e most=(0,0,e):=by unfold cC;rw[if_neg h]
theorem wS {b:List Int} {p:Nat×Int} {m:Int} (h:(ir b p m).2=0):p.2=0:=Classical.byContradiction fun f=>by
 unfold ir at h
 rw[Dv f]at h
 exact f h
theorem uT {b:List Int} (hb:bq b) {p:Nat×Int} (h:p.1<=b.length) (m:Int):(ir b p m).1<=b.length:=by
 have:=(zr (qq hb p.1) p.2 m).2.2
 rw[gm]at this
 unfold ir;simp only;omega
theorem zb {b:List Int} (hb:bq b) {p:Nat×Int} {m:Int} (h:(ir b p m).2=0):b.drop p.1=aZ (jM b p m)++b.drop (ir b p m).1:=by
 have hp:=wS h
 unfold ir at h
 simp only at h
 rw[hp]at h
 have:=aeS (b:=b.drop p.1) (v:=(cC (b.drop p.1) 0 m).1) (u:=(cC (b.drop p.1) 0 m).2.1) (most:=m) (qq hb _) (Prod.ext rfl (Prod.ext rfl h))
 unfold jM ir
 simp only
 rw[hp,<- List.drop_drop]
 exact this.1
theorem za {pre rest:List Int} {v m:Int} (h0:0<=v) (h:v<=9223372036854775807) (hm:v<=m):ir (pre++(aZ v++rest)) (pre.length,0) m=((pre++aZ v).length,0)/\jM (pre++(aZ v++rest)) (pre.length,0) m=v:=by
 unfold ir jM
 simp only
 rw[List.drop_left,KA h0 h hm,bn]
 exact⟨rfl,rfl⟩
theorem RT {b:List Int}:jM b (0,0) 32=(lc b:Int)/\lc b<=32:=by
 have:=zq (l:=b.drop 0) (most:=32) (by omega) 0
 unfold lc jM
 simp only at this ⊢
 omega
theorem CG {b:List Int} (hb:bq b):∀ i,(bG b i).1.1<=b.length/\(bG b i).2.length=i
 | 0=>⟨uT hb (bj _) _,rfl⟩
 |i+1=>by
  obtain⟨h1,h2⟩:=CG hb i
  exact⟨uT hb (uT hb (uT hb h1 _) _) _,by simp only[bG,bn,gZ,h2]⟩
theorem RP {b:List Int} (hb:bq b):∀ i,(bG b i).1.2=0->b=aZ (lc b:Int)++(gU (bG b i).2++b.drop (bG b i).1.1)
 | 0,h=>by
  have:=zb (p:=(0,0)) (m:=32) hb h
  rw[RT.1]at this
  exact this
 |i+1,h=>by
  have h3:(s3 b (bG b i).1).2=0:=h
  have h2:(s2 b (bG b i).1).2=0:=wS h3
  have h1:(s1 b (bG b i).1).2=0:=wS h2
  have h0:(bG b i).1.2=0:=wS h1
  have ih:=RP hb i h0
  have a1:=zb (p:=(bG b i).1) (m:=255) hb h1
  have a2:=zb (p:=s1 b (bG b i).1) (m:=1099511627776) hb h2
  have a3:=zb (p:=s2 b (bG b i).1) (m:=63) hb h3
  have e:b.drop (bG b i).1.1=mZ (v3 b (bG b i).1)++b.drop (s3 b (bG b i).1).1:=by
   rw[a1]
   show _++b.drop (s1 b (bG b i).1).1=_
   rw[a2]
   show _++(_++b.drop (s2 b (bG b i).1).1)=_
   rw[a3]
   unfold mZ v3
   simp only[dX]
   rfl
  rw[e]at ih
  show b=aZ (lc b:Int)++(gU ((bG b i).2++[v3 b (bG b i).1])++b.drop (s3 b (bG b i).1).1)
  rw[Gx,dX]
  have e1:gU [v3 b (bG b i).1]=mZ (v3 b (bG b i).1):=by simp [gU]
  rw[e1]
  exact ih
theorem aaw {x:List L3} {i:Nat} (h:i<x.length):x.drop i=g3 x i::x.drop (i+1):=by
 have h1:=List.drop_eq_getElem_cons h
 have h2:=td h
 rw[bu h,bb.injEq]at h2
 rw[h1,h2]
theorem CH {x:List L3} (hx:fl x):lc (be x)=x.length/\∀ i,i<=x.length->bG (be x) i=(((fY x i).length,0),x.take i):=by
 have hl:=hx.len
 have e0:=za (pre:=[]) (rest:=gU x) (v:=(x.length:Int)) (m:=32) (by omega) (by omega) (by omega)
 simp only[jr,kP]at e0
 have hc:lc (be x)=x.length:=by
  unfold lc be
  rw[e0.2];exact cN _
 refine⟨hc,fun i=>?_⟩
 induction i with
 |zero=>
  intro _
  show(ir (be x) (0,0) 32,[])=_
  unfold be
  rw[e0.1,V6];rfl
 |succ i ih=>
  intro hi
  have ih:=ih (by omega)
  have hr:=hx.rg _ (uw (show i<x.length by omega))
  have Hp:be x=fY x i++(mZ (g3 x i)++gU (x.drop (i+1))):=by
   have e1:x=x.take i++g3 x i::x.drop (i+1):=by rw[<- aaw (by omega),List.take_append_drop]
   have e2:gU x=gU (x.take i)++(mZ (g3 x i)++gU (x.drop (i+1))):=by
    conv=>lhs;rw[e1]
    rw[Gx];simp [gU]
   unfold be fY
   rw[e2,dX]
  have a1:=za (pre:=fY x i) (rest:=aZ (g3 x i).2.1++aZ (g3 x i).2.2++gU (x.drop (i+1))) (v:=(g3 x i).1) (m:=255) (by omega) (by omega) (by omega)
  have a2:=za (pre:=fY x i++aZ (g3 x i).1) (rest:=aZ (g3 x i).2.2++gU (x.drop (i+1))) (v:=(g3 x i).2.1) (m:=1099511627776) (by omega) (by omega) (by omega)
  have a3:=za (pre:=fY x i++aZ (g3 x i).1++aZ (g3 x i).2.1) (rest:=gU (x.drop (i+1))) (v:=(g3 x i).2.2) (m:=63) (by omega) (by omega) (by omega)
  have f1:fY x i++(aZ (g3 x i).1++(aZ (g3 x i).2.1++aZ (g3 x i).2.2++gU (x.drop (i+1))))=be x:=by rw[Hp];unfold mZ;simp only[dX]
  have f2:fY x i++aZ (g3 x i).1++(aZ (g3 x i).2.1++(aZ (g3 x i).2.2++gU (x.drop (i+1))))=be x:=by rw[Hp];unfold mZ;simp only[dX]
  have f3:fY x i++aZ (g3 x i).1++aZ (g3 x i).2.1++(aZ (g3 x i).2.2++gU (x.drop (i+1)))=be x:=by rw[Hp];unfold mZ;simp only[dX]
  rw[f1]at a1
  rw[f2]at a2
  rw[f3]at a3
  have b1:s1 (be x) ((fY x i).length,0)=((fY x i++aZ (g3 x i).1).length,0):=a1.1
  have b2:s2 (be x) ((fY x i).length,0)=((fY x i++aZ (g3 x i).1++aZ (g3 x i).2.1).length,0):=by unfold s2;rw[b1];exact a2.1
  have b3:s3 (be x) ((fY x i).length,0)=((fY x (i+1)).length,0):=by
   unfold s3
   rw[b2,a3.1,V7 (by omega)]
   unfold mZ
   simp only[dX]
  have bv:v3 (be x) ((fY x i).length,0)=g3 x i:=by
   unfold v3
   rw[b1,b2,a1.2,a2.2,a3.2]
  show(s3 (be x) (bG (be x) i).1,(bG (be x) i).2++[v3 (be x) (bG (be x) i).1])=_
  rw[ih]
  simp only
  rw[b3,bv,<- HS (by omega)]
theorem acf {x:List L3} (hx:fl x) {i:Nat} (hi:i<lc (be x)):(s3 (be x) (bG (be x) i).1).2=0/\nG (bG (be x) i).2<(v3 (be x) (bG (be x) i).1).1/\
  cY (bG (be x) i).2 (v3 (be x) (bG (be x) i).1).1 (v3 (be x) (bG (be x) i).1).2.1 (v3 (be x) (bG (be x) i).1).2.2=0:=by
 obtain⟨h1,h2⟩:=CH hx
 rw[h1]at hi
 have e1:=h2 (i+1) (by omega)
 have e0:=h2 i (by omega)
 have e2:(s3 (be x) (bG (be x) i).1,(bG (be x) i).2++[v3 (be x) (bG (be x) i).1])=(((fY x (i+1)).length,(0:Int)),x.take (i+1)):=e1
 rw[Prod.mk.injEq]at e2
 have ev:v3 (be x) (bG (be x) i).1=g3 x i:=by
  have e3:=e2.2
  rw[e0,HS hi]at e3
  simp only at e3
  have e4:=List.append_cancel_left e3
  simp only[List.cons.injEq,and_true]at e4
  rw[e0];exact e4
 have hr:=hx.rg _ (uw hi)
 have hlt:∀ p∈x.take i,p.1<(g3 x i).1:=fun p hp=>by
  obtain⟨j,hj,rfl⟩:=List.getElem_of_mem hp
  rw[cW]at hj
  have e5:=td (show j<x.length by omega)
  rw[bu (show j<x.length by omega),bb.injEq]at e5
  rw[List.getElem_take,e5]
  exact RA hx.inc (by omega) hi
 refine⟨by rw[e2.1],?_,?_⟩
 ·rw[ev,e0]
  exact abD hr.1 hlt
 ·rw[ev,e0]
  simp only
  unfold cY
  rw[if_neg (by omega),S_ (fun p hp=>by have:=hlt p hp;omega)]
  simp only
  rw[if_neg (by rw[cW];have:=hx.len;omega)]
theorem Oj {a:Int} (h:(a != 0)=true):a≠0:=by simpa using h
theorem Oi {a:Int} (h:(a != 0)=false):a=0:=by simpa using h
theorem UB {l:List Int} {e:Int} (h:iY l e=0):e=0/\l=[]:=by
 unfold iY at h
 split at h
 ·omega
 ·rename_i hh
  refine⟨h,?_⟩
  by_cases hd:l=[]
  ·exact hd
  ·exact absurd ⟨hd,h⟩ hh
theorem aaj {x:List L3} (hx:fl x):iY ((be x).drop (bG (be x) (lc (be x))).1.1) (bG (be x) (lc (be x))).1.2=0:=by
 obtain⟨h1,h2⟩:=CH hx
 rw[h1,h2 _ (ar _),tQ]
 show iY ((be x).drop (be x).length) 0=0
 rw[List.drop_length];rfl
theorem aai {b:List Int} (hb:bq b) (h:iY (b.drop (bG b (lc b)).1.1) (bG b (lc b)).1.2=0):b=be (bG b (lc b)).2:=by
 obtain⟨h1,h2⟩:=UB h
 have:=RP hb _ h1
 rw[h2,gz]at this
 unfold be
 rw[(CG hb (lc b)).2]
 exact this
theorem Tz:aO Tryz.prog 34 Ax:=lF Yc mixed (fun args kb K h=>by
 unfold Ax at h;split at h<;>try exact h.elim
 obtain⟨b,rfl,hb,hl,hno,hyes⟩:=h
 obtain⟨c1,c2⟩:=RT (b:=b)
 have bad:∀ i,i<lc b->¬ ((s3 b (bG b i).1).2=0/\nG (bG b i).2<(v3 b (bG b i).1).1/\cY (bG b i).2 (v3 b (bG b i).1).1 (v3 b (bG b i).1).2.1 (v3 b (bG b i).1).2.2=0)->K (.φ [.agg [δ (.map none)],ο false]) []:=fun i hi hn=>hno (by
  rintro⟨x,hx,rfl⟩
  exact hn (acf hx hi))
 have YX:iY (b.drop (bG b (lc b)).1.1) (bG b (lc b)).1.2≠0->K (.φ [.agg [δ (.map none)],ο false]) []:=fun hn=>hno (by
  rintro⟨x,hx,rfl⟩
  exact hn (aaj hx))
 refine⟨RV b 34,ah2 b K ⟨by rw[bi];omega,b,rfl,bi,bj _,hb,by omega,?_,?_⟩⟩
 ·have e1:(cC (ax 0 b) 0 32).1=(lc b:Int):=c1
  rw[e1]
  exact At.mk' ⟨(0,[]),bj _,V9,(CG hb 0).1⟩ rfl
 ·rintro⟨⟨i,M⟩,i2,ht,hpos⟩
  dsimp only at i2 ht hpos ⊢
  refine⟨fun hc=>?_,fun hc=>?_⟩
  ·have hi:i<lc b:=by have:(i:Int)<(lc b:Int):=of_decide_eq_true hc;omega
   have p1:=uT hb hpos 255
   have p2:=uT hb p1 1099511627776
   refine⟨b,rfl,rfl,hpos,hb,by omega,b,rfl,rfl,p1,hb,by omega,b,rfl,rfl,p2,hb,by omega,fun h1=>?_,fun h1=>⟨fun h2=>?_,fun h2=>⟨(bG b i).2,ht,fun h3=>⟨fun h4=>?_,fun h4=>absurd (Oi h4) h3.h⟩,fun h3=>⟨fun f=>(by cases f),fun _=>?_⟩⟩⟩⟩
   ·have he:(s3 b (bG b i).1).2≠0:=Oj h1
    exact bad i hi fun w=>he w.1
   ·have fI:(v3 b (bG b i).1).1<=nG (bG b i).2:=of_decide_eq_true h2
    exact bad i hi fun w=>by have:=w.2.1;omega
   ·exact bad i hi fun w=>h3.h w.2.2
   ·have fI:¬ (v3 b (bG b i).1).1<=nG (bG b i).2:=of_decide_eq_false h2
    have h4:bL (bI M [(v3 b (bG b i).1).1] [dn γ (v3 b (bG b i).1).2.1,dn γ (v3 b (bG b i).1).2.2]) (pd (bG b i).2 (v3 b (bG b i).1).1 (v3 b (bG b i).1).2.1 (v3 b (bG b i).1).2.2):=D8 ht h3.h
    rw[aeE (abC ht.inc (Int.not_le.1 fI))]at h4
    have hL:EG b (i+1) _:=⟨hi,h4,(CG hb (i+1)).1⟩
    have aa9:(v3 b (bG b i).1).1=nG (bG b (i+1)).2:=abE.symm
    have e1:γ.wrap ((i:Int)+1)=((i+1:Nat):Int):=by rw[bE (by omega) (by omega)];rfl
    have key:∀(c' w':Int),c'=nG (bG b (i+1)).2->w'=((i+1:Nat):Int)->(([aj 0 0,aj 1 0,.int γ c',aj 2 0,.int γ (lc b:Int),.int γ w'],[aB [δ (.map none)],aB [.sl 3 (s3 b (bG b i).1).1 b.length,.int γ (s3 b (bG b i).1).2],aB [af (bI M [(v3 b (bG b i).1).1] [dn γ (v3 b (bG b i).1).2.1,dn γ (v3 b (bG b i).1).2.2])],ai 5 1 (ints ξ b)]):List V×KB)=(yO b).st ⟨(i+1,_),hL⟩:=by
     rintro _ _ rfl rfl;rfl
    exact Nx.mk' ⟨(i+1,_),hL⟩ (key _ _ aa9 e1) (by show lc b - (i+1)<lc b - i;omega)
  ·have hi:i=lc b:=by
    have:¬ (i:Int)<(lc b:Int):=of_decide_eq_false hc
    omega
   subst hi
   exact⟨b,rfl,rfl,fun h1=>YX (Oj h1),fun h1=>hyes _ M ht (aai hb (Oi h1))⟩)
end Go.Proofs.YtfcjngcnifdmnaaGreat
