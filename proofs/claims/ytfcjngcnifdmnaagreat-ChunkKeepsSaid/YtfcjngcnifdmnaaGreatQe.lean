import Derived.Test.YtfcjngcnifdmnaaGreatQd
import Derived.KernelRfl
set_option linter.unusedSimpArgs false
set_option linter.unusedVariables false
namespace Vc
open Go
open Go.IntKind renaming i64->Z,u8->θ,u32->gq
open List renaming map->ι,drop->ν,take->ah,length_append->bw,getElem?_eq_getElem->bx,getElem?_eq_some_iff->bU,length_map->cg,Mem->ct,take_length->cN,replicate->cQ,length_take->cW,append_assoc->dQ,getElem?_append_right->ef,getElem?_append_left->eH,mem_cons->eP,append_nil->fg,length_drop->fh,getElem?_map->fG,mem_map->fH,take_of_length_le->fI,getElem?_set_ne->fR,mem_cons_of_mem->fS,mem_append->gl,mem_of_getElem?->gm,getElem?_eq_none->gA,getElem?_set_self->gB,length_set->gC,range->gD,drop_zero->gK,mem_singleton->gY,flatten_cons->im,length_cons->io,mem_cons_self->iA,getElem?_take_of_lt->jj,length_nil->jk,nil_append->jm,getElem?_drop->jB,map_append->jC,take_add_one->jY,ext_getElem?->km,getD_eq_getElem?_getD->kn,length_singleton->ko,eq_nil_of_length_eq_zero->kG,mem_append_left->lR,mem_filter->lS
open Go.Value renaming int->κ,slice->eI,bool->fa,map->gr,oneCell'->kq
open Nat renaming le_refl->aE,zero_le->bF,beq->bZ,eq_of_beq_eq_true->cy,zero_add->cL,add_assoc->fT,lor->gE,lt_or_ge->iX,sub_zero->kp
open Option renaming some->bh,bind_eq_some_iff->jF,map->jZ
open Int renaming toNat_natCast->dr,le_refl->gp
open Bool renaming and_eq_true->kE
abbrev pv (b:Nat):Value:=.pointer (some ⟨b,0,none⟩)
def uv:V->Value->Prop
 | .any v,p=>v=p
 | .dat d,p=>d= .val p
 |_,_=>False
theorem uv.den {v:V} {p:Value} (h:uv v p) {σ:Sg} {E:EH} {x:Value} (hd:Den σ E v x):x=p:=by
 cases v<;>simp only[uv]at h
 ·subst h;simpa only[Den]using hd
 ·subst h;simp only[Den,bH]at hd;exact hd.1
theorem tT {σ σ':Sg} {E:EH} {v v':V} (h:V.bS (fun _=>none) v=some v') {x:Value} (hd:Den σ E v x):Den σ' E v' x:=
 Den.bS (fun i j r hi=>by cases hi) h hd
theorem O3 {σ σ':Sg} {E:EH} {vs vs':List V} (h:V.jN (fun _=>none) vs=some vs') {xs:List Value} (hd:aw σ E vs xs):aw σ' E vs' xs:=
 aw.bS (fun i j r hi=>by cases hi) h hd
theorem GJ {σ:Sg} {o:List Nat} (ho:o.take 1=gD 1) {b:Nat} (h:l_ σ b):l_ (dB σ o) b:=by
 obtain⟨r,h1,h2⟩:=h
 cases o with
 |nil=>simp at ho
 |cons i o=>
  simp [List.range_succ]at ho
  subst ho
  exact⟨r,by simp [dB,h1],h2⟩
theorem YT {q:Re} {E E':EH} {W W':World} {A:List (Sg×KB)} (hi:Inv [q] E [.objs A] W) {k:Nat} {a:Sg×KB} (hk:A[k]? =some a) {σ':Sg} {bC:KB} (hst:Step a.1 E a.2 W σ' E' bC W')
  {a':Sg×KB} (ha:lT E' W' a') (hown:∀ b,iq a' b->b9 σ' bC b):Step [q] E [.objs A] W [q] E' [.objs (A.set k a')] W':=by
 have hp:nQ E W A:=hi.obj 0 q _ rfl rfl
 have hka:=(bU.1 hk).1
 have hmem:a∈A:=gm hk
 have hin:∀{b:Nat} {c:Sg×KB},c∈A->iq c b->b9 [q] [.objs A] b:=fun{b c} hc hb=>⟨0,q,_,rfl,rfl,c,hc,hb⟩
 have yQ:∀(m:Nat) (c:Sg×KB) (b:Nat),m≠k->A[m]? =some c->iq c b->¬ b9 a.1 a.2 b:=fun m c b hm hc hb ho=>
  hp.c9 m k c a b hm hc hk hb ((hp.ok a hmem).owns ho)
 have hkeep:∀(m:Nat) (c:Sg×KB) (b:Nat),m≠k->A[m]? =some c->iq c b->W'.heap[b]? =W.heap[b]?:=fun m c b hm hc hb=>
  hst.bK.block b ((hp.ok c (gm hc)).lt hb) (yQ m c b hm hc hb)
 have dZ:∀(m:Nat) (c:Sg×KB),(A.set k a')[m]? =some c->(m=k/\c=a')∨(m≠k/\A[m]? =some c):=fun m c h=>by
  by_cases e:k=m
  ·subst e
   rw[gB hka]at h
   exact .inl ⟨rfl,(bh.inj h).symm⟩
  ·rw[fR e]at h
   exact .inr ⟨fun x=>e x.symm,h⟩
 have hnew:∀ b,iq a' b->b9 a.1 a.2 b∨W.heap.size<=b:=fun b hb=>hst.own b (hown b hb)
 have Eu:nQ E' W' (A.set k a'):=by
  refine⟨fun c hc=>?_,fun m n c d b hmn hc hd h1 h2=>?_⟩
  ·obtain⟨m,hm⟩:=List.getElem?_of_mem hc
   rcases dZ m c hm with ⟨rfl,rfl⟩ | ⟨e,h⟩
   ·exact ha
   ·exact(hp.ok c (gm h)).mono hst.le (fun b hb=>hkeep m c b e h hb)
  ·rcases dZ m c hc with ⟨rfl,rfl⟩ | ⟨e,h⟩<;>rcases dZ n d hd with ⟨rfl,rfl⟩ | ⟨e',h'⟩
   ·exact hmn rfl
   ·rcases hnew b h1 with k1 | k1
    ·exact yQ n d b e' h' h2 k1
    ·have:=(hp.ok d (gm h')).lt h2;omega
   ·rcases hnew b h2 with k1 | k1
    ·exact yQ m c b e h h1 k1
    ·have:=(hp.ok c (gm h)).lt h1;omega
   ·exact hp.c9 m n c d b hmn h h' h1 h2
 have o8:∀ b,b9 [q] [.objs (A.set k a')] b->b9 [q] [.objs A] b∨W.heap.size<=b:=by
  rintro b ⟨i,r,o,h1,h2,h3⟩
  have:i=0:=by
   rcases i with _ | i
   ·rfl
   ·simp at h1
  subst this
  simp at h1 h2;subst h1;subst h2
  obtain⟨c,hc,hb⟩:=h3
  obtain⟨m,hm⟩:=List.getElem?_of_mem hc
  rcases dZ m c hm with ⟨rfl,rfl⟩ | ⟨e,h⟩
  ·rcases hnew b hb with k1 | k1
   ·exact .inl (hin hmem ((hp.ok a hmem).owns k1))
   ·exact .inr k1
  ·exact .inl (hin (gm h) hb)
 refine⟨⟨rfl,fun i r o h1 h2=>?_,fun i j r r' o o' b hij h1 h2 h3 h4 _ _=>?_,hst.inv.cP,fun b hb=>?_⟩,⟨hst.bK.os,hst.bK.tape,hst.bK.output,hst.bK.size,fun b hb hn=>hst.bK.block b hb (fun ho=>hn (hin hmem ((hp.ok a hmem).owns ho)))⟩,⟨[],by simp⟩,hst.le,o8,fun b o hb=>?_⟩
 ·have:i=0:=by
   rcases i with _ | i
   ·rfl
   ·simp at h1
  subst this
  simp at h1 h2;subst h1;subst h2
  exact Eu
 ·have e1:i=0:=by
   rcases i with _ | i
   ·rfl
   ·simp at h1
  have e2:j=0:=by
   rcases j with _ | j
   ·rfl
   ·simp at h3
  omega
 ·obtain⟨i,r,o,h1,h2,h3⟩:=hb
  have:i=0:=by
   rcases i with _ | i
   ·rfl
   ·simp at h1
  subst this
  simp at h1 h2;subst h1;subst h2
  obtain⟨c,hc,hcb⟩:=h3
  obtain⟨m,hm⟩:=List.getElem?_of_mem hc
  rcases dZ m c hm with ⟨rfl,rfl⟩ | ⟨e,h⟩
  ·exact hst.inv.sep b (hown b hcb)
  ·cases hE:E' b with
   |none=>rfl
   |some x=>
    rcases hst.new b x hE with k1 | k1 | k1
    ·rw[hi.sep b (hin (gm h) hcb)]at k1;cases k1
    ·exact(yQ m c b e h hcb k1).elim
    ·have:=(hp.ok c (gm h)).lt hcb;omega
 ·rcases hst.new b o hb with k1 | k1 | k1
  ·exact .inl k1
  ·exact .inr (.inl (hin hmem ((hp.ok a hmem).owns k1)))
  ·exact .inr (.inr k1)
def ed (K:V->KB->Prop):V->KB->Prop:=fun r kb=>match qg false 1 [] kb,V.bS (fun _=>none) r with
 |some (_,de,_),some r'=>match fz de with | true=>K r' de | false=>False
 |_,_=>False
theorem Fl {P:Program} {f:FuncId} {S S0:aH} (hS:aT P f S0) (h:∀ args kb K,S args kb K->S0 args kb (ed K)):fw P f S:=fun args kb K hs σ E W xs hi hd=>by
 refine(hS _ _ _ (h args kb K hs) σ E W xs hi hd).mono ?_
 rintro e W' ⟨v,r,σ',E',bC,rfl,hst,dT,hK⟩
 unfold ed at hK
 split at hK<;>try exact hK.elim
 rename_i vs' de o r' hc hr'
 split at hK<;>try exact hK.elim
 rename_i lq
 obtain⟨hn,ht,_,hsel⟩:=oU hc
 obtain⟨k1,k2,k3⟩:=hst.inv.sel hn hsel
 refine⟨v,r',σ',E',bC,_,de,rfl,hst,k1,lq,k2,fun b hb=>?_,fun τ=>tT hr' dT,hK⟩
 obtain⟨τ,rfl⟩:=hst.pre
 obtain⟨r,hr,hrb⟩:=hb
 exact GJ ht ⟨r,fE hr,hrb⟩
theorem zp {P:Program} (hm:P.follows .mixedOrders=true) {f:FuncId} {S:aH} (h:∀ args kb K,S args kb K->∃(X:bM) (T:Nat->Option LI),bW P X/\aO P X T f args kb (ed K)):fw P f S:=
 Fl (ud hm (S:=fun a k K0=>∃ X T,bW P X/\aO P X T f a k K0) fun _ _ _ h=>h) h
def TH (l:List V) (k:Nat):Bool:=match l[k]? with
 |some (.sb b)=>match b with | true=>false | false=>true
 |some .ff=>true
 |_=>false
def Ei (k:Nat) (ms:List Bool) (kb:KB) (K:KB->Prop):Prop:=match kb with
 | .cells l::rest=>match TH l k with
  |true=>∀ f:Nat->Value,match kS f ms l 0 with
   |some l'=>K (.cells l'::rest)
   |none=>False
  |false=>K (.cells l::rest)
 |kb=>K kb
theorem LZ {k:Nat} {ms:List Bool} {kb:KB} {K:KB->Prop} (h:Ei k ms kb K) {σ:Sg} {E:EH} {W:World} (hi:Inv σ E kb W):∃ kb',Inv σ E kb' W/\(∀ b,b9 σ kb' b->b9 σ kb b)/\K kb':=by
 unfold Ei at h
 split at h
 ·rename_i l rest
  split at h
  ·obtain⟨q,hq⟩:∃ q,σ[0]? =some q:=by
    have:=hi.len
    cases σ with
    |nil=>simp at this
    |cons q σ=>exact⟨q,rfl⟩
   obtain⟨arr,ty,ha,hl⟩:=hi.obj 0 q _ hq rfl
   obtain⟨f,hf⟩:=zo (ms:=ms) (i:=0) hl
   have h:=h f
   split at h<;>try exact h.elim
   rename_i l' hl'
   obtain⟨h1,h2⟩:=hf l' hl'
   refine⟨_,⟨by simpa using hi.len,fun i q' o k1 k2=>?_,fun i j q1 q2 o o' b hij k1 k2 k3 k4 k5 k6=>?_,hi.cP,fun b hb=>hi.sep b (qF hb)⟩,fun b hb=>qF hb,h⟩
   ·cases i with
    |zero=>
     simp at k2;subst k2
     rw[hq]at k1;cases k1
     exact⟨arr,ty,ha,h1⟩
    |succ i=>exact hi.obj (i+1) q' o k1 (by simpa using k2)
   ·have key:∀(i:Nat) (o:KO) (q:Re),(KO.cells l'::rest)[i]? =some o->owned q o b->∃ o2,(KO.cells l::rest)[i]? =some o2/\owned q o2 b:=fun i o q h2 h5=>by
     cases i with
     |zero=>simp at h2;subst h2;exact⟨_,rfl,h5⟩
     |succ i=>exact⟨o,by simpa using h2,h5⟩
    obtain⟨o2,g1,g2⟩:=key i o q1 k2 k5
    obtain⟨o3,g3,g4⟩:=key j o' q2 k4 k6
    exact hi.c9 i j q1 q2 o2 o3 b hij k1 g1 k3 g3 g2 g4
  ·exact⟨_,hi,fun b hb=>hb,h⟩
 ·exact⟨_,hi,fun b hb=>hb,h⟩
def fD (k:Nat) (ms:List Bool) (K:V->KB->Prop):V->KB->Prop:=fun r kb=>Ei k ms kb (ed K r)
theorem Wp {P:Program} {f:FuncId} {S S0:aH} (hS:aT P f S0) (k:Nat) (ms:List Bool) (h:∀ args kb K,S args kb K->S0 args kb (fD k ms K)):fw P f S:=fun args kb K hs σ E W xs hi hd=>by
 refine(hS _ _ _ (h args kb K hs) σ E W xs hi hd).mono ?_
 rintro e W' ⟨v,r,σ',E',bC,rfl,hst,dT,hK⟩
 obtain⟨VN,him,Es,hK⟩:=LZ hK hst.inv
 unfold ed at hK
 split at hK<;>try exact hK.elim
 rename_i vs' de o r' hc hr'
 split at hK<;>try exact hK.elim
 rename_i lq
 obtain⟨hn,ht,_,hsel⟩:=oU hc
 obtain⟨k1,k2,k3⟩:=him.sel hn hsel
 refine⟨v,r',σ',E',bC,_,de,rfl,hst,k1,lq,fun b hb=>Es b (k2 b hb),fun b hb=>?_,fun τ=>tT hr' dT,hK⟩
 obtain⟨τ,rfl⟩:=hst.pre
 obtain⟨r,hr,hrb⟩:=hb
 exact GJ ht ⟨r,fE hr,hrb⟩
theorem rS {P:Program} (hm:P.follows .mixedOrders=true) (k:Nat) (ms:List Bool) {f:FuncId} {S:aH} (h:∀ args kb K,S args kb K->∃(X:bM) (T:Nat->Option LI),bW P X/\aO P X T f args kb (fD k ms K)):fw P f S:=
 Wp (ud hm (S:=fun a k K0=>∃ X T,bW P X/\aO P X T f a k K0) fun _ _ _ h=>h) k ms h
def tU (k:Nat) (ms:List Bool) (K:V->KB->Prop):V->KB->Prop:=fun r kb=>match kb with
 | .gQ a:: _=>match V.bS (fun _=>none) r with
  |some r'=>fz a.2=true/\K r' a.2
  |none=>False
 |kb=>fD k ms K r kb
theorem Wq {P:Program} (hm:P.follows .mixedOrders=true) (k:Nat) (ms:List Bool) {f:FuncId} {S:aH} (h:∀ args kb K,S args kb K->∃(X:bM) (T:Nat->Option LI),bW P X/\aO P X T f args kb (tU k ms K)):fw P f S:=fun args kb K hs σ E W xs hi hd=>by
 have h0:aT P f (fun a k K0=>∃ X T,bW P X/\aO P X T f a k K0):=ud hm fun _ _ _ h=>h
 refine(h0 _ _ _ (h args kb K hs) σ E W xs hi hd).mono ?_
 rintro e W' ⟨v,r,σ',E',bC,rfl,hst,dT,hK⟩
 unfold tU at hK
 split at hK
 ·rename_i a rest
  split at hK<;>try exact hK.elim
  rename_i r' hr'
  obtain⟨lq,hK⟩:=hK
  obtain⟨q,hq⟩:∃ q,σ'[0]? =some q:=by
   have:=hst.inv.len
   cases σ' with
   |nil=>simp at this
   |cons q _=>exact⟨q,rfl⟩
  obtain⟨h1,h2⟩:=hst.inv.obj 0 q _ hq rfl
  refine⟨v,r',σ',E',_,a.1,a.2,rfl,hst,h1.inv hst.inv.cP (fun b hb=>hst.inv.sep b ⟨0,q,_,hq,rfl,hb⟩),lq,fun b hb=>⟨0,q,_,hq,rfl,h1.owns hb⟩,fun b hb=>?_,fun τ=>tT hr' dT,hK⟩
  obtain⟨q0,g1,rfl⟩:=hb
  obtain⟨τ,rfl⟩:=hst.pre
  have:=fE (τ:=τ) g1
  rw[hq]at this;cases this
  exact h2
 ·obtain⟨VN,him,Es,hK⟩:=LZ hK hst.inv
  unfold ed at hK
  split at hK<;>try exact hK.elim
  rename_i vs' de o r' hc hr'
  split at hK<;>try exact hK.elim
  rename_i lq
  obtain⟨hn,ht,_,hsel⟩:=oU hc
  obtain⟨k1,k2,k3⟩:=him.sel hn hsel
  refine⟨v,r',σ',E',bC,_,de,rfl,hst,k1,lq,fun b hb=>Es b (k2 b hb),fun b hb=>?_,fun τ=>tT hr' dT,hK⟩
  obtain⟨τ,rfl⟩:=hst.pre
  obtain⟨r,hr,hrb⟩:=hb
  exact GJ ht ⟨r,fE hr,hrb⟩
def M5 (S:aH):aH:=fun args kb K=>match args,kb with
 |v::rest,[.objs A]=>∃ k a b rest',A[k]? =some a/\l_ a.1 b/\uv v (pv b)/\V.jN (fun _=>none) rest=some rest'/\
  S (.ptr 0 0::rest') a.2 (fun r de=>∀ τ,l_ τ b->K r [.objs (A.set k (τ,de))])
 |_,_=>False
theorem Wr {P:Program} {f:FuncId} {S:aH} (hS:fw P f S):aT P f (M5 S):=fun args kb K h σ E W xs hi hd=>by
 unfold M5 at h
 split at h<;>try exact h.elim
 rename_i v rest A
 obtain⟨k,a,b,rest',hk,qw,hv,pb,h⟩:=h
 obtain⟨q,rfl⟩:∃ q,σ=[q]:=by
  have:=hi.len
  match σ,this with
  | [q],_=>exact⟨q,rfl⟩
 have hp:nQ E W A:=hi.obj 0 q _ rfl rfl
 have hmem:a∈A:=gm hk
 simp only[aw]at hd
 obtain⟨x,xs',rfl,hx,hxs⟩:=hd
 have hx:=hv.den hx
 subst hx
 have hsep:∀ c,iq a c->E c=none:=fun c hc=>hi.sep c ⟨0,q,_,rfl,rfl,a,hmem,hc⟩
 have UM:=(hp.ok a hmem).inv hi.cP hsep
 have Vg:=qw
 obtain⟨r,hr,hrb⟩:=qw
 refine(hS _ _ _ h a.1 E W _ UM (aw.cons (by simp only[Den];exact⟨r,hr,by rw[hrb]⟩) (O3 pb hxs))).mono ?_
 rintro e W' ⟨v2,r2,σ',E',bC,σ3,de,rfl,hst,hin,lq,hown,mD,dT,hK⟩
 exact⟨v2,r2,[q],E',_,rfl,YT hi hk hst (hin.FS lq) (fun c hc=>hown c hc.up),dT _,hK _ (mD b Vg)⟩
def Hx (b:Nat):V->Option V
 | .ptr 0 0=>some (.any (pv b))
 | .υ [.ptr 0 0,v]=>match V.bS (fun _=>none) v with | some v'=>some (.υ [.any (pv b),v']) | none=>none
 |_=>none
theorem QA {b:Nat} {v v':V} (h:Hx b v=some v') {σ σ':Sg} {E:EH} (hr:l_ σ b) {x:Value} (hd:Den σ E v x):Den σ' E v' x:=by
 obtain⟨r,hr,hb⟩:=hr
 unfold Hx at h
 split at h<;>try (cases h;done)
 ·cases h
  simp only[Den]at hd ⊢
  obtain⟨r',h1,h2⟩:=hd
  rw[hr]at h1;cases h1
  rw[h2,hb]
 ·split at h<;>try (cases h;done)
  rename_i w w' hw
  cases h
  simp only[Den]at hd ⊢
  obtain⟨vs,rfl,h1⟩:=hd
  simp only[aw,Den]at h1
  obtain⟨x1,xs1,rfl,⟨r',h2,h3⟩,x2,QU,rfl,h4,rfl⟩:=h1
  rw[hr]at h2;cases h2
  refine⟨_,rfl,aw.cons (by simp only[Den];rw[h3,hb]) (aw.cons (tT hw h4) .nil)⟩
theorem VG {σ:Sg} {E:EH} {kb:KB} {W:World} (h:Inv σ E kb W):Inv [] E [] W:=
 ⟨rfl,fun i r o h=>by simp at h,fun i j r r' o o' b _ h=>by simp at h,h.cP,fun b ⟨i,r,o,h,_⟩=>by simp at h⟩
theorem vX {b:Nat} (h:b9 [] [] b):False:=by obtain⟨i,r,o,h,_⟩:=h;simp at h
def SD (S:aH):aH:=fun args kb K=>∃ A args',(kb=[]/\A=[]∨kb=[.objs A])/\V.jN (fun _=>none) args=some args'/\
 S args' [] (fun r bC=>match qg false 0 [r] bC with
  |some ([r'],[],_)=>match V.bS (fun _=>none) r' with | some r2=>K r2 kb | none=>False
  |some ([r'],de,_)=>fz de=true/\∀ b τ,l_ τ b->match Hx b r' with | some r2=>K r2 [.objs (A++[(τ,de)])] | none=>False
  |_=>False)
theorem Cz {P:Program} {f:FuncId} {S:aH} (hS:aT P f S):aT P f (SD S):=fun args kb K h σ E W xs hi hd=>by
 obtain⟨A,args',hkb,ha,h⟩:=h
 refine(hS _ _ _ h [] E W _ (VG hi) (O3 ha hd)).mono ?_
 rintro e W' ⟨v,r,σ',E',bC,rfl,hst,dT,hK⟩
 have keep:∀ b,b<W.heap.size->W'.heap[b]? =W.heap[b]?:=fun b hb=>hst.bK.block b hb (fun ho=>vX ho)
 have Lj:∀ b,b<W.heap.size->E b=none->E' b=none:=fun b hb hE=>by
  cases vp:E' b with
  |none=>rfl
  |some x=>
   rcases hst.new b x vp with k | k | k
   ·rw[hE]at k;cases k
   ·exact(vX k).elim
   ·omega
 have hnew2:∀{sK:Sg} {pp:KB} (b:Nat) (o:Obj),E' b=some o->E b=some o∨b9 sK pp b∨W.heap.size<=b:=fun b o hb=>by
  rcases hst.new b o hb with k | k | k
  ·exact .inl k
  ·exact(vX k).elim
  ·exact .inr (.inr k)
 split at hK<;>try exact hK.elim
 ·
  split at hK<;>try exact hK.elim
  rename_i r' o hc _ r2 yR
  obtain⟨hn,ht,Ew,hsel⟩:=oU hc
  obtain⟨k1,k2,k3⟩:=hst.inv.sel hn hsel
  have hl:=aw.bS k3 Ew (u9 dT)
  refine⟨v,r2,σ,E',kb,rfl,⟨⟨hi.len,fun i r o h1 h2=>?_,hi.c9,hst.inv.cP,fun b hb=>Lj b (hi.lt hb) (hi.sep b hb)⟩,⟨hst.bK.os,hst.bK.tape,hst.bK.output,hst.bK.size,fun b hb _=>keep b hb⟩,⟨[],by simp⟩,hst.le,fun b hb=> .inl hb,hnew2⟩,tT yR (u_ hl),hK⟩
  have:=(hi.obj i r o h1 h2).mono (τ:=[]) (W':=W') hst.le (fun b hb=>keep b ((hi.obj i r o h1 h2).lt hb))
  simpa using this
 ·rename_i r' de o hne hc
  obtain⟨lq,hK⟩:=hK
  obtain⟨hn,ht,Ew,hsel⟩:=oU hc
  obtain⟨k1,k2,k3⟩:=hst.inv.sel hn hsel
  have hl:=u_ (aw.bS k3 Ew (u9 dT))
  obtain⟨q,hq⟩:∃ q,(dB σ' o)[0]? =some q:=by
   have:=k1.len
   cases hs:dB σ' o with
   |nil=>
    rw[hs]at this
    cases de with
    |nil=>exact absurd rfl hne
    |cons _ _=>simp at this
   |cons q _=>exact⟨q,rfl⟩
  have qw:l_ (dB σ' o) q.blk:=⟨q,hq,rfl⟩
  have hK:=hK q.blk _ qw
  split at hK<;>try exact hK.elim
  rename_i r2 yR
  have oh:=k1.FS lq
  have Eg:∀ b,iq (dB σ' o,de) b->W.heap.size<=b:=fun b hb=>by
   rcases hst.own b (k2 b hb.up)with k | k
   ·exact(vX k).elim
   ·exact k
  have hold:nQ E W A:=by
   rcases hkb with ⟨rfl,rfl⟩ | rfl
   ·exact⟨fun a ha=>by simp at ha,fun k m a a' b _ h=>by simp at h⟩
   ·have h1:σ.length=1:=hi.len
    exact hi.obj 0 σ[0] _ (bx (by omega)) rfl
  have Eu:nQ E' W' (A++[(dB σ' o,de)]):=by
   have dZ:∀(m:Nat) (c:Sg×KB),(A++[(dB σ' o,de)])[m]? =some c->A[m]? =some c∨(m=A.length/\c=(dB σ' o,de)):=fun m c h=>by
    rcases Nat.lt_trichotomy m A.length with hm | hm | hm
    ·rw[eH hm]at h;exact .inl h
    ·subst hm
     rw[ef (aE _)]at h
     simp at h
     exact .inr ⟨rfl,h.symm⟩
    ·rw[gA (by simp;omega)]at h;cases h
   refine⟨fun c hc=>?_,fun m n c d b hmn h1 h2 h3 h4=>?_⟩
   ·obtain⟨m,hm⟩:=List.getElem?_of_mem hc
    rcases dZ m c hm with h | ⟨_,rfl⟩
    ·have hc:=gm h
     exact(hold.ok c hc).mono hst.le (fun b hb=>keep b ((hold.ok c hc).lt hb))
    ·exact oh
   ·rcases dZ m c h1 with k | ⟨e1,rfl⟩<;>rcases dZ n d h2 with k' | ⟨e2,rfl⟩
    ·exact hold.c9 m n c d b hmn k k' h3 h4
    ·have:=(hold.ok c (gm k)).lt h3;have:=Eg b h4;omega
    ·have:=(hold.ok d (gm k')).lt h4;have:=Eg b h3;omega
    ·omega
  have one:∀{q':Re} {sK:Sg} {pp:KB},(∀ b,(∃ a∈A,iq a b)->b9 sK pp b)->(∀ b,b9 sK pp b->E b=none)->(∃ τ,[q']=sK++τ)->Step sK E pp W [q'] E' [.objs (A++[(dB σ' o,de)])] W':=by
   intro q' sK pp h1 h2 h3
   have hz:∀{i:Nat} {r:Re},[q'][i]? =some r->i=0/\r=q':=fun{i r} h=>by
    rcases i with _ | i
    ·simp at h;exact⟨rfl,h.symm⟩
    ·simp at h
   have L9:∀ b,b9 [q'] [.objs (A++[(dB σ' o,de)])] b->(∃ a∈A,iq a b)∨iq (dB σ' o,de) b:=by
    rintro b ⟨i,r,ob,g1,g2,g3⟩
    obtain⟨rfl,rfl⟩:=hz g1
    simp at g2;subst g2
    obtain⟨c,hc,hb⟩:=g3
    rcases gl.1 hc with hc | hc
    ·exact .inl ⟨c,hc,hb⟩
    ·simp at hc;subst hc;exact .inr hb
   refine⟨⟨rfl,fun i r ob g1 g2=>?_,fun i j r r' ob vS b hij g1 g2 g3 g4 _ _=>?_,hst.inv.cP,fun b hb=>?_⟩,⟨hst.bK.os,hst.bK.tape,hst.bK.output,hst.bK.size,fun b hb _=>keep b hb⟩,h3,hst.le,fun b hb=>?_,hnew2⟩
   ·obtain⟨rfl,rfl⟩:=hz g1
    simp at g2;subst g2
    exact Eu
   ·obtain⟨rfl,rfl⟩:=hz g1
    obtain⟨rfl,rfl⟩:=hz g3
    exact(hij rfl).elim
   ·rcases L9 b hb with ⟨c,hc,hcb⟩ | hcb
    ·exact Lj b ((hold.ok c hc).lt hcb) (h2 b (h1 b ⟨c,hc,hcb⟩))
    ·exact k1.sep b hcb.up
   ·rcases L9 b hb with k | k
    ·exact .inl (h1 b k)
    ·exact .inr (Eg b k)
  rcases hkb with ⟨rfl,rfl⟩ | rfl
  ·have:σ=[]:=kG hi.len
   subst this
   exact⟨v,r2,[Gm],E',_,rfl,one (fun b ⟨a,ha,_⟩=>by simp at ha) (fun b hb=>(vX hb).elim) ⟨[Gm],rfl⟩,QA yR qw hl,hK⟩
  ·have h1:σ.length=1:=hi.len
   match σ,h1 with
   | [q'],_=>exact⟨v,r2,[q'],E',_,rfl,one (fun b hb=>⟨0,q',_,rfl,rfl,hb⟩) (fun b hb=>hi.sep b hb) ⟨[],by simp⟩,QA yR qw hl,hK⟩
end Vc
namespace Go.Proofs.YtfcjngcnifdmnaaGreat
open Vc Go
open Go.IntKind renaming i64->Z,u8->θ,u32->gq
open Vc.V renaming any->γ,int->δ,sl->ε,sb->ξ,ptr->ac,dat->an,υ->ar,ae->aG,mp->aV,arr->bc,agg->cF
open Vc.KO renaming row->ζ,dead->ο,cells->ω,objs->bE
open Vc.D renaming val->η,sl->π
open List renaming map->ι,drop->ν,take->ah,length_append->bw,getElem?_eq_getElem->bx,getElem?_eq_some_iff->bU,length_map->cg,Mem->ct,take_length->cN,replicate->cQ,length_take->cW,append_assoc->dQ,getElem?_append_right->ef,getElem?_append_left->eH,mem_cons->eP,append_nil->fg,length_drop->fh,getElem?_map->fG,mem_map->fH,take_of_length_le->fI,getElem?_set_ne->fR,mem_cons_of_mem->fS,mem_append->gl,mem_of_getElem?->gm,getElem?_eq_none->gA,getElem?_set_self->gB,length_set->gC,range->gD,drop_zero->gK,mem_singleton->gY,flatten_cons->im,length_cons->io,mem_cons_self->iA,getElem?_take_of_lt->jj,length_nil->jk,nil_append->jm,getElem?_drop->jB,map_append->jC,take_add_one->jY,ext_getElem?->km,getD_eq_getElem?_getD->kn,length_singleton->ko,eq_nil_of_length_eq_zero->kG,mem_append_left->lR,mem_filter->lS
open Go.Value renaming int->κ,slice->eI,bool->fa,map->gr,oneCell'->kq
open Nat renaming le_refl->aE,zero_le->bF,beq->bZ,eq_of_beq_eq_true->cy,zero_add->cL,add_assoc->fT,lor->gE,lt_or_ge->iX,sub_zero->kp
open Option renaming some->bh,bind_eq_some_iff->jF,map->jZ
open Int renaming toNat_natCast->dr,le_refl->gp
open Bool renaming and_eq_true->kE
set_option linter.unusedVariables false
set_option linter.unusedSimpArgs false
set_option maxRecDepth 100000
structure ei where
 kd:Int
 n:List Int
 b:List Int
 l:List (List Int)
structure Post where
 to:Int
 m:ei
structure Dn where
 o:Op
 e:Int
 x:List Int
structure dx where
 ins:Int->Bool
 dR:Int->Bool
 cur:Option Op
structure Vw where
 vi:Int
 vv:Int
 ve:Int
 mem:List Int
 aL:List Int
structure φ where
 me:Int
 id:Int
 ep:Int
 nu:Int
 ce:Int
 ti:Int
 bl:Bool
 lo:Bool
 ch:Bool
 c:List Int
 t:List L3
 v:Vw
 ld:Option dx
 out:List Post
 done:List Dn
def h_ (m:ei):List D:=[dn Z m.kd,.sl 1 (ints Z m.n),.sl 1 (ints θ m.b),.sl 1 (m.l.map fun x=>[.sl 1 (ints θ x)])]
def bD (p:Post):List D:=dn Z p.to::h_ p.m
def bo (d:Dn):List D:=bn d.o++[dn Z d.e,.sl 1 (ints θ d.x)]
structure MB (M:ML) (f:Int->Bool):Prop where
 b:jW M
 f:∀ n,hZ M [n] 0=f n
def fW (R:φ):List L3:=R.t
def ba (R:φ):List Int:=bA R.me R.v.mem R.v.aL
def gw (R:φ) (to kd:Int) (n:List Int) (b:List Int) (l:List (List Int)):φ:={R with out:=R.out++[⟨to,⟨kd,R.id::R.ep::n,b,l⟩⟩] }
def oE (R:φ) (to:Int):φ:=gw R to 10 [R.nu] (bT R.c) [bb (fW R)]
def oz (R:φ) (to:Int):φ:=gw R to 14 [R.nu] [] []
def vr (R:φ) (o:Op) (to:Int):φ:=gw R to 12 [R.nu,o.cl,o.nm,o.kd,o.bk,dy R.c] o.b []
def cm (R:φ):Option Op:=R.ld.bind (·.cur)
def gk (R:φ):φ:={R with ld:=none,done:=R.done++(match cm R with | some o=>[⟨o,19,[]⟩] | none=>[]) }
def gg (o:Op):Bool:=jv o.cl o.nm o.kd o.bk o.b.length
def mA (o:Op):Bool:=mI o.kd
def m6 (t:List L3) (o:Op):List L3:=if mA o=true/\cz t o.cl o.nm 0=0 then nI t o.cl o.nm 0 else t
def iE (R:φ) (o:Op):φ:={R with nu:=R.nu+1,ch:=true,c:=eJ R.c o.kd o.bk o.b,t:=m6 R.t o }
def oC (c:List Int) (o:Op):List Int:=if o.kd=3 then(c.drop (o.bk.toNat*16)).take 16 else[]
def fN (R:φ):φ:=match R.ld with
 |some L=>match L.cur with
  |some o=>if(ba R).all L.dR then{R with ld:=some {L with cur:=none },done:=R.done++[⟨o,0,oC R.c o⟩] }else R
  |none=>R
 |none=>R
def ib (R:φ):Bool:=match R.ld with
 |some L=>(ba R).all L.ins
 |none=>false
def eL (R:φ):Bool:=R.ld.isSome
def kN (R:φ):Bool:=(cm R).isSome
def lA (R:φ) (o:Op):Option (Int×φ):=
 if g_ (fW R) o.cl o.nm=1 then some (0,{R with done:=R.done++[⟨o,oV (fW R) o.cl o.nm,[]⟩] })
 else if g_ (fW R) o.cl o.nm=2 then some (13,R)
 else if cz (fW R) o.cl o.nm 0=0 then none else some (cz (fW R) o.cl o.nm 0,R)
def lh (R:φ) (L:dx) (o:Op):φ:=
 let R1:={iE R o with ld:=some {L with dR:=fun _=>false,cur:=some o } }
 fN ((ba R1).foldl (fun r k=>vr r o k) R1)
def eE (R:φ) (o:Op):Int×φ:=
 if gg o=false then(1,R)else match R.ld with
 |none=>(12,R)
 |some L=>if ib R=false then(12,R)else if kN R=true then(18,R)else
  match (if mA o then lA R o else none)with
  |some (e,R1)=>(e,R1)
  |none=>(0,lh R L o)
structure c8 (R:φ):Prop where
 cl:R.c.length=128
 cb:bm R.c
 n0:0<=R.nu
 n1:R.nu<=2199023255552
 vl:R.v.mem.length+R.v.aL.length<=1000
 ol:R.out.length<=100000
 dl:R.done.length<=100000
 cr:∀ o,cm R=some o->gg o=true
abbrev af (Q:ML):KO:=.mp [Z] false false 1 Q
abbrev nO (R:φ):Nat:=(ι bD R.out).length
abbrev nD (R:φ):Nat:=(ι bo R.done).length
abbrev rO (R:φ):KO:=.row 107 5 (ι bD R.out)
abbrev rD (R:φ):KO:=.row 70 7 (ι bo R.done)
abbrev oA (o:Op):KO:=.cells [.int Z o.cl,.int Z o.nm,.int Z o.kd,.int Z o.bk,an (.sl 1 (ints θ o.b))]
abbrev jh (w:Vw):KO:=.cells [.int Z w.vi,.int Z w.vv,.int Z w.ve,an (.sl 1 (ints Z w.mem)),an (.sl 1 (ints Z w.aL))]
abbrev cR (R:φ) (t_ pq pk oT oX pC oY:V):KO:=.cells [.int Z R.me,.int Z R.id,ξ R.bl,ξ R.lo,.int Z R.ep,.int Z R.nu,bc 128 (aK θ R.c),t_,.int Z R.v.vi,.int Z R.v.vv,.int Z R.v.ve,an (.sl 1 (ints Z R.v.mem)),an (.sl 1 (ints Z R.v.aL)),pq,pk,oT,oX,.int Z R.ce,ξ R.ch,.int Z R.ti,pC,oY]
abbrev cS (R:φ) (FL c_ uX t_ pq pk oT oX pC oY:V):KO:=.cells [.int Z R.me,.int Z R.id,ξ R.bl,ξ R.lo,.int Z R.ep,FL,c_,t_,.int Z R.v.vi,.int Z R.v.vv,.int Z R.v.ve,an (.sl 1 (ints Z R.v.mem)),an (.sl 1 (ints Z R.v.aL)),pq,pk,oT,oX,.int Z R.ce,uX,.int Z R.ti,pC,oY]
abbrev cG (R:φ) (Wb Dk FL c_ uX t_ pq pk oT oX pC oY:V):KO:=.cells [.int Z R.me,.int Z R.id,ξ R.bl,Wb,Dk,FL,c_,t_,.int Z R.v.vi,.int Z R.v.vv,.int Z R.v.ve,an (.sl 1 (ints Z R.v.mem)),an (.sl 1 (ints Z R.v.aL)),pq,pk,oT,oX,.int Z R.ce,uX,.int Z R.ti,pC,oY]
abbrev cT (R:φ) (ti_ t_ pq pk oT oX pC oY:V):KO:=.cells [.int Z R.me,.int Z R.id,ξ R.bl,ξ R.lo,.int Z R.ep,.int Z R.nu,bc 128 (aK θ R.c),t_,.int Z R.v.vi,.int Z R.v.vv,.int Z R.v.ve,an (.sl 1 (ints Z R.v.mem)),an (.sl 1 (ints Z R.v.aL)),pq,pk,oT,oX,.int Z R.ce,ξ R.ch,ti_,pC,oY]
abbrev cV (R:φ) (w:Vw) (Dk uX t_ pq pk oT oX pC oY:V):KO:=.cells [.int Z R.me,.int Z R.id,ξ R.bl,ξ R.lo,Dk,.int Z R.nu,bc 128 (aK θ R.c),t_,.int Z w.vi,.int Z w.vv,.int Z w.ve,an (.sl 1 (ints Z w.mem)),an (.sl 1 (ints Z w.aL)),pq,pk,oT,oX,.int Z R.ce,uX,.int Z R.ti,pC,oY]
def aF (R:φ) (kb:KB):Prop:=match R.ld with
 |none=>∃ χ ψ T,bG T R.t/\kb=[cR R (ai T) (ξ false) (γ χ) (γ ψ) (.ae none) (.sl 1 0 (nO R)) (.sl 2 0 (nD R)),rO R,rD R]
 |some L=>∃ I Q T,MB I L.ins/\MB Q L.dR/\bG T R.t/\kb=[cR R (ai T) (ξ true) (.mp 1) (.mp 2) (.ae (L.cur.map bn)) (.sl 3 0 (nO R)) (.sl 4 0 (nD R)),af I,af Q,rO R,rD R]
def jH (R:φ) (o:Op) (to:Int):Post:=⟨to,⟨12,[R.id,R.ep,R.nu,o.cl,o.nm,o.kd,o.bk,dy R.c],o.b,[]⟩⟩
def kD (R:φ) (to:Int):Post:=⟨to,⟨10,[R.id,R.ep,R.nu],bT R.c,[bb (fW R)]⟩⟩
theorem tj (o:Op):∀(l:List Int) (r:φ),l.foldl (fun r k=>vr r o k) r={r with out:=r.out++l.map (jH r o) }
 | [],r=>by simp
 |a::l,r=>by
  rw[List.foldl_cons,tj o l]
  simp [vr,gw,jH,dQ]
theorem G4:∀(l:List Int) (r:φ),l.foldl oE r={r with out:=r.out++l.map (kD r) }
 | [],r=>by simp
 |a::l,r=>by
  rw[List.foldl_cons,G4 l]
  simp [oE,gw,kD,fW,dQ]
theorem PP {R:φ} {o:Op} (h:gg o=false):eE R o=(1,R):=by unfold eE;rw[if_pos h]
theorem PR {R:φ} {o:Op} (h:gg o=true) (h2:ib R=false):eE R o=(12,R):=by
 unfold eE;rw[if_neg (by simp [h])]
 cases R.ld with
 |none=>rfl
 |some L=>simp only[if_pos h2]
theorem aae {R:φ} {o:Op} {L:dx} (h:gg o=true) (hl:R.ld=some L) (h2:ib R=true) (h3:kN R=true):eE R o=(18,R):=by
 unfold eE;rw[if_neg (by simp [h]),hl]
 simp only[h2,h3];simp
theorem G1 {R:φ} {o:Op} {L:dx} {p:Int×φ} (h:gg o=true) (hl:R.ld=some L) (h2:ib R=true) (h3:kN R=false) (h4:mA o=true) (h5:lA R o=some p):eE R o=p:=by
 unfold eE;rw[if_neg (by simp [h]),hl]
 simp only[h2,h3,h4,h5];simp
theorem PQ {R:φ} {o:Op} {L:dx} (h:gg o=true) (hl:R.ld=some L) (h2:ib R=true) (h3:kN R=false) (h5:mA o=true->lA R o=none):eE R o=(0,lh R L o):=by
 unfold eE;rw[if_neg (by simp [h]),hl]
 simp only[h2,h3]
 by_cases h4:mA o=true
 ·simp [h4,h5 h4]
 ·simp [h4]
theorem Sv {R:φ} {L:dx} {o:Op} (h:ba R≠[]):lh R L o={R with nu:=R.nu+1,ch:=true,c:=eJ R.c o.kd o.bk o.b,t:=m6 R.t o,ld:=some ⟨L.ins,fun _=>false,some o⟩,out:=R.out++(ba R).map (jH (iE R o) o) }:=by
 unfold lh
 simp only[tj]
 have ho:ba {iE R o with ld:=some {L with dR:=fun _=>false,cur:=some o } }=ba R:=rfl
 rw[ho]
 unfold fN
 simp only
 rw[if_neg (by
  show ¬ (ba R).all (fun _=>false)=true
  cases hh:ba R with
  |nil=>exact absurd hh h
  |cons a l=>simp)]
 rfl
theorem Su {R:φ} {L:dx} {o:Op} (h:ba R=[]):lh R L o={R with nu:=R.nu+1,ch:=true,c:=eJ R.c o.kd o.bk o.b,t:=m6 R.t o,ld:=some ⟨L.ins,fun _=>false,none⟩,done:=R.done++[⟨o,0,oC (eJ R.c o.kd o.bk o.b) o⟩] }:=by
 unfold lh
 simp only[tj]
 have ho:ba {iE R o with ld:=some {L with dR:=fun _=>false,cur:=some o } }=ba R:=rfl
 rw[ho,h]
 unfold fN
 simp only
 rw[if_pos (by
  show(ba R).all (fun _=>false)=true
  rw[h];rfl)]
 simp [iE]
theorem qc {Q:ML} {f:Int->Bool} (h:MB Q f) (me:Int) (m j:List Int):allI me m j Q=(bA me m j).all f:=by
 unfold allI lZ
 rw[Bool.eq_iff_iff]
 simp only[Bool.not_eq_true',List.any_eq_false,List.all_eq_true,Bool.not_eq_true]
 constructor
 ·intro hh x hx
  have:=hh x hx
  rw[h.f]at this
  simpa using this
 ·intro hh x hx
  rw[h.f,hh x hx];simp
theorem px:MB [] (fun _=>false):=⟨⟨fun k cs h=>by simp [bJ]at h⟩,fun n=>by simp [hZ,bJ]⟩
theorem Fq:∀{M:ML} {k k':List Int} {c:List D},bJ (av M k c) k'=if k'=k then some c else bJ M k'
 | [],k,k',c=>by simp only[av,bJ]
 | (a,v)::M,k,k',c=>by
  simp only[av]
  by_cases hk:k=a
  ·subst hk
   rw[if_pos rfl]
   by_cases h2:k'=k
   ·simp [bJ,h2]
   ·simp [bJ,h2]
  ·rw[if_neg hk]
   simp only[bJ]
   by_cases h2:k'=a
   ·subst h2
    rw[if_pos rfl,if_pos rfl,if_neg (fun e=>hk e.symm)]
   ·rw[if_neg h2,if_neg h2]
    exact Fq
theorem kT {M:ML} {f:Int->Bool} (h:MB M f) (k:Int) (v:Bool):MB (av M [k] [.val (.bool v)]) (fun n=>if n=k then v else f n):=by
 refine⟨⟨fun k' cs hk=>?_⟩,fun n=>?_⟩
 ·rw[Fq]at hk
  split at hk
  ·cases hk;exact⟨v,rfl⟩
  ·exact h.b.h k' cs hk
 ·unfold hZ
  rw[Fq]
  by_cases e:n=k
  ·subst e;simp [bv]
  ·have e2:¬ ([n]:List Int)=[k]:=fun x=>e (by simpa using x)
   rw[if_neg e2,if_neg e]
   exact h.f n
def Bn:aH:=fun args kb K=>match args,kb with
 | [an (.sl 1 B)],[]=>bN B.length/\K (an (.sl 1 B)) []
 |_,_=>False
abbrev C3:LI where
 α:=Empty
 live:=[]
 st i:=i.elim
 μ i:=i.elim
 all _:=True
 uQ:=fun _ _ i=>i.elim
def cutAt (r:Nat):Nat->Option LI:=fun q=>match bZ q r with | true=>some C3 | false=>none
def oG (T:ML) (cl nm kd:Int):ML:=if mI kd then av T [cl] [dn Z nm,dn Z 0]else T
def oe (l:List Int) (R:φ) (o:Op):List (List D):=l.map fun to=>od to R.id R.ep (R.nu+1) (eJ R.c o.kd o.bk o.b) o
abbrev ue (R:φ) (T:ML) (I Q:ML) (u:Option (List D)) (o:Op):LI where
 α:={_u:Unit // mA o=true->cz (fW R) o.cl o.nm 0=0}
 live:=[0,3]
 st _:=([ac 0 0,ac 5 0],[cR R (ai T) (ξ true) (.mp 1) (.mp 2) (.ae u) (.sl 3 0 (nO R)) (.sl 4 0 (nD R)),af I,af Q,rO R,rD R,oA o])
 μ _:=0
abbrev Ap (R:φ) (T:ML) (I Q:ML) (u:Option (List D)) (o:Op):LI where
 α:=Unit
 live:=[0,3]
 st _:=([ac 0 0,ac 5 0],[cS R (.int Z (R.nu+1)) (bc 128 (aK θ (eJ R.c o.kd o.bk o.b))) (ξ true) (ai (oG T o.cl o.nm o.kd)) (ξ true) (.mp 1) (.mp 2) (.ae u) (.sl 3 0 (nO R)) (.sl 4 0 (nD R)),af I,af Q,rO R,rD R,oA o])
 μ _:=0
abbrev GY (R:φ) (T:ML) (I Q:ML) (u:Option (List D)) (o:Op):LI where
 α:={i:Nat // i<=(ba R).length}
 live:=[0,52,53,54]
 dN:=[.ot 0 143,.mv 0 147]
 st i:=([ac 0 0,.sl 7 0 (ba R).length,.int Z ((ba R).length:Int),.int Z (i.1:Int)],[cS R (.int Z (R.nu+1)) (bc 128 (aK θ (eJ R.c o.kd o.bk o.b))) (ξ true) (ai (oG T o.cl o.nm o.kd)) (ξ true) (.mp 1) (.mp 5) (.ae (some (bn o))) (.sl 6 0 ((nO R)+i.1)) (.sl 4 0 (nD R)),af I,af Q,ο,rD R,af [],ζ 107 5 (R.out.map bD++oe ((ba R).take i.1) R o),ζ 3 1 (ints Z (fC R.me R.v.mem R.v.aL))])
 μ i:=(ba R).length - i.1
def PN (R:φ) (T:ML) (I Q:ML) (u:Option (List D)) (o:Op):Nat->Option LI
 | 1012=>some (ue R T I Q u o)
 | 1014=>some (Ap R T I Q u o)
 | 16=>some (GY R T I Q u o)
 |_=>none
def Aq:FuncId->Option dw
 | 14=>some ⟨[],dK [false,true,true,true,true,true,false,true,true,true,true,false,false,false,false,true,false,true,true,true,true,true] oS⟩
 | 52=>some ⟨[],xp⟩
 | 53=>some ⟨[],By⟩
 | 54=>some ⟨[],dK [true,true,true,true,true,true,false,false,true,true,true,true,true,true,true,true,true,true,true,true,true,false] Bz⟩
 | 55=>some ⟨[],Bn⟩
 | 56=>some ⟨[],dK [true,true,true,true,true,false,false,false,true,true,true,true,true,true,true,true,true,true,false,true,true,true] xl⟩
 | 44=>some ⟨[],dK [false,true,true,true,true,true,false,true,true,true,true,false,false,true,true,true,true,true,true,true,true,true] sP⟩
 | 57=>some ⟨[],dK [true,false,true,true,false,false,false,true,true,true,true,true,true,true,true,true,false,true,true,true,false,true] xo⟩
 | 58=>some ⟨[],dK [false,true,true,true,true,true,false,true,true,true,true,false,false,true,true,false,false,true,true,true,true,false] xm⟩
 |_=>none
noncomputable def B7:bM:=dF Tryz.prog Aq aM 10
def G0:FuncId->Option dw
 | 14=>some ⟨[],dK [true,true,true,true,true,true,false,true,true,true,true,true,true,false,true,true,false,true,true,true,true,true] oS⟩
 |f=>Aq f
noncomputable def B8:bM:=dF Tryz.prog G0 aM 10
theorem abf (B:List (List D)) (K:V->KB->Prop) (ay:
 ∀(y1:Bool),(y1=true->
 B.length=0)->
 (y1=true->
 K (an (π 1 [])) [])/\
 (y1=false->
 True/\
 0<=0/\
 (0+B.length)*1<=140737488355328/\
 0+B.length<=([]++B).length/\
 K (an (π 1 (ν 0 (ah (0+B.length) ([]++B))))) [])
 ):aO Tryz.prog X0 (aM 55) 55 [an (.sl 1 B)] [] (iF [.eB 1] (dh 0 K)):=by apply Eq.mp (a:=ay);kernel_rfl
theorem aci (R:φ) (T:ML) (I Q:ML) (u:Option (List D)) (o:Op) (K:V->KB->Prop) (ay:
 let aq:=cR R (ai T) (ξ true) (aV 1) (aV 2) (aG u) (ε 3 0 (nO R)) (ε 4 0 (nD R));let bB:=[0,1,2,3,4,5,8,9,10,11,12,13,14,15,16,17,18,19,20];∀(y1:Nat->
 Value),∃(y2:List Int),∃(y3:List Int),ints Z R.v.mem=ints Z y2/\
 ints Z R.v.aL=ints Z y3/\
 dm (y2.length+y3.length)/\
 jW I/\
 true=true/\
 bu y1 [1,2,3,4,5,7,8,9,10,15,17,18,19,20,21]/\
 ((!jv o.cl o.nm o.kd o.bk (ints θ o.b).length)=true->
 K (δ Z 1) [aq,af I,af Q,rO R,rD R])/\
 ((!jv o.cl o.nm o.kd o.bk (ints θ o.b).length)=false->
 ((!allI R.me y2 y3 I)=true->
 K (δ Z 12) [aq,af I,af Q,rO R,rD R])/\
 ((!allI R.me y2 y3 I)=false->
 ((!u.isNone)=true->
 K (δ Z 18) [aq,af I,af Q,rO R,rD R])/\
 ((!u.isNone)=false->
 ((mI o.kd=true->
 ∀(y4:Nat->
 Value),nD R=(nD R)/\
 bN (nD R)/\
 ∃(y5:List L3),bG T y5/\
 (sN (g_ y5 o.cl o.nm) 1->
 bu y4 bB/\
 (true=true->
 K (δ Z 0) [cR R (ai T) (ξ true) (aV 1) (aV 2) (aG u) (ε 3 0 (nO R)) (ε 4 0 (nD R+1)),af I,af Q,rO R,ζ 70 7 (ι bo R.done++[(bn o++[dn Z (oV y5 o.cl o.nm),π 1 []])])])/\
 (true=false->
 At (ue R T I Q u o) ([ac 0 0,ac 6 0],[cR R (ai T) (ξ true) (aV 1) (aV 2) (aG u) (ε 3 0 (nO R)) (ε 5 0 (nD R+1)),af I,af Q,rO R,ο,ζ 70 7 (ι bo R.done++[(bn o++[dn Z (oV y5 o.cl o.nm),π 1 []])]),oA o])))/\
 (sN (g_ y5 o.cl o.nm) 2->
 bu y4 bB/\
 (true=true->
 K (δ Z 13) [aq,af I,af Q,rO R,rD R])/\
 (true=false->
 At (ue R T I Q u o) ([ac 0 0,ac 5 0],[aq,af I,af Q,rO R,rD R,oA o])))/\
 (sN (g_ y5 o.cl o.nm) 0->
 (kH (cz y5 o.cl o.nm 0)->
 bu y4 bB/\
 (true=true->
 K (δ Z (cz y5 o.cl o.nm 0)) [aq,af I,af Q,rO R,rD R])/\
 (true=false->
 At (ue R T I Q u o) ([ac 0 0,ac 5 0],[aq,af I,af Q,rO R,rD R,oA o])))/\
 (kF (cz y5 o.cl o.nm 0)->
 bu y4 bB/\
 (false=true->
 K (δ Z 0) [aq,af I,af Q,rO R,rD R])/\
 (false=false->
 At (ue R T I Q u o) ([ac 0 0,ac 5 0],[aq,af I,af Q,rO R,rD R,oA o])))))/\
 (mI o.kd=false->
 At (ue R T I Q u o) ([ac 0 0,ac 5 0],[aq,af I,af Q,rO R,rD R,oA o])))/\
 ∀(y7:{y6:Unit // mA o=true->
 cz (fW R) o.cl o.nm 0=0}),let dP:=[0,1,2,3,4,8,9,10,11,12,13,14,15,16,17,19,20,21];bN (ints θ o.b).length/\
 (∀(y8:Nat->
 Value),∃(y9:List Int),∃(cq:List Int),∃(b_:List L3),gz (aK θ R.c) y9/\
 ints θ o.b=ints θ cq/\
 bG T b_/\
 oR R.nu/\
 sO o.cl o.nm o.kd o.bk cq.length/\
 (w9 o.kd->
 bu y8 dP/\
 At (Ap R T I Q u o) ([ac 0 0,ac 5 0],[cS R (δ Z (R.nu+1)) (bc 128 (aK θ (eJ y9 o.kd o.bk cq))) (ξ true) (ai T) (ξ true) (aV 1) (aV 2) (aG u) (ε 3 0 (nO R)) (ε 4 0 (nD R)),af I,af Q,rO R,rD R,oA o]))/\
 (wQ o.kd->
 (kH (cz b_ o.cl o.nm 0)->
 bu y8 dP/\
 At (Ap R T I Q u o) ([ac 0 0,ac 5 0],[cS R (δ Z (R.nu+1)) (bc 128 (aK θ (eJ y9 o.kd o.bk cq))) (ξ true) (ai T) (ξ true) (aV 1) (aV 2) (aG u) (ε 3 0 (nO R)) (ε 4 0 (nD R)),af I,af Q,rO R,rD R,oA o]))/\
 (kF (cz b_ o.cl o.nm 0)->
 bu y8 dP/\
 At (Ap R T I Q u o) ([ac 0 0,ac 5 0],[cS R (δ Z (R.nu+1)) (bc 128 (aK θ (eJ y9 o.kd o.bk cq))) (ξ true) (ai (av T [o.cl] [dn Z o.nm,η (κ Z 0)])) (ξ true) (aV 1) (aV 2) (aG u) (ε 3 0 (nO R)) (ε 4 0 (nD R)),af I,af Q,rO R,rD R,oA o]))))/\
 ∀(ca:Unit) (cf:Nat->
 Value),∃(cE:List Int),∃(cj:List Int),ints Z R.v.mem=ints Z cE/\
 ints Z R.v.aL=ints Z cj/\
 dm (cE.length+cj.length)/\
 bu cf [1,2,3,4,5,7,8,9,10,13,14,15,16,17,18,19,20,21]/\
 At (GY R T I Q u o) ([ac 0 0,ε 7 0 (bA R.me cE cj).length,δ Z (↑((bA R.me cE cj).length - 0):Int),δ Z 0],[cS R (δ Z (R.nu+1)) (bc 128 (aK θ (eJ R.c o.kd o.bk o.b))) (ξ true) (ai (oG T o.cl o.nm o.kd)) (ξ true) (aV 1) (aV 5) (aG (some (bn o))) (ε 6 0 (nO R)) (ε 4 0 (nD R)),af I,af Q,ο,rD R,af [],rO R,ζ 3 1 (ints Z (fC R.me cE cj))])/\
 ∀(cJ:{eZ:Nat // eZ<=(ba R).length}),let cK:=(ι bD R.out++oe (ah cJ.val (ba R)) R o);(decide ((↑cJ.val:Int)<(↑(ba R).length:Int))=true->
 br (↑cJ.val:Int) ((ba R).length - 0)/\
 ∃(eu:List D),(ints Z (fC R.me R.v.mem R.v.aL))[0+(↑cJ.val:Int).toNat]? =some eu/\
 ∃(eF:Int),eu[0]? =some (η (κ Z eF))/\
 ∀(eS:Nat->
 Value),nO R+cJ.val=cK.length/\
 bN (nO R+cJ.val)/\
 ∃(dO:List Int),∃(eG:Op),gz (aK θ (eJ R.c o.kd o.bk o.b)) dO/\
 some (bn o)=some (bn eG)/\
 bu eS [0,2,3,7,8,9,10,11,12,13,14,15,17,18,19,21]/\
 Nx (GY R T I Q u o) cJ ([ac 0 0,ε 7 0 (ba R).length,δ Z (↑(ba R).length:Int),δ Z (Z.wrap ((↑cJ.val:Int)+1))],[cS R (δ Z (R.nu+1)) (bc 128 (aK θ dO)) (ξ true) (ai (oG T o.cl o.nm o.kd)) (ξ true) (aV 1) (aV 5) (aG (some (bn o))) (ε 6 0 (nO R+cJ.val+1)) (ε 4 0 (nD R)),af I,af Q,ο,rD R,af [],ζ 107 5 (ι bD R.out++oe (ah cJ.val (ba R)) R o++[[dn Z eF,η (κ Z 12),π 1 [[dn Z R.id],[dn Z R.ep],[dn Z (R.nu+1)],[dn Z eG.cl],[dn Z eG.nm],[dn Z eG.kd],[dn Z eG.bk],[dn Z (dy dO)]],π 1 (ints θ eG.b),π 1 []]]),ζ 3 1 (ints Z (fC R.me R.v.mem R.v.aL))]))/\
 (decide ((↑cJ.val:Int)<(↑(ba R).length:Int))=false->
 ∀(gH:Nat->
 Value),nD R=(nD R)/\
 bN (nD R)/\
 ∃(fq:List Int),∃(dY:List Int),∃(cU:List Int),∃(dH:Op),gz (aK θ (eJ R.c o.kd o.bk o.b)) cU/\
 ints Z R.v.mem=ints Z fq/\
 ints Z R.v.aL=ints Z dY/\
 dm (fq.length+dY.length)/\
 jW []/\
 some (bn o)=some (bn dH)/\
 j_ dH.bk/\
 (allI R.me fq dY []=false->
 bu gH [1,2,3,4,5,7,8,9,10,13,14,17,18,19,20]/\
 K (δ Z 0) [cS R (δ Z (R.nu+1)) (bc 128 (aK θ (eJ R.c o.kd o.bk o.b))) (ξ true) (ai (oG T o.cl o.nm o.kd)) (ξ true) (aV 1) (aV 2) (aG (some (bn o))) (ε 3 0 (nO R+cJ.val)) (ε 4 0 (nD R)),af I,af [],ζ 107 5 cK,rD R])/\
 (allI R.me fq dY []=true->
 bu gH [1,2,3,4,5,7,8,9,10,13,14,17,18,19,20]/\
 K (δ Z 0) [cS R (δ Z (R.nu+1)) (bc 128 (aK θ cU)) (ξ true) (ai (oG T o.cl o.nm o.kd)) (ξ true) (aV 1) (aV 2) (aG none) (ε 3 0 (nO R+cJ.val)) (ε 4 0 (nD R+1)),af I,af [],ζ 107 5 cK,ζ 70 7 (ι bo R.done++[(bn dH++[η (κ Z 0),π 1 (oa cU dH.kd dH.bk)])])])))))
 ):aO Tryz.prog B7 (PN R T I Q u o) 21 [ac 0 0,.agg [.int Z o.cl,.int Z o.nm,.int Z o.kd,.int Z o.bk,an (.sl 1 (ints θ o.b))]] [cR R (ai T) (ξ true) (.mp 1) (.mp 2) (.ae u) (.sl 3 0 (nO R)) (.sl 4 0 (nD R)),af I,af Q,rO R,rD R] (ed K):=by apply Eq.mp (a:=ay);kernel_rfl
theorem acj (R:φ) (T:ML) (χ ψ:Value) (o:Op) (K:V->KB->Prop) (ay:
 let aq:KB:=[cR R (ai T) (ξ false) (γ χ) (γ ψ) (aG none) (ε 1 0 (nO R)) (ε 2 0 (nD R)),rO R,rD R];∀(y1:Nat->
 Value),false=false/\
 bu y1 [0,1,2,3,4,5,7,8,9,10,11,12,14,15,17,18,19,20,21]/\
 (((!jv o.cl o.nm o.kd o.bk (ints θ o.b).length)=true->
 K (δ Z 1) aq)/\
 ((!jv o.cl o.nm o.kd o.bk (ints θ o.b).length)=false->
 (true=true->
 K (δ Z 12) aq)/\
 (true=false->
 (false=true->
 K (δ Z 18) aq)/\
 (false=false->
 At C3 ([],aq)))))/\
 True
 ):aO Tryz.prog B8 (cutAt 1008) 21 [ac 0 0,.agg [.int Z o.cl,.int Z o.nm,.int Z o.kd,.int Z o.bk,an (.sl 1 (ints θ o.b))]] [cR R (ai T) (ξ false) (γ χ) (γ ψ) (.ae none) (.sl 1 0 (nO R)) (.sl 2 0 (nD R)),rO R,rD R] (ed K):=by apply Eq.mp (a:=ay);kernel_rfl
theorem PH {P:Program} {X:bM} (hX:bW P X) (hm:P.follows .mixedOrders=true) (ms:List Vc.Mode) {f:FuncId} {S:aH} (h:∀ args kb K,S args kb K->∃ T,aO P X T f args kb (iF ms (dh kb.length K))):aT P f S:=
 fun args kb K hs=>yy (eM hX hm (S:=fun a k K0=>∃ T,aO P X T f a k K0) fun _ _ _ h=>h) ms args kb K (h args kb K hs)
theorem WV:aT Tryz.prog 55 Bn:=PH f_ mixed [.eB 1] (fun args kb K h=>by
 unfold Bn at h;split at h<;>try exact h.elim
 obtain⟨⟨hn⟩,h⟩:=h
 refine⟨_,abf _ K fun b hb=>⟨fun e=>?_,fun _=>⟨trivial,aE _,by omega,by simp,?_⟩⟩⟩
 ·have:=kG (hb e)
  rw[this]at h;exact h
 ·simpa using h)
theorem Kz {c b:List Int} {cl nm kd bk:Int} (hc:c.length=128) (h:jv cl nm kd bk b.length=true):(eJ c kd bk b).length=128:=by
 simp only[jv,decide_eq_true_eq]at h
 unfold eJ
 split
 ·rename_i e
  rw[mf (by have:=h.2.2.2.2.2.2.2.2 e;omega),hc]
 ·split
  ·rw[mf (by rw[List.length_replicate];omega),hc]
  ·exact hc
theorem Ky {c b:List Int} {kd bk:Int} (hc:bm c) (h:bm b):bm (eJ c kd bk b):=by
 have hs:∀(k:Nat) (v:List Int),bm v->bm (splice c k v):=fun k v hv x hx=>by
  unfold splice at hx
  rcases gl.1 hx with hx | hx
  ·rcases gl.1 hx with hx | hx
   ·exact hc x (List.mem_of_mem_take hx)
   ·exact hv x hx
  ·exact hc x (List.mem_of_mem_drop hx)
 unfold eJ
 split
 ·exact hs _ _ h
 ·split
  ·exact hs _ _ (fun x hx=>by rw[List.eq_of_mem_replicate hx];omega)
  ·exact hc
theorem OK {x:List L3} {c n:Int} (h:cz x c n 0=0):¬ (g_ x c n=1∨g_ x c n=2):=by
 unfold cz at h
 split at h
 ·omega
 ·unfold g_
  cases hq:jL x c with
  |none=>simp
  |some q=>
   rw[hq]at h
   simp only at h ⊢
   split at h
   ·omega
   ·rename_i hn
    rw[if_pos (by omega)];simp
theorem Du {c:List Int} {o:Op}:oa c o.kd o.bk=ints θ (oC c o):=by
 unfold oa oC
 split
 ·simp [ints]
 ·rfl
theorem yX {i n:Nat} (h:i<n):br (i:Int) n:=⟨by omega,by omega⟩
theorem ints_getElem? {k:IntKind} {l:List Int} {i:Nat}:(ints k l)[i]? =(l[i]?).map fun n=>[η (.int k n)]:=by unfold ints;rw[fG]
theorem aah (R:φ) (T:ML) (χ ψ:Value) (o:Op) (hl:R.ld=none) (hB:o.b.length<=100000) {kb:KB} (hkb:aF R kb) (hsh:kb=[cR R (ai T) (ξ false) (γ χ) (γ ψ) (.ae none) (.sl 1 0 (nO R)) (.sl 2 0 (nD R)),rO R,rD R]) (K:V->KB->Prop) (hK:∀ kb',aF (eE R o).2 kb'->K (.int Z (eE R o).1) kb'):aO Tryz.prog B8 (cutAt 1008) 21 [ac 0 0,.agg [.int Z o.cl,.int Z o.nm,.int Z o.kd,.int Z o.bk,an (.sl 1 (ints θ o.b))]] [cR R (ai T) (ξ false) (γ χ) (γ ψ) (.ae none) (.sl 1 0 (nO R)) (.sl 2 0 (nD R)),rO R,rD R] (ed K):=by
 subst hsh
 have fin:∀{e:Int} {R':φ} {kb':KB},eE R o=(e,R')->aF R' kb'->K (.int Z e) kb':=fun{e R' kb'} h1 h2=>by
  have:=hK kb'
  rw[h1]at this
  exact this h2
 have rI:gg o=jv o.cl o.nm o.kd o.bk (ints θ o.b).length:=by unfold gg;rw[be]
 exact acj R T χ ψ o K fun f=>⟨rfl,⟨by simp [bP]⟩,⟨fun e=>fin (PP (by rw[rI];simpa using e)) hkb,fun e=>⟨fun _=>fin (PR (by rw[rI];simpa using e) (by simp [ib,hl])) hkb,fun f=>(by cases f)⟩⟩,trivial⟩
theorem aag (R:φ) (o:Op) (L:dx) (T I Q:ML) (hT:bG T R.t) (hl:R.ld=some L) (hI:MB I L.ins) (hQ:MB Q L.dR) (hR:c8 R) (hroom:R.out.length+(ba R).length<=100000) (DU:bm o.b) (hB:o.b.length<=100000) {kb:KB} (hkb:aF R kb)
  (hsh:kb=[cR R (ai T) (ξ true) (.mp 1) (.mp 2) (.ae (L.cur.map bn)) (.sl 3 0 (nO R)) (.sl 4 0 (nD R)),af I,af Q,rO R,rD R]) (K:V->KB->Prop) (hK:∀ kb',aF (eE R o).2 kb'->K (.int Z (eE R o).1) kb'):aO Tryz.prog B7 (PN R T I Q (L.cur.map bn) o) 21 [ac 0 0,.agg [.int Z o.cl,.int Z o.nm,.int Z o.kd,.int Z o.bk,an (.sl 1 (ints θ o.b))]] [cR R (ai T) (ξ true) (.mp 1) (.mp 2) (.ae (L.cur.map bn)) (.sl 3 0 (nO R)) (.sl 4 0 (nD R)),af I,af Q,rO R,rD R] (ed K):=by
 subst hsh
 have fin:∀{e:Int} {R':φ} {kb':KB},eE R o=(e,R')->aF R' kb'->K (.int Z e) kb':=fun{e R' kb'} h1 h2=>by
  have:=hK kb'
  rw[h1]at this
  exact this h2
 have h5:dm (R.v.mem.length+R.v.aL.length):=⟨by have:=hR.vl;omega⟩
 have lm:gz (aK θ R.c) R.c:=⟨rfl,hR.cl,hR.cb⟩
 have LD:∀(h:gg o=true),gz (aK θ (eJ R.c o.kd o.bk o.b)) (eJ R.c o.kd o.bk o.b):=fun h=>⟨rfl,by rw[Kz hR.cl h],Ky hR.cb DU⟩
 have lX:oR R.nu:=⟨hR.n0,by have:=hR.n1;omega⟩
 have hdl:(ι bo R.done).length<=1000000:=by rw[cg];have:=hR.dl;omega
 have Ev:ib R=allI R.me R.v.mem R.v.aL I:=by unfold ib;rw[hl,qc hI];rfl
 have rI:gg o=jv o.cl o.nm o.kd o.bk (ints θ o.b).length:=by unfold gg;rw[be]
 have htn:∀ hi:mA o=true->cz (fW R) o.cl o.nm 0=0,bG (oG T o.cl o.nm o.kd) (m6 R.t o):=fun hi=>by
  unfold m6 oG
  by_cases hc:mA o=true
  ·have gM:mI o.kd=true:=hc
   have hz:cz R.t o.cl o.nm 0=0:=hi hc
   rw[if_pos gM,if_pos ⟨hc,hz⟩]
   exact Aw hT hz
  ·have gM:¬ mI o.kd=true:=hc
   rw[if_neg gM,if_neg (fun f=>hc f.1)];exact hT
 refine aci R T I Q _ o K fun f=>⟨R.v.mem,R.v.aL,rfl,rfl,h5,hI.b,rfl,⟨by simp [bP]⟩,fun e=>?_,fun e=>⟨fun e2=>?_,fun e2=>⟨fun e3=>?_,fun e3=>⟨?_,?_⟩⟩⟩⟩
 ·exact fin (PP (by rw[rI];simpa using e)) hkb
 ·exact fin (PR (by rw[rI];simpa using e) (by rw[Ev];simpa using e2)) hkb
 ·exact fin (aae (by rw[rI];simpa using e) hl (by rw[Ev];simpa using e2) (by simpa [kN,cm,hl]using e3)) hkb
 all_goals
  have lp:L.cur=none:=by simpa using e3
  have vt:kN R=false:=by simp [kN,cm,hl,lp]
  have mD:gg o=true:=by rw[rI];simpa using e
  have nq:ib R=true:=by rw[Ev];simpa using e2
 ·refine⟨fun hc f=>⟨rfl,⟨hdl⟩,R.t,hT,fun h1=>⟨⟨by simp [bP]⟩,fun _=>?_,fun e=>(by cases e)⟩,fun h1=>⟨⟨by simp [bP]⟩,fun _=>?_,fun e=>(by cases e)⟩,fun h1=>⟨fun hz=>⟨⟨by simp [bP]⟩,fun _=>?_,fun e=>(by cases e)⟩,fun hz=>⟨⟨by simp [bP]⟩,fun e=>(by cases e),fun _=>?_⟩⟩⟩,fun hc=>?_⟩
  ·have hk1:lA R o=some (0,{R with done:=R.done++[⟨o,oV R.t o.cl o.nm,[]⟩] }):=by unfold lA fW;rw[if_pos h1.h]
   refine fin (G1 mD hl nq vt hc hk1) ?_
   unfold aF
   simp only[hl]
   refine⟨I,Q,T,hI,hQ,hT,?_⟩
   simp [cR,bo,bn,dn,ints]
  ·have hk1:lA R o=some (13,R):=by unfold lA fW;rw[if_neg (by rw[h1.h];decide),if_pos h1.h]
   exact fin (G1 mD hl nq vt hc hk1) hkb
  ·have hk1:lA R o=some (cz R.t o.cl o.nm 0,R):=by unfold lA fW;rw[if_neg (by rw[h1.h];decide),if_neg (by rw[h1.h];decide),if_neg hz.h]
   exact fin (G1 mD hl nq vt hc hk1) hkb
  ·exact At.mk' ⟨(),fun _=>hz.h⟩ rfl
  ·exact At.mk' ⟨(),fun f=>absurd (f.symm.trans hc) (by decide)⟩ rfl
 ·have Mc:jv o.cl o.nm o.kd o.bk o.b.length=true:=mD
  rintro⟨_,hi⟩
  have hkn:mA o=true->lA R o=none:=fun hc=>by
   have h2:=hi hc
   unfold lA;rw[if_neg (fun e=>OK h2 (.inl e)),if_neg (fun e=>OK h2 (.inr e)),if_pos h2]
  refine⟨⟨by rw[be];omega⟩,fun f=>?_,fun _ f=>⟨R.v.mem,R.v.aL,rfl,rfl,h5,⟨by simp [bP]⟩,At.mk' ⟨0,bF _⟩ ?_,?_⟩⟩
  ·refine⟨R.c,o.b,R.t,lm,rfl,hT,lX,⟨Mc⟩,fun hc=>⟨⟨by simp [bP]⟩,At.mk' () ?_⟩,fun hc=>⟨fun hz=>?_,fun hz=>⟨⟨by simp [bP]⟩,At.mk' () ?_⟩⟩⟩
   ·simp only[oG,hc.h];rfl
   ·exact absurd (hi hc.h) hz.h
   ·simp only[oG,hc.h];rfl
  ·simp [ba,oe,bn,dn]
  ·rintro⟨i,Ek⟩
   refine⟨fun hlt=>?_,fun hlt=>?_⟩
   ·have hlt:i<(ba R).length:=by simpa using hlt
    have hz:i<(fC R.me R.v.mem R.v.aL).length:=by rw[F_];exact Nat.lt_of_lt_of_le hlt (On _ _ _)
    have da:(fC R.me R.v.mem R.v.aL)[i]? =(ba R)[i]?:=by
     have:=Gb R.me R.v.mem R.v.aL
     have h2:(ba R)[i]? =((fC R.me R.v.mem R.v.aL).take (ba R).length)[i]?:=by rw[show ba R=bA R.me R.v.mem R.v.aL from rfl,this]
     rw[h2,jj hlt]
    refine⟨yX (by simpa using hlt),[dn Z (ba R)[i]],?_,(ba R)[i],rfl,fun f=>⟨?_,⟨?_⟩,_,o,LD mD,rfl,⟨by simp [bP]⟩,Nx.mk' ⟨i+1,hlt⟩ ?_ ?_⟩⟩
    ·simp only[dr,cL]
     rw[ints_getElem?,da,bx hlt];rfl
    ·simp [oe];omega
    ·simp;omega
    ·have w:=bR (n:=(i:Int)+1) (by omega) (by omega)
     simp only[w]
     have eh:oe ((ba R).take (i+1)) R o=oe ((ba R).take i) R o++[od (ba R)[i] R.id R.ep (R.nu+1) (eJ R.c o.kd o.bk o.b) o]:=by
      unfold oe
      rw[jY,bx hlt,jC];rfl
     simp [eh,od,fc,dn,ints,bn]
     omega
    ·show(ba R).length - (i+1)<(ba R).length - i
     omega
   ·have hi2:i=(ba R).length:=by
     have:¬ i<(ba R).length:=by simpa using hlt
     omega
    subst hi2
    refine fun f=>⟨rfl,⟨hdl⟩,R.v.mem,R.v.aL,_,o,LD mD,rfl,rfl,h5,px.b,rfl,zY ⟨Mc⟩,fun e1=>⟨⟨by simp [bP]⟩,?_⟩,fun e1=>⟨⟨by simp [bP]⟩,?_⟩⟩
    ·have hne:ba R≠[]:=fun hh=>by
      rw[qc px]at e1
      have:bA R.me R.v.mem R.v.aL=[]:=hh
      rw[this]at e1;simp at e1
     refine fin (PQ mD hl nq vt hkn) ?_
     rw[Sv hne]
     unfold aF
     refine⟨I,[],_,hI,px,htn hi,?_⟩
     simp [cR,cS,oe,jH,od,bD,h_,fc,iE,dn,ints,bn,Function.comp_def]
    ·have hne:ba R=[]:=by
      rw[qc px]at e1
      cases hh:ba R with
      |nil=>rfl
      |cons a l=>
       have:bA R.me R.v.mem R.v.aL=a::l:=hh
       rw[this]at e1;simp at e1
     refine fin (PQ mD hl nq vt hkn) ?_
     rw[Su hne]
     unfold aF
     refine⟨I,[],_,hI,px,htn hi,?_⟩
     simp [cR,cS,hne,oe,bo,bn,Du,dn]
theorem PL:dE Tryz.prog Aq:=fun f k h=>by
 unfold Aq at h
 split at h
 ·cases h;exact eK FY _
 ·cases h;exact NM
 ·cases h;exact Xo
 ·cases h;exact eK Xp _
 ·cases h;exact WV
 ·cases h;exact eK NI _
 ·cases h;exact eK zH _
 ·cases h;exact eK NL _
 ·cases h;exact eK NK _
 ·cases h
theorem R4:bW Tryz.prog B7:=dI mixed PL aM 10
theorem aad:dE Tryz.prog G0:=fun f k h=>by
 unfold G0 at h
 split at h
 ·cases h;exact eK FY _
 ·exact PL _ _ h
theorem R3:bW Tryz.prog B8:=dI mixed aad aM 10
def Rt:aH:=fun args kb K=>∃ R o,args=[ac 0 0,.agg [.int Z o.cl,.int Z o.nm,.int Z o.kd,.int Z o.bk,an (.sl 1 (ints θ o.b))]]/\aF R kb/\c8 R/\R.out.length+(ba R).length<=100000/\bm o.b/\o.b.length<=100000/\∀ kb',aF (eE R o).2 kb'->K (.int Z (eE R o).1) kb'
theorem Ya:fw Tryz.prog 21 Rt:=zp mixed (fun args kb K h=>by
 obtain⟨R,o,rfl,hkb,hR,hroom,DU,hB,hK⟩:=h
 have gN:=hkb
 unfold aF at hkb
 split at hkb
 ·rename_i hl
  obtain⟨χ,ψ,T,hT,e⟩:=hkb
  exact⟨_,_,R3,e ▸ aah R T χ ψ o hl hB gN e K hK⟩
 ·rename_i L hl
  obtain⟨I,Q,T,hI,hQ,hT,e⟩:=hkb
  exact⟨_,_,R4,e ▸ aag R o L T I Q hT hl hI hQ hR hroom DU hB gN e K hK⟩)
def Bo:aH:=fun args kb K=>match args,kb with
 | [an (.sl 1 B)],[]=>bN B.length/\K (an (.sl 1 B)) []
 |_,_=>False
def dW:List Bool:=[false,false,false,false,false,false,false,false,false,false,false,false,false,false,true,true]
def dS (R:φ) (w:Vw):Bool:=match w.mem with | a:: _=>a == R.me | []=>false
def ee (R:φ) (w:Vw):Bool:=decide (w.vi=R.id/\R.v.ve<=w.ve/\R.ep<=w.ve/\1<=w.ve) && !(w.ve == R.v.ve && (eL R || !dS R w))
def fm (R:φ) (w:Vw):Bool:=dS R w && !R.lo && !(R.ep == 0 && R.bl)
def gi (R:φ) (w:Vw):φ:=
 if ee R w=false then R else
  let R1:φ:={gk R with v:=w }
  if fm R w=false then R1 else
   let R2:φ:={R1 with ep:=w.ve,ch:=R.ch || (R.ep != w.ve),ld:=some ⟨fun _=>false,fun _=>false,none⟩ }
   (ba R2).foldl oE R2
def jQ (l:List Int) (R:φ) (w:Vw):List (List D):=l.map fun to=>kY to R.id w.ve R.nu R.c R.t
abbrev yD (R:φ):List (List D):=R.done.map bo++yl (cm R)
abbrev HG (R:φ) (T:ML) (χ ψ:Value) (w:Vw):LI where
 α:=Unit
 live:=[0,3,4]
 st _:=([ac 0 0,ac 3 0,ξ (dS R w)],[cR R (ai T) (ξ false) (γ χ) (γ ψ) (.ae none) (.sl 1 0 (nO R)) (.sl 2 0 (nD R)),rO R,rD R,jh w])
 μ _:=0
abbrev HI (R:φ) (T:ML) (χ ψ:Value) (w:Vw):LI where
 α:={_u:Unit // ee R w=true}
 live:=[0,3,4]
 st _:=([ac 0 0,ac 3 0,ξ (dS R w)],[cR R (ai T) (ξ false) (γ χ) (γ ψ) (.ae none) (.sl 1 0 (nO R)) (.sl 2 0 (nD R)),rO R,rD R,jh w])
 μ _:=0
abbrev HK (R:φ) (T:ML) (χ ψ:Value) (w:Vw):LI where
 α:={_u:Unit // ee R w=true}
 live:=[0,3,4]
 st _:=([ac 0 0,ac 4 0,ξ (dS R w)],[cR R (ai T) (ξ false) (γ χ) (γ ψ) (.ae none) (.sl 1 0 (nO R)) (.sl 3 0 (yD R).length),rO R,ο,ζ 70 7 (yD R),jh w])
 μ _:=0
abbrev HM (R:φ) (T:ML) (χ ψ:Value) (w:Vw):LI where
 α:={_u:Unit // ee R w=true/\fm R w=true}
 live:=[0,3]
 st _:=([ac 0 0,ac 4 0],[cV R w (.int Z R.ep) (ξ R.ch) (ai T) (ξ false) (γ χ) (γ ψ) (.ae none) (.sl 1 0 (nO R)) (.sl 3 0 (yD R).length),rO R,ο,ζ 70 7 (yD R),jh w])
 μ _:=0
abbrev HO (R:φ) (T:ML) (χ ψ:Value) (w:Vw):LI where
 α:={_u:Unit // ee R w=true/\fm R w=true}
 live:=[0]
 st _:=([ac 0 0],[cV R w (.int Z w.ve) (ξ (R.ch || (R.ep != w.ve))) (ai T) (ξ false) (γ χ) (γ ψ) (.ae none) (.sl 1 0 (nO R)) (.sl 3 0 (yD R).length),rO R,ο,ζ 70 7 (yD R)])
 μ _:=0
abbrev HQ (R:φ) (T:ML) (χ ψ:Value) (w:Vw):LI where
 α:={i:Nat // i<=(bA R.me w.mem w.aL).length/\ee R w=true/\fm R w=true}
 live:=[0,135,136,137]
 dN:=[.mv 0 147]
 st i:=([ac 0 0,.sl 7 0 (bA R.me w.mem w.aL).length,.int Z ((bA R.me w.mem w.aL).length:Int),.int Z (i.1:Int)],[cV R w (.int Z w.ve) (ξ (R.ch || (R.ep != w.ve))) (ai T) (ξ true) (.mp 3) (.mp 4) (.ae none) (.sl 5 0 ((nO R)+i.1)) (.sl 6 0 (yD R).length),ο,ο,af [],af [],ζ 107 5 (R.out.map bD++jQ ((bA R.me w.mem w.aL).take i.1) R w),ζ 70 7 (yD R),ζ 3 1 (ints Z (fC R.me w.mem w.aL))])
 μ i:=(bA R.me w.mem w.aL).length - i.1
def QO (R:φ) (T:ML) (χ ψ:Value) (w:Vw):Nat->Option LI
 | 1002=>some (HG R T χ ψ w)
 | 1004=>some (HI R T χ ψ w)
 | 1006=>some (HK R T χ ψ w)
 | 1008=>some (HM R T χ ψ w)
 | 1010=>some (HO R T χ ψ w)
 | 12=>some (HQ R T χ ψ w)
 |_=>none
abbrev HF (R:φ) (T:ML) (I Q:ML) (u:Option (List D)) (w:Vw):LI where
 α:=Unit
 live:=[0,3,4]
 st _:=([ac 0 0,ac 5 0,ξ (dS R w)],[cR R (ai T) (ξ true) (.mp 1) (.mp 2) (.ae u) (.sl 3 0 (nO R)) (.sl 4 0 (nD R)),af I,af Q,rO R,rD R,jh w])
 μ _:=0
abbrev HH (R:φ) (T:ML) (I Q:ML) (u:Option (List D)) (w:Vw):LI where
 α:={_u:Unit // ee R w=true}
 live:=[0,3,4]
 st _:=([ac 0 0,ac 5 0,ξ (dS R w)],[cR R (ai T) (ξ true) (.mp 1) (.mp 2) (.ae u) (.sl 3 0 (nO R)) (.sl 4 0 (nD R)),af I,af Q,rO R,rD R,jh w])
 μ _:=0
abbrev HJ (R:φ) (T:ML) (I Q:ML) (u:Option (List D)) (w:Vw):LI where
 α:={_u:Unit // ee R w=true}
 live:=[0,3,4]
 st _:=([ac 0 0,ac 6 0,ξ (dS R w)],[cR R (ai T) (ξ false) (.mp 1) (.mp 2) (.ae none) (.sl 3 0 (nO R)) (.sl 5 0 (yD R).length),af I,af Q,rO R,ο,ζ 70 7 (yD R),jh w])
 μ _:=0
abbrev HL (R:φ) (T:ML) (I Q:ML) (u:Option (List D)) (w:Vw):LI where
 α:={_u:Unit // ee R w=true/\fm R w=true}
 live:=[0,3]
 st _:=([ac 0 0,ac 6 0],[cV R w (.int Z R.ep) (ξ R.ch) (ai T) (ξ false) (.mp 1) (.mp 2) (.ae none) (.sl 3 0 (nO R)) (.sl 5 0 (yD R).length),af I,af Q,rO R,ο,ζ 70 7 (yD R),jh w])
 μ _:=0
abbrev HN (R:φ) (T:ML) (I Q:ML) (u:Option (List D)) (w:Vw):LI where
 α:={_u:Unit // ee R w=true/\fm R w=true}
 live:=[0]
 st _:=([ac 0 0],[cV R w (.int Z w.ve) (ξ (R.ch || (R.ep != w.ve))) (ai T) (ξ false) (.mp 1) (.mp 2) (.ae none) (.sl 3 0 (nO R)) (.sl 5 0 (yD R).length),af I,af Q,rO R,ο,ζ 70 7 (yD R)])
 μ _:=0
abbrev HP (R:φ) (T:ML) (I Q:ML) (u:Option (List D)) (w:Vw):LI where
 α:={i:Nat // i<=(bA R.me w.mem w.aL).length/\ee R w=true/\fm R w=true}
 live:=[0,135,136,137]
 dN:=[.mv 0 147]
 st i:=([ac 0 0,.sl 9 0 (bA R.me w.mem w.aL).length,.int Z ((bA R.me w.mem w.aL).length:Int),.int Z (i.1:Int)],[cV R w (.int Z w.ve) (ξ (R.ch || (R.ep != w.ve))) (ai T) (ξ true) (.mp 5) (.mp 6) (.ae none) (.sl 7 0 ((nO R)+i.1)) (.sl 8 0 (yD R).length),af I,af Q,ο,ο,af [],af [],ζ 107 5 (R.out.map bD++jQ ((bA R.me w.mem w.aL).take i.1) R w),ζ 70 7 (yD R),ζ 3 1 (ints Z (fC R.me w.mem w.aL))])
 μ i:=(bA R.me w.mem w.aL).length - i.1
def QN (R:φ) (T:ML) (I Q:ML) (u:Option (List D)) (w:Vw):Nat->Option LI
 | 1002=>some (HF R T I Q u w)
 | 1004=>some (HH R T I Q u w)
 | 1006=>some (HJ R T I Q u w)
 | 1008=>some (HL R T I Q u w)
 | 1010=>some (HN R T I Q u w)
 | 12=>some (HP R T I Q u w)
 |_=>none
def HR:FuncId->Option dw
 | 42=>some ⟨[],dK [true,true,true,true,true,true,false,true,true,true,true,true,true,false,true,true,false,true,true,true,true,false] xK⟩
 | 43=>some ⟨[],Bo⟩
 | 44=>some ⟨[],dK [false,true,true,true,true,true,false,true,true,true,true,false,false,true,true,true,true,true,true,true,true,true] sP⟩
 | 45=>some ⟨[],dK [true,false,true,true,false,false,false,false,true,true,true,true,true,true,true,true,true,true,true,true,false,true] uF⟩
 |_=>none
noncomputable def uN:bM:=dF Tryz.prog HR aM 10
theorem abg (B:List (List D)) (K:V->KB->Prop) (ay:
 ∀(y1:Bool),(y1=true->
 B.length=0)->
 (y1=true->
 K (an (π 1 [])) [])/\
 (y1=false->
 True/\
 0<=0/\
 (0+B.length)*8<=140737488355328/\
 0+B.length<=([]++B).length/\
 K (an (π 1 (ν 0 (ah (0+B.length) ([]++B))))) [])
 ):aO Tryz.prog X0 (aM 43) 43 [an (.sl 1 B)] [] (iF [.eB 1] (dh 0 K)):=by apply Eq.mp (a:=ay);kernel_rfl
theorem acE (R:φ) (T:ML) (χ ψ:Value) (w:Vw) (K:V->KB->Prop) (ay:
 let aq:KB:=[cR R (ai T) (ξ false) (γ χ) (γ ψ) (aG none) (ε 1 0 (nO R)) (ε 2 0 (nD R)),rO R,rD R,jh w];((decide ((↑(ints Z w.mem).length:Int) > 0)=true->
 aQ 0/\
 ∃(y1:List D),(ints Z w.mem)[0]? =some y1/\
 ∃(y2:Int),y1[0]? =some (η (κ Z y2))/\
 At (HG R T χ ψ w) ([ac 0 0,ac 3 0,ξ (y2 == R.me)],aq))/\
 (decide ((↑(ints Z w.mem).length:Int) > 0)=false->
 At (HG R T χ ψ w) ([ac 0 0,ac 3 0,ξ false],aq)))/\
 ∀(y3:Unit),(((w.vi != R.id)=true->
 ∀(y4:Nat->
 Value),K (ar []) [cR R (ai T) (ξ false) (γ (y4 14)) (γ (y4 15)) (aG none) (ε 1 0 (nO R)) (ε 2 0 (nD R)),rO R,rD R])/\
 ((w.vi != R.id)=false->
 (decide (w.ve<R.v.ve)=true->
 ∀(y5:Nat->
 Value),K (ar []) [cR R (ai T) (ξ false) (γ (y5 14)) (γ (y5 15)) (aG none) (ε 1 0 (nO R)) (ε 2 0 (nD R)),rO R,rD R])/\
 (decide (w.ve<R.v.ve)=false->
 (decide (w.ve<R.ep)=true->
 ∀(y6:Nat->
 Value),K (ar []) [cR R (ai T) (ξ false) (γ (y6 14)) (γ (y6 15)) (aG none) (ε 1 0 (nO R)) (ε 2 0 (nD R)),rO R,rD R])/\
 (decide (w.ve<R.ep)=false->
 (decide (w.ve<1)=true->
 ∀(y7:Nat->
 Value),K (ar []) [cR R (ai T) (ξ false) (γ (y7 14)) (γ (y7 15)) (aG none) (ε 1 0 (nO R)) (ε 2 0 (nD R)),rO R,rD R])/\
 (decide (w.ve<1)=false->
 ((w.ve == R.v.ve)=true->
 (false=true->
 ∀(y8:Nat->
 Value),K (ar []) [cR R (ai T) (ξ false) (γ (y8 14)) (γ (y8 15)) (aG none) (ε 1 0 (nO R)) (ε 2 0 (nD R)),rO R,rD R])/\
 (false=false->
 ((!dS R w)=true->
 ∀(y9:Nat->
 Value),K (ar []) [cR R (ai T) (ξ false) (γ (y9 14)) (γ (y9 15)) (aG none) (ε 1 0 (nO R)) (ε 2 0 (nD R)),rO R,rD R])/\
 ((!dS R w)=false->
 At (HI R T χ ψ w) ([ac 0 0,ac 3 0,ξ (dS R w)],aq))))/\
 ((w.ve == R.v.ve)=false->
 At (HI R T χ ψ w) ([ac 0 0,ac 3 0,ξ (dS R w)],aq)))))))/\
 ∀(b_:{cq:Unit // ee R w=true}) (ca:Nat->
 Value),nD R=(nD R)/\
 bN (nD R)/\
 ∃(cf:Option Op),none=jZ bn cf/\
 bu ca [0,1,2,3,4,5,7,8,9,10,11,12,14,15,17,18,19,20]/\
 ((bN (ints Z w.mem).length/\
 bN (ints Z w.aL).length/\
 At (HK R T χ ψ w) ([ac 0 0,ac 4 0,ξ (dS R w)],[cR R (ai T) (ξ false) (γ χ) (γ ψ) (aG none) (ε 1 0 (nO R)) (ε 3 0 (ι bo R.done++yl cf).length),rO R,ο,ζ 70 7 (ι bo R.done++yl cf),jh w]))/\
 bN (ints Z w.mem).length/\
 bN (ints Z w.aL).length/\
 At (HK R T χ ψ w) ([ac 0 0,ac 4 0,ξ (dS R w)],[cR R (ai T) (ξ false) (γ χ) (γ ψ) (aG none) (ε 1 0 (nO R)) (ε 3 0 (ι bo R.done++yl cf).length),rO R,ο,ζ 70 7 (ι bo R.done++yl cf),jh w]))/\
 ∀(cj:{cE:Unit // ee R w=true}),let dj:=cV R w (δ Z R.ep) (ξ R.ch) (ai T) (ξ false) (γ χ) (γ ψ) (aG none) (ε 1 0 (nO R)) (ε 3 0 (yD R).length);(((!dS R w)=true->
 ∀(eZ:Nat->
 Value),K (ar []) [cV R w (δ Z R.ep) (ξ R.ch) (ai T) (ξ false) (γ (eZ 14)) (γ (eZ 15)) (aG none) (ε 1 0 (nO R)) (ε 2 0 (yD R).length),rO R,ζ 70 7 (yD R)])/\
 ((!dS R w)=false->
 (R.lo=true->
 ∀(cJ:Nat->
 Value),K (ar []) [cV R w (δ Z R.ep) (ξ R.ch) (ai T) (ξ false) (γ (cJ 14)) (γ (cJ 15)) (aG none) (ε 1 0 (nO R)) (ε 2 0 (yD R).length),rO R,ζ 70 7 (yD R)])/\
 (R.lo=false->
 ((R.ep == 0)=true->
 (R.bl=true->
 ∀(eu:Nat->
 Value),K (ar []) [cV R w (δ Z R.ep) (ξ R.ch) (ai T) (ξ false) (γ (eu 14)) (γ (eu 15)) (aG none) (ε 1 0 (nO R)) (ε 2 0 (yD R).length),rO R,ζ 70 7 (yD R)])/\
 (R.bl=false->
 At (HM R T χ ψ w) ([ac 0 0,ac 4 0],[dj,rO R,ο,ζ 70 7 (yD R),jh w])))/\
 ((R.ep == 0)=false->
 At (HM R T χ ψ w) ([ac 0 0,ac 4 0],[dj,rO R,ο,ζ 70 7 (yD R),jh w])))))/\
 ∀(eS:{eF:Unit // ee R w=true/\
 fm R w=true}),(((R.ep != w.ve)=true->
 At (HO R T χ ψ w) ([ac 0 0],[cV R w (δ Z w.ve) (ξ true) (ai T) (ξ false) (γ χ) (γ ψ) (aG none) (ε 1 0 (nO R)) (ε 3 0 (yD R).length),rO R,ο,ζ 70 7 (yD R)]))/\
 ((R.ep != w.ve)=false->
 At (HO R T χ ψ w) ([ac 0 0],[dj,rO R,ο,ζ 70 7 (yD R)])))/\
 ∀(eG:{dO:Unit // ee R w=true/\
 fm R w=true}) (gH:Nat->
 Value),∃(fq:List Int),∃(dY:List Int),ints Z w.mem=ints Z fq/\
 ints Z w.aL=ints Z dY/\
 dm (fq.length+dY.length)/\
 bu gH [1,2,3,4,5,7,8,9,10,13,14,15,16,17,18,19,20,21]/\
 At (HQ R T χ ψ w) ([ac 0 0,ε 7 0 (bA R.me fq dY).length,δ Z (↑((bA R.me fq dY).length - 0):Int),δ Z 0],[cV R w (δ Z w.ve) (ξ (R.ch || R.ep != w.ve)) (ai T) (ξ true) (aV 3) (aV 4) (aG none) (ε 5 0 (nO R)) (ε 6 0 (yD R).length),ο,ο,af [],af [],rO R,ζ 70 7 (yD R),ζ 3 1 (ints Z (fC R.me fq dY))])/\
 ∀(dH:{cU:Nat // cU<=(bA R.me w.mem w.aL).length/\
 ee R w=true/\
 fm R w=true}),let nP:=(ι bD R.out++jQ (ah dH.val (bA R.me w.mem w.aL)) R w);(decide ((↑dH.val:Int)<(↑(bA R.me w.mem w.aL).length:Int))=true->
 br (↑dH.val:Int) ((bA R.me w.mem w.aL).length - 0)/\
 ∃(dc:List D),(ints Z (fC R.me w.mem w.aL))[0+(↑dH.val:Int).toNat]? =some dc/\
 ∃(iR:Int),dc[0]? =some (η (κ Z iR))/\
 ∀(gj:Nat->
 Value),nO R+dH.val=nP.length/\
 bN (nO R+dH.val)/\
 ∃(di:List Int),∃(iS:List L3),gz (aK θ R.c) di/\
 bG T iS/\
 bu gj [0,2,3,8,9,10,11,12,13,14,15,16,17,18,19,21]/\
 Nx (HQ R T χ ψ w) dH ([ac 0 0,ε 7 0 (bA R.me w.mem w.aL).length,δ Z (↑(bA R.me w.mem w.aL).length:Int),δ Z (Z.wrap ((↑dH.val:Int)+1))],[ω [δ Z R.me,δ Z R.id,ξ R.bl,ξ R.lo,δ Z w.ve,δ Z R.nu,bc 128 (aK θ di),ai T,δ Z w.vi,δ Z w.vv,δ Z w.ve,an (π 1 (ints Z w.mem)),an (π 1 (ints Z w.aL)),ξ true,aV 3,aV 4,aG none,δ Z R.ce,ξ (R.ch || R.ep != w.ve),δ Z R.ti,ε 5 0 (nO R+dH.val+1),ε 6 0 (yD R).length],ο,ο,af [],af [],ζ 107 5 (ι bD R.out++jQ (ah dH.val (bA R.me w.mem w.aL)) R w++[[dn Z iR,η (κ Z 10),π 1 [[dn Z R.id],[dn Z w.ve],[dn Z R.nu]],π 1 (ints θ (bT di)),π 1 [[π 1 (ints θ (bb iS))]]]]),ζ 70 7 (yD R),ζ 3 1 (ints Z (fC R.me w.mem w.aL))]))/\
 (decide ((↑dH.val:Int)<(↑(bA R.me w.mem w.aL).length:Int))=false->
 K (ar []) [cV R w (δ Z w.ve) (ξ (R.ch || R.ep != w.ve)) (ai T) (ξ true) (aV 1) (aV 2) (aG none) (ε 3 0 (nO R+dH.val)) (ε 4 0 (yD R).length),af [],af [],ζ 107 5 nP,ζ 70 7 (yD R)])
 ):aO Tryz.prog uN (QO R T χ ψ w) 15 [ac 0 0,.agg [.int Z w.vi,.int Z w.vv,.int Z w.ve,an (.sl 1 (ints Z w.mem)),an (.sl 1 (ints Z w.aL))]] [cR R (ai T) (ξ false) (γ χ) (γ ψ) (.ae none) (.sl 1 0 (nO R)) (.sl 2 0 (nD R)),rO R,rD R] (fD 13 dW K):=by apply Eq.mp (a:=ay);kernel_rfl
theorem acD (R:φ) (T:ML) (I Q:ML) (u:Option (List D)) (w:Vw) (K:V->KB->Prop) (ay:
 let aq:=cR R (ai T) (ξ true) (aV 1) (aV 2) (aG u) (ε 3 0 (nO R)) (ε 4 0 (nD R));((decide ((↑(ints Z w.mem).length:Int) > 0)=true->
 aQ 0/\
 ∃(y1:List D),(ints Z w.mem)[0]? =some y1/\
 ∃(y2:Int),y1[0]? =some (η (κ Z y2))/\
 At (HF R T I Q u w) ([ac 0 0,ac 5 0,ξ (y2 == R.me)],[aq,af I,af Q,rO R,rD R,jh w]))/\
 (decide ((↑(ints Z w.mem).length:Int) > 0)=false->
 At (HF R T I Q u w) ([ac 0 0,ac 5 0,ξ false],[aq,af I,af Q,rO R,rD R,jh w])))/\
 ∀(y3:Unit),(((w.vi != R.id)=true->
 K (ar []) [aq,af I,af Q,rO R,rD R])/\
 ((w.vi != R.id)=false->
 (decide (w.ve<R.v.ve)=true->
 K (ar []) [aq,af I,af Q,rO R,rD R])/\
 (decide (w.ve<R.v.ve)=false->
 (decide (w.ve<R.ep)=true->
 K (ar []) [aq,af I,af Q,rO R,rD R])/\
 (decide (w.ve<R.ep)=false->
 (decide (w.ve<1)=true->
 K (ar []) [aq,af I,af Q,rO R,rD R])/\
 (decide (w.ve<1)=false->
 ((w.ve == R.v.ve)=true->
 (true=true->
 K (ar []) [aq,af I,af Q,rO R,rD R])/\
 (true=false->
 ((!dS R w)=true->
 K (ar []) [aq,af I,af Q,rO R,rD R])/\
 ((!dS R w)=false->
 At (HH R T I Q u w) ([ac 0 0,ac 5 0,ξ (dS R w)],[aq,af I,af Q,rO R,rD R,jh w]))))/\
 ((w.ve == R.v.ve)=false->
 At (HH R T I Q u w) ([ac 0 0,ac 5 0,ξ (dS R w)],[aq,af I,af Q,rO R,rD R,jh w])))))))/\
 ∀(y5:{y4:Unit // ee R w=true}) (y6:Nat->
 Value),nD R=(nD R)/\
 bN (nD R)/\
 ∃(y7:Option Op),u=jZ bn y7/\
 bu y6 [0,1,2,3,4,5,7,8,9,10,11,12,14,15,17,18,19,20]/\
 ((bN (ints Z w.mem).length/\
 bN (ints Z w.aL).length/\
 At (HJ R T I Q u w) ([ac 0 0,ac 6 0,ξ (dS R w)],[cR R (ai T) (ξ false) (aV 1) (aV 2) (aG none) (ε 3 0 (nO R)) (ε 5 0 (ι bo R.done++yl y7).length),af I,af Q,rO R,ο,ζ 70 7 (ι bo R.done++yl y7),jh w]))/\
 bN (ints Z w.mem).length/\
 bN (ints Z w.aL).length/\
 At (HJ R T I Q u w) ([ac 0 0,ac 6 0,ξ (dS R w)],[cR R (ai T) (ξ false) (aV 1) (aV 2) (aG none) (ε 3 0 (nO R)) (ε 5 0 (ι bo R.done++yl y7).length),af I,af Q,rO R,ο,ζ 70 7 (ι bo R.done++yl y7),jh w]))/\
 ∀(y9:{y8:Unit // ee R w=true}),let dj:=cV R w (δ Z R.ep) (ξ R.ch) (ai T) (ξ false) (aV 1) (aV 2) (aG none) (ε 3 0 (nO R)) (ε 5 0 (yD R).length);let dD:KB:=[dj,af I,af Q,rO R,ο,ζ 70 7 (yD R),jh w];(((!dS R w)=true->
 ∀(cq:Nat->
 Value),K (ar []) [cV R w (δ Z R.ep) (ξ R.ch) (ai T) (ξ false) (γ (cq 14)) (γ (cq 15)) (aG none) (ε 1 0 (nO R)) (ε 2 0 (yD R).length),rO R,ζ 70 7 (yD R)])/\
 ((!dS R w)=false->
 (R.lo=true->
 ∀(b_:Nat->
 Value),K (ar []) [cV R w (δ Z R.ep) (ξ R.ch) (ai T) (ξ false) (γ (b_ 14)) (γ (b_ 15)) (aG none) (ε 1 0 (nO R)) (ε 2 0 (yD R).length),rO R,ζ 70 7 (yD R)])/\
 (R.lo=false->
 ((R.ep == 0)=true->
 (R.bl=true->
 ∀(ca:Nat->
 Value),K (ar []) [cV R w (δ Z R.ep) (ξ R.ch) (ai T) (ξ false) (γ (ca 14)) (γ (ca 15)) (aG none) (ε 1 0 (nO R)) (ε 2 0 (yD R).length),rO R,ζ 70 7 (yD R)])/\
 (R.bl=false->
 At (HL R T I Q u w) ([ac 0 0,ac 6 0],dD)))/\
 ((R.ep == 0)=false->
 At (HL R T I Q u w) ([ac 0 0,ac 6 0],dD)))))/\
 ∀(cE:{cf:Unit // ee R w=true/\
 fm R w=true}),(((R.ep != w.ve)=true->
 At (HN R T I Q u w) ([ac 0 0],[cV R w (δ Z w.ve) (ξ true) (ai T) (ξ false) (aV 1) (aV 2) (aG none) (ε 3 0 (nO R)) (ε 5 0 (yD R).length),af I,af Q,rO R,ο,ζ 70 7 (yD R)]))/\
 ((R.ep != w.ve)=false->
 At (HN R T I Q u w) ([ac 0 0],[dj,af I,af Q,rO R,ο,ζ 70 7 (yD R)])))/\
 ∀(eZ:{cj:Unit // ee R w=true/\
 fm R w=true}) (cJ:Nat->
 Value),∃(eu:List Int),∃(eF:List Int),ints Z w.mem=ints Z eu/\
 ints Z w.aL=ints Z eF/\
 dm (eu.length+eF.length)/\
 bu cJ [1,2,3,4,5,7,8,9,10,13,14,15,16,17,18,19,20,21]/\
 At (HP R T I Q u w) ([ac 0 0,ε 9 0 (bA R.me eu eF).length,δ Z (↑((bA R.me eu eF).length - 0):Int),δ Z 0],[cV R w (δ Z w.ve) (ξ (R.ch || R.ep != w.ve)) (ai T) (ξ true) (aV 5) (aV 6) (aG none) (ε 7 0 (nO R)) (ε 8 0 (yD R).length),af I,af Q,ο,ο,af [],af [],rO R,ζ 70 7 (yD R),ζ 3 1 (ints Z (fC R.me eu eF))])/\
 ∀(dO:{eS:Nat // eS<=(bA R.me w.mem w.aL).length/\
 ee R w=true/\
 fm R w=true}),let nP:=(ι bD R.out++jQ (ah dO.val (bA R.me w.mem w.aL)) R w);(decide ((↑dO.val:Int)<(↑(bA R.me w.mem w.aL).length:Int))=true->
 br (↑dO.val:Int) ((bA R.me w.mem w.aL).length - 0)/\
 ∃(eG:List D),(ints Z (fC R.me w.mem w.aL))[0+(↑dO.val:Int).toNat]? =some eG/\
 ∃(gH:Int),eG[0]? =some (η (κ Z gH))/\
 ∀(fq:Nat->
 Value),nO R+dO.val=nP.length/\
 bN (nO R+dO.val)/\
 ∃(dY:List Int),∃(cU:List L3),gz (aK θ R.c) dY/\
 bG T cU/\
 bu fq [0,2,3,8,9,10,11,12,13,14,15,16,17,18,19,21]/\
 Nx (HP R T I Q u w) dO ([ac 0 0,ε 9 0 (bA R.me w.mem w.aL).length,δ Z (↑(bA R.me w.mem w.aL).length:Int),δ Z (Z.wrap ((↑dO.val:Int)+1))],[ω [δ Z R.me,δ Z R.id,ξ R.bl,ξ R.lo,δ Z w.ve,δ Z R.nu,bc 128 (aK θ dY),ai T,δ Z w.vi,δ Z w.vv,δ Z w.ve,an (π 1 (ints Z w.mem)),an (π 1 (ints Z w.aL)),ξ true,aV 5,aV 6,aG none,δ Z R.ce,ξ (R.ch || R.ep != w.ve),δ Z R.ti,ε 7 0 (nO R+dO.val+1),ε 8 0 (yD R).length],af I,af Q,ο,ο,af [],af [],ζ 107 5 (ι bD R.out++jQ (ah dO.val (bA R.me w.mem w.aL)) R w++[[dn Z gH,η (κ Z 10),π 1 [[dn Z R.id],[dn Z w.ve],[dn Z R.nu]],π 1 (ints θ (bT dY)),π 1 [[π 1 (ints θ (bb cU))]]]]),ζ 70 7 (yD R),ζ 3 1 (ints Z (fC R.me w.mem w.aL))]))/\
 (decide ((↑dO.val:Int)<(↑(bA R.me w.mem w.aL).length:Int))=false->
 K (ar []) [cV R w (δ Z w.ve) (ξ (R.ch || R.ep != w.ve)) (ai T) (ξ true) (aV 1) (aV 2) (aG none) (ε 3 0 (nO R+dO.val)) (ε 4 0 (yD R).length),af [],af [],ζ 107 5 nP,ζ 70 7 (yD R)])
 ):aO Tryz.prog uN (QN R T I Q u w) 15 [ac 0 0,.agg [.int Z w.vi,.int Z w.vv,.int Z w.ve,an (.sl 1 (ints Z w.mem)),an (.sl 1 (ints Z w.aL))]] [cR R (ai T) (ξ true) (.mp 1) (.mp 2) (.ae u) (.sl 3 0 (nO R)) (.sl 4 0 (nD R)),af I,af Q,rO R,rD R] (fD 13 dW K):=by apply Eq.mp (a:=ay);kernel_rfl
theorem WW:aT Tryz.prog 43 Bo:=PH f_ mixed [.eB 1] (fun args kb K h=>by
 unfold Bo at h;split at h<;>try exact h.elim
 rename_i B
 obtain⟨⟨hn⟩,h⟩:=h
 refine⟨_,abg B K fun b hb=>⟨fun e=>?_,fun _=>⟨trivial,aE _,by omega,by simp,?_⟩⟩⟩
 ·have:=kG (hb e)
  rw[this]at h;exact h
 ·simpa using h)
theorem mH {k:IntKind}:ints k []=[]:=rfl
theorem oJ {R:φ} {w:Vw} (h:ee R w=false):gi R w=R:=by unfold gi;rw[if_pos h]
theorem QI {R:φ} {w:Vw} (h:ee R w=true) (h2:fm R w=false):gi R w={gk R with v:=w }:=by
 unfold gi;rw[if_neg (by simp [h])];simp only[if_pos h2]
theorem QH {R:φ} {w:Vw} (h:ee R w=true) (h2:fm R w=true):gi R w={R with v:=w,ep:=w.ve,ch:=R.ch || (R.ep != w.ve),ld:=some ⟨fun _=>false,fun _=>false,none⟩,done:=(gk R).done,out:=R.out++(bA R.me w.mem w.aL).map fun to=>⟨to,⟨10,[R.id,w.ve,R.nu],bT R.c,[bb (fW R)]⟩⟩ }:=by
 unfold gi
 rw[if_neg (by simp [h])]
 simp only[h2,G4]
 rfl
theorem acN:dE Tryz.prog HR:=fun f k h=>by
 unfold HR at h
 split at h
 ·cases h;exact eK N2 _
 ·cases h;exact WW
 ·cases h;exact eK zH _
 ·cases h;exact eK F1 _
 ·cases h
theorem Jl:bW Tryz.prog uN:=dI mixed acN aM 10
theorem Lb {R:φ} {w:Vw} (h:w.vi≠R.id):ee R w=false:=by simp [ee,h]
theorem tf {R:φ} {w:Vw} (h:w.ve<R.v.ve∨w.ve<R.ep∨w.ve<1):ee R w=false:=by
 have:¬ (w.vi=R.id/\R.v.ve<=w.ve/\R.ep<=w.ve/\1<=w.ve):=by omega
 simp only[ee,decide_eq_false this,Bool.false_and]
theorem go_eq {R:φ} {w:Vw} (h:w.ve=R.v.ve) (h2:eL R=true∨dS R w=false):ee R w=false:=by
 rcases h2 with h2 | h2<;>simp [ee,h,h2]
theorem DR {R:φ} {w:Vw} (h1:w.vi=R.id) (h2:¬ w.ve<R.v.ve) (h3:¬ w.ve<R.ep) (h4:¬ w.ve<1) (h5:w.ve=R.v.ve->eL R=false/\dS R w=true):ee R w=true:=by
 have:w.vi=R.id/\R.v.ve<=w.ve/\R.ep<=w.ve/\1<=w.ve:=by omega
 simp only[ee,decide_eq_true this,Bool.true_and]
 by_cases e:w.ve=R.v.ve
 ·obtain⟨a,b⟩:=h5 e
  simp [a,b]
 ·simp [e]
theorem qR (R:φ):ι bo (gk R).done=yD R:=by
 unfold gk yD
 cases cm R with
 |none=>simp [yl]
 |some o=>simp [yl,bo,Da,bn,dn,ints]
theorem Ga {me:Int} {m j:List Int} {i:Nat} (hlt:i<(bA me m j).length):(fC me m j)[i]? =(bA me m j)[i]?:=by
 have h2:(bA me m j)[i]? =((fC me m j).take (bA me m j).length)[i]?:=by rw[Gb]
 rw[h2,jj hlt]
theorem acL (R:φ) (T:ML) (χ ψ:Value) (w:Vw) (hT:bG T R.t) (hl:R.ld=none) (hR:c8 R) (hw:w.mem.length+w.aL.length<=1000) (hroom:R.out.length+(bA R.me w.mem w.aL).length<=100000) (dM:∀ χ ψ,aF R [cR R (ai T) (ξ false) (γ χ) (γ ψ) (.ae none) (.sl 1 0 (nO R)) (.sl 2 0 (nD R)),rO R,rD R]) (K:V->KB->Prop) (hK:∀ kb',aF (gi R w) kb'->K (.υ []) kb'):aO Tryz.prog uN (QO R T χ ψ w) 15 [ac 0 0,.agg [.int Z w.vi,.int Z w.vv,.int Z w.ve,an (.sl 1 (ints Z w.mem)),an (.sl 1 (ints Z w.aL))]] [cR R (ai T) (ξ false) (γ χ) (γ ψ) (.ae none) (.sl 1 0 (nO R)) (.sl 2 0 (nD R)),rO R,rD R] (fD 13 dW K):=by
 have fin:∀{R':φ} {kb':KB},gi R w=R'->aF R' kb'->K (.υ []) kb':=fun{R' kb'} h1 h2=>by
  have:=hK kb'
  rw[h1]at this
  exact this h2
 have h5:dm (w.mem.length+w.aL.length):=⟨by omega⟩
 have hdl:(ι bo R.done).length<=1000000:=by rw[cg];have:=hR.dl;omega
 have lw:eL R=false:=by simp [eL,hl]
 have mC:none=(cm R).map bn:=by simp [cm,hl]
 have rF:w.mem.length<=1000000:=by omega
 have hlj:w.aL.length<=1000000:=by omega
 refine acE R T χ ψ w K ⟨⟨fun _=>?_,fun e0=>At.mk' () ?_⟩,fun _=>⟨⟨fun e1=>fun f=>fin (oJ (Lb (by simpa using e1))) (dM _ _),fun e1=>⟨fun e2=>fun f=>fin (oJ (tf (.inl (by simpa using e2)))) (dM _ _),fun e2=>⟨fun e3=>fun f=>fin (oJ (tf (.inr (.inl (by simpa using e3))))) (dM _ _),fun e3=>⟨fun e4=>fun f=>fin (oJ (tf (.inr (.inr (by simpa using e4))))) (dM _ _),fun e4=>⟨fun e5=>⟨fun f=>(by cases f),fun _=>⟨fun e6=>fun f=>fin (oJ (go_eq (by simpa using e5) (.inr (by simpa using e6)))) (dM _ _),fun e6=>At.mk' ⟨(),DR (by simpa using e1) (by simpa using e2) (by simpa using e3) (by simpa using e4) (fun _=>⟨lw,by simpa using e6⟩)⟩ rfl⟩⟩,fun e5=>At.mk' ⟨(),DR (by simpa using e1) (by simpa using e2) (by simpa using e3) (by simpa using e4) (fun h=>absurd h (by simpa using e5))⟩ rfl⟩⟩⟩⟩⟩,fun fP f=>⟨rfl,⟨hdl⟩,cm R,mC,⟨by simp [bP]⟩,⟨⟨⟨by rw[be];exact rF⟩,⟨by rw[be];exact hlj⟩,At.mk' fP rfl⟩,⟨by rw[be];exact rF⟩,⟨by rw[be];exact hlj⟩,At.mk' fP rfl⟩,fun fP=>⟨?_,fun o6=>⟨⟨fun e1=>At.mk' ⟨(),o6.2⟩ ?_,fun e1=>At.mk' ⟨(),o6.2⟩ ?_⟩,fun _ f=>⟨w.mem,w.aL,rfl,rfl,h5,⟨by simp [bP]⟩,At.mk' ⟨0,bF _,o6.2⟩ ?_,?_⟩⟩⟩⟩⟩⟩
 ·cases hm:w.mem with
  |nil=>rename_i e0;rw[hm]at e0;simp [ints]at e0
  |cons b l=>
   refine⟨gp _,[dn Z b],by simp [ints,dn],b,rfl,At.mk' () ?_⟩
   have:dS R w=(b == R.me):=by simp [dS,hm]
   simp only[this,hm]
 ·have:w.mem=[]:=by
   cases hm:w.mem with
   |nil=>rfl
   |cons b l=>rw[hm]at e0;simp [ints]at e0
  have h2:dS R w=false:=by simp [dS,this]
  simp only[h2]
 ·have r9:fm R w=false->∀ f:Nat->Value,K (.υ []) [cV R w (.int Z R.ep) (ξ R.ch) (ai T) (ξ false) (γ (f 14)) (γ (f 15)) (.ae none) (.sl 1 0 (nO R)) (.sl 2 0 (yD R).length),rO R,ζ 70 7 (yD R)]:=fun h f=>fin (QI fP.2 h) (by
   unfold aF
   refine⟨f 14,f 15,T,hT,?_⟩
   simp only[nD,rD,qR]
   rfl)
  refine⟨fun e1 f=>r9 (by simp [fm,show dS R w=false by simpa using e1]) f,fun e1=>⟨fun e2 f=>r9 (by simp [fm,e2]) f,fun e2=>⟨fun e3=>⟨fun e4 f=>r9 (by simp [fm,e4,show R.ep=0 by simpa using e3]) f,fun e4=>At.mk' ⟨(),fP.2,by simp [fm,e2,e4,show dS R w=true by simpa using e1]⟩ rfl⟩,fun e3=>At.mk' ⟨(),fP.2,by simp [fm,e2,show ¬ R.ep=0 by simpa using e3,show dS R w=true by simpa using e1]⟩ rfl⟩⟩⟩
 ·have e1:(R.ep != w.ve)=true:=e1
  simp only[e1,Bool.or_true]
  try rfl
 ·have e1:(R.ep != w.ve)=false:=e1
  have e2:R.ep=w.ve:=by simpa using e1
  simp only[e2,bne_self_eq_false,Bool.or_false]
  try rfl
 ·simp [jQ]
  try rfl
 ·rintro⟨i,Ek,hg⟩
  refine⟨fun hlt=>?_,fun hlt=>?_⟩
  ·have hlt:i<(bA R.me w.mem w.aL).length:=by simpa using hlt
   have da:(fC R.me w.mem w.aL)[i]? =(bA R.me w.mem w.aL)[i]?:=Ga hlt
   refine⟨yX (by simpa using hlt),[dn Z (bA R.me w.mem w.aL)[i]],?_,(bA R.me w.mem w.aL)[i],rfl,fun f=>⟨?_,⟨?_⟩,R.c,R.t,⟨rfl,hR.cl,hR.cb⟩,hT,⟨by simp [bP]⟩,Nx.mk' ⟨i+1,hlt,hg⟩ ?_ ?_⟩⟩
   ·simp only[dr,cL]
    rw[ints_getElem?,da,bx hlt];rfl
   ·simp [jQ,nO];omega
   ·simp [nO];omega
   ·have wz:=bR (n:=(i:Int)+1) (by omega) (by omega)
    have eh:jQ ((bA R.me w.mem w.aL).take (i+1)) R w=jQ ((bA R.me w.mem w.aL).take i) R w++[kY (bA R.me w.mem w.aL)[i] R.id w.ve R.nu R.c R.t]:=by
     unfold jQ
     rw[jY,bx hlt,jC];rfl
    simp only[wz]
    simp [eh,kY,fc,dn,ints,cV]
    first
     |omega
     |exact⟨by omega,rfl⟩
     |exact⟨by omega,rfl,rfl⟩
   ·show(bA R.me w.mem w.aL).length - (i+1)<(bA R.me w.mem w.aL).length - i
    omega
  ·have hi2:i=(bA R.me w.mem w.aL).length:=by
    have:¬ i<(bA R.me w.mem w.aL).length:=by simpa using hlt
    omega
   subst hi2
   refine fin (QH hg.1 hg.2) ?_
   unfold aF
   refine⟨[],[],T,px,px,hT,?_⟩
   simp only[nD,rD,qR]
   simp [cR,cV,jQ,kY,fc,fW,dn,bD,h_,ints,Function.comp_def]
theorem acK (R:φ) (T:ML) (I Q:ML) (L:dx) (w:Vw) (hT:bG T R.t) (hl:R.ld=some L) (hR:c8 R) (hw:w.mem.length+w.aL.length<=1000) (hroom:R.out.length+(bA R.me w.mem w.aL).length<=100000) (hkb:aF R [cR R (ai T) (ξ true) (.mp 1) (.mp 2) (.ae (L.cur.map bn)) (.sl 3 0 (nO R)) (.sl 4 0 (nD R)),af I,af Q,rO R,rD R]) (K:V->KB->Prop) (hK:∀ kb',aF (gi R w) kb'->K (.υ []) kb'):aO Tryz.prog uN (QN R T I Q (L.cur.map bn) w) 15 [ac 0 0,.agg [.int Z w.vi,.int Z w.vv,.int Z w.ve,an (.sl 1 (ints Z w.mem)),an (.sl 1 (ints Z w.aL))]] [cR R (ai T) (ξ true) (.mp 1) (.mp 2) (.ae (L.cur.map bn)) (.sl 3 0 (nO R)) (.sl 4 0 (nD R)),af I,af Q,rO R,rD R] (fD 13 dW K):=by
 have fin:∀{R':φ} {kb':KB},gi R w=R'->aF R' kb'->K (.υ []) kb':=fun{R' kb'} h1 h2=>by
  have:=hK kb'
  rw[h1]at this
  exact this h2
 have h5:dm (w.mem.length+w.aL.length):=⟨by omega⟩
 have hdl:(ι bo R.done).length<=1000000:=by rw[cg];have:=hR.dl;omega
 have lw:eL R=true:=by simp [eL,hl]
 have mC:L.cur.map bn=(cm R).map bn:=by simp [cm,hl]
 have rF:w.mem.length<=1000000:=by omega
 have hlj:w.aL.length<=1000000:=by omega
 refine acD R T I Q (L.cur.map bn) w K ⟨⟨fun _=>?_,fun e0=>At.mk' () ?_⟩,fun _=>⟨⟨fun e1=>fin (oJ (Lb (by simpa using e1))) hkb,fun e1=>⟨fun e2=>fin (oJ (tf (.inl (by simpa using e2)))) hkb,fun e2=>⟨fun e3=>fin (oJ (tf (.inr (.inl (by simpa using e3))))) hkb,fun e3=>⟨fun e4=>fin (oJ (tf (.inr (.inr (by simpa using e4))))) hkb,fun e4=>⟨fun e5=>⟨fun _=>fin (oJ (go_eq (by simpa using e5) (.inl lw))) hkb,fun f=>(by cases f)⟩,fun e5=>At.mk' ⟨(),DR (by simpa using e1) (by simpa using e2) (by simpa using e3) (by simpa using e4) (fun h=>absurd h (by simpa using e5))⟩ rfl⟩⟩⟩⟩⟩,fun fP f=>⟨rfl,⟨hdl⟩,cm R,mC,⟨by simp [bP]⟩,⟨⟨⟨by rw[be];exact rF⟩,⟨by rw[be];exact hlj⟩,At.mk' fP rfl⟩,⟨by rw[be];exact rF⟩,⟨by rw[be];exact hlj⟩,At.mk' fP rfl⟩,fun fP=>⟨?_,fun o6=>⟨⟨fun e1=>At.mk' ⟨(),o6.2⟩ ?_,fun e1=>At.mk' ⟨(),o6.2⟩ ?_⟩,fun _ f=>⟨w.mem,w.aL,rfl,rfl,h5,⟨by simp [bP]⟩,At.mk' ⟨0,bF _,o6.2⟩ ?_,?_⟩⟩⟩⟩⟩⟩
 ·cases hm:w.mem with
  |nil=>rename_i e0;rw[hm]at e0;simp [ints]at e0
  |cons b l=>
   refine⟨gp _,[dn Z b],by simp [ints,dn],b,rfl,At.mk' () ?_⟩
   have:dS R w=(b == R.me):=by simp [dS,hm]
   simp only[this,hm]
 ·have:w.mem=[]:=by
   cases hm:w.mem with
   |nil=>rfl
   |cons b l=>rw[hm]at e0;simp [ints]at e0
  have h2:dS R w=false:=by simp [dS,this]
  simp only[h2]
 ·have r9:fm R w=false->∀ f:Nat->Value,K (.υ []) [cV R w (.int Z R.ep) (ξ R.ch) (ai T) (ξ false) (γ (f 14)) (γ (f 15)) (.ae none) (.sl 1 0 (nO R)) (.sl 2 0 (yD R).length),rO R,ζ 70 7 (yD R)]:=fun h f=>fin (QI fP.2 h) (by
   unfold aF
   refine⟨f 14,f 15,T,hT,?_⟩
   simp only[nD,rD,qR]
   rfl)
  refine⟨fun e1 f=>r9 (by simp [fm,show dS R w=false by simpa using e1]) f,fun e1=>⟨fun e2 f=>r9 (by simp [fm,e2]) f,fun e2=>⟨fun e3=>⟨fun e4 f=>r9 (by simp [fm,e4,show R.ep=0 by simpa using e3]) f,fun e4=>At.mk' ⟨(),fP.2,by simp [fm,e2,e4,show dS R w=true by simpa using e1]⟩ rfl⟩,fun e3=>At.mk' ⟨(),fP.2,by simp [fm,e2,show ¬ R.ep=0 by simpa using e3,show dS R w=true by simpa using e1]⟩ rfl⟩⟩⟩
 ·have e1:(R.ep != w.ve)=true:=e1
  simp only[e1,Bool.or_true]
  try rfl
 ·have e1:(R.ep != w.ve)=false:=e1
  have e2:R.ep=w.ve:=by simpa using e1
  simp only[e2,bne_self_eq_false,Bool.or_false]
  try rfl
 ·simp [jQ]
  try rfl
 ·rintro⟨i,Ek,hg⟩
  refine⟨fun hlt=>?_,fun hlt=>?_⟩
  ·have hlt:i<(bA R.me w.mem w.aL).length:=by simpa using hlt
   have da:(fC R.me w.mem w.aL)[i]? =(bA R.me w.mem w.aL)[i]?:=Ga hlt
   refine⟨yX (by simpa using hlt),[dn Z (bA R.me w.mem w.aL)[i]],?_,(bA R.me w.mem w.aL)[i],rfl,fun f=>⟨?_,⟨?_⟩,R.c,R.t,⟨rfl,hR.cl,hR.cb⟩,hT,⟨by simp [bP]⟩,Nx.mk' ⟨i+1,hlt,hg⟩ ?_ ?_⟩⟩
   ·simp only[dr,cL]
    rw[ints_getElem?,da,bx hlt];rfl
   ·simp [jQ,nO];omega
   ·simp [nO];omega
   ·have wz:=bR (n:=(i:Int)+1) (by omega) (by omega)
    have eh:jQ ((bA R.me w.mem w.aL).take (i+1)) R w=jQ ((bA R.me w.mem w.aL).take i) R w++[kY (bA R.me w.mem w.aL)[i] R.id w.ve R.nu R.c R.t]:=by
     unfold jQ
     rw[jY,bx hlt,jC];rfl
    simp only[wz]
    simp [eh,kY,fc,dn,ints,cV]
    first
     |omega
     |exact⟨by omega,rfl⟩
     |exact⟨by omega,rfl,rfl⟩
   ·show(bA R.me w.mem w.aL).length - (i+1)<(bA R.me w.mem w.aL).length - i
    omega
  ·have hi2:i=(bA R.me w.mem w.aL).length:=by
    have:¬ i<(bA R.me w.mem w.aL).length:=by simpa using hlt
    omega
   subst hi2
   refine fin (QH hg.1 hg.2) ?_
   unfold aF
   refine⟨[],[],T,px,px,hT,?_⟩
   simp only[nD,rD,qR]
   simp [cR,cV,jQ,kY,fc,fW,dn,bD,h_,ints,Function.comp_def]
def Ry:aH:=fun args kb K=>∃ R w,args=[ac 0 0,.agg [.int Z w.vi,.int Z w.vv,.int Z w.ve,an (.sl 1 (ints Z w.mem)),an (.sl 1 (ints Z w.aL))]]/\aF R kb/\c8 R/\w.mem.length+w.aL.length<=1000/\R.out.length+(bA R.me w.mem w.aL).length<=100000/\∀ kb',aF (gi R w) kb'->K (.υ []) kb'
theorem Yn:fw Tryz.prog 15 Ry:=rS mixed 13 dW (fun args kb K h=>by
 obtain⟨R,w,rfl,hkb,hR,hw,hroom,hK⟩:=h
 have gN:=hkb
 unfold aF at hkb
 split at hkb
 ·rename_i hl
  obtain⟨χ,ψ,T,hT,rfl⟩:=hkb
  exact⟨_,_,Jl,acL R T χ ψ w hT hl hR hw hroom (fun a b=>by unfold aF;simp only[hl];exact⟨a,b,T,hT,rfl⟩) K hK⟩
 ·rename_i L hl
  obtain⟨I,Q,T,hI,hQ,hT,rfl⟩:=hkb
  exact⟨_,_,Jl,acK R T I Q L w hT hl hR hw hroom gN K hK⟩)
def bV (m:ei) (i:Nat):Int:=m.n.getD i 0
def jJ (b:List Int):Option (List Int):=match em b with | some c=>if c.length=128 then some c else none | none=>none
open Classical in
noncomputable def loadT (b:List Int):Option (List L3):=if h:∃ x,fx x/\b=bb x then some h.choose else none
noncomputable def iP (R:φ) (fr:Int) (m:ei):φ:=
 if bV m 1<R.ep∨bV m 1=R.ep/\(bV m 2<R.nu∨eL R=true)∨m.l.length≠1 then oz R fr else
 match jJ m.b,loadT (m.l.getD 0 [])with
 |some c,some t=>gw {gk R with ep:=bV m 1,nu:=bV m 2,c:=c,t:=t,ch:=true } fr 11 [bV m 2] [] []
 |_,_=>R
def mark (f:Int->Bool) (k:Int) (v:Bool):Int->Bool:=fun n=>if n=k then v else f n
def ik (R:φ) (fr:Int) (m:ei):φ:=match R.ld with
 |none=>R
 |some L=>if bV m 1≠R.ep∨bV m 2≠R.nu then R else match L.cur with
  |none=>{R with ld:=some ⟨mark L.ins fr true,L.dR,none⟩ }
  |some o=>fN {R with ld:=some ⟨mark L.ins fr true,mark L.dR fr true,some o⟩ }
def zI (m:ei):Op:=⟨bV m 3,bV m 4,bV m 5,bV m 6,m.b⟩
def iN (R:φ) (fr:Int) (m:ei):φ:=
 if bV m 1=R.ep/\bV m 2=R.nu/\eL R=false then gw R fr 13 [R.nu] [] []
 else if bV m 1=R.ep/\bV m 2=R.nu+1/\eL R=false/\gg (zI m)=true/\(bV m 5≠4∨dy R.c=bV m 7)then gw (iE R (zI m)) fr 13 [R.nu+1] [] []
 else oz R fr
def ia (R:φ) (fr:Int) (m:ei):φ:=match R.ld with
 |none=>R
 |some L=>match L.cur with
  |none=>R
  |some o=>if bV m 1=R.ep/\bV m 2=R.nu then fN {R with ld:=some ⟨L.ins,mark L.dR fr true,some o⟩ }else R
def ic (R:φ) (fr:Int) (m:ei):φ:=match R.ld with
 |none=>R
 |some L=>if R.ep<bV m 1 then gk R else if bV m 1=R.ep/\R.nu<bV m 2 then gk {R with lo:=true }
  else oE {R with ld:=some {L with ins:=mark L.ins fr false } } fr
def hJ (kd:Int):Nat:=if kd=12 then 8 else 3
def cw (R:φ) (fr:Int) (m:ei):Bool:=decide (10<=m.kd/\m.kd<=14/\m.n.length=hJ m.kd/\bV m 0=R.id/\fr≠R.me) && !m.n.any cM
noncomputable def gu (R:φ) (fr:Int) (m:ei):φ:=
 if cw R fr m=false then R
 else if m.kd=10 then iP R fr m else if m.kd=11 then ik R fr m else if m.kd=12 then iN R fr m else if m.kd=13 then ia R fr m else ic R fr m
def bL (ls:List (List Int)):List (List D):=ls.map fun x=>[.sl 1 (ints θ x)]
def iO (R:φ) (q1 q2:Int) (ls:List (List Int)):Prop:=q1<R.ep∨q1=R.ep/\(q2<R.nu∨eL R=true)∨ls.length≠1
structure wZ (b:List Int) (is:Bool) (cc:List Int):Prop where
 c1:is=true->jJ b=some cc
 c0:is=false->jJ b=none
structure wY (b y:List Int) (is ok:Bool) (cc:List Int) (x:List L3) (M:ML):Prop where
 c1:is=true->jJ b=some cc
 c0:is=false->jJ b=none
 t1:ok=true->loadT y=some x/\bG M x
 t0:ok=false->loadT y=none
abbrev G_ (R:φ) (T:ML) (χ ψ:Value) (fr kd q0 q1 q2:Int) (b:List Int) (ls:List (List Int)):LI where
 α:={_u:Unit // ¬ iO R q1 q2 ls}
 live:=[0,1,5,6,7]
 st _:=([ac 0 0,.int Z fr,ac 3 0,.int Z q1,.int Z q2],[cR R (ai T) (ξ false) (γ χ) (γ ψ) (.ae none) (.sl 1 0 (nO R)) (.sl 2 0 (nD R)),rO R,rD R,ω [.int Z kd,an (.sl 1 [[dn Z q0],[dn Z q1],[dn Z q2]]),an (.sl 1 (ints θ b)),an (.sl 1 (bL ls))]])
 μ _:=0
abbrev Hb (R:φ) (T:ML) (χ ψ:Value) (fr kd q0 q1 q2:Int) (b:List Int) (ls:List (List Int)):LI where
 α:={p:Bool×List Int // ¬ iO R q1 q2 ls/\wZ b p.1 p.2}
 live:=[0,1,5,6,7,8,9]
 st i:=([ac 0 0,.int Z fr,ac 3 0,.int Z q1,.int Z q2,ac 4 0,ξ i.1.1],[cR R (ai T) (ξ false) (γ χ) (γ ψ) (.ae none) (.sl 1 0 (nO R)) (.sl 2 0 (nD R)),rO R,rD R,ω [.int Z kd,an (.sl 1 [[dn Z q0],[dn Z q1],[dn Z q2]]),an (.sl 1 (ints θ b)),an (.sl 1 (bL ls))],ω [bc 128 (aK θ i.1.2)]])
 μ _:=0
abbrev P4 (R:φ) (T:ML) (χ ψ:Value) (fr kd q0 q1 q2:Int) (b:List Int) (ls:List (List Int)) (cc:List Int) (M:ML):LI where
 α:=Unit
 live:=[0,1,7]
 st _:=([ac 0 0,.int Z fr,.int Z q2],[cG R (ξ R.lo) (.int Z q1) (.int Z q2) (bc 128 (aK θ cc)) (ξ true) (ai M) (ξ false) (γ χ) (γ ψ) (.ae none) (.sl 1 0 (nO R)) (.sl 3 0 (yD R).length),rO R,ο,ζ 70 7 (yD R)])
 μ _:=0
abbrev Hd (R:φ) (T:ML) (χ ψ:Value) (fr kd q0 q1 q2:Int) (b:List Int) (ls:List (List Int)):LI where
 α:={p:Bool×Bool×List Int×List L3×ML // ¬ iO R q1 q2 ls/\wY b (ls.getD 0 []) p.1 p.2.1 p.2.2.1 p.2.2.2.1 p.2.2.2.2}
 live:=[0,1,6,7,8,9,10,11]
 dN:=[.mG 4 0 [Z] false true 2]
 st i:=([ac 0 0,.int Z fr,.int Z q1,.int Z q2,ac 3 0,ξ i.1.1,ac 4 0,ξ i.1.2.1],[cR R (ai T) (ξ false) (γ χ) (γ ψ) (.ae none) (.sl 1 0 (nO R)) (.sl 2 0 (nD R)),rO R,rD R,ω [bc 128 (aK θ i.1.2.2.1)],ω [ai i.1.2.2.2.2]])
 μ _:=0
 sub i r:=match r with
  | 1009=>some (P4 R T χ ψ fr kd q0 q1 q2 b ls i.1.2.2.1 i.1.2.2.2.2)
  |_=>none
def P6 (R:φ) (T:ML) (χ ψ:Value) (fr kd q0 q1 q2:Int) (b:List Int) (ls:List (List Int)):Nat->Option LI
 | 1004=>some (G_ R T χ ψ fr kd q0 q1 q2 b ls)
 | 1005=>some (Hb R T χ ψ fr kd q0 q1 q2 b ls)
 | 1006=>some (Hd R T χ ψ fr kd q0 q1 q2 b ls)
 |_=>none
abbrev G9 (R:φ) (T:ML) (I Q:ML) (u:Option (List D)) (fr kd q0 q1 q2:Int) (b:List Int) (ls:List (List Int)):LI where
 α:={_u:Unit // ¬ iO R q1 q2 ls}
 live:=[0,1,5,6,7]
 st _:=([ac 0 0,.int Z fr,ac 5 0,.int Z q1,.int Z q2],[cR R (ai T) (ξ true) (.mp 1) (.mp 2) (.ae u) (.sl 3 0 (nO R)) (.sl 4 0 (nD R)),af I,af Q,rO R,rD R,ω [.int Z kd,an (.sl 1 [[dn Z q0],[dn Z q1],[dn Z q2]]),an (.sl 1 (ints θ b)),an (.sl 1 (bL ls))]])
 μ _:=0
abbrev Ha (R:φ) (T:ML) (I Q:ML) (u:Option (List D)) (fr kd q0 q1 q2:Int) (b:List Int) (ls:List (List Int)):LI where
 α:={p:Bool×List Int // ¬ iO R q1 q2 ls/\wZ b p.1 p.2}
 live:=[0,1,5,6,7,8,9]
 st i:=([ac 0 0,.int Z fr,ac 5 0,.int Z q1,.int Z q2,ac 6 0,ξ i.1.1],[cR R (ai T) (ξ true) (.mp 1) (.mp 2) (.ae u) (.sl 3 0 (nO R)) (.sl 4 0 (nD R)),af I,af Q,rO R,rD R,ω [.int Z kd,an (.sl 1 [[dn Z q0],[dn Z q1],[dn Z q2]]),an (.sl 1 (ints θ b)),an (.sl 1 (bL ls))],ω [bc 128 (aK θ i.1.2)]])
 μ _:=0
abbrev P0 (R:φ) (T:ML) (I Q:ML) (u:Option (List D)) (fr kd q0 q1 q2:Int) (b:List Int) (ls:List (List Int)) (cc:List Int) (M:ML):LI where
 α:=Unit
 live:=[0,1,7]
 st _:=([ac 0 0,.int Z fr,.int Z q2],[cG R (ξ R.lo) (.int Z q1) (.int Z q2) (bc 128 (aK θ cc)) (ξ true) (ai M) (ξ false) (.mp 1) (.mp 2) (.ae none) (.sl 3 0 (nO R)) (.sl 5 0 (yD R).length),af I,af Q,rO R,ο,ζ 70 7 (yD R)])
 μ _:=0
abbrev Hc (R:φ) (T:ML) (I Q:ML) (u:Option (List D)) (fr kd q0 q1 q2:Int) (b:List Int) (ls:List (List Int)):LI where
 α:={p:Bool×Bool×List Int×List L3×ML // ¬ iO R q1 q2 ls/\wY b (ls.getD 0 []) p.1 p.2.1 p.2.2.1 p.2.2.2.1 p.2.2.2.2}
 live:=[0,1,6,7,8,9,10,11]
 dN:=[.mG 6 0 [Z] false true 2]
 st i:=([ac 0 0,.int Z fr,.int Z q1,.int Z q2,ac 5 0,ξ i.1.1,ac 6 0,ξ i.1.2.1],[cR R (ai T) (ξ true) (.mp 1) (.mp 2) (.ae u) (.sl 3 0 (nO R)) (.sl 4 0 (nD R)),af I,af Q,rO R,rD R,ω [bc 128 (aK θ i.1.2.2.1)],ω [ai i.1.2.2.2.2]])
 μ _:=0
 sub i r:=match r with
  | 1009=>some (P0 R T I Q u fr kd q0 q1 q2 b ls i.1.2.2.1 i.1.2.2.2.2)
  |_=>none
def P5 (R:φ) (T:ML) (I Q:ML) (u:Option (List D)) (fr kd q0 q1 q2:Int) (b:List Int) (ls:List (List Int)):Nat->Option LI
 | 1004=>some (G9 R T I Q u fr kd q0 q1 q2 b ls)
 | 1005=>some (Ha R T I Q u fr kd q0 q1 q2 b ls)
 | 1006=>some (Hc R T I Q u fr kd q0 q1 q2 b ls)
 |_=>none
def Ft:FuncId->Option dw
 | 110=>some ⟨[],dK [true,false,true,true,false,false,false,true,true,true,true,true,true,true,true,true,true,true,true,true,false,true] BB⟩
 | 33=>some ⟨[],uB⟩
 | 34=>some ⟨[],xe⟩
 | 42=>some ⟨[],dK [true,true,true,true,true,true,false,true,true,true,true,true,true,false,true,true,false,true,true,true,true,false] xK⟩
 | 52=>some ⟨[],xp⟩
 | 49=>some ⟨[],dK [true,true,true,true,true,true,false,true,true,true,true,true,true,true,true,true,true,true,true,true,true,true] uC⟩
 | 56=>some ⟨[],dK [true,true,true,true,true,false,false,false,true,true,true,true,true,true,true,true,true,true,false,true,true,true] xl⟩
 | 58=>some ⟨[],dK [false,true,true,true,true,true,false,true,true,true,true,false,false,true,true,false,false,true,true,true,true,false] xm⟩
 | 45=>some ⟨[],dK [true,false,true,true,false,false,false,false,true,true,true,true,true,true,true,true,true,true,true,true,false,true] uF⟩
 | 75=>some ⟨[.kM,.kM,.kM,.eB 1,.eB 1,.eB 1],dK [true,false,true,true,false,true,false,true,true,true,true,true,true,true,true,true,true,true,true,true,false,true] xD⟩
 |_=>none
noncomputable def iC:bM:=dF Tryz.prog Ft aM 10
theorem acu (R:φ) (T:ML) (χ ψ:Value) (fr kd q0 q1 q2:Int) (b:List Int) (ls:List (List Int)) (K:V->KB->Prop) (ay:
 let aq:=ζ 107 5 (ι bD R.out++[[dn Z fr,η (κ Z 14),π 1 [[dn Z R.id],[dn Z R.ep],[dn Z R.nu]],π 1 [],π 1 []]]);let gy:=[[dn Z q0],[dn Z q1],[dn Z q2]];let bB:=[δ Z kd,an (π 1 gy),an (π 1 (ints θ b)),an (π 1 (bL ls))];let ft:KB:=[cR R (ai T) (ξ false) (γ χ) (γ ψ) (aG none) (ε 1 0 (nO R)) (ε 2 0 (nD R)),rO R,rD R,ω bB];aQ 1/\
 ∃(y1:List D),gy[1]? =some y1/\
 ∃(y2:Int),y1[0]? =some (η (κ Z y2))/\
 aQ 2/\
 ∃(y3:List D),gy[2]? =some y3/\
 ∃(y4:Int),y3[0]? =some (η (κ Z y4))/\
 ((decide (y2<R.ep)=true->
 ∀(y5:Nat->
 Value),nO R=(nO R)/\
 bN (nO R)/\
 bu y5 [0,2,3,7,8,9,10,11,12,13,14,15,16,17,18,19,21]/\
 ∀(y6:Nat->
 Value),K (ar []) [cR R (ai T) (ξ false) (γ (y6 14)) (γ (y6 15)) (aG none) (ε 1 0 (nO R+1)) (ε 2 0 (nD R)),aq,rD R])/\
 (decide (y2<R.ep)=false->
 ((y2 == R.ep)=true->
 (decide (y4<R.nu)=true->
 ∀(y7:Nat->
 Value),nO R=(nO R)/\
 bN (nO R)/\
 bu y7 [0,2,3,7,8,9,10,11,12,13,14,15,16,17,18,19,21]/\
 ∀(y8:Nat->
 Value),K (ar []) [cR R (ai T) (ξ false) (γ (y8 14)) (γ (y8 15)) (aG none) (ε 1 0 (nO R+1)) (ε 2 0 (nD R)),aq,rD R])/\
 (decide (y4<R.nu)=false->
 (false=true->
 ∀(y9:Nat->
 Value),nO R=(nO R)/\
 bN (nO R)/\
 bu y9 [0,2,3,7,8,9,10,11,12,13,14,15,16,17,18,19,21]/\
 ∀(cq:Nat->
 Value),K (ar []) [cR R (ai T) (ξ false) (γ (cq 14)) (γ (cq 15)) (aG none) (ε 1 0 (nO R+1)) (ε 2 0 (nD R)),aq,rD R])/\
 (false=false->
 (((↑(bL ls).length:Int) != 1)=true->
 ∀(b_:Nat->
 Value),nO R=(nO R)/\
 bN (nO R)/\
 bu b_ [0,2,3,7,8,9,10,11,12,13,14,15,16,17,18,19,21]/\
 ∀(ca:Nat->
 Value),K (ar []) [cR R (ai T) (ξ false) (γ (ca 14)) (γ (ca 15)) (aG none) (ε 1 0 (nO R+1)) (ε 2 0 (nD R)),aq,rD R])/\
 (((↑(bL ls).length:Int) != 1)=false->
 At (G_ R T χ ψ fr kd q0 q1 q2 b ls) ([ac 0 0,δ Z fr,ac 3 0,δ Z y2,δ Z y4],ft)))))/\
 ((y2 == R.ep)=false->
 (((↑(bL ls).length:Int) != 1)=true->
 ∀(cf:Nat->
 Value),nO R=(nO R)/\
 bN (nO R)/\
 bu cf [0,2,3,7,8,9,10,11,12,13,14,15,16,17,18,19,21]/\
 ∀(cE:Nat->
 Value),K (ar []) [cR R (ai T) (ξ false) (γ (cE 14)) (γ (cE 15)) (aG none) (ε 1 0 (nO R+1)) (ε 2 0 (nD R)),aq,rD R])/\
 (((↑(bL ls).length:Int) != 1)=false->
 At (G_ R T χ ψ fr kd q0 q1 q2 b ls) ([ac 0 0,δ Z fr,ac 3 0,δ Z y2,δ Z y4],ft)))))/\
 ∀(eZ:{cj:Unit // ¬iO R q1 q2 ls}),let dP:=ω bB;let gJ:=cR R (ai T) (ξ false) (γ χ) (γ ψ) (aG none) (ε 1 0 (nO R)) (ε 2 0 (nD R));(∃(cJ:List Int),ints θ b=ints θ cJ/\
 (∀(eu:Int),ct eu cJ->
 0<=eu/\
 eu<256)/\
 cJ.length<=900000/\
 (∀(eF:List Int),em cJ=some eF->
 eF.length=128->
 At (Hb R T χ ψ fr kd q0 q1 q2 b ls) ([ac 0 0,δ Z fr,ac 3 0,δ Z q1,δ Z q2,ac 4 0,ξ true],[gJ,rO R,rD R,dP,ω [bc 128 (aK θ eF)]]))/\
 ((∀(eS:List Int),em cJ=some eS->
 eS.length=128->
 False)->
 At (Hb R T χ ψ fr kd q0 q1 q2 b ls) ([ac 0 0,δ Z fr,ac 3 0,δ Z q1,δ Z q2,ac 4 0,ξ false],[gJ,rO R,rD R,dP,ω [bc 128 (cQ 128 (η (κ θ 0)))]])))/\
 ∀(eG:{dO:Bool×List Int // ¬iO R q1 q2 ls/\
 wZ b dO.fst dO.snd}),let cK:=cR R (ai T) (ξ false) (γ χ) (γ ψ) (aG none) (ε 1 0 (nO R)) (ε 2 0 (nD R));(aQ 0/\
 ∃(gH:List D),(bL ls)[0]? =some gH/\
 ∃(fq:List (List D)),gH[0]? =some (π 1 fq)/\
 ∃(dY:List Int),fq=ints θ dY/\
 (∀(cU:Int),ct cU dY->
 0<=cU/\
 cU<256)/\
 dY.length<=140737488355328/\
 (((∃(dH:List L3),fx dH/\
 dY=bb dH)->
 False)->
 At (Hd R T χ ψ fr kd q0 q1 q2 b ls) ([ac 0 0,δ Z fr,δ Z q1,δ Z q2,ac 3 0,ξ eG.val.fst,ac 4 0,ξ false],[cK,rO R,rD R,ω [bc 128 (aK θ eG.val.snd)],ω [ai []]]))/\
 ∀(dc:List L3) (iR:ML),bG iR dc->
 dY=bb dc->
 At (Hd R T χ ψ fr kd q0 q1 q2 b ls) ([ac 0 0,δ Z fr,δ Z q1,δ Z q2,ac 3 0,ξ eG.val.fst,ac 4 0,ξ true],[cK,rO R,rD R,ω [bc 128 (aK θ eG.val.snd)],ω [ai iR]]))/\
 ∀(di:{gj:Bool×Bool×List Int×List L3×ML // ¬iO R q1 q2 ls/\
 wY b (ls.getD 0 []) gj.fst gj.snd.fst gj.snd.snd.fst gj.snd.snd.snd.fst gj.snd.snd.snd.snd}),let dj:=(P4 R T χ ψ fr kd q0 q1 q2 b ls di.val.snd.snd.fst di.val.snd.snd.snd.snd);let dD:=[ac 0 0,δ Z fr,δ Z q2];let eT:=(bc 128 (aK θ di.val.snd.snd.fst));((!di.val.fst)=true->
 ∀(iS:Nat->
 Value),K (ar []) [cR R (ai T) (ξ false) (γ (iS 14)) (γ (iS 15)) (aG none) (ε 1 0 (nO R)) (ε 2 0 (nD R)),rO R,rD R])/\
 ((!di.val.fst)=false->
 ((!di.val.snd.fst)=true->
 ∀(ji:Nat->
 Value),K (ar []) [cR R (ai T) (ξ false) (γ (ji 14)) (γ (ji 15)) (aG none) (ε 1 0 (nO R)) (ε 2 0 (nD R)),rO R,rD R])/\
 ((!di.val.snd.fst)=false->
 ∀(iT:Nat->
 Value),nD R=(nD R)/\
 bN (nD R)/\
 ∃(dC:Option Op),none=jZ bn dC/\
 bu iT [0,1,2,3,4,5,7,8,9,10,11,12,14,15,17,18,19,20]/\
 ((At dj (dD,[cG R (ξ R.lo) (δ Z q1) (δ Z q2) eT (ξ true) (ai di.val.snd.snd.snd.snd) (ξ false) (γ χ) (γ ψ) (aG none) (ε 1 0 (nO R)) (ε 3 0 (ι bo R.done++yl dC).length),rO R,ο,ζ 70 7 (ι bo R.done++yl dC)])/\
 At dj (dD,[cG R (ξ R.lo) (δ Z q1) (δ Z q2) eT (ξ true) (ai di.val.snd.snd.snd.snd) (ξ false) (γ χ) (γ ψ) (aG none) (ε 1 0 (nO R)) (ε 3 0 (ι bo R.done++yl dC).length),rO R,ο,ζ 70 7 (ι bo R.done++yl dC)])/\
 At dj (dD,[cG R (ξ R.lo) (δ Z q1) (δ Z q2) eT (ξ true) (ai di.val.snd.snd.snd.snd) (ξ false) (γ χ) (γ ψ) (aG none) (ε 1 0 (nO R)) (ε 3 0 (ι bo R.done++yl dC).length),rO R,ο,ζ 70 7 (ι bo R.done++yl dC)])/\
 At dj (dD,[cG R (ξ R.lo) (δ Z q1) (δ Z q2) eT (ξ true) (ai di.val.snd.snd.snd.snd) (ξ false) (γ χ) (γ ψ) (aG none) (ε 1 0 (nO R)) (ε 3 0 (ι bo R.done++yl dC).length),rO R,ο,ζ 70 7 (ι bo R.done++yl dC)]))/\
 (At dj (dD,[cG R (ξ R.lo) (δ Z q1) (δ Z q2) eT (ξ true) (ai di.val.snd.snd.snd.snd) (ξ false) (γ χ) (γ ψ) (aG none) (ε 1 0 (nO R)) (ε 3 0 (ι bo R.done++yl dC).length),rO R,ο,ζ 70 7 (ι bo R.done++yl dC)])/\
 At dj (dD,[cG R (ξ R.lo) (δ Z q1) (δ Z q2) eT (ξ true) (ai di.val.snd.snd.snd.snd) (ξ false) (γ χ) (γ ψ) (aG none) (ε 1 0 (nO R)) (ε 3 0 (ι bo R.done++yl dC).length),rO R,ο,ζ 70 7 (ι bo R.done++yl dC)])/\
 At dj (dD,[cG R (ξ R.lo) (δ Z q1) (δ Z q2) eT (ξ true) (ai di.val.snd.snd.snd.snd) (ξ false) (γ χ) (γ ψ) (aG none) (ε 1 0 (nO R)) (ε 3 0 (ι bo R.done++yl dC).length),rO R,ο,ζ 70 7 (ι bo R.done++yl dC)]))/\
 (At dj (dD,[cG R (ξ R.lo) (δ Z q1) (δ Z q2) eT (ξ true) (ai di.val.snd.snd.snd.snd) (ξ false) (γ χ) (γ ψ) (aG none) (ε 1 0 (nO R)) (ε 3 0 (ι bo R.done++yl dC).length),rO R,ο,ζ 70 7 (ι bo R.done++yl dC)])/\
 At dj (dD,[cG R (ξ R.lo) (δ Z q1) (δ Z q2) eT (ξ true) (ai di.val.snd.snd.snd.snd) (ξ false) (γ χ) (γ ψ) (aG none) (ε 1 0 (nO R)) (ε 3 0 (ι bo R.done++yl dC).length),rO R,ο,ζ 70 7 (ι bo R.done++yl dC)])/\
 At dj (dD,[cG R (ξ R.lo) (δ Z q1) (δ Z q2) eT (ξ true) (ai di.val.snd.snd.snd.snd) (ξ false) (γ χ) (γ ψ) (aG none) (ε 1 0 (nO R)) (ε 3 0 (ι bo R.done++yl dC).length),rO R,ο,ζ 70 7 (ι bo R.done++yl dC)]))/\
 (At dj (dD,[cG R (ξ R.lo) (δ Z q1) (δ Z q2) eT (ξ true) (ai di.val.snd.snd.snd.snd) (ξ false) (γ χ) (γ ψ) (aG none) (ε 1 0 (nO R)) (ε 3 0 (ι bo R.done++yl dC).length),rO R,ο,ζ 70 7 (ι bo R.done++yl dC)])/\
 At dj (dD,[cG R (ξ R.lo) (δ Z q1) (δ Z q2) eT (ξ true) (ai di.val.snd.snd.snd.snd) (ξ false) (γ χ) (γ ψ) (aG none) (ε 1 0 (nO R)) (ε 3 0 (ι bo R.done++yl dC).length),rO R,ο,ζ 70 7 (ι bo R.done++yl dC)]))/\
 At dj (dD,[cG R (ξ R.lo) (δ Z q1) (δ Z q2) eT (ξ true) (ai di.val.snd.snd.snd.snd) (ξ false) (γ χ) (γ ψ) (aG none) (ε 1 0 (nO R)) (ε 3 0 (ι bo R.done++yl dC).length),rO R,ο,ζ 70 7 (ι bo R.done++yl dC)])/\
 At dj (dD,[cG R (ξ R.lo) (δ Z q1) (δ Z q2) eT (ξ true) (ai di.val.snd.snd.snd.snd) (ξ false) (γ χ) (γ ψ) (aG none) (ε 1 0 (nO R)) (ε 3 0 (ι bo R.done++yl dC).length),rO R,ο,ζ 70 7 (ι bo R.done++yl dC)]))/\
 ∀(lN:Unit),1<=1/\
 ∀(k_:Nat->
 Value),nO R=(nO R)/\
 bN (nO R)/\
 bN 1/\
 bu k_ [0,2,3,5,7,8,9,10,11,12,13,14,15,16,17,18,19,21]/\
 ∀(iU:Nat->
 Value),K (ar []) [cG R (ξ R.lo) (δ Z q1) (δ Z q2) eT (ξ true) (ai di.val.snd.snd.snd.snd) (ξ false) (γ (iU 14)) (γ (iU 15)) (aG none) (ε 1 0 (nO R+1)) (ε 2 0 (yD R).length),ζ 107 5 (ι bD R.out++[[dn Z fr,η (κ Z 11),π 1 [[dn Z R.id],[dn Z q1],[η (κ Z q2)]],π 1 [],π 1 []]]),ζ 70 7 (yD R)]))
 ):aO Tryz.prog iC (P6 R T χ ψ fr kd q0 q1 q2 b ls) 87 [ac 0 0,.int Z fr,.agg [.int Z kd,an (.sl 1 [[dn Z q0],[dn Z q1],[dn Z q2]]),an (.sl 1 (ints θ b)),an (.sl 1 (bL ls))]] [cR R (ai T) (ξ false) (γ χ) (γ ψ) (.ae none) (.sl 1 0 (nO R)) (.sl 2 0 (nD R)),rO R,rD R] (fD 13 dW K):=by apply Eq.mp (a:=ay);kernel_rfl
theorem acs (R:φ) (T:ML) (I Q:ML) (u:Option (List D)) (fr kd q0 q1 q2:Int) (b:List Int) (ls:List (List Int)) (K:V->KB->Prop) (ay:
 let aq:KB:=[cR R (ai T) (ξ true) (aV 1) (aV 2) (aG u) (ε 3 0 (nO R+1)) (ε 4 0 (nD R)),af I,af Q,ζ 107 5 (ι bD R.out++[[dn Z fr,η (κ Z 14),π 1 [[dn Z R.id],[dn Z R.ep],[dn Z R.nu]],π 1 [],π 1 []]]),rD R];let gy:=[[dn Z q0],[dn Z q1],[dn Z q2]];let bB:=[δ Z kd,an (π 1 gy),an (π 1 (ints θ b)),an (π 1 (bL ls))];let ft:KB:=[cR R (ai T) (ξ true) (aV 1) (aV 2) (aG u) (ε 3 0 (nO R)) (ε 4 0 (nD R)),af I,af Q,rO R,rD R,ω bB];aQ 1/\
 ∃(y1:List D),gy[1]? =some y1/\
 ∃(y2:Int),y1[0]? =some (η (κ Z y2))/\
 aQ 2/\
 ∃(y3:List D),gy[2]? =some y3/\
 ∃(y4:Int),y3[0]? =some (η (κ Z y4))/\
 ((decide (y2<R.ep)=true->
 ∀(y5:Nat->
 Value),nO R=(nO R)/\
 bN (nO R)/\
 bu y5 [0,2,3,7,8,9,10,11,12,13,14,15,16,17,18,19,21]/\
 K (ar []) aq)/\
 (decide (y2<R.ep)=false->
 ((y2 == R.ep)=true->
 (decide (y4<R.nu)=true->
 ∀(y6:Nat->
 Value),nO R=(nO R)/\
 bN (nO R)/\
 bu y6 [0,2,3,7,8,9,10,11,12,13,14,15,16,17,18,19,21]/\
 K (ar []) aq)/\
 (decide (y4<R.nu)=false->
 (true=true->
 ∀(y7:Nat->
 Value),nO R=(nO R)/\
 bN (nO R)/\
 bu y7 [0,2,3,7,8,9,10,11,12,13,14,15,16,17,18,19,21]/\
 K (ar []) aq)/\
 (true=false->
 (((↑(bL ls).length:Int) != 1)=true->
 ∀(y8:Nat->
 Value),nO R=(nO R)/\
 bN (nO R)/\
 bu y8 [0,2,3,7,8,9,10,11,12,13,14,15,16,17,18,19,21]/\
 K (ar []) aq)/\
 (((↑(bL ls).length:Int) != 1)=false->
 At (G9 R T I Q u fr kd q0 q1 q2 b ls) ([ac 0 0,δ Z fr,ac 5 0,δ Z y2,δ Z y4],ft)))))/\
 ((y2 == R.ep)=false->
 (((↑(bL ls).length:Int) != 1)=true->
 ∀(y9:Nat->
 Value),nO R=(nO R)/\
 bN (nO R)/\
 bu y9 [0,2,3,7,8,9,10,11,12,13,14,15,16,17,18,19,21]/\
 K (ar []) aq)/\
 (((↑(bL ls).length:Int) != 1)=false->
 At (G9 R T I Q u fr kd q0 q1 q2 b ls) ([ac 0 0,δ Z fr,ac 5 0,δ Z y2,δ Z y4],ft)))))/\
 ∀(b_:{cq:Unit // ¬iO R q1 q2 ls}),let dP:=ω bB;let gJ:=cR R (ai T) (ξ true) (aV 1) (aV 2) (aG u) (ε 3 0 (nO R)) (ε 4 0 (nD R));(∃(ca:List Int),ints θ b=ints θ ca/\
 (∀(cf:Int),ct cf ca->
 0<=cf/\
 cf<256)/\
 ca.length<=900000/\
 (∀(cE:List Int),em ca=some cE->
 cE.length=128->
 At (Ha R T I Q u fr kd q0 q1 q2 b ls) ([ac 0 0,δ Z fr,ac 5 0,δ Z q1,δ Z q2,ac 6 0,ξ true],[gJ,af I,af Q,rO R,rD R,dP,ω [bc 128 (aK θ cE)]]))/\
 ((∀(cj:List Int),em ca=some cj->
 cj.length=128->
 False)->
 At (Ha R T I Q u fr kd q0 q1 q2 b ls) ([ac 0 0,δ Z fr,ac 5 0,δ Z q1,δ Z q2,ac 6 0,ξ false],[gJ,af I,af Q,rO R,rD R,dP,ω [bc 128 (cQ 128 (η (κ θ 0)))]])))/\
 ∀(cJ:{eZ:Bool×List Int // ¬iO R q1 q2 ls/\
 wZ b eZ.fst eZ.snd}),let cK:=cR R (ai T) (ξ true) (aV 1) (aV 2) (aG u) (ε 3 0 (nO R)) (ε 4 0 (nD R));(aQ 0/\
 ∃(eu:List D),(bL ls)[0]? =some eu/\
 ∃(eF:List (List D)),eu[0]? =some (π 1 eF)/\
 ∃(eS:List Int),eF=ints θ eS/\
 (∀(dO:Int),ct dO eS->
 0<=dO/\
 dO<256)/\
 eS.length<=140737488355328/\
 (((∃(eG:List L3),fx eG/\
 eS=bb eG)->
 False)->
 At (Hc R T I Q u fr kd q0 q1 q2 b ls) ([ac 0 0,δ Z fr,δ Z q1,δ Z q2,ac 5 0,ξ cJ.val.fst,ac 6 0,ξ false],[cK,af I,af Q,rO R,rD R,ω [bc 128 (aK θ cJ.val.snd)],ω [ai []]]))/\
 ∀(gH:List L3) (fq:ML),bG fq gH->
 eS=bb gH->
 At (Hc R T I Q u fr kd q0 q1 q2 b ls) ([ac 0 0,δ Z fr,δ Z q1,δ Z q2,ac 5 0,ξ cJ.val.fst,ac 6 0,ξ true],[cK,af I,af Q,rO R,rD R,ω [bc 128 (aK θ cJ.val.snd)],ω [ai fq]]))/\
 ∀(cU:{dY:Bool×Bool×List Int×List L3×ML // ¬iO R q1 q2 ls/\
 wY b (ls.getD 0 []) dY.fst dY.snd.fst dY.snd.snd.fst dY.snd.snd.snd.fst dY.snd.snd.snd.snd}),let dj:=(P0 R T I Q u fr kd q0 q1 q2 b ls cU.val.snd.snd.fst cU.val.snd.snd.snd.snd);let dD:=[ac 0 0,δ Z fr,δ Z q2];let eT:=(bc 128 (aK θ cU.val.snd.snd.fst));let ur:KB:=[cK,af I,af Q,rO R,rD R];((!cU.val.fst)=true->
 K (ar []) ur)/\
 ((!cU.val.fst)=false->
 ((!cU.val.snd.fst)=true->
 K (ar []) ur)/\
 ((!cU.val.snd.fst)=false->
 ∀(dH:Nat->
 Value),nD R=(nD R)/\
 bN (nD R)/\
 ∃(dc:Option Op),u=jZ bn dc/\
 bu dH [0,1,2,3,4,5,7,8,9,10,11,12,14,15,17,18,19,20]/\
 ((At dj (dD,[cG R (ξ R.lo) (δ Z q1) (δ Z q2) eT (ξ true) (ai cU.val.snd.snd.snd.snd) (ξ false) (aV 1) (aV 2) (aG none) (ε 3 0 (nO R)) (ε 5 0 (ι bo R.done++yl dc).length),af I,af Q,rO R,ο,ζ 70 7 (ι bo R.done++yl dc)])/\
 At dj (dD,[cG R (ξ R.lo) (δ Z q1) (δ Z q2) eT (ξ true) (ai cU.val.snd.snd.snd.snd) (ξ false) (aV 1) (aV 2) (aG none) (ε 3 0 (nO R)) (ε 5 0 (ι bo R.done++yl dc).length),af I,af Q,rO R,ο,ζ 70 7 (ι bo R.done++yl dc)])/\
 At dj (dD,[cG R (ξ R.lo) (δ Z q1) (δ Z q2) eT (ξ true) (ai cU.val.snd.snd.snd.snd) (ξ false) (aV 1) (aV 2) (aG none) (ε 3 0 (nO R)) (ε 5 0 (ι bo R.done++yl dc).length),af I,af Q,rO R,ο,ζ 70 7 (ι bo R.done++yl dc)])/\
 At dj (dD,[cG R (ξ R.lo) (δ Z q1) (δ Z q2) eT (ξ true) (ai cU.val.snd.snd.snd.snd) (ξ false) (aV 1) (aV 2) (aG none) (ε 3 0 (nO R)) (ε 5 0 (ι bo R.done++yl dc).length),af I,af Q,rO R,ο,ζ 70 7 (ι bo R.done++yl dc)]))/\
 (At dj (dD,[cG R (ξ R.lo) (δ Z q1) (δ Z q2) eT (ξ true) (ai cU.val.snd.snd.snd.snd) (ξ false) (aV 1) (aV 2) (aG none) (ε 3 0 (nO R)) (ε 5 0 (ι bo R.done++yl dc).length),af I,af Q,rO R,ο,ζ 70 7 (ι bo R.done++yl dc)])/\
 At dj (dD,[cG R (ξ R.lo) (δ Z q1) (δ Z q2) eT (ξ true) (ai cU.val.snd.snd.snd.snd) (ξ false) (aV 1) (aV 2) (aG none) (ε 3 0 (nO R)) (ε 5 0 (ι bo R.done++yl dc).length),af I,af Q,rO R,ο,ζ 70 7 (ι bo R.done++yl dc)])/\
 At dj (dD,[cG R (ξ R.lo) (δ Z q1) (δ Z q2) eT (ξ true) (ai cU.val.snd.snd.snd.snd) (ξ false) (aV 1) (aV 2) (aG none) (ε 3 0 (nO R)) (ε 5 0 (ι bo R.done++yl dc).length),af I,af Q,rO R,ο,ζ 70 7 (ι bo R.done++yl dc)]))/\
 (At dj (dD,[cG R (ξ R.lo) (δ Z q1) (δ Z q2) eT (ξ true) (ai cU.val.snd.snd.snd.snd) (ξ false) (aV 1) (aV 2) (aG none) (ε 3 0 (nO R)) (ε 5 0 (ι bo R.done++yl dc).length),af I,af Q,rO R,ο,ζ 70 7 (ι bo R.done++yl dc)])/\
 At dj (dD,[cG R (ξ R.lo) (δ Z q1) (δ Z q2) eT (ξ true) (ai cU.val.snd.snd.snd.snd) (ξ false) (aV 1) (aV 2) (aG none) (ε 3 0 (nO R)) (ε 5 0 (ι bo R.done++yl dc).length),af I,af Q,rO R,ο,ζ 70 7 (ι bo R.done++yl dc)])/\
 At dj (dD,[cG R (ξ R.lo) (δ Z q1) (δ Z q2) eT (ξ true) (ai cU.val.snd.snd.snd.snd) (ξ false) (aV 1) (aV 2) (aG none) (ε 3 0 (nO R)) (ε 5 0 (ι bo R.done++yl dc).length),af I,af Q,rO R,ο,ζ 70 7 (ι bo R.done++yl dc)]))/\
 (At dj (dD,[cG R (ξ R.lo) (δ Z q1) (δ Z q2) eT (ξ true) (ai cU.val.snd.snd.snd.snd) (ξ false) (aV 1) (aV 2) (aG none) (ε 3 0 (nO R)) (ε 5 0 (ι bo R.done++yl dc).length),af I,af Q,rO R,ο,ζ 70 7 (ι bo R.done++yl dc)])/\
 At dj (dD,[cG R (ξ R.lo) (δ Z q1) (δ Z q2) eT (ξ true) (ai cU.val.snd.snd.snd.snd) (ξ false) (aV 1) (aV 2) (aG none) (ε 3 0 (nO R)) (ε 5 0 (ι bo R.done++yl dc).length),af I,af Q,rO R,ο,ζ 70 7 (ι bo R.done++yl dc)]))/\
 At dj (dD,[cG R (ξ R.lo) (δ Z q1) (δ Z q2) eT (ξ true) (ai cU.val.snd.snd.snd.snd) (ξ false) (aV 1) (aV 2) (aG none) (ε 3 0 (nO R)) (ε 5 0 (ι bo R.done++yl dc).length),af I,af Q,rO R,ο,ζ 70 7 (ι bo R.done++yl dc)])/\
 At dj (dD,[cG R (ξ R.lo) (δ Z q1) (δ Z q2) eT (ξ true) (ai cU.val.snd.snd.snd.snd) (ξ false) (aV 1) (aV 2) (aG none) (ε 3 0 (nO R)) (ε 5 0 (ι bo R.done++yl dc).length),af I,af Q,rO R,ο,ζ 70 7 (ι bo R.done++yl dc)]))/\
 ∀(iR:Unit),1<=1/\
 ∀(gj:Nat->
 Value),nO R=(nO R)/\
 bN (nO R)/\
 bN 1/\
 bu gj [0,2,3,5,7,8,9,10,11,12,13,14,15,16,17,18,19,21]/\
 ∀(di:Nat->
 Value),K (ar []) [cG R (ξ R.lo) (δ Z q1) (δ Z q2) eT (ξ true) (ai cU.val.snd.snd.snd.snd) (ξ false) (γ (di 14)) (γ (di 15)) (aG none) (ε 1 0 (nO R+1)) (ε 2 0 (yD R).length),ζ 107 5 (ι bD R.out++[[dn Z fr,η (κ Z 11),π 1 [[dn Z R.id],[dn Z q1],[η (κ Z q2)]],π 1 [],π 1 []]]),ζ 70 7 (yD R)]))
 ):aO Tryz.prog iC (P5 R T I Q u fr kd q0 q1 q2 b ls) 87 [ac 0 0,.int Z fr,.agg [.int Z kd,an (.sl 1 [[dn Z q0],[dn Z q1],[dn Z q2]]),an (.sl 1 (ints θ b)),an (.sl 1 (bL ls))]] [cR R (ai T) (ξ true) (.mp 1) (.mp 2) (.ae u) (.sl 3 0 (nO R)) (.sl 4 0 (nD R)),af I,af Q,rO R,rD R] (fD 13 dW K):=by apply Eq.mp (a:=ay);kernel_rfl
theorem Qe {x y:List L3} (hx:fx x) (hy:fx y) (h:bb x=bb y):x=y:=by
 obtain⟨h1,h2⟩:=ze hx
 obtain⟨h3,h4⟩:=ze hy
 have hlen:x.length=y.length:=by rw[<- h1,h,h3]
 have e1:=h2 x.length (aE _)
 have e2:=h4 y.length (aE _)
 rw[cN]at e1 e2
 rw[h,hlen,e2]at e1
 exact(congrArg (·.2) e1).symm
theorem F3:fx []:=⟨List.Pairwise.nil,fun p hp=>(by cases hp),by simp⟩
theorem Qg {M:ML} {x:List L3} (h:bG M x):fx x:=⟨h.inc,h.rg,h.len⟩
theorem MU {b:List Int} (h:¬ ∃ x,fx x/\b=bb x):loadT b=none:=by unfold loadT;rw[dif_neg h]
theorem MV {b:List Int} {x:List L3} (hx:fx x) (h:b=bb x):loadT b=some x:=by
 have hex:∃ x,fx x/\b=bb x:=⟨x,hx,h⟩
 have hc:=hex.choose_spec
 have e:hex.choose=x:=Qe hc.1 hx (hc.2.symm.trans h)
 unfold loadT
 rw[dif_pos hex,e]
theorem P_ {R:φ} {fr kd q0 q1 q2:Int} {b:List Int} {ls:List (List Int)} (h:iO R q1 q2 ls):iP R fr ⟨kd,[q0,q1,q2],b,ls⟩=oz R fr:=by
 unfold iP;exact if_pos h
theorem P9 {R:φ} {fr kd q0 q1 q2:Int} {b:List Int} {ls:List (List Int)} (h:¬ iO R q1 q2 ls) (h2:jJ b=none∨loadT (ls.getD 0 [])=none):iP R fr ⟨kd,[q0,q1,q2],b,ls⟩=R:=by
 unfold iP
 refine(if_neg h).trans ?_
 rcases h2 with h2 | h2
 ·simp only[h2]
 ·simp only[h2]
  cases jJ b<;>rfl
theorem Qa {R:φ} {fr kd q0 q1 q2:Int} {b c:List Int} {t:List L3} {ls:List (List Int)} (h:¬ iO R q1 q2 ls) (hc:jJ b=some c) (ht:loadT (ls.getD 0 [])=some t):
  iP R fr ⟨kd,[q0,q1,q2],b,ls⟩={R with ld:=none,done:=(gk R).done,ep:=q1,nu:=q2,c:=c,t:=t,ch:=true,out:=R.out++[⟨fr,⟨11,[R.id,q1,q2],[],[]⟩⟩] }:=by
 unfold iP
 refine(if_neg h).trans ?_
 simp only[hc,ht]
 rfl
theorem Wu:dE Tryz.prog Ft:=fun f k h=>by
 unfold Ft at h
 split at h
 ·cases h;exact eK Xx _
 ·cases h;exact FV
 ·cases h;exact NN
 ·cases h;exact eK N2 _
 ·cases h;exact NM
 ·cases h;exact eK FX _
 ·cases h;exact eK NI _
 ·cases h;exact eK NK _
 ·cases h;exact eK F1 _
 ·cases h;exact eK NU _
 ·cases h
theorem nR:bW Tryz.prog iC:=dI mixed Wu aM 10
theorem MR {b:List Int} (h:∀ m,em b=some m->m.length=128->False):jJ b=none:=by
 unfold jJ
 cases ho:em b with
 |none=>rfl
 |some m=>simp only;rw[if_neg (h m ho)]
theorem aax (R:φ) (T:ML) (χ ψ:Value) (fr kd q0 q1 q2:Int) (b:List Int) (ls:List (List Int)) (hT:bG T R.t) (hl:R.ld=none) (hR:c8 R) (hb:bm b) (bX:b.length<=900000) (hls:∀ y∈ls,bm y/\y.length<=140737488355328) (dM:∀ χ ψ,aF R [cR R (ai T) (ξ false) (γ χ) (γ ψ) (.ae none) (.sl 1 0 (nO R)) (.sl 2 0 (nD R)),rO R,rD R]) (K:V->KB->Prop) (hK:∀ kb',aF (iP R fr ⟨kd,[q0,q1,q2],b,ls⟩) kb'->K (.υ []) kb'):aO Tryz.prog iC (P6 R T χ ψ fr kd q0 q1 q2 b ls) 87 [ac 0 0,.int Z fr,.agg [.int Z kd,an (.sl 1 [[dn Z q0],[dn Z q1],[dn Z q2]]),an (.sl 1 (ints θ b)),an (.sl 1 (bL ls))]] [cR R (ai T) (ξ false) (γ χ) (γ ψ) (.ae none) (.sl 1 0 (nO R)) (.sl 2 0 (nD R)),rO R,rD R] (fD 13 dW K):=by
 have fin:∀{R':φ} {kb':KB},iP R fr ⟨kd,[q0,q1,q2],b,ls⟩=R'->aF R' kb'->K (.υ []) kb':=fun{R' kb'} h1 h2=>by
  have:=hK kb'
  rw[h1]at this
  exact this h2
 have eV:nO R<=1000000:=by show(ι bD R.out).length<=_;rw[cg];have:=hR.ol;omega
 have hdl:nD R<=1000000:=by show(ι bo R.done).length<=_;rw[cg];have:=hR.dl;omega
 have lw:eL R=false:=by simp [eL,hl]
 have mC:none=(cm R).map bn:=by simp [cm,hl]
 have nk:iO R q1 q2 ls->∀ f:Nat->Value,K (.υ []) [cR R (ai T) (ξ false) (γ (f 14)) (γ (f 15)) (.ae none) (.sl 1 0 (nO R+1)) (.sl 2 0 (nD R)),ζ 107 5 (ι bD R.out++[fc fr 14 R.id R.ep [[dn Z R.nu]] [] []]),rD R]:=fun h f=>fin (P_ h) (by
  unfold aF oz gw
  simp only[hl]
  refine⟨f 14,f 15,T,hT,?_⟩
  simp [cR,bD,h_,fc,dn,ints,mH])
 have sm:¬ iO R q1 q2 ls->(jJ b=none∨loadT (ls.getD 0 [])=none)->∀ f:Nat->Value,K (.υ []) [cR R (ai T) (ξ false) (γ (f 14)) (γ (f 15)) (.ae none) (.sl 1 0 (nO R)) (.sl 2 0 (nD R)),rO R,rD R]:=fun h h2 f=>fin (P9 h h2) (dM _ _)
 have F4:∀ cc y M,bG M y->¬ iO R q1 q2 ls->jJ b=some cc->loadT (ls.getD 0 [])=some y->∀ f:Nat->Value,K (.υ []) [cG R (ξ R.lo) (.int Z q1) (.int Z q2) (bc 128 (aK θ cc)) (ξ true) (ai M) (ξ false) (γ (f 14)) (γ (f 15)) (.ae none) (.sl 1 0 (nO R+1)) (.sl 2 0 (yD R).length),ζ 107 5 (ι bD R.out++[fc fr 11 R.id q1 [[dn Z q2]] [] []]),ζ 70 7 (yD R)]:=fun cc y M hM h hc ht2 f=>fin (Qa h hc ht2) (by
  unfold aF
  refine⟨f 14,f 15,M,hM,?_⟩
  simp only[nD,rD,qR]
  simp [cR,cG,bD,h_,fc,dn,ints,mH])
 refine acu R T χ ψ fr kd q0 q1 q2 b ls K ⟨(by decide:(0:Int)<=1),_,rfl,q1,rfl,(by decide:(0:Int)<=2),_,rfl,q2,rfl,⟨fun e1=>fun f=>⟨rfl,⟨eV⟩,⟨by simp [bP]⟩,fun f=>nk (.inl (show q1<R.ep by simpa using e1)) f⟩,fun e1=>⟨fun e2=>⟨fun e3=>fun f=>⟨rfl,⟨eV⟩,⟨by simp [bP]⟩,fun f=>nk (.inr (.inl ⟨show q1=R.ep by simpa using e2,.inl (show q2<R.nu by simpa using e3)⟩)) f⟩,fun e3=>⟨fun f=>(by cases f),fun _=>⟨fun e4=>fun f=>⟨rfl,⟨eV⟩,⟨by simp [bP]⟩,fun f=>nk (.inr (.inr (by have:=e4;simp [bL]at this;omega))) f⟩,fun e4=>At.mk' ⟨(),fun h=>h.elim (fun h=>absurd h (show ¬ q1<R.ep by simpa using e1)) (fun h=>h.elim (fun h=>h.2.elim (fun h=>absurd h (show ¬ q2<R.nu by simpa using e3)) (fun h=>absurd h (by rw[lw];decide))) (fun h=>h (show ls.length=1 by have:=e4;simp [bL]at this;omega)))⟩ rfl⟩⟩⟩,fun e2=>⟨fun e4=>fun f=>⟨rfl,⟨eV⟩,⟨by simp [bP]⟩,fun f=>nk (.inr (.inr (by have:=e4;simp [bL]at this;omega))) f⟩,fun e4=>At.mk' ⟨(),fun h=>h.elim (fun h=>absurd h (show ¬ q1<R.ep by simpa using e1)) (fun h=>h.elim (fun h=>absurd h.1 (show ¬ q1=R.ep by simpa using e2)) (fun h=>h (show ls.length=1 by have:=e4;simp [bL]at this;omega)))⟩ rfl⟩⟩⟩,fun i4=>⟨⟨b,rfl,hb,bX,fun m h1 h2=>At.mk' ⟨(true,m),i4.2,fun _=>by simp [jJ,h1,h2],fun f=>(by cases f)⟩ rfl,fun h=>At.mk' ⟨(false,ki),i4.2,fun f=>(by cases f),fun _=>MR h⟩ rfl⟩,fun i5=>⟨?_,fun a=>⟨fun e=>fun f=>sm a.2.1 (.inl (a.2.2.c0 (by simpa using e))) f,fun e=>⟨fun e2=>fun f=>sm a.2.1 (.inr (a.2.2.t0 (by simpa using e2))) f,fun e2 f=>⟨rfl,⟨hdl⟩,cm R,mC,⟨by simp [bP]⟩,?_,fun _=>⟨aE _,fun f=>⟨rfl,⟨eV⟩,⟨by decide⟩,⟨by simp [bP]⟩,fun f=>F4 _ _ _ (a.2.2.t1 (by simpa using e2)).2 a.2.1 (a.2.2.c1 (by simpa using e)) (a.2.2.t1 (by simpa using e2)).1 f⟩⟩⟩⟩⟩⟩⟩⟩
 ·obtain⟨y,rfl⟩:∃ y,ls=[y]:=by
   have:ls.length=1:=Decidable.byContradiction fun h=>i5.2.1 (.inr (.inr h))
   match ls,this with
   | [y],_=>exact⟨y,rfl⟩
  obtain⟨hy,ir⟩:=hls y (by simp)
  exact⟨gp _,_,rfl,_,rfl,y,rfl,hy,by omega,fun h=>At.mk' ⟨(i5.1.1,false,i5.1.2,[],[]),i5.2.1,i5.2.2.c1,i5.2.2.c0,fun f=>(by cases f),fun _=>MU h⟩ rfl,fun x M hM h=>At.mk' ⟨(i5.1.1,true,i5.1.2,x,M),i5.2.1,i5.2.2.c1,i5.2.2.c0,fun _=>⟨MV (Qg hM) h,hM⟩,fun f=>(by cases f)⟩ rfl⟩
 ·repeat' first
   |exact At.mk' () rfl
   |rfl
   |refine And.intro ?_ ?_
theorem aaw (R:φ) (T:ML) (I Q:ML) (L:dx) (fr kd q0 q1 q2:Int) (b:List Int) (ls:List (List Int)) (hT:bG T R.t) (hl:R.ld=some L) (hI:MB I L.ins) (hQ:MB Q L.dR) (hR:c8 R) (hb:bm b) (bX:b.length<=900000) (hls:∀ y∈ls,bm y/\y.length<=140737488355328) (hkb:aF R [cR R (ai T) (ξ true) (.mp 1) (.mp 2) (.ae (L.cur.map bn)) (.sl 3 0 (nO R)) (.sl 4 0 (nD R)),af I,af Q,rO R,rD R]) (K:V->KB->Prop) (hK:∀ kb',aF (iP R fr ⟨kd,[q0,q1,q2],b,ls⟩) kb'->K (.υ []) kb'):aO Tryz.prog iC (P5 R T I Q (L.cur.map bn) fr kd q0 q1 q2 b ls) 87 [ac 0 0,.int Z fr,.agg [.int Z kd,an (.sl 1 [[dn Z q0],[dn Z q1],[dn Z q2]]),an (.sl 1 (ints θ b)),an (.sl 1 (bL ls))]] [cR R (ai T) (ξ true) (.mp 1) (.mp 2) (.ae (L.cur.map bn)) (.sl 3 0 (nO R)) (.sl 4 0 (nD R)),af I,af Q,rO R,rD R] (fD 13 dW K):=by
 have fin:∀{R':φ} {kb':KB},iP R fr ⟨kd,[q0,q1,q2],b,ls⟩=R'->aF R' kb'->K (.υ []) kb':=fun{R' kb'} h1 h2=>by
  have:=hK kb'
  rw[h1]at this
  exact this h2
 have eV:nO R<=1000000:=by show(ι bD R.out).length<=_;rw[cg];have:=hR.ol;omega
 have hdl:nD R<=1000000:=by show(ι bo R.done).length<=_;rw[cg];have:=hR.dl;omega
 have lw:eL R=true:=by simp [eL,hl]
 have mC:L.cur.map bn=(cm R).map bn:=by simp [cm,hl]
 have nk:iO R q1 q2 ls->K (.υ []) [cR R (ai T) (ξ true) (.mp 1) (.mp 2) (.ae (L.cur.map bn)) (.sl 3 0 (nO R+1)) (.sl 4 0 (nD R)),af I,af Q,ζ 107 5 (ι bD R.out++[fc fr 14 R.id R.ep [[dn Z R.nu]] [] []]),rD R]:=fun h=>fin (P_ h) (by
  unfold aF oz gw
  simp only[hl]
  refine⟨I,Q,T,hI,hQ,hT,?_⟩
  simp [cR,bD,h_,fc,dn,ints,mH])
 have sm:¬ iO R q1 q2 ls->(jJ b=none∨loadT (ls.getD 0 [])=none)->K (.υ []) [cR R (ai T) (ξ true) (.mp 1) (.mp 2) (.ae (L.cur.map bn)) (.sl 3 0 (nO R)) (.sl 4 0 (nD R)),af I,af Q,rO R,rD R]:=fun h h2=>fin (P9 h h2) hkb
 have F4:∀ cc y M,bG M y->¬ iO R q1 q2 ls->jJ b=some cc->loadT (ls.getD 0 [])=some y->∀ f:Nat->Value,K (.υ []) [cG R (ξ R.lo) (.int Z q1) (.int Z q2) (bc 128 (aK θ cc)) (ξ true) (ai M) (ξ false) (γ (f 14)) (γ (f 15)) (.ae none) (.sl 1 0 (nO R+1)) (.sl 2 0 (yD R).length),ζ 107 5 (ι bD R.out++[fc fr 11 R.id q1 [[dn Z q2]] [] []]),ζ 70 7 (yD R)]:=fun cc y M hM h hc ht2 f=>fin (Qa h hc ht2) (by
  unfold aF
  refine⟨f 14,f 15,M,hM,?_⟩
  simp only[nD,rD,qR]
  simp [cR,cG,bD,h_,fc,dn,ints,mH])
 refine acs R T I Q (L.cur.map bn) fr kd q0 q1 q2 b ls K ⟨(by decide:(0:Int)<=1),_,rfl,q1,rfl,(by decide:(0:Int)<=2),_,rfl,q2,rfl,⟨fun e1=>fun f=>⟨rfl,⟨eV⟩,⟨by simp [bP]⟩,nk (.inl (show q1<R.ep by simpa using e1))⟩,fun e1=>⟨fun e2=>⟨fun e3=>fun f=>⟨rfl,⟨eV⟩,⟨by simp [bP]⟩,nk (.inr (.inl ⟨show q1=R.ep by simpa using e2,.inl (show q2<R.nu by simpa using e3)⟩))⟩,fun e3=>⟨fun _=>fun f=>⟨rfl,⟨eV⟩,⟨by simp [bP]⟩,nk (.inr (.inl ⟨show q1=R.ep by simpa using e2,.inr lw⟩))⟩,fun f=>(by cases f)⟩⟩,fun e2=>⟨fun e4=>fun f=>⟨rfl,⟨eV⟩,⟨by simp [bP]⟩,nk (.inr (.inr (by have:=e4;simp [bL]at this;omega)))⟩,fun e4=>At.mk' ⟨(),fun h=>h.elim (fun h=>absurd h (show ¬ q1<R.ep by simpa using e1)) (fun h=>h.elim (fun h=>absurd h.1 (show ¬ q1=R.ep by simpa using e2)) (fun h=>h (show ls.length=1 by have:=e4;simp [bL]at this;omega)))⟩ rfl⟩⟩⟩,fun i4=>⟨⟨b,rfl,hb,bX,fun m h1 h2=>At.mk' ⟨(true,m),i4.2,fun _=>by simp [jJ,h1,h2],fun f=>(by cases f)⟩ rfl,fun h=>At.mk' ⟨(false,ki),i4.2,fun f=>(by cases f),fun _=>MR h⟩ rfl⟩,fun i5=>⟨?_,fun a=>⟨fun e=>sm a.2.1 (.inl (a.2.2.c0 (by simpa using e))),fun e=>⟨fun e2=>sm a.2.1 (.inr (a.2.2.t0 (by simpa using e2))),fun e2 f=>⟨rfl,⟨hdl⟩,cm R,mC,⟨by simp [bP]⟩,?_,fun _=>⟨aE _,fun f=>⟨rfl,⟨eV⟩,⟨by decide⟩,⟨by simp [bP]⟩,fun f=>F4 _ _ _ (a.2.2.t1 (by simpa using e2)).2 a.2.1 (a.2.2.c1 (by simpa using e)) (a.2.2.t1 (by simpa using e2)).1 f⟩⟩⟩⟩⟩⟩⟩⟩
 ·obtain⟨y,rfl⟩:∃ y,ls=[y]:=by
   have:ls.length=1:=Decidable.byContradiction fun h=>i5.2.1 (.inr (.inr h))
   match ls,this with
   | [y],_=>exact⟨y,rfl⟩
  obtain⟨hy,ir⟩:=hls y (by simp)
  exact⟨gp _,_,rfl,_,rfl,y,rfl,hy,by omega,fun h=>At.mk' ⟨(i5.1.1,false,i5.1.2,[],[]),i5.2.1,i5.2.2.c1,i5.2.2.c0,fun f=>(by cases f),fun _=>MU h⟩ rfl,fun x M hM h=>At.mk' ⟨(i5.1.1,true,i5.1.2,x,M),i5.2.1,i5.2.2.c1,i5.2.2.c0,fun _=>⟨MV (Qg hM) h,hM⟩,fun f=>(by cases f)⟩ rfl⟩
 ·repeat' first
   |exact At.mk' () rfl
   |rfl
   |refine And.intro ?_ ?_
def Rv:aH:=fun args kb K=>∃ R fr kd q0 q1 q2 b ls,args=[ac 0 0,.int Z fr,.agg [.int Z kd,an (.sl 1 [[dn Z q0],[dn Z q1],[dn Z q2]]),an (.sl 1 (ints θ b)),an (.sl 1 (bL ls))]]/\aF R kb/\c8 R/\bm b/\b.length<=900000/\(∀ y∈ls,bm y/\y.length<=140737488355328)/\∀ kb',aF (iP R fr ⟨kd,[q0,q1,q2],b,ls⟩) kb'->K (.υ []) kb'
theorem Yg:fw Tryz.prog 87 Rv:=rS mixed 13 dW (fun args kb K h=>by
 obtain⟨R,fr,kd,q0,q1,q2,b,ls,rfl,hkb,hR,hb,bX,hls,hK⟩:=h
 have gN:=hkb
 unfold aF at hkb
 split at hkb
 ·rename_i hl
  obtain⟨χ,ψ,T,hT,rfl⟩:=hkb
  exact⟨_,_,nR,aax R T χ ψ fr kd q0 q1 q2 b ls hT hl hR hb bX hls (fun a b=>by unfold aF;simp only[hl];exact⟨a,b,T,hT,rfl⟩) K hK⟩
 ·rename_i L hl
  obtain⟨I,Q,T,hI,hQ,hT,rfl⟩:=hkb
  exact⟨_,_,nR,aaw R T I Q L fr kd q0 q1 q2 b ls hT hl hI hQ hR hb bX hls gN K hK⟩)
theorem acr (R:φ) (T:ML) (χ ψ:Value) (fr kd q0 q1 q2:Int) (b:List Int) (ls:List (List Int)) (K:V->KB->Prop) (ay:
 let aq:=[[dn Z q0],[dn Z q1],[dn Z q2]];(true=true->
 ∀(y1:Nat->
 Value),K (ar []) [cR R (ai T) (ξ false) (γ (y1 14)) (γ (y1 15)) (aG none) (ε 1 0 (nO R)) (ε 2 0 (nD R)),rO R,rD R])/\
 (true=false->
 aQ 1/\
 ∃(y2:List D),aq[1]? =some y2/\
 ∃(y3:Int),y2[0]? =some (η (κ Z y3))/\
 ((y3 != R.ep)=true->
 ∀(y4:Nat->
 Value),K (ar []) [cR R (ai T) (ξ false) (γ (y4 14)) (γ (y4 15)) (aG none) (ε 1 0 (nO R)) (ε 2 0 (nD R)),rO R,rD R])/\
 ((y3 != R.ep)=false->
 aQ 2/\
 ∃(y5:List D),aq[2]? =some y5/\
 ∃(y6:Int),y5[0]? =some (η (κ Z y6))/\
 ((y6 != R.nu)=true->
 ∀(y7:Nat->
 Value),K (ar []) [cR R (ai T) (ξ false) (γ (y7 14)) (γ (y7 15)) (aG none) (ε 1 0 (nO R)) (ε 2 0 (nD R)),rO R,rD R])/\
 ((y6 != R.nu)=false->
 False)))
 ):aO Tryz.prog iC (fun _=>none) 88 [ac 0 0,.int Z fr,.agg [.int Z kd,an (.sl 1 [[dn Z q0],[dn Z q1],[dn Z q2]]),an (.sl 1 (ints θ b)),an (.sl 1 (bL ls))]] [cR R (ai T) (ξ false) (γ χ) (γ ψ) (.ae none) (.sl 1 0 (nO R)) (.sl 2 0 (nD R)),rO R,rD R] (fD 13 dW K):=by apply Eq.mp (a:=ay);kernel_rfl
theorem acq (R:φ) (T:ML) (I Q:ML) (u:Option (List D)) (fr kd q0 q1 q2:Int) (b:List Int) (ls:List (List Int)) (K:V->KB->Prop) (ay:
 let aq:=cR R (ai T) (ξ true) (aV 1) (aV 2) (aG u) (ε 3 0 (nO R)) (ε 4 0 (nD R));let bB:=[[dn Z q0],[dn Z q1],[dn Z q2]];(false=true->
 K (ar []) [aq,af I,af Q,rO R,rD R])/\
 (false=false->
 aQ 1/\
 ∃(y1:List D),bB[1]? =some y1/\
 ∃(y2:Int),y1[0]? =some (η (κ Z y2))/\
 ((y2 != R.ep)=true->
 K (ar []) [aq,af I,af Q,rO R,rD R])/\
 ((y2 != R.ep)=false->
 aQ 2/\
 ∃(y3:List D),bB[2]? =some y3/\
 ∃(y4:Int),y3[0]? =some (η (κ Z y4))/\
 ((y4 != R.nu)=true->
 K (ar []) [aq,af I,af Q,rO R,rD R])/\
 ((y4 != R.nu)=false->
 ((!u.isNone)=true->
 ∀(y5:Nat->
 Value),nD R=(nD R)/\
 bN (nD R)/\
 ∃(y6:List Int),∃(y7:List Int),∃(y8:List Int),∃(y9:Op),gz (aK θ R.c) y8/\
 ints Z R.v.mem=ints Z y6/\
 ints Z R.v.aL=ints Z y7/\
 dm (y6.length+y7.length)/\
 jW (av Q [fr] [η (fa true)])/\
 u=some (bn y9)/\
 j_ y9.bk/\
 (allI R.me y6 y7 (av Q [fr] [η (fa true)])=false->
 bu y5 [1,2,3,4,5,7,8,9,10,13,14,17,18,19,20]/\
 K (ar []) [aq,af (av I [fr] [η (fa true)]),af (av Q [fr] [η (fa true)]),rO R,rD R])/\
 (allI R.me y6 y7 (av Q [fr] [η (fa true)])=true->
 bu y5 [1,2,3,4,5,7,8,9,10,13,14,17,18,19,20]/\
 K (ar []) [cS R (δ Z R.nu) (bc 128 (aK θ y8)) (ξ R.ch) (ai T) (ξ true) (aV 1) (aV 2) (aG none) (ε 3 0 (nO R)) (ε 4 0 (nD R+1)),af (av I [fr] [η (fa true)]),af (av Q [fr] [η (fa true)]),rO R,ζ 70 7 (ι bo R.done++[(bn y9++[η (κ Z 0),π 1 (oa y8 y9.kd y9.bk)])])]))/\
 ((!u.isNone)=false->
 K (ar []) [aq,af (av I [fr] [η (fa true)]),af Q,rO R,rD R]))))
 ):aO Tryz.prog iC (fun _=>none) 88 [ac 0 0,.int Z fr,.agg [.int Z kd,an (.sl 1 [[dn Z q0],[dn Z q1],[dn Z q2]]),an (.sl 1 (ints θ b)),an (.sl 1 (bL ls))]] [cR R (ai T) (ξ true) (.mp 1) (.mp 2) (.ae u) (.sl 3 0 (nO R)) (.sl 4 0 (nD R)),af I,af Q,rO R,rD R] (fD 13 dW K):=by apply Eq.mp (a:=ay);kernel_rfl
theorem ab0 (R:φ) (T:ML) (χ ψ:Value) (fr kd q0 q1 q2:Int) (b:List Int) (ls:List (List Int)) (K:V->KB->Prop) (ay:
 let aq:=[[dn Z q0],[dn Z q1],[dn Z q2]];(false=true->
 aQ 1/\
 ∃(y1:List D),aq[1]? =some y1/\
 ∃(y2:Int),y1[0]? =some (η (κ Z y2))/\
 ((y2 == R.ep)=true->
 aQ 2/\
 ∃(y3:List D),aq[2]? =some y3/\
 ∃(y4:Int),y3[0]? =some (η (κ Z y4))/\
 ((y4 == R.nu)=true->
 (false=true->
 False)/\
 (false=false->
 ∀(y5:Nat->
 Value),K (ar []) [cR R (ai T) (ξ false) (γ (y5 14)) (γ (y5 15)) (aG none) (ε 1 0 (nO R)) (ε 2 0 (nD R)),rO R,rD R]))/\
 ((y4 == R.nu)=false->
 ∀(y6:Nat->
 Value),K (ar []) [cR R (ai T) (ξ false) (γ (y6 14)) (γ (y6 15)) (aG none) (ε 1 0 (nO R)) (ε 2 0 (nD R)),rO R,rD R]))/\
 ((y2 == R.ep)=false->
 ∀(y7:Nat->
 Value),K (ar []) [cR R (ai T) (ξ false) (γ (y7 14)) (γ (y7 15)) (aG none) (ε 1 0 (nO R)) (ε 2 0 (nD R)),rO R,rD R]))/\
 (false=false->
 ∀(y8:Nat->
 Value),K (ar []) [cR R (ai T) (ξ false) (γ (y8 14)) (γ (y8 15)) (aG none) (ε 1 0 (nO R)) (ε 2 0 (nD R)),rO R,rD R])
 ):aO Tryz.prog iC (fun _=>none) 90 [ac 0 0,.int Z fr,.agg [.int Z kd,an (.sl 1 [[dn Z q0],[dn Z q1],[dn Z q2]]),an (.sl 1 (ints θ b)),an (.sl 1 (bL ls))]] [cR R (ai T) (ξ false) (γ χ) (γ ψ) (.ae none) (.sl 1 0 (nO R)) (.sl 2 0 (nD R)),rO R,rD R] (fD 13 dW K):=by apply Eq.mp (a:=ay);kernel_rfl
theorem abZ (R:φ) (T:ML) (I Q:ML) (u:Option (List D)) (fr kd q0 q1 q2:Int) (b:List Int) (ls:List (List Int)) (K:V->KB->Prop) (ay:
 let aq:KB:=[cR R (ai T) (ξ true) (aV 1) (aV 2) (aG u) (ε 3 0 (nO R)) (ε 4 0 (nD R)),af I,af Q,rO R,rD R];let bB:=[[dn Z q0],[dn Z q1],[dn Z q2]];(true=true->
 aQ 1/\
 ∃(y1:List D),bB[1]? =some y1/\
 ∃(y2:Int),y1[0]? =some (η (κ Z y2))/\
 ((y2 == R.ep)=true->
 aQ 2/\
 ∃(y3:List D),bB[2]? =some y3/\
 ∃(y4:Int),y3[0]? =some (η (κ Z y4))/\
 ((y4 == R.nu)=true->
 ((!u.isNone)=true->
 ∀(y5:Nat->
 Value),nD R=(nD R)/\
 bN (nD R)/\
 ∃(y6:List Int),∃(y7:List Int),∃(y8:List Int),∃(y9:Op),gz (aK θ R.c) y8/\
 ints Z R.v.mem=ints Z y6/\
 ints Z R.v.aL=ints Z y7/\
 dm (y6.length+y7.length)/\
 jW (av Q [fr] [η (fa true)])/\
 u=some (bn y9)/\
 j_ y9.bk/\
 (allI R.me y6 y7 (av Q [fr] [η (fa true)])=false->
 bu y5 [1,2,3,4,5,7,8,9,10,13,14,17,18,19,20]/\
 K (ar []) [cR R (ai T) (ξ true) (aV 1) (aV 2) (aG u) (ε 3 0 (nO R)) (ε 4 0 (nD R)),af I,af (av Q [fr] [η (fa true)]),rO R,rD R])/\
 (allI R.me y6 y7 (av Q [fr] [η (fa true)])=true->
 bu y5 [1,2,3,4,5,7,8,9,10,13,14,17,18,19,20]/\
 K (ar []) [cS R (δ Z R.nu) (bc 128 (aK θ y8)) (ξ R.ch) (ai T) (ξ true) (aV 1) (aV 2) (aG none) (ε 3 0 (nO R)) (ε 4 0 (nD R+1)),af I,af (av Q [fr] [η (fa true)]),rO R,ζ 70 7 (ι bo R.done++[(bn y9++[η (κ Z 0),π 1 (oa y8 y9.kd y9.bk)])])]))/\
 ((!u.isNone)=false->
 K (ar []) aq))/\
 ((y4 == R.nu)=false->
 K (ar []) aq))/\
 ((y2 == R.ep)=false->
 K (ar []) aq))/\
 (true=false->
 K (ar []) aq)
 ):aO Tryz.prog iC (fun _=>none) 90 [ac 0 0,.int Z fr,.agg [.int Z kd,an (.sl 1 [[dn Z q0],[dn Z q1],[dn Z q2]]),an (.sl 1 (ints θ b)),an (.sl 1 (bL ls))]] [cR R (ai T) (ξ true) (.mp 1) (.mp 2) (.ae u) (.sl 3 0 (nO R)) (.sl 4 0 (nD R)),af I,af Q,rO R,rD R] (fD 13 dW K):=by apply Eq.mp (a:=ay);kernel_rfl
theorem acd (R:φ) (T:ML) (χ ψ:Value) (fr kd q0 q1 q2:Int) (b:List Int) (ls:List (List Int)) (K:V->KB->Prop) (ay:
 let aq:=[[dn Z q0],[dn Z q1],[dn Z q2]];(true=true->
 ∀(y1:Nat->
 Value),K (ar []) [cR R (ai T) (ξ false) (γ (y1 14)) (γ (y1 15)) (aG none) (ε 1 0 (nO R)) (ε 2 0 (nD R)),rO R,rD R])/\
 (true=false->
 aQ 1/\
 ∃(y2:List D),aq[1]? =some y2/\
 ∃(y3:Int),y2[0]? =some (η (κ Z y3))/\
 (decide (y3 > R.ep)=true->
 ∀(y4:Nat->
 Value),nD R=(nD R)/\
 bN (nD R)/\
 ∃(y5:Option Op),none=jZ bn y5/\
 bu y4 [0,1,2,3,4,5,7,8,9,10,11,12,14,15,17,18,19,20]/\
 ∀(y6:Nat->
 Value),K (ar []) [cR R (ai T) (ξ false) (γ (y6 14)) (γ (y6 15)) (aG none) (ε 1 0 (nO R)) (ε 2 0 (ι bo R.done++yl y5).length),rO R,ζ 70 7 (ι bo R.done++yl y5)])/\
 (decide (y3 > R.ep)=false->
 aQ 1/\
 ∃(y7:List D),aq[1]? =some y7/\
 ∃(y8:Int),y7[0]? =some (η (κ Z y8))/\
 ((y8 == R.ep)=true->
 aQ 2/\
 ∃(y9:List D),aq[2]? =some y9/\
 ∃(cq:Int),y9[0]? =some (η (κ Z cq))/\
 (decide (cq > R.nu)=true->
 ∀(b_:Nat->
 Value),nD R=(nD R)/\
 bN (nD R)/\
 ∃(ca:Option Op),none=jZ bn ca/\
 bu b_ [0,1,2,3,4,5,7,8,9,10,11,12,14,15,17,18,19,20]/\
 ∀(cf:Nat->
 Value),K (ar []) [cG R (ξ true) (δ Z R.ep) (δ Z R.nu) (bc 128 (aK θ R.c)) (ξ R.ch) (ai T) (ξ false) (γ (cf 14)) (γ (cf 15)) (aG none) (ε 1 0 (nO R)) (ε 2 0 (ι bo R.done++yl ca).length),rO R,ζ 70 7 (ι bo R.done++yl ca)])/\
 (decide (cq > R.nu)=false->
 False))/\
 ((y8 == R.ep)=false->
 False)))
 ):aO Tryz.prog iC (fun _=>none) 91 [ac 0 0,.int Z fr,.agg [.int Z kd,an (.sl 1 [[dn Z q0],[dn Z q1],[dn Z q2]]),an (.sl 1 (ints θ b)),an (.sl 1 (bL ls))]] [cR R (ai T) (ξ false) (γ χ) (γ ψ) (.ae none) (.sl 1 0 (nO R)) (.sl 2 0 (nD R)),rO R,rD R] (fD 13 dW K):=by apply Eq.mp (a:=ay);kernel_rfl
theorem acb (R:φ) (T:ML) (I Q:ML) (u:Option (List D)) (fr kd q0 q1 q2:Int) (b:List Int) (ls:List (List Int)) (K:V->KB->Prop) (ay:
 let aq:=[[dn Z q0],[dn Z q1],[dn Z q2]];let bB:=π 1 [[dn Z R.id],[dn Z R.ep],[dn Z R.nu]];(false=true->
 K (ar []) [cR R (ai T) (ξ true) (aV 1) (aV 2) (aG u) (ε 3 0 (nO R)) (ε 4 0 (nD R)),af I,af Q,rO R,rD R])/\
 (false=false->
 aQ 1/\
 ∃(y1:List D),aq[1]? =some y1/\
 ∃(y2:Int),y1[0]? =some (η (κ Z y2))/\
 (decide (y2 > R.ep)=true->
 ∀(y3:Nat->
 Value),nD R=(nD R)/\
 bN (nD R)/\
 ∃(y4:Option Op),u=jZ bn y4/\
 bu y3 [0,1,2,3,4,5,7,8,9,10,11,12,14,15,17,18,19,20]/\
 ∀(y5:Nat->
 Value),K (ar []) [cR R (ai T) (ξ false) (γ (y5 14)) (γ (y5 15)) (aG none) (ε 1 0 (nO R)) (ε 2 0 (ι bo R.done++yl y4).length),rO R,ζ 70 7 (ι bo R.done++yl y4)])/\
 (decide (y2 > R.ep)=false->
 aQ 1/\
 ∃(y6:List D),aq[1]? =some y6/\
 ∃(y7:Int),y6[0]? =some (η (κ Z y7))/\
 ((y7 == R.ep)=true->
 aQ 2/\
 ∃(y8:List D),aq[2]? =some y8/\
 ∃(y9:Int),y8[0]? =some (η (κ Z y9))/\
 (decide (y9 > R.nu)=true->
 ∀(cq:Nat->
 Value),nD R=(nD R)/\
 bN (nD R)/\
 ∃(b_:Option Op),u=jZ bn b_/\
 bu cq [0,1,2,3,4,5,7,8,9,10,11,12,14,15,17,18,19,20]/\
 ∀(ca:Nat->
 Value),K (ar []) [cG R (ξ true) (δ Z R.ep) (δ Z R.nu) (bc 128 (aK θ R.c)) (ξ R.ch) (ai T) (ξ false) (γ (ca 14)) (γ (ca 15)) (aG none) (ε 1 0 (nO R)) (ε 2 0 (ι bo R.done++yl b_).length),rO R,ζ 70 7 (ι bo R.done++yl b_)])/\
 (decide (y9 > R.nu)=false->
 ∀(cf:Nat->
 Value),nO R=(nO R)/\
 bN (nO R)/\
 ∃(cE:List Int),∃(cj:List L3),gz (aK θ R.c) cE/\
 bG T cj/\
 bu cf [0,2,3,8,9,10,11,12,13,14,15,16,17,18,19,21]/\
 K (ar []) [cS R (δ Z R.nu) (bc 128 (aK θ cE)) (ξ R.ch) (ai T) (ξ true) (aV 1) (aV 2) (aG u) (ε 3 0 (nO R+1)) (ε 4 0 (nD R)),af (av I [fr] [η (fa false)]),af Q,ζ 107 5 (ι bD R.out++[[dn Z fr,η (κ Z 10),bB,π 1 (ints θ (bT cE)),π 1 [[π 1 (ints θ (bb cj))]]]]),rD R]))/\
 ((y7 == R.ep)=false->
 ∀(eZ:Nat->
 Value),nO R=(nO R)/\
 bN (nO R)/\
 ∃(cJ:List Int),∃(eu:List L3),gz (aK θ R.c) cJ/\
 bG T eu/\
 bu eZ [0,2,3,8,9,10,11,12,13,14,15,16,17,18,19,21]/\
 K (ar []) [cS R (δ Z R.nu) (bc 128 (aK θ cJ)) (ξ R.ch) (ai T) (ξ true) (aV 1) (aV 2) (aG u) (ε 3 0 (nO R+1)) (ε 4 0 (nD R)),af (av I [fr] [η (fa false)]),af Q,ζ 107 5 (ι bD R.out++[[dn Z fr,η (κ Z 10),bB,π 1 (ints θ (bT cJ)),π 1 [[π 1 (ints θ (bb eu))]]]]),rD R])))
 ):aO Tryz.prog iC (fun _=>none) 91 [ac 0 0,.int Z fr,.agg [.int Z kd,an (.sl 1 [[dn Z q0],[dn Z q1],[dn Z q2]]),an (.sl 1 (ints θ b)),an (.sl 1 (bL ls))]] [cR R (ai T) (ξ true) (.mp 1) (.mp 2) (.ae u) (.sl 3 0 (nO R)) (.sl 4 0 (nD R)),af I,af Q,rO R,rD R] (fD 13 dW K):=by apply Eq.mp (a:=ay);kernel_rfl
theorem KV {R:φ} {L:dx} {o:Op} (hl:R.ld=some L) (hc:L.cur=some o) (h:(ba R).all L.dR=false):fN R=R:=by
 unfold fN;rw[hl];simp only[hc];rw[if_neg (by rw[h];decide)]
theorem KW {R:φ} {L:dx} {o:Op} (hl:R.ld=some L) (hc:L.cur=some o) (h:(ba R).all L.dR=true):fN R={R with ld:=some {L with cur:=none },done:=R.done++[⟨o,0,oC R.c o⟩] }:=by
 unfold fN;rw[hl];simp only[hc];rw[if_pos h]
theorem aaq {R:φ} {fr kd q0 q1 q2:Int} {b:List Int} {ls:List (List Int)} (hl:R.ld=none):ik R fr ⟨kd,[q0,q1,q2],b,ls⟩=R:=by unfold ik;rw[hl]
theorem P8 {R:φ} {L:dx} {fr kd q0 q1 q2:Int} {b:List Int} {ls:List (List Int)} (hl:R.ld=some L) (h:q1≠R.ep∨q2≠R.nu):ik R fr ⟨kd,[q0,q1,q2],b,ls⟩=R:=by
 unfold ik;rw[hl];exact if_pos h
theorem aap {R:φ} {L:dx} {fr kd q0 q1 q2:Int} {b:List Int} {ls:List (List Int)} (hl:R.ld=some L) (hc:L.cur=none) (h1:q1=R.ep) (h2:q2=R.nu):ik R fr ⟨kd,[q0,q1,q2],b,ls⟩={R with ld:=some ⟨mark L.ins fr true,L.dR,none⟩ }:=by
 unfold ik;rw[hl]
 refine(if_neg (show ¬ (q1≠R.ep∨q2≠R.nu) by simp [h1,h2])).trans ?_
 simp only[hc]
theorem P7 {R:φ} {L:dx} {o:Op} {fr kd q0 q1 q2:Int} {b:List Int} {ls:List (List Int)} (hl:R.ld=some L) (hc:L.cur=some o) (h1:q1=R.ep) (h2:q2=R.nu):ik R fr ⟨kd,[q0,q1,q2],b,ls⟩=fN {R with ld:=some ⟨mark L.ins fr true,mark L.dR fr true,some o⟩ }:=by
 unfold ik;rw[hl]
 refine(if_neg (show ¬ (q1≠R.ep∨q2≠R.nu) by simp [h1,h2])).trans ?_
 simp only[hc]
theorem Yv {R:φ} {fr kd q0 q1 q2:Int} {b:List Int} {ls:List (List Int)} (hl:R.ld=none):ia R fr ⟨kd,[q0,q1,q2],b,ls⟩=R:=by unfold ia;rw[hl]
theorem Yu {R:φ} {L:dx} {fr kd q0 q1 q2:Int} {b:List Int} {ls:List (List Int)} (hl:R.ld=some L) (hc:L.cur=none):ia R fr ⟨kd,[q0,q1,q2],b,ls⟩=R:=by unfold ia;rw[hl];simp only[hc]
theorem Yw {R:φ} {L:dx} {o:Op} {fr kd q0 q1 q2:Int} {b:List Int} {ls:List (List Int)} (hl:R.ld=some L) (hc:L.cur=some o) (h:¬ (q1=R.ep/\q2=R.nu)):ia R fr ⟨kd,[q0,q1,q2],b,ls⟩=R:=by
 unfold ia;rw[hl];simp only[hc];exact if_neg h
theorem Oe {R:φ} {L:dx} {o:Op} {fr kd q0 q1 q2:Int} {b:List Int} {ls:List (List Int)} (hl:R.ld=some L) (hc:L.cur=some o) (h1:q1=R.ep) (h2:q2=R.nu):ia R fr ⟨kd,[q0,q1,q2],b,ls⟩=fN {R with ld:=some ⟨L.ins,mark L.dR fr true,some o⟩ }:=by
 unfold ia;rw[hl];simp only[hc];exact if_pos ⟨h1,h2⟩
theorem Zq {R:φ} {fr kd q0 q1 q2:Int} {b:List Int} {ls:List (List Int)} (hl:R.ld=none):ic R fr ⟨kd,[q0,q1,q2],b,ls⟩=R:=by unfold ic;rw[hl]
theorem Zp {R:φ} {L:dx} {fr kd q0 q1 q2:Int} {b:List Int} {ls:List (List Int)} (hl:R.ld=some L) (h:R.ep<q1):ic R fr ⟨kd,[q0,q1,q2],b,ls⟩=gk R:=by
 unfold ic;rw[hl];exact if_pos h
theorem Zr {R:φ} {L:dx} {fr kd q0 q1 q2:Int} {b:List Int} {ls:List (List Int)} (hl:R.ld=some L) (h:q1=R.ep) (h2:R.nu<q2):ic R fr ⟨kd,[q0,q1,q2],b,ls⟩=gk {R with lo:=true }:=by
 unfold ic;rw[hl]
 refine(if_neg (show ¬ R.ep<q1 by omega)).trans ?_
 exact if_pos ⟨h,h2⟩
theorem O1 {R:φ} {L:dx} {fr kd q0 q1 q2:Int} {b:List Int} {ls:List (List Int)} (hl:R.ld=some L) (h:¬ R.ep<q1) (h2:¬ (q1=R.ep/\R.nu<q2)):ic R fr ⟨kd,[q0,q1,q2],b,ls⟩=oE {R with ld:=some {L with ins:=mark L.ins fr false } } fr:=by
 unfold ic;rw[hl]
 exact(if_neg h).trans (if_neg h2)
theorem aat (R:φ) (T:ML) (χ ψ:Value) (fr kd q0 q1 q2:Int) (b:List Int) (ls:List (List Int)) (hT:bG T R.t) (hl:R.ld=none) (hR:c8 R) (dM:∀ χ ψ,aF R [cR R (ai T) (ξ false) (γ χ) (γ ψ) (.ae none) (.sl 1 0 (nO R)) (.sl 2 0 (nD R)),rO R,rD R]) (K:V->KB->Prop) (hK:∀ kb',aF (ik R fr ⟨kd,[q0,q1,q2],b,ls⟩) kb'->K (.υ []) kb'):aO Tryz.prog iC (fun _=>none) 88 [ac 0 0,.int Z fr,.agg [.int Z kd,an (.sl 1 [[dn Z q0],[dn Z q1],[dn Z q2]]),an (.sl 1 (ints θ b)),an (.sl 1 (bL ls))]] [cR R (ai T) (ξ false) (γ χ) (γ ψ) (.ae none) (.sl 1 0 (nO R)) (.sl 2 0 (nD R)),rO R,rD R] (fD 13 dW K):=by
 have fin:∀{R':φ} {kb':KB},ik R fr ⟨kd,[q0,q1,q2],b,ls⟩=R'->aF R' kb'->K (.υ []) kb':=fun{R' kb'} h1 h2=>by
  have:=hK kb'
  rw[h1]at this
  exact this h2
 exact acr R T χ ψ fr kd q0 q1 q2 b ls K ⟨fun _ f=>fin (aaq hl) (dM _ _),fun f=>(by cases f)⟩
theorem Yz (R:φ) (T:ML) (χ ψ:Value) (fr kd q0 q1 q2:Int) (b:List Int) (ls:List (List Int)) (hT:bG T R.t) (hl:R.ld=none) (hR:c8 R) (dM:∀ χ ψ,aF R [cR R (ai T) (ξ false) (γ χ) (γ ψ) (.ae none) (.sl 1 0 (nO R)) (.sl 2 0 (nD R)),rO R,rD R]) (K:V->KB->Prop) (hK:∀ kb',aF (ia R fr ⟨kd,[q0,q1,q2],b,ls⟩) kb'->K (.υ []) kb'):aO Tryz.prog iC (fun _=>none) 90 [ac 0 0,.int Z fr,.agg [.int Z kd,an (.sl 1 [[dn Z q0],[dn Z q1],[dn Z q2]]),an (.sl 1 (ints θ b)),an (.sl 1 (bL ls))]] [cR R (ai T) (ξ false) (γ χ) (γ ψ) (.ae none) (.sl 1 0 (nO R)) (.sl 2 0 (nD R)),rO R,rD R] (fD 13 dW K):=by
 have fin:∀{R':φ} {kb':KB},ia R fr ⟨kd,[q0,q1,q2],b,ls⟩=R'->aF R' kb'->K (.υ []) kb':=fun{R' kb'} h1 h2=>by
  have:=hK kb'
  rw[h1]at this
  exact this h2
 exact ab0 R T χ ψ fr kd q0 q1 q2 b ls K ⟨fun f=>(by cases f),fun _ f=>fin (Yv hl) (dM _ _)⟩
theorem Zu (R:φ) (T:ML) (χ ψ:Value) (fr kd q0 q1 q2:Int) (b:List Int) (ls:List (List Int)) (hT:bG T R.t) (hl:R.ld=none) (hR:c8 R) (dM:∀ χ ψ,aF R [cR R (ai T) (ξ false) (γ χ) (γ ψ) (.ae none) (.sl 1 0 (nO R)) (.sl 2 0 (nD R)),rO R,rD R]) (K:V->KB->Prop) (hK:∀ kb',aF (ic R fr ⟨kd,[q0,q1,q2],b,ls⟩) kb'->K (.υ []) kb'):aO Tryz.prog iC (fun _=>none) 91 [ac 0 0,.int Z fr,.agg [.int Z kd,an (.sl 1 [[dn Z q0],[dn Z q1],[dn Z q2]]),an (.sl 1 (ints θ b)),an (.sl 1 (bL ls))]] [cR R (ai T) (ξ false) (γ χ) (γ ψ) (.ae none) (.sl 1 0 (nO R)) (.sl 2 0 (nD R)),rO R,rD R] (fD 13 dW K):=by
 have fin:∀{R':φ} {kb':KB},ic R fr ⟨kd,[q0,q1,q2],b,ls⟩=R'->aF R' kb'->K (.υ []) kb':=fun{R' kb'} h1 h2=>by
  have:=hK kb'
  rw[h1]at this
  exact this h2
 exact acd R T χ ψ fr kd q0 q1 q2 b ls K ⟨fun _ f=>fin (Zq hl) (dM _ _),fun f=>(by cases f)⟩
theorem aas (R:φ) (T:ML) (I Q:ML) (L:dx) (fr kd q0 q1 q2:Int) (b:List Int) (ls:List (List Int)) (hT:bG T R.t) (hl:R.ld=some L) (hI:MB I L.ins) (hQ:MB Q L.dR) (hR:c8 R) (hkb:aF R [cR R (ai T) (ξ true) (.mp 1) (.mp 2) (.ae (L.cur.map bn)) (.sl 3 0 (nO R)) (.sl 4 0 (nD R)),af I,af Q,rO R,rD R]) (K:V->KB->Prop) (hK:∀ kb',aF (ik R fr ⟨kd,[q0,q1,q2],b,ls⟩) kb'->K (.υ []) kb'):aO Tryz.prog iC (fun _=>none) 88 [ac 0 0,.int Z fr,.agg [.int Z kd,an (.sl 1 [[dn Z q0],[dn Z q1],[dn Z q2]]),an (.sl 1 (ints θ b)),an (.sl 1 (bL ls))]] [cR R (ai T) (ξ true) (.mp 1) (.mp 2) (.ae (L.cur.map bn)) (.sl 3 0 (nO R)) (.sl 4 0 (nD R)),af I,af Q,rO R,rD R] (fD 13 dW K):=by
 have fin:∀{R':φ} {kb':KB},ik R fr ⟨kd,[q0,q1,q2],b,ls⟩=R'->aF R' kb'->K (.υ []) kb':=fun{R' kb'} h1 h2=>by
  have:=hK kb'
  rw[h1]at this
  exact this h2
 have h5:dm (R.v.mem.length+R.v.aL.length):=⟨by have:=hR.vl;omega⟩
 have lm:gz (aK θ R.c) R.c:=⟨rfl,hR.cl,hR.cb⟩
 have eV:nO R<=1000000:=by show(ι bD R.out).length<=_;rw[cg];have:=hR.ol;omega
 have hdl:nD R<=1000000:=by show(ι bo R.done).length<=_;rw[cg];have:=hR.dl;omega
 have mC:L.cur.map bn=(cm R).map bn:=by simp [cm,hl]
 refine acq R T I Q (L.cur.map bn) fr kd q0 q1 q2 b ls K ?_
 refine⟨fun f=>(by cases f),fun _=>⟨(by decide:(0:Int)<=1),_,rfl,q1,rfl,fun e1=>fin (P8 hl (.inl (by simpa using e1))) hkb,fun e1=>⟨(by decide:(0:Int)<=2),_,rfl,q2,rfl,fun e2=>fin (P8 hl (.inr (by simpa using e2))) hkb,fun e2=>?_⟩⟩⟩
 have g1:q1=R.ep:=by simpa using e1
 have g2:q2=R.nu:=by simpa using e2
 cases lp:L.cur with
 |none=>
  exact⟨fun f=>(by cases f),fun _=>fin (aap hl lp g1 g2) (by
   unfold aF
   exact⟨_,Q,T,kT hI fr true,hQ,hT,rfl⟩)⟩
 |some p=>
  exact⟨fun _ f=>⟨rfl,⟨hdl⟩,R.v.mem,R.v.aL,R.c,p,lm,rfl,rfl,h5,(kT hQ fr true).b,rfl,zY ⟨hR.cr p (by simp [cm,hl,lp])⟩,fun e=>⟨⟨by simp [bP]⟩,fin ((P7 hl lp g1 g2).trans (KV rfl rfl (by rw[qc (kT hQ fr true)]at e;exact e))) (by
   unfold aF
   exact⟨_,_,T,kT hI fr true,kT hQ fr true,hT,rfl⟩)⟩,fun e=>⟨⟨by simp [bP]⟩,fin ((P7 hl lp g1 g2).trans (KW rfl rfl (by rw[qc (kT hQ fr true)]at e;exact e))) (by
   unfold aF
   refine⟨_,_,T,kT hI fr true,kT hQ fr true,hT,?_⟩
   simp [cR,cS,bo,bn,Du,dn])⟩⟩,fun f=>(by cases f)⟩
theorem Yy (R:φ) (T:ML) (I Q:ML) (L:dx) (fr kd q0 q1 q2:Int) (b:List Int) (ls:List (List Int)) (hT:bG T R.t) (hl:R.ld=some L) (hI:MB I L.ins) (hQ:MB Q L.dR) (hR:c8 R) (hkb:aF R [cR R (ai T) (ξ true) (.mp 1) (.mp 2) (.ae (L.cur.map bn)) (.sl 3 0 (nO R)) (.sl 4 0 (nD R)),af I,af Q,rO R,rD R]) (K:V->KB->Prop) (hK:∀ kb',aF (ia R fr ⟨kd,[q0,q1,q2],b,ls⟩) kb'->K (.υ []) kb'):aO Tryz.prog iC (fun _=>none) 90 [ac 0 0,.int Z fr,.agg [.int Z kd,an (.sl 1 [[dn Z q0],[dn Z q1],[dn Z q2]]),an (.sl 1 (ints θ b)),an (.sl 1 (bL ls))]] [cR R (ai T) (ξ true) (.mp 1) (.mp 2) (.ae (L.cur.map bn)) (.sl 3 0 (nO R)) (.sl 4 0 (nD R)),af I,af Q,rO R,rD R] (fD 13 dW K):=by
 have fin:∀{R':φ} {kb':KB},ia R fr ⟨kd,[q0,q1,q2],b,ls⟩=R'->aF R' kb'->K (.υ []) kb':=fun{R' kb'} h1 h2=>by
  have:=hK kb'
  rw[h1]at this
  exact this h2
 have h5:dm (R.v.mem.length+R.v.aL.length):=⟨by have:=hR.vl;omega⟩
 have lm:gz (aK θ R.c) R.c:=⟨rfl,hR.cl,hR.cb⟩
 have eV:nO R<=1000000:=by show(ι bD R.out).length<=_;rw[cg];have:=hR.ol;omega
 have hdl:nD R<=1000000:=by show(ι bo R.done).length<=_;rw[cg];have:=hR.dl;omega
 have mC:L.cur.map bn=(cm R).map bn:=by simp [cm,hl]
 refine abZ R T I Q (L.cur.map bn) fr kd q0 q1 q2 b ls K ?_
 cases lp:L.cur with
 |none=>
  have same:=fin (Yu hl lp) hkb
  rw[lp]at same
  exact⟨fun _=>⟨(by decide:(0:Int)<=1),_,rfl,q1,rfl,fun _=>⟨(by decide:(0:Int)<=2),_,rfl,q2,rfl,fun _=>⟨fun f=>(by cases f),fun _=>same⟩,fun _=>same⟩,fun _=>same⟩,fun _=>same⟩
 |some p=>
  have same:=fun h=>fin (Yw hl lp h) hkb
  rw[lp]at same
  exact⟨fun _=>⟨(by decide:(0:Int)<=1),_,rfl,q1,rfl,fun e1=>⟨(by decide:(0:Int)<=2),_,rfl,q2,rfl,fun e2=>⟨fun _ f=>⟨rfl,⟨hdl⟩,R.v.mem,R.v.aL,R.c,p,lm,rfl,rfl,h5,(kT hQ fr true).b,rfl,zY ⟨hR.cr p (by simp [cm,hl,lp])⟩,fun e=>⟨⟨by simp [bP]⟩,fin ((Oe hl lp (show q1=R.ep by simpa using e1) (show q2=R.nu by simpa using e2)).trans (KV rfl rfl (by rw[qc (kT hQ fr true)]at e;exact e))) (by
   unfold aF
   exact⟨I,_,T,hI,kT hQ fr true,hT,rfl⟩)⟩,fun e=>⟨⟨by simp [bP]⟩,fin ((Oe hl lp (show q1=R.ep by simpa using e1) (show q2=R.nu by simpa using e2)).trans (KW rfl rfl (by rw[qc (kT hQ fr true)]at e;exact e))) (by
   unfold aF
   refine⟨I,_,T,hI,kT hQ fr true,hT,?_⟩
   simp [cR,cS,bo,bn,Du,dn])⟩⟩,fun f=>(by cases f)⟩,fun e2=>same fun h=>absurd h.2 (show ¬ q2=R.nu by simpa using e2)⟩,fun e1=>same fun h=>absurd h.1 (show ¬ q1=R.ep by simpa using e1)⟩,fun f=>(by cases f)⟩
theorem Zt (R:φ) (T:ML) (I Q:ML) (L:dx) (fr kd q0 q1 q2:Int) (b:List Int) (ls:List (List Int)) (hT:bG T R.t) (hl:R.ld=some L) (hI:MB I L.ins) (hQ:MB Q L.dR) (hR:c8 R) (hkb:aF R [cR R (ai T) (ξ true) (.mp 1) (.mp 2) (.ae (L.cur.map bn)) (.sl 3 0 (nO R)) (.sl 4 0 (nD R)),af I,af Q,rO R,rD R]) (K:V->KB->Prop) (hK:∀ kb',aF (ic R fr ⟨kd,[q0,q1,q2],b,ls⟩) kb'->K (.υ []) kb'):aO Tryz.prog iC (fun _=>none) 91 [ac 0 0,.int Z fr,.agg [.int Z kd,an (.sl 1 [[dn Z q0],[dn Z q1],[dn Z q2]]),an (.sl 1 (ints θ b)),an (.sl 1 (bL ls))]] [cR R (ai T) (ξ true) (.mp 1) (.mp 2) (.ae (L.cur.map bn)) (.sl 3 0 (nO R)) (.sl 4 0 (nD R)),af I,af Q,rO R,rD R] (fD 13 dW K):=by
 have fin:∀{R':φ} {kb':KB},ic R fr ⟨kd,[q0,q1,q2],b,ls⟩=R'->aF R' kb'->K (.υ []) kb':=fun{R' kb'} h1 h2=>by
  have:=hK kb'
  rw[h1]at this
  exact this h2
 have h5:dm (R.v.mem.length+R.v.aL.length):=⟨by have:=hR.vl;omega⟩
 have lm:gz (aK θ R.c) R.c:=⟨rfl,hR.cl,hR.cb⟩
 have eV:nO R<=1000000:=by show(ι bD R.out).length<=_;rw[cg];have:=hR.ol;omega
 have hdl:nD R<=1000000:=by show(ι bo R.done).length<=_;rw[cg];have:=hR.dl;omega
 have mC:L.cur.map bn=(cm R).map bn:=by simp [cm,hl]
 refine acb R T I Q (L.cur.map bn) fr kd q0 q1 q2 b ls K ?_
 exact⟨fun f=>(by cases f),fun _=>⟨(by decide:(0:Int)<=1),_,rfl,q1,rfl,fun e1 f=>⟨rfl,⟨hdl⟩,cm R,mC,⟨by simp [bP]⟩,fun f=>fin (Zp hl (show R.ep<q1 by simpa using e1)) (by
  unfold aF
  refine⟨f 14,f 15,T,hT,?_⟩
  simp only[nD,rD,qR]
  rfl)⟩,fun e1=>⟨(by decide:(0:Int)<=1),_,rfl,q1,rfl,fun e2=>⟨(by decide:(0:Int)<=2),_,rfl,q2,rfl,fun e3 f=>⟨rfl,⟨hdl⟩,cm R,mC,⟨by simp [bP]⟩,fun f=>fin (Zr hl (show q1=R.ep by simpa using e2) (show R.nu<q2 by simpa using e3)) (by
  unfold aF
  refine⟨f 14,f 15,T,hT,?_⟩
  simp only[nD,rD,qR]
  rfl)⟩,fun e3=>fun f=>⟨rfl,⟨eV⟩,R.c,R.t,lm,hT,⟨by simp [bP]⟩,fin (O1 hl (show ¬ R.ep<q1 by simpa using e1) (fun h=>absurd h.2 (show ¬ R.nu<q2 by simpa using e3))) (by
  unfold aF oE gw
  simp only
  refine⟨_,Q,T,kT hI fr false,hQ,hT,?_⟩
  simp [cR,cS,fW,bD,h_,kY,fc,dn,ints]
  try rfl)⟩⟩,fun e2=>fun f=>⟨rfl,⟨eV⟩,R.c,R.t,lm,hT,⟨by simp [bP]⟩,fin (O1 hl (show ¬ R.ep<q1 by simpa using e1) (fun h=>absurd h.1 (show ¬ q1=R.ep by simpa using e2))) (by
  unfold aF oE gw
  simp only
  refine⟨_,Q,T,kT hI fr false,hQ,hT,?_⟩
  simp [cR,cS,fW,bD,h_,kY,fc,dn,ints]
  try rfl)⟩⟩⟩⟩
def Rw:aH:=fun args kb K=>∃ R fr kd q0 q1 q2 b ls,args=[ac 0 0,.int Z fr,.agg [.int Z kd,an (.sl 1 [[dn Z q0],[dn Z q1],[dn Z q2]]),an (.sl 1 (ints θ b)),an (.sl 1 (bL ls))]]/\aF R kb/\c8 R/\∀ kb',aF (ik R fr ⟨kd,[q0,q1,q2],b,ls⟩) kb'->K (.υ []) kb'
theorem Yh:fw Tryz.prog 88 Rw:=rS mixed 13 dW (fun args kb K h=>by
 obtain⟨R,fr,kd,q0,q1,q2,b,ls,rfl,hkb,hR,hK⟩:=h
 have gN:=hkb
 unfold aF at hkb
 split at hkb
 ·rename_i hl
  obtain⟨χ,ψ,T,hT,rfl⟩:=hkb
  exact⟨_,_,nR,aat R T χ ψ fr kd q0 q1 q2 b ls hT hl hR (fun a b=>by unfold aF;simp only[hl];exact⟨a,b,T,hT,rfl⟩) K hK⟩
 ·rename_i L hl
  obtain⟨I,Q,T,hI,hQ,hT,rfl⟩:=hkb
  exact⟨_,_,nR,aas R T I Q L fr kd q0 q1 q2 b ls hT hl hI hQ hR gN K hK⟩)
def Rq:aH:=fun args kb K=>∃ R fr kd q0 q1 q2 b ls,args=[ac 0 0,.int Z fr,.agg [.int Z kd,an (.sl 1 [[dn Z q0],[dn Z q1],[dn Z q2]]),an (.sl 1 (ints θ b)),an (.sl 1 (bL ls))]]/\aF R kb/\c8 R/\∀ kb',aF (ia R fr ⟨kd,[q0,q1,q2],b,ls⟩) kb'->K (.υ []) kb'
theorem XH:fw Tryz.prog 90 Rq:=rS mixed 13 dW (fun args kb K h=>by
 obtain⟨R,fr,kd,q0,q1,q2,b,ls,rfl,hkb,hR,hK⟩:=h
 have gN:=hkb
 unfold aF at hkb
 split at hkb
 ·rename_i hl
  obtain⟨χ,ψ,T,hT,rfl⟩:=hkb
  exact⟨_,_,nR,Yz R T χ ψ fr kd q0 q1 q2 b ls hT hl hR (fun a b=>by unfold aF;simp only[hl];exact⟨a,b,T,hT,rfl⟩) K hK⟩
 ·rename_i L hl
  obtain⟨I,Q,T,hI,hQ,hT,rfl⟩:=hkb
  exact⟨_,_,nR,Yy R T I Q L fr kd q0 q1 q2 b ls hT hl hI hQ hR gN K hK⟩)
def Rs:aH:=fun args kb K=>∃ R fr kd q0 q1 q2 b ls,args=[ac 0 0,.int Z fr,.agg [.int Z kd,an (.sl 1 [[dn Z q0],[dn Z q1],[dn Z q2]]),an (.sl 1 (ints θ b)),an (.sl 1 (bL ls))]]/\aF R kb/\c8 R/\∀ kb',aF (ic R fr ⟨kd,[q0,q1,q2],b,ls⟩) kb'->K (.υ []) kb'
theorem X7:fw Tryz.prog 91 Rs:=rS mixed 13 dW (fun args kb K h=>by
 obtain⟨R,fr,kd,q0,q1,q2,b,ls,rfl,hkb,hR,hK⟩:=h
 have gN:=hkb
 unfold aF at hkb
 split at hkb
 ·rename_i hl
  obtain⟨χ,ψ,T,hT,rfl⟩:=hkb
  exact⟨_,_,nR,Zu R T χ ψ fr kd q0 q1 q2 b ls hT hl hR (fun a b=>by unfold aF;simp only[hl];exact⟨a,b,T,hT,rfl⟩) K hK⟩
 ·rename_i L hl
  obtain⟨I,Q,T,hI,hQ,hT,rfl⟩:=hkb
  exact⟨_,_,nR,Zt R T I Q L fr kd q0 q1 q2 b ls hT hl hI hQ hR gN K hK⟩)
abbrev tD (kd q0 q1 q2 q3 q4 q5 q6 q7:Int) (b:List Int) (ls:List (List Int)):KO:=.cells [.int Z kd,an (.sl 1 [[dn Z q0],[dn Z q1],[dn Z q2],[dn Z q3],[dn Z q4],[dn Z q5],[dn Z q6],[dn Z q7]]),an (.sl 1 (ints θ b)),an (.sl 1 (bL ls))]
def nF (R:φ) (q1 q2:Int):Bool:=decide (q1=R.ep/\q2=R.nu/\eL R=false)
def iM (R:φ) (q1 q2:Int) (o:Op):Bool:=decide (q1=R.ep/\q2=R.nu+1/\eL R=false/\gg o=true)
def gf (R:φ) (q1 q2 q7:Int) (o:Op):Bool:=iM R q1 q2 o && (o.kd != 4 || dy R.c == q7)
abbrev N7 (R:φ) (T:ML) (χ ψ:Value) (fr kd q0 q1 q2 q3 q4 q5 q6 q7:Int) (b:List Int) (ls:List (List Int)):LI where
 α:=Unit
 live:=[0,1,5,6]
 st _:=([ac 0 0,.int Z fr,ac 3 0,ac 4 0],[cR R (ai T) (ξ false) (γ χ) (γ ψ) (.ae none) (.sl 1 0 (nO R)) (.sl 2 0 (nD R)),rO R,rD R,tD kd q0 q1 q2 q3 q4 q5 q6 q7 b ls,ω [.int Z q3,.int Z q4,.int Z q5,.int Z q6,an (.sl 1 (ints θ b))]])
 μ _:=0
abbrev N9 (R:φ) (T:ML) (χ ψ:Value) (fr kd q0 q1 q2 q3 q4 q5 q6 q7:Int) (b:List Int) (ls:List (List Int)):LI where
 α:=Unit
 live:=[0,1,5,6,7]
 st _:=([ac 0 0,.int Z fr,ac 3 0,ac 4 0,ξ (iM R q1 q2 ⟨q3,q4,q5,q6,b⟩)],[cR R (ai T) (ξ false) (γ χ) (γ ψ) (.ae none) (.sl 1 0 (nO R)) (.sl 2 0 (nD R)),rO R,rD R,tD kd q0 q1 q2 q3 q4 q5 q6 q7 b ls,ω [.int Z q3,.int Z q4,.int Z q5,.int Z q6,an (.sl 1 (ints θ b))]])
 μ _:=0
abbrev Oa (R:φ) (T:ML) (χ ψ:Value) (fr kd q0 q1 q2 q3 q4 q5 q6 q7:Int) (b:List Int) (ls:List (List Int)):LI where
 α:=Unit
 live:=[0,1,5,6,7,62]
 st _:=([ac 0 0,.int Z fr,ac 3 0,ac 4 0,ξ (iM R q1 q2 ⟨q3,q4,q5,q6,b⟩),ξ (nF R q1 q2)],[cR R (ai T) (ξ false) (γ χ) (γ ψ) (.ae none) (.sl 1 0 (nO R)) (.sl 2 0 (nD R)),rO R,rD R,tD kd q0 q1 q2 q3 q4 q5 q6 q7 b ls,ω [.int Z q3,.int Z q4,.int Z q5,.int Z q6,an (.sl 1 (ints θ b))]])
 μ _:=0
abbrev Oc (R:φ) (T:ML) (χ ψ:Value) (fr kd q0 q1 q2 q3 q4 q5 q6 q7:Int) (b:List Int) (ls:List (List Int)):LI where
 α:=Unit
 live:=[0,1,6,90]
 st _:=([ac 0 0,.int Z fr,ac 3 0,ξ (gf R q1 q2 q7 ⟨q3,q4,q5,q6,b⟩)],[cR R (ai T) (ξ false) (γ χ) (γ ψ) (.ae none) (.sl 1 0 (nO R)) (.sl 2 0 (nD R)),rO R,rD R,ω [.int Z q3,.int Z q4,.int Z q5,.int Z q6,an (.sl 1 (ints θ b))]])
 μ _:=0
def Oi (R:φ) (T:ML) (χ ψ:Value) (fr kd q0 q1 q2 q3 q4 q5 q6 q7:Int) (b:List Int) (ls:List (List Int)):Nat->Option LI
 | 1002=>some (N7 R T χ ψ fr kd q0 q1 q2 q3 q4 q5 q6 q7 b ls)
 | 1004=>some (N9 R T χ ψ fr kd q0 q1 q2 q3 q4 q5 q6 q7 b ls)
 | 1005=>some (Oa R T χ ψ fr kd q0 q1 q2 q3 q4 q5 q6 q7 b ls)
 | 1006=>some (Oc R T χ ψ fr kd q0 q1 q2 q3 q4 q5 q6 q7 b ls)
 |_=>none
abbrev N6 (R:φ) (T:ML) (I Q:ML) (u:Option (List D)) (fr kd q0 q1 q2 q3 q4 q5 q6 q7:Int) (b:List Int) (ls:List (List Int)):LI where
 α:=Unit
 live:=[0,1,5,6]
 st _:=([ac 0 0,.int Z fr,ac 5 0,ac 6 0],[cR R (ai T) (ξ true) (.mp 1) (.mp 2) (.ae u) (.sl 3 0 (nO R)) (.sl 4 0 (nD R)),af I,af Q,rO R,rD R,tD kd q0 q1 q2 q3 q4 q5 q6 q7 b ls,ω [.int Z q3,.int Z q4,.int Z q5,.int Z q6,an (.sl 1 (ints θ b))]])
 μ _:=0
abbrev N8 (R:φ) (T:ML) (I Q:ML) (u:Option (List D)) (fr kd q0 q1 q2 q3 q4 q5 q6 q7:Int) (b:List Int) (ls:List (List Int)):LI where
 α:=Unit
 live:=[0,1,5,6,7]
 st _:=([ac 0 0,.int Z fr,ac 5 0,ac 6 0,ξ (iM R q1 q2 ⟨q3,q4,q5,q6,b⟩)],[cR R (ai T) (ξ true) (.mp 1) (.mp 2) (.ae u) (.sl 3 0 (nO R)) (.sl 4 0 (nD R)),af I,af Q,rO R,rD R,tD kd q0 q1 q2 q3 q4 q5 q6 q7 b ls,ω [.int Z q3,.int Z q4,.int Z q5,.int Z q6,an (.sl 1 (ints θ b))]])
 μ _:=0
abbrev N_ (R:φ) (T:ML) (I Q:ML) (u:Option (List D)) (fr kd q0 q1 q2 q3 q4 q5 q6 q7:Int) (b:List Int) (ls:List (List Int)):LI where
 α:=Unit
 live:=[0,1,5,6,7,62]
 st _:=([ac 0 0,.int Z fr,ac 5 0,ac 6 0,ξ (iM R q1 q2 ⟨q3,q4,q5,q6,b⟩),ξ (nF R q1 q2)],[cR R (ai T) (ξ true) (.mp 1) (.mp 2) (.ae u) (.sl 3 0 (nO R)) (.sl 4 0 (nD R)),af I,af Q,rO R,rD R,tD kd q0 q1 q2 q3 q4 q5 q6 q7 b ls,ω [.int Z q3,.int Z q4,.int Z q5,.int Z q6,an (.sl 1 (ints θ b))]])
 μ _:=0
abbrev Ob (R:φ) (T:ML) (I Q:ML) (u:Option (List D)) (fr kd q0 q1 q2 q3 q4 q5 q6 q7:Int) (b:List Int) (ls:List (List Int)):LI where
 α:=Unit
 live:=[0,1,6,90]
 st _:=([ac 0 0,.int Z fr,ac 5 0,ξ (gf R q1 q2 q7 ⟨q3,q4,q5,q6,b⟩)],[cR R (ai T) (ξ true) (.mp 1) (.mp 2) (.ae u) (.sl 3 0 (nO R)) (.sl 4 0 (nD R)),af I,af Q,rO R,rD R,ω [.int Z q3,.int Z q4,.int Z q5,.int Z q6,an (.sl 1 (ints θ b))]])
 μ _:=0
def Oh (R:φ) (T:ML) (I Q:ML) (u:Option (List D)) (fr kd q0 q1 q2 q3 q4 q5 q6 q7:Int) (b:List Int) (ls:List (List Int)):Nat->Option LI
 | 1002=>some (N6 R T I Q u fr kd q0 q1 q2 q3 q4 q5 q6 q7 b ls)
 | 1004=>some (N8 R T I Q u fr kd q0 q1 q2 q3 q4 q5 q6 q7 b ls)
 | 1005=>some (N_ R T I Q u fr kd q0 q1 q2 q3 q4 q5 q6 q7 b ls)
 | 1006=>some (Ob R T I Q u fr kd q0 q1 q2 q3 q4 q5 q6 q7 b ls)
 |_=>none
theorem ab2 (R:φ) (T:ML) (χ ψ:Value) (fr kd q0 q1 q2 q3 q4 q5 q6 q7:Int) (b:List Int) (ls:List (List Int)) (K:V->KB->Prop) (ay:
 let mj:=cR R (ai T) (ξ false) (γ χ) (γ ψ) (aG none) (ε 1 0 (nO R)) (ε 2 0 (nD R));let bB:=[[dn Z q0],[dn Z q1],[dn Z q2],[dn Z q3],[dn Z q4],[dn Z q5],[dn Z q6],[dn Z q7]];let gy:=ω [δ Z q3,δ Z q4,δ Z q5,δ Z q6,an (π 1 (ints θ b))];let aq:KB:=[mj,rO R,rD R,ω [δ Z kd,an (π 1 bB),an (π 1 (ints θ b)),an (π 1 (bL ls))],gy];let ft:=ζ 107 5 (ι bD R.out++[[dn Z fr,η (κ Z 13),π 1 [[dn Z R.id],[dn Z R.ep],[η (κ Z (R.nu+1))]],π 1 [],π 1 []]]);let pU:=(N9 R T χ ψ fr kd q0 q1 q2 q3 q4 q5 q6 q7 b ls);let pV:=(Oc R T χ ψ fr kd q0 q1 q2 q3 q4 q5 q6 q7 b ls);let pW:=[0,2,3,5,7,8,9,10,11,12,13,14,15,16,17,18,19,21];let sI:=[ac 0 0,δ Z fr,ac 3 0,ac 4 0,ξ false];let sH:=(Oa R T χ ψ fr kd q0 q1 q2 q3 q4 q5 q6 q7 b ls);let uq:=[0,1,2,3,4,8,9,10,11,12,13,14,15,16,17,19,20,21];(aQ 3/\
 ∃(y1:List D),bB[3]? =some y1/\
 ∃(y2:Int),y1[0]? =some (η (κ Z y2))/\
 aQ 4/\
 ∃(y3:List D),bB[4]? =some y3/\
 ∃(y4:Int),y3[0]? =some (η (κ Z y4))/\
 aQ 5/\
 ∃(y5:List D),bB[5]? =some y5/\
 ∃(y6:Int),y5[0]? =some (η (κ Z y6))/\
 aQ 6/\
 ∃(y7:List D),bB[6]? =some y7/\
 ∃(y8:Int),y7[0]? =some (η (κ Z y8))/\
 True/\
 (∃(y9:Int),y7[0]? =some (η (κ Z y9))/\
 True)/\
 True/\
 (∃(cq:Int),y5[0]? =some (η (κ Z cq))/\
 True)/\
 True/\
 (∃(b_:Int),y3[0]? =some (η (κ Z b_))/\
 True)/\
 True/\
 (∃(ca:Int),y1[0]? =some (η (κ Z ca))/\
 True)/\
 True/\
 At (N7 R T χ ψ fr kd q0 q1 q2 q3 q4 q5 q6 q7 b ls) ([ac 0 0,δ Z fr,ac 3 0,ac 4 0],[mj,rO R,rD R,ω [δ Z kd,an (π 1 bB),an (π 1 (ints θ b)),an (π 1 (bL ls))],ω [δ Z y2,δ Z y4,δ Z y6,δ Z y8,an (π 1 (ints θ b))]]))/\
 ∀(cf:Unit),(aQ 1/\
 ∃(cE:List D),bB[1]? =some cE/\
 ∃(cj:Int),cE[0]? =some (η (κ Z cj))/\
 ((cj == R.ep)=true->
 aQ 2/\
 ∃(eZ:List D),bB[2]? =some eZ/\
 ∃(cJ:Int),eZ[0]? =some (η (κ Z cJ))/\
 ((cJ == Z.wrap (R.nu+1))=true->
 (true=true->
 At pU ([ac 0 0,δ Z fr,ac 3 0,ac 4 0,ξ (jv q3 q4 q5 q6 (ints θ b).length)],aq))/\
 (true=false->
 At pU (sI,aq)))/\
 ((cJ == Z.wrap (R.nu+1))=false->
 At pU (sI,aq)))/\
 ((cj == R.ep)=false->
 At pU (sI,aq)))/\
 ∀(eu:Unit),(aQ 1/\
 ∃(eF:List D),bB[1]? =some eF/\
 ∃(eS:Int),eF[0]? =some (η (κ Z eS))/\
 ((eS == R.ep)=true->
 aQ 2/\
 ∃(dO:List D),bB[2]? =some dO/\
 ∃(eG:Int),dO[0]? =some (η (κ Z eG))/\
 ((eG == R.nu)=true->
 At sH ([ac 0 0,δ Z fr,ac 3 0,ac 4 0,ξ (iM R q1 q2 {cl:=q3,nm:=q4,kd:=q5,bk:=q6,b:=b}),ξ true],aq))/\
 ((eG == R.nu)=false->
 At sH ([ac 0 0,δ Z fr,ac 3 0,ac 4 0,ξ (iM R q1 q2 {cl:=q3,nm:=q4,kd:=q5,bk:=q6,b:=b}),ξ false],aq)))/\
 ((eS == R.ep)=false->
 At sH ([ac 0 0,δ Z fr,ac 3 0,ac 4 0,ξ (iM R q1 q2 {cl:=q3,nm:=q4,kd:=q5,bk:=q6,b:=b}),ξ false],aq)))/\
 ∀(gH:Unit),(nF R q1 q2=true->
 1<=1/\
 ∀(fq:Nat->
 Value),nO R=(nO R)/\
 bN (nO R)/\
 bN 1/\
 bu fq pW/\
 ∀(dY:Nat->
 Value),K (ar []) [cR R (ai T) (ξ false) (γ (dY 14)) (γ (dY 15)) (aG none) (ε 1 0 (nO R+1)) (ε 2 0 (nD R)),ζ 107 5 (ι bD R.out++[[dn Z fr,η (κ Z 13),π 1 [[dn Z R.id],[dn Z R.ep],[η (κ Z R.nu)]],π 1 [],π 1 []]]),rD R])/\
 (nF R q1 q2=false->
 ((iM R q1 q2 {cl:=q3,nm:=q4,kd:=q5,bk:=q6,b:=b}=true->
 ((q5 != 4)=true->
 At pV ([ac 0 0,δ Z fr,ac 3 0,ξ true],[mj,rO R,rD R,gy]))/\
 ((q5 != 4)=false->
 (∀(cU:Nat->
 Value),∃(dH:List Int),aK θ R.c=aK θ dH/\
 dH.length=128/\
 (∀(dc:Int),ct dc dH->
 0<=dc/\
 dc<256)/\
 bu cU [0,1,2,3,4,5,7,8,9,10,11,12,13,14,15,16,17,18,19,20,21]/\
 aQ 7/\
 ∃(iR:List D),bB[7]? =some iR/\
 ∃(gj:Int),iR[0]? =some (η (κ Z gj))/\
 At pV ([ac 0 0,δ Z fr,ac 3 0,ξ (Z.wrap (dy dH) == gj)],[cS R (δ Z R.nu) (bc 128 (aK θ dH)) (ξ R.ch) (ai T) (ξ false) (γ χ) (γ ψ) (aG none) (ε 1 0 (nO R)) (ε 2 0 (nD R)),rO R,rD R,gy]))/\
 aQ 7/\
 ∃(di:List D),bB[7]? =some di/\
 ∃(iS:Int),di[0]? =some (η (κ Z iS))/\
 ∀(ji:Nat->
 Value),∃(iT:List Int),aK θ R.c=aK θ iT/\
 iT.length=128/\
 (∀(dC:Int),ct dC iT->
 0<=dC/\
 dC<256)/\
 bu ji [0,1,2,3,4,5,7,8,9,10,11,12,13,14,15,16,17,18,19,20,21]/\
 (∃(lN:Int),di[0]? =some (η (κ Z lN))/\
 iz lN iS)/\
 At pV ([ac 0 0,δ Z fr,ac 3 0,ξ (Z.wrap (dy iT) == iS)],[cS R (δ Z R.nu) (bc 128 (aK θ iT)) (ξ R.ch) (ai T) (ξ false) (γ χ) (γ ψ) (aG none) (ε 1 0 (nO R)) (ε 2 0 (nD R)),rO R,rD R,gy])))/\
 (iM R q1 q2 {cl:=q3,nm:=q4,kd:=q5,bk:=q6,b:=b}=false->
 At pV ([ac 0 0,δ Z fr,ac 3 0,ξ false],[mj,rO R,rD R,gy])))/\
 ∀(k_:Unit),(gf R q1 q2 q7 {cl:=q3,nm:=q4,kd:=q5,bk:=q6,b:=b}=true->
 ∀(iU:Nat->
 Value),∃(kg:List Int),∃(kh:List Int),∃(mT:List L3),gz (aK θ R.c) kg/\
 ints θ b=ints θ kh/\
 bG T mT/\
 oR R.nu/\
 sO q3 q4 q5 q6 kh.length/\
 (w9 q5->
 bu iU uq/\
 1<=1/\
 ∀(pR:Nat->
 Value),nO R=(nO R)/\
 bN (nO R)/\
 bN 1/\
 bu pR pW/\
 ∀(oM:Nat->
 Value),K (ar []) [cS R (δ Z (R.nu+1)) (bc 128 (aK θ (eJ kg q5 q6 kh))) (ξ true) (ai T) (ξ false) (γ (oM 14)) (γ (oM 15)) (aG none) (ε 1 0 (nO R+1)) (ε 2 0 (nD R)),ft,rD R])/\
 (wQ q5->
 (kH (cz mT q3 q4 0)->
 bu iU uq/\
 1<=1/\
 ∀(pS:Nat->
 Value),nO R=(nO R)/\
 bN (nO R)/\
 bN 1/\
 bu pS pW/\
 ∀(qP:Nat->
 Value),K (ar []) [cS R (δ Z (R.nu+1)) (bc 128 (aK θ (eJ kg q5 q6 kh))) (ξ true) (ai T) (ξ false) (γ (qP 14)) (γ (qP 15)) (aG none) (ε 1 0 (nO R+1)) (ε 2 0 (nD R)),ft,rD R])/\
 (kF (cz mT q3 q4 0)->
 bu iU uq/\
 1<=1/\
 ∀(pT:Nat->
 Value),nO R=(nO R)/\
 bN (nO R)/\
 bN 1/\
 bu pT pW/\
 ∀(sw:Nat->
 Value),K (ar []) [cS R (δ Z (R.nu+1)) (bc 128 (aK θ (eJ kg q5 q6 kh))) (ξ true) (ai (av T [q3] [dn Z q4,η (κ Z 0)])) (ξ false) (γ (sw 14)) (γ (sw 15)) (aG none) (ε 1 0 (nO R+1)) (ε 2 0 (nD R)),ft,rD R])))/\
 (gf R q1 q2 q7 {cl:=q3,nm:=q4,kd:=q5,bk:=q6,b:=b}=false->
 ∀(sx:Nat->
 Value),nO R=(nO R)/\
 bN (nO R)/\
 bu sx [0,2,3,7,8,9,10,11,12,13,14,15,16,17,18,19,21]/\
 ∀(qQ:Nat->
 Value),K (ar []) [cR R (ai T) (ξ false) (γ (qQ 14)) (γ (qQ 15)) (aG none) (ε 1 0 (nO R+1)) (ε 2 0 (nD R)),ζ 107 5 (ι bD R.out++[[dn Z fr,η (κ Z 14),π 1 [[dn Z R.id],[dn Z R.ep],[dn Z R.nu]],π 1 [],π 1 []]]),rD R]))
 ):aO Tryz.prog iC (Oi R T χ ψ fr kd q0 q1 q2 q3 q4 q5 q6 q7 b ls) 89 [ac 0 0,.int Z fr,.agg [.int Z kd,an (.sl 1 [[dn Z q0],[dn Z q1],[dn Z q2],[dn Z q3],[dn Z q4],[dn Z q5],[dn Z q6],[dn Z q7]]),an (.sl 1 (ints θ b)),an (.sl 1 (bL ls))]] [cR R (ai T) (ξ false) (γ χ) (γ ψ) (.ae none) (.sl 1 0 (nO R)) (.sl 2 0 (nD R)),rO R,rD R] (fD 13 dW K):=by apply Eq.mp (a:=ay);kernel_rfl
theorem ab1 (R:φ) (T:ML) (I Q:ML) (u:Option (List D)) (fr kd q0 q1 q2 q3 q4 q5 q6 q7:Int) (b:List Int) (ls:List (List Int)) (K:V->KB->Prop) (ay:
 let mj:=cR R (ai T) (ξ true) (aV 1) (aV 2) (aG u) (ε 3 0 (nO R)) (ε 4 0 (nD R));let bB:=[[dn Z q0],[dn Z q1],[dn Z q2],[dn Z q3],[dn Z q4],[dn Z q5],[dn Z q6],[dn Z q7]];let gy:=ω [δ Z q3,δ Z q4,δ Z q5,δ Z q6,an (π 1 (ints θ b))];let aq:KB:=[mj,af I,af Q,rO R,rD R,ω [δ Z kd,an (π 1 bB),an (π 1 (ints θ b)),an (π 1 (bL ls))],gy];let ft:=ζ 107 5 (ι bD R.out++[[dn Z fr,η (κ Z 13),π 1 [[dn Z R.id],[dn Z R.ep],[η (κ Z (R.nu+1))]],π 1 [],π 1 []]]);let pU:=(N8 R T I Q u fr kd q0 q1 q2 q3 q4 q5 q6 q7 b ls);let pV:=(Ob R T I Q u fr kd q0 q1 q2 q3 q4 q5 q6 q7 b ls);let pW:=[0,2,3,5,7,8,9,10,11,12,13,14,15,16,17,18,19,21];let sI:=[ac 0 0,δ Z fr,ac 5 0,ac 6 0,ξ false];let sH:=(N_ R T I Q u fr kd q0 q1 q2 q3 q4 q5 q6 q7 b ls);let uq:=cR R (ai T) (ξ true) (aV 1) (aV 2) (aG u) (ε 3 0 (nO R+1)) (ε 4 0 (nD R));let HY:=[0,1,2,3,4,8,9,10,11,12,13,14,15,16,17,19,20,21];(aQ 3/\
 ∃(y1:List D),bB[3]? =some y1/\
 ∃(y2:Int),y1[0]? =some (η (κ Z y2))/\
 aQ 4/\
 ∃(y3:List D),bB[4]? =some y3/\
 ∃(y4:Int),y3[0]? =some (η (κ Z y4))/\
 aQ 5/\
 ∃(y5:List D),bB[5]? =some y5/\
 ∃(y6:Int),y5[0]? =some (η (κ Z y6))/\
 aQ 6/\
 ∃(y7:List D),bB[6]? =some y7/\
 ∃(y8:Int),y7[0]? =some (η (κ Z y8))/\
 True/\
 (∃(y9:Int),y7[0]? =some (η (κ Z y9))/\
 True)/\
 True/\
 (∃(cq:Int),y5[0]? =some (η (κ Z cq))/\
 True)/\
 True/\
 (∃(b_:Int),y3[0]? =some (η (κ Z b_))/\
 True)/\
 True/\
 (∃(ca:Int),y1[0]? =some (η (κ Z ca))/\
 True)/\
 True/\
 At (N6 R T I Q u fr kd q0 q1 q2 q3 q4 q5 q6 q7 b ls) ([ac 0 0,δ Z fr,ac 5 0,ac 6 0],[mj,af I,af Q,rO R,rD R,ω [δ Z kd,an (π 1 bB),an (π 1 (ints θ b)),an (π 1 (bL ls))],ω [δ Z y2,δ Z y4,δ Z y6,δ Z y8,an (π 1 (ints θ b))]]))/\
 ∀(cf:Unit),(aQ 1/\
 ∃(cE:List D),bB[1]? =some cE/\
 ∃(cj:Int),cE[0]? =some (η (κ Z cj))/\
 ((cj == R.ep)=true->
 aQ 2/\
 ∃(eZ:List D),bB[2]? =some eZ/\
 ∃(cJ:Int),eZ[0]? =some (η (κ Z cJ))/\
 ((cJ == Z.wrap (R.nu+1))=true->
 (false=true->
 At pU ([ac 0 0,δ Z fr,ac 5 0,ac 6 0,ξ (jv q3 q4 q5 q6 (ints θ b).length)],aq))/\
 (false=false->
 At pU (sI,aq)))/\
 ((cJ == Z.wrap (R.nu+1))=false->
 At pU (sI,aq)))/\
 ((cj == R.ep)=false->
 At pU (sI,aq)))/\
 ∀(eu:Unit),(aQ 1/\
 ∃(eF:List D),bB[1]? =some eF/\
 ∃(eS:Int),eF[0]? =some (η (κ Z eS))/\
 ((eS == R.ep)=true->
 aQ 2/\
 ∃(dO:List D),bB[2]? =some dO/\
 ∃(eG:Int),dO[0]? =some (η (κ Z eG))/\
 ((eG == R.nu)=true->
 At sH ([ac 0 0,δ Z fr,ac 5 0,ac 6 0,ξ (iM R q1 q2 {cl:=q3,nm:=q4,kd:=q5,bk:=q6,b:=b}),ξ false],aq))/\
 ((eG == R.nu)=false->
 At sH ([ac 0 0,δ Z fr,ac 5 0,ac 6 0,ξ (iM R q1 q2 {cl:=q3,nm:=q4,kd:=q5,bk:=q6,b:=b}),ξ false],aq)))/\
 ((eS == R.ep)=false->
 At sH ([ac 0 0,δ Z fr,ac 5 0,ac 6 0,ξ (iM R q1 q2 {cl:=q3,nm:=q4,kd:=q5,bk:=q6,b:=b}),ξ false],aq)))/\
 ∀(gH:Unit),(nF R q1 q2=true->
 1<=1/\
 ∀(fq:Nat->
 Value),nO R=(nO R)/\
 bN (nO R)/\
 bN 1/\
 bu fq pW/\
 K (ar []) [uq,af I,af Q,ζ 107 5 (ι bD R.out++[[dn Z fr,η (κ Z 13),π 1 [[dn Z R.id],[dn Z R.ep],[η (κ Z R.nu)]],π 1 [],π 1 []]]),rD R])/\
 (nF R q1 q2=false->
 ((iM R q1 q2 {cl:=q3,nm:=q4,kd:=q5,bk:=q6,b:=b}=true->
 ((q5 != 4)=true->
 At pV ([ac 0 0,δ Z fr,ac 5 0,ξ true],[mj,af I,af Q,rO R,rD R,gy]))/\
 ((q5 != 4)=false->
 (∀(dY:Nat->
 Value),∃(cU:List Int),aK θ R.c=aK θ cU/\
 cU.length=128/\
 (∀(dH:Int),ct dH cU->
 0<=dH/\
 dH<256)/\
 bu dY [0,1,2,3,4,5,7,8,9,10,11,12,13,14,15,16,17,18,19,20,21]/\
 aQ 7/\
 ∃(dc:List D),bB[7]? =some dc/\
 ∃(iR:Int),dc[0]? =some (η (κ Z iR))/\
 At pV ([ac 0 0,δ Z fr,ac 5 0,ξ (Z.wrap (dy cU) == iR)],[cS R (δ Z R.nu) (bc 128 (aK θ cU)) (ξ R.ch) (ai T) (ξ true) (aV 1) (aV 2) (aG u) (ε 3 0 (nO R)) (ε 4 0 (nD R)),af I,af Q,rO R,rD R,gy]))/\
 aQ 7/\
 ∃(gj:List D),bB[7]? =some gj/\
 ∃(di:Int),gj[0]? =some (η (κ Z di))/\
 ∀(iS:Nat->
 Value),∃(ji:List Int),aK θ R.c=aK θ ji/\
 ji.length=128/\
 (∀(iT:Int),ct iT ji->
 0<=iT/\
 iT<256)/\
 bu iS [0,1,2,3,4,5,7,8,9,10,11,12,13,14,15,16,17,18,19,20,21]/\
 (∃(dC:Int),gj[0]? =some (η (κ Z dC))/\
 iz dC di)/\
 At pV ([ac 0 0,δ Z fr,ac 5 0,ξ (Z.wrap (dy ji) == di)],[cS R (δ Z R.nu) (bc 128 (aK θ ji)) (ξ R.ch) (ai T) (ξ true) (aV 1) (aV 2) (aG u) (ε 3 0 (nO R)) (ε 4 0 (nD R)),af I,af Q,rO R,rD R,gy])))/\
 (iM R q1 q2 {cl:=q3,nm:=q4,kd:=q5,bk:=q6,b:=b}=false->
 At pV ([ac 0 0,δ Z fr,ac 5 0,ξ false],[mj,af I,af Q,rO R,rD R,gy])))/\
 ∀(lN:Unit),(gf R q1 q2 q7 {cl:=q3,nm:=q4,kd:=q5,bk:=q6,b:=b}=true->
 ∀(k_:Nat->
 Value),∃(iU:List Int),∃(kg:List Int),∃(kh:List L3),gz (aK θ R.c) iU/\
 ints θ b=ints θ kg/\
 bG T kh/\
 oR R.nu/\
 sO q3 q4 q5 q6 kg.length/\
 (w9 q5->
 bu k_ HY/\
 1<=1/\
 ∀(mT:Nat->
 Value),nO R=(nO R)/\
 bN (nO R)/\
 bN 1/\
 bu mT pW/\
 K (ar []) [cS R (δ Z (R.nu+1)) (bc 128 (aK θ (eJ iU q5 q6 kg))) (ξ true) (ai T) (ξ true) (aV 1) (aV 2) (aG u) (ε 3 0 (nO R+1)) (ε 4 0 (nD R)),af I,af Q,ft,rD R])/\
 (wQ q5->
 (kH (cz kh q3 q4 0)->
 bu k_ HY/\
 1<=1/\
 ∀(pR:Nat->
 Value),nO R=(nO R)/\
 bN (nO R)/\
 bN 1/\
 bu pR pW/\
 K (ar []) [cS R (δ Z (R.nu+1)) (bc 128 (aK θ (eJ iU q5 q6 kg))) (ξ true) (ai T) (ξ true) (aV 1) (aV 2) (aG u) (ε 3 0 (nO R+1)) (ε 4 0 (nD R)),af I,af Q,ft,rD R])/\
 (kF (cz kh q3 q4 0)->
 bu k_ HY/\
 1<=1/\
 ∀(oM:Nat->
 Value),nO R=(nO R)/\
 bN (nO R)/\
 bN 1/\
 bu oM pW/\
 K (ar []) [cS R (δ Z (R.nu+1)) (bc 128 (aK θ (eJ iU q5 q6 kg))) (ξ true) (ai (av T [q3] [dn Z q4,η (κ Z 0)])) (ξ true) (aV 1) (aV 2) (aG u) (ε 3 0 (nO R+1)) (ε 4 0 (nD R)),af I,af Q,ft,rD R])))/\
 (gf R q1 q2 q7 {cl:=q3,nm:=q4,kd:=q5,bk:=q6,b:=b}=false->
 ∀(pS:Nat->
 Value),nO R=(nO R)/\
 bN (nO R)/\
 bu pS [0,2,3,7,8,9,10,11,12,13,14,15,16,17,18,19,21]/\
 K (ar []) [uq,af I,af Q,ζ 107 5 (ι bD R.out++[[dn Z fr,η (κ Z 14),π 1 [[dn Z R.id],[dn Z R.ep],[dn Z R.nu]],π 1 [],π 1 []]]),rD R]))
 ):aO Tryz.prog iC (Oh R T I Q u fr kd q0 q1 q2 q3 q4 q5 q6 q7 b ls) 89 [ac 0 0,.int Z fr,.agg [.int Z kd,an (.sl 1 [[dn Z q0],[dn Z q1],[dn Z q2],[dn Z q3],[dn Z q4],[dn Z q5],[dn Z q6],[dn Z q7]]),an (.sl 1 (ints θ b)),an (.sl 1 (bL ls))]] [cR R (ai T) (ξ true) (.mp 1) (.mp 2) (.ae u) (.sl 3 0 (nO R)) (.sl 4 0 (nD R)),af I,af Q,rO R,rD R] (fD 13 dW K):=by apply Eq.mp (a:=ay);kernel_rfl
theorem vV {R:φ} {q1 q2:Int} {o:Op} (h:¬ (q1=R.ep/\q2=R.nu+1/\eL R=false)):iM R q1 q2 o=false:=by
 unfold iM;exact decide_eq_false fun⟨a,b,c,_⟩=>h ⟨a,b,c⟩
theorem Yt {R:φ} {q1 q2:Int} {o:Op} (h1:q1=R.ep) (h2:q2=R.nu+1) (h3:eL R=false):iM R q1 q2 o=gg o:=by
 unfold iM;simp [h1,h2,h3]
theorem vW {R:φ} {q1 q2:Int} (h:¬ (q1=R.ep/\q2=R.nu/\eL R=false)):nF R q1 q2=false:=decide_eq_false h
theorem YB {R:φ} {q1 q2:Int} (h1:q1=R.ep) (h2:q2=R.nu) (h3:eL R=false):nF R q1 q2=true:=decide_eq_true ⟨h1,h2,h3⟩
theorem Og {R:φ} {fr kd q0 q1 q2 q3 q4 q5 q6 q7:Int} {b:List Int} {ls:List (List Int)} (h:nF R q1 q2=true):iN R fr ⟨kd,[q0,q1,q2,q3,q4,q5,q6,q7],b,ls⟩=gw R fr 13 [R.nu] [] []:=by
 unfold iN;exact if_pos (of_decide_eq_true h)
theorem F5 {R:φ} {q1 q2 q3 q4 q5 q6 q7:Int} {b:List Int}:gf R q1 q2 q7 ⟨q3,q4,q5,q6,b⟩=true ↔ (q1=R.ep/\q2=R.nu+1/\eL R=false/\gg ⟨q3,q4,q5,q6,b⟩=true/\(q5≠4∨dy R.c=q7)):=by
 unfold gf iM
 simp [and_assoc]
theorem F6 {R:φ} {fr kd q0 q1 q2 q3 q4 q5 q6 q7:Int} {b:List Int} {ls:List (List Int)} (h:nF R q1 q2=false) (h2:gf R q1 q2 q7 ⟨q3,q4,q5,q6,b⟩=true):iN R fr ⟨kd,[q0,q1,q2,q3,q4,q5,q6,q7],b,ls⟩=gw (iE R ⟨q3,q4,q5,q6,b⟩) fr 13 [R.nu+1] [] []:=by
 unfold iN
 exact(if_neg (of_decide_eq_false h)).trans (if_pos (F5.1 h2))
theorem Of {R:φ} {fr kd q0 q1 q2 q3 q4 q5 q6 q7:Int} {b:List Int} {ls:List (List Int)} (h:nF R q1 q2=false) (h2:gf R q1 q2 q7 ⟨q3,q4,q5,q6,b⟩=false):iN R fr ⟨kd,[q0,q1,q2,q3,q4,q5,q6,q7],b,ls⟩=oz R fr:=by
 unfold iN
 exact(if_neg (of_decide_eq_false h)).trans (if_neg (fun hh=>by have h3:gf R q1 q2 q7 ⟨q3,q4,q5,q6,b⟩=true:=F5.2 hh;rw[h2]at h3;cases h3))
theorem KA {t:List L3} {o:Op} (h:mA o=false∨cz t o.cl o.nm 0≠0):m6 t o=t:=by
 unfold m6
 rw[if_neg]
 rintro⟨h1,h2⟩
 rcases h with h | h
 ·rw[h]at h1;cases h1
 ·exact h h2
theorem Tt {t:List L3} {o:Op} (h:mA o=true) (h2:cz t o.cl o.nm 0=0):m6 t o=nI t o.cl o.nm 0:=by
 unfold m6
 rw[if_pos ⟨h,h2⟩]
theorem YH (R:φ) (T:ML) (χ ψ:Value) (fr kd q0 q1 q2 q3 q4 q5 q6 q7:Int) (b:List Int) (ls:List (List Int)) (hT:bG T R.t) (hl:R.ld=none) (hR:c8 R) (dM:∀ χ ψ,aF R [cR R (ai T) (ξ false) (γ χ) (γ ψ) (.ae none) (.sl 1 0 (nO R)) (.sl 2 0 (nD R)),rO R,rD R]) (K:V->KB->Prop) (hK:∀ kb',aF (iN R fr ⟨kd,[q0,q1,q2,q3,q4,q5,q6,q7],b,ls⟩) kb'->K (.υ []) kb'):aO Tryz.prog iC (Oi R T χ ψ fr kd q0 q1 q2 q3 q4 q5 q6 q7 b ls) 89 [ac 0 0,.int Z fr,.agg [.int Z kd,an (.sl 1 [[dn Z q0],[dn Z q1],[dn Z q2],[dn Z q3],[dn Z q4],[dn Z q5],[dn Z q6],[dn Z q7]]),an (.sl 1 (ints θ b)),an (.sl 1 (bL ls))]] [cR R (ai T) (ξ false) (γ χ) (γ ψ) (.ae none) (.sl 1 0 (nO R)) (.sl 2 0 (nD R)),rO R,rD R] (fD 13 dW K):=by
 have fin:∀{R':φ} {kb':KB},iN R fr ⟨kd,[q0,q1,q2,q3,q4,q5,q6,q7],b,ls⟩=R'->aF R' kb'->K (.υ []) kb':=fun{R' kb'} h1 h2=>by
  have:=hK kb'
  rw[h1]at this
  exact this h2
 have lm:gz (aK θ R.c) R.c:=⟨rfl,hR.cl,hR.cb⟩
 have eV:nO R<=1000000:=by show(ι bD R.out).length<=_;rw[cg];have:=hR.ol;omega
 have lX:oR R.nu:=⟨hR.n0,by have:=hR.n1;omega⟩
 have ew:Z.wrap (R.nu+1)=R.nu+1:=bR (by have:=lX.lo;omega) (by have:=lX.hi;omega)
 have LF:=x8 R.c
 have ec:Z.wrap (dy R.c)=dy R.c:=bR (by omega) (by omega)
 have lw:eL R=false:=by simp [eL,hl]
 exact ab2 R T χ ψ fr kd q0 q1 q2 q3 q4 q5 q6 q7 b ls K ⟨⟨(by decide:(0:Int)<=3),_,rfl,q3,rfl,(by decide:(0:Int)<=4),_,rfl,q4,rfl,(by decide:(0:Int)<=5),_,rfl,q5,rfl,(by decide:(0:Int)<=6),_,rfl,q6,rfl,trivial,⟨q6,rfl,trivial⟩,trivial,⟨q5,rfl,trivial⟩,trivial,⟨q4,rfl,trivial⟩,trivial,⟨q3,rfl,trivial⟩,trivial,At.mk' () rfl⟩,
  fun _=>⟨⟨(by decide:(0:Int)<=1),_,rfl,q1,rfl,fun e1=>⟨(by decide:(0:Int)<=2),_,rfl,q2,rfl,fun e2=>⟨fun _=>At.mk' () (by simp only[Yt (o:=⟨q3,q4,q5,q6,b⟩) (show q1=R.ep by simpa using e1) (show q2=R.nu+1 by simpa [ew]using e2) lw,gg,be]),fun f=>(by cases f)⟩,fun e2=>At.mk' () (by simp only[vV (o:=⟨q3,q4,q5,q6,b⟩) (fun h=>absurd h.2.1 (show ¬ q2=R.nu+1 by simpa [ew]using e2))])⟩,fun e1=>At.mk' () (by simp only[vV (o:=⟨q3,q4,q5,q6,b⟩) (q2:=q2) (fun h=>absurd h.1 (show ¬ q1=R.ep by simpa using e1))])⟩,
  fun _=>⟨⟨(by decide:(0:Int)<=1),_,rfl,q1,rfl,fun e1=>⟨(by decide:(0:Int)<=2),_,rfl,q2,rfl,fun e2=>At.mk' () (by simp only[YB (show q1=R.ep by simpa using e1) (show q2=R.nu by simpa using e2) lw]),fun e2=>At.mk' () (by simp only[vW (q1:=q1) (fun h=>absurd h.2.1 (show ¬ q2=R.nu by simpa using e2))])⟩,fun e1=>At.mk' () (by simp only[vW (q2:=q2) (fun h=>absurd h.1 (show ¬ q1=R.ep by simpa using e1))])⟩,
  fun _=>⟨fun hs=>⟨aE _,fun f=>⟨rfl,⟨eV⟩,⟨by decide⟩,⟨by simp [bP]⟩,fun f=>fin (Og hs) (by
  unfold aF gw
  simp only[hl]
  refine⟨f 14,f 15,T,hT,?_⟩
  simp [cR,cS,bD,h_,fc,dn,ints,mH,iE]
  try rfl)⟩⟩,fun hs=>⟨⟨fun hn=>⟨fun e=>At.mk' () (by simp only[show gf R q1 q2 q7 ⟨q3,q4,q5,q6,b⟩=true by simp only[gf,hn,e,Bool.true_and,Bool.true_or]]),fun e=>⟨fun f=>⟨R.c,rfl,hR.cl,hR.cb,⟨by simp [bP]⟩,(by decide:(0:Int)<=7),_,rfl,q7,rfl,At.mk' () (by simp only[ec,show gf R q1 q2 q7 ⟨q3,q4,q5,q6,b⟩=(dy R.c == q7) by simp only[gf,hn,e,Bool.true_and,Bool.false_or]];try rfl)⟩,(by decide:(0:Int)<=7),_,rfl,q7,rfl,fun f=>⟨R.c,rfl,hR.cl,hR.cb,⟨by simp [bP]⟩,⟨q7,rfl,⟨rfl⟩⟩,At.mk' () (by simp only[ec,show gf R q1 q2 q7 ⟨q3,q4,q5,q6,b⟩=(dy R.c == q7) by simp only[gf,hn,e,Bool.true_and,Bool.false_or]];try rfl)⟩⟩⟩,fun hn=>At.mk' () (by simp only[show gf R q1 q2 q7 ⟨q3,q4,q5,q6,b⟩=false by simp only[gf,hn,Bool.false_and]])⟩,
  fun _=>⟨fun hg=>fun f=>⟨R.c,b,R.t,lm,rfl,hT,lX,⟨(F5.1 hg).2.2.2.1⟩,fun hc=>⟨⟨by simp [bP]⟩,⟨aE _,fun f=>⟨rfl,⟨eV⟩,⟨by decide⟩,⟨by simp [bP]⟩,fun f=>fin (F6 hs hg) (by
  unfold aF gw iE
  simp only[hl,KA (t:=R.t) (o:=⟨q3,q4,q5,q6,b⟩) (.inl hc.h)]
  refine⟨f 14,f 15,T,hT,?_⟩
  simp [cR,cS,bD,h_,fc,dn,ints,mH,iE]
  try rfl)⟩⟩⟩,fun hc=>⟨fun hz=>⟨⟨by simp [bP]⟩,⟨aE _,fun f=>⟨rfl,⟨eV⟩,⟨by decide⟩,⟨by simp [bP]⟩,fun f=>fin (F6 hs hg) (by
  unfold aF gw iE
  simp only[hl,KA (t:=R.t) (o:=⟨q3,q4,q5,q6,b⟩) (.inr hz.h)]
  refine⟨f 14,f 15,T,hT,?_⟩
  simp [cR,cS,bD,h_,fc,dn,ints,mH,iE]
  try rfl)⟩⟩⟩,fun hz=>⟨⟨by simp [bP]⟩,⟨aE _,fun f=>⟨rfl,⟨eV⟩,⟨by decide⟩,⟨by simp [bP]⟩,fun f=>fin (F6 hs hg) (by
  unfold aF gw iE
  simp only[hl,Tt (t:=R.t) (o:=⟨q3,q4,q5,q6,b⟩) hc.h hz.h]
  refine⟨f 14,f 15,_,Aw hT hz.h,?_⟩
  simp [cR,cS,bD,h_,fc,dn,ints,mH,iE]
  try rfl)⟩⟩⟩⟩⟩,fun hg=>fun f=>⟨rfl,⟨eV⟩,⟨by simp [bP]⟩,fun f=>fin (Of hs hg) (by
  unfold aF oz gw
  simp only[hl]
  refine⟨f 14,f 15,T,hT,?_⟩
  simp [cR,bD,h_,fc,dn,ints,mH])⟩⟩⟩⟩⟩⟩⟩
theorem YG (R:φ) (T:ML) (I Q:ML) (L:dx) (fr kd q0 q1 q2 q3 q4 q5 q6 q7:Int) (b:List Int) (ls:List (List Int)) (hT:bG T R.t) (hl:R.ld=some L) (hI:MB I L.ins) (hQ:MB Q L.dR) (hR:c8 R) (hkb:aF R [cR R (ai T) (ξ true) (.mp 1) (.mp 2) (.ae (L.cur.map bn)) (.sl 3 0 (nO R)) (.sl 4 0 (nD R)),af I,af Q,rO R,rD R]) (K:V->KB->Prop) (hK:∀ kb',aF (iN R fr ⟨kd,[q0,q1,q2,q3,q4,q5,q6,q7],b,ls⟩) kb'->K (.υ []) kb'):aO Tryz.prog iC (Oh R T I Q (L.cur.map bn) fr kd q0 q1 q2 q3 q4 q5 q6 q7 b ls) 89 [ac 0 0,.int Z fr,.agg [.int Z kd,an (.sl 1 [[dn Z q0],[dn Z q1],[dn Z q2],[dn Z q3],[dn Z q4],[dn Z q5],[dn Z q6],[dn Z q7]]),an (.sl 1 (ints θ b)),an (.sl 1 (bL ls))]] [cR R (ai T) (ξ true) (.mp 1) (.mp 2) (.ae (L.cur.map bn)) (.sl 3 0 (nO R)) (.sl 4 0 (nD R)),af I,af Q,rO R,rD R] (fD 13 dW K):=by
 have fin:∀{R':φ} {kb':KB},iN R fr ⟨kd,[q0,q1,q2,q3,q4,q5,q6,q7],b,ls⟩=R'->aF R' kb'->K (.υ []) kb':=fun{R' kb'} h1 h2=>by
  have:=hK kb'
  rw[h1]at this
  exact this h2
 have lm:gz (aK θ R.c) R.c:=⟨rfl,hR.cl,hR.cb⟩
 have eV:nO R<=1000000:=by show(ι bD R.out).length<=_;rw[cg];have:=hR.ol;omega
 have lX:oR R.nu:=⟨hR.n0,by have:=hR.n1;omega⟩
 have ew:Z.wrap (R.nu+1)=R.nu+1:=bR (by have:=lX.lo;omega) (by have:=lX.hi;omega)
 have LF:=x8 R.c
 have ec:Z.wrap (dy R.c)=dy R.c:=bR (by omega) (by omega)
 have lw:eL R=true:=by simp [eL,hl]
 exact ab1 R T I Q (L.cur.map bn) fr kd q0 q1 q2 q3 q4 q5 q6 q7 b ls K ⟨⟨(by decide:(0:Int)<=3),_,rfl,q3,rfl,(by decide:(0:Int)<=4),_,rfl,q4,rfl,(by decide:(0:Int)<=5),_,rfl,q5,rfl,(by decide:(0:Int)<=6),_,rfl,q6,rfl,trivial,⟨q6,rfl,trivial⟩,trivial,⟨q5,rfl,trivial⟩,trivial,⟨q4,rfl,trivial⟩,trivial,⟨q3,rfl,trivial⟩,trivial,At.mk' () rfl⟩,
  fun _=>⟨⟨(by decide:(0:Int)<=1),_,rfl,q1,rfl,fun e1=>⟨(by decide:(0:Int)<=2),_,rfl,q2,rfl,fun e2=>⟨fun f=>(by cases f),fun _=>At.mk' () (by simp only[vV (R:=R) (q1:=q1) (q2:=q2) (o:=⟨q3,q4,q5,q6,b⟩) (fun h=>absurd h.2.2 (by rw[lw];decide))])⟩,fun e2=>At.mk' () (by simp only[vV (o:=⟨q3,q4,q5,q6,b⟩) (fun h=>absurd h.2.1 (show ¬ q2=R.nu+1 by simpa [ew]using e2))])⟩,fun e1=>At.mk' () (by simp only[vV (o:=⟨q3,q4,q5,q6,b⟩) (q2:=q2) (fun h=>absurd h.1 (show ¬ q1=R.ep by simpa using e1))])⟩,
  fun _=>⟨⟨(by decide:(0:Int)<=1),_,rfl,q1,rfl,fun e1=>⟨(by decide:(0:Int)<=2),_,rfl,q2,rfl,fun e2=>At.mk' () (by simp only[vW (R:=R) (q1:=q1) (q2:=q2) (fun h=>absurd h.2.2 (by rw[lw];decide))]),fun e2=>At.mk' () (by simp only[vW (q1:=q1) (fun h=>absurd h.2.1 (show ¬ q2=R.nu by simpa using e2))])⟩,fun e1=>At.mk' () (by simp only[vW (q2:=q2) (fun h=>absurd h.1 (show ¬ q1=R.ep by simpa using e1))])⟩,
  fun _=>⟨fun hs=>⟨aE _,fun f=>⟨rfl,⟨eV⟩,⟨by decide⟩,⟨by simp [bP]⟩,fin (Og hs) (by
  unfold aF gw
  simp only[hl]
  refine⟨I,Q,T,hI,hQ,hT,?_⟩
  simp [cR,cS,bD,h_,fc,dn,ints,mH,iE]
  try rfl)⟩⟩,fun hs=>⟨⟨fun hn=>⟨fun e=>At.mk' () (by simp only[show gf R q1 q2 q7 ⟨q3,q4,q5,q6,b⟩=true by simp only[gf,hn,e,Bool.true_and,Bool.true_or]]),fun e=>⟨fun f=>⟨R.c,rfl,hR.cl,hR.cb,⟨by simp [bP]⟩,(by decide:(0:Int)<=7),_,rfl,q7,rfl,At.mk' () (by simp only[ec,show gf R q1 q2 q7 ⟨q3,q4,q5,q6,b⟩=(dy R.c == q7) by simp only[gf,hn,e,Bool.true_and,Bool.false_or]];try rfl)⟩,(by decide:(0:Int)<=7),_,rfl,q7,rfl,fun f=>⟨R.c,rfl,hR.cl,hR.cb,⟨by simp [bP]⟩,⟨q7,rfl,⟨rfl⟩⟩,At.mk' () (by simp only[ec,show gf R q1 q2 q7 ⟨q3,q4,q5,q6,b⟩=(dy R.c == q7) by simp only[gf,hn,e,Bool.true_and,Bool.false_or]];try rfl)⟩⟩⟩,fun hn=>At.mk' () (by simp only[show gf R q1 q2 q7 ⟨q3,q4,q5,q6,b⟩=false by simp only[gf,hn,Bool.false_and]])⟩,
  fun _=>⟨fun hg=>absurd hg (by simp [gf,iM,lw]),fun hg=>fun f=>⟨rfl,⟨eV⟩,⟨by simp [bP]⟩,fin (Of hs hg) (by
  unfold aF oz gw
  simp only[hl]
  refine⟨I,Q,T,hI,hQ,hT,?_⟩
  simp [cR,bD,h_,fc,dn,ints,mH])⟩⟩⟩⟩⟩⟩⟩
def Rp:aH:=fun args kb K=>∃ R fr kd q0 q1 q2 q3 q4 q5 q6 q7 b ls,args=[ac 0 0,.int Z fr,.agg [.int Z kd,an (.sl 1 [[dn Z q0],[dn Z q1],[dn Z q2],[dn Z q3],[dn Z q4],[dn Z q5],[dn Z q6],[dn Z q7]]),an (.sl 1 (ints θ b)),an (.sl 1 (bL ls))]]/\aF R kb/\c8 R/\∀ kb',aF (iN R fr ⟨kd,[q0,q1,q2,q3,q4,q5,q6,q7],b,ls⟩) kb'->K (.υ []) kb'
theorem XG:fw Tryz.prog 89 Rp:=rS mixed 13 dW (fun args kb K h=>by
 obtain⟨R,fr,kd,q0,q1,q2,q3,q4,q5,q6,q7,b,ls,rfl,hkb,hR,hK⟩:=h
 have gN:=hkb
 unfold aF at hkb
 split at hkb
 ·rename_i hl
  obtain⟨χ,ψ,T,hT,rfl⟩:=hkb
  exact⟨_,_,nR,YH R T χ ψ fr kd q0 q1 q2 q3 q4 q5 q6 q7 b ls hT hl hR (fun a b=>by unfold aF;simp only[hl];exact⟨a,b,T,hT,rfl⟩) K hK⟩
 ·rename_i L hl
  obtain⟨I,Q,T,hI,hQ,hT,rfl⟩:=hkb
  exact⟨_,_,nR,YG R T I Q L fr kd q0 q1 q2 q3 q4 q5 q6 q7 b ls hT hl hI hQ hR gN K hK⟩)
structure fJ (R:φ) (kb:KB):Prop where
 h:aF R kb
structure mw (R:φ):Prop where
 h:c8 R
structure BV (R:φ) (b:List Int) (ls:List (List Int)):Prop where
 ok:c8 R
 SI:bm b
 l:b.length<=900000
 ls:∀ y∈ls,bm y/\y.length<=140737488355328
def IB:aH:=fun args kb K=>∃ R fr kd q0 q1 q2 b ls,args=[ac 0 0,.int Z fr,.agg [.int Z kd,an (.sl 1 [[dn Z q0],[dn Z q1],[dn Z q2]]),an (.sl 1 (ints θ b)),an (.sl 1 (bL ls))]]/\fJ R kb/\BV R b ls/\∀ kb',fJ (iP R fr ⟨kd,[q0,q1,q2],b,ls⟩) kb'->K (.υ []) kb'
theorem Xl:fw Tryz.prog 87 IB:=fun args kb K h=>Yg args kb K (by
 obtain⟨R,fr,kd,q0,q1,q2,b,ls,rfl,hkb,hO,hK⟩:=h
 exact⟨R,fr,kd,q0,q1,q2,b,ls,rfl,hkb.h,hO.ok,hO.SI,hO.l,hO.ls,fun kb' hk=>hK kb' ⟨hk⟩⟩)
def IC:aH:=fun args kb K=>∃ R fr kd q0 q1 q2 b ls,args=[ac 0 0,.int Z fr,.agg [.int Z kd,an (.sl 1 [[dn Z q0],[dn Z q1],[dn Z q2]]),an (.sl 1 (ints θ b)),an (.sl 1 (bL ls))]]/\fJ R kb/\mw R/\∀ kb',fJ (ik R fr ⟨kd,[q0,q1,q2],b,ls⟩) kb'->K (.υ []) kb'
theorem Xm:fw Tryz.prog 88 IC:=fun args kb K h=>Yh args kb K (by
 obtain⟨R,fr,kd,q0,q1,q2,b,ls,rfl,hkb,hO,hK⟩:=h
 exact⟨R,fr,kd,q0,q1,q2,b,ls,rfl,hkb.h,hO.h,fun kb' hk=>hK kb' ⟨hk⟩⟩)
def Iy:aH:=fun args kb K=>∃ R fr kd q0 q1 q2 q3 q4 q5 q6 q7 b ls,args=[ac 0 0,.int Z fr,.agg [.int Z kd,an (.sl 1 [[dn Z q0],[dn Z q1],[dn Z q2],[dn Z q3],[dn Z q4],[dn Z q5],[dn Z q6],[dn Z q7]]),an (.sl 1 (ints θ b)),an (.sl 1 (bL ls))]]/\fJ R kb/\mw R/\∀ kb',fJ (iN R fr ⟨kd,[q0,q1,q2,q3,q4,q5,q6,q7],b,ls⟩) kb'->K (.υ []) kb'
theorem Xi:fw Tryz.prog 89 Iy:=fun args kb K h=>XG args kb K (by
 obtain⟨R,fr,kd,q0,q1,q2,q3,q4,q5,q6,q7,b,ls,rfl,hkb,hO,hK⟩:=h
 exact⟨R,fr,kd,q0,q1,q2,q3,q4,q5,q6,q7,b,ls,rfl,hkb.h,hO.h,fun kb' hk=>hK kb' ⟨hk⟩⟩)
def Iz:aH:=fun args kb K=>∃ R fr kd q0 q1 q2 b ls,args=[ac 0 0,.int Z fr,.agg [.int Z kd,an (.sl 1 [[dn Z q0],[dn Z q1],[dn Z q2]]),an (.sl 1 (ints θ b)),an (.sl 1 (bL ls))]]/\fJ R kb/\mw R/\∀ kb',fJ (ia R fr ⟨kd,[q0,q1,q2],b,ls⟩) kb'->K (.υ []) kb'
theorem Xj:fw Tryz.prog 90 Iz:=fun args kb K h=>XH args kb K (by
 obtain⟨R,fr,kd,q0,q1,q2,b,ls,rfl,hkb,hO,hK⟩:=h
 exact⟨R,fr,kd,q0,q1,q2,b,ls,rfl,hkb.h,hO.h,fun kb' hk=>hK kb' ⟨hk⟩⟩)
def IA:aH:=fun args kb K=>∃ R fr kd q0 q1 q2 b ls,args=[ac 0 0,.int Z fr,.agg [.int Z kd,an (.sl 1 [[dn Z q0],[dn Z q1],[dn Z q2]]),an (.sl 1 (ints θ b)),an (.sl 1 (bL ls))]]/\fJ R kb/\mw R/\∀ kb',fJ (ic R fr ⟨kd,[q0,q1,q2],b,ls⟩) kb'->K (.υ []) kb'
theorem Xk:fw Tryz.prog 91 IA:=fun args kb K h=>X7 args kb K (by
 obtain⟨R,fr,kd,q0,q1,q2,b,ls,rfl,hkb,hO,hK⟩:=h
 exact⟨R,fr,kd,q0,q1,q2,b,ls,rfl,hkb.h,hO.h,fun kb' hk=>hK kb' ⟨hk⟩⟩)
def Ec:FuncId->Option dw
 | 87=>some ⟨[.tail],IB⟩
 | 88=>some ⟨[.tail],IC⟩
 | 89=>some ⟨[.tail],Iy⟩
 | 90=>some ⟨[.tail],Iz⟩
 | 91=>some ⟨[.tail],IA⟩
 | 70=>some ⟨[],xk⟩
 |_=>none
noncomputable def uK:bM:=dF Tryz.prog Ec aM 10
theorem abD (R:φ) (T:ML) (χ ψ:Value) (fr:Int) (m:ei) (K:V->KB->Prop) (ay:
 let aq:KB:=[cR R (ai T) (ξ false) (γ χ) (γ ψ) (aG none) (ε 1 0 (nO R)) (ε 2 0 (nD R)),rO R,rD R];([m.kd]=[10]->
 (∀(y1:List D),bJ (av (av (av (av (av [] [10] [η (κ Z 3)]) [11] [η (κ Z 3)]) [12] [η (κ Z 8)]) [13] [η (κ Z 3)]) [14] [η (κ Z 3)]) [m.kd]=some y1->
 fQ [CK.int Z] y1)/\
 (((↑(ints Z m.n).length:Int) == cD (av (av (av (av (av [] [10] [η (κ Z 3)]) [11] [η (κ Z 3)]) [12] [η (κ Z 8)]) [13] [η (κ Z 3)]) [14] [η (κ Z 3)]) [m.kd] 0)=true->
 aQ 0/\
 ∃(y2:List D),(ints Z m.n)[0]? =some y2/\
 ∃(y3:Int),y2[0]? =some (η (κ Z y3))/\
 ((y3 == R.id)=true->
 ((fr != R.me)=true->
 ∃(y4:List Int),ints Z m.n=ints Z y4/\
 dm y4.length/\
 ((!y4.any cM)=true->
 ∃(y5:φ),∃(y6:Int),∃(y7:Int),∃(y8:Int),∃(y9:Int),∃(cq:Int),∃(b_:List Int),∃(ca:List (List Int)),[ac 0 0,δ Z fr,cF [δ Z m.kd,an (π 1 (ints Z m.n)),an (π 1 (ints θ m.b)),an (π 1 (bL m.l))]]=[ac 0 0,δ Z y6,cF [δ Z y7,an (π 1 [[dn Z y8],[dn Z y9],[dn Z cq]]),an (π 1 (ints θ b_)),an (π 1 (bL ca))]]/\
 fJ y5 aq/\
 BV y5 b_ ca/\
 ∀(cf:KB),fJ (iP y5 y6 {kd:=y7,n:=[y8,y9,cq],b:=b_,l:=ca}) cf->
 fz cf=true->
 ∀(cE:List Re),fz (cE,cf).snd=true/\
 K (ar []) cf)/\
 ((!y4.any cM)=false->
 ∀(cj:Nat->
 Value),K (ar []) [cR R (ai T) (ξ false) (γ (cj 14)) (γ (cj 15)) (aG none) (ε 1 0 (nO R)) (ε 2 0 (nD R)),rO R,rD R]))/\
 ((fr != R.me)=false->
 ∀(eZ:Nat->
 Value),K (ar []) [cR R (ai T) (ξ false) (γ (eZ 14)) (γ (eZ 15)) (aG none) (ε 1 0 (nO R)) (ε 2 0 (nD R)),rO R,rD R]))/\
 ((y3 == R.id)=false->
 ∀(cJ:Nat->
 Value),K (ar []) [cR R (ai T) (ξ false) (γ (cJ 14)) (γ (cJ 15)) (aG none) (ε 1 0 (nO R)) (ε 2 0 (nD R)),rO R,rD R]))/\
 (((↑(ints Z m.n).length:Int) == cD (av (av (av (av (av [] [10] [η (κ Z 3)]) [11] [η (κ Z 3)]) [12] [η (κ Z 8)]) [13] [η (κ Z 3)]) [14] [η (κ Z 3)]) [m.kd] 0)=false->
 ∀(eu:Nat->
 Value),K (ar []) [cR R (ai T) (ξ false) (γ (eu 14)) (γ (eu 15)) (aG none) (ε 1 0 (nO R)) (ε 2 0 (nD R)),rO R,rD R]))/\
 (([m.kd]=[10]->
 False)->
 ([m.kd]=[11]->
 (∀(eF:List D),bJ (av (av (av (av (av [] [10] [η (κ Z 3)]) [11] [η (κ Z 3)]) [12] [η (κ Z 8)]) [13] [η (κ Z 3)]) [14] [η (κ Z 3)]) [m.kd]=some eF->
 fQ [CK.int Z] eF)/\
 (((↑(ints Z m.n).length:Int) == cD (av (av (av (av (av [] [10] [η (κ Z 3)]) [11] [η (κ Z 3)]) [12] [η (κ Z 8)]) [13] [η (κ Z 3)]) [14] [η (κ Z 3)]) [m.kd] 0)=true->
 aQ 0/\
 ∃(eS:List D),(ints Z m.n)[0]? =some eS/\
 ∃(dO:Int),eS[0]? =some (η (κ Z dO))/\
 ((dO == R.id)=true->
 ((fr != R.me)=true->
 ∃(eG:List Int),ints Z m.n=ints Z eG/\
 dm eG.length/\
 ((!eG.any cM)=true->
 ∃(gH:φ),∃(fq:Int),∃(dY:Int),∃(cU:Int),∃(dH:Int),∃(dc:Int),∃(iR:List Int),∃(gj:List (List Int)),[ac 0 0,δ Z fr,cF [δ Z m.kd,an (π 1 (ints Z m.n)),an (π 1 (ints θ m.b)),an (π 1 (bL m.l))]]=[ac 0 0,δ Z fq,cF [δ Z dY,an (π 1 [[dn Z cU],[dn Z dH],[dn Z dc]]),an (π 1 (ints θ iR)),an (π 1 (bL gj))]]/\
 fJ gH aq/\
 mw gH/\
 ∀(di:KB),fJ (ik gH fq {kd:=dY,n:=[cU,dH,dc],b:=iR,l:=gj}) di->
 fz di=true->
 ∀(iS:List Re),fz (iS,di).snd=true/\
 K (ar []) di)/\
 ((!eG.any cM)=false->
 ∀(ji:Nat->
 Value),K (ar []) [cR R (ai T) (ξ false) (γ (ji 14)) (γ (ji 15)) (aG none) (ε 1 0 (nO R)) (ε 2 0 (nD R)),rO R,rD R]))/\
 ((fr != R.me)=false->
 ∀(iT:Nat->
 Value),K (ar []) [cR R (ai T) (ξ false) (γ (iT 14)) (γ (iT 15)) (aG none) (ε 1 0 (nO R)) (ε 2 0 (nD R)),rO R,rD R]))/\
 ((dO == R.id)=false->
 ∀(dC:Nat->
 Value),K (ar []) [cR R (ai T) (ξ false) (γ (dC 14)) (γ (dC 15)) (aG none) (ε 1 0 (nO R)) (ε 2 0 (nD R)),rO R,rD R]))/\
 (((↑(ints Z m.n).length:Int) == cD (av (av (av (av (av [] [10] [η (κ Z 3)]) [11] [η (κ Z 3)]) [12] [η (κ Z 8)]) [13] [η (κ Z 3)]) [14] [η (κ Z 3)]) [m.kd] 0)=false->
 ∀(lN:Nat->
 Value),K (ar []) [cR R (ai T) (ξ false) (γ (lN 14)) (γ (lN 15)) (aG none) (ε 1 0 (nO R)) (ε 2 0 (nD R)),rO R,rD R]))/\
 (([m.kd]=[11]->
 False)->
 ([m.kd]=[12]->
 (∀(k_:List D),bJ (av (av (av (av (av [] [10] [η (κ Z 3)]) [11] [η (κ Z 3)]) [12] [η (κ Z 8)]) [13] [η (κ Z 3)]) [14] [η (κ Z 3)]) [m.kd]=some k_->
 fQ [CK.int Z] k_)/\
 (((↑(ints Z m.n).length:Int) == cD (av (av (av (av (av [] [10] [η (κ Z 3)]) [11] [η (κ Z 3)]) [12] [η (κ Z 8)]) [13] [η (κ Z 3)]) [14] [η (κ Z 3)]) [m.kd] 0)=true->
 aQ 0/\
 ∃(iU:List D),(ints Z m.n)[0]? =some iU/\
 ∃(kg:Int),iU[0]? =some (η (κ Z kg))/\
 ((kg == R.id)=true->
 ((fr != R.me)=true->
 ∃(kh:List Int),ints Z m.n=ints Z kh/\
 dm kh.length/\
 ((!kh.any cM)=true->
 ∃(mT:φ),∃(pR:Int),∃(oM:Int),∃(pS:Int),∃(qP:Int),∃(pT:Int),∃(sw:Int),∃(sx:Int),∃(qQ:Int),∃(uk:Int),∃(sy:Int),∃(ul:List Int),∃(wD:List (List Int)),[ac 0 0,δ Z fr,cF [δ Z m.kd,an (π 1 (ints Z m.n)),an (π 1 (ints θ m.b)),an (π 1 (bL m.l))]]=[ac 0 0,δ Z pR,cF [δ Z oM,an (π 1 [[dn Z pS],[dn Z qP],[dn Z pT],[dn Z sw],[dn Z sx],[dn Z qQ],[dn Z uk],[dn Z sy]]),an (π 1 (ints θ ul)),an (π 1 (bL wD))]]/\
 fJ mT aq/\
 mw mT/\
 ∀(sA:KB),fJ (iN mT pR {kd:=oM,n:=[pS,qP,pT,sw,sx,qQ,uk,sy],b:=ul,l:=wD}) sA->
 fz sA=true->
 ∀(AQ:List Re),fz (AQ,sA).snd=true/\
 K (ar []) sA)/\
 ((!kh.any cM)=false->
 ∀(wE:Nat->
 Value),K (ar []) [cR R (ai T) (ξ false) (γ (wE 14)) (γ (wE 15)) (aG none) (ε 1 0 (nO R)) (ε 2 0 (nD R)),rO R,rD R]))/\
 ((fr != R.me)=false->
 ∀(wF:Nat->
 Value),K (ar []) [cR R (ai T) (ξ false) (γ (wF 14)) (γ (wF 15)) (aG none) (ε 1 0 (nO R)) (ε 2 0 (nD R)),rO R,rD R]))/\
 ((kg == R.id)=false->
 ∀(wG:Nat->
 Value),K (ar []) [cR R (ai T) (ξ false) (γ (wG 14)) (γ (wG 15)) (aG none) (ε 1 0 (nO R)) (ε 2 0 (nD R)),rO R,rD R]))/\
 (((↑(ints Z m.n).length:Int) == cD (av (av (av (av (av [] [10] [η (κ Z 3)]) [11] [η (κ Z 3)]) [12] [η (κ Z 8)]) [13] [η (κ Z 3)]) [14] [η (κ Z 3)]) [m.kd] 0)=false->
 ∀(wH:Nat->
 Value),K (ar []) [cR R (ai T) (ξ false) (γ (wH 14)) (γ (wH 15)) (aG none) (ε 1 0 (nO R)) (ε 2 0 (nD R)),rO R,rD R]))/\
 (([m.kd]=[12]->
 False)->
 ([m.kd]=[13]->
 (∀(sB:List D),bJ (av (av (av (av (av [] [10] [η (κ Z 3)]) [11] [η (κ Z 3)]) [12] [η (κ Z 8)]) [13] [η (κ Z 3)]) [14] [η (κ Z 3)]) [m.kd]=some sB->
 fQ [CK.int Z] sB)/\
 (((↑(ints Z m.n).length:Int) == cD (av (av (av (av (av [] [10] [η (κ Z 3)]) [11] [η (κ Z 3)]) [12] [η (κ Z 8)]) [13] [η (κ Z 3)]) [14] [η (κ Z 3)]) [m.kd] 0)=true->
 aQ 0/\
 ∃(AR:List D),(ints Z m.n)[0]? =some AR/\
 ∃(um:Int),AR[0]? =some (η (κ Z um))/\
 ((um == R.id)=true->
 ((fr != R.me)=true->
 ∃(sC:List Int),ints Z m.n=ints Z sC/\
 dm sC.length/\
 ((!sC.any cM)=true->
 ∃(sD:φ),∃(sE:Int),∃(un:Int),∃(wI:Int),∃(wJ:Int),∃(wK:Int),∃(wL:List Int),∃(wM:List (List Int)),[ac 0 0,δ Z fr,cF [δ Z m.kd,an (π 1 (ints Z m.n)),an (π 1 (ints θ m.b)),an (π 1 (bL m.l))]]=[ac 0 0,δ Z sE,cF [δ Z un,an (π 1 [[dn Z wI],[dn Z wJ],[dn Z wK]]),an (π 1 (ints θ wL)),an (π 1 (bL wM))]]/\
 fJ sD aq/\
 mw sD/\
 ∀(sF:KB),fJ (ia sD sE {kd:=un,n:=[wI,wJ,wK],b:=wL,l:=wM}) sF->
 fz sF=true->
 ∀(AS:List Re),fz (AS,sF).snd=true/\
 K (ar []) sF)/\
 ((!sC.any cM)=false->
 ∀(sG:Nat->
 Value),K (ar []) [cR R (ai T) (ξ false) (γ (sG 14)) (γ (sG 15)) (aG none) (ε 1 0 (nO R)) (ε 2 0 (nD R)),rO R,rD R]))/\
 ((fr != R.me)=false->
 ∀(AT:Nat->
 Value),K (ar []) [cR R (ai T) (ξ false) (γ (AT 14)) (γ (AT 15)) (aG none) (ε 1 0 (nO R)) (ε 2 0 (nD R)),rO R,rD R]))/\
 ((um == R.id)=false->
 ∀(QV:Nat->
 Value),K (ar []) [cR R (ai T) (ξ false) (γ (QV 14)) (γ (QV 15)) (aG none) (ε 1 0 (nO R)) (ε 2 0 (nD R)),rO R,rD R]))/\
 (((↑(ints Z m.n).length:Int) == cD (av (av (av (av (av [] [10] [η (κ Z 3)]) [11] [η (κ Z 3)]) [12] [η (κ Z 8)]) [13] [η (κ Z 3)]) [14] [η (κ Z 3)]) [m.kd] 0)=false->
 ∀(QW:Nat->
 Value),K (ar []) [cR R (ai T) (ξ false) (γ (QW 14)) (γ (QW 15)) (aG none) (ε 1 0 (nO R)) (ε 2 0 (nD R)),rO R,rD R]))/\
 (([m.kd]=[13]->
 False)->
 ([m.kd]=[14]->
 (∀(QX:List D),bJ (av (av (av (av (av [] [10] [η (κ Z 3)]) [11] [η (κ Z 3)]) [12] [η (κ Z 8)]) [13] [η (κ Z 3)]) [14] [η (κ Z 3)]) [m.kd]=some QX->
 fQ [CK.int Z] QX)/\
 (((↑(ints Z m.n).length:Int) == cD (av (av (av (av (av [] [10] [η (κ Z 3)]) [11] [η (κ Z 3)]) [12] [η (κ Z 8)]) [13] [η (κ Z 3)]) [14] [η (κ Z 3)]) [m.kd] 0)=true->
 aQ 0/\
 ∃(QY:List D),(ints Z m.n)[0]? =some QY/\
 ∃(HU:Int),QY[0]? =some (η (κ Z HU))/\
 ((HU == R.id)=true->
 ((fr != R.me)=true->
 ∃(AU:List Int),ints Z m.n=ints Z AU/\
 dm AU.length/\
 ((!AU.any cM)=true->
 ∃(HV:φ),∃(QZ:Int),∃(Q0:Int),∃(Q1:Int),∃(Q2:Int),∃(Q3:Int),∃(Q4:List Int),∃(Q5:List (List Int)),[ac 0 0,δ Z fr,cF [δ Z m.kd,an (π 1 (ints Z m.n)),an (π 1 (ints θ m.b)),an (π 1 (bL m.l))]]=[ac 0 0,δ Z QZ,cF [δ Z Q0,an (π 1 [[dn Z Q1],[dn Z Q2],[dn Z Q3]]),an (π 1 (ints θ Q4)),an (π 1 (bL Q5))]]/\
 fJ HV aq/\
 mw HV/\
 ∀(AV:KB),fJ (ic HV QZ {kd:=Q0,n:=[Q1,Q2,Q3],b:=Q4,l:=Q5}) AV->
 fz AV=true->
 ∀(y91:List Re),fz (y91,AV).snd=true/\
 K (ar []) AV)/\
 ((!AU.any cM)=false->
 ∀(Q6:Nat->
 Value),K (ar []) [cR R (ai T) (ξ false) (γ (Q6 14)) (γ (Q6 15)) (aG none) (ε 1 0 (nO R)) (ε 2 0 (nD R)),rO R,rD R]))/\
 ((fr != R.me)=false->
 ∀(Q7:Nat->
 Value),K (ar []) [cR R (ai T) (ξ false) (γ (Q7 14)) (γ (Q7 15)) (aG none) (ε 1 0 (nO R)) (ε 2 0 (nD R)),rO R,rD R]))/\
 ((HU == R.id)=false->
 ∀(Q8:Nat->
 Value),K (ar []) [cR R (ai T) (ξ false) (γ (Q8 14)) (γ (Q8 15)) (aG none) (ε 1 0 (nO R)) (ε 2 0 (nD R)),rO R,rD R]))/\
 (((↑(ints Z m.n).length:Int) == cD (av (av (av (av (av [] [10] [η (κ Z 3)]) [11] [η (κ Z 3)]) [12] [η (κ Z 8)]) [13] [η (κ Z 3)]) [14] [η (κ Z 3)]) [m.kd] 0)=false->
 ∀(Q9:Nat->
 Value),K (ar []) [cR R (ai T) (ξ false) (γ (Q9 14)) (γ (Q9 15)) (aG none) (ε 1 0 (nO R)) (ε 2 0 (nD R)),rO R,rD R]))/\
 (([m.kd]=[14]->
 False)->
 ∀(Q_:Nat->
 Value),K (ar []) [cR R (ai T) (ξ false) (γ (Q_ 14)) (γ (Q_ 15)) (aG none) (ε 1 0 (nO R)) (ε 2 0 (nD R)),rO R,rD R])))))
 ):aO Tryz.prog uK (fun _=>none) 60 [ac 0 0,.int Z fr,.agg [.int Z m.kd,an (.sl 1 (ints Z m.n)),an (.sl 1 (ints θ m.b)),an (.sl 1 (bL m.l))]] [cR R (ai T) (ξ false) (γ χ) (γ ψ) (.ae none) (.sl 1 0 (nO R)) (.sl 2 0 (nD R)),rO R,rD R] (tU 13 dW K):=by apply Eq.mp (a:=ay);kernel_rfl
theorem abC (R:φ) (T:ML) (I Q:ML) (u:Option (List D)) (fr:Int) (m:ei) (K:V->KB->Prop) (ay:
 let aq:KB:=[cR R (ai T) (ξ true) (aV 1) (aV 2) (aG u) (ε 3 0 (nO R)) (ε 4 0 (nD R)),af I,af Q,rO R,rD R];([m.kd]=[10]->
 (∀(y1:List D),bJ (av (av (av (av (av [] [10] [η (κ Z 3)]) [11] [η (κ Z 3)]) [12] [η (κ Z 8)]) [13] [η (κ Z 3)]) [14] [η (κ Z 3)]) [m.kd]=some y1->
 fQ [CK.int Z] y1)/\
 (((↑(ints Z m.n).length:Int) == cD (av (av (av (av (av [] [10] [η (κ Z 3)]) [11] [η (κ Z 3)]) [12] [η (κ Z 8)]) [13] [η (κ Z 3)]) [14] [η (κ Z 3)]) [m.kd] 0)=true->
 aQ 0/\
 ∃(y2:List D),(ints Z m.n)[0]? =some y2/\
 ∃(y3:Int),y2[0]? =some (η (κ Z y3))/\
 ((y3 == R.id)=true->
 ((fr != R.me)=true->
 ∃(y4:List Int),ints Z m.n=ints Z y4/\
 dm y4.length/\
 ((!y4.any cM)=true->
 ∃(y5:φ),∃(y6:Int),∃(y7:Int),∃(y8:Int),∃(y9:Int),∃(cq:Int),∃(b_:List Int),∃(ca:List (List Int)),[ac 0 0,δ Z fr,cF [δ Z m.kd,an (π 1 (ints Z m.n)),an (π 1 (ints θ m.b)),an (π 1 (bL m.l))]]=[ac 0 0,δ Z y6,cF [δ Z y7,an (π 1 [[dn Z y8],[dn Z y9],[dn Z cq]]),an (π 1 (ints θ b_)),an (π 1 (bL ca))]]/\
 fJ y5 aq/\
 BV y5 b_ ca/\
 ∀(cf:KB),fJ (iP y5 y6 {kd:=y7,n:=[y8,y9,cq],b:=b_,l:=ca}) cf->
 fz cf=true->
 ∀(cE:List Re),fz (cE,cf).snd=true/\
 K (ar []) cf)/\
 ((!y4.any cM)=false->
 K (ar []) aq))/\
 ((fr != R.me)=false->
 K (ar []) aq))/\
 ((y3 == R.id)=false->
 K (ar []) aq))/\
 (((↑(ints Z m.n).length:Int) == cD (av (av (av (av (av [] [10] [η (κ Z 3)]) [11] [η (κ Z 3)]) [12] [η (κ Z 8)]) [13] [η (κ Z 3)]) [14] [η (κ Z 3)]) [m.kd] 0)=false->
 K (ar []) aq))/\
 (([m.kd]=[10]->
 False)->
 ([m.kd]=[11]->
 (∀(cj:List D),bJ (av (av (av (av (av [] [10] [η (κ Z 3)]) [11] [η (κ Z 3)]) [12] [η (κ Z 8)]) [13] [η (κ Z 3)]) [14] [η (κ Z 3)]) [m.kd]=some cj->
 fQ [CK.int Z] cj)/\
 (((↑(ints Z m.n).length:Int) == cD (av (av (av (av (av [] [10] [η (κ Z 3)]) [11] [η (κ Z 3)]) [12] [η (κ Z 8)]) [13] [η (κ Z 3)]) [14] [η (κ Z 3)]) [m.kd] 0)=true->
 aQ 0/\
 ∃(eZ:List D),(ints Z m.n)[0]? =some eZ/\
 ∃(cJ:Int),eZ[0]? =some (η (κ Z cJ))/\
 ((cJ == R.id)=true->
 ((fr != R.me)=true->
 ∃(eu:List Int),ints Z m.n=ints Z eu/\
 dm eu.length/\
 ((!eu.any cM)=true->
 ∃(eF:φ),∃(eS:Int),∃(dO:Int),∃(eG:Int),∃(gH:Int),∃(fq:Int),∃(dY:List Int),∃(cU:List (List Int)),[ac 0 0,δ Z fr,cF [δ Z m.kd,an (π 1 (ints Z m.n)),an (π 1 (ints θ m.b)),an (π 1 (bL m.l))]]=[ac 0 0,δ Z eS,cF [δ Z dO,an (π 1 [[dn Z eG],[dn Z gH],[dn Z fq]]),an (π 1 (ints θ dY)),an (π 1 (bL cU))]]/\
 fJ eF aq/\
 mw eF/\
 ∀(dH:KB),fJ (ik eF eS {kd:=dO,n:=[eG,gH,fq],b:=dY,l:=cU}) dH->
 fz dH=true->
 ∀(dc:List Re),fz (dc,dH).snd=true/\
 K (ar []) dH)/\
 ((!eu.any cM)=false->
 K (ar []) aq))/\
 ((fr != R.me)=false->
 K (ar []) aq))/\
 ((cJ == R.id)=false->
 K (ar []) aq))/\
 (((↑(ints Z m.n).length:Int) == cD (av (av (av (av (av [] [10] [η (κ Z 3)]) [11] [η (κ Z 3)]) [12] [η (κ Z 8)]) [13] [η (κ Z 3)]) [14] [η (κ Z 3)]) [m.kd] 0)=false->
 K (ar []) aq))/\
 (([m.kd]=[11]->
 False)->
 ([m.kd]=[12]->
 (∀(iR:List D),bJ (av (av (av (av (av [] [10] [η (κ Z 3)]) [11] [η (κ Z 3)]) [12] [η (κ Z 8)]) [13] [η (κ Z 3)]) [14] [η (κ Z 3)]) [m.kd]=some iR->
 fQ [CK.int Z] iR)/\
 (((↑(ints Z m.n).length:Int) == cD (av (av (av (av (av [] [10] [η (κ Z 3)]) [11] [η (κ Z 3)]) [12] [η (κ Z 8)]) [13] [η (κ Z 3)]) [14] [η (κ Z 3)]) [m.kd] 0)=true->
 aQ 0/\
 ∃(gj:List D),(ints Z m.n)[0]? =some gj/\
 ∃(di:Int),gj[0]? =some (η (κ Z di))/\
 ((di == R.id)=true->
 ((fr != R.me)=true->
 ∃(iS:List Int),ints Z m.n=ints Z iS/\
 dm iS.length/\
 ((!iS.any cM)=true->
 ∃(ji:φ),∃(iT:Int),∃(dC:Int),∃(lN:Int),∃(k_:Int),∃(iU:Int),∃(kg:Int),∃(kh:Int),∃(mT:Int),∃(pR:Int),∃(oM:Int),∃(pS:List Int),∃(qP:List (List Int)),[ac 0 0,δ Z fr,cF [δ Z m.kd,an (π 1 (ints Z m.n)),an (π 1 (ints θ m.b)),an (π 1 (bL m.l))]]=[ac 0 0,δ Z iT,cF [δ Z dC,an (π 1 [[dn Z lN],[dn Z k_],[dn Z iU],[dn Z kg],[dn Z kh],[dn Z mT],[dn Z pR],[dn Z oM]]),an (π 1 (ints θ pS)),an (π 1 (bL qP))]]/\
 fJ ji aq/\
 mw ji/\
 ∀(pT:KB),fJ (iN ji iT {kd:=dC,n:=[lN,k_,iU,kg,kh,mT,pR,oM],b:=pS,l:=qP}) pT->
 fz pT=true->
 ∀(sw:List Re),fz (sw,pT).snd=true/\
 K (ar []) pT)/\
 ((!iS.any cM)=false->
 K (ar []) aq))/\
 ((fr != R.me)=false->
 K (ar []) aq))/\
 ((di == R.id)=false->
 K (ar []) aq))/\
 (((↑(ints Z m.n).length:Int) == cD (av (av (av (av (av [] [10] [η (κ Z 3)]) [11] [η (κ Z 3)]) [12] [η (κ Z 8)]) [13] [η (κ Z 3)]) [14] [η (κ Z 3)]) [m.kd] 0)=false->
 K (ar []) aq))/\
 (([m.kd]=[12]->
 False)->
 ([m.kd]=[13]->
 (∀(sx:List D),bJ (av (av (av (av (av [] [10] [η (κ Z 3)]) [11] [η (κ Z 3)]) [12] [η (κ Z 8)]) [13] [η (κ Z 3)]) [14] [η (κ Z 3)]) [m.kd]=some sx->
 fQ [CK.int Z] sx)/\
 (((↑(ints Z m.n).length:Int) == cD (av (av (av (av (av [] [10] [η (κ Z 3)]) [11] [η (κ Z 3)]) [12] [η (κ Z 8)]) [13] [η (κ Z 3)]) [14] [η (κ Z 3)]) [m.kd] 0)=true->
 aQ 0/\
 ∃(qQ:List D),(ints Z m.n)[0]? =some qQ/\
 ∃(uk:Int),qQ[0]? =some (η (κ Z uk))/\
 ((uk == R.id)=true->
 ((fr != R.me)=true->
 ∃(sy:List Int),ints Z m.n=ints Z sy/\
 dm sy.length/\
 ((!sy.any cM)=true->
 ∃(ul:φ),∃(wD:Int),∃(sA:Int),∃(AQ:Int),∃(wE:Int),∃(wF:Int),∃(wG:List Int),∃(wH:List (List Int)),[ac 0 0,δ Z fr,cF [δ Z m.kd,an (π 1 (ints Z m.n)),an (π 1 (ints θ m.b)),an (π 1 (bL m.l))]]=[ac 0 0,δ Z wD,cF [δ Z sA,an (π 1 [[dn Z AQ],[dn Z wE],[dn Z wF]]),an (π 1 (ints θ wG)),an (π 1 (bL wH))]]/\
 fJ ul aq/\
 mw ul/\
 ∀(sB:KB),fJ (ia ul wD {kd:=sA,n:=[AQ,wE,wF],b:=wG,l:=wH}) sB->
 fz sB=true->
 ∀(AR:List Re),fz (AR,sB).snd=true/\
 K (ar []) sB)/\
 ((!sy.any cM)=false->
 K (ar []) aq))/\
 ((fr != R.me)=false->
 K (ar []) aq))/\
 ((uk == R.id)=false->
 K (ar []) aq))/\
 (((↑(ints Z m.n).length:Int) == cD (av (av (av (av (av [] [10] [η (κ Z 3)]) [11] [η (κ Z 3)]) [12] [η (κ Z 8)]) [13] [η (κ Z 3)]) [14] [η (κ Z 3)]) [m.kd] 0)=false->
 K (ar []) aq))/\
 (([m.kd]=[13]->
 False)->
 ([m.kd]=[14]->
 (∀(um:List D),bJ (av (av (av (av (av [] [10] [η (κ Z 3)]) [11] [η (κ Z 3)]) [12] [η (κ Z 8)]) [13] [η (κ Z 3)]) [14] [η (κ Z 3)]) [m.kd]=some um->
 fQ [CK.int Z] um)/\
 (((↑(ints Z m.n).length:Int) == cD (av (av (av (av (av [] [10] [η (κ Z 3)]) [11] [η (κ Z 3)]) [12] [η (κ Z 8)]) [13] [η (κ Z 3)]) [14] [η (κ Z 3)]) [m.kd] 0)=true->
 aQ 0/\
 ∃(sC:List D),(ints Z m.n)[0]? =some sC/\
 ∃(sD:Int),sC[0]? =some (η (κ Z sD))/\
 ((sD == R.id)=true->
 ((fr != R.me)=true->
 ∃(sE:List Int),ints Z m.n=ints Z sE/\
 dm sE.length/\
 ((!sE.any cM)=true->
 ∃(un:φ),∃(wI:Int),∃(wJ:Int),∃(wK:Int),∃(wL:Int),∃(wM:Int),∃(sF:List Int),∃(AS:List (List Int)),[ac 0 0,δ Z fr,cF [δ Z m.kd,an (π 1 (ints Z m.n)),an (π 1 (ints θ m.b)),an (π 1 (bL m.l))]]=[ac 0 0,δ Z wI,cF [δ Z wJ,an (π 1 [[dn Z wK],[dn Z wL],[dn Z wM]]),an (π 1 (ints θ sF)),an (π 1 (bL AS))]]/\
 fJ un aq/\
 mw un/\
 ∀(sG:KB),fJ (ic un wI {kd:=wJ,n:=[wK,wL,wM],b:=sF,l:=AS}) sG->
 fz sG=true->
 ∀(AT:List Re),fz (AT,sG).snd=true/\
 K (ar []) sG)/\
 ((!sE.any cM)=false->
 K (ar []) aq))/\
 ((fr != R.me)=false->
 K (ar []) aq))/\
 ((sD == R.id)=false->
 K (ar []) aq))/\
 (((↑(ints Z m.n).length:Int) == cD (av (av (av (av (av [] [10] [η (κ Z 3)]) [11] [η (κ Z 3)]) [12] [η (κ Z 8)]) [13] [η (κ Z 3)]) [14] [η (κ Z 3)]) [m.kd] 0)=false->
 K (ar []) aq))/\
 (([m.kd]=[14]->
 False)->
 K (ar []) aq)))))
 ):aO Tryz.prog uK (fun _=>none) 60 [ac 0 0,.int Z fr,.agg [.int Z m.kd,an (.sl 1 (ints Z m.n)),an (.sl 1 (ints θ m.b)),an (.sl 1 (bL m.l))]] [cR R (ai T) (ξ true) (.mp 1) (.mp 2) (.ae u) (.sl 3 0 (nO R)) (.sl 4 0 (nD R)),af I,af Q,rO R,rD R] (tU 13 dW K):=by apply Eq.mp (a:=ay);kernel_rfl
theorem dJ {R:φ} {fr:Int} {m:ei} (h:cw R fr m=false):gu R fr m=R:=if_pos h
theorem Lt {R:φ} {fr:Int} {n b:List Int} {ls:List (List Int)} (h:cw R fr ⟨10,n,b,ls⟩=true):gu R fr ⟨10,n,b,ls⟩=iP R fr ⟨10,n,b,ls⟩:=by unfold gu;rw[h];rfl
theorem Lu {R:φ} {fr:Int} {n b:List Int} {ls:List (List Int)} (h:cw R fr ⟨11,n,b,ls⟩=true):gu R fr ⟨11,n,b,ls⟩=ik R fr ⟨11,n,b,ls⟩:=by unfold gu;rw[h];rfl
theorem Lv {R:φ} {fr:Int} {n b:List Int} {ls:List (List Int)} (h:cw R fr ⟨12,n,b,ls⟩=true):gu R fr ⟨12,n,b,ls⟩=iN R fr ⟨12,n,b,ls⟩:=by unfold gu;rw[h];rfl
theorem Lw {R:φ} {fr:Int} {n b:List Int} {ls:List (List Int)} (h:cw R fr ⟨13,n,b,ls⟩=true):gu R fr ⟨13,n,b,ls⟩=ia R fr ⟨13,n,b,ls⟩:=by unfold gu;rw[h];rfl
theorem Lx {R:φ} {fr:Int} {n b:List Int} {ls:List (List Int)} (h:cw R fr ⟨14,n,b,ls⟩=true):gu R fr ⟨14,n,b,ls⟩=ic R fr ⟨14,n,b,ls⟩:=by unfold gu;rw[h];rfl
structure jD (m:ei):Prop where
 b:bm m.b
 l:m.b.length<=900000
 ls:∀ y∈m.l,bm y/\y.length<=140737488355328
theorem Ux:dE Tryz.prog Ec:=fun f k h=>by
 unfold Ec at h
 split at h
 ·cases h;exact Xl
 ·cases h;exact Xm
 ·cases h;exact Xi
 ·cases h;exact Xj
 ·cases h;exact Xk
 ·cases h;exact NH
 ·cases h
theorem I9:bW Tryz.prog uK:=dI mixed Ux aM 10
theorem Uo (R:φ) (T:ML) (χ ψ:Value) (fr kd:Int) (n b:List Int) (ls:List (List Int)) (hT:bG T R.t) (hl:R.ld=none) (hR:c8 R) (hM:jD ⟨kd,n,b,ls⟩) (dM:∀ χ ψ,aF R [cR R (ai T) (ξ false) (γ χ) (γ ψ) (.ae none) (.sl 1 0 (nO R)) (.sl 2 0 (nD R)),rO R,rD R]) (K:V->KB->Prop) (hK:∀ kb',aF (gu R fr ⟨kd,n,b,ls⟩) kb'->K (.υ []) kb'):aO Tryz.prog uK (fun _=>none) 60 [ac 0 0,.int Z fr,.agg [.int Z kd,an (.sl 1 (ints Z n)),an (.sl 1 (ints θ b)),an (.sl 1 (bL ls))]] [cR R (ai T) (ξ false) (γ χ) (γ ψ) (.ae none) (.sl 1 0 (nO R)) (.sl 2 0 (nD R)),rO R,rD R] (tU 13 dW K):=by
 have fin:∀{R':φ} {kb':KB},gu R fr ⟨kd,n,b,ls⟩=R'->aF R' kb'->K (.υ []) kb':=fun{R' kb'} h1 h2=>by
  have:=hK kb'
  rw[h1]at this
  exact this h2
 refine abD R T χ ψ fr ⟨kd,n,b,ls⟩ K ⟨?_,fun zv=>⟨?_,fun Fv=>⟨?_,fun Fw=>⟨?_,fun Fx=>⟨?_,fun Fy=>?_⟩⟩⟩⟩⟩
 ·intro e
  have hk:kd=10:=by simpa using e
  subst hk
  refine⟨fun cs h=>?_,fun hlen=>?_,fun hlen=>fun f=>fin (dJ (by have h2:¬ n.length=3:=(by have:=hlen;simp [be,cD,bJ,av,iv]at this;omega);simp [cw,hJ,h2])) (dM _ _)⟩
  ·simp [av,bJ]at h
   subst h
   exact⟨_,_,rfl,rfl⟩
  ·have hl:n.length=3:=by have:=hlen;simp [be,cD,bJ,av,iv]at this;omega
   match n,hl with
   | [q0,q1,q2],_=>
    exact⟨gp _,_,rfl,q0,rfl,fun h0=>⟨fun h1=>⟨[q0,q1,q2],rfl,⟨by simp⟩,fun h2=>⟨R,fr,10,q0,q1,q2,b,ls,rfl,⟨(dM _ _)⟩,⟨hR,hM.b,hM.l,hM.ls⟩,fun kb' hk hf τ=>⟨hf,fin (Lt (by have h0:q0=R.id:=(by simpa using h0);have h1:¬ fr=R.me:=(by simpa using h1);have h2:[q0,q1,q2].any cM=false:=(by simpa using h2);simp [cw,bV,hJ,h0,h1];simpa [h0]using h2)) hk.h⟩⟩,fun h2=>fun f=>fin (dJ (by have h2:[q0,q1,q2].any cM=true:=(by simpa only[Bool.not_eq_false']using h2);unfold cw;rw[h2];simp)) (dM _ _)⟩,fun h1=>fun f=>fin (dJ (by have h1:fr=R.me:=(by simpa using h1);simp [cw,h1])) (dM _ _)⟩,fun h0=>fun f=>fin (dJ (by have h0:¬ q0=R.id:=(by simpa using h0);simp [cw,bV,h0])) (dM _ _)⟩
 ·intro e
  have hk:kd=11:=by simpa using e
  subst hk
  refine⟨fun cs h=>?_,fun hlen=>?_,fun hlen=>fun f=>fin (dJ (by have h2:¬ n.length=3:=(by have:=hlen;simp [be,cD,bJ,av,iv]at this;omega);simp [cw,hJ,h2])) (dM _ _)⟩
  ·simp [av,bJ]at h
   subst h
   exact⟨_,_,rfl,rfl⟩
  ·have hl:n.length=3:=by have:=hlen;simp [be,cD,bJ,av,iv]at this;omega
   match n,hl with
   | [q0,q1,q2],_=>
    exact⟨gp _,_,rfl,q0,rfl,fun h0=>⟨fun h1=>⟨[q0,q1,q2],rfl,⟨by simp⟩,fun h2=>⟨R,fr,11,q0,q1,q2,b,ls,rfl,⟨(dM _ _)⟩,⟨hR⟩,fun kb' hk hf τ=>⟨hf,fin (Lu (by have h0:q0=R.id:=(by simpa using h0);have h1:¬ fr=R.me:=(by simpa using h1);have h2:[q0,q1,q2].any cM=false:=(by simpa using h2);simp [cw,bV,hJ,h0,h1];simpa [h0]using h2)) hk.h⟩⟩,fun h2=>fun f=>fin (dJ (by have h2:[q0,q1,q2].any cM=true:=(by simpa only[Bool.not_eq_false']using h2);unfold cw;rw[h2];simp)) (dM _ _)⟩,fun h1=>fun f=>fin (dJ (by have h1:fr=R.me:=(by simpa using h1);simp [cw,h1])) (dM _ _)⟩,fun h0=>fun f=>fin (dJ (by have h0:¬ q0=R.id:=(by simpa using h0);simp [cw,bV,h0])) (dM _ _)⟩
 ·intro e
  have hk:kd=12:=by simpa using e
  subst hk
  refine⟨fun cs h=>?_,fun hlen=>?_,fun hlen=>fun f=>fin (dJ (by have h2:¬ n.length=8:=(by have:=hlen;simp [be,cD,bJ,av,iv]at this;omega);simp [cw,hJ,h2])) (dM _ _)⟩
  ·simp [av,bJ]at h
   subst h
   exact⟨_,_,rfl,rfl⟩
  ·have hl:n.length=8:=by have:=hlen;simp [be,cD,bJ,av,iv]at this;omega
   match n,hl with
   | [q0,q1,q2,q3,q4,q5,q6,q7],_=>
    exact⟨gp _,_,rfl,q0,rfl,fun h0=>⟨fun h1=>⟨[q0,q1,q2,q3,q4,q5,q6,q7],rfl,⟨by simp⟩,fun h2=>⟨R,fr,12,q0,q1,q2,q3,q4,q5,q6,q7,b,ls,rfl,⟨(dM _ _)⟩,⟨hR⟩,fun kb' hk hf τ=>⟨hf,fin (Lv (by have h0:q0=R.id:=(by simpa using h0);have h1:¬ fr=R.me:=(by simpa using h1);have h2:[q0,q1,q2,q3,q4,q5,q6,q7].any cM=false:=(by simpa using h2);simp [cw,bV,hJ,h0,h1];simpa [h0]using h2)) hk.h⟩⟩,fun h2=>fun f=>fin (dJ (by have h2:[q0,q1,q2,q3,q4,q5,q6,q7].any cM=true:=(by simpa only[Bool.not_eq_false']using h2);unfold cw;rw[h2];simp)) (dM _ _)⟩,fun h1=>fun f=>fin (dJ (by have h1:fr=R.me:=(by simpa using h1);simp [cw,h1])) (dM _ _)⟩,fun h0=>fun f=>fin (dJ (by have h0:¬ q0=R.id:=(by simpa using h0);simp [cw,bV,h0])) (dM _ _)⟩
 ·intro e
  have hk:kd=13:=by simpa using e
  subst hk
  refine⟨fun cs h=>?_,fun hlen=>?_,fun hlen=>fun f=>fin (dJ (by have h2:¬ n.length=3:=(by have:=hlen;simp [be,cD,bJ,av,iv]at this;omega);simp [cw,hJ,h2])) (dM _ _)⟩
  ·simp [av,bJ]at h
   subst h
   exact⟨_,_,rfl,rfl⟩
  ·have hl:n.length=3:=by have:=hlen;simp [be,cD,bJ,av,iv]at this;omega
   match n,hl with
   | [q0,q1,q2],_=>
    exact⟨gp _,_,rfl,q0,rfl,fun h0=>⟨fun h1=>⟨[q0,q1,q2],rfl,⟨by simp⟩,fun h2=>⟨R,fr,13,q0,q1,q2,b,ls,rfl,⟨(dM _ _)⟩,⟨hR⟩,fun kb' hk hf τ=>⟨hf,fin (Lw (by have h0:q0=R.id:=(by simpa using h0);have h1:¬ fr=R.me:=(by simpa using h1);have h2:[q0,q1,q2].any cM=false:=(by simpa using h2);simp [cw,bV,hJ,h0,h1];simpa [h0]using h2)) hk.h⟩⟩,fun h2=>fun f=>fin (dJ (by have h2:[q0,q1,q2].any cM=true:=(by simpa only[Bool.not_eq_false']using h2);unfold cw;rw[h2];simp)) (dM _ _)⟩,fun h1=>fun f=>fin (dJ (by have h1:fr=R.me:=(by simpa using h1);simp [cw,h1])) (dM _ _)⟩,fun h0=>fun f=>fin (dJ (by have h0:¬ q0=R.id:=(by simpa using h0);simp [cw,bV,h0])) (dM _ _)⟩
 ·intro e
  have hk:kd=14:=by simpa using e
  subst hk
  refine⟨fun cs h=>?_,fun hlen=>?_,fun hlen=>fun f=>fin (dJ (by have h2:¬ n.length=3:=(by have:=hlen;simp [be,cD,bJ,av,iv]at this;omega);simp [cw,hJ,h2])) (dM _ _)⟩
  ·simp [av,bJ]at h
   subst h
   exact⟨_,_,rfl,rfl⟩
  ·have hl:n.length=3:=by have:=hlen;simp [be,cD,bJ,av,iv]at this;omega
   match n,hl with
   | [q0,q1,q2],_=>
    exact⟨gp _,_,rfl,q0,rfl,fun h0=>⟨fun h1=>⟨[q0,q1,q2],rfl,⟨by simp⟩,fun h2=>⟨R,fr,14,q0,q1,q2,b,ls,rfl,⟨(dM _ _)⟩,⟨hR⟩,fun kb' hk hf τ=>⟨hf,fin (Lx (by have h0:q0=R.id:=(by simpa using h0);have h1:¬ fr=R.me:=(by simpa using h1);have h2:[q0,q1,q2].any cM=false:=(by simpa using h2);simp [cw,bV,hJ,h0,h1];simpa [h0]using h2)) hk.h⟩⟩,fun h2=>fun f=>fin (dJ (by have h2:[q0,q1,q2].any cM=true:=(by simpa only[Bool.not_eq_false']using h2);unfold cw;rw[h2];simp)) (dM _ _)⟩,fun h1=>fun f=>fin (dJ (by have h1:fr=R.me:=(by simpa using h1);simp [cw,h1])) (dM _ _)⟩,fun h0=>fun f=>fin (dJ (by have h0:¬ q0=R.id:=(by simpa using h0);simp [cw,bV,h0])) (dM _ _)⟩
 ·have hno:cw R fr ⟨kd,n,b,ls⟩=false:=by
   have h10:¬ kd=10:=fun h=>zv (by simp [h])
   have h11:¬ kd=11:=fun h=>Fv (by simp [h])
   have h12:¬ kd=12:=fun h=>Fw (by simp [h])
   have T6:¬ kd=13:=fun h=>Fx (by simp [h])
   have T7:¬ kd=14:=fun h=>Fy (by simp [h])
   have:¬ (10<=kd/\kd<=14/\n.length=hJ kd/\bV ⟨kd,n,b,ls⟩ 0=R.id/\fr≠R.me):=by omega
   simp only[cw,decide_eq_false this,Bool.false_and]
  have fs:∀ f:Nat->Value,K (.υ []) [cR R (ai T) (ξ false) (γ (f 14)) (γ (f 15)) (.ae none) (.sl 1 0 (nO R)) (.sl 2 0 (nD R)),rO R,rD R]:=fun f=>fin (dJ hno) (dM _ _)
  first
   |exact fs
   |exact⟨fun f=>(by cases f),fun _=>fs⟩
theorem Un (R:φ) (T:ML) (I Q:ML) (L:dx) (fr kd:Int) (n b:List Int) (ls:List (List Int)) (hT:bG T R.t) (hl:R.ld=some L) (hI:MB I L.ins) (hQ:MB Q L.dR) (hR:c8 R) (hM:jD ⟨kd,n,b,ls⟩) (hkb:aF R [cR R (ai T) (ξ true) (.mp 1) (.mp 2) (.ae (L.cur.map bn)) (.sl 3 0 (nO R)) (.sl 4 0 (nD R)),af I,af Q,rO R,rD R]) (K:V->KB->Prop) (hK:∀ kb',aF (gu R fr ⟨kd,n,b,ls⟩) kb'->K (.υ []) kb'):aO Tryz.prog uK (fun _=>none) 60 [ac 0 0,.int Z fr,.agg [.int Z kd,an (.sl 1 (ints Z n)),an (.sl 1 (ints θ b)),an (.sl 1 (bL ls))]] [cR R (ai T) (ξ true) (.mp 1) (.mp 2) (.ae (L.cur.map bn)) (.sl 3 0 (nO R)) (.sl 4 0 (nD R)),af I,af Q,rO R,rD R] (tU 13 dW K):=by
 have fin:∀{R':φ} {kb':KB},gu R fr ⟨kd,n,b,ls⟩=R'->aF R' kb'->K (.υ []) kb':=fun{R' kb'} h1 h2=>by
  have:=hK kb'
  rw[h1]at this
  exact this h2
 refine abC R T I Q (L.cur.map bn) fr ⟨kd,n,b,ls⟩ K ⟨?_,fun zv=>⟨?_,fun Fv=>⟨?_,fun Fw=>⟨?_,fun Fx=>⟨?_,fun Fy=>?_⟩⟩⟩⟩⟩
 ·intro e
  have hk:kd=10:=by simpa using e
  subst hk
  refine⟨fun cs h=>?_,fun hlen=>?_,fun hlen=>fin (dJ (by have h2:¬ n.length=3:=(by have:=hlen;simp [be,cD,bJ,av,iv]at this;omega);simp [cw,hJ,h2])) hkb⟩
  ·simp [av,bJ]at h
   subst h
   exact⟨_,_,rfl,rfl⟩
  ·have hl:n.length=3:=by have:=hlen;simp [be,cD,bJ,av,iv]at this;omega
   match n,hl with
   | [q0,q1,q2],_=>
    exact⟨gp _,_,rfl,q0,rfl,fun h0=>⟨fun h1=>⟨[q0,q1,q2],rfl,⟨by simp⟩,fun h2=>⟨R,fr,10,q0,q1,q2,b,ls,rfl,⟨hkb⟩,⟨hR,hM.b,hM.l,hM.ls⟩,fun kb' hk hf τ=>⟨hf,fin (Lt (by have h0:q0=R.id:=(by simpa using h0);have h1:¬ fr=R.me:=(by simpa using h1);have h2:[q0,q1,q2].any cM=false:=(by simpa using h2);simp [cw,bV,hJ,h0,h1];simpa [h0]using h2)) hk.h⟩⟩,fun h2=>fin (dJ (by have h2:[q0,q1,q2].any cM=true:=(by simpa only[Bool.not_eq_false']using h2);unfold cw;rw[h2];simp)) hkb⟩,fun h1=>fin (dJ (by have h1:fr=R.me:=(by simpa using h1);simp [cw,h1])) hkb⟩,fun h0=>fin (dJ (by have h0:¬ q0=R.id:=(by simpa using h0);simp [cw,bV,h0])) hkb⟩
 ·intro e
  have hk:kd=11:=by simpa using e
  subst hk
  refine⟨fun cs h=>?_,fun hlen=>?_,fun hlen=>fin (dJ (by have h2:¬ n.length=3:=(by have:=hlen;simp [be,cD,bJ,av,iv]at this;omega);simp [cw,hJ,h2])) hkb⟩
  ·simp [av,bJ]at h
   subst h
   exact⟨_,_,rfl,rfl⟩
  ·have hl:n.length=3:=by have:=hlen;simp [be,cD,bJ,av,iv]at this;omega
   match n,hl with
   | [q0,q1,q2],_=>
    exact⟨gp _,_,rfl,q0,rfl,fun h0=>⟨fun h1=>⟨[q0,q1,q2],rfl,⟨by simp⟩,fun h2=>⟨R,fr,11,q0,q1,q2,b,ls,rfl,⟨hkb⟩,⟨hR⟩,fun kb' hk hf τ=>⟨hf,fin (Lu (by have h0:q0=R.id:=(by simpa using h0);have h1:¬ fr=R.me:=(by simpa using h1);have h2:[q0,q1,q2].any cM=false:=(by simpa using h2);simp [cw,bV,hJ,h0,h1];simpa [h0]using h2)) hk.h⟩⟩,fun h2=>fin (dJ (by have h2:[q0,q1,q2].any cM=true:=(by simpa only[Bool.not_eq_false']using h2);unfold cw;rw[h2];simp)) hkb⟩,fun h1=>fin (dJ (by have h1:fr=R.me:=(by simpa using h1);simp [cw,h1])) hkb⟩,fun h0=>fin (dJ (by have h0:¬ q0=R.id:=(by simpa using h0);simp [cw,bV,h0])) hkb⟩
 ·intro e
  have hk:kd=12:=by simpa using e
  subst hk
  refine⟨fun cs h=>?_,fun hlen=>?_,fun hlen=>fin (dJ (by have h2:¬ n.length=8:=(by have:=hlen;simp [be,cD,bJ,av,iv]at this;omega);simp [cw,hJ,h2])) hkb⟩
  ·simp [av,bJ]at h
   subst h
   exact⟨_,_,rfl,rfl⟩
  ·have hl:n.length=8:=by have:=hlen;simp [be,cD,bJ,av,iv]at this;omega
   match n,hl with
   | [q0,q1,q2,q3,q4,q5,q6,q7],_=>
    exact⟨gp _,_,rfl,q0,rfl,fun h0=>⟨fun h1=>⟨[q0,q1,q2,q3,q4,q5,q6,q7],rfl,⟨by simp⟩,fun h2=>⟨R,fr,12,q0,q1,q2,q3,q4,q5,q6,q7,b,ls,rfl,⟨hkb⟩,⟨hR⟩,fun kb' hk hf τ=>⟨hf,fin (Lv (by have h0:q0=R.id:=(by simpa using h0);have h1:¬ fr=R.me:=(by simpa using h1);have h2:[q0,q1,q2,q3,q4,q5,q6,q7].any cM=false:=(by simpa using h2);simp [cw,bV,hJ,h0,h1];simpa [h0]using h2)) hk.h⟩⟩,fun h2=>fin (dJ (by have h2:[q0,q1,q2,q3,q4,q5,q6,q7].any cM=true:=(by simpa only[Bool.not_eq_false']using h2);unfold cw;rw[h2];simp)) hkb⟩,fun h1=>fin (dJ (by have h1:fr=R.me:=(by simpa using h1);simp [cw,h1])) hkb⟩,fun h0=>fin (dJ (by have h0:¬ q0=R.id:=(by simpa using h0);simp [cw,bV,h0])) hkb⟩
 ·intro e
  have hk:kd=13:=by simpa using e
  subst hk
  refine⟨fun cs h=>?_,fun hlen=>?_,fun hlen=>fin (dJ (by have h2:¬ n.length=3:=(by have:=hlen;simp [be,cD,bJ,av,iv]at this;omega);simp [cw,hJ,h2])) hkb⟩
  ·simp [av,bJ]at h
   subst h
   exact⟨_,_,rfl,rfl⟩
  ·have hl:n.length=3:=by have:=hlen;simp [be,cD,bJ,av,iv]at this;omega
   match n,hl with
   | [q0,q1,q2],_=>
    exact⟨gp _,_,rfl,q0,rfl,fun h0=>⟨fun h1=>⟨[q0,q1,q2],rfl,⟨by simp⟩,fun h2=>⟨R,fr,13,q0,q1,q2,b,ls,rfl,⟨hkb⟩,⟨hR⟩,fun kb' hk hf τ=>⟨hf,fin (Lw (by have h0:q0=R.id:=(by simpa using h0);have h1:¬ fr=R.me:=(by simpa using h1);have h2:[q0,q1,q2].any cM=false:=(by simpa using h2);simp [cw,bV,hJ,h0,h1];simpa [h0]using h2)) hk.h⟩⟩,fun h2=>fin (dJ (by have h2:[q0,q1,q2].any cM=true:=(by simpa only[Bool.not_eq_false']using h2);unfold cw;rw[h2];simp)) hkb⟩,fun h1=>fin (dJ (by have h1:fr=R.me:=(by simpa using h1);simp [cw,h1])) hkb⟩,fun h0=>fin (dJ (by have h0:¬ q0=R.id:=(by simpa using h0);simp [cw,bV,h0])) hkb⟩
 ·intro e
  have hk:kd=14:=by simpa using e
  subst hk
  refine⟨fun cs h=>?_,fun hlen=>?_,fun hlen=>fin (dJ (by have h2:¬ n.length=3:=(by have:=hlen;simp [be,cD,bJ,av,iv]at this;omega);simp [cw,hJ,h2])) hkb⟩
  ·simp [av,bJ]at h
   subst h
   exact⟨_,_,rfl,rfl⟩
  ·have hl:n.length=3:=by have:=hlen;simp [be,cD,bJ,av,iv]at this;omega
   match n,hl with
   | [q0,q1,q2],_=>
    exact⟨gp _,_,rfl,q0,rfl,fun h0=>⟨fun h1=>⟨[q0,q1,q2],rfl,⟨by simp⟩,fun h2=>⟨R,fr,14,q0,q1,q2,b,ls,rfl,⟨hkb⟩,⟨hR⟩,fun kb' hk hf τ=>⟨hf,fin (Lx (by have h0:q0=R.id:=(by simpa using h0);have h1:¬ fr=R.me:=(by simpa using h1);have h2:[q0,q1,q2].any cM=false:=(by simpa using h2);simp [cw,bV,hJ,h0,h1];simpa [h0]using h2)) hk.h⟩⟩,fun h2=>fin (dJ (by have h2:[q0,q1,q2].any cM=true:=(by simpa only[Bool.not_eq_false']using h2);unfold cw;rw[h2];simp)) hkb⟩,fun h1=>fin (dJ (by have h1:fr=R.me:=(by simpa using h1);simp [cw,h1])) hkb⟩,fun h0=>fin (dJ (by have h0:¬ q0=R.id:=(by simpa using h0);simp [cw,bV,h0])) hkb⟩
 ·have hno:cw R fr ⟨kd,n,b,ls⟩=false:=by
   have h10:¬ kd=10:=fun h=>zv (by simp [h])
   have h11:¬ kd=11:=fun h=>Fv (by simp [h])
   have h12:¬ kd=12:=fun h=>Fw (by simp [h])
   have T6:¬ kd=13:=fun h=>Fx (by simp [h])
   have T7:¬ kd=14:=fun h=>Fy (by simp [h])
   have:¬ (10<=kd/\kd<=14/\n.length=hJ kd/\bV ⟨kd,n,b,ls⟩ 0=R.id/\fr≠R.me):=by omega
   simp only[cw,decide_eq_false this,Bool.false_and]
  have fs:K (.υ []) [cR R (ai T) (ξ true) (.mp 1) (.mp 2) (.ae (L.cur.map bn)) (.sl 3 0 (nO R)) (.sl 4 0 (nD R)),af I,af Q,rO R,rD R]:=fin (dJ hno) hkb
  first
   |exact fs
   |exact⟨fun f=>(by cases f),fun _=>fs⟩
def Rn:aH:=fun args kb K=>∃ R fr m,args=[ac 0 0,.int Z fr,.agg [.int Z m.kd,an (.sl 1 (ints Z m.n)),an (.sl 1 (ints θ m.b)),an (.sl 1 (bL m.l))]]/\aF R kb/\c8 R/\jD m/\∀ kb',aF (gu R fr m) kb'->K (.υ []) kb'
theorem Xg:fw Tryz.prog 60 Rn:=Wq mixed 13 dW (fun args kb K h=>by
 obtain⟨R,fr,⟨kd,n,b,ls⟩,rfl,hkb,hR,hM,hK⟩:=h
 have gN:=hkb
 unfold aF at hkb
 split at hkb
 ·rename_i hl
  obtain⟨χ,ψ,T,hT,rfl⟩:=hkb
  exact⟨_,_,I9,Uo R T χ ψ fr kd n b ls hT hl hR hM (fun a b=>by unfold aF;simp only[hl];exact⟨a,b,T,hT,rfl⟩) K hK⟩
 ·rename_i L hl
  obtain⟨I,Q,T,hI,hQ,hT,rfl⟩:=hkb
  exact⟨_,_,I9,Un R T I Q L fr kd n b ls hT hl hI hQ hR hM gN K hK⟩)
end Go.Proofs.YtfcjngcnifdmnaaGreat
