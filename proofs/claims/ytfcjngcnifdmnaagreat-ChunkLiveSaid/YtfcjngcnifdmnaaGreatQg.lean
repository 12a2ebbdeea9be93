import Derived.Test.YtfcjngcnifdmnaaGreatQf
import Derived.KernelRfl
namespace Go.Proofs.YtfcjngcnifdmnaaGreat
open Vc Go
open Go.IntKind renaming i64->γ,u8->ξ,u32->iM
open Vc.V renaming any->δ,int->ε,sl->ζ,sb->ο,ptr->aj,φ->au,dat->aC,aa->aR,mp->aY,arr->bF,agg->fz
open Vc.D renaming val->η,sl->χ
open Go.Value renaming int->ν,map->kT,bool->mG,oneCell'->mH
open List renaming map->ae,drop->ax,take->ay,length_append->bn,getElem?_eq_getElem->bu,getElem?_eq_some_iff->bH,length_map->bT,take_length->cQ,length_take->cW,mem_singleton->da,replicate->dv,mem_append->dz,mem_map->dO,mem_cons->dS,Mem->dW,append_assoc->dX,getElem?_append_left->dY,take_of_length_le->eQ,getElem?_append_right->fk,getElem?_map->fy,mem_of_getElem?->fF,length_drop->gm,mem_cons_of_mem->gn,append_nil->gz,length_cons->gA,getD_eq_getElem?_getD->gO,getElem?_set_ne->gP,mem_append_left->gQ,length_singleton->gZ,drop_zero->iD,getElem?_eq_none->iE,getElem?_take_of_lt->iF,length_set->iG,getElem?_set_self->iN,mem_cons_self->iV,map_append->ja,range->jb,nil_append->jr,take_add_one->jt,flatten_cons->jF,getElem?_of_mem->jG,getElem?_drop->jW,map_cons->kv,length_nil->kP,mem_append_right->kQ,mem_filter->lu,ext_getElem?->mb,eq_nil_of_length_eq_zero->mD
open Vc.KO renaming row->ai,dead->aw,cells->aB,objs->fE
open Nat renaming le_refl->ar,zero_le->bj,beq->cX,zero_add->c9,eq_of_beq_eq_true->de,add_assoc->g_,lor->iW,lt_or_ge->kx,sub_zero->ly,le_trans->mc
open Option renaming some->bb,bind_eq_some_iff->lO,map->ng
open Int renaming toNat_natCast->cN,le_refl->dE
open Bool renaming and_eq_true->jo,not_eq_false'->kr,not_eq_true'->mA
set_option linter.unusedVariables false
set_option linter.unusedSimpArgs false
set_option maxRecDepth 100000
set_option maxHeartbeats 2000000
def yp (s:List Int×List L3) (o:Op):List Int×List L3:=(fm s.1 o.kd o.bk o.b,kD s.2 o)
def dh (l:List Op):List Int×List L3:=l.foldl yp (jT,[])
theorem D3 (l:List Op) (o:Op):dh (l++[o])=yp (dh l) o:=by unfold dh;rw[List.foldl_append];rfl
structure Gh where
 act:Int->Prop
 ba:Int->Nat
 pe:Int->Int
 lg:Int->List Op
 rc:Int->Int->Nat
def WX:Vw:=⟨0,0,0,[],[]⟩
def l7 (vs:List Vw) (e:Int):Vw:=vs.getD (e - 1).toNat WX
def hZ (vs:List Vw) (e:Int):Int:=fb (l7 vs e)
structure GI (vs:List Vw) (G:Gh):Prop where
 a0:∀ e,G.act e->1<=e/\e<=vs.length
 nl:∀ e,¬ G.act e->G.lg e=[]
 nr:∀ x e,¬ G.act e->G.rc x e=0
 bl:∀ e,G.act e->G.ba e<=(G.lg e).length
 p0:∀ e,G.act e->0<=G.pe e/\G.pe e<e
 p1:∀ e,G.act e->G.pe e=0->G.ba e=0
 p2:∀ e,G.act e->1<=G.pe e->G.act (G.pe e)/\G.ba (G.pe e)<=G.ba e/\G.ba e<=(G.lg (G.pe e)).length/\(G.lg e).take (G.ba e)=(G.lg (G.pe e)).take (G.ba e)
 p3:∀ e,G.act e->G.rc (hZ vs e) (G.pe e)=G.ba e
 p4:∀ e,G.act e->∀ e',G.pe e<e'->e'<e->G.rc (hZ vs e) e'=0
 rl:∀ x e,G.rc x e<=(G.lg e).length
 ld:∀ e,G.act e->G.rc (hZ vs e) e=(G.lg e).length
structure VI (vs:List Vw) (G:Gh):Prop where
 ve:∀(i:Nat) (v:Vw),vs[i]? =some v->v.ve=(i:Int)+1/\v.vi=5
 m0:∀ v∈vs,v.mem≠[]
 nd:∀ v∈vs,(v.mem++v.aH).Nodup
 nx:∀(i:Nat) (v v':Vw),vs[i]? =some v->vs[i+1]? =some v'->∀ x∈v'.mem,x∈v.mem∨(x∈v.aH/\G.act v.ve/\G.ba v.ve<=G.rc x v.ve)
structure ku (vs:List Vw) (G:Gh) (k:Int) (R:ι) (L:b9):Prop where
 v:R.v∈vs
 ep:R.ep=R.v.ve
 hd:hZ vs R.ep=k
 ins:∀ x∈aP R,L.ins x=true->R.nu<=(G.rc x R.ep:Int)+(if L.cur.isSome then 1 else 0)
 cy:∀ x,L.cy x=true->R.nu<=(G.rc x R.ep:Int)
 cur:∀ o,L.cur=some o->(G.ba R.ep:Int)<R.nu/\(G.lg R.ep)[R.nu.toNat - 1]? =some o
structure RI (vs:List Vw) (G:Gh) (k:Int) (R:ι):Prop where
 me:R.me=k
 id:R.id=5
 bl:R.bl=false
 lo:R.lo=false
 e0:0<=R.ep
 n0:0<=R.nu
 ac:R.ep≠0->G.act R.ep/\(G.ba R.ep:Int)<=R.nu
 nl:R.nu<=((G.lg R.ep).length:Int)
 st:(R.c,R.t)=dh ((G.lg R.ep).take R.nu.toNat)
 rc:(G.rc k R.ep:Int)=R.nu
 rz:∀ e,R.ep<e->G.rc k e=0
 al:∀ e,G.act e->hZ vs e=k->e<=R.ep
 v:R.v=WX∨R.v∈vs
 l:∀ L,R.ld=some L->ku vs G k R L
inductive iO (vs:List Vw) (G:Gh) (fr:Int):dL->Prop
 |sync (e:Int) (n:Nat):G.act e->fr=hZ vs e->G.ba e<=n->n<=(G.lg e).length->fl (dh ((G.lg e).take n)).2->(dh ((G.lg e).take n)).1.length=128->iO vs G fr ⟨10,[5,e,(n:Int)],ca (dh ((G.lg e).take n)).1,[be (dh ((G.lg e).take n)).2]⟩
 |ok (kd e:Int) (n:Nat):(kd=11∨kd=13∨kd=14)->n<=G.rc fr e->iO vs G fr ⟨kd,[5,e,(n:Int)],[],[]⟩
 |op (e:Int) (n:Nat) (o:Op) (s:Int):G.act e->fr=hZ vs e->G.ba e<n->(G.lg e)[n - 1]? =some o->iO vs G fr ⟨12,[5,e,(n:Int),o.cl,o.nm,o.kd,o.bk,s],o.b,[]⟩
structure Cm (vs:List Vw) (G:Gh) (e:Int) (n:Nat):Prop where
 a:G.act e
 n1:1<=n
 nl:n<=(G.lg e).length
 al:∀ x∈(l7 vs e).mem++(l7 vs e).aH,n<=G.rc x e
structure vB (vs:List Vw) (G:Gh) (d:Dn):Prop where
 h:d.e=0->∃ e n,Cm vs G e n/\d.o∈(G.lg e).take n/\(d.o.kd=3->(G.lg e)[n - 1]? =some d.o/\d.x=mu (dh ((G.lg e).take n)).1 d.o)
structure Ex (vs:List Vw) (k:Int) (G G':Gh):Prop where
 act:∀ e,G.act e->G'.act e
 ba:∀ e,G.act e->G'.ba e=G.ba e
 lg:∀ e,G.lg e<+:G'.lg e
 lk:∀ e,hZ vs e≠k->G'.lg e=G.lg e
 ak:∀ e,G'.act e->¬ G.act e->hZ vs e=k
 rc:∀ x e,G.rc x e<=G'.rc x e
 rk:∀ x e,x≠k->G'.rc x e=G.rc x e
theorem Ex.refl (vs:List Vw) (k:Int) (G:Gh):Ex vs k G G:=⟨fun _ h=>h,fun _ _=>rfl,fun _=>List.prefix_rfl,fun _ _=>rfl,fun _ h n=>absurd h n,fun _ _=>ar _,fun _ _ _=>rfl⟩
theorem qK {l l':List Op} (h:l<+:l') {n:Nat} (hn:n<=l.length):l'.take n=l.take n:=by
 obtain⟨t,rfl⟩:=h;rw[List.take_append_of_le_length hn]
theorem w0 {l l':List Op} (h:l<+:l') {n:Nat} {o:Op} (hn:l[n]? =some o):l'[n]? =some o:=by
 obtain⟨t,rfl⟩:=h;rw[dY (bH.1 hn).1];exact hn
theorem w7 {l l':List Op} (h:l<+:l'):l.length<=l'.length:=h.length_le
theorem HW {l:List Op} {n:Nat} {o:Op} (hn:l[n]? =some o):n<l.length:=(bH.1 hn).1
theorem ku.mono {vs:List Vw} {k j:Int} {G G':Gh} {R:ι} {L:b9} (h:ku vs G j R L) (ha:G.act R.ep) (hx:Ex vs k G G'):ku vs G' j R L:=
 ⟨h.v,h.ep,h.hd,fun x ho hx'=>Int.le_trans (h.ins x ho hx') (Int.add_le_add_right (Int.ofNat_le.2 (hx.rc x R.ep)) _),fun x hx'=>by have:=h.cy x hx';have:=hx.rc x R.ep;omega,fun o ho=>⟨by rw[hx.ba _ ha];exact(h.cur o ho).1,w0 (hx.lg _) (h.cur o ho).2⟩⟩
theorem ku.act {vs:List Vw} {k:Int} {G:Gh} {R:ι} {L:b9} (hV:VI vs G) (h:ku vs G k R L):1<=R.ep:=by
 obtain⟨i,hi⟩:=jG h.v
 have:=(hV.ve i _ hi).1
 rw[h.ep];omega
theorem RI.mono {vs:List Vw} {k j:Int} {G G':Gh} {R:ι} (hV:VI vs G) (h:RI vs G j R) (hx:Ex vs k G G') (hj:j≠k):RI vs G' j R:=by
 have hnl:=h.nl
 have hn0:=h.n0
 refine⟨h.me,h.id,h.bl,h.lo,h.e0,h.n0,fun he=>⟨hx.act _ (h.ac he).1,by rw[hx.ba _ (h.ac he).1];exact(h.ac he).2⟩,?_,?_,by rw[hx.rk _ _ hj];exact h.rc,fun e he=>by rw[hx.rk _ _ hj];exact h.rz e he,fun e he hl=>?_,h.v,fun L hL=>?_⟩
 ·have:=w7 (hx.lg R.ep);omega
 ·rw[qK (hx.lg R.ep) (by omega)];exact h.st
 ·exact Classical.byCases (fun ha:G.act e=>h.al e ha hl) (fun ha=>absurd (hl.symm.trans (hx.ak e he ha)) hj)
 ·have:=(h.l L hL).act hV
  exact(h.l L hL).mono (h.ac (by omega)).1 hx
theorem iO.mono {vs:List Vw} {k fr:Int} {G G':Gh} {m:dL} (h:iO vs G fr m) (hx:Ex vs k G G'):iO vs G' fr m:=by
 cases h with
 |sync e n a f b l x c=>
  have e1:=qK (hx.lg e) l
  have:=w7 (hx.lg e)
  rw[<- e1]
  exact .sync e n (hx.act e a) f (by rw[hx.ba e a];exact b) (by omega) (by rw[e1];exact x) (by rw[e1];exact c)
 |ok kd e n hk hn=>exact .ok kd e n hk (mc hn (hx.rc _ _))
 |op e n o s a f b g=>exact .op e n o s (hx.act e a) f (by rw[hx.ba e a];exact b) (w0 (hx.lg e) g)
theorem Cm.mono {vs:List Vw} {k:Int} {G G':Gh} {e:Int} {n:Nat} (h:Cm vs G e n) (hx:Ex vs k G G'):Cm vs G' e n:=
 ⟨hx.act e h.a,h.n1,mc h.nl (w7 (hx.lg e)),fun x hx'=>mc (h.al x hx') (hx.rc x e)⟩
theorem VI.mono {vs:List Vw} {k:Int} {G G':Gh} (h:VI vs G) (hx:Ex vs k G G'):VI vs G':=
 ⟨h.ve,h.m0,h.nd,fun i v v' h1 h2 x hx'=>(h.nx i v v' h1 h2 x hx').imp id (fun⟨a,b,c⟩=>⟨a,hx.act _ b,by rw[hx.ba _ b];exact mc c (hx.rc _ _)⟩)⟩
theorem Ei {vs:List Vw} {e:Int} (h1:1<=e) (h2:e<=vs.length):vs[(e - 1).toNat]? =some (l7 vs e):=by
 unfold l7
 rw[gO,bu (by omega)];rfl
theorem W9 {vs:List Vw} {G:Gh} (hV:VI vs G) {e:Int} (h1:1<=e) (h2:e<=vs.length):(l7 vs e).ve=e:=by
 have:=(hV.ve _ _ (Ei h1 h2)).1
 omega
theorem vh {vs:List Vw} {G:Gh} (hV:VI vs G) {v:Vw} (hv:v∈vs):l7 vs v.ve=v/\1<=v.ve/\v.ve<=vs.length:=by
 obtain⟨i,hi⟩:=jG hv
 have h1:=(hV.ve i _ hi).1
 have h2:=(bH.1 hi).1
 refine⟨?_,by omega,by omega⟩
 unfold l7
 rw[gO,show(v.ve - 1).toNat=i by omega,hi];rfl
theorem Cc {v:Vw} (h:v.mem≠[]):fb v∈v.mem:=by
 unfold fb
 cases hm:v.mem with
 |nil=>exact absurd hm h
 |cons a r=>exact iV
theorem WS {vs:List Vw} {G:Gh} (hV:VI vs G) {x:Int} {a:Int} (ha:1<=a):∀(d:Nat),a+(d:Int)<=vs.length->x∈(l7 vs (a+(d:Int))).mem->
  x∈(l7 vs a).mem∨∃ j,a<=j/\j<a+(d:Int)/\x∈(l7 vs j).aH/\G.act j/\G.ba j<=G.rc x j
 | 0,_,h=> .inl (by simpa using h)
 |d+1,hd,h=>by
  have h1:=Ei (vs:=vs) (e:=a+(d:Int)) (by omega) (by omega)
  have h2:=Ei (vs:=vs) (e:=a+((d+1:Nat):Int)) (by omega) (by omega)
  rw[show(a+((d+1:Nat):Int) - 1).toNat=(a+(d:Int) - 1).toNat+1 by omega]at h2
  have oT:=W9 hV (e:=a+(d:Int)) (by omega) (by omega)
  rcases hV.nx _ _ _ h1 h2 x h with h3 | ⟨h3,h4,h5⟩
  ·rcases WS hV ha d (by omega) h3 with h6 | ⟨j,j1,j2,j3⟩
   ·exact .inl h6
   ·exact .inr ⟨j,j1,by omega,j3⟩
  ·rw[oT]at h4 h5
   exact .inr ⟨a+d,by omega,by omega,h3,h4,h5⟩
theorem agE {l l':List Op} {n m:Nat} (h:l.take m=l'.take m) (hn:n<=m):l.take n=l'.take n:=by
 have:=congrArg (ay n) h
 rwa [List.take_take,List.take_take,Nat.min_eq_left hn]at this
theorem GN {vs:List Vw} {G:Gh} (hG:GI vs G) (hV:VI vs G) {e:Int} {n:Nat} (hc:Cm vs G e n):∀(d:Nat) (e':Int),(e' - e).toNat<=d->G.act e'->e<e'->n<=G.ba e'/\(G.lg e').take n=(G.lg e).take n
 | 0,e',hd,_,hl=>by omega
 |d+1,e',hd,ha,hl=>by
  have a0:=hG.a0 e hc.a
  have a1:=hG.a0 e' ha
  have p0:=hG.p0 e' ha
  have hm:hZ vs e'∈(l7 vs e').mem:=Cc (hV.m0 _ (fF (Ei a1.1 a1.2)))
  have key:∃ j,e<=j/\j<e'/\n<=G.rc (hZ vs e') j/\(G.lg j).take n=(G.lg e).take n:=by
   have hb:=WS hV (x:=hZ vs e') a0.1 (e' - e).toNat (by omega) (by rw[show e+((e' - e).toNat:Int)=e' by omega];exact hm)
   rcases hb with h1 | ⟨j,j1,j2,j3,j4,j5⟩
   ·exact⟨e,by omega,hl,hc.al _ (gQ _ h1),rfl⟩
   ·rcases(by omega:j=e∨e<j)with rfl | hj
    ·exact⟨j,by omega,hl,hc.al _ (kQ _ j3),rfl⟩
    ·obtain⟨k1,k2⟩:=GN hG hV hc d j (by omega) j4 hj
     exact⟨j,by omega,by omega,by omega,k2⟩
  obtain⟨j,j1,j2,j3,j4⟩:=key
  have n1:=hc.n1
  have hp:j<=G.pe e':=by
   rcases Int.lt_or_le (G.pe e') j with h | h
   ·have:=hG.p4 e' ha j h j2;omega
   ·exact h
  obtain⟨q1,q2,q3,q4⟩:=hG.p2 e' ha (by omega)
  have fin:n<=G.ba e'->(G.lg (G.pe e')).take n=(G.lg e).take n->n<=G.ba e'/\(G.lg e').take n=(G.lg e).take n:=fun h1 h2=>⟨h1,(agE q4 h1).trans h2⟩
  rcases(by omega:j=G.pe e'∨j<G.pe e')with h | h
  ·have:=hG.p3 e' ha
   rw[<- h]at this
   exact fin (by omega) (by rw[<- h];exact j4)
  ·obtain⟨k1,k2⟩:=GN hG hV hc d (G.pe e') (by omega) q1 (by omega)
   exact fin (by omega) k2
def Gh.qm (G:Gh) (k E:Int) (n:Nat):Gh:={G with rc:=fun x e=>if e=E/\x=k then n else G.rc x e }
def Gh.add (G:Gh) (k E:Int) (o:Op):Gh:={G with lg:=fun e=>if e=E then G.lg E++[o]else G.lg e,rc:=fun x e=>if e=E/\x=k then(G.lg E).length+1 else G.rc x e }
def Gh.lz (G:Gh) (k E p:Int) (n:Nat):Gh:=
 ⟨fun e=>e=E∨G.act e,fun e=>if e=E then n else G.ba e,fun e=>if e=E then p else G.pe e,fun e=>if e=E then(G.lg p).take n else G.lg e,fun x e=>if e=E/\x=k then n else G.rc x e⟩
theorem Bo (G:Gh) (k E:Int) (n:Nat):(G.qm k E n).rc k E=n:=if_pos ⟨rfl,rfl⟩
theorem rp (G:Gh) {k E x e:Int} (n:Nat) (h:¬ (e=E/\x=k)):(G.qm k E n).rc x e=G.rc x e:=if_neg h
theorem Bn (G:Gh) (k E:Int) (o:Op):(G.add k E o).rc k E=(G.lg E).length+1:=if_pos ⟨rfl,rfl⟩
theorem sQ (G:Gh) {k E x e:Int} (o:Op) (h:¬ (e=E/\x=k)):(G.add k E o).rc x e=G.rc x e:=if_neg h
theorem ui (G:Gh) (k E:Int) (o:Op):(G.add k E o).lg E=G.lg E++[o]:=if_pos rfl
theorem x6 (G:Gh) {k E e:Int} (o:Op) (h:e≠E):(G.add k E o).lg e=G.lg e:=if_neg h
section
variable {vs:List Vw} {G:Gh} {k:Int} {R:ι}
theorem NX (hG:GI vs G) (h:RI vs G k R) {E:Int} {n:Nat} (ha:G.act E) (hk:hZ vs E≠k) (he:R.ep<=E) (h1:G.rc k E<=n) (h2:n<=(G.lg E).length):GI vs (G.qm k E n)/\Ex vs k G (G.qm k E n):=by
 have nk:∀ e e',G.act e->e'<e->¬ (e'=E/\hZ vs e=k):=fun e e' a1 a2 ⟨a3,a4⟩=>by
  have:=h.al e a1 a4;omega
 refine⟨⟨hG.a0,hG.nl,fun x e hn=>?_,hG.bl,hG.p0,hG.p1,hG.p2,fun e a=>?_,fun e a e' q1 q2=>?_,fun x e=>?_,fun e a=>?_⟩,⟨fun _ h=>h,fun _ _=>rfl,fun _=>List.prefix_rfl,fun _ _=>rfl,fun _ a n=>absurd a n,fun x e=>?_,fun x e hx=>rp G n (fun t=>hx t.2)⟩⟩
 ·rw[rp G n (fun t=>hn (by rw[t.1];exact ha))];exact hG.nr x e hn
 ·have:=(hG.p0 e a).2
  exact(rp G n (nk e _ a this)).trans (hG.p3 e a)
 ·exact(rp G n (nk e e' a q2)).trans (hG.p4 e a e' q1 q2)
 ·by_cases c:e=E/\x=k
  ·obtain⟨rfl,rfl⟩:=c;rw[Bo];exact h2
  ·rw[rp G n c];exact hG.rl x e
 ·by_cases c:e=E/\hZ vs e=k
  ·exact absurd (by rw[<- c.1];exact c.2) hk
  ·exact(rp G n c).trans (hG.ld e a)
 ·by_cases c:e=E/\x=k
  ·obtain⟨rfl,rfl⟩:=c;rw[Bo];exact h1
  ·rw[rp G n c];exact ar _
theorem Yy (hG:GI vs G) (h:RI vs G k R) (o:Op) (ha:G.act R.ep) (hk:hZ vs R.ep=k):GI vs (G.add k R.ep o)/\Ex vs k G (G.add k R.ep o):=by
 have nk:∀ e e',G.act e->e'<e->¬ (e'=R.ep/\hZ vs e=k):=fun e e' a1 a2 ⟨a3,a4⟩=>by
  have:=h.al e a1 a4;omega
 have pre:∀ e,G.lg e<+:(G.add k R.ep o).lg e:=fun e=>by
  by_cases c:e=R.ep
  ·subst c;rw[ui];exact List.prefix_append _ _
  ·rw[x6 G o c];exact List.prefix_rfl
 refine⟨⟨hG.a0,fun e hn=>?_,fun x e hn=>?_,fun e a=>mc (hG.bl e a) (w7 (pre e)),hG.p0,hG.p1,fun e a q=>?_,fun e a=>?_,fun e a e' q1 q2=>?_,fun x e=>?_,fun e a=>?_⟩,⟨fun _ h=>h,fun _ _=>rfl,pre,fun e he=>x6 G o (fun t=>he (by rw[t];exact hk)),fun _ a n=>absurd a n,fun x e=>?_,fun x e hx=>sQ G o (fun t=>hx t.2)⟩⟩
 ·rw[x6 G o (fun t=>hn (by rw[t];exact ha))];exact hG.nl e hn
 ·rw[sQ G o (fun t=>hn (by rw[t.1];exact ha))];exact hG.nr x e hn
 ·obtain⟨b1,b2,b3,b4⟩:=hG.p2 e a q
  exact⟨b1,b2,mc b3 (w7 (pre _)),by show((G.add k R.ep o).lg e).take (G.ba e)=((G.add k R.ep o).lg (G.pe e)).take (G.ba e);rw[qK (pre e) (hG.bl e a),qK (pre (G.pe e)) b3];exact b4⟩
 ·have:=(hG.p0 e a).2
  exact(sQ G o (nk e _ a this)).trans (hG.p3 e a)
 ·exact(sQ G o (nk e e' a q2)).trans (hG.p4 e a e' q1 q2)
 ·by_cases c:e=R.ep/\x=k
  ·obtain⟨rfl,rfl⟩:=c;rw[Bn,ui,bn];exact ar _
  ·rw[sQ G o c];exact mc (hG.rl x e) (w7 (pre e))
 ·by_cases c:e=R.ep
  ·subst c;rw[hk,Bn,ui,bn];rfl
  ·rw[sQ G o (fun t=>c t.1),x6 G o c];exact hG.ld e a
 ·by_cases c:e=R.ep/\x=k
  ·obtain⟨rfl,rfl⟩:=c;rw[Bn];exact mc (hG.rl _ _) (Nat.le_succ _)
  ·rw[sQ G o c];exact ar _
theorem YY (hG:GI vs G) (h:RI vs G k R) {E:Int} (hk:hZ vs E=k) (he:R.ep<E) (hE:E<=vs.length):GI vs (G.lz k E R.ep R.nu.toNat)/\Ex vs k G (G.lz k E R.ep R.nu.toNat):=by
 have e0:=h.e0
 have n0:=h.n0
 have nl:=h.nl
 have na:¬ G.act E:=fun a=>by have:=h.al E a hk;omega
 have rX:∀ e,e≠E->(G.lz k E R.ep R.nu.toNat).lg e=G.lg e:=fun e c=>if_neg c
 have tB:(G.lz k E R.ep R.nu.toNat).lg E=(G.lg R.ep).take R.nu.toNat:=if_pos rfl
 have um:∀ e,e≠E->(G.lz k E R.ep R.nu.toNat).ba e=G.ba e:=fun e c=>if_neg c
 have vS:(G.lz k E R.ep R.nu.toNat).ba E=R.nu.toNat:=if_pos rfl
 have zl:∀ e,e≠E->(G.lz k E R.ep R.nu.toNat).pe e=G.pe e:=fun e c=>if_neg c
 have zk:(G.lz k E R.ep R.nu.toNat).pe E=R.ep:=if_pos rfl
 have oy:∀ x e,¬ (e=E/\x=k)->(G.lz k E R.ep R.nu.toNat).rc x e=G.rc x e:=fun x e c=>if_neg c
 have Dw:(G.lz k E R.ep R.nu.toNat).rc k E=R.nu.toNat:=if_pos ⟨rfl,rfl⟩
 have hlen:((G.lg R.ep).take R.nu.toNat).length=R.nu.toNat:=by rw[cW];omega
 have hrc:=h.rc
 have uh:∀ e,(G.lz k E R.ep R.nu.toNat).act e->e≠E->G.act e:=fun e a c=>a.resolve_left c
 refine⟨⟨fun e a=>?_,fun e hn=>?_,fun x e hn=>?_,fun e a=>?_,fun e a=>?_,fun e a q=>?_,fun e a q=>?_,fun e a=>?_,fun e a e' q1 q2=>?_,fun x e=>?_,fun e a=>?_⟩,⟨fun _ h=> .inr h,fun e a=>um e (fun t=>na (by rw[<- t];exact a)),fun e=>?_,fun e c=>rX e (fun t=>c (by rw[t];exact hk)),fun e a n=>?_,fun x e=>?_,fun x e hx=>oy x e (fun t=>hx t.2)⟩⟩
 ·rcases a with rfl | a
  ·omega
  ·exact hG.a0 e a
 ·rw[rX e (fun t=>hn (.inl t))];exact hG.nl e (fun a=>hn (.inr a))
 ·rw[oy x e (fun t=>hn (.inl t.1))];exact hG.nr x e (fun a=>hn (.inr a))
 ·by_cases c:e=E
  ·subst c;rw[vS,tB,hlen];exact ar _
  ·rw[um e c,rX e c];exact hG.bl e (uh e a c)
 ·by_cases c:e=E
  ·subst c;rw[zk];exact⟨e0,he⟩
  ·rw[zl e c];exact hG.p0 e (uh e a c)
 ·by_cases c:e=E
  ·subst c;rw[zk]at q;rw[vS]
   have:=hG.nr k R.ep (fun a=>by have:=(hG.a0 _ a).1;omega)
   omega
  ·rw[zl e c]at q;rw[um e c];exact hG.p1 e (uh e a c) q
 ·by_cases c:e=E
  ·subst c;rw[zk]at q ⊢;rw[vS,tB,um _ (by omega),rX _ (by omega)]
   have:=h.ac (by omega)
   exact⟨.inr this.1,by omega,by omega,by rw[List.take_take,Nat.min_self]⟩
  ·rw[zl e c]at q ⊢
   obtain⟨b1,b2,b3,b4⟩:=hG.p2 e (uh e a c) q
   have c2:G.pe e≠E:=fun t=>na (by rw[<- t];exact b1)
   rw[um e c,rX e c,um _ c2,rX _ c2]
   exact⟨.inr b1,b2,b3,b4⟩
 ·by_cases c:e=E
  ·subst c;rw[zk,vS,hk,oy _ _ (fun t=>by have:=t.1;omega)];omega
  ·have a2:=uh e a c
   have c2:G.pe e≠E:=fun t=>by
    have h0:=hG.p0 e a2
    exact na (by rw[<- t];exact(hG.p2 e a2 (by omega)).1)
   rw[zl e c,um e c,oy _ _ (fun t=>c2 t.1)];exact hG.p3 e a2
 ·by_cases c:e=E
  ·subst c;rw[zk]at q1;rw[hk,oy _ _ (fun t=>by have:=t.1;omega)];exact h.rz e' q1
  ·have a2:=uh e a c
   rw[zl e c]at q1
   rw[oy _ _ (fun t=>by have h1:=h.al e a2 t.2;have:=t.1;omega)];exact hG.p4 e a2 e' q1 q2
 ·by_cases c:e=E/\x=k
  ·obtain⟨rfl,rfl⟩:=c;rw[Dw,tB,hlen];exact ar _
  ·rw[oy x e c]
   by_cases c2:e=E
   ·subst c2;rw[hG.nr x e na];exact bj _
   ·rw[rX e c2];exact hG.rl x e
 ·by_cases c:e=E
  ·subst c;rw[hk,Dw,tB,hlen]
  ·rw[oy _ _ (fun t=>c t.1),rX e c];exact hG.ld e (uh e a c)
 ·by_cases c:e=E
  ·subst c;rw[hG.nl e na];exact List.nil_prefix
  ·rw[rX e c];exact List.prefix_rfl
 ·rcases a with rfl | a
  ·exact hk
  ·exact absurd a n
 ·by_cases c:e=E/\x=k
  ·obtain⟨rfl,rfl⟩:=c;rw[hG.nr x e na];exact bj _
  ·rw[oy x e c];exact ar _
end
structure fG (vs:List Vw) (G:Gh) (k:Int) (R:ι):Prop where
 ri:RI vs G k R
 out:∀ p∈R.out,iO vs G k p.m
 dn:∀ d∈R.done,vB vs G d
structure oL (vs:List Vw) (G:Gh) (k:Int) (R':ι):Prop where
 h:∃ G',GI vs G'/\Ex vs k G G'/\fG vs G' k R'/\∀ e,∃ e',G'.lg e<+:G.lg e'
section
variable {vs:List Vw} {G:Gh} {k:Int} {R:ι}
theorem fG.jO (hG:GI vs G) (h:fG vs G k R):oL vs G k R:=⟨G,hG,Ex.refl _ _ _,h,fun e=>⟨e,List.prefix_rfl⟩⟩
structure Fe (R R':ι):Prop where
 me:R'.me=R.me
 id:R'.id=R.id
 bl:R'.bl=R.bl
 lo:R'.lo=R.lo
 ep:R'.ep=R.ep
 nu:R'.nu=R.nu
 c:R'.c=R.c
 t:R'.t=R.t
 v:R'.v=R.v
theorem RI.cg {R':ι} (h:RI vs G k R) (e:Fe R R') (hl:∀ L,R'.ld=some L->ku vs G k R' L):RI vs G k R':=by
 obtain⟨e1,e2,e3,e4,e5,e6,e7,e8,e9⟩:=e
 exact⟨e1.trans h.me,e2.trans h.id,e3.trans h.bl,e4.trans h.lo,by rw[e5];exact h.e0,by rw[e6];exact h.n0,by rw[e5,e6];exact h.ac,by rw[e5,e6];exact h.nl,by rw[e5,e6,e7,e8];exact h.st,by rw[e5,e6];exact h.rc,by rw[e5];exact h.rz,by rw[e5];exact h.al,by rw[e9];exact h.v,hl⟩
theorem ku.cg {R':ι} {L:b9} (h:ku vs G k R L) (e:Fe R R'):ku vs G k R' L:=by
 obtain⟨e1,e2,e3,e4,e5,e6,e7,e8,e9⟩:=e
 have eo:aP R'=aP R:=by unfold aP;rw[e1,e9]
 exact⟨by rw[e9];exact h.v,by rw[e5,e9];exact h.ep,by rw[e5];exact h.hd,by rw[eo,e5,e6];exact h.ins,by rw[e5,e6];exact h.cy,by rw[e5,e6];exact h.cur⟩
theorem RI.out {R':ι} (h:RI vs G k R) (e:Fe R R') (hl:R'.ld=R.ld):RI vs G k R':=h.cg e fun L hL=>(h.l L (hl ▸ hL)).cg e
theorem qI {α:Type} {x:α} {P:Prop} (h:none=some x):P:=by cases h
theorem Ew (h:fG vs G k R):fG vs G k (gy R):=
 ⟨h.ri.cg ⟨rfl,rfl,rfl,rfl,rfl,rfl,rfl,rfl,rfl⟩ fun L hL=>qI hL,h.out,fun d hd=>by
  have hd:d∈R.done++(match ci R with | some o=>[⟨o,19,[]⟩] | none=>[]):=hd
  rcases dz.1 hd with hd | hd
  ·exact h.dn d hd
  ·split at hd
   ·rw[da]at hd;subst hd
    exact⟨fun e=>by cases e⟩
   ·cases hd⟩
theorem fG.send (h:fG vs G k R) {to kd:Int} {n b:List Int} {l:List (List Int)} (hm:iO vs G k ⟨kd,R.id::R.ep::n,b,l⟩):fG vs G k (iz R to kd n b l):=
 ⟨h.ri.out ⟨rfl,rfl,rfl,rfl,rfl,rfl,rfl,rfl,rfl⟩ rfl,fun p hp=>by
  have hp:p∈R.out++[⟨to,⟨kd,R.id::R.ep::n,b,l⟩⟩]:=hp
  rcases dz.1 hp with hp | hp
  ·exact h.out p hp
  ·rw[da]at hp;subst hp;exact hm,h.dn⟩
theorem RI.qJ (h:RI vs G k R):((R.nu.toNat:Nat):Int)=R.nu:=Int.toNat_of_nonneg h.n0
theorem RI.oy (h:RI vs G k R):G.rc k R.ep=R.nu.toNat:=by have:=h.rc;have:=h.qJ;omega
theorem V4 (h:RI vs G k R) (ha:R.ep≠0) (hk:hZ vs R.ep=k) (htx:fl R.t) (hcl:R.c.length=128):iO vs G k ⟨10,[R.id,R.ep,R.nu],ca R.c,[be R.t]⟩:=by
 have e1:R.c=(dh ((G.lg R.ep).take R.nu.toNat)).1:=congrArg Prod.fst h.st
 have e2:R.t=(dh ((G.lg R.ep).take R.nu.toNat)).2:=congrArg Prod.snd h.st
 have h1:=(h.ac ha).2
 have h2:=h.nl
 have h3:=h.n0
 have:=iO.sync (vs:=vs) (G:=G) (fr:=k) R.ep R.nu.toNat (h.ac ha).1 hk.symm (by omega) (by omega) (by rw[<- e2];exact htx) (by rw[<- e1];exact hcl)
 rw[<- e1,<- e2,h.qJ]at this
 rw[h.id];exact this
theorem Bm (h:RI vs G k R) {kd:Int} (hk:kd=11∨kd=13∨kd=14):iO vs G k ⟨kd,[R.id,R.ep,R.nu],[],[]⟩:=by
 have:=iO.ok (vs:=vs) (G:=G) (fr:=k) kd R.ep R.nu.toNat hk (by rw[h.oy];exact ar _)
 rw[h.qJ]at this
 rw[h.id];exact this
theorem SS (h:fG vs G k R) (to:Int):fG vs G k (ou R to):=h.send (Bm h.ri (by omega))
theorem QC (h:RI vs G k R) {L:b9} {o:Op} (hl:ku vs G k R L) (hc:L.cur=some o) (hV:VI vs G) (s:Int):iO vs G k ⟨12,[R.id,R.ep,R.nu,o.cl,o.nm,o.kd,o.bk,s],o.b,[]⟩:=by
 obtain⟨c1,c2⟩:=hl.cur o hc
 have:=hl.act hV
 have:=iO.op (vs:=vs) (G:=G) (fr:=k) R.ep R.nu.toNat o s (h.ac (by omega)).1 hl.hd.symm (by omega) c2
 rw[h.qJ]at this
 rw[h.id];exact this
theorem wM {x:Int}:x∈aP R ↔ x∈R.v.mem++R.v.aH/\x≠R.me:=by
 unfold aP bA jj
 rw[lu]
 simp
theorem RX (hV:VI vs G) (h:RI vs G k R) {L:b9} (hl:ku vs G k R L) (h1:1<=R.nu) (ha:∀ x∈aP R,R.nu<=(G.rc x R.ep:Int)):Cm vs G R.ep R.nu.toNat:=by
 have e1:=hl.act hV
 have hnl:=h.nl
 refine⟨(h.ac (by omega)).1,by omega,by omega,fun x hx=>?_⟩
 have hv:=(vh hV hl.v).1
 rw[hl.ep,hv]at hx
 by_cases e:x=k
 ·subst e;rw[h.oy];exact ar _
 ·have:=ha x (wM.2 ⟨hx,by rw[h.me];exact e⟩)
  omega
theorem aay {l:List Op} {n:Nat} {o:Op} (h1:1<=n) (h:l[n - 1]? =some o):o∈l.take n:=by
 refine fF (i:=n - 1) ?_
 rw[iF (by omega)];exact h
theorem HE (hV:VI vs G) (h:fG vs G k R):fG vs G k (fq R):=by
 unfold fq
 split
 ·rename_i L hL
  split
  ·rename_i o ho
   split
   ·rename_i hall
    have hl:=h.ri.l L hL
    obtain⟨c1,c2⟩:=hl.cur o ho
    have Qz:∀ x∈aP R,R.nu<=(G.rc x R.ep:Int):=fun x hx=>hl.cy x (List.all_eq_true.1 hall x hx)
    have hn:=h.ri.qJ
    have pJ:=RX hV h.ri hl (by omega) Qz
    refine⟨h.ri.cg ⟨rfl,rfl,rfl,rfl,rfl,rfl,rfl,rfl,rfl⟩ fun L' hL'=>?_,h.out,fun d hd=>?_⟩
    ·have e:L'={L with cur:=none }:=(bb.inj hL').symm
     subst e
     exact⟨hl.v,hl.ep,hl.hd,fun x hx _=>by have:=Qz x hx;show R.nu<=(G.rc x R.ep:Int)+0;omega,hl.cy,fun o ho=>qI ho⟩
    ·have hd:d∈R.done++[⟨o,0,mu R.c o⟩]:=hd
     rcases dz.1 hd with hd | hd
     ·exact h.dn d hd
     ·rw[da]at hd;subst hd
      refine⟨fun _=>⟨R.ep,R.nu.toNat,pJ,aay pJ.n1 c2,fun _=>⟨c2,?_⟩⟩⟩
      show mu R.c o=_
      rw[<- congrArg Prod.fst h.ri.st]
   ·exact h
  ·exact h
 ·exact h
theorem CY {f:Int->Bool} {k x:Int} (h:mark f k true x=true):x=k∨f x=true:=by
 unfold mark at h;split at h
 ·exact .inl ‹_›
 ·exact .inr h
theorem Sv {f:Int->Bool} {k x:Int} (h:mark f k false x=true):f x=true:=by
 unfold mark at h;split at h
 ·cases h
 ·exact h
theorem DU (h:fG vs G k R) {L':b9} (hl:ku vs G k R L'):fG vs G k {R with ld:=some L' }:=
 ⟨h.ri.cg ⟨rfl,rfl,rfl,rfl,rfl,rfl,rfl,rfl,rfl⟩ fun L'' e=>(bb.inj e) ▸ hl.cg ⟨rfl,rfl,rfl,rfl,rfl,rfl,rfl,rfl,rfl⟩,h.out,h.dn⟩
theorem PU {w:Vw} (h:d_ R w=true):fb w=R.me:=by
 unfold d_ at h
 split at h
 ·rename_i a r hm
  unfold fb;rw[hm]
  simpa using h
 ·cases h
theorem ai2 (hG:GI vs G) (hV:VI vs G) (h:fG vs G k R) (hi:bB R) {w:Vw} (hw:w∈vs):oL vs G k (dV R w):=by
 obtain⟨w1,w2,w3⟩:=vh hV hw
 cases hg:dR R w with
 |false=>rw[vg hg];exact h.jO hG
 |true=>
  have hge:R.ep<=w.ve:=by
   unfold dR at hg
   rw[jo,decide_eq_true_eq]at hg
   exact hg.1.2.2.1
  cases hl:fv R w with
  |false=>
   rw[xp hg hl]
   have hy:=Ew h
   exact fG.jO hG ⟨⟨hy.ri.me,hy.ri.id,hy.ri.bl,hy.ri.lo,hy.ri.e0,hy.ri.n0,hy.ri.ac,hy.ri.nl,hy.ri.st,hy.ri.rc,hy.ri.rz,hy.ri.al,.inr hw,fun L hL=>qI hL⟩,hy.out,hy.dn⟩
  |true=>
   have hf:d_ R w=true:=by
    unfold fv at hl
    rw[jo,jo]at hl
    exact hl.1.1
   have hk:hZ vs w.ve=k:=by
    unfold hZ;rw[w1,PU hf];exact h.ri.me
   rw[xq hg hl]
   have hy:=Ew h
   have hiL:bB (jy R w)∨True:=.inr trivial
   have fin:∀ G',VI vs G'->Ex vs k G G'->RI vs G' k (jy R w)->fG vs G' k {jy R w with out:=R.out++(bA R.me w.mem w.aH).map (jn (jy R w)) }:=fun G' H6 hx hr=>by
    refine⟨hr.out ⟨rfl,rfl,rfl,rfl,rfl,rfl,rfl,rfl,rfl⟩ rfl,fun p hp=>?_,fun d hd=>?_⟩
    ·have hp:p∈R.out++(bA R.me w.mem w.aH).map (jn (jy R w)):=hp
     rcases dz.1 hp with hp | hp
     ·exact(h.out p hp).mono hx
     ·obtain⟨x,_,rfl⟩:=dO.1 hp
      have e1:(jy R w).c=(dh ((G'.lg w.ve).take R.nu.toNat)).1:=congrArg Prod.fst hr.st
      have e2:(jy R w).t=(dh ((G'.lg w.ve).take R.nu.toNat)).2:=congrArg Prod.snd hr.st
      have a1:=hr.ac (show w.ve≠0 by omega)
      have a2:=hr.nl
      have a3:=hr.n0
      have a4:((R.nu.toNat:Nat):Int)=R.nu:=h.ri.qJ
      have a5:(G'.ba w.ve:Int)<=R.nu:=a1.2
      have a6:R.nu<=((G'.lg w.ve).length:Int):=a2
      have:=iO.sync (vs:=vs) (G:=G') (fr:=k) w.ve R.nu.toNat a1.1 hk.symm (by omega) (by omega) (by rw[<- e2];exact hi.tx) (by rw[<- e1];exact hi.ok.cl)
      rw[<- e1,<- e2,a4,<- h.ri.id]at this
      exact this
    ·obtain⟨q⟩:=hy.dn d hd
     exact⟨fun e=>by obtain⟨e',n,c1,c2,c3⟩:=q e;exact⟨e',n,c1.mono hx,by rw[qK (hx.lg e') c1.nl];exact c2,fun t=>⟨w0 (hx.lg e') (c3 t).1,by rw[qK (hx.lg e') c1.nl];exact(c3 t).2⟩⟩⟩
   have lead:∀ G':Gh,ku vs G' k (jy R w) ⟨fun _=>false,fun _=>false,none⟩:=fun G'=>⟨hw,rfl,hk,fun x _ hx=>(by cases hx),fun x hx=>(by cases hx),fun o ho=>qI ho⟩
   rcases(by omega:R.ep=w.ve∨R.ep<w.ve)with he | he
   ·refine⟨G,hG,Ex.refl _ _ _,fin G hV (Ex.refl _ _ _) ?_,fun e=>⟨e,List.prefix_rfl⟩⟩
    have hr:=h.ri
    exact⟨hr.me,hr.id,hr.bl,hr.lo,by show 0<=w.ve;omega,hr.n0,fun _=>by show G.act w.ve/\(G.ba w.ve:Int)<=R.nu;rw[<- he];exact hr.ac (by omega),by show R.nu<=((G.lg w.ve).length:Int);rw[<- he];exact hr.nl,by show(R.c,R.t)=dh ((G.lg w.ve).take R.nu.toNat);rw[<- he];exact hr.st,by show(G.rc k w.ve:Int)=R.nu;rw[<- he];exact hr.rc,fun e q=>hr.rz e (by have:w.ve<e:=q;omega),fun e a q=>by show e<=w.ve;rw[<- he];exact hr.al e a q,.inr hw,fun L hL=>(bb.inj hL) ▸ lead G⟩
   ·obtain⟨b1,b2⟩:=YY hG h.ri hk he w3
    have hr:=h.ri
    have tB:(G.lz k w.ve R.ep R.nu.toNat).lg w.ve=(G.lg R.ep).take R.nu.toNat:=if_pos rfl
    have vS:(G.lz k w.ve R.ep R.nu.toNat).ba w.ve=R.nu.toNat:=if_pos rfl
    have Dw:(G.lz k w.ve R.ep R.nu.toNat).rc k w.ve=R.nu.toNat:=if_pos ⟨rfl,rfl⟩
    have hn:=hr.qJ
    have hnl:=hr.nl
    refine⟨_,b1,b2,fin _ (hV.mono b2) b2 ?_,fun e=>?_⟩
    ·refine⟨hr.me,hr.id,hr.bl,hr.lo,by show 0<=w.ve;omega,hr.n0,fun _=>⟨.inl rfl,?_⟩,?_,?_,?_,fun e q=>?_,fun e a q=>?_,.inr hw,fun L hL=>(bb.inj hL) ▸ lead _⟩
     ·show(((G.lz k w.ve R.ep R.nu.toNat).ba w.ve:Nat):Int)<=R.nu
      rw[vS];omega
     ·show R.nu<=(((G.lz k w.ve R.ep R.nu.toNat).lg w.ve).length:Int)
      rw[tB,cW];omega
     ·show(R.c,R.t)=dh (((G.lz k w.ve R.ep R.nu.toNat).lg w.ve).take R.nu.toNat)
      rw[tB,List.take_take,Nat.min_self];exact hr.st
     ·show(((G.lz k w.ve R.ep R.nu.toNat).rc k w.ve:Nat):Int)=R.nu
      rw[Dw];exact hn
     ·have q:w.ve<e:=q
      show(if e=w.ve/\k=k then R.nu.toNat else G.rc k e)=0
      rw[if_neg (by omega)];exact hr.rz e (by omega)
     ·show e<=w.ve
      rcases a with rfl | a
      ·exact dE _
      ·have:=hr.al e a q;omega
    ·by_cases c:e=w.ve
     ·exact⟨R.ep,by rw[c,tB];exact List.take_prefix _ _⟩
     ·exact⟨e,by show(if e=w.ve then _ else G.lg e)<+: _;rw[if_neg c];exact List.prefix_rfl⟩
end
theorem vB.mono {vs:List Vw} {k:Int} {G G':Gh} {d:Dn} (h:vB vs G d) (hx:Ex vs k G G'):vB vs G' d:=
 ⟨fun e=>by obtain⟨e',n,c1,c2,c3⟩:=h.h e;exact⟨e',n,c1.mono hx,by rw[qK (hx.lg e') c1.nl];exact c2,fun t=>⟨w0 (hx.lg e') (c3 t).1,by rw[qK (hx.lg e') c1.nl];exact(c3 t).2⟩⟩⟩
section
variable {vs:List Vw} {G:Gh} {k:Int} {R:ι}
theorem RY (h:ef R=false):R.ld=none:=by
 unfold ef at h
 cases hl:R.ld with
 |none=>rfl
 |some L=>rw[hl]at h;cases h
theorem agw (hG:GI vs G) (hV:VI vs G) (h:fG vs G k R) {fr e:Int} {n:Nat} (hfr:fr≠k) (a:G.act e) (f:fr=hZ vs e) (b:G.ba e<=n) (l:n<=(G.lg e).length) (x:fl (dh ((G.lg e).take n)).2) (c:(dh ((G.lg e).take n)).1.length=128):
  oL vs G k (iS R fr ⟨10,[5,e,(n:Int)],ca (dh ((G.lg e).take n)).1,[be (dh ((G.lg e).take n)).2]⟩):=by
 unfold iS
 have m1:bm ⟨10,[5,e,(n:Int)],ca (dh ((G.lg e).take n)).1,[be (dh ((G.lg e).take n)).2]⟩ 1=e:=rfl
 have m2:bm ⟨10,[5,e,(n:Int)],ca (dh ((G.lg e).take n)).1,[be (dh ((G.lg e).take n)).2]⟩ 2=(n:Int):=rfl
 rw[m1,m2]
 split
 ·exact(SS h fr).jO hG
 ·rename_i hn
  have lc:jz (ca (dh ((G.lg e).take n)).1)=some (dh ((G.lg e).take n)).1:=by unfold jz;rw[wX];dsimp only;rw[if_pos c]
  have lt:loadT ([be (dh ((G.lg e).take n)).2].getD 0 [])=some (dh ((G.lg e).take n)).2:=CR x rfl
  dsimp only
  rw[lc,lt]
  dsimp only
  have hr:=h.ri
  have q1:R.ep<=e:=by omega
  have q2:e=R.ep->R.nu<=(n:Int):=fun t=>by
   rcases Int.lt_or_le (n:Int) R.nu with q | q
   ·exact absurd (.inr (.inl ⟨t,.inl q⟩)) hn
   ·exact q
  have q3:G.rc k e<=n:=by
   rcases(by omega:e=R.ep∨R.ep<e)with q | q
   ·have:=q2 q;have:=hr.rc;rw[q];omega
   ·rw[hr.rz e q];exact bj _
  have q4:=(hG.a0 e a).1
  obtain⟨g1,g2⟩:=NX hG hr a (by rw[<- f];exact hfr) q1 q3 l
  have hy:=Ew h
  have hR:RI vs (G.qm k e n) k {gy R with ep:=e,nu:=(n:Int),c:=(dh ((G.lg e).take n)).1,t:=(dh ((G.lg e).take n)).2,ch:=true }:=
   ⟨hr.me,hr.id,hr.bl,hr.lo,by show 0<=e;omega,Int.natCast_nonneg n,fun _=>⟨a,Int.ofNat_le.2 b⟩,Int.ofNat_le.2 l,by show(_,_)=dh (((G.qm k e n).lg e).take (n:Int).toNat);rw[cN];rfl,congrArg Int.ofNat (Bo G k e n),fun e' q=>by
    have q:e<e':=q
    rw[rp G n (fun t=>by have:=t.1;omega)];exact hr.rz e' (by omega),fun e' a' q=>Int.le_trans (hr.al e' a' q) q1,hr.v,fun L hL=>qI hL⟩
  have hO:fG vs (G.qm k e n) k {gy R with ep:=e,nu:=(n:Int),c:=(dh ((G.lg e).take n)).1,t:=(dh ((G.lg e).take n)).2,ch:=true }:=
   ⟨hR,fun p hp=>(hy.out p hp).mono g2,fun d hd=>(hy.dn d hd).mono g2⟩
  exact⟨_,g1,g2,hO.send (Bm hR (by omega)),fun e'=>⟨e',List.prefix_rfl⟩⟩
theorem ku.marks {L:b9} (hl:ku vs G k R L) {fr:Int} (h:R.nu<=(G.rc fr R.ep:Int)) {cy:Int->Bool} (ha:∀ x,cy x=true->x=fr∨L.cy x=true):ku vs G k R ⟨mark L.ins fr true,cy,L.cur⟩:=
 ⟨hl.v,hl.ep,hl.hd,fun x hx ht=>by
  rcases CY ht with rfl | ht
  ·exact Int.le_trans h (Int.le_add_of_nonneg_right (by split<;>omega))
  ·exact hl.ins x hx ht,fun x hx=>by
  rcases ha x hx with rfl | hx
  ·exact h
  ·exact hl.cy x hx,hl.cur⟩
theorem agr (hG:GI vs G) (hV:VI vs G) (h:fG vs G k R) {fr e:Int} {n:Nat} (hn:n<=G.rc fr e):oL vs G k (iA R fr ⟨11,[5,e,(n:Int)],[],[]⟩):=by
 unfold iA
 split
 ·exact h.jO hG
 ·rename_i L hL
  have hl:=h.ri.l L hL
  have m1:bm ⟨11,[5,e,(n:Int)],[],[]⟩ 1=e:=rfl
  have m2:bm ⟨11,[5,e,(n:Int)],[],[]⟩ 2=(n:Int):=rfl
  rw[m1,m2]
  split
  ·exact h.jO hG
  ·rename_i hne
   have e1:e=R.ep:=Classical.byContradiction fun t=>hne (.inl t)
   have e2:(n:Int)=R.nu:=Classical.byContradiction fun t=>hne (.inr t)
   have hfr:R.nu<=(G.rc fr R.ep:Int):=by rw[<- e1,<- e2];exact Int.ofNat_le.2 hn
   split
   ·rename_i hc
    have:=hl.marks hfr (cy:=L.cy) (fun x hx=> .inr hx)
    rw[hc]at this
    exact(DU h this).jO hG
   ·rename_i o hc
    have:=hl.marks hfr (cy:=mark L.cy fr true) (fun x hx=>CY hx)
    rw[hc]at this
    exact(HE hV (DU h this)).jO hG
theorem aeg (hG:GI vs G) (hV:VI vs G) (h:fG vs G k R) {fr e:Int} {n:Nat} (hn:n<=G.rc fr e):oL vs G k (iw R fr ⟨13,[5,e,(n:Int)],[],[]⟩):=by
 unfold iw
 split
 ·exact h.jO hG
 ·rename_i L hL
  have hl:=h.ri.l L hL
  split
  ·exact h.jO hG
  ·rename_i o hc
   have m1:bm ⟨13,[5,e,(n:Int)],[],[]⟩ 1=e:=rfl
   have m2:bm ⟨13,[5,e,(n:Int)],[],[]⟩ 2=(n:Int):=rfl
   rw[m1,m2]
   split
   ·rename_i he
    have hfr:R.nu<=(G.rc fr R.ep:Int):=by rw[<- he.1,<- he.2];exact Int.ofNat_le.2 hn
    have hl2:ku vs G k R ⟨L.ins,mark L.cy fr true,some o⟩:=⟨hl.v,hl.ep,hl.hd,by rw[<- hc];exact hl.ins,fun x hx=>by
     rcases CY hx with rfl | hx
     ·exact hfr
     ·exact hl.cy x hx,by rw[<- hc];exact hl.cur⟩
    exact(HE hV (DU h hl2)).jO hG
   ·exact h.jO hG
theorem CJ (hG:GI vs G) (hV:VI vs G) (h:RI vs G k R) {L:b9} (hl:ku vs G k R L):R.nu=((G.lg R.ep).length:Int):=by
 have:=hl.act hV
 have:=hG.ld R.ep (h.ac (by omega)).1
 rw[hl.hd]at this
 rw[<- this];exact h.rc.symm
theorem afd (hG:GI vs G) (hV:VI vs G) (h:fG vs G k R) (hi:bB R) {fr e:Int} {n:Nat} (hn:n<=G.rc fr e):oL vs G k (iy R fr ⟨14,[5,e,(n:Int)],[],[]⟩):=by
 unfold iy
 split
 ·exact h.jO hG
 ·rename_i L hL
  have hl:=h.ri.l L hL
  have m1:bm ⟨14,[5,e,(n:Int)],[],[]⟩ 1=e:=rfl
  have m2:bm ⟨14,[5,e,(n:Int)],[],[]⟩ 2=(n:Int):=rfl
  rw[m1,m2]
  split
  ·exact(Ew h).jO hG
  ·split
   ·rename_i hc
    have h1:=CJ hG hV h.ri hl
    have h2:=hG.rl fr e
    rw[hc.1]at h2 hn
    omega
   ·have hl2:ku vs G k R {L with ins:=mark L.ins fr false }:=⟨hl.v,hl.ep,hl.hd,fun x hx ht=>hl.ins x hx (Sv ht),hl.cy,hl.cur⟩
    have h2:=DU h hl2
    have:=hl.act hV
    exact(h2.send (V4 h2.ri (by show R.ep≠0;omega) hl.hd hi.tx hi.ok.cl)).jO hG
theorem aem (hG:GI vs G) (hV:VI vs G) (h:fG vs G k R) {fr e s:Int} {n:Nat} {o:Op} (hfr:fr≠k) (a:G.act e) (f:fr=hZ vs e) (b:G.ba e<n) (g:(G.lg e)[n - 1]? =some o):oL vs G k (iR R fr ⟨12,[5,e,(n:Int),o.cl,o.nm,o.kd,o.bk,s],o.b,[]⟩):=by
 unfold iR
 have m1:bm ⟨12,[5,e,(n:Int),o.cl,o.nm,o.kd,o.bk,s],o.b,[]⟩ 1=e:=rfl
 have m2:bm ⟨12,[5,e,(n:Int),o.cl,o.nm,o.kd,o.bk,s],o.b,[]⟩ 2=(n:Int):=rfl
 have mo:uV ⟨12,[5,e,(n:Int),o.cl,o.nm,o.kd,o.bk,s],o.b,[]⟩=o:=rfl
 rw[m1,m2,mo]
 have hr:=h.ri
 split
 ·exact(h.send (Bm hr (by omega))).jO hG
 ·split
  ·rename_i hc
   obtain⟨c1,c2,c3,c4,c5⟩:=hc
   subst c1
   have hl:=RY c3
   have hlt:=HW g
   have hn:=hr.qJ
   have kW:n=R.nu.toNat+1:=by omega
   subst kW
   rw[Nat.add_sub_cancel]at g hlt
   have hrc:=hr.oy
   obtain⟨g1,g2⟩:=NX hG hr (E:=R.ep) (n:=R.nu.toNat+1) a (by rw[<- f];exact hfr) (dE _) (by omega) (by omega)
   have hst:dh ((G.lg R.ep).take (R.nu.toNat+1))=yp (dh ((G.lg R.ep).take R.nu.toNat)) o:=by
    rw[jt,g];exact D3 _ o
   have hR:RI vs (G.qm k R.ep (R.nu.toNat+1)) k (gE R o):=
    ⟨hr.me,hr.id,hr.bl,hr.lo,hr.e0,by show 0<=R.nu+1;omega,fun q=>⟨a,by have:=(hr.ac q).2;show(G.ba R.ep:Int)<=R.nu+1;omega⟩,by show R.nu+1<=((G.lg R.ep).length:Int);omega,by
     show(fm R.c o.kd o.bk o.b,kD R.t o)=dh ((G.lg R.ep).take (R.nu+1).toNat)
     rw[show(R.nu+1).toNat=R.nu.toNat+1 by omega,hst,<- hr.st];rfl,by
     show(((G.qm k R.ep (R.nu.toNat+1)).rc k R.ep:Nat):Int)=R.nu+1
     rw[Bo];omega,fun e' q=>by
     have q:R.ep<e':=q
     rw[rp G _ (fun t=>by have:=t.1;omega)];exact hr.rz e' q,hr.al,hr.v,fun L hL=>qI (hl.symm.trans hL)⟩
   have hO:fG vs (G.qm k R.ep (R.nu.toNat+1)) k (gE R o):=⟨hR,fun p hp=>(h.out p hp).mono g2,fun d hd=>(h.dn d hd).mono g2⟩
   exact⟨_,g1,g2,hO.send (Bm hR (by omega)),fun e'=>⟨e',List.prefix_rfl⟩⟩
  ·exact(SS h fr).jO hG
theorem aaK (hG:GI vs G) (hV:VI vs G) (h:fG vs G k R) (hi:bB R) {fr:Int} {m:dL} (hm:iO vs G fr m):oL vs G k (dI R fr m):=by
 cases fV:cp R fr m with
 |false=>unfold dI;rw[if_pos fV];exact h.jO hG
 |true=>
  have hfr:fr≠k:=by
   unfold cp at fV
   rw[jo,decide_eq_true_eq,h.ri.me]at fV
   exact fV.1.2.2.2.2
  unfold dI
  rw[if_neg (by rw[fV];decide)]
  cases hm with
  |sync e n a f b l x c=>rw[if_pos rfl];exact agw hG hV h hfr a f b l x c
  |ok kd e n hk hn=>
   rcases hk with rfl | rfl | rfl
   ·exact agr hG hV h hn
   ·exact aeg hG hV h hn
   ·exact afd hG hV h hi hn
  |op e n o s a f b g=>exact aem hG hV h hfr a f b g
theorem agU (hG:GI vs G) (hV:VI vs G) (h:fG vs G k R) (hi:bB R):oL vs G k (cO R):=by
 unfold cO
 split
 ·rename_i hl
  exact fG.jO hG ⟨h.ri.out ⟨rfl,rfl,rfl,rfl,rfl,rfl,rfl,rfl,rfl⟩ rfl,h.out,h.dn⟩
 ·rename_i L hL
  split
  ·have hl:=h.ri.l L hL
   have:=hl.act hV
   refine fG.jO hG ⟨h.ri.out ⟨rfl,rfl,rfl,rfl,rfl,rfl,rfl,rfl,rfl⟩ rfl,fun p hp=>?_,h.dn⟩
   have hp:p∈R.out++(aP R).flatMap (gj R L):=hp
   rcases dz.1 hp with hp | hp
   ·exact h.out p hp
   ·obtain⟨x,_,hx⟩:=List.mem_flatMap.1 hp
    unfold gj at hx
    split at hx
    ·rw[da]at hx;subst hx
     exact V4 h.ri (by omega) hl.hd hi.tx hi.ok.cl
    ·split at hx
     ·rename_i o ho
      split at hx
      ·rw[da]at hx;subst hx
       exact QC h.ri hl ho hV _
      ·cases hx
     ·cases hx
  ·exact fG.jO hG ⟨h.ri.out ⟨rfl,rfl,rfl,rfl,rfl,rfl,rfl,rfl,rfl⟩ rfl,h.out,h.dn⟩
structure Ap (l:List Op) (o:Op):Prop where
 rt:gh o=true
 k1:je o=true->gq (dh l).2 o.cl o.nm≠1
 k2:je o=true->gq (dh l).2 o.cl o.nm≠2
 p:je o=true->cY (dh l).2 o.cl o.nm 0=0
structure xJ (vs:List Vw) (G:Gh) (k:Int) (R':ι) (o:Op):Prop where
 h:∃ G',GI vs G'/\Ex vs k G G'/\fG vs G' k R'/\∀ e,(∃ e',G'.lg e<+:G.lg e')∨∃ E,G'.lg e=G.lg E++[o]/\Ap (G.lg E) o
theorem oL.s {R':ι} (h:oL vs G k R') (o:Op):xJ vs G k R' o:=by
 obtain⟨G',h1,h2,h3,h4⟩:=h
 exact⟨G',h1,h2,h3,fun e=> .inl (h4 e)⟩
theorem Y0 (hG:GI vs G) (hV:VI vs G) (h:fG vs G k R) (hi:bB R) {o:Op} {L:b9} (hL:R.ld=some L) (hc:L.cur=none) (hr:gw R=true) (hn:Ap (G.lg R.ep) o):xJ vs G k (gC R L o) o:=by
 have hl:=h.ri.l L hL
 have e1:=hl.act hV
 have kX:=CJ hG hV h.ri hl
 have hn1:=h.ri.qJ
 have a:=h.ri.ac (by omega)
 have fW:=h.ri
 have hrd:∀ x∈aP R,R.nu<=(G.rc x R.ep:Int):=fun x hx=>by
  unfold gw at hr
  rw[hL]at hr
  have:=hl.ins x hx (List.all_eq_true.1 hr x hx)
  rw[hc]at this
  simpa using this
 obtain⟨g1,g2⟩:=Yy hG fW o a.1 hl.hd
 have hst:dh (G.lg R.ep)=(R.c,R.t):=by
  have:=fW.st
  rw[show R.nu.toNat=(G.lg R.ep).length by omega,cQ]at this
  exact this.symm
 have H6:=hV.mono g2
 have hR:RI vs (G.add k R.ep o) k {gE R o with ld:=some {L with cy:=fun _=>false,cur:=some o } }:=by
  refine⟨fW.me,fW.id,fW.bl,fW.lo,fW.e0,by show 0<=R.nu+1;omega,fun _=>⟨a.1,by have:=a.2;show(G.ba R.ep:Int)<=R.nu+1;omega⟩,?_,?_,?_,fun e' q=>?_,fW.al,fW.v,fun L' hL'=>?_⟩
  ·show R.nu+1<=((((G.add k R.ep o).lg R.ep).length:Nat):Int)
   rw[ui,bn,gZ];omega
  ·show(fm R.c o.kd o.bk o.b,kD R.t o)=dh (((G.add k R.ep o).lg R.ep).take (R.nu+1).toNat)
   rw[ui,eQ (by rw[bn,gZ];omega),D3,hst];rfl
  ·show((((G.add k R.ep o).rc k R.ep:Nat)):Int)=R.nu+1
   rw[Bn];omega
  ·have q:R.ep<e':=q
   rw[sQ G o (fun t=>by have:=t.1;omega)];exact fW.rz e' q
  ·have e:L'={L with cy:=fun _=>false,cur:=some o }:=(bb.inj hL').symm
   subst e
   refine⟨hl.v,hl.ep,hl.hd,fun x hx _=>?_,fun x hx=>(by cases hx),fun o' ho'=>?_⟩
   ·have h1:=hrd x hx
    have h2:=g2.rc x R.ep
    show R.nu+1<=(((G.add k R.ep o).rc x R.ep:Nat):Int)+1
    omega
   ·cases ho'
    refine⟨by have:=a.2;show(G.ba R.ep:Int)<R.nu+1;omega,?_⟩
    show((G.add k R.ep o).lg R.ep)[(R.nu+1).toNat - 1]? =some o
    rw[ui,show(R.nu+1).toNat - 1=(G.lg R.ep).length by omega]
    simp
 have hO:fG vs (G.add k R.ep o) k {gE R o with ld:=some {L with cy:=fun _=>false,cur:=some o } }:=⟨hR,fun p hp=>(h.out p hp).mono g2,fun d hd=>(h.dn d hd).mono g2⟩
 refine⟨_,g1,g2,?_,fun e=>?_⟩
 ·unfold gC
  dsimp only
  rw[th]
  refine HE H6 ⟨hR.out ⟨rfl,rfl,rfl,rfl,rfl,rfl,rfl,rfl,rfl⟩ rfl,fun p hp=>?_,hO.dn⟩
  rcases dz.1 hp with hp | hp
  ·exact hO.out p hp
  ·obtain⟨x,_,rfl⟩:=dO.1 hp
   exact QC hR (hR.l _ rfl) rfl H6 _
 ·by_cases c:e=R.ep
  ·subst c;exact .inr ⟨R.ep,ui G k R.ep o,hn⟩
  ·exact .inl ⟨e,by rw[x6 G o c];exact List.prefix_rfl⟩
theorem aga (hG:GI vs G) (hV:VI vs G) (h:fG vs G k R) (hi:bB R) (o:Op) (hkn:je o=true->gq R.t o.cl o.nm=1->o∈(G.lg R.ep).take R.nu.toNat):xJ vs G k (dN R o).2 o:=by
 have same:xJ vs G k R o:=(h.jO hG).s o
 unfold dN
 split
 ·exact same
 ·rename_i nB
  split
  ·exact same
  ·rename_i L hL
   split
   ·exact same
   ·rename_i hr
    split
    ·exact same
    ·rename_i hb
     have hr:gw R=true:=by simpa using hr
     have hc:L.cur=none:=by
      unfold lA ci at hb
      rw[hL]at hb
      cases mh:L.cur with
      |none=>rfl
      |some o=>exfalso;apply hb;show(Option.bind (some L) fun x=>x.cur).isSome=true;rw[Option.bind_some,mh];rfl
     have hl:=h.ri.l L hL
     have kX:=CJ hG hV h.ri hl
     have hn1:=h.ri.qJ
     have hst:dh (G.lg R.ep)=(R.c,R.t):=by
      have:=h.ri.st
      rw[show R.nu.toNat=(G.lg R.ep).length by omega,cQ]at this
      exact this.symm
     split
     ·rename_i e R1 hk
      split at hk
      ·rename_i hch
       unfold lW at hk
       split at hk
       ·rename_i h1
        cases hk
        refine(fG.jO (R:={R with done:=R.done++[⟨o,sZ (gK R) o.cl o.nm,[]⟩] }) hG ⟨h.ri.out ⟨rfl,rfl,rfl,rfl,rfl,rfl,rfl,rfl,rfl⟩ rfl,h.out,fun d hd=>?_⟩).s o
        rcases dz.1 hd with hd | hd
        ·exact h.dn d hd
        ·rw[da]at hd;subst hd
         have hm:=hkn hch h1
         have hlen:0<((G.lg R.ep).take R.nu.toNat).length:=List.length_pos_of_mem hm
         rw[cW]at hlen
         have pJ:=RX hV h.ri hl (by omega) (fun x hx=>by
          unfold gw at hr
          rw[hL]at hr
          have:=hl.ins x hx (List.all_eq_true.1 hr x hx)
          rw[hc]at this
          simpa using this)
         refine⟨fun _=>⟨R.ep,R.nu.toNat,pJ,hm,fun t=>?_⟩⟩
         have t:o.kd=3:=t
         unfold je at hch
         rw[t]at hch
         exact absurd hch (by decide)
       ·split at hk
        ·cases hk;exact same
        ·split at hk
         ·cases hk
         ·cases hk;exact same
      ·cases hk
     ·rename_i hk
      refine Y0 hG hV h hi hL hc hr ⟨by simpa using nB,fun hch=>?_,fun hch=>?_,fun hch=>?_⟩
      all_goals
       rw[if_pos hch]at hk
       unfold lW gK at hk
       rw[hst]
       show _
      ·intro h1
       rw[if_pos h1]at hk;cases hk
      ·intro h2
       have h1:¬ gq R.t o.cl o.nm=1:=fun t=>by have h2:gq R.t o.cl o.nm=2:=h2;omega
       rw[if_neg h1,if_pos h2]at hk;cases hk
      ·split at hk
       ·cases hk
       ·split at hk
        ·cases hk
        ·split at hk
         ·assumption
         ·cases hk
end
structure lN (l:List Op):Prop where
 nw:∀(i:Nat) (o:Op),l[i]? =some o->Ap (l.take i) o/\(o.kd=3->o ∉ l.take i)
theorem lN.pre {l l':List Op} (h:lN l) (hp:l'<+:l):lN l':=⟨fun i o hi=>by
 have h1:=h.nw i o (w0 hp hi)
 rw[qK hp (Nat.le_of_lt (HW hi))]at h1
 exact h1⟩
theorem lN.nil:lN []:=⟨fun i o hi=>by simp at hi⟩
theorem lN.snoc {l:List Op} (h:lN l) {o:Op} (hn:Ap l o) (h3:o.kd=3->o ∉ l):lN (l++[o]):=⟨fun i o' hi=>by
 have hlt:=HW hi
 rw[bn,gZ]at hlt
 rcases(by omega:i<l.length∨i=l.length)with q | q
 ·rw[dY q]at hi
  rw[List.take_append_of_le_length (by omega)]
  exact h.nw i o' hi
 ·subst q
  simp at hi
  subst hi
  rw[List.take_append_of_le_length (ar _),cQ]
  exact⟨hn,h3⟩⟩
theorem JS {x:List L3} (h:x.Pairwise (fun a b=>a.1<b.1)) {c:Int} {q:Int×Int}:kH x c=some q ↔ (c,q)∈x:=by
 have key:∀ p:L3,p∈x->kH x p.1=some p.2:=fun p hp=>by
  obtain⟨i,hi⟩:=jG hp
  have hlt:=(bH.1 hi).1
  have:=S9 h hlt
  rw[td hlt]at hi
  cases hi
  exact this
 constructor
 ·intro hs
  by_cases e:∃ p∈x,p.1=c
  ·obtain⟨p,hp,rfl⟩:=e
   have:=(key p hp).symm.trans hs
   cases this
   exact hp
  ·rw[S_ (fun p hp t=>e ⟨p,hp,t⟩)]at hs;cases hs
 ·exact fun hm=>key _ hm
theorem VA:∀(l:List Op) (s:List Int×List L3),fl s.2->fl (l.foldl yp s).2
 | [],s,h=>h
 |o::l,s,h=>VA l (yp s o) (Pr h o)
theorem ad3:fl []:=⟨List.Pairwise.nil,fun p hp=>(by cases hp),bj _⟩
theorem Ll (l:List Op):fl (dh l).2:=VA l _ ad3
theorem Dt {x:List L3} {c n e:Int} {p:L3}:p∈pd x c n e ↔ (p∈x/\p.1≠c)∨p=(c,n,e):=by
 rw[(Uu (x:=x) (c:=c) (n:=n) (e:=e)).mem_iff,dS,lu,decide_eq_true_eq]
 exact or_comm
structure Nn (l:List Op) (t:List L3):Prop where
 a:∀ o∈l,je o=true->∃ q,(o.cl,q)∈t/\o.nm<=q.1
 b:∀ c q,(c,q)∈t->∃ o∈l,je o=true/\o.cl=c/\o.nm=q.1
theorem LJ {l:List Op} (h:lN l):∀ n,Nn (l.take n) (dh (l.take n)).2
 | 0=>⟨fun o ho=>(by simp at ho),fun c q hq=>(by cases hq)⟩
 |n+1=>by
  have ih:=LJ h n
  cases ho:l[n]? with
  |none=>
   have:l.length<=n:=List.getElem?_eq_none_iff.1 ho
   rw[eQ this]at ih
   rw[eQ (by omega)];exact ih
  |some o=>
   have hn:=(h.nw n o ho).1
   have ht:l.take (n+1)=l.take n++[o]:=by rw[jt,ho];rfl
   rw[ht,D3]
   show Nn _ (kD (dh (l.take n)).2 o)
   have hok:=Ll (l.take n)
   by_cases hc:je o=true
   ·have hp:=hn.p hc
    rw[Ps hc hp]
    refine⟨fun o' ho' ft=>?_,fun c q hq=>?_⟩
    ·rcases dz.1 ho' with ho' | ho'
     ·obtain⟨q,q1,q2⟩:=ih.a o' ho' ft
      by_cases e:o'.cl=o.cl
      ·refine⟨(o.nm,0),Dt.2 (.inr (by rw[e])),?_⟩
       have hA:=(JS hok.inc).2 q1
       rw[e]at hA
       unfold cY at hp
       rw[hA]at hp
       dsimp only at hp
       show o'.nm<=o.nm
       split at hp
       ·omega
       ·split at hp
        ·omega
        ·omega
      ·exact⟨q,Dt.2 (.inl ⟨q1,e⟩),q2⟩
     ·rw[da]at ho';subst ho'
      exact⟨(o'.nm,0),Dt.2 (.inr rfl),dE _⟩
    ·rcases Dt.1 hq with ⟨h1,h2⟩ | h1
     ·obtain⟨o',c1,c2⟩:=ih.b c q h1
      exact⟨o',gQ _ c1,c2⟩
     ·cases h1
      exact⟨o,kQ _ (da.2 rfl),hc,rfl,rfl⟩
   ·rw[G7 (.inl (by simpa using hc))]
    refine⟨fun o' ho' ft=>?_,fun c q hq=>?_⟩
    ·rcases dz.1 ho' with ho' | ho'
     ·exact ih.a o' ho' ft
     ·rw[da]at ho';subst ho';exact absurd ft hc
    ·obtain⟨o',c1,c2⟩:=ih.b c q hq
     exact⟨o',gQ _ c1,c2⟩
theorem Zm {l:List Op} (h:lN l) (n:Nat) {cl nm:Int} (hc:gq (dh (l.take n)).2 cl nm=1):∃ o∈l.take n,je o=true/\o.cl=cl/\o.nm=nm:=by
 unfold gq at hc
 split at hc
 ·cases hc
 ·rename_i q hq
  split at hc
  ·cases hc
  ·split at hc
   ·rename_i e
    obtain⟨o,c1,c2,c3,c4⟩:=(LJ h n).b cl q ((JS (Ll _).inc).1 hq)
    exact⟨o,c1,c2,c3,c4.trans e.symm⟩
   ·cases hc
theorem lN.uniq {l:List Op} (h:lN l) {i j:Nat} {o:Op} (hi:l[i]? =some o) (hj:l[j]? =some o) (h4:o.kd≠4):i=j:=by
 have key:∀ i j:Nat,l[i]? =some o->l[j]? =some o->i<j->False:=fun i j hi hj hlt=>by
  have hm:o∈l.take j:=fF (i:=i) (by rw[iF hlt];exact hi)
  obtain⟨hn,h3⟩:=h.nw j o hj
  have hr:=hn.rt
  unfold gh kh at hr
  rw[decide_eq_true_eq]at hr
  by_cases c3:o.kd=3
  ·exact h3 c3 hm
  ·have hc:je o=true:=by unfold je oe;rw[decide_eq_true_eq];omega
   obtain⟨q,q1,q2⟩:=(LJ h j).a o hm hc
   have hA:=(JS (Ll _).inc).2 q1
   have k1:=hn.k1 hc
   have k2:=hn.k2 hc
   unfold gq at k1 k2
   rw[hA]at k1 k2
   dsimp only at k1 k2
   rw[if_neg (by omega)]at k1 k2
   split at k1
   ·exact k1 rfl
   ·rw[if_neg (by assumption)]at k2;exact k2 rfl
 rcases Nat.lt_trichotomy i j with c | c | c
 ·exact(key i j hi hj c).elim
 ·exact c
 ·exact(key j i hj hi c).elim
def sB (bk:Int) (v:Int) (o:Op):Int:=if o.bk=bk then(if o.kd=1 then kg o.b else if o.kd=2 then 0 else v)else v
def jS (bk:Int) (l:List Op):Int:=l.foldl (sB bk) 0
theorem xo (bk:Int) (l:List Op) (o:Op):jS bk (l++[o])=sB bk (jS bk l) o:=by unfold jS;rw[List.foldl_append];rfl
structure MV (o:Op):Prop where
 b0:0<=o.bk
 b1:o.bk<8
 w:o.kd=1->∃ v,0<=v/\v<256/\o.b=iB v
theorem zJ (v:Int):(iB v).length=16:=by simp [iB]
theorem J3 {v:Int} (h:0<=v/\v<256):kg (iB v)=v:=by
 have hw:ξ.wrap v=v:=by rw[w8 (by omega) (by omega)]
 have e0:(iB v).getD 0 0=v:=by unfold iB;rw[hw];rfl
 have Z4:(iB v).getD 15 0=if v > 0 then 7 else 0:=rfl
 have em:∀ k,k<15->1<=k->(iB v).getD k 0=0:=fun k h1 h2=>by
  rcases k with _ | k
  ·omega
  ·unfold iB
   rw[List.getD_cons_succ,gO,dY (by rw[List.length_replicate];omega),List.getElem?_replicate]
   split<;>rfl
 unfold kg
 rw[if_pos ⟨zJ v,em,by rw[e0,Z4];split<;>omega⟩,e0]
theorem Oh {c x:List Int} (hc:c.length=128) (hx:x.length=16) {a b:Nat} (ha:a<8) (hb:b<8):((splice c (b*16) x).drop (a*16)).take 16=if a=b then x else(c.drop (a*16)).take 16:=by
 refine mb fun j=>?_
 by_cases hj:j<16
 ·rw[iF hj,jW,uy (by omega)]
  split
  ·rename_i q
   rw[if_neg (by omega),iF hj,jW]
  ·split
   ·rename_i q1 q2
    rw[if_pos (by omega)]
    have:a=b:=by omega
    subst this
    congr 1;omega
   ·rename_i q1 q2
    rw[if_neg (by omega),iF hj,jW]
 ·rw[iE (by rw[cW];omega)]
  split
  ·rw[iE (by omega)]
  ·rw[iE (by rw[cW];omega)]
structure XA (l:List Op):Prop where
 len:(dh l).1.length=128
 v:∀ bk,0<=bk->bk<8->((dh l).1.drop (bk.toNat*16)).take 16=iB (jS bk l)/\0<=jS bk l/\jS bk l<256
theorem ajc {a:Nat} (ha:a<8):(jT.drop (a*16)).take 16=iB 0:=by
 have:a=0∨a=1∨a=2∨a=3∨a=4∨a=5∨a=6∨a=7:=by omega
 rcases this with rfl | rfl | rfl | rfl | rfl | rfl | rfl | rfl<;>decide
theorem Og {l:List Op} (h:∀ o∈l,MV o):∀ n,XA (l.take n)
 | 0=>⟨rfl,fun bk h0 h1=>⟨by show(jT.drop _).take 16=iB 0;exact ajc (by omega),by show(0:Int)<=0;omega,by show(0:Int)<256;omega⟩⟩
 |n+1=>by
  have ih:=Og h n
  cases ho:l[n]? with
  |none=>
   have:l.length<=n:=List.getElem?_eq_none_iff.1 ho
   rw[eQ this]at ih
   rw[eQ (by omega)];exact ih
  |some o=>
   have hg:=h o (fF ho)
   have b0:=hg.b0
   have b1:=hg.b1
   have ht:l.take (n+1)=l.take n++[o]:=by rw[jt,ho];rfl
   rw[ht]
   have e1:(dh (l.take n++[o])).1=fm (dh (l.take n)).1 o.kd o.bk o.b:=by rw[D3];rfl
   have hlen:=ih.len
   by_cases k1:o.kd=1
   ·obtain⟨v,v0,v1,hv⟩:=hg.w k1
    have e2:fm (dh (l.take n)).1 o.kd o.bk o.b=splice (dh (l.take n)).1 (o.bk.toNat*16) (iB v):=by unfold fm;rw[if_pos k1,hv]
    refine⟨by rw[e1,e2,mW (by rw[zJ,hlen];omega)];exact hlen,fun bk h0 h1=>?_⟩
    rw[e1,e2,Oh hlen (zJ v) (by omega) (by omega),xo]
    unfold sB
    by_cases c:o.bk=bk
    ·rw[if_pos (by omega),if_pos c,if_pos k1,hv,J3 ⟨v0,v1⟩]
     exact⟨rfl,v0,v1⟩
    ·rw[if_neg (by omega),if_neg c];exact ih.v bk h0 h1
   ·by_cases k2:o.kd=2
    ·have e2:fm (dh (l.take n)).1 o.kd o.bk o.b=splice (dh (l.take n)).1 (o.bk.toNat*16) (iB 0):=by unfold fm;rw[if_neg k1,if_pos k2];rfl
     refine⟨by rw[e1,e2,mW (by rw[zJ,hlen];omega)];exact hlen,fun bk h0 h1=>?_⟩
     rw[e1,e2,Oh hlen (zJ 0) (by omega) (by omega),xo]
     unfold sB
     by_cases c:o.bk=bk
     ·rw[if_pos (by omega),if_pos c,if_neg k1,if_pos k2]
      exact⟨rfl,dE _,by omega⟩
     ·rw[if_neg (by omega),if_neg c];exact ih.v bk h0 h1
    ·have e2:fm (dh (l.take n)).1 o.kd o.bk o.b=(dh (l.take n)).1:=by unfold fm;rw[if_neg k1,if_neg k2]
     refine⟨by rw[e1,e2];exact hlen,fun bk h0 h1=>?_⟩
     have e3:sB bk (jS bk (l.take n)) o=jS bk (l.take n):=by
      unfold sB
      by_cases c:o.bk=bk
      ·rw[if_pos c,if_neg k1,if_neg k2]
      ·rw[if_neg c]
     rw[e1,e2,xo,e3]
     exact ih.v bk h0 h1
structure Ag (vs:List Vw) (G:Gh) (cs:List dy) (c:dy):Prop where
 h:∃ e n,Cm vs G e n/\c.o∈(G.lg e).take n/\(∀ c'∈cs,c'.o∈(G.lg e).take n->c'.bg<=c.en)/\(c.o.kd=3->(G.lg e)[n - 1]? =some c.o/\c.v=jS c.o.bk ((G.lg e).take n))
structure Nh (i:Nat) (c:dy):Prop where
 b0:0<=c.o.bk
 b1:c.o.bk<2
 k0:1<=c.o.kd
 k1:c.o.kd<=4
 w:c.o.kd=1->c.o.b=iB ((i:Int)+1)/\c.v=(i:Int)+1
 t:c.o.kd=2->c.v=0
structure X5 (now:Int) (c:dy):Prop where
 b0:0<=c.bg
 b1:c.bg<=now
 e:c.en=-1∨(c.bg<=c.en/\c.en<=now)
structure jV (vs:List Vw) (G:Gh) (cs:List dy) (now:Int):Prop where
 key:cs.Pairwise (fun a b=>a.o.cl=b.o.cl->a.o.nm≠b.o.nm)
 ln:cs.length<=13
 n0:0<=now
 sh:∀(i:Nat) (c:dy),cs[i]? =some c->Nh i c
 tm:∀ c∈cs,X5 now c
 ow:∀ e,∀ o∈G.lg e,∃ c∈cs,c.o=o
 lo:∀ e,lN (G.lg e)
 en:∀ c∈cs,c.en≠-1->c.o.kd≠4->Ag vs G cs c
section
variable {vs:List Vw} {G:Gh} {cs:List dy} {now:Int}
theorem jV.same (h:jV vs G cs now) {a b:dy} (ha:a∈cs) (hb:b∈cs) (h1:a.o.cl=b.o.cl) (h2:a.o.nm=b.o.nm):a=b:=by
 obtain⟨i,hi⟩:=jG ha
 obtain⟨j,hj⟩:=jG hb
 obtain⟨li,ei⟩:=bH.1 hi
 obtain⟨lj,ej⟩:=bH.1 hj
 have hp:=List.pairwise_iff_getElem.1 h.key
 rcases Nat.lt_trichotomy i j with c | c | c
 ·exact absurd (by rw[ei,ej];exact h2) (hp i j li lj c (by rw[ei,ej];exact h1))
 ·subst c;rw[hi]at hj;exact bb.inj hj
 ·exact absurd (by rw[ei,ej];exact h2.symm) (hp j i lj li c (by rw[ei,ej];exact h1.symm))
theorem jV.go (h:jV vs G cs now) {e:Int} {o:Op} (ho:o∈G.lg e):MV o:=by
 obtain⟨c,hc,rfl⟩:=h.ow e o ho
 obtain⟨i,hi⟩:=jG hc
 have hl:=(bH.1 hi).1
 have:=h.ln
 have hs:=h.sh i c hi
 exact⟨hs.b0,by have:=hs.b1;omega,fun k=>⟨(i:Int)+1,by omega,by omega,(hs.w k).1⟩⟩
theorem Ag.mono {k:Int} {G':Gh} {c:dy} (h:Ag vs G cs c) (hx:Ex vs k G G'):Ag vs G' cs c:=by
 obtain⟨e,n,c1,c2,c3,c4⟩:=h
 refine⟨e,n,c1.mono hx,?_⟩
 rw[qK (hx.lg e) c1.nl]
 exact⟨c2,c3,fun t=>⟨w0 (hx.lg e) (c4 t).1,(c4 t).2⟩⟩
theorem jV.mono {k:Int} {G':Gh} (h:jV vs G cs now) (hx:Ex vs k G G') (ow:∀ e,∀ o∈G'.lg e,∃ c∈cs,c.o=o) (lo:∀ e,lN (G'.lg e)):jV vs G' cs now:=
 ⟨h.key,h.ln,h.n0,h.sh,h.tm,ow,lo,fun c hc h1 h2=>(h.en c hc h1 h2).mono hx⟩
theorem jV.val (h:jV vs G cs now) {e:Int} {n:Nat} {o:Op} (ho:o∈G.lg e) (hk:o.kd=3):kg (mu (dh ((G.lg e).take n)).1 o)=jS o.bk ((G.lg e).take n)/\0<=jS o.bk ((G.lg e).take n):=by
 have hg:=h.go ho
 obtain⟨b1,b2,b3⟩:=(Og (fun o ho=>h.go (e:=e) ho) n).v o.bk hg.b0 hg.b1
 unfold mu
 rw[if_pos hk,b1,J3 ⟨b2,b3⟩]
 exact⟨rfl,b2⟩
theorem tR (now:Int) (d:Dn) (c:dy):(gL now d c).o=c.o/\(gL now d c).bg=c.bg:=by unfold gL;split<;>exact⟨rfl,rfl⟩
theorem ag3 (h:jV vs G cs now) {d:Dn} (hd:vB vs G d):jV vs G (cs.map (gL now d)) now/\cs.all (oC d)=true:=by
 have hit:∀ c∈cs,qB d c->c.o=d.o/\∃ e n,Cm vs G e n/\d.o∈(G.lg e).take n/\(d.o.kd=3->(G.lg e)[n - 1]? =some d.o/\kg d.x=jS d.o.bk ((G.lg e).take n)/\0<=kg d.x):=fun c hc ⟨h1,h2,h3,h4⟩=>by
  obtain⟨e,n,c1,c2,c3⟩:=hd.h h4
  have hm:=List.mem_of_mem_take c2
  obtain⟨c',ft,e'⟩:=h.ow e d.o hm
  have:c=c':=h.same hc ft (by rw[h1,e']) (by rw[h2,e'])
  subst this
  refine⟨e',e,n,c1,c2,fun t=>⟨(c3 t).1,?_⟩⟩
  obtain⟨v1,v2⟩:=h.val (n:=n) hm t
  rw[(c3 t).2,v1]
  exact⟨rfl,v2⟩
 refine⟨⟨?_,by rw[bT];exact h.ln,h.n0,fun i c hi=>?_,fun c hc=>?_,fun e o ho=>?_,h.lo,fun c hc h1 h2=>?_⟩,List.all_eq_true.2 fun c hc=>?_⟩
 ·refine List.pairwise_map.2 (h.key.imp fun{a b} hab=>?_)
  rw[(tR now d a).1,(tR now d b).1];exact hab
 ·rw[fy]at hi
  cases hc:cs[i]? with
  |none=>rw[hc]at hi;cases hi
  |some c0=>
   rw[hc]at hi;cases hi
   have hs:=h.sh i c0 hc
   unfold gL
   split
   ·exact⟨hs.b0,hs.b1,hs.k0,hs.k1,fun k=>⟨(hs.w k).1,by have k:c0.o.kd=1:=k;show(if c0.o.kd=3 then _ else c0.v)=_;rw[if_neg (by omega)];exact(hs.w k).2⟩,fun k=>by have k:c0.o.kd=2:=k;show(if c0.o.kd=3 then _ else c0.v)=_;rw[if_neg (by omega)];exact hs.t k⟩
   ·exact hs
 ·obtain⟨c0,hc0,rfl⟩:=dO.1 hc
  have ht:=h.tm c0 hc0
  unfold gL
  split
  ·exact⟨ht.b0,ht.b1,.inr ⟨ht.b1,dE _⟩⟩
  ·exact ht
 ·obtain⟨c,hc,rfl⟩:=h.ow e o ho
  exact⟨_,List.mem_map_of_mem hc,(tR now d c).1⟩
 ·obtain⟨c0,hc0,rfl⟩:=dO.1 hc
  by_cases hh:qB d c0
  ·obtain⟨e1,e,n,c1,c2,c3⟩:=hit c0 hc0 hh
   have et:gL now d c0=⟨c0.o,if c0.o.kd=3 then kg d.x else c0.v,c0.bg,now⟩:=if_pos hh
   rw[et]
   refine⟨e,n,c1,by show c0.o∈_;rw[e1];exact c2,fun c' ft _=>?_,fun t=>?_⟩
   ·obtain⟨c2,fI,rfl⟩:=dO.1 ft
    rw[(tR now d c2).2];exact(h.tm c2 fI).b1
   ·have t:c0.o.kd=3:=t
    show(G.lg e)[n - 1]? =some c0.o/\(if c0.o.kd=3 then kg d.x else c0.v)=jS c0.o.bk _
    rw[if_pos t,e1]
    have:=c3 (by rw[<- e1];exact t)
    exact⟨this.1,this.2.1⟩
  ·have et:gL now d c0=c0:=if_neg hh
   rw[et]at h1 h2 ⊢
   obtain⟨e,n,c1,c2,c3,c4⟩:=h.en c0 hc0 h1 h2
   refine⟨e,n,c1,c2,fun c' ft ho=>?_,c4⟩
   obtain⟨c2,fI,rfl⟩:=dO.1 ft
   rw[(tR now d c2).1]at ho
   rw[(tR now d c2).2];exact c3 c2 fI ho
 ·unfold oC
  rw[decide_eq_true_eq]
  intro ⟨hh,t⟩
  obtain⟨e1,e,n,c1,c2,c3⟩:=hit c hc hh
  exact(c3 (by rw[<- e1];exact t)).2.2
end
structure WJ (G:Gh) (w:Wd):Prop where
 gi:GI w.vs G
 vi:VI w.vs G
 r:∀ i:Nat,i<4->RI w.vs G i (κ w i)
 ψ:∀ l∈w.ψ,iO w.vs G l.fr l.m
 cs:jV w.vs G w.cs w.now
 ok:w.ok=true
theorem Wy {vs:List Vw} {G:Gh}:∀(l:List Dn) (w:Wd),(∀ d∈l,vB vs G d)->jV vs G w.cs w.now->w.ok=true->jV vs G (l.foldl fT w).cs (l.foldl fT w).now/\(l.foldl fT w).ok=true
 | [],w,_,h,ho=>⟨h,ho⟩
 |d::l,w,hd,h,ho=>by
  obtain⟨h1,h2⟩:=ag3 h (hd d iV)
  exact Wy l (fT w d) (fun d' hd'=>hd d' (gn _ hd')) h1 (by show(w.ok && w.cs.all (oC d))=true;rw[ho,h2];rfl)
theorem K6 {P:fQ->Prop} (i:Nat):∀(l:List Post) (w:Wd),(∀ p∈l,P ⟨i,p.to,p.m⟩)->(∀ x∈w.ψ,P x)->∀ x∈(dw w i l).ψ,P x
 | [],w,_,h=>h
 |p::l,w,hp,h=>K6 i l (ii i w p) (fun p' mP=>hp p' (gn _ mP)) (by
  unfold ii;split
  ·exact fun x hx=>mn (P:=P) h (hp p iV) hx
  ·exact h)
theorem OP {T:Int} {w:Wd} {G G':Gh} (hw:WI T w) (h:WJ G w) {i:Nat} (hi:i<4) {R:ι} (g1:GI w.vs G') (g2:Ex w.vs i G G') (hR:fG w.vs G' i R) (ow:∀ e,∀ o∈G'.lg e,∃ c∈w.cs,c.o=o) (lo:∀ e,lN (G'.lg e)):WJ G' (cf (bx w i R) i):=by
 have hir:i<w.R.length:=by rw[hw.rl];exact hi
 have e1:κ (bx w i R) i=R:=l4 R hir
 obtain⟨s1,s2,s3,s4,s5,s6,s7,s8⟩:=nN i R.out (fS (bx w i R) i)
 have Ii:cf (bx w i R) i=R.done.foldl fT (dw (fS (bx w i R) i) i R.out):=by unfold cf;rw[e1]
 obtain⟨t1,t2⟩:=sy R.done (dw (fS (bx w i R) i) i R.out)
 obtain⟨u1,u2,u3,u4,u5⟩:=xn R.done (dw (fS (bx w i R) i) i R.out)
 rw[Ii]
 have eR:(R.done.foldl fT (dw (fS (bx w i R) i) i R.out)).R=(bx w i (iH R)).R:=by
  rw[t1,s1];show(w.R.set i R).set i (iH (κ (bx w i R) i))=w.R.set i (iH R);rw[e1,List.set_set]
 have eA:∀ j,κ (R.done.foldl fT (dw (fS (bx w i R) i) i R.out)) j=κ (bx w i (iH R)) j:=tJ eR
 have eV:(R.done.foldl fT (dw (fS (bx w i R) i) i R.out)).vs=w.vs:=u2.trans s3
 have hcs:jV w.vs G' (dw (fS (bx w i R) i) i R.out).cs (dw (fS (bx w i R) i) i R.out).now:=by
  rw[s4,s6];exact h.cs.mono g2 ow lo
 obtain⟨v1,v2⟩:=Wy R.done _ hR.dn hcs (by rw[s7];exact h.ok)
 have wn:∀ l∈(R.done.foldl fT (dw (fS (bx w i R) i) i R.out)).ψ,iO w.vs G' l.fr l.m:=by
  rw[u3]
  exact K6 (P:=fun l=>iO w.vs G' l.fr l.m) i R.out (fS (bx w i R) i) (fun p hp=>hR.out p hp) (fun x hx=>(h.ψ x hx).mono g2)
 refine⟨by rw[eV];exact g1,by rw[eV];exact h.vi.mono g2,fun j hj=>?_,by rw[eV];exact wn,by rw[eV];exact v1,v2⟩
 rw[eV,eA]
 by_cases e:i=j
 ·subst e
  rw[l4 _ hir]
  exact hR.ri.out ⟨rfl,rfl,rfl,rfl,rfl,rfl,rfl,rfl,rfl⟩ rfl
 ·rw[qL _ e]
  exact(h.r j hj).mono h.vi g2 (by omega)
section
variable {T:Int} {w:Wd} {G:Gh}
theorem WJ.Dj (hw:WI T w) (h:WJ G w) {i:Nat} (hi:i<4):fG w.vs G i (κ w i):=
 ⟨h.r i hi,fun p hp=>(by rw[(hw.r i hi).out]at hp;cases hp),fun d hd=>(by rw[(hw.r i hi).done]at hd;cases hd)⟩
theorem JZ (hw:WI T w) (h:WJ G w) {i:Nat} (hi:i<4) {R:ι} (hn:oL w.vs G i R):∃ G',WJ G' (cf (bx w i R) i):=by
 obtain⟨G',g1,g2,g3,g4⟩:=hn
 refine⟨G',OP hw h hi g1 g2 g3 (fun e o ho=>?_) (fun e=>?_)⟩
 ·obtain⟨e',he⟩:=g4 e
  exact h.cs.ow e' o (he.subset ho)
 ·obtain⟨e',he⟩:=g4 e
  exact(h.cs.lo e').pre he
theorem acq (hw:WI T w) (h:WJ G w) {i:Nat} (hi:i<4) {R:ι} {o:Op} (hn:xJ w.vs G i R o) (hc:∃ c∈w.cs,c.o=o) (hf:o.kd=3->∀ E,o ∉ G.lg E):∃ G',WJ G' (cf (bx w i R) i):=by
 obtain⟨G',g1,g2,g3,g4⟩:=hn
 refine⟨G',OP hw h hi g1 g2 g3 (fun e o' ho=>?_) (fun e=>?_)⟩
 ·rcases g4 e with ⟨e',he⟩ | ⟨E,he,_⟩
  ·exact h.cs.ow e' o' (he.subset ho)
  ·rw[he]at ho
   rcases dz.1 ho with ho | ho
   ·exact h.cs.ow E o' ho
   ·rw[da]at ho;subst ho;exact hc
 ·rcases g4 e with ⟨e',he⟩ | ⟨E,he,hne⟩
  ·exact(h.cs.lo e').pre he
  ·rw[he];exact(h.cs.lo E).snoc hne (fun k=>hf k E)
theorem JQ (h:WJ G w):WJ G (cw w):=
 ⟨h.gi,h.vi,h.r,h.ψ,⟨h.cs.key,h.cs.ln,by have:=h.cs.n0;show 0<=w.now+1;omega,h.cs.sh,fun c hc=>by
  have t:=h.cs.tm c hc
  exact⟨t.b0,by have:=t.b1;show c.bg<=w.now+1;omega,t.e.imp id (fun⟨a,b⟩=>⟨a,by show c.en<=w.now+1;omega⟩)⟩,h.cs.ow,h.cs.lo,h.cs.en⟩,h.ok⟩
theorem Br (h:WJ G w) {b:List fQ} (hb:∀ l∈b,l∈w.ψ):WJ G {w with ψ:=b }:=⟨h.gi,h.vi,h.r,fun l hl=>h.ψ l (hb l hl),h.cs,h.ok⟩
theorem O6 (hw:WI T w) (h:WJ G w) {k:Nat} (hk:k<w.ψ.length):∃ G',WJ G' (lB w k):=by
 have hl:=hw.ψ _ (sU hk)
 have t0:=hl.t0
 have t1:=hl.t1
 have hi:(fH w k).to.toNat<4:=by omega
 have h':WJ G (fw w k):=Br h (fun l hl=>List.mem_of_mem_eraseIdx hl)
 have hlt:iO w.vs G (fH w k).fr (fH w k).m:=h.ψ _ (sU hk)
 exact JZ (Ko hw k) h' hi (aaK (vs:=w.vs) h.gi h.vi (h.Dj hw hi) (hw.r _ hi).w.i hlt)
theorem WV (hw:WI T w) (h:WJ G w) {a:Nat} (ha:a<4) {v:Vw} (hv:v∈w.vs):∃ G',WJ G' (qT w a v):=
 JZ hw h ha (ai2 h.gi h.vi (h.Dj hw ha) (hw.r _ ha).w.i hv)
theorem Wn (hw:WI T w) (h:WJ G w) {a:Nat} (ha:a<4):∃ G',WJ G' (pm w a):=
 JZ hw h ha (agU h.gi h.vi (h.Dj hw ha) (hw.r _ ha).w.i)
theorem Wr (hw:WI T w) (hT:T<800) (h:WJ G w):∀ i,i<=4->∃ G',WJ G' (eO w i)
 | 0,_=>⟨G,h⟩
 |i+1,hi=>by
  obtain⟨G',h'⟩:=Wr hw hT h i (by omega)
  exact Wn (vc hw hT i (by omega)).1 h' (by omega)
theorem ae6 (hw:WI T w) (h:WJ G w) {a:Nat} (ha:a<4):WJ G (bx w a (sf (κ w a) a)):=by
 have tj:a<w.R.length:=by rw[hw.rl];exact ha
 refine⟨h.gi,h.vi,fun j hj=>?_,h.ψ,h.cs,h.ok⟩
 by_cases e:a=j
 ·subst e
  rw[l4 _ tj]
  have hr:=h.r a ha
  exact⟨rfl,rfl,rfl,rfl,hr.e0,hr.n0,hr.ac,hr.nl,hr.st,hr.rc,hr.rz,hr.al,.inl rfl,fun L hL=>qI hL⟩
 ·rw[qL _ e];exact h.r j hj
theorem abB (h:WJ G w) {i:Nat} (hi:i<4) {c:dy} (hc:c∈w.cs):je c.o=true->gq (κ w i).t c.o.cl c.o.nm=1->c.o∈(G.lg (κ w i).ep).take (κ w i).nu.toNat:=fun _ h1=>by
 have e2:(κ w i).t=(dh ((G.lg (κ w i).ep).take (κ w i).nu.toNat)).2:=congrArg Prod.snd (h.r i hi).st
 rw[e2]at h1
 obtain⟨o,c1,c2,c3,c4⟩:=Zm (h.cs.lo _) _ h1
 obtain⟨c',ft,e'⟩:=h.cs.ow _ o (List.mem_of_mem_take c1)
 have:c'=c:=h.cs.same ft hc (by rw[e',c3]) (by rw[e',c4])
 subst this
 rw[e'];exact c1
theorem Lo (hw:WI T w) (h:WJ G w) {a:Nat} (ha:a<4) {c:dy} (hc:c∈w.cs) (hf:c.o.kd=3->∀ E,c.o ∉ G.lg E):∃ G',WJ G' (lG w c.o a):=
 acq hw h ha (aga h.gi h.vi (h.Dj hw ha) (hw.r _ ha).w.i c.o (abB h ha hc)) ⟨c,hc,rfl⟩ hf
structure jH (w:Wd):Prop where
 h:∀ c∈w.cs,0<=c.o.cl/\c.o.nm<=kI w c.o.cl
theorem SZ (hn:jH w) (s:Sp) {c:dy} (hc:c∈w.cs):c.o.cl=(gv w s).cl->c.o.nm≠(gv w s).nm:=fun e t=>by
 have:=(hn.h c hc).2
 rw[e,t]at this
 have:kI w (bP s)+1<=kI w (bP s):=this
 omega
theorem SW (h:WJ G w) (h12:w.cs.length<=12) {o:Op} {v:Int} (hf:∀ c∈w.cs,c.o.cl=o.cl->c.o.nm≠o.nm) (hs:Nh w.cs.length ⟨o,v,w.now,-1⟩):WJ G {w with cs:=w.cs++[⟨o,v,w.now,-1⟩] }:=by
 refine⟨h.gi,h.vi,h.r,h.ψ,⟨?_,?_,h.cs.n0,fun i c hi=>?_,fun c hc=>mn h.cs.tm ⟨h.cs.n0,dE _,.inl rfl⟩ hc,fun e o ho=>?_,h.cs.lo,fun c hc h1 h2=>?_⟩,h.ok⟩
 ·refine List.pairwise_append.2 ⟨h.cs.key,List.pairwise_singleton _ _,fun a ha b hb=>?_⟩
  rw[da]at hb;subst hb
  exact hf a ha
 ·show(w.cs++[_]).length<=13
  rw[bn,gZ];omega
 ·have hi:(w.cs++[(⟨o,v,w.now,-1⟩:dy)])[i]? =some c:=hi
  have hlt:=(bH.1 hi).1
  rw[bn,gZ]at hlt
  rcases(by omega:i<w.cs.length∨i=w.cs.length)with q | q
  ·rw[dY q]at hi;exact h.cs.sh i c hi
  ·subst q
   simp at hi
   subst hi
   exact hs
 ·obtain⟨c,hc,e'⟩:=h.cs.ow e o ho
  exact⟨c,gQ _ hc,e'⟩
 ·have hc:c∈w.cs++[(⟨o,v,w.now,-1⟩:dy)]:=hc
  rcases dz.1 hc with hc | hc
  ·obtain⟨e,n,c1,c2,c3,c4⟩:=h.cs.en c hc h1 h2
   refine⟨e,n,c1,c2,fun c' ft ho=>?_,c4⟩
   have ft:c'∈w.cs++[(⟨o,v,w.now,-1⟩:dy)]:=ft
   rcases dz.1 ft with ft | ft
   ·exact c3 c' ft ho
   ·rw[da]at ft;subst ft
    obtain⟨c2,fI,e2⟩:=h.cs.ow e _ (List.mem_of_mem_take ho)
    exact absurd (by rw[e2]) (hf c2 fI (by rw[e2]))
  ·rw[da]at hc;subst hc
   exact absurd rfl h1
theorem acd (hn:jH w) (h:WJ G w) (s:Sp) (h12:w.cs.length<12):WJ G (lX w s):=by
 have pk:=kJ s.k (n:=4) (by omega)
 have pb:=kJ (γ.wrap (s.n.tdiv 2)) (n:=2) (by omega)
 have g:=SW h (by omega) (o:=gv w s) (v:=qH w s) (fun c hc=>SZ hn s hc) ⟨pb.1,pb.2,by show 1<=1+bC s.k 4;omega,by show 1+bC s.k 4<=4;omega,fun k=>by
  have k:1+bC s.k 4=1:=k
  exact⟨if_pos k,if_pos k⟩,fun k=>by
  have k:1+bC s.k 4=2:=k
  exact if_neg (by omega)⟩
 exact⟨g.gi,g.vi,g.r,g.ψ,g.cs,g.ok⟩
theorem af6 (hw:WI T w) (hT:T<790) (hn:jH w) (h:WJ G w) (s:Sp):∃ G',WJ G' (lH w s (cH s)):=by
 have pa:=kJ s.dj (n:=4) (by omega)
 have ha:cH s<4:=by unfold cH;omega
 unfold lH
 split
 ·split
  ·rename_i c hc
   have hm:=List.mem_of_getLast? hc
   rw[lu]at hm
   have hl:=hm.2
   unfold nF at hl
   rw[decide_eq_true_eq]at hl
   exact Lo hw h ha hm.1 (fun k=>absurd k hl.2.2)
  ·exact⟨G,h⟩
 ·split
  ·exact⟨G,h⟩
  ·rename_i h12
   have h2:=acd hn h s (by omega)
   have hm:(⟨gv w s,qH w s,w.now,-1⟩:dy)∈(lX w s).cs:=kQ _ (da.2 rfl)
   exact Lo (JD hw s (by omega)) h2 ha hm (fun _ E ho=>by
    obtain⟨c,hc,e⟩:=h.cs.ow E _ ho
    exact absurd (by rw[e]) (SZ hn s hc (by rw[e])))
end
section
variable {vs:List Vw} {G:Gh} {v:Vw}
theorem W6 {e:Int} (h1:1<=e) (h2:e<=vs.length):l7 (vs++[v]) e=l7 vs e:=by
 unfold l7
 rw[gO,gO,dY (by omega)]
theorem yP {e:Int} (h1:1<=e) (h2:e<=vs.length):hZ (vs++[v]) e=hZ vs e:=by unfold hZ;rw[W6 h1 h2]
theorem GI.qg (h:GI vs G):GI (vs++[v]) G:=by
 have hl:∀ e,G.act e->hZ (vs++[v]) e=hZ vs e:=fun e a=>yP (h.a0 e a).1 (h.a0 e a).2
 exact⟨fun e a=>⟨(h.a0 e a).1,by have:=(h.a0 e a).2;rw[bn,gZ];omega⟩,h.nl,h.nr,h.bl,h.p0,h.p1,h.p2,fun e a=>by rw[hl e a];exact h.p3 e a,fun e a=>by rw[hl e a];exact h.p4 e a,h.rl,fun e a=>by rw[hl e a];exact h.ld e a⟩
theorem Cm.qg (hG:GI vs G) {e:Int} {n:Nat} (h:Cm vs G e n):Cm (vs++[v]) G e n:=
 ⟨h.a,h.n1,h.nl,by rw[W6 (hG.a0 e h.a).1 (hG.a0 e h.a).2];exact h.al⟩
theorem RI.qg (hG:GI vs G) (hV:VI vs G) {k:Int} {R:ι} (h:RI vs G k R):RI (vs++[v]) G k R:=
 ⟨h.me,h.id,h.bl,h.lo,h.e0,h.n0,h.ac,h.nl,h.st,h.rc,h.rz,fun e a q=>h.al e a (by rw[yP (hG.a0 e a).1 (hG.a0 e a).2]at q;exact q),h.v.imp (fun t=>t) (gQ _),fun L hL=>by
  have hl:=h.l L hL
  have hv:=vh hV hl.v
  exact⟨gQ _ hl.v,hl.ep,by rw[yP (by rw[hl.ep];exact hv.2.1) (by rw[hl.ep];exact hv.2.2)];exact hl.hd,hl.ins,hl.cy,hl.cur⟩⟩
theorem iO.qg (hG:GI vs G) {fr:Int} {m:dL} (h:iO vs G fr m):iO (vs++[v]) G fr m:=by
 cases h with
 |sync e n a f b l x c=>exact .sync e n a (by rw[yP (hG.a0 e a).1 (hG.a0 e a).2];exact f) b l x c
 |ok kd e n hk hn=>exact .ok kd e n hk hn
 |op e n o s a f b g=>exact .op e n o s a (by rw[yP (hG.a0 e a).1 (hG.a0 e a).2];exact f) b g
theorem jV.qg (hG:GI vs G) {cs:List dy} {now:Int} (h:jV vs G cs now):jV (vs++[v]) G cs now:=
 ⟨h.key,h.ln,h.n0,h.sh,h.tm,h.ow,h.lo,fun c hc h1 h2=>by
  obtain⟨e,n,c1,c2⟩:=h.en c hc h1 h2
  exact⟨e,n,c1.qg hG,c2⟩⟩
theorem VI.qg (hV:VI vs G) (h1:v.ve=(vs.length:Int)+1) (h2:v.vi=5) (h3:v.mem≠[]) (h4:(v.mem++v.aH).Nodup) (hx:∀ l,vs[vs.length - 1]? =some l->0<vs.length->∀ x∈v.mem,x∈l.mem∨(x∈l.aH/\G.act l.ve/\G.ba l.ve<=G.rc x l.ve)):VI (vs++[v]) G:=by
 refine⟨fun i u hi=>?_,fun u hu=>mn (P:=fun u:Vw=>u.mem≠[]) hV.m0 h3 hu,fun u hu=>mn (P:=fun u:Vw=>(u.mem++u.aH).Nodup) hV.nd h4 hu,fun i u u' hi hi' x hx'=>?_⟩
 ·have hlt:=(bH.1 hi).1
  rw[bn,gZ]at hlt
  rcases(by omega:i<vs.length∨i=vs.length)with q | q
  ·rw[dY q]at hi;exact hV.ve i u hi
  ·subst q
   simp at hi
   subst hi
   exact⟨h1,h2⟩
 ·have hlt:=(bH.1 hi').1
  rw[bn,gZ]at hlt
  rw[dY (by omega)]at hi
  rcases(by omega:i+1<vs.length∨i+1=vs.length)with q | q
  ·rw[dY q]at hi';exact hV.nx i u u' hi hi' x hx'
  ·rw[q]at hi'
   simp at hi'
   subst hi'
   exact hx u (by rw[<- q,Nat.add_sub_cancel];exact hi) (by omega) x hx'
end
section
variable {T:Int} {w:Wd} {G:Gh}
theorem RR (w:Wd):l7 w.vs (w.vs.length:Int)=bJ w:=by
 unfold l7 bJ zI
 rw[show((w.vs.length:Int) - 1).toNat=w.vs.length - 1 by omega];rfl
theorem RS (h:WJ G w) (hw:WI T w):(bJ w).ve=w.vs.length:=by
 have:=hw.v0
 rw[<- RR,W9 h.vi (by omega) (by omega)]
theorem ag9 (hw:WI T w) (h:WJ G w) (s:Sp) {a:Int} (ha:0<=a/\a<4):WJ G (oD w s a):=by
 have v0:=hw.v0
 have oT:=RS h hw
 have kV:=uN hw
 have df:w.vs[w.vs.length - 1]? =some (bJ w):=vf (by omega)
 unfold oD
 split
 ·exact h
 ·rename_i hr
  split
  ·rename_i hne
   have lT:=(JE (hw.vs _ kV) (bC s.k 3) ha).1
   have abj:(lY (bJ w) (bC s.k 3) a).ve=(bJ w).ve+1:=((JE (hw.vs _ kV) (bC s.k 3) ha).2).resolve_left hne
   have hvi:(lY (bJ w) (bC s.k 3) a).vi=5:=by
    have:=(h.vi.ve _ _ df).2
    unfold lY
    repeat' split
    all_goals exact this
   refine⟨h.gi.qg,h.vi.qg (by rw[abj,oT]) hvi lT.m0 lT.nd (fun l hl _ x hx=>?_),fun i hi=>(h.r i hi).qg h.gi h.vi,fun l hl=>(h.ψ l hl).qg h.gi,h.cs.qg h.gi,h.ok⟩
   rw[df]at hl;cases hl
   unfold lY at hx
   split at hx
   ·split at hx
    ·exact .inl hx
    ·exact .inl (tE.1 hx).1
   ·split at hx
    ·split at hx
     ·exact .inl hx
     ·exact .inl hx
    ·split at hx
     ·rename_i h2
      split at hx
      ·exact .inl hx
      ·rename_i hj
       have hj:a∈(bJ w).aH:=by simpa using hj
       rcases dz.1 hx with hx | hx
       ·exact .inl hx
       ·rw[da]at hx;subst hx
        refine .inr ⟨hj,?_⟩
        have hrd:=Classical.byContradiction fun t=>hr ⟨h2,t⟩
        have hm0:=(hw.vs _ kV).m0
        have hin:=Cc hm0
        have Cl:=(hw.vs _ kV).rg _ (gQ _ hin)
        have hk:(fb (bJ w)).toNat<4:=by omega
        have fW:=h.r _ hk
        obtain⟨r1,r2⟩:=hrd
        generalize κ w (fb (bJ w)).toNat=R at r1 r2 fW
        unfold gw at r1
        split at r1
        ·rename_i L hL
         have hl:=fW.l L hL
         have hv:=vh h.vi hl.v
         have e1:=hl.act h.vi
         have hvl:R.v=bJ w:=by
          rw[<- hv.1,<- RR]
          congr 1
          rw[<- hl.ep,r2,oT]
         have hac:=fW.ac (by omega)
         have Rh:x≠R.me:=fun e=>by
          have hnd:=List.nodup_append.1 (hw.vs _ kV).nd
          have:x=fb (bJ w):=by rw[e,fW.me];omega
          exact hnd.2.2 _ hin _ hj this.symm
         have hins:=hl.ins x (wM.2 ⟨by rw[hvl];exact kQ _ hj,Rh⟩) (List.all_eq_true.1 r1 x (wM.2 ⟨by rw[hvl];exact kQ _ hj,Rh⟩))
         rw[<- r2]
         refine⟨hac.1,?_⟩
         have hb:=hac.2
         cases hc:L.cur with
         |none=>
          rw[hc]at hins
          have hins:R.nu<=(G.rc x R.ep:Int)+0:=hins
          omega
         |some o=>
          rw[hc]at hins
          have hins:R.nu<=(G.rc x R.ep:Int)+1:=hins
          have:=(hl.cur o hc).1
          omega
        ·cases r1
     ·exact .inl hx
  ·exact h
theorem jH.eq {w':Wd} (h:jH w) (h1:∀ c∈w'.cs,∃ c0∈w.cs,c.o=c0.o) (h2:w'.bt=w.bt):jH w':=⟨fun c hc=>by
 obtain⟨c0,hc0,e⟩:=h1 c hc
 have:=h.h c0 hc0
 rw[e];unfold kI at this ⊢;rw[h2];exact this⟩
theorem Wv:∀(l:List Dn) (w:Wd),∀ c∈(l.foldl fT w).cs,∃ c0∈w.cs,c.o=c0.o
 | [],w,c,hc=>⟨c,hc,rfl⟩
 |d::l,w,c,hc=>by
  obtain⟨c1,h1,e1⟩:=Wv l (fT w d) c hc
  obtain⟨c0,h0,rfl⟩:=dO.1 h1
  exact⟨c0,h0,e1.trans (tR _ d c0).1⟩
theorem vX (h:jH w) (i:Nat) (R:List ι):jH (cf {w with R:=R } i):=by
 refine h.eq (fun c hc=>?_) ?_
 ·unfold cf at hc
  obtain⟨c0,h0,e⟩:=Wv _ _ c hc
  rw[(nN i _ _).2.2.2.1]at h0
  exact⟨c0,h0,e⟩
 ·unfold cf
  rw[(xn _ _).2.2.2.1,(nN i _ _).2.2.2.2.1];rfl
theorem ace (h:jH w) (hw:WI T w) (s:Sp):jH (lX w s):=⟨fun c hc=>by
 have pc:=kJ s.n (n:=2) (by omega)
 have hcl:bP s=1+bC s.n 2:=rfl
 have hc:c∈w.cs++[(⟨gv w s,qH w s,w.now,-1⟩:dy)]:=hc
 have e0:kI (lX w s) (bP s)=kI w (bP s)+1:=by
  show(w.bt.set (bP s).toNat _).getD (bP s).toNat 0=_
  rw[gO,iN (by rw[hw.n3];omega)];rfl
 rcases dz.1 hc with hc | hc
 ·obtain⟨h1,h2⟩:=h.h c hc
  refine⟨h1,?_⟩
  by_cases e:c.o.cl=bP s
  ·rw[e,e0];rw[e]at h2;omega
  ·show c.o.nm<=(w.bt.set (bP s).toNat _).getD c.o.cl.toNat 0
   rw[gO,gP (by omega),<- gO];exact h2
 ·rw[da]at hc;subst hc
  exact⟨by show 0<=bP s;omega,by show kI w (bP s)+1<=kI (lX w s) (bP s);rw[e0];exact dE _⟩⟩
theorem af_ (h:jH w) (hw:WI T w) (s:Sp):jH (lH w s (cH s)):=by
 unfold lH
 split
 ·split
  ·exact vX h _ _
  ·exact h
 ·split
  ·exact h
  ·exact vX (ace h hw s) _ _
theorem Ws (h:jH w):∀ i,jH (eO w i)
 | 0=>h
 |i+1=>vX (Ws h i) _ _
theorem VJ (h:jH w) (hw:WI T w) (s:Sp):jH (eE w s):=by
 have hN:jH (cw w):=⟨h.h⟩
 have hn:=wQ hw
 unfold eE kN
 repeat' split
 ·exact af_ hN hn s
 ·exact vX (w:=fw (cw w) _) ⟨hN.h⟩ _ _
 ·exact hN
 ·exact⟨hN.h⟩
 ·exact hN
 ·exact⟨hN.h⟩
 ·exact hN
 ·exact⟨hN.h⟩
 ·unfold oD
  repeat' split
  all_goals first | exact hN | exact⟨hN.h⟩
 ·exact vX hN _ _
 ·exact Ws hN 4
 ·exact hN
theorem agf (hw:WI T w) (hT:T<700) (hn:jH w) (h:WJ G w) (s:Sp):∃ G',WJ G' (eE w s):=by
 have hN:=wQ hw
 have hJ:=JQ h
 have hm:jH (cw w):=⟨hn.h⟩
 have pa:=kJ s.dj (n:=4) (by omega)
 have ha:cH s<4:=by unfold cH;omega
 have p3:=kJ s.n (n:=3) (by omega)
 have v0:=hw.v0
 have Cq:mY w s∈w.vs:=fF (vf (by omega))
 have hpk:0<w.ψ.length->iK w s<(cw w).ψ.length:=fun hl=>by
  have:=kJ s.n (n:=(w.ψ.length:Int)) (by omega)
  show(bC s.n w.ψ.length).toNat<w.ψ.length
  omega
 unfold eE kN
 repeat' split
 ·exact af6 hN (by omega) hm hJ s
 ·rename_i hl;exact O6 hN hJ (hpk hl)
 ·exact⟨G,hJ⟩
 ·exact⟨G,Br hJ (fun l hl=>List.mem_of_mem_eraseIdx hl)⟩
 ·exact⟨G,hJ⟩
 ·rename_i hl
  exact⟨G,Br hJ (fun l hl2=>mn (P:=fun l=>l∈w.ψ) (fun l h=>h) (sU (hpk hl.1)) hl2)⟩
 ·exact⟨G,hJ⟩
 ·exact⟨G,ae6 hN hJ ha⟩
 ·exact⟨G,ag9 hN hJ s (by omega)⟩
 ·exact WV hN hJ ha (v:=mY w s) Cq
 ·exact Wr hN (by omega) hJ 4 (ar _)
 ·exact⟨G,hJ⟩
end
end Go.Proofs.YtfcjngcnifdmnaaGreat
namespace Go.Proofs.YtfcjngcnifdmnaaGreat.Hy
open Vc Go
open Go.IntKind renaming i64->γ,u8->ξ,u32->iM
open Vc.V renaming any->δ,int->ε,sl->ζ,sb->ο,ptr->aj,φ->au,dat->aC,aa->aR,mp->aY,arr->bF,agg->fz
open Vc.D renaming val->η,sl->χ
open Go.Value renaming int->ν,map->kT,bool->mG,oneCell'->mH
open List renaming map->ae,drop->ax,take->ay,length_append->bn,getElem?_eq_getElem->bu,getElem?_eq_some_iff->bH,length_map->bT,take_length->cQ,length_take->cW,mem_singleton->da,replicate->dv,mem_append->dz,mem_map->dO,mem_cons->dS,Mem->dW,append_assoc->dX,getElem?_append_left->dY,take_of_length_le->eQ,getElem?_append_right->fk,getElem?_map->fy,mem_of_getElem?->fF,length_drop->gm,mem_cons_of_mem->gn,append_nil->gz,length_cons->gA,getD_eq_getElem?_getD->gO,getElem?_set_ne->gP,mem_append_left->gQ,length_singleton->gZ,drop_zero->iD,getElem?_eq_none->iE,getElem?_take_of_lt->iF,length_set->iG,getElem?_set_self->iN,mem_cons_self->iV,map_append->ja,range->jb,nil_append->jr,take_add_one->jt,flatten_cons->jF,getElem?_of_mem->jG,getElem?_drop->jW,map_cons->kv,length_nil->kP,mem_append_right->kQ,mem_filter->lu,ext_getElem?->mb,eq_nil_of_length_eq_zero->mD
open Vc.KO renaming row->ai,dead->aw,cells->aB,objs->fE
open Nat renaming le_refl->ar,zero_le->bj,beq->cX,zero_add->c9,eq_of_beq_eq_true->de,add_assoc->g_,lor->iW,lt_or_ge->kx,sub_zero->ly,le_trans->mc
open Option renaming some->bb,bind_eq_some_iff->lO,map->ng
open Int renaming toNat_natCast->cN,le_refl->dE
open Bool renaming and_eq_true->jo,not_eq_false'->kr,not_eq_true'->mA
set_option linter.unusedVariables false
set_option linter.unusedSimpArgs false
abbrev Call:=Int×Int×Int×Int
def ey (c:Call):Prop:=1<=c.1/\c.1<=3/\0<=c.2.2.1/\(c.2.2.2=-1∨c.2.2.1<=c.2.2.2)
def jc (a b:Call):Prop:=a.2.2.2≠-1/\a.2.2.2<b.2.2.1
def sA (c:Call):Prop:=c.1=3/\c.2.2.2=-1
def kf (c:Call) (v:Int):Int:=if c.1=1 then c.2.1 else if c.1=2 then 0 else v
def jZ (c:Call) (v:Int):Prop:=c.1=1∨c.1=2∨c.2.1=v
def bc (l:List Call) (k:Nat):Call:=l.getD k (0,0,0,0)
instance (c:Call):Decidable (ey c):=by unfold ey;infer_instance
instance (a b:Call):Decidable (jc a b):=by unfold jc;infer_instance
instance (c:Call):Decidable (sA c):=by unfold sA;infer_instance
instance (c:Call) (v:Int):Decidable (jZ c v):=by unfold jZ;infer_instance
def full (l:List Call) (m:Nat):Prop:=∀ k,k<l.length->(bc l k).2.2.2≠-1->m.testBit k=true
def free (l:List Call) (m k:Nat):Prop:=m.testBit k=false/\¬ sA (bc l k)/\∀ o,o<l.length->m.testBit o=false->¬ jc (bc l o) (bc l k)
def ph (m k:Nat):Nat:=m ||| 2 ^ k
theorem K8 (m k j:Nat):(ph m k).testBit j=(m.testBit j || decide (k=j)):=by
 unfold ph
 rw[Nat.testBit_or,Nat.testBit_two_pow]
def Ext (l:List Call):Nat->Int->List Nat->Prop
 |m,_,[]=>full l m
 |m,v,k::r=>k<l.length/\free l m k/\jZ (bc l k) v/\Ext l (ph m k) (kf (bc l k) v) r
def nh (l:List Call):List Nat->Int->List Nat->Prop
 |_,_,[]=>True
 |p,v,k::r=>k<l.length/\k ∉ p/\¬ sA (bc l k)/\jZ (bc l k) v/\(∀ j,j∈p->¬ jc (bc l k) (bc l j))/\nh l (p++[k]) (kf (bc l k) v) r
def My (l:List Call) (o:List Nat):Prop:=∀ k,k<l.length->ey (bc l k)/\((bc l k).2.2.2≠-1->k∈o)
def xS (l:List Call) (o:List Nat):Prop:=nh l [] 0 o/\My l o
theorem U1 {l:List Call}:∀{r p:List Nat} {v:Int} {j o:Nat},nh l p v r->o∈r->j∈p->¬ jc (bc l o) (bc l j)
 | [],p,v,j,o,h,ho,hj=>by cases ho
 |k::r,p,v,j,o,h,ho,hj=>by
  obtain⟨_,_,_,_,h5,h6⟩:=h
  rcases dS.1 ho with rfl | ho
  ·exact h5 j hj
  ·exact U1 h6 ho (gQ _ hj)
theorem ack {c:Call} (h:ey c):¬ jc c c:=by unfold ey jc at*;omega
theorem PG {l:List Call}:∀{r p:List Nat} {v:Int} {m:Nat},(∀ k,m.testBit k=true ↔ k∈p)->nh l p v r->My l (p++r)->Ext l m v r
 | [],p,v,m,hm,_,hc=>fun k hk he=>(hm k).2 (by simpa using(hc k hk).2 he)
 |k::r,p,v,m,hm,h,hc=>by
  obtain⟨h1,h2,h3,h4,h5,h6⟩:=h
  have rH:∀ j,m.testBit j=false ↔ j ∉ p:=fun j=>by rw[<- hm j];simp
  refine⟨h1,⟨(rH k).2 h2,h3,fun o ho hb ha=>?_⟩,h4,PG (p:=p++[k]) (fun j=>?_) h6 (by rw[dX];exact hc)⟩
  ·have hop:o ∉ p:=(rH o).1 hb
   by_cases hok:o=k
   ·subst hok;exact ack (hc o ho).1 ha
   ·have:o∈p++k::r:=(hc o ho).2 ha.1
    have:o∈r:=by
     rcases dz.1 this with h' | h'
     ·exact absurd h' hop
     ·rcases dS.1 h' with h' | h'
      ·exact absurd h' hok
      ·exact h'
    exact U1 h6 this (by simp) ha
  ·rw[K8,Bool.or_eq_true,hm j,dz,da,decide_eq_true_eq]
   exact or_congr Iff.rfl eq_comm
theorem U6 {l:List Call}:∀{r p:List Nat} {v:Int} {m:Nat},(∀ k,m.testBit k=true ↔ k∈p)->(∀ j,j∈p->∀ o,o<l.length->o ∉ p->¬ jc (bc l o) (bc l j))->Ext l m v r->
  nh l p v r/\(∀ k,k<l.length->(bc l k).2.2.2≠-1->k∈p++r)
 | [],p,v,m,hm,hp,h=>⟨trivial,fun k hk he=>by simpa using(hm k).1 (h k hk he)⟩
 |k::r,p,v,m,hm,hp,h=>by
  obtain⟨h1,⟨f1,f2,f3⟩,h4,h5⟩:=h
  have rH:∀ j,m.testBit j=false ↔ j ∉ p:=fun j=>by rw[<- hm j];simp
  have hk:k ∉ p:=(rH k).1 f1
  obtain⟨k1,k2⟩:=U6 (p:=p++[k]) (fun j=>by
   rw[K8,Bool.or_eq_true,hm j,dz,da,decide_eq_true_eq]
   exact or_congr Iff.rfl eq_comm) (fun j hj o ho hop=>by
   have Rj:o ∉ p:=fun h=>hop (gQ _ h)
   rcases dz.1 hj with hj | hj
   ·exact hp j hj o ho Rj
   ·rw[da]at hj
    subst hj
    exact f3 o ho ((rH o).2 Rj)) h5
  exact⟨⟨h1,hk,f2,h4,fun j hj=>hp j hj k h1 hk,k1⟩,by rw[dX]at k2;exact k2⟩
theorem wU {l:List Call}:(∀ c∈l,ey c) ↔ ∀ k,k<l.length->ey (bc l k):=by
 constructor
 ·intro h k hk
  have:bc l k=l[k]:=by unfold bc;rw[gO,bu hk];rfl
  rw[this];exact h _ (List.getElem_mem hk)
 ·intro h c hc
  obtain⟨k,hk,rfl⟩:=List.getElem_of_mem hc
  have:bc l k=l[k]:=by unfold bc;rw[gO,bu hk];rfl
  rw[<- this];exact h k hk
theorem Xc {l:List Call} {o:List Nat}:xS l o ↔ (∀ c∈l,ey c)/\Ext l 0 0 o:=by
 constructor
 ·rintro⟨h1,h2⟩
  exact⟨wU.2 fun k hk=>(h2 k hk).1,PG (p:=[]) (fun k=>by simp) h1 h2⟩
 ·rintro⟨h1,h2⟩
  obtain⟨k1,k2⟩:=U6 (p:=[]) (fun k=>by simp) (fun j hj=>by cases hj) h2
  exact⟨k1,fun k hk=>⟨wU.1 h1 k hk,k2 k hk⟩⟩
theorem U2 {l:List Call}:∀{r p:List Nat} {v:Int},nh l p v r->∀ k∈r,k<l.length
 | [],_,_,_,_,hk=>by cases hk
 |k::r,p,v,h,j,hj=>by
  rcases dS.1 hj with rfl | hj
  ·exact h.1
  ·exact U2 h.2.2.2.2.2 j hj
end Go.Proofs.YtfcjngcnifdmnaaGreat.Hy
namespace Go.Proofs.YtfcjngcnifdmnaaGreat
open Vc Go
open Go.IntKind renaming i64->γ,u8->ξ,u32->iM
open Vc.V renaming any->δ,int->ε,sl->ζ,sb->ο,ptr->aj,φ->au,dat->aC,aa->aR,mp->aY,arr->bF,agg->fz
open Vc.D renaming val->η,sl->χ
open Go.Value renaming int->ν,map->kT,bool->mG,oneCell'->mH
open List renaming map->ae,drop->ax,take->ay,length_append->bn,getElem?_eq_getElem->bu,getElem?_eq_some_iff->bH,length_map->bT,take_length->cQ,length_take->cW,mem_singleton->da,replicate->dv,mem_append->dz,mem_map->dO,mem_cons->dS,Mem->dW,append_assoc->dX,getElem?_append_left->dY,take_of_length_le->eQ,getElem?_append_right->fk,getElem?_map->fy,mem_of_getElem?->fF,length_drop->gm,mem_cons_of_mem->gn,append_nil->gz,length_cons->gA,getD_eq_getElem?_getD->gO,getElem?_set_ne->gP,mem_append_left->gQ,length_singleton->gZ,drop_zero->iD,getElem?_eq_none->iE,getElem?_take_of_lt->iF,length_set->iG,getElem?_set_self->iN,mem_cons_self->iV,map_append->ja,range->jb,nil_append->jr,take_add_one->jt,flatten_cons->jF,getElem?_of_mem->jG,getElem?_drop->jW,map_cons->kv,length_nil->kP,mem_append_right->kQ,mem_filter->lu,ext_getElem?->mb,eq_nil_of_length_eq_zero->mD
open Vc.KO renaming row->ai,dead->aw,cells->aB,objs->fE
open Nat renaming le_refl->ar,zero_le->bj,beq->cX,zero_add->c9,eq_of_beq_eq_true->de,add_assoc->g_,lor->iW,lt_or_ge->kx,sub_zero->ly,le_trans->mc
open Option renaming some->bb,bind_eq_some_iff->lO,map->ng
open Int renaming toNat_natCast->cN,le_refl->dE
open Bool renaming and_eq_true->jo,not_eq_false'->kr,not_eq_true'->mA
set_option linter.unusedVariables false
set_option linter.unusedSimpArgs false
set_option maxRecDepth 100000
set_option maxHeartbeats 2000000
def nj (c:dy):Hy.Call:=(c.o.kd,c.v,c.bg,c.en)
def ni (bk:Int) (c:dy):Bool:=decide (c.o.bk=bk/\c.o.kd≠4)
def eS (bk:Int) (cs:List dy):List dy:=cs.filter (ni bk)
def T9 (c:dy):Prop:=c.o.kd=3/\c.en=-1
structure EF (m:List dy) (o:Op) (k:Nat):Prop where
 h:∃ c,m[k]? =some c/\c.o=o/\¬ T9 c
open Classical in
noncomputable def uM (m:List dy) (o:Op):Option Nat:=if h:∃ k,EF m o k then some h.choose else none
theorem CD {m:List dy} {o:Op} {k:Nat} (h:uM m o=some k):EF m o k:=by
 unfold uM at h
 split at h
 ·rename_i hx
  cases h;exact hx.choose_spec
 ·cases h
theorem RJ {m:List dy} {o:Op} (h:uM m o=none) {k:Nat}:¬ EF m o k:=fun hk=>by
 unfold uM at h
 rw[dif_pos ⟨k,hk⟩]at h;cases h
noncomputable def mU (m:List dy) (L:List Op):List Nat:=L.filterMap (uM m)
theorem F9 {m:List dy} {k:Nat} {c:dy} (h:m[k]? =some c):Hy.bc (m.map nj) k=nj c:=by
 unfold Hy.bc
 rw[gO,fy,h];rfl
section
variable {vs:List Vw} {G:Gh} {cs:List dy} {now:Int} {bk:Int}
theorem Gl {c:dy} (h:c∈eS bk cs):c∈cs/\c.o.bk=bk/\c.o.kd≠4:=by
 unfold eS ni at h
 rw[lu,decide_eq_true_eq]at h
 exact h
theorem Y5 (h:jV vs G cs now) {i j:Nat} {a b:dy} (hi:(eS bk cs)[i]? =some a) (hj:(eS bk cs)[j]? =some b) (e:a.o=b.o):i=j:=by
 obtain⟨li,ei⟩:=bH.1 hi
 obtain⟨lj,ej⟩:=bH.1 hj
 have hp:=List.pairwise_iff_getElem.1 (h.key.filter (ni bk))
 rcases Nat.lt_trichotomy i j with c | c | c
 ·have:=hp i j li lj c
  exact absurd (show((eS bk cs)[i]).o.nm=((eS bk cs)[j]).o.nm by rw[ei,ej,e]) (this (show((eS bk cs)[i]).o.cl=((eS bk cs)[j]).o.cl by rw[ei,ej,e]))
 ·exact c
 ·have:=hp j i lj li c
  exact absurd (show((eS bk cs)[j]).o.nm=((eS bk cs)[i]).o.nm by rw[ei,ej,e]) (this (show((eS bk cs)[j]).o.cl=((eS bk cs)[i]).o.cl by rw[ei,ej,e]))
structure FF (vs:List Vw) (G:Gh) (L:List Op):Prop where
 lo:lN L
 ow:∃ e,L=G.lg e
 cm:∀ e n,Cm vs G e n->n<=L.length/\L.take n=(G.lg e).take n
theorem ag5 (hG:GI vs G) (hV:VI vs G) (hl:∀ e,lN (G.lg e)):∃ L,FF vs G L:=by
 have key:∀ d:Nat,(∀ e,G.act e->e<=(d:Int))->∃ L,FF vs G L:=fun d=>by
  induction d with
  |zero=>exact fun h=>⟨G.lg 0,hl 0,⟨0,rfl⟩,fun e n c=>by have:=h e c.a;have:=(hG.a0 e c.a).1;omega⟩
  |succ d ih=>
   intro h
   by_cases ha:G.act ((d+1:Nat):Int)
   ·refine⟨G.lg ((d+1:Nat):Int),hl _,⟨_,rfl⟩,fun e n c=>?_⟩
    have he:=h e c.a
    rcases(by omega:e=((d+1:Nat):Int)∨e<((d+1:Nat):Int))with q | q
    ·subst q;exact⟨c.nl,rfl⟩
    ·obtain⟨k1,k2⟩:=GN hG hV c _ _ (ar _) ha q
     exact⟨mc k1 (hG.bl _ ha),k2⟩
   ·refine ih fun e a=>?_
    have:=h e a
    rcases(by omega:e=((d+1:Nat):Int)∨e<=(d:Int))with q | q
    ·exact absurd (by rw[<- q];exact a) ha
    ·exact q
 exact key vs.length fun e a=>(hG.a0 e a).2
theorem WK {v:Int} {o:Op} (h:o.bk≠bk∨(o.kd≠1/\o.kd≠2)):sB bk v o=v:=by
 unfold sB
 split
 ·rcases h with h | h
  ·exact absurd ‹_› h
  ·rw[if_neg h.1,if_neg h.2]
 ·rfl
theorem Ua (h:jV vs G cs now) {L:List Op} (hT:FF vs G L):∀(S P:List Op),L=P++S->Hy.nh ((eS bk cs).map nj) (mU (eS bk cs) P) (jS bk P) (mU (eS bk cs) S)
 | [],P,_=>trivial
 |o::S,P,hL=>by
  have ih:=Ua h hT S (P++[o]) (by rw[hL,dX];rfl)
  have df:L[P.length]? =some o:=by rw[hL];simp
  have hoL:o∈L:=fF df
  obtain⟨eo,heo⟩:=hT.ow
  obtain⟨c0,hc0,e0⟩:=h.ow eo o (heo ▸ hoL)
  cases hx:uM (eS bk cs) o with
  |none=>
   have e1:mU (eS bk cs) (o::S)=mU (eS bk cs) S:=by unfold mU;rw[List.filterMap_cons_none hx]
   have e2:mU (eS bk cs) (P++[o])=mU (eS bk cs) P:=by unfold mU;rw[List.filterMap_append,List.filterMap_cons_none hx];simp
   have e3:jS bk (P++[o])=jS bk P:=by
    rw[xo]
    refine WK ?_
    by_cases c1:o.bk=bk
    ·right
     by_cases c2:o.kd=4
     ·omega
     ·have hm:c0∈eS bk cs:=by
       unfold eS ni
       rw[lu,decide_eq_true_eq]
       exact⟨hc0,by rw[e0];exact c1,by rw[e0];exact c2⟩
      obtain⟨k,hk⟩:=jG hm
      have hop:T9 c0:=Classical.byContradiction fun t=>RJ hx ⟨c0,hk,e0,t⟩
      have:=hop.1
      rw[e0]at this
      omega
    ·exact .inl c1
   rw[e1];rw[e2,e3]at ih;exact ih
  |some k=>
   obtain⟨c,hk,rfl,hop⟩:=CD hx
   have hc:=Gl (fF hk)
   have e1:mU (eS bk cs) (c.o::S)=k::mU (eS bk cs) S:=by unfold mU;rw[List.filterMap_cons_some hx]
   have e2:mU (eS bk cs) (P++[c.o])=mU (eS bk cs) P++[k]:=by unfold mU;rw[List.filterMap_append,List.filterMap_cons_some hx];simp
   have hat:=F9 hk
   obtain⟨i,hi⟩:=jG hc.1
   have hs:=h.sh i c hi
   have Iw:=h.ln
   have hil:=(bH.1 hi).1
   have kF:=(bH.1 hk).1
   have hpos:∀ j,L[j]? =some c.o->j=P.length:=fun j hj=>hT.lo.uniq hj df hc.2.2
   have wo:c.en≠-1->∃ n,P.length<n/\n<=L.length/\(∀ c'∈cs,c'.o∈L.take n->c'.bg<=c.en)/\(c.o.kd=3->P=L.take (n - 1)/\c.v=jS bk (L.take n)):=fun he=>by
    obtain⟨e,n,c1,c2,c3,c4⟩:=h.en c hc.1 he hc.2.2
    obtain⟨k1,k2⟩:=hT.cm e n c1
    have n1:=c1.n1
    rw[<- k2]at c2 c3 c4
    obtain⟨j,hj⟩:=jG c2
    have hjn:=(bH.1 hj).1
    rw[cW]at hjn
    have hj':=hpos j (by rw[iF (by omega)]at hj;exact hj)
    refine⟨n,by omega,k1,c3,fun t=>?_⟩
    obtain⟨d1,d2⟩:=c4 t
    have d1':L[n - 1]? =some c.o:=by
     have:(L.take n)[n - 1]? =((G.lg e).take n)[n - 1]?:=by rw[k2]
     rw[iF (by omega),iF (by omega)]at this
     rw[this];exact d1
    have:=hpos _ d1'
    exact⟨by rw[this,hL,List.take_left],by rw[d2,hc.2.1]⟩
   rw[e1]
   refine⟨by rw[bT];exact kF,fun hm=>?_,?_,?_,fun j hj ha=>?_,?_⟩
   ·obtain⟨o',ho',hx'⟩:=List.mem_filterMap.1 hm
    obtain⟨c',hk',e',_⟩:=CD hx'
    rw[hk]at hk';cases hk'
    subst e'
    obtain⟨j,hj⟩:=jG ho'
    have hjl:=(bH.1 hj).1
    have:=hpos j (by rw[hL,dY hjl];exact hj)
    omega
   ·rw[hat];exact hop
   ·rw[hat]
    have k0:=hs.k0
    have k1:=hs.k1
    have k4:=hc.2.2
    show c.o.kd=1∨c.o.kd=2∨c.v=jS bk P
    rcases(by omega:c.o.kd=1∨c.o.kd=2∨c.o.kd=3)with q | q | q
    ·exact .inl q
    ·exact .inr (.inl q)
    ·obtain⟨n,n1,n2,n3,n4⟩:=wo (fun t=>hop ⟨q,t⟩)
     obtain⟨p1,p2⟩:=n4 q
     refine .inr (.inr ?_)
     have e3:L.take n=P++[c.o]:=by
      have rL:P.length=n - 1:=by
       have:=congrArg List.length p1
       rw[cW]at this;omega
      rw[hL,show n=P.length+1 by omega,List.take_append,eQ (by omega)]
      simp
     rw[p2,e3,xo,WK (.inr ⟨by omega,by omega⟩)]
   ·obtain⟨o',ho',hx'⟩:=List.mem_filterMap.1 hj
    obtain⟨c',hk',e',_⟩:=CD hx'
    rw[hat,F9 hk']at ha
    obtain⟨a1,a2⟩:=ha
    obtain⟨n,n1,n2,n3,_⟩:=wo a1
    have a2:c.en<c'.bg:=a2
    have:=n3 c' (Gl (fF hk')).1 (by
     rw[e',hL,List.take_append]
     exact gQ _ (by rw[eQ (by omega)];exact ho'))
    omega
   ·have hv:Hy.kf (Hy.bc ((eS bk cs).map nj) k) (jS bk P)=jS bk (P++[c.o]):=by
     rw[hat,xo]
     unfold Hy.kf sB nj
     dsimp only
     rw[if_pos hc.2.1]
     by_cases q:c.o.kd=1
     ·rw[if_pos q,if_pos q,(hs.w q).1,(hs.w q).2,J3 (by omega)]
     ·rw[if_neg q,if_neg q]
    rw[hv,<- e2];exact ih
theorem ai8 (hG:GI vs G) (hV:VI vs G) (h:jV vs G cs now) (bk:Int):∃ r,Hy.xS ((eS bk cs).map nj) r:=by
 obtain⟨L,hT⟩:=ag5 hG hV h.lo
 refine⟨mU (eS bk cs) L,Ua h hT L [] rfl,fun k hk=>?_⟩
 rw[bT]at hk
 have hg:(eS bk cs)[k]? =some (eS bk cs)[k]:=bu hk
 generalize (eS bk cs)[k]=c at hg
 have hc:=Gl (fF hg)
 obtain⟨i,hi⟩:=jG hc.1
 have hs:=h.sh i c hi
 have ht:=h.tm c hc.1
 rw[F9 hg]
 have k0:=hs.k0
 have k1:=hs.k1
 have k4:=hc.2.2
 refine⟨⟨k0,by show c.o.kd<=3;omega,ht.b0,ht.e.imp id (fun t=>t.1)⟩,fun he=>?_⟩
 have he:c.en≠-1:=he
 obtain⟨e,n,c1,c2,_⟩:=h.en c hc.1 he k4
 obtain⟨m1,m2⟩:=hT.cm e n c1
 rw[<- m2]at c2
 refine List.mem_filterMap.2 ⟨c.o,List.mem_of_mem_take c2,?_⟩
 cases hx:uM (eS bk cs) c.o with
 |none=>exact absurd ⟨c,hg,rfl,fun t=>he t.2⟩ (RJ hx (k:=k))
 |some k'=>
  obtain⟨c',hk',e',_⟩:=CD hx
  rw[Y5 h hk' hg e']
end
def o5 (i:Nat):List ι:=(jb i).map fun(k:Nat)=>newR (k:Int) 5 false 0 0 jT []
def kc (i:Nat):Wd:=⟨o5 i,(o5 i).map gD,[⟨5,1,1,[0,1],[]⟩],[],[],[0,0,0],0,true⟩
structure xG where
 i:Nat
 W:Wd
 q:List (Nat×Nat)
 A:List (Sg×KB)
structure Ao (x:xG):Prop where
 le:x.i<=4
 W:x.W=kc x.i
 p:PW x.A x.q x.W.R
abbrev zL (w:Wd) (q:List (Nat×Nat)) (A:List (Sg×KB)):KB:=[fE A,km 2 w,kL q,la w,kM w,ki w,l5 w,lE w]
def mdN:List jX:=[.cell 1 0 30 1,.cell 1 1 23 1,.cell 1 3 73 3,.cell 1 4 61 10]
abbrev Jn:LI where
 α:={x:xG // Ao x}
 live:=[1,2]
 dT:=mdN
 st x:=([aj 1 0,.int γ (x.1.i:Int)],zL x.1.W x.1.q x.1.A)
 μ x:=4 - x.1.i
def Sx:FuncId->Nat->Option LI
 | 8,3=>some Jn
 |_,_=>none
def J1 (S:aE):aE:=fun args kb K=>match kb with
 | []=>S args [fE []] K
 |kb=>S args kb K
def Ff:aE:=fun args kb K=>match args,kb with
 | [],[fE A]=>∃ l,cF A l/\∀ W,W=kc 4->∀ q A',PW A' q W.R->K (aj 1 0) (zL W q A')
 |_,_=>False
theorem ah4 (A:List (Sg×KB)) (K:V->KB->Prop) (aq:
 let ω:=η (ν γ 1);let θ:=[η (ν γ 0)];2<=2/\
 At Jn ([aj 1 0,ε γ 0],[fE A,aB [ζ 2 0 0,ζ 3 0 0,ζ 4 0 1,ζ 5 0 0,ζ 6 0 0,ζ 7 0 3,ε γ 0,ο true],ai 30 1 [],ai 23 1 [],ai 49 5 [[η (ν γ 5),ω,ω,χ 1 [θ,[ω]],χ 1 []]],ai 73 3 [],ai 61 10 [],ai 3 1 [θ,θ,θ]])/\
 ∀(i:{x:xG // Ao x }),let bp:=ai 49 5 (ae eY i.val.W.vs);let aU:=ai 61 10 (ae cL i.val.W.cs);let aJ:=ai 73 3 (ae dG i.val.W.ψ);let aN:=ai 3 1 (ints γ i.val.W.bt);let av:=(ae bO i.val.W.dk);(decide ((↑i.val.i:Int)<4)=true->
 ∃(A:List (Sg×KB)),∃(l:List (Nat×ι)),xE [fE i.val.A] A/\
 cF A l/\
 ∀(b:Nat) (A':List (Sg×KB)),cF A' (l++[(b,newR (↑i.val.i:Int) 5 false 0 0 jT [])])->
 (false=true->
 K (δ (Value.pointer none)) [fE A'])/\
 (false=false->
 1<=1/\
 i.val.W.R.length<=(ae eB i.val.q).length/\
 (i.val.W.R.length+1)*8<=140737488355328/\
 True/\
 ∃(l:List (Nat×ι)),∃(i_1:Nat),∃(b_1:Nat),∃(R:ι),cF A' l/\
 l[i_1]? =some (b_1,R)/\
 pv b=pv b_1/\
 jI []/\
 bB R/\
 jE R.ep/\
 ∀(A':List (Sg×KB)),cF A' (l.set i_1 (b_1,R))->
 True/\
 1<=1/\
 i.val.W.dk.length<=av.length/\
 (i.val.W.dk.length+1)*24<=140737488355328/\
 Nx Jn i ([aj 1 0,ε γ (γ.wrap ((↑i.val.i:Int)+1))],[fE A',aB [ζ 2 0 (i.val.W.R.length+1),ζ 3 0 (i.val.W.dk.length+1),ζ 4 0 i.val.W.vs.length,ζ 5 0 i.val.W.ψ.length,ζ 6 0 i.val.W.cs.length,ζ 7 0 i.val.W.bt.length,ε γ i.val.W.now,ο i.val.W.ok],ai 30 1 (ay i.val.W.R.length (ae eB i.val.q)++[[η (pv b)]]),ai 23 1 (ay i.val.W.dk.length av++[[χ 1 (ints ξ (gD R))]]),bp,aJ,aU,aN])))/\
 (decide ((↑i.val.i:Int)<4)=false->
 K (aj 1 0) [fE i.val.A,aB [ζ 2 0 i.val.W.R.length,ζ 3 0 i.val.W.dk.length,ζ 4 0 i.val.W.vs.length,ζ 5 0 i.val.W.ψ.length,ζ 6 0 i.val.W.cs.length,ζ 7 0 i.val.W.bt.length,ε γ i.val.W.now,ο i.val.W.ok],ai 30 1 (ae eB i.val.q),ai 23 1 av,bp,aJ,aU,aN])
 ):aI Tryz.prog FO (Sx 8) 8 [] [fE A] (dp 1 K):=by apply Eq.mp (a:=aq);kernel_rfl
theorem acs {P:Program} {f:FuncId} {S:aE} (hS:aO P f S):aO P f (J1 S):=fun args kb K h σ E W xs hi hd=>by
 unfold J1 at h
 split at h
 ·have hl:=hi.len
  have hσ:σ=[]:=List.length_eq_zero_iff.1 (by rw[hl];rfl)
  subst hσ
  have hno:∀ b,¬ dc ([⟨0,0,0⟩]:Sg) [fE []] b:=by
   rintro b ⟨i,r,o,h1,h2,h3⟩
   cases i with
   |zero=>
    simp at h2;subst h2
    obtain⟨a,ha,_⟩:=h3
    cases ha
   |succ i=>simp at h2
  have hs:Step [] E [] W ([⟨0,0,0⟩]:Sg) E [fE []] W:=by
   refine⟨⟨rfl,fun i r o h1 h2=>?_,fun i j r r' o o' b hij h1 h2 h3 h4 h5 h6=>(hno b ⟨i,r,o,h1,h2,h5⟩).elim,hi.fe,fun b hb=>(hno b hb).elim⟩,ue.refl _ _,⟨_,rfl⟩,EH.le.refl E,fun b hb=>(hno b hb).elim,fun b o hb=> .inl hb⟩
   cases i with
   |zero=>
    simp at h2;subst h2
    exact⟨fun a ha=>(by cases ha),fun i j a a' b hij h=>by simp at h⟩
   |succ i=>simp at h2
  have hd2:az ([⟨0,0,0⟩]:Sg) E args xs:=by
   have:=az.mono (σ:=[]) (τ:=[⟨0,0,0⟩]) (EH.le.refl E) hd
   simpa using this
  refine(hS _ _ _ h _ E W xs hs.inv hd2).mono ?_
  rintro e W' ⟨v,r,σ',E',kb',h1,h2,h3,h4⟩
  exact⟨v,r,σ',E',kb',h1,hs.trans h2,h3,h4⟩
 ·exact hS _ _ _ h σ E W xs hi hd
theorem SB (i:Nat):o5 (i+1)=o5 i++[newR (i:Int) 5 false 0 0 jT []]:=by unfold o5;rw[List.range_succ,ja];rfl
theorem yW (i:Nat):(o5 i).length=i:=by unfold o5;rw[bT,List.length_range]
theorem ZH (l:List (Nat×ι)):CU l [] []:=⟨rfl,fun i p h=>by simp at h,List.Pairwise.nil⟩
theorem CU.app {l:List (Nat×ι)} {q:List (Nat×Nat)} {R:List ι} (h:CU l q R) (b:Nat) (r:ι):CU (l++[(b,r)]) (q++[(l.length,b)]) (R++[r]):=by
 have hlt:∀(j:Nat) (p:Nat×Nat),q[j]? =some p->p.1<l.length:=fun j p hj=>by
  obtain⟨_,_,h2⟩:=h.a j p hj
  exact(bH.1 h2).1
 refine⟨by simp [h.len],fun j p hj=>?_,?_⟩
 ·rcases Nat.lt_trichotomy j q.length with hm | hm | hm
  ·rw[dY hm]at hj
   obtain⟨r2,h1,h2⟩:=h.a j p hj
   exact⟨r2,by rw[dY (by rw[<- h.len];exact hm)];exact h1,by rw[dY (hlt j p hj)];exact h2⟩
  ·subst hm
   rw[fk (ar _)]at hj
   simp at hj;subst hj
   exact⟨r,by rw[fk (by rw[h.len];exact ar _)];simp [h.len],by rw[fk (ar _)];simp⟩
  ·rw[iE (by simp;omega)]at hj;cases hj
 ·rw[ja]
  refine List.nodup_append.2 ⟨h.nd,by simp,fun x hx y hy=>?_⟩
  rw[kv,List.map_nil,da]at hy
  obtain⟨p,hp,rfl⟩:=dO.1 hx
  obtain⟨j,hj⟩:=jG hp
  have:=hlt j p hj
  rw[hy];show p.1≠l.length;omega
theorem ac6:aO Tryz.prog 8 Ff:=lF NP mixed (fun args kb K h=>by
 unfold Ff at h;split at h<;>try exact h.elim
 rename_i A
 obtain⟨l,hA,h⟩:=h
 refine⟨Sx 8,ah4 A K ⟨ar _,At.mk' (⟨⟨0,kc 0,[],A⟩,bj _,rfl,⟨l,hA,ZH l⟩⟩:{x:xG // Ao x}) rfl,?_⟩⟩
 rintro⟨⟨i,W,q1,A1⟩,hi,hW,P1⟩
 dsimp only at hi hW P1 ⊢
 subst hW
 obtain⟨l1,hA1,mg⟩:=P1.h
 have Qu:(kc i).R.length=i:=yW i
 have hDl:(kc i).dk.length=i:=by show((o5 i).map gD).length=i;rw[bT,yW]
 have Rm:q1.length=i:=by rw[mg.len];exact yW i
 rw[Qu,hDl]
 refine⟨fun hlt=>⟨A1,l1,⟨.inr rfl⟩,hA1,fun b A2 p2=>⟨fun t=>(by cases t),fun _=>⟨ar _,by rw[bT,Rm];exact ar _,by omega,trivial,_,l1.length,b,newR (i:Int) 5 false 0 0 jT [],p2,by simp,rfl,⟨rfl⟩,C7 _ _ _ _ (dE _) (by omega) rfl Mk Kc,⟨by show(0:Int)<=_;omega⟩,fun A3 p3=>⟨trivial,ar _,by rw[bT,hDl];exact ar _,by omega,?_⟩⟩⟩⟩,fun hge=>?_⟩
 ·have hlt:i<4:=by rw[decide_eq_true_eq]at hlt;omega
  have dQ:(l1++[(b,newR (i:Int) 5 false 0 0 jT [])]).set l1.length (b,newR (i:Int) 5 false 0 0 jT [])=l1++[(b,newR (i:Int) 5 false 0 0 jT [])]:=by
   rw[List.set_append_right _ _ (ar _),Nat.sub_self];rfl
  rw[dQ]at p3
  refine Nx.mk' (⟨⟨i+1,kc (i+1),q1++[(l1.length,b)],A3⟩,hlt,rfl,⟨_,p3,by show CU _ _ (o5 (i+1));rw[SB];exact mg.app b _⟩⟩:{x:xG // Ao x}) ?_ (by show 4 - (i+1)<4 - i;omega)
  have e1:(kc (i+1)).R.length=i+1:=yW _
  have e2:(kc (i+1)).dk.length=i+1:=by show((o5 (i+1)).map gD).length=_;rw[bT,yW]
  have e3:(kc (i+1)).dk.map bO=ay i ((kc i).dk.map bO)++[[χ 1 (ints ξ (gD (newR (i:Int) 5 false 0 0 jT [])))]]:=by
   rw[eQ (by rw[bT,hDl];exact ar _)]
   show((o5 (i+1)).map gD).map bO=((o5 i).map gD).map bO++_
   rw[SB,ja,ja];rfl
  have e4:(q1++[(l1.length,b)]).map eB=ay i (q1.map eB)++[[η (pv b)]]:=by
   rw[eQ (by rw[bT,Rm];exact ar _),ja];rfl
  show(_,_)=(_,zL (kc (i+1)) (q1++[(l1.length,b)]) A3)
  unfold zL km la kL
  rw[e1,e2,e3,e4,bE (by omega) (by omega)]
  rfl
 ·have hi:i=4:=by rw[decide_eq_false_iff_not]at hge;omega
  subst hi
  have:=h _ rfl q1 A1 P1
  unfold zL km at this
  rw[Qu,hDl]at this
  exact this)
def Ni:aE:=J1 Ff
theorem ac5:aO Tryz.prog 8 Ni:=acs ac6
theorem C3:WI 1 (kc 4):=by
 have hr:∀ i,i<4->κ (kc 4) i=newR (i:Int) 5 false 0 0 jT []:=fun i hi=>by
  rcases i with _ | _ | _ | _ | i
  ·rfl
  ·rfl
  ·rfl
  ·rfl
  ·omega
 refine⟨rfl,rfl,fun i hi=>?_,fun i hi=>?_,fun v hv=>?_,by decide,by decide,fun l hl=>(by cases hl),by decide,fun c hc=>(by cases hc),by decide,rfl,fun n hn=>?_,by decide,by decide⟩
 ·rw[hr i hi]
  exact⟨⟨C7 _ _ _ _ (dE _) (by omega) rfl Mk Kc,rfl,dE _,by show(0:Int)<=1;omega,by show(0:Int)<=1;omega,bj _,dE _,by show(0:Int)<=1;omega,fun p hp=>(by cases hp),fun d hd=>(by cases hd),fun o ho=>by simp [newR,ci]at ho⟩,rfl,rfl,rfl,rfl⟩
 ·rw[hr i hi]
  rcases i with _ | _ | _ | _ | i
  ·rfl
  ·rfl
  ·rfl
  ·rfl
  ·omega
 ·have hv:v∈[(⟨5,1,1,[0,1],[]⟩:Vw)]:=hv
  rw[da]at hv;subst hv
  exact⟨by decide,by decide,by decide,by decide,by decide,by decide⟩
 ·have hn:n∈[(0:Int),0,0]:=hn
  simp only[dS,List.not_mem_nil,or_false]at hn;omega
def nP (s:Sp):List D:=[dn γ s.d,dn γ s.dj,dn γ s.n,dn γ s.k,db s.ag]
noncomputable def ig (l:List Sp):Wd:=l.foldl eE (kc 4)
structure Ak (l:List Sp) (x:kA):Prop where
 le:x.i<=l.length
 W:x.W=ig (l.take x.i)
 p:PW x.A x.q x.W.R
def IZ:FuncId->Option du
 | 8=>some ⟨[.ic],Ni⟩
 | 9=>some ⟨[.ic],WM GStep⟩
 | 7=>some ⟨[.ic],EU⟩
 | 12=>some ⟨[.fL 1,.fL 1],AT⟩
 |f=>xc f
theorem abv:dD Tryz.prog IZ:=fun f k h=>by
 unfold IZ at h
 split at h
 ·cases h;exact ac5
 ·cases h;exact TI
 ·cases h;exact acv
 ·cases h;exact J_
 ·exact DG _ _ h
theorem Qa:∀(l:List Sp) {w:Wd} {T:Int},WI T w->T+3*(l.length:Int)<=690->WI (T+3*(l.length:Int)) (l.foldl eE w)
 | [],w,T,h,_=>h.mono (by simp)
 |s::l,w,T,h,ht=>by
  rw[gA]at ht
  exact(Qa l (sn h (by omega) s).2 (by omega)).mono (by rw[gA];omega)
theorem K1 {l:List Sp} (h:l.length<=80):WI (1+3*(l.length:Int)) (ig l):=Qa l C3 (by omega)
theorem afw {l:List Sp} {i:Nat} (h:i<l.length):ig (l.take (i+1))=eE (ig (l.take i)) l[i]:=by
 unfold ig
 rw[jt,bu h,List.foldl_append];rfl
theorem afF {α:Type} {l:List α} {i:Nat} {x:α} (h:l[i]? =some x):l.set i x=l:=by
 obtain⟨h1,h2⟩:=bH.1 h
 rw[<- h2,List.set_getElem_self]
theorem YH {α:Type} {l:List α} {i:Nat} {x:α} (y:α) (h:l[i]? =some x):(l++[y])[i]? =some x:=by
 rw[dY (bH.1 h).1];exact h
theorem CU.grow {l:List (Nat×ι)} {q:List (Nat×Nat)} {R:List ι} (h:CU l q R) (y:Nat×ι):CU (l++[y]) q R:=
 ⟨h.len,fun j p hj=>by
  obtain⟨r2,h1,h2⟩:=h.a j p hj
  exact⟨r2,h1,YH y h2⟩,h.nd⟩
theorem Zx {x:List D} (h:gY [.int γ,.int γ,.int γ,.int γ,.bool] x):∃ a:Sp,x=nP a/\True:=by
 simp only[gY,tX]at h
 obtain⟨_,_,rfl,⟨a,rfl,_⟩,_,_,rfl,⟨b,rfl,_⟩,_,_,rfl,⟨c,rfl,_⟩,_,_,rfl,⟨d,rfl,_⟩,_,_,rfl,⟨e,rfl⟩,rfl⟩:=h
 exact⟨⟨a,b,c,d,e⟩,rfl,trivial⟩
def gh0:Gh:=⟨fun _=>False,fun _=>0,fun _=>0,fun _=>[],fun _ _=>0⟩
theorem ab9:WJ gh0 (kc 4):=by
 refine⟨⟨fun e a=>a.elim,fun e _=>rfl,fun x e _=>rfl,fun e a=>a.elim,fun e a=>a.elim,fun e a=>a.elim,fun e a=>a.elim,fun e a=>a.elim,fun e a=>a.elim,fun x e=>ar _,fun e a=>a.elim⟩,⟨fun i v hi=>?_,fun v hv=>?_,fun v hv=>?_,fun i v v' h1 h2=>?_⟩,fun i hi=>?_,fun l hl=>(by cases hl),⟨List.Pairwise.nil,bj _,dE _,fun i c hi=>(by have hi:([]:List dy)[i]? =some c:=hi;simp at hi),fun c hc=>(by cases hc),fun e o ho=>(by cases ho),fun e=> .nil,fun c hc=>(by cases hc)⟩,rfl⟩
 ·have hi:[(⟨5,1,1,[0,1],[]⟩:Vw)][i]? =some v:=hi
  rcases i with _ | i
  ·cases hi;exact⟨rfl,rfl⟩
  ·simp at hi
 ·have hv:v∈[(⟨5,1,1,[0,1],[]⟩:Vw)]:=hv
  rw[da]at hv;subst hv;decide
 ·have hv:v∈[(⟨5,1,1,[0,1],[]⟩:Vw)]:=hv
  rw[da]at hv;subst hv;decide
 ·have h2:[(⟨5,1,1,[0,1],[]⟩:Vw)][i+1]? =some v':=h2
  simp at h2
 ·have hr:κ (kc 4) i=newR (i:Int) 5 false 0 0 jT []:=by
   rcases i with _ | _ | _ | _ | i
   ·rfl
   ·rfl
   ·rfl
   ·rfl
   ·omega
  rw[hr]
  exact⟨rfl,rfl,rfl,rfl,dE _,dE _,fun h=>absurd rfl h,dE _,rfl,rfl,fun _ _=>rfl,fun e a=>a.elim,.inl rfl,fun L hL=>qI hL⟩
theorem SC:jH (kc 4):=⟨fun c hc=>by cases hc⟩
theorem Qb:∀(l:List Sp) {w:Wd} {T:Int} {G:Gh},WI T w->jH w->WJ G w->T+3*(l.length:Int)<=690->∃ G',WJ G' (l.foldl eE w)
 | [],w,T,G,_,_,h,_=>⟨G,h⟩
 |s::l,w,T,G,hw,hn,h,ht=>by
  rw[gA]at ht
  obtain⟨G',h'⟩:=agf hw (by omega) hn h s
  exact Qb l (sn hw (by omega) s).2 (VJ hn hw s) h' (by omega)
theorem U0 {l:List Sp} (h:l.length<=120):∃ G,WJ G (ig l):=Qb l C3 SC ab9 (by omega)
def Dq (R:ι):Prop:=∀ L o,R.ld=some L->L.cur=some o->(aP R).all L.cy=false
structure Gs (ac:Int->Int->Prop) (R R':ι):Prop where
 ep:R.ep<=R'.ep
 ins:∀ L',R'.ld=some L'->∀ x,L'.ins x=true->(∃ L,R.ld=some L/\R.ep=R'.ep/\L.ins x=true)∨ac x R'.ep
 out:∀ p∈R'.out,p∈R.out∨bm p.m 1<=R'.ep
section
variable {ac:Int->Int->Prop} {R R1:ι}
theorem rB (h:R.ld=none):Dq R:=fun L o h1=>qI (h.symm.trans h1)
theorem Gs.same (e1:R1.ep=R.ep) (e2:R1.ld=R.ld) (ho:∀ p∈R1.out,p∈R.out∨bm p.m 1<=R.ep):Gs ac R R1:=
 ⟨by rw[e1];exact dE _,fun L' h x hx=> .inl ⟨L',e2 ▸ h,e1.symm,hx⟩,by rw[e1];exact ho⟩
theorem Gs.refl (R:ι):Gs ac R R:=.same rfl rfl fun p hp=> .inl hp
theorem Gs.no (e1:R.ep<=R1.ep) (e2:R1.ld=none) (ho:∀ p∈R1.out,p∈R.out∨bm p.m 1<=R1.ep):Gs ac R R1:=
 ⟨e1,fun L' h=>qI (e2.symm.trans h),ho⟩
theorem Gs.snd (h:Gs ac R R1) (to kd:Int) (n b:List Int) (l:List (List Int)):Gs ac R (iz R1 to kd n b l):=
 ⟨h.ep,h.ins,fun p hp=>by
  have hp:p∈R1.out++[⟨to,⟨kd,R1.id::R1.ep::n,b,l⟩⟩]:=hp
  rcases dz.1 hp with hp | hp
  ·exact h.out p hp
  ·rw[da]at hp;subst hp;exact .inr (dE _)⟩
theorem Gs.fin (h:Gs ac R R1):Gs ac R (fq R1):=by
 unfold fq
 split
 ·rename_i L hL
  split
  ·split
   ·exact⟨h.ep,fun L' e=>(bb.inj e) ▸ h.ins L hL,h.out⟩
   ·exact h
  ·exact h
 ·exact h
theorem HB:Dq (fq R):=by
 unfold fq
 split
 ·rename_i L hL
  split
  ·rename_i o ho
   split
   ·exact fun L' o' e c=>by cases e;cases c
   ·rename_i hn
    exact fun L' o' e c=>by rw[hL]at e;cases e;simpa using hn
  ·rename_i ho
   exact fun L' o' e c=>by rw[hL]at e;cases e;rw[ho]at c;cases c
 ·rename_i hl;exact rB hl
theorem Gs.SF {L:b9} (hL:R.ld=some L) {fr:Int} {q:Int->Bool} {c:Option Op}:Gs (fun x e=>x=fr/\R.ep=e) R {R with ld:=some ⟨mark L.ins fr true,q,c⟩ }:=
 ⟨dE _,fun L' e x hx=>by
  cases e
  rcases CY hx with rfl | hx
  ·exact .inr ⟨rfl,rfl⟩
  ·exact .inl ⟨L,hL,rfl,hx⟩,fun p hp=> .inl hp⟩
theorem Gs.cg {NW:Int->Int->Prop} (h:Gs ac R R1) (e:∀ x,ac x R1.ep->NW x R1.ep):Gs NW R R1:=⟨h.ep,fun L' a x b=>(h.ins L' a x b).imp id (e x),h.out⟩
theorem aaF (R:ι) (fr:Int) (m:dL):Gs (fun x e=>x=fr/\bm m 1=e) R (dI R fr m)/\(Dq R->Dq (dI R fr m)):=by
 have same:Gs (fun x e=>x=fr/\bm m 1=e) R R/\(Dq R->Dq R):=⟨.refl R,id⟩
 have SQ:Gs (fun x e=>x=fr/\bm m 1=e) R (ou R fr)/\(Dq R->Dq (ou R fr)):=⟨(Gs.refl R).snd ..,id⟩
 unfold dI
 split
 ·exact same
 ·split
  ·unfold iS
   split
   ·exact SQ
   ·rename_i hn
    split
    ·exact⟨Gs.snd (R:=R) (R1:={gy R with ep:=bm m 1,nu:=bm m 2,c:=_,t:=_,ch:=true }) (Gs.no (R:=R) (by show R.ep<=bm m 1;omega) rfl fun p hp=> .inl hp) ..,fun _=>rB rfl⟩
    ·exact same
  ·split
   ·unfold iA
    split
    ·exact same
    ·rename_i L hL
     split
     ·exact same
     ·rename_i hne
      have he:bm m 1=R.ep:=Classical.byContradiction fun t=>hne (.inl t)
      split
      ·rename_i hc
       exact⟨(Gs.SF hL).cg fun x a=>⟨a.1,he⟩,fun _ L' o e c=>by cases e;cases c⟩
      ·exact⟨Gs.fin ((Gs.SF hL).cg fun x a=>⟨a.1,he⟩),fun _=>HB⟩
   ·split
    ·unfold iR
     split
     ·exact⟨(Gs.refl R).snd ..,id⟩
     ·split
      ·rename_i hc
       have hl:=RY hc.2.2.1
       exact⟨Gs.snd (R1:=gE R (uV m)) (Gs.same (R:=R) (R1:=gE R (uV m)) rfl rfl fun p hp=> .inl hp) ..,fun _=>rB hl⟩
      ·exact SQ
    ·split
     ·unfold iw
      split
      ·exact same
      ·rename_i L hL
       split
       ·exact same
       ·split
        ·exact⟨Gs.fin ⟨dE _,fun L' e x hx=>by cases e;exact .inl ⟨L,hL,rfl,hx⟩,fun p hp=> .inl hp⟩,fun _=>HB⟩
        ·exact same
     ·unfold iy
      split
      ·exact same
      ·rename_i L hL
       split
       ·exact⟨.no (dE _) rfl fun p hp=> .inl hp,fun _=>rB rfl⟩
       ·split
        ·exact⟨.no (dE _) rfl fun p hp=> .inl hp,fun _=>rB rfl⟩
        ·exact⟨(⟨dE _,fun L' e x hx=>by cases e;exact .inl ⟨L,hL,rfl,Sv hx⟩,fun p hp=> .inl hp⟩:Gs (fun x e=>x=fr/\bm m 1=e) R {R with ld:=some {L with ins:=mark L.ins fr false } }).snd ..,fun h L' o e c=>by cases e;exact h L o hL c⟩
theorem agO (R:ι):Gs ac R (cO R)/\(Dq R->Dq (cO R)):=by
 unfold cO
 split
 ·rename_i hl;exact⟨.same rfl rfl fun p hp=> .inl hp,fun _=>rB hl⟩
 ·rename_i L hL
  split
  ·refine⟨.same rfl rfl fun p hp=>?_,id⟩
   rcases dz.1 hp with hp | hp
   ·exact .inl hp
   ·obtain⟨x,_,hx⟩:=List.mem_flatMap.1 hp
    unfold gj at hx
    split at hx
    ·rw[da]at hx;subst hx;exact .inr (dE _)
    ·split at hx
     ·split at hx
      ·rw[da]at hx;subst hx;exact .inr (dE _)
      ·cases hx
     ·cases hx
  ·exact⟨.same rfl rfl fun p hp=> .inl hp,id⟩
theorem aiY (R:ι) (w:Vw):Gs ac R (dV R w)/\(Dq R->Dq (dV R w)):=by
 cases hg:dR R w with
 |false=>rw[vg hg];exact⟨.refl R,id⟩
 |true=>
  have hge:R.ep<=w.ve:=by
   unfold dR at hg
   rw[jo,decide_eq_true_eq]at hg
   exact hg.1.2.2.1
  cases hl:fv R w with
  |false=>rw[xp hg hl];exact⟨.no (dE _) rfl fun p hp=> .inl hp,fun _=>rB rfl⟩
  |true=>
   rw[xq hg hl]
   refine⟨⟨hge,fun L' e x hx=>?_,fun p hp=>?_⟩,fun _ L' o e c=>?_⟩
   ·cases e;cases hx
   ·rcases dz.1 hp with hp | hp
    ·exact .inl hp
    ·obtain⟨x,_,rfl⟩:=dO.1 hp;exact .inr (dE _)
   ·cases e;cases c
theorem af5 (R:ι) (o:Op):Gs ac R (dN R o).2/\(Dq R->Dq (dN R o).2):=by
 have same:Gs ac R R/\(Dq R->Dq R):=⟨.refl R,id⟩
 unfold dN
 split
 ·exact same
 ·split
  ·exact same
  ·rename_i L hL
   split
   ·exact same
   ·split
    ·exact same
    ·split
     ·rename_i e R1 hk
      split at hk
      ·unfold lW at hk
       split at hk
       ·cases hk;exact⟨.same rfl rfl fun p hp=> .inl hp,id⟩
       ·split at hk
        ·cases hk;exact same
        ·split at hk
         ·cases hk
         ·cases hk;exact same
      ·cases hk
     ·unfold gC
      dsimp only
      rw[th]
      refine⟨Gs.fin ⟨dE _,fun L' e x hx=>?_,fun p hp=>?_⟩,fun _=>HB⟩
      ·cases e;exact .inl ⟨L,hL,rfl,hx⟩
      ·rcases dz.1 hp with hp | hp
       ·exact .inl hp
       ·obtain⟨x,_,rfl⟩:=dO.1 hp;exact .inr (dE _)
end
structure EJ (w:Wd):Prop where
 ψ:∀ l∈w.ψ,∃ i:Nat,i<4/\l.fr=i/\bm l.m 1<=(κ w i).ep
 ins:∀ i,i<4->∀ L,(κ w i).ld=some L->∀ x:Nat,x<4->L.ins x=true->(κ w i).ep<=(κ w x).ep
 dq:∀ i,i<4->Dq (κ w i)
section
variable {w:Wd} {T:Int}
theorem vW (w:Wd) {i:Nat} (R:ι) (hi:i<w.R.length):κ (cf (bx w i R) i) i=iH R:=by
 have e1:κ (bx w i R) i=R:=l4 R hi
 have e2:(cf (bx w i R) i).R=(bx w i (iH R)).R:=by
  unfold cf
  rw[e1,(sy _ _).1,(nN i _ _).1]
  show(w.R.set i R).set i (iH (κ (bx w i R) i))=w.R.set i (iH R)
  rw[e1,List.set_set]
 rw[tJ e2,l4 _ hi]
theorem yg (w:Wd) (i:Nat) (R:ι):(cf (bx w i R) i).vs=w.vs:=by
 unfold cf
 rw[(xn _ _).2.1,(nN i _ _).2.2.1];rfl
theorem ON (w:Wd) {i:Nat} (R:ι) (hi:i<w.R.length):(cf (bx w i R) i).ψ=(dw (fS (bx w i R) i) i R.out).ψ:=by
 unfold cf
 rw[l4 R hi,(xn _ _).2.2.1]
theorem Bz {ac:Int->Int->Prop} (h:EJ w) (hl:w.R.length=4) {i:Nat} (hi:i<4) {R:ι} (ho:(κ w i).out=[]) (g:Gs ac (κ w i) R/\(Dq (κ w i)->Dq R)) (hac:∀(x:Nat) e,x<4->ac x e->e<=(κ w x).ep):EJ (cf (bx w i R) i):=by
 obtain⟨g,gd⟩:=g
 have ea:=vW w R (i:=i) (by omega)
 have en:∀ j,i≠j->κ (cf (bx w i R) i) j=κ w j:=fun j e=>uo w R e (by omega)
 have mono:∀ j,(κ w j).ep<=(κ (cf (bx w i R) i) j).ep:=fun j=>by
  by_cases e:i=j
  ·subst e;rw[ea];exact g.ep
  ·rw[en j e];exact dE _
 refine⟨?_,fun j hj L hL x hx hm=>?_,fun j hj=>?_⟩
 ·rw[ON w R (by omega)]
  refine K6 (P:=fun l=>∃ k:Nat,k<4/\l.fr=k/\bm l.m 1<=(κ (cf (bx w i R) i) k).ep) i R.out _ (fun p hp=>⟨i,hi,rfl,?_⟩) (fun l hl=>?_)
  ·rcases g.out p hp with h1 | h1
   ·rw[ho]at h1;cases h1
   ·rw[ea];exact h1
  ·obtain⟨k,k1,k2,k3⟩:=h.ψ l hl
   exact⟨k,k1,k2,Int.le_trans k3 (mono k)⟩
 ·by_cases e:i=j
  ·subst e
   rw[ea]at hL ⊢
   rcases g.ins L hL x hm with ⟨L0,l1,l2,l3⟩ | a
   ·show R.ep<=_
    rw[<- l2];exact Int.le_trans (h.ins i hj L0 l1 x hx l3) (mono x)
   ·exact Int.le_trans (hac x _ hx a) (mono x)
  ·rw[en j e]at hL ⊢
   exact Int.le_trans (h.ins j hj L hL x hx hm) (mono x)
 ·by_cases e:i=j
  ·subst e;rw[ea];exact gd (h.dq i hi)
  ·rw[en j e];exact h.dq j hj
theorem EJ.cg (h:EJ w) {w2:Wd} (e:w2.R=w.R) (hb:∀ l∈w2.ψ,l∈w.ψ):EJ w2:=
 ⟨fun l hl=>by obtain⟨i,a,b,c⟩:=h.ψ l (hb l hl);exact⟨i,a,b,by rw[tJ e];exact c⟩,fun i hi L hL x hx hm=>by rw[tJ e]at hL ⊢;rw[tJ e];exact h.ins i hi L hL x hx hm,fun i hi=>by rw[tJ e];exact h.dq i hi⟩
theorem JN {w:Wd} (x:Nat) (e:Int) (_:x<4) (h:False):e<=(κ w x).ep:=h.elim
theorem WT (hw:WI T w) (h:EJ w) {a:Nat} (ha:a<4) (v:Vw):EJ (qT w a v):=Bz (ac:=fun _ _=>False) h hw.rl ha (hw.r a ha).out (aiY _ v) JN
theorem Wm (hw:WI T w) (h:EJ w) {a:Nat} (ha:a<4):EJ (pm w a):=Bz (ac:=fun _ _=>False) h hw.rl ha (hw.r a ha).out (agO _) JN
theorem Lr (hw:WI T w) (h:EJ w) {a:Nat} (ha:a<4) (o:Op):EJ (lG w o a):=Bz (ac:=fun _ _=>False) h hw.rl ha (hw.r a ha).out (af5 _ o) JN
theorem O5 (hw:WI T w) (h:EJ w) {k:Nat} (hk:k<w.ψ.length):EJ (lB w k):=by
 have hl:=hw.ψ _ (sU hk)
 have t0:=hl.t0
 have t1:=hl.t1
 have hi:(fH w k).to.toNat<4:=by omega
 obtain⟨i,i1,i2,i3⟩:=h.ψ _ (sU hk)
 refine Bz (w:=fw w k) (h.cg rfl fun l hl=>List.mem_of_mem_eraseIdx hl) hw.rl hi (hw.r _ hi).out (aaF _ _ _) (fun x e hx ⟨a,b⟩=>?_)
 have:x=i:=by omega
 subst this
 rw[<- b];exact i3
theorem Wp (hw:WI T w) (hT:T<800) (h:EJ w):∀ i,i<=4->EJ (eO w i)
 | 0,_=>h
 |i+1,hi=>Wm (vc hw hT i (by omega)).1 (Wp hw hT h i (by omega)) (by omega)
theorem ae4 (hw:WI T w) (h:EJ w) {a:Nat} (ha:a<4):EJ (bx w a (sf (κ w a) a)):=by
 have tj:a<w.R.length:=by rw[hw.rl];exact ha
 have ee:∀ j,(κ (bx w a (sf (κ w a) a)) j).ep=(κ w j).ep:=fun j=>by
  by_cases e:a=j
  ·subst e;rw[l4 _ tj];rfl
  ·rw[qL _ e]
 refine⟨fun l hl=>?_,fun j hj L hL x hx hm=>?_,fun j hj=>?_⟩
 ·obtain⟨i,a,b,c⟩:=h.ψ l hl
  exact⟨i,a,b,by rw[ee];exact c⟩
 ·rw[ee,ee]
  by_cases e:a=j
  ·subst e;rw[l4 _ tj]at hL;cases hL
  ·rw[qL _ e]at hL;exact h.ins j hj L hL x hx hm
 ·by_cases e:a=j
  ·subst e;rw[l4 _ tj];exact rB rfl
  ·rw[qL _ e];exact h.dq j hj
theorem age (hw:WI T w) (hT:T<700) (h:EJ w) (s:Sp):EJ (eE w s):=by
 have hN:=wQ hw
 have hJ:EJ (cw w):=h.cg rfl fun l hl=>hl
 have pa:=kJ s.dj (n:=4) (by omega)
 have ha:cH s<4:=by unfold cH;omega
 have hpk:0<w.ψ.length->iK w s<(cw w).ψ.length:=fun hl=>by
  have:=kJ s.n (n:=(w.ψ.length:Int)) (by omega)
  show(bC s.n w.ψ.length).toNat<w.ψ.length
  omega
 unfold eE kN
 repeat' split
 ·unfold lH
  split
  ·split
   ·exact Lr hN hJ ha _
   ·exact hJ
  ·split
   ·exact hJ
   ·exact Lr (JD hN s (by omega)) (hJ.cg rfl fun l hl=>hl) ha _
 ·rename_i hl;exact O5 hN hJ (hpk hl)
 ·exact hJ
 ·exact hJ.cg rfl (fun l hl=>List.mem_of_mem_eraseIdx hl)
 ·exact hJ
 ·rename_i hl
  exact hJ.cg rfl (fun l hl2=>mn (P:=fun l=>l∈w.ψ) (fun l h=>h) (sU (hpk hl.1)) hl2)
 ·exact hJ
 ·exact ae4 hN hJ ha
 ·unfold oD
  repeat' split
  all_goals exact hJ.cg rfl fun l hl=>hl
 ·exact WT hN hJ ha _
 ·exact Wp hN (by omega) hJ 4 (ar _)
 ·exact hJ
end
theorem ab8:EJ (kc 4):=by
 have hr:∀ i:Nat,i<4->κ (kc 4) i=newR (i:Int) 5 false 0 0 jT []:=fun i hi=>by
  rcases i with _ | _ | _ | _ | i
  ·rfl
  ·rfl
  ·rfl
  ·rfl
  ·omega
 exact⟨fun l hl=>(by cases hl),fun i hi L hL=>(by rw[hr i hi]at hL;cases hL),fun i hi=>by rw[hr i hi];exact rB rfl⟩
theorem P_:∀(l:List Sp) {w:Wd} {T:Int},WI T w->EJ w->T+3*(l.length:Int)<=690->EJ (l.foldl eE w)
 | [],w,T,_,h,_=>h
 |s::l,w,T,hw,h,ht=>by
  rw[gA]at ht
  exact P_ l (sn hw (by omega) s).2 (age hw (by omega) h s) (by omega)
theorem afu {l:List Sp} (h:l.length<=120):EJ (ig l):=P_ l C3 ab8 (by omega)
def nS (m:dL):Nat:=if m.kd=10 then 2 else if m.kd=12 then 4 else if m.kd=14 then 3 else 1
def eJ (b:List fQ):Nat:=(b.map fun l=>nS l.m).sum
structure LF (e n:Int) (d:Nat) (l:fQ):Prop where
 h:(l.fr=d/\l.to≠d/\(l.m.kd=10∨l.m.kd=12)/\bm l.m 1=e/\bm l.m 2=n)∨(l.to=d/\l.fr≠d/\((l.m.kd=11∨l.m.kd=13)/\bm l.m 1=e/\bm l.m 2=n∨l.m.kd=14/\bm l.m 1<=e))
 w:l.m.kd=12->l.m.n.any cJ=false
def Ad (L:b9) (k:Int):Prop:=L.ins k=true/\(L.cur≠none->L.cy k=true)
def Bd (b:List fQ) (k:Int):Prop:=∃ l∈b,l.to=k/\l.m.kd=10∨l.fr=k/\(l.m.kd=11∨l.m.kd=14)
def Cd (b:List fQ) (k:Int):Prop:=∃ l∈b,l.to=k/\l.m.kd=12∨l.fr=k/\l.m.kd=13
def St (L:b9) (b:List fQ) (k:Int):Prop:=Ad L k∨Bd b k∨(L.ins k=true/\Cd b k)
structure XG (R':ι) (d:Int) (e n kd:Int) (m':dL):Prop where
 out:R'.out=[⟨d,m'⟩]
 dn:R'.done=[]
 ld:R'.ld=none
 ep:R'.ep<=e
 IX:kd=10->m'.kd=11
 IY:kd=12->m'.kd=13∨m'.kd=14
 x9:m'.kd≠14->bm m' 1=e/\bm m' 2=n
 le:bm m' 1<=e
section
variable {R:ι} {m:dL}
theorem QJ {fr:Int} (go:cp R fr m=true):dI R fr m=if m.kd=10 then iS R fr m else if m.kd=11 then iA R fr m else if m.kd=12 then iR R fr m else if m.kd=13 then iw R fr m else iy R fr m:=by
 unfold dI;rw[if_neg (by rw[go];decide)]
theorem aao {d e n:Int} (yJ:R.ld=none) (wq:R.ep<=e) (ho:R.out=[]) (hdn:R.done=[]) (go:cp R d m=true) (h1:bm m 1=e) (h2:bm m 2=n)
  (hk:m.kd=10/\(R.ep=e->R.nu<=n)/\m.l.length=1/\(∃ c,jz m.b=some c)/\(∃ t,loadT (m.l.getD 0 [])=some t)∨m.kd=12):∃ m',XG (dI R d m) d e n m.kd m':=by
 rw[QJ go]
 have hl:ef R=false:=by unfold ef;rw[yJ];rfl
 have hc:ci R=none:=by unfold ci;rw[yJ];rfl
 rcases hk with ⟨k,k2,k3,⟨c,hc1⟩,t,ht⟩ | k
 ·rw[if_pos k]
  have hn:¬ (bm m 1<R.ep∨bm m 1=R.ep/\(bm m 2<R.nu∨ef R=true)∨m.l.length≠1):=by
   rintro(q | ⟨q1,q2 | q2⟩ | q)
   ·omega
   ·have:=k2 (by omega);omega
   ·rw[hl]at q2;cases q2
   ·exact q k3
  unfold iS
  rw[if_neg hn,hc1,ht]
  refine⟨⟨11,[R.id,bm m 1,bm m 2],[],[]⟩,?_,?_,rfl,by show bm m 1<=e;omega,fun _=>rfl,fun q=>by omega,fun _=>⟨h1,h2⟩,by show bm m 1<=e;omega⟩
  ·show R.out++_=_;rw[ho];rfl
  ·show R.done++(match ci R with | some o=>[⟨o,19,[]⟩] | none=>[])=[]
   rw[hdn,hc];rfl
 ·rw[if_neg (by omega),if_neg (by omega),if_pos k]
  unfold iR
  split
  ·rename_i q
   exact⟨⟨13,[R.id,R.ep,R.nu],[],[]⟩,by show R.out++_=_;rw[ho];rfl,hdn,yJ,wq,fun q=>by omega,fun _=> .inl rfl,fun _=>⟨q.1.symm.trans h1,q.2.1.symm.trans h2⟩,wq⟩
  ·split
   ·rename_i q
    exact⟨⟨13,[R.id,R.ep,R.nu+1],[],[]⟩,by show R.out++_=_;rw[ho];rfl,hdn,yJ,wq,fun q=>by omega,fun _=> .inl rfl,fun _=>⟨q.1.symm.trans h1,q.2.1.symm.trans h2⟩,wq⟩
   ·exact⟨⟨14,[R.id,R.ep,R.nu],[],[]⟩,by show R.out++_=_;rw[ho];rfl,hdn,yJ,wq,fun q=>by omega,fun _=> .inr rfl,fun q=>absurd rfl q,wq⟩
structure vE (R R':ι) (L L':b9) (fr kd:Int):Prop where
 ld:R'.ld=some L'
 ep:R'.ep=R.ep
 nu:R'.nu=R.nu
 v:R'.v=R.v
 ti:R'.ti=R.ti
 me:R'.me=R.me
 out:R'.out=if kd=14 then[jn R fr]else[]
 ins:∀ x,x≠fr∨kd≠14->L.ins x=true->L'.ins x=true
 ad:∀ x,x≠fr∨kd≠14->Ad L x->Ad L' x
 a_:kd=11->Ad L' fr
 aQ:kd=13->L.ins fr=true->Ad L' fr
 cur:(L'.cur=L.cur/\R'.done=[])∨∃ o x,L.cur=some o/\L'.cur=none/\R'.done=[⟨o,0,x⟩]
theorem wK {f:Int->Bool} {k x:Int} (h:f x=true):mark f k true x=true:=by unfold mark;split<;>simp_all
theorem CX (f:Int->Bool) (k:Int) (b:Bool):mark f k b k=b:=if_pos rfl
theorem Sw {f:Int->Bool} {k x:Int} (b:Bool) (h:x≠k):mark f k b x=f x:=if_neg h
theorem vE.fin {R1:ι} {L L1:b9} {fr kd:Int} (h:vE R R1 L L1 fr kd) (hk:kd≠14) (hd:R1.done=[]) (hc:L1.cur=L.cur):∃ L',vE R (fq R1) L L' fr kd:=by
 unfold fq
 rw[h.ld]
 dsimp only
 split
 ·rename_i o ho
  split
  ·refine⟨{L1 with cur:=none },rfl,h.ep,h.nu,h.v,h.ti,h.me,h.out,h.ins,fun x hx a=>⟨h.ins x hx a.1,fun q=>absurd rfl q⟩,fun q=>⟨(h.a_ q).1,fun q=>absurd rfl q⟩,fun q i=>⟨(h.aQ q i).1,fun q=>absurd rfl q⟩,.inr ⟨o,_,hc.symm.trans ho,rfl,by show R1.done++_=_;rw[hd];rfl⟩⟩
  ·exact⟨L1,h⟩
 ·exact⟨L1,h⟩
theorem abK {L:b9} {fr:Int} (hL:R.ld=some L) (ho:R.out=[]) (hdn:R.done=[]) (go:cp R fr m=true)
  (hk:(m.kd=11∨m.kd=13)/\bm m 1=R.ep/\bm m 2=R.nu∨m.kd=14/\bm m 1<=R.ep/\(bm m 1=R.ep->bm m 2<=R.nu)):∃ L',vE R (dI R fr m) L L' fr m.kd:=by
 rw[QJ go]
 rcases hk with ⟨k | k,h1,h2⟩ | ⟨k,h1,h2⟩
 ·rw[if_neg (by omega),if_pos k]
  unfold iA
  rw[hL]
  dsimp only
  rw[if_neg (fun q=>by rcases q with q | q;exact q h1;exact q h2)]
  split
  ·rename_i hc
   exact⟨⟨mark L.ins fr true,L.cy,none⟩,rfl,rfl,rfl,rfl,rfl,rfl,by rw[if_neg (by omega)];exact ho,fun x _ hx=>wK hx,fun x _ a=>⟨wK a.1,fun q=>absurd rfl q⟩,fun _=>⟨CX ..,fun q=>absurd rfl q⟩,fun q=>by omega,.inl ⟨hc.symm,hdn⟩⟩
  ·rename_i o hc
   refine vE.fin (L1:=⟨mark L.ins fr true,mark L.cy fr true,some o⟩) ⟨rfl,rfl,rfl,rfl,rfl,rfl,by rw[if_neg (by omega)];exact ho,fun x _ hx=>wK hx,fun x _ a=>⟨wK a.1,fun q=>wK (a.2 (by rw[hc];exact q))⟩,fun _=>⟨CX ..,fun _=>CX ..⟩,fun q=>by omega,.inl ⟨hc.symm,hdn⟩⟩ (by omega) hdn hc.symm
 ·rw[if_neg (by omega),if_neg (by omega),if_neg (by omega),if_pos k]
  unfold iw
  rw[hL]
  dsimp only
  split
  ·rename_i hc
   exact⟨L,hL,rfl,rfl,rfl,rfl,rfl,by rw[if_neg (by omega)];exact ho,fun x _ hx=>hx,fun x _ a=>a,fun q=>by omega,fun _ i=>⟨i,fun q=>absurd hc q⟩,.inl ⟨rfl,hdn⟩⟩
  ·rename_i o hc
   rw[if_pos ⟨h1,h2⟩]
   refine vE.fin (L1:=⟨L.ins,mark L.cy fr true,some o⟩) ⟨rfl,rfl,rfl,rfl,rfl,rfl,by rw[if_neg (by omega)];exact ho,fun x _ hx=>hx,fun x _ a=>⟨a.1,fun q=>wK (a.2 (by rw[hc];exact q))⟩,fun q=>by omega,fun _ i=>⟨i,fun _=>CX ..⟩,.inl ⟨hc.symm,hdn⟩⟩ (by omega) hdn hc.symm
 ·rw[if_neg (by omega),if_neg (by omega),if_neg (by omega),if_neg (by omega)]
  unfold iy
  rw[hL]
  dsimp only
  rw[if_neg (by omega),if_neg (fun q=>by have:=h2 q.1;omega)]
  exact⟨{L with ins:=mark L.ins fr false },rfl,rfl,rfl,rfl,rfl,rfl,by rw[if_pos k];show R.out++_=_;rw[ho];rfl,fun x q hx=>by
   rcases q with q | q
   ·show mark L.ins fr false x=true;rw[Sw _ q];exact hx
   ·exact absurd k q,fun x q a=>by
   rcases q with q | q
   ·exact⟨by show mark L.ins fr false x=true;rw[Sw _ q];exact a.1,a.2⟩
   ·exact absurd k q,fun q=>by omega,fun q=>by omega,.inl ⟨rfl,hdn⟩⟩
theorem Qj {vs:List Vw} {G:Gh} {fr T:Int} (hl:iO vs G fr m) (hm:MW T m) (hT:T<=1000000) (hid:R.id=5) (hfr:fr≠R.me) (hw:m.kd=12->m.n.any cJ=false):cp R fr m=true:=by
 have key:10<=m.kd/\m.kd<=14/\m.n.length=iP m.kd/\bm m 0=5/\m.n.any cJ=false:=by
  have hn1:=hm.n1
  have hn2:=hm.n2
  have pL:=hm.r.r.ns
  have sm:∀ e n:Int,m.n=[5,e,n]->m.n.any cJ=false:=fun e n q=>by
   have e1:bm m 1=e:=by unfold bm;rw[q];rfl
   have e2:bm m 2=n:=by unfold bm;rw[q];rfl
   have g1:=pL e (by rw[q];simp)
   have g2:=pL n (by rw[q];simp)
   rw[q,List.any_eq_false]
   intro x hx
   simp only[dS,List.not_mem_nil,or_false]at hx
   unfold cJ
   rw[decide_eq_true_eq]
   omega
  cases hl with
  |sync e n a f b l x c=>exact⟨by show(10:Int)<=10;omega,by show(10:Int)<=14;omega,rfl,rfl,sm _ _ rfl⟩
  |ok kd e n hk hn=>exact⟨by show 10<=kd;omega,by show kd<=14;omega,by show 3=iP kd;unfold iP;rw[if_neg (by omega)],rfl,sm _ _ rfl⟩
  |op e n o s a f b g=>exact⟨by show(10:Int)<=12;omega,by show(12:Int)<=14;omega,rfl,rfl,hw rfl⟩
 unfold cp
 rw[jo,decide_eq_true_eq]
 exact⟨⟨key.1,key.2.1,key.2.2.1,by rw[hid];exact key.2.2.2.1,hfr⟩,by rw[key.2.2.2.2];rfl⟩
end
section
variable {w:Wd} {T:Int}
theorem sent_eq (i:Nat):∀(l:List Post) (w:Wd),w.ψ.length+l.length<=2000->(∀ p∈l,0<=p.to/\p.to<4)->(dw w i l).ψ=w.ψ++l.map fun p=>⟨i,p.to,p.m⟩
 | [],w,_,_=>(gz _).symm
 |p::l,w,h,hp=>by
  rw[gA]at h
  have h0:=hp p iV
  have e:(ii i w p).ψ=w.ψ++[⟨i,p.to,p.m⟩]:=by unfold ii;rw[if_pos ⟨h0.1,h0.2,by omega⟩]
  have:=sent_eq i l (ii i w p) (by rw[e,bn,gZ];omega) (fun p' mP=>hp p' (gn _ mP))
  show(dw (ii i w p) i l).ψ=_
  rw[this,e,dX];rfl
theorem ru (w:Wd) {i:Nat} (R:ι) (hi:i<w.R.length) (hl:w.ψ.length+R.out.length<=2000) (hp:∀ p∈R.out,0<=p.to/\p.to<4):(cf (bx w i R) i).ψ=w.ψ++R.out.map fun p=>⟨i,p.to,p.m⟩:=by
 rw[ON w R hi];exact sent_eq i R.out (fS (bx w i R) i) hl hp
theorem By (w:Wd) {i:Nat} (R:ι) (hi:i<w.R.length) (h:R.done=[]):(cf (bx w i R) i).cs=w.cs:=by
 unfold cf;rw[l4 R hi,h];exact(nN i _ _).2.2.2.1
theorem OO (w:Wd) {i:Nat} (R:ι) (hi:i<w.R.length) {x:Dn} (h:R.done=[x]):(cf (bx w i R) i).cs=w.cs.map (gL w.now x):=by
 unfold cf;rw[l4 R hi,h]
 have e:=nN i R.out (fS (bx w i R) i)
 show ae (gL (dw (fS (bx w i R) i) i R.out).now x) (dw (fS (bx w i R) i) i R.out).cs=_
 rw[e.2.2.2.1,e.2.2.2.2.2.1];rfl
end
structure FP (E:Int) (d:Nat) (w:Wd) (L:b9):Prop where
 j:∃ G,WJ G w
 ej:EJ w
 d4:d<4
 ld:(κ w d).ld=some L
 ep:(κ w d).ep=E
 no:∀ i,i<4->i≠d->(κ w i).ld=none/\(κ w i).ep<=E
 ψ:∀ l∈w.ψ,LF E (κ w d).nu d l
def Tk (o:Op) (ix:Nat) (w:Wd) (L:b9):Prop:=∃ c,w.cs[ix]? =some c/\c.o=o/\(c.en≠-1∨L.cur=some o)
structure mB (E:Int) (d:Nat) (w:Wd) (L:b9) (w':Wd) (L':b9):Prop where
 fp:FP E d w' L'
 nu:(κ w' d).nu=(κ w d).nu
 v:(κ w' d).v=(κ w d).v
 me:(κ w' d).me=(κ w d).me
 vs:w'.vs=w.vs
 st:∀ k:Int,k≠d->St L w.ψ k->St L' w'.ψ k
 tk:∀ o ix,Tk o ix w L->Tk o ix w' L'
section
variable {T:Int} {w:Wd} {E:Int} {d:Nat} {L:b9}
theorem Xf (m:dL):1<=nS m:=by
 unfold nS
 repeat' split
 all_goals omega
theorem Eo (a b:List fQ):eJ (a++b)=eJ a+eJ b:=by unfold eJ;rw[ja,List.sum_append]
theorem zM (l:fQ) (b:List fQ):eJ (l::b)=nS l.m+eJ b:=by unfold eJ;rw[kv,List.sum_cons]
theorem zN:∀ b:List fQ,b.length<=eJ b
 | []=>ar _
 |l::b=>by have:=zN b;have:=Xf l.m;rw[zM,gA];omega
theorem abZ {vs:List Vw} {G:Gh} {fr:Int} {m:dL} (h:iO vs G fr m) (hk:m.kd=10):m.l.length=1/\(∃ c,jz m.b=some c)/\∃ t,loadT (m.l.getD 0 [])=some t:=by
 cases h with
 |sync e n a f b l x c=>exact⟨rfl,⟨_,by unfold jz;rw[wX];dsimp only;rw[if_pos c]⟩,_,CR x rfl⟩
 |ok kd e n q hn=>have hk:kd=10:=hk;omega
 |op e n o s a f b g=>have hk:(12:Int)=10:=hk;omega
theorem abY {vs:List Vw} {G:Gh} (hG:GI vs G) {fr:Int} {m:dL} (h:iO vs G fr m) (hk:m.kd=14):bm m 2<=((G.lg (bm m 1)).length:Int):=by
 cases h with
 |sync e n a f b l x c=>have hk:(10:Int)=14:=hk;omega
 |ok kd e n q hn=>exact Int.ofNat_le.2 (mc hn (hG.rl fr e))
 |op e n o s a f b g=>have hk:(12:Int)=14:=hk;omega
theorem ZO {l:fQ} {r:List fQ} (hb:w.ψ=l::r):lB w 0=cf (bx (fw w 0) l.to.toNat (dI (κ w l.to.toNat) l.fr l.m)) l.to.toNat:=by
 have e:fH w 0=l:=by unfold fH;rw[hb];rfl
 unfold lB yC;rw[e];rfl
theorem Tk.same {o:Op} {ix:Nat} {w':Wd} {L':b9} (h:Tk o ix w L) (e:w'.cs=w.cs) (c:L'.cur=L.cur):Tk o ix w' L':=by
 obtain⟨x,h1,h2,h3⟩:=h
 exact⟨x,by rw[e];exact h1,h2,by rw[c];exact h3⟩
theorem Tk.done {o o':Op} {ix:Nat} {w':Wd} {L':b9} {x:List Int} (h:Tk o ix w L) (hn:0<=w.now) (e:w'.cs=w.cs.map (gL w.now ⟨o',0,x⟩)) (c:L.cur=some o'):Tk o ix w' L':=by
 obtain⟨y,h1,h2,h3⟩:=h
 refine⟨gL w.now ⟨o',0,x⟩ y,by rw[e,fy,h1];rfl,(tR _ _ _).1.trans h2,.inl ?_⟩
 unfold gL
 split
 ·show w.now≠-1;omega
 ·rename_i hh
  rcases h3 with h3 | h3
  ·exact h3
  ·rw[c]at h3;cases h3
   intro t
   exact hh ⟨by rw[h2],by rw[h2],t,rfl⟩
theorem ZM (hw:WI T w) (hT:T<800) (h:FP E d w L) {l:fQ} {r:List fQ} (hb:w.ψ=l::r) (hs:eJ w.ψ<=1000):∃ L',mB E d w L (lB w 0) L'/\eJ (lB w 0).ψ<eJ w.ψ/\(κ (lB w 0) d).ti=(κ w d).ti:=by
 have hm:l∈w.ψ:=by rw[hb];exact iV
 have hk:0<w.ψ.length:=by rw[hb,gA];omega
 have lf:=h.ψ l hm
 obtain⟨G,hJ⟩:=h.j
 have hlt:=hJ.ψ l hm
 have Ch:=hw.ψ l hm
 have t0:=Ch.t0
 have t1:=Ch.t1
 have jg:=h.d4
 have hi:l.to.toNat<4:=by omega
 have hir:l.to.toNat<(fw w 0).R.length:=by show _<w.R.length;rw[hw.rl];exact hi
 have Ca:(fw w 0).ψ=r:=by show w.ψ.eraseIdx 0=r;rw[hb];rfl
 have hlen:=zN w.ψ
 have hrl:r.length+1=w.ψ.length:=by rw[hb,gA]
 have hj:=O6 hw hJ hk
 have he:=O5 hw h.ej hk
 obtain⟨fi,f1,f2,f3⟩:=h.ej.ψ l hm
 have kX:=CJ hJ.gi hJ.vi (hJ.r d jg) ((hJ.r d jg).l L h.ld)
 rw[h.ep]at kX
 have hr:=hw.r _ hi
 have kG:eJ w.ψ=nS l.m+eJ r:=by rw[hb,zM]
 have hw1:=Xf l.m
 rw[ZO hb]at hj he ⊢
 have lr:∀ x∈r,LF E (κ w d).nu d x:=fun x hx=>h.ψ x (by rw[hb];exact gn _ hx)
 rcases lf.h with ⟨a1,a2,a3,a4,a5⟩ | ⟨a1,a2,a3⟩
 ·
  have hid:l.to.toNat≠d:=fun t=>a2 (by omega)
  obtain⟨n1,n2⟩:=h.no _ hi hid
  have go:cp (κ w l.to.toNat) l.fr l.m=true:=Qj hlt Ch.m (by omega) hr.w.id (by rw[hr.me,a1];omega) lf.w
  obtain⟨m',F⟩:=aao (n:=(κ w d).nu) n1 n2 hr.out hr.done (by rw[a1]at go;exact go) a4 a5 (a3.imp (fun k=>⟨k,fun t=>(by
   have:=(hJ.r _ hi).nl
   rw[t]at this
   rw[kX];exact this),abZ hlt k⟩) id)
  rw[a1]at hj he ⊢
  have eb:=ru (fw w 0) (dI (κ w l.to.toNat) d l.m) hir (by rw[Ca,F.out];show r.length+1<=2000;omega) (fun p hp=>by
   rw[F.out,da]at hp;subst hp;exact⟨by show(0:Int)<=d;omega,by show(d:Int)<4;omega⟩)
  rw[Ca,F.out]at eb
  have ei:=vW (fw w 0) (dI (κ w l.to.toNat) d l.m) hir
  have en:∀ j,l.to.toNat≠j->κ (cf (bx (fw w 0) l.to.toNat (dI (κ w l.to.toNat) d l.m)) l.to.toNat) j=κ w j:=fun j e=>uo (fw w 0) _ e hir
  have ed:=en d hid
  have ev:=yg (fw w 0) l.to.toNat (dI (κ w l.to.toNat) d l.m)
  have ec:=By (fw w 0) (dI (κ w l.to.toNat) d l.m) hir F.dn
  generalize cf (bx (fw w 0) l.to.toNat (dI (κ w l.to.toNat) d l.m)) l.to.toNat=w' at*
  have eb:w'.ψ=r++[⟨((l.to.toNat:Nat):Int),d,m'⟩]:=eb
  have Rg:m'.kd=11∨m'.kd=13∨m'.kd=14:=by
   rcases a3 with k | k
   ·exact .inl (F.IX k)
   ·exact .inr (F.IY k)
  have nm:(⟨((l.to.toNat:Nat):Int),d,m'⟩:fQ)∈w'.ψ:=by rw[eb];exact kQ _ (da.2 rfl)
  have rm:∀ x∈r,x∈w'.ψ:=fun x hx=>by rw[eb];exact gQ _ hx
  refine⟨L,⟨⟨hj,he,jg,by rw[ed];exact h.ld,by rw[ed];exact h.ep,fun j hj hne=>?_,?_⟩,by rw[ed],by rw[ed],by rw[ed],ev,fun k yH hs=>?_,fun o ix t=>t.same ec rfl⟩,?_,by rw[ed]⟩
  ·by_cases e:l.to.toNat=j
   ·subst e;rw[ei];exact⟨F.ld,F.ep⟩
   ·rw[en j e];exact h.no j hj hne
  ·rw[eb,ed]
   intro x hx
   refine mn (P:=LF E (κ w d).nu d) lr ⟨.inr ⟨rfl,by show((l.to.toNat:Nat):Int)≠d;omega,?_⟩,fun q=>?_⟩ hx
   ·by_cases q:m'.kd=14
    ·exact .inr ⟨q,F.le⟩
    ·exact .inl ⟨by show m'.kd=11∨m'.kd=13;omega,F.x9 q⟩
   ·have q:m'.kd=12:=q
    omega
  ·have hto:((l.to.toNat:Nat):Int)=l.to:=by omega
   rcases hs with hs | ⟨x,hx,hs⟩ | ⟨hs0,x,hx,hs⟩
   ·exact .inl hs
   ·rw[hb]at hx
    rcases dS.1 hx with rfl | hx
    ·rcases hs with ⟨s1,s2⟩ | ⟨s1,s2⟩
     ·exact .inr (.inl ⟨_,nm,.inr ⟨hto.trans s1,.inl (F.IX s2)⟩⟩)
     ·exact absurd (s1.symm.trans a1) yH
    ·exact .inr (.inl ⟨x,rm x hx,hs⟩)
   ·rw[hb]at hx
    rcases dS.1 hx with rfl | hx
    ·rcases hs with ⟨s1,s2⟩ | ⟨s1,s2⟩
     ·rcases F.IY s2 with q | q
      ·exact .inr (.inr ⟨hs0,_,nm,.inr ⟨hto.trans s1,q⟩⟩)
      ·exact .inr (.inl ⟨_,nm,.inr ⟨hto.trans s1,.inr q⟩⟩)
     ·exact absurd (s1.symm.trans a1) yH
    ·exact .inr (.inr ⟨hs0,x,rm x hx,hs⟩)
  ·rw[eb,Eo,kG,zM]
   show eJ r+(nS m'+0)<_
   have:nS m'<nS l.m:=by
    rcases a3 with k | k
    ·have:=F.IX k
     unfold nS;rw[if_neg (by omega),if_neg (by omega),if_neg (by omega),if_pos k];omega
    ·have:=F.IY k
     have e4:nS l.m=4:=by unfold nS;rw[if_neg (by omega),if_pos k]
     rw[e4]
     unfold nS;rw[if_neg (by omega),if_neg (by omega)]
     split<;>omega
   omega
 ·
  have hid:l.to.toNat=d:=by omega
  rw[hid]at hi hir hr hj he ⊢
  have go:cp (κ w d) l.fr l.m=true:=Qj hlt Ch.m (by omega) hr.w.id (by rw[hr.me];exact a2) lf.w
  obtain⟨L',F⟩:=abK h.ld hr.out hr.done go (by
   rw[h.ep]
   rcases a3 with ⟨k,k1,k2⟩ | ⟨k,k1⟩
   ·exact .inl ⟨k,k1,k2⟩
   ·refine .inr ⟨k,k1,fun t=>?_⟩
    have:=abY hJ.gi hlt k
    rw[t]at this
    rw[kX];exact this)
  have hfr:0<=l.fr/\l.fr<4:=by omega
  have eb:=ru (fw w 0) (dI (κ w d) l.fr l.m) hir (by
   rw[Ca,F.out];split
   ·show r.length+1<=2000;omega
   ·show r.length+0<=2000;omega) (fun p hp=>by
   rw[F.out]at hp;split at hp
   ·rw[da]at hp;subst hp;exact hfr
   ·cases hp)
  rw[Ca,F.out]at eb
  have ei:=vW (fw w 0) (dI (κ w d) l.fr l.m) hir
  have en:∀ j,d≠j->κ (cf (bx (fw w 0) d (dI (κ w d) l.fr l.m)) d) j=κ w j:=fun j e=>uo (fw w 0) _ e hir
  have ev:=yg (fw w 0) d (dI (κ w d) l.fr l.m)
  have He:=By (fw w 0) (dI (κ w d) l.fr l.m) hir
  have Hf:=fun x=>OO (fw w 0) (dI (κ w d) l.fr l.m) (x:=x) hir
  generalize cf (bx (fw w 0) d (dI (κ w d) l.fr l.m)) d=w' at*
  have S8:(κ w' d).nu=(κ w d).nu:=by rw[ei];exact F.nu
  have rm:∀ x∈r,x∈w'.ψ:=fun x hx=>by rw[eb];exact gQ _ hx
  have nb:l.m.kd=14->Bd w'.ψ l.fr:=fun q=>⟨⟨d,l.fr,(jn (κ w d) l.fr).m⟩,by rw[eb,if_pos q];exact kQ _ (da.2 rfl),.inl ⟨rfl,rfl⟩⟩
  refine⟨L',⟨⟨hj,he,jg,by rw[ei];exact F.ld,by rw[ei];exact F.ep.trans h.ep,fun j hj hne=>by rw[en j (fun e=>hne e.symm)];exact h.no j hj hne,?_⟩,S8,by rw[ei];exact F.v,by rw[ei];exact F.me,ev,fun k yH hs=>?_,fun o ix t=>?_⟩,?_,by rw[ei];exact F.ti⟩
  ·rw[eb,S8]
   intro x hx
   rcases dz.1 hx with hx | hx
   ·exact lr x hx
   ·split at hx
    ·have hx:x∈[(⟨d,l.fr,(jn (κ w d) l.fr).m⟩:fQ)]:=hx
     rw[da]at hx;subst hx
     exact⟨.inl ⟨rfl,a2,.inl rfl,h.ep,rfl⟩,fun q=>by have q:(10:Int)=12:=q;omega⟩
    ·cases hx
  ·by_cases kk:k≠l.fr∨l.m.kd≠14
   ·rcases hs with hs | ⟨x,hx,hs⟩ | ⟨hs0,x,hx,hs⟩
    ·exact .inl (F.ad k kk hs)
    ·rw[hb]at hx
     rcases dS.1 hx with rfl | hx
     ·rcases hs with ⟨s1,s2⟩ | ⟨s1,s2 | s2⟩
      ·exact absurd (s1.symm.trans a1) yH
      ·rw[<- s1];exact .inl (F.a_ s2)
      ·rw[<- s1];exact .inr (.inl (nb s2))
     ·exact .inr (.inl ⟨x,rm x hx,hs⟩)
    ·rw[hb]at hx
     rcases dS.1 hx with rfl | hx
     ·rcases hs with ⟨s1,s2⟩ | ⟨s1,s2⟩
      ·exact absurd (s1.symm.trans a1) yH
      ·rw[<- s1]at hs0 ⊢;exact .inl (F.aQ s2 hs0)
     ·exact .inr (.inr ⟨F.ins k kk hs0,x,rm x hx,hs⟩)
   ·have q1:k=l.fr:=Classical.byContradiction fun t=>kk (.inl t)
    have q2:l.m.kd=14:=Classical.byContradiction fun t=>kk (.inr t)
    rw[q1];exact .inr (.inl (nb q2))
  ·rcases F.cur with ⟨c1,c2⟩ | ⟨o',x,c1,c2,c3⟩
   ·exact t.same (He c2) c1
   ·exact t.done hw.n0 (Hf _ c3) c1
  ·rw[eb,Eo,kG]
   split
   ·rename_i q
    show eJ r+(2+0)<_
    have:nS l.m=3:=by unfold nS;rw[if_neg (by omega),if_neg (by omega),if_pos q]
    omega
   ·show eJ r+0<_;omega
end
def s7:Sp:=⟨7,0,0,0,false⟩
noncomputable def gr:Nat->Wd->Wd
 | 0,w=>w
 |k+1,w=>if 0<(gr k w).ψ.length then lB (gr k w) 0 else gr k w
noncomputable def qM (w:Wd):Wd:=gr 500 (eE w s7)
noncomputable def gu:Nat->Wd->Wd
 | 0,w=>w
 |n+1,w=>qM (gu n w)
theorem Lv (w:Wd):eE w s7=eO (cw w) 4:=by
 unfold eE kN
 have e:s7.d=7:=rfl
 rw[e,if_neg (by omega),if_neg (by omega),if_neg (by omega),if_neg (by omega),if_neg (by omega),if_neg (by omega),if_neg (by omega),if_pos rfl]
theorem JA:∀(n:Nat) (l:List Int),l.Nodup->(∀ x∈l,0<=x/\x<n)->l.length<=n
 | 0,l,_,h=>by
  cases l with
  |nil=>exact ar _
  |cons a r=>have:=h a iV;omega
 |n+1,l,hd,h=>by
  have:=JA n (l.erase (n:Int)) (hd.erase _) (fun x hx=>by
   have h1:=h x (List.mem_of_mem_erase hx)
   have h2:=(hd.mem_erase_iff.1 hx).1
   omega)
  rw[List.length_erase]at this
  split at this<;>omega
section
variable {T:Int} {w:Wd} {E:Int} {d:Nat} {L:b9}
theorem mB.refl (h:FP E d w L):mB E d w L w L:=⟨h,rfl,rfl,rfl,rfl,fun _ _ t=>t,fun _ _ t=>t⟩
theorem mB.trans {w1 w2:Wd} {L1 L2:b9} (h:mB E d w L w1 L1) (g:mB E d w1 L1 w2 L2):mB E d w L w2 L2:=
 ⟨g.fp,g.nu.trans h.nu,g.v.trans h.v,g.me.trans h.me,g.vs.trans h.vs,fun k hk t=>g.st k hk (h.st k hk t),fun o ix t=>g.tk o ix (h.tk o ix t)⟩
theorem mB.aP {w1:Wd} {L1:b9} (h:mB E d w L w1 L1):aP (κ w1 d)=aP (κ w d):=by unfold Go.Proofs.YtfcjngcnifdmnaaGreat.aP;rw[h.v,h.me]
theorem FP.rg (hw:WI T w) (h:FP E d w L):(∀ x∈aP (κ w d),0<=x/\x<4/\x≠d)/\(aP (κ w d)).length<=4:=by
 obtain⟨G,hJ⟩:=h.j
 have hv:=hw.vs _ ((hJ.r d h.d4).l L h.ld).v
 have me:=(hJ.r d h.d4).me
 refine⟨fun x hx=>?_,?_⟩
 ·obtain⟨h1,h2⟩:=wM.1 hx
  have:=hv.rg x h1
  exact⟨this.1,this.2,by rw[<- me];exact h2⟩
 ·refine JA 4 _ ?_ (fun x hx=>?_)
  ·unfold Go.Proofs.YtfcjngcnifdmnaaGreat.aP bA;exact hv.nd.filter _
  ·exact hv.rg x (wM.1 hx).1
theorem af3 {b:List fQ} {k:Int} (h:St L b k) (c:List fQ):St L (b++c) k:=by
 rcases h with h | ⟨x,hx,h⟩ | ⟨i,x,hx,h⟩
 ·exact .inl h
 ·exact .inr (.inl ⟨x,gQ _ hx,h⟩)
 ·exact .inr (.inr ⟨i,x,gQ _ hx,h⟩)
theorem QD {R:ι} (hr:RW T R) (hT:T<=1000000) {o:Op} (ho:gh o=true) (k:Int):(jf R o k).m.n.any cJ=false:=by
 have k:=KY ho
 have hc:=yi R.c
 have e0:=hr.e0
 have e1:=hr.e1
 have n0:=hr.i.ok.n0
 have n1:=hr.n1
 have hid:=hr.id
 show[R.id,R.ep,R.nu,o.cl,o.nm,o.kd,o.bk,eG R.c].any cJ=false
 rw[List.any_eq_false]
 intro x hx
 simp only[dS,List.not_mem_nil,or_false]at hx
 unfold cJ
 rw[decide_eq_true_eq]
 omega
theorem Wo {R:ι} (h:R.ld=some L):cO R=if(R.ti+1).tmod 3=0 then{R with ti:=R.ti+1,out:=R.out++(aP R).flatMap (gj R L) }else{R with ti:=R.ti+1 }:=by
 unfold cO
 split
 ·rename_i h2;rw[h]at h2;cases h2
 ·rename_i L2 h2;rw[h]at h2;cases h2;rfl
theorem agT {R:ι} (h:R.ld=none):cO R={R with ti:=R.ti+1 }:=by
 unfold cO
 split
 ·rfl
 ·rename_i L2 h2;rw[h]at h2;cases h2
theorem agN (hw:WI T w) (hT:T<800) (h:FP E d w L) {i:Nat} (hi:i<4) (hs:eJ w.ψ<=1000):mB E d w L (pm w i) L/\eJ (pm w i).ψ<=eJ w.ψ+(if i=d then 16 else 0)/\(κ (pm w i) d).ti=(κ w d).ti+(if i=d then 1 else 0)/\(i=d->((κ w d).ti+1).tmod 3=0->∀ k∈aP (κ w d),St L (pm w i).ψ k):=by
 have hir:i<w.R.length:=by rw[hw.rl];exact hi
 obtain⟨G,hJ⟩:=h.j
 have hj:=Wn hw hJ hi
 have he:=Wm hw h.ej hi
 have hr:=hw.r i hi
 have jg:=h.d4
 have hlen:=zN w.ψ
 have hrd:=hw.r d jg
 obtain⟨rg,rgl⟩:=h.rg hw
 have hdn:(cO (κ w i)).done=[]:=by
  unfold cO
  split
  ·exact hr.done
  ·split<;>exact hr.done
 unfold pm at hj he ⊢
 have ei:=vW w (cO (κ w i)) hir
 have en:∀ j,i≠j->κ (cf (bx w i (cO (κ w i))) i) j=κ w j:=fun j e=>uo w _ e hir
 have ev:=yg w i (cO (κ w i))
 have ec:=By w (cO (κ w i)) hir hdn
 by_cases e:i=d
 ·subst e
  rw[if_pos rfl,if_pos rfl]
  by_cases ht:((κ w i).ti+1).tmod 3=0
  ·have et:cO (κ w i)={κ w i with ti:=(κ w i).ti+1,out:=(κ w i).out++(aP (κ w i)).flatMap (gj (κ w i) L) }:=by
    rw[Wo h.ld,if_pos ht]
   have eo:(cO (κ w i)).out=(aP (κ w i)).flatMap (gj (κ w i) L):=by rw[et,hr.out];rfl
   have post:∀ p∈(cO (κ w i)).out,(0<=p.to/\p.to<4)/\LF E (κ w i).nu i ⟨i,p.to,p.m⟩:=fun p hp=>by
    rw[eo]at hp
    obtain⟨x,hx,hp⟩:=List.mem_flatMap.1 hp
    have wA:=rg x hx
    unfold gj at hp
    split at hp
    ·rw[da]at hp;subst hp
     exact⟨⟨wA.1,wA.2.1⟩,.inl ⟨rfl,wA.2.2,.inl rfl,h.ep,rfl⟩,fun q=>by have q:(10:Int)=12:=q;omega⟩
    ·split at hp
     ·rename_i o ho
      split at hp
      ·rw[da]at hp;subst hp
       exact⟨⟨wA.1,wA.2.1⟩,.inl ⟨rfl,wA.2.2,.inr rfl,h.ep,rfl⟩,fun q=>QD hr.w (by omega) (hr.w.i.ok.cr o (by unfold ci;rw[h.ld];exact ho)) x⟩
      ·cases hp
     ·cases hp
   have pl:∀ l:List Int,(l.flatMap (gj (κ w i) L)).length<=l.length/\eJ ((l.flatMap (gj (κ w i) L)).map fun p=>⟨i,p.to,p.m⟩)<=4*l.length:=fun l=>by
    induction l with
    |nil=>exact⟨ar _,ar _⟩
    |cons a r ih=>
     have h1:(gj (κ w i) L a).length<=1/\eJ ((gj (κ w i) L a).map fun p=>⟨i,p.to,p.m⟩)<=4:=by
      unfold gj
      repeat' split
      all_goals refine⟨by simp,?_⟩
      ·show 2+0<=4;omega
      ·show 4+0<=4;omega
      ·show 0<=4;omega
      ·show 0<=4;omega
     rw[List.flatMap_cons,bn,ja,Eo,gA]
     omega
   have plo:=pl (aP (κ w i))
   rw[<- eo]at plo
   have eb:=ru w (cO (κ w i)) hir (by omega) (fun p hp=>(post p hp).1)
   have e3:iH (cO (κ w i))={iH (κ w i)with ti:=(κ w i).ti+1 }:=by rw[et];rfl
   rw[e3]at ei
   generalize cf (bx w i (cO (κ w i))) i=w' at*
   refine⟨⟨⟨hj,he,jg,by rw[ei];exact h.ld,by rw[ei];exact h.ep,fun j hj hne=>by rw[en j (fun e=>hne e.symm)];exact h.no j hj hne,?_⟩,by rw[ei];rfl,by rw[ei];rfl,by rw[ei];rfl,ev,fun k hk hs=>by rw[eb];exact af3 hs _,fun o ix t=>t.same ec rfl⟩,by rw[eb,Eo];omega,by rw[ei],fun _ _ k hk=>?_⟩
   ·rw[eb]
    have Hk:(κ w' i).nu=(κ w i).nu:=by rw[ei];rfl
    rw[Hk]
    intro x hx
    rcases dz.1 hx with hx | hx
    ·exact h.ψ x hx
    ·obtain⟨p,hp,rfl⟩:=dO.1 hx;exact(post p hp).2
   ·rw[eb]
    have Vk:∀ p∈gj (κ w i) L k,(⟨i,p.to,p.m⟩:fQ)∈w.ψ++(cO (κ w i)).out.map fun p=>⟨i,p.to,p.m⟩:=fun p hp=>kQ _ (List.mem_map_of_mem (f:=fun p:Post=>(⟨i,p.to,p.m⟩:fQ)) (by rw[eo];exact List.mem_flatMap.2 ⟨k,hk,hp⟩))
    cases hik:L.ins k with
    |false=>exact .inr (.inl ⟨_,Vk (jn (κ w i) k) (by unfold gj;rw[if_pos hik];exact da.2 rfl),.inl ⟨rfl,rfl⟩⟩)
    |true=>
     cases hc:L.cur with
     |none=>exact .inl ⟨hik,fun q=>absurd hc q⟩
     |some o=>
      cases ha:L.cy k with
      |false=>exact .inr (.inr ⟨hik,_,Vk (jf (κ w i) o k) (by unfold gj;rw[if_neg (by rw[hik];decide),hc];dsimp only;rw[if_pos ha];exact da.2 rfl),.inl ⟨rfl,rfl⟩⟩)
      |true=>exact .inl ⟨hik,fun _=>ha⟩
  ·have et:cO (κ w i)={κ w i with ti:=(κ w i).ti+1 }:=by
    rw[Wo h.ld,if_neg ht]
   have eo:(cO (κ w i)).out=[]:=by rw[et];exact hr.out
   have eb:=ru w (cO (κ w i)) hir (by rw[eo];show w.ψ.length+0<=2000;omega) (fun p hp=>by rw[eo]at hp;cases hp)
   rw[eo]at eb
   have e3:iH (cO (κ w i))={iH (κ w i)with ti:=(κ w i).ti+1 }:=by rw[et];rfl
   rw[e3]at ei
   have eb:(cf (bx w i (cO (κ w i))) i).ψ=w.ψ:=eb.trans (gz _)
   generalize cf (bx w i (cO (κ w i))) i=w' at*
   refine⟨⟨⟨hj,he,jg,by rw[ei];exact h.ld,by rw[ei];exact h.ep,fun j hj hne=>by rw[en j (fun e=>hne e.symm)];exact h.no j hj hne,?_⟩,by rw[ei];rfl,by rw[ei];rfl,by rw[ei];rfl,ev,fun k hk hs=>by rw[eb];exact hs,fun o ix t=>t.same ec rfl⟩,by rw[eb];omega,by rw[ei],fun _ q=>absurd q ht⟩
   have Hk:(κ w' i).nu=(κ w i).nu:=by rw[ei];rfl
   rw[eb,Hk];exact h.ψ
 ·rw[if_neg e,if_neg e]
  obtain⟨n1,n2⟩:=h.no i hi e
  have et:cO (κ w i)={κ w i with ti:=(κ w i).ti+1 }:=agT n1
  have eo:(cO (κ w i)).out=[]:=by rw[et];exact hr.out
  have eb:=ru w (cO (κ w i)) hir (by rw[eo];show w.ψ.length+0<=2000;omega) (fun p hp=>by rw[eo]at hp;cases hp)
  rw[eo]at eb
  have e3:iH (cO (κ w i))={iH (κ w i)with ti:=(κ w i).ti+1 }:=by rw[et];rfl
  rw[e3]at ei
  have eb:(cf (bx w i (cO (κ w i))) i).ψ=w.ψ:=eb.trans (gz _)
  have ed:=en d e
  generalize cf (bx w i (cO (κ w i))) i=w' at*
  refine⟨⟨⟨hj,he,jg,by rw[ed];exact h.ld,by rw[ed];exact h.ep,fun j hj hne=>?_,by rw[eb,ed];exact h.ψ⟩,by rw[ed],by rw[ed],by rw[ed],ev,fun k hk hs=>by rw[eb];exact hs,fun o ix t=>t.same ec rfl⟩,by rw[eb];omega,by rw[ed];omega,fun q=>absurd q e⟩
  by_cases q:i=j
  ·subst q;rw[ei];exact⟨n1,n2⟩
  ·rw[en j q];exact h.no j hj hne
theorem Wq (hw:WI T w) (hT:T<790) (h:FP E d w L) (hs:eJ w.ψ<=900):∀ i,i<=4->mB E d w L (eO w i) L/\eJ (eO w i).ψ<=eJ w.ψ+(if d<i then 16 else 0)/\(κ (eO w i) d).ti=(κ w d).ti+(if d<i then 1 else 0)/\(d<i->((κ w d).ti+1).tmod 3=0->∀ k∈aP (κ w d),St L (eO w i).ψ k)
 | 0,_=>⟨.refl h,ar _,by rw[if_neg (by omega)];exact(Int.add_zero _).symm,fun q=>by omega⟩
 |i+1,hi=>by
  obtain⟨h1,h2,h3,h4⟩:=Wq hw hT h hs i (by omega)
  have hwi:=(vc hw (by omega) i (by omega)).1
  have h5:eJ (eO w i).ψ<=1000:=by split at h2<;>omega
  obtain⟨k1,k2,k3,k4⟩:=agN hwi (by omega) h1.fp (i:=i) (by omega) h5
  rw[h1.aP]at k4
  refine⟨h1.trans k1,?_,?_,fun q ht k hk=>?_⟩
  ·show eJ (pm (eO w i) i).ψ<=_
   split at h2<;>split at k2<;>split<;>omega
  ·show(κ (pm (eO w i) i) d).ti=_
   rw[k3,h3]
   split<;>split<;>split<;>omega
  ·rcases(by omega:d<i∨i=d)with q | q
   ·exact k1.st k ((h.rg hw).1 k hk).2.2 (h4 q ht k hk)
   ·refine k4 q ?_ k hk
    rw[h3,if_neg (by omega),Int.add_zero];exact ht
theorem Pu (hw:WI T w) (hT:T<800) (h:FP E d w L) (hs:eJ w.ψ<=1000):∀ k,WI T (gr k w)/\∃ L',mB E d w L (gr k w) L'/\eJ (gr k w).ψ<=eJ w.ψ - k/\(κ (gr k w) d).ti=(κ w d).ti
 | 0=>⟨hw,L,.refl h,ar _,rfl⟩
 |k+1=>by
  obtain⟨hwi,L',h1,h2,h3⟩:=Pu hw hT h hs k
  unfold gr
  split
  ·rename_i hl
   obtain⟨l,r,hb⟩:∃ l r,(gr k w).ψ=l::r:=by
    cases hb:(gr k w).ψ with
    |nil=>rw[hb]at hl;exact absurd hl (Nat.lt_irrefl _)
    |cons l r=>exact⟨l,r,rfl⟩
   obtain⟨L2,g1,g2,g3⟩:=ZM hwi hT h1.fp hb (by omega)
   exact⟨(yk hwi hT hl).2,L2,h1.trans g1,by omega,g3.trans h3⟩
  ·rename_i hl
   refine⟨hwi,L',h1,?_,h3⟩
   have:(gr k w).ψ=[]:=List.length_eq_zero_iff.1 (by omega)
   rw[this];exact bj _
theorem Ln {k:Int} (h:St L [] k):Ad L k:=by
 rcases h with h | ⟨x,hx,h⟩ | ⟨i,x,hx,h⟩
 ·exact h
 ·cases hx
 ·cases hx
theorem FP.now (h:FP E d w L):FP E d (cw w) L:=⟨by obtain⟨G,hJ⟩:=h.j;exact⟨G,JQ hJ⟩,h.ej.cg rfl fun l hl=>hl,h.d4,h.ld,h.ep,h.no,h.ψ⟩
theorem afl (hw:WI T w) (hT:T<690) (h:FP E d w L) (hs:eJ w.ψ<=400):WI (T+3) (qM w)/\∃ L',mB E d w L (qM w) L'/\(qM w).ψ=[]/\(κ (qM w) d).ti=(κ w d).ti+1/\(((κ w d).ti+1).tmod 3=0->∀ k∈aP (κ w d),Ad L' k):=by
 have hN:=wQ hw
 obtain⟨k1,k2,k3,k4⟩:=Wq hN (by omega) h.now (w:=cw w) (by show eJ w.ψ<=900;omega) 4 (ar _)
 have jg:=h.d4
 rw[if_pos jg]at k2 k3
 have Cr:WI (T+3) (eE w s7):=(sn hw (by omega) s7).2
 rw[Lv]at Cr
 have k2:eJ (eO (cw w) 4).ψ<=eJ w.ψ+16:=k2
 obtain⟨g0,L',g1,g2,g3⟩:=Pu Cr (by omega) k1.fp (by omega) 500
 have e:qM w=gr 500 (eO (cw w) 4):=by unfold qM;rw[Lv]
 rw[e]
 have hb:(gr 500 (eO (cw w) 4)).ψ=[]:=by
  have:=zN (gr 500 (eO (cw w) 4)).ψ
  exact List.length_eq_zero_iff.1 (by omega)
 have t1:mB E d w L (eO (cw w) 4) L:=⟨k1.fp,k1.nu,k1.v,k1.me,k1.vs,k1.st,k1.tk⟩
 refine⟨g0,L',t1.trans g1,hb,by rw[g3,k3];rfl,fun ht k hk=>?_⟩
 have:=g1.st k ((h.rg hw).1 k hk).2.2 (k4 jg ht k hk)
 rw[hb]at this
 exact Ln this
theorem Hu (hw:WI T w) (h:FP E d w L) (hs:eJ w.ψ<=400):∀ n:Nat,T+3*(n:Int)<690->WI (T+3*(n:Int)) (gu n w)/\∃ L',mB E d w L (gu n w) L'/\eJ (gu n w).ψ<=400/\(1<=n->(gu n w).ψ=[])/\(κ (gu n w) d).ti=(κ w d).ti+n/\((∀ k∈aP (κ w d),Ad L' k)∨(κ w d).ti % 3+n<3)
 | 0,_=>⟨by rw[show T+3*((0:Nat):Int)=T by omega];exact hw,L,.refl h,hs,fun q=>by omega,(Int.add_zero _).symm,.inr (by show _+0<3;omega)⟩
 |n+1,hT=>by
  obtain⟨h0,L1,h1,h2,h3,h4,h5⟩:=Hu hw h hs n (by omega)
  obtain⟨g0,L2,g1,g2,g3,g4⟩:=afl h0 (by omega) h1.fp h2
  have hr:=h1.aP
  rw[hr]at g4
  refine⟨by rw[show T+3*((n+1:Nat):Int)=T+3*(n:Int)+3 by omega];exact g0,L2,h1.trans g1,?_,fun _=>g2,by show(κ (qM (gu n w)) d).ti=_;rw[g3,h4];omega,?_⟩
  ·show eJ (qM (gu n w)).ψ<=400;rw[g2];exact bj _
  ·rcases h5 with h5 | h5
   ·refine .inl fun k hk=>?_
    have:=g1.st k ((h.rg hw).1 k hk).2.2 (.inl (h5 k hk))
    rw[g2]at this
    exact Ln this
   ·by_cases q:((κ w d).ti+n+1) % 3=0
    ·refine .inl (g4 ?_)
     have t0:=(hw.r d h.d4).w.t0
     rw[h4,Int.tmod_eq_emod_of_nonneg (by omega)];exact q
    ·exact .inr (by omega)
structure vH (E:Int) (d:Nat) (w:Wd) (L:b9):Prop where
 fp:FP E d w L
 ψ:w.ψ=[]
 ins:∀ k∈aP (κ w d),L.ins k=true
 cur:L.cur=none
theorem UT (h:FP E d w L) (hb:w.ψ=[]) (ha:∀ k∈aP (κ w d),Ad L k):vH E d w L:=by
 refine⟨h,hb,fun k hk=>(ha k hk).1,?_⟩
 cases hc:L.cur with
 |none=>rfl
 |some o=>
  have:=h.ej.dq d h.d4 L o h.ld hc
  rw[List.all_eq_true.2 fun k hk=>(ha k hk).2 (by rw[hc];intro q;cases q)]at this
  cases this
end
def fN (v:Vw) (w:Wd):Nat->Wd
 | 0=>w
 |i+1=>qT (fN v w i) i v
def mL (w:Wd):Wd:={w with ψ:=[] }
structure Qn (w:Wd):Prop where
 n:jH w
 l:w.cs.length<=12
section
variable {T:Int} {w:Wd} {E:Int} {d:Nat} {L:b9}
theorem GM (h:Qn w) (i:Nat) (R:List ι):Qn (cf {w with R:=R } i):=⟨vX h.n i R,by
 unfold cf;rw[(sy _ _).2,(nN i _ _).2.2.2.1];exact h.l⟩
theorem LM (h:Qn w):∀ i,Qn (eO w i)
 | 0=>h
 |i+1=>GM (LM h i) _ _
theorem S4 (h:Qn w):Qn (cw w):=⟨⟨h.n.h⟩,h.l⟩
theorem ZP (h:Qn w) (k:Nat):Qn (lB w k):=GM (w:=fw w k) ⟨⟨h.n.h⟩,h.l⟩ _ _
theorem agh (h:Qn w) (hw:WI T w) (s:Sp):Qn (eE w s):=by
 refine⟨VJ h.n hw s,?_⟩
 have hl:=h.l
 have cl:∀(w:Wd) (i:Nat),(cf w i).cs.length=w.cs.length:=fun w i=>by
  unfold cf;rw[(sy _ _).2,(nN i _ _).2.2.2.1];rfl
 unfold eE kN
 repeat' split
 ·unfold lH
  split
  ·split
   ·unfold lG;rw[cl];exact hl
   ·exact hl
  ·split
   ·exact hl
   ·rename_i h12
    unfold lG;rw[cl]
    show((cw w).cs++[_]).length<=12
    rw[bn,gZ];omega
 ·unfold lB;rw[cl];exact hl
 ·exact hl
 ·exact hl
 ·exact hl
 ·exact hl
 ·exact hl
 ·exact hl
 ·unfold oD
  repeat' split
  all_goals exact hl
 ·unfold qT;rw[cl];exact hl
 ·exact(LM (S4 h) 4).l
 ·exact hl
theorem U7:∀(l:List Sp) {w:Wd} {T:Int},WI T w->Qn w->T+3*(l.length:Int)<=690->Qn (l.foldl eE w)
 | [],w,T,_,h,_=>h
 |s::l,w,T,hw,h,ht=>by
  rw[gA]at ht
  exact U7 l (sn hw (by omega) s).2 (agh h hw s) (by omega)
theorem Ha (h:Qn w):∀ k,Qn (gr k w)
 | 0=>h
 |k+1=>by
  unfold gr
  split
  ·exact ZP (Ha h k) 0
  ·exact Ha h k
theorem PJ (h:Qn w):∀ n,Qn (gu n w)
 | 0=>h
 |n+1=>by
  show Qn (gr 500 (eE (gu n w) s7))
  rw[Lv]
  exact Ha (LM (S4 (PJ h n)) 4) 500
theorem Wf (v:Vw) (h:Qn w):∀ i,Qn (fN v w i)
 | 0=>h
 |i+1=>GM (Wf v h i) _ _
structure VP (E:Int) (d:Nat) (v:Vw) (i:Nat) (w:Wd):Prop where
 j:∃ G,WJ G w
 ej:EJ w
 vm:v∈w.vs
 ve:v.ve=E
 vl:(w.vs.length:Int)=E
 hd:fb v=d
 d4:d<4
 no:∀ j,j<i->j≠d->(κ w j).ld=none
 b0:i<=d->w.ψ=[]
 le:d<i->∃ L,(κ w d).ld=some L/\(κ w d).ep=E/\(κ w d).v=v/\(∀ l∈w.ψ,LF E (κ w d).nu d l)/\eJ w.ψ<=8
theorem aam {R:ι} {v:Vw} (h:v.mem≠[]) (he:fb v=R.me):d_ R v=true:=by
 unfold d_
 cases hm:v.mem with
 |nil=>exact absurd hm h
 |cons a r=>
  unfold fb at he;rw[hm]at he
  have he:a=R.me:=he
  rw[he];simp
theorem aiX {v:Vw} {i:Nat} (hw:WI T w) (hT:T<800) (h:VP E d v i w) (hi:i<4):VP E d v (i+1) (qT w i v):=by
 obtain⟨G,hJ⟩:=h.j
 have hj:=WV hw hJ hi h.vm
 have he:=WT hw h.ej hi v
 have hir:i<w.R.length:=by rw[hw.rl];exact hi
 have hr:=hw.r i hi
 have fW:=hJ.r i hi
 have jg:=h.d4
 have oT:=h.ve
 have lT:=hw.vs v h.vm
 have Cp:=vh hJ.vi h.vm
 have vi5:v.vi=5:=by
  obtain⟨k,hk⟩:=jG h.vm
  exact(hJ.vi.ve k v hk).2
 have epE:(κ w i).ep<=E:=by
  by_cases e:(κ w i).ep=0
  ·omega
  ·have:=(hJ.gi.a0 _ (fW.ac e).1).2;have:=h.vl;omega
 have rvE:(κ w i).v.ve<=E:=by
  rcases fW.v with e | e
  ·rw[e];show(0:Int)<=E;omega
  ·have:=(vh hJ.vi e).2.2;have:=h.vl;omega
 have HX:decide (v.vi=(κ w i).id/\(κ w i).v.ve<=v.ve/\(κ w i).ep<=v.ve/\1<=v.ve)=true:=by
  rw[decide_eq_true_eq];exact⟨by rw[vi5,fW.id],by omega,by omega,by omega⟩
 unfold qT at hj he ⊢
 have ei:=vW w (dV (κ w i) v) hir
 have en:∀ j,i≠j->κ (cf (bx w i (dV (κ w i) v)) i) j=κ w j:=fun j e=>uo w _ e hir
 have ev:=yg w i (dV (κ w i) v)
 have BR:((cf (bx w i (dV (κ w i) v)) i).vs.length:Int)=E:=by rw[ev];exact h.vl
 have hlen:d<i->w.ψ.length<=8:=fun q=>by obtain⟨L,_,_,_,_,g⟩:=h.le q;have:=zN w.ψ;omega
 have cz:w.ψ.length<=8:=by
  rcases kx d i with q | q
  ·exact hlen q
  ·rw[h.b0 q];exact bj _
 by_cases e:i=d
 ·subst e
  have hb:=h.b0 (ar _)
  have fst:d_ (κ w i) v=true:=aam lT.m0 (by rw[h.hd];exact fW.me.symm)
  cases hg:dR (κ w i) v with
  |false=>
   unfold dR at hg
   rw[HX,fst,Bool.true_and,kr,jo,Bool.or_eq_true]at hg
   have q1:v.ve=(κ w i).v.ve:=by simpa using hg.1
   have q2:ef (κ w i)=true:=by simpa using hg.2
   unfold ef at q2
   rw[vg (by unfold dR;rw[HX,fst,Bool.true_and,kr,jo,Bool.or_eq_true];exact hg)]at hj he ei en ev BR ⊢
   cases hL:(κ w i).ld with
   |none=>rw[hL]at q2;cases q2
   |some L=>
    have hl:=fW.l L hL
    have hvv:(κ w i).v=v:=by rw[<- (vh hJ.vi hl.v).1,<- q1];exact Cp.1
    have eb:=ru w (κ w i) hir (by rw[hr.out];show w.ψ.length+0<=_;omega) (fun p hp=>by rw[hr.out]at hp;cases hp)
    rw[hr.out,hb]at eb
    have eb:(cf (bx w i (κ w i)) i).ψ=[]:=eb
    refine⟨hj,he,by rw[ev];exact h.vm,oT,BR,h.hd,jg,fun j hj hne=>by rw[en j (by omega)];exact h.no j (by omega) hne,fun q=>by omega,fun _=>⟨L,by rw[ei];exact hL,by rw[ei];show(κ w i).ep=E;rw[hl.ep,<- q1];exact oT,by rw[ei];exact hvv,by rw[eb];exact fun l hl=>by(cases hl),by rw[eb];exact bj _⟩⟩
  |true=>
   have hlg:fv (κ w i) v=true:=by unfold fv;rw[fst,fW.lo,fW.bl,Bool.and_false];rfl
   have PF:=xq hg hlg
   have eo:(dV (κ w i) v).out=(bA (κ w i).me v.mem v.aH).map (jn (jy (κ w i) v)):=by rw[PF];show(κ w i).out++_=_;rw[hr.out];rfl
   have mo:∀ x∈bA (κ w i).me v.mem v.aH,0<=x/\x<4/\x≠i:=fun x hx=>by
    have hx2:x∈aP (jy (κ w i) v):=hx
    obtain⟨h1,h2⟩:=wM.1 hx2
    have:=lT.rg x h1
    exact⟨this.1,this.2,by rw[<- fW.me];exact h2⟩
   have lo:(bA (κ w i).me v.mem v.aH).length<=4:=JA 4 _ (by unfold bA;exact lT.nd.filter _) (fun x hx=>by have:=mo x hx;omega)
   have eb:=ru w (dV (κ w i) v) hir (by rw[eo,bT];omega) (fun p hp=>by
    rw[eo]at hp;obtain⟨x,hx,rfl⟩:=dO.1 hp;exact⟨(mo x hx).1,(mo x hx).2.1⟩)
   rw[hb,eo]at eb
   have wl:∀ l:List Int,eJ ((l.map (jn (jy (κ w i) v))).map fun p=>(⟨i,p.to,p.m⟩:fQ))=2*l.length:=fun l=>by
    induction l with
    |nil=>rfl
    |cons a r ih=>rw[kv,kv,zM,ih,gA];show 2+_=_;omega
   have e2:(κ (cf (bx w i (dV (κ w i) v)) i) i)=iH (jy (κ w i) v):=by rw[ei,PF];rfl
   generalize cf (bx w i (dV (κ w i) v)) i=w' at*
   refine⟨hj,he,by rw[ev];exact h.vm,oT,BR,h.hd,jg,fun j hj hne=>by rw[en j (by omega)];exact h.no j (by omega) hne,fun q=>by omega,fun _=>⟨_,by rw[e2];rfl,by rw[e2];exact oT,by rw[e2];rfl,?_,?_⟩⟩
   ·rw[eb,e2]
    intro l hl
    rw[jr]at hl
    obtain⟨p,hp,rfl⟩:=dO.1 hl
    obtain⟨x,hx,rfl⟩:=dO.1 hp
    exact⟨.inl ⟨rfl,(mo x hx).2.2,.inl rfl,oT,rfl⟩,fun q=>by have q:(10:Int)=12:=q;omega⟩
   ·rw[eb,jr,wl];omega
 ·have nf:d_ (κ w i) v=false:=by
   cases hf:d_ (κ w i) v with
   |false=>rfl
   |true=>
    have:=PU hf
    rw[h.hd,fW.me]at this
    omega
  have key:(dV (κ w i) v).ld=none/\(dV (κ w i) v).out=[]:=by
   cases hg:dR (κ w i) v with
   |false=>
    rw[vg hg]
    unfold dR at hg
    rw[HX,nf,Bool.true_and,kr,jo]at hg
    have q1:v.ve=(κ w i).v.ve:=by simpa using hg.1
    refine⟨?_,hr.out⟩
    cases hL:(κ w i).ld with
    |none=>rfl
    |some L=>
     have hl:=fW.l L hL
     have:=hl.hd
     rw[hl.ep,<- q1]at this
     unfold hZ at this
     rw[Cp.1,h.hd]at this
     omega
   |true=>
    rw[xp hg (by unfold fv;rw[nf];rfl)]
    exact⟨rfl,hr.out⟩
  have eb:=ru w (dV (κ w i) v) hir (by rw[key.2];show w.ψ.length+0<=_;omega) (fun p hp=>by rw[key.2]at hp;cases hp)
  rw[key.2]at eb
  have eb:(cf (bx w i (dV (κ w i) v)) i).ψ=w.ψ:=eb.trans (gz _)
  have ed:=en d e
  refine⟨hj,he,by rw[ev];exact h.vm,oT,BR,h.hd,jg,fun j hj hne=>?_,fun q=>by rw[eb];exact h.b0 (by omega),fun q=>by rw[ed,eb];exact h.le (by omega)⟩
  by_cases q:i=j
  ·subst q;rw[ei];exact key.1
  ·rw[en j q];exact h.no j (by omega) hne
theorem We {v:Vw} (hw:WI T w) (hT:T<800) (h:VP E d v 0 w):∀ i,i<=4->WI T (fN v w i)/\VP E d v i (fN v w i)
 | 0,_=>⟨hw,h⟩
 |i+1,hi=>by
  obtain⟨h1,h2⟩:=We hw hT h i (by omega)
  exact⟨(zK h1 hT (by omega) h2.vm).2.2.2.2,aiX h1 hT h2 (by omega)⟩
theorem agH {G:Gh} (hw:WI T w) (hT:T<800) (hJ:WJ G w) (he:EJ w):WI T (fN (bJ w) (mL w) 4)/\∃ L,FP (bJ w).ve (fb (bJ w)).toNat (fN (bJ w) (mL w) 4) L/\(κ (fN (bJ w) (mL w) 4) (fb (bJ w)).toNat).v=bJ w/\eJ (fN (bJ w) (mL w) 4).ψ<=8:=by
 have kV:=uN hw
 have lT:=hw.vs _ kV
 have Cl:=lT.rg _ (gQ _ (Cc lT.m0))
 have hc:WI T (mL w):=⟨hw.rl,hw.dl,hw.r,hw.dk,hw.vs,hw.v0,hw.vm,fun l hl=>(by cases hl),bj _,hw.cs,hw.cl,hw.n3,hw.nb,hw.n0,hw.n1⟩
 have hv:VP (bJ w).ve (fb (bJ w)).toNat (bJ w) 0 (mL w):=⟨⟨G,Br hJ fun l hl=>(by cases hl)⟩,he.cg rfl fun l hl=>(by cases hl),kV,rfl,(RS hJ hw).symm,by omega,by omega,fun j hj=>by omega,fun _=>rfl,fun q=>by omega⟩
 obtain⟨h1,h2⟩:=We hc hT hv 4 (ar _)
 obtain⟨L,g1,g2,g3,g4,g5⟩:=h2.le (by omega)
 refine⟨h1,L,⟨h2.j,h2.ej,h2.d4,g1,g2,fun i hi hne=>⟨h2.no i hi hne,?_⟩,g4⟩,g3,g5⟩
 obtain⟨G',Qt⟩:=h2.j
 by_cases e:(κ (fN (bJ w) (mL w) 4) i).ep=0
 ·have:=h2.d4
  rw[e]
  exact lT.e0
 ·have a:=(Qt.gi.a0 _ ((Qt.r i hi).ac e).1).2
  have b:=h2.vl
  omega
end
def dg (bk:Int):Op:=⟨3,1,3,bk,[]⟩
def il (w:Wd) (bk:Int):Wd:={w with now:=w.now+1,cs:=w.cs++[⟨dg bk,0,w.now+1,-1⟩] }
section
variable {T:Int} {w:Wd} {E:Int} {d:Nat} {L:b9}
theorem BN (hw:WI T w) (hT:T<800):∀ k,WI T (gr k w)
 | 0=>hw
 |k+1=>by
  unfold gr
  split
  ·rename_i hl;exact(yk (BN hw hT k) hT hl).2
  ·exact BN hw hT k
theorem BU (hw:WI T w):∀ n:Nat,T+3*(n:Int)<700->WI (T+3*(n:Int)) (gu n w)
 | 0,_=>by rw[show T+3*((0:Nat):Int)=T by omega];exact hw
 |n+1,hT=>by
  rw[show T+3*((n+1:Nat):Int)=T+3*(n:Int)+3 by omega]
  exact BN (sn (BU hw n (by omega)) (by omega) s7).2 (by omega) 500
structure vD (w:Wd) (n:Nat):Prop where
 s:∀ t,t<n->xN (gu t w) s7
 d:∀ t,t<n->∀ k,0<(gr k (eE (gu t w) s7)).ψ.length->vA (gr k (eE (gu t w) s7)) 0
theorem PI (hw:WI T w) {n:Nat} (hT:T+3*(n:Int)<690):vD w n:=
 ⟨fun t ht=>(sn (BU hw t (by omega)) (by omega) s7).1,fun t ht k hl=>(yk (BN (sn (BU hw t (by omega)) (by omega) s7).2 (by omega) k) (by omega) hl).1⟩
theorem aad (hw:WI T w) (h:FP E d w L) (hs:eJ w.ψ<=400) {n:Nat} (hn:3<=n) (hT:T+3*(n:Int)<690):∃ L',vH E d (gu n w) L'/\(κ (gu n w) d).v=(κ w d).v/\(gu n w).vs=w.vs:=by
 obtain⟨h0,L',h1,h2,h3,h4,h5⟩:=Hu hw h hs n hT
 have t0:=(hw.r d h.d4).w.t0
 have ho:=h1.aP
 exact⟨L',UT h1.fp (h3 (by omega)) (fun k hk=>h5.resolve_right (by omega) k (by rw[<- ho];exact hk)),h1.v,h1.vs⟩
theorem aac (hw:WI T w) (h:FP E d w L) (hs:eJ w.ψ<=400) (hst:∀ k∈aP (κ w d),St L w.ψ k) {o:Op} {ix:Nat} (ht:Tk o ix w L) {n:Nat} (hn:1<=n) (hT:T+3*(n:Int)<690):(∃ G,WJ G (gu n w))/\∃ c,(gu n w).cs[ix]? =some c/\c.en≠-1:=by
 obtain⟨h0,L',h1,h2,h3,h4,h5⟩:=Hu hw h hs n hT
 have ho:=h1.aP
 have hb:=h3 hn
 have r:=UT h1.fp hb (fun k hk=>by
  rw[ho]at hk
  have:=h1.st k ((h.rg hw).1 k hk).2.2 (hst k hk)
  rw[hb]at this
  exact Ln this)
 refine⟨h1.fp.j,?_⟩
 obtain⟨c,c1,c2,c3⟩:=h1.tk o ix ht
 refine⟨c,c1,c3.resolve_right fun q=>?_⟩
 rw[r.cur]at q;cases q
theorem KW (h:vH E d w L):gw (κ w d)=true/\lA (κ w d)=false:=by
 refine⟨?_,?_⟩
 ·unfold gw;rw[h.fp.ld];exact List.all_eq_true.2 h.ins
 ·unfold lA ci;rw[h.fp.ld];show L.cur.isSome=false;rw[h.cur];rfl
theorem KD {bk:Int} (hb:0<=bk/\bk<2):gh (dg bk)=true:=by
 unfold gh kh dg
 simp
 omega
theorem N9 (h:vH E d w L) {bk:Int} (hb:0<=bk/\bk<2):dN (κ w d) (dg bk)=(0,gC (κ w d) L (dg bk)):=
 Lp (KD hb) h.fp.ld (KW h).1 (KW h).2 (fun q=>by cases q)
theorem N8 (hw:WI T w) (hq:Qn w) (bk:Int):WI (T+1) (il w bk):=by
 have h1:=wQ hw
 have hl:=hq.l
 exact⟨h1.rl,h1.dl,h1.r,h1.dk,h1.vs,h1.v0,h1.vm,h1.ψ,h1.bl,fun c hc=>mn (P:=fun c:dy=>f_ c.o/\c.o.b.length<=2048) hw.cs ⟨⟨fun x hx=>(by cases hx),bj _⟩,bj _⟩ hc,by show(w.cs++[_]).length<=20;rw[bn,gZ];omega,h1.n3,h1.nb,h1.n0,h1.n1⟩
theorem N7 (hw:WI T w) (hq:Qn w) (bk:Int):∀ c∈w.cs,c.o.cl=(dg bk).cl->c.o.nm≠(dg bk).nm:=fun c hc e t=>by
 have e:c.o.cl=3:=e
 have t:c.o.nm=1:=t
 have h1:=(hq.n.h c hc).2
 rw[e,t]at h1
 unfold kI at h1
 rw[gO,iE (by rw[hw.n3];decide)]at h1
 have h1:(1:Int)<=0:=h1
 omega
theorem YM {G:Gh} (hw:WI T w) (hq:Qn w) (h:WJ G w) {bk:Int} (hb:0<=bk/\bk<2):WJ G (il w bk):=
 SW (JQ h) hq.l (N7 hw hq bk) ⟨hb.1,hb.2,by show(1:Int)<=3;omega,by show(3:Int)<=4;omega,fun q=>by have q:(3:Int)=1:=q;omega,fun q=>by have q:(3:Int)=2:=q;omega⟩
theorem YL (hw:WI T w) (hT:T<690) (hq:Qn w) (h:vH E d w L) {bk:Int} (hb:0<=bk/\bk<2):WI (T+2) (lG (il w bk) (dg bk) d)/\∃ L',FP E d (lG (il w bk) (dg bk) d) L'/\eJ (lG (il w bk) (dg bk) d).ψ<=400/\(∀ k∈aP (κ (lG (il w bk) (dg bk) d) d),St L' (lG (il w bk) (dg bk) d).ψ k)/\Tk (dg bk) w.cs.length (lG (il w bk) (dg bk) d) L':=by
 have hf:=h.fp
 have jg:=hf.d4
 obtain⟨G,hJ⟩:=hf.j
 have Cs:=N8 hw hq bk
 have hja:=YM hw hq hJ hb
 have tn:d<(il w bk).R.length:=by show d<w.R.length;rw[hw.rl];exact jg
 have hm:(⟨dg bk,0,w.now+1,-1⟩:dy)∈(il w bk).cs:=kQ _ (da.2 rfl)
 have hj:=Lo Cs hja jg hm (fun _ E' ho=>by
  obtain⟨c,hc,e⟩:=hJ.cs.ow E' _ ho
  exact absurd (by rw[e]) (N7 hw hq bk c hc (by rw[e])))
 have he:=Lr Cs (hf.ej.cg rfl fun l hl=>hl) jg (dg bk)
 have h0:=(zB Cs (by omega) jg (o:=dg bk) ⟨fun x hx=>(by cases hx),bj _⟩ (bj _)).2
 rw[show T+1+1=T+2 by omega]at h0
 refine⟨h0,?_⟩
 have hr:=hw.r d jg
 obtain⟨rg,rgl⟩:=hf.rg hw
 have es:(dN (κ (il w bk) d) (dg bk)).2=gC (κ w d) L (dg bk):=by
  show(dN (κ w d) (dg bk)).2=_
  rw[N9 h hb]
 have eg:lG (il w bk) (dg bk) d=cf (bx (il w bk) d (gC (κ w d) L (dg bk))) d:=by
  rw[<- es];rfl
 have en:∀ j,d≠j->κ (cf (bx (il w bk) d (gC (κ w d) L (dg bk))) d) j=κ w j:=fun j e=>uo (il w bk) _ e tn
 have ei:=vW (il w bk) (gC (κ w d) L (dg bk)) tn
 have eb:=ru (il w bk) (gC (κ w d) L (dg bk)) tn
 have He:=By (il w bk) (gC (κ w d) L (dg bk)) tn
 have Hf:=fun x=>OO (il w bk) (gC (κ w d) L (dg bk)) (x:=x) tn
 rw[eg]at hj he ⊢
 have wn:(il w bk).ψ=[]:=h.ψ
 have Wt:Tk (dg bk) w.cs.length (il w bk) {L with cur:=some (dg bk) }:=⟨⟨dg bk,0,w.now+1,-1⟩,by show(w.cs++[_])[w.cs.length]? =_;simp,rfl,.inr rfl⟩
 by_cases ho:aP (κ w d)=[]
 ·have ea:=Oe (R:=κ w d) (L:=L) (o:=dg bk) ho
  have eo:(gC (κ w d) L (dg bk)).out=[]:=by rw[ea];exact hr.out
  have ed:(gC (κ w d) L (dg bk)).done=[⟨dg bk,0,mu (fm (κ w d).c (dg bk).kd (dg bk).bk (dg bk).b) (dg bk)⟩]:=by rw[ea];show(κ w d).done++_=_;rw[hr.done];rfl
  have eb:=eb (by rw[eo,wn];exact bj _) (fun p hp=>by rw[eo]at hp;cases hp)
  rw[eo,wn]at eb
  have ec:=Hf _ ed
  have ei:=ei.trans (congrArg iH ea)
  generalize cf (bx (il w bk) d (gC (κ w d) L (dg bk))) d=w' at*
  have eb:w'.ψ=[]:=eb
  refine⟨⟨L.ins,fun _=>false,none⟩,⟨hj,he,jg,by rw[ei];rfl,by rw[ei];exact hf.ep,fun j hj hne=>by rw[en j (fun e=>hne e.symm)];exact hf.no j hj hne,by rw[eb];exact fun l hl=>by(cases hl)⟩,by rw[eb];exact bj _,fun k hk=>?_,Wt.done Cs.n0 ec rfl⟩
  have hk:k∈aP (κ w d):=by rw[ei]at hk;exact hk
  rw[ho]at hk;cases hk
 ·have ea:=Of (R:=κ w d) (L:=L) (o:=dg bk) ho
  have eo:(gC (κ w d) L (dg bk)).out=(aP (κ w d)).map (jf (gE (κ w d) (dg bk)) (dg bk)):=by rw[ea];show(κ w d).out++_=_;rw[hr.out];rfl
  have ed:(gC (κ w d) L (dg bk)).done=[]:=by rw[ea];exact hr.done
  have eb:=eb (by rw[eo,wn,bT];show 0+_<=2000;omega) (fun p hp=>by
   rw[eo]at hp;obtain⟨x,hx,rfl⟩:=dO.1 hp;exact⟨(rg x hx).1,(rg x hx).2.1⟩)
  rw[eo,wn]at eb
  have ec:=He ed
  have ei:=ei.trans (congrArg iH ea)
  have wl:∀ l:List Int,eJ ((l.map (jf (gE (κ w d) (dg bk)) (dg bk))).map fun p=>(⟨d,p.to,p.m⟩:fQ))=4*l.length:=fun l=>by
   induction l with
   |nil=>rfl
   |cons a r ih=>rw[kv,kv,zM,ih,gA];show 4+_=_;omega
  have hwr:∀ k,(jf (gE (κ w d) (dg bk)) (dg bk) k).m.n.any cJ=false:=QD (G9 hr.w (by omega) (KD hb) (fun x hx=>(by cases hx))) (by omega) (KD hb)
  generalize cf (bx (il w bk) d (gC (κ w d) L (dg bk))) d=w' at*
  rw[jr]at eb
  refine⟨⟨L.ins,fun _=>false,some (dg bk)⟩,⟨hj,he,jg,by rw[ei];rfl,by rw[ei];exact hf.ep,fun j hj hne=>by rw[en j (fun e=>hne e.symm)];exact hf.no j hj hne,?_⟩,by rw[eb,wl];omega,fun k hk=>?_,Wt.same ec rfl⟩
  ·rw[eb,ei]
   intro l hl
   obtain⟨p,hp,rfl⟩:=dO.1 hl
   obtain⟨x,hx,rfl⟩:=dO.1 hp
   exact⟨.inl ⟨rfl,(rg x hx).2.2,.inr rfl,hf.ep,rfl⟩,fun _=>hwr x⟩
  ·have hk:k∈aP (κ w d):=by rw[ei]at hk;exact hk
   refine .inr (.inr ⟨h.ins k hk,⟨d,k,(jf (gE (κ w d) (dg bk)) (dg bk) k).m⟩,?_,.inl ⟨rfl,rfl⟩⟩)
   rw[eb]
   exact List.mem_map_of_mem (f:=fun p:Post=>(⟨d,p.to,p.m⟩:fQ)) (List.mem_map_of_mem hk)
end
structure Ah (w:Wd) (n:Nat) (x:kA):Prop where
 le:x.i<=n
 W:x.W=gu x.i w
 p:PW x.A x.q x.W.R
structure Ai (w:Wd) (x:kA):Prop where
 le:x.i<=500
 W:x.W=gr x.i (eE w s7)
 p:PW x.A x.q x.W.R
abbrev Hs (w:Wd) (n t:Nat):LI where
 α:={x:kA // Ai (gu t w) x}
 live:=[0,1,4,5]
 dT:=eu
 st x:=([aj 0 0,.int γ (n:Int),.int γ (t:Int),.int γ (x.1.i:Int)],bR x.1.W x.1.q x.1.A)
 μ x:=500 - x.1.i
def aab (w:Wd) (n t:Nat):Nat->Option LI
 | 5=>some (Hs w n t)
 |_=>none
abbrev BT (w:Wd) (n:Nat):LI where
 α:={x:kA // Ah w n x}
 live:=[0,1,4]
 dT:=eu
 st x:=([aj 0 0,.int γ (n:Int),.int γ (x.1.i:Int)],bR x.1.W x.1.q x.1.A)
 μ x:=n - x.1.i
 sub x:=aab w n x.1.i
def PH (w:Wd) (n:Nat):FuncId->Nat->Option LI
 | 17,1=>some (BT w n)
 |_,_=>none
def Ht:FuncId->Option du
 | 9=>some ⟨[.ic],WM GStep⟩
 | 27=>some ⟨[.ic],WM EE⟩
 |_=>none
noncomputable def ND:cd:=dM Tryz.prog Ht aG 10
theorem ahK (w:Wd) (n:Nat) (q:List (Nat×Nat)) (A:List (Sg×KB)) (K:V->KB->Prop) (aq:
 let ω:=ε γ (↑n:Int);At (BT w n) ([aj 0 0,ω,ε γ 0],(bR w q A))/\
 ∀(i:{x:kA // Ah w n x }),(decide ((↑i.val.i:Int)<(↑n:Int))=true->
 ∃(w_1:Wd),∃(q:List (Nat×Nat)),∃(A:List (Sg×KB)),lq (dx i.val.W i.val.q i.val.A) w_1 q A/\
 PW A q w_1.R/\
 ∃(s:Sp),[fz [ε γ 7,ε γ 0,ε γ 0,ε γ 0,ο false]]=[qO s]/\
 xN w_1 s/\
 ∀(w':Wd),w'=eE w_1 s->
 ∀(q':List (Nat×Nat)) (A':List (Sg×KB)),PW A' q' w'.R->
 At (Hs w n i.val.i) ([aj 0 0,ω,ε γ (↑i.val.i:Int),ε γ 0],(bR w' q' A'))/\
 ∀(i_1:{x:kA // Ai (gu i.val.i w) x }),let θ:=Nx (BT w n) i ([aj 0 0,ω,ε γ (γ.wrap ((↑i.val.i:Int)+1))],(bR i_1.val.W i_1.val.q i_1.val.A));(decide ((↑i_1.val.i:Int)<500)=true->
 (decide ((↑(i_1.val.W.ψ.length - 0):Int) > 0)=true->
 ∃(w_2:Wd),∃(q:List (Nat×Nat)),∃(A:List (Sg×KB)),lq (dx i_1.val.W i_1.val.q i_1.val.A) w_2 q A/\
 PW A q w_2.R/\
 ∃(i_2:Nat),[ε γ 0]=[ε γ (↑i_2:Int)]/\
 vA w_2 i_2/\
 ∀(w':Wd),w'=lB w_2 i_2->
 ∀(q':List (Nat×Nat)) (A':List (Sg×KB)),PW A' q' w'.R->
 Nx (Hs w n i.val.i) i_1 ([aj 0 0,ω,ε γ (↑i.val.i:Int),ε γ (γ.wrap ((↑i_1.val.i:Int)+1))],(bR w' q' A')))/\
 (decide ((↑(i_1.val.W.ψ.length - 0):Int) > 0)=false->
 θ))/\
 (decide ((↑i_1.val.i:Int)<500)=false->
 θ))/\
 (decide ((↑i.val.i:Int)<(↑n:Int))=false->
 K (au []) (bR i.val.W i.val.q i.val.A))
 ):aI Tryz.prog ND (PH w n 17) 17 [aj 0 0,.int γ (n:Int)] (dx w q A) (eX eu (dp 8 K)):=by apply Eq.mp (a:=aq);kernel_rfl
theorem aaa:dD Tryz.prog Ht:=fun f k h=>by
 unfold Ht at h
 split at h
 ·cases h;exact TI
 ·cases h;exact Ts
 ·cases h
theorem Ye:cx Tryz.prog ND:=dP mixed aaa aG 10
def MI:List V->Wd->(V->Wd->Prop)->Prop:=fun rest w k=>∃ n:Nat,rest=[.int γ (n:Int)]/\(vD w n/\n<=1000)/\∀ w',w'=gu n w->k (.φ []) w'
theorem Pv {w:Wd} {k:Nat} (h:¬ 0<(gr k w).ψ.length):∀ j,gr (k+j) w=gr k w
 | 0=>rfl
 |j+1=>by
  have e:=Pv h j
  show(if 0<(gr (k+j) w).ψ.length then lB (gr (k+j) w) 0 else gr (k+j) w)=_
  rw[e,if_neg h]
theorem ZX {w:Wd} {k:Nat} (h:0<(gr k w).ψ.length):gr (k+1) w=lB (gr k w) 0:=if_pos h
theorem acP:aO Tryz.prog 17 (WM MI):=my Ye mixed eu (fun args kb K h=>by
 unfold WM at h;split at h<;>try exact h.elim
 obtain⟨w,q,A,⟨rfl⟩,hp,n,rfl,⟨hc,hn⟩,h⟩:=h
 refine⟨PH w n 17,?_⟩
 show aI _ _ _ _ _ _ (eX eu (dp 8 K))
 apply ahK w n q A K
 dsimp only
 refine⟨At.mk' (⟨⟨0,w,q,A⟩,bj _,rfl,hp⟩:{x:kA // Ah w n x}) rfl,?_⟩
 rintro⟨⟨t,W,q1,A1⟩,ht,hW,P1⟩
 dsimp only at ht hW P1 ⊢
 refine⟨fun hlt=>?_,fun hge=>?_⟩
 ·have hlt:t<n:=by rw[decide_eq_true_eq]at hlt;omega
  refine⟨W,q1,A1,⟨rfl⟩,P1,s7,rfl,by rw[hW];exact hc.s t hlt,fun w' hw' q' A' p'=>?_⟩
  refine⟨At.mk' (⟨⟨0,w',q',A'⟩,bj _,by rw[hw',hW];rfl,p'⟩:{x:kA // Ai (gu t w) x}) rfl,?_⟩
  rintro⟨⟨k,W2,q2,A2⟩,hk,wj,P2⟩
  dsimp only at hk wj P2 ⊢
  have ew:∀ m:Nat,m<=1000->γ.wrap ((m:Int)+1)=((m+1:Nat):Int):=fun m hm=>by rw[bE (by omega) (by omega)];omega
  have out:W2=qM (gu t w)->Nx (BT w n) ⟨⟨t,W,q1,A1⟩,ht,hW,P1⟩ ([aj 0 0,ε γ (n:Int),ε γ (γ.wrap ((t:Int)+1))],(bR W2 q2 A2)):=fun e=>
   Nx.mk' (⟨⟨t+1,W2,q2,A2⟩,hlt,e,P2⟩:{x:kA // Ah w n x}) (by rw[ew t (by omega)]) (by show n - (t+1)<n - t;omega)
  rw[ly]
  refine⟨fun uE=>⟨fun hb=>?_,fun hb=>out ?_⟩,fun uE=>out ?_⟩
  ·have uE:k<500:=by rw[decide_eq_true_eq]at uE;omega
   have hb:0<W2.ψ.length:=by rw[decide_eq_true_eq]at hb;omega
   refine⟨W2,q2,A2,⟨rfl⟩,P2,0,rfl,by rw[wj]at hb ⊢;exact hc.d t hlt k hb,fun w3 Cr q3 A3 p3=>?_⟩
   refine Nx.mk' (⟨⟨k+1,w3,q3,A3⟩,uE,by rw[Cr,wj];rw[wj]at hb;exact(ZX hb).symm,p3⟩:{x:kA // Ai (gu t w) x}) (by rw[ew k (by omega)]) (by show 500 - (k+1)<500 - k;omega)
  ·have hb:¬ 0<W2.ψ.length:=by rw[decide_eq_false_iff_not]at hb;omega
   rw[wj]at hb ⊢
   have:=Pv hb (500 - k)
   rw[show k+(500 - k)=500 by omega]at this
   exact this.symm
  ·have uE:k=500:=by rw[decide_eq_false_iff_not]at uE;omega
   subst uE
   exact wj
 ·have hge:t=n:=by rw[decide_eq_false_iff_not]at hge;omega
  subst hge
  exact h W hW q1 A1 P1)
structure jK (F:Wd) (x:PA):Prop where
 p:PW x.A x.q F.R
structure px where
 q:List (Nat×Nat)
 A:List (Sg×KB)
 e:List D
structure FJ (F:Wd) (v:Vw) (x:px):Prop where
 e:x.e=eY v
 p:PW x.A x.q F.R
structure xT where
 i:Nat
 q:List (Nat×Nat)
 A:List (Sg×KB)
 e:List D
structure Bg (Z:Wd) (v:Vw) (x:xT):Prop where
 le:x.i<=4
 e:x.e=eY v
 p:PW x.A x.q (fN v Z x.i).R
def Ho:FuncId->Option du
 | 16=>some ⟨[.ic],WM ED⟩
 | 17=>some ⟨[.ic],WM MI⟩
 |f=>IZ f
theorem Z9:dD Tryz.prog Ho:=fun f k h=>by
 unfold Ho at h
 split at h
 ·cases h;exact Tq
 ·cases h;exact acP
 ·exact abv _ _ h
structure MD (l:List Sp) (Z:Wd) (v:Vw) (o:List Int):Prop where
 z:Z=mL (ig l)
 v0:0<Z.vs.length/\Z.vs.length<=1000
 hv:v=bJ Z
 vl:v.mem.length+v.aH.length<=1000
 tl:∀ i,i<4->(fN v Z i).R.length=4/\bB (κ (fN v Z i) i)/\(κ (fN v Z i) i).out.length+(bA (κ (fN v Z i) i).me v.mem v.aH).length<=100000/\jD (bx (fN v Z i) i (dV (κ (fN v Z i) i) v)) i
 m0:v.mem≠[]
 ho:o=v.mem++v.aH
 rg:∀ x∈o,0<=x/\x<4
theorem Z_ {l:List Sp} (hl:l.length<=80):MD l (mL (ig l)) (bJ (ig l)) ((bJ (ig l)).mem++(bJ (ig l)).aH)/\WI (1+3*(l.length:Int)) (fN (bJ (ig l)) (mL (ig l)) 4):=by
 have hw:=K1 hl
 obtain⟨G,hJ⟩:=U0 (l:=l) (by omega)
 have kV:=uN hw
 have lT:=hw.vs _ kV
 have Iw:=lT.len
 have hc:WI (1+3*(l.length:Int)) (mL (ig l)):=⟨hw.rl,hw.dl,hw.r,hw.dk,hw.vs,hw.v0,hw.vm,fun l hl=>(by cases hl),bj _,hw.cs,hw.cl,hw.n3,hw.nb,hw.n0,hw.n1⟩
 have tw:∀ i,i<=4->WI (1+3*(l.length:Int)) (fN (bJ (ig l)) (mL (ig l)) i)/\bJ (ig l)∈(fN (bJ (ig l)) (mL (ig l)) i).vs:=fun i=>by
  induction i with
  |zero=>exact fun _=>⟨hc,kV⟩
  |succ i ih=>
   intro hi
   obtain⟨h1,h2⟩:=ih (by omega)
   exact⟨(zK h1 (by omega) (by omega) h2).2.2.2.2,by
    show _∈(qT _ i _).vs
    unfold qT;rw[yg];exact h2⟩
 refine⟨⟨rfl,⟨hw.v0,by have:=hw.vm;show(ig l).vs.length<=_;omega⟩,rfl,by omega,fun i hi=>?_,lT.m0,rfl,lT.rg⟩,(tw 4 (ar _)).1⟩
 obtain⟨h1,h2⟩:=tw i (by omega)
 obtain⟨c1,c2,c3,c4,_⟩:=zK h1 (by omega) hi h2
 exact⟨h1.rl,c1,c3,c4⟩
theorem ZI {l:List (Nat×ι)} {q:List (Nat×Nat)} {F:Wd} (h:CU l q F.R) {k:Nat} (hk:k<F.R.length):∃ j b,q[k]? =some (j,b)/\l[j]? =some (b,κ F k):=by
 obtain⟨⟨j,b⟩,hq⟩:=h.lt hk
 obtain⟨R2,g1,g2⟩:=h.a k _ hq
 rw[p8 (w:=F) hk]at g1;cases g1
 exact⟨j,b,hq,g2⟩
end Go.Proofs.YtfcjngcnifdmnaaGreat
namespace Go.Proofs.YtfcjngcnifdmnaaGreat.Hy
open Vc Go
open Go.IntKind renaming i64->γ,u8->ξ,u32->iM
open Vc.V renaming any->δ,int->ε,sl->ζ,sb->ο,ptr->aj,φ->au,dat->aC,aa->aR,mp->aY,arr->bF,agg->fz
open Vc.D renaming val->η,sl->χ
open Go.Value renaming int->ν,map->kT,bool->mG,oneCell'->mH
open List renaming map->ae,drop->ax,take->ay,length_append->bn,getElem?_eq_getElem->bu,getElem?_eq_some_iff->bH,length_map->bT,take_length->cQ,length_take->cW,mem_singleton->da,replicate->dv,mem_append->dz,mem_map->dO,mem_cons->dS,Mem->dW,append_assoc->dX,getElem?_append_left->dY,take_of_length_le->eQ,getElem?_append_right->fk,getElem?_map->fy,mem_of_getElem?->fF,length_drop->gm,mem_cons_of_mem->gn,append_nil->gz,length_cons->gA,getD_eq_getElem?_getD->gO,getElem?_set_ne->gP,mem_append_left->gQ,length_singleton->gZ,drop_zero->iD,getElem?_eq_none->iE,getElem?_take_of_lt->iF,length_set->iG,getElem?_set_self->iN,mem_cons_self->iV,map_append->ja,range->jb,nil_append->jr,take_add_one->jt,flatten_cons->jF,getElem?_of_mem->jG,getElem?_drop->jW,map_cons->kv,length_nil->kP,mem_append_right->kQ,mem_filter->lu,ext_getElem?->mb,eq_nil_of_length_eq_zero->mD
open Vc.KO renaming row->ai,dead->aw,cells->aB,objs->fE
open Nat renaming le_refl->ar,zero_le->bj,beq->cX,zero_add->c9,eq_of_beq_eq_true->de,add_assoc->g_,lor->iW,lt_or_ge->kx,sub_zero->ly,le_trans->mc
open Option renaming some->bb,bind_eq_some_iff->lO,map->ng
open Int renaming toNat_natCast->cN,le_refl->dE
open Bool renaming and_eq_true->jo,not_eq_false'->kr,not_eq_true'->mA
set_option linter.unusedVariables false
set_option linter.unusedSimpArgs false
set_option maxRecDepth 100000
set_option maxHeartbeats 2000000
def bN (c:Call):List D:=[dn γ c.1,dn γ c.2.1,dn γ c.2.2.1,dn γ c.2.2.2]
abbrev sK (l:List Call) (M:ML) (h:Nat) (R:List (List D)):KB:=[aB [aC (.sl 4 (l.map bN)),.mp 1,.sl 2 0 h],.mp [γ,γ] true false 1 M,ai 3 1 R]
abbrev BM (l:List Call) (m:Nat) (M:ML) (h:Nat) (R:List (List D)):LI where
 α:={i:Nat // i<=l.length/\∀ k,k<i->(bc l k).2.2.2≠-1->m.testBit k=true}
 live:=[1,10,11,12]
 st i:=([.int γ (m:Int),aC (.sl 4 (l.map bN)),.int γ (l.length:Int),.int γ (i.1:Int)],sK l M h R)
 μ i:=l.length - i.1
abbrev BX (l:List Call) (m k:Nat) (M:ML) (h:Nat) (R:List (List D)):LI where
 α:={i:Nat // i<=l.length/\∀ o,o<i->m.testBit o=false->¬ jc (bc l o) (bc l k)}
 live:=[0,1,2,39,40,41]
 st i:=([aj 0 0,.int γ (m:Int),.int γ (k:Int),aC (.sl 4 (l.map bN)),.int γ (l.length:Int),.int γ (i.1:Int)],sK l M h R)
 μ i:=l.length - i.1
abbrev Qe (l:List Call) (m k:Nat) (M:ML) (h:Nat) (R:List (List D)):LI where
 α:={i:Nat // i=0/\m.testBit k=false/\¬ sA (bc l k)}
 live:=[0,1,2]
 st i:=([aj 0 0,.int γ (m:Int),.int γ (k:Int)],sK l M h R)
 μ i:=0
def kD (l:List Call) (m k:Nat) (M:ML) (h:Nat) (R:List (List D)):FuncId->Nat->Option LI
 | 106,2=>some (BM l m M h R)
 | 108,4=>some (BX l m k M h R)
 | 108,1003=>some (Qe l m k M h R)
 |_,_=>none
abbrev H8 (o:List Int) (v:Int):LI where
 α:={i:Nat // i<=o.length/\v ∉ o.take i}
 live:=[0,1,5]
 st i:=([aC (.sl 1 (ints γ o)),.int γ v,.int γ (i.1:Int)],[])
 μ i:=o.length - i.1
def Qy (o:List Int) (v:Int):FuncId->Nat->Option LI
 | 81,2=>some (H8 o v)
 |_,_=>none
def vL:aE:=fun args kb K=>match args,kb with
 | [.agg [.int γ a,.int γ b,.int γ c,.int γ d]],[]=>K (ο (decide (ey (a,b,c,d)))) []
 |_,_=>False
def vJ:aE:=fun args kb K=>match args,kb with
 | [.agg [.int γ a,.int γ b,.int γ c,.int γ d],.int γ v],[]=>K (.φ [.int γ (kf (a,b,c,d) v),ο (decide (jZ (a,b,c,d) v))]) []
 |_,_=>False
def ET:aE:=fun args kb K=>match args,kb with
 | [.agg [.int γ a,.int γ b,.int γ c,.int γ d],.agg [.int γ a',.int γ b',.int γ c',.int γ d']],[]=>K (ο (decide (jc (a,b,c,d) (a',b',c',d')))) []
 |_,_=>False
def ud:aE:=fun args kb K=>match args,kb with
 | [aC (.sl 1 O),.int γ v],[]=>∃ o:List Int,O=ints γ o/\Sm o/\K (ο (decide (v∈o))) []
 |_,_=>False
def sk:FuncId->Option du
 | 79=>some ⟨[],vL⟩
 | 82=>some ⟨[],vL⟩
 | 107=>some ⟨[],vJ⟩
 | 116=>some ⟨[],ET⟩
 | 81=>some ⟨[.fL 1],ud⟩
 |_=>none
noncomputable def ql:cd:=dM Tryz.prog sk aG 10
theorem aiq (a b c d:Int) (K:V->KB->Prop) (aq:
 (decide (a ≥ 1)=true->
 (decide (a<=3)=true->
 (decide (c ≥ 0)=true->
 ((d == -1)=true->
 K (ο true) [])/\
 ((d == -1)=false->
 K (ο (decide (d ≥ c))) []))/\
 (decide (c ≥ 0)=false->
 K (ο false) []))/\
 (decide (a<=3)=false->
 K (ο false) []))/\
 (decide (a ≥ 1)=false->
 K (ο false) [])
 ):aI Tryz.prog X0 (aG 79) 79 [.agg [.int γ a,.int γ b,.int γ c,.int γ d]] [] K:=by apply Eq.mp (a:=aq);kernel_rfl
theorem air (a b c d:Int) (K:V->KB->Prop) (aq:
 (decide (a ≥ 1)=true->
 (decide (a<=3)=true->
 (decide (c ≥ 0)=true->
 ((d == -1)=true->
 K (ο true) [])/\
 ((d == -1)=false->
 K (ο (decide (d ≥ c))) []))/\
 (decide (c ≥ 0)=false->
 K (ο false) []))/\
 (decide (a<=3)=false->
 K (ο false) []))/\
 (decide (a ≥ 1)=false->
 K (ο false) [])
 ):aI Tryz.prog X0 (aG 82) 82 [.agg [.int γ a,.int γ b,.int γ c,.int γ d]] [] K:=by apply Eq.mp (a:=aq);kernel_rfl
theorem L6 (a b c d v:Int) (K:V->KB->Prop) (aq:
 ((a == 1)=true->
 K (au [ε γ b,ο true]) [])/\
 ((a == 1)=false->
 ((a == 2)=true->
 K (au [ε γ 0,ο true]) [])/\
 ((a == 2)=false->
 K (au [ε γ v,ο (b == v)]) []))
 ):aI Tryz.prog X0 (aG 107) 107 [.agg [.int γ a,.int γ b,.int γ c,.int γ d],.int γ v] [] K:=by apply Eq.mp (a:=aq);kernel_rfl
theorem aha (a b c d a' b' c' d':Int) (K:V->KB->Prop) (aq:
 ((d != -1)=true->
 K (ο (decide (d<c'))) [])/\
 ((d != -1)=false->
 K (ο false) [])
 ):aI Tryz.prog X0 (aG 116) 116 [.agg [.int γ a,.int γ b,.int γ c,.int γ d],.agg [.int γ a',.int γ b',.int γ c',.int γ d']] [] K:=by apply Eq.mp (a:=aq);kernel_rfl
theorem L5 (o:List Int) (v:Int) (K:V->KB->Prop) (aq:
 At (H8 o v) ([aC (χ 1 (ints γ o)),ε γ v,ε γ 0],[])/\
 ∀(i:{i:Nat // i<=o.length/\
 ¬v∈ay i o }),let θ:=(↑i.val:Int)<(↑(ints γ o).length:Int);(decide (θ)=true->
 aA (↑i.val:Int)/\
 ∃(e:List D),(ints γ o)[(↑i.val:Int).toNat]? =some e/\
 ∃(n:Int),e[0]? =some (η (ν γ n))/\
 ((n == v)=true->
 K (ο true) [])/\
 ((n == v)=false->
 Nx (H8 o v) i ([aC (χ 1 (ints γ o)),ε γ v,ε γ (γ.wrap ((↑i.val:Int)+1))],[])))/\
 (decide (θ)=false->
 K (ο false) [])
 ):aI Tryz.prog X0 (Qy o v 81) 81 [aC (.sl 1 (ints γ o)),.int γ v] [] K:=by apply Eq.mp (a:=aq);kernel_rfl
theorem ahB (l:List Call) (m:Nat) (M:ML) (q:Nat) (R:List (List D)) (K:V->KB->Prop) (aq:
 let aN:=aC (χ 4 (ae bN l));let θ:KB:=[aB [aN,aY 1,ζ 2 0 q],KO.mp [γ,γ] true false 1 M,ai 3 1 R];At (BM l m M q R) ([ε γ (↑m:Int),aN,ε γ (↑(ae bN l).length:Int),ε γ 0],θ)/\
 ∀(i:{i:Nat // i<=l.length/\
 ∀(k:Nat),k<i->
 (bc l k).snd.snd.snd≠-1->
 m.testBit k=true }),let av:=(γ.wrap (↑(BitVec.ofInt 64 (qN γ (↑m:Int) (↑i.val:Int)) &&& BitVec.ofInt 64 1).toNat:Int) == 0);let ω:=Nx (BM l m M q R) i ([ε γ (↑m:Int),aN,ε γ (↑l.length:Int),ε γ (γ.wrap ((↑i.val:Int)+1))],θ);(decide ((↑i.val:Int)<(↑l.length:Int))=true->
 aA (↑i.val:Int)/\
 ∃(e:List D),(ae bN l)[(↑i.val:Int).toNat]? =some e/\
 ∃(n:Int),e[0]? =some (η (ν γ n))/\
 ∃(n:Int),e[1]? =some (η (ν γ n))/\
 ∃(n:Int),e[2]? =some (η (ν γ n))/\
 ∃(n:Int),e[3]? =some (η (ν γ n))/\
 ((n != -1)=true->
 ((↑i.val:Int)<0->
 False)/\
 (av=true->
 K (ο false) θ)/\
 (av=false->
 ω))/\
 ((n != -1)=false->
 ω))/\
 (decide ((↑i.val:Int)<(↑l.length:Int))=false->
 K (ο true) θ)
 ):aI Tryz.prog ql (kD l m 0 M q R 106) 106 [aj 0 0,.int γ (m:Int)] (sK l M q R) K:=by apply Eq.mp (a:=aq);kernel_rfl
theorem ahM (l:List Call) (m:Nat) (k:Nat) (M:ML) (q:Nat) (R:List (List D)) (K:V->KB->Prop) (aq:
 let bD:=ε γ (↑k:Int);let bp:=ε γ (↑m:Int);let aU:=aC (χ 4 (ae bN l));let aN:=(γ.wrap (↑(BitVec.ofInt 64 (qN γ (↑m:Int) (↑k:Int)) &&& BitVec.ofInt 64 1).toNat:Int) != 0);let θ:KB:=[aB [aU,aY 1,ζ 2 0 q],KO.mp [γ,γ] true false 1 M,ai 3 1 R];let aJ:=At (Qe l m k M q R) ([aj 0 0,bp,bD],θ);(((↑k:Int)<0->
 False)/\
 (aN=true->
 K (ο false) θ)/\
 (aN=false->
 aA (↑k:Int)/\
 ∃(e:List D),(ae bN l)[(↑k:Int).toNat]? =some e/\
 ∃(n:Int),e[0]? =some (η (ν γ n))/\
 ((n == 3)=true->
 aA (↑k:Int)/\
 ∃(e:List D),(ae bN l)[(↑k:Int).toNat]? =some e/\
 ∃(n:Int),e[3]? =some (η (ν γ n))/\
 ((n == -1)=true->
 K (ο false) θ)/\
 ((n == -1)=false->
 aJ))/\
 ((n == 3)=false->
 aJ)))/\
 ∀(i:{i:Nat // i=0/\
 m.testBit k=false/\
 ¬sA (bc l k) }),At (BX l m k M q R) ([aj 0 0,bp,bD,aU,ε γ (↑(ae bN l).length:Int),ε γ 0],θ)/\
 ∀(i:{i:Nat // i<=l.length/\
 ∀(o:Nat),o<i->
 m.testBit o=false->
 ¬jc (bc l o) (bc l k) }),let av:=(γ.wrap (↑(BitVec.ofInt 64 (qN γ (↑m:Int) (↑i.val:Int)) &&& BitVec.ofInt 64 1).toNat:Int) == 0);let ω:=Nx (BX l m k M q R) i ([aj 0 0,bp,bD,aU,ε γ (↑l.length:Int),ε γ (γ.wrap ((↑i.val:Int)+1))],θ);(decide ((↑i.val:Int)<(↑l.length:Int))=true->
 aA (↑i.val:Int)/\
 ∃(e:List D),(ae bN l)[(↑i.val:Int).toNat]? =some e/\
 ∃(n:Int),e[0]? =some (η (ν γ n))/\
 ∃(n_1:Int),e[1]? =some (η (ν γ n_1))/\
 ∃(n_2:Int),e[2]? =some (η (ν γ n_2))/\
 ∃(dB:Int),e[3]? =some (η (ν γ dB))/\
 ((↑i.val:Int)<0->
 False)/\
 (av=true->
 aA (↑k:Int)/\
 ∃(e:List D),(ae bN l)[(↑k:Int).toNat]? =some e/\
 ∃(iI:Int),e[0]? =some (η (ν γ iI))/\
 ∃(nJ:Int),e[1]? =some (η (ν γ nJ))/\
 ∃(ot:Int),e[2]? =some (η (ν γ ot))/\
 ∃(o6:Int),let bM:=(jc (n,n_1,n_2,dB) (iI,nJ,ot,o6));e[3]? =some (η (ν γ o6))/\
 (decide bM=true->
 K (ο false) θ)/\
 (decide bM=false->
 ω))/\
 (av=false->
 ω))/\
 (decide ((↑i.val:Int)<(↑l.length:Int))=false->
 K (ο true) θ)
 ):aI Tryz.prog ql (kD l m k M q R 108) 108 [aj 0 0,.int γ (m:Int),.int γ (k:Int)] (sK l M q R) K:=by apply Eq.mp (a:=aq);kernel_rfl
theorem afM:aO Tryz.prog 79 vL:=eC ga mixed (fun args kb K h=>by
 unfold vL at h;split at h<;>try exact h.elim
 rename_i a b c d
 refine⟨aG 79,aiq a b c d K ?_⟩
 simp only[decide_eq_true_eq,decide_eq_false_iff_not,beq_iff_eq,beq_eq_false_iff_ne]
 refine⟨fun h1=>⟨fun h2=>⟨fun h3=>⟨fun h4=>?_,fun h4=>?_⟩,fun h3=>?_⟩,fun h2=>?_⟩,fun h1=>?_⟩
 ·rwa [decide_eq_true (show ey (a,b,c,d) by unfold ey;simp only;omega)]at h
 ·rwa [decide_eq_decide.2 (show ey (a,b,c,d) ↔ d ≥ c by unfold ey;simp only;omega)]at h
 ·rwa [decide_eq_false (show ¬ ey (a,b,c,d) by unfold ey;simp only;omega)]at h
 ·rwa [decide_eq_false (show ¬ ey (a,b,c,d) by unfold ey;simp only;omega)]at h
 ·rwa [decide_eq_false (show ¬ ey (a,b,c,d) by unfold ey;simp only;omega)]at h)
theorem afN:aO Tryz.prog 82 vL:=eC ga mixed (fun args kb K h=>by
 unfold vL at h;split at h<;>try exact h.elim
 rename_i a b c d
 refine⟨aG 82,air a b c d K ?_⟩
 simp only[decide_eq_true_eq,decide_eq_false_iff_not,beq_iff_eq,beq_eq_false_iff_ne]
 refine⟨fun h1=>⟨fun h2=>⟨fun h3=>⟨fun h4=>?_,fun h4=>?_⟩,fun h3=>?_⟩,fun h2=>?_⟩,fun h1=>?_⟩
 ·rwa [decide_eq_true (show ey (a,b,c,d) by unfold ey;simp only;omega)]at h
 ·rwa [decide_eq_decide.2 (show ey (a,b,c,d) ↔ d ≥ c by unfold ey;simp only;omega)]at h
 ·rwa [decide_eq_false (show ¬ ey (a,b,c,d) by unfold ey;simp only;omega)]at h
 ·rwa [decide_eq_false (show ¬ ey (a,b,c,d) by unfold ey;simp only;omega)]at h
 ·rwa [decide_eq_false (show ¬ ey (a,b,c,d) by unfold ey;simp only;omega)]at h)
theorem afL:aO Tryz.prog 107 vJ:=eC ga mixed (fun args kb K h=>by
 unfold vJ at h;split at h<;>try exact h.elim
 rename_i a b c d v
 refine⟨aG 107,L6 a b c d v K ?_⟩
 simp only[beq_iff_eq,beq_eq_false_iff_ne]
 refine⟨fun h1=>?_,fun h1=>⟨fun h2=>?_,fun h2=>?_⟩⟩
 ·rwa [decide_eq_true (show jZ (a,b,c,d) v by unfold jZ;simp only;omega),show kf (a,b,c,d) v=b from if_pos h1]at h
 ·rwa [decide_eq_true (show jZ (a,b,c,d) v by unfold jZ;simp only;omega),show kf (a,b,c,d) v=0 by unfold kf;rw[if_neg h1,if_pos h2]]at h
 ·rw[decide_eq_decide.2 (show jZ (a,b,c,d) v ↔ b=v by unfold jZ;simp only;omega),show kf (a,b,c,d) v=v by unfold kf;rw[if_neg h1,if_neg h2]]at h
  have:decide (b=v)=(b == v):=by rw[Bool.eq_iff_iff];simp
  rwa [this]at h)
theorem afJ:aO Tryz.prog 116 ET:=eC ga mixed (fun args kb K h=>by
 unfold ET at h;split at h<;>try exact h.elim
 rename_i a b c d a' b' c' d'
 refine⟨aG 116,aha a b c d a' b' c' d' K ?_⟩
 simp only[bne_iff_ne,ne_eq,bne_eq_false_iff_eq]
 refine⟨fun h1=>?_,fun h1=>?_⟩
 ·rwa [decide_eq_decide.2 (show jc (a,b,c,d) (a',b',c',d') ↔ d<c' by unfold jc;simp only;omega)]at h
 ·rwa [decide_eq_false (show ¬ jc (a,b,c,d) (a',b',c',d') by unfold jc;simp only;omega)]at h)
theorem afK:aO Tryz.prog 81 ud:=eC ga mixed (fun args kb K h=>by
 unfold ud at h;split at h<;>try exact h.elim
 rename_i v
 obtain⟨o,rfl,pO,h⟩:=h
 unfold Sm at pO
 refine⟨Qy o v 81,L5 o v K ⟨At.mk' ⟨0,bj _,by simp⟩ rfl,?_⟩⟩
 rintro⟨i,hi,ht⟩
 simp only[bi,decide_eq_true_eq,decide_eq_false_iff_not]
 refine⟨fun hc=>?_,fun hc=>?_⟩
 ·have hq:o[i]? =some o[i]:=bu (by omega)
  refine⟨by unfold aA;omega,[η (.int γ o[i])],by rw[cN,kY,hq];rfl,o[i],rfl,fun hx=>?_,fun hx=>?_⟩
  ·simp only[beq_iff_eq]at hx
   rwa [decide_eq_true (by rw[<- hx];exact List.getElem_mem _)]at h
  ·simp only[beq_eq_false_iff_ne,ne_eq]at hx
   rw[bE (by omega) (by omega)]
   refine Nx.mk' (⟨i+1,by omega,?_⟩:{i:Nat // i<=o.length/\v ∉ o.take i}) rfl (by show o.length - (i+1)<o.length - i;omega)
   rw[jt,hq,dz]
   rintro(h1 | h1)
   ·exact ht h1
   ·simp at h1;exact hx h1.symm
 ·have:i=o.length:=by omega
  subst this
  rw[cQ]at ht
  rwa [decide_eq_false ht]at h)
theorem zy:dD Tryz.prog sk:=fun f k h=>by
 unfold sk at h
 split at h<;>first | (cases h;first | exact afM | exact afN | exact afL | exact afJ | exact afK) | cases h
theorem vP:cx Tryz.prog ql:=dP mixed zy aG 10
theorem Y2 {m i:Nat} (hm:m<2 ^ 62) (hi:i<=60):γ.wrap ((BitVec.ofInt 64 (qN γ (m:Int) (i:Int)) &&& BitVec.ofInt 64 1).toNat:Int)=((m / 2 ^ i % 2:Nat):Int):=by
 have e1:qN γ (m:Int) (i:Int)=((m / 2 ^ i:Nat):Int):=by
  unfold qN
  rw[cN,show min i γ.bits=i from Nat.min_eq_left (by show i<=64;omega),Int.fdiv_eq_ediv_of_nonneg _ (by exact_mod_cast bj _)]
  norm_cast
 have hlt:m / 2 ^ i<2 ^ 62:=Nat.lt_of_le_of_lt (Nat.div_le_self _ _) hm
 rw[e1,BitVec.toNat_and,BitVec.toNat_ofInt,BitVec.toNat_ofInt]
 generalize m / 2 ^ i=z at hlt
 have e2:((z:Int) % ((2 ^ 64:Nat):Int)).toNat=z:=by omega
 rw[e2,show((1:Int) % ((2 ^ 64:Nat):Int)).toNat=1 from rfl,Nat.and_one_is_mod]
 rw[bE (by omega) (by omega)]
theorem vT {m i:Nat} (hm:m<2 ^ 62) (hi:i<=60):(γ.wrap ((BitVec.ofInt 64 (qN γ (m:Int) (i:Int)) &&& BitVec.ofInt 64 1).toNat:Int) == 0)= !m.testBit i:=by
 rw[Y2 hm hi,Nat.testBit_eq_decide_div_mod_eq,Bool.eq_iff_iff]
 simp only[beq_iff_eq,mA,decide_eq_false_iff_not]
 omega
theorem YN {l:List Call} {i:Nat} (h:i<l.length):l[i]? =some (bc l i):=by
 unfold bc;rw[gO,bu h];rfl
theorem sV {l:List Call} {i:Nat} (h:i<l.length):(l.map bN)[((i:Nat):Int).toNat]? =some (bN (bc l i)):=by
 rw[cN,fy,YN h];rfl
instance (l:List Call) (m:Nat):Decidable (full l m):=by unfold full;infer_instance
instance (l:List Call) (m k:Nat):Decidable (free l m k):=by unfold free;infer_instance
def E8:aE:=fun args kb K=>match args,kb with
 | [aj 0 0,.int γ M0],[aB [aC (.sl 4 L),.mp 1,.sl 2 0 h],.mp [γ,γ] true false 1 M,ai 3 1 R]=>∃(l:List Call) (m:Nat),M0=m/\L=l.map bN/\l.length<=20/\m<2 ^ 62/\K (ο (decide (full l m))) (sK l M h R)
 |_,_=>False
def E9:aE:=fun args kb K=>match args,kb with
 | [aj 0 0,.int γ M0,.int γ k0],[aB [aC (.sl 4 L),.mp 1,.sl 2 0 h],.mp [γ,γ] true false 1 M,ai 3 1 R]=>∃(l:List Call) (m k:Nat),M0=m/\k0=k/\L=l.map bN/\l.length<=20/\m<2 ^ 62/\k<l.length/\K (ο (decide (free l m k))) (sK l M h R)
 |_,_=>False
theorem acI:aO Tryz.prog 106 E8:=eC vP mixed (fun args kb K h=>by
 unfold E8 at h;split at h<;>try exact h.elim
 rename_i hh M R
 obtain⟨l,m,rfl,rfl,hl,hm,h⟩:=h
 refine⟨kD l m 0 M hh R 106,ahB l m M hh R K ⟨by rw[bT];exact At.mk' ⟨0,bj _,fun k hk=>absurd hk (Nat.not_lt_zero _)⟩ rfl,?_⟩⟩
 rintro⟨i,hi,ht⟩
 have nx:i<l.length->((bc l i).2.2.2≠-1->m.testBit i=true)->Nx (BM l m M hh R) ⟨i,hi,ht⟩ ([ε γ (m:Int),aC (χ 4 (l.map bN)),ε γ (l.length:Int),ε γ (γ.wrap ((i:Int)+1))],sK l M hh R):=fun hlt hb=>by
  rw[bE (by omega) (by omega)]
  refine Nx.mk' (⟨i+1,by omega,fun k hk he=>?_⟩:{i:Nat // i<=l.length/\∀ k,k<i->(bc l k).2.2.2≠-1->m.testBit k=true}) rfl (by show l.length - (i+1)<l.length - i;omega)
  by_cases hki:k=i
  ·subst hki;exact hb he
  ·exact ht k (by omega) he
 simp only[decide_eq_true_eq,decide_eq_false_iff_not]
 refine⟨fun hc=>?_,fun hc=>?_⟩
 ·refine⟨by unfold aA;omega,bN (bc l i),sV (by omega),(bc l i).1,rfl,(bc l i).2.1,rfl,(bc l i).2.2.1,rfl,(bc l i).2.2.2,rfl,fun he=>⟨fun f=>by omega,fun hb=>?_,fun hb=>?_⟩,fun he=>?_⟩
  ·rw[vT hm (by omega)]at hb
   simp only[bne_iff_ne,ne_eq,mA]at he hb
   rwa [decide_eq_false (fun hf:full l m=>by have:=hf i (by omega) he;rw[this]at hb;cases hb)]at h
  ·rw[vT hm (by omega)]at hb
   simp only[kr]at hb
   exact nx (by omega) fun _=>hb
  ·simp only[bne_eq_false_iff_eq]at he
   exact nx (by omega) fun f=>absurd he f
 ·rwa [decide_eq_true (show full l m from fun k hk he=>ht k (by omega) he)]at h)
theorem acQ:aO Tryz.prog 108 E9:=eC vP mixed (fun args kb K h=>by
 unfold E9 at h;split at h<;>try exact h.elim
 rename_i hh M R
 obtain⟨l,m,k,rfl,rfl,rfl,hl,hm,hk,h⟩:=h
 have hk1:=sV hk
 refine⟨kD l m k M hh R 108,ahM l m k M hh R K ⟨⟨fun f=>by omega,fun hb=>?_,fun hb=>?_⟩,?_⟩⟩
 ·rw[bne,vT hm (by omega)]at hb
  simp only[Bool.not_not]at hb
  rwa [decide_eq_false (fun hf:free l m k=>by rw[hf.1]at hb;cases hb)]at h
 ·rw[bne,vT hm (by omega)]at hb
  simp only[Bool.not_not]at hb
  refine⟨by unfold aA;omega,_,hk1,(bc l k).1,rfl,fun h3=>⟨by unfold aA;omega,_,hk1,(bc l k).2.2.2,rfl,fun h4=>?_,fun h4=>?_⟩,fun h3=>?_⟩
  ·simp only[beq_iff_eq]at h3 h4
   rwa [decide_eq_false (fun hf:free l m k=>hf.2.1 ⟨h3,h4⟩)]at h
  ·simp only[beq_eq_false_iff_ne]at h4
   exact At.mk' ⟨0,rfl,hb,fun hu=>h4 hu.2⟩ rfl
  ·simp only[beq_eq_false_iff_ne]at h3
   exact At.mk' ⟨0,rfl,hb,fun hu=>h3 hu.1⟩ rfl
 rintro⟨_,_,hb,hun⟩
 refine⟨by rw[bT];exact At.mk' ⟨0,bj _,fun k hk=>absurd hk (Nat.not_lt_zero _)⟩ rfl,?_⟩
 rintro⟨i,hi,ht⟩
 have nx:i<l.length->(m.testBit i=false->¬ jc (bc l i) (bc l k))->Nx (BX l m k M hh R) ⟨i,hi,ht⟩ ([aj 0 0,ε γ (m:Int),ε γ (k:Int),aC (χ 4 (l.map bN)),ε γ (l.length:Int),ε γ (γ.wrap ((i:Int)+1))],sK l M hh R):=fun hlt hb=>by
  rw[bE (by omega) (by omega)]
  refine Nx.mk' (⟨i+1,by omega,fun o ho he=>?_⟩:{i:Nat // i<=l.length/\∀ o,o<i->m.testBit o=false->¬ jc (bc l o) (bc l k)}) rfl (by show l.length - (i+1)<l.length - i;omega)
  by_cases hki:o=i
  ·subst hki;exact hb he
  ·exact ht o (by omega) he
 simp only[decide_eq_true_eq,decide_eq_false_iff_not]
 refine⟨fun hc=>?_,fun hc=>?_⟩
 ·refine⟨by unfold aA;omega,bN (bc l i),sV (by omega),(bc l i).1,rfl,(bc l i).2.1,rfl,(bc l i).2.2.1,rfl,(bc l i).2.2.2,rfl,fun f=>by omega,fun uz=>?_,fun uz=>?_⟩
  ·rw[vT hm (by omega)]at uz
   simp only[mA]at uz
   refine⟨by unfold aA;omega,_,hk1,(bc l k).1,rfl,(bc l k).2.1,rfl,(bc l k).2.2.1,rfl,(bc l k).2.2.2,rfl,fun ha=>?_,fun ha=>?_⟩
   ·rwa [decide_eq_false (fun hf:free l m k=>hf.2.2 i (by omega) uz ha)]at h
   ·exact nx (by omega) fun _=>ha
  ·rw[vT hm (by omega)]at uz
   simp only[kr]at uz
   exact nx (by omega) fun f=>by rw[uz]at f;cases f
 ·rwa [decide_eq_true (show free l m k from⟨hb,hun,fun o ho he=>ht o (by omega) he⟩)]at h)
end Go.Proofs.YtfcjngcnifdmnaaGreat.Hy
