import Derived.WalkKit
import Derived.Orders
import Derived.Deep.AppendSrc
import Derived.Laws.StructEq
import Derived.Laws.Tables
import Derived.MapKept
set_option linter.unusedSimpArgs false
set_option linter.unusedVariables false
namespace Vc
open Go
open Go.IntKind renaming i64->Z,u8->ι,u32->ic
open Go.Value renaming int->ν,map->kq,oneCell'->lU,bool->nE
open List renaming map->φ,drop->ay,take->az,length_append->bn,getElem?_eq_getElem->bp,getElem?_eq_some_iff->bG,length_map->bX,take_length->cM,length_take->cQ,replicate->dq,mem_append->dM,append_assoc->dO,getElem?_append_left->dP,mem_singleton->dQ,Mem->dS,mem_cons->ey,mem_map->eL,take_of_length_le->eM,getElem?_append_right->eW,mem_of_getElem?->fi,append_nil->fD,getElem?_map->fE,mem_cons_of_mem->fM,length_drop->fQ,getElem?_set_ne->gr,getD_eq_getElem?_getD->gD,getElem?_eq_none->gO,drop_zero->g_,getElem?_take_of_lt->hU,getElem?_set_self->ig,length_singleton->ii,length_set->ir,mem_cons_self->iu,range->iw,mem_append_left->iL,length_cons->iZ,take_add_one->i_,flatten_cons->jm,getElem?_drop->jw,getElem?_of_mem->jx,map_append->jy,nil_append->jV,length_nil->kn,mem_filter->kM,ext_getElem?->lw,eq_nil_of_length_eq_zero->ma,map_cons->mb,mem_append_right->mc
open Nat renaming le_refl->av,zero_le->bt,beq->cp,eq_of_beq_eq_true->cU,zero_add->c9,add_assoc->gE,lor->iy,lt_or_ge->jX,sub_zero->lT,le_trans->mf
open Option renaming some->bb,bind_eq_some_iff->kP,map->mO
open Int renaming toNat_natCast->cP,le_refl->fa
open Bool renaming and_eq_true->km,not_eq_false'->lm,not_eq_true'->lR
inductive D where
 |val (v:Value)
 |sl (sz:Nat) (l:List (List D))
 deriving Inhabited
abbrev EH:=Nat->Option Obj
def EH.cell (E:EH) (b o:Nat):Option Value:=
 match E b with
 |some (.cells c _ _)=>c[o]?
 |_=>none
def EH.le (E E':EH):Prop:=∀ b o,E b=some o->E' b=some o
theorem EH.le.refl (E:EH):E.le E:=fun _ _ h=>h
theorem EH.le.trans {A B C:EH} (h:A.le B) (k:B.le C):A.le C:=fun b o x=>k b o (h b o x)
theorem EH.le.cell {E E':EH} (h:E.le E') {b o:Nat} {v:Value} (hc:E.cell b o=some v):E'.cell b o=some v:=by
 unfold EH.cell at*
 cases hb:E b with
 |none=>simp [hb]at hc
 |some x=>rw[h b x hb];rw[hb]at hc;exact hc
mutual
def bK (E:EH):D->Value->Prop
 | .val v,x=>x=v/\v.oneCell'=true
 | .sl sz l,x=>∃ a cap,x= .slice a l.length cap/\l.length<=cap/\(l.length=0∨∃ b off,a=some ⟨b,off,none⟩/\fb E sz l b off)
def di (E:EH):List D->Nat->Nat->Prop
 | [],_,_=>True
 |c::cs,b,off=>(∃ v,E.cell b off=some v/\bK E c v)/\di E cs b (off+1)
def fb (E:EH) (sz:Nat):List (List D)->Nat->Nat->Prop
 | [],_,_=>True
 |e::l,b,off=>(e.length=sz/\di E e b off)/\fb E sz l b (off+sz)
end
mutual
theorem bK.mono {E E':EH} (h:E.le E'):∀{d:D} {v:Value},bK E d v->bK E' d v
 | .val _,_,hr=>by simpa [bK]using hr
 | .sl sz l,x,hr=>by
  simp only[bK]at hr ⊢
  obtain⟨a,cap,h1,h2,h3⟩:=hr
  exact⟨a,cap,h1,h2,h3.elim .inl (fun⟨b,off,e,r⟩=> .inr ⟨b,off,e,fb.mono h r⟩)⟩
theorem di.mono {E E':EH} (h:E.le E'):∀{cs:List D} {b off:Nat},di E cs b off->di E' cs b off
 | [],_,_,_=>by simp [di]
 |c::cs,b,off,hr=>by
  simp only[di]at hr ⊢
  obtain⟨⟨v,h1,h2⟩,h3⟩:=hr
  exact⟨⟨v,h.cell h1,bK.mono h h2⟩,di.mono h h3⟩
theorem fb.mono {E E':EH} (h:E.le E'):∀{sz:Nat} {l:List (List D)} {b off:Nat},fb E sz l b off->fb E' sz l b off
 |_,[],_,_,_=>by simp [fb]
 |sz,e::l,b,off,hr=>by
  simp only[fb]at hr ⊢
  exact⟨⟨hr.1.1,di.mono h hr.1.2⟩,fb.mono h hr.2⟩
end
theorem bK.one {E:EH} {d:D} {v:Value} (h:bK E d v):v.oneCell'=true:=by
 cases d with
 |val w=>simp only[bK]at h;rw[h.1];exact h.2
 |sl sz l=>simp only[bK]at h;obtain⟨a,cap,rfl,_⟩:=h;rfl
theorem di.at {E:EH}:∀{cs:List D} {b off:Nat},di E cs b off->∀{j:Nat} {d:D},cs[j]? =some d->∃ v,E.cell b (off+j)=some v/\bK E d v
 | [],_,_,_,_,_,h=>by simp at h
 |c::cs,b,off,hr,j,d,h=>by
  simp only[di]at hr
  cases j with
  |zero=>simp at h;subst h;exact hr.1
  |succ j=>
   obtain⟨v,h1,h2⟩:=di.at hr.2 (j:=j) (by simpa using h)
   exact⟨v,by rw[show off+(j+1)=off+1+j by omega];exact h1,h2⟩
theorem di.yr {E:EH}:∀{cs:List D} {b off:Nat},(∀(j:Nat) (d:D),cs[j]? =some d->∃ v,E.cell b (off+j)=some v/\bK E d v)->di E cs b off
 | [],_,_,_=>by simp [di]
 |c::cs,b,off,h=>by
  simp only[di]
  refine⟨by simpa using h 0 c rfl,di.yr fun j d hj=>?_⟩
  have:=h (j+1) d (by simpa using hj)
  rwa [show off+1+j=off+(j+1) by omega]
theorem di.sub {E:EH} {cs:List D} {b off:Nat} (h:di E cs b off) (k m:Nat):di E ((cs.drop k).take m) b (off+k):=
 di.yr fun j d hj=>by
  have hj':cs[k+j]? =some d:=by
   rw[<- jw]
   have hlt:j<m:=by
    have:=(bG.1 hj).1
    simp only[cQ]at this
    omega
   rwa [hU hlt]at hj
  have:=h.at hj'
  rwa [gE]
theorem di.append {E:EH} {cs ds:List D} {b off:Nat} (h:di E cs b off) (k:di E ds b (off+cs.length)):di E (cs++ds) b off:=
 di.yr fun j d hj=>by
  rcases jX j cs.length with hl | hl
  ·rw[dP hl]at hj;exact h.at hj
  ·rw[eW hl]at hj
   have:=k.at hj
   rwa [show off+cs.length+(j - cs.length)=off+j by omega]at this
def wl (sz:Nat) (l:List (List D)):Prop:=∀ e∈l,e.length=sz
theorem wl.append {sz:Nat} {l m:List (List D)} (h:wl sz l) (k:wl sz m):wl sz (l++m):=fun e he=>by
 rcases dM.1 he with h1 | h1
 ·exact h e h1
 ·exact k e h1
theorem wl.take {sz:Nat} {l:List (List D)} (h:wl sz l) (n:Nat):wl sz (l.take n):=fun e he=>h e (List.mem_of_mem_take he)
theorem wl.drop {sz:Nat} {l:List (List D)} (h:wl sz l) (n:Nat):wl sz (l.drop n):=fun e he=>h e (List.mem_of_mem_drop he)
theorem wl.nil {sz:Nat}:wl sz []:=fun e he=>by cases he
theorem wl.set {sz:Nat} {l:List (List D)} (h:wl sz l) (n:Nat) {e:List D} (he:e.length=sz):wl sz (l.set n e):=fun x hx=>by
 rcases List.mem_or_eq_of_mem_set hx with h2 | h2
 ·exact h x h2
 ·rw[h2];exact he
theorem wl.cons {sz:Nat} {e:List D} {l:List (List D)} (h:wl sz (e::l)):wl sz l:=fun x hx=>h x (fM _ hx)
theorem o9 {α:Type} {sz:Nat}:∀{l:List (List α)},(∀ e∈l,e.length=sz)->l.flatten.length=l.length*sz
 | [],_=>by simp
 |e::l,h=>by
  rw[jm,bn,o9 (fun x hx=>h x (fM _ hx)),h e (by simp),iZ,Nat.succ_mul];omega
theorem Oi {α:Type} {sz:Nat}:∀{l:List (List α)},(∀ e∈l,e.length=sz)->∀{i j:Nat} {e:List α} {c:α},l[i]? =some e->e[j]? =some c->l.flatten[i*sz+j]? =some c
 | [],_,_,_,_,_,h,_=>by simp at h
 |a::l,hs,0,j,e,c,h,k=>by
  simp at h;subst h
  rw[jm,Nat.zero_mul,c9,dP (bG.1 k).1];exact k
 |a::l,hs,i+1,j,e,c,h,k=>by
  have ha:=hs a (by simp)
  rw[jm,show(i+1)*sz+j=a.length+(i*sz+j) by rw[Nat.succ_mul,ha];omega,eW (by omega),Nat.add_sub_cancel_left]
  exact Oi (fun x hx=>hs x (fM _ hx)) (by simpa using h) k
theorem xH {α:Type} {sz:Nat}:∀{l:List (List α)},(∀ e∈l,e.length=sz)->∀ n,(l.drop n).flatten=l.flatten.drop (n*sz)
 |_,_,0=>by simp
 | [],_,n+1=>by simp
 |c::l,hs,n+1=>by
  have hc:c.length=sz:=hs c (by simp)
  rw[List.drop_succ_cons,jm,show(n+1)*sz=c.length+n*sz by rw[Nat.succ_mul,hc];omega,List.drop_length_add_append]
  exact xH (fun e he=>hs e (fM _ he)) n
theorem xI {α:Type} {sz:Nat}:∀{l:List (List α)},(∀ e∈l,e.length=sz)->∀ n,(l.take n).flatten=l.flatten.take (n*sz)
 |_,_,0=>by simp
 | [],_,n+1=>by simp
 |c::l,hs,n+1=>by
  have hc:c.length=sz:=hs c (by simp)
  rw[List.take_succ_cons,jm,jm,show(n+1)*sz=c.length+n*sz by rw[Nat.succ_mul,hc];omega,List.take_length_add_append]
  rw[xI (fun e he=>hs e (fM _ he)) n]
theorem Gx {α:Type} {sz:Nat}:∀{l:List (List α)},(∀ e∈l,e.length=sz)->∀{ix:Nat} {e:List α},l[ix]? =some e->(l.flatten.drop (ix*sz)).take sz=e
 | [],_,_,_,h=>by simp at h
 |c::l,hs,0,e,h=>by
  have hc:c.length=sz:=hs c (by simp)
  simp at h;subst h
  simp [<- hc]
 |c::l,hs,ix+1,e,h=>by
  have hc:c.length=sz:=hs c (by simp)
  rw[jm,show(ix+1)*sz=c.length+ix*sz by rw[Nat.succ_mul,hc];omega,List.drop_length_add_append]
  exact Gx (fun e he=>hs e (fM _ he)) (by simpa using h)
theorem fb.wl {E:EH}:∀{sz:Nat} {l:List (List D)} {b off:Nat},fb E sz l b off->Vc.wl sz l
 |_,[],_,_,_=>wl.nil
 |sz,e::l,b,off,h=>by
  simp only[fb]at h
  intro x hx
  rcases ey.1 hx with rfl | hx
  ·exact h.1.1
  ·exact fb.wl h.2 x hx
theorem fb.flat {E:EH}:∀{sz:Nat} {l:List (List D)} {b off:Nat},fb E sz l b off->di E l.flatten b off
 |_,[],_,_,_=>by simp [di]
 |sz,e::l,b,off,h=>by
  simp only[fb]at h
  rw[jm]
  exact h.1.2.append (by rw[h.1.1];exact fb.flat h.2)
theorem fb.of_flat {E:EH}:∀{sz:Nat} {l:List (List D)} {b off:Nat},Vc.wl sz l->di E l.flatten b off->fb E sz l b off
 |_,[],_,_,_,_=>by simp [fb]
 |sz,e::l,b,off,hw,h=>by
  simp only[fb]
  have he:=hw e (by simp)
  rw[jm]at h
  refine⟨⟨he,?_⟩,fb.of_flat hw.cons ?_⟩
  ·have:=h.sub 0 e.length
   rw[g_,List.take_left]at this
   exact this
  ·have:=h.sub e.length l.flatten.length
   rw[List.drop_left,cM,he]at this
   exact this
def a_ (E:EH):List D->List Value->Prop
 | [],xs=>xs=[]
 |d::ds,xs=>∃ x xs',xs=x::xs'/\bK E d x/\a_ E ds xs'
theorem a_.len {E:EH}:∀{ds:List D} {xs:List Value},a_ E ds xs->xs.length=ds.length
 | [],_,h=>by simp only[a_]at h;simp [h]
 |d::ds,_,h=>by simp only[a_]at h;obtain⟨x,xs',rfl,_,h2⟩:=h;simp [a_.len h2]
theorem a_.mono {E E':EH} (hE:E.le E'):∀{ds:List D} {xs:List Value},a_ E ds xs->a_ E' ds xs
 | [],_,h=>by simpa only[a_]using h
 |d::ds,_,h=>by simp only[a_]at h ⊢;obtain⟨x,xs',h0,h1,h2⟩:=h;exact⟨x,xs',h0,h1.mono hE,h2.mono hE⟩
theorem a_.nil {E:EH}:a_ E [] []:=by simp [a_]
theorem a_.cons {E:EH} {d:D} {x:Value} {ds:List D} {xs:List Value} (h:bK E d x) (k:a_ E ds xs):a_ E (d::ds) (x::xs):=by
 simp only[a_];exact⟨x,xs,rfl,h,k⟩
theorem a_.get {E:EH}:∀{ds:List D} {xs:List Value},a_ E ds xs->∀{i:Nat} {d:D},ds[i]? =some d->∃ x,xs[i]? =some x/\bK E d x
 | [],_,_,_,_,hv=>by simp at hv
 |c::ds,_,h,i,d,hv=>by
  simp only[a_]at h
  obtain⟨x,xs',rfl,h1,h2⟩:=h
  cases i with
  |zero=>simp at hv;subst hv;exact⟨x,rfl,h1⟩
  |succ i=>simpa using a_.get h2 (i:=i) (by simpa using hv)
theorem a_.get' {E:EH} {ds:List D} {xs:List Value} (h:a_ E ds xs) {i:Nat} {x:Value} (hx:xs[i]? =some x):∃ d,ds[i]? =some d/\bK E d x:=by
 have hi:=(bG.1 hx).1
 rw[h.len]at hi
 obtain⟨y,hy,hd⟩:=h.get (bp hi)
 rw[hx]at hy;cases hy
 exact⟨_,bp hi,hd⟩
theorem a_.one {E:EH} {ds:List D} {xs:List Value} (h:a_ E ds xs):∀ c∈xs,c.oneCell'=true:=fun c hc=>by
 obtain⟨i,hi⟩:=jx hc
 obtain⟨d,_,hd⟩:=h.get' hi
 exact hd.one
theorem a_.append {E:EH}:∀{ds:List D} {xs:List Value},a_ E ds xs->∀{es:List D} {ys:List Value},a_ E es ys->a_ E (ds++es) (xs++ys)
 | [],_,h,_,_,k=>by simp only[a_]at h;simpa [h]using k
 |d::ds,_,h,_,_,k=>by
  simp only[a_]at h
  obtain⟨x,xs',rfl,h1,h2⟩:=h
  exact .cons h1 (h2.append k)
theorem a_.drop {E:EH}:∀{ds:List D} {xs:List Value},a_ E ds xs->∀ n,a_ E (ds.drop n) (xs.drop n)
 |_,_,h,0=>by simpa using h
 | [],_,h,n+1=>by simp only[a_]at h;simp [h,a_]
 |d::ds,_,h,n+1=>by
  simp only[a_]at h
  obtain⟨x,xs',rfl,_,h2⟩:=h
  simpa using h2.drop n
theorem a_.take {E:EH}:∀{ds:List D} {xs:List Value},a_ E ds xs->∀ n,a_ E (ds.take n) (xs.take n)
 |_,_,_,0=>by simp [a_]
 | [],_,h,n+1=>by simp only[a_]at h;simp [h,a_]
 |d::ds,_,h,n+1=>by
  simp only[a_]at h
  obtain⟨x,xs',rfl,h1,h2⟩:=h
  simp only[List.take_succ_cons]
  exact .cons h1 (h2.take n)
theorem a_.split {E:EH} {ds es:List D} {xs:List Value} (h:a_ E (ds++es) xs):∃ ys zs,xs=ys++zs/\a_ E ds ys/\a_ E es zs:=by
 refine⟨xs.take ds.length,xs.drop ds.length,(List.take_append_drop _ _).symm,?_,?_⟩
 ·have:=h.take ds.length
  rwa [List.take_left]at this
 ·have:=h.drop ds.length
  rwa [List.drop_left]at this
theorem a_.rep {E:EH} {ds:List D} {xs:List Value} (h:a_ E ds xs) {b off:Nat} (hc:∀(j:Nat) (x:Value),xs[j]? =some x->E.cell b (off+j)=some x):di E ds b off:=
 di.yr fun j d hj=>by
  obtain⟨x,h1,h2⟩:=h.get hj
  exact⟨x,hc j x h1,h2⟩
theorem di.AK {E:EH}:∀{ds:List D} {b off:Nat},di E ds b off->∃ xs,a_ E ds xs/\∀(j:Nat) (x:Value),xs[j]? =some x->E.cell b (off+j)=some x
 | [],b,off,_=>⟨[],.nil,by simp⟩
 |d::ds,b,off,h=>by
  simp only[di]at h
  obtain⟨⟨v,h1,h2⟩,h3⟩:=h
  obtain⟨xs,h4,h5⟩:=h3.AK
  refine⟨v::xs,.cons h2 h4,fun j x hj=>?_⟩
  cases j with
  |zero=>simp at hj;subst hj;exact h1
  |succ j=>rw[show off+(j+1)=off+1+j by omega];exact h5 j x (by simpa using hj)
theorem a_.replicate {E:EH} {d:D} {x:Value} (h:bK E d x):∀ n,a_ E (dq n d) (dq n x)
 | 0=> .nil
 |n+1=>by rw[List.replicate_succ,List.replicate_succ];exact .cons h (a_.replicate h n)
def splice {α:Type} (l:List α) (off:Nat) (vs:List α):List α:=l.take off++vs++l.drop (off+vs.length)
theorem mF {α:Type} {l:List α} {off:Nat} {vs:List α} (h:off+vs.length<=l.length):(splice l off vs).length=l.length:=by
 simp [splice];omega
theorem a_.splice {E:EH} {ds es:List D} {xs ys:List Value} (h:a_ E ds xs) (k:a_ E es ys) (off:Nat):a_ E (Vc.splice ds off es) (Vc.splice xs off ys):=by
 unfold Vc.splice
 rw[k.len]
 exact((h.take off).append k).append (h.drop _)
def dJ (agg:Bool) (cs:List Value):Value:=if agg then .agg cs.toArray else cs.getD 0 undef
def dC (aA:List IntKind) (k:List Int):List Value:=List.zipWith ν aA k
def ct (E:EH) (aA:List IntKind) (aS agg:Bool):List MapEntry->List (List Int×List D)->Prop
 | [],l=>l=[]
 |e::es,l=>∃ k c l',l=(k,c)::l'/\(k.length=aA.length/\e.key=dJ aS (dC aA k)/\∃ ys,e.val=dJ agg ys/\a_ E c ys)/\ct E aA aS agg es l'
theorem ct.mono {E E':EH} (hE:E.le E') {aA:List IntKind} {aS agg:Bool}:∀{es:List MapEntry} {l:List (List Int×List D)},ct E aA aS agg es l->ct E' aA aS agg es l
 | [],_,h=>by simpa only[ct]using h
 |e::es,_,h=>by
  simp only[ct]at h ⊢
  obtain⟨k,c,l',h0,⟨h1,h1',ys,h2,h3⟩,h4⟩:=h
  exact⟨k,c,l',h0,⟨h1,h1',ys,h2,h3.mono hE⟩,h4.mono hE⟩
theorem ct.len {E:EH} {aA:List IntKind} {aS agg:Bool}:∀{es:List MapEntry} {l:List (List Int×List D)},ct E aA aS agg es l->es.length=l.length
 | [],_,h=>by simp only[ct]at h;simp [h]
 |e::es,_,h=>by
  simp only[ct]at h
  obtain⟨k,c,l',rfl,_,h4⟩:=h
  simp [h4.len]
def tg (es:List MapEntry) (clock:Nat):Prop:=(es.map (·.born)).Nodup/\∀ e∈es,e.born<clock
def r7 (E:EH) (aA:List IntKind) (aS agg:Bool) (sz:Nat) (a:Option Nat) (l:List (List Int×List D)):Prop:=match a with
 |none=>l=[]
 |some b=>wl sz (l.map (·.2))/\∃ es clock,E b=some (.map es clock)/\ct E aA aS agg es.toList l/\tg es.toList clock
theorem r7.mono {E E':EH} (hE:E.le E') {aA:List IntKind} {aS agg:Bool} {sz:Nat} {a:Option Nat} {l:List (List Int×List D)} (h:r7 E aA aS agg sz a l):r7 E' aA aS agg sz a l:=by
 cases a with
 |none=>exact h
 |some b=>
  obtain⟨h1,es,clock,h2,h3,h4⟩:=h
  exact⟨h1,es,clock,hE _ _ h2,h3.mono hE,h4⟩
def zv (E:EH) (o:Option (List D)) (x:Value):Prop:=(o=none/\x= .pointer none)∨∃ e b,o=some e/\x= .pointer (some ⟨b,0,none⟩)/\di E e b 0
theorem zv.mono {E E':EH} (hE:E.le E') {o:Option (List D)} {x:Value} (h:zv E o x):zv E' o x:=h.elim .inl fun⟨e,b,h1,h2,h3⟩=> .inr ⟨e,b,h1,h2,di.mono hE h3⟩
inductive V where
 |any (v:Value)
 |int (k:IntKind) (n:Int)
 |lit (k:IntKind) (n:Int)
 |sb (b:Bool)
 |tt
 |ff
 |ptr (i off:Nat)
 |pa (i base o:Nat)
 |sl (i lo hi:Nat)
 |pe (i ix br:Nat)
 |pw (i ix:Nat)
 |e0
 |sa (i base o s n c:Nat)
 |se (i ix o s n c:Nat)
 |dat (d:D)
 |dK (e:List D) (br:Nat)
 |aa (o:Option (List D))
 |imp (aA:List IntKind) (aS agg:Bool) (sz:Nat) (l:List (List Int×List D))
 |agg (l:List V)
 |υ (l:List V)
 |fn (f:FuncId) (cap:List V)
 |mp (i:Nat)
 |ch (i:Nat)
 |arr (m:Nat) (cs:List D)
 deriving Inhabited
structure Re where
 blk:Nat
 cap:Nat
 sz:Nat
abbrev Sg:=List Re
inductive KO where
 |cells (l:List V)
 |row (ty:TypeId) (sz:Nat) (l:List (List D))
 |mp (aA:List IntKind) (aS:Bool) (agg:Bool) (sz:Nat) (l:List (List Int×List D))
 |ch (agg:Bool) (sz cap:Nat) (l:List (List D))
 |objs (A:List (List Re×List KO))
 |iW (a:List Re×List KO)
 |dead
 deriving Inhabited
abbrev KB:=List KO
mutual
def Den (σ:Sg) (E:EH):V->Value->Prop
 | .any v,x=>x=v
 | .int k n,x=>x= .int k n
 | .lit k n,x=>x= .int k n
 | .sb b,x=>x= .bool b
 | .tt,x=>x= .bool true
 | .ff,x=>x= .bool false
 | .ptr i off,x=>∃ r,σ[i]? =some r/\x= .pointer (some ⟨r.blk,off,none⟩)
 | .pa i base o,x=>∃ r,σ[i]? =some r/\x= .pointer (some ⟨r.blk,base+o,none⟩)
 | .sl i lo hi,x=>∃ r a,σ[i]? =some r/\x= .slice a (hi - lo) (r.cap - lo)/\lo<=hi/\hi<=r.cap/\(lo<r.cap->a=some ⟨r.blk,lo*r.sz,none⟩)
 | .pe i ix br,x=>∃ r,σ[i]? =some r/\x= .pointer (some ⟨r.blk,ix*r.sz+br,none⟩)
 | .pw i ix,x=>∃ r,σ[i]? =some r/\x= .pointer (some ⟨r.blk,ix*r.sz,none⟩)
 | .e0,x=>∃ a,x= .slice a 0 0
 | .sa i base o s n c,x=>∃ r a,σ[i]? =some r/\x= .slice a n c/\n<=c/\(0<c->a=some ⟨r.blk,base+o,none⟩)
 | .se i ix o s n c,x=>∃ r a,σ[i]? =some r/\x= .slice a n c/\n<=c/\(0<c->a=some ⟨r.blk,ix*r.sz+o,none⟩)
 | .dat d,x=>bK E d x
 | .dK e br,x=>∃ b off,x= .pointer (some ⟨b,off+br,none⟩)/\di E e b off
 | .aa o,x=>zv E o x
 | .imp aA aS agg sz l,x=>∃ a,x= .map a/\r7 E aA aS agg sz a l
 | .agg l,x=>∃ vs,x= .agg vs.toArray/\aT σ E l vs
 | .υ l,x=>∃ vs,x= .tuple vs.toArray/\aq σ E l vs
 | .fn f cap,x=>∃ vs,x= .func (.func f) #[] vs.toArray/\aq σ E cap vs
 | .mp i,x=>∃ r,σ[i]? =some r/\x= .map (some r.blk)
 | .ch i,x=>∃ r,σ[i]? =some r/\x= .chan (some r.blk)
 | .arr _ _,_=>False
def aq (σ:Sg) (E:EH):List V->List Value->Prop
 | [],xs=>xs=[]
 |v::vs,xs=>∃ x xs',xs=x::xs'/\Den σ E v x/\aq σ E vs xs'
def aT (σ:Sg) (E:EH):List V->List Value->Prop
 | [],xs=>xs=[]
 |v::vs,xs=>∃ ys zs,xs=ys++zs/\((∃ y,ys=[y]/\y.oneCell'=true/\Den σ E v y)∨(∃ m cs,v= .arr m cs/\cs.length=m/\a_ E cs ys))/\aT σ E vs zs
end
def mN (σ:Sg) (E:EH) (v:V) (ys:List Value):Prop:=(∃ y,ys=[y]/\y.oneCell'=true/\Den σ E v y)∨(∃ m cs,v= .arr m cs/\cs.length=m/\a_ E cs ys)
theorem gk {σ τ:Sg} {i:Nat} {r:Re} (h:σ[i]? =some r):(σ++τ)[i]? =some r:=by
 have hi:i<σ.length:=by
  rcases jX i σ.length with h' | h'
  ·exact h'
  ·simp [gO h']at h
 rw[dP hi];exact h
mutual
theorem Den.mono {σ τ:Sg} {E E':EH} (h:E.le E'):∀{v:V} {x:Value},Den σ E v x->Den (σ++τ) E' v x
 | .any _,_,hd | .int ..,_,hd | .lit ..,_,hd | .sb _,_,hd | .tt,_,hd | .ff,_,hd | .e0,_,hd=>by simpa [Den]using hd
 | .arr ..,_,hd=>by simp only[Den]at hd
 | .ptr i off,_,hd=>by simp only[Den]at hd ⊢;obtain⟨r,h1,h2⟩:=hd;exact⟨r,gk h1,h2⟩
 | .pa i base o,_,hd=>by simp only[Den]at hd ⊢;obtain⟨r,h1,h2⟩:=hd;exact⟨r,gk h1,h2⟩
 | .mp i,_,hd=>by simp only[Den]at hd ⊢;obtain⟨r,h1,h2⟩:=hd;exact⟨r,gk h1,h2⟩
 | .ch i,_,hd=>by simp only[Den]at hd ⊢;obtain⟨r,h1,h2⟩:=hd;exact⟨r,gk h1,h2⟩
 | .sl i lo hi,_,hd=>by simp only[Den]at hd ⊢;obtain⟨r,a,h1,h2⟩:=hd;exact⟨r,a,gk h1,h2⟩
 | .sa ..,_,hd=>by simp only[Den]at hd ⊢;obtain⟨r,a,h1,h2⟩:=hd;exact⟨r,a,gk h1,h2⟩
 | .se ..,_,hd=>by simp only[Den]at hd ⊢;obtain⟨r,a,h1,h2⟩:=hd;exact⟨r,a,gk h1,h2⟩
 | .pe i ix br,_,hd=>by simp only[Den]at hd ⊢;obtain⟨r,h1,h2⟩:=hd;exact⟨r,gk h1,h2⟩
 | .pw i ix,_,hd=>by simp only[Den]at hd ⊢;obtain⟨r,h1,h2⟩:=hd;exact⟨r,gk h1,h2⟩
 | .dK e br,_,hd=>by simp only[Den]at hd ⊢;obtain⟨b,off,h1,h2⟩:=hd;exact⟨b,off,h1,di.mono h h2⟩
 | .aa o,_,hd=>by simp only[Den]at hd ⊢;exact hd.mono h
 | .imp ..,_,hd=>by simp only[Den]at hd ⊢;obtain⟨a,h1,h2⟩:=hd;exact⟨a,h1,h2.mono h⟩
 | .dat d,_,hd=>by simp only[Den]at hd ⊢;exact bK.mono h hd
 | .agg l,_,hd=>by simp only[Den]at hd ⊢;obtain⟨vs,h1,h2⟩:=hd;exact⟨vs,h1,aT.mono h h2⟩
 | .υ l,_,hd=>by simp only[Den]at hd ⊢;obtain⟨vs,h1,h2⟩:=hd;exact⟨vs,h1,aq.mono h h2⟩
 | .fn f cap,_,hd=>by simp only[Den]at hd ⊢;obtain⟨vs,h1,h2⟩:=hd;exact⟨vs,h1,aq.mono h h2⟩
theorem aq.mono {σ τ:Sg} {E E':EH} (h:E.le E'):∀{vs:List V} {xs:List Value},aq σ E vs xs->aq (σ++τ) E' vs xs
 | [],_,hd=>by simpa [aq]using hd
 |v::vs,_,hd=>by
  simp only[aq]at hd ⊢
  obtain⟨x,xs',h1,h2,h3⟩:=hd
  exact⟨x,xs',h1,Den.mono h h2,aq.mono h h3⟩
theorem aT.mono {σ τ:Sg} {E E':EH} (h:E.le E'):∀{vs:List V} {xs:List Value},aT σ E vs xs->aT (σ++τ) E' vs xs
 | [],_,hd=>by simpa [aT]using hd
 |v::vs,_,hd=>by
  simp only[aT]at hd ⊢
  obtain⟨ys,zs,h1,h2,h3⟩:=hd
  refine⟨ys,zs,h1,?_,aT.mono h h3⟩
  rcases h2 with ⟨y,e,o,hy⟩ | ⟨m,cs,e,hl,hd⟩
  ·exact .inl ⟨y,e,o,Den.mono h hy⟩
  ·exact .inr ⟨m,cs,e,hl,hd.mono h⟩
end
theorem aq.len {σ:Sg} {E:EH}:∀{vs:List V} {xs:List Value},aq σ E vs xs->xs.length=vs.length
 | [],_,h=>by simp only[aq]at h;simp [h]
 |v::vs,_,h=>by
  simp only[aq]at h
  obtain⟨x,xs',rfl,_,h2⟩:=h
  simp [aq.len h2]
theorem aq.get {σ:Sg} {E:EH}:∀{vs:List V} {xs:List Value},aq σ E vs xs->∀{i:Nat} {v:V},vs[i]? =some v->∃ x,xs[i]? =some x/\Den σ E v x
 | [],_,_,_,_,hv=>by simp at hv
 |v::vs,_,h,i,u,hv=>by
  simp only[aq]at h
  obtain⟨x,xs',rfl,h1,h2⟩:=h
  cases i with
  |zero=>simp at hv;subst hv;exact⟨x,rfl,h1⟩
  |succ i=>simpa using aq.get h2 (i:=i) (by simpa using hv)
theorem aq.append {σ:Sg} {E:EH}:∀{vs:List V} {xs:List Value},aq σ E vs xs->∀{us:List V} {ys:List Value},aq σ E us ys->aq σ E (vs++us) (xs++ys)
 | [],_,h,_,_,hu=>by simp only[aq]at h;simpa [h]using hu
 |v::vs,_,h,_,_,hu=>by
  simp only[aq]at h
  obtain⟨x,xs',rfl,h1,h2⟩:=h
  simp only[List.cons_append,aq]
  exact⟨x,xs'++_,rfl,h1,h2.append hu⟩
theorem aq.nil {σ:Sg} {E:EH}:aq σ E [] []:=by simp [aq]
theorem aq.cons {σ:Sg} {E:EH} {v:V} {x:Value} {vs:List V} {xs:List Value} (h:Den σ E v x) (k:aq σ E vs xs):aq σ E (v::vs) (x::xs):=by
 simp only[aq];exact⟨x,xs,rfl,h,k⟩
theorem aT.nil {σ:Sg} {E:EH}:aT σ E [] []:=by simp [aT]
theorem aT.cons {σ:Sg} {E:EH} {v:V} {ys:List Value} {vs:List V} {xs:List Value} (h:mN σ E v ys) (k:aT σ E vs xs):aT σ E (v::vs) (ys++xs):=by
 simp only[aT];exact⟨ys,xs,rfl,h,k⟩
theorem aT.jc {σ:Sg} {E:EH} {v:V} {y:Value} {vs:List V} {xs:List Value} (h:Den σ E v y) (h1:y.oneCell'=true) (k:aT σ E vs xs):aT σ E (v::vs) (y::xs):=
 aT.cons (ys:=[y]) (.inl ⟨y,rfl,h1,h⟩) k
theorem aT.io {σ:Sg} {E:EH} {v:V} {vs:List V} {xs:List Value} (h:aT σ E (v::vs) xs):∃ ys zs,xs=ys++zs/\mN σ E v ys/\aT σ E vs zs:=by
 simp only[aT]at h;exact h
theorem aT.append {σ:Sg} {E:EH}:∀{vs:List V} {xs:List Value},aT σ E vs xs->∀{us:List V} {ys:List Value},aT σ E us ys->aT σ E (vs++us) (xs++ys)
 | [],_,h,_,_,hu=>by simp only[aT]at h;simpa [h]using hu
 |v::vs,_,h,_,_,hu=>by
  obtain⟨ys,zs,rfl,h1,h2⟩:=h.io
  rw[dO]
  exact aT.cons h1 (h2.append hu)
def V.w:V->Nat
 | .arr m _=>m
 |_=>1
theorem mN.len {σ:Sg} {E:EH} {v:V} {ys:List Value} (h:mN σ E v ys):ys.length=v.w:=by
 rcases h with ⟨y,rfl,_,hy⟩ | ⟨m,cs,rfl,hl,hd⟩
 ·cases v<;>first | rfl | (simp only[Den]at hy)
 ·rw[hd.len,hl];rfl
theorem mN.one {σ:Sg} {E:EH} {v:V} {ys:List Value} (h:mN σ E v ys):∀ c∈ys,c.oneCell'=true:=by
 rcases h with ⟨y,rfl,h1,hy⟩ | ⟨m,cs,rfl,hl,hd⟩
 ·intro c hc;simp at hc;subst hc;exact h1
 ·exact hd.one
def wid:List V->Nat
 | []=>0
 |v::vs=>v.w+wid vs
theorem aT.len {σ:Sg} {E:EH}:∀{vs:List V} {xs:List Value},aT σ E vs xs->xs.length=wid vs
 | [],_,h=>by simp only[aT]at h;simp [h,wid]
 |v::vs,_,h=>by
  obtain⟨ys,zs,rfl,h1,h2⟩:=h.io
  rw[bn,h1.len,h2.len];rfl
theorem aT.one {σ:Sg} {E:EH}:∀{vs:List V} {xs:List Value},aT σ E vs xs->∀ c∈xs,c.oneCell'=true
 | [],_,h,c,hc=>by simp only[aT]at h;subst h;cases hc
 |v::vs,_,h,c,hc=>by
  obtain⟨ys,zs,rfl,h1,h2⟩:=h.io
  rcases dM.1 hc with hc | hc
  ·exact h1.one c hc
  ·exact h2.one c hc
def rM:Nat->Nat->Option Nat
 |n,0=>some n
 | 0,_+1=>none
 |n+1,w+1=>rM n w
theorem wq:∀{n w k:Nat},rM n w=some k->n=w+k
 |n,0,k,h=>by simp [rM]at h;omega
 | 0,w+1,k,h=>by simp [rM]at h
 |n+1,w+1,k,h=>by have:=wq (n:=n) (w:=w) (by simpa [rM]using h);omega
def qM:List V->Nat->Option (List V)
 |l,0=>some l
 | [],_+1=>none
 |v::l,n+1=>match rM (n+1) v.w with | some k=>qM l k | none=>none
def uy:List V->Nat->Option (List V)
 |_,0=>some []
 | [],_+1=>none
 |v::l,n+1=>match rM (n+1) v.w with
  |some k=>match uy l k with | some r=>some (v::r) | none=>none
  |none=>none
theorem sr {σ:Sg} {E:EH}:∀{l:List V} {n:Nat} {r:List V},qM l n=some r->∀{xs:List Value},aT σ E l xs->aT σ E r (xs.drop n)/\n<=xs.length
 |l,0,r,h,xs,hd=>by simp [qM]at h;subst h;exact⟨by simpa using hd,bt _⟩
 | [],n+1,r,h,xs,hd=>by simp [qM]at h
 |v::l,n+1,r,h,xs,hd=>by
  simp only[qM]at h
  split at h
  ·rename_i k hk
   have e:=wq hk
   obtain⟨ys,zs,rfl,h1,h2⟩:=hd.io
   obtain⟨h3,h4⟩:=sr h h2
   have hl:=h1.len
   rw[e,<- hl,List.drop_length_add_append]
   exact⟨h3,by simp;omega⟩
  ·cases h
theorem C6 {σ:Sg} {E:EH}:∀{l:List V} {n:Nat} {r:List V},uy l n=some r->∀{xs:List Value},aT σ E l xs->aT σ E r (xs.take n)/\n<=xs.length
 |l,0,r,h,xs,hd=>by simp [uy]at h;subst h;exact⟨by simp [aT],bt _⟩
 | [],n+1,r,h,xs,hd=>by simp [uy]at h
 |v::l,n+1,r,h,xs,hd=>by
  simp only[uy]at h
  split at h<;>try (cases h;done)
  rename_i k hk
  split at h<;>try (cases h;done)
  rename_i r' hr
  cases h
  have e:=wq hk
  obtain⟨ys,zs,rfl,h1,h2⟩:=hd.io
  obtain⟨h3,h4⟩:=C6 hr h2
  have hl:=h1.len
  rw[e,<- hl,List.take_length_add_append]
  exact⟨aT.cons h1 h3,by simp;omega⟩
def jg:List V->Nat->List V->Option (List V)
 |l,0,vs=>match qM l (wid vs)with | some r=>some (vs++r) | none=>none
 | [],_+1,_=>none
 |v::l,n+1,vs=>match rM (n+1) v.w with
  |some k=>match jg l k vs with | some r=>some (v::r) | none=>none
  |none=>none
theorem uu {σ:Sg} {E:EH}:∀{l:List V} {n:Nat} {vs r:List V},jg l n vs=some r->∀{xs:List Value},aT σ E l xs->∀{ys:List Value},aT σ E vs ys->aT σ E r (splice xs n ys)/\n+ys.length<=xs.length
 |l,0,vs,r,h,xs,hd,ys,hv=>by
  simp only[jg]at h
  split at h<;>try (cases h;done)
  rename_i t ht
  cases h
  obtain⟨h1,h2⟩:=sr ht hd
  rw[<- hv.len]at h1 h2
  refine⟨?_,by omega⟩
  unfold splice
  simpa using hv.append h1
 | [],n+1,vs,r,h,xs,hd,ys,hv=>by simp [jg]at h
 |v::l,n+1,vs,r,h,xs,hd,ys,hv=>by
  simp only[jg]at h
  split at h<;>try (cases h;done)
  rename_i k hk
  split at h<;>try (cases h;done)
  rename_i r' hr
  cases h
  have e:=wq hk
  obtain⟨us,zs,rfl,h1,h2⟩:=hd.io
  obtain⟨h3,h4⟩:=uu hr h2 hv
  have hl:=h1.len
  refine⟨?_,by simp;omega⟩
  have:splice (us++zs) (n+1) ys=us++splice zs k ys:=by
   unfold splice
   rw[e,<- hl,List.take_length_add_append,gE,List.drop_length_add_append]
   simp
  rw[this]
  exact aT.cons h1 h3
def iX (l:List V) (base:Nat):Option V:=match qM l base with | some (v:: _)=>some v | _=>none
theorem Ck {σ:Sg} {E:EH} {l:List V} {base m:Nat} {cs:List D} (h:iX l base=some (.arr m cs)) {xs:List Value} (hd:aT σ E l xs):
  ∃ ys,a_ E cs ys/\cs.length=m/\base+m<=xs.length/\(xs.drop base).take m=ys:=by
 unfold iX at h
 split at h<;>try (cases h;done)
 rename_i v r hr
 cases h
 obtain⟨h1,h2⟩:=sr hr hd
 obtain⟨ys,zs,e,h3,h4⟩:=h1.io
 rcases h3 with ⟨y,_,_,hy⟩ | ⟨m',cs',e',hl,O6⟩
 ·simp only[Den]at hy
 ·cases e'
  have jo:=O6.len
  refine⟨ys,O6,hl,?_,?_⟩
  ·have:=congrArg List.length e
   simp at this
   omega
  ·rw[e,<- hl,<- jo,List.take_left]
def fw (E:EH) (agg:Bool):List Value->List (List D)->Prop
 | [],l=>l=[]
 |v::vs,l=>∃ c l',l=c::l'/\(∃ ys,v=dJ agg ys/\a_ E c ys)/\fw E agg vs l'
theorem fw.mono {E E':EH} (hE:E.le E') {agg:Bool}:∀{vs:List Value} {l:List (List D)},fw E agg vs l->fw E' agg vs l
 | [],_,h=>by simpa only[fw]using h
 |v::vs,_,h=>by
  simp only[fw]at h ⊢
  obtain⟨c,l',h0,⟨ys,h1,h2⟩,h3⟩:=h
  exact⟨c,l',h0,⟨ys,h1,h2.mono hE⟩,h3.mono hE⟩
theorem fw.len {E:EH} {agg:Bool}:∀{vs:List Value} {l:List (List D)},fw E agg vs l->vs.length=l.length
 | [],_,h=>by simp only[fw]at h;subst h;rfl
 |v::vs,_,h=>by
  simp only[fw]at h
  obtain⟨c,l',rfl,_,h3⟩:=h
  simp [h3.len]
theorem fw.snoc {E:EH} {agg:Bool} {v:Value} {c:List D} (h1:∃ ys,v=dJ agg ys/\a_ E c ys):∀{vs:List Value} {l:List (List D)},fw E agg vs l->fw E agg (vs++[v]) (l++[c])
 | [],_,h=>by
  simp only[fw]at h;subst h
  simp only[jV,fw]
  exact⟨c,[],rfl,h1,rfl⟩
 |u::vs,_,h=>by
  simp only[fw]at h
  obtain⟨d,l',rfl,h2,h3⟩:=h
  simp only[List.cons_append,fw]
  exact⟨d,l'++[c],rfl,h2,h3.snoc h1⟩
def gq (σ:Sg) (E:EH) (W:World) (r:Re):KO->Prop
 | .cells l=>∃ arr ty,W.heap[r.blk]? =some (.cells arr ty (0,0))/\aT σ E l arr.toList
 | .row ty sz l=>r.sz=sz/\wl sz l/\l.length<=r.cap/\r.cap<=maxLen/\
  (r.cap=0∨∃ arr,W.heap[r.blk]? =some (.cells arr ty (0,0))/\arr.size=r.cap*sz/\a_ E l.flatten (arr.toList.take (l.length*sz)))
 | .mp aA aS agg sz l=>wl sz (l.map (·.2))/\∃ es clock,W.heap[r.blk]? =some (.map es clock)/\ct E aA aS agg es.toList l/\tg es.toList clock
 | .ch agg sz cap l=>wl sz l/\l.length<=cap/\∃ buf s r',W.heap[r.blk]? =some (.chan cap buf false s r' false)/\fw E agg buf.toList l
 | .objs _=>False
 | .iW _=>False
 | .dead=>True
def nQ (r:Re):KO->Nat->Prop
 | .cells _,b=>b=r.blk
 | .row ..,b=>r.cap≠0/\b=r.blk
 | .mp ..,b=>b=r.blk
 | .ch ..,b=>b=r.blk
 | .objs _,_=>False
 | .iW _,_=>False
 | .dead,_=>False
def jn (a:Sg×KB) (b:Nat):Prop:=∃(i:Nat) (r:Re) (o:KO),a.1[i]? =some r/\a.2[i]? =some o/\nQ r o b
structure nC (E:EH) (W:World) (a:Sg×KB):Prop where
 len:a.1.length=a.2.length
 obj:∀(i:Nat) (r:Re) (o:KO),a.1[i]? =some r->a.2[i]? =some o->gq a.1 E W r o
 dx:∀(i j:Nat) (r r':Re) (o o':KO) (b:Nat),i≠j->a.1[i]? =some r->a.2[i]? =some o->a.1[j]? =some r'->a.2[j]? =some o'->nQ r o b->nQ r' o' b->False
structure pP (E:EH) (W:World) (A:List (Sg×KB)):Prop where
 ok:∀ a∈A,nC E W a
 dx:∀(k m:Nat) (a a':Sg×KB) (b:Nat),k≠m->A[k]? =some a->A[m]? =some a'->jn a b->jn a' b->False
def nT (τ:Sg) (b:Nat):Prop:=∃ r,τ[0]? =some r/\r.blk=b
def fY (σ:Sg) (E:EH) (W:World) (r:Re):KO->Prop
 | .objs A=>pP E W A
 | .iW a=>nC E W a/\nT a.1 r.blk
 | .cells l=>gq σ E W r (.cells l)
 | .row ty sz l=>gq σ E W r (.row ty sz l)
 | .mp aA aS agg sz l=>gq σ E W r (.mp aA aS agg sz l)
 | .ch agg sz cap l=>gq σ E W r (.ch agg sz cap l)
 | .dead=>True
def owned (r:Re):KO->Nat->Prop
 | .cells _,b=>b=r.blk
 | .row ..,b=>r.cap≠0/\b=r.blk
 | .mp ..,b=>b=r.blk
 | .ch ..,b=>b=r.blk
 | .objs A,b=>∃ a∈A,jn a b
 | .iW a,b=>jn a b
 | .dead,_=>False
theorem gq.up {σ:Sg} {E:EH} {W:World} {r:Re} {o:KO} (h:gq σ E W r o):fY σ E W r o:=by
 cases o<;>first | exact h | exact h.elim
theorem nQ.up {r:Re} {o:KO} {b:Nat} (h:nQ r o b):owned r o b:=by
 cases o<;>first | exact h | exact h.elim
theorem gq.lt {σ:Sg} {E:EH} {W:World} {r:Re} {o:KO} (h:gq σ E W r o) {b:Nat} (ho:nQ r o b):b<W.heap.size:=by
 cases o with
 |cells l=>
  obtain⟨arr,ty,h1,_⟩:=h
  simp only[nQ]at ho
  subst ho
  exact(Array.getElem?_eq_some_iff.1 h1).1
 |row ty sz l=>
  simp only[nQ]at ho
  obtain⟨_,_,_,_,h4⟩:=h
  rcases h4 with h4 | ⟨arr,h4,_⟩
  ·exact absurd h4 ho.1
  ·rw[ho.2];exact(Array.getElem?_eq_some_iff.1 h4).1
 |mp aA aS agg sz l=>
  obtain⟨_,es,ck,h1,_⟩:=h
  simp only[nQ]at ho
  subst ho
  exact(Array.getElem?_eq_some_iff.1 h1).1
 |ch agg sz cap l=>
  obtain⟨_,_,bf,s,rr,h1,_⟩:=h
  simp only[nQ]at ho
  subst ho
  exact(Array.getElem?_eq_some_iff.1 h1).1
 |objs A=>exact h.elim
 |iW a=>exact h.elim
 |dead=>exact ho.elim
theorem gq.mono {σ τ:Sg} {E E':EH} {W W':World} (hE:E.le E') {r:Re} {o:KO} (h:gq σ E W r o) (hb:∀ b,nQ r o b->W'.heap[b]? =W.heap[b]?):gq (σ++τ) E' W' r o:=by
 cases o with
 |cells l=>
  obtain⟨arr,ty,h1,h2⟩:=h
  exact⟨arr,ty,by rw[hb r.blk rfl];exact h1,aT.mono hE h2⟩
 |row ty sz l=>
  obtain⟨h0,h1,h2,h3,h4⟩:=h
  refine⟨h0,h1,h2,h3,?_⟩
  rcases h4 with h4 | ⟨arr,h4,h5⟩
  ·exact .inl h4
  ·by_cases hc:r.cap=0
   ·exact .inl hc
   ·exact .inr ⟨arr,by rw[hb r.blk ⟨hc,rfl⟩];exact h4,h5.1,h5.2.mono hE⟩
 |mp aA aS agg sz l=>
  obtain⟨h0,es,ck,h1,h2,h3⟩:=h
  exact⟨h0,es,ck,by rw[hb r.blk rfl];exact h1,h2.mono hE,h3⟩
 |ch agg sz cap l=>
  obtain⟨h0,xO,bf,s,rr,h1,h2⟩:=h
  exact⟨h0,xO,bf,s,rr,by rw[hb r.blk rfl];exact h1,h2.mono hE⟩
 |objs A=>exact h.elim
 |iW a=>exact h.elim
 |dead=>trivial
theorem nC.lt {E:EH} {W:World} {a:Sg×KB} (h:nC E W a) {b:Nat} (hb:jn a b):b<W.heap.size:=by
 obtain⟨i,r,o,h1,h2,h3⟩:=hb
 exact(h.obj i r o h1 h2).lt h3
theorem nC.mono {E E':EH} {W W':World} (hE:E.le E') {a:Sg×KB} (h:nC E W a) (hb:∀ b,jn a b->W'.heap[b]? =W.heap[b]?):nC E' W' a:=
 ⟨h.len,fun i r o h1 h2=>by
  have:=(h.obj i r o h1 h2).mono (τ:=[]) (W':=W') hE (fun b h3=>hb b ⟨i,r,o,h1,h2,h3⟩)
  simpa using this,h.dx⟩
theorem pP.mono {E E':EH} {W W':World} (hE:E.le E') {A:List (Sg×KB)} (h:pP E W A) (hb:∀ b,(∃ a∈A,jn a b)->W'.heap[b]? =W.heap[b]?):pP E' W' A:=
 ⟨fun a ha=>(h.ok a ha).mono hE (fun b h1=>hb b ⟨a,ha,h1⟩),h.dx⟩
def cq (σ:Sg) (kb:KB) (b:Nat):Prop:=∃(i:Nat) (r:Re) (o:KO),σ[i]? =some r/\kb[i]? =some o/\owned r o b
structure Inv (σ:Sg) (E:EH) (kb:KB) (W:World):Prop where
 len:σ.length=kb.length
 obj:∀(i:Nat) (r:Re) (o:KO),σ[i]? =some r->kb[i]? =some o->fY σ E W r o
 dx:∀(i j:Nat) (r r':Re) (o o':KO) (b:Nat),i≠j->σ[i]? =some r->kb[i]? =some o->σ[j]? =some r'->kb[j]? =some o'->owned r o b->owned r' o' b->False
 dj:∀ b o,E b=some o->W.heap[b]? =some o
 sep:∀ b,cq σ kb b->E b=none
theorem fY.lt {σ:Sg} {E:EH} {W:World} {r:Re} {o:KO} (h:fY σ E W r o) {b:Nat} (ho:owned r o b):b<W.heap.size:=by
 cases o with
 |objs A=>obtain⟨a,ha,hb⟩:=ho;exact(h.ok a ha).lt hb
 |iW a=>exact h.1.lt ho
 |cells l=>exact gq.lt (σ:=σ) (o:=.cells l) h ho
 |row ty sz l=>exact gq.lt (σ:=σ) (o:=.row ty sz l) h ho
 |mp aA aS agg sz l=>exact gq.lt (σ:=σ) (o:=.mp aA aS agg sz l) h ho
 |ch agg sz cap l=>exact gq.lt (σ:=σ) (o:=.ch agg sz cap l) h ho
 |dead=>exact ho.elim
theorem Inv.lt {σ:Sg} {E:EH} {kb:KB} {W:World} (h:Inv σ E kb W) {b:Nat} (ho:cq σ kb b):b<W.heap.size:=by
 obtain⟨i,r,o,h1,h2,h3⟩:=ho
 exact(h.obj i r o h1 h2).lt h3
theorem fY.mono {σ τ:Sg} {E E':EH} {W W':World} (hE:E.le E') {r:Re} {o:KO} (h:fY σ E W r o) (hb:∀ b,owned r o b->W'.heap[b]? =W.heap[b]?):fY (σ++τ) E' W' r o:=by
 cases o with
 |objs A=>exact pP.mono hE h hb
 |iW a=>exact⟨h.1.mono hE hb,h.2⟩
 |cells l=>exact gq.mono (σ:=σ) (τ:=τ) (o:=.cells l) hE h hb
 |row ty sz l=>exact gq.mono (σ:=σ) (τ:=τ) (o:=.row ty sz l) hE h hb
 |mp aA aS agg sz l=>exact gq.mono (σ:=σ) (τ:=τ) (o:=.mp aA aS agg sz l) hE h hb
 |ch agg sz cap l=>exact gq.mono (σ:=σ) (τ:=τ) (o:=.ch agg sz cap l) hE h hb
 |dead=>trivial
structure tu (O:Nat->Prop) (W W':World):Prop where
 os:W'.os=W.os
 tape:W'.tape=W.tape
 output:W'.output=W.output
 size:W.heap.size<=W'.heap.size
 block:∀ k,k<W.heap.size->¬ O k->W'.heap[k]? =W.heap[k]?
theorem tu.refl (O:Nat->Prop) (W:World):tu O W W:=⟨rfl,rfl,rfl,av _,fun _ _ _=>rfl⟩
structure Step (σ:Sg) (E:EH) (kb:KB) (W:World) (σ':Sg) (E':EH) (kb':KB) (W':World):Prop where
 inv:Inv σ' E' kb' W'
 bQ:tu (cq σ kb) W W'
 pre:∃ τ,σ'=σ++τ
 le:E.le E'
 own:∀ b,cq σ' kb' b->cq σ kb b∨W.heap.size<=b
 new:∀ b o,E' b=some o->E b=some o∨cq σ kb b∨W.heap.size<=b
theorem Step.refl {σ:Sg} {E:EH} {kb:KB} {W:World} (h:Inv σ E kb W):Step σ E kb W σ E kb W:=
 ⟨h,tu.refl _ _,⟨[],by simp⟩,EH.le.refl E,fun _ h=> .inl h,fun _ _ h=> .inl h⟩
theorem Step.trans {σ σ' ny:Sg} {E E' Ld:EH} {kb kb' jG:KB} {W W' W'':World}
  (h:Step σ E kb W σ' E' kb' W') (k:Step σ' E' kb' W' ny Ld jG W''):Step σ E kb W ny Ld jG W'':=by
 have hsz:=h.bQ.size
 refine⟨k.inv,⟨k.bQ.os.trans h.bQ.os,k.bQ.tape.trans h.bQ.tape,k.bQ.output.trans h.bQ.output,mf hsz k.bQ.size,fun b hb hn=>?_⟩,?_,h.le.trans k.le,fun b hb=>?_,fun b o hb=>?_⟩
 ·rw[k.bQ.block b (by omega) (fun ho=>?_)]
  ·exact h.bQ.block b hb hn
  ·rcases h.own b ho with h1 | h1
   ·exact hn h1
   ·omega
 ·obtain⟨τ,rfl⟩:=h.pre
  obtain⟨La,rfl⟩:=k.pre
  exact⟨τ++La,by simp⟩
 ·rcases k.own b hb with h1 | h1
  ·exact h.own b h1
  ·exact .inr (by omega)
 ·rcases k.new b o hb with h1 | h1 | h1
  ·exact h.new b o h1
  ·rcases h.own b h1 with h2 | h2
   ·exact .inr (.inl h2)
   ·exact .inr (.inr h2)
  ·exact .inr (.inr (by omega))
theorem Inv.grow {σ:Sg} {E:EH} {kb:KB} {W W':World} (h:Inv σ E kb W) (r:Re) (o:KO) (hos:W'.os=W.os) (tZ:W'.tape=W.tape) (hout:W'.output=W.output) (hsz:W.heap.size<=W'.heap.size)
  (hold:∀ b,b<W.heap.size->W'.heap[b]? =W.heap[b]?) (hr:∀ b,owned r o b->W.heap.size<=b) (ho:fY (σ++[r]) E W' r o):Step σ E kb W (σ++[r]) E (kb++[o]) W':=by
 have hown:∀ b,cq (σ++[r]) (kb++[o]) b->cq σ kb b∨W.heap.size<=b:=by
  rintro b ⟨i,r',o',h1,h2,h3⟩
  rcases Nat.lt_trichotomy i σ.length with hi | hi | hi
  ·rw[dP hi]at h1
   rw[dP (by rw[<- h.len];exact hi)]at h2
   exact .inl ⟨i,r',o',h1,h2,h3⟩
  ·subst hi
   rw[eW (av _)]at h1
   rw[h.len,eW (av _)]at h2
   simp at h1 h2
   subst h1;subst h2
   exact .inr (hr b h3)
  ·rw[gO (by simp;omega)]at h1;cases h1
 refine⟨⟨by simp [h.len],fun i r' o' h1 h2=>?_,fun i j r1 r2 o1 o2 b hij h1 h2 h3 h4 h5 h6=>?_,fun b x hb=>?_,fun b hb=>?_⟩,⟨hos,tZ,hout,hsz,fun b hb _=>hold b hb⟩,⟨[r],rfl⟩,EH.le.refl E,hown,fun b x hb=> .inl hb⟩
 ·rcases Nat.lt_trichotomy i σ.length with hi | hi | hi
  ·rw[dP hi]at h1
   rw[dP (by rw[<- h.len];exact hi)]at h2
   exact(h.obj i r' o' h1 h2).mono (EH.le.refl E) (fun b hb=>hold b ((h.obj i r' o' h1 h2).lt hb))
  ·subst hi
   rw[eW (av _)]at h1
   rw[h.len,eW (av _)]at h2
   simp at h1 h2
   subst h1;subst h2
   exact ho
  ·rw[gO (by simp;omega)]at h1;cases h1
 ·have case:∀(i:Nat) (r':Re) (o':KO),(σ++[r])[i]? =some r'->(kb++[o])[i]? =some o'->(σ[i]? =some r'/\kb[i]? =some o')∨(i=σ.length/\r'=r/\o'=o):=by
   intro i r' o' h1 h2
   rcases Nat.lt_trichotomy i σ.length with hi | hi | hi
   ·rw[dP hi]at h1
    rw[dP (by rw[<- h.len];exact hi)]at h2
    exact .inl ⟨h1,h2⟩
   ·subst hi
    rw[eW (av _)]at h1
    rw[h.len,eW (av _)]at h2
    simp at h1 h2
    exact .inr ⟨rfl,h1.symm,h2.symm⟩
   ·rw[gO (by simp;omega)]at h1;cases h1
  rcases case i r1 o1 h1 h2 with ⟨a1,a2⟩ | ⟨a1,a2,a3⟩<;>rcases case j r2 o2 h3 h4 with ⟨b1,b2⟩ | ⟨b1,b2,b3⟩
  ·exact h.dx i j r1 r2 o1 o2 b hij a1 a2 b1 b2 h5 h6
  ·subst b2;subst b3
   have:=(h.obj i r1 o1 a1 a2).lt h5
   have:=hr b h6
   omega
  ·subst a2;subst a3
   have:=(h.obj j r2 o2 b1 b2).lt h6
   have:=hr b h5
   omega
  ·omega
 ·have:=h.dj b x hb
  rw[hold b (Array.getElem?_eq_some_iff.1 this).1]
  exact this
 ·rcases hown b hb with h1 | h1
  ·exact h.sep b h1
  ·cases hE:E b with
   |none=>rfl
   |some x=>
    have:=(Array.getElem?_eq_some_iff.1 (h.dj b x hE)).1
    omega
theorem Inv.alloc {σ:Sg} {E:EH} {kb:KB} {W:World} (h:Inv σ E kb W) (ob:Obj) (r:Re) (o:KO) (hr:∀ b,owned r o b->b=W.heap.size)
  (ho:fY (σ++[r]) E (W.alloc ob) r o):Step σ E kb W (σ++[r]) E (kb++[o]) (W.alloc ob):=
 h.grow r o rfl rfl rfl (by simp) (fun b hb=>by
  show(W.heap.push ob)[b]? =_
  rw[Array.getElem?_push,if_neg (by omega)]) (fun b hb=>by rw[hr b hb];exact av _) ho
theorem Inv.set {σ:Sg} {E:EH} {kb:KB} {W W':World} (h:Inv σ E kb W) {i:Nat} {r:Re} {o o':KO} (hs:σ[i]? =some r) (hk:kb[i]? =some o)
  (hos:W'.os=W.os) (tZ:W'.tape=W.tape) (hout:W'.output=W.output) (hsz:W'.heap.size=W.heap.size)
  (cd:∀ b,¬ owned r o b->W'.heap[b]? =W.heap[b]?) (hr:∀ b,owned r o' b->owned r o b) (ho:fY σ E W' r o'):Step σ E kb W σ E (kb.set i o') W':=by
 have hi:i<kb.length:=by
  rcases jX i kb.length with h' | h'
  ·exact h'
  ·simp [gO h']at hk
 have da:∀(j:Nat) (x:KO),(kb.set i o')[j]? =some x->(j=i/\x=o')∨(j≠i/\kb[j]? =some x):=by
  intro j x hj
  by_cases hji:j=i
  ·subst hji
   rw[ig hi]at hj
   exact .inl ⟨rfl,(bb.inj hj).symm⟩
  ·rw[gr (Ne.symm hji)]at hj
   exact .inr ⟨hji,hj⟩
 have hown:∀ b,cq σ (kb.set i o') b->cq σ kb b:=by
  rintro b ⟨j,r',x,h1,h2,h3⟩
  rcases da j x h2 with ⟨rfl,rfl⟩ | ⟨hji,h4⟩
  ·rw[hs]at h1;cases h1
   exact⟨_,r,o,hs,hk,hr b h3⟩
  ·exact⟨j,r',x,h1,h4,h3⟩
 refine⟨⟨by simp [h.len],fun j r' x h1 h2=>?_,fun a c r1 r2 o1 o2 b hac h1 h2 h3 h4 h5 h6=>?_,fun b x hb=>?_,fun b hb=>h.sep b (hown b hb)⟩,⟨hos,tZ,hout,by omega,fun b _ hn=>cd b (fun hb=>hn ⟨i,r,o,hs,hk,hb⟩)⟩,⟨[],by simp⟩,EH.le.refl E,fun b hb=> .inl (hown b hb),fun b x hb=> .inl hb⟩
 ·rcases da j x h2 with ⟨rfl,rfl⟩ | ⟨hji,h4⟩
  ·rw[hs]at h1;cases h1;exact ho
  ·have:=(h.obj j r' x h1 h4).mono (τ:=[]) (W':=W') (EH.le.refl E) (fun b hb=>cd b (fun hb'=>h.dx i j r r' o x b (Ne.symm hji) hs hk h1 h4 hb' hb))
   simpa using this
 ·have up:∀(j:Nat) (r':Re) (x:KO),σ[j]? =some r'->(kb.set i o')[j]? =some x->owned r' x b->∃ y,kb[j]? =some y/\owned r' y b:=by
   intro j r' x h1 h2 h3
   rcases da j x h2 with ⟨rfl,rfl⟩ | ⟨hji,h4⟩
   ·rw[hs]at h1;cases h1;exact⟨o,hk,hr b h3⟩
   ·exact⟨x,h4,h3⟩
  obtain⟨y1,p1,q1⟩:=up a r1 o1 h1 h2 h5
  obtain⟨y2,p2,q2⟩:=up c r2 o2 h3 h4 h6
  exact h.dx a c r1 r2 y1 y2 b hac h1 p1 h3 p2 q1 q2
 ·rw[cd b (fun hb'=>?_)]
  ·exact h.dj b x hb
  ·have:=h.sep b ⟨i,r,o,hs,hk,hb'⟩
   rw[this]at hb;cases hb
theorem Inv.drew {σ:Sg} {E:EH} {kb:KB} {W:World} (h:Inv σ E kb W):Step σ E kb W σ E kb W.drew:=
 ⟨⟨h.len,fun i r o h1 h2=>by
  have:=(h.obj i r o h1 h2).mono (τ:=[]) (W':=W.drew) (EH.le.refl E) (fun _ _=>rfl)
  simpa using this,h.dx,h.dj,h.sep⟩,⟨rfl,rfl,rfl,av _,fun _ _ _=>rfl⟩,⟨[],by simp⟩,EH.le.refl E,fun _ h=> .inl h,fun _ _ h=> .inl h⟩
theorem Inv.freeze {σ:Sg} {E:EH} {kb:KB} {W:World} (h:Inv σ E kb W) {i:Nat} {r:Re} {ty:TypeId} {sz:Nat} {l:List (List D)} (hs:σ[i]? =some r) (hk:kb[i]? =some (.row ty sz l)):
  ∃ E',Step σ E kb W σ E' (kb.set i .dead) W/\(r.cap≠0->di E' l.flatten r.blk 0):=by
 have hi:i<kb.length:=(bG.1 hk).1
 have ho:=h.obj i r _ hs hk
 let E':EH:=fun b=>if r.cap≠0/\b=r.blk then W.heap[b]? else E b
 have hle:E.le E':=fun b x hb=>by
  show(if r.cap≠0/\b=r.blk then W.heap[b]? else E b)=some x
  by_cases hc:r.cap≠0/\b=r.blk
  ·have:=h.sep b ⟨i,r,_,hs,hk,hc⟩
   rw[this]at hb;cases hb
  ·rw[if_neg hc];exact hb
 have da:∀(j:Nat) (x:KO),(kb.set i .dead)[j]? =some x->(j=i/\x= .dead)∨(j≠i/\kb[j]? =some x):=by
  intro j x hj
  by_cases hji:j=i
  ·subst hji
   rw[ig hi]at hj
   exact .inl ⟨rfl,(bb.inj hj).symm⟩
  ·rw[gr (Ne.symm hji)]at hj
   exact .inr ⟨hji,hj⟩
 have hown:∀ b,cq σ (kb.set i .dead) b->cq σ kb b/\¬ (r.cap≠0/\b=r.blk):=by
  rintro b ⟨j,r',x,h1,h2,h3⟩
  rcases da j x h2 with ⟨rfl,rfl⟩ | ⟨hji,h4⟩
  ·exact h3.elim
  ·exact⟨⟨j,r',x,h1,h4,h3⟩,fun hc=>h.dx i j r r' _ x b (Ne.symm hji) hs hk h1 h4 hc h3⟩
 refine⟨E',⟨⟨by simp [h.len],fun j r' x h1 h2=>?_,fun a c r1 r2 o1 o2 b hac h1 h2 h3 h4 h5 h6=>?_,fun b x hb=>?_,fun b hb=>?_⟩,tu.refl _ W,⟨[],by simp⟩,hle,fun b hb=> .inl (hown b hb).1,fun b x hb=>?_⟩,fun hc=>?_⟩
 ·rcases da j x h2 with ⟨rfl,rfl⟩ | ⟨hji,h4⟩
  ·trivial
  ·have:=(h.obj j r' x h1 h4).mono (τ:=[]) (W':=W) hle (fun b hb=>rfl)
   simpa using this
 ·rcases da a o1 h2 with ⟨rfl,rfl⟩ | ⟨_,k2⟩
  ·exact h5.elim
  rcases da c o2 h4 with ⟨rfl,rfl⟩ | ⟨_,k4⟩
  ·exact h6.elim
  exact h.dx a c r1 r2 o1 o2 b hac h1 k2 h3 k4 h5 h6
 ·by_cases hc:r.cap≠0/\b=r.blk
  ·simp only[E',if_pos hc]at hb;exact hb
  ·simp only[E',if_neg hc]at hb;exact h.dj b x hb
 ·obtain⟨h1,h2⟩:=hown b hb
  show(if r.cap≠0/\b=r.blk then W.heap[b]? else E b)=none
  rw[if_neg h2]
  exact h.sep b h1
 ·by_cases hc:r.cap≠0/\b=r.blk
  ·exact .inr (.inl ⟨i,r,_,hs,hk,hc⟩)
  ·simp only[E',if_neg hc]at hb;exact .inl hb
 ·obtain⟨rfl,k1,k2,k3,k4⟩:=ho
  rcases k4 with k4 | ⟨arr,k4,k5,k6⟩
  ·exact absurd k4 hc
  refine(k6.mono hle).rep fun j x hj=>?_
  have e:E' r.blk=some (.cells arr ty (0,0)):=by simp only[E',if_pos (show r.cap≠0/\r.blk=r.blk from⟨hc,rfl⟩),k4]
  unfold EH.cell
  rw[e,c9]
  have hlt:j<l.length*r.sz:=by
   have:=(bG.1 hj).1
   simp only[cQ]at this
   omega
  rw[hU hlt]at hj
  simpa using hj
theorem Inv.X_ {σ:Sg} {E:EH} {kb:KB} {W:World} (h:Inv σ E kb W) {i:Nat} {r:Re} {ty:TypeId} {sz:Nat} {l:List (List D)} (hs:σ[i]? =some r) (hk:kb[i]? =some (.row ty sz l)) (hc:r.cap≠0):
  ∃ E' arr,W.heap[r.blk]? =some (.cells arr ty (0,0))/\(∀ W',W'.os=W.os->W'.tape=W.tape->W'.output=W.output->W'.heap.size=W.heap.size->W'.heap[r.blk]? =some (.cells arr ty (arr.size,arr.size+1))->(∀ k,k≠r.blk->W'.heap[k]? =W.heap[k]?)->
   Step σ E kb W σ E' (kb.set i .dead) W')/\di E' l.flatten r.blk 0:=by
 have hi:i<kb.length:=(bG.1 hk).1
 have ho:=h.obj i r _ hs hk
 obtain⟨rfl,k1,k2,k3,k4⟩:=ho
 rcases k4 with k4 | ⟨arr,k4,k5,k6⟩
 ·exact absurd k4 hc
 let E':EH:=fun b=>if b=r.blk then some (.cells arr ty (arr.size,arr.size+1))else E b
 have hle:E.le E':=fun b x hb=>by
  show(if b=r.blk then _ else E b)=some x
  by_cases hcb:b=r.blk
  ·have:=h.sep b ⟨i,r,_,hs,hk,hc,hcb⟩
   rw[this]at hb;cases hb
  ·rw[if_neg hcb];exact hb
 have da:∀(j:Nat) (x:KO),(kb.set i .dead)[j]? =some x->(j=i/\x= .dead)∨(j≠i/\kb[j]? =some x):=by
  intro j x hj
  by_cases hji:j=i
  ·subst hji
   rw[ig hi]at hj
   exact .inl ⟨rfl,(bb.inj hj).symm⟩
  ·rw[gr (Ne.symm hji)]at hj
   exact .inr ⟨hji,hj⟩
 have hown:∀ b,cq σ (kb.set i .dead) b->cq σ kb b/\¬ b=r.blk:=by
  rintro b ⟨j,r',x,h1,h2,h3⟩
  rcases da j x h2 with ⟨rfl,rfl⟩ | ⟨hji,h4⟩
  ·exact h3.elim
  ·exact⟨⟨j,r',x,h1,h4,h3⟩,fun hcb=>h.dx i j r r' _ x b (Ne.symm hji) hs hk h1 h4 ⟨hc,hcb⟩ h3⟩
 refine⟨E',arr,k4,fun W' w1 w2 w3 w4 w5 w6=>⟨⟨by simp [h.len],fun j r' x h1 h2=>?_,fun a c r1 r2 o1 o2 b hac h1 h2 h3 h4 h5 h6=>?_,fun b x hb=>?_,fun b hb=>?_⟩,⟨w1,w2,w3,by omega,fun k hkk hno=>w6 k (fun e=>hno (by rw[e];exact⟨i,r,_,hs,hk,hc,rfl⟩))⟩,⟨[],by simp⟩,hle,fun b hb=> .inl (hown b hb).1,fun b x hb=>?_⟩,?_⟩
 ·rcases da j x h2 with ⟨rfl,rfl⟩ | ⟨hji,h4⟩
  ·trivial
  ·have:=(h.obj j r' x h1 h4).mono (τ:=[]) (W':=W') hle (fun b hb=>w6 b (fun e=>h.dx i j r r' _ x b (Ne.symm hji) hs hk h1 h4 ⟨hc,e⟩ hb))
   simpa using this
 ·rcases da a o1 h2 with ⟨rfl,rfl⟩ | ⟨_,k2⟩
  ·exact h5.elim
  rcases da c o2 h4 with ⟨rfl,rfl⟩ | ⟨_,k4⟩
  ·exact h6.elim
  exact h.dx a c r1 r2 o1 o2 b hac h1 k2 h3 k4 h5 h6
 ·by_cases hcb:b=r.blk
  ·simp only[E',if_pos hcb]at hb;cases hb;rw[hcb];exact w5
  ·simp only[E',if_neg hcb]at hb;rw[w6 b hcb];exact h.dj b x hb
 ·obtain⟨h1,h2⟩:=hown b hb
  show(if b=r.blk then _ else E b)=none
  rw[if_neg h2]
  exact h.sep b h1
 ·by_cases hcb:b=r.blk
  ·exact .inr (.inl ⟨i,r,_,hs,hk,hc,hcb⟩)
  ·simp only[E',if_neg hcb]at hb;exact .inl hb
 ·refine(k6.mono hle).rep fun j x hj=>?_
  have e:E' r.blk=some (.cells arr ty (arr.size,arr.size+1)):=by simp only[E',if_pos rfl]
  unfold EH.cell
  rw[e,c9]
  have hlt:j<l.length*r.sz:=by
   have:=(bG.1 hj).1
   simp only[cQ]at this
   omega
  rw[hU hlt]at hj
  simpa using hj
theorem Inv.Yk {σ:Sg} {E:EH} {kb:KB} {W:World} (h:Inv σ E kb W) (ob:Obj):
  Step σ E kb W σ (fun b=>if b=W.heap.size then some ob else E b) kb (W.alloc ob):=by
 have hne:E W.heap.size=none:=by
  cases he:E W.heap.size with
  |none=>rfl
  |some x=>have:=(Array.getElem?_eq_some_iff.1 (h.dj _ x he)).1;omega
 have hle:E.le (fun b=>if b=W.heap.size then some ob else E b):=fun b x hb=>by
  by_cases hc:b=W.heap.size
  ·subst hc;rw[hne]at hb;cases hb
  ·simp [hc,hb]
 have hold:∀ b,b<W.heap.size->(W.alloc ob).heap[b]? =W.heap[b]?:=fun b hb=>by
  show(W.heap.push ob)[b]? =_
  rw[Array.getElem?_push,if_neg (by omega)]
 refine⟨⟨h.len,fun j r x h1 h2=>?_,h.dx,fun b x hb=>?_,fun b hb=>?_⟩,⟨rfl,rfl,rfl,by simp,fun k hk _=>hold k hk⟩,⟨[],by simp⟩,hle,fun b hb=> .inl hb,fun b x hb=>?_⟩
 ·have:=(h.obj j r x h1 h2).mono (τ:=[]) (W':=W.alloc ob) hle (fun b hb=>hold b ((h.obj j r x h1 h2).lt hb))
  simpa using this
 ·by_cases hc:b=W.heap.size
  ·subst hc
   simp only[if_true,bb.injEq]at hb
   subst hb
   show(W.heap.push ob)[W.heap.size]? =_
   simp
  ·simp only[hc,if_false]at hb
   have:=h.dj b x hb
   rw[hold b (Array.getElem?_eq_some_iff.1 this).1];exact this
 ·have:=h.lt hb
  rw[if_neg (by omega)]
  exact h.sep b hb
 ·by_cases hc:b=W.heap.size
  ·exact .inr (.inr (by omega))
  ·simp only[hc,if_false]at hb;exact .inl hb
def calm {α:Type} (P:Program):Sem α->Option α
 | .pure a=>some a
 | .program k=>calm P (k P)
 | .mark _ k=>calm P k
 |_=>none
theorem Fv {α:Type} {P:Program}:∀{s:Sem α} {a:α},calm P s=some a->∀ w,s.run P w= .ok a w
 | .pure _,_,h,_=>by simp [calm]at h;subst h;rfl
 | .program k,a,h,w=>by
  simp only[calm]at h
  show(k P).run P w=_
  exact Fv h w
 | .mark _ k,a,h,w=>by
  simp only[calm]at h
  show k.run P w=_
  exact Fv h w
 | .load ..,_,h,_ | .store ..,_,h,_ | .new ..,_,h,_ | .shape ..,_,h,_ | .freeze ..,_,h,_ | .frozen ..,_,h,_ | .getObj ..,_,h,_ | .setObj ..,_,h,_
 | .choose ..,_,h,_ | .sys ..,_,h,_ | .halt ..,_,h,_=>by simp [calm]at h
def vj:Value->V
 | .int k n=> .int k n
 | .bool b=> .sb b
 |v=> .any v
theorem Ny (σ:Sg) (E:EH) (v:Value):Den σ E (vj v) v:=by
 cases v<;>simp [vj,Den]
theorem NG (σ:Sg) (E:EH):∀(l:List Value),aq σ E (l.map vj) l
 | []=> .nil
 |v::l=> .cons (Ny σ E v) (NG σ E l)
theorem NE (σ:Sg) (E:EH):∀(l:List Value),l.all lU=true->aT σ E (l.map vj) l
 | [],_=> .nil
 |v::l,h=>by
  simp only[List.all_cons,km]at h
  exact .jc (Ny σ E v) h.1 (NE σ E l h.2)
def cv:Value->V
 | .agg cs=>match cs.toList.all lU with | true=> .agg (cs.toList.map vj) | false=> .any (.agg cs)
 | .tuple cs=> .υ (cs.toList.map vj)
 | .int k n=> .int k n
 | .bool b=> .sb b
 |v=> .any v
theorem NA (σ:Sg) (E:EH) (v:Value):Den σ E (cv v) v:=by
 cases v with
 |agg cs=>
  simp only[cv]
  split
  ·rename_i h;simp only[Den];exact⟨cs.toList,by simp,NE σ E _ h⟩
  ·simp [Den]
 |tuple cs=>simp only[cv,Den];exact⟨cs.toList,by simp,NG σ E _⟩
 |_=>simp [cv,Den]
def oC:Value->V
 | .bool true=> .tt
 | .bool false=> .ff
 | .int k n=> .lit k n
 |v=> .any v
theorem AH (σ:Sg) (E:EH) (v:Value):Den σ E (oC v) v:=by
 cases v with
 |bool b=>cases b<;>simp [oC,Den]
 |_=>simp [oC,Den]
theorem NH (σ:Sg) (E:EH):∀(l:List Value),aq σ E (l.map oC) l
 | []=> .nil
 |v::l=> .cons (AH σ E v) (NH σ E l)
theorem FZ (σ:Sg) (E:EH):∀(l:List Value),l.all lU=true->aT σ E (l.map oC) l
 | [],_=> .nil
 |v::l,h=>by
  simp only[List.all_cons,km]at h
  exact .jc (AH σ E v) h.1 (FZ σ E l h.2)
def tH:Value->V
 | .agg cs=>match cs.toList.all lU with | true=> .agg (cs.toList.map oC) | false=> .any (.agg cs)
 | .tuple cs=> .υ (cs.toList.map oC)
 |v=>oC v
theorem NB (σ:Sg) (E:EH) (v:Value):Den σ E (tH v) v:=by
 cases v with
 |agg cs=>
  simp only[tH]
  split
  ·rename_i h;simp only[Den];exact⟨cs.toList,by simp,FZ σ E _ h⟩
  ·simp [Den]
 |tuple cs=>simp only[tH,Den];exact⟨cs.toList,by simp,NH σ E _⟩
 |bool b=>simp only[tH];exact AH σ E _
 |_=>simp [tH,oC,Den]
mutual
def V.val?:V->Option Value
 | .any v=>some v
 | .int k n=>some (.int k n)
 | .lit k n=>some (.int k n)
 | .sb b=>some (.bool b)
 | .tt=>some (.bool true)
 | .ff=>some (.bool false)
 | .dat (.val v)=>some v
 | .agg l=>match V.vals? l with | some vs=>some (.agg vs.toArray) | none=>none
 | .υ l=>match V.vals? l with | some vs=>some (.tuple vs.toArray) | none=>none
 | .fn f cap=>match V.vals? cap with | some vs=>some (.func (.func f) #[] vs.toArray) | none=>none
 |_=>none
def V.vals?:List V->Option (List Value)
 | []=>some []
 |v::vs=>match V.val? v with
  |some x=>match V.vals? vs with | some xs=>some (x::xs) | none=>none
  |none=>none
end
mutual
theorem De {σ:Sg} {E:EH}:∀{v:V} {x:Value},V.val? v=some x->∀{y:Value},Den σ E v y->y=x
 | .any _,_,h,_,hd | .int ..,_,h,_,hd | .lit ..,_,h,_,hd | .sb _,_,h,_,hd | .tt,_,h,_,hd | .ff,_,h,_,hd=>by
  simp [V.val?]at h;subst h;simpa [Den]using hd
 | .dat d,x,h,y,hd=>by
  cases d with
  |val v=>simp [V.val?]at h;subst h;simp only[Den,bK]at hd;exact hd.1
  |sl _ _=>simp [V.val?]at h
 | .agg l,x,h,y,hd=>by
  simp only[V.val?]at h
  cases hl:V.vals? l with
  |none=>simp [hl]at h
  |some vs=>
   simp [hl]at h;subst h
   simp only[Den]at hd
   obtain⟨xs,rfl,hd⟩:=hd
   rw[Uv hl hd]
 | .υ l,x,h,y,hd=>by
  simp only[V.val?]at h
  cases hl:V.vals? l with
  |none=>simp [hl]at h
  |some vs=>
   simp [hl]at h;subst h
   simp only[Den]at hd
   obtain⟨xs,rfl,hd⟩:=hd
   rw[KI hl hd]
 | .fn f l,x,h,y,hd=>by
  simp only[V.val?]at h
  cases hl:V.vals? l with
  |none=>simp [hl]at h
  |some vs=>
   simp [hl]at h;subst h
   simp only[Den]at hd
   obtain⟨xs,rfl,hd⟩:=hd
   rw[KI hl hd]
 | .ptr ..,_,h,_,_ | .pa ..,_,h,_,_ | .sl ..,_,h,_,_ | .pe ..,_,h,_,_ | .pw ..,_,h,_,_ | .e0,_,h,_,_ | .sa ..,_,h,_,_ | .se ..,_,h,_,_ | .dK ..,_,h,_,_ | .aa _,_,h,_,_ | .imp ..,_,h,_,_ | .mp _,_,h,_,_ | .ch _,_,h,_,_ | .arr ..,_,h,_,_=>by simp [V.val?]at h
theorem KI {σ:Sg} {E:EH}:∀{vs:List V} {xs:List Value},V.vals? vs=some xs->∀{ys:List Value},aq σ E vs ys->ys=xs
 | [],_,h,_,hd=>by simp [V.vals?]at h;subst h;simpa [aq]using hd
 |v::vs,xs,h,ys,hd=>by
  simp only[V.vals?]at h
  cases h1:V.val? v with
  |none=>simp [h1]at h
  |some x=>
   cases h2:V.vals? vs with
   |none=>simp [h1,h2]at h
   |some xs'=>
    simp [h1,h2]at h;subst h
    simp only[aq]at hd
    obtain⟨y,ys',rfl,hy,hys⟩:=hd
    rw[De h1 hy,KI h2 hys]
theorem Uv {σ:Sg} {E:EH}:∀{vs:List V} {xs:List Value},V.vals? vs=some xs->∀{ys:List Value},aT σ E vs ys->ys=xs
 | [],_,h,_,hd=>by simp [V.vals?]at h;subst h;simpa [aT]using hd
 |v::vs,xs,h,ys,hd=>by
  simp only[V.vals?]at h
  cases h1:V.val? v with
  |none=>simp [h1]at h
  |some x=>
   cases h2:V.vals? vs with
   |none=>simp [h1,h2]at h
   |some xs'=>
    simp [h1,h2]at h;subst h
    simp only[aT]at hd
    obtain⟨us,zs,rfl,hp,hys⟩:=hd
    rcases hp with ⟨y,rfl,_,hy⟩ | ⟨m,cs,rfl,_,_⟩
    ·rw[De h1 hy,Uv h2 hys];rfl
    ·simp [V.val?]at h1
end
mutual
def V.nG:V->Bool
 | .any _ | .int .. | .lit .. | .sb _ | .tt | .ff | .ptr .. | .pa .. | .pe .. | .pw .. | .mp _ | .ch _=>true
 | .dat (.val _)=>true
 | .agg l=>V.tI l
 | .υ l=>V.tI l
 |_=>false
def V.tI:List V->Bool
 | []=>true
 |v::vs=>match V.nG v with | true=>V.tI vs | false=>false
end
mutual
theorem AN {σ τ:Sg} {E E':EH}:∀{v:V},V.nG v=true->∀{x y:Value},Den σ E v x->Den (σ++τ) E' v y->x=y
 | .any _,_,_,_,h,k | .int ..,_,_,_,h,k | .lit ..,_,_,_,h,k | .sb _,_,_,_,h,k | .tt,_,_,_,h,k | .ff,_,_,_,h,k=>by simp only[Den]at h k;rw[h,k]
 | .ptr i off,_,_,_,h,k=>by
  simp only[Den]at h k
  obtain⟨r,h1,rfl⟩:=h
  obtain⟨r',h2,rfl⟩:=k
  rw[gk h1]at h2;cases h2;rfl
 | .pa i base o,_,_,_,h,k=>by
  simp only[Den]at h k
  obtain⟨r,h1,rfl⟩:=h
  obtain⟨r',h2,rfl⟩:=k
  rw[gk h1]at h2;cases h2;rfl
 | .pe i ix br,_,_,_,h,k=>by
  simp only[Den]at h k
  obtain⟨r,h1,rfl⟩:=h
  obtain⟨r',h2,rfl⟩:=k
  rw[gk h1]at h2;cases h2;rfl
 | .pw i ix,_,_,_,h,k=>by
  simp only[Den]at h k
  obtain⟨r,h1,rfl⟩:=h
  obtain⟨r',h2,rfl⟩:=k
  rw[gk h1]at h2;cases h2;rfl
 | .mp i,_,_,_,h,k=>by
  simp only[Den]at h k
  obtain⟨r,h1,rfl⟩:=h
  obtain⟨r',h2,rfl⟩:=k
  rw[gk h1]at h2;cases h2;rfl
 | .ch i,_,_,_,h,k=>by
  simp only[Den]at h k
  obtain⟨r,h1,rfl⟩:=h
  obtain⟨r',h2,rfl⟩:=k
  rw[gk h1]at h2;cases h2;rfl
 | .dat d,hd,_,_,h,k=>by
  cases d with
  |val v=>simp only[Den,bK]at h k;rw[h.1,k.1]
  |sl _ _=>simp [V.nG]at hd
 | .agg l,hd,_,_,h,k=>by
  simp only[V.nG]at hd
  simp only[Den]at h k
  obtain⟨xs,rfl,h1⟩:=h
  obtain⟨ys,rfl,h2⟩:=k
  rw[NM hd h1 h2]
 | .υ l,hd,_,_,h,k=>by
  simp only[V.nG]at hd
  simp only[Den]at h k
  obtain⟨xs,rfl,h1⟩:=h
  obtain⟨ys,rfl,h2⟩:=k
  rw[NN hd h1 h2]
 | .sl ..,h,_,_,_,_ | .e0,h,_,_,_,_ | .sa ..,h,_,_,_,_ | .se ..,h,_,_,_,_ | .dK ..,h,_,_,_,_ | .aa _,h,_,_,_,_ | .imp ..,h,_,_,_,_ | .fn ..,h,_,_,_,_ | .arr ..,h,_,_,_,_=>by simp [V.nG]at h
theorem NN {σ τ:Sg} {E E':EH}:∀{vs:List V},V.tI vs=true->∀{xs ys:List Value},aq σ E vs xs->aq (σ++τ) E' vs ys->xs=ys
 | [],_,_,_,h,k=>by simp only[aq]at h k;rw[h,k]
 |v::vs,hd,_,_,h,k=>by
  simp only[V.tI]at hd
  split at hd
  ·rename_i h0
   simp only[aq]at h k
   obtain⟨x,xs,rfl,h1,h2⟩:=h
   obtain⟨y,ys,rfl,k1,k2⟩:=k
   rw[AN h0 h1 k1,NN hd h2 k2]
  ·cases hd
theorem NM {σ τ:Sg} {E E':EH}:∀{vs:List V},V.tI vs=true->∀{xs ys:List Value},aT σ E vs xs->aT (σ++τ) E' vs ys->xs=ys
 | [],_,_,_,h,k=>by simp only[aT]at h k;rw[h,k]
 |v::vs,hd,_,_,h,k=>by
  simp only[V.tI]at hd
  split at hd
  ·rename_i h0
   simp only[aT]at h k
   obtain⟨xs,xs',rfl,h1,h2⟩:=h
   obtain⟨ys,ys',rfl,k1,k2⟩:=k
   rcases h1 with ⟨x,rfl,_,h1⟩ | ⟨m,cs,rfl,_,_⟩
   ·rcases k1 with ⟨y,rfl,_,k1⟩ | ⟨m,cs,rfl,_,_⟩
    ·rw[AN h0 h1 k1,NM hd h2 k2]
    ·simp [V.nG]at h0
   ·simp [V.nG]at h0
  ·cases hd
end
def V.one:V->Bool
 | .any v=>v.oneCell'
 | .agg _ | .υ _ | .arr .. =>false
 |_=>true
theorem one_den {σ:Sg} {E:EH} {v:V} {x:Value} (h:V.one v=true) (hd:Den σ E v x):x.oneCell'=true:=by
 cases v<;>(try simp only[V.one,Bool.false_eq_true]at h)<;>simp only[Den]at hd
 case any v=>subst hd;exact h
 case int=>subst hd;rfl
 case mp=>obtain⟨r,_,rfl⟩:=hd;rfl
 case ch=>obtain⟨r,_,rfl⟩:=hd;rfl
 case lit=>subst hd;rfl
 case sb=>subst hd;rfl
 case tt=>subst hd;rfl
 case ff=>subst hd;rfl
 case ptr=>obtain⟨r,_,rfl⟩:=hd;rfl
 case pa=>obtain⟨r,_,rfl⟩:=hd;rfl
 case sl=>obtain⟨r,a,_,rfl,_⟩:=hd;rfl
 case pe=>obtain⟨r,_,rfl⟩:=hd;rfl
 case pw=>obtain⟨r,_,rfl⟩:=hd;rfl
 case e0=>obtain⟨a,rfl⟩:=hd;rfl
 case sa=>obtain⟨r,a,_,rfl,_⟩:=hd;rfl
 case se=>obtain⟨r,a,_,rfl,_⟩:=hd;rfl
 case dK=>obtain⟨b,off,rfl,_⟩:=hd;rfl
 case aa=>rcases hd with ⟨_,rfl⟩ | ⟨e,b,_,rfl,_⟩<;>rfl
 case imp=>obtain⟨a,rfl,_⟩:=hd;rfl
 case dat d=>exact hd.one
 case fn=>obtain⟨vs,rfl,_⟩:=hd;rfl
def fA (P:Program) (t:TypeId):Option Nat:=(P.info? t).map (·.size)
def np (P:Program) (t:TypeId):Option Bool:=
 match P.underlying t with
 |some (.struct _)=>some true
 |some (.array _ _)=>some true
 |some _=>some false
 |none=>none
theorem kf {P:Program} {t:TypeId} {n:Nat} (h:fA P t=some n) (w:World):(Go.sizeOf t).run P w= .ok n w:=by
 simp only[fA,Option.map_eq_some_iff]at h
 obtain⟨i,hi,rfl⟩:=h
 simp [Go.sizeOf,typeInfo,hi]
theorem sV {P:Program} {t:TypeId} {b:Bool} (h:np P t=some b) (w:World):(isAgg t).run P w= .ok b w:=by
 unfold np at h
 cases hu:P.underlying t with
 |none=>simp [hu]at h
 |some d=>
  unfold isAgg
  rw[Sem.run_bind,run_underlying hu,Result.andThen_ok]
  simp only[hu]at h
  cases d<;>simp at h<;>subst h<;>rfl
inductive CK where
 |int (k:IntKind)
 |bool
 |sl (s:Nat)
 |other
 |arr (m:Nat) (z:Value)
 deriving Inhabited
def CK.w:CK->Nat
 | .arr m _=>m
 |_=>1
def wk:List CK->Nat
 | []=>0
 |k::ks=>k.w+wk ks
def mw (P:Program):Nat->TypeId->Option (List CK)
 | 0,_=>none
 |n+1,t=>
  match P.underlying t with
  |some (.struct fs)=>fs.toList.foldr (fun f acc=>match mw P n f.type,acc with | some a,some b=>some (a++b) | _,_=>none) (some [])
  |some (.array m e)=>match mw P n e with
   |some [.int k]=>some [.arr m (.int k 0)]
   |some [.bool]=>some [.arr m (.bool false)]
   |some [.arr q z]=>some [.arr (m*q) z]
   |some l=>some (dq m l).flatten
   |none=>none
  |some (.int k)=>some [.int k]
  |some .bool=>some [.bool]
  |some (.slice e)=>match fA P e with | some s=>some [.sl s] | none=>none
  |some _=>some [.other]
  |none=>none
def m_ (e:List D):Nat->List CK->(List V->Prop)->Prop
 |_,[],K=>K []
 |br,.int k::ks,K=>∃ n,e[br]? =some (.val (.int k n))/\m_ e (br+1) ks (fun r=>K (.int k n::r))
 |br,.bool::ks,K=>∃ b,e[br]? =some (.val (.bool b))/\m_ e (br+1) ks (fun r=>K (.sb b::r))
 |br,.sl s::ks,K=>∃ l,e[br]? =some (.sl s l)/\m_ e (br+1) ks (fun r=>K (.dat (.sl s l)::r))
 |br,.other::ks,K=>∃ v,e[br]? =some (.val v)/\m_ e (br+1) ks (fun r=>K (.dat (.val v)::r))
 |br,.arr m _::ks,K=>br+m<=e.length/\m_ e (br+m) ks (fun r=>K (.arr m ((e.drop br).take m)::r))
theorem pB {σ:Sg} {E:EH} {e:List D} {zs:List Value} (hz:a_ E e zs):∀{ks:List CK} {br:Nat} {K:List V->Prop},m_ e br ks K->
  ∃ vs xs,K vs/\aT σ E vs xs/\xs.length=wk ks/\∀(j:Nat) (x:Value),xs[j]? =some x->zs[br+j]? =some x
 | [],_,K,h=>⟨[],[],h,.nil,rfl,by simp⟩
 |ck::ks,br,K,h=>by
  have jc:∀{d:D} {v:V},e[br]? =some d->(∀ x,bK E d x->Den σ E v x)->m_ e (br+1) ks (fun r=>K (v::r))->ck.w=1->
    ∃ vs xs,K vs/\aT σ E vs xs/\xs.length=wk (ck::ks)/\∀(j:Nat) (x:Value),xs[j]? =some x->zs[br+j]? =some x:=by
   intro d v h1 hv h2 hw
   obtain⟨y,hy,hd⟩:=hz.get h1
   obtain⟨vs,xs,hK,hD,hl,hx⟩:=pB hz h2
   refine⟨_,y::xs,hK,.jc (hv y hd) hd.one hD,by simp [hl,wk,hw];omega,fun j x hj=>?_⟩
   cases j with
   |zero=>simp at hj;subst hj;exact hy
   |succ j=>rw[show br+(j+1)=br+1+j by omega];exact hx j x (by simpa using hj)
  cases ck with
  |int k=>obtain⟨n,h1,h2⟩:=h;exact jc h1 (fun x hx=>by simp only[bK]at hx;simp [Den,hx.1]) h2 rfl
  |bool=>obtain⟨n,h1,h2⟩:=h;exact jc h1 (fun x hx=>by simp only[bK]at hx;simp [Den,hx.1]) h2 rfl
  |sl s=>obtain⟨l,h1,h2⟩:=h;exact jc h1 (fun x hx=>by simpa only[Den]using hx) h2 rfl
  |other=>obtain⟨d,h1,h2⟩:=h;exact jc h1 (fun x hx=>by simpa only[Den]using hx) h2 rfl
  |arr m z=>
   obtain⟨h1,h2⟩:=h
   obtain⟨vs,xs,hK,hD,hl,hx⟩:=pB hz h2
   have hzl:=hz.len
   have hlen:((zs.drop br).take m).length=m:=by simp;omega
   refine⟨_,(zs.drop br).take m++xs,hK,.cons (.inr ⟨m,_,rfl,by simp;omega,(hz.drop br).take m⟩) hD,by rw[bn,hlen,hl];rfl,fun j x hj=>?_⟩
   rcases jX j m with hjm | hjm
   ·rw[dP (by omega),hU hjm,jw]at hj
    exact hj
   ·rw[eW (by omega),hlen]at hj
    have:=hx _ x hj
    rwa [show br+m+(j - m)=br+j by omega]at this
theorem CE {P:Program} {t:TypeId} {n:Nat} {agg:Bool} (hn:fA P t=some n) (ha:np P t=some agg) {W:World} {b o:Nat} {xs:List Value}
  (hl:xs.length=if agg then n else 1) (hx:∀(j:Nat) (x:Value),xs[j]? =some x->W.cell? ⟨b,o+j,none⟩=some x):
  (loadVar t ⟨b,o,none⟩).run P W= .ok (if agg then .agg xs.toArray else xs.getD 0 undef) W:=by
 unfold loadVar
 rw[Sem.run_bind,sV ha,Result.andThen_ok]
 cases agg with
 |true=>
  simp only[if_true]at hl ⊢
  have hc:=run_loadCells_list (P:=P) W ⟨b,o,none⟩ xs (fun j v hj=>by rw[Addr.add_lit];exact hx j v hj)
  rw[hl]at hc
  simp [kf hn,hc]
 |false=>
  simp only[Bool.false_eq_true,if_false]at hl ⊢
  match xs,hl with
  | [x],_=>
   have:=hx 0 x rfl
   simp at this
   simp [run_load,this]
def oV (agg:Bool) (vs:List V) (K:V->Prop):Prop:=
 match agg with
 |true=>K (.agg vs)
 |false=>match vs with
  | [.arr _ _]=>False
  | [v]=>K v
  |_=>False
theorem uC {agg:Bool} {vs:List V} {K:V->Prop} (h:oV agg vs K) {σ:Sg} {E:EH} {xs:List Value} (hd:aT σ E vs xs):
  ∃ v,K v/\Den σ E v (if agg then .agg xs.toArray else xs.getD 0 undef)/\(agg=false->xs.length=1):=by
 unfold oV at h
 split at h
 ·exact⟨_,h,by simp only[if_true,Den];exact⟨xs,rfl,hd⟩,fun h=>by cases h⟩
 ·split at h
  ·exact h.elim
  ·rename_i v hv
   obtain⟨ys,zs,rfl,h1,h2⟩:=hd.io
   simp only[aT]at h2
   subst h2
   rcases h1 with ⟨y,rfl,_,hy⟩ | ⟨m,cs,rfl,_,_⟩
   ·exact⟨v,h,by simpa using hy,fun _=>rfl⟩
   ·exact(hv _ _ rfl).elim
  ·exact h.elim
def pZ:Bool->Nat->Nat
 |true,n=>n
 |false,_=>1
theorem xr (agg:Bool) (n:Nat):pZ agg n=if agg then n else 1:=by cases agg<;>rfl
def nc (P:Program) (t:TypeId) (addr:V) (kb:KB) (K:V->Prop):Prop:=
 match fA P t,np P t with
 |some n,some agg=>
  match addr with
  | .ptr i off=>
   match kb[i]? with
   |some (.cells l)=>
    match qM l off with
    |some r=>match uy r (pZ agg n)with
     |some vs=>oV agg vs K
     |none=>False
    |none=>False
   |_=>False
  |_=>match mw P 20 t with
   |some ks=>match cp (wk ks) (pZ agg n)with
    |true=>match addr with
     | .pa i base o=>match kb[i]? with
      |some (.cells l)=>match iX l base with
       |some (.arr m cs)=>m_ cs o ks (fun vs=>oV agg vs K)
       |_=>False
      |_=>False
     | .pe i ix br=>match kb[i]? with
      |some (.row _ sz l)=>∃ e,l[ix]? =some e/\m_ e br ks (fun vs=>oV agg vs K)
      |_=>False
     | .pw i ix=>match kb[i]? with
      |some (.row _ sz l)=>m_ (l.drop ix).flatten 0 ks (fun vs=>oV agg vs K)
      |_=>False
     | .dK e br=>m_ e br ks (fun vs=>oV agg vs K)
     |_=>False
    |false=>False
   |none=>False
 |_,_=>False
theorem vc {W:World} {b o:Nat} {arr:Array Value} {ty:TypeId} {fr:Nat×Nat} (h:W.heap[b]? =some (.cells arr ty fr)):W.cell? ⟨b,o,none⟩=arr[o]?:=by
 simp [World.cell?,h]
theorem JI {σ:Sg} {E:EH} {W:World} {r:Re} {ty:TypeId} {sz:Nat} {l:List (List D)} (h:fY σ E W r (.row ty sz l)) (ix:Nat):
  ∃ zs,a_ E (l.drop ix).flatten zs/\∀(j:Nat) (x:Value),zs[j]? =some x->W.cell? ⟨r.blk,ix*r.sz+j,none⟩=some x:=by
 obtain⟨rfl,h1,h2,h3,h4⟩:=h
 rcases h4 with h4 | ⟨arr,h4,h5,h6⟩
 ·have:l=[]:=ma (by omega)
  subst this
  exact⟨[],by simpa using a_.nil,by simp⟩
 ·refine⟨_,by rw[xH h1];exact h6.drop (ix*r.sz),fun j x hj=>?_⟩
  rw[vc h4]
  rw[jw]at hj
  have hlt:ix*r.sz+j<l.length*r.sz:=by
   have:=(bG.1 hj).1
   simp only[cQ]at this
   omega
  rw[hU hlt]at hj
  simpa using hj
theorem JK {σ:Sg} {E:EH} {W:World} {r:Re} {ty:TypeId} {sz:Nat} {l:List (List D)} (h:fY σ E W r (.row ty sz l)) {ix:Nat} {e:List D} (he:l[ix]? =some e):
  ∃ zs,a_ E e zs/\∀(j:Nat) (x:Value),zs[j]? =some x->W.cell? ⟨r.blk,ix*r.sz+j,none⟩=some x:=by
 obtain⟨zs,h1,h2⟩:=JI h ix
 have hx:ix<l.length:=(bG.1 he).1
 have hd:l.drop ix=e::l.drop (ix+1):=by
  rw[List.drop_eq_getElem_cons hx]
  congr 1
  rw[bp hx]at he
  exact bb.inj he
 rw[hd,jm]at h1
 obtain⟨ys,us,rfl,h3,h4⟩:=h1.split
 exact⟨ys,h3,fun j x hj=>h2 j x (by rw[dP (bG.1 hj).1];exact hj)⟩
theorem R6 {σ:Sg} {E:EH} {W:World} {r:Re} {l:List V} (h:fY σ E W r (.cells l)) {base m:Nat} {cs:List D} (hp:iX l base=some (.arr m cs)):
  ∃ zs,a_ E cs zs/\∀(j:Nat) (x:Value),zs[j]? =some x->W.cell? ⟨r.blk,base+j,none⟩=some x:=by
 obtain⟨arr,ty,h1,h2⟩:=h
 obtain⟨ys,h3,h4,h5,h6⟩:=Ck hp h2
 refine⟨ys,h3,fun j x hj=>?_⟩
 rw[vc h1]
 have hlt:j<m:=by
  have:=(bG.1 hj).1
  rw[h3.len]at this;omega
 rw[<- h6,hU hlt,jw]at hj
 simpa using hj
theorem HJ {E:EH} {W:World} (hi:∀ b o,E b=some o->W.heap[b]? =some o) {b o:Nat} {x:Value} (h:E.cell b o=some x):W.cell? ⟨b,o,none⟩=some x:=by
 unfold EH.cell at h
 split at h
 ·rename_i c ty fr hb
  rw[vc (hi b _ hb)];exact h
 ·cases h
def o0 (W W':World):Prop:=∀ k,k<W.heap.size->W'.heap[k]? =W.heap[k]?
theorem o0.refl (W:World):o0 W W:=fun _ _=>rfl
theorem o0.cell {W W':World} (h:o0 W W') {ad:Addr} {x:Value} (hc:W.cell? ad=some x):W'.cell? ad=some x:=by
 unfold World.cell? at hc ⊢
 have hb:ad.block<W.heap.size:=by
  rcases jX ad.block W.heap.size with h' | h'
  ·exact h'
  ·rw[Array.getElem?_eq_none h']at hc;cases hc
 rw[h _ hb];exact hc
theorem Qe {P:Program} {t:TypeId} {addr:V} {kb:KB} {K:V->Prop} (h:nc P t addr kb K) {σ:Sg} {E:EH} {W:World} (hi:Inv σ E kb W) {a:Value} (hd:Den σ E addr a):
  ∃ v x,(∀ W',o0 W W'->(Instr.loadAt t a).run P W'= .ok x W')/\Den σ E v x/\K v:=by
 unfold nc at h
 split at h<;>try exact h.elim
 rename_i n agg hn ha
 have fin:∀{b o:Nat} {vs:List V} {xs:List Value},a= .pointer (some ⟨b,o,none⟩)->oV agg vs K->aT σ E vs xs->xs.length=pZ agg n->(∀(j:Nat) (x:Value),xs[j]? =some x->W.cell? ⟨b,o+j,none⟩=some x)->
   ∃ v x,(∀ W',o0 W W'->(Instr.loadAt t a).run P W'= .ok x W')/\Den σ E v x/\K v:=by
  rintro b o vs xs rfl hK hD hl hc
  obtain⟨v,h1,h2,h3⟩:=uC hK hD
  rw[xr]at hl
  exact⟨v,_,fun W' hW=>by simpa [Instr.loadAt,Instr.sureAddr]using CE hn ha hl (fun j x hj=>hW.cell (hc j x hj)),h2,h1⟩
 split at h
 ·rename_i i off
  simp only[Den]at hd
  obtain⟨r,hr,rfl⟩:=hd
  split at h<;>try exact h.elim
  rename_i l hl
  split at h<;>try exact h.elim
  rename_i l1 xW
  split at h<;>try exact h.elim
  rename_i vs hvs
  obtain⟨arr,ty,hh,hD⟩:=hi.obj i r _ hr hl
  obtain⟨d1,_⟩:=sr xW hD
  obtain⟨d2,d3⟩:=C6 hvs d1
  refine fin rfl h d2 (by rw[cQ];omega) (fun j x hj=>?_)
  rw[vc hh]
  have hlt:j<pZ agg n:=by
   have:=(bG.1 hj).1
   simp only[cQ]at this
   omega
  rw[hU hlt,jw]at hj
  simpa using hj
 ·split at h<;>try exact h.elim
  rename_i ks hks
  split at h<;>try exact h.elim
  rename_i hb
  have hw:=cU hb
  split at h<;>try exact h.elim
  ·rename_i i base o _
   simp only[Den]at hd
   obtain⟨r,hr,rfl⟩:=hd
   split at h<;>try exact h.elim
   rename_i l hl
   split at h<;>try exact h.elim
   rename_i m cs hp
   obtain⟨zs,h1,h2⟩:=R6 (hi.obj i r _ hr hl) hp
   obtain⟨vs,xs,hK,hD,gQ,hx⟩:=pB (σ:=σ) h1 h
   exact fin rfl hK hD (gQ.trans hw) (fun j x hj=>by rw[gE];exact h2 _ _ (hx j x hj))
  ·rename_i i ix br _
   simp only[Den]at hd
   obtain⟨r,hr,rfl⟩:=hd
   split at h<;>try exact h.elim
   rename_i ty sz l hl
   obtain⟨e,he,h⟩:=h
   obtain⟨zs,h1,h2⟩:=JK (hi.obj i r _ hr hl) he
   obtain⟨vs,xs,hK,hD,gQ,hx⟩:=pB (σ:=σ) h1 h
   exact fin rfl hK hD (gQ.trans hw) (fun j x hj=>by rw[gE];exact h2 _ _ (hx j x hj))
  ·rename_i i ix _
   simp only[Den]at hd
   obtain⟨r,hr,rfl⟩:=hd
   split at h<;>try exact h.elim
   rename_i ty sz l hl
   obtain⟨zs,h1,h2⟩:=JI (hi.obj i r _ hr hl) ix
   obtain⟨vs,xs,hK,hD,gQ,hx⟩:=pB (σ:=σ) h1 h
   exact fin rfl hK hD (gQ.trans hw) (fun j x hj=>by have:=h2 _ _ (hx j x hj);rwa [c9]at this)
  ·rename_i e br _
   simp only[Den]at hd
   obtain⟨b,off,rfl,fg⟩:=hd
   obtain⟨zs,h1,h2⟩:=fg.AK
   obtain⟨vs,xs,hK,hD,gQ,hx⟩:=pB (σ:=σ) h1 h
   exact fin rfl hK hD (gQ.trans hw) (fun j x hj=>by rw[gE];exact HJ hi.dj (h2 _ _ (hx j x hj)))
theorem H4 {P:Program} {t:TypeId} {addr:V} {kb:KB} {K:V->Prop} (h:nc P t addr kb K) {σ:Sg} {E:EH} {W:World} (hi:Inv σ E kb W) {a:Value} (hd:Den σ E addr a):
  ∃ v x,(Instr.loadAt t a).run P W= .ok x W/\Den σ E v x/\K v:=by
 obtain⟨v,x,h1,h2,h3⟩:=Qe h hi hd
 exact⟨v,x,h1 W (o0.refl W),h2,h3⟩
theorem aaG {P:Program} {t:TypeId} {i off:Nat} {kb:KB} {K:V->Prop} (h:nc P t (.ptr i off) kb K) {σ:Sg} {E:EH} {W:World} (hi:Inv σ E kb W) {r:Re} (hr:σ[i]? =some r):
  ∃ x,∀ W':World,W'.heap[r.blk]? =W.heap[r.blk]?->(Instr.loadAt t (.pointer (some ⟨r.blk,off,none⟩))).run P W'= .ok x W':=by
 unfold nc at h
 split at h<;>try exact h.elim
 rename_i n agg hn ha
 dsimp only at h
 split at h<;>try exact h.elim
 rename_i l hl
 split at h<;>try exact h.elim
 rename_i l1 xW
 split at h<;>try exact h.elim
 rename_i vs hvs
 obtain⟨arr,ty,hh,hD⟩:=hi.obj i r _ hr hl
 obtain⟨d1,_⟩:=sr xW hD
 obtain⟨d2,d3⟩:=C6 hvs d1
 obtain⟨v,h1,h2,h3⟩:=uC h d2
 have h9:(az (pZ agg n) (ay off arr.toList)).length=pZ agg n:=by rw[cQ];omega
 have fin:∀{xs:List Value},xs.length=pZ agg n->(∀(W':World),W'.heap[r.blk]? =W.heap[r.blk]?->∀(j:Nat) (x:Value),xs[j]? =some x->W'.cell? ⟨r.blk,off+j,none⟩=some x)->∃ x,∀ W':World,W'.heap[r.blk]? =W.heap[r.blk]?->(Instr.loadAt t (.pointer (some ⟨r.blk,off,none⟩))).run P W'= .ok x W':=fun hl hs=>by
  rw[xr]at hl
  exact⟨_,fun W' hW=>by simpa [Instr.loadAt,Instr.sureAddr]using CE hn ha hl (hs W' hW)⟩
 refine fin h9 fun W' hW j x hj=>?_
 rw[vc (hW.trans hh)]
 have hlt:j<pZ agg n:=by
  have:=(bG.1 hj).1
  simp only[cQ]at this
  omega
 rw[hU hlt,jw]at hj
 simpa using hj
theorem WX {W W':World} {b o:Nat} {x:Value} (h:W.cell? ⟨b,o,none⟩=some x) (hW:W'.heap[b]? =W.heap[b]?):W'.cell? ⟨b,o,none⟩=some x:=by
 unfold World.cell? at h ⊢
 dsimp only at h ⊢
 rw[hW];exact h
theorem aaH {P:Program} {t:TypeId} {i ix br:Nat} {kb:KB} {K:V->Prop} (h:nc P t (.pe i ix br) kb K) {σ:Sg} {E:EH} {W:World} (hi:Inv σ E kb W) {r:Re} (hr:σ[i]? =some r):
  (∀ o,kb[i]? =some o->owned r o r.blk)/\∃ x,∀ W':World,W'.heap[r.blk]? =W.heap[r.blk]?->(Instr.loadAt t (.pointer (some ⟨r.blk,ix*r.sz+br,none⟩))).run P W'= .ok x W':=by
 unfold nc at h
 split at h<;>try exact h.elim
 rename_i n agg hn ha
 dsimp only at h
 split at h<;>try exact h.elim
 rename_i ks hks
 split at h<;>try exact h.elim
 rename_i hb
 have hw:=cU hb
 split at h<;>try exact h.elim
 rename_i ty sz l hl
 obtain⟨e,he,h⟩:=h
 have ho:=hi.obj i r _ hr hl
 refine⟨fun o h0=>?_,?_⟩
 ·rw[hl]at h0;cases h0
  obtain⟨_,_,h2,_⟩:=ho
  have:=(bG.1 he).1
  exact⟨by omega,rfl⟩
 ·obtain⟨zs,h1,h2⟩:=JK ho he
  obtain⟨vs,xs,hK,hD,gQ,hx⟩:=pB (σ:=σ) h1 h
  have hl:=gQ.trans hw
  rw[xr]at hl
  exact⟨_,fun W' hW=>by simpa [Instr.loadAt,Instr.sureAddr]using CE hn ha hl (fun j x hj=>by rw[gE];exact WX (h2 _ _ (hx j x hj)) hW)⟩
theorem aaI {P:Program} {t:TypeId} {e:List D} {br:Nat} {kb:KB} {K:V->Prop} (h:nc P t (.dK e br) kb K) {σ:Sg} {E:EH} {a:Value} (hd:Den σ E (.dK e br) a):
  ∃ x,∀{W:World},(∀ b o,E b=some o->W.heap[b]? =some o)->(Instr.loadAt t a).run P W= .ok x W:=by
 unfold nc at h
 split at h<;>try exact h.elim
 rename_i n agg hn ha
 simp only at h
 split at h<;>try exact h.elim
 rename_i ks hks
 split at h<;>try exact h.elim
 rename_i hb
 have hw:=cU hb
 simp only[Den]at hd
 obtain⟨b,off,rfl,fg⟩:=hd
 obtain⟨zs,h1,h2⟩:=fg.AK
 obtain⟨vs,xs,hK,hD,gQ,hx⟩:=pB (σ:=σ) h1 h
 have hl:=gQ.trans hw
 rw[xr]at hl
 exact⟨_,fun{W} hi=>by simpa [Instr.loadAt,Instr.sureAddr]using CE hn ha hl (fun j x hj=>by rw[gE];exact HJ hi (h2 _ _ (hx j x hj)))⟩
def H2:V->Option D
 | .int k n=>some (.val (.int k n))
 | .lit k n=>some (.val (.int k n))
 | .sb b=>some (.val (.bool b))
 | .tt=>some (.val (.bool true))
 | .ff=>some (.val (.bool false))
 | .dat d=>some d
 |_=>none
theorem aaD {v:V} {d:D} (h:H2 v=some d) {σ:Sg} {E:EH} {x:Value} (hd:Den σ E v x):bK E d x:=by
 cases v<;>simp only[H2,bb.injEq,reduceCtorEq]at h<;>subst h<;>simp only[Den]at hd<;>
  first | exact hd | (subst hd;simp [bK,lU])
def Cl:V->Option (List D)
 | .arr _ cs=>some cs
 |v=>match H2 v with | some d=>some [d] | none=>none
theorem R5 {v:V} {ds:List D} (h:Cl v=some ds) {σ:Sg} {E:EH} {ys:List Value} (hd:mN σ E v ys):a_ E ds ys:=by
 unfold Cl at h
 split at h
 ·cases h
  rcases hd with ⟨y,rfl,_,hy⟩ | ⟨m,cs,e,_,hD⟩
  ·simp only[Den]at hy
  ·cases e;exact hD
 ·rename_i hna
  split at h<;>try (cases h;done)
  rename_i d hl
  cases h
  rcases hd with ⟨y,rfl,_,hy⟩ | ⟨m,cs,e,_,hD⟩
  ·exact .cons (aaD hl hy) .nil
  ·exact(hna _ _ e).elim
def tM:List V->Nat->Option (List D×List V)
 |vs,0=>some ([],vs)
 | [],_+1=>none
 |v::vs,n+1=>match rM (n+1) v.w with
  |some 0=>match Cl v with | some cs=>some (cs,vs) | none=>none
  |some (k+1)=>match Cl v,tM vs (k+1)with | some cs,some (ds,r)=>some (cs++ds,r) | _,_=>none
  |none=>none
theorem GN:∀{vs:List V} {n:Nat} {ds:List D} {r:List V},tM vs n=some (ds,r)->∀{σ:Sg} {E:EH} {xs:List Value},aT σ E vs xs->
  ∃ ys zs,xs=ys++zs/\a_ E ds ys/\ys.length=n/\aT σ E r zs
 |vs,0,ds,r,h,σ,E,xs,hd=>by simp [tM]at h;obtain⟨rfl,rfl⟩:=h;exact⟨[],xs,rfl,.nil,rfl,hd⟩
 | [],n+1,ds,r,h,_,_,_,_=>by simp [tM]at h
 |v::vs,n+1,ds,r,h,σ,E,xs,hd=>by
  obtain⟨ys,zs,rfl,h1,h2⟩:=hd.io
  simp only[tM]at h
  split at h
  ·rename_i hk
   split at h<;>try (cases h;done)
   rename_i cs hcs
   cases h
   have:=wq hk
   exact⟨ys,zs,rfl,R5 hcs h1,by rw[h1.len];omega,h2⟩
  ·rename_i k hk
   split at h<;>try (cases h;done)
   rename_i cs es r' hcs hg
   cases h
   have:=wq hk
   obtain⟨us,ws,rfl,h3,h4,h5⟩:=GN hg h2
   exact⟨ys++us,ws,by simp,(R5 hcs h1).append h3,by rw[bn,h1.len,h4];omega,h5⟩
  ·cases h
def l5:List CK->List V->Option (List V)
 | [],[]=>some []
 | .arr m _::ks,vs=>match tM vs m with
  |some (ds,r)=>match l5 ks r with | some us=>some (.arr m ds::us) | none=>none
  |none=>none
 |_::ks,v::vs=>match v with
  | .arr _ _=>none
  |_=>match l5 ks vs with | some us=>some (v::us) | none=>none
 |_,_=>none
theorem II:∀{ks:List CK} {vs us:List V},l5 ks vs=some us->∀{σ:Sg} {E:EH} {xs:List Value},aT σ E vs xs->aT σ E us xs/\xs.length=wk ks
 | [],[],us,h,σ,E,xs,hd=>by simp [l5]at h;subst h;exact⟨hd,by simp only[aT]at hd;subst hd;rfl⟩
 | [],_:: _,us,h,_,_,_,_=>by simp [l5]at h
 |c::ks,vs,us,h,σ,E,xs,hd=>by
  have single:∀{v:V} {vs':List V},vs=v::vs'->c.w=1->(match v with | .arr _ _=>none | _=>match l5 ks vs' with | some us=>some (v::us) | none=>none)=some us->aT σ E us xs/\xs.length=wk (c::ks):=by
   rintro v vs' rfl hw h
   obtain⟨ys,zs,rfl,h1,h2⟩:=hd.io
   split at h
   ·cases h
   ·rename_i hna
    split at h<;>try (cases h;done)
    rename_i us' lB
    cases h
    obtain⟨h3,h4⟩:=II lB h2
    refine⟨.cons h1 h3,?_⟩
    rw[bn,h1.len,h4]
    have:v.w=1:=by cases v<;>first | rfl | exact(hna _ _ rfl).elim
    rw[this];simp [wk,hw]
  cases c with
  |arr m z=>
   simp only[l5]at h
   split at h<;>try (cases h;done)
   rename_i ds r hg
   split at h<;>try (cases h;done)
   rename_i us' lB
   cases h
   obtain⟨ys,zs,rfl,h1,h2,h3⟩:=GN hg hd
   obtain⟨h4,h5⟩:=II lB h3
   exact⟨.cons (.inr ⟨m,ds,rfl,by rw[<- h1.len,h2],h1⟩) h4,by rw[bn,h2,h5];rfl⟩
  |int k=>cases vs with | nil=>simp [l5]at h | cons v vs'=>exact single rfl rfl (by simpa only[l5]using h)
  |bool=>cases vs with | nil=>simp [l5]at h | cons v vs'=>exact single rfl rfl (by simpa only[l5]using h)
  |sl s=>cases vs with | nil=>simp [l5]at h | cons v vs'=>exact single rfl rfl (by simpa only[l5]using h)
  |other=>cases vs with | nil=>simp [l5]at h | cons v vs'=>exact single rfl rfl (by simpa only[l5]using h)
def Ay (P:Program) (t:TypeId) (v:V):Option (List V):=
 match fA P t with
 |some n=>match v with
  | .agg vs=>match mw P 20 t with
   |some ks=>match cp (wk ks) n with | true=>l5 ks vs | false=>none
   |none=>none
  |_=>match cp n 1,V.one v with | true,true=>some [v] | _,_=>none
 |none=>none
theorem Nb {P:Program} {t:TypeId} {v:V} {vs:List V} (h:Ay P t v=some vs) {σ:Sg} {E:EH} {x:Value} (hd:Den σ E v x):
  ∃ xs,x.cells=xs.toArray/\aT σ E vs xs/\(∀ y∈xs,y.oneCell'=true)/\fA P t=some xs.length:=by
 unfold Ay at h
 split at h<;>try (cases h;done)
 rename_i n hn
 split at h
 ·split at h<;>try (cases h;done)
  rename_i ks hks
  split at h<;>try (cases h;done)
  rename_i hb
  simp only[Den]at hd
  obtain⟨xs,rfl,hD⟩:=hd
  obtain⟨h1,h2⟩:=II h hD
  exact⟨xs,rfl,h1,h1.one,by rw[hn,h2,cU hb]⟩
 ·split at h<;>try (cases h;done)
  rename_i h1 h2
  cases h
  have h3:=one_den h2 hd
  refine⟨[x],?_,.jc hd h3 .nil,by simpa using h3,by rw[hn,cU h1];rfl⟩
  cases x<;>simp_all [Value.cells,lU]
def qJ (c:CK) (v:V) (kb:KB) (K:D->KB->Prop):Prop:=
 match v with
 | .int k n=>K (.val (.int k n)) kb
 | .lit k n=>K (.val (.int k n)) kb
 | .sb b=>K (.val (.bool b)) kb
 | .tt=>K (.val (.bool true)) kb
 | .ff=>K (.val (.bool false)) kb
 | .dat d=>K d kb
 | .any v=>match c,v with
  | .sl s,.slice none 0 0=>K (.sl s []) kb
  |_,_=>match v.oneCell' with | true=>K (.val v) kb | false=>False
 | .e0=>match c with | .sl s=>K (.sl s []) kb | _=>False
 | .fn f cap=>match V.val? (.fn f cap)with | some v=>K (.val v) kb | none=>False
 | .sl i lo hi=>match c,kb[i]? with
  | .sl s,some (.row _ sz l)=>match cp sz s with
   |true=>hi<=l.length/\K (.sl s ((l.take hi).drop lo)) (kb.set i .dead)
   |false=>False
  |_,_=>False
 |_=>False
theorem Kt {sz:Nat} {l:List (List D)} (h:wl sz l) (lo hi:Nat):((l.take hi).drop lo).flatten=(l.flatten.drop (lo*sz)).take ((hi - lo)*sz):=by
 rw[xH (h.take hi),xI h,List.drop_take,Nat.sub_mul]
theorem SK {E:EH} {r:Re} {sz:Nat} {l:List (List D)} (hsz:r.sz=sz) (hw:wl sz l) {lo hi:Nat} (hlh:lo<=hi) (hhl:hi<=l.length) (hlc:l.length<=r.cap) {a:Option Addr} (ha:lo<r.cap->a=some ⟨r.blk,lo*r.sz,none⟩)
  (fg:r.cap≠0->di E l.flatten r.blk 0):bK E (.sl sz ((l.take hi).drop lo)) (.slice a (hi - lo) (r.cap - lo)):=by
 simp only[bK]
 have hlen:((l.take hi).drop lo).length=hi - lo:=by simp;omega
 refine⟨a,r.cap - lo,by rw[hlen],by rw[hlen];omega,?_⟩
 by_cases h0:hi - lo=0
 ·left;rw[hlen];exact h0
 ·right
  refine⟨r.blk,lo*r.sz,ha (by omega),fb.of_flat ((hw.take hi).drop lo) ?_⟩
  rw[Kt hw,hsz]
  have:=(fg (by omega)).sub (lo*sz) ((hi - lo)*sz)
  rwa [c9]at this
theorem xz {c:CK} {v:V} {kb:KB} {K:D->KB->Prop} (h:qJ c v kb K) {σ:Sg} {E:EH} {W:World} (hi:Inv σ E kb W) {x:Value} (hd:Den σ E v x):
  ∃ E' kb' d,Step σ E kb W σ E' kb' W/\bK E' d x/\K d kb':=by
 have p7:∀{d:D},K d kb->bK E d x->∃ E' kb' d,Step σ E kb W σ E' kb' W/\bK E' d x/\K d kb':=fun hK hr=>⟨E,kb,_,Step.refl hi,hr,hK⟩
 unfold qJ at h
 split at h
 ·simp only[Den]at hd;exact p7 h (by simp [bK,hd,lU])
 ·simp only[Den]at hd;exact p7 h (by simp [bK,hd,lU])
 ·simp only[Den]at hd;exact p7 h (by simp [bK,hd,lU])
 ·simp only[Den]at hd;exact p7 h (by simp [bK,hd,lU])
 ·simp only[Den]at hd;exact p7 h (by simp [bK,hd,lU])
 ·simp only[Den]at hd;exact p7 h hd
 ·simp only[Den]at hd
  split at h
  ·exact p7 h (by simp only[bK];exact⟨none,0,by simpa using hd,by simp,.inl rfl⟩)
  ·split at h
   ·rename_i h1;exact p7 h (by simp only[bK];exact⟨hd,h1⟩)
   ·exact h.elim
 ·split at h<;>try exact h.elim
  simp only[Den]at hd
  obtain⟨a,rfl⟩:=hd
  exact p7 h (by simp only[bK];exact⟨a,0,by simp,by simp,.inl rfl⟩)
 ·split at h<;>try exact h.elim
  rename_i f cap v hv
  have hx:=De hv hd
  subst hx
  exact p7 h ⟨rfl,one_den (σ:=σ) (E:=E) (v:=.fn _ _) rfl hd⟩
 ·rename_i i lo hi'
  split at h<;>try exact h.elim
  rename_i s ty sz l hl
  split at h<;>try exact h.elim
  rename_i hb
  have hsz:=cU hb
  subst hsz
  obtain⟨hle,hK⟩:=h
  simp only[Den]at hd
  obtain⟨r,a,hr,rfl,g1,g2,g3⟩:=hd
  obtain⟨k1,k2,k3,k4,k5⟩:=hi.obj i r _ hr hl
  obtain⟨E',h1,h2⟩:=hi.freeze hr hl
  exact⟨E',_,_,h1,SK k1 k2 g1 hle k3 g3 h2,hK⟩
 ·exact h.elim
def mi (ds:List D):List D->List D
 | []=>ds
 |e::es=>ds++e::es
theorem MD (ds es:List D):mi ds es=ds++es:=by cases es<;>simp [mi]
def vf:List CK->List V->KB->(List D->KB->Prop)->Prop
 | [],[],kb,K=>K [] kb
 | .arr m _::ks,vs,kb,K=>match tM vs m with
  |some (ds,r)=>vf ks r kb (fun es kb'=>K (mi ds es) kb')
  |none=>False
 |c::ks,v::vs,kb,K=>qJ c v kb (fun d kb'=>vf ks vs kb' (fun es jG=>K (d::es) jG))
 |_,_,_,_=>False
theorem FP:∀{ks:List CK} {vs:List V} {kb:KB} {K:List D->KB->Prop},vf ks vs kb K->∀{σ:Sg} {E:EH} {W:World},Inv σ E kb W->∀{xs:List Value},aT σ E vs xs->
  ∃ E' kb' ds,Step σ E kb W σ E' kb' W/\a_ E' ds xs/\xs.length=wk ks/\K ds kb'
 | [],[],kb,K,h,σ,E,W,hi,xs,hd=>by
  simp only[aT]at hd;subst hd
  exact⟨E,kb,[],Step.refl hi,.nil,rfl,h⟩
 | [],_:: _,kb,K,h,_,_,_,_,_,_=>h.elim
 |c::ks,vs,kb,K,h,σ,E,W,hi,xs,hd=>by
  have single:∀{v:V} {vs':List V},vs=v::vs'->c.w=1->qJ c v kb (fun d kb'=>vf ks vs' kb' (fun es jG=>K (d::es) jG))->
    ∃ E' kb' ds,Step σ E kb W σ E' kb' W/\a_ E' ds xs/\xs.length=wk (c::ks)/\K ds kb':=by
   rintro v vs' rfl hw h
   obtain⟨ys,zs,rfl,h1,h2⟩:=hd.io
   rcases h1 with ⟨y,rfl,_,hy⟩ | ⟨m,cs,rfl,_,_⟩
   ·obtain⟨E1,eH,d,s1,r1,h⟩:=xz h hi hy
    obtain⟨τ,oF⟩:=s1.pre
    have h2':=aT.mono (τ:=[]) s1.le h2
    rw[fD]at h2'
    obtain⟨E2,bE,ds,s2,r2,hl,hK⟩:=FP h s1.inv h2'
    refine⟨E2,bE,d::ds,s1.trans s2,.cons (r1.mono s2.le) r2,?_,hK⟩
    simp only[bn,iZ,kn,hl,wk,hw]
   ·exact h.elim
  cases c with
  |arr m z=>
   simp only[vf]at h
   split at h<;>try exact h.elim
   rename_i ds r hg
   obtain⟨ys,zs,rfl,h1,h2,h3⟩:=GN hg hd
   obtain⟨E1,eH,es,s1,r1,hl,hK⟩:=FP h hi h3
   exact⟨E1,eH,ds++es,s1,(h1.mono s1.le).append r1,by rw[bn,h2,hl];rfl,by rw[<- MD];exact hK⟩
  |int k=>cases vs with | nil=>exact h.elim | cons v vs'=>exact single rfl rfl h
  |bool=>cases vs with | nil=>exact h.elim | cons v vs'=>exact single rfl rfl h
  |sl s=>cases vs with | nil=>exact h.elim | cons v vs'=>exact single rfl rfl h
  |other=>cases vs with | nil=>exact h.elim | cons v vs'=>exact single rfl rfl h
def cellsD (P:Program) (t:TypeId) (v:V) (kb:KB) (K:List D->KB->Prop):Prop:=
 match fA P t,mw P 20 t with
 |some n,some ks=>match cp (wk ks) n with
  |true=>match v with
   | .agg vs=>vf ks vs kb K
   |_=>match ks with
    | [c]=>match V.one v,cp n 1 with | true,true=>qJ c v kb (fun d kb'=>K [d] kb') | _,_=>False
    |_=>False
  |false=>False
 |_,_=>False
theorem vd {P:Program} {t:TypeId} {v:V} {kb:KB} {K:List D->KB->Prop} (h:cellsD P t v kb K) {σ:Sg} {E:EH} {W:World} (hi:Inv σ E kb W) {x:Value} (hd:Den σ E v x):
  ∃ E' kb' ds xs,Step σ E kb W σ E' kb' W/\x.cells=xs.toArray/\a_ E' ds xs/\K ds kb'/\fA P t=some xs.length:=by
 unfold cellsD at h
 split at h<;>try exact h.elim
 rename_i n ks hn hks
 split at h<;>try exact h.elim
 rename_i hb
 have hw:=cU hb
 split at h
 ·simp only[Den]at hd
  obtain⟨xs,rfl,hD⟩:=hd
  obtain⟨E1,eH,ds,s1,r1,hl,hK⟩:=FP h hi hD
  exact⟨E1,eH,ds,xs,s1,rfl,r1,hK,by rw[hn,hl,hw]⟩
 ·rename_i hna
  split at h<;>try exact h.elim
  rename_i c
  split at h<;>try exact h.elim
  rename_i ho hn1
  obtain⟨E1,eH,d,s1,r1,hK⟩:=xz h hi hd
  have h3:=one_den ho hd
  refine⟨E1,eH,[d],[x],s1,?_,.cons r1 .nil,hK,by rw[hn,cU hn1];rfl⟩
  cases x<;>simp_all [Value.cells,lU]
theorem CI {P:Program} {t:TypeId} {x:Value} {xs:List Value} (hx:x.cells=xs.toArray) (hn:fA P t=some xs.length) (h1:∀ y∈xs,y.oneCell'=true)
  {W:World} {b o:Nat} {arr:Array Value} {ty:TypeId} (hb:W.heap[b]? =some (.cells arr ty (0,0))) (hl:o+xs.length<=arr.size):
  (storeVar t ⟨b,o,none⟩ x).run P W= .ok () (W.setRow b (splice arr.toList o xs).toArray):=by
 unfold storeVar
 rw[Sem.run_bind,kf hn,Result.andThen_ok,hx]
 have hs:=run_storeCells_at P b o ty xs 0 arr W hb (by simpa using hl) h1
 simp only[Nat.add_zero]at hs
 simp [hs,splice]
theorem CP {σ:Sg} {E:EH} {kb:KB} {W:World} (hi:Inv σ E kb W) {i:Nat} {r:Re} {o o':KO} (hs:σ[i]? =some r) (hk:kb[i]? =some o) (arr:Array Value)
  (hr:∀ b,owned r o b ↔ b=r.blk) (hr':∀ b,owned r o' b->b=r.blk) (ho:fY σ E (W.setRow r.blk arr) r o'):
  Step σ E kb W σ E (kb.set i o') (W.setRow r.blk arr):=
 hi.set hs hk rfl rfl rfl (by simp [World.setRow]) (fun b hb=>setRow_other W r.blk b arr (fun e=>hb ((hr b).2 e))) (fun b hb=>(hr b).2 (hr' b hb)) ho
def Ki (P:Program) (t:TypeId) (addr v:V) (kb:KB) (K:KB->Prop):Prop:=
 match addr with
 | .ptr i off=>match Ay P t v,kb[i]? with
  |some vs,some (.cells l)=>match jg l off vs with
   |some l'=>K (kb.set i (.cells l'))
   |none=>False
  |_,_=>False
 | .pa i base o=>match fA P t with
  |some n=>cellsD P t v kb (fun ds kb=>match kb[i]? with
   |some (.cells l)=>match iX l base with
    |some (.arr m cs)=>match jg l base [.arr m (splice cs o ds)]with
     |some l'=>o+n<=m/\K (kb.set i (.cells l'))
     |none=>False
    |_=>False
   |_=>False)
  |none=>False
 | .pe i ix br=>match fA P t with
  |some n=>cellsD P t v kb (fun ds kb=>match kb[i]? with
   |some (.row ty sz l)=>match cp n sz with
    |true=>match br with
     | 0=>ix<l.length/\K (kb.set i (.row ty sz (l.set ix ds)))
     |_=>False
    |false=>∃ e,l[ix]? =some e/\br+n<=sz/\K (kb.set i (.row ty sz (l.set ix (splice e br ds))))
   |_=>False)
  |none=>False
 |_=>False
theorem Gv {sz:Nat}:∀{l:List (List D)},wl sz l->∀{ix:Nat},ix<l.length->∀{e:List D},e.length=sz->
  (l.set ix e).flatten=splice l.flatten (ix*sz) e
 | [],_,ix,h,_,_=>by simp at h
 |c::l,hs,ix,h,e,he=>by
  have hc:c.length=sz:=hs c (by simp)
  cases ix with
  |zero=>simp [splice,he,<- hc]
  |succ ix=>
   rw[List.set_cons_succ,jm,Gv hs.cons (by simpa using h) he]
   have e1:(ix+1)*sz=c.length+ix*sz:=by rw[Nat.succ_mul,hc];omega
   unfold splice
   rw[e1,jm,List.take_length_add_append,gE c.length,List.drop_length_add_append]
   simp only[dO]
theorem tO {α:Type} {l:List α} {off:Nat} {vs:List α} (h:off<=l.length) (j:Nat):(splice l off vs)[j]? =if j<off then l[j]? else if j<off+vs.length then vs[j - off]? else l[j]?:=by
 have hl:(l.take off).length=off:=by simp;omega
 unfold splice
 by_cases h1:j<off
 ·rw[if_pos h1,dO,dP (by omega),hU h1]
 ·rw[if_neg h1]
  by_cases h2:j<off+vs.length
  ·rw[if_pos h2,dP (by rw[bn];omega),eW (by omega),hl]
  ·rw[if_neg h2,eW (by rw[bn];omega),jw,bn,hl]
   congr 1;omega
theorem Tt {α:Type} {l xs:List α} {base m o:Nat} (h:base+m<=l.length) (k:o+xs.length<=m):splice l base (splice ((l.drop base).take m) o xs)=splice l (base+o) xs:=by
 have h1:((l.drop base).take m).length=m:=by simp;omega
 have h2:(splice ((l.drop base).take m) o xs).length=m:=by rw[mF (by omega),h1]
 apply lw
 intro j
 rw[tO (l:=l) (off:=base) (by omega),tO (l:=l) (off:=base+o) (by omega),h2]
 by_cases c1:j<base
 ·rw[if_pos c1,if_pos (by omega)]
 ·rw[if_neg c1]
  by_cases c2:j<base+m
  ·rw[if_pos c2,tO (l:=(l.drop base).take m) (off:=o) (by omega)]
   by_cases c3:j - base<o
   ·rw[if_pos c3,if_pos (by omega),hU (by omega),jw]
    congr 1;omega
   ·rw[if_neg c3]
    by_cases c4:j - base<o+xs.length
    ·rw[if_pos c4,if_neg (by omega),if_pos (by omega)]
     congr 1;omega
    ·rw[if_neg c4,if_neg (by omega),if_neg (by omega),hU (by omega),jw]
     congr 1;omega
  ·rw[if_neg c2,if_neg (by omega),if_neg (by omega)]
theorem aeV {α:Type} {l:List α} {n off:Nat} {vs:List α} (h:off+vs.length<=n) (hn:n<=l.length):(splice l off vs).take n=splice (l.take n) off vs:=by
 unfold splice
 rw[List.take_append,List.take_append]
 have e1:(l.take off).take n=l.take off:=by rw[List.take_take,Nat.min_eq_right (by omega)]
 have e2:vs.take (n - (l.take off).length)=vs:=eM (by simp;omega)
 rw[e1,e2,List.take_take,Nat.min_eq_left (by omega),List.drop_take]
 congr 2
 simp;omega
theorem XJ {α:Type} {z:List α} {f sz:Nat} (h:f<=sz):z.drop f=(z.take sz).drop f++z.drop sz:=by
 have h1:z.drop f=(z.take sz++z.drop sz).drop f:=by rw[List.take_append_drop]
 rw[h1,List.drop_append]
 congr 1
 rcases Nat.le_total sz z.length with hz | hz
 ·rw[cQ,Nat.min_eq_left hz,Nat.sub_eq_zero_of_le h,g_]
 ·rw[List.drop_eq_nil_of_le hz,List.drop_nil]
theorem Oj {sz:Nat} {l:List (List D)} (hw:wl sz l) {ix br:Nat} {e xs:List D} (he:l[ix]? =some e) (hf:br+xs.length<=sz):
  (l.set ix (splice e br xs)).flatten=splice l.flatten (ix*sz+br) xs:=by
 have l0:ix<l.length:=(bG.1 he).1
 have sD:=hw e (fi he)
 have jF:(splice e br xs).length=sz:=by rw[mF (by omega),sD]
 rw[Gv hw l0 jF]
 have e1:=Gx hw he
 unfold splice
 have e2:l.flatten.take (ix*sz+br)=l.flatten.take (ix*sz)++e.take br:=by
  rw[List.take_add,<- e1,List.take_take,Nat.min_eq_left (by omega)]
 have e3:l.flatten.drop (ix*sz+br+xs.length)=e.drop (br+xs.length)++l.flatten.drop (ix*sz+(e.take br++xs++e.drop (br+xs.length)).length):=by
  have e4:(e.take br++xs++e.drop (br+xs.length)).length=sz:=jF
  rw[e4,gE,<- List.drop_drop,XJ hf,e1,List.drop_drop]
 rw[e2,e3]
 simp only[dO]
theorem yL {σ:Sg} {E:EH} {kb:KB} {W:World} (hi:Inv σ E kb W) {i:Nat} {r:Re} {ty:TypeId} {sz:Nat} {l l':List (List D)} (hs:σ[i]? =some r) (hk:kb[i]? =some (.row ty sz l))
  {o:Nat} {ds:List D} {xs:List Value} (hd:a_ E ds xs) (hl:l'.length=l.length) (hw:wl sz l') (hfl:l'.flatten=splice l.flatten o ds) (hb:o+ds.length<=l.length*sz) (hpos:0<l.length):
  ∃ arr,W.heap[r.blk]? =some (.cells arr ty (0,0))/\o+xs.length<=arr.size/\
   Step σ E kb W σ E (kb.set i (.row ty sz l')) (W.setRow r.blk (splice arr.toList o xs).toArray):=by
 obtain⟨rfl,g1,g2,g3,g4⟩:=hi.obj i r _ hs hk
 rcases g4 with g4 | ⟨arr,g4,g5,g6⟩
 ·omega
 have gQ:=hd.len
 have hm2:l.length*r.sz<=r.cap*r.sz:=Nat.mul_le_mul_right _ g2
 have hcap:r.cap≠0:=by omega
 refine⟨arr,g4,by omega,CP hi hs hk _ (fun b=>⟨fun h=>h.2,fun h=>⟨hcap,h⟩⟩) (fun b h=>h.2) ⟨rfl,hw,by omega,g3,.inr ⟨_,setRow_heap W r.blk arr _ ty (0,0) g4,?_,?_⟩⟩⟩
 ·simp only[List.size_toArray]
  rw[mF (by simp;omega)]
  simpa using g5
 ·simp only[hl]
  rw[aeV (by omega) (by simp;omega),hfl]
  exact g6.splice hd o
theorem ae_ {P:Program} {t:TypeId} {addr v:V} {kb:KB} {K:KB->Prop} (h:Ki P t addr v kb K) {σ:Sg} {E:EH} {W:World} (hi:Inv σ E kb W) {a x:Value}
  (hd:Den σ E addr a) (hx:Den σ E v x):∃ E' kb' W',(Instr.storeAt t a x).run P W= .ok () W'/\Step σ E kb W σ E' kb' W'/\K kb':=by
 unfold Ki at h
 split at h
 ·rename_i i off
  split at h<;>try exact h.elim
  rename_i vs l hvs hl
  split at h<;>try exact h.elim
  rename_i l' hl'
  obtain⟨xs,hc,hD,h1,hn⟩:=Nb hvs hx
  simp only[Den]at hd
  obtain⟨r,hr,rfl⟩:=hd
  obtain⟨arr,ty,g1,g2⟩:=hi.obj i r _ hr hl
  obtain⟨g3,g4⟩:=uu hl' g2 hD
  have hst:Step σ E kb W σ E (kb.set i (.cells l')) (W.setRow r.blk (splice arr.toList off xs).toArray):=
   CP hi hr hl _ (fun b=>Iff.rfl) (fun b hb=>hb) ⟨_,ty,setRow_heap W r.blk arr _ ty (0,0) g1,by simpa using g3⟩
  exact⟨_,_,_,by simpa [Instr.storeAt,Instr.sureAddr]using CI hc hn h1 g1 (by simpa using g4),hst,h⟩
 ·rename_i i base o
  split at h<;>try exact h.elim
  rename_i n hn
  obtain⟨E1,eH,ds,xs,s1,hc,hD,h,j8⟩:=vd h hi hx
  simp only[Den]at hd
  obtain⟨r,hr,rfl⟩:=hd
  split at h<;>try exact h.elim
  rename_i l hl
  split at h<;>try exact h.elim
  rename_i m cs hp
  split at h<;>try exact h.elim
  rename_i l' hl'
  obtain⟨hle,hK⟩:=h
  have Hs:n=xs.length:=by rw[hn]at j8;exact bb.inj j8
  obtain⟨arr,ty,g1,g2⟩:=s1.inv.obj i r _ hr hl
  obtain⟨ys,p1,p2,p3,p4⟩:=Ck hp g2
  have hdl:=hD.len
  have jo:=p1.len
  have jF:(splice cs o ds).length=m:=by rw[mF (by omega),p2]
  obtain⟨g3,g4⟩:=uu hl' g2 (.cons (.inr ⟨m,_,rfl,jF,p1.splice hD o⟩) .nil)
  have he:splice arr.toList base (splice ys o xs++[])=splice arr.toList (base+o) xs:=by
   rw[fD,<- p4]
   exact Tt p3 (by omega)
  rw[he]at g3
  have hst:Step σ E1 eH W σ E1 (eH.set i (.cells l')) (W.setRow r.blk (splice arr.toList (base+o) xs).toArray):=
   CP s1.inv hr hl _ (fun b=>Iff.rfl) (fun b hb=>hb) ⟨_,ty,setRow_heap W r.blk arr _ ty (0,0) g1,by simpa using g3⟩
  simp only[Array.length_toList]at p3
  exact⟨_,_,_,by simpa [Instr.storeAt,Instr.sureAddr]using CI hc j8 hD.one g1 (by omega),s1.trans hst,hK⟩
 ·rename_i i ix br
  split at h<;>try exact h.elim
  rename_i n hn
  obtain⟨E1,eH,ds,xs,s1,hc,hD,h,j8⟩:=vd h hi hx
  simp only[Den]at hd
  obtain⟨r,hr,rfl⟩:=hd
  split at h<;>try exact h.elim
  rename_i ty sz l hl
  have Hs:n=xs.length:=by rw[hn]at j8;exact bb.inj j8
  have hdl:=hD.len
  obtain⟨hsz,hw,_⟩:=s1.inv.obj i r _ hr hl
  split at h
  ·rename_i hb
   have hb:=cU hb
   split at h<;>try exact h.elim
   obtain⟨l0,hK⟩:=h
   have hm:(ix+1)*sz<=l.length*sz:=Nat.mul_le_mul_right _ l0
   rw[Nat.succ_mul]at hm
   obtain⟨arr,g1,g2,g3⟩:=yL s1.inv hr hl (o:=ix*sz) hD (by simp) (hw.set ix (e:=ds) (by omega)) (Gv hw l0 (by omega)) (by omega) (by omega)
   rw[<- hsz]at g2 g3
   exact⟨_,_,_,by simpa [Instr.storeAt,Instr.sureAddr]using CI hc j8 hD.one g1 g2,s1.trans (by rw[hsz]at g3 ⊢;exact g3),hK⟩
  ·obtain⟨e,he,hle,hK⟩:=h
   have l0:ix<l.length:=(bG.1 he).1
   have hm:(ix+1)*sz<=l.length*sz:=Nat.mul_le_mul_right _ l0
   rw[Nat.succ_mul]at hm
   have sD:=hw e (fi he)
   obtain⟨arr,g1,g2,g3⟩:=yL s1.inv hr hl (o:=ix*sz+br) hD (by simp) (hw.set ix (e:=splice e br ds) (by rw[mF (by omega),sD])) (Oj hw he (by omega)) (by omega) (by omega)
   rw[<- hsz]at g2 g3
   exact⟨_,_,_,by simpa [Instr.storeAt,Instr.sureAddr]using CI hc j8 hD.one g1 g2,s1.trans (by rw[hsz]at g3 ⊢;exact g3),hK⟩
 ·exact h.elim
def eqv:Value->Value->Bool
 | .int Z a,.int Z b | .int ι a,.int ι b | .int .u16 a,.int .u16 b | .int ic a,.int ic b | .int .u64 a,.int .u64 b=>decide (a=b)
 | .bool a,.bool b=>a == b
 |_,_=>false
theorem XW {a b:Value} (h:eqv a b=true):a=b:=by
 unfold eqv at h
 split at h<;>simp_all
def ur (z:Value):Nat->List Value->Option (List Value)
 | 0,l=>some l
 |n+1,a::l=>match eqv a z with | true=>ur z n l | false=>none
 |_+1,[]=>none
theorem JC {z:Value}:∀{n:Nat} {l r:List Value},ur z n l=some r->l=dq n z++r
 | 0,l,r,h=>by simp [ur]at h;subst h;simp
 |n+1,[],r,h=>by simp [ur]at h
 |n+1,a::l,r,h=>by
  simp only[ur]at h
  split at h
  ·rename_i e;rw[XW e,JC h];simp [List.replicate_succ]
  ·cases h
def lf:List CK->List Value->Option (List V)
 | [],[]=>some []
 | .arr m z::ks,cs=>match ur z m cs,z.oneCell' with
  |some r,true=>match lf ks r with | some us=>some (.arr m (dq m (.val z))::us) | none=>none
  |_,_=>none
 |_::ks,c::cs=>match c.oneCell' with
  |true=>match lf ks cs with | some us=>some (oC c::us) | none=>none
  |false=>none
 |_,_=>none
theorem zm (σ:Sg) (E:EH):∀{ks:List CK} {cs:List Value} {us:List V},lf ks cs=some us->aT σ E us cs
 | [],[],us,h=>by simp [lf]at h;subst h;exact .nil
 | [],_:: _,us,h=>by simp [lf]at h
 |c::ks,cs,us,h=>by
  have single:∀{x:Value} {cs':List Value},cs=x::cs'->(match x.oneCell' with | true=>(match lf ks cs' with | some us=>some (oC x::us) | none=>none) | false=>none)=some us->aT σ E us cs:=by
   rintro x cs' rfl h
   split at h<;>try (cases h;done)
   rename_i h1
   split at h<;>try (cases h;done)
   rename_i us' lB
   cases h
   exact .jc (AH σ E x) h1 (zm σ E lB)
  cases c with
  |arr m z=>
   simp only[lf]at h
   split at h<;>try (cases h;done)
   rename_i r hr h1
   split at h<;>try (cases h;done)
   rename_i us' lB
   cases h
   rw[JC hr]
   exact .cons (.inr ⟨m,_,rfl,by simp,a_.replicate (show bK E (.val z) z from⟨rfl,h1⟩) m⟩) (zm σ E lB)
  |int k=>cases cs with | nil=>simp [lf]at h | cons v vs'=>exact single rfl (by simpa only[lf]using h)
  |bool=>cases cs with | nil=>simp [lf]at h | cons v vs'=>exact single rfl (by simpa only[lf]using h)
  |sl s=>cases cs with | nil=>simp [lf]at h | cons v vs'=>exact single rfl (by simpa only[lf]using h)
  |other=>cases cs with | nil=>simp [lf]at h | cons v vs'=>exact single rfl (by simpa only[lf]using h)
theorem Mx {σ:Sg} {E:EH} {kb:KB} {W:World} (hi:Inv σ E kb W) {vs:List V} {xs:List Value} (hd:aT σ E vs xs) (ty:TypeId):
  ∃ σ',Step σ E kb W σ' E (kb++[.cells vs]) (W.alloc (.cells xs.toArray ty))/\Den σ' E (.ptr kb.length 0) (.pointer (some ⟨W.heap.size,0,none⟩)):=by
 have ho:fY (σ++[⟨W.heap.size,0,0⟩]) E (W.alloc (.cells xs.toArray ty)) ⟨W.heap.size,0,0⟩ (.cells vs):=by
  refine⟨xs.toArray,ty,?_,?_⟩
  ·show(W.heap.push _)[W.heap.size]? =_
   simp
  ·exact aT.mono (EH.le.refl E) hd
 refine⟨σ++[⟨W.heap.size,0,0⟩],hi.alloc _ ⟨W.heap.size,0,0⟩ (.cells vs) (fun b hb=>hb) ho,?_⟩
 ·simp only[Den]
  exact⟨⟨W.heap.size,0,0⟩,by rw[<- hi.len];simp,rfl⟩
theorem My {σ:Sg} {E:EH} {kb:KB} {W:World} (hi:Inv σ E kb W) {ty:TypeId} {sz cap:Nat} {l:List (List D)} {arr:Array Value} (h1:wl sz l) (h2:l.length<=cap)
  (h3:cap<=maxLen) (h4:arr.size=cap*sz) (h5:a_ E l.flatten (arr.toList.take (l.length*sz))):
  Step σ E kb W (σ++[⟨W.heap.size,cap,sz⟩]) E (kb++[.row ty sz l]) (W.alloc (.cells arr ty)):=by
 refine hi.alloc _ _ _ (fun b hb=>hb.2) ⟨rfl,h1,h2,h3,.inr ⟨arr,?_,h4,h5⟩⟩
 show(W.heap.push _)[W.heap.size]? =_
 simp
def zeroV (P:Program) (t:TypeId):Option (List V):=
 match (P.info? t).bind (·.zero),mw P 20 t with
 |some z,some ks=>lf ks z.cells.toList
 |_,_=>none
def EV (P:Program) (t:TypeId) (kb:KB) (K:V->KB->Prop):Prop:=
 match zeroV P t with
 |some vs=>K (.ptr kb.length 0) (kb++[.cells vs])
 |none=>False
theorem aem {P:Program} {t:TypeId} {z:Value} (h:(P.info? t).bind (·.zero)=some z) (W:World):
  (Instr.alloc t true (.tuple #[])).run P W= .ok (.pointer (some ⟨W.heap.size,0,none⟩)) (W.alloc (.cells z.cells t)):=by
 obtain⟨i,hi,hz⟩:=kP.1 h
 simp [Instr.alloc,zeroValue,typeInfo,hi,hz,newVar,newRow]
theorem Mw {P:Program} {t:TypeId} {kb:KB} {K:V->KB->Prop} (h:EV P t kb K) {σ:Sg} {E:EH} {W:World} (hi:Inv σ E kb W):
  ∃ v x σ' kb' W',(Instr.alloc t true (.tuple #[])).run P W= .ok x W'/\Step σ E kb W σ' E kb' W'/\Den σ' E v x/\K v kb'/\o0 W W':=by
 unfold EV zeroV at h
 split at h<;>try exact h.elim
 rename_i vs hvs
 split at hvs<;>try (cases hvs;done)
 rename_i z ks hz hks
 obtain⟨σ',h1,h2⟩:=Mx hi (zm σ E hvs) t
 exact⟨_,_,σ',_,_,aem hz W,by simpa using h1,h2,h,fun k hk=>by
  show(W.heap.push _)[k]? =_
  rw[Array.getElem?_push,if_neg (by omega)]⟩
def Fl (P:Program) (t:TypeId) (v:V) (kb:KB) (K:V->KB->Prop):Prop:=
 match Ay P t v with
 |some vs=>K (.ptr kb.length 0) (kb++[.cells vs])
 |none=>False
theorem WG {P:Program} {t:TypeId} {v:V} {kb:KB} {K:V->KB->Prop} (h:Fl P t v kb K) {σ:Sg} {E:EH} {W:World} (hi:Inv σ E kb W) {y:Value} (hy:Den σ E v y):
  ∃ u x σ' kb' W',(Instr.box t y).run P W= .ok x W'/\Step σ E kb W σ' E kb' W'/\Den σ' E u x/\K u kb':=by
 unfold Fl at h
 split at h
 ·rename_i vs hvs
  obtain⟨xs,hc,hD,_,_⟩:=Nb hvs hy
  obtain⟨σ',h1,h2⟩:=Mx hi hD t
  exact⟨_,_,σ',_,_,by simp [Instr.box,newVar,newRow,hc],h1,h2,h⟩
 ·exact h.elim
def Gl (P:Program) (s:TypeId) (addr:V) (n:Nat) (K:V->Prop):Prop:=
 match P.underlying s with
 |some (.struct fs)=>
  match fs[n]? with
  |some f=>
   match fA P f.type with
   |some (_+1)=>
    match addr with
    | .ptr i off=>K (.ptr i (off+f.offset))
    | .pe i ix br=>K (.pe i ix (br+f.offset))
    | .dK e br=>K (.dK e (br+f.offset))
    |_=>False
   |_=>False
  |none=>False
 |_=>False
theorem JR {P:Program} {s:TypeId} {fs:Array Field} {n:Nat} {f:Field} {m:Nat} (hs:P.underlying s=some (.struct fs)) (hf:fs[n]? =some f) (hm:fA P f.type=some (m+1)) (b o:Nat) (W:World):
  (Instr.fieldAt s (.pointer (some ⟨b,o,none⟩)) n).run P W= .ok (.pointer (some ⟨b,o+f.offset,none⟩)) W:=by
 simp [Instr.fieldAt,run_underlying hs,hf,Instr.sureAddr,fieldPlace,kf hm,Addr.add_lit]
theorem X2 {P:Program} {s:TypeId} {addr:V} {n:Nat} {K:V->Prop} (h:Gl P s addr n K) {σ:Sg} {E:EH} {a:Value} (hd:Den σ E addr a):
  ∃ v x,(∀ W,(Instr.fieldAt s a n).run P W= .ok x W)/\Den σ E v x/\K v:=by
 unfold Gl at h
 split at h<;>try exact h.elim
 rename_i fs hs
 split at h<;>try exact h.elim
 rename_i f hf
 split at h<;>try exact h.elim
 rename_i m hm
 split at h<;>try exact h.elim
 ·simp only[Den]at hd
  obtain⟨r,hr,rfl⟩:=hd
  exact⟨_,_,fun W=>JR hs hf hm _ _ W,by simp only[Den];exact⟨r,hr,rfl⟩,h⟩
 ·simp only[Den]at hd
  obtain⟨r,hr,rfl⟩:=hd
  exact⟨_,_,fun W=>JR hs hf hm _ _ W,by simp only[Den];exact⟨r,hr,by rw[gE]⟩,h⟩
 ·simp only[Den]at hd
  obtain⟨b,off,rfl,hr⟩:=hd
  exact⟨_,_,fun W=>JR hs hf hm _ _ W,by simp only[Den];exact⟨b,off,by rw[gE],hr⟩,h⟩
def bw (n:Int) (m:Nat):Prop:=0<=n/\n<(m:Int)
def aB (n:Int):Prop:=0<=n
def Fw:Nat->Nat->(Nat->Prop)->Prop
 | 0,_,_=>True
 | 1,j,p=>p j
 |k+2,j,p=>p j/\Fw (k+1) (j+1) p
theorem M4:∀{k j:Nat} {p:Nat->Prop},Fw k j p->∀ i,j<=i->i<j+k->p i
 | 0,j,p,_,i,h1,h2=>by omega
 | 1,j,p,h,i,h1,h2=>by
  have:i=j:=by omega
  subst this;exact h
 |k+2,j,p,h,i,h1,h2=>by
  by_cases e:i=j
  ·subst e;exact h.1
  ·exact M4 h.2 i (by omega) (by omega)
def numOf:V->Option Int
 | .int _ n=>some n
 | .lit _ n=>some n
 |_=>none
theorem uj {v:V} {n:Int} (h:numOf v=some n) {σ:Sg} {E:EH} {x:Value} (hd:Den σ E v x):∃ k,x= .int k n:=by
 cases v<;>simp only[numOf,bb.injEq,reduceCtorEq]at h<;>subst h<;>exact⟨_,by simpa only[Den]using hd⟩
def PO:V->Bool
 | .lit _ _=>true
 |_=>false
def HL (P:Program) (t:TypeId) (x ix:V) (kb:KB) (K:V->Prop):Prop:=
 match P.underlying t,numOf ix with
 |some (.slice elem),some n=>
  match fA P elem with
  |some (s+1)=>match x with
   | .sl i lo hi=>match kb[i]? with
    |some (.row _ sz _)=>match cp sz (s+1)with
     |true=>bw n (hi - lo)/\K (.pe i (lo+n.toNat) 0)
     |false=>False
    |_=>False
   | .dat (.sl sz l)=>match cp sz (s+1)with
    |true=>aB n/\∃ e,l[n.toNat]? =some e/\K (.dK e 0)
    |false=>False
   | .sa i base o s' m c=>match cp s' (s+1)with
    |true=>bw n m/\K (.pa i base (o+n.toNat*s'))
    |false=>False
   | .se i j o s' m c=>match cp s' (s+1)with
    |true=>bw n m/\K (.pe i j (o+n.toNat*s'))
    |false=>False
   |_=>False
  |_=>False
 |some (.array m elem),some n=>
  match fA P elem with
  |some s=>match x with
   | .ptr i off=>match kb[i]? with
    |some (.cells l)=>match iX l off with
     |some (.arr _ _)=>bw n m/\K (.pa i off (n.toNat*s))
     |_=>match PO ix with
      |true=>bw n m/\K (.ptr i (off+n.toNat*s))
      |false=>bw n m/\Fw m 0 (fun j=>n=(j:Int)->K (.ptr i (off+j*s)))
    |_=>False
   | .pa i base o=>bw n m/\K (.pa i base (o+n.toNat*s))
   | .pe i j br=>bw n m/\K (.pe i j (br+n.toNat*s))
   | .dK e br=>bw n m/\K (.dK e (br+n.toNat*s))
   |_=>False
  |none=>False
 |_,_=>False
theorem CD {P:Program} {t elem:TypeId} {s:Nat} (ht:P.underlying t=some (.slice elem)) (hs:fA P elem=some s) {b o len cap:Nat} {k:IntKind} {n:Int} (h0:0<=n) (h1:n<(len:Int)) (W:World):
  (Instr.indexAt t (.slice (some ⟨b,o,none⟩) len cap) (.int k n)).run P W= .ok (.pointer (some ⟨b,o+n.toNat*s,none⟩)) W:=by
 simp [Instr.indexAt,asIntOf,run_underlying ht,h0,h1,kf hs,Addr.add_lit]
theorem we {P:Program} {t elem:TypeId} {m s:Nat} (ht:P.underlying t=some (.array m elem)) (hs:fA P elem=some s) {b o:Nat} {k:IntKind} {n:Int} (h0:0<=n) (h1:n<(m:Int)) (W:World):
  (Instr.indexAt t (.pointer (some ⟨b,o,none⟩)) (.int k n)).run P W= .ok (.pointer (some ⟨b,o+n.toNat*s,none⟩)) W:=by
 simp [Instr.indexAt,asIntOf,run_underlying ht,h0,h1,kf hs,Addr.add_lit,Instr.sureAddr]
theorem fb.at {E:EH} {sz:Nat} {l:List (List D)} {b off:Nat} (h:fb E sz l b off) {ix:Nat} {e:List D} (he:l[ix]? =some e):di E e b (off+ix*sz):=by
 have:=h.flat.sub (ix*sz) sz
 rwa [Gx h.wl he]at this
theorem Z9 {P:Program} {t:TypeId} {x ix:V} {kb:KB} {K:V->Prop} (h:HL P t x ix kb K) {σ:Sg} {E:EH} {W:World} (hi:Inv σ E kb W) {a y:Value} (hd:Den σ E x a) (hy:Den σ E ix y):
  ∃ v z,(∀ W,(Instr.indexAt t a y).run P W= .ok z W)/\Den σ E v z/\K v:=by
 unfold HL at h
 split at h<;>try exact h.elim
 ·rename_i elem n ht hn
  obtain⟨k,rfl⟩:=uj hn hy
  split at h<;>try exact h.elim
  rename_i s hs
  split at h<;>try exact h.elim
  ·rename_i i lo hi'
   split at h<;>try exact h.elim
   rename_i ty sz l hl
   split at h<;>try exact h.elim
   rename_i hb
   have hsz:=cU hb
   obtain⟨⟨h0,h1⟩,hK⟩:=h
   simp only[Den]at hd
   obtain⟨r,ad,hr,rfl,hlo,hhi,had⟩:=hd
   have hrs:=(hi.obj i r _ hr hl).1
   rw[had (by omega)]
   exact⟨_,_,fun W=>CD ht hs h0 h1 W,by simp only[Den];exact⟨r,hr,by simp [hrs,hsz,Nat.add_mul]⟩,hK⟩
  ·rename_i sz l
   split at h<;>try exact h.elim
   rename_i hb
   have hsz:=cU hb
   obtain⟨h0,e,he,hK⟩:=h
   unfold aB at h0
   simp only[Den,bK]at hd
   obtain⟨ad,cap,rfl,hcap,fg⟩:=hd
   have hn':n.toNat<l.length:=(bG.1 he).1
   rcases fg with fg | ⟨b,off,rfl,fg⟩
   ·omega
   ·refine⟨_,_,fun W=>CD ht hs h0 (by omega) W,?_,hK⟩
    simp only[Den]
    exact⟨b,off+n.toNat*(s+1),by simp,by rw[<- hsz];exact fg.at he⟩
  ·rename_i i base o s' m c
   split at h<;>try exact h.elim
   rename_i hb
   have hsz:=cU hb
   obtain⟨⟨h0,h1⟩,hK⟩:=h
   simp only[Den]at hd
   obtain⟨r,ad,hr,rfl,Zw,had⟩:=hd
   rw[had (by omega)]
   exact⟨_,_,fun W=>CD ht hs h0 h1 W,by simp only[Den];exact⟨r,hr,by rw[hsz,gE]⟩,hK⟩
  ·rename_i i j o s' m c
   split at h<;>try exact h.elim
   rename_i hb
   have hsz:=cU hb
   obtain⟨⟨h0,h1⟩,hK⟩:=h
   simp only[Den]at hd
   obtain⟨r,ad,hr,rfl,Zw,had⟩:=hd
   rw[had (by omega)]
   exact⟨_,_,fun W=>CD ht hs h0 h1 W,by simp only[Den];exact⟨r,hr,by rw[hsz,gE]⟩,hK⟩
 ·rename_i m elem n ht hn
  obtain⟨k,rfl⟩:=uj hn hy
  split at h<;>try exact h.elim
  rename_i s hs
  split at h<;>try exact h.elim
  ·rename_i i off
   simp only[Den]at hd
   obtain⟨r,hr,rfl⟩:=hd
   split at h<;>try exact h.elim
   rename_i l hl
   split at h
   ·obtain⟨⟨h0,h1⟩,hK⟩:=h
    exact⟨_,_,fun W=>we ht hs h0 h1 W,by simp only[Den];exact⟨r,hr,rfl⟩,hK⟩
   ·split at h
    ·obtain⟨⟨h0,h1⟩,hK⟩:=h
     exact⟨_,_,fun W=>we ht hs h0 h1 W,by simp only[Den];exact⟨r,hr,rfl⟩,hK⟩
    ·obtain⟨⟨h0,h1⟩,hK⟩:=h
     have:=M4 hK n.toNat (bt _) (by omega) (by omega)
     exact⟨_,_,fun W=>we ht hs h0 h1 W,by simp only[Den];exact⟨r,hr,rfl⟩,this⟩
  ·rename_i i base o
   simp only[Den]at hd
   obtain⟨r,hr,rfl⟩:=hd
   obtain⟨⟨h0,h1⟩,hK⟩:=h
   exact⟨_,_,fun W=>we ht hs h0 h1 W,by simp only[Den];exact⟨r,hr,by rw[gE]⟩,hK⟩
  ·rename_i i j br
   simp only[Den]at hd
   obtain⟨r,hr,rfl⟩:=hd
   obtain⟨⟨h0,h1⟩,hK⟩:=h
   exact⟨_,_,fun W=>we ht hs h0 h1 W,by simp only[Den];exact⟨r,hr,by rw[gE]⟩,hK⟩
  ·rename_i e br
   simp only[Den]at hd
   obtain⟨b,off,rfl,hr⟩:=hd
   obtain⟨⟨h0,h1⟩,hK⟩:=h
   exact⟨_,_,fun W=>we ht hs h0 h1 W,by simp only[Den];exact⟨b,off,by rw[gE],hr⟩,hK⟩
def lh:Option Value->Nat->Nat->Prop
 |none,d,r=>r=d
 |some v,_,r=>∃ k n,v= .int k n/\0<=n/\r=n.toNat
theorem run_sliceBound {P:Program} {W:World} (k:IntKind) (n:Int) (y:Nat) (c:BoundsCode) (hn:0<=n) (hy:n.toNat<=y):(Instr.sliceBound (.int k n) y c).run P W= .ok n.toNat W:=by
 have:n<=(y:Int):=by omega
 simp [Instr.sliceBound,asIntOf,hn,this]
theorem JS {P:Program} (W:World) (b:Bool) {len cap:Nat} {lo hi:Option Value} {l h:Nat} (hl:lh lo 0 l) (hh:lh hi len h) (h1:l<=h) (h2:h<=cap):
  (Instr.sliceBounds b len cap lo hi none).run P W= .ok (l,h,cap) W:=by
 cases lo with
 |none=>
  cases hi with
  |none=>
   simp only[lh]at hl hh
   subst hl;subst hh
   simp [Instr.sliceBounds]
  |some v=>
   simp only[lh]at hl hh
   obtain⟨k,n,rfl,hn,rfl⟩:=hh
   subst hl
   simp [Instr.sliceBounds,run_sliceBound k n cap _ hn h2]
 |some u=>
  simp only[lh]at hl
  obtain⟨k',n',rfl,hn',rfl⟩:=hl
  cases hi with
  |none=>
   simp only[lh]at hh
   subst hh
   simp [Instr.sliceBounds,run_sliceBound k' n' h _ hn' h1]
  |some v=>
   simp only[lh]at hh
   obtain⟨k,n,rfl,hn,rfl⟩:=hh
   simp [Instr.sliceBounds,run_sliceBound k n cap _ hn h2,run_sliceBound k' n' n.toNat _ hn' h1]
theorem wg {P:Program} {t elem:TypeId} {s:Nat} (ht:P.underlying t=some (.slice elem)) (hs:fA P elem=some s) (W:World) {a:Option Addr} {len cap:Nat} {lo hi:Option Value} {l h:Nat}
  (hl:lh lo 0 l) (hh:lh hi len h) (h1:l<=h) (h2:h<=cap):
  (Instr.sliceAt t (.slice a len cap) lo hi none).run P W= .ok (.slice (if cap=l then a else a.map (·.add (l*s))) (h - l) (cap - l)) W:=by
 simp [Instr.sliceAt,Instr.slice,run_underlying ht,JS W true hl hh h1 h2,kf hs]
theorem aes {P:Program} {t arr elem:TypeId} {n s:Nat} (ht:P.underlying t=some (.pointer arr)) (ha:P.underlying arr=some (.array n elem)) (hs:fA P elem=some s) (W:World) {b o:Nat} {lo hi:Option Value} {l h:Nat}
  (hl:lh lo 0 l) (hh:lh hi n h) (h1:l<=h) (h2:h<=n):
  (Instr.sliceAt t (.pointer (some ⟨b,o,none⟩)) lo hi none).run P W= .ok (.slice (some (if n=l then⟨b,o,none⟩else⟨b,o+l*s,none⟩)) (h - l) (n - l)) W:=by
 simp [Instr.sliceAt,Instr.sureAddr,Instr.slice,run_underlying ht,run_underlying ha,JS W false hl hh h1 h2,kf hs,asAddr,Addr.add_lit]
def E5 (P:Program) (t:TypeId):Option (Nat×TypeId):=
 match P.underlying t with
 |some (.array n elem)=>some (n,elem)
 |some (.pointer arr)=>match P.underlying arr with
  |some (.array n elem)=>some (n,elem)
  |_=>none
 |_=>none
theorem CG {P:Program} {t elem:TypeId} {n s:Nat} (ha:E5 P t=some (n,elem)) (hs:fA P elem=some s) (W:World) {b o:Nat} {lo hi:Option Value} {l h:Nat}
  (hl:lh lo 0 l) (hh:lh hi n h) (h1:l<=h) (h2:h<=n):
  (Instr.sliceAt t (.pointer (some ⟨b,o,none⟩)) lo hi none).run P W= .ok (.slice (some (if n=l then⟨b,o,none⟩else⟨b,o+l*s,none⟩)) (h - l) (n - l)) W:=by
 unfold E5 at ha
 split at ha
 ·rename_i n' e' ht
  cases ha
  simp [Instr.sliceAt,Instr.sureAddr,run_underlying ht,JS W false hl hh h1 h2,kf hs,Addr.add_lit]
 ·rename_i arr ht
  split at ha<;>try (cases ha;done)
  rename_i n' e' ha'
  cases ha
  exact aes ht ha' hs W hl hh h1 h2
 ·cases ha
theorem aer {P:Program} {t elem:TypeId} {s:Nat} (ht:P.underlying t=some (.slice elem)) (hs:fA P elem=some s) (W:World) {a:Option Addr} {len cap:Nat} {lo:Option Value} {k k':IntKind} (hl:lh lo 0 0):
  (Instr.sliceAt t (.slice a len cap) lo (some (.int k 0)) (some (.int k' 0))).run P W= .ok (.slice a 0 0) W:=by
 have b0:∀(k:IntKind) (y:Nat) (c:BoundsCode),(Instr.sliceBound (.int k 0) y c).run P W= .ok 0 W:=fun k y c=>by simpa using run_sliceBound (P:=P) (W:=W) k 0 y c (by omega) (by simp)
 cases lo with
 |none=>simp [Instr.sliceAt,Instr.slice,run_underlying ht,Instr.sliceBounds,b0,kf hs]
 |some v=>
  obtain⟨k2,n,rfl,hn,hn2⟩:=hl
  have:n=0:=by omega
  subst this
  simp [Instr.sliceAt,Instr.slice,run_underlying ht,Instr.sliceBounds,b0,kf hs]
def nF:Option V->Nat->Option (Prop×Nat)
 |none,d=>some (True,d)
 |some v,_=>match numOf v with | some n=>some (aB n,n.toNat) | none=>none
def OD (σ:Sg) (E:EH):Option V->Option Value->Prop
 |none,none=>True
 |some v,some x=>Den σ E v x
 |_,_=>False
theorem lW {o:Option V} {d:Nat} {p:Prop} {n:Nat} (h:nF o d=some (p,n)) (hp:p) {σ:Sg} {E:EH} {ov:Option Value}
  (hd:OD σ E o ov):lh ov d n:=by
 match o,ov with
 |none,none=>simp only[nF,bb.injEq,Prod.mk.injEq]at h;exact h.2.symm
 |some v,some x=>
  simp only[nF]at h
  split at h<;>try (cases h;done)
  rename_i n' hn
  simp only[bb.injEq,Prod.mk.injEq]at h
  obtain⟨rfl,rfl⟩:=h
  obtain⟨k,rfl⟩:=uj hn hd
  exact⟨k,_,rfl,hp,rfl⟩
 |none,some x=>exact hd.elim
 |some v,none=>exact hd.elim
def HM:V->Bool
 | .sl .. | .e0 | .sa .. | .se .. | .dat (.sl ..) | .any (.slice ..)=>true
 |_=>false
theorem aae {v:V} (h:HM v=true) {σ:Sg} {E:EH} {x:Value} (hd:Den σ E v x):∃ a len cap,x= .slice a len cap:=by
 unfold HM at h
 split at h<;>(try simp only[Den,bK]at hd)
 ·obtain⟨r,a,_,rfl,_⟩:=hd;exact⟨_,_,_,rfl⟩
 ·obtain⟨a,rfl⟩:=hd;exact⟨_,_,_,rfl⟩
 ·obtain⟨r,a,_,rfl,_⟩:=hd;exact⟨_,_,_,rfl⟩
 ·obtain⟨r,a,_,rfl,_⟩:=hd;exact⟨_,_,_,rfl⟩
 ·obtain⟨a,cap,rfl,_⟩:=hd;exact⟨_,_,_,rfl⟩
 ·subst hd;exact⟨_,_,_,rfl⟩
 ·cases h
def rX:Option V->Bool
 |none=>true
 |some v=>match numOf v with | some (.ofNat 0)=>true | _=>false
theorem uO {o:Option V} (h:rX o=true) {σ:Sg} {E:EH} {ov:Option Value} (hd:OD σ E o ov):lh ov 0 0:=by
 match o,ov with
 |none,none=>rfl
 |some v,some x=>
  simp only[rX]at h
  split at h<;>try (cases h;done)
  rename_i hn
  obtain⟨k,rfl⟩:=uj hn hd
  exact⟨k,0,rfl,by omega,by simp⟩
 |none,some x=>exact hd.elim
 |some v,none=>exact hd.elim
def J1 (P:Program) (t:TypeId) (x:V) (lo hi:Option V) (kb:KB) (K:V->Prop):Prop:=
 match P.underlying t with
 |some (.slice elem)=>
  match fA P elem with
  |some s=>
   match x with
   | .sl i a b=>
    match kb[i]?,nF lo 0,nF hi (b - a)with
    |some (.row _ sz _),some (p,l),some (q,h)=>match cp sz s with
     |true=>p/\q/\l<=h/\h<=b - a/\K (.sl i (a+l) (a+h))
     |false=>False
    |_,_,_=>False
   | .dat (.sl sz ls)=>
    match nF lo 0,nF hi ls.length with
    |some (p,l),some (q,h)=>match cp sz s with
     |true=>p/\q/\l<=h/\h<=ls.length/\K (.dat (.sl sz ((ls.take h).drop l)))
     |false=>False
    |_,_=>False
   | .sa i base o s' n c=>
    match nF lo 0,nF hi n with
    |some (p,l),some (q,h)=>match cp s' s with
     |true=>p/\q/\l<=h/\h<=c/\K (.sa i base (o+l*s') s' (h - l) (c - l))
     |false=>False
    |_,_=>False
   | .se i j o s' n c=>
    match nF lo 0,nF hi n with
    |some (p,l),some (q,h)=>match cp s' s with
     |true=>p/\q/\l<=h/\h<=c/\K (.se i j (o+l*s') s' (h - l) (c - l))
     |false=>False
    |_,_=>False
   | .any (.slice none 0 0)=>match rX lo,rX hi with | true,true=>K (.any (.slice none 0 0)) | _,_=>False
   | .e0=>match rX lo,rX hi with | true,true=>K .e0 | _,_=>False
   |_=>False
  |none=>False
 |_=>
  match E5 P t with
  |some (n,elem)=>
   match fA P elem,nF lo 0,nF hi n with
   |some s,some (p,l),some (q,h)=>match x with
    | .ptr i off=>match kb[i]? with
     |some (.cells cs)=>match iX cs off with
      |some (.arr _ _)=>p/\q/\l<=h/\h<=n/\K (.sa i off (l*s) s (h - l) (n - l))
      |_=>False
     |_=>False
    | .pa i base o=>p/\q/\l<=h/\h<=n/\K (.sa i base (o+l*s) s (h - l) (n - l))
    | .pe i j br=>p/\q/\l<=h/\h<=n/\K (.se i j (br+l*s) s (h - l) (n - l))
    | .dK e br=>match cp s 1 with
     |true=>p/\q/\l<=h/\h<=n/\br+h<=e.length/\K (.dat (.sl 1 (((e.drop (br+l)).take (h - l)).map fun d=>[d])))
     |false=>False
    |_=>False
   |_,_,_=>False
  |none=>False
theorem K1 (ds:List D):wl 1 (ds.map fun d=>[d]):=fun e he=>by
 obtain⟨d,_,rfl⟩:=eL.1 he;rfl
theorem Gw {α:Type} (ds:List α):(ds.map fun d=>[d]).flatten=ds:=by
 induction ds with
 |nil=>rfl
 |cons d ds ih=>simp [ih]
theorem aeD {P:Program} {t:TypeId} {x:V} {lo hi:Option V} {kb:KB} {K:V->Prop} (h:J1 P t x lo hi kb K) {σ:Sg} {E:EH} {W:World} (hi':Inv σ E kb W) {a:Value} (hd:Den σ E x a) {vL hiv:Option Value}
  (hlo:OD σ E lo vL) (hhi:OD σ E hi hiv):
  ∃ v z,(∀ W,(Instr.sliceAt t a vL hiv none).run P W= .ok z W)/\Den σ E v z/\K v:=by
 unfold J1 at h
 split at h<;>try exact h.elim
 ·rename_i elem ht
  split at h<;>try exact h.elim
  rename_i s hs
  split at h<;>try exact h.elim
  ·rename_i j a' b
   split at h<;>try exact h.elim
   rename_i ty sz ls p l q hh hk gx fx
   split at h<;>try exact h.elim
   rename_i hb
   have hsz:=cU hb
   obtain⟨hp,hq,h1,h2,hK⟩:=h
   simp only[Den]at hd
   obtain⟨r,ad,hr,rfl,g1,g2,g3⟩:=hd
   have hrs:=(hi'.obj j r _ hr hk).1
   refine⟨_,_,fun W=>wg ht hs W (lW gx hp hlo) (lW fx hq hhi) h1 (by omega),?_,hK⟩
   simp only[Den]
   refine⟨r,(if r.cap - a'=l then ad else ad.map (·.add (l*s))),hr,?_,by omega,by omega,fun hlt=>?_⟩
   ·rw[show hh - l=a'+hh - (a'+l) by omega,show r.cap - a' - l=r.cap - (a'+l) by omega]
   ·rw[if_neg (by omega),g3 (by omega)]
    simp [Addr.add_lit,Nat.add_mul,hrs,hsz]
  ·rename_i sz ls
   split at h<;>try exact h.elim
   rename_i p l q hh gx fx
   split at h<;>try exact h.elim
   rename_i hb
   have hsz:=cU hb
   subst hsz
   obtain⟨hp,hq,h1,h2,hK⟩:=h
   simp only[Den,bK]at hd
   obtain⟨ad,cap,rfl,hcap,fg⟩:=hd
   refine⟨_,_,fun W=>wg ht hs W (lW gx hp hlo) (lW fx hq hhi) h1 (by omega),?_,hK⟩
   simp only[Den,bK]
   have hlen:((ls.take hh).drop l).length=hh - l:=by simp;omega
   refine⟨_,_,by rw[hlen],by rw[hlen];omega,?_⟩
   by_cases h0:hh - l=0
   ·left;rw[hlen];exact h0
   ·right
    rcases fg with fg | ⟨b,off,rfl,fg⟩
    ·omega
    rw[if_neg (by omega)]
    refine⟨b,off+l*sz,by simp [Addr.add_lit],fb.of_flat ((fg.wl.take hh).drop l) ?_⟩
    rw[Kt fg.wl]
    exact fg.flat.sub _ _
  ·rename_i i base o s' n c
   split at h<;>try exact h.elim
   rename_i p l q hh gx fx
   split at h<;>try exact h.elim
   rename_i hb
   have hsz:=cU hb
   subst hsz
   obtain⟨hp,hq,h1,h2,hK⟩:=h
   simp only[Den]at hd
   obtain⟨r,ad,hr,rfl,hnc,had⟩:=hd
   refine⟨_,_,fun W=>wg ht hs W (lW gx hp hlo) (lW fx hq hhi) h1 h2,?_,hK⟩
   simp only[Den]
   refine⟨r,_,hr,rfl,by omega,fun hlt=>?_⟩
   rw[if_neg (by omega),had (by omega)]
   simp [Addr.add_lit,gE]
  ·rename_i i j o s' n c
   split at h<;>try exact h.elim
   rename_i p l q hh gx fx
   split at h<;>try exact h.elim
   rename_i hb
   have hsz:=cU hb
   subst hsz
   obtain⟨hp,hq,h1,h2,hK⟩:=h
   simp only[Den]at hd
   obtain⟨r,ad,hr,rfl,hnc,had⟩:=hd
   refine⟨_,_,fun W=>wg ht hs W (lW gx hp hlo) (lW fx hq hhi) h1 h2,?_,hK⟩
   simp only[Den]
   refine⟨r,_,hr,rfl,by omega,fun hlt=>?_⟩
   rw[if_neg (by omega),had (by omega)]
   simp [Addr.add_lit,gE]
  ·split at h<;>try exact h.elim
   rename_i z1 z2
   simp only[Den]at hd
   subst hd
   exact⟨_,_,fun W=>by simpa using wg ht hs W (a:=none) (len:=0) (cap:=0) (uO z1 hlo) (uO z2 hhi) (av _) (av _),by simp [Den],h⟩
  ·split at h<;>try exact h.elim
   rename_i z1 z2
   simp only[Den]at hd
   obtain⟨ad,rfl⟩:=hd
   exact⟨_,_,fun W=>by simpa using wg ht hs W (a:=ad) (len:=0) (cap:=0) (uO z1 hlo) (uO z2 hhi) (av _) (av _),by simp only[Den];exact⟨_,rfl⟩,h⟩
 ·split at h<;>try exact h.elim
  rename_i n elem ha
  split at h<;>try exact h.elim
  rename_i s p l q hh hs gx fx
  split at h<;>try exact h.elim
  ·rename_i i off
   split at h<;>try exact h.elim
   rename_i cs hcs
   split at h<;>try exact h.elim
   obtain⟨hp,hq,h1,h2,hK⟩:=h
   simp only[Den]at hd
   obtain⟨r,hr,rfl⟩:=hd
   refine⟨_,_,fun W=>CG ha hs W (lW gx hp hlo) (lW fx hq hhi) h1 h2,?_,hK⟩
   simp only[Den]
   exact⟨r,_,hr,rfl,by omega,fun hlt=>by rw[if_neg (by omega)]⟩
  ·rename_i i base o
   obtain⟨hp,hq,h1,h2,hK⟩:=h
   simp only[Den]at hd
   obtain⟨r,hr,rfl⟩:=hd
   refine⟨_,_,fun W=>CG ha hs W (lW gx hp hlo) (lW fx hq hhi) h1 h2,?_,hK⟩
   simp only[Den]
   exact⟨r,_,hr,rfl,by omega,fun hlt=>by rw[if_neg (by omega),gE]⟩
  ·rename_i i j br
   obtain⟨hp,hq,h1,h2,hK⟩:=h
   simp only[Den]at hd
   obtain⟨r,hr,rfl⟩:=hd
   refine⟨_,_,fun W=>CG ha hs W (lW gx hp hlo) (lW fx hq hhi) h1 h2,?_,hK⟩
   simp only[Den]
   exact⟨r,_,hr,rfl,by omega,fun hlt=>by rw[if_neg (by omega),gE]⟩
  ·rename_i e br
   split at h<;>try exact h.elim
   rename_i hb
   have hs1:=cU hb
   subst hs1
   obtain⟨hp,hq,h1,h2,h3,hK⟩:=h
   simp only[Den]at hd
   obtain⟨b,off,rfl,fg⟩:=hd
   refine⟨_,_,fun W=>CG ha hs W (lW gx hp hlo) (lW fx hq hhi) h1 h2,?_,hK⟩
   simp only[Den,bK]
   have hlen:(((e.drop (br+l)).take (hh - l)).map fun d=>[d]).length=hh - l:=by simp;omega
   refine⟨_,_,by rw[hlen],by rw[hlen];omega,?_⟩
   by_cases h0:hh - l=0
   ·left;rw[hlen];exact h0
   ·right
    rw[if_neg (by omega)]
    refine⟨b,off+(br+l),by simp [gE],fb.of_flat (K1 _) ?_⟩
    rw[Gw]
    exact fg.sub _ _
def J0 (P:Program) (t:TypeId) (x:V) (lo hi mx:Option V) (K:V->Prop):Prop:=
 match P.underlying t with
 |some (.slice elem)=>match fA P elem,HM x,rX lo,hi,mx with
  |some _,true,true,some h,some m=>match rX (some h),rX (some m)with
   |true,true=>K .e0
   |_,_=>False
  |_,_,_,_,_=>False
 |_=>False
theorem aeC {P:Program} {t:TypeId} {x:V} {lo hi mx:Option V} {K:V->Prop} (h:J0 P t x lo hi mx K) {σ:Sg} {E:EH} {a:Value} (hd:Den σ E x a) {vL hiv BY:Option Value}
  (hlo:OD σ E lo vL) (hhi:OD σ E hi hiv) (Bp:OD σ E mx BY):
  ∃ v z,(∀ W,(Instr.sliceAt t a vL hiv BY).run P W= .ok z W)/\Den σ E v z/\K v:=by
 unfold J0 at h
 split at h<;>try exact h.elim
 rename_i elem ht
 split at h<;>try exact h.elim
 rename_i s hv mv hs hx z1
 split at h<;>try exact h.elim
 rename_i z2 z3
 obtain⟨ad,len,cap,rfl⟩:=aae hx hd
 obtain⟨b1,b2,b3⟩:lh vL 0 0/\(∃ k,hiv=some (.int k 0))/\(∃ k,BY=some (.int k 0)):=by
  refine⟨uO z1 hlo,?_,?_⟩
  ·have:=uO z2 hhi
   match hiv,hhi with
   |some v,_=>obtain⟨k,n,rfl,hn,hn2⟩:=this;exact⟨k,by rw[show n=0 by omega]⟩
   |none,hhi=>exact hhi.elim
  ·have:=uO z3 Bp
   match BY,Bp with
   |some v,_=>obtain⟨k,n,rfl,hn,hn2⟩:=this;exact⟨k,by rw[show n=0 by omega]⟩
   |none,Bp=>exact Bp.elim
 obtain⟨k,rfl⟩:=b2
 obtain⟨k',rfl⟩:=b3
 exact⟨_,_,fun W=>aer ht hs W b1,by simp only[Den];exact⟨_,rfl⟩,h⟩
def BM:V->Option Nat
 | .sl _ lo hi=>some (hi - lo)
 | .dat (.sl _ l)=>some l.length
 | .sa _ _ _ _ n _=>some n
 | .se _ _ _ _ n _=>some n
 | .e0=>some 0
 |_=>none
theorem aaA {v:V} {n:Nat} (h:BM v=some n) {σ:Sg} {E:EH} {x:Value} (hd:Den σ E v x):∃ a cap,x= .slice a n cap:=by
 unfold BM at h
 split at h<;>(try cases h)<;>simp only[Den,bK]at hd
 ·obtain⟨r,a,_,rfl,_⟩:=hd;exact⟨_,_,rfl⟩
 ·obtain⟨a,cap,rfl,_⟩:=hd;exact⟨_,_,rfl⟩
 ·obtain⟨r,a,_,rfl,_⟩:=hd;exact⟨_,_,rfl⟩
 ·obtain⟨r,a,_,rfl,_⟩:=hd;exact⟨_,_,rfl⟩
 ·obtain⟨a,rfl⟩:=hd;exact⟨_,_,rfl⟩
def vI (P:Program) (t:TypeId) (x:V) (K:V->Prop):Prop:=
 match P.underlying t with
 |some (.slice _)=>match BM x with
  |some n=>K (.int Z (n:Int))
  |none=>False
 |some (.array n _)=>K (.int Z (n:Int))
 |_=>False
theorem aay {P:Program} {t:TypeId} {x:V} {K:V->Prop} (h:vI P t x K) {σ:Sg} {E:EH} {a:Value} (hd:Den σ E x a) (ty:TypeId):
  ∃ v z,(∀ W,(Builtin.len_ #[t] ty #[a]).run P W= .ok z W)/\Den σ E v z/\K v:=by
 unfold vI at h
 split at h<;>try exact h.elim
 ·rename_i e ht
  split at h<;>try exact h.elim
  rename_i n hn
  obtain⟨ad,cap,rfl⟩:=aaA hn hd
  exact⟨_,_,fun W=>by simp [Builtin.len_,run_underlying ht];rfl,by simp [Den,goInt],h⟩
 ·rename_i n e ht
  exact⟨_,_,fun W=>by simp [Builtin.len_,run_underlying ht];rfl,by simp [Den,goInt],h⟩
theorem Inv.renew {σ:Sg} {E:EH} {kb:KB} {W W':World} (h:Inv σ E kb W) {i:Nat} {r r':Re} {o o':KO} (hs:σ[i]? =some r) (hk:kb[i]? =some o)
  (hos:W'.os=W.os) (tZ:W'.tape=W.tape) (hout:W'.output=W.output) (hsz:W.heap.size<=W'.heap.size)
  (cd:∀ b,b<W.heap.size->¬ owned r o b->W'.heap[b]? =W.heap[b]?) (hr:∀ b,owned r' o' b->owned r o b∨W.heap.size<=b) (ho:fY (σ++[r']) E W' r' o'):
  Step σ E kb W (σ++[r']) E (kb.set i .dead++[o']) W':=by
 have hi:i<kb.length:=by
  rcases jX i kb.length with h' | h'
  ·exact h'
  ·simp [gO h']at hk
 have eO:∀(j:Nat) (r1:Re) (x:KO),(σ++[r'])[j]? =some r1->(kb.set i .dead++[o'])[j]? =some x->
   (j=σ.length/\r1=r'/\x=o')∨(j<σ.length/\j=i/\x= .dead)∨(j<σ.length/\j≠i/\σ[j]? =some r1/\kb[j]? =some x):=by
  intro j r1 x h1 h2
  rcases Nat.lt_trichotomy j σ.length with hj | hj | hj
  ·rw[dP hj]at h1
   rw[dP (by rw[ir,<- h.len];exact hj)]at h2
   by_cases hji:j=i
   ·subst hji
    rw[ig hi]at h2
    exact .inr (.inl ⟨hj,rfl,(bb.inj h2).symm⟩)
   ·rw[gr (Ne.symm hji)]at h2
    exact .inr (.inr ⟨hj,hji,h1,h2⟩)
  ·subst hj
   rw[eW (av _)]at h1
   rw[eW (by rw[ir,<- h.len];exact av _)]at h2
   simp [h.len]at h1 h2
   exact .inl ⟨rfl,h1.symm,h2.symm⟩
  ·rw[gO (by simp;omega)]at h1;cases h1
 have hown:∀ b,cq (σ++[r']) (kb.set i .dead++[o']) b->cq σ kb b∨W.heap.size<=b:=by
  rintro b ⟨j,r1,x,h1,h2,h3⟩
  rcases eO j r1 x h1 h2 with ⟨_,rfl,rfl⟩ | ⟨_,_,rfl⟩ | ⟨_,_,h4,h5⟩
  ·rcases hr b h3 with h6 | h6
   ·exact .inl ⟨i,r,o,hs,hk,h6⟩
   ·exact .inr h6
  ·exact h3.elim
  ·exact .inl ⟨j,r1,x,h4,h5,h3⟩
 refine⟨⟨by simp [h.len],fun j r1 x h1 h2=>?_,fun a c r1 r2 o1 o2 b hac h1 h2 h3 h4 h5 h6=>?_,fun b x hb=>?_,fun b hb=>?_⟩,⟨hos,tZ,hout,hsz,fun b hb hn=>cd b hb (fun ho'=>hn ⟨i,r,o,hs,hk,ho'⟩)⟩,⟨[r'],rfl⟩,EH.le.refl E,hown,fun b x hb=> .inl hb⟩
 ·rcases eO j r1 x h1 h2 with ⟨_,rfl,rfl⟩ | ⟨_,_,rfl⟩ | ⟨_,hji,h4,h5⟩
  ·exact ho
  ·trivial
  ·exact(h.obj j r1 x h4 h5).mono (EH.le.refl E) (fun b hb=>cd b ((h.obj j r1 x h4 h5).lt hb) (fun hb'=>h.dx i j r r1 o x b (Ne.symm hji) hs hk h4 h5 hb' hb))
 ·rcases eO a r1 o1 h1 h2 with ⟨ha,rfl,rfl⟩ | ⟨_,_,rfl⟩ | ⟨ha,hai,a4,a5⟩
  ·rcases eO c r2 o2 h3 h4 with ⟨hc,_,_⟩ | ⟨_,_,rfl⟩ | ⟨hc,OX,c4,c5⟩
   ·omega
   ·exact h6.elim
   ·rcases hr b h5 with h7 | h7
    ·exact h.dx i c r r2 o o2 b (Ne.symm OX) hs hk c4 c5 h7 h6
    ·have:=(h.obj c r2 o2 c4 c5).lt h6;omega
  ·exact h5.elim
  ·rcases eO c r2 o2 h3 h4 with ⟨hc,rfl,rfl⟩ | ⟨_,_,rfl⟩ | ⟨hc,OX,c4,c5⟩
   ·rcases hr b h6 with h7 | h7
    ·exact h.dx i a r r1 o o1 b (Ne.symm hai) hs hk a4 a5 h7 h5
    ·have:=(h.obj a r1 o1 a4 a5).lt h5;omega
   ·exact h6.elim
   ·exact h.dx a c r1 r2 o1 o2 b hac a4 a5 c4 c5 h5 h6
 ·have h1:=h.dj b x hb
  rw[cd b (Array.getElem?_eq_some_iff.1 h1).1 (fun hb'=>?_)]
  ·exact h1
  ·have:=h.sep b ⟨i,r,o,hs,hk,hb'⟩
   rw[this]at hb;cases hb
 ·rcases hown b hb with h1 | h1
  ·exact h.sep b h1
  ·cases hE:E b with
   |none=>rfl
   |some x=>
    have:=(Array.getElem?_eq_some_iff.1 (h.dj b x hE)).1
    omega
def kB (ds:List D):List (List D):=ds.map fun d=>[d]
theorem RB (ds:List D):(kB ds).length=ds.length:=by simp [kB]
def sZ (kb:KB):V->Option (Option Nat×Prop×List (List D))
 | .sl j lo hi=>match kb[j]? with
  |some (.row _ sz l)=>some (some sz,hi<=l.length,(l.take hi).drop lo)
  |_=>none
 | .dat (.sl sz l)=>some (some sz,True,l)
 | .any (.slice none 0 0)=>some (none,True,[])
 | .e0=>some (none,True,[])
 | .sa i base o s n c=>match kb[i]?,cp s 1 with
  |some (.cells l),true=>match iX l base with
   |some (.arr m cs)=>some (some 1,o+n<=m,kB ((cs.drop o).take n))
   |_=>none
  |_,_=>none
 | .se i ix o s n c=>match kb[i]?,cp s 1 with
  |some (.row _ sz l),true=>some (some 1,ix<l.length/\o+n<=sz,kB ((((l[ix]?).getD []).drop o).take n))
  |_,_=>none
 |_=>none
def yS (s:Nat):Option Nat->Bool
 |some sz=>cp sz s
 |none=>true
def r6 (E:EH) (W:World) (s:Nat) (y:Value) (xs:List (List D)):Prop:=
 wl s xs/\∃ a cap ys,y= .slice a xs.length cap/\xs.length<=cap/\a_ E xs.flatten ys/\(xs.length=0∨∃ b o,a=some ⟨b,o,none⟩/\∀(j:Nat) (v:Value),ys[j]? =some v->W.cell? ⟨b,o+j,none⟩=some v)
theorem uv {kb:KB} {x:V} {sz:Option Nat} {p:Prop} {xs:List (List D)} (h:sZ kb x=some (sz,p,xs)) (hp:p)
  {σ:Sg} {E:EH} {W:World} (hi:Inv σ E kb W) {y:Value} (hy:Den σ E x y) {s:Nat} (hsz:yS s sz=true):r6 E W s y xs:=by
 unfold sZ at h
 split at h
 ·rename_i j lo hi'
  split at h<;>try (cases h;done)
  rename_i ty sz' l hl
  simp only[bb.injEq,Prod.mk.injEq]at h
  obtain⟨rfl,rfl,rfl⟩:=h
  have tY:sz'=s:=cU hsz
  subst tY
  simp only[Den]at hy
  obtain⟨r,ad,hr,rfl,g1,g2,g3⟩:=hy
  have ho:=hi.obj j r _ hr hl
  obtain⟨zs,z1,z2⟩:=JI ho lo
  obtain⟨k1,k2,k3,k4,k5⟩:=ho
  have gQ:((l.take hi').drop lo).length=hi' - lo:=by simp;omega
  have e1:((l.take hi').drop lo).flatten=(l.drop lo).flatten.take ((hi' - lo)*sz'):=by
   rw[Kt k2,xH k2]
  refine⟨(k2.take hi').drop lo,ad,_,zs.take ((hi' - lo)*sz'),by rw[gQ],by rw[gQ];omega,by rw[e1];exact z1.take _,?_⟩
  by_cases h0:hi' - lo=0
  ·left;rw[gQ];exact h0
  ·right
   refine⟨_,_,g3 (by omega),fun q v hv=>z2 q v ?_⟩
   have hlt:q<(hi' - lo)*sz':=by
    have:=(bG.1 hv).1
    simp only[cQ]at this
    omega
   rwa [hU hlt]at hv
 ·rename_i sz' l
  simp only[bb.injEq,Prod.mk.injEq]at h
  obtain⟨rfl,rfl,rfl⟩:=h
  have tY:sz'=s:=cU hsz
  subst tY
  simp only[Den,bK]at hy
  obtain⟨ad,cap,rfl,hcap,fg⟩:=hy
  rcases fg with fg | ⟨b,off,rfl,fg⟩
  ·have:l=[]:=ma fg
   subst this
   exact⟨wl.nil,ad,cap,[],rfl,hcap,.nil,.inl rfl⟩
  ·obtain⟨zs,z1,z2⟩:=fg.flat.AK
   exact⟨fg.wl,_,cap,zs,rfl,hcap,z1,.inr ⟨b,off,rfl,fun q v hv=>HJ hi.dj (z2 q v hv)⟩⟩
 ·simp only[bb.injEq,Prod.mk.injEq]at h
  obtain⟨rfl,rfl,rfl⟩:=h
  simp only[Den]at hy
  subst hy
  exact⟨wl.nil,none,0,[],rfl,av _,.nil,.inl rfl⟩
 ·simp only[bb.injEq,Prod.mk.injEq]at h
  obtain⟨rfl,rfl,rfl⟩:=h
  simp only[Den]at hy
  obtain⟨a,rfl⟩:=hy
  exact⟨wl.nil,a,0,[],rfl,av _,.nil,.inl rfl⟩
 ·rename_i i base o s' n c
  split at h<;>try (cases h;done)
  rename_i l hl hb
  split at h<;>try (cases h;done)
  rename_i m cs nJ
  simp only[bb.injEq,Prod.mk.injEq]at h
  obtain⟨rfl,rfl,rfl⟩:=h
  have tY:1=s:=cU hsz
  subst tY
  simp only[Den]at hy
  obtain⟨r,ad,hr,rfl,g1,g2⟩:=hy
  have ho:=hi.obj i r _ hr hl
  obtain⟨zs,z1,z2⟩:=R6 ho nJ
  obtain⟨arr,ty,_,hD⟩:=ho
  obtain⟨_,_,pj,_,_⟩:=Ck nJ hD
  have hlen:(kB ((cs.drop o).take n)).length=n:=by rw[RB];simp;omega
  refine⟨K1 _,ad,c,(zs.drop o).take n,by rw[hlen],by rw[hlen];exact g1,by unfold kB;rw[Gw];exact(z1.drop o).take n,?_⟩
  by_cases h0:n=0
  ·left;rw[hlen];exact h0
  ·right
   refine⟨_,_,g2 (by omega),fun q v hv=>?_⟩
   have hlt:q<n:=by
    have:=(bG.1 hv).1
    simp only[cQ]at this
    omega
   rw[hU hlt,jw]at hv
   rw[gE]
   exact z2 _ v hv
 ·rename_i i ix o s' n c
  split at h<;>try (cases h;done)
  rename_i ty sz' l hl hb
  simp only[bb.injEq,Prod.mk.injEq]at h
  obtain⟨rfl,rfl,rfl⟩:=h
  have tY:1=s:=cU hsz
  subst tY
  obtain⟨l0,hon⟩:=hp
  simp only[Den]at hy
  obtain⟨r,ad,hr,rfl,g1,g2⟩:=hy
  have ho:=hi.obj i r _ hr hl
  have he:l[ix]? =some l[ix]:=bp l0
  obtain⟨zs,z1,z2⟩:=JK ho he
  have hel:=ho.2.1 _ (List.getElem_mem l0)
  rw[he,Option.getD_some]
  have hlen:(kB ((l[ix].drop o).take n)).length=n:=by rw[RB];simp;omega
  refine⟨K1 _,ad,c,(zs.drop o).take n,by rw[hlen],by rw[hlen];exact g1,by unfold kB;rw[Gw];exact(z1.drop o).take n,?_⟩
  by_cases h0:n=0
  ·left;rw[hlen];exact h0
  ·right
   refine⟨_,_,g2 (by omega),fun q v hv=>?_⟩
   have hlt:q<n:=by
    have:=(bG.1 hv).1
    simp only[cQ]at this
    omega
   rw[hU hlt,jw]at hv
   rw[gE]
   exact z2 _ v hv
 ·cases h
theorem r6.first {E:EH} {W:World} {s:Nat} {y:Value} {xs:List (List D)} (h:r6 E W s y xs) {P:Program} (k:Nat) (hk:k<=xs.length):
  ∃ ys,(Builtin.firstCells s k y).run P W= .ok ys.toArray W/\(Builtin.firstCells s k y).run P W.drew= .ok ys.toArray W.drew/\a_ E (xs.take k).flatten ys:=by
 obtain⟨hw,a,cap,ys,rfl,hc,hD,ha⟩:=h
 have jo:=hD.len
 rw[o9 hw]at jo
 by_cases h0:k=0
 ·subst h0
  refine⟨[],?_,?_,by simp [a_]⟩
  ·cases a with
   |none=>simpa using run_firstCells_none (P:=P) W s 0 _ cap
   |some a=>simpa using run_firstCells_some (P:=P) W s 0 a _ cap [] (by simp) (by simp)
  ·cases a with
   |none=>simpa using run_firstCells_none (P:=P) W.drew s 0 _ cap
   |some a=>simpa using run_firstCells_some (P:=P) W.drew s 0 a _ cap [] (by simp) (by simp)
 ·rcases ha with ha | ⟨b,o,rfl,ha⟩
  ·omega
  have iQ:k*s<=xs.length*s:=Nat.mul_le_mul_right _ hk
  have hl:(ys.take (k*s)).length=k*s:=by simp;omega
  have hcell:∀(j:Nat) (u:Value),(ys.take (k*s))[j]? =some u->W.cell? (Addr.add ⟨b,o,none⟩ j)=some u:=fun j u hj=>by
   have hlt:j<k*s:=by
    have:=(bG.1 hj).1
    omega
   rw[hU hlt]at hj
   rw[Addr.add_lit]
   exact ha j u hj
  exact⟨ys.take (k*s),run_firstCells_some (P:=P) W s k _ _ cap _ hl hcell,run_firstCells_some (P:=P) W.drew s k _ _ cap _ hl (by simpa using hcell),by rw[xI hw];exact hD.take _⟩
theorem r6.lenOf {E:EH} {W:World} {s:Nat} {y:Value} {xs:List (List D)} (h:r6 E W s y xs) {P:Program} (w:World):(Builtin.lenOf y).run P w= .ok xs.length w:=by
 obtain⟨_,a,cap,_,rfl,_⟩:=h
 rfl
theorem r6.src {E:EH} {W:World} {s:Nat} {y:Value} {xs:List (List D)} (h:r6 E W s y xs) {P:Program} {u e':TypeId} (hu:P.underlying u=some (.slice e')):
  ∃ ys,Src P s u y xs.length ys W/\a_ E xs.flatten ys:=by
 obtain⟨ys,h1,h2,h3⟩:=h.first (P:=P) xs.length (av _)
 rw[cM]at h3
 exact⟨ys,⟨.inl ⟨e',hu⟩,fun w=>h.lenOf w,h1,h2,by rw[h3.len,o9 h.1],h3.one⟩,h3⟩
def EY (P:Program) (t u:TypeId) (d x:V) (kb:KB) (K:V->KB->Prop):Prop:=
 match P.underlying t,P.underlying u,sZ kb x with
 |some (.slice elem),some (.slice _),some (sz,p,xs)=>
  match P.info? elem with
  |some i=>
   match i.zero,Nat.ble 1 i.size,Nat.ble 1 i.bytes,yS i.size sz with
   |some z,true,true,true=>
    match cp z.cells.size i.size with
    |true=>
     match d with
     | .any (.slice none 0 0)=>p/\xs.length*i.bytes<=140737488355328/\K (.sl kb.length 0 xs.length) (kb++[.row elem i.size xs])
     | .e0=>p/\xs.length*i.bytes<=140737488355328/\K (.sl kb.length 0 xs.length) (kb++[.row elem i.size xs])
     | .sl j 0 hi=>
      match kb[j]? with
      |some (.row ty sz' l)=>match cp ty elem,cp sz' i.size with
       |true,true=>p/\hi<=l.length/\(hi+xs.length)*i.bytes<=140737488355328/\K (.sl kb.length 0 (hi+xs.length)) (kb.set j .dead++[.row elem i.size (l.take hi++xs)])
       |_,_=>False
      |_=>False
     |_=>False
    |false=>False
   |_,_,_,_=>False
  |none=>False
 |_,_,_=>False
theorem SS {P:Program} {t u elem e':TypeId} {i:TypeInfo} {z:Value} (ht:P.underlying t=some (.slice elem)) (hu:P.underlying u=some (.slice e')) (hi:P.info? elem=some i) (hz:i.zero=some z)
  (h1:1<=i.size) (h2:1<=i.bytes) (hzs:z.cells.size=i.size) (W:World) {base:Option Addr} {sLen sCap:Nat} {olds:List Value}
  (hold:(Builtin.firstCells i.size sLen (.slice base sLen sCap)).run P W.drew= .ok olds.toArray W.drew) (fy:olds.length=sLen*i.size) {y:Value} {n:Nat} {news:List Value} (hs:Src P i.size u y n news W) (hg:sCap<sLen+n)
  (hb:(sLen+n)*i.bytes<=140737488355328) (ty:TypeId):
  ∃ cap arr,(Builtin.append_ #[t,u] ty #[.slice base sLen sCap,y]).run P W= .ok (.slice (some ⟨W.heap.size,0,none⟩) (sLen+n) cap) (W.drew.alloc (.cells arr elem))/\sLen+n<=cap/\cap<=maxLen/\
   arr.size=cap*i.size/\arr.toList.take ((sLen+n)*i.size)=olds++news:=by
 have pu:sLen+n<=140737488355328:=mf (Nat.le_mul_of_pos_right _ h2) hb
 have hge:=grownCap_ge W (sLen+n) sCap elem
 have hle:=grownCap_le_maxLen W (sLen+n) sCap elem (by simp only[maxLen];omega)
 have hr:=run_append_grow_src W t u ty elem i z ht hi hz base sLen sCap olds hold y n news hs hg (by omega) (growslice_fits hg hb)
 refine⟨_,_,hr,hge,hle,?_,?_⟩
 ·have:(olds++news).length=(sLen+n)*i.size:=by rw[bn,fy,hs.newsLen,Nat.add_mul]
  simp only[Array.size_append,List.size_toArray,this,size_zeroCells,hzs]
  rw[<- Nat.add_mul]
  congr 1
  omega
 ·have:(olds++news).length=(sLen+n)*i.size:=by rw[bn,fy,hs.newsLen,Nat.add_mul]
  rw[Array.toList_append,<- this]
  exact List.take_left
theorem aen {P:Program} {t u elem e':TypeId} {i:TypeInfo} (ht:P.underlying t=some (.slice elem)) (hu:P.underlying u=some (.slice e')) (hi:P.info? elem=some i) (W:World) {b sLen sCap:Nat} {cur:Array Value}
  (hg:W.heap[b]? =some (.cells cur elem (0,0))) (hc:cur.size=sCap*i.size) {y:Value} {n:Nat} {news:List Value} (hs:Src P i.size u y n news W) (hroom:sLen+n<=sCap) (ty:TypeId):
  (Builtin.append_ #[t,u] ty #[.slice (some ⟨b,0,none⟩) sLen sCap,y]).run P W= .ok (.slice (some ⟨b,0,none⟩) (sLen+n) sCap) (W.setRow b (splice cur.toList (sLen*i.size) news).toArray):=by
 have hfit:sLen*i.size+news.length<=cur.size:=by
  rw[hs.newsLen,hc,<- Nat.add_mul];exact Nat.mul_le_mul_right _ hroom
 have hst:=run_storeCells_at P b (sLen*i.size) elem news 0 cur W hg (by simpa using hfit) hs.one
 simp only[Nat.add_zero]at hst
 simp [Builtin.append_,run_underlying ht,run_underlying hu,Go.sizeOf,typeInfo,hi,hs.len,hroom,hs.cells,Addr.add_lit,hst,splice]
theorem Wi {P:Program} {t u:TypeId} {d x:V} {kb:KB} {K:V->KB->Prop} (h:EY P t u d x kb K) {σ:Sg} {E:EH} {W:World} (hi:Inv σ E kb W) {a y:Value} (hd:Den σ E d a) (hy:Den σ E x y) (ty:TypeId):
  ∃ v z σ' kb' W',(Builtin.append_ #[t,u] ty #[a,y]).run P W= .ok z W'/\Step σ E kb W σ' E kb' W'/\Den σ' E v z/\K v kb':=by
 unfold EY at h
 split at h<;>try exact h.elim
 rename_i elem e' sz p xs ht hu hsrc
 split at h<;>try exact h.elim
 rename_i i lA
 split at h<;>try exact h.elim
 rename_i z hz gx fx hfit
 split at h<;>try exact h.elim
 rename_i hbz
 have h1:=Nat.le_of_ble_eq_true gx
 have h2:=Nat.le_of_ble_eq_true fx
 have hzs:=cU hbz
 have hnew:∀{cap:Nat} {arr:Array Value} {l:List (List D)} {ys:List Value},wl i.size l->l.length<=cap->cap<=maxLen->arr.size=cap*i.size->arr.toList.take (l.length*i.size)=ys->a_ E l.flatten ys->
   fY (σ++[⟨W.heap.size,cap,i.size⟩]) E (W.drew.alloc (.cells arr elem)) ⟨W.heap.size,cap,i.size⟩ (.row elem i.size l):=by
  intro cap arr l ys q1 q2 q3 q4 q5 q6
  refine⟨rfl,q1,q2,q3,.inr ⟨arr,?_,q4,by rw[q5];exact q6⟩⟩
  show(W.heap.push _)[W.heap.size]? =_
  simp
 have fresh:∀{base:Option Addr},a= .slice base 0 0->p/\xs.length*i.bytes<=140737488355328/\K (.sl kb.length 0 xs.length) (kb++[.row elem i.size xs])->
   ∃ v z σ' kb' W',(Builtin.append_ #[t,u] ty #[a,y]).run P W= .ok z W'/\Step σ E kb W σ' E kb' W'/\Den σ' E v z/\K v kb':=by
  rintro base rfl ⟨hp,hb,hK⟩
  have hE:=uv hsrc hp hi hy hfit
  obtain⟨ys,hs,hD⟩:=hE.src hu
  have hw:=hE.1
  by_cases hx:xs.length=0
  ·have hnil:xs=[]:=ma hx
   subst hnil
   have hrun:(Builtin.append_ #[t,u] ty #[.slice base 0 0,y]).run P W= .ok (.slice base 0 0) W:=by
    have hlen:=hs.len
    have hcl:=hs.cells
    have jo:=hs.newsLen
    simp at hlen hcl jo
    subst jo
    cases base<;>simp [Builtin.append_,run_underlying ht,run_underlying hu,Go.sizeOf,typeInfo,lA,hlen,hcl,storeCells]
   have hst:Step σ E kb W (σ++[⟨0,0,i.size⟩]) E (kb++[.row elem i.size []]) W:=
    hi.grow _ _ rfl rfl rfl (av _) (fun _ _=>rfl) (fun b hb=>absurd rfl hb.1) ⟨rfl,wl.nil,av _,bt _,.inl rfl⟩
   exact⟨_,_,_,_,_,hrun,hst,by simp only[Den];exact⟨⟨0,0,i.size⟩,base,by rw[<- hi.len];simp,by simp,by simp,by simp,by simp⟩,hK⟩
  ·have hold:(Builtin.firstCells i.size 0 (.slice base 0 0)).run P W.drew= .ok ([]:List Value).toArray W.drew:=by
    cases base with
    |none=>simpa using run_firstCells_none (P:=P) W.drew i.size 0 0 0
    |some ad=>simpa using run_firstCells_some (P:=P) W.drew i.size 0 ad 0 0 [] (by simp) (by simp)
   obtain⟨cap,arr,hrun,c1,c2,c3,c4⟩:=SS (base:=base) (sLen:=0) (sCap:=0) (olds:=[]) ht hu lA hz h1 h2 hzs W hold (by simp) hs (by omega) (by simpa using hb) ty
   simp only[c9,jV]at hrun c1 c4
   have hst:=(Inv.drew hi).trans ((Inv.drew hi).inv.alloc (.cells arr elem) ⟨W.heap.size,cap,i.size⟩ (.row elem i.size xs) (fun b hb=>hb.2) (hnew hw c1 c2 c3 c4 hD))
   exact⟨_,_,_,_,_,hrun,hst,by simp only[Den];exact⟨⟨W.heap.size,cap,i.size⟩,_,by rw[<- hi.len];simp,rfl,by simp,c1,by simp⟩,hK⟩
 split at h<;>try exact h.elim
 ·simp only[Den]at hd
  exact fresh hd h
 ·simp only[Den]at hd
  obtain⟨base,rfl⟩:=hd
  exact fresh rfl h
 ·rename_i j hi'
  split at h<;>try exact h.elim
  rename_i ty' sz' l hl
  split at h<;>try exact h.elim
  rename_i YS G7
  have ZR:=cU YS
  have hsz:=cU G7
  subst ZR;subst hsz
  obtain⟨hp,hle,hb,hK⟩:=h
  have hE:=uv hsrc hp hi hy hfit
  obtain⟨ys,hs,hD⟩:=hE.src hu
  have hw:=hE.1
  simp only[Den]at hd
  obtain⟨r,ad,hr,rfl,_,g2,g3⟩:=hd
  simp only[lT,Nat.zero_mul]at*
  obtain⟨k1,k2,k3,k4,k5⟩:=hi.obj j r _ hr hl
  have lD:=(k2.take hi').append hw
  have hlen:(l.take hi'++xs).length=hi'+xs.length:=by simp;omega
  by_cases hroom:hi'+xs.length<=r.cap
  ·by_cases hc0:r.cap=0
   ·have hx0:xs.length=0:=by omega
    have hnil:xs=[]:=ma hx0
    have hh0:hi'=0:=by omega
    subst hnil;subst hh0
    have hrun:(Builtin.append_ #[t,u] ty #[.slice ad 0 r.cap,y]).run P W= .ok (.slice ad 0 r.cap) W:=by
     have hlen:=hs.len
     have hcl:=hs.cells
     have jo:=hs.newsLen
     simp at hlen hcl jo
     subst jo
     cases ad<;>simp [Builtin.append_,run_underlying ht,run_underlying hu,Go.sizeOf,typeInfo,lA,hlen,hcl,storeCells]
    have hst:=hi.renew (W':=W) (r':=⟨0,0,i.size⟩) (o':=.row ty' i.size (l.take 0++[])) hr hl rfl rfl rfl (av _) (fun _ _ _=>rfl) (fun b hb=>absurd rfl hb.1)
     ⟨rfl,lD,by simp,bt _,.inl rfl⟩
    exact⟨_,_,_,_,_,hrun,hst,by simp only[Den];exact⟨⟨0,0,i.size⟩,ad,by rw[eW (by rw[hi.len];exact av _)];simp [hi.len],by simp [hc0],by simp,by simp,by simp⟩,hK⟩
   ·rcases k5 with k5 | ⟨arr,k5,k6,k7⟩
    ·exact absurd k5 hc0
    rw[g3 (by omega)]
    have hrun:=aen ht hu lA W k5 k6 hs hroom ty
    have hfl:a_ E (l.take hi').flatten (arr.toList.take (hi'*i.size)):=by
     rw[xI k2]
     have:=k7.take (hi'*i.size)
     rwa [List.take_take,Nat.min_eq_left (Nat.mul_le_mul_right _ hle)]at this
    have jo:=hs.newsLen
    have hsp:hi'*i.size+ys.length<=arr.toList.length:=by
     have G2:arr.toList.length=r.cap*i.size:=by simpa using k6
     rw[jo,G2,<- Nat.add_mul];exact Nat.mul_le_mul_right _ hroom
    have hst:=hi.renew (W':=W.setRow r.blk (splice arr.toList (hi'*i.size) ys).toArray) (r':=⟨r.blk,r.cap,i.size⟩) (o':=.row ty' i.size (l.take hi'++xs)) hr hl rfl rfl rfl (by simp [World.setRow])
     (fun b _ hb=>setRow_other W r.blk b _ (fun e=>hb ⟨hc0,e⟩)) (fun b hb=> .inl ⟨hc0,hb.2⟩)
     ⟨rfl,lD,by rw[hlen];exact hroom,k4,.inr ⟨_,setRow_heap W r.blk arr _ ty' (0,0) k5,by simp only[List.size_toArray];rw[mF hsp];simpa using k6,by
      rw[hlen,List.flatten_append]
      simp only[splice]
      have e0:(arr.toList.take (hi'*i.size)).length=hi'*i.size:=by rw[cQ];omega
      have e1:(hi'+xs.length)*i.size=(arr.toList.take (hi'*i.size)++ys).length:=by
       rw[bn,e0,jo,Nat.add_mul]
      rw[e1,List.take_left]
      exact hfl.append hD⟩⟩
    exact⟨_,_,_,_,_,hrun,hst,by simp only[Den];exact⟨⟨r.blk,r.cap,i.size⟩,_,by rw[eW (by rw[hi.len];exact av _)];simp [hi.len],rfl,by simp,hroom,by simp⟩,hK⟩
  ·have YA:r6 E W i.size (.slice ad hi' r.cap) (l.take hi'):=by
    have:=uv (kb:=kb) (x:=.sl j 0 hi') (sz:=some i.size) (p:=hi'<=l.length) (xs:=(l.take hi').drop 0) (by simp only[sZ,hl]) hle hi (y:=.slice ad hi' r.cap)
     (by simp only[Den];exact⟨r,ad,hr,by simp,bt _,g2,fun h=>by rw[g3 h,Nat.zero_mul]⟩) (s:=i.size) (by simp [yS])
    simpa using this
   obtain⟨olds,_,hold,GV⟩:=YA.first (P:=P) (l.take hi').length (av _)
   rw[cM]at GV
   have PB:(l.take hi').length=hi':=by simp;omega
   rw[PB]at hold
   have fy:olds.length=hi'*i.size:=by rw[GV.len,o9 (k2.take hi'),PB]
   obtain⟨cap,arr,hrun,c1,c2,c3,c4⟩:=SS ht hu lA hz h1 h2 hzs W hold fy hs (by omega) hb ty
   have hst:=(Inv.drew hi).trans ((Inv.drew hi).inv.renew (W':=W.drew.alloc (.cells arr ty')) (r':=⟨W.heap.size,cap,i.size⟩) (o':=.row ty' i.size (l.take hi'++xs)) hr hl rfl rfl rfl (by simp)
    (fun b hb _=>by show(W.heap.push _)[b]? =_;rw[Array.getElem?_push,if_neg (by have:b<W.heap.size:=hb;omega)];rfl) (fun b hb=> .inr (by rw[hb.2];exact av _)) (hnew (ys:=olds++ys) lD (by rw[hlen];exact c1) c2 c3 (by rw[hlen];exact c4) (by rw[List.flatten_append];exact GV.append hD)))
   exact⟨_,_,_,_,_,hrun,hst,by simp only[Den];exact⟨⟨W.heap.size,cap,i.size⟩,_,by rw[eW (by rw[hi.len];exact av _)];simp [hi.len],rfl,by simp,c1,by simp⟩,hK⟩
def sS (P:Program) (t:TypeId) (l:List V) (off:Nat):Option V:=
 match np P t,fA P t,qM l off with
 |some true,some n,some r=>match uy r n with | some vs=>some (.agg vs) | none=>none
 |some false,some _,some (v:: _)=>match v with | .arr _ _=>none | _=>some v
 |_,_,_=>none
theorem vZ {P:Program} {t:TypeId} {l:List V} {off:Nat} {v:V} (h:sS P t l off=some v) {σ:Sg} {E:EH} {xs:List Value} (hd:aT σ E l xs):
  ∃ x,(∀ W,(part t xs.toArray off).run P W= .ok x W)/\Den σ E v x:=by
 unfold sS at h
 split at h
 ·rename_i n r ha hn hr
  split at h<;>try (cases h;done)
  rename_i vs hvs
  cases h
  obtain⟨h1,_⟩:=sr hr hd
  obtain⟨h2,h3⟩:=C6 hvs h1
  refine⟨_,fun W=>by simp [part,sV ha,kf hn];rfl,?_⟩
  simp only[Den]
  exact⟨(xs.drop off).take n,rfl,h2⟩
 ·rename_i n u r ha hn hr
  split at h<;>try (cases h;done)
  rename_i hna
  cases h
  obtain⟨h1,_⟩:=sr hr hd
  obtain⟨ys,zs,e,h2,_⟩:=h1.io
  rcases h2 with ⟨y,rfl,_,hy⟩ | ⟨m,cs,e',_,_⟩
  ·have hx:xs[off]? =some y:=by
    have:=congrArg (fun z=>z[0]?) e
    simpa using this
   exact⟨y,fun W=>by simp [part,sV ha,hx],hy⟩
  ·exact(hna _ _ e').elim
 ·cases h
def Gm (P:Program) (t:TypeId) (v:V) (n:Nat):Option V:=
 match P.underlying t,v with
 |some (.struct fs),.agg l=>match fs[n]? with
  |some f=>sS P f.type l f.offset
  |none=>none
 |_,_=>none
theorem X3 {P:Program} {t:TypeId} {v u:V} {n:Nat} (h:Gm P t v n=some u) {σ:Sg} {E:EH} {x:Value} (hd:Den σ E v x):
  ∃ y,(∀ W,(Instr.field t x n).run P W= .ok y W)/\Den σ E u y:=by
 unfold Gm at h
 split at h
 ·rename_i fs l ht
  split at h
  ·rename_i f hf
   simp only[Den]at hd
   obtain⟨xs,rfl,hD⟩:=hd
   obtain⟨y,h1,h2⟩:=vZ h hD
   exact⟨y,fun W=>by simp [Instr.field,run_underlying ht,hf,asAgg,h1],h2⟩
  ·cases h
 ·cases h
def Gd (P:Program) (t:TypeId) (v ix:V) (K:V->Prop):Prop:=
 match P.underlying t,v,numOf ix with
 |some (.array m elem),.agg l,some n=>match fA P elem,np P elem,mw P 20 elem with
  |some s,some agg,some ks=>match l with
   | [.arr _ cs]=>match cp (wk ks) (pZ agg s)with
    |true=>bw n m/\m_ cs (n.toNat*s) ks (fun vs=>oV agg vs K)
    |false=>False
   |_=>match PO ix with
    |true=>match sS P elem l (n.toNat*s)with | some u=>bw n m/\K u | none=>False
    |false=>False
  |_,_,_=>False
 |_,_,_=>False
theorem XU {P:Program} {t:TypeId} {v ix:V} {K:V->Prop} (h:Gd P t v ix K) {σ:Sg} {E:EH} {x y:Value} (hd:Den σ E v x) (hy:Den σ E ix y):
  ∃ u z,(∀ W,(Instr.index t x y).run P W= .ok z W)/\Den σ E u z/\K u:=by
 unfold Gd at h
 split at h<;>try exact h.elim
 rename_i m elem l n ht hn
 obtain⟨k,rfl⟩:=uj hn hy
 simp only[Den]at hd
 obtain⟨xs,rfl,hD⟩:=hd
 split at h<;>try exact h.elim
 rename_i s agg ks hs ha hks
 have run:∀{z:Value},0<=n->n<(m:Int)->(∀ W,(part elem xs.toArray (n.toNat*s)).run P W= .ok z W)->∀ W,(Instr.index t (.agg xs.toArray) (.int k n)).run P W= .ok z W:=fun h0 h1 hz W=>by
  simp [Instr.index,asIntOf,run_underlying ht,h0,h1,kf hs,hz W]
 split at h
 ·rename_i m' cs
  split at h<;>try exact h.elim
  rename_i hb
  have hw:=cU hb
  obtain⟨⟨h0,h1⟩,h⟩:=h
  obtain⟨ys,zs,rfl,hp,hz⟩:=hD.io
  simp only[aT]at hz
  subst hz
  rcases hp with ⟨y,rfl,_,hy'⟩ | ⟨m2,cs2,e,hl,Yx⟩
  ·simp only[Den]at hy'
  cases e
  obtain⟨vs,us,hK,sC,gQ,hx⟩:=pB (σ:=σ) Yx h
  obtain⟨u,YB,hu,hone⟩:=uC hK sC
  refine⟨u,_,run h0 h1 (fun W=>?_),hu,YB⟩
  rw[hw,xr]at gQ
  have da:∀ j x,us[j]? =some x->(ys++[])[n.toNat*s+j]? =some x:=fun j x hj=>by simpa using hx j x hj
  cases agg with
  |true=>
   simp only[if_true]at gQ ⊢
   have:((ys++[]).toArray.extract (n.toNat*s) (n.toNat*s+s))=us.toArray:=by
    apply Array.ext'
    simp only[Array.toList_extract,List.extract_eq_take_drop]
    apply lw
    intro j
    rcases jX j s with hj | hj
    ·rw[hU (by omega),jw]
     have:=da j _ (bp (by omega))
     rw[this];simp [show j<us.length by omega]
    ·rw[gO (by simp;omega),gO (by omega)]
   simp [part,sV ha,kf hs]
   simpa using this
  |false=>
   simp only[Bool.false_eq_true,if_false]at gQ ⊢
   match us,gQ with
   | [z],_=>
    have:=da 0 z rfl
    simp only[Nat.add_zero]at this
    simp [part,sV ha]
    simp at this
    simp [this]
 ·split at h<;>try exact h.elim
  split at h<;>try exact h.elim
  rename_i u hu
  obtain⟨⟨h0,h1⟩,hK⟩:=h
  obtain⟨z,Z3,Z4⟩:=vZ hu hD
  exact⟨u,z,run h0 h1 Z3,Z4,hK⟩
def vp (P:Program) (eq:TypeId->V->V->Option Bool) (xs ys:List V):List Field->Option Bool
 | []=>some true
 |f::fs=>
  match f.name == "_" with
  |true=>vp P eq xs ys fs
  |false=>match sS P f.type xs f.offset,sS P f.type ys f.offset with
   |some a,some b=>match eq f.type a b,vp P eq xs ys fs with
    |some r,some s=>some (r && s)
    |_,_=>none
   |_,_=>none
def AS (P:Program) (eq:TypeId->V->V->Option Bool) (elem:TypeId) (n:Nat) (xs ys:List V):Nat->Nat->Option Bool
 |_,0=>some true
 |i,m+1=>match sS P elem xs (i*n),sS P elem ys (i*n)with
  |some a,some b=>match eq elem a b,AS P eq elem n xs ys (i+1) m with
   |some r,some s=>some (r && s)
   |_,_=>none
  |_,_=>none
def xA:V->V
 | .lit k n=> .int k n
 |v=>v
theorem FY {σ:Sg} {E:EH} {v:V} {x:Value} (h:Den σ E v x):Den σ E (xA v) x:=by
 cases v<;>simp only[xA]<;>first | exact h | simpa [Den]using h
def Aw:V->Option Bool
 | .sb b=>some b
 | .tt=>some true
 | .ff=>some false
 |_=>none
def su (P:Program):Nat->TypeId->V->V->Option Bool
 | 0,_,_,_=>none
 |d+1,t,x,y=>
  match P.underlying t with
  |some (.int _)=>match xA x,xA y with
   | .int k a,.int k' b=>match decide (k=k')with | true=>some (a == b) | false=>none
   |_,_=>none
  |some .bool=>match Aw x,Aw y with
   |some a,some b=>some (a == b)
   |_,_=>none
  |some .string=>match x,y with
   | .any (.string a),.any (.string b)=>some (a.toList == b.toList)
   |_,_=>none
  |some (.struct fs)=>match P.stoodInHeld t,x,y with
   |false,.agg xs,.agg ys=>vp P (su P d) xs ys fs.toList
   |_,_,_=>none
  |some (.array len elem)=>match fA P elem,x,y with
   |some n,.agg xs,.agg ys=>AS P (su P d) elem n xs ys 0 len
   |_,_,_=>none
  |_=>none
theorem MR {v:V} {b:Bool} (h:Aw v=some b) {σ:Sg} {E:EH} {x:Value} (hd:Den σ E v x):x= .bool b:=by
 cases v<;>simp only[Aw,bb.injEq,reduceCtorEq]at h<;>subst h<;>simpa [Den]using hd
theorem Gf {P:Program} {eq:TypeId->V->V->Option Bool} {d:Nat} {σ:Sg} {E:EH}
  (heq:∀ t x y r,eq t x y=some r->∀ a b,Den σ E x a->Den σ E y b->∀ W,(Op.equalIn d t a b).run P W= .ok r W) {xs ys:List V} {as bs:List Value} (hx:aT σ E xs as) (hy:aT σ E ys bs) (W:World):
  ∀{fs:List Field} {r:Bool},vp P eq xs ys fs=some r->(Op.eqFields d as.toArray bs.toArray fs).run P W= .ok r W
 | [],r,h=>by simp [vp]at h;subst h;simp [Op.eqFields]
 |f::fs,r,h=>by
  simp only[vp]at h
  split at h
  ·rename_i hn
   have hn':f.name="_":=by simpa using hn
   simp only[Op.eqFields,hn']
   simpa using Gf heq hx hy W h
  ·rename_i hn
   have hn':¬ f.name="_":=by simpa using hn
   split at h
   ·rename_i a b ha hb
    split at h
    ·rename_i r1 s1 h1 h2
     cases h
     obtain⟨x,hx1,hx2⟩:=vZ ha hx
     obtain⟨y,hy1,hy2⟩:=vZ hb hy
     have hr:=heq _ _ _ _ h1 x y hx2 hy2 W
     have ih:=Gf heq hx hy W h2
     simp only[Op.eqFields,ne_eq,hn',not_false_eq_true,if_true,Sem.run_bind,hx1,hy1,hr,Result.andThen_ok]
     cases r1
     ·simp
     ·simpa using ih
    ·cases h
   ·cases h
theorem N6 {P:Program} {σ:Sg} {E:EH}:∀(d:Nat) (t:TypeId) (x y:V) (r:Bool),su P d t x y=some r->∀ a b,Den σ E x a->Den σ E y b->∀(m:Nat),d<=m->∀ W,(Op.equalIn m t a b).run P W= .ok r W
 | 0,_,_,_,_,h,_,_,_,_,_,_,_=>by simp [su]at h
 |d+1,t,x,y,r,h,a,b,ha,hb,0,hm,W=>by omega
 |d+1,t,x,y,r,h,a,b,ha,hb,m+1,hm,W=>by
  have ih:=N6 (P:=P) (σ:=σ) (E:=E) d
  simp only[su]at h
  split at h
  ·rename_i k0 ht
   split at h
   ·rename_i k p k' q ua Z2
    split at h
    ·rename_i hk
     have hk':k=k':=by simpa using hk
     subst hk'
     cases h
     replace ha:=FY ha
     replace hb:=FY hb
     rw[ua]at ha
     rw[Z2]at hb
     simp only[Den]at ha hb
     subst ha;subst hb
     exact run_equalIn_int W m t k k0 p q ht
    ·cases h
   ·cases h
  ·rename_i ht
   split at h
   ·rename_i p q hp hq
    cases h
    rw[MR hp ha,MR hq hb]
    exact run_equalIn_bool' W m t p q ht
   ·cases h
  ·rename_i ht
   split at h
   ·cases h
    simp only[Den]at ha hb
    subst ha;subst hb
    exact run_equalIn_string W m t _ _ ht
   ·cases h
  ·rename_i fs ht
   split at h
   ·rename_i xs ys hst
    simp only[Den]at ha hb
    obtain⟨as,rfl,hx⟩:=ha
    obtain⟨bs,rfl,hy⟩:=hb
    have hf:P.fieldsOf t=fs:=by simp [Program.fieldsOf,ht]
    rw[run_equalIn_struct W m t as.toArray bs.toArray (by rw[hf];exact ht) hst,hf]
    exact Gf (d:=m) (fun t x y r h a b ha hb W=>ih t x y r h a b ha hb m (by omega) W) hx hy W h
   ·cases h
  ·rename_i len elem ht
   split at h
   ·rename_i n xs ys hn
    simp only[Den]at ha hb
    obtain⟨as,rfl,hx⟩:=ha
    obtain⟨bs,rfl,hy⟩:=hb
    simp only[Op.equalIn,Sem.run_bind,run_underlying ht,Result.andThen_ok,kf hn]
    rw[Std.Legacy.Range.forIn_eq_forIn_range']
    simp only[Std.Legacy.Range.size,lT,Nat.add_sub_cancel,Nat.div_one]
    clear ht
    generalize 0=i at h ⊢
    induction len generalizing i r with
    |zero=>simp only[AS]at h;cases h;simp
    |succ len ihl=>
     simp only[AS]at h
     split at h
     ·rename_i p q hp hq
      split at h
      ·rename_i r1 s1 h1 h2
       cases h
       obtain⟨u,ZS,px⟩:=vZ hp hx
       obtain⟨v,ZU,qZ⟩:=vZ hq hy
       have hr:=ih _ _ _ _ h1 u v px qZ m (by omega) W
       have:=ihl s1 (i+1) h2
       simp only[List.range'_succ,List.forIn_cons,Sem.run_bind,ZS,ZU,hr,Result.andThen_ok]
       cases r1
       ·simp
       ·simpa using this
      ·cases h
     ·cases h
   ·cases h
  ·cases h
def FC:V->Option (List V)
 | .agg vs=>some vs
 |v=>match V.one v with | true=>some [v] | false=>none
theorem WY {v:V} {vs:List V} (h:FC v=some vs) {σ:Sg} {E:EH} {x:Value} (hd:Den σ E v x):∃ xs,x.cells=xs.toArray/\aT σ E vs xs:=by
 unfold FC at h
 split at h
 ·cases h
  simp only[Den]at hd
  obtain⟨xs,rfl,hD⟩:=hd
  exact⟨xs,rfl,hD⟩
 ·split at h
  ·rename_i h1
   cases h
   have h2:=one_den h1 hd
   refine⟨[x],?_,.jc hd h2 .nil⟩
   cases x<;>simp_all [Value.cells,lU]
  ·cases h
def vr (place:Nat->Option (Nat×Nat)) (l:List V):List (Nat×V)->Option (List V)
 | []=>some l
 | (i,v)::rest=>match place i,FC v with
  |some (off,size),some vs=>match cp (wid vs) size with
   |true=>match jg l off vs with
    |some l'=>vr place l' rest
    |none=>none
   |false=>none
  |_,_=>none
theorem J7 {α:Type} (c:α) (l:List α) (n:Nat) (vs:List α):splice (c::l) (n+1) vs=c::splice l n vs:=by
 simp only[splice,List.take_succ_cons,List.cons_append]
 rw[show n+1+vs.length=(n+vs.length)+1 by omega,List.drop_succ_cons]
theorem Ts {α:Type}:∀(l:List α) (n:Nat) (v:α) (vs:List α),n+1+vs.length<=l.length->splice (l.set n v) (n+1) vs=splice l n (v::vs)
 | [],n,v,vs,h=>by simp at h
 |c::l,0,v,vs,h=>by
  rw[List.set_cons_zero,J7]
  simp [splice]
 |c::l,n+1,v,vs,h=>by
  rw[List.set_cons_succ,J7,J7,Ts l n v vs (by simp at h;omega)]
theorem GA (off:Nat):∀(vs:List Value) (k:Nat) (cs:Array Value),off+k+vs.length<=cs.size->
  ((vs.zipIdx k).foldl (fun cs (c,j)=>cs.setIfInBounds (off+j) c) cs).toList=splice cs.toList (off+k) vs
 | [],k,cs,_=>by simp [splice]
 |v::vs,k,cs,h=>by
  simp only[iZ]at h
  simp only[List.zipIdx_cons,List.foldl_cons]
  rw[GA off vs (k+1) _ (by simp;omega),Array.toList_setIfInBounds]
  exact Ts cs.toList (off+k) v vs (by simp;omega)
def lq (σ:Sg) (E:EH):List (Nat×V)->List (Nat×Value)->Prop
 | [],xs=>xs=[]
 | (i,v)::vs,xs=>∃ x xs',xs=(i,x)::xs'/\Den σ E v x/\lq σ E vs xs'
theorem Gn {place:Nat->Option (Nat×Nat)} {σ:Sg} {E:EH}:∀{parts:List (Nat×V)} {l r:List V},vr place l parts=some r->∀{xs:List Value},aT σ E l xs->∀{ps:List (Nat×Value)},lq σ E parts ps->
  ∃ ys,Instr.fill place xs.toArray ps=some ys.toArray/\aT σ E r ys
 | [],l,r,h,xs,hd,ps,hp=>by
  simp only[vr]at h;cases h
  simp only[lq]at hp;subst hp
  exact⟨xs,rfl,hd⟩
 | (i,v)::rest,l,r,h,xs,hd,ps,hp=>by
  simp only[lq]at hp
  obtain⟨x,xs',rfl,hv,hp⟩:=hp
  simp only[vr]at h
  split at h
  ·rename_i off size vs qU hc
   split at h<;>try (cases h;done)
   rename_i gx
   split at h<;>try (cases h;done)
   rename_i l' hl'
   obtain⟨ys,h1,h2⟩:=WY hc hv
   have hs:=cU gx
   rw[<- h2.len]at hs
   obtain⟨h5,hle⟩:=uu hl' hd h2
   obtain⟨zs,h3,h4⟩:=Gn h h5 hp
   refine⟨zs,?_,h4⟩
   simp only[Instr.fill,qU,h1,List.size_toArray]
   rw[if_neg (by simp;omega)]
   have hz:=GA off ys 0 xs.toArray (by simpa using hle)
   simp only[Nat.add_zero]at hz
   rw[<- h3]
   congr 1
   apply Array.ext'
   rw[<- Array.foldl_toList,Array.toList_zipIdx]
   exact hz
  ·cases h
def Fq (P:Program) (t:TypeId) (parts:List (Nat×V)):Option (List V):=
 match P.info? t,P.underlying t with
 |some it,some (.array _ e)=>
  match it.zero,P.info? e with
  |some z,some ie=>match z.cells.toList.all lU with
   |true=>vr (fun i=>some (i*ie.size,ie.size)) (z.cells.toList.map oC) parts
   |false=>none
  |_,_=>none
 |some it,some (.struct fields)=>
  match it.zero,fields.toList.mapM (fun f=>(P.info? f.type).map fun i=>(f.offset,i.size)),mw P 20 t with
  |some z,some places,some ks=>match lf ks z.cells.toList with
   |some l=>vr (places.toArray[·]?) l parts
   |none=>none
  |_,_,_=>none
 |_,_=>none
theorem WL {P:Program} {t:TypeId} {parts:List (Nat×V)} {r:List V} (h:Fq P t parts=some r) {σ:Sg} {E:EH} {ps:List (Nat×Value)} (hp:lq σ E parts ps):
  ∃ x,(∀ W,(Instr.build t ps.toArray).run P W= .ok x W)/\Den σ E (.agg r) x:=by
 unfold Fq at h
 split at h
 ·rename_i it m e hi hu
  split at h<;>try (cases h;done)
  rename_i z ie hz Hk
  split at h<;>try (cases h;done)
  rename_i hall
  obtain⟨ys,h1,h2⟩:=Gn h (FZ σ E z.cells.toList hall) hp
  exact⟨_,fun W=>run_build W t ps.toArray ys.toArray (by simp only[Program.built,hi,hu,hz,Hk];simpa using h1),by simp only[Den];exact⟨ys,rfl,h2⟩⟩
 ·rename_i it fields hi hu
  split at h<;>try (cases h;done)
  rename_i z places ks hz qU hks
  split at h<;>try (cases h;done)
  rename_i l hl
  obtain⟨ys,h1,h2⟩:=Gn h (zm σ E hl) hp
  exact⟨_,fun W=>run_build W t ps.toArray ys.toArray (by simp only[Program.built,hi,hu,hz,qU];simpa using h1),by simp only[Den];exact⟨ys,rfl,h2⟩⟩
 ·cases h
def Cj (P:Program) (e:TypeId):Nat->List (Nat×V)->KB->(List (List D)->KB->Prop)->Prop
 |_,[],kb,K=>K [] kb
 |k,(i,v)::rest,kb,K=>match cp i k with
  |true=>cellsD P e v kb (fun ds kb'=>Cj P e (k+1) rest kb' (fun es jG=>K (ds::es) jG))
  |false=>False
theorem aeU {α:Type} {l xs ys:List α} {o:Nat} (h:o+xs.length+ys.length<=l.length):splice (splice l o xs) (o+xs.length) ys=splice l o (xs++ys):=by
 unfold splice
 have h1:(l.take o).length=o:=by simp;omega
 have e1:(l.take o++xs++l.drop (o+xs.length)).take (o+xs.length)=l.take o++xs:=by
  rw[show o+xs.length=(l.take o++xs).length by simp [h1],List.take_left]
 rw[e1]
 have e2:(l.take o++xs++l.drop (o+xs.length)).drop (o+xs.length+ys.length)=l.drop (o+xs.length+ys.length):=by
  rw[show o+xs.length+ys.length=(l.take o++xs).length+ys.length by simp [h1],List.drop_length_add_append,List.drop_drop]
  simp [h1]
 rw[e2,bn,gE]
 simp
theorem lq.mono {σ τ:Sg} {E E':EH} (hE:E.le E'):∀{vs:List (Nat×V)} {xs:List (Nat×Value)},lq σ E vs xs->lq (σ++τ) E' vs xs
 | [],_,h=>by simpa only[lq]using h
 | (i,v)::vs,_,h=>by
  simp only[lq]at h ⊢
  obtain⟨x,xs',h0,h1,h2⟩:=h
  exact⟨x,xs',h0,Den.mono hE h1,h2.mono hE⟩
theorem R0 {P:Program} {e:TypeId} {s:Nat} (hs:fA P e=some s):∀{parts:List (Nat×V)} {k:Nat} {kb:KB} {K:List (List D)->KB->Prop},Cj P e k parts kb K->∀{σ:Sg} {E:EH} {W:World},Inv σ E kb W->∀{ps:List (Nat×Value)},lq σ E parts ps->
  ∃ E' kb' l ys,Step σ E kb W σ E' kb' W/\wl s l/\l.length=parts.length/\a_ E' l.flatten ys/\K l kb'/\
   ∀(cs:Array Value),k*s+ys.length<=cs.size->Instr.fill (fun j=>some (j*s,s)) cs ps=some (splice cs.toList (k*s) ys).toArray
 | [],k,kb,K,h,σ,E,W,hi,ps,hp=>by
  simp only[lq]at hp;subst hp
  exact⟨E,kb,[],[],Step.refl hi,wl.nil,rfl,.nil,h,fun cs hc=>by simp [Instr.fill,splice]⟩
 | (i,v)::rest,k,kb,K,h,σ,E,W,hi,ps,hp=>by
  simp only[lq]at hp
  obtain⟨x,xs',rfl,hv,hp⟩:=hp
  simp only[Cj]at h
  split at h<;>try exact h.elim
  rename_i hb
  have hik:=cU hb
  subst hik
  obtain⟨E1,eH,ds,xs,s1,hc,hD,h,hn⟩:=vd h hi hv
  rw[hs]at hn
  have hn:=bb.inj hn
  have nJ:=hp.mono (τ:=[]) s1.le
  rw[fD]at nJ
  obtain⟨E2,bE,l,ys,s2,hw,hl,sC,hK,hf⟩:=R0 hs h s1.inv nJ
  have hdl:=hD.len
  refine⟨E2,bE,ds::l,xs++ys,s1.trans s2,fun e he=>?_,by simp [hl],?_,hK,fun cs hcs=>?_⟩
  ·rcases ey.1 he with rfl | he
   ·omega
   ·exact hw e he
  ·rw[jm];exact(hD.mono s2.le).append sC
  ·simp only[bn]at hcs
   simp only[Instr.fill,hc,List.size_toArray]
   rw[if_neg (by simp;omega)]
   have hz:=GA (i*s) xs 0 cs (by omega)
   simp only[Nat.add_zero]at hz
   have ez:(Array.foldl (fun cs x=>cs.setIfInBounds (i*s+x.2) x.1) cs (Array.zipIdx xs.toArray))=(splice cs.toList (i*s) xs).toArray:=by
    apply Array.ext'
    rw[<- Array.foldl_toList,Array.toList_zipIdx]
    exact hz
   have jF:(splice cs.toList (i*s) xs).length=cs.size:=by rw[mF (by simp;omega)];simp
   have hf':=hf (splice cs.toList (i*s) xs).toArray (by rw[List.size_toArray,jF,Nat.succ_mul];omega)
   have e1:(i+1)*s=i*s+xs.length:=by rw[Nat.succ_mul];omega
   rw[e1,List.toList_toArray,aeU (by simp;omega)]at hf'
   rw[<- hf']
   congr 1
def Fp (P:Program) (t:TypeId) (len:Nat) (parts:List (Nat×V)) (kb:KB) (K:V->KB->Prop):Prop:=
 match P.underlying t with
 |some (.slice elem)=>
  match P.info? elem with
  |some i=>
   match i.zero,i.size with
   |some z,s+1=>
    match Nat.ble (len*(s+1)) 16777216,cp z.cells.size (s+1),cp parts.length len with
    |true,true,true=>Cj P elem 0 parts kb (fun l kb'=>K (.sl kb'.length 0 len) (kb'++[.row elem (s+1) l]))
    |_,_,_=>False
   |_,_=>False
  |none=>False
 |_=>False
theorem WK {P:Program} {t:TypeId} {len:Nat} {parts:List (Nat×V)} {kb:KB} {K:V->KB->Prop} (h:Fp P t len parts kb K) {σ:Sg} {E:EH} {W:World} (hi:Inv σ E kb W) {ps:List (Nat×Value)}
  (hp:lq σ E parts ps):∃ v x σ' E' kb' W',(Instr.buildSlice t len ps.toArray).run P W= .ok x W'/\Step σ E kb W σ' E' kb' W'/\Den σ' E' v x/\K v kb':=by
 unfold Fp at h
 split at h<;>try exact h.elim
 rename_i elem ht
 split at h<;>try exact h.elim
 rename_i i lA
 split at h<;>try exact h.elim
 rename_i z s hz hs
 split at h<;>try exact h.elim
 rename_i gx fx YP
 have hle:=Nat.le_of_ble_eq_true gx
 have hcl:=cU fx
 have qU:=cU YP
 have hts:fA P elem=some (s+1):=by simp [fA,lA,hs]
 obtain⟨E1,eH,l,ys,s1,hw,hl,hD,hK,hf⟩:=R0 hts h hi hp
 have jo:ys.length=len*(s+1):=by rw[hD.len,o9 hw,hl,qU]
 have xW:len<=len*(s+1):=Nat.le_mul_of_pos_right _ (Nat.succ_pos s)
 have hrun:(Instr.buildSlice t len ps.toArray).run P W= .ok (.slice (some ⟨W.heap.size,0,none⟩) len len) (W.alloc (.cells ys.toArray elem)):=by
  have Pe:Instr.fill (fun j=>some (j*(s+1),s+1)) ((Array.range (len*(s+1))).map (z.cells[·% z.cells.size]!)) ps=some ys.toArray:=by
   rw[hf _ (by simp;omega)]
   simp only[Nat.zero_mul,splice,List.take_zero,jV]
   rw[List.drop_eq_nil_of_le (by simp;omega),fD]
  by_cases hl0:len*(s+1)=0
  ·have e0:((Array.range (len*(s+1))).map (fun(x:Nat)=>(#[]:Array Value)[x % (#[]:Array Value).size]!))=((Array.range (len*(s+1))).map (z.cells[·% z.cells.size]!)):=by rw[hl0];apply Array.ext';simp
   have hn:¬ len*(s+1) > 2 ^ 24:=by omega
   unfold Instr.buildSlice
   rw[Sem.run_bind,run_underlying ht,Result.andThen_ok]
   simp only[]
   rw[Sem.run_bind,show(Go.sizeOf elem).run P W= .ok (s+1) W by simp [Go.sizeOf,typeInfo,lA,hs],Result.andThen_ok]
   simp only[hn,if_false]
   rw[if_pos hl0,Sem.run_bind,Sem.run_pure,Result.andThen_ok]
   simp only[e0,Pe]
   simp [newRow]
  ·have hn:¬ len*(s+1) > 2 ^ 24:=by omega
   unfold Instr.buildSlice
   rw[Sem.run_bind,run_underlying ht,Result.andThen_ok]
   simp only[]
   rw[Sem.run_bind,show(Go.sizeOf elem).run P W= .ok (s+1) W by simp [Go.sizeOf,typeInfo,lA,hs],Result.andThen_ok]
   simp only[hn,if_false]
   rw[if_neg hl0,Sem.run_bind,show(zeroValue elem).run P W= .ok z W by simp [zeroValue,typeInfo,lA,hz],Result.andThen_ok,Sem.run_bind,Sem.run_pure,Result.andThen_ok]
   simp only[Pe]
   simp [newRow]
 have hst:Step σ E1 eH W (σ++[⟨W.heap.size,len,s+1⟩]) E1 (eH++[.row elem (s+1) l]) (W.alloc (.cells ys.toArray elem)):=
  My s1.inv hw (by omega) (by simp only[maxLen];omega) (by simpa using jo) (by rw[eM (by rw[hl,qU];simp;omega)];exact hD)
 exact⟨_,_,_,_,_,_,hrun,s1.trans hst,by simp only[Den];exact⟨⟨W.heap.size,len,s+1⟩,_,by rw[<- s1.inv.len];simp,rfl,by simp,by simp,by simp⟩,hK⟩
abbrev ML:=List (List Int×List D)
def bH:ML->List Int->Option (List D)
 | [],_=>none
 | (a,c)::l,n=>if n=a then some c else bH l n
def bF:ML->List Int->List D->ML
 | [],n,v=>[(n,v)]
 | (a,c)::l,n,v=>if n=a then(a,v)::l else(a,c)::bF l n v
def oL:ML->List Int->ML
 | [],_=>[]
 | (a,c)::l,n=>if n=a then l else(a,c)::oL l n
def mix:ML->List Int->Option Nat
 | [],_=>none
 | (a,c)::l,n=>if n=a then some 0 else(mix l n).map (·+1)
theorem BV:∀{l:ML} {n:List Int},mix l n=none->bH l n=none/\(∀ v,bF l n v=l++[(n,v)])/\oL l n=l
 | [],n,_=>⟨rfl,fun v=>rfl,rfl⟩
 | (a,c)::l,n,h=>by
  simp only[mix]at h
  split at h
  ·cases h
  ·rename_i hne
   simp only[Option.map_eq_none_iff]at h
   obtain⟨h1,h2,h3⟩:=BV h
   exact⟨by simp [bH,hne,h1],fun v=>by simp [bF,hne,h2 v],by simp [oL,hne,h3]⟩
theorem BW:∀{l:ML} {n:List Int} {j:Nat},mix l n=some j->∃ c,l[j]? =some (n,c)/\bH l n=some c/\(∀ v,bF l n v=l.set j (n,v))/\oL l n=l.eraseIdx j
 | [],n,j,h=>by cases h
 | (a,c)::l,n,j,h=>by
  simp only[mix]at h
  split at h
  ·rename_i he
   cases h
   exact⟨c,by simp [he],by simp [bH,he],fun v=>by simp [bF,he],by simp [oL,he]⟩
  ·rename_i hne
   simp only[Option.map_eq_some_iff]at h
   obtain⟨k,hk,rfl⟩:=h
   obtain⟨d,h1,h2,h3,h4⟩:=BW hk
   exact⟨d,by simpa using h1,by simp [bH,hne,h2],fun v=>by simp [bF,hne,h3 v],by simp [oL,hne,h4]⟩
def qN (P:Program):Nat->List Field->List IntKind->Bool
 |_,[],[]=>true
 |o,f::fs,k::ks=>match f.name == "_",cp f.offset o,P.underlying f.type,np P f.type with
  |false,true,some (.int _),some false=>qN P (o+1) fs ks
  |_,_,_,_=>false
 |_,_,_=>false
def lE (P:Program) (kt:TypeId) (aA:List IntKind):Bool->Bool
 |false=>match P.underlying kt,aA with | some (.int _),[_]=>true | _,_=>false
 |true=>match P.underlying kt with
  |some (.struct fs)=>match P.stoodInHeld kt with | false=>qN P 0 fs.toList aA | true=>false
  |_=>false
theorem N9 {P:Program} {d:Nat} (W:World):∀{fs:List Field} {aA:List IntKind} {o:Nat},qN P o fs aA=true->∀{k k':List Int},k.length=aA.length->k'.length=aA.length->∀{pre pre':List Value},pre.length=o->pre'.length=o->
  (Op.eqFields (d+1) (pre++dC aA k).toArray (pre'++dC aA k').toArray fs).run P W= .ok (decide (k=k')) W
 | [],[],o,h,k,k',hk,hk',pre,pre',hp,nJ=>by
  have h1:k=[]:=ma hk
  have h2:k'=[]:=ma hk'
  subst h1;subst h2
  simp [Op.eqFields]
 | [],_:: _,o,h,_,_,_,_,_,_,_,_=>by simp [qN]at h
 |_:: _,[],o,h,_,_,_,_,_,_,_,_=>by simp [qN]at h
 |f::fs,kk::aA,o,h,k,k',hk,hk',pre,pre',hp,nJ=>by
  simp only[qN]at h
  split at h<;>try (cases h;done)
  rename_i q hn ho hu ha
  have ho:=cU ho
  have hn':¬ f.name="_":=by simpa using hn
  match k,k',hk,hk' with
  |a::k,b::k',hk,hk'=>
   have e1:(pre++dC (kk::aA) (a::k))=(pre++[.int kk a])++dC aA k:=by simp [dC]
   have e2:(pre'++dC (kk::aA) (b::k'))=(pre'++[.int kk b])++dC aA k':=by simp [dC]
   have ih:=N9 (d:=d) W h (k:=k) (k':=k') (by simpa using hk) (by simpa using hk') (pre:=pre++[.int kk a]) (pre':=pre'++[.int kk b]) (by simp [hp]) (by simp [nJ])
   have p1:(part f.type (pre++dC (kk::aA) (a::k)).toArray f.offset).run P W= .ok (.int kk a) W:=by
    simp [part,sV ha,ho,<- hp,dC]
   have p2:(part f.type (pre'++dC (kk::aA) (b::k')).toArray f.offset).run P W= .ok (.int kk b) W:=by
    simp [part,sV ha,ho,<- nJ,dC]
   have heq:=run_equalIn_int W d f.type kk q a b hu
   simp only[Op.eqFields,ne_eq,hn',not_false_eq_true,if_true,Sem.run_bind,p1,p2,heq,Result.andThen_ok]
   by_cases hab:a=b
   ·subst hab
    rw[e1,e2]
    simpa using ih
   ·have hb:(a == b)=false:=by simpa using hab
    simp [hb,hab]
theorem aai {P:Program} {kt:TypeId} {aA:List IntKind} (h:lE P kt aA true=true) {k k':List Int} (hk:k.length=aA.length) (hk':k'.length=aA.length) (W:World):
  (Op.equal kt (dJ true (dC aA k)) (dJ true (dC aA k'))).run P W= .ok (decide (k=k')) W:=by
 simp only[lE]at h
 split at h<;>try (cases h;done)
 rename_i fs hu
 split at h<;>try (cases h;done)
 rename_i hst
 have hf:P.fieldsOf kt=fs:=by simp [Program.fieldsOf,hu]
 show(Op.equalIn (9998+1+1) kt _ _).run P W=_
 simp only[dJ,if_true]
 rw[run_equalIn_struct W (9998+1) kt _ _ (by rw[hf];exact hu) hst,hf]
 exact N9 (d:=9998) W h hk hk' (pre:=[]) (pre':=[]) rfl rfl
theorem N8 {P:Program} {b:Bool} {d:Nat} (W:World) {HS:List IntKind} {k0:List Int}:∀{fs:List Field} {aA:List IntKind} {o:Nat},qN P o fs aA=true->∀{k:List Int},k.length=aA.length->∀{pre:List Value},pre.length=o->dC HS k0=pre++dC aA k->
  (forIn (m:=Sem) fs PUnit.unit fun f r=>do
   if f.name≠"_" then do
    Instr.checkKey b (d+1) f.type (<- part f.type (dC HS k0).toArray f.offset)
    pure (.yield PUnit.unit)
   else pure (.yield PUnit.unit)).run P W= .ok PUnit.unit W
 | [],aA,o,h,k,hk,pre,hp,he=>by simp
 |_:: _,[],o,h,_,_,_,_,_=>by simp [qN]at h
 |f::fs,kk::aA,o,h,k,hk,pre,hp,he=>by
  simp only[qN]at h
  split at h<;>try (cases h;done)
  rename_i q hn ho hu ha
  have ho:=cU ho
  have hn':¬ f.name="_":=by simpa using hn
  match k,hk with
  |a::k,hk=>
   have p1:(part f.type (dC HS k0).toArray f.offset).run P W= .ok (.int kk a) W:=by
    rw[he];simp [part,sV ha,ho,<- hp,dC]
   have hc:(Instr.checkKey b (d+1) f.type (.int kk a)).run P W= .ok () W:=by
    unfold Instr.checkKey
    rw[Sem.run_bind,run_underlying hu,Result.andThen_ok]
    rfl
   have ih:=N8 (b:=b) (d:=d) W h (k:=k) (by simpa using hk) (pre:=pre++[.int kk a]) (by simp [hp]) (by rw[he];simp [dC])
   simp only[List.forIn_cons,ne_eq,hn',not_false_eq_true,if_true,Sem.run_bind,p1,hc,Result.andThen_ok,Sem.run_pure]
   simpa using ih
theorem run_checkKey {P:Program} {kt:TypeId} {aA:List IntKind} {aS:Bool} (h:lE P kt aA aS=true) {k:List Int} (hk:k.length=aA.length) (b:Bool) (W:World):(Instr.checkKey b 10000 kt (dJ aS (dC aA k))).run P W= .ok () W:=by
 show(Instr.checkKey b (9998+1+1) kt _).run P W= .ok () W
 cases aS with
 |false=>
  simp only[lE]at h
  split at h<;>try (cases h;done)
  rename_i q kk hu
  match k,hk with
  | [a],_=>
   unfold Instr.checkKey
   rw[Sem.run_bind,run_underlying hu,Result.andThen_ok]
   rfl
 |true=>
  simp only[lE]at h
  split at h<;>try (cases h;done)
  rename_i fs hu
  split at h<;>try (cases h;done)
  unfold Instr.checkKey
  rw[Sem.run_bind,run_underlying hu,Result.andThen_ok]
  simp only[dJ,if_true]
  have:=N8 (b:=b) (d:=9998) W h hk (pre:=[]) rfl rfl
  rw[Sem.run_bind,<- Array.forIn_toList,this]
  rfl
theorem Oc {E:EH} {kk kt:IntKind} {agg:Bool} {n:Int}:∀{l:ML} {es:List MapEntry},ct E [kk] false agg es l->∀ i,
  (mix l [n]=none/\Instr.findNow (.int kt) (.int kk n) es i=some none)∨∃ j c e,mix l [n]=some j/\l[j]? =some ([n],c)/\es[j]? =some e/\Instr.findNow (.int kt) (.int kk n) es i=some (some (i+j,e.val))
 |l,[],h,i=>by
  simp only[ct]at h
  subst h
  exact .inl ⟨rfl,rfl⟩
 |l,e::es,h,i=>by
  simp only[ct]at h
  obtain⟨k,c,l',rfl,⟨iQ,hk,_⟩,h3⟩:=h
  match k,iQ with
  | [a],_=>
  have h1:e.key= .int kk a:=by simpa [dJ,dC]using hk
  by_cases he:n=a
  ·right
   refine⟨0,c,e,by simp [mix,he],by simp [he],rfl,?_⟩
   simp [Instr.findNow,Instr.sameNow,h1,he]
  ·have hb:(n == a)=false:=by simpa using he
   have:=Oc (n:=n) (kt:=kt) h3 (i+1)
   rcases this with ⟨k1,k2⟩ | ⟨j,d,e',k1,k2,k3,k4⟩
   ·exact .inl ⟨by simp [mix,he,k1],by simp [Instr.findNow,Instr.sameNow,h1,hb,k2]⟩
   ·exact .inr ⟨j+1,d,e',by simp [mix,he,k1],by simpa using k2,by simpa using k3,by simp [Instr.findNow,Instr.sameNow,h1,hb,k4];omega⟩
theorem Ob {P:Program} {E:EH} {kt:TypeId} {aA:List IntKind} {agg:Bool} (hkb:lE P kt aA true=true) {n:List Int} (hn:n.length=aA.length) (W:World):∀{l:ML} {es:List MapEntry},ct E aA true agg es l->∀ i,
  (mix l n=none/\(Instr.findAsking kt (dJ true (dC aA n)) es i).run P W= .ok none W)∨∃ j c e,mix l n=some j/\l[j]? =some (n,c)/\es[j]? =some e/\(Instr.findAsking kt (dJ true (dC aA n)) es i).run P W= .ok (some (i+j,e.val)) W
 |l,[],h,i=>by
  simp only[ct]at h
  subst h
  exact .inl ⟨rfl,rfl⟩
 |l,e::es,h,i=>by
  simp only[ct]at h
  obtain⟨k,c,l',rfl,⟨iQ,hk,_⟩,h3⟩:=h
  have heq:=aai hkb hn iQ W
  rw[<- hk]at heq
  by_cases he:n=k
  ·right
   refine⟨0,c,e,by simp [mix,he],by simp [he],rfl,?_⟩
   simp only[Instr.findAsking,Sem.run_bind,heq,Result.andThen_ok]
   simp [he]
  ·have:=Ob hkb hn W h3 (i+1)
   rcases this with ⟨k1,k2⟩ | ⟨j,d,e',k1,k2,k3,k4⟩
   ·refine .inl ⟨by simp [mix,he,k1],?_⟩
    simp only[Instr.findAsking,Sem.run_bind,heq,Result.andThen_ok]
    simpa [he]using k2
   ·refine .inr ⟨j+1,d,e',by simp [mix,he,k1],by simpa using k2,by simpa using k3,?_⟩
    simp only[Instr.findAsking,Sem.run_bind,heq,Result.andThen_ok]
    rw[show i+(j+1)=i+1+j by omega]
    simpa [he]using k4
theorem Gq {P:Program} {E:EH} {kt:TypeId} {aA:List IntKind} {aS agg:Bool} (hkb:lE P kt aA aS=true) {n:List Int} (hn:n.length=aA.length) (W:World) {l:ML} {es:List MapEntry} (h:ct E aA aS agg es l):
  (mix l n=none/\(Instr.findKey kt (dJ aS (dC aA n)) es).run P W= .ok none W)∨∃ j c e,mix l n=some j/\l[j]? =some (n,c)/\es[j]? =some e/\(Instr.findKey kt (dJ aS (dC aA n)) es).run P W= .ok (some (j,e.val)) W:=by
 cases aS with
 |false=>
  have hkb':=hkb
  simp only[lE]at hkb'
  split at hkb'<;>try (cases hkb';done)
  rename_i q kk hu
  match n,hn with
  | [a],_=>
   have e0:dJ false (dC [kk] [a])= .int kk a:=rfl
   rw[e0]
   rcases Oc (kt:=q) (n:=a) h 0 with ⟨q1,q2⟩ | ⟨j,c,e,q1,q2,q3,q4⟩
   ·exact .inl ⟨q1,by simp [Instr.findKey,run_underlying hu,q2]⟩
   ·exact .inr ⟨j,c,e,q1,q2,q3,by simp [Instr.findKey,run_underlying hu,q4]⟩
 |true=>
  have hkb':=hkb
  simp only[lE]at hkb'
  split at hkb'<;>try (cases hkb';done)
  rename_i fs hu
  cases es with
  |nil=>
   simp only[ct]at h
   subst h
   exact .inl ⟨rfl,by simp [Instr.findKey,run_underlying hu,Instr.findNow]⟩
  |cons e es=>
   have hnone:Instr.findNow (.struct fs) (dJ true (dC aA n)) (e::es) 0=none:=by
    simp only[ct]at h
    obtain⟨k,c,l',rfl,⟨_,hk,_⟩,_⟩:=h
    simp [Instr.findNow,Instr.sameNow]
   rcases Ob hkb hn W h 0 with ⟨q1,q2⟩ | ⟨j,c,e',q1,q2,q3,q4⟩
   ·exact .inl ⟨q1,by simp [Instr.findKey,run_underlying hu,hnone,q2]⟩
   ·exact .inr ⟨j,c,e',q1,q2,q3,by simp [Instr.findKey,run_underlying hu,hnone,q4]⟩
def ra:List V->Option (List IntKind×List Int)
 | []=>some ([],[])
 | .int k n::vs=>match ra vs with | some (ks,ns)=>some (k::ks,n::ns) | none=>none
 | .lit k n::vs=>match ra vs with | some (ks,ns)=>some (k::ks,n::ns) | none=>none
 |_=>none
theorem PL:∀{vs:List V} {ks:List IntKind} {ns:List Int},ra vs=some (ks,ns)->∀{σ:Sg} {E:EH} {xs:List Value},aT σ E vs xs->ns.length=ks.length/\xs=dC ks ns
 | [],ks,ns,h,σ,E,xs,hd=>by
  simp [ra]at h
  obtain⟨rfl,rfl⟩:=h
  simp only[aT]at hd
  exact⟨rfl,hd⟩
 |v::vs,ks,ns,h,σ,E,xs,hd=>by
  obtain⟨ys,zs,rfl,h1,h2⟩:=hd.io
  have main:∀{k:IntKind} {n:Int},(∀ y,Den σ E v y->y= .int k n)->(∀ m cs,v≠.arr m cs)->(match ra vs with | some (ks,ns)=>some (k::ks,n::ns) | none=>none)=some (ks,ns)->ns.length=ks.length/\ys++zs=dC ks ns:=by
   intro k n hv hna h
   split at h<;>try (cases h;done)
   rename_i ks' ns' hi
   simp only[bb.injEq,Prod.mk.injEq]at h
   obtain⟨rfl,rfl⟩:=h
   obtain⟨h3,rfl⟩:=PL hi h2
   rcases h1 with ⟨y,rfl,_,hy⟩ | ⟨m,cs,e,_,_⟩
   ·rw[hv y hy];exact⟨by simp [h3],rfl⟩
   ·exact(hna m cs e).elim
  cases v with
  |int k n=>exact main (fun y hy=>by simpa only[Den]using hy) (fun _ _ h=>by cases h) (by simpa only[ra]using h)
  |lit k n=>exact main (fun y hy=>by simpa only[Den]using hy) (fun _ _ h=>by cases h) (by simpa only[ra]using h)
  |_=>simp [ra]at h
def x6:V->Option (Bool×List IntKind×List Int)
 | .int k n=>some (false,[k],[n])
 | .lit k n=>some (false,[k],[n])
 | .agg l=>match ra l with | some (ks,ns)=>some (true,ks,ns) | none=>none
 |_=>none
theorem HQ {v:V} {b:Bool} {ks:List IntKind} {ns:List Int} (h:x6 v=some (b,ks,ns)) {σ:Sg} {E:EH} {x:Value} (hd:Den σ E v x):ns.length=ks.length/\x=dJ b (dC ks ns):=by
 unfold x6 at h
 split at h
 ·simp only[bb.injEq,Prod.mk.injEq]at h
  obtain⟨rfl,rfl,rfl⟩:=h
  exact⟨rfl,by simpa [Den,dJ,dC]using hd⟩
 ·simp only[bb.injEq,Prod.mk.injEq]at h
  obtain⟨rfl,rfl,rfl⟩:=h
  exact⟨rfl,by simpa [Den,dJ,dC]using hd⟩
 ·split at h<;>try (cases h;done)
  rename_i l ks' ns' hi
  simp only[bb.injEq,Prod.mk.injEq]at h
  obtain⟨rfl,rfl,rfl⟩:=h
  simp only[Den]at hd
  obtain⟨xs,rfl,hD⟩:=hd
  obtain⟨h1,rfl⟩:=PL hi hD
  exact⟨h1,by simp [dJ]⟩
 ·cases h
def pz:List IntKind->List IntKind->Bool
 | [],[]=>true
 |a::l,b::m=>match decide (a=b)with | true=>pz l m | false=>false
 |_,_=>false
theorem x7:∀{l m:List IntKind},pz l m=true->l=m
 | [],[],_=>rfl
 |a::l,b::m,h=>by
  simp only[pz]at h
  split at h
  ·rename_i e;rw[of_decide_eq_true e,x7 h]
  ·cases h
 | [],_:: _,h=>by simp [pz]at h
 |_:: _,[],h=>by simp [pz]at h
def ug (P:Program) (t:TypeId):Option (TypeId×TypeId):=
 match P.underlying t with
 |some (.map kt et)=>some (kt,et)
 |_=>none
theorem BS {P:Program} {t kt et:TypeId} (h:ug P t=some (kt,et)):P.underlying t=some (.map kt et):=by
 unfold ug at h
 split at h
 ·rename_i kt' et' h1
  cases h;exact h1
 ·cases h
def ul (ok:Bool) (v:V) (b:Bool):V:=match ok with | true=> .υ [v,match b with | true=> .tt | false=> .ff] | false=>v
theorem yt {σ:Sg} {E:EH} {v:V} {x:Value} (h:Den σ E v x) (ok b:Bool):Den σ E (ul ok v b) (if ok then .tuple #[x,.bool b]else x):=by
 cases ok with
 |false=>exact h
 |true=>
  simp only[ul,Den,if_true]
  refine⟨[x,.bool b],rfl,.cons h (.cons ?_ .nil)⟩
  cases b<;>simp [Den]
def wM (P:Program) (et:TypeId) (agg:Bool) (K:V->Prop):Prop:=
 match (P.info? et).bind (·.zero),mw P 20 et with
 |some z,some ks=>match agg,z with
  |true,.agg cs=>match lf ks cs.toList with | some vs=>K (.agg vs) | none=>False
  |false,_=>K (tH z)
  |_,_=>False
 |_,_=>False
theorem DE {P:Program} {et:TypeId} {agg:Bool} {K:V->Prop} (h:wM P et agg K) (σ:Sg) (E:EH) (W:World):∃ v z,(zeroValue et).run P W= .ok z W/\Den σ E v z/\K v:=by
 unfold wM at h
 split at h<;>try exact h.elim
 rename_i z ks hz hks
 obtain⟨it,hit,nK⟩:=kP.1 hz
 have hzero:(zeroValue et).run P W= .ok z W:=by simp [zeroValue,typeInfo,hit,nK]
 split at h
 ·split at h<;>try exact h.elim
  rename_i vs hvs
  exact⟨_,_,hzero,by simp only[Den];exact⟨_,by simp,zm σ E hvs⟩,h⟩
 ·exact⟨_,_,hzero,NB σ E _,h⟩
 ·exact h.elim
def iv:D->Int
 | .val (.int _ n)=>n
 |_=>0
def bv:D->Bool
 | .val (.bool b)=>b
 |_=>false
def sv:D->List (List D)
 | .sl _ l=>l
 |_=>[]
def dX (l:ML) (n:List Int) (j:Nat):Int:=match bH l n with | some cs=>iv (cs[j]?.getD (.val (.bool false))) | none=>0
def ij (l:ML) (n:List Int) (j:Nat):Bool:=match bH l n with | some cs=>bv (cs[j]?.getD (.val (.int Z 0))) | none=>false
def Il (l:ML) (n:List Int) (j:Nat):List (List D):=match bH l n with | some cs=>sv (cs[j]?.getD (.val (.int Z 0))) | none=>[]
def mA (l:ML) (n:List Int):Bool:=match bH l n with | some _=>true | none=>false
def gp:List CK->List D->Prop
 | [],ds=>ds=[]
 | .int k::ks,ds=>∃ n ds',ds= .val (.int k n)::ds'/\gp ks ds'
 | .bool::ks,ds=>∃ b ds',ds= .val (.bool b)::ds'/\gp ks ds'
 | .sl s::ks,ds=>∃ l ds',ds= .sl s l::ds'/\gp ks ds'
 |_:: _,_=>False
def CR:List CK->Bool
 | []=>true
 | .int _::ks=>CR ks
 | .bool::ks=>CR ks
 | .sl _::ks=>CR ks
 |_:: _=>false
def qw (l:ML) (n:List Int):Nat->List CK->List V
 |_,[]=>[]
 |j,.int k::ks=> .int k (dX l n j)::qw l n (j+1) ks
 |j,.bool::ks=> .sb (ij l n j)::qw l n (j+1) ks
 |j,.sl s::ks=> .dat (.sl s (Il l n j))::qw l n (j+1) ks
 |j,_::ks=>qw l n (j+1) ks
def nv:List CK->List Value->Bool
 | [],[]=>true
 | .int k::ks,.int k' n::cs=>decide (k=k') && decide (n=0) && nv ks cs
 | .bool::ks,.bool b::cs=> !b && nv ks cs
 | .sl _::ks,.slice none 0 0::cs=>nv ks cs
 |_,_=>false
theorem UE (σ:Sg) {E:EH} {l:ML} {n:List Int} {cs0:List D} (hm:bH l n=some cs0):∀{ks:List CK} {cs:List D} {j:Nat},(∀ i,cs[i]? =cs0[j+i]?)->gp ks cs->∀{ys:List Value},a_ E cs ys->aT σ E (qw l n j ks) ys
 | [],cs,j,hj,hc,ys,hd=>by
  simp only[gp]at hc
  subst hc
  simp only[a_]at hd
  subst hd
  exact .nil
 |k::ks,cs,j,hj,hc,ys,hd=>by
  have next:∀{d:D} {ds':List D} {v:V},cs=d::ds'->gp ks ds'->(∀ x,bK E d x->Den σ E v x)->qw l n j (k::ks)=v::qw l n (j+1) ks->aT σ E (qw l n j (k::ks)) ys:=by
   rintro d ds' v rfl eY hv he
   simp only[a_]at hd
   obtain⟨x,xs,rfl,h1,h2⟩:=hd
   rw[he]
   exact .jc (hv x h1) h1.one (UE σ hm (fun i=>by have:=hj (i+1);rw[show j+1+i=j+(i+1) by omega,<- this];simp) eY h2)
  have h0:=hj 0
  simp only[Nat.add_zero]at h0
  cases k with
  |int kk=>
   simp only[gp]at hc
   obtain⟨m,ds',rfl,eY⟩:=hc
   refine next rfl eY (fun x hx=>?_) rfl
   simp only[bK]at hx
   simp only[Den,hx.1,dX,hm,<- h0]
   rfl
  |bool=>
   simp only[gp]at hc
   obtain⟨m,ds',rfl,eY⟩:=hc
   refine next rfl eY (fun x hx=>?_) rfl
   simp only[bK]at hx
   simp only[Den,hx.1,ij,hm,<- h0]
   rfl
  |sl s=>
   simp only[gp]at hc
   obtain⟨m,ds',rfl,eY⟩:=hc
   refine next rfl eY (fun x hx=>?_) rfl
   simp only[Den,Il,hm,<- h0]
   exact hx
  |other=>exact hc.elim
  |arr m z=>exact hc.elim
theorem Dj (σ:Sg) (E:EH) {l:ML} {n:List Int} (hm:bH l n=none):∀{ks:List CK} {cs:List Value} {j:Nat},nv ks cs=true->aT σ E (qw l n j ks) cs
 | [],[],j,_=> .nil
 | [],_:: _,j,h=>by simp [nv]at h
 | .int kk::ks,[],j,h=>by simp [nv]at h
 | .bool::ks,[],j,h=>by simp [nv]at h
 | .sl s::ks,[],j,h=>by simp [nv]at h
 | .other::ks,cs,j,h=>by simp [nv]at h
 | .arr m z::ks,cs,j,h=>by simp [nv]at h
 | .int kk::ks,c::cs,j,h=>by
  cases c<;>simp only[nv,km,decide_eq_true_eq,Bool.false_eq_true]at h
  obtain⟨⟨rfl,rfl⟩,h⟩:=h
  exact .jc (by simp [Den,dX,hm]) rfl (Dj σ E hm h)
 | .bool::ks,c::cs,j,h=>by
  cases c<;>simp only[nv,km,lR,Bool.false_eq_true]at h
  obtain⟨rfl,h⟩:=h
  exact .jc (by simp [Den,ij,hm]) rfl (Dj σ E hm h)
 | .sl s::ks,c::cs,j,h=>by
  unfold nv at h
  split at h
  ·rename_i e _;cases e
  ·rename_i e _;cases e
  ·rename_i e _;cases e
  ·rename_i e1 e2
   cases e1;cases e2
   exact .jc (by simp only[Den,Il,hm,bK];exact⟨none,0,rfl,av _,.inl rfl⟩) rfl (Dj σ E hm h)
  ·cases h
def I5 (ok:Bool) (v b:V):V:=match ok with | true=> .υ [v,b] | false=>v
theorem Rx {σ:Sg} {E:EH} {v u:V} {x:Value} {b:Bool} (h:Den σ E v x) (hb:Den σ E u (.bool b)) (ok:Bool):Den σ E (I5 ok v u) (if ok then .tuple #[x,.bool b]else x):=by
 cases ok with
 |false=>exact h
 |true=>
  simp only[I5,Den,if_true]
  exact⟨[x,.bool b],rfl,.cons h (.cons hb .nil)⟩
def Ye (P:Program) (t:TypeId):Bool:=match P.underlying t with | some (.func ..)=>true | _=>false
def Gy:List D->Option FuncId
 | [.val (.func (.func f) ⟨[]⟩ ⟨[]⟩)]=>some f
 |_=>none
def AR:ML->List Int->(List D->Prop)->Prop->Prop
 | [],_,_,N=>N
 | (a,c)::l,ns,F,N=>(ns=a->F c)/\((ns=a->False)->AR l ns F N)
theorem N2:∀{l:ML} {ns:List Int} {F:List D->Prop} {N:Prop},AR l ns F N->∀{c:List D},bH l ns=some c->F c
 | [],_,_,_,_,_,h=>by simp [bH]at h
 | (a,c)::l,ns,F,N,h,c',hc=>by
  simp only[bH]at hc
  split at hc
  ·cases hc;rename_i e;exact h.1 e
  ·rename_i e;exact N2 (h.2 e) hc
theorem N1:∀{l:ML} {ns:List Int} {F:List D->Prop} {N:Prop},AR l ns F N->bH l ns=none->N
 | [],_,_,_,h,_=>h
 | (a,c)::l,ns,F,N,h,hc=>by
  simp only[bH]at hc
  split at hc
  ·cases hc
  ·rename_i e;exact N1 (h.2 e) hc
theorem X8 {c:List D} {f:FuncId} (h:Gy c=some f) {E:EH} {ys:List Value} (hd:a_ E c ys):ys=[.func (.func f) #[] #[]]:=by
 unfold Gy at h
 split at h<;>try (cases h;done)
 cases h
 simp only[a_,bK]at hd
 obtain⟨x,xs,rfl,⟨rfl,_⟩,rfl⟩:=hd
 rfl
def BQ (P:Program) (et:TypeId) (agg:Bool) (fU:List CK) (ns:List Int) (ok:Bool) (l:ML) (K:V->Prop):Prop:=
 match CR fU,(P.info? et).bind (·.zero)with
 |true,some z=>match nv fU z.cells.toList,(match z with | .agg _=>agg | _=> !agg)with
  |true,true=>(∀ cs,bH l ns=some cs->gp fU cs)/\oV agg (qw l ns 0 fU) (fun v=>K (I5 ok v (.sb (mA l ns))))
  |_,_=>False
 |_,_=>match Ye P et,agg with
  |true,false=>AR l ns (fun c=>match Gy c with | some f=>K (ul ok (.fn f []) true) | none=>False) (wM P et agg (fun v=>K (ul ok v false)))
  |_,_=>(∀ cs,bH l ns=some cs->m_ cs 0 fU (fun vs=>oV agg vs (fun v=>K (ul ok v true))))/\(bH l ns=none->wM P et agg (fun v=>K (ul ok v false)))
def BR (P:Program) (t:TypeId) (m k:V) (ok:Bool) (kb:KB) (K:V->Prop):Prop:=
 match ug P t,x6 k with
 |some (kt,et),some (ka,ks,ns)=>
  match np P et,mw P 20 et,lE P kt ks ka with
  |some agg,some fU,true=>
   match m with
   | .mp i=>match kb[i]? with
    |some (.mp aA aS iA sz l)=>
     match pz ks aA,(ka == aS),(agg == iA),cp (wk fU) sz with
     |true,true,true,true=>BQ P et agg fU ns ok l K
     |_,_,_,_=>False
    |_=>False
   | .imp aA aS iA sz l=>
    match pz ks aA,(ka == aS),(agg == iA),cp (wk fU) sz with
    |true,true,true,true=>BQ P et agg fU ns ok l K
    |_,_,_,_=>False
   | .any (.map none)=>wM P et agg (fun v=>K (ul ok v false))
   |_=>False
  |_,_,_=>False
 |_,_=>False
theorem ct.at {E:EH} {aA:List IntKind} {aS agg:Bool}:∀{es:List MapEntry} {l:ML},ct E aA aS agg es l->∀{j:Nat} {p:List Int×List D},l[j]? =some p->∃ e,es[j]? =some e/\p.1.length=aA.length/\e.key=dJ aS (dC aA p.1)/\∃ ys,e.val=dJ agg ys/\a_ E p.2 ys
 | [],l,h,j,p,hj=>by simp only[ct]at h;subst h;simp at hj
 |e::es,l,h,j,p,hj=>by
  simp only[ct]at h
  obtain⟨k,c,l',rfl,h1,h2⟩:=h
  cases j with
  |zero=>simp at hj;subst hj;exact⟨e,rfl,h1⟩
  |succ j=>simpa using h2.at (j:=j) (by simpa using hj)
def LJ (P:Program) (E:EH) (W:World) (t:TypeId) (x y:Value) (et:TypeId) (agg:Bool) (n:Nat) (ns:List Int) (ok:Bool) (l:ML):Prop:=
 (bH l ns=none/\∀ z,(zeroValue et).run P W= .ok z W->(Instr.lookup t x y ok).run P W= .ok (if ok then .tuple #[z,.bool false]else z) W)∨
 ∃ c ys,bH l ns=some c/\a_ E c ys/\ys.length=n/\(Instr.lookup t x y ok).run P W= .ok (if ok then .tuple #[if agg=true then Value.agg ys.toArray else ys.getD 0 undef,.bool true]else(if agg=true then Value.agg ys.toArray else ys.getD 0 undef)) W
theorem H6 {P:Program} {E:EH} {W:World} {t:TypeId} {x y:Value} {et:TypeId} {agg:Bool} {fU:List CK} {ns:List Int} {ok:Bool} {l:ML} {K:V->Prop} (h:BQ P et agg fU ns ok l K) (hr:LJ P E W t x y et agg (wk fU) ns ok l) (σ:Sg):
  ∃ v z,(Instr.lookup t x y ok).run P W= .ok z W/\Den σ E v z/\K v:=by
 unfold BQ at h
 split at h
 ·rename_i z ah_ hz
  split at h<;>try exact h.elim
  rename_i Z5 hza
  obtain⟨Bi,h⟩:=h
  obtain⟨it,hit,nK⟩:=kP.1 hz
  have hzero:(zeroValue et).run P W= .ok z W:=by simp [zeroValue,typeInfo,hit,nK]
  rcases hr with ⟨hm,hrun⟩ | ⟨c,ys,p2,hD,jo,hrun⟩
  ·have hh:mA l ns=false:=by simp [mA,hm]
   obtain⟨v,k1,k2,k3⟩:=uC h (Dj σ E hm Z5)
   have Z6:(if agg=true then Value.agg z.cells.toList.toArray else z.cells.toList.getD 0 undef)=z:=by
    cases z<;>cases agg<;>simp_all [Value.cells]
   rw[Z6]at k2
   exact⟨_,_,hrun z hzero,Rx (b:=false) k2 (by simp [Den,hh]) ok,k1⟩
  ·have hh:mA l ns=true:=by simp [mA,p2]
   obtain⟨v,k1,k2,k3⟩:=uC h (UE σ p2 (cs:=c) (j:=0) (fun i=>by rw[c9]) (Bi c p2) hD)
   exact⟨_,_,hrun,Rx (b:=true) k2 (by simp [Den,hh]) ok,k1⟩
 split at h
 ·rcases hr with ⟨hm,hrun⟩ | ⟨c,ys,p2,hD,jo,hrun⟩
  ·obtain⟨v,z,z1,z2,z3⟩:=DE (N1 h hm) σ E W
   exact⟨_,_,hrun z z1,yt z2 ok false,z3⟩
  ·have hF:=N2 h p2
   split at hF<;>try exact hF.elim
   rename_i f hf
   have hys:=X8 hf hD
   subst hys
   exact⟨_,_,hrun,yt (σ:=σ) (E:=E) (v:=.fn f []) (by simp only[Den];exact⟨[],rfl,.nil⟩) ok true,hF⟩
 rcases hr with ⟨hm,hrun⟩ | ⟨c,ys,p2,hD,jo,hrun⟩
 ·obtain⟨v,z,z1,z2,z3⟩:=DE (h.2 hm) σ E W
  exact⟨_,_,hrun z z1,yt z2 ok false,z3⟩
 ·obtain⟨vs,xs,hK,GU,hlen,hxs⟩:=pB (σ:=σ) hD (h.1 c p2)
  obtain⟨v,k1,k2,k3⟩:=uC hK GU
  have G_:ys=xs:=by
   apply lw
   intro q
   rcases jX q xs.length with hq | hq
   ·rw[bp hq]
    have:=hxs q _ (bp hq)
    simpa using this
   ·rw[gO hq,gO (by omega)]
  subst G_
  exact⟨_,_,hrun,yt k2 ok true,k1⟩
theorem Qh {P:Program} {E:EH} {W:World} {t kt et:TypeId} {y:Value} {ka agg:Bool} {ks:List IntKind} {n:Nat} {ns:List Int} {ok:Bool} {l:ML} (ht:P.underlying t=some (.map kt et)) (hkb:lE P kt ks ka=true) (hnl:ns.length=ks.length) (hy:y=dJ ka (dC ks ns))
  {b:Nat} {es:Array MapEntry} {ck:Nat} (g1:W.heap[b]? =some (.map es ck)) (g2:ct E ks ka agg es.toList l) (hw:wl n (l.map (·.2))):LJ P E W t (.map (some b)) y et agg n ns ok l:=by
 subst hy
 have fl:(getObj b).run P W= .ok (.map es ck) W:=by simp [getObj,Sem.run,g1]
 rcases Gq hkb hnl W g2 with ⟨q1,q2⟩ | ⟨j,c,e,q1,q2,q3,q4⟩
 ·refine .inl ⟨(BV q1).1,fun z hz=>?_⟩
  unfold Instr.lookup
  simp [run_underlying ht,fl,run_checkKey hkb hnl,q2,hz]
 ·obtain⟨c',p1,p2,_,_⟩:=BW q1
  rw[q2]at p1;cases p1
  obtain⟨e',he',_,_,ys,hv,hD⟩:=g2.at q2
  rw[q3]at he';cases he'
  refine .inr ⟨c,ys,p2,hD,by rw[hD.len];exact hw c (eL.2 ⟨_,fi q2,rfl⟩),?_⟩
  have hv:e.val=if agg=true then Value.agg ys.toArray else ys.getD 0 undef:=hv
  rw[<- hv]
  unfold Instr.lookup
  simp [run_underlying ht,fl,run_checkKey hkb hnl,q4]
theorem SV {P:Program} {kt:TypeId} {ka:Bool} {ks:List IntKind} {ns:List Int} {W:World} (hkb:lE P kt ks ka=true):(Instr.findKey kt (dJ ka (dC ks ns)) []).run P W= .ok none W:=by
 have hkb':=hkb
 cases ka<;>simp only[lE]at hkb'<;>split at hkb'<;>(try (cases hkb';done))<;>(rename_i hu;simp [Instr.findKey,run_underlying hu,Instr.findNow])
theorem Qi {P:Program} {t:TypeId} {m k:V} {ok:Bool} {kb:KB} {K:V->Prop} (h:BR P t m k ok kb K) {σ:Sg} {E:EH} {W:World} (hi:Inv σ E kb W) {x y:Value} (hx:Den σ E m x) (hy:Den σ E k y):
  ∃ v z,(Instr.lookup t x y ok).run P W= .ok z W/\Den σ E v z/\K v:=by
 unfold BR at h
 split at h<;>try exact h.elim
 rename_i kt et ka ks ns ht hk
 have h1:=BS ht
 obtain⟨hnl,rfl⟩:=HQ hk hy
 split at h<;>try exact h.elim
 rename_i agg fU ha YU hkb
 split at h<;>try exact h.elim
 ·rename_i i
  split at h<;>try exact h.elim
  rename_i aA aS iA sz l hl
  split at h<;>try exact h.elim
  rename_i c1 c2 c3 c4
  have e1:=x7 c1
  have e2:ka=aS:=by simpa using c2
  have e3:agg=iA:=by simpa using c3
  have e4:=cU c4
  subst e1;subst e2;subst e3;subst e4
  simp only[Den]at hx
  obtain⟨r,hr,rfl⟩:=hx
  obtain⟨hw,es,ck,g1,g2,_⟩:=hi.obj i r _ hr hl
  exact H6 h (Qh h1 hkb hnl rfl g1 g2 hw) σ
 ·rename_i aA aS iA sz l
  split at h<;>try exact h.elim
  rename_i c1 c2 c3 c4
  have e1:=x7 c1
  have e2:ka=aS:=by simpa using c2
  have e3:agg=iA:=by simpa using c3
  have e4:=cU c4
  subst e1;subst e2;subst e3;subst e4
  simp only[Den]at hx
  obtain⟨a,rfl,hx⟩:=hx
  cases a with
  |none=>
   have hx:l=[]:=hx
   subst hx
   refine H6 h (.inl ⟨rfl,fun z hz=>?_⟩) σ
   unfold Instr.lookup
   simp [run_underlying h1,run_checkKey hkb hnl,SV hkb,hz]
  |some b=>
   obtain⟨hw,es,ck,g1,g2,_⟩:=hx
   exact H6 h (Qh h1 hkb hnl rfl (hi.dj b _ g1) g2 hw) σ
 ·simp only[Den]at hx
  subst hx
  obtain⟨v,z,z1,z2,z3⟩:=DE h σ E W
  refine⟨_,_,?_,yt z2 ok false,z3⟩
  unfold Instr.lookup
  simp [run_underlying h1,run_checkKey hkb hnl,SV hkb,z1]
def Dd (P:Program) (t:TypeId) (m k v:V) (kb:KB) (K:KB->Prop):Prop:=
 match ug P t,x6 k,m with
 |some (kt,et),some (ka,ks,ns),.mp i=>
  match np P et,fA P et,lE P kt ks ka with
  |some agg,some n,true=>match agg,v with
   |true,.agg _=>cellsD P et v kb (fun ds kb=>match kb[i]? with
    |some (.mp aA aS iA sz l)=>match pz ks aA,(ka == aS),iA,cp n sz with
     |true,true,true,true=>K (kb.set i (.mp aA aS iA sz (bF l ns ds)))
     |_,_,_,_=>False
    |_=>False)
   |false,.agg _=>False
   |false,_=>cellsD P et v kb (fun ds kb=>match kb[i]? with
    |some (.mp aA aS iA sz l)=>match pz ks aA,(ka == aS),iA,cp n sz with
     |true,true,false,true=>K (kb.set i (.mp aA aS iA sz (bF l ns ds)))
     |_,_,_,_=>False
    |_=>False)
   |_,_=>False
  |_,_,_=>False
 |_,_,_=>False
theorem ahY {sz:Nat} {l:ML} (h:wl sz (l.map (·.2))) {n:List Int} {xs:List D} (h1:xs.length=sz):wl sz ((bF l n xs).map (·.2)):=by
 induction l with
 |nil=>intro e he;simp [bF]at he;subst he;exact h1
 |cons p l ih=>
  obtain⟨a,c⟩:=p
  have ht:wl sz (l.map (·.2)):=fun e he=>h e (fM _ he)
  intro e he
  simp only[bF]at he
  split at he
  ·simp only[mb,ey]at he
   rcases he with rfl | he
   ·exact h1
   ·exact ht e he
  ·simp only[mb,ey]at he
   rcases he with rfl | he
   ·exact h _ (by simp)
   ·exact ih ht e he
theorem ct.push {E:EH} {aA:List IntKind} {aS agg:Bool}:∀{es:List MapEntry} {l:ML},ct E aA aS agg es l->∀{e:MapEntry} {k:List Int} {c:List D},(k.length=aA.length/\e.key=dJ aS (dC aA k)/\∃ ys,e.val=dJ agg ys/\a_ E c ys)->ct E aA aS agg (es++[e]) (l++[(k,c)])
 | [],l,h,e,k,c,he=>by
  simp only[ct]at h;subst h
  simp only[jV,ct]
  exact⟨k,c,[],rfl,he,rfl⟩
 |e'::es,l,h,e,k,c,he=>by
  simp only[ct]at h
  obtain⟨k',c',l',rfl,h1,h2⟩:=h
  simp only[List.cons_append,ct]
  exact⟨k',c',_,rfl,h1,h2.push he⟩
theorem ct.set {E:EH} {aA:List IntKind} {aS agg:Bool}:∀{es:List MapEntry} {l:ML},ct E aA aS agg es l->∀(j:Nat) {e:MapEntry} {k:List Int} {c:List D},(k.length=aA.length/\e.key=dJ aS (dC aA k)/\∃ ys,e.val=dJ agg ys/\a_ E c ys)->ct E aA aS agg (es.set j e) (l.set j (k,c))
 | [],l,h,j,e,k,c,he=>by simp only[ct]at h;subst h;simp [ct]
 |e'::es,l,h,j,e,k,c,he=>by
  simp only[ct]at h
  obtain⟨k',c',l',rfl,h1,h2⟩:=h
  cases j with
  |zero=>simp only[List.set_cons_zero,ct];exact⟨k,c,l',rfl,he,h2⟩
  |succ j=>simp only[List.set_cons_succ,ct];exact⟨k',c',_,rfl,h1,h2.set j he⟩
theorem ct.erase {E:EH} {aA:List IntKind} {aS agg:Bool}:∀{es:List MapEntry} {l:ML},ct E aA aS agg es l->∀(j:Nat),ct E aA aS agg (es.eraseIdx j) (l.eraseIdx j)
 | [],l,h,j=>by simp only[ct]at h;subst h;simp [ct]
 |e'::es,l,h,j=>by
  simp only[ct]at h
  obtain⟨k',c',l',rfl,h1,h2⟩:=h
  cases j with
  |zero=>simpa using h2
  |succ j=>simp only[List.eraseIdx_cons_succ,ct];exact⟨k',c',_,rfl,h1,h2.erase j⟩
theorem aet (aS:Bool) (aA:List IntKind) (k:List Int) (h:k.length=aA.length) (hc:aS=false->aA.length=1):Instr.sameBits 10000 (dJ aS (dC aA k)) (dJ aS (dC aA k))=true:=by
 cases aS with
 |false=>
  match aA,k,hc rfl,h with
  | [kk],[a],_,_=>simp [dJ,dC,Instr.sameBits]
 |true=>
  simp only[dJ,if_true]
  show Instr.sameBits (9999+1) _ _=true
  simp only[Instr.sameBits,beq_self_eq_true,Bool.true_and]
  clear hc
  unfold dC
  induction aA generalizing k with
  |nil=>simp
  |cons kk aA ih=>
   match k,h with
   |a::k,h=>
    have:=ih k (by simpa using h)
    simp only[List.zipWith_cons_cons,List.zip_cons_cons,List.all_cons]
    rw[km]
    refine⟨?_,this⟩
    show Instr.sameBits (9998+1) _ _=true
    simp [Instr.sameBits]
theorem aep {P:Program} {t kt et:TypeId} {aA:List IntKind} {aS:Bool} (h1:P.underlying t=some (.map kt et)) (hkb:lE P kt aA aS=true) {E:EH} {W:World} {b:Nat} {es:Array MapEntry} {ck:Nat} {agg:Bool} {l:ML}
  (g1:W.heap[b]? =some (.map es ck)) (g2:ct E aA aS agg es.toList l) (g3:tg es.toList ck) {n:List Int} (hn:n.length=aA.length) {x:Value} {ds:List D} {ys:List Value} (hx:x=dJ agg ys) (hD:a_ E ds ys):
  ∃ es' AA,(Instr.mapUpdate t (.map (some b)) (dJ aS (dC aA n)) x).run P W= .ok () {W with heap:=W.heap.setIfInBounds b (.map es' AA) }/\ct E aA aS agg es'.toList (bF l n ds)/\tg es'.toList AA:=by
 have fl:(getObj b).run P W= .ok (.map es ck) W:=by simp [getObj,Sem.run,g1]
 have qY:∀ o,(setObj b o).run P W= .ok () {W with heap:=W.heap.setIfInBounds b o }:=fun o=>by simp [setObj,Sem.run,g1]
 rcases Gq hkb hn W g2 with ⟨q1,q2⟩ | ⟨j,c,e,q1,q2,q3,q4⟩
 ·refine⟨es.push {key:=dJ aS (dC aA n),val:=x,born:=ck },ck+1,?_,?_,?_⟩
  ·unfold Instr.mapUpdate
   simp [run_underlying h1,fl,run_checkKey hkb hn,q2,qY]
  ·rw[(BV q1).2.1]
   simp only[Array.toList_push]
   exact g2.push ⟨hn,rfl,ys,hx,hD⟩
  ·simp only[Array.toList_push]
   constructor
   ·rw[jy]
    simp only[mb,List.map_nil]
    rw[List.nodup_append]
    refine⟨g3.1,by simp,fun a ha b hb=>?_⟩
    simp at hb
    obtain⟨e',he',rfl⟩:=eL.1 ha
    have:=g3.2 e' he'
    omega
   ·intro e' he'
    rcases dM.1 he' with h | h
    ·have:=g3.2 e' h;omega
    ·simp at h;subst h;simp
 ·obtain⟨c',p1,p2,p3,_⟩:=BW q1
  rw[q2]at p1;cases p1
  obtain⟨e',he',_,hkey,_⟩:=g2.at q2
  rw[q3]at he';cases he'
  have hj:j<es.size:=by
   have:=(bG.1 q3).1
   simpa using this
  have Pa:es[j]=e:=by
   have:=q3
   rw[Array.getElem?_toList,Array.getElem?_eq_getElem hj]at this
   exact bb.inj this
  have hsame:=aet aS aA n hn (fun hf=>by
   subst hf
   have hkb':=hkb
   simp only[lE]at hkb'
   split at hkb'<;>try (cases hkb';done)
   rfl)
  refine⟨es.modify j fun e=>{e with key:=dJ aS (dC aA n),val:=x },ck,?_,?_,?_⟩
  ·unfold Instr.mapUpdate
   simp [run_underlying h1,fl,run_checkKey hkb hn,q4,qY,hj,Pa,hkey,Instr.keyThatStays,hsame]
  ·rw[p3]
   have:(es.modify j fun e=>{e with key:=dJ aS (dC aA n),val:=x }).toList=es.toList.set j {e with key:=dJ aS (dC aA n),val:=x }:=by
    apply lw
    intro q
    simp only[Array.getElem?_toList,Array.getElem?_modify,List.getElem?_set]
    by_cases hjq:j=q
    ·subst hjq
     simp [hj,Pa]
    ·simp [hjq]
   rw[this]
   exact g2.set j ⟨hn,rfl,ys,hx,hD⟩
  ·have hb:(es.modify j fun e=>{e with key:=dJ aS (dC aA n),val:=x }).toList.map (·.born)=es.toList.map (·.born):=by
    apply lw
    intro q
    simp only[fE,Array.getElem?_toList,Array.getElem?_modify]
    by_cases hjq:j=q
    ·subst hjq;simp [hj]
    ·simp [hjq]
   refine⟨by rw[hb];exact g3.1,fun e' he'=>?_⟩
   have:e'.born∈es.toList.map (·.born):=by rw[<- hb];exact eL.2 ⟨e',he',rfl⟩
   obtain⟨e2,h2,h3⟩:=eL.1 this
   rw[<- h3];exact g3.2 e2 h2
theorem Na {P:Program} {t:TypeId} {v:V} {kb:KB} {K:List D->KB->Prop} (h:cellsD P t v kb K) (hna:∀ vs,v≠.agg vs):V.one v=true:=by
 unfold cellsD at h
 split at h<;>try exact h.elim
 split at h<;>try exact h.elim
 split at h
 ·exact(hna _ rfl).elim
 ·split at h<;>try exact h.elim
  split at h<;>try exact h.elim
  rename_i h1 _
  exact h1
theorem Us {P:Program} {t:TypeId} {m k v:V} {kb:KB} {K:KB->Prop} (h:Dd P t m k v kb K) {σ:Sg} {E:EH} {W:World} (hi:Inv σ E kb W) {x y z:Value} (hx:Den σ E m x) (hy:Den σ E k y) (hz:Den σ E v z):
  ∃ E' kb' W',(Instr.mapUpdate t x y z).run P W= .ok () W'/\Step σ E kb W σ E' kb' W'/\K kb':=by
 unfold Dd at h
 split at h<;>try exact h.elim
 rename_i kt et ka ks ns i ht hk
 have h1:=BS ht
 obtain⟨hnl,rfl⟩:=HQ hk hy
 split at h<;>try exact h.elim
 rename_i agg n ha hn hkb
 simp only[Den]at hx
 obtain⟨r,hr,rfl⟩:=hx
 have main:∀{E1:EH} {eH:KB} {ds:List D} {xs:List Value} {aA:List IntKind} {aS:Bool} {sz:Nat} {l:ML},Step σ E kb W σ E1 eH W->a_ E1 ds xs->fA P et=some xs.length->eH[i]? =some (.mp aA aS agg sz l)->
   pz ks aA=true->(ka == aS)=true->cp n sz=true->z=dJ agg xs->K (eH.set i (.mp aA aS agg sz (bF l ns ds)))->
   ∃ E' kb' W',(Instr.mapUpdate t (.map (some r.blk)) (dJ ka (dC ks ns)) z).run P W= .ok () W'/\Step σ E kb W σ E' kb' W'/\K kb':=by
  intro E1 eH ds xs aA aS sz l s1 hD j8 hl c1 c2 c3 ub hK
  have e1:=x7 c1
  have e2:ka=aS:=by simpa using c2
  have e3:=cU c3
  subst e1;subst e2;subst e3
  obtain⟨hw,es,ck,g1,g2,g3⟩:=s1.inv.obj i r _ hr hl
  obtain⟨es',AA,q1,q2,q3⟩:=aep h1 hkb g1 g2 g3 hnl ub hD
  have hlt:r.blk<W.heap.size:=(Array.getElem?_eq_some_iff.1 g1).1
  rw[hn]at j8
  have j8:=bb.inj j8
  refine⟨_,_,_,q1,s1.trans (s1.inv.set (o':=.mp ks ka agg n (bF l ns ds)) hr hl rfl rfl rfl (by simp) (fun b hb=>?_) (fun b hb=>hb) ⟨ahY hw (by have:=hD.len;omega),es',AA,?_,q2,q3⟩),hK⟩
  ·simp only[owned]at hb
   show(W.heap.setIfInBounds r.blk _)[b]? =_
   rw[Array.getElem?_setIfInBounds_ne (fun e=>hb e.symm)]
  ·show(W.heap.setIfInBounds r.blk _)[r.blk]? =_
   simp [hlt]
 split at h<;>try exact h.elim
 ·obtain⟨E1,eH,ds,xs,s1,hc,hD,h,j8⟩:=vd h hi hz
  split at h<;>try exact h.elim
  rename_i aA aS iA sz l hl
  split at h<;>try exact h.elim
  rename_i c1 c2 c3
  simp only[Den]at hz
  obtain⟨us,rfl,_⟩:=hz
  simp only[Value.cells]at hc
  exact main s1 hD j8 hl c1 c2 c3 (by simp [dJ,hc]) h
 ·rename_i hna
  have h0:=h
  obtain⟨E1,eH,ds,xs,s1,hc,hD,h,j8⟩:=vd h hi hz
  split at h<;>try exact h.elim
  rename_i aA aS iA sz l hl
  split at h<;>try exact h.elim
  rename_i c1 c2 c3
  have hone:z.oneCell'=true:=one_den (Na h0 hna) hz
  have hxz:xs=[z]:=by
   have nK:z.cells=#[z]:=by cases z<;>simp_all [Value.cells,lU]
   rw[nK]at hc
   have:=congrArg Array.toList hc
   simpa using this.symm
  exact main s1 hD j8 hl c1 c2 c3 (by simp [dJ,hxz]) h
def FX (P:Program) (t:TypeId) (m k:V) (kb:KB) (K:KB->Prop):Prop:=
 match ug P t,x6 k,m with
 |some (kt,et),some (ka,ks,ns),.mp i=>match lE P kt ks ka,kb[i]? with
  |true,some (.mp aA aS agg sz l)=>match pz ks aA,(ka == aS)with
   |true,true=>K (kb.set i (.mp aA aS agg sz (oL l ns)))
   |_,_=>False
  |_,_=>False
 |_,_,_=>False
theorem ahX {sz:Nat} {l:ML} (h:wl sz (l.map (·.2))) {n:List Int}:wl sz ((oL l n).map (·.2)):=by
 induction l with
 |nil=>exact h
 |cons p l ih=>
  obtain⟨a,c⟩:=p
  have ht:wl sz (l.map (·.2)):=fun e he=>h e (fM _ he)
  simp only[oL]
  split
  ·exact ht
  ·intro e he
   simp only[mb,ey]at he
   rcases he with rfl | he
   ·exact h _ (by simp)
   ·exact ih ht e he
theorem Xw {P:Program} {t:TypeId} {m k:V} {kb:KB} {K:KB->Prop} (h:FX P t m k kb K) {σ:Sg} {E:EH} {W:World} (hi:Inv σ E kb W) {x y:Value} (hx:Den σ E m x) (hy:Den σ E k y) (u ty:TypeId):
  ∃ kb' W',(Builtin.delete_ #[t,u] ty #[x,y]).run P W= .ok (.tuple #[]) W'/\Step σ E kb W σ E kb' W'/\K kb':=by
 unfold FX at h
 split at h<;>try exact h.elim
 rename_i kt et ka ks ns i ht hk
 have h1:=BS ht
 obtain⟨hnl,rfl⟩:=HQ hk hy
 split at h<;>try exact h.elim
 rename_i aA aS agg sz l hkb hl
 split at h<;>try exact h.elim
 rename_i c1 c2
 have e1:=x7 c1
 have e2:ka=aS:=by simpa using c2
 subst e1;subst e2
 simp only[Den]at hx
 obtain⟨r,hr,rfl⟩:=hx
 obtain⟨hw,es,ck,g1,g2,g3⟩:=hi.obj i r _ hr hl
 have fl:(getObj r.blk).run P W= .ok (.map es ck) W:=by simp [getObj,Sem.run,g1]
 have qY:∀ o,(setObj r.blk o).run P W= .ok () {W with heap:=W.heap.setIfInBounds r.blk o }:=fun o=>by simp [setObj,Sem.run,g1]
 have hlt:r.blk<W.heap.size:=(Array.getElem?_eq_some_iff.1 g1).1
 have hst:∀{es':Array MapEntry},ct E ks ka agg es'.toList (oL l ns)->tg es'.toList ck->Step σ E kb W σ E (kb.set i (.mp ks ka agg sz (oL l ns))) {W with heap:=W.heap.setIfInBounds r.blk (.map es' ck) }:=by
  intro es' q2 q3
  refine hi.set (o':=.mp ks ka agg sz (oL l ns)) hr hl rfl rfl rfl (by simp) (fun b hb=>?_) (fun b hb=>hb) ⟨ahX hw,es',ck,?_,q2,q3⟩
  ·simp only[owned]at hb
   show(W.heap.setIfInBounds r.blk _)[b]? =_
   rw[Array.getElem?_setIfInBounds_ne (fun e=>hb e.symm)]
  ·show(W.heap.setIfInBounds r.blk _)[r.blk]? =_
   simp [hlt]
 rcases Gq hkb hnl W g2 with ⟨q1,q2⟩ | ⟨j,c,e,q1,q2,q3,q4⟩
 ·refine⟨_,_,?_,hst (es':=es) (by rw[(BV q1).2.2];exact g2) g3,h⟩
  simp [Builtin.delete_,run_underlying h1,fl,run_checkKey hkb hnl,q2,qY]
 ·obtain⟨c',p1,p2,_,p4⟩:=BW q1
  have hj:j<es.size:=by
   have:=(bG.1 q3).1
   simpa using this
  have he:(es.eraseIdxIfInBounds j).toList=es.toList.eraseIdx j:=by
   simp [Array.eraseIdxIfInBounds,hj]
  refine⟨_,_,?_,hst (es':=es.eraseIdxIfInBounds j) (by rw[he,p4];exact g2.erase j) ?_,h⟩
  ·simp [Builtin.delete_,run_underlying h1,fl,run_checkKey hkb hnl,q4,qY]
  ·rw[he]
   refine⟨?_,fun e' he'=>g3.2 e' (List.mem_of_mem_eraseIdx he')⟩
   exact List.Nodup.sublist (List.Sublist.map _ (List.eraseIdx_sublist _ _)) g3.1
def Ie (P:Program) (t:TypeId) (m:V) (kb:KB) (K:V->Prop):Prop:=
 match ug P t with
 |some _=>match m with
  | .mp i=>match kb[i]? with
   |some (.mp _ _ _ _ l)=>K (.int Z (l.length:Int))
   |_=>False
  | .imp _ _ _ _ l=>K (.int Z (l.length:Int))
  | .any (.map none)=>K (.lit Z 0)
  |_=>False
 |none=>False
theorem aaN {P:Program} {t:TypeId} {m:V} {kb:KB} {K:V->Prop} (h:Ie P t m kb K) {σ:Sg} {E:EH} {W:World} (hi:Inv σ E kb W) {x:Value} (hx:Den σ E m x) (ty:TypeId):
  ∃ v z,(Builtin.len_ #[t] ty #[x]).run P W= .ok z W/\Den σ E v z/\K v:=by
 unfold Ie at h
 split at h<;>try exact h.elim
 rename_i q ht
 obtain⟨kt,et⟩:=q
 have h1:=BS ht
 split at h<;>try exact h.elim
 ·rename_i i
  split at h<;>try exact h.elim
  rename_i aA aS agg sz l hl
  simp only[Den]at hx
  obtain⟨r,hr,rfl⟩:=hx
  obtain⟨hw,es,ck,g1,g2,_⟩:=hi.obj i r _ hr hl
  have fl:(getObj r.blk).run P W= .ok (.map es ck) W:=by simp [getObj,Sem.run,g1]
  have:=g2.len
  exact⟨_,_,by simp [Builtin.len_,run_underlying h1,fl];rfl,by simp only[Den,goInt];rw[show es.size=l.length by simpa using this],h⟩
 ·rename_i aA aS agg sz l
  simp only[Den]at hx
  obtain⟨a,rfl,hx⟩:=hx
  cases a with
  |none=>
   have hx:l=[]:=hx
   subst hx
   exact⟨_,_,by simp [Builtin.len_,run_underlying h1];rfl,by simp [Den,goInt],h⟩
  |some b=>
   obtain⟨hw,es,ck,g1,g2,_⟩:=hx
   have g1:=hi.dj b _ g1
   have fl:(getObj b).run P W= .ok (.map es ck) W:=by simp [getObj,Sem.run,g1]
   have:=g2.len
   exact⟨_,_,by simp [Builtin.len_,run_underlying h1,fl];rfl,by simp only[Den,goInt];rw[show es.size=l.length by simpa using this],h⟩
 ·simp only[Den]at hx
  subst hx
  exact⟨_,_,by simp [Builtin.len_,run_underlying h1];rfl,by simp [Den,goInt],h⟩
def Mv:List CK->Option (List IntKind)
 | []=>some []
 | .int k::ks=>match Mv ks with | some r=>some (k::r) | none=>none
 |_=>none
def Ib (P:Program) (t:TypeId) (kb:KB) (K:V->KB->Prop):Prop:=
 match ug P t with
 |some (kt,et)=>match (mw P 20 kt).bind Mv,np P kt,np P et,(mw P 20 et)with
  |some ks,some ka,some agg,some fU=>K (.mp kb.length) (kb++[.mp ks ka agg (wk fU) []])
  |_,_,_,_=>False
 |none=>False
theorem aaL {P:Program} {t:TypeId} {kb:KB} {K:V->KB->Prop} (h:Ib P t kb K) {σ:Sg} {E:EH} {W:World} (hi:Inv σ E kb W):
  ∃ v x σ' kb' W',(Instr.makeMap t none).run P W= .ok x W'/\Step σ E kb W σ' E kb' W'/\Den σ' E v x/\K v kb':=by
 unfold Ib at h
 split at h<;>try exact h.elim
 rename_i kt et ht
 split at h<;>try exact h.elim
 rename_i ks ka agg fU _ _ _ _
 refine⟨_,.map (some W.heap.size),_,_,W.alloc (.map #[] 0),by simp [Instr.makeMap],hi.alloc (.map #[] 0) ⟨W.heap.size,0,0⟩ (.mp ks ka agg (wk fU) []) (fun b hb=>hb) ⟨wl.nil,#[],0,?_,by simp [ct],⟨by simp,by simp⟩⟩,?_,h⟩
 ·show(W.heap.push _)[W.heap.size]? =_
  simp
 ·simp only[Den]
  exact⟨⟨W.heap.size,0,0⟩,by rw[<- hi.len];simp,rfl⟩
def vF (P:Program) (t:TypeId):Bool:=match P.underlying t with | some (.map _ _)=>true | _=>false
end Vc
