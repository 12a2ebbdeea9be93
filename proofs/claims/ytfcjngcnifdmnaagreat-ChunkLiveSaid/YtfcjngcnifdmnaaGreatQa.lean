import Derived.WalkKit
import Derived.Orders
import Derived.Deep.AppendSrc
import Derived.Laws.StructEq
import Derived.Laws.Tables
import Derived.MapKept
set_option linter.unusedSimpArgs false
set_option linter.unusedVariables false
namespace Vc
open Go
open Go.IntKind renaming i64->γ,u8->ξ,u32->iM
open Go.Value renaming int->ν,map->kT,bool->mG,oneCell'->mH
open List renaming map->ae,drop->ax,take->ay,length_append->bn,getElem?_eq_getElem->bu,getElem?_eq_some_iff->bH,length_map->bT,take_length->cQ,length_take->cW,mem_singleton->da,replicate->dv,mem_append->dz,mem_map->dO,mem_cons->dS,Mem->dW,append_assoc->dX,getElem?_append_left->dY,take_of_length_le->eQ,getElem?_append_right->fk,getElem?_map->fy,mem_of_getElem?->fF,length_drop->gm,mem_cons_of_mem->gn,append_nil->gz,length_cons->gA,getD_eq_getElem?_getD->gO,getElem?_set_ne->gP,mem_append_left->gQ,length_singleton->gZ,drop_zero->iD,getElem?_eq_none->iE,getElem?_take_of_lt->iF,length_set->iG,getElem?_set_self->iN,mem_cons_self->iV,map_append->ja,range->jb,nil_append->jr,take_add_one->jt,flatten_cons->jF,getElem?_of_mem->jG,getElem?_drop->jW,map_cons->kv,length_nil->kP,mem_append_right->kQ,mem_filter->lu,ext_getElem?->mb,eq_nil_of_length_eq_zero->mD
open Nat renaming le_refl->ar,zero_le->bj,beq->cX,zero_add->c9,eq_of_beq_eq_true->de,add_assoc->g_,lor->iW,lt_or_ge->kx,sub_zero->ly,le_trans->mc
open Option renaming some->bb,bind_eq_some_iff->lO,map->ng
open Int renaming toNat_natCast->cN,le_refl->dE
open Bool renaming and_eq_true->jo,not_eq_false'->kr,not_eq_true'->mA
inductive D where
 |val (v:Value)
 |sl (sz:Nat) (l:List (List D))
 deriving Inhabited
abbrev EH:=Nat->Option Obj
def EH.cell (E:EH) (b o:Nat):Option Value:=
 match E b with
 |some (.cells c _ _)=>c[o]?
 |_=>none
def EH.le (E E':EH):Prop:=∀ b o,E b=some o->E' b=some o
theorem EH.le.refl (E:EH):E.le E:=fun _ _ h=>h
theorem EH.le.trans {A B C:EH} (h:A.le B) (k:B.le C):A.le C:=fun b o x=>k b o (h b o x)
theorem EH.le.cell {E E':EH} (h:E.le E') {b o:Nat} {v:Value} (hc:E.cell b o=some v):E'.cell b o=some v:=by
 unfold EH.cell at*
 cases hb:E b with
 |none=>simp [hb]at hc
 |some x=>rw[h b x hb];rw[hb]at hc;exact hc
mutual
def bX (E:EH):D->Value->Prop
 | .val v,x=>x=v/\v.oneCell'=true
 | .sl sz l,x=>∃ a cap,x= .slice a l.length cap/\l.length<=cap/\(l.length=0∨∃ b off,a=some ⟨b,off,none⟩/\gS E sz l b off)
def dZ (E:EH):List D->Nat->Nat->Prop
 | [],_,_=>True
 |c::cs,b,off=>(∃ v,E.cell b off=some v/\bX E c v)/\dZ E cs b (off+1)
def gS (E:EH) (sz:Nat):List (List D)->Nat->Nat->Prop
 | [],_,_=>True
 |e::l,b,off=>(e.length=sz/\dZ E e b off)/\gS E sz l b (off+sz)
end
mutual
theorem bX.mono {E E':EH} (h:E.le E'):∀{d:D} {v:Value},bX E d v->bX E' d v
 | .val _,_,hr=>by simpa [bX]using hr
 | .sl sz l,x,hr=>by
  simp only[bX]at hr ⊢
  obtain⟨a,cap,h1,h2,h3⟩:=hr
  exact⟨a,cap,h1,h2,h3.elim .inl (fun⟨b,off,e,r⟩=> .inr ⟨b,off,e,gS.mono h r⟩)⟩
theorem dZ.mono {E E':EH} (h:E.le E'):∀{cs:List D} {b off:Nat},dZ E cs b off->dZ E' cs b off
 | [],_,_,_=>by simp [dZ]
 |c::cs,b,off,hr=>by
  simp only[dZ]at hr ⊢
  obtain⟨⟨v,h1,h2⟩,h3⟩:=hr
  exact⟨⟨v,h.cell h1,bX.mono h h2⟩,dZ.mono h h3⟩
theorem gS.mono {E E':EH} (h:E.le E'):∀{sz:Nat} {l:List (List D)} {b off:Nat},gS E sz l b off->gS E' sz l b off
 |_,[],_,_,_=>by simp [gS]
 |sz,e::l,b,off,hr=>by
  simp only[gS]at hr ⊢
  exact⟨⟨hr.1.1,dZ.mono h hr.1.2⟩,gS.mono h hr.2⟩
end
theorem bX.one {E:EH} {d:D} {v:Value} (h:bX E d v):v.oneCell'=true:=by
 cases d with
 |val w=>simp only[bX]at h;rw[h.1];exact h.2
 |sl sz l=>simp only[bX]at h;obtain⟨a,cap,rfl,_⟩:=h;rfl
theorem dZ.at {E:EH}:∀{cs:List D} {b off:Nat},dZ E cs b off->∀{j:Nat} {d:D},cs[j]? =some d->∃ v,E.cell b (off+j)=some v/\bX E d v
 | [],_,_,_,_,_,h=>by simp at h
 |c::cs,b,off,hr,j,d,h=>by
  simp only[dZ]at hr
  cases j with
  |zero=>simp at h;subst h;exact hr.1
  |succ j=>
   obtain⟨v,h1,h2⟩:=dZ.at hr.2 (j:=j) (by simpa using h)
   exact⟨v,by rw[show off+(j+1)=off+1+j by omega];exact h1,h2⟩
theorem dZ.zf {E:EH}:∀{cs:List D} {b off:Nat},(∀(j:Nat) (d:D),cs[j]? =some d->∃ v,E.cell b (off+j)=some v/\bX E d v)->dZ E cs b off
 | [],_,_,_=>by simp [dZ]
 |c::cs,b,off,h=>by
  simp only[dZ]
  refine⟨by simpa using h 0 c rfl,dZ.zf fun j d hj=>?_⟩
  have:=h (j+1) d (by simpa using hj)
  rwa [show off+1+j=off+(j+1) by omega]
theorem dZ.sub {E:EH} {cs:List D} {b off:Nat} (h:dZ E cs b off) (k m:Nat):dZ E ((cs.drop k).take m) b (off+k):=
 dZ.zf fun j d hj=>by
  have hj':cs[k+j]? =some d:=by
   rw[<- jW]
   have hlt:j<m:=by
    have:=(bH.1 hj).1
    simp only[cW]at this
    omega
   rwa [iF hlt]at hj
  have:=h.at hj'
  rwa [g_]
theorem dZ.append {E:EH} {cs ds:List D} {b off:Nat} (h:dZ E cs b off) (k:dZ E ds b (off+cs.length)):dZ E (cs++ds) b off:=
 dZ.zf fun j d hj=>by
  rcases kx j cs.length with hl | hl
  ·rw[dY hl]at hj;exact h.at hj
  ·rw[fk hl]at hj
   have:=k.at hj
   rwa [show off+cs.length+(j - cs.length)=off+j by omega]at this
def wl (sz:Nat) (l:List (List D)):Prop:=∀ e∈l,e.length=sz
theorem wl.append {sz:Nat} {l m:List (List D)} (h:wl sz l) (k:wl sz m):wl sz (l++m):=fun e he=>by
 rcases dz.1 he with h1 | h1
 ·exact h e h1
 ·exact k e h1
theorem wl.take {sz:Nat} {l:List (List D)} (h:wl sz l) (n:Nat):wl sz (l.take n):=fun e he=>h e (List.mem_of_mem_take he)
theorem wl.drop {sz:Nat} {l:List (List D)} (h:wl sz l) (n:Nat):wl sz (l.drop n):=fun e he=>h e (List.mem_of_mem_drop he)
theorem wl.nil {sz:Nat}:wl sz []:=fun e he=>by cases he
theorem wl.set {sz:Nat} {l:List (List D)} (h:wl sz l) (n:Nat) {e:List D} (he:e.length=sz):wl sz (l.set n e):=fun x hx=>by
 rcases List.mem_or_eq_of_mem_set hx with h2 | h2
 ·exact h x h2
 ·rw[h2];exact he
theorem wl.cons {sz:Nat} {e:List D} {l:List (List D)} (h:wl sz (e::l)):wl sz l:=fun x hx=>h x (gn _ hx)
theorem pD {α:Type} {sz:Nat}:∀{l:List (List α)},(∀ e∈l,e.length=sz)->l.flatten.length=l.length*sz
 | [],_=>by simp
 |e::l,h=>by
  rw[jF,bn,pD (fun x hx=>h x (gn _ hx)),h e (by simp),gA,Nat.succ_mul];omega
theorem PY {α:Type} {sz:Nat}:∀{l:List (List α)},(∀ e∈l,e.length=sz)->∀{i j:Nat} {e:List α} {c:α},l[i]? =some e->e[j]? =some c->l.flatten[i*sz+j]? =some c
 | [],_,_,_,_,_,h,_=>by simp at h
 |a::l,hs,0,j,e,c,h,k=>by
  simp at h;subst h
  rw[jF,Nat.zero_mul,c9,dY (bH.1 k).1];exact k
 |a::l,hs,i+1,j,e,c,h,k=>by
  have ha:=hs a (by simp)
  rw[jF,show(i+1)*sz+j=a.length+(i*sz+j) by rw[Nat.succ_mul,ha];omega,fk (by omega),Nat.add_sub_cancel_left]
  exact PY (fun x hx=>hs x (gn _ hx)) (by simpa using h) k
theorem yt {α:Type} {sz:Nat}:∀{l:List (List α)},(∀ e∈l,e.length=sz)->∀ n,(l.drop n).flatten=l.flatten.drop (n*sz)
 |_,_,0=>by simp
 | [],_,n+1=>by simp
 |c::l,hs,n+1=>by
  have hc:c.length=sz:=hs c (by simp)
  rw[List.drop_succ_cons,jF,show(n+1)*sz=c.length+n*sz by rw[Nat.succ_mul,hc];omega,List.drop_length_add_append]
  exact yt (fun e he=>hs e (gn _ he)) n
theorem yu {α:Type} {sz:Nat}:∀{l:List (List α)},(∀ e∈l,e.length=sz)->∀ n,(l.take n).flatten=l.flatten.take (n*sz)
 |_,_,0=>by simp
 | [],_,n+1=>by simp
 |c::l,hs,n+1=>by
  have hc:c.length=sz:=hs c (by simp)
  rw[List.take_succ_cons,jF,jF,show(n+1)*sz=c.length+n*sz by rw[Nat.succ_mul,hc];omega,List.take_length_add_append]
  rw[yu (fun e he=>hs e (gn _ he)) n]
theorem HJ {α:Type} {sz:Nat}:∀{l:List (List α)},(∀ e∈l,e.length=sz)->∀{ix:Nat} {e:List α},l[ix]? =some e->(l.flatten.drop (ix*sz)).take sz=e
 | [],_,_,_,h=>by simp at h
 |c::l,hs,0,e,h=>by
  have hc:c.length=sz:=hs c (by simp)
  simp at h;subst h
  simp [<- hc]
 |c::l,hs,ix+1,e,h=>by
  have hc:c.length=sz:=hs c (by simp)
  rw[jF,show(ix+1)*sz=c.length+ix*sz by rw[Nat.succ_mul,hc];omega,List.drop_length_add_append]
  exact HJ (fun e he=>hs e (gn _ he)) (by simpa using h)
theorem gS.wl {E:EH}:∀{sz:Nat} {l:List (List D)} {b off:Nat},gS E sz l b off->Vc.wl sz l
 |_,[],_,_,_=>wl.nil
 |sz,e::l,b,off,h=>by
  simp only[gS]at h
  intro x hx
  rcases dS.1 hx with rfl | hx
  ·exact h.1.1
  ·exact gS.wl h.2 x hx
theorem gS.flat {E:EH}:∀{sz:Nat} {l:List (List D)} {b off:Nat},gS E sz l b off->dZ E l.flatten b off
 |_,[],_,_,_=>by simp [dZ]
 |sz,e::l,b,off,h=>by
  simp only[gS]at h
  rw[jF]
  exact h.1.2.append (by rw[h.1.1];exact gS.flat h.2)
theorem gS.of_flat {E:EH}:∀{sz:Nat} {l:List (List D)} {b off:Nat},Vc.wl sz l->dZ E l.flatten b off->gS E sz l b off
 |_,[],_,_,_,_=>by simp [gS]
 |sz,e::l,b,off,hw,h=>by
  simp only[gS]
  have he:=hw e (by simp)
  rw[jF]at h
  refine⟨⟨he,?_⟩,gS.of_flat hw.cons ?_⟩
  ·have:=h.sub 0 e.length
   rw[iD,List.take_left]at this
   exact this
  ·have:=h.sub e.length l.flatten.length
   rw[List.drop_left,cQ,he]at this
   exact this
def bh (E:EH):List D->List Value->Prop
 | [],xs=>xs=[]
 |d::ds,xs=>∃ x xs',xs=x::xs'/\bX E d x/\bh E ds xs'
theorem bh.len {E:EH}:∀{ds:List D} {xs:List Value},bh E ds xs->xs.length=ds.length
 | [],_,h=>by simp only[bh]at h;simp [h]
 |d::ds,_,h=>by simp only[bh]at h;obtain⟨x,xs',rfl,_,h2⟩:=h;simp [bh.len h2]
theorem bh.mono {E E':EH} (hE:E.le E'):∀{ds:List D} {xs:List Value},bh E ds xs->bh E' ds xs
 | [],_,h=>by simpa only[bh]using h
 |d::ds,_,h=>by simp only[bh]at h ⊢;obtain⟨x,xs',h0,h1,h2⟩:=h;exact⟨x,xs',h0,h1.mono hE,h2.mono hE⟩
theorem bh.nil {E:EH}:bh E [] []:=by simp [bh]
theorem bh.cons {E:EH} {d:D} {x:Value} {ds:List D} {xs:List Value} (h:bX E d x) (k:bh E ds xs):bh E (d::ds) (x::xs):=by
 simp only[bh];exact⟨x,xs,rfl,h,k⟩
theorem bh.get {E:EH}:∀{ds:List D} {xs:List Value},bh E ds xs->∀{i:Nat} {d:D},ds[i]? =some d->∃ x,xs[i]? =some x/\bX E d x
 | [],_,_,_,_,hv=>by simp at hv
 |c::ds,_,h,i,d,hv=>by
  simp only[bh]at h
  obtain⟨x,xs',rfl,h1,h2⟩:=h
  cases i with
  |zero=>simp at hv;subst hv;exact⟨x,rfl,h1⟩
  |succ i=>simpa using bh.get h2 (i:=i) (by simpa using hv)
theorem bh.get' {E:EH} {ds:List D} {xs:List Value} (h:bh E ds xs) {i:Nat} {x:Value} (hx:xs[i]? =some x):∃ d,ds[i]? =some d/\bX E d x:=by
 have hi:=(bH.1 hx).1
 rw[h.len]at hi
 obtain⟨y,hy,hd⟩:=h.get (bu hi)
 rw[hx]at hy;cases hy
 exact⟨_,bu hi,hd⟩
theorem bh.one {E:EH} {ds:List D} {xs:List Value} (h:bh E ds xs):∀ c∈xs,c.oneCell'=true:=fun c hc=>by
 obtain⟨i,hi⟩:=jG hc
 obtain⟨d,_,hd⟩:=h.get' hi
 exact hd.one
theorem bh.append {E:EH}:∀{ds:List D} {xs:List Value},bh E ds xs->∀{es:List D} {ys:List Value},bh E es ys->bh E (ds++es) (xs++ys)
 | [],_,h,_,_,k=>by simp only[bh]at h;simpa [h]using k
 |d::ds,_,h,_,_,k=>by
  simp only[bh]at h
  obtain⟨x,xs',rfl,h1,h2⟩:=h
  exact .cons h1 (h2.append k)
theorem bh.drop {E:EH}:∀{ds:List D} {xs:List Value},bh E ds xs->∀ n,bh E (ds.drop n) (xs.drop n)
 |_,_,h,0=>by simpa using h
 | [],_,h,n+1=>by simp only[bh]at h;simp [h,bh]
 |d::ds,_,h,n+1=>by
  simp only[bh]at h
  obtain⟨x,xs',rfl,_,h2⟩:=h
  simpa using h2.drop n
theorem bh.take {E:EH}:∀{ds:List D} {xs:List Value},bh E ds xs->∀ n,bh E (ds.take n) (xs.take n)
 |_,_,_,0=>by simp [bh]
 | [],_,h,n+1=>by simp only[bh]at h;simp [h,bh]
 |d::ds,_,h,n+1=>by
  simp only[bh]at h
  obtain⟨x,xs',rfl,h1,h2⟩:=h
  simp only[List.take_succ_cons]
  exact .cons h1 (h2.take n)
theorem bh.split {E:EH} {ds es:List D} {xs:List Value} (h:bh E (ds++es) xs):∃ ys zs,xs=ys++zs/\bh E ds ys/\bh E es zs:=by
 refine⟨xs.take ds.length,xs.drop ds.length,(List.take_append_drop _ _).symm,?_,?_⟩
 ·have:=h.take ds.length
  rwa [List.take_left]at this
 ·have:=h.drop ds.length
  rwa [List.drop_left]at this
theorem bh.rep {E:EH} {ds:List D} {xs:List Value} (h:bh E ds xs) {b off:Nat} (hc:∀(j:Nat) (x:Value),xs[j]? =some x->E.cell b (off+j)=some x):dZ E ds b off:=
 dZ.zf fun j d hj=>by
  obtain⟨x,h1,h2⟩:=h.get hj
  exact⟨x,hc j x h1,h2⟩
theorem dZ.BH {E:EH}:∀{ds:List D} {b off:Nat},dZ E ds b off->∃ xs,bh E ds xs/\∀(j:Nat) (x:Value),xs[j]? =some x->E.cell b (off+j)=some x
 | [],b,off,_=>⟨[],.nil,by simp⟩
 |d::ds,b,off,h=>by
  simp only[dZ]at h
  obtain⟨⟨v,h1,h2⟩,h3⟩:=h
  obtain⟨xs,h4,h5⟩:=h3.BH
  refine⟨v::xs,.cons h2 h4,fun j x hj=>?_⟩
  cases j with
  |zero=>simp at hj;subst hj;exact h1
  |succ j=>rw[show off+(j+1)=off+1+j by omega];exact h5 j x (by simpa using hj)
theorem bh.replicate {E:EH} {d:D} {x:Value} (h:bX E d x):∀ n,bh E (dv n d) (dv n x)
 | 0=> .nil
 |n+1=>by rw[List.replicate_succ,List.replicate_succ];exact .cons h (bh.replicate h n)
def splice {α:Type} (l:List α) (off:Nat) (vs:List α):List α:=l.take off++vs++l.drop (off+vs.length)
theorem mW {α:Type} {l:List α} {off:Nat} {vs:List α} (h:off+vs.length<=l.length):(splice l off vs).length=l.length:=by
 simp [splice];omega
theorem bh.splice {E:EH} {ds es:List D} {xs ys:List Value} (h:bh E ds xs) (k:bh E es ys) (off:Nat):bh E (Vc.splice ds off es) (Vc.splice xs off ys):=by
 unfold Vc.splice
 rw[k.len]
 exact((h.take off).append k).append (h.drop _)
def eF (agg:Bool) (cs:List Value):Value:=if agg then .agg cs.toArray else cs.getD 0 undef
def dJ (aD:List IntKind) (k:List Int):List Value:=List.zipWith ν aD k
def cM (E:EH) (aD:List IntKind) (aW agg:Bool):List MapEntry->List (List Int×List D)->Prop
 | [],l=>l=[]
 |e::es,l=>∃ k c l',l=(k,c)::l'/\(k.length=aD.length/\e.key=eF aW (dJ aD k)/\∃ ys,e.val=eF agg ys/\bh E c ys)/\cM E aD aW agg es l'
theorem cM.mono {E E':EH} (hE:E.le E') {aD:List IntKind} {aW agg:Bool}:∀{es:List MapEntry} {l:List (List Int×List D)},cM E aD aW agg es l->cM E' aD aW agg es l
 | [],_,h=>by simpa only[cM]using h
 |e::es,_,h=>by
  simp only[cM]at h ⊢
  obtain⟨k,c,l',h0,⟨h1,h1',ys,h2,h3⟩,h4⟩:=h
  exact⟨k,c,l',h0,⟨h1,h1',ys,h2,h3.mono hE⟩,h4.mono hE⟩
theorem cM.len {E:EH} {aD:List IntKind} {aW agg:Bool}:∀{es:List MapEntry} {l:List (List Int×List D)},cM E aD aW agg es l->es.length=l.length
 | [],_,h=>by simp only[cM]at h;simp [h]
 |e::es,_,h=>by
  simp only[cM]at h
  obtain⟨k,c,l',rfl,_,h4⟩:=h
  simp [h4.len]
def tW (es:List MapEntry) (clock:Nat):Prop:=(es.map (·.born)).Nodup/\∀ e∈es,e.born<clock
def xD (E:EH) (aD:List IntKind) (aW agg:Bool) (sz:Nat) (a:Option Nat) (l:List (List Int×List D)):Prop:=match a with
 |none=>l=[]
 |some b=>wl sz (l.map (·.2))/\∃ es clock,E b=some (.map es clock)/\cM E aD aW agg es.toList l/\tW es.toList clock
theorem xD.mono {E E':EH} (hE:E.le E') {aD:List IntKind} {aW agg:Bool} {sz:Nat} {a:Option Nat} {l:List (List Int×List D)} (h:xD E aD aW agg sz a l):xD E' aD aW agg sz a l:=by
 cases a with
 |none=>exact h
 |some b=>
  obtain⟨h1,es,clock,h2,h3,h4⟩:=h
  exact⟨h1,es,clock,hE _ _ h2,h3.mono hE,h4⟩
def Aj (E:EH) (o:Option (List D)) (x:Value):Prop:=(o=none/\x= .pointer none)∨∃ e b,o=some e/\x= .pointer (some ⟨b,0,none⟩)/\dZ E e b 0
theorem Aj.mono {E E':EH} (hE:E.le E') {o:Option (List D)} {x:Value} (h:Aj E o x):Aj E' o x:=h.elim .inl fun⟨e,b,h1,h2,h3⟩=> .inr ⟨e,b,h1,h2,dZ.mono hE h3⟩
inductive V where
 |any (v:Value)
 |int (k:IntKind) (n:Int)
 |lit (k:IntKind) (n:Int)
 |sb (b:Bool)
 |tt
 |ff
 |ptr (i off:Nat)
 |pa (i base o:Nat)
 |sl (i lo hi:Nat)
 |pe (i ix bw:Nat)
 |pw (i ix:Nat)
 |e0
 |sa (i base o s n c:Nat)
 |se (i ix o s n c:Nat)
 |dat (d:D)
 |dm (e:List D) (bw:Nat)
 |aa (o:Option (List D))
 |imp (aD:List IntKind) (aW agg:Bool) (sz:Nat) (l:List (List Int×List D))
 |agg (l:List V)
 |φ (l:List V)
 |fn (f:FuncId) (cap:List V)
 |mp (i:Nat)
 |ch (i:Nat)
 |arr (m:Nat) (cs:List D)
 deriving Inhabited
structure Re where
 blk:Nat
 cap:Nat
 sz:Nat
abbrev Sg:=List Re
inductive KO where
 |cells (l:List V)
 |row (ty:TypeId) (sz:Nat) (l:List (List D))
 |mp (aD:List IntKind) (aW:Bool) (agg:Bool) (sz:Nat) (l:List (List Int×List D))
 |ch (agg:Bool) (sz cap:Nat) (l:List (List D))
 |objs (A:List (List Re×List KO))
 |jP (a:List Re×List KO)
 |dead
 deriving Inhabited
abbrev KB:=List KO
mutual
def Den (σ:Sg) (E:EH):V->Value->Prop
 | .any v,x=>x=v
 | .int k n,x=>x= .int k n
 | .lit k n,x=>x= .int k n
 | .sb b,x=>x= .bool b
 | .tt,x=>x= .bool true
 | .ff,x=>x= .bool false
 | .ptr i off,x=>∃ r,σ[i]? =some r/\x= .pointer (some ⟨r.blk,off,none⟩)
 | .pa i base o,x=>∃ r,σ[i]? =some r/\x= .pointer (some ⟨r.blk,base+o,none⟩)
 | .sl i lo hi,x=>∃ r a,σ[i]? =some r/\x= .slice a (hi - lo) (r.cap - lo)/\lo<=hi/\hi<=r.cap/\(lo<r.cap->a=some ⟨r.blk,lo*r.sz,none⟩)
 | .pe i ix bw,x=>∃ r,σ[i]? =some r/\x= .pointer (some ⟨r.blk,ix*r.sz+bw,none⟩)
 | .pw i ix,x=>∃ r,σ[i]? =some r/\x= .pointer (some ⟨r.blk,ix*r.sz,none⟩)
 | .e0,x=>∃ a,x= .slice a 0 0
 | .sa i base o s n c,x=>∃ r a,σ[i]? =some r/\x= .slice a n c/\n<=c/\(0<c->a=some ⟨r.blk,base+o,none⟩)
 | .se i ix o s n c,x=>∃ r a,σ[i]? =some r/\x= .slice a n c/\n<=c/\(0<c->a=some ⟨r.blk,ix*r.sz+o,none⟩)
 | .dat d,x=>bX E d x
 | .dm e bw,x=>∃ b off,x= .pointer (some ⟨b,off+bw,none⟩)/\dZ E e b off
 | .aa o,x=>Aj E o x
 | .imp aD aW agg sz l,x=>∃ a,x= .map a/\xD E aD aW agg sz a l
 | .agg l,x=>∃ vs,x= .agg vs.toArray/\aV σ E l vs
 | .φ l,x=>∃ vs,x= .tuple vs.toArray/\az σ E l vs
 | .fn f cap,x=>∃ vs,x= .func (.func f) #[] vs.toArray/\az σ E cap vs
 | .mp i,x=>∃ r,σ[i]? =some r/\x= .map (some r.blk)
 | .ch i,x=>∃ r,σ[i]? =some r/\x= .chan (some r.blk)
 | .arr _ _,_=>False
def az (σ:Sg) (E:EH):List V->List Value->Prop
 | [],xs=>xs=[]
 |v::vs,xs=>∃ x xs',xs=x::xs'/\Den σ E v x/\az σ E vs xs'
def aV (σ:Sg) (E:EH):List V->List Value->Prop
 | [],xs=>xs=[]
 |v::vs,xs=>∃ ys zs,xs=ys++zs/\((∃ y,ys=[y]/\y.oneCell'=true/\Den σ E v y)∨(∃ m cs,v= .arr m cs/\cs.length=m/\bh E cs ys))/\aV σ E vs zs
end
def m_ (σ:Sg) (E:EH) (v:V) (ys:List Value):Prop:=(∃ y,ys=[y]/\y.oneCell'=true/\Den σ E v y)∨(∃ m cs,v= .arr m cs/\cs.length=m/\bh E cs ys)
theorem jR {σ τ:Sg} {i:Nat} {r:Re} (h:σ[i]? =some r):(σ++τ)[i]? =some r:=by
 have hi:i<σ.length:=by
  rcases kx i σ.length with h' | h'
  ·exact h'
  ·simp [iE h']at h
 rw[dY hi];exact h
mutual
theorem Den.mono {σ τ:Sg} {E E':EH} (h:E.le E'):∀{v:V} {x:Value},Den σ E v x->Den (σ++τ) E' v x
 | .any _,_,hd | .int ..,_,hd | .lit ..,_,hd | .sb _,_,hd | .tt,_,hd | .ff,_,hd | .e0,_,hd=>by simpa [Den]using hd
 | .arr ..,_,hd=>by simp only[Den]at hd
 | .ptr i off,_,hd=>by simp only[Den]at hd ⊢;obtain⟨r,h1,h2⟩:=hd;exact⟨r,jR h1,h2⟩
 | .pa i base o,_,hd=>by simp only[Den]at hd ⊢;obtain⟨r,h1,h2⟩:=hd;exact⟨r,jR h1,h2⟩
 | .mp i,_,hd=>by simp only[Den]at hd ⊢;obtain⟨r,h1,h2⟩:=hd;exact⟨r,jR h1,h2⟩
 | .ch i,_,hd=>by simp only[Den]at hd ⊢;obtain⟨r,h1,h2⟩:=hd;exact⟨r,jR h1,h2⟩
 | .sl i lo hi,_,hd=>by simp only[Den]at hd ⊢;obtain⟨r,a,h1,h2⟩:=hd;exact⟨r,a,jR h1,h2⟩
 | .sa ..,_,hd=>by simp only[Den]at hd ⊢;obtain⟨r,a,h1,h2⟩:=hd;exact⟨r,a,jR h1,h2⟩
 | .se ..,_,hd=>by simp only[Den]at hd ⊢;obtain⟨r,a,h1,h2⟩:=hd;exact⟨r,a,jR h1,h2⟩
 | .pe i ix bw,_,hd=>by simp only[Den]at hd ⊢;obtain⟨r,h1,h2⟩:=hd;exact⟨r,jR h1,h2⟩
 | .pw i ix,_,hd=>by simp only[Den]at hd ⊢;obtain⟨r,h1,h2⟩:=hd;exact⟨r,jR h1,h2⟩
 | .dm e bw,_,hd=>by simp only[Den]at hd ⊢;obtain⟨b,off,h1,h2⟩:=hd;exact⟨b,off,h1,dZ.mono h h2⟩
 | .aa o,_,hd=>by simp only[Den]at hd ⊢;exact hd.mono h
 | .imp ..,_,hd=>by simp only[Den]at hd ⊢;obtain⟨a,h1,h2⟩:=hd;exact⟨a,h1,h2.mono h⟩
 | .dat d,_,hd=>by simp only[Den]at hd ⊢;exact bX.mono h hd
 | .agg l,_,hd=>by simp only[Den]at hd ⊢;obtain⟨vs,h1,h2⟩:=hd;exact⟨vs,h1,aV.mono h h2⟩
 | .φ l,_,hd=>by simp only[Den]at hd ⊢;obtain⟨vs,h1,h2⟩:=hd;exact⟨vs,h1,az.mono h h2⟩
 | .fn f cap,_,hd=>by simp only[Den]at hd ⊢;obtain⟨vs,h1,h2⟩:=hd;exact⟨vs,h1,az.mono h h2⟩
theorem az.mono {σ τ:Sg} {E E':EH} (h:E.le E'):∀{vs:List V} {xs:List Value},az σ E vs xs->az (σ++τ) E' vs xs
 | [],_,hd=>by simpa [az]using hd
 |v::vs,_,hd=>by
  simp only[az]at hd ⊢
  obtain⟨x,xs',h1,h2,h3⟩:=hd
  exact⟨x,xs',h1,Den.mono h h2,az.mono h h3⟩
theorem aV.mono {σ τ:Sg} {E E':EH} (h:E.le E'):∀{vs:List V} {xs:List Value},aV σ E vs xs->aV (σ++τ) E' vs xs
 | [],_,hd=>by simpa [aV]using hd
 |v::vs,_,hd=>by
  simp only[aV]at hd ⊢
  obtain⟨ys,zs,h1,h2,h3⟩:=hd
  refine⟨ys,zs,h1,?_,aV.mono h h3⟩
  rcases h2 with ⟨y,e,o,hy⟩ | ⟨m,cs,e,hl,hd⟩
  ·exact .inl ⟨y,e,o,Den.mono h hy⟩
  ·exact .inr ⟨m,cs,e,hl,hd.mono h⟩
end
theorem az.len {σ:Sg} {E:EH}:∀{vs:List V} {xs:List Value},az σ E vs xs->xs.length=vs.length
 | [],_,h=>by simp only[az]at h;simp [h]
 |v::vs,_,h=>by
  simp only[az]at h
  obtain⟨x,xs',rfl,_,h2⟩:=h
  simp [az.len h2]
theorem az.get {σ:Sg} {E:EH}:∀{vs:List V} {xs:List Value},az σ E vs xs->∀{i:Nat} {v:V},vs[i]? =some v->∃ x,xs[i]? =some x/\Den σ E v x
 | [],_,_,_,_,hv=>by simp at hv
 |v::vs,_,h,i,u,hv=>by
  simp only[az]at h
  obtain⟨x,xs',rfl,h1,h2⟩:=h
  cases i with
  |zero=>simp at hv;subst hv;exact⟨x,rfl,h1⟩
  |succ i=>simpa using az.get h2 (i:=i) (by simpa using hv)
theorem az.append {σ:Sg} {E:EH}:∀{vs:List V} {xs:List Value},az σ E vs xs->∀{us:List V} {ys:List Value},az σ E us ys->az σ E (vs++us) (xs++ys)
 | [],_,h,_,_,hu=>by simp only[az]at h;simpa [h]using hu
 |v::vs,_,h,_,_,hu=>by
  simp only[az]at h
  obtain⟨x,xs',rfl,h1,h2⟩:=h
  simp only[List.cons_append,az]
  exact⟨x,xs'++_,rfl,h1,h2.append hu⟩
theorem az.nil {σ:Sg} {E:EH}:az σ E [] []:=by simp [az]
theorem az.cons {σ:Sg} {E:EH} {v:V} {x:Value} {vs:List V} {xs:List Value} (h:Den σ E v x) (k:az σ E vs xs):az σ E (v::vs) (x::xs):=by
 simp only[az];exact⟨x,xs,rfl,h,k⟩
theorem aV.nil {σ:Sg} {E:EH}:aV σ E [] []:=by simp [aV]
theorem aV.cons {σ:Sg} {E:EH} {v:V} {ys:List Value} {vs:List V} {xs:List Value} (h:m_ σ E v ys) (k:aV σ E vs xs):aV σ E (v::vs) (ys++xs):=by
 simp only[aV];exact⟨ys,xs,rfl,h,k⟩
theorem aV.ju {σ:Sg} {E:EH} {v:V} {y:Value} {vs:List V} {xs:List Value} (h:Den σ E v y) (h1:y.oneCell'=true) (k:aV σ E vs xs):aV σ E (v::vs) (y::xs):=
 aV.cons (ys:=[y]) (.inl ⟨y,rfl,h1,h⟩) k
theorem aV.iT {σ:Sg} {E:EH} {v:V} {vs:List V} {xs:List Value} (h:aV σ E (v::vs) xs):∃ ys zs,xs=ys++zs/\m_ σ E v ys/\aV σ E vs zs:=by
 simp only[aV]at h;exact h
theorem aV.append {σ:Sg} {E:EH}:∀{vs:List V} {xs:List Value},aV σ E vs xs->∀{us:List V} {ys:List Value},aV σ E us ys->aV σ E (vs++us) (xs++ys)
 | [],_,h,_,_,hu=>by simp only[aV]at h;simpa [h]using hu
 |v::vs,_,h,_,_,hu=>by
  obtain⟨ys,zs,rfl,h1,h2⟩:=h.iT
  rw[dX]
  exact aV.cons h1 (h2.append hu)
def V.w:V->Nat
 | .arr m _=>m
 |_=>1
theorem m_.len {σ:Sg} {E:EH} {v:V} {ys:List Value} (h:m_ σ E v ys):ys.length=v.w:=by
 rcases h with ⟨y,rfl,_,hy⟩ | ⟨m,cs,rfl,hl,hd⟩
 ·cases v<;>first | rfl | (simp only[Den]at hy)
 ·rw[hd.len,hl];rfl
theorem m_.one {σ:Sg} {E:EH} {v:V} {ys:List Value} (h:m_ σ E v ys):∀ c∈ys,c.oneCell'=true:=by
 rcases h with ⟨y,rfl,h1,hy⟩ | ⟨m,cs,rfl,hl,hd⟩
 ·intro c hc;simp at hc;subst hc;exact h1
 ·exact hd.one
def wid:List V->Nat
 | []=>0
 |v::vs=>v.w+wid vs
theorem aV.len {σ:Sg} {E:EH}:∀{vs:List V} {xs:List Value},aV σ E vs xs->xs.length=wid vs
 | [],_,h=>by simp only[aV]at h;simp [h,wid]
 |v::vs,_,h=>by
  obtain⟨ys,zs,rfl,h1,h2⟩:=h.iT
  rw[bn,h1.len,h2.len];rfl
theorem aV.one {σ:Sg} {E:EH}:∀{vs:List V} {xs:List Value},aV σ E vs xs->∀ c∈xs,c.oneCell'=true
 | [],_,h,c,hc=>by simp only[aV]at h;subst h;cases hc
 |v::vs,_,h,c,hc=>by
  obtain⟨ys,zs,rfl,h1,h2⟩:=h.iT
  rcases dz.1 hc with hc | hc
  ·exact h1.one c hc
  ·exact h2.one c hc
def sq:Nat->Nat->Option Nat
 |n,0=>some n
 | 0,_+1=>none
 |n+1,w+1=>sq n w
theorem xj:∀{n w k:Nat},sq n w=some k->n=w+k
 |n,0,k,h=>by simp [sq]at h;omega
 | 0,w+1,k,h=>by simp [sq]at h
 |n+1,w+1,k,h=>by have:=xj (n:=n) (w:=w) (by simpa [sq]using h);omega
def rC:List V->Nat->Option (List V)
 |l,0=>some l
 | [],_+1=>none
 |v::l,n+1=>match sq (n+1) v.w with | some k=>rC l k | none=>none
def vb:List V->Nat->Option (List V)
 |_,0=>some []
 | [],_+1=>none
 |v::l,n+1=>match sq (n+1) v.w with
  |some k=>match vb l k with | some r=>some (v::r) | none=>none
  |none=>none
theorem s_ {σ:Sg} {E:EH}:∀{l:List V} {n:Nat} {r:List V},rC l n=some r->∀{xs:List Value},aV σ E l xs->aV σ E r (xs.drop n)/\n<=xs.length
 |l,0,r,h,xs,hd=>by simp [rC]at h;subst h;exact⟨by simpa using hd,bj _⟩
 | [],n+1,r,h,xs,hd=>by simp [rC]at h
 |v::l,n+1,r,h,xs,hd=>by
  simp only[rC]at h
  split at h
  ·rename_i k hk
   have e:=xj hk
   obtain⟨ys,zs,rfl,h1,h2⟩:=hd.iT
   obtain⟨h3,h4⟩:=s_ h h2
   have hl:=h1.len
   rw[e,<- hl,List.drop_length_add_append]
   exact⟨h3,by simp;omega⟩
  ·cases h
theorem D9 {σ:Sg} {E:EH}:∀{l:List V} {n:Nat} {r:List V},vb l n=some r->∀{xs:List Value},aV σ E l xs->aV σ E r (xs.take n)/\n<=xs.length
 |l,0,r,h,xs,hd=>by simp [vb]at h;subst h;exact⟨by simp [aV],bj _⟩
 | [],n+1,r,h,xs,hd=>by simp [vb]at h
 |v::l,n+1,r,h,xs,hd=>by
  simp only[vb]at h
  split at h<;>try (cases h;done)
  rename_i k hk
  split at h<;>try (cases h;done)
  rename_i r' hr
  cases h
  have e:=xj hk
  obtain⟨ys,zs,rfl,h1,h2⟩:=hd.iT
  obtain⟨h3,h4⟩:=D9 hr h2
  have hl:=h1.len
  rw[e,<- hl,List.take_length_add_append]
  exact⟨aV.cons h1 h3,by simp;omega⟩
def jC:List V->Nat->List V->Option (List V)
 |l,0,vs=>match rC l (wid vs)with | some r=>some (vs++r) | none=>none
 | [],_+1,_=>none
 |v::l,n+1,vs=>match sq (n+1) v.w with
  |some k=>match jC l k vs with | some r=>some (v::r) | none=>none
  |none=>none
theorem u7 {σ:Sg} {E:EH}:∀{l:List V} {n:Nat} {vs r:List V},jC l n vs=some r->∀{xs:List Value},aV σ E l xs->∀{ys:List Value},aV σ E vs ys->aV σ E r (splice xs n ys)/\n+ys.length<=xs.length
 |l,0,vs,r,h,xs,hd,ys,hv=>by
  simp only[jC]at h
  split at h<;>try (cases h;done)
  rename_i t ht
  cases h
  obtain⟨h1,h2⟩:=s_ ht hd
  rw[<- hv.len]at h1 h2
  refine⟨?_,by omega⟩
  unfold splice
  simpa using hv.append h1
 | [],n+1,vs,r,h,xs,hd,ys,hv=>by simp [jC]at h
 |v::l,n+1,vs,r,h,xs,hd,ys,hv=>by
  simp only[jC]at h
  split at h<;>try (cases h;done)
  rename_i k hk
  split at h<;>try (cases h;done)
  rename_i r' hr
  cases h
  have e:=xj hk
  obtain⟨us,zs,rfl,h1,h2⟩:=hd.iT
  obtain⟨h3,h4⟩:=u7 hr h2 hv
  have hl:=h1.len
  refine⟨?_,by simp;omega⟩
  have:splice (us++zs) (n+1) ys=us++splice zs k ys:=by
   unfold splice
   rw[e,<- hl,List.take_length_add_append,g_,List.drop_length_add_append]
   simp
  rw[this]
  exact aV.cons h1 h3
def jm (l:List V) (base:Nat):Option V:=match rC l base with | some (v:: _)=>some v | _=>none
theorem Dp {σ:Sg} {E:EH} {l:List V} {base m:Nat} {cs:List D} (h:jm l base=some (.arr m cs)) {xs:List Value} (hd:aV σ E l xs):
  ∃ ys,bh E cs ys/\cs.length=m/\base+m<=xs.length/\(xs.drop base).take m=ys:=by
 unfold jm at h
 split at h<;>try (cases h;done)
 rename_i v r hr
 cases h
 obtain⟨h1,h2⟩:=s_ hr hd
 obtain⟨ys,zs,e,h3,h4⟩:=h1.iT
 rcases h3 with ⟨y,_,_,hy⟩ | ⟨m',cs',e',hl,QU⟩
 ·simp only[Den]at hy
 ·cases e'
  have j7:=QU.len
  refine⟨ys,QU,hl,?_,?_⟩
  ·have:=congrArg List.length e
   simp at this
   omega
  ·rw[e,<- hl,<- j7,List.take_left]
def jp (E:EH) (agg:Bool):List Value->List (List D)->Prop
 | [],l=>l=[]
 |v::vs,l=>∃ c l',l=c::l'/\(∃ ys,v=eF agg ys/\bh E c ys)/\jp E agg vs l'
theorem jp.mono {E E':EH} (hE:E.le E') {agg:Bool}:∀{vs:List Value} {l:List (List D)},jp E agg vs l->jp E' agg vs l
 | [],_,h=>by simpa only[jp]using h
 |v::vs,_,h=>by
  simp only[jp]at h ⊢
  obtain⟨c,l',h0,⟨ys,h1,h2⟩,h3⟩:=h
  exact⟨c,l',h0,⟨ys,h1,h2.mono hE⟩,h3.mono hE⟩
theorem jp.len {E:EH} {agg:Bool}:∀{vs:List Value} {l:List (List D)},jp E agg vs l->vs.length=l.length
 | [],_,h=>by simp only[jp]at h;subst h;rfl
 |v::vs,_,h=>by
  simp only[jp]at h
  obtain⟨c,l',rfl,_,h3⟩:=h
  simp [h3.len]
theorem jp.snoc {E:EH} {agg:Bool} {v:Value} {c:List D} (h1:∃ ys,v=eF agg ys/\bh E c ys):∀{vs:List Value} {l:List (List D)},jp E agg vs l->jp E agg (vs++[v]) (l++[c])
 | [],_,h=>by
  simp only[jp]at h;subst h
  simp only[jr,jp]
  exact⟨c,[],rfl,h1,rfl⟩
 |u::vs,_,h=>by
  simp only[jp]at h
  obtain⟨d,l',rfl,h2,h3⟩:=h
  simp only[List.cons_append,jp]
  exact⟨d,l'++[c],rfl,h2,h3.snoc h1⟩
def jq (σ:Sg) (E:EH) (W:World) (r:Re):KO->Prop
 | .cells l=>∃ arr ty,W.heap[r.blk]? =some (.cells arr ty (0,0))/\aV σ E l arr.toList
 | .row ty sz l=>r.sz=sz/\wl sz l/\l.length<=r.cap/\r.cap<=maxLen/\
  (r.cap=0∨∃ arr,W.heap[r.blk]? =some (.cells arr ty (0,0))/\arr.size=r.cap*sz/\bh E l.flatten (arr.toList.take (l.length*sz)))
 | .mp aD aW agg sz l=>wl sz (l.map (·.2))/\∃ es clock,W.heap[r.blk]? =some (.map es clock)/\cM E aD aW agg es.toList l/\tW es.toList clock
 | .ch agg sz cap l=>wl sz l/\l.length<=cap/\∃ buf s r',W.heap[r.blk]? =some (.chan cap buf false s r' false)/\jp E agg buf.toList l
 | .objs _=>False
 | .jP _=>False
 | .dead=>True
def o8 (r:Re):KO->Nat->Prop
 | .cells _,b=>b=r.blk
 | .row ..,b=>r.cap≠0/\b=r.blk
 | .mp ..,b=>b=r.blk
 | .ch ..,b=>b=r.blk
 | .objs _,_=>False
 | .jP _,_=>False
 | .dead,_=>False
def jJ (a:Sg×KB) (b:Nat):Prop:=∃(i:Nat) (r:Re) (o:KO),a.1[i]? =some r/\a.2[i]? =some o/\o8 r o b
structure nW (E:EH) (W:World) (a:Sg×KB):Prop where
 len:a.1.length=a.2.length
 obj:∀(i:Nat) (r:Re) (o:KO),a.1[i]? =some r->a.2[i]? =some o->jq a.1 E W r o
 eH:∀(i j:Nat) (r r':Re) (o o':KO) (b:Nat),i≠j->a.1[i]? =some r->a.2[i]? =some o->a.1[j]? =some r'->a.2[j]? =some o'->o8 r o b->o8 r' o' b->False
structure qj (E:EH) (W:World) (A:List (Sg×KB)):Prop where
 ok:∀ a∈A,nW E W a
 eH:∀(k m:Nat) (a a':Sg×KB) (b:Nat),k≠m->A[k]? =some a->A[m]? =some a'->jJ a b->jJ a' b->False
def oz (τ:Sg) (b:Nat):Prop:=∃ r,τ[0]? =some r/\r.blk=b
def ij (σ:Sg) (E:EH) (W:World) (r:Re):KO->Prop
 | .objs A=>qj E W A
 | .jP a=>nW E W a/\oz a.1 r.blk
 | .cells l=>jq σ E W r (.cells l)
 | .row ty sz l=>jq σ E W r (.row ty sz l)
 | .mp aD aW agg sz l=>jq σ E W r (.mp aD aW agg sz l)
 | .ch agg sz cap l=>jq σ E W r (.ch agg sz cap l)
 | .dead=>True
def owned (r:Re):KO->Nat->Prop
 | .cells _,b=>b=r.blk
 | .row ..,b=>r.cap≠0/\b=r.blk
 | .mp ..,b=>b=r.blk
 | .ch ..,b=>b=r.blk
 | .objs A,b=>∃ a∈A,jJ a b
 | .jP a,b=>jJ a b
 | .dead,_=>False
theorem jq.up {σ:Sg} {E:EH} {W:World} {r:Re} {o:KO} (h:jq σ E W r o):ij σ E W r o:=by
 cases o<;>first | exact h | exact h.elim
theorem o8.up {r:Re} {o:KO} {b:Nat} (h:o8 r o b):owned r o b:=by
 cases o<;>first | exact h | exact h.elim
theorem jq.lt {σ:Sg} {E:EH} {W:World} {r:Re} {o:KO} (h:jq σ E W r o) {b:Nat} (ho:o8 r o b):b<W.heap.size:=by
 cases o with
 |cells l=>
  obtain⟨arr,ty,h1,_⟩:=h
  simp only[o8]at ho
  subst ho
  exact(Array.getElem?_eq_some_iff.1 h1).1
 |row ty sz l=>
  simp only[o8]at ho
  obtain⟨_,_,_,_,h4⟩:=h
  rcases h4 with h4 | ⟨arr,h4,_⟩
  ·exact absurd h4 ho.1
  ·rw[ho.2];exact(Array.getElem?_eq_some_iff.1 h4).1
 |mp aD aW agg sz l=>
  obtain⟨_,es,ck,h1,_⟩:=h
  simp only[o8]at ho
  subst ho
  exact(Array.getElem?_eq_some_iff.1 h1).1
 |ch agg sz cap l=>
  obtain⟨_,_,bf,s,rr,h1,_⟩:=h
  simp only[o8]at ho
  subst ho
  exact(Array.getElem?_eq_some_iff.1 h1).1
 |objs A=>exact h.elim
 |jP a=>exact h.elim
 |dead=>exact ho.elim
theorem jq.mono {σ τ:Sg} {E E':EH} {W W':World} (hE:E.le E') {r:Re} {o:KO} (h:jq σ E W r o) (hb:∀ b,o8 r o b->W'.heap[b]? =W.heap[b]?):jq (σ++τ) E' W' r o:=by
 cases o with
 |cells l=>
  obtain⟨arr,ty,h1,h2⟩:=h
  exact⟨arr,ty,by rw[hb r.blk rfl];exact h1,aV.mono hE h2⟩
 |row ty sz l=>
  obtain⟨h0,h1,h2,h3,h4⟩:=h
  refine⟨h0,h1,h2,h3,?_⟩
  rcases h4 with h4 | ⟨arr,h4,h5⟩
  ·exact .inl h4
  ·by_cases hc:r.cap=0
   ·exact .inl hc
   ·exact .inr ⟨arr,by rw[hb r.blk ⟨hc,rfl⟩];exact h4,h5.1,h5.2.mono hE⟩
 |mp aD aW agg sz l=>
  obtain⟨h0,es,ck,h1,h2,h3⟩:=h
  exact⟨h0,es,ck,by rw[hb r.blk rfl];exact h1,h2.mono hE,h3⟩
 |ch agg sz cap l=>
  obtain⟨h0,H0,bf,s,rr,h1,h2⟩:=h
  exact⟨h0,H0,bf,s,rr,by rw[hb r.blk rfl];exact h1,h2.mono hE⟩
 |objs A=>exact h.elim
 |jP a=>exact h.elim
 |dead=>trivial
theorem nW.lt {E:EH} {W:World} {a:Sg×KB} (h:nW E W a) {b:Nat} (hb:jJ a b):b<W.heap.size:=by
 obtain⟨i,r,o,h1,h2,h3⟩:=hb
 exact(h.obj i r o h1 h2).lt h3
theorem nW.mono {E E':EH} {W W':World} (hE:E.le E') {a:Sg×KB} (h:nW E W a) (hb:∀ b,jJ a b->W'.heap[b]? =W.heap[b]?):nW E' W' a:=
 ⟨h.len,fun i r o h1 h2=>by
  have:=(h.obj i r o h1 h2).mono (τ:=[]) (W':=W') hE (fun b h3=>hb b ⟨i,r,o,h1,h2,h3⟩)
  simpa using this,h.eH⟩
theorem qj.mono {E E':EH} {W W':World} (hE:E.le E') {A:List (Sg×KB)} (h:qj E W A) (hb:∀ b,(∃ a∈A,jJ a b)->W'.heap[b]? =W.heap[b]?):qj E' W' A:=
 ⟨fun a ha=>(h.ok a ha).mono hE (fun b h1=>hb b ⟨a,ha,h1⟩),h.eH⟩
def dc (σ:Sg) (kb:KB) (b:Nat):Prop:=∃(i:Nat) (r:Re) (o:KO),σ[i]? =some r/\kb[i]? =some o/\owned r o b
structure Inv (σ:Sg) (E:EH) (kb:KB) (W:World):Prop where
 len:σ.length=kb.length
 obj:∀(i:Nat) (r:Re) (o:KO),σ[i]? =some r->kb[i]? =some o->ij σ E W r o
 eH:∀(i j:Nat) (r r':Re) (o o':KO) (b:Nat),i≠j->σ[i]? =some r->kb[i]? =some o->σ[j]? =some r'->kb[j]? =some o'->owned r o b->owned r' o' b->False
 fe:∀ b o,E b=some o->W.heap[b]? =some o
 sep:∀ b,dc σ kb b->E b=none
theorem ij.lt {σ:Sg} {E:EH} {W:World} {r:Re} {o:KO} (h:ij σ E W r o) {b:Nat} (ho:owned r o b):b<W.heap.size:=by
 cases o with
 |objs A=>obtain⟨a,ha,hb⟩:=ho;exact(h.ok a ha).lt hb
 |jP a=>exact h.1.lt ho
 |cells l=>exact jq.lt (σ:=σ) (o:=.cells l) h ho
 |row ty sz l=>exact jq.lt (σ:=σ) (o:=.row ty sz l) h ho
 |mp aD aW agg sz l=>exact jq.lt (σ:=σ) (o:=.mp aD aW agg sz l) h ho
 |ch agg sz cap l=>exact jq.lt (σ:=σ) (o:=.ch agg sz cap l) h ho
 |dead=>exact ho.elim
theorem Inv.lt {σ:Sg} {E:EH} {kb:KB} {W:World} (h:Inv σ E kb W) {b:Nat} (ho:dc σ kb b):b<W.heap.size:=by
 obtain⟨i,r,o,h1,h2,h3⟩:=ho
 exact(h.obj i r o h1 h2).lt h3
theorem ij.mono {σ τ:Sg} {E E':EH} {W W':World} (hE:E.le E') {r:Re} {o:KO} (h:ij σ E W r o) (hb:∀ b,owned r o b->W'.heap[b]? =W.heap[b]?):ij (σ++τ) E' W' r o:=by
 cases o with
 |objs A=>exact qj.mono hE h hb
 |jP a=>exact⟨h.1.mono hE hb,h.2⟩
 |cells l=>exact jq.mono (σ:=σ) (τ:=τ) (o:=.cells l) hE h hb
 |row ty sz l=>exact jq.mono (σ:=σ) (τ:=τ) (o:=.row ty sz l) hE h hb
 |mp aD aW agg sz l=>exact jq.mono (σ:=σ) (τ:=τ) (o:=.mp aD aW agg sz l) hE h hb
 |ch agg sz cap l=>exact jq.mono (σ:=σ) (τ:=τ) (o:=.ch agg sz cap l) hE h hb
 |dead=>trivial
structure ue (O:Nat->Prop) (W W':World):Prop where
 os:W'.os=W.os
 tape:W'.tape=W.tape
 output:W'.output=W.output
 size:W.heap.size<=W'.heap.size
 block:∀ k,k<W.heap.size->¬ O k->W'.heap[k]? =W.heap[k]?
theorem ue.refl (O:Nat->Prop) (W:World):ue O W W:=⟨rfl,rfl,rfl,ar _,fun _ _ _=>rfl⟩
structure Step (σ:Sg) (E:EH) (kb:KB) (W:World) (σ':Sg) (E':EH) (kb':KB) (W':World):Prop where
 inv:Inv σ' E' kb' W'
 c8:ue (dc σ kb) W W'
 pre:∃ τ,σ'=σ++τ
 le:E.le E'
 own:∀ b,dc σ' kb' b->dc σ kb b∨W.heap.size<=b
 new:∀ b o,E' b=some o->E b=some o∨dc σ kb b∨W.heap.size<=b
theorem Step.refl {σ:Sg} {E:EH} {kb:KB} {W:World} (h:Inv σ E kb W):Step σ E kb W σ E kb W:=
 ⟨h,ue.refl _ _,⟨[],by simp⟩,EH.le.refl E,fun _ h=> .inl h,fun _ _ h=> .inl h⟩
theorem Step.trans {σ σ' nV:Sg} {E E' MA:EH} {kb kb' j8:KB} {W W' W'':World}
  (h:Step σ E kb W σ' E' kb' W') (k:Step σ' E' kb' W' nV MA j8 W''):Step σ E kb W nV MA j8 W'':=by
 have hsz:=h.c8.size
 refine⟨k.inv,⟨k.c8.os.trans h.c8.os,k.c8.tape.trans h.c8.tape,k.c8.output.trans h.c8.output,mc hsz k.c8.size,fun b hb hn=>?_⟩,?_,h.le.trans k.le,fun b hb=>?_,fun b o hb=>?_⟩
 ·rw[k.c8.block b (by omega) (fun ho=>?_)]
  ·exact h.c8.block b hb hn
  ·rcases h.own b ho with h1 | h1
   ·exact hn h1
   ·omega
 ·obtain⟨τ,rfl⟩:=h.pre
  obtain⟨τ',rfl⟩:=k.pre
  exact⟨τ++τ',by simp⟩
 ·rcases k.own b hb with h1 | h1
  ·exact h.own b h1
  ·exact .inr (by omega)
 ·rcases k.new b o hb with h1 | h1 | h1
  ·exact h.new b o h1
  ·rcases h.own b h1 with h2 | h2
   ·exact .inr (.inl h2)
   ·exact .inr (.inr h2)
  ·exact .inr (.inr (by omega))
theorem Inv.grow {σ:Sg} {E:EH} {kb:KB} {W W':World} (h:Inv σ E kb W) (r:Re) (o:KO) (hos:W'.os=W.os) (uI:W'.tape=W.tape) (hout:W'.output=W.output) (hsz:W.heap.size<=W'.heap.size)
  (hold:∀ b,b<W.heap.size->W'.heap[b]? =W.heap[b]?) (hr:∀ b,owned r o b->W.heap.size<=b) (ho:ij (σ++[r]) E W' r o):Step σ E kb W (σ++[r]) E (kb++[o]) W':=by
 have hown:∀ b,dc (σ++[r]) (kb++[o]) b->dc σ kb b∨W.heap.size<=b:=by
  rintro b ⟨i,r',o',h1,h2,h3⟩
  rcases Nat.lt_trichotomy i σ.length with hi | hi | hi
  ·rw[dY hi]at h1
   rw[dY (by rw[<- h.len];exact hi)]at h2
   exact .inl ⟨i,r',o',h1,h2,h3⟩
  ·subst hi
   rw[fk (ar _)]at h1
   rw[h.len,fk (ar _)]at h2
   simp at h1 h2
   subst h1;subst h2
   exact .inr (hr b h3)
  ·rw[iE (by simp;omega)]at h1;cases h1
 refine⟨⟨by simp [h.len],fun i r' o' h1 h2=>?_,fun i j r1 r2 o1 o2 b hij h1 h2 h3 h4 h5 h6=>?_,fun b x hb=>?_,fun b hb=>?_⟩,⟨hos,uI,hout,hsz,fun b hb _=>hold b hb⟩,⟨[r],rfl⟩,EH.le.refl E,hown,fun b x hb=> .inl hb⟩
 ·rcases Nat.lt_trichotomy i σ.length with hi | hi | hi
  ·rw[dY hi]at h1
   rw[dY (by rw[<- h.len];exact hi)]at h2
   exact(h.obj i r' o' h1 h2).mono (EH.le.refl E) (fun b hb=>hold b ((h.obj i r' o' h1 h2).lt hb))
  ·subst hi
   rw[fk (ar _)]at h1
   rw[h.len,fk (ar _)]at h2
   simp at h1 h2
   subst h1;subst h2
   exact ho
  ·rw[iE (by simp;omega)]at h1;cases h1
 ·have case:∀(i:Nat) (r':Re) (o':KO),(σ++[r])[i]? =some r'->(kb++[o])[i]? =some o'->(σ[i]? =some r'/\kb[i]? =some o')∨(i=σ.length/\r'=r/\o'=o):=by
   intro i r' o' h1 h2
   rcases Nat.lt_trichotomy i σ.length with hi | hi | hi
   ·rw[dY hi]at h1
    rw[dY (by rw[<- h.len];exact hi)]at h2
    exact .inl ⟨h1,h2⟩
   ·subst hi
    rw[fk (ar _)]at h1
    rw[h.len,fk (ar _)]at h2
    simp at h1 h2
    exact .inr ⟨rfl,h1.symm,h2.symm⟩
   ·rw[iE (by simp;omega)]at h1;cases h1
  rcases case i r1 o1 h1 h2 with ⟨a1,a2⟩ | ⟨a1,a2,a3⟩<;>rcases case j r2 o2 h3 h4 with ⟨b1,b2⟩ | ⟨b1,b2,b3⟩
  ·exact h.eH i j r1 r2 o1 o2 b hij a1 a2 b1 b2 h5 h6
  ·subst b2;subst b3
   have:=(h.obj i r1 o1 a1 a2).lt h5
   have:=hr b h6
   omega
  ·subst a2;subst a3
   have:=(h.obj j r2 o2 b1 b2).lt h6
   have:=hr b h5
   omega
  ·omega
 ·have:=h.fe b x hb
  rw[hold b (Array.getElem?_eq_some_iff.1 this).1]
  exact this
 ·rcases hown b hb with h1 | h1
  ·exact h.sep b h1
  ·cases hE:E b with
   |none=>rfl
   |some x=>
    have:=(Array.getElem?_eq_some_iff.1 (h.fe b x hE)).1
    omega
theorem Inv.alloc {σ:Sg} {E:EH} {kb:KB} {W:World} (h:Inv σ E kb W) (ob:Obj) (r:Re) (o:KO) (hr:∀ b,owned r o b->b=W.heap.size)
  (ho:ij (σ++[r]) E (W.alloc ob) r o):Step σ E kb W (σ++[r]) E (kb++[o]) (W.alloc ob):=
 h.grow r o rfl rfl rfl (by simp) (fun b hb=>by
  show(W.heap.push ob)[b]? =_
  rw[Array.getElem?_push,if_neg (by omega)]) (fun b hb=>by rw[hr b hb];exact ar _) ho
theorem Inv.set {σ:Sg} {E:EH} {kb:KB} {W W':World} (h:Inv σ E kb W) {i:Nat} {r:Re} {o o':KO} (hs:σ[i]? =some r) (hk:kb[i]? =some o)
  (hos:W'.os=W.os) (uI:W'.tape=W.tape) (hout:W'.output=W.output) (hsz:W'.heap.size=W.heap.size)
  (cz:∀ b,¬ owned r o b->W'.heap[b]? =W.heap[b]?) (hr:∀ b,owned r o' b->owned r o b) (ho:ij σ E W' r o'):Step σ E kb W σ E (kb.set i o') W':=by
 have hi:i<kb.length:=by
  rcases kx i kb.length with h' | h'
  ·exact h'
  ·simp [iE h']at hk
 have df:∀(j:Nat) (x:KO),(kb.set i o')[j]? =some x->(j=i/\x=o')∨(j≠i/\kb[j]? =some x):=by
  intro j x hj
  by_cases hji:j=i
  ·subst hji
   rw[iN hi]at hj
   exact .inl ⟨rfl,(bb.inj hj).symm⟩
  ·rw[gP (Ne.symm hji)]at hj
   exact .inr ⟨hji,hj⟩
 have hown:∀ b,dc σ (kb.set i o') b->dc σ kb b:=by
  rintro b ⟨j,r',x,h1,h2,h3⟩
  rcases df j x h2 with ⟨rfl,rfl⟩ | ⟨hji,h4⟩
  ·rw[hs]at h1;cases h1
   exact⟨_,r,o,hs,hk,hr b h3⟩
  ·exact⟨j,r',x,h1,h4,h3⟩
 refine⟨⟨by simp [h.len],fun j r' x h1 h2=>?_,fun a c r1 r2 o1 o2 b hac h1 h2 h3 h4 h5 h6=>?_,fun b x hb=>?_,fun b hb=>h.sep b (hown b hb)⟩,⟨hos,uI,hout,by omega,fun b _ hn=>cz b (fun hb=>hn ⟨i,r,o,hs,hk,hb⟩)⟩,⟨[],by simp⟩,EH.le.refl E,fun b hb=> .inl (hown b hb),fun b x hb=> .inl hb⟩
 ·rcases df j x h2 with ⟨rfl,rfl⟩ | ⟨hji,h4⟩
  ·rw[hs]at h1;cases h1;exact ho
  ·have:=(h.obj j r' x h1 h4).mono (τ:=[]) (W':=W') (EH.le.refl E) (fun b hb=>cz b (fun hb'=>h.eH i j r r' o x b (Ne.symm hji) hs hk h1 h4 hb' hb))
   simpa using this
 ·have up:∀(j:Nat) (r':Re) (x:KO),σ[j]? =some r'->(kb.set i o')[j]? =some x->owned r' x b->∃ y,kb[j]? =some y/\owned r' y b:=by
   intro j r' x h1 h2 h3
   rcases df j x h2 with ⟨rfl,rfl⟩ | ⟨hji,h4⟩
   ·rw[hs]at h1;cases h1;exact⟨o,hk,hr b h3⟩
   ·exact⟨x,h4,h3⟩
  obtain⟨y1,p1,q1⟩:=up a r1 o1 h1 h2 h5
  obtain⟨y2,p2,q2⟩:=up c r2 o2 h3 h4 h6
  exact h.eH a c r1 r2 y1 y2 b hac h1 p1 h3 p2 q1 q2
 ·rw[cz b (fun hb'=>?_)]
  ·exact h.fe b x hb
  ·have:=h.sep b ⟨i,r,o,hs,hk,hb'⟩
   rw[this]at hb;cases hb
theorem Inv.drew {σ:Sg} {E:EH} {kb:KB} {W:World} (h:Inv σ E kb W):Step σ E kb W σ E kb W.drew:=
 ⟨⟨h.len,fun i r o h1 h2=>by
  have:=(h.obj i r o h1 h2).mono (τ:=[]) (W':=W.drew) (EH.le.refl E) (fun _ _=>rfl)
  simpa using this,h.eH,h.fe,h.sep⟩,⟨rfl,rfl,rfl,ar _,fun _ _ _=>rfl⟩,⟨[],by simp⟩,EH.le.refl E,fun _ h=> .inl h,fun _ _ h=> .inl h⟩
theorem Inv.freeze {σ:Sg} {E:EH} {kb:KB} {W:World} (h:Inv σ E kb W) {i:Nat} {r:Re} {ty:TypeId} {sz:Nat} {l:List (List D)} (hs:σ[i]? =some r) (hk:kb[i]? =some (.row ty sz l)):
  ∃ E',Step σ E kb W σ E' (kb.set i .dead) W/\(r.cap≠0->dZ E' l.flatten r.blk 0):=by
 have hi:i<kb.length:=(bH.1 hk).1
 have ho:=h.obj i r _ hs hk
 let E':EH:=fun b=>if r.cap≠0/\b=r.blk then W.heap[b]? else E b
 have hle:E.le E':=fun b x hb=>by
  show(if r.cap≠0/\b=r.blk then W.heap[b]? else E b)=some x
  by_cases hc:r.cap≠0/\b=r.blk
  ·have:=h.sep b ⟨i,r,_,hs,hk,hc⟩
   rw[this]at hb;cases hb
  ·rw[if_neg hc];exact hb
 have df:∀(j:Nat) (x:KO),(kb.set i .dead)[j]? =some x->(j=i/\x= .dead)∨(j≠i/\kb[j]? =some x):=by
  intro j x hj
  by_cases hji:j=i
  ·subst hji
   rw[iN hi]at hj
   exact .inl ⟨rfl,(bb.inj hj).symm⟩
  ·rw[gP (Ne.symm hji)]at hj
   exact .inr ⟨hji,hj⟩
 have hown:∀ b,dc σ (kb.set i .dead) b->dc σ kb b/\¬ (r.cap≠0/\b=r.blk):=by
  rintro b ⟨j,r',x,h1,h2,h3⟩
  rcases df j x h2 with ⟨rfl,rfl⟩ | ⟨hji,h4⟩
  ·exact h3.elim
  ·exact⟨⟨j,r',x,h1,h4,h3⟩,fun hc=>h.eH i j r r' _ x b (Ne.symm hji) hs hk h1 h4 hc h3⟩
 refine⟨E',⟨⟨by simp [h.len],fun j r' x h1 h2=>?_,fun a c r1 r2 o1 o2 b hac h1 h2 h3 h4 h5 h6=>?_,fun b x hb=>?_,fun b hb=>?_⟩,ue.refl _ W,⟨[],by simp⟩,hle,fun b hb=> .inl (hown b hb).1,fun b x hb=>?_⟩,fun hc=>?_⟩
 ·rcases df j x h2 with ⟨rfl,rfl⟩ | ⟨hji,h4⟩
  ·trivial
  ·have:=(h.obj j r' x h1 h4).mono (τ:=[]) (W':=W) hle (fun b hb=>rfl)
   simpa using this
 ·rcases df a o1 h2 with ⟨rfl,rfl⟩ | ⟨_,k2⟩
  ·exact h5.elim
  rcases df c o2 h4 with ⟨rfl,rfl⟩ | ⟨_,k4⟩
  ·exact h6.elim
  exact h.eH a c r1 r2 o1 o2 b hac h1 k2 h3 k4 h5 h6
 ·by_cases hc:r.cap≠0/\b=r.blk
  ·simp only[E',if_pos hc]at hb;exact hb
  ·simp only[E',if_neg hc]at hb;exact h.fe b x hb
 ·obtain⟨h1,h2⟩:=hown b hb
  show(if r.cap≠0/\b=r.blk then W.heap[b]? else E b)=none
  rw[if_neg h2]
  exact h.sep b h1
 ·by_cases hc:r.cap≠0/\b=r.blk
  ·exact .inr (.inl ⟨i,r,_,hs,hk,hc⟩)
  ·simp only[E',if_neg hc]at hb;exact .inl hb
 ·obtain⟨rfl,k1,k2,k3,k4⟩:=ho
  rcases k4 with k4 | ⟨arr,k4,k5,k6⟩
  ·exact absurd k4 hc
  refine(k6.mono hle).rep fun j x hj=>?_
  have e:E' r.blk=some (.cells arr ty (0,0)):=by simp only[E',if_pos (show r.cap≠0/\r.blk=r.blk from⟨hc,rfl⟩),k4]
  unfold EH.cell
  rw[e,c9]
  have hlt:j<l.length*r.sz:=by
   have:=(bH.1 hj).1
   simp only[cW]at this
   omega
  rw[iF hlt]at hj
  simpa using hj
theorem Inv.aaq {σ:Sg} {E:EH} {kb:KB} {W:World} (h:Inv σ E kb W) {i:Nat} {r:Re} {ty:TypeId} {sz:Nat} {l:List (List D)} (hs:σ[i]? =some r) (hk:kb[i]? =some (.row ty sz l)) (hc:r.cap≠0):
  ∃ E' arr,W.heap[r.blk]? =some (.cells arr ty (0,0))/\(∀ W',W'.os=W.os->W'.tape=W.tape->W'.output=W.output->W'.heap.size=W.heap.size->W'.heap[r.blk]? =some (.cells arr ty (arr.size,arr.size+1))->(∀ k,k≠r.blk->W'.heap[k]? =W.heap[k]?)->
   Step σ E kb W σ E' (kb.set i .dead) W')/\dZ E' l.flatten r.blk 0:=by
 have hi:i<kb.length:=(bH.1 hk).1
 have ho:=h.obj i r _ hs hk
 obtain⟨rfl,k1,k2,k3,k4⟩:=ho
 rcases k4 with k4 | ⟨arr,k4,k5,k6⟩
 ·exact absurd k4 hc
 let E':EH:=fun b=>if b=r.blk then some (.cells arr ty (arr.size,arr.size+1))else E b
 have hle:E.le E':=fun b x hb=>by
  show(if b=r.blk then _ else E b)=some x
  by_cases hcb:b=r.blk
  ·have:=h.sep b ⟨i,r,_,hs,hk,hc,hcb⟩
   rw[this]at hb;cases hb
  ·rw[if_neg hcb];exact hb
 have df:∀(j:Nat) (x:KO),(kb.set i .dead)[j]? =some x->(j=i/\x= .dead)∨(j≠i/\kb[j]? =some x):=by
  intro j x hj
  by_cases hji:j=i
  ·subst hji
   rw[iN hi]at hj
   exact .inl ⟨rfl,(bb.inj hj).symm⟩
  ·rw[gP (Ne.symm hji)]at hj
   exact .inr ⟨hji,hj⟩
 have hown:∀ b,dc σ (kb.set i .dead) b->dc σ kb b/\¬ b=r.blk:=by
  rintro b ⟨j,r',x,h1,h2,h3⟩
  rcases df j x h2 with ⟨rfl,rfl⟩ | ⟨hji,h4⟩
  ·exact h3.elim
  ·exact⟨⟨j,r',x,h1,h4,h3⟩,fun hcb=>h.eH i j r r' _ x b (Ne.symm hji) hs hk h1 h4 ⟨hc,hcb⟩ h3⟩
 refine⟨E',arr,k4,fun W' w1 w2 w3 w4 w5 w6=>⟨⟨by simp [h.len],fun j r' x h1 h2=>?_,fun a c r1 r2 o1 o2 b hac h1 h2 h3 h4 h5 h6=>?_,fun b x hb=>?_,fun b hb=>?_⟩,⟨w1,w2,w3,by omega,fun k hkk hno=>w6 k (fun e=>hno (by rw[e];exact⟨i,r,_,hs,hk,hc,rfl⟩))⟩,⟨[],by simp⟩,hle,fun b hb=> .inl (hown b hb).1,fun b x hb=>?_⟩,?_⟩
 ·rcases df j x h2 with ⟨rfl,rfl⟩ | ⟨hji,h4⟩
  ·trivial
  ·have:=(h.obj j r' x h1 h4).mono (τ:=[]) (W':=W') hle (fun b hb=>w6 b (fun e=>h.eH i j r r' _ x b (Ne.symm hji) hs hk h1 h4 ⟨hc,e⟩ hb))
   simpa using this
 ·rcases df a o1 h2 with ⟨rfl,rfl⟩ | ⟨_,k2⟩
  ·exact h5.elim
  rcases df c o2 h4 with ⟨rfl,rfl⟩ | ⟨_,k4⟩
  ·exact h6.elim
  exact h.eH a c r1 r2 o1 o2 b hac h1 k2 h3 k4 h5 h6
 ·by_cases hcb:b=r.blk
  ·simp only[E',if_pos hcb]at hb;cases hb;rw[hcb];exact w5
  ·simp only[E',if_neg hcb]at hb;rw[w6 b hcb];exact h.fe b x hb
 ·obtain⟨h1,h2⟩:=hown b hb
  show(if b=r.blk then _ else E b)=none
  rw[if_neg h2]
  exact h.sep b h1
 ·by_cases hcb:b=r.blk
  ·exact .inr (.inl ⟨i,r,_,hs,hk,hc,hcb⟩)
  ·simp only[E',if_neg hcb]at hb;exact .inl hb
 ·refine(k6.mono hle).rep fun j x hj=>?_
  have e:E' r.blk=some (.cells arr ty (arr.size,arr.size+1)):=by simp only[E',if_pos rfl]
  unfold EH.cell
  rw[e,c9]
  have hlt:j<l.length*r.sz:=by
   have:=(bH.1 hj).1
   simp only[cW]at this
   omega
  rw[iF hlt]at hj
  simpa using hj
theorem Inv.aaz {σ:Sg} {E:EH} {kb:KB} {W:World} (h:Inv σ E kb W) (ob:Obj):
  Step σ E kb W σ (fun b=>if b=W.heap.size then some ob else E b) kb (W.alloc ob):=by
 have hne:E W.heap.size=none:=by
  cases he:E W.heap.size with
  |none=>rfl
  |some x=>have:=(Array.getElem?_eq_some_iff.1 (h.fe _ x he)).1;omega
 have hle:E.le (fun b=>if b=W.heap.size then some ob else E b):=fun b x hb=>by
  by_cases hc:b=W.heap.size
  ·subst hc;rw[hne]at hb;cases hb
  ·simp [hc,hb]
 have hold:∀ b,b<W.heap.size->(W.alloc ob).heap[b]? =W.heap[b]?:=fun b hb=>by
  show(W.heap.push ob)[b]? =_
  rw[Array.getElem?_push,if_neg (by omega)]
 refine⟨⟨h.len,fun j r x h1 h2=>?_,h.eH,fun b x hb=>?_,fun b hb=>?_⟩,⟨rfl,rfl,rfl,by simp,fun k hk _=>hold k hk⟩,⟨[],by simp⟩,hle,fun b hb=> .inl hb,fun b x hb=>?_⟩
 ·have:=(h.obj j r x h1 h2).mono (τ:=[]) (W':=W.alloc ob) hle (fun b hb=>hold b ((h.obj j r x h1 h2).lt hb))
  simpa using this
 ·by_cases hc:b=W.heap.size
  ·subst hc
   simp only[if_true,bb.injEq]at hb
   subst hb
   show(W.heap.push ob)[W.heap.size]? =_
   simp
  ·simp only[hc,if_false]at hb
   have:=h.fe b x hb
   rw[hold b (Array.getElem?_eq_some_iff.1 this).1];exact this
 ·have:=h.lt hb
  rw[if_neg (by omega)]
  exact h.sep b hb
 ·by_cases hc:b=W.heap.size
  ·exact .inr (.inr (by omega))
  ·simp only[hc,if_false]at hb;exact .inl hb
def calm {α:Type} (P:Program):Sem α->Option α
 | .pure a=>some a
 | .program k=>calm P (k P)
 | .mark _ k=>calm P k
 |_=>none
theorem Gv {α:Type} {P:Program}:∀{s:Sem α} {a:α},calm P s=some a->∀ w,s.run P w= .ok a w
 | .pure _,_,h,_=>by simp [calm]at h;subst h;rfl
 | .program k,a,h,w=>by
  simp only[calm]at h
  show(k P).run P w=_
  exact Gv h w
 | .mark _ k,a,h,w=>by
  simp only[calm]at h
  show k.run P w=_
  exact Gv h w
 | .load ..,_,h,_ | .store ..,_,h,_ | .new ..,_,h,_ | .shape ..,_,h,_ | .freeze ..,_,h,_ | .frozen ..,_,h,_ | .getObj ..,_,h,_ | .setObj ..,_,h,_
 | .choose ..,_,h,_ | .sys ..,_,h,_ | .halt ..,_,h,_=>by simp [calm]at h
def v7:Value->V
 | .int k n=> .int k n
 | .bool b=> .sb b
 |v=> .any v
theorem O0 (σ:Sg) (E:EH) (v:Value):Den σ E (v7 v) v:=by
 cases v<;>simp [v7,Den]
theorem O_ (σ:Sg) (E:EH):∀(l:List Value),az σ E (l.map v7) l
 | []=> .nil
 |v::l=> .cons (O0 σ E v) (O_ σ E l)
theorem O7 (σ:Sg) (E:EH):∀(l:List Value),l.all mH=true->aV σ E (l.map v7) l
 | [],_=> .nil
 |v::l,h=>by
  simp only[List.all_cons,jo]at h
  exact .ju (O0 σ E v) h.1 (O7 σ E l h.2)
def cv:Value->V
 | .agg cs=>match cs.toList.all mH with | true=> .agg (cs.toList.map v7) | false=> .any (.agg cs)
 | .tuple cs=> .φ (cs.toList.map v7)
 | .int k n=> .int k n
 | .bool b=> .sb b
 |v=> .any v
theorem O2 (σ:Sg) (E:EH) (v:Value):Den σ E (cv v) v:=by
 cases v with
 |agg cs=>
  simp only[cv]
  split
  ·rename_i h;simp only[Den];exact⟨cs.toList,by simp,O7 σ E _ h⟩
  ·simp [Den]
 |tuple cs=>simp only[cv,Den];exact⟨cs.toList,by simp,O_ σ E _⟩
 |_=>simp [cv,Den]
def oR:Value->V
 | .bool true=> .tt
 | .bool false=> .ff
 | .int k n=> .lit k n
 |v=> .any v
theorem BE (σ:Sg) (E:EH) (v:Value):Den σ E (oR v) v:=by
 cases v with
 |bool b=>cases b<;>simp [oR,Den]
 |_=>simp [oR,Den]
theorem Pe (σ:Sg) (E:EH):∀(l:List Value),az σ E (l.map oR) l
 | []=> .nil
 |v::l=> .cons (BE σ E v) (Pe σ E l)
theorem GZ (σ:Sg) (E:EH):∀(l:List Value),l.all mH=true->aV σ E (l.map oR) l
 | [],_=> .nil
 |v::l,h=>by
  simp only[List.all_cons,jo]at h
  exact .ju (BE σ E v) h.1 (GZ σ E l h.2)
def ur:Value->V
 | .agg cs=>match cs.toList.all mH with | true=> .agg (cs.toList.map oR) | false=> .any (.agg cs)
 | .tuple cs=> .φ (cs.toList.map oR)
 |v=>oR v
theorem O3 (σ:Sg) (E:EH) (v:Value):Den σ E (ur v) v:=by
 cases v with
 |agg cs=>
  simp only[ur]
  split
  ·rename_i h;simp only[Den];exact⟨cs.toList,by simp,GZ σ E _ h⟩
  ·simp [Den]
 |tuple cs=>simp only[ur,Den];exact⟨cs.toList,by simp,Pe σ E _⟩
 |bool b=>simp only[ur];exact BE σ E _
 |_=>simp [ur,oR,Den]
mutual
def V.val?:V->Option Value
 | .any v=>some v
 | .int k n=>some (.int k n)
 | .lit k n=>some (.int k n)
 | .sb b=>some (.bool b)
 | .tt=>some (.bool true)
 | .ff=>some (.bool false)
 | .dat (.val v)=>some v
 | .agg l=>match V.vals? l with | some vs=>some (.agg vs.toArray) | none=>none
 | .φ l=>match V.vals? l with | some vs=>some (.tuple vs.toArray) | none=>none
 | .fn f cap=>match V.vals? cap with | some vs=>some (.func (.func f) #[] vs.toArray) | none=>none
 |_=>none
def V.vals?:List V->Option (List Value)
 | []=>some []
 |v::vs=>match V.val? v with
  |some x=>match V.vals? vs with | some xs=>some (x::xs) | none=>none
  |none=>none
end
mutual
theorem Ef {σ:Sg} {E:EH}:∀{v:V} {x:Value},V.val? v=some x->∀{y:Value},Den σ E v y->y=x
 | .any _,_,h,_,hd | .int ..,_,h,_,hd | .lit ..,_,h,_,hd | .sb _,_,h,_,hd | .tt,_,h,_,hd | .ff,_,h,_,hd=>by
  simp [V.val?]at h;subst h;simpa [Den]using hd
 | .dat d,x,h,y,hd=>by
  cases d with
  |val v=>simp [V.val?]at h;subst h;simp only[Den,bX]at hd;exact hd.1
  |sl _ _=>simp [V.val?]at h
 | .agg l,x,h,y,hd=>by
  simp only[V.val?]at h
  cases hl:V.vals? l with
  |none=>simp [hl]at h
  |some vs=>
   simp [hl]at h;subst h
   simp only[Den]at hd
   obtain⟨xs,rfl,hd⟩:=hd
   rw[WL hl hd]
 | .φ l,x,h,y,hd=>by
  simp only[V.val?]at h
  cases hl:V.vals? l with
  |none=>simp [hl]at h
  |some vs=>
   simp [hl]at h;subst h
   simp only[Den]at hd
   obtain⟨xs,rfl,hd⟩:=hd
   rw[LZ hl hd]
 | .fn f l,x,h,y,hd=>by
  simp only[V.val?]at h
  cases hl:V.vals? l with
  |none=>simp [hl]at h
  |some vs=>
   simp [hl]at h;subst h
   simp only[Den]at hd
   obtain⟨xs,rfl,hd⟩:=hd
   rw[LZ hl hd]
 | .ptr ..,_,h,_,_ | .pa ..,_,h,_,_ | .sl ..,_,h,_,_ | .pe ..,_,h,_,_ | .pw ..,_,h,_,_ | .e0,_,h,_,_ | .sa ..,_,h,_,_ | .se ..,_,h,_,_ | .dm ..,_,h,_,_ | .aa _,_,h,_,_ | .imp ..,_,h,_,_ | .mp _,_,h,_,_ | .ch _,_,h,_,_ | .arr ..,_,h,_,_=>by simp [V.val?]at h
theorem LZ {σ:Sg} {E:EH}:∀{vs:List V} {xs:List Value},V.vals? vs=some xs->∀{ys:List Value},az σ E vs ys->ys=xs
 | [],_,h,_,hd=>by simp [V.vals?]at h;subst h;simpa [az]using hd
 |v::vs,xs,h,ys,hd=>by
  simp only[V.vals?]at h
  cases h1:V.val? v with
  |none=>simp [h1]at h
  |some x=>
   cases h2:V.vals? vs with
   |none=>simp [h1,h2]at h
   |some xs'=>
    simp [h1,h2]at h;subst h
    simp only[az]at hd
    obtain⟨y,ys',rfl,hy,hys⟩:=hd
    rw[Ef h1 hy,LZ h2 hys]
theorem WL {σ:Sg} {E:EH}:∀{vs:List V} {xs:List Value},V.vals? vs=some xs->∀{ys:List Value},aV σ E vs ys->ys=xs
 | [],_,h,_,hd=>by simp [V.vals?]at h;subst h;simpa [aV]using hd
 |v::vs,xs,h,ys,hd=>by
  simp only[V.vals?]at h
  cases h1:V.val? v with
  |none=>simp [h1]at h
  |some x=>
   cases h2:V.vals? vs with
   |none=>simp [h1,h2]at h
   |some xs'=>
    simp [h1,h2]at h;subst h
    simp only[aV]at hd
    obtain⟨us,zs,rfl,hp,hys⟩:=hd
    rcases hp with ⟨y,rfl,_,hy⟩ | ⟨m,cs,rfl,_,_⟩
    ·rw[Ef h1 hy,WL h2 hys];rfl
    ·simp [V.val?]at h1
end
mutual
def V.nY:V->Bool
 | .any _ | .int .. | .lit .. | .sb _ | .tt | .ff | .ptr .. | .pa .. | .pe .. | .pw .. | .mp _ | .ch _=>true
 | .dat (.val _)=>true
 | .agg l=>V.ut l
 | .φ l=>V.ut l
 |_=>false
def V.ut:List V->Bool
 | []=>true
 |v::vs=>match V.nY v with | true=>V.ut vs | false=>false
end
mutual
theorem BK {σ τ:Sg} {E E':EH}:∀{v:V},V.nY v=true->∀{x y:Value},Den σ E v x->Den (σ++τ) E' v y->x=y
 | .any _,_,_,_,h,k | .int ..,_,_,_,h,k | .lit ..,_,_,_,h,k | .sb _,_,_,_,h,k | .tt,_,_,_,h,k | .ff,_,_,_,h,k=>by simp only[Den]at h k;rw[h,k]
 | .ptr i off,_,_,_,h,k=>by
  simp only[Den]at h k
  obtain⟨r,h1,rfl⟩:=h
  obtain⟨r',h2,rfl⟩:=k
  rw[jR h1]at h2;cases h2;rfl
 | .pa i base o,_,_,_,h,k=>by
  simp only[Den]at h k
  obtain⟨r,h1,rfl⟩:=h
  obtain⟨r',h2,rfl⟩:=k
  rw[jR h1]at h2;cases h2;rfl
 | .pe i ix bw,_,_,_,h,k=>by
  simp only[Den]at h k
  obtain⟨r,h1,rfl⟩:=h
  obtain⟨r',h2,rfl⟩:=k
  rw[jR h1]at h2;cases h2;rfl
 | .pw i ix,_,_,_,h,k=>by
  simp only[Den]at h k
  obtain⟨r,h1,rfl⟩:=h
  obtain⟨r',h2,rfl⟩:=k
  rw[jR h1]at h2;cases h2;rfl
 | .mp i,_,_,_,h,k=>by
  simp only[Den]at h k
  obtain⟨r,h1,rfl⟩:=h
  obtain⟨r',h2,rfl⟩:=k
  rw[jR h1]at h2;cases h2;rfl
 | .ch i,_,_,_,h,k=>by
  simp only[Den]at h k
  obtain⟨r,h1,rfl⟩:=h
  obtain⟨r',h2,rfl⟩:=k
  rw[jR h1]at h2;cases h2;rfl
 | .dat d,hd,_,_,h,k=>by
  cases d with
  |val v=>simp only[Den,bX]at h k;rw[h.1,k.1]
  |sl _ _=>simp [V.nY]at hd
 | .agg l,hd,_,_,h,k=>by
  simp only[V.nY]at hd
  simp only[Den]at h k
  obtain⟨xs,rfl,h1⟩:=h
  obtain⟨ys,rfl,h2⟩:=k
  rw[Pk hd h1 h2]
 | .φ l,hd,_,_,h,k=>by
  simp only[V.nY]at hd
  simp only[Den]at h k
  obtain⟨xs,rfl,h1⟩:=h
  obtain⟨ys,rfl,h2⟩:=k
  rw[Pl hd h1 h2]
 | .sl ..,h,_,_,_,_ | .e0,h,_,_,_,_ | .sa ..,h,_,_,_,_ | .se ..,h,_,_,_,_ | .dm ..,h,_,_,_,_ | .aa _,h,_,_,_,_ | .imp ..,h,_,_,_,_ | .fn ..,h,_,_,_,_ | .arr ..,h,_,_,_,_=>by simp [V.nY]at h
theorem Pl {σ τ:Sg} {E E':EH}:∀{vs:List V},V.ut vs=true->∀{xs ys:List Value},az σ E vs xs->az (σ++τ) E' vs ys->xs=ys
 | [],_,_,_,h,k=>by simp only[az]at h k;rw[h,k]
 |v::vs,hd,_,_,h,k=>by
  simp only[V.ut]at hd
  split at hd
  ·rename_i h0
   simp only[az]at h k
   obtain⟨x,xs,rfl,h1,h2⟩:=h
   obtain⟨y,ys,rfl,k1,k2⟩:=k
   rw[BK h0 h1 k1,Pl hd h2 k2]
  ·cases hd
theorem Pk {σ τ:Sg} {E E':EH}:∀{vs:List V},V.ut vs=true->∀{xs ys:List Value},aV σ E vs xs->aV (σ++τ) E' vs ys->xs=ys
 | [],_,_,_,h,k=>by simp only[aV]at h k;rw[h,k]
 |v::vs,hd,_,_,h,k=>by
  simp only[V.ut]at hd
  split at hd
  ·rename_i h0
   simp only[aV]at h k
   obtain⟨xs,xs',rfl,h1,h2⟩:=h
   obtain⟨ys,ys',rfl,k1,k2⟩:=k
   rcases h1 with ⟨x,rfl,_,h1⟩ | ⟨m,cs,rfl,_,_⟩
   ·rcases k1 with ⟨y,rfl,_,k1⟩ | ⟨m,cs,rfl,_,_⟩
    ·rw[BK h0 h1 k1,Pk hd h2 k2]
    ·simp [V.nY]at h0
   ·simp [V.nY]at h0
  ·cases hd
end
def V.one:V->Bool
 | .any v=>v.oneCell'
 | .agg _ | .φ _ | .arr .. =>false
 |_=>true
theorem one_den {σ:Sg} {E:EH} {v:V} {x:Value} (h:V.one v=true) (hd:Den σ E v x):x.oneCell'=true:=by
 cases v<;>(try simp only[V.one,Bool.false_eq_true]at h)<;>simp only[Den]at hd
 case any v=>subst hd;exact h
 case int=>subst hd;rfl
 case mp=>obtain⟨r,_,rfl⟩:=hd;rfl
 case ch=>obtain⟨r,_,rfl⟩:=hd;rfl
 case lit=>subst hd;rfl
 case sb=>subst hd;rfl
 case tt=>subst hd;rfl
 case ff=>subst hd;rfl
 case ptr=>obtain⟨r,_,rfl⟩:=hd;rfl
 case pa=>obtain⟨r,_,rfl⟩:=hd;rfl
 case sl=>obtain⟨r,a,_,rfl,_⟩:=hd;rfl
 case pe=>obtain⟨r,_,rfl⟩:=hd;rfl
 case pw=>obtain⟨r,_,rfl⟩:=hd;rfl
 case e0=>obtain⟨a,rfl⟩:=hd;rfl
 case sa=>obtain⟨r,a,_,rfl,_⟩:=hd;rfl
 case se=>obtain⟨r,a,_,rfl,_⟩:=hd;rfl
 case dm=>obtain⟨b,off,rfl,_⟩:=hd;rfl
 case aa=>rcases hd with ⟨_,rfl⟩ | ⟨e,b,_,rfl,_⟩<;>rfl
 case imp=>obtain⟨a,rfl,_⟩:=hd;rfl
 case dat d=>exact hd.one
 case fn=>obtain⟨vs,rfl,_⟩:=hd;rfl
def fX (P:Program) (t:TypeId):Option Nat:=(P.info? t).map (·.size)
def p_ (P:Program) (t:TypeId):Option Bool:=
 match P.underlying t with
 |some (.struct _)=>some true
 |some (.array _ _)=>some true
 |some _=>some false
 |none=>none
theorem kK {P:Program} {t:TypeId} {n:Nat} (h:fX P t=some n) (w:World):(Go.sizeOf t).run P w= .ok n w:=by
 simp only[fX,Option.map_eq_some_iff]at h
 obtain⟨i,hi,rfl⟩:=h
 simp [Go.sizeOf,typeInfo,hi]
theorem tK {P:Program} {t:TypeId} {b:Bool} (h:p_ P t=some b) (w:World):(isAgg t).run P w= .ok b w:=by
 unfold p_ at h
 cases hu:P.underlying t with
 |none=>simp [hu]at h
 |some d=>
  unfold isAgg
  rw[Sem.run_bind,run_underlying hu,Result.andThen_ok]
  simp only[hu]at h
  cases d<;>simp at h<;>subst h<;>rfl
inductive CK where
 |int (k:IntKind)
 |bool
 |sl (s:Nat)
 |other
 |arr (m:Nat) (z:Value)
 deriving Inhabited
def CK.w:CK->Nat
 | .arr m _=>m
 |_=>1
def wk:List CK->Nat
 | []=>0
 |k::ks=>k.w+wk ks
def oh (P:Program):Nat->TypeId->Option (List CK)
 | 0,_=>none
 |n+1,t=>
  match P.underlying t with
  |some (.struct fs)=>fs.toList.foldr (fun f acc=>match oh P n f.type,acc with | some a,some b=>some (a++b) | _,_=>none) (some [])
  |some (.array m e)=>match oh P n e with
   |some [.int k]=>some [.arr m (.int k 0)]
   |some [.bool]=>some [.arr m (.bool false)]
   |some [.arr q z]=>some [.arr (m*q) z]
   |some l=>some (dv m l).flatten
   |none=>none
  |some (.int k)=>some [.int k]
  |some .bool=>some [.bool]
  |some (.slice e)=>match fX P e with | some s=>some [.sl s] | none=>none
  |some _=>some [.other]
  |none=>none
def oo (e:List D):Nat->List CK->(List V->Prop)->Prop
 |_,[],K=>K []
 |bw,.int k::ks,K=>∃ n,e[bw]? =some (.val (.int k n))/\oo e (bw+1) ks (fun r=>K (.int k n::r))
 |bw,.bool::ks,K=>∃ b,e[bw]? =some (.val (.bool b))/\oo e (bw+1) ks (fun r=>K (.sb b::r))
 |bw,.sl s::ks,K=>∃ l,e[bw]? =some (.sl s l)/\oo e (bw+1) ks (fun r=>K (.dat (.sl s l)::r))
 |bw,.other::ks,K=>∃ v,e[bw]? =some (.val v)/\oo e (bw+1) ks (fun r=>K (.dat (.val v)::r))
 |bw,.arr m _::ks,K=>bw+m<=e.length/\oo e (bw+m) ks (fun r=>K (.arr m ((e.drop bw).take m)::r))
theorem qG {σ:Sg} {E:EH} {e:List D} {zs:List Value} (hz:bh E e zs):∀{ks:List CK} {bw:Nat} {K:List V->Prop},oo e bw ks K->
  ∃ vs xs,K vs/\aV σ E vs xs/\xs.length=wk ks/\∀(j:Nat) (x:Value),xs[j]? =some x->zs[bw+j]? =some x
 | [],_,K,h=>⟨[],[],h,.nil,rfl,by simp⟩
 |ck::ks,bw,K,h=>by
  have ju:∀{d:D} {v:V},e[bw]? =some d->(∀ x,bX E d x->Den σ E v x)->oo e (bw+1) ks (fun r=>K (v::r))->ck.w=1->
    ∃ vs xs,K vs/\aV σ E vs xs/\xs.length=wk (ck::ks)/\∀(j:Nat) (x:Value),xs[j]? =some x->zs[bw+j]? =some x:=by
   intro d v h1 hv h2 hw
   obtain⟨y,hy,hd⟩:=hz.get h1
   obtain⟨vs,xs,hK,hD,hl,hx⟩:=qG hz h2
   refine⟨_,y::xs,hK,.ju (hv y hd) hd.one hD,by simp [hl,wk,hw];omega,fun j x hj=>?_⟩
   cases j with
   |zero=>simp at hj;subst hj;exact hy
   |succ j=>rw[show bw+(j+1)=bw+1+j by omega];exact hx j x (by simpa using hj)
  cases ck with
  |int k=>obtain⟨n,h1,h2⟩:=h;exact ju h1 (fun x hx=>by simp only[bX]at hx;simp [Den,hx.1]) h2 rfl
  |bool=>obtain⟨n,h1,h2⟩:=h;exact ju h1 (fun x hx=>by simp only[bX]at hx;simp [Den,hx.1]) h2 rfl
  |sl s=>obtain⟨l,h1,h2⟩:=h;exact ju h1 (fun x hx=>by simpa only[Den]using hx) h2 rfl
  |other=>obtain⟨d,h1,h2⟩:=h;exact ju h1 (fun x hx=>by simpa only[Den]using hx) h2 rfl
  |arr m z=>
   obtain⟨h1,h2⟩:=h
   obtain⟨vs,xs,hK,hD,hl,hx⟩:=qG hz h2
   have hzl:=hz.len
   have hlen:((zs.drop bw).take m).length=m:=by simp;omega
   refine⟨_,(zs.drop bw).take m++xs,hK,.cons (.inr ⟨m,_,rfl,by simp;omega,(hz.drop bw).take m⟩) hD,by rw[bn,hlen,hl];rfl,fun j x hj=>?_⟩
   rcases kx j m with hjm | hjm
   ·rw[dY (by omega),iF hjm,jW]at hj
    exact hj
   ·rw[fk (by omega),hlen]at hj
    have:=hx _ x hj
    rwa [show bw+m+(j - m)=bw+j by omega]at this
theorem DL {P:Program} {t:TypeId} {n:Nat} {agg:Bool} (hn:fX P t=some n) (ha:p_ P t=some agg) {W:World} {b o:Nat} {xs:List Value}
  (hl:xs.length=if agg then n else 1) (hx:∀(j:Nat) (x:Value),xs[j]? =some x->W.cell? ⟨b,o+j,none⟩=some x):
  (loadVar t ⟨b,o,none⟩).run P W= .ok (if agg then .agg xs.toArray else xs.getD 0 undef) W:=by
 unfold loadVar
 rw[Sem.run_bind,tK ha,Result.andThen_ok]
 cases agg with
 |true=>
  simp only[if_true]at hl ⊢
  have hc:=run_loadCells_list (P:=P) W ⟨b,o,none⟩ xs (fun j v hj=>by rw[Addr.add_lit];exact hx j v hj)
  rw[hl]at hc
  simp [kK hn,hc]
 |false=>
  simp only[Bool.false_eq_true,if_false]at hl ⊢
  match xs,hl with
  | [x],_=>
   have:=hx 0 x rfl
   simp at this
   simp [run_load,this]
def qh (agg:Bool) (vs:List V) (K:V->Prop):Prop:=
 match agg with
 |true=>K (.agg vs)
 |false=>match vs with
  | [.arr _ _]=>False
  | [v]=>K v
  |_=>False
theorem xu {agg:Bool} {vs:List V} {K:V->Prop} (h:qh agg vs K) {σ:Sg} {E:EH} {xs:List Value} (hd:aV σ E vs xs):
  ∃ v,K v/\Den σ E v (if agg then .agg xs.toArray else xs.getD 0 undef)/\(agg=false->xs.length=1):=by
 unfold qh at h
 split at h
 ·exact⟨_,h,by simp only[if_true,Den];exact⟨xs,rfl,hd⟩,fun h=>by cases h⟩
 ·split at h
  ·exact h.elim
  ·rename_i v hv
   obtain⟨ys,zs,rfl,h1,h2⟩:=hd.iT
   simp only[aV]at h2
   subst h2
   rcases h1 with ⟨y,rfl,_,hy⟩ | ⟨m,cs,rfl,_,_⟩
   ·exact⟨v,h,by simpa using hy,fun _=>rfl⟩
   ·exact(hv _ _ rfl).elim
  ·exact h.elim
def qu:Bool->Nat->Nat
 |true,n=>n
 |false,_=>1
theorem yc (agg:Bool) (n:Nat):qu agg n=if agg then n else 1:=by cases agg<;>rfl
def nI (P:Program) (t:TypeId) (addr:V) (kb:KB) (K:V->Prop):Prop:=
 match fX P t,p_ P t with
 |some n,some agg=>
  match addr with
  | .ptr i off=>
   match kb[i]? with
   |some (.cells l)=>
    match rC l off with
    |some r=>match vb r (qu agg n)with
     |some vs=>qh agg vs K
     |none=>False
    |none=>False
   |_=>False
  |_=>match oh P 20 t with
   |some ks=>match cX (wk ks) (qu agg n)with
    |true=>match addr with
     | .pa i base o=>match kb[i]? with
      |some (.cells l)=>match jm l base with
       |some (.arr m cs)=>oo cs o ks (fun vs=>qh agg vs K)
       |_=>False
      |_=>False
     | .pe i ix bw=>match kb[i]? with
      |some (.row _ sz l)=>∃ e,l[ix]? =some e/\oo e bw ks (fun vs=>qh agg vs K)
      |_=>False
     | .pw i ix=>match kb[i]? with
      |some (.row _ sz l)=>oo (l.drop ix).flatten 0 ks (fun vs=>qh agg vs K)
      |_=>False
     | .dm e bw=>oo e bw ks (fun vs=>qh agg vs K)
     |_=>False
    |false=>False
   |none=>False
 |_,_=>False
theorem vV {W:World} {b o:Nat} {arr:Array Value} {ty:TypeId} {fr:Nat×Nat} (h:W.heap[b]? =some (.cells arr ty fr)):W.cell? ⟨b,o,none⟩=arr[o]?:=by
 simp [World.cell?,h]
theorem KQ {σ:Sg} {E:EH} {W:World} {r:Re} {ty:TypeId} {sz:Nat} {l:List (List D)} (h:ij σ E W r (.row ty sz l)) (ix:Nat):
  ∃ zs,bh E (l.drop ix).flatten zs/\∀(j:Nat) (x:Value),zs[j]? =some x->W.cell? ⟨r.blk,ix*r.sz+j,none⟩=some x:=by
 obtain⟨rfl,h1,h2,h3,h4⟩:=h
 rcases h4 with h4 | ⟨arr,h4,h5,h6⟩
 ·have:l=[]:=mD (by omega)
  subst this
  exact⟨[],by simpa using bh.nil,by simp⟩
 ·refine⟨_,by rw[yt h1];exact h6.drop (ix*r.sz),fun j x hj=>?_⟩
  rw[vV h4]
  rw[jW]at hj
  have hlt:ix*r.sz+j<l.length*r.sz:=by
   have:=(bH.1 hj).1
   simp only[cW]at this
   omega
  rw[iF hlt]at hj
  simpa using hj
theorem KR {σ:Sg} {E:EH} {W:World} {r:Re} {ty:TypeId} {sz:Nat} {l:List (List D)} (h:ij σ E W r (.row ty sz l)) {ix:Nat} {e:List D} (he:l[ix]? =some e):
  ∃ zs,bh E e zs/\∀(j:Nat) (x:Value),zs[j]? =some x->W.cell? ⟨r.blk,ix*r.sz+j,none⟩=some x:=by
 obtain⟨zs,h1,h2⟩:=KQ h ix
 have hx:ix<l.length:=(bH.1 he).1
 have hd:l.drop ix=e::l.drop (ix+1):=by
  rw[List.drop_eq_getElem_cons hx]
  congr 1
  rw[bu hx]at he
  exact bb.inj he
 rw[hd,jF]at h1
 obtain⟨ys,us,rfl,h3,h4⟩:=h1.split
 exact⟨ys,h3,fun j x hj=>h2 j x (by rw[dY (bH.1 hj).1];exact hj)⟩
theorem Ui {σ:Sg} {E:EH} {W:World} {r:Re} {l:List V} (h:ij σ E W r (.cells l)) {base m:Nat} {cs:List D} (hp:jm l base=some (.arr m cs)):
  ∃ zs,bh E cs zs/\∀(j:Nat) (x:Value),zs[j]? =some x->W.cell? ⟨r.blk,base+j,none⟩=some x:=by
 obtain⟨arr,ty,h1,h2⟩:=h
 obtain⟨ys,h3,h4,h5,h6⟩:=Dp hp h2
 refine⟨ys,h3,fun j x hj=>?_⟩
 rw[vV h1]
 have hlt:j<m:=by
  have:=(bH.1 hj).1
  rw[h3.len]at this;omega
 rw[<- h6,iF hlt,jW]at hj
 simpa using hj
theorem IQ {E:EH} {W:World} (hi:∀ b o,E b=some o->W.heap[b]? =some o) {b o:Nat} {x:Value} (h:E.cell b o=some x):W.cell? ⟨b,o,none⟩=some x:=by
 unfold EH.cell at h
 split at h
 ·rename_i c ty fr hb
  rw[vV (hi b _ hb)];exact h
 ·cases h
def pu (W W':World):Prop:=∀ k,k<W.heap.size->W'.heap[k]? =W.heap[k]?
theorem pu.refl (W:World):pu W W:=fun _ _=>rfl
theorem pu.cell {W W':World} (h:pu W W') {ad:Addr} {x:Value} (hc:W.cell? ad=some x):W'.cell? ad=some x:=by
 unfold World.cell? at hc ⊢
 have hb:ad.block<W.heap.size:=by
  rcases kx ad.block W.heap.size with h' | h'
  ·exact h'
  ·rw[Array.getElem?_eq_none h']at hc;cases hc
 rw[h _ hb];exact hc
theorem R7 {P:Program} {t:TypeId} {addr:V} {kb:KB} {K:V->Prop} (h:nI P t addr kb K) {σ:Sg} {E:EH} {W:World} (hi:Inv σ E kb W) {a:Value} (hd:Den σ E addr a):
  ∃ v x,(∀ W',pu W W'->(Instr.loadAt t a).run P W'= .ok x W')/\Den σ E v x/\K v:=by
 unfold nI at h
 split at h<;>try exact h.elim
 rename_i n agg hn ha
 have fin:∀{b o:Nat} {vs:List V} {xs:List Value},a= .pointer (some ⟨b,o,none⟩)->qh agg vs K->aV σ E vs xs->xs.length=qu agg n->(∀(j:Nat) (x:Value),xs[j]? =some x->W.cell? ⟨b,o+j,none⟩=some x)->
   ∃ v x,(∀ W',pu W W'->(Instr.loadAt t a).run P W'= .ok x W')/\Den σ E v x/\K v:=by
  rintro b o vs xs rfl hK hD hl hc
  obtain⟨v,h1,h2,h3⟩:=xu hK hD
  rw[yc]at hl
  exact⟨v,_,fun W' hW=>by simpa [Instr.loadAt,Instr.sureAddr]using DL hn ha hl (fun j x hj=>hW.cell (hc j x hj)),h2,h1⟩
 split at h
 ·rename_i i off
  simp only[Den]at hd
  obtain⟨r,hr,rfl⟩:=hd
  split at h<;>try exact h.elim
  rename_i l hl
  split at h<;>try exact h.elim
  rename_i l1 yI
  split at h<;>try exact h.elim
  rename_i vs hvs
  obtain⟨arr,ty,hh,hD⟩:=hi.obj i r _ hr hl
  obtain⟨d1,_⟩:=s_ yI hD
  obtain⟨d2,d3⟩:=D9 hvs d1
  refine fin rfl h d2 (by rw[cW];omega) (fun j x hj=>?_)
  rw[vV hh]
  have hlt:j<qu agg n:=by
   have:=(bH.1 hj).1
   simp only[cW]at this
   omega
  rw[iF hlt,jW]at hj
  simpa using hj
 ·split at h<;>try exact h.elim
  rename_i ks hks
  split at h<;>try exact h.elim
  rename_i hb
  have hw:=de hb
  split at h<;>try exact h.elim
  ·rename_i i base o _
   simp only[Den]at hd
   obtain⟨r,hr,rfl⟩:=hd
   split at h<;>try exact h.elim
   rename_i l hl
   split at h<;>try exact h.elim
   rename_i m cs hp
   obtain⟨zs,h1,h2⟩:=Ui (hi.obj i r _ hr hl) hp
   obtain⟨vs,xs,hK,hD,im,hx⟩:=qG (σ:=σ) h1 h
   exact fin rfl hK hD (im.trans hw) (fun j x hj=>by rw[g_];exact h2 _ _ (hx j x hj))
  ·rename_i i ix bw _
   simp only[Den]at hd
   obtain⟨r,hr,rfl⟩:=hd
   split at h<;>try exact h.elim
   rename_i ty sz l hl
   obtain⟨e,he,h⟩:=h
   obtain⟨zs,h1,h2⟩:=KR (hi.obj i r _ hr hl) he
   obtain⟨vs,xs,hK,hD,im,hx⟩:=qG (σ:=σ) h1 h
   exact fin rfl hK hD (im.trans hw) (fun j x hj=>by rw[g_];exact h2 _ _ (hx j x hj))
  ·rename_i i ix _
   simp only[Den]at hd
   obtain⟨r,hr,rfl⟩:=hd
   split at h<;>try exact h.elim
   rename_i ty sz l hl
   obtain⟨zs,h1,h2⟩:=KQ (hi.obj i r _ hr hl) ix
   obtain⟨vs,xs,hK,hD,im,hx⟩:=qG (σ:=σ) h1 h
   exact fin rfl hK hD (im.trans hw) (fun j x hj=>by have:=h2 _ _ (hx j x hj);rwa [c9]at this)
  ·rename_i e bw _
   simp only[Den]at hd
   obtain⟨b,off,rfl,fB⟩:=hd
   obtain⟨zs,h1,h2⟩:=fB.BH
   obtain⟨vs,xs,hK,hD,im,hx⟩:=qG (σ:=σ) h1 h
   exact fin rfl hK hD (im.trans hw) (fun j x hj=>by rw[g_];exact IQ hi.fe (h2 _ _ (hx j x hj)))
theorem I_ {P:Program} {t:TypeId} {addr:V} {kb:KB} {K:V->Prop} (h:nI P t addr kb K) {σ:Sg} {E:EH} {W:World} (hi:Inv σ E kb W) {a:Value} (hd:Den σ E addr a):
  ∃ v x,(Instr.loadAt t a).run P W= .ok x W/\Den σ E v x/\K v:=by
 obtain⟨v,x,h1,h2,h3⟩:=R7 h hi hd
 exact⟨v,x,h1 W (pu.refl W),h2,h3⟩
theorem abU {P:Program} {t:TypeId} {i off:Nat} {kb:KB} {K:V->Prop} (h:nI P t (.ptr i off) kb K) {σ:Sg} {E:EH} {W:World} (hi:Inv σ E kb W) {r:Re} (hr:σ[i]? =some r):
  ∃ x,∀ W':World,W'.heap[r.blk]? =W.heap[r.blk]?->(Instr.loadAt t (.pointer (some ⟨r.blk,off,none⟩))).run P W'= .ok x W':=by
 unfold nI at h
 split at h<;>try exact h.elim
 rename_i n agg hn ha
 dsimp only at h
 split at h<;>try exact h.elim
 rename_i l hl
 split at h<;>try exact h.elim
 rename_i l1 yI
 split at h<;>try exact h.elim
 rename_i vs hvs
 obtain⟨arr,ty,hh,hD⟩:=hi.obj i r _ hr hl
 obtain⟨d1,_⟩:=s_ yI hD
 obtain⟨d2,d3⟩:=D9 hvs d1
 obtain⟨v,h1,h2,h3⟩:=xu h d2
 have h9:(ay (qu agg n) (ax off arr.toList)).length=qu agg n:=by rw[cW];omega
 have fin:∀{xs:List Value},xs.length=qu agg n->(∀(W':World),W'.heap[r.blk]? =W.heap[r.blk]?->∀(j:Nat) (x:Value),xs[j]? =some x->W'.cell? ⟨r.blk,off+j,none⟩=some x)->∃ x,∀ W':World,W'.heap[r.blk]? =W.heap[r.blk]?->(Instr.loadAt t (.pointer (some ⟨r.blk,off,none⟩))).run P W'= .ok x W':=fun hl hs=>by
  rw[yc]at hl
  exact⟨_,fun W' hW=>by simpa [Instr.loadAt,Instr.sureAddr]using DL hn ha hl (hs W' hW)⟩
 refine fin h9 fun W' hW j x hj=>?_
 rw[vV (hW.trans hh)]
 have hlt:j<qu agg n:=by
  have:=(bH.1 hj).1
  simp only[cW]at this
  omega
 rw[iF hlt,jW]at hj
 simpa using hj
theorem Zi {W W':World} {b o:Nat} {x:Value} (h:W.cell? ⟨b,o,none⟩=some x) (hW:W'.heap[b]? =W.heap[b]?):W'.cell? ⟨b,o,none⟩=some x:=by
 unfold World.cell? at h ⊢
 dsimp only at h ⊢
 rw[hW];exact h
theorem abV {P:Program} {t:TypeId} {i ix bw:Nat} {kb:KB} {K:V->Prop} (h:nI P t (.pe i ix bw) kb K) {σ:Sg} {E:EH} {W:World} (hi:Inv σ E kb W) {r:Re} (hr:σ[i]? =some r):
  (∀ o,kb[i]? =some o->owned r o r.blk)/\∃ x,∀ W':World,W'.heap[r.blk]? =W.heap[r.blk]?->(Instr.loadAt t (.pointer (some ⟨r.blk,ix*r.sz+bw,none⟩))).run P W'= .ok x W':=by
 unfold nI at h
 split at h<;>try exact h.elim
 rename_i n agg hn ha
 dsimp only at h
 split at h<;>try exact h.elim
 rename_i ks hks
 split at h<;>try exact h.elim
 rename_i hb
 have hw:=de hb
 split at h<;>try exact h.elim
 rename_i ty sz l hl
 obtain⟨e,he,h⟩:=h
 have ho:=hi.obj i r _ hr hl
 refine⟨fun o h0=>?_,?_⟩
 ·rw[hl]at h0;cases h0
  obtain⟨_,_,h2,_⟩:=ho
  have:=(bH.1 he).1
  exact⟨by omega,rfl⟩
 ·obtain⟨zs,h1,h2⟩:=KR ho he
  obtain⟨vs,xs,hK,hD,im,hx⟩:=qG (σ:=σ) h1 h
  have hl:=im.trans hw
  rw[yc]at hl
  exact⟨_,fun W' hW=>by simpa [Instr.loadAt,Instr.sureAddr]using DL hn ha hl (fun j x hj=>by rw[g_];exact Zi (h2 _ _ (hx j x hj)) hW)⟩
theorem abW {P:Program} {t:TypeId} {e:List D} {bw:Nat} {kb:KB} {K:V->Prop} (h:nI P t (.dm e bw) kb K) {σ:Sg} {E:EH} {a:Value} (hd:Den σ E (.dm e bw) a):
  ∃ x,∀{W:World},(∀ b o,E b=some o->W.heap[b]? =some o)->(Instr.loadAt t a).run P W= .ok x W:=by
 unfold nI at h
 split at h<;>try exact h.elim
 rename_i n agg hn ha
 simp only at h
 split at h<;>try exact h.elim
 rename_i ks hks
 split at h<;>try exact h.elim
 rename_i hb
 have hw:=de hb
 simp only[Den]at hd
 obtain⟨b,off,rfl,fB⟩:=hd
 obtain⟨zs,h1,h2⟩:=fB.BH
 obtain⟨vs,xs,hK,hD,im,hx⟩:=qG (σ:=σ) h1 h
 have hl:=im.trans hw
 rw[yc]at hl
 exact⟨_,fun{W} hi=>by simpa [Instr.loadAt,Instr.sureAddr]using DL hn ha hl (fun j x hj=>by rw[g_];exact IQ hi (h2 _ _ (hx j x hj)))⟩
def I8:V->Option D
 | .int k n=>some (.val (.int k n))
 | .lit k n=>some (.val (.int k n))
 | .sb b=>some (.val (.bool b))
 | .tt=>some (.val (.bool true))
 | .ff=>some (.val (.bool false))
 | .dat d=>some d
 |_=>none
theorem abR {v:V} {d:D} (h:I8 v=some d) {σ:Sg} {E:EH} {x:Value} (hd:Den σ E v x):bX E d x:=by
 cases v<;>simp only[I8,bb.injEq,reduceCtorEq]at h<;>subst h<;>simp only[Den]at hd<;>
  first | exact hd | (subst hd;simp [bX,mH])
def Dr:V->Option (List D)
 | .arr _ cs=>some cs
 |v=>match I8 v with | some d=>some [d] | none=>none
theorem Uh {v:V} {ds:List D} (h:Dr v=some ds) {σ:Sg} {E:EH} {ys:List Value} (hd:m_ σ E v ys):bh E ds ys:=by
 unfold Dr at h
 split at h
 ·cases h
  rcases hd with ⟨y,rfl,_,hy⟩ | ⟨m,cs,e,_,hD⟩
  ·simp only[Den]at hy
  ·cases e;exact hD
 ·rename_i hna
  split at h<;>try (cases h;done)
  rename_i d hl
  cases h
  rcases hd with ⟨y,rfl,_,hy⟩ | ⟨m,cs,e,_,hD⟩
  ·exact .cons (abR hl hy) .nil
  ·exact(hna _ _ e).elim
def ux:List V->Nat->Option (List D×List V)
 |vs,0=>some ([],vs)
 | [],_+1=>none
 |v::vs,n+1=>match sq (n+1) v.w with
  |some 0=>match Dr v with | some cs=>some (cs,vs) | none=>none
  |some (k+1)=>match Dr v,ux vs (k+1)with | some cs,some (ds,r)=>some (cs++ds,r) | _,_=>none
  |none=>none
theorem HV:∀{vs:List V} {n:Nat} {ds:List D} {r:List V},ux vs n=some (ds,r)->∀{σ:Sg} {E:EH} {xs:List Value},aV σ E vs xs->
  ∃ ys zs,xs=ys++zs/\bh E ds ys/\ys.length=n/\aV σ E r zs
 |vs,0,ds,r,h,σ,E,xs,hd=>by simp [ux]at h;obtain⟨rfl,rfl⟩:=h;exact⟨[],xs,rfl,.nil,rfl,hd⟩
 | [],n+1,ds,r,h,_,_,_,_=>by simp [ux]at h
 |v::vs,n+1,ds,r,h,σ,E,xs,hd=>by
  obtain⟨ys,zs,rfl,h1,h2⟩:=hd.iT
  simp only[ux]at h
  split at h
  ·rename_i hk
   split at h<;>try (cases h;done)
   rename_i cs hcs
   cases h
   have:=xj hk
   exact⟨ys,zs,rfl,Uh hcs h1,by rw[h1.len];omega,h2⟩
  ·rename_i k hk
   split at h<;>try (cases h;done)
   rename_i cs es r' hcs hg
   cases h
   have:=xj hk
   obtain⟨us,ws,rfl,h3,h4,h5⟩:=HV hg h2
   exact⟨ys++us,ws,by simp,(Uh hcs h1).append h3,by rw[bn,h1.len,h4];omega,h5⟩
  ·cases h
def mq:List CK->List V->Option (List V)
 | [],[]=>some []
 | .arr m _::ks,vs=>match ux vs m with
  |some (ds,r)=>match mq ks r with | some us=>some (.arr m ds::us) | none=>none
  |none=>none
 |_::ks,v::vs=>match v with
  | .arr _ _=>none
  |_=>match mq ks vs with | some us=>some (v::us) | none=>none
 |_,_=>none
theorem JP:∀{ks:List CK} {vs us:List V},mq ks vs=some us->∀{σ:Sg} {E:EH} {xs:List Value},aV σ E vs xs->aV σ E us xs/\xs.length=wk ks
 | [],[],us,h,σ,E,xs,hd=>by simp [mq]at h;subst h;exact⟨hd,by simp only[aV]at hd;subst hd;rfl⟩
 | [],_:: _,us,h,_,_,_,_=>by simp [mq]at h
 |c::ks,vs,us,h,σ,E,xs,hd=>by
  have single:∀{v:V} {vs':List V},vs=v::vs'->c.w=1->(match v with | .arr _ _=>none | _=>match mq ks vs' with | some us=>some (v::us) | none=>none)=some us->aV σ E us xs/\xs.length=wk (c::ks):=by
   rintro v vs' rfl hw h
   obtain⟨ys,zs,rfl,h1,h2⟩:=hd.iT
   split at h
   ·cases h
   ·rename_i hna
    split at h<;>try (cases h;done)
    rename_i us' lS
    cases h
    obtain⟨h3,h4⟩:=JP lS h2
    refine⟨.cons h1 h3,?_⟩
    rw[bn,h1.len,h4]
    have:v.w=1:=by cases v<;>first | rfl | exact(hna _ _ rfl).elim
    rw[this];simp [wk,hw]
  cases c with
  |arr m z=>
   simp only[mq]at h
   split at h<;>try (cases h;done)
   rename_i ds r hg
   split at h<;>try (cases h;done)
   rename_i us' lS
   cases h
   obtain⟨ys,zs,rfl,h1,h2,h3⟩:=HV hg hd
   obtain⟨h4,h5⟩:=JP lS h3
   exact⟨.cons (.inr ⟨m,ds,rfl,by rw[<- h1.len,h2],h1⟩) h4,by rw[bn,h2,h5];rfl⟩
  |int k=>cases vs with | nil=>simp [mq]at h | cons v vs'=>exact single rfl rfl (by simpa only[mq]using h)
  |bool=>cases vs with | nil=>simp [mq]at h | cons v vs'=>exact single rfl rfl (by simpa only[mq]using h)
  |sl s=>cases vs with | nil=>simp [mq]at h | cons v vs'=>exact single rfl rfl (by simpa only[mq]using h)
  |other=>cases vs with | nil=>simp [mq]at h | cons v vs'=>exact single rfl rfl (by simpa only[mq]using h)
def Bu (P:Program) (t:TypeId) (v:V):Option (List V):=
 match fX P t with
 |some n=>match v with
  | .agg vs=>match oh P 20 t with
   |some ks=>match cX (wk ks) n with | true=>mq ks vs | false=>none
   |none=>none
  |_=>match cX n 1,V.one v with | true,true=>some [v] | _,_=>none
 |none=>none
theorem OG {P:Program} {t:TypeId} {v:V} {vs:List V} (h:Bu P t v=some vs) {σ:Sg} {E:EH} {x:Value} (hd:Den σ E v x):
  ∃ xs,x.cells=xs.toArray/\aV σ E vs xs/\(∀ y∈xs,y.oneCell'=true)/\fX P t=some xs.length:=by
 unfold Bu at h
 split at h<;>try (cases h;done)
 rename_i n hn
 split at h
 ·split at h<;>try (cases h;done)
  rename_i ks hks
  split at h<;>try (cases h;done)
  rename_i hb
  simp only[Den]at hd
  obtain⟨xs,rfl,hD⟩:=hd
  obtain⟨h1,h2⟩:=JP h hD
  exact⟨xs,rfl,h1,h1.one,by rw[hn,h2,de hb]⟩
 ·split at h<;>try (cases h;done)
  rename_i h1 h2
  cases h
  have h3:=one_den h2 hd
  refine⟨[x],?_,.ju hd h3 .nil,by simpa using h3,by rw[hn,de h1];rfl⟩
  cases x<;>simp_all [Value.cells,mH]
def rv (c:CK) (v:V) (kb:KB) (K:D->KB->Prop):Prop:=
 match v with
 | .int k n=>K (.val (.int k n)) kb
 | .lit k n=>K (.val (.int k n)) kb
 | .sb b=>K (.val (.bool b)) kb
 | .tt=>K (.val (.bool true)) kb
 | .ff=>K (.val (.bool false)) kb
 | .dat d=>K d kb
 | .any v=>match c,v with
  | .sl s,.slice none 0 0=>K (.sl s []) kb
  |_,_=>match v.oneCell' with | true=>K (.val v) kb | false=>False
 | .e0=>match c with | .sl s=>K (.sl s []) kb | _=>False
 | .fn f cap=>match V.val? (.fn f cap)with | some v=>K (.val v) kb | none=>False
 | .sl i lo hi=>match c,kb[i]? with
  | .sl s,some (.row _ sz l)=>match cX sz s with
   |true=>hi<=l.length/\K (.sl s ((l.take hi).drop lo)) (kb.set i .dead)
   |false=>False
  |_,_=>False
 |_=>False
theorem LH {sz:Nat} {l:List (List D)} (h:wl sz l) (lo hi:Nat):((l.take hi).drop lo).flatten=(l.flatten.drop (lo*sz)).take ((hi - lo)*sz):=by
 rw[yt (h.take hi),yu h,List.drop_take,Nat.sub_mul]
theorem UP {E:EH} {r:Re} {sz:Nat} {l:List (List D)} (hsz:r.sz=sz) (hw:wl sz l) {lo hi:Nat} (hlh:lo<=hi) (hhl:hi<=l.length) (hlc:l.length<=r.cap) {a:Option Addr} (ha:lo<r.cap->a=some ⟨r.blk,lo*r.sz,none⟩)
  (fB:r.cap≠0->dZ E l.flatten r.blk 0):bX E (.sl sz ((l.take hi).drop lo)) (.slice a (hi - lo) (r.cap - lo)):=by
 simp only[bX]
 have hlen:((l.take hi).drop lo).length=hi - lo:=by simp;omega
 refine⟨a,r.cap - lo,by rw[hlen],by rw[hlen];omega,?_⟩
 by_cases h0:hi - lo=0
 ·left;rw[hlen];exact h0
 ·right
  refine⟨r.blk,lo*r.sz,ha (by omega),gS.of_flat ((hw.take hi).drop lo) ?_⟩
  rw[LH hw,hsz]
  have:=(fB (by omega)).sub (lo*sz) ((hi - lo)*sz)
  rwa [c9]at this
theorem yh {c:CK} {v:V} {kb:KB} {K:D->KB->Prop} (h:rv c v kb K) {σ:Sg} {E:EH} {W:World} (hi:Inv σ E kb W) {x:Value} (hd:Den σ E v x):
  ∃ E' kb' d,Step σ E kb W σ E' kb' W/\bX E' d x/\K d kb':=by
 have qv:∀{d:D},K d kb->bX E d x->∃ E' kb' d,Step σ E kb W σ E' kb' W/\bX E' d x/\K d kb':=fun hK hr=>⟨E,kb,_,Step.refl hi,hr,hK⟩
 unfold rv at h
 split at h
 ·simp only[Den]at hd;exact qv h (by simp [bX,hd,mH])
 ·simp only[Den]at hd;exact qv h (by simp [bX,hd,mH])
 ·simp only[Den]at hd;exact qv h (by simp [bX,hd,mH])
 ·simp only[Den]at hd;exact qv h (by simp [bX,hd,mH])
 ·simp only[Den]at hd;exact qv h (by simp [bX,hd,mH])
 ·simp only[Den]at hd;exact qv h hd
 ·simp only[Den]at hd
  split at h
  ·exact qv h (by simp only[bX];exact⟨none,0,by simpa using hd,by simp,.inl rfl⟩)
  ·split at h
   ·rename_i h1;exact qv h (by simp only[bX];exact⟨hd,h1⟩)
   ·exact h.elim
 ·split at h<;>try exact h.elim
  simp only[Den]at hd
  obtain⟨a,rfl⟩:=hd
  exact qv h (by simp only[bX];exact⟨a,0,by simp,by simp,.inl rfl⟩)
 ·split at h<;>try exact h.elim
  rename_i f cap v hv
  have hx:=Ef hv hd
  subst hx
  exact qv h ⟨rfl,one_den (σ:=σ) (E:=E) (v:=.fn _ _) rfl hd⟩
 ·rename_i i lo hi'
  split at h<;>try exact h.elim
  rename_i s ty sz l hl
  split at h<;>try exact h.elim
  rename_i hb
  have hsz:=de hb
  subst hsz
  obtain⟨hle,hK⟩:=h
  simp only[Den]at hd
  obtain⟨r,a,hr,rfl,g1,g2,g3⟩:=hd
  obtain⟨k1,k2,k3,k4,k5⟩:=hi.obj i r _ hr hl
  obtain⟨E',h1,h2⟩:=hi.freeze hr hl
  exact⟨E',_,_,h1,UP k1 k2 g1 hle k3 g3 h2,hK⟩
 ·exact h.elim
def mJ (ds:List D):List D->List D
 | []=>ds
 |e::es=>ds++e::es
theorem N6 (ds es:List D):mJ ds es=ds++es:=by cases es<;>simp [mJ]
def vY:List CK->List V->KB->(List D->KB->Prop)->Prop
 | [],[],kb,K=>K [] kb
 | .arr m _::ks,vs,kb,K=>match ux vs m with
  |some (ds,r)=>vY ks r kb (fun es kb'=>K (mJ ds es) kb')
  |none=>False
 |c::ks,v::vs,kb,K=>rv c v kb (fun d kb'=>vY ks vs kb' (fun es j8=>K (d::es) j8))
 |_,_,_,_=>False
theorem GP:∀{ks:List CK} {vs:List V} {kb:KB} {K:List D->KB->Prop},vY ks vs kb K->∀{σ:Sg} {E:EH} {W:World},Inv σ E kb W->∀{xs:List Value},aV σ E vs xs->
  ∃ E' kb' ds,Step σ E kb W σ E' kb' W/\bh E' ds xs/\xs.length=wk ks/\K ds kb'
 | [],[],kb,K,h,σ,E,W,hi,xs,hd=>by
  simp only[aV]at hd;subst hd
  exact⟨E,kb,[],Step.refl hi,.nil,rfl,h⟩
 | [],_:: _,kb,K,h,_,_,_,_,_,_=>h.elim
 |c::ks,vs,kb,K,h,σ,E,W,hi,xs,hd=>by
  have single:∀{v:V} {vs':List V},vs=v::vs'->c.w=1->rv c v kb (fun d kb'=>vY ks vs' kb' (fun es j8=>K (d::es) j8))->
    ∃ E' kb' ds,Step σ E kb W σ E' kb' W/\bh E' ds xs/\xs.length=wk (c::ks)/\K ds kb':=by
   rintro v vs' rfl hw h
   obtain⟨ys,zs,rfl,h1,h2⟩:=hd.iT
   rcases h1 with ⟨y,rfl,_,hy⟩ | ⟨m,cs,rfl,_,_⟩
   ·obtain⟨E1,fu,d,s1,r1,h⟩:=yh h hi hy
    obtain⟨τ,oU⟩:=s1.pre
    have h2':=aV.mono (τ:=[]) s1.le h2
    rw[gz]at h2'
    obtain⟨E2,bY,ds,s2,r2,hl,hK⟩:=GP h s1.inv h2'
    refine⟨E2,bY,d::ds,s1.trans s2,.cons (r1.mono s2.le) r2,?_,hK⟩
    simp only[bn,gA,kP,hl,wk,hw]
   ·exact h.elim
  cases c with
  |arr m z=>
   simp only[vY]at h
   split at h<;>try exact h.elim
   rename_i ds r hg
   obtain⟨ys,zs,rfl,h1,h2,h3⟩:=HV hg hd
   obtain⟨E1,fu,es,s1,r1,hl,hK⟩:=GP h hi h3
   exact⟨E1,fu,ds++es,s1,(h1.mono s1.le).append r1,by rw[bn,h2,hl];rfl,by rw[<- N6];exact hK⟩
  |int k=>cases vs with | nil=>exact h.elim | cons v vs'=>exact single rfl rfl h
  |bool=>cases vs with | nil=>exact h.elim | cons v vs'=>exact single rfl rfl h
  |sl s=>cases vs with | nil=>exact h.elim | cons v vs'=>exact single rfl rfl h
  |other=>cases vs with | nil=>exact h.elim | cons v vs'=>exact single rfl rfl h
def cellsD (P:Program) (t:TypeId) (v:V) (kb:KB) (K:List D->KB->Prop):Prop:=
 match fX P t,oh P 20 t with
 |some n,some ks=>match cX (wk ks) n with
  |true=>match v with
   | .agg vs=>vY ks vs kb K
   |_=>match ks with
    | [c]=>match V.one v,cX n 1 with | true,true=>rv c v kb (fun d kb'=>K [d] kb') | _,_=>False
    |_=>False
  |false=>False
 |_,_=>False
theorem yb {P:Program} {t:TypeId} {v:V} {kb:KB} {K:List D->KB->Prop} (h:cellsD P t v kb K) {σ:Sg} {E:EH} {W:World} (hi:Inv σ E kb W) {x:Value} (hd:Den σ E v x):
  ∃ E' kb' ds xs,Step σ E kb W σ E' kb' W/\x.cells=xs.toArray/\bh E' ds xs/\K ds kb'/\fX P t=some xs.length:=by
 unfold cellsD at h
 split at h<;>try exact h.elim
 rename_i n ks hn hks
 split at h<;>try exact h.elim
 rename_i hb
 have hw:=de hb
 split at h
 ·simp only[Den]at hd
  obtain⟨xs,rfl,hD⟩:=hd
  obtain⟨E1,fu,ds,s1,r1,hl,hK⟩:=GP h hi hD
  exact⟨E1,fu,ds,xs,s1,rfl,r1,hK,by rw[hn,hl,hw]⟩
 ·rename_i hna
  split at h<;>try exact h.elim
  rename_i c
  split at h<;>try exact h.elim
  rename_i ho hn1
  obtain⟨E1,fu,d,s1,r1,hK⟩:=yh h hi hd
  have h3:=one_den ho hd
  refine⟨E1,fu,[d],[x],s1,?_,.cons r1 .nil,hK,by rw[hn,de hn1];rfl⟩
  cases x<;>simp_all [Value.cells,mH]
theorem DP {P:Program} {t:TypeId} {x:Value} {xs:List Value} (hx:x.cells=xs.toArray) (hn:fX P t=some xs.length) (h1:∀ y∈xs,y.oneCell'=true)
  {W:World} {b o:Nat} {arr:Array Value} {ty:TypeId} (hb:W.heap[b]? =some (.cells arr ty (0,0))) (hl:o+xs.length<=arr.size):
  (storeVar t ⟨b,o,none⟩ x).run P W= .ok () (W.setRow b (splice arr.toList o xs).toArray):=by
 unfold storeVar
 rw[Sem.run_bind,kK hn,Result.andThen_ok,hx]
 have hs:=run_storeCells_at P b o ty xs 0 arr W hb (by simpa using hl) h1
 simp only[Nat.add_zero]at hs
 simp [hs,splice]
theorem DT {σ:Sg} {E:EH} {kb:KB} {W:World} (hi:Inv σ E kb W) {i:Nat} {r:Re} {o o':KO} (hs:σ[i]? =some r) (hk:kb[i]? =some o) (arr:Array Value)
  (hr:∀ b,owned r o b ↔ b=r.blk) (hr':∀ b,owned r o' b->b=r.blk) (ho:ij σ E (W.setRow r.blk arr) r o'):
  Step σ E kb W σ E (kb.set i o') (W.setRow r.blk arr):=
 hi.set hs hk rfl rfl rfl (by simp [World.setRow]) (fun b hb=>setRow_other W r.blk b arr (fun e=>hb ((hr b).2 e))) (fun b hb=>(hr b).2 (hr' b hb)) ho
def Lw (P:Program) (t:TypeId) (addr v:V) (kb:KB) (K:KB->Prop):Prop:=
 match addr with
 | .ptr i off=>match Bu P t v,kb[i]? with
  |some vs,some (.cells l)=>match jC l off vs with
   |some l'=>K (kb.set i (.cells l'))
   |none=>False
  |_,_=>False
 | .pa i base o=>match fX P t with
  |some n=>cellsD P t v kb (fun ds kb=>match kb[i]? with
   |some (.cells l)=>match jm l base with
    |some (.arr m cs)=>match jC l base [.arr m (splice cs o ds)]with
     |some l'=>o+n<=m/\K (kb.set i (.cells l'))
     |none=>False
    |_=>False
   |_=>False)
  |none=>False
 | .pe i ix bw=>match fX P t with
  |some n=>cellsD P t v kb (fun ds kb=>match kb[i]? with
   |some (.row ty sz l)=>match cX n sz with
    |true=>match bw with
     | 0=>ix<l.length/\K (kb.set i (.row ty sz (l.set ix ds)))
     |_=>False
    |false=>∃ e,l[ix]? =some e/\bw+n<=sz/\K (kb.set i (.row ty sz (l.set ix (splice e bw ds))))
   |_=>False)
  |none=>False
 |_=>False
theorem HH {sz:Nat}:∀{l:List (List D)},wl sz l->∀{ix:Nat},ix<l.length->∀{e:List D},e.length=sz->
  (l.set ix e).flatten=splice l.flatten (ix*sz) e
 | [],_,ix,h,_,_=>by simp at h
 |c::l,hs,ix,h,e,he=>by
  have hc:c.length=sz:=hs c (by simp)
  cases ix with
  |zero=>simp [splice,he,<- hc]
  |succ ix=>
   rw[List.set_cons_succ,jF,HH hs.cons (by simpa using h) he]
   have e1:(ix+1)*sz=c.length+ix*sz:=by rw[Nat.succ_mul,hc];omega
   unfold splice
   rw[e1,jF,List.take_length_add_append,g_ c.length,List.drop_length_add_append]
   simp only[dX]
theorem uy {α:Type} {l:List α} {off:Nat} {vs:List α} (h:off<=l.length) (j:Nat):(splice l off vs)[j]? =if j<off then l[j]? else if j<off+vs.length then vs[j - off]? else l[j]?:=by
 have hl:(l.take off).length=off:=by simp;omega
 unfold splice
 by_cases h1:j<off
 ·rw[if_pos h1,dX,dY (by omega),iF h1]
 ·rw[if_neg h1]
  by_cases h2:j<off+vs.length
  ·rw[if_pos h2,dY (by rw[bn];omega),fk (by omega),hl]
  ·rw[if_neg h2,fk (by rw[bn];omega),jW,bn,hl]
   congr 1;omega
theorem Vz {α:Type} {l xs:List α} {base m o:Nat} (h:base+m<=l.length) (k:o+xs.length<=m):splice l base (splice ((l.drop base).take m) o xs)=splice l (base+o) xs:=by
 have h1:((l.drop base).take m).length=m:=by simp;omega
 have h2:(splice ((l.drop base).take m) o xs).length=m:=by rw[mW (by omega),h1]
 apply mb
 intro j
 rw[uy (l:=l) (off:=base) (by omega),uy (l:=l) (off:=base+o) (by omega),h2]
 by_cases c1:j<base
 ·rw[if_pos c1,if_pos (by omega)]
 ·rw[if_neg c1]
  by_cases c2:j<base+m
  ·rw[if_pos c2,uy (l:=(l.drop base).take m) (off:=o) (by omega)]
   by_cases c3:j - base<o
   ·rw[if_pos c3,if_pos (by omega),iF (by omega),jW]
    congr 1;omega
   ·rw[if_neg c3]
    by_cases c4:j - base<o+xs.length
    ·rw[if_pos c4,if_neg (by omega),if_pos (by omega)]
     congr 1;omega
    ·rw[if_neg c4,if_neg (by omega),if_neg (by omega),iF (by omega),jW]
     congr 1;omega
  ·rw[if_neg c2,if_neg (by omega),if_neg (by omega)]
theorem af0 {α:Type} {l:List α} {n off:Nat} {vs:List α} (h:off+vs.length<=n) (hn:n<=l.length):(splice l off vs).take n=splice (l.take n) off vs:=by
 unfold splice
 rw[List.take_append,List.take_append]
 have e1:(l.take off).take n=l.take off:=by rw[List.take_take,Nat.min_eq_right (by omega)]
 have e2:vs.take (n - (l.take off).length)=vs:=eQ (by simp;omega)
 rw[e1,e2,List.take_take,Nat.min_eq_left (by omega),List.drop_take]
 congr 2
 simp;omega
theorem ZZ {α:Type} {z:List α} {f sz:Nat} (h:f<=sz):z.drop f=(z.take sz).drop f++z.drop sz:=by
 have h1:z.drop f=(z.take sz++z.drop sz).drop f:=by rw[List.take_append_drop]
 rw[h1,List.drop_append]
 congr 1
 rcases Nat.le_total sz z.length with hz | hz
 ·rw[cW,Nat.min_eq_left hz,Nat.sub_eq_zero_of_le h,iD]
 ·rw[List.drop_eq_nil_of_le hz,List.drop_nil]
theorem PZ {sz:Nat} {l:List (List D)} (hw:wl sz l) {ix bw:Nat} {e xs:List D} (he:l[ix]? =some e) (hf:bw+xs.length<=sz):
  (l.set ix (splice e bw xs)).flatten=splice l.flatten (ix*sz+bw) xs:=by
 have mi:ix<l.length:=(bH.1 he).1
 have tp:=hw e (fF he)
 have j6:(splice e bw xs).length=sz:=by rw[mW (by omega),tp]
 rw[HH hw mi j6]
 have e1:=HJ hw he
 unfold splice
 have e2:l.flatten.take (ix*sz+bw)=l.flatten.take (ix*sz)++e.take bw:=by
  rw[List.take_add,<- e1,List.take_take,Nat.min_eq_left (by omega)]
 have e3:l.flatten.drop (ix*sz+bw+xs.length)=e.drop (bw+xs.length)++l.flatten.drop (ix*sz+(e.take bw++xs++e.drop (bw+xs.length)).length):=by
  have e4:(e.take bw++xs++e.drop (bw+xs.length)).length=sz:=j6
  rw[e4,g_,<- List.drop_drop,ZZ hf,e1,List.drop_drop]
 rw[e2,e3]
 simp only[dX]
theorem zv {σ:Sg} {E:EH} {kb:KB} {W:World} (hi:Inv σ E kb W) {i:Nat} {r:Re} {ty:TypeId} {sz:Nat} {l l':List (List D)} (hs:σ[i]? =some r) (hk:kb[i]? =some (.row ty sz l))
  {o:Nat} {ds:List D} {xs:List Value} (hd:bh E ds xs) (hl:l'.length=l.length) (hw:wl sz l') (hfl:l'.flatten=splice l.flatten o ds) (hb:o+ds.length<=l.length*sz) (hpos:0<l.length):
  ∃ arr,W.heap[r.blk]? =some (.cells arr ty (0,0))/\o+xs.length<=arr.size/\
   Step σ E kb W σ E (kb.set i (.row ty sz l')) (W.setRow r.blk (splice arr.toList o xs).toArray):=by
 obtain⟨rfl,g1,g2,g3,g4⟩:=hi.obj i r _ hs hk
 rcases g4 with g4 | ⟨arr,g4,g5,g6⟩
 ·omega
 have im:=hd.len
 have hm2:l.length*r.sz<=r.cap*r.sz:=Nat.mul_le_mul_right _ g2
 have hcap:r.cap≠0:=by omega
 refine⟨arr,g4,by omega,DT hi hs hk _ (fun b=>⟨fun h=>h.2,fun h=>⟨hcap,h⟩⟩) (fun b h=>h.2) ⟨rfl,hw,by omega,g3,.inr ⟨_,setRow_heap W r.blk arr _ ty (0,0) g4,?_,?_⟩⟩⟩
 ·simp only[List.size_toArray]
  rw[mW (by simp;omega)]
  simpa using g5
 ·simp only[hl]
  rw[af0 (by omega) (by simp;omega),hfl]
  exact g6.splice hd o
theorem agi {P:Program} {t:TypeId} {addr v:V} {kb:KB} {K:KB->Prop} (h:Lw P t addr v kb K) {σ:Sg} {E:EH} {W:World} (hi:Inv σ E kb W) {a x:Value}
  (hd:Den σ E addr a) (hx:Den σ E v x):∃ E' kb' W',(Instr.storeAt t a x).run P W= .ok () W'/\Step σ E kb W σ E' kb' W'/\K kb':=by
 unfold Lw at h
 split at h
 ·rename_i i off
  split at h<;>try exact h.elim
  rename_i vs l hvs hl
  split at h<;>try exact h.elim
  rename_i l' hl'
  obtain⟨xs,hc,hD,h1,hn⟩:=OG hvs hx
  simp only[Den]at hd
  obtain⟨r,hr,rfl⟩:=hd
  obtain⟨arr,ty,g1,g2⟩:=hi.obj i r _ hr hl
  obtain⟨g3,g4⟩:=u7 hl' g2 hD
  have hst:Step σ E kb W σ E (kb.set i (.cells l')) (W.setRow r.blk (splice arr.toList off xs).toArray):=
   DT hi hr hl _ (fun b=>Iff.rfl) (fun b hb=>hb) ⟨_,ty,setRow_heap W r.blk arr _ ty (0,0) g1,by simpa using g3⟩
  exact⟨_,_,_,by simpa [Instr.storeAt,Instr.sureAddr]using DP hc hn h1 g1 (by simpa using g4),hst,h⟩
 ·rename_i i base o
  split at h<;>try exact h.elim
  rename_i n hn
  obtain⟨E1,fu,ds,xs,s1,hc,hD,h,mj⟩:=yb h hi hx
  simp only[Den]at hd
  obtain⟨r,hr,rfl⟩:=hd
  split at h<;>try exact h.elim
  rename_i l hl
  split at h<;>try exact h.elim
  rename_i m cs hp
  split at h<;>try exact h.elim
  rename_i l' hl'
  obtain⟨hle,hK⟩:=h
  have Iy:n=xs.length:=by rw[hn]at mj;exact bb.inj mj
  obtain⟨arr,ty,g1,g2⟩:=s1.inv.obj i r _ hr hl
  obtain⟨ys,p1,p2,p3,p4⟩:=Dp hp g2
  have hdl:=hD.len
  have j7:=p1.len
  have j6:(splice cs o ds).length=m:=by rw[mW (by omega),p2]
  obtain⟨g3,g4⟩:=u7 hl' g2 (.cons (.inr ⟨m,_,rfl,j6,p1.splice hD o⟩) .nil)
  have he:splice arr.toList base (splice ys o xs++[])=splice arr.toList (base+o) xs:=by
   rw[gz,<- p4]
   exact Vz p3 (by omega)
  rw[he]at g3
  have hst:Step σ E1 fu W σ E1 (fu.set i (.cells l')) (W.setRow r.blk (splice arr.toList (base+o) xs).toArray):=
   DT s1.inv hr hl _ (fun b=>Iff.rfl) (fun b hb=>hb) ⟨_,ty,setRow_heap W r.blk arr _ ty (0,0) g1,by simpa using g3⟩
  simp only[Array.length_toList]at p3
  exact⟨_,_,_,by simpa [Instr.storeAt,Instr.sureAddr]using DP hc mj hD.one g1 (by omega),s1.trans hst,hK⟩
 ·rename_i i ix bw
  split at h<;>try exact h.elim
  rename_i n hn
  obtain⟨E1,fu,ds,xs,s1,hc,hD,h,mj⟩:=yb h hi hx
  simp only[Den]at hd
  obtain⟨r,hr,rfl⟩:=hd
  split at h<;>try exact h.elim
  rename_i ty sz l hl
  have Iy:n=xs.length:=by rw[hn]at mj;exact bb.inj mj
  have hdl:=hD.len
  obtain⟨hsz,hw,_⟩:=s1.inv.obj i r _ hr hl
  split at h
  ·rename_i hb
   have hb:=de hb
   split at h<;>try exact h.elim
   obtain⟨mi,hK⟩:=h
   have hm:(ix+1)*sz<=l.length*sz:=Nat.mul_le_mul_right _ mi
   rw[Nat.succ_mul]at hm
   obtain⟨arr,g1,g2,g3⟩:=zv s1.inv hr hl (o:=ix*sz) hD (by simp) (hw.set ix (e:=ds) (by omega)) (HH hw mi (by omega)) (by omega) (by omega)
   rw[<- hsz]at g2 g3
   exact⟨_,_,_,by simpa [Instr.storeAt,Instr.sureAddr]using DP hc mj hD.one g1 g2,s1.trans (by rw[hsz]at g3 ⊢;exact g3),hK⟩
  ·obtain⟨e,he,hle,hK⟩:=h
   have mi:ix<l.length:=(bH.1 he).1
   have hm:(ix+1)*sz<=l.length*sz:=Nat.mul_le_mul_right _ mi
   rw[Nat.succ_mul]at hm
   have tp:=hw e (fF he)
   obtain⟨arr,g1,g2,g3⟩:=zv s1.inv hr hl (o:=ix*sz+bw) hD (by simp) (hw.set ix (e:=splice e bw ds) (by rw[mW (by omega),tp])) (PZ hw he (by omega)) (by omega) (by omega)
   rw[<- hsz]at g2 g3
   exact⟨_,_,_,by simpa [Instr.storeAt,Instr.sureAddr]using DP hc mj hD.one g1 g2,s1.trans (by rw[hsz]at g3 ⊢;exact g3),hK⟩
 ·exact h.elim
def eqv:Value->Value->Bool
 | .int γ a,.int γ b | .int ξ a,.int ξ b | .int .u16 a,.int .u16 b | .int iM a,.int iM b | .int .u64 a,.int .u64 b=>decide (a=b)
 | .bool a,.bool b=>a == b
 |_,_=>false
theorem Z8 {a b:Value} (h:eqv a b=true):a=b:=by
 unfold eqv at h
 split at h<;>simp_all
def u0 (z:Value):Nat->List Value->Option (List Value)
 | 0,l=>some l
 |n+1,a::l=>match eqv a z with | true=>u0 z n l | false=>none
 |_+1,[]=>none
theorem KK {z:Value}:∀{n:Nat} {l r:List Value},u0 z n l=some r->l=dv n z++r
 | 0,l,r,h=>by simp [u0]at h;subst h;simp
 |n+1,[],r,h=>by simp [u0]at h
 |n+1,a::l,r,h=>by
  simp only[u0]at h
  split at h
  ·rename_i e;rw[Z8 e,KK h];simp [List.replicate_succ]
  ·cases h
def lJ:List CK->List Value->Option (List V)
 | [],[]=>some []
 | .arr m z::ks,cs=>match u0 z m cs,z.oneCell' with
  |some r,true=>match lJ ks r with | some us=>some (.arr m (dv m (.val z))::us) | none=>none
  |_,_=>none
 |_::ks,c::cs=>match c.oneCell' with
  |true=>match lJ ks cs with | some us=>some (oR c::us) | none=>none
  |false=>none
 |_,_=>none
theorem zY (σ:Sg) (E:EH):∀{ks:List CK} {cs:List Value} {us:List V},lJ ks cs=some us->aV σ E us cs
 | [],[],us,h=>by simp [lJ]at h;subst h;exact .nil
 | [],_:: _,us,h=>by simp [lJ]at h
 |c::ks,cs,us,h=>by
  have single:∀{x:Value} {cs':List Value},cs=x::cs'->(match x.oneCell' with | true=>(match lJ ks cs' with | some us=>some (oR x::us) | none=>none) | false=>none)=some us->aV σ E us cs:=by
   rintro x cs' rfl h
   split at h<;>try (cases h;done)
   rename_i h1
   split at h<;>try (cases h;done)
   rename_i us' lS
   cases h
   exact .ju (BE σ E x) h1 (zY σ E lS)
  cases c with
  |arr m z=>
   simp only[lJ]at h
   split at h<;>try (cases h;done)
   rename_i r hr h1
   split at h<;>try (cases h;done)
   rename_i us' lS
   cases h
   rw[KK hr]
   exact .cons (.inr ⟨m,_,rfl,by simp,bh.replicate (show bX E (.val z) z from⟨rfl,h1⟩) m⟩) (zY σ E lS)
  |int k=>cases cs with | nil=>simp [lJ]at h | cons v vs'=>exact single rfl (by simpa only[lJ]using h)
  |bool=>cases cs with | nil=>simp [lJ]at h | cons v vs'=>exact single rfl (by simpa only[lJ]using h)
  |sl s=>cases cs with | nil=>simp [lJ]at h | cons v vs'=>exact single rfl (by simpa only[lJ]using h)
  |other=>cases cs with | nil=>simp [lJ]at h | cons v vs'=>exact single rfl (by simpa only[lJ]using h)
theorem N2 {σ:Sg} {E:EH} {kb:KB} {W:World} (hi:Inv σ E kb W) {vs:List V} {xs:List Value} (hd:aV σ E vs xs) (ty:TypeId):
  ∃ σ',Step σ E kb W σ' E (kb++[.cells vs]) (W.alloc (.cells xs.toArray ty))/\Den σ' E (.ptr kb.length 0) (.pointer (some ⟨W.heap.size,0,none⟩)):=by
 have ho:ij (σ++[⟨W.heap.size,0,0⟩]) E (W.alloc (.cells xs.toArray ty)) ⟨W.heap.size,0,0⟩ (.cells vs):=by
  refine⟨xs.toArray,ty,?_,?_⟩
  ·show(W.heap.push _)[W.heap.size]? =_
   simp
  ·exact aV.mono (EH.le.refl E) hd
 refine⟨σ++[⟨W.heap.size,0,0⟩],hi.alloc _ ⟨W.heap.size,0,0⟩ (.cells vs) (fun b hb=>hb) ho,?_⟩
 ·simp only[Den]
  exact⟨⟨W.heap.size,0,0⟩,by rw[<- hi.len];simp,rfl⟩
theorem N3 {σ:Sg} {E:EH} {kb:KB} {W:World} (hi:Inv σ E kb W) {ty:TypeId} {sz cap:Nat} {l:List (List D)} {arr:Array Value} (h1:wl sz l) (h2:l.length<=cap)
  (h3:cap<=maxLen) (h4:arr.size=cap*sz) (h5:bh E l.flatten (arr.toList.take (l.length*sz))):
  Step σ E kb W (σ++[⟨W.heap.size,cap,sz⟩]) E (kb++[.row ty sz l]) (W.alloc (.cells arr ty)):=by
 refine hi.alloc _ _ _ (fun b hb=>hb.2) ⟨rfl,h1,h2,h3,.inr ⟨arr,?_,h4,h5⟩⟩
 show(W.heap.push _)[W.heap.size]? =_
 simp
def zeroV (P:Program) (t:TypeId):Option (List V):=
 match (P.info? t).bind (·.zero),oh P 20 t with
 |some z,some ks=>lJ ks z.cells.toList
 |_,_=>none
def FW (P:Program) (t:TypeId) (kb:KB) (K:V->KB->Prop):Prop:=
 match zeroV P t with
 |some vs=>K (.ptr kb.length 0) (kb++[.cells vs])
 |none=>False
theorem afs {P:Program} {t:TypeId} {z:Value} (h:(P.info? t).bind (·.zero)=some z) (W:World):
  (Instr.alloc t true (.tuple #[])).run P W= .ok (.pointer (some ⟨W.heap.size,0,none⟩)) (W.alloc (.cells z.cells t)):=by
 obtain⟨i,hi,hz⟩:=lO.1 h
 simp [Instr.alloc,zeroValue,typeInfo,hi,hz,newVar,newRow]
theorem N1 {P:Program} {t:TypeId} {kb:KB} {K:V->KB->Prop} (h:FW P t kb K) {σ:Sg} {E:EH} {W:World} (hi:Inv σ E kb W):
  ∃ v x σ' kb' W',(Instr.alloc t true (.tuple #[])).run P W= .ok x W'/\Step σ E kb W σ' E kb' W'/\Den σ' E v x/\K v kb'/\pu W W':=by
 unfold FW zeroV at h
 split at h<;>try exact h.elim
 rename_i vs hvs
 split at hvs<;>try (cases hvs;done)
 rename_i z ks hz hks
 obtain⟨σ',h1,h2⟩:=N2 hi (zY σ E hvs) t
 exact⟨_,_,σ',_,_,afs hz W,by simpa using h1,h2,h,fun k hk=>by
  show(W.heap.push _)[k]? =_
  rw[Array.getElem?_push,if_neg (by omega)]⟩
def Gm (P:Program) (t:TypeId) (v:V) (kb:KB) (K:V->KB->Prop):Prop:=
 match Bu P t v with
 |some vs=>K (.ptr kb.length 0) (kb++[.cells vs])
 |none=>False
theorem Y6 {P:Program} {t:TypeId} {v:V} {kb:KB} {K:V->KB->Prop} (h:Gm P t v kb K) {σ:Sg} {E:EH} {W:World} (hi:Inv σ E kb W) {y:Value} (hy:Den σ E v y):
  ∃ u x σ' kb' W',(Instr.box t y).run P W= .ok x W'/\Step σ E kb W σ' E kb' W'/\Den σ' E u x/\K u kb':=by
 unfold Gm at h
 split at h
 ·rename_i vs hvs
  obtain⟨xs,hc,hD,_,_⟩:=OG hvs hy
  obtain⟨σ',h1,h2⟩:=N2 hi hD t
  exact⟨_,_,σ',_,_,by simp [Instr.box,newVar,newRow,hc],h1,h2,h⟩
 ·exact h.elim
def Hw (P:Program) (s:TypeId) (addr:V) (n:Nat) (K:V->Prop):Prop:=
 match P.underlying s with
 |some (.struct fs)=>
  match fs[n]? with
  |some f=>
   match fX P f.type with
   |some (_+1)=>
    match addr with
    | .ptr i off=>K (.ptr i (off+f.offset))
    | .pe i ix bw=>K (.pe i ix (bw+f.offset))
    | .dm e bw=>K (.dm e (bw+f.offset))
    |_=>False
   |_=>False
  |none=>False
 |_=>False
theorem KZ {P:Program} {s:TypeId} {fs:Array Field} {n:Nat} {f:Field} {m:Nat} (hs:P.underlying s=some (.struct fs)) (hf:fs[n]? =some f) (hm:fX P f.type=some (m+1)) (b o:Nat) (W:World):
  (Instr.fieldAt s (.pointer (some ⟨b,o,none⟩)) n).run P W= .ok (.pointer (some ⟨b,o+f.offset,none⟩)) W:=by
 simp [Instr.fieldAt,run_underlying hs,hf,Instr.sureAddr,fieldPlace,kK hm,Addr.add_lit]
theorem aag {P:Program} {s:TypeId} {addr:V} {n:Nat} {K:V->Prop} (h:Hw P s addr n K) {σ:Sg} {E:EH} {a:Value} (hd:Den σ E addr a):
  ∃ v x,(∀ W,(Instr.fieldAt s a n).run P W= .ok x W)/\Den σ E v x/\K v:=by
 unfold Hw at h
 split at h<;>try exact h.elim
 rename_i fs hs
 split at h<;>try exact h.elim
 rename_i f hf
 split at h<;>try exact h.elim
 rename_i m hm
 split at h<;>try exact h.elim
 ·simp only[Den]at hd
  obtain⟨r,hr,rfl⟩:=hd
  exact⟨_,_,fun W=>KZ hs hf hm _ _ W,by simp only[Den];exact⟨r,hr,rfl⟩,h⟩
 ·simp only[Den]at hd
  obtain⟨r,hr,rfl⟩:=hd
  exact⟨_,_,fun W=>KZ hs hf hm _ _ W,by simp only[Den];exact⟨r,hr,by rw[g_]⟩,h⟩
 ·simp only[Den]at hd
  obtain⟨b,off,rfl,hr⟩:=hd
  exact⟨_,_,fun W=>KZ hs hf hm _ _ W,by simp only[Den];exact⟨b,off,by rw[g_],hr⟩,h⟩
def br (n:Int) (m:Nat):Prop:=0<=n/\n<(m:Int)
def aA (n:Int):Prop:=0<=n
def Gw:Nat->Nat->(Nat->Prop)->Prop
 | 0,_,_=>True
 | 1,j,p=>p j
 |k+2,j,p=>p j/\Gw (k+1) (j+1) p
theorem Oy:∀{k j:Nat} {p:Nat->Prop},Gw k j p->∀ i,j<=i->i<j+k->p i
 | 0,j,p,_,i,h1,h2=>by omega
 | 1,j,p,h,i,h1,h2=>by
  have:i=j:=by omega
  subst this;exact h
 |k+2,j,p,h,i,h1,h2=>by
  by_cases e:i=j
  ·subst e;exact h.1
  ·exact Oy h.2 i (by omega) (by omega)
def numOf:V->Option Int
 | .int _ n=>some n
 | .lit _ n=>some n
 |_=>none
theorem uS {v:V} {n:Int} (h:numOf v=some n) {σ:Sg} {E:EH} {x:Value} (hd:Den σ E v x):∃ k,x= .int k n:=by
 cases v<;>simp only[numOf,bb.injEq,reduceCtorEq]at h<;>subst h<;>exact⟨_,by simpa only[Den]using hd⟩
def RF:V->Bool
 | .lit _ _=>true
 |_=>false
def IS (P:Program) (t:TypeId) (x ix:V) (kb:KB) (K:V->Prop):Prop:=
 match P.underlying t,numOf ix with
 |some (.slice elem),some n=>
  match fX P elem with
  |some (s+1)=>match x with
   | .sl i lo hi=>match kb[i]? with
    |some (.row _ sz _)=>match cX sz (s+1)with
     |true=>br n (hi - lo)/\K (.pe i (lo+n.toNat) 0)
     |false=>False
    |_=>False
   | .dat (.sl sz l)=>match cX sz (s+1)with
    |true=>aA n/\∃ e,l[n.toNat]? =some e/\K (.dm e 0)
    |false=>False
   | .sa i base o s' m c=>match cX s' (s+1)with
    |true=>br n m/\K (.pa i base (o+n.toNat*s'))
    |false=>False
   | .se i j o s' m c=>match cX s' (s+1)with
    |true=>br n m/\K (.pe i j (o+n.toNat*s'))
    |false=>False
   |_=>False
  |_=>False
 |some (.array m elem),some n=>
  match fX P elem with
  |some s=>match x with
   | .ptr i off=>match kb[i]? with
    |some (.cells l)=>match jm l off with
     |some (.arr _ _)=>br n m/\K (.pa i off (n.toNat*s))
     |_=>match RF ix with
      |true=>br n m/\K (.ptr i (off+n.toNat*s))
      |false=>br n m/\Gw m 0 (fun j=>n=(j:Int)->K (.ptr i (off+j*s)))
    |_=>False
   | .pa i base o=>br n m/\K (.pa i base (o+n.toNat*s))
   | .pe i j bw=>br n m/\K (.pe i j (bw+n.toNat*s))
   | .dm e bw=>br n m/\K (.dm e (bw+n.toNat*s))
   |_=>False
  |none=>False
 |_,_=>False
theorem DK {P:Program} {t elem:TypeId} {s:Nat} (ht:P.underlying t=some (.slice elem)) (hs:fX P elem=some s) {b o len cap:Nat} {k:IntKind} {n:Int} (h0:0<=n) (h1:n<(len:Int)) (W:World):
  (Instr.indexAt t (.slice (some ⟨b,o,none⟩) len cap) (.int k n)).run P W= .ok (.pointer (some ⟨b,o+n.toNat*s,none⟩)) W:=by
 simp [Instr.indexAt,asIntOf,run_underlying ht,h0,h1,kK hs,Addr.add_lit]
theorem xd {P:Program} {t elem:TypeId} {m s:Nat} (ht:P.underlying t=some (.array m elem)) (hs:fX P elem=some s) {b o:Nat} {k:IntKind} {n:Int} (h0:0<=n) (h1:n<(m:Int)) (W:World):
  (Instr.indexAt t (.pointer (some ⟨b,o,none⟩)) (.int k n)).run P W= .ok (.pointer (some ⟨b,o+n.toNat*s,none⟩)) W:=by
 simp [Instr.indexAt,asIntOf,run_underlying ht,h0,h1,kK hs,Addr.add_lit,Instr.sureAddr]
theorem gS.at {E:EH} {sz:Nat} {l:List (List D)} {b off:Nat} (h:gS E sz l b off) {ix:Nat} {e:List D} (he:l[ix]? =some e):dZ E e b (off+ix*sz):=by
 have:=h.flat.sub (ix*sz) sz
 rwa [HJ h.wl he]at this
theorem abl {P:Program} {t:TypeId} {x ix:V} {kb:KB} {K:V->Prop} (h:IS P t x ix kb K) {σ:Sg} {E:EH} {W:World} (hi:Inv σ E kb W) {a y:Value} (hd:Den σ E x a) (hy:Den σ E ix y):
  ∃ v z,(∀ W,(Instr.indexAt t a y).run P W= .ok z W)/\Den σ E v z/\K v:=by
 unfold IS at h
 split at h<;>try exact h.elim
 ·rename_i elem n ht hn
  obtain⟨k,rfl⟩:=uS hn hy
  split at h<;>try exact h.elim
  rename_i s hs
  split at h<;>try exact h.elim
  ·rename_i i lo hi'
   split at h<;>try exact h.elim
   rename_i ty sz l hl
   split at h<;>try exact h.elim
   rename_i hb
   have hsz:=de hb
   obtain⟨⟨h0,h1⟩,hK⟩:=h
   simp only[Den]at hd
   obtain⟨r,ad,hr,rfl,hlo,hhi,had⟩:=hd
   have hrs:=(hi.obj i r _ hr hl).1
   rw[had (by omega)]
   exact⟨_,_,fun W=>DK ht hs h0 h1 W,by simp only[Den];exact⟨r,hr,by simp [hrs,hsz,Nat.add_mul]⟩,hK⟩
  ·rename_i sz l
   split at h<;>try exact h.elim
   rename_i hb
   have hsz:=de hb
   obtain⟨h0,e,he,hK⟩:=h
   unfold aA at h0
   simp only[Den,bX]at hd
   obtain⟨ad,cap,rfl,hcap,fB⟩:=hd
   have hn':n.toNat<l.length:=(bH.1 he).1
   rcases fB with fB | ⟨b,off,rfl,fB⟩
   ·omega
   ·refine⟨_,_,fun W=>DK ht hs h0 (by omega) W,?_,hK⟩
    simp only[Den]
    exact⟨b,off+n.toNat*(s+1),by simp,by rw[<- hsz];exact fB.at he⟩
  ·rename_i i base o s' m c
   split at h<;>try exact h.elim
   rename_i hb
   have hsz:=de hb
   obtain⟨⟨h0,h1⟩,hK⟩:=h
   simp only[Den]at hd
   obtain⟨r,ad,hr,rfl,hmc,had⟩:=hd
   rw[had (by omega)]
   exact⟨_,_,fun W=>DK ht hs h0 h1 W,by simp only[Den];exact⟨r,hr,by rw[hsz,g_]⟩,hK⟩
  ·rename_i i j o s' m c
   split at h<;>try exact h.elim
   rename_i hb
   have hsz:=de hb
   obtain⟨⟨h0,h1⟩,hK⟩:=h
   simp only[Den]at hd
   obtain⟨r,ad,hr,rfl,hmc,had⟩:=hd
   rw[had (by omega)]
   exact⟨_,_,fun W=>DK ht hs h0 h1 W,by simp only[Den];exact⟨r,hr,by rw[hsz,g_]⟩,hK⟩
 ·rename_i m elem n ht hn
  obtain⟨k,rfl⟩:=uS hn hy
  split at h<;>try exact h.elim
  rename_i s hs
  split at h<;>try exact h.elim
  ·rename_i i off
   simp only[Den]at hd
   obtain⟨r,hr,rfl⟩:=hd
   split at h<;>try exact h.elim
   rename_i l hl
   split at h
   ·obtain⟨⟨h0,h1⟩,hK⟩:=h
    exact⟨_,_,fun W=>xd ht hs h0 h1 W,by simp only[Den];exact⟨r,hr,rfl⟩,hK⟩
   ·split at h
    ·obtain⟨⟨h0,h1⟩,hK⟩:=h
     exact⟨_,_,fun W=>xd ht hs h0 h1 W,by simp only[Den];exact⟨r,hr,rfl⟩,hK⟩
    ·obtain⟨⟨h0,h1⟩,hK⟩:=h
     have:=Oy hK n.toNat (bj _) (by omega) (by omega)
     exact⟨_,_,fun W=>xd ht hs h0 h1 W,by simp only[Den];exact⟨r,hr,rfl⟩,this⟩
  ·rename_i i base o
   simp only[Den]at hd
   obtain⟨r,hr,rfl⟩:=hd
   obtain⟨⟨h0,h1⟩,hK⟩:=h
   exact⟨_,_,fun W=>xd ht hs h0 h1 W,by simp only[Den];exact⟨r,hr,by rw[g_]⟩,hK⟩
  ·rename_i i j bw
   simp only[Den]at hd
   obtain⟨r,hr,rfl⟩:=hd
   obtain⟨⟨h0,h1⟩,hK⟩:=h
   exact⟨_,_,fun W=>xd ht hs h0 h1 W,by simp only[Den];exact⟨r,hr,by rw[g_]⟩,hK⟩
  ·rename_i e bw
   simp only[Den]at hd
   obtain⟨b,off,rfl,hr⟩:=hd
   obtain⟨⟨h0,h1⟩,hK⟩:=h
   exact⟨_,_,fun W=>xd ht hs h0 h1 W,by simp only[Den];exact⟨b,off,by rw[g_],hr⟩,hK⟩
def lK:Option Value->Nat->Nat->Prop
 |none,d,r=>r=d
 |some v,_,r=>∃ k n,v= .int k n/\0<=n/\r=n.toNat
theorem run_sliceBound {P:Program} {W:World} (k:IntKind) (n:Int) (y:Nat) (c:BoundsCode) (hn:0<=n) (hy:n.toNat<=y):(Instr.sliceBound (.int k n) y c).run P W= .ok n.toNat W:=by
 have:n<=(y:Int):=by omega
 simp [Instr.sliceBound,asIntOf,hn,this]
theorem K2 {P:Program} (W:World) (b:Bool) {len cap:Nat} {lo hi:Option Value} {l h:Nat} (hl:lK lo 0 l) (hh:lK hi len h) (h1:l<=h) (h2:h<=cap):
  (Instr.sliceBounds b len cap lo hi none).run P W= .ok (l,h,cap) W:=by
 cases lo with
 |none=>
  cases hi with
  |none=>
   simp only[lK]at hl hh
   subst hl;subst hh
   simp [Instr.sliceBounds]
  |some v=>
   simp only[lK]at hl hh
   obtain⟨k,n,rfl,hn,rfl⟩:=hh
   subst hl
   simp [Instr.sliceBounds,run_sliceBound k n cap _ hn h2]
 |some u=>
  simp only[lK]at hl
  obtain⟨k',n',rfl,hn',rfl⟩:=hl
  cases hi with
  |none=>
   simp only[lK]at hh
   subst hh
   simp [Instr.sliceBounds,run_sliceBound k' n' h _ hn' h1]
  |some v=>
   simp only[lK]at hh
   obtain⟨k,n,rfl,hn,rfl⟩:=hh
   simp [Instr.sliceBounds,run_sliceBound k n cap _ hn h2,run_sliceBound k' n' n.toNat _ hn' h1]
theorem xe {P:Program} {t elem:TypeId} {s:Nat} (ht:P.underlying t=some (.slice elem)) (hs:fX P elem=some s) (W:World) {a:Option Addr} {len cap:Nat} {lo hi:Option Value} {l h:Nat}
  (hl:lK lo 0 l) (hh:lK hi len h) (h1:l<=h) (h2:h<=cap):
  (Instr.sliceAt t (.slice a len cap) lo hi none).run P W= .ok (.slice (if cap=l then a else a.map (·.add (l*s))) (h - l) (cap - l)) W:=by
 simp [Instr.sliceAt,Instr.slice,run_underlying ht,K2 W true hl hh h1 h2,kK hs]
theorem afy {P:Program} {t arr elem:TypeId} {n s:Nat} (ht:P.underlying t=some (.pointer arr)) (ha:P.underlying arr=some (.array n elem)) (hs:fX P elem=some s) (W:World) {b o:Nat} {lo hi:Option Value} {l h:Nat}
  (hl:lK lo 0 l) (hh:lK hi n h) (h1:l<=h) (h2:h<=n):
  (Instr.sliceAt t (.pointer (some ⟨b,o,none⟩)) lo hi none).run P W= .ok (.slice (some (if n=l then⟨b,o,none⟩else⟨b,o+l*s,none⟩)) (h - l) (n - l)) W:=by
 simp [Instr.sliceAt,Instr.sureAddr,Instr.slice,run_underlying ht,run_underlying ha,K2 W false hl hh h1 h2,kK hs,asAddr,Addr.add_lit]
def F1 (P:Program) (t:TypeId):Option (Nat×TypeId):=
 match P.underlying t with
 |some (.array n elem)=>some (n,elem)
 |some (.pointer arr)=>match P.underlying arr with
  |some (.array n elem)=>some (n,elem)
  |_=>none
 |_=>none
theorem DN {P:Program} {t elem:TypeId} {n s:Nat} (ha:F1 P t=some (n,elem)) (hs:fX P elem=some s) (W:World) {b o:Nat} {lo hi:Option Value} {l h:Nat}
  (hl:lK lo 0 l) (hh:lK hi n h) (h1:l<=h) (h2:h<=n):
  (Instr.sliceAt t (.pointer (some ⟨b,o,none⟩)) lo hi none).run P W= .ok (.slice (some (if n=l then⟨b,o,none⟩else⟨b,o+l*s,none⟩)) (h - l) (n - l)) W:=by
 unfold F1 at ha
 split at ha
 ·rename_i n' e' ht
  cases ha
  simp [Instr.sliceAt,Instr.sureAddr,run_underlying ht,K2 W false hl hh h1 h2,kK hs,Addr.add_lit]
 ·rename_i arr ht
  split at ha<;>try (cases ha;done)
  rename_i n' e' ha'
  cases ha
  exact afy ht ha' hs W hl hh h1 h2
 ·cases ha
theorem afx {P:Program} {t elem:TypeId} {s:Nat} (ht:P.underlying t=some (.slice elem)) (hs:fX P elem=some s) (W:World) {a:Option Addr} {len cap:Nat} {lo:Option Value} {k k':IntKind} (hl:lK lo 0 0):
  (Instr.sliceAt t (.slice a len cap) lo (some (.int k 0)) (some (.int k' 0))).run P W= .ok (.slice a 0 0) W:=by
 have b0:∀(k:IntKind) (y:Nat) (c:BoundsCode),(Instr.sliceBound (.int k 0) y c).run P W= .ok 0 W:=fun k y c=>by simpa using run_sliceBound (P:=P) (W:=W) k 0 y c (by omega) (by simp)
 cases lo with
 |none=>simp [Instr.sliceAt,Instr.slice,run_underlying ht,Instr.sliceBounds,b0,kK hs]
 |some v=>
  obtain⟨k2,n,rfl,hn,hn2⟩:=hl
  have:n=0:=by omega
  subst this
  simp [Instr.sliceAt,Instr.slice,run_underlying ht,Instr.sliceBounds,b0,kK hs]
def nX:Option V->Nat->Option (Prop×Nat)
 |none,d=>some (True,d)
 |some v,_=>match numOf v with | some n=>some (aA n,n.toNat) | none=>none
def OD (σ:Sg) (E:EH):Option V->Option Value->Prop
 |none,none=>True
 |some v,some x=>Den σ E v x
 |_,_=>False
theorem mf {o:Option V} {d:Nat} {p:Prop} {n:Nat} (h:nX o d=some (p,n)) (hp:p) {σ:Sg} {E:EH} {ov:Option Value}
  (hd:OD σ E o ov):lK ov d n:=by
 match o,ov with
 |none,none=>simp only[nX,bb.injEq,Prod.mk.injEq]at h;exact h.2.symm
 |some v,some x=>
  simp only[nX]at h
  split at h<;>try (cases h;done)
  rename_i n' hn
  simp only[bb.injEq,Prod.mk.injEq]at h
  obtain⟨rfl,rfl⟩:=h
  obtain⟨k,rfl⟩:=uS hn hd
  exact⟨k,_,rfl,hp,rfl⟩
 |none,some x=>exact hd.elim
 |some v,none=>exact hd.elim
def IT:V->Bool
 | .sl .. | .e0 | .sa .. | .se .. | .dat (.sl ..) | .any (.slice ..)=>true
 |_=>false
theorem abr {v:V} (h:IT v=true) {σ:Sg} {E:EH} {x:Value} (hd:Den σ E v x):∃ a len cap,x= .slice a len cap:=by
 unfold IT at h
 split at h<;>(try simp only[Den,bX]at hd)
 ·obtain⟨r,a,_,rfl,_⟩:=hd;exact⟨_,_,_,rfl⟩
 ·obtain⟨a,rfl⟩:=hd;exact⟨_,_,_,rfl⟩
 ·obtain⟨r,a,_,rfl,_⟩:=hd;exact⟨_,_,_,rfl⟩
 ·obtain⟨r,a,_,rfl,_⟩:=hd;exact⟨_,_,_,rfl⟩
 ·obtain⟨a,cap,rfl,_⟩:=hd;exact⟨_,_,_,rfl⟩
 ·subst hd;exact⟨_,_,_,rfl⟩
 ·cases h
def sM:Option V->Bool
 |none=>true
 |some v=>match numOf v with | some (.ofNat 0)=>true | _=>false
theorem vy {o:Option V} (h:sM o=true) {σ:Sg} {E:EH} {ov:Option Value} (hd:OD σ E o ov):lK ov 0 0:=by
 match o,ov with
 |none,none=>rfl
 |some v,some x=>
  simp only[sM]at h
  split at h<;>try (cases h;done)
  rename_i hn
  obtain⟨k,rfl⟩:=uS hn hd
  exact⟨k,0,rfl,by omega,by simp⟩
 |none,some x=>exact hd.elim
 |some v,none=>exact hd.elim
def K_ (P:Program) (t:TypeId) (x:V) (lo hi:Option V) (kb:KB) (K:V->Prop):Prop:=
 match P.underlying t with
 |some (.slice elem)=>
  match fX P elem with
  |some s=>
   match x with
   | .sl i a b=>
    match kb[i]?,nX lo 0,nX hi (b - a)with
    |some (.row _ sz _),some (p,l),some (q,h)=>match cX sz s with
     |true=>p/\q/\l<=h/\h<=b - a/\K (.sl i (a+l) (a+h))
     |false=>False
    |_,_,_=>False
   | .dat (.sl sz ls)=>
    match nX lo 0,nX hi ls.length with
    |some (p,l),some (q,h)=>match cX sz s with
     |true=>p/\q/\l<=h/\h<=ls.length/\K (.dat (.sl sz ((ls.take h).drop l)))
     |false=>False
    |_,_=>False
   | .sa i base o s' n c=>
    match nX lo 0,nX hi n with
    |some (p,l),some (q,h)=>match cX s' s with
     |true=>p/\q/\l<=h/\h<=c/\K (.sa i base (o+l*s') s' (h - l) (c - l))
     |false=>False
    |_,_=>False
   | .se i j o s' n c=>
    match nX lo 0,nX hi n with
    |some (p,l),some (q,h)=>match cX s' s with
     |true=>p/\q/\l<=h/\h<=c/\K (.se i j (o+l*s') s' (h - l) (c - l))
     |false=>False
    |_,_=>False
   | .any (.slice none 0 0)=>match sM lo,sM hi with | true,true=>K (.any (.slice none 0 0)) | _,_=>False
   | .e0=>match sM lo,sM hi with | true,true=>K .e0 | _,_=>False
   |_=>False
  |none=>False
 |_=>
  match F1 P t with
  |some (n,elem)=>
   match fX P elem,nX lo 0,nX hi n with
   |some s,some (p,l),some (q,h)=>match x with
    | .ptr i off=>match kb[i]? with
     |some (.cells cs)=>match jm cs off with
      |some (.arr _ _)=>p/\q/\l<=h/\h<=n/\K (.sa i off (l*s) s (h - l) (n - l))
      |_=>False
     |_=>False
    | .pa i base o=>p/\q/\l<=h/\h<=n/\K (.sa i base (o+l*s) s (h - l) (n - l))
    | .pe i j bw=>p/\q/\l<=h/\h<=n/\K (.se i j (bw+l*s) s (h - l) (n - l))
    | .dm e bw=>match cX s 1 with
     |true=>p/\q/\l<=h/\h<=n/\bw+h<=e.length/\K (.dat (.sl 1 (((e.drop (bw+l)).take (h - l)).map fun d=>[d])))
     |false=>False
    |_=>False
   |_,_,_=>False
  |none=>False
theorem Mh (ds:List D):wl 1 (ds.map fun d=>[d]):=fun e he=>by
 obtain⟨d,_,rfl⟩:=dO.1 he;rfl
theorem HI {α:Type} (ds:List α):(ds.map fun d=>[d]).flatten=ds:=by
 induction ds with
 |nil=>rfl
 |cons d ds ih=>simp [ih]
theorem afI {P:Program} {t:TypeId} {x:V} {lo hi:Option V} {kb:KB} {K:V->Prop} (h:K_ P t x lo hi kb K) {σ:Sg} {E:EH} {W:World} (hi':Inv σ E kb W) {a:Value} (hd:Den σ E x a) {wH hiv:Option Value}
  (hlo:OD σ E lo wH) (hhi:OD σ E hi hiv):
  ∃ v z,(∀ W,(Instr.sliceAt t a wH hiv none).run P W= .ok z W)/\Den σ E v z/\K v:=by
 unfold K_ at h
 split at h<;>try exact h.elim
 ·rename_i elem ht
  split at h<;>try exact h.elim
  rename_i s hs
  split at h<;>try exact h.elim
  ·rename_i j a' b
   split at h<;>try exact h.elim
   rename_i ty sz ls p l q hh hk gW fR
   split at h<;>try exact h.elim
   rename_i hb
   have hsz:=de hb
   obtain⟨hp,hq,h1,h2,hK⟩:=h
   simp only[Den]at hd
   obtain⟨r,ad,hr,rfl,g1,g2,g3⟩:=hd
   have hrs:=(hi'.obj j r _ hr hk).1
   refine⟨_,_,fun W=>xe ht hs W (mf gW hp hlo) (mf fR hq hhi) h1 (by omega),?_,hK⟩
   simp only[Den]
   refine⟨r,(if r.cap - a'=l then ad else ad.map (·.add (l*s))),hr,?_,by omega,by omega,fun hlt=>?_⟩
   ·rw[show hh - l=a'+hh - (a'+l) by omega,show r.cap - a' - l=r.cap - (a'+l) by omega]
   ·rw[if_neg (by omega),g3 (by omega)]
    simp [Addr.add_lit,Nat.add_mul,hrs,hsz]
  ·rename_i sz ls
   split at h<;>try exact h.elim
   rename_i p l q hh gW fR
   split at h<;>try exact h.elim
   rename_i hb
   have hsz:=de hb
   subst hsz
   obtain⟨hp,hq,h1,h2,hK⟩:=h
   simp only[Den,bX]at hd
   obtain⟨ad,cap,rfl,hcap,fB⟩:=hd
   refine⟨_,_,fun W=>xe ht hs W (mf gW hp hlo) (mf fR hq hhi) h1 (by omega),?_,hK⟩
   simp only[Den,bX]
   have hlen:((ls.take hh).drop l).length=hh - l:=by simp;omega
   refine⟨_,_,by rw[hlen],by rw[hlen];omega,?_⟩
   by_cases h0:hh - l=0
   ·left;rw[hlen];exact h0
   ·right
    rcases fB with fB | ⟨b,off,rfl,fB⟩
    ·omega
    rw[if_neg (by omega)]
    refine⟨b,off+l*sz,by simp [Addr.add_lit],gS.of_flat ((fB.wl.take hh).drop l) ?_⟩
    rw[LH fB.wl]
    exact fB.flat.sub _ _
  ·rename_i i base o s' n c
   split at h<;>try exact h.elim
   rename_i p l q hh gW fR
   split at h<;>try exact h.elim
   rename_i hb
   have hsz:=de hb
   subst hsz
   obtain⟨hp,hq,h1,h2,hK⟩:=h
   simp only[Den]at hd
   obtain⟨r,ad,hr,rfl,hnc,had⟩:=hd
   refine⟨_,_,fun W=>xe ht hs W (mf gW hp hlo) (mf fR hq hhi) h1 h2,?_,hK⟩
   simp only[Den]
   refine⟨r,_,hr,rfl,by omega,fun hlt=>?_⟩
   rw[if_neg (by omega),had (by omega)]
   simp [Addr.add_lit,g_]
  ·rename_i i j o s' n c
   split at h<;>try exact h.elim
   rename_i p l q hh gW fR
   split at h<;>try exact h.elim
   rename_i hb
   have hsz:=de hb
   subst hsz
   obtain⟨hp,hq,h1,h2,hK⟩:=h
   simp only[Den]at hd
   obtain⟨r,ad,hr,rfl,hnc,had⟩:=hd
   refine⟨_,_,fun W=>xe ht hs W (mf gW hp hlo) (mf fR hq hhi) h1 h2,?_,hK⟩
   simp only[Den]
   refine⟨r,_,hr,rfl,by omega,fun hlt=>?_⟩
   rw[if_neg (by omega),had (by omega)]
   simp [Addr.add_lit,g_]
  ·split at h<;>try exact h.elim
   rename_i z1 z2
   simp only[Den]at hd
   subst hd
   exact⟨_,_,fun W=>by simpa using xe ht hs W (a:=none) (len:=0) (cap:=0) (vy z1 hlo) (vy z2 hhi) (ar _) (ar _),by simp [Den],h⟩
  ·split at h<;>try exact h.elim
   rename_i z1 z2
   simp only[Den]at hd
   obtain⟨ad,rfl⟩:=hd
   exact⟨_,_,fun W=>by simpa using xe ht hs W (a:=ad) (len:=0) (cap:=0) (vy z1 hlo) (vy z2 hhi) (ar _) (ar _),by simp only[Den];exact⟨_,rfl⟩,h⟩
 ·split at h<;>try exact h.elim
  rename_i n elem ha
  split at h<;>try exact h.elim
  rename_i s p l q hh hs gW fR
  split at h<;>try exact h.elim
  ·rename_i i off
   split at h<;>try exact h.elim
   rename_i cs hcs
   split at h<;>try exact h.elim
   obtain⟨hp,hq,h1,h2,hK⟩:=h
   simp only[Den]at hd
   obtain⟨r,hr,rfl⟩:=hd
   refine⟨_,_,fun W=>DN ha hs W (mf gW hp hlo) (mf fR hq hhi) h1 h2,?_,hK⟩
   simp only[Den]
   exact⟨r,_,hr,rfl,by omega,fun hlt=>by rw[if_neg (by omega)]⟩
  ·rename_i i base o
   obtain⟨hp,hq,h1,h2,hK⟩:=h
   simp only[Den]at hd
   obtain⟨r,hr,rfl⟩:=hd
   refine⟨_,_,fun W=>DN ha hs W (mf gW hp hlo) (mf fR hq hhi) h1 h2,?_,hK⟩
   simp only[Den]
   exact⟨r,_,hr,rfl,by omega,fun hlt=>by rw[if_neg (by omega),g_]⟩
  ·rename_i i j bw
   obtain⟨hp,hq,h1,h2,hK⟩:=h
   simp only[Den]at hd
   obtain⟨r,hr,rfl⟩:=hd
   refine⟨_,_,fun W=>DN ha hs W (mf gW hp hlo) (mf fR hq hhi) h1 h2,?_,hK⟩
   simp only[Den]
   exact⟨r,_,hr,rfl,by omega,fun hlt=>by rw[if_neg (by omega),g_]⟩
  ·rename_i e bw
   split at h<;>try exact h.elim
   rename_i hb
   have hs1:=de hb
   subst hs1
   obtain⟨hp,hq,h1,h2,h3,hK⟩:=h
   simp only[Den]at hd
   obtain⟨b,off,rfl,fB⟩:=hd
   refine⟨_,_,fun W=>DN ha hs W (mf gW hp hlo) (mf fR hq hhi) h1 h2,?_,hK⟩
   simp only[Den,bX]
   have hlen:(((e.drop (bw+l)).take (hh - l)).map fun d=>[d]).length=hh - l:=by simp;omega
   refine⟨_,_,by rw[hlen],by rw[hlen];omega,?_⟩
   by_cases h0:hh - l=0
   ·left;rw[hlen];exact h0
   ·right
    rw[if_neg (by omega)]
    refine⟨b,off+(bw+l),by simp [g_],gS.of_flat (Mh _) ?_⟩
    rw[HI]
    exact fB.sub _ _
def K9 (P:Program) (t:TypeId) (x:V) (lo hi mx:Option V) (K:V->Prop):Prop:=
 match P.underlying t with
 |some (.slice elem)=>match fX P elem,IT x,sM lo,hi,mx with
  |some _,true,true,some h,some m=>match sM (some h),sM (some m)with
   |true,true=>K .e0
   |_,_=>False
  |_,_,_,_,_=>False
 |_=>False
theorem afH {P:Program} {t:TypeId} {x:V} {lo hi mx:Option V} {K:V->Prop} (h:K9 P t x lo hi mx K) {σ:Sg} {E:EH} {a:Value} (hd:Den σ E x a) {wH hiv C5:Option Value}
  (hlo:OD σ E lo wH) (hhi:OD σ E hi hiv) (Cj:OD σ E mx C5):
  ∃ v z,(∀ W,(Instr.sliceAt t a wH hiv C5).run P W= .ok z W)/\Den σ E v z/\K v:=by
 unfold K9 at h
 split at h<;>try exact h.elim
 rename_i elem ht
 split at h<;>try exact h.elim
 rename_i s hv mv hs hx z1
 split at h<;>try exact h.elim
 rename_i z2 z3
 obtain⟨ad,len,cap,rfl⟩:=abr hx hd
 obtain⟨b1,b2,b3⟩:lK wH 0 0/\(∃ k,hiv=some (.int k 0))/\(∃ k,C5=some (.int k 0)):=by
  refine⟨vy z1 hlo,?_,?_⟩
  ·have:=vy z2 hhi
   match hiv,hhi with
   |some v,_=>obtain⟨k,n,rfl,hn,hn2⟩:=this;exact⟨k,by rw[show n=0 by omega]⟩
   |none,hhi=>exact hhi.elim
  ·have:=vy z3 Cj
   match C5,Cj with
   |some v,_=>obtain⟨k,n,rfl,hn,hn2⟩:=this;exact⟨k,by rw[show n=0 by omega]⟩
   |none,Cj=>exact Cj.elim
 obtain⟨k,rfl⟩:=b2
 obtain⟨k',rfl⟩:=b3
 exact⟨_,_,fun W=>afx ht hs W b1,by simp only[Den];exact⟨_,rfl⟩,h⟩
def CN:V->Option Nat
 | .sl _ lo hi=>some (hi - lo)
 | .dat (.sl _ l)=>some l.length
 | .sa _ _ _ _ n _=>some n
 | .se _ _ _ _ n _=>some n
 | .e0=>some 0
 |_=>none
theorem abO {v:V} {n:Nat} (h:CN v=some n) {σ:Sg} {E:EH} {x:Value} (hd:Den σ E v x):∃ a cap,x= .slice a n cap:=by
 unfold CN at h
 split at h<;>(try cases h)<;>simp only[Den,bX]at hd
 ·obtain⟨r,a,_,rfl,_⟩:=hd;exact⟨_,_,rfl⟩
 ·obtain⟨a,cap,rfl,_⟩:=hd;exact⟨_,_,rfl⟩
 ·obtain⟨r,a,_,rfl,_⟩:=hd;exact⟨_,_,rfl⟩
 ·obtain⟨r,a,_,rfl,_⟩:=hd;exact⟨_,_,rfl⟩
 ·obtain⟨a,rfl⟩:=hd;exact⟨_,_,rfl⟩
def wE (P:Program) (t:TypeId) (x:V) (K:V->Prop):Prop:=
 match P.underlying t with
 |some (.slice _)=>match CN x with
  |some n=>K (.int γ (n:Int))
  |none=>False
 |some (.array n _)=>K (.int γ (n:Int))
 |_=>False
theorem abN {P:Program} {t:TypeId} {x:V} {K:V->Prop} (h:wE P t x K) {σ:Sg} {E:EH} {a:Value} (hd:Den σ E x a) (ty:TypeId):
  ∃ v z,(∀ W,(Builtin.len_ #[t] ty #[a]).run P W= .ok z W)/\Den σ E v z/\K v:=by
 unfold wE at h
 split at h<;>try exact h.elim
 ·rename_i e ht
  split at h<;>try exact h.elim
  rename_i n hn
  obtain⟨ad,cap,rfl⟩:=abO hn hd
  exact⟨_,_,fun W=>by simp [Builtin.len_,run_underlying ht];rfl,by simp [Den,goInt],h⟩
 ·rename_i n e ht
  exact⟨_,_,fun W=>by simp [Builtin.len_,run_underlying ht];rfl,by simp [Den,goInt],h⟩
theorem Inv.renew {σ:Sg} {E:EH} {kb:KB} {W W':World} (h:Inv σ E kb W) {i:Nat} {r r':Re} {o o':KO} (hs:σ[i]? =some r) (hk:kb[i]? =some o)
  (hos:W'.os=W.os) (uI:W'.tape=W.tape) (hout:W'.output=W.output) (hsz:W.heap.size<=W'.heap.size)
  (cz:∀ b,b<W.heap.size->¬ owned r o b->W'.heap[b]? =W.heap[b]?) (hr:∀ b,owned r' o' b->owned r o b∨W.heap.size<=b) (ho:ij (σ++[r']) E W' r' o'):
  Step σ E kb W (σ++[r']) E (kb.set i .dead++[o']) W':=by
 have hi:i<kb.length:=by
  rcases kx i kb.length with h' | h'
  ·exact h'
  ·simp [iE h']at hk
 have e_:∀(j:Nat) (r1:Re) (x:KO),(σ++[r'])[j]? =some r1->(kb.set i .dead++[o'])[j]? =some x->
   (j=σ.length/\r1=r'/\x=o')∨(j<σ.length/\j=i/\x= .dead)∨(j<σ.length/\j≠i/\σ[j]? =some r1/\kb[j]? =some x):=by
  intro j r1 x h1 h2
  rcases Nat.lt_trichotomy j σ.length with hj | hj | hj
  ·rw[dY hj]at h1
   rw[dY (by rw[iG,<- h.len];exact hj)]at h2
   by_cases hji:j=i
   ·subst hji
    rw[iN hi]at h2
    exact .inr (.inl ⟨hj,rfl,(bb.inj h2).symm⟩)
   ·rw[gP (Ne.symm hji)]at h2
    exact .inr (.inr ⟨hj,hji,h1,h2⟩)
  ·subst hj
   rw[fk (ar _)]at h1
   rw[fk (by rw[iG,<- h.len];exact ar _)]at h2
   simp [h.len]at h1 h2
   exact .inl ⟨rfl,h1.symm,h2.symm⟩
  ·rw[iE (by simp;omega)]at h1;cases h1
 have hown:∀ b,dc (σ++[r']) (kb.set i .dead++[o']) b->dc σ kb b∨W.heap.size<=b:=by
  rintro b ⟨j,r1,x,h1,h2,h3⟩
  rcases e_ j r1 x h1 h2 with ⟨_,rfl,rfl⟩ | ⟨_,_,rfl⟩ | ⟨_,_,h4,h5⟩
  ·rcases hr b h3 with h6 | h6
   ·exact .inl ⟨i,r,o,hs,hk,h6⟩
   ·exact .inr h6
  ·exact h3.elim
  ·exact .inl ⟨j,r1,x,h4,h5,h3⟩
 refine⟨⟨by simp [h.len],fun j r1 x h1 h2=>?_,fun a c r1 r2 o1 o2 b hac h1 h2 h3 h4 h5 h6=>?_,fun b x hb=>?_,fun b hb=>?_⟩,⟨hos,uI,hout,hsz,fun b hb hn=>cz b hb (fun ho'=>hn ⟨i,r,o,hs,hk,ho'⟩)⟩,⟨[r'],rfl⟩,EH.le.refl E,hown,fun b x hb=> .inl hb⟩
 ·rcases e_ j r1 x h1 h2 with ⟨_,rfl,rfl⟩ | ⟨_,_,rfl⟩ | ⟨_,hji,h4,h5⟩
  ·exact ho
  ·trivial
  ·exact(h.obj j r1 x h4 h5).mono (EH.le.refl E) (fun b hb=>cz b ((h.obj j r1 x h4 h5).lt hb) (fun hb'=>h.eH i j r r1 o x b (Ne.symm hji) hs hk h4 h5 hb' hb))
 ·rcases e_ a r1 o1 h1 h2 with ⟨ha,rfl,rfl⟩ | ⟨_,_,rfl⟩ | ⟨ha,hai,a4,a5⟩
  ·rcases e_ c r2 o2 h3 h4 with ⟨hc,_,_⟩ | ⟨_,_,rfl⟩ | ⟨hc,QM,c4,c5⟩
   ·omega
   ·exact h6.elim
   ·rcases hr b h5 with h7 | h7
    ·exact h.eH i c r r2 o o2 b (Ne.symm QM) hs hk c4 c5 h7 h6
    ·have:=(h.obj c r2 o2 c4 c5).lt h6;omega
  ·exact h5.elim
  ·rcases e_ c r2 o2 h3 h4 with ⟨hc,rfl,rfl⟩ | ⟨_,_,rfl⟩ | ⟨hc,QM,c4,c5⟩
   ·rcases hr b h6 with h7 | h7
    ·exact h.eH i a r r1 o o1 b (Ne.symm hai) hs hk a4 a5 h7 h5
    ·have:=(h.obj a r1 o1 a4 a5).lt h5;omega
   ·exact h6.elim
   ·exact h.eH a c r1 r2 o1 o2 b hac a4 a5 c4 c5 h5 h6
 ·have h1:=h.fe b x hb
  rw[cz b (Array.getElem?_eq_some_iff.1 h1).1 (fun hb'=>?_)]
  ·exact h1
  ·have:=h.sep b ⟨i,r,o,hs,hk,hb'⟩
   rw[this]at hb;cases hb
 ·rcases hown b hb with h1 | h1
  ·exact h.sep b h1
  ·cases hE:E b with
   |none=>rfl
   |some x=>
    have:=(Array.getElem?_eq_some_iff.1 (h.fe b x hE)).1
    omega
def k9 (ds:List D):List (List D):=ds.map fun d=>[d]
theorem TS (ds:List D):(k9 ds).length=ds.length:=by simp [k9]
def tO (kb:KB):V->Option (Option Nat×Prop×List (List D))
 | .sl j lo hi=>match kb[j]? with
  |some (.row _ sz l)=>some (some sz,hi<=l.length,(l.take hi).drop lo)
  |_=>none
 | .dat (.sl sz l)=>some (some sz,True,l)
 | .any (.slice none 0 0)=>some (none,True,[])
 | .e0=>some (none,True,[])
 | .sa i base o s n c=>match kb[i]?,cX s 1 with
  |some (.cells l),true=>match jm l base with
   |some (.arr m cs)=>some (some 1,o+n<=m,k9 ((cs.drop o).take n))
   |_=>none
  |_,_=>none
 | .se i ix o s n c=>match kb[i]?,cX s 1 with
  |some (.row _ sz l),true=>some (some 1,ix<l.length/\o+n<=sz,k9 ((((l[ix]?).getD []).drop o).take n))
  |_,_=>none
 |_=>none
def zD (s:Nat):Option Nat->Bool
 |some sz=>cX sz s
 |none=>true
def sP (E:EH) (W:World) (s:Nat) (y:Value) (xs:List (List D)):Prop:=
 wl s xs/\∃ a cap ys,y= .slice a xs.length cap/\xs.length<=cap/\bh E xs.flatten ys/\(xs.length=0∨∃ b o,a=some ⟨b,o,none⟩/\∀(j:Nat) (v:Value),ys[j]? =some v->W.cell? ⟨b,o+j,none⟩=some v)
theorem u9 {kb:KB} {x:V} {sz:Option Nat} {p:Prop} {xs:List (List D)} (h:tO kb x=some (sz,p,xs)) (hp:p)
  {σ:Sg} {E:EH} {W:World} (hi:Inv σ E kb W) {y:Value} (hy:Den σ E x y) {s:Nat} (hsz:zD s sz=true):sP E W s y xs:=by
 unfold tO at h
 split at h
 ·rename_i j lo hi'
  split at h<;>try (cases h;done)
  rename_i ty sz' l hl
  simp only[bb.injEq,Prod.mk.injEq]at h
  obtain⟨rfl,rfl,rfl⟩:=h
  have uH:sz'=s:=de hsz
  subst uH
  simp only[Den]at hy
  obtain⟨r,ad,hr,rfl,g1,g2,g3⟩:=hy
  have ho:=hi.obj j r _ hr hl
  obtain⟨zs,z1,z2⟩:=KQ ho lo
  obtain⟨k1,k2,k3,k4,k5⟩:=ho
  have im:((l.take hi').drop lo).length=hi' - lo:=by simp;omega
  have e1:((l.take hi').drop lo).flatten=(l.drop lo).flatten.take ((hi' - lo)*sz'):=by
   rw[LH k2,yt k2]
  refine⟨(k2.take hi').drop lo,ad,_,zs.take ((hi' - lo)*sz'),by rw[im],by rw[im];omega,by rw[e1];exact z1.take _,?_⟩
  by_cases h0:hi' - lo=0
  ·left;rw[im];exact h0
  ·right
   refine⟨_,_,g3 (by omega),fun q v hv=>z2 q v ?_⟩
   have hlt:q<(hi' - lo)*sz':=by
    have:=(bH.1 hv).1
    simp only[cW]at this
    omega
   rwa [iF hlt]at hv
 ·rename_i sz' l
  simp only[bb.injEq,Prod.mk.injEq]at h
  obtain⟨rfl,rfl,rfl⟩:=h
  have uH:sz'=s:=de hsz
  subst uH
  simp only[Den,bX]at hy
  obtain⟨ad,cap,rfl,hcap,fB⟩:=hy
  rcases fB with fB | ⟨b,off,rfl,fB⟩
  ·have:l=[]:=mD fB
   subst this
   exact⟨wl.nil,ad,cap,[],rfl,hcap,.nil,.inl rfl⟩
  ·obtain⟨zs,z1,z2⟩:=fB.flat.BH
   exact⟨fB.wl,_,cap,zs,rfl,hcap,z1,.inr ⟨b,off,rfl,fun q v hv=>IQ hi.fe (z2 q v hv)⟩⟩
 ·simp only[bb.injEq,Prod.mk.injEq]at h
  obtain⟨rfl,rfl,rfl⟩:=h
  simp only[Den]at hy
  subst hy
  exact⟨wl.nil,none,0,[],rfl,ar _,.nil,.inl rfl⟩
 ·simp only[bb.injEq,Prod.mk.injEq]at h
  obtain⟨rfl,rfl,rfl⟩:=h
  simp only[Den]at hy
  obtain⟨a,rfl⟩:=hy
  exact⟨wl.nil,a,0,[],rfl,ar _,.nil,.inl rfl⟩
 ·rename_i i base o s' n c
  split at h<;>try (cases h;done)
  rename_i l hl hb
  split at h<;>try (cases h;done)
  rename_i m cs mP
  simp only[bb.injEq,Prod.mk.injEq]at h
  obtain⟨rfl,rfl,rfl⟩:=h
  have uH:1=s:=de hsz
  subst uH
  simp only[Den]at hy
  obtain⟨r,ad,hr,rfl,g1,g2⟩:=hy
  have ho:=hi.obj i r _ hr hl
  obtain⟨zs,z1,z2⟩:=Ui ho mP
  obtain⟨arr,ty,_,hD⟩:=ho
  obtain⟨_,_,pJ,_,_⟩:=Dp mP hD
  have hlen:(k9 ((cs.drop o).take n)).length=n:=by rw[TS];simp;omega
  refine⟨Mh _,ad,c,(zs.drop o).take n,by rw[hlen],by rw[hlen];exact g1,by unfold k9;rw[HI];exact(z1.drop o).take n,?_⟩
  by_cases h0:n=0
  ·left;rw[hlen];exact h0
  ·right
   refine⟨_,_,g2 (by omega),fun q v hv=>?_⟩
   have hlt:q<n:=by
    have:=(bH.1 hv).1
    simp only[cW]at this
    omega
   rw[iF hlt,jW]at hv
   rw[g_]
   exact z2 _ v hv
 ·rename_i i ix o s' n c
  split at h<;>try (cases h;done)
  rename_i ty sz' l hl hb
  simp only[bb.injEq,Prod.mk.injEq]at h
  obtain⟨rfl,rfl,rfl⟩:=h
  have uH:1=s:=de hsz
  subst uH
  obtain⟨mi,hon⟩:=hp
  simp only[Den]at hy
  obtain⟨r,ad,hr,rfl,g1,g2⟩:=hy
  have ho:=hi.obj i r _ hr hl
  have he:l[ix]? =some l[ix]:=bu mi
  obtain⟨zs,z1,z2⟩:=KR ho he
  have hel:=ho.2.1 _ (List.getElem_mem mi)
  rw[he,Option.getD_some]
  have hlen:(k9 ((l[ix].drop o).take n)).length=n:=by rw[TS];simp;omega
  refine⟨Mh _,ad,c,(zs.drop o).take n,by rw[hlen],by rw[hlen];exact g1,by unfold k9;rw[HI];exact(z1.drop o).take n,?_⟩
  by_cases h0:n=0
  ·left;rw[hlen];exact h0
  ·right
   refine⟨_,_,g2 (by omega),fun q v hv=>?_⟩
   have hlt:q<n:=by
    have:=(bH.1 hv).1
    simp only[cW]at this
    omega
   rw[iF hlt,jW]at hv
   rw[g_]
   exact z2 _ v hv
 ·cases h
theorem sP.first {E:EH} {W:World} {s:Nat} {y:Value} {xs:List (List D)} (h:sP E W s y xs) {P:Program} (k:Nat) (hk:k<=xs.length):
  ∃ ys,(Builtin.firstCells s k y).run P W= .ok ys.toArray W/\(Builtin.firstCells s k y).run P W.drew= .ok ys.toArray W.drew/\bh E (xs.take k).flatten ys:=by
 obtain⟨hw,a,cap,ys,rfl,hc,hD,ha⟩:=h
 have j7:=hD.len
 rw[pD hw]at j7
 by_cases h0:k=0
 ·subst h0
  refine⟨[],?_,?_,by simp [bh]⟩
  ·cases a with
   |none=>simpa using run_firstCells_none (P:=P) W s 0 _ cap
   |some a=>simpa using run_firstCells_some (P:=P) W s 0 a _ cap [] (by simp) (by simp)
  ·cases a with
   |none=>simpa using run_firstCells_none (P:=P) W.drew s 0 _ cap
   |some a=>simpa using run_firstCells_some (P:=P) W.drew s 0 a _ cap [] (by simp) (by simp)
 ·rcases ha with ha | ⟨b,o,rfl,ha⟩
  ·omega
  have kF:k*s<=xs.length*s:=Nat.mul_le_mul_right _ hk
  have hl:(ys.take (k*s)).length=k*s:=by simp;omega
  have hcell:∀(j:Nat) (u:Value),(ys.take (k*s))[j]? =some u->W.cell? (Addr.add ⟨b,o,none⟩ j)=some u:=fun j u hj=>by
   have hlt:j<k*s:=by
    have:=(bH.1 hj).1
    omega
   rw[iF hlt]at hj
   rw[Addr.add_lit]
   exact ha j u hj
  exact⟨ys.take (k*s),run_firstCells_some (P:=P) W s k _ _ cap _ hl hcell,run_firstCells_some (P:=P) W.drew s k _ _ cap _ hl (by simpa using hcell),by rw[yu hw];exact hD.take _⟩
theorem sP.lenOf {E:EH} {W:World} {s:Nat} {y:Value} {xs:List (List D)} (h:sP E W s y xs) {P:Program} (w:World):(Builtin.lenOf y).run P w= .ok xs.length w:=by
 obtain⟨_,a,cap,_,rfl,_⟩:=h
 rfl
theorem sP.src {E:EH} {W:World} {s:Nat} {y:Value} {xs:List (List D)} (h:sP E W s y xs) {P:Program} {u e':TypeId} (hu:P.underlying u=some (.slice e')):
  ∃ ys,Src P s u y xs.length ys W/\bh E xs.flatten ys:=by
 obtain⟨ys,h1,h2,h3⟩:=h.first (P:=P) xs.length (ar _)
 rw[cQ]at h3
 exact⟨ys,⟨.inl ⟨e',hu⟩,fun w=>h.lenOf w,h1,h2,by rw[h3.len,pD h.1],h3.one⟩,h3⟩
def FZ (P:Program) (t u:TypeId) (d x:V) (kb:KB) (K:V->KB->Prop):Prop:=
 match P.underlying t,P.underlying u,tO kb x with
 |some (.slice elem),some (.slice _),some (sz,p,xs)=>
  match P.info? elem with
  |some i=>
   match i.zero,Nat.ble 1 i.size,Nat.ble 1 i.bytes,zD i.size sz with
   |some z,true,true,true=>
    match cX z.cells.size i.size with
    |true=>
     match d with
     | .any (.slice none 0 0)=>p/\xs.length*i.bytes<=140737488355328/\K (.sl kb.length 0 xs.length) (kb++[.row elem i.size xs])
     | .e0=>p/\xs.length*i.bytes<=140737488355328/\K (.sl kb.length 0 xs.length) (kb++[.row elem i.size xs])
     | .sl j 0 hi=>
      match kb[j]? with
      |some (.row ty sz' l)=>match cX ty elem,cX sz' i.size with
       |true,true=>p/\hi<=l.length/\(hi+xs.length)*i.bytes<=140737488355328/\K (.sl kb.length 0 (hi+xs.length)) (kb.set j .dead++[.row elem i.size (l.take hi++xs)])
       |_,_=>False
      |_=>False
     |_=>False
    |false=>False
   |_,_,_,_=>False
  |none=>False
 |_,_,_=>False
theorem UX {P:Program} {t u elem e':TypeId} {i:TypeInfo} {z:Value} (ht:P.underlying t=some (.slice elem)) (hu:P.underlying u=some (.slice e')) (hi:P.info? elem=some i) (hz:i.zero=some z)
  (h1:1<=i.size) (h2:1<=i.bytes) (hzs:z.cells.size=i.size) (W:World) {base:Option Addr} {sLen sCap:Nat} {olds:List Value}
  (hold:(Builtin.firstCells i.size sLen (.slice base sLen sCap)).run P W.drew= .ok olds.toArray W.drew) (fK:olds.length=sLen*i.size) {y:Value} {n:Nat} {news:List Value} (hs:Src P i.size u y n news W) (hg:sCap<sLen+n)
  (hb:(sLen+n)*i.bytes<=140737488355328) (ty:TypeId):
  ∃ cap arr,(Builtin.append_ #[t,u] ty #[.slice base sLen sCap,y]).run P W= .ok (.slice (some ⟨W.heap.size,0,none⟩) (sLen+n) cap) (W.drew.alloc (.cells arr elem))/\sLen+n<=cap/\cap<=maxLen/\
   arr.size=cap*i.size/\arr.toList.take ((sLen+n)*i.size)=olds++news:=by
 have pO:sLen+n<=140737488355328:=mc (Nat.le_mul_of_pos_right _ h2) hb
 have hge:=grownCap_ge W (sLen+n) sCap elem
 have hle:=grownCap_le_maxLen W (sLen+n) sCap elem (by simp only[maxLen];omega)
 have hr:=run_append_grow_src W t u ty elem i z ht hi hz base sLen sCap olds hold y n news hs hg (by omega) (growslice_fits hg hb)
 refine⟨_,_,hr,hge,hle,?_,?_⟩
 ·have:(olds++news).length=(sLen+n)*i.size:=by rw[bn,fK,hs.newsLen,Nat.add_mul]
  simp only[Array.size_append,List.size_toArray,this,size_zeroCells,hzs]
  rw[<- Nat.add_mul]
  congr 1
  omega
 ·have:(olds++news).length=(sLen+n)*i.size:=by rw[bn,fK,hs.newsLen,Nat.add_mul]
  rw[Array.toList_append,<- this]
  exact List.take_left
theorem aft {P:Program} {t u elem e':TypeId} {i:TypeInfo} (ht:P.underlying t=some (.slice elem)) (hu:P.underlying u=some (.slice e')) (hi:P.info? elem=some i) (W:World) {b sLen sCap:Nat} {cur:Array Value}
  (hg:W.heap[b]? =some (.cells cur elem (0,0))) (hc:cur.size=sCap*i.size) {y:Value} {n:Nat} {news:List Value} (hs:Src P i.size u y n news W) (hroom:sLen+n<=sCap) (ty:TypeId):
  (Builtin.append_ #[t,u] ty #[.slice (some ⟨b,0,none⟩) sLen sCap,y]).run P W= .ok (.slice (some ⟨b,0,none⟩) (sLen+n) sCap) (W.setRow b (splice cur.toList (sLen*i.size) news).toArray):=by
 have hfit:sLen*i.size+news.length<=cur.size:=by
  rw[hs.newsLen,hc,<- Nat.add_mul];exact Nat.mul_le_mul_right _ hroom
 have hst:=run_storeCells_at P b (sLen*i.size) elem news 0 cur W hg (by simpa using hfit) hs.one
 simp only[Nat.add_zero]at hst
 simp [Builtin.append_,run_underlying ht,run_underlying hu,Go.sizeOf,typeInfo,hi,hs.len,hroom,hs.cells,Addr.add_lit,hst,splice]
theorem YI {P:Program} {t u:TypeId} {d x:V} {kb:KB} {K:V->KB->Prop} (h:FZ P t u d x kb K) {σ:Sg} {E:EH} {W:World} (hi:Inv σ E kb W) {a y:Value} (hd:Den σ E d a) (hy:Den σ E x y) (ty:TypeId):
  ∃ v z σ' kb' W',(Builtin.append_ #[t,u] ty #[a,y]).run P W= .ok z W'/\Step σ E kb W σ' E kb' W'/\Den σ' E v z/\K v kb':=by
 unfold FZ at h
 split at h<;>try exact h.elim
 rename_i elem e' sz p xs ht hu hsrc
 split at h<;>try exact h.elim
 rename_i i mO
 split at h<;>try exact h.elim
 rename_i z hz gW fR hfit
 split at h<;>try exact h.elim
 rename_i hbz
 have h1:=Nat.le_of_ble_eq_true gW
 have h2:=Nat.le_of_ble_eq_true fR
 have hzs:=de hbz
 have hnew:∀{cap:Nat} {arr:Array Value} {l:List (List D)} {ys:List Value},wl i.size l->l.length<=cap->cap<=maxLen->arr.size=cap*i.size->arr.toList.take (l.length*i.size)=ys->bh E l.flatten ys->
   ij (σ++[⟨W.heap.size,cap,i.size⟩]) E (W.drew.alloc (.cells arr elem)) ⟨W.heap.size,cap,i.size⟩ (.row elem i.size l):=by
  intro cap arr l ys q1 q2 q3 q4 q5 q6
  refine⟨rfl,q1,q2,q3,.inr ⟨arr,?_,q4,by rw[q5];exact q6⟩⟩
  show(W.heap.push _)[W.heap.size]? =_
  simp
 have fresh:∀{base:Option Addr},a= .slice base 0 0->p/\xs.length*i.bytes<=140737488355328/\K (.sl kb.length 0 xs.length) (kb++[.row elem i.size xs])->
   ∃ v z σ' kb' W',(Builtin.append_ #[t,u] ty #[a,y]).run P W= .ok z W'/\Step σ E kb W σ' E kb' W'/\Den σ' E v z/\K v kb':=by
  rintro base rfl ⟨hp,hb,hK⟩
  have hE:=u9 hsrc hp hi hy hfit
  obtain⟨ys,hs,hD⟩:=hE.src hu
  have hw:=hE.1
  by_cases hx:xs.length=0
  ·have hnil:xs=[]:=mD hx
   subst hnil
   have hrun:(Builtin.append_ #[t,u] ty #[.slice base 0 0,y]).run P W= .ok (.slice base 0 0) W:=by
    have hlen:=hs.len
    have hcl:=hs.cells
    have j7:=hs.newsLen
    simp at hlen hcl j7
    subst j7
    cases base<;>simp [Builtin.append_,run_underlying ht,run_underlying hu,Go.sizeOf,typeInfo,mO,hlen,hcl,storeCells]
   have hst:Step σ E kb W (σ++[⟨0,0,i.size⟩]) E (kb++[.row elem i.size []]) W:=
    hi.grow _ _ rfl rfl rfl (ar _) (fun _ _=>rfl) (fun b hb=>absurd rfl hb.1) ⟨rfl,wl.nil,ar _,bj _,.inl rfl⟩
   exact⟨_,_,_,_,_,hrun,hst,by simp only[Den];exact⟨⟨0,0,i.size⟩,base,by rw[<- hi.len];simp,by simp,by simp,by simp,by simp⟩,hK⟩
  ·have hold:(Builtin.firstCells i.size 0 (.slice base 0 0)).run P W.drew= .ok ([]:List Value).toArray W.drew:=by
    cases base with
    |none=>simpa using run_firstCells_none (P:=P) W.drew i.size 0 0 0
    |some ad=>simpa using run_firstCells_some (P:=P) W.drew i.size 0 ad 0 0 [] (by simp) (by simp)
   obtain⟨cap,arr,hrun,c1,c2,c3,c4⟩:=UX (base:=base) (sLen:=0) (sCap:=0) (olds:=[]) ht hu mO hz h1 h2 hzs W hold (by simp) hs (by omega) (by simpa using hb) ty
   simp only[c9,jr]at hrun c1 c4
   have hst:=(Inv.drew hi).trans ((Inv.drew hi).inv.alloc (.cells arr elem) ⟨W.heap.size,cap,i.size⟩ (.row elem i.size xs) (fun b hb=>hb.2) (hnew hw c1 c2 c3 c4 hD))
   exact⟨_,_,_,_,_,hrun,hst,by simp only[Den];exact⟨⟨W.heap.size,cap,i.size⟩,_,by rw[<- hi.len];simp,rfl,by simp,c1,by simp⟩,hK⟩
 split at h<;>try exact h.elim
 ·simp only[Den]at hd
  exact fresh hd h
 ·simp only[Den]at hd
  obtain⟨base,rfl⟩:=hd
  exact fresh rfl h
 ·rename_i j hi'
  split at h<;>try exact h.elim
  rename_i ty' sz' l hl
  split at h<;>try exact h.elim
  rename_i hbt Ie
  have hty:=de hbt
  have hsz:=de Ie
  subst hty;subst hsz
  obtain⟨hp,hle,hb,hK⟩:=h
  have hE:=u9 hsrc hp hi hy hfit
  obtain⟨ys,hs,hD⟩:=hE.src hu
  have hw:=hE.1
  simp only[Den]at hd
  obtain⟨r,ad,hr,rfl,_,g2,g3⟩:=hd
  simp only[ly,Nat.zero_mul]at*
  obtain⟨k1,k2,k3,k4,k5⟩:=hi.obj j r _ hr hl
  have kG:=(k2.take hi').append hw
  have hlen:(l.take hi'++xs).length=hi'+xs.length:=by simp;omega
  by_cases hroom:hi'+xs.length<=r.cap
  ·by_cases hc0:r.cap=0
   ·have hx0:xs.length=0:=by omega
    have hnil:xs=[]:=mD hx0
    have hh0:hi'=0:=by omega
    subst hnil;subst hh0
    have hrun:(Builtin.append_ #[t,u] ty #[.slice ad 0 r.cap,y]).run P W= .ok (.slice ad 0 r.cap) W:=by
     have hlen:=hs.len
     have hcl:=hs.cells
     have j7:=hs.newsLen
     simp at hlen hcl j7
     subst j7
     cases ad<;>simp [Builtin.append_,run_underlying ht,run_underlying hu,Go.sizeOf,typeInfo,mO,hlen,hcl,storeCells]
    have hst:=hi.renew (W':=W) (r':=⟨0,0,i.size⟩) (o':=.row ty' i.size (l.take 0++[])) hr hl rfl rfl rfl (ar _) (fun _ _ _=>rfl) (fun b hb=>absurd rfl hb.1)
     ⟨rfl,kG,by simp,bj _,.inl rfl⟩
    exact⟨_,_,_,_,_,hrun,hst,by simp only[Den];exact⟨⟨0,0,i.size⟩,ad,by rw[fk (by rw[hi.len];exact ar _)];simp [hi.len],by simp [hc0],by simp,by simp,by simp⟩,hK⟩
   ·rcases k5 with k5 | ⟨arr,k5,k6,k7⟩
    ·exact absurd k5 hc0
    rw[g3 (by omega)]
    have hrun:=aft ht hu mO W k5 k6 hs hroom ty
    have hfl:bh E (l.take hi').flatten (arr.toList.take (hi'*i.size)):=by
     rw[yu k2]
     have:=k7.take (hi'*i.size)
     rwa [List.take_take,Nat.min_eq_left (Nat.mul_le_mul_right _ hle)]at this
    have j7:=hs.newsLen
    have hsp:hi'*i.size+ys.length<=arr.toList.length:=by
     have H_:arr.toList.length=r.cap*i.size:=by simpa using k6
     rw[j7,H_,<- Nat.add_mul];exact Nat.mul_le_mul_right _ hroom
    have hst:=hi.renew (W':=W.setRow r.blk (splice arr.toList (hi'*i.size) ys).toArray) (r':=⟨r.blk,r.cap,i.size⟩) (o':=.row ty' i.size (l.take hi'++xs)) hr hl rfl rfl rfl (by simp [World.setRow])
     (fun b _ hb=>setRow_other W r.blk b _ (fun e=>hb ⟨hc0,e⟩)) (fun b hb=> .inl ⟨hc0,hb.2⟩)
     ⟨rfl,kG,by rw[hlen];exact hroom,k4,.inr ⟨_,setRow_heap W r.blk arr _ ty' (0,0) k5,by simp only[List.size_toArray];rw[mW hsp];simpa using k6,by
      rw[hlen,List.flatten_append]
      simp only[splice]
      have e0:(arr.toList.take (hi'*i.size)).length=hi'*i.size:=by rw[cW];omega
      have e1:(hi'+xs.length)*i.size=(arr.toList.take (hi'*i.size)++ys).length:=by
       rw[bn,e0,j7,Nat.add_mul]
      rw[e1,List.take_left]
      exact hfl.append hD⟩⟩
    exact⟨_,_,_,_,_,hrun,hst,by simp only[Den];exact⟨⟨r.blk,r.cap,i.size⟩,_,by rw[fk (by rw[hi.len];exact ar _)];simp [hi.len],rfl,by simp,hroom,by simp⟩,hK⟩
  ·have hEd:sP E W i.size (.slice ad hi' r.cap) (l.take hi'):=by
    have:=u9 (kb:=kb) (x:=.sl j 0 hi') (sz:=some i.size) (p:=hi'<=l.length) (xs:=(l.take hi').drop 0) (by simp only[tO,hl]) hle hi (y:=.slice ad hi' r.cap)
     (by simp only[Den];exact⟨r,ad,hr,by simp,bj _,g2,fun h=>by rw[g3 h,Nat.zero_mul]⟩) (s:=i.size) (by simp [zD])
    simpa using this
   obtain⟨olds,_,hold,H3⟩:=hEd.first (P:=P) (l.take hi').length (ar _)
   rw[cQ]at H3
   have Rt:(l.take hi').length=hi':=by simp;omega
   rw[Rt]at hold
   have fK:olds.length=hi'*i.size:=by rw[H3.len,pD (k2.take hi'),Rt]
   obtain⟨cap,arr,hrun,c1,c2,c3,c4⟩:=UX ht hu mO hz h1 h2 hzs W hold fK hs (by omega) hb ty
   have hst:=(Inv.drew hi).trans ((Inv.drew hi).inv.renew (W':=W.drew.alloc (.cells arr ty')) (r':=⟨W.heap.size,cap,i.size⟩) (o':=.row ty' i.size (l.take hi'++xs)) hr hl rfl rfl rfl (by simp)
    (fun b hb _=>by show(W.heap.push _)[b]? =_;rw[Array.getElem?_push,if_neg (by have:b<W.heap.size:=hb;omega)];rfl) (fun b hb=> .inr (by rw[hb.2];exact ar _)) (hnew (ys:=olds++ys) kG (by rw[hlen];exact c1) c2 c3 (by rw[hlen];exact c4) (by rw[List.flatten_append];exact H3.append hD)))
   exact⟨_,_,_,_,_,hrun,hst,by simp only[Den];exact⟨⟨W.heap.size,cap,i.size⟩,_,by rw[fk (by rw[hi.len];exact ar _)];simp [hi.len],rfl,by simp,c1,by simp⟩,hK⟩
def tI (P:Program) (t:TypeId) (l:List V) (off:Nat):Option V:=
 match p_ P t,fX P t,rC l off with
 |some true,some n,some r=>match vb r n with | some vs=>some (.agg vs) | none=>none
 |some false,some _,some (v:: _)=>match v with | .arr _ _=>none | _=>some v
 |_,_,_=>none
theorem wY {P:Program} {t:TypeId} {l:List V} {off:Nat} {v:V} (h:tI P t l off=some v) {σ:Sg} {E:EH} {xs:List Value} (hd:aV σ E l xs):
  ∃ x,(∀ W,(part t xs.toArray off).run P W= .ok x W)/\Den σ E v x:=by
 unfold tI at h
 split at h
 ·rename_i n r ha hn hr
  split at h<;>try (cases h;done)
  rename_i vs hvs
  cases h
  obtain⟨h1,_⟩:=s_ hr hd
  obtain⟨h2,h3⟩:=D9 hvs h1
  refine⟨_,fun W=>by simp [part,tK ha,kK hn];rfl,?_⟩
  simp only[Den]
  exact⟨(xs.drop off).take n,rfl,h2⟩
 ·rename_i n u r ha hn hr
  split at h<;>try (cases h;done)
  rename_i hna
  cases h
  obtain⟨h1,_⟩:=s_ hr hd
  obtain⟨ys,zs,e,h2,_⟩:=h1.iT
  rcases h2 with ⟨y,rfl,_,hy⟩ | ⟨m,cs,e',_,_⟩
  ·have hx:xs[off]? =some y:=by
    have:=congrArg (fun z=>z[0]?) e
    simpa using this
   exact⟨y,fun W=>by simp [part,tK ha,hx],hy⟩
  ·exact(hna _ _ e').elim
 ·cases h
def Hx (P:Program) (t:TypeId) (v:V) (n:Nat):Option V:=
 match P.underlying t,v with
 |some (.struct fs),.agg l=>match fs[n]? with
  |some f=>tI P f.type l f.offset
  |none=>none
 |_,_=>none
theorem aah {P:Program} {t:TypeId} {v u:V} {n:Nat} (h:Hx P t v n=some u) {σ:Sg} {E:EH} {x:Value} (hd:Den σ E v x):
  ∃ y,(∀ W,(Instr.field t x n).run P W= .ok y W)/\Den σ E u y:=by
 unfold Hx at h
 split at h
 ·rename_i fs l ht
  split at h
  ·rename_i f hf
   simp only[Den]at hd
   obtain⟨xs,rfl,hD⟩:=hd
   obtain⟨y,h1,h2⟩:=wY h hD
   exact⟨y,fun W=>by simp [Instr.field,run_underlying ht,hf,asAgg,h1],h2⟩
  ·cases h
 ·cases h
def Hj (P:Program) (t:TypeId) (v ix:V) (K:V->Prop):Prop:=
 match P.underlying t,v,numOf ix with
 |some (.array m elem),.agg l,some n=>match fX P elem,p_ P elem,oh P 20 elem with
  |some s,some agg,some ks=>match l with
   | [.arr _ cs]=>match cX (wk ks) (qu agg s)with
    |true=>br n m/\oo cs (n.toNat*s) ks (fun vs=>qh agg vs K)
    |false=>False
   |_=>match RF ix with
    |true=>match tI P elem l (n.toNat*s)with | some u=>br n m/\K u | none=>False
    |false=>False
  |_,_,_=>False
 |_,_,_=>False
theorem Z7 {P:Program} {t:TypeId} {v ix:V} {K:V->Prop} (h:Hj P t v ix K) {σ:Sg} {E:EH} {x y:Value} (hd:Den σ E v x) (hy:Den σ E ix y):
  ∃ u z,(∀ W,(Instr.index t x y).run P W= .ok z W)/\Den σ E u z/\K u:=by
 unfold Hj at h
 split at h<;>try exact h.elim
 rename_i m elem l n ht hn
 obtain⟨k,rfl⟩:=uS hn hy
 simp only[Den]at hd
 obtain⟨xs,rfl,hD⟩:=hd
 split at h<;>try exact h.elim
 rename_i s agg ks hs ha hks
 have run:∀{z:Value},0<=n->n<(m:Int)->(∀ W,(part elem xs.toArray (n.toNat*s)).run P W= .ok z W)->∀ W,(Instr.index t (.agg xs.toArray) (.int k n)).run P W= .ok z W:=fun h0 h1 hz W=>by
  simp [Instr.index,asIntOf,run_underlying ht,h0,h1,kK hs,hz W]
 split at h
 ·rename_i m' cs
  split at h<;>try exact h.elim
  rename_i hb
  have hw:=de hb
  obtain⟨⟨h0,h1⟩,h⟩:=h
  obtain⟨ys,zs,rfl,hp,hz⟩:=hD.iT
  simp only[aV]at hz
  subst hz
  rcases hp with ⟨y,rfl,_,hy'⟩ | ⟨m2,cs2,e,hl,hDD⟩
  ·simp only[Den]at hy'
  cases e
  obtain⟨vs,us,hK,tg,im,hx⟩:=qG (σ:=σ) hDD h
  obtain⟨u,hKu,hu,hone⟩:=xu hK tg
  refine⟨u,_,run h0 h1 (fun W=>?_),hu,hKu⟩
  rw[hw,yc]at im
  have df:∀ j x,us[j]? =some x->(ys++[])[n.toNat*s+j]? =some x:=fun j x hj=>by simpa using hx j x hj
  cases agg with
  |true=>
   simp only[if_true]at im ⊢
   have:((ys++[]).toArray.extract (n.toNat*s) (n.toNat*s+s))=us.toArray:=by
    apply Array.ext'
    simp only[Array.toList_extract,List.extract_eq_take_drop]
    apply mb
    intro j
    rcases kx j s with hj | hj
    ·rw[iF (by omega),jW]
     have:=df j _ (bu (by omega))
     rw[this];simp [show j<us.length by omega]
    ·rw[iE (by simp;omega),iE (by omega)]
   simp [part,tK ha,kK hs]
   simpa using this
  |false=>
   simp only[Bool.false_eq_true,if_false]at im ⊢
   match us,im with
   | [z],_=>
    have:=df 0 z rfl
    simp only[Nat.add_zero]at this
    simp [part,tK ha]
    simp at this
    simp [this]
 ·split at h<;>try exact h.elim
  split at h<;>try exact h.elim
  rename_i u hu
  obtain⟨⟨h0,h1⟩,hK⟩:=h
  obtain⟨z,hz1,hz2⟩:=wY hu hD
  exact⟨u,z,run h0 h1 hz1,hz2,hK⟩
def wa (P:Program) (eq:TypeId->V->V->Option Bool) (xs ys:List V):List Field->Option Bool
 | []=>some true
 |f::fs=>
  match f.name == "_" with
  |true=>wa P eq xs ys fs
  |false=>match tI P f.type xs f.offset,tI P f.type ys f.offset with
   |some a,some b=>match eq f.type a b,wa P eq xs ys fs with
    |some r,some s=>some (r && s)
    |_,_=>none
   |_,_=>none
def BQ (P:Program) (eq:TypeId->V->V->Option Bool) (elem:TypeId) (n:Nat) (xs ys:List V):Nat->Nat->Option Bool
 |_,0=>some true
 |i,m+1=>match tI P elem xs (i*n),tI P elem ys (i*n)with
  |some a,some b=>match eq elem a b,BQ P eq elem n xs ys (i+1) m with
   |some r,some s=>some (r && s)
   |_,_=>none
  |_,_=>none
def yj:V->V
 | .lit k n=> .int k n
 |v=>v
theorem GY {σ:Sg} {E:EH} {v:V} {x:Value} (h:Den σ E v x):Den σ E (yj v) x:=by
 cases v<;>simp only[yj]<;>first | exact h | simpa [Den]using h
def Bs:V->Option Bool
 | .sb b=>some b
 | .tt=>some true
 | .ff=>some false
 |_=>none
def ta (P:Program):Nat->TypeId->V->V->Option Bool
 | 0,_,_,_=>none
 |d+1,t,x,y=>
  match P.underlying t with
  |some (.int _)=>match yj x,yj y with
   | .int k a,.int k' b=>match decide (k=k')with | true=>some (a == b) | false=>none
   |_,_=>none
  |some .bool=>match Bs x,Bs y with
   |some a,some b=>some (a == b)
   |_,_=>none
  |some .string=>match x,y with
   | .any (.string a),.any (.string b)=>some (a.toList == b.toList)
   |_,_=>none
  |some (.struct fs)=>match P.stoodInHeld t,x,y with
   |false,.agg xs,.agg ys=>wa P (ta P d) xs ys fs.toList
   |_,_,_=>none
  |some (.array len elem)=>match fX P elem,x,y with
   |some n,.agg xs,.agg ys=>BQ P (ta P d) elem n xs ys 0 len
   |_,_,_=>none
  |_=>none
theorem Ol {v:V} {b:Bool} (h:Bs v=some b) {σ:Sg} {E:EH} {x:Value} (hd:Den σ E v x):x= .bool b:=by
 cases v<;>simp only[Bs,bb.injEq,reduceCtorEq]at h<;>subst h<;>simpa [Den]using hd
theorem Hm {P:Program} {eq:TypeId->V->V->Option Bool} {d:Nat} {σ:Sg} {E:EH}
  (heq:∀ t x y r,eq t x y=some r->∀ a b,Den σ E x a->Den σ E y b->∀ W,(Op.equalIn d t a b).run P W= .ok r W) {xs ys:List V} {as bs:List Value} (hx:aV σ E xs as) (hy:aV σ E ys bs) (W:World):
  ∀{fs:List Field} {r:Bool},wa P eq xs ys fs=some r->(Op.eqFields d as.toArray bs.toArray fs).run P W= .ok r W
 | [],r,h=>by simp [wa]at h;subst h;simp [Op.eqFields]
 |f::fs,r,h=>by
  simp only[wa]at h
  split at h
  ·rename_i hn
   have hn':f.name="_":=by simpa using hn
   simp only[Op.eqFields,hn']
   simpa using Hm heq hx hy W h
  ·rename_i hn
   have hn':¬ f.name="_":=by simpa using hn
   split at h
   ·rename_i a b ha hb
    split at h
    ·rename_i r1 s1 h1 h2
     cases h
     obtain⟨x,hx1,hx2⟩:=wY ha hx
     obtain⟨y,hy1,hy2⟩:=wY hb hy
     have hr:=heq _ _ _ _ h1 x y hx2 hy2 W
     have ih:=Hm heq hx hy W h2
     simp only[Op.eqFields,ne_eq,hn',not_false_eq_true,if_true,Sem.run_bind,hx1,hy1,hr,Result.andThen_ok]
     cases r1
     ·simp
     ·simpa using ih
    ·cases h
   ·cases h
theorem PE {P:Program} {σ:Sg} {E:EH}:∀(d:Nat) (t:TypeId) (x y:V) (r:Bool),ta P d t x y=some r->∀ a b,Den σ E x a->Den σ E y b->∀(m:Nat),d<=m->∀ W,(Op.equalIn m t a b).run P W= .ok r W
 | 0,_,_,_,_,h,_,_,_,_,_,_,_=>by simp [ta]at h
 |d+1,t,x,y,r,h,a,b,ha,hb,0,hm,W=>by omega
 |d+1,t,x,y,r,h,a,b,ha,hb,m+1,hm,W=>by
  have ih:=PE (P:=P) (σ:=σ) (E:=E) d
  simp only[ta]at h
  split at h
  ·rename_i k0 ht
   split at h
   ·rename_i k p k' q uJ hye
    split at h
    ·rename_i hk
     have hk':k=k':=by simpa using hk
     subst hk'
     cases h
     replace ha:=GY ha
     replace hb:=GY hb
     rw[uJ]at ha
     rw[hye]at hb
     simp only[Den]at ha hb
     subst ha;subst hb
     exact run_equalIn_int W m t k k0 p q ht
    ·cases h
   ·cases h
  ·rename_i ht
   split at h
   ·rename_i p q hp hq
    cases h
    rw[Ol hp ha,Ol hq hb]
    exact run_equalIn_bool' W m t p q ht
   ·cases h
  ·rename_i ht
   split at h
   ·cases h
    simp only[Den]at ha hb
    subst ha;subst hb
    exact run_equalIn_string W m t _ _ ht
   ·cases h
  ·rename_i fs ht
   split at h
   ·rename_i xs ys hst
    simp only[Den]at ha hb
    obtain⟨as,rfl,hx⟩:=ha
    obtain⟨bs,rfl,hy⟩:=hb
    have hf:P.fieldsOf t=fs:=by simp [Program.fieldsOf,ht]
    rw[run_equalIn_struct W m t as.toArray bs.toArray (by rw[hf];exact ht) hst,hf]
    exact Hm (d:=m) (fun t x y r h a b ha hb W=>ih t x y r h a b ha hb m (by omega) W) hx hy W h
   ·cases h
  ·rename_i len elem ht
   split at h
   ·rename_i n xs ys hn
    simp only[Den]at ha hb
    obtain⟨as,rfl,hx⟩:=ha
    obtain⟨bs,rfl,hy⟩:=hb
    simp only[Op.equalIn,Sem.run_bind,run_underlying ht,Result.andThen_ok,kK hn]
    rw[Std.Legacy.Range.forIn_eq_forIn_range']
    simp only[Std.Legacy.Range.size,ly,Nat.add_sub_cancel,Nat.div_one]
    clear ht
    generalize 0=i at h ⊢
    induction len generalizing i r with
    |zero=>simp only[BQ]at h;cases h;simp
    |succ len ihl=>
     simp only[BQ]at h
     split at h
     ·rename_i p q hp hq
      split at h
      ·rename_i r1 s1 h1 h2
       cases h
       obtain⟨u,hu1,pP⟩:=wY hp hx
       obtain⟨v,Cp,rP⟩:=wY hq hy
       have hr:=ih _ _ _ _ h1 u v pP rP m (by omega) W
       have:=ihl s1 (i+1) h2
       simp only[List.range'_succ,List.forIn_cons,Sem.run_bind,hu1,Cp,hr,Result.andThen_ok]
       cases r1
       ·simp
       ·simpa using this
      ·cases h
     ·cases h
   ·cases h
  ·cases h
def GC:V->Option (List V)
 | .agg vs=>some vs
 |v=>match V.one v with | true=>some [v] | false=>none
theorem Zk {v:V} {vs:List V} (h:GC v=some vs) {σ:Sg} {E:EH} {x:Value} (hd:Den σ E v x):∃ xs,x.cells=xs.toArray/\aV σ E vs xs:=by
 unfold GC at h
 split at h
 ·cases h
  simp only[Den]at hd
  obtain⟨xs,rfl,hD⟩:=hd
  exact⟨xs,rfl,hD⟩
 ·split at h
  ·rename_i h1
   cases h
   have h2:=one_den h1 hd
   refine⟨[x],?_,.ju hd h2 .nil⟩
   cases x<;>simp_all [Value.cells,mH]
  ·cases h
def wc (place:Nat->Option (Nat×Nat)) (l:List V):List (Nat×V)->Option (List V)
 | []=>some l
 | (i,v)::rest=>match place i,GC v with
  |some (off,size),some vs=>match cX (wid vs) size with
   |true=>match jC l off vs with
    |some l'=>wc place l' rest
    |none=>none
   |false=>none
  |_,_=>none
theorem Lf {α:Type} (c:α) (l:List α) (n:Nat) (vs:List α):splice (c::l) (n+1) vs=c::splice l n vs:=by
 simp only[splice,List.take_succ_cons,List.cons_append]
 rw[show n+1+vs.length=(n+vs.length)+1 by omega,List.drop_succ_cons]
theorem Vy {α:Type}:∀(l:List α) (n:Nat) (v:α) (vs:List α),n+1+vs.length<=l.length->splice (l.set n v) (n+1) vs=splice l n (v::vs)
 | [],n,v,vs,h=>by simp at h
 |c::l,0,v,vs,h=>by
  rw[List.set_cons_zero,Lf]
  simp [splice]
 |c::l,n+1,v,vs,h=>by
  rw[List.set_cons_succ,Lf,Lf,Vy l n v vs (by simp at h;omega)]
theorem HL (off:Nat):∀(vs:List Value) (k:Nat) (cs:Array Value),off+k+vs.length<=cs.size->
  ((vs.zipIdx k).foldl (fun cs (c,j)=>cs.setIfInBounds (off+j) c) cs).toList=splice cs.toList (off+k) vs
 | [],k,cs,_=>by simp [splice]
 |v::vs,k,cs,h=>by
  simp only[gA]at h
  simp only[List.zipIdx_cons,List.foldl_cons]
  rw[HL off vs (k+1) _ (by simp;omega),Array.toList_setIfInBounds]
  exact Vy cs.toList (off+k) v vs (by simp;omega)
def lM (σ:Sg) (E:EH):List (Nat×V)->List (Nat×Value)->Prop
 | [],xs=>xs=[]
 | (i,v)::vs,xs=>∃ x xs',xs=(i,x)::xs'/\Den σ E v x/\lM σ E vs xs'
theorem Hz {place:Nat->Option (Nat×Nat)} {σ:Sg} {E:EH}:∀{parts:List (Nat×V)} {l r:List V},wc place l parts=some r->∀{xs:List Value},aV σ E l xs->∀{ps:List (Nat×Value)},lM σ E parts ps->
  ∃ ys,Instr.fill place xs.toArray ps=some ys.toArray/\aV σ E r ys
 | [],l,r,h,xs,hd,ps,hp=>by
  simp only[wc]at h;cases h
  simp only[lM]at hp;subst hp
  exact⟨xs,rfl,hd⟩
 | (i,v)::rest,l,r,h,xs,hd,ps,hp=>by
  simp only[lM]at hp
  obtain⟨x,xs',rfl,hv,hp⟩:=hp
  simp only[wc]at h
  split at h
  ·rename_i off size vs rL hc
   split at h<;>try (cases h;done)
   rename_i gW
   split at h<;>try (cases h;done)
   rename_i l' hl'
   obtain⟨ys,h1,h2⟩:=Zk hc hv
   have hs:=de gW
   rw[<- h2.len]at hs
   obtain⟨h5,hle⟩:=u7 hl' hd h2
   obtain⟨zs,h3,h4⟩:=Hz h h5 hp
   refine⟨zs,?_,h4⟩
   simp only[Instr.fill,rL,h1,List.size_toArray]
   rw[if_neg (by simp;omega)]
   have hz:=HL off ys 0 xs.toArray (by simpa using hle)
   simp only[Nat.add_zero]at hz
   rw[<- h3]
   congr 1
   apply Array.ext'
   rw[<- Array.foldl_toList,Array.toList_zipIdx]
   exact hz
  ·cases h
def Gq (P:Program) (t:TypeId) (parts:List (Nat×V)):Option (List V):=
 match P.info? t,P.underlying t with
 |some it,some (.array _ e)=>
  match it.zero,P.info? e with
  |some z,some ie=>match z.cells.toList.all mH with
   |true=>wc (fun i=>some (i*ie.size,ie.size)) (z.cells.toList.map oR) parts
   |false=>none
  |_,_=>none
 |some it,some (.struct fields)=>
  match it.zero,fields.toList.mapM (fun f=>(P.info? f.type).map fun i=>(f.offset,i.size)),oh P 20 t with
  |some z,some places,some ks=>match lJ ks z.cells.toList with
   |some l=>wc (places.toArray[·]?) l parts
   |none=>none
  |_,_,_=>none
 |_,_=>none
theorem Y9 {P:Program} {t:TypeId} {parts:List (Nat×V)} {r:List V} (h:Gq P t parts=some r) {σ:Sg} {E:EH} {ps:List (Nat×Value)} (hp:lM σ E parts ps):
  ∃ x,(∀ W,(Instr.build t ps.toArray).run P W= .ok x W)/\Den σ E (.agg r) x:=by
 unfold Gq at h
 split at h
 ·rename_i it m e hi hu
  split at h<;>try (cases h;done)
  rename_i z ie hz Ir
  split at h<;>try (cases h;done)
  rename_i hall
  obtain⟨ys,h1,h2⟩:=Hz h (GZ σ E z.cells.toList hall) hp
  exact⟨_,fun W=>run_build W t ps.toArray ys.toArray (by simp only[Program.built,hi,hu,hz,Ir];simpa using h1),by simp only[Den];exact⟨ys,rfl,h2⟩⟩
 ·rename_i it fields hi hu
  split at h<;>try (cases h;done)
  rename_i z places ks hz rL hks
  split at h<;>try (cases h;done)
  rename_i l hl
  obtain⟨ys,h1,h2⟩:=Hz h (zY σ E hl) hp
  exact⟨_,fun W=>run_build W t ps.toArray ys.toArray (by simp only[Program.built,hi,hu,hz,rL];simpa using h1),by simp only[Den];exact⟨ys,rfl,h2⟩⟩
 ·cases h
def Do (P:Program) (e:TypeId):Nat->List (Nat×V)->KB->(List (List D)->KB->Prop)->Prop
 |_,[],kb,K=>K [] kb
 |k,(i,v)::rest,kb,K=>match cX i k with
  |true=>cellsD P e v kb (fun ds kb'=>Do P e (k+1) rest kb' (fun es j8=>K (ds::es) j8))
  |false=>False
theorem afZ {α:Type} {l xs ys:List α} {o:Nat} (h:o+xs.length+ys.length<=l.length):splice (splice l o xs) (o+xs.length) ys=splice l o (xs++ys):=by
 unfold splice
 have h1:(l.take o).length=o:=by simp;omega
 have e1:(l.take o++xs++l.drop (o+xs.length)).take (o+xs.length)=l.take o++xs:=by
  rw[show o+xs.length=(l.take o++xs).length by simp [h1],List.take_left]
 rw[e1]
 have e2:(l.take o++xs++l.drop (o+xs.length)).drop (o+xs.length+ys.length)=l.drop (o+xs.length+ys.length):=by
  rw[show o+xs.length+ys.length=(l.take o++xs).length+ys.length by simp [h1],List.drop_length_add_append,List.drop_drop]
  simp [h1]
 rw[e2,bn,g_]
 simp
theorem lM.mono {σ τ:Sg} {E E':EH} (hE:E.le E'):∀{vs:List (Nat×V)} {xs:List (Nat×Value)},lM σ E vs xs->lM (σ++τ) E' vs xs
 | [],_,h=>by simpa only[lM]using h
 | (i,v)::vs,_,h=>by
  simp only[lM]at h ⊢
  obtain⟨x,xs',h0,h1,h2⟩:=h
  exact⟨x,xs',h0,Den.mono hE h1,h2.mono hE⟩
theorem Ue {P:Program} {e:TypeId} {s:Nat} (hs:fX P e=some s):∀{parts:List (Nat×V)} {k:Nat} {kb:KB} {K:List (List D)->KB->Prop},Do P e k parts kb K->∀{σ:Sg} {E:EH} {W:World},Inv σ E kb W->∀{ps:List (Nat×Value)},lM σ E parts ps->
  ∃ E' kb' l ys,Step σ E kb W σ E' kb' W/\wl s l/\l.length=parts.length/\bh E' l.flatten ys/\K l kb'/\
   ∀(cs:Array Value),k*s+ys.length<=cs.size->Instr.fill (fun j=>some (j*s,s)) cs ps=some (splice cs.toList (k*s) ys).toArray
 | [],k,kb,K,h,σ,E,W,hi,ps,hp=>by
  simp only[lM]at hp;subst hp
  exact⟨E,kb,[],[],Step.refl hi,wl.nil,rfl,.nil,h,fun cs hc=>by simp [Instr.fill,splice]⟩
 | (i,v)::rest,k,kb,K,h,σ,E,W,hi,ps,hp=>by
  simp only[lM]at hp
  obtain⟨x,xs',rfl,hv,hp⟩:=hp
  simp only[Do]at h
  split at h<;>try exact h.elim
  rename_i hb
  have hik:=de hb
  subst hik
  obtain⟨E1,fu,ds,xs,s1,hc,hD,h,hn⟩:=yb h hi hv
  rw[hs]at hn
  have hn:=bb.inj hn
  have mP:=hp.mono (τ:=[]) s1.le
  rw[gz]at mP
  obtain⟨E2,bY,l,ys,s2,hw,hl,tg,hK,hf⟩:=Ue hs h s1.inv mP
  have hdl:=hD.len
  refine⟨E2,bY,ds::l,xs++ys,s1.trans s2,fun e he=>?_,by simp [hl],?_,hK,fun cs hcs=>?_⟩
  ·rcases dS.1 he with rfl | he
   ·omega
   ·exact hw e he
  ·rw[jF];exact(hD.mono s2.le).append tg
  ·simp only[bn]at hcs
   simp only[Instr.fill,hc,List.size_toArray]
   rw[if_neg (by simp;omega)]
   have hz:=HL (i*s) xs 0 cs (by omega)
   simp only[Nat.add_zero]at hz
   have ez:(Array.foldl (fun cs x=>cs.setIfInBounds (i*s+x.2) x.1) cs (Array.zipIdx xs.toArray))=(splice cs.toList (i*s) xs).toArray:=by
    apply Array.ext'
    rw[<- Array.foldl_toList,Array.toList_zipIdx]
    exact hz
   have j6:(splice cs.toList (i*s) xs).length=cs.size:=by rw[mW (by simp;omega)];simp
   have hf':=hf (splice cs.toList (i*s) xs).toArray (by rw[List.size_toArray,j6,Nat.succ_mul];omega)
   have e1:(i+1)*s=i*s+xs.length:=by rw[Nat.succ_mul];omega
   rw[e1,List.toList_toArray,afZ (by simp;omega)]at hf'
   rw[<- hf']
   congr 1
def Gp (P:Program) (t:TypeId) (len:Nat) (parts:List (Nat×V)) (kb:KB) (K:V->KB->Prop):Prop:=
 match P.underlying t with
 |some (.slice elem)=>
  match P.info? elem with
  |some i=>
   match i.zero,i.size with
   |some z,s+1=>
    match Nat.ble (len*(s+1)) 16777216,cX z.cells.size (s+1),cX parts.length len with
    |true,true,true=>Do P elem 0 parts kb (fun l kb'=>K (.sl kb'.length 0 len) (kb'++[.row elem (s+1) l]))
    |_,_,_=>False
   |_,_=>False
  |none=>False
 |_=>False
theorem Y8 {P:Program} {t:TypeId} {len:Nat} {parts:List (Nat×V)} {kb:KB} {K:V->KB->Prop} (h:Gp P t len parts kb K) {σ:Sg} {E:EH} {W:World} (hi:Inv σ E kb W) {ps:List (Nat×Value)}
  (hp:lM σ E parts ps):∃ v x σ' E' kb' W',(Instr.buildSlice t len ps.toArray).run P W= .ok x W'/\Step σ E kb W σ' E' kb' W'/\Den σ' E' v x/\K v kb':=by
 unfold Gp at h
 split at h<;>try exact h.elim
 rename_i elem ht
 split at h<;>try exact h.elim
 rename_i i mO
 split at h<;>try exact h.elim
 rename_i z s hz hs
 split at h<;>try exact h.elim
 rename_i gW fR hb3
 have hle:=Nat.le_of_ble_eq_true gW
 have hcl:=de fR
 have rL:=de hb3
 have hts:fX P elem=some (s+1):=by simp [fX,mO,hs]
 obtain⟨E1,fu,l,ys,s1,hw,hl,hD,hK,hf⟩:=Ue hts h hi hp
 have j7:ys.length=len*(s+1):=by rw[hD.len,pD hw,hl,rL]
 have yI:len<=len*(s+1):=Nat.le_mul_of_pos_right _ (Nat.succ_pos s)
 have hrun:(Instr.buildSlice t len ps.toArray).run P W= .ok (.slice (some ⟨W.heap.size,0,none⟩) len len) (W.alloc (.cells ys.toArray elem)):=by
  have Q4:Instr.fill (fun j=>some (j*(s+1),s+1)) ((Array.range (len*(s+1))).map (z.cells[·% z.cells.size]!)) ps=some ys.toArray:=by
   rw[hf _ (by simp;omega)]
   simp only[Nat.zero_mul,splice,List.take_zero,jr]
   rw[List.drop_eq_nil_of_le (by simp;omega),gz]
  by_cases hl0:len*(s+1)=0
  ·have e0:((Array.range (len*(s+1))).map (fun(x:Nat)=>(#[]:Array Value)[x % (#[]:Array Value).size]!))=((Array.range (len*(s+1))).map (z.cells[·% z.cells.size]!)):=by rw[hl0];apply Array.ext';simp
   have hn:¬ len*(s+1) > 2 ^ 24:=by omega
   unfold Instr.buildSlice
   rw[Sem.run_bind,run_underlying ht,Result.andThen_ok]
   simp only[]
   rw[Sem.run_bind,show(Go.sizeOf elem).run P W= .ok (s+1) W by simp [Go.sizeOf,typeInfo,mO,hs],Result.andThen_ok]
   simp only[hn,if_false]
   rw[if_pos hl0,Sem.run_bind,Sem.run_pure,Result.andThen_ok]
   simp only[e0,Q4]
   simp [newRow]
  ·have hn:¬ len*(s+1) > 2 ^ 24:=by omega
   unfold Instr.buildSlice
   rw[Sem.run_bind,run_underlying ht,Result.andThen_ok]
   simp only[]
   rw[Sem.run_bind,show(Go.sizeOf elem).run P W= .ok (s+1) W by simp [Go.sizeOf,typeInfo,mO,hs],Result.andThen_ok]
   simp only[hn,if_false]
   rw[if_neg hl0,Sem.run_bind,show(zeroValue elem).run P W= .ok z W by simp [zeroValue,typeInfo,mO,hz],Result.andThen_ok,Sem.run_bind,Sem.run_pure,Result.andThen_ok]
   simp only[Q4]
   simp [newRow]
 have hst:Step σ E1 fu W (σ++[⟨W.heap.size,len,s+1⟩]) E1 (fu++[.row elem (s+1) l]) (W.alloc (.cells ys.toArray elem)):=
  N3 s1.inv hw (by omega) (by simp only[maxLen];omega) (by simpa using j7) (by rw[eQ (by rw[hl,rL];simp;omega)];exact hD)
 exact⟨_,_,_,_,_,_,hrun,s1.trans hst,by simp only[Den];exact⟨⟨W.heap.size,len,s+1⟩,_,by rw[<- s1.inv.len];simp,rfl,by simp,by simp,by simp⟩,hK⟩
abbrev ML:=List (List Int×List D)
def bK:ML->List Int->Option (List D)
 | [],_=>none
 | (a,c)::l,n=>if n=a then some c else bK l n
def bI:ML->List Int->List D->ML
 | [],n,v=>[(n,v)]
 | (a,c)::l,n,v=>if n=a then(a,v)::l else(a,c)::bI l n v
def o0:ML->List Int->ML
 | [],_=>[]
 | (a,c)::l,n=>if n=a then l else(a,c)::o0 l n
def mix:ML->List Int->Option Nat
 | [],_=>none
 | (a,c)::l,n=>if n=a then some 0 else(mix l n).map (·+1)
theorem C1:∀{l:ML} {n:List Int},mix l n=none->bK l n=none/\(∀ v,bI l n v=l++[(n,v)])/\o0 l n=l
 | [],n,_=>⟨rfl,fun v=>rfl,rfl⟩
 | (a,c)::l,n,h=>by
  simp only[mix]at h
  split at h
  ·cases h
  ·rename_i hne
   simp only[Option.map_eq_none_iff]at h
   obtain⟨h1,h2,h3⟩:=C1 h
   exact⟨by simp [bK,hne,h1],fun v=>by simp [bI,hne,h2 v],by simp [o0,hne,h3]⟩
theorem C2:∀{l:ML} {n:List Int} {j:Nat},mix l n=some j->∃ c,l[j]? =some (n,c)/\bK l n=some c/\(∀ v,bI l n v=l.set j (n,v))/\o0 l n=l.eraseIdx j
 | [],n,j,h=>by cases h
 | (a,c)::l,n,j,h=>by
  simp only[mix]at h
  split at h
  ·rename_i he
   cases h
   exact⟨c,by simp [he],by simp [bK,he],fun v=>by simp [bI,he],by simp [o0,he]⟩
  ·rename_i hne
   simp only[Option.map_eq_some_iff]at h
   obtain⟨k,hk,rfl⟩:=h
   obtain⟨d,h1,h2,h3,h4⟩:=C2 hk
   exact⟨d,by simpa using h1,by simp [bK,hne,h2],fun v=>by simp [bI,hne,h3 v],by simp [o0,hne,h4]⟩
def rE (P:Program):Nat->List Field->List IntKind->Bool
 |_,[],[]=>true
 |o,f::fs,k::ks=>match f.name == "_",cX f.offset o,P.underlying f.type,p_ P f.type with
  |false,true,some (.int _),some false=>rE P (o+1) fs ks
  |_,_,_,_=>false
 |_,_,_=>false
def lV (P:Program) (kt:TypeId) (aD:List IntKind):Bool->Bool
 |false=>match P.underlying kt,aD with | some (.int _),[_]=>true | _,_=>false
 |true=>match P.underlying kt with
  |some (.struct fs)=>match P.stoodInHeld kt with | false=>rE P 0 fs.toList aD | true=>false
  |_=>false
theorem PN {P:Program} {d:Nat} (W:World):∀{fs:List Field} {aD:List IntKind} {o:Nat},rE P o fs aD=true->∀{k k':List Int},k.length=aD.length->k'.length=aD.length->∀{pre pre':List Value},pre.length=o->pre'.length=o->
  (Op.eqFields (d+1) (pre++dJ aD k).toArray (pre'++dJ aD k').toArray fs).run P W= .ok (decide (k=k')) W
 | [],[],o,h,k,k',hk,hk',pre,pre',hp,mP=>by
  have h1:k=[]:=mD hk
  have h2:k'=[]:=mD hk'
  subst h1;subst h2
  simp [Op.eqFields]
 | [],_:: _,o,h,_,_,_,_,_,_,_,_=>by simp [rE]at h
 |_:: _,[],o,h,_,_,_,_,_,_,_,_=>by simp [rE]at h
 |f::fs,kk::aD,o,h,k,k',hk,hk',pre,pre',hp,mP=>by
  simp only[rE]at h
  split at h<;>try (cases h;done)
  rename_i q hn ho hu ha
  have ho:=de ho
  have hn':¬ f.name="_":=by simpa using hn
  match k,k',hk,hk' with
  |a::k,b::k',hk,hk'=>
   have e1:(pre++dJ (kk::aD) (a::k))=(pre++[.int kk a])++dJ aD k:=by simp [dJ]
   have e2:(pre'++dJ (kk::aD) (b::k'))=(pre'++[.int kk b])++dJ aD k':=by simp [dJ]
   have ih:=PN (d:=d) W h (k:=k) (k':=k') (by simpa using hk) (by simpa using hk') (pre:=pre++[.int kk a]) (pre':=pre'++[.int kk b]) (by simp [hp]) (by simp [mP])
   have p1:(part f.type (pre++dJ (kk::aD) (a::k)).toArray f.offset).run P W= .ok (.int kk a) W:=by
    simp [part,tK ha,ho,<- hp,dJ]
   have p2:(part f.type (pre'++dJ (kk::aD) (b::k')).toArray f.offset).run P W= .ok (.int kk b) W:=by
    simp [part,tK ha,ho,<- mP,dJ]
   have heq:=run_equalIn_int W d f.type kk q a b hu
   simp only[Op.eqFields,ne_eq,hn',not_false_eq_true,if_true,Sem.run_bind,p1,p2,heq,Result.andThen_ok]
   by_cases hab:a=b
   ·subst hab
    rw[e1,e2]
    simpa using ih
   ·have hb:(a == b)=false:=by simpa using hab
    simp [hb,hab]
theorem abx {P:Program} {kt:TypeId} {aD:List IntKind} (h:lV P kt aD true=true) {k k':List Int} (hk:k.length=aD.length) (hk':k'.length=aD.length) (W:World):
  (Op.equal kt (eF true (dJ aD k)) (eF true (dJ aD k'))).run P W= .ok (decide (k=k')) W:=by
 simp only[lV]at h
 split at h<;>try (cases h;done)
 rename_i fs hu
 split at h<;>try (cases h;done)
 rename_i hst
 have hf:P.fieldsOf kt=fs:=by simp [Program.fieldsOf,hu]
 show(Op.equalIn (9998+1+1) kt _ _).run P W=_
 simp only[eF,if_true]
 rw[run_equalIn_struct W (9998+1) kt _ _ (by rw[hf];exact hu) hst,hf]
 exact PN (d:=9998) W h hk hk' (pre:=[]) (pre':=[]) rfl rfl
theorem PL {P:Program} {b:Bool} {d:Nat} (W:World) {I2:List IntKind} {k0:List Int}:∀{fs:List Field} {aD:List IntKind} {o:Nat},rE P o fs aD=true->∀{k:List Int},k.length=aD.length->∀{pre:List Value},pre.length=o->dJ I2 k0=pre++dJ aD k->
  (forIn (m:=Sem) fs PUnit.unit fun f r=>do
   if f.name≠"_" then do
    Instr.checkKey b (d+1) f.type (<- part f.type (dJ I2 k0).toArray f.offset)
    pure (.yield PUnit.unit)
   else pure (.yield PUnit.unit)).run P W= .ok PUnit.unit W
 | [],aD,o,h,k,hk,pre,hp,he=>by simp
 |_:: _,[],o,h,_,_,_,_,_=>by simp [rE]at h
 |f::fs,kk::aD,o,h,k,hk,pre,hp,he=>by
  simp only[rE]at h
  split at h<;>try (cases h;done)
  rename_i q hn ho hu ha
  have ho:=de ho
  have hn':¬ f.name="_":=by simpa using hn
  match k,hk with
  |a::k,hk=>
   have p1:(part f.type (dJ I2 k0).toArray f.offset).run P W= .ok (.int kk a) W:=by
    rw[he];simp [part,tK ha,ho,<- hp,dJ]
   have hc:(Instr.checkKey b (d+1) f.type (.int kk a)).run P W= .ok () W:=by
    unfold Instr.checkKey
    rw[Sem.run_bind,run_underlying hu,Result.andThen_ok]
    rfl
   have ih:=PL (b:=b) (d:=d) W h (k:=k) (by simpa using hk) (pre:=pre++[.int kk a]) (by simp [hp]) (by rw[he];simp [dJ])
   simp only[List.forIn_cons,ne_eq,hn',not_false_eq_true,if_true,Sem.run_bind,p1,hc,Result.andThen_ok,Sem.run_pure]
   simpa using ih
theorem run_checkKey {P:Program} {kt:TypeId} {aD:List IntKind} {aW:Bool} (h:lV P kt aD aW=true) {k:List Int} (hk:k.length=aD.length) (b:Bool) (W:World):(Instr.checkKey b 10000 kt (eF aW (dJ aD k))).run P W= .ok () W:=by
 show(Instr.checkKey b (9998+1+1) kt _).run P W= .ok () W
 cases aW with
 |false=>
  simp only[lV]at h
  split at h<;>try (cases h;done)
  rename_i q kk hu
  match k,hk with
  | [a],_=>
   unfold Instr.checkKey
   rw[Sem.run_bind,run_underlying hu,Result.andThen_ok]
   rfl
 |true=>
  simp only[lV]at h
  split at h<;>try (cases h;done)
  rename_i fs hu
  split at h<;>try (cases h;done)
  unfold Instr.checkKey
  rw[Sem.run_bind,run_underlying hu,Result.andThen_ok]
  simp only[eF,if_true]
  have:=PL (b:=b) (d:=9998) W h hk (pre:=[]) rfl rfl
  rw[Sem.run_bind,<- Array.forIn_toList,this]
  rfl
theorem PQ {E:EH} {kk kt:IntKind} {agg:Bool} {n:Int}:∀{l:ML} {es:List MapEntry},cM E [kk] false agg es l->∀ i,
  (mix l [n]=none/\Instr.findNow (.int kt) (.int kk n) es i=some none)∨∃ j c e,mix l [n]=some j/\l[j]? =some ([n],c)/\es[j]? =some e/\Instr.findNow (.int kt) (.int kk n) es i=some (some (i+j,e.val))
 |l,[],h,i=>by
  simp only[cM]at h
  subst h
  exact .inl ⟨rfl,rfl⟩
 |l,e::es,h,i=>by
  simp only[cM]at h
  obtain⟨k,c,l',rfl,⟨kF,hk,_⟩,h3⟩:=h
  match k,kF with
  | [a],_=>
  have h1:e.key= .int kk a:=by simpa [eF,dJ]using hk
  by_cases he:n=a
  ·right
   refine⟨0,c,e,by simp [mix,he],by simp [he],rfl,?_⟩
   simp [Instr.findNow,Instr.sameNow,h1,he]
  ·have hb:(n == a)=false:=by simpa using he
   have:=PQ (n:=n) (kt:=kt) h3 (i+1)
   rcases this with ⟨k1,k2⟩ | ⟨j,d,e',k1,k2,k3,k4⟩
   ·exact .inl ⟨by simp [mix,he,k1],by simp [Instr.findNow,Instr.sameNow,h1,hb,k2]⟩
   ·exact .inr ⟨j+1,d,e',by simp [mix,he,k1],by simpa using k2,by simpa using k3,by simp [Instr.findNow,Instr.sameNow,h1,hb,k4];omega⟩
theorem PP {P:Program} {E:EH} {kt:TypeId} {aD:List IntKind} {agg:Bool} (hkb:lV P kt aD true=true) {n:List Int} (hn:n.length=aD.length) (W:World):∀{l:ML} {es:List MapEntry},cM E aD true agg es l->∀ i,
  (mix l n=none/\(Instr.findAsking kt (eF true (dJ aD n)) es i).run P W= .ok none W)∨∃ j c e,mix l n=some j/\l[j]? =some (n,c)/\es[j]? =some e/\(Instr.findAsking kt (eF true (dJ aD n)) es i).run P W= .ok (some (i+j,e.val)) W
 |l,[],h,i=>by
  simp only[cM]at h
  subst h
  exact .inl ⟨rfl,rfl⟩
 |l,e::es,h,i=>by
  simp only[cM]at h
  obtain⟨k,c,l',rfl,⟨kF,hk,_⟩,h3⟩:=h
  have heq:=abx hkb hn kF W
  rw[<- hk]at heq
  by_cases he:n=k
  ·right
   refine⟨0,c,e,by simp [mix,he],by simp [he],rfl,?_⟩
   simp only[Instr.findAsking,Sem.run_bind,heq,Result.andThen_ok]
   simp [he]
  ·have:=PP hkb hn W h3 (i+1)
   rcases this with ⟨k1,k2⟩ | ⟨j,d,e',k1,k2,k3,k4⟩
   ·refine .inl ⟨by simp [mix,he,k1],?_⟩
    simp only[Instr.findAsking,Sem.run_bind,heq,Result.andThen_ok]
    simpa [he]using k2
   ·refine .inr ⟨j+1,d,e',by simp [mix,he,k1],by simpa using k2,by simpa using k3,?_⟩
    simp only[Instr.findAsking,Sem.run_bind,heq,Result.andThen_ok]
    rw[show i+(j+1)=i+1+j by omega]
    simpa [he]using k4
theorem HC {P:Program} {E:EH} {kt:TypeId} {aD:List IntKind} {aW agg:Bool} (hkb:lV P kt aD aW=true) {n:List Int} (hn:n.length=aD.length) (W:World) {l:ML} {es:List MapEntry} (h:cM E aD aW agg es l):
  (mix l n=none/\(Instr.findKey kt (eF aW (dJ aD n)) es).run P W= .ok none W)∨∃ j c e,mix l n=some j/\l[j]? =some (n,c)/\es[j]? =some e/\(Instr.findKey kt (eF aW (dJ aD n)) es).run P W= .ok (some (j,e.val)) W:=by
 cases aW with
 |false=>
  have hkb':=hkb
  simp only[lV]at hkb'
  split at hkb'<;>try (cases hkb';done)
  rename_i q kk hu
  match n,hn with
  | [a],_=>
   have e0:eF false (dJ [kk] [a])= .int kk a:=rfl
   rw[e0]
   rcases PQ (kt:=q) (n:=a) h 0 with ⟨q1,q2⟩ | ⟨j,c,e,q1,q2,q3,q4⟩
   ·exact .inl ⟨q1,by simp [Instr.findKey,run_underlying hu,q2]⟩
   ·exact .inr ⟨j,c,e,q1,q2,q3,by simp [Instr.findKey,run_underlying hu,q4]⟩
 |true=>
  have hkb':=hkb
  simp only[lV]at hkb'
  split at hkb'<;>try (cases hkb';done)
  rename_i fs hu
  cases es with
  |nil=>
   simp only[cM]at h
   subst h
   exact .inl ⟨rfl,by simp [Instr.findKey,run_underlying hu,Instr.findNow]⟩
  |cons e es=>
   have hnone:Instr.findNow (.struct fs) (eF true (dJ aD n)) (e::es) 0=none:=by
    simp only[cM]at h
    obtain⟨k,c,l',rfl,⟨_,hk,_⟩,_⟩:=h
    simp [Instr.findNow,Instr.sameNow]
   rcases PP hkb hn W h 0 with ⟨q1,q2⟩ | ⟨j,c,e',q1,q2,q3,q4⟩
   ·exact .inl ⟨q1,by simp [Instr.findKey,run_underlying hu,hnone,q2]⟩
   ·exact .inr ⟨j,c,e',q1,q2,q3,by simp [Instr.findKey,run_underlying hu,hnone,q4]⟩
def rT:List V->Option (List IntKind×List Int)
 | []=>some ([],[])
 | .int k n::vs=>match rT vs with | some (ks,ns)=>some (k::ks,n::ns) | none=>none
 | .lit k n::vs=>match rT vs with | some (ks,ns)=>some (k::ks,n::ns) | none=>none
 |_=>none
theorem RD:∀{vs:List V} {ks:List IntKind} {ns:List Int},rT vs=some (ks,ns)->∀{σ:Sg} {E:EH} {xs:List Value},aV σ E vs xs->ns.length=ks.length/\xs=dJ ks ns
 | [],ks,ns,h,σ,E,xs,hd=>by
  simp [rT]at h
  obtain⟨rfl,rfl⟩:=h
  simp only[aV]at hd
  exact⟨rfl,hd⟩
 |v::vs,ks,ns,h,σ,E,xs,hd=>by
  obtain⟨ys,zs,rfl,h1,h2⟩:=hd.iT
  have main:∀{k:IntKind} {n:Int},(∀ y,Den σ E v y->y= .int k n)->(∀ m cs,v≠.arr m cs)->(match rT vs with | some (ks,ns)=>some (k::ks,n::ns) | none=>none)=some (ks,ns)->ns.length=ks.length/\ys++zs=dJ ks ns:=by
   intro k n hv hna h
   split at h<;>try (cases h;done)
   rename_i ks' ns' hi
   simp only[bb.injEq,Prod.mk.injEq]at h
   obtain⟨rfl,rfl⟩:=h
   obtain⟨h3,rfl⟩:=RD hi h2
   rcases h1 with ⟨y,rfl,_,hy⟩ | ⟨m,cs,e,_,_⟩
   ·rw[hv y hy];exact⟨by simp [h3],rfl⟩
   ·exact(hna m cs e).elim
  cases v with
  |int k n=>exact main (fun y hy=>by simpa only[Den]using hy) (fun _ _ h=>by cases h) (by simpa only[rT]using h)
  |lit k n=>exact main (fun y hy=>by simpa only[Den]using hy) (fun _ _ h=>by cases h) (by simpa only[rT]using h)
  |_=>simp [rT]at h
def yM:V->Option (Bool×List IntKind×List Int)
 | .int k n=>some (false,[k],[n])
 | .lit k n=>some (false,[k],[n])
 | .agg l=>match rT l with | some (ks,ns)=>some (true,ks,ns) | none=>none
 |_=>none
theorem I0 {v:V} {b:Bool} {ks:List IntKind} {ns:List Int} (h:yM v=some (b,ks,ns)) {σ:Sg} {E:EH} {x:Value} (hd:Den σ E v x):ns.length=ks.length/\x=eF b (dJ ks ns):=by
 unfold yM at h
 split at h
 ·simp only[bb.injEq,Prod.mk.injEq]at h
  obtain⟨rfl,rfl,rfl⟩:=h
  exact⟨rfl,by simpa [Den,eF,dJ]using hd⟩
 ·simp only[bb.injEq,Prod.mk.injEq]at h
  obtain⟨rfl,rfl,rfl⟩:=h
  exact⟨rfl,by simpa [Den,eF,dJ]using hd⟩
 ·split at h<;>try (cases h;done)
  rename_i l ks' ns' hi
  simp only[bb.injEq,Prod.mk.injEq]at h
  obtain⟨rfl,rfl,rfl⟩:=h
  simp only[Den]at hd
  obtain⟨xs,rfl,hD⟩:=hd
  obtain⟨h1,rfl⟩:=RD hi hD
  exact⟨h1,by simp [eF]⟩
 ·cases h
def pS:List IntKind->List IntKind->Bool
 | [],[]=>true
 |a::l,b::m=>match decide (a=b)with | true=>pS l m | false=>false
 |_,_=>false
theorem yN:∀{l m:List IntKind},pS l m=true->l=m
 | [],[],_=>rfl
 |a::l,b::m,h=>by
  simp only[pS]at h
  split at h
  ·rename_i e;rw[of_decide_eq_true e,yN h]
  ·cases h
 | [],_:: _,h=>by simp [pS]at h
 |_:: _,[],h=>by simp [pS]at h
def uP (P:Program) (t:TypeId):Option (TypeId×TypeId):=
 match P.underlying t with
 |some (.map kt et)=>some (kt,et)
 |_=>none
theorem CW {P:Program} {t kt et:TypeId} (h:uP P t=some (kt,et)):P.underlying t=some (.map kt et):=by
 unfold uP at h
 split at h
 ·rename_i kt' et' h1
  cases h;exact h1
 ·cases h
def uU (ok:Bool) (v:V) (b:Bool):V:=match ok with | true=> .φ [v,match b with | true=> .tt | false=> .ff] | false=>v
theorem zg {σ:Sg} {E:EH} {v:V} {x:Value} (h:Den σ E v x) (ok b:Bool):Den σ E (uU ok v b) (if ok then .tuple #[x,.bool b]else x):=by
 cases ok with
 |false=>exact h
 |true=>
  simp only[uU,Den,if_true]
  refine⟨[x,.bool b],rfl,.cons h (.cons ?_ .nil)⟩
  cases b<;>simp [Den]
def z6 (P:Program) (et:TypeId) (agg:Bool) (K:V->Prop):Prop:=
 match (P.info? et).bind (·.zero),oh P 20 et with
 |some z,some ks=>match agg,z with
  |true,.agg cs=>match lJ ks cs.toList with | some vs=>K (.agg vs) | none=>False
  |false,_=>K (ur z)
  |_,_=>False
 |_,_=>False
theorem Mx {P:Program} {et:TypeId} {agg:Bool} {K:V->Prop} (h:z6 P et agg K) (σ:Sg) (E:EH) (W:World):∃ v z,(zeroValue et).run P W= .ok z W/\Den σ E v z/\K v:=by
 unfold z6 at h
 split at h<;>try exact h.elim
 rename_i z ks hz hks
 obtain⟨it,hit,rQ⟩:=lO.1 hz
 have hzero:(zeroValue et).run P W= .ok z W:=by simp [zeroValue,typeInfo,hit,rQ]
 split at h
 ·split at h<;>try exact h.elim
  rename_i vs hvs
  exact⟨_,_,hzero,by simp only[Den];exact⟨_,by simp,zY σ E hvs⟩,h⟩
 ·exact⟨_,_,hzero,O3 σ E _,h⟩
 ·exact h.elim
def iv:D->Int
 | .val (.int _ n)=>n
 |_=>0
def bv:D->Bool
 | .val (.bool b)=>b
 |_=>false
def sv:D->List (List D)
 | .sl _ l=>l
 |_=>[]
def eI (l:ML) (n:List Int) (j:Nat):Int:=match bK l n with | some cs=>iv (cs[j]?.getD (.val (.bool false))) | none=>0
def iQ (l:ML) (n:List Int) (j:Nat):Bool:=match bK l n with | some cs=>bv (cs[j]?.getD (.val (.int γ 0))) | none=>false
def Jq (l:ML) (n:List Int) (j:Nat):List (List D):=match bK l n with | some cs=>sv (cs[j]?.getD (.val (.int γ 0))) | none=>[]
def mS (l:ML) (n:List Int):Bool:=match bK l n with | some _=>true | none=>false
def gN:List CK->List D->Prop
 | [],ds=>ds=[]
 | .int k::ks,ds=>∃ n ds',ds= .val (.int k n)::ds'/\gN ks ds'
 | .bool::ks,ds=>∃ b ds',ds= .val (.bool b)::ds'/\gN ks ds'
 | .sl s::ks,ds=>∃ l ds',ds= .sl s l::ds'/\gN ks ds'
 |_:: _,_=>False
def DV:List CK->Bool
 | []=>true
 | .int _::ks=>DV ks
 | .bool::ks=>DV ks
 | .sl _::ks=>DV ks
 |_:: _=>false
def qU (l:ML) (n:List Int):Nat->List CK->List V
 |_,[]=>[]
 |j,.int k::ks=> .int k (eI l n j)::qU l n (j+1) ks
 |j,.bool::ks=> .sb (iQ l n j)::qU l n (j+1) ks
 |j,.sl s::ks=> .dat (.sl s (Jq l n j))::qU l n (j+1) ks
 |j,_::ks=>qU l n (j+1) ks
def nU:List CK->List Value->Bool
 | [],[]=>true
 | .int k::ks,.int k' n::cs=>decide (k=k') && decide (n=0) && nU ks cs
 | .bool::ks,.bool b::cs=> !b && nU ks cs
 | .sl _::ks,.slice none 0 0::cs=>nU ks cs
 |_,_=>false
theorem WW (σ:Sg) {E:EH} {l:ML} {n:List Int} {cs0:List D} (hm:bK l n=some cs0):∀{ks:List CK} {cs:List D} {j:Nat},(∀ i,cs[i]? =cs0[j+i]?)->gN ks cs->∀{ys:List Value},bh E cs ys->aV σ E (qU l n j ks) ys
 | [],cs,j,hj,hc,ys,hd=>by
  simp only[gN]at hc
  subst hc
  simp only[bh]at hd
  subst hd
  exact .nil
 |k::ks,cs,j,hj,hc,ys,hd=>by
  have next:∀{d:D} {ds':List D} {v:V},cs=d::ds'->gN ks ds'->(∀ x,bX E d x->Den σ E v x)->qU l n j (k::ks)=v::qU l n (j+1) ks->aV σ E (qU l n j (k::ks)) ys:=by
   rintro d ds' v rfl ft hv he
   simp only[bh]at hd
   obtain⟨x,xs,rfl,h1,h2⟩:=hd
   rw[he]
   exact .ju (hv x h1) h1.one (WW σ hm (fun i=>by have:=hj (i+1);rw[show j+1+i=j+(i+1) by omega,<- this];simp) ft h2)
  have h0:=hj 0
  simp only[Nat.add_zero]at h0
  cases k with
  |int kk=>
   simp only[gN]at hc
   obtain⟨m,ds',rfl,ft⟩:=hc
   refine next rfl ft (fun x hx=>?_) rfl
   simp only[bX]at hx
   simp only[Den,hx.1,eI,hm,<- h0]
   rfl
  |bool=>
   simp only[gN]at hc
   obtain⟨m,ds',rfl,ft⟩:=hc
   refine next rfl ft (fun x hx=>?_) rfl
   simp only[bX]at hx
   simp only[Den,hx.1,iQ,hm,<- h0]
   rfl
  |sl s=>
   simp only[gN]at hc
   obtain⟨m,ds',rfl,ft⟩:=hc
   refine next rfl ft (fun x hx=>?_) rfl
   simp only[Den,Jq,hm,<- h0]
   exact hx
  |other=>exact hc.elim
  |arr m z=>exact hc.elim
theorem Eh (σ:Sg) (E:EH) {l:ML} {n:List Int} (hm:bK l n=none):∀{ks:List CK} {cs:List Value} {j:Nat},nU ks cs=true->aV σ E (qU l n j ks) cs
 | [],[],j,_=> .nil
 | [],_:: _,j,h=>by simp [nU]at h
 | .int kk::ks,[],j,h=>by simp [nU]at h
 | .bool::ks,[],j,h=>by simp [nU]at h
 | .sl s::ks,[],j,h=>by simp [nU]at h
 | .other::ks,cs,j,h=>by simp [nU]at h
 | .arr m z::ks,cs,j,h=>by simp [nU]at h
 | .int kk::ks,c::cs,j,h=>by
  cases c<;>simp only[nU,jo,decide_eq_true_eq,Bool.false_eq_true]at h
  obtain⟨⟨rfl,rfl⟩,h⟩:=h
  exact .ju (by simp [Den,eI,hm]) rfl (Eh σ E hm h)
 | .bool::ks,c::cs,j,h=>by
  cases c<;>simp only[nU,jo,mA,Bool.false_eq_true]at h
  obtain⟨rfl,h⟩:=h
  exact .ju (by simp [Den,iQ,hm]) rfl (Eh σ E hm h)
 | .sl s::ks,c::cs,j,h=>by
  unfold nU at h
  split at h
  ·rename_i e _;cases e
  ·rename_i e _;cases e
  ·rename_i e _;cases e
  ·rename_i e1 e2
   cases e1;cases e2
   exact .ju (by simp only[Den,Jq,hm,bX];exact⟨none,0,rfl,ar _,.inl rfl⟩) rfl (Eh σ E hm h)
  ·cases h
def Kb (ok:Bool) (v b:V):V:=match ok with | true=> .φ [v,b] | false=>v
theorem TO {σ:Sg} {E:EH} {v u:V} {x:Value} {b:Bool} (h:Den σ E v x) (hb:Den σ E u (.bool b)) (ok:Bool):Den σ E (Kb ok v u) (if ok then .tuple #[x,.bool b]else x):=by
 cases ok with
 |false=>exact h
 |true=>
  simp only[Kb,Den,if_true]
  exact⟨[x,.bool b],rfl,.cons h (.cons hb .nil)⟩
def aav (P:Program) (t:TypeId):Bool:=match P.underlying t with | some (.func ..)=>true | _=>false
def HK:List D->Option FuncId
 | [.val (.func (.func f) ⟨[]⟩ ⟨[]⟩)]=>some f
 |_=>none
def BP:ML->List Int->(List D->Prop)->Prop->Prop
 | [],_,_,N=>N
 | (a,c)::l,ns,F,N=>(ns=a->F c)/\((ns=a->False)->BP l ns F N)
theorem Pz:∀{l:ML} {ns:List Int} {F:List D->Prop} {N:Prop},BP l ns F N->∀{c:List D},bK l ns=some c->F c
 | [],_,_,_,_,_,h=>by simp [bK]at h
 | (a,c)::l,ns,F,N,h,c',hc=>by
  simp only[bK]at hc
  split at hc
  ·cases hc;rename_i e;exact h.1 e
  ·rename_i e;exact Pz (h.2 e) hc
theorem Py:∀{l:ML} {ns:List Int} {F:List D->Prop} {N:Prop},BP l ns F N->bK l ns=none->N
 | [],_,_,_,h,_=>h
 | (a,c)::l,ns,F,N,h,hc=>by
  simp only[bK]at hc
  split at hc
  ·cases hc
  ·rename_i e;exact Py (h.2 e) hc
theorem aan {c:List D} {f:FuncId} (h:HK c=some f) {E:EH} {ys:List Value} (hd:bh E c ys):ys=[.func (.func f) #[] #[]]:=by
 unfold HK at h
 split at h<;>try (cases h;done)
 cases h
 simp only[bh,bX]at hd
 obtain⟨x,xs,rfl,⟨rfl,_⟩,rfl⟩:=hd
 rfl
def CS (P:Program) (et:TypeId) (agg:Bool) (jL:List CK) (ns:List Int) (ok:Bool) (l:ML) (K:V->Prop):Prop:=
 match DV jL,(P.info? et).bind (·.zero)with
 |true,some z=>match nU jL z.cells.toList,(match z with | .agg _=>agg | _=> !agg)with
  |true,true=>(∀ cs,bK l ns=some cs->gN jL cs)/\qh agg (qU l ns 0 jL) (fun v=>K (Kb ok v (.sb (mS l ns))))
  |_,_=>False
 |_,_=>match aav P et,agg with
  |true,false=>BP l ns (fun c=>match HK c with | some f=>K (uU ok (.fn f []) true) | none=>False) (z6 P et agg (fun v=>K (uU ok v false)))
  |_,_=>(∀ cs,bK l ns=some cs->oo cs 0 jL (fun vs=>qh agg vs (fun v=>K (uU ok v true))))/\(bK l ns=none->z6 P et agg (fun v=>K (uU ok v false)))
def CT (P:Program) (t:TypeId) (m k:V) (ok:Bool) (kb:KB) (K:V->Prop):Prop:=
 match uP P t,yM k with
 |some (kt,et),some (ka,ks,ns)=>
  match p_ P et,oh P 20 et,lV P kt ks ka with
  |some agg,some jL,true=>
   match m with
   | .mp i=>match kb[i]? with
    |some (.mp aD aW mI sz l)=>
     match pS ks aD,(ka == aW),(agg == mI),cX (wk jL) sz with
     |true,true,true,true=>CS P et agg jL ns ok l K
     |_,_,_,_=>False
    |_=>False
   | .imp aD aW mI sz l=>
    match pS ks aD,(ka == aW),(agg == mI),cX (wk jL) sz with
    |true,true,true,true=>CS P et agg jL ns ok l K
    |_,_,_,_=>False
   | .any (.map none)=>z6 P et agg (fun v=>K (uU ok v false))
   |_=>False
  |_,_,_=>False
 |_,_=>False
theorem cM.at {E:EH} {aD:List IntKind} {aW agg:Bool}:∀{es:List MapEntry} {l:ML},cM E aD aW agg es l->∀{j:Nat} {p:List Int×List D},l[j]? =some p->∃ e,es[j]? =some e/\p.1.length=aD.length/\e.key=eF aW (dJ aD p.1)/\∃ ys,e.val=eF agg ys/\bh E p.2 ys
 | [],l,h,j,p,hj=>by simp only[cM]at h;subst h;simp at hj
 |e::es,l,h,j,p,hj=>by
  simp only[cM]at h
  obtain⟨k,c,l',rfl,h1,h2⟩:=h
  cases j with
  |zero=>simp at hj;subst hj;exact⟨e,rfl,h1⟩
  |succ j=>simpa using h2.at (j:=j) (by simpa using hj)
def M8 (P:Program) (E:EH) (W:World) (t:TypeId) (x y:Value) (et:TypeId) (agg:Bool) (n:Nat) (ns:List Int) (ok:Bool) (l:ML):Prop:=
 (bK l ns=none/\∀ z,(zeroValue et).run P W= .ok z W->(Instr.lookup t x y ok).run P W= .ok (if ok then .tuple #[z,.bool false]else z) W)∨
 ∃ c ys,bK l ns=some c/\bh E c ys/\ys.length=n/\(Instr.lookup t x y ok).run P W= .ok (if ok then .tuple #[if agg=true then Value.agg ys.toArray else ys.getD 0 undef,.bool true]else(if agg=true then Value.agg ys.toArray else ys.getD 0 undef)) W
theorem Ja {P:Program} {E:EH} {W:World} {t:TypeId} {x y:Value} {et:TypeId} {agg:Bool} {jL:List CK} {ns:List Int} {ok:Bool} {l:ML} {K:V->Prop} (h:CS P et agg jL ns ok l K) (hr:M8 P E W t x y et agg (wk jL) ns ok l) (σ:Sg):
  ∃ v z,(Instr.lookup t x y ok).run P W= .ok z W/\Den σ E v z/\K v:=by
 unfold CS at h
 split at h
 ·rename_i z ajj hz
  split at h<;>try exact h.elim
  rename_i hzb hza
  obtain⟨Cb,h⟩:=h
  obtain⟨it,hit,rQ⟩:=lO.1 hz
  have hzero:(zeroValue et).run P W= .ok z W:=by simp [zeroValue,typeInfo,hit,rQ]
  rcases hr with ⟨hm,hrun⟩ | ⟨c,ys,p2,hD,j7,hrun⟩
  ·have hh:mS l ns=false:=by simp [mS,hm]
   obtain⟨v,k1,k2,k3⟩:=xu h (Eh σ E hm hzb)
   have hze:(if agg=true then Value.agg z.cells.toList.toArray else z.cells.toList.getD 0 undef)=z:=by
    cases z<;>cases agg<;>simp_all [Value.cells]
   rw[hze]at k2
   exact⟨_,_,hrun z hzero,TO (b:=false) k2 (by simp [Den,hh]) ok,k1⟩
  ·have hh:mS l ns=true:=by simp [mS,p2]
   obtain⟨v,k1,k2,k3⟩:=xu h (WW σ p2 (cs:=c) (j:=0) (fun i=>by rw[c9]) (Cb c p2) hD)
   exact⟨_,_,hrun,TO (b:=true) k2 (by simp [Den,hh]) ok,k1⟩
 split at h
 ·rcases hr with ⟨hm,hrun⟩ | ⟨c,ys,p2,hD,j7,hrun⟩
  ·obtain⟨v,z,z1,z2,z3⟩:=Mx (Py h hm) σ E W
   exact⟨_,_,hrun z z1,zg z2 ok false,z3⟩
  ·have hF:=Pz h p2
   split at hF<;>try exact hF.elim
   rename_i f hf
   have hys:=aan hf hD
   subst hys
   exact⟨_,_,hrun,zg (σ:=σ) (E:=E) (v:=.fn f []) (by simp only[Den];exact⟨[],rfl,.nil⟩) ok true,hF⟩
 rcases hr with ⟨hm,hrun⟩ | ⟨c,ys,p2,hD,j7,hrun⟩
 ·obtain⟨v,z,z1,z2,z3⟩:=Mx (h.2 hm) σ E W
  exact⟨_,_,hrun z z1,zg z2 ok false,z3⟩
 ·obtain⟨vs,xs,hK,hDC,hlen,hxs⟩:=qG (σ:=σ) hD (h.1 c p2)
  obtain⟨v,k1,k2,k3⟩:=xu hK hDC
  have aaO:ys=xs:=by
   apply mb
   intro q
   rcases kx q xs.length with hq | hq
   ·rw[bu hq]
    have:=hxs q _ (bu hq)
    simpa using this
   ·rw[iE hq,iE (by omega)]
  subst aaO
  exact⟨_,_,hrun,zg k2 ok true,k1⟩
theorem R_ {P:Program} {E:EH} {W:World} {t kt et:TypeId} {y:Value} {ka agg:Bool} {ks:List IntKind} {n:Nat} {ns:List Int} {ok:Bool} {l:ML} (ht:P.underlying t=some (.map kt et)) (hkb:lV P kt ks ka=true) (hnl:ns.length=ks.length) (hy:y=eF ka (dJ ks ns))
  {b:Nat} {es:Array MapEntry} {ck:Nat} (g1:W.heap[b]? =some (.map es ck)) (g2:cM E ks ka agg es.toList l) (hw:wl n (l.map (·.2))):M8 P E W t (.map (some b)) y et agg n ns ok l:=by
 subst hy
 have fV:(getObj b).run P W= .ok (.map es ck) W:=by simp [getObj,Sem.run,g1]
 rcases HC hkb hnl W g2 with ⟨q1,q2⟩ | ⟨j,c,e,q1,q2,q3,q4⟩
 ·refine .inl ⟨(C1 q1).1,fun z hz=>?_⟩
  unfold Instr.lookup
  simp [run_underlying ht,fV,run_checkKey hkb hnl,q2,hz]
 ·obtain⟨c',p1,p2,_,_⟩:=C2 q1
  rw[q2]at p1;cases p1
  obtain⟨e',he',_,_,ys,hv,hD⟩:=g2.at q2
  rw[q3]at he';cases he'
  refine .inr ⟨c,ys,p2,hD,by rw[hD.len];exact hw c (dO.2 ⟨_,fF q2,rfl⟩),?_⟩
  have hv:e.val=if agg=true then Value.agg ys.toArray else ys.getD 0 undef:=hv
  rw[<- hv]
  unfold Instr.lookup
  simp [run_underlying ht,fV,run_checkKey hkb hnl,q4]
theorem UZ {P:Program} {kt:TypeId} {ka:Bool} {ks:List IntKind} {ns:List Int} {W:World} (hkb:lV P kt ks ka=true):(Instr.findKey kt (eF ka (dJ ks ns)) []).run P W= .ok none W:=by
 have hkb':=hkb
 cases ka<;>simp only[lV]at hkb'<;>split at hkb'<;>(try (cases hkb';done))<;>(rename_i hu;simp [Instr.findKey,run_underlying hu,Instr.findNow])
theorem Sb {P:Program} {t:TypeId} {m k:V} {ok:Bool} {kb:KB} {K:V->Prop} (h:CT P t m k ok kb K) {σ:Sg} {E:EH} {W:World} (hi:Inv σ E kb W) {x y:Value} (hx:Den σ E m x) (hy:Den σ E k y):
  ∃ v z,(Instr.lookup t x y ok).run P W= .ok z W/\Den σ E v z/\K v:=by
 unfold CT at h
 split at h<;>try exact h.elim
 rename_i kt et ka ks ns ht hk
 have h1:=CW ht
 obtain⟨hnl,rfl⟩:=I0 hk hy
 split at h<;>try exact h.elim
 rename_i agg jL ha ajf hkb
 split at h<;>try exact h.elim
 ·rename_i i
  split at h<;>try exact h.elim
  rename_i aD aW mI sz l hl
  split at h<;>try exact h.elim
  rename_i c1 c2 c3 c4
  have e1:=yN c1
  have e2:ka=aW:=by simpa using c2
  have e3:agg=mI:=by simpa using c3
  have e4:=de c4
  subst e1;subst e2;subst e3;subst e4
  simp only[Den]at hx
  obtain⟨r,hr,rfl⟩:=hx
  obtain⟨hw,es,ck,g1,g2,_⟩:=hi.obj i r _ hr hl
  exact Ja h (R_ h1 hkb hnl rfl g1 g2 hw) σ
 ·rename_i aD aW mI sz l
  split at h<;>try exact h.elim
  rename_i c1 c2 c3 c4
  have e1:=yN c1
  have e2:ka=aW:=by simpa using c2
  have e3:agg=mI:=by simpa using c3
  have e4:=de c4
  subst e1;subst e2;subst e3;subst e4
  simp only[Den]at hx
  obtain⟨a,rfl,hx⟩:=hx
  cases a with
  |none=>
   have hx:l=[]:=hx
   subst hx
   refine Ja h (.inl ⟨rfl,fun z hz=>?_⟩) σ
   unfold Instr.lookup
   simp [run_underlying h1,run_checkKey hkb hnl,UZ hkb,hz]
  |some b=>
   obtain⟨hw,es,ck,g1,g2,_⟩:=hx
   exact Ja h (R_ h1 hkb hnl rfl (hi.fe b _ g1) g2 hw) σ
 ·simp only[Den]at hx
  subst hx
  obtain⟨v,z,z1,z2,z3⟩:=Mx h σ E W
  refine⟨_,_,?_,zg z2 ok false,z3⟩
  unfold Instr.lookup
  simp [run_underlying h1,run_checkKey hkb hnl,UZ hkb,z1]
def Ee (P:Program) (t:TypeId) (m k v:V) (kb:KB) (K:KB->Prop):Prop:=
 match uP P t,yM k,m with
 |some (kt,et),some (ka,ks,ns),.mp i=>
  match p_ P et,fX P et,lV P kt ks ka with
  |some agg,some n,true=>match agg,v with
   |true,.agg _=>cellsD P et v kb (fun ds kb=>match kb[i]? with
    |some (.mp aD aW mI sz l)=>match pS ks aD,(ka == aW),mI,cX n sz with
     |true,true,true,true=>K (kb.set i (.mp aD aW mI sz (bI l ns ds)))
     |_,_,_,_=>False
    |_=>False)
   |false,.agg _=>False
   |false,_=>cellsD P et v kb (fun ds kb=>match kb[i]? with
    |some (.mp aD aW mI sz l)=>match pS ks aD,(ka == aW),mI,cX n sz with
     |true,true,false,true=>K (kb.set i (.mp aD aW mI sz (bI l ns ds)))
     |_,_,_,_=>False
    |_=>False)
   |_,_=>False
  |_,_,_=>False
 |_,_,_=>False
theorem ai_ {sz:Nat} {l:ML} (h:wl sz (l.map (·.2))) {n:List Int} {xs:List D} (h1:xs.length=sz):wl sz ((bI l n xs).map (·.2)):=by
 induction l with
 |nil=>intro e he;simp [bI]at he;subst he;exact h1
 |cons p l ih=>
  obtain⟨a,c⟩:=p
  have ht:wl sz (l.map (·.2)):=fun e he=>h e (gn _ he)
  intro e he
  simp only[bI]at he
  split at he
  ·simp only[kv,dS]at he
   rcases he with rfl | he
   ·exact h1
   ·exact ht e he
  ·simp only[kv,dS]at he
   rcases he with rfl | he
   ·exact h _ (by simp)
   ·exact ih ht e he
theorem cM.push {E:EH} {aD:List IntKind} {aW agg:Bool}:∀{es:List MapEntry} {l:ML},cM E aD aW agg es l->∀{e:MapEntry} {k:List Int} {c:List D},(k.length=aD.length/\e.key=eF aW (dJ aD k)/\∃ ys,e.val=eF agg ys/\bh E c ys)->cM E aD aW agg (es++[e]) (l++[(k,c)])
 | [],l,h,e,k,c,he=>by
  simp only[cM]at h;subst h
  simp only[jr,cM]
  exact⟨k,c,[],rfl,he,rfl⟩
 |e'::es,l,h,e,k,c,he=>by
  simp only[cM]at h
  obtain⟨k',c',l',rfl,h1,h2⟩:=h
  simp only[List.cons_append,cM]
  exact⟨k',c',_,rfl,h1,h2.push he⟩
theorem cM.set {E:EH} {aD:List IntKind} {aW agg:Bool}:∀{es:List MapEntry} {l:ML},cM E aD aW agg es l->∀(j:Nat) {e:MapEntry} {k:List Int} {c:List D},(k.length=aD.length/\e.key=eF aW (dJ aD k)/\∃ ys,e.val=eF agg ys/\bh E c ys)->cM E aD aW agg (es.set j e) (l.set j (k,c))
 | [],l,h,j,e,k,c,he=>by simp only[cM]at h;subst h;simp [cM]
 |e'::es,l,h,j,e,k,c,he=>by
  simp only[cM]at h
  obtain⟨k',c',l',rfl,h1,h2⟩:=h
  cases j with
  |zero=>simp only[List.set_cons_zero,cM];exact⟨k,c,l',rfl,he,h2⟩
  |succ j=>simp only[List.set_cons_succ,cM];exact⟨k',c',_,rfl,h1,h2.set j he⟩
theorem cM.erase {E:EH} {aD:List IntKind} {aW agg:Bool}:∀{es:List MapEntry} {l:ML},cM E aD aW agg es l->∀(j:Nat),cM E aD aW agg (es.eraseIdx j) (l.eraseIdx j)
 | [],l,h,j=>by simp only[cM]at h;subst h;simp [cM]
 |e'::es,l,h,j=>by
  simp only[cM]at h
  obtain⟨k',c',l',rfl,h1,h2⟩:=h
  cases j with
  |zero=>simpa using h2
  |succ j=>simp only[List.eraseIdx_cons_succ,cM];exact⟨k',c',_,rfl,h1,h2.erase j⟩
theorem afz (aW:Bool) (aD:List IntKind) (k:List Int) (h:k.length=aD.length) (hc:aW=false->aD.length=1):Instr.sameBits 10000 (eF aW (dJ aD k)) (eF aW (dJ aD k))=true:=by
 cases aW with
 |false=>
  match aD,k,hc rfl,h with
  | [kk],[a],_,_=>simp [eF,dJ,Instr.sameBits]
 |true=>
  simp only[eF,if_true]
  show Instr.sameBits (9999+1) _ _=true
  simp only[Instr.sameBits,beq_self_eq_true,Bool.true_and]
  clear hc
  unfold dJ
  induction aD generalizing k with
  |nil=>simp
  |cons kk aD ih=>
   match k,h with
   |a::k,h=>
    have:=ih k (by simpa using h)
    simp only[List.zipWith_cons_cons,List.zip_cons_cons,List.all_cons]
    rw[jo]
    refine⟨?_,this⟩
    show Instr.sameBits (9998+1) _ _=true
    simp [Instr.sameBits]
theorem afv {P:Program} {t kt et:TypeId} {aD:List IntKind} {aW:Bool} (h1:P.underlying t=some (.map kt et)) (hkb:lV P kt aD aW=true) {E:EH} {W:World} {b:Nat} {es:Array MapEntry} {ck:Nat} {agg:Bool} {l:ML}
  (g1:W.heap[b]? =some (.map es ck)) (g2:cM E aD aW agg es.toList l) (g3:tW es.toList ck) {n:List Int} (hn:n.length=aD.length) {x:Value} {ds:List D} {ys:List Value} (hx:x=eF agg ys) (hD:bh E ds ys):
  ∃ es' Bw,(Instr.mapUpdate t (.map (some b)) (eF aW (dJ aD n)) x).run P W= .ok () {W with heap:=W.heap.setIfInBounds b (.map es' Bw) }/\cM E aD aW agg es'.toList (bI l n ds)/\tW es'.toList Bw:=by
 have fV:(getObj b).run P W= .ok (.map es ck) W:=by simp [getObj,Sem.run,g1]
 have rN:∀ o,(setObj b o).run P W= .ok () {W with heap:=W.heap.setIfInBounds b o }:=fun o=>by simp [setObj,Sem.run,g1]
 rcases HC hkb hn W g2 with ⟨q1,q2⟩ | ⟨j,c,e,q1,q2,q3,q4⟩
 ·refine⟨es.push {key:=eF aW (dJ aD n),val:=x,born:=ck },ck+1,?_,?_,?_⟩
  ·unfold Instr.mapUpdate
   simp [run_underlying h1,fV,run_checkKey hkb hn,q2,rN]
  ·rw[(C1 q1).2.1]
   simp only[Array.toList_push]
   exact g2.push ⟨hn,rfl,ys,hx,hD⟩
  ·simp only[Array.toList_push]
   constructor
   ·rw[ja]
    simp only[kv,List.map_nil]
    rw[List.nodup_append]
    refine⟨g3.1,by simp,fun a ha b hb=>?_⟩
    simp at hb
    obtain⟨e',he',rfl⟩:=dO.1 ha
    have:=g3.2 e' he'
    omega
   ·intro e' he'
    rcases dz.1 he' with h | h
    ·have:=g3.2 e' h;omega
    ·simp at h;subst h;simp
 ·obtain⟨c',p1,p2,p3,_⟩:=C2 q1
  rw[q2]at p1;cases p1
  obtain⟨e',he',_,hkey,_⟩:=g2.at q2
  rw[q3]at he';cases he'
  have hj:j<es.size:=by
   have:=(bH.1 q3).1
   simpa using this
  have Q0:es[j]=e:=by
   have:=q3
   rw[Array.getElem?_toList,Array.getElem?_eq_getElem hj]at this
   exact bb.inj this
  have hsame:=afz aW aD n hn (fun hf=>by
   subst hf
   have hkb':=hkb
   simp only[lV]at hkb'
   split at hkb'<;>try (cases hkb';done)
   rfl)
  refine⟨es.modify j fun e=>{e with key:=eF aW (dJ aD n),val:=x },ck,?_,?_,?_⟩
  ·unfold Instr.mapUpdate
   simp [run_underlying h1,fV,run_checkKey hkb hn,q4,rN,hj,Q0,hkey,Instr.keyThatStays,hsame]
  ·rw[p3]
   have:(es.modify j fun e=>{e with key:=eF aW (dJ aD n),val:=x }).toList=es.toList.set j {e with key:=eF aW (dJ aD n),val:=x }:=by
    apply mb
    intro q
    simp only[Array.getElem?_toList,Array.getElem?_modify,List.getElem?_set]
    by_cases hjq:j=q
    ·subst hjq
     simp [hj,Q0]
    ·simp [hjq]
   rw[this]
   exact g2.set j ⟨hn,rfl,ys,hx,hD⟩
  ·have hb:(es.modify j fun e=>{e with key:=eF aW (dJ aD n),val:=x }).toList.map (·.born)=es.toList.map (·.born):=by
    apply mb
    intro q
    simp only[fy,Array.getElem?_toList,Array.getElem?_modify]
    by_cases hjq:j=q
    ·subst hjq;simp [hj]
    ·simp [hjq]
   refine⟨by rw[hb];exact g3.1,fun e' he'=>?_⟩
   have:e'.born∈es.toList.map (·.born):=by rw[<- hb];exact dO.2 ⟨e',he',rfl⟩
   obtain⟨e2,h2,h3⟩:=dO.1 this
   rw[<- h3];exact g3.2 e2 h2
theorem Zj {P:Program} {t:TypeId} {v:V} {kb:KB} {K:List D->KB->Prop} (h:cellsD P t v kb K) (hna:∀ vs,v≠.agg vs):V.one v=true:=by
 unfold cellsD at h
 split at h<;>try exact h.elim
 split at h<;>try exact h.elim
 split at h
 ·exact(hna _ rfl).elim
 ·split at h<;>try exact h.elim
  split at h<;>try exact h.elim
  rename_i h1 _
  exact h1
theorem WG {P:Program} {t:TypeId} {m k v:V} {kb:KB} {K:KB->Prop} (h:Ee P t m k v kb K) {σ:Sg} {E:EH} {W:World} (hi:Inv σ E kb W) {x y z:Value} (hx:Den σ E m x) (hy:Den σ E k y) (hz:Den σ E v z):
  ∃ E' kb' W',(Instr.mapUpdate t x y z).run P W= .ok () W'/\Step σ E kb W σ E' kb' W'/\K kb':=by
 unfold Ee at h
 split at h<;>try exact h.elim
 rename_i kt et ka ks ns i ht hk
 have h1:=CW ht
 obtain⟨hnl,rfl⟩:=I0 hk hy
 split at h<;>try exact h.elim
 rename_i agg n ha hn hkb
 simp only[Den]at hx
 obtain⟨r,hr,rfl⟩:=hx
 have main:∀{E1:EH} {fu:KB} {ds:List D} {xs:List Value} {aD:List IntKind} {aW:Bool} {sz:Nat} {l:ML},Step σ E kb W σ E1 fu W->bh E1 ds xs->fX P et=some xs.length->fu[i]? =some (.mp aD aW agg sz l)->
   pS ks aD=true->(ka == aW)=true->cX n sz=true->z=eF agg xs->K (fu.set i (.mp aD aW agg sz (bI l ns ds)))->
   ∃ E' kb' W',(Instr.mapUpdate t (.map (some r.blk)) (eF ka (dJ ks ns)) z).run P W= .ok () W'/\Step σ E kb W σ E' kb' W'/\K kb':=by
  intro E1 fu ds xs aD aW sz l s1 hD mj hl c1 c2 c3 uK hK
  have e1:=yN c1
  have e2:ka=aW:=by simpa using c2
  have e3:=de c3
  subst e1;subst e2;subst e3
  obtain⟨hw,es,ck,g1,g2,g3⟩:=s1.inv.obj i r _ hr hl
  obtain⟨es',Bw,q1,q2,q3⟩:=afv h1 hkb g1 g2 g3 hnl uK hD
  have hlt:r.blk<W.heap.size:=(Array.getElem?_eq_some_iff.1 g1).1
  rw[hn]at mj
  have mj:=bb.inj mj
  refine⟨_,_,_,q1,s1.trans (s1.inv.set (o':=.mp ks ka agg n (bI l ns ds)) hr hl rfl rfl rfl (by simp) (fun b hb=>?_) (fun b hb=>hb) ⟨ai_ hw (by have:=hD.len;omega),es',Bw,?_,q2,q3⟩),hK⟩
  ·simp only[owned]at hb
   show(W.heap.setIfInBounds r.blk _)[b]? =_
   rw[Array.getElem?_setIfInBounds_ne (fun e=>hb e.symm)]
  ·show(W.heap.setIfInBounds r.blk _)[r.blk]? =_
   simp [hlt]
 split at h<;>try exact h.elim
 ·obtain⟨E1,fu,ds,xs,s1,hc,hD,h,mj⟩:=yb h hi hz
  split at h<;>try exact h.elim
  rename_i aD aW mI sz l hl
  split at h<;>try exact h.elim
  rename_i c1 c2 c3
  simp only[Den]at hz
  obtain⟨us,rfl,_⟩:=hz
  simp only[Value.cells]at hc
  exact main s1 hD mj hl c1 c2 c3 (by simp [eF,hc]) h
 ·rename_i hna
  have h0:=h
  obtain⟨E1,fu,ds,xs,s1,hc,hD,h,mj⟩:=yb h hi hz
  split at h<;>try exact h.elim
  rename_i aD aW mI sz l hl
  split at h<;>try exact h.elim
  rename_i c1 c2 c3
  have hone:z.oneCell'=true:=one_den (Zj h0 hna) hz
  have hxz:xs=[z]:=by
   have rQ:z.cells=#[z]:=by cases z<;>simp_all [Value.cells,mH]
   rw[rQ]at hc
   have:=congrArg Array.toList hc
   simpa using this.symm
  exact main s1 hD mj hl c1 c2 c3 (by simp [eF,hxz]) h
def GX (P:Program) (t:TypeId) (m k:V) (kb:KB) (K:KB->Prop):Prop:=
 match uP P t,yM k,m with
 |some (kt,et),some (ka,ks,ns),.mp i=>match lV P kt ks ka,kb[i]? with
  |true,some (.mp aD aW agg sz l)=>match pS ks aD,(ka == aW)with
   |true,true=>K (kb.set i (.mp aD aW agg sz (o0 l ns)))
   |_,_=>False
  |_,_=>False
 |_,_,_=>False
theorem ai9 {sz:Nat} {l:ML} (h:wl sz (l.map (·.2))) {n:List Int}:wl sz ((o0 l n).map (·.2)):=by
 induction l with
 |nil=>exact h
 |cons p l ih=>
  obtain⟨a,c⟩:=p
  have ht:wl sz (l.map (·.2)):=fun e he=>h e (gn _ he)
  simp only[o0]
  split
  ·exact ht
  ·intro e he
   simp only[kv,dS]at he
   rcases he with rfl | he
   ·exact h _ (by simp)
   ·exact ih ht e he
theorem ZN {P:Program} {t:TypeId} {m k:V} {kb:KB} {K:KB->Prop} (h:GX P t m k kb K) {σ:Sg} {E:EH} {W:World} (hi:Inv σ E kb W) {x y:Value} (hx:Den σ E m x) (hy:Den σ E k y) (u ty:TypeId):
  ∃ kb' W',(Builtin.delete_ #[t,u] ty #[x,y]).run P W= .ok (.tuple #[]) W'/\Step σ E kb W σ E kb' W'/\K kb':=by
 unfold GX at h
 split at h<;>try exact h.elim
 rename_i kt et ka ks ns i ht hk
 have h1:=CW ht
 obtain⟨hnl,rfl⟩:=I0 hk hy
 split at h<;>try exact h.elim
 rename_i aD aW agg sz l hkb hl
 split at h<;>try exact h.elim
 rename_i c1 c2
 have e1:=yN c1
 have e2:ka=aW:=by simpa using c2
 subst e1;subst e2
 simp only[Den]at hx
 obtain⟨r,hr,rfl⟩:=hx
 obtain⟨hw,es,ck,g1,g2,g3⟩:=hi.obj i r _ hr hl
 have fV:(getObj r.blk).run P W= .ok (.map es ck) W:=by simp [getObj,Sem.run,g1]
 have rN:∀ o,(setObj r.blk o).run P W= .ok () {W with heap:=W.heap.setIfInBounds r.blk o }:=fun o=>by simp [setObj,Sem.run,g1]
 have hlt:r.blk<W.heap.size:=(Array.getElem?_eq_some_iff.1 g1).1
 have hst:∀{es':Array MapEntry},cM E ks ka agg es'.toList (o0 l ns)->tW es'.toList ck->Step σ E kb W σ E (kb.set i (.mp ks ka agg sz (o0 l ns))) {W with heap:=W.heap.setIfInBounds r.blk (.map es' ck) }:=by
  intro es' q2 q3
  refine hi.set (o':=.mp ks ka agg sz (o0 l ns)) hr hl rfl rfl rfl (by simp) (fun b hb=>?_) (fun b hb=>hb) ⟨ai9 hw,es',ck,?_,q2,q3⟩
  ·simp only[owned]at hb
   show(W.heap.setIfInBounds r.blk _)[b]? =_
   rw[Array.getElem?_setIfInBounds_ne (fun e=>hb e.symm)]
  ·show(W.heap.setIfInBounds r.blk _)[r.blk]? =_
   simp [hlt]
 rcases HC hkb hnl W g2 with ⟨q1,q2⟩ | ⟨j,c,e,q1,q2,q3,q4⟩
 ·refine⟨_,_,?_,hst (es':=es) (by rw[(C1 q1).2.2];exact g2) g3,h⟩
  simp [Builtin.delete_,run_underlying h1,fV,run_checkKey hkb hnl,q2,rN]
 ·obtain⟨c',p1,p2,_,p4⟩:=C2 q1
  have hj:j<es.size:=by
   have:=(bH.1 q3).1
   simpa using this
  have he:(es.eraseIdxIfInBounds j).toList=es.toList.eraseIdx j:=by
   simp [Array.eraseIdxIfInBounds,hj]
  refine⟨_,_,?_,hst (es':=es.eraseIdxIfInBounds j) (by rw[he,p4];exact g2.erase j) ?_,h⟩
  ·simp [Builtin.delete_,run_underlying h1,fV,run_checkKey hkb hnl,q4,rN]
  ·rw[he]
   refine⟨?_,fun e' he'=>g3.2 e' (List.mem_of_mem_eraseIdx he')⟩
   exact List.Nodup.sublist (List.Sublist.map _ (List.eraseIdx_sublist _ _)) g3.1
def Jl (P:Program) (t:TypeId) (m:V) (kb:KB) (K:V->Prop):Prop:=
 match uP P t with
 |some _=>match m with
  | .mp i=>match kb[i]? with
   |some (.mp _ _ _ _ l)=>K (.int γ (l.length:Int))
   |_=>False
  | .imp _ _ _ _ l=>K (.int γ (l.length:Int))
  | .any (.map none)=>K (.lit γ 0)
  |_=>False
 |none=>False
theorem ab4 {P:Program} {t:TypeId} {m:V} {kb:KB} {K:V->Prop} (h:Jl P t m kb K) {σ:Sg} {E:EH} {W:World} (hi:Inv σ E kb W) {x:Value} (hx:Den σ E m x) (ty:TypeId):
  ∃ v z,(Builtin.len_ #[t] ty #[x]).run P W= .ok z W/\Den σ E v z/\K v:=by
 unfold Jl at h
 split at h<;>try exact h.elim
 rename_i q ht
 obtain⟨kt,et⟩:=q
 have h1:=CW ht
 split at h<;>try exact h.elim
 ·rename_i i
  split at h<;>try exact h.elim
  rename_i aD aW agg sz l hl
  simp only[Den]at hx
  obtain⟨r,hr,rfl⟩:=hx
  obtain⟨hw,es,ck,g1,g2,_⟩:=hi.obj i r _ hr hl
  have fV:(getObj r.blk).run P W= .ok (.map es ck) W:=by simp [getObj,Sem.run,g1]
  have:=g2.len
  exact⟨_,_,by simp [Builtin.len_,run_underlying h1,fV];rfl,by simp only[Den,goInt];rw[show es.size=l.length by simpa using this],h⟩
 ·rename_i aD aW agg sz l
  simp only[Den]at hx
  obtain⟨a,rfl,hx⟩:=hx
  cases a with
  |none=>
   have hx:l=[]:=hx
   subst hx
   exact⟨_,_,by simp [Builtin.len_,run_underlying h1];rfl,by simp [Den,goInt],h⟩
  |some b=>
   obtain⟨hw,es,ck,g1,g2,_⟩:=hx
   have g1:=hi.fe b _ g1
   have fV:(getObj b).run P W= .ok (.map es ck) W:=by simp [getObj,Sem.run,g1]
   have:=g2.len
   exact⟨_,_,by simp [Builtin.len_,run_underlying h1,fV];rfl,by simp only[Den,goInt];rw[show es.size=l.length by simpa using this],h⟩
 ·simp only[Den]at hx
  subst hx
  exact⟨_,_,by simp [Builtin.len_,run_underlying h1];rfl,by simp [Den,goInt],h⟩
def N0:List CK->Option (List IntKind)
 | []=>some []
 | .int k::ks=>match N0 ks with | some r=>some (k::r) | none=>none
 |_=>none
def Jj (P:Program) (t:TypeId) (kb:KB) (K:V->KB->Prop):Prop:=
 match uP P t with
 |some (kt,et)=>match (oh P 20 kt).bind N0,p_ P kt,p_ P et,(oh P 20 et)with
  |some ks,some ka,some agg,some jL=>K (.mp kb.length) (kb++[.mp ks ka agg (wk jL) []])
  |_,_,_,_=>False
 |none=>False
theorem ab2 {P:Program} {t:TypeId} {kb:KB} {K:V->KB->Prop} (h:Jj P t kb K) {σ:Sg} {E:EH} {W:World} (hi:Inv σ E kb W):
  ∃ v x σ' kb' W',(Instr.makeMap t none).run P W= .ok x W'/\Step σ E kb W σ' E kb' W'/\Den σ' E v x/\K v kb':=by
 unfold Jj at h
 split at h<;>try exact h.elim
 rename_i kt et ht
 split at h<;>try exact h.elim
 rename_i ks ka agg jL _ _ _ _
 refine⟨_,.map (some W.heap.size),_,_,W.alloc (.map #[] 0),by simp [Instr.makeMap],hi.alloc (.map #[] 0) ⟨W.heap.size,0,0⟩ (.mp ks ka agg (wk jL) []) (fun b hb=>hb) ⟨wl.nil,#[],0,?_,by simp [cM],⟨by simp,by simp⟩⟩,?_,h⟩
 ·show(W.heap.push _)[W.heap.size]? =_
  simp
 ·simp only[Den]
  exact⟨⟨W.heap.size,0,0⟩,by rw[<- hi.len];simp,rfl⟩
def wB (P:Program) (t:TypeId):Bool:=match P.underlying t with | some (.map _ _)=>true | _=>false
end Vc
