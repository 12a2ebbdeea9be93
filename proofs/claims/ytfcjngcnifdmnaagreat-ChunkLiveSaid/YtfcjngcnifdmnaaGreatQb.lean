import Derived.Test.YtfcjngcnifdmnaaGreatQa
import Derived.Deep.LoopGhost
import Derived.Scope
import Derived.RangeFuncIn
import Derived.RangeFuncSeq
import Derived.OrdersIn
import Derived.TacticsIn
set_option linter.unusedSimpArgs false
set_option linter.unusedVariables false
namespace Vc
open Go
open Go.IntKind renaming i64->γ,u8->ξ,u32->iM
open Go.Value renaming int->ν,map->kT,bool->mG,oneCell'->mH
open List renaming map->ae,drop->ax,take->ay,length_append->bn,getElem?_eq_getElem->bu,getElem?_eq_some_iff->bH,length_map->bT,take_length->cQ,length_take->cW,mem_singleton->da,replicate->dv,mem_append->dz,mem_map->dO,mem_cons->dS,Mem->dW,append_assoc->dX,getElem?_append_left->dY,take_of_length_le->eQ,getElem?_append_right->fk,getElem?_map->fy,mem_of_getElem?->fF,length_drop->gm,mem_cons_of_mem->gn,append_nil->gz,length_cons->gA,getD_eq_getElem?_getD->gO,getElem?_set_ne->gP,mem_append_left->gQ,length_singleton->gZ,drop_zero->iD,getElem?_eq_none->iE,getElem?_take_of_lt->iF,length_set->iG,getElem?_set_self->iN,mem_cons_self->iV,map_append->ja,range->jb,nil_append->jr,take_add_one->jt,flatten_cons->jF,getElem?_of_mem->jG,getElem?_drop->jW,map_cons->kv,length_nil->kP,mem_append_right->kQ,mem_filter->lu,ext_getElem?->mb,eq_nil_of_length_eq_zero->mD
open Nat renaming le_refl->ar,zero_le->bj,beq->cX,zero_add->c9,eq_of_beq_eq_true->de,add_assoc->g_,lor->iW,lt_or_ge->kx,sub_zero->ly,le_trans->mc
open Option renaming some->bb,bind_eq_some_iff->lO,map->ng
open Int renaming toNat_natCast->cN,le_refl->dE
open Bool renaming and_eq_true->jo,not_eq_false'->kr,not_eq_true'->mA
theorem P0 {sz:Nat} {l xs:List (List D)} (hl:wl sz l) (hx:wl sz xs) {lo:Nat} (h:lo+xs.length<=l.length):(splice l lo xs).flatten=splice l.flatten (lo*sz) xs.flatten:=by
 unfold splice
 rw[List.flatten_append,List.flatten_append,yu hl,yt hl,pD hx,Nat.add_mul]
theorem Xe {sz:Nat} {l xs:List (List D)} (hl:wl sz l) (hx:wl sz xs) (lo:Nat):wl sz (splice l lo xs):=((hl.take lo).append hx).append (hl.drop _)
def GQ (P:Program) (t:TypeId) (d x:V) (kb:KB) (K:V->KB->Prop):Prop:=
 match P.underlying t,tO kb x with
 |some (.slice elem),some (sz,p,xs)=>match fX P elem with
  |some s=>match zD s sz with
   |true=>match d with
    | .sl i lo hi=>match kb[i]? with
     |some (.row ty sz' l)=>match cX sz' s with
      |true=>p/\hi<=l.length/\K (.int γ ((min xs.length (hi - lo):Nat):Int)) (kb.set i (.row ty sz' (splice l lo (xs.take (hi - lo)))))
      |false=>False
     |_=>False
    | .sa i base o s' n c=>match kb[i]?,cX s 1 with
     |some (.cells l),true=>match jm l base with
      |some (.arr m cs)=>match jC l base [.arr m (splice cs o (xs.take n).flatten)]with
       |some l'=>p/\o+n<=m/\K (.int γ ((min xs.length n:Nat):Int)) (kb.set i (.cells l'))
       |none=>False
      |_=>False
     |_,_=>False
    | .se i ix o s' n c=>match kb[i]?,cX s 1 with
     |some (.row ty sz' l),true=>p/\∃ e,l[ix]? =some e/\o+n<=sz'/\K (.int γ ((min xs.length n:Nat):Int)) (kb.set i (.row ty sz' (l.set ix (splice e o (xs.take n).flatten))))
     |_,_=>False
    |_=>False
   |false=>False
  |none=>False
 |_,_=>False
theorem DO {P:Program} {xs:List Value} (h1:∀ y∈xs,y.oneCell'=true) {W:World} {b o:Nat} {arr:Array Value} {ty:TypeId} (hb:W.heap[b]? =some (.cells arr ty (0,0))) (hl:o+xs.length<=arr.size):
  (storeCells ⟨b,o,none⟩ xs).run P W= .ok () (W.setRow b (splice arr.toList o xs).toArray):=by
 have hs:=run_storeCells_at P b o ty xs 0 arr W hb (by simpa using hl) h1
 simp only[Nat.add_zero]at hs
 simpa [splice]using hs
theorem aex {σ:Sg} {E:EH} {kb:KB} {W:World} (hi:Inv σ E kb W) {i:Nat} {r:Re} {l l':List V} (hr:σ[i]? =some r) (hl:kb[i]? =some (.cells l)) {base m o:Nat} {cs ds:List D} (hp:jm l base=some (.arr m cs))
  {xs:List Value} (hD:bh E ds xs) (hle:o+ds.length<=m) (hl':jC l base [.arr m (splice cs o ds)]=some l'):
  ∃ arr ty,W.heap[r.blk]? =some (.cells arr ty (0,0))/\base+o+xs.length<=arr.size/\Step σ E kb W σ E (kb.set i (.cells l')) (W.setRow r.blk (splice arr.toList (base+o) xs).toArray):=by
 obtain⟨arr,ty,g1,g2⟩:=hi.obj i r _ hr hl
 obtain⟨ys,p1,p2,p3,p4⟩:=Dp hp g2
 have hdl:=hD.len
 have j7:=p1.len
 have j6:(splice cs o ds).length=m:=by rw[mW (by omega),p2]
 obtain⟨g3,g4⟩:=u7 hl' g2 (.cons (.inr ⟨m,_,rfl,j6,p1.splice hD o⟩) .nil)
 have he:splice arr.toList base (splice ys o xs++[])=splice arr.toList (base+o) xs:=by
  rw[gz,<- p4]
  exact Vz p3 (by omega)
 rw[he]at g3
 have hst:Step σ E kb W σ E (kb.set i (.cells l')) (W.setRow r.blk (splice arr.toList (base+o) xs).toArray):=
  DT hi hr hl _ (fun b=>Iff.rfl) (fun b hb=>hb) ⟨_,ty,setRow_heap W r.blk arr _ ty (0,0) g1,by simpa using g3⟩
 simp only[Array.length_toList]at p3
 exact⟨arr,ty,g1,by omega,hst⟩
theorem Zy {P:Program} {t:TypeId} {d x:V} {kb:KB} {K:V->KB->Prop} (h:GQ P t d x kb K) {σ:Sg} {E:EH} {W:World} (hi:Inv σ E kb W) {a y:Value} (hd:Den σ E d a) (hy:Den σ E x y) (u ty:TypeId):
  ∃ v z kb' W',(Builtin.copy_ #[t,u] ty #[a,y]).run P W= .ok z W'/\Step σ E kb W σ E kb' W'/\Den σ E v z/\K v kb':=by
 unfold GQ at h
 split at h<;>try exact h.elim
 rename_i elem sz p xs ht hsrc
 split at h<;>try exact h.elim
 rename_i s hs
 split at h<;>try exact h.elim
 rename_i hfit
 split at h<;>try exact h.elim
 ·rename_i i lo hi'
  split at h<;>try exact h.elim
  rename_i ty' sz' l hl
  split at h<;>try exact h.elim
  rename_i hb
  have hsz:=de hb
  subst hsz
  obtain⟨hp,hle,hK⟩:=h
  have hE:=u9 hsrc hp hi hy hfit
  simp only[Den]at hd
  obtain⟨r,ad,hr,rfl,g1,g2,g3⟩:=hd
  obtain⟨ys,c1,_,c3⟩:=hE.first (P:=P) (min xs.length (hi' - lo)) (Nat.min_le_left _ _)
  have e0:xs.take (min xs.length (hi' - lo))=xs.take (hi' - lo):=by
   rw[Nat.min_comm]
   exact List.take_eq_take_min.symm
  rw[e0]at c3
  obtain⟨k1,k2,k3,k4,k5⟩:=hi.obj i r _ hr hl
  have IN:wl sz' (xs.take (hi' - lo)):=hE.1.take _
  have im:(xs.take (hi' - lo)).length<=hi' - lo:=by simp;omega
  have hlen:=hE.lenOf (P:=P) W
  have hn:Nat.min xs.length (hi' - lo)=min xs.length (hi' - lo):=rfl
  by_cases hz:min xs.length (hi' - lo)=0
  ·have hnil:xs.take (hi' - lo)=[]:=by
    apply mD
    rw[cW];omega
   rw[hnil]at c3 hK
   simp only[List.flatten_nil,bh]at c3
   subst c3
   have hs0:splice l lo ([]:List (List D))=l:=by simp [splice]
   rw[hs0]at hK
   have dQ:kb.set i (.row ty' sz' l)=kb:=by
    apply mb
    intro j
    by_cases hij:i=j
    ·subst hij
     rw[iN (bH.1 hl).1,hl]
    ·rw[gP hij]
   rw[dQ]at hK
   refine⟨_,goInt ((min xs.length (hi' - lo):Nat):Int),kb,W,?_,Step.refl hi,?_,hK⟩
   ·unfold Builtin.copy_
    cases ad<;>simp [run_underlying ht,hlen,kK hs,hn,c1,storeCells]
   ·simp [Den,goInt]
  ·have hlc:lo<r.cap:=by omega
   rw[g3 hlc]
   have hfl:(splice l lo (xs.take (hi' - lo))).flatten=splice l.flatten (lo*sz') (xs.take (hi' - lo)).flatten:=P0 k2 IN (by omega)
   have gW:lo*sz'+(xs.take (hi' - lo)).flatten.length<=l.length*sz':=by
    rw[pD IN,<- Nat.add_mul]
    exact Nat.mul_le_mul_right _ (by omega)
   obtain⟨arr,q1,q2,q3⟩:=zv hi hr hl (o:=lo*sz') c3 (l':=splice l lo (xs.take (hi' - lo))) (mW (by omega)) (Xe k2 IN lo) hfl gW (by omega)
   refine⟨_,goInt ((min xs.length (hi' - lo):Nat):Int),_,_,?_,q3,?_,hK⟩
   ·unfold Builtin.copy_
    rw[k1]
    simp [run_underlying ht,hlen,kK hs,hn,c1,DO c3.one q1 q2]
   ·simp [Den,goInt]
 ·rename_i i base o s' n c
  split at h<;>try exact h.elim
  rename_i l hl hb
  have hs1:=de hb
  subst hs1
  split at h<;>try exact h.elim
  rename_i m cs hpc
  split at h<;>try exact h.elim
  rename_i l' hl'
  obtain⟨hp,hle,hK⟩:=h
  have hE:=u9 hsrc hp hi hy hfit
  simp only[Den]at hd
  obtain⟨r,ad,hr,rfl,g1,g3⟩:=hd
  obtain⟨ys,c1,_,c3⟩:=hE.first (P:=P) (min xs.length n) (Nat.min_le_left _ _)
  have e0:xs.take (min xs.length n)=xs.take n:=by
   rw[Nat.min_comm]
   exact List.take_eq_take_min.symm
  rw[e0]at c3
  have hfl:=pD (hE.1.take n)
  have im:(xs.take n).length=min n xs.length:=by simp
  have hlen:=hE.lenOf (P:=P) W
  have hn:Nat.min xs.length n=min xs.length n:=rfl
  obtain⟨arr,WD,q1,q2,q3⟩:=aex hi hr hl hpc c3 (by omega) hl'
  refine⟨_,goInt ((min xs.length n:Nat):Int),_,_,?_,q3,?_,hK⟩
  ·by_cases hc:0<c
   ·rw[g3 hc]
    unfold Builtin.copy_
    simp [run_underlying ht,hlen,kK hs,hn,c1,DO c3.one q1 q2]
   ·have hys:ys=[]:=mD (by rw[c3.len,hfl,im];omega)
    subst hys
    have dQ:W.setRow r.blk (splice arr.toList (base+o) ([]:List Value)).toArray=W:=by
     have:splice arr.toList (base+o) ([]:List Value)=arr.toList:=by simp [splice]
     rw[this]
     unfold World.setRow
     have hlt:=(Array.getElem?_eq_some_iff.1 q1).1
     simp only[Array.toArray_toList]
     congr 1
     apply Array.ext (by simp)
     intro j h1 h2
     simp only[Array.getElem_modify]
     split
     ·rename_i e;subst e
      have:=(Array.getElem?_eq_some_iff.1 q1).2
      rw[this]
     ·rfl
    rw[dQ]
    unfold Builtin.copy_
    cases ad<;>simp [run_underlying ht,hlen,kK hs,hn,c1,storeCells]
  ·simp [Den,goInt]
 ·rename_i i ix o s' n c
  split at h<;>try exact h.elim
  rename_i ty' sz' l hl hb
  have hs1:=de hb
  subst hs1
  obtain⟨hp,e,he,hle,hK⟩:=h
  have hE:=u9 hsrc hp hi hy hfit
  simp only[Den]at hd
  obtain⟨r,ad,hr,rfl,g1,g3⟩:=hd
  obtain⟨ys,c1,_,c3⟩:=hE.first (P:=P) (min xs.length n) (Nat.min_le_left _ _)
  have e0:xs.take (min xs.length n)=xs.take n:=by
   rw[Nat.min_comm]
   exact List.take_eq_take_min.symm
  rw[e0]at c3
  have hfl:=pD (hE.1.take n)
  have im:(xs.take n).length=min n xs.length:=by simp
  have hlen:=hE.lenOf (P:=P) W
  have hn:Nat.min xs.length n=min xs.length n:=rfl
  obtain⟨k1,k2,k3,k4,k5⟩:=hi.obj i r _ hr hl
  have mi:ix<l.length:=(bH.1 he).1
  have hm:(ix+1)*sz'<=l.length*sz':=Nat.mul_le_mul_right _ mi
  rw[Nat.succ_mul]at hm
  have tp:=k2 e (fF he)
  obtain⟨arr,q1,q2,q3⟩:=zv hi hr hl (o:=ix*sz'+o) c3 (l':=l.set ix (splice e o (xs.take n).flatten)) (by simp) (k2.set ix (by rw[mW (by omega),tp])) (PZ k2 he (by omega)) (by omega) (by omega)
  refine⟨_,goInt ((min xs.length n:Nat):Int),_,_,?_,q3,?_,hK⟩
  ·by_cases hc:0<c
   ·rw[g3 hc,k1]
    unfold Builtin.copy_
    simp [run_underlying ht,hlen,kK hs,hn,c1,DO c3.one q1 q2]
   ·have hys:ys=[]:=mD (by rw[c3.len,hfl,im];omega)
    subst hys
    have dQ:W.setRow r.blk (splice arr.toList (ix*sz'+o) ([]:List Value)).toArray=W:=by
     have:splice arr.toList (ix*sz'+o) ([]:List Value)=arr.toList:=by simp [splice]
     rw[this]
     unfold World.setRow
     simp only[Array.toArray_toList]
     congr 1
     apply Array.ext (by simp)
     intro j h1 h2
     simp only[Array.getElem_modify]
     split
     ·rename_i e;subst e
      have:=(Array.getElem?_eq_some_iff.1 q1).2
      rw[this]
     ·rfl
    rw[dQ]
    unfold Builtin.copy_
    cases ad<;>simp [run_underlying ht,hlen,kK hs,hn,c1,storeCells]
  ·simp [Den,goInt]
def l_:List CK->List Value->Option (List D)
 | [],[]=>some []
 | .arr m z::ks,cs=>match u0 z m cs,z.oneCell' with
  |some r,true=>match l_ ks r with | some us=>some (mJ (dv m (.val z)) us) | none=>none
  |_,_=>none
 | .sl s::ks,c::cs=>match c with
  | .slice none 0 0=>match l_ ks cs with | some us=>some (.sl s []::us) | none=>none
  |_=>none
 |_::ks,c::cs=>match c.oneCell' with
  |true=>match l_ ks cs with | some us=>some (.val c::us) | none=>none
  |false=>none
 |_,_=>none
theorem zZ (E:EH):∀{ks:List CK} {cs:List Value} {us:List D},l_ ks cs=some us->bh E us cs
 | [],[],us,h=>by simp [l_]at h;subst h;exact .nil
 | [],_:: _,us,h=>by simp [l_]at h
 |c::ks,cs,us,h=>by
  have single:∀{x:Value} {cs':List Value},cs=x::cs'->(match x.oneCell' with | true=>(match l_ ks cs' with | some us=>some (.val x::us) | none=>none) | false=>none)=some us->bh E us cs:=by
   rintro x cs' rfl h
   split at h<;>try (cases h;done)
   rename_i h1
   split at h<;>try (cases h;done)
   rename_i us' lS
   cases h
   exact .cons (show bX E (.val x) x from⟨rfl,h1⟩) (zZ E lS)
  cases c with
  |arr m z=>
   simp only[l_]at h
   split at h<;>try (cases h;done)
   rename_i r hr h1
   split at h<;>try (cases h;done)
   rename_i us' lS
   cases h
   rw[KK hr,N6]
   exact(bh.replicate (show bX E (.val z) z from⟨rfl,h1⟩) m).append (zZ E lS)
  |int k=>cases cs with | nil=>simp [l_]at h | cons v vs'=>exact single rfl (by simpa only[l_]using h)
  |bool=>cases cs with | nil=>simp [l_]at h | cons v vs'=>exact single rfl (by simpa only[l_]using h)
  |other=>cases cs with | nil=>simp [l_]at h | cons v vs'=>exact single rfl (by simpa only[l_]using h)
  |sl s=>
   cases cs with
   |nil=>simp [l_]at h
   |cons v vs'=>
    simp only[l_]at h
    split at h<;>try (cases h;done)
    split at h<;>try (cases h;done)
    rename_i us' lS
    cases h
    exact .cons (by simp only[bX];exact⟨none,0,rfl,ar _,.inl rfl⟩) (zZ E lS)
def Ez (P:Program) (e:TypeId):Option (List D):=
 match (P.info? e).bind (·.zero),oh P 20 e with
 |some z,some ks=>l_ ks z.cells.toList
 |_,_=>none
theorem GU (z:Array Value) (hz:0<z.size):∀ n,((Array.range (n*z.size)).map (z[·% z.size]!)).toList=(dv n z.toList).flatten
 | 0=>by simp
 |n+1=>by
  rw[List.replicate_succ',List.flatten_append,<- GU z hz n]
  apply mb
  intro j
  simp only[Array.toList_map,Array.toList_range,List.getElem?_append,fy,bT,List.length_range,jF,List.flatten_nil,gz]
  rcases kx j (n*z.size)with h1 | h1
  ·rw[if_pos h1,List.getElem?_range (by rw[Nat.succ_mul];omega),List.getElem?_range h1]
  ·rw[if_neg (by omega)]
   rcases kx j ((n+1)*z.size)with h2 | h2
   ·rw[List.getElem?_range h2]
    rw[Nat.succ_mul]at h2
    have e:j % z.size=j - n*z.size:=by
     have:j=(j - n*z.size)+n*z.size:=by omega
     rw[this,Nat.add_mul_mod_self_right,Nat.mod_eq_of_lt (by omega)]
     omega
    simp only[Option.map_some]
    rw[e,Array.getElem?_toList,getElem!_pos z _ (by omega),Array.getElem?_eq_getElem (by omega)]
   ·rw[iE (by simpa using h2)]
    rw[Nat.succ_mul]at h2
    rw[iE (by simp;omega)]
    rfl
structure Room (n c:Int) (b:Nat):Prop where
 le:n<=c
 bytes:c*b<=140737488355328
 cap:c<=140737488355328
def Jk (P:Program) (t:TypeId) (len cap:V) (kb:KB) (K:V->KB->Prop):Prop:=
 match P.underlying t,numOf len,numOf cap with
 |some (.slice elem),some n,some c=>match P.info? elem,Ez P elem with
  |some i,some ds=>match cX ds.length i.size,Nat.ble 1 i.size with
   |true,true=>aA n/\Room n c i.bytes/\K (.sl kb.length 0 n.toNat) (kb++[.row elem i.size (dv n.toNat ds)])
   |_,_=>False
  |_,_=>False
 |_,_,_=>False
theorem Xd {ds:List D} {s:Nat} (h:ds.length=s) (n:Nat):wl s (dv n ds):=fun e he=>by rw[List.eq_of_mem_replicate he];exact h
theorem afi {α:Type} (l:List α) {n c:Nat} (h:n<=c):((dv c l).flatten).take (n*l.length)=(dv n l).flatten:=by
 have e:c=n+(c - n):=by omega
 rw[e,<- List.replicate_append_replicate,List.flatten_append]
 have:(dv n l).flatten.length=n*l.length:=by simp
 rw[<- this,List.take_left]
theorem bh.KL {E:EH} {ds:List D} {xs:List Value} (h:bh E ds xs):∀ n,bh E (dv n ds).flatten (dv n xs).flatten
 | 0=> .nil
 |n+1=>by rw[List.replicate_succ,List.replicate_succ,jF,jF];exact h.append (h.KL n)
theorem ab3 {P:Program} {t:TypeId} {len cap:V} {kb:KB} {K:V->KB->Prop} (h:Jk P t len cap kb K) {σ:Sg} {E:EH} {W:World} (hi:Inv σ E kb W) {x y:Value} (hx:Den σ E len x) (hy:Den σ E cap y):
  ∃ v z σ' kb' W',(Instr.makeSlice t x y).run P W= .ok z W'/\Step σ E kb W σ' E kb' W'/\Den σ' E v z/\K v kb':=by
 unfold Jk at h
 split at h<;>try exact h.elim
 rename_i elem n c ht hn hc
 obtain⟨k1,rfl⟩:=uS hn hx
 obtain⟨k2,rfl⟩:=uS hc hy
 split at h<;>try exact h.elim
 rename_i i ds mO hz
 split at h<;>try exact h.elim
 rename_i gW fR
 have hdl:=de gW
 have hs1:=Nat.le_of_ble_eq_true fR
 obtain⟨h0,⟨h1,h2,h3⟩,hK⟩:=h
 unfold aA at h0
 unfold Ez at hz
 split at hz<;>try (cases hz;done)
 rename_i z ks hz0 hks
 obtain⟨it,hit,rQ⟩:=lO.1 hz0
 rw[mO]at hit;cases hit
 have hD:=zZ E hz
 have hzl:z.cells.size=i.size:=by
  have:=hD.len
  simp only[Array.length_toList]at this
  omega
 have w1:γ.wrap n=n:=IntWalk.i64_in n (by omega)
 have w2:γ.wrap c=c:=IntWalk.i64_in c (by omega)
 have hb0:(0:Int)<=i.bytes:=by omega
 have hmul:(i.bytes:Int)*c=((c.toNat*i.bytes:Nat):Int):=by
  have:c=(c.toNat:Int):=by omega
  rw[this,Int.mul_comm]
  simp
 have hmn:c.toNat*i.bytes<=140737488355328:=by
  have:((c.toNat*i.bytes:Nat):Int)<=140737488355328:=by rw[<- hmul,Int.mul_comm];exact h2
  omega
 have aje:(if c.toNat*i.size=0 then(#[]:Array Value)else z.cells)=(if c.toNat*i.size=0 then #[]else z.cells):=rfl
 have QK:∀(zz:Array Value),(zz=if c.toNat*i.size=0 then #[]else z.cells)->((Array.range (c.toNat*i.size)).map (zz[·% zz.size]!))=((Array.range (c.toNat*i.size)).map (z.cells[·% z.cells.size]!)):=by
  rintro zz rfl
  by_cases hz:c.toNat*i.size=0
  ·rw[hz];apply Array.ext';simp
  ·rw[if_neg hz]
 have hrun:(Instr.makeSlice t (.int k1 n) (.int k2 c)).run P W= .ok (.slice (some ⟨W.heap.size,0,none⟩) n.toNat c.toNat) (W.alloc (.cells ((Array.range (c.toNat*i.size)).map (z.cells[·% z.cells.size]!)) elem)):=by
  have t1:¬ (c<0):=by omega
  have t2:¬ ((i.bytes:Int)*c > 2 ^ 48):=by rw[hmul];omega
  have t3:¬ (n<0):=by omega
  have t4:¬ (n > c):=by omega
  have hroom:(askRoom (c.toNat*i.bytes)).run P W= .ok () W:=by
   unfold askRoom roomBytes
   rw[if_neg (by omega)]
   rfl
  have hai:∀(k:IntKind) (m:Int),(asInt (.int k m)).run P W= .ok m W:=fun k m=>rfl
  have hti:(typeInfo elem).run P W= .ok i W:=by simp [typeInfo,mO]
  have rN:(Go.sizeOf elem).run P W= .ok i.size W:=by simp [Go.sizeOf,typeInfo,mO]
  have uL:(zeroValue elem).run P W= .ok z W:=by simp [zeroValue,typeInfo,mO,rQ]
  have Ri:∀ arr,(newRow elem arr).run P W= .ok ⟨W.heap.size,0,none⟩ (W.alloc (.cells arr elem)):=fun arr=>by simp [newRow]
  unfold Instr.makeSlice
  rw[Sem.run_bind,run_underlying ht,Result.andThen_ok]
  simp only[]
  rw[Sem.run_bind,hai,Result.andThen_ok,Sem.run_bind,hai,Result.andThen_ok,Sem.run_bind,hti,Result.andThen_ok]
  simp only[w1,w2]
  rw[if_neg (by simp only[t1,t2,t3,t4,decide_false,Bool.or_self,Bool.false_eq_true,not_false_eq_true]),Sem.run_bind,hroom,Result.andThen_ok,Sem.run_bind,rN,Result.andThen_ok]
  by_cases hz:c.toNat*i.size=0
  ·simp only[hz,if_true]
   rw[Sem.run_bind,Sem.run_pure,Result.andThen_ok,Sem.run_bind,Ri,Result.andThen_ok]
   have:=QK #[] (by rw[if_pos hz])
   rw[hz]at this
   simp only[this]
   rfl
  ·simp only[hz,if_false]
   have:=QK z.cells (by rw[if_neg hz])
   rw[Sem.run_bind,uL,Result.andThen_ok,Sem.run_bind,Sem.run_pure,Result.andThen_ok,Sem.run_bind,Ri,Result.andThen_ok]
   rfl
 have pJ:c.toNat<=maxLen:=by unfold maxLen;omega
 have hfl:=GU z.cells (by omega) c.toNat
 rw[hzl]at hfl
 refine⟨_,_,_,_,_,hrun,N3 hi (l:=dv n.toNat ds) (cap:=c.toNat) (Xd hdl _) (by simp;omega) pJ (by simp) ?_,?_,hK⟩
 ·rw[hzl,hfl,List.length_replicate]
  have abk:z.cells.toList.length=i.size:=by simpa using hzl
  rw[<- abk,afi _ (by omega)]
  exact hD.KL _
 ·simp only[Den]
  exact⟨⟨W.heap.size,c.toNat,i.size⟩,_,by rw[<- hi.len];simp,rfl,by simp,by show n.toNat<=c.toNat;omega,by simp⟩
def GG (P:Program) (t:TypeId) (x:V) (kb:KB) (K:KB->Prop):Prop:=
 match P.underlying t with
 |some (.slice elem)=>match x with
  | .sl i lo hi=>match kb[i]?,Ez P elem with
   |some (.row ty sz l),some ds=>match cX ds.length sz with
    |true=>hi<=l.length/\K (kb.set i (.row ty sz (splice l lo (dv (hi - lo) ds))))
    |false=>False
   |_,_=>False
  |_=>False
 |some (.map _ _)=>match x with
  | .mp i=>match kb[i]? with
   |some (.mp aD aW agg sz l)=>K (kb.set i (.mp aD aW agg sz []))
   |_=>False
  |_=>False
 |_=>False
theorem RK {kb:KB} {i:Nat} {o:KO} (h:kb[i]? =some o):kb.set i o=kb:=by
 apply mb
 intro j
 by_cases hij:i=j
 ·subst hij
  rw[iN (bH.1 h).1,h]
 ·rw[gP hij]
theorem Zq {P:Program} {t:TypeId} {x:V} {kb:KB} {K:KB->Prop} (h:GG P t x kb K) {σ:Sg} {E:EH} {W:World} (hi:Inv σ E kb W) {a:Value} (hd:Den σ E x a) (ty:TypeId):
  ∃ kb' W',(Builtin.clear_ #[t] ty #[a]).run P W= .ok (.tuple #[]) W'/\Step σ E kb W σ E kb' W'/\K kb':=by
 unfold GG at h
 split at h<;>try exact h.elim
 ·rename_i elem ht
  split at h<;>try exact h.elim
  rename_i i lo hi'
  split at h<;>try exact h.elim
  rename_i ty' sz l ds hl hz
  split at h<;>try exact h.elim
  rename_i hb
  have hdl:=de hb
  obtain⟨hle,hK⟩:=h
  unfold Ez at hz
  split at hz<;>try (cases hz;done)
  rename_i z ks hz0 hks
  obtain⟨it,hit,rQ⟩:=lO.1 hz0
  have uL:(zeroValue elem).run P W= .ok z W:=by simp [zeroValue,typeInfo,hit,rQ]
  have hD:=zZ E hz
  simp only[Den]at hd
  obtain⟨r,ad,hr,rfl,g1,g2,g3⟩:=hd
  obtain⟨k1,k2,k3,k4,k5⟩:=hi.obj i r _ hr hl
  by_cases h0:hi' - lo=0
  ·have hs0:splice l lo (dv (hi' - lo) ds)=l:=by rw[h0];simp [splice]
   rw[hs0,RK hl]at hK
   refine⟨kb,W,?_,Step.refl hi,hK⟩
   unfold Builtin.clear_
   cases ad<;>simp [run_underlying ht,h0]
  ·have tg:=hD.KL (hi' - lo)
   have hzl:z.cells.size=sz:=by
    have:=hD.len
    simp only[Array.length_toList]at this
    omega
   by_cases hsz:sz=0
   ·have hds:ds=[]:=mD (by omega)
    have uK:z.cells=#[]:=Array.eq_empty_of_size_eq_zero (by omega)
    subst hds
    have hall:∀ e∈l,e=[]:=fun e he=>mD (by rw[k2 e he];omega)
    have hs0:splice l lo (dv (hi' - lo) [])=l:=by
     apply mb
     intro j
     rw[uy (by omega)]
     split
     ·rfl
     ·split
      ·rename_i c1 c2
       simp only[List.length_replicate]at c2
       have hj:j<l.length:=by omega
       rw[bu hj,hall _ (List.getElem_mem hj)]
       rw[List.getElem?_replicate,if_pos (by omega)]
      ·rfl
    rw[hs0,RK hl]at hK
    refine⟨kb,W,?_,Step.refl hi,hK⟩
    unfold Builtin.clear_
    obtain⟨n,hn⟩:∃ n,hi' - lo=n+1:=⟨hi' - lo - 1,by omega⟩
    rw[hn]
    cases ad<;>simp [run_underlying ht,uL,uK,Builtin.zeroCells,storeCells]
   have hrw:wl sz (dv (hi' - lo) ds):=Xd hdl _
   have hfl:(splice l lo (dv (hi' - lo) ds)).flatten=splice l.flatten (lo*sz) (dv (hi' - lo) ds).flatten:=P0 k2 hrw (by simp;omega)
   obtain⟨arr,q1,q2,q3⟩:=zv hi hr hl (o:=lo*sz) tg (l':=splice l lo (dv (hi' - lo) ds)) (mW (by simp;omega)) (Xe k2 hrw lo) hfl (by rw[pD hrw,<- Nat.add_mul];exact Nat.mul_le_mul_right _ (by simp;omega)) (by omega)
   refine⟨_,_,?_,q3,hK⟩
   have QS:=GU z.cells (by omega) (hi' - lo)
   have hst:=DO (P:=P) tg.one q1 q2
   rw[g3 (by omega),k1]
   unfold Builtin.clear_
   obtain⟨n,hn⟩:∃ n,hi' - lo=n+1:=⟨hi' - lo - 1,by omega⟩
   rw[hn]at QS hst ⊢
   have uK:(Builtin.zeroCells z.cells (n+1)).toList=(dv (n+1) z.cells.toList).flatten:=QS
   simp [run_underlying ht,uL,uK,hst]
 ·rename_i kt et ht
  split at h<;>try exact h.elim
  rename_i i
  split at h<;>try exact h.elim
  rename_i aD aW agg sz l hl
  simp only[Den]at hd
  obtain⟨r,hr,rfl⟩:=hd
  obtain⟨hw,es,ck,g1,g2,g3⟩:=hi.obj i r _ hr hl
  have fV:(getObj r.blk).run P W= .ok (.map es ck) W:=by simp [getObj,Sem.run,g1]
  have rN:∀ o,(setObj r.blk o).run P W= .ok () {W with heap:=W.heap.setIfInBounds r.blk o }:=fun o=>by simp [setObj,Sem.run,g1]
  have hlt:r.blk<W.heap.size:=(Array.getElem?_eq_some_iff.1 g1).1
  refine⟨_,{W with heap:=W.heap.setIfInBounds r.blk (.map #[] ck) },?_,hi.set (o':=.mp aD aW agg sz []) hr hl rfl rfl rfl (by simp) (fun b hb=>?_) (fun b hb=>hb) ⟨wl.nil,#[],ck,?_,by simp [cM],⟨by simp,by simp⟩⟩,h⟩
  ·unfold Builtin.clear_
   simp [run_underlying ht,fV,rN]
  ·simp only[owned]at hb
   show(W.heap.setIfInBounds r.blk _)[b]? =_
   rw[Array.getElem?_setIfInBounds_ne (fun e=>hb e.symm)]
  ·show(W.heap.setIfInBounds r.blk _)[r.blk]? =_
   simp [hlt]
def Gt (s:ByteArray):List (List D):=s.data.toList.map fun b=>[.val (.int ξ b.toNat)]
def Lx (P:Program) (src dst:TypeId) (x:V) (kb:KB) (K:V->KB->Prop):Prop:=
 match P.underlying src,P.underlying dst,x with
 |some .string,some (.slice elem),.any (.string s)=>match P.underlying elem with
  |some (.int ξ)=>K (.dat (.sl 1 (Gt s))) kb
  |_=>False
 |some (.slice _),some (.slice elem),.sl i lo hi=>match cX src dst,P.underlying elem,kb[i]? with
  |true,some (.int ξ),some (.row _ 1 l)=>lo<hi/\hi<=l.length/\K (.dat (.sl 1 ((l.take hi).drop lo))) (kb.set i .dead)
  |_,_,_=>False
 |_,_,_=>False
theorem O8 (E:EH):∀(l:List UInt8),bh E (l.map fun b=>[D.val (.int ξ b.toNat)]).flatten (l.map fun b=>ν ξ b.toNat)
 | []=> .nil
 |b::l=>by
  rw[kv,jF,kv,List.singleton_append]
  exact .cons (show bX E (.val _) _ from⟨rfl,rfl⟩) (O8 E l)
theorem agj {P:Program} {src dst:TypeId} {x:V} {kb:KB} {K:V->KB->Prop} (h:Lx P src dst x kb K) {σ:Sg} {E:EH} {W:World} (hi:Inv σ E kb W) {y:Value} (hd:Den σ E x y):
  ∃ v z E' kb' W',(convert src dst y).run P W= .ok z W'/\Step σ E kb W σ E' kb' W'/\Den σ E' v z/\K v kb':=by
 unfold Lx at h
 split at h<;>try exact h.elim
 rotate_left
 ·rename_i e1 elem i lo hi' h1 h2
  split at h<;>try exact h.elim
  rename_i ty l hb h3 hk
  obtain⟨hlt,hle,hK⟩:=h
  have hsd:=de hb
  subst hsd
  simp only[Den]at hd
  obtain⟨r,a,hr,rfl,g1,g2,g3⟩:=hd
  have hc:r.cap≠0:=by omega
  have ha:=g3 (by omega)
  subst ha
  obtain⟨E',arr,k1,k2,k3⟩:=hi.aaq hr hk hc
  have lU:=(hi.obj i r _ hr hk).2.1
  have hsz:=(hi.obj i r _ hr hk).1
  have hm:(markStringish ⟨r.blk,lo*r.sz,none⟩).run P W= .ok () (W.freeze ⟨r.blk,arr.size,none⟩ 1):=by
   have hsh:W.shape? r.blk=some (ty,arr.size):=by unfold World.shape?;rw[k1]
   unfold markStringish
   rw[Sem.run_bind,show(shape r.blk).run P W= .ok (some (ty,arr.size)) W by rw[<- hsh];rfl,Result.andThen_ok]
   rfl
  have gW:r.blk<W.heap.size:=(Array.getElem?_eq_some_iff.1 k1).1
  have fR:W.heap[r.blk]=Obj.cells arr ty (0,0):=(Array.getElem?_eq_some_iff.1 k1).2
  refine⟨_,.slice (some ⟨r.blk,lo*r.sz,none⟩) (hi' - lo) (r.cap - lo),E',_,W.freeze ⟨r.blk,arr.size,none⟩ 1,?_,k2 _ rfl rfl rfl (by simp [World.freeze]) ?_ (fun k aa8=>?_),?_,hK⟩
  ·unfold convert
   rw[Sem.run_bind,run_underlying h1,Result.andThen_ok,Sem.run_bind,run_underlying h2,Result.andThen_ok]
   simp only[]
   rw[Sem.run_bind,run_underlying h3,Result.andThen_ok]
   simp only[beq_self_eq_true]
   rw[Sem.run_bind,hm,Result.andThen_ok]
   rfl
  ·simp [World.freeze,Array.getElem?_modify,k1]
  ·simp [World.freeze,Array.getElem?_modify,show ¬ r.blk=k from fun e=>aa8 e.symm]
  ·simp only[Den]
   exact UP hsz lU (by omega) hle (hi.obj i r _ hr hk).2.2.1 (fun _=>rfl) (fun _=>k3)
 rename_i elem s h1 h2
 split at h<;>try exact h.elim
 rename_i h3
 simp only[Den]at hd
 subst hd
 have hge:=grownCap_ge W s.size 0 elem
 obtain⟨cap,hcap⟩:∃ cap,grownCap W s.size 0 elem=cap:=⟨_,rfl⟩
 rw[hcap]at hge
 let arr:Array Value:=(s.data.map fun b=>ν ξ b.toNat)++Array.replicate (cap - s.size) (.int ξ 0)
 have aaP:(choose (.appendCap s.size 0 elem)).run P W= .ok cap W.drew:=by
  rw[<- hcap]
  rfl
 have hW:((W.drew.alloc (.cells arr elem)).freeze ⟨W.heap.size,arr.size,none⟩ 1)=W.drew.alloc (.cells arr elem (arr.size,arr.size+1)):=by
  unfold World.freeze World.alloc
  simp only[Nat.one_ne_zero,if_false]
  congr 1
  show(W.heap.push (Obj.cells arr elem)).modify W.heap.size _=W.heap.push _
  apply Array.ext (by simp)
  intro j h1 h2
  simp only[Array.getElem_modify,Array.getElem_push]
  by_cases hj:j<W.heap.size
  ·simp [hj,show ¬ W.heap.size=j by omega]
  ·have:W.heap.size=j:=by simp at h1;omega
   simp [this]
 have hrun:(convert src dst (.string s)).run P W= .ok (.slice (some ⟨W.heap.size,0,none⟩) s.size cap) (W.drew.alloc (.cells arr elem (arr.size,arr.size+1))):=by
  unfold convert
  rw[Sem.run_bind,run_underlying h1,Result.andThen_ok,Sem.run_bind,run_underlying h2,Result.andThen_ok]
  simp only[]
  rw[Sem.run_bind,run_underlying h3,Result.andThen_ok]
  simp only[]
  unfold Conv.stringToBytes
  rw[Sem.run_bind,aaP,Result.andThen_ok]
  simp only[]
  rw[Sem.run_bind,show(newRow elem ((s.data.map fun b=>ν ξ b.toNat)++Array.replicate (cap - s.size) (.int ξ 0))).run P W.drew= .ok ⟨W.heap.size,0,none⟩ (W.drew.alloc (.cells arr elem)) by simp [newRow];rfl,Result.andThen_ok]
  have hsh:(W.drew.alloc (.cells arr elem)).shape? W.heap.size=some (elem,arr.size):=by
   unfold World.shape?
   have:(W.drew.alloc (.cells arr elem)).heap[W.heap.size]? =some (.cells arr elem):=by
    show(W.heap.push _)[W.heap.size]? =_
    simp
   rw[this]
  have hm:(markStringish ⟨W.heap.size,0,none⟩).run P (W.drew.alloc (.cells arr elem))= .ok () (W.drew.alloc (.cells arr elem (arr.size,arr.size+1))):=by
   rw[<- hW]
   unfold markStringish
   rw[Sem.run_bind,show(shape W.heap.size).run P (W.drew.alloc (.cells arr elem))= .ok (some (elem,arr.size)) (W.drew.alloc (.cells arr elem)) by rw[<- hsh];rfl,Result.andThen_ok]
   rfl
  rw[Sem.run_bind,hm,Result.andThen_ok]
  rfl
 have hst:=(Inv.drew hi).trans ((Inv.drew hi).inv.aaz (.cells arr elem (arr.size,arr.size+1)))
 refine⟨_,_,_,_,_,hrun,hst,?_,h⟩
 simp only[Den,bX]
 have hl:(Gt s).length=s.size:=by simp [Gt]
 refine⟨_,cap,by rw[hl],by rw[hl];exact hge,.inr ⟨W.heap.size,0,rfl,gS.of_flat (fun e he=>?_) ?_⟩⟩
 ·obtain⟨b,_,rfl⟩:=dO.1 he;rfl
 ·refine(O8 _ s.data.toList).rep fun j v hj=>?_
  unfold EH.cell
  simp only[show W.drew.heap.size=W.heap.size from rfl,if_true,c9]
  show arr[j]? =some v
  have hlt:=(bH.1 hj).1
  simp only[bT,Array.length_toList]at hlt
  simp only[arr]
  rw[Array.getElem?_append_left (by simpa using hlt)]
  simpa using hj
def F0 (P:Program) (t:TypeId) (x:V) (kb:KB) (K:V->Prop):Prop:=
 match P.underlying t with
 |some (.array (n+1) elem)=>match x with
  | .sl i lo hi=>n+1<=hi - lo/\K (.pw i lo)
  | .dat (.sl _ l)=>n+1<=l.length/\K (.dm l.flatten 0)
  | .sa i base o _ m _=>n+1<=m/\K (.pa i base o)
  | .se i ix o _ m _=>n+1<=m/\K (.pe i ix o)
  |_=>False
 |_=>False
theorem YK {P:Program} {t:TypeId} {x:V} {kb:KB} {K:V->Prop} (h:F0 P t x kb K) {σ:Sg} {E:EH} {a:Value} (hd:Den σ E x a):
  ∃ v z,(∀ W,(Instr.arrayAt t a).run P W= .ok z W)/\Den σ E v z/\K v:=by
 unfold F0 at h
 split at h<;>try exact h.elim
 rename_i n elem ht
 have run:∀{ad:Option Addr} {len cap:Nat},n+1<=len->∀ W,(Instr.arrayAt t (.slice ad len cap)).run P W= .ok (.pointer ad) W:=fun hl W=>by
  unfold Instr.arrayAt
  rw[Sem.run_bind,run_underlying ht,Result.andThen_ok]
  simp only[]
  rw[if_neg (by omega)]
  rfl
 split at h<;>try exact h.elim
 ·obtain⟨hle,hK⟩:=h
  simp only[Den]at hd
  obtain⟨r,ad,hr,rfl,g1,g2,g3⟩:=hd
  exact⟨_,_,run hle,by simp only[Den];exact⟨r,hr,by rw[g3 (by omega)]⟩,hK⟩
 ·rename_i sz l
  obtain⟨hle,hK⟩:=h
  simp only[Den,bX]at hd
  obtain⟨ad,cap,rfl,hcap,fB⟩:=hd
  rcases fB with fB | ⟨b,off,rfl,fB⟩
  ·omega
  exact⟨_,_,run hle,by simp only[Den];exact⟨b,off,rfl,fB.flat⟩,hK⟩
 ·obtain⟨hle,hK⟩:=h
  simp only[Den]at hd
  obtain⟨r,ad,hr,rfl,g1,g3⟩:=hd
  exact⟨_,_,run hle,by simp only[Den];exact⟨r,hr,by rw[g3 (by omega)]⟩,hK⟩
 ·obtain⟨hle,hK⟩:=h
  simp only[Den]at hd
  obtain⟨r,ad,hr,rfl,g1,g3⟩:=hd
  exact⟨_,_,run hle,by simp only[Den];exact⟨r,hr,by rw[g3 (by omega)]⟩,hK⟩
structure tZ (E:EH) (ds:List Deferred):Prop where
 h:ds=[]
theorem tZ.nil (E:EH):tZ E []:=⟨rfl⟩
theorem tZ.mono {E E':EH} {ds:List Deferred} (h:tZ E ds) (hE:E.le E'):tZ E' ds:=⟨h.h⟩
abbrev Fr:=List (Nat×V)
def look:Fr->Nat->Option V
 | [],_=>none
 | (d,v)::r,t=>match cX d t with | true=>some v | false=>look r t
structure gl (σ:Sg) (E:EH) (fr:Fr) (n:Nat) (a:Act):Prop where
 size:a.tmps.size=n
 defers:tZ E a.defers
 get:∀ t v,look fr t=some v->∃ x,a.tmps[t]? =some x/\Den σ E v x
theorem gl.mono {σ τ:Sg} {E E':EH} {fr:Fr} {n:Nat} {a:Act} (h:gl σ E fr n a) (hE:E.le E'):gl (σ++τ) E' fr n a:=
 ⟨h.size,h.defers.mono hE,fun t v hv=>let ⟨x,h1,h2⟩:=h.get t v hv;⟨x,h1,Den.mono hE h2⟩⟩
theorem gl.put {σ:Sg} {E:EH} {fr:Fr} {n:Nat} {a:Act} (h:gl σ E fr n a) {d:Nat} (hd:d<n) {v:V} {x:Value} (hv:Den σ E v x):gl σ E ((d,v)::fr) n (a.put (some d) x):=by
 refine⟨by simp [Act.put,h.size],h.defers,fun t u hu=>?_⟩
 simp only[look]at hu
 split at hu
 ·rename_i hb
  have:=de hb
  subst this
  cases hu
  exact⟨x,by simp [Act.put,h.size,hd],hv⟩
 ·rename_i hb
  have hne:d≠t:=fun e=>by subst e;simp at hb
  obtain⟨y,h1,h2⟩:=h.get t u hu
  exact⟨y,by simp only[Act.put];rw[Array.getElem?_setIfInBounds_ne hne];exact h1,h2⟩
def mV (n:Nat) (dst:Option Nat) (v:V) (fr:Fr) (K:Fr->Prop):Prop:=
 match dst with
 |some d=>match Nat.blt d n with
  |true=>K ((d,v)::fr)
  |false=>False
 |none=>K fr
theorem o_ {n:Nat} {dst:Option Nat} {v:V} {fr:Fr} {K:Fr->Prop} (h:mV n dst v fr K) {σ:Sg} {E:EH} {a:Act} (hf:gl σ E fr n a) {x:Value} (hv:Den σ E v x):
  ∃ fr',gl σ E fr' n (a.put dst x)/\K fr':=by
 unfold mV at h
 split at h
 ·rename_i d
  split at h
  ·rename_i hb
   exact⟨_,hf.put (Nat.lt_of_succ_le (Nat.le_of_ble_eq_true hb)) hv,h⟩
  ·exact h.elim
 ·exact⟨fr,hf,h⟩
def lQ (fr:Fr):Operand->Option V
 | .tmp t=>look fr t
 | .const v=>some (ur v)
 | .global g=>some (.any (.pointer (some ⟨g,0,none⟩)))
 | .func f=>some (.fn f [])
theorem n_ {σ:Sg} {E:EH} {fr:Fr} {n:Nat} {a:Act} (h:gl σ E fr n a) {x:Operand} {v:V} (hv:lQ fr x=some v):Den σ E v (a.eval x):=by
 cases x with
 |tmp t=>
  obtain⟨y,h1,h2⟩:=h.get t v hv
  simp only[Act.eval]
  rw[Array.getD_eq_getD_getElem?,h1]
  exact h2
 |const c=>simp only[lQ,bb.injEq]at hv;subst hv;exact O3 σ E c
 |global g=>simp only[lQ,bb.injEq]at hv;subst hv;simp [Den,Act.eval]
 |func f=>simp only[lQ,bb.injEq]at hv;subst hv;simp [Den,az,Act.eval]
def ev (fr:Fr) (x:Operand):Option V:=match lQ fr x with | some v=>some (yj v) | none=>none
theorem cq {σ:Sg} {E:EH} {fr:Fr} {n:Nat} {a:Act} (h:gl σ E fr n a) {x:Operand} {v:V} (hv:ev fr x=some v):Den σ E v (a.eval x):=by
 unfold ev at hv
 split at hv
 ·rename_i u hu;cases hv;exact GY (n_ h hu)
 ·cases hv
def evs (fr:Fr):List Operand->Option (List V)
 | []=>some []
 |x::xs=>match lQ fr x,evs fr xs with
  |some v,some vs=>some (v::vs)
  |_,_=>none
theorem Hr {σ:Sg} {E:EH} {fr:Fr} {n:Nat} {a:Act} (h:gl σ E fr n a):∀{xs:List Operand} {vs:List V},evs fr xs=some vs->az σ E vs (xs.map a.eval)
 | [],vs,hv=>by simp [evs]at hv;subst hv;exact .nil
 |x::xs,vs,hv=>by
  simp only[evs]at hv
  split at hv
  ·rename_i v us h1 h2
   cases hv
   exact .cons (n_ h h1) (Hr h h2)
  ·cases hv
def wb (fr:Fr):List (Nat×Operand)->Option (List (Nat×V))
 | []=>some []
 | (i,x)::xs=>match lQ fr x,wb fr xs with
  |some v,some vs=>some ((i,v)::vs)
  |_,_=>none
theorem Hq {σ:Sg} {E:EH} {fr:Fr} {n:Nat} {a:Act} (h:gl σ E fr n a):∀{xs:List (Nat×Operand)} {vs:List (Nat×V)},wb fr xs=some vs->lM σ E vs (xs.map fun(i,x)=>(i,a.eval x))
 | [],vs,hv=>by simp [wb]at hv;subst hv;simp [lM]
 | (i,x)::xs,vs,hv=>by
  simp only[wb]at hv
  split at hv
  ·rename_i v us h1 h2
   cases hv
   simp only[kv,lM]
   exact⟨_,_,rfl,n_ h h1,Hq h h2⟩
  ·cases hv
def tc (fr:Fr):Option Operand->Option (Option V)
 |none=>some none
 |some x=>match ev fr x with | some v=>some (some v) | none=>none
theorem yr {σ:Sg} {E:EH} {fr:Fr} {n:Nat} {a:Act} (h:gl σ E fr n a) {x:Option Operand} {v:Option V} (hv:tc fr x=some v):OD σ E v (x.map a.eval):=by
 cases x with
 |none=>simp [tc]at hv;subst hv;trivial
 |some x=>
  simp only[tc]at hv
  split at hv
  ·rename_i u hu;cases hv;exact cq h hu
  ·cases hv
def exacts (fr:Fr) (l:List Operand):Bool:=l.all fun x=>((ev fr x).bind V.val?).isSome
def KP (fr:Fr) (x:Operand):Value:=((ev fr x).bind V.val?).getD undef
def BW (n:Nat) (K:Nat->V):V:=match n with
 | 0=>K 0
 |m+1=>K (m+1)
def v8:Value->V
 | .int k n=>match n with
  | .ofNat m=>BW m (fun m=> .lit k (.ofNat m))
  | .negSucc m=>BW m (fun m=> .lit k (.negSucc m))
 | .bool b=>match b with | true=> .tt | false=> .ff
 |v=>cv v
theorem ZJ (σ:Sg) (E:EH) (v:Value):Den σ E (v8 v) v:=by
 cases v with
 |int k n=>
  cases n with
  |ofNat m=>cases m<;>simp [v8,BW,Den]
  |negSucc m=>cases m<;>simp [v8,BW,Den]
 |bool b=>cases b<;>simp [v8,Den]
 |_=>simp only[v8];exact O2 σ E _
def isLit:V->Bool
 | .lit .. | .tt | .ff=>true
 | .any (.string _)=>true
 | .any (.map none)=>true
 | .any (.pointer none)=>true
 | .any .nilFunc=>true
 |_=>false
def CQ:Bool->Bool->V
 |true,b=>match b with | true=> .tt | false=> .ff
 |false,b=> .sb b
theorem R3 (σ:Sg) (E:EH) (l b:Bool):Den σ E (CQ l b) (.bool b):=by
 cases l<;>cases b<;>simp [CQ,Den]
def lits (fr:Fr) (l:List Operand):Bool:=l.all fun x=>match lQ fr x with | some v=>isLit v | none=>false
def np (P:Program) (fr:Fr) (o:Oper):Option V:=
 match o.op with
 | .select .. =>none
 |_=>match exacts fr o.op.operands.toList with
  |true=>match calm P (execOp (KP fr) o)with
   |some (.value v)=>match lits fr o.op.operands.toList with
    |true=>some (v8 v)
    |false=>some (cv v)
   |_=>none
  |false=>none
theorem Ox {P:Program} {fr:Fr} {o:Oper} {v:V} (h:np P fr o=some v) {σ:Sg} {E:EH} {n:Nat} {a:Act} (hf:gl σ E fr n a):
  ∃ x,(∀ W,(execOp a.eval o).run P W= .ok (.value x) W)/\Den σ E v x:=by
 unfold np at h
 split at h
 ·cases h
 ·rename_i hsel
  split at h
  ·rename_i hex
   split at h
   ·rename_i x hc
    have eT:Den σ E v x:=by
     split at h
     ·cases h;exact ZJ σ E x
     ·cases h;exact O2 σ E x
    refine⟨x,fun W=>?_,eT⟩
    rw[execOp_congr (ρ:=a.eval) (ρ':=KP fr) o (fun cs b e=>hsel cs b e) (fun y hy=>?_)]
    ·exact Gv hc W
    ·have:=List.all_eq_true.1 hex y (by simpa using hy)
     obtain⟨z,hz⟩:=Option.isSome_iff_exists.1 this
     obtain⟨u,hu,pP⟩:=lO.1 hz
     rw[Ef pP (cq hf hu)]
     simp [KP,hz]
   ·cases h
  ·cases h
def Kr (c:Bool):V->V->Option V
 | .int k m,.int k' n=>match decide (k=k')with | true=>some (.int k (bif c then m else n)) | false=>none
 | .sb a,.sb b=>some (.sb (bif c then a else b))
 | .sb a,.tt=>some (.sb (bif c then a else true))
 | .sb a,.ff=>some (.sb (bif c then a else false))
 | .tt,.sb b=>some (.sb (bif c then true else b))
 | .ff,.sb b=>some (.sb (bif c then false else b))
 | .tt,.ff=>some (.sb c)
 | .ff,.tt=>some (.sb !c)
 | .tt,.tt=>some .tt
 | .ff,.ff=>some .ff
 |_,_=>none
theorem aew {c:Bool} {u v w:V} (h:Kr c u v=some w) {σ:Sg} {E:EH} {x y:Value} (hx:Den σ E u x) (hy:Den σ E v y):Den σ E w (if c then x else y):=by
 unfold Kr at h
 split at h<;>(try cases h)<;>(try simp only[Den]at hx hy ⊢)<;>(try subst hx)<;>(try subst hy)<;>(try (cases c<;>simp))
 ·split at h
  ·rename_i hk
   have hk':=of_decide_eq_true hk
   subst hk'
   cases h
   simp [Den]
  ·cases h
 ·split at h
  ·rename_i hk
   have hk':=of_decide_eq_true hk
   subst hk'
   cases h
   simp [Den]
  ·cases h
def isPure (P:Program):Op->Bool
 | .move _ | .assign _ | .pick .. | .nilCheck _ | .fieldAddr .. | .indexAddr .. | .slice .. | .field .. | .extract .. | .build .. | .makeFunc .. | .binOp .. | .unOp .. | .index .. | .makeInterface .. | .sliceToArrayPointer .. =>true
 | .convert src dst _=>match P.underlying src,P.underlying dst with
  |some .string,some (.slice _)=>false
  |some (.slice _),some .string=>false
  |some (.slice _),some (.slice _)=>false
  |_,_=>true
 | .call c=>match c.callee with
  | .builtin .len=>match c.argTypes.toList with
   | [t]=>match P.underlying t with
    |some (.map _ _)=>false
    |some (.chan _ _)=>false
    |_=>true
   |_=>true
  | .builtin .min | .builtin .max=>true
  |_=>false
 |_=>false
def qE (P:Program) (t:TypeId):Bool:=match P.underlying t with | some (.pointer _)=>true | _=>false
def CB (P:Program) (t:TypeId):Bool:=match P.underlying t with | some (.func ..)=>true | _=>false
def DY (P:Program) (t:TypeId):V->V->Bool
 | .mp _,.any (.map none)=>wB P t
 | .ptr _ _,.any (.pointer none)=>qE P t
 | .pa ..,.any (.pointer none)=>qE P t
 | .pe ..,.any (.pointer none)=>qE P t
 | .dm ..,.any (.pointer none)=>qE P t
 | .fn ..,.any .nilFunc=>CB P t
 | .dat (.val (.func ..)),.any .nilFunc=>CB P t
 |_,_=>false
def DW (P:Program) (t:TypeId):Bool:=match P.underlying t with | some (.slice _)=>true | _=>false
def C9:V->Option Nat
 | .sl _ lo hi=>some (hi - lo)
 | .dat (.sl _ l)=>some l.length
 | .e0=>some 0
 | .sa _ _ _ _ n _=>some n
 | .se _ _ _ _ n _=>some n
 |_=>none
def intOf:V->Option (IntKind×Int)
 | .int k n=>some (k,n)
 | .lit k n=>some (k,n)
 |_=>none
def NZ (n:Int):Prop:=n≠0
def mw (k:IntKind) (a b:Int):Int:=k.wrap (a*2 ^ (min b.toNat k.bits))
def qN (k:IntKind) (a b:Int):Int:=a.fdiv (2 ^ (min b.toNat k.bits))
def Ng (n:Int):Prop:=¬ n<0
def rZ (P:Program) (o:Oper) (fr:Fr) (K:V->Prop):Prop:=
 match o.op with
 | .binOp .eql t x y _=>match ev fr x,ev fr y with
  |some v,some (.any (.slice none 0 0))=>match DW P t,C9 v with
   |true,some n=>∀ b:Bool,(b=true->n=0)->K (.sb b)
   |_,_=>False
  |some (.aa o),some (.any (.pointer none))=>match qE P t with | true=>K (.sb o.isNone) | false=>False
  |some (.imp _ _ _ _ l),some (.any (.map none))=>match wB P t with | true=>∀ b:Bool,(b=true->l.length=0)->K (.sb b) | false=>False
  |_,_=>False
 | .binOp .neq t x y _=>match ev fr x,ev fr y with
  |some v,some (.any (.slice none 0 0))=>match DW P t,C9 v with
   |true,some n=>∀ b:Bool,(b=false->n=0)->K (.sb b)
   |_,_=>False
  |some (.aa o),some (.any (.pointer none))=>match qE P t with | true=>K (.sb (!o.isNone)) | false=>False
  |some (.imp _ _ _ _ l),some (.any (.map none))=>match wB P t with | true=>∀ b:Bool,(b=false->l.length=0)->K (.sb b) | false=>False
  |_,_=>False
 | .binOp .quo t x y _=>match (ev fr x).bind intOf,(ev fr y).bind intOf with
  |some (k,a),some (k',b)=>match decide (k=k')with
   |true=>NZ b/\K (.int k (k.wrap (a.tdiv b)))
   |false=>False
  |_,_=>False
 | .binOp .rem t x y _=>match (ev fr x).bind intOf,(ev fr y).bind intOf with
  |some (k,a),some (k',b)=>match decide (k=k')with
   |true=>NZ b/\K (.int k (a.tmod b))
   |false=>False
  |_,_=>False
 | .binOp .shl t x y _=>match (ev fr x).bind intOf,(ev fr y).bind intOf with
  |some (k,a),some (_,b)=>Ng b/\K (.int k (mw k a b))
  |_,_=>False
 | .binOp .shr t x y _=>match (ev fr x).bind intOf,(ev fr y).bind intOf with
  |some (k,a),some (_,b)=>Ng b/\K (.int k (qN k a b))
  |_,_=>False
 |_=>False
theorem SX {σ:Sg} {E:EH} {v:V} {n:Nat} (h:C9 v=some n) {x:Value} (hx:Den σ E v x):∃ a cap,x= .slice a n cap/\(a=none->n=0):=by
 unfold C9 at h
 split at h<;>first | (cases h;done) | skip
 ·rename_i lo hi
  cases h
  simp only[Den]at hx
  obtain⟨r,a,_,rfl,h1,h2,h3⟩:=hx
  refine⟨a,_,rfl,fun e=>?_⟩
  subst e
  rcases kx lo r.cap with hlt | hlt
  ·exact absurd (h3 hlt) (by simp)
  ·omega
 ·cases h
  simp only[Den,bX]at hx
  obtain⟨a,cap,rfl,h1,h2⟩:=hx
  refine⟨a,cap,rfl,fun e=>?_⟩
  rcases h2 with h2 | ⟨b,off,h2,_⟩
  ·exact h2
  ·rw[e]at h2;cases h2
 ·cases h
  simp only[Den]at hx
  obtain⟨a,rfl⟩:=hx
  exact⟨a,0,rfl,fun _=>rfl⟩
 ·rename_i c
  cases h
  simp only[Den]at hx
  obtain⟨r,a,_,rfl,h1,h2⟩:=hx
  refine⟨a,_,rfl,fun e=>?_⟩
  subst e
  rcases Nat.eq_zero_or_pos c with hlt | hlt
  ·omega
  ·exact absurd (h2 hlt) (by simp)
 ·rename_i c
  cases h
  simp only[Den]at hx
  obtain⟨r,a,_,rfl,h1,h2⟩:=hx
  refine⟨a,_,rfl,fun e=>?_⟩
  subst e
  rcases Nat.eq_zero_or_pos c with hlt | hlt
  ·omega
  ·exact absurd (h2 hlt) (by simp)
theorem U8 {P:Program} {t:TypeId} (ht:DW P t=true) {a:Option Addr} {n cap:Nat} (W:World):(Op.equal t (.slice a n cap) (.slice none 0 0)).run P W= .ok a.isNone W:=by
 unfold DW at ht
 split at ht<;>try (cases ht;done)
 rename_i e hu
 unfold Op.equal
 show(Op.equalIn (9999+1) t _ _).run P W=_
 unfold Op.equalIn
 rw[Sem.run_bind,run_underlying hu,Result.andThen_ok]
 cases a<;>rfl
theorem DM {P:Program} {t:TypeId} (ht:qE P t=true) {a:Option Addr} (W:World):(Op.equal t (.pointer a) (.pointer none)).run P W= .ok a.isNone W:=by
 unfold qE at ht
 split at ht<;>try (cases ht;done)
 rename_i e hu
 unfold Op.equal
 show(Op.equalIn (9999+1) t _ _).run P W=_
 unfold Op.equalIn
 rw[Sem.run_bind,run_underlying hu,Result.andThen_ok]
 cases a<;>simp
theorem U3 {P:Program} {t:TypeId} (ht:wB P t=true) {a:Option Nat} (W:World):(Op.equal t (.map a) (.map none)).run P W= .ok a.isNone W:=by
 unfold wB at ht
 split at ht<;>try (cases ht;done)
 rename_i kt et hu
 unfold Op.equal
 show(Op.equalIn (9999+1) t _ _).run P W=_
 unfold Op.equalIn
 rw[Sem.run_bind,run_underlying hu,Result.andThen_ok]
 cases a<;>simp
theorem tv {v:V} {k:IntKind} {n:Int} (h:intOf v=some (k,n)) {σ:Sg} {E:EH} {x:Value} (hx:Den σ E v x):x= .int k n:=by
 unfold intOf at h
 split at h<;>first | (cases h;done) | skip
 ·cases h;simpa only[Den]using hx
 ·cases h;simpa only[Den]using hx
theorem yX {P:Program} {o:Oper} {fr:Fr} {K:V->Prop} (h:rZ P o fr K) {σ:Sg} {E:EH} {n:Nat} {a:Act} (hf:gl σ E fr n a):
  ∃ v x,(∀ W,(execOp a.eval o).run P W= .ok (.value x) W)/\Den σ E v x/\K v:=by
 obtain⟨dst,op,ty,pos,after,guard⟩:=o
 unfold rZ at h
 simp only at h
 split at h
 ·rename_i t x y _
  split at h<;>try exact h.elim
  ·rename_i v hx hy
   split at h<;>try exact h.elim
   rename_i m ht hm
   obtain⟨ad,cap,e1,e2⟩:=SX hm (cq hf hx)
   have e3:=cq hf hy
   simp only[Den]at e3
   refine⟨.sb ad.isNone,.bool ad.isNone,fun W=>?_,by simp only[Den],h _ (fun hb=>e2 (by simpa using hb))⟩
   simp only[execOp,e1,e3,eqGuard,Sem.run_bind,binOp]
   simp [U8 ht]
  ·rename_i o hx hy
   split at h<;>try exact h.elim
   rename_i ht
   have e1:=cq hf hx
   have e3:=cq hf hy
   simp only[Den]at e1 e3
   refine⟨_,.bool o.isNone,fun W=>?_,by simp only[Den],h⟩
   rcases e1 with ⟨rfl,e1⟩ | ⟨e,b,rfl,e1,_⟩
   ·simp only[execOp,e1,e3,eqGuard,Sem.run_bind,binOp]
    simp [DM ht]
   ·simp only[execOp,e1,e3,eqGuard,Sem.run_bind,binOp]
    simp [DM ht]
  ·rename_i l hx hy
   split at h<;>try exact h.elim
   rename_i ht
   have e1:=cq hf hx
   have e3:=cq hf hy
   simp only[Den]at e1 e3
   obtain⟨a,e1,e2⟩:=e1
   refine⟨.sb a.isNone,.bool a.isNone,fun W=>?_,by simp only[Den],h _ (fun hb=>?_)⟩
   ·simp only[execOp,e1,e3,eqGuard,Sem.run_bind,binOp]
    simp [U3 ht]
   ·cases a with
    |none=>have e2:l=[]:=e2;rw[e2];rfl
    |some a=>cases hb
 ·rename_i t x y _
  split at h<;>try exact h.elim
  ·rename_i v hx hy
   split at h<;>try exact h.elim
   rename_i m ht hm
   obtain⟨ad,cap,e1,e2⟩:=SX hm (cq hf hx)
   have e3:=cq hf hy
   simp only[Den]at e3
   refine⟨.sb (!ad.isNone),.bool (!ad.isNone),fun W=>?_,by simp only[Den],h _ (fun hb=>e2 (by simpa using hb))⟩
   simp only[execOp,e1,e3,eqGuard,Sem.run_bind,binOp]
   simp [U8 ht]
  ·rename_i o hx hy
   split at h<;>try exact h.elim
   rename_i ht
   have e1:=cq hf hx
   have e3:=cq hf hy
   simp only[Den]at e1 e3
   refine⟨_,.bool (!o.isNone),fun W=>?_,by simp only[Den],h⟩
   rcases e1 with ⟨rfl,e1⟩ | ⟨e,b,rfl,e1,_⟩
   ·simp only[execOp,e1,e3,eqGuard,Sem.run_bind,binOp]
    simp [DM ht]
   ·simp only[execOp,e1,e3,eqGuard,Sem.run_bind,binOp]
    simp [DM ht]
  ·rename_i l hx hy
   split at h<;>try exact h.elim
   rename_i ht
   have e1:=cq hf hx
   have e3:=cq hf hy
   simp only[Den]at e1 e3
   obtain⟨a,e1,e2⟩:=e1
   refine⟨.sb (!a.isNone),.bool (!a.isNone),fun W=>?_,by simp only[Den],h _ (fun hb=>?_)⟩
   ·simp only[execOp,e1,e3,eqGuard,Sem.run_bind,binOp]
    simp [U3 ht]
   ·cases a with
    |none=>have e2:l=[]:=e2;rw[e2];rfl
    |some a=>cases hb
 ·rename_i t x y _
  split at h<;>try exact h.elim
  rename_i k p k' q hx hy
  split at h<;>try exact h.elim
  rename_i hk
  have hk:=of_decide_eq_true hk
  subst hk
  obtain⟨u,hu,pP⟩:=lO.1 hx
  obtain⟨v,hv,rP⟩:=lO.1 hy
  have e1:=tv pP (cq hf hu)
  have e2:=tv rP (cq hf hv)
  refine⟨_,.int k (k.wrap (p.tdiv q)),fun W=>?_,by simp only[Den],h.2⟩
  simp [execOp,e1,e2,eqGuard,binOp,Op.intDiv,show q≠0 from h.1]
 ·rename_i t x y _
  split at h<;>try exact h.elim
  rename_i k p k' q hx hy
  split at h<;>try exact h.elim
  rename_i hk
  have hk:=of_decide_eq_true hk
  subst hk
  obtain⟨u,hu,pP⟩:=lO.1 hx
  obtain⟨v,hv,rP⟩:=lO.1 hy
  have e1:=tv pP (cq hf hu)
  have e2:=tv rP (cq hf hv)
  refine⟨_,.int k (p.tmod q),fun W=>?_,by simp only[Den],h.2⟩
  simp [execOp,e1,e2,eqGuard,binOp,Op.intDiv,show q≠0 from h.1]
 ·rename_i t x y _
  split at h<;>try exact h.elim
  rename_i k p k' q hx hy
  obtain⟨u,hu,pP⟩:=lO.1 hx
  obtain⟨v,hv,rP⟩:=lO.1 hy
  have e1:=tv pP (cq hf hu)
  have e2:=tv rP (cq hf hv)
  refine⟨_,.int k (mw k p q),fun W=>?_,by simp only[Den],h.2⟩
  simp [execOp,e1,e2,eqGuard,binOp,Op.shift,show ¬ q<0 from h.1,mw]
 ·rename_i t x y _
  split at h<;>try exact h.elim
  rename_i k p k' q hx hy
  obtain⟨u,hu,pP⟩:=lO.1 hx
  obtain⟨v,hv,rP⟩:=lO.1 hy
  have e1:=tv pP (cq hf hu)
  have e2:=tv rP (cq hf hv)
  refine⟨_,.int k (qN k p q),fun W=>?_,by simp only[Den],h.2⟩
  simp [execOp,e1,e2,eqGuard,binOp,Op.shift,show ¬ q<0 from h.1,qN]
 ·exact h.elim
def zm (P:Program) (o:Oper) (fr:Fr) (kb:KB) (K:V->Prop):Prop:=
 match o.op with
 | .move x | .assign x=>match lQ fr x with | some v=>K v | none=>False
 | .pick c x y=>match ev fr c with
  |some .tt=>match lQ fr x with | some v=>K v | none=>False
  |some .ff=>match lQ fr y with | some v=>K v | none=>False
  |some (.sb b)=>match ev fr x,ev fr y with
   |some u,some v=>match Kr b u v with | some w=>K w | none=>False
   |_,_=>False
  |_=>False
 | .nilCheck x=>match ev fr x with
  |some (.ptr i off)=>K (.ptr i off)
  |some (.pa i base o)=>K (.pa i base o)
  |some (.pe i ix bw)=>K (.pe i ix bw)
  |some (.pw i ix)=>K (.pw i ix)
  |some (.dm e bw)=>K (.dm e bw)
  |some (.aa o)=>∃ e,o=some e/\K (.dm e 0)
  |some (.fn f cap)=>K (.fn f cap)
  |some (.dat (.val (.func (.func f) first cap)))=>K (.dat (.val (.func (.func f) first cap)))
  |some (.any (.func (.func f) first cap))=>K (.any (.func (.func f) first cap))
  |_=>False
 | .fieldAddr s x m=>match ev fr x with | some v=>Hw P s v m K | none=>False
 | .indexAddr t x i=>match ev fr x,lQ fr i with | some v,some u=>IS P t v u kb K | _,_=>False
 | .slice t x lo hi none=>match ev fr x,tc fr lo,tc fr hi with | some v,some l,some h=>K_ P t v l h kb K | _,_,_=>False
 | .slice t x lo hi (some m)=>match ev fr x,tc fr lo,tc fr hi,tc fr (some m)with | some v,some l,some h,some m=>K9 P t v l h m K | _,_,_,_=>False
 | .sliceToArrayPointer t x=>match ev fr x with | some v=>F0 P t v kb K | none=>False
 | .field t x m=>match (ev fr x).bind (fun v=>Hx P t v m)with | some u=>K u | none=>False
 | .index t x i=>match ev fr x,lQ fr i with
  |some (.agg l),some u=>Hj P t (.agg l) u K
  |_,_=>match np P fr o with | some v=>K v | none=>False
 | .extract x m=>match ev fr x with
  |some (.φ l)=>match l[m]? with | some v=>K v | none=>False
  |_=>False
 | .build t parts=>match wb fr parts.toList with
  |some ps=>match Gq P t ps with | some l=>K (.agg l) | none=>False
  |none=>False
 | .makeFunc (.func f) first cap=>match first.toList,evs fr cap.toList with | [],some vs=>K (.fn f vs) | _,_=>False
 | .call c=>match c.callee,c.args.toList,c.argTypes.toList with
  | .builtin .len,[x],[t]=>match ev fr x with
   |some v=>match CN v with
    |some _=>wE P t v K
    |none=>match v with
     | .agg l=>wE P t (.agg l) K
     | .ptr i off=>wE P t (.ptr i off) K
     |_=>match np P fr o with | some v=>K v | none=>False
   |none=>False
  |_,_,_=>match np P fr o with | some v=>K v | none=>False
 | .binOp .eql t x y _=>match ev fr x,ev fr y with
  |some u,some v=>match DY P t u v,u,v with
   |true,_,_=>K .ff
   |false,.agg xs,.agg ys=>match P.eqGuardType P.depth t,ta P 20 t (.agg xs) (.agg ys)with
    |false,some b=>K (CQ (xs.all isLit && ys.all isLit) b)
    |_,_=>False
   |_,_,_=>match np P fr o with | some v=>K v | none=>rZ P o fr K
  |_,_=>False
 | .binOp .neq t x y _=>match ev fr x,ev fr y with
  |some u,some v=>match DY P t u v,u,v with
   |true,_,_=>K .tt
   |false,.agg xs,.agg ys=>match P.eqGuardType P.depth t,ta P 20 t (.agg xs) (.agg ys)with
    |false,some b=>K (CQ (xs.all isLit && ys.all isLit) (!b))
    |_,_=>False
   |_,_,_=>match np P fr o with | some v=>K v | none=>rZ P o fr K
  |_,_=>False
 | .binOp .quo _ _ y _=>match y,ev fr y with
  | .tmp _,some (.int _ _)=>rZ P o fr K
  |_,_=>match np P fr o with | some v=>K v | none=>False
 | .binOp .rem _ _ y _=>match y,ev fr y with
  | .tmp _,some (.int _ _)=>rZ P o fr K
  |_,_=>match np P fr o with | some v=>K v | none=>False
 | .binOp .shl _ _ y _=>match y,ev fr y with
  | .tmp _,some (.int _ _)=>rZ P o fr K
  |_,_=>match np P fr o with | some v=>K v | none=>False
 | .binOp .shr _ _ y _=>match y,ev fr y with
  | .tmp _,some (.int _ _)=>rZ P o fr K
  |_,_=>match np P fr o with | some v=>K v | none=>False
 |_=>match np P fr o with | some v=>K v | none=>False
theorem UY {P:Program} {t:TypeId} (hg:P.eqGuardType P.depth t=false) {b:Bool} {xs ys:List V} (he:ta P 20 t (.agg xs) (.agg ys)=some b) {σ:Sg} {E:EH} {x y:Operand} {u v:Value} (hx:Den σ E (.agg xs) u) (hy:Den σ E (.agg ys) v)
  (op:BinOp) (hop:op= .eql∨op= .neq) (W:World):(do eqGuard op t x y u v;binOp op t u v:Sem Value).run P W= .ok (.bool (if op= .eql then b else !b)) W:=by
 have hr:=PE 20 t _ _ b he u v hx hy Op.maxDepth (by decide) W
 simp only[Den]at hx hy
 obtain⟨us,rfl,_⟩:=hx
 obtain⟨vs,rfl,_⟩:=hy
 rcases hop with rfl | rfl
 ·have h1:(eqGuard .eql t x y (.agg us.toArray) (.agg vs.toArray)).run P W= .ok () W:=by simp [eqGuard,hg]
  rw[Sem.run_bind,h1,Result.andThen_ok]
  simp [binOp,Op.equal,hr]
 ·have h1:(eqGuard .neq t x y (.agg us.toArray) (.agg vs.toArray)).run P W= .ok () W:=by simp [eqGuard,hg]
  rw[Sem.run_bind,h1,Result.andThen_ok]
  simp [binOp,Op.equal,hr]
theorem U9 {P:Program} {t:TypeId} {p q:V} (ht:DY P t p q=true) {σ:Sg} {E:EH} {x y:Operand} {u v:Value} (hx:Den σ E p u) (hy:Den σ E q v)
  (op:BinOp) (hop:op= .eql∨op= .neq) (W:World):(do eqGuard op t x y u v;binOp op t u v:Sem Value).run P W= .ok (.bool (if op= .eql then false else true)) W:=by
 have fin:((binOp .eql t u v).run P W= .ok (.bool false) W)->((binOp .neq t u v).run P W= .ok (.bool true) W)->(∀ op,(op=BinOp.eql∨op=BinOp.neq)->∀ W,(eqGuard op t x y u v).run P W= .ok () W)->(do eqGuard op t x y u v;binOp op t u v:Sem Value).run P W= .ok (.bool (if op= .eql then false else true)) W:=by
  intro gW fR h1
  rcases hop with rfl | rfl
  ·rw[Sem.run_bind,h1 _ (.inl rfl),Result.andThen_ok,gW]
   rfl
  ·rw[Sem.run_bind,h1 _ (.inr rfl),Result.andThen_ok,fR]
   rfl
 have ptr:∀{b o:Nat},u= .pointer (some ⟨b,o,none⟩)->v= .pointer none->qE P t=true->(do eqGuard op t x y u v;binOp op t u v:Sem Value).run P W= .ok (.bool (if op= .eql then false else true)) W:=by
  rintro b o rfl rfl hp
  unfold qE at hp
  split at hp<;>try (cases hp;done)
  rename_i e hu
  have hr:(Op.equal t (.pointer (some ⟨b,o,none⟩)) (.pointer none)).run P W= .ok false W:=by
   unfold Op.equal
   show(Op.equalIn (9999+1) t _ _).run P W=_
   unfold Op.equalIn
   rw[Sem.run_bind,run_underlying hu,Result.andThen_ok]
   simp
  refine fin (by simp [binOp,hr]) (by simp [binOp,hr]) (fun op hop W=>?_)
  ·rcases hop with rfl | rfl<;>simp [eqGuard]
 unfold DY at ht
 split at ht
 ·simp only[Den]at hx hy
  obtain⟨r,_,rfl⟩:=hx
  subst hy
  unfold wB at ht
  split at ht<;>try (cases ht;done)
  rename_i kt et hu
  have hr:(Op.equal t (.map (some r.blk)) (.map none)).run P W= .ok false W:=by
   unfold Op.equal
   show(Op.equalIn (9999+1) t _ _).run P W=_
   unfold Op.equalIn
   rw[Sem.run_bind,run_underlying hu,Result.andThen_ok]
   rfl
  refine fin (by simp [binOp,hr]) (by simp [binOp,hr]) (fun op hop W=>?_)
  ·rcases hop with rfl | rfl<;>simp [eqGuard]
 ·simp only[Den]at hx hy;obtain⟨r,_,rfl⟩:=hx;exact ptr rfl hy ht
 ·simp only[Den]at hx hy;obtain⟨r,_,rfl⟩:=hx;exact ptr rfl hy ht
 ·simp only[Den]at hx hy;obtain⟨r,_,rfl⟩:=hx;exact ptr rfl hy ht
 ·simp only[Den]at hx hy;obtain⟨b,off,rfl,_⟩:=hx;exact ptr rfl hy ht
 ·simp only[Den]at hx hy
  obtain⟨vs,rfl,_⟩:=hx
  subst hy
  unfold CB at ht
  split at ht<;>try (cases ht;done)
  rename_i hu
  have hr:∀ g c1 c2,(Op.equal t (.func g c1 c2) .nilFunc).run P W= .ok false W:=by
   intro g c1 c2
   unfold Op.equal
   show(Op.equalIn (9999+1) t _ _).run P W=_
   unfold Op.equalIn
   rw[Sem.run_bind,run_underlying hu,Result.andThen_ok]
   rfl
  refine fin (by simp [binOp,hr]) (by simp [binOp,hr]) (fun op hop W=>?_)
  ·rcases hop with rfl | rfl<;>simp [eqGuard]
 ·simp only[Den,bX]at hx hy
  obtain⟨rfl,_⟩:=hx
  subst hy
  unfold CB at ht
  split at ht<;>try (cases ht;done)
  rename_i hu
  have hr:∀ g c1 c2,(Op.equal t (.func g c1 c2) .nilFunc).run P W= .ok false W:=by
   intro g c1 c2
   unfold Op.equal
   show(Op.equalIn (9999+1) t _ _).run P W=_
   unfold Op.equalIn
   rw[Sem.run_bind,run_underlying hu,Result.andThen_ok]
   rfl
  refine fin (by simp [binOp,hr]) (by simp [binOp,hr]) (fun op hop W=>?_)
  ·rcases hop with rfl | rfl<;>simp [eqGuard]
 ·cases ht
theorem Kx {P:Program} {o:Oper} {fr:Fr} {kb:KB} {K:V->Prop} (h:zm P o fr kb K) {σ:Sg} {E:EH} {n:Nat} {a:Act} (hf:gl σ E fr n a) {W0:World} (hi:Inv σ E kb W0):
  ∃ v x,(∀ W,(execOp a.eval o).run P W= .ok (.value x) W)/\Den σ E v x/\K v:=by
 have sW:(match np P fr o with | some v=>K v | none=>False)->∃ v x,(∀ W,(execOp a.eval o).run P W= .ok (.value x) W)/\Den σ E v x/\K v:=by
  intro h
  split at h
  ·rename_i v hv
   obtain⟨x,h1,h2⟩:=Ox hv hf
   exact⟨v,x,h1,h2,h⟩
  ·exact h.elim
 have Ow:(match np P fr o with | some v=>K v | none=>rZ P o fr K)->∃ v x,(∀ W,(execOp a.eval o).run P W= .ok (.value x) W)/\Den σ E v x/\K v:=by
  intro h
  split at h
  ·rename_i v hv
   obtain⟨x,h1,h2⟩:=Ox hv hf
   exact⟨v,x,h1,h2,h⟩
  ·exact yX h hf
 obtain⟨dst,op,ty,pos,after,guard⟩:=o
 unfold zm at h
 simp only at h
 split at h
 ·split at h
  ·rename_i x v hv;exact⟨v,_,fun W=>rfl,n_ hf hv,h⟩
  ·exact h.elim
 ·split at h
  ·rename_i x v hv;exact⟨v,_,fun W=>rfl,n_ hf hv,h⟩
  ·exact h.elim
 ·rename_i c x y
  split at h
  ·rename_i hc
   have ft:=cq hf hc
   simp only[Den]at ft
   split at h
   ·rename_i v hv;exact⟨v,_,fun W=>by simp [execOp,ft,asBool],n_ hf hv,h⟩
   ·exact h.elim
  ·rename_i hc
   have ft:=cq hf hc
   simp only[Den]at ft
   split at h
   ·rename_i v hv;exact⟨v,_,fun W=>by simp [execOp,ft,asBool],n_ hf hv,h⟩
   ·exact h.elim
  ·rename_i b hc
   have ft:=cq hf hc
   simp only[Den]at ft
   split at h
   ·rename_i u v hu hv
    split at h
    ·rename_i w hw
     exact⟨w,_,fun W=>by simp [execOp,ft,asBool],aew hw (cq hf hu) (cq hf hv),h⟩
    ·exact h.elim
   ·exact h.elim
  ·exact h.elim
 ·rename_i x
  have same:∀{v:V},ev fr x=some v->K v->(∀ y,Den σ E v y->(∃ b o,y= .pointer (some ⟨b,o,none⟩))∨(∃ f first cap,y= .func (.func f) first cap))->
    ∃ v y,(∀ W,(execOp a.eval {dst,op:=.nilCheck x,type:=ty,pos,after,guard }).run P W= .ok (.value y) W)/\Den σ E v y/\K v:=by
   intro v hv hK hs
   have hx':=cq hf hv
   rcases hs _ hx' with ⟨b,o,e⟩ | ⟨f,first,cap,e⟩
   ·exact⟨v,a.eval x,fun W=>by simp [execOp,e],hx',hK⟩
   ·exact⟨v,a.eval x,fun W=>by simp [execOp,e],hx',hK⟩
  split at h
  ·rename_i hx;exact same hx h (fun y hy=>by simp only[Den]at hy;obtain⟨r,_,rfl⟩:=hy;exact .inl ⟨_,_,rfl⟩)
  ·rename_i hx;exact same hx h (fun y hy=>by simp only[Den]at hy;obtain⟨r,_,rfl⟩:=hy;exact .inl ⟨_,_,rfl⟩)
  ·rename_i hx;exact same hx h (fun y hy=>by simp only[Den]at hy;obtain⟨r,_,rfl⟩:=hy;exact .inl ⟨_,_,rfl⟩)
  ·rename_i hx;exact same hx h (fun y hy=>by simp only[Den]at hy;obtain⟨r,_,rfl⟩:=hy;exact .inl ⟨_,_,rfl⟩)
  ·rename_i hx;exact same hx h (fun y hy=>by simp only[Den]at hy;obtain⟨b,off,rfl,_⟩:=hy;exact .inl ⟨_,_,rfl⟩)
  ·rename_i o hx
   obtain⟨e,rfl,h⟩:=h
   have e1:=cq hf hx
   simp only[Den]at e1
   rcases e1 with ⟨e1,_⟩ | ⟨e',b,he,e1,e2⟩
   ·cases e1
   ·cases he
    refine⟨_,a.eval x,fun W=>by simp [execOp,e1],?_,h⟩
    simp only[Den]
    exact⟨b,0,e1,e2⟩
  ·rename_i hx;exact same hx h (fun y hy=>by simp only[Den]at hy;obtain⟨vs,rfl,_⟩:=hy;exact .inr ⟨_,_,_,rfl⟩)
  ·rename_i hx;exact same hx h (fun y hy=>by simp only[Den,bX]at hy;exact .inr ⟨_,_,_,hy.1⟩)
  ·rename_i hx;exact same hx h (fun y hy=>by simp only[Den]at hy;exact .inr ⟨_,_,_,hy⟩)
  ·exact h.elim
 ·split at h
  ·rename_i s x m v hv
   obtain⟨u,z,h1,h2,h3⟩:=aag h (cq hf hv)
   exact⟨u,z,fun W=>by simp [execOp,h1],h2,h3⟩
  ·exact h.elim
 ·split at h
  ·rename_i t x i v u hv hu
   obtain⟨w,z,h1,h2,h3⟩:=abl h hi (cq hf hv) (n_ hf hu)
   exact⟨w,z,fun W=>by simp [execOp,h1],h2,h3⟩
  ·exact h.elim
 ·split at h
  ·rename_i t x lo hi' v l hh hv hl Io
   obtain⟨w,z,h1,h2,h3⟩:=afI h hi (cq hf hv) (yr hf hl) (yr hf Io)
   exact⟨w,z,fun W=>by simp [execOp,h1],h2,h3⟩
  ·exact h.elim
 ·split at h
  ·rename_i t x lo hi' m v l hh mm hv hl Io hm
   obtain⟨w,z,h1,h2,h3⟩:=afH h (cq hf hv) (yr hf hl) (yr hf Io) (yr hf hm)
   exact⟨w,z,fun W=>by have:=h1 W;simp only[Option.map_some]at this;simp [execOp,this],h2,h3⟩
  ·exact h.elim
 ·split at h
  ·rename_i t x v hv
   obtain⟨w,z,h1,h2,h3⟩:=YK h (cq hf hv)
   exact⟨w,z,fun W=>by simp [execOp,h1],h2,h3⟩
  ·exact h.elim
 ·split at h
  ·rename_i t x m u hu
   obtain⟨v,hv,hu⟩:=lO.1 hu
   obtain⟨z,h1,h2⟩:=aah hu (cq hf hv)
   exact⟨u,z,fun W=>by simp [execOp,h1],h2,h⟩
  ·exact h.elim
 ·split at h
  ·rename_i t x i l u hv hu
   obtain⟨w,z,h1,h2,h3⟩:=Z7 h (cq hf hv) (n_ hf hu)
   exact⟨w,z,fun W=>by simp [execOp,h1],h2,h3⟩
  ·exact sW h
 ·split at h
  ·rename_i x m l hv
   split at h
   ·rename_i v hm
    have hx:=cq hf hv
    simp only[Den]at hx
    obtain⟨vs,hx,hD⟩:=hx
    obtain⟨y,hy,hy2⟩:=hD.get hm
    exact⟨v,y,fun W=>by simp [execOp,hx,Instr.extract,hy],hy2,h⟩
   ·exact h.elim
  ·exact h.elim
 ·split at h
  ·rename_i t parts x1 ps hps
   split at h
   ·rename_i l hl
    obtain⟨z,h1,h2⟩:=Y9 hl (Hq hf hps)
    refine⟨_,z,fun W=>?_,h2,h⟩
    have e:(parts.toList.map fun x=>(x.1,a.eval x.2)).toArray=parts.map fun x=>(x.1,a.eval x.2):=by
     apply Array.ext';simp
    have:=h1 W
    rw[show(parts.toList.map fun(i,x)=>(i,a.eval x))=parts.toList.map (fun x=>(x.1,a.eval x.2))from rfl,e]at this
    simp [execOp,this]
   ·exact h.elim
  ·exact h.elim
 ·split at h
  ·rename_i f first cap x1 x2 vs aaY hvs
   have hD:=Hr hf hvs
   have aaZ:first=#[]:=by apply Array.ext';simpa using aaY
   subst aaZ
   refine⟨_,_,fun W=>by simp [execOp,Instr.makeFunc];rfl,?_,h⟩
   simp only[Den]
   exact⟨_,by congr 1;apply Array.ext';simp,hD⟩
  ·exact h.elim
 ·rename_i c
  split at h
  case h_2=>exact sW h
  rename_i x t kE hargs lR
  obtain⟨callee,args,argTypes⟩:=c
  simp only at kE hargs lR
  subst kE
  have pH:args=#[x]:=by apply Array.ext';simpa using hargs
  have pI:argTypes=#[t]:=by apply Array.ext';simpa using lR
  subst pH;subst pI
  have I5:∀{v:V},ev fr x=some v->wE P t v K->∃ v y,(∀ W,(execOp a.eval {dst,op:=.call ⟨.builtin .len,#[x],#[t]⟩,type:=ty,pos,after,guard }).run P W= .ok (.value y) W)/\Den σ E v y/\K v:=by
   intro v hv h
   obtain⟨w,z,h1,h2,h3⟩:=abN h (cq hf hv) ty
   exact⟨w,z,fun W=>by simp [execOp,resolve,invoke,builtin,h1],h2,h3⟩
  split at h<;>try exact h.elim
  rename_i v hv
  split at h
  ·exact I5 hv h
  ·split at h
   ·exact I5 hv h
   ·exact I5 hv h
   ·exact sW h
 ·rename_i t x y _
  split at h<;>try exact h.elim
  rename_i u v hx hy
  split at h
  ·rename_i IK
   exact⟨_,_,fun W=>by
    have:=U9 (x:=x) (y:=y) IK (cq hf hx) (cq hf hy) .eql (.inl rfl) W
    simp only[execOp]
    rw[Sem.run_bind,this,Result.andThen_ok]
    rfl,by simp [Den],h⟩
  ·rename_i xs ys _
   split at h<;>try exact h.elim
   rename_i b hg he
   exact⟨_,_,fun W=>by
    have:=UY (x:=x) (y:=y) hg he (cq hf hx) (cq hf hy) .eql (.inl rfl) W
    simp only[execOp]
    rw[Sem.run_bind,this,Result.andThen_ok]
    rfl,R3 _ _ _ _,h⟩
  ·exact Ow h
 ·rename_i t x y _
  split at h<;>try exact h.elim
  rename_i u v hx hy
  split at h
  ·rename_i IK
   exact⟨_,_,fun W=>by
    have:=U9 (x:=x) (y:=y) IK (cq hf hx) (cq hf hy) .neq (.inr rfl) W
    simp only[execOp]
    rw[Sem.run_bind,this,Result.andThen_ok]
    rfl,by simp [Den],h⟩
  ·rename_i xs ys _
   split at h<;>try exact h.elim
   rename_i b hg he
   exact⟨_,_,fun W=>by
    have:=UY (x:=x) (y:=y) hg he (cq hf hx) (cq hf hy) .neq (.inr rfl) W
    simp only[execOp]
    rw[Sem.run_bind,this,Result.andThen_ok]
    rfl,R3 _ _ _ _,h⟩
  ·exact Ow h
 ·split at h
  ·exact yX h hf
  ·exact sW h
 ·split at h
  ·exact yX h hf
  ·exact sW h
 ·split at h
  ·exact yX h hf
  ·exact sW h
 ·split at h
  ·exact yX h hf
  ·exact sW h
 ·exact sW h
abbrev cd:=FuncId->List V->KB->(V->KB->Prop)->Prop
def cx (P:Program) (X:cd):Prop:=∀ f args kb K,X f args kb K->∀ σ E W xs,Inv σ E kb W->az σ E args xs->
 Calls P f xs.toArray W (fun e W'=>∃ v r σ' E' kb',e= .returned v/\Step σ E kb W σ' E' kb' W'/\Den σ' E' r v/\K r kb')
def QL (P:Program) (f:FuncId):Bool:=
 match P.funcs[f]? with
 |some fn=>fn.body.isSome && !(fn.name == "runtime.NumGoroutine")
 |none=>false
def Hh (P:Program) (X:cd) (o:Oper) (fr:Fr) (kb:KB) (K:V->KB->Prop):Prop:=
 match o.op with
 | .load t x=>match ev fr x with | some ad=>nI P t ad kb (fun v=>K v kb) | none=>False
 | .store t x y=>match ev fr x,lQ fr y with | some ad,some v=>Lw P t ad v kb (fun kb'=>K (.any undef) kb') | _,_=>False
 | .alloc t=>FW P t kb K
 | .lookup t x k ok=>match ev fr x,ev fr k with | some m,some u=>CT P t m u ok kb (fun v=>K v kb) | _,_=>False
 | .mapUpdate t x k y=>match ev fr x,ev fr k,lQ fr y with | some m,some u,some v=>Ee P t m u v kb (fun kb'=>K (.any undef) kb') | _,_,_=>False
 | .insert t x k y=>match ev fr x,ev fr k,lQ fr y with | some m,some u,some v=>Ee P t m u v kb (fun kb'=>K (.any undef) kb') | _,_,_=>False
 | .makeMap t none=>Jj P t kb K
 | .makeSlice t l c=>match ev fr l,ev fr c with | some n,some m=>Jk P t n m kb K | _,_=>False
 | .box t x=>match lQ fr x with | some v=>Gm P t v kb K | none=>False
 | .buildSlice t len parts=>match wb fr parts.toList with | some ps=>Gp P t len ps kb K | none=>False
 | .convert src dst x=>match ev fr x with | some v=>Lx P src dst v kb K | none=>False
 | .call c=>match c.callee with
  | .builtin .append=>match c.args.toList,c.argTypes.toList with
   | [x,y],[t,u]=>match ev fr x,ev fr y with | some d,some s=>FZ P t u d s kb K | _,_=>False
   |_,_=>False
  | .builtin .copy=>match c.args.toList,c.argTypes.toList with
   | [x,y],[t,u]=>match ev fr x,ev fr y with | some d,some s=>GQ P t d s kb K | _,_=>False
   |_,_=>False
  | .builtin .delete=>match c.args.toList,c.argTypes.toList with
   | [x,y],[t,u]=>match ev fr x,ev fr y with | some d,some s=>GX P t d s kb (fun kb'=>K (.φ []) kb') | _,_=>False
   |_,_=>False
  | .builtin .clear=>match c.args.toList,c.argTypes.toList with
   | [x],[t]=>match ev fr x with | some d=>GG P t d kb (fun kb'=>K (.φ []) kb') | _=>False
   |_,_=>False
  | .builtin .len=>match c.args.toList,c.argTypes.toList with
   | [x],[t]=>match ev fr x with | some d=>Jl P t d kb (fun v=>K v kb) | _=>False
   |_,_=>False
  | .value f=>match ev fr f,evs fr c.args.toList with
   |some (.fn g cap),some vs=>match QL P g with | true=>X g (vs++cap) kb K | false=>False
   |_,_=>False
  |_=>False
 |_=>False
def tG (P:Program) (X:cd) (o:Oper) (fr:Fr) (kb:KB) (K:V->KB->Prop):Prop:=
 match isPure P o.op with
 |true=>zm P o fr kb (fun v=>K v kb)
 |false=>Hh P X o fr kb K
def z7 (σ:Sg) (E:EH) (kb:KB) (W:World) (a:Act) (o:Oper) (K:V->KB->Prop) (a':Act) (W':World):Prop:=
 ∃ σ' E' kb' v x,Step σ E kb W σ' E' kb' W'/\Den σ' E' v x/\a'=a.put o.dst x/\K v kb'
theorem l8 {P:Program} {o:Oper} {a:Act} {W:World} {next:Act->World->Prop} {Q:Exit->Act->World->Prop} {x:Value} {W':World} (h:(execOp a.eval o).run P W= .ok (.value x) W') (k:next (a.put o.dst x) W'):o.wp P a W next Q:=by
 unfold Oper.wp;rw[h];exact k
theorem Kh {P:Program} {X:cd} (hX:cx P X) {o:Oper} {fr:Fr} {kb:KB} {K:V->KB->Prop} (h:tG P X o fr kb K) {σ:Sg} {E:EH} {n:Nat} {a:Act} (hf:gl σ E fr n a) {W:World} (hi:Inv σ E kb W) (Q:Exit->Act->World->Prop):
  o.wp P a W (z7 σ E kb W a o K) Q:=by
 unfold tG at h
 split at h
 ·obtain⟨v,x,h1,h2,h3⟩:=Kx h hf hi
  exact l8 (h1 W) ⟨σ,E,kb,v,x,Step.refl hi,h2,rfl,h3⟩
 ·rename_i hpure
  clear hpure
  obtain⟨dst,op,ty,pos,after,guard⟩:=o
  unfold Hh at h
  simp only at h
  split at h
  ·split at h
   ·rename_i t x ad had
    obtain⟨v,y,h1,h2,h3⟩:=I_ h hi (cq hf had)
    exact l8 (by simp [execOp,h1]) ⟨σ,E,kb,v,y,Step.refl hi,h2,rfl,h3⟩
   ·exact h.elim
  ·split at h
   ·rename_i t x y x1 x2 ad v had hv
    obtain⟨E',kb',W',h1,h2,h3⟩:=agi h hi (cq hf had) (n_ hf hv)
    unfold Oper.wp
    rw[show(execOp a.eval {dst,op:=.store t x y,type:=ty,pos,after,guard }).run P W= .ok .skip W' by simp [execOp,h1]]
    exact⟨σ,E',kb',.any undef,undef,h2,by simp [Den],rfl,h3⟩
   ·exact h.elim
  ·rename_i t
   obtain⟨v,x,σ',kb',W',h1,h2,h3,h4,_⟩:=N1 h hi
   exact l8 (by simp [execOp,h1]) ⟨σ',E,kb',v,x,h2,h3,rfl,h4⟩
  ·split at h
   ·rename_i t x k ok x1 x2 m u hm hu
    obtain⟨v,y,h1,h2,h3⟩:=Sb h hi (cq hf hm) (cq hf hu)
    exact l8 (by simp [execOp,h1]) ⟨σ,E,kb,v,y,Step.refl hi,h2,rfl,h3⟩
   ·exact h.elim
  ·split at h
   ·rename_i t x k y x1 x2 x3 m u v hm hu hv
    obtain⟨E',kb',W',h1,h2,h3⟩:=WG h hi (cq hf hm) (cq hf hu) (n_ hf hv)
    unfold Oper.wp
    rw[show(execOp a.eval {dst,op:=.mapUpdate t x k y,type:=ty,pos,after,guard }).run P W= .ok .skip W' by simp [execOp,h1]]
    exact⟨σ,E',kb',.any undef,undef,h2,by simp [Den],rfl,h3⟩
   ·exact h.elim
  ·split at h
   ·rename_i t x k y x1 x2 x3 m u v hm hu hv
    obtain⟨E',kb',W',h1,h2,h3⟩:=WG h hi (cq hf hm) (cq hf hu) (n_ hf hv)
    unfold Oper.wp
    rw[show(execOp a.eval {dst,op:=.insert t x k y,type:=ty,pos,after,guard }).run P W= .ok .skip W' by simp [execOp,h1]]
    exact⟨σ,E',kb',.any undef,undef,h2,by simp [Den],rfl,h3⟩
   ·exact h.elim
  ·rename_i t
   obtain⟨v,x,σ',kb',W',h1,h2,h3,h4⟩:=ab2 h hi
   exact l8 (by simp [execOp,h1]) ⟨σ',E,kb',v,x,h2,h3,rfl,h4⟩
  ·split at h
   ·rename_i t l c x1 x2 n m hn hm
    obtain⟨v,x,σ',kb',W',h1,h2,h3,h4⟩:=ab3 h hi (cq hf hn) (cq hf hm)
    exact l8 (by simp [execOp,h1]) ⟨σ',E,kb',v,x,h2,h3,rfl,h4⟩
   ·exact h.elim
  ·split at h
   ·rename_i t x v hv
    obtain⟨u,y,σ',kb',W',h1,h2,h3,h4⟩:=Y6 h hi (n_ hf hv)
    exact l8 (by simp [execOp,h1]) ⟨σ',E,kb',u,y,h2,h3,rfl,h4⟩
   ·exact h.elim
  ·split at h
   ·rename_i t len parts x1 ps hps
    obtain⟨u,y,σ',E',kb',W',h1,h2,h3,h4⟩:=Y8 h hi (Hq hf hps)
    have e:(parts.toList.map fun x=>(x.1,a.eval x.2)).toArray=parts.map fun x=>(x.1,a.eval x.2):=by
     apply Array.ext';simp
    rw[show(parts.toList.map fun(i,x)=>(i,a.eval x))=parts.toList.map (fun x=>(x.1,a.eval x.2))from rfl,e]at h1
    exact l8 (by simp [execOp,h1]) ⟨σ',E',kb',u,y,h2,h3,rfl,h4⟩
   ·exact h.elim
  ·split at h
   ·rename_i src dst' x v hv
    obtain⟨u,y,E',kb',W',h1,h2,h3,h4⟩:=agj h hi (cq hf hv)
    exact l8 (by simp [execOp,h1]) ⟨σ,E',kb',u,y,h2,h3,rfl,h4⟩
   ·exact h.elim
  ·rename_i c
   split at h
   ·rename_i kE
    split at h
    ·rename_i x y t u hargs lR
     split at h
     ·rename_i d s hd hs
      obtain⟨callee,args,argTypes⟩:=c
      simp only at kE hargs lR
      subst kE
      have pH:args=#[x,y]:=by apply Array.ext';simpa using hargs
      have pI:argTypes=#[t,u]:=by apply Array.ext';simpa using lR
      subst pH;subst pI
      obtain⟨v,z,σ',kb',W',h1,h2,h3,h4⟩:=YI h hi (cq hf hd) (cq hf hs) ty
      exact l8 (by simp [execOp,resolve,invoke,builtin,h1]) ⟨σ',E,kb',v,z,h2,h3,rfl,h4⟩
     ·exact h.elim
    ·exact h.elim
   ·rename_i kE
    split at h
    ·rename_i x y t u hargs lR
     split at h
     ·rename_i d s hd hs
      obtain⟨callee,args,argTypes⟩:=c
      simp only at kE hargs lR
      subst kE
      have pH:args=#[x,y]:=by apply Array.ext';simpa using hargs
      have pI:argTypes=#[t,u]:=by apply Array.ext';simpa using lR
      subst pH;subst pI
      obtain⟨v,z,kb',W',h1,h2,h3,h4⟩:=Zy h hi (cq hf hd) (cq hf hs) u ty
      exact l8 (by simp [execOp,resolve,invoke,builtin,h1]) ⟨σ,E,kb',v,z,h2,h3,rfl,h4⟩
     ·exact h.elim
    ·exact h.elim
   ·rename_i kE
    split at h
    ·rename_i x y t u hargs lR
     split at h
     ·rename_i d s hd hs
      obtain⟨callee,args,argTypes⟩:=c
      simp only at kE hargs lR
      subst kE
      have pH:args=#[x,y]:=by apply Array.ext';simpa using hargs
      have pI:argTypes=#[t,u]:=by apply Array.ext';simpa using lR
      subst pH;subst pI
      obtain⟨kb',W',h1,h2,h3⟩:=ZN h hi (cq hf hd) (cq hf hs) u ty
      exact l8 (by simp [execOp,resolve,invoke,builtin,h1]) ⟨σ,E,kb',.φ [],.tuple #[],h2,by simp [Den,az],rfl,h3⟩
     ·exact h.elim
    ·exact h.elim
   ·rename_i kE
    split at h
    ·rename_i x t hargs lR
     split at h
     ·rename_i d hd
      obtain⟨callee,args,argTypes⟩:=c
      simp only at kE hargs lR
      subst kE
      have pH:args=#[x]:=by apply Array.ext';simpa using hargs
      have pI:argTypes=#[t]:=by apply Array.ext';simpa using lR
      subst pH;subst pI
      obtain⟨kb',W',h1,h2,h3⟩:=Zq h hi (cq hf hd) ty
      exact l8 (by simp [execOp,resolve,invoke,builtin,h1]) ⟨σ,E,kb',.φ [],.tuple #[],h2,by simp [Den,az],rfl,h3⟩
     ·exact h.elim
    ·exact h.elim
   ·rename_i kE
    split at h
    ·rename_i x t hargs lR
     split at h
     ·rename_i d hd
      obtain⟨callee,args,argTypes⟩:=c
      simp only at kE hargs lR
      subst kE
      have pH:args=#[x]:=by apply Array.ext';simpa using hargs
      have pI:argTypes=#[t]:=by apply Array.ext';simpa using lR
      subst pH;subst pI
      obtain⟨v,z,h1,h2,h3⟩:=ab4 h hi (cq hf hd) ty
      exact l8 (by simp [execOp,resolve,invoke,builtin,h1]) ⟨σ,E,kb,v,z,Step.refl hi,h2,rfl,h3⟩
     ·exact h.elim
    ·exact h.elim
   ·rename_i fo kE
    split at h
    ·rename_i g cap vs hg hvs
     split at h
     ·rename_i hb
      obtain⟨callee,args,argTypes⟩:=c
      simp only at kE hvs
      subst kE
      have Q5:=cq hf hg
      simp only[Den]at Q5
      obtain⟨cs,hfe,hcs⟩:=Q5
      have hD:=Hr hf hvs
      have aaN:=hX g _ kb K h σ E W _ hi (hD.append hcs)
      unfold QL at hb
      split at hb
      ·rename_i fn hfn
       simp only[jo,mA,beq_eq_false_iff_ne,ne_eq]at hb
       unfold Oper.wp
       have hrun:(execOp a.eval {dst,op:=.call ⟨.value fo,args,argTypes⟩,type:=ty,pos,after,guard }).run P W= .ok (.enter g (args.toList.map a.eval++cs).toArray) W:=by
        have e:(args.toList.map a.eval++cs).toArray=args.map a.eval++cs.toArray:=by apply Array.ext';simp
        obtain⟨body,hbody⟩:=Option.isSome_iff_exists.1 hb.1
        rw[e]
        simp [execOp,resolve,Deferred.ofValue,hfe,invoke,callFunc,hfn,hb.2,hbody]
       rw[hrun]
       refine aaN.mono ?_
       rintro e W' ⟨v,r,σ',E',kb',rfl,h1,h2,h3⟩
       exact⟨σ',E',kb',r,v,h1,h2,rfl,h3⟩
      ·cases hb
     ·exact h.elim
    ·exact h.elim
   ·exact h.elim
  ·exact h.elim
def wi (ops:Array Oper) (o:Oper) (fr:Fr) (yes no:Fr->Prop):Prop:=
 match o.guard with
 |none=>yes fr
 |some (j,want)=>match (ops[j]?).bind (·.dst)with
  |some d=>match look fr d with
   |some .tt=>match want with | true=>yes fr | false=>no fr
   |some .ff=>match want with | true=>no fr | false=>yes fr
   |some (.sb b)=>(b=true->match want with | true=>yes ((d,.tt)::fr) | false=>no ((d,.tt)::fr))/\
    (b=false->match want with | true=>no ((d,.ff)::fr) | false=>yes ((d,.ff)::fr))
   |some (.any (.tuple _))=>no fr
   |_=>False
  |none=>no fr
theorem gl.vd {σ:Sg} {E:EH} {fr:Fr} {n:Nat} {a:Act} (h:gl σ E fr n a) {d:Nat} {v u:V} (hv:look fr d=some v) (hu:∀ x,Den σ E v x->Den σ E u x):gl σ E ((d,u)::fr) n a:=by
 refine⟨h.size,h.defers,fun t w hw=>?_⟩
 simp only[look]at hw
 split at hw
 ·rename_i hb
  have:=de hb
  subst this
  cases hw
  obtain⟨x,h1,h2⟩:=h.get _ _ hv
  exact⟨x,h1,hu x h2⟩
 ·exact h.get t w hw
theorem B7 {ops:Array Oper} {o:Oper} {fr:Fr} {yes no:Fr->Prop} (h:wi ops o fr yes no) {σ:Sg} {E:EH} {n:Nat} {a:Act} (hf:gl σ E fr n a):
  ∃ fr',gl σ E fr' n a/\((Region.wanted o (yielded ops a.tmps)=true/\yes fr')∨(Region.wanted o (yielded ops a.tmps)=false/\no fr')):=by
 unfold wi at h
 split at h
 ·rename_i hg
  exact⟨fr,hf,.inl ⟨by simp [Region.wanted,hg],h⟩⟩
 ·rename_i j want hg
  split at h
  ·rename_i d hd
   have key:∀ b,a.tmps[d]? =some (.bool b)->Region.wanted o (yielded ops a.tmps)=(b == want):=by
    intro b hb
    simp [Region.wanted,hg,yielded,hd,hb]
   split at h
   ·rename_i hl
    obtain⟨x,h1,h2⟩:=hf.get _ _ hl
    simp only[Den]at h2;subst h2
    cases want
    ·exact⟨fr,hf,.inr ⟨by rw[key _ h1];rfl,h⟩⟩
    ·exact⟨fr,hf,.inl ⟨by rw[key _ h1];rfl,h⟩⟩
   ·rename_i hl
    obtain⟨x,h1,h2⟩:=hf.get _ _ hl
    simp only[Den]at h2;subst h2
    cases want
    ·exact⟨fr,hf,.inl ⟨by rw[key _ h1];rfl,h⟩⟩
    ·exact⟨fr,hf,.inr ⟨by rw[key _ h1];rfl,h⟩⟩
   ·rename_i b hl
    obtain⟨x,h1,h2⟩:=hf.get _ _ hl
    simp only[Den]at h2;subst h2
    cases b
    ·have hf':gl σ E ((d,.ff)::fr) n a:=hf.vd hl (fun x hx=>by simpa [Den]using hx)
     have h':=h.2 rfl
     cases want
     ·exact⟨_,hf',.inl ⟨by rw[key _ h1];rfl,h'⟩⟩
     ·exact⟨_,hf',.inr ⟨by rw[key _ h1];rfl,h'⟩⟩
    ·have hf':gl σ E ((d,.tt)::fr) n a:=hf.vd hl (fun x hx=>by simpa [Den]using hx)
     have h':=h.1 rfl
     cases want
     ·exact⟨_,hf',.inr ⟨by rw[key _ h1];rfl,h'⟩⟩
     ·exact⟨_,hf',.inl ⟨by rw[key _ h1];rfl,h'⟩⟩
   ·rename_i vs hl
    obtain⟨x,h1,h2⟩:=hf.get _ _ hl
    simp only[Den]at h2;subst h2
    exact⟨fr,hf,.inr ⟨by simp [Region.wanted,hg,yielded,hd,h1],h⟩⟩
   ·exact h.elim
  ·rename_i hd
   exact⟨fr,hf,.inr ⟨by simp [Region.wanted,hg,yielded,hd],h⟩⟩
def zx (P:Program) (X:cd) (n:Nat) (ops:Array Oper):List Oper->(Fr->KB->Prop)->Fr->KB->Prop
 | [],K,fr,kb=>K fr kb
 |o::rest,K,fr,kb=>wi ops o fr (fun fr=>tG P X o fr kb (fun v kb'=>mV n o.dst v fr (fun fr'=>zx P X n ops rest K fr' kb')))
  (fun fr=>mV n o.dst (.any undef) fr (fun fr'=>zx P X n ops rest K fr' kb))
structure Cx where
 σ:Sg
 E:EH
 kb:KB
 W:World
def oH (c:Cx) (n:Nat) (K:Fr->KB->Prop) (a:Act) (W:World):Prop:=
 ∃ σ E fr kb,Step c.σ c.E c.kb c.W σ E kb W/\gl σ E fr n a/\K fr kb
theorem z7.hat {c:Cx} {n:Nat} {σ:Sg} {E:EH} {kb:KB} {W:World} (hs:Step c.σ c.E c.kb c.W σ E kb W) {a:Act} {fr:Fr} (hf:gl σ E fr n a) {o:Oper} {K:Fr->KB->Prop} {a':Act} {W':World}
  (h:z7 σ E kb W a o (fun v kb'=>mV n o.dst v fr (fun fr'=>K fr' kb')) a' W'):oH c n K a' W':=by
 obtain⟨σ',E',kb',v,x,h1,h2,rfl,h3⟩:=h
 obtain⟨τ,rfl⟩:=h1.pre
 obtain⟨fr',h4,h5⟩:=o_ h3 (hf.mono h1.le) h2
 exact⟨_,E',fr',kb',hs.trans h1,h4,h5⟩
theorem K7 {P:Program} {X:cd} (hX:cx P X) {c:Cx} {n:Nat} {ops:Array Oper} {Q:Exit->Act->World->Prop} {K:Fr->KB->Prop} (hQ:∀ a W,oH c n K a W->Q .normal a W):
  ∀{l:List Oper} {a:Act} {W:World},oH c n (zx P X n ops l K) a W->wpList P ops Q l a W
 | [],a,W,h=>hQ a W h
 |o::rest,a,W,h=>by
  obtain⟨σ,E,fr,kb,hs,hf,h⟩:=h
  simp only[zx]at h
  obtain⟨fr',hf',h | h⟩:=B7 h hf
  ·unfold wpList
   rw[if_pos h.1]
   refine .inl ?_
   exact Oper.wp_mono (fun a' W' ha=>K7 hX hQ (ha.hat hs hf')) (Kh hX h.2 hf' hs.inv Q)
  ·unfold wpList
   rw[if_neg (by simp [h.1])]
   obtain⟨jv,h1,h2⟩:=o_ h.2 hf' (σ:=σ) (E:=E) (x:=undef) (by simp [Den])
   exact K7 hX hQ ⟨σ,E,jv,kb,hs,h1,h2⟩
def qV (P:Program) (ops:Array Oper) (Q:Exit->Act->World->Prop) (G:Array Bool->Nat->World->World->Prop):Nat->Array Bool->Act->World->Prop
 | 0,listed,a,w=>Region.ready .any ops listed=[]/\Q .normal a w
 |fuel+1,listed,a,w=>
  (Region.ready .any ops listed=[]->Q .normal a w)/\
  ∀ i∈Region.ready .any ops listed,wpOp P ops Q i (fun a' w'=>G listed i w w'/\qV P ops Q G fuel (listed.setIfInBounds i true) a' w') a w
theorem qV.any {P:Program} {ops:Array Oper} {Q:Exit->Act->World->Prop} {G:Array Bool->Nat->World->World->Prop}:∀{fuel:Nat} {listed:Array Bool} {a:Act} {w:World},qV P ops Q G fuel listed a w->wpAny P .any ops Q fuel listed a w
 | 0,_,_,_,h=>h
 |fuel+1,_,_,_,h=>⟨h.1,fun i hi=>wpOp_mono (fun a' w' h'=>h'.2.any) (h.2 i hi)⟩
theorem qV.weaken {P:Program} {ops:Array Oper} {Q:Exit->Act->World->Prop} {G G':Array Bool->Nat->World->World->Prop} (hG:∀ l i w w',G l i w w'->G' l i w w'):∀{fuel:Nat} {listed:Array Bool} {a:Act} {w:World},qV P ops Q G fuel listed a w->qV P ops Q G' fuel listed a w
 | 0,_,_,_,h=>h
 |fuel+1,_,_,_,h=>⟨h.1,fun i hi=>wpOp_mono (fun a' w' h'=>⟨hG _ _ _ _ h'.1,h'.2.weaken hG⟩) (h.2 i hi)⟩
def nZ (P:Program) (ops:Array Oper) (i:Nat):Bool:=
 match ops[i]? with
 |some o=>isPure P o.op || (match o.op with | .load .. =>true | .lookup .. =>true | _=>false)
 |none=>false
def oZ (l:List Nat):Nat:=l.foldr (fun i s=>iW s (2 ^ i)) 0
theorem wL:∀(l:List Nat) (i:Nat),(oZ l).testBit i=decide (i∈l)
 | [],i=>by simp [oZ]
 |a::l,i=>by
  have ih:=wL l i
  simp only[oZ,List.foldr_cons]at ih ⊢
  show(List.foldr (fun i s=>iW s (2 ^ i)) 0 l ||| 2 ^ a).testBit i=_
  rw[Nat.testBit_or,ih,Nat.testBit_two_pow]
  by_cases h:a=i
  ·subst h;simp
  ·have h':¬ i=a:=fun e=>h e.symm
   simp [h,h']
structure f_ where
 am:Nat
 rd:Nat
 wr:Nat
 v_:Bool
 al:Bool
def CA:Op->Bool
 | .alloc _=>true
 |_=>false
def FX (o:Oper):List Nat:=(o.after.toList.filter (Region.binds .any)).map (·.on)
def ib (P:Program) (ops:Array Oper) (i:Nat):f_:=
 match ops[i]? with
 |some o=>⟨oZ (FX o),oZ (o.looksAt ops),match o.dst with | some d=>2 ^ d | none=>0,nZ P ops i,CA o.op⟩
 |none=>⟨0,0,0,false,false⟩
def jB (P:Program) (ops:Array Oper):Nat->Nat->List f_
 |_,0=>[]
 |i,n+1=>ib P ops i::jB P ops (i+1) n
def r7:List f_->Nat->Nat->Nat->Nat
 | [],_,_,acc=>acc
 |o::r,k,m,acc=>match Nat.testBit m k with
  |true=>r7 r (k+1) m (iW acc o.am)
  |false=>r7 r (k+1) m acc
def s9 (plan:List f_):Nat->Nat->Nat
 | 0,m=>m
 |f+1,m=>s9 plan f (r7 plan 0 m m)
def direct (ops:Array Oper) (j i:Nat):Bool:=
 match ops[j]? with
 |some o=>o.after.any fun e=>Region.binds .any e && e.on == i
 |none=>false
theorem x7 {P:Program} {ops:Array Oper} {j i:Nat}:(ib P ops j).am.testBit i=direct ops j i:=by
 unfold ib direct
 split
 ·rename_i o ho
  rw[wL,Bool.eq_iff_iff,decide_eq_true_eq,Array.any_eq_true']
  simp only[FX,dO,lu,Array.mem_toList_iff,jo,beq_iff_eq]
  constructor
  ·rintro⟨e,⟨h1,h2⟩,h3⟩;exact⟨e,h1,h2,h3⟩
  ·rintro⟨e,h1,h2,h3⟩;exact⟨e,⟨h1,h2⟩,h3⟩
 ·simp
def waits (P:Program) (ops:Array Oper) (j i:Nat):Bool:=Nat.testBit (s9 (jB P ops 0 ops.size) 12 (ib P ops j).am) i
theorem Uk {P:Program} {ops:Array Oper}:∀{n k q:Nat} {o:f_},(jB P ops k n)[q]? =some o->o=ib P ops (k+q)
 | 0,k,q,o,h=>by simp [jB]at h
 |n+1,k,0,o,h=>by simp [jB]at h;simpa using h.symm
 |n+1,k,q+1,o,h=>by
  have:=Uk (n:=n) (k:=k+1) (q:=q) (o:=o) (by simpa [jB]using h)
  rw[this];congr 1;omega
theorem Kj {S:Nat->Prop}:∀{l:List f_} {k m acc:Nat},(∀ i,acc.testBit i=true->S i)->(∀ q o,l[q]? =some o->m.testBit (k+q)=true->∀ i,o.am.testBit i=true->S i)->∀ i,(r7 l k m acc).testBit i=true->S i
 | [],k,m,acc,h1,h2,i,hi=>h1 i (by simpa [r7]using hi)
 |o::r,k,m,acc,h1,h2,i,hi=>by
  have hr:∀ q o',r[q]? =some o'->m.testBit (k+1+q)=true->∀ i,o'.am.testBit i=true->S i:=fun q o' hq hm=>h2 (q+1) o' (by simpa using hq) (by rw[show k+(q+1)=k+1+q by omega];exact hm)
  simp only[r7]at hi
  split at hi
  ·rename_i hm
   refine Kj (acc:=iW acc o.am) (fun i hi=>?_) hr i hi
   have hi':(acc ||| o.am).testBit i=true:=hi
   rw[Nat.testBit_or,Bool.or_eq_true]at hi'
   rcases hi' with hi' | hi'
   ·exact h1 i hi'
   ·exact h2 0 o rfl hm i hi'
  ·exact Kj h1 hr i hi
theorem OI {S:Nat->Prop} {plan:List f_} (hc:∀ q o,plan[q]? =some o->S q->∀ i,o.am.testBit i=true->S i):∀{f m:Nat},(∀ i,m.testBit i=true->S i)->∀ i,(s9 plan f m).testBit i=true->S i
 | 0,m,h,i,hi=>h i (by simpa [s9]using hi)
 |f+1,m,h,i,hi=>OI hc (f:=f) (m:=r7 plan 0 m m) (Kj h (fun q o hq hm=>hc q o hq (h q (by simpa using hm)))) i (by simpa [s9]using hi)
theorem aer {plan:List f_}:∀{k acc:Nat},r7 plan k 0 acc=acc:=by
 induction plan with
 |nil=>intro k acc;rfl
 |cons o r ih=>intro k acc;simp [r7,ih]
theorem OJ {plan:List f_}:∀{f:Nat},s9 plan f 0=0
 | 0=>rfl
 |f+1=>by simp only[s9,aer];exact OJ
def Closed (ops:Array Oper) (listed:Array Bool):Prop:=∀ k i,listed.getD k false=true->direct ops k i=true->listed.getD i false=true
theorem UK {ops:Array Oper} {listed:Array Bool} {j:Nat} (hj:j∈Region.ready .any ops listed):∀ i,direct ops j i=true->listed.getD i false=true:=by
 obtain⟨_,o,ho,hall⟩:=mem_ready.1 hj
 intro i h
 unfold direct at h
 rw[ho]at h
 obtain⟨e,he,hb⟩:=Array.any_eq_true'.1 h
 simp only[jo,beq_iff_eq]at hb
 rw[<- hb.2]
 exact hall e he hb.1
theorem KJ {ops:Array Oper} {listed:Array Bool} {j:Nat} (hj:j∈Region.ready .any ops listed):listed.getD j false=false:=by
 have h0:=(mem_ready.1 hj).1
 rcases kx j listed.size with h' | h'
 ·simp [h']at h0 ⊢;exact h0
 ·simp [Array.getElem?_eq_none h']
theorem Xa {P:Program} {ops:Array Oper} {listed:Array Bool} (hc:Closed ops listed) {j:Nat} (hj:∀ i,direct ops j i=true->listed.getD i false=true) {i:Nat} (h:waits P ops j i=true):listed.getD i false=true:=
 OI (S:=fun i=>listed.getD i false=true) (fun q o hq hS i hi=>by
  have:=Uk hq
  rw[this,x7,c9]at hi
  exact hc q i hS hi) (fun i hi=>hj i (by rw[x7]at hi;exact hi)) i h
theorem Closed.empty {ops:Array Oper} {n:Nat}:Closed ops (Array.replicate n false):=fun k i h=>by
 simp only[Array.getD_eq_getD_getElem?,Array.getElem?_replicate]at h
 split at h<;>simp at h
theorem Closed.set {ops:Array Oper} {listed:Array Bool} (hc:Closed ops listed) {j:Nat} (hj:j∈Region.ready .any ops listed):Closed ops (listed.setIfInBounds j true):=by
 have up:∀ i,listed.getD i false=true->(listed.setIfInBounds j true).getD i false=true:=fun i hi=>by
  by_cases hji:j=i
  ·subst hji;rw[KJ hj]at hi;cases hi
  ·rw[getD_set_ne false hji];exact hi
 intro k i hk hd
 by_cases hjk:j=k
 ·subst hjk;exact up i (UK hj i hd)
 ·rw[getD_set_ne false hjk]at hk
  exact up i (hc k i hk hd)
theorem S3 {P:Program} {ops:Array Oper} {listed:Array Bool} (hc:Closed ops listed) {i j:Nat} (hj:j∈Region.ready .any ops listed) (hi:i∈Region.ready .any ops listed):waits P ops j i=false:=by
 rw[Bool.eq_false_iff]
 intro h
 have:=Xa hc (UK hj) h
 rw[KJ hi]at this;cases this
def nK (P:Program) (ops:Array Oper) (listed:Array Bool) (i:Nat):Bool:=(jb ops.size).all fun k=> !(waits P ops k i) || (nZ P ops k || !(listed.getD k false))
theorem ai5 {P:Program} {ops:Array Oper} {k i:Nat} (h:waits P ops k i=true):k<ops.size:=by
 rcases kx k ops.size with h' | h'
 ·exact h'
 ·unfold waits ib at h
  rw[Array.getElem?_eq_none h']at h
  simp only[OJ]at h
  simp at h
theorem Da {P:Program} {ops:Array Oper} {listed:Array Bool} {i:Nat}:nK P ops listed i=true ↔ ∀ k,waits P ops k i=true->nZ P ops k=false->listed.getD k false=false:=by
 unfold nK
 simp only[List.all_eq_true,List.mem_range,Bool.or_eq_true,mA]
 constructor
 ·intro h k hk he
  rcases h k (ai5 hk)with h1 | h1 | h1
  ·rw[hk]at h1;cases h1
  ·rw[he]at h1;cases h1
  ·exact h1
 ·intro h k _
  cases hk:waits P ops k i
  ·exact .inl rfl
  ·cases he:nZ P ops k
   ·exact .inr (.inr (h k hk he))
   ·exact .inr (.inl rfl)
theorem aax {listed:Array Bool} {j k:Nat} (h:(listed.setIfInBounds j true).getD k false=false):listed.getD k false=false:=by
 by_cases hjk:j=k
 ·subst hjk
  rcases kx j listed.size with h' | h'
  ·simp [h']at h
  ·simp [Array.getElem?_eq_none h']
 ·rw[getD_set_ne false hjk]at h;exact h
theorem JM {P:Program} {ops:Array Oper} {listed:Array Bool} {i j:Nat} (h:nK P ops listed i=true) (hw:waits P ops j i=false∨nZ P ops j=true):nK P ops (listed.setIfInBounds j true) i=true:=by
 rw[Da]at h ⊢
 intro k hk he
 have hjk:j≠k:=fun e=>by
  subst e
  rcases hw with hw | hw
  ·rw[hk]at hw;cases hw
  ·rw[he]at hw;cases hw
 rw[getD_set_ne false hjk]
 exact h k hk he
theorem wP {P:Program} {ops:Array Oper} {listed:Array Bool} {i j:Nat} (h:nK P ops (listed.setIfInBounds j true) i=true):nK P ops listed i=true:=by
 rw[Da]at h ⊢
 exact fun k hk he=>aax (h k hk he)
theorem Db {P:Program} {ops:Array Oper} {listed:Array Bool} {i j:Nat} (hj:j<listed.size) (he:nZ P ops j=false) (h:nK P ops (listed.setIfInBounds j true) i=true):waits P ops j i=false:=by
 rw[Da]at h
 cases hw:waits P ops j i
 ·rfl
 ·have:=h j hw he
  simp [hj]at this
def YC (P:Program) (ops:Array Oper) (C:World->Prop) (o:Oper) (v:Value) (a:Act):Prop:=
 (Region.wanted o (yielded ops a.tmps)=true/\∀ w,C w->(execOp a.eval o).run P w= .ok (.value v) w)∨
 (Region.wanted o (yielded ops a.tmps)=false/\v=undef)
theorem YC.of_same {P:Program} {ops:Array Oper} {C:World->Prop} {o:Oper} {v:Value} {a a':Act} (hy:YC P ops C o v a) (he:execOp a'.eval o=execOp a.eval o)
  (hw:Region.wanted o (yielded ops a'.tmps)=Region.wanted o (yielded ops a.tmps)):YC P ops C o v a':=by
 unfold YC at*
 rw[he,hw]
 exact hy
theorem YC.wpOp {P:Program} {ops:Array Oper} {Q:Exit->Act->World->Prop} {C:World->Prop} {i:Nat} {o:Oper} {v:Value} {a:Act} (hi:ops[i]? =some o) (hy:YC P ops C o v a)
  {K:Act->World->Prop} {w:World} (hC:C w) (h:K (a.put o.dst v) w):wpOp P ops Q i K a w:=by
 unfold Go.wpOp
 simp only[hi]
 rcases hy with ⟨hw,hv⟩ | ⟨hw,rfl⟩
 ·simp only[hw,if_true,Oper.wp,hv w hC,Oper.upon];exact .inl h
 ·simp only[hw,Bool.false_eq_true,if_false];exact h
theorem aja {P:Program} {ops:Array Oper} {Q:Exit->Act->World->Prop} {C:World->Prop} {j:Nat} {oi oj:Oper} {v:Value} (hj:ops[j]? =some oj) (hap:oi.apart ops oj=true)
  (hsi:∀ cs b,oi.op≠.select cs b) (hsj:∀ cs b,oj.op≠.select cs b)
  (hQ:∀ c a w,Q (.panic c) (a.put oi.dst v) w->Q (.panic c) a w) {K:Act->World->Prop} {a:Act} {w:World}
  (hy:YC P ops C oi v a) (h:wpOp P ops Q j K (a.put oi.dst v) w):
  wpOp P ops Q j (fun a' w'=>YC P ops C oi v a'/\K (a'.put oi.dst v) w') a w:=by
 obtain⟨h1,h2,h3⟩:=Oper.apart_spec hap
 have keep:∀(a:Act),YC P ops C oi v a->∀ u,YC P ops C oi v (a.put oj.dst u):=fun a hy u=>
  hy.of_same (execOp_put oi hsi a oj.dst u h3) (wanted_put oi a oj.dst u h3)
 have abw:∀ d,YC P ops C oi v {a with defers:=d::a.defers }:=fun d=>hy.of_same rfl rfl
 unfold wpOp at*
 simp only[hj]at*
 rw[wanted_put oj a oi.dst v h1]at h
 split
 ·rename_i hw
  simp only[hw,if_true]at h
  rcases h with h | ⟨hasks,aa_⟩
  case inr=>exact .inr ⟨by unfold Oper.asks at*;rw[execOp_put oj hsj a oi.dst v h1]at hasks;exact hasks,aa_⟩
  refine .inl ?_
  unfold Oper.wp at*
  rw[execOp_put oj hsj a oi.dst v h1]at h
  generalize (execOp a.eval oj).run P w=r at*
  cases r with
  |ok n w'=>
   cases n<;>simp only[Oper.upon]at h ⊢
   case value u=>exact⟨keep a hy u,by rw[<- Act.put_comm a v u h2];exact h⟩
   case skip=>exact⟨keep a hy _,by rw[<- Act.put_comm a v undef h2];exact h⟩
   case defer d=>
    refine⟨keep _ (abw d) _,?_⟩
    rw[<- Act.put_comm _ v undef h2,<- Act.put_defers]
    exact h
   case enter f args=>
    refine Calls.mono h fun e w'' he=>?_
    cases e with
    |returned u=>exact⟨keep a hy u,by rw[<- Act.put_comm a v u h2];exact he⟩
    |panicked c=>exact hQ _ _ _ he
    |outgrown=>exact he
   case row row args=>exact Rows.mono h fun u w'' he=>⟨keep a hy u,by rw[<- Act.put_comm a v u h2];exact he⟩
  |halt x w'=>
   cases x<;>simp only[Oper.upon]at h ⊢
   case panic u=>exact hQ _ _ _ h
 ·rename_i hw
  simp only[hw]at h
  exact⟨keep a hy _,by rw[<- Act.put_comm a v undef h2];exact h⟩
theorem HG {P:Program} {ops:Array Oper} {Q:Exit->Act->World->Prop} {G:Array Bool->Nat->World->World->Prop} {C:World->Prop} {i:Nat} {oi:Oper} {v:Value} (hi:ops[i]? =some oi)
  (hsel:∀(j:Nat) (o:Oper) cs b,ops[j]? =some o->o.op≠.select cs b) (hQ:∀ c a w,Q (.panic c) (a.put oi.dst v) w->Q (.panic c) a w)
  (hG:∀ l j w w',nK P ops l i=true->waits P ops j i=false->G l j w w'->C w->C w') (hrefl:∀ l w,G l i w w)
  (dQ:∀ l j w w',j≠i->G (l.setIfInBounds i true) j w w'->G l j w w'):
  ∀(fuel:Nat) (listed:Array Bool) (a:Act) (w:World),
   (∀ j oj,ops[j]? =some oj->j≠i->listed.getD j true=false->(∀ e∈oj.after,Region.binds .any e=true->e.on≠i)->oi.apart ops oj=true)->
   Closed ops listed->i∈Region.ready .any ops listed->YC P ops C oi v a->C w->nK P ops listed i=true->waits P ops i i=false->
   qV P ops Q G fuel (listed.setIfInBounds i true) (a.put oi.dst v) w->qV P ops Q G (fuel+1) listed a w:=by
 intro fuel
 induction fuel with
 |zero=>
  intro listed a w _ hcl hr hy hC uF hii H
  refine⟨fun h=>(by rw[h]at hr;cases hr),fun j hj=>?_⟩
  by_cases hji:j=i
  ·subst hji;exact hy.wpOp hi hC ⟨hrefl _ w,H⟩
  ·have:=ready_mono hj hji
   rw[H.1]at this
   cases this
 |succ fuel ih=>
  intro listed a w hfree hcl hr hy hC uF hii H
  refine⟨fun h=>(by rw[h]at hr;cases hr),fun j hj=>?_⟩
  by_cases hji:j=i
  ·subst hji;exact hy.wpOp hi hC ⟨hrefl _ w,H⟩
  ·have h1:=H.2 j (ready_mono hj hji)
   obtain⟨Rc,oj,Iz,hall⟩:=mem_ready.1 hj
   have hnot:∀ e∈oj.after,Region.binds .any e=true->e.on≠i:=fun e he hb heq=>by
    have h1:=hall e he hb
    have h0:=(mem_ready.1 hr).1
    rw[heq]at h1
    rcases kx i listed.size with h' | h'
    ·simp [h']at h0 h1;rw[h0]at h1;cases h1
    ·simp [Array.getElem?_eq_none h']at h1
   have hw:=S3 (P:=P) hcl hj hr
   have h2:=aja Iz (hfree j oj Iz hji Rc hnot) (fun cs b=>hsel i oi cs b hi) (fun cs b=>hsel j oj cs b Iz) hQ hy h1
   have aa0:∀ k ok,ops[k]? =some ok->k≠i->(listed.setIfInBounds j true).getD k true=false->
     (∀ e∈ok.after,Region.binds .any e=true->e.on≠i)->oi.apart ops ok=true:=fun k ok hk hki hun hno=>by
    refine hfree k ok hk hki ?_ hno
    by_cases hjk:j=k
    ·subst hjk;exact Rc
    ·rw[getD_set_ne true hjk]at hun;exact hun
   refine wpOp_mono (fun a' w' h3=>⟨dQ _ _ _ _ hji h3.2.1,ih (listed.setIfInBounds j true) a' w' aa0 (hcl.set hj) (ready_mono hr (Ne.symm hji)) h3.1 (hG _ j w w' (JM uF (.inl hii)) hw h3.2.1 hC) (JM uF (.inl hw)) hii ?_⟩) h2
   rw[Array.setIfInBounds_comm _ _ hji]
   exact h3.2.2
inductive Rd where
 |load (t:TypeId)
 |look (t:TypeId) (ok:Bool)
def zt (o:Oper):Option (Rd×List Operand):=
 match o.op with
 | .load t x=>some (.load t,[x])
 | .lookup t x k ok=>some (.look t ok,[x,k])
 |_=>none
def sc:Rd->List Value->Sem Value
 | .load t,[a]=>Instr.loadAt t a
 | .look t ok,[m,k]=>Instr.lookup t m k ok
 |_,_=>stuck ""
def k_ (P:Program) (r:Rd) (gp:List V) (kb:KB) (K:V->Prop):Prop:=
 match r,gp with
 | .load t,[ad]=>nI P t ad kb K
 | .look t ok,[m,k]=>CT P t m k ok kb K
 |_,_=>False
theorem KC {P:Program} {r:Rd} {gp:List V} {kb:KB} {K:V->Prop} (h:k_ P r gp kb K) {σ:Sg} {E:EH} {W:World} (hi:Inv σ E kb W) {as:List Value} (hd:az σ E gp as):
  ∃ v x,(sc r as).run P W= .ok x W/\Den σ E v x/\K v:=by
 unfold k_ at h
 split at h<;>try exact h.elim
 ·simp only[az]at hd
  obtain⟨x,xs,rfl,h1,rfl⟩:=hd
  exact I_ h hi h1
 ·simp only[az]at hd
  obtain⟨x,xs,rfl,h1,y,ys,rfl,h2,rfl⟩:=hd
  exact Sb h hi h1 h2
theorem UE {o:Oper} {r:Rd} {xs:List Operand} (h:zt o=some (r,xs)) (ρ:Operand->Value):execOp ρ o=(do pure (.value (<- sc r (xs.map ρ)))):=by
 unfold zt at h
 split at h<;>try (cases h;done)
 ·rename_i hop;cases h;unfold execOp;rw[hop];rfl
 ·rename_i hop;cases h;unfold execOp;rw[hop];rfl
def uu (fr:Fr):List Operand->Option (List V)
 | []=>some []
 |x::xs=>match ev fr x,uu fr xs with
  |some v,some vs=>some (v::vs)
  |_,_=>none
theorem BS {σ:Sg} {E:EH} {fr:Fr} {n:Nat} {a:Act} (h:gl σ E fr n a):∀{xs:List Operand} {vs:List V},uu fr xs=some vs->az σ E vs (xs.map a.eval)
 | [],vs,hv=>by simp [uu]at hv;subst hv;exact .nil
 |x::xs,vs,hv=>by
  simp only[uu]at hv
  split at hv
  ·rename_i v us h1 h2
   cases hv
   exact .cons (cq h h1) (BS h h2)
  ·cases hv
structure kw where
 i:Nat
 r:Rd
 gp:List V
 v:V
structure ma (a b:Int):Prop where
 h:a=b
mutual
def nQ:V->V->Prop
 | .int k n,.int k' m=>match decide (k=k')with | true=>ma n m | false=>False
 | .lit k n,.lit k' m=>match decide (k=k')with | true=>ma n m | false=>False
 | .sb a,.sb b=>a=b
 | .tt,.tt=>True
 | .ff,.ff=>True
 | .agg l,.agg m=>qR l m
 | .any (.slice none 0 0),.any (.slice none 0 0)=>True
 |a,b=>a=b
def qR:List V->List V->Prop
 | [],[]=>True
 | [a],[b]=>nQ a b
 |a::l,b::m=>nQ a b/\qR l m
 |_,_=>False
end
mutual
theorem L7:∀{a b:V},nQ a b->a=b
 | .int k n,b,h=>by
  cases b<;>simp only[nQ,reduceCtorEq]at h
  split at h
  ·rename_i hk;rw[of_decide_eq_true hk,h.h]
  ·exact h.elim
 | .lit k n,b,h=>by
  cases b<;>simp only[nQ,reduceCtorEq]at h
  split at h
  ·rename_i hk;rw[of_decide_eq_true hk,h.h]
  ·exact h.elim
 | .sb a,b,h=>by cases b<;>simp only[nQ,reduceCtorEq]at h;rw[h]
 | .tt,b,h=>by cases b<;>simp only[nQ,reduceCtorEq]at h;rfl
 | .ff,b,h=>by cases b<;>simp only[nQ,reduceCtorEq]at h;rfl
 | .agg l,b,h=>by
  cases b<;>simp only[nQ,reduceCtorEq]at h
  rw[WP h]
 | .any u,b,h=>by
  unfold nQ at h
  split at h
  all_goals first
   |exact h
   |assumption
   | (rename_i e;cases e;done)
 | .ptr ..,b,h | .pa ..,b,h | .sl ..,b,h | .pe ..,b,h | .pw ..,b,h | .e0,b,h | .sa ..,b,h | .se ..,b,h | .dm ..,b,h | .aa _,b,h | .imp ..,b,h | .dat _,b,h | .φ _,b,h | .fn ..,b,h | .mp _,b,h | .ch _,b,h | .arr ..,b,h=>by simpa only[nQ]using h
theorem WP:∀{l m:List V},qR l m->l=m
 | [],m,h=>by cases m<;>simp only[qR]at h;rfl
 | [a],m,h=>by
  match m with
  | []=>simp only[qR]at h
  | [b]=>simp only[qR]at h;rw[L7 h]
  |b::c::m=>simp only[qR]at h;exact h.2.elim
 |a::a'::l,m,h=>by
  match m with
  | []=>simp only[qR]at h
  | [b]=>simp only[qR]at h;exact h.2.elim
  |b::c::m=>simp only[qR]at h;rw[L7 h.1,WP h.2]
end
structure Av (cs:List D):Prop where
 h:∀ d∈cs,∃ v,d= .val v
def BC:List (List D)->Prop
 | []=>True
 | [p]=>Av p
 |p::ps=>Av p/\BC ps
theorem OS:∀{ps:List (List D)},BC ps->∀ p∈ps,Av p
 | [p],h,q,hq=>by rw[da]at hq;subst hq;exact h
 |p::r::ps,h,q,hq=>by
  rcases dS.1 hq with rfl | hq
  ·exact h.1
  ·exact OS h.2 q hq
def BJ:List V->Option (List (List D))
 | []=>some []
 |v::vs=>match BJ vs with
  |some ps=>match v with
   | .arr _ cs=>some (cs::ps)
   |v=>match V.nY v with | true=>some ps | false=>none
  |none=>none
def V.G2:V->Option (List (List D))
 | .agg l=>BJ l
 |_=>none
theorem Uj {E E':EH}:∀{cs:List D},(∀ d∈cs,∃ v,d= .val v)->∀{xs ys:List Value},bh E cs xs->bh E' cs ys->xs=ys
 | [],_,xs,ys,h,k=>by simp only[bh]at h k;rw[h,k]
 |d::cs,hp,xs,ys,h,k=>by
  simp only[bh]at h k
  obtain⟨x,xs',rfl,h1,h2⟩:=h
  obtain⟨y,ys',rfl,k1,k2⟩:=k
  obtain⟨v,rfl⟩:=hp d iV
  simp only[bX]at h1 k1
  rw[h1.1,k1.1,Uj (fun d hd=>hp d (gn _ hd)) h2 k2]
def Mz (v:V):Prop:=∀(σ τ:Sg) (E E':EH) (x y:Value),Den σ E v x->Den (σ++τ) E' v y->x=y
theorem G3 {σ τ:Sg} {E E':EH}:∀{vs:List V} {ps:List (List D)},BJ vs=some ps->(∀ p∈ps,Av p)->∀{xs ys:List Value},aV σ E vs xs->aV (σ++τ) E' vs ys->xs=ys
 | [],_,_,_,xs,ys,h,k=>by simp only[aV]at h k;rw[h,k]
 |v::vs,ps,hd,hp,xs,ys,h,k=>by
  simp only[BJ]at hd
  split at hd<;>try (cases hd;done)
  rename_i qs Rn
  simp only[aV]at h k
  obtain⟨x1,x2,rfl,h1,h2⟩:=h
  obtain⟨y1,y2,rfl,k1,k2⟩:=k
  split at hd
  ·rename_i m cs
   simp only[bb.injEq]at hd
   subst hd
   rw[G3 Rn (fun p hq=>hp p (gn _ hq)) h2 k2]
   rcases h1 with ⟨x,rfl,_,h1⟩ | ⟨m',cs',e,_,h1⟩
   ·simp only[Den]at h1
   rcases k1 with ⟨y,rfl,_,k1⟩ | ⟨m'',ajd,e2,_,k1⟩
   ·simp only[Den]at k1
   cases e
   cases e2
   rw[Uj (hp _ iV).h h1 k1]
  ·split at hd<;>try (cases hd;done)
   rename_i hne _ aaS
   simp only[bb.injEq]at hd
   subst hd
   rw[G3 Rn hp h2 k2]
   rcases h1 with ⟨x,rfl,_,h1⟩ | ⟨m',cs',e,_,_⟩
   ·rcases k1 with ⟨y,rfl,_,k1⟩ | ⟨m',cs',e,_,_⟩
    ·rw[BK aaS h1 k1]
    ·exact absurd e (hne m' cs')
   ·exact absurd e (hne m' cs')
theorem ZQ {v:V} {ps:List (List D)} (h:V.G2 v=some ps) (hp:BC ps):Mz v:=fun σ τ E E' x y h1 h2=>by
 unfold V.G2 at h
 split at h<;>try (cases h;done)
 simp only[Den]at h1 h2
 obtain⟨xs,rfl,h1⟩:=h1
 obtain⟨ys,rfl,h2⟩:=h2
 rw[G3 h (OS hp) h1 h2]
def IP:Rd->List V->Bool
 | .load _,[.dm _ _]=>true
 |_,_=>false
def tD (P:Program) (ops:Array Oper) (j:Nat) (kb:KB):List kw->Prop->Prop
 | [],K=>K
 | ⟨i,r,gp,u⟩::ls,K=>match waits P ops j i with
  |true=>tD P ops j kb ls K
  |false=>match V.nY u with
   |true=>k_ P r gp kb (fun v=>nQ v u)/\tD P ops j kb ls K
   |false=>match V.G2 u with
    |some ps=>(BC ps/\k_ P r gp kb (fun v=>nQ v u))/\tD P ops j kb ls K
    |none=>match IP r gp with
     |true=>k_ P r gp kb (fun _=>True)/\tD P ops j kb ls K
     |false=>False
def zp (P:Program) (kb:KB):List kw->Prop->Prop
 | [],K=>K
 | ⟨_,.load t,gp,_⟩::ls,K=>k_ P (.load t) gp kb (fun _=>True)/\zp P kb ls K
 |_:: _,_=>False
def aa2 (kb:KB) (b:Nat):Bool:=match kb[b]? with
 |some (.cells l)=>cX l.length 8
 |_=>false
def wm (b:Nat):List Nat->Bool
 | []=>false
 |c::cs=>match cX b c with
  |true=>true
  |false=>wm b cs
theorem Ia {b:Nat}:∀{l:List Nat},wm b l=true->b∈l
 |c::cs,h=>by
  simp only[wm]at h
  split at h
  ·rename_i hb
   rw[de hb];exact iV
  ·exact gn _ (Ia h)
def RB (b:Nat) (l:List Nat):List Nat:=match wm b l with
 |true=>l
 |false=>b::l
def uD (bs:List Nat):kw->Bool
 | ⟨_,.load _,[.ptr b _],_⟩=>wm b bs
 | ⟨_,.load _,[.pe b _ _],_⟩=>wm b bs
 |_=>false
def wv (P:Program) (ops:Array Oper) (j:Nat) (kb:KB):List kw->List Nat
 | []=>[]
 | ⟨i,.load _,[.ptr b _],u⟩::ls=>match waits P ops j i,V.nY u,aa2 kb b with
  |false,false,true=>RB b (wv P ops j kb ls)
  |_,_,_=>wv P ops j kb ls
 | ⟨i,.load _,[.pe b _ _],u⟩::ls=>match waits P ops j i,V.nY u with
  |false,false=>RB b (wv P ops j kb ls)
  |_,_=>wv P ops j kb ls
 |_::ls=>wv P ops j kb ls
def zo (P:Program) (bs:List Nat) (kb:KB):List kw->Prop->Prop
 | [],K=>K
 |l::ls,K=>match uD bs l with
  |true=>k_ P l.r l.gp kb (fun _=>True)/\zo P bs kb ls K
  |false=>zo P bs kb ls K
def yF:List Nat->KB->KB
 | [],kb=>kb
 |b::bs,kb=>yF bs (kb.set b .dead)
def zH:List Nat->KB->KB->Option KB
 | [],_,kb'=>some kb'
 |b::bs,kb,kb'=>match zH bs (kb.set b .dead) kb' with
  |some k2=>match kb[b]?,k2[b]? with
   |some x,some .dead=>some (k2.set b x)
   |_,_=>none
  |none=>none
def RG:List kw->Bool
 | []=>true
 | ⟨_,.load _,_,_⟩::ls=>RG ls
 |_:: _=>false
def conj:List Nat->(Nat->Prop)->Prop
 | [],_=>True
 | [i],p=>p i
 |i::is,p=>p i/\conj is p
theorem OU:∀{l:List Nat} {p:Nat->Prop},conj l p->∀ i∈l,p i
 | [],_,_,i,hi=>by cases hi
 | [j],p,h,i,hi=>by simp at hi;subst hi;exact h
 |j::k::l,p,h,i,hi=>by
  rcases dS.1 hi with rfl | hi
  ·exact h.1
  ·exact OU (l:=k::l) h.2 i hi
def qQ (a m:Nat):Bool:=cX (Nat.land a m) a
def FY (a m:Nat):Bool:=cX (Nat.land a m) 0
theorem agk {l:List Nat} {m:Nat}:qQ (oZ l) m=true ↔ ∀ i∈l,m.testBit i=true:=by
 unfold qQ
 constructor
 ·intro h i hi
  have h:=de h
  have h1:(oZ l &&& m).testBit i=(oZ l).testBit i:=congrArg (fun z=>z.testBit i) h
  rw[Nat.testBit_and,wL,decide_eq_true hi]at h1
  simpa using h1
 ·intro h
  have:Nat.land (oZ l) m=oZ l:=by
   apply Nat.eq_of_testBit_eq
   intro i
   show(oZ l &&& m).testBit i=_
   rw[Nat.testBit_and,wL]
   by_cases hi:i∈l
   ·simp [hi,h i hi]
   ·simp [hi]
  rw[this];exact Nat.beq_refl _
def x8 (x y:f_):Bool:=FY x.wr (iW y.rd y.wr) && FY y.wr x.rd
def pE (x:f_) (i m:Nat):List f_->Nat->Bool
 | [],_=>true
 |y::ys,j=>match Nat.testBit m j with
  |true=>match Nat.testBit y.am i,y.v_ with
   |true,false=>false
   |_,_=>pE x i m ys (j+1)
  |false=>match cX j i with
   |true=>match Nat.testBit y.am i with
    |true=>false
    |false=>pE x i m ys (j+1)
   |false=>match Nat.testBit y.am i with
    |true=>pE x i m ys (j+1)
    |false=>match x8 x y with
     |true=>pE x i m ys (j+1)
     |false=>false
def pf:List f_->Nat->Nat->List Nat
 | [],_,_=>[]
 |p::ps,i,m=>match Nat.testBit m i with
  |true=>pf ps (i+1) m
  |false=>match qQ p.am m with
   |true=>i::pf ps (i+1) m
   |false=>pf ps (i+1) m
structure ra (ops:Array Oper) (listed:Array Bool) (m:Nat):Prop where
 size:listed.size=ops.size
 bit:∀ i,i<ops.size->m.testBit i=listed.getD i false
theorem ra.set {ops:Array Oper} {listed:Array Bool} {m:Nat} (h:ra ops listed m) (i:Nat):ra ops (listed.setIfInBounds i true) (iW m (2 ^ i)):=by
 refine⟨by simp [h.size],fun k hk=>?_⟩
 show(m ||| 2 ^ i).testBit k=_
 rw[Nat.testBit_or,Nat.testBit_two_pow,h.bit k hk]
 by_cases hik:i=k
 ·subst hik
  have:i<listed.size:=by rw[h.size];exact hk
  simp [this]
 ·rw[getD_set_ne false hik]
  simp [hik]
theorem ra.ready {P:Program} {ops:Array Oper} {listed:Array Bool} {m:Nat} (h:ra ops listed m) (hlt:∀ o∈ops,∀ e∈o.after,e.on<ops.size) {i:Nat} {o:Oper} (ho:ops[i]? =some o):i∈Region.ready .any ops listed ↔ m.testBit i=false/\qQ (ib P ops i).am m=true:=by
 have hi:i<ops.size:=(Array.getElem?_eq_some_iff.1 ho).1
 have hil:i<listed.size:=by rw[h.size];exact hi
 rw[mem_ready]
 simp only[ib,ho,agk]
 have e1:(listed.getD i true=false) ↔ m.testBit i=false:=by
  rw[h.bit i hi]
  simp [hil]
 rw[e1]
 constructor
 ·rintro⟨h1,o',ho',hall⟩
  cases ho'
  refine⟨h1,fun k hk=>?_⟩
  simp only[FX,dO,lu]at hk
  obtain⟨e,⟨he,hb⟩,rfl⟩:=hk
  rw[h.bit e.on (hlt o (Array.mem_of_getElem? ho) e (by simpa using he))]
  exact hall e (by simpa using he) hb
 ·rintro⟨h1,hall⟩
  refine⟨h1,o,rfl,fun e he hb=>?_⟩
  have:=hall e.on (dO.2 ⟨e,lu.2 ⟨by simpa using he,hb⟩,rfl⟩)
  rwa [h.bit e.on (hlt o (Array.mem_of_getElem? ho) e he)]at this
theorem T3 {P:Program} {ops:Array Oper} {j:Nat}:(ib P ops j).v_=nZ P ops j:=by
 unfold ib
 split
 ·rfl
 ·rename_i h;simp [nZ,h]
theorem N5 {d m:Nat} (h:FY (2 ^ d) m=true):m.testBit d=false:=by
 have h:=de h
 have h1:(2 ^ d &&& m).testBit d=(0:Nat).testBit d:=congrArg (fun z=>z.testBit d) h
 rw[Nat.testBit_and,Nat.testBit_two_pow]at h1
 simpa using h1
theorem YG {P:Program} {ops:Array Oper} {i j:Nat} {oi oj:Oper} (hi:ops[i]? =some oi) (hj:ops[j]? =some oj) (h:x8 (ib P ops i) (ib P ops j)=true):oi.apart ops oj=true:=by
 simp only[x8,ib,hi,hj,jo]at h
 obtain⟨h1,h2⟩:=h
 unfold Oper.apart
 rw[jo]
 constructor
 ·split
  ·rename_i d hd
   rw[hd]at h1
   have h3:=N5 h1
   have h4:(oZ (oj.looksAt ops) ||| (match oj.dst with | some d=>2 ^ d | none=>0)).testBit d=false:=h3
   rw[Nat.testBit_or,Bool.or_eq_false_iff,wL]at h4
   simp only[decide_eq_false_iff_not]at h4
   simp only[jo,mA,List.contains_eq_mem,decide_eq_false_iff_not,bne_iff_ne,ne_eq]
   refine⟨h4.1,fun e=>?_⟩
   rw[e]at h4
   simp at h4
  ·rfl
 ·split
  ·rename_i d hd
   rw[hd]at h2
   have h3:=N5 h2
   rw[wL]at h3
   simp only[decide_eq_false_iff_not]at h3
   simp [h3]
  ·rfl
theorem Qf {P:Program} {ops:Array Oper} {i m:Nat}:∀{n k:Nat},pE (ib P ops i) i m (jB P ops k n) k=true->∀ j,k<=j->j<k+n->
  (m.testBit j=true->direct ops j i=true->nZ P ops j=true)/\(m.testBit j=false->(j=i/\direct ops i i=false)∨(j≠i/\(direct ops j i=true∨x8 (ib P ops i) (ib P ops j)=true)))
 | 0,k,_,j,h1,h2=>by omega
 |n+1,k,h,j,h1,h2=>by
  simp only[jB,pE]at h
  have rest:pE (ib P ops i) i m (jB P ops (k+1) n) (k+1)=true->k≠j->(m.testBit j=true->direct ops j i=true->nZ P ops j=true)/\(m.testBit j=false->(j=i/\direct ops i i=false)∨(j≠i/\(direct ops j i=true∨x8 (ib P ops i) (ib P ops j)=true))):=
   fun hr hkj=>Qf hr j (by omega) (by omega)
  split at h
  ·rename_i hb
   split at h
   ·cases h
   ·rename_i hne
    by_cases hkj:k=j
    ·subst hkj
     refine⟨fun _ hw=>?_,fun hf=>by rw[hb]at hf;cases hf⟩
     cases he:nZ P ops k
     ·exact(hne (by rw[x7];exact hw) (by rw[T3];exact he)).elim
     ·rfl
    ·exact rest h hkj
  ·rename_i hb
   split at h
   ·rename_i hki
    have Rf:=de hki
    split at h
    ·cases h
    ·rename_i hw
     rw[x7]at hw
     by_cases hkj:k=j
     ·subst hkj
      exact⟨fun ht=>(by rw[hb]at ht;cases ht),fun _=> .inl ⟨Rf,by rw[<- Rf]at hw ⊢;exact hw⟩⟩
     ·exact rest h hkj
   ·rename_i hki
    have hne:∀{x:Nat},k=x->x≠i:=fun e e'=>by subst e;subst e';simp at hki
    split at h
    ·rename_i hw
     rw[x7]at hw
     by_cases hkj:k=j
     ·exact⟨fun ht=>(by rw[<- hkj,hb]at ht;cases ht),fun _=> .inr ⟨hne hkj,.inl (by rw[<- hkj];exact hw)⟩⟩
     ·exact rest h hkj
    ·split at h
     ·rename_i hap
      by_cases hkj:k=j
      ·exact⟨fun ht=>(by rw[<- hkj,hb]at ht;cases ht),fun _=> .inr ⟨hne hkj,.inr (by rw[<- hkj];exact hap)⟩⟩
      ·exact rest h hkj
     ·cases h
theorem KI {P:Program} {ops:Array Oper} {m:Nat}:∀{n i k:Nat},i<=k->k<i+n->m.testBit k=false->qQ (ib P ops k).am m=true->k∈pf (jB P ops i n) i m
 | 0,i,k,h1,h2,_,_=>by omega
 |n+1,i,k,h1,h2,h3,h4=>by
  simp only[jB,pf]
  by_cases hik:i=k
  ·subst hik
   rw[h3,h4]
   simp
  ·have:=KI (n:=n) (i:=i+1) (by omega) (by omega) h3 h4
   split
   ·exact this
   ·split
    ·exact gn _ this
    ·exact this
theorem UJ {P:Program} {ops:Array Oper} {m:Nat}:∀{n i k:Nat},k∈pf (jB P ops i n) i m->i<=k/\k<i+n/\m.testBit k=false/\qQ (ib P ops k).am m=true
 | 0,i,k,h=>by simp [jB,pf]at h
 |n+1,i,k,h=>by
  simp only[jB,pf]at h
  have rest:k∈pf (jB P ops (i+1) n) (i+1) m->i<=k/\k<i+(n+1)/\m.testBit k=false/\qQ (ib P ops k).am m=true:=fun h=>by
   obtain⟨a,b,c,d⟩:=UJ h
   exact⟨by omega,by omega,c,d⟩
  split at h
  ·exact rest h
  ·rename_i h1
   split at h
   ·rename_i h2
    rcases dS.1 h with rfl | h
    ·exact⟨ar _,by omega,h1,h2⟩
    ·exact rest h
   ·exact rest h
theorem ra.free {P:Program} {ops:Array Oper} {listed:Array Bool} {m:Nat} (h:ra ops listed m) {i:Nat} {oi:Oper} (ho:ops[i]? =some oi) (hc:pE (ib P ops i) i m (jB P ops 0 ops.size) 0=true):
  (∀ j oj,ops[j]? =some oj->j≠i->listed.getD j true=false->(∀ e∈oj.after,Region.binds .any e=true->e.on≠i)->oi.apart ops oj=true):=by
 intro j oj hj hji hun hno
 have hjl:j<ops.size:=(Array.getElem?_eq_some_iff.1 hj).1
 have aa7:j<listed.size:=by rw[h.size];exact hjl
 have hw:direct ops j i=false:=by
  unfold direct
  rw[hj]
  rw[Bool.eq_false_iff]
  intro hw
  obtain⟨e,he,hb⟩:=Array.any_eq_true'.1 hw
  simp only[jo,beq_iff_eq]at hb
  exact hno e he hb.1 hb.2
 have rH:m.testBit j=false:=by
  rw[h.bit j hjl]
  simp [aa7]at hun ⊢
  exact hun
 rcases(Qf hc j (bj j) (by omega)).2 rH with ⟨h1,_⟩ | ⟨_,h2 | h2⟩
 ·exact absurd h1 hji
 ·rw[hw]at h2;cases h2
 ·exact YG ho hj h2
theorem Closed.nK {P:Program} {ops:Array Oper} {listed:Array Bool} (hc:Closed ops listed) {i:Nat} (hi:i∈Region.ready .any ops listed):nK P ops listed i=true/\waits P ops i i=false:=by
 constructor
 ·rw[Da]
  intro k hk he
  cases hb:listed.getD k false
  ·rfl
  ·have:=Xa hc (fun q hq=>hc k q hb hq) hk
   rw[KJ hi]at this;cases this
 ·exact S3 hc hi hi
def Hg (ops:Array Oper):Bool:=ops.all fun o=>o.after.all fun e=>Nat.blt e.on ops.size
theorem Z5 {ops:Array Oper} (h:Hg ops=true):∀ o∈ops,∀ e∈o.after,e.on<ops.size:=by
 intro o ho e he
 have h1:=Array.all_eq_true_iff_forall_mem.1 h o ho
 have h2:=Array.all_eq_true_iff_forall_mem.1 h1 e he
 exact Nat.lt_of_succ_le (Nat.le_of_ble_eq_true h2)
def ZL (ops:Array Oper) (i:Nat) (fr:Fr) (kb:KB):Bool:=
 match ops[i]? with
 |some o=>match zt o with
  |some (.load _,xs)=>match uu fr xs with
   |some [.ptr b off]=>match kb[b]? with
    |some (.cells l)=>match jm l off with
     |some v=> !(V.nY v) && !(cX l.length 8)
     |none=>false
    |_=>false
   |_=>false
  |_=>false
 |none=>false
def Jt (plan:List f_) (m i:Nat):List f_->Nat->Bool
 | [],_=>false
 |o::r,k=>match Nat.testBit m k,o.v_,o.al with
  |false,false,false=>match Nat.testBit (s9 plan 12 o.am) i with
   |false=>true
   |true=>Jt plan m i r (k+1)
  |_,_,_=>Jt plan m i r (k+1)
def r9 (all:List f_) (ops:Array Oper) (m:Nat) (fr:Fr) (kb:KB):List f_->Nat->Option Nat
 | [],_=>none
 |p::ps,i=>match p.v_,Nat.testBit m i with
  |true,false=>match qQ p.am m with
   |true=>match pE p i m all 0 with
    |true=>match ZL ops i fr kb with
     |true=>match Jt all m i all 0 with
      |true=>r9 all ops m fr kb ps (i+1)
      |false=>some i
     |false=>some i
    |false=>r9 all ops m fr kb ps (i+1)
   |false=>r9 all ops m fr kb ps (i+1)
  |_,_=>r9 all ops m fr kb ps (i+1)
def aeu (plan:List f_) (ops:Array Oper) (m:Nat) (fr:Fr) (kb:KB):Option Nat:=r9 plan ops m fr kb plan 0
theorem Uf {P:Program} {ops:Array Oper} {m:Nat} {fr:Fr} {kb:KB} {all:List f_}:∀{n i k:Nat},r9 all ops m fr kb (jB P ops i n) i=some k->k<i+n/\(ib P ops k).v_=true/\m.testBit k=false/\qQ (ib P ops k).am m=true/\pE (ib P ops k) k m all 0=true
 | 0,i,k,h=>by simp [jB,r9]at h
 |n+1,i,k,h=>by
  simp only[jB,r9]at h
  have rest:r9 all ops m fr kb (jB P ops (i+1) n) (i+1)=some k->k<i+(n+1)/\(ib P ops k).v_=true/\m.testBit k=false/\qQ (ib P ops k).am m=true/\pE (ib P ops k) k m all 0=true:=fun h=>by
   obtain⟨a,b⟩:=Uf h
   exact⟨by omega,b⟩
  split at h
  ·rename_i h1 h2
   split at h
   ·rename_i h3
    split at h
    ·rename_i h4
     split at h
     ·split at h
      ·exact rest h
      ·cases h
       exact⟨by omega,h1,h2,h3,h4⟩
     ·cases h
      exact⟨by omega,h1,h2,h3,h4⟩
    ·exact rest h
   ·exact rest h
  ·exact rest h
def nq (P:Program) (X:cd) (n:Nat) (ops:Array Oper) (plan:List f_):Nat->Nat->List kw->(Fr->KB->Prop)->Fr->KB->Prop
 | 0,m,_,K,fr,kb=>match pf plan 0 m with | []=>K fr kb | _=>False
 |fuel+1,m,h_,K,fr,kb=>
  match aeu plan ops m fr kb with
  |some i=>match ops[i]? with
   |some o=>wi ops o fr
     (fun fr=>match zt o with
      |some (r,xs)=>match uu fr xs with
       |some gp=>k_ P r gp kb (fun v=>mV n o.dst v fr (fun fr'=>nq P X n ops plan fuel (iW m (2 ^ i)) (⟨i,r,gp,v⟩::h_) K fr' kb))
       |none=>False
      |none=>match isPure P o.op with
       |true=>zm P o fr kb (fun v=>mV n o.dst v fr (fun fr'=>nq P X n ops plan fuel (iW m (2 ^ i)) h_ K fr' kb))
       |false=>False)
     (fun fr=>mV n o.dst (.any undef) fr (fun fr'=>nq P X n ops plan fuel (iW m (2 ^ i)) h_ K fr' kb))
   |none=>False
  |none=>match pf plan 0 m with
   | []=>K fr kb
   |r::rs=>conj (r::rs) (fun j=>match ops[j]?,nZ P ops j with
    |some o,false=>wi ops o fr
      (fun fr=>match CA o.op,RG h_ with
       |true,true=>zp P kb h_ (tG P X o fr kb (fun v kb'=>mV n o.dst v fr (fun fr'=>nq P X n ops plan fuel (iW m (2 ^ j)) (h_.filter fun l=> !(waits P ops j l.i)) K fr' kb')))
       |_,_=>match wv P ops j kb h_ with
        |b::bs=>zo P (b::bs) kb h_ (tG P X o fr (yF (b::bs) kb) (fun v kb'=>match zH (b::bs) kb kb' with
         |some k2=>tD P ops j k2 (h_.filter fun l=> !(uD (b::bs) l)) (mV n o.dst v fr (fun fr'=>nq P X n ops plan fuel (iW m (2 ^ j)) (h_.filter fun l=> !(waits P ops j l.i)) K fr' k2))
         |none=>False))
        | []=>tG P X o fr kb (fun v kb'=>tD P ops j kb' h_ (mV n o.dst v fr (fun fr'=>nq P X n ops plan fuel (iW m (2 ^ j)) (h_.filter fun l=> !(waits P ops j l.i)) K fr' kb'))))
      (fun fr=>mV n o.dst (.any undef) fr (fun fr'=>nq P X n ops plan fuel (iW m (2 ^ j)) (h_.filter fun l=> !(waits P ops j l.i)) K fr' kb))
    |some o,true=>wi ops o fr
      (fun fr=>match zt o with
       |some (r,xs)=>match uu fr xs with
        |some gp=>k_ P r gp kb (fun v=>mV n o.dst v fr (fun fr'=>nq P X n ops plan fuel (iW m (2 ^ j)) h_ K fr' kb))
        |none=>False
       |none=>match isPure P o.op with
        |true=>zm P o fr kb (fun v=>mV n o.dst v fr (fun fr'=>nq P X n ops plan fuel (iW m (2 ^ j)) h_ K fr' kb))
        |false=>False)
      (fun fr=>mV n o.dst (.any undef) fr (fun fr'=>nq P X n ops plan fuel (iW m (2 ^ j)) h_ K fr' kb))
    |none,_=>False)
structure rf where
 i:Nat
 s:Sem Next
 x:Value
def GL (P:Program) (ops:Array Oper) (L:List rf) (listed:Array Bool) (j:Nat) (w w':World):Prop:=
 ∀ l∈L,nK P ops listed l.i=true->waits P ops j l.i=false->l.s.run P w= .ok (.value l.x) w->l.s.run P w'= .ok (.value l.x) w'
def oJ (P:Program) (σ:Sg) (E:EH) (W:World) (l:kw) (r:rf):Prop:=
 r.i=l.i/\r.s.run P W= .ok (.value r.x) W/\Den σ E l.v r.x/\∃ as,az σ E l.gp as/\r.s=(do pure (.value (<- sc l.r as)))
def An (P:Program) (ops:Array Oper) (listed:Array Bool) (σ:Sg) (E:EH) (W:World) (ls:List kw) (L:List rf):Prop:=
 ∀ r∈L,nK P ops listed r.i=true->∃ l∈ls,oJ P σ E W l r
def M6 (P:Program) (kb:KB) (l:kw):Prop:=(Mz l.v/\k_ P l.r l.gp kb (fun v=>nQ v l.v))∨(IP l.r l.gp=true/\k_ P l.r l.gp kb (fun _=>True))
theorem wG {P:Program} {ops:Array Oper} {j:Nat} {kb:KB}:∀{ls:List kw} {R:Prop},tD P ops j kb ls R->R/\∀ l∈ls,waits P ops j l.i=false->M6 P kb l
 | [],R,h=>⟨h,fun l hl=>by cases hl⟩
 |l::ls,R,h=>by
  simp only[tD]at h
  split at h
  ·rename_i hw
   obtain⟨h1,h2⟩:=wG h
   refine⟨h1,fun l' hl' hw'=>?_⟩
   rcases dS.1 hl' with rfl | hl'
   ·rw[hw]at hw';cases hw'
   ·exact h2 l' hl' hw'
  ·split at h
   ·rename_i hx
    obtain⟨h1,h2⟩:=wG h.2
    refine⟨h1,fun l' hl' hw'=>?_⟩
    rcases dS.1 hl' with rfl | hl'
    ·exact .inl ⟨fun _ _ _ _ _ _ h k=>BK hx h k,h.1⟩
    ·exact h2 l' hl' hw'
   ·split at h
    ·rename_i ps hps
     obtain⟨h1,h2⟩:=wG h.2
     refine⟨h1,fun l' hl' hw'=>?_⟩
     rcases dS.1 hl' with rfl | hl'
     ·exact .inl ⟨ZQ hps h.1.1,h.1.2⟩
     ·exact h2 l' hl' hw'
    ·split at h
     ·rename_i hx
      obtain⟨h1,h2⟩:=wG h.2
      refine⟨h1,fun l' hl' hw'=>?_⟩
      rcases dS.1 hl' with rfl | hl'
      ·exact .inr ⟨hx,h.1⟩
      ·exact h2 l' hl' hw'
     ·exact h.elim
theorem UA {P:Program} {kb:KB}:∀{ls:List kw} {R:Prop},zp P kb ls R->R/\∀ l∈ls,∃ t,l.r= .load t/\k_ P l.r l.gp kb (fun _=>True)
 | [],R,h=>⟨h,fun l hl=>by cases hl⟩
 | ⟨i,r,gp,u⟩::ls,R,h=>by
  cases r with
  |look t ok=>simp only[zp]at h
  |load t=>
   simp only[zp]at h
   obtain⟨h1,h2⟩:=UA h.2
   refine⟨h1,fun l hl=>?_⟩
   rcases dS.1 hl with rfl | hl
   ·exact⟨t,rfl,h.1⟩
   ·exact h2 l hl
theorem oJ.quiet {P:Program} {σ τ:Sg} {E E':EH} {W W':World} {l:kw} {r:rf} (h:oJ P σ E W l r) (hE:E.le E') {kb:KB} (hi:Inv σ E kb W) (hW:pu W W') {t:TypeId} (hl:l.r= .load t) (hk:k_ P l.r l.gp kb (fun _=>True)):oJ P (σ++τ) E' W' l r:=by
 obtain⟨h1,h2,h3,a,h4,h5⟩:=h
 obtain⟨li,lr,RQ,lv⟩:=l
 simp only at hl h1 h3 h4 h5 hk
 subst hl
 unfold k_ at hk
 split at hk<;>try exact hk.elim
 ·rename_i ad _ _
  simp only[az]at h4
  obtain⟨y,ys,rfl,h6,rfl⟩:=h4
  rename_i hr
  cases hr
  obtain⟨v,x,k1,_,_⟩:=R7 hk hi h6
  have e1:=k1 W (pu.refl W)
  have e2:=k1 W' hW
  have e3:r.x=x:=by
   rw[h5]at h2
   simp [sc,e1]at h2
   exact h2.symm
  refine⟨h1,?_,Den.mono hE h3,[y],az.mono hE (by simp only[az];exact⟨y,[],rfl,h6,rfl⟩),h5⟩
  rw[h5,e3]
  simp [sc,e2]
 ·contradiction
theorem Q_ {σ:Sg} {E:EH} {kb:KB} {W:World} (hi:Inv σ E kb W) (b:Nat):Inv σ E (kb.set b .dead) W:=by
 have hc:∀{i:Nat} {o:KO},(kb.set b .dead)[i]? =some o->o= .dead∨kb[i]? =some o:=by
  intro i o h
  by_cases e:b=i
  ·subst e
   rw[List.getElem?_set_self']at h
   cases hk:kb[b]? with
   |none=>rw[hk]at h;simp at h
   |some x=>rw[hk]at h;simp at h;exact .inl h.symm
  ·rw[gP e]at h;exact .inr h
 refine⟨by rw[iG];exact hi.len,fun i r o h1 h2=>?_,fun i j r r' o o' c hij h1 h2 h3 h4 h5 h6=>?_,hi.fe,fun c ⟨i,r,o,h1,h2,h3⟩=>?_⟩
 ·rcases hc h2 with rfl | h2
  ·trivial
  ·exact hi.obj i r o h1 h2
 ·rcases hc h2 with rfl | h2
  ·exact h5.elim
  ·rcases hc h4 with rfl | h4
   ·exact h6.elim
   ·exact hi.eH i j r r' o o' c hij h1 h2 h3 h4 h5 h6
 ·rcases hc h2 with rfl | h2
  ·exact h3.elim
  ·exact hi.sep c ⟨i,r,o,h1,h2,h3⟩
theorem ag_ {σ σ':Sg} {E E':EH} {kb kb':KB} {W W':World} {b:Nat} {x:KO} (hi:Inv σ E kb W) (hs:Step σ E (kb.set b .dead) W σ' E' kb' W') (hx:kb[b]? =some x) (hd:kb'[b]? =some .dead):
  Step σ E kb W σ' E' (kb'.set b x) W'/\∀ r,σ[b]? =some r->∀ c,owned r x c->W'.heap[c]? =W.heap[c]?:=by
 obtain⟨τ,rfl⟩:=hs.pre
 have cz:b<kb.length:=(bH.1 hx).1
 have aaM:b<kb'.length:=(bH.1 hd).1
 have Ie:b<σ.length:=by rw[hi.len];exact cz
 have hrb:(σ++τ)[b]? =σ[b]?:=dY Ie
 have hid:∀ c,dc σ (kb.set b .dead) c->dc σ kb c:=by
  rintro c ⟨i,r,o,h1,h2,h3⟩
  by_cases e:b=i
  ·subst e
   rw[iN cz]at h2
   cases h2
   exact h3.elim
  ·rw[gP e]at h2
   exact⟨i,r,o,h1,h2,h3⟩
 have hno:∀ r,σ[b]? =some r->∀ c,owned r x c->¬ dc σ (kb.set b .dead) c:=by
  rintro r hr c hc ⟨i,r2,o,h1,h2,h3⟩
  by_cases e:b=i
  ·subst e
   rw[iN cz]at h2
   cases h2
   exact h3.elim
  ·rw[gP e]at h2
   exact hi.eH b i r r2 x o c e hr hx h1 h2 hc h3
 have uC:∀ r,σ[b]? =some r->∀ c,owned r x c->W'.heap[c]? =W.heap[c]?:=fun r hr c hc=>hs.c8.block c ((hi.obj b r x hr hx).lt hc) (hno r hr c hc)
 have e_:∀{i:Nat} {r:Re} {o:KO},(σ++τ)[i]? =some r->(kb'.set b x)[i]? =some o->(i=b/\o=x/\σ[b]? =some r)∨(i≠b/\kb'[i]? =some o):=by
  intro i r o h1 h2
  by_cases e:b=i
  ·subst e
   rw[iN aaM]at h2
   rw[hrb]at h1
   exact .inl ⟨rfl,(bb.inj h2).symm,h1⟩
  ·rw[gP e]at h2
   exact .inr ⟨fun q=>e q.symm,h2⟩
 have hx2:∀{i:Nat} {r r2:Re} {o:KO} {c:Nat},(σ++τ)[i]? =some r->kb'[i]? =some o->owned r o c->σ[b]? =some r2->owned r2 x c->False:=by
  intro i r r2 o c h1 h2 h3 h4 h5
  rcases hs.own c ⟨i,r,o,h1,h2,h3⟩with h6 | h6
  ·exact hno r2 h4 c h5 h6
  ·have:=(hi.obj b r2 x h4 hx).lt h5;omega
 have hsep:∀ r,σ[b]? =some r->∀ c,owned r x c->E' c=none:=by
  intro r hr c hc
  cases hE:E' c with
  |none=>rfl
  |some y=>
   rcases hs.new c y hE with h | h | h
   ·have:=hi.sep c ⟨b,r,x,hr,hx,hc⟩;rw[this]at h;cases h
   ·exact(hno r hr c hc h).elim
   ·have:=(hi.obj b r x hr hx).lt hc;omega
 refine⟨⟨⟨by rw[iG];exact hs.inv.len,fun i r o h1 h2=>?_,fun i j r r' o o' c hij h1 h2 h3 h4 h5 h6=>?_,hs.inv.fe,fun c ⟨i,r,o,h1,h2,h3⟩=>?_⟩,⟨hs.c8.os,hs.c8.tape,hs.c8.output,hs.c8.size,fun c hc hn=>hs.c8.block c hc (fun h=>hn (hid c h))⟩,⟨τ,rfl⟩,hs.le,fun c ⟨i,r,o,h1,h2,h3⟩=>?_,fun c y hc=>?_⟩,uC⟩
 ·rcases e_ h1 h2 with ⟨rfl,rfl,h⟩ | ⟨_,h⟩
  ·exact(hi.obj _ r o h hx).mono hs.le (uC r h)
  ·exact hs.inv.obj i r o h1 h
 ·rcases e_ h1 h2 with ⟨rfl,rfl,h⟩ | ⟨e,h⟩<;>rcases e_ h3 h4 with ⟨rfl,e2,h'⟩ | ⟨e',h'⟩
  ·exact hij rfl
  ·exact hx2 h3 h' h6 h h5
  ·subst e2;exact hx2 h1 h h5 h' h6
  ·exact hs.inv.eH i j r r' o o' c hij h1 h h3 h' h5 h6
 ·rcases e_ h1 h2 with ⟨rfl,rfl,h⟩ | ⟨e,h⟩
  ·exact hsep r h c h3
  ·exact hs.inv.sep c ⟨i,r,o,h1,h,h3⟩
 ·rcases e_ h1 h2 with ⟨rfl,rfl,h⟩ | ⟨e,h⟩
  ·exact .inl ⟨_,r,o,h,hx,h3⟩
  ·rcases hs.own c ⟨i,r,o,h1,h,h3⟩with q | q
   ·exact .inl (hid c q)
   ·exact .inr q
 ·rcases hs.new c y hc with q | q | q
  ·exact .inl q
  ·exact .inr (.inl (hid c q))
  ·exact .inr (.inr q)
theorem Ra {σ:Sg} {E:EH} {W:World}:∀{bs:List Nat} {kb:KB},Inv σ E kb W->Inv σ E (yF bs kb) W
 | [],_,hi=>hi
 |b::bs,kb,hi=>by
  show Inv σ E (yF bs (kb.set b .dead)) W
  exact Ra (Q_ hi b)
theorem WE {σ σ':Sg} {E E':EH} {kb':KB} {W W':World}:∀{bs:List Nat} {kb k2:KB},Inv σ E kb W->Step σ E (yF bs kb) W σ' E' kb' W'->zH bs kb kb'=some k2->
  Step σ E kb W σ' E' k2 W'/\∀ b∈bs,∀ x,kb[b]? =some x->∀ r,σ[b]? =some r->∀ c,owned r x c->W'.heap[c]? =W.heap[c]?
 | [],kb,k2,hi,hs,h=>by
  simp only[zH,bb.injEq]at h
  subst h
  exact⟨hs,fun b hb=>by cases hb⟩
 |b::bs,kb,k2,hi,hs,h=>by
  simp only[zH]at h
  split at h<;>try (cases h;done)
  rename_i k3 hk3
  obtain⟨h1,h2⟩:=WE (bs:=bs) (Q_ hi b) hs hk3
  split at h<;>try (cases h;done)
  rename_i y hy hyd
  simp only[bb.injEq]at h
  subst h
  obtain⟨h3,h4⟩:=ag_ hi h1 hy hyd
  refine⟨h3,fun b' hb' x hx r hr c hc=>?_⟩
  by_cases e:b=b'
  ·subst e
   rw[hy]at hx;cases hx
   exact h4 r hr c hc
  ·rcases dS.1 hb' with rfl | hb'
   ·exact(e rfl).elim
   ·exact h2 b' hb' x (by rw[gP e];exact hx) r hr c hc
theorem aa3 {bs:List Nat} {l:kw} (h:uD bs l=true):∃ t b,b∈bs/\l.r= .load t/\((∃ off,l.gp=[.ptr b off])∨∃ ix bw,l.gp=[.pe b ix bw]):=by
 unfold uD at h
 split at h
 ·rename_i t b' off _
  exact⟨t,b',Ia h,rfl,.inl ⟨off,rfl⟩⟩
 ·rename_i t b' ix bw _
  exact⟨t,b',Ia h,rfl,.inr ⟨ix,bw,rfl⟩⟩
 ·cases h
theorem Kz {P:Program} {bs:List Nat} {kb:KB}:∀{ls:List kw} {R:Prop},zo P bs kb ls R->R/\∀ l∈ls,uD bs l=true->k_ P l.r l.gp kb (fun _=>True)
 | [],R,h=>⟨h,fun l hl=>by cases hl⟩
 |l::ls,R,h=>by
  simp only[zo]at h
  split at h
  ·obtain⟨h1,h2⟩:=Kz h.2
   refine⟨h1,fun l' hl hr=>?_⟩
   rcases dS.1 hl with rfl | hl
   ·exact h.1
   ·exact h2 l' hl hr
  ·rename_i hn
   obtain⟨h1,h2⟩:=Kz h
   refine⟨h1,fun l' hl hr=>?_⟩
   rcases dS.1 hl with rfl | hl
   ·rw[hr]at hn;cases hn
   ·exact h2 l' hl hr
theorem oJ.fix {P:Program} {σ τ:Sg} {E E':EH} {W W':World} {l:kw} {r:rf} (h:oJ P σ E W l r) (hE:E.le E') {kb:KB} (hi:Inv σ E kb W) {bs:List Nat} (hR:uD bs l=true) (hk:k_ P l.r l.gp kb (fun _=>True))
  (uC:∀ b∈bs,∀ x,kb[b]? =some x->∀ r,σ[b]? =some r->∀ c,owned r x c->W'.heap[c]? =W.heap[c]?):oJ P (σ++τ) E' W' l r:=by
 obtain⟨h1,h2,h3,a,h4,h5⟩:=h
 obtain⟨t,b,hb,e1,e2⟩:=aa3 hR
 obtain⟨li,lr,RQ,lv⟩:=l
 simp only at h1 h3 h4 h5 hk e1 e2
 subst e1
 have key:∃ y z,a=[y]/\(Instr.loadAt t y).run P W= .ok z W/\(Instr.loadAt t y).run P W'= .ok z W':=by
  rcases e2 with ⟨off,rfl⟩ | ⟨ix,bw,rfl⟩
  ·simp only[az]at h4
   obtain⟨y,ys,rfl,h6,rfl⟩:=h4
   simp only[Den]at h6
   obtain⟨re,pN,rfl⟩:=h6
   simp only[k_]at hk
   obtain⟨z,hz⟩:=abU hk hi pN
   have hown:∃ x,kb[b]? =some x/\owned re x re.blk:=by
    unfold nI at hk
    split at hk<;>try exact hk.elim
    dsimp only at hk
    split at hk<;>try exact hk.elim
    rename_i l hl
    exact⟨_,hl,rfl⟩
   obtain⟨x,hx,hown⟩:=hown
   exact⟨_,z,rfl,hz W rfl,hz W' (uC b hb x hx re pN _ hown)⟩
  ·simp only[az]at h4
   obtain⟨y,ys,rfl,h6,rfl⟩:=h4
   simp only[Den]at h6
   obtain⟨re,pN,rfl⟩:=h6
   simp only[k_]at hk
   obtain⟨hown,z,hz⟩:=abV hk hi pN
   cases hx:kb[b]? with
   |none=>
    unfold nI at hk
    simp only[hx]at hk
    split at hk<;>try exact hk.elim
    split at hk<;>try exact hk.elim
    split at hk<;>exact hk.elim
   |some x=>exact⟨_,z,rfl,hz W rfl,hz W' (uC b hb x hx re pN _ (hown x hx))⟩
 obtain⟨y,z,rfl,g1,g2⟩:=key
 have e3:r.x=z:=by
  rw[h5]at h2
  simp [sc,g1]at h2
  exact h2.symm
 refine⟨h1,?_,Den.mono hE h3,_,az.mono hE h4,h5⟩
 rw[h5,e3]
 simp [sc,g2]
theorem YE {P:Program} {X:cd} {o:Oper} (ho:CA o.op=true) {fr:Fr} {kb:KB} {K:V->KB->Prop} (h:tG P X o fr kb K) {σ:Sg} {E:EH} {n:Nat} {a:Act} {W:World} (hi:Inv σ E kb W) (Q:Exit->Act->World->Prop):
  o.wp P a W (fun a' W'=>z7 σ E kb W a o K a' W'/\pu W W') Q:=by
 obtain⟨dst,op,ty,pos,after,guard⟩:=o
 cases op<;>simp only[CA]at ho<;>try (cases ho;done)
 rename_i t
 unfold tG at h
 simp only[isPure]at h
 unfold Hh at h
 simp only at h
 obtain⟨v,x,σ',kb',W',h1,h2,h3,h4,h5⟩:=N1 h hi
 exact l8 (by simp [execOp,h1]) ⟨⟨σ',E,kb',v,x,h2,h3,rfl,h4⟩,h5⟩
theorem oJ.step {P:Program} {σ τ:Sg} {E E':EH} {W W':World} {l:kw} {r:rf} (h:oJ P σ E W l r) (hE:E.le E') {kb':KB} (hi0:∀ b o,E b=some o->W.heap[b]? =some o) (hi:Inv (σ++τ) E' kb' W') (hk:M6 P kb' l):oJ P (σ++τ) E' W' l r:=by
 obtain⟨h1,h2,h3,a,h4,h5⟩:=h
 rcases hk with ⟨hv,hl⟩ | ⟨hm,hl⟩
 case inr=>
  obtain⟨li,lr,RQ,lv⟩:=l
  simp only at h1 h3 h4 h5 hm hl
  unfold IP at hm
  split at hm
  case h_2=>cases hm
  rename_i t e bw
  simp only[az]at h4
  obtain⟨y,ys,rfl,h6,rfl⟩:=h4
  simp only[k_]at hl
  obtain⟨x,hx⟩:=abW hl h6
  have e1:=hx hi0
  have e2:=hx (W:=W') (fun b o hb=>hi.fe b o (hE b o hb))
  have e3:r.x=x:=by
   rw[h5]at h2
   simp [sc,e1]at h2
   exact h2.symm
  refine⟨h1,?_,Den.mono hE h3,[y],az.mono hE (by simp only[az];exact⟨y,[],rfl,h6,rfl⟩),h5⟩
  rw[h5,e3]
  simp [sc,e2]
 obtain⟨v,x,k1,k2,k3⟩:=KC hl hi (az.mono hE h4)
 replace k3:=L7 k3
 subst k3
 have e1:=hv _ _ _ _ _ _ h3 k2
 refine⟨h1,?_,Den.mono hE h3,a,az.mono hE h4,h5⟩
 rw[h5,e1]
 simp [k1]
theorem ZW {P:Program} {X:cd} (hX:cx P X) {c:Cx} {n:Nat} {ops:Array Oper} (pL:Region.noSelect ops=true) (Il:Hg ops=true) {Q:Exit->Act->World->Prop} {K:Fr->KB->Prop} (hQ:∀ a W,oH c n K a W->Q .normal a W)
  (H5:∀ ch a a' w,Q (.panic ch) a w->Q (.panic ch) a' w):∀(fuel:Nat) (m:Nat) (listed:Array Bool) (h_:List kw) (fr:Fr) (kb:KB) (a:Act) (W:World) (σ:Sg) (E:EH) (L:List rf),ra ops listed m->Closed ops listed->
   Step c.σ c.E c.kb c.W σ E kb W->gl σ E fr n a->An P ops listed σ E W h_ L->nq P X n ops (jB P ops 0 ops.size) fuel m h_ K fr kb->qV P ops Q (GL P ops L) fuel listed a W:=by
 have hlt:=Z5 Il
 have Q1:∀{m:Nat} {listed:Array Bool},ra ops listed m->pf (jB P ops 0 ops.size) 0 m=[]->Region.ready .any ops listed=[]:=by
  intro m listed hm h0
  apply List.eq_nil_iff_forall_not_mem.2
  intro k hk
  obtain⟨_,o,ho,_⟩:=mem_ready.1 hk
  obtain⟨h1,h2⟩:=(hm.ready hlt ho).1 hk
  have:=KI (ops:=ops) (n:=ops.size) (i:=0) (bj k) (by have:=(Array.getElem?_eq_some_iff.1 ho).1;omega) h1 h2
  rw[h0]at this;cases this
 intro fuel
 induction fuel with
 |zero=>
  intro m listed h_ fr kb a W σ E L hm hcl hs hf hL h
  simp only[nq]at h
  split at h
  ·rename_i hr;exact⟨Q1 hm hr,hQ a W ⟨σ,E,fr,kb,hs,hf,h⟩⟩
  ·exact h.elim
 |succ fuel ih=>
  intro m listed h_ fr kb a W σ E L hm hcl hs hf hL h
  simp only[nq]at h
  have hsel:=Region.noSelect_spec pL
  split at h
  ·rename_i i hfind
   obtain⟨hil,uB,rH,hsub,pJ⟩:=Uf hfind
   split at h
   case h_2=>exact h.elim
   rename_i o ho
   have hmem:=(hm.ready hlt ho).2 ⟨rH,hsub⟩
   have hfree:=hm.free ho pJ
   obtain⟨uF,hii⟩:=hcl.nK (P:=P) hmem
   have aaU:nZ P ops i=true:=by rw[<- T3];exact uB
   have dQ:∀(L:List rf) l j w w',j≠i->GL P ops L (l.setIfInBounds i true) j w w'->GL P ops L l j w w':=by
    intro L l j w w' _ hg r hr hn hw hrun
    exact hg r hr (JM hn (.inr aaU)) hw hrun
   have hkeep:∀{ls:List kw},An P ops listed σ E W ls L->An P ops (listed.setIfInBounds i true) σ E W ls L:=fun hl r hr hn=>hl r hr (wP hn)
   obtain⟨fr',hf',⟨hw,h⟩ | ⟨hw,h⟩⟩:=B7 h hf
   ·split at h
    ·rename_i rr xs hrd
     split at h
     case h_2=>exact h.elim
     rename_i gp had
     obtain⟨v,y,h1,h2,h3⟩:=KC h hs.inv (BS hf' had)
     obtain⟨jv,jw,h4⟩:=o_ h3 hf' h2
     have Co:=UE hrd a.eval
     have hW:(execOp a.eval o).run P W= .ok (.value y) W:=by rw[Co];simp [h1]
     have ih1:=ih (iW m (2 ^ i)) (listed.setIfInBounds i true) (⟨i,rr,gp,v⟩::h_) jv kb (a.put o.dst y) W σ E (⟨i,execOp a.eval o,y⟩::L) (hm.set i) (hcl.set hmem) hs jw (fun r hr hn=>by
      rcases dS.1 hr with rfl | hr
      ·exact⟨_,iV,rfl,hW,h2,_,BS hf' had,Co⟩
      ·obtain⟨l,hl,hl2⟩:=hkeep hL r hr hn
       exact⟨l,gn _ hl,hl2⟩) h4
     exact qV.weaken (fun l j w w' hg r hr=>hg r (gn _ hr)) (HG (C:=fun w=>(execOp a.eval o).run P w= .ok (.value y) w) ho hsel (fun ch a w=>H5 ch _ a w)
      (fun l j w w' hn kG hg hC=>hg ⟨i,execOp a.eval o,y⟩ iV hn kG hC) (fun l w r hr hn hw hrun=>hrun) (dQ _) fuel listed a W hfree hcl hmem (.inl ⟨hw,fun w hC=>hC⟩) hW uF hii ih1)
    ·split at h
     case h_2=>exact h.elim
     obtain⟨v,y,h1,h2,h3⟩:=Kx h hf' hs.inv
     obtain⟨jv,jw,h4⟩:=o_ h3 hf' h2
     have ih1:=ih (iW m (2 ^ i)) (listed.setIfInBounds i true) h_ jv kb (a.put o.dst y) W σ E L (hm.set i) (hcl.set hmem) hs jw (hkeep hL) h4
     exact HG (C:=fun _=>True) ho hsel (fun ch a w=>H5 ch _ a w) (fun _ _ _ _ _ _ _ _=>trivial) (fun l w r hr hn hw hrun=>hrun) (dQ _) fuel listed a W hfree hcl hmem (.inl ⟨hw,fun w _=>h1 w⟩) trivial uF hii ih1
   ·obtain⟨jv,jw,h4⟩:=o_ h hf' (σ:=σ) (E:=E) (x:=undef) (by simp [Den])
    have ih1:=ih (iW m (2 ^ i)) (listed.setIfInBounds i true) h_ jv kb (a.put o.dst undef) W σ E L (hm.set i) (hcl.set hmem) hs jw (hkeep hL) h4
    exact HG (C:=fun _=>True) ho hsel (fun ch a w=>H5 ch _ a w) (fun _ _ _ _ _ _ _ _=>trivial) (fun l w r hr hn hw hrun=>hrun) (dQ _) fuel listed a W hfree hcl hmem (.inr ⟨hw,rfl⟩) trivial uF hii ih1
  ·split at h
   ·rename_i hr
    have hr':=Q1 hm hr
    exact⟨fun _=>hQ a W ⟨σ,E,fr,kb,hs,hf,h⟩,by rw[hr'];simp⟩
   ·rename_i r rs hr
    refine⟨fun h0=>?_,fun j hj=>?_⟩
    ·obtain⟨_,g2,g3,g4⟩:=UJ (ops:=ops) (m:=m) (n:=ops.size) (i:=0) (k:=r) (by rw[hr];exact iV)
     have hrl:r<ops.size:=by omega
     have:=(hm.ready hlt (Array.getElem?_eq_getElem hrl)).2 ⟨g3,g4⟩
     rw[h0]at this;cases this
    have Cg:j<listed.size:=by
     obtain⟨h0,_⟩:=mem_ready.1 hj
     rcases kx j listed.size with h' | h'
     ·exact h'
     ·simp [Array.getElem?_eq_none h']at h0
    have Ce:j∈r::rs:=by
     obtain⟨_,o,ho,_⟩:=mem_ready.1 hj
     obtain⟨h1,h2⟩:=(hm.ready hlt ho).1 hj
     rw[<- hr]
     exact KI (ops:=ops) (n:=ops.size) (i:=0) (bj j) (by rw[<- hm.size];omega) h1 h2
    have h:=OU h j Ce
    split at h
    case h_3=>exact h.elim
    case h_2=>
     rename_i o ho uB
     unfold wpOp
     simp only[ho]
     have Iu:An P ops (listed.setIfInBounds j true) σ E W h_ L:=fun r hr hn=>hL r hr (wP hn)
     obtain⟨fr',hf',⟨hw,h⟩ | ⟨hw,h⟩⟩:=B7 h hf
     ·rw[if_pos hw]
      split at h
      ·rename_i rr xs hrd
       split at h
       case h_2=>exact h.elim
       rename_i gp had
       obtain⟨v,y,h1,h2,h3⟩:=KC h hs.inv (BS hf' had)
       obtain⟨jv,jw,h4⟩:=o_ h3 hf' h2
       have Co:=UE hrd a.eval
       have hW:(execOp a.eval o).run P W= .ok (.value y) W:=by rw[Co];simp [h1]
       exact .inl (l8 hW ⟨fun r hr hn kG hrun=>hrun,ih (iW m (2 ^ j)) (listed.setIfInBounds j true) h_ jv kb _ W σ E L (hm.set j) (hcl.set hj) hs jw Iu h4⟩)
      ·split at h
       case h_2=>exact h.elim
       obtain⟨v,y,h1,h2,h3⟩:=Kx h hf' hs.inv
       obtain⟨jv,jw,h4⟩:=o_ h3 hf' h2
       exact .inl (l8 (h1 W) ⟨fun r hr hn kG hrun=>hrun,ih (iW m (2 ^ j)) (listed.setIfInBounds j true) h_ jv kb _ W σ E L (hm.set j) (hcl.set hj) hs jw Iu h4⟩)
     ·rw[if_neg (by simp [hw])]
      obtain⟨jv,jw,h4⟩:=o_ h hf' (σ:=σ) (E:=E) (x:=undef) (by simp [Den])
      exact⟨fun r hr hn kG hrun=>hrun,ih (iW m (2 ^ j)) (listed.setIfInBounds j true) h_ jv kb _ W σ E L (hm.set j) (hcl.set hj) hs jw Iu h4⟩
    rename_i o ho uB
    unfold wpOp
    simp only[ho]
    obtain⟨fr',hf',⟨hw,h⟩ | ⟨hw,h⟩⟩:=B7 h hf
    ·rw[if_pos hw]
     split at h
     ·rename_i H_ _
      obtain⟨h,k5⟩:=UA h
      refine .inl (Oper.wp_mono (fun a' W' ha=>?_) (YE (n:=n) (a:=a) H_ h hs.inv Q))
      obtain⟨⟨σ',E',kb',v,x,k1,k2,rfl,k4⟩,Q3⟩:=ha
      have hpre:=k1.pre
      obtain⟨τ,rfl⟩:=hpre
      obtain⟨jv,jw,h4⟩:=o_ k4 (hf'.mono k1.le) k2
      refine⟨fun r hr hn kG hrun=>?_,ih (iW m (2 ^ j)) (listed.setIfInBounds j true) _ jv kb' _ W' _ E' L (hm.set j) (hcl.set hj) (hs.trans k1) jw (fun r hr hn=>?_) h4⟩
      ·obtain⟨l,hl,hlo⟩:=hL r hr hn
       obtain⟨t,ht,hk⟩:=k5 l hl
       exact(hlo.quiet (τ:=τ) k1.le hs.inv Q3 ht hk).2.1
      ·obtain⟨l,hl,hlo⟩:=hL r hr (wP hn)
       have lU:waits P ops j l.i=false:=by rw[<- hlo.1];exact Db Cg uB hn
       obtain⟨t,ht,hk⟩:=k5 l hl
       exact⟨l,lu.2 ⟨hl,by simp [lU]⟩,hlo.quiet k1.le hs.inv Q3 ht hk⟩
     split at h
     ·rename_i b bs hb
      obtain⟨h,hq⟩:=Kz h
      refine .inl (Oper.wp_mono (fun a' W' ha=>?_) (Kh hX h hf' (Ra hs.inv) Q))
      obtain⟨σ',E',kb',v,x,k1,k2,rfl,k3⟩:=ha
      split at k3<;>try exact k3.elim
      rename_i kz hkz
      obtain⟨k1,uC⟩:=WE hs.inv k1 hkz
      obtain⟨k4,k5⟩:=wG k3
      obtain⟨τ,rfl⟩:=k1.pre
      obtain⟨jv,jw,h4⟩:=o_ k4 (hf'.mono k1.le) k2
      have keep:∀{l:kw} {r:rf},l∈h_->oJ P σ E W l r->waits P ops j l.i=false->oJ P (σ++τ) E' W' l r:=by
       intro l r hl hlo lU
       cases hr:uD (b::bs) l with
       |true=>exact hlo.fix k1.le hs.inv hr (hq l hl hr) uC
       |false=>exact hlo.step k1.le hs.inv.fe k1.inv (k5 l (lu.2 ⟨hl,by simp [hr]⟩) lU)
      refine⟨fun r hr hn kG hrun=>?_,ih (iW m (2 ^ j)) (listed.setIfInBounds j true) _ jv _ _ W' _ E' L (hm.set j) (hcl.set hj) (hs.trans k1) jw (fun r hr hn=>?_) h4⟩
      ·obtain⟨l,hl,hlo⟩:=hL r hr hn
       have lU:waits P ops j l.i=false:=by rw[<- hlo.1];exact kG
       exact(keep hl hlo lU).2.1
      ·obtain⟨l,hl,hlo⟩:=hL r hr (wP hn)
       have lU:waits P ops j l.i=false:=by rw[<- hlo.1];exact Db Cg uB hn
       exact⟨l,lu.2 ⟨hl,by simp [lU]⟩,keep hl hlo lU⟩
     refine .inl (Oper.wp_mono (fun a' W' ha=>?_) (Kh hX h hf' hs.inv Q))
     obtain⟨σ',E',kb',v,x,k1,k2,rfl,k3⟩:=ha
     obtain⟨k4,k5⟩:=wG k3
     obtain⟨τ,rfl⟩:=k1.pre
     obtain⟨jv,jw,h4⟩:=o_ k4 (hf'.mono k1.le) k2
     refine⟨fun r hr hn kG hrun=>?_,ih (iW m (2 ^ j)) (listed.setIfInBounds j true) _ jv kb' _ W' _ E' L (hm.set j) (hcl.set hj) (hs.trans k1) jw (fun r hr hn=>?_) h4⟩
     ·obtain⟨l,hl,hlo⟩:=hL r hr hn
      have lU:waits P ops j l.i=false:=by rw[<- hlo.1];exact kG
      exact((hlo.step k1.le hs.inv.fe k1.inv (k5 l hl lU)).2.1)
     ·obtain⟨l,hl,hlo⟩:=hL r hr (wP hn)
      have lU:waits P ops j l.i=false:=by rw[<- hlo.1];exact Db Cg uB hn
      exact⟨l,lu.2 ⟨hl,by simp [lU]⟩,hlo.step k1.le hs.inv.fe k1.inv (k5 l hl lU)⟩
    ·rw[if_neg (by simp [hw])]
     obtain⟨jv,jw,h4⟩:=o_ h hf' (σ:=σ) (E:=E) (x:=undef) (by simp [Den])
     exact⟨fun r hr hn kG hrun=>hrun,ih (iW m (2 ^ j)) (listed.setIfInBounds j true) _ jv kb _ W σ E L (hm.set j) (hcl.set hj) hs jw (fun r hr hn=>by
      obtain⟨l,hl,hlo⟩:=hL r hr (wP hn)
      have lU:waits P ops j l.i=false:=by rw[<- hlo.1];exact Db Cg uB hn
      exact⟨l,lu.2 ⟨hl,by simp [lU]⟩,hlo⟩) h4⟩
mutual
def V.bZ (ρ:Nat->Option Nat):V->Option V
 | .ptr i off=>match ρ i with | some j=>some (.ptr j off) | none=>none
 | .mp i=>match ρ i with | some j=>some (.mp j) | none=>none
 | .ch i=>match ρ i with | some j=>some (.ch j) | none=>none
 | .pa i base o=>match ρ i with | some j=>some (.pa j base o) | none=>none
 | .pw i ix=>match ρ i with | some j=>some (.pw j ix) | none=>none
 | .sa i base o s n c=>match ρ i with | some j=>some (.sa j base o s n c) | none=>none
 | .se i ix o s n c=>match ρ i with | some j=>some (.se j ix o s n c) | none=>none
 | .sl i lo hi=>match ρ i with | some j=>some (.sl j lo hi) | none=>none
 | .pe i ix bw=>match ρ i with | some j=>some (.pe j ix bw) | none=>none
 | .agg l=>match V.lD ρ l with | some l'=>some (.agg l') | none=>none
 | .φ l=>match V.lD ρ l with | some l'=>some (.φ l') | none=>none
 | .fn f l=>match V.lD ρ l with | some l'=>some (.fn f l') | none=>none
 | .tt=>some (.sb true)
 | .ff=>some (.sb false)
 | .lit k n=>some (.int k n)
 |v=>some v
def V.lD (ρ:Nat->Option Nat):List V->Option (List V)
 | []=>some []
 |v::vs=>match V.bZ ρ v with
  |some v'=>match V.lD ρ vs with | some vs'=>some (v'::vs') | none=>none
  |none=>none
end
mutual
theorem Den.bZ {ρ:Nat->Option Nat} {σ σ':Sg} {E:EH} (hρ:∀ i j r,ρ i=some j->σ[i]? =some r->σ'[j]? =some r):∀{v v':V} {x:Value},V.bZ ρ v=some v'->Den σ E v x->Den σ' E v' x
 | .any _,_,_,h,hd | .int ..,_,_,h,hd | .lit ..,_,_,h,hd | .sb _,_,_,h,hd | .tt,_,_,h,hd | .ff,_,_,h,hd | .e0,_,_,h,hd | .dm ..,_,_,h,hd | .aa _,_,_,h,hd | .imp ..,_,_,h,hd | .dat _,_,_,h,hd=>by
  simp only[V.bZ,bb.injEq]at h;subst h;simpa only[Den]using hd
 | .arr ..,_,_,h,hd=>by simp only[Den]at hd
 | .ptr i off,v',x,h,hd=>by
  simp only[V.bZ]at h
  split at h
  ·rename_i j hj;cases h
   simp only[Den]at hd ⊢
   obtain⟨r,h1,h2⟩:=hd
   exact⟨r,hρ i j r hj h1,h2⟩
  ·cases h
 | .pa i base o,v',x,h,hd=>by
  simp only[V.bZ]at h
  split at h
  ·rename_i j hj;cases h
   simp only[Den]at hd ⊢
   obtain⟨r,h1,h2⟩:=hd
   exact⟨r,hρ i j r hj h1,h2⟩
  ·cases h
 | .pe i ix bw,v',x,h,hd=>by
  simp only[V.bZ]at h
  split at h
  ·rename_i j hj;cases h
   simp only[Den]at hd ⊢
   obtain⟨r,h1,h2⟩:=hd
   exact⟨r,hρ i j r hj h1,h2⟩
  ·cases h
 | .pw i ix,v',x,h,hd=>by
  simp only[V.bZ]at h
  split at h
  ·rename_i j hj;cases h
   simp only[Den]at hd ⊢
   obtain⟨r,h1,h2⟩:=hd
   exact⟨r,hρ i j r hj h1,h2⟩
  ·cases h
 | .mp i,v',x,h,hd=>by
  simp only[V.bZ]at h
  split at h
  ·rename_i j hj;cases h
   simp only[Den]at hd ⊢
   obtain⟨r,h1,h2⟩:=hd
   exact⟨r,hρ i j r hj h1,h2⟩
  ·cases h
 | .ch i,v',x,h,hd=>by
  simp only[V.bZ]at h
  split at h
  ·rename_i j hj;cases h
   simp only[Den]at hd ⊢
   obtain⟨r,h1,h2⟩:=hd
   exact⟨r,hρ i j r hj h1,h2⟩
  ·cases h
 | .sl i lo hi,v',x,h,hd=>by
  simp only[V.bZ]at h
  split at h
  ·rename_i j hj;cases h
   simp only[Den]at hd ⊢
   obtain⟨r,a,h1,h2⟩:=hd
   exact⟨r,a,hρ i j r hj h1,h2⟩
  ·cases h
 | .sa i base o s n c,v',x,h,hd=>by
  simp only[V.bZ]at h
  split at h
  ·rename_i j hj;cases h
   simp only[Den]at hd ⊢
   obtain⟨r,a,h1,h2⟩:=hd
   exact⟨r,a,hρ i j r hj h1,h2⟩
  ·cases h
 | .se i ix o s n c,v',x,h,hd=>by
  simp only[V.bZ]at h
  split at h
  ·rename_i j hj;cases h
   simp only[Den]at hd ⊢
   obtain⟨r,a,h1,h2⟩:=hd
   exact⟨r,a,hρ i j r hj h1,h2⟩
  ·cases h
 | .agg l,v',x,h,hd=>by
  simp only[V.bZ]at h
  split at h
  ·rename_i l' hl;cases h
   simp only[Den]at hd ⊢
   obtain⟨vs,h1,h2⟩:=hd
   exact⟨vs,h1,aV.bZ hρ hl h2⟩
  ·cases h
 | .φ l,v',x,h,hd=>by
  simp only[V.bZ]at h
  split at h
  ·rename_i l' hl;cases h
   simp only[Den]at hd ⊢
   obtain⟨vs,h1,h2⟩:=hd
   exact⟨vs,h1,az.bZ hρ hl h2⟩
  ·cases h
 | .fn f l,v',x,h,hd=>by
  simp only[V.bZ]at h
  split at h
  ·rename_i l' hl;cases h
   simp only[Den]at hd ⊢
   obtain⟨vs,h1,h2⟩:=hd
   exact⟨vs,h1,az.bZ hρ hl h2⟩
  ·cases h
theorem az.bZ {ρ:Nat->Option Nat} {σ σ':Sg} {E:EH} (hρ:∀ i j r,ρ i=some j->σ[i]? =some r->σ'[j]? =some r):∀{vs vs':List V} {xs:List Value},V.lD ρ vs=some vs'->az σ E vs xs->az σ' E vs' xs
 | [],_,_,h,hd=>by simp only[V.lD,bb.injEq]at h;subst h;simpa only[az]using hd
 |v::vs,_,_,h,hd=>by
  simp only[V.lD]at h
  split at h
  ·rename_i v' hv
   split at h
   ·rename_i us lS;cases h
    simp only[az]at hd ⊢
    obtain⟨x,xs',h1,h2,h3⟩:=hd
    exact⟨x,xs',h1,Den.bZ hρ hv h2,az.bZ hρ lS h3⟩
   ·cases h
  ·cases h
theorem aV.bZ {ρ:Nat->Option Nat} {σ σ':Sg} {E:EH} (hρ:∀ i j r,ρ i=some j->σ[i]? =some r->σ'[j]? =some r):∀{vs vs':List V} {xs:List Value},V.lD ρ vs=some vs'->aV σ E vs xs->aV σ' E vs' xs
 | [],_,_,h,hd=>by simp only[V.lD,bb.injEq]at h;subst h;simpa only[aV]using hd
 |v::vs,_,_,h,hd=>by
  simp only[V.lD]at h
  split at h
  ·rename_i v' hv
   split at h
   ·rename_i us lS;cases h
    simp only[aV]at hd ⊢
    obtain⟨ys,zs,h1,h2,h3⟩:=hd
    refine⟨ys,zs,h1,?_,aV.bZ hρ lS h3⟩
    rcases h2 with ⟨y,e,o,hy⟩ | ⟨m,cs,e,hl,hD⟩
    ·exact .inl ⟨y,e,o,Den.bZ hρ hv hy⟩
    ·subst e
     simp only[V.bZ,bb.injEq]at hv
     subst hv
     exact .inr ⟨m,cs,rfl,hl,hD⟩
   ·cases h
  ·cases h
end
def KO.bZ (ρ:Nat->Option Nat):KO->Option KO
 | .cells l=>match V.lD ρ l with | some l'=>some (.cells l') | none=>none
 | .row ty sz l=>some (.row ty sz l)
 | .mp aD aW agg sz l=>some (.mp aD aW agg sz l)
 | .ch agg sz cap l=>some (.ch agg sz cap l)
 | .objs A=>some (.objs A)
 | .jP a=>some (.jP a)
 | .dead=>some .dead
theorem ij.bZ {ρ:Nat->Option Nat} {σ σ':Sg} {E:EH} {W:World} (hρ:∀ i j r,ρ i=some j->σ[i]? =some r->σ'[j]? =some r) {o o':KO} {r:Re} (h:KO.bZ ρ o=some o') (hh:ij σ E W r o):ij σ' E W r o':=by
 cases o with
 |cells l=>
  simp only[KO.bZ]at h
  split at h
  ·rename_i l' hl;cases h
   obtain⟨arr,ty,h1,h2⟩:=hh
   exact⟨arr,ty,h1,aV.bZ hρ hl h2⟩
  ·cases h
 |row ty sz l=>simp only[KO.bZ,bb.injEq]at h;subst h;exact hh
 |mp aD aW agg sz l=>simp only[KO.bZ,bb.injEq]at h;subst h;exact hh
 |ch agg sz cap l=>simp only[KO.bZ,bb.injEq]at h;subst h;exact hh
 |objs A=>simp only[KO.bZ,bb.injEq]at h;subst h;exact hh
 |jP a=>simp only[KO.bZ,bb.injEq]at h;subst h;exact hh
 |dead=>simp only[KO.bZ,bb.injEq]at h;subst h;trivial
theorem mr {ρ:Nat->Option Nat} {o o':KO} {r:Re} (h:KO.bZ ρ o=some o') {b:Nat}:owned r o' b ↔ owned r o b:=by
 cases o with
 |cells l=>
  simp only[KO.bZ]at h
  split at h
  ·cases h;exact Iff.rfl
  ·cases h
 |row ty sz l=>simp only[KO.bZ,bb.injEq]at h;subst h;exact Iff.rfl
 |mp aD aW agg sz l=>simp only[KO.bZ,bb.injEq]at h;subst h;exact Iff.rfl
 |ch agg sz cap l=>simp only[KO.bZ,bb.injEq]at h;subst h;exact Iff.rfl
 |objs A=>simp only[KO.bZ,bb.injEq]at h;subst h;exact Iff.rfl
 |jP a=>simp only[KO.bZ,bb.injEq]at h;subst h;exact Iff.rfl
 |dead=>simp only[KO.bZ,bb.injEq]at h;subst h;exact Iff.rfl
def idx:List Nat->Nat->Option Nat
 | [],_=>none
 |a::l,i=>match cX a i with
  |true=>some 0
  |false=>match idx l i with | some k=>some (k+1) | none=>none
theorem Cu:∀{l:List Nat} {i k:Nat},idx l i=some k->l[k]? =some i
 | [],_,_,h=>by simp [idx]at h
 |a::l,i,k,h=>by
  simp only[idx]at h
  split at h
  ·rename_i hb
   cases h
   simp [de hb]
  ·split at h
   ·rename_i j hj
    cases h
    simpa using Cu hj
   ·cases h
def yV (l:List Nat) (i:Nat):Bool:=match idx l i with | some _=>true | none=>false
def uR:List Nat->Bool
 | []=>true
 |a::l=>match yV l a with | true=>false | false=>uR l
theorem Ct:∀{l:List Nat} {i:Nat},i∈l->∃ k,idx l i=some k
 |a::l,i,h=>by
  simp only[idx]
  split
  ·exact⟨0,rfl⟩
  ·rename_i hb
   rcases dS.1 h with rfl | h
   ·simp at hb
   ·obtain⟨k,hk⟩:=Ct h
    exact⟨k+1,by rw[hk]⟩
theorem S2:∀{l:List Nat},uR l=true->l.Nodup
 | [],_=>List.nodup_nil
 |a::l,h=>by
  simp only[uR]at h
  split at h
  ·cases h
  ·rename_i hm
   refine List.nodup_cons.2 ⟨fun hin=>?_,S2 h⟩
   obtain⟨k,hk⟩:=Ct hin
   simp [yV,hk]at hm
def sj (ρ:Nat->Option Nat) (kb:KB):List Nat->Option KB
 | []=>some []
 |i::is=>match kb[i]? with
  |some o=>match KO.bZ ρ o with
   |some o'=>match sj ρ kb is with | some r=>some (o'::r) | none=>none
   |none=>none
  |none=>none
theorem xf {ρ:Nat->Option Nat} {kb:KB}:∀{order:List Nat} {r:KB},sj ρ kb order=some r->r.length=order.length/\∀(k i:Nat),order[k]? =some i->∃(o o':KO),kb[i]? =some o/\KO.bZ ρ o=some o'/\r[k]? =some o'
 | [],r,h=>by simp only[sj,bb.injEq]at h;subst h;simp
 |i::is,r,h=>by
  simp only[sj]at h
  split at h<;>try (cases h;done)
  rename_i o ho
  split at h<;>try (cases h;done)
  rename_i o' ho'
  split at h<;>try (cases h;done)
  rename_i r' hr'
  cases h
  obtain⟨h1,h2⟩:=xf hr'
  refine⟨by simp [h1],fun k j hk=>?_⟩
  cases k with
  |zero=>simp at hk;subst hk;exact⟨o,o',ho,ho',rfl⟩
  |succ k=>simpa using h2 k j (by simpa using hk)
def KE:Re:=⟨0,0,0⟩
def dU (σ:Sg) (order:List Nat):Sg:=order.map fun i=>(σ[i]?).getD KE
theorem Inv.sel {σ:Sg} {E:EH} {kb:KB} {W:World} (h:Inv σ E kb W) {order:List Nat} {kb':KB} (hn:uR order=true) (hs:sj (idx order) kb order=some kb'):
  Inv (dU σ order) E kb' W/\(∀ b,dc (dU σ order) kb' b->dc σ kb b)/\(∀ i j r,idx order i=some j->σ[i]? =some r->(dU σ order)[j]? =some r):=by
 obtain⟨hl,df⟩:=xf hs
 have hnd:=S2 hn
 have hρ:∀ i j r,idx order i=some j->σ[i]? =some r->(dU σ order)[j]? =some r:=fun i j r hi hr=>by
  simp [dU,Cu hi,hr]
 have B_:∀(k:Nat) (r:Re) (o':KO),(dU σ order)[k]? =some r->kb'[k]? =some o'->∃ i o,order[k]? =some i/\σ[i]? =some r/\kb[i]? =some o/\KO.bZ (idx order) o=some o':=by
  intro k r o' h1 h2
  simp only[dU,fy,Option.map_eq_some_iff]at h1
  obtain⟨i,hi,hr⟩:=h1
  obtain⟨o,o2,ho,rJ,hk⟩:=df k i hi
  rw[h2]at hk;cases hk
  have hlt:i<σ.length:=by
   rw[h.len]
   exact(bH.1 ho).1
  rw[bu hlt]at hr
  simp at hr
  exact⟨i,o,hi,by rw[bu hlt,hr],ho,rJ⟩
 have hown:∀ b,dc (dU σ order) kb' b->dc σ kb b:=by
  rintro b ⟨k,r,o',h1,h2,h3⟩
  obtain⟨i,o,_,hr,ho,rJ⟩:=B_ k r o' h1 h2
  exact⟨i,r,o,hr,ho,(mr rJ).1 h3⟩
 refine⟨⟨by simp [dU,hl],fun k r o' h1 h2=>?_,fun k m r1 r2 o1 o2 b hkm h1 h2 h3 h4 h5 h6=>?_,h.fe,fun b hb=>h.sep b (hown b hb)⟩,hown,hρ⟩
 ·obtain⟨i,o,_,hr,ho,rJ⟩:=B_ k r o' h1 h2
  exact(h.obj i r o hr ho).bZ hρ rJ
 ·obtain⟨i,o,hi,hr,ho,rJ⟩:=B_ k r1 o1 h1 h2
  obtain⟨j,p,hj,hr',hp,hp2⟩:=B_ m r2 o2 h3 h4
  have hij:i≠j:=fun e=>by
   subst e
   have hk:=(bH.1 hi).1
   have hm:=(bH.1 hj).1
   rw[bu hk]at hi
   rw[bu hm]at hj
   simp at hi hj
   exact hkm ((List.getElem_inj hnd).1 (hi.trans hj.symm))
  exact h.eH i j r1 r2 o p b hij hr ho hr' hp ((mr rJ).1 h5) ((mr hp2).1 h6)
mutual
def V.refs:V->List Nat
 | .ptr i _=>[i]
 | .sl i _ _=>[i]
 | .pe i _ _=>[i]
 | .pa i _ _=>[i]
 | .pw i _=>[i]
 | .sa i _ _ _ _ _=>[i]
 | .se i _ _ _ _ _=>[i]
 | .mp i=>[i]
 | .ch i=>[i]
 | .agg l=>V.w_ l
 | .φ l=>V.w_ l
 | .fn _ l=>V.w_ l
 |_=>[]
def V.w_:List V->List Nat
 | []=>[]
 |v::vs=>V.refs v++V.w_ vs
end
def KO.refs:KO->List Nat
 | .cells l=>V.w_ l
 |_=>[]
def x5:List Nat->List Nat->List Nat
 |o,[]=>o
 |o,i::is=>match yV o i with | true=>x5 o is | false=>x5 (o++[i]) is
def reach (kb:KB):Nat->List Nat->Nat->List Nat
 | 0,o,_=>o
 |f+1,o,p=>match o[p]? with
  |none=>o
  |some i=>match kb[i]? with
   |some x=>reach kb f (x5 o x.refs) (p+1)
   |none=>o
def wO:List Nat->List Nat->Bool
 | [],[]=>true
 |a::l,b::m=>match cX a b with | true=>wO l m | false=>false
 |_,_=>false
theorem SV:∀{l m:List Nat},wO l m=true->l=m
 | [],[],_=>rfl
 |a::l,b::m,h=>by
  simp only[wO]at h
  split at h
  ·rename_i hb;rw[de hb,SV h]
  ·cases h
 | [],_:: _,h=>by simp [wO]at h
 |_:: _,[],h=>by simp [wO]at h
def Ks:KB->Nat->List Nat
 | [],_=>[]
 | .objs _::kb,i=>i::Ks kb (i+1)
 |_::kb,i=>Ks kb (i+1)
def sX (pl:Bool) (n0:Nat) (vals:List V) (kb:KB):Option (List V×KB×List Nat):=
 let o1:=reach kb (kb.length+1) (jb n0) 0
 let o3:=reach kb (kb.length+1) (x5 o1 (V.w_ vals)) o1.length
 let o2:=match pl with | true=>x5 o3 (Ks kb 0) | false=>o3
 match uR o2,wO (o2.take n0) (jb n0)with
 |true,true=>match V.lD (idx o2) vals,sj (idx o2) kb o2 with
  |some vs,some kb'=>some (vs,kb',o2)
  |_,_=>none
 |_,_=>none
theorem rq {pl:Bool} {n0:Nat} {vals:List V} {kb:KB} {vs:List V} {kb':KB} {o:List Nat} (h:sX pl n0 vals kb=some (vs,kb',o)):
  uR o=true/\o.take n0=jb n0/\V.lD (idx o) vals=some vs/\sj (idx o) kb o=some kb':=by
 unfold sX at h
 simp only at h
 split at h
 ·rename_i h1 h2
  split at h
  ·rename_i vs' j8 h3 h4
   simp only[bb.injEq,Prod.mk.injEq]at h
   obtain⟨rfl,rfl,rfl⟩:=h
   exact⟨h1,SV h2,h3,h4⟩
  ·cases h
 ·cases h
def canon (n0:Nat) (vals:List V) (kb:KB):Option (List V×KB×List Nat):=sX true n0 vals kb
theorem Zd {n0:Nat} {vals:List V} {kb:KB} {vs:List V} {kb':KB} {o:List Nat} (h:canon n0 vals kb=some (vs,kb',o)):
 uR o=true/\o.take n0=jb n0/\V.lD (idx o) vals=some vs/\sj (idx o) kb o=some kb':=rq h
theorem Step.sel {c:Cx} {σ:Sg} {E:EH} {kb:KB} {W:World} (h:Step c.σ c.E c.kb c.W σ E kb W) {vals:List V} {vs:List V} {kb':KB} {o:List Nat} (hc:canon c.σ.length vals kb=some (vs,kb',o)) {xs:List Value} (hd:az σ E vals xs):
  ∃ σ',Step c.σ c.E c.kb c.W σ' E kb' W/\az σ' E vs xs:=by
 obtain⟨h1,h2,h3,h4⟩:=Zd hc
 obtain⟨k1,k2,k3⟩:=h.inv.sel h1 h4
 refine⟨dU σ o,⟨k1,h.c8,?_,h.le,fun b hb=>h.own b (k2 b hb),h.new⟩,az.bZ k3 h3 hd⟩
 obtain⟨τ,oU⟩:=h.pre
 refine⟨(dU σ o).drop c.σ.length,?_⟩
 have e:(dU σ o).take c.σ.length=c.σ:=by
  unfold dU
  rw[<- List.map_take,h2,oU]
  apply mb
  intro i
  rcases kx i c.σ.length with hi | hi
  ·rw[fy,List.getElem?_range hi]
   simp [dY hi,bu hi]
  ·rw[iE (by simp;exact hi),iE hi]
 conv=>lhs;rw[<- List.take_append_drop c.σ.length (dU σ o),e]
inductive jX where
 |slot (k:Nat) (ty:TypeId) (sz:Nat)
 |cell (i off:Nat) (ty:TypeId) (sz:Nat)
 |bw (k off:Nat) (ty:TypeId) (sz:Nat)
 |Vj (k:Nat) (sz:Nat)
 |P6 (k off:Nat) (sz:Nat)
 |sY (i off:Nat) (sz:Nat)
 |mv (i off:Nat)
 |SK (k:Nat)
 |pQ (k:Nat)
 |kill (i:Nat)
 |SJ (i off:Nat)
 |qD (i off:Nat)
 |oV (i off:Nat) (aD:List IntKind) (aW agg:Bool) (sz:Nat)
def jX.GD:jX->Bool
 | .pQ _=>true
 | .qD .. =>true
 | .oV .. =>true
 |_=>false
def DD (n:Nat):V->Option (Nat×V)
 | .mp j=>some (j,.mp n)
 | .ptr j o=>some (j,.ptr n o)
 |_=>none
structure LI where
 α:Type
 live:List Nat
 dT:List jX:=[]
 st:α->List V×KB
 μ:α->Nat
 all:(α->Prop)->Prop:=fun Q=>∀ i,Q i
 Bp:∀ Q,all Q->∀ i,Q i:=by exact fun _ h=>h
 sub:α->Nat->Option LI:=fun _ _=>none
 itl:Nat->Option LI:=fun _=>none
def D5 (li:LI) (i:li.α) (T:Nat->Option LI):Nat->Option LI:=fun r=>match li.sub i r with
 |some l=>some l
 |none=>T r
def qy:Code->Option Nat
 | .region id _ _=>some id
 | .seq a b=>match qy a with | some i=>some i | none=>qy b
 | .block _ b=>qy b
 | .loop b=>qy b
 | .scope b=>qy b
 | .cond _ a b=>match qy a with | some i=>some i | none=>qy b
 |_=>none
def yT (fr:Fr):List Nat->Option (List V)
 | []=>some []
 |t::ts=>match look fr t with
  |some v=>match yT fr ts with | some vs=>some (v::vs) | none=>none
  |none=>none
def qC:List V->Option (List D)
 | []=>some []
 | .int k n::vs=>match qC vs with | some ds=>some (.val (.int k n)::ds) | none=>none
 | .lit k n::vs=>match qC vs with | some ds=>some (.val (.int k n)::ds) | none=>none
 | .sb b::vs=>match qC vs with | some ds=>some (.val (.bool b)::ds) | none=>none
 | .dat d::vs=>match qC vs with | some ds=>some (d::ds) | none=>none
 |_:: _=>none
theorem Rx:∀{vs:List V} {ds:List D},qC vs=some ds->∀{σ:Sg} {E:EH} {xs:List Value},aV σ E vs xs->bh E ds xs
 | [],ds,h,σ,E,xs,hd=>by
  simp only[qC,bb.injEq]at h
  subst h
  simp only[aV]at hd
  subst hd
  exact bh.nil
 |v::vs,ds,h,σ,E,xs,hd=>by
  obtain⟨ys,zs,rfl,h1,h2⟩:=hd.iT
  cases v<;>simp only[qC,reduceCtorEq]at h
  all_goals
   split at h<;>try (cases h;done)
   rename_i ds' hds
   simp only[bb.injEq]at h
   subst h
   rcases h1 with ⟨y,rfl,h3,h4⟩ | ⟨m,cs,e,_,_⟩
   ·refine bh.cons ?_ (Rx hds h2)
    simp only[Den]at h4
    first
    |exact h4
    | (subst h4;simp [bX,mH])
   ·cases e
theorem Inv.Qh {σ:Sg} {E:EH} {kb:KB} {W:World} (h:Inv σ E kb W) {i:Nat} {r:Re} {o:KO} (hs:σ[i]? =some r) (hk:kb[i]? =some o) (hw:∀ b,b=r.blk->owned r o b):
  ∃ E',Step σ E kb W σ E' (kb.set i .dead) W/\E' r.blk=W.heap[r.blk]?:=by
 have hi:i<kb.length:=(bH.1 hk).1
 let E':EH:=fun b=>if b=r.blk then W.heap[b]? else E b
 have hle:E.le E':=fun b x hb=>by
  show(if b=r.blk then W.heap[b]? else E b)=some x
  by_cases hc:b=r.blk
  ·have:=h.sep b ⟨i,r,_,hs,hk,hw b hc⟩
   rw[this]at hb;cases hb
  ·rw[if_neg hc];exact hb
 have df:∀(j:Nat) (x:KO),(kb.set i .dead)[j]? =some x->(j=i/\x= .dead)∨(j≠i/\kb[j]? =some x):=by
  intro j x hj
  by_cases hji:j=i
  ·subst hji
   rw[iN hi]at hj
   exact .inl ⟨rfl,(bb.inj hj).symm⟩
  ·rw[gP (Ne.symm hji)]at hj
   exact .inr ⟨hji,hj⟩
 have hown:∀ b,dc σ (kb.set i .dead) b->dc σ kb b/\¬ b=r.blk:=by
  rintro b ⟨j,r',x,h1,h2,h3⟩
  rcases df j x h2 with ⟨rfl,rfl⟩ | ⟨hji,h4⟩
  ·exact h3.elim
  ·exact⟨⟨j,r',x,h1,h4,h3⟩,fun hc=>h.eH i j r r' _ x b (Ne.symm hji) hs hk h1 h4 (hw b hc) h3⟩
 refine⟨E',⟨⟨by simp [h.len],fun j r' x h1 h2=>?_,fun a c r1 r2 o1 o2 b hac h1 h2 h3 h4 h5 h6=>?_,fun b x hb=>?_,fun b hb=>?_⟩,ue.refl _ W,⟨[],by simp⟩,hle,fun b hb=> .inl (hown b hb).1,fun b x hb=>?_⟩,?_⟩
 ·rcases df j x h2 with ⟨rfl,rfl⟩ | ⟨hji,h4⟩
  ·trivial
  ·have:=(h.obj j r' x h1 h4).mono (τ:=[]) (W':=W) hle (fun b hb=>rfl)
   simpa using this
 ·rcases df a o1 h2 with ⟨rfl,rfl⟩ | ⟨_,k2⟩
  ·exact h5.elim
  rcases df c o2 h4 with ⟨rfl,rfl⟩ | ⟨_,k4⟩
  ·exact h6.elim
  exact h.eH a c r1 r2 o1 o2 b hac h1 k2 h3 k4 h5 h6
 ·by_cases hc:b=r.blk
  ·simp only[E',if_pos hc]at hb;exact hb
  ·simp only[E',if_neg hc]at hb;exact h.fe b x hb
 ·obtain⟨h1,h2⟩:=hown b hb
  show(if b=r.blk then W.heap[b]? else E b)=none
  rw[if_neg h2]
  exact h.sep b h1
 ·by_cases hc:b=r.blk
  ·exact .inr (.inl ⟨i,r,_,hs,hk,hw b hc⟩)
  ·simp only[E',if_neg hc]at hb;exact .inl hb
 ·simp only[E',if_pos]
theorem Inv.Qi {σ:Sg} {E:EH} {kb:KB} {W:World} (h:Inv σ E kb W) {i:Nat} {r:Re} {l:List V} {ds:List D} (hs:σ[i]? =some r) (hk:kb[i]? =some (.cells l)) (hc:qC l=some ds):
  ∃ E',Step σ E kb W σ E' (kb.set i .dead) W/\dZ E' ds r.blk 0:=by
 obtain⟨E',hst,hE⟩:=h.Qh hs hk (fun b hb=>hb)
 obtain⟨arr,ty,k1,k2⟩:=h.obj i r _ hs hk
 refine⟨E',hst,((Rx hc k2).mono hst.le).rep fun j x hj=>?_⟩
 rw[k1]at hE
 unfold EH.cell
 rw[hE]
 simpa using hj
theorem Inv.aar {σ:Sg} {E:EH} {kb:KB} {W:World} (h:Inv σ E kb W) {i:Nat} {r:Re} {aD:List IntKind} {aW agg:Bool} {sz:Nat} {l:List (List Int×List D)} (hs:σ[i]? =some r) (hk:kb[i]? =some (.mp aD aW agg sz l)):
  ∃ E',Step σ E kb W σ E' (kb.set i .dead) W/\xD E' aD aW agg sz (some r.blk) l:=by
 obtain⟨E',hst,hE⟩:=h.Qh hs hk (fun b hb=>hb)
 obtain⟨k0,es,ck,k1,k2,k3⟩:=h.obj i r _ hs hk
 rw[k1]at hE
 exact⟨E',hst,k0,es,ck,hE,k2.mono hst.le,k3⟩
def lC:jX->List V×KB->List V×KB
 | .slot k ty sz,(vs,kb)=>match vs[k]? with
  |some (.any (.slice none 0 0))=>(vs.set k (.sl kb.length 0 0),kb++[KO.row ty sz []])
  |_=>(vs,kb)
 | .cell i off ty sz,(vs,kb)=>match kb[i]? with
  |some (.cells l)=>match jm l off with
   |some (.any (.slice none 0 0))=>match jC l off [.sl kb.length 0 0]with
    |some l'=>(vs,(kb++[KO.row ty sz []]).set i (KO.cells l'))
    |none=>(vs,kb)
   |_=>(vs,kb)
  |_=>(vs,kb)
 | .bw k off ty sz,(vs,kb)=>match vs[k]? with
  |some (.agg l)=>match jm l off with
   |some (.any (.slice none 0 0))=>match jC l off [.sl kb.length 0 0]with
    |some l'=>(vs.set k (.agg l'),kb++[KO.row ty sz []])
    |none=>(vs,kb)
   |_=>(vs,kb)
  |_=>(vs,kb)
 | .Vj k sz,(vs,kb)=>match vs[k]? with
  |some (.any (.slice none 0 0))=>(vs.set k (.dat (.sl sz [])),kb)
  |_=>(vs,kb)
 | .P6 k off sz,(vs,kb)=>match vs[k]? with
  |some (.agg l)=>match jm l off with
   |some (.any (.slice none 0 0))=>match jC l off [.dat (.sl sz [])]with
    |some l'=>(vs.set k (.agg l'),kb)
    |none=>(vs,kb)
   |_=>(vs,kb)
  |_=>(vs,kb)
 | .sY i off sz,(vs,kb)=>match kb[i]? with
  |some (.cells l)=>match jm l off with
   |some (.any (.slice none 0 0))=>match jC l off [.dat (.sl sz [])]with
    |some l'=>(vs,kb.set i (KO.cells l'))
    |none=>(vs,kb)
   |_=>(vs,kb)
  |_=>(vs,kb)
 | .mv i off,(vs,kb)=>match kb[i]? with
  |some (.cells l)=>match jm l off with
   |some (.sl j lo hi)=>match kb[j]? with
    |some (.row ty sz L)=>match jC l off [.sl kb.length lo hi]with
     |some l'=>(vs,(kb.set j .dead++[KO.row ty sz L]).set i (KO.cells l'))
     |none=>(vs,kb)
    |_=>(vs,kb)
   |_=>(vs,kb)
  |_=>(vs,kb)
 | .SK k,(vs,kb)=>match vs[k]? with
  |some (.sl j lo hi)=>match kb[j]? with
   |some (.row ty sz L)=>(vs.set k (.sl kb.length lo hi),kb.set j .dead++[KO.row ty sz L])
   |_=>(vs,kb)
  |_=>(vs,kb)
 | .pQ k,(vs,kb)=>match vs[k]? with
  |some (.ptr i 0)=>match kb[i]? with
   |some (.cells l)=>match qC l with
    |some ds=>(vs.set k (.dm ds 0),kb.set i .dead)
    |none=>(vs,kb)
   |_=>(vs,kb)
  |_=>(vs,kb)
 | .kill i,(vs,kb)=>match kb[i]? with
  |some _=>(vs,kb.set i .dead)
  |none=>(vs,kb)
 | .SJ i off,(vs,kb)=>match kb[i]? with
  |some (.cells l)=>match jm l off with
   |some v=>match DD kb.length v with
    |some (j,u)=>match kb[j]? with
     |some o=>match jC l off [u]with
      |some l'=>if i=j then(vs,kb)else(vs,(kb.set j .dead++[o]).set i (KO.cells l'))
      |none=>(vs,kb)
     |none=>(vs,kb)
    |none=>(vs,kb)
   |none=>(vs,kb)
  |_=>(vs,kb)
 | .qD i off,(vs,kb)=>match kb[i]? with
  |some (.cells l)=>match jm l off with
   |some (.any (.pointer none))=>match jC l off [.aa none]with
    |some l'=>(vs,kb.set i (KO.cells l'))
    |none=>(vs,kb)
   |some (.ptr j 0)=>match kb[j]? with
    |some (.cells m)=>match qC m with
     |some ds=>match jC l off [.aa (some ds)]with
      |some l'=>if i=j then(vs,kb)else(vs,(kb.set j .dead).set i (KO.cells l'))
      |none=>(vs,kb)
     |none=>(vs,kb)
    |_=>(vs,kb)
   |_=>(vs,kb)
  |_=>(vs,kb)
 | .oV i off aD aW agg sz,(vs,kb)=>match kb[i]? with
  |some (.cells l)=>match jm l off with
   |some (.any (.map none))=>match jC l off [.imp aD aW agg sz []]with
    |some l'=>(vs,kb.set i (KO.cells l'))
    |none=>(vs,kb)
   |some (.mp j)=>match kb[j]? with
    |some (.mp aD aW agg sz m)=>match jC l off [.imp aD aW agg sz m]with
     |some l'=>if i=j then(vs,kb)else(vs,(kb.set j .dead).set i (KO.cells l'))
     |none=>(vs,kb)
    |_=>(vs,kb)
   |_=>(vs,kb)
  |_=>(vs,kb)
def pV:List jX->List V×KB->List V×KB
 | [],s=>s
 |d::ds,s=>pV ds (lC d s)
theorem Inv.FU {σ:Sg} {E:EH} {kb:KB} {W:World} (hi:Inv σ E kb W) (ty:TypeId) (sz:Nat):Step σ E kb W (σ++[⟨0,0,sz⟩]) E (kb++[.row ty sz []]) W:=
 hi.grow ⟨0,0,sz⟩ (.row ty sz []) rfl rfl rfl (ar _) (fun _ _=>rfl) (fun b hb=>absurd rfl hb.1) ⟨rfl,fun e he=>(by cases he),ar _,bj _,.inl rfl⟩
theorem G1 {σ:Sg} {E:EH} {kb:KB} (hl:σ.length=kb.length) (sz:Nat):Den (σ++[⟨0,0,sz⟩]) E (.sl kb.length 0 0) (.slice none 0 0):=by
 simp only[Den]
 exact⟨⟨0,0,sz⟩,none,by rw[<- hl];simp,rfl,ar _,ar _,fun h=>absurd h (Nat.lt_irrefl _)⟩
theorem Pg {σ:Sg} {E:EH} {vs:List V} {xs:List Value} (h:az σ E vs xs) {k:Nat} {v u:V} {x:Value} (hv:vs[k]? =some v) (hx:∀ y,Den σ E v y->y=x) (hu:Den σ E u x):az σ E (vs.set k u) xs:=by
 obtain⟨y,h1,h2⟩:=h.get hv
 have:=hx y h2
 subst this
 clear hx
 induction vs generalizing k xs with
 |nil=>simp at hv
 |cons w vs ih=>
  simp only[az]at h
  obtain⟨z,zs,rfl,h3,h4⟩:=h
  cases k with
  |zero=>
   simp at h1
   subst h1
   exact .cons hu h4
  |succ k=>exact .cons h3 (ih h4 (by simpa using hv) (by simpa using h1))
theorem Ug {σ:Sg} {E:EH} {l:List V} {off:Nat} {v:V} (h:jm l off=some v) (hna:∀ m cs,v≠.arr m cs) {xs:List Value} (hd:aV σ E l xs):∃ y,xs[off]? =some y/\y.oneCell'=true/\Den σ E v y:=by
 unfold jm at h
 split at h<;>try (cases h;done)
 rename_i v' r hr
 cases h
 obtain⟨h1,h2⟩:=s_ hr hd
 obtain⟨ys,zs,e,h3,h4⟩:=h1.iT
 rcases h3 with ⟨y,rfl,h5,hy⟩ | ⟨m,cs,e',_,_⟩
 ·refine⟨y,?_,h5,hy⟩
  have:=congrArg (fun z=>z[0]?) e
  simpa using this
 ·exact(hna _ _ e').elim
theorem BG {σ:Sg} {E:EH} {l l':List V} {xs:List Value} (h:aV σ E l xs) {off:Nat} {v u:V} {x:Value} (hv:jm l off=some v) (hna:∀ m cs,v≠.arr m cs) (hx:∀ y,Den σ E v y->y=x) (hu:Den σ E u x) (hl:jC l off [u]=some l'):aV σ E l' xs:=by
 obtain⟨y,h1,h2,h3⟩:=Ug hv hna h
 have:=hx y h3
 subst this
 obtain⟨h4,h5⟩:=u7 hl h (.ju hu h2 .nil)
 have:splice xs off [y]=xs:=by
  apply mb
  intro j
  rw[uy (by omega)]
  split
  ·rfl
  ·split
   ·rename_i c1 c2
    have:j=off:=by simp at c2;omega
    subst this
    simp [h1]
   ·rfl
 rwa [this]at h4
theorem G0 {σ:Sg} {E:EH} {l l':List V} {xs:List Value} (h:aV σ E l xs) {off:Nat} {v u:V} (hv:jm l off=some v) (hna:∀ m cs,v≠.arr m cs) (hu:∀ y,Den σ E v y->Den σ E u y) (hl:jC l off [u]=some l'):aV σ E l' xs:=by
 obtain⟨y,h1,h2,h3⟩:=Ug hv hna h
 obtain⟨h4,h5⟩:=u7 hl h (.ju (hu y h3) h2 .nil)
 have:splice xs off [y]=xs:=by
  apply mb
  intro j
  rw[uy (by omega)]
  split
  ·rfl
  ·split
   ·rename_i c1 c2
    have:j=off:=by simp at c2;omega
    subst this
    simp [h1]
   ·rfl
 rwa [this]at h4
theorem Inv.SE {σ:Sg} {E:EH} {kb:KB} {W:World} (hi:Inv σ E kb W) {j:Nat} {ty:TypeId} {sz:Nat} {L:List (List D)} (hk:kb[j]? =some (.row ty sz L)):
  ∃ r,σ[j]? =some r/\Step σ E kb W (σ++[r]) E (kb.set j .dead++[KO.row ty sz L]) W:=by
 obtain⟨r,hr⟩:∃ r,σ[j]? =some r:=⟨_,bu (by rw[hi.len];exact(bH.1 hk).1)⟩
 exact⟨r,hr,hi.renew (W':=W) (r':=r) (o':=.row ty sz L) hr hk rfl rfl rfl (ar _) (fun _ _ _=>rfl) (fun b hb=> .inl hb) ((hi.obj j r _ hr hk).mono (EH.le.refl E) (fun _ _=>rfl))⟩
theorem Pj {σ:Sg} {E:EH} {kb:KB} (hl:σ.length=kb.length) {j lo hi:Nat} {r:Re} (hr:σ[j]? =some r) {y:Value} (hy:Den (σ++[r]) E (.sl j lo hi) y):Den (σ++[r]) E (.sl kb.length lo hi) y:=by
 simp only[Den]at hy ⊢
 obtain⟨r',a,h1,h2⟩:=hy
 rw[jR hr]at h1
 cases h1
 exact⟨r,a,by rw[<- hl];simp,h2⟩
theorem Inv.ab_ {σ:Sg} {E:EH} {kb:KB} {W:World} (hi:Inv σ E kb W) {j:Nat} {o:KO} (hk:kb[j]? =some o):
  ∃ r,σ[j]? =some r/\Step σ E kb W (σ++[r]) E (kb.set j .dead++[o]) W:=by
 obtain⟨r,hr⟩:∃ r,σ[j]? =some r:=⟨_,bu (by rw[hi.len];exact(bH.1 hk).1)⟩
 exact⟨r,hr,hi.renew (W':=W) (r':=r) (o':=o) hr hk rfl rfl rfl (ar _) (fun _ _ _=>rfl) (fun b hb=> .inl hb) ((hi.obj j r _ hr hk).mono (EH.le.refl E) (fun _ _=>rfl))⟩
theorem afj {σ:Sg} {E:EH} {kb:KB} (hl:σ.length=kb.length) {j:Nat} {v u:V} (hv:DD kb.length v=some (j,u)) {r:Re} (hr:σ[j]? =some r) {y:Value} (hy:Den (σ++[r]) E v y):Den (σ++[r]) E u y:=by
 have hn:(σ++[r])[kb.length]? =some r:=by rw[<- hl];simp
 cases v<;>simp only[DD,reduceCtorEq,bb.injEq,Prod.mk.injEq]at hv
 all_goals
  obtain⟨rfl,rfl⟩:=hv
  simp only[Den]at hy ⊢
  obtain⟨r',h1,h2⟩:=hy
  rw[jR hr]at h1
  cases h1
  exact⟨r,hn,h2⟩
theorem BI {σ:Sg} {E:EH} {vs:List V} {xs:List Value} (h:az σ E vs xs) {k:Nat} {v u:V} (hv:vs[k]? =some v) (hu:∀ y,Den σ E v y->Den σ E u y):az σ E (vs.set k u) xs:=by
 obtain⟨y,h1,h2⟩:=h.get hv
 have h3:=hu y h2
 clear hu h2
 induction vs generalizing k xs with
 |nil=>simp at hv
 |cons w vs ih=>
  simp only[az]at h
  obtain⟨z,zs,rfl,h4,h5⟩:=h
  cases k with
  |zero=>
   simp at h1
   subst h1
   exact .cons h3 h5
  |succ k=>exact .cons h4 (ih h5 (by simpa using hv) (by simpa using h1))
theorem ach {c:Cx} {E:EH} {W:World}:∀(d:jX) (_:d.GD=false) {σ:Sg} {vs:List V} {kb:KB} {xs:List Value},Step c.σ c.E c.kb c.W σ E kb W->az σ E vs xs->∃ σ',Step c.σ c.E c.kb c.W σ' E (lC d (vs,kb)).2 W/\az σ' E (lC d (vs,kb)).1 xs
 | .slot k ty sz,_,σ,vs,kb,xs,hs,hd=>by
  simp only[lC]
  split
  ·rename_i hk
   have hst:=hs.inv.FU ty sz
   exact⟨_,hs.trans hst,Pg (az.mono (EH.le.refl E) hd) hk (fun y hy=>by simpa only[Den]using hy) (G1 hs.inv.len sz)⟩
  ·exact⟨σ,hs,hd⟩
 | .cell i off ty sz,_,σ,vs,kb,xs,hs,hd=>by
  simp only[lC]
  split
  ·rename_i l hl
   split
   ·rename_i hk
    split
    ·rename_i l' hl'
     have hst:=hs.inv.FU ty sz
     have hi2:=hst.inv
     have hlt:i<kb.length:=(bH.1 hl).1
     have hkb:(kb++[KO.row ty sz []])[i]? =some (.cells l):=by rw[dY hlt];exact hl
     obtain⟨r,hr⟩:∃ r,(σ++[⟨0,0,sz⟩])[i]? =some r:=⟨_,bu (by rw[hi2.len];simp;omega)⟩
     obtain⟨arr,ty',h1,h2⟩:=hi2.obj i r _ hr hkb
     have dQ:=hi2.set (o':=.cells l') hr hkb rfl rfl rfl rfl (fun _ _=>rfl) (fun b hb=>hb) ⟨arr,ty',h1,BG h2 hk (fun _ _ h=>by cases h) (fun y hy=>by simpa only[Den]using hy) (G1 hs.inv.len sz) hl'⟩
     exact⟨_,hs.trans (hst.trans dQ),az.mono (EH.le.refl E) hd⟩
    ·exact⟨σ,hs,hd⟩
   ·exact⟨σ,hs,hd⟩
  ·exact⟨σ,hs,hd⟩
 | .bw k off ty sz,_,σ,vs,kb,xs,hs,hd=>by
  simp only[lC]
  split
  ·rename_i l hk
   split
   ·rename_i hp
    split
    ·rename_i l' hl'
     have hst:=hs.inv.FU ty sz
     refine⟨_,hs.trans hst,BI (az.mono (EH.le.refl E) hd) hk fun y hy=>?_⟩
     simp only[Den]at hy ⊢
     obtain⟨zs,rfl,hz⟩:=hy
     exact⟨zs,rfl,BG hz hp (fun _ _ h=>by cases h) (fun y hy=>by simpa only[Den]using hy) (G1 hs.inv.len sz) hl'⟩
    ·exact⟨σ,hs,hd⟩
   ·exact⟨σ,hs,hd⟩
  ·exact⟨σ,hs,hd⟩
 | .Vj k sz,_,σ,vs,kb,xs,hs,hd=>by
  simp only[lC]
  split
  ·rename_i hk
   exact⟨_,hs,Pg hd hk (fun y hy=>by simpa only[Den]using hy) (by simp only[Den];exact⟨none,0,rfl,ar _,.inl rfl⟩)⟩
  ·exact⟨σ,hs,hd⟩
 | .P6 k off sz,_,σ,vs,kb,xs,hs,hd=>by
  simp only[lC]
  split
  ·rename_i l hk
   split
   ·rename_i hp
    split
    ·rename_i l' hl'
     refine⟨_,hs,BI hd hk fun y hy=>?_⟩
     simp only[Den]at hy ⊢
     obtain⟨zs,rfl,hz⟩:=hy
     exact⟨zs,rfl,BG hz hp (fun _ _ h=>by cases h) (fun y hy=>by simpa only[Den]using hy) (by simp only[Den];exact⟨none,0,rfl,ar _,.inl rfl⟩) hl'⟩
    ·exact⟨σ,hs,hd⟩
   ·exact⟨σ,hs,hd⟩
  ·exact⟨σ,hs,hd⟩
 | .sY i off sz,_,σ,vs,kb,xs,hs,hd=>by
  simp only[lC]
  split
  ·rename_i l hl
   split
   ·rename_i hk
    split
    ·rename_i l' hl'
     have hi2:=hs.inv
     obtain⟨r,hr⟩:∃ r,σ[i]? =some r:=⟨_,bu (by rw[hi2.len];exact(bH.1 hl).1)⟩
     obtain⟨arr,ty',h1,h2⟩:=hi2.obj i r _ hr hl
     have dQ:=hi2.set (o':=.cells l') hr hl rfl rfl rfl rfl (fun _ _=>rfl) (fun b hb=>hb) ⟨arr,ty',h1,BG h2 hk (fun _ _ h=>by cases h) (fun y hy=>by simpa only[Den]using hy) (by simp only[Den];exact⟨none,0,rfl,ar _,.inl rfl⟩) hl'⟩
     exact⟨_,hs.trans dQ,hd⟩
    ·exact⟨σ,hs,hd⟩
   ·exact⟨σ,hs,hd⟩
  ·exact⟨σ,hs,hd⟩
 | .mv i off,_,σ,vs,kb,xs,hs,hd=>by
  simp only[lC]
  split
  ·rename_i l hl
   split
   ·rename_i j lo hi hk
    split
    ·rename_i ty sz L hj
     split
     ·rename_i l' hl'
      obtain⟨r,hr,hst⟩:=hs.inv.SE hj
      have hi2:=hst.inv
      have hne:i≠j:=fun e=>by subst e;rw[hl]at hj;cases hj
      have hlt:i<kb.length:=(bH.1 hl).1
      have hkb:(kb.set j .dead++[KO.row ty sz L])[i]? =some (.cells l):=by
       rw[dY (by simpa using hlt),gP (Ne.symm hne)];exact hl
      obtain⟨ri,fW⟩:∃ ri,(σ++[r])[i]? =some ri:=⟨_,bu (by rw[hi2.len];simp;omega)⟩
      obtain⟨arr,ty',h1,h2⟩:=hi2.obj i ri _ fW hkb
      have dQ:=hi2.set (o':=.cells l') fW hkb rfl rfl rfl rfl (fun _ _=>rfl) (fun b hb=>hb) ⟨arr,ty',h1,G0 h2 hk (fun _ _ h=>by cases h) (fun y hy=>Pj hs.inv.len hr hy) hl'⟩
      exact⟨_,hs.trans (hst.trans dQ),az.mono (EH.le.refl E) hd⟩
     ·exact⟨σ,hs,hd⟩
    ·exact⟨σ,hs,hd⟩
   ·exact⟨σ,hs,hd⟩
  ·exact⟨σ,hs,hd⟩
 | .SK k,_,σ,vs,kb,xs,hs,hd=>by
  simp only[lC]
  split
  ·rename_i j lo hi hk
   split
   ·rename_i ty sz L hj
    obtain⟨r,hr,hst⟩:=hs.inv.SE hj
    exact⟨_,hs.trans hst,BI (az.mono (EH.le.refl E) hd) hk (fun y hy=>Pj hs.inv.len hr hy)⟩
   ·exact⟨σ,hs,hd⟩
  ·exact⟨σ,hs,hd⟩
 | .SJ i off,_,σ,vs,kb,xs,hs,hd=>by
  simp only[lC]
  split
  ·rename_i l hl
   split
   ·rename_i v hk
    split
    ·rename_i j u hu
     split
     ·rename_i o hj
      split
      ·rename_i l' hl'
       split
       ·exact⟨σ,hs,hd⟩
       ·rename_i hne
        obtain⟨r,hr,hst⟩:=hs.inv.ab_ hj
        have hi2:=hst.inv
        have hlt:i<kb.length:=(bH.1 hl).1
        have hkb:(kb.set j .dead++[o])[i]? =some (.cells l):=by
         rw[dY (by simpa using hlt),gP (Ne.symm hne)];exact hl
        obtain⟨ri,fW⟩:∃ ri,(σ++[r])[i]? =some ri:=⟨_,bu (by rw[hi2.len];simp;omega)⟩
        obtain⟨arr,ty',h1,h2⟩:=hi2.obj i ri _ fW hkb
        have hna:∀ m cs,v≠.arr m cs:=fun m cs e=>by subst e;simp [DD]at hu
        have dQ:=hi2.set (o':=.cells l') fW hkb rfl rfl rfl rfl (fun _ _=>rfl) (fun b hb=>hb) ⟨arr,ty',h1,G0 h2 hk hna (fun y hy=>afj hs.inv.len hu hr hy) hl'⟩
        exact⟨_,hs.trans (hst.trans dQ),az.mono (EH.le.refl E) hd⟩
      ·exact⟨σ,hs,hd⟩
     ·exact⟨σ,hs,hd⟩
    ·exact⟨σ,hs,hd⟩
   ·exact⟨σ,hs,hd⟩
  ·exact⟨σ,hs,hd⟩
 | .pQ k,hno,_,_,_,_,_,_=>by cases hno
 | .qD ..,hno,_,_,_,_,_,_=>by cases hno
 | .oV ..,hno,_,_,_,_,_,_=>by cases hno
 | .kill i,_,σ,vs,kb,xs,hs,hd=>by
  simp only[lC]
  split
  ·rename_i o ho
   have hi2:=hs.inv
   obtain⟨r,hr⟩:∃ r,σ[i]? =some r:=⟨_,bu (by rw[hi2.len];exact(bH.1 ho).1)⟩
   have dQ:=hi2.set (o':=.dead) hr ho rfl rfl rfl rfl (fun _ _=>rfl) (fun b hb=>hb.elim) trivial
   exact⟨_,hs.trans dQ,hd⟩
  ·exact⟨σ,hs,hd⟩
theorem acg {c:Cx} {E:EH} {W:World}:∀(d:jX) {σ:Sg} {vs:List V} {kb:KB} {xs:List Value},Step c.σ c.E c.kb c.W σ E kb W->az σ E vs xs->∃ σ' E',Step c.σ c.E c.kb c.W σ' E' (lC d (vs,kb)).2 W/\az σ' E' (lC d (vs,kb)).1 xs/\E.le E':=fun d σ vs kb xs hs hd=>by
 have vd:∀{σ:Sg} {E:EH} {kb:KB} {i off:Nat} {l l':List V} {v u:V} {vs:List V} {xs:List Value},Step c.σ c.E c.kb c.W σ E kb W->kb[i]? =some (.cells l)->jm l off=some v->(∀ m cs,v≠.arr m cs)->(∀ y,Den σ E v y->Den σ E u y)->jC l off [u]=some l'->az σ E vs xs->Step c.σ c.E c.kb c.W σ E (kb.set i (KO.cells l')) W/\az σ E vs xs:=by
  intro σ E kb i off l l' v u vs xs hs hl hk hna hu hl' hd
  have hi2:=hs.inv
  obtain⟨r,hr⟩:∃ r,σ[i]? =some r:=⟨_,bu (by rw[hi2.len];exact(bH.1 hl).1)⟩
  obtain⟨arr,ty',h1,h2⟩:=hi2.obj i r _ hr hl
  have dQ:=hi2.set (o':=.cells l') hr hl rfl rfl rfl rfl (fun _ _=>rfl) (fun b hb=>hb) ⟨arr,ty',h1,G0 h2 hk hna hu hl'⟩
  exact⟨hs.trans dQ,hd⟩
 cases hch:d.GD with
 |false=>
  obtain⟨σ',h1,h2⟩:=ach d hch hs hd
  exact⟨σ',E,h1,h2,EH.le.refl E⟩
 |true=>
 cases d<;>simp only[jX.GD,Bool.false_eq_true]at hch
 ·rename_i k
  simp only[lC]
  split
  ·rename_i i hk
   split
   ·rename_i l hl
    split
    ·rename_i ds hds
     have hi2:=hs.inv
     obtain⟨r,hr⟩:∃ r,σ[i]? =some r:=⟨_,bu (by rw[hi2.len];exact(bH.1 hl).1)⟩
     obtain⟨E',hst,fB⟩:=hi2.Qi hr hl hds
     have hd':=az.mono (τ:=[]) hst.le hd
     rw[gz]at hd'
     refine⟨σ,E',hs.trans hst,BI hd' hk (fun y hy=>?_),hst.le⟩
     simp only[Den]at hy ⊢
     obtain⟨r',h1,rfl⟩:=hy
     rw[hr]at h1;cases h1
     exact⟨r.blk,0,rfl,fB⟩
    ·exact⟨σ,E,hs,hd,EH.le.refl E⟩
   ·exact⟨σ,E,hs,hd,EH.le.refl E⟩
  ·exact⟨σ,E,hs,hd,EH.le.refl E⟩
 ·rename_i i off
  simp only[lC]
  split
  ·rename_i l hl
   split
   ·rename_i hk
    split
    ·rename_i l' hl'
     obtain⟨h1,h2⟩:=vd (u:=.aa none) hs hl hk (fun _ _ h=>by cases h) (fun y hy=>by simp only[Den]at hy ⊢;exact .inl ⟨rfl,hy⟩) hl' hd
     exact⟨σ,E,h1,h2,EH.le.refl E⟩
    ·exact⟨σ,E,hs,hd,EH.le.refl E⟩
   ·rename_i j hk
    split
    ·rename_i m hm
     split
     ·rename_i ds hds
      split
      ·rename_i l' hl'
       split
       ·exact⟨σ,E,hs,hd,EH.le.refl E⟩
       ·rename_i hne
        have hi2:=hs.inv
        obtain⟨r,hr⟩:∃ r,σ[j]? =some r:=⟨_,bu (by rw[hi2.len];exact(bH.1 hm).1)⟩
        obtain⟨E',hst,fB⟩:=hi2.Qi hr hm hds
        have hd':=az.mono (τ:=[]) hst.le hd
        rw[gz]at hd'
        have hl2:(kb.set j .dead)[i]? =some (.cells l):=by rw[gP (Ne.symm hne)];exact hl
        obtain⟨h1,h2⟩:=vd (u:=.aa (some ds)) (hs.trans hst) hl2 hk (fun _ _ h=>by cases h) (fun y hy=>by
         simp only[Den]at hy ⊢
         obtain⟨r',h1,rfl⟩:=hy
         rw[hr]at h1;cases h1
         exact .inr ⟨ds,r.blk,rfl,rfl,fB⟩) hl' hd'
        exact⟨σ,E',h1,h2,hst.le⟩
      ·exact⟨σ,E,hs,hd,EH.le.refl E⟩
     ·exact⟨σ,E,hs,hd,EH.le.refl E⟩
    ·exact⟨σ,E,hs,hd,EH.le.refl E⟩
   ·exact⟨σ,E,hs,hd,EH.le.refl E⟩
  ·exact⟨σ,E,hs,hd,EH.le.refl E⟩
 ·rename_i i off aD aW agg sz
  simp only[lC]
  split
  ·rename_i l hl
   split
   ·rename_i hk
    split
    ·rename_i l' hl'
     obtain⟨h1,h2⟩:=vd (u:=.imp aD aW agg sz []) hs hl hk (fun _ _ h=>by cases h) (fun y hy=>by simp only[Den]at hy ⊢;exact⟨none,hy,rfl⟩) hl' hd
     exact⟨σ,E,h1,h2,EH.le.refl E⟩
    ·exact⟨σ,E,hs,hd,EH.le.refl E⟩
   ·rename_i j hk
    split
    ·rename_i abz abu YB sz' m hm
     split
     ·rename_i l' hl'
      split
      ·exact⟨σ,E,hs,hd,EH.le.refl E⟩
      ·rename_i hne
       have hi2:=hs.inv
       obtain⟨r,hr⟩:∃ r,σ[j]? =some r:=⟨_,bu (by rw[hi2.len];exact(bH.1 hm).1)⟩
       obtain⟨E',hst,fB⟩:=hi2.aar hr hm
       have hd':=az.mono (τ:=[]) hst.le hd
       rw[gz]at hd'
       have hl2:(kb.set j .dead)[i]? =some (.cells l):=by rw[gP (Ne.symm hne)];exact hl
       obtain⟨h1,h2⟩:=vd (u:=.imp abz abu YB sz' m) (hs.trans hst) hl2 hk (fun _ _ h=>by cases h) (fun y hy=>by
        simp only[Den]at hy ⊢
        obtain⟨r',h1,rfl⟩:=hy
        rw[hr]at h1;cases h1
        exact⟨some r.blk,rfl,fB⟩) hl' hd'
       exact⟨σ,E',h1,h2,hst.le⟩
     ·exact⟨σ,E,hs,hd,EH.le.refl E⟩
    ·exact⟨σ,E,hs,hd,EH.le.refl E⟩
   ·exact⟨σ,E,hs,hd,EH.le.refl E⟩
  ·exact⟨σ,E,hs,hd,EH.le.refl E⟩
theorem y_ {c:Cx} {W:World}:∀(ds:List jX) {E:EH} {σ:Sg} {s:List V×KB} {xs:List Value},Step c.σ c.E c.kb c.W σ E s.2 W->az σ E s.1 xs->∃ σ' E',Step c.σ c.E c.kb c.W σ' E' (pV ds s).2 W/\az σ' E' (pV ds s).1 xs/\E.le E'
 | [],E,σ,s,xs,hs,hd=>⟨σ,E,hs,hd,EH.le.refl E⟩
 |d::ds,E,σ,s,xs,hs,hd=>by
  obtain⟨σ',E',h1,h2,h3⟩:=acg d hs hd
  obtain⟨σ2,E2,h4,h5,h6⟩:=y_ ds h1 h2
  exact⟨σ2,E2,h4,h5,h3.trans h6⟩
structure At (li:LI) (s:List V×KB):Prop where
 has:∃ i,s=li.st i
structure Nx (li:LI) (i:li.α) (s:List V×KB):Prop where
 has:∃ j,s=li.st j/\li.μ j<li.μ i
theorem At.mk' {li:LI} {s:List V×KB} (i:li.α) (h:s=li.st i):At li s:=⟨i,h⟩
theorem Nx.mk' {li:LI} {i:li.α} {s:List V×KB} (j:li.α) (h:s=li.st j) (k:li.μ j<li.μ i):Nx li i s:=⟨j,h,k⟩
def uk (n0:Nat) (dT:List jX) (live:List Nat) (fr:Fr) (kb:KB) (R:List V×KB->Prop):Prop:=
 match yT fr live with
 |some vals=>match canon n0 vals kb with
  |some (vs,kb',_)=>match dT with
   | []=>R (vs,kb')
   |d::ds=>match canon n0 (pV (d::ds) (vs,kb')).1 (pV (d::ds) (vs,kb')).2 with
    |some (vs2,bY,_)=>R (vs2,bY)
    |none=>False
  |none=>False
 |none=>False
def iter (R:(Exit->Fr->KB->Prop)->Fr->KB->Prop) (Q:Exit->Fr->KB->Prop):Nat->Fr->KB->Prop
 | 0,_,_=>False
 |m+1,fr,kb=>R (fun e fr kb=>match e with | .normal=>iter R Q m fr kb | e=>Q e fr kb) fr kb
structure XZ (c:Cx) (n:Nat) (Q:Exit->Fr->KB->Prop) (Q':Exit->Act->World->Prop):Prop where
 hat:∀ e a W,oH c n (Q e) a W->Q' e a W
 uY:∀ ch a a' w,Q' (.panic ch) a w->Q' (.panic ch) a' w
theorem R4 {σ:Sg} {E:EH} {fr:Fr} {n:Nat} {a:Act} (h:gl σ E fr n a):∀{live:List Nat} {vals:List V},yT fr live=some vals->∃ xs:List Value,az σ E vals xs/\xs.length=live.length/\∀(k t:Nat) (x:Value),live[k]? =some t->xs[k]? =some x->a.tmps[t]? =some x
 | [],vals,hv=>by simp only[yT,bb.injEq]at hv;subst hv;exact⟨[],.nil,rfl,by simp⟩
 |t::ts,vals,hv=>by
  simp only[yT]at hv
  split at hv<;>try (cases hv;done)
  rename_i v hl
  split at hv<;>try (cases hv;done)
  rename_i vs hvs
  cases hv
  obtain⟨x,h1,h2⟩:=h.get t v hl
  obtain⟨xs,h3,h4,h5⟩:=R4 h hvs
  refine⟨x::xs,.cons h2 h3,by simp [h4],fun k u y hk hy=>?_⟩
  cases k with
  |zero=>simp at hk hy;subst hk;subst hy;exact h1
  |succ k=>exact h5 k u y (by simpa using hk) (by simpa using hy)
theorem Jb {σ:Sg} {E:EH}:∀{live:List Nat} {vs:List V} {xs:List Value},az σ E vs xs->∀{t:Nat} {v:V},look (live.zip vs) t=some v->∃(k:Nat) (x:Value),live[k]? =some t/\xs[k]? =some x/\Den σ E v x
 | [],_,_,_,t,v,h=>by simp [look]at h
 |u::live,[],_,_,t,v,h=>by simp [look]at h
 |u::live,w::vs,xs,hd,t,v,h=>by
  simp only[az]at hd
  obtain⟨x,xs',rfl,h1,h2⟩:=hd
  simp only[List.zip_cons_cons,look]at h
  split at h
  ·rename_i hb
   have:=de hb
   subst this
   cases h
   exact⟨0,x,rfl,rfl,h1⟩
  ·obtain⟨k,y,k1,k2,k3⟩:=Jb h2 h
   exact⟨k+1,y,by simpa using k1,by simpa using k2,k3⟩
theorem F7 {c:Cx} {dT:List jX} {live:List Nat} {fr:Fr} {kb:KB} {R:List V×KB->Prop} (h:uk c.σ.length dT live fr kb R) {σ:Sg} {E:EH} {n:Nat} {a:Act} {W:World} (hs:Step c.σ c.E c.kb c.W σ E kb W) (hf:gl σ E fr n a):
  ∃ s,R s/\oH c n (fun fr' kb'=>fr'=live.zip s.1/\kb'=s.2) a W:=by
 unfold uk at h
 split at h<;>try exact h.elim
 rename_i vals abi
 split at h<;>try exact h.elim
 rename_i vs kb' o hc
 obtain⟨xs,h1,h2,h3⟩:=R4 hf abi
 obtain⟨σ',h4,h5⟩:=hs.sel hc h1
 split at h
 ·refine⟨(vs,kb'),h,σ',E,live.zip vs,kb',h4,⟨hf.size,hf.defers,fun t v hv=>?_⟩,rfl,rfl⟩
  obtain⟨k,x,k1,k2,k3⟩:=Jb h5 hv
  exact⟨x,h3 k t x k1 k2,k3⟩
 ·rename_i d ds
  split at h<;>try exact h.elim
  rename_i vs2 bY o2 fI
  obtain⟨σ2,E2,h6,h7,hE2⟩:=y_ (c:=c) (d::ds) (s:=(vs,kb')) h4 h5
  obtain⟨σ3,h8,h9⟩:=h6.sel fI h7
  refine⟨(vs2,bY),h,σ3,E2,live.zip vs2,bY,h8,⟨hf.size,hf.defers.mono hE2,fun t v hv=>?_⟩,rfl,rfl⟩
  obtain⟨k,x,k1,k2,k3⟩:=Jb h9 hv
  exact⟨x,h3 k t x k1 k2,k3⟩
def sg (P:Program) (fr:Fr) (kb:KB):List ResultVar->(List V->Prop)->Prop
 | [],K=>K []
 | .tmp t::rs,K=>match look fr t with | some v=>sg P fr kb rs (fun vs=>K (v::vs)) | none=>False
 | .cell t ty::rs,K=>match look fr t with | some ad=>nI P ty ad kb (fun v=>sg P fr kb rs (fun vs=>K (v::vs))) | none=>False
def u6:List V->V
 | [v]=>v
 |vs=> .φ vs
def fin (P:Program) (fn:Func) (K:V->KB->Prop):Exit->Fr->KB->Prop
 | .normal,fr,kb=>sg P fr kb fn.results.toList (fun vs=>K (u6 vs) kb)
 | .ret,fr,kb=>sg P fr kb fn.results.toList (fun vs=>K (u6 vs) kb)
 |_,_,_=>False
theorem KM {P:Program} {fr:Fr} {kb:KB} {σ:Sg} {E:EH} {n:Nat} {a:Act} (hf:gl σ E fr n a) {W:World} (hi:Inv σ E kb W):∀{rs:List ResultVar} {K:List V->Prop},sg P fr kb rs K->
  ∃ vs xs,K vs/\az σ E vs xs/\(rs.mapM (m:=Sem) fun | .tmp t=>pure (a.tmps.getD t undef) | .cell t ty=>do loadVar ty (<- asAddr (a.tmps.getD t undef))).run P W= .ok xs W
 | [],K,h=>⟨[],[],h,.nil,by simp⟩
 | .tmp t::rs,K,h=>by
  simp only[sg]at h
  split at h<;>try exact h.elim
  rename_i v hv
  obtain⟨x,h1,h2⟩:=hf.get t v hv
  obtain⟨vs,xs,h3,h4,h5⟩:=KM hf hi h
  refine⟨_,x::xs,h3,.cons h2 h4,?_⟩
  rw[List.mapM_cons,Sem.run_bind,Sem.run_pure,Result.andThen_ok,Sem.run_bind,h5,Result.andThen_ok]
  simp [Array.getD_eq_getD_getElem?,h1]
 | .cell t ty::rs,K,h=>by
  simp only[sg]at h
  split at h<;>try exact h.elim
  rename_i ad had
  obtain⟨x,h1,h2⟩:=hf.get t ad had
  obtain⟨v,y,h6,h7,h8⟩:=I_ h hi h2
  obtain⟨vs,xs,h3,h4,h5⟩:=KM hf hi h8
  refine⟨_,y::xs,h3,.cons h7 h4,?_⟩
  have hx:a.tmps.getD t undef=x:=by simp [Array.getD_eq_getD_getElem?,h1]
  have aba:(do loadVar ty (<- asAddr x):Sem Value).run P W= .ok y W:=by
   unfold Instr.loadAt at h6
   cases x with
   |pointer p=>cases p with
    |some p=>simpa [Instr.sureAddr,asAddr]using h6
    |none=>simp [Instr.sureAddr]at h6
   |_=>simp [Instr.sureAddr]at h6
  rw[List.mapM_cons,Sem.run_bind]
  simp only[hx]
  rw[aba,Result.andThen_ok,Sem.run_bind,h5,Result.andThen_ok]
  simp
def vR:Nat->List V->Fr
 |_,[]=>[]
 |k,v::vs=>(k,v)::vR (k+1) vs
theorem Sa {σ:Sg} {E:EH}:∀{vs:List V} {xs:List Value} (k:Nat),az σ E vs xs->∀{t:Nat} {v:V},look (vR k vs) t=some v->∃ x,k<=t/\xs[t - k]? =some x/\Den σ E v x
 | [],_,k,_,t,v,h=>by simp [vR,look]at h
 |w::vs,xs,k,hd,t,v,h=>by
  simp only[az]at hd
  obtain⟨x,xs',rfl,h1,h2⟩:=hd
  simp only[vR,look]at h
  split at h
  ·rename_i hb
   have:=de hb
   subst this
   cases h
   exact⟨x,ar _,by simp,h1⟩
  ·obtain⟨y,h3,h4,h5⟩:=Sa (k+1) h2 h
   exact⟨y,by omega,by rw[show t - k=(t - (k+1))+1 by omega];simpa using h4,h5⟩
theorem aak {P:Program} {fn:Func} {fr:Fr} {kb:KB} {K:V->KB->Prop} {σ:Sg} {E:EH} {n:Nat} {a:Act} {W:World} (hf:gl σ E fr n a) (hi:Inv σ E kb W) (h:sg P fr kb fn.results.toList (fun vs=>K (u6 vs) kb)):
  ∃ v r,(results fn a.tmps).run P W= .ok v W/\Den σ E r v/\K r kb:=by
 obtain⟨vs,ys,h1,h2,h3⟩:=KM hf hi h
 have hrun:(results fn a.tmps).run P W= .ok (if h:ys.toArray.size=1 then ys.toArray[0]else .tuple ys.toArray) W:=by
  unfold results
  rw[Sem.run_bind,Array.mapM_eq_mapM_toList]
  simp only[Sem.run_map]
  exact(congrArg (fun z=>Result.andThen (Result.andThen z (fun(a:List Value) w'=>Result.ok a.toArray w')) (fun(a:Array Value) w'=>Sem.run P (pure (if h:a.size=1 then a[0]else Value.tuple a)) w')) h3).trans rfl
 refine⟨_,u6 vs,hrun,?_,h1⟩
 match vs,ys,h2 with
 | [v],ys,h2=>
  simp only[az]at h2
  obtain⟨x,xs',rfl,h4,rfl⟩:=h2
  exact h4
 | [],ys,h2=>
  simp only[az]at h2
  subst h2
  simp [u6,Den,az]
 |v::w::vs,ys,h2=>
  have hl:=h2.len
  have:¬ ys.toArray.size=1:=by simp [hl]
  rw[dif_neg this]
  simp only[u6,Den]
  exact⟨ys,rfl,h2⟩
def iL (P:Program) (X:cd):(Nat->Option LI)->Nat->Nat->Code->(Exit->Fr->KB->Prop)->Fr->KB->Prop
 |T,n0,n,.skip,Q,fr,kb=>Q .normal fr kb
 |T,n0,n,.label _,Q,fr,kb=>Q .normal fr kb
 |T,n0,n,.region _ ops false,Q,fr,kb=>match Region.noSelect ops with
  |true=>zx P X n ops ops.toList (Q .normal) fr kb
  |false=>False
 |T,n0,n,.region _ ops true,Q,fr,kb=>match Region.noSelect ops,Hg ops with
  |true,true=>nq P X n ops (jB P ops 0 ops.size) ops.size 0 [] (Q .normal) fr kb
  |_,_=>False
 |T,n0,n,.seq x y,Q,fr,kb=>match (qy y).bind (fun r=>T (1000+r))with
  |some li=>iL P X T n0 n x (fun e fr kb=>match e with | .normal=>uk n0 li.dT li.live fr kb (fun s=>At li s) | e=>Q e fr kb) fr kb/\
   li.all (fun i=>iL P X (D5 li i T) n0 n y Q (li.live.zip (li.st i).1) (li.st i).2)
  |none=>iL P X T n0 n x (fun e fr kb=>match e with | .normal=>iL P X T n0 n y Q fr kb | e=>Q e fr kb) fr kb
 |T,n0,n,.cond c x y,Q,fr,kb=>match ev fr c with
  |some .tt=>iL P X T n0 n x Q fr kb
  |some .ff=>iL P X T n0 n y Q fr kb
  |some (.sb b)=>(b=true->iL P X T n0 n x Q fr kb)/\(b=false->iL P X T n0 n y Q fr kb)
  |_=>False
 |T,n0,n,.block id x,Q,fr,kb=>iL P X T n0 n x (fun e fr kb=>match e with
  | .exit i=>match cX i id with | true=>Q .normal fr kb | false=>Q (.exit i) fr kb
  |e=>Q e fr kb) fr kb
 |T,n0,n,.loop x,Q,fr,kb=>match (qy x).bind T with
  |some li=>uk n0 li.dT li.live fr kb (fun s=>At li s/\
   li.all (fun i=>iL P X (D5 li i T) n0 n x (fun e fr kb=>match e with
    | .normal=>uk n0 li.dT li.live fr kb (fun s=>Nx li i s)
    |e=>Q e fr kb) (li.live.zip (li.st i).1) (li.st i).2))
  |none=>iter (fun Q fr kb=>iL P X T n0 n x Q fr kb) Q 600 fr kb
 |T,n0,n,.scope x,Q,fr,kb=>iL P X T n0 n x (fun e fr kb=>match e with | .goto _=>False | e=>Q e fr kb) fr kb
 |T,n0,n,.exit id,Q,fr,kb=>Q (.exit id) fr kb
 |T,n0,n,.ret,Q,fr,kb=>Q .ret fr kb
 |_,_,_,_,_,_,_=>False
theorem oA {P:Program} {X:cd} (hX:cx P X) (hm:P.follows .mixedOrders=true) {c:Cx} {n:Nat}:∀(code:Code) {T:Nat->Option LI} {Q:Exit->Fr->KB->Prop} {Q':Exit->Act->World->Prop},XZ c n Q Q'->∀{a:Act} {W:World},
  oH c n (iL P X T c.σ.length n code Q) a W->code.wp P Q' a W
 | .skip,T,Q,Q',hQ,a,W,h=>wp_skip (hQ.hat _ _ _ h)
 | .label _,T,Q,Q',hQ,a,W,h=>wp_label (hQ.hat _ _ _ h)
 | .exit id,T,Q,Q',hQ,a,W,h=>wp_exit (hQ.hat _ _ _ h)
 | .ret,T,Q,Q',hQ,a,W,h=>wp_ret (hQ.hat _ _ _ h)
 | .region id ops false,T,Q,Q',hQ,a,W,h=>by
  cases pL:Region.noSelect ops with
  |true=>
   simp only[iL,pL]at h
   exact wp_region_list (K7 hX (fun a W h=>hQ.hat _ _ _ h) h)
  |false=>
   obtain⟨σ,E,fr,kb,hs,hf,h⟩:=h
   simp only[iL,pL]at h
 | .region id ops true,T,Q,Q',hQ,a,W,h=>by
  obtain⟨σ,E,fr,kb,hs,hf,h⟩:=h
  simp only[iL]at h
  split at h<;>try exact h.elim
  rename_i pL Il
  refine wp_region_any hm ?_
  have hd:=(hs.trans (Inv.drew hs.inv))
  exact(ZW hX pL Il (Q:=Q') (K:=Q .normal) (fun a W h=>hQ.hat _ _ _ h) hQ.uY ops.size 0 _ [] fr kb a _ σ E [] ⟨by simp,fun i hi=>by simp [hi]⟩ Closed.empty hd hf (fun r hr=>by cases hr) h).any
 | .seq x y,T,Q,Q',hQ,a,W,h=>by
  cases QR:(qy y).bind (fun r=>T (1000+r))with
  |some li=>
   obtain⟨σ,E,fr,kb,hs,hf,h⟩:=h
   simp only[iL,QR]at h
   obtain⟨hx,hy⟩:=h
   refine wp_seq (oA hX hm x (Q':=Exit.then (y.wp P Q') Q') (Q:=fun e fr kb=>match e with | .normal=>uk c.σ.length li.dT li.live fr kb (fun s=>At li s) | e=>Q e fr kb) ⟨fun e a W h=>?_,fun ch a a' w h=>hQ.uY ch a a' w h⟩ ⟨σ,E,fr,kb,hs,hf,hx⟩)
   cases e with
   |normal=>
    obtain⟨σ2,E2,jv,bY,IG,jw,h2⟩:=h
    obtain⟨s,⟨⟨i,rfl⟩⟩,hh⟩:=F7 h2 IG jw
    refine oA (T:=D5 li i T) hX hm y hQ ?_
    obtain⟨σ3,E3,fr3,fC,k1,k2,rfl,rfl⟩:=hh
    exact⟨σ3,E3,_,_,k1,k2,li.Bp _ hy i⟩
   |exit id=>exact hQ.hat _ _ _ h
   |goto l=>exact hQ.hat _ _ _ h
   |ret=>exact hQ.hat _ _ _ h
   |panic ch=>exact hQ.hat _ _ _ h
   |outgrown=>exact hQ.hat _ _ _ h
  |none=>
  replace h:oH c n (iL P X T c.σ.length n x (fun e fr kb=>match e with | .normal=>iL P X T c.σ.length n y Q fr kb | e=>Q e fr kb)) a W:=by
   obtain⟨σ,E,fr,kb,hs,hf,h⟩:=h
   simp only[iL,QR]at h
   exact⟨σ,E,fr,kb,hs,hf,h⟩
  refine wp_seq (oA hX hm x (Q':=Exit.then (y.wp P Q') Q') (Q:=fun e fr kb=>match e with | .normal=>iL P X T c.σ.length n y Q fr kb | e=>Q e fr kb) ⟨fun e a W h=>?_,fun ch a a' w h=>hQ.uY ch a a' w h⟩ h)
  cases e with
  |normal=>exact oA hX hm y hQ h
  |exit id=>exact hQ.hat _ _ _ h
  |goto l=>exact hQ.hat _ _ _ h
  |ret=>exact hQ.hat _ _ _ h
  |panic ch=>exact hQ.hat _ _ _ h
  |outgrown=>exact hQ.hat _ _ _ h
 | .cond o x y,T,Q,Q',hQ,a,W,h=>by
  obtain⟨σ,E,fr,kb,hs,hf,h⟩:=h
  simp only[iL]at h
  split at h
  ·rename_i hc
   have:=cq hf hc
   simp only[Den]at this
   exact wp_cond_true this (oA hX hm x hQ ⟨σ,E,fr,kb,hs,hf,h⟩)
  ·rename_i hc
   have:=cq hf hc
   simp only[Den]at this
   exact wp_cond_false this (oA hX hm y hQ ⟨σ,E,fr,kb,hs,hf,h⟩)
  ·rename_i b hc
   have:=cq hf hc
   simp only[Den]at this
   exact wp_cond_split this (fun hb=>oA hX hm x hQ ⟨σ,E,fr,kb,hs,hf,h.1 hb⟩) (fun hb=>oA hX hm y hQ ⟨σ,E,fr,kb,hs,hf,h.2 hb⟩)
  ·exact h.elim
 | .block id x,T,Q,Q',hQ,a,W,h=>by
  refine wp_block (oA hX hm x (Q':=Exit.inBlock id Q') (Q:=fun e fr kb=>match e with
   | .exit i=>match cX i id with | true=>Q .normal fr kb | false=>Q (.exit i) fr kb
   |e=>Q e fr kb) ⟨fun e a W h=>?_,fun ch a a' w h=>hQ.uY ch a a' w h⟩ h)
  cases e with
  |normal=>exact hQ.hat _ _ _ h
  |exit i=>
   simp only[Exit.inBlock]
   simp only at h
   cases hb:cX i id with
   |true=>
    rw[if_pos (de hb)]
    simp only[hb]at h
    exact hQ.hat _ _ _ h
   |false=>
    rw[if_neg (fun e=>by subst e;simp at hb)]
    simp only[hb]at h
    exact hQ.hat _ _ _ h
  |goto l=>exact hQ.hat _ _ _ h
  |ret=>exact hQ.hat _ _ _ h
  |panic ch=>exact hQ.hat _ _ _ h
  |outgrown=>exact hQ.hat _ _ _ h
 | .loop x,T,Q,Q',hQ,a,W,h=>by
  obtain⟨σ,E,fr,kb,hs,hf,h⟩:=h
  simp only[iL]at h
  split at h
  case h_2=>
   refine wp_loop_ghost (fun k a w=>oH c n (iter (fun Q fr kb=>iL P X T c.σ.length n x Q fr kb) Q k) a w) 600 ⟨σ,E,fr,kb,hs,hf,h⟩ ?_
   intro k a' w' hk
   cases k with
   |zero=>obtain⟨_,_,_,_,_,_,h⟩:=hk;exact h.elim
   |succ k=>
    refine oA hX hm x (Q':=Exit.then (fun a' w'=>∃ n',n'<k+1/\oH c n (iter (fun Q fr kb=>iL P X T c.σ.length n x Q fr kb) Q n') a' w') Q')
     (Q:=fun e fr kb=>match e with | .normal=>iter (fun Q fr kb=>iL P X T c.σ.length n x Q fr kb) Q k fr kb | e=>Q e fr kb) ⟨fun e a W h=>?_,fun ch a a' w h=>hQ.uY ch a a' w h⟩ hk
    cases e with
    |normal=>exact⟨k,by omega,h⟩
    |exit id=>exact hQ.hat _ _ _ h
    |goto l=>exact hQ.hat _ _ _ h
    |ret=>exact hQ.hat _ _ _ h
    |panic ch=>exact hQ.hat _ _ _ h
    |outgrown=>exact hQ.hat _ _ _ h
  rename_i li hli
  obtain⟨s,⟨⟨⟨i,rfl⟩⟩,aaE⟩,hh⟩:=F7 h hs hf
  refine wp_loop_ghost (fun k a w=>∃ i,li.μ i=k/\oH c n (fun fr' kb'=>fr'=li.live.zip (li.st i).1/\kb'=(li.st i).2) a w) (li.μ i) ⟨i,rfl,hh⟩ ?_
  rintro k a' w' ⟨j,rfl,σ',E',fr',kb',hs',hf',rfl,rfl⟩
  refine oA hX hm x (T:=D5 li j T) (Q':=Exit.then (fun a' w'=>∃ n',n'<li.μ j/\∃ i,li.μ i=n'/\oH c n (fun fr' kb'=>fr'=li.live.zip (li.st i).1/\kb'=(li.st i).2) a' w') Q') (Q:=fun e fr kb=>match e with
     | .normal=>uk c.σ.length li.dT li.live fr kb (fun s=>Nx li j s)
     |e=>Q e fr kb) ⟨fun e a W h=>?_,fun ch a a' w h=>hQ.uY ch a a' w h⟩ ⟨σ',E',_,_,hs',hf',li.Bp _ aaE j⟩
  cases e with
  |normal=>
   obtain⟨σ2,E2,jv,bY,IG,jw,h2⟩:=h
   obtain⟨s,⟨⟨j',rfl,hlt⟩⟩,hh⟩:=F7 h2 IG jw
   exact⟨_,hlt,j',rfl,hh⟩
  |exit id=>exact hQ.hat _ _ _ h
  |goto l=>exact hQ.hat _ _ _ h
  |ret=>exact hQ.hat _ _ _ h
  |panic ch=>exact hQ.hat _ _ _ h
  |outgrown=>exact hQ.hat _ _ _ h
 | .rangeFunc _ _ _ _,_,_,_,_,_,_,h=>by obtain⟨_,_,_,_,_,_,h⟩:=h;exact h.elim
 | .scope x,T,Q,Q',hQ,a,W,h=>by
  refine wp_scope_straight (oA hX hm x (Q':=Exit.noGoto Q') (Q:=fun e fr kb=>match e with | .goto _=>False | e=>Q e fr kb) ⟨fun e a W h=>?_,fun ch a a' w h=>hQ.uY ch a a' w h⟩ h)
  cases e with
  |normal=>exact hQ.hat _ _ _ h
  |exit id=>exact hQ.hat _ _ _ h
  |goto l=>obtain⟨_,_,_,_,_,_,h⟩:=h;exact h.elim
  |ret=>exact hQ.hat _ _ _ h
  |panic ch=>exact hQ.hat _ _ _ h
  |outgrown=>exact hQ.hat _ _ _ h
 | .goto _,_,_,_,_,_,_,h=>by obtain⟨_,_,_,_,_,_,h⟩:=h;exact h.elim
 | .refuse _,_,_,_,_,_,_,h=>by obtain⟨_,_,_,_,_,_,h⟩:=h;exact h.elim
def DJ (P:Program) (X:cd) (T:Nat->Option LI) (f:FuncId) (args:List V) (kb:KB) (K:V->KB->Prop):Prop:=
 match P.funcs[f]? with
 |some fn=>match fn.body,Nat.ble args.length fn.ntmps with
  |some code,true=>iL P X T kb.length fn.ntmps code (fin P fn K) (vR 0 args) kb
  |_,_=>False
 |none=>False
theorem UV {P:Program} {X:cd} (hX:cx P X) (hm:P.follows .mixedOrders=true) {T:Nat->Option LI} {f:FuncId} {args:List V} {kb:KB} {K:V->KB->Prop} (h:DJ P X T f args kb K) {σ:Sg} {E:EH} {W:World} {xs:List Value} (hi:Inv σ E kb W)
  (hd:az σ E args xs):Calls P f xs.toArray W (fun e W'=>∃ v r σ' E' kb',e= .returned v/\Step σ E kb W σ' E' kb' W'/\Den σ' E' r v/\K r kb'):=by
 unfold DJ at h
 split at h<;>try exact h.elim
 rename_i fn hfn
 split at h<;>try exact h.elim
 rename_i code aaQ hb
 have hle:=Nat.le_of_ble_eq_true hb
 rw[<- hd.len]at hle
 rw[<- hi.len]at h
 refine calls_of_wp hfn aaQ (oA hX hm (T:=T) (c:=⟨σ,E,kb,W⟩) (n:=fn.ntmps) code (Q:=fin P fn K) ⟨fun e a' W' hh=>?_,fun ch a a' w hp=>?_⟩ ?_)
 ·obtain⟨σ',E',fr',kb',hs,hf,hK⟩:=hh
  have key:sg P fr' kb' fn.results.toList (fun vs=>K (u6 vs) kb')->a'.defers=[]/\∃ v,(results fn a'.tmps).run P W'= .ok v W'/\∃ v' r σ' E' kb',Ending.returned v= .returned v'/\Step σ E kb W σ' E' kb' W'/\Den σ' E' r v'/\K r kb':=by
   intro hK
   obtain⟨v,r,k1,k2,k3⟩:=aak hf hs.inv hK
   exact⟨hf.defers.h,v,k1,v,r,σ',E',kb',rfl,hs,k2,k3⟩
  cases e with
  |normal=>exact key hK
  |ret=>exact key hK
  |exit id=>exact hK.elim
  |goto l=>exact hK.elim
  |panic ch=>exact hK.elim
  |outgrown=>exact hK.elim
 ·obtain⟨_,v,r,σ',E',kb',he,_⟩:=hp
  cases he
 ·refine⟨σ,E,vR 0 args,kb,Step.refl hi,⟨by simp;omega,tZ.nil _,fun t v hv=>?_⟩,h⟩
  obtain⟨x,_,h2,h3⟩:=Sa 0 hd hv
  refine⟨x,?_,h3⟩
  have hlt:t<xs.length:=by
   have:=(bH.1 h2).1
   simpa using this
  rw[Array.getElem?_append_left (by simpa using hlt)]
  simpa using h2
abbrev aE:=List V->KB->(V->KB->Prop)->Prop
def aO (P:Program) (f:FuncId) (S:aE):Prop:=∀ args kb K,S args kb K->∀ σ E W xs,Inv σ E kb W->az σ E args xs->
 Calls P f xs.toArray W (fun e W'=>∃ v r σ' E' kb',e= .returned v/\Step σ E kb W σ' E' kb' W'/\Den σ' E' r v/\K r kb')
def kB (o:List Nat) (n:Nat) (k:Nat):Option Nat:=
 match o[k]? with
 |some i=>some i
 |none=>some (n+(k - o.length))
def zu (ρ:Nat->Option Nat):KB->Option KB
 | []=>some []
 |x::xs=>match KO.bZ ρ x,zu ρ xs with
  |some y,some ys=>some (y::ys)
  |_,_=>none
theorem UM {ρ:Nat->Option Nat}:∀{l r:KB},zu ρ l=some r->r.length=l.length/\∀(m:Nat) (b:KO),r[m]? =some b->∃ a,l[m]? =some a/\KO.bZ ρ a=some b
 | [],r,h=>by simp only[zu,bb.injEq]at h;subst h;simp
 |x::xs,r,h=>by
  simp only[zu]at h
  split at h<;>try (cases h;done)
  rename_i y ys h1 h2
  cases h
  obtain⟨h3,h4⟩:=UM h2
  refine⟨by simp [h3],fun m b hb=>?_⟩
  cases m with
  |zero=>simp at hb;subst hb;exact⟨x,rfl,h1⟩
  |succ m=>simpa using h4 m b (by simpa using hb)
def sT (bY:KB) (o:List Nat) (ρ:Nat->Option Nat):Nat->KB->Option KB
 |_,[]=>zu ρ (bY.drop o.length)
 |i,x::r=>match idx o i with
  |some k=>match bY[k]? with
   |some a=>match KO.bZ ρ a,sT bY o ρ (i+1) r with
    |some b,some t=>some (b::t)
    |_,_=>none
   |none=>none
  |none=>match sT bY o ρ (i+1) r with
   |some t=>some (x::t)
   |none=>none
theorem Gf {bY:KB} {o:List Nat} {ρ:Nat->Option Nat}:∀{r:KB} {i0:Nat} {out:KB},sT bY o ρ i0 r=some out->
  out.length=r.length+(bY.length - o.length)/\∀(j:Nat) (b:KO),out[j]? =some b->
   (j<r.length/\idx o (i0+j)=none/\r[j]? =some b)∨(j<r.length/\∃ k a,idx o (i0+j)=some k/\bY[k]? =some a/\KO.bZ ρ a=some b)∨
   (r.length<=j/\∃ a,bY[o.length+(j - r.length)]? =some a/\KO.bZ ρ a=some b)
 | [],i0,out,h=>by
  simp only[sT]at h
  obtain⟨h1,h2⟩:=UM h
  refine⟨by simp [h1],fun j b hb=> .inr (.inr ⟨by simp,?_⟩)⟩
  obtain⟨a,ha,hr⟩:=h2 j b hb
  exact⟨a,by simpa using ha,hr⟩
 |x::r,i0,out,h=>by
  simp only[sT]at h
  have step:∀{t:KB},sT bY o ρ (i0+1) r=some t->∀(y:KO),((idx o i0=none/\y=x)∨∃ k a,idx o i0=some k/\bY[k]? =some a/\KO.bZ ρ a=some y)->
    (y::t).length=(x::r).length+(bY.length - o.length)/\∀(j:Nat) (b:KO),(y::t)[j]? =some b->
    (j<(x::r).length/\idx o (i0+j)=none/\(x::r)[j]? =some b)∨(j<(x::r).length/\∃ k a,idx o (i0+j)=some k/\bY[k]? =some a/\KO.bZ ρ a=some b)∨
    ((x::r).length<=j/\∃ a,bY[o.length+(j - (x::r).length)]? =some a/\KO.bZ ρ a=some b):=by
   intro t ht y hy
   obtain⟨h1,h2⟩:=Gf ht
   refine⟨by simp [h1];omega,fun j b hb=>?_⟩
   cases j with
   |zero=>
    simp at hb;subst hb
    rcases hy with ⟨h3,rfl⟩ | ⟨k,a,h3,h4,h5⟩
    ·exact .inl ⟨by simp,by simpa using h3,rfl⟩
    ·exact .inr (.inl ⟨by simp,k,a,by simpa using h3,h4,h5⟩)
   |succ j=>
    rcases h2 j b (by simpa using hb)with ⟨k1,k2,k3⟩ | ⟨k1,k,a,k2,k3,k4⟩ | ⟨k1,a,k2,k3⟩
    ·exact .inl ⟨by simpa using k1,by rw[show i0+(j+1)=i0+1+j by omega];exact k2,by simpa using k3⟩
    ·exact .inr (.inl ⟨by simpa using k1,k,a,by rw[show i0+(j+1)=i0+1+j by omega];exact k2,k3,k4⟩)
    ·exact .inr (.inr ⟨by simpa using k1,a,by rw[show o.length+(j+1 - (x::r).length)=o.length+(j - r.length) by simp];exact k2,k3⟩)
  split at h
  ·rename_i k hk
   split at h<;>try (cases h;done)
   rename_i a ha
   split at h<;>try (cases h;done)
   rename_i b t hb ht
   cases h
   exact step ht b (.inr ⟨k,a,hk,ha,hb⟩)
  ·rename_i hk
   split at h<;>try (cases h;done)
   rename_i t ht
   cases h
   exact step ht x (.inl ⟨hk,rfl⟩)
def DZ (pl:Bool) (S:aE) (args:List V) (kb:KB) (K:V->KB->Prop):Prop:=
 match sX pl 0 args kb with
 |some (args',sub,o)=>S args' sub (fun r bY=>match Nat.ble o.length bY.length,V.bZ (kB o kb.length) r,sT bY o (kB o kb.length) 0 kb with
  |true,some r',some kb'=>K r' kb'
  |_,_,_=>False)
 |none=>False
def zA (S:aE) (args:List V) (kb:KB) (K:V->KB->Prop):Prop:=DZ false S args kb K
def Lc (S:aE) (args:List V) (kb:KB) (K:V->KB->Prop):Prop:=DZ true S args kb K
theorem Ry {l:List Nat} {i:Nat} (h:idx l i=none):i ∉ l:=fun hm=>by
 obtain⟨k,hk⟩:=Ct hm
 rw[h]at hk;cases hk
theorem Kq {σ:Sg} {kb:KB} (hlen:σ.length=kb.length) {o:List Nat} {sub:KB} (hs:sj (idx o) kb o=some sub) {b:Nat} (h:dc (dU σ o) sub b):
  ∃ i r ob,i∈o/\σ[i]? =some r/\kb[i]? =some ob/\owned r ob b:=by
 obtain⟨hl,df⟩:=xf hs
 obtain⟨k,r,o',h1,h2,h3⟩:=h
 simp only[dU,fy,Option.map_eq_some_iff]at h1
 obtain⟨i,hi,hr⟩:=h1
 obtain⟨ob,o2,ho,rJ,hk⟩:=df k i hi
 rw[h2]at hk;cases hk
 have hlt:i<σ.length:=by rw[hlen];exact(bH.1 ho).1
 rw[bu hlt]at hr
 simp at hr
 exact⟨i,r,ob,fF hi,by rw[bu hlt,hr],ho,(mr rJ).1 h3⟩
theorem Vt {pl:Bool} {P:Program} {f:FuncId} {S:aE} (hS:aO P f S) {args:List V} {kb:KB} {K:V->KB->Prop} (h:DZ pl S args kb K) {σ:Sg} {E:EH} {W:World} {xs:List Value} (hi:Inv σ E kb W) (hd:az σ E args xs):
  Calls P f xs.toArray W (fun e W'=>∃ v r σ' E' kb',e= .returned v/\Step σ E kb W σ' E' kb' W'/\Den σ' E' r v/\K r kb'):=by
 unfold DZ at h
 split at h<;>try exact h.elim
 rename_i args' sub o hc
 obtain⟨hn,_,rM,hsel⟩:=rq hc
 obtain⟨k1,k2,k3⟩:=hi.sel hn hsel
 obtain⟨j6,df⟩:=xf hsel
 refine(hS args' sub _ h (dU σ o) E W xs k1 (az.bZ k3 rM hd)).mono ?_
 rintro e W' ⟨v,r,σs,E',bY,rfl,hst,eT,hK⟩
 split at hK<;>try exact hK.elim
 rename_i r' kb' Ic hr' hkb'
 have hle:=Nat.le_of_ble_eq_true Ic
 obtain⟨τ,oU⟩:=hst.pre
 have IJ:(dU σ o).length=o.length:=by simp [dU]
 have hl2:σs.length=bY.length:=hst.inv.len
 obtain⟨hout,If⟩:=Gf hkb'
 let nV:=σ++σs.drop o.length
 have rR:∀ i j r,kB o kb.length i=some j->σs[i]? =some r->nV[j]? =some r:=by
  intro i j r hb hr
  unfold kB at hb
  split at hb
  ·rename_i q hq
   cases hb
   have hil:i<o.length:=(bH.1 hq).1
   rw[oU,dY (by rw[IJ];exact hil)]at hr
   simp only[dU,fy,hq,Option.map_some,bb.injEq]at hr
   obtain⟨ob,_,oa,_,_⟩:=df i j hq
   have hjl:j<σ.length:=by rw[hi.len];exact(bH.1 oa).1
   rw[bu hjl]at hr
   simp only[Option.getD_some]at hr
   show(σ++_)[j]? =_
   rw[dY hjl,bu hjl,hr]
  ·rename_i hq
   cases hb
   have hil:o.length<=i:=by
    rcases kx i o.length with h' | h'
    ·rw[bu h']at hq;cases hq
    ·exact h'
   show(σ++_)[_]? =_
   rw[fk (by rw[hi.len];omega),hi.len,show kb.length+(i - o.length) - kb.length=i - o.length by omega,jW,show o.length+(i - o.length)=i by omega]
   exact hr
 have e_:∀(i:Nat) (r:Re) (ob:KO),nV[i]? =some r->kb'[i]? =some ob->
   (∃ k a,kB o kb.length k=some i/\σs[k]? =some r/\bY[k]? =some a/\KO.bZ (kB o kb.length) a=some ob)∨(i ∉ o/\σ[i]? =some r/\kb[i]? =some ob):=by
  intro i r ob h1 h2
  rcases If i ob h2 with ⟨c1,c2,c3⟩ | ⟨c1,k,a,c2,c3,c4⟩ | ⟨c1,a,c2,c3⟩
  ·rw[c9]at c2
   have h1':(σ++σs.drop o.length)[i]? =some r:=h1
   rw[dY (by rw[hi.len];exact c1)]at h1'
   exact .inr ⟨Ry c2,h1',c3⟩
  ·rw[c9]at c2
   have hk:=Cu c2
   have kF:k<σs.length:=by rw[hl2];exact(bH.1 c3).1
   have hb:kB o kb.length k=some i:=by simp [kB,hk]
   have:=rR k i _ hb (bu kF)
   rw[this]at h1
   exact .inl ⟨k,a,hb,by rw[bu kF];exact h1,c3,c4⟩
  ·have hb:kB o kb.length (o.length+(i - kb.length))=some i:=by
    have:o[o.length+(i - kb.length)]? =none:=iE (by omega)
    simp only[kB,this]
    congr 1
    omega
   have kF:o.length+(i - kb.length)<σs.length:=by rw[hl2];exact(bH.1 c2).1
   have:=rR _ i _ hb (bu kF)
   rw[this]at h1
   exact .inl ⟨_,a,hb,by rw[bu kF];exact h1,c2,c3⟩
 have nC:∀ b,dc (dU σ o) sub b->∀(j:Nat) (r:Re) (ob:KO),j ∉ o->σ[j]? =some r->kb[j]? =some ob->owned r ob b->False:=by
  intro b hb j r ob hj h1 h2 h3
  obtain⟨i,r2,o2,g1,g2,g3,g4⟩:=Kq hi.len hsel hb
  exact hi.eH i j r2 r o2 ob b (fun e=>by subst e;exact hj g1) g2 g3 h1 h2 g4 h3
 have IB:∀(j:Nat) (r:Re) (ob:KO),j ∉ o->σ[j]? =some r->kb[j]? =some ob->∀ b,owned r ob b->W'.heap[b]? =W.heap[b]?:=by
  intro j r ob hj h1 h2 b h3
  exact hst.c8.block b ((hi.obj j r ob h1 h2).lt h3) (fun hb=>nC b hb j r ob hj h1 h2 h3)
 have rK:∀ b (k:Nat) (r:Re) (a:KO),σs[k]? =some r->bY[k]? =some a->owned r a b->dc (dU σ o) sub b∨W.heap.size<=b:=fun b k r a h1 h2 h3=>hst.own b ⟨k,r,a,h1,h2,h3⟩
 have hown:∀ b,dc nV kb' b->dc σ kb b∨W.heap.size<=b:=by
  rintro b ⟨i,r,ob,h1,h2,h3⟩
  rcases e_ i r ob h1 h2 with ⟨k,a,_,g2,g3,g4⟩ | ⟨g1,g2,g3⟩
  ·rcases rK b k r a g2 g3 ((mr g4).1 h3)with h4 | h4
   ·exact .inl (k2 b h4)
   ·exact .inr h4
  ·exact .inl ⟨i,r,ob,g2,g3,h3⟩
 refine⟨v,r',nV,E',kb',rfl,⟨⟨?_,fun i r ob h1 h2=>?_,fun i j r1 r2 o1 o2 b hij h1 h2 h3 h4 h5 h6=>?_,hst.inv.fe,fun b hb=>?_⟩,⟨hst.c8.os,hst.c8.tape,hst.c8.output,hst.c8.size,fun b hb hn'=>hst.c8.block b hb (fun h=>hn' (k2 b h))⟩,⟨_,rfl⟩,hst.le,hown,fun b x hb=>?_⟩,Den.bZ rR hr' eT,hK⟩
 ·simp only[nV,bn,gm,hout,hi.len,hl2]
 ·rcases e_ i r ob h1 h2 with ⟨k,a,_,g2,g3,g4⟩ | ⟨g1,g2,g3⟩
  ·exact(hst.inv.obj k r a g2 g3).bZ rR g4
  ·exact(hi.obj i r ob g2 g3).mono hst.le (fun b hb=>IB i r ob g1 g2 g3 b hb)
 ·rcases e_ i r1 o1 h1 h2 with ⟨k,a,g1,g2,g3,g4⟩ | ⟨g1,g2,g3⟩<;>rcases e_ j r2 o2 h3 h4 with ⟨m,a',q1,q2,q3,q4⟩ | ⟨q1,q2,q3⟩
  ·refine hst.inv.eH k m r1 r2 a a' b (fun e=>?_) g2 g3 q2 q3 ((mr g4).1 h5) ((mr q4).1 h6)
   subst e
   rw[g1]at q1
   cases q1
   exact hij rfl
  ·rcases rK b k r1 a g2 g3 ((mr g4).1 h5)with h7 | h7
   ·exact nC b h7 j r2 o2 q1 q2 q3 h6
   ·have:=(hi.obj j r2 o2 q2 q3).lt h6;omega
  ·rcases rK b m r2 a' q2 q3 ((mr q4).1 h6)with h7 | h7
   ·exact nC b h7 i r1 o1 g1 g2 g3 h5
   ·have:=(hi.obj i r1 o1 g2 g3).lt h5;omega
  ·exact hi.eH i j r1 r2 o1 o2 b hij g2 g3 q2 q3 h5 h6
 ·obtain⟨i,r,ob,h1,h2,h3⟩:=hb
  rcases e_ i r ob h1 h2 with ⟨k,a,_,g2,g3,g4⟩ | ⟨g1,g2,g3⟩
  ·exact hst.inv.sep b ⟨k,r,a,g2,g3,(mr g4).1 h3⟩
  ·cases hE:E' b with
   |none=>rfl
   |some x=>
    rcases hst.new b x hE with h4 | h4 | h4
    ·have:=hi.sep b ⟨i,r,ob,g2,g3,h3⟩;rw[this]at h4;cases h4
    ·exact(nC b h4 i r ob g1 g2 g3 h3).elim
    ·have:=(hi.obj i r ob g2 g3).lt h3;omega
 ·rcases hst.new b x hb with h4 | h4 | h4
  ·exact .inl h4
  ·exact .inr (.inl (k2 b h4))
  ·exact .inr (.inr h4)
theorem D1 {P:Program} {f:FuncId} {S:aE} (hS:aO P f S) {args:List V} {kb:KB} {K:V->KB->Prop} (h:zA S args kb K) {σ:Sg} {E:EH} {W:World} {xs:List Value} (hi:Inv σ E kb W) (hd:az σ E args xs):
 Calls P f xs.toArray W (fun e W'=>∃ v r σ' E' kb',e= .returned v/\Step σ E kb W σ' E' kb' W'/\Den σ' E' r v/\K r kb'):=Vt hS h hi hd
theorem Vu {P:Program} {f:FuncId} {S:aE} (hS:aO P f S) {args:List V} {kb:KB} {K:V->KB->Prop} (h:Lc S args kb K) {σ:Sg} {E:EH} {W:World} {xs:List Value} (hi:Inv σ E kb W) (hd:az σ E args xs):
 Calls P f xs.toArray W (fun e W'=>∃ v r σ' E' kb',e= .returned v/\Step σ E kb W σ' E' kb' W'/\Den σ' E' r v/\K r kb'):=Vt hS h hi hd
def gG:KB->Bool
 | []=>true
 | .objs _:: _=>false
 | .jP _:: _=>false
 |_::kb=>gG kb
theorem PX:∀{kb:KB},gG kb=true->∀(i:Nat) (o:KO),kb[i]? =some o->(∀ A,o≠.objs A)/\∀ a,o≠.jP a
 | [],_,i,o,h=>by simp at h
 |x::kb,hf,0,o,h=>by
  simp at h;subst h
  exact⟨fun A e=>by subst e;simp [gG]at hf,fun A e=>by subst e;simp [gG]at hf⟩
 |x::kb,hf,i+1,o,h=>by
  refine PX (kb:=kb) ?_ i o (by simpa using h)
  cases x<;>first | exact hf | (simp [gG]at hf)
theorem jq.down {σ:Sg} {E:EH} {W:World} {r:Re} {o:KO} (h:jq σ E W r o) {b:Nat} (ho:owned r o b):o8 r o b:=by
 cases o<;>first | exact ho | exact h.elim
theorem ij.down {σ:Sg} {E:EH} {W:World} {r:Re} {o:KO} (h:ij σ E W r o) (hn:(∀ A,o≠.objs A)/\∀ a,o≠.jP a):jq σ E W r o:=by
 cases o<;>first | exact h | exact trivial | exact absurd rfl (hn.1 _) | exact absurd rfl (hn.2 _)
theorem nW.owns {E:EH} {W:World} {a:Sg×KB} (h:nW E W a) {b:Nat} (ho:dc a.1 a.2 b):jJ a b:=by
 obtain⟨i,r,o,h1,h2,h3⟩:=ho
 exact⟨i,r,o,h1,h2,(h.obj i r o h1 h2).down h3⟩
theorem jJ.up {a:Sg×KB} {b:Nat} (h:jJ a b):dc a.1 a.2 b:=by
 obtain⟨i,r,o,h1,h2,h3⟩:=h
 exact⟨i,r,o,h1,h2,h3.up⟩
theorem nW.inv {E:EH} {W:World} {a:Sg×KB} (h:nW E W a) (aa4:∀ b o,E b=some o->W.heap[b]? =some o) (hsep:∀ b,jJ a b->E b=none):Inv a.1 E a.2 W:=
 ⟨h.len,fun i r o h1 h2=>(h.obj i r o h1 h2).up,fun i j r r' o o' b hij h1 h2 h3 h4 h5 h6=>h.eH i j r r' o o' b hij h1 h2 h3 h4 ((h.obj i r o h1 h2).down h5) ((h.obj j r' o' h3 h4).down h6),aa4,fun b hb=>hsep b (h.owns hb)⟩
theorem Inv.J2 {σ:Sg} {E:EH} {kb:KB} {W:World} (h:Inv σ E kb W) (hf:gG kb=true):nW E W (σ,kb):=
 ⟨h.len,fun i r o h1 h2=>(h.obj i r o h1 h2).down (PX hf i o h2),fun i j r r' o o' b hij h1 h2 h3 h4 h5 h6=>h.eH i j r r' o o' b hij h1 h2 h3 h4 h5.up h6.up⟩
def gB (P:Program) (f:FuncId) (S:aE):Prop:=∀ args kb K,S args kb K->∀ σ E W xs,Inv σ E kb W->az σ E args xs->
 Calls P f xs.toArray W (fun e W'=>∃ v r σ' E' bY σ3 fC,e= .returned v/\Step σ E kb W σ' E' bY W'/\Inv σ3 E' fC W'/\gG fC=true/\(∀ b,dc σ3 fC b->dc σ' bY b)/\(∀ b,oz σ b->oz σ3 b)/\(∀ τ,Den τ E' r v)/\K r fC)
def tz:List Nat->KB->KB
 | [],kb=>kb
 |i::is,kb=>tz is (kb.set i .dead)
theorem I1:∀{o:List Nat} {kb:KB},(tz o kb).length=kb.length
 | [],kb=>rfl
 |i::is,kb=>by simp only[tz];rw[I1,iG]
theorem RM:∀{o:List Nat} {kb:KB} {j:Nat} {b:KO},(tz o kb)[j]? =some b->b= .dead∨(j ∉ o/\kb[j]? =some b)
 | [],kb,j,b,h=> .inr ⟨by simp,h⟩
 |i::is,kb,j,b,h=>by
  simp only[tz]at h
  rcases RM h with h1 | ⟨h1,h2⟩
  ·exact .inl h1
  ·by_cases e:i=j
   ·subst e
    rw[List.getElem?_set_self']at h2
    cases hk:kb[i]? with
    |none=>rw[hk]at h2;simp at h2
    |some x=>rw[hk]at h2;simp at h2;exact .inl h2.symm
   ·rw[gP e]at h2
    exact .inr ⟨fun hm=>by
     rcases dS.1 hm with e2 | e2
     ·exact e e2.symm
     ·exact h1 e2,h2⟩
def Le (S:aE) (args:List V) (kb:KB) (K:V->KB->Prop):Prop:=
 match sX false 0 args kb with
 |some (args',sub,o)=>match o with
  |i0:: _=>S args' sub (fun r fC=>gG fC=true->∀ τ,K r ((tz o kb).set i0 (.jP (τ,fC))))
  | []=>False
 |none=>False
theorem afY {P:Program} {f:FuncId} {S:aE} (hS:gB P f S) {args:List V} {kb:KB} {K:V->KB->Prop} (h:Le S args kb K) {σ:Sg} {E:EH} {W:World} {xs:List Value} (hi:Inv σ E kb W) (hd:az σ E args xs):
  Calls P f xs.toArray W (fun e W'=>∃ v r σ' E' kb',e= .returned v/\Step σ E kb W σ' E' kb' W'/\Den σ' E' r v/\K r kb'):=by
 unfold Le at h
 split at h<;>try exact h.elim
 rename_i args' sub o hc
 split at h<;>try exact h.elim
 rename_i i0 o'
 obtain⟨hn,_,rM,hsel⟩:=rq hc
 obtain⟨k1,k2,k3⟩:=hi.sel hn hsel
 obtain⟨j6,df⟩:=xf hsel
 have hi0:i0<kb.length:=by
  obtain⟨ob,_,oa,_,_⟩:=df 0 i0 rfl
  exact(bH.1 oa).1
 have hr0:(dU σ (i0::o'))[0]? =σ[i0]?:=by
  have:i0<σ.length:=by rw[hi.len];exact hi0
  simp [dU,bu this]
 refine(hS args' sub _ h (dU σ (i0::o')) E W xs k1 (az.bZ k3 rM hd)).mono ?_
 rintro e W' ⟨v,r,σ',E',bY,σ3,fC,rfl,hst,hin,nv,abe,tu,eT,hK⟩
 have abd:=hin.J2 nv
 have nC:∀ b,dc (dU σ (i0::o')) sub b->∀(j:Nat) (r:Re) (ob:KO),j ∉ i0::o'->σ[j]? =some r->kb[j]? =some ob->owned r ob b->False:=by
  intro b hb j r ob hj h1 h2 h3
  obtain⟨i,r2,o2,g1,g2,g3,g4⟩:=Kq hi.len hsel hb
  exact hi.eH i j r2 r o2 ob b (fun e=>by subst e;exact hj g1) g2 g3 h1 h2 g4 h3
 have Ix:∀ b,jJ (σ3,fC) b->dc (dU σ (i0::o')) sub b∨W.heap.size<=b:=fun b hb=>hst.own b (abe b hb.up)
 have e_:∀(j:Nat) (ob:KO),((tz (i0::o') kb).set i0 (.jP (σ3,fC)))[j]? =some ob->(j=i0/\ob= .jP (σ3,fC))∨ob= .dead∨(j ∉ i0::o'/\kb[j]? =some ob):=by
  intro j ob hj
  by_cases e:i0=j
  ·subst e
   rw[iN (by rw[I1];exact hi0)]at hj
   exact .inl ⟨rfl,(bb.inj hj).symm⟩
  ·rw[gP e]at hj
   exact .inr (RM hj)
 have hown:∀ b,dc σ ((tz (i0::o') kb).set i0 (.jP (σ3,fC))) b->dc σ kb b∨W.heap.size<=b:=by
  rintro b ⟨j,q,ob,h1,h2,h3⟩
  rcases e_ j ob h2 with ⟨rfl,rfl⟩ | rfl | ⟨g1,g2⟩
  ·rcases Ix b h3 with g | g
   ·exact .inl (k2 b g)
   ·exact .inr g
  ·exact h3.elim
  ·exact .inl ⟨j,q,ob,h1,g2,h3⟩
 refine⟨v,r,σ,E',_,rfl,⟨⟨?_,fun j q ob h1 h2=>?_,fun j j' q q' ob ze b hij h1 h2 h3 h4 h5 h6=>?_,hst.inv.fe,fun b hb=>?_⟩,⟨hst.c8.os,hst.c8.tape,hst.c8.output,hst.c8.size,fun b hb hn'=>hst.c8.block b hb (fun h=>hn' (k2 b h))⟩,⟨[],by simp⟩,hst.le,hown,fun b x hb=>?_⟩,eT σ,hK nv σ3⟩
 ·rw[iG,I1,hi.len]
 ·rcases e_ j ob h2 with ⟨rfl,rfl⟩ | rfl | ⟨g1,g2⟩
  ·exact⟨abd,tu q.blk ⟨q,by rw[hr0];exact h1,rfl⟩⟩
  ·trivial
  ·have:=(hi.obj j q ob h1 g2).mono (τ:=[]) (W':=W') hst.le (fun b hb=>hst.c8.block b ((hi.obj j q ob h1 g2).lt hb) (fun hs=>nC b hs j q ob g1 h1 g2 hb))
   simpa using this
 ·rcases e_ j ob h2 with ⟨rfl,rfl⟩ | rfl | ⟨g1,g2⟩<;>rcases e_ j' ze h4 with ⟨e2,e3⟩ | rfl | ⟨g1',HR⟩
  ·exact hij e2.symm
  ·exact h6.elim
  ·rcases Ix b h5 with g | g
   ·exact nC b g j' q' ze g1' h3 HR h6
   ·have:=(hi.obj j' q' ze h3 HR).lt h6;omega
  ·exact h5.elim
  ·exact h5.elim
  ·exact h5.elim
  ·subst e3
   rcases Ix b h6 with g | g
   ·exact nC b g j q ob g1 h1 g2 h5
   ·have:=(hi.obj j q ob h1 g2).lt h5;omega
  ·exact h6.elim
  ·exact hi.eH j j' q q' ob ze b hij h1 g2 h3 HR h5 h6
 ·obtain⟨j,q,ob,h1,h2,h3⟩:=hb
  rcases e_ j ob h2 with ⟨rfl,rfl⟩ | rfl | ⟨g1,g2⟩
  ·exact hin.sep b h3.up
  ·exact h3.elim
  ·cases hE:E' b with
   |none=>rfl
   |some x=>
    rcases hst.new b x hE with h4 | h4 | h4
    ·have:=hi.sep b ⟨j,q,ob,h1,g2,h3⟩;rw[this]at h4;cases h4
    ·exact(nC b h4 j q ob g1 h1 g2 h3).elim
    ·have:=(hi.obj j q ob h1 g2).lt h3;omega
 ·rcases hst.new b x hb with h4 | h4 | h4
  ·exact .inl h4
  ·exact .inr (.inl (k2 b h4))
  ·exact .inr (.inr h4)
theorem ym {σ:Sg} {E:EH} {v:V} {x:Value} (h:Den σ E v x):az σ E [v] [x]:=by simp only[az];exact⟨x,[],rfl,h,rfl⟩
theorem yn {σ:Sg} {E:EH} {v:V} {x:Value} (h:az σ E [v] [x]):Den σ E v x:=by
 simp only[az]at h
 obtain⟨y,ys,e,h1,rfl⟩:=h
 cases e
 exact h1
def y0 (ds:List jX) (S:aE):aE:=fun args kb K=>zA S (pV ds (args,kb)).1 (pV ds (args,kb)).2 K
theorem C8 {P:Program} {f:FuncId} {S:aE} (hS:aO P f S) (ds:List jX):aO P f (y0 ds S):=fun args kb K h σ E W xs hi hd=>by
 obtain⟨σ',MC,h1,h2,_⟩:=y_ (c:=⟨σ,E,kb,W⟩) ds (s:=(args,kb)) (Step.refl hi) hd
 refine(D1 hS h h1.inv h2).mono ?_
 rintro e W' ⟨v,r,σs,E',bY,rfl,hst,eT,hK⟩
 exact⟨v,r,σs,E',bY,rfl,Step.trans h1 hst,eT,hK⟩
def eX (ds:List jX) (K:V->KB->Prop):V->KB->Prop:=fun r kb=>match r with
 | .φ l=>K (.φ (pV ds (l,kb)).1) (pV ds (l,kb)).2
 |r=>match (pV ds ([r],kb)).1 with
  | [r']=>K r' (pV ds ([r],kb)).2
  |_=>False
def aci (ds:List jX) (S:aE):aE:=fun args kb K=>S args kb (eX ds K)
theorem JF {P:Program} {f:FuncId} {S:aE} (hS:aO P f S) (ds:List jX):aO P f (aci ds S):=fun args kb K h σ E W xs hi hd=>by
 refine(hS args kb _ h σ E W xs hi hd).mono ?_
 rintro e W' ⟨v,r,σs,E',bY,rfl,hst,eT,hK⟩
 unfold eX at hK
 split at hK
 ·rename_i l
  simp only[Den]at eT
  obtain⟨vs,rfl,hl⟩:=eT
  obtain⟨σ',MC,h1,h2,_⟩:=y_ (c:=⟨σ,E,kb,W⟩) ds (s:=(l,bY)) hst hl
  exact⟨_,_,_,_,_,rfl,h1,by simp only[Den];exact⟨vs,rfl,h2⟩,hK⟩
 ·split at hK<;>try exact hK.elim
  rename_i r' hr
  obtain⟨σ',MC,h1,h2,_⟩:=y_ (c:=⟨σ,E,kb,W⟩) ds (s:=([r],bY)) hst (ym eT)
  rw[hr]at h2
  exact⟨_,_,_,_,_,rfl,h1,yn h2,hK⟩
def dp (n0:Nat) (K:V->KB->Prop):V->KB->Prop:=fun r kb=>match canon n0 [r] kb with
 |some ([r'],kb',_)=>K r' kb'
 |_=>False
def agW (S:aE):aE:=fun args kb K=>S args kb (dp kb.length K)
theorem Eb {P:Program} {f:FuncId} {S:aE} (hS:aO P f S):aO P f (agW S):=fun args kb K h σ E W xs hi hd=>by
 refine(hS args kb _ h σ E W xs hi hd).mono ?_
 rintro e W' ⟨v,r,σs,E',bY,rfl,hst,eT,hK⟩
 unfold dp at hK
 split at hK<;>try exact hK.elim
 rename_i r' kb' o hc
 rw[<- hi.len]at hc
 obtain⟨σ',h1,h2⟩:=Step.sel (c:=⟨σ,E,kb,W⟩) hst hc (ym eT)
 exact⟨_,_,_,_,_,rfl,h1,yn h2,hK⟩
end Vc
