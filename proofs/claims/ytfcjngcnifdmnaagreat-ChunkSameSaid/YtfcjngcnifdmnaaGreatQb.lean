import Derived.Test.YtfcjngcnifdmnaaGreatQa
import Derived.RangeFuncRecord
import Derived.Conc.LoneSelect
set_option linter.unusedSimpArgs false
set_option linter.unusedVariables false
namespace Vc
open Go
open Go.IntKind renaming i64->γ,u8->ν,u32->iy
open Go.Value renaming int->φ,map->kr,oneCell'->l0
open List renaming map->ae,drop->ax,take->aA,length_append->bo,getElem?_eq_getElem->bz,getElem?_eq_some_iff->bO,length_map->cp,take_length->cZ,length_take->dc,mem_singleton->dm,replicate->dp,mem_append->dQ,Mem->dW,getElem?_append_left->dX,mem_map->ef,append_assoc->eH,mem_cons->eI,getElem?_append_right->e_,append_nil->fu,getElem?_map->fH,take_of_length_le->fI,length_drop->fZ,mem_cons_of_mem->f_,getElem?_set_ne->gE,length_cons->gF,mem_of_getElem?->gG,getElem?_eq_none->g_,getElem?_set_self->iz,length_set->iA,mem_cons_self->iB,length_singleton->iL,mem_append_left->iM,range->iN,drop_zero->iX,getD_eq_getElem?_getD->iY,getElem?_take_of_lt->ji,flatten_cons->jt,nil_append->ju,getElem?_drop->jE,map_append->jZ,take_add_one->j2,length_nil->ko,ext_getElem?->lB,getElem?_of_mem->lC,mem_append_right->lD,map_cons->lY,mem_filter->lZ,eq_nil_of_length_eq_zero->mq
open Nat renaming le_refl->au,zero_le->bt,beq->cq,eq_of_beq_eq_true->cP,zero_add->cQ,add_assoc->gR,lor->iO,lt_or_ge->jF,sub_zero->kV
open Option renaming some->bc,bind_eq_some_iff->kW,map->mU
open Int renaming le_refl->dy,toNat_natCast->dD
open Bool renaming and_eq_true->iW,not_eq_false'->nI
theorem OS {sz:Nat} {l xs:List (List D)} (hl:wl sz l) (hx:wl sz xs) {lo:Nat} (h:lo+xs.length<=l.length):(splice l lo xs).flatten=splice l.flatten (lo*sz) xs.flatten:=by
 unfold splice
 rw[List.flatten_append,List.flatten_append,xW hl,xV hl,ph hx,Nat.add_mul]
theorem VK {sz:Nat} {l xs:List (List D)} (hl:wl sz l) (hx:wl sz xs) (lo:Nat):wl sz (splice l lo xs):=((hl.take lo).append hx).append (hl.drop _)
def F0 (P:Program) (t:TypeId) (d x:V) (kb:KB) (K:V->KB->Prop):Prop:=
 match P.underlying t,tj kb x with
 |some (.slice elem),some (sz,p,xs)=>match fL P elem with
  |some s=>match za s sz with
   |true=>match d with
    | .sl i lo hi=>match kb[i]? with
     |some (.row ty sz' l)=>match cq sz' s with
      |true=>p/\hi<=l.length/\K (.int γ ((min xs.length (hi - lo):Nat):Int)) (kb.set i (.row ty sz' (splice l lo (xs.take (hi - lo)))))
      |false=>False
     |_=>False
    | .sa i base o s' n c=>match kb[i]?,cq s 1 with
     |some (.cells l),true=>match je l base with
      |some (.arr m cs)=>match jp l base [.arr m (splice cs o (xs.take n).flatten)]with
       |some l'=>p/\o+n<=m/\K (.int γ ((min xs.length n:Nat):Int)) (kb.set i (.cells l'))
       |none=>False
      |_=>False
     |_,_=>False
    | .se i ix o s' n c=>match kb[i]?,cq s 1 with
     |some (.row ty sz' l),true=>p/\∃ e,l[ix]? =some e/\o+n<=sz'/\K (.int γ ((min xs.length n:Nat):Int)) (kb.set i (.row ty sz' (l.set ix (splice e o (xs.take n).flatten))))
     |_,_=>False
    |_=>False
   |false=>False
  |none=>False
 |_,_=>False
theorem Da {P:Program} {xs:List Value} (h1:∀ y∈xs,y.oneCell'=true) {W:World} {b o:Nat} {arr:Array Value} {ty:TypeId} (hb:W.heap[b]? =some (.cells arr ty (0,0))) (hl:o+xs.length<=arr.size):
  (storeCells ⟨b,o,none⟩ xs).run P W= .ok () (W.setRow b (splice arr.toList o xs).toArray):=by
 have hs:=run_storeCells_at P b o ty xs 0 arr W hb (by simpa using hl) h1
 simp only[Nat.add_zero]at hs
 simpa [splice]using hs
theorem adG {σ:Sg} {E:EH} {kb:KB} {W:World} (hi:Inv σ E kb W) {i:Nat} {r:Re} {l l':List V} (hr:σ[i]? =some r) (hl:kb[i]? =some (.cells l)) {base m o:Nat} {cs ds:List D} (hp:je l base=some (.arr m cs))
  {xs:List Value} (hD:a_ E ds xs) (hle:o+ds.length<=m) (hl':jp l base [.arr m (splice cs o ds)]=some l'):
  ∃ arr ty,W.heap[r.blk]? =some (.cells arr ty (0,0))/\base+o+xs.length<=arr.size/\Step σ E kb W σ E (kb.set i (.cells l')) (W.setRow r.blk (splice arr.toList (base+o) xs).toArray):=by
 obtain⟨arr,ty,g1,g2⟩:=hi.obj i r _ hr hl
 obtain⟨ys,p1,p2,p3,p4⟩:=CR hp g2
 have hdl:=hD.len
 have jx:=p1.len
 have kB:(splice cs o ds).length=m:=by rw[mL (by omega),p2]
 obtain⟨g3,g4⟩:=uB hl' g2 (.cons (.inr ⟨m,_,rfl,kB,p1.splice hD o⟩) .nil)
 have he:splice arr.toList base (splice ys o xs++[])=splice arr.toList (base+o) xs:=by
  rw[fu,<- p4]
  exact T9 p3 (by omega)
 rw[he]at g3
 have hst:Step σ E kb W σ E (kb.set i (.cells l')) (W.setRow r.blk (splice arr.toList (base+o) xs).toArray):=
  Dh hi hr hl _ (fun b=>Iff.rfl) (fun b hb=>hb) ⟨_,ty,setRow_heap W r.blk arr _ ty (0,0) g1,by simpa using g3⟩
 simp only[Array.length_toList]at p3
 exact⟨arr,ty,g1,by omega,hst⟩
theorem X_ {P:Program} {t:TypeId} {d x:V} {kb:KB} {K:V->KB->Prop} (h:F0 P t d x kb K) {σ:Sg} {E:EH} {W:World} (hi:Inv σ E kb W) {a y:Value} (hd:Den σ E d a) (hy:Den σ E x y) (u ty:TypeId):
  ∃ v z kb' W',(Builtin.copy_ #[t,u] ty #[a,y]).run P W= .ok z W'/\Step σ E kb W σ E kb' W'/\Den σ E v z/\K v kb':=by
 unfold F0 at h
 split at h<;>try exact h.elim
 rename_i elem sz p xs ht hsrc
 split at h<;>try exact h.elim
 rename_i s hs
 split at h<;>try exact h.elim
 rename_i hfit
 split at h<;>try exact h.elim
 ·rename_i i lo hi'
  split at h<;>try exact h.elim
  rename_i ty' sz' l hl
  split at h<;>try exact h.elim
  rename_i hb
  have hsz:=cP hb
  subst hsz
  obtain⟨hp,hle,hK⟩:=h
  have hE:=uC hsrc hp hi hy hfit
  simp only[Den]at hd
  obtain⟨r,ad,hr,rfl,g1,g2,g3⟩:=hd
  obtain⟨ys,c1,_,c3⟩:=hE.first (P:=P) (min xs.length (hi' - lo)) (Nat.min_le_left _ _)
  have e0:xs.take (min xs.length (hi' - lo))=xs.take (hi' - lo):=by
   rw[Nat.min_comm]
   exact List.take_eq_take_min.symm
  rw[e0]at c3
  obtain⟨k1,k2,k3,k4,k5⟩:=hi.obj i r _ hr hl
  have H3:wl sz' (xs.take (hi' - lo)):=hE.1.take _
  have iE:(xs.take (hi' - lo)).length<=hi' - lo:=by simp;omega
  have hlen:=hE.lenOf (P:=P) W
  have hn:Nat.min xs.length (hi' - lo)=min xs.length (hi' - lo):=rfl
  by_cases hz:min xs.length (hi' - lo)=0
  ·have hnil:xs.take (hi' - lo)=[]:=by
    apply mq
    rw[dc];omega
   rw[hnil]at c3 hK
   simp only[List.flatten_nil,a_]at c3
   subst c3
   have hs0:splice l lo ([]:List (List D))=l:=by simp [splice]
   rw[hs0]at hK
   have dR:kb.set i (.row ty' sz' l)=kb:=by
    apply lB
    intro j
    by_cases hij:i=j
    ·subst hij
     rw[iz (bO.1 hl).1,hl]
    ·rw[gE hij]
   rw[dR]at hK
   refine⟨_,goInt ((min xs.length (hi' - lo):Nat):Int),kb,W,?_,Step.refl hi,?_,hK⟩
   ·unfold Builtin.copy_
    cases ad<;>simp [run_underlying ht,hlen,kh hs,hn,c1,storeCells]
   ·simp [Den,goInt]
  ·have hlc:lo<r.cap:=by omega
   rw[g3 hlc]
   have hfl:(splice l lo (xs.take (hi' - lo))).flatten=splice l.flatten (lo*sz') (xs.take (hi' - lo)).flatten:=OS k2 H3 (by omega)
   have gL:lo*sz'+(xs.take (hi' - lo)).flatten.length<=l.length*sz':=by
    rw[ph H3,<- Nat.add_mul]
    exact Nat.mul_le_mul_right _ (by omega)
   obtain⟨arr,q1,q2,q3⟩:=yX hi hr hl (o:=lo*sz') c3 (l':=splice l lo (xs.take (hi' - lo))) (mL (by omega)) (VK k2 H3 lo) hfl gL (by omega)
   refine⟨_,goInt ((min xs.length (hi' - lo):Nat):Int),_,_,?_,q3,?_,hK⟩
   ·unfold Builtin.copy_
    rw[k1]
    simp [run_underlying ht,hlen,kh hs,hn,c1,Da c3.one q1 q2]
   ·simp [Den,goInt]
 ·rename_i i base o s' n c
  split at h<;>try exact h.elim
  rename_i l hl hb
  have hs1:=cP hb
  subst hs1
  split at h<;>try exact h.elim
  rename_i m cs hpc
  split at h<;>try exact h.elim
  rename_i l' hl'
  obtain⟨hp,hle,hK⟩:=h
  have hE:=uC hsrc hp hi hy hfit
  simp only[Den]at hd
  obtain⟨r,ad,hr,rfl,g1,g3⟩:=hd
  obtain⟨ys,c1,_,c3⟩:=hE.first (P:=P) (min xs.length n) (Nat.min_le_left _ _)
  have e0:xs.take (min xs.length n)=xs.take n:=by
   rw[Nat.min_comm]
   exact List.take_eq_take_min.symm
  rw[e0]at c3
  have hfl:=ph (hE.1.take n)
  have iE:(xs.take n).length=min n xs.length:=by simp
  have hlen:=hE.lenOf (P:=P) W
  have hn:Nat.min xs.length n=min xs.length n:=rfl
  obtain⟨arr,Ve,q1,q2,q3⟩:=adG hi hr hl hpc c3 (by omega) hl'
  refine⟨_,goInt ((min xs.length n:Nat):Int),_,_,?_,q3,?_,hK⟩
  ·by_cases hc:0<c
   ·rw[g3 hc]
    unfold Builtin.copy_
    simp [run_underlying ht,hlen,kh hs,hn,c1,Da c3.one q1 q2]
   ·have hys:ys=[]:=mq (by rw[c3.len,hfl,iE];omega)
    subst hys
    have dR:W.setRow r.blk (splice arr.toList (base+o) ([]:List Value)).toArray=W:=by
     have:splice arr.toList (base+o) ([]:List Value)=arr.toList:=by simp [splice]
     rw[this]
     unfold World.setRow
     have hlt:=(Array.getElem?_eq_some_iff.1 q1).1
     simp only[Array.toArray_toList]
     congr 1
     apply Array.ext (by simp)
     intro j h1 h2
     simp only[Array.getElem_modify]
     split
     ·rename_i e;subst e
      have:=(Array.getElem?_eq_some_iff.1 q1).2
      rw[this]
     ·rfl
    rw[dR]
    unfold Builtin.copy_
    cases ad<;>simp [run_underlying ht,hlen,kh hs,hn,c1,storeCells]
  ·simp [Den,goInt]
 ·rename_i i ix o s' n c
  split at h<;>try exact h.elim
  rename_i ty' sz' l hl hb
  have hs1:=cP hb
  subst hs1
  obtain⟨hp,e,he,hle,hK⟩:=h
  have hE:=uC hsrc hp hi hy hfit
  simp only[Den]at hd
  obtain⟨r,ad,hr,rfl,g1,g3⟩:=hd
  obtain⟨ys,c1,_,c3⟩:=hE.first (P:=P) (min xs.length n) (Nat.min_le_left _ _)
  have e0:xs.take (min xs.length n)=xs.take n:=by
   rw[Nat.min_comm]
   exact List.take_eq_take_min.symm
  rw[e0]at c3
  have hfl:=ph (hE.1.take n)
  have iE:(xs.take n).length=min n xs.length:=by simp
  have hlen:=hE.lenOf (P:=P) W
  have hn:Nat.min xs.length n=min xs.length n:=rfl
  obtain⟨k1,k2,k3,k4,k5⟩:=hi.obj i r _ hr hl
  have ma:ix<l.length:=(bO.1 he).1
  have hm:(ix+1)*sz'<=l.length*sz':=Nat.mul_le_mul_right _ ma
  rw[Nat.succ_mul]at hm
  have sQ:=k2 e (gG he)
  obtain⟨arr,q1,q2,q3⟩:=yX hi hr hl (o:=ix*sz'+o) c3 (l':=l.set ix (splice e o (xs.take n).flatten)) (by simp) (k2.set ix (by rw[mL (by omega),sQ])) (OR k2 he (by omega)) (by omega) (by omega)
  refine⟨_,goInt ((min xs.length n:Nat):Int),_,_,?_,q3,?_,hK⟩
  ·by_cases hc:0<c
   ·rw[g3 hc,k1]
    unfold Builtin.copy_
    simp [run_underlying ht,hlen,kh hs,hn,c1,Da c3.one q1 q2]
   ·have hys:ys=[]:=mq (by rw[c3.len,hfl,iE];omega)
    subst hys
    have dR:W.setRow r.blk (splice arr.toList (ix*sz'+o) ([]:List Value)).toArray=W:=by
     have:splice arr.toList (ix*sz'+o) ([]:List Value)=arr.toList:=by simp [splice]
     rw[this]
     unfold World.setRow
     simp only[Array.toArray_toList]
     congr 1
     apply Array.ext (by simp)
     intro j h1 h2
     simp only[Array.getElem_modify]
     split
     ·rename_i e;subst e
      have:=(Array.getElem?_eq_some_iff.1 q1).2
      rw[this]
     ·rfl
    rw[dR]
    unfold Builtin.copy_
    cases ad<;>simp [run_underlying ht,hlen,kh hs,hn,c1,storeCells]
  ·simp [Den,goInt]
def lX:List CK->List Value->Option (List D)
 | [],[]=>some []
 | .arr m z::ks,cs=>match uz z m cs,z.oneCell' with
  |some r,true=>match lX ks r with | some us=>some (mw (dp m (.val z)) us) | none=>none
  |_,_=>none
 | .sl s::ks,c::cs=>match c with
  | .slice none 0 0=>match lX ks cs with | some us=>some (.sl s []::us) | none=>none
  |_=>none
 |_::ks,c::cs=>match c.oneCell' with
  |true=>match lX ks cs with | some us=>some (.val c::us) | none=>none
  |false=>none
 |_,_=>none
theorem zA (E:EH):∀{ks:List CK} {cs:List Value} {us:List D},lX ks cs=some us->a_ E us cs
 | [],[],us,h=>by simp [lX]at h;subst h;exact .nil
 | [],_:: _,us,h=>by simp [lX]at h
 |c::ks,cs,us,h=>by
  have single:∀{x:Value} {cs':List Value},cs=x::cs'->(match x.oneCell' with | true=>(match lX ks cs' with | some us=>some (.val x::us) | none=>none) | false=>none)=some us->a_ E us cs:=by
   rintro x cs' rfl h
   split at h<;>try (cases h;done)
   rename_i h1
   split at h<;>try (cases h;done)
   rename_i us' lJ
   cases h
   exact .cons (show bI E (.val x) x from⟨rfl,h1⟩) (zA E lJ)
  cases c with
  |arr m z=>
   simp only[lX]at h
   split at h<;>try (cases h;done)
   rename_i r hr h1
   split at h<;>try (cases h;done)
   rename_i us' lJ
   cases h
   rw[JR hr,MX]
   exact(a_.replicate (show bI E (.val z) z from⟨rfl,h1⟩) m).append (zA E lJ)
  |int k=>cases cs with | nil=>simp [lX]at h | cons v vs'=>exact single rfl (by simpa only[lX]using h)
  |bool=>cases cs with | nil=>simp [lX]at h | cons v vs'=>exact single rfl (by simpa only[lX]using h)
  |other=>cases cs with | nil=>simp [lX]at h | cons v vs'=>exact single rfl (by simpa only[lX]using h)
  |sl s=>
   cases cs with
   |nil=>simp [lX]at h
   |cons v vs'=>
    simp only[lX]at h
    split at h<;>try (cases h;done)
    split at h<;>try (cases h;done)
    rename_i us' lJ
    cases h
    exact .cons (by simp only[bI];exact⟨none,0,rfl,au _,.inl rfl⟩) (zA E lJ)
def D1 (P:Program) (e:TypeId):Option (List D):=
 match (P.info? e).bind (·.zero),mE P 20 e with
 |some z,some ks=>lX ks z.cells.toList
 |_,_=>none
theorem F3 (z:Array Value) (hz:0<z.size):∀ n,((Array.range (n*z.size)).map (z[·% z.size]!)).toList=(dp n z.toList).flatten
 | 0=>by simp
 |n+1=>by
  rw[List.replicate_succ',List.flatten_append,<- F3 z hz n]
  apply lB
  intro j
  simp only[Array.toList_map,Array.toList_range,List.getElem?_append,fH,cp,List.length_range,jt,List.flatten_nil,fu]
  rcases jF j (n*z.size)with h1 | h1
  ·rw[if_pos h1,List.getElem?_range (by rw[Nat.succ_mul];omega),List.getElem?_range h1]
  ·rw[if_neg (by omega)]
   rcases jF j ((n+1)*z.size)with h2 | h2
   ·rw[List.getElem?_range h2]
    rw[Nat.succ_mul]at h2
    have e:j % z.size=j - n*z.size:=by
     have:j=(j - n*z.size)+n*z.size:=by omega
     rw[this,Nat.add_mul_mod_self_right,Nat.mod_eq_of_lt (by omega)]
     omega
    simp only[Option.map_some]
    rw[e,Array.getElem?_toList,getElem!_pos z _ (by omega),Array.getElem?_eq_getElem (by omega)]
   ·rw[g_ (by simpa using h2)]
    rw[Nat.succ_mul]at h2
    rw[g_ (by simp;omega)]
    rfl
structure Room (n c:Int) (b:Nat):Prop where
 le:n<=c
 bytes:c*b<=140737488355328
 cap:c<=140737488355328
def Iz (P:Program) (t:TypeId) (len cap:V) (kb:KB) (K:V->KB->Prop):Prop:=
 match P.underlying t,numOf len,numOf cap with
 |some (.slice elem),some n,some c=>match P.info? elem,D1 P elem with
  |some i,some ds=>match cq ds.length i.size,Nat.ble 1 i.size with
   |true,true=>aM n/\Room n c i.bytes/\K (.sl kb.length 0 n.toNat) (kb++[.row elem i.size (dp n.toNat ds)])
   |_,_=>False
  |_,_=>False
 |_,_,_=>False
theorem VJ {ds:List D} {s:Nat} (h:ds.length=s) (n:Nat):wl s (dp n ds):=fun e he=>by rw[List.eq_of_mem_replicate he];exact h
theorem aeq {α:Type} (l:List α) {n c:Nat} (h:n<=c):((dp c l).flatten).take (n*l.length)=(dp n l).flatten:=by
 have e:c=n+(c - n):=by omega
 rw[e,<- List.replicate_append_replicate,List.flatten_append]
 have:(dp n l).flatten.length=n*l.length:=by simp
 rw[<- this,List.take_left]
theorem a_.JS {E:EH} {ds:List D} {xs:List Value} (h:a_ E ds xs):∀ n,a_ E (dp n ds).flatten (dp n xs).flatten
 | 0=> .nil
 |n+1=>by rw[List.replicate_succ,List.replicate_succ,jt,jt];exact h.append (h.JS n)
theorem abg {P:Program} {t:TypeId} {len cap:V} {kb:KB} {K:V->KB->Prop} (h:Iz P t len cap kb K) {σ:Sg} {E:EH} {W:World} (hi:Inv σ E kb W) {x y:Value} (hx:Den σ E len x) (hy:Den σ E cap y):
  ∃ v z σ' kb' W',(Instr.makeSlice t x y).run P W= .ok z W'/\Step σ E kb W σ' E kb' W'/\Den σ' E v z/\K v kb':=by
 unfold Iz at h
 split at h<;>try exact h.elim
 rename_i elem n c ht hn hc
 obtain⟨k1,rfl⟩:=uu hn hx
 obtain⟨k2,rfl⟩:=uu hc hy
 split at h<;>try exact h.elim
 rename_i i ds lI hz
 split at h<;>try exact h.elim
 rename_i gL gh
 have hdl:=cP gL
 have hs1:=Nat.le_of_ble_eq_true gh
 obtain⟨h0,⟨h1,h2,h3⟩,hK⟩:=h
 unfold aM at h0
 unfold D1 at hz
 split at hz<;>try (cases hz;done)
 rename_i z ks hz0 hks
 obtain⟨it,hit,nR⟩:=kW.1 hz0
 rw[lI]at hit;cases hit
 have hD:=zA E hz
 have hzl:z.cells.size=i.size:=by
  have:=hD.len
  simp only[Array.length_toList]at this
  omega
 have w1:γ.wrap n=n:=IntWalk.i64_in n (by omega)
 have w2:γ.wrap c=c:=IntWalk.i64_in c (by omega)
 have hb0:(0:Int)<=i.bytes:=by omega
 have hmul:(i.bytes:Int)*c=((c.toNat*i.bytes:Nat):Int):=by
  have:c=(c.toNat:Int):=by omega
  rw[this,Int.mul_comm]
  simp
 have hmn:c.toNat*i.bytes<=140737488355328:=by
  have:((c.toNat*i.bytes:Nat):Int)<=140737488355328:=by rw[<- hmul,Int.mul_comm];exact h2
  omega
 have aie:(if c.toNat*i.size=0 then(#[]:Array Value)else z.cells)=(if c.toNat*i.size=0 then #[]else z.cells):=rfl
 have Pt:∀(zz:Array Value),(zz=if c.toNat*i.size=0 then #[]else z.cells)->((Array.range (c.toNat*i.size)).map (zz[·% zz.size]!))=((Array.range (c.toNat*i.size)).map (z.cells[·% z.cells.size]!)):=by
  rintro zz rfl
  by_cases hz:c.toNat*i.size=0
  ·rw[hz];apply Array.ext';simp
  ·rw[if_neg hz]
 have hrun:(Instr.makeSlice t (.int k1 n) (.int k2 c)).run P W= .ok (.slice (some ⟨W.heap.size,0,none⟩) n.toNat c.toNat) (W.alloc (.cells ((Array.range (c.toNat*i.size)).map (z.cells[·% z.cells.size]!)) elem)):=by
  have t1:¬ (c<0):=by omega
  have t2:¬ ((i.bytes:Int)*c > 2 ^ 48):=by rw[hmul];omega
  have t3:¬ (n<0):=by omega
  have t4:¬ (n > c):=by omega
  have hroom:(askRoom (c.toNat*i.bytes)).run P W= .ok () W:=by
   unfold askRoom roomBytes
   rw[if_neg (by omega)]
   rfl
  have hai:∀(k:IntKind) (m:Int),(asInt (.int k m)).run P W= .ok m W:=fun k m=>rfl
  have hti:(typeInfo elem).run P W= .ok i W:=by simp [typeInfo,lI]
  have rA:(Go.sizeOf elem).run P W= .ok i.size W:=by simp [Go.sizeOf,typeInfo,lI]
  have ul:(zeroValue elem).run P W= .ok z W:=by simp [zeroValue,typeInfo,lI,nR]
  have Qd:∀ arr,(newRow elem arr).run P W= .ok ⟨W.heap.size,0,none⟩ (W.alloc (.cells arr elem)):=fun arr=>by simp [newRow]
  unfold Instr.makeSlice
  rw[Sem.run_bind,run_underlying ht,Result.andThen_ok]
  simp only[]
  rw[Sem.run_bind,hai,Result.andThen_ok,Sem.run_bind,hai,Result.andThen_ok,Sem.run_bind,hti,Result.andThen_ok]
  simp only[w1,w2]
  rw[if_neg (by simp only[t1,t2,t3,t4,decide_false,Bool.or_self,Bool.false_eq_true,not_false_eq_true]),Sem.run_bind,hroom,Result.andThen_ok,Sem.run_bind,rA,Result.andThen_ok]
  by_cases hz:c.toNat*i.size=0
  ·simp only[hz,if_true]
   rw[Sem.run_bind,Sem.run_pure,Result.andThen_ok,Sem.run_bind,Qd,Result.andThen_ok]
   have:=Pt #[] (by rw[if_pos hz])
   rw[hz]at this
   simp only[this]
   rfl
  ·simp only[hz,if_false]
   have:=Pt z.cells (by rw[if_neg hz])
   rw[Sem.run_bind,ul,Result.andThen_ok,Sem.run_bind,Sem.run_pure,Result.andThen_ok,Sem.run_bind,Qd,Result.andThen_ok]
   rfl
 have pu:c.toNat<=maxLen:=by unfold maxLen;omega
 have hfl:=F3 z.cells (by omega) c.toNat
 rw[hzl]at hfl
 refine⟨_,_,_,_,_,hrun,MS hi (l:=dp n.toNat ds) (cap:=c.toNat) (VJ hdl _) (by simp;omega) pu (by simp) ?_,?_,hK⟩
 ·rw[hzl,hfl,List.length_replicate]
  have aaz:z.cells.toList.length=i.size:=by simpa using hzl
  rw[<- aaz,aeq _ (by omega)]
  exact hD.JS _
 ·simp only[Den]
  exact⟨⟨W.heap.size,c.toNat,i.size⟩,_,by rw[<- hi.len];simp,rfl,by simp,by show n.toNat<=c.toNat;omega,by simp⟩
def FS (P:Program) (t:TypeId) (x:V) (kb:KB) (K:KB->Prop):Prop:=
 match P.underlying t with
 |some (.slice elem)=>match x with
  | .sl i lo hi=>match kb[i]?,D1 P elem with
   |some (.row ty sz l),some ds=>match cq ds.length sz with
    |true=>hi<=l.length/\K (kb.set i (.row ty sz (splice l lo (dp (hi - lo) ds))))
    |false=>False
   |_,_=>False
  |_=>False
 |some (.map _ _)=>match x with
  | .mp i=>match kb[i]? with
   |some (.mp ay aS agg sz l)=>K (kb.set i (.mp ay aS agg sz []))
   |_=>False
  |_=>False
 |_=>False
theorem QA {kb:KB} {i:Nat} {o:KO} (h:kb[i]? =some o):kb.set i o=kb:=by
 apply lB
 intro j
 by_cases hij:i=j
 ·subst hij
  rw[iz (bO.1 h).1,h]
 ·rw[gE hij]
theorem X2 {P:Program} {t:TypeId} {x:V} {kb:KB} {K:KB->Prop} (h:FS P t x kb K) {σ:Sg} {E:EH} {W:World} (hi:Inv σ E kb W) {a:Value} (hd:Den σ E x a) (ty:TypeId):
  ∃ kb' W',(Builtin.clear_ #[t] ty #[a]).run P W= .ok (.tuple #[]) W'/\Step σ E kb W σ E kb' W'/\K kb':=by
 unfold FS at h
 split at h<;>try exact h.elim
 ·rename_i elem ht
  split at h<;>try exact h.elim
  rename_i i lo hi'
  split at h<;>try exact h.elim
  rename_i ty' sz l ds hl hz
  split at h<;>try exact h.elim
  rename_i hb
  have hdl:=cP hb
  obtain⟨hle,hK⟩:=h
  unfold D1 at hz
  split at hz<;>try (cases hz;done)
  rename_i z ks hz0 hks
  obtain⟨it,hit,nR⟩:=kW.1 hz0
  have ul:(zeroValue elem).run P W= .ok z W:=by simp [zeroValue,typeInfo,hit,nR]
  have hD:=zA E hz
  simp only[Den]at hd
  obtain⟨r,ad,hr,rfl,g1,g2,g3⟩:=hd
  obtain⟨k1,k2,k3,k4,k5⟩:=hi.obj i r _ hr hl
  by_cases h0:hi' - lo=0
  ·have hs0:splice l lo (dp (hi' - lo) ds)=l:=by rw[h0];simp [splice]
   rw[hs0,QA hl]at hK
   refine⟨kb,W,?_,Step.refl hi,hK⟩
   unfold Builtin.clear_
   cases ad<;>simp [run_underlying ht,h0]
  ·have sN:=hD.JS (hi' - lo)
   have hzl:z.cells.size=sz:=by
    have:=hD.len
    simp only[Array.length_toList]at this
    omega
   by_cases hsz:sz=0
   ·have hds:ds=[]:=mq (by omega)
    have uk:z.cells=#[]:=Array.eq_empty_of_size_eq_zero (by omega)
    subst hds
    have hall:∀ e∈l,e=[]:=fun e he=>mq (by rw[k2 e he];omega)
    have hs0:splice l lo (dp (hi' - lo) [])=l:=by
     apply lB
     intro j
     rw[tW (by omega)]
     split
     ·rfl
     ·split
      ·rename_i c1 c2
       simp only[List.length_replicate]at c2
       have hj:j<l.length:=by omega
       rw[bz hj,hall _ (List.getElem_mem hj)]
       rw[List.getElem?_replicate,if_pos (by omega)]
      ·rfl
    rw[hs0,QA hl]at hK
    refine⟨kb,W,?_,Step.refl hi,hK⟩
    unfold Builtin.clear_
    obtain⟨n,hn⟩:∃ n,hi' - lo=n+1:=⟨hi' - lo - 1,by omega⟩
    rw[hn]
    cases ad<;>simp [run_underlying ht,ul,uk,Builtin.zeroCells,storeCells]
   have hrw:wl sz (dp (hi' - lo) ds):=VJ hdl _
   have hfl:(splice l lo (dp (hi' - lo) ds)).flatten=splice l.flatten (lo*sz) (dp (hi' - lo) ds).flatten:=OS k2 hrw (by simp;omega)
   obtain⟨arr,q1,q2,q3⟩:=yX hi hr hl (o:=lo*sz) sN (l':=splice l lo (dp (hi' - lo) ds)) (mL (by simp;omega)) (VK k2 hrw lo) hfl (by rw[ph hrw,<- Nat.add_mul];exact Nat.mul_le_mul_right _ (by simp;omega)) (by omega)
   refine⟨_,_,?_,q3,hK⟩
   have PC:=F3 z.cells (by omega) (hi' - lo)
   have hst:=Da (P:=P) sN.one q1 q2
   rw[g3 (by omega),k1]
   unfold Builtin.clear_
   obtain⟨n,hn⟩:∃ n,hi' - lo=n+1:=⟨hi' - lo - 1,by omega⟩
   rw[hn]at PC hst ⊢
   have uk:(Builtin.zeroCells z.cells (n+1)).toList=(dp (n+1) z.cells.toList).flatten:=PC
   simp [run_underlying ht,ul,uk,hst]
 ·rename_i kt et ht
  split at h<;>try exact h.elim
  rename_i i
  split at h<;>try exact h.elim
  rename_i ay aS agg sz l hl
  simp only[Den]at hd
  obtain⟨r,hr,rfl⟩:=hd
  obtain⟨hw,es,ck,g1,g2,g3⟩:=hi.obj i r _ hr hl
  have eJ:(getObj r.blk).run P W= .ok (.map es ck) W:=by simp [getObj,Sem.run,g1]
  have rA:∀ o,(setObj r.blk o).run P W= .ok () {W with heap:=W.heap.setIfInBounds r.blk o }:=fun o=>by simp [setObj,Sem.run,g1]
  have hlt:r.blk<W.heap.size:=(Array.getElem?_eq_some_iff.1 g1).1
  refine⟨_,{W with heap:=W.heap.setIfInBounds r.blk (.map #[] ck) },?_,hi.set (o':=.mp ay aS agg sz []) hr hl rfl rfl rfl (by simp) (fun b hb=>?_) (fun b hb=>hb) ⟨wl.nil,#[],ck,?_,by simp [cx],⟨by simp,by simp⟩⟩,h⟩
  ·unfold Builtin.clear_
   simp [run_underlying ht,eJ,rA]
  ·simp only[owned]at hb
   show(W.heap.setIfInBounds r.blk _)[b]? =_
   rw[Array.getElem?_setIfInBounds_ne (fun e=>hb e.symm)]
  ·show(W.heap.setIfInBounds r.blk _)[r.blk]? =_
   simp [hlt]
def FD (s:ByteArray):List (List D):=s.data.toList.map fun b=>[.val (.int ν b.toNat)]
def Kz (P:Program) (src dst:TypeId) (x:V) (kb:KB) (K:V->KB->Prop):Prop:=
 match P.underlying src,P.underlying dst,x with
 |some .string,some (.slice elem),.any (.string s)=>match P.underlying elem with
  |some (.int ν)=>K (.dat (.sl 1 (FD s))) kb
  |_=>False
 |some (.slice _),some (.slice elem),.sl i lo hi=>match cq src dst,P.underlying elem,kb[i]? with
  |true,some (.int ν),some (.row _ 1 l)=>lo<hi/\hi<=l.length/\K (.dat (.sl 1 ((l.take hi).drop lo))) (kb.set i .dead)
  |_,_,_=>False
 |_,_,_=>False
theorem NV (E:EH):∀(l:List UInt8),a_ E (l.map fun b=>[D.val (.int ν b.toNat)]).flatten (l.map fun b=>φ ν b.toNat)
 | []=> .nil
 |b::l=>by
  rw[lY,jt,lY,List.singleton_append]
  exact .cons (show bI E (.val _) _ from⟨rfl,rfl⟩) (NV E l)
theorem afp {P:Program} {src dst:TypeId} {x:V} {kb:KB} {K:V->KB->Prop} (h:Kz P src dst x kb K) {σ:Sg} {E:EH} {W:World} (hi:Inv σ E kb W) {y:Value} (hd:Den σ E x y):
  ∃ v z E' kb' W',(convert src dst y).run P W= .ok z W'/\Step σ E kb W σ E' kb' W'/\Den σ E' v z/\K v kb':=by
 unfold Kz at h
 split at h<;>try exact h.elim
 rotate_left
 ·rename_i e1 elem i lo hi' h1 h2
  split at h<;>try exact h.elim
  rename_i ty l hb h3 hk
  obtain⟨hlt,hle,hK⟩:=h
  have hsd:=cP hb
  subst hsd
  simp only[Den]at hd
  obtain⟨r,a,hr,rfl,g1,g2,g3⟩:=hd
  have hc:r.cap≠0:=by omega
  have ha:=g3 (by omega)
  subst ha
  obtain⟨E',arr,k1,k2,k3⟩:=hi.Za hr hk hc
  have lK:=(hi.obj i r _ hr hk).2.1
  have hsz:=(hi.obj i r _ hr hk).1
  have hm:(markStringish ⟨r.blk,lo*r.sz,none⟩).run P W= .ok () (W.freeze ⟨r.blk,arr.size,none⟩ 1):=by
   have hsh:W.shape? r.blk=some (ty,arr.size):=by unfold World.shape?;rw[k1]
   unfold markStringish
   rw[Sem.run_bind,show(shape r.blk).run P W= .ok (some (ty,arr.size)) W by rw[<- hsh];rfl,Result.andThen_ok]
   rfl
  have gL:r.blk<W.heap.size:=(Array.getElem?_eq_some_iff.1 k1).1
  have gh:W.heap[r.blk]=Obj.cells arr ty (0,0):=(Array.getElem?_eq_some_iff.1 k1).2
  refine⟨_,.slice (some ⟨r.blk,lo*r.sz,none⟩) (hi' - lo) (r.cap - lo),E',_,W.freeze ⟨r.blk,arr.size,none⟩ 1,?_,k2 _ rfl rfl rfl (by simp [World.freeze]) ?_ (fun k aah=>?_),?_,hK⟩
  ·unfold convert
   rw[Sem.run_bind,run_underlying h1,Result.andThen_ok,Sem.run_bind,run_underlying h2,Result.andThen_ok]
   simp only[]
   rw[Sem.run_bind,run_underlying h3,Result.andThen_ok]
   simp only[beq_self_eq_true]
   rw[Sem.run_bind,hm,Result.andThen_ok]
   rfl
  ·simp [World.freeze,Array.getElem?_modify,k1]
  ·simp [World.freeze,Array.getElem?_modify,show ¬ r.blk=k from fun e=>aah e.symm]
  ·simp only[Den]
   exact Tx hsz lK (by omega) hle (hi.obj i r _ hr hk).2.2.1 (fun _=>rfl) (fun _=>k3)
 rename_i elem s h1 h2
 split at h<;>try exact h.elim
 rename_i h3
 simp only[Den]at hd
 subst hd
 have hge:=grownCap_ge W s.size 0 elem
 obtain⟨cap,hcap⟩:∃ cap,grownCap W s.size 0 elem=cap:=⟨_,rfl⟩
 rw[hcap]at hge
 let arr:Array Value:=(s.data.map fun b=>φ ν b.toNat)++Array.replicate (cap - s.size) (.int ν 0)
 have ZX:(choose (.appendCap s.size 0 elem)).run P W= .ok cap W.drew:=by
  rw[<- hcap]
  rfl
 have hW:((W.drew.alloc (.cells arr elem)).freeze ⟨W.heap.size,arr.size,none⟩ 1)=W.drew.alloc (.cells arr elem (arr.size,arr.size+1)):=by
  unfold World.freeze World.alloc
  simp only[Nat.one_ne_zero,if_false]
  congr 1
  show(W.heap.push (Obj.cells arr elem)).modify W.heap.size _=W.heap.push _
  apply Array.ext (by simp)
  intro j h1 h2
  simp only[Array.getElem_modify,Array.getElem_push]
  by_cases hj:j<W.heap.size
  ·simp [hj,show ¬ W.heap.size=j by omega]
  ·have:W.heap.size=j:=by simp at h1;omega
   simp [this]
 have hrun:(convert src dst (.string s)).run P W= .ok (.slice (some ⟨W.heap.size,0,none⟩) s.size cap) (W.drew.alloc (.cells arr elem (arr.size,arr.size+1))):=by
  unfold convert
  rw[Sem.run_bind,run_underlying h1,Result.andThen_ok,Sem.run_bind,run_underlying h2,Result.andThen_ok]
  simp only[]
  rw[Sem.run_bind,run_underlying h3,Result.andThen_ok]
  simp only[]
  unfold Conv.stringToBytes
  rw[Sem.run_bind,ZX,Result.andThen_ok]
  simp only[]
  rw[Sem.run_bind,show(newRow elem ((s.data.map fun b=>φ ν b.toNat)++Array.replicate (cap - s.size) (.int ν 0))).run P W.drew= .ok ⟨W.heap.size,0,none⟩ (W.drew.alloc (.cells arr elem)) by simp [newRow];rfl,Result.andThen_ok]
  have hsh:(W.drew.alloc (.cells arr elem)).shape? W.heap.size=some (elem,arr.size):=by
   unfold World.shape?
   have:(W.drew.alloc (.cells arr elem)).heap[W.heap.size]? =some (.cells arr elem):=by
    show(W.heap.push _)[W.heap.size]? =_
    simp
   rw[this]
  have hm:(markStringish ⟨W.heap.size,0,none⟩).run P (W.drew.alloc (.cells arr elem))= .ok () (W.drew.alloc (.cells arr elem (arr.size,arr.size+1))):=by
   rw[<- hW]
   unfold markStringish
   rw[Sem.run_bind,show(shape W.heap.size).run P (W.drew.alloc (.cells arr elem))= .ok (some (elem,arr.size)) (W.drew.alloc (.cells arr elem)) by rw[<- hsh];rfl,Result.andThen_ok]
   rfl
  rw[Sem.run_bind,hm,Result.andThen_ok]
  rfl
 have hst:=(Inv.drew hi).trans ((Inv.drew hi).inv.Zl (.cells arr elem (arr.size,arr.size+1)))
 refine⟨_,_,_,_,_,hrun,hst,?_,h⟩
 simp only[Den,bI]
 have hl:(FD s).length=s.size:=by simp [FD]
 refine⟨_,cap,by rw[hl],by rw[hl];exact hge,.inr ⟨W.heap.size,0,rfl,fh.of_flat (fun e he=>?_) ?_⟩⟩
 ·obtain⟨b,_,rfl⟩:=ef.1 he;rfl
 ·refine(NV _ s.data.toList).rep fun j v hj=>?_
  unfold EH.cell
  simp only[show W.drew.heap.size=W.heap.size from rfl,if_true,cQ]
  show arr[j]? =some v
  have hlt:=(bO.1 hj).1
  simp only[cp,Array.length_toList]at hlt
  simp only[arr]
  rw[Array.getElem?_append_left (by simpa using hlt)]
  simpa using hj
def Fj (P:Program) (t:TypeId) (x:V) (kb:KB) (K:V->Prop):Prop:=
 match P.underlying t with
 |some (.array (n+1) elem)=>match x with
  | .sl i lo hi=>n+1<=hi - lo/\K (.pw i lo)
  | .dat (.sl _ l)=>n+1<=l.length/\K (.cF l.flatten 0)
  | .sa i base o _ m _=>n+1<=m/\K (.pa i base o)
  | .se i ix o _ m _=>n+1<=m/\K (.pe i ix o)
  |_=>False
 |_=>False
theorem Xh {P:Program} {t:TypeId} {x:V} {kb:KB} {K:V->Prop} (h:Fj P t x kb K) {σ:Sg} {E:EH} {a:Value} (hd:Den σ E x a):
  ∃ v z,(∀ W,(Instr.arrayAt t a).run P W= .ok z W)/\Den σ E v z/\K v:=by
 unfold Fj at h
 split at h<;>try exact h.elim
 rename_i n elem ht
 have run:∀{ad:Option Addr} {len cap:Nat},n+1<=len->∀ W,(Instr.arrayAt t (.slice ad len cap)).run P W= .ok (.pointer ad) W:=fun hl W=>by
  unfold Instr.arrayAt
  rw[Sem.run_bind,run_underlying ht,Result.andThen_ok]
  simp only[]
  rw[if_neg (by omega)]
  rfl
 split at h<;>try exact h.elim
 ·obtain⟨hle,hK⟩:=h
  simp only[Den]at hd
  obtain⟨r,ad,hr,rfl,g1,g2,g3⟩:=hd
  exact⟨_,_,run hle,by simp only[Den];exact⟨r,hr,by rw[g3 (by omega)]⟩,hK⟩
 ·rename_i sz l
  obtain⟨hle,hK⟩:=h
  simp only[Den,bI]at hd
  obtain⟨ad,cap,rfl,hcap,fl⟩:=hd
  rcases fl with fl | ⟨b,off,rfl,fl⟩
  ·omega
  exact⟨_,_,run hle,by simp only[Den];exact⟨b,off,rfl,fl.flat⟩,hK⟩
 ·obtain⟨hle,hK⟩:=h
  simp only[Den]at hd
  obtain⟨r,ad,hr,rfl,g1,g3⟩:=hd
  exact⟨_,_,run hle,by simp only[Den];exact⟨r,hr,by rw[g3 (by omega)]⟩,hK⟩
 ·obtain⟨hle,hK⟩:=h
  simp only[Den]at hd
  obtain⟨r,ad,hr,rfl,g1,g3⟩:=hd
  exact⟨_,_,run hle,by simp only[Den];exact⟨r,hr,by rw[g3 (by omega)]⟩,hK⟩
structure EH.lG (E E':EH):Prop where
 c:∀ b o v,E.cell b o=some v->E'.cell b o=some v
 m:∀ b es ck,E b=some (.map es ck)->E' b=some (.map es ck)
theorem EH.lG.cell {E E':EH} (h:E.lG E') {b o:Nat} {v:Value} (hc:E.cell b o=some v):E'.cell b o=some v:=h.c b o v hc
mutual
theorem bI.du {E E':EH} (h:E.lG E'):∀{d:D} {v:Value},bI E d v->bI E' d v
 | .val _,_,hr=>by simpa [bI]using hr
 | .sl sz l,x,hr=>by
  simp only[bI]at hr ⊢
  obtain⟨a,cap,h1,h2,h3⟩:=hr
  exact⟨a,cap,h1,h2,h3.elim .inl (fun⟨b,off,e,r⟩=> .inr ⟨b,off,e,fh.du h r⟩)⟩
theorem dh.du {E E':EH} (h:E.lG E'):∀{cs:List D} {b off:Nat},dh E cs b off->dh E' cs b off
 | [],_,_,_=>by simp [dh]
 |c::cs,b,off,hr=>by
  simp only[dh]at hr ⊢
  obtain⟨⟨v,h1,h2⟩,h3⟩:=hr
  exact⟨⟨v,h.cell h1,bI.du h h2⟩,dh.du h h3⟩
theorem fh.du {E E':EH} (h:E.lG E'):∀{sz:Nat} {l:List (List D)} {b off:Nat},fh E sz l b off->fh E' sz l b off
 |_,[],_,_,_=>by simp [fh]
 |sz,e::l,b,off,hr=>by
  simp only[fh]at hr ⊢
  exact⟨⟨hr.1.1,dh.du h hr.1.2⟩,fh.du h hr.2⟩
end
theorem a_.du {E E':EH} (hE:E.lG E'):∀{ds:List D} {xs:List Value},a_ E ds xs->a_ E' ds xs
 | [],_,h=>by simpa only[a_]using h
 |d::ds,_,h=>by simp only[a_]at h ⊢;obtain⟨x,xs',h0,h1,h2⟩:=h;exact⟨x,xs',h0,h1.du hE,h2.du hE⟩
theorem cx.du {E E':EH} (hE:E.lG E') {ay:List IntKind} {aS agg:Bool}:∀{es:List MapEntry} {l:List (List Int×List D)},cx E ay aS agg es l->cx E' ay aS agg es l
 | [],_,h=>by simpa only[cx]using h
 |e::es,_,h=>by
  simp only[cx]at h ⊢
  obtain⟨k,c,l',h0,⟨h1,h1',ys,h2,h3⟩,h4⟩:=h
  exact⟨k,c,l',h0,⟨h1,h1',ys,h2,h3.du hE⟩,h4.du hE⟩
theorem sr.du {E E':EH} (hE:E.lG E') {ay:List IntKind} {aS agg:Bool} {sz:Nat} {a:Option Nat} {l:List (List Int×List D)} (h:sr E ay aS agg sz a l):sr E' ay aS agg sz a l:=by
 cases a with
 |none=>exact h
 |some b=>
  obtain⟨h1,es,clock,h2,h3,h4⟩:=h
  exact⟨h1,es,clock,hE.m _ _ _ h2,h3.du hE,h4⟩
mutual
theorem Den.du {σ τ:Sg} {E E':EH} (h:E.lG E'):∀{v:V} {x:Value},Den σ E v x->Den (σ++τ) E' v x
 | .any _,_,hd | .int ..,_,hd | .lit ..,_,hd | .sb _,_,hd | .tt,_,hd | .ff,_,hd | .e0,_,hd=>by simpa [Den]using hd
 | .arr ..,_,hd=>by simp only[Den]at hd
 | .ptr i off,_,hd=>by simp only[Den]at hd ⊢;obtain⟨r,h1,h2⟩:=hd;exact⟨r,gA h1,h2⟩
 | .pa i base o,_,hd=>by simp only[Den]at hd ⊢;obtain⟨r,h1,h2⟩:=hd;exact⟨r,gA h1,h2⟩
 | .mp i,_,hd=>by simp only[Den]at hd ⊢;obtain⟨r,h1,h2⟩:=hd;exact⟨r,gA h1,h2⟩
 | .ch i,_,hd=>by simp only[Den]at hd ⊢;obtain⟨r,h1,h2⟩:=hd;exact⟨r,gA h1,h2⟩
 | .sl i lo hi,_,hd=>by simp only[Den]at hd ⊢;obtain⟨r,a,h1,h2⟩:=hd;exact⟨r,a,gA h1,h2⟩
 | .sa ..,_,hd=>by simp only[Den]at hd ⊢;obtain⟨r,a,h1,h2⟩:=hd;exact⟨r,a,gA h1,h2⟩
 | .se ..,_,hd=>by simp only[Den]at hd ⊢;obtain⟨r,a,h1,h2⟩:=hd;exact⟨r,a,gA h1,h2⟩
 | .pe i ix br,_,hd=>by simp only[Den]at hd ⊢;obtain⟨r,h1,h2⟩:=hd;exact⟨r,gA h1,h2⟩
 | .pw i ix,_,hd=>by simp only[Den]at hd ⊢;obtain⟨r,h1,h2⟩:=hd;exact⟨r,gA h1,h2⟩
 | .cF e br,_,hd=>by simp only[Den]at hd ⊢;obtain⟨b,off,h1,h2⟩:=hd;exact⟨b,off,h1,dh.du h h2⟩
 | .af o,_,hd=>by simp only[Den]at hd ⊢;exact hd.elim .inl fun⟨e,b,h1,h2,h3⟩=> .inr ⟨e,b,h1,h2,dh.du h h3⟩
 | .imp ..,_,hd=>by simp only[Den]at hd ⊢;obtain⟨a,h1,h2⟩:=hd;exact⟨a,h1,h2.du h⟩
 | .dat d,_,hd=>by simp only[Den]at hd ⊢;exact bI.du h hd
 | .agg l,_,hd=>by simp only[Den]at hd ⊢;obtain⟨vs,h1,h2⟩:=hd;exact⟨vs,h1,aT.du h h2⟩
 | .χ l,_,hd=>by simp only[Den]at hd ⊢;obtain⟨vs,h1,h2⟩:=hd;exact⟨vs,h1,aq.du h h2⟩
 | .fn f cap,_,hd=>by simp only[Den]at hd ⊢;obtain⟨vs,h1,h2⟩:=hd;exact⟨vs,h1,aq.du h h2⟩
theorem aq.du {σ τ:Sg} {E E':EH} (h:E.lG E'):∀{vs:List V} {xs:List Value},aq σ E vs xs->aq (σ++τ) E' vs xs
 | [],_,hd=>by simpa [aq]using hd
 |v::vs,_,hd=>by
  simp only[aq]at hd ⊢
  obtain⟨x,xs',h1,h2,h3⟩:=hd
  exact⟨x,xs',h1,Den.du h h2,aq.du h h3⟩
theorem aT.du {σ τ:Sg} {E E':EH} (h:E.lG E'):∀{vs:List V} {xs:List Value},aT σ E vs xs->aT (σ++τ) E' vs xs
 | [],_,hd=>by simpa [aT]using hd
 |v::vs,_,hd=>by
  simp only[aT]at hd ⊢
  obtain⟨ys,zs,h1,h2,h3⟩:=hd
  refine⟨ys,zs,h1,?_,aT.du h h3⟩
  rcases h2 with ⟨y,e,o,hy⟩ | ⟨m,cs,e,hl,hd⟩
  ·exact .inl ⟨y,e,o,Den.du h hy⟩
  ·exact .inr ⟨m,cs,e,hl,hd.du h⟩
end
theorem fF.du {E E':EH} (hE:E.lG E') {agg:Bool}:∀{vs:List Value} {l:List (List D)},fF E agg vs l->fF E' agg vs l
 | [],_,h=>by simpa only[fF]using h
 |v::vs,_,h=>by
  simp only[fF]at h ⊢
  obtain⟨c,l',h0,⟨ys,h1,h2⟩,h3⟩:=h
  exact⟨c,l',h0,⟨ys,h1,h2.du hE⟩,h3.du hE⟩
theorem gD.du {σ τ:Sg} {E E':EH} {W W':World} (hE:E.lG E') {r:Re} {o:KO} (h:gD σ E W r o) (hb:∀ b,nU r o b->W'.heap[b]? =W.heap[b]?):gD (σ++τ) E' W' r o:=by
 cases o with
 |cells l=>
  obtain⟨arr,ty,h1,h2⟩:=h
  exact⟨arr,ty,by rw[hb r.blk rfl];exact h1,aT.du hE h2⟩
 |row ty sz l=>
  obtain⟨h0,h1,h2,h3,h4⟩:=h
  refine⟨h0,h1,h2,h3,?_⟩
  rcases h4 with h4 | ⟨arr,h4,h5⟩
  ·exact .inl h4
  ·by_cases hc:r.cap=0
   ·exact .inl hc
   ·exact .inr ⟨arr,by rw[hb r.blk ⟨hc,rfl⟩];exact h4,h5.1,h5.2.du hE⟩
 |mp ay aS agg sz l=>
  obtain⟨h0,es,ck,h1,h2,h3⟩:=h
  exact⟨h0,es,ck,by rw[hb r.blk rfl];exact h1,h2.du hE,h3⟩
 |ch agg sz cap l=>
  obtain⟨h0,x6,bf,s,rr,h1,h2⟩:=h
  exact⟨h0,x6,bf,s,rr,by rw[hb r.blk rfl];exact h1,h2.du hE⟩
 |objs A=>exact h.elim
 |jd a=>exact h.elim
 |dead=>trivial
theorem gp.du {σ τ:Sg} {E E':EH} {W W':World} (hE:E.lG E') {r:Re} {o:KO} (h:gp σ E W r o) (hb:∀ b,owned r o b->W'.heap[b]? =W.heap[b]?):gp (σ++τ) E' W' r o:=by
 cases o with
 |objs A=>
  refine⟨fun a ha=>⟨(h.ok a ha).len,fun i r o h1 h2=>?_,(h.ok a ha).dA⟩,h.dA⟩
  have:=((h.ok a ha).obj i r o h1 h2).du (τ:=[]) (W':=W') hE (fun b h3=>hb b ⟨a,ha,i,r,o,h1,h2,h3⟩)
  simpa using this
 |jd a=>
  refine⟨⟨h.1.len,fun i r o h1 h2=>?_,h.1.dA⟩,h.2⟩
  have:=(h.1.obj i r o h1 h2).du (τ:=[]) (W':=W') hE (fun b h3=>hb b ⟨i,r,o,h1,h2,h3⟩)
  simpa using this
 |cells l=>exact gD.du (σ:=σ) (τ:=τ) (o:=.cells l) hE h hb
 |row ty sz l=>exact gD.du (σ:=σ) (τ:=τ) (o:=.row ty sz l) hE h hb
 |mp ay aS agg sz l=>exact gD.du (σ:=σ) (τ:=τ) (o:=.mp ay aS agg sz l) hE h hb
 |ch agg sz cap l=>exact gD.du (σ:=σ) (τ:=τ) (o:=.ch agg sz cap l) hE h hb
 |dead=>trivial
def EH.strip (E:EH):EH:=fun b=>match E b with
 |some (.cells c t i)=>some (.cells c t i)
 |some (.map es ck)=>some (.map es ck)
 |_=>none
theorem EH.Du {E:EH} {b:Nat} {o:Obj} (h:E.strip b=some o):E b=some o:=by
 unfold EH.strip at h
 split at h
 ·rename_i c t i e;rw[e];exact h
 ·rename_i es ck e;rw[e];exact h
 ·cases h
theorem EH.wC (E:EH):E.lG E.strip:=by
 refine⟨?_,fun b es ck h=>by unfold EH.strip;rw[h]⟩
 intro b o v h
 unfold EH.cell EH.strip at*
 cases e:E b with
 |none=>rw[e]at h;cases h
 |some x=>
  rw[e]at h
  cases x<;>first | exact h | (simp only at h;cases h)
theorem EH.KA {E:EH} {b:Nat} {l:Option (List Deferred)}:E.strip b≠some (.deferred l):=by
 unfold EH.strip
 intro h
 split at h
 ·cases h
 ·cases h
 ·cases h
structure oz (E:EH) (ds:List Deferred):Prop where
 all:∀ d∈ds,∃ b,d={target:=.collected b,args:=#[] }/\E b=some (.deferred (some []))
 nodup:ds.Pairwise (·≠·)
theorem oz.nil (E:EH):oz E []:=⟨by simp,.nil⟩
theorem oz.mono {E E':EH} {ds:List Deferred} (h:oz E ds) (hE:E.le E'):oz E' ds:=
 ⟨fun d hd=>let ⟨b,h1,h2⟩:=h.all d hd;⟨b,h1,hE b _ h2⟩,h.nodup⟩
theorem Ik {P:Program} {fn:Func} {tmps:Array Value} {R:Ending->World->Prop}:∀(ds:List Deferred) (W:World),ds.Pairwise (·≠·)->
  (∀ d∈ds,∃ b,d={target:=.collected b,args:=#[] }/\W.heap[b]? =some (.deferred (some [])))->
  (∀ W',W'.os=W.os->W'.tape=W.tape->W'.output=W.output->W'.heap.size=W.heap.size->(∀ b,(∀ d∈ds,d≠{target:=.collected b,args:=#[] })->W'.heap[b]? =W.heap[b]?)->
   ∃ v,(results fn tmps).run P W'= .ok v W'/\R (.returned v) W')->
  LeavesInM Fence.wide 0 P fn tmps R ds .returning W
 | [],W,_,_,h=>by
  obtain⟨v,h1,h2⟩:=h W rfl rfl rfl rfl (fun _ _=>rfl)
  exact⟨v,h1,h2⟩
 |d::ds,W,hn,hd,h=>by
  obtain⟨b,rfl,hb⟩:=hd d (iB ..)
  have hn':=List.pairwise_cons.1 hn
  refine⟨by simp,.inl ⟨b,_,rfl,run_takeDeferred hb,Ik ds _ hn'.2 (fun d hd'=>?_) (fun W' e1 e2 e3 e4 e5=>?_)⟩⟩
  ·obtain⟨b',rfl,hb'⟩:=hd d (f_ _ hd')
   refine⟨b',rfl,?_⟩
   rw[World.putObj_heap_other]
   ·exact hb'
   ·intro e;subst e;exact hn'.1 _ hd' rfl
  ·refine h W' (e1.trans rfl) (e2.trans rfl) (e3.trans rfl) (e4.trans World.putObj_size) (fun b' hb'=>?_)
   rw[e5 b' (fun d hd'=>hb' d (f_ _ hd'))]
   rw[World.putObj_heap_other]
   intro e;subst e
   exact hb' _ (iB ..) rfl
theorem Step.Vg {σ:Sg} {E:EH} {kb:KB} {W:World} (hi:Inv σ E kb W) {σ':Sg} {E':EH} {kb':KB} {W':World} (h:Step σ E.strip kb W σ' E' kb' W') {W2:World}
  (e1:W2.os=W'.os) (e2:W2.tape=W'.tape) (e3:W2.output=W'.output) (e4:W2.heap.size=W'.heap.size) {M:Nat->Prop} (hM:∀ b,M b->E' b=some (.deferred (some []))) (e5:∀ b,¬ M b->W2.heap[b]? =W'.heap[b]?):
  ∃ E2,Step σ E kb W σ' E2 kb' W2/\E'.lG E2:=by
 have BA:∀ b x,E b=some x->W'.heap[b]? =some x:=fun b x hx=>by
  have h1:=hi.dj b x hx
  rw[h.bM.block b (Array.getElem?_eq_some_iff.1 h1).1 (fun ho=>by have:=hi.sep b ho;rw[hx]at this;cases this)]
  exact h1
 have ZH:∀ b,M b->E b=none:=fun b hb=>by
  have h0:=hM b hb
  cases hE:E b with
  |none=>rfl
  |some x=>
   exfalso
   have h2:=h.inv.dj b _ h0
   have h3:=BA b x hE
   rw[h2]at h3
   rcases h.new b _ h0 with h1 | h1 | h1
   ·exact EH.KA h1
   ·have:=hi.sep b h1;rw[hE]at this;cases this
   ·have:=(Array.getElem?_eq_some_iff.1 (hi.dj b x hE)).1;omega
 have ZI:∀ b,M b->¬ ct σ kb b->W.heap.size<=b:=fun b hb hno=>by
  rcases h.new b _ (hM b hb)with h1 | h1 | h1
  ·exact(EH.KA h1).elim
  ·exact(hno h1).elim
  ·exact h1
 let E2:EH:=fun b=>match E b with | some x=>some x | none=>E'.strip b
 have vH:∀ b x,E2 b=some x->E b=some x∨(E b=none/\E'.strip b=some x):=by
  intro b x hx
  simp only[E2]at hx
  split at hx
  ·rename_i y hy;rw[hy];exact .inl hx
  ·rename_i hy;exact .inr ⟨hy,hx⟩
 have hc:E'.lG E2:=by
  refine⟨?_,fun b es ck hm=>?_⟩
  rotate_left
  ·simp only[E2]
   cases hE:E b with
   |none=>exact E'.wC.m b es ck hm
   |some x=>
    have h3:=BA b x hE
    have h2:=h.inv.dj b _ hm
    rw[h3]at h2
    exact h2
  intro b o v hv
  have hv':=E'.wC.c b o v hv
  unfold EH.cell at hv ⊢
  simp only[E2]
  cases hE:E b with
  |none=>exact hv'
  |some x=>
   have h3:=BA b x hE
   cases x7:E' b with
   |none=>rw[x7]at hv;cases hv
   |some y=>
    have h2:=h.inv.dj b y x7
    rw[h3]at h2
    cases h2
    rw[x7]at hv
    exact hv
 have aau:∀ b,ct σ' kb' b->¬ M b:=fun b hb hm=>by have:=h.inv.sep b hb;rw[hM b hm]at this;cases this
 refine⟨E2,⟨⟨h.inv.len,fun i r o h1 h2=>?_,h.inv.dA,fun b x hx=>?_,fun b hb=>?_⟩,⟨e1.trans h.bM.os,e2.trans h.bM.tape,e3.trans h.bM.output,by rw[e4];exact h.bM.size,fun b hb hno=>?_⟩,h.pre,fun b x hx=>?_,h.own,fun b x hx=>?_⟩,hc⟩
 ·have:=(h.inv.obj i r o h1 h2).du (τ:=[]) (W':=W2) hc (fun b hb=>e5 b (aau b ⟨i,r,o,h1,h2,hb⟩))
  simpa using this
 ·rcases vH b x hx with hx | ⟨_,hx⟩
  ·rw[e5 b (fun hm=>by rw[ZH b hm]at hx;cases hx)]
   exact BA b x hx
  ·have hx':=EH.Du hx
   rw[e5 b (fun hm=>by rw[hM b hm]at hx';cases hx';exact EH.KA hx)]
   exact h.inv.dj b x hx'
 ·have h1:=h.inv.sep b hb
  have h2:E b=none:=by
   rcases h.own b hb with h2 | h2
   ·exact hi.sep b h2
   ·cases hE:E b with
    |none=>rfl
    |some x=>have:=(Array.getElem?_eq_some_iff.1 (hi.dj b x hE)).1;omega
  simp only[E2,h2,EH.strip,h1]
 ·rw[e5 b (fun hm=>by have:=ZI b hm hno;omega)]
  exact h.bM.block b hb hno
 ·simp only[E2,hx]
 ·rcases vH b x hx with hx | ⟨_,hx⟩
  ·exact .inl hx
  ·rcases h.new b x (EH.Du hx)with h1 | h1 | h1
   ·exact .inl (EH.Du h1)
   ·exact .inr (.inl h1)
   ·exact .inr (.inr h1)
theorem Inv.strip {σ:Sg} {E:EH} {kb:KB} {W:World} (h:Inv σ E kb W):Inv σ E.strip kb W:=
 ⟨h.len,fun i r o h1 h2=>by
  have:=(h.obj i r o h1 h2).du (τ:=[]) (W':=W) E.wC (fun _ _=>rfl)
  simpa using this,h.dA,fun b o hb=>h.dj b o (EH.Du hb),fun b hb=>by
   have:=h.sep b hb
   simp only[EH.strip,this]⟩
theorem Step.YM {σ:Sg} {E:EH} {kb:KB} {W:World} (hi:Inv σ E kb W) (r:Loop):
  ∃ E',Step σ E kb W σ E' kb ((W.alloc (.deferred (some []))).alloc (.loop r))/\E' W.heap.size=some (.deferred (some []))/\E' (W.heap.size+1)=none/\((W.alloc (.deferred (some []))).alloc (.loop r)).heap[W.heap.size+1]? =some (.loop r):=by
 let W1:=(W.alloc (.deferred (some []))).alloc (.loop r)
 have hold:∀ b,b<W.heap.size->W1.heap[b]? =W.heap[b]?:=fun b hb=>by
  show((W.heap.push _).push _)[b]? =_
  rw[Array.getElem?_push,if_neg (by simp;omega),Array.getElem?_push,if_neg (by omega)]
 have h0:W1.heap[W.heap.size]? =some (.deferred (some [])):=by
  show((W.heap.push _).push _)[W.heap.size]? =_
  rw[Array.getElem?_push,if_neg (by simp),Array.getElem?_push,if_pos rfl]
 have h1:W1.heap[W.heap.size+1]? =some (.loop r):=by
  show((W.heap.push _).push _)[W.heap.size+1]? =_
  rw[Array.getElem?_push,if_pos (by simp)]
 have Pb:∀ b,W.heap.size<=b->E b=none:=fun b hb=>by
  cases hE:E b with
  |none=>rfl
  |some x=>have:=(Array.getElem?_eq_some_iff.1 (hi.dj b x hE)).1;omega
 let E':EH:=fun b=>if b=W.heap.size then some (.deferred (some []))else E b
 have hle:E.le E':=fun b x hb=>by
  show(if b=W.heap.size then _ else E b)=some x
  rw[if_neg (fun e=>by rw[Pb b (by omega)]at hb;cases hb)]
  exact hb
 refine⟨E',⟨⟨hi.len,fun i r' o h2 h3=>?_,hi.dA,fun b x hb=>?_,fun b hb=>?_⟩,⟨rfl,rfl,rfl,by show W.heap.size<=((W.heap.push _).push _).size;simp only[Array.size_push];omega,fun b hb _=>hold b hb⟩,⟨[],by simp⟩,hle,fun b hb=> .inl hb,fun b x hb=>?_⟩,by simp [E'],?_,h1⟩
 ·have:=(hi.obj i r' o h2 h3).mono (τ:=[]) (W':=W1) hle (fun b hb=>hold b ((hi.obj i r' o h2 h3).lt hb))
  simpa using this
 ·by_cases hc:b=W.heap.size
  ·subst hc
   simp only[E',if_true]at hb
   rw[<- hb]
   exact h0
  ·simp only[E',if_neg hc]at hb
   have h2:=hi.dj b x hb
   rw[<- h2]
   exact hold b (Array.getElem?_eq_some_iff.1 h2).1
 ·have hlt:=hi.lt hb
  simp only[E',if_neg (show ¬ b=W.heap.size by omega)]
  exact hi.sep b hb
 ·by_cases hc:b=W.heap.size
  ·exact .inr (.inr (by omega))
  ·simp only[E',if_neg hc]at hb;exact .inl hb
 ·simp only[E',if_neg (show ¬ W.heap.size+1=W.heap.size by omega)]
  exact Pb _ (by omega)
theorem Step.other {σ:Sg} {E:EH} {kb:KB} {W:World} {σ':Sg} {E':EH} {kb':KB} {W':World} (h:Step σ E kb W σ' E' kb' W') {l:Nat} (hl:W.heap.size<=l) (hno:¬ ct σ' kb' l) (hE:E' l=none) (o:Obj):Step σ E kb W σ' E' kb' (W'.putObj l o):=by
 refine⟨⟨h.inv.len,fun i r x h1 h2=>?_,h.inv.dA,fun b x hb=>?_,h.inv.sep⟩,⟨h.bM.os,h.bM.tape,h.bM.output,by rw[World.putObj_size];exact h.bM.size,fun b hb hn=>?_⟩,h.pre,h.le,h.own,h.new⟩
 ·have:=(h.inv.obj i r x h1 h2).mono (τ:=[]) (W':=W'.putObj l o) (EH.le.refl E') (fun b hb=>World.putObj_heap_other (fun e=>by subst e;exact hno ⟨i,r,x,h1,h2,hb⟩))
  simpa using this
 ·rw[World.putObj_heap_other (fun e=>by subst e;rw[hE]at hb;cases hb)]
  exact h.inv.dj b x hb
 ·rw[World.putObj_heap_other (by omega)]
  exact h.bM.block b hb hn
abbrev Fr:=List (Nat×V)
def look:Fr->Nat->Option V
 | [],_=>none
 | (d,v)::r,t=>match cq d t with | true=>some v | false=>look r t
structure eG (σ:Sg) (E:EH) (fr:Fr) (n:Nat) (a:Act):Prop where
 size:a.tmps.size=n
 defers:oz E a.defers
 get:∀ t v,look fr t=some v->∃ x,a.tmps[t]? =some x/\Den σ E v x
theorem eG.mono {σ τ:Sg} {E E':EH} {fr:Fr} {n:Nat} {a:Act} (h:eG σ E fr n a) (hE:E.le E'):eG (σ++τ) E' fr n a:=
 ⟨h.size,h.defers.mono hE,fun t v hv=>let ⟨x,h1,h2⟩:=h.get t v hv;⟨x,h1,Den.mono hE h2⟩⟩
theorem eG.put {σ:Sg} {E:EH} {fr:Fr} {n:Nat} {a:Act} (h:eG σ E fr n a) {d:Nat} (hd:d<n) {v:V} {x:Value} (hv:Den σ E v x):eG σ E ((d,v)::fr) n (a.put (some d) x):=by
 refine⟨by simp [Act.put,h.size],h.defers,fun t u hu=>?_⟩
 simp only[look]at hu
 split at hu
 ·rename_i hb
  have:=cP hb
  subst this
  cases hu
  exact⟨x,by simp [Act.put,h.size,hd],hv⟩
 ·rename_i hb
  have hne:d≠t:=fun e=>by subst e;simp at hb
  obtain⟨y,h1,h2⟩:=h.get t u hu
  exact⟨y,by simp only[Act.put];rw[Array.getElem?_setIfInBounds_ne hne];exact h1,h2⟩
def kg (n:Nat) (dst:Option Nat) (v:V) (fr:Fr) (K:Fr->Prop):Prop:=
 match dst with
 |some d=>match Nat.blt d n with
  |true=>K ((d,v)::fr)
  |false=>False
 |none=>K fr
theorem ny {n:Nat} {dst:Option Nat} {v:V} {fr:Fr} {K:Fr->Prop} (h:kg n dst v fr K) {σ:Sg} {E:EH} {a:Act} (hf:eG σ E fr n a) {x:Value} (hv:Den σ E v x):
  ∃ fr',eG σ E fr' n (a.put dst x)/\K fr':=by
 unfold kg at h
 split at h
 ·rename_i d
  split at h
  ·rename_i hb
   exact⟨_,hf.put (Nat.lt_of_succ_le (Nat.le_of_ble_eq_true hb)) hv,h⟩
  ·exact h.elim
 ·exact⟨fr,hf,h⟩
def kZ (fr:Fr):Operand->Option V
 | .tmp t=>look fr t
 | .const v=>some (tR v)
 | .global g=>some (.any (.pointer (some ⟨g,0,none⟩)))
 | .func f=>some (.fn f [])
theorem mW {σ:Sg} {E:EH} {fr:Fr} {n:Nat} {a:Act} (h:eG σ E fr n a) {x:Operand} {v:V} (hv:kZ fr x=some v):Den σ E v (a.eval x):=by
 cases x with
 |tmp t=>
  obtain⟨y,h1,h2⟩:=h.get t v hv
  simp only[Act.eval]
  rw[Array.getD_eq_getD_getElem?,h1]
  exact h2
 |const c=>simp only[kZ,bc.injEq]at hv;subst hv;exact NQ σ E c
 |global g=>simp only[kZ,bc.injEq]at hv;subst hv;simp [Den,Act.eval]
 |func f=>simp only[kZ,bc.injEq]at hv;subst hv;simp [Den,aq,Act.eval]
def ev (fr:Fr) (x:Operand):Option V:=match kZ fr x with | some v=>some (xN v) | none=>none
theorem bT {σ:Sg} {E:EH} {fr:Fr} {n:Nat} {a:Act} (h:eG σ E fr n a) {x:Operand} {v:V} (hv:ev fr x=some v):Den σ E v (a.eval x):=by
 unfold ev at hv
 split at hv
 ·rename_i u hu;cases hv;exact F7 (mW h hu)
 ·cases hv
def evs (fr:Fr):List Operand->Option (List V)
 | []=>some []
 |x::xs=>match kZ fr x,evs fr xs with
  |some v,some vs=>some (v::vs)
  |_,_=>none
theorem Bm {σ:Sg} {E:EH} {fr:Fr} {n:Nat} {a:Act} (h:eG σ E fr n a):∀{xs:List Operand} {vs:List V},evs fr xs=some vs->aq σ E vs (xs.map a.eval)
 | [],vs,hv=>by simp [evs]at hv;subst hv;exact .nil
 |x::xs,vs,hv=>by
  simp only[evs]at hv
  split at hv
  ·rename_i v us h1 h2
   cases hv
   exact .cons (mW h h1) (Bm h h2)
  ·cases hv
def vB (fr:Fr):List (Nat×Operand)->Option (List (Nat×V))
 | []=>some []
 | (i,x)::xs=>match kZ fr x,vB fr xs with
  |some v,some vs=>some ((i,v)::vs)
  |_,_=>none
theorem GA {σ:Sg} {E:EH} {fr:Fr} {n:Nat} {a:Act} (h:eG σ E fr n a):∀{xs:List (Nat×Operand)} {vs:List (Nat×V)},vB fr xs=some vs->lA σ E vs (xs.map fun(i,x)=>(i,a.eval x))
 | [],vs,hv=>by simp [vB]at hv;subst hv;simp [lA]
 | (i,x)::xs,vs,hv=>by
  simp only[vB]at hv
  split at hv
  ·rename_i v us h1 h2
   cases hv
   simp only[lY,lA]
   exact⟨_,_,rfl,mW h h1,GA h h2⟩
  ·cases hv
def sI (fr:Fr):Option Operand->Option (Option V)
 |none=>some none
 |some x=>match ev fr x with | some v=>some (some v) | none=>none
theorem xU {σ:Sg} {E:EH} {fr:Fr} {n:Nat} {a:Act} (h:eG σ E fr n a) {x:Option Operand} {v:Option V} (hv:sI fr x=some v):OD σ E v (x.map a.eval):=by
 cases x with
 |none=>simp [sI]at hv;subst hv;trivial
 |some x=>
  simp only[sI]at hv
  split at hv
  ·rename_i u hu;cases hv;exact bT h hu
  ·cases hv
def exacts (fr:Fr) (l:List Operand):Bool:=l.all fun x=>((ev fr x).bind V.val?).isSome
def JV (fr:Fr) (x:Operand):Value:=((ev fr x).bind V.val?).getD undef
def Bq (n:Nat) (K:Nat->V):V:=match n with
 | 0=>K 0
 |m+1=>K (m+1)
def vy:Value->V
 | .int k n=>match n with
  | .ofNat m=>Bq m (fun m=> .lit k (.ofNat m))
  | .negSucc m=>Bq m (fun m=> .lit k (.negSucc m))
 | .bool b=>match b with | true=> .tt | false=> .ff
 |v=>cv v
theorem Yk (σ:Sg) (E:EH) (v:Value):Den σ E (vy v) v:=by
 cases v with
 |int k n=>
  cases n with
  |ofNat m=>cases m<;>simp [vy,Bq,Den]
  |negSucc m=>cases m<;>simp [vy,Bq,Den]
 |bool b=>cases b<;>simp [vy,Den]
 |_=>simp only[vy];exact NP σ E _
def isLit:V->Bool
 | .lit .. | .tt | .ff=>true
 | .any (.string _)=>true
 | .any (.map none)=>true
 | .any (.pointer none)=>true
 | .any .nilFunc=>true
 |_=>false
def Ch:Bool->Bool->V
 |true,b=>match b with | true=> .tt | false=> .ff
 |false,b=> .sb b
theorem QR (σ:Sg) (E:EH) (l b:Bool):Den σ E (Ch l b) (.bool b):=by
 cases l<;>cases b<;>simp [Ch,Den]
def lits (fr:Fr) (l:List Operand):Bool:=l.all fun x=>match kZ fr x with | some v=>isLit v | none=>false
def mV (P:Program) (fr:Fr) (o:Oper):Option V:=
 match o.op with
 | .select .. =>none
 |_=>match exacts fr o.op.operands.toList with
  |true=>match calm P (execOp (JV fr) o)with
   |some (.value v)=>match lits fr o.op.operands.toList with
    |true=>some (vy v)
    |false=>some (cv v)
   |_=>none
  |false=>none
theorem Nh {P:Program} {fr:Fr} {o:Oper} {v:V} (h:mV P fr o=some v) {σ:Sg} {E:EH} {n:Nat} {a:Act} (hf:eG σ E fr n a):
  ∃ x,(∀ W,(execOp a.eval o).run P W= .ok (.value x) W)/\Den σ E v x:=by
 unfold mV at h
 split at h
 ·cases h
 ·rename_i hsel
  split at h
  ·rename_i hex
   split at h
   ·rename_i x hc
    have eM:Den σ E v x:=by
     split at h
     ·cases h;exact Yk σ E x
     ·cases h;exact NP σ E x
    refine⟨x,fun W=>?_,eM⟩
    rw[execOp_congr (ρ:=a.eval) (ρ':=JV fr) o (fun cs b e=>hsel cs b e) (fun y hy=>?_)]
    ·exact FF hc W
    ·have:=List.all_eq_true.1 hex y (by simpa using hy)
     obtain⟨z,hz⟩:=Option.isSome_iff_exists.1 this
     obtain⟨u,hu,pz⟩:=kW.1 hz
     rw[DI pz (bT hf hu)]
     simp [JV,hz]
   ·cases h
  ·cases h
def JB (c:Bool):V->V->Option V
 | .int k m,.int k' n=>match decide (k=k')with | true=>some (.int k (bif c then m else n)) | false=>none
 | .sb a,.sb b=>some (.sb (bif c then a else b))
 | .sb a,.tt=>some (.sb (bif c then a else true))
 | .sb a,.ff=>some (.sb (bif c then a else false))
 | .tt,.sb b=>some (.sb (bif c then true else b))
 | .ff,.sb b=>some (.sb (bif c then false else b))
 | .tt,.ff=>some (.sb c)
 | .ff,.tt=>some (.sb !c)
 | .tt,.tt=>some .tt
 | .ff,.ff=>some .ff
 |_,_=>none
theorem adF {c:Bool} {u v w:V} (h:JB c u v=some w) {σ:Sg} {E:EH} {x y:Value} (hx:Den σ E u x) (hy:Den σ E v y):Den σ E w (if c then x else y):=by
 unfold JB at h
 split at h<;>(try cases h)<;>(try simp only[Den]at hx hy ⊢)<;>(try subst hx)<;>(try subst hy)<;>(try (cases c<;>simp))
 ·split at h
  ·rename_i hk
   have hk':=of_decide_eq_true hk
   subst hk'
   cases h
   simp [Den]
  ·cases h
 ·split at h
  ·rename_i hk
   have hk':=of_decide_eq_true hk
   subst hk'
   cases h
   simp [Den]
  ·cases h
def isPure (P:Program):Op->Bool
 | .move _ | .assign _ | .pick .. | .nilCheck _ | .fieldAddr .. | .indexAddr .. | .slice .. | .field .. | .extract .. | .build .. | .makeFunc .. | .binOp .. | .unOp .. | .index .. | .makeInterface .. | .sliceToArrayPointer .. =>true
 | .convert src dst _=>match P.underlying src,P.underlying dst with
  |some .string,some (.slice _)=>false
  |some (.slice _),some .string=>false
  |some (.slice _),some (.slice _)=>false
  |_,_=>true
 | .call c=>match c.callee with
  | .builtin .len=>match c.argTypes.toList with
   | [t]=>match P.underlying t with
    |some (.map _ _)=>false
    |some (.chan _ _)=>false
    |_=>true
   |_=>true
  | .builtin .min | .builtin .max=>true
  |_=>false
 |_=>false
def qm (P:Program) (t:TypeId):Bool:=match P.underlying t with | some (.pointer _)=>true | _=>false
def B5 (P:Program) (t:TypeId):Bool:=match P.underlying t with | some (.func ..)=>true | _=>false
def Dm (P:Program) (t:TypeId):V->V->Bool
 | .mp _,.any (.map none)=>vN P t
 | .ptr _ _,.any (.pointer none)=>qm P t
 | .pa ..,.any (.pointer none)=>qm P t
 | .pe ..,.any (.pointer none)=>qm P t
 | .cF ..,.any (.pointer none)=>qm P t
 | .fn ..,.any .nilFunc=>B5 P t
 | .dat (.val (.func ..)),.any .nilFunc=>B5 P t
 |_,_=>false
def Dk (P:Program) (t:TypeId):Bool:=match P.underlying t with | some (.slice _)=>true | _=>false
def Cz:V->Option Nat
 | .sl _ lo hi=>some (hi - lo)
 | .dat (.sl _ l)=>some l.length
 | .e0=>some 0
 | .sa _ _ _ _ n _=>some n
 | .se _ _ _ _ n _=>some n
 |_=>none
def intOf:V->Option (IntKind×Int)
 | .int k n=>some (k,n)
 | .lit k n=>some (k,n)
 |_=>none
def NZ (n:Int):Prop:=n≠0
def oW (k:IntKind) (a b:Int):Int:=k.wrap (a*2 ^ (min b.toNat k.bits))
def Ke (k:IntKind) (a b:Int):Int:=a.fdiv (2 ^ (min b.toNat k.bits))
def L7 (n:Int):Prop:=¬ n<0
def rL (P:Program) (o:Oper) (fr:Fr) (K:V->Prop):Prop:=
 match o.op with
 | .binOp .eql t x y _=>match ev fr x,ev fr y with
  |some v,some (.any (.slice none 0 0))=>match Dk P t,Cz v with
   |true,some n=>∀ b:Bool,(b=true->n=0)->K (.sb b)
   |_,_=>False
  |some (.af o),some (.any (.pointer none))=>match qm P t with | true=>K (.sb o.isNone) | false=>False
  |some (.imp _ _ _ _ l),some (.any (.map none))=>match vN P t with | true=>∀ b:Bool,(b=true->l.length=0)->K (.sb b) | false=>False
  |_,_=>False
 | .binOp .neq t x y _=>match ev fr x,ev fr y with
  |some v,some (.any (.slice none 0 0))=>match Dk P t,Cz v with
   |true,some n=>∀ b:Bool,(b=false->n=0)->K (.sb b)
   |_,_=>False
  |some (.af o),some (.any (.pointer none))=>match qm P t with | true=>K (.sb (!o.isNone)) | false=>False
  |some (.imp _ _ _ _ l),some (.any (.map none))=>match vN P t with | true=>∀ b:Bool,(b=false->l.length=0)->K (.sb b) | false=>False
  |_,_=>False
 | .binOp .quo t x y _=>match (ev fr x).bind intOf,(ev fr y).bind intOf with
  |some (k,a),some (k',b)=>match decide (k=k')with
   |true=>NZ b/\K (.int k (k.wrap (a.tdiv b)))
   |false=>False
  |_,_=>False
 | .binOp .rem t x y _=>match (ev fr x).bind intOf,(ev fr y).bind intOf with
  |some (k,a),some (k',b)=>match decide (k=k')with
   |true=>NZ b/\K (.int k (a.tmod b))
   |false=>False
  |_,_=>False
 | .binOp .shl t x y _=>match (ev fr x).bind intOf,(ev fr y).bind intOf with
  |some (k,a),some (_,b)=>L7 b/\K (.int k (oW k a b))
  |_,_=>False
 | .binOp .shr t x y _=>match (ev fr x).bind intOf,(ev fr y).bind intOf with
  |some (k,a),some (_,b)=>L7 b/\K (.int k (Ke k a b))
  |_,_=>False
 |_=>False
theorem Rs {σ:Sg} {E:EH} {v:V} {n:Nat} (h:Cz v=some n) {x:Value} (hx:Den σ E v x):∃ a cap,x= .slice a n cap/\(a=none->n=0):=by
 unfold Cz at h
 split at h<;>first | (cases h;done) | skip
 ·rename_i lo hi
  cases h
  simp only[Den]at hx
  obtain⟨r,a,_,rfl,h1,h2,h3⟩:=hx
  refine⟨a,_,rfl,fun e=>?_⟩
  subst e
  rcases jF lo r.cap with hlt | hlt
  ·exact absurd (h3 hlt) (by simp)
  ·omega
 ·cases h
  simp only[Den,bI]at hx
  obtain⟨a,cap,rfl,h1,h2⟩:=hx
  refine⟨a,cap,rfl,fun e=>?_⟩
  rcases h2 with h2 | ⟨b,off,h2,_⟩
  ·exact h2
  ·rw[e]at h2;cases h2
 ·cases h
  simp only[Den]at hx
  obtain⟨a,rfl⟩:=hx
  exact⟨a,0,rfl,fun _=>rfl⟩
 ·rename_i c
  cases h
  simp only[Den]at hx
  obtain⟨r,a,_,rfl,h1,h2⟩:=hx
  refine⟨a,_,rfl,fun e=>?_⟩
  subst e
  rcases Nat.eq_zero_or_pos c with hlt | hlt
  ·omega
  ·exact absurd (h2 hlt) (by simp)
 ·rename_i c
  cases h
  simp only[Den]at hx
  obtain⟨r,a,_,rfl,h1,h2⟩:=hx
  refine⟨a,_,rfl,fun e=>?_⟩
  subst e
  rcases Nat.eq_zero_or_pos c with hlt | hlt
  ·omega
  ·exact absurd (h2 hlt) (by simp)
theorem TJ {P:Program} {t:TypeId} (ht:Dk P t=true) {a:Option Addr} {n cap:Nat} (W:World):(Op.equal t (.slice a n cap) (.slice none 0 0)).run P W= .ok a.isNone W:=by
 unfold Dk at ht
 split at ht<;>try (cases ht;done)
 rename_i e hu
 unfold Op.equal
 show(Op.equalIn (9999+1) t _ _).run P W=_
 unfold Op.equalIn
 rw[Sem.run_bind,run_underlying hu,Result.andThen_ok]
 cases a<;>rfl
theorem C9 {P:Program} {t:TypeId} (ht:qm P t=true) {a:Option Addr} (W:World):(Op.equal t (.pointer a) (.pointer none)).run P W= .ok a.isNone W:=by
 unfold qm at ht
 split at ht<;>try (cases ht;done)
 rename_i e hu
 unfold Op.equal
 show(Op.equalIn (9999+1) t _ _).run P W=_
 unfold Op.equalIn
 rw[Sem.run_bind,run_underlying hu,Result.andThen_ok]
 cases a<;>simp
theorem TI {P:Program} {t:TypeId} (ht:vN P t=true) {a:Option Nat} (W:World):(Op.equal t (.map a) (.map none)).run P W= .ok a.isNone W:=by
 unfold vN at ht
 split at ht<;>try (cases ht;done)
 rename_i kt et hu
 unfold Op.equal
 show(Op.equalIn (9999+1) t _ _).run P W=_
 unfold Op.equalIn
 rw[Sem.run_bind,run_underlying hu,Result.andThen_ok]
 cases a<;>simp
theorem sT {v:V} {k:IntKind} {n:Int} (h:intOf v=some (k,n)) {σ:Sg} {E:EH} {x:Value} (hx:Den σ E v x):x= .int k n:=by
 unfold intOf at h
 split at h<;>first | (cases h;done) | skip
 ·cases h;simpa only[Den]using hx
 ·cases h;simpa only[Den]using hx
theorem yz {P:Program} {o:Oper} {fr:Fr} {K:V->Prop} (h:rL P o fr K) {σ:Sg} {E:EH} {n:Nat} {a:Act} (hf:eG σ E fr n a):
  ∃ v x,(∀ W,(execOp a.eval o).run P W= .ok (.value x) W)/\Den σ E v x/\K v:=by
 obtain⟨dst,op,ty,pos,after,guard⟩:=o
 unfold rL at h
 simp only at h
 split at h
 ·rename_i t x y _
  split at h<;>try exact h.elim
  ·rename_i v hx hy
   split at h<;>try exact h.elim
   rename_i m ht hm
   obtain⟨ad,cap,e1,e2⟩:=Rs hm (bT hf hx)
   have e3:=bT hf hy
   simp only[Den]at e3
   refine⟨.sb ad.isNone,.bool ad.isNone,fun W=>?_,by simp only[Den],h _ (fun hb=>e2 (by simpa using hb))⟩
   simp only[execOp,e1,e3,eqGuard,Sem.run_bind,binOp]
   simp [TJ ht]
  ·rename_i o hx hy
   split at h<;>try exact h.elim
   rename_i ht
   have e1:=bT hf hx
   have e3:=bT hf hy
   simp only[Den]at e1 e3
   refine⟨_,.bool o.isNone,fun W=>?_,by simp only[Den],h⟩
   rcases e1 with ⟨rfl,e1⟩ | ⟨e,b,rfl,e1,_⟩
   ·simp only[execOp,e1,e3,eqGuard,Sem.run_bind,binOp]
    simp [C9 ht]
   ·simp only[execOp,e1,e3,eqGuard,Sem.run_bind,binOp]
    simp [C9 ht]
  ·rename_i l hx hy
   split at h<;>try exact h.elim
   rename_i ht
   have e1:=bT hf hx
   have e3:=bT hf hy
   simp only[Den]at e1 e3
   obtain⟨a,e1,e2⟩:=e1
   refine⟨.sb a.isNone,.bool a.isNone,fun W=>?_,by simp only[Den],h _ (fun hb=>?_)⟩
   ·simp only[execOp,e1,e3,eqGuard,Sem.run_bind,binOp]
    simp [TI ht]
   ·cases a with
    |none=>have e2:l=[]:=e2;rw[e2];rfl
    |some a=>cases hb
 ·rename_i t x y _
  split at h<;>try exact h.elim
  ·rename_i v hx hy
   split at h<;>try exact h.elim
   rename_i m ht hm
   obtain⟨ad,cap,e1,e2⟩:=Rs hm (bT hf hx)
   have e3:=bT hf hy
   simp only[Den]at e3
   refine⟨.sb (!ad.isNone),.bool (!ad.isNone),fun W=>?_,by simp only[Den],h _ (fun hb=>e2 (by simpa using hb))⟩
   simp only[execOp,e1,e3,eqGuard,Sem.run_bind,binOp]
   simp [TJ ht]
  ·rename_i o hx hy
   split at h<;>try exact h.elim
   rename_i ht
   have e1:=bT hf hx
   have e3:=bT hf hy
   simp only[Den]at e1 e3
   refine⟨_,.bool (!o.isNone),fun W=>?_,by simp only[Den],h⟩
   rcases e1 with ⟨rfl,e1⟩ | ⟨e,b,rfl,e1,_⟩
   ·simp only[execOp,e1,e3,eqGuard,Sem.run_bind,binOp]
    simp [C9 ht]
   ·simp only[execOp,e1,e3,eqGuard,Sem.run_bind,binOp]
    simp [C9 ht]
  ·rename_i l hx hy
   split at h<;>try exact h.elim
   rename_i ht
   have e1:=bT hf hx
   have e3:=bT hf hy
   simp only[Den]at e1 e3
   obtain⟨a,e1,e2⟩:=e1
   refine⟨.sb (!a.isNone),.bool (!a.isNone),fun W=>?_,by simp only[Den],h _ (fun hb=>?_)⟩
   ·simp only[execOp,e1,e3,eqGuard,Sem.run_bind,binOp]
    simp [TI ht]
   ·cases a with
    |none=>have e2:l=[]:=e2;rw[e2];rfl
    |some a=>cases hb
 ·rename_i t x y _
  split at h<;>try exact h.elim
  rename_i k p k' q hx hy
  split at h<;>try exact h.elim
  rename_i hk
  have hk:=of_decide_eq_true hk
  subst hk
  obtain⟨u,hu,pz⟩:=kW.1 hx
  obtain⟨v,hv,rB⟩:=kW.1 hy
  have e1:=sT pz (bT hf hu)
  have e2:=sT rB (bT hf hv)
  refine⟨_,.int k (k.wrap (p.tdiv q)),fun W=>?_,by simp only[Den],h.2⟩
  simp [execOp,e1,e2,eqGuard,binOp,Op.intDiv,show q≠0 from h.1]
 ·rename_i t x y _
  split at h<;>try exact h.elim
  rename_i k p k' q hx hy
  split at h<;>try exact h.elim
  rename_i hk
  have hk:=of_decide_eq_true hk
  subst hk
  obtain⟨u,hu,pz⟩:=kW.1 hx
  obtain⟨v,hv,rB⟩:=kW.1 hy
  have e1:=sT pz (bT hf hu)
  have e2:=sT rB (bT hf hv)
  refine⟨_,.int k (p.tmod q),fun W=>?_,by simp only[Den],h.2⟩
  simp [execOp,e1,e2,eqGuard,binOp,Op.intDiv,show q≠0 from h.1]
 ·rename_i t x y _
  split at h<;>try exact h.elim
  rename_i k p k' q hx hy
  obtain⟨u,hu,pz⟩:=kW.1 hx
  obtain⟨v,hv,rB⟩:=kW.1 hy
  have e1:=sT pz (bT hf hu)
  have e2:=sT rB (bT hf hv)
  refine⟨_,.int k (oW k p q),fun W=>?_,by simp only[Den],h.2⟩
  simp [execOp,e1,e2,eqGuard,binOp,Op.shift,show ¬ q<0 from h.1,oW]
 ·rename_i t x y _
  split at h<;>try exact h.elim
  rename_i k p k' q hx hy
  obtain⟨u,hu,pz⟩:=kW.1 hx
  obtain⟨v,hv,rB⟩:=kW.1 hy
  have e1:=sT pz (bT hf hu)
  have e2:=sT rB (bT hf hv)
  refine⟨_,.int k (Ke k p q),fun W=>?_,by simp only[Den],h.2⟩
  simp [execOp,e1,e2,eqGuard,binOp,Op.shift,show ¬ q<0 from h.1,Ke]
 ·exact h.elim
def yP (P:Program) (o:Oper) (fr:Fr) (kb:KB) (K:V->Prop):Prop:=
 match o.op with
 | .move x | .assign x=>match kZ fr x with | some v=>K v | none=>False
 | .pick c x y=>match ev fr c with
  |some .tt=>match kZ fr x with | some v=>K v | none=>False
  |some .ff=>match kZ fr y with | some v=>K v | none=>False
  |some (.sb b)=>match ev fr x,ev fr y with
   |some u,some v=>match JB b u v with | some w=>K w | none=>False
   |_,_=>False
  |_=>False
 | .nilCheck x=>match ev fr x with
  |some (.ptr i off)=>K (.ptr i off)
  |some (.pa i base o)=>K (.pa i base o)
  |some (.pe i ix br)=>K (.pe i ix br)
  |some (.pw i ix)=>K (.pw i ix)
  |some (.cF e br)=>K (.cF e br)
  |some (.af o)=>∃ e,o=some e/\K (.cF e 0)
  |some (.fn f cap)=>K (.fn f cap)
  |some (.dat (.val (.func (.func f) first cap)))=>K (.dat (.val (.func (.func f) first cap)))
  |some (.any (.func (.func f) first cap))=>K (.any (.func (.func f) first cap))
  |_=>False
 | .fieldAddr s x m=>match ev fr x with | some v=>GF P s v m K | none=>False
 | .indexAddr t x i=>match ev fr x,kZ fr i with | some v,some u=>H7 P t v u kb K | _,_=>False
 | .slice t x lo hi none=>match ev fr x,sI fr lo,sI fr hi with | some v,some l,some h=>Kg P t v l h kb K | _,_,_=>False
 | .slice t x lo hi (some m)=>match ev fr x,sI fr lo,sI fr hi,sI fr (some m)with | some v,some l,some h,some m=>Kf P t v l h m K | _,_,_,_=>False
 | .sliceToArrayPointer t x=>match ev fr x with | some v=>Fj P t v kb K | none=>False
 | .field t x m=>match (ev fr x).bind (fun v=>GG P t v m)with | some u=>K u | none=>False
 | .index t x i=>match ev fr x,kZ fr i with
  |some (.agg l),some u=>Gn P t (.agg l) u K
  |_,_=>match mV P fr o with | some v=>K v | none=>False
 | .extract x m=>match ev fr x with
  |some (.χ l)=>match l[m]? with | some v=>K v | none=>False
  |_=>False
 | .build t parts=>match vB fr parts.toList with
  |some ps=>match FB P t ps with | some l=>K (.agg l) | none=>False
  |none=>False
 | .makeFunc (.func f) first cap=>match first.toList,evs fr cap.toList with | [],some vs=>K (.fn f vs) | _,_=>False
 | .call c=>match c.callee,c.args.toList,c.argTypes.toList with
  | .builtin .len,[x],[t]=>match ev fr x with
   |some v=>match Ce v with
    |some _=>vQ P t v K
    |none=>match v with
     | .agg l=>vQ P t (.agg l) K
     | .ptr i off=>vQ P t (.ptr i off) K
     |_=>match mV P fr o with | some v=>K v | none=>False
   |none=>False
  |_,_,_=>match mV P fr o with | some v=>K v | none=>False
 | .binOp .eql t x y _=>match ev fr x,ev fr y with
  |some u,some v=>match Dm P t u v,u,v with
   |true,_,_=>K .ff
   |false,.agg xs,.agg ys=>match P.eqGuardType P.depth t,sH P 20 t (.agg xs) (.agg ys)with
    |false,some b=>K (Ch (xs.all isLit && ys.all isLit) b)
    |_,_=>False
   |_,_,_=>match mV P fr o with | some v=>K v | none=>rL P o fr K
  |_,_=>False
 | .binOp .neq t x y _=>match ev fr x,ev fr y with
  |some u,some v=>match Dm P t u v,u,v with
   |true,_,_=>K .tt
   |false,.agg xs,.agg ys=>match P.eqGuardType P.depth t,sH P 20 t (.agg xs) (.agg ys)with
    |false,some b=>K (Ch (xs.all isLit && ys.all isLit) (!b))
    |_,_=>False
   |_,_,_=>match mV P fr o with | some v=>K v | none=>rL P o fr K
  |_,_=>False
 | .binOp .quo _ _ y _=>match y,ev fr y with
  | .tmp _,some (.int _ _)=>rL P o fr K
  |_,_=>match mV P fr o with | some v=>K v | none=>False
 | .binOp .rem _ _ y _=>match y,ev fr y with
  | .tmp _,some (.int _ _)=>rL P o fr K
  |_,_=>match mV P fr o with | some v=>K v | none=>False
 | .binOp .shl _ _ y _=>match y,ev fr y with
  | .tmp _,some (.int _ _)=>rL P o fr K
  |_,_=>match mV P fr o with | some v=>K v | none=>False
 | .binOp .shr _ _ y _=>match y,ev fr y with
  | .tmp _,some (.int _ _)=>rL P o fr K
  |_,_=>match mV P fr o with | some v=>K v | none=>False
 |_=>match mV P fr o with | some v=>K v | none=>False
theorem TF {P:Program} {t:TypeId} (hg:P.eqGuardType P.depth t=false) {b:Bool} {xs ys:List V} (he:sH P 20 t (.agg xs) (.agg ys)=some b) {σ:Sg} {E:EH} {x y:Operand} {u v:Value} (hx:Den σ E (.agg xs) u) (hy:Den σ E (.agg ys) v)
  (op:BinOp) (hop:op= .eql∨op= .neq) (W:World):(do eqGuard op t x y u v;binOp op t u v:Sem Value).run P W= .ok (.bool (if op= .eql then b else !b)) W:=by
 have hr:=Oo 20 t _ _ b he u v hx hy Op.maxDepth (by decide) W
 simp only[Den]at hx hy
 obtain⟨us,rfl,_⟩:=hx
 obtain⟨vs,rfl,_⟩:=hy
 rcases hop with rfl | rfl
 ·have h1:(eqGuard .eql t x y (.agg us.toArray) (.agg vs.toArray)).run P W= .ok () W:=by simp [eqGuard,hg]
  rw[Sem.run_bind,h1,Result.andThen_ok]
  simp [binOp,Op.equal,hr]
 ·have h1:(eqGuard .neq t x y (.agg us.toArray) (.agg vs.toArray)).run P W= .ok () W:=by simp [eqGuard,hg]
  rw[Sem.run_bind,h1,Result.andThen_ok]
  simp [binOp,Op.equal,hr]
theorem TK {P:Program} {t:TypeId} {p q:V} (ht:Dm P t p q=true) {σ:Sg} {E:EH} {x y:Operand} {u v:Value} (hx:Den σ E p u) (hy:Den σ E q v)
  (op:BinOp) (hop:op= .eql∨op= .neq) (W:World):(do eqGuard op t x y u v;binOp op t u v:Sem Value).run P W= .ok (.bool (if op= .eql then false else true)) W:=by
 have fin:((binOp .eql t u v).run P W= .ok (.bool false) W)->((binOp .neq t u v).run P W= .ok (.bool true) W)->(∀ op,(op=BinOp.eql∨op=BinOp.neq)->∀ W,(eqGuard op t x y u v).run P W= .ok () W)->(do eqGuard op t x y u v;binOp op t u v:Sem Value).run P W= .ok (.bool (if op= .eql then false else true)) W:=by
  intro gL gh h1
  rcases hop with rfl | rfl
  ·rw[Sem.run_bind,h1 _ (.inl rfl),Result.andThen_ok,gL]
   rfl
  ·rw[Sem.run_bind,h1 _ (.inr rfl),Result.andThen_ok,gh]
   rfl
 have ptr:∀{b o:Nat},u= .pointer (some ⟨b,o,none⟩)->v= .pointer none->qm P t=true->(do eqGuard op t x y u v;binOp op t u v:Sem Value).run P W= .ok (.bool (if op= .eql then false else true)) W:=by
  rintro b o rfl rfl hp
  unfold qm at hp
  split at hp<;>try (cases hp;done)
  rename_i e hu
  have hr:(Op.equal t (.pointer (some ⟨b,o,none⟩)) (.pointer none)).run P W= .ok false W:=by
   unfold Op.equal
   show(Op.equalIn (9999+1) t _ _).run P W=_
   unfold Op.equalIn
   rw[Sem.run_bind,run_underlying hu,Result.andThen_ok]
   simp
  refine fin (by simp [binOp,hr]) (by simp [binOp,hr]) (fun op hop W=>?_)
  ·rcases hop with rfl | rfl<;>simp [eqGuard]
 unfold Dm at ht
 split at ht
 ·simp only[Den]at hx hy
  obtain⟨r,_,rfl⟩:=hx
  subst hy
  unfold vN at ht
  split at ht<;>try (cases ht;done)
  rename_i kt et hu
  have hr:(Op.equal t (.map (some r.blk)) (.map none)).run P W= .ok false W:=by
   unfold Op.equal
   show(Op.equalIn (9999+1) t _ _).run P W=_
   unfold Op.equalIn
   rw[Sem.run_bind,run_underlying hu,Result.andThen_ok]
   rfl
  refine fin (by simp [binOp,hr]) (by simp [binOp,hr]) (fun op hop W=>?_)
  ·rcases hop with rfl | rfl<;>simp [eqGuard]
 ·simp only[Den]at hx hy;obtain⟨r,_,rfl⟩:=hx;exact ptr rfl hy ht
 ·simp only[Den]at hx hy;obtain⟨r,_,rfl⟩:=hx;exact ptr rfl hy ht
 ·simp only[Den]at hx hy;obtain⟨r,_,rfl⟩:=hx;exact ptr rfl hy ht
 ·simp only[Den]at hx hy;obtain⟨b,off,rfl,_⟩:=hx;exact ptr rfl hy ht
 ·simp only[Den]at hx hy
  obtain⟨vs,rfl,_⟩:=hx
  subst hy
  unfold B5 at ht
  split at ht<;>try (cases ht;done)
  rename_i hu
  have hr:∀ g c1 c2,(Op.equal t (.func g c1 c2) .nilFunc).run P W= .ok false W:=by
   intro g c1 c2
   unfold Op.equal
   show(Op.equalIn (9999+1) t _ _).run P W=_
   unfold Op.equalIn
   rw[Sem.run_bind,run_underlying hu,Result.andThen_ok]
   rfl
  refine fin (by simp [binOp,hr]) (by simp [binOp,hr]) (fun op hop W=>?_)
  ·rcases hop with rfl | rfl<;>simp [eqGuard]
 ·simp only[Den,bI]at hx hy
  obtain⟨rfl,_⟩:=hx
  subst hy
  unfold B5 at ht
  split at ht<;>try (cases ht;done)
  rename_i hu
  have hr:∀ g c1 c2,(Op.equal t (.func g c1 c2) .nilFunc).run P W= .ok false W:=by
   intro g c1 c2
   unfold Op.equal
   show(Op.equalIn (9999+1) t _ _).run P W=_
   unfold Op.equalIn
   rw[Sem.run_bind,run_underlying hu,Result.andThen_ok]
   rfl
  refine fin (by simp [binOp,hr]) (by simp [binOp,hr]) (fun op hop W=>?_)
  ·rcases hop with rfl | rfl<;>simp [eqGuard]
 ·cases ht
theorem JH {P:Program} {o:Oper} {fr:Fr} {kb:KB} {K:V->Prop} (h:yP P o fr kb K) {σ:Sg} {E:EH} {n:Nat} {a:Act} (hf:eG σ E fr n a) {W0:World} (hi:Inv σ E kb W0):
  ∃ v x,(∀ W,(execOp a.eval o).run P W= .ok (.value x) W)/\Den σ E v x/\K v:=by
 have sB:(match mV P fr o with | some v=>K v | none=>False)->∃ v x,(∀ W,(execOp a.eval o).run P W= .ok (.value x) W)/\Den σ E v x/\K v:=by
  intro h
  split at h
  ·rename_i v hv
   obtain⟨x,h1,h2⟩:=Nh hv hf
   exact⟨v,x,h1,h2,h⟩
  ·exact h.elim
 have Ng:(match mV P fr o with | some v=>K v | none=>rL P o fr K)->∃ v x,(∀ W,(execOp a.eval o).run P W= .ok (.value x) W)/\Den σ E v x/\K v:=by
  intro h
  split at h
  ·rename_i v hv
   obtain⟨x,h1,h2⟩:=Nh hv hf
   exact⟨v,x,h1,h2,h⟩
  ·exact yz h hf
 obtain⟨dst,op,ty,pos,after,guard⟩:=o
 unfold yP at h
 simp only at h
 split at h
 ·split at h
  ·rename_i x v hv;exact⟨v,_,fun W=>rfl,mW hf hv,h⟩
  ·exact h.elim
 ·split at h
  ·rename_i x v hv;exact⟨v,_,fun W=>rfl,mW hf hv,h⟩
  ·exact h.elim
 ·rename_i c x y
  split at h
  ·rename_i hc
   have fc:=bT hf hc
   simp only[Den]at fc
   split at h
   ·rename_i v hv;exact⟨v,_,fun W=>by simp [execOp,fc,asBool],mW hf hv,h⟩
   ·exact h.elim
  ·rename_i hc
   have fc:=bT hf hc
   simp only[Den]at fc
   split at h
   ·rename_i v hv;exact⟨v,_,fun W=>by simp [execOp,fc,asBool],mW hf hv,h⟩
   ·exact h.elim
  ·rename_i b hc
   have fc:=bT hf hc
   simp only[Den]at fc
   split at h
   ·rename_i u v hu hv
    split at h
    ·rename_i w hw
     exact⟨w,_,fun W=>by simp [execOp,fc,asBool],adF hw (bT hf hu) (bT hf hv),h⟩
    ·exact h.elim
   ·exact h.elim
  ·exact h.elim
 ·rename_i x
  have same:∀{v:V},ev fr x=some v->K v->(∀ y,Den σ E v y->(∃ b o,y= .pointer (some ⟨b,o,none⟩))∨(∃ f first cap,y= .func (.func f) first cap))->
    ∃ v y,(∀ W,(execOp a.eval {dst,op:=.nilCheck x,type:=ty,pos,after,guard }).run P W= .ok (.value y) W)/\Den σ E v y/\K v:=by
   intro v hv hK hs
   have hx':=bT hf hv
   rcases hs _ hx' with ⟨b,o,e⟩ | ⟨f,first,cap,e⟩
   ·exact⟨v,a.eval x,fun W=>by simp [execOp,e],hx',hK⟩
   ·exact⟨v,a.eval x,fun W=>by simp [execOp,e],hx',hK⟩
  split at h
  ·rename_i hx;exact same hx h (fun y hy=>by simp only[Den]at hy;obtain⟨r,_,rfl⟩:=hy;exact .inl ⟨_,_,rfl⟩)
  ·rename_i hx;exact same hx h (fun y hy=>by simp only[Den]at hy;obtain⟨r,_,rfl⟩:=hy;exact .inl ⟨_,_,rfl⟩)
  ·rename_i hx;exact same hx h (fun y hy=>by simp only[Den]at hy;obtain⟨r,_,rfl⟩:=hy;exact .inl ⟨_,_,rfl⟩)
  ·rename_i hx;exact same hx h (fun y hy=>by simp only[Den]at hy;obtain⟨r,_,rfl⟩:=hy;exact .inl ⟨_,_,rfl⟩)
  ·rename_i hx;exact same hx h (fun y hy=>by simp only[Den]at hy;obtain⟨b,off,rfl,_⟩:=hy;exact .inl ⟨_,_,rfl⟩)
  ·rename_i o hx
   obtain⟨e,rfl,h⟩:=h
   have e1:=bT hf hx
   simp only[Den]at e1
   rcases e1 with ⟨e1,_⟩ | ⟨e',b,he,e1,e2⟩
   ·cases e1
   ·cases he
    refine⟨_,a.eval x,fun W=>by simp [execOp,e1],?_,h⟩
    simp only[Den]
    exact⟨b,0,e1,e2⟩
  ·rename_i hx;exact same hx h (fun y hy=>by simp only[Den]at hy;obtain⟨vs,rfl,_⟩:=hy;exact .inr ⟨_,_,_,rfl⟩)
  ·rename_i hx;exact same hx h (fun y hy=>by simp only[Den,bI]at hy;exact .inr ⟨_,_,_,hy.1⟩)
  ·rename_i hx;exact same hx h (fun y hy=>by simp only[Den]at hy;exact .inr ⟨_,_,_,hy⟩)
  ·exact h.elim
 ·split at h
  ·rename_i s x m v hv
   obtain⟨u,z,h1,h2,h3⟩:=Y1 h (bT hf hv)
   exact⟨u,z,fun W=>by simp [execOp,h1],h2,h3⟩
  ·exact h.elim
 ·split at h
  ·rename_i t x i v u hv hu
   obtain⟨w,z,h1,h2,h3⟩:=aaA h hi (bT hf hv) (mW hf hu)
   exact⟨w,z,fun W=>by simp [execOp,h1],h2,h3⟩
  ·exact h.elim
 ·split at h
  ·rename_i t x lo hi' v l hh hv hl HH
   obtain⟨w,z,h1,h2,h3⟩:=aeU h hi (bT hf hv) (xU hf hl) (xU hf HH)
   exact⟨w,z,fun W=>by simp [execOp,h1],h2,h3⟩
  ·exact h.elim
 ·split at h
  ·rename_i t x lo hi' m v l hh mm hv hl HH hm
   obtain⟨w,z,h1,h2,h3⟩:=aeT h (bT hf hv) (xU hf hl) (xU hf HH) (xU hf hm)
   exact⟨w,z,fun W=>by have:=h1 W;simp only[Option.map_some]at this;simp [execOp,this],h2,h3⟩
  ·exact h.elim
 ·split at h
  ·rename_i t x v hv
   obtain⟨w,z,h1,h2,h3⟩:=Xh h (bT hf hv)
   exact⟨w,z,fun W=>by simp [execOp,h1],h2,h3⟩
  ·exact h.elim
 ·split at h
  ·rename_i t x m u hu
   obtain⟨v,hv,hu⟩:=kW.1 hu
   obtain⟨z,h1,h2⟩:=Y2 hu (bT hf hv)
   exact⟨u,z,fun W=>by simp [execOp,h1],h2,h⟩
  ·exact h.elim
 ·split at h
  ·rename_i t x i l u hv hu
   obtain⟨w,z,h1,h2,h3⟩:=YL h (bT hf hv) (mW hf hu)
   exact⟨w,z,fun W=>by simp [execOp,h1],h2,h3⟩
  ·exact sB h
 ·split at h
  ·rename_i x m l hv
   split at h
   ·rename_i v hm
    have hx:=bT hf hv
    simp only[Den]at hx
    obtain⟨vs,hx,hD⟩:=hx
    obtain⟨y,hy,hy2⟩:=hD.get hm
    exact⟨v,y,fun W=>by simp [execOp,hx,Instr.extract,hy],hy2,h⟩
   ·exact h.elim
  ·exact h.elim
 ·split at h
  ·rename_i t parts x1 ps hps
   split at h
   ·rename_i l hl
    obtain⟨z,h1,h2⟩:=XG hl (GA hf hps)
    refine⟨_,z,fun W=>?_,h2,h⟩
    have e:(parts.toList.map fun x=>(x.1,a.eval x.2)).toArray=parts.map fun x=>(x.1,a.eval x.2):=by
     apply Array.ext';simp
    have:=h1 W
    rw[show(parts.toList.map fun(i,x)=>(i,a.eval x))=parts.toList.map (fun x=>(x.1,a.eval x.2))from rfl,e]at this
    simp [execOp,this]
   ·exact h.elim
  ·exact h.elim
 ·split at h
  ·rename_i f first cap x1 x2 vs Z_ hvs
   have hD:=Bm hf hvs
   have aaa:first=#[]:=by apply Array.ext';simpa using Z_
   subst aaa
   refine⟨_,_,fun W=>by simp [execOp,Instr.makeFunc];rfl,?_,h⟩
   simp only[Den]
   exact⟨_,by congr 1;apply Array.ext';simp,hD⟩
  ·exact h.elim
 ·rename_i c
  split at h
  case h_2=>exact sB h
  rename_i x t j9 hargs lH
  obtain⟨callee,args,argTypes⟩:=c
  simp only at j9 hargs lH
  subst j9
  have pp:args=#[x]:=by apply Array.ext';simpa using hargs
  have pq:argTypes=#[t]:=by apply Array.ext';simpa using lH
  subst pp;subst pq
  have Il:∀{v:V},ev fr x=some v->vQ P t v K->∃ v y,(∀ W,(execOp a.eval {dst,op:=.call ⟨.builtin .len,#[x],#[t]⟩,type:=ty,pos,after,guard }).run P W= .ok (.value y) W)/\Den σ E v y/\K v:=by
   intro v hv h
   obtain⟨w,z,h1,h2,h3⟩:=aa1 h (bT hf hv) ty
   exact⟨w,z,fun W=>by simp [execOp,resolve,invoke,builtin,h1],h2,h3⟩
  split at h<;>try exact h.elim
  rename_i v hv
  split at h
  ·exact Il hv h
  ·split at h
   ·exact Il hv h
   ·exact Il hv h
   ·exact sB h
 ·rename_i t x y _
  split at h<;>try exact h.elim
  rename_i u v hx hy
  split at h
  ·rename_i H0
   exact⟨_,_,fun W=>by
    have:=TK (x:=x) (y:=y) H0 (bT hf hx) (bT hf hy) .eql (.inl rfl) W
    simp only[execOp]
    rw[Sem.run_bind,this,Result.andThen_ok]
    rfl,by simp [Den],h⟩
  ·rename_i xs ys _
   split at h<;>try exact h.elim
   rename_i b hg he
   exact⟨_,_,fun W=>by
    have:=TF (x:=x) (y:=y) hg he (bT hf hx) (bT hf hy) .eql (.inl rfl) W
    simp only[execOp]
    rw[Sem.run_bind,this,Result.andThen_ok]
    rfl,QR _ _ _ _,h⟩
  ·exact Ng h
 ·rename_i t x y _
  split at h<;>try exact h.elim
  rename_i u v hx hy
  split at h
  ·rename_i H0
   exact⟨_,_,fun W=>by
    have:=TK (x:=x) (y:=y) H0 (bT hf hx) (bT hf hy) .neq (.inr rfl) W
    simp only[execOp]
    rw[Sem.run_bind,this,Result.andThen_ok]
    rfl,by simp [Den],h⟩
  ·rename_i xs ys _
   split at h<;>try exact h.elim
   rename_i b hg he
   exact⟨_,_,fun W=>by
    have:=TF (x:=x) (y:=y) hg he (bT hf hx) (bT hf hy) .neq (.inr rfl) W
    simp only[execOp]
    rw[Sem.run_bind,this,Result.andThen_ok]
    rfl,QR _ _ _ _,h⟩
  ·exact Ng h
 ·split at h
  ·exact yz h hf
  ·exact sB h
 ·split at h
  ·exact yz h hf
  ·exact sB h
 ·split at h
  ·exact yz h hf
  ·exact sB h
 ·split at h
  ·exact yz h hf
  ·exact sB h
 ·exact sB h
structure Wa (n:Int):Prop where
 lo:0<=n
 hi:n<=65536
def xF (P:Program) (t:TypeId):Option TypeId:=
 match P.underlying t with
 |some (.chan _ e)=>some e
 |_=>none
theorem Nt {P:Program} {t e:TypeId} (h:xF P t=some e):∃ d,P.underlying t=some (.chan d e):=by
 unfold xF at h
 split at h
 ·rename_i d e' h1
  cases h;exact⟨d,h1⟩
 ·cases h
def Ix (P:Program) (t:TypeId) (n:V) (kb:KB) (K:V->KB->Prop):Prop:=
 match xF P t with
 |some e=>match nB P e,mE P 20 e,P.info? e,n with
  |some agg,some gg,some inf,.int γ m=>match Nat.ble inf.bytes 65536 with
   |true=>Wa m/\K (.ch kb.length) (kb++[.ch agg (wk gg) m.toNat []])
   |false=>False
  |_,_,_,_=>False
 |none=>False
theorem abe {P:Program} {t:TypeId} {n:V} {kb:KB} {K:V->KB->Prop} (h:Ix P t n kb K) {σ:Sg} {E:EH} {W:World} (hi:Inv σ E kb W) {x:Value} (hx:Den σ E n x):
  ∃ v y σ' kb' W',(Instr.makeChan t x).run P W= .ok y W'/\Step σ E kb W σ' E kb' W'/\Den σ' E v y/\K v kb':=by
 unfold Ix at h
 split at h<;>try exact h.elim
 rename_i e he
 obtain⟨d,hu⟩:=Nt he
 split at h<;>try exact h.elim
 rename_i agg gg inf m ha hk lI
 split at h<;>try exact h.elim
 rename_i hb
 obtain⟨⟨hlo,hhi⟩,h⟩:=h
 have hb:=Nat.le_of_ble_eq_true hb
 simp only[Den]at hx
 subst hx
 have hmul:(inf.bytes:Int)*m<=65536*65536:=Int.mul_le_mul (by omega) hhi hlo (by omega)
 have aig:¬ (m<0∨m > γ.max∨(inf.bytes:Int)*m > 2 ^ 48 - 112):=by
  have:γ.max=9223372036854775807:=by decide
  rw[this];omega
 refine⟨_,.chan (some W.heap.size),_,_,W.alloc (.chan m.toNat #[] false 0 0 false),?_,hi.alloc (.chan m.toNat #[] false 0 0 false) ⟨W.heap.size,0,0⟩ (.ch agg (wk gg) m.toNat []) (fun b hb=>hb) ⟨wl.nil,bt _,#[],0,0,?_,by simp [fF]⟩,?_,h⟩
 ·unfold Instr.makeChan
  have hc1:¬ (m<0∨9223372036854775807<m∨281474976710544<(inf.bytes:Int)*m):=by omega
  simp [asInt,asIntOf,run_underlying hu,typeInfo,lI,hc1]
 ·show(W.heap.push _)[W.heap.size]? =_
  simp
 ·simp only[Den]
  exact⟨⟨W.heap.size,0,0⟩,by rw[<- hi.len];simp,rfl⟩
def FQ (P:Program) (t:TypeId) (m:V) (kb:KB) (K:V->Prop):Prop:=
 match xF P t with
 |some _=>match m with
  | .ch i=>match kb[i]? with
   |some (.ch _ _ _ l)=>K (.int γ (l.length:Int))
   |_=>False
  |_=>False
 |none=>False
theorem XV {P:Program} {t:TypeId} {m:V} {kb:KB} {K:V->Prop} (h:FQ P t m kb K) {σ:Sg} {E:EH} {W:World} (hi:Inv σ E kb W) {x:Value} (hx:Den σ E m x) (ty:TypeId):
  ∃ v z,(Builtin.len_ #[t] ty #[x]).run P W= .ok z W/\Den σ E v z/\K v:=by
 unfold FQ at h
 split at h<;>try exact h.elim
 rename_i q ht
 obtain⟨d,hu⟩:=Nt ht
 split at h<;>try exact h.elim
 rename_i i
 split at h<;>try exact h.elim
 rename_i agg sz cap l hl
 simp only[Den]at hx
 obtain⟨r,hr,rfl⟩:=hx
 obtain⟨_,_,bf,s,rr,g1,g2⟩:=hi.obj i r _ hr hl
 have eJ:(getObj r.blk).run P W= .ok (.chan cap bf false s rr false) W:=by simp [getObj,Sem.run,g1]
 have:=g2.len
 exact⟨_,_,by simp [Builtin.len_,run_underlying hu,eJ];rfl,by simp only[Den,goInt];rw[show bf.size=l.length by simpa using this],h⟩
def Im (P:Program) (t:TypeId) (m:V) (kb:KB) (K:V->Prop):Prop:=
 match xF P t with
 |some _=>FQ P t m kb K
 |none=>IA P t m kb K
theorem aa2 {P:Program} {t:TypeId} {m:V} {kb:KB} {K:V->Prop} (h:Im P t m kb K) {σ:Sg} {E:EH} {W:World} (hi:Inv σ E kb W) {x:Value} (hx:Den σ E m x) (ty:TypeId):
  ∃ v z,(Builtin.len_ #[t] ty #[x]).run P W= .ok z W/\Den σ E v z/\K v:=by
 unfold Im at h
 split at h
 ·exact XV h hi hx ty
 ·exact abh h hi hx ty
def Kb (P:Program) (e:TypeId) (i:Nat) (v:V) (kb:KB) (K:V->KB->Prop):Prop:=
 match nB P e,fL P e,(P.info? e).bind (·.zero)with
 |some agg,some n,some _=>match (match v with | .agg _=>agg | _=> !agg)with
  |true=>cellsD P e v kb (fun ds kb=>match kb[i]? with
   |some (.ch iQ sz cap l)=>match (agg == iQ),cq n sz with
    |true,true=>(l.length<cap->K (.χ [.lit γ 0,.ff]) (kb.set i (.ch iQ sz cap (l++[ds]))))/\(¬ l.length<cap->K (.χ [.lit γ (-1),.ff]) kb)
    |_,_=>False
   |_=>False)
  |false=>False
 |_,_,_=>False
def JQ (P:Program) (e:TypeId) (i:Nat) (kb:KB) (K:V->KB->Prop):Prop:=
 match nB P e,mE P 20 e,(P.info? e).bind (·.zero)with
 |some agg,some gg,some _=>match kb[i]? with
  |some (.ch iQ sz cap l)=>match (agg == iQ),cq (wk gg) sz with
   |true,true=>(∀ c l',l=c::l'->np c 0 gg (fun vs=>o0 agg vs (fun v=>K (.χ [.lit γ 0,.tt,v]) (kb.set i (.ch iQ sz cap l')))))/\(l=[]->wY P e agg (fun v=>K (.χ [.lit γ (-1),.ff,v]) kb))
   |_,_=>False
  |_=>False
 |_,_,_=>False
theorem fF.cons_inv {E:EH} {agg:Bool} {buf:Array Value} {c:List D} {l:List (List D)} (h:fF E agg buf.toList (c::l)):0<buf.size/\(∃ ys,buf.getD 0 undef=dM agg ys/\a_ E c ys)/\fF E agg (buf.extract 1 buf.size).toList l:=by
 obtain⟨bl⟩:=buf
 cases bl with
 |nil=>simp only[fF]at h;cases h
 |cons v vs=>
  simp only[fF]at h
  obtain⟨c',l',h0,h1,h2⟩:=h
  cases h0
  refine⟨by simp,?_,?_⟩
  ·obtain⟨ys,e1,e2⟩:=h1
   exact⟨ys,by simp [e1],e2⟩
  ·simpa [List.extract]using h2
theorem Lm {P:Program} {e:TypeId} {z:Value} (h:(P.info? e).bind (·.zero)=some z) (W:World):(zeroValue e).run P W= .ok z W:=by
 obtain⟨it,hit,nR⟩:=kW.1 h
 simp [zeroValue,typeInfo,hit,nR]
theorem aeQ {P:Program} {e:TypeId} {i:Nat} {v:V} {kb:KB} {K:V->KB->Prop} (h:Kb P e i v kb K) {σ:Sg} {E:EH} {W:World} (hi:Inv σ E kb W) {r:Re} (hr:σ[i]? =some r) {x:Value} (hx:Den σ E v x):
  ∃ cap buf s rr z,W.heap[r.blk]? =some (.chan cap buf false s rr false)/\(zeroValue e).run P W= .ok z W/\
   (buf.size<cap->∃ E' kb',Step σ E kb W σ E' kb' (W.setChan r.blk cap (buf.push x) false (s+1) rr false)/\K (.χ [.lit γ 0,.ff]) kb')/\
   (¬ buf.size<cap->∃ E' kb',Step σ E kb W σ E' kb' W/\K (.χ [.lit γ (-1),.ff]) kb'):=by
 unfold Kb at h
 split at h<;>try exact h.elim
 rename_i agg n z ha hn hz
 split at h<;>try exact h.elim
 rename_i x8
 have h0:=h
 obtain⟨E1,eN,ds,xs,s1,hc,hD,h,ke⟩:=vq h hi hx
 split at h<;>try exact h.elim
 rename_i iQ sz cap l hl
 split at h<;>try exact h.elim
 rename_i c1 c2
 have e1:agg=iQ:=by simpa using c1
 have e2:=cP c2
 subst e1;subst e2
 obtain⟨hw,hlen,bf,s,rr,g1,g2⟩:=s1.inv.obj i r _ hr hl
 have cj:=g2.len
 have cj:bf.size=l.length:=by simpa using cj
 rw[hn]at ke
 have ke:=bc.inj ke
 have hval:x=dM agg xs:=by
  by_cases hv:∃ vs,v= .agg vs
  ·obtain⟨vs,rfl⟩:=hv
   simp only at x8
   subst x8
   simp only[Den]at hx
   obtain⟨us,rfl,_⟩:=hx
   simp only[Value.cells]at hc
   simp [dM,hc]
  ·have x8:agg=false:=by
    cases v<;>first | (exact absurd ⟨_,rfl⟩ hv) | simpa using x8
   subst x8
   have hone:x.oneCell'=true:=one_den (Nr h0 (fun vs q=>hv ⟨vs,q⟩)) hx
   have hxz:xs=[x]:=by
    have nR:x.cells=#[x]:=by cases x<;>simp_all [Value.cells,l0]
    rw[nR]at hc
    have:=congrArg Array.toList hc
    simpa using this.symm
   simp [dM,hxz]
 have hlt:r.blk<W.heap.size:=(Array.getElem?_eq_some_iff.1 g1).1
 refine⟨cap,bf,s,rr,z,g1,Lm hz W,fun hroom=>?_,fun hfull=>⟨E1,eN,s1,h.2 (by omega)⟩⟩
 refine⟨E1,_,s1.trans (s1.inv.set (o':=.ch agg n cap (l++[ds])) hr hl rfl rfl rfl (by simp [World.setChan]) (fun b hb=>?_) (fun b hb=>hb) ⟨?_,?_,bf.push x,s+1,rr,?_,?_⟩),h.1 (by omega)⟩
 ·simp only[owned]at hb
  show(W.heap.setIfInBounds r.blk _)[b]? =_
  rw[Array.getElem?_setIfInBounds_ne (fun e=>hb e.symm)]
 ·exact hw.append (fun y hy=>by simp at hy;subst hy;rw[<- hD.len];omega)
 ·simp;omega
 ·show(W.heap.setIfInBounds r.blk _)[r.blk]? =_
  simp [hlt]
 ·rw[Array.toList_push]
  exact g2.snoc ⟨xs,hval,hD⟩
theorem aee {P:Program} {e:TypeId} {i:Nat} {kb:KB} {K:V->KB->Prop} (h:JQ P e i kb K) {σ:Sg} {E:EH} {W:World} (hi:Inv σ E kb W) {r:Re} (hr:σ[i]? =some r):
  ∃ cap buf s rr z,W.heap[r.blk]? =some (.chan cap buf false s rr false)/\(zeroValue e).run P W= .ok z W/\
   (0<buf.size->∃ u kb',Step σ E kb W σ E kb' (W.setChan r.blk cap (buf.extract 1 buf.size) false s (rr+1) false)/\Den σ E u (buf.getD 0 undef)/\K (.χ [.lit γ 0,.tt,u]) kb')/\
   (buf=#[]->∃ u,Den σ E u z/\K (.χ [.lit γ (-1),.ff,u]) kb):=by
 unfold JQ at h
 split at h<;>try exact h.elim
 rename_i agg gg z ha ZY hz
 split at h<;>try exact h.elim
 rename_i iQ sz cap l hl
 split at h<;>try exact h.elim
 rename_i c1 c2
 have e1:agg=iQ:=by simpa using c1
 have e2:=cP c2
 subst e1;subst e2
 obtain⟨hw,hlen,bf,s,rr,g1,g2⟩:=hi.obj i r _ hr hl
 have hlt:r.blk<W.heap.size:=(Array.getElem?_eq_some_iff.1 g1).1
 refine⟨cap,bf,s,rr,z,g1,Lm hz W,fun hsome=>?_,fun hnone=>?_⟩
 ·cases l with
  |nil=>
   have:=g2.len
   simp at this
   subst this
   simp at hsome
  |cons c l'=>
   obtain⟨_,⟨ys,hv,hD⟩,ru⟩:=g2.cons_inv
   obtain⟨vs,xs,hK,Hd,HN,hxs⟩:=pC (σ:=σ) hD (h.1 c l' rfl)
   obtain⟨u,k1,k2,k3⟩:=uN hK Hd
   have jx:ys.length=wk gg:=by rw[hD.len];exact hw c (by simp)
   have Hs:ys=xs:=by
    apply lB
    intro q
    rcases jF q xs.length with hq | hq
    ·rw[bz hq]
     have:=hxs q _ (bz hq)
     simpa using this
    ·rw[g_ hq,g_ (by omega)]
   subst Hs
   refine⟨u,_,hi.set (o':=.ch agg (wk gg) cap l') hr hl rfl rfl rfl (by simp [World.setChan]) (fun b hb=>?_) (fun b hb=>hb) ⟨hw.cons,?_,bf.extract 1 bf.size,s,rr+1,?_,ru⟩,?_,k1⟩
   ·simp only[owned]at hb
    show(W.heap.setIfInBounds r.blk _)[b]? =_
    rw[Array.getElem?_setIfInBounds_ne (fun e=>hb e.symm)]
   ·simp at hlen;omega
   ·show(W.heap.setIfInBounds r.blk _)[r.blk]? =_
    simp [hlt]
   ·rw[hv];exact k2
 ·subst hnone
  simp only[fF]at g2
  subst g2
  obtain⟨v,z',z1,z2,z3⟩:=D2 (h.2 rfl) σ E W
  rw[Lm hz W]at z1
  cases z1
  exact⟨v,z2,z3⟩
abbrev bN:=FuncId->List V->KB->(V->KB->Prop)->Prop
def b9 (P:Program) (X:bN):Prop:=∀ f args kb K,X f args kb K->∀ σ E W xs,Inv σ E kb W->aq σ E args xs->
 Calls P f xs.toArray W (fun e W'=>∃ v r σ' E' kb',e= .returned v/\Step σ E kb W σ' E' kb' W'/\Den σ' E' r v/\K r kb')
def BC (P:Program) (f:FuncId):Bool:=
 match P.funcs[f]? with
 |some fn=>fn.body.isSome && !(fn.name == "runtime.NumGoroutine")
 |none=>false
def Gl (P:Program) (X:bN) (o:Oper) (fr:Fr) (kb:KB) (K:V->KB->Prop):Prop:=
 match o.op with
 | .load t x=>match ev fr x with | some ad=>nq P t ad kb (fun v=>K v kb) | none=>False
 | .store t x y=>match ev fr x,kZ fr y with | some ad,some v=>Ky P t ad v kb (fun kb'=>K (.any undef) kb') | _,_=>False
 | .alloc t=>Ff P t kb K
 | .lookup t x k ok=>match ev fr x,ev fr k with | some m,some u=>Ck P t m u ok kb (fun v=>K v kb) | _,_=>False
 | .mapUpdate t x k y=>match ev fr x,ev fr k,kZ fr y with | some m,some u,some v=>DH P t m u v kb (fun kb'=>K (.any undef) kb') | _,_,_=>False
 | .insert t x k y=>match ev fr x,ev fr k,kZ fr y with | some m,some u,some v=>DH P t m u v kb (fun kb'=>K (.any undef) kb') | _,_,_=>False
 | .makeMap t none=>Iy P t kb K
 | .makeChan t x=>match ev fr x with | some n=>Ix P t n kb K | none=>False
 | .makeSlice t l c=>match ev fr l,ev fr c with | some n,some m=>Iz P t n m kb K | _,_=>False
 | .box t x=>match kZ fr x with | some v=>Fy P t v kb K | none=>False
 | .buildSlice t len parts=>match vB fr parts.toList with | some ps=>FA P t len ps kb K | none=>False
 | .convert src dst x=>match ev fr x with | some v=>Kz P src dst v kb K | none=>False
 | .call c=>match c.callee with
  | .builtin .append=>match c.args.toList,c.argTypes.toList with
   | [x,y],[t,u]=>match ev fr x,ev fr y with | some d,some s=>Fi P t u d s kb K | _,_=>False
   |_,_=>False
  | .builtin .copy=>match c.args.toList,c.argTypes.toList with
   | [x,y],[t,u]=>match ev fr x,ev fr y with | some d,some s=>F0 P t d s kb K | _,_=>False
   |_,_=>False
  | .builtin .delete=>match c.args.toList,c.argTypes.toList with
   | [x,y],[t,u]=>match ev fr x,ev fr y with | some d,some s=>F6 P t d s kb (fun kb'=>K (.χ []) kb') | _,_=>False
   |_,_=>False
  | .builtin .clear=>match c.args.toList,c.argTypes.toList with
   | [x],[t]=>match ev fr x with | some d=>FS P t d kb (fun kb'=>K (.χ []) kb') | _=>False
   |_,_=>False
  | .builtin .len=>match c.args.toList,c.argTypes.toList with
   | [x],[t]=>match ev fr x with | some d=>Im P t d kb (fun v=>K v kb) | _=>False
   |_,_=>False
  | .value f=>match ev fr f,evs fr c.args.toList with
   |some (.fn g cap),some vs=>match BC P g with | true=>X g (vs++cap) kb K | false=>False
   |_,_=>False
  |_=>False
 |_=>False
def pH (P:Program) (X:bN) (o:Oper) (fr:Fr) (kb:KB) (K:V->KB->Prop):Prop:=
 match isPure P o.op with
 |true=>yP P o fr kb (fun v=>K v kb)
 |false=>Gl P X o fr kb K
def u7 (σ:Sg) (E:EH) (kb:KB) (W:World) (a:Act) (o:Oper) (K:V->KB->Prop) (a':Act) (W':World):Prop:=
 ∃ σ' E' kb' v x,Step σ E kb W σ' E' kb' W'/\Den σ' E' v x/\a'=a.put o.dst x/\K v kb'
theorem lp {P:Program} {o:Oper} {a:Act} {W:World} {next:Act->World->Prop} {Q:Exit->Act->World->Prop} {x:Value} {W':World} (h:(execOp a.eval o).run P W= .ok (.value x) W') (k:next (a.put o.dst x) W'):o.wp P a W next Q:=by
 unfold Oper.wp;rw[h];exact k
theorem v8 {P:Program} {X:bN} (hX:b9 P X) {o:Oper} {fr:Fr} {kb:KB} {K:V->KB->Prop} (h:pH P X o fr kb K) {σ:Sg} {E:EH} {n:Nat} {a:Act} (hf:eG σ E fr n a) {W:World} (hi:Inv σ E kb W) (Q:Exit->Act->World->Prop):
  o.wp P a W (u7 σ E kb W a o K) Q:=by
 unfold pH at h
 split at h
 ·obtain⟨v,x,h1,h2,h3⟩:=JH h hf hi
  exact lp (h1 W) ⟨σ,E,kb,v,x,Step.refl hi,h2,rfl,h3⟩
 ·rename_i hpure
  clear hpure
  obtain⟨dst,op,ty,pos,after,guard⟩:=o
  unfold Gl at h
  simp only at h
  split at h
  ·split at h
   ·rename_i t x ad had
    obtain⟨v,y,h1,h2,h3⟩:=Is h hi (bT hf had)
    exact lp (by simp [execOp,h1]) ⟨σ,E,kb,v,y,Step.refl hi,h2,rfl,h3⟩
   ·exact h.elim
  ·split at h
   ·rename_i t x y x1 x2 ad v had hv
    obtain⟨E',kb',W',h1,h2,h3⟩:=afo h hi (bT hf had) (mW hf hv)
    unfold Oper.wp
    rw[show(execOp a.eval {dst,op:=.store t x y,type:=ty,pos,after,guard }).run P W= .ok .skip W' by simp [execOp,h1]]
    exact⟨σ,E',kb',.any undef,undef,h2,by simp [Den],rfl,h3⟩
   ·exact h.elim
  ·rename_i t
   obtain⟨v,x,σ',kb',W',h1,h2,h3,h4,_⟩:=MQ h hi
   exact lp (by simp [execOp,h1]) ⟨σ',E,kb',v,x,h2,h3,rfl,h4⟩
  ·split at h
   ·rename_i t x k ok x1 x2 m u hm hu
    obtain⟨v,y,h1,h2,h3⟩:=QZ h hi (bT hf hm) (bT hf hu)
    exact lp (by simp [execOp,h1]) ⟨σ,E,kb,v,y,Step.refl hi,h2,rfl,h3⟩
   ·exact h.elim
  ·split at h
   ·rename_i t x k y x1 x2 x3 m u v hm hu hv
    obtain⟨E',kb',W',h1,h2,h3⟩:=Vi h hi (bT hf hm) (bT hf hu) (mW hf hv)
    unfold Oper.wp
    rw[show(execOp a.eval {dst,op:=.mapUpdate t x k y,type:=ty,pos,after,guard }).run P W= .ok .skip W' by simp [execOp,h1]]
    exact⟨σ,E',kb',.any undef,undef,h2,by simp [Den],rfl,h3⟩
   ·exact h.elim
  ·split at h
   ·rename_i t x k y x1 x2 x3 m u v hm hu hv
    obtain⟨E',kb',W',h1,h2,h3⟩:=Vi h hi (bT hf hm) (bT hf hu) (mW hf hv)
    unfold Oper.wp
    rw[show(execOp a.eval {dst,op:=.insert t x k y,type:=ty,pos,after,guard }).run P W= .ok .skip W' by simp [execOp,h1]]
    exact⟨σ,E',kb',.any undef,undef,h2,by simp [Den],rfl,h3⟩
   ·exact h.elim
  ·rename_i t
   obtain⟨v,x,σ',kb',W',h1,h2,h3,h4⟩:=abf h hi
   exact lp (by simp [execOp,h1]) ⟨σ',E,kb',v,x,h2,h3,rfl,h4⟩
  ·split at h
   ·rename_i t x0 m hm
    obtain⟨v,x,σ',kb',W',h1,h2,h3,h4⟩:=abe h hi (bT hf hm)
    exact lp (by simp [execOp,h1]) ⟨σ',E,kb',v,x,h2,h3,rfl,h4⟩
   ·exact h.elim
  ·split at h
   ·rename_i t l c x1 x2 n m hn hm
    obtain⟨v,x,σ',kb',W',h1,h2,h3,h4⟩:=abg h hi (bT hf hn) (bT hf hm)
    exact lp (by simp [execOp,h1]) ⟨σ',E,kb',v,x,h2,h3,rfl,h4⟩
   ·exact h.elim
  ·split at h
   ·rename_i t x v hv
    obtain⟨u,y,σ',kb',W',h1,h2,h3,h4⟩:=XA h hi (mW hf hv)
    exact lp (by simp [execOp,h1]) ⟨σ',E,kb',u,y,h2,h3,rfl,h4⟩
   ·exact h.elim
  ·split at h
   ·rename_i t len parts x1 ps hps
    obtain⟨u,y,σ',E',kb',W',h1,h2,h3,h4⟩:=XF h hi (GA hf hps)
    have e:(parts.toList.map fun x=>(x.1,a.eval x.2)).toArray=parts.map fun x=>(x.1,a.eval x.2):=by
     apply Array.ext';simp
    rw[show(parts.toList.map fun(i,x)=>(i,a.eval x))=parts.toList.map (fun x=>(x.1,a.eval x.2))from rfl,e]at h1
    exact lp (by simp [execOp,h1]) ⟨σ',E',kb',u,y,h2,h3,rfl,h4⟩
   ·exact h.elim
  ·split at h
   ·rename_i src dst' x v hv
    obtain⟨u,y,E',kb',W',h1,h2,h3,h4⟩:=afp h hi (bT hf hv)
    exact lp (by simp [execOp,h1]) ⟨σ,E',kb',u,y,h2,h3,rfl,h4⟩
   ·exact h.elim
  ·rename_i c
   split at h
   ·rename_i j9
    split at h
    ·rename_i x y t u hargs lH
     split at h
     ·rename_i d s hd hs
      obtain⟨callee,args,argTypes⟩:=c
      simp only at j9 hargs lH
      subst j9
      have pp:args=#[x,y]:=by apply Array.ext';simpa using hargs
      have pq:argTypes=#[t,u]:=by apply Array.ext';simpa using lH
      subst pp;subst pq
      obtain⟨v,z,σ',kb',W',h1,h2,h3,h4⟩:=Xf h hi (bT hf hd) (bT hf hs) ty
      exact lp (by simp [execOp,resolve,invoke,builtin,h1]) ⟨σ',E,kb',v,z,h2,h3,rfl,h4⟩
     ·exact h.elim
    ·exact h.elim
   ·rename_i j9
    split at h
    ·rename_i x y t u hargs lH
     split at h
     ·rename_i d s hd hs
      obtain⟨callee,args,argTypes⟩:=c
      simp only at j9 hargs lH
      subst j9
      have pp:args=#[x,y]:=by apply Array.ext';simpa using hargs
      have pq:argTypes=#[t,u]:=by apply Array.ext';simpa using lH
      subst pp;subst pq
      obtain⟨v,z,kb',W',h1,h2,h3,h4⟩:=X_ h hi (bT hf hd) (bT hf hs) u ty
      exact lp (by simp [execOp,resolve,invoke,builtin,h1]) ⟨σ,E,kb',v,z,h2,h3,rfl,h4⟩
     ·exact h.elim
    ·exact h.elim
   ·rename_i j9
    split at h
    ·rename_i x y t u hargs lH
     split at h
     ·rename_i d s hd hs
      obtain⟨callee,args,argTypes⟩:=c
      simp only at j9 hargs lH
      subst j9
      have pp:args=#[x,y]:=by apply Array.ext';simpa using hargs
      have pq:argTypes=#[t,u]:=by apply Array.ext';simpa using lH
      subst pp;subst pq
      obtain⟨kb',W',h1,h2,h3⟩:=Yo h hi (bT hf hd) (bT hf hs) u ty
      exact lp (by simp [execOp,resolve,invoke,builtin,h1]) ⟨σ,E,kb',.χ [],.tuple #[],h2,by simp [Den,aq],rfl,h3⟩
     ·exact h.elim
    ·exact h.elim
   ·rename_i j9
    split at h
    ·rename_i x t hargs lH
     split at h
     ·rename_i d hd
      obtain⟨callee,args,argTypes⟩:=c
      simp only at j9 hargs lH
      subst j9
      have pp:args=#[x]:=by apply Array.ext';simpa using hargs
      have pq:argTypes=#[t]:=by apply Array.ext';simpa using lH
      subst pp;subst pq
      obtain⟨kb',W',h1,h2,h3⟩:=X2 h hi (bT hf hd) ty
      exact lp (by simp [execOp,resolve,invoke,builtin,h1]) ⟨σ,E,kb',.χ [],.tuple #[],h2,by simp [Den,aq],rfl,h3⟩
     ·exact h.elim
    ·exact h.elim
   ·rename_i j9
    split at h
    ·rename_i x t hargs lH
     split at h
     ·rename_i d hd
      obtain⟨callee,args,argTypes⟩:=c
      simp only at j9 hargs lH
      subst j9
      have pp:args=#[x]:=by apply Array.ext';simpa using hargs
      have pq:argTypes=#[t]:=by apply Array.ext';simpa using lH
      subst pp;subst pq
      obtain⟨v,z,h1,h2,h3⟩:=aa2 h hi (bT hf hd) ty
      exact lp (by simp [execOp,resolve,invoke,builtin,h1]) ⟨σ,E,kb,v,z,Step.refl hi,h2,rfl,h3⟩
     ·exact h.elim
    ·exact h.elim
   ·rename_i fo j9
    split at h
    ·rename_i g cap vs hg hvs
     split at h
     ·rename_i hb
      obtain⟨callee,args,argTypes⟩:=c
      simp only at j9 hvs
      subst j9
      have yc:=bT hf hg
      simp only[Den]at yc
      obtain⟨cs,HF,hcs⟩:=yc
      have hD:=Bm hf hvs
      have Hq:=hX g _ kb K h σ E W _ hi (hD.append hcs)
      unfold BC at hb
      split at hb
      ·rename_i fn hfn
       simp only[iW,Bool.not_eq_true',beq_eq_false_iff_ne,ne_eq]at hb
       unfold Oper.wp
       have hrun:(execOp a.eval {dst,op:=.call ⟨.value fo,args,argTypes⟩,type:=ty,pos,after,guard }).run P W= .ok (.enter g (args.toList.map a.eval++cs).toArray) W:=by
        have e:(args.toList.map a.eval++cs).toArray=args.map a.eval++cs.toArray:=by apply Array.ext';simp
        obtain⟨body,hbody⟩:=Option.isSome_iff_exists.1 hb.1
        rw[e]
        simp [execOp,resolve,Deferred.ofValue,HF,invoke,callFunc,hfn,hb.2,hbody]
       rw[hrun]
       refine Hq.mono ?_
       rintro e W' ⟨v,r,σ',E',kb',rfl,h1,h2,h3⟩
       exact⟨σ',E',kb',r,v,h1,h2,rfl,h3⟩
      ·cases hb
     ·exact h.elim
    ·exact h.elim
   ·exact h.elim
  ·exact h.elim
def sM (ops:Array Oper) (o:Oper) (fr:Fr) (yes no:Fr->Prop):Prop:=
 match o.guard with
 |none=>yes fr
 |some (j,want)=>match (ops[j]?).bind (·.dst)with
  |some d=>match look fr d with
   |some .tt=>match want with | true=>yes fr | false=>no fr
   |some .ff=>match want with | true=>no fr | false=>yes fr
   |some (.sb b)=>(b=true->match want with | true=>yes ((d,.tt)::fr) | false=>no ((d,.tt)::fr))/\
    (b=false->match want with | true=>no ((d,.ff)::fr) | false=>yes ((d,.ff)::fr))
   |some (.any (.tuple _))=>no fr
   |_=>False
  |none=>no fr
theorem eG.uI {σ:Sg} {E:EH} {fr:Fr} {n:Nat} {a:Act} (h:eG σ E fr n a) {d:Nat} {v u:V} (hv:look fr d=some v) (hu:∀ x,Den σ E v x->Den σ E u x):eG σ E ((d,u)::fr) n a:=by
 refine⟨h.size,h.defers,fun t w hw=>?_⟩
 simp only[look]at hw
 split at hw
 ·rename_i hb
  have:=cP hb
  subst this
  cases hw
  obtain⟨x,h1,h2⟩:=h.get _ _ hv
  exact⟨x,h1,hu x h2⟩
 ·exact h.get t w hw
theorem vG {ops:Array Oper} {o:Oper} {fr:Fr} {yes no:Fr->Prop} (h:sM ops o fr yes no) {σ:Sg} {E:EH} {n:Nat} {a:Act} (hf:eG σ E fr n a):
  ∃ fr',eG σ E fr' n a/\((Region.wanted o (yielded ops a.tmps)=true/\yes fr')∨(Region.wanted o (yielded ops a.tmps)=false/\no fr')):=by
 unfold sM at h
 split at h
 ·rename_i hg
  exact⟨fr,hf,.inl ⟨by simp [Region.wanted,hg],h⟩⟩
 ·rename_i j want hg
  split at h
  ·rename_i d hd
   have key:∀ b,a.tmps[d]? =some (.bool b)->Region.wanted o (yielded ops a.tmps)=(b == want):=by
    intro b hb
    simp [Region.wanted,hg,yielded,hd,hb]
   split at h
   ·rename_i hl
    obtain⟨x,h1,h2⟩:=hf.get _ _ hl
    simp only[Den]at h2;subst h2
    cases want
    ·exact⟨fr,hf,.inr ⟨by rw[key _ h1];rfl,h⟩⟩
    ·exact⟨fr,hf,.inl ⟨by rw[key _ h1];rfl,h⟩⟩
   ·rename_i hl
    obtain⟨x,h1,h2⟩:=hf.get _ _ hl
    simp only[Den]at h2;subst h2
    cases want
    ·exact⟨fr,hf,.inl ⟨by rw[key _ h1];rfl,h⟩⟩
    ·exact⟨fr,hf,.inr ⟨by rw[key _ h1];rfl,h⟩⟩
   ·rename_i b hl
    obtain⟨x,h1,h2⟩:=hf.get _ _ hl
    simp only[Den]at h2;subst h2
    cases b
    ·have hf':eG σ E ((d,.ff)::fr) n a:=hf.uI hl (fun x hx=>by simpa [Den]using hx)
     have h':=h.2 rfl
     cases want
     ·exact⟨_,hf',.inl ⟨by rw[key _ h1];rfl,h'⟩⟩
     ·exact⟨_,hf',.inr ⟨by rw[key _ h1];rfl,h'⟩⟩
    ·have hf':eG σ E ((d,.tt)::fr) n a:=hf.uI hl (fun x hx=>by simpa [Den]using hx)
     have h':=h.1 rfl
     cases want
     ·exact⟨_,hf',.inr ⟨by rw[key _ h1];rfl,h'⟩⟩
     ·exact⟨_,hf',.inl ⟨by rw[key _ h1];rfl,h'⟩⟩
   ·rename_i vs hl
    obtain⟨x,h1,h2⟩:=hf.get _ _ hl
    simp only[Den]at h2;subst h2
    exact⟨fr,hf,.inr ⟨by simp [Region.wanted,hg,yielded,hd,h1],h⟩⟩
   ·exact h.elim
  ·rename_i hd
   exact⟨fr,hf,.inr ⟨by simp [Region.wanted,hg,yielded,hd],h⟩⟩
def wx (P:Program) (X:bN) (n:Nat) (ops:Array Oper):List Oper->(Fr->KB->Prop)->Fr->KB->Prop
 | [],K,fr,kb=>K fr kb
 |o::rest,K,fr,kb=>sM ops o fr (fun fr=>pH P X o fr kb (fun v kb'=>kg n o.dst v fr (fun fr'=>wx P X n ops rest K fr' kb')))
  (fun fr=>kg n o.dst (.any undef) fr (fun fr'=>wx P X n ops rest K fr' kb))
structure Cx where
 σ:Sg
 E:EH
 kb:KB
 W:World
def jr (c:Cx) (n:Nat) (K:Fr->KB->Prop) (a:Act) (W:World):Prop:=
 ∃ σ E fr kb,Step c.σ c.E c.kb c.W σ E kb W/\eG σ E fr n a/\K fr kb
theorem u7.hat {c:Cx} {n:Nat} {σ:Sg} {E:EH} {kb:KB} {W:World} (hs:Step c.σ c.E c.kb c.W σ E kb W) {a:Act} {fr:Fr} (hf:eG σ E fr n a) {o:Oper} {K:Fr->KB->Prop} {a':Act} {W':World}
  (h:u7 σ E kb W a o (fun v kb'=>kg n o.dst v fr (fun fr'=>K fr' kb')) a' W'):jr c n K a' W':=by
 obtain⟨σ',E',kb',v,x,h1,h2,rfl,h3⟩:=h
 obtain⟨τ,rfl⟩:=h1.pre
 obtain⟨fr',h4,h5⟩:=ny h3 (hf.mono h1.le) h2
 exact⟨_,E',fr',kb',hs.trans h1,h4,h5⟩
theorem Df {P:Program} {X:bN} (hX:b9 P X) {c:Cx} {n:Nat} {ops:Array Oper} {Q:Exit->Act->World->Prop} {K:Fr->KB->Prop} (hQ:∀ a W,jr c n K a W->Q .normal a W):
  ∀{l:List Oper} {a:Act} {W:World},jr c n (wx P X n ops l K) a W->wpList P ops Q l a W
 | [],a,W,h=>hQ a W h
 |o::rest,a,W,h=>by
  obtain⟨σ,E,fr,kb,hs,hf,h⟩:=h
  simp only[wx]at h
  obtain⟨fr',hf',h | h⟩:=vG h hf
  ·unfold wpList
   rw[if_pos h.1]
   refine .inl ?_
   exact Oper.wp_mono (fun a' W' ha=>Df hX hQ (ha.hat hs hf')) (v8 hX h.2 hf' hs.inv Q)
  ·unfold wpList
   rw[if_neg (by simp [h.1])]
   obtain⟨fO,h1,h2⟩:=ny h.2 hf' (σ:=σ) (E:=E) (x:=undef) (by simp [Den])
   exact Df hX hQ ⟨σ,E,fO,kb,hs,h1,h2⟩
def qI (P:Program) (ops:Array Oper) (Q:Exit->Act->World->Prop) (G:Array Bool->Nat->World->World->Prop):Nat->Array Bool->Act->World->Prop
 | 0,listed,a,w=>Region.ready .any ops listed=[]/\Q .normal a w
 |fuel+1,listed,a,w=>
  (Region.ready .any ops listed=[]->Q .normal a w)/\
  ∀ i∈Region.ready .any ops listed,wpOp P ops Q i (fun a' w'=>G listed i w w'/\qI P ops Q G fuel (listed.setIfInBounds i true) a' w') a w
theorem qI.any {P:Program} {ops:Array Oper} {Q:Exit->Act->World->Prop} {G:Array Bool->Nat->World->World->Prop}:∀{fuel:Nat} {listed:Array Bool} {a:Act} {w:World},qI P ops Q G fuel listed a w->wpAny P .any ops Q fuel listed a w
 | 0,_,_,_,h=>h
 |fuel+1,_,_,_,h=>⟨h.1,fun i hi=>wpOp_mono (fun a' w' h'=>h'.2.any) (h.2 i hi)⟩
theorem qI.weaken {P:Program} {ops:Array Oper} {Q:Exit->Act->World->Prop} {G G':Array Bool->Nat->World->World->Prop} (hG:∀ l i w w',G l i w w'->G' l i w w'):∀{fuel:Nat} {listed:Array Bool} {a:Act} {w:World},qI P ops Q G fuel listed a w->qI P ops Q G' fuel listed a w
 | 0,_,_,_,h=>h
 |fuel+1,_,_,_,h=>⟨h.1,fun i hi=>wpOp_mono (fun a' w' h'=>⟨hG _ _ _ _ h'.1,h'.2.weaken hG⟩) (h.2 i hi)⟩
def nQ (P:Program) (ops:Array Oper) (i:Nat):Bool:=
 match ops[i]? with
 |some o=>isPure P o.op || (match o.op with | .load .. =>true | .lookup .. =>true | _=>false)
 |none=>false
def oO (l:List Nat):Nat:=l.foldr (fun i s=>iO s (2 ^ i)) 0
theorem vV:∀(l:List Nat) (i:Nat),(oO l).testBit i=decide (i∈l)
 | [],i=>by simp [oO]
 |a::l,i=>by
  have ih:=vV l i
  simp only[oO,List.foldr_cons]at ih ⊢
  show(List.foldr (fun i s=>iO s (2 ^ i)) 0 l ||| 2 ^ a).testBit i=_
  rw[Nat.testBit_or,ih,Nat.testBit_two_pow]
  by_cases h:a=i
  ·subst h;simp
  ·have h':¬ i=a:=fun e=>h e.symm
   simp [h,h']
structure ga where
 am:Nat
 rd:Nat
 wr:Nat
 vz:Bool
 al:Bool
def B4:Op->Bool
 | .alloc _=>true
 |_=>false
def Fg (o:Oper):List Nat:=(o.after.toList.filter (Region.binds .any)).map (·.on)
def gY (P:Program) (ops:Array Oper) (i:Nat):ga:=
 match ops[i]? with
 |some o=>⟨oO (Fg o),oO (o.looksAt ops),match o.dst with | some d=>2 ^ d | none=>0,nQ P ops i,B4 o.op⟩
 |none=>⟨0,0,0,false,false⟩
def jf (P:Program) (ops:Array Oper):Nat->Nat->List ga
 |_,0=>[]
 |i,n+1=>gY P ops i::jf P ops (i+1) n
def rP:List ga->Nat->Nat->Nat->Nat
 | [],_,_,acc=>acc
 |o::r,k,m,acc=>match Nat.testBit m k with
  |true=>rP r (k+1) m (iO acc o.am)
  |false=>rP r (k+1) m acc
def sE (plan:List ga):Nat->Nat->Nat
 | 0,m=>m
 |f+1,m=>sE plan f (rP plan 0 m m)
def direct (ops:Array Oper) (j i:Nat):Bool:=
 match ops[j]? with
 |some o=>o.after.any fun e=>Region.binds .any e && e.on == i
 |none=>false
theorem xx {P:Program} {ops:Array Oper} {j i:Nat}:(gY P ops j).am.testBit i=direct ops j i:=by
 unfold gY direct
 split
 ·rename_i o ho
  rw[vV,Bool.eq_iff_iff,decide_eq_true_eq,Array.any_eq_true']
  simp only[Fg,ef,lZ,Array.mem_toList_iff,iW,beq_iff_eq]
  constructor
  ·rintro⟨e,⟨h1,h2⟩,h3⟩;exact⟨e,h1,h2,h3⟩
  ·rintro⟨e,h1,h2,h3⟩;exact⟨e,⟨h1,h2⟩,h3⟩
 ·simp
def waits (P:Program) (ops:Array Oper) (j i:Nat):Bool:=Nat.testBit (sE (jf P ops 0 ops.size) 12 (gY P ops j).am) i
theorem S2 {P:Program} {ops:Array Oper}:∀{n k q:Nat} {o:ga},(jf P ops k n)[q]? =some o->o=gY P ops (k+q)
 | 0,k,q,o,h=>by simp [jf]at h
 |n+1,k,0,o,h=>by simp [jf]at h;simpa using h.symm
 |n+1,k,q+1,o,h=>by
  have:=S2 (n:=n) (k:=k+1) (q:=q) (o:=o) (by simpa [jf]using h)
  rw[this];congr 1;omega
theorem Ju {S:Nat->Prop}:∀{l:List ga} {k m acc:Nat},(∀ i,acc.testBit i=true->S i)->(∀ q o,l[q]? =some o->m.testBit (k+q)=true->∀ i,o.am.testBit i=true->S i)->∀ i,(rP l k m acc).testBit i=true->S i
 | [],k,m,acc,h1,h2,i,hi=>h1 i (by simpa [rP]using hi)
 |o::r,k,m,acc,h1,h2,i,hi=>by
  have hr:∀ q o',r[q]? =some o'->m.testBit (k+1+q)=true->∀ i,o'.am.testBit i=true->S i:=fun q o' hq hm=>h2 (q+1) o' (by simpa using hq) (by rw[show k+(q+1)=k+1+q by omega];exact hm)
  simp only[rP]at hi
  split at hi
  ·rename_i hm
   refine Ju (acc:=iO acc o.am) (fun i hi=>?_) hr i hi
   have hi':(acc ||| o.am).testBit i=true:=hi
   rw[Nat.testBit_or,Bool.or_eq_true]at hi'
   rcases hi' with hi' | hi'
   ·exact h1 i hi'
   ·exact h2 0 o rfl hm i hi'
  ·exact Ju h1 hr i hi
theorem Nv {S:Nat->Prop} {plan:List ga} (hc:∀ q o,plan[q]? =some o->S q->∀ i,o.am.testBit i=true->S i):∀{f m:Nat},(∀ i,m.testBit i=true->S i)->∀ i,(sE plan f m).testBit i=true->S i
 | 0,m,h,i,hi=>h i (by simpa [sE]using hi)
 |f+1,m,h,i,hi=>Nv hc (f:=f) (m:=rP plan 0 m m) (Ju h (fun q o hq hm=>hc q o hq (h q (by simpa using hm)))) i (by simpa [sE]using hi)
theorem adA {plan:List ga}:∀{k acc:Nat},rP plan k 0 acc=acc:=by
 induction plan with
 |nil=>intro k acc;rfl
 |cons o r ih=>intro k acc;simp [rP,ih]
theorem Nw {plan:List ga}:∀{f:Nat},sE plan f 0=0
 | 0=>rfl
 |f+1=>by simp only[sE,adA];exact Nw
def Closed (ops:Array Oper) (listed:Array Bool):Prop:=∀ k i,listed.getD k false=true->direct ops k i=true->listed.getD i false=true
theorem Tr {ops:Array Oper} {listed:Array Bool} {j:Nat} (hj:j∈Region.ready .any ops listed):∀ i,direct ops j i=true->listed.getD i false=true:=by
 obtain⟨_,o,ho,hall⟩:=mem_ready.1 hj
 intro i h
 unfold direct at h
 rw[ho]at h
 obtain⟨e,he,hb⟩:=Array.any_eq_true'.1 h
 simp only[iW,beq_iff_eq]at hb
 rw[<- hb.2]
 exact hall e he hb.1
theorem JP {ops:Array Oper} {listed:Array Bool} {j:Nat} (hj:j∈Region.ready .any ops listed):listed.getD j false=false:=by
 have h0:=(mem_ready.1 hj).1
 rcases jF j listed.size with h' | h'
 ·simp [h']at h0 ⊢;exact h0
 ·simp [Array.getElem?_eq_none h']
theorem VH {P:Program} {ops:Array Oper} {listed:Array Bool} (hc:Closed ops listed) {j:Nat} (hj:∀ i,direct ops j i=true->listed.getD i false=true) {i:Nat} (h:waits P ops j i=true):listed.getD i false=true:=
 Nv (S:=fun i=>listed.getD i false=true) (fun q o hq hS i hi=>by
  have:=S2 hq
  rw[this,xx,cQ]at hi
  exact hc q i hS hi) (fun i hi=>hj i (by rw[xx]at hi;exact hi)) i h
theorem Closed.empty {ops:Array Oper} {n:Nat}:Closed ops (Array.replicate n false):=fun k i h=>by
 simp only[Array.getD_eq_getD_getElem?,Array.getElem?_replicate]at h
 split at h<;>simp at h
theorem Closed.set {ops:Array Oper} {listed:Array Bool} (hc:Closed ops listed) {j:Nat} (hj:j∈Region.ready .any ops listed):Closed ops (listed.setIfInBounds j true):=by
 have up:∀ i,listed.getD i false=true->(listed.setIfInBounds j true).getD i false=true:=fun i hi=>by
  by_cases hji:j=i
  ·subst hji;rw[JP hj]at hi;cases hi
  ·rw[getD_set_ne false hji];exact hi
 intro k i hk hd
 by_cases hjk:j=k
 ·subst hjk;exact up i (Tr hj i hd)
 ·rw[getD_set_ne false hjk]at hk
  exact up i (hc k i hk hd)
theorem Ry {P:Program} {ops:Array Oper} {listed:Array Bool} (hc:Closed ops listed) {i j:Nat} (hj:j∈Region.ready .any ops listed) (hi:i∈Region.ready .any ops listed):waits P ops j i=false:=by
 rw[Bool.eq_false_iff]
 intro h
 have:=VH hc (Tr hj) h
 rw[JP hi]at this;cases this
def nt (P:Program) (ops:Array Oper) (listed:Array Bool) (i:Nat):Bool:=(iN ops.size).all fun k=> !(waits P ops k i) || (nQ P ops k || !(listed.getD k false))
theorem ah5 {P:Program} {ops:Array Oper} {k i:Nat} (h:waits P ops k i=true):k<ops.size:=by
 rcases jF k ops.size with h' | h'
 ·exact h'
 ·unfold waits gY at h
  rw[Array.getElem?_eq_none h']at h
  simp only[Nw]at h
  simp at h
theorem CB {P:Program} {ops:Array Oper} {listed:Array Bool} {i:Nat}:nt P ops listed i=true ↔ ∀ k,waits P ops k i=true->nQ P ops k=false->listed.getD k false=false:=by
 unfold nt
 simp only[List.all_eq_true,List.mem_range,Bool.or_eq_true,Bool.not_eq_true']
 constructor
 ·intro h k hk he
  rcases h k (ah5 hk)with h1 | h1 | h1
  ·rw[hk]at h1;cases h1
  ·rw[he]at h1;cases h1
  ·exact h1
 ·intro h k _
  cases hk:waits P ops k i
  ·exact .inl rfl
  ·cases he:nQ P ops k
   ·exact .inr (.inr (h k hk he))
   ·exact .inr (.inl rfl)
theorem Zi {listed:Array Bool} {j k:Nat} (h:(listed.setIfInBounds j true).getD k false=false):listed.getD k false=false:=by
 by_cases hjk:j=k
 ·subst hjk
  rcases jF j listed.size with h' | h'
  ·simp [h']at h
  ·simp [Array.getElem?_eq_none h']
 ·rw[getD_set_ne false hjk]at h;exact h
theorem I3 {P:Program} {ops:Array Oper} {listed:Array Bool} {i j:Nat} (h:nt P ops listed i=true) (hw:waits P ops j i=false∨nQ P ops j=true):nt P ops (listed.setIfInBounds j true) i=true:=by
 rw[CB]at h ⊢
 intro k hk he
 have hjk:j≠k:=fun e=>by
  subst e
  rcases hw with hw | hw
  ·rw[hk]at hw;cases hw
  ·rw[he]at hw;cases hw
 rw[getD_set_ne false hjk]
 exact h k hk he
theorem vY {P:Program} {ops:Array Oper} {listed:Array Bool} {i j:Nat} (h:nt P ops (listed.setIfInBounds j true) i=true):nt P ops listed i=true:=by
 rw[CB]at h ⊢
 exact fun k hk he=>Zi (h k hk he)
theorem CC {P:Program} {ops:Array Oper} {listed:Array Bool} {i j:Nat} (hj:j<listed.size) (he:nQ P ops j=false) (h:nt P ops (listed.setIfInBounds j true) i=true):waits P ops j i=false:=by
 rw[CB]at h
 cases hw:waits P ops j i
 ·rfl
 ·have:=h j hw he
  simp [hj]at this
def YC (P:Program) (ops:Array Oper) (C:World->Prop) (o:Oper) (v:Value) (a:Act):Prop:=
 (Region.wanted o (yielded ops a.tmps)=true/\∀ w,C w->(execOp a.eval o).run P w= .ok (.value v) w)∨
 (Region.wanted o (yielded ops a.tmps)=false/\v=undef)
theorem YC.of_same {P:Program} {ops:Array Oper} {C:World->Prop} {o:Oper} {v:Value} {a a':Act} (hy:YC P ops C o v a) (he:execOp a'.eval o=execOp a.eval o)
  (hw:Region.wanted o (yielded ops a'.tmps)=Region.wanted o (yielded ops a.tmps)):YC P ops C o v a':=by
 unfold YC at*
 rw[he,hw]
 exact hy
theorem YC.wpOp {P:Program} {ops:Array Oper} {Q:Exit->Act->World->Prop} {C:World->Prop} {i:Nat} {o:Oper} {v:Value} {a:Act} (hi:ops[i]? =some o) (hy:YC P ops C o v a)
  {K:Act->World->Prop} {w:World} (hC:C w) (h:K (a.put o.dst v) w):wpOp P ops Q i K a w:=by
 unfold Go.wpOp
 simp only[hi]
 rcases hy with ⟨hw,hv⟩ | ⟨hw,rfl⟩
 ·simp only[hw,if_true,Oper.wp,hv w hC,Oper.upon];exact .inl h
 ·simp only[hw,Bool.false_eq_true,if_false];exact h
theorem ah9 {P:Program} {ops:Array Oper} {Q:Exit->Act->World->Prop} {C:World->Prop} {j:Nat} {oi oj:Oper} {v:Value} (hj:ops[j]? =some oj) (hap:oi.apart ops oj=true)
  (hsi:∀ cs b,oi.op≠.select cs b) (hsj:∀ cs b,oj.op≠.select cs b)
  (hQ:∀ c a w,Q (.panic c) (a.put oi.dst v) w->Q (.panic c) a w) {K:Act->World->Prop} {a:Act} {w:World}
  (hy:YC P ops C oi v a) (h:wpOp P ops Q j K (a.put oi.dst v) w):
  wpOp P ops Q j (fun a' w'=>YC P ops C oi v a'/\K (a'.put oi.dst v) w') a w:=by
 obtain⟨h1,h2,h3⟩:=Oper.apart_spec hap
 have keep:∀(a:Act),YC P ops C oi v a->∀ u,YC P ops C oi v (a.put oj.dst u):=fun a hy u=>
  hy.of_same (execOp_put oi hsi a oj.dst u h3) (wanted_put oi a oj.dst u h3)
 have aaK:∀ d,YC P ops C oi v {a with defers:=d::a.defers }:=fun d=>hy.of_same rfl rfl
 unfold wpOp at*
 simp only[hj]at*
 rw[wanted_put oj a oi.dst v h1]at h
 split
 ·rename_i hw
  simp only[hw,if_true]at h
  rcases h with h | ⟨hasks,aak⟩
  case inr=>exact .inr ⟨by unfold Oper.asks at*;rw[execOp_put oj hsj a oi.dst v h1]at hasks;exact hasks,aak⟩
  refine .inl ?_
  unfold Oper.wp at*
  rw[execOp_put oj hsj a oi.dst v h1]at h
  generalize (execOp a.eval oj).run P w=r at*
  cases r with
  |ok n w'=>
   cases n<;>simp only[Oper.upon]at h ⊢
   case value u=>exact⟨keep a hy u,by rw[<- Act.put_comm a v u h2];exact h⟩
   case skip=>exact⟨keep a hy _,by rw[<- Act.put_comm a v undef h2];exact h⟩
   case defer d=>
    refine⟨keep _ (aaK d) _,?_⟩
    rw[<- Act.put_comm _ v undef h2,<- Act.put_defers]
    exact h
   case enter f args=>
    refine Calls.mono h fun e w'' he=>?_
    cases e with
    |returned u=>exact⟨keep a hy u,by rw[<- Act.put_comm a v u h2];exact he⟩
    |panicked c=>exact hQ _ _ _ he
    |outgrown=>exact he
   case row row args=>exact Rows.mono h fun u w'' he=>⟨keep a hy u,by rw[<- Act.put_comm a v u h2];exact he⟩
  |halt x w'=>
   cases x<;>simp only[Oper.upon]at h ⊢
   case panic u=>exact hQ _ _ _ h
 ·rename_i hw
  simp only[hw]at h
  exact⟨keep a hy _,by rw[<- Act.put_comm a v undef h2];exact h⟩
theorem GQ {P:Program} {ops:Array Oper} {Q:Exit->Act->World->Prop} {G:Array Bool->Nat->World->World->Prop} {C:World->Prop} {i:Nat} {oi:Oper} {v:Value} (hi:ops[i]? =some oi)
  (hsel:∀(j:Nat) (o:Oper) cs b,ops[j]? =some o->o.op≠.select cs b) (hQ:∀ c a w,Q (.panic c) (a.put oi.dst v) w->Q (.panic c) a w)
  (hG:∀ l j w w',nt P ops l i=true->waits P ops j i=false->G l j w w'->C w->C w') (hrefl:∀ l w,G l i w w)
  (dR:∀ l j w w',j≠i->G (l.setIfInBounds i true) j w w'->G l j w w'):
  ∀(fuel:Nat) (listed:Array Bool) (a:Act) (w:World),
   (∀ j oj,ops[j]? =some oj->j≠i->listed.getD j true=false->(∀ e∈oj.after,Region.binds .any e=true->e.on≠i)->oi.apart ops oj=true)->
   Closed ops listed->i∈Region.ready .any ops listed->YC P ops C oi v a->C w->nt P ops listed i=true->waits P ops i i=false->
   qI P ops Q G fuel (listed.setIfInBounds i true) (a.put oi.dst v) w->qI P ops Q G (fuel+1) listed a w:=by
 intro fuel
 induction fuel with
 |zero=>
  intro listed a w _ hcl hr hy hC uf hii H
  refine⟨fun h=>(by rw[h]at hr;cases hr),fun j hj=>?_⟩
  by_cases hji:j=i
  ·subst hji;exact hy.wpOp hi hC ⟨hrefl _ w,H⟩
  ·have:=ready_mono hj hji
   rw[H.1]at this
   cases this
 |succ fuel ih=>
  intro listed a w hfree hcl hr hy hC uf hii H
  refine⟨fun h=>(by rw[h]at hr;cases hr),fun j hj=>?_⟩
  by_cases hji:j=i
  ·subst hji;exact hy.wpOp hi hC ⟨hrefl _ w,H⟩
  ·have h1:=H.2 j (ready_mono hj hji)
   obtain⟨Qa,oj,HR,hall⟩:=mem_ready.1 hj
   have hnot:∀ e∈oj.after,Region.binds .any e=true->e.on≠i:=fun e he hb heq=>by
    have h1:=hall e he hb
    have h0:=(mem_ready.1 hr).1
    rw[heq]at h1
    rcases jF i listed.size with h' | h'
    ·simp [h']at h0 h1;rw[h0]at h1;cases h1
    ·simp [Array.getElem?_eq_none h']at h1
   have hw:=Ry (P:=P) hcl hj hr
   have h2:=ah9 HR (hfree j oj HR hji Qa hnot) (fun cs b=>hsel i oi cs b hi) (fun cs b=>hsel j oj cs b HR) hQ hy h1
   have aab:∀ k ok,ops[k]? =some ok->k≠i->(listed.setIfInBounds j true).getD k true=false->
     (∀ e∈ok.after,Region.binds .any e=true->e.on≠i)->oi.apart ops ok=true:=fun k ok hk hki hun hno=>by
    refine hfree k ok hk hki ?_ hno
    by_cases hjk:j=k
    ·subst hjk;exact Qa
    ·rw[getD_set_ne true hjk]at hun;exact hun
   refine wpOp_mono (fun a' w' h3=>⟨dR _ _ _ _ hji h3.2.1,ih (listed.setIfInBounds j true) a' w' aab (hcl.set hj) (ready_mono hr (Ne.symm hji)) h3.1 (hG _ j w w' (I3 uf (.inl hii)) hw h3.2.1 hC) (I3 uf (.inl hw)) hii ?_⟩) h2
   rw[Array.setIfInBounds_comm _ _ hji]
   exact h3.2.2
inductive Rd where
 |load (t:TypeId)
 |look (t:TypeId) (ok:Bool)
def yV (o:Oper):Option (Rd×List Operand):=
 match o.op with
 | .load t x=>some (.load t,[x])
 | .lookup t x k ok=>some (.look t ok,[x,k])
 |_=>none
def rT:Rd->List Value->Sem Value
 | .load t,[a]=>Instr.loadAt t a
 | .look t ok,[m,k]=>Instr.lookup t m k ok
 |_,_=>stuck ""
def kH (P:Program) (r:Rd) (gf:List V) (kb:KB) (K:V->Prop):Prop:=
 match r,gf with
 | .load t,[ad]=>nq P t ad kb K
 | .look t ok,[m,k]=>Ck P t m k ok kb K
 |_,_=>False
theorem JM {P:Program} {r:Rd} {gf:List V} {kb:KB} {K:V->Prop} (h:kH P r gf kb K) {σ:Sg} {E:EH} {W:World} (hi:Inv σ E kb W) {as:List Value} (hd:aq σ E gf as):
  ∃ v x,(rT r as).run P W= .ok x W/\Den σ E v x/\K v:=by
 unfold kH at h
 split at h<;>try exact h.elim
 ·simp only[aq]at hd
  obtain⟨x,xs,rfl,h1,rfl⟩:=hd
  exact Is h hi h1
 ·simp only[aq]at hd
  obtain⟨x,xs,rfl,h1,y,ys,rfl,h2,rfl⟩:=hd
  exact QZ h hi h1 h2
theorem Tn {o:Oper} {r:Rd} {xs:List Operand} (h:yV o=some (r,xs)) (ρ:Operand->Value):execOp ρ o=(do pure (.value (<- rT r (xs.map ρ)))):=by
 unfold yV at h
 split at h<;>try (cases h;done)
 ·rename_i hop;cases h;unfold execOp;rw[hop];rfl
 ·rename_i hop;cases h;unfold execOp;rw[hop];rfl
def tT (fr:Fr):List Operand->Option (List V)
 | []=>some []
 |x::xs=>match ev fr x,tT fr xs with
  |some v,some vs=>some (v::vs)
  |_,_=>none
theorem Bl {σ:Sg} {E:EH} {fr:Fr} {n:Nat} {a:Act} (h:eG σ E fr n a):∀{xs:List Operand} {vs:List V},tT fr xs=some vs->aq σ E vs (xs.map a.eval)
 | [],vs,hv=>by simp [tT]at hv;subst hv;exact .nil
 |x::xs,vs,hv=>by
  simp only[tT]at hv
  split at hv
  ·rename_i v us h1 h2
   cases hv
   exact .cons (bT h h1) (Bl h h2)
  ·cases hv
structure j3 where
 i:Nat
 r:Rd
 gf:List V
 v:V
structure kS (a b:Int):Prop where
 h:a=b
mutual
def nC:V->V->Prop
 | .int k n,.int k' m=>match decide (k=k')with | true=>kS n m | false=>False
 | .lit k n,.lit k' m=>match decide (k=k')with | true=>kS n m | false=>False
 | .sb a,.sb b=>a=b
 | .tt,.tt=>True
 | .ff,.ff=>True
 | .agg l,.agg m=>qE l m
 | .any (.slice none 0 0),.any (.slice none 0 0)=>True
 |a,b=>a=b
def qE:List V->List V->Prop
 | [],[]=>True
 | [a],[b]=>nC a b
 |a::l,b::m=>nC a b/\qE l m
 |_,_=>False
end
mutual
theorem K4:∀{a b:V},nC a b->a=b
 | .int k n,b,h=>by
  cases b<;>simp only[nC,reduceCtorEq]at h
  split at h
  ·rename_i hk;rw[of_decide_eq_true hk,h.h]
  ·exact h.elim
 | .lit k n,b,h=>by
  cases b<;>simp only[nC,reduceCtorEq]at h
  split at h
  ·rename_i hk;rw[of_decide_eq_true hk,h.h]
  ·exact h.elim
 | .sb a,b,h=>by cases b<;>simp only[nC,reduceCtorEq]at h;rw[h]
 | .tt,b,h=>by cases b<;>simp only[nC,reduceCtorEq]at h;rfl
 | .ff,b,h=>by cases b<;>simp only[nC,reduceCtorEq]at h;rfl
 | .agg l,b,h=>by
  cases b<;>simp only[nC,reduceCtorEq]at h
  rw[Vo h]
 | .any u,b,h=>by
  unfold nC at h
  split at h
  all_goals first
   |exact h
   |assumption
   | (rename_i e;cases e;done)
 | .ptr ..,b,h | .pa ..,b,h | .sl ..,b,h | .pe ..,b,h | .pw ..,b,h | .e0,b,h | .sa ..,b,h | .se ..,b,h | .cF ..,b,h | .af _,b,h | .imp ..,b,h | .dat _,b,h | .χ _,b,h | .fn ..,b,h | .mp _,b,h | .ch _,b,h | .arr ..,b,h=>by simpa only[nC]using h
theorem Vo:∀{l m:List V},qE l m->l=m
 | [],m,h=>by cases m<;>simp only[qE]at h;rfl
 | [a],m,h=>by
  match m with
  | []=>simp only[qE]at h
  | [b]=>simp only[qE]at h;rw[K4 h]
  |b::c::m=>simp only[qE]at h;exact h.2.elim
 |a::a'::l,m,h=>by
  match m with
  | []=>simp only[qE]at h
  | [b]=>simp only[qE]at h;exact h.2.elim
  |b::c::m=>simp only[qE]at h;rw[K4 h.1,Vo h.2]
end
structure zT (cs:List D):Prop where
 h:∀ d∈cs,∃ v,d= .val v
def AX:List (List D)->Prop
 | []=>True
 | [p]=>zT p
 |p::ps=>zT p/\AX ps
theorem NF:∀{ps:List (List D)},AX ps->∀ p∈ps,zT p
 | [p],h,q,hq=>by rw[dm]at hq;subst hq;exact h
 |p::r::ps,h,q,hq=>by
  rcases eI.1 hq with rfl | hq
  ·exact h.1
  ·exact NF h.2 q hq
def Bc:List V->Option (List (List D))
 | []=>some []
 |v::vs=>match Bc vs with
  |some ps=>match v with
   | .arr _ cs=>some (cs::ps)
   |v=>match V.nP v with | true=>some ps | false=>none
  |none=>none
def V.Ga:V->Option (List (List D))
 | .agg l=>Bc l
 |_=>none
theorem S1 {E E':EH}:∀{cs:List D},(∀ d∈cs,∃ v,d= .val v)->∀{xs ys:List Value},a_ E cs xs->a_ E' cs ys->xs=ys
 | [],_,xs,ys,h,k=>by simp only[a_]at h k;rw[h,k]
 |d::cs,hp,xs,ys,h,k=>by
  simp only[a_]at h k
  obtain⟨x,xs',rfl,h1,h2⟩:=h
  obtain⟨y,ys',rfl,k1,k2⟩:=k
  obtain⟨v,rfl⟩:=hp d iB
  simp only[bI]at h1 k1
  rw[h1.1,k1.1,S1 (fun d hd=>hp d (f_ _ hd)) h2 k2]
def Lo (v:V):Prop:=∀(σ τ:Sg) (E E':EH) (x y:Value),Den σ E v x->Den (σ++τ) E' v y->x=y
theorem Gb {σ τ:Sg} {E E':EH}:∀{vs:List V} {ps:List (List D)},Bc vs=some ps->(∀ p∈ps,zT p)->∀{xs ys:List Value},aT σ E vs xs->aT (σ++τ) E' vs ys->xs=ys
 | [],_,_,_,xs,ys,h,k=>by simp only[aT]at h k;rw[h,k]
 |v::vs,ps,hd,hp,xs,ys,h,k=>by
  simp only[Bc]at hd
  split at hd<;>try (cases hd;done)
  rename_i qs Qh
  simp only[aT]at h k
  obtain⟨x1,x2,rfl,h1,h2⟩:=h
  obtain⟨y1,y2,rfl,k1,k2⟩:=k
  split at hd
  ·rename_i m cs
   simp only[bc.injEq]at hd
   subst hd
   rw[Gb Qh (fun p hq=>hp p (f_ _ hq)) h2 k2]
   rcases h1 with ⟨x,rfl,_,h1⟩ | ⟨m',cs',e,_,h1⟩
   ·simp only[Den]at h1
   rcases k1 with ⟨y,rfl,_,k1⟩ | ⟨m'',aic,e2,_,k1⟩
   ·simp only[Den]at k1
   cases e
   cases e2
   rw[S1 (hp _ iB).h h1 k1]
  ·split at hd<;>try (cases hd;done)
   rename_i hne _ Z2
   simp only[bc.injEq]at hd
   subst hd
   rw[Gb Qh hp h2 k2]
   rcases h1 with ⟨x,rfl,_,h1⟩ | ⟨m',cs',e,_,_⟩
   ·rcases k1 with ⟨y,rfl,_,k1⟩ | ⟨m',cs',e,_,_⟩
    ·rw[Be Z2 h1 k1]
    ·exact absurd e (hne m' cs')
   ·exact absurd e (hne m' cs')
theorem Yr {v:V} {ps:List (List D)} (h:V.Ga v=some ps) (hp:AX ps):Lo v:=fun σ τ E E' x y h1 h2=>by
 unfold V.Ga at h
 split at h<;>try (cases h;done)
 simp only[Den]at h1 h2
 obtain⟨xs,rfl,h1⟩:=h1
 obtain⟨ys,rfl,h2⟩:=h2
 rw[Gb h (NF hp) h1 h2]
def H4:Rd->List V->Bool
 | .load _,[.cF _ _]=>true
 |_,_=>false
def sY (P:Program) (ops:Array Oper) (j:Nat) (kb:KB):List j3->Prop->Prop
 | [],K=>K
 | ⟨i,r,gf,u⟩::ls,K=>match waits P ops j i with
  |true=>sY P ops j kb ls K
  |false=>match V.nP u with
   |true=>kH P r gf kb (fun v=>nC v u)/\sY P ops j kb ls K
   |false=>match V.Ga u with
    |some ps=>(AX ps/\kH P r gf kb (fun v=>nC v u))/\sY P ops j kb ls K
    |none=>match H4 r gf with
     |true=>kH P r gf kb (fun _=>True)/\sY P ops j kb ls K
     |false=>False
def yS (P:Program) (kb:KB):List j3->Prop->Prop
 | [],K=>K
 | ⟨_,.load t,gf,_⟩::ls,K=>kH P (.load t) gf kb (fun _=>True)/\yS P kb ls K
 |_:: _,_=>False
def aac (kb:KB) (b:Nat):Bool:=match kb[b]? with
 |some (.cells l)=>cq l.length 8
 |_=>false
def vJ (b:Nat):List Nat->Bool
 | []=>false
 |c::cs=>match cq b c with
  |true=>true
  |false=>vJ b cs
theorem Hl {b:Nat}:∀{l:List Nat},vJ b l=true->b∈l
 |c::cs,h=>by
  simp only[vJ]at h
  split at h
  ·rename_i hb
   rw[cP hb];exact iB
  ·exact f_ _ (Hl h)
def Qu (b:Nat) (l:List Nat):List Nat:=match vJ b l with
 |true=>l
 |false=>b::l
def uc (bs:List Nat):j3->Bool
 | ⟨_,.load _,[.ptr b _],_⟩=>vJ b bs
 | ⟨_,.load _,[.pe b _ _],_⟩=>vJ b bs
 |_=>false
def vK (P:Program) (ops:Array Oper) (j:Nat) (kb:KB):List j3->List Nat
 | []=>[]
 | ⟨i,.load _,[.ptr b _],u⟩::ls=>match waits P ops j i,V.nP u,aac kb b with
  |false,false,true=>Qu b (vK P ops j kb ls)
  |_,_,_=>vK P ops j kb ls
 | ⟨i,.load _,[.pe b _ _],u⟩::ls=>match waits P ops j i,V.nP u with
  |false,false=>Qu b (vK P ops j kb ls)
  |_,_=>vK P ops j kb ls
 |_::ls=>vK P ops j kb ls
def yR (P:Program) (bs:List Nat) (kb:KB):List j3->Prop->Prop
 | [],K=>K
 |l::ls,K=>match uc bs l with
  |true=>kH P l.r l.gf kb (fun _=>True)/\yR P bs kb ls K
  |false=>yR P bs kb ls K
def yd:List Nat->KB->KB
 | [],kb=>kb
 |b::bs,kb=>yd bs (kb.set b .dead)
def ze:List Nat->KB->KB->Option KB
 | [],_,kb'=>some kb'
 |b::bs,kb,kb'=>match ze bs (kb.set b .dead) kb' with
  |some k2=>match kb[b]?,k2[b]? with
   |some x,some .dead=>some (k2.set b x)
   |_,_=>none
  |none=>none
def Qy:List j3->Bool
 | []=>true
 | ⟨_,.load _,_,_⟩::ls=>Qy ls
 |_:: _=>false
def conj:List Nat->(Nat->Prop)->Prop
 | [],_=>True
 | [i],p=>p i
 |i::is,p=>p i/\conj is p
theorem NH:∀{l:List Nat} {p:Nat->Prop},conj l p->∀ i∈l,p i
 | [],_,_,i,hi=>by cases hi
 | [j],p,h,i,hi=>by simp at hi;subst hi;exact h
 |j::k::l,p,h,i,hi=>by
  rcases eI.1 hi with rfl | hi
  ·exact h.1
  ·exact NH (l:=k::l) h.2 i hi
def qD (a m:Nat):Bool:=cq (Nat.land a m) a
def Fh (a m:Nat):Bool:=cq (Nat.land a m) 0
theorem afq {l:List Nat} {m:Nat}:qD (oO l) m=true ↔ ∀ i∈l,m.testBit i=true:=by
 unfold qD
 constructor
 ·intro h i hi
  have h:=cP h
  have h1:(oO l &&& m).testBit i=(oO l).testBit i:=congrArg (fun z=>z.testBit i) h
  rw[Nat.testBit_and,vV,decide_eq_true hi]at h1
  simpa using h1
 ·intro h
  have:Nat.land (oO l) m=oO l:=by
   apply Nat.eq_of_testBit_eq
   intro i
   show(oO l &&& m).testBit i=_
   rw[Nat.testBit_and,vV]
   by_cases hi:i∈l
   ·simp [hi,h i hi]
   ·simp [hi]
  rw[this];exact Nat.beq_refl _
def xy (x y:ga):Bool:=Fh x.wr (iO y.rd y.wr) && Fh y.wr x.rd
def pj (x:ga) (i m:Nat):List ga->Nat->Bool
 | [],_=>true
 |y::ys,j=>match Nat.testBit m j with
  |true=>match Nat.testBit y.am i,y.vz with
   |true,false=>false
   |_,_=>pj x i m ys (j+1)
  |false=>match cq j i with
   |true=>match Nat.testBit y.am i with
    |true=>false
    |false=>pj x i m ys (j+1)
   |false=>match Nat.testBit y.am i with
    |true=>pj x i m ys (j+1)
    |false=>match xy x y with
     |true=>pj x i m ys (j+1)
     |false=>false
def oT:List ga->Nat->Nat->List Nat
 | [],_,_=>[]
 |p::ps,i,m=>match Nat.testBit m i with
  |true=>oT ps (i+1) m
  |false=>match qD p.am m with
   |true=>i::oT ps (i+1) m
   |false=>oT ps (i+1) m
structure qN (ops:Array Oper) (listed:Array Bool) (m:Nat):Prop where
 size:listed.size=ops.size
 bit:∀ i,i<ops.size->m.testBit i=listed.getD i false
theorem qN.set {ops:Array Oper} {listed:Array Bool} {m:Nat} (h:qN ops listed m) (i:Nat):qN ops (listed.setIfInBounds i true) (iO m (2 ^ i)):=by
 refine⟨by simp [h.size],fun k hk=>?_⟩
 show(m ||| 2 ^ i).testBit k=_
 rw[Nat.testBit_or,Nat.testBit_two_pow,h.bit k hk]
 by_cases hik:i=k
 ·subst hik
  have:i<listed.size:=by rw[h.size];exact hk
  simp [this]
 ·rw[getD_set_ne false hik]
  simp [hik]
theorem qN.ready {P:Program} {ops:Array Oper} {listed:Array Bool} {m:Nat} (h:qN ops listed m) (hlt:∀ o∈ops,∀ e∈o.after,e.on<ops.size) {i:Nat} {o:Oper} (ho:ops[i]? =some o):i∈Region.ready .any ops listed ↔ m.testBit i=false/\qD (gY P ops i).am m=true:=by
 have hi:i<ops.size:=(Array.getElem?_eq_some_iff.1 ho).1
 have hil:i<listed.size:=by rw[h.size];exact hi
 rw[mem_ready]
 simp only[gY,ho,afq]
 have e1:(listed.getD i true=false) ↔ m.testBit i=false:=by
  rw[h.bit i hi]
  simp [hil]
 rw[e1]
 constructor
 ·rintro⟨h1,o',ho',hall⟩
  cases ho'
  refine⟨h1,fun k hk=>?_⟩
  simp only[Fg,ef,lZ]at hk
  obtain⟨e,⟨he,hb⟩,rfl⟩:=hk
  rw[h.bit e.on (hlt o (Array.mem_of_getElem? ho) e (by simpa using he))]
  exact hall e (by simpa using he) hb
 ·rintro⟨h1,hall⟩
  refine⟨h1,o,rfl,fun e he hb=>?_⟩
  have:=hall e.on (ef.2 ⟨e,lZ.2 ⟨by simpa using he,hb⟩,rfl⟩)
  rwa [h.bit e.on (hlt o (Array.mem_of_getElem? ho) e he)]at this
theorem SF {P:Program} {ops:Array Oper} {j:Nat}:(gY P ops j).vz=nQ P ops j:=by
 unfold gY
 split
 ·rfl
 ·rename_i h;simp [nQ,h]
theorem MV {d m:Nat} (h:Fh (2 ^ d) m=true):m.testBit d=false:=by
 have h:=cP h
 have h1:(2 ^ d &&& m).testBit d=(0:Nat).testBit d:=congrArg (fun z=>z.testBit d) h
 rw[Nat.testBit_and,Nat.testBit_two_pow]at h1
 simpa using h1
theorem Xd {P:Program} {ops:Array Oper} {i j:Nat} {oi oj:Oper} (hi:ops[i]? =some oi) (hj:ops[j]? =some oj) (h:xy (gY P ops i) (gY P ops j)=true):oi.apart ops oj=true:=by
 simp only[xy,gY,hi,hj,iW]at h
 obtain⟨h1,h2⟩:=h
 unfold Oper.apart
 rw[iW]
 constructor
 ·split
  ·rename_i d hd
   rw[hd]at h1
   have h3:=MV h1
   have h4:(oO (oj.looksAt ops) ||| (match oj.dst with | some d=>2 ^ d | none=>0)).testBit d=false:=h3
   rw[Nat.testBit_or,Bool.or_eq_false_iff,vV]at h4
   simp only[decide_eq_false_iff_not]at h4
   simp only[iW,Bool.not_eq_true',List.contains_eq_mem,decide_eq_false_iff_not,bne_iff_ne,ne_eq]
   refine⟨h4.1,fun e=>?_⟩
   rw[e]at h4
   simp at h4
  ·rfl
 ·split
  ·rename_i d hd
   rw[hd]at h2
   have h3:=MV h2
   rw[vV]at h3
   simp only[decide_eq_false_iff_not]at h3
   simp [h3]
  ·rfl
theorem OZ {P:Program} {ops:Array Oper} {i m:Nat}:∀{n k:Nat},pj (gY P ops i) i m (jf P ops k n) k=true->∀ j,k<=j->j<k+n->
  (m.testBit j=true->direct ops j i=true->nQ P ops j=true)/\(m.testBit j=false->(j=i/\direct ops i i=false)∨(j≠i/\(direct ops j i=true∨xy (gY P ops i) (gY P ops j)=true)))
 | 0,k,_,j,h1,h2=>by omega
 |n+1,k,h,j,h1,h2=>by
  simp only[jf,pj]at h
  have rest:pj (gY P ops i) i m (jf P ops (k+1) n) (k+1)=true->k≠j->(m.testBit j=true->direct ops j i=true->nQ P ops j=true)/\(m.testBit j=false->(j=i/\direct ops i i=false)∨(j≠i/\(direct ops j i=true∨xy (gY P ops i) (gY P ops j)=true))):=
   fun hr hkj=>OZ hr j (by omega) (by omega)
  split at h
  ·rename_i hb
   split at h
   ·cases h
   ·rename_i hne
    by_cases hkj:k=j
    ·subst hkj
     refine⟨fun _ hw=>?_,fun hf=>by rw[hb]at hf;cases hf⟩
     cases he:nQ P ops k
     ·exact(hne (by rw[xx];exact hw) (by rw[SF];exact he)).elim
     ·rfl
    ·exact rest h hkj
  ·rename_i hb
   split at h
   ·rename_i hki
    have Qb:=cP hki
    split at h
    ·cases h
    ·rename_i hw
     rw[xx]at hw
     by_cases hkj:k=j
     ·subst hkj
      exact⟨fun ht=>(by rw[hb]at ht;cases ht),fun _=> .inl ⟨Qb,by rw[<- Qb]at hw ⊢;exact hw⟩⟩
     ·exact rest h hkj
   ·rename_i hki
    have hne:∀{x:Nat},k=x->x≠i:=fun e e'=>by subst e;subst e';simp at hki
    split at h
    ·rename_i hw
     rw[xx]at hw
     by_cases hkj:k=j
     ·exact⟨fun ht=>(by rw[<- hkj,hb]at ht;cases ht),fun _=> .inr ⟨hne hkj,.inl (by rw[<- hkj];exact hw)⟩⟩
     ·exact rest h hkj
    ·split at h
     ·rename_i hap
      by_cases hkj:k=j
      ·exact⟨fun ht=>(by rw[<- hkj,hb]at ht;cases ht),fun _=> .inr ⟨hne hkj,.inr (by rw[<- hkj];exact hap)⟩⟩
      ·exact rest h hkj
     ·cases h
theorem JO {P:Program} {ops:Array Oper} {m:Nat}:∀{n i k:Nat},i<=k->k<i+n->m.testBit k=false->qD (gY P ops k).am m=true->k∈oT (jf P ops i n) i m
 | 0,i,k,h1,h2,_,_=>by omega
 |n+1,i,k,h1,h2,h3,h4=>by
  simp only[jf,oT]
  by_cases hik:i=k
  ·subst hik
   rw[h3,h4]
   simp
  ·have:=JO (n:=n) (i:=i+1) (by omega) (by omega) h3 h4
   split
   ·exact this
   ·split
    ·exact f_ _ this
    ·exact this
theorem Tq {P:Program} {ops:Array Oper} {m:Nat}:∀{n i k:Nat},k∈oT (jf P ops i n) i m->i<=k/\k<i+n/\m.testBit k=false/\qD (gY P ops k).am m=true
 | 0,i,k,h=>by simp [jf,oT]at h
 |n+1,i,k,h=>by
  simp only[jf,oT]at h
  have rest:k∈oT (jf P ops (i+1) n) (i+1) m->i<=k/\k<i+(n+1)/\m.testBit k=false/\qD (gY P ops k).am m=true:=fun h=>by
   obtain⟨a,b,c,d⟩:=Tq h
   exact⟨by omega,by omega,c,d⟩
  split at h
  ·exact rest h
  ·rename_i h1
   split at h
   ·rename_i h2
    rcases eI.1 h with rfl | h
    ·exact⟨au _,by omega,h1,h2⟩
    ·exact rest h
   ·exact rest h
theorem qN.free {P:Program} {ops:Array Oper} {listed:Array Bool} {m:Nat} (h:qN ops listed m) {i:Nat} {oi:Oper} (ho:ops[i]? =some oi) (hc:pj (gY P ops i) i m (jf P ops 0 ops.size) 0=true):
  (∀ j oj,ops[j]? =some oj->j≠i->listed.getD j true=false->(∀ e∈oj.after,Region.binds .any e=true->e.on≠i)->oi.apart ops oj=true):=by
 intro j oj hj hji hun hno
 have hjl:j<ops.size:=(Array.getElem?_eq_some_iff.1 hj).1
 have aag:j<listed.size:=by rw[h.size];exact hjl
 have hw:direct ops j i=false:=by
  unfold direct
  rw[hj]
  rw[Bool.eq_false_iff]
  intro hw
  obtain⟨e,he,hb⟩:=Array.any_eq_true'.1 hw
  simp only[iW,beq_iff_eq]at hb
  exact hno e he hb.1 hb.2
 have Hm:m.testBit j=false:=by
  rw[h.bit j hjl]
  simp [aag]at hun ⊢
  exact hun
 rcases(OZ hc j (bt j) (by omega)).2 Hm with ⟨h1,_⟩ | ⟨_,h2 | h2⟩
 ·exact absurd h1 hji
 ·rw[hw]at h2;cases h2
 ·exact Xd ho hj h2
theorem Closed.nt {P:Program} {ops:Array Oper} {listed:Array Bool} (hc:Closed ops listed) {i:Nat} (hi:i∈Region.ready .any ops listed):nt P ops listed i=true/\waits P ops i i=false:=by
 constructor
 ·rw[CB]
  intro k hk he
  cases hb:listed.getD k false
  ·rfl
  ·have:=VH hc (fun q hq=>hc k q hb hq) hk
   rw[JP hi]at this;cases this
 ·exact Ry hc hi hi
def Bh (ops:Array Oper):Bool:=ops.all fun o=>o.after.all fun e=>Nat.blt e.on ops.size
theorem YJ {ops:Array Oper} (h:Bh ops=true):∀ o∈ops,∀ e∈o.after,e.on<ops.size:=by
 intro o ho e he
 have h1:=Array.all_eq_true_iff_forall_mem.1 h o ho
 have h2:=Array.all_eq_true_iff_forall_mem.1 h1 e he
 exact Nat.lt_of_succ_le (Nat.le_of_ble_eq_true h2)
def Ym (ops:Array Oper) (i:Nat) (fr:Fr) (kb:KB):Bool:=
 match ops[i]? with
 |some o=>match yV o with
  |some (.load _,xs)=>match tT fr xs with
   |some [.ptr b off]=>match kb[b]? with
    |some (.cells l)=>match je l off with
     |some v=> !(V.nP v) && !(cq l.length 8)
     |none=>false
    |_=>false
   |_=>false
  |_=>false
 |none=>false
def II (plan:List ga) (m i:Nat):List ga->Nat->Bool
 | [],_=>false
 |o::r,k=>match Nat.testBit m k,o.vz,o.al with
  |false,false,false=>match Nat.testBit (sE plan 12 o.am) i with
   |false=>true
   |true=>II plan m i r (k+1)
  |_,_,_=>II plan m i r (k+1)
def rR (all:List ga) (ops:Array Oper) (m:Nat) (fr:Fr) (kb:KB):List ga->Nat->Option Nat
 | [],_=>none
 |p::ps,i=>match p.vz,Nat.testBit m i with
  |true,false=>match qD p.am m with
   |true=>match pj p i m all 0 with
    |true=>match Ym ops i fr kb with
     |true=>match II all m i all 0 with
      |true=>rR all ops m fr kb ps (i+1)
      |false=>some i
     |false=>some i
    |false=>rR all ops m fr kb ps (i+1)
   |false=>rR all ops m fr kb ps (i+1)
  |_,_=>rR all ops m fr kb ps (i+1)
def adD (plan:List ga) (ops:Array Oper) (m:Nat) (fr:Fr) (kb:KB):Option Nat:=rR plan ops m fr kb plan 0
theorem SW {P:Program} {ops:Array Oper} {m:Nat} {fr:Fr} {kb:KB} {all:List ga}:∀{n i k:Nat},rR all ops m fr kb (jf P ops i n) i=some k->k<i+n/\(gY P ops k).vz=true/\m.testBit k=false/\qD (gY P ops k).am m=true/\pj (gY P ops k) k m all 0=true
 | 0,i,k,h=>by simp [jf,rR]at h
 |n+1,i,k,h=>by
  simp only[jf,rR]at h
  have rest:rR all ops m fr kb (jf P ops (i+1) n) (i+1)=some k->k<i+(n+1)/\(gY P ops k).vz=true/\m.testBit k=false/\qD (gY P ops k).am m=true/\pj (gY P ops k) k m all 0=true:=fun h=>by
   obtain⟨a,b⟩:=SW h
   exact⟨by omega,b⟩
  split at h
  ·rename_i h1 h2
   split at h
   ·rename_i h3
    split at h
    ·rename_i h4
     split at h
     ·split at h
      ·exact rest h
      ·cases h
       exact⟨by omega,h1,h2,h3,h4⟩
     ·cases h
      exact⟨by omega,h1,h2,h3,h4⟩
    ·exact rest h
   ·exact rest h
  ·exact rest h
def mB (P:Program) (X:bN) (n:Nat) (ops:Array Oper) (plan:List ga):Nat->Nat->List j3->(Fr->KB->Prop)->Fr->KB->Prop
 | 0,m,_,K,fr,kb=>match oT plan 0 m with | []=>K fr kb | _=>False
 |fuel+1,m,gW,K,fr,kb=>
  match adD plan ops m fr kb with
  |some i=>match ops[i]? with
   |some o=>sM ops o fr
     (fun fr=>match yV o with
      |some (r,xs)=>match tT fr xs with
       |some gf=>kH P r gf kb (fun v=>kg n o.dst v fr (fun fr'=>mB P X n ops plan fuel (iO m (2 ^ i)) (⟨i,r,gf,v⟩::gW) K fr' kb))
       |none=>False
      |none=>match isPure P o.op with
       |true=>yP P o fr kb (fun v=>kg n o.dst v fr (fun fr'=>mB P X n ops plan fuel (iO m (2 ^ i)) gW K fr' kb))
       |false=>False)
     (fun fr=>kg n o.dst (.any undef) fr (fun fr'=>mB P X n ops plan fuel (iO m (2 ^ i)) gW K fr' kb))
   |none=>False
  |none=>match oT plan 0 m with
   | []=>K fr kb
   |r::rs=>conj (r::rs) (fun j=>match ops[j]?,nQ P ops j with
    |some o,false=>sM ops o fr
      (fun fr=>match B4 o.op,Qy gW with
       |true,true=>yS P kb gW (pH P X o fr kb (fun v kb'=>kg n o.dst v fr (fun fr'=>mB P X n ops plan fuel (iO m (2 ^ j)) (gW.filter fun l=> !(waits P ops j l.i)) K fr' kb')))
       |_,_=>match vK P ops j kb gW with
        |b::bs=>yR P (b::bs) kb gW (pH P X o fr (yd (b::bs) kb) (fun v kb'=>match ze (b::bs) kb kb' with
         |some k2=>sY P ops j k2 (gW.filter fun l=> !(uc (b::bs) l)) (kg n o.dst v fr (fun fr'=>mB P X n ops plan fuel (iO m (2 ^ j)) (gW.filter fun l=> !(waits P ops j l.i)) K fr' k2))
         |none=>False))
        | []=>pH P X o fr kb (fun v kb'=>sY P ops j kb' gW (kg n o.dst v fr (fun fr'=>mB P X n ops plan fuel (iO m (2 ^ j)) (gW.filter fun l=> !(waits P ops j l.i)) K fr' kb'))))
      (fun fr=>kg n o.dst (.any undef) fr (fun fr'=>mB P X n ops plan fuel (iO m (2 ^ j)) (gW.filter fun l=> !(waits P ops j l.i)) K fr' kb))
    |some o,true=>sM ops o fr
      (fun fr=>match yV o with
       |some (r,xs)=>match tT fr xs with
        |some gf=>kH P r gf kb (fun v=>kg n o.dst v fr (fun fr'=>mB P X n ops plan fuel (iO m (2 ^ j)) gW K fr' kb))
        |none=>False
       |none=>match isPure P o.op with
        |true=>yP P o fr kb (fun v=>kg n o.dst v fr (fun fr'=>mB P X n ops plan fuel (iO m (2 ^ j)) gW K fr' kb))
        |false=>False)
      (fun fr=>kg n o.dst (.any undef) fr (fun fr'=>mB P X n ops plan fuel (iO m (2 ^ j)) gW K fr' kb))
    |none,_=>False)
structure qO where
 i:Nat
 s:Sem Next
 x:Value
def GL (P:Program) (ops:Array Oper) (L:List qO) (listed:Array Bool) (j:Nat) (w w':World):Prop:=
 ∀ l∈L,nt P ops listed l.i=true->waits P ops j l.i=false->l.s.run P w= .ok (.value l.x) w->l.s.run P w'= .ok (.value l.x) w'
def ox (P:Program) (σ:Sg) (E:EH) (W:World) (l:j3) (r:qO):Prop:=
 r.i=l.i/\r.s.run P W= .ok (.value r.x) W/\Den σ E l.v r.x/\∃ as,aq σ E l.gf as/\r.s=(do pure (.value (<- rT l.r as)))
def zM (P:Program) (ops:Array Oper) (listed:Array Bool) (σ:Sg) (E:EH) (W:World) (ls:List j3) (L:List qO):Prop:=
 ∀ r∈L,nt P ops listed r.i=true->∃ l∈ls,ox P σ E W l r
def LS (P:Program) (kb:KB) (l:j3):Prop:=(Lo l.v/\kH P l.r l.gf kb (fun v=>nC v l.v))∨(H4 l.r l.gf=true/\kH P l.r l.gf kb (fun _=>True))
theorem vS {P:Program} {ops:Array Oper} {j:Nat} {kb:KB}:∀{ls:List j3} {R:Prop},sY P ops j kb ls R->R/\∀ l∈ls,waits P ops j l.i=false->LS P kb l
 | [],R,h=>⟨h,fun l hl=>by cases hl⟩
 |l::ls,R,h=>by
  simp only[sY]at h
  split at h
  ·rename_i hw
   obtain⟨h1,h2⟩:=vS h
   refine⟨h1,fun l' hl' hw'=>?_⟩
   rcases eI.1 hl' with rfl | hl'
   ·rw[hw]at hw';cases hw'
   ·exact h2 l' hl' hw'
  ·split at h
   ·rename_i hx
    obtain⟨h1,h2⟩:=vS h.2
    refine⟨h1,fun l' hl' hw'=>?_⟩
    rcases eI.1 hl' with rfl | hl'
    ·exact .inl ⟨fun _ _ _ _ _ _ h k=>Be hx h k,h.1⟩
    ·exact h2 l' hl' hw'
   ·split at h
    ·rename_i ps hps
     obtain⟨h1,h2⟩:=vS h.2
     refine⟨h1,fun l' hl' hw'=>?_⟩
     rcases eI.1 hl' with rfl | hl'
     ·exact .inl ⟨Yr hps h.1.1,h.1.2⟩
     ·exact h2 l' hl' hw'
    ·split at h
     ·rename_i hx
      obtain⟨h1,h2⟩:=vS h.2
      refine⟨h1,fun l' hl' hw'=>?_⟩
      rcases eI.1 hl' with rfl | hl'
      ·exact .inr ⟨hx,h.1⟩
      ·exact h2 l' hl' hw'
     ·exact h.elim
theorem Ti {P:Program} {kb:KB}:∀{ls:List j3} {R:Prop},yS P kb ls R->R/\∀ l∈ls,∃ t,l.r= .load t/\kH P l.r l.gf kb (fun _=>True)
 | [],R,h=>⟨h,fun l hl=>by cases hl⟩
 | ⟨i,r,gf,u⟩::ls,R,h=>by
  cases r with
  |look t ok=>simp only[yS]at h
  |load t=>
   simp only[yS]at h
   obtain⟨h1,h2⟩:=Ti h.2
   refine⟨h1,fun l hl=>?_⟩
   rcases eI.1 hl with rfl | hl
   ·exact⟨t,rfl,h.1⟩
   ·exact h2 l hl
theorem ox.quiet {P:Program} {σ τ:Sg} {E E':EH} {W W':World} {l:j3} {r:qO} (h:ox P σ E W l r) (hE:E.le E') {kb:KB} (hi:Inv σ E kb W) (hW:o8 W W') {t:TypeId} (hl:l.r= .load t) (hk:kH P l.r l.gf kb (fun _=>True)):ox P (σ++τ) E' W' l r:=by
 obtain⟨h1,h2,h3,a,h4,h5⟩:=h
 obtain⟨li,lr,QG,lv⟩:=l
 simp only at hl h1 h3 h4 h5 hk
 subst hl
 unfold kH at hk
 split at hk<;>try exact hk.elim
 ·rename_i ad _ _
  simp only[aq]at h4
  obtain⟨y,ys,rfl,h6,rfl⟩:=h4
  rename_i hr
  cases hr
  obtain⟨v,x,k1,_,_⟩:=QV hk hi h6
  have e1:=k1 W (o8.refl W)
  have e2:=k1 W' hW
  have e3:r.x=x:=by
   rw[h5]at h2
   simp [rT,e1]at h2
   exact h2.symm
  refine⟨h1,?_,Den.mono hE h3,[y],aq.mono hE (by simp only[aq];exact⟨y,[],rfl,h6,rfl⟩),h5⟩
  rw[h5,e3]
  simp [rT,e2]
 ·contradiction
theorem PZ {σ:Sg} {E:EH} {kb:KB} {W:World} (hi:Inv σ E kb W) (b:Nat):Inv σ E (kb.set b .dead) W:=by
 have hc:∀{i:Nat} {o:KO},(kb.set b .dead)[i]? =some o->o= .dead∨kb[i]? =some o:=by
  intro i o h
  by_cases e:b=i
  ·subst e
   rw[List.getElem?_set_self']at h
   cases hk:kb[b]? with
   |none=>rw[hk]at h;simp at h
   |some x=>rw[hk]at h;simp at h;exact .inl h.symm
  ·rw[gE e]at h;exact .inr h
 refine⟨by rw[iA];exact hi.len,fun i r o h1 h2=>?_,fun i j r r' o o' c hij h1 h2 h3 h4 h5 h6=>?_,hi.dj,fun c ⟨i,r,o,h1,h2,h3⟩=>?_⟩
 ·rcases hc h2 with rfl | h2
  ·trivial
  ·exact hi.obj i r o h1 h2
 ·rcases hc h2 with rfl | h2
  ·exact h5.elim
  ·rcases hc h4 with rfl | h4
   ·exact h6.elim
   ·exact hi.dA i j r r' o o' c hij h1 h2 h3 h4 h5 h6
 ·rcases hc h2 with rfl | h2
  ·exact h3.elim
  ·exact hi.sep c ⟨i,r,o,h1,h2,h3⟩
theorem agd {σ σ':Sg} {E E':EH} {kb kb':KB} {W W':World} {b:Nat} {x:KO} (hi:Inv σ E kb W) (hs:Step σ E (kb.set b .dead) W σ' E' kb' W') (hx:kb[b]? =some x) (hd:kb'[b]? =some .dead):
  Step σ E kb W σ' E' (kb'.set b x) W'/\∀ r,σ[b]? =some r->∀ c,owned r x c->W'.heap[c]? =W.heap[c]?:=by
 obtain⟨τ,rfl⟩:=hs.pre
 have cj:b<kb.length:=(bO.1 hx).1
 have ZV:b<kb'.length:=(bO.1 hd).1
 have Hp:b<σ.length:=by rw[hi.len];exact cj
 have hrb:(σ++τ)[b]? =σ[b]?:=dX Hp
 have hid:∀ c,ct σ (kb.set b .dead) c->ct σ kb c:=by
  rintro c ⟨i,r,o,h1,h2,h3⟩
  by_cases e:b=i
  ·subst e
   rw[iz cj]at h2
   cases h2
   exact h3.elim
  ·rw[gE e]at h2
   exact⟨i,r,o,h1,h2,h3⟩
 have hno:∀ r,σ[b]? =some r->∀ c,owned r x c->¬ ct σ (kb.set b .dead) c:=by
  rintro r hr c hc ⟨i,r2,o,h1,h2,h3⟩
  by_cases e:b=i
  ·subst e
   rw[iz cj]at h2
   cases h2
   exact h3.elim
  ·rw[gE e]at h2
   exact hi.dA b i r r2 x o c e hr hx h1 h2 hc h3
 have ub:∀ r,σ[b]? =some r->∀ c,owned r x c->W'.heap[c]? =W.heap[c]?:=fun r hr c hc=>hs.bM.block c ((hi.obj b r x hr hx).lt hc) (hno r hr c hc)
 have eU:∀{i:Nat} {r:Re} {o:KO},(σ++τ)[i]? =some r->(kb'.set b x)[i]? =some o->(i=b/\o=x/\σ[b]? =some r)∨(i≠b/\kb'[i]? =some o):=by
  intro i r o h1 h2
  by_cases e:b=i
  ·subst e
   rw[iz ZV]at h2
   rw[hrb]at h1
   exact .inl ⟨rfl,(bc.inj h2).symm,h1⟩
  ·rw[gE e]at h2
   exact .inr ⟨fun q=>e q.symm,h2⟩
 have hx2:∀{i:Nat} {r r2:Re} {o:KO} {c:Nat},(σ++τ)[i]? =some r->kb'[i]? =some o->owned r o c->σ[b]? =some r2->owned r2 x c->False:=by
  intro i r r2 o c h1 h2 h3 h4 h5
  rcases hs.own c ⟨i,r,o,h1,h2,h3⟩with h6 | h6
  ·exact hno r2 h4 c h5 h6
  ·have:=(hi.obj b r2 x h4 hx).lt h5;omega
 have hsep:∀ r,σ[b]? =some r->∀ c,owned r x c->E' c=none:=by
  intro r hr c hc
  cases hE:E' c with
  |none=>rfl
  |some y=>
   rcases hs.new c y hE with h | h | h
   ·have:=hi.sep c ⟨b,r,x,hr,hx,hc⟩;rw[this]at h;cases h
   ·exact(hno r hr c hc h).elim
   ·have:=(hi.obj b r x hr hx).lt hc;omega
 refine⟨⟨⟨by rw[iA];exact hs.inv.len,fun i r o h1 h2=>?_,fun i j r r' o o' c hij h1 h2 h3 h4 h5 h6=>?_,hs.inv.dj,fun c ⟨i,r,o,h1,h2,h3⟩=>?_⟩,⟨hs.bM.os,hs.bM.tape,hs.bM.output,hs.bM.size,fun c hc hn=>hs.bM.block c hc (fun h=>hn (hid c h))⟩,⟨τ,rfl⟩,hs.le,fun c ⟨i,r,o,h1,h2,h3⟩=>?_,fun c y hc=>?_⟩,ub⟩
 ·rcases eU h1 h2 with ⟨rfl,rfl,h⟩ | ⟨_,h⟩
  ·exact(hi.obj _ r o h hx).mono hs.le (ub r h)
  ·exact hs.inv.obj i r o h1 h
 ·rcases eU h1 h2 with ⟨rfl,rfl,h⟩ | ⟨e,h⟩<;>rcases eU h3 h4 with ⟨rfl,e2,h'⟩ | ⟨e',h'⟩
  ·exact hij rfl
  ·exact hx2 h3 h' h6 h h5
  ·subst e2;exact hx2 h1 h h5 h' h6
  ·exact hs.inv.dA i j r r' o o' c hij h1 h h3 h' h5 h6
 ·rcases eU h1 h2 with ⟨rfl,rfl,h⟩ | ⟨e,h⟩
  ·exact hsep r h c h3
  ·exact hs.inv.sep c ⟨i,r,o,h1,h,h3⟩
 ·rcases eU h1 h2 with ⟨rfl,rfl,h⟩ | ⟨e,h⟩
  ·exact .inl ⟨_,r,o,h,hx,h3⟩
  ·rcases hs.own c ⟨i,r,o,h1,h,h3⟩with q | q
   ·exact .inl (hid c q)
   ·exact .inr q
 ·rcases hs.new c y hc with q | q | q
  ·exact .inl q
  ·exact .inr (.inl (hid c q))
  ·exact .inr (.inr q)
theorem P0 {σ:Sg} {E:EH} {W:World}:∀{bs:List Nat} {kb:KB},Inv σ E kb W->Inv σ E (yd bs kb) W
 | [],_,hi=>hi
 |b::bs,kb,hi=>by
  show Inv σ E (yd bs (kb.set b .dead)) W
  exact P0 (PZ hi b)
theorem Vf {σ σ':Sg} {E E':EH} {kb':KB} {W W':World}:∀{bs:List Nat} {kb k2:KB},Inv σ E kb W->Step σ E (yd bs kb) W σ' E' kb' W'->ze bs kb kb'=some k2->
  Step σ E kb W σ' E' k2 W'/\∀ b∈bs,∀ x,kb[b]? =some x->∀ r,σ[b]? =some r->∀ c,owned r x c->W'.heap[c]? =W.heap[c]?
 | [],kb,k2,hi,hs,h=>by
  simp only[ze,bc.injEq]at h
  subst h
  exact⟨hs,fun b hb=>by cases hb⟩
 |b::bs,kb,k2,hi,hs,h=>by
  simp only[ze]at h
  split at h<;>try (cases h;done)
  rename_i k3 hk3
  obtain⟨h1,h2⟩:=Vf (bs:=bs) (PZ hi b) hs hk3
  split at h<;>try (cases h;done)
  rename_i y hy hyd
  simp only[bc.injEq]at h
  subst h
  obtain⟨h3,h4⟩:=agd hi h1 hy hyd
  refine⟨h3,fun b' hb' x hx r hr c hc=>?_⟩
  by_cases e:b=b'
  ·subst e
   rw[hy]at hx;cases hx
   exact h4 r hr c hc
  ·rcases eI.1 hb' with rfl | hb'
   ·exact(e rfl).elim
   ·exact h2 b' hb' x (by rw[gE e];exact hx) r hr c hc
theorem aad {bs:List Nat} {l:j3} (h:uc bs l=true):∃ t b,b∈bs/\l.r= .load t/\((∃ off,l.gf=[.ptr b off])∨∃ ix br,l.gf=[.pe b ix br]):=by
 unfold uc at h
 split at h
 ·rename_i t b' off _
  exact⟨t,b',Hl h,rfl,.inl ⟨off,rfl⟩⟩
 ·rename_i t b' ix br _
  exact⟨t,b',Hl h,rfl,.inr ⟨ix,br,rfl⟩⟩
 ·cases h
theorem JK {P:Program} {bs:List Nat} {kb:KB}:∀{ls:List j3} {R:Prop},yR P bs kb ls R->R/\∀ l∈ls,uc bs l=true->kH P l.r l.gf kb (fun _=>True)
 | [],R,h=>⟨h,fun l hl=>by cases hl⟩
 |l::ls,R,h=>by
  simp only[yR]at h
  split at h
  ·obtain⟨h1,h2⟩:=JK h.2
   refine⟨h1,fun l' hl hr=>?_⟩
   rcases eI.1 hl with rfl | hl
   ·exact h.1
   ·exact h2 l' hl hr
  ·rename_i hn
   obtain⟨h1,h2⟩:=JK h
   refine⟨h1,fun l' hl hr=>?_⟩
   rcases eI.1 hl with rfl | hl
   ·rw[hr]at hn;cases hn
   ·exact h2 l' hl hr
theorem ox.fix {P:Program} {σ τ:Sg} {E E':EH} {W W':World} {l:j3} {r:qO} (h:ox P σ E W l r) (hE:E.le E') {kb:KB} (hi:Inv σ E kb W) {bs:List Nat} (hR:uc bs l=true) (hk:kH P l.r l.gf kb (fun _=>True))
  (ub:∀ b∈bs,∀ x,kb[b]? =some x->∀ r,σ[b]? =some r->∀ c,owned r x c->W'.heap[c]? =W.heap[c]?):ox P (σ++τ) E' W' l r:=by
 obtain⟨h1,h2,h3,a,h4,h5⟩:=h
 obtain⟨t,b,hb,e1,e2⟩:=aad hR
 obtain⟨li,lr,QG,lv⟩:=l
 simp only at h1 h3 h4 h5 hk e1 e2
 subst e1
 have key:∃ y z,a=[y]/\(Instr.loadAt t y).run P W= .ok z W/\(Instr.loadAt t y).run P W'= .ok z W':=by
  rcases e2 with ⟨off,rfl⟩ | ⟨ix,br,rfl⟩
  ·simp only[aq]at h4
   obtain⟨y,ys,rfl,h6,rfl⟩:=h4
   simp only[Den]at h6
   obtain⟨re,py,rfl⟩:=h6
   simp only[kH]at hk
   obtain⟨z,hz⟩:=aa9 hk hi py
   have hown:∃ x,kb[b]? =some x/\owned re x re.blk:=by
    unfold nq at hk
    split at hk<;>try exact hk.elim
    dsimp only at hk
    split at hk<;>try exact hk.elim
    rename_i l hl
    exact⟨_,hl,rfl⟩
   obtain⟨x,hx,hown⟩:=hown
   exact⟨_,z,rfl,hz W rfl,hz W' (ub b hb x hx re py _ hown)⟩
  ·simp only[aq]at h4
   obtain⟨y,ys,rfl,h6,rfl⟩:=h4
   simp only[Den]at h6
   obtain⟨re,py,rfl⟩:=h6
   simp only[kH]at hk
   obtain⟨hown,z,hz⟩:=aa_ hk hi py
   cases hx:kb[b]? with
   |none=>
    unfold nq at hk
    simp only[hx]at hk
    split at hk<;>try exact hk.elim
    split at hk<;>try exact hk.elim
    split at hk<;>exact hk.elim
   |some x=>exact⟨_,z,rfl,hz W rfl,hz W' (ub b hb x hx re py _ (hown x hx))⟩
 obtain⟨y,z,rfl,g1,g2⟩:=key
 have e3:r.x=z:=by
  rw[h5]at h2
  simp [rT,g1]at h2
  exact h2.symm
 refine⟨h1,?_,Den.mono hE h3,_,aq.mono hE h4,h5⟩
 rw[h5,e3]
 simp [rT,g2]
theorem Xb {P:Program} {X:bN} {o:Oper} (ho:B4 o.op=true) {fr:Fr} {kb:KB} {K:V->KB->Prop} (h:pH P X o fr kb K) {σ:Sg} {E:EH} {n:Nat} {a:Act} {W:World} (hi:Inv σ E kb W) (Q:Exit->Act->World->Prop):
  o.wp P a W (fun a' W'=>u7 σ E kb W a o K a' W'/\o8 W W') Q:=by
 obtain⟨dst,op,ty,pos,after,guard⟩:=o
 cases op<;>simp only[B4]at ho<;>try (cases ho;done)
 rename_i t
 unfold pH at h
 simp only[isPure]at h
 unfold Gl at h
 simp only at h
 obtain⟨v,x,σ',kb',W',h1,h2,h3,h4,h5⟩:=MQ h hi
 exact lp (by simp [execOp,h1]) ⟨⟨σ',E,kb',v,x,h2,h3,rfl,h4⟩,h5⟩
theorem ox.step {P:Program} {σ τ:Sg} {E E':EH} {W W':World} {l:j3} {r:qO} (h:ox P σ E W l r) (hE:E.le E') {kb':KB} (hi0:∀ b o,E b=some o->W.heap[b]? =some o) (hi:Inv (σ++τ) E' kb' W') (hk:LS P kb' l):ox P (σ++τ) E' W' l r:=by
 obtain⟨h1,h2,h3,a,h4,h5⟩:=h
 rcases hk with ⟨hv,hl⟩ | ⟨hm,hl⟩
 case inr=>
  obtain⟨li,lr,QG,lv⟩:=l
  simp only at h1 h3 h4 h5 hm hl
  unfold H4 at hm
  split at hm
  case h_2=>cases hm
  rename_i t e br
  simp only[aq]at h4
  obtain⟨y,ys,rfl,h6,rfl⟩:=h4
  simp only[kH]at hl
  obtain⟨x,hx⟩:=aba hl h6
  have e1:=hx hi0
  have e2:=hx (W:=W') (fun b o hb=>hi.dj b o (hE b o hb))
  have e3:r.x=x:=by
   rw[h5]at h2
   simp [rT,e1]at h2
   exact h2.symm
  refine⟨h1,?_,Den.mono hE h3,[y],aq.mono hE (by simp only[aq];exact⟨y,[],rfl,h6,rfl⟩),h5⟩
  rw[h5,e3]
  simp [rT,e2]
 obtain⟨v,x,k1,k2,k3⟩:=JM hl hi (aq.mono hE h4)
 replace k3:=K4 k3
 subst k3
 have e1:=hv _ _ _ _ _ _ h3 k2
 refine⟨h1,?_,Den.mono hE h3,a,aq.mono hE h4,h5⟩
 rw[h5,e1]
 simp [k1]
theorem Od {P:Program} {X:bN} (hX:b9 P X) {c:Cx} {n:Nat} {ops:Array Oper} (m9:Region.noSelect ops=true) (yb:Bh ops=true) {Q:Exit->Act->World->Prop} {K:Fr->KB->Prop} (hQ:∀ a W,jr c n K a W->Q .normal a W)
  (Hg:∀ ch a a' w,Q (.panic ch) a w->Q (.panic ch) a' w):∀(fuel:Nat) (m:Nat) (listed:Array Bool) (gW:List j3) (fr:Fr) (kb:KB) (a:Act) (W:World) (σ:Sg) (E:EH) (L:List qO),qN ops listed m->Closed ops listed->
   Step c.σ c.E c.kb c.W σ E kb W->eG σ E fr n a->zM P ops listed σ E W gW L->mB P X n ops (jf P ops 0 ops.size) fuel m gW K fr kb->qI P ops Q (GL P ops L) fuel listed a W:=by
 have hlt:=YJ yb
 have PQ:∀{m:Nat} {listed:Array Bool},qN ops listed m->oT (jf P ops 0 ops.size) 0 m=[]->Region.ready .any ops listed=[]:=by
  intro m listed hm h0
  apply List.eq_nil_iff_forall_not_mem.2
  intro k hk
  obtain⟨_,o,ho,_⟩:=mem_ready.1 hk
  obtain⟨h1,h2⟩:=(hm.ready hlt ho).1 hk
  have:=JO (ops:=ops) (n:=ops.size) (i:=0) (bt k) (by have:=(Array.getElem?_eq_some_iff.1 ho).1;omega) h1 h2
  rw[h0]at this;cases this
 intro fuel
 induction fuel with
 |zero=>
  intro m listed gW fr kb a W σ E L hm hcl hs hf hL h
  simp only[mB]at h
  split at h
  ·rename_i hr;exact⟨PQ hm hr,hQ a W ⟨σ,E,fr,kb,hs,hf,h⟩⟩
  ·exact h.elim
 |succ fuel ih=>
  intro m listed gW fr kb a W σ E L hm hcl hs hf hL h
  simp only[mB]at h
  have hsel:=Region.noSelect_spec m9
  split at h
  ·rename_i i hfind
   obtain⟨hil,tZ,Hm,hsub,pu⟩:=SW hfind
   split at h
   case h_2=>exact h.elim
   rename_i o ho
   have hmem:=(hm.ready hlt ho).2 ⟨Hm,hsub⟩
   have hfree:=hm.free ho pu
   obtain⟨uf,hii⟩:=hcl.nt (P:=P) hmem
   have Z5:nQ P ops i=true:=by rw[<- SF];exact tZ
   have dR:∀(L:List qO) l j w w',j≠i->GL P ops L (l.setIfInBounds i true) j w w'->GL P ops L l j w w':=by
    intro L l j w w' _ hg r hr hn hw hrun
    exact hg r hr (I3 hn (.inr Z5)) hw hrun
   have hkeep:∀{ls:List j3},zM P ops listed σ E W ls L->zM P ops (listed.setIfInBounds i true) σ E W ls L:=fun hl r hr hn=>hl r hr (vY hn)
   obtain⟨fr',hf',⟨hw,h⟩ | ⟨hw,h⟩⟩:=vG h hf
   ·split at h
    ·rename_i rr xs hrd
     split at h
     case h_2=>exact h.elim
     rename_i gf had
     obtain⟨v,y,h1,h2,h3⟩:=JM h hs.inv (Bl hf' had)
     obtain⟨fO,gx,h4⟩:=ny h3 hf' h2
     have BR:=Tn hrd a.eval
     have hW:(execOp a.eval o).run P W= .ok (.value y) W:=by rw[BR];simp [h1]
     have ih1:=ih (iO m (2 ^ i)) (listed.setIfInBounds i true) (⟨i,rr,gf,v⟩::gW) fO kb (a.put o.dst y) W σ E (⟨i,execOp a.eval o,y⟩::L) (hm.set i) (hcl.set hmem) hs gx (fun r hr hn=>by
      rcases eI.1 hr with rfl | hr
      ·exact⟨_,iB,rfl,hW,h2,_,Bl hf' had,BR⟩
      ·obtain⟨l,hl,hl2⟩:=hkeep hL r hr hn
       exact⟨l,f_ _ hl,hl2⟩) h4
     exact qI.weaken (fun l j w w' hg r hr=>hg r (f_ _ hr)) (GQ (C:=fun w=>(execOp a.eval o).run P w= .ok (.value y) w) ho hsel (fun ch a w=>Hg ch _ a w)
      (fun l j w w' hn lL hg hC=>hg ⟨i,execOp a.eval o,y⟩ iB hn lL hC) (fun l w r hr hn hw hrun=>hrun) (dR _) fuel listed a W hfree hcl hmem (.inl ⟨hw,fun w hC=>hC⟩) hW uf hii ih1)
    ·split at h
     case h_2=>exact h.elim
     obtain⟨v,y,h1,h2,h3⟩:=JH h hf' hs.inv
     obtain⟨fO,gx,h4⟩:=ny h3 hf' h2
     have ih1:=ih (iO m (2 ^ i)) (listed.setIfInBounds i true) gW fO kb (a.put o.dst y) W σ E L (hm.set i) (hcl.set hmem) hs gx (hkeep hL) h4
     exact GQ (C:=fun _=>True) ho hsel (fun ch a w=>Hg ch _ a w) (fun _ _ _ _ _ _ _ _=>trivial) (fun l w r hr hn hw hrun=>hrun) (dR _) fuel listed a W hfree hcl hmem (.inl ⟨hw,fun w _=>h1 w⟩) trivial uf hii ih1
   ·obtain⟨fO,gx,h4⟩:=ny h hf' (σ:=σ) (E:=E) (x:=undef) (by simp [Den])
    have ih1:=ih (iO m (2 ^ i)) (listed.setIfInBounds i true) gW fO kb (a.put o.dst undef) W σ E L (hm.set i) (hcl.set hmem) hs gx (hkeep hL) h4
    exact GQ (C:=fun _=>True) ho hsel (fun ch a w=>Hg ch _ a w) (fun _ _ _ _ _ _ _ _=>trivial) (fun l w r hr hn hw hrun=>hrun) (dR _) fuel listed a W hfree hcl hmem (.inr ⟨hw,rfl⟩) trivial uf hii ih1
  ·split at h
   ·rename_i hr
    have hr':=PQ hm hr
    exact⟨fun _=>hQ a W ⟨σ,E,fr,kb,hs,hf,h⟩,by rw[hr'];simp⟩
   ·rename_i r rs hr
    refine⟨fun h0=>?_,fun j hj=>?_⟩
    ·obtain⟨_,g2,g3,g4⟩:=Tq (ops:=ops) (m:=m) (n:=ops.size) (i:=0) (k:=r) (by rw[hr];exact iB)
     have hrl:r<ops.size:=by omega
     have:=(hm.ready hlt (Array.getElem?_eq_getElem hrl)).2 ⟨g3,g4⟩
     rw[h0]at this;cases this
    have BK:j<listed.size:=by
     obtain⟨h0,_⟩:=mem_ready.1 hj
     rcases jF j listed.size with h' | h'
     ·exact h'
     ·simp [Array.getElem?_eq_none h']at h0
    have hjr:j∈r::rs:=by
     obtain⟨_,o,ho,_⟩:=mem_ready.1 hj
     obtain⟨h1,h2⟩:=(hm.ready hlt ho).1 hj
     rw[<- hr]
     exact JO (ops:=ops) (n:=ops.size) (i:=0) (bt j) (by rw[<- hm.size];omega) h1 h2
    have h:=NH h j hjr
    split at h
    case h_3=>exact h.elim
    case h_2=>
     rename_i o ho tZ
     unfold wpOp
     simp only[ho]
     have HL:zM P ops (listed.setIfInBounds j true) σ E W gW L:=fun r hr hn=>hL r hr (vY hn)
     obtain⟨fr',hf',⟨hw,h⟩ | ⟨hw,h⟩⟩:=vG h hf
     ·rw[if_pos hw]
      split at h
      ·rename_i rr xs hrd
       split at h
       case h_2=>exact h.elim
       rename_i gf had
       obtain⟨v,y,h1,h2,h3⟩:=JM h hs.inv (Bl hf' had)
       obtain⟨fO,gx,h4⟩:=ny h3 hf' h2
       have BR:=Tn hrd a.eval
       have hW:(execOp a.eval o).run P W= .ok (.value y) W:=by rw[BR];simp [h1]
       exact .inl (lp hW ⟨fun r hr hn lL hrun=>hrun,ih (iO m (2 ^ j)) (listed.setIfInBounds j true) gW fO kb _ W σ E L (hm.set j) (hcl.set hj) hs gx HL h4⟩)
      ·split at h
       case h_2=>exact h.elim
       obtain⟨v,y,h1,h2,h3⟩:=JH h hf' hs.inv
       obtain⟨fO,gx,h4⟩:=ny h3 hf' h2
       exact .inl (lp (h1 W) ⟨fun r hr hn lL hrun=>hrun,ih (iO m (2 ^ j)) (listed.setIfInBounds j true) gW fO kb _ W σ E L (hm.set j) (hcl.set hj) hs gx HL h4⟩)
     ·rw[if_neg (by simp [hw])]
      obtain⟨fO,gx,h4⟩:=ny h hf' (σ:=σ) (E:=E) (x:=undef) (by simp [Den])
      exact⟨fun r hr hn lL hrun=>hrun,ih (iO m (2 ^ j)) (listed.setIfInBounds j true) gW fO kb _ W σ E L (hm.set j) (hcl.set hj) hs gx HL h4⟩
    rename_i o ho tZ
    unfold wpOp
    simp only[ho]
    obtain⟨fr',hf',⟨hw,h⟩ | ⟨hw,h⟩⟩:=vG h hf
    ·rw[if_pos hw]
     split at h
     ·rename_i Hj _
      obtain⟨h,k5⟩:=Ti h
      refine .inl (Oper.wp_mono (fun a' W' ha=>?_) (Xb (n:=n) (a:=a) Hj h hs.inv Q))
      obtain⟨⟨σ',E',kb',v,x,k1,k2,rfl,k4⟩,PS⟩:=ha
      have hpre:=k1.pre
      obtain⟨τ,rfl⟩:=hpre
      obtain⟨fO,gx,h4⟩:=ny k4 (hf'.mono k1.le) k2
      refine⟨fun r hr hn lL hrun=>?_,ih (iO m (2 ^ j)) (listed.setIfInBounds j true) _ fO kb' _ W' _ E' L (hm.set j) (hcl.set hj) (hs.trans k1) gx (fun r hr hn=>?_) h4⟩
      ·obtain⟨l,hl,hlo⟩:=hL r hr hn
       obtain⟨t,ht,hk⟩:=k5 l hl
       exact(hlo.quiet (τ:=τ) k1.le hs.inv PS ht hk).2.1
      ·obtain⟨l,hl,hlo⟩:=hL r hr (vY hn)
       have lK:waits P ops j l.i=false:=by rw[<- hlo.1];exact CC BK tZ hn
       obtain⟨t,ht,hk⟩:=k5 l hl
       exact⟨l,lZ.2 ⟨hl,by simp [lK]⟩,hlo.quiet k1.le hs.inv PS ht hk⟩
     split at h
     ·rename_i b bs hb
      obtain⟨h,hq⟩:=JK h
      refine .inl (Oper.wp_mono (fun a' W' ha=>?_) (v8 hX h hf' (P0 hs.inv) Q))
      obtain⟨σ',E',kb',v,x,k1,k2,rfl,k3⟩:=ha
      split at k3<;>try exact k3.elim
      rename_i kz hkz
      obtain⟨k1,ub⟩:=Vf hs.inv k1 hkz
      obtain⟨k4,k5⟩:=vS k3
      obtain⟨τ,rfl⟩:=k1.pre
      obtain⟨fO,gx,h4⟩:=ny k4 (hf'.mono k1.le) k2
      have keep:∀{l:j3} {r:qO},l∈gW->ox P σ E W l r->waits P ops j l.i=false->ox P (σ++τ) E' W' l r:=by
       intro l r hl hlo lK
       cases hr:uc (b::bs) l with
       |true=>exact hlo.fix k1.le hs.inv hr (hq l hl hr) ub
       |false=>exact hlo.step k1.le hs.inv.dj k1.inv (k5 l (lZ.2 ⟨hl,by simp [hr]⟩) lK)
      refine⟨fun r hr hn lL hrun=>?_,ih (iO m (2 ^ j)) (listed.setIfInBounds j true) _ fO _ _ W' _ E' L (hm.set j) (hcl.set hj) (hs.trans k1) gx (fun r hr hn=>?_) h4⟩
      ·obtain⟨l,hl,hlo⟩:=hL r hr hn
       have lK:waits P ops j l.i=false:=by rw[<- hlo.1];exact lL
       exact(keep hl hlo lK).2.1
      ·obtain⟨l,hl,hlo⟩:=hL r hr (vY hn)
       have lK:waits P ops j l.i=false:=by rw[<- hlo.1];exact CC BK tZ hn
       exact⟨l,lZ.2 ⟨hl,by simp [lK]⟩,keep hl hlo lK⟩
     refine .inl (Oper.wp_mono (fun a' W' ha=>?_) (v8 hX h hf' hs.inv Q))
     obtain⟨σ',E',kb',v,x,k1,k2,rfl,k3⟩:=ha
     obtain⟨k4,k5⟩:=vS k3
     obtain⟨τ,rfl⟩:=k1.pre
     obtain⟨fO,gx,h4⟩:=ny k4 (hf'.mono k1.le) k2
     refine⟨fun r hr hn lL hrun=>?_,ih (iO m (2 ^ j)) (listed.setIfInBounds j true) _ fO kb' _ W' _ E' L (hm.set j) (hcl.set hj) (hs.trans k1) gx (fun r hr hn=>?_) h4⟩
     ·obtain⟨l,hl,hlo⟩:=hL r hr hn
      have lK:waits P ops j l.i=false:=by rw[<- hlo.1];exact lL
      exact((hlo.step k1.le hs.inv.dj k1.inv (k5 l hl lK)).2.1)
     ·obtain⟨l,hl,hlo⟩:=hL r hr (vY hn)
      have lK:waits P ops j l.i=false:=by rw[<- hlo.1];exact CC BK tZ hn
      exact⟨l,lZ.2 ⟨hl,by simp [lK]⟩,hlo.step k1.le hs.inv.dj k1.inv (k5 l hl lK)⟩
    ·rw[if_neg (by simp [hw])]
     obtain⟨fO,gx,h4⟩:=ny h hf' (σ:=σ) (E:=E) (x:=undef) (by simp [Den])
     exact⟨fun r hr hn lL hrun=>hrun,ih (iO m (2 ^ j)) (listed.setIfInBounds j true) _ fO kb _ W σ E L (hm.set j) (hcl.set hj) hs gx (fun r hr hn=>by
      obtain⟨l,hl,hlo⟩:=hL r hr (vY hn)
      have lK:waits P ops j l.i=false:=by rw[<- hlo.1];exact CC BK tZ hn
      exact⟨l,lZ.2 ⟨hl,by simp [lK]⟩,hlo⟩) h4⟩
mutual
def V.bU (ρ:Nat->Option Nat):V->Option V
 | .ptr i off=>match ρ i with | some j=>some (.ptr j off) | none=>none
 | .mp i=>match ρ i with | some j=>some (.mp j) | none=>none
 | .ch i=>match ρ i with | some j=>some (.ch j) | none=>none
 | .pa i base o=>match ρ i with | some j=>some (.pa j base o) | none=>none
 | .pw i ix=>match ρ i with | some j=>some (.pw j ix) | none=>none
 | .sa i base o s n c=>match ρ i with | some j=>some (.sa j base o s n c) | none=>none
 | .se i ix o s n c=>match ρ i with | some j=>some (.se j ix o s n c) | none=>none
 | .sl i lo hi=>match ρ i with | some j=>some (.sl j lo hi) | none=>none
 | .pe i ix br=>match ρ i with | some j=>some (.pe j ix br) | none=>none
 | .agg l=>match V.k_ ρ l with | some l'=>some (.agg l') | none=>none
 | .χ l=>match V.k_ ρ l with | some l'=>some (.χ l') | none=>none
 | .fn f l=>match V.k_ ρ l with | some l'=>some (.fn f l') | none=>none
 | .tt=>some (.sb true)
 | .ff=>some (.sb false)
 | .lit k n=>some (.int k n)
 |v=>some v
def V.k_ (ρ:Nat->Option Nat):List V->Option (List V)
 | []=>some []
 |v::vs=>match V.bU ρ v with
  |some v'=>match V.k_ ρ vs with | some vs'=>some (v'::vs') | none=>none
  |none=>none
end
mutual
theorem Den.bU {ρ:Nat->Option Nat} {σ σ':Sg} {E:EH} (hρ:∀ i j r,ρ i=some j->σ[i]? =some r->σ'[j]? =some r):∀{v v':V} {x:Value},V.bU ρ v=some v'->Den σ E v x->Den σ' E v' x
 | .any _,_,_,h,hd | .int ..,_,_,h,hd | .lit ..,_,_,h,hd | .sb _,_,_,h,hd | .tt,_,_,h,hd | .ff,_,_,h,hd | .e0,_,_,h,hd | .cF ..,_,_,h,hd | .af _,_,_,h,hd | .imp ..,_,_,h,hd | .dat _,_,_,h,hd=>by
  simp only[V.bU,bc.injEq]at h;subst h;simpa only[Den]using hd
 | .arr ..,_,_,h,hd=>by simp only[Den]at hd
 | .ptr i off,v',x,h,hd=>by
  simp only[V.bU]at h
  split at h
  ·rename_i j hj;cases h
   simp only[Den]at hd ⊢
   obtain⟨r,h1,h2⟩:=hd
   exact⟨r,hρ i j r hj h1,h2⟩
  ·cases h
 | .pa i base o,v',x,h,hd=>by
  simp only[V.bU]at h
  split at h
  ·rename_i j hj;cases h
   simp only[Den]at hd ⊢
   obtain⟨r,h1,h2⟩:=hd
   exact⟨r,hρ i j r hj h1,h2⟩
  ·cases h
 | .pe i ix br,v',x,h,hd=>by
  simp only[V.bU]at h
  split at h
  ·rename_i j hj;cases h
   simp only[Den]at hd ⊢
   obtain⟨r,h1,h2⟩:=hd
   exact⟨r,hρ i j r hj h1,h2⟩
  ·cases h
 | .pw i ix,v',x,h,hd=>by
  simp only[V.bU]at h
  split at h
  ·rename_i j hj;cases h
   simp only[Den]at hd ⊢
   obtain⟨r,h1,h2⟩:=hd
   exact⟨r,hρ i j r hj h1,h2⟩
  ·cases h
 | .mp i,v',x,h,hd=>by
  simp only[V.bU]at h
  split at h
  ·rename_i j hj;cases h
   simp only[Den]at hd ⊢
   obtain⟨r,h1,h2⟩:=hd
   exact⟨r,hρ i j r hj h1,h2⟩
  ·cases h
 | .ch i,v',x,h,hd=>by
  simp only[V.bU]at h
  split at h
  ·rename_i j hj;cases h
   simp only[Den]at hd ⊢
   obtain⟨r,h1,h2⟩:=hd
   exact⟨r,hρ i j r hj h1,h2⟩
  ·cases h
 | .sl i lo hi,v',x,h,hd=>by
  simp only[V.bU]at h
  split at h
  ·rename_i j hj;cases h
   simp only[Den]at hd ⊢
   obtain⟨r,a,h1,h2⟩:=hd
   exact⟨r,a,hρ i j r hj h1,h2⟩
  ·cases h
 | .sa i base o s n c,v',x,h,hd=>by
  simp only[V.bU]at h
  split at h
  ·rename_i j hj;cases h
   simp only[Den]at hd ⊢
   obtain⟨r,a,h1,h2⟩:=hd
   exact⟨r,a,hρ i j r hj h1,h2⟩
  ·cases h
 | .se i ix o s n c,v',x,h,hd=>by
  simp only[V.bU]at h
  split at h
  ·rename_i j hj;cases h
   simp only[Den]at hd ⊢
   obtain⟨r,a,h1,h2⟩:=hd
   exact⟨r,a,hρ i j r hj h1,h2⟩
  ·cases h
 | .agg l,v',x,h,hd=>by
  simp only[V.bU]at h
  split at h
  ·rename_i l' hl;cases h
   simp only[Den]at hd ⊢
   obtain⟨vs,h1,h2⟩:=hd
   exact⟨vs,h1,aT.bU hρ hl h2⟩
  ·cases h
 | .χ l,v',x,h,hd=>by
  simp only[V.bU]at h
  split at h
  ·rename_i l' hl;cases h
   simp only[Den]at hd ⊢
   obtain⟨vs,h1,h2⟩:=hd
   exact⟨vs,h1,aq.bU hρ hl h2⟩
  ·cases h
 | .fn f l,v',x,h,hd=>by
  simp only[V.bU]at h
  split at h
  ·rename_i l' hl;cases h
   simp only[Den]at hd ⊢
   obtain⟨vs,h1,h2⟩:=hd
   exact⟨vs,h1,aq.bU hρ hl h2⟩
  ·cases h
theorem aq.bU {ρ:Nat->Option Nat} {σ σ':Sg} {E:EH} (hρ:∀ i j r,ρ i=some j->σ[i]? =some r->σ'[j]? =some r):∀{vs vs':List V} {xs:List Value},V.k_ ρ vs=some vs'->aq σ E vs xs->aq σ' E vs' xs
 | [],_,_,h,hd=>by simp only[V.k_,bc.injEq]at h;subst h;simpa only[aq]using hd
 |v::vs,_,_,h,hd=>by
  simp only[V.k_]at h
  split at h
  ·rename_i v' hv
   split at h
   ·rename_i us lJ;cases h
    simp only[aq]at hd ⊢
    obtain⟨x,xs',h1,h2,h3⟩:=hd
    exact⟨x,xs',h1,Den.bU hρ hv h2,aq.bU hρ lJ h3⟩
   ·cases h
  ·cases h
theorem aT.bU {ρ:Nat->Option Nat} {σ σ':Sg} {E:EH} (hρ:∀ i j r,ρ i=some j->σ[i]? =some r->σ'[j]? =some r):∀{vs vs':List V} {xs:List Value},V.k_ ρ vs=some vs'->aT σ E vs xs->aT σ' E vs' xs
 | [],_,_,h,hd=>by simp only[V.k_,bc.injEq]at h;subst h;simpa only[aT]using hd
 |v::vs,_,_,h,hd=>by
  simp only[V.k_]at h
  split at h
  ·rename_i v' hv
   split at h
   ·rename_i us lJ;cases h
    simp only[aT]at hd ⊢
    obtain⟨ys,zs,h1,h2,h3⟩:=hd
    refine⟨ys,zs,h1,?_,aT.bU hρ lJ h3⟩
    rcases h2 with ⟨y,e,o,hy⟩ | ⟨m,cs,e,hl,hD⟩
    ·exact .inl ⟨y,e,o,Den.bU hρ hv hy⟩
    ·subst e
     simp only[V.bU,bc.injEq]at hv
     subst hv
     exact .inr ⟨m,cs,rfl,hl,hD⟩
   ·cases h
  ·cases h
end
def KO.bU (ρ:Nat->Option Nat):KO->Option KO
 | .cells l=>match V.k_ ρ l with | some l'=>some (.cells l') | none=>none
 | .row ty sz l=>some (.row ty sz l)
 | .mp ay aS agg sz l=>some (.mp ay aS agg sz l)
 | .ch agg sz cap l=>some (.ch agg sz cap l)
 | .objs A=>some (.objs A)
 | .jd a=>some (.jd a)
 | .dead=>some .dead
theorem gp.bU {ρ:Nat->Option Nat} {σ σ':Sg} {E:EH} {W:World} (hρ:∀ i j r,ρ i=some j->σ[i]? =some r->σ'[j]? =some r) {o o':KO} {r:Re} (h:KO.bU ρ o=some o') (hh:gp σ E W r o):gp σ' E W r o':=by
 cases o with
 |cells l=>
  simp only[KO.bU]at h
  split at h
  ·rename_i l' hl;cases h
   obtain⟨arr,ty,h1,h2⟩:=hh
   exact⟨arr,ty,h1,aT.bU hρ hl h2⟩
  ·cases h
 |row ty sz l=>simp only[KO.bU,bc.injEq]at h;subst h;exact hh
 |mp ay aS agg sz l=>simp only[KO.bU,bc.injEq]at h;subst h;exact hh
 |ch agg sz cap l=>simp only[KO.bU,bc.injEq]at h;subst h;exact hh
 |objs A=>simp only[KO.bU,bc.injEq]at h;subst h;exact hh
 |jd a=>simp only[KO.bU,bc.injEq]at h;subst h;exact hh
 |dead=>simp only[KO.bU,bc.injEq]at h;subst h;trivial
theorem mg {ρ:Nat->Option Nat} {o o':KO} {r:Re} (h:KO.bU ρ o=some o') {b:Nat}:owned r o' b ↔ owned r o b:=by
 cases o with
 |cells l=>
  simp only[KO.bU]at h
  split at h
  ·cases h;exact Iff.rfl
  ·cases h
 |row ty sz l=>simp only[KO.bU,bc.injEq]at h;subst h;exact Iff.rfl
 |mp ay aS agg sz l=>simp only[KO.bU,bc.injEq]at h;subst h;exact Iff.rfl
 |ch agg sz cap l=>simp only[KO.bU,bc.injEq]at h;subst h;exact Iff.rfl
 |objs A=>simp only[KO.bU,bc.injEq]at h;subst h;exact Iff.rfl
 |jd a=>simp only[KO.bU,bc.injEq]at h;subst h;exact Iff.rfl
 |dead=>simp only[KO.bU,bc.injEq]at h;subst h;exact Iff.rfl
def idx:List Nat->Nat->Option Nat
 | [],_=>none
 |a::l,i=>match cq a i with
  |true=>some 0
  |false=>match idx l i with | some k=>some (k+1) | none=>none
theorem BX:∀{l:List Nat} {i k:Nat},idx l i=some k->l[k]? =some i
 | [],_,_,h=>by simp [idx]at h
 |a::l,i,k,h=>by
  simp only[idx]at h
  split at h
  ·rename_i hb
   cases h
   simp [cP hb]
  ·split at h
   ·rename_i j hj
    cases h
    simpa using BX hj
   ·cases h
def yx (l:List Nat) (i:Nat):Bool:=match idx l i with | some _=>true | none=>false
def ut:List Nat->Bool
 | []=>true
 |a::l=>match yx l a with | true=>false | false=>ut l
theorem BW:∀{l:List Nat} {i:Nat},i∈l->∃ k,idx l i=some k
 |a::l,i,h=>by
  simp only[idx]
  split
  ·exact⟨0,rfl⟩
  ·rename_i hb
   rcases eI.1 h with rfl | h
   ·simp at hb
   ·obtain⟨k,hk⟩:=BW h
    exact⟨k+1,by rw[hk]⟩
theorem Rx:∀{l:List Nat},ut l=true->l.Nodup
 | [],_=>List.nodup_nil
 |a::l,h=>by
  simp only[ut]at h
  split at h
  ·cases h
  ·rename_i hm
   refine List.nodup_cons.2 ⟨fun hin=>?_,Rx h⟩
   obtain⟨k,hk⟩:=BW hin
   simp [yx,hk]at hm
def rY (ρ:Nat->Option Nat) (kb:KB):List Nat->Option KB
 | []=>some []
 |i::is=>match kb[i]? with
  |some o=>match KO.bU ρ o with
   |some o'=>match rY ρ kb is with | some r=>some (o'::r) | none=>none
   |none=>none
  |none=>none
theorem wv {ρ:Nat->Option Nat} {kb:KB}:∀{order:List Nat} {r:KB},rY ρ kb order=some r->r.length=order.length/\∀(k i:Nat),order[k]? =some i->∃(o o':KO),kb[i]? =some o/\KO.bU ρ o=some o'/\r[k]? =some o'
 | [],r,h=>by simp only[rY,bc.injEq]at h;subst h;simp
 |i::is,r,h=>by
  simp only[rY]at h
  split at h<;>try (cases h;done)
  rename_i o ho
  split at h<;>try (cases h;done)
  rename_i o' ho'
  split at h<;>try (cases h;done)
  rename_i r' hr'
  cases h
  obtain⟨h1,h2⟩:=wv hr'
  refine⟨by simp [h1],fun k j hk=>?_⟩
  cases k with
  |zero=>simp at hk;subst hk;exact⟨o,o',ho,ho',rfl⟩
  |succ k=>simpa using h2 k j (by simpa using hk)
def JN:Re:=⟨0,0,0⟩
def dS (σ:Sg) (order:List Nat):Sg:=order.map fun i=>(σ[i]?).getD JN
theorem Inv.sel {σ:Sg} {E:EH} {kb:KB} {W:World} (h:Inv σ E kb W) {order:List Nat} {kb':KB} (hn:ut order=true) (hs:rY (idx order) kb order=some kb'):
  Inv (dS σ order) E kb' W/\(∀ b,ct (dS σ order) kb' b->ct σ kb b)/\(∀ i j r,idx order i=some j->σ[i]? =some r->(dS σ order)[j]? =some r):=by
 obtain⟨hl,di⟩:=wv hs
 have hnd:=Rx hn
 have hρ:∀ i j r,idx order i=some j->σ[i]? =some r->(dS σ order)[j]? =some r:=fun i j r hi hr=>by
  simp [dS,BX hi,hr]
 have BD:∀(k:Nat) (r:Re) (o':KO),(dS σ order)[k]? =some r->kb'[k]? =some o'->∃ i o,order[k]? =some i/\σ[i]? =some r/\kb[i]? =some o/\KO.bU (idx order) o=some o':=by
  intro k r o' h1 h2
  simp only[dS,fH,Option.map_eq_some_iff]at h1
  obtain⟨i,hi,hr⟩:=h1
  obtain⟨o,o2,ho,rj,hk⟩:=di k i hi
  rw[h2]at hk;cases hk
  have hlt:i<σ.length:=by
   rw[h.len]
   exact(bO.1 ho).1
  rw[bz hlt]at hr
  simp at hr
  exact⟨i,o,hi,by rw[bz hlt,hr],ho,rj⟩
 have hown:∀ b,ct (dS σ order) kb' b->ct σ kb b:=by
  rintro b ⟨k,r,o',h1,h2,h3⟩
  obtain⟨i,o,_,hr,ho,rj⟩:=BD k r o' h1 h2
  exact⟨i,r,o,hr,ho,(mg rj).1 h3⟩
 refine⟨⟨by simp [dS,hl],fun k r o' h1 h2=>?_,fun k m r1 r2 o1 o2 b hkm h1 h2 h3 h4 h5 h6=>?_,h.dj,fun b hb=>h.sep b (hown b hb)⟩,hown,hρ⟩
 ·obtain⟨i,o,_,hr,ho,rj⟩:=BD k r o' h1 h2
  exact(h.obj i r o hr ho).bU hρ rj
 ·obtain⟨i,o,hi,hr,ho,rj⟩:=BD k r1 o1 h1 h2
  obtain⟨j,p,hj,hr',hp,hp2⟩:=BD m r2 o2 h3 h4
  have hij:i≠j:=fun e=>by
   subst e
   have hk:=(bO.1 hi).1
   have hm:=(bO.1 hj).1
   rw[bz hk]at hi
   rw[bz hm]at hj
   simp at hi hj
   exact hkm ((List.getElem_inj hnd).1 (hi.trans hj.symm))
  exact h.dA i j r1 r2 o p b hij hr ho hr' hp ((mg rj).1 h5) ((mg hp2).1 h6)
mutual
def V.refs:V->List Nat
 | .ptr i _=>[i]
 | .sl i _ _=>[i]
 | .pe i _ _=>[i]
 | .pa i _ _=>[i]
 | .pw i _=>[i]
 | .sa i _ _ _ _ _=>[i]
 | .se i _ _ _ _ _=>[i]
 | .mp i=>[i]
 | .ch i=>[i]
 | .agg l=>V.wj l
 | .χ l=>V.wj l
 | .fn _ l=>V.wj l
 |_=>[]
def V.wj:List V->List Nat
 | []=>[]
 |v::vs=>V.refs v++V.wj vs
end
def KO.refs:KO->List Nat
 | .cells l=>V.wj l
 |_=>[]
def xt:List Nat->List Nat->List Nat
 |o,[]=>o
 |o,i::is=>match yx o i with | true=>xt o is | false=>xt (o++[i]) is
def reach (kb:KB):Nat->List Nat->Nat->List Nat
 | 0,o,_=>o
 |f+1,o,p=>match o[p]? with
  |none=>o
  |some i=>match kb[i]? with
   |some x=>reach kb f (xt o x.refs) (p+1)
   |none=>o
def vX:List Nat->List Nat->Bool
 | [],[]=>true
 |a::l,b::m=>match cq a b with | true=>vX l m | false=>false
 |_,_=>false
theorem Rr:∀{l m:List Nat},vX l m=true->l=m
 | [],[],_=>rfl
 |a::l,b::m,h=>by
  simp only[vX]at h
  split at h
  ·rename_i hb;rw[cP hb,Rr h]
  ·cases h
 | [],_:: _,h=>by simp [vX]at h
 |_:: _,[],h=>by simp [vX]at h
def JC:KB->Nat->List Nat
 | [],_=>[]
 | .objs _::kb,i=>i::JC kb (i+1)
 |_::kb,i=>JC kb (i+1)
def sC (pl:Bool) (n0:Nat) (vals:List V) (kb:KB):Option (List V×KB×List Nat):=
 let o1:=reach kb (kb.length+1) (iN n0) 0
 let o3:=reach kb (kb.length+1) (xt o1 (V.wj vals)) o1.length
 let o2:=match pl with | true=>xt o3 (JC kb 0) | false=>o3
 match ut o2,vX (o2.take n0) (iN n0)with
 |true,true=>match V.k_ (idx o2) vals,rY (idx o2) kb o2 with
  |some vs,some kb'=>some (vs,kb',o2)
  |_,_=>none
 |_,_=>none
theorem qT {pl:Bool} {n0:Nat} {vals:List V} {kb:KB} {vs:List V} {kb':KB} {o:List Nat} (h:sC pl n0 vals kb=some (vs,kb',o)):
  ut o=true/\o.take n0=iN n0/\V.k_ (idx o) vals=some vs/\rY (idx o) kb o=some kb':=by
 unfold sC at h
 simp only at h
 split at h
 ·rename_i h1 h2
  split at h
  ·rename_i vs' jK h3 h4
   simp only[bc.injEq,Prod.mk.injEq]at h
   obtain⟨rfl,rfl,rfl⟩:=h
   exact⟨h1,Rr h2,h3,h4⟩
  ·cases h
 ·cases h
def canon (n0:Nat) (vals:List V) (kb:KB):Option (List V×KB×List Nat):=sC true n0 vals kb
theorem XM {n0:Nat} {vals:List V} {kb:KB} {vs:List V} {kb':KB} {o:List Nat} (h:canon n0 vals kb=some (vs,kb',o)):
 ut o=true/\o.take n0=iN n0/\V.k_ (idx o) vals=some vs/\rY (idx o) kb o=some kb':=qT h
theorem Step.sel {c:Cx} {σ:Sg} {E:EH} {kb:KB} {W:World} (h:Step c.σ c.E c.kb c.W σ E kb W) {vals:List V} {vs:List V} {kb':KB} {o:List Nat} (hc:canon c.σ.length vals kb=some (vs,kb',o)) {xs:List Value} (hd:aq σ E vals xs):
  ∃ σ',Step c.σ c.E c.kb c.W σ' E kb' W/\aq σ' E vs xs:=by
 obtain⟨h1,h2,h3,h4⟩:=XM hc
 obtain⟨k1,k2,k3⟩:=h.inv.sel h1 h4
 refine⟨dS σ o,⟨k1,h.bM,?_,h.le,fun b hb=>h.own b (k2 b hb),h.new⟩,aq.bU k3 h3 hd⟩
 obtain⟨τ,oJ⟩:=h.pre
 refine⟨(dS σ o).drop c.σ.length,?_⟩
 have e:(dS σ o).take c.σ.length=c.σ:=by
  unfold dS
  rw[<- List.map_take,h2,oJ]
  apply lB
  intro i
  rcases jF i c.σ.length with hi | hi
  ·rw[fH,List.getElem?_range hi]
   simp [dX hi,bz hi]
  ·rw[g_ (by simp;exact hi),g_ hi]
 conv=>lhs;rw[<- List.take_append_drop c.σ.length (dS σ o),e]
end Vc
set_option linter.unusedSimpArgs false
set_option linter.unusedVariables false
namespace Vc
open Go Go.Conc
open Go.IntKind renaming i64->γ,u8->ν,u32->iy
open Go.Value renaming int->φ,map->kr,oneCell'->l0
open List renaming map->ae,drop->ax,take->aA,length_append->bo,getElem?_eq_getElem->bz,getElem?_eq_some_iff->bO,length_map->cp,take_length->cZ,length_take->dc,mem_singleton->dm,replicate->dp,mem_append->dQ,Mem->dW,getElem?_append_left->dX,mem_map->ef,append_assoc->eH,mem_cons->eI,getElem?_append_right->e_,append_nil->fu,getElem?_map->fH,take_of_length_le->fI,length_drop->fZ,mem_cons_of_mem->f_,getElem?_set_ne->gE,length_cons->gF,mem_of_getElem?->gG,getElem?_eq_none->g_,getElem?_set_self->iz,length_set->iA,mem_cons_self->iB,length_singleton->iL,mem_append_left->iM,range->iN,drop_zero->iX,getD_eq_getElem?_getD->iY,getElem?_take_of_lt->ji,flatten_cons->jt,nil_append->ju,getElem?_drop->jE,map_append->jZ,take_add_one->j2,length_nil->ko,ext_getElem?->lB,getElem?_of_mem->lC,mem_append_right->lD,map_cons->lY,mem_filter->lZ,eq_nil_of_length_eq_zero->mq
open Nat renaming le_refl->au,zero_le->bt,beq->cq,eq_of_beq_eq_true->cP,zero_add->cQ,add_assoc->gR,lor->iO,lt_or_ge->jF,sub_zero->kV
open Option renaming some->bc,bind_eq_some_iff->kW,map->mU
open Int renaming le_refl->dy,toNat_natCast->dD
open Bool renaming and_eq_true->iW,not_eq_false'->nI
def J_ (P:Program) (cases:Array SelectCase) (fr:Fr) (kb:KB) (K:V->KB->Prop):Prop:=
 match cases.toList with
 | [s]=>match ev fr s.chan with
  |some (.ch i)=>match s.send with
   |some y=>match kZ fr y with | some v=>Kb P s.elem i v kb K | none=>False
   |none=>JQ P s.elem i kb K
  |_=>False
 |_=>False
def uA (P:Program) (X:bN) (n:Nat) (ops:Array Oper):List Oper->(Fr->KB->Prop)->Fr->KB->Prop
 | [],K,fr,kb=>K fr kb
 |o::rest,K,fr,kb=>match o.op with
  | .select cases false=>match o.guard with
   |none=>J_ P cases fr kb (fun v kb'=>kg n o.dst v fr (fun fr'=>uA P X n ops rest K fr' kb'))
   |some _=>False
  |_=>sM ops o fr (fun fr=>pH P X o fr kb (fun v kb'=>kg n o.dst v fr (fun fr'=>uA P X n ops rest K fr' kb')))
   (fun fr=>kg n o.dst (.any undef) fr (fun fr'=>uA P X n ops rest K fr' kb))
theorem adp {P:Program} {ops:Array Oper} {i:Nat} {rest:List Nat} {o:Oper} {a:Act} {w:World} {K:Act->World->Prop} (ho:ops[i]? =some o) (hw:Region.wanted o (yielded ops a.tmps)=true)
  (h:o.wp P a w K (fun _ _ _=>False)) (b:Frame) (k:List Item) (cs:List Frame):
  ∃ a' w',K a' w'/\Steps P (lone (b.at a (.inRegion ops (i::rest)::k)) cs w) (lone (b.at a' (.inRegion ops rest::k)) cs w'):=by
 have hg:=stepG_op (P:=P) (b:=b) (k:=k) (cs:=cs) (w:=w) (rest:=rest) ho hw
 have qd:∀(a:Act) (v:Value),(b.at a (.inRegion ops (i::rest)::k)).finish v=b.at (a.put o.dst v) (.inRegion ops rest::k):=fun a v=>by
  rw[Frame.finish_at,ho];rfl
 unfold Oper.wp at h
 generalize hr:(execOp a.eval o).run P w=r at h
 cases r with
 |halt x w'=>cases x<;>exact h.elim
 |ok x w'=>
  cases x with
  |value v=>
   exact⟨_,w',h,.one (step_lone_go (by rw[hg,<- qd];simp [stepG.apply,hr]))⟩
  |skip=>
   exact⟨_,w',h,.one (step_lone_go (by rw[hg,<- qd];simp [stepG.apply,hr]))⟩
  |defer d=>
   refine⟨_,w',h,.one (step_lone_go ?_)⟩
   have e:=qd {a with defers:=d::a.defers } undef
   rw[hg,<- e]
   simp only[stepG.apply,Sem.runT_eq,hr,GStep.bare_after]
   rfl
  |enter f args=>
   simp only[Oper.upon]at h
   obtain⟨e,w2,fr,hR,H1,_,aaj⟩:=h (b.at a (.inRegion ops (i::rest)::k)::cs)
   have HE:step P (lone (b.at a (.inRegion ops (i::rest)::k)) cs w)= .next (lone (Frame.enter P f args .normal) (b.at a (.inRegion ops (i::rest)::k)::cs) w'):=
    step_lone_go (by rw[hg];simp [stepG.apply,hr,Frame.at])
   cases e with
   |returned v=>
    refine⟨_,w2,hR,.head HE (H1.trans (.one ?_))⟩
    rw[<- qd];exact step_leave_returned aaj
   |panicked ch=>exact hR.elim
   |outgrown=>obtain⟨_,_,hq⟩:=hR;exact hq.elim
  |row r args=>
   simp only[Oper.upon]at h
   obtain⟨v,w2,hR,H1⟩:=h (b.at a (.inRegion ops (i::rest)::k)) cs
   have HE:step P (lone (b.at a (.inRegion ops (i::rest)::k)) cs w)= .next (lone (Frame.ofRow P r args .normal) (b.at a (.inRegion ops (i::rest)::k)::cs) w'):=
    step_lone_go (by rw[hg];simp [stepG.apply,hr,Frame.at])
   refine⟨_,w2,hR,.head HE ?_⟩
   rw[<- qd];exact H1
  |_=>exact h.elim
def zk (P:Program) (ops:Array Oper) (Q:Act->World->Prop):List Nat->Act->World->Prop
 | [],a,w=>Q a w
 |i::rest,a,w=>∀(b:Frame) (k:List Item) (cs:List Frame),∃ a' w',zk P ops Q rest a' w'/\
  Steps P (lone (b.at a (.inRegion ops (i::rest)::k)) cs w) (lone (b.at a' (.inRegion ops rest::k)) cs w')
theorem VL {P:Program} {ops:Array Oper} {Q:Act->World->Prop} (b:Frame) (k:List Item) (cs:List Frame):∀{l:List Nat} {a:Act} {w:World},zk P ops Q l a w->
  ∃ a' w',Q a' w'/\Steps P (lone (b.at a (.inRegion ops l::k)) cs w) (lone (b.at a' k) cs w')
 | [],a,w,h=>⟨a,w,h,.one step_region_end⟩
 |i::rest,a,w,h=>by
  obtain⟨a1,w1,h1,s1⟩:=h b k cs
  obtain⟨a2,w2,h2,s2⟩:=VL b k cs h1
  exact⟨a2,w2,h2,s1.trans s2⟩
theorem ah_ {P:Program} {id:Nat} {ops:Array Oper} {Q:Exit->Act->World->Prop} {a:Act} {w:World} (h:zk P ops (Q .normal) (iN ops.size) a w):(Code.region id ops false).wp P Q a w:=fun b k cs=>by
 obtain⟨a',w',hq,hs⟩:=VL b k cs h
 exact⟨.normal,a',w',hq,.head step_region hs⟩
theorem Un {P:Program} {b:Frame} {a:Act} {k:List Item} {cs:List Frame} {w:World} {ops:Array Oper} {i:Nat} {rest:List Nat} {o:Oper} {cases:Array CommCase} {blocking:Bool} {shape:CommShape} {w':World} (ho:ops[i]? =some o) (hw:Region.wanted o (yielded ops a.tmps)=true)
  (hr:(execOp a.eval o).run P w= .ok (.comm cases blocking shape) w'):
  ∃ es,stepG P true (G (b.at a (.inRegion ops (i::rest)::k)) cs) w= .comm (G (b.at a (.inRegion ops (i::rest)::k)) cs) cases blocking shape w' es:=by
 rw[stepG_oper ho hw]
 simp only[stepG.apply,Sem.runT_eq,hr,if_true,G]
 exact⟨_,rfl⟩
theorem aeP {P:Program} {cases:Array SelectCase} {fr:Fr} {kb:KB} {K:V->KB->Prop} (h:J_ P cases fr kb K) {σ:Sg} {E:EH} {n:Nat} {a:Act} (hf:eG σ E fr n a) {W:World} (hi:Inv σ E kb W)
  {o:Oper} (hop:o.op= .select cases false) {ops:Array Oper} {i:Nat} {rest:List Nat} (ho:ops[i]? =some o) (hw:Region.wanted o (yielded ops a.tmps)=true) (b:Frame) (k:List Item) (cs:List Frame):
  ∃ a' W',u7 σ E kb W a o K a' W'/\Steps P (lone (b.at a (.inRegion ops (i::rest)::k)) cs W) (lone (b.at a' (.inRegion ops rest::k)) cs W'):=by
 have qd:∀(v:Value),(b.at a (.inRegion ops (i::rest)::k)).finish v=b.at (a.put o.dst v) (.inRegion ops rest::k):=fun v=>by
  rw[Frame.finish_at,ho];rfl
 unfold J_ at h
 split at h<;>try exact h.elim
 rename_i s hs
 have hcs:cases=#[s]:=by
  have:=congrArg List.toArray hs
  simpa using this
 subst hcs
 split at h<;>try exact h.elim
 rename_i ci hch
 have hc:=bT hf hch
 simp only[Den]at hc
 obtain⟨r,hr,hc⟩:=hc
 split at h
 ·rename_i y hy
  split at h<;>try exact h.elim
  rename_i v hv
  have hx:=mW hf hv
  obtain⟨cap,buf,sn,rr,z,g1,g2,g3,g4⟩:=aeQ h hi hr hx
  have hrun:(execOp a.eval o).run P W= .ok (.comm #[scase r.blk (a.eval y) z] false .select) W:=by
   simp [execOp,hop,hc,hy,g2,scase]
  obtain⟨es,hG⟩:=Un (b:=b) (k:=k) (cs:=cs) (rest:=rest) ho hw hrun
  by_cases hroom:buf.size<cap
  ·obtain⟨E',kb',s1,hK⟩:=g3 hroom
   have hstep:=step_lone_select_send_room hG g1 hroom
   rw[qd]at hstep
   refine⟨_,_,⟨σ,E',kb',_,_,s1,?_,rfl,hK⟩,.one hstep⟩
   simp only[Den]
   exact⟨[goInt 0,.bool false],rfl,.cons (by simp [Den,goInt]) (.cons (by simp [Den]) .nil)⟩
  ·obtain⟨E',kb',s1,hK⟩:=g4 hroom
   have hstep:=step_lone_select_send_full hG g1 (by omega)
   rw[qd]at hstep
   refine⟨_,_,⟨σ,E',kb',_,_,s1,?_,rfl,hK⟩,.one hstep⟩
   simp only[Den]
   exact⟨[goInt (-1),.bool false],rfl,.cons (by simp [Den,goInt]) (.cons (by simp [Den]) .nil)⟩
 ·rename_i hy
  obtain⟨cap,buf,sn,rr,z,g1,g2,g3,g4⟩:=aee h hi hr
  have hrun:(execOp a.eval o).run P W= .ok (.comm #[rcase r.blk z] false .select) W:=by
   simp [execOp,hop,hc,hy,g2,rcase]
  obtain⟨es,hG⟩:=Un (b:=b) (k:=k) (cs:=cs) (rest:=rest) ho hw hrun
  by_cases hsome:0<buf.size
  ·obtain⟨u,kb',s1,hu,hK⟩:=g3 hsome
   have hstep:=step_lone_select_recv_buf hG g1 hsome
   rw[qd]at hstep
   refine⟨_,_,⟨σ,E,kb',_,_,s1,?_,rfl,hK⟩,.one hstep⟩
   simp only[Den]
   exact⟨[goInt 0,.bool true,buf.getD 0 undef],rfl,.cons (by simp [Den,goInt]) (.cons (by simp [Den]) (.cons hu .nil))⟩
  ·have hb:buf=#[]:=Array.size_eq_zero_iff.1 (by omega)
   obtain⟨u,hu,hK⟩:=g4 hb
   subst hb
   have hstep:=step_lone_select_default hG g1
   rw[qd]at hstep
   refine⟨_,_,⟨σ,E,kb,_,_,Step.refl hi,?_,rfl,hK⟩,.one hstep⟩
   simp only[Den]
   exact⟨[goInt (-1),.bool false,z],rfl,.cons (by simp [Den,goInt]) (.cons (by simp [Den]) (.cons hu .nil))⟩
theorem Dg {P:Program} {X:bN} (hX:b9 P X) {c:Cx} {n:Nat} {ops:Array Oper} {Q:Act->World->Prop} {K:Fr->KB->Prop} (hQ:∀ a W,jr c n K a W->Q a W):
  ∀{l:List Oper} {j:Nat} {a:Act} {W:World},(∀ m,l[m]? =ops[j+m]?)->jr c n (uA P X n ops l K) a W->zk P ops Q (List.range' j l.length) a W
 | [],j,a,W,hl,h=>hQ a W h
 |o::rest,j,a,W,hl,h=>by
  have ho:ops[j]? =some o:=by have:=hl 0;simpa using this.symm
  have ru:∀ m,rest[m]? =ops[j+1+m]?:=fun m=>by
   have:=hl (m+1)
   rw[show j+1+m=j+(m+1) by omega]
   simpa using this
  obtain⟨σ,E,fr,kb,hs,hf,h⟩:=h
  rw[gF,List.range'_succ]
  unfold zk
  intro b k cs
  unfold uA at h
  split at h
  ·rename_i cases hop
   split at h<;>try exact h.elim
   rename_i hgu
   obtain⟨a',W',hA,hst⟩:=aeP h hf hs.inv hop ho (by simp [Region.wanted,hgu]) b k cs (rest:=List.range' (j+1) rest.length)
   exact⟨a',W',Dg hX hQ ru (hA.hat hs hf),hst⟩
  ·obtain⟨fr',hf',h | h⟩:=vG h hf
   ·obtain⟨a',W',hA,hst⟩:=adp ho h.1 (v8 hX h.2 hf' hs.inv _) b k cs (rest:=List.range' (j+1) rest.length)
    exact⟨a',W',Dg hX hQ ru (hA.hat hs hf'),hst⟩
   ·obtain⟨fO,h1,h2⟩:=ny h.2 hf' (σ:=σ) (E:=E) (x:=undef) (by simp [Den])
    have hst:=step_op_skip (P:=P) (b:=b) (a:=a) (k:=k) (cs:=cs) (w:=W) (ops:=ops) (i:=j) (rest:=List.range' (j+1) rest.length) (by simp [ho,h.1])
    simp only[ho,Option.bind_some]at hst
    exact⟨_,W,Dg hX hQ ru ⟨σ,E,fO,kb,hs,h1,h2⟩,.one hst⟩
theorem aen {P:Program} {X:bN} (hX:b9 P X) {c:Cx} {n:Nat} {id:Nat} {ops:Array Oper} {Q:Exit->Act->World->Prop} {K:Fr->KB->Prop} (hQ:∀ a W,jr c n K a W->Q .normal a W) {a:Act} {W:World}
  (h:jr c n (uA P X n ops ops.toList K) a W):(Code.region id ops false).wp P Q a W:=
 ah_ (by
  have:=Dg hX (Q:=Q .normal) hQ (l:=ops.toList) (j:=0) (by simp) h
  rw[List.range_eq_range',<- Array.length_toList]
  exact this)
end Vc
