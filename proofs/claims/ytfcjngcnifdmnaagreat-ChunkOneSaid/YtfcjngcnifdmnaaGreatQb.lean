import Derived.Test.YtfcjngcnifdmnaaGreatQa
import Derived.RangeFuncRecord
import Derived.Conc.LoneSelect
set_option linter.unusedSimpArgs false
set_option linter.unusedVariables false
namespace Vc
open Go
open Go.IntKind renaming i64->Z,u8->ι,u32->ic
open Go.Value renaming int->ν,map->kq,oneCell'->lU,bool->nE
open List renaming map->φ,drop->ay,take->az,length_append->bn,getElem?_eq_getElem->bp,getElem?_eq_some_iff->bG,length_map->bX,take_length->cM,length_take->cQ,replicate->dq,mem_append->dM,append_assoc->dO,getElem?_append_left->dP,mem_singleton->dQ,Mem->dS,mem_cons->ey,mem_map->eL,take_of_length_le->eM,getElem?_append_right->eW,mem_of_getElem?->fi,append_nil->fD,getElem?_map->fE,mem_cons_of_mem->fM,length_drop->fQ,getElem?_set_ne->gr,getD_eq_getElem?_getD->gD,getElem?_eq_none->gO,drop_zero->g_,getElem?_take_of_lt->hU,getElem?_set_self->ig,length_singleton->ii,length_set->ir,mem_cons_self->iu,range->iw,mem_append_left->iL,length_cons->iZ,take_add_one->i_,flatten_cons->jm,getElem?_drop->jw,getElem?_of_mem->jx,map_append->jy,nil_append->jV,length_nil->kn,mem_filter->kM,ext_getElem?->lw,eq_nil_of_length_eq_zero->ma,map_cons->mb,mem_append_right->mc
open Nat renaming le_refl->av,zero_le->bt,beq->cp,eq_of_beq_eq_true->cU,zero_add->c9,add_assoc->gE,lor->iy,lt_or_ge->jX,sub_zero->lT,le_trans->mf
open Option renaming some->bb,bind_eq_some_iff->kP,map->mO
open Int renaming toNat_natCast->cP,le_refl->fa
open Bool renaming and_eq_true->km,not_eq_false'->lm,not_eq_true'->lR
theorem Ol {sz:Nat} {l xs:List (List D)} (hl:wl sz l) (hx:wl sz xs) {lo:Nat} (h:lo+xs.length<=l.length):(splice l lo xs).flatten=splice l.flatten (lo*sz) xs.flatten:=by
 unfold splice
 rw[List.flatten_append,List.flatten_append,xI hl,xH hl,o9 hx,Nat.add_mul]
theorem UV {sz:Nat} {l xs:List (List D)} (hl:wl sz l) (hx:wl sz xs) (lo:Nat):wl sz (splice l lo xs):=((hl.take lo).append hx).append (hl.drop _)
def FQ (P:Program) (t:TypeId) (d x:V) (kb:KB) (K:V->KB->Prop):Prop:=
 match P.underlying t,sZ kb x with
 |some (.slice elem),some (sz,p,xs)=>match fA P elem with
  |some s=>match yS s sz with
   |true=>match d with
    | .sl i lo hi=>match kb[i]? with
     |some (.row ty sz' l)=>match cp sz' s with
      |true=>p/\hi<=l.length/\K (.int Z ((min xs.length (hi - lo):Nat):Int)) (kb.set i (.row ty sz' (splice l lo (xs.take (hi - lo)))))
      |false=>False
     |_=>False
    | .sa i base o s' n c=>match kb[i]?,cp s 1 with
     |some (.cells l),true=>match iX l base with
      |some (.arr m cs)=>match jg l base [.arr m (splice cs o (xs.take n).flatten)]with
       |some l'=>p/\o+n<=m/\K (.int Z ((min xs.length n:Nat):Int)) (kb.set i (.cells l'))
       |none=>False
      |_=>False
     |_,_=>False
    | .se i ix o s' n c=>match kb[i]?,cp s 1 with
     |some (.row ty sz' l),true=>p/\∃ e,l[ix]? =some e/\o+n<=sz'/\K (.int Z ((min xs.length n:Nat):Int)) (kb.set i (.row ty sz' (l.set ix (splice e o (xs.take n).flatten))))
     |_,_=>False
    |_=>False
   |false=>False
  |none=>False
 |_,_=>False
theorem CH {P:Program} {xs:List Value} (h1:∀ y∈xs,y.oneCell'=true) {W:World} {b o:Nat} {arr:Array Value} {ty:TypeId} (hb:W.heap[b]? =some (.cells arr ty (0,0))) (hl:o+xs.length<=arr.size):
  (storeCells ⟨b,o,none⟩ xs).run P W= .ok () (W.setRow b (splice arr.toList o xs).toArray):=by
 have hs:=run_storeCells_at P b o ty xs 0 arr W hb (by simpa using hl) h1
 simp only[Nat.add_zero]at hs
 simpa [splice]using hs
theorem adn {σ:Sg} {E:EH} {kb:KB} {W:World} (hi:Inv σ E kb W) {i:Nat} {r:Re} {l l':List V} (hr:σ[i]? =some r) (hl:kb[i]? =some (.cells l)) {base m o:Nat} {cs ds:List D} (hp:iX l base=some (.arr m cs))
  {xs:List Value} (hD:a_ E ds xs) (hle:o+ds.length<=m) (hl':jg l base [.arr m (splice cs o ds)]=some l'):
  ∃ arr ty,W.heap[r.blk]? =some (.cells arr ty (0,0))/\base+o+xs.length<=arr.size/\Step σ E kb W σ E (kb.set i (.cells l')) (W.setRow r.blk (splice arr.toList (base+o) xs).toArray):=by
 obtain⟨arr,ty,g1,g2⟩:=hi.obj i r _ hr hl
 obtain⟨ys,p1,p2,p3,p4⟩:=Ck hp g2
 have hdl:=hD.len
 have jo:=p1.len
 have jF:(splice cs o ds).length=m:=by rw[mF (by omega),p2]
 obtain⟨g3,g4⟩:=uu hl' g2 (.cons (.inr ⟨m,_,rfl,jF,p1.splice hD o⟩) .nil)
 have he:splice arr.toList base (splice ys o xs++[])=splice arr.toList (base+o) xs:=by
  rw[fD,<- p4]
  exact Tt p3 (by omega)
 rw[he]at g3
 have hst:Step σ E kb W σ E (kb.set i (.cells l')) (W.setRow r.blk (splice arr.toList (base+o) xs).toArray):=
  CP hi hr hl _ (fun b=>Iff.rfl) (fun b hb=>hb) ⟨_,ty,setRow_heap W r.blk arr _ ty (0,0) g1,by simpa using g3⟩
 simp only[Array.length_toList]at p3
 exact⟨arr,ty,g1,by omega,hst⟩
theorem Xj {P:Program} {t:TypeId} {d x:V} {kb:KB} {K:V->KB->Prop} (h:FQ P t d x kb K) {σ:Sg} {E:EH} {W:World} (hi:Inv σ E kb W) {a y:Value} (hd:Den σ E d a) (hy:Den σ E x y) (u ty:TypeId):
  ∃ v z kb' W',(Builtin.copy_ #[t,u] ty #[a,y]).run P W= .ok z W'/\Step σ E kb W σ E kb' W'/\Den σ E v z/\K v kb':=by
 unfold FQ at h
 split at h<;>try exact h.elim
 rename_i elem sz p xs ht hsrc
 split at h<;>try exact h.elim
 rename_i s hs
 split at h<;>try exact h.elim
 rename_i hfit
 split at h<;>try exact h.elim
 ·rename_i i lo hi'
  split at h<;>try exact h.elim
  rename_i ty' sz' l hl
  split at h<;>try exact h.elim
  rename_i hb
  have hsz:=cU hb
  subst hsz
  obtain⟨hp,hle,hK⟩:=h
  have hE:=uv hsrc hp hi hy hfit
  simp only[Den]at hd
  obtain⟨r,ad,hr,rfl,g1,g2,g3⟩:=hd
  obtain⟨ys,c1,_,c3⟩:=hE.first (P:=P) (min xs.length (hi' - lo)) (Nat.min_le_left _ _)
  have e0:xs.take (min xs.length (hi' - lo))=xs.take (hi' - lo):=by
   rw[Nat.min_comm]
   exact List.take_eq_take_min.symm
  rw[e0]at c3
  obtain⟨k1,k2,k3,k4,k5⟩:=hi.obj i r _ hr hl
  have HH:wl sz' (xs.take (hi' - lo)):=hE.1.take _
  have gQ:(xs.take (hi' - lo)).length<=hi' - lo:=by simp;omega
  have hlen:=hE.lenOf (P:=P) W
  have hn:Nat.min xs.length (hi' - lo)=min xs.length (hi' - lo):=rfl
  by_cases hz:min xs.length (hi' - lo)=0
  ·have hnil:xs.take (hi' - lo)=[]:=by
    apply ma
    rw[cQ];omega
   rw[hnil]at c3 hK
   simp only[List.flatten_nil,a_]at c3
   subst c3
   have hs0:splice l lo ([]:List (List D))=l:=by simp [splice]
   rw[hs0]at hK
   have dT:kb.set i (.row ty' sz' l)=kb:=by
    apply lw
    intro j
    by_cases hij:i=j
    ·subst hij
     rw[ig (bG.1 hl).1,hl]
    ·rw[gr hij]
   rw[dT]at hK
   refine⟨_,goInt ((min xs.length (hi' - lo):Nat):Int),kb,W,?_,Step.refl hi,?_,hK⟩
   ·unfold Builtin.copy_
    cases ad<;>simp [run_underlying ht,hlen,kf hs,hn,c1,storeCells]
   ·simp [Den,goInt]
  ·have hlc:lo<r.cap:=by omega
   rw[g3 hlc]
   have hfl:(splice l lo (xs.take (hi' - lo))).flatten=splice l.flatten (lo*sz') (xs.take (hi' - lo)).flatten:=Ol k2 HH (by omega)
   have gx:lo*sz'+(xs.take (hi' - lo)).flatten.length<=l.length*sz':=by
    rw[o9 HH,<- Nat.add_mul]
    exact Nat.mul_le_mul_right _ (by omega)
   obtain⟨arr,q1,q2,q3⟩:=yL hi hr hl (o:=lo*sz') c3 (l':=splice l lo (xs.take (hi' - lo))) (mF (by omega)) (UV k2 HH lo) hfl gx (by omega)
   refine⟨_,goInt ((min xs.length (hi' - lo):Nat):Int),_,_,?_,q3,?_,hK⟩
   ·unfold Builtin.copy_
    rw[k1]
    simp [run_underlying ht,hlen,kf hs,hn,c1,CH c3.one q1 q2]
   ·simp [Den,goInt]
 ·rename_i i base o s' n c
  split at h<;>try exact h.elim
  rename_i l hl hb
  have hs1:=cU hb
  subst hs1
  split at h<;>try exact h.elim
  rename_i m cs hpc
  split at h<;>try exact h.elim
  rename_i l' hl'
  obtain⟨hp,hle,hK⟩:=h
  have hE:=uv hsrc hp hi hy hfit
  simp only[Den]at hd
  obtain⟨r,ad,hr,rfl,g1,g3⟩:=hd
  obtain⟨ys,c1,_,c3⟩:=hE.first (P:=P) (min xs.length n) (Nat.min_le_left _ _)
  have e0:xs.take (min xs.length n)=xs.take n:=by
   rw[Nat.min_comm]
   exact List.take_eq_take_min.symm
  rw[e0]at c3
  have hfl:=o9 (hE.1.take n)
  have gQ:(xs.take n).length=min n xs.length:=by simp
  have hlen:=hE.lenOf (P:=P) W
  have hn:Nat.min xs.length n=min xs.length n:=rfl
  obtain⟨arr,Uo,q1,q2,q3⟩:=adn hi hr hl hpc c3 (by omega) hl'
  refine⟨_,goInt ((min xs.length n:Nat):Int),_,_,?_,q3,?_,hK⟩
  ·by_cases hc:0<c
   ·rw[g3 hc]
    unfold Builtin.copy_
    simp [run_underlying ht,hlen,kf hs,hn,c1,CH c3.one q1 q2]
   ·have hys:ys=[]:=ma (by rw[c3.len,hfl,gQ];omega)
    subst hys
    have dT:W.setRow r.blk (splice arr.toList (base+o) ([]:List Value)).toArray=W:=by
     have:splice arr.toList (base+o) ([]:List Value)=arr.toList:=by simp [splice]
     rw[this]
     unfold World.setRow
     have hlt:=(Array.getElem?_eq_some_iff.1 q1).1
     simp only[Array.toArray_toList]
     congr 1
     apply Array.ext (by simp)
     intro j h1 h2
     simp only[Array.getElem_modify]
     split
     ·rename_i e;subst e
      have:=(Array.getElem?_eq_some_iff.1 q1).2
      rw[this]
     ·rfl
    rw[dT]
    unfold Builtin.copy_
    cases ad<;>simp [run_underlying ht,hlen,kf hs,hn,c1,storeCells]
  ·simp [Den,goInt]
 ·rename_i i ix o s' n c
  split at h<;>try exact h.elim
  rename_i ty' sz' l hl hb
  have hs1:=cU hb
  subst hs1
  obtain⟨hp,e,he,hle,hK⟩:=h
  have hE:=uv hsrc hp hi hy hfit
  simp only[Den]at hd
  obtain⟨r,ad,hr,rfl,g1,g3⟩:=hd
  obtain⟨ys,c1,_,c3⟩:=hE.first (P:=P) (min xs.length n) (Nat.min_le_left _ _)
  have e0:xs.take (min xs.length n)=xs.take n:=by
   rw[Nat.min_comm]
   exact List.take_eq_take_min.symm
  rw[e0]at c3
  have hfl:=o9 (hE.1.take n)
  have gQ:(xs.take n).length=min n xs.length:=by simp
  have hlen:=hE.lenOf (P:=P) W
  have hn:Nat.min xs.length n=min xs.length n:=rfl
  obtain⟨k1,k2,k3,k4,k5⟩:=hi.obj i r _ hr hl
  have l0:ix<l.length:=(bG.1 he).1
  have hm:(ix+1)*sz'<=l.length*sz':=Nat.mul_le_mul_right _ l0
  rw[Nat.succ_mul]at hm
  have sD:=k2 e (fi he)
  obtain⟨arr,q1,q2,q3⟩:=yL hi hr hl (o:=ix*sz'+o) c3 (l':=l.set ix (splice e o (xs.take n).flatten)) (by simp) (k2.set ix (by rw[mF (by omega),sD])) (Oj k2 he (by omega)) (by omega) (by omega)
  refine⟨_,goInt ((min xs.length n:Nat):Int),_,_,?_,q3,?_,hK⟩
  ·by_cases hc:0<c
   ·rw[g3 hc,k1]
    unfold Builtin.copy_
    simp [run_underlying ht,hlen,kf hs,hn,c1,CH c3.one q1 q2]
   ·have hys:ys=[]:=ma (by rw[c3.len,hfl,gQ];omega)
    subst hys
    have dT:W.setRow r.blk (splice arr.toList (ix*sz'+o) ([]:List Value)).toArray=W:=by
     have:splice arr.toList (ix*sz'+o) ([]:List Value)=arr.toList:=by simp [splice]
     rw[this]
     unfold World.setRow
     simp only[Array.toArray_toList]
     congr 1
     apply Array.ext (by simp)
     intro j h1 h2
     simp only[Array.getElem_modify]
     split
     ·rename_i e;subst e
      have:=(Array.getElem?_eq_some_iff.1 q1).2
      rw[this]
     ·rfl
    rw[dT]
    unfold Builtin.copy_
    cases ad<;>simp [run_underlying ht,hlen,kf hs,hn,c1,storeCells]
  ·simp [Den,goInt]
def lQ:List CK->List Value->Option (List D)
 | [],[]=>some []
 | .arr m z::ks,cs=>match ur z m cs,z.oneCell' with
  |some r,true=>match lQ ks r with | some us=>some (mi (dq m (.val z)) us) | none=>none
  |_,_=>none
 | .sl s::ks,c::cs=>match c with
  | .slice none 0 0=>match lQ ks cs with | some us=>some (.sl s []::us) | none=>none
  |_=>none
 |_::ks,c::cs=>match c.oneCell' with
  |true=>match lQ ks cs with | some us=>some (.val c::us) | none=>none
  |false=>none
 |_,_=>none
theorem zn (E:EH):∀{ks:List CK} {cs:List Value} {us:List D},lQ ks cs=some us->a_ E us cs
 | [],[],us,h=>by simp [lQ]at h;subst h;exact .nil
 | [],_:: _,us,h=>by simp [lQ]at h
 |c::ks,cs,us,h=>by
  have single:∀{x:Value} {cs':List Value},cs=x::cs'->(match x.oneCell' with | true=>(match lQ ks cs' with | some us=>some (.val x::us) | none=>none) | false=>none)=some us->a_ E us cs:=by
   rintro x cs' rfl h
   split at h<;>try (cases h;done)
   rename_i h1
   split at h<;>try (cases h;done)
   rename_i us' lB
   cases h
   exact .cons (show bK E (.val x) x from⟨rfl,h1⟩) (zn E lB)
  cases c with
  |arr m z=>
   simp only[lQ]at h
   split at h<;>try (cases h;done)
   rename_i r hr h1
   split at h<;>try (cases h;done)
   rename_i us' lB
   cases h
   rw[JC hr,MD]
   exact(a_.replicate (show bK E (.val z) z from⟨rfl,h1⟩) m).append (zn E lB)
  |int k=>cases cs with | nil=>simp [lQ]at h | cons v vs'=>exact single rfl (by simpa only[lQ]using h)
  |bool=>cases cs with | nil=>simp [lQ]at h | cons v vs'=>exact single rfl (by simpa only[lQ]using h)
  |other=>cases cs with | nil=>simp [lQ]at h | cons v vs'=>exact single rfl (by simpa only[lQ]using h)
  |sl s=>
   cases cs with
   |nil=>simp [lQ]at h
   |cons v vs'=>
    simp only[lQ]at h
    split at h<;>try (cases h;done)
    split at h<;>try (cases h;done)
    rename_i us' lB
    cases h
    exact .cons (by simp only[bK];exact⟨none,0,rfl,av _,.inl rfl⟩) (zn E lB)
def DD (P:Program) (e:TypeId):Option (List D):=
 match (P.info? e).bind (·.zero),mw P 20 e with
 |some z,some ks=>lQ ks z.cells.toList
 |_,_=>none
theorem FT (z:Array Value) (hz:0<z.size):∀ n,((Array.range (n*z.size)).map (z[·% z.size]!)).toList=(dq n z.toList).flatten
 | 0=>by simp
 |n+1=>by
  rw[List.replicate_succ',List.flatten_append,<- FT z hz n]
  apply lw
  intro j
  simp only[Array.toList_map,Array.toList_range,List.getElem?_append,fE,bX,List.length_range,jm,List.flatten_nil,fD]
  rcases jX j (n*z.size)with h1 | h1
  ·rw[if_pos h1,List.getElem?_range (by rw[Nat.succ_mul];omega),List.getElem?_range h1]
  ·rw[if_neg (by omega)]
   rcases jX j ((n+1)*z.size)with h2 | h2
   ·rw[List.getElem?_range h2]
    rw[Nat.succ_mul]at h2
    have e:j % z.size=j - n*z.size:=by
     have:j=(j - n*z.size)+n*z.size:=by omega
     rw[this,Nat.add_mul_mod_self_right,Nat.mod_eq_of_lt (by omega)]
     omega
    simp only[Option.map_some]
    rw[e,Array.getElem?_toList,getElem!_pos z _ (by omega),Array.getElem?_eq_getElem (by omega)]
   ·rw[gO (by simpa using h2)]
    rw[Nat.succ_mul]at h2
    rw[gO (by simp;omega)]
    rfl
structure Room (n c:Int) (b:Nat):Prop where
 le:n<=c
 bytes:c*b<=140737488355328
 cap:c<=140737488355328
def Ic (P:Program) (t:TypeId) (len cap:V) (kb:KB) (K:V->KB->Prop):Prop:=
 match P.underlying t,numOf len,numOf cap with
 |some (.slice elem),some n,some c=>match P.info? elem,DD P elem with
  |some i,some ds=>match cp ds.length i.size,Nat.ble 1 i.size with
   |true,true=>aB n/\Room n c i.bytes/\K (.sl kb.length 0 n.toNat) (kb++[.row elem i.size (dq n.toNat ds)])
   |_,_=>False
  |_,_=>False
 |_,_,_=>False
theorem UU {ds:List D} {s:Nat} (h:ds.length=s) (n:Nat):wl s (dq n ds):=fun e he=>by rw[List.eq_of_mem_replicate he];exact h
theorem aea {α:Type} (l:List α) {n c:Nat} (h:n<=c):((dq c l).flatten).take (n*l.length)=(dq n l).flatten:=by
 have e:c=n+(c - n):=by omega
 rw[e,<- List.replicate_append_replicate,List.flatten_append]
 have:(dq n l).flatten.length=n*l.length:=by simp
 rw[<- this,List.take_left]
theorem a_.JD {E:EH} {ds:List D} {xs:List Value} (h:a_ E ds xs):∀ n,a_ E (dq n ds).flatten (dq n xs).flatten
 | 0=> .nil
 |n+1=>by rw[List.replicate_succ,List.replicate_succ,jm,jm];exact h.append (h.JD n)
theorem aaM {P:Program} {t:TypeId} {len cap:V} {kb:KB} {K:V->KB->Prop} (h:Ic P t len cap kb K) {σ:Sg} {E:EH} {W:World} (hi:Inv σ E kb W) {x y:Value} (hx:Den σ E len x) (hy:Den σ E cap y):
  ∃ v z σ' kb' W',(Instr.makeSlice t x y).run P W= .ok z W'/\Step σ E kb W σ' E kb' W'/\Den σ' E v z/\K v kb':=by
 unfold Ic at h
 split at h<;>try exact h.elim
 rename_i elem n c ht hn hc
 obtain⟨k1,rfl⟩:=uj hn hx
 obtain⟨k2,rfl⟩:=uj hc hy
 split at h<;>try exact h.elim
 rename_i i ds lA hz
 split at h<;>try exact h.elim
 rename_i gx fx
 have hdl:=cU gx
 have hs1:=Nat.le_of_ble_eq_true fx
 obtain⟨h0,⟨h1,h2,h3⟩,hK⟩:=h
 unfold aB at h0
 unfold DD at hz
 split at hz<;>try (cases hz;done)
 rename_i z ks hz0 hks
 obtain⟨it,hit,nK⟩:=kP.1 hz0
 rw[lA]at hit;cases hit
 have hD:=zn E hz
 have hzl:z.cells.size=i.size:=by
  have:=hD.len
  simp only[Array.length_toList]at this
  omega
 have w1:Z.wrap n=n:=IntWalk.i64_in n (by omega)
 have w2:Z.wrap c=c:=IntWalk.i64_in c (by omega)
 have hb0:(0:Int)<=i.bytes:=by omega
 have hmul:(i.bytes:Int)*c=((c.toNat*i.bytes:Nat):Int):=by
  have:c=(c.toNat:Int):=by omega
  rw[this,Int.mul_comm]
  simp
 have hmn:c.toNat*i.bytes<=140737488355328:=by
  have:((c.toNat*i.bytes:Nat):Int)<=140737488355328:=by rw[<- hmul,Int.mul_comm];exact h2
  omega
 have ah5:(if c.toNat*i.size=0 then(#[]:Array Value)else z.cells)=(if c.toNat*i.size=0 then #[]else z.cells):=rfl
 have OW:∀(zz:Array Value),(zz=if c.toNat*i.size=0 then #[]else z.cells)->((Array.range (c.toNat*i.size)).map (zz[·% zz.size]!))=((Array.range (c.toNat*i.size)).map (z.cells[·% z.cells.size]!)):=by
  rintro zz rfl
  by_cases hz:c.toNat*i.size=0
  ·rw[hz];apply Array.ext';simp
  ·rw[if_neg hz]
 have hrun:(Instr.makeSlice t (.int k1 n) (.int k2 c)).run P W= .ok (.slice (some ⟨W.heap.size,0,none⟩) n.toNat c.toNat) (W.alloc (.cells ((Array.range (c.toNat*i.size)).map (z.cells[·% z.cells.size]!)) elem)):=by
  have t1:¬ (c<0):=by omega
  have t2:¬ ((i.bytes:Int)*c > 2 ^ 48):=by rw[hmul];omega
  have t3:¬ (n<0):=by omega
  have t4:¬ (n > c):=by omega
  have hroom:(askRoom (c.toNat*i.bytes)).run P W= .ok () W:=by
   unfold askRoom roomBytes
   rw[if_neg (by omega)]
   rfl
  have hai:∀(k:IntKind) (m:Int),(asInt (.int k m)).run P W= .ok m W:=fun k m=>rfl
  have ZP:(typeInfo elem).run P W= .ok i W:=by simp [typeInfo,lA]
  have qY:(Go.sizeOf elem).run P W= .ok i.size W:=by simp [Go.sizeOf,typeInfo,lA]
  have uc:(zeroValue elem).run P W= .ok z W:=by simp [zeroValue,typeInfo,lA,nK]
  have Pq:∀ arr,(newRow elem arr).run P W= .ok ⟨W.heap.size,0,none⟩ (W.alloc (.cells arr elem)):=fun arr=>by simp [newRow]
  unfold Instr.makeSlice
  rw[Sem.run_bind,run_underlying ht,Result.andThen_ok]
  simp only[]
  rw[Sem.run_bind,hai,Result.andThen_ok,Sem.run_bind,hai,Result.andThen_ok,Sem.run_bind,ZP,Result.andThen_ok]
  simp only[w1,w2]
  rw[if_neg (by simp only[t1,t2,t3,t4,decide_false,Bool.or_self,Bool.false_eq_true,not_false_eq_true]),Sem.run_bind,hroom,Result.andThen_ok,Sem.run_bind,qY,Result.andThen_ok]
  by_cases hz:c.toNat*i.size=0
  ·simp only[hz,if_true]
   rw[Sem.run_bind,Sem.run_pure,Result.andThen_ok,Sem.run_bind,Pq,Result.andThen_ok]
   have:=OW #[] (by rw[if_pos hz])
   rw[hz]at this
   simp only[this]
   rfl
  ·simp only[hz,if_false]
   have:=OW z.cells (by rw[if_neg hz])
   rw[Sem.run_bind,uc,Result.andThen_ok,Sem.run_bind,Sem.run_pure,Result.andThen_ok,Sem.run_bind,Pq,Result.andThen_ok]
   rfl
 have pj:c.toNat<=maxLen:=by unfold maxLen;omega
 have hfl:=FT z.cells (by omega) c.toNat
 rw[hzl]at hfl
 refine⟨_,_,_,_,_,hrun,My hi (l:=dq n.toNat ds) (cap:=c.toNat) (UU hdl _) (by simp;omega) pj (by simp) ?_,?_,hK⟩
 ·rw[hzl,hfl,List.length_replicate]
  have Z7:z.cells.toList.length=i.size:=by simpa using hzl
  rw[<- Z7,aea _ (by omega)]
  exact hD.JD _
 ·simp only[Den]
  exact⟨⟨W.heap.size,c.toNat,i.size⟩,_,by rw[<- hi.len];simp,rfl,by simp,by show n.toNat<=c.toNat;omega,by simp⟩
def FG (P:Program) (t:TypeId) (x:V) (kb:KB) (K:KB->Prop):Prop:=
 match P.underlying t with
 |some (.slice elem)=>match x with
  | .sl i lo hi=>match kb[i]?,DD P elem with
   |some (.row ty sz l),some ds=>match cp ds.length sz with
    |true=>hi<=l.length/\K (kb.set i (.row ty sz (splice l lo (dq (hi - lo) ds))))
    |false=>False
   |_,_=>False
  |_=>False
 |some (.map _ _)=>match x with
  | .mp i=>match kb[i]? with
   |some (.mp aA aS agg sz l)=>K (kb.set i (.mp aA aS agg sz []))
   |_=>False
  |_=>False
 |_=>False
theorem PS {kb:KB} {i:Nat} {o:KO} (h:kb[i]? =some o):kb.set i o=kb:=by
 apply lw
 intro j
 by_cases hij:i=j
 ·subst hij
  rw[ig (bG.1 h).1,h]
 ·rw[gr hij]
theorem W_ {P:Program} {t:TypeId} {x:V} {kb:KB} {K:KB->Prop} (h:FG P t x kb K) {σ:Sg} {E:EH} {W:World} (hi:Inv σ E kb W) {a:Value} (hd:Den σ E x a) (ty:TypeId):
  ∃ kb' W',(Builtin.clear_ #[t] ty #[a]).run P W= .ok (.tuple #[]) W'/\Step σ E kb W σ E kb' W'/\K kb':=by
 unfold FG at h
 split at h<;>try exact h.elim
 ·rename_i elem ht
  split at h<;>try exact h.elim
  rename_i i lo hi'
  split at h<;>try exact h.elim
  rename_i ty' sz l ds hl hz
  split at h<;>try exact h.elim
  rename_i hb
  have hdl:=cU hb
  obtain⟨hle,hK⟩:=h
  unfold DD at hz
  split at hz<;>try (cases hz;done)
  rename_i z ks hz0 hks
  obtain⟨it,hit,nK⟩:=kP.1 hz0
  have uc:(zeroValue elem).run P W= .ok z W:=by simp [zeroValue,typeInfo,hit,nK]
  have hD:=zn E hz
  simp only[Den]at hd
  obtain⟨r,ad,hr,rfl,g1,g2,g3⟩:=hd
  obtain⟨k1,k2,k3,k4,k5⟩:=hi.obj i r _ hr hl
  by_cases h0:hi' - lo=0
  ·have hs0:splice l lo (dq (hi' - lo) ds)=l:=by rw[h0];simp [splice]
   rw[hs0,PS hl]at hK
   refine⟨kb,W,?_,Step.refl hi,hK⟩
   unfold Builtin.clear_
   cases ad<;>simp [run_underlying ht,h0]
  ·have sC:=hD.JD (hi' - lo)
   have hzl:z.cells.size=sz:=by
    have:=hD.len
    simp only[Array.length_toList]at this
    omega
   by_cases hsz:sz=0
   ·have hds:ds=[]:=ma (by omega)
    have ub:z.cells=#[]:=Array.eq_empty_of_size_eq_zero (by omega)
    subst hds
    have hall:∀ e∈l,e=[]:=fun e he=>ma (by rw[k2 e he];omega)
    have hs0:splice l lo (dq (hi' - lo) [])=l:=by
     apply lw
     intro j
     rw[tO (by omega)]
     split
     ·rfl
     ·split
      ·rename_i c1 c2
       simp only[List.length_replicate]at c2
       have hj:j<l.length:=by omega
       rw[bp hj,hall _ (List.getElem_mem hj)]
       rw[List.getElem?_replicate,if_pos (by omega)]
      ·rfl
    rw[hs0,PS hl]at hK
    refine⟨kb,W,?_,Step.refl hi,hK⟩
    unfold Builtin.clear_
    obtain⟨n,hn⟩:∃ n,hi' - lo=n+1:=⟨hi' - lo - 1,by omega⟩
    rw[hn]
    cases ad<;>simp [run_underlying ht,uc,ub,Builtin.zeroCells,storeCells]
   have hrw:wl sz (dq (hi' - lo) ds):=UU hdl _
   have hfl:(splice l lo (dq (hi' - lo) ds)).flatten=splice l.flatten (lo*sz) (dq (hi' - lo) ds).flatten:=Ol k2 hrw (by simp;omega)
   obtain⟨arr,q1,q2,q3⟩:=yL hi hr hl (o:=lo*sz) sC (l':=splice l lo (dq (hi' - lo) ds)) (mF (by simp;omega)) (UV k2 hrw lo) hfl (by rw[o9 hrw,<- Nat.add_mul];exact Nat.mul_le_mul_right _ (by simp;omega)) (by omega)
   refine⟨_,_,?_,q3,hK⟩
   have O4:=FT z.cells (by omega) (hi' - lo)
   have hst:=CH (P:=P) sC.one q1 q2
   rw[g3 (by omega),k1]
   unfold Builtin.clear_
   obtain⟨n,hn⟩:∃ n,hi' - lo=n+1:=⟨hi' - lo - 1,by omega⟩
   rw[hn]at O4 hst ⊢
   have ub:(Builtin.zeroCells z.cells (n+1)).toList=(dq (n+1) z.cells.toList).flatten:=O4
   simp [run_underlying ht,uc,ub,hst]
 ·rename_i kt et ht
  split at h<;>try exact h.elim
  rename_i i
  split at h<;>try exact h.elim
  rename_i aA aS agg sz l hl
  simp only[Den]at hd
  obtain⟨r,hr,rfl⟩:=hd
  obtain⟨hw,es,ck,g1,g2,g3⟩:=hi.obj i r _ hr hl
  have fl:(getObj r.blk).run P W= .ok (.map es ck) W:=by simp [getObj,Sem.run,g1]
  have qY:∀ o,(setObj r.blk o).run P W= .ok () {W with heap:=W.heap.setIfInBounds r.blk o }:=fun o=>by simp [setObj,Sem.run,g1]
  have hlt:r.blk<W.heap.size:=(Array.getElem?_eq_some_iff.1 g1).1
  refine⟨_,{W with heap:=W.heap.setIfInBounds r.blk (.map #[] ck) },?_,hi.set (o':=.mp aA aS agg sz []) hr hl rfl rfl rfl (by simp) (fun b hb=>?_) (fun b hb=>hb) ⟨wl.nil,#[],ck,?_,by simp [ct],⟨by simp,by simp⟩⟩,h⟩
  ·unfold Builtin.clear_
   simp [run_underlying ht,fl,qY]
  ·simp only[owned]at hb
   show(W.heap.setIfInBounds r.blk _)[b]? =_
   rw[Array.getElem?_setIfInBounds_ne (fun e=>hb e.symm)]
  ·show(W.heap.setIfInBounds r.blk _)[r.blk]? =_
   simp [hlt]
def Ft (s:ByteArray):List (List D):=s.data.toList.map fun b=>[.val (.int ι b.toNat)]
def Kj (P:Program) (src dst:TypeId) (x:V) (kb:KB) (K:V->KB->Prop):Prop:=
 match P.underlying src,P.underlying dst,x with
 |some .string,some (.slice elem),.any (.string s)=>match P.underlying elem with
  |some (.int ι)=>K (.dat (.sl 1 (Ft s))) kb
  |_=>False
 |some (.slice _),some (.slice elem),.sl i lo hi=>match cp src dst,P.underlying elem,kb[i]? with
  |true,some (.int ι),some (.row _ 1 l)=>lo<hi/\hi<=l.length/\K (.dat (.sl 1 ((l.take hi).drop lo))) (kb.set i .dead)
  |_,_,_=>False
 |_,_,_=>False
theorem NF (E:EH):∀(l:List UInt8),a_ E (l.map fun b=>[D.val (.int ι b.toNat)]).flatten (l.map fun b=>ν ι b.toNat)
 | []=> .nil
 |b::l=>by
  rw[mb,jm,mb,List.singleton_append]
  exact .cons (show bK E (.val _) _ from⟨rfl,rfl⟩) (NF E l)
theorem afa {P:Program} {src dst:TypeId} {x:V} {kb:KB} {K:V->KB->Prop} (h:Kj P src dst x kb K) {σ:Sg} {E:EH} {W:World} (hi:Inv σ E kb W) {y:Value} (hd:Den σ E x y):
  ∃ v z E' kb' W',(convert src dst y).run P W= .ok z W'/\Step σ E kb W σ E' kb' W'/\Den σ E' v z/\K v kb':=by
 unfold Kj at h
 split at h<;>try exact h.elim
 rotate_left
 ·rename_i e1 elem i lo hi' h1 h2
  split at h<;>try exact h.elim
  rename_i ty l hb h3 hk
  obtain⟨hlt,hle,hK⟩:=h
  have ZK:=cU hb
  subst ZK
  simp only[Den]at hd
  obtain⟨r,a,hr,rfl,g1,g2,g3⟩:=hd
  have hc:r.cap≠0:=by omega
  have ha:=g3 (by omega)
  subst ha
  obtain⟨E',arr,k1,k2,k3⟩:=hi.X_ hr hk hc
  have lC:=(hi.obj i r _ hr hk).2.1
  have hsz:=(hi.obj i r _ hr hk).1
  have hm:(markStringish ⟨r.blk,lo*r.sz,none⟩).run P W= .ok () (W.freeze ⟨r.blk,arr.size,none⟩ 1):=by
   have hsh:W.shape? r.blk=some (ty,arr.size):=by unfold World.shape?;rw[k1]
   unfold markStringish
   rw[Sem.run_bind,show(shape r.blk).run P W= .ok (some (ty,arr.size)) W by rw[<- hsh];rfl,Result.andThen_ok]
   rfl
  have gx:r.blk<W.heap.size:=(Array.getElem?_eq_some_iff.1 k1).1
  have fx:W.heap[r.blk]=Obj.cells arr ty (0,0):=(Array.getElem?_eq_some_iff.1 k1).2
  refine⟨_,.slice (some ⟨r.blk,lo*r.sz,none⟩) (hi' - lo) (r.cap - lo),E',_,W.freeze ⟨r.blk,arr.size,none⟩ 1,?_,k2 _ rfl rfl rfl (by simp [World.freeze]) ?_ (fun k Zm=>?_),?_,hK⟩
  ·unfold convert
   rw[Sem.run_bind,run_underlying h1,Result.andThen_ok,Sem.run_bind,run_underlying h2,Result.andThen_ok]
   simp only[]
   rw[Sem.run_bind,run_underlying h3,Result.andThen_ok]
   simp only[beq_self_eq_true]
   rw[Sem.run_bind,hm,Result.andThen_ok]
   rfl
  ·simp [World.freeze,Array.getElem?_modify,k1]
  ·simp [World.freeze,Array.getElem?_modify,show ¬ r.blk=k from fun e=>Zm e.symm]
  ·simp only[Den]
   exact SK hsz lC (by omega) hle (hi.obj i r _ hr hk).2.2.1 (fun _=>rfl) (fun _=>k3)
 rename_i elem s h1 h2
 split at h<;>try exact h.elim
 rename_i h3
 simp only[Den]at hd
 subst hd
 have hge:=grownCap_ge W s.size 0 elem
 obtain⟨cap,hcap⟩:∃ cap,grownCap W s.size 0 elem=cap:=⟨_,rfl⟩
 rw[hcap]at hge
 let arr:Array Value:=(s.data.map fun b=>ν ι b.toNat)++Array.replicate (cap - s.size) (.int ι 0)
 have YT:(choose (.appendCap s.size 0 elem)).run P W= .ok cap W.drew:=by
  rw[<- hcap]
  rfl
 have hW:((W.drew.alloc (.cells arr elem)).freeze ⟨W.heap.size,arr.size,none⟩ 1)=W.drew.alloc (.cells arr elem (arr.size,arr.size+1)):=by
  unfold World.freeze World.alloc
  simp only[Nat.one_ne_zero,if_false]
  congr 1
  show(W.heap.push (Obj.cells arr elem)).modify W.heap.size _=W.heap.push _
  apply Array.ext (by simp)
  intro j h1 h2
  simp only[Array.getElem_modify,Array.getElem_push]
  by_cases hj:j<W.heap.size
  ·simp [hj,show ¬ W.heap.size=j by omega]
  ·have:W.heap.size=j:=by simp at h1;omega
   simp [this]
 have hrun:(convert src dst (.string s)).run P W= .ok (.slice (some ⟨W.heap.size,0,none⟩) s.size cap) (W.drew.alloc (.cells arr elem (arr.size,arr.size+1))):=by
  unfold convert
  rw[Sem.run_bind,run_underlying h1,Result.andThen_ok,Sem.run_bind,run_underlying h2,Result.andThen_ok]
  simp only[]
  rw[Sem.run_bind,run_underlying h3,Result.andThen_ok]
  simp only[]
  unfold Conv.stringToBytes
  rw[Sem.run_bind,YT,Result.andThen_ok]
  simp only[]
  rw[Sem.run_bind,show(newRow elem ((s.data.map fun b=>ν ι b.toNat)++Array.replicate (cap - s.size) (.int ι 0))).run P W.drew= .ok ⟨W.heap.size,0,none⟩ (W.drew.alloc (.cells arr elem)) by simp [newRow];rfl,Result.andThen_ok]
  have hsh:(W.drew.alloc (.cells arr elem)).shape? W.heap.size=some (elem,arr.size):=by
   unfold World.shape?
   have:(W.drew.alloc (.cells arr elem)).heap[W.heap.size]? =some (.cells arr elem):=by
    show(W.heap.push _)[W.heap.size]? =_
    simp
   rw[this]
  have hm:(markStringish ⟨W.heap.size,0,none⟩).run P (W.drew.alloc (.cells arr elem))= .ok () (W.drew.alloc (.cells arr elem (arr.size,arr.size+1))):=by
   rw[<- hW]
   unfold markStringish
   rw[Sem.run_bind,show(shape W.heap.size).run P (W.drew.alloc (.cells arr elem))= .ok (some (elem,arr.size)) (W.drew.alloc (.cells arr elem)) by rw[<- hsh];rfl,Result.andThen_ok]
   rfl
  rw[Sem.run_bind,hm,Result.andThen_ok]
  rfl
 have hst:=(Inv.drew hi).trans ((Inv.drew hi).inv.Yk (.cells arr elem (arr.size,arr.size+1)))
 refine⟨_,_,_,_,_,hrun,hst,?_,h⟩
 simp only[Den,bK]
 have hl:(Ft s).length=s.size:=by simp [Ft]
 refine⟨_,cap,by rw[hl],by rw[hl];exact hge,.inr ⟨W.heap.size,0,rfl,fb.of_flat (fun e he=>?_) ?_⟩⟩
 ·obtain⟨b,_,rfl⟩:=eL.1 he;rfl
 ·refine(NF _ s.data.toList).rep fun j v hj=>?_
  unfold EH.cell
  simp only[show W.drew.heap.size=W.heap.size from rfl,if_true,c9]
  show arr[j]? =some v
  have hlt:=(bG.1 hj).1
  simp only[bX,Array.length_toList]at hlt
  simp only[arr]
  rw[Array.getElem?_append_left (by simpa using hlt)]
  simpa using hj
def EZ (P:Program) (t:TypeId) (x:V) (kb:KB) (K:V->Prop):Prop:=
 match P.underlying t with
 |some (.array (n+1) elem)=>match x with
  | .sl i lo hi=>n+1<=hi - lo/\K (.pw i lo)
  | .dat (.sl _ l)=>n+1<=l.length/\K (.dK l.flatten 0)
  | .sa i base o _ m _=>n+1<=m/\K (.pa i base o)
  | .se i ix o _ m _=>n+1<=m/\K (.pe i ix o)
  |_=>False
 |_=>False
theorem Wk {P:Program} {t:TypeId} {x:V} {kb:KB} {K:V->Prop} (h:EZ P t x kb K) {σ:Sg} {E:EH} {a:Value} (hd:Den σ E x a):
  ∃ v z,(∀ W,(Instr.arrayAt t a).run P W= .ok z W)/\Den σ E v z/\K v:=by
 unfold EZ at h
 split at h<;>try exact h.elim
 rename_i n elem ht
 have run:∀{ad:Option Addr} {len cap:Nat},n+1<=len->∀ W,(Instr.arrayAt t (.slice ad len cap)).run P W= .ok (.pointer ad) W:=fun hl W=>by
  unfold Instr.arrayAt
  rw[Sem.run_bind,run_underlying ht,Result.andThen_ok]
  simp only[]
  rw[if_neg (by omega)]
  rfl
 split at h<;>try exact h.elim
 ·obtain⟨hle,hK⟩:=h
  simp only[Den]at hd
  obtain⟨r,ad,hr,rfl,g1,g2,g3⟩:=hd
  exact⟨_,_,run hle,by simp only[Den];exact⟨r,hr,by rw[g3 (by omega)]⟩,hK⟩
 ·rename_i sz l
  obtain⟨hle,hK⟩:=h
  simp only[Den,bK]at hd
  obtain⟨ad,cap,rfl,hcap,fg⟩:=hd
  rcases fg with fg | ⟨b,off,rfl,fg⟩
  ·omega
  exact⟨_,_,run hle,by simp only[Den];exact⟨b,off,rfl,fg.flat⟩,hK⟩
 ·obtain⟨hle,hK⟩:=h
  simp only[Den]at hd
  obtain⟨r,ad,hr,rfl,g1,g3⟩:=hd
  exact⟨_,_,run hle,by simp only[Den];exact⟨r,hr,by rw[g3 (by omega)]⟩,hK⟩
 ·obtain⟨hle,hK⟩:=h
  simp only[Den]at hd
  obtain⟨r,ad,hr,rfl,g1,g3⟩:=hd
  exact⟨_,_,run hle,by simp only[Den];exact⟨r,hr,by rw[g3 (by omega)]⟩,hK⟩
structure EH.ly (E E':EH):Prop where
 c:∀ b o v,E.cell b o=some v->E'.cell b o=some v
 m:∀ b es ck,E b=some (.map es ck)->E' b=some (.map es ck)
theorem EH.ly.cell {E E':EH} (h:E.ly E') {b o:Nat} {v:Value} (hc:E.cell b o=some v):E'.cell b o=some v:=h.c b o v hc
mutual
theorem bK.dr {E E':EH} (h:E.ly E'):∀{d:D} {v:Value},bK E d v->bK E' d v
 | .val _,_,hr=>by simpa [bK]using hr
 | .sl sz l,x,hr=>by
  simp only[bK]at hr ⊢
  obtain⟨a,cap,h1,h2,h3⟩:=hr
  exact⟨a,cap,h1,h2,h3.elim .inl (fun⟨b,off,e,r⟩=> .inr ⟨b,off,e,fb.dr h r⟩)⟩
theorem di.dr {E E':EH} (h:E.ly E'):∀{cs:List D} {b off:Nat},di E cs b off->di E' cs b off
 | [],_,_,_=>by simp [di]
 |c::cs,b,off,hr=>by
  simp only[di]at hr ⊢
  obtain⟨⟨v,h1,h2⟩,h3⟩:=hr
  exact⟨⟨v,h.cell h1,bK.dr h h2⟩,di.dr h h3⟩
theorem fb.dr {E E':EH} (h:E.ly E'):∀{sz:Nat} {l:List (List D)} {b off:Nat},fb E sz l b off->fb E' sz l b off
 |_,[],_,_,_=>by simp [fb]
 |sz,e::l,b,off,hr=>by
  simp only[fb]at hr ⊢
  exact⟨⟨hr.1.1,di.dr h hr.1.2⟩,fb.dr h hr.2⟩
end
theorem a_.dr {E E':EH} (hE:E.ly E'):∀{ds:List D} {xs:List Value},a_ E ds xs->a_ E' ds xs
 | [],_,h=>by simpa only[a_]using h
 |d::ds,_,h=>by simp only[a_]at h ⊢;obtain⟨x,xs',h0,h1,h2⟩:=h;exact⟨x,xs',h0,h1.dr hE,h2.dr hE⟩
theorem ct.dr {E E':EH} (hE:E.ly E') {aA:List IntKind} {aS agg:Bool}:∀{es:List MapEntry} {l:List (List Int×List D)},ct E aA aS agg es l->ct E' aA aS agg es l
 | [],_,h=>by simpa only[ct]using h
 |e::es,_,h=>by
  simp only[ct]at h ⊢
  obtain⟨k,c,l',h0,⟨h1,h1',ys,h2,h3⟩,h4⟩:=h
  exact⟨k,c,l',h0,⟨h1,h1',ys,h2,h3.dr hE⟩,h4.dr hE⟩
theorem r7.dr {E E':EH} (hE:E.ly E') {aA:List IntKind} {aS agg:Bool} {sz:Nat} {a:Option Nat} {l:List (List Int×List D)} (h:r7 E aA aS agg sz a l):r7 E' aA aS agg sz a l:=by
 cases a with
 |none=>exact h
 |some b=>
  obtain⟨h1,es,clock,h2,h3,h4⟩:=h
  exact⟨h1,es,clock,hE.m _ _ _ h2,h3.dr hE,h4⟩
mutual
theorem Den.dr {σ τ:Sg} {E E':EH} (h:E.ly E'):∀{v:V} {x:Value},Den σ E v x->Den (σ++τ) E' v x
 | .any _,_,hd | .int ..,_,hd | .lit ..,_,hd | .sb _,_,hd | .tt,_,hd | .ff,_,hd | .e0,_,hd=>by simpa [Den]using hd
 | .arr ..,_,hd=>by simp only[Den]at hd
 | .ptr i off,_,hd=>by simp only[Den]at hd ⊢;obtain⟨r,h1,h2⟩:=hd;exact⟨r,gk h1,h2⟩
 | .pa i base o,_,hd=>by simp only[Den]at hd ⊢;obtain⟨r,h1,h2⟩:=hd;exact⟨r,gk h1,h2⟩
 | .mp i,_,hd=>by simp only[Den]at hd ⊢;obtain⟨r,h1,h2⟩:=hd;exact⟨r,gk h1,h2⟩
 | .ch i,_,hd=>by simp only[Den]at hd ⊢;obtain⟨r,h1,h2⟩:=hd;exact⟨r,gk h1,h2⟩
 | .sl i lo hi,_,hd=>by simp only[Den]at hd ⊢;obtain⟨r,a,h1,h2⟩:=hd;exact⟨r,a,gk h1,h2⟩
 | .sa ..,_,hd=>by simp only[Den]at hd ⊢;obtain⟨r,a,h1,h2⟩:=hd;exact⟨r,a,gk h1,h2⟩
 | .se ..,_,hd=>by simp only[Den]at hd ⊢;obtain⟨r,a,h1,h2⟩:=hd;exact⟨r,a,gk h1,h2⟩
 | .pe i ix br,_,hd=>by simp only[Den]at hd ⊢;obtain⟨r,h1,h2⟩:=hd;exact⟨r,gk h1,h2⟩
 | .pw i ix,_,hd=>by simp only[Den]at hd ⊢;obtain⟨r,h1,h2⟩:=hd;exact⟨r,gk h1,h2⟩
 | .dK e br,_,hd=>by simp only[Den]at hd ⊢;obtain⟨b,off,h1,h2⟩:=hd;exact⟨b,off,h1,di.dr h h2⟩
 | .aa o,_,hd=>by simp only[Den]at hd ⊢;exact hd.elim .inl fun⟨e,b,h1,h2,h3⟩=> .inr ⟨e,b,h1,h2,di.dr h h3⟩
 | .imp ..,_,hd=>by simp only[Den]at hd ⊢;obtain⟨a,h1,h2⟩:=hd;exact⟨a,h1,h2.dr h⟩
 | .dat d,_,hd=>by simp only[Den]at hd ⊢;exact bK.dr h hd
 | .agg l,_,hd=>by simp only[Den]at hd ⊢;obtain⟨vs,h1,h2⟩:=hd;exact⟨vs,h1,aT.dr h h2⟩
 | .υ l,_,hd=>by simp only[Den]at hd ⊢;obtain⟨vs,h1,h2⟩:=hd;exact⟨vs,h1,aq.dr h h2⟩
 | .fn f cap,_,hd=>by simp only[Den]at hd ⊢;obtain⟨vs,h1,h2⟩:=hd;exact⟨vs,h1,aq.dr h h2⟩
theorem aq.dr {σ τ:Sg} {E E':EH} (h:E.ly E'):∀{vs:List V} {xs:List Value},aq σ E vs xs->aq (σ++τ) E' vs xs
 | [],_,hd=>by simpa [aq]using hd
 |v::vs,_,hd=>by
  simp only[aq]at hd ⊢
  obtain⟨x,xs',h1,h2,h3⟩:=hd
  exact⟨x,xs',h1,Den.dr h h2,aq.dr h h3⟩
theorem aT.dr {σ τ:Sg} {E E':EH} (h:E.ly E'):∀{vs:List V} {xs:List Value},aT σ E vs xs->aT (σ++τ) E' vs xs
 | [],_,hd=>by simpa [aT]using hd
 |v::vs,_,hd=>by
  simp only[aT]at hd ⊢
  obtain⟨ys,zs,h1,h2,h3⟩:=hd
  refine⟨ys,zs,h1,?_,aT.dr h h3⟩
  rcases h2 with ⟨y,e,o,hy⟩ | ⟨m,cs,e,hl,hd⟩
  ·exact .inl ⟨y,e,o,Den.dr h hy⟩
  ·exact .inr ⟨m,cs,e,hl,hd.dr h⟩
end
theorem fw.dr {E E':EH} (hE:E.ly E') {agg:Bool}:∀{vs:List Value} {l:List (List D)},fw E agg vs l->fw E' agg vs l
 | [],_,h=>by simpa only[fw]using h
 |v::vs,_,h=>by
  simp only[fw]at h ⊢
  obtain⟨c,l',h0,⟨ys,h1,h2⟩,h3⟩:=h
  exact⟨c,l',h0,⟨ys,h1,h2.dr hE⟩,h3.dr hE⟩
theorem gq.dr {σ τ:Sg} {E E':EH} {W W':World} (hE:E.ly E') {r:Re} {o:KO} (h:gq σ E W r o) (hb:∀ b,nQ r o b->W'.heap[b]? =W.heap[b]?):gq (σ++τ) E' W' r o:=by
 cases o with
 |cells l=>
  obtain⟨arr,ty,h1,h2⟩:=h
  exact⟨arr,ty,by rw[hb r.blk rfl];exact h1,aT.dr hE h2⟩
 |row ty sz l=>
  obtain⟨h0,h1,h2,h3,h4⟩:=h
  refine⟨h0,h1,h2,h3,?_⟩
  rcases h4 with h4 | ⟨arr,h4,h5⟩
  ·exact .inl h4
  ·by_cases hc:r.cap=0
   ·exact .inl hc
   ·exact .inr ⟨arr,by rw[hb r.blk ⟨hc,rfl⟩];exact h4,h5.1,h5.2.dr hE⟩
 |mp aA aS agg sz l=>
  obtain⟨h0,es,ck,h1,h2,h3⟩:=h
  exact⟨h0,es,ck,by rw[hb r.blk rfl];exact h1,h2.dr hE,h3⟩
 |ch agg sz cap l=>
  obtain⟨h0,xO,bf,s,rr,h1,h2⟩:=h
  exact⟨h0,xO,bf,s,rr,by rw[hb r.blk rfl];exact h1,h2.dr hE⟩
 |objs A=>exact h.elim
 |iW a=>exact h.elim
 |dead=>trivial
theorem fY.dr {σ τ:Sg} {E E':EH} {W W':World} (hE:E.ly E') {r:Re} {o:KO} (h:fY σ E W r o) (hb:∀ b,owned r o b->W'.heap[b]? =W.heap[b]?):fY (σ++τ) E' W' r o:=by
 cases o with
 |objs A=>
  refine⟨fun a ha=>⟨(h.ok a ha).len,fun i r o h1 h2=>?_,(h.ok a ha).dx⟩,h.dx⟩
  have:=((h.ok a ha).obj i r o h1 h2).dr (τ:=[]) (W':=W') hE (fun b h3=>hb b ⟨a,ha,i,r,o,h1,h2,h3⟩)
  simpa using this
 |iW a=>
  refine⟨⟨h.1.len,fun i r o h1 h2=>?_,h.1.dx⟩,h.2⟩
  have:=(h.1.obj i r o h1 h2).dr (τ:=[]) (W':=W') hE (fun b h3=>hb b ⟨i,r,o,h1,h2,h3⟩)
  simpa using this
 |cells l=>exact gq.dr (σ:=σ) (τ:=τ) (o:=.cells l) hE h hb
 |row ty sz l=>exact gq.dr (σ:=σ) (τ:=τ) (o:=.row ty sz l) hE h hb
 |mp aA aS agg sz l=>exact gq.dr (σ:=σ) (τ:=τ) (o:=.mp aA aS agg sz l) hE h hb
 |ch agg sz cap l=>exact gq.dr (σ:=σ) (τ:=τ) (o:=.ch agg sz cap l) hE h hb
 |dead=>trivial
def EH.strip (E:EH):EH:=fun b=>match E b with
 |some (.cells c t i)=>some (.cells c t i)
 |some (.map es ck)=>some (.map es ck)
 |_=>none
theorem EH.C1 {E:EH} {b:Nat} {o:Obj} (h:E.strip b=some o):E b=some o:=by
 unfold EH.strip at h
 split at h
 ·rename_i c t i e;rw[e];exact h
 ·rename_i es ck e;rw[e];exact h
 ·cases h
theorem EH.wo (E:EH):E.ly E.strip:=by
 refine⟨?_,fun b es ck h=>by unfold EH.strip;rw[h]⟩
 intro b o v h
 unfold EH.cell EH.strip at*
 cases e:E b with
 |none=>rw[e]at h;cases h
 |some x=>
  rw[e]at h
  cases x<;>first | exact h | (simp only at h;cases h)
theorem EH.Kk {E:EH} {b:Nat} {l:Option (List Deferred)}:E.strip b≠some (.deferred l):=by
 unfold EH.strip
 intro h
 split at h
 ·cases h
 ·cases h
 ·cases h
structure ot (E:EH) (ds:List Deferred):Prop where
 all:∀ d∈ds,∃ b,d={target:=.collected b,args:=#[] }/\E b=some (.deferred (some []))
 nodup:ds.Pairwise (·≠·)
theorem ot.nil (E:EH):ot E []:=⟨by simp,.nil⟩
theorem ot.mono {E E':EH} {ds:List Deferred} (h:ot E ds) (hE:E.le E'):ot E' ds:=
 ⟨fun d hd=>let ⟨b,h1,h2⟩:=h.all d hd;⟨b,h1,hE b _ h2⟩,h.nodup⟩
theorem HX {P:Program} {fn:Func} {tmps:Array Value} {R:Ending->World->Prop}:∀(ds:List Deferred) (W:World),ds.Pairwise (·≠·)->
  (∀ d∈ds,∃ b,d={target:=.collected b,args:=#[] }/\W.heap[b]? =some (.deferred (some [])))->
  (∀ W',W'.os=W.os->W'.tape=W.tape->W'.output=W.output->W'.heap.size=W.heap.size->(∀ b,(∀ d∈ds,d≠{target:=.collected b,args:=#[] })->W'.heap[b]? =W.heap[b]?)->
   ∃ v,(results fn tmps).run P W'= .ok v W'/\R (.returned v) W')->
  LeavesInM Fence.wide 0 P fn tmps R ds .returning W
 | [],W,_,_,h=>by
  obtain⟨v,h1,h2⟩:=h W rfl rfl rfl rfl (fun _ _=>rfl)
  exact⟨v,h1,h2⟩
 |d::ds,W,hn,hd,h=>by
  obtain⟨b,rfl,hb⟩:=hd d (iu ..)
  have hn':=List.pairwise_cons.1 hn
  refine⟨by simp,.inl ⟨b,_,rfl,run_takeDeferred hb,HX ds _ hn'.2 (fun d hd'=>?_) (fun W' e1 e2 e3 e4 e5=>?_)⟩⟩
  ·obtain⟨b',rfl,hb'⟩:=hd d (fM _ hd')
   refine⟨b',rfl,?_⟩
   rw[World.putObj_heap_other]
   ·exact hb'
   ·intro e;subst e;exact hn'.1 _ hd' rfl
  ·refine h W' (e1.trans rfl) (e2.trans rfl) (e3.trans rfl) (e4.trans World.putObj_size) (fun b' hb'=>?_)
   rw[e5 b' (fun d hd'=>hb' d (fM _ hd'))]
   rw[World.putObj_heap_other]
   intro e;subst e
   exact hb' _ (iu ..) rfl
theorem Step.Uq {σ:Sg} {E:EH} {kb:KB} {W:World} (hi:Inv σ E kb W) {σ':Sg} {E':EH} {kb':KB} {W':World} (h:Step σ E.strip kb W σ' E' kb' W') {W2:World}
  (e1:W2.os=W'.os) (e2:W2.tape=W'.tape) (e3:W2.output=W'.output) (e4:W2.heap.size=W'.heap.size) {M:Nat->Prop} (hM:∀ b,M b->E' b=some (.deferred (some []))) (e5:∀ b,¬ M b->W2.heap[b]? =W'.heap[b]?):
  ∃ E2,Step σ E kb W σ' E2 kb' W2/\E'.ly E2:=by
 have Bc:∀ b x,E b=some x->W'.heap[b]? =some x:=fun b x hx=>by
  have h1:=hi.dj b x hx
  rw[h.bQ.block b (Array.getElem?_eq_some_iff.1 h1).1 (fun ho=>by have:=hi.sep b ho;rw[hx]at this;cases this)]
  exact h1
 have YE:∀ b,M b->E b=none:=fun b hb=>by
  have h0:=hM b hb
  cases hE:E b with
  |none=>rfl
  |some x=>
   exfalso
   have h2:=h.inv.dj b _ h0
   have h3:=Bc b x hE
   rw[h2]at h3
   rcases h.new b _ h0 with h1 | h1 | h1
   ·exact EH.Kk h1
   ·have:=hi.sep b h1;rw[hE]at this;cases this
   ·have:=(Array.getElem?_eq_some_iff.1 (hi.dj b x hE)).1;omega
 have YF:∀ b,M b->¬ cq σ kb b->W.heap.size<=b:=fun b hb hno=>by
  rcases h.new b _ (hM b hb)with h1 | h1 | h1
  ·exact(EH.Kk h1).elim
  ·exact(hno h1).elim
  ·exact h1
 let E2:EH:=fun b=>match E b with | some x=>some x | none=>E'.strip b
 have vy:∀ b x,E2 b=some x->E b=some x∨(E b=none/\E'.strip b=some x):=by
  intro b x hx
  simp only[E2]at hx
  split at hx
  ·rename_i y hy;rw[hy];exact .inl hx
  ·rename_i hy;exact .inr ⟨hy,hx⟩
 have hc:E'.ly E2:=by
  refine⟨?_,fun b es ck hm=>?_⟩
  rotate_left
  ·simp only[E2]
   cases hE:E b with
   |none=>exact E'.wo.m b es ck hm
   |some x=>
    have h3:=Bc b x hE
    have h2:=h.inv.dj b _ hm
    rw[h3]at h2
    exact h2
  intro b o v hv
  have ZT:=E'.wo.c b o v hv
  unfold EH.cell at hv ⊢
  simp only[E2]
  cases hE:E b with
  |none=>exact ZT
  |some x=>
   have h3:=Bc b x hE
   cases xP:E' b with
   |none=>rw[xP]at hv;cases hv
   |some y=>
    have h2:=h.inv.dj b y xP
    rw[h3]at h2
    cases h2
    rw[xP]at hv
    exact hv
 have ZL:∀ b,cq σ' kb' b->¬ M b:=fun b hb hm=>by have:=h.inv.sep b hb;rw[hM b hm]at this;cases this
 refine⟨E2,⟨⟨h.inv.len,fun i r o h1 h2=>?_,h.inv.dx,fun b x hx=>?_,fun b hb=>?_⟩,⟨e1.trans h.bQ.os,e2.trans h.bQ.tape,e3.trans h.bQ.output,by rw[e4];exact h.bQ.size,fun b hb hno=>?_⟩,h.pre,fun b x hx=>?_,h.own,fun b x hx=>?_⟩,hc⟩
 ·have:=(h.inv.obj i r o h1 h2).dr (τ:=[]) (W':=W2) hc (fun b hb=>e5 b (ZL b ⟨i,r,o,h1,h2,hb⟩))
  simpa using this
 ·rcases vy b x hx with hx | ⟨_,hx⟩
  ·rw[e5 b (fun hm=>by rw[YE b hm]at hx;cases hx)]
   exact Bc b x hx
  ·have hx':=EH.C1 hx
   rw[e5 b (fun hm=>by rw[hM b hm]at hx';cases hx';exact EH.Kk hx)]
   exact h.inv.dj b x hx'
 ·have h1:=h.inv.sep b hb
  have h2:E b=none:=by
   rcases h.own b hb with h2 | h2
   ·exact hi.sep b h2
   ·cases hE:E b with
    |none=>rfl
    |some x=>have:=(Array.getElem?_eq_some_iff.1 (hi.dj b x hE)).1;omega
  simp only[E2,h2,EH.strip,h1]
 ·rw[e5 b (fun hm=>by have:=YF b hm hno;omega)]
  exact h.bQ.block b hb hno
 ·simp only[E2,hx]
 ·rcases vy b x hx with hx | ⟨_,hx⟩
  ·exact .inl hx
  ·rcases h.new b x (EH.C1 hx)with h1 | h1 | h1
   ·exact .inl (EH.C1 h1)
   ·exact .inr (.inl h1)
   ·exact .inr (.inr h1)
theorem Inv.strip {σ:Sg} {E:EH} {kb:KB} {W:World} (h:Inv σ E kb W):Inv σ E.strip kb W:=
 ⟨h.len,fun i r o h1 h2=>by
  have:=(h.obj i r o h1 h2).dr (τ:=[]) (W':=W) E.wo (fun _ _=>rfl)
  simpa using this,h.dx,fun b o hb=>h.dj b o (EH.C1 hb),fun b hb=>by
   have:=h.sep b hb
   simp only[EH.strip,this]⟩
theorem Step.XV {σ:Sg} {E:EH} {kb:KB} {W:World} (hi:Inv σ E kb W) (r:Loop):
  ∃ E',Step σ E kb W σ E' kb ((W.alloc (.deferred (some []))).alloc (.loop r))/\E' W.heap.size=some (.deferred (some []))/\E' (W.heap.size+1)=none/\((W.alloc (.deferred (some []))).alloc (.loop r)).heap[W.heap.size+1]? =some (.loop r):=by
 let W1:=(W.alloc (.deferred (some []))).alloc (.loop r)
 have hold:∀ b,b<W.heap.size->W1.heap[b]? =W.heap[b]?:=fun b hb=>by
  show((W.heap.push _).push _)[b]? =_
  rw[Array.getElem?_push,if_neg (by simp;omega),Array.getElem?_push,if_neg (by omega)]
 have h0:W1.heap[W.heap.size]? =some (.deferred (some [])):=by
  show((W.heap.push _).push _)[W.heap.size]? =_
  rw[Array.getElem?_push,if_neg (by simp),Array.getElem?_push,if_pos rfl]
 have h1:W1.heap[W.heap.size+1]? =some (.loop r):=by
  show((W.heap.push _).push _)[W.heap.size+1]? =_
  rw[Array.getElem?_push,if_pos (by simp)]
 have OH:∀ b,W.heap.size<=b->E b=none:=fun b hb=>by
  cases hE:E b with
  |none=>rfl
  |some x=>have:=(Array.getElem?_eq_some_iff.1 (hi.dj b x hE)).1;omega
 let E':EH:=fun b=>if b=W.heap.size then some (.deferred (some []))else E b
 have hle:E.le E':=fun b x hb=>by
  show(if b=W.heap.size then _ else E b)=some x
  rw[if_neg (fun e=>by rw[OH b (by omega)]at hb;cases hb)]
  exact hb
 refine⟨E',⟨⟨hi.len,fun i r' o h2 h3=>?_,hi.dx,fun b x hb=>?_,fun b hb=>?_⟩,⟨rfl,rfl,rfl,by show W.heap.size<=((W.heap.push _).push _).size;simp only[Array.size_push];omega,fun b hb _=>hold b hb⟩,⟨[],by simp⟩,hle,fun b hb=> .inl hb,fun b x hb=>?_⟩,by simp [E'],?_,h1⟩
 ·have:=(hi.obj i r' o h2 h3).mono (τ:=[]) (W':=W1) hle (fun b hb=>hold b ((hi.obj i r' o h2 h3).lt hb))
  simpa using this
 ·by_cases hc:b=W.heap.size
  ·subst hc
   simp only[E',if_true]at hb
   rw[<- hb]
   exact h0
  ·simp only[E',if_neg hc]at hb
   have h2:=hi.dj b x hb
   rw[<- h2]
   exact hold b (Array.getElem?_eq_some_iff.1 h2).1
 ·have hlt:=hi.lt hb
  simp only[E',if_neg (show ¬ b=W.heap.size by omega)]
  exact hi.sep b hb
 ·by_cases hc:b=W.heap.size
  ·exact .inr (.inr (by omega))
  ·simp only[E',if_neg hc]at hb;exact .inl hb
 ·simp only[E',if_neg (show ¬ W.heap.size+1=W.heap.size by omega)]
  exact OH _ (by omega)
theorem Step.other {σ:Sg} {E:EH} {kb:KB} {W:World} {σ':Sg} {E':EH} {kb':KB} {W':World} (h:Step σ E kb W σ' E' kb' W') {l:Nat} (hl:W.heap.size<=l) (hno:¬ cq σ' kb' l) (hE:E' l=none) (o:Obj):Step σ E kb W σ' E' kb' (W'.putObj l o):=by
 refine⟨⟨h.inv.len,fun i r x h1 h2=>?_,h.inv.dx,fun b x hb=>?_,h.inv.sep⟩,⟨h.bQ.os,h.bQ.tape,h.bQ.output,by rw[World.putObj_size];exact h.bQ.size,fun b hb hn=>?_⟩,h.pre,h.le,h.own,h.new⟩
 ·have:=(h.inv.obj i r x h1 h2).mono (τ:=[]) (W':=W'.putObj l o) (EH.le.refl E') (fun b hb=>World.putObj_heap_other (fun e=>by subst e;exact hno ⟨i,r,x,h1,h2,hb⟩))
  simpa using this
 ·rw[World.putObj_heap_other (fun e=>by subst e;rw[hE]at hb;cases hb)]
  exact h.inv.dj b x hb
 ·rw[World.putObj_heap_other (by omega)]
  exact h.bQ.block b hb hn
abbrev Fr:=List (Nat×V)
def look:Fr->Nat->Option V
 | [],_=>none
 | (d,v)::r,t=>match cp d t with | true=>some v | false=>look r t
structure eu (σ:Sg) (E:EH) (fr:Fr) (n:Nat) (a:Act):Prop where
 size:a.tmps.size=n
 defers:ot E a.defers
 get:∀ t v,look fr t=some v->∃ x,a.tmps[t]? =some x/\Den σ E v x
theorem eu.mono {σ τ:Sg} {E E':EH} {fr:Fr} {n:Nat} {a:Act} (h:eu σ E fr n a) (hE:E.le E'):eu (σ++τ) E' fr n a:=
 ⟨h.size,h.defers.mono hE,fun t v hv=>let ⟨x,h1,h2⟩:=h.get t v hv;⟨x,h1,Den.mono hE h2⟩⟩
theorem eu.put {σ:Sg} {E:EH} {fr:Fr} {n:Nat} {a:Act} (h:eu σ E fr n a) {d:Nat} (hd:d<n) {v:V} {x:Value} (hv:Den σ E v x):eu σ E ((d,v)::fr) n (a.put (some d) x):=by
 refine⟨by simp [Act.put,h.size],h.defers,fun t u hu=>?_⟩
 simp only[look]at hu
 split at hu
 ·rename_i hb
  have:=cU hb
  subst this
  cases hu
  exact⟨x,by simp [Act.put,h.size,hd],hv⟩
 ·rename_i hb
  have hne:d≠t:=fun e=>by subst e;simp at hb
  obtain⟨y,h1,h2⟩:=h.get t u hu
  exact⟨y,by simp only[Act.put];rw[Array.getElem?_setIfInBounds_ne hne];exact h1,h2⟩
def kc (n:Nat) (dst:Option Nat) (v:V) (fr:Fr) (K:Fr->Prop):Prop:=
 match dst with
 |some d=>match Nat.blt d n with
  |true=>K ((d,v)::fr)
  |false=>False
 |none=>K fr
theorem ni {n:Nat} {dst:Option Nat} {v:V} {fr:Fr} {K:Fr->Prop} (h:kc n dst v fr K) {σ:Sg} {E:EH} {a:Act} (hf:eu σ E fr n a) {x:Value} (hv:Den σ E v x):
  ∃ fr',eu σ E fr' n (a.put dst x)/\K fr':=by
 unfold kc at h
 split at h
 ·rename_i d
  split at h
  ·rename_i hb
   exact⟨_,hf.put (Nat.lt_of_succ_le (Nat.le_of_ble_eq_true hb)) hv,h⟩
  ·exact h.elim
 ·exact⟨fr,hf,h⟩
def kR (fr:Fr):Operand->Option V
 | .tmp t=>look fr t
 | .const v=>some (tH v)
 | .global g=>some (.any (.pointer (some ⟨g,0,none⟩)))
 | .func f=>some (.fn f [])
theorem mU {σ:Sg} {E:EH} {fr:Fr} {n:Nat} {a:Act} (h:eu σ E fr n a) {x:Operand} {v:V} (hv:kR fr x=some v):Den σ E v (a.eval x):=by
 cases x with
 |tmp t=>
  obtain⟨y,h1,h2⟩:=h.get t v hv
  simp only[Act.eval]
  rw[Array.getD_eq_getD_getElem?,h1]
  exact h2
 |const c=>simp only[kR,bb.injEq]at hv;subst hv;exact NB σ E c
 |global g=>simp only[kR,bb.injEq]at hv;subst hv;simp [Den,Act.eval]
 |func f=>simp only[kR,bb.injEq]at hv;subst hv;simp [Den,aq,Act.eval]
def ev (fr:Fr) (x:Operand):Option V:=match kR fr x with | some v=>some (xA v) | none=>none
theorem bW {σ:Sg} {E:EH} {fr:Fr} {n:Nat} {a:Act} (h:eu σ E fr n a) {x:Operand} {v:V} (hv:ev fr x=some v):Den σ E v (a.eval x):=by
 unfold ev at hv
 split at hv
 ·rename_i u hu;cases hv;exact FY (mU h hu)
 ·cases hv
def evs (fr:Fr):List Operand->Option (List V)
 | []=>some []
 |x::xs=>match kR fr x,evs fr xs with
  |some v,some vs=>some (v::vs)
  |_,_=>none
theorem AU {σ:Sg} {E:EH} {fr:Fr} {n:Nat} {a:Act} (h:eu σ E fr n a):∀{xs:List Operand} {vs:List V},evs fr xs=some vs->aq σ E vs (xs.map a.eval)
 | [],vs,hv=>by simp [evs]at hv;subst hv;exact .nil
 |x::xs,vs,hv=>by
  simp only[evs]at hv
  split at hv
  ·rename_i v us h1 h2
   cases hv
   exact .cons (mU h h1) (AU h h2)
  ·cases hv
def vq (fr:Fr):List (Nat×Operand)->Option (List (Nat×V))
 | []=>some []
 | (i,x)::xs=>match kR fr x,vq fr xs with
  |some v,some vs=>some ((i,v)::vs)
  |_,_=>none
theorem Gj {σ:Sg} {E:EH} {fr:Fr} {n:Nat} {a:Act} (h:eu σ E fr n a):∀{xs:List (Nat×Operand)} {vs:List (Nat×V)},vq fr xs=some vs->lq σ E vs (xs.map fun(i,x)=>(i,a.eval x))
 | [],vs,hv=>by simp [vq]at hv;subst hv;simp [lq]
 | (i,x)::xs,vs,hv=>by
  simp only[vq]at hv
  split at hv
  ·rename_i v us h1 h2
   cases hv
   simp only[mb,lq]
   exact⟨_,_,rfl,mU h h1,Gj h h2⟩
  ·cases hv
def sw (fr:Fr):Option Operand->Option (Option V)
 |none=>some none
 |some x=>match ev fr x with | some v=>some (some v) | none=>none
theorem xG {σ:Sg} {E:EH} {fr:Fr} {n:Nat} {a:Act} (h:eu σ E fr n a) {x:Option Operand} {v:Option V} (hv:sw fr x=some v):OD σ E v (x.map a.eval):=by
 cases x with
 |none=>simp [sw]at hv;subst hv;trivial
 |some x=>
  simp only[sw]at hv
  split at hv
  ·rename_i u hu;cases hv;exact bW h hu
  ·cases hv
def exacts (fr:Fr) (l:List Operand):Bool:=l.all fun x=>((ev fr x).bind V.val?).isSome
def JG (fr:Fr) (x:Operand):Value:=((ev fr x).bind V.val?).getD undef
def AW (n:Nat) (K:Nat->V):V:=match n with
 | 0=>K 0
 |m+1=>K (m+1)
def vk:Value->V
 | .int k n=>match n with
  | .ofNat m=>AW m (fun m=> .lit k (.ofNat m))
  | .negSucc m=>AW m (fun m=> .lit k (.negSucc m))
 | .bool b=>match b with | true=> .tt | false=> .ff
 |v=>cv v
theorem Xt (σ:Sg) (E:EH) (v:Value):Den σ E (vk v) v:=by
 cases v with
 |int k n=>
  cases n with
  |ofNat m=>cases m<;>simp [vk,AW,Den]
  |negSucc m=>cases m<;>simp [vk,AW,Den]
 |bool b=>cases b<;>simp [vk,Den]
 |_=>simp only[vk];exact NA σ E _
def isLit:V->Bool
 | .lit .. | .tt | .ff=>true
 | .any (.string _)=>true
 | .any (.map none)=>true
 | .any (.pointer none)=>true
 | .any .nilFunc=>true
 |_=>false
def BP:Bool->Bool->V
 |true,b=>match b with | true=> .tt | false=> .ff
 |false,b=> .sb b
theorem Qa (σ:Sg) (E:EH) (l b:Bool):Den σ E (BP l b) (.bool b):=by
 cases l<;>cases b<;>simp [BP,Den]
def lits (fr:Fr) (l:List Operand):Bool:=l.all fun x=>match kR fr x with | some v=>isLit v | none=>false
def mS (P:Program) (fr:Fr) (o:Oper):Option V:=
 match o.op with
 | .select .. =>none
 |_=>match exacts fr o.op.operands.toList with
  |true=>match calm P (execOp (JG fr) o)with
   |some (.value v)=>match lits fr o.op.operands.toList with
    |true=>some (vk v)
    |false=>some (cv v)
   |_=>none
  |false=>none
theorem M3 {P:Program} {fr:Fr} {o:Oper} {v:V} (h:mS P fr o=some v) {σ:Sg} {E:EH} {n:Nat} {a:Act} (hf:eu σ E fr n a):
  ∃ x,(∀ W,(execOp a.eval o).run P W= .ok (.value x) W)/\Den σ E v x:=by
 unfold mS at h
 split at h
 ·cases h
 ·rename_i hsel
  split at h
  ·rename_i hex
   split at h
   ·rename_i x hc
    have eG:Den σ E v x:=by
     split at h
     ·cases h;exact Xt σ E x
     ·cases h;exact NA σ E x
    refine⟨x,fun W=>?_,eG⟩
    rw[execOp_congr (ρ:=a.eval) (ρ':=JG fr) o (fun cs b e=>hsel cs b e) (fun y hy=>?_)]
    ·exact Fv hc W
    ·have:=List.all_eq_true.1 hex y (by simpa using hy)
     obtain⟨z,hz⟩:=Option.isSome_iff_exists.1 this
     obtain⟨u,hu,px⟩:=kP.1 hz
     rw[De px (bW hf hu)]
     simp [JG,hz]
   ·cases h
  ·cases h
def Jj (c:Bool):V->V->Option V
 | .int k m,.int k' n=>match decide (k=k')with | true=>some (.int k (bif c then m else n)) | false=>none
 | .sb a,.sb b=>some (.sb (bif c then a else b))
 | .sb a,.tt=>some (.sb (bif c then a else true))
 | .sb a,.ff=>some (.sb (bif c then a else false))
 | .tt,.sb b=>some (.sb (bif c then true else b))
 | .ff,.sb b=>some (.sb (bif c then false else b))
 | .tt,.ff=>some (.sb c)
 | .ff,.tt=>some (.sb !c)
 | .tt,.tt=>some .tt
 | .ff,.ff=>some .ff
 |_,_=>none
theorem adm {c:Bool} {u v w:V} (h:Jj c u v=some w) {σ:Sg} {E:EH} {x y:Value} (hx:Den σ E u x) (hy:Den σ E v y):Den σ E w (if c then x else y):=by
 unfold Jj at h
 split at h<;>(try cases h)<;>(try simp only[Den]at hx hy ⊢)<;>(try subst hx)<;>(try subst hy)<;>(try (cases c<;>simp))
 ·split at h
  ·rename_i hk
   have hk':=of_decide_eq_true hk
   subst hk'
   cases h
   simp [Den]
  ·cases h
 ·split at h
  ·rename_i hk
   have hk':=of_decide_eq_true hk
   subst hk'
   cases h
   simp [Den]
  ·cases h
def isPure (P:Program):Op->Bool
 | .move _ | .assign _ | .pick .. | .nilCheck _ | .fieldAddr .. | .indexAddr .. | .slice .. | .field .. | .extract .. | .build .. | .makeFunc .. | .binOp .. | .unOp .. | .index .. | .makeInterface .. | .sliceToArrayPointer .. =>true
 | .convert src dst _=>match P.underlying src,P.underlying dst with
  |some .string,some (.slice _)=>false
  |some (.slice _),some .string=>false
  |some (.slice _),some (.slice _)=>false
  |_,_=>true
 | .call c=>match c.callee with
  | .builtin .len=>match c.argTypes.toList with
   | [t]=>match P.underlying t with
    |some (.map _ _)=>false
    |some (.chan _ _)=>false
    |_=>true
   |_=>true
  | .builtin .min | .builtin .max=>true
  |_=>false
 |_=>false
def qg (P:Program) (t:TypeId):Bool:=match P.underlying t with | some (.pointer _)=>true | _=>false
def BC (P:Program) (t:TypeId):Bool:=match P.underlying t with | some (.func ..)=>true | _=>false
def CV (P:Program) (t:TypeId):V->V->Bool
 | .mp _,.any (.map none)=>vF P t
 | .ptr _ _,.any (.pointer none)=>qg P t
 | .pa ..,.any (.pointer none)=>qg P t
 | .pe ..,.any (.pointer none)=>qg P t
 | .dK ..,.any (.pointer none)=>qg P t
 | .fn ..,.any .nilFunc=>BC P t
 | .dat (.val (.func ..)),.any .nilFunc=>BC P t
 |_,_=>false
def CS (P:Program) (t:TypeId):Bool:=match P.underlying t with | some (.slice _)=>true | _=>false
def B4:V->Option Nat
 | .sl _ lo hi=>some (hi - lo)
 | .dat (.sl _ l)=>some l.length
 | .e0=>some 0
 | .sa _ _ _ _ n _=>some n
 | .se _ _ _ _ n _=>some n
 |_=>none
def intOf:V->Option (IntKind×Int)
 | .int k n=>some (k,n)
 | .lit k n=>some (k,n)
 |_=>none
def NZ (n:Int):Prop:=n≠0
def l7 (k:IntKind) (a b:Int):Int:=k.wrap (a*2 ^ (min b.toNat k.bits))
def qo (k:IntKind) (a b:Int):Int:=a.fdiv (2 ^ (min b.toNat k.bits))
def LP (n:Int):Prop:=¬ n<0
def rp (P:Program) (o:Oper) (fr:Fr) (K:V->Prop):Prop:=
 match o.op with
 | .binOp .eql t x y _=>match ev fr x,ev fr y with
  |some v,some (.any (.slice none 0 0))=>match CS P t,B4 v with
   |true,some n=>∀ b:Bool,(b=true->n=0)->K (.sb b)
   |_,_=>False
  |some (.aa o),some (.any (.pointer none))=>match qg P t with | true=>K (.sb o.isNone) | false=>False
  |some (.imp _ _ _ _ l),some (.any (.map none))=>match vF P t with | true=>∀ b:Bool,(b=true->l.length=0)->K (.sb b) | false=>False
  |_,_=>False
 | .binOp .neq t x y _=>match ev fr x,ev fr y with
  |some v,some (.any (.slice none 0 0))=>match CS P t,B4 v with
   |true,some n=>∀ b:Bool,(b=false->n=0)->K (.sb b)
   |_,_=>False
  |some (.aa o),some (.any (.pointer none))=>match qg P t with | true=>K (.sb (!o.isNone)) | false=>False
  |some (.imp _ _ _ _ l),some (.any (.map none))=>match vF P t with | true=>∀ b:Bool,(b=false->l.length=0)->K (.sb b) | false=>False
  |_,_=>False
 | .binOp .quo t x y _=>match (ev fr x).bind intOf,(ev fr y).bind intOf with
  |some (k,a),some (k',b)=>match decide (k=k')with
   |true=>NZ b/\K (.int k (k.wrap (a.tdiv b)))
   |false=>False
  |_,_=>False
 | .binOp .rem t x y _=>match (ev fr x).bind intOf,(ev fr y).bind intOf with
  |some (k,a),some (k',b)=>match decide (k=k')with
   |true=>NZ b/\K (.int k (a.tmod b))
   |false=>False
  |_,_=>False
 | .binOp .shl t x y _=>match (ev fr x).bind intOf,(ev fr y).bind intOf with
  |some (k,a),some (_,b)=>LP b/\K (.int k (l7 k a b))
  |_,_=>False
 | .binOp .shr t x y _=>match (ev fr x).bind intOf,(ev fr y).bind intOf with
  |some (k,a),some (_,b)=>LP b/\K (.int k (qo k a b))
  |_,_=>False
 |_=>False
theorem QK {σ:Sg} {E:EH} {v:V} {n:Nat} (h:B4 v=some n) {x:Value} (hx:Den σ E v x):∃ a cap,x= .slice a n cap/\(a=none->n=0):=by
 unfold B4 at h
 split at h<;>first | (cases h;done) | skip
 ·rename_i lo hi
  cases h
  simp only[Den]at hx
  obtain⟨r,a,_,rfl,h1,h2,h3⟩:=hx
  refine⟨a,_,rfl,fun e=>?_⟩
  subst e
  rcases jX lo r.cap with hlt | hlt
  ·exact absurd (h3 hlt) (by simp)
  ·omega
 ·cases h
  simp only[Den,bK]at hx
  obtain⟨a,cap,rfl,h1,h2⟩:=hx
  refine⟨a,cap,rfl,fun e=>?_⟩
  rcases h2 with h2 | ⟨b,off,h2,_⟩
  ·exact h2
  ·rw[e]at h2;cases h2
 ·cases h
  simp only[Den]at hx
  obtain⟨a,rfl⟩:=hx
  exact⟨a,0,rfl,fun _=>rfl⟩
 ·rename_i c
  cases h
  simp only[Den]at hx
  obtain⟨r,a,_,rfl,h1,h2⟩:=hx
  refine⟨a,_,rfl,fun e=>?_⟩
  subst e
  rcases Nat.eq_zero_or_pos c with hlt | hlt
  ·omega
  ·exact absurd (h2 hlt) (by simp)
 ·rename_i c
  cases h
  simp only[Den]at hx
  obtain⟨r,a,_,rfl,h1,h2⟩:=hx
  refine⟨a,_,rfl,fun e=>?_⟩
  subst e
  rcases Nat.eq_zero_or_pos c with hlt | hlt
  ·omega
  ·exact absurd (h2 hlt) (by simp)
theorem S4 {P:Program} {t:TypeId} (ht:CS P t=true) {a:Option Addr} {n cap:Nat} (W:World):(Op.equal t (.slice a n cap) (.slice none 0 0)).run P W= .ok a.isNone W:=by
 unfold CS at ht
 split at ht<;>try (cases ht;done)
 rename_i e hu
 unfold Op.equal
 show(Op.equalIn (9999+1) t _ _).run P W=_
 unfold Op.equalIn
 rw[Sem.run_bind,run_underlying hu,Result.andThen_ok]
 cases a<;>rfl
theorem CF {P:Program} {t:TypeId} (ht:qg P t=true) {a:Option Addr} (W:World):(Op.equal t (.pointer a) (.pointer none)).run P W= .ok a.isNone W:=by
 unfold qg at ht
 split at ht<;>try (cases ht;done)
 rename_i e hu
 unfold Op.equal
 show(Op.equalIn (9999+1) t _ _).run P W=_
 unfold Op.equalIn
 rw[Sem.run_bind,run_underlying hu,Result.andThen_ok]
 cases a<;>simp
theorem SZ {P:Program} {t:TypeId} (ht:vF P t=true) {a:Option Nat} (W:World):(Op.equal t (.map a) (.map none)).run P W= .ok a.isNone W:=by
 unfold vF at ht
 split at ht<;>try (cases ht;done)
 rename_i kt et hu
 unfold Op.equal
 show(Op.equalIn (9999+1) t _ _).run P W=_
 unfold Op.equalIn
 rw[Sem.run_bind,run_underlying hu,Result.andThen_ok]
 cases a<;>simp
theorem sH {v:V} {k:IntKind} {n:Int} (h:intOf v=some (k,n)) {σ:Sg} {E:EH} {x:Value} (hx:Den σ E v x):x= .int k n:=by
 unfold intOf at h
 split at h<;>first | (cases h;done) | skip
 ·cases h;simpa only[Den]using hx
 ·cases h;simpa only[Den]using hx
theorem yg {P:Program} {o:Oper} {fr:Fr} {K:V->Prop} (h:rp P o fr K) {σ:Sg} {E:EH} {n:Nat} {a:Act} (hf:eu σ E fr n a):
  ∃ v x,(∀ W,(execOp a.eval o).run P W= .ok (.value x) W)/\Den σ E v x/\K v:=by
 obtain⟨dst,op,ty,pos,after,guard⟩:=o
 unfold rp at h
 simp only at h
 split at h
 ·rename_i t x y _
  split at h<;>try exact h.elim
  ·rename_i v hx hy
   split at h<;>try exact h.elim
   rename_i m ht hm
   obtain⟨ad,cap,e1,e2⟩:=QK hm (bW hf hx)
   have e3:=bW hf hy
   simp only[Den]at e3
   refine⟨.sb ad.isNone,.bool ad.isNone,fun W=>?_,by simp only[Den],h _ (fun hb=>e2 (by simpa using hb))⟩
   simp only[execOp,e1,e3,eqGuard,Sem.run_bind,binOp]
   simp [S4 ht]
  ·rename_i o hx hy
   split at h<;>try exact h.elim
   rename_i ht
   have e1:=bW hf hx
   have e3:=bW hf hy
   simp only[Den]at e1 e3
   refine⟨_,.bool o.isNone,fun W=>?_,by simp only[Den],h⟩
   rcases e1 with ⟨rfl,e1⟩ | ⟨e,b,rfl,e1,_⟩
   ·simp only[execOp,e1,e3,eqGuard,Sem.run_bind,binOp]
    simp [CF ht]
   ·simp only[execOp,e1,e3,eqGuard,Sem.run_bind,binOp]
    simp [CF ht]
  ·rename_i l hx hy
   split at h<;>try exact h.elim
   rename_i ht
   have e1:=bW hf hx
   have e3:=bW hf hy
   simp only[Den]at e1 e3
   obtain⟨a,e1,e2⟩:=e1
   refine⟨.sb a.isNone,.bool a.isNone,fun W=>?_,by simp only[Den],h _ (fun hb=>?_)⟩
   ·simp only[execOp,e1,e3,eqGuard,Sem.run_bind,binOp]
    simp [SZ ht]
   ·cases a with
    |none=>have e2:l=[]:=e2;rw[e2];rfl
    |some a=>cases hb
 ·rename_i t x y _
  split at h<;>try exact h.elim
  ·rename_i v hx hy
   split at h<;>try exact h.elim
   rename_i m ht hm
   obtain⟨ad,cap,e1,e2⟩:=QK hm (bW hf hx)
   have e3:=bW hf hy
   simp only[Den]at e3
   refine⟨.sb (!ad.isNone),.bool (!ad.isNone),fun W=>?_,by simp only[Den],h _ (fun hb=>e2 (by simpa using hb))⟩
   simp only[execOp,e1,e3,eqGuard,Sem.run_bind,binOp]
   simp [S4 ht]
  ·rename_i o hx hy
   split at h<;>try exact h.elim
   rename_i ht
   have e1:=bW hf hx
   have e3:=bW hf hy
   simp only[Den]at e1 e3
   refine⟨_,.bool (!o.isNone),fun W=>?_,by simp only[Den],h⟩
   rcases e1 with ⟨rfl,e1⟩ | ⟨e,b,rfl,e1,_⟩
   ·simp only[execOp,e1,e3,eqGuard,Sem.run_bind,binOp]
    simp [CF ht]
   ·simp only[execOp,e1,e3,eqGuard,Sem.run_bind,binOp]
    simp [CF ht]
  ·rename_i l hx hy
   split at h<;>try exact h.elim
   rename_i ht
   have e1:=bW hf hx
   have e3:=bW hf hy
   simp only[Den]at e1 e3
   obtain⟨a,e1,e2⟩:=e1
   refine⟨.sb (!a.isNone),.bool (!a.isNone),fun W=>?_,by simp only[Den],h _ (fun hb=>?_)⟩
   ·simp only[execOp,e1,e3,eqGuard,Sem.run_bind,binOp]
    simp [SZ ht]
   ·cases a with
    |none=>have e2:l=[]:=e2;rw[e2];rfl
    |some a=>cases hb
 ·rename_i t x y _
  split at h<;>try exact h.elim
  rename_i k p k' q hx hy
  split at h<;>try exact h.elim
  rename_i hk
  have hk:=of_decide_eq_true hk
  subst hk
  obtain⟨u,hu,px⟩:=kP.1 hx
  obtain⟨v,hv,qZ⟩:=kP.1 hy
  have e1:=sH px (bW hf hu)
  have e2:=sH qZ (bW hf hv)
  refine⟨_,.int k (k.wrap (p.tdiv q)),fun W=>?_,by simp only[Den],h.2⟩
  simp [execOp,e1,e2,eqGuard,binOp,Op.intDiv,show q≠0 from h.1]
 ·rename_i t x y _
  split at h<;>try exact h.elim
  rename_i k p k' q hx hy
  split at h<;>try exact h.elim
  rename_i hk
  have hk:=of_decide_eq_true hk
  subst hk
  obtain⟨u,hu,px⟩:=kP.1 hx
  obtain⟨v,hv,qZ⟩:=kP.1 hy
  have e1:=sH px (bW hf hu)
  have e2:=sH qZ (bW hf hv)
  refine⟨_,.int k (p.tmod q),fun W=>?_,by simp only[Den],h.2⟩
  simp [execOp,e1,e2,eqGuard,binOp,Op.intDiv,show q≠0 from h.1]
 ·rename_i t x y _
  split at h<;>try exact h.elim
  rename_i k p k' q hx hy
  obtain⟨u,hu,px⟩:=kP.1 hx
  obtain⟨v,hv,qZ⟩:=kP.1 hy
  have e1:=sH px (bW hf hu)
  have e2:=sH qZ (bW hf hv)
  refine⟨_,.int k (l7 k p q),fun W=>?_,by simp only[Den],h.2⟩
  simp [execOp,e1,e2,eqGuard,binOp,Op.shift,show ¬ q<0 from h.1,l7]
 ·rename_i t x y _
  split at h<;>try exact h.elim
  rename_i k p k' q hx hy
  obtain⟨u,hu,px⟩:=kP.1 hx
  obtain⟨v,hv,qZ⟩:=kP.1 hy
  have e1:=sH px (bW hf hu)
  have e2:=sH qZ (bW hf hv)
  refine⟨_,.int k (qo k p q),fun W=>?_,by simp only[Den],h.2⟩
  simp [execOp,e1,e2,eqGuard,binOp,Op.shift,show ¬ q<0 from h.1,qo]
 ·exact h.elim
def yC (P:Program) (o:Oper) (fr:Fr) (kb:KB) (K:V->Prop):Prop:=
 match o.op with
 | .move x | .assign x=>match kR fr x with | some v=>K v | none=>False
 | .pick c x y=>match ev fr c with
  |some .tt=>match kR fr x with | some v=>K v | none=>False
  |some .ff=>match kR fr y with | some v=>K v | none=>False
  |some (.sb b)=>match ev fr x,ev fr y with
   |some u,some v=>match Jj b u v with | some w=>K w | none=>False
   |_,_=>False
  |_=>False
 | .nilCheck x=>match ev fr x with
  |some (.ptr i off)=>K (.ptr i off)
  |some (.pa i base o)=>K (.pa i base o)
  |some (.pe i ix br)=>K (.pe i ix br)
  |some (.pw i ix)=>K (.pw i ix)
  |some (.dK e br)=>K (.dK e br)
  |some (.aa o)=>∃ e,o=some e/\K (.dK e 0)
  |some (.fn f cap)=>K (.fn f cap)
  |some (.dat (.val (.func (.func f) first cap)))=>K (.dat (.val (.func (.func f) first cap)))
  |some (.any (.func (.func f) first cap))=>K (.any (.func (.func f) first cap))
  |_=>False
 | .fieldAddr s x m=>match ev fr x with | some v=>Gl P s v m K | none=>False
 | .indexAddr t x i=>match ev fr x,kR fr i with | some v,some u=>HL P t v u kb K | _,_=>False
 | .slice t x lo hi none=>match ev fr x,sw fr lo,sw fr hi with | some v,some l,some h=>J1 P t v l h kb K | _,_,_=>False
 | .slice t x lo hi (some m)=>match ev fr x,sw fr lo,sw fr hi,sw fr (some m)with | some v,some l,some h,some m=>J0 P t v l h m K | _,_,_,_=>False
 | .sliceToArrayPointer t x=>match ev fr x with | some v=>EZ P t v kb K | none=>False
 | .field t x m=>match (ev fr x).bind (fun v=>Gm P t v m)with | some u=>K u | none=>False
 | .index t x i=>match ev fr x,kR fr i with
  |some (.agg l),some u=>Gd P t (.agg l) u K
  |_,_=>match mS P fr o with | some v=>K v | none=>False
 | .extract x m=>match ev fr x with
  |some (.υ l)=>match l[m]? with | some v=>K v | none=>False
  |_=>False
 | .build t parts=>match vq fr parts.toList with
  |some ps=>match Fq P t ps with | some l=>K (.agg l) | none=>False
  |none=>False
 | .makeFunc (.func f) first cap=>match first.toList,evs fr cap.toList with | [],some vs=>K (.fn f vs) | _,_=>False
 | .call c=>match c.callee,c.args.toList,c.argTypes.toList with
  | .builtin .len,[x],[t]=>match ev fr x with
   |some v=>match BM v with
    |some _=>vI P t v K
    |none=>match v with
     | .agg l=>vI P t (.agg l) K
     | .ptr i off=>vI P t (.ptr i off) K
     |_=>match mS P fr o with | some v=>K v | none=>False
   |none=>False
  |_,_,_=>match mS P fr o with | some v=>K v | none=>False
 | .binOp .eql t x y _=>match ev fr x,ev fr y with
  |some u,some v=>match CV P t u v,u,v with
   |true,_,_=>K .ff
   |false,.agg xs,.agg ys=>match P.eqGuardType P.depth t,su P 20 t (.agg xs) (.agg ys)with
    |false,some b=>K (BP (xs.all isLit && ys.all isLit) b)
    |_,_=>False
   |_,_,_=>match mS P fr o with | some v=>K v | none=>rp P o fr K
  |_,_=>False
 | .binOp .neq t x y _=>match ev fr x,ev fr y with
  |some u,some v=>match CV P t u v,u,v with
   |true,_,_=>K .tt
   |false,.agg xs,.agg ys=>match P.eqGuardType P.depth t,su P 20 t (.agg xs) (.agg ys)with
    |false,some b=>K (BP (xs.all isLit && ys.all isLit) (!b))
    |_,_=>False
   |_,_,_=>match mS P fr o with | some v=>K v | none=>rp P o fr K
  |_,_=>False
 | .binOp .quo _ _ y _=>match y,ev fr y with
  | .tmp _,some (.int _ _)=>rp P o fr K
  |_,_=>match mS P fr o with | some v=>K v | none=>False
 | .binOp .rem _ _ y _=>match y,ev fr y with
  | .tmp _,some (.int _ _)=>rp P o fr K
  |_,_=>match mS P fr o with | some v=>K v | none=>False
 | .binOp .shl _ _ y _=>match y,ev fr y with
  | .tmp _,some (.int _ _)=>rp P o fr K
  |_,_=>match mS P fr o with | some v=>K v | none=>False
 | .binOp .shr _ _ y _=>match y,ev fr y with
  | .tmp _,some (.int _ _)=>rp P o fr K
  |_,_=>match mS P fr o with | some v=>K v | none=>False
 |_=>match mS P fr o with | some v=>K v | none=>False
theorem SU {P:Program} {t:TypeId} (hg:P.eqGuardType P.depth t=false) {b:Bool} {xs ys:List V} (he:su P 20 t (.agg xs) (.agg ys)=some b) {σ:Sg} {E:EH} {x y:Operand} {u v:Value} (hx:Den σ E (.agg xs) u) (hy:Den σ E (.agg ys) v)
  (op:BinOp) (hop:op= .eql∨op= .neq) (W:World):(do eqGuard op t x y u v;binOp op t u v:Sem Value).run P W= .ok (.bool (if op= .eql then b else !b)) W:=by
 have hr:=N6 20 t _ _ b he u v hx hy Op.maxDepth (by decide) W
 simp only[Den]at hx hy
 obtain⟨us,rfl,_⟩:=hx
 obtain⟨vs,rfl,_⟩:=hy
 rcases hop with rfl | rfl
 ·have h1:(eqGuard .eql t x y (.agg us.toArray) (.agg vs.toArray)).run P W= .ok () W:=by simp [eqGuard,hg]
  rw[Sem.run_bind,h1,Result.andThen_ok]
  simp [binOp,Op.equal,hr]
 ·have h1:(eqGuard .neq t x y (.agg us.toArray) (.agg vs.toArray)).run P W= .ok () W:=by simp [eqGuard,hg]
  rw[Sem.run_bind,h1,Result.andThen_ok]
  simp [binOp,Op.equal,hr]
theorem S5 {P:Program} {t:TypeId} {p q:V} (ht:CV P t p q=true) {σ:Sg} {E:EH} {x y:Operand} {u v:Value} (hx:Den σ E p u) (hy:Den σ E q v)
  (op:BinOp) (hop:op= .eql∨op= .neq) (W:World):(do eqGuard op t x y u v;binOp op t u v:Sem Value).run P W= .ok (.bool (if op= .eql then false else true)) W:=by
 have fin:((binOp .eql t u v).run P W= .ok (.bool false) W)->((binOp .neq t u v).run P W= .ok (.bool true) W)->(∀ op,(op=BinOp.eql∨op=BinOp.neq)->∀ W,(eqGuard op t x y u v).run P W= .ok () W)->(do eqGuard op t x y u v;binOp op t u v:Sem Value).run P W= .ok (.bool (if op= .eql then false else true)) W:=by
  intro gx fx h1
  rcases hop with rfl | rfl
  ·rw[Sem.run_bind,h1 _ (.inl rfl),Result.andThen_ok,gx]
   rfl
  ·rw[Sem.run_bind,h1 _ (.inr rfl),Result.andThen_ok,fx]
   rfl
 have ptr:∀{b o:Nat},u= .pointer (some ⟨b,o,none⟩)->v= .pointer none->qg P t=true->(do eqGuard op t x y u v;binOp op t u v:Sem Value).run P W= .ok (.bool (if op= .eql then false else true)) W:=by
  rintro b o rfl rfl hp
  unfold qg at hp
  split at hp<;>try (cases hp;done)
  rename_i e hu
  have hr:(Op.equal t (.pointer (some ⟨b,o,none⟩)) (.pointer none)).run P W= .ok false W:=by
   unfold Op.equal
   show(Op.equalIn (9999+1) t _ _).run P W=_
   unfold Op.equalIn
   rw[Sem.run_bind,run_underlying hu,Result.andThen_ok]
   simp
  refine fin (by simp [binOp,hr]) (by simp [binOp,hr]) (fun op hop W=>?_)
  ·rcases hop with rfl | rfl<;>simp [eqGuard]
 unfold CV at ht
 split at ht
 ·simp only[Den]at hx hy
  obtain⟨r,_,rfl⟩:=hx
  subst hy
  unfold vF at ht
  split at ht<;>try (cases ht;done)
  rename_i kt et hu
  have hr:(Op.equal t (.map (some r.blk)) (.map none)).run P W= .ok false W:=by
   unfold Op.equal
   show(Op.equalIn (9999+1) t _ _).run P W=_
   unfold Op.equalIn
   rw[Sem.run_bind,run_underlying hu,Result.andThen_ok]
   rfl
  refine fin (by simp [binOp,hr]) (by simp [binOp,hr]) (fun op hop W=>?_)
  ·rcases hop with rfl | rfl<;>simp [eqGuard]
 ·simp only[Den]at hx hy;obtain⟨r,_,rfl⟩:=hx;exact ptr rfl hy ht
 ·simp only[Den]at hx hy;obtain⟨r,_,rfl⟩:=hx;exact ptr rfl hy ht
 ·simp only[Den]at hx hy;obtain⟨r,_,rfl⟩:=hx;exact ptr rfl hy ht
 ·simp only[Den]at hx hy;obtain⟨b,off,rfl,_⟩:=hx;exact ptr rfl hy ht
 ·simp only[Den]at hx hy
  obtain⟨vs,rfl,_⟩:=hx
  subst hy
  unfold BC at ht
  split at ht<;>try (cases ht;done)
  rename_i hu
  have hr:∀ g c1 c2,(Op.equal t (.func g c1 c2) .nilFunc).run P W= .ok false W:=by
   intro g c1 c2
   unfold Op.equal
   show(Op.equalIn (9999+1) t _ _).run P W=_
   unfold Op.equalIn
   rw[Sem.run_bind,run_underlying hu,Result.andThen_ok]
   rfl
  refine fin (by simp [binOp,hr]) (by simp [binOp,hr]) (fun op hop W=>?_)
  ·rcases hop with rfl | rfl<;>simp [eqGuard]
 ·simp only[Den,bK]at hx hy
  obtain⟨rfl,_⟩:=hx
  subst hy
  unfold BC at ht
  split at ht<;>try (cases ht;done)
  rename_i hu
  have hr:∀ g c1 c2,(Op.equal t (.func g c1 c2) .nilFunc).run P W= .ok false W:=by
   intro g c1 c2
   unfold Op.equal
   show(Op.equalIn (9999+1) t _ _).run P W=_
   unfold Op.equalIn
   rw[Sem.run_bind,run_underlying hu,Result.andThen_ok]
   rfl
  refine fin (by simp [binOp,hr]) (by simp [binOp,hr]) (fun op hop W=>?_)
  ·rcases hop with rfl | rfl<;>simp [eqGuard]
 ·cases ht
theorem Jp {P:Program} {o:Oper} {fr:Fr} {kb:KB} {K:V->Prop} (h:yC P o fr kb K) {σ:Sg} {E:EH} {n:Nat} {a:Act} (hf:eu σ E fr n a) {W0:World} (hi:Inv σ E kb W0):
  ∃ v x,(∀ W,(execOp a.eval o).run P W= .ok (.value x) W)/\Den σ E v x/\K v:=by
 have si:(match mS P fr o with | some v=>K v | none=>False)->∃ v x,(∀ W,(execOp a.eval o).run P W= .ok (.value x) W)/\Den σ E v x/\K v:=by
  intro h
  split at h
  ·rename_i v hv
   obtain⟨x,h1,h2⟩:=M3 hv hf
   exact⟨v,x,h1,h2,h⟩
  ·exact h.elim
 have M1:(match mS P fr o with | some v=>K v | none=>rp P o fr K)->∃ v x,(∀ W,(execOp a.eval o).run P W= .ok (.value x) W)/\Den σ E v x/\K v:=by
  intro h
  split at h
  ·rename_i v hv
   obtain⟨x,h1,h2⟩:=M3 hv hf
   exact⟨v,x,h1,h2,h⟩
  ·exact yg h hf
 obtain⟨dst,op,ty,pos,after,guard⟩:=o
 unfold yC at h
 simp only at h
 split at h
 ·split at h
  ·rename_i x v hv;exact⟨v,_,fun W=>rfl,mU hf hv,h⟩
  ·exact h.elim
 ·split at h
  ·rename_i x v hv;exact⟨v,_,fun W=>rfl,mU hf hv,h⟩
  ·exact h.elim
 ·rename_i c x y
  split at h
  ·rename_i hc
   have eY:=bW hf hc
   simp only[Den]at eY
   split at h
   ·rename_i v hv;exact⟨v,_,fun W=>by simp [execOp,eY,asBool],mU hf hv,h⟩
   ·exact h.elim
  ·rename_i hc
   have eY:=bW hf hc
   simp only[Den]at eY
   split at h
   ·rename_i v hv;exact⟨v,_,fun W=>by simp [execOp,eY,asBool],mU hf hv,h⟩
   ·exact h.elim
  ·rename_i b hc
   have eY:=bW hf hc
   simp only[Den]at eY
   split at h
   ·rename_i u v hu hv
    split at h
    ·rename_i w hw
     exact⟨w,_,fun W=>by simp [execOp,eY,asBool],adm hw (bW hf hu) (bW hf hv),h⟩
    ·exact h.elim
   ·exact h.elim
  ·exact h.elim
 ·rename_i x
  have same:∀{v:V},ev fr x=some v->K v->(∀ y,Den σ E v y->(∃ b o,y= .pointer (some ⟨b,o,none⟩))∨(∃ f first cap,y= .func (.func f) first cap))->
    ∃ v y,(∀ W,(execOp a.eval {dst,op:=.nilCheck x,type:=ty,pos,after,guard }).run P W= .ok (.value y) W)/\Den σ E v y/\K v:=by
   intro v hv hK hs
   have hx':=bW hf hv
   rcases hs _ hx' with ⟨b,o,e⟩ | ⟨f,first,cap,e⟩
   ·exact⟨v,a.eval x,fun W=>by simp [execOp,e],hx',hK⟩
   ·exact⟨v,a.eval x,fun W=>by simp [execOp,e],hx',hK⟩
  split at h
  ·rename_i hx;exact same hx h (fun y hy=>by simp only[Den]at hy;obtain⟨r,_,rfl⟩:=hy;exact .inl ⟨_,_,rfl⟩)
  ·rename_i hx;exact same hx h (fun y hy=>by simp only[Den]at hy;obtain⟨r,_,rfl⟩:=hy;exact .inl ⟨_,_,rfl⟩)
  ·rename_i hx;exact same hx h (fun y hy=>by simp only[Den]at hy;obtain⟨r,_,rfl⟩:=hy;exact .inl ⟨_,_,rfl⟩)
  ·rename_i hx;exact same hx h (fun y hy=>by simp only[Den]at hy;obtain⟨r,_,rfl⟩:=hy;exact .inl ⟨_,_,rfl⟩)
  ·rename_i hx;exact same hx h (fun y hy=>by simp only[Den]at hy;obtain⟨b,off,rfl,_⟩:=hy;exact .inl ⟨_,_,rfl⟩)
  ·rename_i o hx
   obtain⟨e,rfl,h⟩:=h
   have e1:=bW hf hx
   simp only[Den]at e1
   rcases e1 with ⟨e1,_⟩ | ⟨e',b,he,e1,e2⟩
   ·cases e1
   ·cases he
    refine⟨_,a.eval x,fun W=>by simp [execOp,e1],?_,h⟩
    simp only[Den]
    exact⟨b,0,e1,e2⟩
  ·rename_i hx;exact same hx h (fun y hy=>by simp only[Den]at hy;obtain⟨vs,rfl,_⟩:=hy;exact .inr ⟨_,_,_,rfl⟩)
  ·rename_i hx;exact same hx h (fun y hy=>by simp only[Den,bK]at hy;exact .inr ⟨_,_,_,hy.1⟩)
  ·rename_i hx;exact same hx h (fun y hy=>by simp only[Den]at hy;exact .inr ⟨_,_,_,hy⟩)
  ·exact h.elim
 ·split at h
  ·rename_i s x m v hv
   obtain⟨u,z,h1,h2,h3⟩:=X2 h (bW hf hv)
   exact⟨u,z,fun W=>by simp [execOp,h1],h2,h3⟩
  ·exact h.elim
 ·split at h
  ·rename_i t x i v u hv hu
   obtain⟨w,z,h1,h2,h3⟩:=Z9 h hi (bW hf hv) (mU hf hu)
   exact⟨w,z,fun W=>by simp [execOp,h1],h2,h3⟩
  ·exact h.elim
 ·split at h
  ·rename_i t x lo hi' v l hh hv hl Hh
   obtain⟨w,z,h1,h2,h3⟩:=aeD h hi (bW hf hv) (xG hf hl) (xG hf Hh)
   exact⟨w,z,fun W=>by simp [execOp,h1],h2,h3⟩
  ·exact h.elim
 ·split at h
  ·rename_i t x lo hi' m v l hh mm hv hl Hh hm
   obtain⟨w,z,h1,h2,h3⟩:=aeC h (bW hf hv) (xG hf hl) (xG hf Hh) (xG hf hm)
   exact⟨w,z,fun W=>by have:=h1 W;simp only[Option.map_some]at this;simp [execOp,this],h2,h3⟩
  ·exact h.elim
 ·split at h
  ·rename_i t x v hv
   obtain⟨w,z,h1,h2,h3⟩:=Wk h (bW hf hv)
   exact⟨w,z,fun W=>by simp [execOp,h1],h2,h3⟩
  ·exact h.elim
 ·split at h
  ·rename_i t x m u hu
   obtain⟨v,hv,hu⟩:=kP.1 hu
   obtain⟨z,h1,h2⟩:=X3 hu (bW hf hv)
   exact⟨u,z,fun W=>by simp [execOp,h1],h2,h⟩
  ·exact h.elim
 ·split at h
  ·rename_i t x i l u hv hu
   obtain⟨w,z,h1,h2,h3⟩:=XU h (bW hf hv) (mU hf hu)
   exact⟨w,z,fun W=>by simp [execOp,h1],h2,h3⟩
  ·exact si h
 ·split at h
  ·rename_i x m l hv
   split at h
   ·rename_i v hm
    have hx:=bW hf hv
    simp only[Den]at hx
    obtain⟨vs,hx,hD⟩:=hx
    obtain⟨y,hy,hy2⟩:=hD.get hm
    exact⟨v,y,fun W=>by simp [execOp,hx,Instr.extract,hy],hy2,h⟩
   ·exact h.elim
  ·exact h.elim
 ·split at h
  ·rename_i t parts x1 ps hps
   split at h
   ·rename_i l hl
    obtain⟨z,h1,h2⟩:=WL hl (Gj hf hps)
    refine⟨_,z,fun W=>?_,h2,h⟩
    have e:(parts.toList.map fun x=>(x.1,a.eval x.2)).toArray=parts.map fun x=>(x.1,a.eval x.2):=by
     apply Array.ext';simp
    have:=h1 W
    rw[show(parts.toList.map fun(i,x)=>(i,a.eval x))=parts.toList.map (fun x=>(x.1,a.eval x.2))from rfl,e]at this
    simp [execOp,this]
   ·exact h.elim
  ·exact h.elim
 ·split at h
  ·rename_i f first cap x1 x2 vs Y7 hvs
   have hD:=AU hf hvs
   have Y8:first=#[]:=by apply Array.ext';simpa using Y7
   subst Y8
   refine⟨_,_,fun W=>by simp [execOp,Instr.makeFunc];rfl,?_,h⟩
   simp only[Den]
   exact⟨_,by congr 1;apply Array.ext';simp,hD⟩
  ·exact h.elim
 ·rename_i c
  split at h
  case h_2=>exact si h
  rename_i x t j7 hargs lz
  obtain⟨callee,args,argTypes⟩:=c
  simp only at j7 hargs lz
  subst j7
  have pg:args=#[x]:=by apply Array.ext';simpa using hargs
  have ph:argTypes=#[t]:=by apply Array.ext';simpa using lz
  subst pg;subst ph
  have HY:∀{v:V},ev fr x=some v->vI P t v K->∃ v y,(∀ W,(execOp a.eval {dst,op:=.call ⟨.builtin .len,#[x],#[t]⟩,type:=ty,pos,after,guard }).run P W= .ok (.value y) W)/\Den σ E v y/\K v:=by
   intro v hv h
   obtain⟨w,z,h1,h2,h3⟩:=aay h (bW hf hv) ty
   exact⟨w,z,fun W=>by simp [execOp,resolve,invoke,builtin,h1],h2,h3⟩
  split at h<;>try exact h.elim
  rename_i v hv
  split at h
  ·exact HY hv h
  ·split at h
   ·exact HY hv h
   ·exact HY hv h
   ·exact si h
 ·rename_i t x y _
  split at h<;>try exact h.elim
  rename_i u v hx hy
  split at h
  ·rename_i HD
   exact⟨_,_,fun W=>by
    have:=S5 (x:=x) (y:=y) HD (bW hf hx) (bW hf hy) .eql (.inl rfl) W
    simp only[execOp]
    rw[Sem.run_bind,this,Result.andThen_ok]
    rfl,by simp [Den],h⟩
  ·rename_i xs ys _
   split at h<;>try exact h.elim
   rename_i b hg he
   exact⟨_,_,fun W=>by
    have:=SU (x:=x) (y:=y) hg he (bW hf hx) (bW hf hy) .eql (.inl rfl) W
    simp only[execOp]
    rw[Sem.run_bind,this,Result.andThen_ok]
    rfl,Qa _ _ _ _,h⟩
  ·exact M1 h
 ·rename_i t x y _
  split at h<;>try exact h.elim
  rename_i u v hx hy
  split at h
  ·rename_i HD
   exact⟨_,_,fun W=>by
    have:=S5 (x:=x) (y:=y) HD (bW hf hx) (bW hf hy) .neq (.inr rfl) W
    simp only[execOp]
    rw[Sem.run_bind,this,Result.andThen_ok]
    rfl,by simp [Den],h⟩
  ·rename_i xs ys _
   split at h<;>try exact h.elim
   rename_i b hg he
   exact⟨_,_,fun W=>by
    have:=SU (x:=x) (y:=y) hg he (bW hf hx) (bW hf hy) .neq (.inr rfl) W
    simp only[execOp]
    rw[Sem.run_bind,this,Result.andThen_ok]
    rfl,Qa _ _ _ _,h⟩
  ·exact M1 h
 ·split at h
  ·exact yg h hf
  ·exact si h
 ·split at h
  ·exact yg h hf
  ·exact si h
 ·split at h
  ·exact yg h hf
  ·exact si h
 ·split at h
  ·exact yg h hf
  ·exact si h
 ·exact si h
structure Vh (n:Int):Prop where
 lo:0<=n
 hi:n<=65536
def xu (P:Program) (t:TypeId):Option TypeId:=
 match P.underlying t with
 |some (.chan _ e)=>some e
 |_=>none
theorem Nc {P:Program} {t e:TypeId} (h:xu P t=some e):∃ d,P.underlying t=some (.chan d e):=by
 unfold xu at h
 split at h
 ·rename_i d e' h1
  cases h;exact⟨d,h1⟩
 ·cases h
def Ia (P:Program) (t:TypeId) (n:V) (kb:KB) (K:V->KB->Prop):Prop:=
 match xu P t with
 |some e=>match np P e,mw P 20 e,P.info? e,n with
  |some agg,some fU,some inf,.int Z m=>match Nat.ble inf.bytes 65536 with
   |true=>Vh m/\K (.ch kb.length) (kb++[.ch agg (wk fU) m.toNat []])
   |false=>False
  |_,_,_,_=>False
 |none=>False
theorem aaK {P:Program} {t:TypeId} {n:V} {kb:KB} {K:V->KB->Prop} (h:Ia P t n kb K) {σ:Sg} {E:EH} {W:World} (hi:Inv σ E kb W) {x:Value} (hx:Den σ E n x):
  ∃ v y σ' kb' W',(Instr.makeChan t x).run P W= .ok y W'/\Step σ E kb W σ' E kb' W'/\Den σ' E v y/\K v kb':=by
 unfold Ia at h
 split at h<;>try exact h.elim
 rename_i e he
 obtain⟨d,hu⟩:=Nc he
 split at h<;>try exact h.elim
 rename_i agg fU inf m ha hk lA
 split at h<;>try exact h.elim
 rename_i hb
 obtain⟨⟨hlo,hhi⟩,h⟩:=h
 have hb:=Nat.le_of_ble_eq_true hb
 simp only[Den]at hx
 subst hx
 have hmul:(inf.bytes:Int)*m<=65536*65536:=Int.mul_le_mul (by omega) hhi hlo (by omega)
 have ah9:¬ (m<0∨m > Z.max∨(inf.bytes:Int)*m > 2 ^ 48 - 112):=by
  have:Z.max=9223372036854775807:=by decide
  rw[this];omega
 refine⟨_,.chan (some W.heap.size),_,_,W.alloc (.chan m.toNat #[] false 0 0 false),?_,hi.alloc (.chan m.toNat #[] false 0 0 false) ⟨W.heap.size,0,0⟩ (.ch agg (wk fU) m.toNat []) (fun b hb=>hb) ⟨wl.nil,bt _,#[],0,0,?_,by simp [fw]⟩,?_,h⟩
 ·unfold Instr.makeChan
  have hc1:¬ (m<0∨9223372036854775807<m∨281474976710544<(inf.bytes:Int)*m):=by omega
  simp [asInt,asIntOf,run_underlying hu,typeInfo,lA,hc1]
 ·show(W.heap.push _)[W.heap.size]? =_
  simp
 ·simp only[Den]
  exact⟨⟨W.heap.size,0,0⟩,by rw[<- hi.len];simp,rfl⟩
def FE (P:Program) (t:TypeId) (m:V) (kb:KB) (K:V->Prop):Prop:=
 match xu P t with
 |some _=>match m with
  | .ch i=>match kb[i]? with
   |some (.ch _ _ _ l)=>K (.int Z (l.length:Int))
   |_=>False
  |_=>False
 |none=>False
theorem WZ {P:Program} {t:TypeId} {m:V} {kb:KB} {K:V->Prop} (h:FE P t m kb K) {σ:Sg} {E:EH} {W:World} (hi:Inv σ E kb W) {x:Value} (hx:Den σ E m x) (ty:TypeId):
  ∃ v z,(Builtin.len_ #[t] ty #[x]).run P W= .ok z W/\Den σ E v z/\K v:=by
 unfold FE at h
 split at h<;>try exact h.elim
 rename_i q ht
 obtain⟨d,hu⟩:=Nc ht
 split at h<;>try exact h.elim
 rename_i i
 split at h<;>try exact h.elim
 rename_i agg sz cap l hl
 simp only[Den]at hx
 obtain⟨r,hr,rfl⟩:=hx
 obtain⟨_,_,bf,s,rr,g1,g2⟩:=hi.obj i r _ hr hl
 have fl:(getObj r.blk).run P W= .ok (.chan cap bf false s rr false) W:=by simp [getObj,Sem.run,g1]
 have:=g2.len
 exact⟨_,_,by simp [Builtin.len_,run_underlying hu,fl];rfl,by simp only[Den,goInt];rw[show bf.size=l.length by simpa using this],h⟩
def HZ (P:Program) (t:TypeId) (m:V) (kb:KB) (K:V->Prop):Prop:=
 match xu P t with
 |some _=>FE P t m kb K
 |none=>Ie P t m kb K
theorem aaz {P:Program} {t:TypeId} {m:V} {kb:KB} {K:V->Prop} (h:HZ P t m kb K) {σ:Sg} {E:EH} {W:World} (hi:Inv σ E kb W) {x:Value} (hx:Den σ E m x) (ty:TypeId):
  ∃ v z,(Builtin.len_ #[t] ty #[x]).run P W= .ok z W/\Den σ E v z/\K v:=by
 unfold HZ at h
 split at h
 ·exact WZ h hi hx ty
 ·exact aaN h hi hx ty
def JX (P:Program) (e:TypeId) (i:Nat) (v:V) (kb:KB) (K:V->KB->Prop):Prop:=
 match np P e,fA P e,(P.info? e).bind (·.zero)with
 |some agg,some n,some _=>match (match v with | .agg _=>agg | _=> !agg)with
  |true=>cellsD P e v kb (fun ds kb=>match kb[i]? with
   |some (.ch iA sz cap l)=>match (agg == iA),cp n sz with
    |true,true=>(l.length<cap->K (.υ [.lit Z 0,.ff]) (kb.set i (.ch iA sz cap (l++[ds]))))/\(¬ l.length<cap->K (.υ [.lit Z (-1),.ff]) kb)
    |_,_=>False
   |_=>False)
  |false=>False
 |_,_,_=>False
def JB (P:Program) (e:TypeId) (i:Nat) (kb:KB) (K:V->KB->Prop):Prop:=
 match np P e,mw P 20 e,(P.info? e).bind (·.zero)with
 |some agg,some fU,some _=>match kb[i]? with
  |some (.ch iA sz cap l)=>match (agg == iA),cp (wk fU) sz with
   |true,true=>(∀ c l',l=c::l'->m_ c 0 fU (fun vs=>oV agg vs (fun v=>K (.υ [.lit Z 0,.tt,v]) (kb.set i (.ch iA sz cap l')))))/\(l=[]->wM P e agg (fun v=>K (.υ [.lit Z (-1),.ff,v]) kb))
   |_,_=>False
  |_=>False
 |_,_,_=>False
theorem fw.cons_inv {E:EH} {agg:Bool} {buf:Array Value} {c:List D} {l:List (List D)} (h:fw E agg buf.toList (c::l)):0<buf.size/\(∃ ys,buf.getD 0 undef=dJ agg ys/\a_ E c ys)/\fw E agg (buf.extract 1 buf.size).toList l:=by
 obtain⟨bl⟩:=buf
 cases bl with
 |nil=>simp only[fw]at h;cases h
 |cons v vs=>
  simp only[fw]at h
  obtain⟨c',l',h0,h1,h2⟩:=h
  cases h0
  refine⟨by simp,?_,?_⟩
  ·obtain⟨ys,e1,e2⟩:=h1
   exact⟨ys,by simp [e1],e2⟩
  ·simpa [List.extract]using h2
theorem K_ {P:Program} {e:TypeId} {z:Value} (h:(P.info? e).bind (·.zero)=some z) (W:World):(zeroValue e).run P W= .ok z W:=by
 obtain⟨it,hit,nK⟩:=kP.1 h
 simp [zeroValue,typeInfo,hit,nK]
theorem aex {P:Program} {e:TypeId} {i:Nat} {v:V} {kb:KB} {K:V->KB->Prop} (h:JX P e i v kb K) {σ:Sg} {E:EH} {W:World} (hi:Inv σ E kb W) {r:Re} (hr:σ[i]? =some r) {x:Value} (hx:Den σ E v x):
  ∃ cap buf s rr z,W.heap[r.blk]? =some (.chan cap buf false s rr false)/\(zeroValue e).run P W= .ok z W/\
   (buf.size<cap->∃ E' kb',Step σ E kb W σ E' kb' (W.setChan r.blk cap (buf.push x) false (s+1) rr false)/\K (.υ [.lit Z 0,.ff]) kb')/\
   (¬ buf.size<cap->∃ E' kb',Step σ E kb W σ E' kb' W/\K (.υ [.lit Z (-1),.ff]) kb'):=by
 unfold JX at h
 split at h<;>try exact h.elim
 rename_i agg n z ha hn hz
 split at h<;>try exact h.elim
 rename_i xQ
 have h0:=h
 obtain⟨E1,eH,ds,xs,s1,hc,hD,h,j8⟩:=vd h hi hx
 split at h<;>try exact h.elim
 rename_i iA sz cap l hl
 split at h<;>try exact h.elim
 rename_i c1 c2
 have e1:agg=iA:=by simpa using c1
 have e2:=cU c2
 subst e1;subst e2
 obtain⟨hw,hlen,bf,s,rr,g1,g2⟩:=s1.inv.obj i r _ hr hl
 have cd:=g2.len
 have cd:bf.size=l.length:=by simpa using cd
 rw[hn]at j8
 have j8:=bb.inj j8
 have hval:x=dJ agg xs:=by
  by_cases hv:∃ vs,v= .agg vs
  ·obtain⟨vs,rfl⟩:=hv
   simp only at xQ
   subst xQ
   simp only[Den]at hx
   obtain⟨us,rfl,_⟩:=hx
   simp only[Value.cells]at hc
   simp [dJ,hc]
  ·have xQ:agg=false:=by
    cases v<;>first | (exact absurd ⟨_,rfl⟩ hv) | simpa using xQ
   subst xQ
   have hone:x.oneCell'=true:=one_den (Na h0 (fun vs q=>hv ⟨vs,q⟩)) hx
   have hxz:xs=[x]:=by
    have nK:x.cells=#[x]:=by cases x<;>simp_all [Value.cells,lU]
    rw[nK]at hc
    have:=congrArg Array.toList hc
    simpa using this.symm
   simp [dJ,hxz]
 have hlt:r.blk<W.heap.size:=(Array.getElem?_eq_some_iff.1 g1).1
 refine⟨cap,bf,s,rr,z,g1,K_ hz W,fun hroom=>?_,fun hfull=>⟨E1,eH,s1,h.2 (by omega)⟩⟩
 refine⟨E1,_,s1.trans (s1.inv.set (o':=.ch agg n cap (l++[ds])) hr hl rfl rfl rfl (by simp [World.setChan]) (fun b hb=>?_) (fun b hb=>hb) ⟨?_,?_,bf.push x,s+1,rr,?_,?_⟩),h.1 (by omega)⟩
 ·simp only[owned]at hb
  show(W.heap.setIfInBounds r.blk _)[b]? =_
  rw[Array.getElem?_setIfInBounds_ne (fun e=>hb e.symm)]
 ·exact hw.append (fun y hy=>by simp at hy;subst hy;rw[<- hD.len];omega)
 ·simp;omega
 ·show(W.heap.setIfInBounds r.blk _)[r.blk]? =_
  simp [hlt]
 ·rw[Array.toList_push]
  exact g2.snoc ⟨xs,hval,hD⟩
theorem adY {P:Program} {e:TypeId} {i:Nat} {kb:KB} {K:V->KB->Prop} (h:JB P e i kb K) {σ:Sg} {E:EH} {W:World} (hi:Inv σ E kb W) {r:Re} (hr:σ[i]? =some r):
  ∃ cap buf s rr z,W.heap[r.blk]? =some (.chan cap buf false s rr false)/\(zeroValue e).run P W= .ok z W/\
   (0<buf.size->∃ u kb',Step σ E kb W σ E kb' (W.setChan r.blk cap (buf.extract 1 buf.size) false s (rr+1) false)/\Den σ E u (buf.getD 0 undef)/\K (.υ [.lit Z 0,.tt,u]) kb')/\
   (buf=#[]->∃ u,Den σ E u z/\K (.υ [.lit Z (-1),.ff,u]) kb):=by
 unfold JB at h
 split at h<;>try exact h.elim
 rename_i agg fU z ha YU hz
 split at h<;>try exact h.elim
 rename_i iA sz cap l hl
 split at h<;>try exact h.elim
 rename_i c1 c2
 have e1:agg=iA:=by simpa using c1
 have e2:=cU c2
 subst e1;subst e2
 obtain⟨hw,hlen,bf,s,rr,g1,g2⟩:=hi.obj i r _ hr hl
 have hlt:r.blk<W.heap.size:=(Array.getElem?_eq_some_iff.1 g1).1
 refine⟨cap,bf,s,rr,z,g1,K_ hz W,fun hsome=>?_,fun hnone=>?_⟩
 ·cases l with
  |nil=>
   have:=g2.len
   simp at this
   subst this
   simp at hsome
  |cons c l'=>
   obtain⟨_,⟨ys,hv,hD⟩,qX⟩:=g2.cons_inv
   obtain⟨vs,xs,hK,GU,Hp,hxs⟩:=pB (σ:=σ) hD (h.1 c l' rfl)
   obtain⟨u,k1,k2,k3⟩:=uC hK GU
   have jo:ys.length=wk fU:=by rw[hD.len];exact hw c (by simp)
   have G_:ys=xs:=by
    apply lw
    intro q
    rcases jX q xs.length with hq | hq
    ·rw[bp hq]
     have:=hxs q _ (bp hq)
     simpa using this
    ·rw[gO hq,gO (by omega)]
   subst G_
   refine⟨u,_,hi.set (o':=.ch agg (wk fU) cap l') hr hl rfl rfl rfl (by simp [World.setChan]) (fun b hb=>?_) (fun b hb=>hb) ⟨hw.cons,?_,bf.extract 1 bf.size,s,rr+1,?_,qX⟩,?_,k1⟩
   ·simp only[owned]at hb
    show(W.heap.setIfInBounds r.blk _)[b]? =_
    rw[Array.getElem?_setIfInBounds_ne (fun e=>hb e.symm)]
   ·simp at hlen;omega
   ·show(W.heap.setIfInBounds r.blk _)[r.blk]? =_
    simp [hlt]
   ·rw[hv];exact k2
 ·subst hnone
  simp only[fw]at g2
  subst g2
  obtain⟨v,z',z1,z2,z3⟩:=DE (h.2 rfl) σ E W
  rw[K_ hz W]at z1
  cases z1
  exact⟨v,z2,z3⟩
abbrev bJ:=FuncId->List V->KB->(V->KB->Prop)->Prop
def bZ (P:Program) (X:bJ):Prop:=∀ f args kb K,X f args kb K->∀ σ E W xs,Inv σ E kb W->aq σ E args xs->
 Calls P f xs.toArray W (fun e W'=>∃ v r σ' E' kb',e= .returned v/\Step σ E kb W σ' E' kb' W'/\Den σ' E' r v/\K r kb')
def Bg (P:Program) (f:FuncId):Bool:=
 match P.funcs[f]? with
 |some fn=>fn.body.isSome && !(fn.name == "runtime.NumGoroutine")
 |none=>false
def Gb (P:Program) (X:bJ) (o:Oper) (fr:Fr) (kb:KB) (K:V->KB->Prop):Prop:=
 match o.op with
 | .load t x=>match ev fr x with | some ad=>nc P t ad kb (fun v=>K v kb) | none=>False
 | .store t x y=>match ev fr x,kR fr y with | some ad,some v=>Ki P t ad v kb (fun kb'=>K (.any undef) kb') | _,_=>False
 | .alloc t=>EV P t kb K
 | .lookup t x k ok=>match ev fr x,ev fr k with | some m,some u=>BR P t m u ok kb (fun v=>K v kb) | _,_=>False
 | .mapUpdate t x k y=>match ev fr x,ev fr k,kR fr y with | some m,some u,some v=>Dd P t m u v kb (fun kb'=>K (.any undef) kb') | _,_,_=>False
 | .insert t x k y=>match ev fr x,ev fr k,kR fr y with | some m,some u,some v=>Dd P t m u v kb (fun kb'=>K (.any undef) kb') | _,_,_=>False
 | .makeMap t none=>Ib P t kb K
 | .makeChan t x=>match ev fr x with | some n=>Ia P t n kb K | none=>False
 | .makeSlice t l c=>match ev fr l,ev fr c with | some n,some m=>Ic P t n m kb K | _,_=>False
 | .box t x=>match kR fr x with | some v=>Fl P t v kb K | none=>False
 | .buildSlice t len parts=>match vq fr parts.toList with | some ps=>Fp P t len ps kb K | none=>False
 | .convert src dst x=>match ev fr x with | some v=>Kj P src dst v kb K | none=>False
 | .call c=>match c.callee with
  | .builtin .append=>match c.args.toList,c.argTypes.toList with
   | [x,y],[t,u]=>match ev fr x,ev fr y with | some d,some s=>EY P t u d s kb K | _,_=>False
   |_,_=>False
  | .builtin .copy=>match c.args.toList,c.argTypes.toList with
   | [x,y],[t,u]=>match ev fr x,ev fr y with | some d,some s=>FQ P t d s kb K | _,_=>False
   |_,_=>False
  | .builtin .delete=>match c.args.toList,c.argTypes.toList with
   | [x,y],[t,u]=>match ev fr x,ev fr y with | some d,some s=>FX P t d s kb (fun kb'=>K (.υ []) kb') | _,_=>False
   |_,_=>False
  | .builtin .clear=>match c.args.toList,c.argTypes.toList with
   | [x],[t]=>match ev fr x with | some d=>FG P t d kb (fun kb'=>K (.υ []) kb') | _=>False
   |_,_=>False
  | .builtin .len=>match c.args.toList,c.argTypes.toList with
   | [x],[t]=>match ev fr x with | some d=>HZ P t d kb (fun v=>K v kb) | _=>False
   |_,_=>False
  | .value f=>match ev fr f,evs fr c.args.toList with
   |some (.fn g cap),some vs=>match Bg P g with | true=>X g (vs++cap) kb K | false=>False
   |_,_=>False
  |_=>False
 |_=>False
def pG (P:Program) (X:bJ) (o:Oper) (fr:Fr) (kb:KB) (K:V->KB->Prop):Prop:=
 match isPure P o.op with
 |true=>yC P o fr kb (fun v=>K v kb)
 |false=>Gb P X o fr kb K
def uR (σ:Sg) (E:EH) (kb:KB) (W:World) (a:Act) (o:Oper) (K:V->KB->Prop) (a':Act) (W':World):Prop:=
 ∃ σ' E' kb' v x,Step σ E kb W σ' E' kb' W'/\Den σ' E' v x/\a'=a.put o.dst x/\K v kb'
theorem k9 {P:Program} {o:Oper} {a:Act} {W:World} {next:Act->World->Prop} {Q:Exit->Act->World->Prop} {x:Value} {W':World} (h:(execOp a.eval o).run P W= .ok (.value x) W') (k:next (a.put o.dst x) W'):o.wp P a W next Q:=by
 unfold Oper.wp;rw[h];exact k
theorem vW {P:Program} {X:bJ} (hX:bZ P X) {o:Oper} {fr:Fr} {kb:KB} {K:V->KB->Prop} (h:pG P X o fr kb K) {σ:Sg} {E:EH} {n:Nat} {a:Act} (hf:eu σ E fr n a) {W:World} (hi:Inv σ E kb W) (Q:Exit->Act->World->Prop):
  o.wp P a W (uR σ E kb W a o K) Q:=by
 unfold pG at h
 split at h
 ·obtain⟨v,x,h1,h2,h3⟩:=Jp h hf hi
  exact k9 (h1 W) ⟨σ,E,kb,v,x,Step.refl hi,h2,rfl,h3⟩
 ·rename_i hpure
  clear hpure
  obtain⟨dst,op,ty,pos,after,guard⟩:=o
  unfold Gb at h
  simp only at h
  split at h
  ·split at h
   ·rename_i t x ad had
    obtain⟨v,y,h1,h2,h3⟩:=H4 h hi (bW hf had)
    exact k9 (by simp [execOp,h1]) ⟨σ,E,kb,v,y,Step.refl hi,h2,rfl,h3⟩
   ·exact h.elim
  ·split at h
   ·rename_i t x y x1 x2 ad v had hv
    obtain⟨E',kb',W',h1,h2,h3⟩:=ae_ h hi (bW hf had) (mU hf hv)
    unfold Oper.wp
    rw[show(execOp a.eval {dst,op:=.store t x y,type:=ty,pos,after,guard }).run P W= .ok .skip W' by simp [execOp,h1]]
    exact⟨σ,E',kb',.any undef,undef,h2,by simp [Den],rfl,h3⟩
   ·exact h.elim
  ·rename_i t
   obtain⟨v,x,σ',kb',W',h1,h2,h3,h4,_⟩:=Mw h hi
   exact k9 (by simp [execOp,h1]) ⟨σ',E,kb',v,x,h2,h3,rfl,h4⟩
  ·split at h
   ·rename_i t x k ok x1 x2 m u hm hu
    obtain⟨v,y,h1,h2,h3⟩:=Qi h hi (bW hf hm) (bW hf hu)
    exact k9 (by simp [execOp,h1]) ⟨σ,E,kb,v,y,Step.refl hi,h2,rfl,h3⟩
   ·exact h.elim
  ·split at h
   ·rename_i t x k y x1 x2 x3 m u v hm hu hv
    obtain⟨E',kb',W',h1,h2,h3⟩:=Us h hi (bW hf hm) (bW hf hu) (mU hf hv)
    unfold Oper.wp
    rw[show(execOp a.eval {dst,op:=.mapUpdate t x k y,type:=ty,pos,after,guard }).run P W= .ok .skip W' by simp [execOp,h1]]
    exact⟨σ,E',kb',.any undef,undef,h2,by simp [Den],rfl,h3⟩
   ·exact h.elim
  ·split at h
   ·rename_i t x k y x1 x2 x3 m u v hm hu hv
    obtain⟨E',kb',W',h1,h2,h3⟩:=Us h hi (bW hf hm) (bW hf hu) (mU hf hv)
    unfold Oper.wp
    rw[show(execOp a.eval {dst,op:=.insert t x k y,type:=ty,pos,after,guard }).run P W= .ok .skip W' by simp [execOp,h1]]
    exact⟨σ,E',kb',.any undef,undef,h2,by simp [Den],rfl,h3⟩
   ·exact h.elim
  ·rename_i t
   obtain⟨v,x,σ',kb',W',h1,h2,h3,h4⟩:=aaL h hi
   exact k9 (by simp [execOp,h1]) ⟨σ',E,kb',v,x,h2,h3,rfl,h4⟩
  ·split at h
   ·rename_i t x0 m hm
    obtain⟨v,x,σ',kb',W',h1,h2,h3,h4⟩:=aaK h hi (bW hf hm)
    exact k9 (by simp [execOp,h1]) ⟨σ',E,kb',v,x,h2,h3,rfl,h4⟩
   ·exact h.elim
  ·split at h
   ·rename_i t l c x1 x2 n m hn hm
    obtain⟨v,x,σ',kb',W',h1,h2,h3,h4⟩:=aaM h hi (bW hf hn) (bW hf hm)
    exact k9 (by simp [execOp,h1]) ⟨σ',E,kb',v,x,h2,h3,rfl,h4⟩
   ·exact h.elim
  ·split at h
   ·rename_i t x v hv
    obtain⟨u,y,σ',kb',W',h1,h2,h3,h4⟩:=WG h hi (mU hf hv)
    exact k9 (by simp [execOp,h1]) ⟨σ',E,kb',u,y,h2,h3,rfl,h4⟩
   ·exact h.elim
  ·split at h
   ·rename_i t len parts x1 ps hps
    obtain⟨u,y,σ',E',kb',W',h1,h2,h3,h4⟩:=WK h hi (Gj hf hps)
    have e:(parts.toList.map fun x=>(x.1,a.eval x.2)).toArray=parts.map fun x=>(x.1,a.eval x.2):=by
     apply Array.ext';simp
    rw[show(parts.toList.map fun(i,x)=>(i,a.eval x))=parts.toList.map (fun x=>(x.1,a.eval x.2))from rfl,e]at h1
    exact k9 (by simp [execOp,h1]) ⟨σ',E',kb',u,y,h2,h3,rfl,h4⟩
   ·exact h.elim
  ·split at h
   ·rename_i src dst' x v hv
    obtain⟨u,y,E',kb',W',h1,h2,h3,h4⟩:=afa h hi (bW hf hv)
    exact k9 (by simp [execOp,h1]) ⟨σ,E',kb',u,y,h2,h3,rfl,h4⟩
   ·exact h.elim
  ·rename_i c
   split at h
   ·rename_i j7
    split at h
    ·rename_i x y t u hargs lz
     split at h
     ·rename_i d s hd hs
      obtain⟨callee,args,argTypes⟩:=c
      simp only at j7 hargs lz
      subst j7
      have pg:args=#[x,y]:=by apply Array.ext';simpa using hargs
      have ph:argTypes=#[t,u]:=by apply Array.ext';simpa using lz
      subst pg;subst ph
      obtain⟨v,z,σ',kb',W',h1,h2,h3,h4⟩:=Wi h hi (bW hf hd) (bW hf hs) ty
      exact k9 (by simp [execOp,resolve,invoke,builtin,h1]) ⟨σ',E,kb',v,z,h2,h3,rfl,h4⟩
     ·exact h.elim
    ·exact h.elim
   ·rename_i j7
    split at h
    ·rename_i x y t u hargs lz
     split at h
     ·rename_i d s hd hs
      obtain⟨callee,args,argTypes⟩:=c
      simp only at j7 hargs lz
      subst j7
      have pg:args=#[x,y]:=by apply Array.ext';simpa using hargs
      have ph:argTypes=#[t,u]:=by apply Array.ext';simpa using lz
      subst pg;subst ph
      obtain⟨v,z,kb',W',h1,h2,h3,h4⟩:=Xj h hi (bW hf hd) (bW hf hs) u ty
      exact k9 (by simp [execOp,resolve,invoke,builtin,h1]) ⟨σ,E,kb',v,z,h2,h3,rfl,h4⟩
     ·exact h.elim
    ·exact h.elim
   ·rename_i j7
    split at h
    ·rename_i x y t u hargs lz
     split at h
     ·rename_i d s hd hs
      obtain⟨callee,args,argTypes⟩:=c
      simp only at j7 hargs lz
      subst j7
      have pg:args=#[x,y]:=by apply Array.ext';simpa using hargs
      have ph:argTypes=#[t,u]:=by apply Array.ext';simpa using lz
      subst pg;subst ph
      obtain⟨kb',W',h1,h2,h3⟩:=Xw h hi (bW hf hd) (bW hf hs) u ty
      exact k9 (by simp [execOp,resolve,invoke,builtin,h1]) ⟨σ,E,kb',.υ [],.tuple #[],h2,by simp [Den,aq],rfl,h3⟩
     ·exact h.elim
    ·exact h.elim
   ·rename_i j7
    split at h
    ·rename_i x t hargs lz
     split at h
     ·rename_i d hd
      obtain⟨callee,args,argTypes⟩:=c
      simp only at j7 hargs lz
      subst j7
      have pg:args=#[x]:=by apply Array.ext';simpa using hargs
      have ph:argTypes=#[t]:=by apply Array.ext';simpa using lz
      subst pg;subst ph
      obtain⟨kb',W',h1,h2,h3⟩:=W_ h hi (bW hf hd) ty
      exact k9 (by simp [execOp,resolve,invoke,builtin,h1]) ⟨σ,E,kb',.υ [],.tuple #[],h2,by simp [Den,aq],rfl,h3⟩
     ·exact h.elim
    ·exact h.elim
   ·rename_i j7
    split at h
    ·rename_i x t hargs lz
     split at h
     ·rename_i d hd
      obtain⟨callee,args,argTypes⟩:=c
      simp only at j7 hargs lz
      subst j7
      have pg:args=#[x]:=by apply Array.ext';simpa using hargs
      have ph:argTypes=#[t]:=by apply Array.ext';simpa using lz
      subst pg;subst ph
      obtain⟨v,z,h1,h2,h3⟩:=aaz h hi (bW hf hd) ty
      exact k9 (by simp [execOp,resolve,invoke,builtin,h1]) ⟨σ,E,kb,v,z,Step.refl hi,h2,rfl,h3⟩
     ·exact h.elim
    ·exact h.elim
   ·rename_i fo j7
    split at h
    ·rename_i g cap vs hg hvs
     split at h
     ·rename_i hb
      obtain⟨callee,args,argTypes⟩:=c
      simp only at j7 hvs
      subst j7
      have xU:=bW hf hg
      simp only[Den]at xU
      obtain⟨cs,Hf,hcs⟩:=xU
      have hD:=AU hf hvs
      have G8:=hX g _ kb K h σ E W _ hi (hD.append hcs)
      unfold Bg at hb
      split at hb
      ·rename_i fn hfn
       simp only[km,lR,beq_eq_false_iff_ne,ne_eq]at hb
       unfold Oper.wp
       have hrun:(execOp a.eval {dst,op:=.call ⟨.value fo,args,argTypes⟩,type:=ty,pos,after,guard }).run P W= .ok (.enter g (args.toList.map a.eval++cs).toArray) W:=by
        have e:(args.toList.map a.eval++cs).toArray=args.map a.eval++cs.toArray:=by apply Array.ext';simp
        obtain⟨body,hbody⟩:=Option.isSome_iff_exists.1 hb.1
        rw[e]
        simp [execOp,resolve,Deferred.ofValue,Hf,invoke,callFunc,hfn,hb.2,hbody]
       rw[hrun]
       refine G8.mono ?_
       rintro e W' ⟨v,r,σ',E',kb',rfl,h1,h2,h3⟩
       exact⟨σ',E',kb',r,v,h1,h2,rfl,h3⟩
      ·cases hb
     ·exact h.elim
    ·exact h.elim
   ·exact h.elim
  ·exact h.elim
def sB (ops:Array Oper) (o:Oper) (fr:Fr) (yes no:Fr->Prop):Prop:=
 match o.guard with
 |none=>yes fr
 |some (j,want)=>match (ops[j]?).bind (·.dst)with
  |some d=>match look fr d with
   |some .tt=>match want with | true=>yes fr | false=>no fr
   |some .ff=>match want with | true=>no fr | false=>yes fr
   |some (.sb b)=>(b=true->match want with | true=>yes ((d,.tt)::fr) | false=>no ((d,.tt)::fr))/\
    (b=false->match want with | true=>no ((d,.ff)::fr) | false=>yes ((d,.ff)::fr))
   |some (.any (.tuple _))=>no fr
   |_=>False
  |none=>no fr
theorem eu.uA {σ:Sg} {E:EH} {fr:Fr} {n:Nat} {a:Act} (h:eu σ E fr n a) {d:Nat} {v u:V} (hv:look fr d=some v) (hu:∀ x,Den σ E v x->Den σ E u x):eu σ E ((d,u)::fr) n a:=by
 refine⟨h.size,h.defers,fun t w hw=>?_⟩
 simp only[look]at hw
 split at hw
 ·rename_i hb
  have:=cU hb
  subst this
  cases hw
  obtain⟨x,h1,h2⟩:=h.get _ _ hv
  exact⟨x,h1,hu x h2⟩
 ·exact h.get t w hw
theorem vx {ops:Array Oper} {o:Oper} {fr:Fr} {yes no:Fr->Prop} (h:sB ops o fr yes no) {σ:Sg} {E:EH} {n:Nat} {a:Act} (hf:eu σ E fr n a):
  ∃ fr',eu σ E fr' n a/\((Region.wanted o (yielded ops a.tmps)=true/\yes fr')∨(Region.wanted o (yielded ops a.tmps)=false/\no fr')):=by
 unfold sB at h
 split at h
 ·rename_i hg
  exact⟨fr,hf,.inl ⟨by simp [Region.wanted,hg],h⟩⟩
 ·rename_i j want hg
  split at h
  ·rename_i d hd
   have key:∀ b,a.tmps[d]? =some (.bool b)->Region.wanted o (yielded ops a.tmps)=(b == want):=by
    intro b hb
    simp [Region.wanted,hg,yielded,hd,hb]
   split at h
   ·rename_i hl
    obtain⟨x,h1,h2⟩:=hf.get _ _ hl
    simp only[Den]at h2;subst h2
    cases want
    ·exact⟨fr,hf,.inr ⟨by rw[key _ h1];rfl,h⟩⟩
    ·exact⟨fr,hf,.inl ⟨by rw[key _ h1];rfl,h⟩⟩
   ·rename_i hl
    obtain⟨x,h1,h2⟩:=hf.get _ _ hl
    simp only[Den]at h2;subst h2
    cases want
    ·exact⟨fr,hf,.inl ⟨by rw[key _ h1];rfl,h⟩⟩
    ·exact⟨fr,hf,.inr ⟨by rw[key _ h1];rfl,h⟩⟩
   ·rename_i b hl
    obtain⟨x,h1,h2⟩:=hf.get _ _ hl
    simp only[Den]at h2;subst h2
    cases b
    ·have hf':eu σ E ((d,.ff)::fr) n a:=hf.uA hl (fun x hx=>by simpa [Den]using hx)
     have h':=h.2 rfl
     cases want
     ·exact⟨_,hf',.inl ⟨by rw[key _ h1];rfl,h'⟩⟩
     ·exact⟨_,hf',.inr ⟨by rw[key _ h1];rfl,h'⟩⟩
    ·have hf':eu σ E ((d,.tt)::fr) n a:=hf.uA hl (fun x hx=>by simpa [Den]using hx)
     have h':=h.1 rfl
     cases want
     ·exact⟨_,hf',.inr ⟨by rw[key _ h1];rfl,h'⟩⟩
     ·exact⟨_,hf',.inl ⟨by rw[key _ h1];rfl,h'⟩⟩
   ·rename_i vs hl
    obtain⟨x,h1,h2⟩:=hf.get _ _ hl
    simp only[Den]at h2;subst h2
    exact⟨fr,hf,.inr ⟨by simp [Region.wanted,hg,yielded,hd,h1],h⟩⟩
   ·exact h.elim
  ·rename_i hd
   exact⟨fr,hf,.inr ⟨by simp [Region.wanted,hg,yielded,hd],h⟩⟩
def wj (P:Program) (X:bJ) (n:Nat) (ops:Array Oper):List Oper->(Fr->KB->Prop)->Fr->KB->Prop
 | [],K,fr,kb=>K fr kb
 |o::rest,K,fr,kb=>sB ops o fr (fun fr=>pG P X o fr kb (fun v kb'=>kc n o.dst v fr (fun fr'=>wj P X n ops rest K fr' kb')))
  (fun fr=>kc n o.dst (.any undef) fr (fun fr'=>wj P X n ops rest K fr' kb))
structure Cx where
 σ:Sg
 E:EH
 kb:KB
 W:World
def jj (c:Cx) (n:Nat) (K:Fr->KB->Prop) (a:Act) (W:World):Prop:=
 ∃ σ E fr kb,Step c.σ c.E c.kb c.W σ E kb W/\eu σ E fr n a/\K fr kb
theorem uR.hat {c:Cx} {n:Nat} {σ:Sg} {E:EH} {kb:KB} {W:World} (hs:Step c.σ c.E c.kb c.W σ E kb W) {a:Act} {fr:Fr} (hf:eu σ E fr n a) {o:Oper} {K:Fr->KB->Prop} {a':Act} {W':World}
  (h:uR σ E kb W a o (fun v kb'=>kc n o.dst v fr (fun fr'=>K fr' kb')) a' W'):jj c n K a' W':=by
 obtain⟨σ',E',kb',v,x,h1,h2,rfl,h3⟩:=h
 obtain⟨τ,rfl⟩:=h1.pre
 obtain⟨fr',h4,h5⟩:=ni h3 (hf.mono h1.le) h2
 exact⟨_,E',fr',kb',hs.trans h1,h4,h5⟩
theorem CN {P:Program} {X:bJ} (hX:bZ P X) {c:Cx} {n:Nat} {ops:Array Oper} {Q:Exit->Act->World->Prop} {K:Fr->KB->Prop} (hQ:∀ a W,jj c n K a W->Q .normal a W):
  ∀{l:List Oper} {a:Act} {W:World},jj c n (wj P X n ops l K) a W->wpList P ops Q l a W
 | [],a,W,h=>hQ a W h
 |o::rest,a,W,h=>by
  obtain⟨σ,E,fr,kb,hs,hf,h⟩:=h
  simp only[wj]at h
  obtain⟨fr',hf',h | h⟩:=vx h hf
  ·unfold wpList
   rw[if_pos h.1]
   refine .inl ?_
   exact Oper.wp_mono (fun a' W' ha=>CN hX hQ (ha.hat hs hf')) (vW hX h.2 hf' hs.inv Q)
  ·unfold wpList
   rw[if_neg (by simp [h.1])]
   obtain⟨fG,h1,h2⟩:=ni h.2 hf' (σ:=σ) (E:=E) (x:=undef) (by simp [Den])
   exact CN hX hQ ⟨σ,E,fG,kb,hs,h1,h2⟩
def qx (P:Program) (ops:Array Oper) (Q:Exit->Act->World->Prop) (G:Array Bool->Nat->World->World->Prop):Nat->Array Bool->Act->World->Prop
 | 0,listed,a,w=>Region.ready .any ops listed=[]/\Q .normal a w
 |fuel+1,listed,a,w=>
  (Region.ready .any ops listed=[]->Q .normal a w)/\
  ∀ i∈Region.ready .any ops listed,wpOp P ops Q i (fun a' w'=>G listed i w w'/\qx P ops Q G fuel (listed.setIfInBounds i true) a' w') a w
theorem qx.any {P:Program} {ops:Array Oper} {Q:Exit->Act->World->Prop} {G:Array Bool->Nat->World->World->Prop}:∀{fuel:Nat} {listed:Array Bool} {a:Act} {w:World},qx P ops Q G fuel listed a w->wpAny P .any ops Q fuel listed a w
 | 0,_,_,_,h=>h
 |fuel+1,_,_,_,h=>⟨h.1,fun i hi=>wpOp_mono (fun a' w' h'=>h'.2.any) (h.2 i hi)⟩
theorem qx.weaken {P:Program} {ops:Array Oper} {Q:Exit->Act->World->Prop} {G G':Array Bool->Nat->World->World->Prop} (hG:∀ l i w w',G l i w w'->G' l i w w'):∀{fuel:Nat} {listed:Array Bool} {a:Act} {w:World},qx P ops Q G fuel listed a w->qx P ops Q G' fuel listed a w
 | 0,_,_,_,h=>h
 |fuel+1,_,_,_,h=>⟨h.1,fun i hi=>wpOp_mono (fun a' w' h'=>⟨hG _ _ _ _ h'.1,h'.2.weaken hG⟩) (h.2 i hi)⟩
def nH (P:Program) (ops:Array Oper) (i:Nat):Bool:=
 match ops[i]? with
 |some o=>isPure P o.op || (match o.op with | .load .. =>true | .lookup .. =>true | _=>false)
 |none=>false
def oK (l:List Nat):Nat:=l.foldr (fun i s=>iy s (2 ^ i)) 0
theorem vN:∀(l:List Nat) (i:Nat),(oK l).testBit i=decide (i∈l)
 | [],i=>by simp [oK]
 |a::l,i=>by
  have ih:=vN l i
  simp only[oK,List.foldr_cons]at ih ⊢
  show(List.foldr (fun i s=>iy s (2 ^ i)) 0 l ||| 2 ^ a).testBit i=_
  rw[Nat.testBit_or,ih,Nat.testBit_two_pow]
  by_cases h:a=i
  ·subst h;simp
  ·have h':¬ i=a:=fun e=>h e.symm
   simp [h,h']
structure fR where
 am:Nat
 rd:Nat
 wr:Nat
 vo:Bool
 al:Bool
def BB:Op->Bool
 | .alloc _=>true
 |_=>false
def EW (o:Oper):List Nat:=(o.after.toList.filter (Region.binds .any)).map (·.on)
def gL (P:Program) (ops:Array Oper) (i:Nat):fR:=
 match ops[i]? with
 |some o=>⟨oK (EW o),oK (o.looksAt ops),match o.dst with | some d=>2 ^ d | none=>0,nH P ops i,BB o.op⟩
 |none=>⟨0,0,0,false,false⟩
def iY (P:Program) (ops:Array Oper):Nat->Nat->List fR
 |_,0=>[]
 |i,n+1=>gL P ops i::iY P ops (i+1) n
def ru:List fR->Nat->Nat->Nat->Nat
 | [],_,_,acc=>acc
 |o::r,k,m,acc=>match Nat.testBit m k with
  |true=>ru r (k+1) m (iy acc o.am)
  |false=>ru r (k+1) m acc
def sq (plan:List fR):Nat->Nat->Nat
 | 0,m=>m
 |f+1,m=>sq plan f (ru plan 0 m m)
def direct (ops:Array Oper) (j i:Nat):Bool:=
 match ops[j]? with
 |some o=>o.after.any fun e=>Region.binds .any e && e.on == i
 |none=>false
theorem xl {P:Program} {ops:Array Oper} {j i:Nat}:(gL P ops j).am.testBit i=direct ops j i:=by
 unfold gL direct
 split
 ·rename_i o ho
  rw[vN,Bool.eq_iff_iff,decide_eq_true_eq,Array.any_eq_true']
  simp only[EW,eL,kM,Array.mem_toList_iff,km,beq_iff_eq]
  constructor
  ·rintro⟨e,⟨h1,h2⟩,h3⟩;exact⟨e,h1,h2,h3⟩
  ·rintro⟨e,h1,h2,h3⟩;exact⟨e,⟨h1,h2⟩,h3⟩
 ·simp
def waits (P:Program) (ops:Array Oper) (j i:Nat):Bool:=Nat.testBit (sq (iY P ops 0 ops.size) 12 (gL P ops j).am) i
theorem R8 {P:Program} {ops:Array Oper}:∀{n k q:Nat} {o:fR},(iY P ops k n)[q]? =some o->o=gL P ops (k+q)
 | 0,k,q,o,h=>by simp [iY]at h
 |n+1,k,0,o,h=>by simp [iY]at h;simpa using h.symm
 |n+1,k,q+1,o,h=>by
  have:=R8 (n:=n) (k:=k+1) (q:=q) (o:=o) (by simpa [iY]using h)
  rw[this];congr 1;omega
theorem Jc {S:Nat->Prop}:∀{l:List fR} {k m acc:Nat},(∀ i,acc.testBit i=true->S i)->(∀ q o,l[q]? =some o->m.testBit (k+q)=true->∀ i,o.am.testBit i=true->S i)->∀ i,(ru l k m acc).testBit i=true->S i
 | [],k,m,acc,h1,h2,i,hi=>h1 i (by simpa [ru]using hi)
 |o::r,k,m,acc,h1,h2,i,hi=>by
  have hr:∀ q o',r[q]? =some o'->m.testBit (k+1+q)=true->∀ i,o'.am.testBit i=true->S i:=fun q o' hq hm=>h2 (q+1) o' (by simpa using hq) (by rw[show k+(q+1)=k+1+q by omega];exact hm)
  simp only[ru]at hi
  split at hi
  ·rename_i hm
   refine Jc (acc:=iy acc o.am) (fun i hi=>?_) hr i hi
   have hi':(acc ||| o.am).testBit i=true:=hi
   rw[Nat.testBit_or,Bool.or_eq_true]at hi'
   rcases hi' with hi' | hi'
   ·exact h1 i hi'
   ·exact h2 0 o rfl hm i hi'
  ·exact Jc h1 hr i hi
theorem Nf {S:Nat->Prop} {plan:List fR} (hc:∀ q o,plan[q]? =some o->S q->∀ i,o.am.testBit i=true->S i):∀{f m:Nat},(∀ i,m.testBit i=true->S i)->∀ i,(sq plan f m).testBit i=true->S i
 | 0,m,h,i,hi=>h i (by simpa [sq]using hi)
 |f+1,m,h,i,hi=>Nf hc (f:=f) (m:=ru plan 0 m m) (Jc h (fun q o hq hm=>hc q o hq (h q (by simpa using hm)))) i (by simpa [sq]using hi)
theorem adh {plan:List fR}:∀{k acc:Nat},ru plan k 0 acc=acc:=by
 induction plan with
 |nil=>intro k acc;rfl
 |cons o r ih=>intro k acc;simp [ru,ih]
theorem Ng {plan:List fR}:∀{f:Nat},sq plan f 0=0
 | 0=>rfl
 |f+1=>by simp only[sq,adh];exact Ng
def Closed (ops:Array Oper) (listed:Array Bool):Prop:=∀ k i,listed.getD k false=true->direct ops k i=true->listed.getD i false=true
theorem SE {ops:Array Oper} {listed:Array Bool} {j:Nat} (hj:j∈Region.ready .any ops listed):∀ i,direct ops j i=true->listed.getD i false=true:=by
 obtain⟨_,o,ho,hall⟩:=mem_ready.1 hj
 intro i h
 unfold direct at h
 rw[ho]at h
 obtain⟨e,he,hb⟩:=Array.any_eq_true'.1 h
 simp only[km,beq_iff_eq]at hb
 rw[<- hb.2]
 exact hall e he hb.1
theorem JA {ops:Array Oper} {listed:Array Bool} {j:Nat} (hj:j∈Region.ready .any ops listed):listed.getD j false=false:=by
 have h0:=(mem_ready.1 hj).1
 rcases jX j listed.size with h' | h'
 ·simp [h']at h0 ⊢;exact h0
 ·simp [Array.getElem?_eq_none h']
theorem UR {P:Program} {ops:Array Oper} {listed:Array Bool} (hc:Closed ops listed) {j:Nat} (hj:∀ i,direct ops j i=true->listed.getD i false=true) {i:Nat} (h:waits P ops j i=true):listed.getD i false=true:=
 Nf (S:=fun i=>listed.getD i false=true) (fun q o hq hS i hi=>by
  have:=R8 hq
  rw[this,xl,c9]at hi
  exact hc q i hS hi) (fun i hi=>hj i (by rw[xl]at hi;exact hi)) i h
theorem Closed.empty {ops:Array Oper} {n:Nat}:Closed ops (Array.replicate n false):=fun k i h=>by
 simp only[Array.getD_eq_getD_getElem?,Array.getElem?_replicate]at h
 split at h<;>simp at h
theorem Closed.set {ops:Array Oper} {listed:Array Bool} (hc:Closed ops listed) {j:Nat} (hj:j∈Region.ready .any ops listed):Closed ops (listed.setIfInBounds j true):=by
 have up:∀ i,listed.getD i false=true->(listed.setIfInBounds j true).getD i false=true:=fun i hi=>by
  by_cases hji:j=i
  ·subst hji;rw[JA hj]at hi;cases hi
  ·rw[getD_set_ne false hji];exact hi
 intro k i hk hd
 by_cases hjk:j=k
 ·subst hjk;exact up i (SE hj i hd)
 ·rw[getD_set_ne false hjk]at hk
  exact up i (hc k i hk hd)
theorem QQ {P:Program} {ops:Array Oper} {listed:Array Bool} (hc:Closed ops listed) {i j:Nat} (hj:j∈Region.ready .any ops listed) (hi:i∈Region.ready .any ops listed):waits P ops j i=false:=by
 rw[Bool.eq_false_iff]
 intro h
 have:=UR hc (SE hj) h
 rw[JA hi]at this;cases this
def ng (P:Program) (ops:Array Oper) (listed:Array Bool) (i:Nat):Bool:=(iw ops.size).all fun k=> !(waits P ops k i) || (nH P ops k || !(listed.getD k false))
theorem ahT {P:Program} {ops:Array Oper} {k i:Nat} (h:waits P ops k i=true):k<ops.size:=by
 rcases jX k ops.size with h' | h'
 ·exact h'
 ·unfold waits gL at h
  rw[Array.getElem?_eq_none h']at h
  simp only[Ng]at h
  simp at h
theorem B6 {P:Program} {ops:Array Oper} {listed:Array Bool} {i:Nat}:ng P ops listed i=true ↔ ∀ k,waits P ops k i=true->nH P ops k=false->listed.getD k false=false:=by
 unfold ng
 simp only[List.all_eq_true,List.mem_range,Bool.or_eq_true,lR]
 constructor
 ·intro h k hk he
  rcases h k (ahT hk)with h1 | h1 | h1
  ·rw[hk]at h1;cases h1
  ·rw[he]at h1;cases h1
  ·exact h1
 ·intro h k _
  cases hk:waits P ops k i
  ·exact .inl rfl
  ·cases he:nH P ops k
   ·exact .inr (.inr (h k hk he))
   ·exact .inr (.inl rfl)
theorem Yh {listed:Array Bool} {j k:Nat} (h:(listed.setIfInBounds j true).getD k false=false):listed.getD k false=false:=by
 by_cases hjk:j=k
 ·subst hjk
  rcases jX j listed.size with h' | h'
  ·simp [h']at h
  ·simp [Array.getElem?_eq_none h']
 ·rw[getD_set_ne false hjk]at h;exact h
theorem IG {P:Program} {ops:Array Oper} {listed:Array Bool} {i j:Nat} (h:ng P ops listed i=true) (hw:waits P ops j i=false∨nH P ops j=true):ng P ops (listed.setIfInBounds j true) i=true:=by
 rw[B6]at h ⊢
 intro k hk he
 have hjk:j≠k:=fun e=>by
  subst e
  rcases hw with hw | hw
  ·rw[hk]at hw;cases hw
  ·rw[he]at hw;cases hw
 rw[getD_set_ne false hjk]
 exact h k hk he
theorem vQ {P:Program} {ops:Array Oper} {listed:Array Bool} {i j:Nat} (h:ng P ops (listed.setIfInBounds j true) i=true):ng P ops listed i=true:=by
 rw[B6]at h ⊢
 exact fun k hk he=>Yh (h k hk he)
theorem B7 {P:Program} {ops:Array Oper} {listed:Array Bool} {i j:Nat} (hj:j<listed.size) (he:nH P ops j=false) (h:ng P ops (listed.setIfInBounds j true) i=true):waits P ops j i=false:=by
 rw[B6]at h
 cases hw:waits P ops j i
 ·rfl
 ·have:=h j hw he
  simp [hj]at this
def YC (P:Program) (ops:Array Oper) (C:World->Prop) (o:Oper) (v:Value) (a:Act):Prop:=
 (Region.wanted o (yielded ops a.tmps)=true/\∀ w,C w->(execOp a.eval o).run P w= .ok (.value v) w)∨
 (Region.wanted o (yielded ops a.tmps)=false/\v=undef)
theorem YC.of_same {P:Program} {ops:Array Oper} {C:World->Prop} {o:Oper} {v:Value} {a a':Act} (hy:YC P ops C o v a) (he:execOp a'.eval o=execOp a.eval o)
  (hw:Region.wanted o (yielded ops a'.tmps)=Region.wanted o (yielded ops a.tmps)):YC P ops C o v a':=by
 unfold YC at*
 rw[he,hw]
 exact hy
theorem YC.wpOp {P:Program} {ops:Array Oper} {Q:Exit->Act->World->Prop} {C:World->Prop} {i:Nat} {o:Oper} {v:Value} {a:Act} (hi:ops[i]? =some o) (hy:YC P ops C o v a)
  {K:Act->World->Prop} {w:World} (hC:C w) (h:K (a.put o.dst v) w):wpOp P ops Q i K a w:=by
 unfold Go.wpOp
 simp only[hi]
 rcases hy with ⟨hw,hv⟩ | ⟨hw,rfl⟩
 ·simp only[hw,if_true,Oper.wp,hv w hC,Oper.upon];exact .inl h
 ·simp only[hw,Bool.false_eq_true,if_false];exact h
theorem ahZ {P:Program} {ops:Array Oper} {Q:Exit->Act->World->Prop} {C:World->Prop} {j:Nat} {oi oj:Oper} {v:Value} (hj:ops[j]? =some oj) (hap:oi.apart ops oj=true)
  (hsi:∀ cs b,oi.op≠.select cs b) (hsj:∀ cs b,oj.op≠.select cs b)
  (hQ:∀ c a w,Q (.panic c) (a.put oi.dst v) w->Q (.panic c) a w) {K:Act->World->Prop} {a:Act} {w:World}
  (hy:YC P ops C oi v a) (h:wpOp P ops Q j K (a.put oi.dst v) w):
  wpOp P ops Q j (fun a' w'=>YC P ops C oi v a'/\K (a'.put oi.dst v) w') a w:=by
 obtain⟨h1,h2,h3⟩:=Oper.apart_spec hap
 have keep:∀(a:Act),YC P ops C oi v a->∀ u,YC P ops C oi v (a.put oj.dst u):=fun a hy u=>
  hy.of_same (execOp_put oi hsi a oj.dst u h3) (wanted_put oi a oj.dst u h3)
 have aah:∀ d,YC P ops C oi v {a with defers:=d::a.defers }:=fun d=>hy.of_same rfl rfl
 unfold wpOp at*
 simp only[hj]at*
 rw[wanted_put oj a oi.dst v h1]at h
 split
 ·rename_i hw
  simp only[hw,if_true]at h
  rcases h with h | ⟨hasks,Zr⟩
  case inr=>exact .inr ⟨by unfold Oper.asks at*;rw[execOp_put oj hsj a oi.dst v h1]at hasks;exact hasks,Zr⟩
  refine .inl ?_
  unfold Oper.wp at*
  rw[execOp_put oj hsj a oi.dst v h1]at h
  generalize (execOp a.eval oj).run P w=r at*
  cases r with
  |ok n w'=>
   cases n<;>simp only[Oper.upon]at h ⊢
   case value u=>exact⟨keep a hy u,by rw[<- Act.put_comm a v u h2];exact h⟩
   case skip=>exact⟨keep a hy _,by rw[<- Act.put_comm a v undef h2];exact h⟩
   case defer d=>
    refine⟨keep _ (aah d) _,?_⟩
    rw[<- Act.put_comm _ v undef h2,<- Act.put_defers]
    exact h
   case enter f args=>
    refine Calls.mono h fun e w'' he=>?_
    cases e with
    |returned u=>exact⟨keep a hy u,by rw[<- Act.put_comm a v u h2];exact he⟩
    |panicked c=>exact hQ _ _ _ he
    |outgrown=>exact he
   case row row args=>exact Rows.mono h fun u w'' he=>⟨keep a hy u,by rw[<- Act.put_comm a v u h2];exact he⟩
  |halt x w'=>
   cases x<;>simp only[Oper.upon]at h ⊢
   case panic u=>exact hQ _ _ _ h
 ·rename_i hw
  simp only[hw]at h
  exact⟨keep a hy _,by rw[<- Act.put_comm a v undef h2];exact h⟩
theorem Gu {P:Program} {ops:Array Oper} {Q:Exit->Act->World->Prop} {G:Array Bool->Nat->World->World->Prop} {C:World->Prop} {i:Nat} {oi:Oper} {v:Value} (hi:ops[i]? =some oi)
  (hsel:∀(j:Nat) (o:Oper) cs b,ops[j]? =some o->o.op≠.select cs b) (hQ:∀ c a w,Q (.panic c) (a.put oi.dst v) w->Q (.panic c) a w)
  (hG:∀ l j w w',ng P ops l i=true->waits P ops j i=false->G l j w w'->C w->C w') (hrefl:∀ l w,G l i w w)
  (dT:∀ l j w w',j≠i->G (l.setIfInBounds i true) j w w'->G l j w w'):
  ∀(fuel:Nat) (listed:Array Bool) (a:Act) (w:World),
   (∀ j oj,ops[j]? =some oj->j≠i->listed.getD j true=false->(∀ e∈oj.after,Region.binds .any e=true->e.on≠i)->oi.apart ops oj=true)->
   Closed ops listed->i∈Region.ready .any ops listed->YC P ops C oi v a->C w->ng P ops listed i=true->waits P ops i i=false->
   qx P ops Q G fuel (listed.setIfInBounds i true) (a.put oi.dst v) w->qx P ops Q G (fuel+1) listed a w:=by
 intro fuel
 induction fuel with
 |zero=>
  intro listed a w _ hcl hr hy hC tW hii H
  refine⟨fun h=>(by rw[h]at hr;cases hr),fun j hj=>?_⟩
  by_cases hji:j=i
  ·subst hji;exact hy.wpOp hi hC ⟨hrefl _ w,H⟩
  ·have:=ready_mono hj hji
   rw[H.1]at this
   cases this
 |succ fuel ih=>
  intro listed a w hfree hcl hr hy hC tW hii H
  refine⟨fun h=>(by rw[h]at hr;cases hr),fun j hj=>?_⟩
  by_cases hji:j=i
  ·subst hji;exact hy.wpOp hi hC ⟨hrefl _ w,H⟩
  ·have h1:=H.2 j (ready_mono hj hji)
   obtain⟨Pn,oj,Ht,hall⟩:=mem_ready.1 hj
   have hnot:∀ e∈oj.after,Region.binds .any e=true->e.on≠i:=fun e he hb heq=>by
    have h1:=hall e he hb
    have h0:=(mem_ready.1 hr).1
    rw[heq]at h1
    rcases jX i listed.size with h' | h'
    ·simp [h']at h0 h1;rw[h0]at h1;cases h1
    ·simp [Array.getElem?_eq_none h']at h1
   have hw:=QQ (P:=P) hcl hj hr
   have h2:=ahZ Ht (hfree j oj Ht hji Pn hnot) (fun cs b=>hsel i oi cs b hi) (fun cs b=>hsel j oj cs b Ht) hQ hy h1
   have Y9:∀ k ok,ops[k]? =some ok->k≠i->(listed.setIfInBounds j true).getD k true=false->
     (∀ e∈ok.after,Region.binds .any e=true->e.on≠i)->oi.apart ops ok=true:=fun k ok hk hki hun hno=>by
    refine hfree k ok hk hki ?_ hno
    by_cases hjk:j=k
    ·subst hjk;exact Pn
    ·rw[getD_set_ne true hjk]at hun;exact hun
   refine wpOp_mono (fun a' w' h3=>⟨dT _ _ _ _ hji h3.2.1,ih (listed.setIfInBounds j true) a' w' Y9 (hcl.set hj) (ready_mono hr (Ne.symm hji)) h3.1 (hG _ j w w' (IG tW (.inl hii)) hw h3.2.1 hC) (IG tW (.inl hw)) hii ?_⟩) h2
   rw[Array.setIfInBounds_comm _ _ hji]
   exact h3.2.2
inductive Rd where
 |load (t:TypeId)
 |look (t:TypeId) (ok:Bool)
def yJ (o:Oper):Option (Rd×List Operand):=
 match o.op with
 | .load t x=>some (.load t,[x])
 | .lookup t x k ok=>some (.look t ok,[x,k])
 |_=>none
def rE:Rd->List Value->Sem Value
 | .load t,[a]=>Instr.loadAt t a
 | .look t ok,[m,k]=>Instr.lookup t m k ok
 |_,_=>stuck ""
def kC (P:Program) (r:Rd) (fS:List V) (kb:KB) (K:V->Prop):Prop:=
 match r,fS with
 | .load t,[ad]=>nc P t ad kb K
 | .look t ok,[m,k]=>BR P t m k ok kb K
 |_,_=>False
theorem Ju {P:Program} {r:Rd} {fS:List V} {kb:KB} {K:V->Prop} (h:kC P r fS kb K) {σ:Sg} {E:EH} {W:World} (hi:Inv σ E kb W) {as:List Value} (hd:aq σ E fS as):
  ∃ v x,(rE r as).run P W= .ok x W/\Den σ E v x/\K v:=by
 unfold kC at h
 split at h<;>try exact h.elim
 ·simp only[aq]at hd
  obtain⟨x,xs,rfl,h1,rfl⟩:=hd
  exact H4 h hi h1
 ·simp only[aq]at hd
  obtain⟨x,xs,rfl,h1,y,ys,rfl,h2,rfl⟩:=hd
  exact Qi h hi h1 h2
theorem Sw {o:Oper} {r:Rd} {xs:List Operand} (h:yJ o=some (r,xs)) (ρ:Operand->Value):execOp ρ o=(do pure (.value (<- rE r (xs.map ρ)))):=by
 unfold yJ at h
 split at h<;>try (cases h;done)
 ·rename_i hop;cases h;unfold execOp;rw[hop];rfl
 ·rename_i hop;cases h;unfold execOp;rw[hop];rfl
def tJ (fr:Fr):List Operand->Option (List V)
 | []=>some []
 |x::xs=>match ev fr x,tJ fr xs with
  |some v,some vs=>some (v::vs)
  |_,_=>none
theorem AT {σ:Sg} {E:EH} {fr:Fr} {n:Nat} {a:Act} (h:eu σ E fr n a):∀{xs:List Operand} {vs:List V},tJ fr xs=some vs->aq σ E vs (xs.map a.eval)
 | [],vs,hv=>by simp [tJ]at hv;subst hv;exact .nil
 |x::xs,vs,hv=>by
  simp only[tJ]at hv
  split at hv
  ·rename_i v us h1 h2
   cases hv
   exact .cons (bW h h1) (AT h h2)
  ·cases hv
structure jW where
 i:Nat
 r:Rd
 fS:List V
 v:V
structure lS (a b:Int):Prop where
 h:a=b
mutual
def nq:V->V->Prop
 | .int k n,.int k' m=>match decide (k=k')with | true=>lS n m | false=>False
 | .lit k n,.lit k' m=>match decide (k=k')with | true=>lS n m | false=>False
 | .sb a,.sb b=>a=b
 | .tt,.tt=>True
 | .ff,.ff=>True
 | .agg l,.agg m=>qu l m
 | .any (.slice none 0 0),.any (.slice none 0 0)=>True
 |a,b=>a=b
def qu:List V->List V->Prop
 | [],[]=>True
 | [a],[b]=>nq a b
 |a::l,b::m=>nq a b/\qu l m
 |_,_=>False
end
mutual
theorem KM:∀{a b:V},nq a b->a=b
 | .int k n,b,h=>by
  cases b<;>simp only[nq,reduceCtorEq]at h
  split at h
  ·rename_i hk;rw[of_decide_eq_true hk,h.h]
  ·exact h.elim
 | .lit k n,b,h=>by
  cases b<;>simp only[nq,reduceCtorEq]at h
  split at h
  ·rename_i hk;rw[of_decide_eq_true hk,h.h]
  ·exact h.elim
 | .sb a,b,h=>by cases b<;>simp only[nq,reduceCtorEq]at h;rw[h]
 | .tt,b,h=>by cases b<;>simp only[nq,reduceCtorEq]at h;rfl
 | .ff,b,h=>by cases b<;>simp only[nq,reduceCtorEq]at h;rfl
 | .agg l,b,h=>by
  cases b<;>simp only[nq,reduceCtorEq]at h
  rw[Uy h]
 | .any u,b,h=>by
  unfold nq at h
  split at h
  all_goals first
   |exact h
   |assumption
   | (rename_i e;cases e;done)
 | .ptr ..,b,h | .pa ..,b,h | .sl ..,b,h | .pe ..,b,h | .pw ..,b,h | .e0,b,h | .sa ..,b,h | .se ..,b,h | .dK ..,b,h | .aa _,b,h | .imp ..,b,h | .dat _,b,h | .υ _,b,h | .fn ..,b,h | .mp _,b,h | .ch _,b,h | .arr ..,b,h=>by simpa only[nq]using h
theorem Uy:∀{l m:List V},qu l m->l=m
 | [],m,h=>by cases m<;>simp only[qu]at h;rfl
 | [a],m,h=>by
  match m with
  | []=>simp only[qu]at h
  | [b]=>simp only[qu]at h;rw[KM h]
  |b::c::m=>simp only[qu]at h;exact h.2.elim
 |a::a'::l,m,h=>by
  match m with
  | []=>simp only[qu]at h
  | [b]=>simp only[qu]at h;exact h.2.elim
  |b::c::m=>simp only[qu]at h;rw[KM h.1,Uy h.2]
end
structure zH (cs:List D):Prop where
 h:∀ d∈cs,∃ v,d= .val v
def AE:List (List D)->Prop
 | []=>True
 | [p]=>zH p
 |p::ps=>zH p/\AE ps
theorem Np:∀{ps:List (List D)},AE ps->∀ p∈ps,zH p
 | [p],h,q,hq=>by rw[dQ]at hq;subst hq;exact h
 |p::r::ps,h,q,hq=>by
  rcases ey.1 hq with rfl | hq
  ·exact h.1
  ·exact Np h.2 q hq
def AM:List V->Option (List (List D))
 | []=>some []
 |v::vs=>match AM vs with
  |some ps=>match v with
   | .arr _ cs=>some (cs::ps)
   |v=>match V.nG v with | true=>some ps | false=>none
  |none=>none
def V.F2:V->Option (List (List D))
 | .agg l=>AM l
 |_=>none
theorem R7 {E E':EH}:∀{cs:List D},(∀ d∈cs,∃ v,d= .val v)->∀{xs ys:List Value},a_ E cs xs->a_ E' cs ys->xs=ys
 | [],_,xs,ys,h,k=>by simp only[a_]at h k;rw[h,k]
 |d::cs,hp,xs,ys,h,k=>by
  simp only[a_]at h k
  obtain⟨x,xs',rfl,h1,h2⟩:=h
  obtain⟨y,ys',rfl,k1,k2⟩:=k
  obtain⟨v,rfl⟩:=hp d iu
  simp only[bK]at h1 k1
  rw[h1.1,k1.1,R7 (fun d hd=>hp d (fM _ hd)) h2 k2]
def Lc (v:V):Prop:=∀(σ τ:Sg) (E E':EH) (x y:Value),Den σ E v x->Den (σ++τ) E' v y->x=y
theorem F3 {σ τ:Sg} {E E':EH}:∀{vs:List V} {ps:List (List D)},AM vs=some ps->(∀ p∈ps,zH p)->∀{xs ys:List Value},aT σ E vs xs->aT (σ++τ) E' vs ys->xs=ys
 | [],_,_,_,xs,ys,h,k=>by simp only[aT]at h k;rw[h,k]
 |v::vs,ps,hd,hp,xs,ys,h,k=>by
  simp only[AM]at hd
  split at hd<;>try (cases hd;done)
  rename_i qs Pv
  simp only[aT]at h k
  obtain⟨x1,x2,rfl,h1,h2⟩:=h
  obtain⟨y1,y2,rfl,k1,k2⟩:=k
  split at hd
  ·rename_i m cs
   simp only[bb.injEq]at hd
   subst hd
   rw[F3 Pv (fun p hq=>hp p (fM _ hq)) h2 k2]
   rcases h1 with ⟨x,rfl,_,h1⟩ | ⟨m',cs',e,_,h1⟩
   ·simp only[Den]at h1
   rcases k1 with ⟨y,rfl,_,k1⟩ | ⟨m'',ah3,e2,_,k1⟩
   ·simp only[Den]at k1
   cases e
   cases e2
   rw[R7 (hp _ iu).h h1 k1]
  ·split at hd<;>try (cases hd;done)
   rename_i hne _ YY
   simp only[bb.injEq]at hd
   subst hd
   rw[F3 Pv hp h2 k2]
   rcases h1 with ⟨x,rfl,_,h1⟩ | ⟨m',cs',e,_,_⟩
   ·rcases k1 with ⟨y,rfl,_,k1⟩ | ⟨m',cs',e,_,_⟩
    ·rw[AN YY h1 k1]
    ·exact absurd e (hne m' cs')
   ·exact absurd e (hne m' cs')
theorem Xz {v:V} {ps:List (List D)} (h:V.F2 v=some ps) (hp:AE ps):Lc v:=fun σ τ E E' x y h1 h2=>by
 unfold V.F2 at h
 split at h<;>try (cases h;done)
 simp only[Den]at h1 h2
 obtain⟨xs,rfl,h1⟩:=h1
 obtain⟨ys,rfl,h2⟩:=h2
 rw[F3 h (Np hp) h1 h2]
def HI:Rd->List V->Bool
 | .load _,[.dK _ _]=>true
 |_,_=>false
def sN (P:Program) (ops:Array Oper) (j:Nat) (kb:KB):List jW->Prop->Prop
 | [],K=>K
 | ⟨i,r,fS,u⟩::ls,K=>match waits P ops j i with
  |true=>sN P ops j kb ls K
  |false=>match V.nG u with
   |true=>kC P r fS kb (fun v=>nq v u)/\sN P ops j kb ls K
   |false=>match V.F2 u with
    |some ps=>(AE ps/\kC P r fS kb (fun v=>nq v u))/\sN P ops j kb ls K
    |none=>match HI r fS with
     |true=>kC P r fS kb (fun _=>True)/\sN P ops j kb ls K
     |false=>False
def yG (P:Program) (kb:KB):List jW->Prop->Prop
 | [],K=>K
 | ⟨_,.load t,fS,_⟩::ls,K=>kC P (.load t) fS kb (fun _=>True)/\yG P kb ls K
 |_:: _,_=>False
def Ze (kb:KB) (b:Nat):Bool:=match kb[b]? with
 |some (.cells l)=>cp l.length 8
 |_=>false
def vz (b:Nat):List Nat->Bool
 | []=>false
 |c::cs=>match cp b c with
  |true=>true
  |false=>vz b cs
theorem G4 {b:Nat}:∀{l:List Nat},vz b l=true->b∈l
 |c::cs,h=>by
  simp only[vz]at h
  split at h
  ·rename_i hb
   rw[cU hb];exact iu
  ·exact fM _ (G4 h)
def PJ (b:Nat) (l:List Nat):List Nat:=match vz b l with
 |true=>l
 |false=>b::l
def tV (bs:List Nat):jW->Bool
 | ⟨_,.load _,[.ptr b _],_⟩=>vz b bs
 | ⟨_,.load _,[.pe b _ _],_⟩=>vz b bs
 |_=>false
def vB (P:Program) (ops:Array Oper) (j:Nat) (kb:KB):List jW->List Nat
 | []=>[]
 | ⟨i,.load _,[.ptr b _],u⟩::ls=>match waits P ops j i,V.nG u,Ze kb b with
  |false,false,true=>PJ b (vB P ops j kb ls)
  |_,_,_=>vB P ops j kb ls
 | ⟨i,.load _,[.pe b _ _],u⟩::ls=>match waits P ops j i,V.nG u with
  |false,false=>PJ b (vB P ops j kb ls)
  |_,_=>vB P ops j kb ls
 |_::ls=>vB P ops j kb ls
def yF (P:Program) (bs:List Nat) (kb:KB):List jW->Prop->Prop
 | [],K=>K
 |l::ls,K=>match tV bs l with
  |true=>kC P l.r l.fS kb (fun _=>True)/\yF P bs kb ls K
  |false=>yF P bs kb ls K
def xV:List Nat->KB->KB
 | [],kb=>kb
 |b::bs,kb=>xV bs (kb.set b .dead)
def yX:List Nat->KB->KB->Option KB
 | [],_,kb'=>some kb'
 |b::bs,kb,kb'=>match yX bs (kb.set b .dead) kb' with
  |some k2=>match kb[b]?,k2[b]? with
   |some x,some .dead=>some (k2.set b x)
   |_,_=>none
  |none=>none
def PP:List jW->Bool
 | []=>true
 | ⟨_,.load _,_,_⟩::ls=>PP ls
 |_:: _=>false
def conj:List Nat->(Nat->Prop)->Prop
 | [],_=>True
 | [i],p=>p i
 |i::is,p=>p i/\conj is p
theorem Nr:∀{l:List Nat} {p:Nat->Prop},conj l p->∀ i∈l,p i
 | [],_,_,i,hi=>by cases hi
 | [j],p,h,i,hi=>by simp at hi;subst hi;exact h
 |j::k::l,p,h,i,hi=>by
  rcases ey.1 hi with rfl | hi
  ·exact h.1
  ·exact Nr (l:=k::l) h.2 i hi
def qq (a m:Nat):Bool:=cp (Nat.land a m) a
def EX (a m:Nat):Bool:=cp (Nat.land a m) 0
theorem afb {l:List Nat} {m:Nat}:qq (oK l) m=true ↔ ∀ i∈l,m.testBit i=true:=by
 unfold qq
 constructor
 ·intro h i hi
  have h:=cU h
  have h1:(oK l &&& m).testBit i=(oK l).testBit i:=congrArg (fun z=>z.testBit i) h
  rw[Nat.testBit_and,vN,decide_eq_true hi]at h1
  simpa using h1
 ·intro h
  have:Nat.land (oK l) m=oK l:=by
   apply Nat.eq_of_testBit_eq
   intro i
   show(oK l &&& m).testBit i=_
   rw[Nat.testBit_and,vN]
   by_cases hi:i∈l
   ·simp [hi,h i hi]
   ·simp [hi]
  rw[this];exact Nat.beq_refl _
def xm (x y:fR):Bool:=EX x.wr (iy y.rd y.wr) && EX y.wr x.rd
def o_ (x:fR) (i m:Nat):List fR->Nat->Bool
 | [],_=>true
 |y::ys,j=>match Nat.testBit m j with
  |true=>match Nat.testBit y.am i,y.vo with
   |true,false=>false
   |_,_=>o_ x i m ys (j+1)
  |false=>match cp j i with
   |true=>match Nat.testBit y.am i with
    |true=>false
    |false=>o_ x i m ys (j+1)
   |false=>match Nat.testBit y.am i with
    |true=>o_ x i m ys (j+1)
    |false=>match xm x y with
     |true=>o_ x i m ys (j+1)
     |false=>false
def oR:List fR->Nat->Nat->List Nat
 | [],_,_=>[]
 |p::ps,i,m=>match Nat.testBit m i with
  |true=>oR ps (i+1) m
  |false=>match qq p.am m with
   |true=>i::oR ps (i+1) m
   |false=>oR ps (i+1) m
structure qC (ops:Array Oper) (listed:Array Bool) (m:Nat):Prop where
 size:listed.size=ops.size
 bit:∀ i,i<ops.size->m.testBit i=listed.getD i false
theorem qC.set {ops:Array Oper} {listed:Array Bool} {m:Nat} (h:qC ops listed m) (i:Nat):qC ops (listed.setIfInBounds i true) (iy m (2 ^ i)):=by
 refine⟨by simp [h.size],fun k hk=>?_⟩
 show(m ||| 2 ^ i).testBit k=_
 rw[Nat.testBit_or,Nat.testBit_two_pow,h.bit k hk]
 by_cases hik:i=k
 ·subst hik
  have:i<listed.size:=by rw[h.size];exact hk
  simp [this]
 ·rw[getD_set_ne false hik]
  simp [hik]
theorem qC.ready {P:Program} {ops:Array Oper} {listed:Array Bool} {m:Nat} (h:qC ops listed m) (hlt:∀ o∈ops,∀ e∈o.after,e.on<ops.size) {i:Nat} {o:Oper} (ho:ops[i]? =some o):i∈Region.ready .any ops listed ↔ m.testBit i=false/\qq (gL P ops i).am m=true:=by
 have hi:i<ops.size:=(Array.getElem?_eq_some_iff.1 ho).1
 have hil:i<listed.size:=by rw[h.size];exact hi
 rw[mem_ready]
 simp only[gL,ho,afb]
 have e1:(listed.getD i true=false) ↔ m.testBit i=false:=by
  rw[h.bit i hi]
  simp [hil]
 rw[e1]
 constructor
 ·rintro⟨h1,o',ho',hall⟩
  cases ho'
  refine⟨h1,fun k hk=>?_⟩
  simp only[EW,eL,kM]at hk
  obtain⟨e,⟨he,hb⟩,rfl⟩:=hk
  rw[h.bit e.on (hlt o (Array.mem_of_getElem? ho) e (by simpa using he))]
  exact hall e (by simpa using he) hb
 ·rintro⟨h1,hall⟩
  refine⟨h1,o,rfl,fun e he hb=>?_⟩
  have:=hall e.on (eL.2 ⟨e,kM.2 ⟨by simpa using he,hb⟩,rfl⟩)
  rwa [h.bit e.on (hlt o (Array.mem_of_getElem? ho) e he)]at this
theorem RN {P:Program} {ops:Array Oper} {j:Nat}:(gL P ops j).vo=nH P ops j:=by
 unfold gL
 split
 ·rfl
 ·rename_i h;simp [nH,h]
theorem MC {d m:Nat} (h:EX (2 ^ d) m=true):m.testBit d=false:=by
 have h:=cU h
 have h1:(2 ^ d &&& m).testBit d=(0:Nat).testBit d:=congrArg (fun z=>z.testBit d) h
 rw[Nat.testBit_and,Nat.testBit_two_pow]at h1
 simpa using h1
theorem Wg {P:Program} {ops:Array Oper} {i j:Nat} {oi oj:Oper} (hi:ops[i]? =some oi) (hj:ops[j]? =some oj) (h:xm (gL P ops i) (gL P ops j)=true):oi.apart ops oj=true:=by
 simp only[xm,gL,hi,hj,km]at h
 obtain⟨h1,h2⟩:=h
 unfold Oper.apart
 rw[km]
 constructor
 ·split
  ·rename_i d hd
   rw[hd]at h1
   have h3:=MC h1
   have h4:(oK (oj.looksAt ops) ||| (match oj.dst with | some d=>2 ^ d | none=>0)).testBit d=false:=h3
   rw[Nat.testBit_or,Bool.or_eq_false_iff,vN]at h4
   simp only[decide_eq_false_iff_not]at h4
   simp only[km,lR,List.contains_eq_mem,decide_eq_false_iff_not,bne_iff_ne,ne_eq]
   refine⟨h4.1,fun e=>?_⟩
   rw[e]at h4
   simp at h4
  ·rfl
 ·split
  ·rename_i d hd
   rw[hd]at h2
   have h3:=MC h2
   rw[vN]at h3
   simp only[decide_eq_false_iff_not]at h3
   simp [h3]
  ·rfl
theorem Ov {P:Program} {ops:Array Oper} {i m:Nat}:∀{n k:Nat},o_ (gL P ops i) i m (iY P ops k n) k=true->∀ j,k<=j->j<k+n->
  (m.testBit j=true->direct ops j i=true->nH P ops j=true)/\(m.testBit j=false->(j=i/\direct ops i i=false)∨(j≠i/\(direct ops j i=true∨xm (gL P ops i) (gL P ops j)=true)))
 | 0,k,_,j,h1,h2=>by omega
 |n+1,k,h,j,h1,h2=>by
  simp only[iY,o_]at h
  have rest:o_ (gL P ops i) i m (iY P ops (k+1) n) (k+1)=true->k≠j->(m.testBit j=true->direct ops j i=true->nH P ops j=true)/\(m.testBit j=false->(j=i/\direct ops i i=false)∨(j≠i/\(direct ops j i=true∨xm (gL P ops i) (gL P ops j)=true))):=
   fun hr hkj=>Ov hr j (by omega) (by omega)
  split at h
  ·rename_i hb
   split at h
   ·cases h
   ·rename_i hne
    by_cases hkj:k=j
    ·subst hkj
     refine⟨fun _ hw=>?_,fun hf=>by rw[hb]at hf;cases hf⟩
     cases he:nH P ops k
     ·exact(hne (by rw[xl];exact hw) (by rw[RN];exact he)).elim
     ·rfl
    ·exact rest h hkj
  ·rename_i hb
   split at h
   ·rename_i hki
    have Po:=cU hki
    split at h
    ·cases h
    ·rename_i hw
     rw[xl]at hw
     by_cases hkj:k=j
     ·subst hkj
      exact⟨fun ht=>(by rw[hb]at ht;cases ht),fun _=> .inl ⟨Po,by rw[<- Po]at hw ⊢;exact hw⟩⟩
     ·exact rest h hkj
   ·rename_i hki
    have hne:∀{x:Nat},k=x->x≠i:=fun e e'=>by subst e;subst e';simp at hki
    split at h
    ·rename_i hw
     rw[xl]at hw
     by_cases hkj:k=j
     ·exact⟨fun ht=>(by rw[<- hkj,hb]at ht;cases ht),fun _=> .inr ⟨hne hkj,.inl (by rw[<- hkj];exact hw)⟩⟩
     ·exact rest h hkj
    ·split at h
     ·rename_i hap
      by_cases hkj:k=j
      ·exact⟨fun ht=>(by rw[<- hkj,hb]at ht;cases ht),fun _=> .inr ⟨hne hkj,.inr (by rw[<- hkj];exact hap)⟩⟩
      ·exact rest h hkj
     ·cases h
theorem Jz {P:Program} {ops:Array Oper} {m:Nat}:∀{n i k:Nat},i<=k->k<i+n->m.testBit k=false->qq (gL P ops k).am m=true->k∈oR (iY P ops i n) i m
 | 0,i,k,h1,h2,_,_=>by omega
 |n+1,i,k,h1,h2,h3,h4=>by
  simp only[iY,oR]
  by_cases hik:i=k
  ·subst hik
   rw[h3,h4]
   simp
  ·have:=Jz (n:=n) (i:=i+1) (by omega) (by omega) h3 h4
   split
   ·exact this
   ·split
    ·exact fM _ this
    ·exact this
theorem SD {P:Program} {ops:Array Oper} {m:Nat}:∀{n i k:Nat},k∈oR (iY P ops i n) i m->i<=k/\k<i+n/\m.testBit k=false/\qq (gL P ops k).am m=true
 | 0,i,k,h=>by simp [iY,oR]at h
 |n+1,i,k,h=>by
  simp only[iY,oR]at h
  have rest:k∈oR (iY P ops (i+1) n) (i+1) m->i<=k/\k<i+(n+1)/\m.testBit k=false/\qq (gL P ops k).am m=true:=fun h=>by
   obtain⟨a,b,c,d⟩:=SD h
   exact⟨by omega,by omega,c,d⟩
  split at h
  ·exact rest h
  ·rename_i h1
   split at h
   ·rename_i h2
    rcases ey.1 h with rfl | h
    ·exact⟨av _,by omega,h1,h2⟩
    ·exact rest h
   ·exact rest h
theorem qC.free {P:Program} {ops:Array Oper} {listed:Array Bool} {m:Nat} (h:qC ops listed m) {i:Nat} {oi:Oper} (ho:ops[i]? =some oi) (hc:o_ (gL P ops i) i m (iY P ops 0 ops.size) 0=true):
  (∀ j oj,ops[j]? =some oj->j≠i->listed.getD j true=false->(∀ e∈oj.after,Region.binds .any e=true->e.on≠i)->oi.apart ops oj=true):=by
 intro j oj hj hji hun hno
 have hjl:j<ops.size:=(Array.getElem?_eq_some_iff.1 hj).1
 have Zj:j<listed.size:=by rw[h.size];exact hjl
 have hw:direct ops j i=false:=by
  unfold direct
  rw[hj]
  rw[Bool.eq_false_iff]
  intro hw
  obtain⟨e,he,hb⟩:=Array.any_eq_true'.1 hw
  simp only[km,beq_iff_eq]at hb
  exact hno e he hb.1 hb.2
 have qQ:m.testBit j=false:=by
  rw[h.bit j hjl]
  simp [Zj]at hun ⊢
  exact hun
 rcases(Ov hc j (bt j) (by omega)).2 qQ with ⟨h1,_⟩ | ⟨_,h2 | h2⟩
 ·exact absurd h1 hji
 ·rw[hw]at h2;cases h2
 ·exact Wg ho hj h2
theorem Closed.ng {P:Program} {ops:Array Oper} {listed:Array Bool} (hc:Closed ops listed) {i:Nat} (hi:i∈Region.ready .any ops listed):ng P ops listed i=true/\waits P ops i i=false:=by
 constructor
 ·rw[B6]
  intro k hk he
  cases hb:listed.getD k false
  ·rfl
  ·have:=UR hc (fun q hq=>hc k q hb hq) hk
   rw[JA hi]at this;cases this
 ·exact QQ hc hi hi
def AQ (ops:Array Oper):Bool:=ops.all fun o=>o.after.all fun e=>Nat.blt e.on ops.size
theorem XR {ops:Array Oper} (h:AQ ops=true):∀ o∈ops,∀ e∈o.after,e.on<ops.size:=by
 intro o ho e he
 have h1:=Array.all_eq_true_iff_forall_mem.1 h o ho
 have h2:=Array.all_eq_true_iff_forall_mem.1 h1 e he
 exact Nat.lt_of_succ_le (Nat.le_of_ble_eq_true h2)
def Xv (ops:Array Oper) (i:Nat) (fr:Fr) (kb:KB):Bool:=
 match ops[i]? with
 |some o=>match yJ o with
  |some (.load _,xs)=>match tJ fr xs with
   |some [.ptr b off]=>match kb[b]? with
    |some (.cells l)=>match iX l off with
     |some v=> !(V.nG v) && !(cp l.length 8)
     |none=>false
    |_=>false
   |_=>false
  |_=>false
 |none=>false
def Ip (plan:List fR) (m i:Nat):List fR->Nat->Bool
 | [],_=>false
 |o::r,k=>match Nat.testBit m k,o.vo,o.al with
  |false,false,false=>match Nat.testBit (sq plan 12 o.am) i with
   |false=>true
   |true=>Ip plan m i r (k+1)
  |_,_,_=>Ip plan m i r (k+1)
def rA (all:List fR) (ops:Array Oper) (m:Nat) (fr:Fr) (kb:KB):List fR->Nat->Option Nat
 | [],_=>none
 |p::ps,i=>match p.vo,Nat.testBit m i with
  |true,false=>match qq p.am m with
   |true=>match o_ p i m all 0 with
    |true=>match Xv ops i fr kb with
     |true=>match Ip all m i all 0 with
      |true=>rA all ops m fr kb ps (i+1)
      |false=>some i
     |false=>some i
    |false=>rA all ops m fr kb ps (i+1)
   |false=>rA all ops m fr kb ps (i+1)
  |_,_=>rA all ops m fr kb ps (i+1)
def adk (plan:List fR) (ops:Array Oper) (m:Nat) (fr:Fr) (kb:KB):Option Nat:=rA plan ops m fr kb plan 0
theorem R3 {P:Program} {ops:Array Oper} {m:Nat} {fr:Fr} {kb:KB} {all:List fR}:∀{n i k:Nat},rA all ops m fr kb (iY P ops i n) i=some k->k<i+n/\(gL P ops k).vo=true/\m.testBit k=false/\qq (gL P ops k).am m=true/\o_ (gL P ops k) k m all 0=true
 | 0,i,k,h=>by simp [iY,rA]at h
 |n+1,i,k,h=>by
  simp only[iY,rA]at h
  have rest:rA all ops m fr kb (iY P ops (i+1) n) (i+1)=some k->k<i+(n+1)/\(gL P ops k).vo=true/\m.testBit k=false/\qq (gL P ops k).am m=true/\o_ (gL P ops k) k m all 0=true:=fun h=>by
   obtain⟨a,b⟩:=R3 h
   exact⟨by omega,b⟩
  split at h
  ·rename_i h1 h2
   split at h
   ·rename_i h3
    split at h
    ·rename_i h4
     split at h
     ·split at h
      ·exact rest h
      ·cases h
       exact⟨by omega,h1,h2,h3,h4⟩
     ·cases h
      exact⟨by omega,h1,h2,h3,h4⟩
    ·exact rest h
   ·exact rest h
  ·exact rest h
def mq (P:Program) (X:bJ) (n:Nat) (ops:Array Oper) (plan:List fR):Nat->Nat->List jW->(Fr->KB->Prop)->Fr->KB->Prop
 | 0,m,_,K,fr,kb=>match oR plan 0 m with | []=>K fr kb | _=>False
 |fuel+1,m,gJ,K,fr,kb=>
  match adk plan ops m fr kb with
  |some i=>match ops[i]? with
   |some o=>sB ops o fr
     (fun fr=>match yJ o with
      |some (r,xs)=>match tJ fr xs with
       |some fS=>kC P r fS kb (fun v=>kc n o.dst v fr (fun fr'=>mq P X n ops plan fuel (iy m (2 ^ i)) (⟨i,r,fS,v⟩::gJ) K fr' kb))
       |none=>False
      |none=>match isPure P o.op with
       |true=>yC P o fr kb (fun v=>kc n o.dst v fr (fun fr'=>mq P X n ops plan fuel (iy m (2 ^ i)) gJ K fr' kb))
       |false=>False)
     (fun fr=>kc n o.dst (.any undef) fr (fun fr'=>mq P X n ops plan fuel (iy m (2 ^ i)) gJ K fr' kb))
   |none=>False
  |none=>match oR plan 0 m with
   | []=>K fr kb
   |r::rs=>conj (r::rs) (fun j=>match ops[j]?,nH P ops j with
    |some o,false=>sB ops o fr
      (fun fr=>match BB o.op,PP gJ with
       |true,true=>yG P kb gJ (pG P X o fr kb (fun v kb'=>kc n o.dst v fr (fun fr'=>mq P X n ops plan fuel (iy m (2 ^ j)) (gJ.filter fun l=> !(waits P ops j l.i)) K fr' kb')))
       |_,_=>match vB P ops j kb gJ with
        |b::bs=>yF P (b::bs) kb gJ (pG P X o fr (xV (b::bs) kb) (fun v kb'=>match yX (b::bs) kb kb' with
         |some k2=>sN P ops j k2 (gJ.filter fun l=> !(tV (b::bs) l)) (kc n o.dst v fr (fun fr'=>mq P X n ops plan fuel (iy m (2 ^ j)) (gJ.filter fun l=> !(waits P ops j l.i)) K fr' k2))
         |none=>False))
        | []=>pG P X o fr kb (fun v kb'=>sN P ops j kb' gJ (kc n o.dst v fr (fun fr'=>mq P X n ops plan fuel (iy m (2 ^ j)) (gJ.filter fun l=> !(waits P ops j l.i)) K fr' kb'))))
      (fun fr=>kc n o.dst (.any undef) fr (fun fr'=>mq P X n ops plan fuel (iy m (2 ^ j)) (gJ.filter fun l=> !(waits P ops j l.i)) K fr' kb))
    |some o,true=>sB ops o fr
      (fun fr=>match yJ o with
       |some (r,xs)=>match tJ fr xs with
        |some fS=>kC P r fS kb (fun v=>kc n o.dst v fr (fun fr'=>mq P X n ops plan fuel (iy m (2 ^ j)) gJ K fr' kb))
        |none=>False
       |none=>match isPure P o.op with
        |true=>yC P o fr kb (fun v=>kc n o.dst v fr (fun fr'=>mq P X n ops plan fuel (iy m (2 ^ j)) gJ K fr' kb))
        |false=>False)
      (fun fr=>kc n o.dst (.any undef) fr (fun fr'=>mq P X n ops plan fuel (iy m (2 ^ j)) gJ K fr' kb))
    |none,_=>False)
structure qD where
 i:Nat
 s:Sem Next
 x:Value
def GL (P:Program) (ops:Array Oper) (L:List qD) (listed:Array Bool) (j:Nat) (w w':World):Prop:=
 ∀ l∈L,ng P ops listed l.i=true->waits P ops j l.i=false->l.s.run P w= .ok (.value l.x) w->l.s.run P w'= .ok (.value l.x) w'
def oo (P:Program) (σ:Sg) (E:EH) (W:World) (l:jW) (r:qD):Prop:=
 r.i=l.i/\r.s.run P W= .ok (.value r.x) W/\Den σ E l.v r.x/\∃ as,aq σ E l.fS as/\r.s=(do pure (.value (<- rE l.r as)))
def zA (P:Program) (ops:Array Oper) (listed:Array Bool) (σ:Sg) (E:EH) (W:World) (ls:List jW) (L:List qD):Prop:=
 ∀ r∈L,ng P ops listed r.i=true->∃ l∈ls,oo P σ E W l r
def LG (P:Program) (kb:KB) (l:jW):Prop:=(Lc l.v/\kC P l.r l.fS kb (fun v=>nq v l.v))∨(HI l.r l.fS=true/\kC P l.r l.fS kb (fun _=>True))
theorem vK {P:Program} {ops:Array Oper} {j:Nat} {kb:KB}:∀{ls:List jW} {R:Prop},sN P ops j kb ls R->R/\∀ l∈ls,waits P ops j l.i=false->LG P kb l
 | [],R,h=>⟨h,fun l hl=>by cases hl⟩
 |l::ls,R,h=>by
  simp only[sN]at h
  split at h
  ·rename_i hw
   obtain⟨h1,h2⟩:=vK h
   refine⟨h1,fun l' hl' hw'=>?_⟩
   rcases ey.1 hl' with rfl | hl'
   ·rw[hw]at hw';cases hw'
   ·exact h2 l' hl' hw'
  ·split at h
   ·rename_i hx
    obtain⟨h1,h2⟩:=vK h.2
    refine⟨h1,fun l' hl' hw'=>?_⟩
    rcases ey.1 hl' with rfl | hl'
    ·exact .inl ⟨fun _ _ _ _ _ _ h k=>AN hx h k,h.1⟩
    ·exact h2 l' hl' hw'
   ·split at h
    ·rename_i ps hps
     obtain⟨h1,h2⟩:=vK h.2
     refine⟨h1,fun l' hl' hw'=>?_⟩
     rcases ey.1 hl' with rfl | hl'
     ·exact .inl ⟨Xz hps h.1.1,h.1.2⟩
     ·exact h2 l' hl' hw'
    ·split at h
     ·rename_i hx
      obtain⟨h1,h2⟩:=vK h.2
      refine⟨h1,fun l' hl' hw'=>?_⟩
      rcases ey.1 hl' with rfl | hl'
      ·exact .inr ⟨hx,h.1⟩
      ·exact h2 l' hl' hw'
     ·exact h.elim
theorem Ss {P:Program} {kb:KB}:∀{ls:List jW} {R:Prop},yG P kb ls R->R/\∀ l∈ls,∃ t,l.r= .load t/\kC P l.r l.fS kb (fun _=>True)
 | [],R,h=>⟨h,fun l hl=>by cases hl⟩
 | ⟨i,r,fS,u⟩::ls,R,h=>by
  cases r with
  |look t ok=>simp only[yG]at h
  |load t=>
   simp only[yG]at h
   obtain⟨h1,h2⟩:=Ss h.2
   refine⟨h1,fun l hl=>?_⟩
   rcases ey.1 hl with rfl | hl
   ·exact⟨t,rfl,h.1⟩
   ·exact h2 l hl
theorem oo.quiet {P:Program} {σ τ:Sg} {E E':EH} {W W':World} {l:jW} {r:qD} (h:oo P σ E W l r) (hE:E.le E') {kb:KB} (hi:Inv σ E kb W) (hW:o0 W W') {t:TypeId} (hl:l.r= .load t) (hk:kC P l.r l.fS kb (fun _=>True)):oo P (σ++τ) E' W' l r:=by
 obtain⟨h1,h2,h3,a,h4,h5⟩:=h
 obtain⟨li,lr,PZ,lv⟩:=l
 simp only at hl h1 h3 h4 h5 hk
 subst hl
 unfold kC at hk
 split at hk<;>try exact hk.elim
 ·rename_i ad _ _
  simp only[aq]at h4
  obtain⟨y,ys,rfl,h6,rfl⟩:=h4
  rename_i hr
  cases hr
  obtain⟨v,x,k1,_,_⟩:=Qe hk hi h6
  have e1:=k1 W (o0.refl W)
  have e2:=k1 W' hW
  have e3:r.x=x:=by
   rw[h5]at h2
   simp [rE,e1]at h2
   exact h2.symm
  refine⟨h1,?_,Den.mono hE h3,[y],aq.mono hE (by simp only[aq];exact⟨y,[],rfl,h6,rfl⟩),h5⟩
  rw[h5,e3]
  simp [rE,e2]
 ·contradiction
theorem Pk {σ:Sg} {E:EH} {kb:KB} {W:World} (hi:Inv σ E kb W) (b:Nat):Inv σ E (kb.set b .dead) W:=by
 have hc:∀{i:Nat} {o:KO},(kb.set b .dead)[i]? =some o->o= .dead∨kb[i]? =some o:=by
  intro i o h
  by_cases e:b=i
  ·subst e
   rw[List.getElem?_set_self']at h
   cases hk:kb[b]? with
   |none=>rw[hk]at h;simp at h
   |some x=>rw[hk]at h;simp at h;exact .inl h.symm
  ·rw[gr e]at h;exact .inr h
 refine⟨by rw[ir];exact hi.len,fun i r o h1 h2=>?_,fun i j r r' o o' c hij h1 h2 h3 h4 h5 h6=>?_,hi.dj,fun c ⟨i,r,o,h1,h2,h3⟩=>?_⟩
 ·rcases hc h2 with rfl | h2
  ·trivial
  ·exact hi.obj i r o h1 h2
 ·rcases hc h2 with rfl | h2
  ·exact h5.elim
  ·rcases hc h4 with rfl | h4
   ·exact h6.elim
   ·exact hi.dx i j r r' o o' c hij h1 h2 h3 h4 h5 h6
 ·rcases hc h2 with rfl | h2
  ·exact h3.elim
  ·exact hi.sep c ⟨i,r,o,h1,h2,h3⟩
theorem afZ {σ σ':Sg} {E E':EH} {kb kb':KB} {W W':World} {b:Nat} {x:KO} (hi:Inv σ E kb W) (hs:Step σ E (kb.set b .dead) W σ' E' kb' W') (hx:kb[b]? =some x) (hd:kb'[b]? =some .dead):
  Step σ E kb W σ' E' (kb'.set b x) W'/\∀ r,σ[b]? =some r->∀ c,owned r x c->W'.heap[c]? =W.heap[c]?:=by
 obtain⟨τ,rfl⟩:=hs.pre
 have cd:b<kb.length:=(bG.1 hx).1
 have YR:b<kb'.length:=(bG.1 hd).1
 have G7:b<σ.length:=by rw[hi.len];exact cd
 have hrb:(σ++τ)[b]? =σ[b]?:=dP G7
 have hid:∀ c,cq σ (kb.set b .dead) c->cq σ kb c:=by
  rintro c ⟨i,r,o,h1,h2,h3⟩
  by_cases e:b=i
  ·subst e
   rw[ig cd]at h2
   cases h2
   exact h3.elim
  ·rw[gr e]at h2
   exact⟨i,r,o,h1,h2,h3⟩
 have hno:∀ r,σ[b]? =some r->∀ c,owned r x c->¬ cq σ (kb.set b .dead) c:=by
  rintro r hr c hc ⟨i,r2,o,h1,h2,h3⟩
  by_cases e:b=i
  ·subst e
   rw[ig cd]at h2
   cases h2
   exact h3.elim
  ·rw[gr e]at h2
   exact hi.dx b i r r2 x o c e hr hx h1 h2 hc h3
 have tU:∀ r,σ[b]? =some r->∀ c,owned r x c->W'.heap[c]? =W.heap[c]?:=fun r hr c hc=>hs.bQ.block c ((hi.obj b r x hr hx).lt hc) (hno r hr c hc)
 have eO:∀{i:Nat} {r:Re} {o:KO},(σ++τ)[i]? =some r->(kb'.set b x)[i]? =some o->(i=b/\o=x/\σ[b]? =some r)∨(i≠b/\kb'[i]? =some o):=by
  intro i r o h1 h2
  by_cases e:b=i
  ·subst e
   rw[ig YR]at h2
   rw[hrb]at h1
   exact .inl ⟨rfl,(bb.inj h2).symm,h1⟩
  ·rw[gr e]at h2
   exact .inr ⟨fun q=>e q.symm,h2⟩
 have hx2:∀{i:Nat} {r r2:Re} {o:KO} {c:Nat},(σ++τ)[i]? =some r->kb'[i]? =some o->owned r o c->σ[b]? =some r2->owned r2 x c->False:=by
  intro i r r2 o c h1 h2 h3 h4 h5
  rcases hs.own c ⟨i,r,o,h1,h2,h3⟩with h6 | h6
  ·exact hno r2 h4 c h5 h6
  ·have:=(hi.obj b r2 x h4 hx).lt h5;omega
 have hsep:∀ r,σ[b]? =some r->∀ c,owned r x c->E' c=none:=by
  intro r hr c hc
  cases hE:E' c with
  |none=>rfl
  |some y=>
   rcases hs.new c y hE with h | h | h
   ·have:=hi.sep c ⟨b,r,x,hr,hx,hc⟩;rw[this]at h;cases h
   ·exact(hno r hr c hc h).elim
   ·have:=(hi.obj b r x hr hx).lt hc;omega
 refine⟨⟨⟨by rw[ir];exact hs.inv.len,fun i r o h1 h2=>?_,fun i j r r' o o' c hij h1 h2 h3 h4 h5 h6=>?_,hs.inv.dj,fun c ⟨i,r,o,h1,h2,h3⟩=>?_⟩,⟨hs.bQ.os,hs.bQ.tape,hs.bQ.output,hs.bQ.size,fun c hc hn=>hs.bQ.block c hc (fun h=>hn (hid c h))⟩,⟨τ,rfl⟩,hs.le,fun c ⟨i,r,o,h1,h2,h3⟩=>?_,fun c y hc=>?_⟩,tU⟩
 ·rcases eO h1 h2 with ⟨rfl,rfl,h⟩ | ⟨_,h⟩
  ·exact(hi.obj _ r o h hx).mono hs.le (tU r h)
  ·exact hs.inv.obj i r o h1 h
 ·rcases eO h1 h2 with ⟨rfl,rfl,h⟩ | ⟨e,h⟩<;>rcases eO h3 h4 with ⟨rfl,e2,h'⟩ | ⟨e',h'⟩
  ·exact hij rfl
  ·exact hx2 h3 h' h6 h h5
  ·subst e2;exact hx2 h1 h h5 h' h6
  ·exact hs.inv.dx i j r r' o o' c hij h1 h h3 h' h5 h6
 ·rcases eO h1 h2 with ⟨rfl,rfl,h⟩ | ⟨e,h⟩
  ·exact hsep r h c h3
  ·exact hs.inv.sep c ⟨i,r,o,h1,h,h3⟩
 ·rcases eO h1 h2 with ⟨rfl,rfl,h⟩ | ⟨e,h⟩
  ·exact .inl ⟨_,r,o,h,hx,h3⟩
  ·rcases hs.own c ⟨i,r,o,h1,h,h3⟩with q | q
   ·exact .inl (hid c q)
   ·exact .inr q
 ·rcases hs.new c y hc with q | q | q
  ·exact .inl q
  ·exact .inr (.inl (hid c q))
  ·exact .inr (.inr q)
theorem Pl {σ:Sg} {E:EH} {W:World}:∀{bs:List Nat} {kb:KB},Inv σ E kb W->Inv σ E (xV bs kb) W
 | [],_,hi=>hi
 |b::bs,kb,hi=>by
  show Inv σ E (xV bs (kb.set b .dead)) W
  exact Pl (Pk hi b)
theorem Up {σ σ':Sg} {E E':EH} {kb':KB} {W W':World}:∀{bs:List Nat} {kb k2:KB},Inv σ E kb W->Step σ E (xV bs kb) W σ' E' kb' W'->yX bs kb kb'=some k2->
  Step σ E kb W σ' E' k2 W'/\∀ b∈bs,∀ x,kb[b]? =some x->∀ r,σ[b]? =some r->∀ c,owned r x c->W'.heap[c]? =W.heap[c]?
 | [],kb,k2,hi,hs,h=>by
  simp only[yX,bb.injEq]at h
  subst h
  exact⟨hs,fun b hb=>by cases hb⟩
 |b::bs,kb,k2,hi,hs,h=>by
  simp only[yX]at h
  split at h<;>try (cases h;done)
  rename_i k3 Zk
  obtain⟨h1,h2⟩:=Up (bs:=bs) (Pk hi b) hs Zk
  split at h<;>try (cases h;done)
  rename_i y hy Z1
  simp only[bb.injEq]at h
  subst h
  obtain⟨h3,h4⟩:=afZ hi h1 hy Z1
  refine⟨h3,fun b' hb' x hx r hr c hc=>?_⟩
  by_cases e:b=b'
  ·subst e
   rw[hy]at hx;cases hx
   exact h4 r hr c hc
  ·rcases ey.1 hb' with rfl | hb'
   ·exact(e rfl).elim
   ·exact h2 b' hb' x (by rw[gr e];exact hx) r hr c hc
theorem Zf {bs:List Nat} {l:jW} (h:tV bs l=true):∃ t b,b∈bs/\l.r= .load t/\((∃ off,l.fS=[.ptr b off])∨∃ ix br,l.fS=[.pe b ix br]):=by
 unfold tV at h
 split at h
 ·rename_i t b' off _
  exact⟨t,b',G4 h,rfl,.inl ⟨off,rfl⟩⟩
 ·rename_i t b' ix br _
  exact⟨t,b',G4 h,rfl,.inr ⟨ix,br,rfl⟩⟩
 ·cases h
theorem Jr {P:Program} {bs:List Nat} {kb:KB}:∀{ls:List jW} {R:Prop},yF P bs kb ls R->R/\∀ l∈ls,tV bs l=true->kC P l.r l.fS kb (fun _=>True)
 | [],R,h=>⟨h,fun l hl=>by cases hl⟩
 |l::ls,R,h=>by
  simp only[yF]at h
  split at h
  ·obtain⟨h1,h2⟩:=Jr h.2
   refine⟨h1,fun l' hl hr=>?_⟩
   rcases ey.1 hl with rfl | hl
   ·exact h.1
   ·exact h2 l' hl hr
  ·rename_i hn
   obtain⟨h1,h2⟩:=Jr h
   refine⟨h1,fun l' hl hr=>?_⟩
   rcases ey.1 hl with rfl | hl
   ·rw[hr]at hn;cases hn
   ·exact h2 l' hl hr
theorem oo.fix {P:Program} {σ τ:Sg} {E E':EH} {W W':World} {l:jW} {r:qD} (h:oo P σ E W l r) (hE:E.le E') {kb:KB} (hi:Inv σ E kb W) {bs:List Nat} (hR:tV bs l=true) (hk:kC P l.r l.fS kb (fun _=>True))
  (tU:∀ b∈bs,∀ x,kb[b]? =some x->∀ r,σ[b]? =some r->∀ c,owned r x c->W'.heap[c]? =W.heap[c]?):oo P (σ++τ) E' W' l r:=by
 obtain⟨h1,h2,h3,a,h4,h5⟩:=h
 obtain⟨t,b,hb,e1,e2⟩:=Zf hR
 obtain⟨li,lr,PZ,lv⟩:=l
 simp only at h1 h3 h4 h5 hk e1 e2
 subst e1
 have key:∃ y z,a=[y]/\(Instr.loadAt t y).run P W= .ok z W/\(Instr.loadAt t y).run P W'= .ok z W':=by
  rcases e2 with ⟨off,rfl⟩ | ⟨ix,br,rfl⟩
  ·simp only[aq]at h4
   obtain⟨y,ys,rfl,h6,rfl⟩:=h4
   simp only[Den]at h6
   obtain⟨re,pq,rfl⟩:=h6
   simp only[kC]at hk
   obtain⟨z,hz⟩:=aaG hk hi pq
   have hown:∃ x,kb[b]? =some x/\owned re x re.blk:=by
    unfold nc at hk
    split at hk<;>try exact hk.elim
    dsimp only at hk
    split at hk<;>try exact hk.elim
    rename_i l hl
    exact⟨_,hl,rfl⟩
   obtain⟨x,hx,hown⟩:=hown
   exact⟨_,z,rfl,hz W rfl,hz W' (tU b hb x hx re pq _ hown)⟩
  ·simp only[aq]at h4
   obtain⟨y,ys,rfl,h6,rfl⟩:=h4
   simp only[Den]at h6
   obtain⟨re,pq,rfl⟩:=h6
   simp only[kC]at hk
   obtain⟨hown,z,hz⟩:=aaH hk hi pq
   cases hx:kb[b]? with
   |none=>
    unfold nc at hk
    simp only[hx]at hk
    split at hk<;>try exact hk.elim
    split at hk<;>try exact hk.elim
    split at hk<;>exact hk.elim
   |some x=>exact⟨_,z,rfl,hz W rfl,hz W' (tU b hb x hx re pq _ (hown x hx))⟩
 obtain⟨y,z,rfl,g1,g2⟩:=key
 have e3:r.x=z:=by
  rw[h5]at h2
  simp [rE,g1]at h2
  exact h2.symm
 refine⟨h1,?_,Den.mono hE h3,_,aq.mono hE h4,h5⟩
 rw[h5,e3]
 simp [rE,g2]
theorem We {P:Program} {X:bJ} {o:Oper} (ho:BB o.op=true) {fr:Fr} {kb:KB} {K:V->KB->Prop} (h:pG P X o fr kb K) {σ:Sg} {E:EH} {n:Nat} {a:Act} {W:World} (hi:Inv σ E kb W) (Q:Exit->Act->World->Prop):
  o.wp P a W (fun a' W'=>uR σ E kb W a o K a' W'/\o0 W W') Q:=by
 obtain⟨dst,op,ty,pos,after,guard⟩:=o
 cases op<;>simp only[BB]at ho<;>try (cases ho;done)
 rename_i t
 unfold pG at h
 simp only[isPure]at h
 unfold Gb at h
 simp only at h
 obtain⟨v,x,σ',kb',W',h1,h2,h3,h4,h5⟩:=Mw h hi
 exact k9 (by simp [execOp,h1]) ⟨⟨σ',E,kb',v,x,h2,h3,rfl,h4⟩,h5⟩
theorem oo.step {P:Program} {σ τ:Sg} {E E':EH} {W W':World} {l:jW} {r:qD} (h:oo P σ E W l r) (hE:E.le E') {kb':KB} (hi0:∀ b o,E b=some o->W.heap[b]? =some o) (hi:Inv (σ++τ) E' kb' W') (hk:LG P kb' l):oo P (σ++τ) E' W' l r:=by
 obtain⟨h1,h2,h3,a,h4,h5⟩:=h
 rcases hk with ⟨hv,hl⟩ | ⟨hm,hl⟩
 case inr=>
  obtain⟨li,lr,PZ,lv⟩:=l
  simp only at h1 h3 h4 h5 hm hl
  unfold HI at hm
  split at hm
  case h_2=>cases hm
  rename_i t e br
  simp only[aq]at h4
  obtain⟨y,ys,rfl,h6,rfl⟩:=h4
  simp only[kC]at hl
  obtain⟨x,hx⟩:=aaI hl h6
  have e1:=hx hi0
  have e2:=hx (W:=W') (fun b o hb=>hi.dj b o (hE b o hb))
  have e3:r.x=x:=by
   rw[h5]at h2
   simp [rE,e1]at h2
   exact h2.symm
  refine⟨h1,?_,Den.mono hE h3,[y],aq.mono hE (by simp only[aq];exact⟨y,[],rfl,h6,rfl⟩),h5⟩
  rw[h5,e3]
  simp [rE,e2]
 obtain⟨v,x,k1,k2,k3⟩:=Ju hl hi (aq.mono hE h4)
 replace k3:=KM k3
 subst k3
 have e1:=hv _ _ _ _ _ _ h3 k2
 refine⟨h1,?_,Den.mono hE h3,a,aq.mono hE h4,h5⟩
 rw[h5,e1]
 simp [k1]
theorem NX {P:Program} {X:bJ} (hX:bZ P X) {c:Cx} {n:Nat} {ops:Array Oper} (po:Region.noSelect ops=true) (xT:AQ ops=true) {Q:Exit->Act->World->Prop} {K:Fr->KB->Prop} (hQ:∀ a W,jj c n K a W->Q .normal a W)
  (GX:∀ ch a a' w,Q (.panic ch) a w->Q (.panic ch) a' w):∀(fuel:Nat) (m:Nat) (listed:Array Bool) (gJ:List jW) (fr:Fr) (kb:KB) (a:Act) (W:World) (σ:Sg) (E:EH) (L:List qD),qC ops listed m->Closed ops listed->
   Step c.σ c.E c.kb c.W σ E kb W->eu σ E fr n a->zA P ops listed σ E W gJ L->mq P X n ops (iY P ops 0 ops.size) fuel m gJ K fr kb->qx P ops Q (GL P ops L) fuel listed a W:=by
 have hlt:=XR xT
 have Pb:∀{m:Nat} {listed:Array Bool},qC ops listed m->oR (iY P ops 0 ops.size) 0 m=[]->Region.ready .any ops listed=[]:=by
  intro m listed hm h0
  apply List.eq_nil_iff_forall_not_mem.2
  intro k hk
  obtain⟨_,o,ho,_⟩:=mem_ready.1 hk
  obtain⟨h1,h2⟩:=(hm.ready hlt ho).1 hk
  have:=Jz (ops:=ops) (n:=ops.size) (i:=0) (bt k) (by have:=(Array.getElem?_eq_some_iff.1 ho).1;omega) h1 h2
  rw[h0]at this;cases this
 intro fuel
 induction fuel with
 |zero=>
  intro m listed gJ fr kb a W σ E L hm hcl hs hf hL h
  simp only[mq]at h
  split at h
  ·rename_i hr;exact⟨Pb hm hr,hQ a W ⟨σ,E,fr,kb,hs,hf,h⟩⟩
  ·exact h.elim
 |succ fuel ih=>
  intro m listed gJ fr kb a W σ E L hm hcl hs hf hL h
  simp only[mq]at h
  have hsel:=Region.noSelect_spec po
  split at h
  ·rename_i i hfind
   obtain⟨hil,tT,qQ,hsub,pj⟩:=R3 hfind
   split at h
   case h_2=>exact h.elim
   rename_i o ho
   have hmem:=(hm.ready hlt ho).2 ⟨qQ,hsub⟩
   have hfree:=hm.free ho pj
   obtain⟨tW,hii⟩:=hcl.ng (P:=P) hmem
   have Y1:nH P ops i=true:=by rw[<- RN];exact tT
   have dT:∀(L:List qD) l j w w',j≠i->GL P ops L (l.setIfInBounds i true) j w w'->GL P ops L l j w w':=by
    intro L l j w w' _ hg r hr hn hw hrun
    exact hg r hr (IG hn (.inr Y1)) hw hrun
   have hkeep:∀{ls:List jW},zA P ops listed σ E W ls L->zA P ops (listed.setIfInBounds i true) σ E W ls L:=fun hl r hr hn=>hl r hr (vQ hn)
   obtain⟨fr',hf',⟨hw,h⟩ | ⟨hw,h⟩⟩:=vx h hf
   ·split at h
    ·rename_i rr xs hrd
     split at h
     case h_2=>exact h.elim
     rename_i fS had
     obtain⟨v,y,h1,h2,h3⟩:=Ju h hs.inv (AT hf' had)
     obtain⟨fG,gf,h4⟩:=ni h3 hf' h2
     have Bt:=Sw hrd a.eval
     have hW:(execOp a.eval o).run P W= .ok (.value y) W:=by rw[Bt];simp [h1]
     have ih1:=ih (iy m (2 ^ i)) (listed.setIfInBounds i true) (⟨i,rr,fS,v⟩::gJ) fG kb (a.put o.dst y) W σ E (⟨i,execOp a.eval o,y⟩::L) (hm.set i) (hcl.set hmem) hs gf (fun r hr hn=>by
      rcases ey.1 hr with rfl | hr
      ·exact⟨_,iu,rfl,hW,h2,_,AT hf' had,Bt⟩
      ·obtain⟨l,hl,hl2⟩:=hkeep hL r hr hn
       exact⟨l,fM _ hl,hl2⟩) h4
     exact qx.weaken (fun l j w w' hg r hr=>hg r (fM _ hr)) (Gu (C:=fun w=>(execOp a.eval o).run P w= .ok (.value y) w) ho hsel (fun ch a w=>GX ch _ a w)
      (fun l j w w' hn lD hg hC=>hg ⟨i,execOp a.eval o,y⟩ iu hn lD hC) (fun l w r hr hn hw hrun=>hrun) (dT _) fuel listed a W hfree hcl hmem (.inl ⟨hw,fun w hC=>hC⟩) hW tW hii ih1)
    ·split at h
     case h_2=>exact h.elim
     obtain⟨v,y,h1,h2,h3⟩:=Jp h hf' hs.inv
     obtain⟨fG,gf,h4⟩:=ni h3 hf' h2
     have ih1:=ih (iy m (2 ^ i)) (listed.setIfInBounds i true) gJ fG kb (a.put o.dst y) W σ E L (hm.set i) (hcl.set hmem) hs gf (hkeep hL) h4
     exact Gu (C:=fun _=>True) ho hsel (fun ch a w=>GX ch _ a w) (fun _ _ _ _ _ _ _ _=>trivial) (fun l w r hr hn hw hrun=>hrun) (dT _) fuel listed a W hfree hcl hmem (.inl ⟨hw,fun w _=>h1 w⟩) trivial tW hii ih1
   ·obtain⟨fG,gf,h4⟩:=ni h hf' (σ:=σ) (E:=E) (x:=undef) (by simp [Den])
    have ih1:=ih (iy m (2 ^ i)) (listed.setIfInBounds i true) gJ fG kb (a.put o.dst undef) W σ E L (hm.set i) (hcl.set hmem) hs gf (hkeep hL) h4
    exact Gu (C:=fun _=>True) ho hsel (fun ch a w=>GX ch _ a w) (fun _ _ _ _ _ _ _ _=>trivial) (fun l w r hr hn hw hrun=>hrun) (dT _) fuel listed a W hfree hcl hmem (.inr ⟨hw,rfl⟩) trivial tW hii ih1
  ·split at h
   ·rename_i hr
    have hr':=Pb hm hr
    exact⟨fun _=>hQ a W ⟨σ,E,fr,kb,hs,hf,h⟩,by rw[hr'];simp⟩
   ·rename_i r rs hr
    refine⟨fun h0=>?_,fun j hj=>?_⟩
    ·obtain⟨_,g2,g3,g4⟩:=SD (ops:=ops) (m:=m) (n:=ops.size) (i:=0) (k:=r) (by rw[hr];exact iu)
     have hrl:r<ops.size:=by omega
     have:=(hm.ready hlt (Array.getElem?_eq_getElem hrl)).2 ⟨g3,g4⟩
     rw[h0]at this;cases this
    have Bn:j<listed.size:=by
     obtain⟨h0,_⟩:=mem_ready.1 hj
     rcases jX j listed.size with h' | h'
     ·exact h'
     ·simp [Array.getElem?_eq_none h']at h0
    have Bk:j∈r::rs:=by
     obtain⟨_,o,ho,_⟩:=mem_ready.1 hj
     obtain⟨h1,h2⟩:=(hm.ready hlt ho).1 hj
     rw[<- hr]
     exact Jz (ops:=ops) (n:=ops.size) (i:=0) (bt j) (by rw[<- hm.size];omega) h1 h2
    have h:=Nr h j Bk
    split at h
    case h_3=>exact h.elim
    case h_2=>
     rename_i o ho tT
     unfold wpOp
     simp only[ho]
     have Hn:zA P ops (listed.setIfInBounds j true) σ E W gJ L:=fun r hr hn=>hL r hr (vQ hn)
     obtain⟨fr',hf',⟨hw,h⟩ | ⟨hw,h⟩⟩:=vx h hf
     ·rw[if_pos hw]
      split at h
      ·rename_i rr xs hrd
       split at h
       case h_2=>exact h.elim
       rename_i fS had
       obtain⟨v,y,h1,h2,h3⟩:=Ju h hs.inv (AT hf' had)
       obtain⟨fG,gf,h4⟩:=ni h3 hf' h2
       have Bt:=Sw hrd a.eval
       have hW:(execOp a.eval o).run P W= .ok (.value y) W:=by rw[Bt];simp [h1]
       exact .inl (k9 hW ⟨fun r hr hn lD hrun=>hrun,ih (iy m (2 ^ j)) (listed.setIfInBounds j true) gJ fG kb _ W σ E L (hm.set j) (hcl.set hj) hs gf Hn h4⟩)
      ·split at h
       case h_2=>exact h.elim
       obtain⟨v,y,h1,h2,h3⟩:=Jp h hf' hs.inv
       obtain⟨fG,gf,h4⟩:=ni h3 hf' h2
       exact .inl (k9 (h1 W) ⟨fun r hr hn lD hrun=>hrun,ih (iy m (2 ^ j)) (listed.setIfInBounds j true) gJ fG kb _ W σ E L (hm.set j) (hcl.set hj) hs gf Hn h4⟩)
     ·rw[if_neg (by simp [hw])]
      obtain⟨fG,gf,h4⟩:=ni h hf' (σ:=σ) (E:=E) (x:=undef) (by simp [Den])
      exact⟨fun r hr hn lD hrun=>hrun,ih (iy m (2 ^ j)) (listed.setIfInBounds j true) gJ fG kb _ W σ E L (hm.set j) (hcl.set hj) hs gf Hn h4⟩
    rename_i o ho tT
    unfold wpOp
    simp only[ho]
    obtain⟨fr',hf',⟨hw,h⟩ | ⟨hw,h⟩⟩:=vx h hf
    ·rw[if_pos hw]
     split at h
     ·rename_i G2 _
      obtain⟨h,k5⟩:=Ss h
      refine .inl (Oper.wp_mono (fun a' W' ha=>?_) (We (n:=n) (a:=a) G2 h hs.inv Q))
      obtain⟨⟨σ',E',kb',v,x,k1,k2,rfl,k4⟩,Pd⟩:=ha
      have hpre:=k1.pre
      obtain⟨τ,rfl⟩:=hpre
      obtain⟨fG,gf,h4⟩:=ni k4 (hf'.mono k1.le) k2
      refine⟨fun r hr hn lD hrun=>?_,ih (iy m (2 ^ j)) (listed.setIfInBounds j true) _ fG kb' _ W' _ E' L (hm.set j) (hcl.set hj) (hs.trans k1) gf (fun r hr hn=>?_) h4⟩
      ·obtain⟨l,hl,hlo⟩:=hL r hr hn
       obtain⟨t,ht,hk⟩:=k5 l hl
       exact(hlo.quiet (τ:=τ) k1.le hs.inv Pd ht hk).2.1
      ·obtain⟨l,hl,hlo⟩:=hL r hr (vQ hn)
       have lC:waits P ops j l.i=false:=by rw[<- hlo.1];exact B7 Bn tT hn
       obtain⟨t,ht,hk⟩:=k5 l hl
       exact⟨l,kM.2 ⟨hl,by simp [lC]⟩,hlo.quiet k1.le hs.inv Pd ht hk⟩
     split at h
     ·rename_i b bs hb
      obtain⟨h,hq⟩:=Jr h
      refine .inl (Oper.wp_mono (fun a' W' ha=>?_) (vW hX h hf' (Pl hs.inv) Q))
      obtain⟨σ',E',kb',v,x,k1,k2,rfl,k3⟩:=ha
      split at k3<;>try exact k3.elim
      rename_i kz Zn
      obtain⟨k1,tU⟩:=Up hs.inv k1 Zn
      obtain⟨k4,k5⟩:=vK k3
      obtain⟨τ,rfl⟩:=k1.pre
      obtain⟨fG,gf,h4⟩:=ni k4 (hf'.mono k1.le) k2
      have keep:∀{l:jW} {r:qD},l∈gJ->oo P σ E W l r->waits P ops j l.i=false->oo P (σ++τ) E' W' l r:=by
       intro l r hl hlo lC
       cases hr:tV (b::bs) l with
       |true=>exact hlo.fix k1.le hs.inv hr (hq l hl hr) tU
       |false=>exact hlo.step k1.le hs.inv.dj k1.inv (k5 l (kM.2 ⟨hl,by simp [hr]⟩) lC)
      refine⟨fun r hr hn lD hrun=>?_,ih (iy m (2 ^ j)) (listed.setIfInBounds j true) _ fG _ _ W' _ E' L (hm.set j) (hcl.set hj) (hs.trans k1) gf (fun r hr hn=>?_) h4⟩
      ·obtain⟨l,hl,hlo⟩:=hL r hr hn
       have lC:waits P ops j l.i=false:=by rw[<- hlo.1];exact lD
       exact(keep hl hlo lC).2.1
      ·obtain⟨l,hl,hlo⟩:=hL r hr (vQ hn)
       have lC:waits P ops j l.i=false:=by rw[<- hlo.1];exact B7 Bn tT hn
       exact⟨l,kM.2 ⟨hl,by simp [lC]⟩,keep hl hlo lC⟩
     refine .inl (Oper.wp_mono (fun a' W' ha=>?_) (vW hX h hf' hs.inv Q))
     obtain⟨σ',E',kb',v,x,k1,k2,rfl,k3⟩:=ha
     obtain⟨k4,k5⟩:=vK k3
     obtain⟨τ,rfl⟩:=k1.pre
     obtain⟨fG,gf,h4⟩:=ni k4 (hf'.mono k1.le) k2
     refine⟨fun r hr hn lD hrun=>?_,ih (iy m (2 ^ j)) (listed.setIfInBounds j true) _ fG kb' _ W' _ E' L (hm.set j) (hcl.set hj) (hs.trans k1) gf (fun r hr hn=>?_) h4⟩
     ·obtain⟨l,hl,hlo⟩:=hL r hr hn
      have lC:waits P ops j l.i=false:=by rw[<- hlo.1];exact lD
      exact((hlo.step k1.le hs.inv.dj k1.inv (k5 l hl lC)).2.1)
     ·obtain⟨l,hl,hlo⟩:=hL r hr (vQ hn)
      have lC:waits P ops j l.i=false:=by rw[<- hlo.1];exact B7 Bn tT hn
      exact⟨l,kM.2 ⟨hl,by simp [lC]⟩,hlo.step k1.le hs.inv.dj k1.inv (k5 l hl lC)⟩
    ·rw[if_neg (by simp [hw])]
     obtain⟨fG,gf,h4⟩:=ni h hf' (σ:=σ) (E:=E) (x:=undef) (by simp [Den])
     exact⟨fun r hr hn lD hrun=>hrun,ih (iy m (2 ^ j)) (listed.setIfInBounds j true) _ fG kb _ W σ E L (hm.set j) (hcl.set hj) hs gf (fun r hr hn=>by
      obtain⟨l,hl,hlo⟩:=hL r hr (vQ hn)
      have lC:waits P ops j l.i=false:=by rw[<- hlo.1];exact B7 Bn tT hn
      exact⟨l,kM.2 ⟨hl,by simp [lC]⟩,hlo⟩) h4⟩
mutual
def V.bY (ρ:Nat->Option Nat):V->Option V
 | .ptr i off=>match ρ i with | some j=>some (.ptr j off) | none=>none
 | .mp i=>match ρ i with | some j=>some (.mp j) | none=>none
 | .ch i=>match ρ i with | some j=>some (.ch j) | none=>none
 | .pa i base o=>match ρ i with | some j=>some (.pa j base o) | none=>none
 | .pw i ix=>match ρ i with | some j=>some (.pw j ix) | none=>none
 | .sa i base o s n c=>match ρ i with | some j=>some (.sa j base o s n c) | none=>none
 | .se i ix o s n c=>match ρ i with | some j=>some (.se j ix o s n c) | none=>none
 | .sl i lo hi=>match ρ i with | some j=>some (.sl j lo hi) | none=>none
 | .pe i ix br=>match ρ i with | some j=>some (.pe j ix br) | none=>none
 | .agg l=>match V.kW ρ l with | some l'=>some (.agg l') | none=>none
 | .υ l=>match V.kW ρ l with | some l'=>some (.υ l') | none=>none
 | .fn f l=>match V.kW ρ l with | some l'=>some (.fn f l') | none=>none
 | .tt=>some (.sb true)
 | .ff=>some (.sb false)
 | .lit k n=>some (.int k n)
 |v=>some v
def V.kW (ρ:Nat->Option Nat):List V->Option (List V)
 | []=>some []
 |v::vs=>match V.bY ρ v with
  |some v'=>match V.kW ρ vs with | some vs'=>some (v'::vs') | none=>none
  |none=>none
end
mutual
theorem Den.bY {ρ:Nat->Option Nat} {σ σ':Sg} {E:EH} (hρ:∀ i j r,ρ i=some j->σ[i]? =some r->σ'[j]? =some r):∀{v v':V} {x:Value},V.bY ρ v=some v'->Den σ E v x->Den σ' E v' x
 | .any _,_,_,h,hd | .int ..,_,_,h,hd | .lit ..,_,_,h,hd | .sb _,_,_,h,hd | .tt,_,_,h,hd | .ff,_,_,h,hd | .e0,_,_,h,hd | .dK ..,_,_,h,hd | .aa _,_,_,h,hd | .imp ..,_,_,h,hd | .dat _,_,_,h,hd=>by
  simp only[V.bY,bb.injEq]at h;subst h;simpa only[Den]using hd
 | .arr ..,_,_,h,hd=>by simp only[Den]at hd
 | .ptr i off,v',x,h,hd=>by
  simp only[V.bY]at h
  split at h
  ·rename_i j hj;cases h
   simp only[Den]at hd ⊢
   obtain⟨r,h1,h2⟩:=hd
   exact⟨r,hρ i j r hj h1,h2⟩
  ·cases h
 | .pa i base o,v',x,h,hd=>by
  simp only[V.bY]at h
  split at h
  ·rename_i j hj;cases h
   simp only[Den]at hd ⊢
   obtain⟨r,h1,h2⟩:=hd
   exact⟨r,hρ i j r hj h1,h2⟩
  ·cases h
 | .pe i ix br,v',x,h,hd=>by
  simp only[V.bY]at h
  split at h
  ·rename_i j hj;cases h
   simp only[Den]at hd ⊢
   obtain⟨r,h1,h2⟩:=hd
   exact⟨r,hρ i j r hj h1,h2⟩
  ·cases h
 | .pw i ix,v',x,h,hd=>by
  simp only[V.bY]at h
  split at h
  ·rename_i j hj;cases h
   simp only[Den]at hd ⊢
   obtain⟨r,h1,h2⟩:=hd
   exact⟨r,hρ i j r hj h1,h2⟩
  ·cases h
 | .mp i,v',x,h,hd=>by
  simp only[V.bY]at h
  split at h
  ·rename_i j hj;cases h
   simp only[Den]at hd ⊢
   obtain⟨r,h1,h2⟩:=hd
   exact⟨r,hρ i j r hj h1,h2⟩
  ·cases h
 | .ch i,v',x,h,hd=>by
  simp only[V.bY]at h
  split at h
  ·rename_i j hj;cases h
   simp only[Den]at hd ⊢
   obtain⟨r,h1,h2⟩:=hd
   exact⟨r,hρ i j r hj h1,h2⟩
  ·cases h
 | .sl i lo hi,v',x,h,hd=>by
  simp only[V.bY]at h
  split at h
  ·rename_i j hj;cases h
   simp only[Den]at hd ⊢
   obtain⟨r,a,h1,h2⟩:=hd
   exact⟨r,a,hρ i j r hj h1,h2⟩
  ·cases h
 | .sa i base o s n c,v',x,h,hd=>by
  simp only[V.bY]at h
  split at h
  ·rename_i j hj;cases h
   simp only[Den]at hd ⊢
   obtain⟨r,a,h1,h2⟩:=hd
   exact⟨r,a,hρ i j r hj h1,h2⟩
  ·cases h
 | .se i ix o s n c,v',x,h,hd=>by
  simp only[V.bY]at h
  split at h
  ·rename_i j hj;cases h
   simp only[Den]at hd ⊢
   obtain⟨r,a,h1,h2⟩:=hd
   exact⟨r,a,hρ i j r hj h1,h2⟩
  ·cases h
 | .agg l,v',x,h,hd=>by
  simp only[V.bY]at h
  split at h
  ·rename_i l' hl;cases h
   simp only[Den]at hd ⊢
   obtain⟨vs,h1,h2⟩:=hd
   exact⟨vs,h1,aT.bY hρ hl h2⟩
  ·cases h
 | .υ l,v',x,h,hd=>by
  simp only[V.bY]at h
  split at h
  ·rename_i l' hl;cases h
   simp only[Den]at hd ⊢
   obtain⟨vs,h1,h2⟩:=hd
   exact⟨vs,h1,aq.bY hρ hl h2⟩
  ·cases h
 | .fn f l,v',x,h,hd=>by
  simp only[V.bY]at h
  split at h
  ·rename_i l' hl;cases h
   simp only[Den]at hd ⊢
   obtain⟨vs,h1,h2⟩:=hd
   exact⟨vs,h1,aq.bY hρ hl h2⟩
  ·cases h
theorem aq.bY {ρ:Nat->Option Nat} {σ σ':Sg} {E:EH} (hρ:∀ i j r,ρ i=some j->σ[i]? =some r->σ'[j]? =some r):∀{vs vs':List V} {xs:List Value},V.kW ρ vs=some vs'->aq σ E vs xs->aq σ' E vs' xs
 | [],_,_,h,hd=>by simp only[V.kW,bb.injEq]at h;subst h;simpa only[aq]using hd
 |v::vs,_,_,h,hd=>by
  simp only[V.kW]at h
  split at h
  ·rename_i v' hv
   split at h
   ·rename_i us lB;cases h
    simp only[aq]at hd ⊢
    obtain⟨x,xs',h1,h2,h3⟩:=hd
    exact⟨x,xs',h1,Den.bY hρ hv h2,aq.bY hρ lB h3⟩
   ·cases h
  ·cases h
theorem aT.bY {ρ:Nat->Option Nat} {σ σ':Sg} {E:EH} (hρ:∀ i j r,ρ i=some j->σ[i]? =some r->σ'[j]? =some r):∀{vs vs':List V} {xs:List Value},V.kW ρ vs=some vs'->aT σ E vs xs->aT σ' E vs' xs
 | [],_,_,h,hd=>by simp only[V.kW,bb.injEq]at h;subst h;simpa only[aT]using hd
 |v::vs,_,_,h,hd=>by
  simp only[V.kW]at h
  split at h
  ·rename_i v' hv
   split at h
   ·rename_i us lB;cases h
    simp only[aT]at hd ⊢
    obtain⟨ys,zs,h1,h2,h3⟩:=hd
    refine⟨ys,zs,h1,?_,aT.bY hρ lB h3⟩
    rcases h2 with ⟨y,e,o,hy⟩ | ⟨m,cs,e,hl,hD⟩
    ·exact .inl ⟨y,e,o,Den.bY hρ hv hy⟩
    ·subst e
     simp only[V.bY,bb.injEq]at hv
     subst hv
     exact .inr ⟨m,cs,rfl,hl,hD⟩
   ·cases h
  ·cases h
end
def KO.bY (ρ:Nat->Option Nat):KO->Option KO
 | .cells l=>match V.kW ρ l with | some l'=>some (.cells l') | none=>none
 | .row ty sz l=>some (.row ty sz l)
 | .mp aA aS agg sz l=>some (.mp aA aS agg sz l)
 | .ch agg sz cap l=>some (.ch agg sz cap l)
 | .objs A=>some (.objs A)
 | .iW a=>some (.iW a)
 | .dead=>some .dead
theorem fY.bY {ρ:Nat->Option Nat} {σ σ':Sg} {E:EH} {W:World} (hρ:∀ i j r,ρ i=some j->σ[i]? =some r->σ'[j]? =some r) {o o':KO} {r:Re} (h:KO.bY ρ o=some o') (hh:fY σ E W r o):fY σ' E W r o':=by
 cases o with
 |cells l=>
  simp only[KO.bY]at h
  split at h
  ·rename_i l' hl;cases h
   obtain⟨arr,ty,h1,h2⟩:=hh
   exact⟨arr,ty,h1,aT.bY hρ hl h2⟩
  ·cases h
 |row ty sz l=>simp only[KO.bY,bb.injEq]at h;subst h;exact hh
 |mp aA aS agg sz l=>simp only[KO.bY,bb.injEq]at h;subst h;exact hh
 |ch agg sz cap l=>simp only[KO.bY,bb.injEq]at h;subst h;exact hh
 |objs A=>simp only[KO.bY,bb.injEq]at h;subst h;exact hh
 |iW a=>simp only[KO.bY,bb.injEq]at h;subst h;exact hh
 |dead=>simp only[KO.bY,bb.injEq]at h;subst h;trivial
theorem l6 {ρ:Nat->Option Nat} {o o':KO} {r:Re} (h:KO.bY ρ o=some o') {b:Nat}:owned r o' b ↔ owned r o b:=by
 cases o with
 |cells l=>
  simp only[KO.bY]at h
  split at h
  ·cases h;exact Iff.rfl
  ·cases h
 |row ty sz l=>simp only[KO.bY,bb.injEq]at h;subst h;exact Iff.rfl
 |mp aA aS agg sz l=>simp only[KO.bY,bb.injEq]at h;subst h;exact Iff.rfl
 |ch agg sz cap l=>simp only[KO.bY,bb.injEq]at h;subst h;exact Iff.rfl
 |objs A=>simp only[KO.bY,bb.injEq]at h;subst h;exact Iff.rfl
 |iW a=>simp only[KO.bY,bb.injEq]at h;subst h;exact Iff.rfl
 |dead=>simp only[KO.bY,bb.injEq]at h;subst h;exact Iff.rfl
def idx:List Nat->Nat->Option Nat
 | [],_=>none
 |a::l,i=>match cp a i with
  |true=>some 0
  |false=>match idx l i with | some k=>some (k+1) | none=>none
theorem Bw:∀{l:List Nat} {i k:Nat},idx l i=some k->l[k]? =some i
 | [],_,_,h=>by simp [idx]at h
 |a::l,i,k,h=>by
  simp only[idx]at h
  split at h
  ·rename_i hb
   cases h
   simp [cU hb]
  ·split at h
   ·rename_i j hj
    cases h
    simpa using Bw hj
   ·cases h
def ye (l:List Nat) (i:Nat):Bool:=match idx l i with | some _=>true | none=>false
def ui:List Nat->Bool
 | []=>true
 |a::l=>match ye l a with | true=>false | false=>ui l
theorem Bv:∀{l:List Nat} {i:Nat},i∈l->∃ k,idx l i=some k
 |a::l,i,h=>by
  simp only[idx]
  split
  ·exact⟨0,rfl⟩
  ·rename_i hb
   rcases ey.1 h with rfl | h
   ·simp at hb
   ·obtain⟨k,hk⟩:=Bv h
    exact⟨k+1,by rw[hk]⟩
theorem QP:∀{l:List Nat},ui l=true->l.Nodup
 | [],_=>List.nodup_nil
 |a::l,h=>by
  simp only[ui]at h
  split at h
  ·cases h
  ·rename_i hm
   refine List.nodup_cons.2 ⟨fun hin=>?_,QP h⟩
   obtain⟨k,hk⟩:=Bv hin
   simp [ye,hk]at hm
def rJ (ρ:Nat->Option Nat) (kb:KB):List Nat->Option KB
 | []=>some []
 |i::is=>match kb[i]? with
  |some o=>match KO.bY ρ o with
   |some o'=>match rJ ρ kb is with | some r=>some (o'::r) | none=>none
   |none=>none
  |none=>none
theorem wh {ρ:Nat->Option Nat} {kb:KB}:∀{order:List Nat} {r:KB},rJ ρ kb order=some r->r.length=order.length/\∀(k i:Nat),order[k]? =some i->∃(o o':KO),kb[i]? =some o/\KO.bY ρ o=some o'/\r[k]? =some o'
 | [],r,h=>by simp only[rJ,bb.injEq]at h;subst h;simp
 |i::is,r,h=>by
  simp only[rJ]at h
  split at h<;>try (cases h;done)
  rename_i o ho
  split at h<;>try (cases h;done)
  rename_i o' ho'
  split at h<;>try (cases h;done)
  rename_i r' hr'
  cases h
  obtain⟨h1,h2⟩:=wh hr'
  refine⟨by simp [h1],fun k j hk=>?_⟩
  cases k with
  |zero=>simp at hk;subst hk;exact⟨o,o',ho,ho',rfl⟩
  |succ k=>simpa using h2 k j (by simpa using hk)
def Jv:Re:=⟨0,0,0⟩
def dN (σ:Sg) (order:List Nat):Sg:=order.map fun i=>(σ[i]?).getD Jv
theorem Inv.sel {σ:Sg} {E:EH} {kb:KB} {W:World} (h:Inv σ E kb W) {order:List Nat} {kb':KB} (hn:ui order=true) (hs:rJ (idx order) kb order=some kb'):
  Inv (dN σ order) E kb' W/\(∀ b,cq (dN σ order) kb' b->cq σ kb b)/\(∀ i j r,idx order i=some j->σ[i]? =some r->(dN σ order)[j]? =some r):=by
 obtain⟨hl,da⟩:=wh hs
 have hnd:=QP hn
 have hρ:∀ i j r,idx order i=some j->σ[i]? =some r->(dN σ order)[j]? =some r:=fun i j r hi hr=>by
  simp [dN,Bw hi,hr]
 have Bh:∀(k:Nat) (r:Re) (o':KO),(dN σ order)[k]? =some r->kb'[k]? =some o'->∃ i o,order[k]? =some i/\σ[i]? =some r/\kb[i]? =some o/\KO.bY (idx order) o=some o':=by
  intro k r o' h1 h2
  simp only[dN,fE,Option.map_eq_some_iff]at h1
  obtain⟨i,hi,hr⟩:=h1
  obtain⟨o,o2,ho,qS,hk⟩:=da k i hi
  rw[h2]at hk;cases hk
  have hlt:i<σ.length:=by
   rw[h.len]
   exact(bG.1 ho).1
  rw[bp hlt]at hr
  simp at hr
  exact⟨i,o,hi,by rw[bp hlt,hr],ho,qS⟩
 have hown:∀ b,cq (dN σ order) kb' b->cq σ kb b:=by
  rintro b ⟨k,r,o',h1,h2,h3⟩
  obtain⟨i,o,_,hr,ho,qS⟩:=Bh k r o' h1 h2
  exact⟨i,r,o,hr,ho,(l6 qS).1 h3⟩
 refine⟨⟨by simp [dN,hl],fun k r o' h1 h2=>?_,fun k m r1 r2 o1 o2 b hkm h1 h2 h3 h4 h5 h6=>?_,h.dj,fun b hb=>h.sep b (hown b hb)⟩,hown,hρ⟩
 ·obtain⟨i,o,_,hr,ho,qS⟩:=Bh k r o' h1 h2
  exact(h.obj i r o hr ho).bY hρ qS
 ·obtain⟨i,o,hi,hr,ho,qS⟩:=Bh k r1 o1 h1 h2
  obtain⟨j,p,hj,hr',hp,hp2⟩:=Bh m r2 o2 h3 h4
  have hij:i≠j:=fun e=>by
   subst e
   have hk:=(bG.1 hi).1
   have hm:=(bG.1 hj).1
   rw[bp hk]at hi
   rw[bp hm]at hj
   simp at hi hj
   exact hkm ((List.getElem_inj hnd).1 (hi.trans hj.symm))
  exact h.dx i j r1 r2 o p b hij hr ho hr' hp ((l6 qS).1 h5) ((l6 hp2).1 h6)
mutual
def V.refs:V->List Nat
 | .ptr i _=>[i]
 | .sl i _ _=>[i]
 | .pe i _ _=>[i]
 | .pa i _ _=>[i]
 | .pw i _=>[i]
 | .sa i _ _ _ _ _=>[i]
 | .se i _ _ _ _ _=>[i]
 | .mp i=>[i]
 | .ch i=>[i]
 | .agg l=>V.wa l
 | .υ l=>V.wa l
 | .fn _ l=>V.wa l
 |_=>[]
def V.wa:List V->List Nat
 | []=>[]
 |v::vs=>V.refs v++V.wa vs
end
def KO.refs:KO->List Nat
 | .cells l=>V.wa l
 |_=>[]
def xi:List Nat->List Nat->List Nat
 |o,[]=>o
 |o,i::is=>match ye o i with | true=>xi o is | false=>xi (o++[i]) is
def reach (kb:KB):Nat->List Nat->Nat->List Nat
 | 0,o,_=>o
 |f+1,o,p=>match o[p]? with
  |none=>o
  |some i=>match kb[i]? with
   |some x=>reach kb f (xi o x.refs) (p+1)
   |none=>o
def vP:List Nat->List Nat->Bool
 | [],[]=>true
 |a::l,b::m=>match cp a b with | true=>vP l m | false=>false
 |_,_=>false
theorem QI:∀{l m:List Nat},vP l m=true->l=m
 | [],[],_=>rfl
 |a::l,b::m,h=>by
  simp only[vP]at h
  split at h
  ·rename_i hb;rw[cU hb,QI h]
  ·cases h
 | [],_:: _,h=>by simp [vP]at h
 |_:: _,[],h=>by simp [vP]at h
def Jk:KB->Nat->List Nat
 | [],_=>[]
 | .objs _::kb,i=>i::Jk kb (i+1)
 |_::kb,i=>Jk kb (i+1)
def sj (pl:Bool) (n0:Nat) (vals:List V) (kb:KB):Option (List V×KB×List Nat):=
 let o1:=reach kb (kb.length+1) (iw n0) 0
 let o3:=reach kb (kb.length+1) (xi o1 (V.wa vals)) o1.length
 let o2:=match pl with | true=>xi o3 (Jk kb 0) | false=>o3
 match ui o2,vP (o2.take n0) (iw n0)with
 |true,true=>match V.kW (idx o2) vals,rJ (idx o2) kb o2 with
  |some vs,some kb'=>some (vs,kb',o2)
  |_,_=>none
 |_,_=>none
theorem qI {pl:Bool} {n0:Nat} {vals:List V} {kb:KB} {vs:List V} {kb':KB} {o:List Nat} (h:sj pl n0 vals kb=some (vs,kb',o)):
  ui o=true/\o.take n0=iw n0/\V.kW (idx o) vals=some vs/\rJ (idx o) kb o=some kb':=by
 unfold sj at h
 simp only at h
 split at h
 ·rename_i h1 h2
  split at h
  ·rename_i vs' jG h3 h4
   simp only[bb.injEq,Prod.mk.injEq]at h
   obtain⟨rfl,rfl,rfl⟩:=h
   exact⟨h1,QI h2,h3,h4⟩
  ·cases h
 ·cases h
def canon (n0:Nat) (vals:List V) (kb:KB):Option (List V×KB×List Nat):=sj true n0 vals kb
theorem WS {n0:Nat} {vals:List V} {kb:KB} {vs:List V} {kb':KB} {o:List Nat} (h:canon n0 vals kb=some (vs,kb',o)):
 ui o=true/\o.take n0=iw n0/\V.kW (idx o) vals=some vs/\rJ (idx o) kb o=some kb':=qI h
theorem Step.sel {c:Cx} {σ:Sg} {E:EH} {kb:KB} {W:World} (h:Step c.σ c.E c.kb c.W σ E kb W) {vals:List V} {vs:List V} {kb':KB} {o:List Nat} (hc:canon c.σ.length vals kb=some (vs,kb',o)) {xs:List Value} (hd:aq σ E vals xs):
  ∃ σ',Step c.σ c.E c.kb c.W σ' E kb' W/\aq σ' E vs xs:=by
 obtain⟨h1,h2,h3,h4⟩:=WS hc
 obtain⟨k1,k2,k3⟩:=h.inv.sel h1 h4
 refine⟨dN σ o,⟨k1,h.bQ,?_,h.le,fun b hb=>h.own b (k2 b hb),h.new⟩,aq.bY k3 h3 hd⟩
 obtain⟨τ,oF⟩:=h.pre
 refine⟨(dN σ o).drop c.σ.length,?_⟩
 have e:(dN σ o).take c.σ.length=c.σ:=by
  unfold dN
  rw[<- List.map_take,h2,oF]
  apply lw
  intro i
  rcases jX i c.σ.length with hi | hi
  ·rw[fE,List.getElem?_range hi]
   simp [dP hi,bp hi]
  ·rw[gO (by simp;exact hi),gO hi]
 conv=>lhs;rw[<- List.take_append_drop c.σ.length (dN σ o),e]
end Vc
set_option linter.unusedSimpArgs false
set_option linter.unusedVariables false
namespace Vc
open Go Go.Conc
open Go.IntKind renaming i64->Z,u8->ι,u32->ic
open Go.Value renaming int->ν,map->kq,oneCell'->lU,bool->nE
open List renaming map->φ,drop->ay,take->az,length_append->bn,getElem?_eq_getElem->bp,getElem?_eq_some_iff->bG,length_map->bX,take_length->cM,length_take->cQ,replicate->dq,mem_append->dM,append_assoc->dO,getElem?_append_left->dP,mem_singleton->dQ,Mem->dS,mem_cons->ey,mem_map->eL,take_of_length_le->eM,getElem?_append_right->eW,mem_of_getElem?->fi,append_nil->fD,getElem?_map->fE,mem_cons_of_mem->fM,length_drop->fQ,getElem?_set_ne->gr,getD_eq_getElem?_getD->gD,getElem?_eq_none->gO,drop_zero->g_,getElem?_take_of_lt->hU,getElem?_set_self->ig,length_singleton->ii,length_set->ir,mem_cons_self->iu,range->iw,mem_append_left->iL,length_cons->iZ,take_add_one->i_,flatten_cons->jm,getElem?_drop->jw,getElem?_of_mem->jx,map_append->jy,nil_append->jV,length_nil->kn,mem_filter->kM,ext_getElem?->lw,eq_nil_of_length_eq_zero->ma,map_cons->mb,mem_append_right->mc
open Nat renaming le_refl->av,zero_le->bt,beq->cp,eq_of_beq_eq_true->cU,zero_add->c9,add_assoc->gE,lor->iy,lt_or_ge->jX,sub_zero->lT,le_trans->mf
open Option renaming some->bb,bind_eq_some_iff->kP,map->mO
open Int renaming toNat_natCast->cP,le_refl->fa
open Bool renaming and_eq_true->km,not_eq_false'->lm,not_eq_true'->lR
def JV (P:Program) (cases:Array SelectCase) (fr:Fr) (kb:KB) (K:V->KB->Prop):Prop:=
 match cases.toList with
 | [s]=>match ev fr s.chan with
  |some (.ch i)=>match s.send with
   |some y=>match kR fr y with | some v=>JX P s.elem i v kb K | none=>False
   |none=>JB P s.elem i kb K
  |_=>False
 |_=>False
def ut (P:Program) (X:bJ) (n:Nat) (ops:Array Oper):List Oper->(Fr->KB->Prop)->Fr->KB->Prop
 | [],K,fr,kb=>K fr kb
 |o::rest,K,fr,kb=>match o.op with
  | .select cases false=>match o.guard with
   |none=>JV P cases fr kb (fun v kb'=>kc n o.dst v fr (fun fr'=>ut P X n ops rest K fr' kb'))
   |some _=>False
  |_=>sB ops o fr (fun fr=>pG P X o fr kb (fun v kb'=>kc n o.dst v fr (fun fr'=>ut P X n ops rest K fr' kb')))
   (fun fr=>kc n o.dst (.any undef) fr (fun fr'=>ut P X n ops rest K fr' kb))
theorem ac8 {P:Program} {ops:Array Oper} {i:Nat} {rest:List Nat} {o:Oper} {a:Act} {w:World} {K:Act->World->Prop} (ho:ops[i]? =some o) (hw:Region.wanted o (yielded ops a.tmps)=true)
  (h:o.wp P a w K (fun _ _ _=>False)) (b:Frame) (k:List Item) (cs:List Frame):
  ∃ a' w',K a' w'/\Steps P (lone (b.at a (.inRegion ops (i::rest)::k)) cs w) (lone (b.at a' (.inRegion ops rest::k)) cs w'):=by
 have hg:=stepG_op (P:=P) (b:=b) (k:=k) (cs:=cs) (w:=w) (rest:=rest) ho hw
 have qb:∀(a:Act) (v:Value),(b.at a (.inRegion ops (i::rest)::k)).finish v=b.at (a.put o.dst v) (.inRegion ops rest::k):=fun a v=>by
  rw[Frame.finish_at,ho];rfl
 unfold Oper.wp at h
 generalize hr:(execOp a.eval o).run P w=r at h
 cases r with
 |halt x w'=>cases x<;>exact h.elim
 |ok x w'=>
  cases x with
  |value v=>
   exact⟨_,w',h,.one (step_lone_go (by rw[hg,<- qb];simp [stepG.apply,hr]))⟩
  |skip=>
   exact⟨_,w',h,.one (step_lone_go (by rw[hg,<- qb];simp [stepG.apply,hr]))⟩
  |defer d=>
   refine⟨_,w',h,.one (step_lone_go ?_)⟩
   have e:=qb {a with defers:=d::a.defers } undef
   rw[hg,<- e]
   simp only[stepG.apply,Sem.runT_eq,hr,GStep.bare_after]
   rfl
  |enter f args=>
   simp only[Oper.upon]at h
   obtain⟨e,w2,fr,hR,HE,_,Zq⟩:=h (b.at a (.inRegion ops (i::rest)::k)::cs)
   have He:step P (lone (b.at a (.inRegion ops (i::rest)::k)) cs w)= .next (lone (Frame.enter P f args .normal) (b.at a (.inRegion ops (i::rest)::k)::cs) w'):=
    step_lone_go (by rw[hg];simp [stepG.apply,hr,Frame.at])
   cases e with
   |returned v=>
    refine⟨_,w2,hR,.head He (HE.trans (.one ?_))⟩
    rw[<- qb];exact step_leave_returned Zq
   |panicked ch=>exact hR.elim
   |outgrown=>obtain⟨_,_,hq⟩:=hR;exact hq.elim
  |row r args=>
   simp only[Oper.upon]at h
   obtain⟨v,w2,hR,HE⟩:=h (b.at a (.inRegion ops (i::rest)::k)) cs
   have He:step P (lone (b.at a (.inRegion ops (i::rest)::k)) cs w)= .next (lone (Frame.ofRow P r args .normal) (b.at a (.inRegion ops (i::rest)::k)::cs) w'):=
    step_lone_go (by rw[hg];simp [stepG.apply,hr,Frame.at])
   refine⟨_,w2,hR,.head He ?_⟩
   rw[<- qb];exact HE
  |_=>exact h.elim
def za (P:Program) (ops:Array Oper) (Q:Act->World->Prop):List Nat->Act->World->Prop
 | [],a,w=>Q a w
 |i::rest,a,w=>∀(b:Frame) (k:List Item) (cs:List Frame),∃ a' w',za P ops Q rest a' w'/\
  Steps P (lone (b.at a (.inRegion ops (i::rest)::k)) cs w) (lone (b.at a' (.inRegion ops rest::k)) cs w')
theorem UW {P:Program} {ops:Array Oper} {Q:Act->World->Prop} (b:Frame) (k:List Item) (cs:List Frame):∀{l:List Nat} {a:Act} {w:World},za P ops Q l a w->
  ∃ a' w',Q a' w'/\Steps P (lone (b.at a (.inRegion ops l::k)) cs w) (lone (b.at a' k) cs w')
 | [],a,w,h=>⟨a,w,h,.one step_region_end⟩
 |i::rest,a,w,h=>by
  obtain⟨a1,w1,h1,s1⟩:=h b k cs
  obtain⟨a2,w2,h2,s2⟩:=UW b k cs h1
  exact⟨a2,w2,h2,s1.trans s2⟩
theorem ah0 {P:Program} {id:Nat} {ops:Array Oper} {Q:Exit->Act->World->Prop} {a:Act} {w:World} (h:za P ops (Q .normal) (iw ops.size) a w):(Code.region id ops false).wp P Q a w:=fun b k cs=>by
 obtain⟨a',w',hq,hs⟩:=UW b k cs h
 exact⟨.normal,a',w',hq,.head step_region hs⟩
theorem TE {P:Program} {b:Frame} {a:Act} {k:List Item} {cs:List Frame} {w:World} {ops:Array Oper} {i:Nat} {rest:List Nat} {o:Oper} {cases:Array CommCase} {blocking:Bool} {shape:CommShape} {w':World} (ho:ops[i]? =some o) (hw:Region.wanted o (yielded ops a.tmps)=true)
  (hr:(execOp a.eval o).run P w= .ok (.comm cases blocking shape) w'):
  ∃ es,stepG P true (G (b.at a (.inRegion ops (i::rest)::k)) cs) w= .comm (G (b.at a (.inRegion ops (i::rest)::k)) cs) cases blocking shape w' es:=by
 rw[stepG_oper ho hw]
 simp only[stepG.apply,Sem.runT_eq,hr,if_true,G]
 exact⟨_,rfl⟩
theorem aew {P:Program} {cases:Array SelectCase} {fr:Fr} {kb:KB} {K:V->KB->Prop} (h:JV P cases fr kb K) {σ:Sg} {E:EH} {n:Nat} {a:Act} (hf:eu σ E fr n a) {W:World} (hi:Inv σ E kb W)
  {o:Oper} (hop:o.op= .select cases false) {ops:Array Oper} {i:Nat} {rest:List Nat} (ho:ops[i]? =some o) (hw:Region.wanted o (yielded ops a.tmps)=true) (b:Frame) (k:List Item) (cs:List Frame):
  ∃ a' W',uR σ E kb W a o K a' W'/\Steps P (lone (b.at a (.inRegion ops (i::rest)::k)) cs W) (lone (b.at a' (.inRegion ops rest::k)) cs W'):=by
 have qb:∀(v:Value),(b.at a (.inRegion ops (i::rest)::k)).finish v=b.at (a.put o.dst v) (.inRegion ops rest::k):=fun v=>by
  rw[Frame.finish_at,ho];rfl
 unfold JV at h
 split at h<;>try exact h.elim
 rename_i s hs
 have hcs:cases=#[s]:=by
  have:=congrArg List.toArray hs
  simpa using this
 subst hcs
 split at h<;>try exact h.elim
 rename_i ci hch
 have hc:=bW hf hch
 simp only[Den]at hc
 obtain⟨r,hr,hc⟩:=hc
 split at h
 ·rename_i y hy
  split at h<;>try exact h.elim
  rename_i v hv
  have hx:=mU hf hv
  obtain⟨cap,buf,sn,rr,z,g1,g2,g3,g4⟩:=aex h hi hr hx
  have hrun:(execOp a.eval o).run P W= .ok (.comm #[scase r.blk (a.eval y) z] false .select) W:=by
   simp [execOp,hop,hc,hy,g2,scase]
  obtain⟨es,hG⟩:=TE (b:=b) (k:=k) (cs:=cs) (rest:=rest) ho hw hrun
  by_cases hroom:buf.size<cap
  ·obtain⟨E',kb',s1,hK⟩:=g3 hroom
   have hstep:=step_lone_select_send_room hG g1 hroom
   rw[qb]at hstep
   refine⟨_,_,⟨σ,E',kb',_,_,s1,?_,rfl,hK⟩,.one hstep⟩
   simp only[Den]
   exact⟨[goInt 0,.bool false],rfl,.cons (by simp [Den,goInt]) (.cons (by simp [Den]) .nil)⟩
  ·obtain⟨E',kb',s1,hK⟩:=g4 hroom
   have hstep:=step_lone_select_send_full hG g1 (by omega)
   rw[qb]at hstep
   refine⟨_,_,⟨σ,E',kb',_,_,s1,?_,rfl,hK⟩,.one hstep⟩
   simp only[Den]
   exact⟨[goInt (-1),.bool false],rfl,.cons (by simp [Den,goInt]) (.cons (by simp [Den]) .nil)⟩
 ·rename_i hy
  obtain⟨cap,buf,sn,rr,z,g1,g2,g3,g4⟩:=adY h hi hr
  have hrun:(execOp a.eval o).run P W= .ok (.comm #[rcase r.blk z] false .select) W:=by
   simp [execOp,hop,hc,hy,g2,rcase]
  obtain⟨es,hG⟩:=TE (b:=b) (k:=k) (cs:=cs) (rest:=rest) ho hw hrun
  by_cases hsome:0<buf.size
  ·obtain⟨u,kb',s1,hu,hK⟩:=g3 hsome
   have hstep:=step_lone_select_recv_buf hG g1 hsome
   rw[qb]at hstep
   refine⟨_,_,⟨σ,E,kb',_,_,s1,?_,rfl,hK⟩,.one hstep⟩
   simp only[Den]
   exact⟨[goInt 0,.bool true,buf.getD 0 undef],rfl,.cons (by simp [Den,goInt]) (.cons (by simp [Den]) (.cons hu .nil))⟩
  ·have hb:buf=#[]:=Array.size_eq_zero_iff.1 (by omega)
   obtain⟨u,hu,hK⟩:=g4 hb
   subst hb
   have hstep:=step_lone_select_default hG g1
   rw[qb]at hstep
   refine⟨_,_,⟨σ,E,kb,_,_,Step.refl hi,?_,rfl,hK⟩,.one hstep⟩
   simp only[Den]
   exact⟨[goInt (-1),.bool false,z],rfl,.cons (by simp [Den,goInt]) (.cons (by simp [Den]) (.cons hu .nil))⟩
theorem CO {P:Program} {X:bJ} (hX:bZ P X) {c:Cx} {n:Nat} {ops:Array Oper} {Q:Act->World->Prop} {K:Fr->KB->Prop} (hQ:∀ a W,jj c n K a W->Q a W):
  ∀{l:List Oper} {j:Nat} {a:Act} {W:World},(∀ m,l[m]? =ops[j+m]?)->jj c n (ut P X n ops l K) a W->za P ops Q (List.range' j l.length) a W
 | [],j,a,W,hl,h=>hQ a W h
 |o::rest,j,a,W,hl,h=>by
  have ho:ops[j]? =some o:=by have:=hl 0;simpa using this.symm
  have qX:∀ m,rest[m]? =ops[j+1+m]?:=fun m=>by
   have:=hl (m+1)
   rw[show j+1+m=j+(m+1) by omega]
   simpa using this
  obtain⟨σ,E,fr,kb,hs,hf,h⟩:=h
  rw[iZ,List.range'_succ]
  unfold za
  intro b k cs
  unfold ut at h
  split at h
  ·rename_i cases hop
   split at h<;>try exact h.elim
   rename_i Zb
   obtain⟨a',W',hA,hst⟩:=aew h hf hs.inv hop ho (by simp [Region.wanted,Zb]) b k cs (rest:=List.range' (j+1) rest.length)
   exact⟨a',W',CO hX hQ qX (hA.hat hs hf),hst⟩
  ·obtain⟨fr',hf',h | h⟩:=vx h hf
   ·obtain⟨a',W',hA,hst⟩:=ac8 ho h.1 (vW hX h.2 hf' hs.inv _) b k cs (rest:=List.range' (j+1) rest.length)
    exact⟨a',W',CO hX hQ qX (hA.hat hs hf'),hst⟩
   ·obtain⟨fG,h1,h2⟩:=ni h.2 hf' (σ:=σ) (E:=E) (x:=undef) (by simp [Den])
    have hst:=step_op_skip (P:=P) (b:=b) (a:=a) (k:=k) (cs:=cs) (w:=W) (ops:=ops) (i:=j) (rest:=List.range' (j+1) rest.length) (by simp [ho,h.1])
    simp only[ho,Option.bind_some]at hst
    exact⟨_,W,CO hX hQ qX ⟨σ,E,fG,kb,hs,h1,h2⟩,.one hst⟩
theorem ad7 {P:Program} {X:bJ} (hX:bZ P X) {c:Cx} {n:Nat} {id:Nat} {ops:Array Oper} {Q:Exit->Act->World->Prop} {K:Fr->KB->Prop} (hQ:∀ a W,jj c n K a W->Q .normal a W) {a:Act} {W:World}
  (h:jj c n (ut P X n ops ops.toList K) a W):(Code.region id ops false).wp P Q a W:=
 ah0 (by
  have:=CO hX (Q:=Q .normal) hQ (l:=ops.toList) (j:=0) (by simp) h
  rw[List.range_eq_range',<- Array.length_toList]
  exact this)
end Vc
