import Derived.Test.YtfcjngcnifdmnaaGreatQd
import Derived.KernelRfl
namespace Go.Proofs.YtfcjngcnifdmnaaGreat
open Vc Go
open Go.IntKind renaming i64->γ,u8->ν,u32->iy
open Vc.V renaming any->δ,sl->ε,int->ζ,sb->ξ,ptr->an,χ->av,dat->aH,af->aO,mp->bb,arr->bD,agg->fw
open Vc.D renaming val->η,sl->ω
open Vc.KO renaming row->υ,dead->aa,cells->aw,objs->cY
open Go.Value renaming int->φ,map->kr,oneCell'->l0
open List renaming map->ae,drop->ax,take->aA,length_append->bo,getElem?_eq_getElem->bz,getElem?_eq_some_iff->bO,length_map->cp,take_length->cZ,length_take->dc,mem_singleton->dm,replicate->dp,mem_append->dQ,Mem->dW,getElem?_append_left->dX,mem_map->ef,append_assoc->eH,mem_cons->eI,getElem?_append_right->e_,append_nil->fu,getElem?_map->fH,take_of_length_le->fI,length_drop->fZ,mem_cons_of_mem->f_,getElem?_set_ne->gE,length_cons->gF,mem_of_getElem?->gG,getElem?_eq_none->g_,getElem?_set_self->iz,length_set->iA,mem_cons_self->iB,length_singleton->iL,mem_append_left->iM,range->iN,drop_zero->iX,getD_eq_getElem?_getD->iY,getElem?_take_of_lt->ji,flatten_cons->jt,nil_append->ju,getElem?_drop->jE,map_append->jZ,take_add_one->j2,length_nil->ko,ext_getElem?->lB,getElem?_of_mem->lC,mem_append_right->lD,map_cons->lY,mem_filter->lZ,eq_nil_of_length_eq_zero->mq
open Nat renaming le_refl->au,zero_le->bt,beq->cq,eq_of_beq_eq_true->cP,zero_add->cQ,add_assoc->gR,lor->iO,lt_or_ge->jF,sub_zero->kV
open Option renaming some->bc,bind_eq_some_iff->kW,map->mU
open Int renaming le_refl->dy,toNat_natCast->dD
open Bool renaming and_eq_true->iW,not_eq_false'->nI
set_option linter.unusedVariables false
set_option linter.unusedSimpArgs false
set_option maxRecDepth 100000
structure dI where
 kd:Int
 n:List Int
 b:List Int
 l:List (List Int)
structure Post where
 to:Int
 m:dI
structure Dn where
 o:Op
 e:Int
 x:List Int
structure bX where
 ins:Int->Bool
 cy:Int->Bool
 cur:Option Op
structure Vw where
 vi:Int
 vv:Int
 ve:Int
 mem:List Int
 aC:List Int
structure θ where
 me:Int
 id:Int
 ep:Int
 nu:Int
 ce:Int
 ti:Int
 bl:Bool
 lo:Bool
 ch:Bool
 c:List Int
 t:List L3
 v:Vw
 ld:Option bX
 out:List Post
 done:List Dn
def jo (m:dI):List D:=[dn γ m.kd,.sl 1 (ints γ m.n),.sl 1 (ints ν m.b),.sl 1 (m.l.map fun x=>[.sl 1 (ints ν x)])]
def bR (p:Post):List D:=dn γ p.to::jo p.m
def dv (d:Dn):List D:=bn d.o++[dn γ d.e,.sl 1 (ints ν d.x)]
structure MB (M:ML) (f:Int->Bool):Prop where
 b:lz M
 f:∀ n,jn M [n] 0=f n
def gB (R:θ):List L3:=R.t
def aQ (R:θ):List Int:=bx R.me R.v.mem R.v.aC
def il (R:θ) (to kd:Int) (n:List Int) (b:List Int) (l:List (List Int)):θ:={R with out:=R.out++[⟨to,⟨kd,R.id::R.ep::n,b,l⟩⟩] }
def qC (R:θ) (to:Int):θ:=il R to 10 [R.nu] (bZ R.c) [be (gB R)]
def nT (R:θ) (to:Int):θ:=il R to 14 [R.nu] [] []
def x9 (R:θ) (o:Op) (to:Int):θ:=il R to 12 [R.nu,o.cl,o.nm,o.kd,o.bk,dN R.c] o.b []
def b_ (R:θ):Option Op:=R.ld.bind (·.cur)
def gn (R:θ):θ:={R with ld:=none,done:=R.done++(match b_ R with | some o=>[⟨o,19,[]⟩] | none=>[]) }
def gO (o:Op):Bool:=kI o.cl o.nm o.kd o.bk o.b.length
def jw (o:Op):Bool:=oM o.kd
def mA (t:List L3) (o:Op):List L3:=if jw o=true/\cW t o.cl o.nm 0=0 then oS t o.cl o.nm 0 else t
def ir (R:θ) (o:Op):θ:={R with nu:=R.nu+1,ch:=true,c:=fj R.c o.kd o.bk o.b,t:=mA R.t o }
def mK (c:List Int) (o:Op):List Int:=if o.kd=3 then(c.drop (o.bk.toNat*16)).take 16 else[]
def fb (R:θ):θ:=match R.ld with
 |some L=>match L.cur with
  |some o=>if(aQ R).all L.cy then{R with ld:=some {L with cur:=none },done:=R.done++[⟨o,0,mK R.c o⟩] }else R
  |none=>R
 |none=>R
def ii (R:θ):Bool:=match R.ld with
 |some L=>(aQ R).all L.ins
 |none=>false
def eL (R:θ):Bool:=R.ld.isSome
def l6 (R:θ):Bool:=(b_ R).isSome
def lN (R:θ) (o:Op):Option (Int×θ):=
 if gu (gB R) o.cl o.nm=1 then some (0,{R with done:=R.done++[⟨o,sD (gB R) o.cl o.nm,[]⟩] })
 else if gu (gB R) o.cl o.nm=2 then some (13,R)
 else if cW (gB R) o.cl o.nm 0=0 then none else some (cW (gB R) o.cl o.nm 0,R)
def lF (R:θ) (L:bX) (o:Op):θ:=
 let R1:={ir R o with ld:=some {L with cy:=fun _=>false,cur:=some o } }
 fb ((aQ R1).foldl (fun r k=>x9 r o k) R1)
def eE (R:θ) (o:Op):Int×θ:=
 if gO o=false then(1,R)else match R.ld with
 |none=>(12,R)
 |some L=>if ii R=false then(12,R)else if l6 R=true then(18,R)else
  match (if jw o then lN R o else none)with
  |some (e,R1)=>(e,R1)
  |none=>(0,lF R L o)
structure dz (R:θ):Prop where
 cl:R.c.length=128
 cb:bm R.c
 n0:0<=R.nu
 n1:R.nu<=2199023255552
 vl:R.v.mem.length+R.v.aC.length<=1000
 ol:R.out.length<=100000
 dl:R.done.length<=100000
 cr:∀ o,b_ R=some o->gO o=true
abbrev aj (Q:ML):KO:=.mp [γ] false false 1 Q
abbrev nO (R:θ):Nat:=(ae bR R.out).length
abbrev nD (R:θ):Nat:=(ae dv R.done).length
abbrev rO (R:θ):KO:=.row 107 5 (ae bR R.out)
abbrev rD (R:θ):KO:=.row 70 7 (ae dv R.done)
abbrev v7 (o:Op):KO:=.cells [.int γ o.cl,.int γ o.nm,.int γ o.kd,.int γ o.bk,aH (.sl 1 (ints ν o.b))]
abbrev nE (w:Vw):KO:=.cells [.int γ w.vi,.int γ w.vv,.int γ w.ve,aH (.sl 1 (ints γ w.mem)),aH (.sl 1 (ints γ w.aC))]
abbrev cR (R:θ) (t_ rH rE qR qV rQ qW:V):KO:=.cells [.int γ R.me,.int γ R.id,ξ R.bl,ξ R.lo,.int γ R.ep,.int γ R.nu,bD 128 (aU ν R.c),t_,.int γ R.v.vi,.int γ R.v.vv,.int γ R.v.ve,aH (.sl 1 (ints γ R.v.mem)),aH (.sl 1 (ints γ R.v.aC)),rH,rE,qR,qV,.int γ R.ce,ξ R.ch,.int γ R.ti,rQ,qW]
abbrev cS (R:θ) (I6 c_ xE t_ rH rE qR qV rQ qW:V):KO:=.cells [.int γ R.me,.int γ R.id,ξ R.bl,ξ R.lo,.int γ R.ep,I6,c_,t_,.int γ R.v.vi,.int γ R.v.vv,.int γ R.v.ve,aH (.sl 1 (ints γ R.v.mem)),aH (.sl 1 (ints γ R.v.aC)),rH,rE,qR,qV,.int γ R.ce,xE,.int γ R.ti,rQ,qW]
abbrev cG (R:θ) (lo_ Gq I6 c_ xE t_ rH rE qR qV rQ qW:V):KO:=.cells [.int γ R.me,.int γ R.id,ξ R.bl,lo_,Gq,I6,c_,t_,.int γ R.v.vi,.int γ R.v.vv,.int γ R.v.ve,aH (.sl 1 (ints γ R.v.mem)),aH (.sl 1 (ints γ R.v.aC)),rH,rE,qR,qV,.int γ R.ce,xE,.int γ R.ti,rQ,qW]
abbrev cT (R:θ) (ti_ t_ rH rE qR qV rQ qW:V):KO:=.cells [.int γ R.me,.int γ R.id,ξ R.bl,ξ R.lo,.int γ R.ep,.int γ R.nu,bD 128 (aU ν R.c),t_,.int γ R.v.vi,.int γ R.v.vv,.int γ R.v.ve,aH (.sl 1 (ints γ R.v.mem)),aH (.sl 1 (ints γ R.v.aC)),rH,rE,qR,qV,.int γ R.ce,ξ R.ch,ti_,rQ,qW]
abbrev cV (R:θ) (w:Vw) (Gq xE t_ rH rE qR qV rQ qW:V):KO:=.cells [.int γ R.me,.int γ R.id,ξ R.bl,ξ R.lo,Gq,.int γ R.nu,bD 128 (aU ν R.c),t_,.int γ w.vi,.int γ w.vv,.int γ w.ve,aH (.sl 1 (ints γ w.mem)),aH (.sl 1 (ints γ w.aC)),rH,rE,qR,qV,.int γ R.ce,xE,.int γ R.ti,rQ,qW]
def aB (R:θ) (kb:KB):Prop:=match R.ld with
 |none=>∃ ο π T,bG T R.t/\kb=[cR R (ai T) (ξ false) (δ ο) (δ π) (.af none) (.sl 1 0 (nO R)) (.sl 2 0 (nD R)),rO R,rD R]
 |some L=>∃ I Q T,MB I L.ins/\MB Q L.cy/\bG T R.t/\kb=[cR R (ai T) (ξ true) (.mp 1) (.mp 2) (.af (L.cur.map bn)) (.sl 3 0 (nO R)) (.sl 4 0 (nD R)),aj I,aj Q,rO R,rD R]
def j8 (R:θ) (o:Op) (to:Int):Post:=⟨to,⟨12,[R.id,R.ep,R.nu,o.cl,o.nm,o.kd,o.bk,dN R.c],o.b,[]⟩⟩
def jh (R:θ) (to:Int):Post:=⟨to,⟨10,[R.id,R.ep,R.nu],bZ R.c,[be (gB R)]⟩⟩
theorem sO (o:Op):∀(l:List Int) (r:θ),l.foldl (fun r k=>x9 r o k) r={r with out:=r.out++l.map (j8 r o) }
 | [],r=>by simp
 |a::l,r=>by
  rw[List.foldl_cons,sO o l]
  simp [x9,il,j8,eH]
theorem Kx:∀(l:List Int) (r:θ),l.foldl qC r={r with out:=r.out++l.map (jh r) }
 | [],r=>by simp
 |a::l,r=>by
  rw[List.foldl_cons,Kx l]
  simp [qC,il,jh,gB,eH]
theorem Ug {R:θ} {o:Op} (h:gO o=false):eE R o=(1,R):=by unfold eE;rw[if_pos h]
theorem Ui {R:θ} {o:Op} (h:gO o=true) (h2:ii R=false):eE R o=(12,R):=by
 unfold eE;rw[if_neg (by simp [h])]
 cases R.ld with
 |none=>rfl
 |some L=>simp only[if_pos h2]
theorem afa {R:θ} {o:Op} {L:bX} (h:gO o=true) (hl:R.ld=some L) (h2:ii R=true) (h3:l6 R=true):eE R o=(18,R):=by
 unfold eE;rw[if_neg (by simp [h]),hl]
 simp only[h2,h3];simp
theorem Ku {R:θ} {o:Op} {L:bX} {p:Int×θ} (h:gO o=true) (hl:R.ld=some L) (h2:ii R=true) (h3:l6 R=false) (h4:jw o=true) (h5:lN R o=some p):eE R o=p:=by
 unfold eE;rw[if_neg (by simp [h]),hl]
 simp only[h2,h3,h4,h5];simp
theorem Uh {R:θ} {o:Op} {L:bX} (h:gO o=true) (hl:R.ld=some L) (h2:ii R=true) (h3:l6 R=false) (h5:jw o=true->lN R o=none):eE R o=(0,lF R L o):=by
 unfold eE;rw[if_neg (by simp [h]),hl]
 simp only[h2,h3]
 by_cases h4:jw o=true
 ·simp [h4,h5 h4]
 ·simp [h4]
theorem Xu {R:θ} {L:bX} {o:Op} (h:aQ R≠[]):lF R L o={R with nu:=R.nu+1,ch:=true,c:=fj R.c o.kd o.bk o.b,t:=mA R.t o,ld:=some ⟨L.ins,fun _=>false,some o⟩,out:=R.out++(aQ R).map (j8 (ir R o) o) }:=by
 unfold lF
 simp only[sO]
 have ho:aQ {ir R o with ld:=some {L with cy:=fun _=>false,cur:=some o } }=aQ R:=rfl
 rw[ho]
 unfold fb
 simp only
 rw[if_neg (by
  show ¬ (aQ R).all (fun _=>false)=true
  cases hh:aQ R with
  |nil=>exact absurd hh h
  |cons a l=>simp)]
 rfl
theorem Xt {R:θ} {L:bX} {o:Op} (h:aQ R=[]):lF R L o={R with nu:=R.nu+1,ch:=true,c:=fj R.c o.kd o.bk o.b,t:=mA R.t o,ld:=some ⟨L.ins,fun _=>false,none⟩,done:=R.done++[⟨o,0,mK (fj R.c o.kd o.bk o.b) o⟩] }:=by
 unfold lF
 simp only[sO]
 have ho:aQ {ir R o with ld:=some {L with cy:=fun _=>false,cur:=some o } }=aQ R:=rfl
 rw[ho,h]
 unfold fb
 simp only
 rw[if_pos (by
  show(aQ R).all (fun _=>false)=true
  rw[h];rfl)]
 simp [ir]
theorem sw {Q:ML} {f:Int->Bool} (h:MB Q f) (me:Int) (m j:List Int):allI me m j Q=(bx me m j).all f:=by
 unfold allI nS
 rw[Bool.eq_iff_iff]
 simp only[Bool.not_eq_true',List.any_eq_false,List.all_eq_true,Bool.not_eq_true]
 constructor
 ·intro hh x hx
  have:=hh x hx
  rw[h.f]at this
  simpa using this
 ·intro hh x hx
  rw[h.f,hh x hx];simp
theorem rK:MB [] (fun _=>false):=⟨⟨fun k cs h=>by simp [bK]at h⟩,fun n=>by simp [jn,bK]⟩
theorem IG:∀{M:ML} {k k':List Int} {c:List D},bK (bL M k c) k'=if k'=k then some c else bK M k'
 | [],k,k',c=>by simp only[bL,bK]
 | (a,v)::M,k,k',c=>by
  simp only[bL]
  by_cases hk:k=a
  ·subst hk
   rw[if_pos rfl]
   by_cases h2:k'=k
   ·simp [bK,h2]
   ·simp [bK,h2]
  ·rw[if_neg hk]
   simp only[bK]
   by_cases h2:k'=a
   ·subst h2
    rw[if_pos rfl,if_pos rfl,if_neg (fun e=>hk e.symm)]
   ·rw[if_neg h2,if_neg h2]
    exact IG
theorem mG {M:ML} {f:Int->Bool} (h:MB M f) (k:Int) (v:Bool):MB (bL M [k] [.val (.bool v)]) (fun n=>if n=k then v else f n):=by
 refine⟨⟨fun k' cs hk=>?_⟩,fun n=>?_⟩
 ·rw[IG]at hk
  split at hk
  ·cases hk;exact⟨v,rfl⟩
  ·exact h.b.h k' cs hk
 ·unfold jn
  rw[IG]
  by_cases e:n=k
  ·subst e;simp [bv]
  ·have e2:¬ ([n]:List Int)=[k]:=fun x=>e (by simpa using x)
   rw[if_neg e2,if_neg e]
   exact h.f n
def Ei:aD:=fun args kb K=>match args,kb with
 | [aH (.sl 1 B)],[]=>bP B.length/\K (aH (.sl 1 B)) []
 |_,_=>False
abbrev F5:LI where
 α:=Empty
 live:=[]
 st i:=i.elim
 μ i:=i.elim
 all _:=True
 xw:=fun _ _ i=>i.elim
def cutAt (r:Nat):Nat->Option LI:=fun q=>match cq q r with | true=>some F5 | false=>none
def uD (T:ML) (cl nm kd:Int):ML:=if oM kd then bL T [cl] [dn γ nm,dn γ 0]else T
def qc (l:List Int) (R:θ) (o:Op):List (List D):=l.map fun to=>qb to R.id R.ep (R.nu+1) (fj R.c o.kd o.bk o.b) o
abbrev Ko (R:θ) (T:ML) (I Q:ML) (u:Option (List D)) (o:Op):LI where
 α:={_u:Unit // jw o=true->cW (gB R) o.cl o.nm 0=0}
 live:=[0,3]
 st _:=([an 0 0,an 5 0],[cR R (ai T) (ξ true) (.mp 1) (.mp 2) (.af u) (.sl 3 0 (nO R)) (.sl 4 0 (nD R)),aj I,aj Q,rO R,rD R,v7 o])
 μ _:=0
abbrev Kq (R:θ) (T:ML) (I Q:ML) (u:Option (List D)) (o:Op):LI where
 α:=Unit
 live:=[0,3]
 st _:=([an 0 0,an 5 0],[cS R (.int γ (R.nu+1)) (bD 128 (aU ν (fj R.c o.kd o.bk o.b))) (ξ true) (ai (uD T o.cl o.nm o.kd)) (ξ true) (.mp 1) (.mp 2) (.af u) (.sl 3 0 (nO R)) (.sl 4 0 (nD R)),aj I,aj Q,rO R,rD R,v7 o])
 μ _:=0
abbrev Kr (R:θ) (T:ML) (I Q:ML) (u:Option (List D)) (o:Op):LI where
 α:={i:Nat // i<=(aQ R).length}
 live:=[0,52,53,54]
 dV:=[.ql 0 143,.mv 0 147]
 st i:=([an 0 0,.sl 7 0 (aQ R).length,.int γ ((aQ R).length:Int),.int γ (i.1:Int)],[cS R (.int γ (R.nu+1)) (bD 128 (aU ν (fj R.c o.kd o.bk o.b))) (ξ true) (ai (uD T o.cl o.nm o.kd)) (ξ true) (.mp 1) (.mp 5) (.af (some (bn o))) (.sl 6 0 ((nO R)+i.1)) (.sl 4 0 (nD R)),aj I,aj Q,aa,rD R,aj [],υ 107 5 (R.out.map bR++qc ((aQ R).take i.1) R o),υ 3 1 (ints γ (iu R.me R.v.mem R.v.aC))])
 μ i:=(aQ R).length - i.1
def Uc (R:θ) (T:ML) (I Q:ML) (u:Option (List D)) (o:Op):Nat->Option LI
 | 1012=>some (Ko R T I Q u o)
 | 1014=>some (Kq R T I Q u o)
 | 16=>some (Kr R T I Q u o)
 |_=>none
def Dt:FuncId->Option dK
 | 14=>some ⟨[],eB [false,true,true,true,true,true,false,true,true,true,true,false,false,false,false,true,false,true,true,true,true,true] qQ⟩
 | 52=>some ⟨[],Ac⟩
 | 53=>some ⟨[],Et⟩
 | 54=>some ⟨[],eB [true,true,true,true,true,true,false,false,true,true,true,true,true,true,true,true,true,true,true,true,true,false] Eu⟩
 | 55=>some ⟨[],Ei⟩
 | 56=>some ⟨[],eB [true,true,true,true,true,false,false,false,true,true,true,true,true,true,true,true,true,true,false,true,true,true] z8⟩
 | 44=>some ⟨[],eB [false,true,true,true,true,true,false,true,true,true,true,false,false,true,true,true,true,true,true,true,true,true] vf⟩
 | 57=>some ⟨[],eB [true,false,true,true,false,false,false,true,true,true,true,true,true,true,true,true,false,true,true,true,false,true] Ab⟩
 | 58=>some ⟨[],eB [false,true,true,true,true,true,false,true,true,true,true,false,false,true,true,false,false,true,true,true,true,false] z_⟩
 |_=>none
noncomputable def E9:bN:=dU Tryz.prog Dt aI 10
def Kt:FuncId->Option dK
 | 14=>some ⟨[],eB [true,true,true,true,true,true,false,true,true,true,true,true,true,false,true,true,false,true,true,true,true,true] qQ⟩
 |f=>Dt f
noncomputable def E_:bN:=dU Tryz.prog Kt aI 10
theorem ags (B:List (List D)) (K:V->KB->Prop) (ar:
 ∀(y1:Bool),(y1=true->
 B.length=0)->
 (y1=true->
 K (aH (ω 1 [])) [])/\
 (y1=false->
 True/\
 0<=0/\
 (0+B.length)*1<=140737488355328/\
 0+B.length<=([]++B).length/\
 K (aH (ω 1 (ax 0 (aA (0+B.length) ([]++B))))) [])
 ):aK Tryz.prog X0 (aI 55) 55 [aH (.sl 1 B)] [] (jJ [.fk 1] (dx 0 K)):=by apply Eq.mp (a:=ar);kernel_rfl
theorem ahu (R:θ) (T:ML) (I Q:ML) (u:Option (List D)) (o:Op) (K:V->KB->Prop) (ar:
 let dO:=[1,2,3,4,5,7,8,9,10,13,14,17,18,19,20];let bW:=(ints γ (iu R.me R.v.mem R.v.aC));let bV:=(ai (uD T o.cl o.nm o.kd));let cf:=[0,1,2,3,4,8,9,10,11,12,13,14,15,16,17,19,20,21];let bp:=(aU ν (fj R.c o.kd o.bk o.b));let aJ:=(ζ γ (R.nu+1));let aL:=[0,1,2,3,4,5,8,9,10,11,12,13,14,15,16,17,18,19,20];let ah:=At (Ko R T I Q u o) ([an 0 0,an 5 0],[cR R (ai T) (ξ true) (bb 1) (bb 2) (aO u) (ε 3 0 (nO R)) (ε 4 0 (nD R)),aj I,aj Q,rO R,rD R,v7 o]);let κ:KB:=[cR R (ai T) (ξ true) (bb 1) (bb 2) (aO u) (ε 3 0 (nO R)) (ε 4 0 (nD R)),aj I,aj Q,rO R,rD R];∀(y1:Nat->
 Value),∃(y2:List Int),∃(y3:List Int),ints γ R.v.mem=ints γ y2/\
 ints γ R.v.aC=ints γ y3/\
 dH (y2.length+y3.length)/\
 lz I/\
 true=true/\
 bw y1 [1,2,3,4,5,7,8,9,10,15,17,18,19,20,21]/\
 ((!kI o.cl o.nm o.kd o.bk (ints ν o.b).length)=true->
 K (ζ γ 1) κ)/\
 ((!kI o.cl o.nm o.kd o.bk (ints ν o.b).length)=false->
 ((!allI R.me y2 y3 I)=true->
 K (ζ γ 12) κ)/\
 ((!allI R.me y2 y3 I)=false->
 ((!u.isNone)=true->
 K (ζ γ 18) κ)/\
 ((!u.isNone)=false->
 ((oM o.kd=true->
 ∀(y4:Nat->
 Value),nD R=(nD R)/\
 bP (nD R)/\
 ∃(y5:List L3),let bC:=υ 70 7 (ae dv R.done++[(bn o++[dn γ (sD y5 o.cl o.nm),ω 1 []])]);bG T y5/\
 (va (gu y5 o.cl o.nm) 1->
 bw y4 aL/\
 (true=true->
 K (ζ γ 0) [cR R (ai T) (ξ true) (bb 1) (bb 2) (aO u) (ε 3 0 (nO R)) (ε 4 0 (nD R+1)),aj I,aj Q,rO R,bC])/\
 (true=false->
 At (Ko R T I Q u o) ([an 0 0,an 6 0],[cR R (ai T) (ξ true) (bb 1) (bb 2) (aO u) (ε 3 0 (nO R)) (ε 5 0 (nD R+1)),aj I,aj Q,rO R,aa,bC,v7 o])))/\
 (va (gu y5 o.cl o.nm) 2->
 bw y4 aL/\
 (true=true->
 K (ζ γ 13) κ)/\
 (true=false->
 ah))/\
 (va (gu y5 o.cl o.nm) 0->
 (mr (cW y5 o.cl o.nm 0)->
 bw y4 aL/\
 (true=true->
 K (ζ γ (cW y5 o.cl o.nm 0)) κ)/\
 (true=false->
 ah))/\
 (mj (cW y5 o.cl o.nm 0)->
 bw y4 aL/\
 (false=true->
 K (ζ γ 0) κ)/\
 (false=false->
 ah))))/\
 (oM o.kd=false->
 ah))/\
 ∀(y7:{y6:Unit // jw o=true->
 cW (gB R) o.cl o.nm 0=0}),bP (ints ν o.b).length/\
 (∀(y8:Nat->
 Value),∃(y9:List Int),∃(cO:List Int),let cw:=(bD 128 (aU ν (fj y9 o.kd o.bk cO)));let az:=At (Kq R T I Q u o) ([an 0 0,an 5 0],[cS R aJ cw (ξ true) (ai T) (ξ true) (bb 1) (bb 2) (aO u) (ε 3 0 (nO R)) (ε 4 0 (nD R)),aj I,aj Q,rO R,rD R,v7 o]);∃(cC:List L3),iJ (aU ν R.c) y9/\
 ints ν o.b=ints ν cO/\
 bG T cC/\
 qP R.nu/\
 vd o.cl o.nm o.kd o.bk cO.length/\
 (zP o.kd->
 bw y8 cf/\
 az)/\
 (zB o.kd->
 (mr (cW cC o.cl o.nm 0)->
 bw y8 cf/\
 az)/\
 (mj (cW cC o.cl o.nm 0)->
 bw y8 cf/\
 At (Kq R T I Q u o) ([an 0 0,an 5 0],[cS R aJ cw (ξ true) (ai (bL T [o.cl] [dn γ o.nm,η (φ γ 0)])) (ξ true) (bb 1) (bb 2) (aO u) (ε 3 0 (nO R)) (ε 4 0 (nD R)),aj I,aj Q,rO R,rD R,v7 o]))))/\
 ∀(cD:Unit) (cM:Nat->
 Value),∃(dC:List Int),∃(cX:List Int),ints γ R.v.mem=ints γ dC/\
 ints γ R.v.aC=ints γ cX/\
 dH (dC.length+cX.length)/\
 bw cM [1,2,3,4,5,7,8,9,10,13,14,15,16,17,18,19,20,21]/\
 At (Kr R T I Q u o) ([an 0 0,ε 7 0 (bx R.me dC cX).length,ζ γ (↑((bx R.me dC cX).length - 0):Int),ζ γ 0],[cS R aJ (bD 128 bp) (ξ true) bV (ξ true) (bb 1) (bb 5) (aO (some (bn o))) (ε 6 0 (nO R)) (ε 4 0 (nD R)),aj I,aj Q,aa,rD R,aj [],rO R,υ 3 1 (ints γ (iu R.me dC cX))])/\
 ∀(dg:{fS:Nat // fS<=(aQ R).length}),let cK:=(↑dg.val:Int)<(↑(aQ R).length:Int);let aV:=(ae bR R.out++qc (aA dg.val (aQ R)) R o);(decide (cK)=true->
 bj (↑dg.val:Int) ((aQ R).length - 0)/\
 ∃(fg:List D),bW[0+(↑dg.val:Int).toNat]? =some fg/\
 ∃(fD:Int),fg[0]? =some (η (φ γ fD))/\
 ∀(fN:Nat->
 Value),nO R+dg.val=aV.length/\
 bP (nO R+dg.val)/\
 ∃(eY:List Int),∃(fE:Op),iJ bp eY/\
 some (bn o)=some (bn fE)/\
 bw fN [0,2,3,7,8,9,10,11,12,13,14,15,17,18,19,21]/\
 Nx (Kr R T I Q u o) dg ([an 0 0,ε 7 0 (aQ R).length,ζ γ (↑(aQ R).length:Int),ζ γ (γ.wrap ((↑dg.val:Int)+1))],[cS R aJ (bD 128 (aU ν eY)) (ξ true) bV (ξ true) (bb 1) (bb 5) (aO (some (bn o))) (ε 6 0 (nO R+dg.val+1)) (ε 4 0 (nD R)),aj I,aj Q,aa,rD R,aj [],υ 107 5 (ae bR R.out++qc (aA dg.val (aQ R)) R o++[[dn γ fD,η (φ γ 12),ω 1 [[dn γ R.id],[dn γ R.ep],[dn γ (R.nu+1)],[dn γ fE.cl],[dn γ fE.nm],[dn γ fE.kd],[dn γ fE.bk],[dn γ (dN eY)]],ω 1 (ints ν fE.b),ω 1 []]]),υ 3 1 bW]))/\
 (decide (cK)=false->
 ∀(iT:Nat->
 Value),nD R=(nD R)/\
 bP (nD R)/\
 ∃(gm:List Int),∃(eT:List Int),∃(eZ:List Int),∃(eF:Op),iJ bp eZ/\
 ints γ R.v.mem=ints γ gm/\
 ints γ R.v.aC=ints γ eT/\
 dH (gm.length+eT.length)/\
 lz []/\
 some (bn o)=some (bn eF)/\
 lR eF.bk/\
 (allI R.me gm eT []=false->
 bw iT dO/\
 K (ζ γ 0) [cS R aJ (bD 128 bp) (ξ true) bV (ξ true) (bb 1) (bb 2) (aO (some (bn o))) (ε 3 0 (nO R+dg.val)) (ε 4 0 (nD R)),aj I,aj [],υ 107 5 aV,rD R])/\
 (allI R.me gm eT []=true->
 bw iT dO/\
 K (ζ γ 0) [cS R aJ (bD 128 (aU ν eZ)) (ξ true) bV (ξ true) (bb 1) (bb 2) (aO none) (ε 3 0 (nO R+dg.val)) (ε 4 0 (nD R+1)),aj I,aj [],υ 107 5 aV,υ 70 7 (ae dv R.done++[(bn eF++[η (φ γ 0),ω 1 (qa eZ eF.kd eF.bk)])])])))))
 ):aK Tryz.prog E9 (Uc R T I Q u o) 21 [an 0 0,.agg [.int γ o.cl,.int γ o.nm,.int γ o.kd,.int γ o.bk,aH (.sl 1 (ints ν o.b))]] [cR R (ai T) (ξ true) (.mp 1) (.mp 2) (.af u) (.sl 3 0 (nO R)) (.sl 4 0 (nD R)),aj I,aj Q,rO R,rD R] (eX K):=by apply Eq.mp (a:=ar);kernel_rfl
theorem ahv (R:θ) (T:ML) (ο π:Value) (o:Op) (K:V->KB->Prop) (ar:
 let κ:KB:=[cR R (ai T) (ξ false) (δ ο) (δ π) (aO none) (ε 1 0 (nO R)) (ε 2 0 (nD R)),rO R,rD R];∀(y1:Nat->
 Value),false=false/\
 bw y1 [0,1,2,3,4,5,7,8,9,10,11,12,14,15,17,18,19,20,21]/\
 (((!kI o.cl o.nm o.kd o.bk (ints ν o.b).length)=true->
 K (ζ γ 1) κ)/\
 ((!kI o.cl o.nm o.kd o.bk (ints ν o.b).length)=false->
 (true=true->
 K (ζ γ 12) κ)/\
 (true=false->
 (false=true->
 K (ζ γ 18) κ)/\
 (false=false->
 At F5 ([],κ)))))/\
 True
 ):aK Tryz.prog E_ (cutAt 1008) 21 [an 0 0,.agg [.int γ o.cl,.int γ o.nm,.int γ o.kd,.int γ o.bk,aH (.sl 1 (ints ν o.b))]] [cR R (ai T) (ξ false) (δ ο) (δ π) (.af none) (.sl 1 0 (nO R)) (.sl 2 0 (nD R)),rO R,rD R] (eX K):=by apply Eq.mp (a:=ar);kernel_rfl
theorem T7 {P:Program} {X:bN} (hX:b9 P X) (hm:P.follows .mixedOrders=true) (ms:List Vc.Mode) {f:FuncId} {S:aD} (h:∀ args kb K,S args kb K->∃ T,aK P X T f args kb (jJ ms (dx kb.length K))):aR P f S:=
 fun args kb K hs=>By (fC hX hm (S:=fun a k K0=>∃ T,aK P X T f a k K0) fun _ _ _ h=>h) ms args kb K (h args kb K hs)
theorem abN:aR Tryz.prog 55 Ei:=T7 hZ mixed [.fk 1] (fun args kb K h=>by
 unfold Ei at h;split at h<;>try exact h.elim
 obtain⟨⟨hn⟩,h⟩:=h
 refine⟨_,ags _ K fun b hb=>⟨fun e=>?_,fun _=>⟨trivial,au _,by omega,by simp,?_⟩⟩⟩
 ·have:=mq (hb e)
  rw[this]at h;exact h
 ·simpa using h)
theorem N9 {c b:List Int} {cl nm kd bk:Int} (hc:c.length=128) (h:kI cl nm kd bk b.length=true):(fj c kd bk b).length=128:=by
 simp only[kI,decide_eq_true_eq]at h
 unfold fj
 split
 ·rename_i e
  rw[mL (by have:=h.2.2.2.2.2.2.2.2 e;omega),hc]
 ·split
  ·rw[mL (by rw[List.length_replicate];omega),hc]
  ·exact hc
theorem N8 {c b:List Int} {kd bk:Int} (hc:bm c) (h:bm b):bm (fj c kd bk b):=by
 have hs:∀(k:Nat) (v:List Int),bm v->bm (splice c k v):=fun k v hv x hx=>by
  unfold splice at hx
  rcases dQ.1 hx with hx | hx
  ·rcases dQ.1 hx with hx | hx
   ·exact hc x (List.mem_of_mem_take hx)
   ·exact hv x hx
  ·exact hc x (List.mem_of_mem_drop hx)
 unfold fj
 split
 ·exact hs _ _ h
 ·split
  ·exact hs _ _ (fun x hx=>by rw[List.eq_of_mem_replicate hx];omega)
  ·exact hc
theorem Ta {x:List L3} {c n:Int} (h:cW x c n 0=0):¬ (gu x c n=1∨gu x c n=2):=by
 unfold cW at h
 split at h
 ·omega
 ·unfold gu
  cases hq:kf x c with
  |none=>simp
  |some q=>
   rw[hq]at h
   simp only at h ⊢
   split at h
   ·omega
   ·rename_i hn
    rw[if_pos (by omega)];simp
theorem GJ {c:List Int} {o:Op}:qa c o.kd o.bk=ints ν (mK c o):=by
 unfold qa mK
 split
 ·simp [ints]
 ·rfl
theorem BY {i n:Nat} (h:i<n):bj (i:Int) n:=⟨by omega,by omega⟩
theorem ints_getElem? {k:IntKind} {l:List Int} {i:Nat}:(ints k l)[i]? =(l[i]?).map fun n=>[η (.int k n)]:=by unfold ints;rw[fH]
theorem aff (R:θ) (T:ML) (ο π:Value) (o:Op) (hl:R.ld=none) (hB:o.b.length<=100000) {kb:KB} (hkb:aB R kb) (hsh:kb=[cR R (ai T) (ξ false) (δ ο) (δ π) (.af none) (.sl 1 0 (nO R)) (.sl 2 0 (nD R)),rO R,rD R]) (K:V->KB->Prop) (hK:∀ kb',aB (eE R o).2 kb'->K (.int γ (eE R o).1) kb'):aK Tryz.prog E_ (cutAt 1008) 21 [an 0 0,.agg [.int γ o.cl,.int γ o.nm,.int γ o.kd,.int γ o.bk,aH (.sl 1 (ints ν o.b))]] [cR R (ai T) (ξ false) (δ ο) (δ π) (.af none) (.sl 1 0 (nO R)) (.sl 2 0 (nD R)),rO R,rD R] (eX K):=by
 subst hsh
 have fin:∀{e:Int} {R':θ} {kb':KB},eE R o=(e,R')->aB R' kb'->K (.int γ e) kb':=fun{e R' kb'} h1 h2=>by
  have:=hK kb'
  rw[h1]at this
  exact this h2
 have ug:gO o=kI o.cl o.nm o.kd o.bk (ints ν o.b).length:=by unfold gO;rw[bh]
 exact ahv R T ο π o K fun f=>⟨rfl,⟨by simp [bQ]⟩,⟨fun e=>fin (Ug (by rw[ug];simpa using e)) hkb,fun e=>⟨fun _=>fin (Ui (by rw[ug];simpa using e) (by simp [ii,hl])) hkb,fun f=>(by cases f)⟩⟩,trivial⟩
theorem afe (R:θ) (o:Op) (L:bX) (T I Q:ML) (hT:bG T R.t) (hl:R.ld=some L) (hI:MB I L.ins) (hQ:MB Q L.cy) (hR:dz R) (hroom:R.out.length+(aQ R).length<=100000) (Hc:bm o.b) (hB:o.b.length<=100000) {kb:KB} (hkb:aB R kb)
  (hsh:kb=[cR R (ai T) (ξ true) (.mp 1) (.mp 2) (.af (L.cur.map bn)) (.sl 3 0 (nO R)) (.sl 4 0 (nD R)),aj I,aj Q,rO R,rD R]) (K:V->KB->Prop) (hK:∀ kb',aB (eE R o).2 kb'->K (.int γ (eE R o).1) kb'):aK Tryz.prog E9 (Uc R T I Q (L.cur.map bn) o) 21 [an 0 0,.agg [.int γ o.cl,.int γ o.nm,.int γ o.kd,.int γ o.bk,aH (.sl 1 (ints ν o.b))]] [cR R (ai T) (ξ true) (.mp 1) (.mp 2) (.af (L.cur.map bn)) (.sl 3 0 (nO R)) (.sl 4 0 (nD R)),aj I,aj Q,rO R,rD R] (eX K):=by
 subst hsh
 have fin:∀{e:Int} {R':θ} {kb':KB},eE R o=(e,R')->aB R' kb'->K (.int γ e) kb':=fun{e R' kb'} h1 h2=>by
  have:=hK kb'
  rw[h1]at this
  exact this h2
 have h5:dH (R.v.mem.length+R.v.aC.length):=⟨by have:=hR.vl;omega⟩
 have mX:iJ (aU ν R.c) R.c:=⟨rfl,hR.cl,hR.cb⟩
 have Pw:∀(h:gO o=true),iJ (aU ν (fj R.c o.kd o.bk o.b)) (fj R.c o.kd o.bk o.b):=fun h=>⟨rfl,by rw[N9 hR.cl h],N8 hR.cb Hc⟩
 have kc:qP R.nu:=⟨hR.n0,by have:=hR.n1;omega⟩
 have hdl:(ae dv R.done).length<=1000000:=by rw[cp];have:=hR.dl;omega
 have HV:ii R=allI R.me R.v.mem R.v.aC I:=by unfold ii;rw[hl,sw hI];rfl
 have ug:gO o=kI o.cl o.nm o.kd o.bk (ints ν o.b).length:=by unfold gO;rw[bh]
 have htn:∀ hi:jw o=true->cW (gB R) o.cl o.nm 0=0,bG (uD T o.cl o.nm o.kd) (mA R.t o):=fun hi=>by
  unfold mA uD
  by_cases hc:jw o=true
  ·have gM:oM o.kd=true:=hc
   have hz:cW R.t o.cl o.nm 0=0:=hi hc
   rw[if_pos gM,if_pos ⟨hc,hz⟩]
   exact Dy hT hz
  ·have gM:¬ oM o.kd=true:=hc
   rw[if_neg gM,if_neg (fun f=>hc f.1)];exact hT
 refine ahu R T I Q _ o K fun f=>⟨R.v.mem,R.v.aC,rfl,rfl,h5,hI.b,rfl,⟨by simp [bQ]⟩,fun e=>?_,fun e=>⟨fun e2=>?_,fun e2=>⟨fun e3=>?_,fun e3=>⟨?_,?_⟩⟩⟩⟩
 ·exact fin (Ug (by rw[ug];simpa using e)) hkb
 ·exact fin (Ui (by rw[ug];simpa using e) (by rw[HV];simpa using e2)) hkb
 ·exact fin (afa (by rw[ug];simpa using e) hl (by rw[HV];simpa using e2) (by simpa [l6,b_,hl]using e3)) hkb
 all_goals
  have l_:L.cur=none:=by simpa using e3
  have ya:l6 R=false:=by simp [l6,b_,hl,l_]
  have m_:gO o=true:=by rw[ug];simpa using e
  have py:ii R=true:=by rw[HV];simpa using e2
 ·refine⟨fun hc f=>⟨rfl,⟨hdl⟩,R.t,hT,fun h1=>⟨⟨by simp [bQ]⟩,fun _=>?_,fun e=>(by cases e)⟩,fun h1=>⟨⟨by simp [bQ]⟩,fun _=>?_,fun e=>(by cases e)⟩,fun h1=>⟨fun hz=>⟨⟨by simp [bQ]⟩,fun _=>?_,fun e=>(by cases e)⟩,fun hz=>⟨⟨by simp [bQ]⟩,fun e=>(by cases e),fun _=>?_⟩⟩⟩,fun hc=>?_⟩
  ·have hk1:lN R o=some (0,{R with done:=R.done++[⟨o,sD R.t o.cl o.nm,[]⟩] }):=by unfold lN gB;rw[if_pos h1.h]
   refine fin (Ku m_ hl py ya hc hk1) ?_
   unfold aB
   simp only[hl]
   refine⟨I,Q,T,hI,hQ,hT,?_⟩
   simp [cR,dv,bn,dn,ints]
  ·have hk1:lN R o=some (13,R):=by unfold lN gB;rw[if_neg (by rw[h1.h];decide),if_pos h1.h]
   exact fin (Ku m_ hl py ya hc hk1) hkb
  ·have hk1:lN R o=some (cW R.t o.cl o.nm 0,R):=by unfold lN gB;rw[if_neg (by rw[h1.h];decide),if_neg (by rw[h1.h];decide),if_neg hz.h]
   exact fin (Ku m_ hl py ya hc hk1) hkb
  ·exact At.mk' ⟨(),fun _=>hz.h⟩ rfl
  ·exact At.mk' ⟨(),fun f=>absurd (f.symm.trans hc) (by decide)⟩ rfl
 ·have Qk:kI o.cl o.nm o.kd o.bk o.b.length=true:=m_
  rintro⟨_,hi⟩
  have hkn:jw o=true->lN R o=none:=fun hc=>by
   have h2:=hi hc
   unfold lN;rw[if_neg (fun e=>Ta h2 (.inl e)),if_neg (fun e=>Ta h2 (.inr e)),if_pos h2]
  refine⟨⟨by rw[bh];omega⟩,fun f=>?_,fun _ f=>⟨R.v.mem,R.v.aC,rfl,rfl,h5,⟨by simp [bQ]⟩,At.mk' ⟨0,bt _⟩ ?_,?_⟩⟩
  ·refine⟨R.c,o.b,R.t,mX,rfl,hT,kc,⟨Qk⟩,fun hc=>⟨⟨by simp [bQ]⟩,At.mk' () ?_⟩,fun hc=>⟨fun hz=>?_,fun hz=>⟨⟨by simp [bQ]⟩,At.mk' () ?_⟩⟩⟩
   ·simp only[uD,hc.h];rfl
   ·exact absurd (hi hc.h) hz.h
   ·simp only[uD,hc.h];rfl
  ·simp [aQ,qc,bn,dn]
  ·rintro⟨i,HK⟩
   refine⟨fun hlt=>?_,fun hlt=>?_⟩
   ·have hlt:i<(aQ R).length:=by simpa using hlt
    have hz:i<(iu R.me R.v.mem R.v.aC).length:=by rw[Jw];exact Nat.lt_of_lt_of_le hlt (SO _ _ _)
    have di:(iu R.me R.v.mem R.v.aC)[i]? =(aQ R)[i]?:=by
     have:=Jy R.me R.v.mem R.v.aC
     have h2:(aQ R)[i]? =((iu R.me R.v.mem R.v.aC).take (aQ R).length)[i]?:=by rw[show aQ R=bx R.me R.v.mem R.v.aC from rfl,this]
     rw[h2,ji hlt]
    refine⟨BY (by simpa using hlt),[dn γ (aQ R)[i]],?_,(aQ R)[i],rfl,fun f=>⟨?_,⟨?_⟩,_,o,Pw m_,rfl,⟨by simp [bQ]⟩,Nx.mk' ⟨i+1,hlt⟩ ?_ ?_⟩⟩
    ·simp only[dD,cQ]
     rw[ints_getElem?,di,bz hlt];rfl
    ·simp [qc];omega
    ·simp;omega
    ·have w:=bS (n:=(i:Int)+1) (by omega) (by omega)
     simp only[w]
     have eh:qc ((aQ R).take (i+1)) R o=qc ((aQ R).take i) R o++[qb (aQ R)[i] R.id R.ep (R.nu+1) (fj R.c o.kd o.bk o.b) o]:=by
      unfold qc
      rw[j2,bz hlt,jZ];rfl
     simp [eh,qb,fW,dn,ints,bn]
     omega
    ·show(aQ R).length - (i+1)<(aQ R).length - i
     omega
   ·have hi2:i=(aQ R).length:=by
     have:¬ i<(aQ R).length:=by simpa using hlt
     omega
    subst hi2
    refine fun f=>⟨rfl,⟨hdl⟩,R.v.mem,R.v.aC,_,o,Pw m_,rfl,rfl,h5,rK.b,rfl,C4 ⟨Qk⟩,fun e1=>⟨⟨by simp [bQ]⟩,?_⟩,fun e1=>⟨⟨by simp [bQ]⟩,?_⟩⟩
    ·have hne:aQ R≠[]:=fun hh=>by
      rw[sw rK]at e1
      have:bx R.me R.v.mem R.v.aC=[]:=hh
      rw[this]at e1;simp at e1
     refine fin (Uh m_ hl py ya hkn) ?_
     rw[Xu hne]
     unfold aB
     refine⟨I,[],_,hI,rK,htn hi,?_⟩
     simp [cR,cS,qc,j8,qb,bR,jo,fW,ir,dn,ints,bn,Function.comp_def]
    ·have hne:aQ R=[]:=by
      rw[sw rK]at e1
      cases hh:aQ R with
      |nil=>rfl
      |cons a l=>
       have:bx R.me R.v.mem R.v.aC=a::l:=hh
       rw[this]at e1;simp at e1
     refine fin (Uh m_ hl py ya hkn) ?_
     rw[Xt hne]
     unfold aB
     refine⟨I,[],_,hI,rK,htn hi,?_⟩
     simp [cR,cS,hne,qc,dv,bn,GJ,dn]
theorem Ub:dP Tryz.prog Dt:=fun f k h=>by
 unfold Dt at h
 split at h
 ·cases h;exact fy Jk _
 ·cases h;exact R8
 ·cases h;exact aca
 ·cases h;exact fy acb _
 ·cases h;exact abN
 ·cases h;exact fy R4 _
 ·cases h;exact fy CJ _
 ·cases h;exact fy R7 _
 ·cases h;exact fy R6 _
 ·cases h
theorem WZ:b9 Tryz.prog E9:=dY mixed Ub aI 10
theorem ae9:dP Tryz.prog Kt:=fun f k h=>by
 unfold Kt at h
 split at h
 ·cases h;exact fy Jk _
 ·exact Ub _ _ h
theorem WY:b9 Tryz.prog E_:=dY mixed ae9 aI 10
def Wn:aD:=fun args kb K=>∃ R o,args=[an 0 0,.agg [.int γ o.cl,.int γ o.nm,.int γ o.kd,.int γ o.bk,aH (.sl 1 (ints ν o.b))]]/\aB R kb/\dz R/\R.out.length+(aQ R).length<=100000/\bm o.b/\o.b.length<=100000/\∀ kb',aB (eE R o).2 kb'->K (.int γ (eE R o).1) kb'
theorem acT:gq Tryz.prog 21 Wn:=Cq mixed (fun args kb K h=>by
 obtain⟨R,o,rfl,hkb,hR,hroom,Hc,hB,hK⟩:=h
 have i_:=hkb
 unfold aB at hkb
 split at hkb
 ·rename_i hl
  obtain⟨ο,π,T,hT,e⟩:=hkb
  exact⟨_,_,WY,e ▸ aff R T ο π o hl hB i_ e K hK⟩
 ·rename_i L hl
  obtain⟨I,Q,T,hI,hQ,hT,e⟩:=hkb
  exact⟨_,_,WZ,e ▸ afe R o L T I Q hT hl hI hQ hR hroom Hc hB i_ e K hK⟩)
def Ej:aD:=fun args kb K=>match args,kb with
 | [aH (.sl 1 B)],[]=>bP B.length/\K (aH (.sl 1 B)) []
 |_,_=>False
def eO:List Bool:=[false,false,false,false,false,false,false,false,false,false,false,false,false,false,true,true]
def dZ (R:θ) (w:Vw):Bool:=match w.mem with | a:: _=>a == R.me | []=>false
def dL (R:θ) (w:Vw):Bool:=decide (w.vi=R.id/\R.v.ve<=w.ve/\R.ep<=w.ve/\1<=w.ve) && !(w.ve == R.v.ve && (eL R || !dZ R w))
def fe (R:θ) (w:Vw):Bool:=dZ R w && !R.lo && !(R.ep == 0 && R.bl)
def dT (R:θ) (w:Vw):θ:=
 if dL R w=false then R else
  let R1:θ:={gn R with v:=w }
  if fe R w=false then R1 else
   let R2:θ:={R1 with ep:=w.ve,ch:=R.ch || (R.ep != w.ve),ld:=some ⟨fun _=>false,fun _=>false,none⟩ }
   (aQ R2).foldl qC R2
def lm (l:List Int) (R:θ) (w:Vw):List (List D):=l.map fun to=>mM to R.id w.ve R.nu R.c R.t
abbrev yD (R:θ):List (List D):=R.done.map dv++yl (b_ R)
abbrev K6 (R:θ) (T:ML) (ο π:Value) (w:Vw):LI where
 α:=Unit
 live:=[0,3,4]
 st _:=([an 0 0,an 3 0,ξ (dZ R w)],[cR R (ai T) (ξ false) (δ ο) (δ π) (.af none) (.sl 1 0 (nO R)) (.sl 2 0 (nD R)),rO R,rD R,nE w])
 μ _:=0
abbrev Vy (R:θ) (T:ML) (ο π:Value) (w:Vw):LI where
 α:={_u:Unit // dL R w=true}
 live:=[0,3,4]
 st _:=([an 0 0,an 3 0,ξ (dZ R w)],[cR R (ai T) (ξ false) (δ ο) (δ π) (.af none) (.sl 1 0 (nO R)) (.sl 2 0 (nD R)),rO R,rD R,nE w])
 μ _:=0
abbrev VA (R:θ) (T:ML) (ο π:Value) (w:Vw):LI where
 α:={_u:Unit // dL R w=true}
 live:=[0,3,4]
 st _:=([an 0 0,an 4 0,ξ (dZ R w)],[cR R (ai T) (ξ false) (δ ο) (δ π) (.af none) (.sl 1 0 (nO R)) (.sl 3 0 (yD R).length),rO R,aa,υ 70 7 (yD R),nE w])
 μ _:=0
abbrev VC (R:θ) (T:ML) (ο π:Value) (w:Vw):LI where
 α:={_u:Unit // dL R w=true/\fe R w=true}
 live:=[0,3]
 st _:=([an 0 0,an 4 0],[cV R w (.int γ R.ep) (ξ R.ch) (ai T) (ξ false) (δ ο) (δ π) (.af none) (.sl 1 0 (nO R)) (.sl 3 0 (yD R).length),rO R,aa,υ 70 7 (yD R),nE w])
 μ _:=0
abbrev K8 (R:θ) (T:ML) (ο π:Value) (w:Vw):LI where
 α:={_u:Unit // dL R w=true/\fe R w=true}
 live:=[0]
 st _:=([an 0 0],[cV R w (.int γ w.ve) (ξ (R.ch || (R.ep != w.ve))) (ai T) (ξ false) (δ ο) (δ π) (.af none) (.sl 1 0 (nO R)) (.sl 3 0 (yD R).length),rO R,aa,υ 70 7 (yD R)])
 μ _:=0
abbrev K_ (R:θ) (T:ML) (ο π:Value) (w:Vw):LI where
 α:={i:Nat // i<=(bx R.me w.mem w.aC).length/\dL R w=true/\fe R w=true}
 live:=[0,135,136,137]
 dV:=[.mv 0 147]
 st i:=([an 0 0,.sl 7 0 (bx R.me w.mem w.aC).length,.int γ ((bx R.me w.mem w.aC).length:Int),.int γ (i.1:Int)],[cV R w (.int γ w.ve) (ξ (R.ch || (R.ep != w.ve))) (ai T) (ξ true) (.mp 3) (.mp 4) (.af none) (.sl 5 0 ((nO R)+i.1)) (.sl 6 0 (yD R).length),aa,aa,aj [],aj [],υ 107 5 (R.out.map bR++lm ((bx R.me w.mem w.aC).take i.1) R w),υ 70 7 (yD R),υ 3 1 (ints γ (iu R.me w.mem w.aC))])
 μ i:=(bx R.me w.mem w.aC).length - i.1
def VF (R:θ) (T:ML) (ο π:Value) (w:Vw):Nat->Option LI
 | 1002=>some (K6 R T ο π w)
 | 1004=>some (Vy R T ο π w)
 | 1006=>some (VA R T ο π w)
 | 1008=>some (VC R T ο π w)
 | 1010=>some (K8 R T ο π w)
 | 12=>some (K_ R T ο π w)
 |_=>none
abbrev K5 (R:θ) (T:ML) (I Q:ML) (u:Option (List D)) (w:Vw):LI where
 α:=Unit
 live:=[0,3,4]
 st _:=([an 0 0,an 5 0,ξ (dZ R w)],[cR R (ai T) (ξ true) (.mp 1) (.mp 2) (.af u) (.sl 3 0 (nO R)) (.sl 4 0 (nD R)),aj I,aj Q,rO R,rD R,nE w])
 μ _:=0
abbrev Vx (R:θ) (T:ML) (I Q:ML) (u:Option (List D)) (w:Vw):LI where
 α:={_u:Unit // dL R w=true}
 live:=[0,3,4]
 st _:=([an 0 0,an 5 0,ξ (dZ R w)],[cR R (ai T) (ξ true) (.mp 1) (.mp 2) (.af u) (.sl 3 0 (nO R)) (.sl 4 0 (nD R)),aj I,aj Q,rO R,rD R,nE w])
 μ _:=0
abbrev Vz (R:θ) (T:ML) (I Q:ML) (u:Option (List D)) (w:Vw):LI where
 α:={_u:Unit // dL R w=true}
 live:=[0,3,4]
 st _:=([an 0 0,an 6 0,ξ (dZ R w)],[cR R (ai T) (ξ false) (.mp 1) (.mp 2) (.af none) (.sl 3 0 (nO R)) (.sl 5 0 (yD R).length),aj I,aj Q,rO R,aa,υ 70 7 (yD R),nE w])
 μ _:=0
abbrev VB (R:θ) (T:ML) (I Q:ML) (u:Option (List D)) (w:Vw):LI where
 α:={_u:Unit // dL R w=true/\fe R w=true}
 live:=[0,3]
 st _:=([an 0 0,an 6 0],[cV R w (.int γ R.ep) (ξ R.ch) (ai T) (ξ false) (.mp 1) (.mp 2) (.af none) (.sl 3 0 (nO R)) (.sl 5 0 (yD R).length),aj I,aj Q,rO R,aa,υ 70 7 (yD R),nE w])
 μ _:=0
abbrev K7 (R:θ) (T:ML) (I Q:ML) (u:Option (List D)) (w:Vw):LI where
 α:={_u:Unit // dL R w=true/\fe R w=true}
 live:=[0]
 st _:=([an 0 0],[cV R w (.int γ w.ve) (ξ (R.ch || (R.ep != w.ve))) (ai T) (ξ false) (.mp 1) (.mp 2) (.af none) (.sl 3 0 (nO R)) (.sl 5 0 (yD R).length),aj I,aj Q,rO R,aa,υ 70 7 (yD R)])
 μ _:=0
abbrev K9 (R:θ) (T:ML) (I Q:ML) (u:Option (List D)) (w:Vw):LI where
 α:={i:Nat // i<=(bx R.me w.mem w.aC).length/\dL R w=true/\fe R w=true}
 live:=[0,135,136,137]
 dV:=[.mv 0 147]
 st i:=([an 0 0,.sl 9 0 (bx R.me w.mem w.aC).length,.int γ ((bx R.me w.mem w.aC).length:Int),.int γ (i.1:Int)],[cV R w (.int γ w.ve) (ξ (R.ch || (R.ep != w.ve))) (ai T) (ξ true) (.mp 5) (.mp 6) (.af none) (.sl 7 0 ((nO R)+i.1)) (.sl 8 0 (yD R).length),aj I,aj Q,aa,aa,aj [],aj [],υ 107 5 (R.out.map bR++lm ((bx R.me w.mem w.aC).take i.1) R w),υ 70 7 (yD R),υ 3 1 (ints γ (iu R.me w.mem w.aC))])
 μ i:=(bx R.me w.mem w.aC).length - i.1
def VE (R:θ) (T:ML) (I Q:ML) (u:Option (List D)) (w:Vw):Nat->Option LI
 | 1002=>some (K5 R T I Q u w)
 | 1004=>some (Vx R T I Q u w)
 | 1006=>some (Vz R T I Q u w)
 | 1008=>some (VB R T I Q u w)
 | 1010=>some (K7 R T I Q u w)
 | 12=>some (K9 R T I Q u w)
 |_=>none
def La:FuncId->Option dK
 | 42=>some ⟨[],eB [true,true,true,true,true,true,false,true,true,true,true,true,true,false,true,true,false,true,true,true,true,false] Ax⟩
 | 43=>some ⟨[],Ej⟩
 | 44=>some ⟨[],eB [false,true,true,true,true,true,false,true,true,true,true,false,false,true,true,true,true,true,true,true,true,true] vf⟩
 | 45=>some ⟨[],eB [true,false,true,true,false,false,false,false,true,true,true,true,true,true,true,true,true,true,true,true,false,true] xi⟩
 |_=>none
noncomputable def xq:bN:=dU Tryz.prog La aI 10
theorem agt (B:List (List D)) (K:V->KB->Prop) (ar:
 ∀(y1:Bool),(y1=true->
 B.length=0)->
 (y1=true->
 K (aH (ω 1 [])) [])/\
 (y1=false->
 True/\
 0<=0/\
 (0+B.length)*8<=140737488355328/\
 0+B.length<=([]++B).length/\
 K (aH (ω 1 (ax 0 (aA (0+B.length) ([]++B))))) [])
 ):aK Tryz.prog X0 (aI 43) 43 [aH (.sl 1 B)] [] (jJ [.fk 1] (dx 0 K)):=by apply Eq.mp (a:=ar);kernel_rfl
theorem ahQ (R:θ) (T:ML) (ο π:Value) (w:Vw) (K:V->KB->Prop) (ar:
 let cK:=(ints γ (iu R.me w.mem w.aC));let bW:=(ζ γ w.ve);let cw:=(ε 2 0 (yD R).length);let bV:=(ints γ w.aC);let cf:=(ε 3 0 (yD R).length);let aJ:=(ζ γ R.ep);let aL:=(ints γ w.mem);let az:=At (VC R T ο π w) ([an 0 0,an 4 0],[cV R w aJ (ξ R.ch) (ai T) (ξ false) (δ ο) (δ π) (aO none) (ε 1 0 (nO R)) cf,rO R,aa,υ 70 7 (yD R),nE w]);let κ:KB:=[cR R (ai T) (ξ false) (δ ο) (δ π) (aO none) (ε 1 0 (nO R)) (ε 2 0 (nD R)),rO R,rD R,nE w];let bp:=At (Vy R T ο π w) ([an 0 0,an 3 0,ξ (dZ R w)],κ);((decide ((↑aL.length:Int) > 0)=true->
 aM 0/\
 ∃(y1:List D),aL[0]? =some y1/\
 ∃(y2:Int),y1[0]? =some (η (φ γ y2))/\
 At (K6 R T ο π w) ([an 0 0,an 3 0,ξ (y2 == R.me)],κ))/\
 (decide ((↑aL.length:Int) > 0)=false->
 At (K6 R T ο π w) ([an 0 0,an 3 0,ξ false],κ)))/\
 ∀(y3:Unit),(((w.vi != R.id)=true->
 ∀(y4:Nat->
 Value),K (av []) [cR R (ai T) (ξ false) (δ (y4 14)) (δ (y4 15)) (aO none) (ε 1 0 (nO R)) (ε 2 0 (nD R)),rO R,rD R])/\
 ((w.vi != R.id)=false->
 (decide (w.ve<R.v.ve)=true->
 ∀(y5:Nat->
 Value),K (av []) [cR R (ai T) (ξ false) (δ (y5 14)) (δ (y5 15)) (aO none) (ε 1 0 (nO R)) (ε 2 0 (nD R)),rO R,rD R])/\
 (decide (w.ve<R.v.ve)=false->
 (decide (w.ve<R.ep)=true->
 ∀(y6:Nat->
 Value),K (av []) [cR R (ai T) (ξ false) (δ (y6 14)) (δ (y6 15)) (aO none) (ε 1 0 (nO R)) (ε 2 0 (nD R)),rO R,rD R])/\
 (decide (w.ve<R.ep)=false->
 (decide (w.ve<1)=true->
 ∀(y7:Nat->
 Value),K (av []) [cR R (ai T) (ξ false) (δ (y7 14)) (δ (y7 15)) (aO none) (ε 1 0 (nO R)) (ε 2 0 (nD R)),rO R,rD R])/\
 (decide (w.ve<1)=false->
 ((w.ve == R.v.ve)=true->
 (false=true->
 ∀(y8:Nat->
 Value),K (av []) [cR R (ai T) (ξ false) (δ (y8 14)) (δ (y8 15)) (aO none) (ε 1 0 (nO R)) (ε 2 0 (nD R)),rO R,rD R])/\
 (false=false->
 ((!dZ R w)=true->
 ∀(y9:Nat->
 Value),K (av []) [cR R (ai T) (ξ false) (δ (y9 14)) (δ (y9 15)) (aO none) (ε 1 0 (nO R)) (ε 2 0 (nD R)),rO R,rD R])/\
 ((!dZ R w)=false->
 bp)))/\
 ((w.ve == R.v.ve)=false->
 bp))))))/\
 ∀(cC:{cO:Unit // dL R w=true}) (cD:Nat->
 Value),nD R=(nD R)/\
 bP (nD R)/\
 ∃(cM:Option Op),let ah:=At (VA R T ο π w) ([an 0 0,an 4 0,ξ (dZ R w)],[cR R (ai T) (ξ false) (δ ο) (δ π) (aO none) (ε 1 0 (nO R)) (ε 3 0 (ae dv R.done++yl cM).length),rO R,aa,υ 70 7 (ae dv R.done++yl cM),nE w]);none=mU bn cM/\
 bw cD [0,1,2,3,4,5,7,8,9,10,11,12,14,15,17,18,19,20]/\
 ((bP aL.length/\
 bP bV.length/\
 ah)/\
 bP aL.length/\
 bP bV.length/\
 ah)/\
 ∀(cX:{dC:Unit // dL R w=true}),(((!dZ R w)=true->
 ∀(fS:Nat->
 Value),K (av []) [cV R w aJ (ξ R.ch) (ai T) (ξ false) (δ (fS 14)) (δ (fS 15)) (aO none) (ε 1 0 (nO R)) cw,rO R,υ 70 7 (yD R)])/\
 ((!dZ R w)=false->
 (R.lo=true->
 ∀(dg:Nat->
 Value),K (av []) [cV R w aJ (ξ R.ch) (ai T) (ξ false) (δ (dg 14)) (δ (dg 15)) (aO none) (ε 1 0 (nO R)) cw,rO R,υ 70 7 (yD R)])/\
 (R.lo=false->
 ((R.ep == 0)=true->
 (R.bl=true->
 ∀(fg:Nat->
 Value),K (av []) [cV R w aJ (ξ R.ch) (ai T) (ξ false) (δ (fg 14)) (δ (fg 15)) (aO none) (ε 1 0 (nO R)) cw,rO R,υ 70 7 (yD R)])/\
 (R.bl=false->
 az))/\
 ((R.ep == 0)=false->
 az))))/\
 ∀(fN:{fD:Unit // dL R w=true/\
 fe R w=true}),(((R.ep != w.ve)=true->
 At (K8 R T ο π w) ([an 0 0],[cV R w bW (ξ true) (ai T) (ξ false) (δ ο) (δ π) (aO none) (ε 1 0 (nO R)) cf,rO R,aa,υ 70 7 (yD R)]))/\
 ((R.ep != w.ve)=false->
 At (K8 R T ο π w) ([an 0 0],[cV R w aJ (ξ R.ch) (ai T) (ξ false) (δ ο) (δ π) (aO none) (ε 1 0 (nO R)) cf,rO R,aa,υ 70 7 (yD R)])))/\
 ∀(fE:{eY:Unit // dL R w=true/\
 fe R w=true}) (iT:Nat->
 Value),∃(gm:List Int),∃(eT:List Int),ints γ w.mem=ints γ gm/\
 ints γ w.aC=ints γ eT/\
 dH (gm.length+eT.length)/\
 bw iT [1,2,3,4,5,7,8,9,10,13,14,15,16,17,18,19,20,21]/\
 At (K_ R T ο π w) ([an 0 0,ε 7 0 (bx R.me gm eT).length,ζ γ (↑((bx R.me gm eT).length - 0):Int),ζ γ 0],[cV R w bW (ξ (R.ch || R.ep != w.ve)) (ai T) (ξ true) (bb 3) (bb 4) (aO none) (ε 5 0 (nO R)) (ε 6 0 (yD R).length),aa,aa,aj [],aj [],rO R,υ 70 7 (yD R),υ 3 1 (ints γ (iu R.me gm eT))])/\
 ∀(eF:{eZ:Nat // eZ<=(bx R.me w.mem w.aC).length/\
 dL R w=true/\
 fe R w=true}),let bC:=(↑eF.val:Int)<(↑(bx R.me w.mem w.aC).length:Int);let aV:=(aA eF.val (bx R.me w.mem w.aC));let dO:=(ae bR R.out++lm aV R w);(decide (bC)=true->
 bj (↑eF.val:Int) ((bx R.me w.mem w.aC).length - 0)/\
 ∃(iU:List D),cK[0+(↑eF.val:Int).toNat]? =some iU/\
 ∃(jS:Int),iU[0]? =some (η (φ γ jS))/\
 ∀(iq:Nat->
 Value),nO R+eF.val=dO.length/\
 bP (nO R+eF.val)/\
 ∃(ft:List Int),∃(jT:List L3),iJ (aU ν R.c) ft/\
 bG T jT/\
 bw iq [0,2,3,8,9,10,11,12,13,14,15,16,17,18,19,21]/\
 Nx (K_ R T ο π w) eF ([an 0 0,ε 7 0 (bx R.me w.mem w.aC).length,ζ γ (↑(bx R.me w.mem w.aC).length:Int),ζ γ (γ.wrap ((↑eF.val:Int)+1))],[aw [ζ γ R.me,ζ γ R.id,ξ R.bl,ξ R.lo,ζ γ w.ve,ζ γ R.nu,bD 128 (aU ν ft),ai T,ζ γ w.vi,ζ γ w.vv,ζ γ w.ve,aH (ω 1 aL),aH (ω 1 bV),ξ true,bb 3,bb 4,aO none,ζ γ R.ce,ξ (R.ch || R.ep != w.ve),ζ γ R.ti,ε 5 0 (nO R+eF.val+1),ε 6 0 (yD R).length],aa,aa,aj [],aj [],υ 107 5 (ae bR R.out++lm aV R w++[[dn γ jS,η (φ γ 10),ω 1 [[dn γ R.id],[dn γ w.ve],[dn γ R.nu]],ω 1 (ints ν (bZ ft)),ω 1 [[ω 1 (ints ν (be jT))]]]]),υ 70 7 (yD R),υ 3 1 cK]))/\
 (decide (bC)=false->
 K (av []) [cV R w bW (ξ (R.ch || R.ep != w.ve)) (ai T) (ξ true) (bb 1) (bb 2) (aO none) (ε 3 0 (nO R+eF.val)) (ε 4 0 (yD R).length),aj [],aj [],υ 107 5 dO,υ 70 7 (yD R)])
 ):aK Tryz.prog xq (VF R T ο π w) 15 [an 0 0,.agg [.int γ w.vi,.int γ w.vv,.int γ w.ve,aH (.sl 1 (ints γ w.mem)),aH (.sl 1 (ints γ w.aC))]] [cR R (ai T) (ξ false) (δ ο) (δ π) (.af none) (.sl 1 0 (nO R)) (.sl 2 0 (nD R)),rO R,rD R] (gz 13 eO K):=by apply Eq.mp (a:=ar);kernel_rfl
theorem ahP (R:θ) (T:ML) (I Q:ML) (u:Option (List D)) (w:Vw) (K:V->KB->Prop) (ar:
 let dO:=(ints γ (iu R.me w.mem w.aC));let cK:=(ζ γ w.ve);let bW:=(ε 2 0 (yD R).length);let cw:=(ints γ w.aC);let bV:=(ε 5 0 (yD R).length);let aV:=(ζ γ R.ep);let aJ:=(ints γ w.mem);let aL:=At (VB R T I Q u w) ([an 0 0,an 6 0],[cV R w aV (ξ R.ch) (ai T) (ξ false) (bb 1) (bb 2) (aO none) (ε 3 0 (nO R)) bV,aj I,aj Q,rO R,aa,υ 70 7 (yD R),nE w]);let ah:KB:=[cR R (ai T) (ξ true) (bb 1) (bb 2) (aO u) (ε 3 0 (nO R)) (ε 4 0 (nD R)),aj I,aj Q,rO R,rD R,nE w];let bC:=At (Vx R T I Q u w) ([an 0 0,an 5 0,ξ (dZ R w)],ah);let κ:=K (av []) [cR R (ai T) (ξ true) (bb 1) (bb 2) (aO u) (ε 3 0 (nO R)) (ε 4 0 (nD R)),aj I,aj Q,rO R,rD R];((decide ((↑aJ.length:Int) > 0)=true->
 aM 0/\
 ∃(y1:List D),aJ[0]? =some y1/\
 ∃(y2:Int),y1[0]? =some (η (φ γ y2))/\
 At (K5 R T I Q u w) ([an 0 0,an 5 0,ξ (y2 == R.me)],ah))/\
 (decide ((↑aJ.length:Int) > 0)=false->
 At (K5 R T I Q u w) ([an 0 0,an 5 0,ξ false],ah)))/\
 ∀(y3:Unit),(((w.vi != R.id)=true->
 κ)/\
 ((w.vi != R.id)=false->
 (decide (w.ve<R.v.ve)=true->
 κ)/\
 (decide (w.ve<R.v.ve)=false->
 (decide (w.ve<R.ep)=true->
 κ)/\
 (decide (w.ve<R.ep)=false->
 (decide (w.ve<1)=true->
 κ)/\
 (decide (w.ve<1)=false->
 ((w.ve == R.v.ve)=true->
 (true=true->
 κ)/\
 (true=false->
 ((!dZ R w)=true->
 κ)/\
 ((!dZ R w)=false->
 bC)))/\
 ((w.ve == R.v.ve)=false->
 bC))))))/\
 ∀(y5:{y4:Unit // dL R w=true}) (y6:Nat->
 Value),nD R=(nD R)/\
 bP (nD R)/\
 ∃(y7:Option Op),let az:=At (Vz R T I Q u w) ([an 0 0,an 6 0,ξ (dZ R w)],[cR R (ai T) (ξ false) (bb 1) (bb 2) (aO none) (ε 3 0 (nO R)) (ε 5 0 (ae dv R.done++yl y7).length),aj I,aj Q,rO R,aa,υ 70 7 (ae dv R.done++yl y7),nE w]);u=mU bn y7/\
 bw y6 [0,1,2,3,4,5,7,8,9,10,11,12,14,15,17,18,19,20]/\
 ((bP aJ.length/\
 bP cw.length/\
 az)/\
 bP aJ.length/\
 bP cw.length/\
 az)/\
 ∀(y9:{y8:Unit // dL R w=true}),(((!dZ R w)=true->
 ∀(cO:Nat->
 Value),K (av []) [cV R w aV (ξ R.ch) (ai T) (ξ false) (δ (cO 14)) (δ (cO 15)) (aO none) (ε 1 0 (nO R)) bW,rO R,υ 70 7 (yD R)])/\
 ((!dZ R w)=false->
 (R.lo=true->
 ∀(cC:Nat->
 Value),K (av []) [cV R w aV (ξ R.ch) (ai T) (ξ false) (δ (cC 14)) (δ (cC 15)) (aO none) (ε 1 0 (nO R)) bW,rO R,υ 70 7 (yD R)])/\
 (R.lo=false->
 ((R.ep == 0)=true->
 (R.bl=true->
 ∀(cD:Nat->
 Value),K (av []) [cV R w aV (ξ R.ch) (ai T) (ξ false) (δ (cD 14)) (δ (cD 15)) (aO none) (ε 1 0 (nO R)) bW,rO R,υ 70 7 (yD R)])/\
 (R.bl=false->
 aL))/\
 ((R.ep == 0)=false->
 aL))))/\
 ∀(dC:{cM:Unit // dL R w=true/\
 fe R w=true}),(((R.ep != w.ve)=true->
 At (K7 R T I Q u w) ([an 0 0],[cV R w cK (ξ true) (ai T) (ξ false) (bb 1) (bb 2) (aO none) (ε 3 0 (nO R)) bV,aj I,aj Q,rO R,aa,υ 70 7 (yD R)]))/\
 ((R.ep != w.ve)=false->
 At (K7 R T I Q u w) ([an 0 0],[cV R w aV (ξ R.ch) (ai T) (ξ false) (bb 1) (bb 2) (aO none) (ε 3 0 (nO R)) bV,aj I,aj Q,rO R,aa,υ 70 7 (yD R)])))/\
 ∀(fS:{cX:Unit // dL R w=true/\
 fe R w=true}) (dg:Nat->
 Value),∃(fg:List Int),∃(fD:List Int),ints γ w.mem=ints γ fg/\
 ints γ w.aC=ints γ fD/\
 dH (fg.length+fD.length)/\
 bw dg [1,2,3,4,5,7,8,9,10,13,14,15,16,17,18,19,20,21]/\
 At (K9 R T I Q u w) ([an 0 0,ε 9 0 (bx R.me fg fD).length,ζ γ (↑((bx R.me fg fD).length - 0):Int),ζ γ 0],[cV R w cK (ξ (R.ch || R.ep != w.ve)) (ai T) (ξ true) (bb 5) (bb 6) (aO none) (ε 7 0 (nO R)) (ε 8 0 (yD R).length),aj I,aj Q,aa,aa,aj [],aj [],rO R,υ 70 7 (yD R),υ 3 1 (ints γ (iu R.me fg fD))])/\
 ∀(eY:{fN:Nat // fN<=(bx R.me w.mem w.aC).length/\
 dL R w=true/\
 fe R w=true}),let cf:=(↑eY.val:Int)<(↑(bx R.me w.mem w.aC).length:Int);let bp:=(aA eY.val (bx R.me w.mem w.aC));let fY:=(ae bR R.out++lm bp R w);(decide (cf)=true->
 bj (↑eY.val:Int) ((bx R.me w.mem w.aC).length - 0)/\
 ∃(fE:List D),dO[0+(↑eY.val:Int).toNat]? =some fE/\
 ∃(iT:Int),fE[0]? =some (η (φ γ iT))/\
 ∀(gm:Nat->
 Value),nO R+eY.val=fY.length/\
 bP (nO R+eY.val)/\
 ∃(eT:List Int),∃(eZ:List L3),iJ (aU ν R.c) eT/\
 bG T eZ/\
 bw gm [0,2,3,8,9,10,11,12,13,14,15,16,17,18,19,21]/\
 Nx (K9 R T I Q u w) eY ([an 0 0,ε 9 0 (bx R.me w.mem w.aC).length,ζ γ (↑(bx R.me w.mem w.aC).length:Int),ζ γ (γ.wrap ((↑eY.val:Int)+1))],[aw [ζ γ R.me,ζ γ R.id,ξ R.bl,ξ R.lo,ζ γ w.ve,ζ γ R.nu,bD 128 (aU ν eT),ai T,ζ γ w.vi,ζ γ w.vv,ζ γ w.ve,aH (ω 1 aJ),aH (ω 1 cw),ξ true,bb 5,bb 6,aO none,ζ γ R.ce,ξ (R.ch || R.ep != w.ve),ζ γ R.ti,ε 7 0 (nO R+eY.val+1),ε 8 0 (yD R).length],aj I,aj Q,aa,aa,aj [],aj [],υ 107 5 (ae bR R.out++lm bp R w++[[dn γ iT,η (φ γ 10),ω 1 [[dn γ R.id],[dn γ w.ve],[dn γ R.nu]],ω 1 (ints ν (bZ eT)),ω 1 [[ω 1 (ints ν (be eZ))]]]]),υ 70 7 (yD R),υ 3 1 dO]))/\
 (decide (cf)=false->
 K (av []) [cV R w cK (ξ (R.ch || R.ep != w.ve)) (ai T) (ξ true) (bb 1) (bb 2) (aO none) (ε 3 0 (nO R+eY.val)) (ε 4 0 (yD R).length),aj [],aj [],υ 107 5 fY,υ 70 7 (yD R)])
 ):aK Tryz.prog xq (VE R T I Q u w) 15 [an 0 0,.agg [.int γ w.vi,.int γ w.vv,.int γ w.ve,aH (.sl 1 (ints γ w.mem)),aH (.sl 1 (ints γ w.aC))]] [cR R (ai T) (ξ true) (.mp 1) (.mp 2) (.af u) (.sl 3 0 (nO R)) (.sl 4 0 (nD R)),aj I,aj Q,rO R,rD R] (gz 13 eO K):=by apply Eq.mp (a:=ar);kernel_rfl
theorem abO:aR Tryz.prog 43 Ej:=T7 hZ mixed [.fk 1] (fun args kb K h=>by
 unfold Ej at h;split at h<;>try exact h.elim
 rename_i B
 obtain⟨⟨hn⟩,h⟩:=h
 refine⟨_,agt B K fun b hb=>⟨fun e=>?_,fun _=>⟨trivial,au _,by omega,by simp,?_⟩⟩⟩
 ·have:=mq (hb e)
  rw[this]at h;exact h
 ·simpa using h)
theorem oL {k:IntKind}:ints k []=[]:=rfl
theorem qF {R:θ} {w:Vw} (h:dL R w=false):dT R w=R:=by unfold dT;rw[if_pos h]
theorem Vq {R:θ} {w:Vw} (h:dL R w=true) (h2:fe R w=false):dT R w={gn R with v:=w }:=by
 unfold dT;rw[if_neg (by simp [h])];simp only[if_pos h2]
theorem Vp {R:θ} {w:Vw} (h:dL R w=true) (h2:fe R w=true):dT R w={R with v:=w,ep:=w.ve,ch:=R.ch || (R.ep != w.ve),ld:=some ⟨fun _=>false,fun _=>false,none⟩,done:=(gn R).done,out:=R.out++(bx R.me w.mem w.aC).map fun to=>⟨to,⟨10,[R.id,w.ve,R.nu],bZ R.c,[be (gB R)]⟩⟩ }:=by
 unfold dT
 rw[if_neg (by simp [h])]
 simp only[h2,Kx]
 rfl
theorem ah2:dP Tryz.prog La:=fun f k h=>by
 unfold La at h
 split at h
 ·cases h;exact fy Sr _
 ·cases h;exact abO
 ·cases h;exact fy CJ _
 ·cases h;exact fy Jn _
 ·cases h
theorem MJ:b9 Tryz.prog xq:=dY mixed ah2 aI 10
theorem O4 {R:θ} {w:Vw} (h:w.vi≠R.id):dL R w=false:=by simp [dL,h]
theorem vF {R:θ} {w:Vw} (h:w.ve<R.v.ve∨w.ve<R.ep∨w.ve<1):dL R w=false:=by
 have:¬ (w.vi=R.id/\R.v.ve<=w.ve/\R.ep<=w.ve/\1<=w.ve):=by omega
 simp only[dL,decide_eq_false this,Bool.false_and]
theorem go_eq {R:θ} {w:Vw} (h:w.ve=R.v.ve) (h2:eL R=true∨dZ R w=false):dL R w=false:=by
 rcases h2 with h2 | h2<;>simp [dL,h,h2]
theorem G_ {R:θ} {w:Vw} (h1:w.vi=R.id) (h2:¬ w.ve<R.v.ve) (h3:¬ w.ve<R.ep) (h4:¬ w.ve<1) (h5:w.ve=R.v.ve->eL R=false/\dZ R w=true):dL R w=true:=by
 have:w.vi=R.id/\R.v.ve<=w.ve/\R.ep<=w.ve/\1<=w.ve:=by omega
 simp only[dL,decide_eq_true this,Bool.true_and]
 by_cases e:w.ve=R.v.ve
 ·obtain⟨a,b⟩:=h5 e
  simp [a,b]
 ·simp [e]
theorem tz (R:θ):ae dv (gn R).done=yD R:=by
 unfold gn yD
 cases b_ R with
 |none=>simp [yl]
 |some o=>simp [yl,dv,Gc,bn,dn,ints]
theorem Jx {me:Int} {m j:List Int} {i:Nat} (hlt:i<(bx me m j).length):(iu me m j)[i]? =(bx me m j)[i]?:=by
 have h2:(bx me m j)[i]? =((iu me m j).take (bx me m j).length)[i]?:=by rw[Jy]
 rw[h2,ji hlt]
theorem ahZ (R:θ) (T:ML) (ο π:Value) (w:Vw) (hT:bG T R.t) (hl:R.ld=none) (hR:dz R) (hw:w.mem.length+w.aC.length<=1000) (hroom:R.out.length+(bx R.me w.mem w.aC).length<=100000) (eK:∀ ο π,aB R [cR R (ai T) (ξ false) (δ ο) (δ π) (.af none) (.sl 1 0 (nO R)) (.sl 2 0 (nD R)),rO R,rD R]) (K:V->KB->Prop) (hK:∀ kb',aB (dT R w) kb'->K (.χ []) kb'):aK Tryz.prog xq (VF R T ο π w) 15 [an 0 0,.agg [.int γ w.vi,.int γ w.vv,.int γ w.ve,aH (.sl 1 (ints γ w.mem)),aH (.sl 1 (ints γ w.aC))]] [cR R (ai T) (ξ false) (δ ο) (δ π) (.af none) (.sl 1 0 (nO R)) (.sl 2 0 (nD R)),rO R,rD R] (gz 13 eO K):=by
 have fin:∀{R':θ} {kb':KB},dT R w=R'->aB R' kb'->K (.χ []) kb':=fun{R' kb'} h1 h2=>by
  have:=hK kb'
  rw[h1]at this
  exact this h2
 have h5:dH (w.mem.length+w.aC.length):=⟨by omega⟩
 have hdl:(ae dv R.done).length<=1000000:=by rw[cp];have:=hR.dl;omega
 have m8:eL R=false:=by simp [eL,hl]
 have oH:none=(b_ R).map bn:=by simp [b_,hl]
 have ky:w.mem.length<=1000000:=by omega
 have hlj:w.aC.length<=1000000:=by omega
 refine ahQ R T ο π w K ⟨⟨fun _=>?_,fun e0=>At.mk' () ?_⟩,fun _=>⟨⟨fun e1=>fun f=>fin (qF (O4 (by simpa using e1))) (eK _ _),fun e1=>⟨fun e2=>fun f=>fin (qF (vF (.inl (by simpa using e2)))) (eK _ _),fun e2=>⟨fun e3=>fun f=>fin (qF (vF (.inr (.inl (by simpa using e3))))) (eK _ _),fun e3=>⟨fun e4=>fun f=>fin (qF (vF (.inr (.inr (by simpa using e4))))) (eK _ _),fun e4=>⟨fun e5=>⟨fun f=>(by cases f),fun _=>⟨fun e6=>fun f=>fin (qF (go_eq (by simpa using e5) (.inr (by simpa using e6)))) (eK _ _),fun e6=>At.mk' ⟨(),G_ (by simpa using e1) (by simpa using e2) (by simpa using e3) (by simpa using e4) (fun _=>⟨m8,by simpa using e6⟩)⟩ rfl⟩⟩,fun e5=>At.mk' ⟨(),G_ (by simpa using e1) (by simpa using e2) (by simpa using e3) (by simpa using e4) (fun h=>absurd h (by simpa using e5))⟩ rfl⟩⟩⟩⟩⟩,fun eJ f=>⟨rfl,⟨hdl⟩,b_ R,oH,⟨by simp [bQ]⟩,⟨⟨⟨by rw[bh];exact ky⟩,⟨by rw[bh];exact hlj⟩,At.mk' eJ rfl⟩,⟨by rw[bh];exact ky⟩,⟨by rw[bh];exact hlj⟩,At.mk' eJ rfl⟩,fun eJ=>⟨?_,fun rh=>⟨⟨fun e1=>At.mk' ⟨(),rh.2⟩ ?_,fun e1=>At.mk' ⟨(),rh.2⟩ ?_⟩,fun _ f=>⟨w.mem,w.aC,rfl,rfl,h5,⟨by simp [bQ]⟩,At.mk' ⟨0,bt _,rh.2⟩ ?_,?_⟩⟩⟩⟩⟩⟩
 ·cases hm:w.mem with
  |nil=>rename_i e0;rw[hm]at e0;simp [ints]at e0
  |cons b l=>
   refine⟨dy _,[dn γ b],by simp [ints,dn],b,rfl,At.mk' () ?_⟩
   have:dZ R w=(b == R.me):=by simp [dZ,hm]
   simp only[this,hm]
 ·have:w.mem=[]:=by
   cases hm:w.mem with
   |nil=>rfl
   |cons b l=>rw[hm]at e0;simp [ints]at e0
  have h2:dZ R w=false:=by simp [dZ,this]
  simp only[h2]
 ·have uy:fe R w=false->∀ f:Nat->Value,K (.χ []) [cV R w (.int γ R.ep) (ξ R.ch) (ai T) (ξ false) (δ (f 14)) (δ (f 15)) (.af none) (.sl 1 0 (nO R)) (.sl 2 0 (yD R).length),rO R,υ 70 7 (yD R)]:=fun h f=>fin (Vq eJ.2 h) (by
   unfold aB
   refine⟨f 14,f 15,T,hT,?_⟩
   simp only[nD,rD,tz]
   rfl)
  refine⟨fun e1 f=>uy (by simp [fe,show dZ R w=false by simpa using e1]) f,fun e1=>⟨fun e2 f=>uy (by simp [fe,e2]) f,fun e2=>⟨fun e3=>⟨fun e4 f=>uy (by simp [fe,e4,show R.ep=0 by simpa using e3]) f,fun e4=>At.mk' ⟨(),eJ.2,by simp [fe,e2,e4,show dZ R w=true by simpa using e1]⟩ rfl⟩,fun e3=>At.mk' ⟨(),eJ.2,by simp [fe,e2,show ¬ R.ep=0 by simpa using e3,show dZ R w=true by simpa using e1]⟩ rfl⟩⟩⟩
 ·have e1:(R.ep != w.ve)=true:=e1
  simp only[e1,Bool.or_true]
  try rfl
 ·have e1:(R.ep != w.ve)=false:=e1
  have e2:R.ep=w.ve:=by simpa using e1
  simp only[e2,bne_self_eq_false,Bool.or_false]
  try rfl
 ·simp [lm]
  try rfl
 ·rintro⟨i,HK,hg⟩
  refine⟨fun hlt=>?_,fun hlt=>?_⟩
  ·have hlt:i<(bx R.me w.mem w.aC).length:=by simpa using hlt
   have di:(iu R.me w.mem w.aC)[i]? =(bx R.me w.mem w.aC)[i]?:=Jx hlt
   refine⟨BY (by simpa using hlt),[dn γ (bx R.me w.mem w.aC)[i]],?_,(bx R.me w.mem w.aC)[i],rfl,fun f=>⟨?_,⟨?_⟩,R.c,R.t,⟨rfl,hR.cl,hR.cb⟩,hT,⟨by simp [bQ]⟩,Nx.mk' ⟨i+1,hlt,hg⟩ ?_ ?_⟩⟩
   ·simp only[dD,cQ]
    rw[ints_getElem?,di,bz hlt];rfl
   ·simp [lm,nO];omega
   ·simp [nO];omega
   ·have wz:=bS (n:=(i:Int)+1) (by omega) (by omega)
    have eh:lm ((bx R.me w.mem w.aC).take (i+1)) R w=lm ((bx R.me w.mem w.aC).take i) R w++[mM (bx R.me w.mem w.aC)[i] R.id w.ve R.nu R.c R.t]:=by
     unfold lm
     rw[j2,bz hlt,jZ];rfl
    simp only[wz]
    simp [eh,mM,fW,dn,ints,cV]
    first
     |omega
     |exact⟨by omega,rfl⟩
     |exact⟨by omega,rfl,rfl⟩
   ·show(bx R.me w.mem w.aC).length - (i+1)<(bx R.me w.mem w.aC).length - i
    omega
  ·have hi2:i=(bx R.me w.mem w.aC).length:=by
    have:¬ i<(bx R.me w.mem w.aC).length:=by simpa using hlt
    omega
   subst hi2
   refine fin (Vp hg.1 hg.2) ?_
   unfold aB
   refine⟨[],[],T,rK,rK,hT,?_⟩
   simp only[nD,rD,tz]
   simp [cR,cV,lm,mM,fW,gB,dn,bR,jo,ints,Function.comp_def]
theorem ahY (R:θ) (T:ML) (I Q:ML) (L:bX) (w:Vw) (hT:bG T R.t) (hl:R.ld=some L) (hR:dz R) (hw:w.mem.length+w.aC.length<=1000) (hroom:R.out.length+(bx R.me w.mem w.aC).length<=100000) (hkb:aB R [cR R (ai T) (ξ true) (.mp 1) (.mp 2) (.af (L.cur.map bn)) (.sl 3 0 (nO R)) (.sl 4 0 (nD R)),aj I,aj Q,rO R,rD R]) (K:V->KB->Prop) (hK:∀ kb',aB (dT R w) kb'->K (.χ []) kb'):aK Tryz.prog xq (VE R T I Q (L.cur.map bn) w) 15 [an 0 0,.agg [.int γ w.vi,.int γ w.vv,.int γ w.ve,aH (.sl 1 (ints γ w.mem)),aH (.sl 1 (ints γ w.aC))]] [cR R (ai T) (ξ true) (.mp 1) (.mp 2) (.af (L.cur.map bn)) (.sl 3 0 (nO R)) (.sl 4 0 (nD R)),aj I,aj Q,rO R,rD R] (gz 13 eO K):=by
 have fin:∀{R':θ} {kb':KB},dT R w=R'->aB R' kb'->K (.χ []) kb':=fun{R' kb'} h1 h2=>by
  have:=hK kb'
  rw[h1]at this
  exact this h2
 have h5:dH (w.mem.length+w.aC.length):=⟨by omega⟩
 have hdl:(ae dv R.done).length<=1000000:=by rw[cp];have:=hR.dl;omega
 have m8:eL R=true:=by simp [eL,hl]
 have oH:L.cur.map bn=(b_ R).map bn:=by simp [b_,hl]
 have ky:w.mem.length<=1000000:=by omega
 have hlj:w.aC.length<=1000000:=by omega
 refine ahP R T I Q (L.cur.map bn) w K ⟨⟨fun _=>?_,fun e0=>At.mk' () ?_⟩,fun _=>⟨⟨fun e1=>fin (qF (O4 (by simpa using e1))) hkb,fun e1=>⟨fun e2=>fin (qF (vF (.inl (by simpa using e2)))) hkb,fun e2=>⟨fun e3=>fin (qF (vF (.inr (.inl (by simpa using e3))))) hkb,fun e3=>⟨fun e4=>fin (qF (vF (.inr (.inr (by simpa using e4))))) hkb,fun e4=>⟨fun e5=>⟨fun _=>fin (qF (go_eq (by simpa using e5) (.inl m8))) hkb,fun f=>(by cases f)⟩,fun e5=>At.mk' ⟨(),G_ (by simpa using e1) (by simpa using e2) (by simpa using e3) (by simpa using e4) (fun h=>absurd h (by simpa using e5))⟩ rfl⟩⟩⟩⟩⟩,fun eJ f=>⟨rfl,⟨hdl⟩,b_ R,oH,⟨by simp [bQ]⟩,⟨⟨⟨by rw[bh];exact ky⟩,⟨by rw[bh];exact hlj⟩,At.mk' eJ rfl⟩,⟨by rw[bh];exact ky⟩,⟨by rw[bh];exact hlj⟩,At.mk' eJ rfl⟩,fun eJ=>⟨?_,fun rh=>⟨⟨fun e1=>At.mk' ⟨(),rh.2⟩ ?_,fun e1=>At.mk' ⟨(),rh.2⟩ ?_⟩,fun _ f=>⟨w.mem,w.aC,rfl,rfl,h5,⟨by simp [bQ]⟩,At.mk' ⟨0,bt _,rh.2⟩ ?_,?_⟩⟩⟩⟩⟩⟩
 ·cases hm:w.mem with
  |nil=>rename_i e0;rw[hm]at e0;simp [ints]at e0
  |cons b l=>
   refine⟨dy _,[dn γ b],by simp [ints,dn],b,rfl,At.mk' () ?_⟩
   have:dZ R w=(b == R.me):=by simp [dZ,hm]
   simp only[this,hm]
 ·have:w.mem=[]:=by
   cases hm:w.mem with
   |nil=>rfl
   |cons b l=>rw[hm]at e0;simp [ints]at e0
  have h2:dZ R w=false:=by simp [dZ,this]
  simp only[h2]
 ·have uy:fe R w=false->∀ f:Nat->Value,K (.χ []) [cV R w (.int γ R.ep) (ξ R.ch) (ai T) (ξ false) (δ (f 14)) (δ (f 15)) (.af none) (.sl 1 0 (nO R)) (.sl 2 0 (yD R).length),rO R,υ 70 7 (yD R)]:=fun h f=>fin (Vq eJ.2 h) (by
   unfold aB
   refine⟨f 14,f 15,T,hT,?_⟩
   simp only[nD,rD,tz]
   rfl)
  refine⟨fun e1 f=>uy (by simp [fe,show dZ R w=false by simpa using e1]) f,fun e1=>⟨fun e2 f=>uy (by simp [fe,e2]) f,fun e2=>⟨fun e3=>⟨fun e4 f=>uy (by simp [fe,e4,show R.ep=0 by simpa using e3]) f,fun e4=>At.mk' ⟨(),eJ.2,by simp [fe,e2,e4,show dZ R w=true by simpa using e1]⟩ rfl⟩,fun e3=>At.mk' ⟨(),eJ.2,by simp [fe,e2,show ¬ R.ep=0 by simpa using e3,show dZ R w=true by simpa using e1]⟩ rfl⟩⟩⟩
 ·have e1:(R.ep != w.ve)=true:=e1
  simp only[e1,Bool.or_true]
  try rfl
 ·have e1:(R.ep != w.ve)=false:=e1
  have e2:R.ep=w.ve:=by simpa using e1
  simp only[e2,bne_self_eq_false,Bool.or_false]
  try rfl
 ·simp [lm]
  try rfl
 ·rintro⟨i,HK,hg⟩
  refine⟨fun hlt=>?_,fun hlt=>?_⟩
  ·have hlt:i<(bx R.me w.mem w.aC).length:=by simpa using hlt
   have di:(iu R.me w.mem w.aC)[i]? =(bx R.me w.mem w.aC)[i]?:=Jx hlt
   refine⟨BY (by simpa using hlt),[dn γ (bx R.me w.mem w.aC)[i]],?_,(bx R.me w.mem w.aC)[i],rfl,fun f=>⟨?_,⟨?_⟩,R.c,R.t,⟨rfl,hR.cl,hR.cb⟩,hT,⟨by simp [bQ]⟩,Nx.mk' ⟨i+1,hlt,hg⟩ ?_ ?_⟩⟩
   ·simp only[dD,cQ]
    rw[ints_getElem?,di,bz hlt];rfl
   ·simp [lm,nO];omega
   ·simp [nO];omega
   ·have wz:=bS (n:=(i:Int)+1) (by omega) (by omega)
    have eh:lm ((bx R.me w.mem w.aC).take (i+1)) R w=lm ((bx R.me w.mem w.aC).take i) R w++[mM (bx R.me w.mem w.aC)[i] R.id w.ve R.nu R.c R.t]:=by
     unfold lm
     rw[j2,bz hlt,jZ];rfl
    simp only[wz]
    simp [eh,mM,fW,dn,ints,cV]
    first
     |omega
     |exact⟨by omega,rfl⟩
     |exact⟨by omega,rfl,rfl⟩
   ·show(bx R.me w.mem w.aC).length - (i+1)<(bx R.me w.mem w.aC).length - i
    omega
  ·have hi2:i=(bx R.me w.mem w.aC).length:=by
    have:¬ i<(bx R.me w.mem w.aC).length:=by simpa using hlt
    omega
   subst hi2
   refine fin (Vp hg.1 hg.2) ?_
   unfold aB
   refine⟨[],[],T,rK,rK,hT,?_⟩
   simp only[nD,rD,tz]
   simp [cR,cV,lm,mM,fW,gB,dn,bR,jo,ints,Function.comp_def]
def Ws:aD:=fun args kb K=>∃ R w,args=[an 0 0,.agg [.int γ w.vi,.int γ w.vv,.int γ w.ve,aH (.sl 1 (ints γ w.mem)),aH (.sl 1 (ints γ w.aC))]]/\aB R kb/\dz R/\w.mem.length+w.aC.length<=1000/\R.out.length+(bx R.me w.mem w.aC).length<=100000/\∀ kb',aB (dT R w) kb'->K (.χ []) kb'
theorem ac6:gq Tryz.prog 15 Ws:=ur mixed 13 eO (fun args kb K h=>by
 obtain⟨R,w,rfl,hkb,hR,hw,hroom,hK⟩:=h
 have i_:=hkb
 unfold aB at hkb
 split at hkb
 ·rename_i hl
  obtain⟨ο,π,T,hT,rfl⟩:=hkb
  exact⟨_,_,MJ,ahZ R T ο π w hT hl hR hw hroom (fun a b=>by unfold aB;simp only[hl];exact⟨a,b,T,hT,rfl⟩) K hK⟩
 ·rename_i L hl
  obtain⟨I,Q,T,hI,hQ,hT,rfl⟩:=hkb
  exact⟨_,_,MJ,ahY R T I Q L w hT hl hR hw hroom i_ K hK⟩)
def bi (m:dI) (i:Nat):Int:=m.n.getD i 0
def jm (b:List Int):Option (List Int):=match fB b with | some c=>if c.length=128 then some c else none | none=>none
open Classical in
noncomputable def loadT (b:List Int):Option (List L3):=if h:∃ x,fa x/\b=be x then some h.choose else none
noncomputable def iH (R:θ) (fr:Int) (m:dI):θ:=
 if bi m 1<R.ep∨bi m 1=R.ep/\(bi m 2<R.nu∨eL R=true)∨m.l.length≠1 then nT R fr else
 match jm m.b,loadT (m.l.getD 0 [])with
 |some c,some t=>il {gn R with ep:=bi m 1,nu:=bi m 2,c:=c,t:=t,ch:=true } fr 11 [bi m 2] [] []
 |_,_=>R
def mark (f:Int->Bool) (k:Int) (v:Bool):Int->Bool:=fun n=>if n=k then v else f n
def im (R:θ) (fr:Int) (m:dI):θ:=match R.ld with
 |none=>R
 |some L=>if bi m 1≠R.ep∨bi m 2≠R.nu then R else match L.cur with
  |none=>{R with ld:=some ⟨mark L.ins fr true,L.cy,none⟩ }
  |some o=>fb {R with ld:=some ⟨mark L.ins fr true,mark L.cy fr true,some o⟩ }
def ux (m:dI):Op:=⟨bi m 3,bi m 4,bi m 5,bi m 6,m.b⟩
def iG (R:θ) (fr:Int) (m:dI):θ:=
 if bi m 1=R.ep/\bi m 2=R.nu/\eL R=false then il R fr 13 [R.nu] [] []
 else if bi m 1=R.ep/\bi m 2=R.nu+1/\eL R=false/\gO (ux m)=true/\(bi m 5≠4∨dN R.c=bi m 7)then il (ir R (ux m)) fr 13 [R.nu+1] [] []
 else nT R fr
def ic (R:θ) (fr:Int) (m:dI):θ:=match R.ld with
 |none=>R
 |some L=>match L.cur with
  |none=>R
  |some o=>if bi m 1=R.ep/\bi m 2=R.nu then fb {R with ld:=some ⟨L.ins,mark L.cy fr true,some o⟩ }else R
def ij (R:θ) (fr:Int) (m:dI):θ:=match R.ld with
 |none=>R
 |some L=>if R.ep<bi m 1 then gn R else if bi m 1=R.ep/\R.nu<bi m 2 then gn {R with lo:=true }
  else qC {R with ld:=some {L with ins:=mark L.ins fr false } } fr
def iD (kd:Int):Nat:=if kd=12 then 8 else 3
def ca (R:θ) (fr:Int) (m:dI):Bool:=decide (10<=m.kd/\m.kd<=14/\m.n.length=iD m.kd/\bi m 0=R.id/\fr≠R.me) && !m.n.any cI
noncomputable def dE (R:θ) (fr:Int) (m:dI):θ:=
 if ca R fr m=false then R
 else if m.kd=10 then iH R fr m else if m.kd=11 then im R fr m else if m.kd=12 then iG R fr m else if m.kd=13 then ic R fr m else ij R fr m
def cm (ls:List (List Int)):List (List D):=ls.map fun x=>[.sl 1 (ints ν x)]
def jR (R:θ) (q1 q2:Int) (ls:List (List Int)):Prop:=q1<R.ep∨q1=R.ep/\(q2<R.nu∨eL R=true)∨ls.length≠1
structure zL (b:List Int) (is:Bool) (cc:List Int):Prop where
 c1:is=true->jm b=some cc
 c0:is=false->jm b=none
structure zK (b y:List Int) (is ok:Bool) (cc:List Int) (x:List L3) (M:ML):Prop where
 c1:is=true->jm b=some cc
 c0:is=false->jm b=none
 t1:ok=true->loadT y=some x/\bG M x
 t0:ok=false->loadT y=none
abbrev Us (R:θ) (T:ML) (ο π:Value) (fr kd q0 q1 q2:Int) (b:List Int) (ls:List (List Int)):LI where
 α:={_u:Unit // ¬ jR R q1 q2 ls}
 live:=[0,1,5,6,7]
 st _:=([an 0 0,.int γ fr,an 3 0,.int γ q1,.int γ q2],[cR R (ai T) (ξ false) (δ ο) (δ π) (.af none) (.sl 1 0 (nO R)) (.sl 2 0 (nD R)),rO R,rD R,aw [.int γ kd,aH (.sl 1 [[dn γ q0],[dn γ q1],[dn γ q2]]),aH (.sl 1 (ints ν b)),aH (.sl 1 (cm ls))]])
 μ _:=0
abbrev Uu (R:θ) (T:ML) (ο π:Value) (fr kd q0 q1 q2:Int) (b:List Int) (ls:List (List Int)):LI where
 α:={p:Bool×List Int // ¬ jR R q1 q2 ls/\zL b p.1 p.2}
 live:=[0,1,5,6,7,8,9]
 st i:=([an 0 0,.int γ fr,an 3 0,.int γ q1,.int γ q2,an 4 0,ξ i.1.1],[cR R (ai T) (ξ false) (δ ο) (δ π) (.af none) (.sl 1 0 (nO R)) (.sl 2 0 (nD R)),rO R,rD R,aw [.int γ kd,aH (.sl 1 [[dn γ q0],[dn γ q1],[dn γ q2]]),aH (.sl 1 (ints ν b)),aH (.sl 1 (cm ls))],aw [bD 128 (aU ν i.1.2)]])
 μ _:=0
abbrev Uy (R:θ) (T:ML) (ο π:Value) (fr kd q0 q1 q2:Int) (b:List Int) (ls:List (List Int)) (cc:List Int) (M:ML):LI where
 α:=Unit
 live:=[0,1,7]
 st _:=([an 0 0,.int γ fr,.int γ q2],[cG R (ξ R.lo) (.int γ q1) (.int γ q2) (bD 128 (aU ν cc)) (ξ true) (ai M) (ξ false) (δ ο) (δ π) (.af none) (.sl 1 0 (nO R)) (.sl 3 0 (yD R).length),rO R,aa,υ 70 7 (yD R)])
 μ _:=0
abbrev Uw (R:θ) (T:ML) (ο π:Value) (fr kd q0 q1 q2:Int) (b:List Int) (ls:List (List Int)):LI where
 α:={p:Bool×Bool×List Int×List L3×ML // ¬ jR R q1 q2 ls/\zK b (ls.getD 0 []) p.1 p.2.1 p.2.2.1 p.2.2.2.1 p.2.2.2.2}
 live:=[0,1,6,7,8,9,10,11]
 dV:=[.oK 4 0 [γ] false true 2]
 st i:=([an 0 0,.int γ fr,.int γ q1,.int γ q2,an 3 0,ξ i.1.1,an 4 0,ξ i.1.2.1],[cR R (ai T) (ξ false) (δ ο) (δ π) (.af none) (.sl 1 0 (nO R)) (.sl 2 0 (nD R)),rO R,rD R,aw [bD 128 (aU ν i.1.2.2.1)],aw [ai i.1.2.2.2.2]])
 μ _:=0
 sub i r:=match r with
  | 1009=>some (Uy R T ο π fr kd q0 q1 q2 b ls i.1.2.2.1 i.1.2.2.2.2)
  |_=>none
def UA (R:θ) (T:ML) (ο π:Value) (fr kd q0 q1 q2:Int) (b:List Int) (ls:List (List Int)):Nat->Option LI
 | 1004=>some (Us R T ο π fr kd q0 q1 q2 b ls)
 | 1005=>some (Uu R T ο π fr kd q0 q1 q2 b ls)
 | 1006=>some (Uw R T ο π fr kd q0 q1 q2 b ls)
 |_=>none
abbrev Ur (R:θ) (T:ML) (I Q:ML) (u:Option (List D)) (fr kd q0 q1 q2:Int) (b:List Int) (ls:List (List Int)):LI where
 α:={_u:Unit // ¬ jR R q1 q2 ls}
 live:=[0,1,5,6,7]
 st _:=([an 0 0,.int γ fr,an 5 0,.int γ q1,.int γ q2],[cR R (ai T) (ξ true) (.mp 1) (.mp 2) (.af u) (.sl 3 0 (nO R)) (.sl 4 0 (nD R)),aj I,aj Q,rO R,rD R,aw [.int γ kd,aH (.sl 1 [[dn γ q0],[dn γ q1],[dn γ q2]]),aH (.sl 1 (ints ν b)),aH (.sl 1 (cm ls))]])
 μ _:=0
abbrev Ut (R:θ) (T:ML) (I Q:ML) (u:Option (List D)) (fr kd q0 q1 q2:Int) (b:List Int) (ls:List (List Int)):LI where
 α:={p:Bool×List Int // ¬ jR R q1 q2 ls/\zL b p.1 p.2}
 live:=[0,1,5,6,7,8,9]
 st i:=([an 0 0,.int γ fr,an 5 0,.int γ q1,.int γ q2,an 6 0,ξ i.1.1],[cR R (ai T) (ξ true) (.mp 1) (.mp 2) (.af u) (.sl 3 0 (nO R)) (.sl 4 0 (nD R)),aj I,aj Q,rO R,rD R,aw [.int γ kd,aH (.sl 1 [[dn γ q0],[dn γ q1],[dn γ q2]]),aH (.sl 1 (ints ν b)),aH (.sl 1 (cm ls))],aw [bD 128 (aU ν i.1.2)]])
 μ _:=0
abbrev Ux (R:θ) (T:ML) (I Q:ML) (u:Option (List D)) (fr kd q0 q1 q2:Int) (b:List Int) (ls:List (List Int)) (cc:List Int) (M:ML):LI where
 α:=Unit
 live:=[0,1,7]
 st _:=([an 0 0,.int γ fr,.int γ q2],[cG R (ξ R.lo) (.int γ q1) (.int γ q2) (bD 128 (aU ν cc)) (ξ true) (ai M) (ξ false) (.mp 1) (.mp 2) (.af none) (.sl 3 0 (nO R)) (.sl 5 0 (yD R).length),aj I,aj Q,rO R,aa,υ 70 7 (yD R)])
 μ _:=0
abbrev Uv (R:θ) (T:ML) (I Q:ML) (u:Option (List D)) (fr kd q0 q1 q2:Int) (b:List Int) (ls:List (List Int)):LI where
 α:={p:Bool×Bool×List Int×List L3×ML // ¬ jR R q1 q2 ls/\zK b (ls.getD 0 []) p.1 p.2.1 p.2.2.1 p.2.2.2.1 p.2.2.2.2}
 live:=[0,1,6,7,8,9,10,11]
 dV:=[.oK 6 0 [γ] false true 2]
 st i:=([an 0 0,.int γ fr,.int γ q1,.int γ q2,an 5 0,ξ i.1.1,an 6 0,ξ i.1.2.1],[cR R (ai T) (ξ true) (.mp 1) (.mp 2) (.af u) (.sl 3 0 (nO R)) (.sl 4 0 (nD R)),aj I,aj Q,rO R,rD R,aw [bD 128 (aU ν i.1.2.2.1)],aw [ai i.1.2.2.2.2]])
 μ _:=0
 sub i r:=match r with
  | 1009=>some (Ux R T I Q u fr kd q0 q1 q2 b ls i.1.2.2.1 i.1.2.2.2.2)
  |_=>none
def Uz (R:θ) (T:ML) (I Q:ML) (u:Option (List D)) (fr kd q0 q1 q2:Int) (b:List Int) (ls:List (List Int)):Nat->Option LI
 | 1004=>some (Ur R T I Q u fr kd q0 q1 q2 b ls)
 | 1005=>some (Ut R T I Q u fr kd q0 q1 q2 b ls)
 | 1006=>some (Uv R T I Q u fr kd q0 q1 q2 b ls)
 |_=>none
def IJ:FuncId->Option dK
 | 110=>some ⟨[],eB [true,false,true,true,false,false,false,true,true,true,true,true,true,true,true,true,true,true,true,true,false,true] Ey⟩
 | 33=>some ⟨[],xd⟩
 | 34=>some ⟨[],zV⟩
 | 42=>some ⟨[],eB [true,true,true,true,true,true,false,true,true,true,true,true,true,false,true,true,false,true,true,true,true,false] Ax⟩
 | 52=>some ⟨[],Ac⟩
 | 49=>some ⟨[],eB [true,true,true,true,true,true,false,true,true,true,true,true,true,true,true,true,true,true,true,true,true,true] xe⟩
 | 56=>some ⟨[],eB [true,true,true,true,true,false,false,false,true,true,true,true,true,true,true,true,true,true,false,true,true,true] z8⟩
 | 58=>some ⟨[],eB [false,true,true,true,true,true,false,true,true,true,true,false,false,true,true,false,false,true,true,true,true,false] z_⟩
 | 45=>some ⟨[],eB [true,false,true,true,false,false,false,false,true,true,true,true,true,true,true,true,true,true,true,true,false,true] xi⟩
 | 75=>some ⟨[.my,.my,.my,.fk 1,.fk 1,.fk 1],eB [true,false,true,true,false,true,false,true,true,true,true,true,true,true,true,true,true,true,true,true,false,true] Ap⟩
 |_=>none
noncomputable def jI:bN:=dU Tryz.prog IJ aI 10
theorem ahG (R:θ) (T:ML) (ο π:Value) (fr kd q0 q1 q2:Int) (b:List Int) (ls:List (List Int)) (K:V->KB->Prop) (ar:
 let bW:=((↑(cm ls).length:Int) != 1)=true;let cw:=((↑(cm ls).length:Int) != 1)=false;let bV:=(Uw R T ο π fr kd q0 q1 q2 b ls);let cf:=(Uu R T ο π fr kd q0 q1 q2 b ls);let aV:=[[dn γ q0],[dn γ q1],[dn γ q2]];let aJ:=[0,2,3,7,8,9,10,11,12,13,14,15,16,17,18,19,21];let az:=aw [ζ γ kd,aH (ω 1 aV),aH (ω 1 (ints ν b)),aH (ω 1 (cm ls))];let ah:=υ 107 5 (ae bR R.out++[[dn γ fr,η (φ γ 14),ω 1 [[dn γ R.id],[dn γ R.ep],[dn γ R.nu]],ω 1 [],ω 1 []]]);aM 1/\
 ∃(y1:List D),aV[1]? =some y1/\
 ∃(y2:Int),y1[0]? =some (η (φ γ y2))/\
 aM 2/\
 ∃(y3:List D),aV[2]? =some y3/\
 ∃(y4:Int),let aL:=At (Us R T ο π fr kd q0 q1 q2 b ls) ([an 0 0,ζ γ fr,an 3 0,ζ γ y2,ζ γ y4],[cR R (ai T) (ξ false) (δ ο) (δ π) (aO none) (ε 1 0 (nO R)) (ε 2 0 (nD R)),rO R,rD R,az]);y3[0]? =some (η (φ γ y4))/\
 ((decide (y2<R.ep)=true->
 ∀(y5:Nat->
 Value),nO R=(nO R)/\
 bP (nO R)/\
 bw y5 aJ/\
 ∀(y6:Nat->
 Value),K (av []) [cR R (ai T) (ξ false) (δ (y6 14)) (δ (y6 15)) (aO none) (ε 1 0 (nO R+1)) (ε 2 0 (nD R)),ah,rD R])/\
 (decide (y2<R.ep)=false->
 ((y2 == R.ep)=true->
 (decide (y4<R.nu)=true->
 ∀(y7:Nat->
 Value),nO R=(nO R)/\
 bP (nO R)/\
 bw y7 aJ/\
 ∀(y8:Nat->
 Value),K (av []) [cR R (ai T) (ξ false) (δ (y8 14)) (δ (y8 15)) (aO none) (ε 1 0 (nO R+1)) (ε 2 0 (nD R)),ah,rD R])/\
 (decide (y4<R.nu)=false->
 (false=true->
 ∀(y9:Nat->
 Value),nO R=(nO R)/\
 bP (nO R)/\
 bw y9 aJ/\
 ∀(cO:Nat->
 Value),K (av []) [cR R (ai T) (ξ false) (δ (cO 14)) (δ (cO 15)) (aO none) (ε 1 0 (nO R+1)) (ε 2 0 (nD R)),ah,rD R])/\
 (false=false->
 (bW->
 ∀(cC:Nat->
 Value),nO R=(nO R)/\
 bP (nO R)/\
 bw cC aJ/\
 ∀(cD:Nat->
 Value),K (av []) [cR R (ai T) (ξ false) (δ (cD 14)) (δ (cD 15)) (aO none) (ε 1 0 (nO R+1)) (ε 2 0 (nD R)),ah,rD R])/\
 (cw->
 aL))))/\
 ((y2 == R.ep)=false->
 (bW->
 ∀(cM:Nat->
 Value),nO R=(nO R)/\
 bP (nO R)/\
 bw cM aJ/\
 ∀(dC:Nat->
 Value),K (av []) [cR R (ai T) (ξ false) (δ (dC 14)) (δ (dC 15)) (aO none) (ε 1 0 (nO R+1)) (ε 2 0 (nD R)),ah,rD R])/\
 (cw->
 aL))))/\
 ∀(fS:{cX:Unit // ¬jR R q1 q2 ls}),(∃(dg:List Int),ints ν b=ints ν dg/\
 (∀(fg:Int),dW fg dg->
 0<=fg/\
 fg<256)/\
 dg.length<=900000/\
 (∀(fD:List Int),fB dg=some fD->
 fD.length=128->
 At cf ([an 0 0,ζ γ fr,an 3 0,ζ γ q1,ζ γ q2,an 4 0,ξ true],[cR R (ai T) (ξ false) (δ ο) (δ π) (aO none) (ε 1 0 (nO R)) (ε 2 0 (nD R)),rO R,rD R,az,aw [bD 128 (aU ν fD)]]))/\
 ((∀(fN:List Int),fB dg=some fN->
 fN.length=128->
 False)->
 At cf ([an 0 0,ζ γ fr,an 3 0,ζ γ q1,ζ γ q2,an 4 0,ξ false],[cR R (ai T) (ξ false) (δ ο) (δ π) (aO none) (ε 1 0 (nO R)) (ε 2 0 (nD R)),rO R,rD R,az,aw [bD 128 (dp 128 (η (φ ν 0)))]])))/\
 ∀(fE:{eY:Bool×List Int // ¬jR R q1 q2 ls/\
 zL b eY.fst eY.snd}),let bp:=aw [bD 128 (aU ν fE.val.snd)];(aM 0/\
 ∃(iT:List D),(cm ls)[0]? =some iT/\
 ∃(gm:List (List D)),iT[0]? =some (ω 1 gm)/\
 ∃(eT:List Int),gm=ints ν eT/\
 (∀(eZ:Int),dW eZ eT->
 0<=eZ/\
 eZ<256)/\
 eT.length<=140737488355328/\
 (((∃(eF:List L3),fa eF/\
 eT=be eF)->
 False)->
 At bV ([an 0 0,ζ γ fr,ζ γ q1,ζ γ q2,an 3 0,ξ fE.val.fst,an 4 0,ξ false],[cR R (ai T) (ξ false) (δ ο) (δ π) (aO none) (ε 1 0 (nO R)) (ε 2 0 (nD R)),rO R,rD R,bp,aw [ai []]]))/\
 ∀(iU:List L3) (jS:ML),bG jS iU->
 eT=be iU->
 At bV ([an 0 0,ζ γ fr,ζ γ q1,ζ γ q2,an 3 0,ξ fE.val.fst,an 4 0,ξ true],[cR R (ai T) (ξ false) (δ ο) (δ π) (aO none) (ε 1 0 (nO R)) (ε 2 0 (nD R)),rO R,rD R,bp,aw [ai jS]]))/\
 ∀(ft:{iq:Bool×Bool×List Int×List L3×ML // ¬jR R q1 q2 ls/\
 zK b (ls.getD 0 []) iq.fst iq.snd.fst iq.snd.snd.fst iq.snd.snd.snd.fst iq.snd.snd.snd.snd}),let bC:=(bD 128 (aU ν ft.val.snd.snd.fst));((!ft.val.fst)=true->
 ∀(jT:Nat->
 Value),K (av []) [cR R (ai T) (ξ false) (δ (jT 14)) (δ (jT 15)) (aO none) (ε 1 0 (nO R)) (ε 2 0 (nD R)),rO R,rD R])/\
 ((!ft.val.fst)=false->
 ((!ft.val.snd.fst)=true->
 ∀(km:Nat->
 Value),K (av []) [cR R (ai T) (ξ false) (δ (km 14)) (δ (km 15)) (aO none) (ε 1 0 (nO R)) (ε 2 0 (nD R)),rO R,rD R])/\
 ((!ft.val.snd.fst)=false->
 ∀(jU:Nat->
 Value),nD R=(nD R)/\
 bP (nD R)/\
 ∃(kL:Option Op),let κ:=At (Uy R T ο π fr kd q0 q1 q2 b ls ft.val.snd.snd.fst ft.val.snd.snd.snd.snd) ([an 0 0,ζ γ fr,ζ γ q2],[cG R (ξ R.lo) (ζ γ q1) (ζ γ q2) bC (ξ true) (ai ft.val.snd.snd.snd.snd) (ξ false) (δ ο) (δ π) (aO none) (ε 1 0 (nO R)) (ε 3 0 (ae dv R.done++yl kL).length),rO R,aa,υ 70 7 (ae dv R.done++yl kL)]);none=mU bn kL/\
 bw jU [0,1,2,3,4,5,7,8,9,10,11,12,14,15,17,18,19,20]/\
 ((κ/\
 κ/\
 κ/\
 κ)/\
 (κ/\
 κ/\
 κ)/\
 (κ/\
 κ/\
 κ)/\
 (κ/\
 κ)/\
 κ/\
 κ)/\
 ∀(oh:Unit),1<=1/\
 ∀(mQ:Nat->
 Value),nO R=(nO R)/\
 bP (nO R)/\
 bP 1/\
 bw mQ [0,2,3,5,7,8,9,10,11,12,13,14,15,16,17,18,19,21]/\
 ∀(kM:Nat->
 Value),K (av []) [cG R (ξ R.lo) (ζ γ q1) (ζ γ q2) bC (ξ true) (ai ft.val.snd.snd.snd.snd) (ξ false) (δ (kM 14)) (δ (kM 15)) (aO none) (ε 1 0 (nO R+1)) (ε 2 0 (yD R).length),υ 107 5 (ae bR R.out++[[dn γ fr,η (φ γ 11),ω 1 [[dn γ R.id],[dn γ q1],[η (φ γ q2)]],ω 1 [],ω 1 []]]),υ 70 7 (yD R)]))
 ):aK Tryz.prog jI (UA R T ο π fr kd q0 q1 q2 b ls) 87 [an 0 0,.int γ fr,.agg [.int γ kd,aH (.sl 1 [[dn γ q0],[dn γ q1],[dn γ q2]]),aH (.sl 1 (ints ν b)),aH (.sl 1 (cm ls))]] [cR R (ai T) (ξ false) (δ ο) (δ π) (.af none) (.sl 1 0 (nO R)) (.sl 2 0 (nD R)),rO R,rD R] (gz 13 eO K):=by apply Eq.mp (a:=ar);kernel_rfl
theorem ahF (R:θ) (T:ML) (I Q:ML) (u:Option (List D)) (fr kd q0 q1 q2:Int) (b:List Int) (ls:List (List Int)) (K:V->KB->Prop) (ar:
 let cK:=(Uv R T I Q u fr kd q0 q1 q2 b ls);let bW:=(Ut R T I Q u fr kd q0 q1 q2 b ls);let cw:=((↑(cm ls).length:Int) != 1)=true;let bV:=((↑(cm ls).length:Int) != 1)=false;let bp:=[[dn γ q0],[dn γ q1],[dn γ q2]];let aV:=K (av []) [cR R (ai T) (ξ true) (bb 1) (bb 2) (aO u) (ε 3 0 (nO R)) (ε 4 0 (nD R)),aj I,aj Q,rO R,rD R];let aJ:=[0,2,3,7,8,9,10,11,12,13,14,15,16,17,18,19,21];let az:=aw [ζ γ kd,aH (ω 1 bp),aH (ω 1 (ints ν b)),aH (ω 1 (cm ls))];let ah:=K (av []) [cR R (ai T) (ξ true) (bb 1) (bb 2) (aO u) (ε 3 0 (nO R+1)) (ε 4 0 (nD R)),aj I,aj Q,υ 107 5 (ae bR R.out++[[dn γ fr,η (φ γ 14),ω 1 [[dn γ R.id],[dn γ R.ep],[dn γ R.nu]],ω 1 [],ω 1 []]]),rD R];aM 1/\
 ∃(y1:List D),bp[1]? =some y1/\
 ∃(y2:Int),y1[0]? =some (η (φ γ y2))/\
 aM 2/\
 ∃(y3:List D),bp[2]? =some y3/\
 ∃(y4:Int),let aL:=At (Ur R T I Q u fr kd q0 q1 q2 b ls) ([an 0 0,ζ γ fr,an 5 0,ζ γ y2,ζ γ y4],[cR R (ai T) (ξ true) (bb 1) (bb 2) (aO u) (ε 3 0 (nO R)) (ε 4 0 (nD R)),aj I,aj Q,rO R,rD R,az]);y3[0]? =some (η (φ γ y4))/\
 ((decide (y2<R.ep)=true->
 ∀(y5:Nat->
 Value),nO R=(nO R)/\
 bP (nO R)/\
 bw y5 aJ/\
 ah)/\
 (decide (y2<R.ep)=false->
 ((y2 == R.ep)=true->
 (decide (y4<R.nu)=true->
 ∀(y6:Nat->
 Value),nO R=(nO R)/\
 bP (nO R)/\
 bw y6 aJ/\
 ah)/\
 (decide (y4<R.nu)=false->
 (true=true->
 ∀(y7:Nat->
 Value),nO R=(nO R)/\
 bP (nO R)/\
 bw y7 aJ/\
 ah)/\
 (true=false->
 (cw->
 ∀(y8:Nat->
 Value),nO R=(nO R)/\
 bP (nO R)/\
 bw y8 aJ/\
 ah)/\
 (bV->
 aL))))/\
 ((y2 == R.ep)=false->
 (cw->
 ∀(y9:Nat->
 Value),nO R=(nO R)/\
 bP (nO R)/\
 bw y9 aJ/\
 ah)/\
 (bV->
 aL))))/\
 ∀(cC:{cO:Unit // ¬jR R q1 q2 ls}),(∃(cD:List Int),ints ν b=ints ν cD/\
 (∀(cM:Int),dW cM cD->
 0<=cM/\
 cM<256)/\
 cD.length<=900000/\
 (∀(dC:List Int),fB cD=some dC->
 dC.length=128->
 At bW ([an 0 0,ζ γ fr,an 5 0,ζ γ q1,ζ γ q2,an 6 0,ξ true],[cR R (ai T) (ξ true) (bb 1) (bb 2) (aO u) (ε 3 0 (nO R)) (ε 4 0 (nD R)),aj I,aj Q,rO R,rD R,az,aw [bD 128 (aU ν dC)]]))/\
 ((∀(cX:List Int),fB cD=some cX->
 cX.length=128->
 False)->
 At bW ([an 0 0,ζ γ fr,an 5 0,ζ γ q1,ζ γ q2,an 6 0,ξ false],[cR R (ai T) (ξ true) (bb 1) (bb 2) (aO u) (ε 3 0 (nO R)) (ε 4 0 (nD R)),aj I,aj Q,rO R,rD R,az,aw [bD 128 (dp 128 (η (φ ν 0)))]])))/\
 ∀(dg:{fS:Bool×List Int // ¬jR R q1 q2 ls/\
 zL b fS.fst fS.snd}),let bC:=aw [bD 128 (aU ν dg.val.snd)];(aM 0/\
 ∃(fg:List D),(cm ls)[0]? =some fg/\
 ∃(fD:List (List D)),fg[0]? =some (ω 1 fD)/\
 ∃(fN:List Int),fD=ints ν fN/\
 (∀(eY:Int),dW eY fN->
 0<=eY/\
 eY<256)/\
 fN.length<=140737488355328/\
 (((∃(fE:List L3),fa fE/\
 fN=be fE)->
 False)->
 At cK ([an 0 0,ζ γ fr,ζ γ q1,ζ γ q2,an 5 0,ξ dg.val.fst,an 6 0,ξ false],[cR R (ai T) (ξ true) (bb 1) (bb 2) (aO u) (ε 3 0 (nO R)) (ε 4 0 (nD R)),aj I,aj Q,rO R,rD R,bC,aw [ai []]]))/\
 ∀(iT:List L3) (gm:ML),bG gm iT->
 fN=be iT->
 At cK ([an 0 0,ζ γ fr,ζ γ q1,ζ γ q2,an 5 0,ξ dg.val.fst,an 6 0,ξ true],[cR R (ai T) (ξ true) (bb 1) (bb 2) (aO u) (ε 3 0 (nO R)) (ε 4 0 (nD R)),aj I,aj Q,rO R,rD R,bC,aw [ai gm]]))/\
 ∀(eZ:{eT:Bool×Bool×List Int×List L3×ML // ¬jR R q1 q2 ls/\
 zK b (ls.getD 0 []) eT.fst eT.snd.fst eT.snd.snd.fst eT.snd.snd.snd.fst eT.snd.snd.snd.snd}),let cf:=(bD 128 (aU ν eZ.val.snd.snd.fst));((!eZ.val.fst)=true->
 aV)/\
 ((!eZ.val.fst)=false->
 ((!eZ.val.snd.fst)=true->
 aV)/\
 ((!eZ.val.snd.fst)=false->
 ∀(eF:Nat->
 Value),nD R=(nD R)/\
 bP (nD R)/\
 ∃(iU:Option Op),let κ:=At (Ux R T I Q u fr kd q0 q1 q2 b ls eZ.val.snd.snd.fst eZ.val.snd.snd.snd.snd) ([an 0 0,ζ γ fr,ζ γ q2],[cG R (ξ R.lo) (ζ γ q1) (ζ γ q2) cf (ξ true) (ai eZ.val.snd.snd.snd.snd) (ξ false) (bb 1) (bb 2) (aO none) (ε 3 0 (nO R)) (ε 5 0 (ae dv R.done++yl iU).length),aj I,aj Q,rO R,aa,υ 70 7 (ae dv R.done++yl iU)]);u=mU bn iU/\
 bw eF [0,1,2,3,4,5,7,8,9,10,11,12,14,15,17,18,19,20]/\
 ((κ/\
 κ/\
 κ/\
 κ)/\
 (κ/\
 κ/\
 κ)/\
 (κ/\
 κ/\
 κ)/\
 (κ/\
 κ)/\
 κ/\
 κ)/\
 ∀(jS:Unit),1<=1/\
 ∀(iq:Nat->
 Value),nO R=(nO R)/\
 bP (nO R)/\
 bP 1/\
 bw iq [0,2,3,5,7,8,9,10,11,12,13,14,15,16,17,18,19,21]/\
 ∀(ft:Nat->
 Value),K (av []) [cG R (ξ R.lo) (ζ γ q1) (ζ γ q2) cf (ξ true) (ai eZ.val.snd.snd.snd.snd) (ξ false) (δ (ft 14)) (δ (ft 15)) (aO none) (ε 1 0 (nO R+1)) (ε 2 0 (yD R).length),υ 107 5 (ae bR R.out++[[dn γ fr,η (φ γ 11),ω 1 [[dn γ R.id],[dn γ q1],[η (φ γ q2)]],ω 1 [],ω 1 []]]),υ 70 7 (yD R)]))
 ):aK Tryz.prog jI (Uz R T I Q u fr kd q0 q1 q2 b ls) 87 [an 0 0,.int γ fr,.agg [.int γ kd,aH (.sl 1 [[dn γ q0],[dn γ q1],[dn γ q2]]),aH (.sl 1 (ints ν b)),aH (.sl 1 (cm ls))]] [cR R (ai T) (ξ true) (.mp 1) (.mp 2) (.af u) (.sl 3 0 (nO R)) (.sl 4 0 (nD R)),aj I,aj Q,rO R,rD R] (gz 13 eO K):=by apply Eq.mp (a:=ar);kernel_rfl
theorem UK {x y:List L3} (hx:fa x) (hy:fa y) (h:be x=be y):x=y:=by
 obtain⟨h1,h2⟩:=B_ hx
 obtain⟨h3,h4⟩:=B_ hy
 have hlen:x.length=y.length:=by rw[<- h1,h,h3]
 have e1:=h2 x.length (au _)
 have e2:=h4 y.length (au _)
 rw[cZ]at e1 e2
 rw[h,hlen,e2]at e1
 exact(congrArg (·.2) e1).symm
theorem Jp:fa []:=⟨List.Pairwise.nil,fun p hp=>(by cases hp),by simp⟩
theorem UM {M:ML} {x:List L3} (h:bG M x):fa x:=⟨h.inc,h.rg,h.len⟩
theorem QW {b:List Int} (h:¬ ∃ x,fa x/\b=be x):loadT b=none:=by unfold loadT;rw[dif_neg h]
theorem Ci {b:List Int} {x:List L3} (hx:fa x) (h:b=be x):loadT b=some x:=by
 have hex:∃ x,fa x/\b=be x:=⟨x,hx,h⟩
 have hc:=hex.choose_spec
 have e:hex.choose=x:=UK hc.1 hx (hc.2.symm.trans h)
 unfold loadT
 rw[dif_pos hex,e]
theorem UE {R:θ} {fr kd q0 q1 q2:Int} {b:List Int} {ls:List (List Int)} (h:jR R q1 q2 ls):iH R fr ⟨kd,[q0,q1,q2],b,ls⟩=nT R fr:=by
 unfold iH;exact if_pos h
theorem UD {R:θ} {fr kd q0 q1 q2:Int} {b:List Int} {ls:List (List Int)} (h:¬ jR R q1 q2 ls) (h2:jm b=none∨loadT (ls.getD 0 [])=none):iH R fr ⟨kd,[q0,q1,q2],b,ls⟩=R:=by
 unfold iH
 refine(if_neg h).trans ?_
 rcases h2 with h2 | h2
 ·simp only[h2]
 ·simp only[h2]
  cases jm b<;>rfl
theorem UF {R:θ} {fr kd q0 q1 q2:Int} {b c:List Int} {t:List L3} {ls:List (List Int)} (h:¬ jR R q1 q2 ls) (hc:jm b=some c) (ht:loadT (ls.getD 0 [])=some t):
  iH R fr ⟨kd,[q0,q1,q2],b,ls⟩={R with ld:=none,done:=(gn R).done,ep:=q1,nu:=q2,c:=c,t:=t,ch:=true,out:=R.out++[⟨fr,⟨11,[R.id,q1,q2],[],[]⟩⟩] }:=by
 unfold iH
 refine(if_neg h).trans ?_
 simp only[hc,ht]
 rfl
theorem abp:dP Tryz.prog IJ:=fun f k h=>by
 unfold IJ at h
 split at h
 ·cases h;exact fy ack _
 ·cases h;exact Ji
 ·cases h;exact R9
 ·cases h;exact fy Sr _
 ·cases h;exact R8
 ·cases h;exact fy Jj _
 ·cases h;exact fy R4 _
 ·cases h;exact fy R6 _
 ·cases h;exact fy Jn _
 ·cases h;exact fy Sf _
 ·cases h
theorem pT:b9 Tryz.prog jI:=dY mixed abp aI 10
theorem QT {b:List Int} (h:∀ m,fB b=some m->m.length=128->False):jm b=none:=by
 unfold jm
 cases ho:fB b with
 |none=>rfl
 |some m=>simp only;rw[if_neg (h m ho)]
theorem afB (R:θ) (T:ML) (ο π:Value) (fr kd q0 q1 q2:Int) (b:List Int) (ls:List (List Int)) (hT:bG T R.t) (hl:R.ld=none) (hR:dz R) (hb:bm b) (cj:b.length<=900000) (hls:∀ y∈ls,bm y/\y.length<=140737488355328) (eK:∀ ο π,aB R [cR R (ai T) (ξ false) (δ ο) (δ π) (.af none) (.sl 1 0 (nO R)) (.sl 2 0 (nD R)),rO R,rD R]) (K:V->KB->Prop) (hK:∀ kb',aB (iH R fr ⟨kd,[q0,q1,q2],b,ls⟩) kb'->K (.χ []) kb'):aK Tryz.prog jI (UA R T ο π fr kd q0 q1 q2 b ls) 87 [an 0 0,.int γ fr,.agg [.int γ kd,aH (.sl 1 [[dn γ q0],[dn γ q1],[dn γ q2]]),aH (.sl 1 (ints ν b)),aH (.sl 1 (cm ls))]] [cR R (ai T) (ξ false) (δ ο) (δ π) (.af none) (.sl 1 0 (nO R)) (.sl 2 0 (nD R)),rO R,rD R] (gz 13 eO K):=by
 have fin:∀{R':θ} {kb':KB},iH R fr ⟨kd,[q0,q1,q2],b,ls⟩=R'->aB R' kb'->K (.χ []) kb':=fun{R' kb'} h1 h2=>by
  have:=hK kb'
  rw[h1]at this
  exact this h2
 have fz:nO R<=1000000:=by show(ae bR R.out).length<=_;rw[cp];have:=hR.ol;omega
 have hdl:nD R<=1000000:=by show(ae dv R.done).length<=_;rw[cp];have:=hR.dl;omega
 have m8:eL R=false:=by simp [eL,hl]
 have oH:none=(b_ R).map bn:=by simp [b_,hl]
 have nk:jR R q1 q2 ls->∀ f:Nat->Value,K (.χ []) [cR R (ai T) (ξ false) (δ (f 14)) (δ (f 15)) (.af none) (.sl 1 0 (nO R+1)) (.sl 2 0 (nD R)),υ 107 5 (ae bR R.out++[fW fr 14 R.id R.ep [[dn γ R.nu]] [] []]),rD R]:=fun h f=>fin (UE h) (by
  unfold aB nT il
  simp only[hl]
  refine⟨f 14,f 15,T,hT,?_⟩
  simp [cR,bR,jo,fW,dn,ints,oL])
 have sm:¬ jR R q1 q2 ls->(jm b=none∨loadT (ls.getD 0 [])=none)->∀ f:Nat->Value,K (.χ []) [cR R (ai T) (ξ false) (δ (f 14)) (δ (f 15)) (.af none) (.sl 1 0 (nO R)) (.sl 2 0 (nD R)),rO R,rD R]:=fun h h2 f=>fin (UD h h2) (eK _ _)
 have Jq:∀ cc y M,bG M y->¬ jR R q1 q2 ls->jm b=some cc->loadT (ls.getD 0 [])=some y->∀ f:Nat->Value,K (.χ []) [cG R (ξ R.lo) (.int γ q1) (.int γ q2) (bD 128 (aU ν cc)) (ξ true) (ai M) (ξ false) (δ (f 14)) (δ (f 15)) (.af none) (.sl 1 0 (nO R+1)) (.sl 2 0 (yD R).length),υ 107 5 (ae bR R.out++[fW fr 11 R.id q1 [[dn γ q2]] [] []]),υ 70 7 (yD R)]:=fun cc y M hM h hc ht2 f=>fin (UF h hc ht2) (by
  unfold aB
  refine⟨f 14,f 15,M,hM,?_⟩
  simp only[nD,rD,tz]
  simp [cR,cG,bR,jo,fW,dn,ints,oL])
 refine ahG R T ο π fr kd q0 q1 q2 b ls K ⟨(by decide:(0:Int)<=1),_,rfl,q1,rfl,(by decide:(0:Int)<=2),_,rfl,q2,rfl,⟨fun e1=>fun f=>⟨rfl,⟨fz⟩,⟨by simp [bQ]⟩,fun f=>nk (.inl (show q1<R.ep by simpa using e1)) f⟩,fun e1=>⟨fun e2=>⟨fun e3=>fun f=>⟨rfl,⟨fz⟩,⟨by simp [bQ]⟩,fun f=>nk (.inr (.inl ⟨show q1=R.ep by simpa using e2,.inl (show q2<R.nu by simpa using e3)⟩)) f⟩,fun e3=>⟨fun f=>(by cases f),fun _=>⟨fun e4=>fun f=>⟨rfl,⟨fz⟩,⟨by simp [bQ]⟩,fun f=>nk (.inr (.inr (by have:=e4;simp [cm]at this;omega))) f⟩,fun e4=>At.mk' ⟨(),fun h=>h.elim (fun h=>absurd h (show ¬ q1<R.ep by simpa using e1)) (fun h=>h.elim (fun h=>h.2.elim (fun h=>absurd h (show ¬ q2<R.nu by simpa using e3)) (fun h=>absurd h (by rw[m8];decide))) (fun h=>h (show ls.length=1 by have:=e4;simp [cm]at this;omega)))⟩ rfl⟩⟩⟩,fun e2=>⟨fun e4=>fun f=>⟨rfl,⟨fz⟩,⟨by simp [bQ]⟩,fun f=>nk (.inr (.inr (by have:=e4;simp [cm]at this;omega))) f⟩,fun e4=>At.mk' ⟨(),fun h=>h.elim (fun h=>absurd h (show ¬ q1<R.ep by simpa using e1)) (fun h=>h.elim (fun h=>absurd h.1 (show ¬ q1=R.ep by simpa using e2)) (fun h=>h (show ls.length=1 by have:=e4;simp [cm]at this;omega)))⟩ rfl⟩⟩⟩,fun i4=>⟨⟨b,rfl,hb,cj,fun m h1 h2=>At.mk' ⟨(true,m),i4.2,fun _=>by simp [jm,h1,h2],fun f=>(by cases f)⟩ rfl,fun h=>At.mk' ⟨(false,jD),i4.2,fun f=>(by cases f),fun _=>QT h⟩ rfl⟩,fun i5=>⟨?_,fun a=>⟨fun e=>fun f=>sm a.2.1 (.inl (a.2.2.c0 (by simpa using e))) f,fun e=>⟨fun e2=>fun f=>sm a.2.1 (.inr (a.2.2.t0 (by simpa using e2))) f,fun e2 f=>⟨rfl,⟨hdl⟩,b_ R,oH,⟨by simp [bQ]⟩,?_,fun _=>⟨au _,fun f=>⟨rfl,⟨fz⟩,⟨by decide⟩,⟨by simp [bQ]⟩,fun f=>Jq _ _ _ (a.2.2.t1 (by simpa using e2)).2 a.2.1 (a.2.2.c1 (by simpa using e)) (a.2.2.t1 (by simpa using e2)).1 f⟩⟩⟩⟩⟩⟩⟩⟩
 ·obtain⟨y,rfl⟩:∃ y,ls=[y]:=by
   have:ls.length=1:=Decidable.byContradiction fun h=>i5.2.1 (.inr (.inr h))
   match ls,this with
   | [y],_=>exact⟨y,rfl⟩
  obtain⟨hy,jx⟩:=hls y (by simp)
  exact⟨dy _,_,rfl,_,rfl,y,rfl,hy,by omega,fun h=>At.mk' ⟨(i5.1.1,false,i5.1.2,[],[]),i5.2.1,i5.2.2.c1,i5.2.2.c0,fun f=>(by cases f),fun _=>QW h⟩ rfl,fun x M hM h=>At.mk' ⟨(i5.1.1,true,i5.1.2,x,M),i5.2.1,i5.2.2.c1,i5.2.2.c0,fun _=>⟨Ci (UM hM) h,hM⟩,fun f=>(by cases f)⟩ rfl⟩
 ·repeat' first
   |exact At.mk' () rfl
   |rfl
   |refine And.intro ?_ ?_
theorem afA (R:θ) (T:ML) (I Q:ML) (L:bX) (fr kd q0 q1 q2:Int) (b:List Int) (ls:List (List Int)) (hT:bG T R.t) (hl:R.ld=some L) (hI:MB I L.ins) (hQ:MB Q L.cy) (hR:dz R) (hb:bm b) (cj:b.length<=900000) (hls:∀ y∈ls,bm y/\y.length<=140737488355328) (hkb:aB R [cR R (ai T) (ξ true) (.mp 1) (.mp 2) (.af (L.cur.map bn)) (.sl 3 0 (nO R)) (.sl 4 0 (nD R)),aj I,aj Q,rO R,rD R]) (K:V->KB->Prop) (hK:∀ kb',aB (iH R fr ⟨kd,[q0,q1,q2],b,ls⟩) kb'->K (.χ []) kb'):aK Tryz.prog jI (Uz R T I Q (L.cur.map bn) fr kd q0 q1 q2 b ls) 87 [an 0 0,.int γ fr,.agg [.int γ kd,aH (.sl 1 [[dn γ q0],[dn γ q1],[dn γ q2]]),aH (.sl 1 (ints ν b)),aH (.sl 1 (cm ls))]] [cR R (ai T) (ξ true) (.mp 1) (.mp 2) (.af (L.cur.map bn)) (.sl 3 0 (nO R)) (.sl 4 0 (nD R)),aj I,aj Q,rO R,rD R] (gz 13 eO K):=by
 have fin:∀{R':θ} {kb':KB},iH R fr ⟨kd,[q0,q1,q2],b,ls⟩=R'->aB R' kb'->K (.χ []) kb':=fun{R' kb'} h1 h2=>by
  have:=hK kb'
  rw[h1]at this
  exact this h2
 have fz:nO R<=1000000:=by show(ae bR R.out).length<=_;rw[cp];have:=hR.ol;omega
 have hdl:nD R<=1000000:=by show(ae dv R.done).length<=_;rw[cp];have:=hR.dl;omega
 have m8:eL R=true:=by simp [eL,hl]
 have oH:L.cur.map bn=(b_ R).map bn:=by simp [b_,hl]
 have nk:jR R q1 q2 ls->K (.χ []) [cR R (ai T) (ξ true) (.mp 1) (.mp 2) (.af (L.cur.map bn)) (.sl 3 0 (nO R+1)) (.sl 4 0 (nD R)),aj I,aj Q,υ 107 5 (ae bR R.out++[fW fr 14 R.id R.ep [[dn γ R.nu]] [] []]),rD R]:=fun h=>fin (UE h) (by
  unfold aB nT il
  simp only[hl]
  refine⟨I,Q,T,hI,hQ,hT,?_⟩
  simp [cR,bR,jo,fW,dn,ints,oL])
 have sm:¬ jR R q1 q2 ls->(jm b=none∨loadT (ls.getD 0 [])=none)->K (.χ []) [cR R (ai T) (ξ true) (.mp 1) (.mp 2) (.af (L.cur.map bn)) (.sl 3 0 (nO R)) (.sl 4 0 (nD R)),aj I,aj Q,rO R,rD R]:=fun h h2=>fin (UD h h2) hkb
 have Jq:∀ cc y M,bG M y->¬ jR R q1 q2 ls->jm b=some cc->loadT (ls.getD 0 [])=some y->∀ f:Nat->Value,K (.χ []) [cG R (ξ R.lo) (.int γ q1) (.int γ q2) (bD 128 (aU ν cc)) (ξ true) (ai M) (ξ false) (δ (f 14)) (δ (f 15)) (.af none) (.sl 1 0 (nO R+1)) (.sl 2 0 (yD R).length),υ 107 5 (ae bR R.out++[fW fr 11 R.id q1 [[dn γ q2]] [] []]),υ 70 7 (yD R)]:=fun cc y M hM h hc ht2 f=>fin (UF h hc ht2) (by
  unfold aB
  refine⟨f 14,f 15,M,hM,?_⟩
  simp only[nD,rD,tz]
  simp [cR,cG,bR,jo,fW,dn,ints,oL])
 refine ahF R T I Q (L.cur.map bn) fr kd q0 q1 q2 b ls K ⟨(by decide:(0:Int)<=1),_,rfl,q1,rfl,(by decide:(0:Int)<=2),_,rfl,q2,rfl,⟨fun e1=>fun f=>⟨rfl,⟨fz⟩,⟨by simp [bQ]⟩,nk (.inl (show q1<R.ep by simpa using e1))⟩,fun e1=>⟨fun e2=>⟨fun e3=>fun f=>⟨rfl,⟨fz⟩,⟨by simp [bQ]⟩,nk (.inr (.inl ⟨show q1=R.ep by simpa using e2,.inl (show q2<R.nu by simpa using e3)⟩))⟩,fun e3=>⟨fun _=>fun f=>⟨rfl,⟨fz⟩,⟨by simp [bQ]⟩,nk (.inr (.inl ⟨show q1=R.ep by simpa using e2,.inr m8⟩))⟩,fun f=>(by cases f)⟩⟩,fun e2=>⟨fun e4=>fun f=>⟨rfl,⟨fz⟩,⟨by simp [bQ]⟩,nk (.inr (.inr (by have:=e4;simp [cm]at this;omega)))⟩,fun e4=>At.mk' ⟨(),fun h=>h.elim (fun h=>absurd h (show ¬ q1<R.ep by simpa using e1)) (fun h=>h.elim (fun h=>absurd h.1 (show ¬ q1=R.ep by simpa using e2)) (fun h=>h (show ls.length=1 by have:=e4;simp [cm]at this;omega)))⟩ rfl⟩⟩⟩,fun i4=>⟨⟨b,rfl,hb,cj,fun m h1 h2=>At.mk' ⟨(true,m),i4.2,fun _=>by simp [jm,h1,h2],fun f=>(by cases f)⟩ rfl,fun h=>At.mk' ⟨(false,jD),i4.2,fun f=>(by cases f),fun _=>QT h⟩ rfl⟩,fun i5=>⟨?_,fun a=>⟨fun e=>sm a.2.1 (.inl (a.2.2.c0 (by simpa using e))),fun e=>⟨fun e2=>sm a.2.1 (.inr (a.2.2.t0 (by simpa using e2))),fun e2 f=>⟨rfl,⟨hdl⟩,b_ R,oH,⟨by simp [bQ]⟩,?_,fun _=>⟨au _,fun f=>⟨rfl,⟨fz⟩,⟨by decide⟩,⟨by simp [bQ]⟩,fun f=>Jq _ _ _ (a.2.2.t1 (by simpa using e2)).2 a.2.1 (a.2.2.c1 (by simpa using e)) (a.2.2.t1 (by simpa using e2)).1 f⟩⟩⟩⟩⟩⟩⟩⟩
 ·obtain⟨y,rfl⟩:∃ y,ls=[y]:=by
   have:ls.length=1:=Decidable.byContradiction fun h=>i5.2.1 (.inr (.inr h))
   match ls,this with
   | [y],_=>exact⟨y,rfl⟩
  obtain⟨hy,jx⟩:=hls y (by simp)
  exact⟨dy _,_,rfl,_,rfl,y,rfl,hy,by omega,fun h=>At.mk' ⟨(i5.1.1,false,i5.1.2,[],[]),i5.2.1,i5.2.2.c1,i5.2.2.c0,fun f=>(by cases f),fun _=>QW h⟩ rfl,fun x M hM h=>At.mk' ⟨(i5.1.1,true,i5.1.2,x,M),i5.2.1,i5.2.2.c1,i5.2.2.c0,fun _=>⟨Ci (UM hM) h,hM⟩,fun f=>(by cases f)⟩ rfl⟩
 ·repeat' first
   |exact At.mk' () rfl
   |rfl
   |refine And.intro ?_ ?_
def Wp:aD:=fun args kb K=>∃ R fr kd q0 q1 q2 b ls,args=[an 0 0,.int γ fr,.agg [.int γ kd,aH (.sl 1 [[dn γ q0],[dn γ q1],[dn γ q2]]),aH (.sl 1 (ints ν b)),aH (.sl 1 (cm ls))]]/\aB R kb/\dz R/\bm b/\b.length<=900000/\(∀ y∈ls,bm y/\y.length<=140737488355328)/\∀ kb',aB (iH R fr ⟨kd,[q0,q1,q2],b,ls⟩) kb'->K (.χ []) kb'
theorem acY:gq Tryz.prog 87 Wp:=ur mixed 13 eO (fun args kb K h=>by
 obtain⟨R,fr,kd,q0,q1,q2,b,ls,rfl,hkb,hR,hb,cj,hls,hK⟩:=h
 have i_:=hkb
 unfold aB at hkb
 split at hkb
 ·rename_i hl
  obtain⟨ο,π,T,hT,rfl⟩:=hkb
  exact⟨_,_,pT,afB R T ο π fr kd q0 q1 q2 b ls hT hl hR hb cj hls (fun a b=>by unfold aB;simp only[hl];exact⟨a,b,T,hT,rfl⟩) K hK⟩
 ·rename_i L hl
  obtain⟨I,Q,T,hI,hQ,hT,rfl⟩:=hkb
  exact⟨_,_,pT,afA R T I Q L fr kd q0 q1 q2 b ls hT hl hI hQ hR hb cj hls i_ K hK⟩)
theorem ahE (R:θ) (T:ML) (ο π:Value) (fr kd q0 q1 q2:Int) (b:List Int) (ls:List (List Int)) (K:V->KB->Prop) (ar:
 let κ:=[[dn γ q0],[dn γ q1],[dn γ q2]];(true=true->
 ∀(y1:Nat->
 Value),K (av []) [cR R (ai T) (ξ false) (δ (y1 14)) (δ (y1 15)) (aO none) (ε 1 0 (nO R)) (ε 2 0 (nD R)),rO R,rD R])/\
 (true=false->
 aM 1/\
 ∃(y2:List D),κ[1]? =some y2/\
 ∃(y3:Int),y2[0]? =some (η (φ γ y3))/\
 ((y3 != R.ep)=true->
 ∀(y4:Nat->
 Value),K (av []) [cR R (ai T) (ξ false) (δ (y4 14)) (δ (y4 15)) (aO none) (ε 1 0 (nO R)) (ε 2 0 (nD R)),rO R,rD R])/\
 ((y3 != R.ep)=false->
 aM 2/\
 ∃(y5:List D),κ[2]? =some y5/\
 ∃(y6:Int),y5[0]? =some (η (φ γ y6))/\
 ((y6 != R.nu)=true->
 ∀(y7:Nat->
 Value),K (av []) [cR R (ai T) (ξ false) (δ (y7 14)) (δ (y7 15)) (aO none) (ε 1 0 (nO R)) (ε 2 0 (nD R)),rO R,rD R])/\
 ((y6 != R.nu)=false->
 False)))
 ):aK Tryz.prog jI (fun _=>none) 88 [an 0 0,.int γ fr,.agg [.int γ kd,aH (.sl 1 [[dn γ q0],[dn γ q1],[dn γ q2]]),aH (.sl 1 (ints ν b)),aH (.sl 1 (cm ls))]] [cR R (ai T) (ξ false) (δ ο) (δ π) (.af none) (.sl 1 0 (nO R)) (.sl 2 0 (nD R)),rO R,rD R] (gz 13 eO K):=by apply Eq.mp (a:=ar);kernel_rfl
theorem ahD (R:θ) (T:ML) (I Q:ML) (u:Option (List D)) (fr kd q0 q1 q2:Int) (b:List Int) (ls:List (List Int)) (K:V->KB->Prop) (ar:
 let aL:=[1,2,3,4,5,7,8,9,10,13,14,17,18,19,20];let az:=[[dn γ q0],[dn γ q1],[dn γ q2]];let ah:=[η (Value.bool true)];let κ:=K (av []) [cR R (ai T) (ξ true) (bb 1) (bb 2) (aO u) (ε 3 0 (nO R)) (ε 4 0 (nD R)),aj I,aj Q,rO R,rD R];(false=true->
 κ)/\
 (false=false->
 aM 1/\
 ∃(y1:List D),az[1]? =some y1/\
 ∃(y2:Int),y1[0]? =some (η (φ γ y2))/\
 ((y2 != R.ep)=true->
 κ)/\
 ((y2 != R.ep)=false->
 aM 2/\
 ∃(y3:List D),az[2]? =some y3/\
 ∃(y4:Int),y3[0]? =some (η (φ γ y4))/\
 ((y4 != R.nu)=true->
 κ)/\
 ((y4 != R.nu)=false->
 ((!u.isNone)=true->
 ∀(y5:Nat->
 Value),nD R=(nD R)/\
 bP (nD R)/\
 ∃(y6:List Int),∃(y7:List Int),∃(y8:List Int),∃(y9:Op),iJ (aU ν R.c) y8/\
 ints γ R.v.mem=ints γ y6/\
 ints γ R.v.aC=ints γ y7/\
 dH (y6.length+y7.length)/\
 lz (bL Q [fr] ah)/\
 u=some (bn y9)/\
 lR y9.bk/\
 (allI R.me y6 y7 (bL Q [fr] ah)=false->
 bw y5 aL/\
 K (av []) [cR R (ai T) (ξ true) (bb 1) (bb 2) (aO u) (ε 3 0 (nO R)) (ε 4 0 (nD R)),aj (bL I [fr] ah),aj (bL Q [fr] ah),rO R,rD R])/\
 (allI R.me y6 y7 (bL Q [fr] ah)=true->
 bw y5 aL/\
 K (av []) [cS R (ζ γ R.nu) (bD 128 (aU ν y8)) (ξ R.ch) (ai T) (ξ true) (bb 1) (bb 2) (aO none) (ε 3 0 (nO R)) (ε 4 0 (nD R+1)),aj (bL I [fr] ah),aj (bL Q [fr] ah),rO R,υ 70 7 (ae dv R.done++[(bn y9++[η (φ γ 0),ω 1 (qa y8 y9.kd y9.bk)])])]))/\
 ((!u.isNone)=false->
 K (av []) [cR R (ai T) (ξ true) (bb 1) (bb 2) (aO u) (ε 3 0 (nO R)) (ε 4 0 (nD R)),aj (bL I [fr] ah),aj Q,rO R,rD R]))))
 ):aK Tryz.prog jI (fun _=>none) 88 [an 0 0,.int γ fr,.agg [.int γ kd,aH (.sl 1 [[dn γ q0],[dn γ q1],[dn γ q2]]),aH (.sl 1 (ints ν b)),aH (.sl 1 (cm ls))]] [cR R (ai T) (ξ true) (.mp 1) (.mp 2) (.af u) (.sl 3 0 (nO R)) (.sl 4 0 (nD R)),aj I,aj Q,rO R,rD R] (gz 13 eO K):=by apply Eq.mp (a:=ar);kernel_rfl
theorem ahb (R:θ) (T:ML) (ο π:Value) (fr kd q0 q1 q2:Int) (b:List Int) (ls:List (List Int)) (K:V->KB->Prop) (ar:
 let κ:=[[dn γ q0],[dn γ q1],[dn γ q2]];(false=true->
 aM 1/\
 ∃(y1:List D),κ[1]? =some y1/\
 ∃(y2:Int),y1[0]? =some (η (φ γ y2))/\
 ((y2 == R.ep)=true->
 aM 2/\
 ∃(y3:List D),κ[2]? =some y3/\
 ∃(y4:Int),y3[0]? =some (η (φ γ y4))/\
 ((y4 == R.nu)=true->
 (false=true->
 False)/\
 (false=false->
 ∀(y5:Nat->
 Value),K (av []) [cR R (ai T) (ξ false) (δ (y5 14)) (δ (y5 15)) (aO none) (ε 1 0 (nO R)) (ε 2 0 (nD R)),rO R,rD R]))/\
 ((y4 == R.nu)=false->
 ∀(y6:Nat->
 Value),K (av []) [cR R (ai T) (ξ false) (δ (y6 14)) (δ (y6 15)) (aO none) (ε 1 0 (nO R)) (ε 2 0 (nD R)),rO R,rD R]))/\
 ((y2 == R.ep)=false->
 ∀(y7:Nat->
 Value),K (av []) [cR R (ai T) (ξ false) (δ (y7 14)) (δ (y7 15)) (aO none) (ε 1 0 (nO R)) (ε 2 0 (nD R)),rO R,rD R]))/\
 (false=false->
 ∀(y8:Nat->
 Value),K (av []) [cR R (ai T) (ξ false) (δ (y8 14)) (δ (y8 15)) (aO none) (ε 1 0 (nO R)) (ε 2 0 (nD R)),rO R,rD R])
 ):aK Tryz.prog jI (fun _=>none) 90 [an 0 0,.int γ fr,.agg [.int γ kd,aH (.sl 1 [[dn γ q0],[dn γ q1],[dn γ q2]]),aH (.sl 1 (ints ν b)),aH (.sl 1 (cm ls))]] [cR R (ai T) (ξ false) (δ ο) (δ π) (.af none) (.sl 1 0 (nO R)) (.sl 2 0 (nD R)),rO R,rD R] (gz 13 eO K):=by apply Eq.mp (a:=ar);kernel_rfl
theorem aha (R:θ) (T:ML) (I Q:ML) (u:Option (List D)) (fr kd q0 q1 q2:Int) (b:List Int) (ls:List (List Int)) (K:V->KB->Prop) (ar:
 let aL:=[1,2,3,4,5,7,8,9,10,13,14,17,18,19,20];let az:=[[dn γ q0],[dn γ q1],[dn γ q2]];let ah:=(bL Q [fr] [η (Value.bool true)]);let κ:=K (av []) [cR R (ai T) (ξ true) (bb 1) (bb 2) (aO u) (ε 3 0 (nO R)) (ε 4 0 (nD R)),aj I,aj Q,rO R,rD R];(true=true->
 aM 1/\
 ∃(y1:List D),az[1]? =some y1/\
 ∃(y2:Int),y1[0]? =some (η (φ γ y2))/\
 ((y2 == R.ep)=true->
 aM 2/\
 ∃(y3:List D),az[2]? =some y3/\
 ∃(y4:Int),y3[0]? =some (η (φ γ y4))/\
 ((y4 == R.nu)=true->
 ((!u.isNone)=true->
 ∀(y5:Nat->
 Value),nD R=(nD R)/\
 bP (nD R)/\
 ∃(y6:List Int),∃(y7:List Int),∃(y8:List Int),∃(y9:Op),iJ (aU ν R.c) y8/\
 ints γ R.v.mem=ints γ y6/\
 ints γ R.v.aC=ints γ y7/\
 dH (y6.length+y7.length)/\
 lz ah/\
 u=some (bn y9)/\
 lR y9.bk/\
 (allI R.me y6 y7 ah=false->
 bw y5 aL/\
 K (av []) [cR R (ai T) (ξ true) (bb 1) (bb 2) (aO u) (ε 3 0 (nO R)) (ε 4 0 (nD R)),aj I,aj ah,rO R,rD R])/\
 (allI R.me y6 y7 ah=true->
 bw y5 aL/\
 K (av []) [cS R (ζ γ R.nu) (bD 128 (aU ν y8)) (ξ R.ch) (ai T) (ξ true) (bb 1) (bb 2) (aO none) (ε 3 0 (nO R)) (ε 4 0 (nD R+1)),aj I,aj ah,rO R,υ 70 7 (ae dv R.done++[(bn y9++[η (φ γ 0),ω 1 (qa y8 y9.kd y9.bk)])])]))/\
 ((!u.isNone)=false->
 κ))/\
 ((y4 == R.nu)=false->
 κ))/\
 ((y2 == R.ep)=false->
 κ))/\
 (true=false->
 κ)
 ):aK Tryz.prog jI (fun _=>none) 90 [an 0 0,.int γ fr,.agg [.int γ kd,aH (.sl 1 [[dn γ q0],[dn γ q1],[dn γ q2]]),aH (.sl 1 (ints ν b)),aH (.sl 1 (cm ls))]] [cR R (ai T) (ξ true) (.mp 1) (.mp 2) (.af u) (.sl 3 0 (nO R)) (.sl 4 0 (nD R)),aj I,aj Q,rO R,rD R] (gz 13 eO K):=by apply Eq.mp (a:=ar);kernel_rfl
theorem aho (R:θ) (T:ML) (ο π:Value) (fr kd q0 q1 q2:Int) (b:List Int) (ls:List (List Int)) (K:V->KB->Prop) (ar:
 let ah:=[0,1,2,3,4,5,7,8,9,10,11,12,14,15,17,18,19,20];let κ:=[[dn γ q0],[dn γ q1],[dn γ q2]];(true=true->
 ∀(y1:Nat->
 Value),K (av []) [cR R (ai T) (ξ false) (δ (y1 14)) (δ (y1 15)) (aO none) (ε 1 0 (nO R)) (ε 2 0 (nD R)),rO R,rD R])/\
 (true=false->
 aM 1/\
 ∃(y2:List D),κ[1]? =some y2/\
 ∃(y3:Int),y2[0]? =some (η (φ γ y3))/\
 (decide (y3 > R.ep)=true->
 ∀(y4:Nat->
 Value),nD R=(nD R)/\
 bP (nD R)/\
 ∃(y5:Option Op),none=mU bn y5/\
 bw y4 ah/\
 ∀(y6:Nat->
 Value),K (av []) [cR R (ai T) (ξ false) (δ (y6 14)) (δ (y6 15)) (aO none) (ε 1 0 (nO R)) (ε 2 0 (ae dv R.done++yl y5).length),rO R,υ 70 7 (ae dv R.done++yl y5)])/\
 (decide (y3 > R.ep)=false->
 aM 1/\
 ∃(y7:List D),κ[1]? =some y7/\
 ∃(y8:Int),y7[0]? =some (η (φ γ y8))/\
 ((y8 == R.ep)=true->
 aM 2/\
 ∃(y9:List D),κ[2]? =some y9/\
 ∃(cO:Int),y9[0]? =some (η (φ γ cO))/\
 (decide (cO > R.nu)=true->
 ∀(cC:Nat->
 Value),nD R=(nD R)/\
 bP (nD R)/\
 ∃(cD:Option Op),none=mU bn cD/\
 bw cC ah/\
 ∀(cM:Nat->
 Value),K (av []) [cG R (ξ true) (ζ γ R.ep) (ζ γ R.nu) (bD 128 (aU ν R.c)) (ξ R.ch) (ai T) (ξ false) (δ (cM 14)) (δ (cM 15)) (aO none) (ε 1 0 (nO R)) (ε 2 0 (ae dv R.done++yl cD).length),rO R,υ 70 7 (ae dv R.done++yl cD)])/\
 (decide (cO > R.nu)=false->
 False))/\
 ((y8 == R.ep)=false->
 False)))
 ):aK Tryz.prog jI (fun _=>none) 91 [an 0 0,.int γ fr,.agg [.int γ kd,aH (.sl 1 [[dn γ q0],[dn γ q1],[dn γ q2]]),aH (.sl 1 (ints ν b)),aH (.sl 1 (cm ls))]] [cR R (ai T) (ξ false) (δ ο) (δ π) (.af none) (.sl 1 0 (nO R)) (.sl 2 0 (nD R)),rO R,rD R] (gz 13 eO K):=by apply Eq.mp (a:=ar);kernel_rfl
theorem ahn (R:θ) (T:ML) (I Q:ML) (u:Option (List D)) (fr kd q0 q1 q2:Int) (b:List Int) (ls:List (List Int)) (K:V->KB->Prop) (ar:
 let aV:=(bL I [fr] [η (Value.bool false)]);let aJ:=[0,2,3,8,9,10,11,12,13,14,15,16,17,18,19,21];let aL:=(ζ γ R.nu);let az:=[0,1,2,3,4,5,7,8,9,10,11,12,14,15,17,18,19,20];let ah:=ω 1 [[dn γ R.id],[dn γ R.ep],[dn γ R.nu]];let κ:=[[dn γ q0],[dn γ q1],[dn γ q2]];(false=true->
 K (av []) [cR R (ai T) (ξ true) (bb 1) (bb 2) (aO u) (ε 3 0 (nO R)) (ε 4 0 (nD R)),aj I,aj Q,rO R,rD R])/\
 (false=false->
 aM 1/\
 ∃(y1:List D),κ[1]? =some y1/\
 ∃(y2:Int),y1[0]? =some (η (φ γ y2))/\
 (decide (y2 > R.ep)=true->
 ∀(y3:Nat->
 Value),nD R=(nD R)/\
 bP (nD R)/\
 ∃(y4:Option Op),u=mU bn y4/\
 bw y3 az/\
 ∀(y5:Nat->
 Value),K (av []) [cR R (ai T) (ξ false) (δ (y5 14)) (δ (y5 15)) (aO none) (ε 1 0 (nO R)) (ε 2 0 (ae dv R.done++yl y4).length),rO R,υ 70 7 (ae dv R.done++yl y4)])/\
 (decide (y2 > R.ep)=false->
 aM 1/\
 ∃(y6:List D),κ[1]? =some y6/\
 ∃(y7:Int),y6[0]? =some (η (φ γ y7))/\
 ((y7 == R.ep)=true->
 aM 2/\
 ∃(y8:List D),κ[2]? =some y8/\
 ∃(y9:Int),y8[0]? =some (η (φ γ y9))/\
 (decide (y9 > R.nu)=true->
 ∀(cO:Nat->
 Value),nD R=(nD R)/\
 bP (nD R)/\
 ∃(cC:Option Op),u=mU bn cC/\
 bw cO az/\
 ∀(cD:Nat->
 Value),K (av []) [cG R (ξ true) (ζ γ R.ep) aL (bD 128 (aU ν R.c)) (ξ R.ch) (ai T) (ξ false) (δ (cD 14)) (δ (cD 15)) (aO none) (ε 1 0 (nO R)) (ε 2 0 (ae dv R.done++yl cC).length),rO R,υ 70 7 (ae dv R.done++yl cC)])/\
 (decide (y9 > R.nu)=false->
 ∀(cM:Nat->
 Value),nO R=(nO R)/\
 bP (nO R)/\
 ∃(dC:List Int),∃(cX:List L3),iJ (aU ν R.c) dC/\
 bG T cX/\
 bw cM aJ/\
 K (av []) [cS R aL (bD 128 (aU ν dC)) (ξ R.ch) (ai T) (ξ true) (bb 1) (bb 2) (aO u) (ε 3 0 (nO R+1)) (ε 4 0 (nD R)),aj aV,aj Q,υ 107 5 (ae bR R.out++[[dn γ fr,η (φ γ 10),ah,ω 1 (ints ν (bZ dC)),ω 1 [[ω 1 (ints ν (be cX))]]]]),rD R]))/\
 ((y7 == R.ep)=false->
 ∀(fS:Nat->
 Value),nO R=(nO R)/\
 bP (nO R)/\
 ∃(dg:List Int),∃(fg:List L3),iJ (aU ν R.c) dg/\
 bG T fg/\
 bw fS aJ/\
 K (av []) [cS R aL (bD 128 (aU ν dg)) (ξ R.ch) (ai T) (ξ true) (bb 1) (bb 2) (aO u) (ε 3 0 (nO R+1)) (ε 4 0 (nD R)),aj aV,aj Q,υ 107 5 (ae bR R.out++[[dn γ fr,η (φ γ 10),ah,ω 1 (ints ν (bZ dg)),ω 1 [[ω 1 (ints ν (be fg))]]]]),rD R])))
 ):aK Tryz.prog jI (fun _=>none) 91 [an 0 0,.int γ fr,.agg [.int γ kd,aH (.sl 1 [[dn γ q0],[dn γ q1],[dn γ q2]]),aH (.sl 1 (ints ν b)),aH (.sl 1 (cm ls))]] [cR R (ai T) (ξ true) (.mp 1) (.mp 2) (.af u) (.sl 3 0 (nO R)) (.sl 4 0 (nD R)),aj I,aj Q,rO R,rD R] (gz 13 eO K):=by apply Eq.mp (a:=ar);kernel_rfl
theorem OJ {R:θ} {L:bX} {o:Op} (hl:R.ld=some L) (hc:L.cur=some o) (h:(aQ R).all L.cy=false):fb R=R:=by
 unfold fb;rw[hl];simp only[hc];rw[if_neg (by rw[h];decide)]
theorem OK {R:θ} {L:bX} {o:Op} (hl:R.ld=some L) (hc:L.cur=some o) (h:(aQ R).all L.cy=true):fb R={R with ld:=some {L with cur:=none },done:=R.done++[⟨o,0,mK R.c o⟩] }:=by
 unfold fb;rw[hl];simp only[hc];rw[if_pos h]
theorem aft {R:θ} {fr kd q0 q1 q2:Int} {b:List Int} {ls:List (List Int)} (hl:R.ld=none):im R fr ⟨kd,[q0,q1,q2],b,ls⟩=R:=by unfold im;rw[hl]
theorem UC {R:θ} {L:bX} {fr kd q0 q1 q2:Int} {b:List Int} {ls:List (List Int)} (hl:R.ld=some L) (h:q1≠R.ep∨q2≠R.nu):im R fr ⟨kd,[q0,q1,q2],b,ls⟩=R:=by
 unfold im;rw[hl];exact if_pos h
theorem afs {R:θ} {L:bX} {fr kd q0 q1 q2:Int} {b:List Int} {ls:List (List Int)} (hl:R.ld=some L) (hc:L.cur=none) (h1:q1=R.ep) (h2:q2=R.nu):im R fr ⟨kd,[q0,q1,q2],b,ls⟩={R with ld:=some ⟨mark L.ins fr true,L.cy,none⟩ }:=by
 unfold im;rw[hl]
 refine(if_neg (show ¬ (q1≠R.ep∨q2≠R.nu) by simp [h1,h2])).trans ?_
 simp only[hc]
theorem UB {R:θ} {L:bX} {o:Op} {fr kd q0 q1 q2:Int} {b:List Int} {ls:List (List Int)} (hl:R.ld=some L) (hc:L.cur=some o) (h1:q1=R.ep) (h2:q2=R.nu):im R fr ⟨kd,[q0,q1,q2],b,ls⟩=fb {R with ld:=some ⟨mark L.ins fr true,mark L.cy fr true,some o⟩ }:=by
 unfold im;rw[hl]
 refine(if_neg (show ¬ (q1≠R.ep∨q2≠R.nu) by simp [h1,h2])).trans ?_
 simp only[hc]
theorem adg {R:θ} {fr kd q0 q1 q2:Int} {b:List Int} {ls:List (List Int)} (hl:R.ld=none):ic R fr ⟨kd,[q0,q1,q2],b,ls⟩=R:=by unfold ic;rw[hl]
theorem adf {R:θ} {L:bX} {fr kd q0 q1 q2:Int} {b:List Int} {ls:List (List Int)} (hl:R.ld=some L) (hc:L.cur=none):ic R fr ⟨kd,[q0,q1,q2],b,ls⟩=R:=by unfold ic;rw[hl];simp only[hc]
theorem adh {R:θ} {L:bX} {o:Op} {fr kd q0 q1 q2:Int} {b:List Int} {ls:List (List Int)} (hl:R.ld=some L) (hc:L.cur=some o) (h:¬ (q1=R.ep/\q2=R.nu)):ic R fr ⟨kd,[q0,q1,q2],b,ls⟩=R:=by
 unfold ic;rw[hl];simp only[hc];exact if_neg h
theorem SG {R:θ} {L:bX} {o:Op} {fr kd q0 q1 q2:Int} {b:List Int} {ls:List (List Int)} (hl:R.ld=some L) (hc:L.cur=some o) (h1:q1=R.ep) (h2:q2=R.nu):ic R fr ⟨kd,[q0,q1,q2],b,ls⟩=fb {R with ld:=some ⟨L.ins,mark L.cy fr true,some o⟩ }:=by
 unfold ic;rw[hl];simp only[hc];exact if_pos ⟨h1,h2⟩
theorem aeg {R:θ} {fr kd q0 q1 q2:Int} {b:List Int} {ls:List (List Int)} (hl:R.ld=none):ij R fr ⟨kd,[q0,q1,q2],b,ls⟩=R:=by unfold ij;rw[hl]
theorem aef {R:θ} {L:bX} {fr kd q0 q1 q2:Int} {b:List Int} {ls:List (List Int)} (hl:R.ld=some L) (h:R.ep<q1):ij R fr ⟨kd,[q0,q1,q2],b,ls⟩=gn R:=by
 unfold ij;rw[hl];exact if_pos h
theorem aeh {R:θ} {L:bX} {fr kd q0 q1 q2:Int} {b:List Int} {ls:List (List Int)} (hl:R.ld=some L) (h:q1=R.ep) (h2:R.nu<q2):ij R fr ⟨kd,[q0,q1,q2],b,ls⟩=gn {R with lo:=true }:=by
 unfold ij;rw[hl]
 refine(if_neg (show ¬ R.ep<q1 by omega)).trans ?_
 exact if_pos ⟨h,h2⟩
theorem Ts {R:θ} {L:bX} {fr kd q0 q1 q2:Int} {b:List Int} {ls:List (List Int)} (hl:R.ld=some L) (h:¬ R.ep<q1) (h2:¬ (q1=R.ep/\R.nu<q2)):ij R fr ⟨kd,[q0,q1,q2],b,ls⟩=qC {R with ld:=some {L with ins:=mark L.ins fr false } } fr:=by
 unfold ij;rw[hl]
 exact(if_neg h).trans (if_neg h2)
theorem afw (R:θ) (T:ML) (ο π:Value) (fr kd q0 q1 q2:Int) (b:List Int) (ls:List (List Int)) (hT:bG T R.t) (hl:R.ld=none) (hR:dz R) (eK:∀ ο π,aB R [cR R (ai T) (ξ false) (δ ο) (δ π) (.af none) (.sl 1 0 (nO R)) (.sl 2 0 (nD R)),rO R,rD R]) (K:V->KB->Prop) (hK:∀ kb',aB (im R fr ⟨kd,[q0,q1,q2],b,ls⟩) kb'->K (.χ []) kb'):aK Tryz.prog jI (fun _=>none) 88 [an 0 0,.int γ fr,.agg [.int γ kd,aH (.sl 1 [[dn γ q0],[dn γ q1],[dn γ q2]]),aH (.sl 1 (ints ν b)),aH (.sl 1 (cm ls))]] [cR R (ai T) (ξ false) (δ ο) (δ π) (.af none) (.sl 1 0 (nO R)) (.sl 2 0 (nD R)),rO R,rD R] (gz 13 eO K):=by
 have fin:∀{R':θ} {kb':KB},im R fr ⟨kd,[q0,q1,q2],b,ls⟩=R'->aB R' kb'->K (.χ []) kb':=fun{R' kb'} h1 h2=>by
  have:=hK kb'
  rw[h1]at this
  exact this h2
 exact ahE R T ο π fr kd q0 q1 q2 b ls K ⟨fun _ f=>fin (aft hl) (eK _ _),fun f=>(by cases f)⟩
theorem adk (R:θ) (T:ML) (ο π:Value) (fr kd q0 q1 q2:Int) (b:List Int) (ls:List (List Int)) (hT:bG T R.t) (hl:R.ld=none) (hR:dz R) (eK:∀ ο π,aB R [cR R (ai T) (ξ false) (δ ο) (δ π) (.af none) (.sl 1 0 (nO R)) (.sl 2 0 (nD R)),rO R,rD R]) (K:V->KB->Prop) (hK:∀ kb',aB (ic R fr ⟨kd,[q0,q1,q2],b,ls⟩) kb'->K (.χ []) kb'):aK Tryz.prog jI (fun _=>none) 90 [an 0 0,.int γ fr,.agg [.int γ kd,aH (.sl 1 [[dn γ q0],[dn γ q1],[dn γ q2]]),aH (.sl 1 (ints ν b)),aH (.sl 1 (cm ls))]] [cR R (ai T) (ξ false) (δ ο) (δ π) (.af none) (.sl 1 0 (nO R)) (.sl 2 0 (nD R)),rO R,rD R] (gz 13 eO K):=by
 have fin:∀{R':θ} {kb':KB},ic R fr ⟨kd,[q0,q1,q2],b,ls⟩=R'->aB R' kb'->K (.χ []) kb':=fun{R' kb'} h1 h2=>by
  have:=hK kb'
  rw[h1]at this
  exact this h2
 exact ahb R T ο π fr kd q0 q1 q2 b ls K ⟨fun f=>(by cases f),fun _ f=>fin (adg hl) (eK _ _)⟩
theorem aek (R:θ) (T:ML) (ο π:Value) (fr kd q0 q1 q2:Int) (b:List Int) (ls:List (List Int)) (hT:bG T R.t) (hl:R.ld=none) (hR:dz R) (eK:∀ ο π,aB R [cR R (ai T) (ξ false) (δ ο) (δ π) (.af none) (.sl 1 0 (nO R)) (.sl 2 0 (nD R)),rO R,rD R]) (K:V->KB->Prop) (hK:∀ kb',aB (ij R fr ⟨kd,[q0,q1,q2],b,ls⟩) kb'->K (.χ []) kb'):aK Tryz.prog jI (fun _=>none) 91 [an 0 0,.int γ fr,.agg [.int γ kd,aH (.sl 1 [[dn γ q0],[dn γ q1],[dn γ q2]]),aH (.sl 1 (ints ν b)),aH (.sl 1 (cm ls))]] [cR R (ai T) (ξ false) (δ ο) (δ π) (.af none) (.sl 1 0 (nO R)) (.sl 2 0 (nD R)),rO R,rD R] (gz 13 eO K):=by
 have fin:∀{R':θ} {kb':KB},ij R fr ⟨kd,[q0,q1,q2],b,ls⟩=R'->aB R' kb'->K (.χ []) kb':=fun{R' kb'} h1 h2=>by
  have:=hK kb'
  rw[h1]at this
  exact this h2
 exact aho R T ο π fr kd q0 q1 q2 b ls K ⟨fun _ f=>fin (aeg hl) (eK _ _),fun f=>(by cases f)⟩
theorem afv (R:θ) (T:ML) (I Q:ML) (L:bX) (fr kd q0 q1 q2:Int) (b:List Int) (ls:List (List Int)) (hT:bG T R.t) (hl:R.ld=some L) (hI:MB I L.ins) (hQ:MB Q L.cy) (hR:dz R) (hkb:aB R [cR R (ai T) (ξ true) (.mp 1) (.mp 2) (.af (L.cur.map bn)) (.sl 3 0 (nO R)) (.sl 4 0 (nD R)),aj I,aj Q,rO R,rD R]) (K:V->KB->Prop) (hK:∀ kb',aB (im R fr ⟨kd,[q0,q1,q2],b,ls⟩) kb'->K (.χ []) kb'):aK Tryz.prog jI (fun _=>none) 88 [an 0 0,.int γ fr,.agg [.int γ kd,aH (.sl 1 [[dn γ q0],[dn γ q1],[dn γ q2]]),aH (.sl 1 (ints ν b)),aH (.sl 1 (cm ls))]] [cR R (ai T) (ξ true) (.mp 1) (.mp 2) (.af (L.cur.map bn)) (.sl 3 0 (nO R)) (.sl 4 0 (nD R)),aj I,aj Q,rO R,rD R] (gz 13 eO K):=by
 have fin:∀{R':θ} {kb':KB},im R fr ⟨kd,[q0,q1,q2],b,ls⟩=R'->aB R' kb'->K (.χ []) kb':=fun{R' kb'} h1 h2=>by
  have:=hK kb'
  rw[h1]at this
  exact this h2
 have h5:dH (R.v.mem.length+R.v.aC.length):=⟨by have:=hR.vl;omega⟩
 have mX:iJ (aU ν R.c) R.c:=⟨rfl,hR.cl,hR.cb⟩
 have fz:nO R<=1000000:=by show(ae bR R.out).length<=_;rw[cp];have:=hR.ol;omega
 have hdl:nD R<=1000000:=by show(ae dv R.done).length<=_;rw[cp];have:=hR.dl;omega
 have oH:L.cur.map bn=(b_ R).map bn:=by simp [b_,hl]
 refine ahD R T I Q (L.cur.map bn) fr kd q0 q1 q2 b ls K ?_
 refine⟨fun f=>(by cases f),fun _=>⟨(by decide:(0:Int)<=1),_,rfl,q1,rfl,fun e1=>fin (UC hl (.inl (by simpa using e1))) hkb,fun e1=>⟨(by decide:(0:Int)<=2),_,rfl,q2,rfl,fun e2=>fin (UC hl (.inr (by simpa using e2))) hkb,fun e2=>?_⟩⟩⟩
 have g1:q1=R.ep:=by simpa using e1
 have g2:q2=R.nu:=by simpa using e2
 cases l_:L.cur with
 |none=>
  exact⟨fun f=>(by cases f),fun _=>fin (afs hl l_ g1 g2) (by
   unfold aB
   exact⟨_,Q,T,mG hI fr true,hQ,hT,rfl⟩)⟩
 |some p=>
  exact⟨fun _ f=>⟨rfl,⟨hdl⟩,R.v.mem,R.v.aC,R.c,p,mX,rfl,rfl,h5,(mG hQ fr true).b,rfl,C4 ⟨hR.cr p (by simp [b_,hl,l_])⟩,fun e=>⟨⟨by simp [bQ]⟩,fin ((UB hl l_ g1 g2).trans (OJ rfl rfl (by rw[sw (mG hQ fr true)]at e;exact e))) (by
   unfold aB
   exact⟨_,_,T,mG hI fr true,mG hQ fr true,hT,rfl⟩)⟩,fun e=>⟨⟨by simp [bQ]⟩,fin ((UB hl l_ g1 g2).trans (OK rfl rfl (by rw[sw (mG hQ fr true)]at e;exact e))) (by
   unfold aB
   refine⟨_,_,T,mG hI fr true,mG hQ fr true,hT,?_⟩
   simp [cR,cS,dv,bn,GJ,dn])⟩⟩,fun f=>(by cases f)⟩
theorem adj (R:θ) (T:ML) (I Q:ML) (L:bX) (fr kd q0 q1 q2:Int) (b:List Int) (ls:List (List Int)) (hT:bG T R.t) (hl:R.ld=some L) (hI:MB I L.ins) (hQ:MB Q L.cy) (hR:dz R) (hkb:aB R [cR R (ai T) (ξ true) (.mp 1) (.mp 2) (.af (L.cur.map bn)) (.sl 3 0 (nO R)) (.sl 4 0 (nD R)),aj I,aj Q,rO R,rD R]) (K:V->KB->Prop) (hK:∀ kb',aB (ic R fr ⟨kd,[q0,q1,q2],b,ls⟩) kb'->K (.χ []) kb'):aK Tryz.prog jI (fun _=>none) 90 [an 0 0,.int γ fr,.agg [.int γ kd,aH (.sl 1 [[dn γ q0],[dn γ q1],[dn γ q2]]),aH (.sl 1 (ints ν b)),aH (.sl 1 (cm ls))]] [cR R (ai T) (ξ true) (.mp 1) (.mp 2) (.af (L.cur.map bn)) (.sl 3 0 (nO R)) (.sl 4 0 (nD R)),aj I,aj Q,rO R,rD R] (gz 13 eO K):=by
 have fin:∀{R':θ} {kb':KB},ic R fr ⟨kd,[q0,q1,q2],b,ls⟩=R'->aB R' kb'->K (.χ []) kb':=fun{R' kb'} h1 h2=>by
  have:=hK kb'
  rw[h1]at this
  exact this h2
 have h5:dH (R.v.mem.length+R.v.aC.length):=⟨by have:=hR.vl;omega⟩
 have mX:iJ (aU ν R.c) R.c:=⟨rfl,hR.cl,hR.cb⟩
 have fz:nO R<=1000000:=by show(ae bR R.out).length<=_;rw[cp];have:=hR.ol;omega
 have hdl:nD R<=1000000:=by show(ae dv R.done).length<=_;rw[cp];have:=hR.dl;omega
 have oH:L.cur.map bn=(b_ R).map bn:=by simp [b_,hl]
 refine aha R T I Q (L.cur.map bn) fr kd q0 q1 q2 b ls K ?_
 cases l_:L.cur with
 |none=>
  have same:=fin (adf hl l_) hkb
  rw[l_]at same
  exact⟨fun _=>⟨(by decide:(0:Int)<=1),_,rfl,q1,rfl,fun _=>⟨(by decide:(0:Int)<=2),_,rfl,q2,rfl,fun _=>⟨fun f=>(by cases f),fun _=>same⟩,fun _=>same⟩,fun _=>same⟩,fun _=>same⟩
 |some p=>
  have same:=fun h=>fin (adh hl l_ h) hkb
  rw[l_]at same
  exact⟨fun _=>⟨(by decide:(0:Int)<=1),_,rfl,q1,rfl,fun e1=>⟨(by decide:(0:Int)<=2),_,rfl,q2,rfl,fun e2=>⟨fun _ f=>⟨rfl,⟨hdl⟩,R.v.mem,R.v.aC,R.c,p,mX,rfl,rfl,h5,(mG hQ fr true).b,rfl,C4 ⟨hR.cr p (by simp [b_,hl,l_])⟩,fun e=>⟨⟨by simp [bQ]⟩,fin ((SG hl l_ (show q1=R.ep by simpa using e1) (show q2=R.nu by simpa using e2)).trans (OJ rfl rfl (by rw[sw (mG hQ fr true)]at e;exact e))) (by
   unfold aB
   exact⟨I,_,T,hI,mG hQ fr true,hT,rfl⟩)⟩,fun e=>⟨⟨by simp [bQ]⟩,fin ((SG hl l_ (show q1=R.ep by simpa using e1) (show q2=R.nu by simpa using e2)).trans (OK rfl rfl (by rw[sw (mG hQ fr true)]at e;exact e))) (by
   unfold aB
   refine⟨I,_,T,hI,mG hQ fr true,hT,?_⟩
   simp [cR,cS,dv,bn,GJ,dn])⟩⟩,fun f=>(by cases f)⟩,fun e2=>same fun h=>absurd h.2 (show ¬ q2=R.nu by simpa using e2)⟩,fun e1=>same fun h=>absurd h.1 (show ¬ q1=R.ep by simpa using e1)⟩,fun f=>(by cases f)⟩
theorem aej (R:θ) (T:ML) (I Q:ML) (L:bX) (fr kd q0 q1 q2:Int) (b:List Int) (ls:List (List Int)) (hT:bG T R.t) (hl:R.ld=some L) (hI:MB I L.ins) (hQ:MB Q L.cy) (hR:dz R) (hkb:aB R [cR R (ai T) (ξ true) (.mp 1) (.mp 2) (.af (L.cur.map bn)) (.sl 3 0 (nO R)) (.sl 4 0 (nD R)),aj I,aj Q,rO R,rD R]) (K:V->KB->Prop) (hK:∀ kb',aB (ij R fr ⟨kd,[q0,q1,q2],b,ls⟩) kb'->K (.χ []) kb'):aK Tryz.prog jI (fun _=>none) 91 [an 0 0,.int γ fr,.agg [.int γ kd,aH (.sl 1 [[dn γ q0],[dn γ q1],[dn γ q2]]),aH (.sl 1 (ints ν b)),aH (.sl 1 (cm ls))]] [cR R (ai T) (ξ true) (.mp 1) (.mp 2) (.af (L.cur.map bn)) (.sl 3 0 (nO R)) (.sl 4 0 (nD R)),aj I,aj Q,rO R,rD R] (gz 13 eO K):=by
 have fin:∀{R':θ} {kb':KB},ij R fr ⟨kd,[q0,q1,q2],b,ls⟩=R'->aB R' kb'->K (.χ []) kb':=fun{R' kb'} h1 h2=>by
  have:=hK kb'
  rw[h1]at this
  exact this h2
 have h5:dH (R.v.mem.length+R.v.aC.length):=⟨by have:=hR.vl;omega⟩
 have mX:iJ (aU ν R.c) R.c:=⟨rfl,hR.cl,hR.cb⟩
 have fz:nO R<=1000000:=by show(ae bR R.out).length<=_;rw[cp];have:=hR.ol;omega
 have hdl:nD R<=1000000:=by show(ae dv R.done).length<=_;rw[cp];have:=hR.dl;omega
 have oH:L.cur.map bn=(b_ R).map bn:=by simp [b_,hl]
 refine ahn R T I Q (L.cur.map bn) fr kd q0 q1 q2 b ls K ?_
 exact⟨fun f=>(by cases f),fun _=>⟨(by decide:(0:Int)<=1),_,rfl,q1,rfl,fun e1 f=>⟨rfl,⟨hdl⟩,b_ R,oH,⟨by simp [bQ]⟩,fun f=>fin (aef hl (show R.ep<q1 by simpa using e1)) (by
  unfold aB
  refine⟨f 14,f 15,T,hT,?_⟩
  simp only[nD,rD,tz]
  rfl)⟩,fun e1=>⟨(by decide:(0:Int)<=1),_,rfl,q1,rfl,fun e2=>⟨(by decide:(0:Int)<=2),_,rfl,q2,rfl,fun e3 f=>⟨rfl,⟨hdl⟩,b_ R,oH,⟨by simp [bQ]⟩,fun f=>fin (aeh hl (show q1=R.ep by simpa using e2) (show R.nu<q2 by simpa using e3)) (by
  unfold aB
  refine⟨f 14,f 15,T,hT,?_⟩
  simp only[nD,rD,tz]
  rfl)⟩,fun e3=>fun f=>⟨rfl,⟨fz⟩,R.c,R.t,mX,hT,⟨by simp [bQ]⟩,fin (Ts hl (show ¬ R.ep<q1 by simpa using e1) (fun h=>absurd h.2 (show ¬ R.nu<q2 by simpa using e3))) (by
  unfold aB qC il
  simp only
  refine⟨_,Q,T,mG hI fr false,hQ,hT,?_⟩
  simp [cR,cS,gB,bR,jo,mM,fW,dn,ints]
  try rfl)⟩⟩,fun e2=>fun f=>⟨rfl,⟨fz⟩,R.c,R.t,mX,hT,⟨by simp [bQ]⟩,fin (Ts hl (show ¬ R.ep<q1 by simpa using e1) (fun h=>absurd h.1 (show ¬ q1=R.ep by simpa using e2))) (by
  unfold aB qC il
  simp only
  refine⟨_,Q,T,mG hI fr false,hQ,hT,?_⟩
  simp [cR,cS,gB,bR,jo,mM,fW,dn,ints]
  try rfl)⟩⟩⟩⟩
def Wq:aD:=fun args kb K=>∃ R fr kd q0 q1 q2 b ls,args=[an 0 0,.int γ fr,.agg [.int γ kd,aH (.sl 1 [[dn γ q0],[dn γ q1],[dn γ q2]]),aH (.sl 1 (ints ν b)),aH (.sl 1 (cm ls))]]/\aB R kb/\dz R/\∀ kb',aB (im R fr ⟨kd,[q0,q1,q2],b,ls⟩) kb'->K (.χ []) kb'
theorem acZ:gq Tryz.prog 88 Wq:=ur mixed 13 eO (fun args kb K h=>by
 obtain⟨R,fr,kd,q0,q1,q2,b,ls,rfl,hkb,hR,hK⟩:=h
 have i_:=hkb
 unfold aB at hkb
 split at hkb
 ·rename_i hl
  obtain⟨ο,π,T,hT,rfl⟩:=hkb
  exact⟨_,_,pT,afw R T ο π fr kd q0 q1 q2 b ls hT hl hR (fun a b=>by unfold aB;simp only[hl];exact⟨a,b,T,hT,rfl⟩) K hK⟩
 ·rename_i L hl
  obtain⟨I,Q,T,hI,hQ,hT,rfl⟩:=hkb
  exact⟨_,_,pT,afv R T I Q L fr kd q0 q1 q2 b ls hT hl hI hQ hR i_ K hK⟩)
def Wk:aD:=fun args kb K=>∃ R fr kd q0 q1 q2 b ls,args=[an 0 0,.int γ fr,.agg [.int γ kd,aH (.sl 1 [[dn γ q0],[dn γ q1],[dn γ q2]]),aH (.sl 1 (ints ν b)),aH (.sl 1 (cm ls))]]/\aB R kb/\dz R/\∀ kb',aB (ic R fr ⟨kd,[q0,q1,q2],b,ls⟩) kb'->K (.χ []) kb'
theorem acr:gq Tryz.prog 90 Wk:=ur mixed 13 eO (fun args kb K h=>by
 obtain⟨R,fr,kd,q0,q1,q2,b,ls,rfl,hkb,hR,hK⟩:=h
 have i_:=hkb
 unfold aB at hkb
 split at hkb
 ·rename_i hl
  obtain⟨ο,π,T,hT,rfl⟩:=hkb
  exact⟨_,_,pT,adk R T ο π fr kd q0 q1 q2 b ls hT hl hR (fun a b=>by unfold aB;simp only[hl];exact⟨a,b,T,hT,rfl⟩) K hK⟩
 ·rename_i L hl
  obtain⟨I,Q,T,hI,hQ,hT,rfl⟩:=hkb
  exact⟨_,_,pT,adj R T I Q L fr kd q0 q1 q2 b ls hT hl hI hQ hR i_ K hK⟩)
def Wm:aD:=fun args kb K=>∃ R fr kd q0 q1 q2 b ls,args=[an 0 0,.int γ fr,.agg [.int γ kd,aH (.sl 1 [[dn γ q0],[dn γ q1],[dn γ q2]]),aH (.sl 1 (ints ν b)),aH (.sl 1 (cm ls))]]/\aB R kb/\dz R/\∀ kb',aB (ij R fr ⟨kd,[q0,q1,q2],b,ls⟩) kb'->K (.χ []) kb'
theorem acP:gq Tryz.prog 91 Wm:=ur mixed 13 eO (fun args kb K h=>by
 obtain⟨R,fr,kd,q0,q1,q2,b,ls,rfl,hkb,hR,hK⟩:=h
 have i_:=hkb
 unfold aB at hkb
 split at hkb
 ·rename_i hl
  obtain⟨ο,π,T,hT,rfl⟩:=hkb
  exact⟨_,_,pT,aek R T ο π fr kd q0 q1 q2 b ls hT hl hR (fun a b=>by unfold aB;simp only[hl];exact⟨a,b,T,hT,rfl⟩) K hK⟩
 ·rename_i L hl
  obtain⟨I,Q,T,hI,hQ,hT,rfl⟩:=hkb
  exact⟨_,_,pT,aej R T I Q L fr kd q0 q1 q2 b ls hT hl hI hQ hR i_ K hK⟩)
abbrev vW (kd q0 q1 q2 q3 q4 q5 q6 q7:Int) (b:List Int) (ls:List (List Int)):KO:=.cells [.int γ kd,aH (.sl 1 [[dn γ q0],[dn γ q1],[dn γ q2],[dn γ q3],[dn γ q4],[dn γ q5],[dn γ q6],[dn γ q7]]),aH (.sl 1 (ints ν b)),aH (.sl 1 (cm ls))]
def pI (R:θ) (q1 q2:Int):Bool:=decide (q1=R.ep/\q2=R.nu/\eL R=false)
def lS (R:θ) (q1 q2:Int) (o:Op):Bool:=decide (q1=R.ep/\q2=R.nu+1/\eL R=false/\gO o=true)
def ib (R:θ) (q1 q2 q7:Int) (o:Op):Bool:=lS R q1 q2 o && (o.kd != 4 || dN R.c == q7)
abbrev Sw (R:θ) (T:ML) (ο π:Value) (fr kd q0 q1 q2 q3 q4 q5 q6 q7:Int) (b:List Int) (ls:List (List Int)):LI where
 α:=Unit
 live:=[0,1,5,6]
 st _:=([an 0 0,.int γ fr,an 3 0,an 4 0],[cR R (ai T) (ξ false) (δ ο) (δ π) (.af none) (.sl 1 0 (nO R)) (.sl 2 0 (nD R)),rO R,rD R,vW kd q0 q1 q2 q3 q4 q5 q6 q7 b ls,aw [.int γ q3,.int γ q4,.int γ q5,.int γ q6,aH (.sl 1 (ints ν b))]])
 μ _:=0
abbrev Sy (R:θ) (T:ML) (ο π:Value) (fr kd q0 q1 q2 q3 q4 q5 q6 q7:Int) (b:List Int) (ls:List (List Int)):LI where
 α:=Unit
 live:=[0,1,5,6,7]
 st _:=([an 0 0,.int γ fr,an 3 0,an 4 0,ξ (lS R q1 q2 ⟨q3,q4,q5,q6,b⟩)],[cR R (ai T) (ξ false) (δ ο) (δ π) (.af none) (.sl 1 0 (nO R)) (.sl 2 0 (nD R)),rO R,rD R,vW kd q0 q1 q2 q3 q4 q5 q6 q7 b ls,aw [.int γ q3,.int γ q4,.int γ q5,.int γ q6,aH (.sl 1 (ints ν b))]])
 μ _:=0
abbrev SC (R:θ) (T:ML) (ο π:Value) (fr kd q0 q1 q2 q3 q4 q5 q6 q7:Int) (b:List Int) (ls:List (List Int)):LI where
 α:=Unit
 live:=[0,1,5,6,7,62]
 st _:=([an 0 0,.int γ fr,an 3 0,an 4 0,ξ (lS R q1 q2 ⟨q3,q4,q5,q6,b⟩),ξ (pI R q1 q2)],[cR R (ai T) (ξ false) (δ ο) (δ π) (.af none) (.sl 1 0 (nO R)) (.sl 2 0 (nD R)),rO R,rD R,vW kd q0 q1 q2 q3 q4 q5 q6 q7 b ls,aw [.int γ q3,.int γ q4,.int γ q5,.int γ q6,aH (.sl 1 (ints ν b))]])
 μ _:=0
abbrev SE (R:θ) (T:ML) (ο π:Value) (fr kd q0 q1 q2 q3 q4 q5 q6 q7:Int) (b:List Int) (ls:List (List Int)):LI where
 α:=Unit
 live:=[0,1,6,90]
 st _:=([an 0 0,.int γ fr,an 3 0,ξ (ib R q1 q2 q7 ⟨q3,q4,q5,q6,b⟩)],[cR R (ai T) (ξ false) (δ ο) (δ π) (.af none) (.sl 1 0 (nO R)) (.sl 2 0 (nD R)),rO R,rD R,aw [.int γ q3,.int γ q4,.int γ q5,.int γ q6,aH (.sl 1 (ints ν b))]])
 μ _:=0
def SL (R:θ) (T:ML) (ο π:Value) (fr kd q0 q1 q2 q3 q4 q5 q6 q7:Int) (b:List Int) (ls:List (List Int)):Nat->Option LI
 | 1002=>some (Sw R T ο π fr kd q0 q1 q2 q3 q4 q5 q6 q7 b ls)
 | 1004=>some (Sy R T ο π fr kd q0 q1 q2 q3 q4 q5 q6 q7 b ls)
 | 1005=>some (SC R T ο π fr kd q0 q1 q2 q3 q4 q5 q6 q7 b ls)
 | 1006=>some (SE R T ο π fr kd q0 q1 q2 q3 q4 q5 q6 q7 b ls)
 |_=>none
abbrev Sv (R:θ) (T:ML) (I Q:ML) (u:Option (List D)) (fr kd q0 q1 q2 q3 q4 q5 q6 q7:Int) (b:List Int) (ls:List (List Int)):LI where
 α:=Unit
 live:=[0,1,5,6]
 st _:=([an 0 0,.int γ fr,an 5 0,an 6 0],[cR R (ai T) (ξ true) (.mp 1) (.mp 2) (.af u) (.sl 3 0 (nO R)) (.sl 4 0 (nD R)),aj I,aj Q,rO R,rD R,vW kd q0 q1 q2 q3 q4 q5 q6 q7 b ls,aw [.int γ q3,.int γ q4,.int γ q5,.int γ q6,aH (.sl 1 (ints ν b))]])
 μ _:=0
abbrev Sx (R:θ) (T:ML) (I Q:ML) (u:Option (List D)) (fr kd q0 q1 q2 q3 q4 q5 q6 q7:Int) (b:List Int) (ls:List (List Int)):LI where
 α:=Unit
 live:=[0,1,5,6,7]
 st _:=([an 0 0,.int γ fr,an 5 0,an 6 0,ξ (lS R q1 q2 ⟨q3,q4,q5,q6,b⟩)],[cR R (ai T) (ξ true) (.mp 1) (.mp 2) (.af u) (.sl 3 0 (nO R)) (.sl 4 0 (nD R)),aj I,aj Q,rO R,rD R,vW kd q0 q1 q2 q3 q4 q5 q6 q7 b ls,aw [.int γ q3,.int γ q4,.int γ q5,.int γ q6,aH (.sl 1 (ints ν b))]])
 μ _:=0
abbrev Sz (R:θ) (T:ML) (I Q:ML) (u:Option (List D)) (fr kd q0 q1 q2 q3 q4 q5 q6 q7:Int) (b:List Int) (ls:List (List Int)):LI where
 α:=Unit
 live:=[0,1,5,6,7,62]
 st _:=([an 0 0,.int γ fr,an 5 0,an 6 0,ξ (lS R q1 q2 ⟨q3,q4,q5,q6,b⟩),ξ (pI R q1 q2)],[cR R (ai T) (ξ true) (.mp 1) (.mp 2) (.af u) (.sl 3 0 (nO R)) (.sl 4 0 (nD R)),aj I,aj Q,rO R,rD R,vW kd q0 q1 q2 q3 q4 q5 q6 q7 b ls,aw [.int γ q3,.int γ q4,.int γ q5,.int γ q6,aH (.sl 1 (ints ν b))]])
 μ _:=0
abbrev SD (R:θ) (T:ML) (I Q:ML) (u:Option (List D)) (fr kd q0 q1 q2 q3 q4 q5 q6 q7:Int) (b:List Int) (ls:List (List Int)):LI where
 α:=Unit
 live:=[0,1,6,90]
 st _:=([an 0 0,.int γ fr,an 5 0,ξ (ib R q1 q2 q7 ⟨q3,q4,q5,q6,b⟩)],[cR R (ai T) (ξ true) (.mp 1) (.mp 2) (.af u) (.sl 3 0 (nO R)) (.sl 4 0 (nD R)),aj I,aj Q,rO R,rD R,aw [.int γ q3,.int γ q4,.int γ q5,.int γ q6,aH (.sl 1 (ints ν b))]])
 μ _:=0
def SK (R:θ) (T:ML) (I Q:ML) (u:Option (List D)) (fr kd q0 q1 q2 q3 q4 q5 q6 q7:Int) (b:List Int) (ls:List (List Int)):Nat->Option LI
 | 1002=>some (Sv R T I Q u fr kd q0 q1 q2 q3 q4 q5 q6 q7 b ls)
 | 1004=>some (Sx R T I Q u fr kd q0 q1 q2 q3 q4 q5 q6 q7 b ls)
 | 1005=>some (Sz R T I Q u fr kd q0 q1 q2 q3 q4 q5 q6 q7 b ls)
 | 1006=>some (SD R T I Q u fr kd q0 q1 q2 q3 q4 q5 q6 q7 b ls)
 |_=>none
theorem ahd (R:θ) (T:ML) (ο π:Value) (fr kd q0 q1 q2 q3 q4 q5 q6 q7:Int) (b:List Int) (ls:List (List Int)) (K:V->KB->Prop) (ar:
 let jq:=[0,1,2,3,4,5,7,8,9,10,11,12,13,14,15,16,17,18,19,20,21];let iV:=(Sy R T ο π fr kd q0 q1 q2 q3 q4 q5 q6 q7 b ls);let fT:=(SC R T ο π fr kd q0 q1 q2 q3 q4 q5 q6 q7 b ls);let fY:=(ζ γ (R.nu+1));let dO:=aH (ω 1 (ints ν b));let cK:=ξ (lS R q1 q2 {cl:=q3,nm:=q4,kd:=q5,bk:=q6,b:=b});let cw:=[0,1,2,3,4,8,9,10,11,12,13,14,15,16,17,19,20,21];let bC:=[0,2,3,5,7,8,9,10,11,12,13,14,15,16,17,18,19,21];let bp:=(SE R T ο π fr kd q0 q1 q2 q3 q4 q5 q6 q7 b ls);let aL:=υ 107 5 (ae bR R.out++[[dn γ fr,η (φ γ 13),ω 1 [[dn γ R.id],[dn γ R.ep],[η (φ γ (R.nu+1))]],ω 1 [],ω 1 []]]);let az:=aw [ζ γ q3,ζ γ q4,ζ γ q5,ζ γ q6,dO];let cf:KB:=[cR R (ai T) (ξ false) (δ ο) (δ π) (aO none) (ε 1 0 (nO R)) (ε 2 0 (nD R)),rO R,rD R,az];let ah:=[[dn γ q0],[dn γ q1],[dn γ q2],[dn γ q3],[dn γ q4],[dn γ q5],[dn γ q6],[dn γ q7]];let bV:=aw [ζ γ kd,aH (ω 1 ah),dO,aH (ω 1 (cm ls))];let κ:KB:=[cR R (ai T) (ξ false) (δ ο) (δ π) (aO none) (ε 1 0 (nO R)) (ε 2 0 (nD R)),rO R,rD R,bV,az];let aV:=At fT ([an 0 0,ζ γ fr,an 3 0,an 4 0,cK,ξ false],κ);let aJ:=At iV ([an 0 0,ζ γ fr,an 3 0,an 4 0,ξ false],κ);(aM 3/\
 ∃(y1:List D),ah[3]? =some y1/\
 ∃(y2:Int),y1[0]? =some (η (φ γ y2))/\
 aM 4/\
 ∃(y3:List D),ah[4]? =some y3/\
 ∃(y4:Int),y3[0]? =some (η (φ γ y4))/\
 aM 5/\
 ∃(y5:List D),ah[5]? =some y5/\
 ∃(y6:Int),y5[0]? =some (η (φ γ y6))/\
 aM 6/\
 ∃(y7:List D),ah[6]? =some y7/\
 ∃(y8:Int),y7[0]? =some (η (φ γ y8))/\
 True/\
 (∃(y9:Int),y7[0]? =some (η (φ γ y9))/\
 True)/\
 True/\
 (∃(cO:Int),y5[0]? =some (η (φ γ cO))/\
 True)/\
 True/\
 (∃(cC:Int),y3[0]? =some (η (φ γ cC))/\
 True)/\
 True/\
 (∃(cD:Int),y1[0]? =some (η (φ γ cD))/\
 True)/\
 True/\
 At (Sw R T ο π fr kd q0 q1 q2 q3 q4 q5 q6 q7 b ls) ([an 0 0,ζ γ fr,an 3 0,an 4 0],[cR R (ai T) (ξ false) (δ ο) (δ π) (aO none) (ε 1 0 (nO R)) (ε 2 0 (nD R)),rO R,rD R,bV,aw [ζ γ y2,ζ γ y4,ζ γ y6,ζ γ y8,dO]]))/\
 ∀(cM:Unit),(aM 1/\
 ∃(dC:List D),ah[1]? =some dC/\
 ∃(cX:Int),dC[0]? =some (η (φ γ cX))/\
 ((cX == R.ep)=true->
 aM 2/\
 ∃(fS:List D),ah[2]? =some fS/\
 ∃(dg:Int),fS[0]? =some (η (φ γ dg))/\
 ((dg == γ.wrap (R.nu+1))=true->
 (true=true->
 At iV ([an 0 0,ζ γ fr,an 3 0,an 4 0,ξ (kI q3 q4 q5 q6 (ints ν b).length)],κ))/\
 (true=false->
 aJ))/\
 ((dg == γ.wrap (R.nu+1))=false->
 aJ))/\
 ((cX == R.ep)=false->
 aJ))/\
 ∀(fg:Unit),(aM 1/\
 ∃(fD:List D),ah[1]? =some fD/\
 ∃(fN:Int),fD[0]? =some (η (φ γ fN))/\
 ((fN == R.ep)=true->
 aM 2/\
 ∃(eY:List D),ah[2]? =some eY/\
 ∃(fE:Int),eY[0]? =some (η (φ γ fE))/\
 ((fE == R.nu)=true->
 At fT ([an 0 0,ζ γ fr,an 3 0,an 4 0,cK,ξ true],κ))/\
 ((fE == R.nu)=false->
 aV))/\
 ((fN == R.ep)=false->
 aV))/\
 ∀(iT:Unit),(pI R q1 q2=true->
 1<=1/\
 ∀(gm:Nat->
 Value),nO R=(nO R)/\
 bP (nO R)/\
 bP 1/\
 bw gm bC/\
 ∀(eT:Nat->
 Value),K (av []) [cR R (ai T) (ξ false) (δ (eT 14)) (δ (eT 15)) (aO none) (ε 1 0 (nO R+1)) (ε 2 0 (nD R)),υ 107 5 (ae bR R.out++[[dn γ fr,η (φ γ 13),ω 1 [[dn γ R.id],[dn γ R.ep],[η (φ γ R.nu)]],ω 1 [],ω 1 []]]),rD R])/\
 (pI R q1 q2=false->
 ((lS R q1 q2 {cl:=q3,nm:=q4,kd:=q5,bk:=q6,b:=b}=true->
 ((q5 != 4)=true->
 At bp ([an 0 0,ζ γ fr,an 3 0,ξ true],cf))/\
 ((q5 != 4)=false->
 (∀(eZ:Nat->
 Value),∃(eF:List Int),aU ν R.c=aU ν eF/\
 eF.length=128/\
 (∀(iU:Int),dW iU eF->
 0<=iU/\
 iU<256)/\
 bw eZ jq/\
 aM 7/\
 ∃(jS:List D),ah[7]? =some jS/\
 ∃(iq:Int),jS[0]? =some (η (φ γ iq))/\
 At bp ([an 0 0,ζ γ fr,an 3 0,ξ (γ.wrap (dN eF) == iq)],[cS R (ζ γ R.nu) (bD 128 (aU ν eF)) (ξ R.ch) (ai T) (ξ false) (δ ο) (δ π) (aO none) (ε 1 0 (nO R)) (ε 2 0 (nD R)),rO R,rD R,az]))/\
 aM 7/\
 ∃(ft:List D),ah[7]? =some ft/\
 ∃(jT:Int),ft[0]? =some (η (φ γ jT))/\
 ∀(km:Nat->
 Value),∃(jU:List Int),aU ν R.c=aU ν jU/\
 jU.length=128/\
 (∀(kL:Int),dW kL jU->
 0<=kL/\
 kL<256)/\
 bw km jq/\
 (∃(oh:Int),ft[0]? =some (η (φ γ oh))/\
 kS oh jT)/\
 At bp ([an 0 0,ζ γ fr,an 3 0,ξ (γ.wrap (dN jU) == jT)],[cS R (ζ γ R.nu) (bD 128 (aU ν jU)) (ξ R.ch) (ai T) (ξ false) (δ ο) (δ π) (aO none) (ε 1 0 (nO R)) (ε 2 0 (nD R)),rO R,rD R,az])))/\
 (lS R q1 q2 {cl:=q3,nm:=q4,kd:=q5,bk:=q6,b:=b}=false->
 At bp ([an 0 0,ζ γ fr,an 3 0,ξ false],cf)))/\
 ∀(mQ:Unit),(ib R q1 q2 q7 {cl:=q3,nm:=q4,kd:=q5,bk:=q6,b:=b}=true->
 ∀(kM:Nat->
 Value),∃(oo:List Int),∃(mR:List Int),let bW:=(bD 128 (aU ν (fj oo q5 q6 mR)));∃(o4:List L3),iJ (aU ν R.c) oo/\
 ints ν b=ints ν mR/\
 bG T o4/\
 qP R.nu/\
 vd q3 q4 q5 q6 mR.length/\
 (zP q5->
 bw kM cw/\
 1<=1/\
 ∀(sf:Nat->
 Value),nO R=(nO R)/\
 bP (nO R)/\
 bP 1/\
 bw sf bC/\
 ∀(qJ:Nat->
 Value),K (av []) [cS R fY bW (ξ true) (ai T) (ξ false) (δ (qJ 14)) (δ (qJ 15)) (aO none) (ε 1 0 (nO R+1)) (ε 2 0 (nD R)),aL,rD R])/\
 (zB q5->
 (mr (cW o4 q3 q4 0)->
 bw kM cw/\
 1<=1/\
 ∀(sg:Nat->
 Value),nO R=(nO R)/\
 bP (nO R)/\
 bP 1/\
 bw sg bC/\
 ∀(tu:Nat->
 Value),K (av []) [cS R fY bW (ξ true) (ai T) (ξ false) (δ (tu 14)) (δ (tu 15)) (aO none) (ε 1 0 (nO R+1)) (ε 2 0 (nD R)),aL,rD R])/\
 (mj (cW o4 q3 q4 0)->
 bw kM cw/\
 1<=1/\
 ∀(si:Nat->
 Value),nO R=(nO R)/\
 bP (nO R)/\
 bP 1/\
 bw si bC/\
 ∀(uO:Nat->
 Value),K (av []) [cS R fY bW (ξ true) (ai (bL T [q3] [dn γ q4,η (φ γ 0)])) (ξ false) (δ (uO 14)) (δ (uO 15)) (aO none) (ε 1 0 (nO R+1)) (ε 2 0 (nD R)),aL,rD R])))/\
 (ib R q1 q2 q7 {cl:=q3,nm:=q4,kd:=q5,bk:=q6,b:=b}=false->
 ∀(uP:Nat->
 Value),nO R=(nO R)/\
 bP (nO R)/\
 bw uP [0,2,3,7,8,9,10,11,12,13,14,15,16,17,18,19,21]/\
 ∀(tv:Nat->
 Value),K (av []) [cR R (ai T) (ξ false) (δ (tv 14)) (δ (tv 15)) (aO none) (ε 1 0 (nO R+1)) (ε 2 0 (nD R)),υ 107 5 (ae bR R.out++[[dn γ fr,η (φ γ 14),ω 1 [[dn γ R.id],[dn γ R.ep],[dn γ R.nu]],ω 1 [],ω 1 []]]),rD R]))
 ):aK Tryz.prog jI (SL R T ο π fr kd q0 q1 q2 q3 q4 q5 q6 q7 b ls) 89 [an 0 0,.int γ fr,.agg [.int γ kd,aH (.sl 1 [[dn γ q0],[dn γ q1],[dn γ q2],[dn γ q3],[dn γ q4],[dn γ q5],[dn γ q6],[dn γ q7]]),aH (.sl 1 (ints ν b)),aH (.sl 1 (cm ls))]] [cR R (ai T) (ξ false) (δ ο) (δ π) (.af none) (.sl 1 0 (nO R)) (.sl 2 0 (nD R)),rO R,rD R] (gz 13 eO K):=by apply Eq.mp (a:=ar);kernel_rfl
theorem ahc (R:θ) (T:ML) (I Q:ML) (u:Option (List D)) (fr kd q0 q1 q2 q3 q4 q5 q6 q7:Int) (b:List Int) (ls:List (List Int)) (K:V->KB->Prop) (ar:
 let fY:=(Sx R T I Q u fr kd q0 q1 q2 q3 q4 q5 q6 q7 b ls);let dO:=[0,1,2,3,4,5,7,8,9,10,11,12,13,14,15,16,17,18,19,20,21];let cK:=aH (ω 1 (ints ν b));let bW:=[0,1,2,3,4,8,9,10,11,12,13,14,15,16,17,19,20,21];let cf:=[0,2,3,5,7,8,9,10,11,12,13,14,15,16,17,18,19,21];let bC:=(SD R T I Q u fr kd q0 q1 q2 q3 q4 q5 q6 q7 b ls);let bp:=υ 107 5 (ae bR R.out++[[dn γ fr,η (φ γ 13),ω 1 [[dn γ R.id],[dn γ R.ep],[η (φ γ (R.nu+1))]],ω 1 [],ω 1 []]]);let az:=aw [ζ γ q3,ζ γ q4,ζ γ q5,ζ γ q6,cK];let bV:KB:=[cR R (ai T) (ξ true) (bb 1) (bb 2) (aO u) (ε 3 0 (nO R)) (ε 4 0 (nD R)),aj I,aj Q,rO R,rD R,az];let ah:=[[dn γ q0],[dn γ q1],[dn γ q2],[dn γ q3],[dn γ q4],[dn γ q5],[dn γ q6],[dn γ q7]];let cw:=aw [ζ γ kd,aH (ω 1 ah),cK,aH (ω 1 (cm ls))];let κ:KB:=[cR R (ai T) (ξ true) (bb 1) (bb 2) (aO u) (ε 3 0 (nO R)) (ε 4 0 (nD R)),aj I,aj Q,rO R,rD R,cw,az];let aV:=At fY ([an 0 0,ζ γ fr,an 5 0,an 6 0,ξ false],κ);let aJ:=At (Sz R T I Q u fr kd q0 q1 q2 q3 q4 q5 q6 q7 b ls) ([an 0 0,ζ γ fr,an 5 0,an 6 0,ξ (lS R q1 q2 {cl:=q3,nm:=q4,kd:=q5,bk:=q6,b:=b}),ξ false],κ);(aM 3/\
 ∃(y1:List D),ah[3]? =some y1/\
 ∃(y2:Int),y1[0]? =some (η (φ γ y2))/\
 aM 4/\
 ∃(y3:List D),ah[4]? =some y3/\
 ∃(y4:Int),y3[0]? =some (η (φ γ y4))/\
 aM 5/\
 ∃(y5:List D),ah[5]? =some y5/\
 ∃(y6:Int),y5[0]? =some (η (φ γ y6))/\
 aM 6/\
 ∃(y7:List D),ah[6]? =some y7/\
 ∃(y8:Int),y7[0]? =some (η (φ γ y8))/\
 True/\
 (∃(y9:Int),y7[0]? =some (η (φ γ y9))/\
 True)/\
 True/\
 (∃(cO:Int),y5[0]? =some (η (φ γ cO))/\
 True)/\
 True/\
 (∃(cC:Int),y3[0]? =some (η (φ γ cC))/\
 True)/\
 True/\
 (∃(cD:Int),y1[0]? =some (η (φ γ cD))/\
 True)/\
 True/\
 At (Sv R T I Q u fr kd q0 q1 q2 q3 q4 q5 q6 q7 b ls) ([an 0 0,ζ γ fr,an 5 0,an 6 0],[cR R (ai T) (ξ true) (bb 1) (bb 2) (aO u) (ε 3 0 (nO R)) (ε 4 0 (nD R)),aj I,aj Q,rO R,rD R,cw,aw [ζ γ y2,ζ γ y4,ζ γ y6,ζ γ y8,cK]]))/\
 ∀(cM:Unit),(aM 1/\
 ∃(dC:List D),ah[1]? =some dC/\
 ∃(cX:Int),dC[0]? =some (η (φ γ cX))/\
 ((cX == R.ep)=true->
 aM 2/\
 ∃(fS:List D),ah[2]? =some fS/\
 ∃(dg:Int),fS[0]? =some (η (φ γ dg))/\
 ((dg == γ.wrap (R.nu+1))=true->
 (false=true->
 At fY ([an 0 0,ζ γ fr,an 5 0,an 6 0,ξ (kI q3 q4 q5 q6 (ints ν b).length)],κ))/\
 (false=false->
 aV))/\
 ((dg == γ.wrap (R.nu+1))=false->
 aV))/\
 ((cX == R.ep)=false->
 aV))/\
 ∀(fg:Unit),(aM 1/\
 ∃(fD:List D),ah[1]? =some fD/\
 ∃(fN:Int),fD[0]? =some (η (φ γ fN))/\
 ((fN == R.ep)=true->
 aM 2/\
 ∃(eY:List D),ah[2]? =some eY/\
 ∃(fE:Int),eY[0]? =some (η (φ γ fE))/\
 ((fE == R.nu)=true->
 aJ)/\
 ((fE == R.nu)=false->
 aJ))/\
 ((fN == R.ep)=false->
 aJ))/\
 ∀(iT:Unit),(pI R q1 q2=true->
 1<=1/\
 ∀(gm:Nat->
 Value),nO R=(nO R)/\
 bP (nO R)/\
 bP 1/\
 bw gm cf/\
 K (av []) [cR R (ai T) (ξ true) (bb 1) (bb 2) (aO u) (ε 3 0 (nO R+1)) (ε 4 0 (nD R)),aj I,aj Q,υ 107 5 (ae bR R.out++[[dn γ fr,η (φ γ 13),ω 1 [[dn γ R.id],[dn γ R.ep],[η (φ γ R.nu)]],ω 1 [],ω 1 []]]),rD R])/\
 (pI R q1 q2=false->
 ((lS R q1 q2 {cl:=q3,nm:=q4,kd:=q5,bk:=q6,b:=b}=true->
 ((q5 != 4)=true->
 At bC ([an 0 0,ζ γ fr,an 5 0,ξ true],bV))/\
 ((q5 != 4)=false->
 (∀(eT:Nat->
 Value),∃(eZ:List Int),aU ν R.c=aU ν eZ/\
 eZ.length=128/\
 (∀(eF:Int),dW eF eZ->
 0<=eF/\
 eF<256)/\
 bw eT dO/\
 aM 7/\
 ∃(iU:List D),ah[7]? =some iU/\
 ∃(jS:Int),iU[0]? =some (η (φ γ jS))/\
 At bC ([an 0 0,ζ γ fr,an 5 0,ξ (γ.wrap (dN eZ) == jS)],[cS R (ζ γ R.nu) (bD 128 (aU ν eZ)) (ξ R.ch) (ai T) (ξ true) (bb 1) (bb 2) (aO u) (ε 3 0 (nO R)) (ε 4 0 (nD R)),aj I,aj Q,rO R,rD R,az]))/\
 aM 7/\
 ∃(iq:List D),ah[7]? =some iq/\
 ∃(ft:Int),iq[0]? =some (η (φ γ ft))/\
 ∀(jT:Nat->
 Value),∃(km:List Int),aU ν R.c=aU ν km/\
 km.length=128/\
 (∀(jU:Int),dW jU km->
 0<=jU/\
 jU<256)/\
 bw jT dO/\
 (∃(kL:Int),iq[0]? =some (η (φ γ kL))/\
 kS kL ft)/\
 At bC ([an 0 0,ζ γ fr,an 5 0,ξ (γ.wrap (dN km) == ft)],[cS R (ζ γ R.nu) (bD 128 (aU ν km)) (ξ R.ch) (ai T) (ξ true) (bb 1) (bb 2) (aO u) (ε 3 0 (nO R)) (ε 4 0 (nD R)),aj I,aj Q,rO R,rD R,az])))/\
 (lS R q1 q2 {cl:=q3,nm:=q4,kd:=q5,bk:=q6,b:=b}=false->
 At bC ([an 0 0,ζ γ fr,an 5 0,ξ false],bV)))/\
 ∀(oh:Unit),(ib R q1 q2 q7 {cl:=q3,nm:=q4,kd:=q5,bk:=q6,b:=b}=true->
 ∀(mQ:Nat->
 Value),∃(kM:List Int),∃(oo:List Int),let fT:=(bD 128 (aU ν (fj kM q5 q6 oo)));let aL:=K (av []) [cS R (ζ γ (R.nu+1)) fT (ξ true) (ai T) (ξ true) (bb 1) (bb 2) (aO u) (ε 3 0 (nO R+1)) (ε 4 0 (nD R)),aj I,aj Q,bp,rD R];∃(mR:List L3),iJ (aU ν R.c) kM/\
 ints ν b=ints ν oo/\
 bG T mR/\
 qP R.nu/\
 vd q3 q4 q5 q6 oo.length/\
 (zP q5->
 bw mQ bW/\
 1<=1/\
 ∀(o4:Nat->
 Value),nO R=(nO R)/\
 bP (nO R)/\
 bP 1/\
 bw o4 cf/\
 aL)/\
 (zB q5->
 (mr (cW mR q3 q4 0)->
 bw mQ bW/\
 1<=1/\
 ∀(sf:Nat->
 Value),nO R=(nO R)/\
 bP (nO R)/\
 bP 1/\
 bw sf cf/\
 aL)/\
 (mj (cW mR q3 q4 0)->
 bw mQ bW/\
 1<=1/\
 ∀(qJ:Nat->
 Value),nO R=(nO R)/\
 bP (nO R)/\
 bP 1/\
 bw qJ cf/\
 K (av []) [cS R (ζ γ (R.nu+1)) fT (ξ true) (ai (bL T [q3] [dn γ q4,η (φ γ 0)])) (ξ true) (bb 1) (bb 2) (aO u) (ε 3 0 (nO R+1)) (ε 4 0 (nD R)),aj I,aj Q,bp,rD R])))/\
 (ib R q1 q2 q7 {cl:=q3,nm:=q4,kd:=q5,bk:=q6,b:=b}=false->
 ∀(sg:Nat->
 Value),nO R=(nO R)/\
 bP (nO R)/\
 bw sg [0,2,3,7,8,9,10,11,12,13,14,15,16,17,18,19,21]/\
 K (av []) [cR R (ai T) (ξ true) (bb 1) (bb 2) (aO u) (ε 3 0 (nO R+1)) (ε 4 0 (nD R)),aj I,aj Q,υ 107 5 (ae bR R.out++[[dn γ fr,η (φ γ 14),ω 1 [[dn γ R.id],[dn γ R.ep],[dn γ R.nu]],ω 1 [],ω 1 []]]),rD R]))
 ):aK Tryz.prog jI (SK R T I Q u fr kd q0 q1 q2 q3 q4 q5 q6 q7 b ls) 89 [an 0 0,.int γ fr,.agg [.int γ kd,aH (.sl 1 [[dn γ q0],[dn γ q1],[dn γ q2],[dn γ q3],[dn γ q4],[dn γ q5],[dn γ q6],[dn γ q7]]),aH (.sl 1 (ints ν b)),aH (.sl 1 (cm ls))]] [cR R (ai T) (ξ true) (.mp 1) (.mp 2) (.af u) (.sl 3 0 (nO R)) (.sl 4 0 (nD R)),aj I,aj Q,rO R,rD R] (gz 13 eO K):=by apply Eq.mp (a:=ar);kernel_rfl
theorem yK {R:θ} {q1 q2:Int} {o:Op} (h:¬ (q1=R.ep/\q2=R.nu+1/\eL R=false)):lS R q1 q2 o=false:=by
 unfold lS;exact decide_eq_false fun⟨a,b,c,_⟩=>h ⟨a,b,c⟩
theorem ade {R:θ} {q1 q2:Int} {o:Op} (h1:q1=R.ep) (h2:q2=R.nu+1) (h3:eL R=false):lS R q1 q2 o=gO o:=by
 unfold lS;simp [h1,h2,h3]
theorem yL {R:θ} {q1 q2:Int} (h:¬ (q1=R.ep/\q2=R.nu/\eL R=false)):pI R q1 q2=false:=decide_eq_false h
theorem adn {R:θ} {q1 q2:Int} (h1:q1=R.ep) (h2:q2=R.nu) (h3:eL R=false):pI R q1 q2=true:=decide_eq_true ⟨h1,h2,h3⟩
theorem SJ {R:θ} {fr kd q0 q1 q2 q3 q4 q5 q6 q7:Int} {b:List Int} {ls:List (List Int)} (h:pI R q1 q2=true):iG R fr ⟨kd,[q0,q1,q2,q3,q4,q5,q6,q7],b,ls⟩=il R fr 13 [R.nu] [] []:=by
 unfold iG;exact if_pos (of_decide_eq_true h)
theorem Jr {R:θ} {q1 q2 q3 q4 q5 q6 q7:Int} {b:List Int}:ib R q1 q2 q7 ⟨q3,q4,q5,q6,b⟩=true ↔ (q1=R.ep/\q2=R.nu+1/\eL R=false/\gO ⟨q3,q4,q5,q6,b⟩=true/\(q5≠4∨dN R.c=q7)):=by
 unfold ib lS
 simp [and_assoc]
theorem Js {R:θ} {fr kd q0 q1 q2 q3 q4 q5 q6 q7:Int} {b:List Int} {ls:List (List Int)} (h:pI R q1 q2=false) (h2:ib R q1 q2 q7 ⟨q3,q4,q5,q6,b⟩=true):iG R fr ⟨kd,[q0,q1,q2,q3,q4,q5,q6,q7],b,ls⟩=il (ir R ⟨q3,q4,q5,q6,b⟩) fr 13 [R.nu+1] [] []:=by
 unfold iG
 exact(if_neg (of_decide_eq_false h)).trans (if_pos (Jr.1 h2))
theorem SI {R:θ} {fr kd q0 q1 q2 q3 q4 q5 q6 q7:Int} {b:List Int} {ls:List (List Int)} (h:pI R q1 q2=false) (h2:ib R q1 q2 q7 ⟨q3,q4,q5,q6,b⟩=false):iG R fr ⟨kd,[q0,q1,q2,q3,q4,q5,q6,q7],b,ls⟩=nT R fr:=by
 unfold iG
 exact(if_neg (of_decide_eq_false h)).trans (if_neg (fun hh=>by have h3:ib R q1 q2 q7 ⟨q3,q4,q5,q6,b⟩=true:=Jr.2 hh;rw[h2]at h3;cases h3))
theorem Ge {t:List L3} {o:Op} (h:jw o=false∨cW t o.cl o.nm 0≠0):mA t o=t:=by
 unfold mA
 rw[if_neg]
 rintro⟨h1,h2⟩
 rcases h with h | h
 ·rw[h]at h1;cases h1
 ·exact h h2
theorem Oa {t:List L3} {o:Op} (h:jw o=true) (h2:cW t o.cl o.nm 0=0):mA t o=oS t o.cl o.nm 0:=by
 unfold mA
 rw[if_pos ⟨h,h2⟩]
theorem adt (R:θ) (T:ML) (ο π:Value) (fr kd q0 q1 q2 q3 q4 q5 q6 q7:Int) (b:List Int) (ls:List (List Int)) (hT:bG T R.t) (hl:R.ld=none) (hR:dz R) (eK:∀ ο π,aB R [cR R (ai T) (ξ false) (δ ο) (δ π) (.af none) (.sl 1 0 (nO R)) (.sl 2 0 (nD R)),rO R,rD R]) (K:V->KB->Prop) (hK:∀ kb',aB (iG R fr ⟨kd,[q0,q1,q2,q3,q4,q5,q6,q7],b,ls⟩) kb'->K (.χ []) kb'):aK Tryz.prog jI (SL R T ο π fr kd q0 q1 q2 q3 q4 q5 q6 q7 b ls) 89 [an 0 0,.int γ fr,.agg [.int γ kd,aH (.sl 1 [[dn γ q0],[dn γ q1],[dn γ q2],[dn γ q3],[dn γ q4],[dn γ q5],[dn γ q6],[dn γ q7]]),aH (.sl 1 (ints ν b)),aH (.sl 1 (cm ls))]] [cR R (ai T) (ξ false) (δ ο) (δ π) (.af none) (.sl 1 0 (nO R)) (.sl 2 0 (nD R)),rO R,rD R] (gz 13 eO K):=by
 have fin:∀{R':θ} {kb':KB},iG R fr ⟨kd,[q0,q1,q2,q3,q4,q5,q6,q7],b,ls⟩=R'->aB R' kb'->K (.χ []) kb':=fun{R' kb'} h1 h2=>by
  have:=hK kb'
  rw[h1]at this
  exact this h2
 have mX:iJ (aU ν R.c) R.c:=⟨rfl,hR.cl,hR.cb⟩
 have fz:nO R<=1000000:=by show(ae bR R.out).length<=_;rw[cp];have:=hR.ol;omega
 have kc:qP R.nu:=⟨hR.n0,by have:=hR.n1;omega⟩
 have ew:γ.wrap (R.nu+1)=R.nu+1:=bS (by have:=kc.lo;omega) (by have:=kc.hi;omega)
 have Px:=xM R.c
 have ec:γ.wrap (dN R.c)=dN R.c:=bS (by omega) (by omega)
 have m8:eL R=false:=by simp [eL,hl]
 exact ahd R T ο π fr kd q0 q1 q2 q3 q4 q5 q6 q7 b ls K ⟨⟨(by decide:(0:Int)<=3),_,rfl,q3,rfl,(by decide:(0:Int)<=4),_,rfl,q4,rfl,(by decide:(0:Int)<=5),_,rfl,q5,rfl,(by decide:(0:Int)<=6),_,rfl,q6,rfl,trivial,⟨q6,rfl,trivial⟩,trivial,⟨q5,rfl,trivial⟩,trivial,⟨q4,rfl,trivial⟩,trivial,⟨q3,rfl,trivial⟩,trivial,At.mk' () rfl⟩,
  fun _=>⟨⟨(by decide:(0:Int)<=1),_,rfl,q1,rfl,fun e1=>⟨(by decide:(0:Int)<=2),_,rfl,q2,rfl,fun e2=>⟨fun _=>At.mk' () (by simp only[ade (o:=⟨q3,q4,q5,q6,b⟩) (show q1=R.ep by simpa using e1) (show q2=R.nu+1 by simpa [ew]using e2) m8,gO,bh]),fun f=>(by cases f)⟩,fun e2=>At.mk' () (by simp only[yK (o:=⟨q3,q4,q5,q6,b⟩) (fun h=>absurd h.2.1 (show ¬ q2=R.nu+1 by simpa [ew]using e2))])⟩,fun e1=>At.mk' () (by simp only[yK (o:=⟨q3,q4,q5,q6,b⟩) (q2:=q2) (fun h=>absurd h.1 (show ¬ q1=R.ep by simpa using e1))])⟩,
  fun _=>⟨⟨(by decide:(0:Int)<=1),_,rfl,q1,rfl,fun e1=>⟨(by decide:(0:Int)<=2),_,rfl,q2,rfl,fun e2=>At.mk' () (by simp only[adn (show q1=R.ep by simpa using e1) (show q2=R.nu by simpa using e2) m8]),fun e2=>At.mk' () (by simp only[yL (q1:=q1) (fun h=>absurd h.2.1 (show ¬ q2=R.nu by simpa using e2))])⟩,fun e1=>At.mk' () (by simp only[yL (q2:=q2) (fun h=>absurd h.1 (show ¬ q1=R.ep by simpa using e1))])⟩,
  fun _=>⟨fun hs=>⟨au _,fun f=>⟨rfl,⟨fz⟩,⟨by decide⟩,⟨by simp [bQ]⟩,fun f=>fin (SJ hs) (by
  unfold aB il
  simp only[hl]
  refine⟨f 14,f 15,T,hT,?_⟩
  simp [cR,cS,bR,jo,fW,dn,ints,oL,ir]
  try rfl)⟩⟩,fun hs=>⟨⟨fun hn=>⟨fun e=>At.mk' () (by simp only[show ib R q1 q2 q7 ⟨q3,q4,q5,q6,b⟩=true by simp only[ib,hn,e,Bool.true_and,Bool.true_or]]),fun e=>⟨fun f=>⟨R.c,rfl,hR.cl,hR.cb,⟨by simp [bQ]⟩,(by decide:(0:Int)<=7),_,rfl,q7,rfl,At.mk' () (by simp only[ec,show ib R q1 q2 q7 ⟨q3,q4,q5,q6,b⟩=(dN R.c == q7) by simp only[ib,hn,e,Bool.true_and,Bool.false_or]];try rfl)⟩,(by decide:(0:Int)<=7),_,rfl,q7,rfl,fun f=>⟨R.c,rfl,hR.cl,hR.cb,⟨by simp [bQ]⟩,⟨q7,rfl,⟨rfl⟩⟩,At.mk' () (by simp only[ec,show ib R q1 q2 q7 ⟨q3,q4,q5,q6,b⟩=(dN R.c == q7) by simp only[ib,hn,e,Bool.true_and,Bool.false_or]];try rfl)⟩⟩⟩,fun hn=>At.mk' () (by simp only[show ib R q1 q2 q7 ⟨q3,q4,q5,q6,b⟩=false by simp only[ib,hn,Bool.false_and]])⟩,
  fun _=>⟨fun hg=>fun f=>⟨R.c,b,R.t,mX,rfl,hT,kc,⟨(Jr.1 hg).2.2.2.1⟩,fun hc=>⟨⟨by simp [bQ]⟩,⟨au _,fun f=>⟨rfl,⟨fz⟩,⟨by decide⟩,⟨by simp [bQ]⟩,fun f=>fin (Js hs hg) (by
  unfold aB il ir
  simp only[hl,Ge (t:=R.t) (o:=⟨q3,q4,q5,q6,b⟩) (.inl hc.h)]
  refine⟨f 14,f 15,T,hT,?_⟩
  simp [cR,cS,bR,jo,fW,dn,ints,oL,ir]
  try rfl)⟩⟩⟩,fun hc=>⟨fun hz=>⟨⟨by simp [bQ]⟩,⟨au _,fun f=>⟨rfl,⟨fz⟩,⟨by decide⟩,⟨by simp [bQ]⟩,fun f=>fin (Js hs hg) (by
  unfold aB il ir
  simp only[hl,Ge (t:=R.t) (o:=⟨q3,q4,q5,q6,b⟩) (.inr hz.h)]
  refine⟨f 14,f 15,T,hT,?_⟩
  simp [cR,cS,bR,jo,fW,dn,ints,oL,ir]
  try rfl)⟩⟩⟩,fun hz=>⟨⟨by simp [bQ]⟩,⟨au _,fun f=>⟨rfl,⟨fz⟩,⟨by decide⟩,⟨by simp [bQ]⟩,fun f=>fin (Js hs hg) (by
  unfold aB il ir
  simp only[hl,Oa (t:=R.t) (o:=⟨q3,q4,q5,q6,b⟩) hc.h hz.h]
  refine⟨f 14,f 15,_,Dy hT hz.h,?_⟩
  simp [cR,cS,bR,jo,fW,dn,ints,oL,ir]
  try rfl)⟩⟩⟩⟩⟩,fun hg=>fun f=>⟨rfl,⟨fz⟩,⟨by simp [bQ]⟩,fun f=>fin (SI hs hg) (by
  unfold aB nT il
  simp only[hl]
  refine⟨f 14,f 15,T,hT,?_⟩
  simp [cR,bR,jo,fW,dn,ints,oL])⟩⟩⟩⟩⟩⟩⟩
theorem adr (R:θ) (T:ML) (I Q:ML) (L:bX) (fr kd q0 q1 q2 q3 q4 q5 q6 q7:Int) (b:List Int) (ls:List (List Int)) (hT:bG T R.t) (hl:R.ld=some L) (hI:MB I L.ins) (hQ:MB Q L.cy) (hR:dz R) (hkb:aB R [cR R (ai T) (ξ true) (.mp 1) (.mp 2) (.af (L.cur.map bn)) (.sl 3 0 (nO R)) (.sl 4 0 (nD R)),aj I,aj Q,rO R,rD R]) (K:V->KB->Prop) (hK:∀ kb',aB (iG R fr ⟨kd,[q0,q1,q2,q3,q4,q5,q6,q7],b,ls⟩) kb'->K (.χ []) kb'):aK Tryz.prog jI (SK R T I Q (L.cur.map bn) fr kd q0 q1 q2 q3 q4 q5 q6 q7 b ls) 89 [an 0 0,.int γ fr,.agg [.int γ kd,aH (.sl 1 [[dn γ q0],[dn γ q1],[dn γ q2],[dn γ q3],[dn γ q4],[dn γ q5],[dn γ q6],[dn γ q7]]),aH (.sl 1 (ints ν b)),aH (.sl 1 (cm ls))]] [cR R (ai T) (ξ true) (.mp 1) (.mp 2) (.af (L.cur.map bn)) (.sl 3 0 (nO R)) (.sl 4 0 (nD R)),aj I,aj Q,rO R,rD R] (gz 13 eO K):=by
 have fin:∀{R':θ} {kb':KB},iG R fr ⟨kd,[q0,q1,q2,q3,q4,q5,q6,q7],b,ls⟩=R'->aB R' kb'->K (.χ []) kb':=fun{R' kb'} h1 h2=>by
  have:=hK kb'
  rw[h1]at this
  exact this h2
 have mX:iJ (aU ν R.c) R.c:=⟨rfl,hR.cl,hR.cb⟩
 have fz:nO R<=1000000:=by show(ae bR R.out).length<=_;rw[cp];have:=hR.ol;omega
 have kc:qP R.nu:=⟨hR.n0,by have:=hR.n1;omega⟩
 have ew:γ.wrap (R.nu+1)=R.nu+1:=bS (by have:=kc.lo;omega) (by have:=kc.hi;omega)
 have Px:=xM R.c
 have ec:γ.wrap (dN R.c)=dN R.c:=bS (by omega) (by omega)
 have m8:eL R=true:=by simp [eL,hl]
 exact ahc R T I Q (L.cur.map bn) fr kd q0 q1 q2 q3 q4 q5 q6 q7 b ls K ⟨⟨(by decide:(0:Int)<=3),_,rfl,q3,rfl,(by decide:(0:Int)<=4),_,rfl,q4,rfl,(by decide:(0:Int)<=5),_,rfl,q5,rfl,(by decide:(0:Int)<=6),_,rfl,q6,rfl,trivial,⟨q6,rfl,trivial⟩,trivial,⟨q5,rfl,trivial⟩,trivial,⟨q4,rfl,trivial⟩,trivial,⟨q3,rfl,trivial⟩,trivial,At.mk' () rfl⟩,
  fun _=>⟨⟨(by decide:(0:Int)<=1),_,rfl,q1,rfl,fun e1=>⟨(by decide:(0:Int)<=2),_,rfl,q2,rfl,fun e2=>⟨fun f=>(by cases f),fun _=>At.mk' () (by simp only[yK (R:=R) (q1:=q1) (q2:=q2) (o:=⟨q3,q4,q5,q6,b⟩) (fun h=>absurd h.2.2 (by rw[m8];decide))])⟩,fun e2=>At.mk' () (by simp only[yK (o:=⟨q3,q4,q5,q6,b⟩) (fun h=>absurd h.2.1 (show ¬ q2=R.nu+1 by simpa [ew]using e2))])⟩,fun e1=>At.mk' () (by simp only[yK (o:=⟨q3,q4,q5,q6,b⟩) (q2:=q2) (fun h=>absurd h.1 (show ¬ q1=R.ep by simpa using e1))])⟩,
  fun _=>⟨⟨(by decide:(0:Int)<=1),_,rfl,q1,rfl,fun e1=>⟨(by decide:(0:Int)<=2),_,rfl,q2,rfl,fun e2=>At.mk' () (by simp only[yL (R:=R) (q1:=q1) (q2:=q2) (fun h=>absurd h.2.2 (by rw[m8];decide))]),fun e2=>At.mk' () (by simp only[yL (q1:=q1) (fun h=>absurd h.2.1 (show ¬ q2=R.nu by simpa using e2))])⟩,fun e1=>At.mk' () (by simp only[yL (q2:=q2) (fun h=>absurd h.1 (show ¬ q1=R.ep by simpa using e1))])⟩,
  fun _=>⟨fun hs=>⟨au _,fun f=>⟨rfl,⟨fz⟩,⟨by decide⟩,⟨by simp [bQ]⟩,fin (SJ hs) (by
  unfold aB il
  simp only[hl]
  refine⟨I,Q,T,hI,hQ,hT,?_⟩
  simp [cR,cS,bR,jo,fW,dn,ints,oL,ir]
  try rfl)⟩⟩,fun hs=>⟨⟨fun hn=>⟨fun e=>At.mk' () (by simp only[show ib R q1 q2 q7 ⟨q3,q4,q5,q6,b⟩=true by simp only[ib,hn,e,Bool.true_and,Bool.true_or]]),fun e=>⟨fun f=>⟨R.c,rfl,hR.cl,hR.cb,⟨by simp [bQ]⟩,(by decide:(0:Int)<=7),_,rfl,q7,rfl,At.mk' () (by simp only[ec,show ib R q1 q2 q7 ⟨q3,q4,q5,q6,b⟩=(dN R.c == q7) by simp only[ib,hn,e,Bool.true_and,Bool.false_or]];try rfl)⟩,(by decide:(0:Int)<=7),_,rfl,q7,rfl,fun f=>⟨R.c,rfl,hR.cl,hR.cb,⟨by simp [bQ]⟩,⟨q7,rfl,⟨rfl⟩⟩,At.mk' () (by simp only[ec,show ib R q1 q2 q7 ⟨q3,q4,q5,q6,b⟩=(dN R.c == q7) by simp only[ib,hn,e,Bool.true_and,Bool.false_or]];try rfl)⟩⟩⟩,fun hn=>At.mk' () (by simp only[show ib R q1 q2 q7 ⟨q3,q4,q5,q6,b⟩=false by simp only[ib,hn,Bool.false_and]])⟩,
  fun _=>⟨fun hg=>absurd hg (by simp [ib,lS,m8]),fun hg=>fun f=>⟨rfl,⟨fz⟩,⟨by simp [bQ]⟩,fin (SI hs hg) (by
  unfold aB nT il
  simp only[hl]
  refine⟨I,Q,T,hI,hQ,hT,?_⟩
  simp [cR,bR,jo,fW,dn,ints,oL])⟩⟩⟩⟩⟩⟩⟩
def Wj:aD:=fun args kb K=>∃ R fr kd q0 q1 q2 q3 q4 q5 q6 q7 b ls,args=[an 0 0,.int γ fr,.agg [.int γ kd,aH (.sl 1 [[dn γ q0],[dn γ q1],[dn γ q2],[dn γ q3],[dn γ q4],[dn γ q5],[dn γ q6],[dn γ q7]]),aH (.sl 1 (ints ν b)),aH (.sl 1 (cm ls))]]/\aB R kb/\dz R/\∀ kb',aB (iG R fr ⟨kd,[q0,q1,q2,q3,q4,q5,q6,q7],b,ls⟩) kb'->K (.χ []) kb'
theorem acq:gq Tryz.prog 89 Wj:=ur mixed 13 eO (fun args kb K h=>by
 obtain⟨R,fr,kd,q0,q1,q2,q3,q4,q5,q6,q7,b,ls,rfl,hkb,hR,hK⟩:=h
 have i_:=hkb
 unfold aB at hkb
 split at hkb
 ·rename_i hl
  obtain⟨ο,π,T,hT,rfl⟩:=hkb
  exact⟨_,_,pT,adt R T ο π fr kd q0 q1 q2 q3 q4 q5 q6 q7 b ls hT hl hR (fun a b=>by unfold aB;simp only[hl];exact⟨a,b,T,hT,rfl⟩) K hK⟩
 ·rename_i L hl
  obtain⟨I,Q,T,hI,hQ,hT,rfl⟩:=hkb
  exact⟨_,_,pT,adr R T I Q L fr kd q0 q1 q2 q3 q4 q5 q6 q7 b ls hT hl hI hQ hR i_ K hK⟩)
structure gH (R:θ) (kb:KB):Prop where
 h:aB R kb
structure oC (R:θ):Prop where
 h:dz R
structure EU (R:θ) (b:List Int) (ls:List (List Int)):Prop where
 ok:dz R
 XI:bm b
 l:b.length<=900000
 ls:∀ y∈ls,bm y/\y.length<=140737488355328
def LP:aD:=fun args kb K=>∃ R fr kd q0 q1 q2 b ls,args=[an 0 0,.int γ fr,.agg [.int γ kd,aH (.sl 1 [[dn γ q0],[dn γ q1],[dn γ q2]]),aH (.sl 1 (ints ν b)),aH (.sl 1 (cm ls))]]/\gH R kb/\EU R b ls/\∀ kb',gH (iH R fr ⟨kd,[q0,q1,q2],b,ls⟩) kb'->K (.χ []) kb'
theorem ab8:gq Tryz.prog 87 LP:=fun args kb K h=>acY args kb K (by
 obtain⟨R,fr,kd,q0,q1,q2,b,ls,rfl,hkb,hO,hK⟩:=h
 exact⟨R,fr,kd,q0,q1,q2,b,ls,rfl,hkb.h,hO.ok,hO.XI,hO.l,hO.ls,fun kb' hk=>hK kb' ⟨hk⟩⟩)
def LQ:aD:=fun args kb K=>∃ R fr kd q0 q1 q2 b ls,args=[an 0 0,.int γ fr,.agg [.int γ kd,aH (.sl 1 [[dn γ q0],[dn γ q1],[dn γ q2]]),aH (.sl 1 (ints ν b)),aH (.sl 1 (cm ls))]]/\gH R kb/\oC R/\∀ kb',gH (im R fr ⟨kd,[q0,q1,q2],b,ls⟩) kb'->K (.χ []) kb'
theorem ab9:gq Tryz.prog 88 LQ:=fun args kb K h=>acZ args kb K (by
 obtain⟨R,fr,kd,q0,q1,q2,b,ls,rfl,hkb,hO,hK⟩:=h
 exact⟨R,fr,kd,q0,q1,q2,b,ls,rfl,hkb.h,hO.h,fun kb' hk=>hK kb' ⟨hk⟩⟩)
def LM:aD:=fun args kb K=>∃ R fr kd q0 q1 q2 q3 q4 q5 q6 q7 b ls,args=[an 0 0,.int γ fr,.agg [.int γ kd,aH (.sl 1 [[dn γ q0],[dn γ q1],[dn γ q2],[dn γ q3],[dn γ q4],[dn γ q5],[dn γ q6],[dn γ q7]]),aH (.sl 1 (ints ν b)),aH (.sl 1 (cm ls))]]/\gH R kb/\oC R/\∀ kb',gH (iG R fr ⟨kd,[q0,q1,q2,q3,q4,q5,q6,q7],b,ls⟩) kb'->K (.χ []) kb'
theorem ab5:gq Tryz.prog 89 LM:=fun args kb K h=>acq args kb K (by
 obtain⟨R,fr,kd,q0,q1,q2,q3,q4,q5,q6,q7,b,ls,rfl,hkb,hO,hK⟩:=h
 exact⟨R,fr,kd,q0,q1,q2,q3,q4,q5,q6,q7,b,ls,rfl,hkb.h,hO.h,fun kb' hk=>hK kb' ⟨hk⟩⟩)
def LN:aD:=fun args kb K=>∃ R fr kd q0 q1 q2 b ls,args=[an 0 0,.int γ fr,.agg [.int γ kd,aH (.sl 1 [[dn γ q0],[dn γ q1],[dn γ q2]]),aH (.sl 1 (ints ν b)),aH (.sl 1 (cm ls))]]/\gH R kb/\oC R/\∀ kb',gH (ic R fr ⟨kd,[q0,q1,q2],b,ls⟩) kb'->K (.χ []) kb'
theorem ab6:gq Tryz.prog 90 LN:=fun args kb K h=>acr args kb K (by
 obtain⟨R,fr,kd,q0,q1,q2,b,ls,rfl,hkb,hO,hK⟩:=h
 exact⟨R,fr,kd,q0,q1,q2,b,ls,rfl,hkb.h,hO.h,fun kb' hk=>hK kb' ⟨hk⟩⟩)
def LO:aD:=fun args kb K=>∃ R fr kd q0 q1 q2 b ls,args=[an 0 0,.int γ fr,.agg [.int γ kd,aH (.sl 1 [[dn γ q0],[dn γ q1],[dn γ q2]]),aH (.sl 1 (ints ν b)),aH (.sl 1 (cm ls))]]/\gH R kb/\oC R/\∀ kb',gH (ij R fr ⟨kd,[q0,q1,q2],b,ls⟩) kb'->K (.χ []) kb'
theorem ab7:gq Tryz.prog 91 LO:=fun args kb K h=>acP args kb K (by
 obtain⟨R,fr,kd,q0,q1,q2,b,ls,rfl,hkb,hO,hK⟩:=h
 exact⟨R,fr,kd,q0,q1,q2,b,ls,rfl,hkb.h,hO.h,fun kb' hk=>hK kb' ⟨hk⟩⟩)
def Hz:FuncId->Option dK
 | 87=>some ⟨[.tail],LP⟩
 | 88=>some ⟨[.tail],LQ⟩
 | 89=>some ⟨[.tail],LM⟩
 | 90=>some ⟨[.tail],LN⟩
 | 91=>some ⟨[.tail],LO⟩
 | 70=>some ⟨[],z7⟩
 |_=>none
noncomputable def xn:bN:=dU Tryz.prog Hz aI 10
theorem agQ (R:θ) (T:ML) (ο π:Value) (fr:Int) (m:dI) (K:V->KB->Prop) (ar:
 let aV:=[η (φ γ 3)];let az:KB:=[cR R (ai T) (ξ false) (δ ο) (δ π) (aO none) (ε 1 0 (nO R)) (ε 2 0 (nD R)),rO R,rD R];let ah:=[an 0 0,ζ γ fr,fw [ζ γ m.kd,aH (ω 1 (ints γ m.n)),aH (ω 1 (ints ν m.b)),aH (ω 1 (cm m.l))]];let κ:=(bL (bL (bL (bL (bL [] [10] aV) [11] aV) [12] [η (φ γ 8)]) [13] aV) [14] aV);let aJ:=((↑(ints γ m.n).length:Int) == eu κ [m.kd] 0)=true;let aL:=((↑(ints γ m.n).length:Int) == eu κ [m.kd] 0)=false;([m.kd]=[10]->
 (∀(y1:List D),bK κ [m.kd]=some y1->
 gQ [CK.int γ] y1)/\
 (aJ->
 aM 0/\
 ∃(y2:List D),(ints γ m.n)[0]? =some y2/\
 ∃(y3:Int),y2[0]? =some (η (φ γ y3))/\
 ((y3 == R.id)=true->
 ((fr != R.me)=true->
 ∃(y4:List Int),ints γ m.n=ints γ y4/\
 dH y4.length/\
 ((!y4.any cI)=true->
 ∃(y5:θ),∃(y6:Int),∃(y7:Int),∃(y8:Int),∃(y9:Int),∃(cO:Int),∃(cC:List Int),∃(cD:List (List Int)),ah=[an 0 0,ζ γ y6,fw [ζ γ y7,aH (ω 1 [[dn γ y8],[dn γ y9],[dn γ cO]]),aH (ω 1 (ints ν cC)),aH (ω 1 (cm cD))]]/\
 gH y5 az/\
 EU y5 cC cD/\
 ∀(cM:KB),gH (iH y5 y6 {kd:=y7,n:=[y8,y9,cO],b:=cC,l:=cD}) cM->
 gw cM=true->
 ∀(dC:List Re),gw (dC,cM).snd=true/\
 K (av []) cM)/\
 ((!y4.any cI)=false->
 ∀(cX:Nat->
 Value),K (av []) [cR R (ai T) (ξ false) (δ (cX 14)) (δ (cX 15)) (aO none) (ε 1 0 (nO R)) (ε 2 0 (nD R)),rO R,rD R]))/\
 ((fr != R.me)=false->
 ∀(fS:Nat->
 Value),K (av []) [cR R (ai T) (ξ false) (δ (fS 14)) (δ (fS 15)) (aO none) (ε 1 0 (nO R)) (ε 2 0 (nD R)),rO R,rD R]))/\
 ((y3 == R.id)=false->
 ∀(dg:Nat->
 Value),K (av []) [cR R (ai T) (ξ false) (δ (dg 14)) (δ (dg 15)) (aO none) (ε 1 0 (nO R)) (ε 2 0 (nD R)),rO R,rD R]))/\
 (aL->
 ∀(fg:Nat->
 Value),K (av []) [cR R (ai T) (ξ false) (δ (fg 14)) (δ (fg 15)) (aO none) (ε 1 0 (nO R)) (ε 2 0 (nD R)),rO R,rD R]))/\
 (([m.kd]=[10]->
 False)->
 ([m.kd]=[11]->
 (∀(fD:List D),bK κ [m.kd]=some fD->
 gQ [CK.int γ] fD)/\
 (aJ->
 aM 0/\
 ∃(fN:List D),(ints γ m.n)[0]? =some fN/\
 ∃(eY:Int),fN[0]? =some (η (φ γ eY))/\
 ((eY == R.id)=true->
 ((fr != R.me)=true->
 ∃(fE:List Int),ints γ m.n=ints γ fE/\
 dH fE.length/\
 ((!fE.any cI)=true->
 ∃(iT:θ),∃(gm:Int),∃(eT:Int),∃(eZ:Int),∃(eF:Int),∃(iU:Int),∃(jS:List Int),∃(iq:List (List Int)),ah=[an 0 0,ζ γ gm,fw [ζ γ eT,aH (ω 1 [[dn γ eZ],[dn γ eF],[dn γ iU]]),aH (ω 1 (ints ν jS)),aH (ω 1 (cm iq))]]/\
 gH iT az/\
 oC iT/\
 ∀(ft:KB),gH (im iT gm {kd:=eT,n:=[eZ,eF,iU],b:=jS,l:=iq}) ft->
 gw ft=true->
 ∀(jT:List Re),gw (jT,ft).snd=true/\
 K (av []) ft)/\
 ((!fE.any cI)=false->
 ∀(km:Nat->
 Value),K (av []) [cR R (ai T) (ξ false) (δ (km 14)) (δ (km 15)) (aO none) (ε 1 0 (nO R)) (ε 2 0 (nD R)),rO R,rD R]))/\
 ((fr != R.me)=false->
 ∀(jU:Nat->
 Value),K (av []) [cR R (ai T) (ξ false) (δ (jU 14)) (δ (jU 15)) (aO none) (ε 1 0 (nO R)) (ε 2 0 (nD R)),rO R,rD R]))/\
 ((eY == R.id)=false->
 ∀(kL:Nat->
 Value),K (av []) [cR R (ai T) (ξ false) (δ (kL 14)) (δ (kL 15)) (aO none) (ε 1 0 (nO R)) (ε 2 0 (nD R)),rO R,rD R]))/\
 (aL->
 ∀(oh:Nat->
 Value),K (av []) [cR R (ai T) (ξ false) (δ (oh 14)) (δ (oh 15)) (aO none) (ε 1 0 (nO R)) (ε 2 0 (nD R)),rO R,rD R]))/\
 (([m.kd]=[11]->
 False)->
 ([m.kd]=[12]->
 (∀(mQ:List D),bK κ [m.kd]=some mQ->
 gQ [CK.int γ] mQ)/\
 (aJ->
 aM 0/\
 ∃(kM:List D),(ints γ m.n)[0]? =some kM/\
 ∃(oo:Int),kM[0]? =some (η (φ γ oo))/\
 ((oo == R.id)=true->
 ((fr != R.me)=true->
 ∃(mR:List Int),ints γ m.n=ints γ mR/\
 dH mR.length/\
 ((!mR.any cI)=true->
 ∃(o4:θ),∃(sf:Int),∃(qJ:Int),∃(sg:Int),∃(tu:Int),∃(si:Int),∃(uO:Int),∃(uP:Int),∃(tv:Int),∃(wM:Int),∃(uQ:Int),∃(wN:List Int),∃(zm:List (List Int)),ah=[an 0 0,ζ γ sf,fw [ζ γ qJ,aH (ω 1 [[dn γ sg],[dn γ tu],[dn γ si],[dn γ uO],[dn γ uP],[dn γ tv],[dn γ wM],[dn γ uQ]]),aH (ω 1 (ints ν wN)),aH (ω 1 (cm zm))]]/\
 gH o4 az/\
 oC o4/\
 ∀(uR:KB),gH (iG o4 sf {kd:=qJ,n:=[sg,tu,si,uO,uP,tv,wM,uQ],b:=wN,l:=zm}) uR->
 gw uR=true->
 ∀(DS:List Re),gw (DS,uR).snd=true/\
 K (av []) uR)/\
 ((!mR.any cI)=false->
 ∀(zn:Nat->
 Value),K (av []) [cR R (ai T) (ξ false) (δ (zn 14)) (δ (zn 15)) (aO none) (ε 1 0 (nO R)) (ε 2 0 (nD R)),rO R,rD R]))/\
 ((fr != R.me)=false->
 ∀(zo:Nat->
 Value),K (av []) [cR R (ai T) (ξ false) (δ (zo 14)) (δ (zo 15)) (aO none) (ε 1 0 (nO R)) (ε 2 0 (nD R)),rO R,rD R]))/\
 ((oo == R.id)=false->
 ∀(zp:Nat->
 Value),K (av []) [cR R (ai T) (ξ false) (δ (zp 14)) (δ (zp 15)) (aO none) (ε 1 0 (nO R)) (ε 2 0 (nD R)),rO R,rD R]))/\
 (aL->
 ∀(zq:Nat->
 Value),K (av []) [cR R (ai T) (ξ false) (δ (zq 14)) (δ (zq 15)) (aO none) (ε 1 0 (nO R)) (ε 2 0 (nD R)),rO R,rD R]))/\
 (([m.kd]=[12]->
 False)->
 ([m.kd]=[13]->
 (∀(uS:List D),bK κ [m.kd]=some uS->
 gQ [CK.int γ] uS)/\
 (aJ->
 aM 0/\
 ∃(DT:List D),(ints γ m.n)[0]? =some DT/\
 ∃(wO:Int),DT[0]? =some (η (φ γ wO))/\
 ((wO == R.id)=true->
 ((fr != R.me)=true->
 ∃(uT:List Int),ints γ m.n=ints γ uT/\
 dH uT.length/\
 ((!uT.any cI)=true->
 ∃(uU:θ),∃(uV:Int),∃(wP:Int),∃(zr:Int),∃(zt:Int),∃(zu:Int),∃(zv:List Int),∃(zw:List (List Int)),ah=[an 0 0,ζ γ uV,fw [ζ γ wP,aH (ω 1 [[dn γ zr],[dn γ zt],[dn γ zu]]),aH (ω 1 (ints ν zv)),aH (ω 1 (cm zw))]]/\
 gH uU az/\
 oC uU/\
 ∀(uW:KB),gH (ic uU uV {kd:=wP,n:=[zr,zt,zu],b:=zv,l:=zw}) uW->
 gw uW=true->
 ∀(DU:List Re),gw (DU,uW).snd=true/\
 K (av []) uW)/\
 ((!uT.any cI)=false->
 ∀(uX:Nat->
 Value),K (av []) [cR R (ai T) (ξ false) (δ (uX 14)) (δ (uX 15)) (aO none) (ε 1 0 (nO R)) (ε 2 0 (nD R)),rO R,rD R]))/\
 ((fr != R.me)=false->
 ∀(DV:Nat->
 Value),K (av []) [cR R (ai T) (ξ false) (δ (DV 14)) (δ (DV 15)) (aO none) (ε 1 0 (nO R)) (ε 2 0 (nD R)),rO R,rD R]))/\
 ((wO == R.id)=false->
 ∀(VO:Nat->
 Value),K (av []) [cR R (ai T) (ξ false) (δ (VO 14)) (δ (VO 15)) (aO none) (ε 1 0 (nO R)) (ε 2 0 (nD R)),rO R,rD R]))/\
 (aL->
 ∀(VQ:Nat->
 Value),K (av []) [cR R (ai T) (ξ false) (δ (VQ 14)) (δ (VQ 15)) (aO none) (ε 1 0 (nO R)) (ε 2 0 (nD R)),rO R,rD R]))/\
 (([m.kd]=[13]->
 False)->
 ([m.kd]=[14]->
 (∀(VR:List D),bK κ [m.kd]=some VR->
 gQ [CK.int γ] VR)/\
 (aJ->
 aM 0/\
 ∃(VS:List D),(ints γ m.n)[0]? =some VS/\
 ∃(Ld:Int),VS[0]? =some (η (φ γ Ld))/\
 ((Ld == R.id)=true->
 ((fr != R.me)=true->
 ∃(DW:List Int),ints γ m.n=ints γ DW/\
 dH DW.length/\
 ((!DW.any cI)=true->
 ∃(Le:θ),∃(VT:Int),∃(VU:Int),∃(VV:Int),∃(VX:Int),∃(VY:Int),∃(VZ:List Int),∃(V0:List (List Int)),ah=[an 0 0,ζ γ VT,fw [ζ γ VU,aH (ω 1 [[dn γ VV],[dn γ VX],[dn γ VY]]),aH (ω 1 (ints ν VZ)),aH (ω 1 (cm V0))]]/\
 gH Le az/\
 oC Le/\
 ∀(DX:KB),gH (ij Le VT {kd:=VU,n:=[VV,VX,VY],b:=VZ,l:=V0}) DX->
 gw DX=true->
 ∀(y91:List Re),gw (y91,DX).snd=true/\
 K (av []) DX)/\
 ((!DW.any cI)=false->
 ∀(V1:Nat->
 Value),K (av []) [cR R (ai T) (ξ false) (δ (V1 14)) (δ (V1 15)) (aO none) (ε 1 0 (nO R)) (ε 2 0 (nD R)),rO R,rD R]))/\
 ((fr != R.me)=false->
 ∀(V2:Nat->
 Value),K (av []) [cR R (ai T) (ξ false) (δ (V2 14)) (δ (V2 15)) (aO none) (ε 1 0 (nO R)) (ε 2 0 (nD R)),rO R,rD R]))/\
 ((Ld == R.id)=false->
 ∀(V3:Nat->
 Value),K (av []) [cR R (ai T) (ξ false) (δ (V3 14)) (δ (V3 15)) (aO none) (ε 1 0 (nO R)) (ε 2 0 (nD R)),rO R,rD R]))/\
 (aL->
 ∀(V4:Nat->
 Value),K (av []) [cR R (ai T) (ξ false) (δ (V4 14)) (δ (V4 15)) (aO none) (ε 1 0 (nO R)) (ε 2 0 (nD R)),rO R,rD R]))/\
 (([m.kd]=[14]->
 False)->
 ∀(V5:Nat->
 Value),K (av []) [cR R (ai T) (ξ false) (δ (V5 14)) (δ (V5 15)) (aO none) (ε 1 0 (nO R)) (ε 2 0 (nD R)),rO R,rD R])))))
 ):aK Tryz.prog xn (fun _=>none) 60 [an 0 0,.int γ fr,.agg [.int γ m.kd,aH (.sl 1 (ints γ m.n)),aH (.sl 1 (ints ν m.b)),aH (.sl 1 (cm m.l))]] [cR R (ai T) (ξ false) (δ ο) (δ π) (.af none) (.sl 1 0 (nO R)) (.sl 2 0 (nD R)),rO R,rD R] (wn 13 eO K):=by apply Eq.mp (a:=ar);kernel_rfl
theorem agP (R:θ) (T:ML) (I Q:ML) (u:Option (List D)) (fr:Int) (m:dI) (K:V->KB->Prop) (ar:
 let aV:=[η (φ γ 3)];let az:=[an 0 0,ζ γ fr,fw [ζ γ m.kd,aH (ω 1 (ints γ m.n)),aH (ω 1 (ints ν m.b)),aH (ω 1 (cm m.l))]];let ah:KB:=[cR R (ai T) (ξ true) (bb 1) (bb 2) (aO u) (ε 3 0 (nO R)) (ε 4 0 (nD R)),aj I,aj Q,rO R,rD R];let κ:=(bL (bL (bL (bL (bL [] [10] aV) [11] aV) [12] [η (φ γ 8)]) [13] aV) [14] aV);let aJ:=((↑(ints γ m.n).length:Int) == eu κ [m.kd] 0)=true;let aL:=((↑(ints γ m.n).length:Int) == eu κ [m.kd] 0)=false;([m.kd]=[10]->
 (∀(y1:List D),bK κ [m.kd]=some y1->
 gQ [CK.int γ] y1)/\
 (aJ->
 aM 0/\
 ∃(y2:List D),(ints γ m.n)[0]? =some y2/\
 ∃(y3:Int),y2[0]? =some (η (φ γ y3))/\
 ((y3 == R.id)=true->
 ((fr != R.me)=true->
 ∃(y4:List Int),ints γ m.n=ints γ y4/\
 dH y4.length/\
 ((!y4.any cI)=true->
 ∃(y5:θ),∃(y6:Int),∃(y7:Int),∃(y8:Int),∃(y9:Int),∃(cO:Int),∃(cC:List Int),∃(cD:List (List Int)),az=[an 0 0,ζ γ y6,fw [ζ γ y7,aH (ω 1 [[dn γ y8],[dn γ y9],[dn γ cO]]),aH (ω 1 (ints ν cC)),aH (ω 1 (cm cD))]]/\
 gH y5 ah/\
 EU y5 cC cD/\
 ∀(cM:KB),gH (iH y5 y6 {kd:=y7,n:=[y8,y9,cO],b:=cC,l:=cD}) cM->
 gw cM=true->
 ∀(dC:List Re),gw (dC,cM).snd=true/\
 K (av []) cM)/\
 ((!y4.any cI)=false->
 K (av []) ah))/\
 ((fr != R.me)=false->
 K (av []) ah))/\
 ((y3 == R.id)=false->
 K (av []) ah))/\
 (aL->
 K (av []) ah))/\
 (([m.kd]=[10]->
 False)->
 ([m.kd]=[11]->
 (∀(cX:List D),bK κ [m.kd]=some cX->
 gQ [CK.int γ] cX)/\
 (aJ->
 aM 0/\
 ∃(fS:List D),(ints γ m.n)[0]? =some fS/\
 ∃(dg:Int),fS[0]? =some (η (φ γ dg))/\
 ((dg == R.id)=true->
 ((fr != R.me)=true->
 ∃(fg:List Int),ints γ m.n=ints γ fg/\
 dH fg.length/\
 ((!fg.any cI)=true->
 ∃(fD:θ),∃(fN:Int),∃(eY:Int),∃(fE:Int),∃(iT:Int),∃(gm:Int),∃(eT:List Int),∃(eZ:List (List Int)),az=[an 0 0,ζ γ fN,fw [ζ γ eY,aH (ω 1 [[dn γ fE],[dn γ iT],[dn γ gm]]),aH (ω 1 (ints ν eT)),aH (ω 1 (cm eZ))]]/\
 gH fD ah/\
 oC fD/\
 ∀(eF:KB),gH (im fD fN {kd:=eY,n:=[fE,iT,gm],b:=eT,l:=eZ}) eF->
 gw eF=true->
 ∀(iU:List Re),gw (iU,eF).snd=true/\
 K (av []) eF)/\
 ((!fg.any cI)=false->
 K (av []) ah))/\
 ((fr != R.me)=false->
 K (av []) ah))/\
 ((dg == R.id)=false->
 K (av []) ah))/\
 (aL->
 K (av []) ah))/\
 (([m.kd]=[11]->
 False)->
 ([m.kd]=[12]->
 (∀(jS:List D),bK κ [m.kd]=some jS->
 gQ [CK.int γ] jS)/\
 (aJ->
 aM 0/\
 ∃(iq:List D),(ints γ m.n)[0]? =some iq/\
 ∃(ft:Int),iq[0]? =some (η (φ γ ft))/\
 ((ft == R.id)=true->
 ((fr != R.me)=true->
 ∃(jT:List Int),ints γ m.n=ints γ jT/\
 dH jT.length/\
 ((!jT.any cI)=true->
 ∃(km:θ),∃(jU:Int),∃(kL:Int),∃(oh:Int),∃(mQ:Int),∃(kM:Int),∃(oo:Int),∃(mR:Int),∃(o4:Int),∃(sf:Int),∃(qJ:Int),∃(sg:List Int),∃(tu:List (List Int)),az=[an 0 0,ζ γ jU,fw [ζ γ kL,aH (ω 1 [[dn γ oh],[dn γ mQ],[dn γ kM],[dn γ oo],[dn γ mR],[dn γ o4],[dn γ sf],[dn γ qJ]]),aH (ω 1 (ints ν sg)),aH (ω 1 (cm tu))]]/\
 gH km ah/\
 oC km/\
 ∀(si:KB),gH (iG km jU {kd:=kL,n:=[oh,mQ,kM,oo,mR,o4,sf,qJ],b:=sg,l:=tu}) si->
 gw si=true->
 ∀(uO:List Re),gw (uO,si).snd=true/\
 K (av []) si)/\
 ((!jT.any cI)=false->
 K (av []) ah))/\
 ((fr != R.me)=false->
 K (av []) ah))/\
 ((ft == R.id)=false->
 K (av []) ah))/\
 (aL->
 K (av []) ah))/\
 (([m.kd]=[12]->
 False)->
 ([m.kd]=[13]->
 (∀(uP:List D),bK κ [m.kd]=some uP->
 gQ [CK.int γ] uP)/\
 (aJ->
 aM 0/\
 ∃(tv:List D),(ints γ m.n)[0]? =some tv/\
 ∃(wM:Int),tv[0]? =some (η (φ γ wM))/\
 ((wM == R.id)=true->
 ((fr != R.me)=true->
 ∃(uQ:List Int),ints γ m.n=ints γ uQ/\
 dH uQ.length/\
 ((!uQ.any cI)=true->
 ∃(wN:θ),∃(zm:Int),∃(uR:Int),∃(DS:Int),∃(zn:Int),∃(zo:Int),∃(zp:List Int),∃(zq:List (List Int)),az=[an 0 0,ζ γ zm,fw [ζ γ uR,aH (ω 1 [[dn γ DS],[dn γ zn],[dn γ zo]]),aH (ω 1 (ints ν zp)),aH (ω 1 (cm zq))]]/\
 gH wN ah/\
 oC wN/\
 ∀(uS:KB),gH (ic wN zm {kd:=uR,n:=[DS,zn,zo],b:=zp,l:=zq}) uS->
 gw uS=true->
 ∀(DT:List Re),gw (DT,uS).snd=true/\
 K (av []) uS)/\
 ((!uQ.any cI)=false->
 K (av []) ah))/\
 ((fr != R.me)=false->
 K (av []) ah))/\
 ((wM == R.id)=false->
 K (av []) ah))/\
 (aL->
 K (av []) ah))/\
 (([m.kd]=[13]->
 False)->
 ([m.kd]=[14]->
 (∀(wO:List D),bK κ [m.kd]=some wO->
 gQ [CK.int γ] wO)/\
 (aJ->
 aM 0/\
 ∃(uT:List D),(ints γ m.n)[0]? =some uT/\
 ∃(uU:Int),uT[0]? =some (η (φ γ uU))/\
 ((uU == R.id)=true->
 ((fr != R.me)=true->
 ∃(uV:List Int),ints γ m.n=ints γ uV/\
 dH uV.length/\
 ((!uV.any cI)=true->
 ∃(wP:θ),∃(zr:Int),∃(zt:Int),∃(zu:Int),∃(zv:Int),∃(zw:Int),∃(uW:List Int),∃(DU:List (List Int)),az=[an 0 0,ζ γ zr,fw [ζ γ zt,aH (ω 1 [[dn γ zu],[dn γ zv],[dn γ zw]]),aH (ω 1 (ints ν uW)),aH (ω 1 (cm DU))]]/\
 gH wP ah/\
 oC wP/\
 ∀(uX:KB),gH (ij wP zr {kd:=zt,n:=[zu,zv,zw],b:=uW,l:=DU}) uX->
 gw uX=true->
 ∀(DV:List Re),gw (DV,uX).snd=true/\
 K (av []) uX)/\
 ((!uV.any cI)=false->
 K (av []) ah))/\
 ((fr != R.me)=false->
 K (av []) ah))/\
 ((uU == R.id)=false->
 K (av []) ah))/\
 (aL->
 K (av []) ah))/\
 (([m.kd]=[14]->
 False)->
 K (av []) ah)))))
 ):aK Tryz.prog xn (fun _=>none) 60 [an 0 0,.int γ fr,.agg [.int γ m.kd,aH (.sl 1 (ints γ m.n)),aH (.sl 1 (ints ν m.b)),aH (.sl 1 (cm m.l))]] [cR R (ai T) (ξ true) (.mp 1) (.mp 2) (.af u) (.sl 3 0 (nO R)) (.sl 4 0 (nD R)),aj I,aj Q,rO R,rD R] (wn 13 eO K):=by apply Eq.mp (a:=ar);kernel_rfl
theorem ey {R:θ} {fr:Int} {m:dI} (h:ca R fr m=false):dE R fr m=R:=if_pos h
theorem Pn {R:θ} {fr:Int} {n b:List Int} {ls:List (List Int)} (h:ca R fr ⟨10,n,b,ls⟩=true):dE R fr ⟨10,n,b,ls⟩=iH R fr ⟨10,n,b,ls⟩:=by unfold dE;rw[h];rfl
theorem Po {R:θ} {fr:Int} {n b:List Int} {ls:List (List Int)} (h:ca R fr ⟨11,n,b,ls⟩=true):dE R fr ⟨11,n,b,ls⟩=im R fr ⟨11,n,b,ls⟩:=by unfold dE;rw[h];rfl
theorem Pp {R:θ} {fr:Int} {n b:List Int} {ls:List (List Int)} (h:ca R fr ⟨12,n,b,ls⟩=true):dE R fr ⟨12,n,b,ls⟩=iG R fr ⟨12,n,b,ls⟩:=by unfold dE;rw[h];rfl
theorem Pq {R:θ} {fr:Int} {n b:List Int} {ls:List (List Int)} (h:ca R fr ⟨13,n,b,ls⟩=true):dE R fr ⟨13,n,b,ls⟩=ic R fr ⟨13,n,b,ls⟩:=by unfold dE;rw[h];rfl
theorem Pr {R:θ} {fr:Int} {n b:List Int} {ls:List (List Int)} (h:ca R fr ⟨14,n,b,ls⟩=true):dE R fr ⟨14,n,b,ls⟩=ij R fr ⟨14,n,b,ls⟩:=by unfold dE;rw[h];rfl
structure kT (m:dI):Prop where
 b:bm m.b
 l:m.b.length<=900000
 ls:∀ y∈m.l,bm y/\y.length<=140737488355328
theorem Z1:dP Tryz.prog Hz:=fun f k h=>by
 unfold Hz at h
 split at h
 ·cases h;exact ab8
 ·cases h;exact ab9
 ·cases h;exact ab5
 ·cases h;exact ab6
 ·cases h;exact ab7
 ·cases h;exact R0
 ·cases h
theorem Mv:b9 Tryz.prog xn:=dY mixed Z1 aI 10
theorem ZQ (R:θ) (T:ML) (ο π:Value) (fr kd:Int) (n b:List Int) (ls:List (List Int)) (hT:bG T R.t) (hl:R.ld=none) (hR:dz R) (hM:kT ⟨kd,n,b,ls⟩) (eK:∀ ο π,aB R [cR R (ai T) (ξ false) (δ ο) (δ π) (.af none) (.sl 1 0 (nO R)) (.sl 2 0 (nD R)),rO R,rD R]) (K:V->KB->Prop) (hK:∀ kb',aB (dE R fr ⟨kd,n,b,ls⟩) kb'->K (.χ []) kb'):aK Tryz.prog xn (fun _=>none) 60 [an 0 0,.int γ fr,.agg [.int γ kd,aH (.sl 1 (ints γ n)),aH (.sl 1 (ints ν b)),aH (.sl 1 (cm ls))]] [cR R (ai T) (ξ false) (δ ο) (δ π) (.af none) (.sl 1 0 (nO R)) (.sl 2 0 (nD R)),rO R,rD R] (wn 13 eO K):=by
 have fin:∀{R':θ} {kb':KB},dE R fr ⟨kd,n,b,ls⟩=R'->aB R' kb'->K (.χ []) kb':=fun{R' kb'} h1 h2=>by
  have:=hK kb'
  rw[h1]at this
  exact this h2
 refine agQ R T ο π fr ⟨kd,n,b,ls⟩ K ⟨?_,fun Cv=>⟨?_,fun IL=>⟨?_,fun IM=>⟨?_,fun IN=>⟨?_,fun IP=>?_⟩⟩⟩⟩⟩
 ·intro e
  have hk:kd=10:=by simpa using e
  subst hk
  refine⟨fun cs h=>?_,fun hlen=>?_,fun hlen=>fun f=>fin (ey (by have h2:¬ n.length=3:=(by have:=hlen;simp [bh,eu,bK,bL,iv]at this;omega);simp [ca,iD,h2])) (eK _ _)⟩
  ·simp [bL,bK]at h
   subst h
   exact⟨_,_,rfl,rfl⟩
  ·have hl:n.length=3:=by have:=hlen;simp [bh,eu,bK,bL,iv]at this;omega
   match n,hl with
   | [q0,q1,q2],_=>
    exact⟨dy _,_,rfl,q0,rfl,fun h0=>⟨fun h1=>⟨[q0,q1,q2],rfl,⟨by simp⟩,fun h2=>⟨R,fr,10,q0,q1,q2,b,ls,rfl,⟨(eK _ _)⟩,⟨hR,hM.b,hM.l,hM.ls⟩,fun kb' hk hf τ=>⟨hf,fin (Pn (by have h0:q0=R.id:=(by simpa using h0);have h1:¬ fr=R.me:=(by simpa using h1);have h2:[q0,q1,q2].any cI=false:=(by simpa using h2);simp [ca,bi,iD,h0,h1];simpa [h0]using h2)) hk.h⟩⟩,fun h2=>fun f=>fin (ey (by have h2:[q0,q1,q2].any cI=true:=(by simpa only[nI]using h2);unfold ca;rw[h2];simp)) (eK _ _)⟩,fun h1=>fun f=>fin (ey (by have h1:fr=R.me:=(by simpa using h1);simp [ca,h1])) (eK _ _)⟩,fun h0=>fun f=>fin (ey (by have h0:¬ q0=R.id:=(by simpa using h0);simp [ca,bi,h0])) (eK _ _)⟩
 ·intro e
  have hk:kd=11:=by simpa using e
  subst hk
  refine⟨fun cs h=>?_,fun hlen=>?_,fun hlen=>fun f=>fin (ey (by have h2:¬ n.length=3:=(by have:=hlen;simp [bh,eu,bK,bL,iv]at this;omega);simp [ca,iD,h2])) (eK _ _)⟩
  ·simp [bL,bK]at h
   subst h
   exact⟨_,_,rfl,rfl⟩
  ·have hl:n.length=3:=by have:=hlen;simp [bh,eu,bK,bL,iv]at this;omega
   match n,hl with
   | [q0,q1,q2],_=>
    exact⟨dy _,_,rfl,q0,rfl,fun h0=>⟨fun h1=>⟨[q0,q1,q2],rfl,⟨by simp⟩,fun h2=>⟨R,fr,11,q0,q1,q2,b,ls,rfl,⟨(eK _ _)⟩,⟨hR⟩,fun kb' hk hf τ=>⟨hf,fin (Po (by have h0:q0=R.id:=(by simpa using h0);have h1:¬ fr=R.me:=(by simpa using h1);have h2:[q0,q1,q2].any cI=false:=(by simpa using h2);simp [ca,bi,iD,h0,h1];simpa [h0]using h2)) hk.h⟩⟩,fun h2=>fun f=>fin (ey (by have h2:[q0,q1,q2].any cI=true:=(by simpa only[nI]using h2);unfold ca;rw[h2];simp)) (eK _ _)⟩,fun h1=>fun f=>fin (ey (by have h1:fr=R.me:=(by simpa using h1);simp [ca,h1])) (eK _ _)⟩,fun h0=>fun f=>fin (ey (by have h0:¬ q0=R.id:=(by simpa using h0);simp [ca,bi,h0])) (eK _ _)⟩
 ·intro e
  have hk:kd=12:=by simpa using e
  subst hk
  refine⟨fun cs h=>?_,fun hlen=>?_,fun hlen=>fun f=>fin (ey (by have h2:¬ n.length=8:=(by have:=hlen;simp [bh,eu,bK,bL,iv]at this;omega);simp [ca,iD,h2])) (eK _ _)⟩
  ·simp [bL,bK]at h
   subst h
   exact⟨_,_,rfl,rfl⟩
  ·have hl:n.length=8:=by have:=hlen;simp [bh,eu,bK,bL,iv]at this;omega
   match n,hl with
   | [q0,q1,q2,q3,q4,q5,q6,q7],_=>
    exact⟨dy _,_,rfl,q0,rfl,fun h0=>⟨fun h1=>⟨[q0,q1,q2,q3,q4,q5,q6,q7],rfl,⟨by simp⟩,fun h2=>⟨R,fr,12,q0,q1,q2,q3,q4,q5,q6,q7,b,ls,rfl,⟨(eK _ _)⟩,⟨hR⟩,fun kb' hk hf τ=>⟨hf,fin (Pp (by have h0:q0=R.id:=(by simpa using h0);have h1:¬ fr=R.me:=(by simpa using h1);have h2:[q0,q1,q2,q3,q4,q5,q6,q7].any cI=false:=(by simpa using h2);simp [ca,bi,iD,h0,h1];simpa [h0]using h2)) hk.h⟩⟩,fun h2=>fun f=>fin (ey (by have h2:[q0,q1,q2,q3,q4,q5,q6,q7].any cI=true:=(by simpa only[nI]using h2);unfold ca;rw[h2];simp)) (eK _ _)⟩,fun h1=>fun f=>fin (ey (by have h1:fr=R.me:=(by simpa using h1);simp [ca,h1])) (eK _ _)⟩,fun h0=>fun f=>fin (ey (by have h0:¬ q0=R.id:=(by simpa using h0);simp [ca,bi,h0])) (eK _ _)⟩
 ·intro e
  have hk:kd=13:=by simpa using e
  subst hk
  refine⟨fun cs h=>?_,fun hlen=>?_,fun hlen=>fun f=>fin (ey (by have h2:¬ n.length=3:=(by have:=hlen;simp [bh,eu,bK,bL,iv]at this;omega);simp [ca,iD,h2])) (eK _ _)⟩
  ·simp [bL,bK]at h
   subst h
   exact⟨_,_,rfl,rfl⟩
  ·have hl:n.length=3:=by have:=hlen;simp [bh,eu,bK,bL,iv]at this;omega
   match n,hl with
   | [q0,q1,q2],_=>
    exact⟨dy _,_,rfl,q0,rfl,fun h0=>⟨fun h1=>⟨[q0,q1,q2],rfl,⟨by simp⟩,fun h2=>⟨R,fr,13,q0,q1,q2,b,ls,rfl,⟨(eK _ _)⟩,⟨hR⟩,fun kb' hk hf τ=>⟨hf,fin (Pq (by have h0:q0=R.id:=(by simpa using h0);have h1:¬ fr=R.me:=(by simpa using h1);have h2:[q0,q1,q2].any cI=false:=(by simpa using h2);simp [ca,bi,iD,h0,h1];simpa [h0]using h2)) hk.h⟩⟩,fun h2=>fun f=>fin (ey (by have h2:[q0,q1,q2].any cI=true:=(by simpa only[nI]using h2);unfold ca;rw[h2];simp)) (eK _ _)⟩,fun h1=>fun f=>fin (ey (by have h1:fr=R.me:=(by simpa using h1);simp [ca,h1])) (eK _ _)⟩,fun h0=>fun f=>fin (ey (by have h0:¬ q0=R.id:=(by simpa using h0);simp [ca,bi,h0])) (eK _ _)⟩
 ·intro e
  have hk:kd=14:=by simpa using e
  subst hk
  refine⟨fun cs h=>?_,fun hlen=>?_,fun hlen=>fun f=>fin (ey (by have h2:¬ n.length=3:=(by have:=hlen;simp [bh,eu,bK,bL,iv]at this;omega);simp [ca,iD,h2])) (eK _ _)⟩
  ·simp [bL,bK]at h
   subst h
   exact⟨_,_,rfl,rfl⟩
  ·have hl:n.length=3:=by have:=hlen;simp [bh,eu,bK,bL,iv]at this;omega
   match n,hl with
   | [q0,q1,q2],_=>
    exact⟨dy _,_,rfl,q0,rfl,fun h0=>⟨fun h1=>⟨[q0,q1,q2],rfl,⟨by simp⟩,fun h2=>⟨R,fr,14,q0,q1,q2,b,ls,rfl,⟨(eK _ _)⟩,⟨hR⟩,fun kb' hk hf τ=>⟨hf,fin (Pr (by have h0:q0=R.id:=(by simpa using h0);have h1:¬ fr=R.me:=(by simpa using h1);have h2:[q0,q1,q2].any cI=false:=(by simpa using h2);simp [ca,bi,iD,h0,h1];simpa [h0]using h2)) hk.h⟩⟩,fun h2=>fun f=>fin (ey (by have h2:[q0,q1,q2].any cI=true:=(by simpa only[nI]using h2);unfold ca;rw[h2];simp)) (eK _ _)⟩,fun h1=>fun f=>fin (ey (by have h1:fr=R.me:=(by simpa using h1);simp [ca,h1])) (eK _ _)⟩,fun h0=>fun f=>fin (ey (by have h0:¬ q0=R.id:=(by simpa using h0);simp [ca,bi,h0])) (eK _ _)⟩
 ·have hno:ca R fr ⟨kd,n,b,ls⟩=false:=by
   have h10:¬ kd=10:=fun h=>Cv (by simp [h])
   have h11:¬ kd=11:=fun h=>IL (by simp [h])
   have h12:¬ kd=12:=fun h=>IM (by simp [h])
   have Zq:¬ kd=13:=fun h=>IN (by simp [h])
   have Zr:¬ kd=14:=fun h=>IP (by simp [h])
   have:¬ (10<=kd/\kd<=14/\n.length=iD kd/\bi ⟨kd,n,b,ls⟩ 0=R.id/\fr≠R.me):=by omega
   simp only[ca,decide_eq_false this,Bool.false_and]
  have fs:∀ f:Nat->Value,K (.χ []) [cR R (ai T) (ξ false) (δ (f 14)) (δ (f 15)) (.af none) (.sl 1 0 (nO R)) (.sl 2 0 (nD R)),rO R,rD R]:=fun f=>fin (ey hno) (eK _ _)
  first
   |exact fs
   |exact⟨fun f=>(by cases f),fun _=>fs⟩
theorem ZP (R:θ) (T:ML) (I Q:ML) (L:bX) (fr kd:Int) (n b:List Int) (ls:List (List Int)) (hT:bG T R.t) (hl:R.ld=some L) (hI:MB I L.ins) (hQ:MB Q L.cy) (hR:dz R) (hM:kT ⟨kd,n,b,ls⟩) (hkb:aB R [cR R (ai T) (ξ true) (.mp 1) (.mp 2) (.af (L.cur.map bn)) (.sl 3 0 (nO R)) (.sl 4 0 (nD R)),aj I,aj Q,rO R,rD R]) (K:V->KB->Prop) (hK:∀ kb',aB (dE R fr ⟨kd,n,b,ls⟩) kb'->K (.χ []) kb'):aK Tryz.prog xn (fun _=>none) 60 [an 0 0,.int γ fr,.agg [.int γ kd,aH (.sl 1 (ints γ n)),aH (.sl 1 (ints ν b)),aH (.sl 1 (cm ls))]] [cR R (ai T) (ξ true) (.mp 1) (.mp 2) (.af (L.cur.map bn)) (.sl 3 0 (nO R)) (.sl 4 0 (nD R)),aj I,aj Q,rO R,rD R] (wn 13 eO K):=by
 have fin:∀{R':θ} {kb':KB},dE R fr ⟨kd,n,b,ls⟩=R'->aB R' kb'->K (.χ []) kb':=fun{R' kb'} h1 h2=>by
  have:=hK kb'
  rw[h1]at this
  exact this h2
 refine agP R T I Q (L.cur.map bn) fr ⟨kd,n,b,ls⟩ K ⟨?_,fun Cv=>⟨?_,fun IL=>⟨?_,fun IM=>⟨?_,fun IN=>⟨?_,fun IP=>?_⟩⟩⟩⟩⟩
 ·intro e
  have hk:kd=10:=by simpa using e
  subst hk
  refine⟨fun cs h=>?_,fun hlen=>?_,fun hlen=>fin (ey (by have h2:¬ n.length=3:=(by have:=hlen;simp [bh,eu,bK,bL,iv]at this;omega);simp [ca,iD,h2])) hkb⟩
  ·simp [bL,bK]at h
   subst h
   exact⟨_,_,rfl,rfl⟩
  ·have hl:n.length=3:=by have:=hlen;simp [bh,eu,bK,bL,iv]at this;omega
   match n,hl with
   | [q0,q1,q2],_=>
    exact⟨dy _,_,rfl,q0,rfl,fun h0=>⟨fun h1=>⟨[q0,q1,q2],rfl,⟨by simp⟩,fun h2=>⟨R,fr,10,q0,q1,q2,b,ls,rfl,⟨hkb⟩,⟨hR,hM.b,hM.l,hM.ls⟩,fun kb' hk hf τ=>⟨hf,fin (Pn (by have h0:q0=R.id:=(by simpa using h0);have h1:¬ fr=R.me:=(by simpa using h1);have h2:[q0,q1,q2].any cI=false:=(by simpa using h2);simp [ca,bi,iD,h0,h1];simpa [h0]using h2)) hk.h⟩⟩,fun h2=>fin (ey (by have h2:[q0,q1,q2].any cI=true:=(by simpa only[nI]using h2);unfold ca;rw[h2];simp)) hkb⟩,fun h1=>fin (ey (by have h1:fr=R.me:=(by simpa using h1);simp [ca,h1])) hkb⟩,fun h0=>fin (ey (by have h0:¬ q0=R.id:=(by simpa using h0);simp [ca,bi,h0])) hkb⟩
 ·intro e
  have hk:kd=11:=by simpa using e
  subst hk
  refine⟨fun cs h=>?_,fun hlen=>?_,fun hlen=>fin (ey (by have h2:¬ n.length=3:=(by have:=hlen;simp [bh,eu,bK,bL,iv]at this;omega);simp [ca,iD,h2])) hkb⟩
  ·simp [bL,bK]at h
   subst h
   exact⟨_,_,rfl,rfl⟩
  ·have hl:n.length=3:=by have:=hlen;simp [bh,eu,bK,bL,iv]at this;omega
   match n,hl with
   | [q0,q1,q2],_=>
    exact⟨dy _,_,rfl,q0,rfl,fun h0=>⟨fun h1=>⟨[q0,q1,q2],rfl,⟨by simp⟩,fun h2=>⟨R,fr,11,q0,q1,q2,b,ls,rfl,⟨hkb⟩,⟨hR⟩,fun kb' hk hf τ=>⟨hf,fin (Po (by have h0:q0=R.id:=(by simpa using h0);have h1:¬ fr=R.me:=(by simpa using h1);have h2:[q0,q1,q2].any cI=false:=(by simpa using h2);simp [ca,bi,iD,h0,h1];simpa [h0]using h2)) hk.h⟩⟩,fun h2=>fin (ey (by have h2:[q0,q1,q2].any cI=true:=(by simpa only[nI]using h2);unfold ca;rw[h2];simp)) hkb⟩,fun h1=>fin (ey (by have h1:fr=R.me:=(by simpa using h1);simp [ca,h1])) hkb⟩,fun h0=>fin (ey (by have h0:¬ q0=R.id:=(by simpa using h0);simp [ca,bi,h0])) hkb⟩
 ·intro e
  have hk:kd=12:=by simpa using e
  subst hk
  refine⟨fun cs h=>?_,fun hlen=>?_,fun hlen=>fin (ey (by have h2:¬ n.length=8:=(by have:=hlen;simp [bh,eu,bK,bL,iv]at this;omega);simp [ca,iD,h2])) hkb⟩
  ·simp [bL,bK]at h
   subst h
   exact⟨_,_,rfl,rfl⟩
  ·have hl:n.length=8:=by have:=hlen;simp [bh,eu,bK,bL,iv]at this;omega
   match n,hl with
   | [q0,q1,q2,q3,q4,q5,q6,q7],_=>
    exact⟨dy _,_,rfl,q0,rfl,fun h0=>⟨fun h1=>⟨[q0,q1,q2,q3,q4,q5,q6,q7],rfl,⟨by simp⟩,fun h2=>⟨R,fr,12,q0,q1,q2,q3,q4,q5,q6,q7,b,ls,rfl,⟨hkb⟩,⟨hR⟩,fun kb' hk hf τ=>⟨hf,fin (Pp (by have h0:q0=R.id:=(by simpa using h0);have h1:¬ fr=R.me:=(by simpa using h1);have h2:[q0,q1,q2,q3,q4,q5,q6,q7].any cI=false:=(by simpa using h2);simp [ca,bi,iD,h0,h1];simpa [h0]using h2)) hk.h⟩⟩,fun h2=>fin (ey (by have h2:[q0,q1,q2,q3,q4,q5,q6,q7].any cI=true:=(by simpa only[nI]using h2);unfold ca;rw[h2];simp)) hkb⟩,fun h1=>fin (ey (by have h1:fr=R.me:=(by simpa using h1);simp [ca,h1])) hkb⟩,fun h0=>fin (ey (by have h0:¬ q0=R.id:=(by simpa using h0);simp [ca,bi,h0])) hkb⟩
 ·intro e
  have hk:kd=13:=by simpa using e
  subst hk
  refine⟨fun cs h=>?_,fun hlen=>?_,fun hlen=>fin (ey (by have h2:¬ n.length=3:=(by have:=hlen;simp [bh,eu,bK,bL,iv]at this;omega);simp [ca,iD,h2])) hkb⟩
  ·simp [bL,bK]at h
   subst h
   exact⟨_,_,rfl,rfl⟩
  ·have hl:n.length=3:=by have:=hlen;simp [bh,eu,bK,bL,iv]at this;omega
   match n,hl with
   | [q0,q1,q2],_=>
    exact⟨dy _,_,rfl,q0,rfl,fun h0=>⟨fun h1=>⟨[q0,q1,q2],rfl,⟨by simp⟩,fun h2=>⟨R,fr,13,q0,q1,q2,b,ls,rfl,⟨hkb⟩,⟨hR⟩,fun kb' hk hf τ=>⟨hf,fin (Pq (by have h0:q0=R.id:=(by simpa using h0);have h1:¬ fr=R.me:=(by simpa using h1);have h2:[q0,q1,q2].any cI=false:=(by simpa using h2);simp [ca,bi,iD,h0,h1];simpa [h0]using h2)) hk.h⟩⟩,fun h2=>fin (ey (by have h2:[q0,q1,q2].any cI=true:=(by simpa only[nI]using h2);unfold ca;rw[h2];simp)) hkb⟩,fun h1=>fin (ey (by have h1:fr=R.me:=(by simpa using h1);simp [ca,h1])) hkb⟩,fun h0=>fin (ey (by have h0:¬ q0=R.id:=(by simpa using h0);simp [ca,bi,h0])) hkb⟩
 ·intro e
  have hk:kd=14:=by simpa using e
  subst hk
  refine⟨fun cs h=>?_,fun hlen=>?_,fun hlen=>fin (ey (by have h2:¬ n.length=3:=(by have:=hlen;simp [bh,eu,bK,bL,iv]at this;omega);simp [ca,iD,h2])) hkb⟩
  ·simp [bL,bK]at h
   subst h
   exact⟨_,_,rfl,rfl⟩
  ·have hl:n.length=3:=by have:=hlen;simp [bh,eu,bK,bL,iv]at this;omega
   match n,hl with
   | [q0,q1,q2],_=>
    exact⟨dy _,_,rfl,q0,rfl,fun h0=>⟨fun h1=>⟨[q0,q1,q2],rfl,⟨by simp⟩,fun h2=>⟨R,fr,14,q0,q1,q2,b,ls,rfl,⟨hkb⟩,⟨hR⟩,fun kb' hk hf τ=>⟨hf,fin (Pr (by have h0:q0=R.id:=(by simpa using h0);have h1:¬ fr=R.me:=(by simpa using h1);have h2:[q0,q1,q2].any cI=false:=(by simpa using h2);simp [ca,bi,iD,h0,h1];simpa [h0]using h2)) hk.h⟩⟩,fun h2=>fin (ey (by have h2:[q0,q1,q2].any cI=true:=(by simpa only[nI]using h2);unfold ca;rw[h2];simp)) hkb⟩,fun h1=>fin (ey (by have h1:fr=R.me:=(by simpa using h1);simp [ca,h1])) hkb⟩,fun h0=>fin (ey (by have h0:¬ q0=R.id:=(by simpa using h0);simp [ca,bi,h0])) hkb⟩
 ·have hno:ca R fr ⟨kd,n,b,ls⟩=false:=by
   have h10:¬ kd=10:=fun h=>Cv (by simp [h])
   have h11:¬ kd=11:=fun h=>IL (by simp [h])
   have h12:¬ kd=12:=fun h=>IM (by simp [h])
   have Zq:¬ kd=13:=fun h=>IN (by simp [h])
   have Zr:¬ kd=14:=fun h=>IP (by simp [h])
   have:¬ (10<=kd/\kd<=14/\n.length=iD kd/\bi ⟨kd,n,b,ls⟩ 0=R.id/\fr≠R.me):=by omega
   simp only[ca,decide_eq_false this,Bool.false_and]
  have fs:K (.χ []) [cR R (ai T) (ξ true) (.mp 1) (.mp 2) (.af (L.cur.map bn)) (.sl 3 0 (nO R)) (.sl 4 0 (nD R)),aj I,aj Q,rO R,rD R]:=fin (ey hno) hkb
  first
   |exact fs
   |exact⟨fun f=>(by cases f),fun _=>fs⟩
def Wh:aD:=fun args kb K=>∃ R fr m,args=[an 0 0,.int γ fr,.agg [.int γ m.kd,aH (.sl 1 (ints γ m.n)),aH (.sl 1 (ints ν m.b)),aH (.sl 1 (cm m.l))]]/\aB R kb/\dz R/\kT m/\∀ kb',aB (dE R fr m) kb'->K (.χ []) kb'
theorem ab3:gq Tryz.prog 60 Wh:=abj mixed 13 eO (fun args kb K h=>by
 obtain⟨R,fr,⟨kd,n,b,ls⟩,rfl,hkb,hR,hM,hK⟩:=h
 have i_:=hkb
 unfold aB at hkb
 split at hkb
 ·rename_i hl
  obtain⟨ο,π,T,hT,rfl⟩:=hkb
  exact⟨_,_,Mv,ZQ R T ο π fr kd n b ls hT hl hR hM (fun a b=>by unfold aB;simp only[hl];exact⟨a,b,T,hT,rfl⟩) K hK⟩
 ·rename_i L hl
  obtain⟨I,Q,T,hI,hQ,hT,rfl⟩:=hkb
  exact⟨_,_,Mv,ZP R T I Q L fr kd n b ls hT hl hI hQ hR hM i_ K hK⟩)
def fX (R:θ) (L:bX) (k:Int):List Post:=
 if L.ins k=false then[jh R k]else match L.cur with
 |some o=>if L.cy k=false then[j8 R o k]else[]
 |none=>[]
def cL (R:θ):θ:=match R.ld with
 |none=>{R with ti:=R.ti+1 }
 |some L=>if(R.ti+1).tmod 3=0 then{R with ti:=R.ti+1,out:=R.out++(aQ R).flatMap (fX R L) }else{R with ti:=R.ti+1 }
def rI (c:Option Op) (I Q:ML):bX:=⟨fun n=>jn I [n] 0,fun n=>jn Q [n] 0,c⟩
def tks (R:θ) (c:Option Op) (I Q:ML) (i:Nat):List Post:=((aQ R).take i).flatMap (fX R (rI c I Q))
def KN:FuncId->Option dK
 | 44=>some ⟨[],eB [false,true,true,true,true,true,false,true,true,true,true,false,false,true,true,true,true,true,true,true,true,true] vf⟩
 | 45=>some ⟨[],eB [true,false,true,true,false,false,false,false,true,true,true,true,true,true,true,true,true,true,true,true,false,true] xi⟩
 | 57=>some ⟨[],eB [true,false,true,true,false,false,false,true,true,true,true,true,true,true,true,true,false,true,true,true,false,true] Ab⟩
 |_=>none
noncomputable def xp:bN:=dU Tryz.prog KN aI 10
abbrev zc (R:θ) (T I Q:ML) (c:Option Op):LI where
 α:={i:Nat // i<=(aQ R).length/\(R.ti+1).tmod 3=0}
 live:=[0,25,26,27]
 dV:=[.mv 0 147]
 st i:=([an 0 0,.sl 6 0 (aQ R).length,.int γ ((aQ R).length:Int),.int γ (i.1:Int)],[cT R (.int γ (R.ti+1)) (ai T) (ξ true) (.mp 1) (.mp 2) (.af (c.map bn)) (.sl 5 0 (nO R+(tks R c I Q i.1).length)) (.sl 4 0 (nD R)),aj I,aj Q,aa,rD R,υ 107 5 (ae bR R.out++ae bR (tks R c I Q i.1)),υ 3 1 (ints γ (iu R.me R.v.mem R.v.aC))])
 μ i:=(aQ R).length - i.1
def U5 (R:θ) (T I Q:ML) (c:Option Op):Nat->Option LI
 | 3=>some (zc R T I Q c)
 |_=>none
theorem ahJ (R:θ) (T I Q:ML) (c:Option Op) (K:V->KB->Prop) (ar:
 let cK:=aH (ω 1 (ints γ R.v.aC));let bW:=aH (ω 1 (ints γ R.v.mem));let bC:=(aO (mU bn c));let bp:=(γ.wrap (R.ti+1));let aJ:=(ints γ (iu R.me R.v.mem R.v.aC));let az:=K (av []) [cT R (ζ γ bp) (ai T) (ξ true) (bb 1) (bb 2) bC (ε 3 0 (nO R)) (ε 4 0 (nD R)),aj I,aj Q,rO R,rD R];(false=true->
 az)/\
 (false=false->
 ((bp.tmod 3 != 0)=true->
 az)/\
 ((bp.tmod 3 != 0)=false->
 ∀(y1:Nat->
 Value),∃(y2:List Int),∃(y3:List Int),ints γ R.v.mem=ints γ y2/\
 ints γ R.v.aC=ints γ y3/\
 dH (y2.length+y3.length)/\
 bw y1 [1,2,3,4,5,7,8,9,10,13,14,15,16,17,18,19,20,21]/\
 At (zc R T I Q c) ([an 0 0,ε 6 0 (bx R.me y2 y3).length,ζ γ (↑((bx R.me y2 y3).length - 0):Int),ζ γ 0],[cT R (ζ γ bp) (ai T) (ξ true) (bb 1) (bb 2) bC (ε 5 0 (nO R)) (ε 4 0 (nD R)),aj I,aj Q,aa,rD R,rO R,υ 3 1 (ints γ (iu R.me y2 y3))])/\
 ∀(y5:{y4:Nat // y4<=(aQ R).length/\
 (R.ti+1).tmod 3=0}),let cw:=(↑y5.val:Int)<(↑(aQ R).length:Int);let cf:=ε 5 0 (nO R+(tks R c I Q y5.val).length+1);let aV:=(nO R+(tks R c I Q y5.val).length);let aL:=(ae bR R.out++ae bR (tks R c I Q y5.val));let bV:=nO R+(tks R c I Q y5.val).length=aL.length;let ah:=[an 0 0,ε 6 0 (aQ R).length,ζ γ (↑(aQ R).length:Int),ζ γ (γ.wrap ((↑y5.val:Int)+1))];let κ:=Nx (zc R T I Q c) y5 (ah,[cT R (ζ γ (R.ti+1)) (ai T) (ξ true) (bb 1) (bb 2) bC (ε 5 0 aV) (ε 4 0 (nD R)),aj I,aj Q,aa,rD R,υ 107 5 aL,υ 3 1 aJ]);(decide (cw)=true->
 bj (↑y5.val:Int) ((aQ R).length - 0)/\
 ∃(y6:List D),aJ[0+(↑y5.val:Int).toNat]? =some y6/\
 ∃(y7:Int),y6[0]? =some (η (φ γ y7))/\
 (∀(y8:List D),bK I [y7]=some y8->
 gQ [CK.bool] y8)/\
 ((!jn I [y7] 0)=true->
 ∀(y9:Nat->
 Value),bV/\
 bP aV/\
 ∃(cO:List Int),∃(cC:List L3),iJ (aU ν R.c) cO/\
 bG T cC/\
 bw y9 [0,2,3,8,9,10,11,12,13,14,15,16,17,18,19,21]/\
 Nx (zc R T I Q c) y5 (ah,[aw [ζ γ R.me,ζ γ R.id,ξ R.bl,ξ R.lo,ζ γ R.ep,ζ γ R.nu,bD 128 (aU ν cO),ai T,ζ γ R.v.vi,ζ γ R.v.vv,ζ γ R.v.ve,bW,cK,ξ true,bb 1,bb 2,aO (mU bn c),ζ γ R.ce,ξ R.ch,ζ γ (R.ti+1),cf,ε 4 0 (nD R)],aj I,aj Q,aa,rD R,υ 107 5 (ae bR R.out++ae bR (tks R c I Q y5.val)++[[dn γ y7,η (φ γ 10),ω 1 [[dn γ R.id],[dn γ R.ep],[dn γ R.nu]],ω 1 (ints ν (bZ cO)),ω 1 [[ω 1 (ints ν (be cC))]]]]),υ 3 1 aJ]))/\
 ((!jn I [y7] 0)=false->
 ((!(mU bn c).isNone)=true->
 (∀(cD:List D),bK Q [y7]=some cD->
 gQ [CK.bool] cD)/\
 ((!jn Q [y7] 0)=true->
 ∀(cM:Nat->
 Value),bV/\
 bP aV/\
 ∃(dC:List Int),∃(cX:Op),iJ (aU ν R.c) dC/\
 mU bn c=some (bn cX)/\
 bw cM [0,2,3,7,8,9,10,11,12,13,14,15,17,18,19,21]/\
 Nx (zc R T I Q c) y5 (ah,[aw [ζ γ R.me,ζ γ R.id,ξ R.bl,ξ R.lo,ζ γ R.ep,ζ γ R.nu,bD 128 (aU ν dC),ai T,ζ γ R.v.vi,ζ γ R.v.vv,ζ γ R.v.ve,bW,cK,ξ true,bb 1,bb 2,aO (mU bn c),ζ γ R.ce,ξ R.ch,ζ γ (R.ti+1),cf,ε 4 0 (nD R)],aj I,aj Q,aa,rD R,υ 107 5 (ae bR R.out++ae bR (tks R c I Q y5.val)++[[dn γ y7,η (φ γ 12),ω 1 [[dn γ R.id],[dn γ R.ep],[dn γ R.nu],[dn γ cX.cl],[dn γ cX.nm],[dn γ cX.kd],[dn γ cX.bk],[dn γ (dN dC)]],ω 1 (ints ν cX.b),ω 1 []]]),υ 3 1 aJ]))/\
 ((!jn Q [y7] 0)=false->
 κ))/\
 ((!(mU bn c).isNone)=false->
 κ)))/\
 (decide (cw)=false->
 K (av []) [cT R (ζ γ (R.ti+1)) (ai T) (ξ true) (bb 1) (bb 2) bC (ε 3 0 aV) (ε 4 0 (nD R)),aj I,aj Q,υ 107 5 aL,rD R])))
 ):aK Tryz.prog xp (U5 R T I Q c) 29 [an 0 0] [cR R (ai T) (ξ true) (.mp 1) (.mp 2) (.af (c.map bn)) (.sl 3 0 (nO R)) (.sl 4 0 (nD R)),aj I,aj Q,rO R,rD R] (gz 13 eO K):=by apply Eq.mp (a:=ar);kernel_rfl
theorem ahK (R:θ) (T:ML) (ο π:Value) (K:V->KB->Prop) (ar:
 let κ:=(γ.wrap (R.ti+1));((true=true->
 ∀(y1:Nat->
 Value),K (av []) [cT R (ζ γ κ) (ai T) (ξ false) (δ (y1 14)) (δ (y1 15)) (aO none) (ε 1 0 (nO R)) (ε 2 0 (nD R)),rO R,rD R])/\
 (true=false->
 ((κ.tmod 3 != 0)=true->
 ∀(y2:Nat->
 Value),K (av []) [cT R (ζ γ κ) (ai T) (ξ false) (δ (y2 14)) (δ (y2 15)) (aO none) (ε 1 0 (nO R)) (ε 2 0 (nD R)),rO R,rD R])/\
 ((κ.tmod 3 != 0)=false->
 At F5 ([],[cT R (ζ γ κ) (ai T) (ξ false) (δ ο) (δ π) (aO none) (ε 1 0 (nO R)) (ε 2 0 (nD R)),rO R,rD R]))))/\
 True
 ):aK Tryz.prog xp (cutAt 1002) 29 [an 0 0] [cR R (ai T) (ξ false) (δ ο) (δ π) (.af none) (.sl 1 0 (nO R)) (.sl 2 0 (nD R)),rO R,rD R] (gz 13 eO K):=by apply Eq.mp (a:=ar);kernel_rfl
theorem afQ {R:θ} (hl:R.ld=none):cL R={R with ti:=R.ti+1 }:=by unfold cL;rw[hl]
theorem afP {R:θ} {L:bX} (hl:R.ld=some L) (h:¬ (R.ti+1).tmod 3=0):cL R={R with ti:=R.ti+1 }:=by unfold cL;rw[hl];exact if_neg h
theorem afO {R:θ} {L:bX} (hl:R.ld=some L) (h:(R.ti+1).tmod 3=0):cL R={R with ti:=R.ti+1,out:=R.out++(aQ R).flatMap (fX R L) }:=by unfold cL;rw[hl];exact if_pos h
theorem zd {R:θ} {c:Option Op} {I Q:ML} {i:Nat} (h:i<(aQ R).length):tks R c I Q (i+1)=tks R c I Q i++fX R (rI c I Q) (aQ R)[i]:=by
 unfold tks;rw[j2,bz h,List.flatMap_append];simp
theorem af2 {R:θ} {c:Option Op} {I Q:ML} (i:Nat):(tks R c I Q i).length<=i:=by
 induction i with
 |zero=>simp [tks]
 |succ i ih=>
  rcases jF i (aQ R).length with h | h
  ·rw[zd h,bo]
   have:(fX R (rI c I Q) (aQ R)[i]).length<=1:=by
    unfold fX
    split
    ·simp
    ·split
     ·split<;>simp
     ·simp
   omega
  ·have:tks R c I Q (i+1)=tks R c I Q i:=by unfold tks;rw[fI (by omega),fI h]
   rw[this];omega
theorem aaZ {L:bX} {c:Option Op} {I Q:ML} (hI:MB I L.ins) (hQ:MB Q L.cy) (hc:L.cur=c):rI c I Q=L:=by
 obtain⟨a,b,d⟩:=L
 simp only at hc
 subst hc
 unfold rI
 have e1:(fun n=>jn I [n] 0)=a:=funext hI.f
 have e2:(fun n=>jn Q [n] 0)=b:=funext hQ.f
 rw[e1,e2]
theorem ND {M:ML} (h:lz M) {k:List Int}:∀ cs,bK M k=some cs->gQ [CK.bool] cs:=fun cs hc=>by
 obtain⟨b,rfl⟩:=h.h _ _ hc
 exact⟨b,[],rfl,rfl⟩
theorem af1:dP Tryz.prog KN:=fun f k h=>by
 unfold KN at h
 split at h
 ·cases h;exact fy CJ _
 ·cases h;exact fy Jn _
 ·cases h;exact fy R7 _
 ·cases h
theorem MI:b9 Tryz.prog xp:=dY mixed af1 aI 10
theorem afW (R:θ) (T:ML) (ο π:Value) (hT:bG T R.t) (hl:R.ld=none) (hR:dz R) (h0:0<=R.ti) (h1:R.ti<=2199023255552) (hroom:R.out.length+(aQ R).length<=100000) (K:V->KB->Prop) (hK:∀ kb',aB (cL R) kb'->K (.χ []) kb'):aK Tryz.prog xp (cutAt 1002) 29 [an 0 0] [cR R (ai T) (ξ false) (δ ο) (δ π) (.af none) (.sl 1 0 (nO R)) (.sl 2 0 (nD R)),rO R,rD R] (gz 13 eO K):=by
 have fin:∀{R':θ} {kb':KB},cL R=R'->aB R' kb'->K (.χ []) kb':=fun{R' kb'} h1 h2=>by
  have:=hK kb'
  rw[h1]at this
  exact this h2
 have ew:γ.wrap (R.ti+1)=R.ti+1:=bS (by omega) (by omega)
 refine ahK R T ο π K ?_
 rw[ew]
 exact⟨⟨fun _ f=>fin (afQ hl) (by
  unfold aB
  simp only[hl]
  refine⟨f 14,f 15,T,hT,?_⟩
  rfl),fun f=>(by cases f)⟩,trivial⟩
theorem afV (R:θ) (T:ML) (I Q:ML) (L:bX) (hT:bG T R.t) (hl:R.ld=some L) (hI:MB I L.ins) (hQ:MB Q L.cy) (hR:dz R) (h0:0<=R.ti) (h1:R.ti<=2199023255552) (hroom:R.out.length+(aQ R).length<=100000) (K:V->KB->Prop) (hK:∀ kb',aB (cL R) kb'->K (.χ []) kb'):aK Tryz.prog xp (U5 R T I Q L.cur) 29 [an 0 0] [cR R (ai T) (ξ true) (.mp 1) (.mp 2) (.af (L.cur.map bn)) (.sl 3 0 (nO R)) (.sl 4 0 (nD R)),aj I,aj Q,rO R,rD R] (gz 13 eO K):=by
 have fin:∀{R':θ} {kb':KB},cL R=R'->aB R' kb'->K (.χ []) kb':=fun{R' kb'} h1 h2=>by
  have:=hK kb'
  rw[h1]at this
  exact this h2
 have ew:γ.wrap (R.ti+1)=R.ti+1:=bS (by omega) (by omega)
 have h5:dH (R.v.mem.length+R.v.aC.length):=⟨by have:=hR.vl;omega⟩
 have mX:iJ (aU ν R.c) R.c:=⟨rfl,hR.cl,hR.cb⟩
 refine ahJ R T I Q L.cur K ?_
 rw[ew]
 refine⟨fun f=>(by cases f),fun _=>⟨fun e=>fin (afP hl (by simpa using e)) (by
  unfold aB
  simp only[hl]
  refine⟨I,Q,T,hI,hQ,hT,?_⟩
  rfl),fun e f=>⟨R.v.mem,R.v.aC,rfl,rfl,h5,⟨by simp [bQ]⟩,At.mk' ⟨0,bt _,by simpa using e⟩ ?_,?_⟩⟩⟩
 ·simp [tks,aQ]
 ·rintro⟨i,HK,hz⟩
  refine⟨fun hlt=>?_,fun hlt=>?_⟩
  ·have hlt:i<(aQ R).length:=by simpa using hlt
   have di:(iu R.me R.v.mem R.v.aC)[i]? =(aQ R)[i]?:=Jx hlt
   have wz:=bS (n:=(i:Int)+1) (by omega) (by omega)
   have pr:nO R+(tks R L.cur I Q i).length=(ae bR R.out++ae bR (tks R L.cur I Q i)).length:=by simp [nO]
   have pl:bP (nO R+(tks R L.cur I Q i).length):=⟨by have:=af2 (R:=R) (c:=L.cur) (I:=I) (Q:=Q) i;simp [nO];omega⟩
   refine⟨BY (by simpa using hlt),[dn γ (aQ R)[i]],?_,(aQ R)[i],rfl,ND hI.b,fun e1 f=>⟨pr,pl,R.c,R.t,mX,hT,⟨by simp [bQ]⟩,Nx.mk' ⟨i+1,hlt,hz⟩ (by
     have eh:tks R L.cur I Q (i+1)=tks R L.cur I Q i++[jh R (aQ R)[i]]:=by rw[zd hlt];simp [fX,rI,show jn I [(aQ R)[i]] 0=false by simpa using e1]
     simp only[wz]
     simp [eh,cT,bR,jo,jh,j8,gB,mM,qb,fW,dn,ints,gR]
     try rfl) (by show(aQ R).length - (i+1)<(aQ R).length - i;omega)⟩,fun e1=>?_⟩
   ·simp only[dD,cQ]
    rw[ints_getElem?,di,bz hlt];rfl
   ·cases hp:L.cur.isNone with
    |true=>
     have hp:L.cur=none:=by simpa using hp
     refine⟨fun f=>(by rw[hp]at f;cases f),fun _=>Nx.mk' ⟨i+1,hlt,hz⟩ (by
     have eh:tks R L.cur I Q (i+1)=tks R L.cur I Q i++[]:=by rw[zd hlt];simp [fX,rI,hp,show jn I [(aQ R)[i]] 0=true by simpa using e1]
     simp only[wz]
     simp [eh,cT,bR,jo,jh,j8,gB,mM,qb,fW,dn,ints,gR]
     try rfl) (by show(aQ R).length - (i+1)<(aQ R).length - i;omega)⟩
    |false=>
     obtain⟨p,hp⟩:∃ p,L.cur=some p:=Option.ne_none_iff_exists'.1 fun h=>by rw[h]at hp;cases hp
     refine⟨fun _=>⟨ND hQ.b,fun e2 f=>⟨pr,pl,R.c,p,mX,by rw[hp];rfl,⟨by simp [bQ]⟩,Nx.mk' ⟨i+1,hlt,hz⟩ (by
     have eh:tks R L.cur I Q (i+1)=tks R L.cur I Q i++[j8 R p (aQ R)[i]]:=by rw[zd hlt];simp [fX,rI,hp,show jn I [(aQ R)[i]] 0=true by simpa using e1,show jn Q [(aQ R)[i]] 0=false by simpa using e2]
     simp only[wz]
     simp [eh,cT,bR,jo,jh,j8,gB,mM,qb,fW,dn,ints,gR]
     try rfl) (by show(aQ R).length - (i+1)<(aQ R).length - i;omega)⟩,fun e2=>Nx.mk' ⟨i+1,hlt,hz⟩ (by
     have eh:tks R L.cur I Q (i+1)=tks R L.cur I Q i++[]:=by rw[zd hlt];simp [fX,rI,hp,show jn I [(aQ R)[i]] 0=true by simpa using e1,show jn Q [(aQ R)[i]] 0=true by simpa using e2]
     simp only[wz]
     simp [eh,cT,bR,jo,jh,j8,gB,mM,qb,fW,dn,ints,gR]
     try rfl) (by show(aQ R).length - (i+1)<(aQ R).length - i;omega)⟩,fun f=>(by rw[hp]at f;cases f)⟩
  ·have hi2:i=(aQ R).length:=by
    have:¬ i<(aQ R).length:=by simpa using hlt
    omega
   subst hi2
   refine fin (afO hl hz) ?_
   unfold aB
   simp only[hl]
   refine⟨I,Q,T,hI,hQ,hT,?_⟩
   have e2:tks R L.cur I Q (aQ R).length=(aQ R).flatMap (fX R L):=by unfold tks;rw[cZ,aaZ hI hQ rfl]
   simp [cR,cT,e2]
def Wr:aD:=fun args kb K=>∃ R,args=[an 0 0]/\aB R kb/\dz R/\0<=R.ti/\R.ti<=2199023255552/\R.out.length+(aQ R).length<=100000/\∀ kb',aB (cL R) kb'->K (.χ []) kb'
theorem ac1:gq Tryz.prog 29 Wr:=ur mixed 13 eO (fun args kb K h=>by
 obtain⟨R,rfl,hkb,hR,h0,h1,hroom,hK⟩:=h
 have i_:=hkb
 unfold aB at hkb
 split at hkb
 ·rename_i hl
  obtain⟨ο,π,T,hT,rfl⟩:=hkb
  exact⟨_,_,MI,afW R T ο π hT hl hR h0 h1 hroom K hK⟩
 ·rename_i L hl
  obtain⟨I,Q,T,hI,hQ,hT,rfl⟩:=hkb
  exact⟨_,_,MI,afV R T I Q L hT hl hI hQ hR h0 h1 hroom K hK⟩)
def Kh:FuncId->Option dK
 | 49=>some ⟨[],eB [true,true,true,true,true,true,false,true,true,true,true,true,true,true,true,true,true,true,true,true,true,true] xe⟩
 |_=>none
noncomputable def xo:bN:=dU Tryz.prog Kh aI 10
abbrev Nd:=fun(R:θ) mC (K:V->KB->Prop)=>(
 nO R<=(nO R)/\
 K (aH (ω 5 (ax 0 (aA (nO R) (ae bR R.out))))) mC
 :Prop)
theorem ahh (R:θ) (T:ML) (ο π:Value) (K:V->KB->Prop) (ar:
 Nd R [cR R (ai T) (ξ false) (δ ο) (δ π) (aO none) (ε 1 0 0) (ε 2 0 (nD R)),υ 107 5 [],rD R] K
 ):aK Tryz.prog X0 (aI 46) 46 [an 0 0] [cR R (ai T) (ξ false) (δ ο) (δ π) (.af none) (.sl 1 0 (nO R)) (.sl 2 0 (nD R)),rO R,rD R] (jJ [.fk 5] (fA [.cell 0 147 107 5] (eX K))):=by apply Eq.mp (a:=ar);kernel_rfl
theorem ahg (R:θ) (T:ML) (I Q:ML) (u:Option (List D)) (K:V->KB->Prop) (ar:
 Nd R [cR R (ai T) (ξ true) (bb 1) (bb 2) (aO u) (ε 3 0 0) (ε 4 0 (nD R)),aj I,aj Q,υ 107 5 [],rD R] K
 ):aK Tryz.prog X0 (aI 46) 46 [an 0 0] [cR R (ai T) (ξ true) (.mp 1) (.mp 2) (.af u) (.sl 3 0 (nO R)) (.sl 4 0 (nD R)),aj I,aj Q,rO R,rD R] (jJ [.fk 5] (fA [.cell 0 147 107 5] (eX K))):=by apply Eq.mp (a:=ar);kernel_rfl
abbrev Nb:=fun(R:θ) mC (K:V->KB->Prop)=>(
 nD R<=(nD R)/\
 K (aH (ω 7 (ax 0 (aA (nD R) (ae dv R.done))))) mC
 :Prop)
theorem agG (R:θ) (T:ML) (ο π:Value) (K:V->KB->Prop) (ar:
 Nb R [cR R (ai T) (ξ false) (δ ο) (δ π) (aO none) (ε 1 0 (nO R)) (ε 2 0 0),rO R,υ 70 7 []] K
 ):aK Tryz.prog X0 (aI 24) 24 [an 0 0] [cR R (ai T) (ξ false) (δ ο) (δ π) (.af none) (.sl 1 0 (nO R)) (.sl 2 0 (nD R)),rO R,rD R] (jJ [.fk 7] (fA [.cell 0 148 70 7] (eX K))):=by apply Eq.mp (a:=ar);kernel_rfl
theorem agF (R:θ) (T:ML) (I Q:ML) (u:Option (List D)) (K:V->KB->Prop) (ar:
 Nb R [cR R (ai T) (ξ true) (bb 1) (bb 2) (aO u) (ε 3 0 (nO R)) (ε 4 0 0),aj I,aj Q,rO R,υ 70 7 []] K
 ):aK Tryz.prog X0 (aI 24) 24 [an 0 0] [cR R (ai T) (ξ true) (.mp 1) (.mp 2) (.af u) (.sl 3 0 (nO R)) (.sl 4 0 (nD R)),aj I,aj Q,rO R,rD R] (jJ [.fk 7] (fA [.cell 0 148 70 7] (eX K))):=by apply Eq.mp (a:=ar);kernel_rfl
abbrev Na:=fun(R:θ) mC (K:V->KB->Prop)=>(
 K (ξ R.ch) mC
 :Prop)
theorem agp (R:θ) (T:ML) (ο π:Value) (K:V->KB->Prop) (ar:
 Na R [cS R (ζ γ R.nu) (bD 128 (aU ν R.c)) (ξ false) (ai T) (ξ false) (δ ο) (δ π) (aO none) (ε 1 0 (nO R)) (ε 2 0 (nD R)),rO R,rD R] K
 ):aK Tryz.prog X0 (aI 25) 25 [an 0 0] [cR R (ai T) (ξ false) (δ ο) (δ π) (.af none) (.sl 1 0 (nO R)) (.sl 2 0 (nD R)),rO R,rD R] (eX K):=by apply Eq.mp (a:=ar);kernel_rfl
theorem ago (R:θ) (T:ML) (I Q:ML) (u:Option (List D)) (K:V->KB->Prop) (ar:
 Na R [cS R (ζ γ R.nu) (bD 128 (aU ν R.c)) (ξ false) (ai T) (ξ true) (bb 1) (bb 2) (aO u) (ε 3 0 (nO R)) (ε 4 0 (nD R)),aj I,aj Q,rO R,rD R] K
 ):aK Tryz.prog X0 (aI 25) 25 [an 0 0] [cR R (ai T) (ξ true) (.mp 1) (.mp 2) (.af u) (.sl 3 0 (nO R)) (.sl 4 0 (nD R)),aj I,aj Q,rO R,rD R] (eX K):=by apply Eq.mp (a:=ar);kernel_rfl
abbrev Nc:=fun(R:θ) mC (K:V->KB->Prop)=>(
 K (av [ζ γ R.ep,ζ γ R.nu]) mC
 :Prop)
theorem agJ (R:θ) (T:ML) (ο π:Value) (K:V->KB->Prop) (ar:
 Nc R [cR R (ai T) (ξ false) (δ ο) (δ π) (aO none) (ε 1 0 (nO R)) (ε 2 0 (nD R)),rO R,rD R] K
 ):aK Tryz.prog X0 (aI 13) 13 [an 0 0] [cR R (ai T) (ξ false) (δ ο) (δ π) (.af none) (.sl 1 0 (nO R)) (.sl 2 0 (nD R)),rO R,rD R] (eX K):=by apply Eq.mp (a:=ar);kernel_rfl
theorem agI (R:θ) (T:ML) (I Q:ML) (u:Option (List D)) (K:V->KB->Prop) (ar:
 Nc R [cR R (ai T) (ξ true) (bb 1) (bb 2) (aO u) (ε 3 0 (nO R)) (ε 4 0 (nD R)),aj I,aj Q,rO R,rD R] K
 ):aK Tryz.prog X0 (aI 13) 13 [an 0 0] [cR R (ai T) (ξ true) (.mp 1) (.mp 2) (.af u) (.sl 3 0 (nO R)) (.sl 4 0 (nD R)),aj I,aj Q,rO R,rD R] (eX K):=by apply Eq.mp (a:=ar);kernel_rfl
abbrev Nf:=fun(R:θ) (mC:(List Int)->_) (K:V->KB->Prop)=>(
 ∀(y1:Nat->
 Value),∃(y2:List Int),aU ν R.c=aU ν y2/\
 y2.length=128/\
 (∀(y3:Int),dW y3 y2->
 0<=y3/\
 y3<256)/\
 bw y1 [0,1,2,3,4,5,7,8,9,10,11,12,13,14,15,16,17,18,19,20,21]/\
 K (ζ iy (dN y2)) (mC y2)
 :Prop)
theorem ahA (R:θ) (T:ML) (ο π:Value) (K:V->KB->Prop) (ar:
 Nf R (fun y2=>[cS R (ζ γ R.nu) (bD 128 (aU ν y2)) (ξ R.ch) (ai T) (ξ false) (δ ο) (δ π) (aO none) (ε 1 0 (nO R)) (ε 2 0 (nD R)),rO R,rD R]) K
 ):aK Tryz.prog xo (aI 18) 18 [an 0 0] [cR R (ai T) (ξ false) (δ ο) (δ π) (.af none) (.sl 1 0 (nO R)) (.sl 2 0 (nD R)),rO R,rD R] (eX K):=by apply Eq.mp (a:=ar);kernel_rfl
theorem ahz (R:θ) (T:ML) (I Q:ML) (u:Option (List D)) (K:V->KB->Prop) (ar:
 Nf R (fun y2=>[cS R (ζ γ R.nu) (bD 128 (aU ν y2)) (ξ R.ch) (ai T) (ξ true) (bb 1) (bb 2) (aO u) (ε 3 0 (nO R)) (ε 4 0 (nD R)),aj I,aj Q,rO R,rD R]) K
 ):aK Tryz.prog xo (aI 18) 18 [an 0 0] [cR R (ai T) (ξ true) (.mp 1) (.mp 2) (.af u) (.sl 3 0 (nO R)) (.sl 4 0 (nD R)),aj I,aj Q,rO R,rD R] (eX K):=by apply Eq.mp (a:=ar);kernel_rfl
theorem ag1 (R:θ) (T:ML) (ο π:Value) (K:V->KB->Prop) (ar:
 ∀(y1:Nat->
 Value),false=false/\
 bw y1 [0,1,2,3,4,5,7,8,9,10,11,12,14,15,17,18,19,20,21]/\
 K (av [ξ false,ξ false,ξ false]) [cR R (ai T) (ξ false) (δ ο) (δ π) (aO none) (ε 1 0 (nO R)) (ε 2 0 (nD R)),rO R,rD R]
 ):eB [true,true,true,true,true,true,false,true,true,true,true,true,true,false,true,true,false,true,true,true,true,true] qQ [an 0 0] [cR R (ai T) (ξ false) (δ ο) (δ π) (.af none) (.sl 1 0 (nO R)) (.sl 2 0 (nD R)),rO R,rD R] (eX K):=by apply Eq.mp (a:=ar);kernel_rfl
theorem ag0 (R:θ) (T:ML) (I Q:ML) (u:Option (List D)) (K:V->KB->Prop) (ar:
 ∀(y1:Nat->
 Value),∃(y2:List Int),∃(y3:List Int),ints γ R.v.mem=ints γ y2/\
 ints γ R.v.aC=ints γ y3/\
 dH (y2.length+y3.length)/\
 lz I/\
 true=true/\
 bw y1 [1,2,3,4,5,7,8,9,10,15,17,18,19,20,21]/\
 K (av [ξ true,ξ (allI R.me y2 y3 I),ξ !u.isNone]) [cR R (ai T) (ξ true) (bb 1) (bb 2) (aO u) (ε 3 0 (nO R)) (ε 4 0 (nD R)),aj I,aj Q,rO R,rD R]
 ):eB [false,true,true,true,true,true,false,true,true,true,true,false,false,false,false,true,false,true,true,true,true,true] qQ [an 0 0] [cR R (ai T) (ξ true) (.mp 1) (.mp 2) (.af u) (.sl 3 0 (nO R)) (.sl 4 0 (nD R)),aj I,aj Q,rO R,rD R] (eX K):=by apply Eq.mp (a:=ar);kernel_rfl
theorem IE {P:Program} (hm:P.follows .mixedOrders=true) (ms:List Vc.Mode) (ds:List jG) {f:FuncId} {S:aD} (h:∀ args kb K,S args kb K->∃(X:bN) (T:Nat->Option LI),b9 P X/\aK P X T f args kb (jJ ms (fA ds (eX K)))):gq P f S:=
 ID (IW (O7 (wB hm (S:=fun a k K0=>∃ X T,b9 P X/\aK P X T f a k K0) fun _ _ _ h=>h) ms) ds) h
def Wu:aD:=fun args kb K=>∃ ms,eB ms qQ args kb K
theorem Wv:aR Tryz.prog 14 Wu:=fun args kb K ⟨ms,h⟩=>fy Jk ms args kb K h
theorem aeV:dP Tryz.prog Kh:=fun f k h=>by
 unfold Kh at h
 split at h
 ·cases h;exact fy Jj _
 ·cases h
theorem MF:b9 Tryz.prog xo:=dY mixed aeV aI 10
theorem ad2 (R:θ) (T:ML) (ο π:Value) (hT:bG T R.t) (hl:R.ld=none) (hR:dz R) (K:V->KB->Prop) (hK:∀ kb',aB {R with out:=[] } kb'->K (aH (.sl 5 (R.out.map bR))) kb'):aK Tryz.prog X0 (aI 46) 46 [an 0 0] [cR R (ai T) (ξ false) (δ ο) (δ π) (.af none) (.sl 1 0 (nO R)) (.sl 2 0 (nD R)),rO R,rD R] (jJ [.fk 5] (fA [.cell 0 147 107 5] (eX K))):=by
 have fin:∀{kb'},aB {R with out:=[] } kb'->∀{r},r=(aH (.sl 5 (R.out.map bR)))->K r kb':=fun h r e=>e ▸ hK _ h
 refine ahh R T ο π K ⟨au _,fin ?_ (by rw[iX,fI (au _)])⟩
 unfold aB
 simp only[hl]
 exact⟨ο,π,T,hT,rfl⟩
theorem ad1 (R:θ) (T:ML) (I Q:ML) (L:bX) (hT:bG T R.t) (hl:R.ld=some L) (hI:MB I L.ins) (hQ:MB Q L.cy) (hR:dz R) (K:V->KB->Prop) (hK:∀ kb',aB {R with out:=[] } kb'->K (aH (.sl 5 (R.out.map bR))) kb'):aK Tryz.prog X0 (aI 46) 46 [an 0 0] [cR R (ai T) (ξ true) (.mp 1) (.mp 2) (.af (L.cur.map bn)) (.sl 3 0 (nO R)) (.sl 4 0 (nD R)),aj I,aj Q,rO R,rD R] (jJ [.fk 5] (fA [.cell 0 147 107 5] (eX K))):=by
 have fin:∀{kb'},aB {R with out:=[] } kb'->∀{r},r=(aH (.sl 5 (R.out.map bR)))->K r kb':=fun h r e=>e ▸ hK _ h
 refine ahg R T I Q (L.cur.map bn) K ⟨au _,fin ?_ (by rw[iX,fI (au _)])⟩
 unfold aB
 simp only[hl]
 exact⟨I,Q,T,hI,hQ,hT,rfl⟩
def Wl:aD:=fun args kb K=>∃ R,args=[an 0 0]/\aB R kb/\dz R/\∀ kb',aB {R with out:=[] } kb'->K (aH (.sl 5 (R.out.map bR))) kb'
set_option maxHeartbeats 4000000 in
theorem acs:gq Tryz.prog 46 Wl:=IE mixed [.fk 5] [.cell 0 147 107 5] (fun args kb K h=>by
 obtain⟨R,rfl,hkb,hR,hK⟩:=h
 have i_:=hkb
 unfold aB at hkb
 split at hkb
 ·rename_i hl
  obtain⟨ο,π,T,hT,rfl⟩:=hkb
  exact⟨_,_,hZ,ad2 R T ο π hT hl hR K hK⟩
 ·rename_i L hl
  obtain⟨I,Q,T,hI,hQ,hT,rfl⟩:=hkb
  exact⟨_,_,hZ,ad1 R T I Q L hT hl hI hQ hR K hK⟩)
theorem adV (R:θ) (T:ML) (ο π:Value) (hT:bG T R.t) (hl:R.ld=none) (hR:dz R) (K:V->KB->Prop) (hK:∀ kb',aB {R with done:=[] } kb'->K (aH (.sl 7 (R.done.map dv))) kb'):aK Tryz.prog X0 (aI 24) 24 [an 0 0] [cR R (ai T) (ξ false) (δ ο) (δ π) (.af none) (.sl 1 0 (nO R)) (.sl 2 0 (nD R)),rO R,rD R] (jJ [.fk 7] (fA [.cell 0 148 70 7] (eX K))):=by
 have fin:∀{kb'},aB {R with done:=[] } kb'->∀{r},r=(aH (.sl 7 (R.done.map dv)))->K r kb':=fun h r e=>e ▸ hK _ h
 refine agG R T ο π K ⟨au _,fin ?_ (by rw[iX,fI (au _)])⟩
 unfold aB
 simp only[hl]
 exact⟨ο,π,T,hT,rfl⟩
theorem adU (R:θ) (T:ML) (I Q:ML) (L:bX) (hT:bG T R.t) (hl:R.ld=some L) (hI:MB I L.ins) (hQ:MB Q L.cy) (hR:dz R) (K:V->KB->Prop) (hK:∀ kb',aB {R with done:=[] } kb'->K (aH (.sl 7 (R.done.map dv))) kb'):aK Tryz.prog X0 (aI 24) 24 [an 0 0] [cR R (ai T) (ξ true) (.mp 1) (.mp 2) (.af (L.cur.map bn)) (.sl 3 0 (nO R)) (.sl 4 0 (nD R)),aj I,aj Q,rO R,rD R] (jJ [.fk 7] (fA [.cell 0 148 70 7] (eX K))):=by
 have fin:∀{kb'},aB {R with done:=[] } kb'->∀{r},r=(aH (.sl 7 (R.done.map dv)))->K r kb':=fun h r e=>e ▸ hK _ h
 refine agF R T I Q (L.cur.map bn) K ⟨au _,fin ?_ (by rw[iX,fI (au _)])⟩
 unfold aB
 simp only[hl]
 exact⟨I,Q,T,hI,hQ,hT,rfl⟩
def Wf:aD:=fun args kb K=>∃ R,args=[an 0 0]/\aB R kb/\dz R/\∀ kb',aB {R with done:=[] } kb'->K (aH (.sl 7 (R.done.map dv))) kb'
set_option maxHeartbeats 4000000 in
theorem abU:gq Tryz.prog 24 Wf:=IE mixed [.fk 7] [.cell 0 148 70 7] (fun args kb K h=>by
 obtain⟨R,rfl,hkb,hR,hK⟩:=h
 have i_:=hkb
 unfold aB at hkb
 split at hkb
 ·rename_i hl
  obtain⟨ο,π,T,hT,rfl⟩:=hkb
  exact⟨_,_,hZ,adV R T ο π hT hl hR K hK⟩
 ·rename_i L hl
  obtain⟨I,Q,T,hI,hQ,hT,rfl⟩:=hkb
  exact⟨_,_,hZ,adU R T I Q L hT hl hI hQ hR K hK⟩)
theorem adT (R:θ) (T:ML) (ο π:Value) (hT:bG T R.t) (hl:R.ld=none) (hR:dz R) (K:V->KB->Prop) (hK:∀ kb',aB {R with ch:=false } kb'->K (ξ R.ch) kb'):aK Tryz.prog X0 (aI 25) 25 [an 0 0] [cR R (ai T) (ξ false) (δ ο) (δ π) (.af none) (.sl 1 0 (nO R)) (.sl 2 0 (nD R)),rO R,rD R] (eX K):=by
 have fin:∀{kb'},aB {R with ch:=false } kb'->∀{r},r=(ξ R.ch)->K r kb':=fun h r e=>e ▸ hK _ h
 refine agp R T ο π K (fin ?_ rfl)
 unfold aB
 simp only[hl]
 exact⟨ο,π,T,hT,rfl⟩
theorem adS (R:θ) (T:ML) (I Q:ML) (L:bX) (hT:bG T R.t) (hl:R.ld=some L) (hI:MB I L.ins) (hQ:MB Q L.cy) (hR:dz R) (K:V->KB->Prop) (hK:∀ kb',aB {R with ch:=false } kb'->K (ξ R.ch) kb'):aK Tryz.prog X0 (aI 25) 25 [an 0 0] [cR R (ai T) (ξ true) (.mp 1) (.mp 2) (.af (L.cur.map bn)) (.sl 3 0 (nO R)) (.sl 4 0 (nD R)),aj I,aj Q,rO R,rD R] (eX K):=by
 have fin:∀{kb'},aB {R with ch:=false } kb'->∀{r},r=(ξ R.ch)->K r kb':=fun h r e=>e ▸ hK _ h
 refine ago R T I Q (L.cur.map bn) K (fin ?_ rfl)
 unfold aB
 simp only[hl]
 exact⟨I,Q,T,hI,hQ,hT,rfl⟩
def We:aD:=fun args kb K=>∃ R,args=[an 0 0]/\aB R kb/\dz R/\∀ kb',aB {R with ch:=false } kb'->K (ξ R.ch) kb'
set_option maxHeartbeats 4000000 in
theorem abL:gq Tryz.prog 25 We:=Cq mixed (fun args kb K h=>by
 obtain⟨R,rfl,hkb,hR,hK⟩:=h
 have i_:=hkb
 unfold aB at hkb
 split at hkb
 ·rename_i hl
  obtain⟨ο,π,T,hT,rfl⟩:=hkb
  exact⟨_,_,hZ,adT R T ο π hT hl hR K hK⟩
 ·rename_i L hl
  obtain⟨I,Q,T,hI,hQ,hT,rfl⟩:=hkb
  exact⟨_,_,hZ,adS R T I Q L hT hl hI hQ hR K hK⟩)
theorem adX (R:θ) (T:ML) (ο π:Value) (hT:bG T R.t) (hl:R.ld=none) (hR:dz R) (K:V->KB->Prop) (hK:∀ kb',aB R kb'->K (.χ [.int γ R.ep,.int γ R.nu]) kb'):aK Tryz.prog X0 (aI 13) 13 [an 0 0] [cR R (ai T) (ξ false) (δ ο) (δ π) (.af none) (.sl 1 0 (nO R)) (.sl 2 0 (nD R)),rO R,rD R] (eX K):=by
 have fin:∀{kb'},aB R kb'->∀{r},r=(.χ [.int γ R.ep,.int γ R.nu])->K r kb':=fun h r e=>e ▸ hK _ h
 refine agJ R T ο π K (fin ?_ rfl)
 unfold aB
 simp only[hl]
 exact⟨ο,π,T,hT,rfl⟩
theorem adW (R:θ) (T:ML) (I Q:ML) (L:bX) (hT:bG T R.t) (hl:R.ld=some L) (hI:MB I L.ins) (hQ:MB Q L.cy) (hR:dz R) (K:V->KB->Prop) (hK:∀ kb',aB R kb'->K (.χ [.int γ R.ep,.int γ R.nu]) kb'):aK Tryz.prog X0 (aI 13) 13 [an 0 0] [cR R (ai T) (ξ true) (.mp 1) (.mp 2) (.af (L.cur.map bn)) (.sl 3 0 (nO R)) (.sl 4 0 (nD R)),aj I,aj Q,rO R,rD R] (eX K):=by
 have fin:∀{kb'},aB R kb'->∀{r},r=(.χ [.int γ R.ep,.int γ R.nu])->K r kb':=fun h r e=>e ▸ hK _ h
 refine agI R T I Q (L.cur.map bn) K (fin ?_ rfl)
 unfold aB
 simp only[hl]
 exact⟨I,Q,T,hI,hQ,hT,rfl⟩
def Wg:aD:=fun args kb K=>∃ R,args=[an 0 0]/\aB R kb/\dz R/\∀ kb',aB R kb'->K (.χ [.int γ R.ep,.int γ R.nu]) kb'
set_option maxHeartbeats 4000000 in
theorem abW:gq Tryz.prog 13 Wg:=Cq mixed (fun args kb K h=>by
 obtain⟨R,rfl,hkb,hR,hK⟩:=h
 have i_:=hkb
 unfold aB at hkb
 split at hkb
 ·rename_i hl
  obtain⟨ο,π,T,hT,rfl⟩:=hkb
  exact⟨_,_,hZ,adX R T ο π hT hl hR K hK⟩
 ·rename_i L hl
  obtain⟨I,Q,T,hI,hQ,hT,rfl⟩:=hkb
  exact⟨_,_,hZ,adW R T I Q L hT hl hI hQ hR K hK⟩)
theorem ad4 (R:θ) (T:ML) (ο π:Value) (hT:bG T R.t) (hl:R.ld=none) (hR:dz R) (K:V->KB->Prop) (hK:∀ kb',aB R kb'->K (.int iy (dN R.c)) kb'):aK Tryz.prog xo (aI 18) 18 [an 0 0] [cR R (ai T) (ξ false) (δ ο) (δ π) (.af none) (.sl 1 0 (nO R)) (.sl 2 0 (nD R)),rO R,rD R] (eX K):=by
 have fin:∀{kb'},aB R kb'->∀{r},r=(.int iy (dN R.c))->K r kb':=fun h r e=>e ▸ hK _ h
 refine ahA R T ο π K fun f=>⟨R.c,rfl,hR.cl,fun c h=>hR.cb c h,⟨by simp [bQ]⟩,fin ?_ rfl⟩
 unfold aB
 simp only[hl]
 exact⟨ο,π,T,hT,rfl⟩
theorem ad3 (R:θ) (T:ML) (I Q:ML) (L:bX) (hT:bG T R.t) (hl:R.ld=some L) (hI:MB I L.ins) (hQ:MB Q L.cy) (hR:dz R) (K:V->KB->Prop) (hK:∀ kb',aB R kb'->K (.int iy (dN R.c)) kb'):aK Tryz.prog xo (aI 18) 18 [an 0 0] [cR R (ai T) (ξ true) (.mp 1) (.mp 2) (.af (L.cur.map bn)) (.sl 3 0 (nO R)) (.sl 4 0 (nD R)),aj I,aj Q,rO R,rD R] (eX K):=by
 have fin:∀{kb'},aB R kb'->∀{r},r=(.int iy (dN R.c))->K r kb':=fun h r e=>e ▸ hK _ h
 refine ahz R T I Q (L.cur.map bn) K fun f=>⟨R.c,rfl,hR.cl,fun c h=>hR.cb c h,⟨by simp [bQ]⟩,fin ?_ rfl⟩
 unfold aB
 simp only[hl]
 exact⟨I,Q,T,hI,hQ,hT,rfl⟩
def Wo:aD:=fun args kb K=>∃ R,args=[an 0 0]/\aB R kb/\dz R/\∀ kb',aB R kb'->K (.int iy (dN R.c)) kb'
set_option maxHeartbeats 4000000 in
theorem acW:gq Tryz.prog 18 Wo:=Cq mixed (fun args kb K h=>by
 obtain⟨R,rfl,hkb,hR,hK⟩:=h
 have i_:=hkb
 unfold aB at hkb
 split at hkb
 ·rename_i hl
  obtain⟨ο,π,T,hT,rfl⟩:=hkb
  exact⟨_,_,MF,ad4 R T ο π hT hl hR K hK⟩
 ·rename_i L hl
  obtain⟨I,Q,T,hI,hQ,hT,rfl⟩:=hkb
  exact⟨_,_,MF,ad3 R T I Q L hT hl hI hQ hR K hK⟩)
theorem adZ (R:θ) (T:ML) (ο π:Value) (hT:bG T R.t) (hl:R.ld=none) (hR:dz R) (K:V->KB->Prop) (hK:∀ kb',aB R kb'->K (.χ [ξ (eL R),ξ (ii R),ξ (l6 R)]) kb'):eB [true,true,true,true,true,true,false,true,true,true,true,true,true,false,true,true,false,true,true,true,true,true] qQ [an 0 0] [cR R (ai T) (ξ false) (δ ο) (δ π) (.af none) (.sl 1 0 (nO R)) (.sl 2 0 (nD R)),rO R,rD R] (eX K):=by
 have fin:∀{kb'},aB R kb'->∀{r},r=(.χ [ξ (eL R),ξ (ii R),ξ (l6 R)])->K r kb':=fun h r e=>e ▸ hK _ h
 refine ag1 R T ο π K fun f=>⟨rfl,⟨by simp [bQ]⟩,fin ?_ (by simp [eL,ii,l6,b_,hl])⟩
 unfold aB
 simp only[hl]
 exact⟨ο,π,T,hT,rfl⟩
theorem adY (R:θ) (T:ML) (I Q:ML) (L:bX) (hT:bG T R.t) (hl:R.ld=some L) (hI:MB I L.ins) (hQ:MB Q L.cy) (hR:dz R) (K:V->KB->Prop) (hK:∀ kb',aB R kb'->K (.χ [ξ (eL R),ξ (ii R),ξ (l6 R)]) kb'):eB [false,true,true,true,true,true,false,true,true,true,true,false,false,false,false,true,false,true,true,true,true,true] qQ [an 0 0] [cR R (ai T) (ξ true) (.mp 1) (.mp 2) (.af (L.cur.map bn)) (.sl 3 0 (nO R)) (.sl 4 0 (nD R)),aj I,aj Q,rO R,rD R] (eX K):=by
 have fin:∀{kb'},aB R kb'->∀{r},r=(.χ [ξ (eL R),ξ (ii R),ξ (l6 R)])->K r kb':=fun h r e=>e ▸ hK _ h
 refine ag0 R T I Q (L.cur.map bn) K fun f=>⟨R.v.mem,R.v.aC,rfl,rfl,⟨by have:=hR.vl;omega⟩,hI.b,rfl,⟨by simp [bQ]⟩,fin ?_ (by simp [eL,ii,l6,b_,hl,sw hI,aQ])⟩
 unfold aB
 simp only[hl]
 exact⟨I,Q,T,hI,hQ,hT,rfl⟩
def Wi:aD:=fun args kb K=>∃ R,args=[an 0 0]/\aB R kb/\dz R/\∀ kb',aB R kb'->K (.χ [ξ (eL R),ξ (ii R),ξ (l6 R)]) kb'
set_option maxHeartbeats 4000000 in
theorem acd:gq Tryz.prog 14 Wi:=ID Wv (fun args kb K h=>by
 obtain⟨R,rfl,hkb,hR,hK⟩:=h
 have i_:=hkb
 unfold aB at hkb
 split at hkb
 ·rename_i hl
  obtain⟨ο,π,T,hT,rfl⟩:=hkb
  exact⟨_,adZ R T ο π hT hl hR K hK⟩
 ·rename_i L hl
  obtain⟨I,Q,T,hI,hQ,hT,rfl⟩:=hkb
  exact⟨_,adY R T I Q L hT hl hI hQ hR K hK⟩)
end Go.Proofs.YtfcjngcnifdmnaaGreat
