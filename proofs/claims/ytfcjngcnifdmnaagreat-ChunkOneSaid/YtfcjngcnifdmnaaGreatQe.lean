import Derived.Test.YtfcjngcnifdmnaaGreatQd
import Derived.KernelRfl
namespace Go.Proofs.YtfcjngcnifdmnaaGreat
open Vc Go
open Go.IntKind renaming i64->Z,u8->ι,u32->ic
open Vc.V renaming any->γ,sl->δ,int->ε,sb->θ,ptr->aj,υ->aw,dat->aD,aa->aP,mp->aX,arr->bB,agg->fF
open Vc.D renaming val->ζ,sl->ψ
open Go.Value renaming int->ν,map->kq,oneCell'->lU,bool->nE
open Vc.KO renaming row->ξ,dead->χ,cells->ar,objs->cD
open List renaming map->φ,drop->ay,take->az,length_append->bn,getElem?_eq_getElem->bp,getElem?_eq_some_iff->bG,length_map->bX,take_length->cM,length_take->cQ,replicate->dq,mem_append->dM,append_assoc->dO,getElem?_append_left->dP,mem_singleton->dQ,Mem->dS,mem_cons->ey,mem_map->eL,take_of_length_le->eM,getElem?_append_right->eW,mem_of_getElem?->fi,append_nil->fD,getElem?_map->fE,mem_cons_of_mem->fM,length_drop->fQ,getElem?_set_ne->gr,getD_eq_getElem?_getD->gD,getElem?_eq_none->gO,drop_zero->g_,getElem?_take_of_lt->hU,getElem?_set_self->ig,length_singleton->ii,length_set->ir,mem_cons_self->iu,range->iw,mem_append_left->iL,length_cons->iZ,take_add_one->i_,flatten_cons->jm,getElem?_drop->jw,getElem?_of_mem->jx,map_append->jy,nil_append->jV,length_nil->kn,mem_filter->kM,ext_getElem?->lw,eq_nil_of_length_eq_zero->ma,map_cons->mb,mem_append_right->mc
open Nat renaming le_refl->av,zero_le->bt,beq->cp,eq_of_beq_eq_true->cU,zero_add->c9,add_assoc->gE,lor->iy,lt_or_ge->jX,sub_zero->lT,le_trans->mf
open Option renaming some->bb,bind_eq_some_iff->kP,map->mO
open Int renaming toNat_natCast->cP,le_refl->fa
open Bool renaming and_eq_true->km,not_eq_false'->lm,not_eq_true'->lR
set_option linter.unusedVariables false
set_option linter.unusedSimpArgs false
set_option maxRecDepth 100000
structure dY where
 kd:Int
 n:List Int
 b:List Int
 l:List (List Int)
structure Post where
 to:Int
 m:dY
structure Dn where
 o:Op
 e:Int
 x:List Int
structure de where
 ins:Int->Bool
 cN:Int->Bool
 cur:Option Op
structure Vw where
 vi:Int
 vv:Int
 ve:Int
 mem:List Int
 aM:List Int
structure κ where
 me:Int
 id:Int
 ep:Int
 nu:Int
 ce:Int
 ti:Int
 bl:Bool
 lo:Bool
 ch:Bool
 c:List Int
 t:List L3
 v:Vw
 ld:Option de
 out:List Post
 done:List Dn
def je (m:dY):List D:=[dn Z m.kd,.sl 1 (ints Z m.n),.sl 1 (ints ι m.b),.sl 1 (m.l.map fun x=>[.sl 1 (ints ι x)])]
def bV (p:Post):List D:=dn Z p.to::je p.m
def du (d:Dn):List D:=bo d.o++[dn Z d.e,.sl 1 (ints ι d.x)]
structure MB (M:ML) (f:Int->Bool):Prop where
 b:lp M
 f:∀ n,ij M [n] 0=f n
def gl (R:κ):List L3:=R.t
def aZ (R:κ):List Int:=bz R.me R.v.mem R.v.aM
def ib (R:κ) (to kd:Int) (n:List Int) (b:List Int) (l:List (List Int)):κ:={R with out:=R.out++[⟨to,⟨kd,R.id::R.ep::n,b,l⟩⟩] }
def qp (R:κ) (to:Int):κ:=ib R to 10 [R.nu] (b_ R.c) [bh (gl R)]
def pC (R:κ) (to:Int):κ:=ib R to 14 [R.nu] [] []
def xR (R:κ) (o:Op) (to:Int):κ:=ib R to 12 [R.nu,o.cl,o.nm,o.kd,o.bk,dZ R.c] o.b []
def cw (R:κ):Option Op:=R.ld.bind (·.cur)
def gn (R:κ):κ:={R with ld:=none,done:=R.done++(match cw R with | some o=>[⟨o,19,[]⟩] | none=>[]) }
def gB (o:Op):Bool:=ke o.cl o.nm o.kd o.bk o.b.length
def iO (o:Op):Bool:=nL o.kd
def j6 (t:List L3) (o:Op):List L3:=if iO o=true/\cX t o.cl o.nm 0=0 then oQ t o.cl o.nm 0 else t
def iB (R:κ) (o:Op):κ:={R with nu:=R.nu+1,ch:=true,c:=fc R.c o.kd o.bk o.b,t:=j6 R.t o }
def mD (c:List Int) (o:Op):List Int:=if o.kd=3 then(c.drop (o.bk.toNat*16)).take 16 else[]
def fV (R:κ):κ:=match R.ld with
 |some L=>match L.cur with
  |some o=>if(aZ R).all L.cN then{R with ld:=some {L with cur:=none },done:=R.done++[⟨o,0,mD R.c o⟩] }else R
  |none=>R
 |none=>R
def gW (R:κ):Bool:=match R.ld with
 |some L=>(aZ R).all L.ins
 |none=>false
def fp (R:κ):Bool:=R.ld.isSome
def lX (R:κ):Bool:=(cw R).isSome
def l4 (R:κ) (o:Op):Option (Int×κ):=
 if fT (gl R) o.cl o.nm=1 then some (0,{R with done:=R.done++[⟨o,sk (gl R) o.cl o.nm,[]⟩] })
 else if fT (gl R) o.cl o.nm=2 then some (13,R)
 else if cX (gl R) o.cl o.nm 0=0 then none else some (cX (gl R) o.cl o.nm 0,R)
def lV (R:κ) (L:de) (o:Op):κ:=
 let R1:={iB R o with ld:=some {L with cN:=fun _=>false,cur:=some o } }
 fV ((aZ R1).foldl (fun r k=>xR r o k) R1)
def eS (R:κ) (o:Op):Int×κ:=
 if gB o=false then(1,R)else match R.ld with
 |none=>(12,R)
 |some L=>if gW R=false then(12,R)else if lX R=true then(18,R)else
  match (if iO o then l4 R o else none)with
  |some (e,R1)=>(e,R1)
  |none=>(0,lV R L o)
structure dw (R:κ):Prop where
 cl:R.c.length=128
 cb:bm R.c
 n0:0<=R.nu
 n1:R.nu<=2199023255552
 vl:R.v.mem.length+R.v.aM.length<=1000
 ol:R.out.length<=100000
 dl:R.done.length<=100000
 cr:∀ o,cw R=some o->gB o=true
abbrev ai (Q:ML):KO:=.mp [Z] false false 1 Q
abbrev nO (R:κ):Nat:=(φ bV R.out).length
abbrev nD (R:κ):Nat:=(φ du R.done).length
abbrev rO (R:κ):KO:=.row 107 5 (φ bV R.out)
abbrev rD (R:κ):KO:=.row 70 7 (φ du R.done)
abbrev vV (o:Op):KO:=.cells [.int Z o.cl,.int Z o.nm,.int Z o.kd,.int Z o.bk,aD (.sl 1 (ints ι o.b))]
abbrev nt (w:Vw):KO:=.cells [.int Z w.vi,.int Z w.vv,.int Z w.ve,aD (.sl 1 (ints Z w.mem)),aD (.sl 1 (ints Z w.aM))]
abbrev cR (R:κ) (t_ rh q_ qG qK ry qL:V):KO:=.cells [.int Z R.me,.int Z R.id,θ R.bl,θ R.lo,.int Z R.ep,.int Z R.nu,bB 128 (aU ι R.c),t_,.int Z R.v.vi,.int Z R.v.vv,.int Z R.v.ve,aD (.sl 1 (ints Z R.v.mem)),aD (.sl 1 (ints Z R.v.aM)),rh,q_,qG,qK,.int Z R.ce,θ R.ch,.int Z R.ti,ry,qL]
abbrev cS (R:κ) (IK c_ xt t_ rh q_ qG qK ry qL:V):KO:=.cells [.int Z R.me,.int Z R.id,θ R.bl,θ R.lo,.int Z R.ep,IK,c_,t_,.int Z R.v.vi,.int Z R.v.vv,.int Z R.v.ve,aD (.sl 1 (ints Z R.v.mem)),aD (.sl 1 (ints Z R.v.aM)),rh,q_,qG,qK,.int Z R.ce,xt,.int Z R.ti,ry,qL]
abbrev cG (R:κ) (lo_ Ge IK c_ xt t_ rh q_ qG qK ry qL:V):KO:=.cells [.int Z R.me,.int Z R.id,θ R.bl,lo_,Ge,IK,c_,t_,.int Z R.v.vi,.int Z R.v.vv,.int Z R.v.ve,aD (.sl 1 (ints Z R.v.mem)),aD (.sl 1 (ints Z R.v.aM)),rh,q_,qG,qK,.int Z R.ce,xt,.int Z R.ti,ry,qL]
abbrev cT (R:κ) (ti_ t_ rh q_ qG qK ry qL:V):KO:=.cells [.int Z R.me,.int Z R.id,θ R.bl,θ R.lo,.int Z R.ep,.int Z R.nu,bB 128 (aU ι R.c),t_,.int Z R.v.vi,.int Z R.v.vv,.int Z R.v.ve,aD (.sl 1 (ints Z R.v.mem)),aD (.sl 1 (ints Z R.v.aM)),rh,q_,qG,qK,.int Z R.ce,θ R.ch,ti_,ry,qL]
abbrev cV (R:κ) (w:Vw) (Ge xt t_ rh q_ qG qK ry qL:V):KO:=.cells [.int Z R.me,.int Z R.id,θ R.bl,θ R.lo,Ge,.int Z R.nu,bB 128 (aU ι R.c),t_,.int Z w.vi,.int Z w.vv,.int Z w.ve,aD (.sl 1 (ints Z w.mem)),aD (.sl 1 (ints Z w.aM)),rh,q_,qG,qK,.int Z R.ce,xt,.int Z R.ti,ry,qL]
def aF (R:κ) (kb:KB):Prop:=match R.ld with
 |none=>∃ ο π T,bI T R.t/\kb=[cR R (ae T) (θ false) (γ ο) (γ π) (.aa none) (.sl 1 0 (nO R)) (.sl 2 0 (nD R)),rO R,rD R]
 |some L=>∃ I Q T,MB I L.ins/\MB Q L.cN/\bI T R.t/\kb=[cR R (ae T) (θ true) (.mp 1) (.mp 2) (.aa (L.cur.map bo)) (.sl 3 0 (nO R)) (.sl 4 0 (nD R)),ai I,ai Q,rO R,rD R]
def kS (R:κ) (o:Op) (to:Int):Post:=⟨to,⟨12,[R.id,R.ep,R.nu,o.cl,o.nm,o.kd,o.bk,dZ R.c],o.b,[]⟩⟩
def kZ (R:κ) (to:Int):Post:=⟨to,⟨10,[R.id,R.ep,R.nu],b_ R.c,[bh (gl R)]⟩⟩
theorem tQ (o:Op):∀(l:List Int) (r:κ),l.foldl (fun r k=>xR r o k) r={r with out:=r.out++l.map (kS r o) }
 | [],r=>by simp
 |a::l,r=>by
  rw[List.foldl_cons,tQ o l]
  simp [xR,ib,kS,dO]
theorem Kg:∀(l:List Int) (r:κ),l.foldl qp r={r with out:=r.out++l.map (kZ r) }
 | [],r=>by simp
 |a::l,r=>by
  rw[List.foldl_cons,Kg l]
  simp [qp,ib,kZ,gl,dO]
theorem Tz {R:κ} {o:Op} (h:gB o=false):eS R o=(1,R):=by unfold eS;rw[if_pos h]
theorem TB {R:κ} {o:Op} (h:gB o=true) (h2:gW R=false):eS R o=(12,R):=by
 unfold eS;rw[if_neg (by simp [h])]
 cases R.ld with
 |none=>rfl
 |some L=>simp only[if_pos h2]
theorem aeY {R:κ} {o:Op} {L:de} (h:gB o=true) (hl:R.ld=some L) (h2:gW R=true) (h3:lX R=true):eS R o=(18,R):=by
 unfold eS;rw[if_neg (by simp [h]),hl]
 simp only[h2,h3];simp
theorem Kd {R:κ} {o:Op} {L:de} {p:Int×κ} (h:gB o=true) (hl:R.ld=some L) (h2:gW R=true) (h3:lX R=false) (h4:iO o=true) (h5:l4 R o=some p):eS R o=p:=by
 unfold eS;rw[if_neg (by simp [h]),hl]
 simp only[h2,h3,h4,h5];simp
theorem TA {R:κ} {o:Op} {L:de} (h:gB o=true) (hl:R.ld=some L) (h2:gW R=true) (h3:lX R=false) (h5:iO o=true->l4 R o=none):eS R o=(0,lV R L o):=by
 unfold eS;rw[if_neg (by simp [h]),hl]
 simp only[h2,h3]
 by_cases h4:iO o=true
 ·simp [h4,h5 h4]
 ·simp [h4]
theorem Wy {R:κ} {L:de} {o:Op} (h:aZ R≠[]):lV R L o={R with nu:=R.nu+1,ch:=true,c:=fc R.c o.kd o.bk o.b,t:=j6 R.t o,ld:=some ⟨L.ins,fun _=>false,some o⟩,out:=R.out++(aZ R).map (kS (iB R o) o) }:=by
 unfold lV
 simp only[tQ]
 have ho:aZ {iB R o with ld:=some {L with cN:=fun _=>false,cur:=some o } }=aZ R:=rfl
 rw[ho]
 unfold fV
 simp only
 rw[if_neg (by
  show ¬ (aZ R).all (fun _=>false)=true
  cases hh:aZ R with
  |nil=>exact absurd hh h
  |cons a l=>simp)]
 rfl
theorem Wx {R:κ} {L:de} {o:Op} (h:aZ R=[]):lV R L o={R with nu:=R.nu+1,ch:=true,c:=fc R.c o.kd o.bk o.b,t:=j6 R.t o,ld:=some ⟨L.ins,fun _=>false,none⟩,done:=R.done++[⟨o,0,mD (fc R.c o.kd o.bk o.b) o⟩] }:=by
 unfold lV
 simp only[tQ]
 have ho:aZ {iB R o with ld:=some {L with cN:=fun _=>false,cur:=some o } }=aZ R:=rfl
 rw[ho,h]
 unfold fV
 simp only
 rw[if_pos (by
  show(aZ R).all (fun _=>false)=true
  rw[h];rfl)]
 simp [iB]
theorem r9 {Q:ML} {f:Int->Bool} (h:MB Q f) (me:Int) (m j:List Int):allI me m j Q=(bz me m j).all f:=by
 unfold allI nM
 rw[Bool.eq_iff_iff]
 simp only[lR,List.any_eq_false,List.all_eq_true,Bool.not_eq_true]
 constructor
 ·intro hh x hx
  have:=hh x hx
  rw[h.f]at this
  simpa using this
 ·intro hh x hx
  rw[h.f,hh x hx];simp
theorem rn:MB [] (fun _=>false):=⟨⟨fun k cs h=>by simp [bH]at h⟩,fun n=>by simp [ij,bH]⟩
theorem Io:∀{M:ML} {k k':List Int} {c:List D},bH (bF M k c) k'=if k'=k then some c else bH M k'
 | [],k,k',c=>by simp only[bF,bH]
 | (a,v)::M,k,k',c=>by
  simp only[bF]
  by_cases hk:k=a
  ·subst hk
   rw[if_pos rfl]
   by_cases h2:k'=k
   ·simp [bH,h2]
   ·simp [bH,h2]
  ·rw[if_neg hk]
   simp only[bH]
   by_cases h2:k'=a
   ·subst h2
    rw[if_pos rfl,if_pos rfl,if_neg (fun e=>hk e.symm)]
   ·rw[if_neg h2,if_neg h2]
    exact Io
theorem mz {M:ML} {f:Int->Bool} (h:MB M f) (k:Int) (v:Bool):MB (bF M [k] [.val (.bool v)]) (fun n=>if n=k then v else f n):=by
 refine⟨⟨fun k' cs hk=>?_⟩,fun n=>?_⟩
 ·rw[Io]at hk
  split at hk
  ·cases hk;exact⟨v,rfl⟩
  ·exact h.b.h k' cs hk
 ·unfold ij
  rw[Io]
  by_cases e:n=k
  ·subst e;simp [bv]
  ·have e2:¬ ([n]:List Int)=[k]:=fun x=>e (by simpa using x)
   rw[if_neg e2,if_neg e]
   exact h.f n
def DY:aE:=fun args kb K=>match args,kb with
 | [aD (.sl 1 B)],[]=>bR B.length/\K (aD (.sl 1 B)) []
 |_,_=>False
abbrev FV:LI where
 α:=Empty
 live:=[]
 st i:=i.elim
 μ i:=i.elim
 all _:=True
 xk:=fun _ _ i=>i.elim
def cutAt (r:Nat):Nat->Option LI:=fun q=>match cp q r with | true=>some FV | false=>none
def uw (T:ML) (cl nm kd:Int):ML:=if nL kd then bF T [cl] [dn Z nm,dn Z 0]else T
def qa (l:List Int) (R:κ) (o:Op):List (List D):=l.map fun to=>p_ to R.id R.ep (R.nu+1) (fc R.c o.kd o.bk o.b) o
abbrev J8 (R:κ) (T:ML) (I Q:ML) (u:Option (List D)) (o:Op):LI where
 α:={_u:Unit // iO o=true->cX (gl R) o.cl o.nm 0=0}
 live:=[0,3]
 st _:=([aj 0 0,aj 5 0],[cR R (ae T) (θ true) (.mp 1) (.mp 2) (.aa u) (.sl 3 0 (nO R)) (.sl 4 0 (nD R)),ai I,ai Q,rO R,rD R,vV o])
 μ _:=0
abbrev J9 (R:κ) (T:ML) (I Q:ML) (u:Option (List D)) (o:Op):LI where
 α:=Unit
 live:=[0,3]
 st _:=([aj 0 0,aj 5 0],[cS R (.int Z (R.nu+1)) (bB 128 (aU ι (fc R.c o.kd o.bk o.b))) (θ true) (ae (uw T o.cl o.nm o.kd)) (θ true) (.mp 1) (.mp 2) (.aa u) (.sl 3 0 (nO R)) (.sl 4 0 (nD R)),ai I,ai Q,rO R,rD R,vV o])
 μ _:=0
abbrev J_ (R:κ) (T:ML) (I Q:ML) (u:Option (List D)) (o:Op):LI where
 α:={i:Nat // i<=(aZ R).length}
 live:=[0,52,53,54]
 dU:=[.qf 0 143,.mv 0 147]
 st i:=([aj 0 0,.sl 7 0 (aZ R).length,.int Z ((aZ R).length:Int),.int Z (i.1:Int)],[cS R (.int Z (R.nu+1)) (bB 128 (aU ι (fc R.c o.kd o.bk o.b))) (θ true) (ae (uw T o.cl o.nm o.kd)) (θ true) (.mp 1) (.mp 5) (.aa (some (bo o))) (.sl 6 0 ((nO R)+i.1)) (.sl 4 0 (nD R)),ai I,ai Q,χ,rD R,ai [],ξ 107 5 (R.out.map bV++qa ((aZ R).take i.1) R o),ξ 3 1 (ints Z (ia R.me R.v.mem R.v.aM))])
 μ i:=(aZ R).length - i.1
def Tw (R:κ) (T:ML) (I Q:ML) (u:Option (List D)) (o:Op):Nat->Option LI
 | 1012=>some (J8 R T I Q u o)
 | 1014=>some (J9 R T I Q u o)
 | 16=>some (J_ R T I Q u o)
 |_=>none
def C0:FuncId->Option dA
 | 14=>some ⟨[],ee [false,true,true,true,true,true,false,true,true,true,true,false,false,false,false,true,false,true,true,true,true,true] qF⟩
 | 52=>some ⟨[],zU⟩
 | 53=>some ⟨[],Eb⟩
 | 54=>some ⟨[],ee [true,true,true,true,true,true,false,false,true,true,true,true,true,true,true,true,true,true,true,true,true,false] Ec⟩
 | 55=>some ⟨[],DY⟩
 | 56=>some ⟨[],ee [true,true,true,true,true,false,false,false,true,true,true,true,true,true,true,true,true,true,false,true,true,true] zQ⟩
 | 44=>some ⟨[],ee [false,true,true,true,true,true,false,true,true,true,true,false,false,true,true,true,true,true,true,true,true,true] uY⟩
 | 57=>some ⟨[],ee [true,false,true,true,false,false,false,true,true,true,true,true,true,true,true,true,false,true,true,true,false,true] zT⟩
 | 58=>some ⟨[],ee [false,true,true,true,true,true,false,true,true,true,true,false,false,true,true,false,false,true,true,true,true,false] zR⟩
 |_=>none
noncomputable def EQ:bJ:=dG Tryz.prog C0 aG 10
def Kc:FuncId->Option dA
 | 14=>some ⟨[],ee [true,true,true,true,true,true,false,true,true,true,true,true,true,false,true,true,false,true,true,true,true,true] qF⟩
 |f=>C0 f
noncomputable def ER:bJ:=dG Tryz.prog Kc aG 10
theorem agd (B:List (List D)) (K:V->KB->Prop) (an:
 ∀(y1:Bool),(y1=true->
 B.length=0)->
 (y1=true->
 K (aD (ψ 1 [])) [])/\
 (y1=false->
 True/\
 0<=0/\
 (0+B.length)*1<=140737488355328/\
 0+B.length<=([]++B).length/\
 K (aD (ψ 1 (ay 0 (az (0+B.length) ([]++B))))) [])
 ):aI Tryz.prog X0 (aG 55) 55 [aD (.sl 1 B)] [] (jE [.fe 1] (dp 0 K)):=by apply Eq.mp (a:=an);kernel_rfl
theorem ahk (R:κ) (T:ML) (I Q:ML) (u:Option (List D)) (o:Op) (K:V->KB->Prop) (an:
 let dz:=[1,2,3,4,5,7,8,9,10,13,14,17,18,19,20];let bS:=(ints Z (ia R.me R.v.mem R.v.aM));let bN:=(ae (uw T o.cl o.nm o.kd));let bP:=[0,1,2,3,4,8,9,10,11,12,13,14,15,16,17,19,20,21];let bj:=(aU ι (fc R.c o.kd o.bk o.b));let aC:=(ε Z (R.nu+1));let aH:=[0,1,2,3,4,5,8,9,10,11,12,13,14,15,16,17,18,19,20];let ω:=At (J8 R T I Q u o) ([aj 0 0,aj 5 0],[cR R (ae T) (θ true) (aX 1) (aX 2) (aP u) (δ 3 0 (nO R)) (δ 4 0 (nD R)),ai I,ai Q,rO R,rD R,vV o]);let η:KB:=[cR R (ae T) (θ true) (aX 1) (aX 2) (aP u) (δ 3 0 (nO R)) (δ 4 0 (nD R)),ai I,ai Q,rO R,rD R];∀(y1:Nat->
 Value),∃(y2:List Int),∃(y3:List Int),ints Z R.v.mem=ints Z y2/\
 ints Z R.v.aM=ints Z y3/\
 dE (y2.length+y3.length)/\
 lp I/\
 true=true/\
 bu y1 [1,2,3,4,5,7,8,9,10,15,17,18,19,20,21]/\
 ((!ke o.cl o.nm o.kd o.bk (ints ι o.b).length)=true->
 K (ε Z 1) η)/\
 ((!ke o.cl o.nm o.kd o.bk (ints ι o.b).length)=false->
 ((!allI R.me y2 y3 I)=true->
 K (ε Z 12) η)/\
 ((!allI R.me y2 y3 I)=false->
 ((!u.isNone)=true->
 K (ε Z 18) η)/\
 ((!u.isNone)=false->
 ((nL o.kd=true->
 ∀(y4:Nat->
 Value),nD R=(nD R)/\
 bR (nD R)/\
 ∃(y5:List L3),let bq:=ξ 70 7 (φ du R.done++[(bo o++[dn Z (sk y5 o.cl o.nm),ψ 1 []])]);bI T y5/\
 (uT (fT y5 o.cl o.nm) 1->
 bu y4 aH/\
 (true=true->
 K (ε Z 0) [cR R (ae T) (θ true) (aX 1) (aX 2) (aP u) (δ 3 0 (nO R)) (δ 4 0 (nD R+1)),ai I,ai Q,rO R,bq])/\
 (true=false->
 At (J8 R T I Q u o) ([aj 0 0,aj 6 0],[cR R (ae T) (θ true) (aX 1) (aX 2) (aP u) (δ 3 0 (nO R)) (δ 5 0 (nD R+1)),ai I,ai Q,rO R,χ,bq,vV o])))/\
 (uT (fT y5 o.cl o.nm) 2->
 bu y4 aH/\
 (true=true->
 K (ε Z 13) η)/\
 (true=false->
 ω))/\
 (uT (fT y5 o.cl o.nm) 0->
 (mg (cX y5 o.cl o.nm 0)->
 bu y4 aH/\
 (true=true->
 K (ε Z (cX y5 o.cl o.nm 0)) η)/\
 (true=false->
 ω))/\
 (l_ (cX y5 o.cl o.nm 0)->
 bu y4 aH/\
 (false=true->
 K (ε Z 0) η)/\
 (false=false->
 ω))))/\
 (nL o.kd=false->
 ω))/\
 ∀(y7:{y6:Unit // iO o=true->
 cX (gl R) o.cl o.nm 0=0}),bR (ints ι o.b).length/\
 (∀(y8:Nat->
 Value),∃(y9:List Int),∃(cO:List Int),let b9:=(bB 128 (aU ι (fc y9 o.kd o.bk cO)));let au:=At (J9 R T I Q u o) ([aj 0 0,aj 5 0],[cS R aC b9 (θ true) (ae T) (θ true) (aX 1) (aX 2) (aP u) (δ 3 0 (nO R)) (δ 4 0 (nD R)),ai I,ai Q,rO R,rD R,vV o]);∃(cy:List L3),iq (aU ι R.c) y9/\
 ints ι o.b=ints ι cO/\
 bI T cy/\
 qE R.nu/\
 uW o.cl o.nm o.kd o.bk cO.length/\
 (zD o.kd->
 bu y8 bP/\
 au)/\
 (zo o.kd->
 (mg (cX cy o.cl o.nm 0)->
 bu y8 bP/\
 au)/\
 (l_ (cX cy o.cl o.nm 0)->
 bu y8 bP/\
 At (J9 R T I Q u o) ([aj 0 0,aj 5 0],[cS R aC b9 (θ true) (ae (bF T [o.cl] [dn Z o.nm,ζ (ν Z 0)])) (θ true) (aX 1) (aX 2) (aP u) (δ 3 0 (nO R)) (δ 4 0 (nD R)),ai I,ai Q,rO R,rD R,vV o]))))/\
 ∀(cz:Unit) (cL:Nat->
 Value),∃(dy:List Int),∃(cY:List Int),ints Z R.v.mem=ints Z dy/\
 ints Z R.v.aM=ints Z cY/\
 dE (dy.length+cY.length)/\
 bu cL [1,2,3,4,5,7,8,9,10,13,14,15,16,17,18,19,20,21]/\
 At (J_ R T I Q u o) ([aj 0 0,δ 7 0 (bz R.me dy cY).length,ε Z (↑((bz R.me dy cY).length - 0):Int),ε Z 0],[cS R aC (bB 128 bj) (θ true) bN (θ true) (aX 1) (aX 5) (aP (some (bo o))) (δ 6 0 (nO R)) (δ 4 0 (nD R)),ai I,ai Q,χ,rD R,ai [],rO R,ξ 3 1 (ints Z (ia R.me dy cY))])/\
 ∀(dh:{fK:Nat // fK<=(aZ R).length}),let cC:=(↑dh.val:Int)<(↑(aZ R).length:Int);let aO:=(φ bV R.out++qa (az dh.val (aZ R)) R o);(decide (cC)=true->
 bw (↑dh.val:Int) ((aZ R).length - 0)/\
 ∃(e_:List D),bS[0+(↑dh.val:Int).toNat]? =some e_/\
 ∃(ft:Int),e_[0]? =some (ζ (ν Z ft))/\
 ∀(fC:Nat->
 Value),nO R+dh.val=aO.length/\
 bR (nO R+dh.val)/\
 ∃(eT:List Int),∃(fu:Op),iq bj eT/\
 some (bo o)=some (bo fu)/\
 bu fC [0,2,3,7,8,9,10,11,12,13,14,15,17,18,19,21]/\
 Nx (J_ R T I Q u o) dh ([aj 0 0,δ 7 0 (aZ R).length,ε Z (↑(aZ R).length:Int),ε Z (Z.wrap ((↑dh.val:Int)+1))],[cS R aC (bB 128 (aU ι eT)) (θ true) bN (θ true) (aX 1) (aX 5) (aP (some (bo o))) (δ 6 0 (nO R+dh.val+1)) (δ 4 0 (nD R)),ai I,ai Q,χ,rD R,ai [],ξ 107 5 (φ bV R.out++qa (az dh.val (aZ R)) R o++[[dn Z ft,ζ (ν Z 12),ψ 1 [[dn Z R.id],[dn Z R.ep],[dn Z (R.nu+1)],[dn Z fu.cl],[dn Z fu.nm],[dn Z fu.kd],[dn Z fu.bk],[dn Z (dZ eT)]],ψ 1 (ints ι fu.b),ψ 1 []]]),ξ 3 1 bS]))/\
 (decide (cC)=false->
 ∀(iI:Nat->
 Value),nD R=(nD R)/\
 bR (nD R)/\
 ∃(fX:List Int),∃(eK:List Int),∃(eU:List Int),∃(ef:Op),iq bj eU/\
 ints Z R.v.mem=ints Z fX/\
 ints Z R.v.aM=ints Z eK/\
 dE (fX.length+eK.length)/\
 lp []/\
 some (bo o)=some (bo ef)/\
 lH ef.bk/\
 (allI R.me fX eK []=false->
 bu iI dz/\
 K (ε Z 0) [cS R aC (bB 128 bj) (θ true) bN (θ true) (aX 1) (aX 2) (aP (some (bo o))) (δ 3 0 (nO R+dh.val)) (δ 4 0 (nD R)),ai I,ai [],ξ 107 5 aO,rD R])/\
 (allI R.me fX eK []=true->
 bu iI dz/\
 K (ε Z 0) [cS R aC (bB 128 (aU ι eU)) (θ true) bN (θ true) (aX 1) (aX 2) (aP none) (δ 3 0 (nO R+dh.val)) (δ 4 0 (nD R+1)),ai I,ai [],ξ 107 5 aO,ξ 70 7 (φ du R.done++[(bo ef++[ζ (ν Z 0),ψ 1 (p9 eU ef.kd ef.bk)])])])))))
 ):aI Tryz.prog EQ (Tw R T I Q u o) 21 [aj 0 0,.agg [.int Z o.cl,.int Z o.nm,.int Z o.kd,.int Z o.bk,aD (.sl 1 (ints ι o.b))]] [cR R (ae T) (θ true) (.mp 1) (.mp 2) (.aa u) (.sl 3 0 (nO R)) (.sl 4 0 (nD R)),ai I,ai Q,rO R,rD R] (eQ K):=by apply Eq.mp (a:=an);kernel_rfl
theorem ahl (R:κ) (T:ML) (ο π:Value) (o:Op) (K:V->KB->Prop) (an:
 let η:KB:=[cR R (ae T) (θ false) (γ ο) (γ π) (aP none) (δ 1 0 (nO R)) (δ 2 0 (nD R)),rO R,rD R];∀(y1:Nat->
 Value),false=false/\
 bu y1 [0,1,2,3,4,5,7,8,9,10,11,12,14,15,17,18,19,20,21]/\
 (((!ke o.cl o.nm o.kd o.bk (ints ι o.b).length)=true->
 K (ε Z 1) η)/\
 ((!ke o.cl o.nm o.kd o.bk (ints ι o.b).length)=false->
 (true=true->
 K (ε Z 12) η)/\
 (true=false->
 (false=true->
 K (ε Z 18) η)/\
 (false=false->
 At FV ([],η)))))/\
 True
 ):aI Tryz.prog ER (cutAt 1008) 21 [aj 0 0,.agg [.int Z o.cl,.int Z o.nm,.int Z o.kd,.int Z o.bk,aD (.sl 1 (ints ι o.b))]] [cR R (ae T) (θ false) (γ ο) (γ π) (.aa none) (.sl 1 0 (nO R)) (.sl 2 0 (nD R)),rO R,rD R] (eQ K):=by apply Eq.mp (a:=an);kernel_rfl
theorem Tr {P:Program} {X:bJ} (hX:bZ P X) (hm:P.follows .mixedOrders=true) (ms:List Vc.Mode) {f:FuncId} {S:aE} (h:∀ args kb K,S args kb K->∃ T,aI P X T f args kb (jE ms (dp kb.length K))):aN P f S:=
 fun args kb K hs=>Ba (dW hX hm (S:=fun a k K0=>∃ T,aI P X T f a k K0) fun _ _ _ h=>h) ms args kb K (h args kb K hs)
theorem abk:aN Tryz.prog 55 DY:=Tr fN mixed [.fe 1] (fun args kb K h=>by
 unfold DY at h;split at h<;>try exact h.elim
 obtain⟨⟨hn⟩,h⟩:=h
 refine⟨_,agd _ K fun b hb=>⟨fun e=>?_,fun _=>⟨trivial,av _,by omega,by simp,?_⟩⟩⟩
 ·have:=ma (hb e)
  rw[this]at h;exact h
 ·simpa using h)
theorem NS {c b:List Int} {cl nm kd bk:Int} (hc:c.length=128) (h:ke cl nm kd bk b.length=true):(fc c kd bk b).length=128:=by
 simp only[ke,decide_eq_true_eq]at h
 unfold fc
 split
 ·rename_i e
  rw[mF (by have:=h.2.2.2.2.2.2.2.2 e;omega),hc]
 ·split
  ·rw[mF (by rw[List.length_replicate];omega),hc]
  ·exact hc
theorem NR {c b:List Int} {kd bk:Int} (hc:bm c) (h:bm b):bm (fc c kd bk b):=by
 have hs:∀(k:Nat) (v:List Int),bm v->bm (splice c k v):=fun k v hv x hx=>by
  unfold splice at hx
  rcases dM.1 hx with hx | hx
  ·rcases dM.1 hx with hx | hx
   ·exact hc x (List.mem_of_mem_take hx)
   ·exact hv x hx
  ·exact hc x (List.mem_of_mem_drop hx)
 unfold fc
 split
 ·exact hs _ _ h
 ·split
  ·exact hs _ _ (fun x hx=>by rw[List.eq_of_mem_replicate hx];omega)
  ·exact hc
theorem Sh {x:List L3} {c n:Int} (h:cX x c n 0=0):¬ (fT x c n=1∨fT x c n=2):=by
 unfold cX at h
 split at h
 ·omega
 ·unfold fT
  cases hq:j_ x c with
  |none=>simp
  |some q=>
   rw[hq]at h
   simp only at h ⊢
   split at h
   ·omega
   ·rename_i hn
    rw[if_pos (by omega)];simp
theorem Gp {c:List Int} {o:Op}:p9 c o.kd o.bk=ints ι (mD c o):=by
 unfold p9 mD
 split
 ·simp [ints]
 ·rfl
theorem Bx {i n:Nat} (h:i<n):bw (i:Int) n:=⟨by omega,by omega⟩
theorem ints_getElem? {k:IntKind} {l:List Int} {i:Nat}:(ints k l)[i]? =(l[i]?).map fun n=>[ζ (.int k n)]:=by unfold ints;rw[fE]
theorem ae2 (R:κ) (T:ML) (ο π:Value) (o:Op) (hl:R.ld=none) (hB:o.b.length<=100000) {kb:KB} (hkb:aF R kb) (hsh:kb=[cR R (ae T) (θ false) (γ ο) (γ π) (.aa none) (.sl 1 0 (nO R)) (.sl 2 0 (nD R)),rO R,rD R]) (K:V->KB->Prop) (hK:∀ kb',aF (eS R o).2 kb'->K (.int Z (eS R o).1) kb'):aI Tryz.prog ER (cutAt 1008) 21 [aj 0 0,.agg [.int Z o.cl,.int Z o.nm,.int Z o.kd,.int Z o.bk,aD (.sl 1 (ints ι o.b))]] [cR R (ae T) (θ false) (γ ο) (γ π) (.aa none) (.sl 1 0 (nO R)) (.sl 2 0 (nD R)),rO R,rD R] (eQ K):=by
 subst hsh
 have fin:∀{e:Int} {R':κ} {kb':KB},eS R o=(e,R')->aF R' kb'->K (.int Z e) kb':=fun{e R' kb'} h1 h2=>by
  have:=hK kb'
  rw[h1]at this
  exact this h2
 have tX:gB o=ke o.cl o.nm o.kd o.bk (ints ι o.b).length:=by unfold gB;rw[bi]
 exact ahl R T ο π o K fun f=>⟨rfl,⟨by simp [bT]⟩,⟨fun e=>fin (Tz (by rw[tX];simpa using e)) hkb,fun e=>⟨fun _=>fin (TB (by rw[tX];simpa using e) (by simp [gW,hl])) hkb,fun f=>(by cases f)⟩⟩,trivial⟩
theorem ae1 (R:κ) (o:Op) (L:de) (T I Q:ML) (hT:bI T R.t) (hl:R.ld=some L) (hI:MB I L.ins) (hQ:MB Q L.cN) (hR:dw R) (hroom:R.out.length+(aZ R).length<=100000) (GS:bm o.b) (hB:o.b.length<=100000) {kb:KB} (hkb:aF R kb)
  (hsh:kb=[cR R (ae T) (θ true) (.mp 1) (.mp 2) (.aa (L.cur.map bo)) (.sl 3 0 (nO R)) (.sl 4 0 (nD R)),ai I,ai Q,rO R,rD R]) (K:V->KB->Prop) (hK:∀ kb',aF (eS R o).2 kb'->K (.int Z (eS R o).1) kb'):aI Tryz.prog EQ (Tw R T I Q (L.cur.map bo) o) 21 [aj 0 0,.agg [.int Z o.cl,.int Z o.nm,.int Z o.kd,.int Z o.bk,aD (.sl 1 (ints ι o.b))]] [cR R (ae T) (θ true) (.mp 1) (.mp 2) (.aa (L.cur.map bo)) (.sl 3 0 (nO R)) (.sl 4 0 (nD R)),ai I,ai Q,rO R,rD R] (eQ K):=by
 subst hsh
 have fin:∀{e:Int} {R':κ} {kb':KB},eS R o=(e,R')->aF R' kb'->K (.int Z e) kb':=fun{e R' kb'} h1 h2=>by
  have:=hK kb'
  rw[h1]at this
  exact this h2
 have h5:dE (R.v.mem.length+R.v.aM.length):=⟨by have:=hR.vl;omega⟩
 have mV:iq (aU ι R.c) R.c:=⟨rfl,hR.cl,hR.cb⟩
 have OZ:∀(h:gB o=true),iq (aU ι (fc R.c o.kd o.bk o.b)) (fc R.c o.kd o.bk o.b):=fun h=>⟨rfl,by rw[NS hR.cl h],NR hR.cb GS⟩
 have mu:qE R.nu:=⟨hR.n0,by have:=hR.n1;omega⟩
 have hdl:(φ du R.done).length<=1000000:=by rw[bX];have:=hR.dl;omega
 have Hx:gW R=allI R.me R.v.mem R.v.aM I:=by unfold gW;rw[hl,r9 hI];rfl
 have tX:gB o=ke o.cl o.nm o.kd o.bk (ints ι o.b).length:=by unfold gB;rw[bi]
 have htn:∀ hi:iO o=true->cX (gl R) o.cl o.nm 0=0,bI (uw T o.cl o.nm o.kd) (j6 R.t o):=fun hi=>by
  unfold j6 uw
  by_cases hc:iO o=true
  ·have fk:nL o.kd=true:=hc
   have hz:cX R.t o.cl o.nm 0=0:=hi hc
   rw[if_pos fk,if_pos ⟨hc,hz⟩]
   exact C5 hT hz
  ·have fk:¬ nL o.kd=true:=hc
   rw[if_neg fk,if_neg (fun f=>hc f.1)];exact hT
 refine ahk R T I Q _ o K fun f=>⟨R.v.mem,R.v.aM,rfl,rfl,h5,hI.b,rfl,⟨by simp [bT]⟩,fun e=>?_,fun e=>⟨fun e2=>?_,fun e2=>⟨fun e3=>?_,fun e3=>⟨?_,?_⟩⟩⟩⟩
 ·exact fin (Tz (by rw[tX];simpa using e)) hkb
 ·exact fin (TB (by rw[tX];simpa using e) (by rw[Hx];simpa using e2)) hkb
 ·exact fin (aeY (by rw[tX];simpa using e) hl (by rw[Hx];simpa using e2) (by simpa [lX,cw,hl]using e3)) hkb
 all_goals
  have lZ:L.cur=none:=by simpa using e3
  have xS:lX R=false:=by simp [lX,cw,hl,lZ]
  have mZ:gB o=true:=by rw[tX];simpa using e
  have pq:gW R=true:=by rw[Hx];simpa using e2
 ·refine⟨fun hc f=>⟨rfl,⟨hdl⟩,R.t,hT,fun h1=>⟨⟨by simp [bT]⟩,fun _=>?_,fun e=>(by cases e)⟩,fun h1=>⟨⟨by simp [bT]⟩,fun _=>?_,fun e=>(by cases e)⟩,fun h1=>⟨fun hz=>⟨⟨by simp [bT]⟩,fun _=>?_,fun e=>(by cases e)⟩,fun hz=>⟨⟨by simp [bT]⟩,fun e=>(by cases e),fun _=>?_⟩⟩⟩,fun hc=>?_⟩
  ·have hk1:l4 R o=some (0,{R with done:=R.done++[⟨o,sk R.t o.cl o.nm,[]⟩] }):=by unfold l4 gl;rw[if_pos h1.h]
   refine fin (Kd mZ hl pq xS hc hk1) ?_
   unfold aF
   simp only[hl]
   refine⟨I,Q,T,hI,hQ,hT,?_⟩
   simp [cR,du,bo,dn,ints]
  ·have hk1:l4 R o=some (13,R):=by unfold l4 gl;rw[if_neg (by rw[h1.h];decide),if_pos h1.h]
   exact fin (Kd mZ hl pq xS hc hk1) hkb
  ·have hk1:l4 R o=some (cX R.t o.cl o.nm 0,R):=by unfold l4 gl;rw[if_neg (by rw[h1.h];decide),if_neg (by rw[h1.h];decide),if_neg hz.h]
   exact fin (Kd mZ hl pq xS hc hk1) hkb
  ·exact At.mk' ⟨(),fun _=>hz.h⟩ rfl
  ·exact At.mk' ⟨(),fun f=>absurd (f.symm.trans hc) (by decide)⟩ rfl
 ·have Px:ke o.cl o.nm o.kd o.bk o.b.length=true:=mZ
  rintro⟨_,hi⟩
  have hkn:iO o=true->l4 R o=none:=fun hc=>by
   have h2:=hi hc
   unfold l4;rw[if_neg (fun e=>Sh h2 (.inl e)),if_neg (fun e=>Sh h2 (.inr e)),if_pos h2]
  refine⟨⟨by rw[bi];omega⟩,fun f=>?_,fun _ f=>⟨R.v.mem,R.v.aM,rfl,rfl,h5,⟨by simp [bT]⟩,At.mk' ⟨0,bt _⟩ ?_,?_⟩⟩
  ·refine⟨R.c,o.b,R.t,mV,rfl,hT,mu,⟨Px⟩,fun hc=>⟨⟨by simp [bT]⟩,At.mk' () ?_⟩,fun hc=>⟨fun hz=>?_,fun hz=>⟨⟨by simp [bT]⟩,At.mk' () ?_⟩⟩⟩
   ·simp only[uw,hc.h];rfl
   ·exact absurd (hi hc.h) hz.h
   ·simp only[uw,hc.h];rfl
  ·simp [aZ,qa,bo,dn]
  ·rintro⟨i,Hl⟩
   refine⟨fun hlt=>?_,fun hlt=>?_⟩
   ·have hlt:i<(aZ R).length:=by simpa using hlt
    have hz:i<(ia R.me R.v.mem R.v.aM).length:=by rw[Je];exact Nat.lt_of_lt_of_le hlt (RY _ _ _)
    have da:(ia R.me R.v.mem R.v.aM)[i]? =(aZ R)[i]?:=by
     have:=Jg R.me R.v.mem R.v.aM
     have h2:(aZ R)[i]? =((ia R.me R.v.mem R.v.aM).take (aZ R).length)[i]?:=by rw[show aZ R=bz R.me R.v.mem R.v.aM from rfl,this]
     rw[h2,hU hlt]
    refine⟨Bx (by simpa using hlt),[dn Z (aZ R)[i]],?_,(aZ R)[i],rfl,fun f=>⟨?_,⟨?_⟩,_,o,OZ mZ,rfl,⟨by simp [bT]⟩,Nx.mk' ⟨i+1,hlt⟩ ?_ ?_⟩⟩
    ·simp only[cP,c9]
     rw[ints_getElem?,da,bp hlt];rfl
    ·simp [qa];omega
    ·simp;omega
    ·have w:=bD (n:=(i:Int)+1) (by omega) (by omega)
     simp only[w]
     have eh:qa ((aZ R).take (i+1)) R o=qa ((aZ R).take i) R o++[p_ (aZ R)[i] R.id R.ep (R.nu+1) (fc R.c o.kd o.bk o.b) o]:=by
      unfold qa
      rw[i_,bp hlt,jy];rfl
     simp [eh,p_,fP,dn,ints,bo]
     omega
    ·show(aZ R).length - (i+1)<(aZ R).length - i
     omega
   ·have hi2:i=(aZ R).length:=by
     have:¬ i<(aZ R).length:=by simpa using hlt
     omega
    subst hi2
    refine fun f=>⟨rfl,⟨hdl⟩,R.v.mem,R.v.aM,_,o,OZ mZ,rfl,rfl,h5,rn.b,rfl,CA ⟨Px⟩,fun e1=>⟨⟨by simp [bT]⟩,?_⟩,fun e1=>⟨⟨by simp [bT]⟩,?_⟩⟩
    ·have hne:aZ R≠[]:=fun hh=>by
      rw[r9 rn]at e1
      have:bz R.me R.v.mem R.v.aM=[]:=hh
      rw[this]at e1;simp at e1
     refine fin (TA mZ hl pq xS hkn) ?_
     rw[Wy hne]
     unfold aF
     refine⟨I,[],_,hI,rn,htn hi,?_⟩
     simp [cR,cS,qa,kS,p_,bV,je,fP,iB,dn,ints,bo,Function.comp_def]
    ·have hne:aZ R=[]:=by
      rw[r9 rn]at e1
      cases hh:aZ R with
      |nil=>rfl
      |cons a l=>
       have:bz R.me R.v.mem R.v.aM=a::l:=hh
       rw[this]at e1;simp at e1
     refine fin (TA mZ hl pq xS hkn) ?_
     rw[Wx hne]
     unfold aF
     refine⟨I,[],_,hI,rn,htn hi,?_⟩
     simp [cR,cS,hne,qa,du,bo,Gp,dn]
theorem Tv:dF Tryz.prog C0:=fun f k h=>by
 unfold C0 at h
 split at h
 ·cases h;exact fm I2 _
 ·cases h;exact Ri
 ·cases h;exact abM
 ·cases h;exact fm abN _
 ·cases h;exact abk
 ·cases h;exact fm Rb _
 ·cases h;exact fm Cd _
 ·cases h;exact fm Rh _
 ·cases h;exact fm Rf _
 ·cases h
theorem V5:bZ Tryz.prog EQ:=dI mixed Tv aG 10
theorem aeX:dF Tryz.prog Kc:=fun f k h=>by
 unfold Kc at h
 split at h
 ·cases h;exact fm I2 _
 ·exact Tv _ _ h
theorem V4:bZ Tryz.prog ER:=dI mixed aeX aG 10
def Vt:aE:=fun args kb K=>∃ R o,args=[aj 0 0,.agg [.int Z o.cl,.int Z o.nm,.int Z o.kd,.int Z o.bk,aD (.sl 1 (ints ι o.b))]]/\aF R kb/\dw R/\R.out.length+(aZ R).length<=100000/\bm o.b/\o.b.length<=100000/\∀ kb',aF (eS R o).2 kb'->K (.int Z (eS R o).1) kb'
theorem acw:fZ Tryz.prog 21 Vt:=BU mixed (fun args kb K h=>by
 obtain⟨R,o,rfl,hkb,hR,hroom,GS,hB,hK⟩:=h
 have iP:=hkb
 unfold aF at hkb
 split at hkb
 ·rename_i hl
  obtain⟨ο,π,T,hT,e⟩:=hkb
  exact⟨_,_,V4,e ▸ ae2 R T ο π o hl hB iP e K hK⟩
 ·rename_i L hl
  obtain⟨I,Q,T,hI,hQ,hT,e⟩:=hkb
  exact⟨_,_,V5,e ▸ ae1 R o L T I Q hT hl hI hQ hR hroom GS hB iP e K hK⟩)
def DZ:aE:=fun args kb K=>match args,kb with
 | [aD (.sl 1 B)],[]=>bR B.length/\K (aD (.sl 1 B)) []
 |_,_=>False
def eI:List Bool:=[false,false,false,false,false,false,false,false,false,false,false,false,false,false,true,true]
def eN (R:κ) (w:Vw):Bool:=match w.mem with | a:: _=>a == R.me | []=>false
def eC (R:κ) (w:Vw):Bool:=decide (w.vi=R.id/\R.v.ve<=w.ve/\R.ep<=w.ve/\1<=w.ve) && !(w.ve == R.v.ve && (fp R || !eN R w))
def fH (R:κ) (w:Vw):Bool:=eN R w && !R.lo && !(R.ep == 0 && R.bl)
def gN (R:κ) (w:Vw):κ:=
 if eC R w=false then R else
  let R1:κ:={gn R with v:=w }
  if fH R w=false then R1 else
   let R2:κ:={R1 with ep:=w.ve,ch:=R.ch || (R.ep != w.ve),ld:=some ⟨fun _=>false,fun _=>false,none⟩ }
   (aZ R2).foldl qp R2
def k8 (l:List Int) (R:κ) (w:Vw):List (List D):=l.map fun to=>mG to R.id w.ve R.nu R.c R.t
abbrev yD (R:κ):List (List D):=R.done.map du++yl (cw R)
abbrev KQ (R:κ) (T:ML) (ο π:Value) (w:Vw):LI where
 α:=Unit
 live:=[0,3,4]
 st _:=([aj 0 0,aj 3 0,θ (eN R w)],[cR R (ae T) (θ false) (γ ο) (γ π) (.aa none) (.sl 1 0 (nO R)) (.sl 2 0 (nD R)),rO R,rD R,nt w])
 μ _:=0
abbrev UH (R:κ) (T:ML) (ο π:Value) (w:Vw):LI where
 α:={_u:Unit // eC R w=true}
 live:=[0,3,4]
 st _:=([aj 0 0,aj 3 0,θ (eN R w)],[cR R (ae T) (θ false) (γ ο) (γ π) (.aa none) (.sl 1 0 (nO R)) (.sl 2 0 (nD R)),rO R,rD R,nt w])
 μ _:=0
abbrev UJ (R:κ) (T:ML) (ο π:Value) (w:Vw):LI where
 α:={_u:Unit // eC R w=true}
 live:=[0,3,4]
 st _:=([aj 0 0,aj 4 0,θ (eN R w)],[cR R (ae T) (θ false) (γ ο) (γ π) (.aa none) (.sl 1 0 (nO R)) (.sl 3 0 (yD R).length),rO R,χ,ξ 70 7 (yD R),nt w])
 μ _:=0
abbrev UL (R:κ) (T:ML) (ο π:Value) (w:Vw):LI where
 α:={_u:Unit // eC R w=true/\fH R w=true}
 live:=[0,3]
 st _:=([aj 0 0,aj 4 0],[cV R w (.int Z R.ep) (θ R.ch) (ae T) (θ false) (γ ο) (γ π) (.aa none) (.sl 1 0 (nO R)) (.sl 3 0 (yD R).length),rO R,χ,ξ 70 7 (yD R),nt w])
 μ _:=0
abbrev KS (R:κ) (T:ML) (ο π:Value) (w:Vw):LI where
 α:={_u:Unit // eC R w=true/\fH R w=true}
 live:=[0]
 st _:=([aj 0 0],[cV R w (.int Z w.ve) (θ (R.ch || (R.ep != w.ve))) (ae T) (θ false) (γ ο) (γ π) (.aa none) (.sl 1 0 (nO R)) (.sl 3 0 (yD R).length),rO R,χ,ξ 70 7 (yD R)])
 μ _:=0
abbrev KV (R:κ) (T:ML) (ο π:Value) (w:Vw):LI where
 α:={i:Nat // i<=(bz R.me w.mem w.aM).length/\eC R w=true/\fH R w=true}
 live:=[0,135,136,137]
 dU:=[.mv 0 147]
 st i:=([aj 0 0,.sl 7 0 (bz R.me w.mem w.aM).length,.int Z ((bz R.me w.mem w.aM).length:Int),.int Z (i.1:Int)],[cV R w (.int Z w.ve) (θ (R.ch || (R.ep != w.ve))) (ae T) (θ true) (.mp 3) (.mp 4) (.aa none) (.sl 5 0 ((nO R)+i.1)) (.sl 6 0 (yD R).length),χ,χ,ai [],ai [],ξ 107 5 (R.out.map bV++k8 ((bz R.me w.mem w.aM).take i.1) R w),ξ 70 7 (yD R),ξ 3 1 (ints Z (ia R.me w.mem w.aM))])
 μ i:=(bz R.me w.mem w.aM).length - i.1
def UO (R:κ) (T:ML) (ο π:Value) (w:Vw):Nat->Option LI
 | 1002=>some (KQ R T ο π w)
 | 1004=>some (UH R T ο π w)
 | 1006=>some (UJ R T ο π w)
 | 1008=>some (UL R T ο π w)
 | 1010=>some (KS R T ο π w)
 | 12=>some (KV R T ο π w)
 |_=>none
abbrev KP (R:κ) (T:ML) (I Q:ML) (u:Option (List D)) (w:Vw):LI where
 α:=Unit
 live:=[0,3,4]
 st _:=([aj 0 0,aj 5 0,θ (eN R w)],[cR R (ae T) (θ true) (.mp 1) (.mp 2) (.aa u) (.sl 3 0 (nO R)) (.sl 4 0 (nD R)),ai I,ai Q,rO R,rD R,nt w])
 μ _:=0
abbrev UG (R:κ) (T:ML) (I Q:ML) (u:Option (List D)) (w:Vw):LI where
 α:={_u:Unit // eC R w=true}
 live:=[0,3,4]
 st _:=([aj 0 0,aj 5 0,θ (eN R w)],[cR R (ae T) (θ true) (.mp 1) (.mp 2) (.aa u) (.sl 3 0 (nO R)) (.sl 4 0 (nD R)),ai I,ai Q,rO R,rD R,nt w])
 μ _:=0
abbrev UI (R:κ) (T:ML) (I Q:ML) (u:Option (List D)) (w:Vw):LI where
 α:={_u:Unit // eC R w=true}
 live:=[0,3,4]
 st _:=([aj 0 0,aj 6 0,θ (eN R w)],[cR R (ae T) (θ false) (.mp 1) (.mp 2) (.aa none) (.sl 3 0 (nO R)) (.sl 5 0 (yD R).length),ai I,ai Q,rO R,χ,ξ 70 7 (yD R),nt w])
 μ _:=0
abbrev UK (R:κ) (T:ML) (I Q:ML) (u:Option (List D)) (w:Vw):LI where
 α:={_u:Unit // eC R w=true/\fH R w=true}
 live:=[0,3]
 st _:=([aj 0 0,aj 6 0],[cV R w (.int Z R.ep) (θ R.ch) (ae T) (θ false) (.mp 1) (.mp 2) (.aa none) (.sl 3 0 (nO R)) (.sl 5 0 (yD R).length),ai I,ai Q,rO R,χ,ξ 70 7 (yD R),nt w])
 μ _:=0
abbrev KR (R:κ) (T:ML) (I Q:ML) (u:Option (List D)) (w:Vw):LI where
 α:={_u:Unit // eC R w=true/\fH R w=true}
 live:=[0]
 st _:=([aj 0 0],[cV R w (.int Z w.ve) (θ (R.ch || (R.ep != w.ve))) (ae T) (θ false) (.mp 1) (.mp 2) (.aa none) (.sl 3 0 (nO R)) (.sl 5 0 (yD R).length),ai I,ai Q,rO R,χ,ξ 70 7 (yD R)])
 μ _:=0
abbrev KU (R:κ) (T:ML) (I Q:ML) (u:Option (List D)) (w:Vw):LI where
 α:={i:Nat // i<=(bz R.me w.mem w.aM).length/\eC R w=true/\fH R w=true}
 live:=[0,135,136,137]
 dU:=[.mv 0 147]
 st i:=([aj 0 0,.sl 9 0 (bz R.me w.mem w.aM).length,.int Z ((bz R.me w.mem w.aM).length:Int),.int Z (i.1:Int)],[cV R w (.int Z w.ve) (θ (R.ch || (R.ep != w.ve))) (ae T) (θ true) (.mp 5) (.mp 6) (.aa none) (.sl 7 0 ((nO R)+i.1)) (.sl 8 0 (yD R).length),ai I,ai Q,χ,χ,ai [],ai [],ξ 107 5 (R.out.map bV++k8 ((bz R.me w.mem w.aM).take i.1) R w),ξ 70 7 (yD R),ξ 3 1 (ints Z (ia R.me w.mem w.aM))])
 μ i:=(bz R.me w.mem w.aM).length - i.1
def UN (R:κ) (T:ML) (I Q:ML) (u:Option (List D)) (w:Vw):Nat->Option LI
 | 1002=>some (KP R T I Q u w)
 | 1004=>some (UG R T I Q u w)
 | 1006=>some (UI R T I Q u w)
 | 1008=>some (UK R T I Q u w)
 | 1010=>some (KR R T I Q u w)
 | 12=>some (KU R T I Q u w)
 |_=>none
def KW:FuncId->Option dA
 | 42=>some ⟨[],ee [true,true,true,true,true,true,false,true,true,true,true,true,true,false,true,true,false,true,true,true,true,false] Ai⟩
 | 43=>some ⟨[],DZ⟩
 | 44=>some ⟨[],ee [false,true,true,true,true,true,false,true,true,true,true,false,false,true,true,true,true,true,true,true,true,true] uY⟩
 | 45=>some ⟨[],ee [true,false,true,true,false,false,false,false,true,true,true,true,true,true,true,true,true,true,true,true,false,true] w7⟩
 |_=>none
noncomputable def xg:bJ:=dG Tryz.prog KW aG 10
theorem age (B:List (List D)) (K:V->KB->Prop) (an:
 ∀(y1:Bool),(y1=true->
 B.length=0)->
 (y1=true->
 K (aD (ψ 1 [])) [])/\
 (y1=false->
 True/\
 0<=0/\
 (0+B.length)*8<=140737488355328/\
 0+B.length<=([]++B).length/\
 K (aD (ψ 1 (ay 0 (az (0+B.length) ([]++B))))) [])
 ):aI Tryz.prog X0 (aG 43) 43 [aD (.sl 1 B)] [] (jE [.fe 1] (dp 0 K)):=by apply Eq.mp (a:=an);kernel_rfl
theorem ahG (R:κ) (T:ML) (ο π:Value) (w:Vw) (K:V->KB->Prop) (an:
 let cC:=(ints Z (ia R.me w.mem w.aM));let bS:=(ε Z w.ve);let b9:=(δ 2 0 (yD R).length);let bN:=(ints Z w.aM);let bP:=(δ 3 0 (yD R).length);let aC:=(ε Z R.ep);let aH:=(ints Z w.mem);let au:=At (UL R T ο π w) ([aj 0 0,aj 4 0],[cV R w aC (θ R.ch) (ae T) (θ false) (γ ο) (γ π) (aP none) (δ 1 0 (nO R)) bP,rO R,χ,ξ 70 7 (yD R),nt w]);let η:KB:=[cR R (ae T) (θ false) (γ ο) (γ π) (aP none) (δ 1 0 (nO R)) (δ 2 0 (nD R)),rO R,rD R,nt w];let bj:=At (UH R T ο π w) ([aj 0 0,aj 3 0,θ (eN R w)],η);((decide ((↑aH.length:Int) > 0)=true->
 aB 0/\
 ∃(y1:List D),aH[0]? =some y1/\
 ∃(y2:Int),y1[0]? =some (ζ (ν Z y2))/\
 At (KQ R T ο π w) ([aj 0 0,aj 3 0,θ (y2 == R.me)],η))/\
 (decide ((↑aH.length:Int) > 0)=false->
 At (KQ R T ο π w) ([aj 0 0,aj 3 0,θ false],η)))/\
 ∀(y3:Unit),(((w.vi != R.id)=true->
 ∀(y4:Nat->
 Value),K (aw []) [cR R (ae T) (θ false) (γ (y4 14)) (γ (y4 15)) (aP none) (δ 1 0 (nO R)) (δ 2 0 (nD R)),rO R,rD R])/\
 ((w.vi != R.id)=false->
 (decide (w.ve<R.v.ve)=true->
 ∀(y5:Nat->
 Value),K (aw []) [cR R (ae T) (θ false) (γ (y5 14)) (γ (y5 15)) (aP none) (δ 1 0 (nO R)) (δ 2 0 (nD R)),rO R,rD R])/\
 (decide (w.ve<R.v.ve)=false->
 (decide (w.ve<R.ep)=true->
 ∀(y6:Nat->
 Value),K (aw []) [cR R (ae T) (θ false) (γ (y6 14)) (γ (y6 15)) (aP none) (δ 1 0 (nO R)) (δ 2 0 (nD R)),rO R,rD R])/\
 (decide (w.ve<R.ep)=false->
 (decide (w.ve<1)=true->
 ∀(y7:Nat->
 Value),K (aw []) [cR R (ae T) (θ false) (γ (y7 14)) (γ (y7 15)) (aP none) (δ 1 0 (nO R)) (δ 2 0 (nD R)),rO R,rD R])/\
 (decide (w.ve<1)=false->
 ((w.ve == R.v.ve)=true->
 (false=true->
 ∀(y8:Nat->
 Value),K (aw []) [cR R (ae T) (θ false) (γ (y8 14)) (γ (y8 15)) (aP none) (δ 1 0 (nO R)) (δ 2 0 (nD R)),rO R,rD R])/\
 (false=false->
 ((!eN R w)=true->
 ∀(y9:Nat->
 Value),K (aw []) [cR R (ae T) (θ false) (γ (y9 14)) (γ (y9 15)) (aP none) (δ 1 0 (nO R)) (δ 2 0 (nD R)),rO R,rD R])/\
 ((!eN R w)=false->
 bj)))/\
 ((w.ve == R.v.ve)=false->
 bj))))))/\
 ∀(cy:{cO:Unit // eC R w=true}) (cz:Nat->
 Value),nD R=(nD R)/\
 bR (nD R)/\
 ∃(cL:Option Op),let ω:=At (UJ R T ο π w) ([aj 0 0,aj 4 0,θ (eN R w)],[cR R (ae T) (θ false) (γ ο) (γ π) (aP none) (δ 1 0 (nO R)) (δ 3 0 (φ du R.done++yl cL).length),rO R,χ,ξ 70 7 (φ du R.done++yl cL),nt w]);none=mO bo cL/\
 bu cz [0,1,2,3,4,5,7,8,9,10,11,12,14,15,17,18,19,20]/\
 ((bR aH.length/\
 bR bN.length/\
 ω)/\
 bR aH.length/\
 bR bN.length/\
 ω)/\
 ∀(cY:{dy:Unit // eC R w=true}),(((!eN R w)=true->
 ∀(fK:Nat->
 Value),K (aw []) [cV R w aC (θ R.ch) (ae T) (θ false) (γ (fK 14)) (γ (fK 15)) (aP none) (δ 1 0 (nO R)) b9,rO R,ξ 70 7 (yD R)])/\
 ((!eN R w)=false->
 (R.lo=true->
 ∀(dh:Nat->
 Value),K (aw []) [cV R w aC (θ R.ch) (ae T) (θ false) (γ (dh 14)) (γ (dh 15)) (aP none) (δ 1 0 (nO R)) b9,rO R,ξ 70 7 (yD R)])/\
 (R.lo=false->
 ((R.ep == 0)=true->
 (R.bl=true->
 ∀(e_:Nat->
 Value),K (aw []) [cV R w aC (θ R.ch) (ae T) (θ false) (γ (e_ 14)) (γ (e_ 15)) (aP none) (δ 1 0 (nO R)) b9,rO R,ξ 70 7 (yD R)])/\
 (R.bl=false->
 au))/\
 ((R.ep == 0)=false->
 au))))/\
 ∀(fC:{ft:Unit // eC R w=true/\
 fH R w=true}),(((R.ep != w.ve)=true->
 At (KS R T ο π w) ([aj 0 0],[cV R w bS (θ true) (ae T) (θ false) (γ ο) (γ π) (aP none) (δ 1 0 (nO R)) bP,rO R,χ,ξ 70 7 (yD R)]))/\
 ((R.ep != w.ve)=false->
 At (KS R T ο π w) ([aj 0 0],[cV R w aC (θ R.ch) (ae T) (θ false) (γ ο) (γ π) (aP none) (δ 1 0 (nO R)) bP,rO R,χ,ξ 70 7 (yD R)])))/\
 ∀(fu:{eT:Unit // eC R w=true/\
 fH R w=true}) (iI:Nat->
 Value),∃(fX:List Int),∃(eK:List Int),ints Z w.mem=ints Z fX/\
 ints Z w.aM=ints Z eK/\
 dE (fX.length+eK.length)/\
 bu iI [1,2,3,4,5,7,8,9,10,13,14,15,16,17,18,19,20,21]/\
 At (KV R T ο π w) ([aj 0 0,δ 7 0 (bz R.me fX eK).length,ε Z (↑((bz R.me fX eK).length - 0):Int),ε Z 0],[cV R w bS (θ (R.ch || R.ep != w.ve)) (ae T) (θ true) (aX 3) (aX 4) (aP none) (δ 5 0 (nO R)) (δ 6 0 (yD R).length),χ,χ,ai [],ai [],rO R,ξ 70 7 (yD R),ξ 3 1 (ints Z (ia R.me fX eK))])/\
 ∀(ef:{eU:Nat // eU<=(bz R.me w.mem w.aM).length/\
 eC R w=true/\
 fH R w=true}),let bq:=(↑ef.val:Int)<(↑(bz R.me w.mem w.aM).length:Int);let aO:=(az ef.val (bz R.me w.mem w.aM));let dz:=(φ bV R.out++k8 aO R w);(decide (bq)=true->
 bw (↑ef.val:Int) ((bz R.me w.mem w.aM).length - 0)/\
 ∃(iJ:List D),cC[0+(↑ef.val:Int).toNat]? =some iJ/\
 ∃(jO:Int),iJ[0]? =some (ζ (ν Z jO))/\
 ∀(gZ:Nat->
 Value),nO R+ef.val=dz.length/\
 bR (nO R+ef.val)/\
 ∃(fh:List Int),∃(jP:List L3),iq (aU ι R.c) fh/\
 bI T jP/\
 bu gZ [0,2,3,8,9,10,11,12,13,14,15,16,17,18,19,21]/\
 Nx (KV R T ο π w) ef ([aj 0 0,δ 7 0 (bz R.me w.mem w.aM).length,ε Z (↑(bz R.me w.mem w.aM).length:Int),ε Z (Z.wrap ((↑ef.val:Int)+1))],[ar [ε Z R.me,ε Z R.id,θ R.bl,θ R.lo,ε Z w.ve,ε Z R.nu,bB 128 (aU ι fh),ae T,ε Z w.vi,ε Z w.vv,ε Z w.ve,aD (ψ 1 aH),aD (ψ 1 bN),θ true,aX 3,aX 4,aP none,ε Z R.ce,θ (R.ch || R.ep != w.ve),ε Z R.ti,δ 5 0 (nO R+ef.val+1),δ 6 0 (yD R).length],χ,χ,ai [],ai [],ξ 107 5 (φ bV R.out++k8 aO R w++[[dn Z jO,ζ (ν Z 10),ψ 1 [[dn Z R.id],[dn Z w.ve],[dn Z R.nu]],ψ 1 (ints ι (b_ fh)),ψ 1 [[ψ 1 (ints ι (bh jP))]]]]),ξ 70 7 (yD R),ξ 3 1 cC]))/\
 (decide (bq)=false->
 K (aw []) [cV R w bS (θ (R.ch || R.ep != w.ve)) (ae T) (θ true) (aX 1) (aX 2) (aP none) (δ 3 0 (nO R+ef.val)) (δ 4 0 (yD R).length),ai [],ai [],ξ 107 5 dz,ξ 70 7 (yD R)])
 ):aI Tryz.prog xg (UO R T ο π w) 15 [aj 0 0,.agg [.int Z w.vi,.int Z w.vv,.int Z w.ve,aD (.sl 1 (ints Z w.mem)),aD (.sl 1 (ints Z w.aM))]] [cR R (ae T) (θ false) (γ ο) (γ π) (.aa none) (.sl 1 0 (nO R)) (.sl 2 0 (nD R)),rO R,rD R] (gj 13 eI K):=by apply Eq.mp (a:=an);kernel_rfl
theorem ahF (R:κ) (T:ML) (I Q:ML) (u:Option (List D)) (w:Vw) (K:V->KB->Prop) (an:
 let dz:=(ints Z (ia R.me w.mem w.aM));let cC:=(ε Z w.ve);let bS:=(δ 2 0 (yD R).length);let b9:=(ints Z w.aM);let bN:=(δ 5 0 (yD R).length);let aO:=(ε Z R.ep);let aC:=(ints Z w.mem);let aH:=At (UK R T I Q u w) ([aj 0 0,aj 6 0],[cV R w aO (θ R.ch) (ae T) (θ false) (aX 1) (aX 2) (aP none) (δ 3 0 (nO R)) bN,ai I,ai Q,rO R,χ,ξ 70 7 (yD R),nt w]);let ω:KB:=[cR R (ae T) (θ true) (aX 1) (aX 2) (aP u) (δ 3 0 (nO R)) (δ 4 0 (nD R)),ai I,ai Q,rO R,rD R,nt w];let bq:=At (UG R T I Q u w) ([aj 0 0,aj 5 0,θ (eN R w)],ω);let η:=K (aw []) [cR R (ae T) (θ true) (aX 1) (aX 2) (aP u) (δ 3 0 (nO R)) (δ 4 0 (nD R)),ai I,ai Q,rO R,rD R];((decide ((↑aC.length:Int) > 0)=true->
 aB 0/\
 ∃(y1:List D),aC[0]? =some y1/\
 ∃(y2:Int),y1[0]? =some (ζ (ν Z y2))/\
 At (KP R T I Q u w) ([aj 0 0,aj 5 0,θ (y2 == R.me)],ω))/\
 (decide ((↑aC.length:Int) > 0)=false->
 At (KP R T I Q u w) ([aj 0 0,aj 5 0,θ false],ω)))/\
 ∀(y3:Unit),(((w.vi != R.id)=true->
 η)/\
 ((w.vi != R.id)=false->
 (decide (w.ve<R.v.ve)=true->
 η)/\
 (decide (w.ve<R.v.ve)=false->
 (decide (w.ve<R.ep)=true->
 η)/\
 (decide (w.ve<R.ep)=false->
 (decide (w.ve<1)=true->
 η)/\
 (decide (w.ve<1)=false->
 ((w.ve == R.v.ve)=true->
 (true=true->
 η)/\
 (true=false->
 ((!eN R w)=true->
 η)/\
 ((!eN R w)=false->
 bq)))/\
 ((w.ve == R.v.ve)=false->
 bq))))))/\
 ∀(y5:{y4:Unit // eC R w=true}) (y6:Nat->
 Value),nD R=(nD R)/\
 bR (nD R)/\
 ∃(y7:Option Op),let au:=At (UI R T I Q u w) ([aj 0 0,aj 6 0,θ (eN R w)],[cR R (ae T) (θ false) (aX 1) (aX 2) (aP none) (δ 3 0 (nO R)) (δ 5 0 (φ du R.done++yl y7).length),ai I,ai Q,rO R,χ,ξ 70 7 (φ du R.done++yl y7),nt w]);u=mO bo y7/\
 bu y6 [0,1,2,3,4,5,7,8,9,10,11,12,14,15,17,18,19,20]/\
 ((bR aC.length/\
 bR b9.length/\
 au)/\
 bR aC.length/\
 bR b9.length/\
 au)/\
 ∀(y9:{y8:Unit // eC R w=true}),(((!eN R w)=true->
 ∀(cO:Nat->
 Value),K (aw []) [cV R w aO (θ R.ch) (ae T) (θ false) (γ (cO 14)) (γ (cO 15)) (aP none) (δ 1 0 (nO R)) bS,rO R,ξ 70 7 (yD R)])/\
 ((!eN R w)=false->
 (R.lo=true->
 ∀(cy:Nat->
 Value),K (aw []) [cV R w aO (θ R.ch) (ae T) (θ false) (γ (cy 14)) (γ (cy 15)) (aP none) (δ 1 0 (nO R)) bS,rO R,ξ 70 7 (yD R)])/\
 (R.lo=false->
 ((R.ep == 0)=true->
 (R.bl=true->
 ∀(cz:Nat->
 Value),K (aw []) [cV R w aO (θ R.ch) (ae T) (θ false) (γ (cz 14)) (γ (cz 15)) (aP none) (δ 1 0 (nO R)) bS,rO R,ξ 70 7 (yD R)])/\
 (R.bl=false->
 aH))/\
 ((R.ep == 0)=false->
 aH))))/\
 ∀(dy:{cL:Unit // eC R w=true/\
 fH R w=true}),(((R.ep != w.ve)=true->
 At (KR R T I Q u w) ([aj 0 0],[cV R w cC (θ true) (ae T) (θ false) (aX 1) (aX 2) (aP none) (δ 3 0 (nO R)) bN,ai I,ai Q,rO R,χ,ξ 70 7 (yD R)]))/\
 ((R.ep != w.ve)=false->
 At (KR R T I Q u w) ([aj 0 0],[cV R w aO (θ R.ch) (ae T) (θ false) (aX 1) (aX 2) (aP none) (δ 3 0 (nO R)) bN,ai I,ai Q,rO R,χ,ξ 70 7 (yD R)])))/\
 ∀(fK:{cY:Unit // eC R w=true/\
 fH R w=true}) (dh:Nat->
 Value),∃(e_:List Int),∃(ft:List Int),ints Z w.mem=ints Z e_/\
 ints Z w.aM=ints Z ft/\
 dE (e_.length+ft.length)/\
 bu dh [1,2,3,4,5,7,8,9,10,13,14,15,16,17,18,19,20,21]/\
 At (KU R T I Q u w) ([aj 0 0,δ 9 0 (bz R.me e_ ft).length,ε Z (↑((bz R.me e_ ft).length - 0):Int),ε Z 0],[cV R w cC (θ (R.ch || R.ep != w.ve)) (ae T) (θ true) (aX 5) (aX 6) (aP none) (δ 7 0 (nO R)) (δ 8 0 (yD R).length),ai I,ai Q,χ,χ,ai [],ai [],rO R,ξ 70 7 (yD R),ξ 3 1 (ints Z (ia R.me e_ ft))])/\
 ∀(eT:{fC:Nat // fC<=(bz R.me w.mem w.aM).length/\
 eC R w=true/\
 fH R w=true}),let bP:=(↑eT.val:Int)<(↑(bz R.me w.mem w.aM).length:Int);let bj:=(az eT.val (bz R.me w.mem w.aM));let fv:=(φ bV R.out++k8 bj R w);(decide (bP)=true->
 bw (↑eT.val:Int) ((bz R.me w.mem w.aM).length - 0)/\
 ∃(fu:List D),dz[0+(↑eT.val:Int).toNat]? =some fu/\
 ∃(iI:Int),fu[0]? =some (ζ (ν Z iI))/\
 ∀(fX:Nat->
 Value),nO R+eT.val=fv.length/\
 bR (nO R+eT.val)/\
 ∃(eK:List Int),∃(eU:List L3),iq (aU ι R.c) eK/\
 bI T eU/\
 bu fX [0,2,3,8,9,10,11,12,13,14,15,16,17,18,19,21]/\
 Nx (KU R T I Q u w) eT ([aj 0 0,δ 9 0 (bz R.me w.mem w.aM).length,ε Z (↑(bz R.me w.mem w.aM).length:Int),ε Z (Z.wrap ((↑eT.val:Int)+1))],[ar [ε Z R.me,ε Z R.id,θ R.bl,θ R.lo,ε Z w.ve,ε Z R.nu,bB 128 (aU ι eK),ae T,ε Z w.vi,ε Z w.vv,ε Z w.ve,aD (ψ 1 aC),aD (ψ 1 b9),θ true,aX 5,aX 6,aP none,ε Z R.ce,θ (R.ch || R.ep != w.ve),ε Z R.ti,δ 7 0 (nO R+eT.val+1),δ 8 0 (yD R).length],ai I,ai Q,χ,χ,ai [],ai [],ξ 107 5 (φ bV R.out++k8 bj R w++[[dn Z iI,ζ (ν Z 10),ψ 1 [[dn Z R.id],[dn Z w.ve],[dn Z R.nu]],ψ 1 (ints ι (b_ eK)),ψ 1 [[ψ 1 (ints ι (bh eU))]]]]),ξ 70 7 (yD R),ξ 3 1 dz]))/\
 (decide (bP)=false->
 K (aw []) [cV R w cC (θ (R.ch || R.ep != w.ve)) (ae T) (θ true) (aX 1) (aX 2) (aP none) (δ 3 0 (nO R+eT.val)) (δ 4 0 (yD R).length),ai [],ai [],ξ 107 5 fv,ξ 70 7 (yD R)])
 ):aI Tryz.prog xg (UN R T I Q u w) 15 [aj 0 0,.agg [.int Z w.vi,.int Z w.vv,.int Z w.ve,aD (.sl 1 (ints Z w.mem)),aD (.sl 1 (ints Z w.aM))]] [cR R (ae T) (θ true) (.mp 1) (.mp 2) (.aa u) (.sl 3 0 (nO R)) (.sl 4 0 (nD R)),ai I,ai Q,rO R,rD R] (gj 13 eI K):=by apply Eq.mp (a:=an);kernel_rfl
theorem abl:aN Tryz.prog 43 DZ:=Tr fN mixed [.fe 1] (fun args kb K h=>by
 unfold DZ at h;split at h<;>try exact h.elim
 rename_i B
 obtain⟨⟨hn⟩,h⟩:=h
 refine⟨_,age B K fun b hb=>⟨fun e=>?_,fun _=>⟨trivial,av _,by omega,by simp,?_⟩⟩⟩
 ·have:=ma (hb e)
  rw[this]at h;exact h
 ·simpa using h)
theorem oH {k:IntKind}:ints k []=[]:=rfl
theorem qv {R:κ} {w:Vw} (h:eC R w=false):gN R w=R:=by unfold gN;rw[if_pos h]
theorem UA {R:κ} {w:Vw} (h:eC R w=true) (h2:fH R w=false):gN R w={gn R with v:=w }:=by
 unfold gN;rw[if_neg (by simp [h])];simp only[if_pos h2]
theorem Uz {R:κ} {w:Vw} (h:eC R w=true) (h2:fH R w=true):gN R w={R with v:=w,ep:=w.ve,ch:=R.ch || (R.ep != w.ve),ld:=some ⟨fun _=>false,fun _=>false,none⟩,done:=(gn R).done,out:=R.out++(bz R.me w.mem w.aM).map fun to=>⟨to,⟨10,[R.id,w.ve,R.nu],b_ R.c,[bh (gl R)]⟩⟩ }:=by
 unfold gN
 rw[if_neg (by simp [h])]
 simp only[h2,Kg]
 rfl
theorem ahS:dF Tryz.prog KW:=fun f k h=>by
 unfold KW at h
 split at h
 ·cases h;exact fm Ry _
 ·cases h;exact abl
 ·cases h;exact fm Cd _
 ·cases h;exact fm I4 _
 ·cases h
theorem Mr:bZ Tryz.prog xg:=dI mixed ahS aG 10
theorem Oz {R:κ} {w:Vw} (h:w.vi≠R.id):eC R w=false:=by simp [eC,h]
theorem vw {R:κ} {w:Vw} (h:w.ve<R.v.ve∨w.ve<R.ep∨w.ve<1):eC R w=false:=by
 have:¬ (w.vi=R.id/\R.v.ve<=w.ve/\R.ep<=w.ve/\1<=w.ve):=by omega
 simp only[eC,decide_eq_false this,Bool.false_and]
theorem go_eq {R:κ} {w:Vw} (h:w.ve=R.v.ve) (h2:fp R=true∨eN R w=false):eC R w=false:=by
 rcases h2 with h2 | h2<;>simp [eC,h,h2]
theorem GP {R:κ} {w:Vw} (h1:w.vi=R.id) (h2:¬ w.ve<R.v.ve) (h3:¬ w.ve<R.ep) (h4:¬ w.ve<1) (h5:w.ve=R.v.ve->fp R=false/\eN R w=true):eC R w=true:=by
 have:w.vi=R.id/\R.v.ve<=w.ve/\R.ep<=w.ve/\1<=w.ve:=by omega
 simp only[eC,decide_eq_true this,Bool.true_and]
 by_cases e:w.ve=R.v.ve
 ·obtain⟨a,b⟩:=h5 e
  simp [a,b]
 ·simp [e]
theorem te (R:κ):φ du (gn R).done=yD R:=by
 unfold gn yD
 cases cw R with
 |none=>simp [yl]
 |some o=>simp [yl,du,F4,bo,dn,ints]
theorem Jf {me:Int} {m j:List Int} {i:Nat} (hlt:i<(bz me m j).length):(ia me m j)[i]? =(bz me m j)[i]?:=by
 have h2:(bz me m j)[i]? =((ia me m j).take (bz me m j).length)[i]?:=by rw[Jg]
 rw[h2,hU hlt]
theorem ahP (R:κ) (T:ML) (ο π:Value) (w:Vw) (hT:bI T R.t) (hl:R.ld=none) (hR:dw R) (hw:w.mem.length+w.aM.length<=1000) (hroom:R.out.length+(bz R.me w.mem w.aM).length<=100000) (eB:∀ ο π,aF R [cR R (ae T) (θ false) (γ ο) (γ π) (.aa none) (.sl 1 0 (nO R)) (.sl 2 0 (nD R)),rO R,rD R]) (K:V->KB->Prop) (hK:∀ kb',aF (gN R w) kb'->K (.υ []) kb'):aI Tryz.prog xg (UO R T ο π w) 15 [aj 0 0,.agg [.int Z w.vi,.int Z w.vv,.int Z w.ve,aD (.sl 1 (ints Z w.mem)),aD (.sl 1 (ints Z w.aM))]] [cR R (ae T) (θ false) (γ ο) (γ π) (.aa none) (.sl 1 0 (nO R)) (.sl 2 0 (nD R)),rO R,rD R] (gj 13 eI K):=by
 have fin:∀{R':κ} {kb':KB},gN R w=R'->aF R' kb'->K (.υ []) kb':=fun{R' kb'} h1 h2=>by
  have:=hK kb'
  rw[h1]at this
  exact this h2
 have h5:dE (w.mem.length+w.aM.length):=⟨by omega⟩
 have hdl:(φ du R.done).length<=1000000:=by rw[bX];have:=hR.dl;omega
 have mY:fp R=false:=by simp [fp,hl]
 have oD:none=(cw R).map bo:=by simp [cw,hl]
 have nI:w.mem.length<=1000000:=by omega
 have hlj:w.aM.length<=1000000:=by omega
 refine ahG R T ο π w K ⟨⟨fun _=>?_,fun e0=>At.mk' () ?_⟩,fun _=>⟨⟨fun e1=>fun f=>fin (qv (Oz (by simpa using e1))) (eB _ _),fun e1=>⟨fun e2=>fun f=>fin (qv (vw (.inl (by simpa using e2)))) (eB _ _),fun e2=>⟨fun e3=>fun f=>fin (qv (vw (.inr (.inl (by simpa using e3))))) (eB _ _),fun e3=>⟨fun e4=>fun f=>fin (qv (vw (.inr (.inr (by simpa using e4))))) (eB _ _),fun e4=>⟨fun e5=>⟨fun f=>(by cases f),fun _=>⟨fun e6=>fun f=>fin (qv (go_eq (by simpa using e5) (.inr (by simpa using e6)))) (eB _ _),fun e6=>At.mk' ⟨(),GP (by simpa using e1) (by simpa using e2) (by simpa using e3) (by simpa using e4) (fun _=>⟨mY,by simpa using e6⟩)⟩ rfl⟩⟩,fun e5=>At.mk' ⟨(),GP (by simpa using e1) (by simpa using e2) (by simpa using e3) (by simpa using e4) (fun h=>absurd h (by simpa using e5))⟩ rfl⟩⟩⟩⟩⟩,fun fl f=>⟨rfl,⟨hdl⟩,cw R,oD,⟨by simp [bT]⟩,⟨⟨⟨by rw[bi];exact nI⟩,⟨by rw[bi];exact hlj⟩,At.mk' fl rfl⟩,⟨by rw[bi];exact nI⟩,⟨by rw[bi];exact hlj⟩,At.mk' fl rfl⟩,fun fl=>⟨?_,fun qR=>⟨⟨fun e1=>At.mk' ⟨(),qR.2⟩ ?_,fun e1=>At.mk' ⟨(),qR.2⟩ ?_⟩,fun _ f=>⟨w.mem,w.aM,rfl,rfl,h5,⟨by simp [bT]⟩,At.mk' ⟨0,bt _,qR.2⟩ ?_,?_⟩⟩⟩⟩⟩⟩
 ·cases hm:w.mem with
  |nil=>rename_i e0;rw[hm]at e0;simp [ints]at e0
  |cons b l=>
   refine⟨fa _,[dn Z b],by simp [ints,dn],b,rfl,At.mk' () ?_⟩
   have:eN R w=(b == R.me):=by simp [eN,hm]
   simp only[this,hm]
 ·have:w.mem=[]:=by
   cases hm:w.mem with
   |nil=>rfl
   |cons b l=>rw[hm]at e0;simp [ints]at e0
  have h2:eN R w=false:=by simp [eN,this]
  simp only[h2]
 ·have um:fH R w=false->∀ f:Nat->Value,K (.υ []) [cV R w (.int Z R.ep) (θ R.ch) (ae T) (θ false) (γ (f 14)) (γ (f 15)) (.aa none) (.sl 1 0 (nO R)) (.sl 2 0 (yD R).length),rO R,ξ 70 7 (yD R)]:=fun h f=>fin (UA fl.2 h) (by
   unfold aF
   refine⟨f 14,f 15,T,hT,?_⟩
   simp only[nD,rD,te]
   rfl)
  refine⟨fun e1 f=>um (by simp [fH,show eN R w=false by simpa using e1]) f,fun e1=>⟨fun e2 f=>um (by simp [fH,e2]) f,fun e2=>⟨fun e3=>⟨fun e4 f=>um (by simp [fH,e4,show R.ep=0 by simpa using e3]) f,fun e4=>At.mk' ⟨(),fl.2,by simp [fH,e2,e4,show eN R w=true by simpa using e1]⟩ rfl⟩,fun e3=>At.mk' ⟨(),fl.2,by simp [fH,e2,show ¬ R.ep=0 by simpa using e3,show eN R w=true by simpa using e1]⟩ rfl⟩⟩⟩
 ·have e1:(R.ep != w.ve)=true:=e1
  simp only[e1,Bool.or_true]
  try rfl
 ·have e1:(R.ep != w.ve)=false:=e1
  have e2:R.ep=w.ve:=by simpa using e1
  simp only[e2,bne_self_eq_false,Bool.or_false]
  try rfl
 ·simp [k8]
  try rfl
 ·rintro⟨i,Hl,hg⟩
  refine⟨fun hlt=>?_,fun hlt=>?_⟩
  ·have hlt:i<(bz R.me w.mem w.aM).length:=by simpa using hlt
   have da:(ia R.me w.mem w.aM)[i]? =(bz R.me w.mem w.aM)[i]?:=Jf hlt
   refine⟨Bx (by simpa using hlt),[dn Z (bz R.me w.mem w.aM)[i]],?_,(bz R.me w.mem w.aM)[i],rfl,fun f=>⟨?_,⟨?_⟩,R.c,R.t,⟨rfl,hR.cl,hR.cb⟩,hT,⟨by simp [bT]⟩,Nx.mk' ⟨i+1,hlt,hg⟩ ?_ ?_⟩⟩
   ·simp only[cP,c9]
    rw[ints_getElem?,da,bp hlt];rfl
   ·simp [k8,nO];omega
   ·simp [nO];omega
   ·have wz:=bD (n:=(i:Int)+1) (by omega) (by omega)
    have eh:k8 ((bz R.me w.mem w.aM).take (i+1)) R w=k8 ((bz R.me w.mem w.aM).take i) R w++[mG (bz R.me w.mem w.aM)[i] R.id w.ve R.nu R.c R.t]:=by
     unfold k8
     rw[i_,bp hlt,jy];rfl
    simp only[wz]
    simp [eh,mG,fP,dn,ints,cV]
    first
     |omega
     |exact⟨by omega,rfl⟩
     |exact⟨by omega,rfl,rfl⟩
   ·show(bz R.me w.mem w.aM).length - (i+1)<(bz R.me w.mem w.aM).length - i
    omega
  ·have hi2:i=(bz R.me w.mem w.aM).length:=by
    have:¬ i<(bz R.me w.mem w.aM).length:=by simpa using hlt
    omega
   subst hi2
   refine fin (Uz hg.1 hg.2) ?_
   unfold aF
   refine⟨[],[],T,rn,rn,hT,?_⟩
   simp only[nD,rD,te]
   simp [cR,cV,k8,mG,fP,gl,dn,bV,je,ints,Function.comp_def]
theorem ahO (R:κ) (T:ML) (I Q:ML) (L:de) (w:Vw) (hT:bI T R.t) (hl:R.ld=some L) (hR:dw R) (hw:w.mem.length+w.aM.length<=1000) (hroom:R.out.length+(bz R.me w.mem w.aM).length<=100000) (hkb:aF R [cR R (ae T) (θ true) (.mp 1) (.mp 2) (.aa (L.cur.map bo)) (.sl 3 0 (nO R)) (.sl 4 0 (nD R)),ai I,ai Q,rO R,rD R]) (K:V->KB->Prop) (hK:∀ kb',aF (gN R w) kb'->K (.υ []) kb'):aI Tryz.prog xg (UN R T I Q (L.cur.map bo) w) 15 [aj 0 0,.agg [.int Z w.vi,.int Z w.vv,.int Z w.ve,aD (.sl 1 (ints Z w.mem)),aD (.sl 1 (ints Z w.aM))]] [cR R (ae T) (θ true) (.mp 1) (.mp 2) (.aa (L.cur.map bo)) (.sl 3 0 (nO R)) (.sl 4 0 (nD R)),ai I,ai Q,rO R,rD R] (gj 13 eI K):=by
 have fin:∀{R':κ} {kb':KB},gN R w=R'->aF R' kb'->K (.υ []) kb':=fun{R' kb'} h1 h2=>by
  have:=hK kb'
  rw[h1]at this
  exact this h2
 have h5:dE (w.mem.length+w.aM.length):=⟨by omega⟩
 have hdl:(φ du R.done).length<=1000000:=by rw[bX];have:=hR.dl;omega
 have mY:fp R=true:=by simp [fp,hl]
 have oD:L.cur.map bo=(cw R).map bo:=by simp [cw,hl]
 have nI:w.mem.length<=1000000:=by omega
 have hlj:w.aM.length<=1000000:=by omega
 refine ahF R T I Q (L.cur.map bo) w K ⟨⟨fun _=>?_,fun e0=>At.mk' () ?_⟩,fun _=>⟨⟨fun e1=>fin (qv (Oz (by simpa using e1))) hkb,fun e1=>⟨fun e2=>fin (qv (vw (.inl (by simpa using e2)))) hkb,fun e2=>⟨fun e3=>fin (qv (vw (.inr (.inl (by simpa using e3))))) hkb,fun e3=>⟨fun e4=>fin (qv (vw (.inr (.inr (by simpa using e4))))) hkb,fun e4=>⟨fun e5=>⟨fun _=>fin (qv (go_eq (by simpa using e5) (.inl mY))) hkb,fun f=>(by cases f)⟩,fun e5=>At.mk' ⟨(),GP (by simpa using e1) (by simpa using e2) (by simpa using e3) (by simpa using e4) (fun h=>absurd h (by simpa using e5))⟩ rfl⟩⟩⟩⟩⟩,fun fl f=>⟨rfl,⟨hdl⟩,cw R,oD,⟨by simp [bT]⟩,⟨⟨⟨by rw[bi];exact nI⟩,⟨by rw[bi];exact hlj⟩,At.mk' fl rfl⟩,⟨by rw[bi];exact nI⟩,⟨by rw[bi];exact hlj⟩,At.mk' fl rfl⟩,fun fl=>⟨?_,fun qR=>⟨⟨fun e1=>At.mk' ⟨(),qR.2⟩ ?_,fun e1=>At.mk' ⟨(),qR.2⟩ ?_⟩,fun _ f=>⟨w.mem,w.aM,rfl,rfl,h5,⟨by simp [bT]⟩,At.mk' ⟨0,bt _,qR.2⟩ ?_,?_⟩⟩⟩⟩⟩⟩
 ·cases hm:w.mem with
  |nil=>rename_i e0;rw[hm]at e0;simp [ints]at e0
  |cons b l=>
   refine⟨fa _,[dn Z b],by simp [ints,dn],b,rfl,At.mk' () ?_⟩
   have:eN R w=(b == R.me):=by simp [eN,hm]
   simp only[this,hm]
 ·have:w.mem=[]:=by
   cases hm:w.mem with
   |nil=>rfl
   |cons b l=>rw[hm]at e0;simp [ints]at e0
  have h2:eN R w=false:=by simp [eN,this]
  simp only[h2]
 ·have um:fH R w=false->∀ f:Nat->Value,K (.υ []) [cV R w (.int Z R.ep) (θ R.ch) (ae T) (θ false) (γ (f 14)) (γ (f 15)) (.aa none) (.sl 1 0 (nO R)) (.sl 2 0 (yD R).length),rO R,ξ 70 7 (yD R)]:=fun h f=>fin (UA fl.2 h) (by
   unfold aF
   refine⟨f 14,f 15,T,hT,?_⟩
   simp only[nD,rD,te]
   rfl)
  refine⟨fun e1 f=>um (by simp [fH,show eN R w=false by simpa using e1]) f,fun e1=>⟨fun e2 f=>um (by simp [fH,e2]) f,fun e2=>⟨fun e3=>⟨fun e4 f=>um (by simp [fH,e4,show R.ep=0 by simpa using e3]) f,fun e4=>At.mk' ⟨(),fl.2,by simp [fH,e2,e4,show eN R w=true by simpa using e1]⟩ rfl⟩,fun e3=>At.mk' ⟨(),fl.2,by simp [fH,e2,show ¬ R.ep=0 by simpa using e3,show eN R w=true by simpa using e1]⟩ rfl⟩⟩⟩
 ·have e1:(R.ep != w.ve)=true:=e1
  simp only[e1,Bool.or_true]
  try rfl
 ·have e1:(R.ep != w.ve)=false:=e1
  have e2:R.ep=w.ve:=by simpa using e1
  simp only[e2,bne_self_eq_false,Bool.or_false]
  try rfl
 ·simp [k8]
  try rfl
 ·rintro⟨i,Hl,hg⟩
  refine⟨fun hlt=>?_,fun hlt=>?_⟩
  ·have hlt:i<(bz R.me w.mem w.aM).length:=by simpa using hlt
   have da:(ia R.me w.mem w.aM)[i]? =(bz R.me w.mem w.aM)[i]?:=Jf hlt
   refine⟨Bx (by simpa using hlt),[dn Z (bz R.me w.mem w.aM)[i]],?_,(bz R.me w.mem w.aM)[i],rfl,fun f=>⟨?_,⟨?_⟩,R.c,R.t,⟨rfl,hR.cl,hR.cb⟩,hT,⟨by simp [bT]⟩,Nx.mk' ⟨i+1,hlt,hg⟩ ?_ ?_⟩⟩
   ·simp only[cP,c9]
    rw[ints_getElem?,da,bp hlt];rfl
   ·simp [k8,nO];omega
   ·simp [nO];omega
   ·have wz:=bD (n:=(i:Int)+1) (by omega) (by omega)
    have eh:k8 ((bz R.me w.mem w.aM).take (i+1)) R w=k8 ((bz R.me w.mem w.aM).take i) R w++[mG (bz R.me w.mem w.aM)[i] R.id w.ve R.nu R.c R.t]:=by
     unfold k8
     rw[i_,bp hlt,jy];rfl
    simp only[wz]
    simp [eh,mG,fP,dn,ints,cV]
    first
     |omega
     |exact⟨by omega,rfl⟩
     |exact⟨by omega,rfl,rfl⟩
   ·show(bz R.me w.mem w.aM).length - (i+1)<(bz R.me w.mem w.aM).length - i
    omega
  ·have hi2:i=(bz R.me w.mem w.aM).length:=by
    have:¬ i<(bz R.me w.mem w.aM).length:=by simpa using hlt
    omega
   subst hi2
   refine fin (Uz hg.1 hg.2) ?_
   unfold aF
   refine⟨[],[],T,rn,rn,hT,?_⟩
   simp only[nD,rD,te]
   simp [cR,cV,k8,mG,fP,gl,dn,bV,je,ints,Function.comp_def]
def Vz:aE:=fun args kb K=>∃ R w,args=[aj 0 0,.agg [.int Z w.vi,.int Z w.vv,.int Z w.ve,aD (.sl 1 (ints Z w.mem)),aD (.sl 1 (ints Z w.aM))]]/\aF R kb/\dw R/\w.mem.length+w.aM.length<=1000/\R.out.length+(bz R.me w.mem w.aM).length<=100000/\∀ kb',aF (gN R w) kb'->K (.υ []) kb'
theorem acJ:fZ Tryz.prog 15 Vz:=uh mixed 13 eI (fun args kb K h=>by
 obtain⟨R,w,rfl,hkb,hR,hw,hroom,hK⟩:=h
 have iP:=hkb
 unfold aF at hkb
 split at hkb
 ·rename_i hl
  obtain⟨ο,π,T,hT,rfl⟩:=hkb
  exact⟨_,_,Mr,ahP R T ο π w hT hl hR hw hroom (fun a b=>by unfold aF;simp only[hl];exact⟨a,b,T,hT,rfl⟩) K hK⟩
 ·rename_i L hl
  obtain⟨I,Q,T,hI,hQ,hT,rfl⟩:=hkb
  exact⟨_,_,Mr,ahO R T I Q L w hT hl hR hw hroom iP K hK⟩)
def bU (m:dY) (i:Nat):Int:=m.n.getD i 0
def j9 (b:List Int):Option (List Int):=match fq b with | some c=>if c.length=128 then some c else none | none=>none
open Classical in
noncomputable def loadT (b:List Int):Option (List L3):=if h:∃ x,eX x/\b=bh x then some h.choose else none
noncomputable def jh (R:κ) (fr:Int) (m:dY):κ:=
 if bU m 1<R.ep∨bU m 1=R.ep/\(bU m 2<R.nu∨fp R=true)∨m.l.length≠1 then pC R fr else
 match j9 m.b,loadT (m.l.getD 0 [])with
 |some c,some t=>ib {gn R with ep:=bU m 1,nu:=bU m 2,c:=c,t:=t,ch:=true } fr 11 [bU m 2] [] []
 |_,_=>R
def mark (f:Int->Bool) (k:Int) (v:Bool):Int->Bool:=fun n=>if n=k then v else f n
def iH (R:κ) (fr:Int) (m:dY):κ:=match R.ld with
 |none=>R
 |some L=>if bU m 1≠R.ep∨bU m 2≠R.nu then R else match L.cur with
  |none=>{R with ld:=some ⟨mark L.ins fr true,L.cN,none⟩ }
  |some o=>fV {R with ld:=some ⟨mark L.ins fr true,mark L.cN fr true,some o⟩ }
def yw (m:dY):Op:=⟨bU m 3,bU m 4,bU m 5,bU m 6,m.b⟩
def jf (R:κ) (fr:Int) (m:dY):κ:=
 if bU m 1=R.ep/\bU m 2=R.nu/\fp R=false then ib R fr 13 [R.nu] [] []
 else if bU m 1=R.ep/\bU m 2=R.nu+1/\fp R=false/\gB (yw m)=true/\(bU m 5≠4∨dZ R.c=bU m 7)then ib (iB R (yw m)) fr 13 [R.nu+1] [] []
 else pC R fr
def iC (R:κ) (fr:Int) (m:dY):κ:=match R.ld with
 |none=>R
 |some L=>match L.cur with
  |none=>R
  |some o=>if bU m 1=R.ep/\bU m 2=R.nu then fV {R with ld:=some ⟨L.ins,mark L.cN fr true,some o⟩ }else R
def iF (R:κ) (fr:Int) (m:dY):κ:=match R.ld with
 |none=>R
 |some L=>if R.ep<bU m 1 then gn R else if bU m 1=R.ep/\R.nu<bU m 2 then gn {R with lo:=true }
  else qp {R with ld:=some {L with ins:=mark L.ins fr false } } fr
def jb (kd:Int):Nat:=if kd=12 then 8 else 3
def cI (R:κ) (fr:Int) (m:dY):Bool:=decide (10<=m.kd/\m.kd<=14/\m.n.length=jb m.kd/\bU m 0=R.id/\fr≠R.me) && !m.n.any df
noncomputable def gF (R:κ) (fr:Int) (m:dY):κ:=
 if cI R fr m=false then R
 else if m.kd=10 then jh R fr m else if m.kd=11 then iH R fr m else if m.kd=12 then jf R fr m else if m.kd=13 then iC R fr m else iF R fr m
def cf (ls:List (List Int)):List (List D):=ls.map fun x=>[.sl 1 (ints ι x)]
def jM (R:κ) (q1 q2:Int) (ls:List (List Int)):Prop:=q1<R.ep∨q1=R.ep/\(q2<R.nu∨fp R=true)∨ls.length≠1
structure zy (b:List Int) (is:Bool) (cc:List Int):Prop where
 c1:is=true->j9 b=some cc
 c0:is=false->j9 b=none
structure zx (b y:List Int) (is ok:Bool) (cc:List Int) (x:List L3) (M:ML):Prop where
 c1:is=true->j9 b=some cc
 c0:is=false->j9 b=none
 t1:ok=true->loadT y=some x/\bI M x
 t0:ok=false->loadT y=none
abbrev TJ (R:κ) (T:ML) (ο π:Value) (fr kd q0 q1 q2:Int) (b:List Int) (ls:List (List Int)):LI where
 α:={_u:Unit // ¬ jM R q1 q2 ls}
 live:=[0,1,5,6,7]
 st _:=([aj 0 0,.int Z fr,aj 3 0,.int Z q1,.int Z q2],[cR R (ae T) (θ false) (γ ο) (γ π) (.aa none) (.sl 1 0 (nO R)) (.sl 2 0 (nD R)),rO R,rD R,ar [.int Z kd,aD (.sl 1 [[dn Z q0],[dn Z q1],[dn Z q2]]),aD (.sl 1 (ints ι b)),aD (.sl 1 (cf ls))]])
 μ _:=0
abbrev TL (R:κ) (T:ML) (ο π:Value) (fr kd q0 q1 q2:Int) (b:List Int) (ls:List (List Int)):LI where
 α:={p:Bool×List Int // ¬ jM R q1 q2 ls/\zy b p.1 p.2}
 live:=[0,1,5,6,7,8,9]
 st i:=([aj 0 0,.int Z fr,aj 3 0,.int Z q1,.int Z q2,aj 4 0,θ i.1.1],[cR R (ae T) (θ false) (γ ο) (γ π) (.aa none) (.sl 1 0 (nO R)) (.sl 2 0 (nD R)),rO R,rD R,ar [.int Z kd,aD (.sl 1 [[dn Z q0],[dn Z q1],[dn Z q2]]),aD (.sl 1 (ints ι b)),aD (.sl 1 (cf ls))],ar [bB 128 (aU ι i.1.2)]])
 μ _:=0
abbrev TP (R:κ) (T:ML) (ο π:Value) (fr kd q0 q1 q2:Int) (b:List Int) (ls:List (List Int)) (cc:List Int) (M:ML):LI where
 α:=Unit
 live:=[0,1,7]
 st _:=([aj 0 0,.int Z fr,.int Z q2],[cG R (θ R.lo) (.int Z q1) (.int Z q2) (bB 128 (aU ι cc)) (θ true) (ae M) (θ false) (γ ο) (γ π) (.aa none) (.sl 1 0 (nO R)) (.sl 3 0 (yD R).length),rO R,χ,ξ 70 7 (yD R)])
 μ _:=0
abbrev TN (R:κ) (T:ML) (ο π:Value) (fr kd q0 q1 q2:Int) (b:List Int) (ls:List (List Int)):LI where
 α:={p:Bool×Bool×List Int×List L3×ML // ¬ jM R q1 q2 ls/\zx b (ls.getD 0 []) p.1 p.2.1 p.2.2.1 p.2.2.2.1 p.2.2.2.2}
 live:=[0,1,6,7,8,9,10,11]
 dU:=[.oG 4 0 [Z] false true 2]
 st i:=([aj 0 0,.int Z fr,.int Z q1,.int Z q2,aj 3 0,θ i.1.1,aj 4 0,θ i.1.2.1],[cR R (ae T) (θ false) (γ ο) (γ π) (.aa none) (.sl 1 0 (nO R)) (.sl 2 0 (nD R)),rO R,rD R,ar [bB 128 (aU ι i.1.2.2.1)],ar [ae i.1.2.2.2.2]])
 μ _:=0
 sub i r:=match r with
  | 1009=>some (TP R T ο π fr kd q0 q1 q2 b ls i.1.2.2.1 i.1.2.2.2.2)
  |_=>none
def TR (R:κ) (T:ML) (ο π:Value) (fr kd q0 q1 q2:Int) (b:List Int) (ls:List (List Int)):Nat->Option LI
 | 1004=>some (TJ R T ο π fr kd q0 q1 q2 b ls)
 | 1005=>some (TL R T ο π fr kd q0 q1 q2 b ls)
 | 1006=>some (TN R T ο π fr kd q0 q1 q2 b ls)
 |_=>none
abbrev TI (R:κ) (T:ML) (I Q:ML) (u:Option (List D)) (fr kd q0 q1 q2:Int) (b:List Int) (ls:List (List Int)):LI where
 α:={_u:Unit // ¬ jM R q1 q2 ls}
 live:=[0,1,5,6,7]
 st _:=([aj 0 0,.int Z fr,aj 5 0,.int Z q1,.int Z q2],[cR R (ae T) (θ true) (.mp 1) (.mp 2) (.aa u) (.sl 3 0 (nO R)) (.sl 4 0 (nD R)),ai I,ai Q,rO R,rD R,ar [.int Z kd,aD (.sl 1 [[dn Z q0],[dn Z q1],[dn Z q2]]),aD (.sl 1 (ints ι b)),aD (.sl 1 (cf ls))]])
 μ _:=0
abbrev TK (R:κ) (T:ML) (I Q:ML) (u:Option (List D)) (fr kd q0 q1 q2:Int) (b:List Int) (ls:List (List Int)):LI where
 α:={p:Bool×List Int // ¬ jM R q1 q2 ls/\zy b p.1 p.2}
 live:=[0,1,5,6,7,8,9]
 st i:=([aj 0 0,.int Z fr,aj 5 0,.int Z q1,.int Z q2,aj 6 0,θ i.1.1],[cR R (ae T) (θ true) (.mp 1) (.mp 2) (.aa u) (.sl 3 0 (nO R)) (.sl 4 0 (nD R)),ai I,ai Q,rO R,rD R,ar [.int Z kd,aD (.sl 1 [[dn Z q0],[dn Z q1],[dn Z q2]]),aD (.sl 1 (ints ι b)),aD (.sl 1 (cf ls))],ar [bB 128 (aU ι i.1.2)]])
 μ _:=0
abbrev TO (R:κ) (T:ML) (I Q:ML) (u:Option (List D)) (fr kd q0 q1 q2:Int) (b:List Int) (ls:List (List Int)) (cc:List Int) (M:ML):LI where
 α:=Unit
 live:=[0,1,7]
 st _:=([aj 0 0,.int Z fr,.int Z q2],[cG R (θ R.lo) (.int Z q1) (.int Z q2) (bB 128 (aU ι cc)) (θ true) (ae M) (θ false) (.mp 1) (.mp 2) (.aa none) (.sl 3 0 (nO R)) (.sl 5 0 (yD R).length),ai I,ai Q,rO R,χ,ξ 70 7 (yD R)])
 μ _:=0
abbrev TM (R:κ) (T:ML) (I Q:ML) (u:Option (List D)) (fr kd q0 q1 q2:Int) (b:List Int) (ls:List (List Int)):LI where
 α:={p:Bool×Bool×List Int×List L3×ML // ¬ jM R q1 q2 ls/\zx b (ls.getD 0 []) p.1 p.2.1 p.2.2.1 p.2.2.2.1 p.2.2.2.2}
 live:=[0,1,6,7,8,9,10,11]
 dU:=[.oG 6 0 [Z] false true 2]
 st i:=([aj 0 0,.int Z fr,.int Z q1,.int Z q2,aj 5 0,θ i.1.1,aj 6 0,θ i.1.2.1],[cR R (ae T) (θ true) (.mp 1) (.mp 2) (.aa u) (.sl 3 0 (nO R)) (.sl 4 0 (nD R)),ai I,ai Q,rO R,rD R,ar [bB 128 (aU ι i.1.2.2.1)],ar [ae i.1.2.2.2.2]])
 μ _:=0
 sub i r:=match r with
  | 1009=>some (TO R T I Q u fr kd q0 q1 q2 b ls i.1.2.2.1 i.1.2.2.2.2)
  |_=>none
def TQ (R:κ) (T:ML) (I Q:ML) (u:Option (List D)) (fr kd q0 q1 q2:Int) (b:List Int) (ls:List (List Int)):Nat->Option LI
 | 1004=>some (TI R T I Q u fr kd q0 q1 q2 b ls)
 | 1005=>some (TK R T I Q u fr kd q0 q1 q2 b ls)
 | 1006=>some (TM R T I Q u fr kd q0 q1 q2 b ls)
 |_=>none
def Iq:FuncId->Option dA
 | 110=>some ⟨[],ee [true,false,true,true,false,false,false,true,true,true,true,true,true,true,true,true,true,true,true,true,false,true] Ef⟩
 | 33=>some ⟨[],wX⟩
 | 34=>some ⟨[],zJ⟩
 | 42=>some ⟨[],ee [true,true,true,true,true,true,false,true,true,true,true,true,true,false,true,true,false,true,true,true,true,false] Ai⟩
 | 52=>some ⟨[],zU⟩
 | 49=>some ⟨[],ee [true,true,true,true,true,true,false,true,true,true,true,true,true,true,true,true,true,true,true,true,true,true] wY⟩
 | 56=>some ⟨[],ee [true,true,true,true,true,false,false,false,true,true,true,true,true,true,true,true,true,true,false,true,true,true] zQ⟩
 | 58=>some ⟨[],ee [false,true,true,true,true,true,false,true,true,true,true,false,false,true,true,false,false,true,true,true,true,false] zR⟩
 | 45=>some ⟨[],ee [true,false,true,true,false,false,false,false,true,true,true,true,true,true,true,true,true,true,true,true,false,true] w7⟩
 | 75=>some ⟨[.mj,.mj,.mj,.fe 1,.fe 1,.fe 1],ee [true,false,true,true,false,true,false,true,true,true,true,true,true,true,true,true,true,true,true,true,false,true] Ab⟩
 |_=>none
noncomputable def jC:bJ:=dG Tryz.prog Iq aG 10
theorem ahv (R:κ) (T:ML) (ο π:Value) (fr kd q0 q1 q2:Int) (b:List Int) (ls:List (List Int)) (K:V->KB->Prop) (an:
 let bS:=((↑(cf ls).length:Int) != 1)=true;let b9:=((↑(cf ls).length:Int) != 1)=false;let bN:=(TN R T ο π fr kd q0 q1 q2 b ls);let bP:=(TL R T ο π fr kd q0 q1 q2 b ls);let aO:=[[dn Z q0],[dn Z q1],[dn Z q2]];let aC:=[0,2,3,7,8,9,10,11,12,13,14,15,16,17,18,19,21];let au:=ar [ε Z kd,aD (ψ 1 aO),aD (ψ 1 (ints ι b)),aD (ψ 1 (cf ls))];let ω:=ξ 107 5 (φ bV R.out++[[dn Z fr,ζ (ν Z 14),ψ 1 [[dn Z R.id],[dn Z R.ep],[dn Z R.nu]],ψ 1 [],ψ 1 []]]);aB 1/\
 ∃(y1:List D),aO[1]? =some y1/\
 ∃(y2:Int),y1[0]? =some (ζ (ν Z y2))/\
 aB 2/\
 ∃(y3:List D),aO[2]? =some y3/\
 ∃(y4:Int),let aH:=At (TJ R T ο π fr kd q0 q1 q2 b ls) ([aj 0 0,ε Z fr,aj 3 0,ε Z y2,ε Z y4],[cR R (ae T) (θ false) (γ ο) (γ π) (aP none) (δ 1 0 (nO R)) (δ 2 0 (nD R)),rO R,rD R,au]);y3[0]? =some (ζ (ν Z y4))/\
 ((decide (y2<R.ep)=true->
 ∀(y5:Nat->
 Value),nO R=(nO R)/\
 bR (nO R)/\
 bu y5 aC/\
 ∀(y6:Nat->
 Value),K (aw []) [cR R (ae T) (θ false) (γ (y6 14)) (γ (y6 15)) (aP none) (δ 1 0 (nO R+1)) (δ 2 0 (nD R)),ω,rD R])/\
 (decide (y2<R.ep)=false->
 ((y2 == R.ep)=true->
 (decide (y4<R.nu)=true->
 ∀(y7:Nat->
 Value),nO R=(nO R)/\
 bR (nO R)/\
 bu y7 aC/\
 ∀(y8:Nat->
 Value),K (aw []) [cR R (ae T) (θ false) (γ (y8 14)) (γ (y8 15)) (aP none) (δ 1 0 (nO R+1)) (δ 2 0 (nD R)),ω,rD R])/\
 (decide (y4<R.nu)=false->
 (false=true->
 ∀(y9:Nat->
 Value),nO R=(nO R)/\
 bR (nO R)/\
 bu y9 aC/\
 ∀(cO:Nat->
 Value),K (aw []) [cR R (ae T) (θ false) (γ (cO 14)) (γ (cO 15)) (aP none) (δ 1 0 (nO R+1)) (δ 2 0 (nD R)),ω,rD R])/\
 (false=false->
 (bS->
 ∀(cy:Nat->
 Value),nO R=(nO R)/\
 bR (nO R)/\
 bu cy aC/\
 ∀(cz:Nat->
 Value),K (aw []) [cR R (ae T) (θ false) (γ (cz 14)) (γ (cz 15)) (aP none) (δ 1 0 (nO R+1)) (δ 2 0 (nD R)),ω,rD R])/\
 (b9->
 aH))))/\
 ((y2 == R.ep)=false->
 (bS->
 ∀(cL:Nat->
 Value),nO R=(nO R)/\
 bR (nO R)/\
 bu cL aC/\
 ∀(dy:Nat->
 Value),K (aw []) [cR R (ae T) (θ false) (γ (dy 14)) (γ (dy 15)) (aP none) (δ 1 0 (nO R+1)) (δ 2 0 (nD R)),ω,rD R])/\
 (b9->
 aH))))/\
 ∀(fK:{cY:Unit // ¬jM R q1 q2 ls}),(∃(dh:List Int),ints ι b=ints ι dh/\
 (∀(e_:Int),dS e_ dh->
 0<=e_/\
 e_<256)/\
 dh.length<=900000/\
 (∀(ft:List Int),fq dh=some ft->
 ft.length=128->
 At bP ([aj 0 0,ε Z fr,aj 3 0,ε Z q1,ε Z q2,aj 4 0,θ true],[cR R (ae T) (θ false) (γ ο) (γ π) (aP none) (δ 1 0 (nO R)) (δ 2 0 (nD R)),rO R,rD R,au,ar [bB 128 (aU ι ft)]]))/\
 ((∀(fC:List Int),fq dh=some fC->
 fC.length=128->
 False)->
 At bP ([aj 0 0,ε Z fr,aj 3 0,ε Z q1,ε Z q2,aj 4 0,θ false],[cR R (ae T) (θ false) (γ ο) (γ π) (aP none) (δ 1 0 (nO R)) (δ 2 0 (nD R)),rO R,rD R,au,ar [bB 128 (dq 128 (ζ (ν ι 0)))]])))/\
 ∀(fu:{eT:Bool×List Int // ¬jM R q1 q2 ls/\
 zy b eT.fst eT.snd}),let bj:=ar [bB 128 (aU ι fu.val.snd)];(aB 0/\
 ∃(iI:List D),(cf ls)[0]? =some iI/\
 ∃(fX:List (List D)),iI[0]? =some (ψ 1 fX)/\
 ∃(eK:List Int),fX=ints ι eK/\
 (∀(eU:Int),dS eU eK->
 0<=eU/\
 eU<256)/\
 eK.length<=140737488355328/\
 (((∃(ef:List L3),eX ef/\
 eK=bh ef)->
 False)->
 At bN ([aj 0 0,ε Z fr,ε Z q1,ε Z q2,aj 3 0,θ fu.val.fst,aj 4 0,θ false],[cR R (ae T) (θ false) (γ ο) (γ π) (aP none) (δ 1 0 (nO R)) (δ 2 0 (nD R)),rO R,rD R,bj,ar [ae []]]))/\
 ∀(iJ:List L3) (jO:ML),bI jO iJ->
 eK=bh iJ->
 At bN ([aj 0 0,ε Z fr,ε Z q1,ε Z q2,aj 3 0,θ fu.val.fst,aj 4 0,θ true],[cR R (ae T) (θ false) (γ ο) (γ π) (aP none) (δ 1 0 (nO R)) (δ 2 0 (nD R)),rO R,rD R,bj,ar [ae jO]]))/\
 ∀(fh:{gZ:Bool×Bool×List Int×List L3×ML // ¬jM R q1 q2 ls/\
 zx b (ls.getD 0 []) gZ.fst gZ.snd.fst gZ.snd.snd.fst gZ.snd.snd.snd.fst gZ.snd.snd.snd.snd}),let bq:=(bB 128 (aU ι fh.val.snd.snd.fst));((!fh.val.fst)=true->
 ∀(jP:Nat->
 Value),K (aw []) [cR R (ae T) (θ false) (γ (jP 14)) (γ (jP 15)) (aP none) (δ 1 0 (nO R)) (δ 2 0 (nD R)),rO R,rD R])/\
 ((!fh.val.fst)=false->
 ((!fh.val.snd.fst)=true->
 ∀(ki:Nat->
 Value),K (aw []) [cR R (ae T) (θ false) (γ (ki 14)) (γ (ki 15)) (aP none) (δ 1 0 (nO R)) (δ 2 0 (nD R)),rO R,rD R])/\
 ((!fh.val.snd.fst)=false->
 ∀(jQ:Nat->
 Value),nD R=(nD R)/\
 bR (nD R)/\
 ∃(kF:Option Op),let η:=At (TP R T ο π fr kd q0 q1 q2 b ls fh.val.snd.snd.fst fh.val.snd.snd.snd.snd) ([aj 0 0,ε Z fr,ε Z q2],[cG R (θ R.lo) (ε Z q1) (ε Z q2) bq (θ true) (ae fh.val.snd.snd.snd.snd) (θ false) (γ ο) (γ π) (aP none) (δ 1 0 (nO R)) (δ 3 0 (φ du R.done++yl kF).length),rO R,χ,ξ 70 7 (φ du R.done++yl kF)]);none=mO bo kF/\
 bu jQ [0,1,2,3,4,5,7,8,9,10,11,12,14,15,17,18,19,20]/\
 ((η/\
 η/\
 η/\
 η)/\
 (η/\
 η/\
 η)/\
 (η/\
 η/\
 η)/\
 (η/\
 η)/\
 η/\
 η)/\
 ∀(n_:Unit),1<=1/\
 ∀(mK:Nat->
 Value),nO R=(nO R)/\
 bR (nO R)/\
 bR 1/\
 bu mK [0,2,3,5,7,8,9,10,11,12,13,14,15,16,17,18,19,21]/\
 ∀(kG:Nat->
 Value),K (aw []) [cG R (θ R.lo) (ε Z q1) (ε Z q2) bq (θ true) (ae fh.val.snd.snd.snd.snd) (θ false) (γ (kG 14)) (γ (kG 15)) (aP none) (δ 1 0 (nO R+1)) (δ 2 0 (yD R).length),ξ 107 5 (φ bV R.out++[[dn Z fr,ζ (ν Z 11),ψ 1 [[dn Z R.id],[dn Z q1],[ζ (ν Z q2)]],ψ 1 [],ψ 1 []]]),ξ 70 7 (yD R)]))
 ):aI Tryz.prog jC (TR R T ο π fr kd q0 q1 q2 b ls) 87 [aj 0 0,.int Z fr,.agg [.int Z kd,aD (.sl 1 [[dn Z q0],[dn Z q1],[dn Z q2]]),aD (.sl 1 (ints ι b)),aD (.sl 1 (cf ls))]] [cR R (ae T) (θ false) (γ ο) (γ π) (.aa none) (.sl 1 0 (nO R)) (.sl 2 0 (nD R)),rO R,rD R] (gj 13 eI K):=by apply Eq.mp (a:=an);kernel_rfl
theorem ahu (R:κ) (T:ML) (I Q:ML) (u:Option (List D)) (fr kd q0 q1 q2:Int) (b:List Int) (ls:List (List Int)) (K:V->KB->Prop) (an:
 let cC:=(TM R T I Q u fr kd q0 q1 q2 b ls);let bS:=(TK R T I Q u fr kd q0 q1 q2 b ls);let b9:=((↑(cf ls).length:Int) != 1)=true;let bN:=((↑(cf ls).length:Int) != 1)=false;let bj:=[[dn Z q0],[dn Z q1],[dn Z q2]];let aO:=K (aw []) [cR R (ae T) (θ true) (aX 1) (aX 2) (aP u) (δ 3 0 (nO R)) (δ 4 0 (nD R)),ai I,ai Q,rO R,rD R];let aC:=[0,2,3,7,8,9,10,11,12,13,14,15,16,17,18,19,21];let au:=ar [ε Z kd,aD (ψ 1 bj),aD (ψ 1 (ints ι b)),aD (ψ 1 (cf ls))];let ω:=K (aw []) [cR R (ae T) (θ true) (aX 1) (aX 2) (aP u) (δ 3 0 (nO R+1)) (δ 4 0 (nD R)),ai I,ai Q,ξ 107 5 (φ bV R.out++[[dn Z fr,ζ (ν Z 14),ψ 1 [[dn Z R.id],[dn Z R.ep],[dn Z R.nu]],ψ 1 [],ψ 1 []]]),rD R];aB 1/\
 ∃(y1:List D),bj[1]? =some y1/\
 ∃(y2:Int),y1[0]? =some (ζ (ν Z y2))/\
 aB 2/\
 ∃(y3:List D),bj[2]? =some y3/\
 ∃(y4:Int),let aH:=At (TI R T I Q u fr kd q0 q1 q2 b ls) ([aj 0 0,ε Z fr,aj 5 0,ε Z y2,ε Z y4],[cR R (ae T) (θ true) (aX 1) (aX 2) (aP u) (δ 3 0 (nO R)) (δ 4 0 (nD R)),ai I,ai Q,rO R,rD R,au]);y3[0]? =some (ζ (ν Z y4))/\
 ((decide (y2<R.ep)=true->
 ∀(y5:Nat->
 Value),nO R=(nO R)/\
 bR (nO R)/\
 bu y5 aC/\
 ω)/\
 (decide (y2<R.ep)=false->
 ((y2 == R.ep)=true->
 (decide (y4<R.nu)=true->
 ∀(y6:Nat->
 Value),nO R=(nO R)/\
 bR (nO R)/\
 bu y6 aC/\
 ω)/\
 (decide (y4<R.nu)=false->
 (true=true->
 ∀(y7:Nat->
 Value),nO R=(nO R)/\
 bR (nO R)/\
 bu y7 aC/\
 ω)/\
 (true=false->
 (b9->
 ∀(y8:Nat->
 Value),nO R=(nO R)/\
 bR (nO R)/\
 bu y8 aC/\
 ω)/\
 (bN->
 aH))))/\
 ((y2 == R.ep)=false->
 (b9->
 ∀(y9:Nat->
 Value),nO R=(nO R)/\
 bR (nO R)/\
 bu y9 aC/\
 ω)/\
 (bN->
 aH))))/\
 ∀(cy:{cO:Unit // ¬jM R q1 q2 ls}),(∃(cz:List Int),ints ι b=ints ι cz/\
 (∀(cL:Int),dS cL cz->
 0<=cL/\
 cL<256)/\
 cz.length<=900000/\
 (∀(dy:List Int),fq cz=some dy->
 dy.length=128->
 At bS ([aj 0 0,ε Z fr,aj 5 0,ε Z q1,ε Z q2,aj 6 0,θ true],[cR R (ae T) (θ true) (aX 1) (aX 2) (aP u) (δ 3 0 (nO R)) (δ 4 0 (nD R)),ai I,ai Q,rO R,rD R,au,ar [bB 128 (aU ι dy)]]))/\
 ((∀(cY:List Int),fq cz=some cY->
 cY.length=128->
 False)->
 At bS ([aj 0 0,ε Z fr,aj 5 0,ε Z q1,ε Z q2,aj 6 0,θ false],[cR R (ae T) (θ true) (aX 1) (aX 2) (aP u) (δ 3 0 (nO R)) (δ 4 0 (nD R)),ai I,ai Q,rO R,rD R,au,ar [bB 128 (dq 128 (ζ (ν ι 0)))]])))/\
 ∀(dh:{fK:Bool×List Int // ¬jM R q1 q2 ls/\
 zy b fK.fst fK.snd}),let bq:=ar [bB 128 (aU ι dh.val.snd)];(aB 0/\
 ∃(e_:List D),(cf ls)[0]? =some e_/\
 ∃(ft:List (List D)),e_[0]? =some (ψ 1 ft)/\
 ∃(fC:List Int),ft=ints ι fC/\
 (∀(eT:Int),dS eT fC->
 0<=eT/\
 eT<256)/\
 fC.length<=140737488355328/\
 (((∃(fu:List L3),eX fu/\
 fC=bh fu)->
 False)->
 At cC ([aj 0 0,ε Z fr,ε Z q1,ε Z q2,aj 5 0,θ dh.val.fst,aj 6 0,θ false],[cR R (ae T) (θ true) (aX 1) (aX 2) (aP u) (δ 3 0 (nO R)) (δ 4 0 (nD R)),ai I,ai Q,rO R,rD R,bq,ar [ae []]]))/\
 ∀(iI:List L3) (fX:ML),bI fX iI->
 fC=bh iI->
 At cC ([aj 0 0,ε Z fr,ε Z q1,ε Z q2,aj 5 0,θ dh.val.fst,aj 6 0,θ true],[cR R (ae T) (θ true) (aX 1) (aX 2) (aP u) (δ 3 0 (nO R)) (δ 4 0 (nD R)),ai I,ai Q,rO R,rD R,bq,ar [ae fX]]))/\
 ∀(eU:{eK:Bool×Bool×List Int×List L3×ML // ¬jM R q1 q2 ls/\
 zx b (ls.getD 0 []) eK.fst eK.snd.fst eK.snd.snd.fst eK.snd.snd.snd.fst eK.snd.snd.snd.snd}),let bP:=(bB 128 (aU ι eU.val.snd.snd.fst));((!eU.val.fst)=true->
 aO)/\
 ((!eU.val.fst)=false->
 ((!eU.val.snd.fst)=true->
 aO)/\
 ((!eU.val.snd.fst)=false->
 ∀(ef:Nat->
 Value),nD R=(nD R)/\
 bR (nD R)/\
 ∃(iJ:Option Op),let η:=At (TO R T I Q u fr kd q0 q1 q2 b ls eU.val.snd.snd.fst eU.val.snd.snd.snd.snd) ([aj 0 0,ε Z fr,ε Z q2],[cG R (θ R.lo) (ε Z q1) (ε Z q2) bP (θ true) (ae eU.val.snd.snd.snd.snd) (θ false) (aX 1) (aX 2) (aP none) (δ 3 0 (nO R)) (δ 5 0 (φ du R.done++yl iJ).length),ai I,ai Q,rO R,χ,ξ 70 7 (φ du R.done++yl iJ)]);u=mO bo iJ/\
 bu ef [0,1,2,3,4,5,7,8,9,10,11,12,14,15,17,18,19,20]/\
 ((η/\
 η/\
 η/\
 η)/\
 (η/\
 η/\
 η)/\
 (η/\
 η/\
 η)/\
 (η/\
 η)/\
 η/\
 η)/\
 ∀(jO:Unit),1<=1/\
 ∀(gZ:Nat->
 Value),nO R=(nO R)/\
 bR (nO R)/\
 bR 1/\
 bu gZ [0,2,3,5,7,8,9,10,11,12,13,14,15,16,17,18,19,21]/\
 ∀(fh:Nat->
 Value),K (aw []) [cG R (θ R.lo) (ε Z q1) (ε Z q2) bP (θ true) (ae eU.val.snd.snd.snd.snd) (θ false) (γ (fh 14)) (γ (fh 15)) (aP none) (δ 1 0 (nO R+1)) (δ 2 0 (yD R).length),ξ 107 5 (φ bV R.out++[[dn Z fr,ζ (ν Z 11),ψ 1 [[dn Z R.id],[dn Z q1],[ζ (ν Z q2)]],ψ 1 [],ψ 1 []]]),ξ 70 7 (yD R)]))
 ):aI Tryz.prog jC (TQ R T I Q u fr kd q0 q1 q2 b ls) 87 [aj 0 0,.int Z fr,.agg [.int Z kd,aD (.sl 1 [[dn Z q0],[dn Z q1],[dn Z q2]]),aD (.sl 1 (ints ι b)),aD (.sl 1 (cf ls))]] [cR R (ae T) (θ true) (.mp 1) (.mp 2) (.aa u) (.sl 3 0 (nO R)) (.sl 4 0 (nD R)),ai I,ai Q,rO R,rD R] (gj 13 eI K):=by apply Eq.mp (a:=an);kernel_rfl
theorem T1 {x y:List L3} (hx:eX x) (hy:eX y) (h:bh x=bh y):x=y:=by
 obtain⟨h1,h2⟩:=BI hx
 obtain⟨h3,h4⟩:=BI hy
 have hlen:x.length=y.length:=by rw[<- h1,h,h3]
 have e1:=h2 x.length (av _)
 have e2:=h4 y.length (av _)
 rw[cM]at e1 e2
 rw[h,hlen,e2]at e1
 exact(congrArg (·.2) e1).symm
theorem I6:eX []:=⟨List.Pairwise.nil,fun p hp=>(by cases hp),by simp⟩
theorem T4 {M:ML} {x:List L3} (h:bI M x):eX x:=⟨h.inc,h.rg,h.len⟩
theorem Qf {b:List Int} (h:¬ ∃ x,eX x/\b=bh x):loadT b=none:=by unfold loadT;rw[dif_neg h]
theorem H5 {b:List Int} {x:List L3} (hx:eX x) (h:b=bh x):loadT b=some x:=by
 have hex:∃ x,eX x/\b=bh x:=⟨x,hx,h⟩
 have hc:=hex.choose_spec
 have e:hex.choose=x:=T1 hc.1 hx (hc.2.symm.trans h)
 unfold loadT
 rw[dif_pos hex,e]
theorem TV {R:κ} {fr kd q0 q1 q2:Int} {b:List Int} {ls:List (List Int)} (h:jM R q1 q2 ls):jh R fr ⟨kd,[q0,q1,q2],b,ls⟩=pC R fr:=by
 unfold jh;exact if_pos h
theorem TU {R:κ} {fr kd q0 q1 q2:Int} {b:List Int} {ls:List (List Int)} (h:¬ jM R q1 q2 ls) (h2:j9 b=none∨loadT (ls.getD 0 [])=none):jh R fr ⟨kd,[q0,q1,q2],b,ls⟩=R:=by
 unfold jh
 refine(if_neg h).trans ?_
 rcases h2 with h2 | h2
 ·simp only[h2]
 ·simp only[h2]
  cases j9 b<;>rfl
theorem TW {R:κ} {fr kd q0 q1 q2:Int} {b c:List Int} {t:List L3} {ls:List (List Int)} (h:¬ jM R q1 q2 ls) (hc:j9 b=some c) (ht:loadT (ls.getD 0 [])=some t):
  jh R fr ⟨kd,[q0,q1,q2],b,ls⟩={R with ld:=none,done:=(gn R).done,ep:=q1,nu:=q2,c:=c,t:=t,ch:=true,out:=R.out++[⟨fr,⟨11,[R.id,q1,q2],[],[]⟩⟩] }:=by
 unfold jh
 refine(if_neg h).trans ?_
 simp only[hc,ht]
 rfl
theorem aaV:dF Tryz.prog Iq:=fun f k h=>by
 unfold Iq at h
 split at h
 ·cases h;exact fm abV _
 ·cases h;exact I0
 ·cases h;exact Rj
 ·cases h;exact fm Ry _
 ·cases h;exact Ri
 ·cases h;exact fm I1 _
 ·cases h;exact fm Rb _
 ·cases h;exact fm Rf _
 ·cases h;exact fm I4 _
 ·cases h;exact fm Rr _
 ·cases h
theorem pR:bZ Tryz.prog jC:=dI mixed aaV aG 10
theorem Qc {b:List Int} (h:∀ m,fq b=some m->m.length=128->False):j9 b=none:=by
 unfold j9
 cases ho:fq b with
 |none=>rfl
 |some m=>simp only;rw[if_neg (h m ho)]
theorem afm (R:κ) (T:ML) (ο π:Value) (fr kd q0 q1 q2:Int) (b:List Int) (ls:List (List Int)) (hT:bI T R.t) (hl:R.ld=none) (hR:dw R) (hb:bm b) (cd:b.length<=900000) (hls:∀ y∈ls,bm y/\y.length<=140737488355328) (eB:∀ ο π,aF R [cR R (ae T) (θ false) (γ ο) (γ π) (.aa none) (.sl 1 0 (nO R)) (.sl 2 0 (nD R)),rO R,rD R]) (K:V->KB->Prop) (hK:∀ kb',aF (jh R fr ⟨kd,[q0,q1,q2],b,ls⟩) kb'->K (.υ []) kb'):aI Tryz.prog jC (TR R T ο π fr kd q0 q1 q2 b ls) 87 [aj 0 0,.int Z fr,.agg [.int Z kd,aD (.sl 1 [[dn Z q0],[dn Z q1],[dn Z q2]]),aD (.sl 1 (ints ι b)),aD (.sl 1 (cf ls))]] [cR R (ae T) (θ false) (γ ο) (γ π) (.aa none) (.sl 1 0 (nO R)) (.sl 2 0 (nD R)),rO R,rD R] (gj 13 eI K):=by
 have fin:∀{R':κ} {kb':KB},jh R fr ⟨kd,[q0,q1,q2],b,ls⟩=R'->aF R' kb'->K (.υ []) kb':=fun{R' kb'} h1 h2=>by
  have:=hK kb'
  rw[h1]at this
  exact this h2
 have fy:nO R<=1000000:=by show(φ bV R.out).length<=_;rw[bX];have:=hR.ol;omega
 have hdl:nD R<=1000000:=by show(φ du R.done).length<=_;rw[bX];have:=hR.dl;omega
 have mY:fp R=false:=by simp [fp,hl]
 have oD:none=(cw R).map bo:=by simp [cw,hl]
 have nk:jM R q1 q2 ls->∀ f:Nat->Value,K (.υ []) [cR R (ae T) (θ false) (γ (f 14)) (γ (f 15)) (.aa none) (.sl 1 0 (nO R+1)) (.sl 2 0 (nD R)),ξ 107 5 (φ bV R.out++[fP fr 14 R.id R.ep [[dn Z R.nu]] [] []]),rD R]:=fun h f=>fin (TV h) (by
  unfold aF pC ib
  simp only[hl]
  refine⟨f 14,f 15,T,hT,?_⟩
  simp [cR,bV,je,fP,dn,ints,oH])
 have sm:¬ jM R q1 q2 ls->(j9 b=none∨loadT (ls.getD 0 [])=none)->∀ f:Nat->Value,K (.υ []) [cR R (ae T) (θ false) (γ (f 14)) (γ (f 15)) (.aa none) (.sl 1 0 (nO R)) (.sl 2 0 (nD R)),rO R,rD R]:=fun h h2 f=>fin (TU h h2) (eB _ _)
 have I7:∀ cc y M,bI M y->¬ jM R q1 q2 ls->j9 b=some cc->loadT (ls.getD 0 [])=some y->∀ f:Nat->Value,K (.υ []) [cG R (θ R.lo) (.int Z q1) (.int Z q2) (bB 128 (aU ι cc)) (θ true) (ae M) (θ false) (γ (f 14)) (γ (f 15)) (.aa none) (.sl 1 0 (nO R+1)) (.sl 2 0 (yD R).length),ξ 107 5 (φ bV R.out++[fP fr 11 R.id q1 [[dn Z q2]] [] []]),ξ 70 7 (yD R)]:=fun cc y M hM h hc ht2 f=>fin (TW h hc ht2) (by
  unfold aF
  refine⟨f 14,f 15,M,hM,?_⟩
  simp only[nD,rD,te]
  simp [cR,cG,bV,je,fP,dn,ints,oH])
 refine ahv R T ο π fr kd q0 q1 q2 b ls K ⟨(by decide:(0:Int)<=1),_,rfl,q1,rfl,(by decide:(0:Int)<=2),_,rfl,q2,rfl,⟨fun e1=>fun f=>⟨rfl,⟨fy⟩,⟨by simp [bT]⟩,fun f=>nk (.inl (show q1<R.ep by simpa using e1)) f⟩,fun e1=>⟨fun e2=>⟨fun e3=>fun f=>⟨rfl,⟨fy⟩,⟨by simp [bT]⟩,fun f=>nk (.inr (.inl ⟨show q1=R.ep by simpa using e2,.inl (show q2<R.nu by simpa using e3)⟩)) f⟩,fun e3=>⟨fun f=>(by cases f),fun _=>⟨fun e4=>fun f=>⟨rfl,⟨fy⟩,⟨by simp [bT]⟩,fun f=>nk (.inr (.inr (by have:=e4;simp [cf]at this;omega))) f⟩,fun e4=>At.mk' ⟨(),fun h=>h.elim (fun h=>absurd h (show ¬ q1<R.ep by simpa using e1)) (fun h=>h.elim (fun h=>h.2.elim (fun h=>absurd h (show ¬ q2<R.nu by simpa using e3)) (fun h=>absurd h (by rw[mY];decide))) (fun h=>h (show ls.length=1 by have:=e4;simp [cf]at this;omega)))⟩ rfl⟩⟩⟩,fun e2=>⟨fun e4=>fun f=>⟨rfl,⟨fy⟩,⟨by simp [bT]⟩,fun f=>nk (.inr (.inr (by have:=e4;simp [cf]at this;omega))) f⟩,fun e4=>At.mk' ⟨(),fun h=>h.elim (fun h=>absurd h (show ¬ q1<R.ep by simpa using e1)) (fun h=>h.elim (fun h=>absurd h.1 (show ¬ q1=R.ep by simpa using e2)) (fun h=>h (show ls.length=1 by have:=e4;simp [cf]at this;omega)))⟩ rfl⟩⟩⟩,fun i4=>⟨⟨b,rfl,hb,cd,fun m h1 h2=>At.mk' ⟨(true,m),i4.2,fun _=>by simp [j9,h1,h2],fun f=>(by cases f)⟩ rfl,fun h=>At.mk' ⟨(false,jR),i4.2,fun f=>(by cases f),fun _=>Qc h⟩ rfl⟩,fun i5=>⟨?_,fun a=>⟨fun e=>fun f=>sm a.2.1 (.inl (a.2.2.c0 (by simpa using e))) f,fun e=>⟨fun e2=>fun f=>sm a.2.1 (.inr (a.2.2.t0 (by simpa using e2))) f,fun e2 f=>⟨rfl,⟨hdl⟩,cw R,oD,⟨by simp [bT]⟩,?_,fun _=>⟨av _,fun f=>⟨rfl,⟨fy⟩,⟨by decide⟩,⟨by simp [bT]⟩,fun f=>I7 _ _ _ (a.2.2.t1 (by simpa using e2)).2 a.2.1 (a.2.2.c1 (by simpa using e)) (a.2.2.t1 (by simpa using e2)).1 f⟩⟩⟩⟩⟩⟩⟩⟩
 ·obtain⟨y,rfl⟩:∃ y,ls=[y]:=by
   have:ls.length=1:=Decidable.byContradiction fun h=>i5.2.1 (.inr (.inr h))
   match ls,this with
   | [y],_=>exact⟨y,rfl⟩
  obtain⟨hy,jo⟩:=hls y (by simp)
  exact⟨fa _,_,rfl,_,rfl,y,rfl,hy,by omega,fun h=>At.mk' ⟨(i5.1.1,false,i5.1.2,[],[]),i5.2.1,i5.2.2.c1,i5.2.2.c0,fun f=>(by cases f),fun _=>Qf h⟩ rfl,fun x M hM h=>At.mk' ⟨(i5.1.1,true,i5.1.2,x,M),i5.2.1,i5.2.2.c1,i5.2.2.c0,fun _=>⟨H5 (T4 hM) h,hM⟩,fun f=>(by cases f)⟩ rfl⟩
 ·repeat' first
   |exact At.mk' () rfl
   |rfl
   |refine And.intro ?_ ?_
theorem afl (R:κ) (T:ML) (I Q:ML) (L:de) (fr kd q0 q1 q2:Int) (b:List Int) (ls:List (List Int)) (hT:bI T R.t) (hl:R.ld=some L) (hI:MB I L.ins) (hQ:MB Q L.cN) (hR:dw R) (hb:bm b) (cd:b.length<=900000) (hls:∀ y∈ls,bm y/\y.length<=140737488355328) (hkb:aF R [cR R (ae T) (θ true) (.mp 1) (.mp 2) (.aa (L.cur.map bo)) (.sl 3 0 (nO R)) (.sl 4 0 (nD R)),ai I,ai Q,rO R,rD R]) (K:V->KB->Prop) (hK:∀ kb',aF (jh R fr ⟨kd,[q0,q1,q2],b,ls⟩) kb'->K (.υ []) kb'):aI Tryz.prog jC (TQ R T I Q (L.cur.map bo) fr kd q0 q1 q2 b ls) 87 [aj 0 0,.int Z fr,.agg [.int Z kd,aD (.sl 1 [[dn Z q0],[dn Z q1],[dn Z q2]]),aD (.sl 1 (ints ι b)),aD (.sl 1 (cf ls))]] [cR R (ae T) (θ true) (.mp 1) (.mp 2) (.aa (L.cur.map bo)) (.sl 3 0 (nO R)) (.sl 4 0 (nD R)),ai I,ai Q,rO R,rD R] (gj 13 eI K):=by
 have fin:∀{R':κ} {kb':KB},jh R fr ⟨kd,[q0,q1,q2],b,ls⟩=R'->aF R' kb'->K (.υ []) kb':=fun{R' kb'} h1 h2=>by
  have:=hK kb'
  rw[h1]at this
  exact this h2
 have fy:nO R<=1000000:=by show(φ bV R.out).length<=_;rw[bX];have:=hR.ol;omega
 have hdl:nD R<=1000000:=by show(φ du R.done).length<=_;rw[bX];have:=hR.dl;omega
 have mY:fp R=true:=by simp [fp,hl]
 have oD:L.cur.map bo=(cw R).map bo:=by simp [cw,hl]
 have nk:jM R q1 q2 ls->K (.υ []) [cR R (ae T) (θ true) (.mp 1) (.mp 2) (.aa (L.cur.map bo)) (.sl 3 0 (nO R+1)) (.sl 4 0 (nD R)),ai I,ai Q,ξ 107 5 (φ bV R.out++[fP fr 14 R.id R.ep [[dn Z R.nu]] [] []]),rD R]:=fun h=>fin (TV h) (by
  unfold aF pC ib
  simp only[hl]
  refine⟨I,Q,T,hI,hQ,hT,?_⟩
  simp [cR,bV,je,fP,dn,ints,oH])
 have sm:¬ jM R q1 q2 ls->(j9 b=none∨loadT (ls.getD 0 [])=none)->K (.υ []) [cR R (ae T) (θ true) (.mp 1) (.mp 2) (.aa (L.cur.map bo)) (.sl 3 0 (nO R)) (.sl 4 0 (nD R)),ai I,ai Q,rO R,rD R]:=fun h h2=>fin (TU h h2) hkb
 have I7:∀ cc y M,bI M y->¬ jM R q1 q2 ls->j9 b=some cc->loadT (ls.getD 0 [])=some y->∀ f:Nat->Value,K (.υ []) [cG R (θ R.lo) (.int Z q1) (.int Z q2) (bB 128 (aU ι cc)) (θ true) (ae M) (θ false) (γ (f 14)) (γ (f 15)) (.aa none) (.sl 1 0 (nO R+1)) (.sl 2 0 (yD R).length),ξ 107 5 (φ bV R.out++[fP fr 11 R.id q1 [[dn Z q2]] [] []]),ξ 70 7 (yD R)]:=fun cc y M hM h hc ht2 f=>fin (TW h hc ht2) (by
  unfold aF
  refine⟨f 14,f 15,M,hM,?_⟩
  simp only[nD,rD,te]
  simp [cR,cG,bV,je,fP,dn,ints,oH])
 refine ahu R T I Q (L.cur.map bo) fr kd q0 q1 q2 b ls K ⟨(by decide:(0:Int)<=1),_,rfl,q1,rfl,(by decide:(0:Int)<=2),_,rfl,q2,rfl,⟨fun e1=>fun f=>⟨rfl,⟨fy⟩,⟨by simp [bT]⟩,nk (.inl (show q1<R.ep by simpa using e1))⟩,fun e1=>⟨fun e2=>⟨fun e3=>fun f=>⟨rfl,⟨fy⟩,⟨by simp [bT]⟩,nk (.inr (.inl ⟨show q1=R.ep by simpa using e2,.inl (show q2<R.nu by simpa using e3)⟩))⟩,fun e3=>⟨fun _=>fun f=>⟨rfl,⟨fy⟩,⟨by simp [bT]⟩,nk (.inr (.inl ⟨show q1=R.ep by simpa using e2,.inr mY⟩))⟩,fun f=>(by cases f)⟩⟩,fun e2=>⟨fun e4=>fun f=>⟨rfl,⟨fy⟩,⟨by simp [bT]⟩,nk (.inr (.inr (by have:=e4;simp [cf]at this;omega)))⟩,fun e4=>At.mk' ⟨(),fun h=>h.elim (fun h=>absurd h (show ¬ q1<R.ep by simpa using e1)) (fun h=>h.elim (fun h=>absurd h.1 (show ¬ q1=R.ep by simpa using e2)) (fun h=>h (show ls.length=1 by have:=e4;simp [cf]at this;omega)))⟩ rfl⟩⟩⟩,fun i4=>⟨⟨b,rfl,hb,cd,fun m h1 h2=>At.mk' ⟨(true,m),i4.2,fun _=>by simp [j9,h1,h2],fun f=>(by cases f)⟩ rfl,fun h=>At.mk' ⟨(false,jR),i4.2,fun f=>(by cases f),fun _=>Qc h⟩ rfl⟩,fun i5=>⟨?_,fun a=>⟨fun e=>sm a.2.1 (.inl (a.2.2.c0 (by simpa using e))),fun e=>⟨fun e2=>sm a.2.1 (.inr (a.2.2.t0 (by simpa using e2))),fun e2 f=>⟨rfl,⟨hdl⟩,cw R,oD,⟨by simp [bT]⟩,?_,fun _=>⟨av _,fun f=>⟨rfl,⟨fy⟩,⟨by decide⟩,⟨by simp [bT]⟩,fun f=>I7 _ _ _ (a.2.2.t1 (by simpa using e2)).2 a.2.1 (a.2.2.c1 (by simpa using e)) (a.2.2.t1 (by simpa using e2)).1 f⟩⟩⟩⟩⟩⟩⟩⟩
 ·obtain⟨y,rfl⟩:∃ y,ls=[y]:=by
   have:ls.length=1:=Decidable.byContradiction fun h=>i5.2.1 (.inr (.inr h))
   match ls,this with
   | [y],_=>exact⟨y,rfl⟩
  obtain⟨hy,jo⟩:=hls y (by simp)
  exact⟨fa _,_,rfl,_,rfl,y,rfl,hy,by omega,fun h=>At.mk' ⟨(i5.1.1,false,i5.1.2,[],[]),i5.2.1,i5.2.2.c1,i5.2.2.c0,fun f=>(by cases f),fun _=>Qf h⟩ rfl,fun x M hM h=>At.mk' ⟨(i5.1.1,true,i5.1.2,x,M),i5.2.1,i5.2.2.c1,i5.2.2.c0,fun _=>⟨H5 (T4 hM) h,hM⟩,fun f=>(by cases f)⟩ rfl⟩
 ·repeat' first
   |exact At.mk' () rfl
   |rfl
   |refine And.intro ?_ ?_
def Vv:aE:=fun args kb K=>∃ R fr kd q0 q1 q2 b ls,args=[aj 0 0,.int Z fr,.agg [.int Z kd,aD (.sl 1 [[dn Z q0],[dn Z q1],[dn Z q2]]),aD (.sl 1 (ints ι b)),aD (.sl 1 (cf ls))]]/\aF R kb/\dw R/\bm b/\b.length<=900000/\(∀ y∈ls,bm y/\y.length<=140737488355328)/\∀ kb',aF (jh R fr ⟨kd,[q0,q1,q2],b,ls⟩) kb'->K (.υ []) kb'
theorem acC:fZ Tryz.prog 87 Vv:=uh mixed 13 eI (fun args kb K h=>by
 obtain⟨R,fr,kd,q0,q1,q2,b,ls,rfl,hkb,hR,hb,cd,hls,hK⟩:=h
 have iP:=hkb
 unfold aF at hkb
 split at hkb
 ·rename_i hl
  obtain⟨ο,π,T,hT,rfl⟩:=hkb
  exact⟨_,_,pR,afm R T ο π fr kd q0 q1 q2 b ls hT hl hR hb cd hls (fun a b=>by unfold aF;simp only[hl];exact⟨a,b,T,hT,rfl⟩) K hK⟩
 ·rename_i L hl
  obtain⟨I,Q,T,hI,hQ,hT,rfl⟩:=hkb
  exact⟨_,_,pR,afl R T I Q L fr kd q0 q1 q2 b ls hT hl hI hQ hR hb cd hls iP K hK⟩)
theorem aht (R:κ) (T:ML) (ο π:Value) (fr kd q0 q1 q2:Int) (b:List Int) (ls:List (List Int)) (K:V->KB->Prop) (an:
 let η:=[[dn Z q0],[dn Z q1],[dn Z q2]];(true=true->
 ∀(y1:Nat->
 Value),K (aw []) [cR R (ae T) (θ false) (γ (y1 14)) (γ (y1 15)) (aP none) (δ 1 0 (nO R)) (δ 2 0 (nD R)),rO R,rD R])/\
 (true=false->
 aB 1/\
 ∃(y2:List D),η[1]? =some y2/\
 ∃(y3:Int),y2[0]? =some (ζ (ν Z y3))/\
 ((y3 != R.ep)=true->
 ∀(y4:Nat->
 Value),K (aw []) [cR R (ae T) (θ false) (γ (y4 14)) (γ (y4 15)) (aP none) (δ 1 0 (nO R)) (δ 2 0 (nD R)),rO R,rD R])/\
 ((y3 != R.ep)=false->
 aB 2/\
 ∃(y5:List D),η[2]? =some y5/\
 ∃(y6:Int),y5[0]? =some (ζ (ν Z y6))/\
 ((y6 != R.nu)=true->
 ∀(y7:Nat->
 Value),K (aw []) [cR R (ae T) (θ false) (γ (y7 14)) (γ (y7 15)) (aP none) (δ 1 0 (nO R)) (δ 2 0 (nD R)),rO R,rD R])/\
 ((y6 != R.nu)=false->
 False)))
 ):aI Tryz.prog jC (fun _=>none) 88 [aj 0 0,.int Z fr,.agg [.int Z kd,aD (.sl 1 [[dn Z q0],[dn Z q1],[dn Z q2]]),aD (.sl 1 (ints ι b)),aD (.sl 1 (cf ls))]] [cR R (ae T) (θ false) (γ ο) (γ π) (.aa none) (.sl 1 0 (nO R)) (.sl 2 0 (nD R)),rO R,rD R] (gj 13 eI K):=by apply Eq.mp (a:=an);kernel_rfl
theorem ahs (R:κ) (T:ML) (I Q:ML) (u:Option (List D)) (fr kd q0 q1 q2:Int) (b:List Int) (ls:List (List Int)) (K:V->KB->Prop) (an:
 let aH:=[1,2,3,4,5,7,8,9,10,13,14,17,18,19,20];let au:=[[dn Z q0],[dn Z q1],[dn Z q2]];let ω:=[ζ (nE true)];let η:=K (aw []) [cR R (ae T) (θ true) (aX 1) (aX 2) (aP u) (δ 3 0 (nO R)) (δ 4 0 (nD R)),ai I,ai Q,rO R,rD R];(false=true->
 η)/\
 (false=false->
 aB 1/\
 ∃(y1:List D),au[1]? =some y1/\
 ∃(y2:Int),y1[0]? =some (ζ (ν Z y2))/\
 ((y2 != R.ep)=true->
 η)/\
 ((y2 != R.ep)=false->
 aB 2/\
 ∃(y3:List D),au[2]? =some y3/\
 ∃(y4:Int),y3[0]? =some (ζ (ν Z y4))/\
 ((y4 != R.nu)=true->
 η)/\
 ((y4 != R.nu)=false->
 ((!u.isNone)=true->
 ∀(y5:Nat->
 Value),nD R=(nD R)/\
 bR (nD R)/\
 ∃(y6:List Int),∃(y7:List Int),∃(y8:List Int),∃(y9:Op),iq (aU ι R.c) y8/\
 ints Z R.v.mem=ints Z y6/\
 ints Z R.v.aM=ints Z y7/\
 dE (y6.length+y7.length)/\
 lp (bF Q [fr] ω)/\
 u=some (bo y9)/\
 lH y9.bk/\
 (allI R.me y6 y7 (bF Q [fr] ω)=false->
 bu y5 aH/\
 K (aw []) [cR R (ae T) (θ true) (aX 1) (aX 2) (aP u) (δ 3 0 (nO R)) (δ 4 0 (nD R)),ai (bF I [fr] ω),ai (bF Q [fr] ω),rO R,rD R])/\
 (allI R.me y6 y7 (bF Q [fr] ω)=true->
 bu y5 aH/\
 K (aw []) [cS R (ε Z R.nu) (bB 128 (aU ι y8)) (θ R.ch) (ae T) (θ true) (aX 1) (aX 2) (aP none) (δ 3 0 (nO R)) (δ 4 0 (nD R+1)),ai (bF I [fr] ω),ai (bF Q [fr] ω),rO R,ξ 70 7 (φ du R.done++[(bo y9++[ζ (ν Z 0),ψ 1 (p9 y8 y9.kd y9.bk)])])]))/\
 ((!u.isNone)=false->
 K (aw []) [cR R (ae T) (θ true) (aX 1) (aX 2) (aP u) (δ 3 0 (nO R)) (δ 4 0 (nD R)),ai (bF I [fr] ω),ai Q,rO R,rD R]))))
 ):aI Tryz.prog jC (fun _=>none) 88 [aj 0 0,.int Z fr,.agg [.int Z kd,aD (.sl 1 [[dn Z q0],[dn Z q1],[dn Z q2]]),aD (.sl 1 (ints ι b)),aD (.sl 1 (cf ls))]] [cR R (ae T) (θ true) (.mp 1) (.mp 2) (.aa u) (.sl 3 0 (nO R)) (.sl 4 0 (nD R)),ai I,ai Q,rO R,rD R] (gj 13 eI K):=by apply Eq.mp (a:=an);kernel_rfl
theorem ag0 (R:κ) (T:ML) (ο π:Value) (fr kd q0 q1 q2:Int) (b:List Int) (ls:List (List Int)) (K:V->KB->Prop) (an:
 let η:=[[dn Z q0],[dn Z q1],[dn Z q2]];(false=true->
 aB 1/\
 ∃(y1:List D),η[1]? =some y1/\
 ∃(y2:Int),y1[0]? =some (ζ (ν Z y2))/\
 ((y2 == R.ep)=true->
 aB 2/\
 ∃(y3:List D),η[2]? =some y3/\
 ∃(y4:Int),y3[0]? =some (ζ (ν Z y4))/\
 ((y4 == R.nu)=true->
 (false=true->
 False)/\
 (false=false->
 ∀(y5:Nat->
 Value),K (aw []) [cR R (ae T) (θ false) (γ (y5 14)) (γ (y5 15)) (aP none) (δ 1 0 (nO R)) (δ 2 0 (nD R)),rO R,rD R]))/\
 ((y4 == R.nu)=false->
 ∀(y6:Nat->
 Value),K (aw []) [cR R (ae T) (θ false) (γ (y6 14)) (γ (y6 15)) (aP none) (δ 1 0 (nO R)) (δ 2 0 (nD R)),rO R,rD R]))/\
 ((y2 == R.ep)=false->
 ∀(y7:Nat->
 Value),K (aw []) [cR R (ae T) (θ false) (γ (y7 14)) (γ (y7 15)) (aP none) (δ 1 0 (nO R)) (δ 2 0 (nD R)),rO R,rD R]))/\
 (false=false->
 ∀(y8:Nat->
 Value),K (aw []) [cR R (ae T) (θ false) (γ (y8 14)) (γ (y8 15)) (aP none) (δ 1 0 (nO R)) (δ 2 0 (nD R)),rO R,rD R])
 ):aI Tryz.prog jC (fun _=>none) 90 [aj 0 0,.int Z fr,.agg [.int Z kd,aD (.sl 1 [[dn Z q0],[dn Z q1],[dn Z q2]]),aD (.sl 1 (ints ι b)),aD (.sl 1 (cf ls))]] [cR R (ae T) (θ false) (γ ο) (γ π) (.aa none) (.sl 1 0 (nO R)) (.sl 2 0 (nD R)),rO R,rD R] (gj 13 eI K):=by apply Eq.mp (a:=an);kernel_rfl
theorem agZ (R:κ) (T:ML) (I Q:ML) (u:Option (List D)) (fr kd q0 q1 q2:Int) (b:List Int) (ls:List (List Int)) (K:V->KB->Prop) (an:
 let aH:=[1,2,3,4,5,7,8,9,10,13,14,17,18,19,20];let au:=[[dn Z q0],[dn Z q1],[dn Z q2]];let ω:=(bF Q [fr] [ζ (nE true)]);let η:=K (aw []) [cR R (ae T) (θ true) (aX 1) (aX 2) (aP u) (δ 3 0 (nO R)) (δ 4 0 (nD R)),ai I,ai Q,rO R,rD R];(true=true->
 aB 1/\
 ∃(y1:List D),au[1]? =some y1/\
 ∃(y2:Int),y1[0]? =some (ζ (ν Z y2))/\
 ((y2 == R.ep)=true->
 aB 2/\
 ∃(y3:List D),au[2]? =some y3/\
 ∃(y4:Int),y3[0]? =some (ζ (ν Z y4))/\
 ((y4 == R.nu)=true->
 ((!u.isNone)=true->
 ∀(y5:Nat->
 Value),nD R=(nD R)/\
 bR (nD R)/\
 ∃(y6:List Int),∃(y7:List Int),∃(y8:List Int),∃(y9:Op),iq (aU ι R.c) y8/\
 ints Z R.v.mem=ints Z y6/\
 ints Z R.v.aM=ints Z y7/\
 dE (y6.length+y7.length)/\
 lp ω/\
 u=some (bo y9)/\
 lH y9.bk/\
 (allI R.me y6 y7 ω=false->
 bu y5 aH/\
 K (aw []) [cR R (ae T) (θ true) (aX 1) (aX 2) (aP u) (δ 3 0 (nO R)) (δ 4 0 (nD R)),ai I,ai ω,rO R,rD R])/\
 (allI R.me y6 y7 ω=true->
 bu y5 aH/\
 K (aw []) [cS R (ε Z R.nu) (bB 128 (aU ι y8)) (θ R.ch) (ae T) (θ true) (aX 1) (aX 2) (aP none) (δ 3 0 (nO R)) (δ 4 0 (nD R+1)),ai I,ai ω,rO R,ξ 70 7 (φ du R.done++[(bo y9++[ζ (ν Z 0),ψ 1 (p9 y8 y9.kd y9.bk)])])]))/\
 ((!u.isNone)=false->
 η))/\
 ((y4 == R.nu)=false->
 η))/\
 ((y2 == R.ep)=false->
 η))/\
 (true=false->
 η)
 ):aI Tryz.prog jC (fun _=>none) 90 [aj 0 0,.int Z fr,.agg [.int Z kd,aD (.sl 1 [[dn Z q0],[dn Z q1],[dn Z q2]]),aD (.sl 1 (ints ι b)),aD (.sl 1 (cf ls))]] [cR R (ae T) (θ true) (.mp 1) (.mp 2) (.aa u) (.sl 3 0 (nO R)) (.sl 4 0 (nD R)),ai I,ai Q,rO R,rD R] (gj 13 eI K):=by apply Eq.mp (a:=an);kernel_rfl
theorem ahd (R:κ) (T:ML) (ο π:Value) (fr kd q0 q1 q2:Int) (b:List Int) (ls:List (List Int)) (K:V->KB->Prop) (an:
 let ω:=[0,1,2,3,4,5,7,8,9,10,11,12,14,15,17,18,19,20];let η:=[[dn Z q0],[dn Z q1],[dn Z q2]];(true=true->
 ∀(y1:Nat->
 Value),K (aw []) [cR R (ae T) (θ false) (γ (y1 14)) (γ (y1 15)) (aP none) (δ 1 0 (nO R)) (δ 2 0 (nD R)),rO R,rD R])/\
 (true=false->
 aB 1/\
 ∃(y2:List D),η[1]? =some y2/\
 ∃(y3:Int),y2[0]? =some (ζ (ν Z y3))/\
 (decide (y3 > R.ep)=true->
 ∀(y4:Nat->
 Value),nD R=(nD R)/\
 bR (nD R)/\
 ∃(y5:Option Op),none=mO bo y5/\
 bu y4 ω/\
 ∀(y6:Nat->
 Value),K (aw []) [cR R (ae T) (θ false) (γ (y6 14)) (γ (y6 15)) (aP none) (δ 1 0 (nO R)) (δ 2 0 (φ du R.done++yl y5).length),rO R,ξ 70 7 (φ du R.done++yl y5)])/\
 (decide (y3 > R.ep)=false->
 aB 1/\
 ∃(y7:List D),η[1]? =some y7/\
 ∃(y8:Int),y7[0]? =some (ζ (ν Z y8))/\
 ((y8 == R.ep)=true->
 aB 2/\
 ∃(y9:List D),η[2]? =some y9/\
 ∃(cO:Int),y9[0]? =some (ζ (ν Z cO))/\
 (decide (cO > R.nu)=true->
 ∀(cy:Nat->
 Value),nD R=(nD R)/\
 bR (nD R)/\
 ∃(cz:Option Op),none=mO bo cz/\
 bu cy ω/\
 ∀(cL:Nat->
 Value),K (aw []) [cG R (θ true) (ε Z R.ep) (ε Z R.nu) (bB 128 (aU ι R.c)) (θ R.ch) (ae T) (θ false) (γ (cL 14)) (γ (cL 15)) (aP none) (δ 1 0 (nO R)) (δ 2 0 (φ du R.done++yl cz).length),rO R,ξ 70 7 (φ du R.done++yl cz)])/\
 (decide (cO > R.nu)=false->
 False))/\
 ((y8 == R.ep)=false->
 False)))
 ):aI Tryz.prog jC (fun _=>none) 91 [aj 0 0,.int Z fr,.agg [.int Z kd,aD (.sl 1 [[dn Z q0],[dn Z q1],[dn Z q2]]),aD (.sl 1 (ints ι b)),aD (.sl 1 (cf ls))]] [cR R (ae T) (θ false) (γ ο) (γ π) (.aa none) (.sl 1 0 (nO R)) (.sl 2 0 (nD R)),rO R,rD R] (gj 13 eI K):=by apply Eq.mp (a:=an);kernel_rfl
theorem ahc (R:κ) (T:ML) (I Q:ML) (u:Option (List D)) (fr kd q0 q1 q2:Int) (b:List Int) (ls:List (List Int)) (K:V->KB->Prop) (an:
 let aO:=(bF I [fr] [ζ (nE false)]);let aC:=[0,2,3,8,9,10,11,12,13,14,15,16,17,18,19,21];let aH:=(ε Z R.nu);let au:=[0,1,2,3,4,5,7,8,9,10,11,12,14,15,17,18,19,20];let ω:=ψ 1 [[dn Z R.id],[dn Z R.ep],[dn Z R.nu]];let η:=[[dn Z q0],[dn Z q1],[dn Z q2]];(false=true->
 K (aw []) [cR R (ae T) (θ true) (aX 1) (aX 2) (aP u) (δ 3 0 (nO R)) (δ 4 0 (nD R)),ai I,ai Q,rO R,rD R])/\
 (false=false->
 aB 1/\
 ∃(y1:List D),η[1]? =some y1/\
 ∃(y2:Int),y1[0]? =some (ζ (ν Z y2))/\
 (decide (y2 > R.ep)=true->
 ∀(y3:Nat->
 Value),nD R=(nD R)/\
 bR (nD R)/\
 ∃(y4:Option Op),u=mO bo y4/\
 bu y3 au/\
 ∀(y5:Nat->
 Value),K (aw []) [cR R (ae T) (θ false) (γ (y5 14)) (γ (y5 15)) (aP none) (δ 1 0 (nO R)) (δ 2 0 (φ du R.done++yl y4).length),rO R,ξ 70 7 (φ du R.done++yl y4)])/\
 (decide (y2 > R.ep)=false->
 aB 1/\
 ∃(y6:List D),η[1]? =some y6/\
 ∃(y7:Int),y6[0]? =some (ζ (ν Z y7))/\
 ((y7 == R.ep)=true->
 aB 2/\
 ∃(y8:List D),η[2]? =some y8/\
 ∃(y9:Int),y8[0]? =some (ζ (ν Z y9))/\
 (decide (y9 > R.nu)=true->
 ∀(cO:Nat->
 Value),nD R=(nD R)/\
 bR (nD R)/\
 ∃(cy:Option Op),u=mO bo cy/\
 bu cO au/\
 ∀(cz:Nat->
 Value),K (aw []) [cG R (θ true) (ε Z R.ep) aH (bB 128 (aU ι R.c)) (θ R.ch) (ae T) (θ false) (γ (cz 14)) (γ (cz 15)) (aP none) (δ 1 0 (nO R)) (δ 2 0 (φ du R.done++yl cy).length),rO R,ξ 70 7 (φ du R.done++yl cy)])/\
 (decide (y9 > R.nu)=false->
 ∀(cL:Nat->
 Value),nO R=(nO R)/\
 bR (nO R)/\
 ∃(dy:List Int),∃(cY:List L3),iq (aU ι R.c) dy/\
 bI T cY/\
 bu cL aC/\
 K (aw []) [cS R aH (bB 128 (aU ι dy)) (θ R.ch) (ae T) (θ true) (aX 1) (aX 2) (aP u) (δ 3 0 (nO R+1)) (δ 4 0 (nD R)),ai aO,ai Q,ξ 107 5 (φ bV R.out++[[dn Z fr,ζ (ν Z 10),ω,ψ 1 (ints ι (b_ dy)),ψ 1 [[ψ 1 (ints ι (bh cY))]]]]),rD R]))/\
 ((y7 == R.ep)=false->
 ∀(fK:Nat->
 Value),nO R=(nO R)/\
 bR (nO R)/\
 ∃(dh:List Int),∃(e_:List L3),iq (aU ι R.c) dh/\
 bI T e_/\
 bu fK aC/\
 K (aw []) [cS R aH (bB 128 (aU ι dh)) (θ R.ch) (ae T) (θ true) (aX 1) (aX 2) (aP u) (δ 3 0 (nO R+1)) (δ 4 0 (nD R)),ai aO,ai Q,ξ 107 5 (φ bV R.out++[[dn Z fr,ζ (ν Z 10),ω,ψ 1 (ints ι (b_ dh)),ψ 1 [[ψ 1 (ints ι (bh e_))]]]]),rD R])))
 ):aI Tryz.prog jC (fun _=>none) 91 [aj 0 0,.int Z fr,.agg [.int Z kd,aD (.sl 1 [[dn Z q0],[dn Z q1],[dn Z q2]]),aD (.sl 1 (ints ι b)),aD (.sl 1 (cf ls))]] [cR R (ae T) (θ true) (.mp 1) (.mp 2) (.aa u) (.sl 3 0 (nO R)) (.sl 4 0 (nD R)),ai I,ai Q,rO R,rD R] (gj 13 eI K):=by apply Eq.mp (a:=an);kernel_rfl
theorem Od {R:κ} {L:de} {o:Op} (hl:R.ld=some L) (hc:L.cur=some o) (h:(aZ R).all L.cN=false):fV R=R:=by
 unfold fV;rw[hl];simp only[hc];rw[if_neg (by rw[h];decide)]
theorem Oe {R:κ} {L:de} {o:Op} (hl:R.ld=some L) (hc:L.cur=some o) (h:(aZ R).all L.cN=true):fV R={R with ld:=some {L with cur:=none },done:=R.done++[⟨o,0,mD R.c o⟩] }:=by
 unfold fV;rw[hl];simp only[hc];rw[if_pos h]
theorem afe {R:κ} {fr kd q0 q1 q2:Int} {b:List Int} {ls:List (List Int)} (hl:R.ld=none):iH R fr ⟨kd,[q0,q1,q2],b,ls⟩=R:=by unfold iH;rw[hl]
theorem TT {R:κ} {L:de} {fr kd q0 q1 q2:Int} {b:List Int} {ls:List (List Int)} (hl:R.ld=some L) (h:q1≠R.ep∨q2≠R.nu):iH R fr ⟨kd,[q0,q1,q2],b,ls⟩=R:=by
 unfold iH;rw[hl];exact if_pos h
theorem afd {R:κ} {L:de} {fr kd q0 q1 q2:Int} {b:List Int} {ls:List (List Int)} (hl:R.ld=some L) (hc:L.cur=none) (h1:q1=R.ep) (h2:q2=R.nu):iH R fr ⟨kd,[q0,q1,q2],b,ls⟩={R with ld:=some ⟨mark L.ins fr true,L.cN,none⟩ }:=by
 unfold iH;rw[hl]
 refine(if_neg (show ¬ (q1≠R.ep∨q2≠R.nu) by simp [h1,h2])).trans ?_
 simp only[hc]
theorem TS {R:κ} {L:de} {o:Op} {fr kd q0 q1 q2:Int} {b:List Int} {ls:List (List Int)} (hl:R.ld=some L) (hc:L.cur=some o) (h1:q1=R.ep) (h2:q2=R.nu):iH R fr ⟨kd,[q0,q1,q2],b,ls⟩=fV {R with ld:=some ⟨mark L.ins fr true,mark L.cN fr true,some o⟩ }:=by
 unfold iH;rw[hl]
 refine(if_neg (show ¬ (q1≠R.ep∨q2≠R.nu) by simp [h1,h2])).trans ?_
 simp only[hc]
theorem acZ {R:κ} {fr kd q0 q1 q2:Int} {b:List Int} {ls:List (List Int)} (hl:R.ld=none):iC R fr ⟨kd,[q0,q1,q2],b,ls⟩=R:=by unfold iC;rw[hl]
theorem acY {R:κ} {L:de} {fr kd q0 q1 q2:Int} {b:List Int} {ls:List (List Int)} (hl:R.ld=some L) (hc:L.cur=none):iC R fr ⟨kd,[q0,q1,q2],b,ls⟩=R:=by unfold iC;rw[hl];simp only[hc]
theorem ac0 {R:κ} {L:de} {o:Op} {fr kd q0 q1 q2:Int} {b:List Int} {ls:List (List Int)} (hl:R.ld=some L) (hc:L.cur=some o) (h:¬ (q1=R.ep/\q2=R.nu)):iC R fr ⟨kd,[q0,q1,q2],b,ls⟩=R:=by
 unfold iC;rw[hl];simp only[hc];exact if_neg h
theorem RO {R:κ} {L:de} {o:Op} {fr kd q0 q1 q2:Int} {b:List Int} {ls:List (List Int)} (hl:R.ld=some L) (hc:L.cur=some o) (h1:q1=R.ep) (h2:q2=R.nu):iC R fr ⟨kd,[q0,q1,q2],b,ls⟩=fV {R with ld:=some ⟨L.ins,mark L.cN fr true,some o⟩ }:=by
 unfold iC;rw[hl];simp only[hc];exact if_pos ⟨h1,h2⟩
theorem ad0 {R:κ} {fr kd q0 q1 q2:Int} {b:List Int} {ls:List (List Int)} (hl:R.ld=none):iF R fr ⟨kd,[q0,q1,q2],b,ls⟩=R:=by unfold iF;rw[hl]
theorem adZ {R:κ} {L:de} {fr kd q0 q1 q2:Int} {b:List Int} {ls:List (List Int)} (hl:R.ld=some L) (h:R.ep<q1):iF R fr ⟨kd,[q0,q1,q2],b,ls⟩=gn R:=by
 unfold iF;rw[hl];exact if_pos h
theorem ad1 {R:κ} {L:de} {fr kd q0 q1 q2:Int} {b:List Int} {ls:List (List Int)} (hl:R.ld=some L) (h:q1=R.ep) (h2:R.nu<q2):iF R fr ⟨kd,[q0,q1,q2],b,ls⟩=gn {R with lo:=true }:=by
 unfold iF;rw[hl]
 refine(if_neg (show ¬ R.ep<q1 by omega)).trans ?_
 exact if_pos ⟨h,h2⟩
theorem SF {R:κ} {L:de} {fr kd q0 q1 q2:Int} {b:List Int} {ls:List (List Int)} (hl:R.ld=some L) (h:¬ R.ep<q1) (h2:¬ (q1=R.ep/\R.nu<q2)):iF R fr ⟨kd,[q0,q1,q2],b,ls⟩=qp {R with ld:=some {L with ins:=mark L.ins fr false } } fr:=by
 unfold iF;rw[hl]
 exact(if_neg h).trans (if_neg h2)
theorem afh (R:κ) (T:ML) (ο π:Value) (fr kd q0 q1 q2:Int) (b:List Int) (ls:List (List Int)) (hT:bI T R.t) (hl:R.ld=none) (hR:dw R) (eB:∀ ο π,aF R [cR R (ae T) (θ false) (γ ο) (γ π) (.aa none) (.sl 1 0 (nO R)) (.sl 2 0 (nD R)),rO R,rD R]) (K:V->KB->Prop) (hK:∀ kb',aF (iH R fr ⟨kd,[q0,q1,q2],b,ls⟩) kb'->K (.υ []) kb'):aI Tryz.prog jC (fun _=>none) 88 [aj 0 0,.int Z fr,.agg [.int Z kd,aD (.sl 1 [[dn Z q0],[dn Z q1],[dn Z q2]]),aD (.sl 1 (ints ι b)),aD (.sl 1 (cf ls))]] [cR R (ae T) (θ false) (γ ο) (γ π) (.aa none) (.sl 1 0 (nO R)) (.sl 2 0 (nD R)),rO R,rD R] (gj 13 eI K):=by
 have fin:∀{R':κ} {kb':KB},iH R fr ⟨kd,[q0,q1,q2],b,ls⟩=R'->aF R' kb'->K (.υ []) kb':=fun{R' kb'} h1 h2=>by
  have:=hK kb'
  rw[h1]at this
  exact this h2
 exact aht R T ο π fr kd q0 q1 q2 b ls K ⟨fun _ f=>fin (afe hl) (eB _ _),fun f=>(by cases f)⟩
theorem ac3 (R:κ) (T:ML) (ο π:Value) (fr kd q0 q1 q2:Int) (b:List Int) (ls:List (List Int)) (hT:bI T R.t) (hl:R.ld=none) (hR:dw R) (eB:∀ ο π,aF R [cR R (ae T) (θ false) (γ ο) (γ π) (.aa none) (.sl 1 0 (nO R)) (.sl 2 0 (nD R)),rO R,rD R]) (K:V->KB->Prop) (hK:∀ kb',aF (iC R fr ⟨kd,[q0,q1,q2],b,ls⟩) kb'->K (.υ []) kb'):aI Tryz.prog jC (fun _=>none) 90 [aj 0 0,.int Z fr,.agg [.int Z kd,aD (.sl 1 [[dn Z q0],[dn Z q1],[dn Z q2]]),aD (.sl 1 (ints ι b)),aD (.sl 1 (cf ls))]] [cR R (ae T) (θ false) (γ ο) (γ π) (.aa none) (.sl 1 0 (nO R)) (.sl 2 0 (nD R)),rO R,rD R] (gj 13 eI K):=by
 have fin:∀{R':κ} {kb':KB},iC R fr ⟨kd,[q0,q1,q2],b,ls⟩=R'->aF R' kb'->K (.υ []) kb':=fun{R' kb'} h1 h2=>by
  have:=hK kb'
  rw[h1]at this
  exact this h2
 exact ag0 R T ο π fr kd q0 q1 q2 b ls K ⟨fun f=>(by cases f),fun _ f=>fin (acZ hl) (eB _ _)⟩
theorem ad4 (R:κ) (T:ML) (ο π:Value) (fr kd q0 q1 q2:Int) (b:List Int) (ls:List (List Int)) (hT:bI T R.t) (hl:R.ld=none) (hR:dw R) (eB:∀ ο π,aF R [cR R (ae T) (θ false) (γ ο) (γ π) (.aa none) (.sl 1 0 (nO R)) (.sl 2 0 (nD R)),rO R,rD R]) (K:V->KB->Prop) (hK:∀ kb',aF (iF R fr ⟨kd,[q0,q1,q2],b,ls⟩) kb'->K (.υ []) kb'):aI Tryz.prog jC (fun _=>none) 91 [aj 0 0,.int Z fr,.agg [.int Z kd,aD (.sl 1 [[dn Z q0],[dn Z q1],[dn Z q2]]),aD (.sl 1 (ints ι b)),aD (.sl 1 (cf ls))]] [cR R (ae T) (θ false) (γ ο) (γ π) (.aa none) (.sl 1 0 (nO R)) (.sl 2 0 (nD R)),rO R,rD R] (gj 13 eI K):=by
 have fin:∀{R':κ} {kb':KB},iF R fr ⟨kd,[q0,q1,q2],b,ls⟩=R'->aF R' kb'->K (.υ []) kb':=fun{R' kb'} h1 h2=>by
  have:=hK kb'
  rw[h1]at this
  exact this h2
 exact ahd R T ο π fr kd q0 q1 q2 b ls K ⟨fun _ f=>fin (ad0 hl) (eB _ _),fun f=>(by cases f)⟩
theorem afg (R:κ) (T:ML) (I Q:ML) (L:de) (fr kd q0 q1 q2:Int) (b:List Int) (ls:List (List Int)) (hT:bI T R.t) (hl:R.ld=some L) (hI:MB I L.ins) (hQ:MB Q L.cN) (hR:dw R) (hkb:aF R [cR R (ae T) (θ true) (.mp 1) (.mp 2) (.aa (L.cur.map bo)) (.sl 3 0 (nO R)) (.sl 4 0 (nD R)),ai I,ai Q,rO R,rD R]) (K:V->KB->Prop) (hK:∀ kb',aF (iH R fr ⟨kd,[q0,q1,q2],b,ls⟩) kb'->K (.υ []) kb'):aI Tryz.prog jC (fun _=>none) 88 [aj 0 0,.int Z fr,.agg [.int Z kd,aD (.sl 1 [[dn Z q0],[dn Z q1],[dn Z q2]]),aD (.sl 1 (ints ι b)),aD (.sl 1 (cf ls))]] [cR R (ae T) (θ true) (.mp 1) (.mp 2) (.aa (L.cur.map bo)) (.sl 3 0 (nO R)) (.sl 4 0 (nD R)),ai I,ai Q,rO R,rD R] (gj 13 eI K):=by
 have fin:∀{R':κ} {kb':KB},iH R fr ⟨kd,[q0,q1,q2],b,ls⟩=R'->aF R' kb'->K (.υ []) kb':=fun{R' kb'} h1 h2=>by
  have:=hK kb'
  rw[h1]at this
  exact this h2
 have h5:dE (R.v.mem.length+R.v.aM.length):=⟨by have:=hR.vl;omega⟩
 have mV:iq (aU ι R.c) R.c:=⟨rfl,hR.cl,hR.cb⟩
 have fy:nO R<=1000000:=by show(φ bV R.out).length<=_;rw[bX];have:=hR.ol;omega
 have hdl:nD R<=1000000:=by show(φ du R.done).length<=_;rw[bX];have:=hR.dl;omega
 have oD:L.cur.map bo=(cw R).map bo:=by simp [cw,hl]
 refine ahs R T I Q (L.cur.map bo) fr kd q0 q1 q2 b ls K ?_
 refine⟨fun f=>(by cases f),fun _=>⟨(by decide:(0:Int)<=1),_,rfl,q1,rfl,fun e1=>fin (TT hl (.inl (by simpa using e1))) hkb,fun e1=>⟨(by decide:(0:Int)<=2),_,rfl,q2,rfl,fun e2=>fin (TT hl (.inr (by simpa using e2))) hkb,fun e2=>?_⟩⟩⟩
 have g1:q1=R.ep:=by simpa using e1
 have g2:q2=R.nu:=by simpa using e2
 cases lZ:L.cur with
 |none=>
  exact⟨fun f=>(by cases f),fun _=>fin (afd hl lZ g1 g2) (by
   unfold aF
   exact⟨_,Q,T,mz hI fr true,hQ,hT,rfl⟩)⟩
 |some p=>
  exact⟨fun _ f=>⟨rfl,⟨hdl⟩,R.v.mem,R.v.aM,R.c,p,mV,rfl,rfl,h5,(mz hQ fr true).b,rfl,CA ⟨hR.cr p (by simp [cw,hl,lZ])⟩,fun e=>⟨⟨by simp [bT]⟩,fin ((TS hl lZ g1 g2).trans (Od rfl rfl (by rw[r9 (mz hQ fr true)]at e;exact e))) (by
   unfold aF
   exact⟨_,_,T,mz hI fr true,mz hQ fr true,hT,rfl⟩)⟩,fun e=>⟨⟨by simp [bT]⟩,fin ((TS hl lZ g1 g2).trans (Oe rfl rfl (by rw[r9 (mz hQ fr true)]at e;exact e))) (by
   unfold aF
   refine⟨_,_,T,mz hI fr true,mz hQ fr true,hT,?_⟩
   simp [cR,cS,du,bo,Gp,dn])⟩⟩,fun f=>(by cases f)⟩
theorem ac2 (R:κ) (T:ML) (I Q:ML) (L:de) (fr kd q0 q1 q2:Int) (b:List Int) (ls:List (List Int)) (hT:bI T R.t) (hl:R.ld=some L) (hI:MB I L.ins) (hQ:MB Q L.cN) (hR:dw R) (hkb:aF R [cR R (ae T) (θ true) (.mp 1) (.mp 2) (.aa (L.cur.map bo)) (.sl 3 0 (nO R)) (.sl 4 0 (nD R)),ai I,ai Q,rO R,rD R]) (K:V->KB->Prop) (hK:∀ kb',aF (iC R fr ⟨kd,[q0,q1,q2],b,ls⟩) kb'->K (.υ []) kb'):aI Tryz.prog jC (fun _=>none) 90 [aj 0 0,.int Z fr,.agg [.int Z kd,aD (.sl 1 [[dn Z q0],[dn Z q1],[dn Z q2]]),aD (.sl 1 (ints ι b)),aD (.sl 1 (cf ls))]] [cR R (ae T) (θ true) (.mp 1) (.mp 2) (.aa (L.cur.map bo)) (.sl 3 0 (nO R)) (.sl 4 0 (nD R)),ai I,ai Q,rO R,rD R] (gj 13 eI K):=by
 have fin:∀{R':κ} {kb':KB},iC R fr ⟨kd,[q0,q1,q2],b,ls⟩=R'->aF R' kb'->K (.υ []) kb':=fun{R' kb'} h1 h2=>by
  have:=hK kb'
  rw[h1]at this
  exact this h2
 have h5:dE (R.v.mem.length+R.v.aM.length):=⟨by have:=hR.vl;omega⟩
 have mV:iq (aU ι R.c) R.c:=⟨rfl,hR.cl,hR.cb⟩
 have fy:nO R<=1000000:=by show(φ bV R.out).length<=_;rw[bX];have:=hR.ol;omega
 have hdl:nD R<=1000000:=by show(φ du R.done).length<=_;rw[bX];have:=hR.dl;omega
 have oD:L.cur.map bo=(cw R).map bo:=by simp [cw,hl]
 refine agZ R T I Q (L.cur.map bo) fr kd q0 q1 q2 b ls K ?_
 cases lZ:L.cur with
 |none=>
  have same:=fin (acY hl lZ) hkb
  rw[lZ]at same
  exact⟨fun _=>⟨(by decide:(0:Int)<=1),_,rfl,q1,rfl,fun _=>⟨(by decide:(0:Int)<=2),_,rfl,q2,rfl,fun _=>⟨fun f=>(by cases f),fun _=>same⟩,fun _=>same⟩,fun _=>same⟩,fun _=>same⟩
 |some p=>
  have same:=fun h=>fin (ac0 hl lZ h) hkb
  rw[lZ]at same
  exact⟨fun _=>⟨(by decide:(0:Int)<=1),_,rfl,q1,rfl,fun e1=>⟨(by decide:(0:Int)<=2),_,rfl,q2,rfl,fun e2=>⟨fun _ f=>⟨rfl,⟨hdl⟩,R.v.mem,R.v.aM,R.c,p,mV,rfl,rfl,h5,(mz hQ fr true).b,rfl,CA ⟨hR.cr p (by simp [cw,hl,lZ])⟩,fun e=>⟨⟨by simp [bT]⟩,fin ((RO hl lZ (show q1=R.ep by simpa using e1) (show q2=R.nu by simpa using e2)).trans (Od rfl rfl (by rw[r9 (mz hQ fr true)]at e;exact e))) (by
   unfold aF
   exact⟨I,_,T,hI,mz hQ fr true,hT,rfl⟩)⟩,fun e=>⟨⟨by simp [bT]⟩,fin ((RO hl lZ (show q1=R.ep by simpa using e1) (show q2=R.nu by simpa using e2)).trans (Oe rfl rfl (by rw[r9 (mz hQ fr true)]at e;exact e))) (by
   unfold aF
   refine⟨I,_,T,hI,mz hQ fr true,hT,?_⟩
   simp [cR,cS,du,bo,Gp,dn])⟩⟩,fun f=>(by cases f)⟩,fun e2=>same fun h=>absurd h.2 (show ¬ q2=R.nu by simpa using e2)⟩,fun e1=>same fun h=>absurd h.1 (show ¬ q1=R.ep by simpa using e1)⟩,fun f=>(by cases f)⟩
theorem ad3 (R:κ) (T:ML) (I Q:ML) (L:de) (fr kd q0 q1 q2:Int) (b:List Int) (ls:List (List Int)) (hT:bI T R.t) (hl:R.ld=some L) (hI:MB I L.ins) (hQ:MB Q L.cN) (hR:dw R) (hkb:aF R [cR R (ae T) (θ true) (.mp 1) (.mp 2) (.aa (L.cur.map bo)) (.sl 3 0 (nO R)) (.sl 4 0 (nD R)),ai I,ai Q,rO R,rD R]) (K:V->KB->Prop) (hK:∀ kb',aF (iF R fr ⟨kd,[q0,q1,q2],b,ls⟩) kb'->K (.υ []) kb'):aI Tryz.prog jC (fun _=>none) 91 [aj 0 0,.int Z fr,.agg [.int Z kd,aD (.sl 1 [[dn Z q0],[dn Z q1],[dn Z q2]]),aD (.sl 1 (ints ι b)),aD (.sl 1 (cf ls))]] [cR R (ae T) (θ true) (.mp 1) (.mp 2) (.aa (L.cur.map bo)) (.sl 3 0 (nO R)) (.sl 4 0 (nD R)),ai I,ai Q,rO R,rD R] (gj 13 eI K):=by
 have fin:∀{R':κ} {kb':KB},iF R fr ⟨kd,[q0,q1,q2],b,ls⟩=R'->aF R' kb'->K (.υ []) kb':=fun{R' kb'} h1 h2=>by
  have:=hK kb'
  rw[h1]at this
  exact this h2
 have h5:dE (R.v.mem.length+R.v.aM.length):=⟨by have:=hR.vl;omega⟩
 have mV:iq (aU ι R.c) R.c:=⟨rfl,hR.cl,hR.cb⟩
 have fy:nO R<=1000000:=by show(φ bV R.out).length<=_;rw[bX];have:=hR.ol;omega
 have hdl:nD R<=1000000:=by show(φ du R.done).length<=_;rw[bX];have:=hR.dl;omega
 have oD:L.cur.map bo=(cw R).map bo:=by simp [cw,hl]
 refine ahc R T I Q (L.cur.map bo) fr kd q0 q1 q2 b ls K ?_
 exact⟨fun f=>(by cases f),fun _=>⟨(by decide:(0:Int)<=1),_,rfl,q1,rfl,fun e1 f=>⟨rfl,⟨hdl⟩,cw R,oD,⟨by simp [bT]⟩,fun f=>fin (adZ hl (show R.ep<q1 by simpa using e1)) (by
  unfold aF
  refine⟨f 14,f 15,T,hT,?_⟩
  simp only[nD,rD,te]
  rfl)⟩,fun e1=>⟨(by decide:(0:Int)<=1),_,rfl,q1,rfl,fun e2=>⟨(by decide:(0:Int)<=2),_,rfl,q2,rfl,fun e3 f=>⟨rfl,⟨hdl⟩,cw R,oD,⟨by simp [bT]⟩,fun f=>fin (ad1 hl (show q1=R.ep by simpa using e2) (show R.nu<q2 by simpa using e3)) (by
  unfold aF
  refine⟨f 14,f 15,T,hT,?_⟩
  simp only[nD,rD,te]
  rfl)⟩,fun e3=>fun f=>⟨rfl,⟨fy⟩,R.c,R.t,mV,hT,⟨by simp [bT]⟩,fin (SF hl (show ¬ R.ep<q1 by simpa using e1) (fun h=>absurd h.2 (show ¬ R.nu<q2 by simpa using e3))) (by
  unfold aF qp ib
  simp only
  refine⟨_,Q,T,mz hI fr false,hQ,hT,?_⟩
  simp [cR,cS,gl,bV,je,mG,fP,dn,ints]
  try rfl)⟩⟩,fun e2=>fun f=>⟨rfl,⟨fy⟩,R.c,R.t,mV,hT,⟨by simp [bT]⟩,fin (SF hl (show ¬ R.ep<q1 by simpa using e1) (fun h=>absurd h.1 (show ¬ q1=R.ep by simpa using e2))) (by
  unfold aF qp ib
  simp only
  refine⟨_,Q,T,mz hI fr false,hQ,hT,?_⟩
  simp [cR,cS,gl,bV,je,mG,fP,dn,ints]
  try rfl)⟩⟩⟩⟩
def Vx:aE:=fun args kb K=>∃ R fr kd q0 q1 q2 b ls,args=[aj 0 0,.int Z fr,.agg [.int Z kd,aD (.sl 1 [[dn Z q0],[dn Z q1],[dn Z q2]]),aD (.sl 1 (ints ι b)),aD (.sl 1 (cf ls))]]/\aF R kb/\dw R/\∀ kb',aF (iH R fr ⟨kd,[q0,q1,q2],b,ls⟩) kb'->K (.υ []) kb'
theorem acD:fZ Tryz.prog 88 Vx:=uh mixed 13 eI (fun args kb K h=>by
 obtain⟨R,fr,kd,q0,q1,q2,b,ls,rfl,hkb,hR,hK⟩:=h
 have iP:=hkb
 unfold aF at hkb
 split at hkb
 ·rename_i hl
  obtain⟨ο,π,T,hT,rfl⟩:=hkb
  exact⟨_,_,pR,afh R T ο π fr kd q0 q1 q2 b ls hT hl hR (fun a b=>by unfold aF;simp only[hl];exact⟨a,b,T,hT,rfl⟩) K hK⟩
 ·rename_i L hl
  obtain⟨I,Q,T,hI,hQ,hT,rfl⟩:=hkb
  exact⟨_,_,pR,afg R T I Q L fr kd q0 q1 q2 b ls hT hl hI hQ hR iP K hK⟩)
def Vq:aE:=fun args kb K=>∃ R fr kd q0 q1 q2 b ls,args=[aj 0 0,.int Z fr,.agg [.int Z kd,aD (.sl 1 [[dn Z q0],[dn Z q1],[dn Z q2]]),aD (.sl 1 (ints ι b)),aD (.sl 1 (cf ls))]]/\aF R kb/\dw R/\∀ kb',aF (iC R fr ⟨kd,[q0,q1,q2],b,ls⟩) kb'->K (.υ []) kb'
theorem ab3:fZ Tryz.prog 90 Vq:=uh mixed 13 eI (fun args kb K h=>by
 obtain⟨R,fr,kd,q0,q1,q2,b,ls,rfl,hkb,hR,hK⟩:=h
 have iP:=hkb
 unfold aF at hkb
 split at hkb
 ·rename_i hl
  obtain⟨ο,π,T,hT,rfl⟩:=hkb
  exact⟨_,_,pR,ac3 R T ο π fr kd q0 q1 q2 b ls hT hl hR (fun a b=>by unfold aF;simp only[hl];exact⟨a,b,T,hT,rfl⟩) K hK⟩
 ·rename_i L hl
  obtain⟨I,Q,T,hI,hQ,hT,rfl⟩:=hkb
  exact⟨_,_,pR,ac2 R T I Q L fr kd q0 q1 q2 b ls hT hl hI hQ hR iP K hK⟩)
def Vs:aE:=fun args kb K=>∃ R fr kd q0 q1 q2 b ls,args=[aj 0 0,.int Z fr,.agg [.int Z kd,aD (.sl 1 [[dn Z q0],[dn Z q1],[dn Z q2]]),aD (.sl 1 (ints ι b)),aD (.sl 1 (cf ls))]]/\aF R kb/\dw R/\∀ kb',aF (iF R fr ⟨kd,[q0,q1,q2],b,ls⟩) kb'->K (.υ []) kb'
theorem acr:fZ Tryz.prog 91 Vs:=uh mixed 13 eI (fun args kb K h=>by
 obtain⟨R,fr,kd,q0,q1,q2,b,ls,rfl,hkb,hR,hK⟩:=h
 have iP:=hkb
 unfold aF at hkb
 split at hkb
 ·rename_i hl
  obtain⟨ο,π,T,hT,rfl⟩:=hkb
  exact⟨_,_,pR,ad4 R T ο π fr kd q0 q1 q2 b ls hT hl hR (fun a b=>by unfold aF;simp only[hl];exact⟨a,b,T,hT,rfl⟩) K hK⟩
 ·rename_i L hl
  obtain⟨I,Q,T,hI,hQ,hT,rfl⟩:=hkb
  exact⟨_,_,pR,ad3 R T I Q L fr kd q0 q1 q2 b ls hT hl hI hQ hR iP K hK⟩)
abbrev vO (kd q0 q1 q2 q3 q4 q5 q6 q7:Int) (b:List Int) (ls:List (List Int)):KO:=.cells [.int Z kd,aD (.sl 1 [[dn Z q0],[dn Z q1],[dn Z q2],[dn Z q3],[dn Z q4],[dn Z q5],[dn Z q6],[dn Z q7]]),aD (.sl 1 (ints ι b)),aD (.sl 1 (cf ls))]
def pH (R:κ) (q1 q2:Int):Bool:=decide (q1=R.ep/\q2=R.nu/\fp R=false)
def lI (R:κ) (q1 q2:Int) (o:Op):Bool:=decide (q1=R.ep/\q2=R.nu+1/\fp R=false/\gB o=true)
def gV (R:κ) (q1 q2 q7:Int) (o:Op):Bool:=lI R q1 q2 o && (o.kd != 4 || dZ R.c == q7)
abbrev RF (R:κ) (T:ML) (ο π:Value) (fr kd q0 q1 q2 q3 q4 q5 q6 q7:Int) (b:List Int) (ls:List (List Int)):LI where
 α:=Unit
 live:=[0,1,5,6]
 st _:=([aj 0 0,.int Z fr,aj 3 0,aj 4 0],[cR R (ae T) (θ false) (γ ο) (γ π) (.aa none) (.sl 1 0 (nO R)) (.sl 2 0 (nD R)),rO R,rD R,vO kd q0 q1 q2 q3 q4 q5 q6 q7 b ls,ar [.int Z q3,.int Z q4,.int Z q5,.int Z q6,aD (.sl 1 (ints ι b))]])
 μ _:=0
abbrev RH (R:κ) (T:ML) (ο π:Value) (fr kd q0 q1 q2 q3 q4 q5 q6 q7:Int) (b:List Int) (ls:List (List Int)):LI where
 α:=Unit
 live:=[0,1,5,6,7]
 st _:=([aj 0 0,.int Z fr,aj 3 0,aj 4 0,θ (lI R q1 q2 ⟨q3,q4,q5,q6,b⟩)],[cR R (ae T) (θ false) (γ ο) (γ π) (.aa none) (.sl 1 0 (nO R)) (.sl 2 0 (nD R)),rO R,rD R,vO kd q0 q1 q2 q3 q4 q5 q6 q7 b ls,ar [.int Z q3,.int Z q4,.int Z q5,.int Z q6,aD (.sl 1 (ints ι b))]])
 μ _:=0
abbrev RK (R:κ) (T:ML) (ο π:Value) (fr kd q0 q1 q2 q3 q4 q5 q6 q7:Int) (b:List Int) (ls:List (List Int)):LI where
 α:=Unit
 live:=[0,1,5,6,7,62]
 st _:=([aj 0 0,.int Z fr,aj 3 0,aj 4 0,θ (lI R q1 q2 ⟨q3,q4,q5,q6,b⟩),θ (pH R q1 q2)],[cR R (ae T) (θ false) (γ ο) (γ π) (.aa none) (.sl 1 0 (nO R)) (.sl 2 0 (nD R)),rO R,rD R,vO kd q0 q1 q2 q3 q4 q5 q6 q7 b ls,ar [.int Z q3,.int Z q4,.int Z q5,.int Z q6,aD (.sl 1 (ints ι b))]])
 μ _:=0
abbrev RM (R:κ) (T:ML) (ο π:Value) (fr kd q0 q1 q2 q3 q4 q5 q6 q7:Int) (b:List Int) (ls:List (List Int)):LI where
 α:=Unit
 live:=[0,1,6,90]
 st _:=([aj 0 0,.int Z fr,aj 3 0,θ (gV R q1 q2 q7 ⟨q3,q4,q5,q6,b⟩)],[cR R (ae T) (θ false) (γ ο) (γ π) (.aa none) (.sl 1 0 (nO R)) (.sl 2 0 (nD R)),rO R,rD R,ar [.int Z q3,.int Z q4,.int Z q5,.int Z q6,aD (.sl 1 (ints ι b))]])
 μ _:=0
def RS (R:κ) (T:ML) (ο π:Value) (fr kd q0 q1 q2 q3 q4 q5 q6 q7:Int) (b:List Int) (ls:List (List Int)):Nat->Option LI
 | 1002=>some (RF R T ο π fr kd q0 q1 q2 q3 q4 q5 q6 q7 b ls)
 | 1004=>some (RH R T ο π fr kd q0 q1 q2 q3 q4 q5 q6 q7 b ls)
 | 1005=>some (RK R T ο π fr kd q0 q1 q2 q3 q4 q5 q6 q7 b ls)
 | 1006=>some (RM R T ο π fr kd q0 q1 q2 q3 q4 q5 q6 q7 b ls)
 |_=>none
abbrev RE (R:κ) (T:ML) (I Q:ML) (u:Option (List D)) (fr kd q0 q1 q2 q3 q4 q5 q6 q7:Int) (b:List Int) (ls:List (List Int)):LI where
 α:=Unit
 live:=[0,1,5,6]
 st _:=([aj 0 0,.int Z fr,aj 5 0,aj 6 0],[cR R (ae T) (θ true) (.mp 1) (.mp 2) (.aa u) (.sl 3 0 (nO R)) (.sl 4 0 (nD R)),ai I,ai Q,rO R,rD R,vO kd q0 q1 q2 q3 q4 q5 q6 q7 b ls,ar [.int Z q3,.int Z q4,.int Z q5,.int Z q6,aD (.sl 1 (ints ι b))]])
 μ _:=0
abbrev RG (R:κ) (T:ML) (I Q:ML) (u:Option (List D)) (fr kd q0 q1 q2 q3 q4 q5 q6 q7:Int) (b:List Int) (ls:List (List Int)):LI where
 α:=Unit
 live:=[0,1,5,6,7]
 st _:=([aj 0 0,.int Z fr,aj 5 0,aj 6 0,θ (lI R q1 q2 ⟨q3,q4,q5,q6,b⟩)],[cR R (ae T) (θ true) (.mp 1) (.mp 2) (.aa u) (.sl 3 0 (nO R)) (.sl 4 0 (nD R)),ai I,ai Q,rO R,rD R,vO kd q0 q1 q2 q3 q4 q5 q6 q7 b ls,ar [.int Z q3,.int Z q4,.int Z q5,.int Z q6,aD (.sl 1 (ints ι b))]])
 μ _:=0
abbrev RJ (R:κ) (T:ML) (I Q:ML) (u:Option (List D)) (fr kd q0 q1 q2 q3 q4 q5 q6 q7:Int) (b:List Int) (ls:List (List Int)):LI where
 α:=Unit
 live:=[0,1,5,6,7,62]
 st _:=([aj 0 0,.int Z fr,aj 5 0,aj 6 0,θ (lI R q1 q2 ⟨q3,q4,q5,q6,b⟩),θ (pH R q1 q2)],[cR R (ae T) (θ true) (.mp 1) (.mp 2) (.aa u) (.sl 3 0 (nO R)) (.sl 4 0 (nD R)),ai I,ai Q,rO R,rD R,vO kd q0 q1 q2 q3 q4 q5 q6 q7 b ls,ar [.int Z q3,.int Z q4,.int Z q5,.int Z q6,aD (.sl 1 (ints ι b))]])
 μ _:=0
abbrev RL (R:κ) (T:ML) (I Q:ML) (u:Option (List D)) (fr kd q0 q1 q2 q3 q4 q5 q6 q7:Int) (b:List Int) (ls:List (List Int)):LI where
 α:=Unit
 live:=[0,1,6,90]
 st _:=([aj 0 0,.int Z fr,aj 5 0,θ (gV R q1 q2 q7 ⟨q3,q4,q5,q6,b⟩)],[cR R (ae T) (θ true) (.mp 1) (.mp 2) (.aa u) (.sl 3 0 (nO R)) (.sl 4 0 (nD R)),ai I,ai Q,rO R,rD R,ar [.int Z q3,.int Z q4,.int Z q5,.int Z q6,aD (.sl 1 (ints ι b))]])
 μ _:=0
def RR (R:κ) (T:ML) (I Q:ML) (u:Option (List D)) (fr kd q0 q1 q2 q3 q4 q5 q6 q7:Int) (b:List Int) (ls:List (List Int)):Nat->Option LI
 | 1002=>some (RE R T I Q u fr kd q0 q1 q2 q3 q4 q5 q6 q7 b ls)
 | 1004=>some (RG R T I Q u fr kd q0 q1 q2 q3 q4 q5 q6 q7 b ls)
 | 1005=>some (RJ R T I Q u fr kd q0 q1 q2 q3 q4 q5 q6 q7 b ls)
 | 1006=>some (RL R T I Q u fr kd q0 q1 q2 q3 q4 q5 q6 q7 b ls)
 |_=>none
theorem ag2 (R:κ) (T:ML) (ο π:Value) (fr kd q0 q1 q2 q3 q4 q5 q6 q7:Int) (b:List Int) (ls:List (List Int)) (K:V->KB->Prop) (an:
 let ji:=[0,1,2,3,4,5,7,8,9,10,11,12,13,14,15,16,17,18,19,20,21];let iK:=(RH R T ο π fr kd q0 q1 q2 q3 q4 q5 q6 q7 b ls);let fL:=(RK R T ο π fr kd q0 q1 q2 q3 q4 q5 q6 q7 b ls);let fv:=(ε Z (R.nu+1));let dz:=aD (ψ 1 (ints ι b));let cC:=θ (lI R q1 q2 {cl:=q3,nm:=q4,kd:=q5,bk:=q6,b:=b});let b9:=[0,1,2,3,4,8,9,10,11,12,13,14,15,16,17,19,20,21];let bq:=[0,2,3,5,7,8,9,10,11,12,13,14,15,16,17,18,19,21];let bj:=(RM R T ο π fr kd q0 q1 q2 q3 q4 q5 q6 q7 b ls);let aH:=ξ 107 5 (φ bV R.out++[[dn Z fr,ζ (ν Z 13),ψ 1 [[dn Z R.id],[dn Z R.ep],[ζ (ν Z (R.nu+1))]],ψ 1 [],ψ 1 []]]);let au:=ar [ε Z q3,ε Z q4,ε Z q5,ε Z q6,dz];let bP:KB:=[cR R (ae T) (θ false) (γ ο) (γ π) (aP none) (δ 1 0 (nO R)) (δ 2 0 (nD R)),rO R,rD R,au];let ω:=[[dn Z q0],[dn Z q1],[dn Z q2],[dn Z q3],[dn Z q4],[dn Z q5],[dn Z q6],[dn Z q7]];let bN:=ar [ε Z kd,aD (ψ 1 ω),dz,aD (ψ 1 (cf ls))];let η:KB:=[cR R (ae T) (θ false) (γ ο) (γ π) (aP none) (δ 1 0 (nO R)) (δ 2 0 (nD R)),rO R,rD R,bN,au];let aO:=At fL ([aj 0 0,ε Z fr,aj 3 0,aj 4 0,cC,θ false],η);let aC:=At iK ([aj 0 0,ε Z fr,aj 3 0,aj 4 0,θ false],η);(aB 3/\
 ∃(y1:List D),ω[3]? =some y1/\
 ∃(y2:Int),y1[0]? =some (ζ (ν Z y2))/\
 aB 4/\
 ∃(y3:List D),ω[4]? =some y3/\
 ∃(y4:Int),y3[0]? =some (ζ (ν Z y4))/\
 aB 5/\
 ∃(y5:List D),ω[5]? =some y5/\
 ∃(y6:Int),y5[0]? =some (ζ (ν Z y6))/\
 aB 6/\
 ∃(y7:List D),ω[6]? =some y7/\
 ∃(y8:Int),y7[0]? =some (ζ (ν Z y8))/\
 True/\
 (∃(y9:Int),y7[0]? =some (ζ (ν Z y9))/\
 True)/\
 True/\
 (∃(cO:Int),y5[0]? =some (ζ (ν Z cO))/\
 True)/\
 True/\
 (∃(cy:Int),y3[0]? =some (ζ (ν Z cy))/\
 True)/\
 True/\
 (∃(cz:Int),y1[0]? =some (ζ (ν Z cz))/\
 True)/\
 True/\
 At (RF R T ο π fr kd q0 q1 q2 q3 q4 q5 q6 q7 b ls) ([aj 0 0,ε Z fr,aj 3 0,aj 4 0],[cR R (ae T) (θ false) (γ ο) (γ π) (aP none) (δ 1 0 (nO R)) (δ 2 0 (nD R)),rO R,rD R,bN,ar [ε Z y2,ε Z y4,ε Z y6,ε Z y8,dz]]))/\
 ∀(cL:Unit),(aB 1/\
 ∃(dy:List D),ω[1]? =some dy/\
 ∃(cY:Int),dy[0]? =some (ζ (ν Z cY))/\
 ((cY == R.ep)=true->
 aB 2/\
 ∃(fK:List D),ω[2]? =some fK/\
 ∃(dh:Int),fK[0]? =some (ζ (ν Z dh))/\
 ((dh == Z.wrap (R.nu+1))=true->
 (true=true->
 At iK ([aj 0 0,ε Z fr,aj 3 0,aj 4 0,θ (ke q3 q4 q5 q6 (ints ι b).length)],η))/\
 (true=false->
 aC))/\
 ((dh == Z.wrap (R.nu+1))=false->
 aC))/\
 ((cY == R.ep)=false->
 aC))/\
 ∀(e_:Unit),(aB 1/\
 ∃(ft:List D),ω[1]? =some ft/\
 ∃(fC:Int),ft[0]? =some (ζ (ν Z fC))/\
 ((fC == R.ep)=true->
 aB 2/\
 ∃(eT:List D),ω[2]? =some eT/\
 ∃(fu:Int),eT[0]? =some (ζ (ν Z fu))/\
 ((fu == R.nu)=true->
 At fL ([aj 0 0,ε Z fr,aj 3 0,aj 4 0,cC,θ true],η))/\
 ((fu == R.nu)=false->
 aO))/\
 ((fC == R.ep)=false->
 aO))/\
 ∀(iI:Unit),(pH R q1 q2=true->
 1<=1/\
 ∀(fX:Nat->
 Value),nO R=(nO R)/\
 bR (nO R)/\
 bR 1/\
 bu fX bq/\
 ∀(eK:Nat->
 Value),K (aw []) [cR R (ae T) (θ false) (γ (eK 14)) (γ (eK 15)) (aP none) (δ 1 0 (nO R+1)) (δ 2 0 (nD R)),ξ 107 5 (φ bV R.out++[[dn Z fr,ζ (ν Z 13),ψ 1 [[dn Z R.id],[dn Z R.ep],[ζ (ν Z R.nu)]],ψ 1 [],ψ 1 []]]),rD R])/\
 (pH R q1 q2=false->
 ((lI R q1 q2 {cl:=q3,nm:=q4,kd:=q5,bk:=q6,b:=b}=true->
 ((q5 != 4)=true->
 At bj ([aj 0 0,ε Z fr,aj 3 0,θ true],bP))/\
 ((q5 != 4)=false->
 (∀(eU:Nat->
 Value),∃(ef:List Int),aU ι R.c=aU ι ef/\
 ef.length=128/\
 (∀(iJ:Int),dS iJ ef->
 0<=iJ/\
 iJ<256)/\
 bu eU ji/\
 aB 7/\
 ∃(jO:List D),ω[7]? =some jO/\
 ∃(gZ:Int),jO[0]? =some (ζ (ν Z gZ))/\
 At bj ([aj 0 0,ε Z fr,aj 3 0,θ (Z.wrap (dZ ef) == gZ)],[cS R (ε Z R.nu) (bB 128 (aU ι ef)) (θ R.ch) (ae T) (θ false) (γ ο) (γ π) (aP none) (δ 1 0 (nO R)) (δ 2 0 (nD R)),rO R,rD R,au]))/\
 aB 7/\
 ∃(fh:List D),ω[7]? =some fh/\
 ∃(jP:Int),fh[0]? =some (ζ (ν Z jP))/\
 ∀(ki:Nat->
 Value),∃(jQ:List Int),aU ι R.c=aU ι jQ/\
 jQ.length=128/\
 (∀(kF:Int),dS kF jQ->
 0<=kF/\
 kF<256)/\
 bu ki ji/\
 (∃(n_:Int),fh[0]? =some (ζ (ν Z n_))/\
 lS n_ jP)/\
 At bj ([aj 0 0,ε Z fr,aj 3 0,θ (Z.wrap (dZ jQ) == jP)],[cS R (ε Z R.nu) (bB 128 (aU ι jQ)) (θ R.ch) (ae T) (θ false) (γ ο) (γ π) (aP none) (δ 1 0 (nO R)) (δ 2 0 (nD R)),rO R,rD R,au])))/\
 (lI R q1 q2 {cl:=q3,nm:=q4,kd:=q5,bk:=q6,b:=b}=false->
 At bj ([aj 0 0,ε Z fr,aj 3 0,θ false],bP)))/\
 ∀(mK:Unit),(gV R q1 q2 q7 {cl:=q3,nm:=q4,kd:=q5,bk:=q6,b:=b}=true->
 ∀(kG:Nat->
 Value),∃(oa:List Int),∃(mL:List Int),let bS:=(bB 128 (aU ι (fc oa q5 q6 mL)));∃(oW:List L3),iq (aU ι R.c) oa/\
 ints ι b=ints ι mL/\
 bI T oW/\
 qE R.nu/\
 uW q3 q4 q5 q6 mL.length/\
 (zD q5->
 bu kG b9/\
 1<=1/\
 ∀(rU:Nat->
 Value),nO R=(nO R)/\
 bR (nO R)/\
 bR 1/\
 bu rU bq/\
 ∀(qy:Nat->
 Value),K (aw []) [cS R fv bS (θ true) (ae T) (θ false) (γ (qy 14)) (γ (qy 15)) (aP none) (δ 1 0 (nO R+1)) (δ 2 0 (nD R)),aH,rD R])/\
 (zo q5->
 (mg (cX oW q3 q4 0)->
 bu kG b9/\
 1<=1/\
 ∀(rV:Nat->
 Value),nO R=(nO R)/\
 bR (nO R)/\
 bR 1/\
 bu rV bq/\
 ∀(tc:Nat->
 Value),K (aw []) [cS R fv bS (θ true) (ae T) (θ false) (γ (tc 14)) (γ (tc 15)) (aP none) (δ 1 0 (nO R+1)) (δ 2 0 (nD R)),aH,rD R])/\
 (l_ (cX oW q3 q4 0)->
 bu kG b9/\
 1<=1/\
 ∀(rW:Nat->
 Value),nO R=(nO R)/\
 bR (nO R)/\
 bR 1/\
 bu rW bq/\
 ∀(uD:Nat->
 Value),K (aw []) [cS R fv bS (θ true) (ae (bF T [q3] [dn Z q4,ζ (ν Z 0)])) (θ false) (γ (uD 14)) (γ (uD 15)) (aP none) (δ 1 0 (nO R+1)) (δ 2 0 (nD R)),aH,rD R])))/\
 (gV R q1 q2 q7 {cl:=q3,nm:=q4,kd:=q5,bk:=q6,b:=b}=false->
 ∀(uE:Nat->
 Value),nO R=(nO R)/\
 bR (nO R)/\
 bu uE [0,2,3,7,8,9,10,11,12,13,14,15,16,17,18,19,21]/\
 ∀(td:Nat->
 Value),K (aw []) [cR R (ae T) (θ false) (γ (td 14)) (γ (td 15)) (aP none) (δ 1 0 (nO R+1)) (δ 2 0 (nD R)),ξ 107 5 (φ bV R.out++[[dn Z fr,ζ (ν Z 14),ψ 1 [[dn Z R.id],[dn Z R.ep],[dn Z R.nu]],ψ 1 [],ψ 1 []]]),rD R]))
 ):aI Tryz.prog jC (RS R T ο π fr kd q0 q1 q2 q3 q4 q5 q6 q7 b ls) 89 [aj 0 0,.int Z fr,.agg [.int Z kd,aD (.sl 1 [[dn Z q0],[dn Z q1],[dn Z q2],[dn Z q3],[dn Z q4],[dn Z q5],[dn Z q6],[dn Z q7]]),aD (.sl 1 (ints ι b)),aD (.sl 1 (cf ls))]] [cR R (ae T) (θ false) (γ ο) (γ π) (.aa none) (.sl 1 0 (nO R)) (.sl 2 0 (nD R)),rO R,rD R] (gj 13 eI K):=by apply Eq.mp (a:=an);kernel_rfl
theorem ag1 (R:κ) (T:ML) (I Q:ML) (u:Option (List D)) (fr kd q0 q1 q2 q3 q4 q5 q6 q7:Int) (b:List Int) (ls:List (List Int)) (K:V->KB->Prop) (an:
 let fv:=(RG R T I Q u fr kd q0 q1 q2 q3 q4 q5 q6 q7 b ls);let dz:=[0,1,2,3,4,5,7,8,9,10,11,12,13,14,15,16,17,18,19,20,21];let cC:=aD (ψ 1 (ints ι b));let bS:=[0,1,2,3,4,8,9,10,11,12,13,14,15,16,17,19,20,21];let bP:=[0,2,3,5,7,8,9,10,11,12,13,14,15,16,17,18,19,21];let bq:=(RL R T I Q u fr kd q0 q1 q2 q3 q4 q5 q6 q7 b ls);let bj:=ξ 107 5 (φ bV R.out++[[dn Z fr,ζ (ν Z 13),ψ 1 [[dn Z R.id],[dn Z R.ep],[ζ (ν Z (R.nu+1))]],ψ 1 [],ψ 1 []]]);let au:=ar [ε Z q3,ε Z q4,ε Z q5,ε Z q6,cC];let bN:KB:=[cR R (ae T) (θ true) (aX 1) (aX 2) (aP u) (δ 3 0 (nO R)) (δ 4 0 (nD R)),ai I,ai Q,rO R,rD R,au];let ω:=[[dn Z q0],[dn Z q1],[dn Z q2],[dn Z q3],[dn Z q4],[dn Z q5],[dn Z q6],[dn Z q7]];let b9:=ar [ε Z kd,aD (ψ 1 ω),cC,aD (ψ 1 (cf ls))];let η:KB:=[cR R (ae T) (θ true) (aX 1) (aX 2) (aP u) (δ 3 0 (nO R)) (δ 4 0 (nD R)),ai I,ai Q,rO R,rD R,b9,au];let aO:=At fv ([aj 0 0,ε Z fr,aj 5 0,aj 6 0,θ false],η);let aC:=At (RJ R T I Q u fr kd q0 q1 q2 q3 q4 q5 q6 q7 b ls) ([aj 0 0,ε Z fr,aj 5 0,aj 6 0,θ (lI R q1 q2 {cl:=q3,nm:=q4,kd:=q5,bk:=q6,b:=b}),θ false],η);(aB 3/\
 ∃(y1:List D),ω[3]? =some y1/\
 ∃(y2:Int),y1[0]? =some (ζ (ν Z y2))/\
 aB 4/\
 ∃(y3:List D),ω[4]? =some y3/\
 ∃(y4:Int),y3[0]? =some (ζ (ν Z y4))/\
 aB 5/\
 ∃(y5:List D),ω[5]? =some y5/\
 ∃(y6:Int),y5[0]? =some (ζ (ν Z y6))/\
 aB 6/\
 ∃(y7:List D),ω[6]? =some y7/\
 ∃(y8:Int),y7[0]? =some (ζ (ν Z y8))/\
 True/\
 (∃(y9:Int),y7[0]? =some (ζ (ν Z y9))/\
 True)/\
 True/\
 (∃(cO:Int),y5[0]? =some (ζ (ν Z cO))/\
 True)/\
 True/\
 (∃(cy:Int),y3[0]? =some (ζ (ν Z cy))/\
 True)/\
 True/\
 (∃(cz:Int),y1[0]? =some (ζ (ν Z cz))/\
 True)/\
 True/\
 At (RE R T I Q u fr kd q0 q1 q2 q3 q4 q5 q6 q7 b ls) ([aj 0 0,ε Z fr,aj 5 0,aj 6 0],[cR R (ae T) (θ true) (aX 1) (aX 2) (aP u) (δ 3 0 (nO R)) (δ 4 0 (nD R)),ai I,ai Q,rO R,rD R,b9,ar [ε Z y2,ε Z y4,ε Z y6,ε Z y8,cC]]))/\
 ∀(cL:Unit),(aB 1/\
 ∃(dy:List D),ω[1]? =some dy/\
 ∃(cY:Int),dy[0]? =some (ζ (ν Z cY))/\
 ((cY == R.ep)=true->
 aB 2/\
 ∃(fK:List D),ω[2]? =some fK/\
 ∃(dh:Int),fK[0]? =some (ζ (ν Z dh))/\
 ((dh == Z.wrap (R.nu+1))=true->
 (false=true->
 At fv ([aj 0 0,ε Z fr,aj 5 0,aj 6 0,θ (ke q3 q4 q5 q6 (ints ι b).length)],η))/\
 (false=false->
 aO))/\
 ((dh == Z.wrap (R.nu+1))=false->
 aO))/\
 ((cY == R.ep)=false->
 aO))/\
 ∀(e_:Unit),(aB 1/\
 ∃(ft:List D),ω[1]? =some ft/\
 ∃(fC:Int),ft[0]? =some (ζ (ν Z fC))/\
 ((fC == R.ep)=true->
 aB 2/\
 ∃(eT:List D),ω[2]? =some eT/\
 ∃(fu:Int),eT[0]? =some (ζ (ν Z fu))/\
 ((fu == R.nu)=true->
 aC)/\
 ((fu == R.nu)=false->
 aC))/\
 ((fC == R.ep)=false->
 aC))/\
 ∀(iI:Unit),(pH R q1 q2=true->
 1<=1/\
 ∀(fX:Nat->
 Value),nO R=(nO R)/\
 bR (nO R)/\
 bR 1/\
 bu fX bP/\
 K (aw []) [cR R (ae T) (θ true) (aX 1) (aX 2) (aP u) (δ 3 0 (nO R+1)) (δ 4 0 (nD R)),ai I,ai Q,ξ 107 5 (φ bV R.out++[[dn Z fr,ζ (ν Z 13),ψ 1 [[dn Z R.id],[dn Z R.ep],[ζ (ν Z R.nu)]],ψ 1 [],ψ 1 []]]),rD R])/\
 (pH R q1 q2=false->
 ((lI R q1 q2 {cl:=q3,nm:=q4,kd:=q5,bk:=q6,b:=b}=true->
 ((q5 != 4)=true->
 At bq ([aj 0 0,ε Z fr,aj 5 0,θ true],bN))/\
 ((q5 != 4)=false->
 (∀(eK:Nat->
 Value),∃(eU:List Int),aU ι R.c=aU ι eU/\
 eU.length=128/\
 (∀(ef:Int),dS ef eU->
 0<=ef/\
 ef<256)/\
 bu eK dz/\
 aB 7/\
 ∃(iJ:List D),ω[7]? =some iJ/\
 ∃(jO:Int),iJ[0]? =some (ζ (ν Z jO))/\
 At bq ([aj 0 0,ε Z fr,aj 5 0,θ (Z.wrap (dZ eU) == jO)],[cS R (ε Z R.nu) (bB 128 (aU ι eU)) (θ R.ch) (ae T) (θ true) (aX 1) (aX 2) (aP u) (δ 3 0 (nO R)) (δ 4 0 (nD R)),ai I,ai Q,rO R,rD R,au]))/\
 aB 7/\
 ∃(gZ:List D),ω[7]? =some gZ/\
 ∃(fh:Int),gZ[0]? =some (ζ (ν Z fh))/\
 ∀(jP:Nat->
 Value),∃(ki:List Int),aU ι R.c=aU ι ki/\
 ki.length=128/\
 (∀(jQ:Int),dS jQ ki->
 0<=jQ/\
 jQ<256)/\
 bu jP dz/\
 (∃(kF:Int),gZ[0]? =some (ζ (ν Z kF))/\
 lS kF fh)/\
 At bq ([aj 0 0,ε Z fr,aj 5 0,θ (Z.wrap (dZ ki) == fh)],[cS R (ε Z R.nu) (bB 128 (aU ι ki)) (θ R.ch) (ae T) (θ true) (aX 1) (aX 2) (aP u) (δ 3 0 (nO R)) (δ 4 0 (nD R)),ai I,ai Q,rO R,rD R,au])))/\
 (lI R q1 q2 {cl:=q3,nm:=q4,kd:=q5,bk:=q6,b:=b}=false->
 At bq ([aj 0 0,ε Z fr,aj 5 0,θ false],bN)))/\
 ∀(n_:Unit),(gV R q1 q2 q7 {cl:=q3,nm:=q4,kd:=q5,bk:=q6,b:=b}=true->
 ∀(mK:Nat->
 Value),∃(kG:List Int),∃(oa:List Int),let fL:=(bB 128 (aU ι (fc kG q5 q6 oa)));let aH:=K (aw []) [cS R (ε Z (R.nu+1)) fL (θ true) (ae T) (θ true) (aX 1) (aX 2) (aP u) (δ 3 0 (nO R+1)) (δ 4 0 (nD R)),ai I,ai Q,bj,rD R];∃(mL:List L3),iq (aU ι R.c) kG/\
 ints ι b=ints ι oa/\
 bI T mL/\
 qE R.nu/\
 uW q3 q4 q5 q6 oa.length/\
 (zD q5->
 bu mK bS/\
 1<=1/\
 ∀(oW:Nat->
 Value),nO R=(nO R)/\
 bR (nO R)/\
 bR 1/\
 bu oW bP/\
 aH)/\
 (zo q5->
 (mg (cX mL q3 q4 0)->
 bu mK bS/\
 1<=1/\
 ∀(rU:Nat->
 Value),nO R=(nO R)/\
 bR (nO R)/\
 bR 1/\
 bu rU bP/\
 aH)/\
 (l_ (cX mL q3 q4 0)->
 bu mK bS/\
 1<=1/\
 ∀(qy:Nat->
 Value),nO R=(nO R)/\
 bR (nO R)/\
 bR 1/\
 bu qy bP/\
 K (aw []) [cS R (ε Z (R.nu+1)) fL (θ true) (ae (bF T [q3] [dn Z q4,ζ (ν Z 0)])) (θ true) (aX 1) (aX 2) (aP u) (δ 3 0 (nO R+1)) (δ 4 0 (nD R)),ai I,ai Q,bj,rD R])))/\
 (gV R q1 q2 q7 {cl:=q3,nm:=q4,kd:=q5,bk:=q6,b:=b}=false->
 ∀(rV:Nat->
 Value),nO R=(nO R)/\
 bR (nO R)/\
 bu rV [0,2,3,7,8,9,10,11,12,13,14,15,16,17,18,19,21]/\
 K (aw []) [cR R (ae T) (θ true) (aX 1) (aX 2) (aP u) (δ 3 0 (nO R+1)) (δ 4 0 (nD R)),ai I,ai Q,ξ 107 5 (φ bV R.out++[[dn Z fr,ζ (ν Z 14),ψ 1 [[dn Z R.id],[dn Z R.ep],[dn Z R.nu]],ψ 1 [],ψ 1 []]]),rD R]))
 ):aI Tryz.prog jC (RR R T I Q u fr kd q0 q1 q2 q3 q4 q5 q6 q7 b ls) 89 [aj 0 0,.int Z fr,.agg [.int Z kd,aD (.sl 1 [[dn Z q0],[dn Z q1],[dn Z q2],[dn Z q3],[dn Z q4],[dn Z q5],[dn Z q6],[dn Z q7]]),aD (.sl 1 (ints ι b)),aD (.sl 1 (cf ls))]] [cR R (ae T) (θ true) (.mp 1) (.mp 2) (.aa u) (.sl 3 0 (nO R)) (.sl 4 0 (nD R)),ai I,ai Q,rO R,rD R] (gj 13 eI K):=by apply Eq.mp (a:=an);kernel_rfl
theorem yu {R:κ} {q1 q2:Int} {o:Op} (h:¬ (q1=R.ep/\q2=R.nu+1/\fp R=false)):lI R q1 q2 o=false:=by
 unfold lI;exact decide_eq_false fun⟨a,b,c,_⟩=>h ⟨a,b,c⟩
theorem acX {R:κ} {q1 q2:Int} {o:Op} (h1:q1=R.ep) (h2:q2=R.nu+1) (h3:fp R=false):lI R q1 q2 o=gB o:=by
 unfold lI;simp [h1,h2,h3]
theorem yx {R:κ} {q1 q2:Int} (h:¬ (q1=R.ep/\q2=R.nu/\fp R=false)):pH R q1 q2=false:=decide_eq_false h
theorem ac6 {R:κ} {q1 q2:Int} (h1:q1=R.ep) (h2:q2=R.nu) (h3:fp R=false):pH R q1 q2=true:=decide_eq_true ⟨h1,h2,h3⟩
theorem RQ {R:κ} {fr kd q0 q1 q2 q3 q4 q5 q6 q7:Int} {b:List Int} {ls:List (List Int)} (h:pH R q1 q2=true):jf R fr ⟨kd,[q0,q1,q2,q3,q4,q5,q6,q7],b,ls⟩=ib R fr 13 [R.nu] [] []:=by
 unfold jf;exact if_pos (of_decide_eq_true h)
theorem I_ {R:κ} {q1 q2 q3 q4 q5 q6 q7:Int} {b:List Int}:gV R q1 q2 q7 ⟨q3,q4,q5,q6,b⟩=true ↔ (q1=R.ep/\q2=R.nu+1/\fp R=false/\gB ⟨q3,q4,q5,q6,b⟩=true/\(q5≠4∨dZ R.c=q7)):=by
 unfold gV lI
 simp [and_assoc]
theorem Ja {R:κ} {fr kd q0 q1 q2 q3 q4 q5 q6 q7:Int} {b:List Int} {ls:List (List Int)} (h:pH R q1 q2=false) (h2:gV R q1 q2 q7 ⟨q3,q4,q5,q6,b⟩=true):jf R fr ⟨kd,[q0,q1,q2,q3,q4,q5,q6,q7],b,ls⟩=ib (iB R ⟨q3,q4,q5,q6,b⟩) fr 13 [R.nu+1] [] []:=by
 unfold jf
 exact(if_neg (of_decide_eq_false h)).trans (if_pos (I_.1 h2))
theorem RP {R:κ} {fr kd q0 q1 q2 q3 q4 q5 q6 q7:Int} {b:List Int} {ls:List (List Int)} (h:pH R q1 q2=false) (h2:gV R q1 q2 q7 ⟨q3,q4,q5,q6,b⟩=false):jf R fr ⟨kd,[q0,q1,q2,q3,q4,q5,q6,q7],b,ls⟩=pC R fr:=by
 unfold jf
 exact(if_neg (of_decide_eq_false h)).trans (if_neg (fun hh=>by have h3:gV R q1 q2 q7 ⟨q3,q4,q5,q6,b⟩=true:=I_.2 hh;rw[h2]at h3;cases h3))
theorem F6 {t:List L3} {o:Op} (h:iO o=false∨cX t o.cl o.nm 0≠0):j6 t o=t:=by
 unfold j6
 rw[if_neg]
 rintro⟨h1,h2⟩
 rcases h with h | h
 ·rw[h]at h1;cases h1
 ·exact h h2
theorem NU {t:List L3} {o:Op} (h:iO o=true) (h2:cX t o.cl o.nm 0=0):j6 t o=oQ t o.cl o.nm 0:=by
 unfold j6
 rw[if_pos ⟨h,h2⟩]
theorem ada (R:κ) (T:ML) (ο π:Value) (fr kd q0 q1 q2 q3 q4 q5 q6 q7:Int) (b:List Int) (ls:List (List Int)) (hT:bI T R.t) (hl:R.ld=none) (hR:dw R) (eB:∀ ο π,aF R [cR R (ae T) (θ false) (γ ο) (γ π) (.aa none) (.sl 1 0 (nO R)) (.sl 2 0 (nD R)),rO R,rD R]) (K:V->KB->Prop) (hK:∀ kb',aF (jf R fr ⟨kd,[q0,q1,q2,q3,q4,q5,q6,q7],b,ls⟩) kb'->K (.υ []) kb'):aI Tryz.prog jC (RS R T ο π fr kd q0 q1 q2 q3 q4 q5 q6 q7 b ls) 89 [aj 0 0,.int Z fr,.agg [.int Z kd,aD (.sl 1 [[dn Z q0],[dn Z q1],[dn Z q2],[dn Z q3],[dn Z q4],[dn Z q5],[dn Z q6],[dn Z q7]]),aD (.sl 1 (ints ι b)),aD (.sl 1 (cf ls))]] [cR R (ae T) (θ false) (γ ο) (γ π) (.aa none) (.sl 1 0 (nO R)) (.sl 2 0 (nD R)),rO R,rD R] (gj 13 eI K):=by
 have fin:∀{R':κ} {kb':KB},jf R fr ⟨kd,[q0,q1,q2,q3,q4,q5,q6,q7],b,ls⟩=R'->aF R' kb'->K (.υ []) kb':=fun{R' kb'} h1 h2=>by
  have:=hK kb'
  rw[h1]at this
  exact this h2
 have mV:iq (aU ι R.c) R.c:=⟨rfl,hR.cl,hR.cb⟩
 have fy:nO R<=1000000:=by show(φ bV R.out).length<=_;rw[bX];have:=hR.ol;omega
 have mu:qE R.nu:=⟨hR.n0,by have:=hR.n1;omega⟩
 have ew:Z.wrap (R.nu+1)=R.nu+1:=bD (by have:=mu.lo;omega) (by have:=mu.hi;omega)
 have O1:=AG R.c
 have ec:Z.wrap (dZ R.c)=dZ R.c:=bD (by omega) (by omega)
 have mY:fp R=false:=by simp [fp,hl]
 exact ag2 R T ο π fr kd q0 q1 q2 q3 q4 q5 q6 q7 b ls K ⟨⟨(by decide:(0:Int)<=3),_,rfl,q3,rfl,(by decide:(0:Int)<=4),_,rfl,q4,rfl,(by decide:(0:Int)<=5),_,rfl,q5,rfl,(by decide:(0:Int)<=6),_,rfl,q6,rfl,trivial,⟨q6,rfl,trivial⟩,trivial,⟨q5,rfl,trivial⟩,trivial,⟨q4,rfl,trivial⟩,trivial,⟨q3,rfl,trivial⟩,trivial,At.mk' () rfl⟩,
  fun _=>⟨⟨(by decide:(0:Int)<=1),_,rfl,q1,rfl,fun e1=>⟨(by decide:(0:Int)<=2),_,rfl,q2,rfl,fun e2=>⟨fun _=>At.mk' () (by simp only[acX (o:=⟨q3,q4,q5,q6,b⟩) (show q1=R.ep by simpa using e1) (show q2=R.nu+1 by simpa [ew]using e2) mY,gB,bi]),fun f=>(by cases f)⟩,fun e2=>At.mk' () (by simp only[yu (o:=⟨q3,q4,q5,q6,b⟩) (fun h=>absurd h.2.1 (show ¬ q2=R.nu+1 by simpa [ew]using e2))])⟩,fun e1=>At.mk' () (by simp only[yu (o:=⟨q3,q4,q5,q6,b⟩) (q2:=q2) (fun h=>absurd h.1 (show ¬ q1=R.ep by simpa using e1))])⟩,
  fun _=>⟨⟨(by decide:(0:Int)<=1),_,rfl,q1,rfl,fun e1=>⟨(by decide:(0:Int)<=2),_,rfl,q2,rfl,fun e2=>At.mk' () (by simp only[ac6 (show q1=R.ep by simpa using e1) (show q2=R.nu by simpa using e2) mY]),fun e2=>At.mk' () (by simp only[yx (q1:=q1) (fun h=>absurd h.2.1 (show ¬ q2=R.nu by simpa using e2))])⟩,fun e1=>At.mk' () (by simp only[yx (q2:=q2) (fun h=>absurd h.1 (show ¬ q1=R.ep by simpa using e1))])⟩,
  fun _=>⟨fun hs=>⟨av _,fun f=>⟨rfl,⟨fy⟩,⟨by decide⟩,⟨by simp [bT]⟩,fun f=>fin (RQ hs) (by
  unfold aF ib
  simp only[hl]
  refine⟨f 14,f 15,T,hT,?_⟩
  simp [cR,cS,bV,je,fP,dn,ints,oH,iB]
  try rfl)⟩⟩,fun hs=>⟨⟨fun hn=>⟨fun e=>At.mk' () (by simp only[show gV R q1 q2 q7 ⟨q3,q4,q5,q6,b⟩=true by simp only[gV,hn,e,Bool.true_and,Bool.true_or]]),fun e=>⟨fun f=>⟨R.c,rfl,hR.cl,hR.cb,⟨by simp [bT]⟩,(by decide:(0:Int)<=7),_,rfl,q7,rfl,At.mk' () (by simp only[ec,show gV R q1 q2 q7 ⟨q3,q4,q5,q6,b⟩=(dZ R.c == q7) by simp only[gV,hn,e,Bool.true_and,Bool.false_or]];try rfl)⟩,(by decide:(0:Int)<=7),_,rfl,q7,rfl,fun f=>⟨R.c,rfl,hR.cl,hR.cb,⟨by simp [bT]⟩,⟨q7,rfl,⟨rfl⟩⟩,At.mk' () (by simp only[ec,show gV R q1 q2 q7 ⟨q3,q4,q5,q6,b⟩=(dZ R.c == q7) by simp only[gV,hn,e,Bool.true_and,Bool.false_or]];try rfl)⟩⟩⟩,fun hn=>At.mk' () (by simp only[show gV R q1 q2 q7 ⟨q3,q4,q5,q6,b⟩=false by simp only[gV,hn,Bool.false_and]])⟩,
  fun _=>⟨fun hg=>fun f=>⟨R.c,b,R.t,mV,rfl,hT,mu,⟨(I_.1 hg).2.2.2.1⟩,fun hc=>⟨⟨by simp [bT]⟩,⟨av _,fun f=>⟨rfl,⟨fy⟩,⟨by decide⟩,⟨by simp [bT]⟩,fun f=>fin (Ja hs hg) (by
  unfold aF ib iB
  simp only[hl,F6 (t:=R.t) (o:=⟨q3,q4,q5,q6,b⟩) (.inl hc.h)]
  refine⟨f 14,f 15,T,hT,?_⟩
  simp [cR,cS,bV,je,fP,dn,ints,oH,iB]
  try rfl)⟩⟩⟩,fun hc=>⟨fun hz=>⟨⟨by simp [bT]⟩,⟨av _,fun f=>⟨rfl,⟨fy⟩,⟨by decide⟩,⟨by simp [bT]⟩,fun f=>fin (Ja hs hg) (by
  unfold aF ib iB
  simp only[hl,F6 (t:=R.t) (o:=⟨q3,q4,q5,q6,b⟩) (.inr hz.h)]
  refine⟨f 14,f 15,T,hT,?_⟩
  simp [cR,cS,bV,je,fP,dn,ints,oH,iB]
  try rfl)⟩⟩⟩,fun hz=>⟨⟨by simp [bT]⟩,⟨av _,fun f=>⟨rfl,⟨fy⟩,⟨by decide⟩,⟨by simp [bT]⟩,fun f=>fin (Ja hs hg) (by
  unfold aF ib iB
  simp only[hl,NU (t:=R.t) (o:=⟨q3,q4,q5,q6,b⟩) hc.h hz.h]
  refine⟨f 14,f 15,_,C5 hT hz.h,?_⟩
  simp [cR,cS,bV,je,fP,dn,ints,oH,iB]
  try rfl)⟩⟩⟩⟩⟩,fun hg=>fun f=>⟨rfl,⟨fy⟩,⟨by simp [bT]⟩,fun f=>fin (RP hs hg) (by
  unfold aF pC ib
  simp only[hl]
  refine⟨f 14,f 15,T,hT,?_⟩
  simp [cR,bV,je,fP,dn,ints,oH])⟩⟩⟩⟩⟩⟩⟩
theorem ac_ (R:κ) (T:ML) (I Q:ML) (L:de) (fr kd q0 q1 q2 q3 q4 q5 q6 q7:Int) (b:List Int) (ls:List (List Int)) (hT:bI T R.t) (hl:R.ld=some L) (hI:MB I L.ins) (hQ:MB Q L.cN) (hR:dw R) (hkb:aF R [cR R (ae T) (θ true) (.mp 1) (.mp 2) (.aa (L.cur.map bo)) (.sl 3 0 (nO R)) (.sl 4 0 (nD R)),ai I,ai Q,rO R,rD R]) (K:V->KB->Prop) (hK:∀ kb',aF (jf R fr ⟨kd,[q0,q1,q2,q3,q4,q5,q6,q7],b,ls⟩) kb'->K (.υ []) kb'):aI Tryz.prog jC (RR R T I Q (L.cur.map bo) fr kd q0 q1 q2 q3 q4 q5 q6 q7 b ls) 89 [aj 0 0,.int Z fr,.agg [.int Z kd,aD (.sl 1 [[dn Z q0],[dn Z q1],[dn Z q2],[dn Z q3],[dn Z q4],[dn Z q5],[dn Z q6],[dn Z q7]]),aD (.sl 1 (ints ι b)),aD (.sl 1 (cf ls))]] [cR R (ae T) (θ true) (.mp 1) (.mp 2) (.aa (L.cur.map bo)) (.sl 3 0 (nO R)) (.sl 4 0 (nD R)),ai I,ai Q,rO R,rD R] (gj 13 eI K):=by
 have fin:∀{R':κ} {kb':KB},jf R fr ⟨kd,[q0,q1,q2,q3,q4,q5,q6,q7],b,ls⟩=R'->aF R' kb'->K (.υ []) kb':=fun{R' kb'} h1 h2=>by
  have:=hK kb'
  rw[h1]at this
  exact this h2
 have mV:iq (aU ι R.c) R.c:=⟨rfl,hR.cl,hR.cb⟩
 have fy:nO R<=1000000:=by show(φ bV R.out).length<=_;rw[bX];have:=hR.ol;omega
 have mu:qE R.nu:=⟨hR.n0,by have:=hR.n1;omega⟩
 have ew:Z.wrap (R.nu+1)=R.nu+1:=bD (by have:=mu.lo;omega) (by have:=mu.hi;omega)
 have O1:=AG R.c
 have ec:Z.wrap (dZ R.c)=dZ R.c:=bD (by omega) (by omega)
 have mY:fp R=true:=by simp [fp,hl]
 exact ag1 R T I Q (L.cur.map bo) fr kd q0 q1 q2 q3 q4 q5 q6 q7 b ls K ⟨⟨(by decide:(0:Int)<=3),_,rfl,q3,rfl,(by decide:(0:Int)<=4),_,rfl,q4,rfl,(by decide:(0:Int)<=5),_,rfl,q5,rfl,(by decide:(0:Int)<=6),_,rfl,q6,rfl,trivial,⟨q6,rfl,trivial⟩,trivial,⟨q5,rfl,trivial⟩,trivial,⟨q4,rfl,trivial⟩,trivial,⟨q3,rfl,trivial⟩,trivial,At.mk' () rfl⟩,
  fun _=>⟨⟨(by decide:(0:Int)<=1),_,rfl,q1,rfl,fun e1=>⟨(by decide:(0:Int)<=2),_,rfl,q2,rfl,fun e2=>⟨fun f=>(by cases f),fun _=>At.mk' () (by simp only[yu (R:=R) (q1:=q1) (q2:=q2) (o:=⟨q3,q4,q5,q6,b⟩) (fun h=>absurd h.2.2 (by rw[mY];decide))])⟩,fun e2=>At.mk' () (by simp only[yu (o:=⟨q3,q4,q5,q6,b⟩) (fun h=>absurd h.2.1 (show ¬ q2=R.nu+1 by simpa [ew]using e2))])⟩,fun e1=>At.mk' () (by simp only[yu (o:=⟨q3,q4,q5,q6,b⟩) (q2:=q2) (fun h=>absurd h.1 (show ¬ q1=R.ep by simpa using e1))])⟩,
  fun _=>⟨⟨(by decide:(0:Int)<=1),_,rfl,q1,rfl,fun e1=>⟨(by decide:(0:Int)<=2),_,rfl,q2,rfl,fun e2=>At.mk' () (by simp only[yx (R:=R) (q1:=q1) (q2:=q2) (fun h=>absurd h.2.2 (by rw[mY];decide))]),fun e2=>At.mk' () (by simp only[yx (q1:=q1) (fun h=>absurd h.2.1 (show ¬ q2=R.nu by simpa using e2))])⟩,fun e1=>At.mk' () (by simp only[yx (q2:=q2) (fun h=>absurd h.1 (show ¬ q1=R.ep by simpa using e1))])⟩,
  fun _=>⟨fun hs=>⟨av _,fun f=>⟨rfl,⟨fy⟩,⟨by decide⟩,⟨by simp [bT]⟩,fin (RQ hs) (by
  unfold aF ib
  simp only[hl]
  refine⟨I,Q,T,hI,hQ,hT,?_⟩
  simp [cR,cS,bV,je,fP,dn,ints,oH,iB]
  try rfl)⟩⟩,fun hs=>⟨⟨fun hn=>⟨fun e=>At.mk' () (by simp only[show gV R q1 q2 q7 ⟨q3,q4,q5,q6,b⟩=true by simp only[gV,hn,e,Bool.true_and,Bool.true_or]]),fun e=>⟨fun f=>⟨R.c,rfl,hR.cl,hR.cb,⟨by simp [bT]⟩,(by decide:(0:Int)<=7),_,rfl,q7,rfl,At.mk' () (by simp only[ec,show gV R q1 q2 q7 ⟨q3,q4,q5,q6,b⟩=(dZ R.c == q7) by simp only[gV,hn,e,Bool.true_and,Bool.false_or]];try rfl)⟩,(by decide:(0:Int)<=7),_,rfl,q7,rfl,fun f=>⟨R.c,rfl,hR.cl,hR.cb,⟨by simp [bT]⟩,⟨q7,rfl,⟨rfl⟩⟩,At.mk' () (by simp only[ec,show gV R q1 q2 q7 ⟨q3,q4,q5,q6,b⟩=(dZ R.c == q7) by simp only[gV,hn,e,Bool.true_and,Bool.false_or]];try rfl)⟩⟩⟩,fun hn=>At.mk' () (by simp only[show gV R q1 q2 q7 ⟨q3,q4,q5,q6,b⟩=false by simp only[gV,hn,Bool.false_and]])⟩,
  fun _=>⟨fun hg=>absurd hg (by simp [gV,lI,mY]),fun hg=>fun f=>⟨rfl,⟨fy⟩,⟨by simp [bT]⟩,fin (RP hs hg) (by
  unfold aF pC ib
  simp only[hl]
  refine⟨I,Q,T,hI,hQ,hT,?_⟩
  simp [cR,bV,je,fP,dn,ints,oH])⟩⟩⟩⟩⟩⟩⟩
def Vp:aE:=fun args kb K=>∃ R fr kd q0 q1 q2 q3 q4 q5 q6 q7 b ls,args=[aj 0 0,.int Z fr,.agg [.int Z kd,aD (.sl 1 [[dn Z q0],[dn Z q1],[dn Z q2],[dn Z q3],[dn Z q4],[dn Z q5],[dn Z q6],[dn Z q7]]),aD (.sl 1 (ints ι b)),aD (.sl 1 (cf ls))]]/\aF R kb/\dw R/\∀ kb',aF (jf R fr ⟨kd,[q0,q1,q2,q3,q4,q5,q6,q7],b,ls⟩) kb'->K (.υ []) kb'
theorem ab2:fZ Tryz.prog 89 Vp:=uh mixed 13 eI (fun args kb K h=>by
 obtain⟨R,fr,kd,q0,q1,q2,q3,q4,q5,q6,q7,b,ls,rfl,hkb,hR,hK⟩:=h
 have iP:=hkb
 unfold aF at hkb
 split at hkb
 ·rename_i hl
  obtain⟨ο,π,T,hT,rfl⟩:=hkb
  exact⟨_,_,pR,ada R T ο π fr kd q0 q1 q2 q3 q4 q5 q6 q7 b ls hT hl hR (fun a b=>by unfold aF;simp only[hl];exact⟨a,b,T,hT,rfl⟩) K hK⟩
 ·rename_i L hl
  obtain⟨I,Q,T,hI,hQ,hT,rfl⟩:=hkb
  exact⟨_,_,pR,ac_ R T I Q L fr kd q0 q1 q2 q3 q4 q5 q6 q7 b ls hT hl hI hQ hR iP K hK⟩)
structure gu (R:κ) (kb:KB):Prop where
 h:aF R kb
structure oz (R:κ):Prop where
 h:dw R
structure ED (R:κ) (b:List Int) (ls:List (List Int)):Prop where
 ok:dw R
 WO:bm b
 l:b.length<=900000
 ls:∀ y∈ls,bm y/\y.length<=140737488355328
def LB:aE:=fun args kb K=>∃ R fr kd q0 q1 q2 b ls,args=[aj 0 0,.int Z fr,.agg [.int Z kd,aD (.sl 1 [[dn Z q0],[dn Z q1],[dn Z q2]]),aD (.sl 1 (ints ι b)),aD (.sl 1 (cf ls))]]/\gu R kb/\ED R b ls/\∀ kb',gu (jh R fr ⟨kd,[q0,q1,q2],b,ls⟩) kb'->K (.υ []) kb'
theorem abJ:fZ Tryz.prog 87 LB:=fun args kb K h=>acC args kb K (by
 obtain⟨R,fr,kd,q0,q1,q2,b,ls,rfl,hkb,hO,hK⟩:=h
 exact⟨R,fr,kd,q0,q1,q2,b,ls,rfl,hkb.h,hO.ok,hO.WO,hO.l,hO.ls,fun kb' hk=>hK kb' ⟨hk⟩⟩)
def LC:aE:=fun args kb K=>∃ R fr kd q0 q1 q2 b ls,args=[aj 0 0,.int Z fr,.agg [.int Z kd,aD (.sl 1 [[dn Z q0],[dn Z q1],[dn Z q2]]),aD (.sl 1 (ints ι b)),aD (.sl 1 (cf ls))]]/\gu R kb/\oz R/\∀ kb',gu (iH R fr ⟨kd,[q0,q1,q2],b,ls⟩) kb'->K (.υ []) kb'
theorem abK:fZ Tryz.prog 88 LC:=fun args kb K h=>acD args kb K (by
 obtain⟨R,fr,kd,q0,q1,q2,b,ls,rfl,hkb,hO,hK⟩:=h
 exact⟨R,fr,kd,q0,q1,q2,b,ls,rfl,hkb.h,hO.h,fun kb' hk=>hK kb' ⟨hk⟩⟩)
def Ly:aE:=fun args kb K=>∃ R fr kd q0 q1 q2 q3 q4 q5 q6 q7 b ls,args=[aj 0 0,.int Z fr,.agg [.int Z kd,aD (.sl 1 [[dn Z q0],[dn Z q1],[dn Z q2],[dn Z q3],[dn Z q4],[dn Z q5],[dn Z q6],[dn Z q7]]),aD (.sl 1 (ints ι b)),aD (.sl 1 (cf ls))]]/\gu R kb/\oz R/\∀ kb',gu (jf R fr ⟨kd,[q0,q1,q2,q3,q4,q5,q6,q7],b,ls⟩) kb'->K (.υ []) kb'
theorem abG:fZ Tryz.prog 89 Ly:=fun args kb K h=>ab2 args kb K (by
 obtain⟨R,fr,kd,q0,q1,q2,q3,q4,q5,q6,q7,b,ls,rfl,hkb,hO,hK⟩:=h
 exact⟨R,fr,kd,q0,q1,q2,q3,q4,q5,q6,q7,b,ls,rfl,hkb.h,hO.h,fun kb' hk=>hK kb' ⟨hk⟩⟩)
def Lz:aE:=fun args kb K=>∃ R fr kd q0 q1 q2 b ls,args=[aj 0 0,.int Z fr,.agg [.int Z kd,aD (.sl 1 [[dn Z q0],[dn Z q1],[dn Z q2]]),aD (.sl 1 (ints ι b)),aD (.sl 1 (cf ls))]]/\gu R kb/\oz R/\∀ kb',gu (iC R fr ⟨kd,[q0,q1,q2],b,ls⟩) kb'->K (.υ []) kb'
theorem abH:fZ Tryz.prog 90 Lz:=fun args kb K h=>ab3 args kb K (by
 obtain⟨R,fr,kd,q0,q1,q2,b,ls,rfl,hkb,hO,hK⟩:=h
 exact⟨R,fr,kd,q0,q1,q2,b,ls,rfl,hkb.h,hO.h,fun kb' hk=>hK kb' ⟨hk⟩⟩)
def LA:aE:=fun args kb K=>∃ R fr kd q0 q1 q2 b ls,args=[aj 0 0,.int Z fr,.agg [.int Z kd,aD (.sl 1 [[dn Z q0],[dn Z q1],[dn Z q2]]),aD (.sl 1 (ints ι b)),aD (.sl 1 (cf ls))]]/\gu R kb/\oz R/\∀ kb',gu (iF R fr ⟨kd,[q0,q1,q2],b,ls⟩) kb'->K (.υ []) kb'
theorem abI:fZ Tryz.prog 91 LA:=fun args kb K h=>acr args kb K (by
 obtain⟨R,fr,kd,q0,q1,q2,b,ls,rfl,hkb,hO,hK⟩:=h
 exact⟨R,fr,kd,q0,q1,q2,b,ls,rfl,hkb.h,hO.h,fun kb' hk=>hK kb' ⟨hk⟩⟩)
def Hd:FuncId->Option dA
 | 87=>some ⟨[.tail],LB⟩
 | 88=>some ⟨[.tail],LC⟩
 | 89=>some ⟨[.tail],Ly⟩
 | 90=>some ⟨[.tail],Lz⟩
 | 91=>some ⟨[.tail],LA⟩
 | 70=>some ⟨[],zP⟩
 |_=>none
noncomputable def xe:bJ:=dG Tryz.prog Hd aG 10
theorem agE (R:κ) (T:ML) (ο π:Value) (fr:Int) (m:dY) (K:V->KB->Prop) (an:
 let aO:=[ζ (ν Z 3)];let au:KB:=[cR R (ae T) (θ false) (γ ο) (γ π) (aP none) (δ 1 0 (nO R)) (δ 2 0 (nD R)),rO R,rD R];let ω:=[aj 0 0,ε Z fr,fF [ε Z m.kd,aD (ψ 1 (ints Z m.n)),aD (ψ 1 (ints ι m.b)),aD (ψ 1 (cf m.l))]];let η:=(bF (bF (bF (bF (bF [] [10] aO) [11] aO) [12] [ζ (ν Z 8)]) [13] aO) [14] aO);let aC:=((↑(ints Z m.n).length:Int) == dX η [m.kd] 0)=true;let aH:=((↑(ints Z m.n).length:Int) == dX η [m.kd] 0)=false;([m.kd]=[10]->
 (∀(y1:List D),bH η [m.kd]=some y1->
 gp [CK.int Z] y1)/\
 (aC->
 aB 0/\
 ∃(y2:List D),(ints Z m.n)[0]? =some y2/\
 ∃(y3:Int),y2[0]? =some (ζ (ν Z y3))/\
 ((y3 == R.id)=true->
 ((fr != R.me)=true->
 ∃(y4:List Int),ints Z m.n=ints Z y4/\
 dE y4.length/\
 ((!y4.any df)=true->
 ∃(y5:κ),∃(y6:Int),∃(y7:Int),∃(y8:Int),∃(y9:Int),∃(cO:Int),∃(cy:List Int),∃(cz:List (List Int)),ω=[aj 0 0,ε Z y6,fF [ε Z y7,aD (ψ 1 [[dn Z y8],[dn Z y9],[dn Z cO]]),aD (ψ 1 (ints ι cy)),aD (ψ 1 (cf cz))]]/\
 gu y5 au/\
 ED y5 cy cz/\
 ∀(cL:KB),gu (jh y5 y6 {kd:=y7,n:=[y8,y9,cO],b:=cy,l:=cz}) cL->
 gd cL=true->
 ∀(dy:List Re),gd (dy,cL).snd=true/\
 K (aw []) cL)/\
 ((!y4.any df)=false->
 ∀(cY:Nat->
 Value),K (aw []) [cR R (ae T) (θ false) (γ (cY 14)) (γ (cY 15)) (aP none) (δ 1 0 (nO R)) (δ 2 0 (nD R)),rO R,rD R]))/\
 ((fr != R.me)=false->
 ∀(fK:Nat->
 Value),K (aw []) [cR R (ae T) (θ false) (γ (fK 14)) (γ (fK 15)) (aP none) (δ 1 0 (nO R)) (δ 2 0 (nD R)),rO R,rD R]))/\
 ((y3 == R.id)=false->
 ∀(dh:Nat->
 Value),K (aw []) [cR R (ae T) (θ false) (γ (dh 14)) (γ (dh 15)) (aP none) (δ 1 0 (nO R)) (δ 2 0 (nD R)),rO R,rD R]))/\
 (aH->
 ∀(e_:Nat->
 Value),K (aw []) [cR R (ae T) (θ false) (γ (e_ 14)) (γ (e_ 15)) (aP none) (δ 1 0 (nO R)) (δ 2 0 (nD R)),rO R,rD R]))/\
 (([m.kd]=[10]->
 False)->
 ([m.kd]=[11]->
 (∀(ft:List D),bH η [m.kd]=some ft->
 gp [CK.int Z] ft)/\
 (aC->
 aB 0/\
 ∃(fC:List D),(ints Z m.n)[0]? =some fC/\
 ∃(eT:Int),fC[0]? =some (ζ (ν Z eT))/\
 ((eT == R.id)=true->
 ((fr != R.me)=true->
 ∃(fu:List Int),ints Z m.n=ints Z fu/\
 dE fu.length/\
 ((!fu.any df)=true->
 ∃(iI:κ),∃(fX:Int),∃(eK:Int),∃(eU:Int),∃(ef:Int),∃(iJ:Int),∃(jO:List Int),∃(gZ:List (List Int)),ω=[aj 0 0,ε Z fX,fF [ε Z eK,aD (ψ 1 [[dn Z eU],[dn Z ef],[dn Z iJ]]),aD (ψ 1 (ints ι jO)),aD (ψ 1 (cf gZ))]]/\
 gu iI au/\
 oz iI/\
 ∀(fh:KB),gu (iH iI fX {kd:=eK,n:=[eU,ef,iJ],b:=jO,l:=gZ}) fh->
 gd fh=true->
 ∀(jP:List Re),gd (jP,fh).snd=true/\
 K (aw []) fh)/\
 ((!fu.any df)=false->
 ∀(ki:Nat->
 Value),K (aw []) [cR R (ae T) (θ false) (γ (ki 14)) (γ (ki 15)) (aP none) (δ 1 0 (nO R)) (δ 2 0 (nD R)),rO R,rD R]))/\
 ((fr != R.me)=false->
 ∀(jQ:Nat->
 Value),K (aw []) [cR R (ae T) (θ false) (γ (jQ 14)) (γ (jQ 15)) (aP none) (δ 1 0 (nO R)) (δ 2 0 (nD R)),rO R,rD R]))/\
 ((eT == R.id)=false->
 ∀(kF:Nat->
 Value),K (aw []) [cR R (ae T) (θ false) (γ (kF 14)) (γ (kF 15)) (aP none) (δ 1 0 (nO R)) (δ 2 0 (nD R)),rO R,rD R]))/\
 (aH->
 ∀(n_:Nat->
 Value),K (aw []) [cR R (ae T) (θ false) (γ (n_ 14)) (γ (n_ 15)) (aP none) (δ 1 0 (nO R)) (δ 2 0 (nD R)),rO R,rD R]))/\
 (([m.kd]=[11]->
 False)->
 ([m.kd]=[12]->
 (∀(mK:List D),bH η [m.kd]=some mK->
 gp [CK.int Z] mK)/\
 (aC->
 aB 0/\
 ∃(kG:List D),(ints Z m.n)[0]? =some kG/\
 ∃(oa:Int),kG[0]? =some (ζ (ν Z oa))/\
 ((oa == R.id)=true->
 ((fr != R.me)=true->
 ∃(mL:List Int),ints Z m.n=ints Z mL/\
 dE mL.length/\
 ((!mL.any df)=true->
 ∃(oW:κ),∃(rU:Int),∃(qy:Int),∃(rV:Int),∃(tc:Int),∃(rW:Int),∃(uD:Int),∃(uE:Int),∃(td:Int),∃(wB:Int),∃(uF:Int),∃(wC:List Int),∃(zb:List (List Int)),ω=[aj 0 0,ε Z rU,fF [ε Z qy,aD (ψ 1 [[dn Z rV],[dn Z tc],[dn Z rW],[dn Z uD],[dn Z uE],[dn Z td],[dn Z wB],[dn Z uF]]),aD (ψ 1 (ints ι wC)),aD (ψ 1 (cf zb))]]/\
 gu oW au/\
 oz oW/\
 ∀(uG:KB),gu (jf oW rU {kd:=qy,n:=[rV,tc,rW,uD,uE,td,wB,uF],b:=wC,l:=zb}) uG->
 gd uG=true->
 ∀(Dt:List Re),gd (Dt,uG).snd=true/\
 K (aw []) uG)/\
 ((!mL.any df)=false->
 ∀(zc:Nat->
 Value),K (aw []) [cR R (ae T) (θ false) (γ (zc 14)) (γ (zc 15)) (aP none) (δ 1 0 (nO R)) (δ 2 0 (nD R)),rO R,rD R]))/\
 ((fr != R.me)=false->
 ∀(zd:Nat->
 Value),K (aw []) [cR R (ae T) (θ false) (γ (zd 14)) (γ (zd 15)) (aP none) (δ 1 0 (nO R)) (δ 2 0 (nD R)),rO R,rD R]))/\
 ((oa == R.id)=false->
 ∀(ze:Nat->
 Value),K (aw []) [cR R (ae T) (θ false) (γ (ze 14)) (γ (ze 15)) (aP none) (δ 1 0 (nO R)) (δ 2 0 (nD R)),rO R,rD R]))/\
 (aH->
 ∀(zf:Nat->
 Value),K (aw []) [cR R (ae T) (θ false) (γ (zf 14)) (γ (zf 15)) (aP none) (δ 1 0 (nO R)) (δ 2 0 (nD R)),rO R,rD R]))/\
 (([m.kd]=[12]->
 False)->
 ([m.kd]=[13]->
 (∀(uH:List D),bH η [m.kd]=some uH->
 gp [CK.int Z] uH)/\
 (aC->
 aB 0/\
 ∃(Du:List D),(ints Z m.n)[0]? =some Du/\
 ∃(wD:Int),Du[0]? =some (ζ (ν Z wD))/\
 ((wD == R.id)=true->
 ((fr != R.me)=true->
 ∃(uI:List Int),ints Z m.n=ints Z uI/\
 dE uI.length/\
 ((!uI.any df)=true->
 ∃(uJ:κ),∃(uK:Int),∃(wE:Int),∃(zg:Int),∃(zh:Int),∃(zi:Int),∃(zj:List Int),∃(zk:List (List Int)),ω=[aj 0 0,ε Z uK,fF [ε Z wE,aD (ψ 1 [[dn Z zg],[dn Z zh],[dn Z zi]]),aD (ψ 1 (ints ι zj)),aD (ψ 1 (cf zk))]]/\
 gu uJ au/\
 oz uJ/\
 ∀(uL:KB),gu (iC uJ uK {kd:=wE,n:=[zg,zh,zi],b:=zj,l:=zk}) uL->
 gd uL=true->
 ∀(Dv:List Re),gd (Dv,uL).snd=true/\
 K (aw []) uL)/\
 ((!uI.any df)=false->
 ∀(uM:Nat->
 Value),K (aw []) [cR R (ae T) (θ false) (γ (uM 14)) (γ (uM 15)) (aP none) (δ 1 0 (nO R)) (δ 2 0 (nD R)),rO R,rD R]))/\
 ((fr != R.me)=false->
 ∀(Dw:Nat->
 Value),K (aw []) [cR R (ae T) (θ false) (γ (Dw 14)) (γ (Dw 15)) (aP none) (δ 1 0 (nO R)) (δ 2 0 (nD R)),rO R,rD R]))/\
 ((wD == R.id)=false->
 ∀(UY:Nat->
 Value),K (aw []) [cR R (ae T) (θ false) (γ (UY 14)) (γ (UY 15)) (aP none) (δ 1 0 (nO R)) (δ 2 0 (nD R)),rO R,rD R]))/\
 (aH->
 ∀(UZ:Nat->
 Value),K (aw []) [cR R (ae T) (θ false) (γ (UZ 14)) (γ (UZ 15)) (aP none) (δ 1 0 (nO R)) (δ 2 0 (nD R)),rO R,rD R]))/\
 (([m.kd]=[13]->
 False)->
 ([m.kd]=[14]->
 (∀(U0:List D),bH η [m.kd]=some U0->
 gp [CK.int Z] U0)/\
 (aC->
 aB 0/\
 ∃(U1:List D),(ints Z m.n)[0]? =some U1/\
 ∃(K2:Int),U1[0]? =some (ζ (ν Z K2))/\
 ((K2 == R.id)=true->
 ((fr != R.me)=true->
 ∃(Dx:List Int),ints Z m.n=ints Z Dx/\
 dE Dx.length/\
 ((!Dx.any df)=true->
 ∃(K3:κ),∃(U2:Int),∃(U3:Int),∃(U4:Int),∃(U5:Int),∃(U6:Int),∃(U7:List Int),∃(U8:List (List Int)),ω=[aj 0 0,ε Z U2,fF [ε Z U3,aD (ψ 1 [[dn Z U4],[dn Z U5],[dn Z U6]]),aD (ψ 1 (ints ι U7)),aD (ψ 1 (cf U8))]]/\
 gu K3 au/\
 oz K3/\
 ∀(Dy:KB),gu (iF K3 U2 {kd:=U3,n:=[U4,U5,U6],b:=U7,l:=U8}) Dy->
 gd Dy=true->
 ∀(y91:List Re),gd (y91,Dy).snd=true/\
 K (aw []) Dy)/\
 ((!Dx.any df)=false->
 ∀(U9:Nat->
 Value),K (aw []) [cR R (ae T) (θ false) (γ (U9 14)) (γ (U9 15)) (aP none) (δ 1 0 (nO R)) (δ 2 0 (nD R)),rO R,rD R]))/\
 ((fr != R.me)=false->
 ∀(U_:Nat->
 Value),K (aw []) [cR R (ae T) (θ false) (γ (U_ 14)) (γ (U_ 15)) (aP none) (δ 1 0 (nO R)) (δ 2 0 (nD R)),rO R,rD R]))/\
 ((K2 == R.id)=false->
 ∀(Va:Nat->
 Value),K (aw []) [cR R (ae T) (θ false) (γ (Va 14)) (γ (Va 15)) (aP none) (δ 1 0 (nO R)) (δ 2 0 (nD R)),rO R,rD R]))/\
 (aH->
 ∀(Vb:Nat->
 Value),K (aw []) [cR R (ae T) (θ false) (γ (Vb 14)) (γ (Vb 15)) (aP none) (δ 1 0 (nO R)) (δ 2 0 (nD R)),rO R,rD R]))/\
 (([m.kd]=[14]->
 False)->
 ∀(Vd:Nat->
 Value),K (aw []) [cR R (ae T) (θ false) (γ (Vd 14)) (γ (Vd 15)) (aP none) (δ 1 0 (nO R)) (δ 2 0 (nD R)),rO R,rD R])))))
 ):aI Tryz.prog xe (fun _=>none) 60 [aj 0 0,.int Z fr,.agg [.int Z m.kd,aD (.sl 1 (ints Z m.n)),aD (.sl 1 (ints ι m.b)),aD (.sl 1 (cf m.l))]] [cR R (ae T) (θ false) (γ ο) (γ π) (.aa none) (.sl 1 0 (nO R)) (.sl 2 0 (nD R)),rO R,rD R] (wc 13 eI K):=by apply Eq.mp (a:=an);kernel_rfl
theorem agD (R:κ) (T:ML) (I Q:ML) (u:Option (List D)) (fr:Int) (m:dY) (K:V->KB->Prop) (an:
 let aO:=[ζ (ν Z 3)];let au:=[aj 0 0,ε Z fr,fF [ε Z m.kd,aD (ψ 1 (ints Z m.n)),aD (ψ 1 (ints ι m.b)),aD (ψ 1 (cf m.l))]];let ω:KB:=[cR R (ae T) (θ true) (aX 1) (aX 2) (aP u) (δ 3 0 (nO R)) (δ 4 0 (nD R)),ai I,ai Q,rO R,rD R];let η:=(bF (bF (bF (bF (bF [] [10] aO) [11] aO) [12] [ζ (ν Z 8)]) [13] aO) [14] aO);let aC:=((↑(ints Z m.n).length:Int) == dX η [m.kd] 0)=true;let aH:=((↑(ints Z m.n).length:Int) == dX η [m.kd] 0)=false;([m.kd]=[10]->
 (∀(y1:List D),bH η [m.kd]=some y1->
 gp [CK.int Z] y1)/\
 (aC->
 aB 0/\
 ∃(y2:List D),(ints Z m.n)[0]? =some y2/\
 ∃(y3:Int),y2[0]? =some (ζ (ν Z y3))/\
 ((y3 == R.id)=true->
 ((fr != R.me)=true->
 ∃(y4:List Int),ints Z m.n=ints Z y4/\
 dE y4.length/\
 ((!y4.any df)=true->
 ∃(y5:κ),∃(y6:Int),∃(y7:Int),∃(y8:Int),∃(y9:Int),∃(cO:Int),∃(cy:List Int),∃(cz:List (List Int)),au=[aj 0 0,ε Z y6,fF [ε Z y7,aD (ψ 1 [[dn Z y8],[dn Z y9],[dn Z cO]]),aD (ψ 1 (ints ι cy)),aD (ψ 1 (cf cz))]]/\
 gu y5 ω/\
 ED y5 cy cz/\
 ∀(cL:KB),gu (jh y5 y6 {kd:=y7,n:=[y8,y9,cO],b:=cy,l:=cz}) cL->
 gd cL=true->
 ∀(dy:List Re),gd (dy,cL).snd=true/\
 K (aw []) cL)/\
 ((!y4.any df)=false->
 K (aw []) ω))/\
 ((fr != R.me)=false->
 K (aw []) ω))/\
 ((y3 == R.id)=false->
 K (aw []) ω))/\
 (aH->
 K (aw []) ω))/\
 (([m.kd]=[10]->
 False)->
 ([m.kd]=[11]->
 (∀(cY:List D),bH η [m.kd]=some cY->
 gp [CK.int Z] cY)/\
 (aC->
 aB 0/\
 ∃(fK:List D),(ints Z m.n)[0]? =some fK/\
 ∃(dh:Int),fK[0]? =some (ζ (ν Z dh))/\
 ((dh == R.id)=true->
 ((fr != R.me)=true->
 ∃(e_:List Int),ints Z m.n=ints Z e_/\
 dE e_.length/\
 ((!e_.any df)=true->
 ∃(ft:κ),∃(fC:Int),∃(eT:Int),∃(fu:Int),∃(iI:Int),∃(fX:Int),∃(eK:List Int),∃(eU:List (List Int)),au=[aj 0 0,ε Z fC,fF [ε Z eT,aD (ψ 1 [[dn Z fu],[dn Z iI],[dn Z fX]]),aD (ψ 1 (ints ι eK)),aD (ψ 1 (cf eU))]]/\
 gu ft ω/\
 oz ft/\
 ∀(ef:KB),gu (iH ft fC {kd:=eT,n:=[fu,iI,fX],b:=eK,l:=eU}) ef->
 gd ef=true->
 ∀(iJ:List Re),gd (iJ,ef).snd=true/\
 K (aw []) ef)/\
 ((!e_.any df)=false->
 K (aw []) ω))/\
 ((fr != R.me)=false->
 K (aw []) ω))/\
 ((dh == R.id)=false->
 K (aw []) ω))/\
 (aH->
 K (aw []) ω))/\
 (([m.kd]=[11]->
 False)->
 ([m.kd]=[12]->
 (∀(jO:List D),bH η [m.kd]=some jO->
 gp [CK.int Z] jO)/\
 (aC->
 aB 0/\
 ∃(gZ:List D),(ints Z m.n)[0]? =some gZ/\
 ∃(fh:Int),gZ[0]? =some (ζ (ν Z fh))/\
 ((fh == R.id)=true->
 ((fr != R.me)=true->
 ∃(jP:List Int),ints Z m.n=ints Z jP/\
 dE jP.length/\
 ((!jP.any df)=true->
 ∃(ki:κ),∃(jQ:Int),∃(kF:Int),∃(n_:Int),∃(mK:Int),∃(kG:Int),∃(oa:Int),∃(mL:Int),∃(oW:Int),∃(rU:Int),∃(qy:Int),∃(rV:List Int),∃(tc:List (List Int)),au=[aj 0 0,ε Z jQ,fF [ε Z kF,aD (ψ 1 [[dn Z n_],[dn Z mK],[dn Z kG],[dn Z oa],[dn Z mL],[dn Z oW],[dn Z rU],[dn Z qy]]),aD (ψ 1 (ints ι rV)),aD (ψ 1 (cf tc))]]/\
 gu ki ω/\
 oz ki/\
 ∀(rW:KB),gu (jf ki jQ {kd:=kF,n:=[n_,mK,kG,oa,mL,oW,rU,qy],b:=rV,l:=tc}) rW->
 gd rW=true->
 ∀(uD:List Re),gd (uD,rW).snd=true/\
 K (aw []) rW)/\
 ((!jP.any df)=false->
 K (aw []) ω))/\
 ((fr != R.me)=false->
 K (aw []) ω))/\
 ((fh == R.id)=false->
 K (aw []) ω))/\
 (aH->
 K (aw []) ω))/\
 (([m.kd]=[12]->
 False)->
 ([m.kd]=[13]->
 (∀(uE:List D),bH η [m.kd]=some uE->
 gp [CK.int Z] uE)/\
 (aC->
 aB 0/\
 ∃(td:List D),(ints Z m.n)[0]? =some td/\
 ∃(wB:Int),td[0]? =some (ζ (ν Z wB))/\
 ((wB == R.id)=true->
 ((fr != R.me)=true->
 ∃(uF:List Int),ints Z m.n=ints Z uF/\
 dE uF.length/\
 ((!uF.any df)=true->
 ∃(wC:κ),∃(zb:Int),∃(uG:Int),∃(Dt:Int),∃(zc:Int),∃(zd:Int),∃(ze:List Int),∃(zf:List (List Int)),au=[aj 0 0,ε Z zb,fF [ε Z uG,aD (ψ 1 [[dn Z Dt],[dn Z zc],[dn Z zd]]),aD (ψ 1 (ints ι ze)),aD (ψ 1 (cf zf))]]/\
 gu wC ω/\
 oz wC/\
 ∀(uH:KB),gu (iC wC zb {kd:=uG,n:=[Dt,zc,zd],b:=ze,l:=zf}) uH->
 gd uH=true->
 ∀(Du:List Re),gd (Du,uH).snd=true/\
 K (aw []) uH)/\
 ((!uF.any df)=false->
 K (aw []) ω))/\
 ((fr != R.me)=false->
 K (aw []) ω))/\
 ((wB == R.id)=false->
 K (aw []) ω))/\
 (aH->
 K (aw []) ω))/\
 (([m.kd]=[13]->
 False)->
 ([m.kd]=[14]->
 (∀(wD:List D),bH η [m.kd]=some wD->
 gp [CK.int Z] wD)/\
 (aC->
 aB 0/\
 ∃(uI:List D),(ints Z m.n)[0]? =some uI/\
 ∃(uJ:Int),uI[0]? =some (ζ (ν Z uJ))/\
 ((uJ == R.id)=true->
 ((fr != R.me)=true->
 ∃(uK:List Int),ints Z m.n=ints Z uK/\
 dE uK.length/\
 ((!uK.any df)=true->
 ∃(wE:κ),∃(zg:Int),∃(zh:Int),∃(zi:Int),∃(zj:Int),∃(zk:Int),∃(uL:List Int),∃(Dv:List (List Int)),au=[aj 0 0,ε Z zg,fF [ε Z zh,aD (ψ 1 [[dn Z zi],[dn Z zj],[dn Z zk]]),aD (ψ 1 (ints ι uL)),aD (ψ 1 (cf Dv))]]/\
 gu wE ω/\
 oz wE/\
 ∀(uM:KB),gu (iF wE zg {kd:=zh,n:=[zi,zj,zk],b:=uL,l:=Dv}) uM->
 gd uM=true->
 ∀(Dw:List Re),gd (Dw,uM).snd=true/\
 K (aw []) uM)/\
 ((!uK.any df)=false->
 K (aw []) ω))/\
 ((fr != R.me)=false->
 K (aw []) ω))/\
 ((uJ == R.id)=false->
 K (aw []) ω))/\
 (aH->
 K (aw []) ω))/\
 (([m.kd]=[14]->
 False)->
 K (aw []) ω)))))
 ):aI Tryz.prog xe (fun _=>none) 60 [aj 0 0,.int Z fr,.agg [.int Z m.kd,aD (.sl 1 (ints Z m.n)),aD (.sl 1 (ints ι m.b)),aD (.sl 1 (cf m.l))]] [cR R (ae T) (θ true) (.mp 1) (.mp 2) (.aa u) (.sl 3 0 (nO R)) (.sl 4 0 (nD R)),ai I,ai Q,rO R,rD R] (wc 13 eI K):=by apply Eq.mp (a:=an);kernel_rfl
theorem d_ {R:κ} {fr:Int} {m:dY} (h:cI R fr m=false):gF R fr m=R:=if_pos h
theorem OR {R:κ} {fr:Int} {n b:List Int} {ls:List (List Int)} (h:cI R fr ⟨10,n,b,ls⟩=true):gF R fr ⟨10,n,b,ls⟩=jh R fr ⟨10,n,b,ls⟩:=by unfold gF;rw[h];rfl
theorem OS {R:κ} {fr:Int} {n b:List Int} {ls:List (List Int)} (h:cI R fr ⟨11,n,b,ls⟩=true):gF R fr ⟨11,n,b,ls⟩=iH R fr ⟨11,n,b,ls⟩:=by unfold gF;rw[h];rfl
theorem OT {R:κ} {fr:Int} {n b:List Int} {ls:List (List Int)} (h:cI R fr ⟨12,n,b,ls⟩=true):gF R fr ⟨12,n,b,ls⟩=jf R fr ⟨12,n,b,ls⟩:=by unfold gF;rw[h];rfl
theorem OU {R:κ} {fr:Int} {n b:List Int} {ls:List (List Int)} (h:cI R fr ⟨13,n,b,ls⟩=true):gF R fr ⟨13,n,b,ls⟩=iC R fr ⟨13,n,b,ls⟩:=by unfold gF;rw[h];rfl
theorem OV {R:κ} {fr:Int} {n b:List Int} {ls:List (List Int)} (h:cI R fr ⟨14,n,b,ls⟩=true):gF R fr ⟨14,n,b,ls⟩=iF R fr ⟨14,n,b,ls⟩:=by unfold gF;rw[h];rfl
structure kN (m:dY):Prop where
 b:bm m.b
 l:m.b.length<=900000
 ls:∀ y∈m.l,bm y/\y.length<=140737488355328
theorem YX:dF Tryz.prog Hd:=fun f k h=>by
 unfold Hd at h
 split at h
 ·cases h;exact abJ
 ·cases h;exact abK
 ·cases h;exact abG
 ·cases h;exact abH
 ·cases h;exact abI
 ·cases h;exact Ra
 ·cases h
theorem Me:bZ Tryz.prog xe:=dI mixed YX aG 10
theorem YM (R:κ) (T:ML) (ο π:Value) (fr kd:Int) (n b:List Int) (ls:List (List Int)) (hT:bI T R.t) (hl:R.ld=none) (hR:dw R) (hM:kN ⟨kd,n,b,ls⟩) (eB:∀ ο π,aF R [cR R (ae T) (θ false) (γ ο) (γ π) (.aa none) (.sl 1 0 (nO R)) (.sl 2 0 (nD R)),rO R,rD R]) (K:V->KB->Prop) (hK:∀ kb',aF (gF R fr ⟨kd,n,b,ls⟩) kb'->K (.υ []) kb'):aI Tryz.prog xe (fun _=>none) 60 [aj 0 0,.int Z fr,.agg [.int Z kd,aD (.sl 1 (ints Z n)),aD (.sl 1 (ints ι b)),aD (.sl 1 (cf ls))]] [cR R (ae T) (θ false) (γ ο) (γ π) (.aa none) (.sl 1 0 (nO R)) (.sl 2 0 (nD R)),rO R,rD R] (wc 13 eI K):=by
 have fin:∀{R':κ} {kb':KB},gF R fr ⟨kd,n,b,ls⟩=R'->aF R' kb'->K (.υ []) kb':=fun{R' kb'} h1 h2=>by
  have:=hK kb'
  rw[h1]at this
  exact this h2
 refine agE R T ο π fr ⟨kd,n,b,ls⟩ K ⟨?_,fun BZ=>⟨?_,fun Is=>⟨?_,fun It=>⟨?_,fun Iu=>⟨?_,fun Iv=>?_⟩⟩⟩⟩⟩
 ·intro e
  have hk:kd=10:=by simpa using e
  subst hk
  refine⟨fun cs h=>?_,fun hlen=>?_,fun hlen=>fun f=>fin (d_ (by have h2:¬ n.length=3:=(by have:=hlen;simp [bi,dX,bH,bF,iv]at this;omega);simp [cI,jb,h2])) (eB _ _)⟩
  ·simp [bF,bH]at h
   subst h
   exact⟨_,_,rfl,rfl⟩
  ·have hl:n.length=3:=by have:=hlen;simp [bi,dX,bH,bF,iv]at this;omega
   match n,hl with
   | [q0,q1,q2],_=>
    exact⟨fa _,_,rfl,q0,rfl,fun h0=>⟨fun h1=>⟨[q0,q1,q2],rfl,⟨by simp⟩,fun h2=>⟨R,fr,10,q0,q1,q2,b,ls,rfl,⟨(eB _ _)⟩,⟨hR,hM.b,hM.l,hM.ls⟩,fun kb' hk hf τ=>⟨hf,fin (OR (by have h0:q0=R.id:=(by simpa using h0);have h1:¬ fr=R.me:=(by simpa using h1);have h2:[q0,q1,q2].any df=false:=(by simpa using h2);simp [cI,bU,jb,h0,h1];simpa [h0]using h2)) hk.h⟩⟩,fun h2=>fun f=>fin (d_ (by have h2:[q0,q1,q2].any df=true:=(by simpa only[lm]using h2);unfold cI;rw[h2];simp)) (eB _ _)⟩,fun h1=>fun f=>fin (d_ (by have h1:fr=R.me:=(by simpa using h1);simp [cI,h1])) (eB _ _)⟩,fun h0=>fun f=>fin (d_ (by have h0:¬ q0=R.id:=(by simpa using h0);simp [cI,bU,h0])) (eB _ _)⟩
 ·intro e
  have hk:kd=11:=by simpa using e
  subst hk
  refine⟨fun cs h=>?_,fun hlen=>?_,fun hlen=>fun f=>fin (d_ (by have h2:¬ n.length=3:=(by have:=hlen;simp [bi,dX,bH,bF,iv]at this;omega);simp [cI,jb,h2])) (eB _ _)⟩
  ·simp [bF,bH]at h
   subst h
   exact⟨_,_,rfl,rfl⟩
  ·have hl:n.length=3:=by have:=hlen;simp [bi,dX,bH,bF,iv]at this;omega
   match n,hl with
   | [q0,q1,q2],_=>
    exact⟨fa _,_,rfl,q0,rfl,fun h0=>⟨fun h1=>⟨[q0,q1,q2],rfl,⟨by simp⟩,fun h2=>⟨R,fr,11,q0,q1,q2,b,ls,rfl,⟨(eB _ _)⟩,⟨hR⟩,fun kb' hk hf τ=>⟨hf,fin (OS (by have h0:q0=R.id:=(by simpa using h0);have h1:¬ fr=R.me:=(by simpa using h1);have h2:[q0,q1,q2].any df=false:=(by simpa using h2);simp [cI,bU,jb,h0,h1];simpa [h0]using h2)) hk.h⟩⟩,fun h2=>fun f=>fin (d_ (by have h2:[q0,q1,q2].any df=true:=(by simpa only[lm]using h2);unfold cI;rw[h2];simp)) (eB _ _)⟩,fun h1=>fun f=>fin (d_ (by have h1:fr=R.me:=(by simpa using h1);simp [cI,h1])) (eB _ _)⟩,fun h0=>fun f=>fin (d_ (by have h0:¬ q0=R.id:=(by simpa using h0);simp [cI,bU,h0])) (eB _ _)⟩
 ·intro e
  have hk:kd=12:=by simpa using e
  subst hk
  refine⟨fun cs h=>?_,fun hlen=>?_,fun hlen=>fun f=>fin (d_ (by have h2:¬ n.length=8:=(by have:=hlen;simp [bi,dX,bH,bF,iv]at this;omega);simp [cI,jb,h2])) (eB _ _)⟩
  ·simp [bF,bH]at h
   subst h
   exact⟨_,_,rfl,rfl⟩
  ·have hl:n.length=8:=by have:=hlen;simp [bi,dX,bH,bF,iv]at this;omega
   match n,hl with
   | [q0,q1,q2,q3,q4,q5,q6,q7],_=>
    exact⟨fa _,_,rfl,q0,rfl,fun h0=>⟨fun h1=>⟨[q0,q1,q2,q3,q4,q5,q6,q7],rfl,⟨by simp⟩,fun h2=>⟨R,fr,12,q0,q1,q2,q3,q4,q5,q6,q7,b,ls,rfl,⟨(eB _ _)⟩,⟨hR⟩,fun kb' hk hf τ=>⟨hf,fin (OT (by have h0:q0=R.id:=(by simpa using h0);have h1:¬ fr=R.me:=(by simpa using h1);have h2:[q0,q1,q2,q3,q4,q5,q6,q7].any df=false:=(by simpa using h2);simp [cI,bU,jb,h0,h1];simpa [h0]using h2)) hk.h⟩⟩,fun h2=>fun f=>fin (d_ (by have h2:[q0,q1,q2,q3,q4,q5,q6,q7].any df=true:=(by simpa only[lm]using h2);unfold cI;rw[h2];simp)) (eB _ _)⟩,fun h1=>fun f=>fin (d_ (by have h1:fr=R.me:=(by simpa using h1);simp [cI,h1])) (eB _ _)⟩,fun h0=>fun f=>fin (d_ (by have h0:¬ q0=R.id:=(by simpa using h0);simp [cI,bU,h0])) (eB _ _)⟩
 ·intro e
  have hk:kd=13:=by simpa using e
  subst hk
  refine⟨fun cs h=>?_,fun hlen=>?_,fun hlen=>fun f=>fin (d_ (by have h2:¬ n.length=3:=(by have:=hlen;simp [bi,dX,bH,bF,iv]at this;omega);simp [cI,jb,h2])) (eB _ _)⟩
  ·simp [bF,bH]at h
   subst h
   exact⟨_,_,rfl,rfl⟩
  ·have hl:n.length=3:=by have:=hlen;simp [bi,dX,bH,bF,iv]at this;omega
   match n,hl with
   | [q0,q1,q2],_=>
    exact⟨fa _,_,rfl,q0,rfl,fun h0=>⟨fun h1=>⟨[q0,q1,q2],rfl,⟨by simp⟩,fun h2=>⟨R,fr,13,q0,q1,q2,b,ls,rfl,⟨(eB _ _)⟩,⟨hR⟩,fun kb' hk hf τ=>⟨hf,fin (OU (by have h0:q0=R.id:=(by simpa using h0);have h1:¬ fr=R.me:=(by simpa using h1);have h2:[q0,q1,q2].any df=false:=(by simpa using h2);simp [cI,bU,jb,h0,h1];simpa [h0]using h2)) hk.h⟩⟩,fun h2=>fun f=>fin (d_ (by have h2:[q0,q1,q2].any df=true:=(by simpa only[lm]using h2);unfold cI;rw[h2];simp)) (eB _ _)⟩,fun h1=>fun f=>fin (d_ (by have h1:fr=R.me:=(by simpa using h1);simp [cI,h1])) (eB _ _)⟩,fun h0=>fun f=>fin (d_ (by have h0:¬ q0=R.id:=(by simpa using h0);simp [cI,bU,h0])) (eB _ _)⟩
 ·intro e
  have hk:kd=14:=by simpa using e
  subst hk
  refine⟨fun cs h=>?_,fun hlen=>?_,fun hlen=>fun f=>fin (d_ (by have h2:¬ n.length=3:=(by have:=hlen;simp [bi,dX,bH,bF,iv]at this;omega);simp [cI,jb,h2])) (eB _ _)⟩
  ·simp [bF,bH]at h
   subst h
   exact⟨_,_,rfl,rfl⟩
  ·have hl:n.length=3:=by have:=hlen;simp [bi,dX,bH,bF,iv]at this;omega
   match n,hl with
   | [q0,q1,q2],_=>
    exact⟨fa _,_,rfl,q0,rfl,fun h0=>⟨fun h1=>⟨[q0,q1,q2],rfl,⟨by simp⟩,fun h2=>⟨R,fr,14,q0,q1,q2,b,ls,rfl,⟨(eB _ _)⟩,⟨hR⟩,fun kb' hk hf τ=>⟨hf,fin (OV (by have h0:q0=R.id:=(by simpa using h0);have h1:¬ fr=R.me:=(by simpa using h1);have h2:[q0,q1,q2].any df=false:=(by simpa using h2);simp [cI,bU,jb,h0,h1];simpa [h0]using h2)) hk.h⟩⟩,fun h2=>fun f=>fin (d_ (by have h2:[q0,q1,q2].any df=true:=(by simpa only[lm]using h2);unfold cI;rw[h2];simp)) (eB _ _)⟩,fun h1=>fun f=>fin (d_ (by have h1:fr=R.me:=(by simpa using h1);simp [cI,h1])) (eB _ _)⟩,fun h0=>fun f=>fin (d_ (by have h0:¬ q0=R.id:=(by simpa using h0);simp [cI,bU,h0])) (eB _ _)⟩
 ·have hno:cI R fr ⟨kd,n,b,ls⟩=false:=by
   have h10:¬ kd=10:=fun h=>BZ (by simp [h])
   have h11:¬ kd=11:=fun h=>Is (by simp [h])
   have h12:¬ kd=12:=fun h=>It (by simp [h])
   have Yp:¬ kd=13:=fun h=>Iu (by simp [h])
   have Yq:¬ kd=14:=fun h=>Iv (by simp [h])
   have:¬ (10<=kd/\kd<=14/\n.length=jb kd/\bU ⟨kd,n,b,ls⟩ 0=R.id/\fr≠R.me):=by omega
   simp only[cI,decide_eq_false this,Bool.false_and]
  have fs:∀ f:Nat->Value,K (.υ []) [cR R (ae T) (θ false) (γ (f 14)) (γ (f 15)) (.aa none) (.sl 1 0 (nO R)) (.sl 2 0 (nD R)),rO R,rD R]:=fun f=>fin (d_ hno) (eB _ _)
  first
   |exact fs
   |exact⟨fun f=>(by cases f),fun _=>fs⟩
theorem YL (R:κ) (T:ML) (I Q:ML) (L:de) (fr kd:Int) (n b:List Int) (ls:List (List Int)) (hT:bI T R.t) (hl:R.ld=some L) (hI:MB I L.ins) (hQ:MB Q L.cN) (hR:dw R) (hM:kN ⟨kd,n,b,ls⟩) (hkb:aF R [cR R (ae T) (θ true) (.mp 1) (.mp 2) (.aa (L.cur.map bo)) (.sl 3 0 (nO R)) (.sl 4 0 (nD R)),ai I,ai Q,rO R,rD R]) (K:V->KB->Prop) (hK:∀ kb',aF (gF R fr ⟨kd,n,b,ls⟩) kb'->K (.υ []) kb'):aI Tryz.prog xe (fun _=>none) 60 [aj 0 0,.int Z fr,.agg [.int Z kd,aD (.sl 1 (ints Z n)),aD (.sl 1 (ints ι b)),aD (.sl 1 (cf ls))]] [cR R (ae T) (θ true) (.mp 1) (.mp 2) (.aa (L.cur.map bo)) (.sl 3 0 (nO R)) (.sl 4 0 (nD R)),ai I,ai Q,rO R,rD R] (wc 13 eI K):=by
 have fin:∀{R':κ} {kb':KB},gF R fr ⟨kd,n,b,ls⟩=R'->aF R' kb'->K (.υ []) kb':=fun{R' kb'} h1 h2=>by
  have:=hK kb'
  rw[h1]at this
  exact this h2
 refine agD R T I Q (L.cur.map bo) fr ⟨kd,n,b,ls⟩ K ⟨?_,fun BZ=>⟨?_,fun Is=>⟨?_,fun It=>⟨?_,fun Iu=>⟨?_,fun Iv=>?_⟩⟩⟩⟩⟩
 ·intro e
  have hk:kd=10:=by simpa using e
  subst hk
  refine⟨fun cs h=>?_,fun hlen=>?_,fun hlen=>fin (d_ (by have h2:¬ n.length=3:=(by have:=hlen;simp [bi,dX,bH,bF,iv]at this;omega);simp [cI,jb,h2])) hkb⟩
  ·simp [bF,bH]at h
   subst h
   exact⟨_,_,rfl,rfl⟩
  ·have hl:n.length=3:=by have:=hlen;simp [bi,dX,bH,bF,iv]at this;omega
   match n,hl with
   | [q0,q1,q2],_=>
    exact⟨fa _,_,rfl,q0,rfl,fun h0=>⟨fun h1=>⟨[q0,q1,q2],rfl,⟨by simp⟩,fun h2=>⟨R,fr,10,q0,q1,q2,b,ls,rfl,⟨hkb⟩,⟨hR,hM.b,hM.l,hM.ls⟩,fun kb' hk hf τ=>⟨hf,fin (OR (by have h0:q0=R.id:=(by simpa using h0);have h1:¬ fr=R.me:=(by simpa using h1);have h2:[q0,q1,q2].any df=false:=(by simpa using h2);simp [cI,bU,jb,h0,h1];simpa [h0]using h2)) hk.h⟩⟩,fun h2=>fin (d_ (by have h2:[q0,q1,q2].any df=true:=(by simpa only[lm]using h2);unfold cI;rw[h2];simp)) hkb⟩,fun h1=>fin (d_ (by have h1:fr=R.me:=(by simpa using h1);simp [cI,h1])) hkb⟩,fun h0=>fin (d_ (by have h0:¬ q0=R.id:=(by simpa using h0);simp [cI,bU,h0])) hkb⟩
 ·intro e
  have hk:kd=11:=by simpa using e
  subst hk
  refine⟨fun cs h=>?_,fun hlen=>?_,fun hlen=>fin (d_ (by have h2:¬ n.length=3:=(by have:=hlen;simp [bi,dX,bH,bF,iv]at this;omega);simp [cI,jb,h2])) hkb⟩
  ·simp [bF,bH]at h
   subst h
   exact⟨_,_,rfl,rfl⟩
  ·have hl:n.length=3:=by have:=hlen;simp [bi,dX,bH,bF,iv]at this;omega
   match n,hl with
   | [q0,q1,q2],_=>
    exact⟨fa _,_,rfl,q0,rfl,fun h0=>⟨fun h1=>⟨[q0,q1,q2],rfl,⟨by simp⟩,fun h2=>⟨R,fr,11,q0,q1,q2,b,ls,rfl,⟨hkb⟩,⟨hR⟩,fun kb' hk hf τ=>⟨hf,fin (OS (by have h0:q0=R.id:=(by simpa using h0);have h1:¬ fr=R.me:=(by simpa using h1);have h2:[q0,q1,q2].any df=false:=(by simpa using h2);simp [cI,bU,jb,h0,h1];simpa [h0]using h2)) hk.h⟩⟩,fun h2=>fin (d_ (by have h2:[q0,q1,q2].any df=true:=(by simpa only[lm]using h2);unfold cI;rw[h2];simp)) hkb⟩,fun h1=>fin (d_ (by have h1:fr=R.me:=(by simpa using h1);simp [cI,h1])) hkb⟩,fun h0=>fin (d_ (by have h0:¬ q0=R.id:=(by simpa using h0);simp [cI,bU,h0])) hkb⟩
 ·intro e
  have hk:kd=12:=by simpa using e
  subst hk
  refine⟨fun cs h=>?_,fun hlen=>?_,fun hlen=>fin (d_ (by have h2:¬ n.length=8:=(by have:=hlen;simp [bi,dX,bH,bF,iv]at this;omega);simp [cI,jb,h2])) hkb⟩
  ·simp [bF,bH]at h
   subst h
   exact⟨_,_,rfl,rfl⟩
  ·have hl:n.length=8:=by have:=hlen;simp [bi,dX,bH,bF,iv]at this;omega
   match n,hl with
   | [q0,q1,q2,q3,q4,q5,q6,q7],_=>
    exact⟨fa _,_,rfl,q0,rfl,fun h0=>⟨fun h1=>⟨[q0,q1,q2,q3,q4,q5,q6,q7],rfl,⟨by simp⟩,fun h2=>⟨R,fr,12,q0,q1,q2,q3,q4,q5,q6,q7,b,ls,rfl,⟨hkb⟩,⟨hR⟩,fun kb' hk hf τ=>⟨hf,fin (OT (by have h0:q0=R.id:=(by simpa using h0);have h1:¬ fr=R.me:=(by simpa using h1);have h2:[q0,q1,q2,q3,q4,q5,q6,q7].any df=false:=(by simpa using h2);simp [cI,bU,jb,h0,h1];simpa [h0]using h2)) hk.h⟩⟩,fun h2=>fin (d_ (by have h2:[q0,q1,q2,q3,q4,q5,q6,q7].any df=true:=(by simpa only[lm]using h2);unfold cI;rw[h2];simp)) hkb⟩,fun h1=>fin (d_ (by have h1:fr=R.me:=(by simpa using h1);simp [cI,h1])) hkb⟩,fun h0=>fin (d_ (by have h0:¬ q0=R.id:=(by simpa using h0);simp [cI,bU,h0])) hkb⟩
 ·intro e
  have hk:kd=13:=by simpa using e
  subst hk
  refine⟨fun cs h=>?_,fun hlen=>?_,fun hlen=>fin (d_ (by have h2:¬ n.length=3:=(by have:=hlen;simp [bi,dX,bH,bF,iv]at this;omega);simp [cI,jb,h2])) hkb⟩
  ·simp [bF,bH]at h
   subst h
   exact⟨_,_,rfl,rfl⟩
  ·have hl:n.length=3:=by have:=hlen;simp [bi,dX,bH,bF,iv]at this;omega
   match n,hl with
   | [q0,q1,q2],_=>
    exact⟨fa _,_,rfl,q0,rfl,fun h0=>⟨fun h1=>⟨[q0,q1,q2],rfl,⟨by simp⟩,fun h2=>⟨R,fr,13,q0,q1,q2,b,ls,rfl,⟨hkb⟩,⟨hR⟩,fun kb' hk hf τ=>⟨hf,fin (OU (by have h0:q0=R.id:=(by simpa using h0);have h1:¬ fr=R.me:=(by simpa using h1);have h2:[q0,q1,q2].any df=false:=(by simpa using h2);simp [cI,bU,jb,h0,h1];simpa [h0]using h2)) hk.h⟩⟩,fun h2=>fin (d_ (by have h2:[q0,q1,q2].any df=true:=(by simpa only[lm]using h2);unfold cI;rw[h2];simp)) hkb⟩,fun h1=>fin (d_ (by have h1:fr=R.me:=(by simpa using h1);simp [cI,h1])) hkb⟩,fun h0=>fin (d_ (by have h0:¬ q0=R.id:=(by simpa using h0);simp [cI,bU,h0])) hkb⟩
 ·intro e
  have hk:kd=14:=by simpa using e
  subst hk
  refine⟨fun cs h=>?_,fun hlen=>?_,fun hlen=>fin (d_ (by have h2:¬ n.length=3:=(by have:=hlen;simp [bi,dX,bH,bF,iv]at this;omega);simp [cI,jb,h2])) hkb⟩
  ·simp [bF,bH]at h
   subst h
   exact⟨_,_,rfl,rfl⟩
  ·have hl:n.length=3:=by have:=hlen;simp [bi,dX,bH,bF,iv]at this;omega
   match n,hl with
   | [q0,q1,q2],_=>
    exact⟨fa _,_,rfl,q0,rfl,fun h0=>⟨fun h1=>⟨[q0,q1,q2],rfl,⟨by simp⟩,fun h2=>⟨R,fr,14,q0,q1,q2,b,ls,rfl,⟨hkb⟩,⟨hR⟩,fun kb' hk hf τ=>⟨hf,fin (OV (by have h0:q0=R.id:=(by simpa using h0);have h1:¬ fr=R.me:=(by simpa using h1);have h2:[q0,q1,q2].any df=false:=(by simpa using h2);simp [cI,bU,jb,h0,h1];simpa [h0]using h2)) hk.h⟩⟩,fun h2=>fin (d_ (by have h2:[q0,q1,q2].any df=true:=(by simpa only[lm]using h2);unfold cI;rw[h2];simp)) hkb⟩,fun h1=>fin (d_ (by have h1:fr=R.me:=(by simpa using h1);simp [cI,h1])) hkb⟩,fun h0=>fin (d_ (by have h0:¬ q0=R.id:=(by simpa using h0);simp [cI,bU,h0])) hkb⟩
 ·have hno:cI R fr ⟨kd,n,b,ls⟩=false:=by
   have h10:¬ kd=10:=fun h=>BZ (by simp [h])
   have h11:¬ kd=11:=fun h=>Is (by simp [h])
   have h12:¬ kd=12:=fun h=>It (by simp [h])
   have Yp:¬ kd=13:=fun h=>Iu (by simp [h])
   have Yq:¬ kd=14:=fun h=>Iv (by simp [h])
   have:¬ (10<=kd/\kd<=14/\n.length=jb kd/\bU ⟨kd,n,b,ls⟩ 0=R.id/\fr≠R.me):=by omega
   simp only[cI,decide_eq_false this,Bool.false_and]
  have fs:K (.υ []) [cR R (ae T) (θ true) (.mp 1) (.mp 2) (.aa (L.cur.map bo)) (.sl 3 0 (nO R)) (.sl 4 0 (nD R)),ai I,ai Q,rO R,rD R]:=fin (d_ hno) hkb
  first
   |exact fs
   |exact⟨fun f=>(by cases f),fun _=>fs⟩
def Vn:aE:=fun args kb K=>∃ R fr m,args=[aj 0 0,.int Z fr,.agg [.int Z m.kd,aD (.sl 1 (ints Z m.n)),aD (.sl 1 (ints ι m.b)),aD (.sl 1 (cf m.l))]]/\aF R kb/\dw R/\kN m/\∀ kb',aF (gF R fr m) kb'->K (.υ []) kb'
theorem abE:fZ Tryz.prog 60 Vn:=aaQ mixed 13 eI (fun args kb K h=>by
 obtain⟨R,fr,⟨kd,n,b,ls⟩,rfl,hkb,hR,hM,hK⟩:=h
 have iP:=hkb
 unfold aF at hkb
 split at hkb
 ·rename_i hl
  obtain⟨ο,π,T,hT,rfl⟩:=hkb
  exact⟨_,_,Me,YM R T ο π fr kd n b ls hT hl hR hM (fun a b=>by unfold aF;simp only[hl];exact⟨a,b,T,hT,rfl⟩) K hK⟩
 ·rename_i L hl
  obtain⟨I,Q,T,hI,hQ,hT,rfl⟩:=hkb
  exact⟨_,_,Me,YL R T I Q L fr kd n b ls hT hl hI hQ hR hM iP K hK⟩)
def kh (R:κ) (L:de) (k:Int):List Post:=
 if L.ins k=false then[kZ R k]else match L.cur with
 |some o=>if L.cN k=false then[kS R o k]else[]
 |none=>[]
def gm (R:κ):κ:=match R.ld with
 |none=>{R with ti:=R.ti+1 }
 |some L=>if(R.ti+1).tmod 3=0 then{R with ti:=R.ti+1,out:=R.out++(aZ R).flatMap (kh R L) }else{R with ti:=R.ti+1 }
def rj (c:Option Op) (I Q:ML):de:=⟨fun n=>ij I [n] 0,fun n=>ij Q [n] 0,c⟩
def tks (R:κ) (c:Option Op) (I Q:ML) (i:Nat):List Post:=((aZ R).take i).flatMap (kh R (rj c I Q))
def Ky:FuncId->Option dA
 | 44=>some ⟨[],ee [false,true,true,true,true,true,false,true,true,true,true,false,false,true,true,true,true,true,true,true,true,true] uY⟩
 | 45=>some ⟨[],ee [true,false,true,true,false,false,false,false,true,true,true,true,true,true,true,true,true,true,true,true,false,true] w7⟩
 | 57=>some ⟨[],ee [true,false,true,true,false,false,false,true,true,true,true,true,true,true,true,true,false,true,true,true,false,true] zT⟩
 |_=>none
noncomputable def xf:bJ:=dG Tryz.prog Ky aG 10
abbrev yV (R:κ) (T I Q:ML) (c:Option Op):LI where
 α:={i:Nat // i<=(aZ R).length/\(R.ti+1).tmod 3=0}
 live:=[0,25,26,27]
 dU:=[.mv 0 147]
 st i:=([aj 0 0,.sl 6 0 (aZ R).length,.int Z ((aZ R).length:Int),.int Z (i.1:Int)],[cT R (.int Z (R.ti+1)) (ae T) (θ true) (.mp 1) (.mp 2) (.aa (c.map bo)) (.sl 5 0 (nO R+(tks R c I Q i.1).length)) (.sl 4 0 (nD R)),ai I,ai Q,χ,rD R,ξ 107 5 (φ bV R.out++φ bV (tks R c I Q i.1)),ξ 3 1 (ints Z (ia R.me R.v.mem R.v.aM))])
 μ i:=(aZ R).length - i.1
def Uf (R:κ) (T I Q:ML) (c:Option Op):Nat->Option LI
 | 3=>some (yV R T I Q c)
 |_=>none
theorem ahy (R:κ) (T I Q:ML) (c:Option Op) (K:V->KB->Prop) (an:
 let cC:=aD (ψ 1 (ints Z R.v.aM));let bS:=aD (ψ 1 (ints Z R.v.mem));let bq:=(aP (mO bo c));let bj:=(Z.wrap (R.ti+1));let aC:=(ints Z (ia R.me R.v.mem R.v.aM));let au:=K (aw []) [cT R (ε Z bj) (ae T) (θ true) (aX 1) (aX 2) bq (δ 3 0 (nO R)) (δ 4 0 (nD R)),ai I,ai Q,rO R,rD R];(false=true->
 au)/\
 (false=false->
 ((bj.tmod 3 != 0)=true->
 au)/\
 ((bj.tmod 3 != 0)=false->
 ∀(y1:Nat->
 Value),∃(y2:List Int),∃(y3:List Int),ints Z R.v.mem=ints Z y2/\
 ints Z R.v.aM=ints Z y3/\
 dE (y2.length+y3.length)/\
 bu y1 [1,2,3,4,5,7,8,9,10,13,14,15,16,17,18,19,20,21]/\
 At (yV R T I Q c) ([aj 0 0,δ 6 0 (bz R.me y2 y3).length,ε Z (↑((bz R.me y2 y3).length - 0):Int),ε Z 0],[cT R (ε Z bj) (ae T) (θ true) (aX 1) (aX 2) bq (δ 5 0 (nO R)) (δ 4 0 (nD R)),ai I,ai Q,χ,rD R,rO R,ξ 3 1 (ints Z (ia R.me y2 y3))])/\
 ∀(y5:{y4:Nat // y4<=(aZ R).length/\
 (R.ti+1).tmod 3=0}),let b9:=(↑y5.val:Int)<(↑(aZ R).length:Int);let bP:=δ 5 0 (nO R+(tks R c I Q y5.val).length+1);let aO:=(nO R+(tks R c I Q y5.val).length);let aH:=(φ bV R.out++φ bV (tks R c I Q y5.val));let bN:=nO R+(tks R c I Q y5.val).length=aH.length;let ω:=[aj 0 0,δ 6 0 (aZ R).length,ε Z (↑(aZ R).length:Int),ε Z (Z.wrap ((↑y5.val:Int)+1))];let η:=Nx (yV R T I Q c) y5 (ω,[cT R (ε Z (R.ti+1)) (ae T) (θ true) (aX 1) (aX 2) bq (δ 5 0 aO) (δ 4 0 (nD R)),ai I,ai Q,χ,rD R,ξ 107 5 aH,ξ 3 1 aC]);(decide (b9)=true->
 bw (↑y5.val:Int) ((aZ R).length - 0)/\
 ∃(y6:List D),aC[0+(↑y5.val:Int).toNat]? =some y6/\
 ∃(y7:Int),y6[0]? =some (ζ (ν Z y7))/\
 (∀(y8:List D),bH I [y7]=some y8->
 gp [CK.bool] y8)/\
 ((!ij I [y7] 0)=true->
 ∀(y9:Nat->
 Value),bN/\
 bR aO/\
 ∃(cO:List Int),∃(cy:List L3),iq (aU ι R.c) cO/\
 bI T cy/\
 bu y9 [0,2,3,8,9,10,11,12,13,14,15,16,17,18,19,21]/\
 Nx (yV R T I Q c) y5 (ω,[ar [ε Z R.me,ε Z R.id,θ R.bl,θ R.lo,ε Z R.ep,ε Z R.nu,bB 128 (aU ι cO),ae T,ε Z R.v.vi,ε Z R.v.vv,ε Z R.v.ve,bS,cC,θ true,aX 1,aX 2,aP (mO bo c),ε Z R.ce,θ R.ch,ε Z (R.ti+1),bP,δ 4 0 (nD R)],ai I,ai Q,χ,rD R,ξ 107 5 (φ bV R.out++φ bV (tks R c I Q y5.val)++[[dn Z y7,ζ (ν Z 10),ψ 1 [[dn Z R.id],[dn Z R.ep],[dn Z R.nu]],ψ 1 (ints ι (b_ cO)),ψ 1 [[ψ 1 (ints ι (bh cy))]]]]),ξ 3 1 aC]))/\
 ((!ij I [y7] 0)=false->
 ((!(mO bo c).isNone)=true->
 (∀(cz:List D),bH Q [y7]=some cz->
 gp [CK.bool] cz)/\
 ((!ij Q [y7] 0)=true->
 ∀(cL:Nat->
 Value),bN/\
 bR aO/\
 ∃(dy:List Int),∃(cY:Op),iq (aU ι R.c) dy/\
 mO bo c=some (bo cY)/\
 bu cL [0,2,3,7,8,9,10,11,12,13,14,15,17,18,19,21]/\
 Nx (yV R T I Q c) y5 (ω,[ar [ε Z R.me,ε Z R.id,θ R.bl,θ R.lo,ε Z R.ep,ε Z R.nu,bB 128 (aU ι dy),ae T,ε Z R.v.vi,ε Z R.v.vv,ε Z R.v.ve,bS,cC,θ true,aX 1,aX 2,aP (mO bo c),ε Z R.ce,θ R.ch,ε Z (R.ti+1),bP,δ 4 0 (nD R)],ai I,ai Q,χ,rD R,ξ 107 5 (φ bV R.out++φ bV (tks R c I Q y5.val)++[[dn Z y7,ζ (ν Z 12),ψ 1 [[dn Z R.id],[dn Z R.ep],[dn Z R.nu],[dn Z cY.cl],[dn Z cY.nm],[dn Z cY.kd],[dn Z cY.bk],[dn Z (dZ dy)]],ψ 1 (ints ι cY.b),ψ 1 []]]),ξ 3 1 aC]))/\
 ((!ij Q [y7] 0)=false->
 η))/\
 ((!(mO bo c).isNone)=false->
 η)))/\
 (decide (b9)=false->
 K (aw []) [cT R (ε Z (R.ti+1)) (ae T) (θ true) (aX 1) (aX 2) bq (δ 3 0 aO) (δ 4 0 (nD R)),ai I,ai Q,ξ 107 5 aH,rD R])))
 ):aI Tryz.prog xf (Uf R T I Q c) 29 [aj 0 0] [cR R (ae T) (θ true) (.mp 1) (.mp 2) (.aa (c.map bo)) (.sl 3 0 (nO R)) (.sl 4 0 (nD R)),ai I,ai Q,rO R,rD R] (gj 13 eI K):=by apply Eq.mp (a:=an);kernel_rfl
theorem ahz (R:κ) (T:ML) (ο π:Value) (K:V->KB->Prop) (an:
 let η:=(Z.wrap (R.ti+1));((true=true->
 ∀(y1:Nat->
 Value),K (aw []) [cT R (ε Z η) (ae T) (θ false) (γ (y1 14)) (γ (y1 15)) (aP none) (δ 1 0 (nO R)) (δ 2 0 (nD R)),rO R,rD R])/\
 (true=false->
 ((η.tmod 3 != 0)=true->
 ∀(y2:Nat->
 Value),K (aw []) [cT R (ε Z η) (ae T) (θ false) (γ (y2 14)) (γ (y2 15)) (aP none) (δ 1 0 (nO R)) (δ 2 0 (nD R)),rO R,rD R])/\
 ((η.tmod 3 != 0)=false->
 At FV ([],[cT R (ε Z η) (ae T) (θ false) (γ ο) (γ π) (aP none) (δ 1 0 (nO R)) (δ 2 0 (nD R)),rO R,rD R]))))/\
 True
 ):aI Tryz.prog xf (cutAt 1002) 29 [aj 0 0] [cR R (ae T) (θ false) (γ ο) (γ π) (.aa none) (.sl 1 0 (nO R)) (.sl 2 0 (nD R)),rO R,rD R] (gj 13 eI K):=by apply Eq.mp (a:=an);kernel_rfl
theorem afC {R:κ} (hl:R.ld=none):gm R={R with ti:=R.ti+1 }:=by unfold gm;rw[hl]
theorem afB {R:κ} {L:de} (hl:R.ld=some L) (h:¬ (R.ti+1).tmod 3=0):gm R={R with ti:=R.ti+1 }:=by unfold gm;rw[hl];exact if_neg h
theorem afA {R:κ} {L:de} (hl:R.ld=some L) (h:(R.ti+1).tmod 3=0):gm R={R with ti:=R.ti+1,out:=R.out++(aZ R).flatMap (kh R L) }:=by unfold gm;rw[hl];exact if_pos h
theorem yW {R:κ} {c:Option Op} {I Q:ML} {i:Nat} (h:i<(aZ R).length):tks R c I Q (i+1)=tks R c I Q i++kh R (rj c I Q) (aZ R)[i]:=by
 unfold tks;rw[i_,bp h,List.flatMap_append];simp
theorem afM {R:κ} {c:Option Op} {I Q:ML} (i:Nat):(tks R c I Q i).length<=i:=by
 induction i with
 |zero=>simp [tks]
 |succ i ih=>
  rcases jX i (aZ R).length with h | h
  ·rw[yW h,bn]
   have:(kh R (rj c I Q) (aZ R)[i]).length<=1:=by
    unfold kh
    split
    ·simp
    ·split
     ·split<;>simp
     ·simp
   omega
  ·have:tks R c I Q (i+1)=tks R c I Q i:=by unfold tks;rw[eM (by omega),eM h]
   rw[this];omega
theorem aav {L:de} {c:Option Op} {I Q:ML} (hI:MB I L.ins) (hQ:MB Q L.cN) (hc:L.cur=c):rj c I Q=L:=by
 obtain⟨a,b,d⟩:=L
 simp only at hc
 subst hc
 unfold rj
 have e1:(fun n=>ij I [n] 0)=a:=funext hI.f
 have e2:(fun n=>ij Q [n] 0)=b:=funext hQ.f
 rw[e1,e2]
theorem Nl {M:ML} (h:lp M) {k:List Int}:∀ cs,bH M k=some cs->gp [CK.bool] cs:=fun cs hc=>by
 obtain⟨b,rfl⟩:=h.h _ _ hc
 exact⟨b,[],rfl,rfl⟩
theorem afL:dF Tryz.prog Ky:=fun f k h=>by
 unfold Ky at h
 split at h
 ·cases h;exact fm Cd _
 ·cases h;exact fm I4 _
 ·cases h;exact fm Rh _
 ·cases h
theorem Mq:bZ Tryz.prog xf:=dI mixed afL aG 10
theorem afH (R:κ) (T:ML) (ο π:Value) (hT:bI T R.t) (hl:R.ld=none) (hR:dw R) (h0:0<=R.ti) (h1:R.ti<=2199023255552) (hroom:R.out.length+(aZ R).length<=100000) (K:V->KB->Prop) (hK:∀ kb',aF (gm R) kb'->K (.υ []) kb'):aI Tryz.prog xf (cutAt 1002) 29 [aj 0 0] [cR R (ae T) (θ false) (γ ο) (γ π) (.aa none) (.sl 1 0 (nO R)) (.sl 2 0 (nD R)),rO R,rD R] (gj 13 eI K):=by
 have fin:∀{R':κ} {kb':KB},gm R=R'->aF R' kb'->K (.υ []) kb':=fun{R' kb'} h1 h2=>by
  have:=hK kb'
  rw[h1]at this
  exact this h2
 have ew:Z.wrap (R.ti+1)=R.ti+1:=bD (by omega) (by omega)
 refine ahz R T ο π K ?_
 rw[ew]
 exact⟨⟨fun _ f=>fin (afC hl) (by
  unfold aF
  simp only[hl]
  refine⟨f 14,f 15,T,hT,?_⟩
  rfl),fun f=>(by cases f)⟩,trivial⟩
theorem afG (R:κ) (T:ML) (I Q:ML) (L:de) (hT:bI T R.t) (hl:R.ld=some L) (hI:MB I L.ins) (hQ:MB Q L.cN) (hR:dw R) (h0:0<=R.ti) (h1:R.ti<=2199023255552) (hroom:R.out.length+(aZ R).length<=100000) (K:V->KB->Prop) (hK:∀ kb',aF (gm R) kb'->K (.υ []) kb'):aI Tryz.prog xf (Uf R T I Q L.cur) 29 [aj 0 0] [cR R (ae T) (θ true) (.mp 1) (.mp 2) (.aa (L.cur.map bo)) (.sl 3 0 (nO R)) (.sl 4 0 (nD R)),ai I,ai Q,rO R,rD R] (gj 13 eI K):=by
 have fin:∀{R':κ} {kb':KB},gm R=R'->aF R' kb'->K (.υ []) kb':=fun{R' kb'} h1 h2=>by
  have:=hK kb'
  rw[h1]at this
  exact this h2
 have ew:Z.wrap (R.ti+1)=R.ti+1:=bD (by omega) (by omega)
 have h5:dE (R.v.mem.length+R.v.aM.length):=⟨by have:=hR.vl;omega⟩
 have mV:iq (aU ι R.c) R.c:=⟨rfl,hR.cl,hR.cb⟩
 refine ahy R T I Q L.cur K ?_
 rw[ew]
 refine⟨fun f=>(by cases f),fun _=>⟨fun e=>fin (afB hl (by simpa using e)) (by
  unfold aF
  simp only[hl]
  refine⟨I,Q,T,hI,hQ,hT,?_⟩
  rfl),fun e f=>⟨R.v.mem,R.v.aM,rfl,rfl,h5,⟨by simp [bT]⟩,At.mk' ⟨0,bt _,by simpa using e⟩ ?_,?_⟩⟩⟩
 ·simp [tks,aZ]
 ·rintro⟨i,Hl,hz⟩
  refine⟨fun hlt=>?_,fun hlt=>?_⟩
  ·have hlt:i<(aZ R).length:=by simpa using hlt
   have da:(ia R.me R.v.mem R.v.aM)[i]? =(aZ R)[i]?:=Jf hlt
   have wz:=bD (n:=(i:Int)+1) (by omega) (by omega)
   have pr:nO R+(tks R L.cur I Q i).length=(φ bV R.out++φ bV (tks R L.cur I Q i)).length:=by simp [nO]
   have pl:bR (nO R+(tks R L.cur I Q i).length):=⟨by have:=afM (R:=R) (c:=L.cur) (I:=I) (Q:=Q) i;simp [nO];omega⟩
   refine⟨Bx (by simpa using hlt),[dn Z (aZ R)[i]],?_,(aZ R)[i],rfl,Nl hI.b,fun e1 f=>⟨pr,pl,R.c,R.t,mV,hT,⟨by simp [bT]⟩,Nx.mk' ⟨i+1,hlt,hz⟩ (by
     have eh:tks R L.cur I Q (i+1)=tks R L.cur I Q i++[kZ R (aZ R)[i]]:=by rw[yW hlt];simp [kh,rj,show ij I [(aZ R)[i]] 0=false by simpa using e1]
     simp only[wz]
     simp [eh,cT,bV,je,kZ,kS,gl,mG,p_,fP,dn,ints,gE]
     try rfl) (by show(aZ R).length - (i+1)<(aZ R).length - i;omega)⟩,fun e1=>?_⟩
   ·simp only[cP,c9]
    rw[ints_getElem?,da,bp hlt];rfl
   ·cases hp:L.cur.isNone with
    |true=>
     have hp:L.cur=none:=by simpa using hp
     refine⟨fun f=>(by rw[hp]at f;cases f),fun _=>Nx.mk' ⟨i+1,hlt,hz⟩ (by
     have eh:tks R L.cur I Q (i+1)=tks R L.cur I Q i++[]:=by rw[yW hlt];simp [kh,rj,hp,show ij I [(aZ R)[i]] 0=true by simpa using e1]
     simp only[wz]
     simp [eh,cT,bV,je,kZ,kS,gl,mG,p_,fP,dn,ints,gE]
     try rfl) (by show(aZ R).length - (i+1)<(aZ R).length - i;omega)⟩
    |false=>
     obtain⟨p,hp⟩:∃ p,L.cur=some p:=Option.ne_none_iff_exists'.1 fun h=>by rw[h]at hp;cases hp
     refine⟨fun _=>⟨Nl hQ.b,fun e2 f=>⟨pr,pl,R.c,p,mV,by rw[hp];rfl,⟨by simp [bT]⟩,Nx.mk' ⟨i+1,hlt,hz⟩ (by
     have eh:tks R L.cur I Q (i+1)=tks R L.cur I Q i++[kS R p (aZ R)[i]]:=by rw[yW hlt];simp [kh,rj,hp,show ij I [(aZ R)[i]] 0=true by simpa using e1,show ij Q [(aZ R)[i]] 0=false by simpa using e2]
     simp only[wz]
     simp [eh,cT,bV,je,kZ,kS,gl,mG,p_,fP,dn,ints,gE]
     try rfl) (by show(aZ R).length - (i+1)<(aZ R).length - i;omega)⟩,fun e2=>Nx.mk' ⟨i+1,hlt,hz⟩ (by
     have eh:tks R L.cur I Q (i+1)=tks R L.cur I Q i++[]:=by rw[yW hlt];simp [kh,rj,hp,show ij I [(aZ R)[i]] 0=true by simpa using e1,show ij Q [(aZ R)[i]] 0=true by simpa using e2]
     simp only[wz]
     simp [eh,cT,bV,je,kZ,kS,gl,mG,p_,fP,dn,ints,gE]
     try rfl) (by show(aZ R).length - (i+1)<(aZ R).length - i;omega)⟩,fun f=>(by rw[hp]at f;cases f)⟩
  ·have hi2:i=(aZ R).length:=by
    have:¬ i<(aZ R).length:=by simpa using hlt
    omega
   subst hi2
   refine fin (afA hl hz) ?_
   unfold aF
   simp only[hl]
   refine⟨I,Q,T,hI,hQ,hT,?_⟩
   have e2:tks R L.cur I Q (aZ R).length=(aZ R).flatMap (kh R L):=by unfold tks;rw[cM,aav hI hQ rfl]
   simp [cR,cT,e2]
def Vy:aE:=fun args kb K=>∃ R,args=[aj 0 0]/\aF R kb/\dw R/\0<=R.ti/\R.ti<=2199023255552/\R.out.length+(aZ R).length<=100000/\∀ kb',aF (gm R) kb'->K (.υ []) kb'
theorem acF:fZ Tryz.prog 29 Vy:=uh mixed 13 eI (fun args kb K h=>by
 obtain⟨R,rfl,hkb,hR,h0,h1,hroom,hK⟩:=h
 have iP:=hkb
 unfold aF at hkb
 split at hkb
 ·rename_i hl
  obtain⟨ο,π,T,hT,rfl⟩:=hkb
  exact⟨_,_,Mq,afH R T ο π hT hl hR h0 h1 hroom K hK⟩
 ·rename_i L hl
  obtain⟨I,Q,T,hI,hQ,hT,rfl⟩:=hkb
  exact⟨_,_,Mq,afG R T I Q L hT hl hI hQ hR h0 h1 hroom K hK⟩)
def rK:FuncId->Option dA
 | 49=>some ⟨[],ee [true,true,true,true,true,true,false,true,true,true,true,true,true,true,true,true,true,true,true,true,true,true] wY⟩
 |_=>none
noncomputable def pS:bJ:=dG Tryz.prog rK aG 10
abbrev MX:=fun(R:κ) mr (K:V->KB->Prop)=>(
 nO R<=(nO R)/\
 K (aD (ψ 5 (ay 0 (az (nO R) (φ bV R.out))))) mr
 :Prop)
theorem ag6 (R:κ) (T:ML) (ο π:Value) (K:V->KB->Prop) (an:
 MX R [cR R (ae T) (θ false) (γ ο) (γ π) (aP none) (δ 1 0 0) (δ 2 0 (nD R)),ξ 107 5 [],rD R] K
 ):aI Tryz.prog X0 (aG 46) 46 [aj 0 0] [cR R (ae T) (θ false) (γ ο) (γ π) (.aa none) (.sl 1 0 (nO R)) (.sl 2 0 (nD R)),rO R,rD R] (jE [.fe 5] (eZ [.cell 0 147 107 5] (eQ K))):=by apply Eq.mp (a:=an);kernel_rfl
theorem ag5 (R:κ) (T:ML) (I Q:ML) (u:Option (List D)) (K:V->KB->Prop) (an:
 MX R [cR R (ae T) (θ true) (aX 1) (aX 2) (aP u) (δ 3 0 0) (δ 4 0 (nD R)),ai I,ai Q,ξ 107 5 [],rD R] K
 ):aI Tryz.prog X0 (aG 46) 46 [aj 0 0] [cR R (ae T) (θ true) (.mp 1) (.mp 2) (.aa u) (.sl 3 0 (nO R)) (.sl 4 0 (nD R)),ai I,ai Q,rO R,rD R] (jE [.fe 5] (eZ [.cell 0 147 107 5] (eQ K))):=by apply Eq.mp (a:=an);kernel_rfl
abbrev MU:=fun(R:κ) mr (K:V->KB->Prop)=>(
 nD R<=(nD R)/\
 K (aD (ψ 7 (ay 0 (az (nD R) (φ du R.done))))) mr
 :Prop)
theorem agt (R:κ) (T:ML) (ο π:Value) (K:V->KB->Prop) (an:
 MU R [cR R (ae T) (θ false) (γ ο) (γ π) (aP none) (δ 1 0 (nO R)) (δ 2 0 0),rO R,ξ 70 7 []] K
 ):aI Tryz.prog X0 (aG 24) 24 [aj 0 0] [cR R (ae T) (θ false) (γ ο) (γ π) (.aa none) (.sl 1 0 (nO R)) (.sl 2 0 (nD R)),rO R,rD R] (jE [.fe 7] (eZ [.cell 0 148 70 7] (eQ K))):=by apply Eq.mp (a:=an);kernel_rfl
theorem ags (R:κ) (T:ML) (I Q:ML) (u:Option (List D)) (K:V->KB->Prop) (an:
 MU R [cR R (ae T) (θ true) (aX 1) (aX 2) (aP u) (δ 3 0 (nO R)) (δ 4 0 0),ai I,ai Q,rO R,ξ 70 7 []] K
 ):aI Tryz.prog X0 (aG 24) 24 [aj 0 0] [cR R (ae T) (θ true) (.mp 1) (.mp 2) (.aa u) (.sl 3 0 (nO R)) (.sl 4 0 (nD R)),ai I,ai Q,rO R,rD R] (jE [.fe 7] (eZ [.cell 0 148 70 7] (eQ K))):=by apply Eq.mp (a:=an);kernel_rfl
abbrev MT:=fun(R:κ) mr (K:V->KB->Prop)=>(
 K (θ R.ch) mr
 :Prop)
theorem aga (R:κ) (T:ML) (ο π:Value) (K:V->KB->Prop) (an:
 MT R [cS R (ε Z R.nu) (bB 128 (aU ι R.c)) (θ false) (ae T) (θ false) (γ ο) (γ π) (aP none) (δ 1 0 (nO R)) (δ 2 0 (nD R)),rO R,rD R] K
 ):aI Tryz.prog X0 (aG 25) 25 [aj 0 0] [cR R (ae T) (θ false) (γ ο) (γ π) (.aa none) (.sl 1 0 (nO R)) (.sl 2 0 (nD R)),rO R,rD R] (eQ K):=by apply Eq.mp (a:=an);kernel_rfl
theorem af_ (R:κ) (T:ML) (I Q:ML) (u:Option (List D)) (K:V->KB->Prop) (an:
 MT R [cS R (ε Z R.nu) (bB 128 (aU ι R.c)) (θ false) (ae T) (θ true) (aX 1) (aX 2) (aP u) (δ 3 0 (nO R)) (δ 4 0 (nD R)),ai I,ai Q,rO R,rD R] K
 ):aI Tryz.prog X0 (aG 25) 25 [aj 0 0] [cR R (ae T) (θ true) (.mp 1) (.mp 2) (.aa u) (.sl 3 0 (nO R)) (.sl 4 0 (nD R)),ai I,ai Q,rO R,rD R] (eQ K):=by apply Eq.mp (a:=an);kernel_rfl
abbrev MV:=fun(R:κ) mr (K:V->KB->Prop)=>(
 K (aw [ε Z R.ep,ε Z R.nu]) mr
 :Prop)
theorem agw (R:κ) (T:ML) (ο π:Value) (K:V->KB->Prop) (an:
 MV R [cR R (ae T) (θ false) (γ ο) (γ π) (aP none) (δ 1 0 (nO R)) (δ 2 0 (nD R)),rO R,rD R] K
 ):aI Tryz.prog X0 (aG 13) 13 [aj 0 0] [cR R (ae T) (θ false) (γ ο) (γ π) (.aa none) (.sl 1 0 (nO R)) (.sl 2 0 (nD R)),rO R,rD R] (eQ K):=by apply Eq.mp (a:=an);kernel_rfl
theorem agv (R:κ) (T:ML) (I Q:ML) (u:Option (List D)) (K:V->KB->Prop) (an:
 MV R [cR R (ae T) (θ true) (aX 1) (aX 2) (aP u) (δ 3 0 (nO R)) (δ 4 0 (nD R)),ai I,ai Q,rO R,rD R] K
 ):aI Tryz.prog X0 (aG 13) 13 [aj 0 0] [cR R (ae T) (θ true) (.mp 1) (.mp 2) (.aa u) (.sl 3 0 (nO R)) (.sl 4 0 (nD R)),ai I,ai Q,rO R,rD R] (eQ K):=by apply Eq.mp (a:=an);kernel_rfl
abbrev MY:=fun(R:κ) (mr:(List Int)->_) (K:V->KB->Prop)=>(
 ∀(y1:Nat->
 Value),∃(y2:List Int),aU ι R.c=aU ι y2/\
 y2.length=128/\
 (∀(y3:Int),dS y3 y2->
 0<=y3/\
 y3<256)/\
 bu y1 [0,1,2,3,4,5,7,8,9,10,11,12,13,14,15,16,17,18,19,20,21]/\
 K (ε ic (dZ y2)) (mr y2)
 :Prop)
theorem ahq (R:κ) (T:ML) (ο π:Value) (K:V->KB->Prop) (an:
 MY R (fun y2=>[cS R (ε Z R.nu) (bB 128 (aU ι y2)) (θ R.ch) (ae T) (θ false) (γ ο) (γ π) (aP none) (δ 1 0 (nO R)) (δ 2 0 (nD R)),rO R,rD R]) K
 ):aI Tryz.prog pS (aG 18) 18 [aj 0 0] [cR R (ae T) (θ false) (γ ο) (γ π) (.aa none) (.sl 1 0 (nO R)) (.sl 2 0 (nD R)),rO R,rD R] (eQ K):=by apply Eq.mp (a:=an);kernel_rfl
theorem ahp (R:κ) (T:ML) (I Q:ML) (u:Option (List D)) (K:V->KB->Prop) (an:
 MY R (fun y2=>[cS R (ε Z R.nu) (bB 128 (aU ι y2)) (θ R.ch) (ae T) (θ true) (aX 1) (aX 2) (aP u) (δ 3 0 (nO R)) (δ 4 0 (nD R)),ai I,ai Q,rO R,rD R]) K
 ):aI Tryz.prog pS (aG 18) 18 [aj 0 0] [cR R (ae T) (θ true) (.mp 1) (.mp 2) (.aa u) (.sl 3 0 (nO R)) (.sl 4 0 (nD R)),ai I,ai Q,rO R,rD R] (eQ K):=by apply Eq.mp (a:=an);kernel_rfl
theorem agO (R:κ) (T:ML) (ο π:Value) (K:V->KB->Prop) (an:
 ∀(y1:Nat->
 Value),false=false/\
 bu y1 [0,1,2,3,4,5,7,8,9,10,11,12,14,15,17,18,19,20,21]/\
 K (aw [θ false,θ false,θ false]) [cR R (ae T) (θ false) (γ ο) (γ π) (aP none) (δ 1 0 (nO R)) (δ 2 0 (nD R)),rO R,rD R]
 ):ee [true,true,true,true,true,true,false,true,true,true,true,true,true,false,true,true,false,true,true,true,true,true] qF [aj 0 0] [cR R (ae T) (θ false) (γ ο) (γ π) (.aa none) (.sl 1 0 (nO R)) (.sl 2 0 (nD R)),rO R,rD R] (eQ K):=by apply Eq.mp (a:=an);kernel_rfl
theorem agN (R:κ) (T:ML) (I Q:ML) (u:Option (List D)) (K:V->KB->Prop) (an:
 ∀(y1:Nat->
 Value),∃(y2:List Int),∃(y3:List Int),ints Z R.v.mem=ints Z y2/\
 ints Z R.v.aM=ints Z y3/\
 dE (y2.length+y3.length)/\
 lp I/\
 true=true/\
 bu y1 [1,2,3,4,5,7,8,9,10,15,17,18,19,20,21]/\
 K (aw [θ true,θ (allI R.me y2 y3 I),θ !u.isNone]) [cR R (ae T) (θ true) (aX 1) (aX 2) (aP u) (δ 3 0 (nO R)) (δ 4 0 (nD R)),ai I,ai Q,rO R,rD R]
 ):ee [false,true,true,true,true,true,false,true,true,true,true,false,false,false,false,true,false,true,true,true,true,true] qF [aj 0 0] [cR R (ae T) (θ true) (.mp 1) (.mp 2) (.aa u) (.sl 3 0 (nO R)) (.sl 4 0 (nD R)),ai I,ai Q,rO R,rD R] (eQ K):=by apply Eq.mp (a:=an);kernel_rfl
theorem Ik {P:Program} (hm:P.follows .mixedOrders=true) (ms:List Vc.Mode) (ds:List jz) {f:FuncId} {S:aE} (h:∀ args kb K,S args kb K->∃(X:bJ) (T:Nat->Option LI),bZ P X/\aI P X T f args kb (jE ms (eZ ds (eQ K)))):fZ P f S:=
 Ij (Iz (OC (wn hm (S:=fun a k K0=>∃ X T,bZ P X/\aI P X T f a k K0) fun _ _ _ h=>h) ms) ds) h
def VC:aE:=fun args kb K=>∃ ms,ee ms qF args kb K
theorem VD:aN Tryz.prog 14 VC:=fun args kb K ⟨ms,h⟩=>fm I2 ms args kb K h
theorem yP:dF Tryz.prog rK:=fun f k h=>by
 unfold rK at h
 split at h
 ·cases h;exact fm I1 _
 ·cases h
theorem u7:bZ Tryz.prog pS:=dI mixed yP aG 10
theorem adL (R:κ) (T:ML) (ο π:Value) (hT:bI T R.t) (hl:R.ld=none) (hR:dw R) (K:V->KB->Prop) (hK:∀ kb',aF {R with out:=[] } kb'->K (aD (.sl 5 (R.out.map bV))) kb'):aI Tryz.prog X0 (aG 46) 46 [aj 0 0] [cR R (ae T) (θ false) (γ ο) (γ π) (.aa none) (.sl 1 0 (nO R)) (.sl 2 0 (nD R)),rO R,rD R] (jE [.fe 5] (eZ [.cell 0 147 107 5] (eQ K))):=by
 have fin:∀{kb'},aF {R with out:=[] } kb'->∀{r},r=(aD (.sl 5 (R.out.map bV)))->K r kb':=fun h r e=>e ▸ hK _ h
 refine ag6 R T ο π K ⟨av _,fin ?_ (by rw[g_,eM (av _)])⟩
 unfold aF
 simp only[hl]
 exact⟨ο,π,T,hT,rfl⟩
theorem adK (R:κ) (T:ML) (I Q:ML) (L:de) (hT:bI T R.t) (hl:R.ld=some L) (hI:MB I L.ins) (hQ:MB Q L.cN) (hR:dw R) (K:V->KB->Prop) (hK:∀ kb',aF {R with out:=[] } kb'->K (aD (.sl 5 (R.out.map bV))) kb'):aI Tryz.prog X0 (aG 46) 46 [aj 0 0] [cR R (ae T) (θ true) (.mp 1) (.mp 2) (.aa (L.cur.map bo)) (.sl 3 0 (nO R)) (.sl 4 0 (nD R)),ai I,ai Q,rO R,rD R] (jE [.fe 5] (eZ [.cell 0 147 107 5] (eQ K))):=by
 have fin:∀{kb'},aF {R with out:=[] } kb'->∀{r},r=(aD (.sl 5 (R.out.map bV)))->K r kb':=fun h r e=>e ▸ hK _ h
 refine ag5 R T I Q (L.cur.map bo) K ⟨av _,fin ?_ (by rw[g_,eM (av _)])⟩
 unfold aF
 simp only[hl]
 exact⟨I,Q,T,hI,hQ,hT,rfl⟩
def Vr:aE:=fun args kb K=>∃ R,args=[aj 0 0]/\aF R kb/\dw R/\∀ kb',aF {R with out:=[] } kb'->K (aD (.sl 5 (R.out.map bV))) kb'
set_option maxHeartbeats 4000000 in
theorem ab4:fZ Tryz.prog 46 Vr:=Ik mixed [.fe 5] [.cell 0 147 107 5] (fun args kb K h=>by
 obtain⟨R,rfl,hkb,hR,hK⟩:=h
 have iP:=hkb
 unfold aF at hkb
 split at hkb
 ·rename_i hl
  obtain⟨ο,π,T,hT,rfl⟩:=hkb
  exact⟨_,_,fN,adL R T ο π hT hl hR K hK⟩
 ·rename_i L hl
  obtain⟨I,Q,T,hI,hQ,hT,rfl⟩:=hkb
  exact⟨_,_,fN,adK R T I Q L hT hl hI hQ hR K hK⟩)
theorem adE (R:κ) (T:ML) (ο π:Value) (hT:bI T R.t) (hl:R.ld=none) (hR:dw R) (K:V->KB->Prop) (hK:∀ kb',aF {R with done:=[] } kb'->K (aD (.sl 7 (R.done.map du))) kb'):aI Tryz.prog X0 (aG 24) 24 [aj 0 0] [cR R (ae T) (θ false) (γ ο) (γ π) (.aa none) (.sl 1 0 (nO R)) (.sl 2 0 (nD R)),rO R,rD R] (jE [.fe 7] (eZ [.cell 0 148 70 7] (eQ K))):=by
 have fin:∀{kb'},aF {R with done:=[] } kb'->∀{r},r=(aD (.sl 7 (R.done.map du)))->K r kb':=fun h r e=>e ▸ hK _ h
 refine agt R T ο π K ⟨av _,fin ?_ (by rw[g_,eM (av _)])⟩
 unfold aF
 simp only[hl]
 exact⟨ο,π,T,hT,rfl⟩
theorem adD (R:κ) (T:ML) (I Q:ML) (L:de) (hT:bI T R.t) (hl:R.ld=some L) (hI:MB I L.ins) (hQ:MB Q L.cN) (hR:dw R) (K:V->KB->Prop) (hK:∀ kb',aF {R with done:=[] } kb'->K (aD (.sl 7 (R.done.map du))) kb'):aI Tryz.prog X0 (aG 24) 24 [aj 0 0] [cR R (ae T) (θ true) (.mp 1) (.mp 2) (.aa (L.cur.map bo)) (.sl 3 0 (nO R)) (.sl 4 0 (nD R)),ai I,ai Q,rO R,rD R] (jE [.fe 7] (eZ [.cell 0 148 70 7] (eQ K))):=by
 have fin:∀{kb'},aF {R with done:=[] } kb'->∀{r},r=(aD (.sl 7 (R.done.map du)))->K r kb':=fun h r e=>e ▸ hK _ h
 refine ags R T I Q (L.cur.map bo) K ⟨av _,fin ?_ (by rw[g_,eM (av _)])⟩
 unfold aF
 simp only[hl]
 exact⟨I,Q,T,hI,hQ,hT,rfl⟩
def Vl:aE:=fun args kb K=>∃ R,args=[aj 0 0]/\aF R kb/\dw R/\∀ kb',aF {R with done:=[] } kb'->K (aD (.sl 7 (R.done.map du))) kb'
set_option maxHeartbeats 4000000 in
theorem abv:fZ Tryz.prog 24 Vl:=Ik mixed [.fe 7] [.cell 0 148 70 7] (fun args kb K h=>by
 obtain⟨R,rfl,hkb,hR,hK⟩:=h
 have iP:=hkb
 unfold aF at hkb
 split at hkb
 ·rename_i hl
  obtain⟨ο,π,T,hT,rfl⟩:=hkb
  exact⟨_,_,fN,adE R T ο π hT hl hR K hK⟩
 ·rename_i L hl
  obtain⟨I,Q,T,hI,hQ,hT,rfl⟩:=hkb
  exact⟨_,_,fN,adD R T I Q L hT hl hI hQ hR K hK⟩)
theorem adC (R:κ) (T:ML) (ο π:Value) (hT:bI T R.t) (hl:R.ld=none) (hR:dw R) (K:V->KB->Prop) (hK:∀ kb',aF {R with ch:=false } kb'->K (θ R.ch) kb'):aI Tryz.prog X0 (aG 25) 25 [aj 0 0] [cR R (ae T) (θ false) (γ ο) (γ π) (.aa none) (.sl 1 0 (nO R)) (.sl 2 0 (nD R)),rO R,rD R] (eQ K):=by
 have fin:∀{kb'},aF {R with ch:=false } kb'->∀{r},r=(θ R.ch)->K r kb':=fun h r e=>e ▸ hK _ h
 refine aga R T ο π K (fin ?_ rfl)
 unfold aF
 simp only[hl]
 exact⟨ο,π,T,hT,rfl⟩
theorem adB (R:κ) (T:ML) (I Q:ML) (L:de) (hT:bI T R.t) (hl:R.ld=some L) (hI:MB I L.ins) (hQ:MB Q L.cN) (hR:dw R) (K:V->KB->Prop) (hK:∀ kb',aF {R with ch:=false } kb'->K (θ R.ch) kb'):aI Tryz.prog X0 (aG 25) 25 [aj 0 0] [cR R (ae T) (θ true) (.mp 1) (.mp 2) (.aa (L.cur.map bo)) (.sl 3 0 (nO R)) (.sl 4 0 (nD R)),ai I,ai Q,rO R,rD R] (eQ K):=by
 have fin:∀{kb'},aF {R with ch:=false } kb'->∀{r},r=(θ R.ch)->K r kb':=fun h r e=>e ▸ hK _ h
 refine af_ R T I Q (L.cur.map bo) K (fin ?_ rfl)
 unfold aF
 simp only[hl]
 exact⟨I,Q,T,hI,hQ,hT,rfl⟩
def Vk:aE:=fun args kb K=>∃ R,args=[aj 0 0]/\aF R kb/\dw R/\∀ kb',aF {R with ch:=false } kb'->K (θ R.ch) kb'
set_option maxHeartbeats 4000000 in
theorem abi:fZ Tryz.prog 25 Vk:=BU mixed (fun args kb K h=>by
 obtain⟨R,rfl,hkb,hR,hK⟩:=h
 have iP:=hkb
 unfold aF at hkb
 split at hkb
 ·rename_i hl
  obtain⟨ο,π,T,hT,rfl⟩:=hkb
  exact⟨_,_,fN,adC R T ο π hT hl hR K hK⟩
 ·rename_i L hl
  obtain⟨I,Q,T,hI,hQ,hT,rfl⟩:=hkb
  exact⟨_,_,fN,adB R T I Q L hT hl hI hQ hR K hK⟩)
theorem adG (R:κ) (T:ML) (ο π:Value) (hT:bI T R.t) (hl:R.ld=none) (hR:dw R) (K:V->KB->Prop) (hK:∀ kb',aF R kb'->K (.υ [.int Z R.ep,.int Z R.nu]) kb'):aI Tryz.prog X0 (aG 13) 13 [aj 0 0] [cR R (ae T) (θ false) (γ ο) (γ π) (.aa none) (.sl 1 0 (nO R)) (.sl 2 0 (nD R)),rO R,rD R] (eQ K):=by
 have fin:∀{kb'},aF R kb'->∀{r},r=(.υ [.int Z R.ep,.int Z R.nu])->K r kb':=fun h r e=>e ▸ hK _ h
 refine agw R T ο π K (fin ?_ rfl)
 unfold aF
 simp only[hl]
 exact⟨ο,π,T,hT,rfl⟩
theorem adF (R:κ) (T:ML) (I Q:ML) (L:de) (hT:bI T R.t) (hl:R.ld=some L) (hI:MB I L.ins) (hQ:MB Q L.cN) (hR:dw R) (K:V->KB->Prop) (hK:∀ kb',aF R kb'->K (.υ [.int Z R.ep,.int Z R.nu]) kb'):aI Tryz.prog X0 (aG 13) 13 [aj 0 0] [cR R (ae T) (θ true) (.mp 1) (.mp 2) (.aa (L.cur.map bo)) (.sl 3 0 (nO R)) (.sl 4 0 (nD R)),ai I,ai Q,rO R,rD R] (eQ K):=by
 have fin:∀{kb'},aF R kb'->∀{r},r=(.υ [.int Z R.ep,.int Z R.nu])->K r kb':=fun h r e=>e ▸ hK _ h
 refine agv R T I Q (L.cur.map bo) K (fin ?_ rfl)
 unfold aF
 simp only[hl]
 exact⟨I,Q,T,hI,hQ,hT,rfl⟩
def Vm:aE:=fun args kb K=>∃ R,args=[aj 0 0]/\aF R kb/\dw R/\∀ kb',aF R kb'->K (.υ [.int Z R.ep,.int Z R.nu]) kb'
set_option maxHeartbeats 4000000 in
theorem abx:fZ Tryz.prog 13 Vm:=BU mixed (fun args kb K h=>by
 obtain⟨R,rfl,hkb,hR,hK⟩:=h
 have iP:=hkb
 unfold aF at hkb
 split at hkb
 ·rename_i hl
  obtain⟨ο,π,T,hT,rfl⟩:=hkb
  exact⟨_,_,fN,adG R T ο π hT hl hR K hK⟩
 ·rename_i L hl
  obtain⟨I,Q,T,hI,hQ,hT,rfl⟩:=hkb
  exact⟨_,_,fN,adF R T I Q L hT hl hI hQ hR K hK⟩)
theorem adN (R:κ) (T:ML) (ο π:Value) (hT:bI T R.t) (hl:R.ld=none) (hR:dw R) (K:V->KB->Prop) (hK:∀ kb',aF R kb'->K (.int ic (dZ R.c)) kb'):aI Tryz.prog pS (aG 18) 18 [aj 0 0] [cR R (ae T) (θ false) (γ ο) (γ π) (.aa none) (.sl 1 0 (nO R)) (.sl 2 0 (nD R)),rO R,rD R] (eQ K):=by
 have fin:∀{kb'},aF R kb'->∀{r},r=(.int ic (dZ R.c))->K r kb':=fun h r e=>e ▸ hK _ h
 refine ahq R T ο π K fun f=>⟨R.c,rfl,hR.cl,fun c h=>hR.cb c h,⟨by simp [bT]⟩,fin ?_ rfl⟩
 unfold aF
 simp only[hl]
 exact⟨ο,π,T,hT,rfl⟩
theorem adM (R:κ) (T:ML) (I Q:ML) (L:de) (hT:bI T R.t) (hl:R.ld=some L) (hI:MB I L.ins) (hQ:MB Q L.cN) (hR:dw R) (K:V->KB->Prop) (hK:∀ kb',aF R kb'->K (.int ic (dZ R.c)) kb'):aI Tryz.prog pS (aG 18) 18 [aj 0 0] [cR R (ae T) (θ true) (.mp 1) (.mp 2) (.aa (L.cur.map bo)) (.sl 3 0 (nO R)) (.sl 4 0 (nD R)),ai I,ai Q,rO R,rD R] (eQ K):=by
 have fin:∀{kb'},aF R kb'->∀{r},r=(.int ic (dZ R.c))->K r kb':=fun h r e=>e ▸ hK _ h
 refine ahp R T I Q (L.cur.map bo) K fun f=>⟨R.c,rfl,hR.cl,fun c h=>hR.cb c h,⟨by simp [bT]⟩,fin ?_ rfl⟩
 unfold aF
 simp only[hl]
 exact⟨I,Q,T,hI,hQ,hT,rfl⟩
def Vu:aE:=fun args kb K=>∃ R,args=[aj 0 0]/\aF R kb/\dw R/\∀ kb',aF R kb'->K (.int ic (dZ R.c)) kb'
set_option maxHeartbeats 4000000 in
theorem acA:fZ Tryz.prog 18 Vu:=BU mixed (fun args kb K h=>by
 obtain⟨R,rfl,hkb,hR,hK⟩:=h
 have iP:=hkb
 unfold aF at hkb
 split at hkb
 ·rename_i hl
  obtain⟨ο,π,T,hT,rfl⟩:=hkb
  exact⟨_,_,u7,adN R T ο π hT hl hR K hK⟩
 ·rename_i L hl
  obtain⟨I,Q,T,hI,hQ,hT,rfl⟩:=hkb
  exact⟨_,_,u7,adM R T I Q L hT hl hI hQ hR K hK⟩)
theorem adI (R:κ) (T:ML) (ο π:Value) (hT:bI T R.t) (hl:R.ld=none) (hR:dw R) (K:V->KB->Prop) (hK:∀ kb',aF R kb'->K (.υ [θ (fp R),θ (gW R),θ (lX R)]) kb'):ee [true,true,true,true,true,true,false,true,true,true,true,true,true,false,true,true,false,true,true,true,true,true] qF [aj 0 0] [cR R (ae T) (θ false) (γ ο) (γ π) (.aa none) (.sl 1 0 (nO R)) (.sl 2 0 (nD R)),rO R,rD R] (eQ K):=by
 have fin:∀{kb'},aF R kb'->∀{r},r=(.υ [θ (fp R),θ (gW R),θ (lX R)])->K r kb':=fun h r e=>e ▸ hK _ h
 refine agO R T ο π K fun f=>⟨rfl,⟨by simp [bT]⟩,fin ?_ (by simp [fp,gW,lX,cw,hl])⟩
 unfold aF
 simp only[hl]
 exact⟨ο,π,T,hT,rfl⟩
theorem adH (R:κ) (T:ML) (I Q:ML) (L:de) (hT:bI T R.t) (hl:R.ld=some L) (hI:MB I L.ins) (hQ:MB Q L.cN) (hR:dw R) (K:V->KB->Prop) (hK:∀ kb',aF R kb'->K (.υ [θ (fp R),θ (gW R),θ (lX R)]) kb'):ee [false,true,true,true,true,true,false,true,true,true,true,false,false,false,false,true,false,true,true,true,true,true] qF [aj 0 0] [cR R (ae T) (θ true) (.mp 1) (.mp 2) (.aa (L.cur.map bo)) (.sl 3 0 (nO R)) (.sl 4 0 (nD R)),ai I,ai Q,rO R,rD R] (eQ K):=by
 have fin:∀{kb'},aF R kb'->∀{r},r=(.υ [θ (fp R),θ (gW R),θ (lX R)])->K r kb':=fun h r e=>e ▸ hK _ h
 refine agN R T I Q (L.cur.map bo) K fun f=>⟨R.v.mem,R.v.aM,rfl,rfl,⟨by have:=hR.vl;omega⟩,hI.b,rfl,⟨by simp [bT]⟩,fin ?_ (by simp [fp,gW,lX,cw,hl,r9 hI,aZ])⟩
 unfold aF
 simp only[hl]
 exact⟨I,Q,T,hI,hQ,hT,rfl⟩
def Vo:aE:=fun args kb K=>∃ R,args=[aj 0 0]/\aF R kb/\dw R/\∀ kb',aF R kb'->K (.υ [θ (fp R),θ (gW R),θ (lX R)]) kb'
set_option maxHeartbeats 4000000 in
theorem abO:fZ Tryz.prog 14 Vo:=Ij VD (fun args kb K h=>by
 obtain⟨R,rfl,hkb,hR,hK⟩:=h
 have iP:=hkb
 unfold aF at hkb
 split at hkb
 ·rename_i hl
  obtain⟨ο,π,T,hT,rfl⟩:=hkb
  exact⟨_,adI R T ο π hT hl hR K hK⟩
 ·rename_i L hl
  obtain⟨I,Q,T,hI,hQ,hT,rfl⟩:=hkb
  exact⟨_,adH R T I Q L hT hl hI hQ hR K hK⟩)
end Go.Proofs.YtfcjngcnifdmnaaGreat
