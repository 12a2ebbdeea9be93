import Derived.Test.YtfcjngcnifdmnaaGreatQg
import Derived.KernelRfl
namespace Go.Proofs.YtfcjngcnifdmnaaGreat.Hy
open Vc Go
open Go.IntKind renaming i64->Z,u8->ι,u32->ic
open Vc.V renaming any->γ,sl->δ,int->ε,sb->θ,ptr->aj,υ->aw,dat->aD,aa->aP,mp->aX,arr->bB,agg->fF
open Vc.D renaming val->ζ,sl->ψ
open Go.Value renaming int->ν,map->kq,oneCell'->lU,bool->nE
open Vc.KO renaming row->ξ,dead->χ,cells->ar,objs->cD
open List renaming map->φ,drop->ay,take->az,length_append->bn,getElem?_eq_getElem->bp,getElem?_eq_some_iff->bG,length_map->bX,take_length->cM,length_take->cQ,replicate->dq,mem_append->dM,append_assoc->dO,getElem?_append_left->dP,mem_singleton->dQ,Mem->dS,mem_cons->ey,mem_map->eL,take_of_length_le->eM,getElem?_append_right->eW,mem_of_getElem?->fi,append_nil->fD,getElem?_map->fE,mem_cons_of_mem->fM,length_drop->fQ,getElem?_set_ne->gr,getD_eq_getElem?_getD->gD,getElem?_eq_none->gO,drop_zero->g_,getElem?_take_of_lt->hU,getElem?_set_self->ig,length_singleton->ii,length_set->ir,mem_cons_self->iu,range->iw,mem_append_left->iL,length_cons->iZ,take_add_one->i_,flatten_cons->jm,getElem?_drop->jw,getElem?_of_mem->jx,map_append->jy,nil_append->jV,length_nil->kn,mem_filter->kM,ext_getElem?->lw,eq_nil_of_length_eq_zero->ma,map_cons->mb,mem_append_right->mc
open Nat renaming le_refl->av,zero_le->bt,beq->cp,eq_of_beq_eq_true->cU,zero_add->c9,add_assoc->gE,lor->iy,lt_or_ge->jX,sub_zero->lT,le_trans->mf
open Option renaming some->bb,bind_eq_some_iff->kP,map->mO
open Int renaming toNat_natCast->cP,le_refl->fa
open Bool renaming and_eq_true->km,not_eq_false'->lm,not_eq_true'->lR
set_option linter.unusedVariables false
set_option linter.unusedSimpArgs false
set_option maxRecDepth 100000
abbrev nz (r:List Nat):List Int:=r.map (fun(k:Nat)=>(k:Int))
def rY (l:List Call):Prop:=∀ c∈l,dV c
def tv (l:List Call) (o:List Int):Prop:=∃ r:List Nat,o=nz r/\w_ l r
structure uV (l:List Call) (o:List Int) (p:Nat×Int):Prop where
 le:p.1<=o.length
 run:∃ r:List Nat,o.take p.1=nz r/\(∀ x∈r,x<l.length)/\(rY l->∀ s,mP l [] 0 (r++s) ↔ mP l r p.2 s)
abbrev ca (o:List Int) (i:Nat):Int:=o.getD i 0
structure oZ (l:List Call) (o:List Int) (p:Nat×Int):Prop where
 lt:p.1<o.length
 lo:0<=ca o p.1
 hi:ca o p.1<l.length
 new:ca o p.1 ∉ o.take p.1
 ok:rY l->¬ rS (be l (ca o p.1).toNat)/\jD (be l (ca o p.1).toNat) p.2
abbrev Sz (l:List Call) (o:List Int) (p:Nat×Int):LI where
 α:={q:Nat // q=0/\oZ l o p}
 live:=[0,1,5,6,7]
 st q:=([aD (.sl 4 (l.map bL)),aD (.sl 1 (ints Z o)),.int Z p.2,.int Z (p.1:Int),.int Z (ca o p.1)],[])
 μ q:=0
def yo (c:Call) (v:Int):Int:=if c.1=1 then c.2.1 else v
abbrev Jx (l:List Call) (o:List Int) (p:Nat×Int):LI where
 α:={q:Nat // q=0/\oZ l o p}
 live:=[0,1,5,6,7]
 st q:=([aD (.sl 4 (l.map bL)),aD (.sl 1 (ints Z o)),.int Z (yo (be l (ca o p.1).toNat) p.2),.int Z (p.1:Int),.int Z (ca o p.1)],[])
 μ q:=0
abbrev Jw (l:List Call) (o:List Int) (p:Nat×Int):LI where
 α:={q:Nat // q=0/\oZ l o p}
 live:=[0,1,5,6,7]
 st q:=([aD (.sl 4 (l.map bL)),aD (.sl 1 (ints Z o)),.int Z (jK (be l (ca o p.1).toNat) p.2),.int Z (p.1:Int),.int Z (ca o p.1)],[])
 μ q:=0
abbrev Cu (l:List Call) (o:List Int) (p:Nat×Int):LI where
 α:={j:Nat // j<=p.1/\oZ l o p/\∀ x,x<j->¬ iM (be l (ca o p.1).toNat) (be l (ca o x).toNat)}
 live:=[0,1,5,6,7,8]
 st j:=([aD (.sl 4 (l.map bL)),aD (.sl 1 (ints Z o)),.int Z (jK (be l (ca o p.1).toNat) p.2),.int Z (p.1:Int),.int Z (ca o p.1),.int Z (j.1:Int)],[])
 μ j:=p.1 - j.1
abbrev Jy (l:List Call) (o:List Int):LI where
 α:={p:Nat×Int // uV l o p}
 live:=[0,1,5,6]
 st p:=([aD (.sl 4 (l.map bL)),aD (.sl 1 (ints Z o)),.int Z p.1.2,.int Z (p.1.1:Int)],[])
 μ p:=o.length - p.1.1
 sub p r:=match r with
  | 1010=>some (Sz l o p.1)
  | 1012=>some (Jx l o p.1)
  | 1014=>some (Jw l o p.1)
  | 15=>some (Cu l o p.1)
  |_=>none
abbrev Ct (l:List Call) (o:List Int):LI where
 α:={k:Nat // k<=l.length/\(∃ r:List Nat,o=nz r/\(rY l->mP l [] 0 r))/\∀ x,x<k->dV (be l x)/\((be l x).2.2.2≠-1->(x:Int)∈o)}
 live:=[0,1,9]
 st k:=([aD (.sl 4 (l.map bL)),aD (.sl 1 (ints Z o)),.int Z (k.1:Int)],[])
 μ k:=l.length - k.1
def SC (l:List Call) (o:List Int):FuncId->Nat->Option LI
 | 51,3=>some (Jy l o)
 | 51,20=>some (Ct l o)
 |_,_=>none
structure LF (l:List Call) (o:List Int):Prop where
 l1:l.length<=1000
 l2:o.length<=1000
def Ea:aE:=fun args kb K=>match args,kb with
 | [aD (.sl 4 L),aD (.sl 1 O)],[]=>∃(l:List Call) (o:List Int),L=l.map bL/\O=ints Z o/\LF l o/\∀ b:Bool,(b=true ↔ tv l o)->K (θ b) []
 |_,_=>False
structure L0 (l:List Call) (b:Bool) (o:List Int):Prop where
 t:b=true->tv l o
 f:b=false->o=[]/\(14<l.length∨¬ ∃ r,w_ l r)
def EB:aE:=fun args kb K=>match args,kb with
 | [aD (.sl 4 L)],[]=>∃ l:List Call,L=l.map bL/\l.length<=1000/\∀ b o t,L0 l b o->K (.υ [.sl 0 0 o.length,θ b]) [ξ 3 1 (ints Z (o++t))]
 |_,_=>False
def KZ:FuncId->Option dA
 | 80=>some ⟨[],yj [.cell 0 2 3 1] (tq 100000)⟩
 |f=>rK f
noncomputable def Ms:bJ:=dG Tryz.prog KZ aG 10
abbrev KY (l:List Call):LI where
 α:={i:Nat // i<=l.length/\∀ k,k<i->dV (be l k)}
 live:=[0,10,11,12]
 st i:=([aD (.sl 4 (l.map bL)),aD (.sl 4 (l.map bL)),.int Z (l.length:Int),.int Z (i.1:Int)],[])
 μ i:=l.length - i.1
def US (l:List Call):FuncId->Nat->Option LI
 | 50,4=>some (KY l)
 |_,_=>none
theorem ahb (l:List Call) (o:List Int) (K:V->KB->Prop) (an:
 let ω:=aD (ψ 4 (φ bL l));let η:=aD (ψ 1 (ints Z o));At (Jy l o) ([ω,η,ε Z 0,ε Z 0],[])/\
 ∀(i:{p:Nat×Int // uV l o p }),let bP:=(↑i.val.fst:Int)<(↑(ints Z o).length:Int);let aO:=ε Z (jK (be l (ca o i.val.fst).toNat) i.val.snd);let aC:=ε Z (ca o i.val.fst);let au:=ε Z (↑i.val.fst:Int);(decide (bP)=true->
 aB (↑i.val.fst:Int)/\
 ∃(e:List D),(ints Z o)[(↑i.val.fst:Int).toNat]? =some e/\
 ∃(n:Int),let b9:=(n ≥ (↑(φ bL l).length:Int));let bj:=At (Sz l o i.val) ([ω,η,ε Z i.val.snd,au,ε Z n],[]);e[0]? =some (ζ (ν Z n))/\
 (decide (n<0)=true->
 K (θ false) [])/\
 (decide (n<0)=false->
 (decide b9=true->
 K (θ false) [])/\
 (decide b9=false->
 True/\
 aB (↑i.val.fst:Int)/\
 0<=(↑i.val.fst:Int).toNat/\
 (↑i.val.fst:Int).toNat<=(ints Z o).length/\
 ∃(h_:List Int),ay 0 (az (↑i.val.fst:Int).toNat (ints Z o))=ints Z h_/\
 h_.length.le 1000000/\
 (decide (n∈h_)=true->
 K (θ false) [])/\
 (decide (n∈h_)=false->
 (aB n/\
 ∃(e:List D),(φ bL l)[n.toNat]? =some e/\
 ∃(n_1:Int),e[0]? =some (ζ (ν Z n_1))/\
 ((n_1 == 3)=true->
 aB n/\
 ∃(e:List D),(φ bL l)[n.toNat]? =some e/\
 ∃(n_2:Int),e[3]? =some (ζ (ν Z n_2))/\
 ((n_2 == -1)=true->
 K (θ false) [])/\
 ((n_2 == -1)=false->
 aB n/\
 ∃(e:List D),(φ bL l)[n.toNat]? =some e/\
 ∃(eJ:Int),e[1]? =some (ζ (ν Z eJ))/\
 ((eJ != i.val.snd)=true->
 K (θ false) [])/\
 ((eJ != i.val.snd)=false->
 bj)))/\
 ((n_1 == 3)=false->
 bj))/\
 ∀(i_1:{q:Nat // q=0/\
 oZ l o i.val }),(aB (ca o i.val.fst)/\
 ∃(e:List D),(φ bL l)[(ca o i.val.fst).toNat]? =some e/\
 ∃(n:Int),e[0]? =some (ζ (ν Z n))/\
 ((n == 1)=true->
 aB (ca o i.val.fst)/\
 ∃(e:List D),(φ bL l)[(ca o i.val.fst).toNat]? =some e/\
 ∃(n:Int),e[1]? =some (ζ (ν Z n))/\
 At (Jx l o i.val) ([ω,η,ε Z n,au,aC],[]))/\
 ((n == 1)=false->
 At (Jx l o i.val) ([ω,η,ε Z i.val.snd,au,aC],[])))/\
 ∀(i_2:{q:Nat // q=0/\
 oZ l o i.val }),(aB (ca o i.val.fst)/\
 ∃(e:List D),(φ bL l)[(ca o i.val.fst).toNat]? =some e/\
 ∃(n:Int),e[0]? =some (ζ (ν Z n))/\
 ((n == 2)=true->
 At (Jw l o i.val) ([ω,η,ε Z 0,au,aC],[]))/\
 ((n == 2)=false->
 At (Jw l o i.val) ([ω,η,ε Z (yo (be l (ca o i.val.fst).toNat) i.val.snd),au,aC],[])))/\
 ∀(fz:{q:Nat // q=0/\
 oZ l o i.val }),At (Cu l o i.val) ([ω,η,aO,au,aC,ε Z 0],[])/\
 ∀(dR:{j:Nat // j<=i.val.fst/\
 oZ l o i.val/\
 ∀(x:Nat),x<j->
 ¬iM (be l (ca o i.val.fst).toNat) (be l (ca o x).toNat) }),let bS:=(↑dR.val:Int)<(↑i.val.fst:Int);let aH:=Nx (Cu l o i.val) dR ([ω,η,aO,au,aC,ε Z (Z.wrap ((↑dR.val:Int)+1))],[]);(decide (bS)=true->
 aB (ca o i.val.fst)/\
 ∃(e:List D),(φ bL l)[(ca o i.val.fst).toNat]? =some e/\
 ∃(n:Int),e[3]? =some (ζ (ν Z n))/\
 ((n != -1)=true->
 aB (ca o i.val.fst)/\
 ∃(e:List D),(φ bL l)[(ca o i.val.fst).toNat]? =some e/\
 ∃(n:Int),e[3]? =some (ζ (ν Z n))/\
 aB (↑dR.val:Int)/\
 ∃(e:List D),(ints Z o)[(↑dR.val:Int).toNat]? =some e/\
 ∃(n_1:Int),e[0]? =some (ζ (ν Z n_1))/\
 aB n_1/\
 ∃(e:List D),(φ bL l)[n_1.toNat]? =some e/\
 ∃(n_2:Int),e[2]? =some (ζ (ν Z n_2))/\
 (decide (n<n_2)=true->
 K (θ false) [])/\
 (decide (n<n_2)=false->
 aH))/\
 ((n != -1)=false->
 aH))/\
 (decide (bS)=false->
 Nx (Jy l o) i ([ω,η,aO,ε Z (Z.wrap ((↑i.val.fst:Int)+1))],[]))))))/\
 (decide (bP)=false->
 At (Ct l o) ([ω,η,ε Z 0],[])/\
 ∀(i:{k:Nat // k<=l.length/\
 (∃(r:List Nat),o=nz r/\
 (rY l->
 mP l [] 0 r))/\
 ∀(x:Nat),x<k->
 dV (be l x)/\
 ((be l x).snd.snd.snd≠-1->
 (↑x:Int)∈o) }),let bN:=(↑i.val:Int)<(↑(φ bL l).length:Int);let bq:=Nx (Ct l o) i ([ω,η,ε Z (Z.wrap ((↑i.val:Int)+1))],[]);(decide (bN)=true->
 aB (↑i.val:Int)/\
 ∃(e:List D),(φ bL l)[(↑i.val:Int).toNat]? =some e/\
 ∃(n:Int),e[0]? =some (ζ (ν Z n))/\
 ∃(n_1:Int),e[1]? =some (ζ (ν Z n_1))/\
 ∃(n_2:Int),e[2]? =some (ζ (ν Z n_2))/\
 ∃(eJ:Int),e[3]? =some (ζ (ν Z eJ))/\
 ((!decide (dV (n,n_1,n_2,eJ)))=true->
 K (θ false) [])/\
 ((!decide (dV (n,n_1,n_2,eJ)))=false->
 aB (↑i.val:Int)/\
 ∃(e:List D),(φ bL l)[(↑i.val:Int).toNat]? =some e/\
 ∃(n:Int),e[3]? =some (ζ (ν Z n))/\
 ((n != -1)=true->
 ∃(h_:List Int),ints Z o=ints Z h_/\
 h_.length.le 1000000/\
 ((!decide ((↑i.val:Int)∈h_))=true->
 K (θ false) [])/\
 ((!decide ((↑i.val:Int)∈h_))=false->
 bq))/\
 ((n != -1)=false->
 bq)))/\
 (decide (bN)=false->
 K (θ true) []))
 ):aI Tryz.prog pS (SC l o 51) 51 [aD (.sl 4 (l.map bL)),aD (.sl 1 (ints Z o))] [] K:=by apply Eq.mp (a:=an);kernel_rfl
theorem ahJ (l:List Call) (K:V->KB->Prop) (an:
 let ω:=aD (ψ 4 (φ bL l));let η:=K (aw [δ 0 0 0,θ false]) [ξ 3 1 []];(decide ((↑(φ bL l).length:Int) > 14)=true->
 η)/\
 (decide ((↑(φ bL l).length:Int) > 14)=false->
 At (KY l) ([ω,ω,ε Z (↑(φ bL l).length:Int),ε Z 0],[])/\
 ∀(i:{i:Nat // i<=l.length/\
 ∀(k:Nat),k<i->
 dV (be l k) }),(decide ((↑i.val:Int)<(↑l.length:Int))=true->
 aB (↑i.val:Int)/\
 ∃(e:List D),(φ bL l)[(↑i.val:Int).toNat]? =some e/\
 ∃(n:Int),e[0]? =some (ζ (ν Z n))/\
 ∃(n_1:Int),e[1]? =some (ζ (ν Z n_1))/\
 ∃(n_2:Int),e[2]? =some (ζ (ν Z n_2))/\
 ∃(eJ:Int),e[3]? =some (ζ (ν Z eJ))/\
 ((!decide (dV (n,n_1,n_2,eJ)))=true->
 η)/\
 ((!decide (dV (n,n_1,n_2,eJ)))=false->
 Nx (KY l) i ([ω,ω,ε Z (↑l.length:Int),ε Z (Z.wrap ((↑i.val:Int)+1))],[])))/\
 (decide ((↑i.val:Int)<(↑l.length:Int))=false->
 ∃(l_1:List Call),∃(m:Nat),∃(o:List Int),∃(t:List Int),0=(↑m:Int)/\
 φ bL l=φ bL l_1/\
 []=ints Z (o++t)/\
 0=o.length/\
 DH l_1 m 100000 [] o/\
 ∀(b:Bool) (M':ML) (o' t':List Int),DG l_1 m 0 [] o b M' o'->
 ((!b)=true->
 η)/\
 ((!b)=false->
 K (aw [δ 0 0 o'.length,θ true]) [ξ 3 1 (ints Z (o'++t'))])))
 ):aI Tryz.prog Ms (US l 50) 50 [aD (.sl 4 (l.map bL))] [] (eZ [.slot 0 3 1] (dp 0 K)):=by apply Eq.mp (a:=an);kernel_rfl
theorem Q4 {r s:List Nat} (h:nz r=nz s):r=s:=by
 induction r generalizing s with
 |nil=>cases s with
  |nil=>rfl
  |cons a s=>cases h
 |cons a r ih=>cases s with
  |nil=>cases h
  |cons b s=>
   simp only[mb,List.cons.injEq]at h
   rw[ih h.2,Int.ofNat.inj h.1]
theorem yp {r:List Nat} {k:Nat}:(k:Int)∈nz r ↔ k∈r:=by
 simp only[nz,eL]
 constructor
 ·rintro⟨a,h1,h2⟩;rwa [<- Int.ofNat.inj h2]
 ·intro h;exact⟨k,h,rfl⟩
theorem abb {r:List Nat} {n:Int} (h:n∈nz r):0<=n/\n.toNat∈r:=by
 simp only[nz,eL]at h
 obtain⟨a,h1,rfl⟩:=h
 exact⟨by omega,by simpa using h1⟩
theorem vG {o:List Int} {i:Nat} (h:i<o.length):o[i]? =some (ca o i):=by
 unfold ca;rw[gD,bp h];rfl
theorem afu {o:List Int} {i:Nat} (h:i<o.length):o.take (i+1)=o.take i++[ca o i]:=by
 rw[i_,vG h];rfl
theorem MZ {l:List Call} {n:Int} (h0:0<=n) (h:n<l.length):(l.map bL)[n.toNat]? =some (bL (be l n.toNat)):=by
 have:=sg (l:=l) (i:=n.toNat) (by omega)
 rwa [cP]at this
theorem aeW {o:List Int} {rs r:List Nat} {i:Nat} (hi:i<o.length) (ho:o=nz rs) (hr:o.take i=nz r):∃(k:Nat) (s:List Nat),ca o i=k/\rs=r++k::s:=by
 subst ho
 have hl:i<rs.length:=by simpa using hi
 have e1:rs.take i=r:=Q4 (by rw[<- hr];simp [nz])
 refine⟨rs[i],rs.drop (i+1),?_,?_⟩
 ·have h2:=vG hi
  simp only[nz,fE,bp hl,Option.map_some,bb.injEq]at h2
  exact h2.symm
 ·rw[<- e1,<- List.drop_eq_getElem_cons hl,List.take_append_drop]
structure Vi (l:List Call) (r:List Nat) (k:Nat) (v:Int):Prop where
 lt:k<l.length
 new:k ∉ r
 un:¬ rS (be l k)
 fit:jD (be l k) v
 ah:∀ j,j∈r->¬ iM (be l k) (be l j)
theorem Cv {l:List Call} {o:List Int} {p:Nat×Int} (hp:uV l o p) (hi:p.1<o.length) (hw:tv l o):rY l/\∃(k:Nat) (r:List Nat),ca o p.1=k/\o.take p.1=nz r/\Vi l r k p.2:=by
 obtain⟨rs,ho,h1,h2⟩:=hw
 have hall:rY l:=vT.2 fun k hk=>(h2 k hk).1
 obtain⟨r,hr,hlt,hrun⟩:=hp.run
 obtain⟨k,s,hk,hrs⟩:=aeW hi ho hr
 refine⟨hall,k,r,hk,hr,?_⟩
 have:=(hrun hall (k::s)).1 (hrs ▸ h1)
 obtain⟨a,b,c,d,e,f⟩:=this
 exact⟨a,b,c,d,e⟩
theorem adX {l:List Call} {o:List Int} {p:Nat×Int} (hp:uV l o p) (hc:oZ l o p) (ha:∀ x,x<p.1->¬ iM (be l (ca o p.1).toNat) (be l (ca o x).toNat)):
  uV l o (p.1+1,jK (be l (ca o p.1).toNat) p.2):=by
 obtain⟨r,hr,hlt,hrun⟩:=hp.run
 have hk:((ca o p.1).toNat:Int)=ca o p.1:=Int.toNat_of_nonneg hc.lo
 have hnew:(ca o p.1).toNat ∉ r:=fun h=>hc.new (by rw[hr,<- hk];exact yp.2 h)
 refine⟨by have:=hc.lt;simp only;omega,r++[(ca o p.1).toNat],?_,?_,fun hall s=>?_⟩
 ·rw[afu hc.lt,hr]
  simp only[nz,jy,mb,List.map_nil,hk]
 ·intro x hx
  rcases dM.1 hx with hx | hx
  ·exact hlt x hx
  ·rw[dQ]at hx;subst hx;have:=hc.hi;omega
 ·rw[dO]
  refine(hrun hall _).trans ⟨fun h=>h.2.2.2.2.2,fun h=>⟨by have:=hc.hi;omega,hnew,(hc.ok hall).1,(hc.ok hall).2,fun j hj=>?_,h⟩⟩
  have hj':(j:Int)∈o.take p.1:=by rw[hr];exact yp.2 hj
  obtain⟨x,hx,ua⟩:=List.getElem_of_mem hj'
  have gQ:x<p.1:=by simp at hx;omega
  have PE:x<o.length:=by have:=hc.lt;omega
  have:ca o x=j:=by
   have h1:=vG PE
   rw[List.getElem_take]at ua
   rw[bp PE,ua,bb.injEq]at h1
   exact h1.symm
  have:=ha x gQ
  rwa [‹ca o x=j›,cP]at this
theorem acq:aN Tryz.prog 51 Ea:=dW u7 mixed (fun args kb K h=>by
 unfold Ea at h;split at h<;>try exact h.elim
 obtain⟨l,o,rfl,rfl,⟨xW,hl2⟩,h⟩:=h
 have no:¬ tv l o->K (θ false) []:=fun hn=>h false ⟨fun f=>(by cases f),fun w=>absurd w hn⟩
 refine⟨SC l o 51,ahb l o K ⟨At.mk' ⟨(0,0),bt _,[],by simp,by simp,fun _ s=>Iff.rfl⟩ rfl,?_⟩⟩
 rintro⟨⟨i,v⟩,hp⟩
 have hi:=hp.le
 simp only at hi
 simp only[bi,bX,decide_eq_true_eq,decide_eq_false_iff_not]
 refine⟨fun hc=>?_,fun hc=>⟨?_,?_⟩⟩
 ·have sF:i<o.length:=by omega
  have pm:∀ w:tv l o,0<=ca o i/\ca o i<l.length/\ca o i ∉ o.take i:=fun w=>by
   obtain⟨_,k,r,h1,h2,h3⟩:=Cv hp sF w
   have:=h3.lt
   simp only at h1 h2
   exact⟨by omega,by omega,by rw[h2,h1];exact fun h=>h3.new (yp.1 h)⟩
  refine⟨by unfold aB;omega,[ζ (.int Z (ca o i))],by rw[cP,kv,vG sF];rfl,ca o i,rfl,fun hn=>no fun w=>by have:=pm w;omega,fun hn=>⟨fun hn2=>no fun w=>by have:=pm w;omega,fun hn2=>?_⟩⟩
  have hlo:0<=ca o i:=by omega
  have hhi:ca o i<l.length:=by omega
  have hg:=MZ hlo hhi
  refine⟨trivial,by unfold aB;omega,bt _,by omega,o.take i,by rw[cP,g_,oI],?_,fun hm=>no fun w=>(pm w).2.2 hm,fun hm=>⟨?_,?_⟩⟩
  ·show(o.take i).length<=_
   rw[cQ];omega
  ·have cu:(rY l->¬ rS (be l (ca o i).toNat)/\jD (be l (ca o i).toNat) v)->oZ l o (i,v):=fun h=>⟨sF,hlo,hhi,hm,h⟩
   refine⟨hlo,_,hg,(be l (ca o i).toNat).1,rfl,fun h3=>?_,fun h3=>?_⟩
   ·simp only[beq_iff_eq]at h3
    refine⟨hlo,_,hg,(be l (ca o i).toNat).2.2.2,rfl,fun h4=>no fun w=>?_,fun h4=>⟨hlo,_,hg,(be l (ca o i).toNat).2.1,rfl,fun h5=>no fun w=>?_,fun h5=>?_⟩⟩
    ·obtain⟨_,k,r,h1,h2,hck⟩:=Cv hp sF w
     simp only[beq_iff_eq]at h4 h1
     rw[h1,cP]at h3 h4
     exact hck.un ⟨h3,h4⟩
    ·obtain⟨_,k,r,h1,h2,hck⟩:=Cv hp sF w
     simp only[bne_iff_ne,ne_eq]at h5 h1
     rw[h1,cP]at h3 h5
     have:=hck.fit
     unfold jD at this
     simp only at this
     omega
    ·simp only[beq_eq_false_iff_ne,ne_eq,bne_eq_false_iff_eq]at h4 h5
     exact At.mk' ⟨0,rfl,cu fun _=>⟨fun hu=>h4 hu.2,.inr (.inr h5)⟩⟩ rfl
   ·simp only[beq_eq_false_iff_ne,ne_eq]at h3
    refine At.mk' ⟨0,rfl,cu fun hall=>⟨fun hu=>h3 hu.1,?_⟩⟩ rfl
    have:=vT.1 hall (ca o i).toNat (by omega)
    unfold dV at this;unfold jD;omega
  rintro⟨q,rfl,lY⟩
  refine⟨⟨hlo,_,hg,(be l (ca o i).toNat).1,rfl,fun h3=>⟨hlo,_,hg,(be l (ca o i).toNat).2.1,rfl,?_⟩,fun h3=>?_⟩,?_⟩
  ·simp only[beq_iff_eq]at h3
   exact At.mk' ⟨0,rfl,lY⟩ (by simp only[yo,if_pos h3])
  ·simp only[beq_eq_false_iff_ne,ne_eq]at h3
   exact At.mk' ⟨0,rfl,lY⟩ (by simp only[yo,if_neg h3])
  rintro⟨q,rfl,_⟩
  refine⟨⟨hlo,_,hg,(be l (ca o i).toNat).1,rfl,fun h3=>?_,fun h3=>?_⟩,?_⟩
  ·simp only[beq_iff_eq]at h3
   exact At.mk' ⟨0,rfl,lY⟩ (by simp only[jK,if_pos h3,if_neg (show ¬ (be l (ca o i).toNat).1=1 by omega)])
  ·simp only[beq_eq_false_iff_ne,ne_eq]at h3
   exact At.mk' ⟨0,rfl,lY⟩ (by simp only[jK,yo,if_neg h3])
  rintro⟨q,rfl,_⟩
  refine⟨At.mk' ⟨0,bt _,lY,fun x hx=>absurd hx (Nat.not_lt_zero _)⟩ rfl,?_⟩
  rintro⟨j,hj,_,G1⟩
  refine⟨fun hji=>?_,fun hji=>?_⟩
  ·have ah6:j<i:=Int.ofNat_lt.1 hji
   have Hm:j<o.length:=by omega
   obtain⟨r,hr,hlt,hrun⟩:=hp.run
   have hjm:ca o j∈nz r:=by
    rw[<- hr]
    have h1:=vG Hm
    rw[bp Hm,bb.injEq]at h1
    rw[<- h1]
    exact List.mem_take_iff_getElem.2 ⟨j,by first | omega | (simp;omega),by first | rfl | simp⟩
   obtain⟨hj0,Bk⟩:=abb hjm
   have hjl:=hlt _ Bk
   have nx:¬ iM (be l (ca o i).toNat) (be l (ca o j).toNat)->Nx (Cu l o (i,v)) ⟨j,hj,lY,G1⟩ ([aD (ψ 4 (l.map bL)),aD (ψ 1 (ints Z o)),ε Z (jK (be l (ca o i).toNat) v),ε Z (i:Int),ε Z (ca o i),ε Z (Z.wrap ((j:Int)+1))],[]):=fun hn=>by
    rw[bD (by omega) (by omega)]
    refine Nx.mk' (⟨j+1,by simp only;omega,lY,fun x hx=>?_⟩:{j:Nat // j<=(i,v).1/\oZ l o (i,v)/\∀ x,x<j->¬ iM (be l (ca o (i,v).1).toNat) (be l (ca o x).toNat)}) rfl (by show i - (j+1)<i - j;omega)
    by_cases ZZ:x=j
    ·subst ZZ;exact hn
    ·exact G1 x (by omega)
   refine⟨hlo,_,hg,(be l (ca o i).toNat).2.2.2,rfl,fun h4=>?_,fun h4=>?_⟩
   ·simp only[bne_iff_ne,ne_eq]at h4
    refine⟨hlo,_,hg,(be l (ca o i).toNat).2.2.2,rfl,by unfold aB;omega,[ζ (.int Z (ca o j))],by rw[cP,kv,vG Hm];rfl,ca o j,rfl,hj0,_,MZ hj0 (by omega),(be l (ca o j).toNat).2.2.1,rfl,fun h5=>no fun w=>?_,fun h5=>?_⟩
    ·obtain⟨_,k,r',h1,h2,hck⟩:=Cv hp sF w
     simp only at h1 h2
     rw[hr]at h2
     have:=Q4 h2
     subst this
     have:=hck.ah _ Bk
     rw[h1,cP]at h4 h5
     exact this ⟨h4,h5⟩
    ·exact nx fun ha=>h5 ha.2
   ·simp only[bne_eq_false_iff_eq]at h4
    exact nx fun ha=>ha.1 h4
  ·have ah7:¬ (j:Int)<i:=hji
   have:j=i:=by have:j<=i:=hj;omega
   subst this
   rw[bD (by omega) (by omega)]
   exact Nx.mk' (⟨(j+1,jK (be l (ca o j).toNat) v),adX hp lY G1⟩:{p:Nat×Int // uV l o p}) rfl (by show o.length - (j+1)<o.length - j;omega)
 ·have sF:i=o.length:=by omega
  subst sF
  obtain⟨r,hr,hlt,hrun⟩:=hp.run
  rw[cM]at hr
  refine At.mk' ⟨0,bt _,⟨r,hr,fun hall=>?_⟩,fun x hx=>absurd hx (Nat.not_lt_zero _)⟩ rfl
  have:=(hrun hall []).2 trivial
  rwa [fD]at this
 ·rintro⟨k,hk,hr,hok⟩
  have nx:k<l.length->dV (be l k)->((be l k).2.2.2≠-1->(k:Int)∈o)->Nx (Ct l o) ⟨k,hk,hr,hok⟩ ([aD (ψ 4 (l.map bL)),aD (ψ 1 (ints Z o)),ε Z (Z.wrap ((k:Int)+1))],[]):=fun hlt h1 h2=>by
   rw[bD (by omega) (by omega)]
   refine Nx.mk' (⟨k+1,by omega,hr,fun x hx=>?_⟩:{k:Nat // k<=l.length/\(∃ r:List Nat,o=nz r/\(rY l->mP l [] 0 r))/\∀ x,x<k->dV (be l x)/\((be l x).2.2.2≠-1->(x:Int)∈o)}) rfl (by show l.length - (k+1)<l.length - k;omega)
   by_cases Z0:x=k
   ·subst Z0;exact⟨h1,h2⟩
   ·exact hok x (by omega)
  have wk:tv l o->k<l.length->dV (be l k)/\((be l k).2.2.2≠-1->(k:Int)∈o):=by
   rintro⟨rs,rfl,_,O0⟩ hlt
   exact⟨(O0 k hlt).1,fun he=>yp.2 ((O0 k hlt).2 he)⟩
  refine⟨fun fk=>?_,fun fk=>?_⟩
  ·have hlt:k<l.length:=Int.ofNat_lt.1 fk
   refine⟨by unfold aB;omega,_,sg hlt,(be l k).1,rfl,(be l k).2.1,rfl,(be l k).2.2.1,rfl,(be l k).2.2.2,rfl,fun h1=>no fun w=>?_,fun h1=>⟨by unfold aB;omega,_,sg hlt,(be l k).2.2.2,rfl,fun h2=>⟨o,rfl,?_,fun h3=>no fun w=>?_,fun h3=>?_⟩,fun h2=>?_⟩⟩
   ·simp only[lR,decide_eq_false_iff_not]at h1
    exact h1 (wk w hlt).1
   ·show o.length<=_
    omega
   ·simp only[lR,decide_eq_false_iff_not,bne_iff_ne,ne_eq]at h2 h3
    exact h3 ((wk w hlt).2 h2)
   ·simp only[lm,decide_eq_true_eq,bne_iff_ne,ne_eq]at h1 h2 h3
    exact nx hlt h1 fun _=>h3
   ·simp only[lm,decide_eq_true_eq,bne_eq_false_iff_eq]at h1 h2
    exact nx hlt h1 fun f=>absurd h2 f
  ·have:k=l.length:=by have hc3:¬ (k:Int)<l.length:=fk;omega
   subst this
   obtain⟨r,rfl,hrun⟩:=hr
   exact h true ⟨fun _=>⟨r,rfl,hrun (vT.2 fun x hx=>(hok x hx).1),fun x hx=>⟨(hok x hx).1,fun he=>yp.1 ((hok x hx).2 he)⟩⟩,fun _=>rfl⟩)
theorem S1 {l:List Call}:∀{s p:List Nat} {v:Int},mP l p v s->∀ x∈s,x ∉ p
 |k::s,p,v,h,x,hx=>by
  obtain⟨a,b,c,d,e,f⟩:=h
  rcases ey.1 hx with rfl | hx
  ·exact b
  ·exact fun hp=>S1 f x hx (iL _ hp)
theorem S2 {l:List Call}:∀{s p:List Nat} {v:Int},mP l p v s->s.Nodup
 | [],_,_,_=>List.nodup_nil
 |k::s,p,v,h=>by
  obtain⟨a,b,c,d,e,f⟩:=h
  exact List.nodup_cons.2 ⟨fun hk=>S1 f k hk (by simp),S2 f⟩
theorem IH:∀{n:Nat} {r:List Nat},r.Nodup->(∀ x∈r,x<n)->r.length<=n
 | 0,r,_,h=>by
  cases r with
  |nil=>simp
  |cons a r=>exact absurd (h a (by simp)) (Nat.not_lt_zero _)
 |n+1,r,hn,h=>by
  by_cases hm:n∈r
  ·have h1:=IH (n:=n) (hn.erase n) (fun x hx=>by
    have:=(List.Nodup.mem_erase_iff hn).1 hx
    have:=h x this.2
    omega)
   rw[List.length_erase_of_mem hm]at h1
   omega
  ·have:=IH (n:=n) hn (fun x hx=>by
    have h1:=h x hx
    have h2:x≠n:=fun e=>hm (e ▸ hx)
    omega)
   omega
theorem ahV:dF Tryz.prog KZ:=fun f k h=>by
 unfold KZ at h
 split at h
 ·cases h;exact B1 (Rg _) _
 ·exact yP _ _ h
theorem V8:bZ Tryz.prog Ms:=dI mixed ahV aG 10
theorem acM:aN Tryz.prog 50 EB:=mE V8 mixed [.slot 0 3 1] (fun args kb K h=>by
 unfold EB at h;split at h<;>try exact h.elim
 obtain⟨l,rfl,hl,h⟩:=h
 refine⟨US l 50,ahJ l K ?_⟩
 simp only[bX,decide_eq_true_eq,decide_eq_false_iff_not]
 refine⟨fun hc=>?_,fun hc=>⟨At.mk' ⟨0,bt _,fun x hx=>absurd hx (Nat.not_lt_zero _)⟩ rfl,?_⟩⟩
 ·exact h false [] [] ⟨fun f=>(by cases f),fun _=>⟨rfl,.inl (by omega)⟩⟩
 rintro⟨i,hi,hok⟩
 simp only
 refine⟨fun fk=>?_,fun fk=>?_⟩
 ·have hlt:i<l.length:=by omega
  refine⟨by unfold aB;omega,_,sg hlt,(be l i).1,rfl,(be l i).2.1,rfl,(be l i).2.2.1,rfl,(be l i).2.2.2,rfl,fun h1=>?_,fun h1=>?_⟩
  ·simp only[lR,decide_eq_false_iff_not]at h1
   exact h false [] [] ⟨fun f=>(by cases f),fun _=>⟨rfl,.inr fun⟨r,hr⟩=>h1 (hr.2 i hlt).1⟩⟩
  ·simp only[lm,decide_eq_true_eq]at h1
   rw[bD (by omega) (by omega)]
   refine Nx.mk' (⟨i+1,by omega,fun x hx=>?_⟩:{i:Nat // i<=l.length/\∀ k,k<i->dV (be l k)}) rfl (by show l.length - (i+1)<l.length - i;omega)
   by_cases ZY:x=i
   ·subst ZY;exact h1
   ·exact hok x (by omega)
 ·have:i=l.length:=by omega
  subst this
  have hall:∀ c∈l,dV c:=vT.2 hok
  refine⟨l,0,[],[],rfl,rfl,rfl,rfl,⟨by omega,av _,Nat.pow_pos (by decide),?_,⟨fun e he=>(by cases he)⟩⟩,fun b M' o' t' hpost=>⟨fun hb=>?_,fun hb=>?_⟩⟩
  ·have:2 ^ l.length<=2 ^ 14:=Nat.pow_le_pow_right (by decide) (by omega)
   omega
  ·simp only[lR]at hb
   obtain⟨h1,h2,h3⟩:=hpost.f hb
   exact h false [] [] ⟨fun f=>(by cases f),fun _=>⟨rfl,.inr fun⟨r,hr⟩=>h2 ⟨r,(UT.1 hr).2⟩⟩⟩
  ·simp only[lm]at hb
   obtain⟨r,h1,h2⟩:=hpost.t hb
   rw[jV]at h1
   exact h true o' t' ⟨fun _=>⟨r,h1,UT.2 ⟨hall,h2⟩⟩,fun f=>(by cases f)⟩)
end Go.Proofs.YtfcjngcnifdmnaaGreat.Hy
namespace Go.Proofs.YtfcjngcnifdmnaaGreat
open Vc Go
open Go.IntKind renaming i64->Z,u8->ι,u32->ic
open Vc.V renaming any->γ,sl->δ,int->ε,sb->θ,ptr->aj,υ->aw,dat->aD,aa->aP,mp->aX,arr->bB,agg->fF
open Vc.D renaming val->ζ,sl->ψ
open Go.Value renaming int->ν,map->kq,oneCell'->lU,bool->nE
open Vc.KO renaming row->ξ,dead->χ,cells->ar,objs->cD
open List renaming map->φ,drop->ay,take->az,length_append->bn,getElem?_eq_getElem->bp,getElem?_eq_some_iff->bG,length_map->bX,take_length->cM,length_take->cQ,replicate->dq,mem_append->dM,append_assoc->dO,getElem?_append_left->dP,mem_singleton->dQ,Mem->dS,mem_cons->ey,mem_map->eL,take_of_length_le->eM,getElem?_append_right->eW,mem_of_getElem?->fi,append_nil->fD,getElem?_map->fE,mem_cons_of_mem->fM,length_drop->fQ,getElem?_set_ne->gr,getD_eq_getElem?_getD->gD,getElem?_eq_none->gO,drop_zero->g_,getElem?_take_of_lt->hU,getElem?_set_self->ig,length_singleton->ii,length_set->ir,mem_cons_self->iu,range->iw,mem_append_left->iL,length_cons->iZ,take_add_one->i_,flatten_cons->jm,getElem?_drop->jw,getElem?_of_mem->jx,map_append->jy,nil_append->jV,length_nil->kn,mem_filter->kM,ext_getElem?->lw,eq_nil_of_length_eq_zero->ma,map_cons->mb,mem_append_right->mc
open Nat renaming le_refl->av,zero_le->bt,beq->cp,eq_of_beq_eq_true->cU,zero_add->c9,add_assoc->gE,lor->iy,lt_or_ge->jX,sub_zero->lT,le_trans->mf
open Option renaming some->bb,bind_eq_some_iff->kP,map->mO
open Int renaming toNat_natCast->cP,le_refl->fa
open Bool renaming and_eq_true->km,not_eq_false'->lm,not_eq_true'->lR
set_option linter.unusedVariables false
set_option linter.unusedSimpArgs false
set_option maxRecDepth 100000
abbrev acR (w:Wd) (q:List (Nat×Nat)) (A:List (Sg×KB)):LI where
 α:={i:Nat // i<=2}
 live:=[0,3]
 dU:=eP
 st i:=([aj 0 0,.int Z (i.1:Int)],eE w q A)
 μ i:=2 - i.1
def gh (w:Wd) (b i:Nat):List (List D):=((eF (b:Int) (w.cs.take i)).map mR).map Hy.bL
abbrev vU (w:Wd) (q:List (Nat×Nat)) (A:List (Sg×KB)) (b:Nat):LI where
 α:={i:Nat // i<=w.cs.length}
 live:=[0,3,4,5]
 dU:=eP++[.slot 2 59 4]
 st i:=([aj 0 0,.int Z (b:Int),.sl 14 0 (gh w b i.1).length,.int Z (i.1:Int)],eE w q A++[ξ 59 4 (gh w b i.1)])
 μ i:=w.cs.length - i.1
def acV (w:Wd) (q:List (Nat×Nat)) (A:List (Sg×KB)) (b:Nat):Nat->Option LI
 | 6=>some (vU w q A b)
 |_=>none
abbrev I8 (w:Wd) (q:List (Nat×Nat)) (A:List (Sg×KB)):LI:={acR w q A with sub:=fun i=>acV w q A i.1 }
def RA (w:Wd) (q:List (Nat×Nat)) (A:List (Sg×KB)):FuncId->Nat->Option LI
 | 19,2=>some (I8 w q A)
 |_,_=>none
def I9:FuncId->Option dA
 | 50=>some ⟨[.fI 4],Hy.EB⟩
 | 51=>some ⟨[.fI 4,.fI 1],Hy.Ea⟩
 |_=>none
noncomputable def Mk:bJ:=dG Tryz.prog I9 aG 10
theorem agX (w:Wd) (q:List (Nat×Nat)) (A:List (Sg×KB)) (K:V->KB->Prop) (an:
 let bN:=ξ 30 1 (φ cj q);let bP:=ξ 49 5 (φ dL w.vs);let bq:=ξ 23 1 (φ bx w.dk);let bj:=ξ 61 10 (φ cF w.cs);let aO:=ξ 73 3 (φ cH w.af);let aC:=ξ 3 1 (ints Z w.aW);let ω:=ar [δ 8 0 w.R.length,δ 9 0 w.dk.length,δ 10 0 w.vs.length,δ 11 0 w.af.length,δ 12 0 w.cs.length,δ 13 0 w.aW.length,ε Z w.now,θ w.ok];let η:KB:=[ω,χ,χ,χ,χ,χ,χ,cD A,bN,bq,bP,aO,bj,aC];At (I8 w q A) ([aj 0 0,ε Z 0],η)/\
 ∀(i:{i:Nat // i<=2 }),let bS:=ε Z (↑i.val:Int);(decide ((↑i.val:Int)<2)=true->
 At (vU w q A i.val) ([aj 0 0,bS,δ 14 0 0,ε Z 0],[ω,χ,χ,χ,χ,χ,χ,cD A,bN,bq,bP,aO,bj,aC,ξ 59 4 []])/\
 ∀(i_1:{i:Nat // i<=w.cs.length }),let fv:=(↑i_1.val:Int)<(↑(w.cs.length - 0):Int);let cC:=ε Z (Z.wrap ((↑i_1.val:Int)+1));let b9:=(az (gh w i.val i_1.val).length (gh w i.val i_1.val));let aH:=(gh w i.val i_1.val).length<=(gh w i.val i_1.val).length;let au:=Nx (vU w q A i.val) i_1 ([aj 0 0,bS,δ 14 0 (gh w i.val i_1.val).length,cC],[ω,χ,χ,χ,χ,χ,χ,cD A,bN,bq,bP,aO,bj,aC,ξ 59 4 (gh w i.val i_1.val)]);(decide (fv)=true->
 bw (↑i_1.val:Int) (w.cs.length - 0)/\
 ∃(e:List D),(φ cF w.cs)[0+(↑i_1.val:Int).toNat]? =some e/\
 ∃(n:Int),e[3]? =some (ζ (ν Z n))/\
 ((n == (↑i.val:Int))=true->
 bw (↑i_1.val:Int) (w.cs.length - 0)/\
 ∃(e:List D),(φ cF w.cs)[0+(↑i_1.val:Int).toNat]? =some e/\
 ∃(n:Int),e[2]? =some (ζ (ν Z n))/\
 ((n != 4)=true->
 bw (↑i_1.val:Int) (w.cs.length - 0)/\
 ∃(e:List D),(φ cF w.cs)[0+(↑i_1.val:Int).toNat]? =some e/\
 ∃(n:Int),e[5]? =some (ζ (ν Z n))/\
 ∃(n_1:Int),e[6]? =some (ζ (ν Z n_1))/\
 ∃(n_2:Int),e[7]? =some (ζ (ν Z n_2))/\
 ∃(eJ:Int),e[8]? =some (ζ (ν Z eJ))/\
 1<=1/\
 aH/\
 ((gh w i.val i_1.val).length+1)*32<=140737488355328/\
 Nx (vU w q A i.val) i_1 ([aj 0 0,bS,δ 14 0 ((gh w i.val i_1.val).length+1),cC],[ω,χ,χ,χ,χ,χ,χ,cD A,bN,bq,bP,aO,bj,aC,ξ 59 4 (az (gh w i.val i_1.val).length (gh w i.val i_1.val)++[[ζ (ν Z n),ζ (ν Z n_1),ζ (ν Z n_2),ζ (ν Z eJ)]])]))/\
 ((n != 4)=false->
 au))/\
 ((n == (↑i.val:Int))=false->
 au))/\
 (decide (fv)=false->
 (aH/\
 True)/\
 ∃(l:List Hy.Call),ay 0 b9=φ Hy.bL l/\
 l.length<=1000/\
 ∀(b:Bool) (o t:List Int),let dz:=(ints Z (o++t));Hy.L0 l b o->
 ox dz.flatten/\
 ((!b)=true->
 K (θ false) η)/\
 ((!b)=false->
 (aH/\
 o.length<=dz.length/\
 True)/\
 ∃(l:List Hy.Call),∃(h_:List Int),ay 0 b9=φ Hy.bL l/\
 ay 0 (az o.length dz)=ints Z h_/\
 Hy.LF l h_/\
 ∀(b:Bool),(b=true ↔ Hy.tv l h_)->
 True/\
 ((!b)=true->
 K (θ false) η)/\
 ((!b)=false->
 Nx (I8 w q A) i ([aj 0 0,ε Z (Z.wrap ((↑i.val:Int)+1))],η)))))/\
 (decide ((↑i.val:Int)<2)=false->
 K (θ true) η)
 ):aI Tryz.prog Mk (RA w q A 19) 19 [aj 0 0] (mJ w q A) (eZ eP (dp 8 K)):=by apply Eq.mp (a:=an);kernel_rfl
theorem acU:dF Tryz.prog I9:=fun f k h=>by
 unfold I9 at h
 split at h
 ·cases h;exact Hy.acM
 ·cases h;exact Hy.acq
 ·cases h
theorem V0:bZ Tryz.prog Mk:=dI mixed acU aG 10
structure DO (w:Wd):Prop where
 cl:w.cs.length<=13
 wt:∀ bk:Nat,bk<2->∃ r,Hy.w_ ((eF (bk:Int) w.cs).map mR) r
def Lo:List V->Wd->(V->Wd->Prop)->Prop:=fun rest w k=>jB rest/\DO w/\k (θ true) w
theorem Rz {w:Wd} {b i:Nat} (h:i<w.cs.length):gh w b (i+1)=gh w b i++(if mQ (b:Int) w.cs[i]=true then[Hy.bL (mR w.cs[i])]else[]):=by
 unfold gh eF
 rw[i_,bp h,List.filter_append,jy,jy]
 congr 1
 show φ Hy.bL (φ mR ([w.cs[i]].filter (mQ (b:Int))))=_
 rw[List.filter_cons]
 split<;>rfl
theorem acT (w:Wd) (b i:Nat):(gh w b i).length<=w.cs.length:=by
 unfold gh eF
 rw[bX,bX]
 exact mf (List.length_filter_le ..) (by rw[cQ];omega)
theorem ab1:aN Tryz.prog 19 (WM Lo):=mE V0 mixed eP (fun args kb K h=>by
 unfold WM at h;split at h<;>try exact h.elim
 obtain⟨w,q,A,⟨rfl⟩,hp,⟨rfl⟩,hc,h⟩:=h
 have hK:=h q A hp
 refine⟨RA w q A 19,?_⟩
 show aI _ _ _ _ _ _ (eZ eP (dp 8 K))
 apply agX w q A K
 have hcl:=hc.cl
 dsimp only
 refine⟨At.mk' (⟨0,bt _⟩:{i:Nat // i<=2}) rfl,?_⟩
 rintro⟨b,hb⟩
 dsimp only
 refine⟨fun hlt=>⟨At.mk' (⟨0,bt _⟩:{i:Nat // i<=w.cs.length}) rfl,?_⟩,fun _=>hK⟩
 have fx:b<2:=by rw[decide_eq_true_eq]at hlt;omega
 rintro⟨i,hi⟩
 dsimp only
 have hrl:=acT w b i
 refine⟨fun hlt=>?_,fun hge=>?_⟩
 ·have hlt:i<w.cs.length:=by rw[decide_eq_true_eq]at hlt;omega
  have hin:bw (i:Int) (w.cs.length - 0):=by unfold bw;omega
  have hg:(w.cs.map cF)[0+(i:Int).toNat]? =some (cF w.cs[i]):=by rw[c9,cP,fE,bp hlt];rfl
  have ew:Z.wrap ((i:Int)+1)=((i+1:Nat):Int):=by rw[bD (by omega) (by omega)];omega
  have no:mQ (b:Int) w.cs[i]=false->gh w b (i+1)=gh w b i:=fun t=>by rw[Rz hlt,t];simp
  rw[ew]
  have Q3:mQ (b:Int) w.cs[i]=false->∀ s,s=(vU w q A b).st ⟨i+1,hlt⟩->Nx (vU w q A b) ⟨i,hi⟩ s:=fun _ s hs=>Nx.mk' (⟨i+1,hlt⟩:{i:Nat // i<=w.cs.length}) hs (by show w.cs.length - (i+1)<w.cs.length - i;omega)
  refine⟨hin,_,hg,_,rfl,fun h1=>⟨hin,_,hg,_,rfl,fun h2=>⟨hin,_,hg,_,rfl,_,rfl,_,rfl,_,rfl,av _,av _,by omega,?_⟩,fun h2=>?_⟩,fun h1=>?_⟩
  ·have ht:mQ (b:Int) w.cs[i]=true:=by
    unfold mQ
    rw[decide_eq_true_eq]
    exact⟨by simpa using h1,by simpa using h2⟩
   refine Nx.mk' (⟨i+1,hlt⟩:{i:Nat // i<=w.cs.length}) ?_ (by show w.cs.length - (i+1)<w.cs.length - i;omega)
   have e1:gh w b (i+1)=gh w b i++[Hy.bL (mR w.cs[i])]:=by rw[Rz hlt,if_pos ht]
   show _=([_,_,δ 14 0 (gh w b (i+1)).length,_],eE w q A++[ξ 59 4 (gh w b (i+1))])
   rw[e1,bn,eM (av _)]
   rfl
  ·have ht:mQ (b:Int) w.cs[i]=false:=by
    unfold mQ
    rw[decide_eq_false_iff_not]
    exact fun t=>t.2 (by simpa using h2)
   refine Q3 ht _ ?_
   show _=([_,_,δ 14 0 (gh w b (i+1)).length,_],eE w q A++[ξ 59 4 (gh w b (i+1))])
   rw[no ht];rfl
  ·have ht:mQ (b:Int) w.cs[i]=false:=by
    unfold mQ
    rw[decide_eq_false_iff_not]
    exact fun t=>(by simpa using h1:¬ w.cs[i].o.bk=(b:Int)) t.1
   refine Q3 ht _ ?_
   show _=([_,_,δ 14 0 (gh w b (i+1)).length,_],eE w q A++[ξ 59 4 (gh w b (i+1))])
   rw[no ht];rfl
 ·have Hk:i=w.cs.length:=by rw[decide_eq_false_iff_not]at hge;omega
  subst Hk
  have er:gh w b w.cs.length=((eF (b:Int) w.cs).map mR).map Hy.bL:=by unfold gh;rw[cM]
  have ed:ay 0 (az (gh w b w.cs.length).length (gh w b w.cs.length))=((eF (b:Int) w.cs).map mR).map Hy.bL:=by rw[g_,cM,er]
  have ah8:((eF (b:Int) w.cs).map mR).length<=13:=by
   rw[bX];exact mf (List.length_filter_le ..) hcl
  refine⟨⟨av _,trivial⟩,_,ed,by omega,fun f o t hw=>⟨?_,fun hf=>?_,fun hf=>?_⟩⟩
  ·exact⟨oP⟩
  ·have hf:f=false:=by simpa using hf
   rcases(hw.f hf).2 with q | q
   ·omega
   ·exact absurd (hc.wt b fx) q
  ·have hf:f=true:=by simpa using hf
   have lD:=hw.t hf
   have fy:o.length<=1000:=by
    obtain⟨r,rfl,hr⟩:=lD
    have:=Hy.IH (Hy.S2 hr.1) (fun x hx=>Hy.SY hr.1 x hx)
    unfold Hy.nz
    rw[bX]
    omega
   refine⟨⟨av _,by rw[bi,bn];omega,trivial⟩,_,o,ed,?_,⟨by omega,by omega⟩,fun g hg=>⟨trivial,fun q=>?_,fun _=>?_⟩⟩
   ·rw[g_,py,List.take_append_of_le_length (by rw[bi];exact av _),eM (by rw[bi];exact av _)]
   ·have:=hg.2 lD;rw[this]at q;cases q
   ·refine Nx.mk' (⟨b+1,fx⟩:{i:Nat // i<=2}) ?_ (by show 2 - (b+1)<2 - b;omega)
    rw[bD (by omega) (by omega)]
    rfl)
abbrev FJ (l:List Sp):LI where
 α:={x:pQ // zw l x}
 live:=[0,3,4]
 st x:=([aD (.sl 5 (l.map nX)),aj 0 0,.int Z (x.1.i:Int)],mJ x.1.W x.1.q x.1.A)
 μ x:=l.length - x.1.i
def Xf (l:List Sp):FuncId->Nat->Option LI
 | 5,7=>some (FJ l)
 |_,_=>none
def FL:FuncId->Option dA
 | 8=>some ⟨[.iD],LR⟩
 | 9=>some ⟨[.iD],WM GStep⟩
 | 19=>some ⟨[.iD],WM Lo⟩
 | 7=>some ⟨[.iD],DW⟩
 |_=>none
noncomputable def EK (l:List Sp):bJ:=dG Tryz.prog FL (Xf l) 10
theorem agY (l:List Sp) (an:
 (decide ((↑(φ nX l).length:Int) > 120)=true->
 true=true)/\
 (decide ((↑(φ nX l).length:Int) > 120)=false->
 ∃(l_1:List (Nat×κ)),cW [] l_1/\
 ∀(W:Wd),W=ky 4->
 ∀(q:List (Nat×Nat)) (A':List (Sg×KB)),PW A' q W.R->
 At (FJ l) ([aD (ψ 5 (φ nX l)),aj 0 0,ε Z 0],[ar [δ 1 0 W.R.length,δ 2 0 W.dk.length,δ 3 0 W.vs.length,δ 4 0 W.af.length,δ 5 0 W.cs.length,δ 6 0 W.aW.length,ε Z W.now,θ W.ok],ξ 30 1 (φ cj q),ξ 23 1 (φ bx W.dk),ξ 49 5 (φ dL W.vs),ξ 73 3 (φ cH W.af),ξ 61 10 (φ cF W.cs),ξ 3 1 (ints Z W.aW),cD A'])/\
 ∀(i:{x:pQ // zw l x }),let bj:=ξ 49 5 (φ dL i.val.W.vs);let aO:=ξ 23 1 (φ bx i.val.W.dk);let aC:=ξ 61 10 (φ cF i.val.W.cs);let aH:=ξ 73 3 (φ cH i.val.W.af);let au:=ξ 3 1 (ints Z i.val.W.aW);let ω:=(↑i.val.i:Int)<(↑(φ nX l).length:Int);let η:=ar [δ 1 0 i.val.W.R.length,δ 2 0 i.val.W.dk.length,δ 3 0 i.val.W.vs.length,δ 4 0 i.val.W.af.length,δ 5 0 i.val.W.cs.length,δ 6 0 i.val.W.aW.length,ε Z i.val.W.now,θ i.val.W.ok];(decide (ω)=true->
 aB (↑i.val.i:Int)/\
 ∃(e:List D),(φ nX l)[(↑i.val.i:Int).toNat]? =some e/\
 ∃(n:Int),e[0]? =some (ζ (ν Z n))/\
 ∃(n_1:Int),e[1]? =some (ζ (ν Z n_1))/\
 ∃(n_2:Int),e[2]? =some (ζ (ν Z n_2))/\
 ∃(eJ:Int),e[3]? =some (ζ (ν Z eJ))/\
 ∃(b:Bool),e[4]? =some (ζ (nE b))/\
 ∃(w:Wd),∃(q:List (Nat×Nat)),∃(A:List (Sg×KB)),og [η,ξ 30 1 (φ cj i.val.q),aO,bj,aH,aC,au,cD i.val.A] w q A/\
 PW A q w.R/\
 ∃(s:Sp),[fF [ε Z n,ε Z n_1,ε Z n_2,ε Z eJ,θ b]]=[rL s]/\
 D8 w s/\
 ∀(w':Wd),w'=gM w s->
 ∀(q':List (Nat×Nat)) (A':List (Sg×KB)),PW A' q' w'.R->
 ((!w'.ok)=true->
 False)/\
 ((!w'.ok)=false->
 Nx (FJ l) i ([aD (ψ 5 (φ nX l)),aj 0 0,ε Z (Z.wrap ((↑i.val.i:Int)+1))],[ar [δ 1 0 w'.R.length,δ 2 0 w'.dk.length,δ 3 0 w'.vs.length,δ 4 0 w'.af.length,δ 5 0 w'.cs.length,δ 6 0 w'.aW.length,ε Z w'.now,θ w'.ok],ξ 30 1 (φ cj q'),ξ 23 1 (φ bx w'.dk),ξ 49 5 (φ dL w'.vs),ξ 73 3 (φ cH w'.af),ξ 61 10 (φ cF w'.cs),ξ 3 1 (ints Z w'.aW),cD A'])))/\
 (decide (ω)=false->
 ∃(w:Wd),∃(q:List (Nat×Nat)),∃(A:List (Sg×KB)),og [η,ξ 30 1 (φ cj i.val.q),aO,bj,aH,aC,au,cD i.val.A] w q A/\
 PW A q w.R/\
 jB []/\
 DO w/\
 ∀(q':List (Nat×Nat)) (A':List (Sg×KB)),PW A' q' w.R->
 (true=true->
 true=true)/\
 (true=false->
 False)))
 ):EK l 5 [aD (.sl 5 (l.map nX))] [] KT:=by apply Eq.mp (a:=an);kernel_rfl
theorem Xd:dF Tryz.prog FL:=fun f k h=>by
 unfold FL at h
 split at h
 ·cases h;exact abP
 ·cases h;exact acy
 ·cases h;exact ab1
 ·cases h;exact abe
 ·cases h
theorem VL (l:List Sp):bZ Tryz.prog (EK l):=dI mixed Xd _ 10
theorem acS {l:List Sp} (h:l.length<=120):DO (rH l):=by
 obtain⟨G,hJ⟩:=SW h
 exact⟨hJ.cs.ln,fun bk _=>ahW hJ.gi hJ.vi hJ.cs _⟩
theorem aar (l:List Sp):EK l 5 [aD (.sl 5 (l.map nX))] [] KT:=by
 apply agY l
 dsimp only
 rw[bX]
 refine⟨fun _=>rfl,fun h1=>?_⟩
 have hl:l.length<=120:=by rw[decide_eq_false_iff_not]at h1;omega
 refine⟨[],R9,fun W hW q A' p=>?_⟩
 subst hW
 refine⟨At.mk' (⟨⟨0,ky 4,q,A'⟩,bt _,rfl,p⟩:{x:pQ // zw l x}) rfl,?_⟩
 rintro⟨⟨i,W,q1,A1⟩,hi,hW,P1⟩
 dsimp only at hi hW P1 ⊢
 have HG:(l.take i).length=i:=by rw[cQ];omega
 have YG:WI (1+3*(i:Int)) W:=by
  have:=aeo (l:=l.take i) (by omega)
  rw[HG]at this
  rw[hW];exact this
 refine⟨fun hlt=>?_,fun hge=>?_⟩
 ·have hlt:i<l.length:=by rw[decide_eq_true_eq]at hlt;omega
  refine⟨by unfold aB;omega,nX l[i],by rw[cP,fE,bp hlt];rfl,_,rfl,_,rfl,_,rfl,_,rfl,_,rfl,W,q1,A1,⟨rfl⟩,P1,l[i],rfl,(Kh YG (by omega) _).1,fun w' hw' q' A' p'=>?_⟩
  have hr:w'=rH (l.take (i+1)):=by rw[hw',hW,aeq hlt]
  have hok:w'.ok=true:=by
   obtain⟨G,hJ⟩:=SW (l:=l.take (i+1)) (by rw[cQ];omega)
   rw[hr];exact hJ.ok
  refine⟨fun t=>(by rw[hok]at t;cases t),fun _=>?_⟩
  refine Nx.mk' (⟨⟨i+1,w',q',A'⟩,hlt,hr,p'⟩:{x:pQ // zw l x}) ?_ (by show l.length - (i+1)<l.length - i;omega)
  rw[bD (by omega) (by omega)]
  rfl
 ·have hi:i=l.length:=by rw[decide_eq_false_iff_not]at hge;omega
  subst hi
  have hr:W=rH l:=by rw[hW,cM]
  exact⟨W,q1,A1,⟨rfl⟩,P1,⟨rfl⟩,by rw[hr];exact acS hl,fun q' A' p'=>⟨fun _=>rfl,fun t=>(by cases t)⟩⟩
end Go.Proofs.YtfcjngcnifdmnaaGreat
