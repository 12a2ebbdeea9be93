import Derived.Test.YtfcjngcnifdmnaaGreatQf
import Derived.KernelRfl
namespace Go.Proofs.YtfcjngcnifdmnaaGreat
open Vc Go
open Go.IntKind renaming i64->Z,u8->ι,u32->ic
open Vc.V renaming any->γ,sl->δ,int->ε,sb->θ,ptr->aj,υ->aw,dat->aD,aa->aP,mp->aX,arr->bB,agg->fF
open Vc.D renaming val->ζ,sl->ψ
open Go.Value renaming int->ν,map->kq,oneCell'->lU,bool->nE
open Vc.KO renaming row->ξ,dead->χ,cells->ar,objs->cD
open List renaming map->φ,drop->ay,take->az,length_append->bn,getElem?_eq_getElem->bp,getElem?_eq_some_iff->bG,length_map->bX,take_length->cM,length_take->cQ,replicate->dq,mem_append->dM,append_assoc->dO,getElem?_append_left->dP,mem_singleton->dQ,Mem->dS,mem_cons->ey,mem_map->eL,take_of_length_le->eM,getElem?_append_right->eW,mem_of_getElem?->fi,append_nil->fD,getElem?_map->fE,mem_cons_of_mem->fM,length_drop->fQ,getElem?_set_ne->gr,getD_eq_getElem?_getD->gD,getElem?_eq_none->gO,drop_zero->g_,getElem?_take_of_lt->hU,getElem?_set_self->ig,length_singleton->ii,length_set->ir,mem_cons_self->iu,range->iw,mem_append_left->iL,length_cons->iZ,take_add_one->i_,flatten_cons->jm,getElem?_drop->jw,getElem?_of_mem->jx,map_append->jy,nil_append->jV,length_nil->kn,mem_filter->kM,ext_getElem?->lw,eq_nil_of_length_eq_zero->ma,map_cons->mb,mem_append_right->mc
open Nat renaming le_refl->av,zero_le->bt,beq->cp,eq_of_beq_eq_true->cU,zero_add->c9,add_assoc->gE,lor->iy,lt_or_ge->jX,sub_zero->lT,le_trans->mf
open Option renaming some->bb,bind_eq_some_iff->kP,map->mO
open Int renaming toNat_natCast->cP,le_refl->fa
open Bool renaming and_eq_true->km,not_eq_false'->lm,not_eq_true'->lR
set_option linter.unusedVariables false
set_option linter.unusedSimpArgs false
set_option maxRecDepth 100000
def H9:nB:=⟨0,0,⟨0,[],[],[]⟩⟩
def fO (w:Wd) (k:Nat):nB:=w.af.getD k H9
def kV (w:Wd) (k:Nat):Wd:={w with af:=w.af.eraseIdx k }
noncomputable def Be (w:Wd) (l:nB):Wd:={w with R:=w.R.set l.to.toNat (gF (ax w l.to.toNat) l.fr l.m) }
noncomputable def vn (w:Wd) (k:Nat):Wd:=hZ (Be (kV w k) (fO w k)) (fO w k).to.toNat
def Er:aE:=fun args kb K=>match args,kb with
 | [aD (.sl 1 B)],[]=>∃ m:dY,B=ints ι (mB m)/\kp m/\K (.υ [Ir m,.int Z 0]) []
 |_,_=>False
structure zr where
 W:Wd
 e:List D
 q:List (Nat×Nat)
 A:List (Sg×KB)
structure DF (w:Wd) (k:Nat) (x:zr):Prop where
 W:x.W=kV w k
 e:x.e=je (fO w k).m
 p:PW x.A x.q x.W.R
abbrev NC (w:Wd) (k:Nat) (l:nB):LI where
 α:={x:zr // DF w k x}
 live:=[0,4,5,40]
 dU:=eP++[.q9 2]
 st x:=([aj 0 0,aj 14 0,.dK x.1.e 0,θ true],[jN 8 x.1.W,χ,χ,χ,χ,χ,χ,cD x.1.A,kD x.1.q,kX x.1.W,kE x.1.W,kg x.1.W,lL x.1.W,lM x.1.W,ar [.int Z l.fr,.int Z l.to,aD (.sl 1 (ints ι (mB l.m)))]])
 μ x:=0
def yY (w:Wd) (i:Nat):Vw:=w.vs.getD i ⟨0,0,0,[],[]⟩
def cK (w:Wd):Vw:=yY w (w.vs.length - 1)
def gG (c:Vw):Int:=c.mem.getD 0 0
def pN (w:Wd) (s:Sp) (a:Int):Wd:=
 if bM s.k 3=2/\¬ (gW (ax w (gG (cK w)).toNat)=true/\(ax w (gG (cK w)).toNat).ep=(cK w).ve)then w
 else if(lG (cK w) (bM s.k 3) a).ve≠(cK w).ve then{w with vs:=w.vs++[lG (cK w) (bM s.k 3) a] }else w
structure EG (w:Wd) (s:Sp) (x:lx):Prop where
 e:x.e=dL (cK w)
 b:x.b=(bM s.k 3 == 2)
 p:PW x.A x.q w.R
abbrev Um (w:Wd) (s:Sp) (a:Int):LI where
 α:={x:lx // EG w s x}
 live:=[0,2,6,7,30]
 dU:=eP++[.q9 2]
 st x:=([aj 0 0,.int Z a,.dK x.1.e 0,.int Z (bM s.k 3),θ x.1.b],eE w x.1.q x.1.A)
 μ x:=0
structure Al (w:Wd) (s:Sp) (x:lx):Prop where
 e:x.e=dL (cK w)
 ok:bM s.k 3=2->gW (ax w (gG (cK w)).toNat)=true/\(ax w (gG (cK w)).toNat).ep=(cK w).ve
 p:PW x.A x.q w.R
abbrev KC (w:Wd) (s:Sp) (a:Int):LI where
 α:={x:lx // Al w s x}
 live:=[0,2,6,7]
 dU:=eP
 st x:=([aj 0 0,.int Z a,.dK x.1.e 0,.int Z (bM s.k 3)],eE w x.1.q x.1.A)
 μ x:=0
structure EI (w:Wd) (s:Sp) (a:Int) (x:lx):Prop where
 e:x.e=dL (lG (cK w) (bM s.k 3) a)
 b:x.b=((lG (cK w) (bM s.k 3) a).ve != (cK w).ve)
 p:PW x.A x.q w.R
abbrev Un (w:Wd) (s:Sp) (a:Int):LI where
 α:={x:lx // EI w s a x}
 live:=[0,13,76]
 dU:=eP++[.q9 1]
 st x:=([aj 0 0,.dK x.1.e 0,θ x.1.b],eE w x.1.q x.1.A)
 μ x:=0
def AI (w:Wd) (s:Sp) (a:Int) (k:Nat) (l:nB):FuncId->Nat->Option LI
 | 27,1004=>some (NC w k l)
 | 28,1004=>some (Um w s a)
 | 28,1007=>some (KC w s a)
 | 28,1009=>some (Un w s a)
 |_,_=>none
def Eg:aE:=fun args kb K=>match args,kb with
 | [.agg [.int Z vi,.int Z vv,.int Z ve,aD (.sl 1 M),aD (.sl 1 J)],.int Z ch,.int Z id],[]=>∃ m j:List Int,M=ints Z m/\J=ints Z j/\m.length<=1000/\j.length<=1000/\qE ve/\ve<=1000000/\∀ x:Vw,x=lG ⟨vi,vv,ve,m,j⟩ ch id->K (y0 x) []
 |_,_=>False
def FU:FuncId->Option dA
 | 59=>some ⟨[],Er⟩
 | 61=>some ⟨[],Eg⟩
 |f=>yR f
noncomputable def EL:bJ:=dG Tryz.prog FU aG 10
theorem agp (w:Wd) (k:Nat) (l:nB) (q:List (Nat×Nat)) (A:List (Sg×KB)) (K:V->KB->Prop) (an:
 let au:=(az (0+(w.af.length - 0)) (φ cH w.af));let ω:=(Z.wrap ((↑k:Int)+1));let η:=(az (0+(↑k:Int).toNat) (φ cH w.af));bw (↑k:Int) (w.af.length - 0)/\
 ∃(e:List D),(φ cH w.af)[0+(↑k:Int).toNat]? =some e/\
 ∃(n:Int),e[0]? =some (ζ (ν Z n))/\
 ∃(n_1:Int),e[1]? =some (ζ (ν Z n_1))/\
 ∃(l_1:List (List D)),e[2]? =some (ψ 1 l_1)/\
 True/\
 aB (↑k:Int)/\
 0<=(↑k:Int).toNat/\
 (↑k:Int).toNat<=w.af.length - 0/\
 aB ω/\
 True/\
 ω.toNat<=w.af.length - 0/\
 w.af.length - 0<=w.af.length - 0/\
 True/\
 True/\
 True/\
 True/\
 0+(↑k:Int).toNat<=(φ cH w.af).length/\
 0<=0/\
 (0+(ay 0 η).length)*40<=140737488355328/\
 0+(w.af.length - 0)<=(φ cH w.af).length/\
 0+(ay 0 η).length<=([]++ay 0 η).length/\
 (0+(ay 0 η).length+(ay (0+ω.toNat) au).length)*40<=140737488355328/\
 ∃(m:dY),l_1=ints ι (mB m)/\
 kp m/\
 At (NC w k l) ([aj 0 0,aj 14 0,V.dK [ζ (ν Z m.kd),ψ 1 (ints Z m.n),ψ 1 (ints ι m.b),ψ 1 (cf m.l)] 0,θ true],[ar [δ 8 0 w.R.length,δ 9 0 w.dk.length,δ 10 0 w.vs.length,δ 11 0 (0+(ay 0 η).length+(ay (0+ω.toNat) au).length),δ 12 0 w.cs.length,δ 13 0 w.aW.length,ε Z w.now,θ w.ok],χ,χ,χ,χ,χ,χ,cD A,ξ 30 1 (φ cj q),ξ 23 1 (φ bx w.dk),ξ 49 5 (φ dL w.vs),ξ 73 3 (az (0+(ay 0 η).length) ([]++ay 0 η)++ay (0+ω.toNat) au),ξ 61 10 (φ cF w.cs),ξ 3 1 (ints Z w.aW),ar [ε Z n,ε Z n_1,aD (ψ 1 l_1)]])/\
 ∀(i:{x:zr // DF w k x }),let bq:=ξ 49 5 (φ dL i.val.W.vs);let bj:=ξ 23 1 (φ bx i.val.W.dk);let aO:=ξ 61 10 (φ cF i.val.W.cs);let aC:=ξ 73 3 (φ cH i.val.W.af);let aH:=ξ 3 1 (ints Z i.val.W.aW);(true=true->
 bw l.to (i.val.W.R.length - 0)/\
 ∃(e:List D),(φ cj i.val.q)[0+l.to.toNat]? =some e/\
 ∃(v:Value),e[0]? =some (ζ v)/\
 ∃(n:Int),i.val.e[0]? =some (ζ (ν Z n))/\
 ∃(l_2:List (List D)),i.val.e[1]? =some (ψ 1 l_2)/\
 ∃(iT:List (List D)),i.val.e[2]? =some (ψ 1 iT)/\
 ∃(gH:List (List D)),i.val.e[3]? =some (ψ 1 gH)/\
 ∃(oJ:List (Nat×κ)),∃(i_1:Nat),∃(b:Nat),∃(R:κ),cW i.val.A oJ/\
 oJ[i_1]? =some (b,R)/\
 ζ v=ζ (pv b)/\
 ∃(fr:Int),∃(m:dY),[ε Z l.fr,fF [ε Z n,aD (ψ 1 l_2),aD (ψ 1 iT),aD (ψ 1 gH)]]=[ε Z fr,Ir m]/\
 bA R/\
 kN m/\
 ∀(A':List (Sg×KB)),cW A' (oJ.set i_1 (b,gF R fr m))->
 ∃(w_1:Wd),∃(q:List (Nat×Nat)),∃(A:List (Sg×KB)),og [ar [δ 1 0 i.val.W.R.length,δ 2 0 i.val.W.dk.length,δ 3 0 i.val.W.vs.length,δ 4 0 i.val.W.af.length,δ 5 0 i.val.W.cs.length,δ 6 0 i.val.W.aW.length,ε Z i.val.W.now,θ i.val.W.ok],ξ 30 1 (φ cj i.val.q),bj,bq,aC,aO,aH,cD A'] w_1 q A/\
 PW A q w_1.R/\
 ∃(i:Nat),[ε Z l.to]=[ε Z (↑i:Int)]/\
 kL w_1 i/\
 ∀(w':Wd),w'=hZ w_1 i->
 ∀(q':List (Nat×Nat)) (A':List (Sg×KB)),PW A' q' w'.R->
 K (aw []) [ar [δ 8 0 w'.R.length,δ 9 0 w'.dk.length,δ 10 0 w'.vs.length,δ 11 0 w'.af.length,δ 12 0 w'.cs.length,δ 13 0 w'.aW.length,ε Z w'.now,θ w'.ok],χ,χ,χ,χ,χ,χ,cD A',ξ 30 1 (φ cj q'),ξ 23 1 (φ bx w'.dk),ξ 49 5 (φ dL w'.vs),ξ 73 3 (φ cH w'.af),ξ 61 10 (φ cF w'.cs),ξ 3 1 (ints Z w'.aW)])/\
 (true=false->
 K (aw []) [ar [δ 8 0 i.val.W.R.length,δ 9 0 i.val.W.dk.length,δ 10 0 i.val.W.vs.length,δ 11 0 i.val.W.af.length,δ 12 0 i.val.W.cs.length,δ 13 0 i.val.W.aW.length,ε Z i.val.W.now,θ i.val.W.ok],χ,χ,χ,χ,χ,χ,cD i.val.A,ξ 30 1 (φ cj i.val.q),bj,bq,aC,aO,aH])
 ):aI Tryz.prog EL (AI w ⟨0,0,0,0,false⟩ 0 k l 27) 27 [aj 0 0,.int Z (k:Int)] (mJ w q A) (eZ eP (dp 8 K)):=by apply Eq.mp (a:=an);kernel_rfl
theorem ahD (w:Wd) (s:Sp) (a:Int) (q:List (Nat×Nat)) (A:List (Sg×KB)) (K:V->KB->Prop) (an:
 let bq:=ε Z (bM s.k 3);let bj:=ξ 49 5 (φ dL w.vs);let aO:=ξ 23 1 (φ bx w.dk);let aC:=ξ 61 10 (φ cF w.cs);let aH:=ξ 73 3 (φ cH w.af);let au:=ξ 3 1 (ints Z w.aW);let ω:=ar [δ 8 0 w.R.length,δ 9 0 w.dk.length,δ 10 0 w.vs.length,δ 11 0 w.af.length,δ 12 0 w.cs.length,δ 13 0 w.aW.length,ε Z w.now,θ w.ok];bw (Z.wrap ((↑(w.vs.length - 0):Int) - 1)) (w.vs.length - 0)/\
 ∃(e:List D),(φ dL w.vs)[0+(Z.wrap ((↑(w.vs.length - 0):Int) - 1)).toNat]? =some e/\
 ∃(n:Int),e[0]? =some (ζ (ν Z n))/\
 ∃(n_1:Int),e[1]? =some (ζ (ν Z n_1))/\
 ∃(n_2:Int),e[2]? =some (ζ (ν Z n_2))/\
 ∃(l:List (List D)),e[3]? =some (ψ 1 l)/\
 ∃(l_1:List (List D)),e[4]? =some (ψ 1 l_1)/\
 (∃(e:List D),(φ dL w.vs)[0+(Z.wrap ((↑(w.vs.length - 0):Int) - 1)).toNat]? =some e/\
 ∃(n:Int),e[0]? =some (ζ (ν Z n))/\
 ∃(n:Int),e[1]? =some (ζ (ν Z n))/\
 ∃(n:Int),e[2]? =some (ζ (ν Z n))/\
 ∃(l:List (List D)),e[3]? =some (ψ 1 l)/\
 ∃(l:List (List D)),e[4]? =some (ψ 1 l)/\
 True)/\
 True/\
 True/\
 nA 3/\
 (At (Um w s a) ([aj 0 0,ε Z a,V.dK [ζ (ν Z n),ζ (ν Z n_1),ζ (ν Z n_2),ψ 1 l,ψ 1 l_1] 0,bq,θ (bM s.k 3 == 2)],[ω,χ,χ,χ,χ,χ,χ,cD A,ξ 30 1 (φ cj q),aO,bj,aH,aC,au])/\
 ∀(i:{x:lx // EG w s x }),(i.val.b=true->
 ∃(l:List (List D)),i.val.e[3]? =some (ψ 1 l)/\
 aB 0/\
 ∃(e:List D),l[0]? =some e/\
 ∃(n:Int),e[0]? =some (ζ (ν Z n))/\
 bw n (w.R.length - 0)/\
 ∃(e:List D),(φ cj i.val.q)[0+n.toNat]? =some e/\
 ∃(v:Value),e[0]? =some (ζ v)/\
 ∃(l:List (Nat×κ)),∃(i_1:Nat),∃(b:Nat),∃(R:κ),cW i.val.A l/\
 l[i_1]? =some (b,R)/\
 ζ v=ζ (pv b)/\
 jB []/\
 bA R/\
 ∀(A':List (Sg×KB)),cW A' (l.set i_1 (b,R))->
 ∃(l:List (List D)),i.val.e[3]? =some (ψ 1 l)/\
 aB 0/\
 ∃(e:List D),l[0]? =some e/\
 ∃(n:Int),e[0]? =some (ζ (ν Z n))/\
 bw n (w.R.length - 0)/\
 ∃(e:List D),(φ cj i.val.q)[0+n.toNat]? =some e/\
 ∃(v:Value),e[0]? =some (ζ v)/\
 ∃(l:List (Nat×κ)),∃(i_2:Nat),∃(b:Nat),∃(iz:κ),cW A' l/\
 l[i_2]? =some (b,iz)/\
 ζ v=ζ (pv b)/\
 jB []/\
 bA iz/\
 ∀(A':List (Sg×KB)),let η:KB:=[ar [δ 8 0 w.R.length,δ 9 0 w.dk.length,δ 10 0 w.vs.length,δ 11 0 w.af.length,δ 12 0 w.cs.length,δ 13 0 w.aW.length,ε Z w.now,θ w.ok],χ,χ,χ,χ,χ,χ,cD A',ξ 30 1 (φ cj i.val.q),aO,bj,aH,aC,au];cW A' (l.set i_2 (b,iz))->
 ((!gW iz)=true->
 K (aw []) η)/\
 ((!gW iz)=false->
 ∃(n:Int),i.val.e[2]? =some (ζ (ν Z n))/\
 ((R.ep != n)=true->
 K (aw []) η)/\
 ((R.ep != n)=false->
 At (KC w s a) ([aj 0 0,ε Z a,V.dK i.val.e 0,bq],η))))/\
 (i.val.b=false->
 At (KC w s a) ([aj 0 0,ε Z a,V.dK i.val.e 0,bq],[ω,χ,χ,χ,χ,χ,χ,cD i.val.A,ξ 30 1 (φ cj i.val.q),aO,bj,aH,aC,au])))/\
 ∀(i:{x:lx // Al w s x }),∃(n:Int),i.val.e[0]? =some (ζ (ν Z n))/\
 ∃(eJ:Int),i.val.e[1]? =some (ζ (ν Z eJ))/\
 ∃(iV:Int),i.val.e[2]? =some (ζ (ν Z iV))/\
 ∃(l:List (List D)),i.val.e[3]? =some (ψ 1 l)/\
 ∃(l_2:List (List D)),i.val.e[4]? =some (ψ 1 l_2)/\
 ∃(m:List Int),∃(j:List Int),l=ints Z m/\
 l_2=ints Z j/\
 m.length<=1000/\
 j.length<=1000/\
 qE iV/\
 iV<=1000000/\
 ∀(x:Vw),x=lG {vi:=n,vv:=eJ,ve:=iV,mem:=m,aM:=j } (bM s.k 3) a->
 (∃(n:Int),i.val.e[2]? =some (ζ (ν Z n))/\
 At (Un w s a) ([aj 0 0,V.dK [ζ (ν Z x.vi),ζ (ν Z x.vv),ζ (ν Z x.ve),ψ 1 (ints Z x.mem),ψ 1 (ints Z x.aM)] 0,θ (x.ve != n)],[ω,χ,χ,χ,χ,χ,χ,cD i.val.A,ξ 30 1 (φ cj i.val.q),aO,bj,aH,aC,au]))/\
 ∀(i:{x:lx // EI w s a x }),(i.val.b=true->
 ∃(n:Int),i.val.e[0]? =some (ζ (ν Z n))/\
 ∃(nf:Int),i.val.e[1]? =some (ζ (ν Z nf))/\
 ∃(nP:Int),i.val.e[2]? =some (ζ (ν Z nP))/\
 ∃(l:List (List D)),i.val.e[3]? =some (ψ 1 l)/\
 ∃(iT:List (List D)),i.val.e[4]? =some (ψ 1 iT)/\
 True/\
 1<=1/\
 w.vs.length<=(φ dL w.vs).length/\
 (w.vs.length+1)*72<=140737488355328/\
 K (aw []) [ar [δ 8 0 w.R.length,δ 9 0 w.dk.length,δ 10 0 (w.vs.length+1),δ 11 0 w.af.length,δ 12 0 w.cs.length,δ 13 0 w.aW.length,ε Z w.now,θ w.ok],χ,χ,χ,χ,χ,χ,cD i.val.A,ξ 30 1 (φ cj i.val.q),aO,ξ 49 5 (az w.vs.length (φ dL w.vs)++[[ζ (ν Z n),ζ (ν Z nf),ζ (ν Z nP),ψ 1 l,ψ 1 iT]]),aH,aC,au])/\
 (i.val.b=false->
 K (aw []) [ω,χ,χ,χ,χ,χ,χ,cD i.val.A,ξ 30 1 (φ cj i.val.q),aO,bj,aH,aC,au])
 ):aI Tryz.prog EL (AI w s a 0 H9 28) 28 [aj 0 0,rL s,.int Z a] (mJ w q A) (eZ eP (dp 8 K)):=by apply Eq.mp (a:=an);kernel_rfl
theorem acp:aN Tryz.prog 59 Er:=fun args kb K hs=>Fm.aco args kb K (by
 unfold Er at hs;split at hs<;>try exact hs.elim
 obtain⟨m,rfl,hm,h⟩:=hs
 have hl:=Fm.aec hm.r
 refine⟨mB m,rfl,CL (Fm.Sk hm.r hm.b),by unfold mB;rw[oS];omega,?_⟩
 unfold mB
 rw[Fm.adU hm.r]
 exact h)
theorem abX:aN Tryz.prog 61 Eg:=fun args kb K hs=>abW args kb K (by
 unfold Eg at hs;split at hs<;>try exact hs.elim
 obtain⟨m,j,rfl,rfl,h1,h2,h3,h4,h⟩:=hs
 exact⟨m,j,rfl,rfl,h1,h2,h3.lo,h4,h _ rfl⟩)
theorem Xu:dF Tryz.prog FU:=fun f k h=>by
 unfold FU at h
 split at h
 ·cases h;exact acp
 ·cases h;exact abX
 ·exact Kl _ _ h
theorem L8:bZ Tryz.prog EL:=dI mixed Xu aG 10
theorem Fg {w:Wd} {k:Nat} (h:k<w.af.length):w.af[k]? =some (fO w k):=by
 unfold fO;rw[gD,bp h];rfl
theorem Tl {α:Type} {M:List α} {k n:Nat} (hk:k<M.length) (hn:n=M.length):az (0+(ay 0 (az (0+k) M)).length) ([]++ay 0 (az (0+k) M))++ay (0+(k+1)) (az (0+(n - 0)) M)=M.eraseIdx k:=by
 subst hn
 rw[wm,lT,c9,c9,c9,jV,cM,cM,List.eraseIdx_eq_take_drop_succ]
theorem Tm {α:Type} {M:List α} {k n:Nat} (hk:k<M.length) (hn:n=M.length):0+(ay 0 (az (0+k) M)).length+(ay (0+(k+1)) (az (0+(n - 0)) M)).length=(M.eraseIdx k).length:=by
 subst hn
 rw[wm,lT,c9,c9,c9,cM,List.length_eraseIdx_of_lt hk,cQ,fQ];omega
theorem Qn {α β:Type} (f:α->β) (M:List α) (k:Nat):(M.eraseIdx k).map f=(M.map f).eraseIdx k:=by
 rw[List.eraseIdx_eq_take_drop_succ,List.eraseIdx_eq_take_drop_succ,jy,List.map_take,List.map_drop]
structure zq (w:Wd) (k:Nat):Prop where
 hk:k<w.af.length
 bl:w.af.length<=10000
 t0:0<=(fO w k).to
 t1:(fO w k).to<w.R.length
 rt:kp (fO w k).m
 mo:kN (fO w k).m
 r:bA (ax w (fO w k).to.toNat)
 c:kL (Be (kV w k) (fO w k)) (fO w k).to.toNat
def Li:List V->Wd->(V->Wd->Prop)->Prop:=fun rest w k=>∃ i:Nat,rest=[.int Z (i:Int)]/\zq w i/\∀ w',w'=vn w i->k (.υ []) w'
theorem abt:aN Tryz.prog 27 (WM Li):=mE L8 mixed eP (fun args kb K h=>by
 unfold WM at h;split at h<;>try exact h.elim
 obtain⟨w,q,A,⟨rfl⟩,hp,k,rfl,hc,h⟩:=h
 refine⟨AI w ⟨0,0,0,0,false⟩ 0 k (fO w k) 27,?_⟩
 show aI _ _ _ _ _ _ (eZ eP (dp 8 K))
 apply agp w k (fO w k) q A K
 dsimp only
 have hk:=hc.hk
 have cd:=hc.bl
 have hg:=Fg hk
 have w1:Z.wrap ((k:Int)+1)=((k+1:Nat):Int):=by rw[bD (by omega) (by omega)];rfl
 have hM:k<(w.af.map cH).length:=by rw[bX];exact hk
 have hL:w.af.length=(w.af.map cH).length:=by rw[bX]
 have t0:=hc.t0
 have t1:=hc.t1
 obtain⟨to,hto⟩:∃ to:Nat,(fO w k).to=(to:Int):=⟨(fO w k).to.toNat,by omega⟩
 have qR:(w.af.map cH)[0+(k:Int).toNat]? =some (cH (fO w k)):=by rw[c9,cP,fE,hg];rfl
 have mZ:=hc.rt
 have hmo:=hc.mo
 have hr:=hc.r
 have tS:=hc.c
 have hst:vn w k=hZ (Be (kV w k) (fO w k)) (fO w k).to.toNat:=rfl
 clear hc
 generalize hl:fO w k=l at*
 have htn:l.to.toNat=to:=by omega
 rw[w1,cP,cP]at*
 have hel:(kV w k).af.length=((w.af.map cH).eraseIdx k).length:=by
  show(w.af.eraseIdx k).length=_
  rw[List.length_eraseIdx_of_lt hk,List.length_eraseIdx_of_lt hM,bX]
 have hem:(kV w k).af.map cH=(w.af.map cH).eraseIdx k:=by
  show(w.af.eraseIdx k).map cH=_
  exact Qn cH w.af k
 try dsimp only
 rw[Tm hM hL]
 refine⟨by unfold bw;omega,_,qR,_,rfl,_,rfl,_,rfl,trivial,by unfold aB;omega,bt _,by omega,by unfold aB;omega,trivial,by omega,av _,trivial,trivial,trivial,trivial,by omega,av _,by simp only[fQ,cQ];omega,by omega,by simp,?_,l.m,rfl,mZ,?_⟩
 ·rw[<- hel];have:(kV w k).af.length<=w.af.length:=by show(w.af.eraseIdx k).length<=_;rw[List.length_eraseIdx_of_lt hk];omega
  omega
 refine⟨?_,?_⟩
 ·rw[Tl hM hL,<- hel,<- hem]
  exact At.mk' (⟨⟨kV w k,je l.m,q,A⟩,rfl,by rw[hl],hp⟩:{x:zr // DF w k x}) rfl
 rintro⟨⟨W,e,q1,A1⟩,hW,he,P1⟩
 dsimp only at hW he P1 ⊢
 subst hW he
 rw[hl]
 refine⟨fun _=>?_,fun t=>(by cases t)⟩
 have HG:to<w.R.length:=by omega
 have qW:(kV w k).R[to]? =some (ax w to):=sT HG
 obtain⟨l2,i,b,hq,hA,vC,dT⟩:=P1.get qW
 rw[htn]at hr tS hst
 refine⟨by show bw _ w.R.length;unfold bw;omega,_,by rw[htn];have:=ql hq;rw[cP]at this;exact this,_,rfl,_,rfl,_,rfl,_,rfl,_,rfl,l2,i,b,_,hA,vC,rfl,l.fr,l.m,rfl,hr,hmo,fun A2 p2=>⟨Be (kV w k) l,q1,A2,⟨?_⟩,?_,to,by rw[hto],tS,fun w' hw' q' A' p'=>h w' (by rw[hw',hst]) q' A' p'⟩⟩
 ·exact Dm (by show _=w.R.length;rw[ir];rfl) q1 A2
 ·have:=dT _ _ p2
  show PW A2 q1 (w.R.set l.to.toNat (gF (ax w l.to.toNat) l.fr l.m))
  rw[htn];exact this)
theorem wy {w:Wd} {i:Nat} (h:i<w.vs.length):w.vs[i]? =some (yY w i):=by
 unfold yY;rw[gD,bp h];rfl
structure EJ (w:Wd):Prop where
 vl:0<w.vs.length
 v1:w.vs.length<=10000
 ml:(cK w).mem.length<=1000
 jl:(cK w).aM.length<=1000
 m0:0<(cK w).mem.length
 h0:0<=gG (cK w)
 h1:gG (cK w)<w.R.length
 r:bA (ax w (gG (cK w)).toNat)
 e0:0<=(cK w).ve
 e1:(cK w).ve<=1000000
def Lv:List V->Wd->(V->Wd->Prop)->Prop:=fun rest w k=>∃(s:Sp) (a:Int),rest=[rL s,.int Z a]/\EJ w/\∀ w',w'=pN w s a->k (.υ []) w'
theorem acH:aN Tryz.prog 28 (WM Lv):=mE L8 mixed eP (fun args kb K h=>by
 unfold WM at h;split at h<;>try exact h.elim
 obtain⟨w,q,A,⟨rfl⟩,hp,s,a,rfl,hc,h⟩:=h
 refine⟨AI w s a 0 H9 28,?_⟩
 show aI _ _ _ _ _ _ (eZ eP (dp 8 K))
 apply ahD w s a q A K
 obtain⟨vl,v1,ml,jl,m0,h0,h1,hr,ve0,ve1⟩:=hc
 have w1:Z.wrap (((w.vs.length - 0:Nat):Int) - 1)=((w.vs.length - 1:Nat):Int):=by rw[bD (by omega) (by omega)];omega
 have hv:(w.vs.map dL)[0+((w.vs.length - 1:Nat):Int).toNat]? =some (dL (cK w)):=by
  rw[c9,cP,fE,wy (by omega)];rfl
 have Zh:nA 3:=⟨by omega,by omega⟩
 have hh:(cK w).mem.getD 0 0=gG (cK w):=rfl
 obtain⟨hd,Bj⟩:∃ n:Nat,gG (cK w)=(n:Int):=⟨(gG (cK w)).toNat,by omega⟩
 have hdn:(gG (cK w)).toNat=hd:=by omega
 have hdl:hd<w.R.length:=by omega
 rw[hdn]at hr
 have no:∀ q' A',PW A' q' w.R->bM s.k 3=2/\¬ (gW (ax w hd)=true/\(ax w hd).ep=(cK w).ve)->K (.υ []) (eE w q' A'):=fun q' A' p' t=>h w (by unfold pN;rw[hdn,if_pos t]) q' A' p'
 have hm0:(ints Z (cK w).mem)[0]? =some [ζ (.int Z (gG (cK w)))]:=by rw[kv,xM m0];rfl
 have hpt:∀{q1:List (Nat×Nat)} {k b:Nat},q1[hd]? =some (k,b)->(q1.map cj)[0+(gG (cK w)).toNat]? =some [ζ (pv b)]:=fun hq=>by have:=ql hq;rw[hdn];rw[cP]at this;exact this
 have ku:aB 0:=by unfold aB;omega
 have hin:bw (gG (cK w)) (w.R.length - 0):=by show bw _ w.R.length;unfold bw;omega
 dsimp only
 rw[w1]
 refine⟨by unfold bw;omega,_,hv,_,rfl,_,rfl,_,rfl,_,rfl,_,rfl,⟨_,hv,_,rfl,_,rfl,_,rfl,_,rfl,_,rfl,trivial⟩,trivial,trivial,Zh,⟨?_,?_⟩,?_⟩
 ·exact At.mk' (⟨⟨_,q,A,_⟩,rfl,rfl,hp⟩:{x:lx // EG w s x}) rfl
 ·rintro⟨⟨e,q1,A1,b⟩,he,hb,P1⟩
  dsimp only at he hb P1 ⊢
  subst he
  refine⟨fun tb=>?_,fun tb=>?_⟩
  ·rw[tb]at hb
   have hp2:bM s.k 3=2:=by simpa using hb.symm
   obtain⟨l,i,b',hq,hA,vC,dT⟩:=P1.get (sT hdl)
   refine⟨_,rfl,ku,_,hm0,_,rfl,hin,_,hpt hq,_,rfl,l,i,b',_,hA,vC,rfl,⟨rfl⟩,hr,fun A2 p2=>?_⟩
   have P2:=dT _ _ p2
   have hsame:w.R.set hd (ax w hd)=w.R:=by
    apply lw
    intro k
    by_cases ek:hd=k
    ·subst ek;rw[ig hdl,sT hdl]
    ·rw[gr ek]
   rw[hsame]at P2
   obtain⟨l',i',b'',pp,Yu,Zt,ZM⟩:=P2.get (sT hdl)
   refine⟨_,rfl,ku,_,hm0,_,rfl,hin,_,hpt pp,_,rfl,l',i',b'',_,Yu,Zt,rfl,⟨rfl⟩,hr,fun A3 p3=>?_⟩
   have P3:=ZM _ _ p3
   rw[hsame]at P3
   refine⟨fun t1=>?_,fun t1=>⟨_,rfl,fun t2=>?_,fun t2=>?_⟩⟩
   ·exact no _ _ P3 ⟨hp2,fun t=>by rw[t.1]at t1;cases t1⟩
   ·exact no _ _ P3 ⟨hp2,fun t=>by rw[t.2]at t2;simp at t2⟩
   ·exact At.mk' (⟨⟨_,q1,A3,true⟩,rfl,fun _=>by rw[hdn];exact⟨by simpa using t1,by simpa using t2⟩,P3⟩:{x:lx // Al w s x}) rfl
  ·rw[tb]at hb
   have hp2:¬ bM s.k 3=2:=by intro t;rw[t]at hb;cases hb
   exact At.mk' (⟨⟨_,q1,A1,true⟩,rfl,fun t=>absurd t hp2,P1⟩:{x:lx // Al w s x}) rfl
 rintro⟨⟨e,q1,A1,b⟩,he,hok,P1⟩
 dsimp only at he P1 ⊢
 subst he
 refine⟨_,rfl,_,rfl,_,rfl,_,rfl,_,rfl,(cK w).mem,(cK w).aM,rfl,rfl,ml,jl,⟨ve0,by omega⟩,ve1,fun x hx=>?_⟩
 have hx:x=lG (cK w) (bM s.k 3) a:=hx
 refine⟨⟨_,rfl,?_⟩,?_⟩
 ·exact At.mk' (⟨⟨dL x,q1,A1,x.ve != (cK w).ve⟩,by rw[<- hx],by rw[<- hx],P1⟩:{x:lx // EI w s a x}) rfl
 rintro⟨⟨e,q2,A2,b⟩,he,hb,P2⟩
 dsimp only at he hb P2 ⊢
 subst he
 rw[<- hx]at hb ⊢
 have hsk:¬ (bM s.k 3=2/\¬ (gW (ax w (gG (cK w)).toNat)=true/\(ax w (gG (cK w)).toNat).ep=(cK w).ve)):=fun t=>t.2 (hok t.1)
 refine⟨fun tb=>?_,fun tb=>?_⟩
 ·rw[tb]at hb
  have hne:x.ve≠(cK w).ve:=by simpa using hb.symm
  refine⟨_,rfl,_,rfl,_,rfl,_,rfl,_,rfl,trivial,av _,by rw[bX];exact av _,by omega,?_⟩
  have:=h {w with vs:=w.vs++[x] } (by unfold pN;rw[if_neg hsk,<- hx,if_pos hne]) q2 A2 P2
  have e1:(w.vs++[x]).length=w.vs.length+1:=by rw[bn];rfl
  have e2:(w.vs++[x]).map dL=az w.vs.length (w.vs.map dL)++[dL x]:=by
   rw[jy,eM (by rw[bX];exact av _)];rfl
  unfold eE jN kE at this
  dsimp only at this
  rw[e1,e2]at this
  exact this
 ·rw[tb]at hb
  have hne:¬ x.ve≠(cK w).ve:=by simpa using hb.symm
  exact h w (by unfold pN;rw[if_neg hsk,<- hx,if_neg hne]) q2 A2 P2)
def uq (R:κ) (a:Int):κ:=newR a 5 false R.ep R.nu R.c R.t
def dm (w:Wd):Wd:={w with now:=w.now+1 }
def cZ (w:Wd) (i:Nat) (R:κ):Wd:={w with R:=w.R.set i R }
def xF (w:Wd) (k:Nat):Wd:={w with af:=w.af++[fO w k] }
def C9 (w:Wd) (i:Nat):Wd:=hZ (cZ w i (gm (ax w i))) i
def il (w:Wd):Nat->Wd
 | 0=>w
 |i+1=>C9 (il w i) i
def mH (w:Wd) (s:Sp):Vw:=yY w (max 0 ((w.vs.length:Int) - 1 - bM s.n 3)).toNat
def KN (w:Wd) (a:Nat) (v:Vw):Wd:=hZ (cZ w a (gN (ax w a) v)) a
noncomputable def lN (w:Wd) (s:Sp) (a k:Nat):Wd:=
 if s.d=0 then l8 w s a
 else if s.d=1 then(if 0<w.af.length then vn w k else w)
 else if s.d=2 then(if 0<w.af.length then kV w k else w)
 else if s.d=3 then(if 0<w.af.length/\w.af.length<500 then xF w k else w)
 else if s.d=4 then cZ w a (uq (ax w a) a)
 else if s.d=5 then pN w s (a:Int)
 else if s.d=6 then KN w a (mH w s)
 else if s.d=7 then il w 4 else w
def cE (s:Sp):Nat:=(bM s.dg 4).toNat
def ik (w:Wd) (s:Sp):Nat:=(bM s.n w.af.length).toNat
noncomputable def gM (w:Wd) (s:Sp):Wd:=lN (dm w) s (cE s) (ik w s)
structure pQ where
 i:Nat
 W:Wd
 q:List (Nat×Nat)
 A:List (Sg×KB)
structure Ak (w:Wd) (x:pQ):Prop where
 le:x.i<=4
 W:x.W=il (dm w) x.i
 p:PW x.A x.q x.W.R
abbrev Kx (w:Wd):LI where
 α:={x:pQ // Ak w x}
 live:=[0,8]
 dU:=eP
 st x:=([aj 0 0,.int Z (x.1.i:Int)],eE x.1.W x.1.q x.1.A)
 μ x:=4 - x.1.i
def S9 (w:Wd):FuncId->Nat->Option LI
 | 9,28=>some (Kx w)
 |_,_=>none
def JU:FuncId->Option dA
 | 26=>some ⟨[.iD],WM Lr⟩
 | 27=>some ⟨[.iD],WM Li⟩
 | 28=>some ⟨[.iD],WM Lv⟩
 |f=>yR f
noncomputable def Mn:bJ:=dG Tryz.prog JU aG 10
theorem ahn (w:Wd) (s:Sp) (q:List (Nat×Nat)) (A:List (Sg×KB)) (K:V->KB->Prop) (an:
 let kj:=(Z.wrap ((↑(w.vs.length - 0):Int) - 1) - bM s.n 3);let kH:=decide ((↑(w.af.length - 0):Int) > 0)=true;let jS:=decide ((↑(w.af.length - 0):Int) > 0)=false;let k_:=(az (0+(w.af.length - 0)) (φ cH w.af));let iK:=0+(bM s.dg 4).toNat<(φ cj q).length;let fL:=[fF [ε Z s.d,ε Z s.dg,ε Z s.n,ε Z s.k,θ s.ag],ε Z (bM s.dg 4)];let cC:=ξ 30 1 (φ cj q);let bS:=(bM s.n (↑(w.af.length - 0):Int));let b9:=(Z.wrap (bM s.n (↑(w.af.length - 0):Int)+1));let bN:=ξ 73 3 (φ cH w.af);let bP:=ε Z (Z.wrap (w.now+1));let fv:=ar [δ 8 0 w.R.length,δ 9 0 w.dk.length,δ 10 0 w.vs.length,δ 11 0 w.af.length,δ 12 0 w.cs.length,δ 13 0 w.aW.length,bP,θ true];let bq:=ξ 49 5 (φ dL w.vs);let bj:=ξ 23 1 (φ bx w.dk);let aO:=ξ 61 10 (φ cF w.cs);let aC:=ξ 3 1 (ints Z w.aW);let aH:=(az (0+bS.toNat) (φ cH w.af));let au:KB:=[ar [δ 1 0 w.R.length,δ 2 0 w.dk.length,δ 3 0 w.vs.length,δ 4 0 w.af.length,δ 5 0 w.cs.length,δ 6 0 w.aW.length,bP,θ w.ok],cC,bj,bq,bN,aO,aC,cD A];let ω:=ar [δ 8 0 w.R.length,δ 9 0 w.dk.length,δ 10 0 w.vs.length,δ 11 0 w.af.length,δ 12 0 w.cs.length,δ 13 0 w.aW.length,bP,θ false];let ji:=K (aw []) [ω,χ,χ,χ,χ,χ,χ,cD A,cC,bj,bq,bN,aO,aC];let dz:=K (aw []) [ω,χ,χ,χ,χ,χ,χ,cD A,ξ 30 1 ((φ cj q).set (0+(bM s.dg 4).toNat) [ζ (Value.pointer none)]),bj,bq,bN,aO,aC];let η:KB:=[ar [δ 8 0 w.R.length,δ 9 0 w.dk.length,δ 10 0 w.vs.length,δ 11 0 w.af.length,δ 12 0 w.cs.length,δ 13 0 w.aW.length,bP,θ w.ok],χ,χ,χ,χ,χ,χ,cD A,cC,bj,bq,bN,aO,aC];nA 4/\
 nA (↑(w.af.length - 0):Int)/\
 ((s.d == 0)=true->
 ∃(w_1:Wd),∃(pJ:List (Nat×Nat)),∃(oY:List (Sg×KB)),og au w_1 pJ oY/\
 PW oY pJ w_1.R/\
 ∃(s_1:Sp),∃(a:Nat),fL=[rL s_1,ε Z (↑a:Int)]/\
 Af w_1 s_1 a/\
 ∀(w':Wd),w'=l8 w_1 s_1 a->
 ∀(q':List (Nat×Nat)) (A':List (Sg×KB)),PW A' q' w'.R->
 K (aw []) [ar [δ 8 0 w'.R.length,δ 9 0 w'.dk.length,δ 10 0 w'.vs.length,δ 11 0 w'.af.length,δ 12 0 w'.cs.length,δ 13 0 w'.aW.length,ε Z w'.now,θ w'.ok],χ,χ,χ,χ,χ,χ,cD A',ξ 30 1 (φ cj q'),ξ 23 1 (φ bx w'.dk),ξ 49 5 (φ dL w'.vs),ξ 73 3 (φ cH w'.af),ξ 61 10 (φ cF w'.cs),ξ 3 1 (ints Z w'.aW)])/\
 ((s.d == 0)=false->
 ((s.d == 1)=true->
 (kH->
 ∃(w_1:Wd),∃(pJ:List (Nat×Nat)),∃(oY:List (Sg×KB)),og au w_1 pJ oY/\
 PW oY pJ w_1.R/\
 ∃(i:Nat),[ε Z bS]=[ε Z (↑i:Int)]/\
 zq w_1 i/\
 ∀(w':Wd),w'=vn w_1 i->
 ∀(q':List (Nat×Nat)) (A':List (Sg×KB)),PW A' q' w'.R->
 K (aw []) [ar [δ 8 0 w'.R.length,δ 9 0 w'.dk.length,δ 10 0 w'.vs.length,δ 11 0 w'.af.length,δ 12 0 w'.cs.length,δ 13 0 w'.aW.length,ε Z w'.now,θ w'.ok],χ,χ,χ,χ,χ,χ,cD A',ξ 30 1 (φ cj q'),ξ 23 1 (φ bx w'.dk),ξ 49 5 (φ dL w'.vs),ξ 73 3 (φ cH w'.af),ξ 61 10 (φ cF w'.cs),ξ 3 1 (ints Z w'.aW)])/\
 (jS->
 K (aw []) η))/\
 ((s.d == 1)=false->
 ((s.d == 2)=true->
 (kH->
 True/\
 aB bS/\
 0<=bS.toNat/\
 bS.toNat<=w.af.length - 0/\
 aB b9/\
 True/\
 b9.toNat<=w.af.length - 0/\
 w.af.length - 0<=w.af.length - 0/\
 True/\
 True/\
 True/\
 True/\
 0+bS.toNat<=(φ cH w.af).length/\
 0<=0/\
 (0+(ay 0 aH).length)*40<=140737488355328/\
 0+(w.af.length - 0)<=(φ cH w.af).length/\
 0+(ay 0 aH).length<=([]++ay 0 aH).length/\
 (0+(ay 0 aH).length+(ay (0+b9.toNat) k_).length)*40<=140737488355328/\
 K (aw []) [ar [δ 8 0 w.R.length,δ 9 0 w.dk.length,δ 10 0 w.vs.length,δ 11 0 (0+(ay 0 aH).length+(ay (0+b9.toNat) k_).length),δ 12 0 w.cs.length,δ 13 0 w.aW.length,bP,θ w.ok],χ,χ,χ,χ,χ,χ,cD A,cC,bj,bq,ξ 73 3 (az (0+(ay 0 aH).length) ([]++ay 0 aH)++ay (0+b9.toNat) k_),aO,aC])/\
 (jS->
 K (aw []) η))/\
 ((s.d == 2)=false->
 ((s.d == 3)=true->
 (kH->
 (decide ((↑(w.af.length - 0):Int)<500)=true->
 bw bS (w.af.length - 0)/\
 ∃(e:List D),(φ cH w.af)[0+(bM s.n (↑(w.af.length - 0):Int)).toNat]? =some e/\
 ∃(n:Int),e[0]? =some (ζ (ν Z n))/\
 ∃(n_1:Int),e[1]? =some (ζ (ν Z n_1))/\
 ∃(l:List (List D)),e[2]? =some (ψ 1 l)/\
 True/\
 True/\
 1<=1/\
 w.af.length<=(φ cH w.af).length/\
 (w.af.length+1)*40<=140737488355328/\
 K (aw []) [ar [δ 8 0 w.R.length,δ 9 0 w.dk.length,δ 10 0 w.vs.length,δ 11 0 (w.af.length+1),δ 12 0 w.cs.length,δ 13 0 w.aW.length,bP,θ w.ok],χ,χ,χ,χ,χ,χ,cD A,cC,bj,bq,ξ 73 3 (az w.af.length (φ cH w.af)++[[ζ (ν Z n),ζ (ν Z n_1),ψ 1 l]]),aO,aC])/\
 (decide ((↑(w.af.length - 0):Int)<500)=false->
 K (aw []) η))/\
 (jS->
 K (aw []) η))/\
 ((s.d == 3)=false->
 ((s.d == 4)=true->
 bw (bM s.dg 4) (w.dk.length - 0)/\
 ∃(e:List D),(φ bx w.dk)[0+(bM s.dg 4).toNat]? =some e/\
 ∃(l:List (List D)),e[0]? =some (ψ 1 l)/\
 ∃(oY:List (Sg×KB)),∃(l_1:List (Nat×κ)),∃(t:List Int),wP [cD A] oY/\
 cW oY l_1/\
 l=ints ι t/\
 (∀(c:Int),dS c t->
 0<=c/\
 c<256)/\
 t.length<=900000/\
 (((∃(ep:Int),∃(nu:Int),∃(c:List Int),∃(x:List L3),oh t ep nu c x)->
 False)->
 (w.ok=true->
 (false=true->
 bw (bM s.dg 4) (w.R.length - 0)/\
 iK/\
 dz)/\
 (false=false->
 ji))/\
 (w.ok=false->
 (false=true->
 bw (bM s.dg 4) (w.R.length - 0)/\
 iK/\
 dz)/\
 (false=false->
 ji)))/\
 ∀(ep nu:Int) (c:List Int) (x:List L3),oh t ep nu c x->
 ∀(b:Nat) (A':List (Sg×KB)),let kI:=ξ 30 1 ((φ cj q).set (0+(bM s.dg 4).toNat) [ζ (pv b)]);cW A' (l_1++[(b,newR (bM s.dg 4) 5 false ep nu c x)])->
 (w.ok=true->
 (true=true->
 bw (bM s.dg 4) (w.R.length - 0)/\
 iK/\
 K (aw []) [fv,χ,χ,χ,χ,χ,χ,cD A',kI,bj,bq,bN,aO,aC])/\
 (true=false->
 K (aw []) [fv,χ,χ,χ,χ,χ,χ,cD A',cC,bj,bq,bN,aO,aC]))/\
 (w.ok=false->
 (true=true->
 bw (bM s.dg 4) (w.R.length - 0)/\
 iK/\
 K (aw []) [ω,χ,χ,χ,χ,χ,χ,cD A',kI,bj,bq,bN,aO,aC])/\
 (true=false->
 K (aw []) [ω,χ,χ,χ,χ,χ,χ,cD A',cC,bj,bq,bN,aO,aC])))/\
 ((s.d == 4)=false->
 ((s.d == 5)=true->
 ∃(w_1:Wd),∃(pJ:List (Nat×Nat)),∃(oY:List (Sg×KB)),og au w_1 pJ oY/\
 PW oY pJ w_1.R/\
 ∃(s_1:Sp),∃(a:Int),fL=[rL s_1,ε Z a]/\
 EJ w_1/\
 ∀(w':Wd),w'=pN w_1 s_1 a->
 ∀(q':List (Nat×Nat)) (A':List (Sg×KB)),PW A' q' w'.R->
 K (aw []) [ar [δ 8 0 w'.R.length,δ 9 0 w'.dk.length,δ 10 0 w'.vs.length,δ 11 0 w'.af.length,δ 12 0 w'.cs.length,δ 13 0 w'.aW.length,ε Z w'.now,θ w'.ok],χ,χ,χ,χ,χ,χ,cD A',ξ 30 1 (φ cj q'),ξ 23 1 (φ bx w'.dk),ξ 49 5 (φ dL w'.vs),ξ 73 3 (φ cH w'.af),ξ 61 10 (φ cF w'.cs),ξ 3 1 (ints Z w'.aW)])/\
 ((s.d == 5)=false->
 ((s.d == 6)=true->
 bw (bM s.dg 4) (w.R.length - 0)/\
 ∃(e:List D),(φ cj q)[0+(bM s.dg 4).toNat]? =some e/\
 ∃(v:Value),e[0]? =some (ζ v)/\
 True/\
 True/\
 True/\
 nA 3/\
 (∃(e:List D),(φ cj q)[0+(bM s.dg 4).toNat]? =some e/\
 ∃(v_1:Value),e[0]? =some (ζ v_1)/\
 aD (ζ v_1)=aD (ζ v))/\
 bw (if Z.wrap kj > 0 then Z.wrap kj else 0) (w.vs.length - 0)/\
 ∃(e:List D),(φ dL w.vs)[0+(if Z.wrap (Z.wrap ((↑(w.vs.length - 0):Int) - 1) - bM s.n 3) > 0 then Z.wrap (Z.wrap ((↑(w.vs.length - 0):Int) - 1) - bM s.n 3)else 0).toNat]? =some e/\
 ∃(n:Int),e[0]? =some (ζ (ν Z n))/\
 ∃(n_1:Int),e[1]? =some (ζ (ν Z n_1))/\
 ∃(n_2:Int),e[2]? =some (ζ (ν Z n_2))/\
 ∃(l:List (List D)),e[3]? =some (ψ 1 l)/\
 ∃(l_1:List (List D)),e[4]? =some (ψ 1 l_1)/\
 ∃(l_2:List (Nat×κ)),∃(i:Nat),∃(b:Nat),∃(R:κ),cW A l_2/\
 l_2[i]? =some (b,R)/\
 ζ v=ζ (pv b)/\
 ∃(w_1:Vw),[fF [ε Z n,ε Z n_1,ε Z n_2,aD (ψ 1 l),aD (ψ 1 l_1)]]=[y0 w_1]/\
 bA R/\
 w_1.mem.length+w_1.aM.length<=1000/\
 R.out.length+(bz R.me w_1.mem w_1.aM).length<=100000/\
 ∀(A':List (Sg×KB)),cW A' (l_2.set i (b,gN R w_1))->
 ∃(w_2:Wd),∃(pJ:List (Nat×Nat)),∃(A:List (Sg×KB)),og [ar [δ 1 0 w.R.length,δ 2 0 w.dk.length,δ 3 0 w.vs.length,δ 4 0 w.af.length,δ 5 0 w.cs.length,δ 6 0 w.aW.length,bP,θ w.ok],cC,bj,bq,bN,aO,aC,cD A'] w_2 pJ A/\
 PW A pJ w_2.R/\
 ∃(i:Nat),[ε Z (bM s.dg 4)]=[ε Z (↑i:Int)]/\
 kL w_2 i/\
 ∀(w':Wd),w'=hZ w_2 i->
 ∀(q':List (Nat×Nat)) (A':List (Sg×KB)),PW A' q' w'.R->
 K (aw []) [ar [δ 8 0 w'.R.length,δ 9 0 w'.dk.length,δ 10 0 w'.vs.length,δ 11 0 w'.af.length,δ 12 0 w'.cs.length,δ 13 0 w'.aW.length,ε Z w'.now,θ w'.ok],χ,χ,χ,χ,χ,χ,cD A',ξ 30 1 (φ cj q'),ξ 23 1 (φ bx w'.dk),ξ 49 5 (φ dL w'.vs),ξ 73 3 (φ cH w'.af),ξ 61 10 (φ cF w'.cs),ξ 3 1 (ints Z w'.aW)])/\
 ((s.d == 6)=false->
 ((s.d == 7)=true->
 At (Kx w) ([aj 0 0,ε Z 0],η)/\
 ∀(i:{x:pQ // Ak w x }),let lb:=ξ 49 5 (φ dL i.val.W.vs);let lP:=ξ 23 1 (φ bx i.val.W.dk);let la:=ξ 61 10 (φ cF i.val.W.cs);let kJ:=ξ 73 3 (φ cH i.val.W.af);let l9:=ξ 3 1 (ints Z i.val.W.aW);(decide ((↑i.val.i:Int)<4)=true->
 bw (↑i.val.i:Int) (i.val.W.R.length - 0)/\
 ∃(e:List D),(φ cj i.val.q)[0+(↑i.val.i:Int).toNat]? =some e/\
 ∃(v:Value),e[0]? =some (ζ v)/\
 ∃(l:List (Nat×κ)),∃(i_1:Nat),∃(b:Nat),∃(R:κ),cW i.val.A l/\
 l[i_1]? =some (b,R)/\
 ζ v=ζ (pv b)/\
 jB []/\
 bA R/\
 0<=R.ti/\
 R.ti<=2199023255552/\
 R.out.length+(aZ R).length<=100000/\
 ∀(A':List (Sg×KB)),cW A' (l.set i_1 (b,gm R))->
 ∃(w_1:Wd),∃(q:List (Nat×Nat)),∃(A:List (Sg×KB)),og [ar [δ 1 0 i.val.W.R.length,δ 2 0 i.val.W.dk.length,δ 3 0 i.val.W.vs.length,δ 4 0 i.val.W.af.length,δ 5 0 i.val.W.cs.length,δ 6 0 i.val.W.aW.length,ε Z i.val.W.now,θ i.val.W.ok],ξ 30 1 (φ cj i.val.q),lP,lb,kJ,la,l9,cD A'] w_1 q A/\
 PW A q w_1.R/\
 ∃(i_2:Nat),[ε Z (↑i.val.i:Int)]=[ε Z (↑i_2:Int)]/\
 kL w_1 i_2/\
 ∀(w':Wd),w'=hZ w_1 i_2->
 ∀(q':List (Nat×Nat)) (A':List (Sg×KB)),PW A' q' w'.R->
 Nx (Kx w) i ([aj 0 0,ε Z (Z.wrap ((↑i.val.i:Int)+1))],[ar [δ 8 0 w'.R.length,δ 9 0 w'.dk.length,δ 10 0 w'.vs.length,δ 11 0 w'.af.length,δ 12 0 w'.cs.length,δ 13 0 w'.aW.length,ε Z w'.now,θ w'.ok],χ,χ,χ,χ,χ,χ,cD A',ξ 30 1 (φ cj q'),ξ 23 1 (φ bx w'.dk),ξ 49 5 (φ dL w'.vs),ξ 73 3 (φ cH w'.af),ξ 61 10 (φ cF w'.cs),ξ 3 1 (ints Z w'.aW)]))/\
 (decide ((↑i.val.i:Int)<4)=false->
 K (aw []) [ar [δ 8 0 i.val.W.R.length,δ 9 0 i.val.W.dk.length,δ 10 0 i.val.W.vs.length,δ 11 0 i.val.W.af.length,δ 12 0 i.val.W.cs.length,δ 13 0 i.val.W.aW.length,ε Z i.val.W.now,θ i.val.W.ok],χ,χ,χ,χ,χ,χ,cD i.val.A,ξ 30 1 (φ cj i.val.q),lP,lb,kJ,la,l9]))/\
 ((s.d == 7)=false->
 K (aw []) η))))))))
 ):aI Tryz.prog Mn (S9 w 9) 9 [aj 0 0,rL s] (mJ w q A) (eZ eP (dp 8 K)):=by apply Eq.mp (a:=an);kernel_rfl
theorem aev:dF Tryz.prog JU:=fun f k h=>by
 unfold JU at h
 split at h
 ·cases h;exact acx
 ·cases h;exact abt
 ·cases h;exact acH
 ·exact Kl _ _ h
theorem V3:bZ Tryz.prog Mn:=dI mixed aev aG 10
theorem aad {l:List Int} (hb:bm l) (hl:l.length<=900000) {ep nu N4 QR:Int} {c c':List Int} {x x':List L3} (h:oh l ep nu c x) (h':oh l N4 QR c' x'):ep=N4/\nu=QR/\c=c'/\x=x':=by
 have F:=R_ (l:=l) hb hl (Prod.ext rfl (Prod.ext rfl rfl)) (Prod.ext rfl (Prod.ext rfl rfl)) (Prod.ext rfl (Prod.ext rfl rfl)) (Prod.ext rfl (Prod.ext rfl rfl)) rfl
 obtain⟨a1,a2,a3,a4,_⟩:=F.fwd _ _ _ _ h
 obtain⟨b1,b2,b3,b4,_⟩:=F.fwd _ _ _ _ h'
 refine⟨a1.symm.trans b1,a2.symm.trans b2,?_,T1 h.x h'.x (a4.symm.trans b4)⟩
 have e:=congrArg fq (a3.symm.trans b3)
 rw[yy,yy]at e
 exact bb.inj e
theorem aa4 {xs:List Nat} (h:xs.Nodup) {i v:Nat} (hi:i<xs.length) (hv:∀ x∈xs,x<v):(xs.set i v).Nodup:=by
 rw[List.set_eq_take_append_cons_drop,if_pos hi]
 have e:xs=xs.take i++xs[i]::xs.drop (i+1):=by rw[<- List.drop_eq_getElem_cons hi,List.take_append_drop]
 have h2:=h
 rw[e]at h2
 obtain⟨a,b,c⟩:=List.nodup_append.1 h2
 obtain⟨b1,b2⟩:=List.nodup_cons.1 b
 refine List.nodup_append.2 ⟨a,List.nodup_cons.2 ⟨fun hm=>by have:=hv v (List.mem_of_mem_drop hm);omega,b2⟩,fun x hx y hy=>?_⟩
 rcases ey.1 hy with rfl | hy
 ·have:=hv x (List.mem_of_mem_take hx);omega
 ·exact c x hx y (fM _ hy)
theorem CU.add {l:List (Nat×κ)} {q:List (Nat×Nat)} {R:List κ} (h:CU l q R) {i:Nat} (hi:i<R.length) (b:Nat) (r:κ):CU (l++[(b,r)]) (q.set i (l.length,b)) (R.set i r):=by
 have hlt:∀(j:Nat) (p:Nat×Nat),q[j]? =some p->p.1<l.length:=fun j p hj=>by
  obtain⟨_,_,h2⟩:=h.a j p hj
  exact(bG.1 h2).1
 have Pm:i<q.length:=by rw[h.len];exact hi
 refine⟨by simp [h.len],fun j p hj=>?_,?_⟩
 ·by_cases e:i=j
  ·subst e
   rw[ig Pm]at hj
   cases hj
   exact⟨r,ig hi,by rw[eW (av _)];simp⟩
  ·rw[gr e]at hj
   obtain⟨r2,h1,h2⟩:=h.a j p hj
   exact⟨r2,by rw[gr e];exact h1,by rw[dP (hlt j p hj)];exact h2⟩
 ·rw[List.map_set]
  refine aa4 h.nd (by rw[bX];exact Pm) fun x hx=>?_
  obtain⟨p,hp,rfl⟩:=eL.1 hx
  obtain⟨j,hj⟩:=jx hp
  exact hlt j p hj
structure D8 (w:Wd) (s:Sp):Prop where
 rl:w.R.length=4
 dl:w.dk.length=4
 n0:0<=w.now
 n1:w.now<=1000000
 bl:w.af.length<=10000
 vl:0<w.vs.length
 vm:w.vs.length<=10000
 c0:s.d=0->Af (dm w) s (cE s)
 c1:s.d=1->0<w.af.length->zq (dm w) (ik w s)
 c4:s.d=4->w.dk[cE s]? =some (f_ (ax w (cE s)))/\oh (f_ (ax w (cE s))) (ax w (cE s)).ep (ax w (cE s)).nu (ax w (cE s)).c (ax w (cE s)).t/\bm (f_ (ax w (cE s)))/\(f_ (ax w (cE s))).length<=900000
 c5:s.d=5->EJ (dm w)
 c6:s.d=6->bA (ax w (cE s))/\(mH w s).mem.length+(mH w s).aM.length<=1000/\(ax w (cE s)).out.length+(bz (ax w (cE s)).me (mH w s).mem (mH w s).aM).length<=100000/\kL (cZ (dm w) (cE s) (gN (ax w (cE s)) (mH w s))) (cE s)
 c7:s.d=7->∀ i,i<4->(il (dm w) i).R.length=4/\bA (ax (il (dm w) i) i)/\0<=(ax (il (dm w) i) i).ti/\(ax (il (dm w) i) i).ti<=1000000/\(ax (il (dm w) i) i).out.length+(aZ (ax (il (dm w) i) i)).length<=100000/\kL (cZ (il (dm w) i) i (gm (ax (il (dm w) i) i))) i
def GStep:List V->Wd->(V->Wd->Prop)->Prop:=fun rest w k=>∃ s:Sp,rest=[rL s]/\D8 w s/\∀ w',w'=gM w s->k (.υ []) w'
theorem acy:aN Tryz.prog 9 (WM GStep):=mE V3 mixed eP (fun args kb K h=>by
 unfold WM at h;split at h<;>try exact h.elim
 obtain⟨w,q,A,⟨rfl⟩,hp,s,rfl,hc,h⟩:=h
 refine⟨S9 w 9,?_⟩
 show aI _ _ _ _ _ _ (eZ eP (dp 8 K))
 apply ahn w s q A K
 have hn0:=hc.n0
 have hn1:=hc.n1
 have cd:=hc.bl
 have hrl:=hc.rl
 have hdl:=hc.dl
 have e1:Z.wrap (w.now+1)=w.now+1:=by rw[bD (by omega) (by omega)]
 have pa:=lJ s.dg (n:=4) (by omega)
 have hat:bM s.dg 4=(cE s:Int):=by unfold cE;omega
 have YI:cE s<4:=by unfold cE;omega
 dsimp only
 rw[e1,hat]
 have K0:∀ W:Wd,W.R=w.R->W=gM w s->K (.υ []) (eE W q A):=fun W hR hW=>h W hW q A (by rw[hR];exact hp)
 have hin:bw (cE s:Int) w.R.length:=by unfold bw;omega
 have hpk:0<w.af.length->bM s.n ((w.af.length - 0:Nat):Int)=(ik w s:Int)/\ik w s<w.af.length:=fun hl=>by
  have:=lJ s.n (n:=((w.af.length - 0:Nat):Int)) (by omega)
  have e:ik w s=(bM s.n ((w.af.length - 0:Nat):Int)).toNat:=rfl
  omega
 simp only[beq_iff_eq,beq_eq_false_iff_ne,ne_eq,decide_eq_true_eq,decide_eq_false_iff_not]
 refine⟨⟨by omega,by omega⟩,⟨by omega,by omega⟩,fun d0=>?_,fun d0=>⟨fun d1=>⟨fun hl=>?_,fun hl=>?_⟩,fun d1=>⟨fun d2=>⟨fun hl=>?_,fun hl=>?_⟩,fun d2=>⟨fun d3=>⟨fun hl=>⟨fun h5=>?_,fun h5=>?_⟩,fun hl=>?_⟩,fun d3=>⟨fun d4=>?_,fun d4=>⟨fun d5=>?_,fun d5=>⟨fun d6=>?_,fun d6=>⟨fun d7=>?_,fun d7=>?_⟩⟩⟩⟩⟩⟩⟩⟩
 ·exact⟨dm w,q,A,⟨rfl⟩,hp,s,cE s,rfl,hc.c0 d0,fun w' hw' q' A' p'=>h w' (by rw[hw'];unfold gM lN;rw[if_pos d0]) q' A' p'⟩
 ·have hl:0<w.af.length:=by omega
  obtain⟨k1,k2⟩:=hpk hl
  rw[k1]
  exact⟨dm w,q,A,⟨rfl⟩,hp,ik w s,rfl,hc.c1 d1 hl,fun w' hw' q' A' p'=>h w' (by rw[hw'];unfold gM lN;rw[if_neg d0,if_pos d1,if_pos (by exact hl)]) q' A' p'⟩
 ·have hl:¬ 0<w.af.length:=by omega
  exact K0 (dm w) rfl (by unfold gM lN;rw[if_neg d0,if_pos d1,if_neg (by exact hl)])
 ·have hl:0<w.af.length:=by omega
  obtain⟨k1,k2⟩:=hpk hl
  have w1:Z.wrap ((ik w s:Int)+1)=((ik w s+1:Nat):Int):=by rw[bD (by omega) (by omega)];rfl
  have hM:ik w s<(w.af.map cH).length:=by rw[bX];exact k2
  have hL:w.af.length=(w.af.map cH).length:=by rw[bX]
  rw[k1,w1,cP,cP,Tm hM hL,Tl hM hL]
  have hst:kV (dm w) (ik w s)=gM w s:=by unfold gM lN;rw[if_neg d0,if_neg d1,if_pos d2,if_pos (by exact hl)]
  have hel:(kV (dm w) (ik w s)).af.length=((w.af.map cH).eraseIdx (ik w s)).length:=by
   show(w.af.eraseIdx _).length=_
   rw[List.length_eraseIdx_of_lt k2,List.length_eraseIdx_of_lt hM,bX]
  have hem:(kV (dm w) (ik w s)).af.map cH=(w.af.map cH).eraseIdx (ik w s):=Qn cH w.af _
  have hle:((w.af.map cH).eraseIdx (ik w s)).length<=10000:=by rw[List.length_eraseIdx_of_lt hM];omega
  refine⟨trivial,by unfold aB;omega,bt _,by omega,by unfold aB;omega,trivial,by omega,av _,trivial,trivial,trivial,trivial,by omega,av _,by simp only[fQ,cQ];omega,by omega,by simp,by omega,?_⟩
  have:=K0 (kV (dm w) (ik w s)) rfl hst
  unfold eE jN kg at this
  rw[hel,hem]at this
  exact this
 ·have hl:¬ 0<w.af.length:=by omega
  exact K0 (dm w) rfl (by unfold gM lN;rw[if_neg d0,if_neg d1,if_pos d2,if_neg (by exact hl)])
 ·have hl:0<w.af.length:=by omega
  have h5:w.af.length<500:=by omega
  obtain⟨k1,k2⟩:=hpk hl
  rw[k1]
  have hst:xF (dm w) (ik w s)=gM w s:=by unfold gM lN;rw[if_neg d0,if_neg d1,if_neg d2,if_pos d3,if_pos (by exact⟨hl,h5⟩)]
  refine⟨by unfold bw;omega,cH (fO w (ik w s)),by rw[c9,cP,fE,Fg k2];rfl,_,rfl,_,rfl,_,rfl,trivial,trivial,av _,by rw[bX];exact av _,by omega,?_⟩
  have:=K0 (xF (dm w) (ik w s)) rfl hst
  have eb:(w.af++[fO w (ik w s)]).length=w.af.length+1:=by rw[bn];rfl
  have er:(w.af++[fO w (ik w s)]).map cH=az w.af.length (w.af.map cH)++[cH (fO w (ik w s))]:=by
   rw[jy,eM (by rw[bX];exact av _)];rfl
  unfold eE jN kg at this
  have e9:(xF (dm w) (ik w s)).af=w.af++[fO w (ik w s)]:=rfl
  rw[e9,eb,er]at this
  exact this
 ·have h5:¬ w.af.length<500:=by omega
  exact K0 (dm w) rfl (by unfold gM lN;rw[if_neg d0,if_neg d1,if_neg d2,if_pos d3,if_neg (by exact fun t=>h5 t.2)])
 ·have hl:¬ 0<w.af.length:=by omega
  exact K0 (dm w) rfl (by unfold gM lN;rw[if_neg d0,if_neg d1,if_neg d2,if_pos d3,if_neg (by exact fun t=>hl t.1)])
 ·obtain⟨c1,c2,c3,c4⟩:=hc.c4 d4
  obtain⟨l,hA,lY⟩:=hp.h
  have hst:cZ (dm w) (cE s) (uq (ax w (cE s)) (cE s))=gM w s:=by unfold gM lN;rw[if_neg d0,if_neg d1,if_neg d2,if_neg d3,if_pos d4];rfl
  have ok4:∀(ep nu:Int) (c:List Int) (x:List L3),oh (f_ (ax w (cE s))) ep nu c x->∀(b:Nat) (A':List (Sg×KB)),cW A' (l++[(b,newR (cE s:Int) 5 false ep nu c x)])->K (.υ []) (eE (cZ (dm w) (cE s) (uq (ax w (cE s)) (cE s))) (q.set (cE s) (l.length,b)) A'):=fun ep nu c x hr b A' pA=>by
   obtain⟨i1,i2,i3,i4⟩:=aad c3 c4 c2 hr
   refine h _ hst _ _ ⟨_,pA,?_⟩
   rw[<- i1,<- i2,<- i3,<- i4]
   exact lY.add (by rw[hrl];exact YI) b _
  have da:(w.dk.map bx)[0+(cE s:Int).toNat]? =some (bx (f_ (ax w (cE s)))):=by rw[c9,cP,fE,c1];rfl
  have N5:∀ b:Nat,(q.map cj).set (0+(cE s:Int).toNat) [ζ (pv b)]=(q.set (cE s) (l.length,b)).map cj:=fun b=>by rw[c9,cP,List.map_set];rfl
  have XT:∀ b (A':List (Sg×KB)),eE (cZ (dm w) (cE s) (uq (ax w (cE s)) (cE s))) (q.set (cE s) (l.length,b)) A'=eE (dm w) (q.set (cE s) (l.length,b)) A':=fun b A'=>(Do (W:=dm w) (by show(w.R.set _ _).length=w.R.length;rw[ir]) _ _).symm
  have vC:0+(cE s:Int).toNat<(q.map cj).length:=by rw[bX,lY.len,hrl];omega
  refine⟨by unfold bw;omega,_,da,_,rfl,A,l,f_ (ax w (cE s)),⟨.inr rfl⟩,hA,rfl,c3,c4,fun hn=>absurd ⟨_,_,_,_,c2⟩ hn,fun ep nu c x hr b A' pA=>?_⟩
  have k:=ok4 ep nu c x hr b A' pA
  rw[XT]at k
  refine⟨fun t=>⟨fun _=>⟨hin,vC,?_⟩,fun t2=>(by cases t2)⟩,fun t=>⟨fun _=>⟨hin,vC,?_⟩,fun t2=>(by cases t2)⟩⟩
  ·rw[N5,<- t];exact k
  ·rw[N5,<- t];exact k
 ·exact⟨dm w,q,A,⟨rfl⟩,hp,s,(cE s:Int),rfl,hc.c5 d5,fun w' hw' q' A' p'=>h w' (by rw[hw'];unfold gM lN;rw[if_neg d0,if_neg d1,if_neg d2,if_neg d3,if_neg d4,if_pos d5]) q' A' p'⟩
 ·have vl:=hc.vl
  have vm:=hc.vm
  have p3:=lJ s.n (n:=3) (by omega)
  have x1:Z.wrap (Z.wrap (((w.vs.length - 0:Nat):Int) - 1) - bM s.n 3)=(w.vs.length:Int) - 1 - bM s.n 3:=by
   have:Z.wrap (((w.vs.length - 0:Nat):Int) - 1)=(w.vs.length:Int) - 1:=by rw[bD (by omega) (by omega)];omega
   rw[this,bD (by omega) (by omega)]
  rw[x1]
  obtain⟨tN,ZO⟩:∃ tN,(max 0 ((w.vs.length:Int) - 1 - bM s.n 3)).toNat=tN:=⟨_,rfl⟩
  have x2:(if(w.vs.length:Int) - 1 - bM s.n 3 > 0 then(w.vs.length:Int) - 1 - bM s.n 3 else 0)=(tN:Int):=by split<;>omega
  rw[x2]
  have tl:tN<w.vs.length:=by omega
  have hv:(w.vs.map dL)[0+(tN:Int).toNat]? =some (dL (mH w s)):=by rw[c9,cP,fE,wy tl];unfold mH;rw[ZO];rfl
  obtain⟨c1,c2,c3,c4⟩:=hc.c6 d6
  obtain⟨l,k,b,hq,hA,hl,dT⟩:=hp.get (sT (w:=w) (i:=cE s) (by omega))
  refine⟨hin,_,ql hq,_,rfl,trivial,trivial,trivial,⟨by omega,by omega⟩,⟨_,ql hq,_,rfl,rfl⟩,by unfold bw;omega,_,hv,_,rfl,_,rfl,_,rfl,_,rfl,_,rfl,l,k,b,_,hA,hl,rfl,mH w s,rfl,c1,c2,c3,fun A2 p2=>⟨cZ (dm w) (cE s) (gN (ax w (cE s)) (mH w s)),q,A2,⟨Dm (W:=dm w) (by show(w.R.set _ _).length=w.R.length;rw[ir]) q A2⟩,dT _ _ p2,cE s,rfl,c4,fun w' hw' q' A' p'=>h w' (by rw[hw'];unfold gM lN;rw[if_neg d0,if_neg d1,if_neg d2,if_neg d3,if_neg d4,if_neg d5,if_pos d6];rfl) q' A' p'⟩⟩
 ·refine⟨At.mk' (⟨⟨0,dm w,q,A⟩,bt _,rfl,hp⟩:{x:pQ // Ak w x}) rfl,?_⟩
  rintro⟨⟨i,W,q1,A1⟩,hi,hW,P1⟩
  dsimp only at hi hW P1 ⊢
  subst hW
  refine⟨fun hlt=>?_,fun hge=>?_⟩
  ·have hlt:i<4:=by omega
   obtain⟨c1,c2,c3,c4,c5,c6⟩:=hc.c7 d7 i hlt
   obtain⟨l,k,b,hq,hA,hl,dT⟩:=P1.get (sT (w:=il (dm w) i) (i:=i) (by omega))
   refine⟨by show bw _ (il (dm w) i).R.length;unfold bw;omega,_,ql hq,_,rfl,l,k,b,_,hA,hl,rfl,⟨rfl⟩,c2,c3,by omega,c5,fun A2 p2=>⟨cZ (il (dm w) i) i (gm (ax (il (dm w) i) i)),q1,A2,⟨Dm (W:=il (dm w) i) (by show((il (dm w) i).R.set _ _).length=_;rw[ir]) q1 A2⟩,dT _ _ p2,i,rfl,c6,fun w' hw' q' A' p'=>?_⟩⟩
   refine Nx.mk' (⟨⟨i+1,w',q',A'⟩,by show i+1<=4;omega,hw',p'⟩:{x:pQ // Ak w x}) ?_ (by show 4 - (i+1)<4 - i;omega)
   rw[bD (by omega) (by omega)]
   rfl
  ·have hi:i=4:=by omega
   subst hi
   exact h _ (by unfold gM lN;rw[if_neg d0,if_neg d1,if_neg d2,if_neg d3,if_neg d4,if_neg d5,if_neg d6,if_pos d7]) q1 A1 P1
 ·exact K0 (dm w) rfl (by unfold gM lN;rw[if_neg d0,if_neg d1,if_neg d2,if_neg d3,if_neg d4,if_neg d5,if_neg d6,if_neg d7]))
structure Kp (R R2:κ):Prop where
 h:R2.ch=true∨(R2.ep=R.ep/\R2.nu=R.nu/\R2.c=R.c/\R2.t=R.t/\R2.ch=R.ch)
theorem Kp.same {R R2:κ} (h1:R2.ep=R.ep) (h2:R2.nu=R.nu) (h3:R2.c=R.c) (h4:R2.t=R.t) (h5:R2.ch=R.ch):Kp R R2:=⟨.inr ⟨h1,h2,h3,h4,h5⟩⟩
theorem Kp.refl (R:κ):Kp R R:=.same rfl rfl rfl rfl rfl
theorem Of {R R1:κ} (h:Kp R R1):Kp R (fV R1):=by
 unfold fV
 split
 ·split
  ·split
   ·exact⟨h.h⟩
   ·exact h
  ·exact h
 ·exact h
theorem YK (R:κ) (fr:Int) (m:dY):Kp R (gF R fr m):=by
 have r:=Kp.refl R
 unfold gF
 split
 ·exact r
 ·split
  ·unfold jh
   split
   ·exact .same rfl rfl rfl rfl rfl
   ·split
    ·exact⟨.inl rfl⟩
    ·exact r
  ·split
   ·unfold iH
    split
    ·exact r
    ·split
     ·exact r
     ·split
      ·exact .same rfl rfl rfl rfl rfl
      ·exact Of (.same rfl rfl rfl rfl rfl)
   ·split
    ·unfold jf
     split
     ·exact .same rfl rfl rfl rfl rfl
     ·split
      ·exact⟨.inl rfl⟩
      ·exact .same rfl rfl rfl rfl rfl
    ·split
     ·unfold iC
      split
      ·exact r
      ·split
       ·exact r
       ·split
        ·exact Of (.same rfl rfl rfl rfl rfl)
        ·exact r
     ·unfold iF
      split
      ·exact r
      ·split
       ·exact .same rfl rfl rfl rfl rfl
       ·split
        ·exact .same rfl rfl rfl rfl rfl
        ·exact .same rfl rfl rfl rfl rfl
theorem afF (R:κ):Kp R (gm R):=by
 unfold gm
 split
 ·exact .same rfl rfl rfl rfl rfl
 ·split
  ·exact .same rfl rfl rfl rfl rfl
  ·exact .same rfl rfl rfl rfl rfl
theorem X6 {R:κ}:(fV R).ch=R.ch:=by
 unfold fV
 split
 ·split
  ·split<;>rfl
  ·rfl
 ·rfl
theorem ae0 (R:κ) (o:Op):Kp R (eS R o).2:=by
 have r:=Kp.refl R
 unfold eS
 split
 ·exact r
 ·split
  ·exact r
  ·rename_i L hl
   split
   ·exact r
   ·split
    ·exact r
    ·split
     ·rename_i e R1 hk
      split at hk
      ·unfold l4 at hk
       split at hk
       ·cases hk;exact .same rfl rfl rfl rfl rfl
       ·split at hk
        ·cases hk;exact r
        ·split at hk
         ·cases hk
         ·cases hk;exact r
      ·cases hk
     ·refine⟨.inl ?_⟩
      show(lV R L o).ch=true
      unfold lV
      dsimp only
      rw[tQ,X6];rfl
theorem ahN (R:κ) (w:Vw):Kp R (gN R w):=by
 cases hg:eC R w with
 |false=>rw[Di hg];exact .refl R
 |true=>
  cases hl:fH R w with
  |false=>rw[Dg hg hl];exact .same rfl rfl rfl rfl rfl
  |true=>
   rw[Dh hg hl]
   by_cases he:R.ep=w.ve
   ·cases hc:R.ch with
    |true=>exact⟨.inl (by show(R.ch || _)=true;rw[hc];rfl)⟩
    |false=>exact .same he.symm rfl rfl rfl (by show(R.ch || (R.ep != w.ve))=R.ch;rw[hc,he];simp)
   ·exact⟨.inl (by show(R.ch || (R.ep != w.ve))=true;simp [he])⟩
structure RC (T:Int) (k:Nat) (R:κ):Prop where
 w:RW T R
 me:R.me=k
 out:R.out=[]
 done:R.done=[]
 ch:R.ch=false
structure LW (T:Int) (l:nB):Prop where
 m:MW T l.m
 t0:0<=l.to
 t1:l.to<4
structure VW (T:Int) (v:Vw):Prop where
 len:((v.mem.length+v.aM.length:Nat):Int)<=T+2
 e0:0<=v.ve
 e1:v.ve<=T
 m0:v.mem≠[]
 rg:∀ x∈v.mem++v.aM,0<=x/\x<4
 nd:(v.mem++v.aM).Nodup
structure WI (T:Int) (w:Wd):Prop where
 rl:w.R.length=4
 dl:w.dk.length=4
 r:∀ i,i<4->RC T i (ax w i)
 dk:∀ i,i<4->w.dk[i]? =some (f_ (ax w i))
 vs:∀ v∈w.vs,VW T v
 v0:0<w.vs.length
 vm:(w.vs.length:Int)<=T+1
 af:∀ l∈w.af,LW T l
 bl:w.af.length<=2500
 cs:∀ c∈w.cs,fR c.o/\c.o.b.length<=2048
 cl:w.cs.length<=20
 n3:w.aW.length=3
 nb:∀ n∈w.aW,0<=n/\n<=T
 n0:0<=w.now
 n1:w.now<=T
theorem WI.mono {T T2:Int} {w:Wd} (h:WI T w) (hT:T<=T2):WI T2 w:=
 ⟨h.rl,h.dl,fun i hi=>⟨(h.r i hi).w.mono hT,(h.r i hi).me,(h.r i hi).out,(h.r i hi).done,(h.r i hi).ch⟩,h.dk,fun v hv=>⟨by have:=(h.vs v hv).len;omega,(h.vs v hv).e0,by have:=(h.vs v hv).e1;omega,(h.vs v hv).m0,(h.vs v hv).rg,(h.vs v hv).nd⟩,h.v0,by have:=h.vm;omega,fun l hl=>⟨⟨(h.af l hl).m.r,by have:=(h.af l hl).m.n1;omega,by have:=(h.af l hl).m.n2;omega⟩,(h.af l hl).t0,(h.af l hl).t1⟩,h.bl,h.cs,h.cl,h.n3,fun n hn=>by have:=h.nb n hn;omega,h.n0,by have:=h.n1;omega⟩
theorem rC {w:Wd} {i:Nat} (R:κ) (hi:i<w.R.length):ax (cZ w i R) i=R:=by
 unfold ax cZ;rw[gD,ig hi];rfl
theorem uo {w:Wd} {i j:Nat} (R:κ) (h:i≠j):ax (cZ w i R) j=ax w j:=by
 unfold ax cZ;rw[gD,gD,gr h]
theorem Td {T:Int} (i:Nat):∀(l:List Post) (w:Wd),(∀ p∈l,kp p.m/\bU p.m 1<=T/\bU p.m 2<=T)->(∀ x∈w.af,LW T x)->∀ x∈(dH w i l).af,LW T x
 | [],w,_,h=>h
 |p::l,w,hp,h=>Td i l (iG i w p) (fun p' nJ=>hp p' (fM _ nJ)) (by
  unfold iG;split
  ·rename_i hc
   have hh:=hp p iu
   exact fun x hx=>nN (P:=LW T) h ⟨⟨hh.1,hh.2.1,hh.2.2⟩,hc.1,hc.2.1⟩ hx
  ·exact h)
theorem afT (l:List Dn):∀(w:Wd) (c:dD),c∈(l.foldl fB w).cs->∃ c0∈w.cs,c0.o=c.o:=by
 induction l with
 |nil=>exact fun w c hc=>⟨c,hc,rfl⟩
 |cons d l ih=>
  intro w c hc
  obtain⟨c1,h1,h2⟩:=ih (fB w d) c hc
  have h1:c1∈w.cs.map (im w.now d):=h1
  obtain⟨c0,h3,h4⟩:=eL.1 h1
  refine⟨c0,h3,?_⟩
  rw[<- h2,<- h4]
  unfold im;split<;>rfl
theorem Da:∀(l:List Dn) (w:Wd),(l.foldl fB w).dk=w.dk/\(l.foldl fB w).vs=w.vs/\(l.foldl fB w).af=w.af/\(l.foldl fB w).aW=w.aW/\(l.foldl fB w).now=w.now
 | [],w=>⟨rfl,rfl,rfl,rfl,rfl⟩
 |d::l,w=>Da l (fB w d)
theorem Js {w w2:Wd} (h:w2.R=w.R) (i:Nat):ax w2 i=ax w i:=by unfold ax;rw[h]
theorem AC {T:Int} {w:Wd} (h:WI T w) {i:Nat} (hi:i<4) {R:κ} (hr:RW T R) (hT:T<=900) (me:R.me=i) (ol:R.out.length<=1000) (dl:R.done.length<=1000) (hk:Kp (ax w i) R):kL (cZ w i R) i/\WI T (hZ (cZ w i R) i):=by
 have hir:i<w.R.length:=by rw[h.rl];exact hi
 have e1:ax (cZ w i R) i=R:=rC R hir
 have hle:jk R.ep:=⟨by have:=hr.e1;omega⟩
 have cd:=h.bl
 have hcl:=h.cl
 refine⟨⟨by show i<(w.R.set i R).length;rw[ir];exact hir,by show i<w.dk.length;rw[h.dl];exact hi,by rw[e1];exact hr.i,by rw[e1];exact hle,by rw[e1];exact ol,by rw[e1];exact dl,by rw[e1];exact fun p hp=>(hr.om p hp).1,by rw[e1];exact hr.dn,by show w.af.length<=_;omega,by show w.cs.length<=_;omega⟩,?_⟩
 obtain⟨s1,s2,s3,s4,s5,s6,s7,s8⟩:=sX i R.out (gz (cZ w i R) i)
 have Hb:hZ (cZ w i R) i=R.done.foldl fB (dH (gz (cZ w i R) i) i R.out):=by unfold hZ;rw[e1]
 obtain⟨t1,t2⟩:=wx R.done (dH (gz (cZ w i R) i) i R.out)
 obtain⟨u1,u2,u3,u4,u5⟩:=Da R.done (dH (gz (cZ w i R) i) i R.out)
 rw[Hb]
 have eR:(R.done.foldl fB (dH (gz (cZ w i R) i) i R.out)).R=(cZ w i (mT R)).R:=by
  rw[t1,s1];show(w.R.set i R).set i (mT (ax (cZ w i R) i))=w.R.set i (mT R);rw[e1,List.set_set]
 have eA:∀ j,ax (R.done.foldl fB (dH (gz (cZ w i R) i) i R.out)) j=ax (cZ w i (mT R)) j:=Js eR
 have eD:(R.done.foldl fB (dH (gz (cZ w i R) i) i R.out)).dk=if R.ch then w.dk.set i (f_ R)else w.dk:=by
  rw[u1,s2];show(if(ax (cZ w i R) i).ch then w.dk.set i (f_ (ax (cZ w i R) i))else w.dk)=_;rw[e1]
 refine⟨by rw[eR];show(w.R.set i _).length=4;rw[ir];exact h.rl,?_,fun j hj=>?_,fun j hj=>?_,?_,?_,?_,?_,?_,?_,?_,?_,?_,?_,?_⟩
 ·rw[eD];split
  ·rw[ir];exact h.dl
  ·exact h.dl
 ·rw[eA]
  by_cases e:i=j
  ·subst e;rw[rC _ hir]
   exact⟨W9 hr R.ch,me,rfl,rfl,rfl⟩
  ·rw[uo _ e];exact h.r j hj
 ·rw[eA,eD]
  by_cases e:i=j
  ·subst e;rw[rC _ hir]
   cases hc:R.ch with
   |true=>rw[if_pos rfl,ig (by rw[h.dl];exact hi)];rfl
   |false=>
    rw[if_neg Bool.false_ne_true,h.dk i hi]
    rcases hk.h with k | ⟨k1,k2,k3,k4,_⟩
    ·rw[hc]at k;cases k
    ·show some (jt (ax w i).ep (ax w i).nu (ax w i).c (ax w i).t)=some (jt R.ep R.nu R.c R.t)
     rw[k1,k2,k3,k4]
  ·rw[uo _ e]
   split
   ·rw[gr e];exact h.dk j hj
   ·exact h.dk j hj
 ·rw[u2,s3];exact h.vs
 ·rw[u2,s3];exact h.v0
 ·rw[u2,s3];exact h.vm
 ·rw[u3];exact Td i R.out _ hr.om h.af
 ·rw[u3];have:(gz (cZ w i R) i).af.length=w.af.length:=rfl;omega
 ·intro c hc
  obtain⟨c0,g1,g2⟩:=afT _ _ _ hc
  rw[s4]at g1
  rw[<- g2];exact h.cs c0 g1
 ·rw[t2,s4];exact h.cl
 ·rw[u4,s5];exact h.n3
 ·rw[u4,s5];exact h.nb
 ·rw[u5,s6];exact h.n0
 ·rw[u5,s6];exact h.n1
section
variable {T:Int} {w:Wd}
theorem IJ (h:WI T w):WI (T+1) (dm w):=by
 have:=h.mono (by omega:T<=T+1)
 exact⟨this.rl,this.dl,this.r,this.dk,this.vs,this.v0,this.vm,this.af,this.bl,this.cs,this.cl,this.n3,this.nb,by have:=h.n0;show 0<=w.now+1;omega,by have:=h.n1;show w.now+1<=_;omega⟩
theorem Jh (h:WI T w) (k:Nat):WI T (kV w k):=⟨h.rl,h.dl,h.r,h.dk,h.vs,h.v0,h.vm,fun l hl=>h.af l (List.mem_of_mem_eraseIdx hl),by have:=h.bl;have:=List.length_eraseIdx_le w.af k;show(w.af.eraseIdx k).length<=_;omega,h.cs,h.cl,h.n3,h.nb,h.n0,h.n1⟩
theorem xp {k:Nat} (hk:k<w.af.length):fO w k∈w.af:=fi (Fg hk)
theorem XK (h:WI T w) {k:Nat} (hk:k<w.af.length) (h5:w.af.length<500):WI T (xF w k):=⟨h.rl,h.dl,h.r,h.dk,h.vs,h.v0,h.vm,fun l hl=>nN (P:=LW T) h.af (h.af _ (xp hk)) hl,by show(w.af++[_]).length<=_;rw[bn,ii];omega,h.cs,h.cl,h.n3,h.nb,h.n0,h.n1⟩
theorem adV (h:WI T w) {a:Nat} (ha:a<4):WI T (cZ w a (uq (ax w a) a)):=by
 have Bf:a<w.R.length:=by rw[h.rl];exact ha
 have hr:=(h.r a ha).w
 refine⟨by show(w.R.set a _).length=4;rw[ir];exact h.rl,h.dl,fun j hj=>?_,fun j hj=>?_,h.vs,h.v0,h.vm,h.af,h.bl,h.cs,h.cl,h.n3,h.nb,h.n0,h.n1⟩
 ·by_cases e:a=j
  ·subst e
   rw[rC _ Bf]
   have h0:=hr.t0
   have h1:=hr.t1
   refine⟨⟨B0 _ _ _ _ hr.i.ok.n0 hr.i.ok.n1 hr.i.ok.cl hr.i.ok.cb hr.i.tx,rfl,hr.e0,hr.e1,hr.n1,bt _,fa _,by show(0:Int)<=T;omega,fun p hp=>(by cases hp),fun d hd=>(by cases hd),fun o ho=>by simp [uq,newR,cw]at ho⟩,rfl,rfl,rfl,rfl⟩
  ·rw[uo _ e];exact h.r j hj
 ·by_cases e:a=j
  ·subst e;rw[rC _ Bf];exact h.dk a ha
  ·rw[uo _ e];exact h.dk j hj
theorem HU (h:WI T w):cK w∈w.vs:=fi (wy (by have:=h.v0;omega))
theorem sO {l:List Int} {v x:Int}:x∈gK l v ↔ x∈l/\x≠v:=by unfold gK;rw[kM,bne_iff_ne]
theorem ID {l:List Int} (h:l.Nodup) (v:Int):(gK l v).Nodup:=h.filter _
theorem Iy {v:Vw} (h:VW T v) (ch:Int) {id:Int} (hid:0<=id/\id<4):VW (T+1) (lG v ch id)/\((lG v ch id).ve=v.ve∨(lG v ch id).ve=v.ve+1):=by
 have same:VW (T+1) v:=⟨by have:=h.len;omega,h.e0,by have:=h.e1;omega,h.m0,h.rg,h.nd⟩
 have hnd:=List.nodup_append.1 h.nd
 have l1:=IC v.mem id
 have l2:=IC v.aM id
 have hl:=h.len
 have e0:=h.e0
 have e1:=h.e1
 unfold lG
 split
 ·split
  ·exact⟨same,.inl rfl⟩
  ·rename_i hn
   refine⟨⟨by dsimp only;omega,by dsimp only;omega,by dsimp only;omega,?_,?_,?_⟩,.inr rfl⟩
   ·dsimp only
    intro he
    have hm:∀ x∈v.mem,x=id:=fun x hx=>by
     by_cases e:x=id
     ·exact e
     ·have:x∈gK v.mem id:=sO.2 ⟨hx,e⟩
      rw[he]at this;cases this
    cases hv:v.mem with
    |nil=>exact h.m0 hv
    |cons a r=>
     have ha:=hm a (by rw[hv];exact iu)
     cases r with
     |nil=>exact hn (.inr ⟨by rw[hv,ha];exact iu,by rw[hv];rfl⟩)
     |cons b r=>
      have hb:=hm b (by rw[hv];exact fM _ iu)
      have:=hnd.1
      rw[hv]at this
      exact(List.nodup_cons.1 this).1 (by rw[ha,<- hb];exact iu)
   ·intro x hx
    refine h.rg x ?_
    rcases dM.1 hx with hx | hx
    ·exact iL _ (sO.1 hx).1
    ·exact mc _ (sO.1 hx).1
   ·exact List.nodup_append.2 ⟨ID hnd.1 _,ID hnd.2.1 _,fun a ha b hb=>hnd.2.2 a (sO.1 ha).1 b (sO.1 hb).1⟩
 ·split
  ·split
   ·exact⟨same,.inl rfl⟩
   ·rename_i hn
    refine⟨⟨by dsimp only;rw[bn,ii];omega,by dsimp only;omega,by dsimp only;omega,h.m0,fun x hx=>?_,?_⟩,.inr rfl⟩
    ·dsimp only at hx
     rw[<- dO]at hx
     exact nN (P:=fun x=>0<=x/\x<4) h.rg hid hx
    ·dsimp only
     rw[<- dO]
     refine List.nodup_append.2 ⟨h.nd,by simp,fun a ha b hb=>?_⟩
     rw[dQ]at hb;subst hb
     intro e;subst e
     exact hn (dM.1 ha)
  ·split
   ·split
    ·exact⟨same,.inl rfl⟩
    ·rename_i hn
     have hn:id∈v.aM:=by simpa using hn
     refine⟨⟨by dsimp only;rw[bn,ii];omega,by dsimp only;omega,by dsimp only;omega,by simp,fun x hx=>?_,?_⟩,.inr rfl⟩
     ·dsimp only at hx
      rcases dM.1 hx with hx | hx
      ·rcases dM.1 hx with hx | hx
       ·exact h.rg x (iL _ hx)
       ·rw[dQ]at hx;subst hx;exact hid
      ·exact h.rg x (mc _ (sO.1 hx).1)
     ·dsimp only
      refine List.nodup_append.2 ⟨List.nodup_append.2 ⟨hnd.1,by simp,fun a ha b hb=>?_⟩,ID hnd.2.1 _,fun a ha b hb=>?_⟩
      ·rw[dQ]at hb;subst hb
       exact hnd.2.2 a ha _ hn
      ·have hb:=sO.1 hb
       rcases dM.1 ha with ha | ha
       ·exact hnd.2.2 a ha b hb.1
       ·rw[dQ]at ha;subst ha
        exact fun e=>hb.2 e.symm
   ·exact⟨same,.inl rfl⟩
theorem afX (h:WI T w) (s:Sp) {a:Int} (ha:0<=a/\a<4):WI (T+1) (pN w s a):=by
 have h1:=h.mono (by omega:T<=T+1)
 unfold pN
 split
 ·exact h1
 ·split
  ·exact⟨h1.rl,h1.dl,h1.r,h1.dk,fun v hv=>nN (P:=VW (T+1)) h1.vs (Iy (h.vs _ (HU h)) _ ha).1 hv,by show 0<(w.vs++[_]).length;rw[bn];simp,by have:=h.vm;show(((w.vs++[_]).length:Nat):Int)<=_;rw[bn,ii];omega,h1.af,h1.bl,h1.cs,h1.cl,h1.n3,h1.nb,h1.n0,h1.n1⟩
  ·exact h1
theorem QJ (h:WI T w) (s:Sp) (h12:w.cs.length<12):WI (T+1) (lF w s):=by
 have h1:=h.mono (by omega:T<=T+1)
 have hb:=Ix w s
 have pc:=lJ s.n (n:=2) (by omega)
 have cn:(bO s).toNat<w.aW.length:=by rw[h.n3];unfold bO;omega
 have hm:=h.nb _ (A_ cn)
 refine⟨h1.rl,h1.dl,h1.r,h1.dk,h1.vs,h1.v0,h1.vm,h1.af,h1.bl,fun c hc=>?_,by show(w.cs++[_]).length<=_;rw[bn,ii];omega,by show(w.aW.set _ _).length=3;rw[ir];exact h.n3,fun n hn=>?_,h1.n0,h1.n1⟩
 ·refine nN (P:=fun c:dD=>fR c.o/\c.o.b.length<=2048) h.cs ⟨⟨hb.1,by have:=hb.2;show(fW w s).b.length<=_;omega⟩,?_⟩ hc
  show(fW w s).b.length<=_
  unfold fW;dsimp only;split
  ·rw[Df];omega
  ·exact bt _
 ·have hn:n∈w.aW.set (bO s).toNat (kA w (bO s)+1):=hn
  rcases List.mem_or_eq_of_mem_set hn with hn | hn
  ·exact h1.nb n hn
  ·have:kA w (bO s)=w.aW.getD (bO s).toNat 0:=rfl
   rw[hn,this];omega
theorem qA {α:Type} {l:List α} (h:l=[]):l.length=0:=by rw[h];rfl
theorem Ke (h:WI T w) (hT:T<800) {a:Nat} (ha:a<4) {o:Op} (ho:fR o) (hb:o.b.length<=2048):kL (tP w o a) a/\WI (T+1) (s9 w o a):=by
 have hr:=h.r a ha
 have z1:=qA hr.out
 have z2:=qA hr.done
 have fy:=vY hr.w
 have hw:=ae5 hr.w (by omega) (by omega) (by omega) ho hb
 have hs:=TC hr.w.i ho (by have:=hr.w.n1;omega) (by omega) (by omega)
 have so:=hs.o
 have sd:=hs.d
 exact AC (h.mono (by omega)) ha hw (by omega) (hs.me.trans hr.me) (by omega) (by omega) (ae0 _ _)
theorem Ty (h:WI T w) (hT:T<790) (s:Sp):Af w s (cE s)/\WI (T+2) (l8 w s (cE s)):=by
 have pa:=lJ s.dg (n:=4) (by omega)
 have ha:cE s<4:=by unfold cE;omega
 have hr:=h.r _ ha
 have z1:=qA hr.out
 have fy:=vY hr.w
 have qP:∀ c,tB w (bO s)=some c->c∈w.cs:=fun c hc=>(kM.1 (List.mem_of_getLast? hc)).1
 have hcl:=h.cl
 have hB:w.cs.length<12->kL (tP (lF w s) (fW w s) (cE s)) (cE s)/\WI (T+2) (s9 (lF w s) (fW w s) (cE s)):=fun h12=>by
  have hn:=QJ h s h12
  have hb:=Ix w s
  have hm:(⟨fW w s,qi w s,w.now,-1⟩:dD)∈(lF w s).cs:=mc _ (dQ.2 rfl)
  have:=Ke hn (by omega) ha (hn.cs _ hm).1 (hn.cs _ hm).2
  rw[show T+1+1=T+2 by omega]at this
  exact this
 refine⟨⟨by rw[h.rl];exact ha,by rw[h.dl];exact ha,hr.w.i,by omega,by omega,fun c hc=>⟨(h.cs c hc).1.b,by have:=(h.cs c hc).2;omega⟩,h.n3,fun n hn=>by have:=h.nb n hn;omega,fun c hc=>(Ke h (by omega) ha (h.cs c (qP c hc)).1 (h.cs c (qP c hc)).2).1,fun h12=>(hB h12).1⟩,?_⟩
 unfold l8
 split
 ·split
  ·rename_i c hc
   exact(Ke h (by omega) ha (h.cs c (qP c hc)).1 (h.cs c (qP c hc)).2).2.mono (by omega)
  ·exact h.mono (by omega)
 ·split
  ·exact h.mono (by omega)
  ·exact(hB (by omega)).2
theorem ND (h:WI T w) (hT:T<800) {k:Nat} (hk:k<w.af.length):zq w k/\WI T (vn w k):=by
 have hl:=h.af _ (xp hk)
 have t0:=hl.t0
 have t1:=hl.t1
 have hto:(fO w k).to.toNat<4:=by omega
 have hr:=h.r _ hto
 have z1:=qA hr.out
 have z2:=qA hr.done
 have hw:=YO hr.w (by omega) (by omega) (by omega) (fO w k).fr hl.m
 have hs:=YJ hr.w.i (by omega) (by omega) (fO w k).fr hl.m.ok
 have so:=hs.o
 have sd:=hs.d
 have:=AC (Jh h k) hto hw (by omega) (hs.me.trans hr.me) (by omega) (by omega) (YK _ _ _)
 exact⟨⟨hk,by have:=h.bl;omega,t0,by rw[h.rl];exact t1,hl.m.r,hl.m.ok,hr.w.i,this.1⟩,this.2⟩
theorem UB (h:WI T w) (hT:T<800) {a:Nat} (ha:a<4) {v:Vw} (hv:v∈w.vs):bA (ax w a)/\v.mem.length+v.aM.length<=1000/\(ax w a).out.length+(bz (ax w a).me v.mem v.aM).length<=100000/\kL (cZ w a (gN (ax w a) v)) a/\WI T (KN w a v):=by
 have hr:=h.r a ha
 have x4:=h.vs v hv
 have hl:=x4.len
 have z1:=qA hr.out
 have z2:=qA hr.done
 have ho:(bz (ax w a).me v.mem v.aM).length<=1000:=by
  have h1:(bz (ax w a).me v.mem v.aM).length<=(v.mem++v.aM).length:=List.length_filter_le ..
  rw[bn]at h1;omega
 have hw:=ahR hr.w (by omega) (by omega) (by omega) (w:=v) (by omega) x4.e1
 have hs:=UD (w:=v) hr.w.i (by omega) (by omega) (by omega)
 have so:=hs.o
 have sd:=hs.d
 have:=AC h ha hw (by omega) (hs.me.trans hr.me) (by omega) (by omega) (ahN _ _)
 exact⟨hr.w.i,by omega,by omega,this.1,this.2⟩
theorem Xh (w:Wd) {i j:Nat} (R:κ) (h:i≠j) (hi:i<w.R.length):ax (hZ (cZ w i R) i) j=ax w j:=by
 have e1:ax (cZ w i R) i=R:=rC R hi
 have e2:(hZ (cZ w i R) i).R=(cZ w i (mT R)).R:=by
  unfold hZ
  rw[e1,(wx _ _).1,(sX i _ _).1]
  show(w.R.set i R).set i (mT (ax (cZ w i R) i))=w.R.set i (mT R)
  rw[e1,List.set_set]
 rw[Js e2,uo _ h]
theorem yU (h:WI T w) (hT:T<800):∀ i,i<=4->WI (T+1) (il w i)/\(∀ j,i<=j->j<4->ax (il w i) j=ax w j)/\(∀ k,k<i->kL (cZ (il w k) k (gm (ax (il w k) k))) k)
 | 0,_=>⟨h.mono (by omega),fun j _ _=>rfl,fun k hk=>by omega⟩
 |i+1,hi=>by
  obtain⟨h1,h2,h3⟩:=yU h hT i (by omega)
  have hr:=h.r i (by omega)
  have e:=h2 i (av _) (by omega)
  have z1:=qA hr.out
  have z2:=qA hr.done
  have fy:=vY hr.w
  have hw:=afJ hr.w (by omega) (by omega)
  have hs:=afD hr.w.i (by omega)
  have c:(gm (ax w i)).me=(ax w i).me/\(gm (ax w i)).done=(ax w i).done:=by
   unfold gm
   split
   ·exact⟨rfl,rfl⟩
   ·split<;>exact⟨rfl,rfl⟩
  have so:=hs.2
  have:=AC h1 (i:=i) (by omega) (R:=gm (ax w i)) hw (by omega) (c.1.trans hr.me) (by omega) (by rw[c.2];omega) (by rw[e];exact afF _)
  have et:il w (i+1)=hZ (cZ (il w i) i (gm (ax w i))) i:=by
   show C9 (il w i) i=_
   unfold C9;rw[e]
  rw[et]
  refine⟨this.2,fun j hj Zi=>?_,fun k hk=>?_⟩
  ·rw[Xh _ _ (by omega) (by rw[h1.rl];omega)]
   exact h2 j (by omega) Zi
  ·by_cases ek:k=i
   ·subst ek;rw[e];exact this.1
   ·exact h3 k (by omega)
theorem Kh (h:WI T w) (hT:T<700) (s:Sp):D8 w s/\WI (T+3) (gM w s):=by
 have hn:=IJ h
 have pa:=lJ s.dg (n:=4) (by omega)
 have ha:cE s<4:=by unfold cE;omega
 have hN:∀ j,ax (dm w) j=ax w j:=fun j=>rfl
 have p3:=lJ s.n (n:=3) (by omega)
 have v0:=h.v0
 have Bu:mH w s∈w.vs:=fi (wy (by omega))
 have hpk:0<w.af.length->ik w s<(dm w).af.length:=fun hl=>by
  have:=lJ s.n (n:=(w.af.length:Int)) (by omega)
  show(bM s.n w.af.length).toNat<w.af.length
  omega
 have nI:=HU hn
 have hlv:=hn.vs _ nI
 obtain⟨x0,hx0⟩:∃ x,(cK w).mem[0]? =some x:=by
  cases hm:(cK w).mem with
  |nil=>exact absurd hm hlv.m0
  |cons a r=>exact⟨a,rfl⟩
 have Bj:gG (cK w)=x0:=by unfold gG;rw[gD,hx0];rfl
 have ZH:=hlv.rg x0 (iL _ (fi hx0))
 have hlen:=hlv.len
 refine⟨⟨h.rl,h.dl,h.n0,by have:=h.n1;omega,by have:=h.bl;omega,h.v0,by have:=h.vm;omega,fun _=>(Ty hn (by omega) s).1,fun _ hl=>(ND hn (by omega) (hpk hl)).1,fun _=>?_,fun _=>?_,fun _=>?_,fun _ i hi=>?_⟩,?_⟩
 ·have hr:=(h.r _ ha).w
  refine⟨h.dk _ ha,⟨rfl,hr.e0,by have:=hr.e1;omega,hr.i.ok.n0,by have:=hr.n1;omega,hr.i.ok.cl,hr.i.tx⟩,ad9 (by have:=hr.e1;omega) (by have:=hr.n1;omega) hr.i.ok.cl hr.i.ok.cb hr.i.tx,?_⟩
  have:=ad_ (ax w (cE s)).ep (ax w (cE s)).nu hr.i.ok.cl hr.i.tx.len
  exact mf this (by omega)
 ·have Bm:(cK (dm w)).mem.length+(cK (dm w)).aM.length<=1000:=by omega
  refine⟨v0,by have:=h.vm;show w.vs.length<=_;omega,by omega,by omega,?_,by show 0<=gG (cK w);rw[Bj];omega,by show gG (cK w)<((w.R.length:Nat):Int);rw[Bj,h.rl];omega,?_,hlv.e0,by have:=hlv.e1;omega⟩
  ·rcases Nat.eq_zero_or_pos (cK (dm w)).mem.length with e | e
   ·exact absurd (List.length_eq_zero_iff.1 e) hlv.m0
   ·exact e
  ·refine(h.r (gG (cK w)).toNat ?_).w.i
   rw[Bj];omega
 ·obtain⟨c1,c2,c3,c4,_⟩:=UB hn (by omega) ha (v:=mH w s) Bu
  exact⟨c1,c2,c3,c4⟩
 ·obtain⟨h1,h2,_⟩:=yU hn (by omega) i (by omega)
  have h4:=(yU hn (by omega) 4 (av _)).2.2 i hi
  have hr:=hn.r i hi
  have e:=h2 i (av _) hi
  have z1:=qA hr.out
  have fy:=vY hr.w
  rw[e]at h4 ⊢
  exact⟨h1.rl,hr.w.i,hr.w.t0,by have:=hr.w.t1;omega,by omega,h4⟩
 ·unfold gM lN
  repeat' split
  ·exact(Ty hn (by omega) s).2.mono (by omega)
  ·rename_i hl;exact(ND hn (by omega) (hpk hl)).2.mono (by omega)
  ·exact hn.mono (by omega)
  ·exact(Jh hn _).mono (by omega)
  ·exact hn.mono (by omega)
  ·rename_i hl;exact(XK hn (hpk hl.1) hl.2).mono (by omega)
  ·exact hn.mono (by omega)
  ·exact(adV hn ha).mono (by omega)
  ·exact(afX hn s (by omega)).mono (by omega)
  ·exact(UB hn (by omega) ha (v:=mH w s) Bu).2.2.2.2.mono (by omega)
  ·exact(yU hn (by omega) 4 (av _)).1.mono (by omega)
  ·exact hn.mono (by omega)
end
def xE (s:List Int×List L3) (o:Op):List Int×List L3:=(fc s.1 o.kd o.bk o.b,j6 s.2 o)
def dc (l:List Op):List Int×List L3:=l.foldl xE (jR,[])
theorem CZ (l:List Op) (o:Op):dc (l++[o])=xE (dc l) o:=by unfold dc;rw[List.foldl_append];rfl
structure Gh where
 act:Int->Prop
 ba:Int->Nat
 pe:Int->Int
 lg:Int->List Op
 rc:Int->Int->Nat
def UF:Vw:=⟨0,0,0,[],[]⟩
def lO (vs:List Vw) (e:Int):Vw:=vs.getD (e - 1).toNat UF
def gR (vs:List Vw) (e:Int):Int:=gG (lO vs e)
structure GI (vs:List Vw) (G:Gh):Prop where
 a0:∀ e,G.act e->1<=e/\e<=vs.length
 nl:∀ e,¬ G.act e->G.lg e=[]
 nr:∀ x e,¬ G.act e->G.rc x e=0
 bl:∀ e,G.act e->G.ba e<=(G.lg e).length
 p0:∀ e,G.act e->0<=G.pe e/\G.pe e<e
 p1:∀ e,G.act e->G.pe e=0->G.ba e=0
 p2:∀ e,G.act e->1<=G.pe e->G.act (G.pe e)/\G.ba (G.pe e)<=G.ba e/\G.ba e<=(G.lg (G.pe e)).length/\(G.lg e).take (G.ba e)=(G.lg (G.pe e)).take (G.ba e)
 p3:∀ e,G.act e->G.rc (gR vs e) (G.pe e)=G.ba e
 p4:∀ e,G.act e->∀ e',G.pe e<e'->e'<e->G.rc (gR vs e) e'=0
 rl:∀ x e,G.rc x e<=(G.lg e).length
 ld:∀ e,G.act e->G.rc (gR vs e) e=(G.lg e).length
structure VI (vs:List Vw) (G:Gh):Prop where
 ve:∀(i:Nat) (v:Vw),vs[i]? =some v->v.ve=(i:Int)+1/\v.vi=5
 m0:∀ v∈vs,v.mem≠[]
 nd:∀ v∈vs,(v.mem++v.aM).Nodup
 nx:∀(i:Nat) (v v':Vw),vs[i]? =some v->vs[i+1]? =some v'->∀ x∈v'.mem,x∈v.mem∨(x∈v.aM/\G.act v.ve/\G.ba v.ve<=G.rc x v.ve)
structure jU (vs:List Vw) (G:Gh) (k:Int) (R:κ) (L:de):Prop where
 v:R.v∈vs
 ep:R.ep=R.v.ve
 hd:gR vs R.ep=k
 ins:∀ x∈aZ R,L.ins x=true->R.nu<=(G.rc x R.ep:Int)+(if L.cur.isSome then 1 else 0)
 cN:∀ x,L.cN x=true->R.nu<=(G.rc x R.ep:Int)
 cur:∀ o,L.cur=some o->(G.ba R.ep:Int)<R.nu/\(G.lg R.ep)[R.nu.toNat - 1]? =some o
structure RI (vs:List Vw) (G:Gh) (k:Int) (R:κ):Prop where
 me:R.me=k
 id:R.id=5
 bl:R.bl=false
 lo:R.lo=false
 e0:0<=R.ep
 n0:0<=R.nu
 ac:R.ep≠0->G.act R.ep/\(G.ba R.ep:Int)<=R.nu
 nl:R.nu<=((G.lg R.ep).length:Int)
 st:(R.c,R.t)=dc ((G.lg R.ep).take R.nu.toNat)
 rc:(G.rc k R.ep:Int)=R.nu
 rz:∀ e,R.ep<e->G.rc k e=0
 al:∀ e,G.act e->gR vs e=k->e<=R.ep
 v:R.v=UF∨R.v∈vs
 l:∀ L,R.ld=some L->jU vs G k R L
inductive ja (vs:List Vw) (G:Gh) (fr:Int):dY->Prop
 |sync (e:Int) (n:Nat):G.act e->fr=gR vs e->G.ba e<=n->n<=(G.lg e).length->eX (dc ((G.lg e).take n)).2->(dc ((G.lg e).take n)).1.length=128->ja vs G fr ⟨10,[5,e,(n:Int)],b_ (dc ((G.lg e).take n)).1,[bh (dc ((G.lg e).take n)).2]⟩
 |ok (kd e:Int) (n:Nat):(kd=11∨kd=13∨kd=14)->n<=G.rc fr e->ja vs G fr ⟨kd,[5,e,(n:Int)],[],[]⟩
 |op (e:Int) (n:Nat) (o:Op) (s:Int):G.act e->fr=gR vs e->G.ba e<n->(G.lg e)[n - 1]? =some o->ja vs G fr ⟨12,[5,e,(n:Int),o.cl,o.nm,o.kd,o.bk,s],o.b,[]⟩
structure Cm (vs:List Vw) (G:Gh) (e:Int) (n:Nat):Prop where
 a:G.act e
 n1:1<=n
 nl:n<=(G.lg e).length
 al:∀ x∈(lO vs e).mem++(lO vs e).aM,n<=G.rc x e
structure uS (vs:List Vw) (G:Gh) (d:Dn):Prop where
 h:d.e=0->∃ e n,Cm vs G e n/\d.o∈(G.lg e).take n/\(d.o.kd=3->(G.lg e)[n - 1]? =some d.o/\d.x=mD (dc ((G.lg e).take n)).1 d.o)
structure Ex (vs:List Vw) (k:Int) (G G':Gh):Prop where
 act:∀ e,G.act e->G'.act e
 ba:∀ e,G.act e->G'.ba e=G.ba e
 lg:∀ e,G.lg e<+:G'.lg e
 lk:∀ e,gR vs e≠k->G'.lg e=G.lg e
 ak:∀ e,G'.act e->¬ G.act e->gR vs e=k
 rc:∀ x e,G.rc x e<=G'.rc x e
 rk:∀ x e,x≠k->G'.rc x e=G.rc x e
theorem Ex.refl (vs:List Vw) (k:Int) (G:Gh):Ex vs k G G:=⟨fun _ h=>h,fun _ _=>rfl,fun _=>List.prefix_rfl,fun _ _=>rfl,fun _ h n=>absurd h n,fun _ _=>av _,fun _ _ _=>rfl⟩
theorem qk {l l':List Op} (h:l<+:l') {n:Nat} (hn:n<=l.length):l'.take n=l.take n:=by
 obtain⟨t,rfl⟩:=h;rw[List.take_append_of_le_length hn]
theorem v7 {l l':List Op} (h:l<+:l') {n:Nat} {o:Op} (hn:l[n]? =some o):l'[n]? =some o:=by
 obtain⟨t,rfl⟩:=h;rw[dP (bG.1 hn).1];exact hn
theorem v8 {l l':List Op} (h:l<+:l'):l.length<=l'.length:=h.length_le
theorem GO {l:List Op} {n:Nat} {o:Op} (hn:l[n]? =some o):n<l.length:=(bG.1 hn).1
theorem jU.mono {vs:List Vw} {k j:Int} {G G':Gh} {R:κ} {L:de} (h:jU vs G j R L) (ha:G.act R.ep) (hx:Ex vs k G G'):jU vs G' j R L:=
 ⟨h.v,h.ep,h.hd,fun x ho hx'=>Int.le_trans (h.ins x ho hx') (Int.add_le_add_right (Int.ofNat_le.2 (hx.rc x R.ep)) _),fun x hx'=>by have:=h.cN x hx';have:=hx.rc x R.ep;omega,fun o ho=>⟨by rw[hx.ba _ ha];exact(h.cur o ho).1,v7 (hx.lg _) (h.cur o ho).2⟩⟩
theorem jU.act {vs:List Vw} {k:Int} {G:Gh} {R:κ} {L:de} (hV:VI vs G) (h:jU vs G k R L):1<=R.ep:=by
 obtain⟨i,hi⟩:=jx h.v
 have:=(hV.ve i _ hi).1
 rw[h.ep];omega
theorem RI.mono {vs:List Vw} {k j:Int} {G G':Gh} {R:κ} (hV:VI vs G) (h:RI vs G j R) (hx:Ex vs k G G') (hj:j≠k):RI vs G' j R:=by
 have hnl:=h.nl
 have hn0:=h.n0
 refine⟨h.me,h.id,h.bl,h.lo,h.e0,h.n0,fun he=>⟨hx.act _ (h.ac he).1,by rw[hx.ba _ (h.ac he).1];exact(h.ac he).2⟩,?_,?_,by rw[hx.rk _ _ hj];exact h.rc,fun e he=>by rw[hx.rk _ _ hj];exact h.rz e he,fun e he hl=>?_,h.v,fun L hL=>?_⟩
 ·have:=v8 (hx.lg R.ep);omega
 ·rw[qk (hx.lg R.ep) (by omega)];exact h.st
 ·exact Classical.byCases (fun ha:G.act e=>h.al e ha hl) (fun ha=>absurd (hl.symm.trans (hx.ak e he ha)) hj)
 ·have:=(h.l L hL).act hV
  exact(h.l L hL).mono (h.ac (by omega)).1 hx
theorem ja.mono {vs:List Vw} {k fr:Int} {G G':Gh} {m:dY} (h:ja vs G fr m) (hx:Ex vs k G G'):ja vs G' fr m:=by
 cases h with
 |sync e n a f b l x c=>
  have e1:=qk (hx.lg e) l
  have:=v8 (hx.lg e)
  rw[<- e1]
  exact .sync e n (hx.act e a) f (by rw[hx.ba e a];exact b) (by omega) (by rw[e1];exact x) (by rw[e1];exact c)
 |ok kd e n hk hn=>exact .ok kd e n hk (mf hn (hx.rc _ _))
 |op e n o s a f b g=>exact .op e n o s (hx.act e a) f (by rw[hx.ba e a];exact b) (v7 (hx.lg e) g)
theorem Cm.mono {vs:List Vw} {k:Int} {G G':Gh} {e:Int} {n:Nat} (h:Cm vs G e n) (hx:Ex vs k G G'):Cm vs G' e n:=
 ⟨hx.act e h.a,h.n1,mf h.nl (v8 (hx.lg e)),fun x hx'=>mf (h.al x hx') (hx.rc x e)⟩
theorem VI.mono {vs:List Vw} {k:Int} {G G':Gh} (h:VI vs G) (hx:Ex vs k G G'):VI vs G':=
 ⟨h.ve,h.m0,h.nd,fun i v v' h1 h2 x hx'=>(h.nx i v v' h1 h2 x hx').imp id (fun⟨a,b,c⟩=>⟨a,hx.act _ b,by rw[hx.ba _ b];exact mf c (hx.rc _ _)⟩)⟩
theorem Dk {vs:List Vw} {e:Int} (h1:1<=e) (h2:e<=vs.length):vs[(e - 1).toNat]? =some (lO vs e):=by
 unfold lO
 rw[gD,bp (by omega)];rfl
theorem UP {vs:List Vw} {G:Gh} (hV:VI vs G) {e:Int} (h1:1<=e) (h2:e<=vs.length):(lO vs e).ve=e:=by
 have:=(hV.ve _ _ (Dk h1 h2)).1
 omega
theorem Dl {vs:List Vw} {G:Gh} (hV:VI vs G) {v:Vw} (hv:v∈vs):lO vs v.ve=v/\1<=v.ve/\v.ve<=vs.length:=by
 obtain⟨i,hi⟩:=jx hv
 have h1:=(hV.ve i _ hi).1
 have h2:=(bG.1 hi).1
 refine⟨?_,by omega,by omega⟩
 unfold lO
 rw[gD,show(v.ve - 1).toNat=i by omega,hi];rfl
theorem O_ {v:Vw} (h:v.mem≠[]):gG v∈v.mem:=by
 unfold gG
 cases hm:v.mem with
 |nil=>exact absurd hm h
 |cons a r=>exact iu
theorem UC {vs:List Vw} {G:Gh} (hV:VI vs G) {x:Int} {a:Int} (ha:1<=a):∀(d:Nat),a+(d:Int)<=vs.length->x∈(lO vs (a+(d:Int))).mem->
  x∈(lO vs a).mem∨∃ j,a<=j/\j<a+(d:Int)/\x∈(lO vs j).aM/\G.act j/\G.ba j<=G.rc x j
 | 0,_,h=> .inl (by simpa using h)
 |d+1,hd,h=>by
  have h1:=Dk (vs:=vs) (e:=a+(d:Int)) (by omega) (by omega)
  have h2:=Dk (vs:=vs) (e:=a+((d+1:Nat):Int)) (by omega) (by omega)
  rw[show(a+((d+1:Nat):Int) - 1).toNat=(a+(d:Int) - 1).toNat+1 by omega]at h2
  have xZ:=UP hV (e:=a+(d:Int)) (by omega) (by omega)
  rcases hV.nx _ _ _ h1 h2 x h with h3 | ⟨h3,h4,h5⟩
  ·rcases UC hV ha d (by omega) h3 with h6 | ⟨j,j1,j2,j3⟩
   ·exact .inl h6
   ·exact .inr ⟨j,j1,by omega,j3⟩
  ·rw[xZ]at h4 h5
   exact .inr ⟨a+d,by omega,by omega,h3,h4,h5⟩
theorem afv {l l':List Op} {n m:Nat} (h:l.take m=l'.take m) (hn:n<=m):l.take n=l'.take n:=by
 have:=congrArg (az n) h
 rwa [List.take_take,List.take_take,Nat.min_eq_left hn]at this
theorem FN {vs:List Vw} {G:Gh} (hG:GI vs G) (hV:VI vs G) {e:Int} {n:Nat} (hc:Cm vs G e n):∀(d:Nat) (e':Int),(e' - e).toNat<=d->G.act e'->e<e'->n<=G.ba e'/\(G.lg e').take n=(G.lg e).take n
 | 0,e',hd,_,hl=>by omega
 |d+1,e',hd,ha,hl=>by
  have a0:=hG.a0 e hc.a
  have a1:=hG.a0 e' ha
  have p0:=hG.p0 e' ha
  have hm:gR vs e'∈(lO vs e').mem:=O_ (hV.m0 _ (fi (Dk a1.1 a1.2)))
  have key:∃ j,e<=j/\j<e'/\n<=G.rc (gR vs e') j/\(G.lg j).take n=(G.lg e).take n:=by
   have hb:=UC hV (x:=gR vs e') a0.1 (e' - e).toNat (by omega) (by rw[show e+((e' - e).toNat:Int)=e' by omega];exact hm)
   rcases hb with h1 | ⟨j,j1,j2,j3,j4,j5⟩
   ·exact⟨e,by omega,hl,hc.al _ (iL _ h1),rfl⟩
   ·rcases(by omega:j=e∨e<j)with rfl | hj
    ·exact⟨j,by omega,hl,hc.al _ (mc _ j3),rfl⟩
    ·obtain⟨k1,k2⟩:=FN hG hV hc d j (by omega) j4 hj
     exact⟨j,by omega,by omega,by omega,k2⟩
  obtain⟨j,j1,j2,j3,j4⟩:=key
  have n1:=hc.n1
  have hp:j<=G.pe e':=by
   rcases Int.lt_or_le (G.pe e') j with h | h
   ·have:=hG.p4 e' ha j h j2;omega
   ·exact h
  obtain⟨q1,q2,q3,q4⟩:=hG.p2 e' ha (by omega)
  have fin:n<=G.ba e'->(G.lg (G.pe e')).take n=(G.lg e).take n->n<=G.ba e'/\(G.lg e').take n=(G.lg e).take n:=fun h1 h2=>⟨h1,(afv q4 h1).trans h2⟩
  rcases(by omega:j=G.pe e'∨j<G.pe e')with h | h
  ·have:=hG.p3 e' ha
   rw[<- h]at this
   exact fin (by omega) (by rw[<- h];exact j4)
  ·obtain⟨k1,k2⟩:=FN hG hV hc d (G.pe e') (by omega) q1 (by omega)
   exact fin (by omega) k2
def Gh.pU (G:Gh) (k E:Int) (n:Nat):Gh:={G with rc:=fun x e=>if e=E/\x=k then n else G.rc x e }
def Gh.add (G:Gh) (k E:Int) (o:Op):Gh:={G with lg:=fun e=>if e=E then G.lg E++[o]else G.lg e,rc:=fun x e=>if e=E/\x=k then(G.lg E).length+1 else G.rc x e }
def Gh.kQ (G:Gh) (k E p:Int) (n:Nat):Gh:=
 ⟨fun e=>e=E∨G.act e,fun e=>if e=E then n else G.ba e,fun e=>if e=E then p else G.pe e,fun e=>if e=E then(G.lg p).take n else G.lg e,fun x e=>if e=E/\x=k then n else G.rc x e⟩
theorem Au (G:Gh) (k E:Int) (n:Nat):(G.pU k E n).rc k E=n:=if_pos ⟨rfl,rfl⟩
theorem qH (G:Gh) {k E x e:Int} (n:Nat) (h:¬ (e=E/\x=k)):(G.pU k E n).rc x e=G.rc x e:=if_neg h
theorem As (G:Gh) (k E:Int) (o:Op):(G.add k E o).rc k E=(G.lg E).length+1:=if_pos ⟨rfl,rfl⟩
theorem r8 (G:Gh) {k E x e:Int} (o:Op) (h:¬ (e=E/\x=k)):(G.add k E o).rc x e=G.rc x e:=if_neg h
theorem tA (G:Gh) (k E:Int) (o:Op):(G.add k E o).lg E=G.lg E++[o]:=if_pos rfl
theorem xj (G:Gh) {k E e:Int} (o:Op) (h:e≠E):(G.add k E o).lg e=G.lg e:=if_neg h
section
variable {vs:List Vw} {G:Gh} {k:Int} {R:κ}
theorem Mt (hG:GI vs G) (h:RI vs G k R) {E:Int} {n:Nat} (ha:G.act E) (hk:gR vs E≠k) (he:R.ep<=E) (h1:G.rc k E<=n) (h2:n<=(G.lg E).length):GI vs (G.pU k E n)/\Ex vs k G (G.pU k E n):=by
 have nk:∀ e e',G.act e->e'<e->¬ (e'=E/\gR vs e=k):=fun e e' a1 a2 ⟨a3,a4⟩=>by
  have:=h.al e a1 a4;omega
 refine⟨⟨hG.a0,hG.nl,fun x e hn=>?_,hG.bl,hG.p0,hG.p1,hG.p2,fun e a=>?_,fun e a e' q1 q2=>?_,fun x e=>?_,fun e a=>?_⟩,⟨fun _ h=>h,fun _ _=>rfl,fun _=>List.prefix_rfl,fun _ _=>rfl,fun _ a n=>absurd a n,fun x e=>?_,fun x e hx=>qH G n (fun t=>hx t.2)⟩⟩
 ·rw[qH G n (fun t=>hn (by rw[t.1];exact ha))];exact hG.nr x e hn
 ·have:=(hG.p0 e a).2
  exact(qH G n (nk e _ a this)).trans (hG.p3 e a)
 ·exact(qH G n (nk e e' a q2)).trans (hG.p4 e a e' q1 q2)
 ·by_cases c:e=E/\x=k
  ·obtain⟨rfl,rfl⟩:=c;rw[Au];exact h2
  ·rw[qH G n c];exact hG.rl x e
 ·by_cases c:e=E/\gR vs e=k
  ·exact absurd (by rw[<- c.1];exact c.2) hk
  ·exact(qH G n c).trans (hG.ld e a)
 ·by_cases c:e=E/\x=k
  ·obtain⟨rfl,rfl⟩:=c;rw[Au];exact h1
  ·rw[qH G n c];exact av _
theorem V9 (hG:GI vs G) (h:RI vs G k R) (o:Op) (ha:G.act R.ep) (hk:gR vs R.ep=k):GI vs (G.add k R.ep o)/\Ex vs k G (G.add k R.ep o):=by
 have nk:∀ e e',G.act e->e'<e->¬ (e'=R.ep/\gR vs e=k):=fun e e' a1 a2 ⟨a3,a4⟩=>by
  have:=h.al e a1 a4;omega
 have pre:∀ e,G.lg e<+:(G.add k R.ep o).lg e:=fun e=>by
  by_cases c:e=R.ep
  ·subst c;rw[tA];exact List.prefix_append _ _
  ·rw[xj G o c];exact List.prefix_rfl
 refine⟨⟨hG.a0,fun e hn=>?_,fun x e hn=>?_,fun e a=>mf (hG.bl e a) (v8 (pre e)),hG.p0,hG.p1,fun e a q=>?_,fun e a=>?_,fun e a e' q1 q2=>?_,fun x e=>?_,fun e a=>?_⟩,⟨fun _ h=>h,fun _ _=>rfl,pre,fun e he=>xj G o (fun t=>he (by rw[t];exact hk)),fun _ a n=>absurd a n,fun x e=>?_,fun x e hx=>r8 G o (fun t=>hx t.2)⟩⟩
 ·rw[xj G o (fun t=>hn (by rw[t];exact ha))];exact hG.nl e hn
 ·rw[r8 G o (fun t=>hn (by rw[t.1];exact ha))];exact hG.nr x e hn
 ·obtain⟨b1,b2,b3,b4⟩:=hG.p2 e a q
  exact⟨b1,b2,mf b3 (v8 (pre _)),by show((G.add k R.ep o).lg e).take (G.ba e)=((G.add k R.ep o).lg (G.pe e)).take (G.ba e);rw[qk (pre e) (hG.bl e a),qk (pre (G.pe e)) b3];exact b4⟩
 ·have:=(hG.p0 e a).2
  exact(r8 G o (nk e _ a this)).trans (hG.p3 e a)
 ·exact(r8 G o (nk e e' a q2)).trans (hG.p4 e a e' q1 q2)
 ·by_cases c:e=R.ep/\x=k
  ·obtain⟨rfl,rfl⟩:=c;rw[As,tA,bn];exact av _
  ·rw[r8 G o c];exact mf (hG.rl x e) (v8 (pre e))
 ·by_cases c:e=R.ep
  ·subst c;rw[hk,As,tA,bn];rfl
  ·rw[r8 G o (fun t=>c t.1),xj G o c];exact hG.ld e a
 ·by_cases c:e=R.ep/\x=k
  ·obtain⟨rfl,rfl⟩:=c;rw[As];exact mf (hG.rl _ _) (Nat.le_succ _)
  ·rw[r8 G o c];exact av _
theorem Ww (hG:GI vs G) (h:RI vs G k R) {E:Int} (hk:gR vs E=k) (he:R.ep<E) (hE:E<=vs.length):GI vs (G.kQ k E R.ep R.nu.toNat)/\Ex vs k G (G.kQ k E R.ep R.nu.toNat):=by
 have e0:=h.e0
 have n0:=h.n0
 have nl:=h.nl
 have na:¬ G.act E:=fun a=>by have:=h.al E a hk;omega
 have rm:∀ e,e≠E->(G.kQ k E R.ep R.nu.toNat).lg e=G.lg e:=fun e c=>if_neg c
 have sL:(G.kQ k E R.ep R.nu.toNat).lg E=(G.lg R.ep).take R.nu.toNat:=if_pos rfl
 have tD:∀ e,e≠E->(G.kQ k E R.ep R.nu.toNat).ba e=G.ba e:=fun e c=>if_neg c
 have u_:(G.kQ k E R.ep R.nu.toNat).ba E=R.nu.toNat:=if_pos rfl
 have yB:∀ e,e≠E->(G.kQ k E R.ep R.nu.toNat).pe e=G.pe e:=fun e c=>if_neg c
 have yA:(G.kQ k E R.ep R.nu.toNat).pe E=R.ep:=if_pos rfl
 have nS:∀ x e,¬ (e=E/\x=k)->(G.kQ k E R.ep R.nu.toNat).rc x e=G.rc x e:=fun x e c=>if_neg c
 have Cr:(G.kQ k E R.ep R.nu.toNat).rc k E=R.nu.toNat:=if_pos ⟨rfl,rfl⟩
 have hlen:((G.lg R.ep).take R.nu.toNat).length=R.nu.toNat:=by rw[cQ];omega
 have hrc:=h.rc
 have tz:∀ e,(G.kQ k E R.ep R.nu.toNat).act e->e≠E->G.act e:=fun e a c=>a.resolve_left c
 refine⟨⟨fun e a=>?_,fun e hn=>?_,fun x e hn=>?_,fun e a=>?_,fun e a=>?_,fun e a q=>?_,fun e a q=>?_,fun e a=>?_,fun e a e' q1 q2=>?_,fun x e=>?_,fun e a=>?_⟩,⟨fun _ h=> .inr h,fun e a=>tD e (fun t=>na (by rw[<- t];exact a)),fun e=>?_,fun e c=>rm e (fun t=>c (by rw[t];exact hk)),fun e a n=>?_,fun x e=>?_,fun x e hx=>nS x e (fun t=>hx t.2)⟩⟩
 ·rcases a with rfl | a
  ·omega
  ·exact hG.a0 e a
 ·rw[rm e (fun t=>hn (.inl t))];exact hG.nl e (fun a=>hn (.inr a))
 ·rw[nS x e (fun t=>hn (.inl t.1))];exact hG.nr x e (fun a=>hn (.inr a))
 ·by_cases c:e=E
  ·subst c;rw[u_,sL,hlen];exact av _
  ·rw[tD e c,rm e c];exact hG.bl e (tz e a c)
 ·by_cases c:e=E
  ·subst c;rw[yA];exact⟨e0,he⟩
  ·rw[yB e c];exact hG.p0 e (tz e a c)
 ·by_cases c:e=E
  ·subst c;rw[yA]at q;rw[u_]
   have:=hG.nr k R.ep (fun a=>by have:=(hG.a0 _ a).1;omega)
   omega
  ·rw[yB e c]at q;rw[tD e c];exact hG.p1 e (tz e a c) q
 ·by_cases c:e=E
  ·subst c;rw[yA]at q ⊢;rw[u_,sL,tD _ (by omega),rm _ (by omega)]
   have:=h.ac (by omega)
   exact⟨.inr this.1,by omega,by omega,by rw[List.take_take,Nat.min_self]⟩
  ·rw[yB e c]at q ⊢
   obtain⟨b1,b2,b3,b4⟩:=hG.p2 e (tz e a c) q
   have c2:G.pe e≠E:=fun t=>na (by rw[<- t];exact b1)
   rw[tD e c,rm e c,tD _ c2,rm _ c2]
   exact⟨.inr b1,b2,b3,b4⟩
 ·by_cases c:e=E
  ·subst c;rw[yA,u_,hk,nS _ _ (fun t=>by have:=t.1;omega)];omega
  ·have a2:=tz e a c
   have c2:G.pe e≠E:=fun t=>by
    have h0:=hG.p0 e a2
    exact na (by rw[<- t];exact(hG.p2 e a2 (by omega)).1)
   rw[yB e c,tD e c,nS _ _ (fun t=>c2 t.1)];exact hG.p3 e a2
 ·by_cases c:e=E
  ·subst c;rw[yA]at q1;rw[hk,nS _ _ (fun t=>by have:=t.1;omega)];exact h.rz e' q1
  ·have a2:=tz e a c
   rw[yB e c]at q1
   rw[nS _ _ (fun t=>by have h1:=h.al e a2 t.2;have:=t.1;omega)];exact hG.p4 e a2 e' q1 q2
 ·by_cases c:e=E/\x=k
  ·obtain⟨rfl,rfl⟩:=c;rw[Cr,sL,hlen];exact av _
  ·rw[nS x e c]
   by_cases c2:e=E
   ·subst c2;rw[hG.nr x e na];exact bt _
   ·rw[rm e c2];exact hG.rl x e
 ·by_cases c:e=E
  ·subst c;rw[hk,Cr,sL,hlen]
  ·rw[nS _ _ (fun t=>c t.1),rm e c];exact hG.ld e (tz e a c)
 ·by_cases c:e=E
  ·subst c;rw[hG.nl e na];exact List.nil_prefix
  ·rw[rm e c];exact List.prefix_rfl
 ·rcases a with rfl | a
  ·exact hk
  ·exact absurd a n
 ·by_cases c:e=E/\x=k
  ·obtain⟨rfl,rfl⟩:=c;rw[hG.nr x e na];exact bt _
  ·rw[nS x e c];exact av _
end
structure fj (vs:List Vw) (G:Gh) (k:Int) (R:κ):Prop where
 ri:RI vs G k R
 out:∀ p∈R.out,ja vs G k p.m
 dn:∀ d∈R.done,uS vs G d
structure ou (vs:List Vw) (G:Gh) (k:Int) (R':κ):Prop where
 h:∃ G',GI vs G'/\Ex vs k G G'/\fj vs G' k R'/\∀ e,∃ e',G'.lg e<+:G.lg e'
section
variable {vs:List Vw} {G:Gh} {k:Int} {R:κ}
theorem fj.jr (hG:GI vs G) (h:fj vs G k R):ou vs G k R:=⟨G,hG,Ex.refl _ _ _,h,fun e=>⟨e,List.prefix_rfl⟩⟩
structure Ed (R R':κ):Prop where
 me:R'.me=R.me
 id:R'.id=R.id
 bl:R'.bl=R.bl
 lo:R'.lo=R.lo
 ep:R'.ep=R.ep
 nu:R'.nu=R.nu
 c:R'.c=R.c
 t:R'.t=R.t
 v:R'.v=R.v
theorem RI.cg {R':κ} (h:RI vs G k R) (e:Ed R R') (hl:∀ L,R'.ld=some L->jU vs G k R' L):RI vs G k R':=by
 obtain⟨e1,e2,e3,e4,e5,e6,e7,e8,e9⟩:=e
 exact⟨e1.trans h.me,e2.trans h.id,e3.trans h.bl,e4.trans h.lo,by rw[e5];exact h.e0,by rw[e6];exact h.n0,by rw[e5,e6];exact h.ac,by rw[e5,e6];exact h.nl,by rw[e5,e6,e7,e8];exact h.st,by rw[e5,e6];exact h.rc,by rw[e5];exact h.rz,by rw[e5];exact h.al,by rw[e9];exact h.v,hl⟩
theorem jU.cg {R':κ} {L:de} (h:jU vs G k R L) (e:Ed R R'):jU vs G k R' L:=by
 obtain⟨e1,e2,e3,e4,e5,e6,e7,e8,e9⟩:=e
 have eo:aZ R'=aZ R:=by unfold aZ;rw[e1,e9]
 exact⟨by rw[e9];exact h.v,by rw[e5,e9];exact h.ep,by rw[e5];exact h.hd,by rw[eo,e5,e6];exact h.ins,by rw[e5,e6];exact h.cN,by rw[e5,e6];exact h.cur⟩
theorem RI.out {R':κ} (h:RI vs G k R) (e:Ed R R') (hl:R'.ld=R.ld):RI vs G k R':=h.cg e fun L hL=>(h.l L (hl ▸ hL)).cg e
theorem sP {α:Type} {x:α} {P:Prop} (h:none=some x):P:=by cases h
theorem Dz (h:fj vs G k R):fj vs G k (gn R):=
 ⟨h.ri.cg ⟨rfl,rfl,rfl,rfl,rfl,rfl,rfl,rfl,rfl⟩ fun L hL=>sP hL,h.out,fun d hd=>by
  have hd:d∈R.done++(match cw R with | some o=>[⟨o,19,[]⟩] | none=>[]):=hd
  rcases dM.1 hd with hd | hd
  ·exact h.dn d hd
  ·split at hd
   ·rw[dQ]at hd;subst hd
    exact⟨fun e=>by cases e⟩
   ·cases hd⟩
theorem fj.send (h:fj vs G k R) {to kd:Int} {n b:List Int} {l:List (List Int)} (hm:ja vs G k ⟨kd,R.id::R.ep::n,b,l⟩):fj vs G k (ib R to kd n b l):=
 ⟨h.ri.out ⟨rfl,rfl,rfl,rfl,rfl,rfl,rfl,rfl,rfl⟩ rfl,fun p hp=>by
  have hp:p∈R.out++[⟨to,⟨kd,R.id::R.ep::n,b,l⟩⟩]:=hp
  rcases dM.1 hp with hp | hp
  ·exact h.out p hp
  ·rw[dQ]at hp;subst hp;exact hm,h.dn⟩
theorem RI.qj (h:RI vs G k R):((R.nu.toNat:Nat):Int)=R.nu:=Int.toNat_of_nonneg h.n0
theorem RI.nS (h:RI vs G k R):G.rc k R.ep=R.nu.toNat:=by have:=h.rc;have:=h.qj;omega
theorem TX (h:RI vs G k R) (ha:R.ep≠0) (hk:gR vs R.ep=k) (ZQ:eX R.t) (hcl:R.c.length=128):ja vs G k ⟨10,[R.id,R.ep,R.nu],b_ R.c,[bh R.t]⟩:=by
 have e1:R.c=(dc ((G.lg R.ep).take R.nu.toNat)).1:=congrArg Prod.fst h.st
 have e2:R.t=(dc ((G.lg R.ep).take R.nu.toNat)).2:=congrArg Prod.snd h.st
 have h1:=(h.ac ha).2
 have h2:=h.nl
 have h3:=h.n0
 have:=ja.sync (vs:=vs) (G:=G) (fr:=k) R.ep R.nu.toNat (h.ac ha).1 hk.symm (by omega) (by omega) (by rw[<- e2];exact ZQ) (by rw[<- e1];exact hcl)
 rw[<- e1,<- e2,h.qj]at this
 rw[h.id];exact this
theorem Ar (h:RI vs G k R) {kd:Int} (hk:kd=11∨kd=13∨kd=14):ja vs G k ⟨kd,[R.id,R.ep,R.nu],[],[]⟩:=by
 have:=ja.ok (vs:=vs) (G:=G) (fr:=k) kd R.ep R.nu.toNat hk (by rw[h.nS];exact av _)
 rw[h.qj]at this
 rw[h.id];exact this
theorem QG (h:fj vs G k R) (to:Int):fj vs G k (pC R to):=h.send (Ar h.ri (by omega))
theorem OQ (h:RI vs G k R) {L:de} {o:Op} (hl:jU vs G k R L) (hc:L.cur=some o) (hV:VI vs G) (s:Int):ja vs G k ⟨12,[R.id,R.ep,R.nu,o.cl,o.nm,o.kd,o.bk,s],o.b,[]⟩:=by
 obtain⟨c1,c2⟩:=hl.cur o hc
 have:=hl.act hV
 have:=ja.op (vs:=vs) (G:=G) (fr:=k) R.ep R.nu.toNat o s (h.ac (by omega)).1 hl.hd.symm (by omega) c2
 rw[h.qj]at this
 rw[h.id];exact this
theorem Ii {x:Int}:x∈aZ R ↔ x∈R.v.mem++R.v.aM/\x≠R.me:=by
 unfold aZ bz iS
 rw[kM]
 simp
theorem P7 (hV:VI vs G) (h:RI vs G k R) {L:de} (hl:jU vs G k R L) (h1:1<=R.nu) (ha:∀ x∈aZ R,R.nu<=(G.rc x R.ep:Int)):Cm vs G R.ep R.nu.toNat:=by
 have e1:=hl.act hV
 have hnl:=h.nl
 refine⟨(h.ac (by omega)).1,by omega,by omega,fun x hx=>?_⟩
 have hv:=(Dl hV hl.v).1
 rw[hl.ep,hv]at hx
 by_cases e:x=k
 ·subst e;rw[h.nS];exact av _
 ·have:=ha x (Ii.2 ⟨hx,by rw[h.me];exact e⟩)
  omega
theorem Yi {l:List Op} {n:Nat} {o:Op} (h1:1<=n) (h:l[n - 1]? =some o):o∈l.take n:=by
 refine fi (i:=n - 1) ?_
 rw[hU (by omega)];exact h
theorem Gs (hV:VI vs G) (h:fj vs G k R):fj vs G k (fV R):=by
 unfold fV
 split
 ·rename_i L hL
  split
  ·rename_i o ho
   split
   ·rename_i hall
    have hl:=h.ri.l L hL
    obtain⟨c1,c2⟩:=hl.cur o ho
    have ON:∀ x∈aZ R,R.nu<=(G.rc x R.ep:Int):=fun x hx=>hl.cN x (List.all_eq_true.1 hall x hx)
    have hn:=h.ri.qj
    have pj:=P7 hV h.ri hl (by omega) ON
    refine⟨h.ri.cg ⟨rfl,rfl,rfl,rfl,rfl,rfl,rfl,rfl,rfl⟩ fun L' hL'=>?_,h.out,fun d hd=>?_⟩
    ·have e:L'={L with cur:=none }:=(bb.inj hL').symm
     subst e
     exact⟨hl.v,hl.ep,hl.hd,fun x hx _=>by have:=ON x hx;show R.nu<=(G.rc x R.ep:Int)+0;omega,hl.cN,fun o ho=>sP ho⟩
    ·have hd:d∈R.done++[⟨o,0,mD R.c o⟩]:=hd
     rcases dM.1 hd with hd | hd
     ·exact h.dn d hd
     ·rw[dQ]at hd;subst hd
      refine⟨fun _=>⟨R.ep,R.nu.toNat,pj,Yi pj.n1 c2,fun _=>⟨c2,?_⟩⟩⟩
      show mD R.c o=_
      rw[<- congrArg Prod.fst h.ri.st]
   ·exact h
  ·exact h
 ·exact h
theorem If {f:Int->Bool} {k x:Int} (h:mark f k true x=true):x=k∨f x=true:=by
 unfold mark at h;split at h
 ·exact .inl ‹_›
 ·exact .inr h
theorem aaO {f:Int->Bool} {k x:Int} (h:mark f k false x=true):f x=true:=by
 unfold mark at h;split at h
 ·cases h
 ·exact h
theorem CQ (h:fj vs G k R) {L':de} (hl:jU vs G k R L'):fj vs G k {R with ld:=some L' }:=
 ⟨h.ri.cg ⟨rfl,rfl,rfl,rfl,rfl,rfl,rfl,rfl,rfl⟩ fun L'' e=>(bb.inj e) ▸ hl.cg ⟨rfl,rfl,rfl,rfl,rfl,rfl,rfl,rfl,rfl⟩,h.out,h.dn⟩
theorem X7 {w:Vw} (h:eN R w=true):gG w=R.me:=by
 unfold eN at h
 split at h
 ·rename_i a r hm
  unfold gG;rw[hm]
  simpa using h
 ·cases h
theorem ahQ (hG:GI vs G) (hV:VI vs G) (h:fj vs G k R) (hi:bA R) {w:Vw} (hw:w∈vs):ou vs G k (gN R w):=by
 obtain⟨w1,w2,w3⟩:=Dl hV hw
 cases hg:eC R w with
 |false=>rw[Di hg];exact h.jr hG
 |true=>
  have hge:R.ep<=w.ve:=by
   unfold eC at hg
   rw[km,decide_eq_true_eq]at hg
   exact hg.1.2.2.1
  cases hl:fH R w with
  |false=>
   rw[Dg hg hl]
   have hy:=Dz h
   exact fj.jr hG ⟨⟨hy.ri.me,hy.ri.id,hy.ri.bl,hy.ri.lo,hy.ri.e0,hy.ri.n0,hy.ri.ac,hy.ri.nl,hy.ri.st,hy.ri.rc,hy.ri.rz,hy.ri.al,.inr hw,fun L hL=>sP hL⟩,hy.out,hy.dn⟩
  |true=>
   have hf:eN R w=true:=by
    unfold fH at hl
    rw[km,km]at hl
    exact hl.1.1
   have hk:gR vs w.ve=k:=by
    unfold gR;rw[w1,X7 hf];exact h.ri.me
   rw[Dh hg hl]
   have hy:=Dz h
   have hiL:bA (kw R w)∨True:=.inr trivial
   have fin:∀ G',VI vs G'->Ex vs k G G'->RI vs G' k (kw R w)->fj vs G' k {kw R w with out:=R.out++(bz R.me w.mem w.aM).map (kZ (kw R w)) }:=fun G' GY hx hr=>by
    refine⟨hr.out ⟨rfl,rfl,rfl,rfl,rfl,rfl,rfl,rfl,rfl⟩ rfl,fun p hp=>?_,fun d hd=>?_⟩
    ·have hp:p∈R.out++(bz R.me w.mem w.aM).map (kZ (kw R w)):=hp
     rcases dM.1 hp with hp | hp
     ·exact(h.out p hp).mono hx
     ·obtain⟨x,_,rfl⟩:=eL.1 hp
      have e1:(kw R w).c=(dc ((G'.lg w.ve).take R.nu.toNat)).1:=congrArg Prod.fst hr.st
      have e2:(kw R w).t=(dc ((G'.lg w.ve).take R.nu.toNat)).2:=congrArg Prod.snd hr.st
      have a1:=hr.ac (show w.ve≠0 by omega)
      have a2:=hr.nl
      have a3:=hr.n0
      have a4:((R.nu.toNat:Nat):Int)=R.nu:=h.ri.qj
      have a5:(G'.ba w.ve:Int)<=R.nu:=a1.2
      have a6:R.nu<=((G'.lg w.ve).length:Int):=a2
      have:=ja.sync (vs:=vs) (G:=G') (fr:=k) w.ve R.nu.toNat a1.1 hk.symm (by omega) (by omega) (by rw[<- e2];exact hi.tx) (by rw[<- e1];exact hi.ok.cl)
      rw[<- e1,<- e2,a4,<- h.ri.id]at this
      exact this
    ·obtain⟨q⟩:=hy.dn d hd
     exact⟨fun e=>by obtain⟨e',n,c1,c2,c3⟩:=q e;exact⟨e',n,c1.mono hx,by rw[qk (hx.lg e') c1.nl];exact c2,fun t=>⟨v7 (hx.lg e') (c3 t).1,by rw[qk (hx.lg e') c1.nl];exact(c3 t).2⟩⟩⟩
   have lead:∀ G':Gh,jU vs G' k (kw R w) ⟨fun _=>false,fun _=>false,none⟩:=fun G'=>⟨hw,rfl,hk,fun x _ hx=>(by cases hx),fun x hx=>(by cases hx),fun o ho=>sP ho⟩
   rcases(by omega:R.ep=w.ve∨R.ep<w.ve)with he | he
   ·refine⟨G,hG,Ex.refl _ _ _,fin G hV (Ex.refl _ _ _) ?_,fun e=>⟨e,List.prefix_rfl⟩⟩
    have hr:=h.ri
    exact⟨hr.me,hr.id,hr.bl,hr.lo,by show 0<=w.ve;omega,hr.n0,fun _=>by show G.act w.ve/\(G.ba w.ve:Int)<=R.nu;rw[<- he];exact hr.ac (by omega),by show R.nu<=((G.lg w.ve).length:Int);rw[<- he];exact hr.nl,by show(R.c,R.t)=dc ((G.lg w.ve).take R.nu.toNat);rw[<- he];exact hr.st,by show(G.rc k w.ve:Int)=R.nu;rw[<- he];exact hr.rc,fun e q=>hr.rz e (by have:w.ve<e:=q;omega),fun e a q=>by show e<=w.ve;rw[<- he];exact hr.al e a q,.inr hw,fun L hL=>(bb.inj hL) ▸ lead G⟩
   ·obtain⟨b1,b2⟩:=Ww hG h.ri hk he w3
    have hr:=h.ri
    have sL:(G.kQ k w.ve R.ep R.nu.toNat).lg w.ve=(G.lg R.ep).take R.nu.toNat:=if_pos rfl
    have u_:(G.kQ k w.ve R.ep R.nu.toNat).ba w.ve=R.nu.toNat:=if_pos rfl
    have Cr:(G.kQ k w.ve R.ep R.nu.toNat).rc k w.ve=R.nu.toNat:=if_pos ⟨rfl,rfl⟩
    have hn:=hr.qj
    have hnl:=hr.nl
    refine⟨_,b1,b2,fin _ (hV.mono b2) b2 ?_,fun e=>?_⟩
    ·refine⟨hr.me,hr.id,hr.bl,hr.lo,by show 0<=w.ve;omega,hr.n0,fun _=>⟨.inl rfl,?_⟩,?_,?_,?_,fun e q=>?_,fun e a q=>?_,.inr hw,fun L hL=>(bb.inj hL) ▸ lead _⟩
     ·show(((G.kQ k w.ve R.ep R.nu.toNat).ba w.ve:Nat):Int)<=R.nu
      rw[u_];omega
     ·show R.nu<=(((G.kQ k w.ve R.ep R.nu.toNat).lg w.ve).length:Int)
      rw[sL,cQ];omega
     ·show(R.c,R.t)=dc (((G.kQ k w.ve R.ep R.nu.toNat).lg w.ve).take R.nu.toNat)
      rw[sL,List.take_take,Nat.min_self];exact hr.st
     ·show(((G.kQ k w.ve R.ep R.nu.toNat).rc k w.ve:Nat):Int)=R.nu
      rw[Cr];exact hn
     ·have q:w.ve<e:=q
      show(if e=w.ve/\k=k then R.nu.toNat else G.rc k e)=0
      rw[if_neg (by omega)];exact hr.rz e (by omega)
     ·show e<=w.ve
      rcases a with rfl | a
      ·exact fa _
      ·have:=hr.al e a q;omega
    ·by_cases c:e=w.ve
     ·exact⟨R.ep,by rw[c,sL];exact List.take_prefix _ _⟩
     ·exact⟨e,by show(if e=w.ve then _ else G.lg e)<+: _;rw[if_neg c];exact List.prefix_rfl⟩
end
theorem uS.mono {vs:List Vw} {k:Int} {G G':Gh} {d:Dn} (h:uS vs G d) (hx:Ex vs k G G'):uS vs G' d:=
 ⟨fun e=>by obtain⟨e',n,c1,c2,c3⟩:=h.h e;exact⟨e',n,c1.mono hx,by rw[qk (hx.lg e') c1.nl];exact c2,fun t=>⟨v7 (hx.lg e') (c3 t).1,by rw[qk (hx.lg e') c1.nl];exact(c3 t).2⟩⟩⟩
section
variable {vs:List Vw} {G:Gh} {k:Int} {R:κ}
theorem aaw (h:fp R=false):R.ld=none:=by
 unfold fp at h
 cases hl:R.ld with
 |none=>rfl
 |some L=>rw[hl]at h;cases h
theorem afn (hG:GI vs G) (hV:VI vs G) (h:fj vs G k R) {fr e:Int} {n:Nat} (hfr:fr≠k) (a:G.act e) (f:fr=gR vs e) (b:G.ba e<=n) (l:n<=(G.lg e).length) (x:eX (dc ((G.lg e).take n)).2) (c:(dc ((G.lg e).take n)).1.length=128):
  ou vs G k (jh R fr ⟨10,[5,e,(n:Int)],b_ (dc ((G.lg e).take n)).1,[bh (dc ((G.lg e).take n)).2]⟩):=by
 unfold jh
 have m1:bU ⟨10,[5,e,(n:Int)],b_ (dc ((G.lg e).take n)).1,[bh (dc ((G.lg e).take n)).2]⟩ 1=e:=rfl
 have m2:bU ⟨10,[5,e,(n:Int)],b_ (dc ((G.lg e).take n)).1,[bh (dc ((G.lg e).take n)).2]⟩ 2=(n:Int):=rfl
 rw[m1,m2]
 split
 ·exact(QG h fr).jr hG
 ·rename_i hn
  have lc:j9 (b_ (dc ((G.lg e).take n)).1)=some (dc ((G.lg e).take n)).1:=by unfold j9;rw[yy];dsimp only;rw[if_pos c]
  have lt:loadT ([bh (dc ((G.lg e).take n)).2].getD 0 [])=some (dc ((G.lg e).take n)).2:=H5 x rfl
  dsimp only
  rw[lc,lt]
  dsimp only
  have hr:=h.ri
  have q1:R.ep<=e:=by omega
  have q2:e=R.ep->R.nu<=(n:Int):=fun t=>by
   rcases Int.lt_or_le (n:Int) R.nu with q | q
   ·exact absurd (.inr (.inl ⟨t,.inl q⟩)) hn
   ·exact q
  have q3:G.rc k e<=n:=by
   rcases(by omega:e=R.ep∨R.ep<e)with q | q
   ·have:=q2 q;have:=hr.rc;rw[q];omega
   ·rw[hr.rz e q];exact bt _
  have q4:=(hG.a0 e a).1
  obtain⟨g1,g2⟩:=Mt hG hr a (by rw[<- f];exact hfr) q1 q3 l
  have hy:=Dz h
  have hR:RI vs (G.pU k e n) k {gn R with ep:=e,nu:=(n:Int),c:=(dc ((G.lg e).take n)).1,t:=(dc ((G.lg e).take n)).2,ch:=true }:=
   ⟨hr.me,hr.id,hr.bl,hr.lo,by show 0<=e;omega,Int.natCast_nonneg n,fun _=>⟨a,Int.ofNat_le.2 b⟩,Int.ofNat_le.2 l,by show(_,_)=dc (((G.pU k e n).lg e).take (n:Int).toNat);rw[cP];rfl,congrArg Int.ofNat (Au G k e n),fun e' q=>by
    have q:e<e':=q
    rw[qH G n (fun t=>by have:=t.1;omega)];exact hr.rz e' (by omega),fun e' a' q=>Int.le_trans (hr.al e' a' q) q1,hr.v,fun L hL=>sP hL⟩
  have hO:fj vs (G.pU k e n) k {gn R with ep:=e,nu:=(n:Int),c:=(dc ((G.lg e).take n)).1,t:=(dc ((G.lg e).take n)).2,ch:=true }:=
   ⟨hR,fun p hp=>(hy.out p hp).mono g2,fun d hd=>(hy.dn d hd).mono g2⟩
  exact⟨_,g1,g2,hO.send (Ar hR (by omega)),fun e'=>⟨e',List.prefix_rfl⟩⟩
theorem jU.marks {L:de} (hl:jU vs G k R L) {fr:Int} (h:R.nu<=(G.rc fr R.ep:Int)) {cN:Int->Bool} (ha:∀ x,cN x=true->x=fr∨L.cN x=true):jU vs G k R ⟨mark L.ins fr true,cN,L.cur⟩:=
 ⟨hl.v,hl.ep,hl.hd,fun x hx ht=>by
  rcases If ht with rfl | ht
  ·exact Int.le_trans h (Int.le_add_of_nonneg_right (by split<;>omega))
  ·exact hl.ins x hx ht,fun x hx=>by
  rcases ha x hx with rfl | hx
  ·exact h
  ·exact hl.cN x hx,hl.cur⟩
theorem afi (hG:GI vs G) (hV:VI vs G) (h:fj vs G k R) {fr e:Int} {n:Nat} (hn:n<=G.rc fr e):ou vs G k (iH R fr ⟨11,[5,e,(n:Int)],[],[]⟩):=by
 unfold iH
 split
 ·exact h.jr hG
 ·rename_i L hL
  have hl:=h.ri.l L hL
  have m1:bU ⟨11,[5,e,(n:Int)],[],[]⟩ 1=e:=rfl
  have m2:bU ⟨11,[5,e,(n:Int)],[],[]⟩ 2=(n:Int):=rfl
  rw[m1,m2]
  split
  ·exact h.jr hG
  ·rename_i hne
   have e1:e=R.ep:=Classical.byContradiction fun t=>hne (.inl t)
   have e2:(n:Int)=R.nu:=Classical.byContradiction fun t=>hne (.inr t)
   have hfr:R.nu<=(G.rc fr R.ep:Int):=by rw[<- e1,<- e2];exact Int.ofNat_le.2 hn
   split
   ·rename_i hc
    have:=hl.marks hfr (cN:=L.cN) (fun x hx=> .inr hx)
    rw[hc]at this
    exact(CQ h this).jr hG
   ·rename_i o hc
    have:=hl.marks hfr (cN:=mark L.cN fr true) (fun x hx=>If hx)
    rw[hc]at this
    exact(Gs hV (CQ h this)).jr hG
theorem ac4 (hG:GI vs G) (hV:VI vs G) (h:fj vs G k R) {fr e:Int} {n:Nat} (hn:n<=G.rc fr e):ou vs G k (iC R fr ⟨13,[5,e,(n:Int)],[],[]⟩):=by
 unfold iC
 split
 ·exact h.jr hG
 ·rename_i L hL
  have hl:=h.ri.l L hL
  split
  ·exact h.jr hG
  ·rename_i o hc
   have m1:bU ⟨13,[5,e,(n:Int)],[],[]⟩ 1=e:=rfl
   have m2:bU ⟨13,[5,e,(n:Int)],[],[]⟩ 2=(n:Int):=rfl
   rw[m1,m2]
   split
   ·rename_i he
    have hfr:R.nu<=(G.rc fr R.ep:Int):=by rw[<- he.1,<- he.2];exact Int.ofNat_le.2 hn
    have hl2:jU vs G k R ⟨L.ins,mark L.cN fr true,some o⟩:=⟨hl.v,hl.ep,hl.hd,by rw[<- hc];exact hl.ins,fun x hx=>by
     rcases If hx with rfl | hx
     ·exact hfr
     ·exact hl.cN x hx,by rw[<- hc];exact hl.cur⟩
    exact(Gs hV (CQ h hl2)).jr hG
   ·exact h.jr hG
theorem HW (hG:GI vs G) (hV:VI vs G) (h:RI vs G k R) {L:de} (hl:jU vs G k R L):R.nu=((G.lg R.ep).length:Int):=by
 have:=hl.act hV
 have:=hG.ld R.ep (h.ac (by omega)).1
 rw[hl.hd]at this
 rw[<- this];exact h.rc.symm
theorem ad5 (hG:GI vs G) (hV:VI vs G) (h:fj vs G k R) (hi:bA R) {fr e:Int} {n:Nat} (hn:n<=G.rc fr e):ou vs G k (iF R fr ⟨14,[5,e,(n:Int)],[],[]⟩):=by
 unfold iF
 split
 ·exact h.jr hG
 ·rename_i L hL
  have hl:=h.ri.l L hL
  have m1:bU ⟨14,[5,e,(n:Int)],[],[]⟩ 1=e:=rfl
  have m2:bU ⟨14,[5,e,(n:Int)],[],[]⟩ 2=(n:Int):=rfl
  rw[m1,m2]
  split
  ·exact(Dz h).jr hG
  ·split
   ·rename_i hc
    have h1:=HW hG hV h.ri hl
    have h2:=hG.rl fr e
    rw[hc.1]at h2 hn
    omega
   ·have hl2:jU vs G k R {L with ins:=mark L.ins fr false }:=⟨hl.v,hl.ep,hl.hd,fun x hx ht=>hl.ins x hx (aaO ht),hl.cN,hl.cur⟩
    have h2:=CQ h hl2
    have:=hl.act hV
    exact(h2.send (TX h2.ri (by show R.ep≠0;omega) hl.hd hi.tx hi.ok.cl)).jr hG
theorem adb (hG:GI vs G) (hV:VI vs G) (h:fj vs G k R) {fr e s:Int} {n:Nat} {o:Op} (hfr:fr≠k) (a:G.act e) (f:fr=gR vs e) (b:G.ba e<n) (g:(G.lg e)[n - 1]? =some o):ou vs G k (jf R fr ⟨12,[5,e,(n:Int),o.cl,o.nm,o.kd,o.bk,s],o.b,[]⟩):=by
 unfold jf
 have m1:bU ⟨12,[5,e,(n:Int),o.cl,o.nm,o.kd,o.bk,s],o.b,[]⟩ 1=e:=rfl
 have m2:bU ⟨12,[5,e,(n:Int),o.cl,o.nm,o.kd,o.bk,s],o.b,[]⟩ 2=(n:Int):=rfl
 have mo:yw ⟨12,[5,e,(n:Int),o.cl,o.nm,o.kd,o.bk,s],o.b,[]⟩=o:=rfl
 rw[m1,m2,mo]
 have hr:=h.ri
 split
 ·exact(h.send (Ar hr (by omega))).jr hG
 ·split
  ·rename_i hc
   obtain⟨c1,c2,c3,c4,c5⟩:=hc
   subst c1
   have hl:=aaw c3
   have hlt:=GO g
   have hn:=hr.qj
   have ku:n=R.nu.toNat+1:=by omega
   subst ku
   rw[Nat.add_sub_cancel]at g hlt
   have hrc:=hr.nS
   obtain⟨g1,g2⟩:=Mt hG hr (E:=R.ep) (n:=R.nu.toNat+1) a (by rw[<- f];exact hfr) (fa _) (by omega) (by omega)
   have hst:dc ((G.lg R.ep).take (R.nu.toNat+1))=xE (dc ((G.lg R.ep).take R.nu.toNat)) o:=by
    rw[i_,g];exact CZ _ o
   have hR:RI vs (G.pU k R.ep (R.nu.toNat+1)) k (iB R o):=
    ⟨hr.me,hr.id,hr.bl,hr.lo,hr.e0,by show 0<=R.nu+1;omega,fun q=>⟨a,by have:=(hr.ac q).2;show(G.ba R.ep:Int)<=R.nu+1;omega⟩,by show R.nu+1<=((G.lg R.ep).length:Int);omega,by
     show(fc R.c o.kd o.bk o.b,j6 R.t o)=dc ((G.lg R.ep).take (R.nu+1).toNat)
     rw[show(R.nu+1).toNat=R.nu.toNat+1 by omega,hst,<- hr.st];rfl,by
     show(((G.pU k R.ep (R.nu.toNat+1)).rc k R.ep:Nat):Int)=R.nu+1
     rw[Au];omega,fun e' q=>by
     have q:R.ep<e':=q
     rw[qH G _ (fun t=>by have:=t.1;omega)];exact hr.rz e' q,hr.al,hr.v,fun L hL=>sP (hl.symm.trans hL)⟩
   have hO:fj vs (G.pU k R.ep (R.nu.toNat+1)) k (iB R o):=⟨hR,fun p hp=>(h.out p hp).mono g2,fun d hd=>(h.dn d hd).mono g2⟩
   exact⟨_,g1,g2,hO.send (Ar hR (by omega)),fun e'=>⟨e',List.prefix_rfl⟩⟩
  ·exact(QG h fr).jr hG
theorem YN (hG:GI vs G) (hV:VI vs G) (h:fj vs G k R) (hi:bA R) {fr:Int} {m:dY} (hm:ja vs G fr m):ou vs G k (gF R fr m):=by
 cases fl:cI R fr m with
 |false=>unfold gF;rw[if_pos fl];exact h.jr hG
 |true=>
  have hfr:fr≠k:=by
   unfold cI at fl
   rw[km,decide_eq_true_eq,h.ri.me]at fl
   exact fl.1.2.2.2.2
  unfold gF
  rw[if_neg (by rw[fl];decide)]
  cases hm with
  |sync e n a f b l x c=>rw[if_pos rfl];exact afn hG hV h hfr a f b l x c
  |ok kd e n hk hn=>
   rcases hk with rfl | rfl | rfl
   ·exact afi hG hV h hn
   ·exact ac4 hG hV h hn
   ·exact ad5 hG hV h hi hn
  |op e n o s a f b g=>exact adb hG hV h hfr a f b g
theorem afI (hG:GI vs G) (hV:VI vs G) (h:fj vs G k R) (hi:bA R):ou vs G k (gm R):=by
 unfold gm
 split
 ·rename_i hl
  exact fj.jr hG ⟨h.ri.out ⟨rfl,rfl,rfl,rfl,rfl,rfl,rfl,rfl,rfl⟩ rfl,h.out,h.dn⟩
 ·rename_i L hL
  split
  ·have hl:=h.ri.l L hL
   have:=hl.act hV
   refine fj.jr hG ⟨h.ri.out ⟨rfl,rfl,rfl,rfl,rfl,rfl,rfl,rfl,rfl⟩ rfl,fun p hp=>?_,h.dn⟩
   have hp:p∈R.out++(aZ R).flatMap (kh R L):=hp
   rcases dM.1 hp with hp | hp
   ·exact h.out p hp
   ·obtain⟨x,_,hx⟩:=List.mem_flatMap.1 hp
    unfold kh at hx
    split at hx
    ·rw[dQ]at hx;subst hx
     exact TX h.ri (by omega) hl.hd hi.tx hi.ok.cl
    ·split at hx
     ·rename_i o ho
      split at hx
      ·rw[dQ]at hx;subst hx
       exact OQ h.ri hl ho hV _
      ·cases hx
     ·cases hx
  ·exact fj.jr hG ⟨h.ri.out ⟨rfl,rfl,rfl,rfl,rfl,rfl,rfl,rfl,rfl⟩ rfl,h.out,h.dn⟩
structure zC (l:List Op) (o:Op):Prop where
 rt:gB o=true
 k1:iO o=true->fT (dc l).2 o.cl o.nm≠1
 k2:iO o=true->fT (dc l).2 o.cl o.nm≠2
 p:iO o=true->cX (dc l).2 o.cl o.nm 0=0
structure wV (vs:List Vw) (G:Gh) (k:Int) (R':κ) (o:Op):Prop where
 h:∃ G',GI vs G'/\Ex vs k G G'/\fj vs G' k R'/\∀ e,(∃ e',G'.lg e<+:G.lg e')∨∃ E,G'.lg e=G.lg E++[o]/\zC (G.lg E) o
theorem ou.s {R':κ} (h:ou vs G k R') (o:Op):wV vs G k R' o:=by
 obtain⟨G',h1,h2,h3,h4⟩:=h
 exact⟨G',h1,h2,h3,fun e=> .inl (h4 e)⟩
theorem WA (hG:GI vs G) (hV:VI vs G) (h:fj vs G k R) (hi:bA R) {o:Op} {L:de} (hL:R.ld=some L) (hc:L.cur=none) (hr:gW R=true) (hn:zC (G.lg R.ep) o):wV vs G k (lV R L o) o:=by
 have hl:=h.ri.l L hL
 have e1:=hl.act hV
 have mu:=HW hG hV h.ri hl
 have hn1:=h.ri.qj
 have a:=h.ri.ac (by omega)
 have jd:=h.ri
 have hrd:∀ x∈aZ R,R.nu<=(G.rc x R.ep:Int):=fun x hx=>by
  unfold gW at hr
  rw[hL]at hr
  have:=hl.ins x hx (List.all_eq_true.1 hr x hx)
  rw[hc]at this
  simpa using this
 obtain⟨g1,g2⟩:=V9 hG jd o a.1 hl.hd
 have hst:dc (G.lg R.ep)=(R.c,R.t):=by
  have:=jd.st
  rw[show R.nu.toNat=(G.lg R.ep).length by omega,cM]at this
  exact this.symm
 have GY:=hV.mono g2
 have hR:RI vs (G.add k R.ep o) k {iB R o with ld:=some {L with cN:=fun _=>false,cur:=some o } }:=by
  refine⟨jd.me,jd.id,jd.bl,jd.lo,jd.e0,by show 0<=R.nu+1;omega,fun _=>⟨a.1,by have:=a.2;show(G.ba R.ep:Int)<=R.nu+1;omega⟩,?_,?_,?_,fun e' q=>?_,jd.al,jd.v,fun L' hL'=>?_⟩
  ·show R.nu+1<=((((G.add k R.ep o).lg R.ep).length:Nat):Int)
   rw[tA,bn,ii];omega
  ·show(fc R.c o.kd o.bk o.b,j6 R.t o)=dc (((G.add k R.ep o).lg R.ep).take (R.nu+1).toNat)
   rw[tA,eM (by rw[bn,ii];omega),CZ,hst];rfl
  ·show((((G.add k R.ep o).rc k R.ep:Nat)):Int)=R.nu+1
   rw[As];omega
  ·have q:R.ep<e':=q
   rw[r8 G o (fun t=>by have:=t.1;omega)];exact jd.rz e' q
  ·have e:L'={L with cN:=fun _=>false,cur:=some o }:=(bb.inj hL').symm
   subst e
   refine⟨hl.v,hl.ep,hl.hd,fun x hx _=>?_,fun x hx=>(by cases hx),fun o' ho'=>?_⟩
   ·have h1:=hrd x hx
    have h2:=g2.rc x R.ep
    show R.nu+1<=(((G.add k R.ep o).rc x R.ep:Nat):Int)+1
    omega
   ·cases ho'
    refine⟨by have:=a.2;show(G.ba R.ep:Int)<R.nu+1;omega,?_⟩
    show((G.add k R.ep o).lg R.ep)[(R.nu+1).toNat - 1]? =some o
    rw[tA,show(R.nu+1).toNat - 1=(G.lg R.ep).length by omega]
    simp
 have hO:fj vs (G.add k R.ep o) k {iB R o with ld:=some {L with cN:=fun _=>false,cur:=some o } }:=⟨hR,fun p hp=>(h.out p hp).mono g2,fun d hd=>(h.dn d hd).mono g2⟩
 refine⟨_,g1,g2,?_,fun e=>?_⟩
 ·unfold lV
  dsimp only
  rw[tQ]
  refine Gs GY ⟨hR.out ⟨rfl,rfl,rfl,rfl,rfl,rfl,rfl,rfl,rfl⟩ rfl,fun p hp=>?_,hO.dn⟩
  rcases dM.1 hp with hp | hp
  ·exact hO.out p hp
  ·obtain⟨x,_,rfl⟩:=eL.1 hp
   exact OQ hR (hR.l _ rfl) rfl GY _
 ·by_cases c:e=R.ep
  ·subst c;exact .inr ⟨R.ep,tA G k R.ep o,hn⟩
  ·exact .inl ⟨e,by rw[xj G o c];exact List.prefix_rfl⟩
theorem ae4 (hG:GI vs G) (hV:VI vs G) (h:fj vs G k R) (hi:bA R) (o:Op) (hkn:iO o=true->fT R.t o.cl o.nm=1->o∈(G.lg R.ep).take R.nu.toNat):wV vs G k (eS R o).2 o:=by
 have same:wV vs G k R o:=(h.jr hG).s o
 unfold eS
 split
 ·exact same
 ·rename_i mZ
  split
  ·exact same
  ·rename_i L hL
   split
   ·exact same
   ·rename_i hr
    split
    ·exact same
    ·rename_i hb
     have hr:gW R=true:=by simpa using hr
     have hc:L.cur=none:=by
      unfold lX cw at hb
      rw[hL]at hb
      cases lZ:L.cur with
      |none=>rfl
      |some o=>exfalso;apply hb;show(Option.bind (some L) fun x=>x.cur).isSome=true;rw[Option.bind_some,lZ];rfl
     have hl:=h.ri.l L hL
     have mu:=HW hG hV h.ri hl
     have hn1:=h.ri.qj
     have hst:dc (G.lg R.ep)=(R.c,R.t):=by
      have:=h.ri.st
      rw[show R.nu.toNat=(G.lg R.ep).length by omega,cM]at this
      exact this.symm
     split
     ·rename_i e R1 hk
      split at hk
      ·rename_i hch
       unfold l4 at hk
       split at hk
       ·rename_i h1
        cases hk
        refine(fj.jr (R:={R with done:=R.done++[⟨o,sk (gl R) o.cl o.nm,[]⟩] }) hG ⟨h.ri.out ⟨rfl,rfl,rfl,rfl,rfl,rfl,rfl,rfl,rfl⟩ rfl,h.out,fun d hd=>?_⟩).s o
        rcases dM.1 hd with hd | hd
        ·exact h.dn d hd
        ·rw[dQ]at hd;subst hd
         have hm:=hkn hch h1
         have hlen:0<((G.lg R.ep).take R.nu.toNat).length:=List.length_pos_of_mem hm
         rw[cQ]at hlen
         have pj:=P7 hV h.ri hl (by omega) (fun x hx=>by
          unfold gW at hr
          rw[hL]at hr
          have:=hl.ins x hx (List.all_eq_true.1 hr x hx)
          rw[hc]at this
          simpa using this)
         refine⟨fun _=>⟨R.ep,R.nu.toNat,pj,hm,fun t=>?_⟩⟩
         have t:o.kd=3:=t
         unfold iO at hch
         rw[t]at hch
         exact absurd hch (by decide)
       ·split at hk
        ·cases hk;exact same
        ·split at hk
         ·cases hk
         ·cases hk;exact same
      ·cases hk
     ·rename_i hk
      refine WA hG hV h hi hL hc hr ⟨by simpa using mZ,fun hch=>?_,fun hch=>?_,fun hch=>?_⟩
      all_goals
       rw[if_pos hch]at hk
       unfold l4 gl at hk
       rw[hst]
       show _
      ·intro h1
       rw[if_pos h1]at hk;cases hk
      ·intro h2
       have h1:¬ fT R.t o.cl o.nm=1:=fun t=>by have h2:fT R.t o.cl o.nm=2:=h2;omega
       rw[if_neg h1,if_pos h2]at hk;cases hk
      ·split at hk
       ·cases hk
       ·split at hk
        ·cases hk
        ·split at hk
         ·assumption
         ·cases hk
end
structure lu (l:List Op):Prop where
 nw:∀(i:Nat) (o:Op),l[i]? =some o->zC (l.take i) o/\(o.kd=3->o ∉ l.take i)
theorem lu.pre {l l':List Op} (h:lu l) (hp:l'<+:l):lu l':=⟨fun i o hi=>by
 have h1:=h.nw i o (v7 hp hi)
 rw[qk hp (Nat.le_of_lt (GO hi))]at h1
 exact h1⟩
theorem lu.nil:lu []:=⟨fun i o hi=>by simp at hi⟩
theorem lu.snoc {l:List Op} (h:lu l) {o:Op} (hn:zC l o) (h3:o.kd=3->o ∉ l):lu (l++[o]):=⟨fun i o' hi=>by
 have hlt:=GO hi
 rw[bn,ii]at hlt
 rcases(by omega:i<l.length∨i=l.length)with q | q
 ·rw[dP q]at hi
  rw[List.take_append_of_le_length (by omega)]
  exact h.nw i o' hi
 ·subst q
  simp at hi
  subst hi
  rw[List.take_append_of_le_length (av _),cM]
  exact⟨hn,h3⟩⟩
theorem IL {x:List L3} (h:x.Pairwise (fun a b=>a.1<b.1)) {c:Int} {q:Int×Int}:j_ x c=some q ↔ (c,q)∈x:=by
 have key:∀ p:L3,p∈x->j_ x p.1=some p.2:=fun p hp=>by
  obtain⟨i,hi⟩:=jx hp
  have hlt:=(bG.1 hi).1
  have:=QU h hlt
  rw[sy hlt]at hi
  cases hi
  exact this
 constructor
 ·intro hs
  by_cases e:∃ p∈x,p.1=c
  ·obtain⟨p,hp,rfl⟩:=e
   have:=(key p hp).symm.trans hs
   cases this
   exact hp
  ·rw[QV (fun p hp t=>e ⟨p,hp,t⟩)]at hs;cases hs
 ·exact fun hm=>key _ hm
theorem Tu:∀(l:List Op) (s:List Int×List L3),eX s.2->eX (l.foldl xE s).2
 | [],s,h=>h
 |o::l,s,h=>Tu l (xE s o) (NT h o)
theorem acO:eX []:=⟨List.Pairwise.nil,fun p hp=>(by cases hp),bt _⟩
theorem Kb (l:List Op):eX (dc l).2:=Tu l _ acO
theorem Co {x:List L3} {c n e:Int} {p:L3}:p∈oQ x c n e ↔ (p∈x/\p.1≠c)∨p=(c,n,e):=by
 rw[(Si (x:=x) (c:=c) (n:=n) (e:=e)).mem_iff,ey,kM,decide_eq_true_eq]
 exact or_comm
structure LX (l:List Op) (t:List L3):Prop where
 a:∀ o∈l,iO o=true->∃ q,(o.cl,q)∈t/\o.nm<=q.1
 b:∀ c q,(c,q)∈t->∃ o∈l,iO o=true/\o.cl=c/\o.nm=q.1
theorem Ku {l:List Op} (h:lu l):∀ n,LX (l.take n) (dc (l.take n)).2
 | 0=>⟨fun o ho=>(by simp at ho),fun c q hq=>(by cases hq)⟩
 |n+1=>by
  have ih:=Ku h n
  cases ho:l[n]? with
  |none=>
   have:l.length<=n:=List.getElem?_eq_none_iff.1 ho
   rw[eM this]at ih
   rw[eM (by omega)];exact ih
  |some o=>
   have hn:=(h.nw n o ho).1
   have ht:l.take (n+1)=l.take n++[o]:=by rw[i_,ho];rfl
   rw[ht,CZ]
   show LX _ (j6 (dc (l.take n)).2 o)
   have hok:=Kb (l.take n)
   by_cases hc:iO o=true
   ·have hp:=hn.p hc
    rw[NU hc hp]
    refine⟨fun o' ho' eY=>?_,fun c q hq=>?_⟩
    ·rcases dM.1 ho' with ho' | ho'
     ·obtain⟨q,q1,q2⟩:=ih.a o' ho' eY
      by_cases e:o'.cl=o.cl
      ·refine⟨(o.nm,0),Co.2 (.inr (by rw[e])),?_⟩
       have hA:=(IL hok.inc).2 q1
       rw[e]at hA
       unfold cX at hp
       rw[hA]at hp
       dsimp only at hp
       show o'.nm<=o.nm
       split at hp
       ·omega
       ·split at hp
        ·omega
        ·omega
      ·exact⟨q,Co.2 (.inl ⟨q1,e⟩),q2⟩
     ·rw[dQ]at ho';subst ho'
      exact⟨(o'.nm,0),Co.2 (.inr rfl),fa _⟩
    ·rcases Co.1 hq with ⟨h1,h2⟩ | h1
     ·obtain⟨o',c1,c2⟩:=ih.b c q h1
      exact⟨o',iL _ c1,c2⟩
     ·cases h1
      exact⟨o,mc _ (dQ.2 rfl),hc,rfl,rfl⟩
   ·rw[F6 (.inl (by simpa using hc))]
    refine⟨fun o' ho' eY=>?_,fun c q hq=>?_⟩
    ·rcases dM.1 ho' with ho' | ho'
     ·exact ih.a o' ho' eY
     ·rw[dQ]at ho';subst ho';exact absurd eY hc
    ·obtain⟨o',c1,c2⟩:=ih.b c q hq
     exact⟨o',iL _ c1,c2⟩
theorem W6 {l:List Op} (h:lu l) (n:Nat) {cl nm:Int} (hc:fT (dc (l.take n)).2 cl nm=1):∃ o∈l.take n,iO o=true/\o.cl=cl/\o.nm=nm:=by
 unfold fT at hc
 split at hc
 ·cases hc
 ·rename_i q hq
  split at hc
  ·cases hc
  ·split at hc
   ·rename_i e
    obtain⟨o,c1,c2,c3,c4⟩:=(Ku h n).b cl q ((IL (Kb _).inc).1 hq)
    exact⟨o,c1,c2,c3,c4.trans e.symm⟩
   ·cases hc
theorem lu.uniq {l:List Op} (h:lu l) {i j:Nat} {o:Op} (hi:l[i]? =some o) (hj:l[j]? =some o) (h4:o.kd≠4):i=j:=by
 have key:∀ i j:Nat,l[i]? =some o->l[j]? =some o->i<j->False:=fun i j hi hj hlt=>by
  have hm:o∈l.take j:=fi (i:=i) (by rw[hU hlt];exact hi)
  obtain⟨hn,h3⟩:=h.nw j o hj
  have hr:=hn.rt
  unfold gB ke at hr
  rw[decide_eq_true_eq]at hr
  by_cases c3:o.kd=3
  ·exact h3 c3 hm
  ·have hc:iO o=true:=by unfold iO nL;rw[decide_eq_true_eq];omega
   obtain⟨q,q1,q2⟩:=(Ku h j).a o hm hc
   have hA:=(IL (Kb _).inc).2 q1
   have k1:=hn.k1 hc
   have k2:=hn.k2 hc
   unfold fT at k1 k2
   rw[hA]at k1 k2
   dsimp only at k1 k2
   rw[if_neg (by omega)]at k1 k2
   split at k1
   ·exact k1 rfl
   ·rw[if_neg (by assumption)]at k2;exact k2 rfl
 rcases Nat.lt_trichotomy i j with c | c | c
 ·exact(key i j hi hj c).elim
 ·exact c
 ·exact(key j i hj hi c).elim
def rT (bk:Int) (v:Int) (o:Op):Int:=if o.bk=bk then(if o.kd=1 then jL o.b else if o.kd=2 then 0 else v)else v
def ju (bk:Int) (l:List Op):Int:=l.foldl (rT bk) 0
theorem wA (bk:Int) (l:List Op) (o:Op):ju bk (l++[o])=rT bk (ju bk l) o:=by unfold ju;rw[List.foldl_append];rfl
structure Lx (o:Op):Prop where
 b0:0<=o.bk
 b1:o.bk<8
 w:o.kd=1->∃ v,0<=v/\v<256/\o.b=gY v
theorem yZ (v:Int):(gY v).length=16:=by simp [gY]
theorem IX {v:Int} (h:0<=v/\v<256):jL (gY v)=v:=by
 have hw:ι.wrap v=v:=by rw[w8 (by omega) (by omega)]
 have e0:(gY v).getD 0 0=v:=by unfold gY;rw[hw];rfl
 have XP:(gY v).getD 15 0=if v > 0 then 7 else 0:=rfl
 have em:∀ k,k<15->1<=k->(gY v).getD k 0=0:=fun k h1 h2=>by
  rcases k with _ | k
  ·omega
  ·unfold gY
   rw[List.getD_cons_succ,gD,dP (by rw[List.length_replicate];omega),List.getElem?_replicate]
   split<;>rfl
 unfold jL
 rw[if_pos ⟨yZ v,em,by rw[e0,XP];split<;>omega⟩,e0]
theorem MO {c x:List Int} (hc:c.length=128) (hx:x.length=16) {a b:Nat} (ha:a<8) (hb:b<8):((splice c (b*16) x).drop (a*16)).take 16=if a=b then x else(c.drop (a*16)).take 16:=by
 refine lw fun j=>?_
 by_cases hj:j<16
 ·rw[hU hj,jw,tO (by omega)]
  split
  ·rename_i q
   rw[if_neg (by omega),hU hj,jw]
  ·split
   ·rename_i q1 q2
    rw[if_pos (by omega)]
    have:a=b:=by omega
    subst this
    congr 1;omega
   ·rename_i q1 q2
    rw[if_neg (by omega),hU hj,jw]
 ·rw[gO (by rw[cQ];omega)]
  split
  ·rw[gO (by omega)]
  ·rw[gO (by rw[cQ];omega)]
structure Vf (l:List Op):Prop where
 len:(dc l).1.length=128
 v:∀ bk,0<=bk->bk<8->((dc l).1.drop (bk.toNat*16)).take 16=gY (ju bk l)/\0<=ju bk l/\ju bk l<256
theorem ah2 {a:Nat} (ha:a<8):(jR.drop (a*16)).take 16=gY 0:=by
 have:a=0∨a=1∨a=2∨a=3∨a=4∨a=5∨a=6∨a=7:=by omega
 rcases this with rfl | rfl | rfl | rfl | rfl | rfl | rfl | rfl<;>decide
theorem MN {l:List Op} (h:∀ o∈l,Lx o):∀ n,Vf (l.take n)
 | 0=>⟨rfl,fun bk h0 h1=>⟨by show(jR.drop _).take 16=gY 0;exact ah2 (by omega),by show(0:Int)<=0;omega,by show(0:Int)<256;omega⟩⟩
 |n+1=>by
  have ih:=MN h n
  cases ho:l[n]? with
  |none=>
   have:l.length<=n:=List.getElem?_eq_none_iff.1 ho
   rw[eM this]at ih
   rw[eM (by omega)];exact ih
  |some o=>
   have hg:=h o (fi ho)
   have b0:=hg.b0
   have b1:=hg.b1
   have ht:l.take (n+1)=l.take n++[o]:=by rw[i_,ho];rfl
   rw[ht]
   have e1:(dc (l.take n++[o])).1=fc (dc (l.take n)).1 o.kd o.bk o.b:=by rw[CZ];rfl
   have hlen:=ih.len
   by_cases k1:o.kd=1
   ·obtain⟨v,v0,v1,hv⟩:=hg.w k1
    have e2:fc (dc (l.take n)).1 o.kd o.bk o.b=splice (dc (l.take n)).1 (o.bk.toNat*16) (gY v):=by unfold fc;rw[if_pos k1,hv]
    refine⟨by rw[e1,e2,mF (by rw[yZ,hlen];omega)];exact hlen,fun bk h0 h1=>?_⟩
    rw[e1,e2,MO hlen (yZ v) (by omega) (by omega),wA]
    unfold rT
    by_cases c:o.bk=bk
    ·rw[if_pos (by omega),if_pos c,if_pos k1,hv,IX ⟨v0,v1⟩]
     exact⟨rfl,v0,v1⟩
    ·rw[if_neg (by omega),if_neg c];exact ih.v bk h0 h1
   ·by_cases k2:o.kd=2
    ·have e2:fc (dc (l.take n)).1 o.kd o.bk o.b=splice (dc (l.take n)).1 (o.bk.toNat*16) (gY 0):=by unfold fc;rw[if_neg k1,if_pos k2];rfl
     refine⟨by rw[e1,e2,mF (by rw[yZ,hlen];omega)];exact hlen,fun bk h0 h1=>?_⟩
     rw[e1,e2,MO hlen (yZ 0) (by omega) (by omega),wA]
     unfold rT
     by_cases c:o.bk=bk
     ·rw[if_pos (by omega),if_pos c,if_neg k1,if_pos k2]
      exact⟨rfl,fa _,by omega⟩
     ·rw[if_neg (by omega),if_neg c];exact ih.v bk h0 h1
    ·have e2:fc (dc (l.take n)).1 o.kd o.bk o.b=(dc (l.take n)).1:=by unfold fc;rw[if_neg k1,if_neg k2]
     refine⟨by rw[e1,e2];exact hlen,fun bk h0 h1=>?_⟩
     have e3:rT bk (ju bk (l.take n)) o=ju bk (l.take n):=by
      unfold rT
      by_cases c:o.bk=bk
      ·rw[if_pos c,if_neg k1,if_neg k2]
      ·rw[if_neg c]
     rw[e1,e2,wA,e3]
     exact ih.v bk h0 h1
structure zu (vs:List Vw) (G:Gh) (cs:List dD) (c:dD):Prop where
 h:∃ e n,Cm vs G e n/\c.o∈(G.lg e).take n/\(∀ c'∈cs,c'.o∈(G.lg e).take n->c'.bg<=c.en)/\(c.o.kd=3->(G.lg e)[n - 1]? =some c.o/\c.v=ju c.o.bk ((G.lg e).take n))
structure LQ (i:Nat) (c:dD):Prop where
 b0:0<=c.o.bk
 b1:c.o.bk<2
 k0:1<=c.o.kd
 k1:c.o.kd<=4
 w:c.o.kd=1->c.o.b=gY ((i:Int)+1)/\c.v=(i:Int)+1
 t:c.o.kd=2->c.v=0
structure VE (now:Int) (c:dD):Prop where
 b0:0<=c.bg
 b1:c.bg<=now
 e:c.en=-1∨(c.bg<=c.en/\c.en<=now)
structure jv (vs:List Vw) (G:Gh) (cs:List dD) (now:Int):Prop where
 key:cs.Pairwise (fun a b=>a.o.cl=b.o.cl->a.o.nm≠b.o.nm)
 ln:cs.length<=13
 n0:0<=now
 sh:∀(i:Nat) (c:dD),cs[i]? =some c->LQ i c
 tm:∀ c∈cs,VE now c
 ow:∀ e,∀ o∈G.lg e,∃ c∈cs,c.o=o
 lo:∀ e,lu (G.lg e)
 en:∀ c∈cs,c.en≠-1->c.o.kd≠4->zu vs G cs c
section
variable {vs:List Vw} {G:Gh} {cs:List dD} {now:Int}
theorem jv.same (h:jv vs G cs now) {a b:dD} (ha:a∈cs) (hb:b∈cs) (h1:a.o.cl=b.o.cl) (h2:a.o.nm=b.o.nm):a=b:=by
 obtain⟨i,hi⟩:=jx ha
 obtain⟨j,hj⟩:=jx hb
 obtain⟨li,ei⟩:=bG.1 hi
 obtain⟨lj,ej⟩:=bG.1 hj
 have hp:=List.pairwise_iff_getElem.1 h.key
 rcases Nat.lt_trichotomy i j with c | c | c
 ·exact absurd (by rw[ei,ej];exact h2) (hp i j li lj c (by rw[ei,ej];exact h1))
 ·subst c;rw[hi]at hj;exact bb.inj hj
 ·exact absurd (by rw[ei,ej];exact h2.symm) (hp j i lj li c (by rw[ei,ej];exact h1.symm))
theorem jv.go (h:jv vs G cs now) {e:Int} {o:Op} (ho:o∈G.lg e):Lx o:=by
 obtain⟨c,hc,rfl⟩:=h.ow e o ho
 obtain⟨i,hi⟩:=jx hc
 have hl:=(bG.1 hi).1
 have:=h.ln
 have hs:=h.sh i c hi
 exact⟨hs.b0,by have:=hs.b1;omega,fun k=>⟨(i:Int)+1,by omega,by omega,(hs.w k).1⟩⟩
theorem zu.mono {k:Int} {G':Gh} {c:dD} (h:zu vs G cs c) (hx:Ex vs k G G'):zu vs G' cs c:=by
 obtain⟨e,n,c1,c2,c3,c4⟩:=h
 refine⟨e,n,c1.mono hx,?_⟩
 rw[qk (hx.lg e) c1.nl]
 exact⟨c2,c3,fun t=>⟨v7 (hx.lg e) (c4 t).1,(c4 t).2⟩⟩
theorem jv.mono {k:Int} {G':Gh} (h:jv vs G cs now) (hx:Ex vs k G G') (ow:∀ e,∀ o∈G'.lg e,∃ c∈cs,c.o=o) (lo:∀ e,lu (G'.lg e)):jv vs G' cs now:=
 ⟨h.key,h.ln,h.n0,h.sh,h.tm,ow,lo,fun c hc h1 h2=>(h.en c hc h1 h2).mono hx⟩
theorem jv.val (h:jv vs G cs now) {e:Int} {n:Nat} {o:Op} (ho:o∈G.lg e) (hk:o.kd=3):jL (mD (dc ((G.lg e).take n)).1 o)=ju o.bk ((G.lg e).take n)/\0<=ju o.bk ((G.lg e).take n):=by
 have hg:=h.go ho
 obtain⟨b1,b2,b3⟩:=(MN (fun o ho=>h.go (e:=e) ho) n).v o.bk hg.b0 hg.b1
 unfold mD
 rw[if_pos hk,b1,IX ⟨b2,b3⟩]
 exact⟨rfl,b2⟩
theorem uz (now:Int) (d:Dn) (c:dD):(im now d c).o=c.o/\(im now d c).bg=c.bg:=by unfold im;split<;>exact⟨rfl,rfl⟩
theorem afS (h:jv vs G cs now) {d:Dn} (hd:uS vs G d):jv vs G (cs.map (im now d)) now/\cs.all (nY d)=true:=by
 have hit:∀ c∈cs,qc d c->c.o=d.o/\∃ e n,Cm vs G e n/\d.o∈(G.lg e).take n/\(d.o.kd=3->(G.lg e)[n - 1]? =some d.o/\jL d.x=ju d.o.bk ((G.lg e).take n)/\0<=jL d.x):=fun c hc ⟨h1,h2,h3,h4⟩=>by
  obtain⟨e,n,c1,c2,c3⟩:=hd.h h4
  have hm:=List.mem_of_mem_take c2
  obtain⟨c',eY,e'⟩:=h.ow e d.o hm
  have:c=c':=h.same hc eY (by rw[h1,e']) (by rw[h2,e'])
  subst this
  refine⟨e',e,n,c1,c2,fun t=>⟨(c3 t).1,?_⟩⟩
  obtain⟨v1,v2⟩:=h.val (n:=n) hm t
  rw[(c3 t).2,v1]
  exact⟨rfl,v2⟩
 refine⟨⟨?_,by rw[bX];exact h.ln,h.n0,fun i c hi=>?_,fun c hc=>?_,fun e o ho=>?_,h.lo,fun c hc h1 h2=>?_⟩,List.all_eq_true.2 fun c hc=>?_⟩
 ·refine List.pairwise_map.2 (h.key.imp fun{a b} hab=>?_)
  rw[(uz now d a).1,(uz now d b).1];exact hab
 ·rw[fE]at hi
  cases hc:cs[i]? with
  |none=>rw[hc]at hi;cases hi
  |some c0=>
   rw[hc]at hi;cases hi
   have hs:=h.sh i c0 hc
   unfold im
   split
   ·exact⟨hs.b0,hs.b1,hs.k0,hs.k1,fun k=>⟨(hs.w k).1,by have k:c0.o.kd=1:=k;show(if c0.o.kd=3 then _ else c0.v)=_;rw[if_neg (by omega)];exact(hs.w k).2⟩,fun k=>by have k:c0.o.kd=2:=k;show(if c0.o.kd=3 then _ else c0.v)=_;rw[if_neg (by omega)];exact hs.t k⟩
   ·exact hs
 ·obtain⟨c0,hc0,rfl⟩:=eL.1 hc
  have ht:=h.tm c0 hc0
  unfold im
  split
  ·exact⟨ht.b0,ht.b1,.inr ⟨ht.b1,fa _⟩⟩
  ·exact ht
 ·obtain⟨c,hc,rfl⟩:=h.ow e o ho
  exact⟨_,List.mem_map_of_mem hc,(uz now d c).1⟩
 ·obtain⟨c0,hc0,rfl⟩:=eL.1 hc
  by_cases hh:qc d c0
  ·obtain⟨e1,e,n,c1,c2,c3⟩:=hit c0 hc0 hh
   have et:im now d c0=⟨c0.o,if c0.o.kd=3 then jL d.x else c0.v,c0.bg,now⟩:=if_pos hh
   rw[et]
   refine⟨e,n,c1,by show c0.o∈_;rw[e1];exact c2,fun c' eY _=>?_,fun t=>?_⟩
   ·obtain⟨c2,fk,rfl⟩:=eL.1 eY
    rw[(uz now d c2).2];exact(h.tm c2 fk).b1
   ·have t:c0.o.kd=3:=t
    show(G.lg e)[n - 1]? =some c0.o/\(if c0.o.kd=3 then jL d.x else c0.v)=ju c0.o.bk _
    rw[if_pos t,e1]
    have:=c3 (by rw[<- e1];exact t)
    exact⟨this.1,this.2.1⟩
  ·have et:im now d c0=c0:=if_neg hh
   rw[et]at h1 h2 ⊢
   obtain⟨e,n,c1,c2,c3,c4⟩:=h.en c0 hc0 h1 h2
   refine⟨e,n,c1,c2,fun c' eY ho=>?_,c4⟩
   obtain⟨c2,fk,rfl⟩:=eL.1 eY
   rw[(uz now d c2).1]at ho
   rw[(uz now d c2).2];exact c3 c2 fk ho
 ·unfold nY
  rw[decide_eq_true_eq]
  intro ⟨hh,t⟩
  obtain⟨e1,e,n,c1,c2,c3⟩:=hit c hc hh
  exact(c3 (by rw[<- e1];exact t)).2.2
end
structure WJ (G:Gh) (w:Wd):Prop where
 gi:GI w.vs G
 vi:VI w.vs G
 r:∀ i:Nat,i<4->RI w.vs G i (ax w i)
 af:∀ l∈w.af,ja w.vs G l.fr l.m
 cs:jv w.vs G w.cs w.now
 ok:w.ok=true
theorem Uj {vs:List Vw} {G:Gh}:∀(l:List Dn) (w:Wd),(∀ d∈l,uS vs G d)->jv vs G w.cs w.now->w.ok=true->jv vs G (l.foldl fB w).cs (l.foldl fB w).now/\(l.foldl fB w).ok=true
 | [],w,_,h,ho=>⟨h,ho⟩
 |d::l,w,hd,h,ho=>by
  obtain⟨h1,h2⟩:=afS h (hd d iu)
  exact Uj l (fB w d) (fun d' hd'=>hd d' (fM _ hd')) h1 (by show(w.ok && w.cs.all (nY d))=true;rw[ho,h2];rfl)
theorem Tc {P:nB->Prop} (i:Nat):∀(l:List Post) (w:Wd),(∀ p∈l,P ⟨i,p.to,p.m⟩)->(∀ x∈w.af,P x)->∀ x∈(dH w i l).af,P x
 | [],w,_,h=>h
 |p::l,w,hp,h=>Tc i l (iG i w p) (fun p' nJ=>hp p' (fM _ nJ)) (by
  unfold iG;split
  ·exact fun x hx=>nN (P:=P) h (hp p iu) hx
  ·exact h)
theorem Nk {T:Int} {w:Wd} {G G':Gh} (hw:WI T w) (h:WJ G w) {i:Nat} (hi:i<4) {R:κ} (g1:GI w.vs G') (g2:Ex w.vs i G G') (hR:fj w.vs G' i R) (ow:∀ e,∀ o∈G'.lg e,∃ c∈w.cs,c.o=o) (lo:∀ e,lu (G'.lg e)):WJ G' (hZ (cZ w i R) i):=by
 have hir:i<w.R.length:=by rw[hw.rl];exact hi
 have e1:ax (cZ w i R) i=R:=rC R hir
 obtain⟨s1,s2,s3,s4,s5,s6,s7,s8⟩:=sX i R.out (gz (cZ w i R) i)
 have Hb:hZ (cZ w i R) i=R.done.foldl fB (dH (gz (cZ w i R) i) i R.out):=by unfold hZ;rw[e1]
 obtain⟨t1,t2⟩:=wx R.done (dH (gz (cZ w i R) i) i R.out)
 obtain⟨u1,u2,u3,u4,u5⟩:=Da R.done (dH (gz (cZ w i R) i) i R.out)
 rw[Hb]
 have eR:(R.done.foldl fB (dH (gz (cZ w i R) i) i R.out)).R=(cZ w i (mT R)).R:=by
  rw[t1,s1];show(w.R.set i R).set i (mT (ax (cZ w i R) i))=w.R.set i (mT R);rw[e1,List.set_set]
 have eA:∀ j,ax (R.done.foldl fB (dH (gz (cZ w i R) i) i R.out)) j=ax (cZ w i (mT R)) j:=Js eR
 have eV:(R.done.foldl fB (dH (gz (cZ w i R) i) i R.out)).vs=w.vs:=u2.trans s3
 have hcs:jv w.vs G' (dH (gz (cZ w i R) i) i R.out).cs (dH (gz (cZ w i R) i) i R.out).now:=by
  rw[s4,s6];exact h.cs.mono g2 ow lo
 obtain⟨v1,v2⟩:=Uj R.done _ hR.dn hcs (by rw[s7];exact h.ok)
 have YQ:∀ l∈(R.done.foldl fB (dH (gz (cZ w i R) i) i R.out)).af,ja w.vs G' l.fr l.m:=by
  rw[u3]
  exact Tc (P:=fun l=>ja w.vs G' l.fr l.m) i R.out (gz (cZ w i R) i) (fun p hp=>hR.out p hp) (fun x hx=>(h.af x hx).mono g2)
 refine⟨by rw[eV];exact g1,by rw[eV];exact h.vi.mono g2,fun j hj=>?_,by rw[eV];exact YQ,by rw[eV];exact v1,v2⟩
 rw[eV,eA]
 by_cases e:i=j
 ·subst e
  rw[rC _ hir]
  exact hR.ri.out ⟨rfl,rfl,rfl,rfl,rfl,rfl,rfl,rfl,rfl⟩ rfl
 ·rw[uo _ e]
  exact(h.r j hj).mono h.vi g2 (by omega)
section
variable {T:Int} {w:Wd} {G:Gh}
theorem WJ.Ce (hw:WI T w) (h:WJ G w) {i:Nat} (hi:i<4):fj w.vs G i (ax w i):=
 ⟨h.r i hi,fun p hp=>(by rw[(hw.r i hi).out]at hp;cases hp),fun d hd=>(by rw[(hw.r i hi).done]at hd;cases hd)⟩
theorem IT (hw:WI T w) (h:WJ G w) {i:Nat} (hi:i<4) {R:κ} (hn:ou w.vs G i R):∃ G',WJ G' (hZ (cZ w i R) i):=by
 obtain⟨G',g1,g2,g3,g4⟩:=hn
 refine⟨G',Nk hw h hi g1 g2 g3 (fun e o ho=>?_) (fun e=>?_)⟩
 ·obtain⟨e',he⟩:=g4 e
  exact h.cs.ow e' o (he.subset ho)
 ·obtain⟨e',he⟩:=g4 e
  exact(h.cs.lo e').pre he
theorem aba (hw:WI T w) (h:WJ G w) {i:Nat} (hi:i<4) {R:κ} {o:Op} (hn:wV w.vs G i R o) (hc:∃ c∈w.cs,c.o=o) (hf:o.kd=3->∀ E,o ∉ G.lg E):∃ G',WJ G' (hZ (cZ w i R) i):=by
 obtain⟨G',g1,g2,g3,g4⟩:=hn
 refine⟨G',Nk hw h hi g1 g2 g3 (fun e o' ho=>?_) (fun e=>?_)⟩
 ·rcases g4 e with ⟨e',he⟩ | ⟨E,he,_⟩
  ·exact h.cs.ow e' o' (he.subset ho)
  ·rw[he]at ho
   rcases dM.1 ho with ho | ho
   ·exact h.cs.ow E o' ho
   ·rw[dQ]at ho;subst ho;exact hc
 ·rcases g4 e with ⟨e',he⟩ | ⟨E,he,hne⟩
  ·exact(h.cs.lo e').pre he
  ·rw[he];exact(h.cs.lo E).snoc hne (fun k=>hf k E)
theorem aa6 (h:WJ G w):WJ G (dm w):=
 ⟨h.gi,h.vi,h.r,h.af,⟨h.cs.key,h.cs.ln,by have:=h.cs.n0;show 0<=w.now+1;omega,h.cs.sh,fun c hc=>by
  have t:=h.cs.tm c hc
  exact⟨t.b0,by have:=t.b1;show c.bg<=w.now+1;omega,t.e.imp id (fun⟨a,b⟩=>⟨a,by show c.en<=w.now+1;omega⟩)⟩,h.cs.ow,h.cs.lo,h.cs.en⟩,h.ok⟩
theorem Fh (h:WJ G w) {b:List nB} (hb:∀ l∈b,l∈w.af):WJ G {w with af:=b }:=⟨h.gi,h.vi,h.r,fun l hl=>h.af l (hb l hl),h.cs,h.ok⟩
theorem Xx (hw:WI T w) (h:WJ G w) {k:Nat} (hk:k<w.af.length):∃ G',WJ G' (vn w k):=by
 have hl:=hw.af _ (xp hk)
 have t0:=hl.t0
 have t1:=hl.t1
 have hi:(fO w k).to.toNat<4:=by omega
 have h':WJ G (kV w k):=Fh h (fun l hl=>List.mem_of_mem_eraseIdx hl)
 have hlt:ja w.vs G (fO w k).fr (fO w k).m:=h.af _ (xp hk)
 exact IT (Jh hw k) h' hi (YN (vs:=w.vs) h.gi h.vi (h.Ce hw hi) (hw.r _ hi).w.i hlt)
theorem ahM (hw:WI T w) (h:WJ G w) {a:Nat} (ha:a<4) {v:Vw} (hv:v∈w.vs):∃ G',WJ G' (KN w a v):=
 IT hw h ha (ahQ h.gi h.vi (h.Ce hw ha) (hw.r _ ha).w.i hv)
theorem afE (hw:WI T w) (h:WJ G w) {a:Nat} (ha:a<4):∃ G',WJ G' (C9 w a):=
 IT hw h ha (afI h.gi h.vi (h.Ce hw ha) (hw.r _ ha).w.i)
theorem Ud (hw:WI T w) (hT:T<800) (h:WJ G w):∀ i,i<=4->∃ G',WJ G' (il w i)
 | 0,_=>⟨G,h⟩
 |i+1,hi=>by
  obtain⟨G',h'⟩:=Ud hw hT h i (by omega)
  exact afE (yU hw hT i (by omega)).1 h' (by omega)
theorem adW (hw:WI T w) (h:WJ G w) {a:Nat} (ha:a<4):WJ G (cZ w a (uq (ax w a) a)):=by
 have Bf:a<w.R.length:=by rw[hw.rl];exact ha
 refine⟨h.gi,h.vi,fun j hj=>?_,h.af,h.cs,h.ok⟩
 by_cases e:a=j
 ·subst e
  rw[rC _ Bf]
  have hr:=h.r a ha
  exact⟨rfl,rfl,rfl,rfl,hr.e0,hr.n0,hr.ac,hr.nl,hr.st,hr.rc,hr.rz,hr.al,.inl rfl,fun L hL=>sP hL⟩
 ·rw[uo _ e];exact h.r j hj
theorem aam (h:WJ G w) {i:Nat} (hi:i<4) {c:dD} (hc:c∈w.cs):iO c.o=true->fT (ax w i).t c.o.cl c.o.nm=1->c.o∈(G.lg (ax w i).ep).take (ax w i).nu.toNat:=fun _ h1=>by
 have e2:(ax w i).t=(dc ((G.lg (ax w i).ep).take (ax w i).nu.toNat)).2:=congrArg Prod.snd (h.r i hi).st
 rw[e2]at h1
 obtain⟨o,c1,c2,c3,c4⟩:=W6 (h.cs.lo _) _ h1
 obtain⟨c',eY,e'⟩:=h.cs.ow _ o (List.mem_of_mem_take c1)
 have:c'=c:=h.cs.same eY hc (by rw[e',c3]) (by rw[e',c4])
 subst this
 rw[e'];exact c1
theorem Tx (hw:WI T w) (h:WJ G w) {a:Nat} (ha:a<4) {c:dD} (hc:c∈w.cs) (hf:c.o.kd=3->∀ E,c.o ∉ G.lg E):∃ G',WJ G' (s9 w c.o a):=
 aba hw h ha (ae4 h.gi h.vi (h.Ce hw ha) (hw.r _ ha).w.i c.o (aam h ha hc)) ⟨c,hc,rfl⟩ hf
structure jA (w:Wd):Prop where
 h:∀ c∈w.cs,0<=c.o.cl/\c.o.nm<=kA w c.o.cl
theorem QM (hn:jA w) (s:Sp) {c:dD} (hc:c∈w.cs):c.o.cl=(fW w s).cl->c.o.nm≠(fW w s).nm:=fun e t=>by
 have:=(hn.h c hc).2
 rw[e,t]at this
 have:kA w (bO s)+1<=kA w (bO s):=this
 omega
theorem aaX (h:WJ G w) (h12:w.cs.length<=12) {o:Op} {v:Int} (hf:∀ c∈w.cs,c.o.cl=o.cl->c.o.nm≠o.nm) (hs:LQ w.cs.length ⟨o,v,w.now,-1⟩):WJ G {w with cs:=w.cs++[⟨o,v,w.now,-1⟩] }:=by
 refine⟨h.gi,h.vi,h.r,h.af,⟨?_,?_,h.cs.n0,fun i c hi=>?_,fun c hc=>nN h.cs.tm ⟨h.cs.n0,fa _,.inl rfl⟩ hc,fun e o ho=>?_,h.cs.lo,fun c hc h1 h2=>?_⟩,h.ok⟩
 ·refine List.pairwise_append.2 ⟨h.cs.key,List.pairwise_singleton _ _,fun a ha b hb=>?_⟩
  rw[dQ]at hb;subst hb
  exact hf a ha
 ·show(w.cs++[_]).length<=13
  rw[bn,ii];omega
 ·have hi:(w.cs++[(⟨o,v,w.now,-1⟩:dD)])[i]? =some c:=hi
  have hlt:=(bG.1 hi).1
  rw[bn,ii]at hlt
  rcases(by omega:i<w.cs.length∨i=w.cs.length)with q | q
  ·rw[dP q]at hi;exact h.cs.sh i c hi
  ·subst q
   simp at hi
   subst hi
   exact hs
 ·obtain⟨c,hc,e'⟩:=h.cs.ow e o ho
  exact⟨c,iL _ hc,e'⟩
 ·have hc:c∈w.cs++[(⟨o,v,w.now,-1⟩:dD)]:=hc
  rcases dM.1 hc with hc | hc
  ·obtain⟨e,n,c1,c2,c3,c4⟩:=h.cs.en c hc h1 h2
   refine⟨e,n,c1,c2,fun c' eY ho=>?_,c4⟩
   have eY:c'∈w.cs++[(⟨o,v,w.now,-1⟩:dD)]:=eY
   rcases dM.1 eY with eY | eY
   ·exact c3 c' eY ho
   ·rw[dQ]at eY;subst eY
    obtain⟨c2,fk,e2⟩:=h.cs.ow e _ (List.mem_of_mem_take ho)
    exact absurd (by rw[e2]) (hf c2 fk (by rw[e2]))
  ·rw[dQ]at hc;subst hc
   exact absurd rfl h1
theorem aaY (hn:jA w) (h:WJ G w) (s:Sp) (h12:w.cs.length<12):WJ G (lF w s):=by
 have pk:=lJ s.k (n:=4) (by omega)
 have pb:=lJ (Z.wrap (s.n.tdiv 2)) (n:=2) (by omega)
 have g:=aaX h (by omega) (o:=fW w s) (v:=qi w s) (fun c hc=>QM hn s hc) ⟨pb.1,pb.2,by show 1<=1+bM s.k 4;omega,by show 1+bM s.k 4<=4;omega,fun k=>by
  have k:1+bM s.k 4=1:=k
  exact⟨if_pos k,if_pos k⟩,fun k=>by
  have k:1+bM s.k 4=2:=k
  exact if_neg (by omega)⟩
 exact⟨g.gi,g.vi,g.r,g.af,g.cs,g.ok⟩
theorem aeZ (hw:WI T w) (hT:T<790) (hn:jA w) (h:WJ G w) (s:Sp):∃ G',WJ G' (l8 w s (cE s)):=by
 have pa:=lJ s.dg (n:=4) (by omega)
 have ha:cE s<4:=by unfold cE;omega
 unfold l8
 split
 ·split
  ·rename_i c hc
   have hm:=List.mem_of_getLast? hc
   rw[kM]at hm
   have hl:=hm.2
   unfold m7 at hl
   rw[decide_eq_true_eq]at hl
   exact Tx hw h ha hm.1 (fun k=>absurd k hl.2.2)
  ·exact⟨G,h⟩
 ·split
  ·exact⟨G,h⟩
  ·rename_i h12
   have h2:=aaY hn h s (by omega)
   have hm:(⟨fW w s,qi w s,w.now,-1⟩:dD)∈(lF w s).cs:=mc _ (dQ.2 rfl)
   exact Tx (QJ hw s (by omega)) h2 ha hm (fun _ E ho=>by
    obtain⟨c,hc,e⟩:=h.cs.ow E _ ho
    exact absurd (by rw[e]) (QM hn s hc (by rw[e])))
end
section
variable {vs:List Vw} {G:Gh} {v:Vw}
theorem UM {e:Int} (h1:1<=e) (h2:e<=vs.length):lO (vs++[v]) e=lO vs e:=by
 unfold lO
 rw[gD,gD,dP (by omega)]
theorem x9 {e:Int} (h1:1<=e) (h2:e<=vs.length):gR (vs++[v]) e=gR vs e:=by unfold gR;rw[UM h1 h2]
theorem GI.pO (h:GI vs G):GI (vs++[v]) G:=by
 have hl:∀ e,G.act e->gR (vs++[v]) e=gR vs e:=fun e a=>x9 (h.a0 e a).1 (h.a0 e a).2
 exact⟨fun e a=>⟨(h.a0 e a).1,by have:=(h.a0 e a).2;rw[bn,ii];omega⟩,h.nl,h.nr,h.bl,h.p0,h.p1,h.p2,fun e a=>by rw[hl e a];exact h.p3 e a,fun e a=>by rw[hl e a];exact h.p4 e a,h.rl,fun e a=>by rw[hl e a];exact h.ld e a⟩
theorem Cm.pO (hG:GI vs G) {e:Int} {n:Nat} (h:Cm vs G e n):Cm (vs++[v]) G e n:=
 ⟨h.a,h.n1,h.nl,by rw[UM (hG.a0 e h.a).1 (hG.a0 e h.a).2];exact h.al⟩
theorem RI.pO (hG:GI vs G) (hV:VI vs G) {k:Int} {R:κ} (h:RI vs G k R):RI (vs++[v]) G k R:=
 ⟨h.me,h.id,h.bl,h.lo,h.e0,h.n0,h.ac,h.nl,h.st,h.rc,h.rz,fun e a q=>h.al e a (by rw[x9 (hG.a0 e a).1 (hG.a0 e a).2]at q;exact q),h.v.imp (fun t=>t) (iL _),fun L hL=>by
  have hl:=h.l L hL
  have hv:=Dl hV hl.v
  exact⟨iL _ hl.v,hl.ep,by rw[x9 (by rw[hl.ep];exact hv.2.1) (by rw[hl.ep];exact hv.2.2)];exact hl.hd,hl.ins,hl.cN,hl.cur⟩⟩
theorem ja.pO (hG:GI vs G) {fr:Int} {m:dY} (h:ja vs G fr m):ja (vs++[v]) G fr m:=by
 cases h with
 |sync e n a f b l x c=>exact .sync e n a (by rw[x9 (hG.a0 e a).1 (hG.a0 e a).2];exact f) b l x c
 |ok kd e n hk hn=>exact .ok kd e n hk hn
 |op e n o s a f b g=>exact .op e n o s a (by rw[x9 (hG.a0 e a).1 (hG.a0 e a).2];exact f) b g
theorem jv.pO (hG:GI vs G) {cs:List dD} {now:Int} (h:jv vs G cs now):jv (vs++[v]) G cs now:=
 ⟨h.key,h.ln,h.n0,h.sh,h.tm,h.ow,h.lo,fun c hc h1 h2=>by
  obtain⟨e,n,c1,c2⟩:=h.en c hc h1 h2
  exact⟨e,n,c1.pO hG,c2⟩⟩
theorem VI.pO (hV:VI vs G) (h1:v.ve=(vs.length:Int)+1) (h2:v.vi=5) (h3:v.mem≠[]) (h4:(v.mem++v.aM).Nodup) (hx:∀ l,vs[vs.length - 1]? =some l->0<vs.length->∀ x∈v.mem,x∈l.mem∨(x∈l.aM/\G.act l.ve/\G.ba l.ve<=G.rc x l.ve)):VI (vs++[v]) G:=by
 refine⟨fun i u hi=>?_,fun u hu=>nN (P:=fun u:Vw=>u.mem≠[]) hV.m0 h3 hu,fun u hu=>nN (P:=fun u:Vw=>(u.mem++u.aM).Nodup) hV.nd h4 hu,fun i u u' hi hi' x hx'=>?_⟩
 ·have hlt:=(bG.1 hi).1
  rw[bn,ii]at hlt
  rcases(by omega:i<vs.length∨i=vs.length)with q | q
  ·rw[dP q]at hi;exact hV.ve i u hi
  ·subst q
   simp at hi
   subst hi
   exact⟨h1,h2⟩
 ·have hlt:=(bG.1 hi').1
  rw[bn,ii]at hlt
  rw[dP (by omega)]at hi
  rcases(by omega:i+1<vs.length∨i+1=vs.length)with q | q
  ·rw[dP q]at hi';exact hV.nx i u u' hi hi' x hx'
  ·rw[q]at hi'
   simp at hi'
   subst hi'
   exact hx u (by rw[<- q,Nat.add_sub_cancel];exact hi) (by omega) x hx'
end
section
variable {T:Int} {w:Wd} {G:Gh}
theorem P0 (w:Wd):lO w.vs (w.vs.length:Int)=cK w:=by
 unfold lO cK yY
 rw[show((w.vs.length:Int) - 1).toNat=w.vs.length - 1 by omega];rfl
theorem aaq (h:WJ G w) (hw:WI T w):(cK w).ve=w.vs.length:=by
 have:=hw.v0
 rw[<- P0,UP h.vi (by omega) (by omega)]
theorem afY (hw:WI T w) (h:WJ G w) (s:Sp) {a:Int} (ha:0<=a/\a<4):WJ G (pN w s a):=by
 have v0:=hw.v0
 have xZ:=aaq h hw
 have nI:=HU hw
 have da:w.vs[w.vs.length - 1]? =some (cK w):=wy (by omega)
 unfold pN
 split
 ·exact h
 ·rename_i hr
  split
  ·rename_i hne
   have x4:=(Iy (hw.vs _ nI) (bM s.k 3) ha).1
   have ZW:(lG (cK w) (bM s.k 3) a).ve=(cK w).ve+1:=((Iy (hw.vs _ nI) (bM s.k 3) ha).2).resolve_left hne
   have ZX:(lG (cK w) (bM s.k 3) a).vi=5:=by
    have:=(h.vi.ve _ _ da).2
    unfold lG
    repeat' split
    all_goals exact this
   refine⟨h.gi.pO,h.vi.pO (by rw[ZW,xZ]) ZX x4.m0 x4.nd (fun l hl _ x hx=>?_),fun i hi=>(h.r i hi).pO h.gi h.vi,fun l hl=>(h.af l hl).pO h.gi,h.cs.pO h.gi,h.ok⟩
   rw[da]at hl;cases hl
   unfold lG at hx
   split at hx
   ·split at hx
    ·exact .inl hx
    ·exact .inl (sO.1 hx).1
   ·split at hx
    ·split at hx
     ·exact .inl hx
     ·exact .inl hx
    ·split at hx
     ·rename_i h2
      split at hx
      ·exact .inl hx
      ·rename_i hj
       have hj:a∈(cK w).aM:=by simpa using hj
       rcases dM.1 hx with hx | hx
       ·exact .inl hx
       ·rw[dQ]at hx;subst hx
        refine .inr ⟨hj,?_⟩
        have hrd:=Classical.byContradiction fun t=>hr ⟨h2,t⟩
        have hm0:=(hw.vs _ nI).m0
        have hin:=O_ hm0
        have ZH:=(hw.vs _ nI).rg _ (iL _ hin)
        have hk:(gG (cK w)).toNat<4:=by omega
        have jd:=h.r _ hk
        obtain⟨r1,r2⟩:=hrd
        generalize ax w (gG (cK w)).toNat=R at r1 r2 jd
        unfold gW at r1
        split at r1
        ·rename_i L hL
         have hl:=jd.l L hL
         have hv:=Dl h.vi hl.v
         have e1:=hl.act h.vi
         have hvl:R.v=cK w:=by
          rw[<- hv.1,<- P0]
          congr 1
          rw[<- hl.ep,r2,xZ]
         have hac:=jd.ac (by omega)
         have Pp:x≠R.me:=fun e=>by
          have hnd:=List.nodup_append.1 (hw.vs _ nI).nd
          have:x=gG (cK w):=by rw[e,jd.me];omega
          exact hnd.2.2 _ hin _ hj this.symm
         have hins:=hl.ins x (Ii.2 ⟨by rw[hvl];exact mc _ hj,Pp⟩) (List.all_eq_true.1 r1 x (Ii.2 ⟨by rw[hvl];exact mc _ hj,Pp⟩))
         rw[<- r2]
         refine⟨hac.1,?_⟩
         have hb:=hac.2
         cases hc:L.cur with
         |none=>
          rw[hc]at hins
          have hins:R.nu<=(G.rc x R.ep:Int)+0:=hins
          omega
         |some o=>
          rw[hc]at hins
          have hins:R.nu<=(G.rc x R.ep:Int)+1:=hins
          have:=(hl.cur o hc).1
          omega
        ·cases r1
     ·exact .inl hx
  ·exact h
theorem jA.eq {w':Wd} (h:jA w) (h1:∀ c∈w'.cs,∃ c0∈w.cs,c.o=c0.o) (h2:w'.aW=w.aW):jA w':=⟨fun c hc=>by
 obtain⟨c0,hc0,e⟩:=h1 c hc
 have:=h.h c0 hc0
 rw[e];unfold kA at this ⊢;rw[h2];exact this⟩
theorem Ug:∀(l:List Dn) (w:Wd),∀ c∈(l.foldl fB w).cs,∃ c0∈w.cs,c.o=c0.o
 | [],w,c,hc=>⟨c,hc,rfl⟩
 |d::l,w,c,hc=>by
  obtain⟨c1,h1,e1⟩:=Ug l (fB w d) c hc
  obtain⟨c0,h0,rfl⟩:=eL.1 h1
  exact⟨c0,h0,e1.trans (uz _ d c0).1⟩
theorem xy (h:jA w) (i:Nat) (R:List κ):jA (hZ {w with R:=R } i):=by
 refine h.eq (fun c hc=>?_) ?_
 ·unfold hZ at hc
  obtain⟨c0,h0,e⟩:=Ug _ _ c hc
  rw[(sX i _ _).2.2.2.1]at h0
  exact⟨c0,h0,e⟩
 ·unfold hZ
  rw[(Da _ _).2.2.2.1,(sX i _ _).2.2.2.2.1];rfl
theorem aaZ (h:jA w) (hw:WI T w) (s:Sp):jA (lF w s):=⟨fun c hc=>by
 have pc:=lJ s.n (n:=2) (by omega)
 have hcl:bO s=1+bM s.n 2:=rfl
 have hc:c∈w.cs++[(⟨fW w s,qi w s,w.now,-1⟩:dD)]:=hc
 have e0:kA (lF w s) (bO s)=kA w (bO s)+1:=by
  show(w.aW.set (bO s).toNat _).getD (bO s).toNat 0=_
  rw[gD,ig (by rw[hw.n3];omega)];rfl
 rcases dM.1 hc with hc | hc
 ·obtain⟨h1,h2⟩:=h.h c hc
  refine⟨h1,?_⟩
  by_cases e:c.o.cl=bO s
  ·rw[e,e0];rw[e]at h2;omega
  ·show c.o.nm<=(w.aW.set (bO s).toNat _).getD c.o.cl.toNat 0
   rw[gD,gr (by omega),<- gD];exact h2
 ·rw[dQ]at hc;subst hc
  exact⟨by show 0<=bO s;omega,by show kA w (bO s)+1<=kA (lF w s) (bO s);rw[e0];exact fa _⟩⟩
theorem ae3 (h:jA w) (hw:WI T w) (s:Sp):jA (l8 w s (cE s)):=by
 unfold l8
 split
 ·split
  ·exact xy h _ _
  ·exact h
 ·split
  ·exact h
  ·exact xy (aaZ h hw s) _ _
theorem Ue (h:jA w):∀ i,jA (il w i)
 | 0=>h
 |i+1=>xy (Ue h i) _ _
theorem ae9 (h:jA w) (hw:WI T w) (s:Sp):jA (gM w s):=by
 have hN:jA (dm w):=⟨h.h⟩
 have hn:=IJ hw
 unfold gM lN
 repeat' split
 ·exact ae3 hN hn s
 ·exact xy (w:=kV (dm w) _) ⟨hN.h⟩ _ _
 ·exact hN
 ·exact⟨hN.h⟩
 ·exact hN
 ·exact⟨hN.h⟩
 ·exact hN
 ·exact⟨hN.h⟩
 ·unfold pN
  repeat' split
  all_goals first | exact hN | exact⟨hN.h⟩
 ·exact xy hN _ _
 ·exact Ue hN 4
 ·exact hN
theorem ae8 (hw:WI T w) (hT:T<700) (hn:jA w) (h:WJ G w) (s:Sp):∃ G',WJ G' (gM w s):=by
 have hN:=IJ hw
 have hJ:=aa6 h
 have hm:jA (dm w):=⟨hn.h⟩
 have pa:=lJ s.dg (n:=4) (by omega)
 have ha:cE s<4:=by unfold cE;omega
 have p3:=lJ s.n (n:=3) (by omega)
 have v0:=hw.v0
 have Bu:mH w s∈w.vs:=fi (wy (by omega))
 have hpk:0<w.af.length->ik w s<(dm w).af.length:=fun hl=>by
  have:=lJ s.n (n:=(w.af.length:Int)) (by omega)
  show(bM s.n w.af.length).toNat<w.af.length
  omega
 unfold gM lN
 repeat' split
 ·exact aeZ hN (by omega) hm hJ s
 ·rename_i hl;exact Xx hN hJ (hpk hl)
 ·exact⟨G,hJ⟩
 ·exact⟨G,Fh hJ (fun l hl=>List.mem_of_mem_eraseIdx hl)⟩
 ·exact⟨G,hJ⟩
 ·rename_i hl
  exact⟨G,Fh hJ (fun l hl2=>nN (P:=fun l=>l∈w.af) (fun l h=>h) (xp (hpk hl.1)) hl2)⟩
 ·exact⟨G,hJ⟩
 ·exact⟨G,adW hN hJ ha⟩
 ·exact⟨G,afY hN hJ s (by omega)⟩
 ·exact ahM hN hJ ha (v:=mH w s) Bu
 ·exact Ud hN (by omega) hJ 4 (av _)
 ·exact⟨G,hJ⟩
end
end Go.Proofs.YtfcjngcnifdmnaaGreat
namespace Go.Proofs.YtfcjngcnifdmnaaGreat.Hy
open Vc Go
open Go.IntKind renaming i64->Z,u8->ι,u32->ic
open Vc.V renaming any->γ,sl->δ,int->ε,sb->θ,ptr->aj,υ->aw,dat->aD,aa->aP,mp->aX,arr->bB,agg->fF
open Vc.D renaming val->ζ,sl->ψ
open Go.Value renaming int->ν,map->kq,oneCell'->lU,bool->nE
open Vc.KO renaming row->ξ,dead->χ,cells->ar,objs->cD
open List renaming map->φ,drop->ay,take->az,length_append->bn,getElem?_eq_getElem->bp,getElem?_eq_some_iff->bG,length_map->bX,take_length->cM,length_take->cQ,replicate->dq,mem_append->dM,append_assoc->dO,getElem?_append_left->dP,mem_singleton->dQ,Mem->dS,mem_cons->ey,mem_map->eL,take_of_length_le->eM,getElem?_append_right->eW,mem_of_getElem?->fi,append_nil->fD,getElem?_map->fE,mem_cons_of_mem->fM,length_drop->fQ,getElem?_set_ne->gr,getD_eq_getElem?_getD->gD,getElem?_eq_none->gO,drop_zero->g_,getElem?_take_of_lt->hU,getElem?_set_self->ig,length_singleton->ii,length_set->ir,mem_cons_self->iu,range->iw,mem_append_left->iL,length_cons->iZ,take_add_one->i_,flatten_cons->jm,getElem?_drop->jw,getElem?_of_mem->jx,map_append->jy,nil_append->jV,length_nil->kn,mem_filter->kM,ext_getElem?->lw,eq_nil_of_length_eq_zero->ma,map_cons->mb,mem_append_right->mc
open Nat renaming le_refl->av,zero_le->bt,beq->cp,eq_of_beq_eq_true->cU,zero_add->c9,add_assoc->gE,lor->iy,lt_or_ge->jX,sub_zero->lT,le_trans->mf
open Option renaming some->bb,bind_eq_some_iff->kP,map->mO
open Int renaming toNat_natCast->cP,le_refl->fa
open Bool renaming and_eq_true->km,not_eq_false'->lm,not_eq_true'->lR
set_option linter.unusedVariables false
set_option linter.unusedSimpArgs false
abbrev Call:=Int×Int×Int×Int
def dV (c:Call):Prop:=1<=c.1/\c.1<=3/\0<=c.2.2.1/\(c.2.2.2=-1∨c.2.2.1<=c.2.2.2)
def iM (a b:Call):Prop:=a.2.2.2≠-1/\a.2.2.2<b.2.2.1
def rS (c:Call):Prop:=c.1=3/\c.2.2.2=-1
def jK (c:Call) (v:Int):Int:=if c.1=1 then c.2.1 else if c.1=2 then 0 else v
def jD (c:Call) (v:Int):Prop:=c.1=1∨c.1=2∨c.2.1=v
def be (l:List Call) (k:Nat):Call:=l.getD k (0,0,0,0)
instance (c:Call):Decidable (dV c):=by unfold dV;infer_instance
instance (a b:Call):Decidable (iM a b):=by unfold iM;infer_instance
instance (c:Call):Decidable (rS c):=by unfold rS;infer_instance
instance (c:Call) (v:Int):Decidable (jD c v):=by unfold jD;infer_instance
def full (l:List Call) (m:Nat):Prop:=∀ k,k<l.length->(be l k).2.2.2≠-1->m.testBit k=true
def free (l:List Call) (m k:Nat):Prop:=m.testBit k=false/\¬ rS (be l k)/\∀ o,o<l.length->m.testBit o=false->¬ iM (be l o) (be l k)
def oT (m k:Nat):Nat:=m ||| 2 ^ k
theorem JZ (m k j:Nat):(oT m k).testBit j=(m.testBit j || decide (k=j)):=by
 unfold oT
 rw[Nat.testBit_or,Nat.testBit_two_pow]
def Ext (l:List Call):Nat->Int->List Nat->Prop
 |m,_,[]=>full l m
 |m,v,k::r=>k<l.length/\free l m k/\jD (be l k) v/\Ext l (oT m k) (jK (be l k) v) r
def mP (l:List Call):List Nat->Int->List Nat->Prop
 |_,_,[]=>True
 |p,v,k::r=>k<l.length/\k ∉ p/\¬ rS (be l k)/\jD (be l k) v/\(∀ j,j∈p->¬ iM (be l k) (be l j))/\mP l (p++[k]) (jK (be l k) v) r
def Lb (l:List Call) (o:List Nat):Prop:=∀ k,k<l.length->dV (be l k)/\((be l k).2.2.2≠-1->k∈o)
def w_ (l:List Call) (o:List Nat):Prop:=mP l [] 0 o/\Lb l o
theorem SX {l:List Call}:∀{r p:List Nat} {v:Int} {j o:Nat},mP l p v r->o∈r->j∈p->¬ iM (be l o) (be l j)
 | [],p,v,j,o,h,ho,hj=>by cases ho
 |k::r,p,v,j,o,h,ho,hj=>by
  obtain⟨_,_,_,_,h5,h6⟩:=h
  rcases ey.1 ho with rfl | ho
  ·exact h5 j hj
  ·exact SX h6 ho (iL _ hj)
theorem aa5 {c:Call} (h:dV c):¬ iM c c:=by unfold dV iM at*;omega
theorem N7 {l:List Call}:∀{r p:List Nat} {v:Int} {m:Nat},(∀ k,m.testBit k=true ↔ k∈p)->mP l p v r->Lb l (p++r)->Ext l m v r
 | [],p,v,m,hm,_,hc=>fun k hk he=>(hm k).2 (by simpa using(hc k hk).2 he)
 |k::r,p,v,m,hm,h,hc=>by
  obtain⟨h1,h2,h3,h4,h5,h6⟩:=h
  have qQ:∀ j,m.testBit j=false ↔ j ∉ p:=fun j=>by rw[<- hm j];simp
  refine⟨h1,⟨(qQ k).2 h2,h3,fun o ho hb ha=>?_⟩,h4,N7 (p:=p++[k]) (fun j=>?_) h6 (by rw[dO];exact hc)⟩
  ·have hop:o ∉ p:=(qQ o).1 hb
   by_cases hok:o=k
   ·subst hok;exact aa5 (hc o ho).1 ha
   ·have:o∈p++k::r:=(hc o ho).2 ha.1
    have:o∈r:=by
     rcases dM.1 this with h' | h'
     ·exact absurd h' hop
     ·rcases ey.1 h' with h' | h'
      ·exact absurd h' hok
      ·exact h'
    exact SX h6 this (by simp) ha
  ·rw[JZ,Bool.or_eq_true,hm j,dM,dQ,decide_eq_true_eq]
   exact or_congr Iff.rfl eq_comm
theorem S3 {l:List Call}:∀{r p:List Nat} {v:Int} {m:Nat},(∀ k,m.testBit k=true ↔ k∈p)->(∀ j,j∈p->∀ o,o<l.length->o ∉ p->¬ iM (be l o) (be l j))->Ext l m v r->
  mP l p v r/\(∀ k,k<l.length->(be l k).2.2.2≠-1->k∈p++r)
 | [],p,v,m,hm,hp,h=>⟨trivial,fun k hk he=>by simpa using(hm k).1 (h k hk he)⟩
 |k::r,p,v,m,hm,hp,h=>by
  obtain⟨h1,⟨f1,f2,f3⟩,h4,h5⟩:=h
  have qQ:∀ j,m.testBit j=false ↔ j ∉ p:=fun j=>by rw[<- hm j];simp
  have hk:k ∉ p:=(qQ k).1 f1
  obtain⟨k1,k2⟩:=S3 (p:=p++[k]) (fun j=>by
   rw[JZ,Bool.or_eq_true,hm j,dM,dQ,decide_eq_true_eq]
   exact or_congr Iff.rfl eq_comm) (fun j hj o ho hop=>by
   have Pr:o ∉ p:=fun h=>hop (iL _ h)
   rcases dM.1 hj with hj | hj
   ·exact hp j hj o ho Pr
   ·rw[dQ]at hj
    subst hj
    exact f3 o ho ((qQ o).2 Pr)) h5
  exact⟨⟨h1,hk,f2,h4,fun j hj=>hp j hj k h1 hk,k1⟩,by rw[dO]at k2;exact k2⟩
theorem vT {l:List Call}:(∀ c∈l,dV c) ↔ ∀ k,k<l.length->dV (be l k):=by
 constructor
 ·intro h k hk
  have:be l k=l[k]:=by unfold be;rw[gD,bp hk];rfl
  rw[this];exact h _ (List.getElem_mem hk)
 ·intro h c hc
  obtain⟨k,hk,rfl⟩:=List.getElem_of_mem hc
  have:be l k=l[k]:=by unfold be;rw[gD,bp hk];rfl
  rw[<- this];exact h k hk
theorem UT {l:List Call} {o:List Nat}:w_ l o ↔ (∀ c∈l,dV c)/\Ext l 0 0 o:=by
 constructor
 ·rintro⟨h1,h2⟩
  exact⟨vT.2 fun k hk=>(h2 k hk).1,N7 (p:=[]) (fun k=>by simp) h1 h2⟩
 ·rintro⟨h1,h2⟩
  obtain⟨k1,k2⟩:=S3 (p:=[]) (fun k=>by simp) (fun j hj=>by cases hj) h2
  exact⟨k1,fun k hk=>⟨vT.1 h1 k hk,k2 k hk⟩⟩
theorem SY {l:List Call}:∀{r p:List Nat} {v:Int},mP l p v r->∀ k∈r,k<l.length
 | [],_,_,_,_,hk=>by cases hk
 |k::r,p,v,h,j,hj=>by
  rcases ey.1 hj with rfl | hj
  ·exact h.1
  ·exact SY h.2.2.2.2.2 j hj
end Go.Proofs.YtfcjngcnifdmnaaGreat.Hy
namespace Go.Proofs.YtfcjngcnifdmnaaGreat
open Vc Go
open Go.IntKind renaming i64->Z,u8->ι,u32->ic
open Vc.V renaming any->γ,sl->δ,int->ε,sb->θ,ptr->aj,υ->aw,dat->aD,aa->aP,mp->aX,arr->bB,agg->fF
open Vc.D renaming val->ζ,sl->ψ
open Go.Value renaming int->ν,map->kq,oneCell'->lU,bool->nE
open Vc.KO renaming row->ξ,dead->χ,cells->ar,objs->cD
open List renaming map->φ,drop->ay,take->az,length_append->bn,getElem?_eq_getElem->bp,getElem?_eq_some_iff->bG,length_map->bX,take_length->cM,length_take->cQ,replicate->dq,mem_append->dM,append_assoc->dO,getElem?_append_left->dP,mem_singleton->dQ,Mem->dS,mem_cons->ey,mem_map->eL,take_of_length_le->eM,getElem?_append_right->eW,mem_of_getElem?->fi,append_nil->fD,getElem?_map->fE,mem_cons_of_mem->fM,length_drop->fQ,getElem?_set_ne->gr,getD_eq_getElem?_getD->gD,getElem?_eq_none->gO,drop_zero->g_,getElem?_take_of_lt->hU,getElem?_set_self->ig,length_singleton->ii,length_set->ir,mem_cons_self->iu,range->iw,mem_append_left->iL,length_cons->iZ,take_add_one->i_,flatten_cons->jm,getElem?_drop->jw,getElem?_of_mem->jx,map_append->jy,nil_append->jV,length_nil->kn,mem_filter->kM,ext_getElem?->lw,eq_nil_of_length_eq_zero->ma,map_cons->mb,mem_append_right->mc
open Nat renaming le_refl->av,zero_le->bt,beq->cp,eq_of_beq_eq_true->cU,zero_add->c9,add_assoc->gE,lor->iy,lt_or_ge->jX,sub_zero->lT,le_trans->mf
open Option renaming some->bb,bind_eq_some_iff->kP,map->mO
open Int renaming toNat_natCast->cP,le_refl->fa
open Bool renaming and_eq_true->km,not_eq_false'->lm,not_eq_true'->lR
set_option linter.unusedVariables false
set_option linter.unusedSimpArgs false
set_option maxRecDepth 100000
def mR (c:dD):Hy.Call:=(c.o.kd,c.v,c.bg,c.en)
def mQ (bk:Int) (c:dD):Bool:=decide (c.o.bk=bk/\c.o.kd≠4)
def eF (bk:Int) (cs:List dD):List dD:=cs.filter (mQ bk)
def RT (c:dD):Prop:=c.o.kd=3/\c.en=-1
structure DI (m:List dD) (o:Op) (k:Nat):Prop where
 h:∃ c,m[k]? =some c/\c.o=o/\¬ RT c
open Classical in
noncomputable def ud (m:List dD) (o:Op):Option Nat:=if h:∃ k,DI m o k then some h.choose else none
theorem BE {m:List dD} {o:Op} {k:Nat} (h:ud m o=some k):DI m o k:=by
 unfold ud at h
 split at h
 ·rename_i hx
  cases h;exact hx.choose_spec
 ·cases h
theorem PR {m:List dD} {o:Op} (h:ud m o=none) {k:Nat}:¬ DI m o k:=fun hk=>by
 unfold ud at h
 rw[dif_pos ⟨k,hk⟩]at h;cases h
noncomputable def mC (m:List dD) (L:List Op):List Nat:=L.filterMap (ud m)
theorem E8 {m:List dD} {k:Nat} {c:dD} (h:m[k]? =some c):Hy.be (m.map mR) k=mR c:=by
 unfold Hy.be
 rw[gD,fE,h];rfl
section
variable {vs:List Vw} {G:Gh} {cs:List dD} {now:Int} {bk:Int}
theorem Fk {c:dD} (h:c∈eF bk cs):c∈cs/\c.o.bk=bk/\c.o.kd≠4:=by
 unfold eF mQ at h
 rw[kM,decide_eq_true_eq]at h
 exact h
theorem WF (h:jv vs G cs now) {i j:Nat} {a b:dD} (hi:(eF bk cs)[i]? =some a) (hj:(eF bk cs)[j]? =some b) (e:a.o=b.o):i=j:=by
 obtain⟨li,ei⟩:=bG.1 hi
 obtain⟨lj,ej⟩:=bG.1 hj
 have hp:=List.pairwise_iff_getElem.1 (h.key.filter (mQ bk))
 rcases Nat.lt_trichotomy i j with c | c | c
 ·have:=hp i j li lj c
  exact absurd (show((eF bk cs)[i]).o.nm=((eF bk cs)[j]).o.nm by rw[ei,ej,e]) (this (show((eF bk cs)[i]).o.cl=((eF bk cs)[j]).o.cl by rw[ei,ej,e]))
 ·exact c
 ·have:=hp j i lj li c
  exact absurd (show((eF bk cs)[j]).o.nm=((eF bk cs)[i]).o.nm by rw[ei,ej,e]) (this (show((eF bk cs)[j]).o.cl=((eF bk cs)[i]).o.cl by rw[ei,ej,e]))
structure EF (vs:List Vw) (G:Gh) (L:List Op):Prop where
 lo:lu L
 ow:∃ e,L=G.lg e
 cm:∀ e n,Cm vs G e n->n<=L.length/\L.take n=(G.lg e).take n
theorem afU (hG:GI vs G) (hV:VI vs G) (hl:∀ e,lu (G.lg e)):∃ L,EF vs G L:=by
 have key:∀ d:Nat,(∀ e,G.act e->e<=(d:Int))->∃ L,EF vs G L:=fun d=>by
  induction d with
  |zero=>exact fun h=>⟨G.lg 0,hl 0,⟨0,rfl⟩,fun e n c=>by have:=h e c.a;have:=(hG.a0 e c.a).1;omega⟩
  |succ d ih=>
   intro h
   by_cases ha:G.act ((d+1:Nat):Int)
   ·refine⟨G.lg ((d+1:Nat):Int),hl _,⟨_,rfl⟩,fun e n c=>?_⟩
    have he:=h e c.a
    rcases(by omega:e=((d+1:Nat):Int)∨e<((d+1:Nat):Int))with q | q
    ·subst q;exact⟨c.nl,rfl⟩
    ·obtain⟨k1,k2⟩:=FN hG hV c _ _ (av _) ha q
     exact⟨mf k1 (hG.bl _ ha),k2⟩
   ·refine ih fun e a=>?_
    have:=h e a
    rcases(by omega:e=((d+1:Nat):Int)∨e<=(d:Int))with q | q
    ·exact absurd (by rw[<- q];exact a) ha
    ·exact q
 exact key vs.length fun e a=>(hG.a0 e a).2
theorem Uu {v:Int} {o:Op} (h:o.bk≠bk∨(o.kd≠1/\o.kd≠2)):rT bk v o=v:=by
 unfold rT
 split
 ·rcases h with h | h
  ·exact absurd ‹_› h
  ·rw[if_neg h.1,if_neg h.2]
 ·rfl
theorem RV (h:jv vs G cs now) {L:List Op} (hT:EF vs G L):∀(S P:List Op),L=P++S->Hy.mP ((eF bk cs).map mR) (mC (eF bk cs) P) (ju bk P) (mC (eF bk cs) S)
 | [],P,_=>trivial
 |o::S,P,hL=>by
  have ih:=RV h hT S (P++[o]) (by rw[hL,dO];rfl)
  have da:L[P.length]? =some o:=by rw[hL];simp
  have Zz:o∈L:=fi da
  obtain⟨eo,Y5⟩:=hT.ow
  obtain⟨c0,hc0,e0⟩:=h.ow eo o (Y5 ▸ Zz)
  cases hx:ud (eF bk cs) o with
  |none=>
   have e1:mC (eF bk cs) (o::S)=mC (eF bk cs) S:=by unfold mC;rw[List.filterMap_cons_none hx]
   have e2:mC (eF bk cs) (P++[o])=mC (eF bk cs) P:=by unfold mC;rw[List.filterMap_append,List.filterMap_cons_none hx];simp
   have e3:ju bk (P++[o])=ju bk P:=by
    rw[wA]
    refine Uu ?_
    by_cases c1:o.bk=bk
    ·right
     by_cases c2:o.kd=4
     ·omega
     ·have hm:c0∈eF bk cs:=by
       unfold eF mQ
       rw[kM,decide_eq_true_eq]
       exact⟨hc0,by rw[e0];exact c1,by rw[e0];exact c2⟩
      obtain⟨k,hk⟩:=jx hm
      have hop:RT c0:=Classical.byContradiction fun t=>PR hx ⟨c0,hk,e0,t⟩
      have:=hop.1
      rw[e0]at this
      omega
    ·exact .inl c1
   rw[e1];rw[e2,e3]at ih;exact ih
  |some k=>
   obtain⟨c,hk,rfl,hop⟩:=BE hx
   have hc:=Fk (fi hk)
   have e1:mC (eF bk cs) (c.o::S)=k::mC (eF bk cs) S:=by unfold mC;rw[List.filterMap_cons_some hx]
   have e2:mC (eF bk cs) (P++[c.o])=mC (eF bk cs) P++[k]:=by unfold mC;rw[List.filterMap_append,List.filterMap_cons_some hx];simp
   have hat:=E8 hk
   obtain⟨i,hi⟩:=jx hc.1
   have hs:=h.sh i c hi
   have Hp:=h.ln
   have hil:=(bG.1 hi).1
   have iQ:=(bG.1 hk).1
   have hpos:∀ j,L[j]? =some c.o->j=P.length:=fun j hj=>hT.lo.uniq hj da hc.2.2
   have vA:c.en≠-1->∃ n,P.length<n/\n<=L.length/\(∀ c'∈cs,c'.o∈L.take n->c'.bg<=c.en)/\(c.o.kd=3->P=L.take (n - 1)/\c.v=ju bk (L.take n)):=fun he=>by
    obtain⟨e,n,c1,c2,c3,c4⟩:=h.en c hc.1 he hc.2.2
    obtain⟨k1,k2⟩:=hT.cm e n c1
    have n1:=c1.n1
    rw[<- k2]at c2 c3 c4
    obtain⟨j,hj⟩:=jx c2
    have hjn:=(bG.1 hj).1
    rw[cQ]at hjn
    have hj':=hpos j (by rw[hU (by omega)]at hj;exact hj)
    refine⟨n,by omega,k1,c3,fun t=>?_⟩
    obtain⟨d1,d2⟩:=c4 t
    have d1':L[n - 1]? =some c.o:=by
     have:(L.take n)[n - 1]? =((G.lg e).take n)[n - 1]?:=by rw[k2]
     rw[hU (by omega),hU (by omega)]at this
     rw[this];exact d1
    have:=hpos _ d1'
    exact⟨by rw[this,hL,List.take_left],by rw[d2,hc.2.1]⟩
   rw[e1]
   refine⟨by rw[bX];exact iQ,fun hm=>?_,?_,?_,fun j hj ha=>?_,?_⟩
   ·obtain⟨o',ho',hx'⟩:=List.mem_filterMap.1 hm
    obtain⟨c',hk',e',_⟩:=BE hx'
    rw[hk]at hk';cases hk'
    subst e'
    obtain⟨j,hj⟩:=jx ho'
    have hjl:=(bG.1 hj).1
    have:=hpos j (by rw[hL,dP hjl];exact hj)
    omega
   ·rw[hat];exact hop
   ·rw[hat]
    have k0:=hs.k0
    have k1:=hs.k1
    have k4:=hc.2.2
    show c.o.kd=1∨c.o.kd=2∨c.v=ju bk P
    rcases(by omega:c.o.kd=1∨c.o.kd=2∨c.o.kd=3)with q | q | q
    ·exact .inl q
    ·exact .inr (.inl q)
    ·obtain⟨n,n1,n2,n3,n4⟩:=vA (fun t=>hop ⟨q,t⟩)
     obtain⟨p1,p2⟩:=n4 q
     refine .inr (.inr ?_)
     have e3:L.take n=P++[c.o]:=by
      have qU:P.length=n - 1:=by
       have:=congrArg List.length p1
       rw[cQ]at this;omega
      rw[hL,show n=P.length+1 by omega,List.take_append,eM (by omega)]
      simp
     rw[p2,e3,wA,Uu (.inr ⟨by omega,by omega⟩)]
   ·obtain⟨o',ho',hx'⟩:=List.mem_filterMap.1 hj
    obtain⟨c',hk',e',_⟩:=BE hx'
    rw[hat,E8 hk']at ha
    obtain⟨a1,a2⟩:=ha
    obtain⟨n,n1,n2,n3,_⟩:=vA a1
    have a2:c.en<c'.bg:=a2
    have:=n3 c' (Fk (fi hk')).1 (by
     rw[e',hL,List.take_append]
     exact iL _ (by rw[eM (by omega)];exact ho'))
    omega
   ·have hv:Hy.jK (Hy.be ((eF bk cs).map mR) k) (ju bk P)=ju bk (P++[c.o]):=by
     rw[hat,wA]
     unfold Hy.jK rT mR
     dsimp only
     rw[if_pos hc.2.1]
     by_cases q:c.o.kd=1
     ·rw[if_pos q,if_pos q,(hs.w q).1,(hs.w q).2,IX (by omega)]
     ·rw[if_neg q,if_neg q]
    rw[hv,<- e2];exact ih
theorem ahW (hG:GI vs G) (hV:VI vs G) (h:jv vs G cs now) (bk:Int):∃ r,Hy.w_ ((eF bk cs).map mR) r:=by
 obtain⟨L,hT⟩:=afU hG hV h.lo
 refine⟨mC (eF bk cs) L,RV h hT L [] rfl,fun k hk=>?_⟩
 rw[bX]at hk
 have hg:(eF bk cs)[k]? =some (eF bk cs)[k]:=bp hk
 generalize (eF bk cs)[k]=c at hg
 have hc:=Fk (fi hg)
 obtain⟨i,hi⟩:=jx hc.1
 have hs:=h.sh i c hi
 have ht:=h.tm c hc.1
 rw[E8 hg]
 have k0:=hs.k0
 have k1:=hs.k1
 have k4:=hc.2.2
 refine⟨⟨k0,by show c.o.kd<=3;omega,ht.b0,ht.e.imp id (fun t=>t.1)⟩,fun he=>?_⟩
 have he:c.en≠-1:=he
 obtain⟨e,n,c1,c2,_⟩:=h.en c hc.1 he k4
 obtain⟨m1,m2⟩:=hT.cm e n c1
 rw[<- m2]at c2
 refine List.mem_filterMap.2 ⟨c.o,List.mem_of_mem_take c2,?_⟩
 cases hx:ud (eF bk cs) c.o with
 |none=>exact absurd ⟨c,hg,rfl,fun t=>he t.2⟩ (PR hx (k:=k))
 |some k'=>
  obtain⟨c',hk',e',_⟩:=BE hx
  rw[WF h hk' hg e']
end
def oM (i:Nat):List κ:=(iw i).map fun(k:Nat)=>newR (k:Int) 5 false 0 0 jR []
def ky (i:Nat):Wd:=⟨oM i,(oM i).map f_,[⟨5,1,1,[0,1],[]⟩],[],[],[0,0,0],0,true⟩
structure wR where
 i:Nat
 W:Wd
 q:List (Nat×Nat)
 A:List (Sg×KB)
structure zB (x:wR):Prop where
 le:x.i<=4
 W:x.W=ky x.i
 p:PW x.A x.q x.W.R
abbrev y_ (w:Wd) (q:List (Nat×Nat)) (A:List (Sg×KB)):KB:=[cD A,jN 2 w,kD q,kX w,kE w,kg w,lL w,lM w]
def mdN:List jz:=[.cell 1 0 30 1,.cell 1 1 23 1,.cell 1 3 73 3,.cell 1 4 61 10]
abbrev Ih:LI where
 α:={x:wR // zB x}
 live:=[1,2]
 dU:=mdN
 st x:=([aj 1 0,.int Z (x.1.i:Int)],y_ x.1.W x.1.q x.1.A)
 μ x:=4 - x.1.i
def Qo:FuncId->Nat->Option LI
 | 8,3=>some Ih
 |_,_=>none
def IV (S:aE):aE:=fun args kb K=>match kb with
 | []=>S args [cD []] K
 |kb=>S args kb K
def Ee:aE:=fun args kb K=>match args,kb with
 | [],[cD A]=>∃ l,cW A l/\∀ W,W=ky 4->∀ q A',PW A' q W.R->K (aj 1 0) (y_ W q A')
 |_,_=>False
theorem agR (A:List (Sg×KB)) (K:V->KB->Prop) (an:
 let ω:=ζ (ν Z 1);let η:=[ζ (ν Z 0)];2<=2/\
 At Ih ([aj 1 0,ε Z 0],[cD A,ar [δ 2 0 0,δ 3 0 0,δ 4 0 1,δ 5 0 0,δ 6 0 0,δ 7 0 3,ε Z 0,θ true],ξ 30 1 [],ξ 23 1 [],ξ 49 5 [[ζ (ν Z 5),ω,ω,ψ 1 [η,[ω]],ψ 1 []]],ξ 73 3 [],ξ 61 10 [],ξ 3 1 [η,η,η]])/\
 ∀(i:{x:wR // zB x }),let bj:=ξ 49 5 (φ dL i.val.W.vs);let aO:=ξ 61 10 (φ cF i.val.W.cs);let aC:=ξ 73 3 (φ cH i.val.W.af);let aH:=ξ 3 1 (ints Z i.val.W.aW);let au:=(φ bx i.val.W.dk);(decide ((↑i.val.i:Int)<4)=true->
 ∃(A:List (Sg×KB)),∃(l:List (Nat×κ)),wP [cD i.val.A] A/\
 cW A l/\
 ∀(b:Nat) (A':List (Sg×KB)),cW A' (l++[(b,newR (↑i.val.i:Int) 5 false 0 0 jR [])])->
 (false=true->
 K (γ (Value.pointer none)) [cD A'])/\
 (false=false->
 1<=1/\
 i.val.W.R.length<=(φ cj i.val.q).length/\
 (i.val.W.R.length+1)*8<=140737488355328/\
 True/\
 ∃(l:List (Nat×κ)),∃(i_1:Nat),∃(b_1:Nat),∃(R:κ),cW A' l/\
 l[i_1]? =some (b_1,R)/\
 pv b=pv b_1/\
 jB []/\
 bA R/\
 jk R.ep/\
 ∀(A':List (Sg×KB)),cW A' (l.set i_1 (b_1,R))->
 True/\
 1<=1/\
 i.val.W.dk.length<=au.length/\
 (i.val.W.dk.length+1)*24<=140737488355328/\
 Nx Ih i ([aj 1 0,ε Z (Z.wrap ((↑i.val.i:Int)+1))],[cD A',ar [δ 2 0 (i.val.W.R.length+1),δ 3 0 (i.val.W.dk.length+1),δ 4 0 i.val.W.vs.length,δ 5 0 i.val.W.af.length,δ 6 0 i.val.W.cs.length,δ 7 0 i.val.W.aW.length,ε Z i.val.W.now,θ i.val.W.ok],ξ 30 1 (az i.val.W.R.length (φ cj i.val.q)++[[ζ (pv b)]]),ξ 23 1 (az i.val.W.dk.length au++[[ψ 1 (ints ι (f_ R))]]),bj,aC,aO,aH])))/\
 (decide ((↑i.val.i:Int)<4)=false->
 K (aj 1 0) [cD i.val.A,ar [δ 2 0 i.val.W.R.length,δ 3 0 i.val.W.dk.length,δ 4 0 i.val.W.vs.length,δ 5 0 i.val.W.af.length,δ 6 0 i.val.W.cs.length,δ 7 0 i.val.W.aW.length,ε Z i.val.W.now,θ i.val.W.ok],ξ 30 1 (φ cj i.val.q),ξ 23 1 au,bj,aC,aO,aH])
 ):aI Tryz.prog EO (Qo 8) 8 [] [cD A] (dp 1 K):=by apply Eq.mp (a:=an);kernel_rfl
theorem abc {P:Program} {f:FuncId} {S:aE} (hS:aN P f S):aN P f (IV S):=fun args kb K h σ E W xs hi hd=>by
 unfold IV at h
 split at h
 ·have hl:=hi.len
  have Z8:σ=[]:=List.length_eq_zero_iff.1 (by rw[hl];rfl)
  subst Z8
  have hno:∀ b,¬ cq ([⟨0,0,0⟩]:Sg) [cD []] b:=by
   rintro b ⟨i,r,o,h1,h2,h3⟩
   cases i with
   |zero=>
    simp at h2;subst h2
    obtain⟨a,ha,_⟩:=h3
    cases ha
   |succ i=>simp at h2
  have hs:Step [] E [] W ([⟨0,0,0⟩]:Sg) E [cD []] W:=by
   refine⟨⟨rfl,fun i r o h1 h2=>?_,fun i j r r' o o' b hij h1 h2 h3 h4 h5 h6=>(hno b ⟨i,r,o,h1,h2,h5⟩).elim,hi.dj,fun b hb=>(hno b hb).elim⟩,tu.refl _ _,⟨_,rfl⟩,EH.le.refl E,fun b hb=>(hno b hb).elim,fun b o hb=> .inl hb⟩
   cases i with
   |zero=>
    simp at h2;subst h2
    exact⟨fun a ha=>(by cases ha),fun i j a a' b hij h=>by simp at h⟩
   |succ i=>simp at h2
  have hd2:aq ([⟨0,0,0⟩]:Sg) E args xs:=by
   have:=aq.mono (σ:=[]) (τ:=[⟨0,0,0⟩]) (EH.le.refl E) hd
   simpa using this
  refine(hS _ _ _ h _ E W xs hs.inv hd2).mono ?_
  rintro e W' ⟨v,r,σ',E',kb',h1,h2,h3,h4⟩
  exact⟨v,r,σ',E',kb',h1,hs.trans h2,h3,h4⟩
 ·exact hS _ _ _ h σ E W xs hi hd
theorem Qs (i:Nat):oM (i+1)=oM i++[newR (i:Int) 5 false 0 0 jR []]:=by unfold oM;rw[List.range_succ,jy];rfl
theorem yf (i:Nat):(oM i).length=i:=by unfold oM;rw[bX,List.length_range]
theorem Xs (l:List (Nat×κ)):CU l [] []:=⟨rfl,fun i p h=>by simp at h,List.Pairwise.nil⟩
theorem CU.app {l:List (Nat×κ)} {q:List (Nat×Nat)} {R:List κ} (h:CU l q R) (b:Nat) (r:κ):CU (l++[(b,r)]) (q++[(l.length,b)]) (R++[r]):=by
 have hlt:∀(j:Nat) (p:Nat×Nat),q[j]? =some p->p.1<l.length:=fun j p hj=>by
  obtain⟨_,_,h2⟩:=h.a j p hj
  exact(bG.1 h2).1
 refine⟨by simp [h.len],fun j p hj=>?_,?_⟩
 ·rcases Nat.lt_trichotomy j q.length with hm | hm | hm
  ·rw[dP hm]at hj
   obtain⟨r2,h1,h2⟩:=h.a j p hj
   exact⟨r2,by rw[dP (by rw[<- h.len];exact hm)];exact h1,by rw[dP (hlt j p hj)];exact h2⟩
  ·subst hm
   rw[eW (av _)]at hj
   simp at hj;subst hj
   exact⟨r,by rw[eW (by rw[h.len];exact av _)];simp [h.len],by rw[eW (av _)];simp⟩
  ·rw[gO (by simp;omega)]at hj;cases hj
 ·rw[jy]
  refine List.nodup_append.2 ⟨h.nd,by simp,fun x hx y hy=>?_⟩
  rw[mb,List.map_nil,dQ]at hy
  obtain⟨p,hp,rfl⟩:=eL.1 hx
  obtain⟨j,hj⟩:=jx hp
  have:=hlt j p hj
  rw[hy];show p.1≠l.length;omega
theorem abQ:aN Tryz.prog 8 Ee:=kY Mm mixed (fun args kb K h=>by
 unfold Ee at h;split at h<;>try exact h.elim
 rename_i A
 obtain⟨l,hA,h⟩:=h
 refine⟨Qo 8,agR A K ⟨av _,At.mk' (⟨⟨0,ky 0,[],A⟩,bt _,rfl,⟨l,hA,Xs l⟩⟩:{x:wR // zB x}) rfl,?_⟩⟩
 rintro⟨⟨i,W,q1,A1⟩,hi,hW,P1⟩
 dsimp only at hi hW P1 ⊢
 subst hW
 obtain⟨l1,Yv,lY⟩:=P1.h
 have OJ:(ky i).R.length=i:=yf i
 have hDl:(ky i).dk.length=i:=by show((oM i).map f_).length=i;rw[bX,yf]
 have Pu:q1.length=i:=by rw[lY.len];exact yf i
 rw[OJ,hDl]
 refine⟨fun hlt=>⟨A1,l1,⟨.inr rfl⟩,Yv,fun b A2 p2=>⟨fun t=>(by cases t),fun _=>⟨av _,by rw[bX,Pu];exact av _,by omega,trivial,_,l1.length,b,newR (i:Int) 5 false 0 0 jR [],p2,by simp,rfl,⟨rfl⟩,B0 _ _ _ _ (fa _) (by omega) rfl K4 I6,⟨by show(0:Int)<=_;omega⟩,fun A3 p3=>⟨trivial,av _,by rw[bX,hDl];exact av _,by omega,?_⟩⟩⟩⟩,fun hge=>?_⟩
 ·have hlt:i<4:=by rw[decide_eq_true_eq]at hlt;omega
  have dT:(l1++[(b,newR (i:Int) 5 false 0 0 jR [])]).set l1.length (b,newR (i:Int) 5 false 0 0 jR [])=l1++[(b,newR (i:Int) 5 false 0 0 jR [])]:=by
   rw[List.set_append_right _ _ (av _),Nat.sub_self];rfl
  rw[dT]at p3
  refine Nx.mk' (⟨⟨i+1,ky (i+1),q1++[(l1.length,b)],A3⟩,hlt,rfl,⟨_,p3,by show CU _ _ (oM (i+1));rw[Qs];exact lY.app b _⟩⟩:{x:wR // zB x}) ?_ (by show 4 - (i+1)<4 - i;omega)
  have e1:(ky (i+1)).R.length=i+1:=yf _
  have e2:(ky (i+1)).dk.length=i+1:=by show((oM (i+1)).map f_).length=_;rw[bX,yf]
  have e3:(ky (i+1)).dk.map bx=az i ((ky i).dk.map bx)++[[ψ 1 (ints ι (f_ (newR (i:Int) 5 false 0 0 jR [])))]]:=by
   rw[eM (by rw[bX,hDl];exact av _)]
   show((oM (i+1)).map f_).map bx=((oM i).map f_).map bx++_
   rw[Qs,jy,jy];rfl
  have e4:(q1++[(l1.length,b)]).map cj=az i (q1.map cj)++[[ζ (pv b)]]:=by
   rw[eM (by rw[bX,Pu];exact av _),jy];rfl
  show(_,_)=(_,y_ (ky (i+1)) (q1++[(l1.length,b)]) A3)
  unfold y_ jN kX kD
  rw[e1,e2,e3,e4,bD (by omega) (by omega)]
  rfl
 ·have hi:i=4:=by rw[decide_eq_false_iff_not]at hge;omega
  subst hi
  have:=h _ rfl q1 A1 P1
  unfold y_ jN at this
  rw[OJ,hDl]at this
  exact this)
def LR:aE:=IV Ee
theorem abP:aN Tryz.prog 8 LR:=abc abQ
theorem Qt:WI 1 (ky 4):=by
 have hr:∀ i,i<4->ax (ky 4) i=newR (i:Int) 5 false 0 0 jR []:=fun i hi=>by
  rcases i with _ | _ | _ | _ | i
  ·rfl
  ·rfl
  ·rfl
  ·rfl
  ·omega
 refine⟨rfl,rfl,fun i hi=>?_,fun i hi=>?_,fun v hv=>?_,by decide,by decide,fun l hl=>(by cases hl),by decide,fun c hc=>(by cases hc),by decide,rfl,fun n hn=>?_,by decide,by decide⟩
 ·rw[hr i hi]
  exact⟨⟨B0 _ _ _ _ (fa _) (by omega) rfl K4 I6,rfl,fa _,by show(0:Int)<=1;omega,by show(0:Int)<=1;omega,bt _,fa _,by show(0:Int)<=1;omega,fun p hp=>(by cases hp),fun d hd=>(by cases hd),fun o ho=>by simp [newR,cw]at ho⟩,rfl,rfl,rfl,rfl⟩
 ·rw[hr i hi]
  rcases i with _ | _ | _ | _ | i
  ·rfl
  ·rfl
  ·rfl
  ·rfl
  ·omega
 ·have hv:v∈[(⟨5,1,1,[0,1],[]⟩:Vw)]:=hv
  rw[dQ]at hv;subst hv
  exact⟨by decide,by decide,by decide,by decide,by decide,by decide⟩
 ·have hn:n∈[(0:Int),0,0]:=hn
  simp only[ey,List.not_mem_nil,or_false]at hn;omega
def nX (s:Sp):List D:=[dn Z s.d,dn Z s.dg,dn Z s.n,dn Z s.k,db s.ag]
noncomputable def rH (l:List Sp):Wd:=l.foldl gM (ky 4)
structure zw (l:List Sp) (x:pQ):Prop where
 le:x.i<=l.length
 W:x.W=rH (l.take x.i)
 p:PW x.A x.q x.W.R
theorem On:∀(l:List Sp) {w:Wd} {T:Int},WI T w->T+3*(l.length:Int)<=690->WI (T+3*(l.length:Int)) (l.foldl gM w)
 | [],w,T,h,_=>h.mono (by simp)
 |s::l,w,T,h,ht=>by
  rw[iZ]at ht
  exact(On l (Kh h (by omega) s).2 (by omega)).mono (by rw[iZ];omega)
theorem aeq {l:List Sp} {i:Nat} (h:i<l.length):rH (l.take (i+1))=gM (rH (l.take i)) l[i]:=by
 unfold rH
 rw[i_,bp h,List.foldl_append];rfl
theorem Wh {α:Type} {l:List α} {i:Nat} {x:α} (y:α) (h:l[i]? =some x):(l++[y])[i]? =some x:=by
 rw[dP (bG.1 h).1];exact h
theorem CU.grow {l:List (Nat×κ)} {q:List (Nat×Nat)} {R:List κ} (h:CU l q R) (y:Nat×κ):CU (l++[y]) q R:=
 ⟨h.len,fun j p hj=>by
  obtain⟨r2,h1,h2⟩:=h.a j p hj
  exact⟨r2,h1,Wh y h2⟩,h.nd⟩
theorem Xi {x:List D} (h:gC [.int Z,.int Z,.int Z,.int Z,.bool] x):∃ a:Sp,x=nX a/\True:=by
 simp only[gC,th]at h
 obtain⟨_,_,rfl,⟨a,rfl,_⟩,_,_,rfl,⟨b,rfl,_⟩,_,_,rfl,⟨c,rfl,_⟩,_,_,rfl,⟨d,rfl,_⟩,_,_,rfl,⟨e,rfl⟩,rfl⟩:=h
 exact⟨⟨a,b,c,d,e⟩,rfl,trivial⟩
def Yj:Gh:=⟨fun _=>False,fun _=>0,fun _=>0,fun _=>[],fun _ _=>0⟩
theorem aaS:WJ Yj (ky 4):=by
 refine⟨⟨fun e a=>a.elim,fun e _=>rfl,fun x e _=>rfl,fun e a=>a.elim,fun e a=>a.elim,fun e a=>a.elim,fun e a=>a.elim,fun e a=>a.elim,fun e a=>a.elim,fun x e=>av _,fun e a=>a.elim⟩,⟨fun i v hi=>?_,fun v hv=>?_,fun v hv=>?_,fun i v v' h1 h2=>?_⟩,fun i hi=>?_,fun l hl=>(by cases hl),⟨List.Pairwise.nil,bt _,fa _,fun i c hi=>(by have hi:([]:List dD)[i]? =some c:=hi;simp at hi),fun c hc=>(by cases hc),fun e o ho=>(by cases ho),fun e=> .nil,fun c hc=>(by cases hc)⟩,rfl⟩
 ·have hi:[(⟨5,1,1,[0,1],[]⟩:Vw)][i]? =some v:=hi
  rcases i with _ | i
  ·cases hi;exact⟨rfl,rfl⟩
  ·simp at hi
 ·have hv:v∈[(⟨5,1,1,[0,1],[]⟩:Vw)]:=hv
  rw[dQ]at hv;subst hv;decide
 ·have hv:v∈[(⟨5,1,1,[0,1],[]⟩:Vw)]:=hv
  rw[dQ]at hv;subst hv;decide
 ·have h2:[(⟨5,1,1,[0,1],[]⟩:Vw)][i+1]? =some v':=h2
  simp at h2
 ·have hr:ax (ky 4) i=newR (i:Int) 5 false 0 0 jR []:=by
   rcases i with _ | _ | _ | _ | i
   ·rfl
   ·rfl
   ·rfl
   ·rfl
   ·omega
  rw[hr]
  exact⟨rfl,rfl,rfl,rfl,fa _,fa _,fun h=>absurd rfl h,fa _,rfl,rfl,fun _ _=>rfl,fun e a=>a.elim,.inl rfl,fun L hL=>sP hL⟩
theorem aaT:jA (ky 4):=⟨fun c hc=>by cases hc⟩
theorem Oo:∀(l:List Sp) {w:Wd} {T:Int} {G:Gh},WI T w->jA w->WJ G w->T+3*(l.length:Int)<=690->∃ G',WJ G' (l.foldl gM w)
 | [],w,T,G,_,_,h,_=>⟨G,h⟩
 |s::l,w,T,G,hw,hn,h,ht=>by
  rw[iZ]at ht
  obtain⟨G',h'⟩:=ae8 hw (by omega) hn h s
  exact Oo l (Kh hw (by omega) s).2 (ae9 hn hw s) h' (by omega)
theorem SW {l:List Sp} (h:l.length<=120):∃ G,WJ G (rH l):=Oo l Qt aaT aaS (by omega)
theorem aeo {l:List Sp} (h:l.length<=120):WI (1+3*(l.length:Int)) (rH l):=On l Qt (by omega)
end Go.Proofs.YtfcjngcnifdmnaaGreat
namespace Go.Proofs.YtfcjngcnifdmnaaGreat.Hy
open Vc Go
open Go.IntKind renaming i64->Z,u8->ι,u32->ic
open Vc.V renaming any->γ,sl->δ,int->ε,sb->θ,ptr->aj,υ->aw,dat->aD,aa->aP,mp->aX,arr->bB,agg->fF
open Vc.D renaming val->ζ,sl->ψ
open Go.Value renaming int->ν,map->kq,oneCell'->lU,bool->nE
open Vc.KO renaming row->ξ,dead->χ,cells->ar,objs->cD
open List renaming map->φ,drop->ay,take->az,length_append->bn,getElem?_eq_getElem->bp,getElem?_eq_some_iff->bG,length_map->bX,take_length->cM,length_take->cQ,replicate->dq,mem_append->dM,append_assoc->dO,getElem?_append_left->dP,mem_singleton->dQ,Mem->dS,mem_cons->ey,mem_map->eL,take_of_length_le->eM,getElem?_append_right->eW,mem_of_getElem?->fi,append_nil->fD,getElem?_map->fE,mem_cons_of_mem->fM,length_drop->fQ,getElem?_set_ne->gr,getD_eq_getElem?_getD->gD,getElem?_eq_none->gO,drop_zero->g_,getElem?_take_of_lt->hU,getElem?_set_self->ig,length_singleton->ii,length_set->ir,mem_cons_self->iu,range->iw,mem_append_left->iL,length_cons->iZ,take_add_one->i_,flatten_cons->jm,getElem?_drop->jw,getElem?_of_mem->jx,map_append->jy,nil_append->jV,length_nil->kn,mem_filter->kM,ext_getElem?->lw,eq_nil_of_length_eq_zero->ma,map_cons->mb,mem_append_right->mc
open Nat renaming le_refl->av,zero_le->bt,beq->cp,eq_of_beq_eq_true->cU,zero_add->c9,add_assoc->gE,lor->iy,lt_or_ge->jX,sub_zero->lT,le_trans->mf
open Option renaming some->bb,bind_eq_some_iff->kP,map->mO
open Int renaming toNat_natCast->cP,le_refl->fa
open Bool renaming and_eq_true->km,not_eq_false'->lm,not_eq_true'->lR
set_option linter.unusedVariables false
set_option linter.unusedSimpArgs false
set_option maxRecDepth 100000
def bL (c:Call):List D:=[dn Z c.1,dn Z c.2.1,dn Z c.2.2.1,dn Z c.2.2.2]
abbrev sK (l:List Call) (M:ML) (h:Nat) (R:List (List D)):KB:=[ar [aD (.sl 4 (l.map bL)),.mp 1,.sl 2 0 h],.mp [Z,Z] true false 1 M,ξ 3 1 R]
abbrev AP (l:List Call) (m:Nat) (M:ML) (h:Nat) (R:List (List D)):LI where
 α:={i:Nat // i<=l.length/\∀ k,k<i->(be l k).2.2.2≠-1->m.testBit k=true}
 live:=[1,10,11,12]
 st i:=([.int Z (m:Int),aD (.sl 4 (l.map bL)),.int Z (l.length:Int),.int Z (i.1:Int)],sK l M h R)
 μ i:=l.length - i.1
abbrev AX (l:List Call) (m k:Nat) (M:ML) (h:Nat) (R:List (List D)):LI where
 α:={i:Nat // i<=l.length/\∀ o,o<i->m.testBit o=false->¬ iM (be l o) (be l k)}
 live:=[0,1,2,39,40,41]
 st i:=([aj 0 0,.int Z (m:Int),.int Z (k:Int),aD (.sl 4 (l.map bL)),.int Z (l.length:Int),.int Z (i.1:Int)],sK l M h R)
 μ i:=l.length - i.1
abbrev Ou (l:List Call) (m k:Nat) (M:ML) (h:Nat) (R:List (List D)):LI where
 α:={i:Nat // i=0/\m.testBit k=false/\¬ rS (be l k)}
 live:=[0,1,2]
 st i:=([aj 0 0,.int Z (m:Int),.int Z (k:Int)],sK l M h R)
 μ i:=0
def j6 (l:List Call) (m k:Nat) (M:ML) (h:Nat) (R:List (List D)):FuncId->Nat->Option LI
 | 106,2=>some (AP l m M h R)
 | 108,4=>some (AX l m k M h R)
 | 108,1003=>some (Ou l m k M h R)
 |_,_=>none
abbrev G0 (o:List Int) (v:Int):LI where
 α:={i:Nat // i<=o.length/\v ∉ o.take i}
 live:=[0,1,5]
 st i:=([aD (.sl 1 (ints Z o)),.int Z v,.int Z (i.1:Int)],[])
 μ i:=o.length - i.1
def OM (o:List Int) (v:Int):FuncId->Nat->Option LI
 | 81,2=>some (G0 o v)
 |_,_=>none
def uZ:aE:=fun args kb K=>match args,kb with
 | [.agg [.int Z a,.int Z b,.int Z c,.int Z d]],[]=>K (θ (decide (dV (a,b,c,d)))) []
 |_,_=>False
def uX:aE:=fun args kb K=>match args,kb with
 | [.agg [.int Z a,.int Z b,.int Z c,.int Z d],.int Z v],[]=>K (.υ [.int Z (jK (a,b,c,d) v),θ (decide (jD (a,b,c,d) v))]) []
 |_,_=>False
def DV:aE:=fun args kb K=>match args,kb with
 | [.agg [.int Z a,.int Z b,.int Z c,.int Z d],.agg [.int Z a',.int Z b',.int Z c',.int Z d']],[]=>K (θ (decide (iM (a,b,c,d) (a',b',c',d')))) []
 |_,_=>False
def tr:aE:=fun args kb K=>match args,kb with
 | [aD (.sl 1 O),.int Z v],[]=>∃ o:List Int,O=ints Z o/\Sm o/\K (θ (decide (v∈o))) []
 |_,_=>False
def rK:FuncId->Option dA
 | 79=>some ⟨[],uZ⟩
 | 82=>some ⟨[],uZ⟩
 | 107=>some ⟨[],uX⟩
 | 116=>some ⟨[],DV⟩
 | 81=>some ⟨[.fI 1],tr⟩
 |_=>none
noncomputable def pS:bJ:=dG Tryz.prog rK aG 10
theorem ahe (a b c d:Int) (K:V->KB->Prop) (an:
 (decide (a ≥ 1)=true->
 (decide (a<=3)=true->
 (decide (c ≥ 0)=true->
 ((d == -1)=true->
 K (θ true) [])/\
 ((d == -1)=false->
 K (θ (decide (d ≥ c))) []))/\
 (decide (c ≥ 0)=false->
 K (θ false) []))/\
 (decide (a<=3)=false->
 K (θ false) []))/\
 (decide (a ≥ 1)=false->
 K (θ false) [])
 ):aI Tryz.prog X0 (aG 79) 79 [.agg [.int Z a,.int Z b,.int Z c,.int Z d]] [] K:=by apply Eq.mp (a:=an);kernel_rfl
theorem ahf (a b c d:Int) (K:V->KB->Prop) (an:
 (decide (a ≥ 1)=true->
 (decide (a<=3)=true->
 (decide (c ≥ 0)=true->
 ((d == -1)=true->
 K (θ true) [])/\
 ((d == -1)=false->
 K (θ (decide (d ≥ c))) []))/\
 (decide (c ≥ 0)=false->
 K (θ false) []))/\
 (decide (a<=3)=false->
 K (θ false) []))/\
 (decide (a ≥ 1)=false->
 K (θ false) [])
 ):aI Tryz.prog X0 (aG 82) 82 [.agg [.int Z a,.int Z b,.int Z c,.int Z d]] [] K:=by apply Eq.mp (a:=an);kernel_rfl
theorem KL (a b c d v:Int) (K:V->KB->Prop) (an:
 ((a == 1)=true->
 K (aw [ε Z b,θ true]) [])/\
 ((a == 1)=false->
 ((a == 2)=true->
 K (aw [ε Z 0,θ true]) [])/\
 ((a == 2)=false->
 K (aw [ε Z v,θ (b == v)]) []))
 ):aI Tryz.prog X0 (aG 107) 107 [.agg [.int Z a,.int Z b,.int Z c,.int Z d],.int Z v] [] K:=by apply Eq.mp (a:=an);kernel_rfl
theorem af0 (a b c d a' b' c' d':Int) (K:V->KB->Prop) (an:
 ((d != -1)=true->
 K (θ (decide (d<c'))) [])/\
 ((d != -1)=false->
 K (θ false) [])
 ):aI Tryz.prog X0 (aG 116) 116 [.agg [.int Z a,.int Z b,.int Z c,.int Z d],.agg [.int Z a',.int Z b',.int Z c',.int Z d']] [] K:=by apply Eq.mp (a:=an);kernel_rfl
theorem KK (o:List Int) (v:Int) (K:V->KB->Prop) (an:
 At (G0 o v) ([aD (ψ 1 (ints Z o)),ε Z v,ε Z 0],[])/\
 ∀(i:{i:Nat // i<=o.length/\
 ¬v∈az i o }),let η:=(↑i.val:Int)<(↑(ints Z o).length:Int);(decide (η)=true->
 aB (↑i.val:Int)/\
 ∃(e:List D),(ints Z o)[(↑i.val:Int).toNat]? =some e/\
 ∃(n:Int),e[0]? =some (ζ (ν Z n))/\
 ((n == v)=true->
 K (θ true) [])/\
 ((n == v)=false->
 Nx (G0 o v) i ([aD (ψ 1 (ints Z o)),ε Z v,ε Z (Z.wrap ((↑i.val:Int)+1))],[])))/\
 (decide (η)=false->
 K (θ false) [])
 ):aI Tryz.prog X0 (OM o v 81) 81 [aD (.sl 1 (ints Z o)),.int Z v] [] K:=by apply Eq.mp (a:=an);kernel_rfl
theorem agr (l:List Call) (m:Nat) (M:ML) (q:Nat) (R:List (List D)) (K:V->KB->Prop) (an:
 let aH:=aD (ψ 4 (φ bL l));let η:KB:=[ar [aH,aX 1,δ 2 0 q],KO.mp [Z,Z] true false 1 M,ξ 3 1 R];At (AP l m M q R) ([ε Z (↑m:Int),aH,ε Z (↑(φ bL l).length:Int),ε Z 0],η)/\
 ∀(i:{i:Nat // i<=l.length/\
 ∀(k:Nat),k<i->
 (be l k).snd.snd.snd≠-1->
 m.testBit k=true }),let au:=(Z.wrap (↑(BitVec.ofInt 64 (qo Z (↑m:Int) (↑i.val:Int)) &&& BitVec.ofInt 64 1).toNat:Int) == 0);let ω:=Nx (AP l m M q R) i ([ε Z (↑m:Int),aH,ε Z (↑l.length:Int),ε Z (Z.wrap ((↑i.val:Int)+1))],η);(decide ((↑i.val:Int)<(↑l.length:Int))=true->
 aB (↑i.val:Int)/\
 ∃(e:List D),(φ bL l)[(↑i.val:Int).toNat]? =some e/\
 ∃(n:Int),e[0]? =some (ζ (ν Z n))/\
 ∃(n:Int),e[1]? =some (ζ (ν Z n))/\
 ∃(n:Int),e[2]? =some (ζ (ν Z n))/\
 ∃(n:Int),e[3]? =some (ζ (ν Z n))/\
 ((n != -1)=true->
 ((↑i.val:Int)<0->
 False)/\
 (au=true->
 K (θ false) η)/\
 (au=false->
 ω))/\
 ((n != -1)=false->
 ω))/\
 (decide ((↑i.val:Int)<(↑l.length:Int))=false->
 K (θ true) η)
 ):aI Tryz.prog pS (j6 l m 0 M q R 106) 106 [aj 0 0,.int Z (m:Int)] (sK l M q R) K:=by apply Eq.mp (a:=an);kernel_rfl
theorem agA (l:List Call) (m:Nat) (k:Nat) (M:ML) (q:Nat) (R:List (List D)) (K:V->KB->Prop) (an:
 let bq:=ε Z (↑k:Int);let bj:=ε Z (↑m:Int);let aO:=aD (ψ 4 (φ bL l));let aH:=(Z.wrap (↑(BitVec.ofInt 64 (qo Z (↑m:Int) (↑k:Int)) &&& BitVec.ofInt 64 1).toNat:Int) != 0);let η:KB:=[ar [aO,aX 1,δ 2 0 q],KO.mp [Z,Z] true false 1 M,ξ 3 1 R];let aC:=At (Ou l m k M q R) ([aj 0 0,bj,bq],η);(((↑k:Int)<0->
 False)/\
 (aH=true->
 K (θ false) η)/\
 (aH=false->
 aB (↑k:Int)/\
 ∃(e:List D),(φ bL l)[(↑k:Int).toNat]? =some e/\
 ∃(n:Int),e[0]? =some (ζ (ν Z n))/\
 ((n == 3)=true->
 aB (↑k:Int)/\
 ∃(e:List D),(φ bL l)[(↑k:Int).toNat]? =some e/\
 ∃(n:Int),e[3]? =some (ζ (ν Z n))/\
 ((n == -1)=true->
 K (θ false) η)/\
 ((n == -1)=false->
 aC))/\
 ((n == 3)=false->
 aC)))/\
 ∀(i:{i:Nat // i=0/\
 m.testBit k=false/\
 ¬rS (be l k) }),At (AX l m k M q R) ([aj 0 0,bj,bq,aO,ε Z (↑(φ bL l).length:Int),ε Z 0],η)/\
 ∀(i:{i:Nat // i<=l.length/\
 ∀(o:Nat),o<i->
 m.testBit o=false->
 ¬iM (be l o) (be l k) }),let au:=(Z.wrap (↑(BitVec.ofInt 64 (qo Z (↑m:Int) (↑i.val:Int)) &&& BitVec.ofInt 64 1).toNat:Int) == 0);let ω:=Nx (AX l m k M q R) i ([aj 0 0,bj,bq,aO,ε Z (↑l.length:Int),ε Z (Z.wrap ((↑i.val:Int)+1))],η);(decide ((↑i.val:Int)<(↑l.length:Int))=true->
 aB (↑i.val:Int)/\
 ∃(e:List D),(φ bL l)[(↑i.val:Int).toNat]? =some e/\
 ∃(n:Int),e[0]? =some (ζ (ν Z n))/\
 ∃(n_1:Int),e[1]? =some (ζ (ν Z n_1))/\
 ∃(n_2:Int),e[2]? =some (ζ (ν Z n_2))/\
 ∃(eJ:Int),e[3]? =some (ζ (ν Z eJ))/\
 ((↑i.val:Int)<0->
 False)/\
 (au=true->
 aB (↑k:Int)/\
 ∃(e:List D),(φ bL l)[(↑k:Int).toNat]? =some e/\
 ∃(iV:Int),e[0]? =some (ζ (ν Z iV))/\
 ∃(nf:Int),e[1]? =some (ζ (ν Z nf))/\
 ∃(nP:Int),e[2]? =some (ζ (ν Z nP))/\
 ∃(oN:Int),let bP:=(iM (n,n_1,n_2,eJ) (iV,nf,nP,oN));e[3]? =some (ζ (ν Z oN))/\
 (decide bP=true->
 K (θ false) η)/\
 (decide bP=false->
 ω))/\
 (au=false->
 ω))/\
 (decide ((↑i.val:Int)<(↑l.length:Int))=false->
 K (θ true) η)
 ):aI Tryz.prog pS (j6 l m k M q R 108) 108 [aj 0 0,.int Z (m:Int),.int Z (k:Int)] (sK l M q R) K:=by apply Eq.mp (a:=an);kernel_rfl
theorem aeH:aN Tryz.prog 79 uZ:=dW fN mixed (fun args kb K h=>by
 unfold uZ at h;split at h<;>try exact h.elim
 rename_i a b c d
 refine⟨aG 79,ahe a b c d K ?_⟩
 simp only[decide_eq_true_eq,decide_eq_false_iff_not,beq_iff_eq,beq_eq_false_iff_ne]
 refine⟨fun h1=>⟨fun h2=>⟨fun h3=>⟨fun h4=>?_,fun h4=>?_⟩,fun h3=>?_⟩,fun h2=>?_⟩,fun h1=>?_⟩
 ·rwa [decide_eq_true (show dV (a,b,c,d) by unfold dV;simp only;omega)]at h
 ·rwa [decide_eq_decide.2 (show dV (a,b,c,d) ↔ d ≥ c by unfold dV;simp only;omega)]at h
 ·rwa [decide_eq_false (show ¬ dV (a,b,c,d) by unfold dV;simp only;omega)]at h
 ·rwa [decide_eq_false (show ¬ dV (a,b,c,d) by unfold dV;simp only;omega)]at h
 ·rwa [decide_eq_false (show ¬ dV (a,b,c,d) by unfold dV;simp only;omega)]at h)
theorem aeI:aN Tryz.prog 82 uZ:=dW fN mixed (fun args kb K h=>by
 unfold uZ at h;split at h<;>try exact h.elim
 rename_i a b c d
 refine⟨aG 82,ahf a b c d K ?_⟩
 simp only[decide_eq_true_eq,decide_eq_false_iff_not,beq_iff_eq,beq_eq_false_iff_ne]
 refine⟨fun h1=>⟨fun h2=>⟨fun h3=>⟨fun h4=>?_,fun h4=>?_⟩,fun h3=>?_⟩,fun h2=>?_⟩,fun h1=>?_⟩
 ·rwa [decide_eq_true (show dV (a,b,c,d) by unfold dV;simp only;omega)]at h
 ·rwa [decide_eq_decide.2 (show dV (a,b,c,d) ↔ d ≥ c by unfold dV;simp only;omega)]at h
 ·rwa [decide_eq_false (show ¬ dV (a,b,c,d) by unfold dV;simp only;omega)]at h
 ·rwa [decide_eq_false (show ¬ dV (a,b,c,d) by unfold dV;simp only;omega)]at h
 ·rwa [decide_eq_false (show ¬ dV (a,b,c,d) by unfold dV;simp only;omega)]at h)
theorem aeG:aN Tryz.prog 107 uX:=dW fN mixed (fun args kb K h=>by
 unfold uX at h;split at h<;>try exact h.elim
 rename_i a b c d v
 refine⟨aG 107,KL a b c d v K ?_⟩
 simp only[beq_iff_eq,beq_eq_false_iff_ne]
 refine⟨fun h1=>?_,fun h1=>⟨fun h2=>?_,fun h2=>?_⟩⟩
 ·rwa [decide_eq_true (show jD (a,b,c,d) v by unfold jD;simp only;omega),show jK (a,b,c,d) v=b from if_pos h1]at h
 ·rwa [decide_eq_true (show jD (a,b,c,d) v by unfold jD;simp only;omega),show jK (a,b,c,d) v=0 by unfold jK;rw[if_neg h1,if_pos h2]]at h
 ·rw[decide_eq_decide.2 (show jD (a,b,c,d) v ↔ b=v by unfold jD;simp only;omega),show jK (a,b,c,d) v=v by unfold jK;rw[if_neg h1,if_neg h2]]at h
  have:decide (b=v)=(b == v):=by rw[Bool.eq_iff_iff];simp
  rwa [this]at h)
theorem aeE:aN Tryz.prog 116 DV:=dW fN mixed (fun args kb K h=>by
 unfold DV at h;split at h<;>try exact h.elim
 rename_i a b c d a' b' c' d'
 refine⟨aG 116,af0 a b c d a' b' c' d' K ?_⟩
 simp only[bne_iff_ne,ne_eq,bne_eq_false_iff_eq]
 refine⟨fun h1=>?_,fun h1=>?_⟩
 ·rwa [decide_eq_decide.2 (show iM (a,b,c,d) (a',b',c',d') ↔ d<c' by unfold iM;simp only;omega)]at h
 ·rwa [decide_eq_false (show ¬ iM (a,b,c,d) (a',b',c',d') by unfold iM;simp only;omega)]at h)
theorem aeF:aN Tryz.prog 81 tr:=dW fN mixed (fun args kb K h=>by
 unfold tr at h;split at h<;>try exact h.elim
 rename_i v
 obtain⟨o,rfl,pu,h⟩:=h
 unfold Sm at pu
 refine⟨OM o v 81,KK o v K ⟨At.mk' ⟨0,bt _,by simp⟩ rfl,?_⟩⟩
 rintro⟨i,hi,ht⟩
 simp only[bi,decide_eq_true_eq,decide_eq_false_iff_not]
 refine⟨fun hc=>?_,fun hc=>?_⟩
 ·have hq:o[i]? =some o[i]:=bp (by omega)
  refine⟨by unfold aB;omega,[ζ (.int Z o[i])],by rw[cP,kv,hq];rfl,o[i],rfl,fun hx=>?_,fun hx=>?_⟩
  ·simp only[beq_iff_eq]at hx
   rwa [decide_eq_true (by rw[<- hx];exact List.getElem_mem _)]at h
  ·simp only[beq_eq_false_iff_ne,ne_eq]at hx
   rw[bD (by omega) (by omega)]
   refine Nx.mk' (⟨i+1,by omega,?_⟩:{i:Nat // i<=o.length/\v ∉ o.take i}) rfl (by show o.length - (i+1)<o.length - i;omega)
   rw[i_,hq,dM]
   rintro(h1 | h1)
   ·exact ht h1
   ·simp at h1;exact hx h1.symm
 ·have:i=o.length:=by omega
  subst this
  rw[cM]at ht
  rwa [decide_eq_false ht]at h)
theorem yP:dF Tryz.prog rK:=fun f k h=>by
 unfold rK at h
 split at h<;>first | (cases h;first | exact aeH | exact aeI | exact aeG | exact aeE | exact aeF) | cases h
theorem u7:bZ Tryz.prog pS:=dI mixed yP aG 10
theorem WC {m i:Nat} (hm:m<2 ^ 62) (hi:i<=60):Z.wrap ((BitVec.ofInt 64 (qo Z (m:Int) (i:Int)) &&& BitVec.ofInt 64 1).toNat:Int)=((m / 2 ^ i % 2:Nat):Int):=by
 have e1:qo Z (m:Int) (i:Int)=((m / 2 ^ i:Nat):Int):=by
  unfold qo
  rw[cP,show min i Z.bits=i from Nat.min_eq_left (by show i<=64;omega),Int.fdiv_eq_ediv_of_nonneg _ (by exact_mod_cast bt _)]
  norm_cast
 have hlt:m / 2 ^ i<2 ^ 62:=Nat.lt_of_le_of_lt (Nat.div_le_self _ _) hm
 rw[e1,BitVec.toNat_and,BitVec.toNat_ofInt,BitVec.toNat_ofInt]
 generalize m / 2 ^ i=z at hlt
 have e2:((z:Int) % ((2 ^ 64:Nat):Int)).toNat=z:=by omega
 rw[e2,show((1:Int) % ((2 ^ 64:Nat):Int)).toNat=1 from rfl,Nat.and_one_is_mod]
 rw[bD (by omega) (by omega)]
theorem va {m i:Nat} (hm:m<2 ^ 62) (hi:i<=60):(Z.wrap ((BitVec.ofInt 64 (qo Z (m:Int) (i:Int)) &&& BitVec.ofInt 64 1).toNat:Int) == 0)= !m.testBit i:=by
 rw[WC hm hi,Nat.testBit_eq_decide_div_mod_eq,Bool.eq_iff_iff]
 simp only[beq_iff_eq,lR,decide_eq_false_iff_not]
 omega
theorem Wl {l:List Call} {i:Nat} (h:i<l.length):l[i]? =some (be l i):=by
 unfold be;rw[gD,bp h];rfl
theorem sg {l:List Call} {i:Nat} (h:i<l.length):(l.map bL)[((i:Nat):Int).toNat]? =some (bL (be l i)):=by
 rw[cP,fE,Wl h];rfl
instance (l:List Call) (m:Nat):Decidable (full l m):=by unfold full;infer_instance
instance (l:List Call) (m k:Nat):Decidable (free l m k):=by unfold free;infer_instance
def D7:aE:=fun args kb K=>match args,kb with
 | [aj 0 0,.int Z M0],[ar [aD (.sl 4 L),.mp 1,.sl 2 0 h],.mp [Z,Z] true false 1 M,ξ 3 1 R]=>∃(l:List Call) (m:Nat),M0=m/\L=l.map bL/\l.length<=20/\m<2 ^ 62/\K (θ (decide (full l m))) (sK l M h R)
 |_,_=>False
def D9:aE:=fun args kb K=>match args,kb with
 | [aj 0 0,.int Z M0,.int Z k0],[ar [aD (.sl 4 L),.mp 1,.sl 2 0 h],.mp [Z,Z] true false 1 M,ξ 3 1 R]=>∃(l:List Call) (m k:Nat),M0=m/\k0=k/\L=l.map bL/\l.length<=20/\m<2 ^ 62/\k<l.length/\K (θ (decide (free l m k))) (sK l M h R)
 |_,_=>False
theorem abu:aN Tryz.prog 106 D7:=dW u7 mixed (fun args kb K h=>by
 unfold D7 at h;split at h<;>try exact h.elim
 rename_i hh M R
 obtain⟨l,m,rfl,rfl,hl,hm,h⟩:=h
 refine⟨j6 l m 0 M hh R 106,agr l m M hh R K ⟨by rw[bX];exact At.mk' ⟨0,bt _,fun k hk=>absurd hk (Nat.not_lt_zero _)⟩ rfl,?_⟩⟩
 rintro⟨i,hi,ht⟩
 have nx:i<l.length->((be l i).2.2.2≠-1->m.testBit i=true)->Nx (AP l m M hh R) ⟨i,hi,ht⟩ ([ε Z (m:Int),aD (ψ 4 (l.map bL)),ε Z (l.length:Int),ε Z (Z.wrap ((i:Int)+1))],sK l M hh R):=fun hlt hb=>by
  rw[bD (by omega) (by omega)]
  refine Nx.mk' (⟨i+1,by omega,fun k hk he=>?_⟩:{i:Nat // i<=l.length/\∀ k,k<i->(be l k).2.2.2≠-1->m.testBit k=true}) rfl (by show l.length - (i+1)<l.length - i;omega)
  by_cases hki:k=i
  ·subst hki;exact hb he
  ·exact ht k (by omega) he
 simp only[decide_eq_true_eq,decide_eq_false_iff_not]
 refine⟨fun hc=>?_,fun hc=>?_⟩
 ·refine⟨by unfold aB;omega,bL (be l i),sg (by omega),(be l i).1,rfl,(be l i).2.1,rfl,(be l i).2.2.1,rfl,(be l i).2.2.2,rfl,fun he=>⟨fun f=>by omega,fun hb=>?_,fun hb=>?_⟩,fun he=>?_⟩
  ·rw[va hm (by omega)]at hb
   simp only[bne_iff_ne,ne_eq,lR]at he hb
   rwa [decide_eq_false (fun hf:full l m=>by have:=hf i (by omega) he;rw[this]at hb;cases hb)]at h
  ·rw[va hm (by omega)]at hb
   simp only[lm]at hb
   exact nx (by omega) fun _=>hb
  ·simp only[bne_eq_false_iff_eq]at he
   exact nx (by omega) fun f=>absurd he f
 ·rwa [decide_eq_true (show full l m from fun k hk he=>ht k (by omega) he)]at h)
theorem abB:aN Tryz.prog 108 D9:=dW u7 mixed (fun args kb K h=>by
 unfold D9 at h;split at h<;>try exact h.elim
 rename_i hh M R
 obtain⟨l,m,k,rfl,rfl,rfl,hl,hm,hk,h⟩:=h
 have hk1:=sg hk
 refine⟨j6 l m k M hh R 108,agA l m k M hh R K ⟨⟨fun f=>by omega,fun hb=>?_,fun hb=>?_⟩,?_⟩⟩
 ·rw[bne,va hm (by omega)]at hb
  simp only[Bool.not_not]at hb
  rwa [decide_eq_false (fun hf:free l m k=>by rw[hf.1]at hb;cases hb)]at h
 ·rw[bne,va hm (by omega)]at hb
  simp only[Bool.not_not]at hb
  refine⟨by unfold aB;omega,_,hk1,(be l k).1,rfl,fun h3=>⟨by unfold aB;omega,_,hk1,(be l k).2.2.2,rfl,fun h4=>?_,fun h4=>?_⟩,fun h3=>?_⟩
  ·simp only[beq_iff_eq]at h3 h4
   rwa [decide_eq_false (fun hf:free l m k=>hf.2.1 ⟨h3,h4⟩)]at h
  ·simp only[beq_eq_false_iff_ne]at h4
   exact At.mk' ⟨0,rfl,hb,fun hu=>h4 hu.2⟩ rfl
  ·simp only[beq_eq_false_iff_ne]at h3
   exact At.mk' ⟨0,rfl,hb,fun hu=>h3 hu.1⟩ rfl
 rintro⟨_,_,hb,hun⟩
 refine⟨by rw[bX];exact At.mk' ⟨0,bt _,fun k hk=>absurd hk (Nat.not_lt_zero _)⟩ rfl,?_⟩
 rintro⟨i,hi,ht⟩
 have nx:i<l.length->(m.testBit i=false->¬ iM (be l i) (be l k))->Nx (AX l m k M hh R) ⟨i,hi,ht⟩ ([aj 0 0,ε Z (m:Int),ε Z (k:Int),aD (ψ 4 (l.map bL)),ε Z (l.length:Int),ε Z (Z.wrap ((i:Int)+1))],sK l M hh R):=fun hlt hb=>by
  rw[bD (by omega) (by omega)]
  refine Nx.mk' (⟨i+1,by omega,fun o ho he=>?_⟩:{i:Nat // i<=l.length/\∀ o,o<i->m.testBit o=false->¬ iM (be l o) (be l k)}) rfl (by show l.length - (i+1)<l.length - i;omega)
  by_cases hki:o=i
  ·subst hki;exact hb he
  ·exact ht o (by omega) he
 simp only[decide_eq_true_eq,decide_eq_false_iff_not]
 refine⟨fun hc=>?_,fun hc=>?_⟩
 ·refine⟨by unfold aB;omega,bL (be l i),sg (by omega),(be l i).1,rfl,(be l i).2.1,rfl,(be l i).2.2.1,rfl,(be l i).2.2.2,rfl,fun f=>by omega,fun tR=>?_,fun tR=>?_⟩
  ·rw[va hm (by omega)]at tR
   simp only[lR]at tR
   refine⟨by unfold aB;omega,_,hk1,(be l k).1,rfl,(be l k).2.1,rfl,(be l k).2.2.1,rfl,(be l k).2.2.2,rfl,fun ha=>?_,fun ha=>?_⟩
   ·rwa [decide_eq_false (fun hf:free l m k=>hf.2.2 i (by omega) tR ha)]at h
   ·exact nx (by omega) fun _=>ha
  ·rw[va hm (by omega)]at tR
   simp only[lm]at tR
   exact nx (by omega) fun f=>by rw[tR]at f;cases f
 ·rwa [decide_eq_true (show free l m k from⟨hb,hun,fun o ho he=>ht o (by omega) he⟩)]at h)
def wO (l:List Call) (m:Nat) (v:Int):Prop:=¬ ∃ r,Ext l m v r
def zt (l:List Call) (e:List Int×List D):Prop:=∃(m:Nat) (b:Int),e=([(m:Int),b],[db true])/\wO l m b
structure VB (l:List Call) (m:Nat) (M:ML):Prop where
 all:∀ e∈M,(∃(m':Nat) (b:Int),e=([(m':Int),b],[db true])/\m'<m)∨zt l e
structure DG (l:List Call) (m:Nat) (v:Int) (M:ML) (o:List Int) (b:Bool) (M':ML) (o':List Int):Prop where
 t:b=true->∃ r:List Nat,o'=o++r.map (fun(k:Nat)=>(k:Int))/\Ext l m v r
 f:b=false->o'=o/\wO l m v/\∀ e∈M',e∈M∨zt l e
structure DH (l:List Call) (m n:Nat) (M:ML) (o:List Int):Prop where
 len:l.length<=14
 lo:o.length<=m
 lt:m<2 ^ l.length
 fuel:2 ^ l.length - m<n
 seen:VB l m M
def tq (n:Nat):aE:=fun args kb K=>match args,kb with
 | [aj 0 0,.int Z m0,.int Z v],[ar [aD (.sl 4 L),.mp 1,.sl 2 0 h],.mp [Z,Z] true false 1 M,ξ 3 1 R]=>
  ∃(l:List Call) (m:Nat) (o t:List Int),m0=m/\L=l.map bL/\R=ints Z (o++t)/\h=o.length/\DH l m n M o/\
   ∀ b M' o' t',DG l m v M o b M' o'->K (θ b) [ar [aD (.sl 4 (l.map bL)),.mp 1,.sl 3 0 o'.length],.mp [Z,Z] true false 1 M',χ,ξ 3 1 (ints Z (o'++t'))]
 |_,_=>False
def tK (n:Nat):FuncId->Option dA
 | 80=>some ⟨[],tq n⟩
 | 106=>some ⟨[],D7⟩
 | 108=>some ⟨[],D9⟩
 |f=>rK f
noncomputable def xd (n:Nat):bJ:=dG Tryz.prog (tK n) aG 10
structure DK (l:List Call) (m:Nat) (v:Int) (M:ML) (p:Nat×ML×List Int):Prop where
 le:p.1<=l.length
 seen:∀ e∈p.2.1,e∈M∨e=([(m:Int),v],[db true])∨zt l e
 no:∀ j,j<p.1->free l m j->jD (be l j) v->wO l (oT m j) (jK (be l j) v)
abbrev vM (l:List Call) (m:Nat) (v:Int) (M:ML) (o:List Int):LI where
 α:={p:Nat×ML×List Int // DK l m v M p}
 live:=[0,1,2,32,33,34]
 dU:=[.mv 0 2]
 st p:=([aj 0 0,.int Z (m:Int),.int Z v,aD (.sl 4 (l.map bL)),.int Z (l.length:Int),.int Z (p.1.1:Int)],
  [ar [aD (.sl 4 (l.map bL)),.mp 1,.sl 3 0 o.length],.mp [Z,Z] true false 1 p.1.2.1,χ,ξ 3 1 (ints Z (o++p.1.2.2))])
 μ p:=l.length - p.1.1
def Qk (l:List Call) (m:Nat) (v:Int) (M:ML) (o:List Int):FuncId->Nat->Option LI
 | 80,8=>some (vM l m v M o)
 |_,_=>none
theorem agB (n:Nat) (l:List Call) (m:Nat) (v:Int) (M:ML) (o t:List Int) (K:V->KB->Prop) (an:
 let bP:=ξ 3 1 (ints Z (o++t));let aC:=[Z,Z];∃(l_1:List Call),let bj:=ar [aD (ψ 4 (φ bL l_1)),aX 1,δ 3 0 o.length];let au:KB:=[bj,KO.mp aC true false 1 M,χ,bP];∃(m_1:Nat),(↑m:Int)=(↑m_1:Int)/\
 φ bL l=φ bL l_1/\
 l_1.length<=20/\
 m_1<4611686018427387904/\
 (decide (full l_1 m_1)=true->
 K (θ true) au)/\
 (decide (full l_1 m_1)=false->
 (∀(cs:List D),bH M [(↑m:Int),v]=some cs->
 gp [CK.bool] cs)/\
 (ij M [(↑m:Int),v] 0=true->
 K (θ false) au)/\
 (ij M [(↑m:Int),v] 0=false->
 At (vM l m v M o) ([aj 0 0,ε Z (↑m:Int),ε Z v,aD (ψ 4 (φ bL l_1)),ε Z (↑(φ bL l_1).length:Int),ε Z 0],[bj,KO.mp aC true false 1 (bF M [(↑m:Int),v] [ζ (nE true)]),χ,bP])/\
 ∀(i:{p:Nat×ML×List Int // DK l m v M p }),let bN:=(↑i.val.fst:Int)<(↑l.length:Int);let aO:=(ints Z (o++i.val.snd.snd));let ω:KB:=[ar [aD (ψ 4 (φ bL l)),aX 1,δ 3 0 o.length],KO.mp aC true false 1 i.val.snd.fst,χ,ξ 3 1 aO];let η:=[aj 0 0,ε Z (↑m:Int),ε Z v,aD (ψ 4 (φ bL l)),ε Z (↑l.length:Int),ε Z (Z.wrap ((↑i.val.fst:Int)+1))];(decide (bN)=true->
 aB (↑i.val.fst:Int)/\
 ∃(e:List D),(φ bL l)[(↑i.val.fst:Int).toNat]? =some e/\
 ∃(n_1:Int),e[0]? =some (ζ (ν Z n_1))/\
 ∃(n_2:Int),e[1]? =some (ζ (ν Z n_2))/\
 ∃(eJ:Int),e[2]? =some (ζ (ν Z eJ))/\
 ∃(iV:Int),e[3]? =some (ζ (ν Z iV))/\
 ((!decide (jD (n_1,n_2,eJ,iV) v))=true->
 Nx (vM l m v M o) i (η,ω))/\
 ((!decide (jD (n_1,n_2,eJ,iV) v))=false->
 ∃(l_2:List Call),∃(m_2:Nat),∃(k:Nat),(↑m:Int)=(↑m_2:Int)/\
 (↑i.val.fst:Int)=(↑k:Int)/\
 φ bL l=φ bL l_2/\
 l_2.length<=20/\
 m_2<4611686018427387904/\
 k<l_2.length/\
 ((!decide (free l_2 m_2 k))=true->
 Nx (vM l m v M o) i (η,[ar [aD (ψ 4 (φ bL l_2)),aX 1,δ 3 0 o.length],KO.mp aC true false 1 i.val.snd.fst,χ,ξ 3 1 aO]))/\
 ((!decide (free l_2 m_2 k))=false->
 1<=1/\
 o.length<=aO.length/\
 (o.length+1)*8<=140737488355328/\
 ((↑i.val.fst:Int)<0->
 False)/\
 ∃(iT:List Call),∃(H_:Nat),∃(h_:List Int),∃(t:List Int),Z.wrap (↑(BitVec.ofInt 64 (↑m:Int) ||| BitVec.ofInt 64 (l7 Z 1 (↑i.val.fst:Int))).toNat:Int)=(↑H_:Int)/\
 φ bL l_2=φ bL iT/\
 az o.length aO++[[ζ (ν Z (↑i.val.fst:Int))]]=ints Z (h_++t)/\
 o.length+1=h_.length/\
 DH iT H_ n i.val.snd.fst h_/\
 ∀(b:Bool) (M':ML) (o' t':List Int),let bq:=ξ 3 1 (ints Z (o'++t'));let aH:=(Z.wrap ((↑(o'.length - 0):Int) - 1));DG iT H_ (jK (n_1,n_2,eJ,iV) v) i.val.snd.fst h_ b M' o'->
 (b=true->
 K (θ true) [ar [aD (ψ 4 (φ bL iT)),aX 1,δ 3 0 o'.length],KO.mp aC true false 1 M',χ,bq])/\
 (b=false->
 True/\
 aB aH/\
 0<=aH.toNat/\
 aH.toNat<=o'.length - 0/\
 Nx (vM l m v M o) i (η,[ar [aD (ψ 4 (φ bL iT)),aX 1,δ 3 0 (0+aH.toNat)],KO.mp aC true false 1 M',χ,bq])))))/\
 (decide (bN)=false->
 K (θ false) ω)))
 ):aI Tryz.prog (xd n) (Qk l m v M o 80) 80 [aj 0 0,.int Z (m:Int),.int Z v] (sK l M o.length (ints Z (o++t))) (eZ [.mv 0 2] (dp 3 K)):=by apply Eq.mp (a:=an);kernel_rfl
theorem Im:∀{M:ML} {k:List Int} {c:List D},bH M k=some c->(k,c)∈M
 | [],k,c,h=>by simp [bH]at h
 | (a,x)::M,k,c,h=>by
  simp only[bH]at h
  split at h
  ·rename_i e;subst e;cases h;exact iu
  ·exact fM _ (Im h)
theorem Qw:∀{M:ML} {k:List Int} {c:List D} {e:List Int×List D},e∈bF M k c->e∈M∨e=(k,c)
 | [],k,c,e,h=>by simp [bF]at h;exact .inr h
 | (a,x)::M,k,c,e,h=>by
  simp only[bF]at h
  split at h
  ·rename_i q;subst q
   rcases ey.1 h with h | h
   ·exact .inr h
   ·exact .inl (fM _ h)
  ·rcases ey.1 h with h | h
   ·exact .inl (h ▸ iu)
   ·rcases Qw h with h | h
    ·exact .inl (fM _ h)
    ·exact .inr h
theorem aez {m k:Nat} (h:m.testBit k=false):m<oT m k:=by
 have h1:m<=oT m k:=Nat.left_le_or
 have h2:m≠oT m k:=fun e=>by
  have:=JZ m k k
  rw[<- e,h]at this
  simp at this
 omega
theorem Te {m k n:Nat} (h:m<2 ^ n) (hk:k<n):oT m k<2 ^ n:=Nat.or_lt_two_pow h (Nat.pow_lt_pow_right (by decide) hk)
theorem aeA {m k:Nat} (hm:m<2 ^ 14) (hk:k<14):Z.wrap ((BitVec.ofInt 64 (m:Int) ||| BitVec.ofInt 64 (l7 Z 1 (k:Int))).toNat:Int)=((oT m k:Nat):Int):=by
 have hp:(2:Nat) ^ k<2 ^ 14:=Nat.pow_lt_pow_right (by decide) hk
 have e1:l7 Z 1 (k:Int)=((2 ^ k:Nat):Int):=by
  unfold l7
  rw[cP,show min k Z.bits=k from Nat.min_eq_left (by show k<=64;omega),Int.one_mul]
  have e0:((2:Int) ^ k)=((2 ^ k:Nat):Int):=by norm_cast
  rw[e0]
  generalize 2 ^ k=z at hp
  rw[bD (by omega) (by omega)]
 have hs:=Te hm hk
 unfold oT at hs ⊢
 rw[e1,BitVec.toNat_or,BitVec.toNat_ofInt,BitVec.toNat_ofInt]
 generalize 2 ^ k=z at hp hs
 have e2:((m:Int) % ((2 ^ 64:Nat):Int)).toNat=m:=by omega
 have e3:((z:Int) % ((2 ^ 64:Nat):Int)).toNat=z:=by omega
 rw[e2,e3,bD (by omega) (by omega)]
theorem GC {n:Nat} (hn:aN Tryz.prog 80 (tq n)):dF Tryz.prog (tK n):=fun f k h=>by
 unfold tK at h
 split at h
 ·cases h;exact hn
 ·cases h;exact abu
 ·cases h;exact abB
 ·exact yP _ _ h
theorem EM {n:Nat} (hn:aN Tryz.prog 80 (tq n)):bZ Tryz.prog (xd n):=dI mixed (GC hn) aG 10
theorem Rg:∀ n,aN Tryz.prog 80 (tq n)
 | 0=>fun args kb K h=>by
  unfold tq at h;split at h<;>try exact h.elim
  obtain⟨l,m,o,t,rfl,rfl,rfl,rfl,hp,h⟩:=h
  exact absurd hp.fuel (Nat.not_lt_zero _)
 |n+1=>mE (EM (Rg n)) mixed [.mv 0 2] (fun args kb K h=>by
  unfold tq at h;split at h<;>try exact h.elim
  rename_i v _ _ M _
  obtain⟨l,m,o,t,rfl,rfl,rfl,rfl,hp,h⟩:=h
  have hl:=hp.len
  have Zv:m<2 ^ 14:=Nat.lt_of_lt_of_le hp.lt (Nat.pow_le_pow_right (by decide) hl)
  have hlo:=hp.lo
  refine⟨Qk l m v M o 80,agB n l m v M o t _ ⟨l,m,rfl,rfl,by omega,by omega,fun hf=>?_,fun hf=>⟨fun cs hcs=>?_,fun hg=>?_,fun hg=>⟨?_,?_⟩⟩⟩⟩
  ·refine h true M o t ⟨fun _=>⟨[],by simp,?_⟩,fun f=>by cases f⟩
   unfold Ext
   simpa using hf
  ·rcases hp.seen.all _ (Im hcs)with ⟨m',b,e,_⟩ | ⟨m',b,e,_⟩
   ·simp only[Prod.mk.injEq]at e;rw[e.2];exact⟨true,[],rfl,rfl⟩
   ·simp only[Prod.mk.injEq]at e;rw[e.2];exact⟨true,[],rfl,rfl⟩
  ·refine h false M o t ⟨fun f=>(by cases f),fun _=>⟨rfl,?_,fun e he=> .inl he⟩⟩
   unfold ij at hg
   split at hg
   ·rename_i cs hcs
    rcases hp.seen.all _ (Im hcs)with ⟨m',b,e,hlt⟩ | ⟨m',b,e,hd⟩
    ·simp only[Prod.mk.injEq,List.cons.injEq,and_true]at e
     omega
    ·simp only[Prod.mk.injEq,List.cons.injEq,and_true]at e
     obtain⟨⟨e1,e2⟩,_⟩:=e
     have XN:m=m':=by omega
     subst XN;subst e2
     exact hd
   ·cases hg
  ·rw[bX]
   refine At.mk' ⟨(0,bF M [(m:Int),v] [db true],t),bt _,fun e he=>?_,fun j hj=>absurd hj (Nat.not_lt_zero _)⟩ rfl
   rcases Qw he with he | he
   ·exact .inl he
   ·exact .inr (.inl he)
  rintro⟨⟨k,M',t'⟩,hi⟩
  have iQ:=hi.le
  have vE:=hi.seen
  have hno:=hi.no
  simp only at iQ vE hno
  have nx:∀ M2 t2,(∀ e∈M2,e∈M∨e=([(m:Int),v],[db true])∨zt l e)->k<l.length->(free l m k->jD (be l k) v->wO l (oT m k) (jK (be l k) v))->
    Nx (vM l m v M o) ⟨(k,M',t'),hi⟩ ([aj 0 0,ε Z (m:Int),ε Z v,aD (ψ 4 (l.map bL)),ε Z (l.length:Int),ε Z (Z.wrap ((k:Int)+1))],
     [ar [aD (ψ 4 (l.map bL)),aX 1,δ 3 0 o.length],KO.mp [Z,Z] true false 1 M2,χ,ξ 3 1 (ints Z (o++t2))]):=fun M2 t2 hM hlt hd=>by
   rw[bD (by omega) (by omega)]
   refine Nx.mk' (⟨(k+1,M2,t2),by simp only;omega,hM,fun j hj hf sE=>?_⟩:{p:Nat×ML×List Int // DK l m v M p}) rfl (by show l.length - (k+1)<l.length - k;omega)
   simp only at hj
   by_cases hjk:j=k
   ·subst hjk;exact hd hf sE
   ·exact hno j (by omega) hf sE
  simp only[decide_eq_true_eq,decide_eq_false_iff_not]
  refine⟨fun hc=>?_,fun hc=>?_⟩
  ·have hlt:k<l.length:=by omega
   refine⟨by unfold aB;omega,bL (be l k),sg hlt,(be l k).1,rfl,(be l k).2.1,rfl,(be l k).2.2.1,rfl,(be l k).2.2.2,rfl,fun sE=>?_,fun sE=>⟨l,m,k,rfl,rfl,rfl,by omega,by omega,hlt,fun hfr=>?_,fun hfr=>?_⟩⟩
   ·simp only[lR,decide_eq_false_iff_not]at sE
    exact nx _ _ vE hlt fun _ f=>absurd f sE
   ·simp only[lR,decide_eq_false_iff_not]at hfr
    exact nx _ _ vE hlt fun f=>absurd f hfr
   ·simp only[lm,decide_eq_true_eq]at hfr sE
    have hgt:=aez hfr.1
    have jF:=Te hp.lt hlt
    have Y_:jD (be l k) v:=sE
    refine⟨av _,by rw[bi,bn];omega,by omega,fun f=>by omega,l,oT m k,o++[(k:Int)],[],aeA Zv (by omega),rfl,?_,by simp,⟨hl,by rw[bn,ii];omega,jF,by have:=hp.fuel;omega,⟨fun e he=>?_⟩⟩,?_⟩
    ·rw[oI,List.take_left,fD,py];rfl
    ·rcases vE e he with h1 | h1 | h1
     ·rcases hp.seen.all e h1 with ⟨m',b,e1,h2⟩ | h2
      ·exact .inl ⟨m',b,e1,by omega⟩
      ·exact .inr h2
     ·exact .inl ⟨m,v,h1,hgt⟩
     ·exact .inr h1
    ·intro b M2 o2 t2 hpost
     refine⟨fun hb=>?_,fun hb=>?_⟩
     ·obtain⟨r,h1,h2⟩:=hpost.t hb
      refine h true M2 o2 t2 ⟨fun _=>⟨k::r,?_,hlt,hfr,Y_,h2⟩,fun f=>by cases f⟩
      rw[h1,dO];rfl
     ·obtain⟨h1,h2,h3⟩:=hpost.f hb
      subst h1
      have e0:Z.wrap ((((o++[(k:Int)]).length - 0:Nat):Int) - 1)=(o.length:Int):=by
       rw[bn,ii,bD (by omega) (by omega)];omega
      rw[e0,cP,c9]
      refine⟨trivial,by unfold aB;omega,bt _,by simp,?_⟩
      have:=nx M2 ((k:Int)::t2) (fun e he=>?_) hlt (fun _ _=>h2)
      ·rwa [show o++(k:Int)::t2=o++[(k:Int)]++t2 by simp]at this
      ·rcases h3 e he with h4 | h4
       ·exact vE e h4
       ·exact .inr (.inr h4)
  ·have:k=l.length:=by omega
   subst this
   have O7:wO l m v:=by
    rintro⟨r,hr⟩
    cases r with
    |nil=>unfold Ext at hr;exact absurd hr (by simpa using hf)
    |cons j r=>
     obtain⟨h1,h2,h3,h4⟩:=hr
     exact hno j h1 h2 h3 ⟨r,h4⟩
   refine h false M' o t' ⟨fun f=>(by cases f),fun _=>⟨rfl,O7,fun e he=>?_⟩⟩
   rcases vE e he with h1 | h1 | h1
   ·exact .inl h1
   ·exact .inr ⟨m,v,h1,O7⟩
   ·exact .inr h1)
end Go.Proofs.YtfcjngcnifdmnaaGreat.Hy
