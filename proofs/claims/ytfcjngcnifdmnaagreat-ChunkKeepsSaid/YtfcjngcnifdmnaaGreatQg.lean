import Derived.Test.YtfcjngcnifdmnaaGreatQf
import Derived.KernelRfl
namespace Go.Proofs.YtfcjngcnifdmnaaGreat
open Vc Go
open Go.IntKind renaming i64->Z,u8->θ,u32->gq
open Vc.V renaming any->γ,int->δ,sl->ε,sb->ξ,ptr->ac,dat->an,υ->ar,ae->aG,mp->aV,arr->bc,agg->cF
open Vc.KO renaming row->ζ,dead->ο,cells->ω,objs->bE
open Vc.D renaming val->η,sl->π
open List renaming map->ι,drop->ν,take->ah,length_append->bw,getElem?_eq_getElem->bx,getElem?_eq_some_iff->bU,length_map->cg,Mem->ct,take_length->cN,replicate->cQ,length_take->cW,append_assoc->dQ,getElem?_append_right->ef,getElem?_append_left->eH,mem_cons->eP,append_nil->fg,length_drop->fh,getElem?_map->fG,mem_map->fH,take_of_length_le->fI,getElem?_set_ne->fR,mem_cons_of_mem->fS,mem_append->gl,mem_of_getElem?->gm,getElem?_eq_none->gA,getElem?_set_self->gB,length_set->gC,range->gD,drop_zero->gK,mem_singleton->gY,flatten_cons->im,length_cons->io,mem_cons_self->iA,getElem?_take_of_lt->jj,length_nil->jk,nil_append->jm,getElem?_drop->jB,map_append->jC,take_add_one->jY,ext_getElem?->km,getD_eq_getElem?_getD->kn,length_singleton->ko,eq_nil_of_length_eq_zero->kG,mem_append_left->lR,mem_filter->lS
open Go.Value renaming int->κ,slice->eI,bool->fa,map->gr,oneCell'->kq
open Nat renaming le_refl->aE,zero_le->bF,beq->bZ,eq_of_beq_eq_true->cy,zero_add->cL,add_assoc->fT,lor->gE,lt_or_ge->iX,sub_zero->kp
open Option renaming some->bh,bind_eq_some_iff->jF,map->jZ
open Int renaming toNat_natCast->dr,le_refl->gp
open Bool renaming and_eq_true->kE
set_option linter.unusedVariables false
set_option linter.unusedSimpArgs false
set_option maxRecDepth 100000
def az (w:Wd) (i:Nat):φ:=w.R.getD i (newR 0 0 false 0 0 [] [])
def ii (i:Int) (w:Wd) (p:Post):Wd:=if 0<=p.to/\p.to<4/\w.aa.length<2000 then{w with aa:=w.aa++[⟨i,p.to,p.m⟩] }else w
def nY (R:φ):φ:={R with ch:=false,out:=[],done:=[] }
def iJ (w:Wd) (i:Nat):Wd:={w with R:=w.R.set i {az w i with ch:=false,out:=[] },dk:=if(az w i).ch then w.dk.set i (du (az w i))else w.dk }
def jr (w:Wd) (i:Nat):Wd:={w with R:=w.R.set i (nY (az w i)),dk:=if(az w i).ch then w.dk.set i (du (az w i))else w.dk }
def eo (w:Wd) (i:Nat) (l:List Post):Wd:=l.foldl (ii i) w
def jo (w:Wd) (i:Nat):Wd:=(az w i).done.foldl gX (eo (jr w i) i (az w i).out)
def WM (g:List V->Wd->(V->Wd->Prop)->Prop):aH:=fun args kb K=>match args with
 |ac 0 0::rest=>∃ w q A,mV kb w q A/\PW A q w.R/\g rest w (fun r w'=>∀ q' A',PW A' q' w'.R->K r (eN w' q' A'))
 |_=>False
structure lb where
 k:Nat
 W:Wd
 q:List (Nat×Nat)
 A:List (Sg×KB)
structure jn (m:ei):Prop where
 r:Fm.gZ m.kd m.n m.b m.l
 b:Fm.uu m.b m.l
structure jz (w:Wd) (i:Nat):Prop where
 hi:i<w.R.length
 hd:i<w.dk.length
 r:bz (az w i)
 e:e_ (az w i).ep
 ol:(az w i).out.length<=1000
 dl:(az w i).done.length<=1000
 om:∀ p∈(az w i).out,jn p.m
 dn:∀ d∈(az w i).done,oO d
 bl:w.aa.length<=10000
 cl:w.cs.length<=1000
structure pY (w:Wd) (i:Nat) (x:lb):Prop where
 le:x.k<=(az w i).out.length
 W:x.W=eo (iJ w i) i ((az w i).out.take x.k)
 p:PW x.A x.q x.W.R
structure wR (w:Wd) (i:Nat) (x:lb):Prop where
 le:x.k<=(az w i).done.length
 W:x.W=((az w i).done.take x.k).foldl gX (eo (jr w i) i (az w i).out)
 p:PW x.A x.q x.W.R
structure PA where
 q:List (Nat×Nat)
 A:List (Sg×KB)
def fB (w:Wd) (i:Nat):Wd:={w with R:=w.R.set i {az w i with ch:=false },dk:=if(az w i).ch then w.dk.set i (du (az w i))else w.dk }
abbrev uZ (w:Wd) (i:Nat):LI where
 α:={x:PA // PW x.A x.q (fB w i).R}
 live:=[0,1]
 dN:=eW
 st x:=([ac 0 0,.int Z (i:Int)],eN (fB w i) x.1.q x.1.A)
 μ x:=0
abbrev CT (w:Wd) (i k:Nat):LI where
 α:={x:lb // pY w i x/\x.k=k/\k<(az w i).out.length}
 live:=[0,1,4,5,6]
 dN:=eW
 st x:=([ac 0 0,.int Z (i:Int),an (.sl 5 ((az w i).out.map bD)),.int Z (x.1.k:Int),an (.sl 1 (ints θ (ky (((az w i).out.getD k ⟨0,⟨0,[],[],[]⟩⟩).m))))],eN x.1.W x.1.q x.1.A)
 μ x:=0
def S5 (w:Wd) (i k:Nat):Nat->Option LI
 | 1008=>some (CT w i k)
 |_=>none
abbrev rh (w:Wd) (i:Nat):LI where
 α:={x:lb // pY w i x}
 live:=[0,1,4,5]
 dN:=eW
 st x:=([ac 0 0,.int Z (i:Int),an (.sl 5 ((az w i).out.map bD)),.int Z (x.1.k:Int)],eN x.1.W x.1.q x.1.A)
 μ x:=(az w i).out.length - x.1.k
 sub x:=S5 w i x.1.k
abbrev CS (w:Wd) (i:Nat):LI where
 α:={x:lb // wR w i x}
 live:=[0,8,9]
 dN:=eW
 st x:=([ac 0 0,an (.sl 7 ((az w i).done.map bo)),.int Z (x.1.k:Int)],eN x.1.W x.1.q x.1.A)
 μ x:=(az w i).done.length - x.1.k
def J3 (w:Wd) (i:Nat):FuncId->Nat->Option LI
 | 16,1002=>some (uZ w i)
 | 16,4=>some (rh w i)
 | 16,12=>some (CS w i)
 |_,_=>none
def BG:aH:=fun args kb K=>match args,kb with
 | [.agg [.int Z k,an (.sl 1 N),an (.sl 1 B),an (.sl 1 L)]],[]=>∃ n b l,N=ints Z n/\B=ints θ b/\L=l.map ax/\jn ⟨k,n,b,l⟩/\K (.υ [an (.sl 1 (ints θ (ky ⟨k,n,b,l⟩))),.int Z 0]) []
 |_,_=>False
def CV:FuncId->Option dw
 | 47=>some ⟨[],BG⟩
 | 48=>some ⟨[],BQ⟩
 |f=>tV f
noncomputable def IZ:bM:=dF Tryz.prog CV aM 10
theorem abj (w:Wd) (i:Nat) (q:List (Nat×Nat)) (A:List (Sg×KB)) (K:V->KB->Prop) (ay:
 (br (↑i:Int) (w.R.length - 0)/\
 ∃(e:List D),(ι bj q)[0+(↑i:Int).toNat]? =some e/\
 ∃(v:Value),e[0]? =some (η v)/\
 ∃(l:List (Nat×φ)),∃(i_1:Nat),∃(b:Nat),∃(R:φ),bO A l/\
 l[i_1]? =some (b,R)/\
 η v=η (pv b)/\
 fY []/\
 bz R/\
 ∀(A':List (Sg×KB)),bO A' (l.set i_1 (b,{me:=R.me,id:=R.id,ep:=R.ep,nu:=R.nu,ce:=R.ce,ti:=R.ti,bl:=R.bl,lo:=R.lo,ch:=false,c:=R.c,t:=R.t,v:=R.v,ld:=R.ld,out:=R.out,done:=R.done }))->
 (R.ch=true->
 br (↑i:Int) (w.R.length - 0)/\
 ∃(e:List D),(ι bj q)[0+(↑i:Int).toNat]? =some e/\
 ∃(v:Value),e[0]? =some (η v)/\
 True/\
 True/\
 ∃(l:List (Nat×φ)),∃(i_2:Nat),∃(b:Nat),∃(R:φ),bO A' l/\
 l[i_2]? =some (b,R)/\
 η v=η (pv b)/\
 fY []/\
 bz R/\
 e_ R.ep/\
 ∀(A':List (Sg×KB)),bO A' (l.set i_2 (b,R))->
 br (↑i:Int) (w.dk.length - 0)/\
 0+(↑i:Int).toNat<(ι ax w.dk).length/\
 At (uZ w i) ([ac 0 0,δ Z (↑i:Int)],[ω [ε 8 0 w.R.length,ε 9 0 w.dk.length,ε 10 0 w.vs.length,ε 11 0 w.aa.length,ε 12 0 w.cs.length,ε 13 0 w.au.length,δ Z w.now,ξ w.ok],ο,ο,ο,ο,ο,ο,bE A',ζ 30 1 (ι bj q),ζ 23 1 ((ι ax w.dk).set (0+(↑i:Int).toNat) [π 1 (ints θ (du R))]),ζ 49 5 (ι bt w.vs),ζ 73 3 (ι aZ w.aa),ζ 61 10 (ι bi w.cs),ζ 3 1 (ints Z w.au)]))/\
 (R.ch=false->
 At (uZ w i) ([ac 0 0,δ Z (↑i:Int)],[ω [ε 8 0 w.R.length,ε 9 0 w.dk.length,ε 10 0 w.vs.length,ε 11 0 w.aa.length,ε 12 0 w.cs.length,ε 13 0 w.au.length,δ Z w.now,ξ w.ok],ο,ο,ο,ο,ο,ο,bE A',ζ 30 1 (ι bj q),ζ 23 1 (ι ax w.dk),ζ 49 5 (ι bt w.vs),ζ 73 3 (ι aZ w.aa),ζ 61 10 (ι bi w.cs),ζ 3 1 (ints Z w.au)])))/\
 ∀(i_1:{x:PA // PW x.A x.q (fB w i).R }),br (↑i:Int) ((fB w i).R.length - 0)/\
 ∃(e:List D),(ι bj i_1.val.q)[0+(↑i:Int).toNat]? =some e/\
 ∃(v:Value),e[0]? =some (η v)/\
 ∃(l:List (Nat×φ)),∃(i_2:Nat),∃(b:Nat),∃(R:φ),bO i_1.val.A l/\
 l[i_2]? =some (b,R)/\
 η v=η (pv b)/\
 fY []/\
 bz R/\
 ∀(A':List (Sg×KB)),bO A' (l.set i_2 (b,{me:=R.me,id:=R.id,ep:=R.ep,nu:=R.nu,ce:=R.ce,ti:=R.ti,bl:=R.bl,lo:=R.lo,ch:=R.ch,c:=R.c,t:=R.t,v:=R.v,ld:=R.ld,out:=[],done:=R.done }))->
 At (rh w i) ([ac 0 0,δ Z (↑i:Int),an (π 5 (ι bD R.out)),δ Z 0],[ω [ε 8 0 (fB w i).R.length,ε 9 0 (fB w i).dk.length,ε 10 0 (fB w i).vs.length,ε 11 0 (fB w i).aa.length,ε 12 0 (fB w i).cs.length,ε 13 0 (fB w i).au.length,δ Z (fB w i).now,ξ (fB w i).ok],ο,ο,ο,ο,ο,ο,bE A',ζ 30 1 (ι bj i_1.val.q),ζ 23 1 (ι ax (fB w i).dk),ζ 49 5 (ι bt (fB w i).vs),ζ 73 3 (ι aZ (fB w i).aa),ζ 61 10 (ι bi (fB w i).cs),ζ 3 1 (ints Z (fB w i).au)])/\
 ∀(cp:{x:lb // pY w i x }),(decide ((↑cp.val.k:Int)<(↑(ι bD (az w i).out).length:Int))=true->
 aQ (↑cp.val.k:Int)/\
 ∃(e:List D),(ι bD (az w i).out)[(↑cp.val.k:Int).toNat]? =some e/\
 ∃(n:Int),e[1]? =some (η (κ Z n))/\
 ∃(l:List (List D)),e[2]? =some (π 1 l)/\
 ∃(l_1:List (List D)),e[3]? =some (π 1 l_1)/\
 ∃(l_2:List (List D)),e[4]? =some (π 1 l_2)/\
 ∃(n_1:List Int),∃(b:List Int),∃(dg:List (List Int)),l=ints Z n_1/\
 l_1=ints θ b/\
 l_2=ι ax dg/\
 jn {kd:=n,n:=n_1,b:=b,l:=dg }/\
 ((cp.val.W.ok=true->
 At (CT w i cp.val.k) ([ac 0 0,δ Z (↑i:Int),an (π 5 (ι bD (az w i).out)),δ Z (↑cp.val.k:Int),an (π 1 (ints θ (ky {kd:=n,n:=n_1,b:=b,l:=dg })))],[ω [ε 8 0 cp.val.W.R.length,ε 9 0 cp.val.W.dk.length,ε 10 0 cp.val.W.vs.length,ε 11 0 cp.val.W.aa.length,ε 12 0 cp.val.W.cs.length,ε 13 0 cp.val.W.au.length,δ Z cp.val.W.now,ξ true],ο,ο,ο,ο,ο,ο,bE cp.val.A,ζ 30 1 (ι bj cp.val.q),ζ 23 1 (ι ax cp.val.W.dk),ζ 49 5 (ι bt cp.val.W.vs),ζ 73 3 (ι aZ cp.val.W.aa),ζ 61 10 (ι bi cp.val.W.cs),ζ 3 1 (ints Z cp.val.W.au)]))/\
 (cp.val.W.ok=false->
 At (CT w i cp.val.k) ([ac 0 0,δ Z (↑i:Int),an (π 5 (ι bD (az w i).out)),δ Z (↑cp.val.k:Int),an (π 1 (ints θ (ky {kd:=n,n:=n_1,b:=b,l:=dg })))],[ω [ε 8 0 cp.val.W.R.length,ε 9 0 cp.val.W.dk.length,ε 10 0 cp.val.W.vs.length,ε 11 0 cp.val.W.aa.length,ε 12 0 cp.val.W.cs.length,ε 13 0 cp.val.W.au.length,δ Z cp.val.W.now,ξ false],ο,ο,ο,ο,ο,ο,bE cp.val.A,ζ 30 1 (ι bj cp.val.q),ζ 23 1 (ι ax cp.val.W.dk),ζ 49 5 (ι bt cp.val.W.vs),ζ 73 3 (ι aZ cp.val.W.aa),ζ 61 10 (ι bi cp.val.W.cs),ζ 3 1 (ints Z cp.val.W.au)])))/\
 ∀(dp:{x:lb // pY w i x/\
 x.k=cp.val.k/\
 cp.val.k<(az w i).out.length }),let dj:KB:=[ω [ε 8 0 dp.val.W.R.length,ε 9 0 dp.val.W.dk.length,ε 10 0 dp.val.W.vs.length,ε 11 0 dp.val.W.aa.length,ε 12 0 dp.val.W.cs.length,ε 13 0 dp.val.W.au.length,δ Z dp.val.W.now,ξ dp.val.W.ok],ο,ο,ο,ο,ο,ο,bE dp.val.A,ζ 30 1 (ι bj dp.val.q),ζ 23 1 (ι ax dp.val.W.dk),ζ 49 5 (ι bt dp.val.W.vs),ζ 73 3 (ι aZ dp.val.W.aa),ζ 61 10 (ι bi dp.val.W.cs),ζ 3 1 (ints Z dp.val.W.au)];let dD:=[ac 0 0,δ Z (↑i:Int),an (π 5 (ι bD (az w i).out)),δ Z (Z.wrap ((↑dp.val.k:Int)+1))];aQ (↑dp.val.k:Int)/\
 ∃(e:List D),(ι bD (az w i).out)[(↑dp.val.k:Int).toNat]? =some e/\
 ∃(n:Int),e[0]? =some (η (κ Z n))/\
 (decide (n ≥ 0)=true->
 aQ (↑dp.val.k:Int)/\
 ∃(e:List D),(ι bD (az w i).out)[(↑dp.val.k:Int).toNat]? =some e/\
 ∃(n:Int),e[0]? =some (η (κ Z n))/\
 (decide (n<4)=true->
 (decide ((↑(dp.val.W.aa.length - 0):Int)<2000)=true->
 aQ (↑dp.val.k:Int)/\
 ∃(e:List D),(ι bD (az w i).out)[(↑dp.val.k:Int).toNat]? =some e/\
 ∃(n:Int),e[0]? =some (η (κ Z n))/\
 True/\
 1<=1/\
 dp.val.W.aa.length<=(ι aZ dp.val.W.aa).length/\
 (dp.val.W.aa.length+1)*40<=140737488355328/\
 Nx (rh w i) cp (dD,[ω [ε 8 0 dp.val.W.R.length,ε 9 0 dp.val.W.dk.length,ε 10 0 dp.val.W.vs.length,ε 11 0 (dp.val.W.aa.length+1),ε 12 0 dp.val.W.cs.length,ε 13 0 dp.val.W.au.length,δ Z dp.val.W.now,ξ dp.val.W.ok],ο,ο,ο,ο,ο,ο,bE dp.val.A,ζ 30 1 (ι bj dp.val.q),ζ 23 1 (ι ax dp.val.W.dk),ζ 49 5 (ι bt dp.val.W.vs),ζ 73 3 (ah dp.val.W.aa.length (ι aZ dp.val.W.aa)++[[η (κ Z (↑i:Int)),η (κ Z n),π 1 (ints θ (ky ((az w i).out.getD cp.val.k {to:=0,m:={kd:=0,n:=[],b:=[],l:=[] } }).m))]]),ζ 61 10 (ι bi dp.val.W.cs),ζ 3 1 (ints Z dp.val.W.au)]))/\
 (decide ((↑(dp.val.W.aa.length - 0):Int)<2000)=false->
 Nx (rh w i) cp (dD,dj)))/\
 (decide (n<4)=false->
 Nx (rh w i) cp (dD,dj)))/\
 (decide (n ≥ 0)=false->
 Nx (rh w i) cp (dD,dj)))/\
 (decide ((↑cp.val.k:Int)<(↑(ι bD (az w i).out).length:Int))=false->
 br (↑i:Int) (cp.val.W.R.length - 0)/\
 ∃(e:List D),(ι bj cp.val.q)[0+(↑i:Int).toNat]? =some e/\
 ∃(v:Value),e[0]? =some (η v)/\
 ∃(l:List (Nat×φ)),∃(dp:Nat),∃(b:Nat),∃(R:φ),bO cp.val.A l/\
 l[dp]? =some (b,R)/\
 η v=η (pv b)/\
 fY []/\
 bz R/\
 ∀(A':List (Sg×KB)),bO A' (l.set dp (b,{me:=R.me,id:=R.id,ep:=R.ep,nu:=R.nu,ce:=R.ce,ti:=R.ti,bl:=R.bl,lo:=R.lo,ch:=R.ch,c:=R.c,t:=R.t,v:=R.v,ld:=R.ld,out:=R.out,done:=[] }))->
 At (CS w i) ([ac 0 0,an (π 7 (ι bo R.done)),δ Z 0],[ω [ε 8 0 cp.val.W.R.length,ε 9 0 cp.val.W.dk.length,ε 10 0 cp.val.W.vs.length,ε 11 0 cp.val.W.aa.length,ε 12 0 cp.val.W.cs.length,ε 13 0 cp.val.W.au.length,δ Z cp.val.W.now,ξ cp.val.W.ok],ο,ο,ο,ο,ο,ο,bE A',ζ 30 1 (ι bj cp.val.q),ζ 23 1 (ι ax cp.val.W.dk),ζ 49 5 (ι bt cp.val.W.vs),ζ 73 3 (ι aZ cp.val.W.aa),ζ 61 10 (ι bi cp.val.W.cs),ζ 3 1 (ints Z cp.val.W.au)])/\
 ∀(d_:{x:lb // wR w i x }),(decide ((↑d_.val.k:Int)<(↑(ι bo (az w i).done).length:Int))=true->
 aQ (↑d_.val.k:Int)/\
 ∃(e:List D),(ι bo (az w i).done)[(↑d_.val.k:Int).toNat]? =some e/\
 ∃(n:Int),e[0]? =some (η (κ Z n))/\
 ∃(n_1:Int),e[1]? =some (η (κ Z n_1))/\
 ∃(n_2:Int),e[2]? =some (η (κ Z n_2))/\
 ∃(iu:Int),e[3]? =some (η (κ Z iu))/\
 ∃(l:List (List D)),e[4]? =some (π 1 l)/\
 ∃(iK:Int),e[5]? =some (η (κ Z iK))/\
 ∃(l_1:List (List D)),e[6]? =some (π 1 l_1)/\
 ∃(w_1:Wd),∃(q:List (Nat×Nat)),∃(b:List Int),∃(x:List Int),ID [ω [ε 1 0 d_.val.W.R.length,ε 2 0 d_.val.W.dk.length,ε 3 0 d_.val.W.vs.length,ε 4 0 d_.val.W.aa.length,ε 5 0 d_.val.W.cs.length,ε 6 0 d_.val.W.au.length,δ Z d_.val.W.now,ξ d_.val.W.ok],ζ 30 1 (ι bj d_.val.q),ζ 23 1 (ι ax d_.val.W.dk),ζ 49 5 (ι bt d_.val.W.vs),ζ 73 3 (ι aZ d_.val.W.aa),ζ 61 10 (ι bi d_.val.W.cs),ζ 3 1 (ints Z d_.val.W.au)] w_1 q/\
 l=ints θ b/\
 l_1=ints θ x/\
 w_1.cs.length<=1000/\
 oO {o:={cl:=n,nm:=n_1,kd:=n_2,bk:=iu,b:=b },e:=iK,x:=x }/\
 ∀(w':Wd),w'=gX w_1 {o:={cl:=n,nm:=n_1,kd:=n_2,bk:=iu,b:=b },e:=iK,x:=x }->
 Nx (CS w i) d_ ([ac 0 0,an (π 7 (ι bo (az w i).done)),δ Z (Z.wrap ((↑d_.val.k:Int)+1))],[ω [ε 8 0 w'.R.length,ε 9 0 w'.dk.length,ε 10 0 w'.vs.length,ε 11 0 w'.aa.length,ε 12 0 w'.cs.length,ε 13 0 w'.au.length,δ Z w'.now,ξ w'.ok],ο,ο,ο,ο,ο,ο,bE d_.val.A,ζ 30 1 (ι bj q),ζ 23 1 (ι ax w'.dk),ζ 49 5 (ι bt w'.vs),ζ 73 3 (ι aZ w'.aa),ζ 61 10 (ι bi w'.cs),ζ 3 1 (ints Z w'.au)]))/\
 (decide ((↑d_.val.k:Int)<(↑(ι bo (az w i).done).length:Int))=false->
 K (ar []) [ω [ε 8 0 d_.val.W.R.length,ε 9 0 d_.val.W.dk.length,ε 10 0 d_.val.W.vs.length,ε 11 0 d_.val.W.aa.length,ε 12 0 d_.val.W.cs.length,ε 13 0 d_.val.W.au.length,δ Z d_.val.W.now,ξ d_.val.W.ok],ο,ο,ο,ο,ο,ο,bE d_.val.A,ζ 30 1 (ι bj d_.val.q),ζ 23 1 (ι ax d_.val.W.dk),ζ 49 5 (ι bt d_.val.W.vs),ζ 73 3 (ι aZ d_.val.W.aa),ζ 61 10 (ι bi d_.val.W.cs),ζ 3 1 (ints Z d_.val.W.au)]))
 ):aO Tryz.prog IZ (J3 w i 16) 16 [ac 0 0,.int Z (i:Int)] (k9 w q A) (eX eW (dh 8 K)):=by apply Eq.mp (a:=ay);kernel_rfl
theorem CU.lt {l:List (Nat×φ)} {q:List (Nat×Nat)} {R:List φ} (h:CU l q R) {i:Nat} (hi:i<R.length):∃ p,q[i]? =some p:=⟨_,bx (by rw[h.len];exact hi)⟩
theorem PW.get {A:List (Sg×KB)} {q:List (Nat×Nat)} {R:List φ} (h:PW A q R) {i:Nat} {r:φ} (hi:R[i]? =some r):∃ l k b,q[i]? =some (k,b)/\bO A l/\l[k]? =some (b,r)/\∀(r':φ) A',bO A' (l.set k (b,r'))->PW A' q (R.set i r'):=by
 obtain⟨l,hp,hc⟩:=h.h
 obtain⟨⟨k,b⟩,hq⟩:=hc.lt (bU.1 hi).1
 obtain⟨r2,h1,h2⟩:=hc.a i _ hq
 rw[hi]at h1;cases h1
 refine⟨l,k,b,hq,hp,h2,fun r' A' hA=>⟨_,hA,by rw[gC];exact hc.len,fun j p hj=>?_,hc.nd⟩⟩
 by_cases e:i=j
 ·subst e
  rw[hq]at hj;cases hj
  refine⟨r',gB (bU.1 hi).1,gB (bU.1 h2).1⟩
 ·obtain⟨r3,h3,h4⟩:=hc.a j p hj
  refine⟨r3,by rw[fR e];exact h3,?_⟩
  rw[fR]
  ·exact h4
  ·intro e2
   have n1:(q.map (·.1))[i]? =some k:=by rw[fG,hq];rfl
   have n2:(q.map (·.1))[j]? =some k:=by rw[fG,hj,e2];rfl
   have h5:=(bU.1 n1)
   have h6:=(bU.1 n2)
   exact e ((List.getElem_inj (h₀:=h5.1) (h₁:=h6.1) hc.nd).1 (h5.2.trans h6.2.symm))
theorem pF {w:Wd} {i:Nat} (h:i<w.R.length):w.R[i]? =some (az w i):=by
 unfold az;rw[kn,bx h];rfl
theorem Pr (i:Int) (w:Wd) (p:Post):(ii i w p).R=w.R/\(ii i w p).dk=w.dk/\(ii i w p).vs=w.vs/\(ii i w p).cs=w.cs/\(ii i w p).au=w.au/\(ii i w p).now=w.now/\(ii i w p).ok=w.ok/\(ii i w p).aa.length<=max 2000 w.aa.length:=by
 unfold ii;split
 ·refine⟨rfl,rfl,rfl,rfl,rfl,rfl,rfl,?_⟩
  simp only[bw,ko];omega
 ·exact⟨rfl,rfl,rfl,rfl,rfl,rfl,rfl,by omega⟩
theorem wj (i:Nat):∀(l:List Post) (w:Wd),(eo w i l).R=w.R/\(eo w i l).dk=w.dk/\(eo w i l).vs=w.vs/\(eo w i l).cs=w.cs/\(eo w i l).au=w.au/\(eo w i l).now=w.now/\(eo w i l).ok=w.ok/\(eo w i l).aa.length<=max 2000 w.aa.length
 | [],w=>⟨rfl,rfl,rfl,rfl,rfl,rfl,rfl,by show w.aa.length<=_;omega⟩
 |p::l,w=>by
  obtain⟨a1,a2,a3,a4,a5,a6,a7,a8⟩:=Pr i w p
  obtain⟨b1,b2,b3,b4,b5,b6,b7,b8⟩:=wj i l (ii i w p)
  exact⟨b1.trans a1,b2.trans a2,b3.trans a3,b4.trans a4,b5.trans a5,b6.trans a6,b7.trans a7,by show(eo (ii i w p) i l).aa.length<=_;omega⟩
theorem Ps (i:Nat) (R:List φ):∀(l:List Post) (w:Wd),eo {w with R:=R } i l={eo w i l with R:=R }
 | [],w=>rfl
 |p::l,w=>by
  have:ii i {w with R:=R } p={ii i w p with R:=R }:=by unfold ii;dsimp only;split<;>rfl
  show eo (ii i {w with R:=R } p) i l=_
  rw[this,Ps i R l];rfl
theorem aaX (w:Wd) (d:Dn):(gX w d).R=w.R/\(gX w d).cs.length=w.cs.length:=⟨rfl,by show(w.cs.map _).length=_;rw[cg]⟩
theorem wx:∀(l:List Dn) (w:Wd),(l.foldl gX w).R=w.R/\(l.foldl gX w).cs.length=w.cs.length
 | [],w=>⟨rfl,rfl⟩
 |d::l,w=>⟨(wx l (gX w d)).1,(wx l (gX w d)).2.trans (aaX w d).2⟩
theorem X2:aT Tryz.prog 47 BG:=fun args kb K hs=>Fm.XZ args kb K (by
 unfold BG at hs;split at hs<;>try exact hs.elim
 obtain⟨n,b,l,rfl,rfl,rfl,hr,h⟩:=hs
 have yS:Fm.gZ _ n b l:=hr.r
 exact⟨n,b,l,rfl,rfl,rfl,⟨by have:=yS.nl;simp only[maxLen];omega,by have:=yS.bl;simp only[maxLen];omega,by have:=yS.ll;simp only[maxLen];omega,fun t ht=>by have:=yS.ts t ht;simp only[maxLen];omega⟩,hr.b,fun _=>h,fun hn=>absurd hr.r hn⟩)
theorem S4:dE Tryz.prog CV:=fun f k h=>by
 unfold CV at h
 split at h
 ·cases h;exact X2
 ·cases h;exact Yk
 ·exact zX _ _ h
theorem RI:bW Tryz.prog IZ:=dI mixed S4 aM 10
def Ik:List V->Wd->(V->Wd->Prop)->Prop:=fun rest w k=>∃ i:Nat,rest=[.int Z (i:Int)]/\jz w i/\∀ w',w'=jo w i->k (.υ []) w'
theorem kX {q:List (Nat×Nat)} {i k b:Nat} (h:q[i]? =some (k,b)):(q.map bj)[0+(i:Int).toNat]? =some [η (pv b)]:=by rw[cL,dr,fG,h];rfl
theorem AL {W:Wd} {R':List φ} (h:R'.length=W.R.length) (q:List (Nat×Nat)) (A:List (Sg×KB)):eN W q A=eN {W with R:=R' } q A:=by
 show[ω [.sl 8 0 W.R.length,_,_,_,_,_,_,_],_,_,_,_,_,_,_,_,_,_,_,_,_]=[ω [.sl 8 0 R'.length,_,_,_,_,_,_,_],_,_,_,_,_,_,_,_,_,_,_,_,_]
 rw[h]
theorem ZV {W:Wd} {i:Nat} {x:Post} (h:0<=x.to/\x.to<4/\W.aa.length<2000) (q:List (Nat×Nat)) (A:List (Sg×KB)):eN (ii i W x) q A=[ω [.sl 8 0 W.R.length,.sl 9 0 W.dk.length,.sl 10 0 W.vs.length,.sl 11 0 (W.aa.length+1),.sl 12 0 W.cs.length,.sl 13 0 W.au.length,.int Z W.now,ξ W.ok],ο,ο,ο,ο,ο,ο,bE A,jw q,jO W,jx W,ζ 73 3 (ah W.aa.length (W.aa.map aZ)++[[.val (.int Z (i:Int)),.val (.int Z x.to),.sl 1 (ints θ (ky x.m))]]),ke W,kf W]:=by
 have hy:ii i W x={W with aa:=W.aa++[⟨i,x.to,x.m⟩] }:=if_pos h
 have eb:(W.aa++[(⟨i,x.to,x.m⟩:mW)]).length=W.aa.length+1:=by rw[bw];rfl
 have er:(W.aa++[(⟨i,x.to,x.m⟩:mW)]).map aZ=ah W.aa.length (W.aa.map aZ)++[[η (.int Z (i:Int)),η (.int Z x.to),.sl 1 (ints θ (ky x.m))]]:=by
  rw[jC,fI (by rw[cg];exact aE _)];rfl
 rw[hy]
 unfold eN iQ jg
 dsimp only
 rw[eb,er]
theorem WY:aT Tryz.prog 16 (WM Ik):=mP RI mixed eW (fun args kb K h=>by
 unfold WM at h;split at h<;>try exact h.elim
 obtain⟨w,q,A,⟨rfl⟩,hp,i,rfl,hc,h⟩:=h
 refine⟨J3 w i 16,?_⟩
 show aO _ _ _ _ _ _ (eX eW (dh 8 K))
 apply abj w i q A K
 have rH:=pF hc.hi
 have hi:=hc.hi
 have hd:=hc.hd
 obtain⟨l,k,b,hq,hA,hl,dG⟩:=hp.get rH
 rw[kp]
 have cut:∀ A',PW A' q (fB w i).R->(az w i).ch=true->At (uZ w i) ([ac 0 0,.int Z (i:Int)],[iQ 8 w,ο,ο,ο,ο,ο,ο,bE A',jw q,ζ 23 1 ((w.dk.map ax).set (0+(i:Int).toNat) [.sl 1 (ints θ (du (az w i)))]),jx w,jg w,ke w,kf w]):=fun A' p h1=>by
  refine At.mk' (⟨⟨q,A'⟩,p⟩:{x:PA // PW x.A x.q (fB w i).R}) ?_
  have e:fB w i={w with R:=w.R.set i {az w i with ch:=false },dk:=w.dk.set i (du (az w i)) }:=by unfold fB;rw[if_pos h1]
  show(_,_)=(_,eN (fB w i) q A')
  rw[e,cL,dr]
  show(_,_)=([ac 0 0,.int Z (i:Int)],[ω [.sl 8 0 (w.R.set i _).length,.sl 9 0 (w.dk.set i _).length,_,_,_,_,_,_],_,_,_,_,_,_,_,_,ζ _ _ (ι ax (w.dk.set i _)),_,_,_,_])
  rw[gC,gC,List.map_set];rfl
 have Kd:∀ A',PW A' q (fB w i).R->(az w i).ch=false->At (uZ w i) ([ac 0 0,.int Z (i:Int)],eN w q A'):=fun A' p h1=>by
  refine At.mk' (⟨⟨q,A'⟩,p⟩:{x:PA // PW x.A x.q (fB w i).R}) ?_
  have e:fB w i={w with R:=w.R.set i {az w i with ch:=false } }:=by unfold fB;rw[if_neg (by rw[h1];exact Bool.false_ne_true)]
  show(_,_)=(_,eN (fB w i) q A')
  rw[e,AL (W:=w) (R':=w.R.set i {az w i with ch:=false }) (by rw[gC])]
 have hin:br (i:Int) w.R.length:=by unfold br;omega
 refine⟨⟨hin,_,kX hq,_,rfl,l,k,b,_,hA,hl,rfl,⟨rfl⟩,hc.r,fun A1 p1=>⟨fun c1=>?_,fun c1=>?_⟩⟩,?_⟩
 ·have P1:=dG _ _ p1
  obtain⟨l2,k2,b2,o9,Ua,hl2,Vl⟩:=P1.get (i:=i) (r:={az w i with ch:=false }) (gB hi)
  rw[hq]at o9;cases o9
  refine⟨hin,_,kX hq,_,rfl,trivial,trivial,l2,k,b,_,Ua,hl2,rfl,⟨rfl⟩,xX hc.r false,hc.e,fun A2 p2=>⟨by unfold br;omega,by rw[cg];omega,?_⟩⟩
  have P2:=Vl _ _ p2
  rw[List.set_set]at P2
  exact cut A2 P2 c1
 ·exact Kd A1 (dG _ _ p1) c1
 clear cut Kd dG hl hA l
 rintro⟨⟨q1,A1⟩,P1⟩
 dsimp only at P1 ⊢
 have kl:(fB w i).R.length=w.R.length:=by show(w.R.set i _).length=_;rw[gC]
 obtain⟨l,k,b,hq,hA,hl,dG⟩:=P1.get (i:=i) (r:={az w i with ch:=false }) (gB hi)
 refine⟨by rw[kl,kp];exact hin,_,kX hq,_,rfl,l,k,b,_,hA,hl,rfl,⟨rfl⟩,xX hc.r false,fun A2 p2=>⟨?_,?_⟩⟩
 ·have P2:=dG _ _ p2
  have e:(fB w i).R.set i {az w i with ch:=false,out:=[] }=(iJ w i).R:=by show(w.R.set i _).set i _=_;rw[List.set_set];rfl
  refine At.mk' (⟨⟨0,iJ w i,q1,A2⟩,bF _,rfl,by rw[<- e];exact P2⟩:{x:lb // pY w i x}) ?_
  show(_,eN (fB w i) q1 A2)=(_,eN (iJ w i) q1 A2)
  rw[AL (W:=fB w i) (R':=(iJ w i).R) (by rw[<- e,gC])]
  rfl
 clear p2 A2 dG hl hA l hq k b P1 A1 q1 kl
 rintro⟨⟨k,W,q1,A1⟩,hle,hW,P1⟩
 dsimp only at hle hW P1 ⊢
 subst hW
 obtain⟨s1,s2,s3,s4,s5,s6,s7,s8⟩:=wj i ((az w i).out.take k) (iJ w i)
 have e3:(iJ w i).R.length=w.R.length:=by show(w.R.set i _).length=_;rw[gC]
 have ol:=hc.ol
 refine⟨fun hlt=>?_,fun hge=>?_⟩
 ·have hlt:k<(az w i).out.length:=by rw[decide_eq_true_eq,cg]at hlt;omega
  have hg:=bx hlt
  have hgd:(az w i).out.getD k ⟨0,⟨0,[],[],[]⟩⟩=(az w i).out[k]:=by rw[kn,hg];rfl
  have EC:(az w i).out.take (k+1)=(az w i).out.take k++[(az w i).out[k]]:=by rw[jY,hg];rfl
  have hmem:(az w i).out[k]∈(az w i).out:=List.getElem_mem hlt
  generalize (az w i).out[k]=x at*
  refine⟨by unfold aQ;omega,bD x,by rw[dr,fG,hg];rfl,x.m.kd,rfl,_,rfl,_,rfl,_,rfl,x.m.n,x.m.b,x.m.l,rfl,rfl,rfl,hc.om x hmem,⟨fun h1=>?_,fun h1=>?_⟩,?_⟩
  ·refine At.mk' (⟨⟨k,eo (iJ w i) i ((az w i).out.take k),q1,A1⟩,⟨hle,rfl,P1⟩,rfl,hlt⟩:{x:lb // pY w i x/\x.k=k/\k<(az w i).out.length}) ?_
   show(_,_)=([_,_,_,_,an (.sl 1 (ints θ (ky ((az w i).out.getD k ⟨0,⟨0,[],[],[]⟩⟩).m)))],eN (eo (iJ w i) i ((az w i).out.take k)) q1 A1)
   rw[hgd,<- h1]
  ·refine At.mk' (⟨⟨k,eo (iJ w i) i ((az w i).out.take k),q1,A1⟩,⟨hle,rfl,P1⟩,rfl,hlt⟩:{x:lb // pY w i x/\x.k=k/\k<(az w i).out.length}) ?_
   show(_,_)=([_,_,_,_,an (.sl 1 (ints θ (ky ((az w i).out.getD k ⟨0,⟨0,[],[],[]⟩⟩).m)))],eN (eo (iJ w i) i ((az w i).out.take k)) q1 A1)
   rw[hgd,<- h1]
  rintro⟨⟨k2,W,q2,A2⟩,⟨_,hW,P2⟩,hk,_⟩
  dsimp only at hk hW P2 ⊢
  subst hk hW
  have w1:Z.wrap ((k2:Int)+1)=((k2+1:Nat):Int):=by rw[bR (by omega) (by omega)];rfl
  have hS:eo (iJ w i) i ((az w i).out.take (k2+1))=ii i (eo (iJ w i) i ((az w i).out.take k2)) x:=by unfold eo;rw[EC,List.foldl_append];rfl
  have nx:∀ W':Wd,W'=ii i (eo (iJ w i) i ((az w i).out.take k2)) x->Nx (rh w i) ⟨⟨k2,eo (iJ w i) i ((az w i).out.take k2),q1,A1⟩,hle,rfl,P1⟩ ([ac 0 0,.int Z (i:Int),an (.sl 5 ((az w i).out.map bD)),.int Z (Z.wrap ((k2:Int)+1))],eN W' q2 A2):=fun W' yE=>by
   refine Nx.mk' (⟨⟨k2+1,W',q2,A2⟩,⟨hlt,yE.trans hS.symm,by rw[yE,(Pr i _ x).1];exact P2⟩⟩:{x:lb // pY w i x}) ?_ (by show(az w i).out.length - (k2+1)<(az w i).out.length - k2;omega)
   rw[w1]
  have no:∀ W:Wd,¬ (0<=x.to/\x.to<4/\W.aa.length<2000)->ii i W x=W:=fun W h=>if_neg h
  have hge:((az w i).out.map bD)[(k2:Int).toNat]? =some (bD x):=by rw[dr,fG,hg];rfl
  have j5:aQ (k2:Int):=by unfold aQ;omega
  have bX:=hc.bl
  refine⟨j5,bD x,hge,x.to,rfl,fun t1=>⟨j5,bD x,hge,x.to,rfl,fun t2=>⟨fun t3=>?_,fun t3=>?_⟩,fun t2=>?_⟩,fun t1=>?_⟩
  ·rw[decide_eq_true_eq]at t1 t2 t3
   refine⟨j5,bD x,hge,x.to,rfl,trivial,aE _,by rw[cg];exact aE _,by omega,?_⟩
   have:=nx _ rfl
   rw[ZV ⟨t1,t2,by omega⟩]at this
   rw[hgd]
   exact this
  ·rw[decide_eq_false_iff_not]at t3
   exact nx _ (no _ fun q=>t3 (by omega)).symm
  ·rw[decide_eq_false_iff_not]at t2
   exact nx _ (no _ fun q=>t2 q.2.1).symm
  ·rw[decide_eq_false_iff_not]at t1
   exact nx _ (no _ fun q=>t1 q.1).symm
 ·have hk:k=(az w i).out.length:=by rw[decide_eq_false_iff_not,cg]at hge;omega
  subst hk
  rw[cN]at*
  have hR:(eo (iJ w i) i (az w i).out).R[i]? =some {az w i with ch:=false,out:=[] }:=by rw[s1];exact gB hi
  obtain⟨l,k,b,hq,hA,hl,dG⟩:=P1.get hR
  refine⟨by rw[s1,e3,kp];exact hin,_,kX hq,_,rfl,l,k,b,_,hA,hl,rfl,⟨rfl⟩,Oo (xX hc.r false),fun A2 p2=>⟨?_,?_⟩⟩
  ·have P2:=dG _ _ p2
   have e:(eo (iJ w i) i (az w i).out).R.set i (nY (az w i))=(jr w i).R:=by rw[s1];show(w.R.set i _).set i _=_;rw[List.set_set];rfl
   have e2:eo (jr w i) i (az w i).out={eo (iJ w i) i (az w i).out with R:=(jr w i).R }:=Ps i (jr w i).R (az w i).out (iJ w i)
   refine At.mk' (⟨⟨0,{eo (iJ w i) i (az w i).out with R:=(jr w i).R },q1,A2⟩,bF _,e2.symm,by rw[<- e];exact P2⟩:{x:lb // wR w i x}) ?_
   show(_,eN _ q1 A2)=(_,eN {eo (iJ w i) i (az w i).out with R:=(jr w i).R } q1 A2)
   rw[<- AL (R':=(jr w i).R) (by rw[<- e,gC])]
   rfl
  rintro⟨⟨k,W,q2,A2⟩,hle2,hW,P2⟩
  dsimp only at hle2 hW P2 ⊢
  have dl:=hc.dl
  obtain⟨t1,t2,t3,t4,_⟩:=wj i (az w i).out (jr w i)
  have f1:=wx ((az w i).done.take k) (eo (jr w i) i (az w i).out)
  rw[<- hW,t4]at f1
  refine⟨fun hlt=>?_,fun hge=>?_⟩
  ·have hlt:k<(az w i).done.length:=by rw[decide_eq_true_eq,cg]at hlt;omega
   have hg:=bx hlt
   have EC:(az w i).done.take (k+1)=(az w i).done.take k++[(az w i).done[k]]:=by rw[jY,hg];rfl
   have hmem:(az w i).done[k]∈(az w i).done:=List.getElem_mem hlt
   generalize (az w i).done[k]=d at*
   refine⟨by unfold aQ;omega,bo d,by rw[dr,fG,hg];rfl,d.o.cl,rfl,d.o.nm,rfl,d.o.kd,rfl,d.o.bk,rfl,_,rfl,d.e,rfl,_,rfl,W,q2,d.o.b,d.x,⟨rfl⟩,rfl,rfl,by rw[f1.2];exact hc.cl,hc.dn d hmem,fun w' hw'=>?_⟩
   refine Nx.mk' (⟨⟨k+1,w',q2,A2⟩,⟨hlt,by rw[hw',EC,List.foldl_append,<- hW];rfl,by rw[hw'];exact P2⟩⟩:{x:lb // wR w i x}) ?_ (by show(az w i).done.length - (k+1)<(az w i).done.length - k;omega)
   rw[bR (by omega) (by omega)]
   rfl
  ·have hk:k=(az w i).done.length:=by rw[decide_eq_false_iff_not,cg]at hge;omega
   subst hk
   rw[cN]at hW
   exact h W hW q2 A2 P2)
structure RW (T:Int) (R:φ):Prop where
 i:bz R
 id:R.id=5
 e0:0<=R.ep
 e1:R.ep<=T
 n1:R.nu<=T
 vl:R.v.mem.length+R.v.aL.length<=1000
 t0:0<=R.ti
 t1:R.ti<=T
 om:∀ p∈R.out,jn p.m/\bV p.m 1<=T/\bV p.m 2<=T
 dn:∀ d∈R.done,oO d
 cu:∀ o,cm R=some o->o.b.length<=2048
structure MW (T:Int) (m:ei):Prop where
 r:jn m
 n1:bV m 1<=T
 n2:bV m 2<=T
theorem MW.ok {T:Int} {m:ei} (h:MW T m):jD m:=⟨h.r.b.b,by have:=h.r.r.bl;omega,fun y hy=>⟨h.r.b.l y hy,by have:=h.r.r.ts y hy;omega⟩⟩
theorem GB {kd:Int} {n b:List Int} {l:List (List Int)} (h:Fm.gZ kd n b l) (hb:Fm.uu b l):jn ⟨kd,n,b,l⟩:=⟨h,hb⟩
theorem zZ {T kd ep nu:Int} (hT:T<=1000000) (k:kd=11∨kd=13∨kd=14) (h1:0<=ep/\ep<=T) (h2:0<=nu/\nu<=T):jn ⟨kd,[5,ep,nu],[],[]⟩:=
 GB ⟨by omega,by omega,by show 3<=16;omega,bF _,bF _,fun x hx=>by
  simp only[eP,List.not_mem_nil,or_false]at hx;omega,fun t ht=>(by cases ht),bF _⟩ ⟨fun c h=>(by cases h),fun t h=>(by cases h)⟩
theorem Pb {T ep nu:Int} (hT:T<=1000000) {c:List Int} {x:List L3} (hc:c.length=128) (hb:bm c) (hx:fx x) (h1:0<=ep/\ep<=T) (h2:0<=nu/\nu<=T):jn ⟨10,[5,ep,nu],bT c,[bb x]⟩:=by
 have hl:=sj hx.len x.length
 rw[qN]at hl
 refine GB ⟨by omega,by omega,by show 3<=16;omega,by rw[qJ hc];omega,by show 1<=64;omega,fun y hy=>?_,fun t ht=>?_,?_⟩ ⟨Ae hb,fun t ht=>?_⟩
 ·simp only[eP,List.not_mem_nil,or_false]at hy;omega
 ·rw[gY]at ht;subst ht;omega
 ·show(bb x).length+0<=_;omega
 ·rw[gY]at ht;subst ht;exact Hf hx
theorem ZH {T ep nu:Int} (hT:T<=1000000) {o:Op} (hr:gg o=true) (ho:fi o) (hb:o.b.length<=2048) (c:List Int) (h1:0<=ep/\ep<=T) (h2:0<=nu/\nu<=T):jn ⟨12,[5,ep,nu,o.cl,o.nm,o.kd,o.bk,dy c],o.b,[]⟩:=by
 have k:=Pa hr
 have LF:=x8 c
 refine GB ⟨by omega,by omega,by show 8<=16;omega,hb,bF _,fun y hy=>?_,fun t ht=>(by cases ht),bF _⟩ ⟨ho.b,fun t ht=>(by cases ht)⟩
 simp only[eP,List.not_mem_nil,or_false]at hy;omega
theorem oO.nil (o:Op) (e:Int):oO ⟨o,e,[]⟩:=⟨fun c h=>(by cases h),bF _⟩
theorem Zi {c:List Int} (hb:bm c) (o:Op) (e:Int):oO ⟨o,e,oC c o⟩:=by
 constructor
 ·intro x hx
  have hx:x∈oC c o:=hx
  unfold oC at hx;split at hx
  ·exact hb x (List.mem_of_mem_drop (List.mem_of_mem_take hx))
  ·cases hx
 ·show(oC c o).length<=_
  unfold oC;split
  ·rw[cW];omega
  ·exact bF _
section
variable {T:Int} {R:φ}
theorem RW.mono {T2:Int} (h:RW T R) (hT:T<=T2):RW T2 R:=⟨h.i,h.id,h.e0,by have:=h.e1;omega,by have:=h.n1;omega,h.vl,h.t0,by have:=h.t1;omega,fun p hp=>by have:=h.om p hp;exact⟨this.1,by omega,by omega⟩,h.dn,h.cu⟩
theorem qC {α:Type} {l:List α} {a x:α} {P:α->Prop} (h:∀ y∈l,P y) (ha:P a) (hx:x∈l++[a]):P x:=by
 rcases gl.1 hx with hx | hx
 ·exact h x hx
 ·rw[gY]at hx;rw[hx];exact ha
theorem AW (h:RW T R) (hd:R.done.length<100000):RW T (gk R):=by
 refine⟨(uo h.i hd).1,h.id,h.e0,h.e1,h.n1,h.vl,h.t0,h.t1,h.om,fun d hm=>?_,fun o ho=>by simp [gk,cm]at ho⟩
 have hm:d∈R.done++(match cm R with | some o=>[⟨o,19,[]⟩] | none=>[]):=hm
 rcases gl.1 hm with hm | hm
 ·exact h.dn d hm
 ·cases hc:cm R with
  |none=>rw[hc]at hm;cases hm
  |some o=>rw[hc]at hm;rw[gY]at hm;subst hm;exact oO.nil _ _
theorem Dx (h:RW T R) (hd:R.done.length<100000):RW T (fN R):=by
 have hi:=(Dw h.i hd).1
 unfold fN at hi ⊢
 split
 ·rename_i L hl
  split
  ·rename_i o ho
   split
   ·rename_i ha
    rw[hl]at hi;dsimp only at hi;rw[ho]at hi;dsimp only at hi;rw[if_pos ha]at hi
    exact⟨hi,h.id,h.e0,h.e1,h.n1,h.vl,h.t0,h.t1,h.om,fun d hm=>qC h.dn (Zi h.i.ok.cb o 0) hm,fun o ho=>by simp [cm]at ho⟩
   ·exact h
  ·exact h
 ·exact h
theorem wi (h:RW T R) (hT:T<=1000000) (ho:R.out.length<100000) {to kd:Int} {n b:List Int} {l:List (List Int)} {nu:Int} (hn:n=nu::n.tail) (lX:nu<=T) (hm:jn ⟨kd,5::R.ep::n,b,l⟩):RW T (gw R to kd n b l):=by
 have hm':jD ⟨kd,R.id::R.ep::n,b,l⟩:=by
  rw[h.id]
  exact⟨hm.b.b,by have:=hm.r.bl;have:b.length<=2048:=this;show b.length<=_;omega,fun y hy=>⟨hm.b.l y hy,by have:=hm.r.ts y hy;omega⟩⟩
 refine⟨(ua h.i ho hm').i,h.id,h.e0,h.e1,h.n1,h.vl,h.t0,h.t1,fun p hp=>?_,h.dn,h.cu⟩
 have hP:jn (⟨to,⟨kd,R.id::R.ep::n,b,l⟩⟩:Post).m/\bV (⟨to,⟨kd,R.id::R.ep::n,b,l⟩⟩:Post).m 1<=T/\bV (⟨to,⟨kd,R.id::R.ep::n,b,l⟩⟩:Post).m 2<=T:=
  ⟨by rw[<- h.id]at hm;exact hm,h.e1,by show(R.id::R.ep::n).getD 2 0<=T;rw[hn];exact lX⟩
 exact qC (P:=fun p=>jn p.m/\bV p.m 1<=T/\bV p.m 2<=T) h.om hP hp
theorem tH (h:RW T R):0<=R.nu/\R.nu<=T:=⟨h.i.ok.n0,h.n1⟩
theorem Ng (h:RW T R) (hT:T<=1000000) (ho:R.out.length<100000) (to:Int):RW T (oz R to):=wi h hT ho (nu:=R.nu) rfl h.n1 (zZ hT (.inr (.inr rfl)) ⟨h.e0,h.e1⟩ (tH h))
theorem aak (h:RW T R) (hT:T<=1000000) (ho:R.out.length<100000) (to:Int):RW T (oE R to):=wi h hT ho (nu:=R.nu) rfl h.n1 (Pb hT h.i.ok.cl h.i.ok.cb h.i.tx ⟨h.e0,h.e1⟩ (tH h))
theorem zf (h:RW T R) {L:dx} (hl:R.ld=some L) (f g:Int->Bool):RW T {R with ld:=some ⟨f,g,L.cur⟩ }:=by
 have hc:cm R=L.cur:=by unfold cm;rw[hl];rfl
 exact⟨vF h.i hl f g,h.id,h.e0,h.e1,h.n1,h.vl,h.t0,h.t1,h.om,h.dn,fun o ho=>h.cu o (by rw[hc];exact ho)⟩
theorem aay (h:RW T R) (hT:T<=1000000) (ho:R.out.length<100000) (hd:R.done.length<100000) (fr:Int) {m:ei} (hm:MW T m) (hw:m.n.any cM=false):RW T (iP R fr m):=by
 unfold iP
 split
 ·exact Ng h hT ho fr
 ·split
  ·rename_i c t hc ht
   have hy:=AW h hd
   obtain⟨c1,c2⟩:=MS hc
   have cb:bm c:=fun x hx=>hm.ok.b x (by rw[c2];unfold bT;exact lR _ hx)
   have n1:=AP hw (i:=1)
   have n2:=AP hw (i:=2)
   have m1:=hm.n1
   have m2:=hm.n2
   have hY:RW T {gk R with ep:=bV m 1,nu:=bV m 2,c:=c,t:=t,ch:=true }:=by
    refine⟨⟨⟨c1,cb,n2.1,by show bV m 2<=_;omega,hy.i.ok.vl,hy.i.ok.ol,hy.i.ok.dl,fun o ho=>by simp [gk,cm]at ho⟩,(MX ht).1,hy.i.om,fun o ho=>by simp [gk,cm]at ho⟩,h.id,n1.1,m1,m2,h.vl,h.t0,h.t1,h.om,hy.dn,fun o ho=>by simp [gk,cm]at ho⟩
   exact wi (to:=fr) (kd:=11) (n:=[bV m 2]) (b:=[]) (l:=[]) hY hT ho (nu:=bV m 2) rfl m2 (zZ hT (.inl rfl) ⟨n1.1,m1⟩ ⟨n2.1,m2⟩)
  ·exact h
theorem aau (h:RW T R) (hd:R.done.length<100000) (fr:Int) (m:ei):RW T (ik R fr m):=by
 unfold ik
 split
 ·exact h
 ·rename_i L hl
  split
  ·exact h
  ·split
   ·rename_i hc
    have:=zf h hl (mark L.ins fr true) L.dR
    rw[hc]at this;exact this
   ·rename_i o hc
    have:=zf h hl (mark L.ins fr true) (mark L.dR fr true)
    rw[hc]at this
    exact Dx this hd
theorem YA (h:RW T R) (hd:R.done.length<100000) (fr:Int) (m:ei):RW T (ia R fr m):=by
 unfold ia
 split
 ·exact h
 ·rename_i L hl
  split
  ·exact h
  ·rename_i o hc
   split
   ·have:=zf h hl L.ins (mark L.dR fr true)
    rw[hc]at this
    exact Dx this hd
   ·exact h
theorem Wc (h:RW T R) (b:Bool):RW T {R with lo:=b }:=⟨⟨⟨h.i.ok.cl,h.i.ok.cb,h.i.ok.n0,h.i.ok.n1,h.i.ok.vl,h.i.ok.ol,h.i.ok.dl,h.i.ok.cr⟩,h.i.tx,h.i.om,h.i.oc⟩,h.id,h.e0,h.e1,h.n1,h.vl,h.t0,h.t1,h.om,h.dn,h.cu⟩
theorem Zv (h:RW T R) (hT:T<=1000000) (ho:R.out.length<100000) (hd:R.done.length<100000) (fr:Int) (m:ei):RW T (ic R fr m):=by
 unfold ic
 split
 ·exact h
 ·rename_i L hl
  split
  ·exact AW h hd
  ·split
   ·exact AW (Wc h true) hd
   ·exact aak (zf h hl (mark L.ins fr false) L.dR) hT ho fr
theorem KC (h:RW T R) (hT:T<=1000000) {o:Op} (hr:gg o=true) (hb:bm o.b):RW (T+1) (iE R o):=by
 have n1:=h.n1
 exact⟨Dc h.i hr hb (by omega),h.id,h.e0,by have:=h.e1;show R.ep<=_;omega,by show R.nu+1<=_;omega,h.vl,h.t0,by have:=h.t1;show R.ti<=_;omega,(h.mono (by omega:T<=T+1)).om,h.dn,h.cu⟩
theorem YI (h:RW T R) (hT:T<=1000000) (ho:R.out.length<100000) (fr:Int) {m:ei} (hm:MW T m) (hw:m.n.any cM=false):RW T (iN R fr m):=by
 unfold iN
 split
 ·exact wi h hT ho (nu:=R.nu) rfl h.n1 (zZ hT (.inr (.inl rfl)) ⟨h.e0,h.e1⟩ (tH h))
 ·split
  ·rename_i k
   obtain⟨_,k2,_,k4,_⟩:=k
   have m2:=hm.n2
   have n0:=(tH h).1
   have hD:=KC h hT k4 hm.ok.b
   have qp:RW T (iE R (zI m)):=⟨hD.i,h.id,h.e0,h.e1,by show R.nu+1<=T;omega,h.vl,h.t0,h.t1,h.om,h.dn,h.cu⟩
   exact wi qp hT ho (nu:=R.nu+1) rfl (by omega) (zZ hT (.inr (.inl rfl)) ⟨h.e0,h.e1⟩ ⟨by omega,by omega⟩)
  ·exact Ng h hT ho fr
theorem Up (h:RW T R) (hT:T<=1000000) (ho:R.out.length<100000) (hd:R.done.length<100000) (fr:Int) {m:ei} (hm:MW T m):RW T (gu R fr m):=by
 unfold gu
 split
 ·exact h
 ·rename_i hg
  have hw:=Lc (by simpa using hg)
  split
  ·exact aay h hT ho hd fr hm hw
  ·split
   ·exact aau h hd fr m
   ·split
    ·exact YI h hT ho fr hm hw
    ·split
     ·exact YA h hd fr m
     ·exact Zv h hT ho hd fr m
theorem Gf (h:RW T R) (hT:T<=1000000) {ps:List Post} (hp:∀ p∈ps,jn p.m/\bV p.m 1<=T/\bV p.m 2<=T) (hl:R.out.length+ps.length<=100000):RW T {R with out:=R.out++ps }:=by
 refine⟨zN h.i (fun p hm=>?_) hl,h.id,h.e0,h.e1,h.n1,h.vl,h.t0,h.t1,fun p hm=>(gl.1 hm).elim (h.om p) (hp p),h.dn,h.cu⟩
 exact MW.ok ⟨(hp p hm).1,(hp p hm).2.1,(hp p hm).2.2⟩
theorem PT (h:RW T R) (hT:T<=1000000) (k:Int):jn (kD R k).m/\bV (kD R k).m 1<=T/\bV (kD R k).m 2<=T:=by
 refine⟨?_,h.e1,h.n1⟩
 unfold kD;rw[h.id]
 exact Pb hT h.i.ok.cl h.i.ok.cb h.i.tx ⟨h.e0,h.e1⟩ (tH h)
theorem Lq (h:RW T R) (hT:T<=1000000) {o:Op} (hr:gg o=true) (ho:fi o) (hb:o.b.length<=2048) (k:Int):jn (jH R o k).m/\bV (jH R o k).m 1<=T/\bV (jH R o k).m 2<=T:=by
 refine⟨?_,h.e1,h.n1⟩
 unfold jH;rw[h.id]
 exact ZH hT hr ho hb _ ⟨h.e0,h.e1⟩ (tH h)
theorem tL (h:RW T R):(ba R).length<=1000:=by
 have h1:(bA R.me R.v.mem R.v.aL).length<=(R.v.mem++R.v.aL).length:=List.length_filter_le ..
 rw[bw]at h1
 have:=h.vl
 unfold ba;omega
theorem aaP (h:RW T R) (hT:T<=1000000) (ho:R.out.length<=1000):RW (T+1) (fX R):=by
 have h2:=h.mono (by omega:T<=T+1)
 have ol:=tL h
 have ti:∀{R2:φ},RW (T+1) R2->R2.ti=R.ti->RW (T+1) {R2 with ti:=R.ti+1 }:=fun{R2} q e=>⟨Az q.i _,q.id,q.e0,q.e1,q.n1,q.vl,by have:=h.t0;show 0<=R.ti+1;omega,by have:=h.t1;show R.ti+1<=_;omega,q.om,q.dn,q.cu⟩
 unfold fX
 split
 ·exact ti h2 rfl
 ·rename_i L hl
  have hc:cm R=L.cur:=by unfold cm;rw[hl];rfl
  have:=Ho R L (ba R)
  split
  ·refine ti (R2:={R with out:=R.out++(ba R).flatMap (jR R L) }) ?_ rfl
   refine(Gf h hT (fun p hp=>?_) (by omega)).mono (by omega)
   obtain⟨k,_,hk⟩:=List.mem_flatMap.1 hp
   unfold jR at hk
   split at hk
   ·rw[gY]at hk;subst hk;exact PT h hT k
   ·split at hk
    ·rename_i o nh
     rw[nh]at hc
     split at hk
     ·rw[gY]at hk;subst hk;exact Lq h hT (h.i.ok.cr o hc) (h.i.oc o hc) (h.cu o hc) k
     ·cases hk
    ·cases hk
  ·exact ti h2 rfl
theorem acM (h:RW T R) (hT:T<=1000000) (ho:R.out.length<=1000) (hd:R.done.length<100000) {w:Vw} (hw:w.mem.length+w.aL.length<=1000) (hv:w.ve<=T):RW T (gi R w):=by
 have ol:(bA R.me w.mem w.aL).length<=1000:=by
  have h1:(bA R.me w.mem w.aL).length<=(w.mem++w.aL).length:=List.length_filter_le ..
  rw[bw]at h1;omega
 cases hg:ee R w with
 |false=>rw[HE hg];exact h
 |true=>
  have hy:=AW h hd
  cases hl:fm R w with
  |false=>
   rw[HC hg hl]
   exact⟨⟨⟨hy.i.ok.cl,hy.i.ok.cb,hy.i.ok.n0,hy.i.ok.n1,hw,hy.i.ok.ol,hy.i.ok.dl,hy.i.ok.cr⟩,hy.i.tx,hy.i.om,hy.i.oc⟩,h.id,h.e0,h.e1,h.n1,hw,h.t0,h.t1,h.om,hy.dn,hy.cu⟩
  |true=>
   rw[HD hg hl]
   have hve:1<=w.ve:=by
    unfold ee at hg
    rw[kE,decide_eq_true_eq]at hg
    exact hg.1.2.2.2
   have q1:=(MI h.i (w:=w) (by omega) hd).1
   have q2:RW T (nv R w):=⟨q1,h.id,by show 0<=w.ve;omega,hv,h.n1,hw,h.t0,h.t1,h.om,hy.dn,fun o ho=>by simp [nv,cm]at ho⟩
   exact Gf q2 hT (fun p hp=>by
    obtain⟨k,_,rfl⟩:=fH.1 hp
    exact PT q2 hT k) (by rw[cg];show R.out.length+_<=_;omega)
theorem Sx (h:RW T R) (hT:T<1000000) (ho:R.out.length<=1000) (hd:R.done.length<100000) {L:dx} {o:Op} (hr:gg o=true) (vy:fi o) (hb:o.b.length<=2048):RW (T+1) (lh R L o):=by
 have ol:=tL h
 have hD:=KC h (by omega) hr vy.b
 obtain⟨B,hB⟩:∃ B:φ,B={iE R o with ld:=some {L with dR:=fun _=>false,cur:=some o } }:=⟨_,rfl⟩
 have h1:RW (T+1) B:=by
  subst hB
  exact⟨⟨⟨hD.i.ok.cl,hD.i.ok.cb,hD.i.ok.n0,hD.i.ok.n1,hD.i.ok.vl,hD.i.ok.ol,hD.i.ok.dl,fun o' ho'=>by simp [cm]at ho';subst ho';exact hr⟩,hD.i.tx,hD.i.om,fun o' ho'=>by simp [cm]at ho';subst ho';exact vy⟩,hD.id,hD.e0,hD.e1,hD.n1,hD.vl,hD.t0,hD.t1,hD.om,hD.dn,fun o' ho'=>by simp [cm]at ho';subst ho';exact hb⟩
 have e:lh R L o=fN {B with out:=B.out++(ba R).map (jH B o) }:=by
  have e0:ba B=ba R:=by subst hB;rfl
  have e9:lh R L o=fN ((ba B).foldl (fun r k=>vr r o k) B):=by subst hB;rfl
  rw[e9,tj,e0]
 have e1:B.out=R.out:=by subst hB;rfl
 have e2:B.done=R.done:=by subst hB;rfl
 rw[e]
 refine Dx (Gf h1 (by omega) (fun p hp=>?_) (by rw[cg,e1];omega)) (by show B.done.length<_;rw[e2];exact hd)
 obtain⟨k,_,rfl⟩:=fH.1 hp
 exact Lq h1 (by omega) hr vy hb k
theorem aai (h:RW T R) (hT:T<1000000) (ho:R.out.length<=1000) (hd:R.done.length<100000) {o:Op} (vy:fi o) (hb:o.b.length<=2048):RW (T+1) (eE R o).2:=by
 have h2:=h.mono (by omega:T<=T+1)
 unfold eE
 split
 ·exact h2
 ·rename_i hr
  have hr:gg o=true:=by simpa using hr
  split
  ·exact h2
  ·rename_i L hl
   split
   ·exact h2
   ·split
    ·exact h2
    ·split
     ·rename_i e R1 hk
      split at hk
      ·unfold lA at hk
       split at hk
       ·cases hk
        exact⟨KD h.i (by simp;omega),h.id,h.e0,h2.e1,h2.n1,h.vl,h.t0,h2.t1,h2.om,fun d hm=>qC h.dn (oO.nil _ _) hm,h.cu⟩
       ·split at hk
        ·cases hk;exact h2
        ·split at hk
         ·cases hk
         ·cases hk;exact h2
      ·cases hk
     ·exact Sx h hT ho hd hr vy hb
theorem SY (h:RW T R) (b:Bool):RW T (nY R):=⟨Dd (Oo (xX h.i false)),h.id,h.e0,h.e1,h.n1,h.vl,h.t0,h.t1,fun p hp=>(by cases hp),fun d hd=>(by cases hd),h.cu⟩
end
structure Sp where
 d:Int
 cx:Int
 n:Int
 k:Int
 ag:Bool
abbrev pL (s:Sp):V:=.agg [.int Z s.d,.int Z s.cx,.int Z s.n,.int Z s.k,ξ s.ag]
def bI (s:Sp):Int:=1+aN s.n 2
def nB (w:Wd) (cl:Int):Int:=w.au.getD cl.toNat 0
def l0 (w:Wd) (cl:Int) (c:la):Bool:=decide (c.o.cl=cl/\c.o.nm=nB w cl/\c.o.kd≠3)
def qY (w:Wd) (cl:Int):Option la:=(w.cs.filter (l0 w cl)).getLast?
def gn (w:Wd) (s:Sp):Op:=⟨bI s,nB w (bI s)+1,1+aN s.k 4,aN (Z.wrap (s.n.tdiv 2)) 2,if 1+aN s.k 4=1 then mi ((w.cs.length:Int)+1)else[]⟩
def rX (w:Wd) (s:Sp):Int:=if 1+aN s.k 4=1 then(w.cs.length:Int)+1 else 0
def nz (w:Wd) (s:Sp):Wd:={w with au:=w.au.set (bI s).toNat (nB w (bI s)+1) }
def mM (w:Wd) (s:Sp):Wd:={nz w s with cs:=w.cs++[⟨gn w s,rX w s,w.now,-1⟩] }
def ry (w:Wd) (o:Op) (cx:Nat):Wd:={w with R:=w.R.set cx (eE (az w cx) o).2 }
def si (w:Wd) (o:Op) (cx:Nat):Wd:=jo (ry w o cx) cx
def mQ (w:Wd) (s:Sp) (cx:Nat):Wd:=
 if s.ag then(match qY w (bI s)with | some c=>si w c.o cx | none=>w)
 else if 12<=w.cs.length then w else si (mM w s) (gn w s) cx
structure uG where
 k:Nat
 q:List (Nat×Nat)
 A:List (Sg×KB)
structure xG (w:Wd) (cl:Int) (x:uG):Prop where
 le:x.k<=w.cs.length
 no:∀ j,x.k<=j->j<w.cs.length->l0 w cl (cH w j)=false
 p:PW x.A x.q w.R
structure j0 where
 e:List D
 q:List (Nat×Nat)
 A:List (Sg×KB)
 b:Bool
structure BP (w:Wd) (cl:Int) (k:Nat) (x:j0):Prop where
 k0:0<k
 lt:k - 1<w.cs.length
 e:x.e=bi (cH w (k - 1))
 hit:x.b=l0 w cl (cH w (k - 1))
 no:∀ j,k<=j->j<w.cs.length->l0 w cl (cH w j)=false
 p:PW x.A x.q w.R
abbrev wo (w:Wd) (cl cx:Int) (k:Nat):LI where
 α:={x:j0 // BP w cl k x}
 live:=[0,2,6,7,8,57]
 dN:=eW++[.pj 4]
 st x:=([ac 0 0,.int Z cx,.int Z cl,.int Z ((k:Int) - 1),.dd x.1.e 0,ξ x.1.b],eN w x.1.q x.1.A)
 μ x:=0
def aao (w:Wd) (cl cx:Int) (k:Nat):Nat->Option LI
 | 1008=>some (wo w cl cx k)
 |_=>none
abbrev GZ (w:Wd) (cl cx:Int):LI where
 α:={x:uG // xG w cl x}
 live:=[0,2,6,7]
 dN:=eW
 st x:=([ac 0 0,.int Z cx,.int Z cl,.int Z ((x.1.k:Int) - 1)],eN w x.1.q x.1.A)
 μ x:=x.1.k
 sub x:=aao w cl cx x.1.k
structure w_ where
 W:Wd
 q:List (Nat×Nat)
 A:List (Sg×KB)
structure Bd (w:Wd) (s:Sp) (x:w_):Prop where
 W:x.W=nz w s
 p:PW x.A x.q x.W.R
abbrev vQ (w:Wd) (s:Sp) (cx:Int):LI where
 α:={x:w_ // Bd w s x}
 live:=[0,2,4,6]
 dN:=eW
 st x:=([ac 0 0,.int Z cx,ac 14 0,.int Z (bI s)],[iQ 8 x.1.W,ο,ο,ο,ο,ο,ο,bE x.1.A,jw x.1.q,jO x.1.W,jx x.1.W,jg x.1.W,ke x.1.W,kf x.1.W,ω [.int Z s.d,.int Z s.cx,.int Z s.n,.int Z s.k,ξ s.ag]])
 μ x:=0
structure xb where
 W:Wd
 o:Op
 q:List (Nat×Nat)
 A:List (Sg×KB)
structure Be (w:Wd) (s:Sp) (x:xb):Prop where
 W:x.W=nz w s
 o:x.o={gn w s with b:=[] }
 p:PW x.A x.q x.W.R
structure uy where
 W:Wd
 e:List D
 v:Int
 q:List (Nat×Nat)
 A:List (Sg×KB)
structure xa (w:Wd) (s:Sp) (x:uy):Prop where
 W:x.W=nz w s
 e:x.e=bn (gn w s)
 v:x.v=rX w s
 p:PW x.A x.q x.W.R
abbrev vR (w:Wd) (s:Sp) (cx:Int):LI where
 α:={x:xb // Be w s x}
 live:=[0,2,9]
 dN:=eW++[.rf 14 4 1]
 st x:=([ac 0 0,.int Z cx,ac 14 0],[iQ 8 x.1.W,ο,ο,ο,ο,ο,ο,bE x.1.A,jw x.1.q,jO x.1.W,jx x.1.W,jg x.1.W,ke x.1.W,kf x.1.W,ω [.int Z x.1.o.cl,.int Z x.1.o.nm,.int Z x.1.o.kd,.int Z x.1.o.bk,an (.sl 1 [])]])
 μ x:=0
abbrev FP (w:Wd) (s:Sp) (cx:Int):LI where
 α:={x:uy // xa w s x}
 live:=[0,2,9,10]
 dN:=eW++[.pj 2]
 st x:=([ac 0 0,.int Z cx,.dd x.1.e 0,.int Z x.1.v],eN x.1.W x.1.q x.1.A)
 μ x:=0
def PZ (w:Wd) (s:Sp) (cx:Int):FuncId->Nat->Option LI
 | 26,4=>some (GZ w (bI s) cx)
 | 26,1012=>some (vQ w s cx)
 | 26,1013=>some (vR w s cx)
 | 26,1017=>some (FP w s cx)
 |_,_=>none
def Bj:aH:=fun args kb K=>match args,kb with
 | [.int Z n],[]=>∀ b:List Int,b=mi n->K (an (.sl 1 (ints θ b))) []
 |_,_=>False
structure lQ (n:Int):Prop where
 h:-9223372036854775808<=n/\n<=9223372036854775807
def BF:aH:=fun args kb K=>match args,kb with
 | [.int Z k,.int Z n],[]=>lQ n/\K (.int Z (aN k n)) []
 |_,_=>False
def wq:FuncId->Option dw
 | 20=>some ⟨[],BF⟩
 | 16=>some ⟨[.gU],WM Ik⟩
 | 23=>some ⟨[],FD Bj⟩
 |f=>tV f
noncomputable def Ji:bM:=dF Tryz.prog wq aM 10
theorem ach (w:Wd) (s:Sp) (a:Nat) (q:List (Nat×Nat)) (A:List (Sg×KB)) (K:V->KB->Prop) (ay:
 let aq:=(ah (0+(w.au.length - 0)) (ints Z w.au));lQ 2/\
 (s.ag=true->
 At (GZ w (bI s) (↑a:Int)) ([ac 0 0,δ Z (↑a:Int),δ Z (Z.wrap (1+aN s.n 2)),δ Z (Z.wrap ((↑(w.cs.length - 0):Int) - 1))],[ω [ε 8 0 w.R.length,ε 9 0 w.dk.length,ε 10 0 w.vs.length,ε 11 0 w.aa.length,ε 12 0 w.cs.length,ε 13 0 w.au.length,δ Z w.now,ξ w.ok],ο,ο,ο,ο,ο,ο,bE A,ζ 30 1 (ι bj q),ζ 23 1 (ι ax w.dk),ζ 49 5 (ι bt w.vs),ζ 73 3 (ι aZ w.aa),ζ 61 10 (ι bi w.cs),ζ 3 1 (ints Z w.au)])/\
 ∀(i:{x:uG // xG w (bI s) x }),(decide ((↑i.val.k:Int) - 1 ≥ 0)=true->
 br ((↑i.val.k:Int) - 1) (w.cs.length - 0)/\
 ∃(e:List D),(ι bi w.cs)[0+((↑i.val.k:Int) - 1).toNat]? =some e/\
 ∃(n:Int),e[0]? =some (η (κ Z n))/\
 ∃(n_1:Int),e[1]? =some (η (κ Z n_1))/\
 ∃(n_2:Int),e[2]? =some (η (κ Z n_2))/\
 ∃(iu:Int),e[3]? =some (η (κ Z iu))/\
 ∃(l:List (List D)),e[4]? =some (π 1 l)/\
 ∃(iK:Int),e[5]? =some (η (κ Z iK))/\
 ∃(l4:Int),e[6]? =some (η (κ Z l4))/\
 ∃(kV:Int),e[7]? =some (η (κ Z kV))/\
 ∃(ny:Int),e[8]? =some (η (κ Z ny))/\
 ∃(b:Bool),e[9]? =some (η (fa b))/\
 (((n == bI s)=true->
 br (bI s) (w.au.length - 0)/\
 ∃(e:List D),(ints Z w.au)[0+(bI s).toNat]? =some e/\
 ∃(j9:Int),e[0]? =some (η (κ Z j9))/\
 ((n_1 == j9)=true->
 At (wo w (bI s) (↑a:Int) i.val.k) ([ac 0 0,δ Z (↑a:Int),δ Z (bI s),δ Z ((↑i.val.k:Int) - 1),V.dd [η (κ Z n),η (κ Z n_1),η (κ Z n_2),η (κ Z iu),π 1 l,η (κ Z iK),η (κ Z l4),η (κ Z kV),η (κ Z ny),η (fa b)] 0,ξ (n_2 != 3)],[ω [ε 8 0 w.R.length,ε 9 0 w.dk.length,ε 10 0 w.vs.length,ε 11 0 w.aa.length,ε 12 0 w.cs.length,ε 13 0 w.au.length,δ Z w.now,ξ w.ok],ο,ο,ο,ο,ο,ο,bE i.val.A,ζ 30 1 (ι bj i.val.q),ζ 23 1 (ι ax w.dk),ζ 49 5 (ι bt w.vs),ζ 73 3 (ι aZ w.aa),ζ 61 10 (ι bi w.cs),ζ 3 1 (ints Z w.au)]))/\
 ((n_1 == j9)=false->
 At (wo w (bI s) (↑a:Int) i.val.k) ([ac 0 0,δ Z (↑a:Int),δ Z (bI s),δ Z ((↑i.val.k:Int) - 1),V.dd [η (κ Z n),η (κ Z n_1),η (κ Z n_2),η (κ Z iu),π 1 l,η (κ Z iK),η (κ Z l4),η (κ Z kV),η (κ Z ny),η (fa b)] 0,ξ false],[ω [ε 8 0 w.R.length,ε 9 0 w.dk.length,ε 10 0 w.vs.length,ε 11 0 w.aa.length,ε 12 0 w.cs.length,ε 13 0 w.au.length,δ Z w.now,ξ w.ok],ο,ο,ο,ο,ο,ο,bE i.val.A,ζ 30 1 (ι bj i.val.q),ζ 23 1 (ι ax w.dk),ζ 49 5 (ι bt w.vs),ζ 73 3 (ι aZ w.aa),ζ 61 10 (ι bi w.cs),ζ 3 1 (ints Z w.au)])))/\
 ((n == bI s)=false->
 At (wo w (bI s) (↑a:Int) i.val.k) ([ac 0 0,δ Z (↑a:Int),δ Z (bI s),δ Z ((↑i.val.k:Int) - 1),V.dd [η (κ Z n),η (κ Z n_1),η (κ Z n_2),η (κ Z iu),π 1 l,η (κ Z iK),η (κ Z l4),η (κ Z kV),η (κ Z ny),η (fa b)] 0,ξ false],[ω [ε 8 0 w.R.length,ε 9 0 w.dk.length,ε 10 0 w.vs.length,ε 11 0 w.aa.length,ε 12 0 w.cs.length,ε 13 0 w.au.length,δ Z w.now,ξ w.ok],ο,ο,ο,ο,ο,ο,bE i.val.A,ζ 30 1 (ι bj i.val.q),ζ 23 1 (ι ax w.dk),ζ 49 5 (ι bt w.vs),ζ 73 3 (ι aZ w.aa),ζ 61 10 (ι bi w.cs),ζ 3 1 (ints Z w.au)])))/\
 ∀(i_1:{x:j0 // BP w (bI s) i.val.k x }),(i_1.val.b=true->
 br (↑a:Int) (w.R.length - 0)/\
 ∃(e:List D),(ι bj i_1.val.q)[0+(↑a:Int).toNat]? =some e/\
 ∃(v:Value),e[0]? =some (η v)/\
 ∃(n:Int),i_1.val.e[0]? =some (η (κ Z n))/\
 ∃(j9:Int),i_1.val.e[1]? =some (η (κ Z j9))/\
 ∃(oy:Int),i_1.val.e[2]? =some (η (κ Z oy))/\
 ∃(ox:Int),i_1.val.e[3]? =some (η (κ Z ox))/\
 ∃(l:List (List D)),i_1.val.e[4]? =some (π 1 l)/\
 ∃(l_1:List (Nat×φ)),∃(i_2:Nat),∃(b:Nat),∃(R:φ),bO i_1.val.A l_1/\
 l_1[i_2]? =some (b,R)/\
 η v=η (pv b)/\
 ∃(o:Op),[cF [δ Z n,δ Z j9,δ Z oy,δ Z ox,an (π 1 l)]]=[tK o]/\
 bz R/\
 R.out.length+(ba R).length<=100000/\
 (∀(c:Int),ct c o.b->
 0<=c/\
 c<256)/\
 o.b.length<=100000/\
 ∀(A':List (Sg×KB)),bO A' (l_1.set i_2 (b,(eE R o).snd))->
 ∃(w_1:Wd),∃(q:List (Nat×Nat)),∃(A:List (Sg×KB)),mV [ω [ε 1 0 w.R.length,ε 2 0 w.dk.length,ε 3 0 w.vs.length,ε 4 0 w.aa.length,ε 5 0 w.cs.length,ε 6 0 w.au.length,δ Z w.now,ξ w.ok],ζ 30 1 (ι bj i_1.val.q),ζ 23 1 (ι ax w.dk),ζ 49 5 (ι bt w.vs),ζ 73 3 (ι aZ w.aa),ζ 61 10 (ι bi w.cs),ζ 3 1 (ints Z w.au),bE A'] w_1 q A/\
 PW A q w_1.R/\
 ∃(i:Nat),[δ Z (↑a:Int)]=[δ Z (↑i:Int)]/\
 jz w_1 i/\
 ∀(w':Wd),w'=jo w_1 i->
 ∀(q':List (Nat×Nat)) (A':List (Sg×KB)),PW A' q' w'.R->
 K (ar []) [ω [ε 8 0 w'.R.length,ε 9 0 w'.dk.length,ε 10 0 w'.vs.length,ε 11 0 w'.aa.length,ε 12 0 w'.cs.length,ε 13 0 w'.au.length,δ Z w'.now,ξ w'.ok],ο,ο,ο,ο,ο,ο,bE A',ζ 30 1 (ι bj q'),ζ 23 1 (ι ax w'.dk),ζ 49 5 (ι bt w'.vs),ζ 73 3 (ι aZ w'.aa),ζ 61 10 (ι bi w'.cs),ζ 3 1 (ints Z w'.au)])/\
 (i_1.val.b=false->
 Nx (GZ w (bI s) (↑a:Int)) i ([ac 0 0,δ Z (↑a:Int),δ Z (bI s),δ Z (Z.wrap ((↑i.val.k:Int) - 1 - 1))],[ω [ε 8 0 w.R.length,ε 9 0 w.dk.length,ε 10 0 w.vs.length,ε 11 0 w.aa.length,ε 12 0 w.cs.length,ε 13 0 w.au.length,δ Z w.now,ξ w.ok],ο,ο,ο,ο,ο,ο,bE i_1.val.A,ζ 30 1 (ι bj i_1.val.q),ζ 23 1 (ι ax w.dk),ζ 49 5 (ι bt w.vs),ζ 73 3 (ι aZ w.aa),ζ 61 10 (ι bi w.cs),ζ 3 1 (ints Z w.au)])))/\
 (decide ((↑i.val.k:Int) - 1 ≥ 0)=false->
 K (ar []) [ω [ε 8 0 w.R.length,ε 9 0 w.dk.length,ε 10 0 w.vs.length,ε 11 0 w.aa.length,ε 12 0 w.cs.length,ε 13 0 w.au.length,δ Z w.now,ξ w.ok],ο,ο,ο,ο,ο,ο,bE i.val.A,ζ 30 1 (ι bj i.val.q),ζ 23 1 (ι ax w.dk),ζ 49 5 (ι bt w.vs),ζ 73 3 (ι aZ w.aa),ζ 61 10 (ι bi w.cs),ζ 3 1 (ints Z w.au)]))/\
 (s.ag=false->
 (decide ((↑(w.cs.length - 0):Int) ≥ 12)=true->
 K (ar []) [ω [ε 8 0 w.R.length,ε 9 0 w.dk.length,ε 10 0 w.vs.length,ε 11 0 w.aa.length,ε 12 0 w.cs.length,ε 13 0 w.au.length,δ Z w.now,ξ w.ok],ο,ο,ο,ο,ο,ο,bE A,ζ 30 1 (ι bj q),ζ 23 1 (ι ax w.dk),ζ 49 5 (ι bt w.vs),ζ 73 3 (ι aZ w.aa),ζ 61 10 (ι bi w.cs),ζ 3 1 (ints Z w.au)])/\
 (decide ((↑(w.cs.length - 0):Int) ≥ 12)=false->
 (True/\
 aQ (Z.wrap (1+aN s.n 2))/\
 0<=(Z.wrap (1+aN s.n 2)).toNat/\
 (Z.wrap (1+aN s.n 2)).toNat<=w.au.length - 0/\
 br (Z.wrap (1+aN s.n 2)) (w.au.length - 0)/\
 ∃(e:List D),(ints Z w.au)[0+(Z.wrap (1+aN s.n 2)).toNat]? =some e/\
 ∃(n:Int),e[0]? =some (η (κ Z n))/\
 aQ (Z.wrap (Z.wrap (1+aN s.n 2)+1))/\
 True/\
 (Z.wrap (Z.wrap (1+aN s.n 2)+1)).toNat<=w.au.length - 0/\
 w.au.length - 0<=w.au.length - 0/\
 (True/\
 True/\
 True/\
 (∃(e:List D),(ints Z w.au)[0+(Z.wrap (1+aN s.n 2)).toNat]? =some e/\
 ∃(n_1:Int),e[0]? =some (η (κ Z n_1))/\
 iz n_1 n)/\
 (True/\
 True/\
 True/\
 0+(Z.wrap (1+aN s.n 2)).toNat<=(ints Z w.au).length/\
 0<=0/\
 (0+(ν 0 (ah (0+(Z.wrap (1+aN s.n 2)).toNat) (ints Z w.au))).length)*8<=140737488355328/\
 (∃(e:List D),(ints Z w.au)[0+(Z.wrap (1+aN s.n 2)).toNat]? =some e/\
 ∃(n_1:Int),e[0]? =some (η (κ Z n_1))/\
 iz n_1 n)/\
 True/\
 True/\
 0+(w.au.length - 0)<=(ints Z w.au).length/\
 1<=1/\
 (1+(ν (0+(Z.wrap (Z.wrap (1+aN s.n 2)+1)).toNat) aq).length)*8<=140737488355328/\
 1+(ν (0+(Z.wrap (Z.wrap (1+aN s.n 2)+1)).toNat) aq).length<=([[η (κ Z (Z.wrap (n+1)))]]++ν (0+(Z.wrap (Z.wrap (1+aN s.n 2)+1)).toNat) aq).length/\
 0+(ν 0 (ah (0+(Z.wrap (1+aN s.n 2)).toNat) (ints Z w.au))).length<=([]++ν 0 (ah (0+(Z.wrap (1+aN s.n 2)).toNat) (ints Z w.au))).length/\
 (0+(ν 0 (ah (0+(Z.wrap (1+aN s.n 2)).toNat) (ints Z w.au))).length+(ν 0 (ah (1+(ν (0+(Z.wrap (Z.wrap (1+aN s.n 2)+1)).toNat) aq).length) ([[η (κ Z (Z.wrap (n+1)))]]++ν (0+(Z.wrap (Z.wrap (1+aN s.n 2)+1)).toNat) aq))).length)*8<=140737488355328/\
 At (vQ w s (↑a:Int)) ([ac 0 0,δ Z (↑a:Int),ac 14 0,δ Z (Z.wrap (1+aN s.n 2))],[ω [ε 8 0 w.R.length,ε 9 0 w.dk.length,ε 10 0 w.vs.length,ε 11 0 w.aa.length,ε 12 0 w.cs.length,ε 13 0 (0+(ν 0 (ah (0+(Z.wrap (1+aN s.n 2)).toNat) (ints Z w.au))).length+(ν 0 (ah (1+(ν (0+(Z.wrap (Z.wrap (1+aN s.n 2)+1)).toNat) aq).length) ([[η (κ Z (Z.wrap (n+1)))]]++ν (0+(Z.wrap (Z.wrap (1+aN s.n 2)+1)).toNat) aq))).length),δ Z w.now,ξ w.ok],ο,ο,ο,ο,ο,ο,bE A,ζ 30 1 (ι bj q),ζ 23 1 (ι ax w.dk),ζ 49 5 (ι bt w.vs),ζ 73 3 (ι aZ w.aa),ζ 61 10 (ι bi w.cs),ζ 3 1 (ah (0+(ν 0 (ah (0+(Z.wrap (1+aN s.n 2)).toNat) (ints Z w.au))).length) ([]++ν 0 (ah (0+(Z.wrap (1+aN s.n 2)).toNat) (ints Z w.au)))++ν 0 (ah (1+(ν (0+(Z.wrap (Z.wrap (1+aN s.n 2)+1)).toNat) aq).length) ([[η (κ Z (Z.wrap (n+1)))]]++ν (0+(Z.wrap (Z.wrap (1+aN s.n 2)+1)).toNat) aq))),ω [δ Z s.d,δ Z s.cx,δ Z s.n,δ Z s.k,ξ s.ag]]))/\
 True/\
 True/\
 True/\
 True/\
 True/\
 0+(Z.wrap (1+aN s.n 2)).toNat<=(ints Z w.au).length/\
 0<=0/\
 (0+(ν 0 (ah (0+(Z.wrap (1+aN s.n 2)).toNat) (ints Z w.au))).length)*8<=140737488355328/\
 0+(w.au.length - 0)<=(ints Z w.au).length/\
 1<=1/\
 (1+(ν (0+(Z.wrap (Z.wrap (1+aN s.n 2)+1)).toNat) aq).length)*8<=140737488355328/\
 1+(ν (0+(Z.wrap (Z.wrap (1+aN s.n 2)+1)).toNat) aq).length<=([[η (κ Z (Z.wrap (n+1)))]]++ν (0+(Z.wrap (Z.wrap (1+aN s.n 2)+1)).toNat) aq).length/\
 0+(ν 0 (ah (0+(Z.wrap (1+aN s.n 2)).toNat) (ints Z w.au))).length<=([]++ν 0 (ah (0+(Z.wrap (1+aN s.n 2)).toNat) (ints Z w.au))).length/\
 (0+(ν 0 (ah (0+(Z.wrap (1+aN s.n 2)).toNat) (ints Z w.au))).length+(ν 0 (ah (1+(ν (0+(Z.wrap (Z.wrap (1+aN s.n 2)+1)).toNat) aq).length) ([[η (κ Z (Z.wrap (n+1)))]]++ν (0+(Z.wrap (Z.wrap (1+aN s.n 2)+1)).toNat) aq))).length)*8<=140737488355328/\
 At (vQ w s (↑a:Int)) ([ac 0 0,δ Z (↑a:Int),ac 14 0,δ Z (Z.wrap (1+aN s.n 2))],[ω [ε 8 0 w.R.length,ε 9 0 w.dk.length,ε 10 0 w.vs.length,ε 11 0 w.aa.length,ε 12 0 w.cs.length,ε 13 0 (0+(ν 0 (ah (0+(Z.wrap (1+aN s.n 2)).toNat) (ints Z w.au))).length+(ν 0 (ah (1+(ν (0+(Z.wrap (Z.wrap (1+aN s.n 2)+1)).toNat) aq).length) ([[η (κ Z (Z.wrap (n+1)))]]++ν (0+(Z.wrap (Z.wrap (1+aN s.n 2)+1)).toNat) aq))).length),δ Z w.now,ξ w.ok],ο,ο,ο,ο,ο,ο,bE A,ζ 30 1 (ι bj q),ζ 23 1 (ι ax w.dk),ζ 49 5 (ι bt w.vs),ζ 73 3 (ι aZ w.aa),ζ 61 10 (ι bi w.cs),ζ 3 1 (ah (0+(ν 0 (ah (0+(Z.wrap (1+aN s.n 2)).toNat) (ints Z w.au))).length) ([]++ν 0 (ah (0+(Z.wrap (1+aN s.n 2)).toNat) (ints Z w.au)))++ν 0 (ah (1+(ν (0+(Z.wrap (Z.wrap (1+aN s.n 2)+1)).toNat) aq).length) ([[η (κ Z (Z.wrap (n+1)))]]++ν (0+(Z.wrap (Z.wrap (1+aN s.n 2)+1)).toNat) aq))),ω [δ Z s.d,δ Z s.cx,δ Z s.n,δ Z s.k,ξ s.ag]]))/\
 True/\
 True/\
 True/\
 True/\
 True/\
 True/\
 True/\
 0+(Z.wrap (1+aN s.n 2)).toNat<=(ints Z w.au).length/\
 0<=0/\
 (0+(ν 0 (ah (0+(Z.wrap (1+aN s.n 2)).toNat) (ints Z w.au))).length)*8<=140737488355328/\
 0+(w.au.length - 0)<=(ints Z w.au).length/\
 1<=1/\
 (1+(ν (0+(Z.wrap (Z.wrap (1+aN s.n 2)+1)).toNat) aq).length)*8<=140737488355328/\
 1+(ν (0+(Z.wrap (Z.wrap (1+aN s.n 2)+1)).toNat) aq).length<=([[η (κ Z (Z.wrap (n+1)))]]++ν (0+(Z.wrap (Z.wrap (1+aN s.n 2)+1)).toNat) aq).length/\
 0+(ν 0 (ah (0+(Z.wrap (1+aN s.n 2)).toNat) (ints Z w.au))).length<=([]++ν 0 (ah (0+(Z.wrap (1+aN s.n 2)).toNat) (ints Z w.au))).length/\
 (0+(ν 0 (ah (0+(Z.wrap (1+aN s.n 2)).toNat) (ints Z w.au))).length+(ν 0 (ah (1+(ν (0+(Z.wrap (Z.wrap (1+aN s.n 2)+1)).toNat) aq).length) ([[η (κ Z (Z.wrap (n+1)))]]++ν (0+(Z.wrap (Z.wrap (1+aN s.n 2)+1)).toNat) aq))).length)*8<=140737488355328/\
 At (vQ w s (↑a:Int)) ([ac 0 0,δ Z (↑a:Int),ac 14 0,δ Z (Z.wrap (1+aN s.n 2))],[ω [ε 8 0 w.R.length,ε 9 0 w.dk.length,ε 10 0 w.vs.length,ε 11 0 w.aa.length,ε 12 0 w.cs.length,ε 13 0 (0+(ν 0 (ah (0+(Z.wrap (1+aN s.n 2)).toNat) (ints Z w.au))).length+(ν 0 (ah (1+(ν (0+(Z.wrap (Z.wrap (1+aN s.n 2)+1)).toNat) aq).length) ([[η (κ Z (Z.wrap (n+1)))]]++ν (0+(Z.wrap (Z.wrap (1+aN s.n 2)+1)).toNat) aq))).length),δ Z w.now,ξ w.ok],ο,ο,ο,ο,ο,ο,bE A,ζ 30 1 (ι bj q),ζ 23 1 (ι ax w.dk),ζ 49 5 (ι bt w.vs),ζ 73 3 (ι aZ w.aa),ζ 61 10 (ι bi w.cs),ζ 3 1 (ah (0+(ν 0 (ah (0+(Z.wrap (1+aN s.n 2)).toNat) (ints Z w.au))).length) ([]++ν 0 (ah (0+(Z.wrap (1+aN s.n 2)).toNat) (ints Z w.au)))++ν 0 (ah (1+(ν (0+(Z.wrap (Z.wrap (1+aN s.n 2)+1)).toNat) aq).length) ([[η (κ Z (Z.wrap (n+1)))]]++ν (0+(Z.wrap (Z.wrap (1+aN s.n 2)+1)).toNat) aq))),ω [δ Z s.d,δ Z s.cx,δ Z s.n,δ Z s.k,ξ s.ag]]))/\
 ∀(i:{x:w_ // Bd w s x }),let dj:=δ Z (Z.wrap (1+aN s.k 4));let dD:=[ac 0 0,δ Z (↑a:Int),ac 14 0];(br (bI s) (i.val.W.au.length - 0)/\
 ∃(e:List D),(ints Z i.val.W.au)[0+(bI s).toNat]? =some e/\
 ∃(n:Int),e[0]? =some (η (κ Z n))/\
 (True/\
 lQ 4/\
 iz s.n s.n/\
 (∃(e:List D),(ints Z i.val.W.au)[0+(bI s).toNat]? =some e/\
 ∃(n_1:Int),e[0]? =some (η (κ Z n_1))/\
 iz n_1 n)/\
 (True/\
 lQ 2/\
 (∃(e:List D),(ints Z i.val.W.au)[0+(bI s).toNat]? =some e/\
 ∃(n_1:Int),e[0]? =some (η (κ Z n_1))/\
 iz n_1 n)/\
 (∃(e:List D),(ints Z i.val.W.au)[0+(bI s).toNat]? =some e/\
 ∃(n:Int),e[0]? =some (η (κ Z n))/\
 True)/\
 True/\
 At (vR w s (↑a:Int)) (dD,[ω [ε 8 0 i.val.W.R.length,ε 9 0 i.val.W.dk.length,ε 10 0 i.val.W.vs.length,ε 11 0 i.val.W.aa.length,ε 12 0 i.val.W.cs.length,ε 13 0 i.val.W.au.length,δ Z i.val.W.now,ξ i.val.W.ok],ο,ο,ο,ο,ο,ο,bE i.val.A,ζ 30 1 (ι bj i.val.q),ζ 23 1 (ι ax i.val.W.dk),ζ 49 5 (ι bt i.val.W.vs),ζ 73 3 (ι aZ i.val.W.aa),ζ 61 10 (ι bi i.val.W.cs),ζ 3 1 (ints Z i.val.W.au),ω [δ Z (bI s),δ Z n,dj,δ Z (aN (Z.wrap (s.n.tdiv 2)) 2),an (π 1 [])]]))/\
 True/\
 (∃(e:List D),(ints Z i.val.W.au)[0+(bI s).toNat]? =some e/\
 ∃(n:Int),e[0]? =some (η (κ Z n))/\
 True)/\
 True/\
 True/\
 lQ 2/\
 (∃(e:List D),(ints Z i.val.W.au)[0+(bI s).toNat]? =some e/\
 ∃(n_1:Int),e[0]? =some (η (κ Z n_1))/\
 iz n_1 n)/\
 At (vR w s (↑a:Int)) (dD,[ω [ε 8 0 i.val.W.R.length,ε 9 0 i.val.W.dk.length,ε 10 0 i.val.W.vs.length,ε 11 0 i.val.W.aa.length,ε 12 0 i.val.W.cs.length,ε 13 0 i.val.W.au.length,δ Z i.val.W.now,ξ i.val.W.ok],ο,ο,ο,ο,ο,ο,bE i.val.A,ζ 30 1 (ι bj i.val.q),ζ 23 1 (ι ax i.val.W.dk),ζ 49 5 (ι bt i.val.W.vs),ζ 73 3 (ι aZ i.val.W.aa),ζ 61 10 (ι bi i.val.W.cs),ζ 3 1 (ints Z i.val.W.au),ω [δ Z (bI s),δ Z n,dj,δ Z (aN (Z.wrap (s.n.tdiv 2)) 2),an (π 1 [])]]))/\
 True/\
 True/\
 (∃(e:List D),(ints Z i.val.W.au)[0+(bI s).toNat]? =some e/\
 ∃(n:Int),e[0]? =some (η (κ Z n))/\
 True)/\
 True/\
 True/\
 lQ 4/\
 iz s.n s.n/\
 (∃(e:List D),(ints Z i.val.W.au)[0+(bI s).toNat]? =some e/\
 ∃(n_1:Int),e[0]? =some (η (κ Z n_1))/\
 iz n_1 n)/\
 True/\
 lQ 2/\
 (∃(e:List D),(ints Z i.val.W.au)[0+(bI s).toNat]? =some e/\
 ∃(n_1:Int),e[0]? =some (η (κ Z n_1))/\
 iz n_1 n)/\
 At (vR w s (↑a:Int)) (dD,[ω [ε 8 0 i.val.W.R.length,ε 9 0 i.val.W.dk.length,ε 10 0 i.val.W.vs.length,ε 11 0 i.val.W.aa.length,ε 12 0 i.val.W.cs.length,ε 13 0 i.val.W.au.length,δ Z i.val.W.now,ξ i.val.W.ok],ο,ο,ο,ο,ο,ο,bE i.val.A,ζ 30 1 (ι bj i.val.q),ζ 23 1 (ι ax i.val.W.dk),ζ 49 5 (ι bt i.val.W.vs),ζ 73 3 (ι aZ i.val.W.aa),ζ 61 10 (ι bi i.val.W.cs),ζ 3 1 (ints Z i.val.W.au),ω [δ Z (bI s),δ Z n,dj,δ Z (aN (Z.wrap (s.n.tdiv 2)) 2),an (π 1 [])]]))/\
 ∀(i:{x:xb // Be w s x }),(((i.val.o.kd == 1)=true->
 ∀(b:List Int),b=[θ.wrap (Z.wrap ((↑(i.val.W.cs.length - 0):Int)+1)),0,0,0,0,0,0,0,0,0,0,0,0,0,0,if Z.wrap ((↑(i.val.W.cs.length - 0):Int)+1) > 0 then 7 else 0]->
 At (FP w s (↑a:Int)) ([ac 0 0,δ Z (↑a:Int),V.dd [η (κ Z i.val.o.cl),η (κ Z i.val.o.nm),η (κ Z i.val.o.kd),η (κ Z i.val.o.bk),π 1 (ints θ b)] 0,δ Z (Z.wrap ((↑(i.val.W.cs.length - 0):Int)+1))],[ω [ε 8 0 i.val.W.R.length,ε 9 0 i.val.W.dk.length,ε 10 0 i.val.W.vs.length,ε 11 0 i.val.W.aa.length,ε 12 0 i.val.W.cs.length,ε 13 0 i.val.W.au.length,δ Z i.val.W.now,ξ i.val.W.ok],ο,ο,ο,ο,ο,ο,bE i.val.A,ζ 30 1 (ι bj i.val.q),ζ 23 1 (ι ax i.val.W.dk),ζ 49 5 (ι bt i.val.W.vs),ζ 73 3 (ι aZ i.val.W.aa),ζ 61 10 (ι bi i.val.W.cs),ζ 3 1 (ints Z i.val.W.au)]))/\
 ((i.val.o.kd == 1)=false->
 At (FP w s (↑a:Int)) ([ac 0 0,δ Z (↑a:Int),V.dd [η (κ Z i.val.o.cl),η (κ Z i.val.o.nm),η (κ Z i.val.o.kd),η (κ Z i.val.o.bk),π 1 []] 0,δ Z 0],[ω [ε 8 0 i.val.W.R.length,ε 9 0 i.val.W.dk.length,ε 10 0 i.val.W.vs.length,ε 11 0 i.val.W.aa.length,ε 12 0 i.val.W.cs.length,ε 13 0 i.val.W.au.length,δ Z i.val.W.now,ξ i.val.W.ok],ο,ο,ο,ο,ο,ο,bE i.val.A,ζ 30 1 (ι bj i.val.q),ζ 23 1 (ι ax i.val.W.dk),ζ 49 5 (ι bt i.val.W.vs),ζ 73 3 (ι aZ i.val.W.aa),ζ 61 10 (ι bi i.val.W.cs),ζ 3 1 (ints Z i.val.W.au)])))/\
 ∀(i:{x:uy // xa w s x }),∃(n:Int),i.val.e[0]? =some (η (κ Z n))/\
 ∃(n_1:Int),i.val.e[1]? =some (η (κ Z n_1))/\
 ∃(n_2:Int),i.val.e[2]? =some (η (κ Z n_2))/\
 ∃(iu:Int),i.val.e[3]? =some (η (κ Z iu))/\
 ∃(l:List (List D)),i.val.e[4]? =some (π 1 l)/\
 ∃(iK:Int),i.val.e[2]? =some (η (κ Z iK))/\
 True/\
 True/\
 1<=1/\
 i.val.W.cs.length<=(ι bi i.val.W.cs).length/\
 (i.val.W.cs.length+1)*96<=140737488355328/\
 br (↑a:Int) (i.val.W.R.length - 0)/\
 ∃(e:List D),(ι bj i.val.q)[0+(↑a:Int).toNat]? =some e/\
 ∃(v:Value),e[0]? =some (η v)/\
 ∃(l4:Int),i.val.e[0]? =some (η (κ Z l4))/\
 ∃(kV:Int),i.val.e[1]? =some (η (κ Z kV))/\
 ∃(ny:Int),i.val.e[2]? =some (η (κ Z ny))/\
 ∃(j9:Int),i.val.e[3]? =some (η (κ Z j9))/\
 ∃(l_1:List (List D)),i.val.e[4]? =some (π 1 l_1)/\
 ∃(l_2:List (Nat×φ)),∃(i_1:Nat),∃(b:Nat),∃(R:φ),bO i.val.A l_2/\
 l_2[i_1]? =some (b,R)/\
 η v=η (pv b)/\
 ∃(o:Op),[cF [δ Z l4,δ Z kV,δ Z ny,δ Z j9,an (π 1 l_1)]]=[tK o]/\
 bz R/\
 R.out.length+(ba R).length<=100000/\
 (∀(c:Int),ct c o.b->
 0<=c/\
 c<256)/\
 o.b.length<=100000/\
 ∀(A':List (Sg×KB)),bO A' (l_2.set i_1 (b,(eE R o).snd))->
 ∃(w_1:Wd),∃(q:List (Nat×Nat)),∃(A:List (Sg×KB)),mV [ω [ε 1 0 i.val.W.R.length,ε 2 0 i.val.W.dk.length,ε 3 0 i.val.W.vs.length,ε 4 0 i.val.W.aa.length,ε 5 0 (i.val.W.cs.length+1),ε 6 0 i.val.W.au.length,δ Z i.val.W.now,ξ i.val.W.ok],ζ 30 1 (ι bj i.val.q),ζ 23 1 (ι ax i.val.W.dk),ζ 49 5 (ι bt i.val.W.vs),ζ 73 3 (ι aZ i.val.W.aa),ζ 61 10 (ah i.val.W.cs.length (ι bi i.val.W.cs)++[[η (κ Z n),η (κ Z n_1),η (κ Z n_2),η (κ Z iu),π 1 l,η (κ Z iK),η (κ Z i.val.v),η (κ Z i.val.W.now),η (κ Z (-1)),η (fa false)]]),ζ 3 1 (ints Z i.val.W.au),bE A'] w_1 q A/\
 PW A q w_1.R/\
 ∃(i:Nat),[δ Z (↑a:Int)]=[δ Z (↑i:Int)]/\
 jz w_1 i/\
 ∀(w':Wd),w'=jo w_1 i->
 ∀(q':List (Nat×Nat)) (A':List (Sg×KB)),PW A' q' w'.R->
 K (ar []) [ω [ε 8 0 w'.R.length,ε 9 0 w'.dk.length,ε 10 0 w'.vs.length,ε 11 0 w'.aa.length,ε 12 0 w'.cs.length,ε 13 0 w'.au.length,δ Z w'.now,ξ w'.ok],ο,ο,ο,ο,ο,ο,bE A',ζ 30 1 (ι bj q'),ζ 23 1 (ι ax w'.dk),ζ 49 5 (ι bt w'.vs),ζ 73 3 (ι aZ w'.aa),ζ 61 10 (ι bi w'.cs),ζ 3 1 (ints Z w'.au)]))
 ):aO Tryz.prog Ji (PZ w s (a:Int) 26) 26 [ac 0 0,pL s,.int Z (a:Int)] (k9 w q A) (eX eW (dh 8 K)):=by apply Eq.mp (a:=ay);kernel_rfl
theorem PD {α:Type} (x:α) (D:List α):ah (1+D.length) ([x]++D)=x::D:=fI (by rw[bw];exact aE _)
theorem Z9 {α:Type} {M:List α} {x:α} {c n:Nat} (hc:c<M.length) (hn:n=M.length):ah (0+(ν 0 (ah (0+c) M)).length) ([]++ν 0 (ah (0+c) M))++ν 0 (ah (1+(ν (0+(c+1)) (ah (0+(n - 0)) M)).length) ([x]++ν (0+(c+1)) (ah (0+(n - 0)) M)))=M.set c x:=by
 subst hn
 rw[uc,PD,kp,cL,cL,cL,jm,cN,cN,gK,List.set_eq_take_append_cons_drop,if_pos hc]
theorem Z7 {α:Type} {M:List α} {x:α} {c n:Nat} (hc:c<M.length) (hn:n=M.length):0+(ν 0 (ah (0+c) M)).length+(ν 0 (ah (1+(ν (0+(c+1)) (ah (0+(n - 0)) M)).length) ([x]++ν (0+(c+1)) (ah (0+(n - 0)) M)))).length=M.length:=by
 subst hn
 rw[uc,PD,kp,cL,cL,cL,cN,gK,io,cW,fh];omega
theorem AK {W:Wd} {R':List φ} (h:R'.length=W.R.length) (q:List (Nat×Nat)) (A:List (Sg×KB)):k9 W q A=k9 {W with R:=R' } q A:=by
 show[ω [.sl 1 0 W.R.length,_,_,_,_,_,_,_],_,_,_,_,_,_,_]=[ω [.sl 1 0 R'.length,_,_,_,_,_,_,_],_,_,_,_,_,_,_]
 rw[h]
theorem XY:aT Tryz.prog 20 BF:=fun args kb K hs=>FZ args kb K (by
 unfold BF at hs;split at hs<;>try exact hs.elim
 exact⟨hs.1.h,hs.2⟩)
theorem Ym:aT Tryz.prog 23 Bj:=fun args kb K hs=>NY args kb K (by
 unfold Bj at hs;split at hs<;>try exact hs.elim
 exact hs _ rfl)
theorem G8:dE Tryz.prog wq:=fun f k h=>by
 unfold wq at h
 split at h
 ·cases h;exact XY
 ·cases h;exact WY
 ·cases h;exact Nj Ym
 ·exact zX _ _ h
theorem R5:bW Tryz.prog Ji:=dI mixed G8 aM 10
theorem R7 {w:Wd} {cl:Int} (h:∀ j,j<w.cs.length->l0 w cl (cH w j)=false):qY w cl=none:=by
 unfold qY
 have:w.cs.filter (l0 w cl)=[]:=List.filter_eq_nil_iff.2 fun c hc=>by
  obtain⟨j,hj⟩:=List.getElem?_of_mem hc
  have hl:=(bU.1 hj).1
  have:=h j hl
  rw[sW hl,bh.injEq]at hj
  rw[<- hj,this];exact Bool.false_ne_true
 rw[this];rfl
theorem R8 {w:Wd} {cl:Int} {k:Nat} (hk:k<w.cs.length) (h1:l0 w cl (cH w k)=true) (h:∀ j,k<j->j<w.cs.length->l0 w cl (cH w j)=false):qY w cl=some (cH w k):=by
 unfold qY
 have e:w.cs=w.cs.take k++cH w k::w.cs.drop (k+1):=by
  have hc:=sW hk
  rw[bx hk,bh.injEq]at hc
  rw[<- hc,<- List.drop_eq_getElem_cons hk,List.take_append_drop]
 have e2:(w.cs.drop (k+1)).filter (l0 w cl)=[]:=List.filter_eq_nil_iff.2 fun c hc=>by
  obtain⟨j,hj⟩:=List.getElem?_of_mem hc
  rw[jB]at hj
  have hl:=(bU.1 hj).1
  have:=h (k+1+j) (by omega) hl
  rw[sW hl,bh.injEq]at hj
  rw[<- hj,this];exact Bool.false_ne_true
 generalize cH w k=c at*
 rw[e,List.filter_append,List.filter_cons_of_pos h1,e2,List.getLast?_concat]
structure xH (w:Wd) (s:Sp) (a:Nat):Prop where
 hi:a<w.R.length
 hd:a<w.dk.length
 r:bz (az w a)
 ol:(az w a).out.length+(ba (az w a)).length<=100000
 cl:w.cs.length<=1000
 cb:∀ c∈w.cs,bm c.o.b/\c.o.b.length<=100000
 n3:w.au.length=3
 nb:∀ n∈w.au,0<=n/\n<=1000000
 cA:∀ c,qY w (bI s)=some c->jz (ry w c.o a) a
 cB:w.cs.length<12->jz (ry (mM w s) (gn w s) a) a
def It:List V->Wd->(V->Wd->Prop)->Prop:=fun rest w k=>∃(s:Sp) (a:Nat),rest=[pL s,.int Z (a:Int)]/\xH w s a/\∀ w',w'=mQ w s a->k (.υ []) w'
theorem oB (k:Int) {n:Int} (h:1<=n):0<=aN k n/\aN k n<n:=YP h
theorem FA (w:Wd) (s:Sp):bm (gn w s).b/\(gn w s).b.length<=100000:=by
 unfold gn;dsimp only;split
 ·exact⟨Hy _,by rw[AI];omega⟩
 ·exact⟨fun c h=>(by cases h),bF _⟩
theorem Yb:aT Tryz.prog 26 (WM It):=mP R5 mixed eW (fun args kb K h=>by
 unfold WM at h;split at h<;>try exact h.elim
 obtain⟨w,q,A,⟨rfl⟩,hp,s,a,rfl,hc,h⟩:=h
 refine⟨PZ w s (a:Int) 26,?_⟩
 show aO _ _ _ _ _ _ (eX eW (dh 8 K))
 apply ach w s a q A K
 have hi:=hc.hi
 have hcl:=hc.cl
 have pc:=oB s.n (n:=2) (by omega)
 have e1:Z.wrap (1+aN s.n 2)=bI s:=by rw[bR (by omega) (by omega)];rfl
 have hcs:1<=bI s/\bI s<=2:=by unfold bI;omega
 have EG:∀ n:Int,0<=n->n<=10->lQ n:=fun n h1 h2=>⟨by omega,by omega⟩
 have hin:br (a:Int) w.R.length:=by unfold br;omega
 have hn3:=hc.n3
 have cv:br (bI s) w.au.length:=by unfold br;omega
 have cn:(bI s).toNat<w.au.length:=by omega
 have go:∀(W:Wd) (o:Op) (q1:List (Nat×Nat)) (A1:List (Sg×KB)),W.R=w.R->PW A1 q1 W.R->(bm o.b/\o.b.length<=100000)->jz (ry W o a) a->mQ w s a=si W o a->
   ∀(F:List (Sg×KB)->KB),(∀ A',F A'=k9 W q1 A')->∀(X:List V),X=[tK o]->br (a:Int) (w.R.length - 0)/\∃ e,(q1.map bj)[0+(a:Int).toNat]? =some e/\∃ d:Value,e[0]? =some (η d)/\∃(l:List (Nat×φ)) (i:Nat) (b:Nat) (R:φ),bO A1 l/\l[i]? =some (b,R)/\η d=η (pv b)/\∃ o:Op,X=[tK o]/\bz R/\R.out.length+(ba R).length<=100000/\(∀ c,ct c o.b->0<=c/\c<256)/\o.b.length<=100000/\
    ∀ A',bO A' (l.set i (b,(eE R o).2))->∃(w1:Wd) (q:List (Nat×Nat)) (A:List (Sg×KB)),mV (F A') w1 q A/\PW A q w1.R/\∃ i:Nat,[δ Z (a:Int)]=[δ Z (i:Int)]/\jz w1 i/\∀ w',w'=jo w1 i->∀ q' A',PW A' q' w'.R->K (.υ []) (eN w' q' A'):=by
  intro W o q1 A1 Lo P1 oh Uu hst F hF X hX
  have o_:W.R[a]? =some (az w a):=by rw[Lo];exact pF hi
  have Vf:az W a=az w a:=by unfold az;rw[Lo]
  obtain⟨l,k,b,hq,hA,hl,dG⟩:=P1.get o_
  refine⟨hin,_,kX hq,_,rfl,l,k,b,_,hA,hl,rfl,o,hX,hc.r,hc.ol,oh.1,oh.2,fun A2 p2=>⟨ry W o a,q1,A2,⟨?_⟩,?_,a,rfl,Uu,fun w' hw' q' A' p'=>h w' (by rw[hw',hst];rfl) q' A' p'⟩⟩
  ·rw[hF];exact AK (by rw[gC]) q1 A2
  ·have:=dG _ _ p2
   show PW A2 q1 (W.R.set a (eE (az W a) o).2)
   rw[Vf];exact this
 rw[e1]
 refine⟨EG 2 (by omega) (by omega),fun ha=>⟨?_,?_⟩,fun ha=>⟨fun h12=>?_,fun h12=>?_⟩⟩
 ·refine At.mk' (⟨⟨w.cs.length,q,A⟩,aE _,fun j h1 h2=>absurd h1 (by show ¬ w.cs.length<=j;omega),hp⟩:{x:uG // xG w (bI s) x}) ?_
  rw[bR (by omega) (by omega)]
  rfl
 ·rintro⟨⟨k,q1,A1⟩,hk,hno,P1⟩
  dsimp only at hk hno P1 ⊢
  refine⟨fun rE=>?_,fun rE=>?_⟩
  ·have rE:0<k:=by rw[decide_eq_true_eq]at rE;omega
   have hlt:k - 1<w.cs.length:=by omega
   have ek:((k:Int) - 1)=((k - 1:Nat):Int):=by omega
   have hg:=sW hlt
   have Ch:∀ b:Bool,b=l0 w (bI s) (cH w (k - 1))->At (wo w (bI s) (a:Int) k) ([ac 0 0,.int Z (a:Int),.int Z (bI s),.int Z ((k:Int) - 1),.dd (bi (cH w (k - 1))) 0,ξ b],eN w q1 A1):=fun b hb=>At.mk' (⟨⟨_,q1,A1,b⟩,rE,hlt,rfl,hb,hno,P1⟩:{x:j0 // BP w (bI s) k x}) rfl
   refine⟨by rw[ek];unfold br;omega,bi (cH w (k - 1)),by rw[ek,cL,dr,fG,hg];rfl,_,rfl,_,rfl,_,rfl,_,rfl,_,rfl,_,rfl,_,rfl,_,rfl,_,rfl,_,rfl,⟨fun t1=>⟨cv,_,by rw[cL,kw,vk cn];rfl,w.au.getD (bI s).toNat 0,rfl,fun t2=>?_,fun t2=>?_⟩,fun t1=>?_⟩,?_⟩
   ·refine Ch _ ?_
    rw[beq_iff_eq]at t1 t2
    unfold l0
    rw[Bool.eq_iff_iff,decide_eq_true_eq]
    rw[bne_iff_ne]
    exact⟨fun t3=>⟨t1,t2,t3⟩,fun t3=>t3.2.2⟩
   ·refine Ch _ ?_
    rw[beq_eq_false_iff_ne]at t2
    unfold l0
    exact(decide_eq_false fun t3=>t2 t3.2.1).symm
   ·refine Ch _ ?_
    rw[beq_eq_false_iff_ne]at t1
    unfold l0
    exact(decide_eq_false fun t3=>t1 t3.1).symm
   ·rintro⟨⟨e,q2,A2,b⟩,_,_,he,hb,_,P2⟩
    dsimp only at he hb P2 ⊢
    subst he
    refine⟨fun tb=>?_,fun tb=>?_⟩
    ·rw[tb]at hb
     have o5:=R8 hlt hb.symm (fun j h1 h2=>hno j (by omega) h2)
     have hst:mQ w s a=si w (cH w (k - 1)).o a:=by
      unfold mQ;rw[if_pos ha,o5]
     have hmem:cH w (k - 1)∈w.cs:=gm hg
     obtain⟨g1,e,g2,d,g3,l,i,b',R,g4⟩:=go w (cH w (k - 1)).o q2 A2 rfl P2 (hc.cb _ hmem) (hc.cA _ o5) hst (fun A'=>k9 w q2 A') (fun _=>rfl) _ rfl
     exact⟨g1,e,g2,d,g3,_,rfl,_,rfl,_,rfl,_,rfl,_,rfl,l,i,b',R,g4⟩
    ·rw[tb]at hb
     refine Nx.mk' (⟨⟨k - 1,q2,A2⟩,by show k - 1<=_;omega,fun j h1 h2=>?_,P2⟩:{x:uG // xG w (bI s) x}) ?_ (by show k - 1<k;omega)
     ·have h1:k - 1<=j:=h1
      by_cases ej:j=k - 1
      ·subst ej;exact hb.symm
      ·exact hno j (by omega) h2
     ·rw[bR (by omega) (by omega),ek]
  ·have rE:k=0:=by rw[decide_eq_false_iff_not]at rE;omega
   subst rE
   have o5:=R7 (w:=w) (cl:=bI s) (fun j h1=>hno j (bF _) h1)
   exact h w (by unfold mQ;rw[if_pos ha,o5]) q1 A1 P1
 ·have h12:12<=w.cs.length:=by rw[decide_eq_true_eq]at h12;omega
  exact h w (by unfold mQ;rw[if_neg (by rw[ha];exact Bool.false_ne_true),if_pos h12]) q A hp
 have h12:w.cs.length<12:=by rw[decide_eq_false_iff_not]at h12;omega
 have e2:Z.wrap (bI s+1)=bI s+1:=by rw[bR (by omega) (by omega)]
 have e3:(bI s+1).toNat=(bI s).toNat+1:=by omega
 have hmem:=hc.nb _ (yx cn)
 have e4:Z.wrap (w.au.getD (bI s).toNat 0+1)=nB w (bI s)+1:=by rw[bR (by omega) (by omega)];rfl
 have da:(ints Z w.au)[0+(bI s).toNat]? =some [η (.int Z (w.au.getD (bI s).toNat 0))]:=by rw[cL,kw,vk cn];rfl
 have hM:(bI s).toNat<(ints Z w.au).length:=by rw[be];exact cn
 have hL:w.au.length=(ints Z w.au).length:=be.symm
 have hst:mQ w s a=si (mM w s) (gn w s) a:=by
  unfold mQ;rw[if_neg (by rw[ha];exact Bool.false_ne_true),if_neg (by omega)]
 refine⟨?_,?_⟩
 ·simp only[e2,e3]
  have DT:At (vQ w s (a:Int)) ([ac 0 0,.int Z (a:Int),ac 14 0,.int Z (bI s)],[ω [.sl 8 0 w.R.length,.sl 9 0 w.dk.length,.sl 10 0 w.vs.length,.sl 11 0 w.aa.length,.sl 12 0 w.cs.length,.sl 13 0 (0+(ν 0 (ah (0+(bI s).toNat) (ints Z w.au))).length+(ν 0 (ah (1+(ν (0+((bI s).toNat+1)) (ah (0+(w.au.length - 0)) (ints Z w.au))).length) ([[η (.int Z (Z.wrap (w.au.getD (bI s).toNat 0+1)))]]++ν (0+((bI s).toNat+1)) (ah (0+(w.au.length - 0)) (ints Z w.au))))).length),.int Z w.now,ξ w.ok],ο,ο,ο,ο,ο,ο,bE A,jw q,jO w,jx w,jg w,ke w,
    .row 3 1 (ah (0+(ν 0 (ah (0+(bI s).toNat) (ints Z w.au))).length) ([]++ν 0 (ah (0+(bI s).toNat) (ints Z w.au)))++ν 0 (ah (1+(ν (0+((bI s).toNat+1)) (ah (0+(w.au.length - 0)) (ints Z w.au))).length) ([[η (.int Z (Z.wrap (w.au.getD (bI s).toNat 0+1)))]]++ν (0+((bI s).toNat+1)) (ah (0+(w.au.length - 0)) (ints Z w.au))))),ω [.int Z s.d,.int Z s.cx,.int Z s.n,.int Z s.k,ξ s.ag]]):=by
   rw[Z9 hM hL,Z7 hM hL,<- hL,e4]
   refine At.mk' (⟨⟨nz w s,q,A⟩,rfl,hp⟩:{x:w_ // Bd w s x}) ?_
   have e5:(ints Z w.au).set (bI s).toNat [η (.int Z (nB w (bI s)+1))]=ints Z (nz w s).au:=by
    show _=ints Z (w.au.set _ _)
    simp only[ints,List.map_set]
   rw[e5]
   show(_,_)=(_,[ω [_,_,_,_,_,.sl 13 0 (w.au.set (bI s).toNat (nB w (bI s)+1)).length,_,_],_,_,_,_,_,_,_,_,_,_,_,_,_,_])
   rw[gC]
   rfl
  repeat' (first | exact trivial | exact DT | refine⟨_,da,_,rfl,?_⟩ | exact⟨_,da,_,rfl,⟨rfl⟩⟩ | apply And.intro)
  all_goals first | exact cv | exact⟨rfl⟩ | exact aE _ | exact bF _ | (unfold aQ;omega) | omega | (simp only[jm,bw,cW,fh,ko,io,jk,be];omega)
 rintro⟨⟨W,q1,A1⟩,hW,P1⟩
 dsimp only at hW P1 ⊢
 have DZ:W.au=w.au.set (bI s).toNat (nB w (bI s)+1):=by rw[hW];rfl
 have Lp:W.au.length=w.au.length:=by rw[DZ,gC]
 have p4:=oB s.k (n:=4) (by omega)
 have e6:Z.wrap (1+aN s.k 4)=1+aN s.k 4:=by rw[bR (by omega) (by omega)]
 have LV:(ints Z W.au)[0+(bI s).toNat]? =some [η (.int Z (nB w (bI s)+1))]:=by rw[cL,kw,DZ,gB cn];rfl
 have Kf:br (bI s) (W.au.length - 0):=by rw[Lp];exact cv
 refine⟨?_,?_⟩
 ·have DT:At (vR w s (a:Int)) ([ac 0 0,.int Z (a:Int),ac 14 0],[iQ 8 W,ο,ο,ο,ο,ο,ο,bE A1,jw q1,jO W,jx W,jg W,ke W,kf W,ω [.int Z (bI s),.int Z (nB w (bI s)+1),.int Z (Z.wrap (1+aN s.k 4)),.int Z (aN (Z.wrap (s.n.tdiv 2)) 2),an (.sl 1 [])]]):=by
   refine At.mk' (⟨⟨W,{gn w s with b:=[] },q1,A1⟩,hW,rfl,P1⟩:{x:xb // Be w s x}) ?_
   rw[e6];rfl
  repeat' (first | exact trivial | exact DT | exact Kf | exact EG 2 (by omega) (by omega) | exact EG 4 (by omega) (by omega) | refine⟨_,LV,_,rfl,?_⟩ | exact⟨rfl⟩ | apply And.intro)
 clear LV Kf P1 hW DZ Lp A1 q1 W
 rintro⟨⟨W,o,q1,A1⟩,hW,ho,P1⟩
 dsimp only at hW ho P1 ⊢
 subst hW ho
 refine⟨?_,?_⟩
 ·have e7:Z.wrap ((((nz w s).cs.length - 0:Nat):Int)+1)=(w.cs.length:Int)+1:=by
   show Z.wrap ((w.cs.length:Int)+1)=_
   rw[bR (by omega) (by omega)]
  rw[e7]
  refine⟨fun t=>?_,fun t=>?_⟩
  ·have t:1+aN s.k 4=1:=by rw[beq_iff_eq]at t;exact t
   intro b hb
   have hb:b=mi ((w.cs.length:Int)+1):=hb
   refine At.mk' (⟨⟨nz w s,bn (gn w s),(w.cs.length:Int)+1,q1,A1⟩,rfl,rfl,by unfold rX;rw[if_pos t],P1⟩:{x:uy // xa w s x}) ?_
   show(_,_)=([_,_,V.dd [_,_,_,_,.sl 1 (ints θ (gn w s).b)] 0,_],_)
   have:(gn w s).b=b:=by rw[hb];unfold gn;dsimp only;rw[if_pos t]
   rw[this]
  ·have t:¬ 1+aN s.k 4=1:=by rw[beq_eq_false_iff_ne]at t;exact t
   refine At.mk' (⟨⟨nz w s,bn (gn w s),0,q1,A1⟩,rfl,rfl,by unfold rX;rw[if_neg t],P1⟩:{x:uy // xa w s x}) ?_
   show(_,_)=([_,_,V.dd [_,_,_,_,.sl 1 (ints θ (gn w s).b)] 0,_],_)
   have:(gn w s).b=[]:=by unfold gn;dsimp only;rw[if_neg t]
   rw[this];rfl
 ·clear P1 A1 q1
  rintro⟨⟨W,e,v,q1,A1⟩,hW,he,hv,P1⟩
  dsimp only at hW he hv P1 ⊢
  subst hW he hv
  have hb:=FA w s
  refine⟨_,rfl,_,rfl,_,rfl,_,rfl,_,rfl,_,rfl,trivial,trivial,aE _,by rw[cg];exact aE _,by show(w.cs.length+1)*96<=_;omega,?_⟩
  obtain⟨g1,e,g2,d,g3,l,i,b',R,g4⟩:=go (mM w s) (gn w s) q1 A1 rfl P1 hb (hc.cB h12) hst (fun A'=>k9 (mM w s) q1 A') (fun _=>rfl) _ rfl
  have ek:∀ A',k9 (mM w s) q1 A'=[ω [.sl 1 0 w.R.length,.sl 2 0 w.dk.length,.sl 3 0 w.vs.length,.sl 4 0 w.aa.length,.sl 5 0 (w.cs.length+1),.sl 6 0 (nz w s).au.length,.int Z w.now,ξ w.ok],jw q1,jO w,jx w,jg w,ζ 61 10 (ah w.cs.length (w.cs.map bi)++[bi ⟨gn w s,rX w s,w.now,-1⟩]),kf (nz w s),bE A']:=fun A'=>by
   have e8:(mM w s).cs.length=w.cs.length+1:=by show(w.cs++[_]).length=_;rw[bw];rfl
   have e9:(mM w s).cs.map bi=ah w.cs.length (w.cs.map bi)++[bi ⟨gn w s,rX w s,w.now,-1⟩]:=by
    show(w.cs++[_]).map bi=_
    rw[jC,fI (by rw[cg];exact aE _)];rfl
   unfold k9 iQ ke
   rw[e8,e9]
   rfl
  simp only[ek]at g4
  exact⟨g1,e,g2,d,g3,_,rfl,_,rfl,_,rfl,_,rfl,_,rfl,l,i,b',R,g4⟩)
def Fe:mW:=⟨0,0,⟨0,[],[],[]⟩⟩
def fK (w:Wd) (k:Nat):mW:=w.aa.getD k Fe
def kB (w:Wd) (k:Nat):Wd:={w with aa:=w.aa.eraseIdx k }
noncomputable def yF (w:Wd) (l:mW):Wd:={w with R:=w.R.set l.to.toNat (gu (az w l.to.toNat) l.fr l.m) }
noncomputable def u7 (w:Wd) (k:Nat):Wd:=jo (yF (kB w k) (fK w k)) (fK w k).to.toNat
def BM:aH:=fun args kb K=>match args,kb with
 | [an (.sl 1 B)],[]=>∃ m:ei,B=ints θ (ky m)/\jn m/\K (.υ [Fu m,.int Z 0]) []
 |_,_=>False
structure wU where
 W:Wd
 e:List D
 q:List (Nat×Nat)
 A:List (Sg×KB)
structure Ba (w:Wd) (k:Nat) (x:wU):Prop where
 W:x.W=kB w k
 e:x.e=h_ (fK w k).m
 p:PW x.A x.q x.W.R
abbrev Ki (w:Wd) (k:Nat) (l:mW):LI where
 α:={x:wU // Ba w k x}
 live:=[0,4,5,40]
 dN:=eW++[.pj 2]
 st x:=([ac 0 0,ac 14 0,.dd x.1.e 0,ξ true],[iQ 8 x.1.W,ο,ο,ο,ο,ο,ο,bE x.1.A,jw x.1.q,jO x.1.W,jx x.1.W,jg x.1.W,ke x.1.W,kf x.1.W,ω [.int Z l.fr,.int Z l.to,an (.sl 1 (ints θ (ky l.m)))]])
 μ x:=0
def AF (w:Wd) (i:Nat):Vw:=w.vs.getD i ⟨0,0,0,[],[]⟩
def cY (w:Wd):Vw:=AF w (w.vs.length - 1)
def iH (c:Vw):Int:=c.mem.getD 0 0
def qO (w:Wd) (s:Sp) (a:Int):Wd:=
 if aN s.k 3=2/\¬ (ib (az w (iH (cY w)).toNat)=true/\(az w (iH (cY w)).toNat).ep=(cY w).ve)then w
 else if(l5 (cY w) (aN s.k 3) a).ve≠(cY w).ve then{w with vs:=w.vs++[l5 (cY w) (aN s.k 3) a] }else w
structure BX (w:Wd) (s:Sp) (x:j0):Prop where
 e:x.e=bt (cY w)
 b:x.b=(aN s.k 3 == 2)
 p:PW x.A x.q w.R
abbrev Qv (w:Wd) (s:Sp) (a:Int):LI where
 α:={x:j0 // BX w s x}
 live:=[0,2,6,7,30]
 dN:=eW++[.pj 2]
 st x:=([ac 0 0,.int Z a,.dd x.1.e 0,.int Z (aN s.k 3),ξ x.1.b],eN w x.1.q x.1.A)
 μ x:=0
structure xN (w:Wd) (s:Sp) (x:j0):Prop where
 e:x.e=bt (cY w)
 ok:aN s.k 3=2->ib (az w (iH (cY w)).toNat)=true/\(az w (iH (cY w)).toNat).ep=(cY w).ve
 p:PW x.A x.q w.R
abbrev Ht (w:Wd) (s:Sp) (a:Int):LI where
 α:={x:j0 // xN w s x}
 live:=[0,2,6,7]
 dN:=eW
 st x:=([ac 0 0,.int Z a,.dd x.1.e 0,.int Z (aN s.k 3)],eN w x.1.q x.1.A)
 μ x:=0
structure BY (w:Wd) (s:Sp) (a:Int) (x:j0):Prop where
 e:x.e=bt (l5 (cY w) (aN s.k 3) a)
 b:x.b=((l5 (cY w) (aN s.k 3) a).ve != (cY w).ve)
 p:PW x.A x.q w.R
abbrev Qw (w:Wd) (s:Sp) (a:Int):LI where
 α:={x:j0 // BY w s a x}
 live:=[0,13,76]
 dN:=eW++[.pj 1]
 st x:=([ac 0 0,.dd x.1.e 0,ξ x.1.b],eN w x.1.q x.1.A)
 μ x:=0
def x_ (w:Wd) (s:Sp) (a:Int) (k:Nat) (l:mW):FuncId->Nat->Option LI
 | 27,1004=>some (Ki w k l)
 | 28,1004=>some (Qv w s a)
 | 28,1007=>some (Ht w s a)
 | 28,1009=>some (Qw w s a)
 |_,_=>none
def BC:aH:=fun args kb K=>match args,kb with
 | [.agg [.int Z vi,.int Z vv,.int Z ve,an (.sl 1 M),an (.sl 1 J)],.int Z ch,.int Z id],[]=>∃ m j:List Int,M=ints Z m/\J=ints Z j/\m.length<=1000/\j.length<=1000/\oR ve/\ve<=1000000/\∀ x:Vw,x=l5 ⟨vi,vv,ve,m,j⟩ ch id->K (wA x) []
 |_,_=>False
def C2:FuncId->Option dw
 | 59=>some ⟨[],BM⟩
 | 61=>some ⟨[],BC⟩
 |f=>wq f
noncomputable def B0:bM:=dF Tryz.prog C2 aM 10
theorem abq (w:Wd) (k:Nat) (l:mW) (q:List (Nat×Nat)) (A:List (Sg×KB)) (K:V->KB->Prop) (ay:
 let aq:=(ah (0+(↑k:Int).toNat) (ι aZ w.aa));let bB:=(ν (0+(Z.wrap ((↑k:Int)+1)).toNat) (ah (0+(w.aa.length - 0)) (ι aZ w.aa)));br (↑k:Int) (w.aa.length - 0)/\
 ∃(e:List D),(ι aZ w.aa)[0+(↑k:Int).toNat]? =some e/\
 ∃(n:Int),e[0]? =some (η (κ Z n))/\
 ∃(n_1:Int),e[1]? =some (η (κ Z n_1))/\
 ∃(l_1:List (List D)),e[2]? =some (π 1 l_1)/\
 True/\
 aQ (↑k:Int)/\
 0<=(↑k:Int).toNat/\
 (↑k:Int).toNat<=w.aa.length - 0/\
 aQ (Z.wrap ((↑k:Int)+1))/\
 True/\
 (Z.wrap ((↑k:Int)+1)).toNat<=w.aa.length - 0/\
 w.aa.length - 0<=w.aa.length - 0/\
 True/\
 True/\
 True/\
 True/\
 0+(↑k:Int).toNat<=(ι aZ w.aa).length/\
 0<=0/\
 (0+(ν 0 aq).length)*40<=140737488355328/\
 0+(w.aa.length - 0)<=(ι aZ w.aa).length/\
 0+(ν 0 aq).length<=([]++ν 0 aq).length/\
 (0+(ν 0 aq).length+bB.length)*40<=140737488355328/\
 ∃(m:ei),l_1=ints θ (ky m)/\
 jn m/\
 At (Ki w k l) ([ac 0 0,ac 14 0,V.dd [η (κ Z m.kd),π 1 (ints Z m.n),π 1 (ints θ m.b),π 1 (bL m.l)] 0,ξ true],[ω [ε 8 0 w.R.length,ε 9 0 w.dk.length,ε 10 0 w.vs.length,ε 11 0 (0+(ν 0 aq).length+bB.length),ε 12 0 w.cs.length,ε 13 0 w.au.length,δ Z w.now,ξ w.ok],ο,ο,ο,ο,ο,ο,bE A,ζ 30 1 (ι bj q),ζ 23 1 (ι ax w.dk),ζ 49 5 (ι bt w.vs),ζ 73 3 (ah (0+(ν 0 aq).length) ([]++ν 0 aq)++ν (0+(Z.wrap ((↑k:Int)+1)).toNat) (ah (0+(w.aa.length - 0)) (ι aZ w.aa))),ζ 61 10 (ι bi w.cs),ζ 3 1 (ints Z w.au),ω [δ Z n,δ Z n_1,an (π 1 l_1)]])/\
 ∀(i:{x:wU // Ba w k x }),(true=true->
 br l.to (i.val.W.R.length - 0)/\
 ∃(e:List D),(ι bj i.val.q)[0+l.to.toNat]? =some e/\
 ∃(v:Value),e[0]? =some (η v)/\
 ∃(n:Int),i.val.e[0]? =some (η (κ Z n))/\
 ∃(l_2:List (List D)),i.val.e[1]? =some (π 1 l_2)/\
 ∃(dg:List (List D)),i.val.e[2]? =some (π 1 dg)/\
 ∃(aW:List (List D)),i.val.e[3]? =some (π 1 aW)/\
 ∃(dV:List (Nat×φ)),∃(i_1:Nat),∃(b:Nat),∃(R:φ),bO i.val.A dV/\
 dV[i_1]? =some (b,R)/\
 η v=η (pv b)/\
 ∃(fr:Int),∃(m:ei),[δ Z l.fr,cF [δ Z n,an (π 1 l_2),an (π 1 dg),an (π 1 aW)]]=[δ Z fr,Fu m]/\
 bz R/\
 jD m/\
 ∀(A':List (Sg×KB)),bO A' (dV.set i_1 (b,gu R fr m))->
 ∃(w_1:Wd),∃(q:List (Nat×Nat)),∃(A:List (Sg×KB)),mV [ω [ε 1 0 i.val.W.R.length,ε 2 0 i.val.W.dk.length,ε 3 0 i.val.W.vs.length,ε 4 0 i.val.W.aa.length,ε 5 0 i.val.W.cs.length,ε 6 0 i.val.W.au.length,δ Z i.val.W.now,ξ i.val.W.ok],ζ 30 1 (ι bj i.val.q),ζ 23 1 (ι ax i.val.W.dk),ζ 49 5 (ι bt i.val.W.vs),ζ 73 3 (ι aZ i.val.W.aa),ζ 61 10 (ι bi i.val.W.cs),ζ 3 1 (ints Z i.val.W.au),bE A'] w_1 q A/\
 PW A q w_1.R/\
 ∃(i:Nat),[δ Z l.to]=[δ Z (↑i:Int)]/\
 jz w_1 i/\
 ∀(w':Wd),w'=jo w_1 i->
 ∀(q':List (Nat×Nat)) (A':List (Sg×KB)),PW A' q' w'.R->
 K (ar []) [ω [ε 8 0 w'.R.length,ε 9 0 w'.dk.length,ε 10 0 w'.vs.length,ε 11 0 w'.aa.length,ε 12 0 w'.cs.length,ε 13 0 w'.au.length,δ Z w'.now,ξ w'.ok],ο,ο,ο,ο,ο,ο,bE A',ζ 30 1 (ι bj q'),ζ 23 1 (ι ax w'.dk),ζ 49 5 (ι bt w'.vs),ζ 73 3 (ι aZ w'.aa),ζ 61 10 (ι bi w'.cs),ζ 3 1 (ints Z w'.au)])/\
 (true=false->
 K (ar []) [ω [ε 8 0 i.val.W.R.length,ε 9 0 i.val.W.dk.length,ε 10 0 i.val.W.vs.length,ε 11 0 i.val.W.aa.length,ε 12 0 i.val.W.cs.length,ε 13 0 i.val.W.au.length,δ Z i.val.W.now,ξ i.val.W.ok],ο,ο,ο,ο,ο,ο,bE i.val.A,ζ 30 1 (ι bj i.val.q),ζ 23 1 (ι ax i.val.W.dk),ζ 49 5 (ι bt i.val.W.vs),ζ 73 3 (ι aZ i.val.W.aa),ζ 61 10 (ι bi i.val.W.cs),ζ 3 1 (ints Z i.val.W.au)])
 ):aO Tryz.prog B0 (x_ w ⟨0,0,0,0,false⟩ 0 k l 27) 27 [ac 0 0,.int Z (k:Int)] (k9 w q A) (eX eW (dh 8 K)):=by apply Eq.mp (a:=ay);kernel_rfl
theorem acB (w:Wd) (s:Sp) (a:Int) (q:List (Nat×Nat)) (A:List (Sg×KB)) (K:V->KB->Prop) (ay:
 br (Z.wrap ((↑(w.vs.length - 0):Int) - 1)) (w.vs.length - 0)/\
 ∃(e:List D),(ι bt w.vs)[0+(Z.wrap ((↑(w.vs.length - 0):Int) - 1)).toNat]? =some e/\
 ∃(n:Int),e[0]? =some (η (κ Z n))/\
 ∃(n_1:Int),e[1]? =some (η (κ Z n_1))/\
 ∃(n_2:Int),e[2]? =some (η (κ Z n_2))/\
 ∃(l:List (List D)),e[3]? =some (π 1 l)/\
 ∃(l_1:List (List D)),e[4]? =some (π 1 l_1)/\
 (∃(e:List D),(ι bt w.vs)[0+(Z.wrap ((↑(w.vs.length - 0):Int) - 1)).toNat]? =some e/\
 ∃(n:Int),e[0]? =some (η (κ Z n))/\
 ∃(n:Int),e[1]? =some (η (κ Z n))/\
 ∃(n:Int),e[2]? =some (η (κ Z n))/\
 ∃(l:List (List D)),e[3]? =some (π 1 l)/\
 ∃(l:List (List D)),e[4]? =some (π 1 l)/\
 True)/\
 True/\
 True/\
 lQ 3/\
 (At (Qv w s a) ([ac 0 0,δ Z a,V.dd [η (κ Z n),η (κ Z n_1),η (κ Z n_2),π 1 l,π 1 l_1] 0,δ Z (aN s.k 3),ξ (aN s.k 3 == 2)],[ω [ε 8 0 w.R.length,ε 9 0 w.dk.length,ε 10 0 w.vs.length,ε 11 0 w.aa.length,ε 12 0 w.cs.length,ε 13 0 w.au.length,δ Z w.now,ξ w.ok],ο,ο,ο,ο,ο,ο,bE A,ζ 30 1 (ι bj q),ζ 23 1 (ι ax w.dk),ζ 49 5 (ι bt w.vs),ζ 73 3 (ι aZ w.aa),ζ 61 10 (ι bi w.cs),ζ 3 1 (ints Z w.au)])/\
 ∀(i:{x:j0 // BX w s x }),(i.val.b=true->
 ∃(l:List (List D)),i.val.e[3]? =some (π 1 l)/\
 aQ 0/\
 ∃(e:List D),l[0]? =some e/\
 ∃(n:Int),e[0]? =some (η (κ Z n))/\
 br n (w.R.length - 0)/\
 ∃(e:List D),(ι bj i.val.q)[0+n.toNat]? =some e/\
 ∃(v:Value),e[0]? =some (η v)/\
 ∃(l:List (Nat×φ)),∃(i_1:Nat),∃(b:Nat),∃(R:φ),bO i.val.A l/\
 l[i_1]? =some (b,R)/\
 η v=η (pv b)/\
 fY []/\
 bz R/\
 ∀(A':List (Sg×KB)),bO A' (l.set i_1 (b,R))->
 ∃(l:List (List D)),i.val.e[3]? =some (π 1 l)/\
 aQ 0/\
 ∃(e:List D),l[0]? =some e/\
 ∃(n:Int),e[0]? =some (η (κ Z n))/\
 br n (w.R.length - 0)/\
 ∃(e:List D),(ι bj i.val.q)[0+n.toNat]? =some e/\
 ∃(v:Value),e[0]? =some (η v)/\
 ∃(l:List (Nat×φ)),∃(i_2:Nat),∃(b:Nat),∃(fy:φ),bO A' l/\
 l[i_2]? =some (b,fy)/\
 η v=η (pv b)/\
 fY []/\
 bz fy/\
 ∀(A':List (Sg×KB)),bO A' (l.set i_2 (b,fy))->
 ((!ib fy)=true->
 K (ar []) [ω [ε 8 0 w.R.length,ε 9 0 w.dk.length,ε 10 0 w.vs.length,ε 11 0 w.aa.length,ε 12 0 w.cs.length,ε 13 0 w.au.length,δ Z w.now,ξ w.ok],ο,ο,ο,ο,ο,ο,bE A',ζ 30 1 (ι bj i.val.q),ζ 23 1 (ι ax w.dk),ζ 49 5 (ι bt w.vs),ζ 73 3 (ι aZ w.aa),ζ 61 10 (ι bi w.cs),ζ 3 1 (ints Z w.au)])/\
 ((!ib fy)=false->
 ∃(n:Int),i.val.e[2]? =some (η (κ Z n))/\
 ((R.ep != n)=true->
 K (ar []) [ω [ε 8 0 w.R.length,ε 9 0 w.dk.length,ε 10 0 w.vs.length,ε 11 0 w.aa.length,ε 12 0 w.cs.length,ε 13 0 w.au.length,δ Z w.now,ξ w.ok],ο,ο,ο,ο,ο,ο,bE A',ζ 30 1 (ι bj i.val.q),ζ 23 1 (ι ax w.dk),ζ 49 5 (ι bt w.vs),ζ 73 3 (ι aZ w.aa),ζ 61 10 (ι bi w.cs),ζ 3 1 (ints Z w.au)])/\
 ((R.ep != n)=false->
 At (Ht w s a) ([ac 0 0,δ Z a,V.dd i.val.e 0,δ Z (aN s.k 3)],[ω [ε 8 0 w.R.length,ε 9 0 w.dk.length,ε 10 0 w.vs.length,ε 11 0 w.aa.length,ε 12 0 w.cs.length,ε 13 0 w.au.length,δ Z w.now,ξ w.ok],ο,ο,ο,ο,ο,ο,bE A',ζ 30 1 (ι bj i.val.q),ζ 23 1 (ι ax w.dk),ζ 49 5 (ι bt w.vs),ζ 73 3 (ι aZ w.aa),ζ 61 10 (ι bi w.cs),ζ 3 1 (ints Z w.au)]))))/\
 (i.val.b=false->
 At (Ht w s a) ([ac 0 0,δ Z a,V.dd i.val.e 0,δ Z (aN s.k 3)],[ω [ε 8 0 w.R.length,ε 9 0 w.dk.length,ε 10 0 w.vs.length,ε 11 0 w.aa.length,ε 12 0 w.cs.length,ε 13 0 w.au.length,δ Z w.now,ξ w.ok],ο,ο,ο,ο,ο,ο,bE i.val.A,ζ 30 1 (ι bj i.val.q),ζ 23 1 (ι ax w.dk),ζ 49 5 (ι bt w.vs),ζ 73 3 (ι aZ w.aa),ζ 61 10 (ι bi w.cs),ζ 3 1 (ints Z w.au)])))/\
 ∀(i:{x:j0 // xN w s x }),let cK:=ω [ε 8 0 w.R.length,ε 9 0 w.dk.length,ε 10 0 w.vs.length,ε 11 0 w.aa.length,ε 12 0 w.cs.length,ε 13 0 w.au.length,δ Z w.now,ξ w.ok];∃(n:Int),i.val.e[0]? =some (η (κ Z n))/\
 ∃(iu:Int),i.val.e[1]? =some (η (κ Z iu))/\
 ∃(iK:Int),i.val.e[2]? =some (η (κ Z iK))/\
 ∃(l:List (List D)),i.val.e[3]? =some (π 1 l)/\
 ∃(l_2:List (List D)),i.val.e[4]? =some (π 1 l_2)/\
 ∃(m:List Int),∃(j:List Int),l=ints Z m/\
 l_2=ints Z j/\
 m.length<=1000/\
 j.length<=1000/\
 oR iK/\
 iK<=1000000/\
 ∀(x:Vw),x=l5 {vi:=n,vv:=iu,ve:=iK,mem:=m,aL:=j } (aN s.k 3) a->
 (∃(n:Int),i.val.e[2]? =some (η (κ Z n))/\
 At (Qw w s a) ([ac 0 0,V.dd [η (κ Z x.vi),η (κ Z x.vv),η (κ Z x.ve),π 1 (ints Z x.mem),π 1 (ints Z x.aL)] 0,ξ (x.ve != n)],[cK,ο,ο,ο,ο,ο,ο,bE i.val.A,ζ 30 1 (ι bj i.val.q),ζ 23 1 (ι ax w.dk),ζ 49 5 (ι bt w.vs),ζ 73 3 (ι aZ w.aa),ζ 61 10 (ι bi w.cs),ζ 3 1 (ints Z w.au)]))/\
 ∀(i:{x:j0 // BY w s a x }),(i.val.b=true->
 ∃(n:Int),i.val.e[0]? =some (η (κ Z n))/\
 ∃(l4:Int),i.val.e[1]? =some (η (κ Z l4))/\
 ∃(kV:Int),i.val.e[2]? =some (η (κ Z kV))/\
 ∃(l:List (List D)),i.val.e[3]? =some (π 1 l)/\
 ∃(dg:List (List D)),i.val.e[4]? =some (π 1 dg)/\
 True/\
 1<=1/\
 w.vs.length<=(ι bt w.vs).length/\
 (w.vs.length+1)*72<=140737488355328/\
 K (ar []) [ω [ε 8 0 w.R.length,ε 9 0 w.dk.length,ε 10 0 (w.vs.length+1),ε 11 0 w.aa.length,ε 12 0 w.cs.length,ε 13 0 w.au.length,δ Z w.now,ξ w.ok],ο,ο,ο,ο,ο,ο,bE i.val.A,ζ 30 1 (ι bj i.val.q),ζ 23 1 (ι ax w.dk),ζ 49 5 (ah w.vs.length (ι bt w.vs)++[[η (κ Z n),η (κ Z l4),η (κ Z kV),π 1 l,π 1 dg]]),ζ 73 3 (ι aZ w.aa),ζ 61 10 (ι bi w.cs),ζ 3 1 (ints Z w.au)])/\
 (i.val.b=false->
 K (ar []) [cK,ο,ο,ο,ο,ο,ο,bE i.val.A,ζ 30 1 (ι bj i.val.q),ζ 23 1 (ι ax w.dk),ζ 49 5 (ι bt w.vs),ζ 73 3 (ι aZ w.aa),ζ 61 10 (ι bi w.cs),ζ 3 1 (ints Z w.au)])
 ):aO Tryz.prog B0 (x_ w s a 0 Fe 28) 28 [ac 0 0,pL s,.int Z a] (k9 w q A) (eX eW (dh 8 K)):=by apply Eq.mp (a:=ay);kernel_rfl
theorem X6:aT Tryz.prog 59 BM:=fun args kb K hs=>Fm.X5 args kb K (by
 unfold BM at hs;split at hs<;>try exact hs.elim
 obtain⟨m,rfl,hm,h⟩:=hs
 have hl:=Fm.ZA hm.r
 refine⟨ky m,rfl,Ae (Fm.OM hm.r hm.b),by unfold ky;rw[mO];omega,?_⟩
 unfold ky
 rw[Fm.Zm hm.r]
 exact h)
theorem Xz:aT Tryz.prog 61 BC:=fun args kb K hs=>Xy args kb K (by
 unfold BC at hs;split at hs<;>try exact hs.elim
 obtain⟨m,j,rfl,rfl,h1,h2,h3,h4,h⟩:=hs
 exact⟨m,j,rfl,rfl,h1,h2,h3.lo,h4,h _ rfl⟩)
theorem Tj:dE Tryz.prog C2:=fun f k h=>by
 unfold C2 at h
 split at h
 ·cases h;exact X6
 ·cases h;exact Xz
 ·exact G8 _ _ h
theorem I1:bW Tryz.prog B0:=dI mixed Tj aM 10
theorem Ct {w:Wd} {k:Nat} (h:k<w.aa.length):w.aa[k]? =some (fK w k):=by
 unfold fK;rw[kn,bx h];rfl
theorem PB {α:Type} {M:List α} {k n:Nat} (hk:k<M.length) (hn:n=M.length):ah (0+(ν 0 (ah (0+k) M)).length) ([]++ν 0 (ah (0+k) M))++ν (0+(k+1)) (ah (0+(n - 0)) M)=M.eraseIdx k:=by
 subst hn
 rw[uc,kp,cL,cL,cL,jm,cN,cN,List.eraseIdx_eq_take_drop_succ]
theorem PC {α:Type} {M:List α} {k n:Nat} (hk:k<M.length) (hn:n=M.length):0+(ν 0 (ah (0+k) M)).length+(ν (0+(k+1)) (ah (0+(n - 0)) M)).length=(M.eraseIdx k).length:=by
 subst hn
 rw[uc,kp,cL,cL,cL,cN,List.length_eraseIdx_of_lt hk,cW,fh];omega
theorem M3 {α β:Type} (f:α->β) (M:List α) (k:Nat):(M.eraseIdx k).map f=(M.map f).eraseIdx k:=by
 rw[List.eraseIdx_eq_take_drop_succ,List.eraseIdx_eq_take_drop_succ,jC,List.map_take,List.map_drop]
structure wS (w:Wd) (k:Nat):Prop where
 hk:k<w.aa.length
 bl:w.aa.length<=10000
 t0:0<=(fK w k).to
 t1:(fK w k).to<w.R.length
 rt:jn (fK w k).m
 mo:jD (fK w k).m
 r:bz (az w (fK w k).to.toNat)
 c:jz (yF (kB w k) (fK w k)) (fK w k).to.toNat
def Il:List V->Wd->(V->Wd->Prop)->Prop:=fun rest w k=>∃ i:Nat,rest=[.int Z (i:Int)]/\wS w i/\∀ w',w'=u7 w i->k (.υ []) w'
theorem W8:aT Tryz.prog 27 (WM Il):=mP I1 mixed eW (fun args kb K h=>by
 unfold WM at h;split at h<;>try exact h.elim
 obtain⟨w,q,A,⟨rfl⟩,hp,k,rfl,hc,h⟩:=h
 refine⟨x_ w ⟨0,0,0,0,false⟩ 0 k (fK w k) 27,?_⟩
 show aO _ _ _ _ _ _ (eX eW (dh 8 K))
 apply abq w k (fK w k) q A K
 have hk:=hc.hk
 have bX:=hc.bl
 have hg:=Ct hk
 have w1:Z.wrap ((k:Int)+1)=((k+1:Nat):Int):=by rw[bR (by omega) (by omega)];rfl
 have hM:k<(w.aa.map aZ).length:=by rw[cg];exact hk
 have hL:w.aa.length=(w.aa.map aZ).length:=by rw[cg]
 have t0:=hc.t0
 have t1:=hc.t1
 obtain⟨to,hto⟩:∃ to:Nat,(fK w k).to=(to:Int):=⟨(fK w k).to.toNat,by omega⟩
 have o6:(w.aa.map aZ)[0+(k:Int).toNat]? =some (aZ (fK w k)):=by rw[cL,dr,fG,hg];rfl
 have mD:=hc.rt
 have hmo:=hc.mo
 have hr:=hc.r
 have rz:=hc.c
 have hst:u7 w k=jo (yF (kB w k) (fK w k)) (fK w k).to.toNat:=rfl
 clear hc
 generalize hl:fK w k=l at*
 have htn:l.to.toNat=to:=by omega
 rw[w1,dr,dr]at*
 have hel:(kB w k).aa.length=((w.aa.map aZ).eraseIdx k).length:=by
  show(w.aa.eraseIdx k).length=_
  rw[List.length_eraseIdx_of_lt hk,List.length_eraseIdx_of_lt hM,cg]
 have hem:(kB w k).aa.map aZ=(w.aa.map aZ).eraseIdx k:=by
  show(w.aa.eraseIdx k).map aZ=_
  exact M3 aZ w.aa k
 dsimp only
 rw[PC hM hL]
 refine⟨by unfold br;omega,_,o6,_,rfl,_,rfl,_,rfl,trivial,by unfold aQ;omega,bF _,by omega,by unfold aQ;omega,trivial,by omega,aE _,trivial,trivial,trivial,trivial,by omega,aE _,by simp only[fh,cW];omega,by omega,by simp,?_,l.m,rfl,mD,?_⟩
 ·rw[<- hel];have:(kB w k).aa.length<=w.aa.length:=by show(w.aa.eraseIdx k).length<=_;rw[List.length_eraseIdx_of_lt hk];omega
  omega
 refine⟨?_,?_⟩
 ·rw[PB hM hL,<- hel,<- hem]
  exact At.mk' (⟨⟨kB w k,h_ l.m,q,A⟩,rfl,by rw[hl],hp⟩:{x:wU // Ba w k x}) rfl
 rintro⟨⟨W,e,q1,A1⟩,hW,he,P1⟩
 dsimp only at hW he P1 ⊢
 subst hW he
 rw[hl]
 refine⟨fun _=>?_,fun t=>(by cases t)⟩
 have Vo:to<w.R.length:=by omega
 have o_:(kB w k).R[to]? =some (az w to):=pF Vo
 obtain⟨l2,i,b,hq,hA,tq,dG⟩:=P1.get o_
 rw[htn]at hr rz hst
 refine⟨by show br _ w.R.length;unfold br;omega,_,by rw[htn];have:=kX hq;rw[dr]at this;exact this,_,rfl,_,rfl,_,rfl,_,rfl,_,rfl,l2,i,b,_,hA,tq,rfl,l.fr,l.m,rfl,hr,hmo,fun A2 p2=>⟨yF (kB w k) l,q1,A2,⟨?_⟩,?_,to,by rw[hto],rz,fun w' hw' q' A' p'=>h w' (by rw[hw',hst]) q' A' p'⟩⟩
 ·exact AK (by show _=w.R.length;rw[gC];rfl) q1 A2
 ·have:=dG _ _ p2
  show PW A2 q1 (w.R.set l.to.toNat (gu (az w l.to.toNat) l.fr l.m))
  rw[htn];exact this)
theorem AG {w:Wd} {i:Nat} (h:i<w.vs.length):w.vs[i]? =some (AF w i):=by
 unfold AF;rw[kn,bx h];rfl
structure BZ (w:Wd):Prop where
 vl:0<w.vs.length
 v1:w.vs.length<=10000
 ml:(cY w).mem.length<=1000
 jl:(cY w).aL.length<=1000
 m0:0<(cY w).mem.length
 h0:0<=iH (cY w)
 h1:iH (cY w)<w.R.length
 r:bz (az w (iH (cY w)).toNat)
 e0:0<=(cY w).ve
 e1:(cY w).ve<=1000000
def Iw:List V->Wd->(V->Wd->Prop)->Prop:=fun rest w k=>∃(s:Sp) (a:Int),rest=[pL s,.int Z a]/\BZ w/\∀ w',w'=qO w s a->k (.υ []) w'
theorem Yl:aT Tryz.prog 28 (WM Iw):=mP I1 mixed eW (fun args kb K h=>by
 unfold WM at h;split at h<;>try exact h.elim
 obtain⟨w,q,A,⟨rfl⟩,hp,s,a,rfl,hc,h⟩:=h
 refine⟨x_ w s a 0 Fe 28,?_⟩
 show aO _ _ _ _ _ _ (eX eW (dh 8 K))
 apply acB w s a q A K
 obtain⟨vl,v1,ml,jl,m0,h0,h1,hr,ve0,ve1⟩:=hc
 have w1:Z.wrap (((w.vs.length - 0:Nat):Int) - 1)=((w.vs.length - 1:Nat):Int):=by rw[bR (by omega) (by omega)];omega
 have hv:(w.vs.map bt)[0+((w.vs.length - 1:Nat):Int).toNat]? =some (bt (cY w)):=by
  rw[cL,dr,fG,AG (by omega)];rfl
 have UR:lQ 3:=⟨by omega,by omega⟩
 have hh:(cY w).mem.getD 0 0=iH (cY w):=rfl
 obtain⟨hd,yJ⟩:∃ n:Nat,iH (cY w)=(n:Int):=⟨(iH (cY w)).toNat,by omega⟩
 have hdn:(iH (cY w)).toNat=hd:=by omega
 have hdl:hd<w.R.length:=by omega
 rw[hdn]at hr
 have no:∀ q' A',PW A' q' w.R->aN s.k 3=2/\¬ (ib (az w hd)=true/\(az w hd).ep=(cY w).ve)->K (.υ []) (eN w q' A'):=fun q' A' p' t=>h w (by unfold qO;rw[hdn,if_pos t]) q' A' p'
 have hm0:(ints Z (cY w).mem)[0]? =some [η (.int Z (iH (cY w)))]:=by rw[kw,vk m0];rfl
 have hpt:∀{q1:List (Nat×Nat)} {k b:Nat},q1[hd]? =some (k,b)->(q1.map bj)[0+(iH (cY w)).toNat]? =some [η (pv b)]:=fun hq=>by have:=kX hq;rw[hdn];rw[dr]at this;exact this
 have j5:aQ 0:=by unfold aQ;omega
 have hin:br (iH (cY w)) (w.R.length - 0):=by show br _ w.R.length;unfold br;omega
 dsimp only
 rw[w1]
 refine⟨by unfold br;omega,_,hv,_,rfl,_,rfl,_,rfl,_,rfl,_,rfl,⟨_,hv,_,rfl,_,rfl,_,rfl,_,rfl,_,rfl,trivial⟩,trivial,trivial,UR,⟨?_,?_⟩,?_⟩
 ·exact At.mk' (⟨⟨_,q,A,_⟩,rfl,rfl,hp⟩:{x:j0 // BX w s x}) rfl
 ·rintro⟨⟨e,q1,A1,b⟩,he,hb,P1⟩
  dsimp only at he hb P1 ⊢
  subst he
  refine⟨fun tb=>?_,fun tb=>?_⟩
  ·rw[tb]at hb
   have hp2:aN s.k 3=2:=by simpa using hb.symm
   obtain⟨l,i,b',hq,hA,tq,dG⟩:=P1.get (pF hdl)
   refine⟨_,rfl,j5,_,hm0,_,rfl,hin,_,hpt hq,_,rfl,l,i,b',_,hA,tq,rfl,⟨rfl⟩,hr,fun A2 p2=>?_⟩
   have P2:=dG _ _ p2
   have hsame:w.R.set hd (az w hd)=w.R:=by
    apply km
    intro k
    by_cases ek:hd=k
    ·subst ek;rw[gB hdl,pF hdl]
    ·rw[fR ek]
   rw[hsame]at P2
   obtain⟨l',i',b'',np,T9,U4,Vk⟩:=P2.get (pF hdl)
   refine⟨_,rfl,j5,_,hm0,_,rfl,hin,_,hpt np,_,rfl,l',i',b'',_,T9,U4,rfl,⟨rfl⟩,hr,fun A3 p3=>?_⟩
   have P3:=Vk _ _ p3
   rw[hsame]at P3
   refine⟨fun t1=>?_,fun t1=>⟨_,rfl,fun t2=>?_,fun t2=>?_⟩⟩
   ·exact no _ _ P3 ⟨hp2,fun t=>by rw[t.1]at t1;cases t1⟩
   ·exact no _ _ P3 ⟨hp2,fun t=>by rw[t.2]at t2;simp at t2⟩
   ·exact At.mk' (⟨⟨_,q1,A3,true⟩,rfl,fun _=>by rw[hdn];exact⟨by simpa using t1,by simpa using t2⟩,P3⟩:{x:j0 // xN w s x}) rfl
  ·rw[tb]at hb
   have hp2:¬ aN s.k 3=2:=by intro t;rw[t]at hb;cases hb
   exact At.mk' (⟨⟨_,q1,A1,true⟩,rfl,fun t=>absurd t hp2,P1⟩:{x:j0 // xN w s x}) rfl
 rintro⟨⟨e,q1,A1,b⟩,he,hok,P1⟩
 dsimp only at he P1 ⊢
 subst he
 refine⟨_,rfl,_,rfl,_,rfl,_,rfl,_,rfl,(cY w).mem,(cY w).aL,rfl,rfl,ml,jl,⟨ve0,by omega⟩,ve1,fun x hx=>?_⟩
 have hx:x=l5 (cY w) (aN s.k 3) a:=hx
 refine⟨⟨_,rfl,?_⟩,?_⟩
 ·exact At.mk' (⟨⟨bt x,q1,A1,x.ve != (cY w).ve⟩,by rw[<- hx],by rw[<- hx],P1⟩:{x:j0 // BY w s a x}) rfl
 rintro⟨⟨e,q2,A2,b⟩,he,hb,P2⟩
 dsimp only at he hb P2 ⊢
 subst he
 rw[<- hx]at hb ⊢
 have hsk:¬ (aN s.k 3=2/\¬ (ib (az w (iH (cY w)).toNat)=true/\(az w (iH (cY w)).toNat).ep=(cY w).ve)):=fun t=>t.2 (hok t.1)
 refine⟨fun tb=>?_,fun tb=>?_⟩
 ·rw[tb]at hb
  have hne:x.ve≠(cY w).ve:=by simpa using hb.symm
  refine⟨_,rfl,_,rfl,_,rfl,_,rfl,_,rfl,trivial,aE _,by rw[cg];exact aE _,by omega,?_⟩
  have:=h {w with vs:=w.vs++[x] } (by unfold qO;rw[if_neg hsk,<- hx,if_pos hne]) q2 A2 P2
  have e1:(w.vs++[x]).length=w.vs.length+1:=by rw[bw];rfl
  have e2:(w.vs++[x]).map bt=ah w.vs.length (w.vs.map bt)++[bt x]:=by
   rw[jC,fI (by rw[cg];exact aE _)];rfl
  unfold eN iQ jx at this
  dsimp only at this
  rw[e1,e2]at this
  exact this
 ·rw[tb]at hb
  have hne:¬ x.ve≠(cY w).ve:=by simpa using hb.symm
  exact h w (by unfold qO;rw[if_neg hsk,<- hx,if_neg hne]) q2 A2 P2)
def tR (R:φ) (a:Int):φ:=newR a 5 false R.ep R.nu R.c R.t
def dq (w:Wd):Wd:={w with now:=w.now+1 }
def dX (w:Wd) (i:Nat) (R:φ):Wd:={w with R:=w.R.set i R }
def vb (w:Wd) (k:Nat):Wd:={w with aa:=w.aa++[fK w k] }
def Hn (w:Wd) (i:Nat):Wd:=jo (dX w i (fX (az w i))) i
def gW (w:Wd):Nat->Wd
 | 0=>w
 |i+1=>Hn (gW w i) i
def mg (w:Wd) (s:Sp):Vw:=AF w (max 0 ((w.vs.length:Int) - 1 - aN s.n 3)).toNat
def QJ (w:Wd) (a:Nat) (v:Vw):Wd:=jo (dX w a (gi (az w a) v)) a
noncomputable def kZ (w:Wd) (s:Sp) (a k:Nat):Wd:=
 if s.d=0 then mQ w s a
 else if s.d=1 then(if 0<w.aa.length then u7 w k else w)
 else if s.d=2 then(if 0<w.aa.length then kB w k else w)
 else if s.d=3 then(if 0<w.aa.length/\w.aa.length<500 then vb w k else w)
 else if s.d=4 then dX w a (tR (az w a) a)
 else if s.d=5 then qO w s (a:Int)
 else if s.d=6 then QJ w a (mg w s)
 else if s.d=7 then gW w 4 else w
def cC (s:Sp):Nat:=(aN s.cx 4).toNat
def gG (w:Wd) (s:Sp):Nat:=(aN s.n w.aa.length).toNat
noncomputable def gV (w:Wd) (s:Sp):Wd:=kZ (dq w) s (cC s) (gG w s)
structure kK where
 i:Nat
 W:Wd
 q:List (Nat×Nat)
 A:List (Sg×KB)
structure xM (w:Wd) (x:kK):Prop where
 le:x.i<=4
 W:x.W=gW (dq w) x.i
 p:PW x.A x.q x.W.R
abbrev Hp (w:Wd):LI where
 α:={x:kK // xM w x}
 live:=[0,8]
 dN:=eW
 st x:=([ac 0 0,.int Z (x.1.i:Int)],eN x.1.W x.1.q x.1.A)
 μ x:=4 - x.1.i
def Pp (w:Wd):FuncId->Nat->Option LI
 | 9,28=>some (Hp w)
 |_,_=>none
def GH:FuncId->Option dw
 | 26=>some ⟨[.gU],WM It⟩
 | 27=>some ⟨[.gU],WM Il⟩
 | 28=>some ⟨[.gU],WM Iw⟩
 |f=>wq f
noncomputable def Jg:bM:=dF Tryz.prog GH aM 10
theorem acl (w:Wd) (s:Sp) (q:List (Nat×Nat)) (A:List (Sg×KB)) (K:V->KB->Prop) (ay:
 let aq:=δ Z (Z.wrap (w.now+1));let bB:=(ah (0+(w.aa.length - 0)) (ι aZ w.aa));lQ 4/\
 lQ (↑(w.aa.length - 0):Int)/\
 ((s.d == 0)=true->
 ∃(w_1:Wd),∃(nJ:List (Nat×Nat)),∃(mU:List (Sg×KB)),mV [ω [ε 1 0 w.R.length,ε 2 0 w.dk.length,ε 3 0 w.vs.length,ε 4 0 w.aa.length,ε 5 0 w.cs.length,ε 6 0 w.au.length,aq,ξ w.ok],ζ 30 1 (ι bj q),ζ 23 1 (ι ax w.dk),ζ 49 5 (ι bt w.vs),ζ 73 3 (ι aZ w.aa),ζ 61 10 (ι bi w.cs),ζ 3 1 (ints Z w.au),bE A] w_1 nJ mU/\
 PW mU nJ w_1.R/\
 ∃(s_1:Sp),∃(a:Nat),[cF [δ Z s.d,δ Z s.cx,δ Z s.n,δ Z s.k,ξ s.ag],δ Z (aN s.cx 4)]=[pL s_1,δ Z (↑a:Int)]/\
 xH w_1 s_1 a/\
 ∀(w':Wd),w'=mQ w_1 s_1 a->
 ∀(q':List (Nat×Nat)) (A':List (Sg×KB)),PW A' q' w'.R->
 K (ar []) [ω [ε 8 0 w'.R.length,ε 9 0 w'.dk.length,ε 10 0 w'.vs.length,ε 11 0 w'.aa.length,ε 12 0 w'.cs.length,ε 13 0 w'.au.length,δ Z w'.now,ξ w'.ok],ο,ο,ο,ο,ο,ο,bE A',ζ 30 1 (ι bj q'),ζ 23 1 (ι ax w'.dk),ζ 49 5 (ι bt w'.vs),ζ 73 3 (ι aZ w'.aa),ζ 61 10 (ι bi w'.cs),ζ 3 1 (ints Z w'.au)])/\
 ((s.d == 0)=false->
 ((s.d == 1)=true->
 (decide ((↑(w.aa.length - 0):Int) > 0)=true->
 ∃(w_1:Wd),∃(nJ:List (Nat×Nat)),∃(mU:List (Sg×KB)),mV [ω [ε 1 0 w.R.length,ε 2 0 w.dk.length,ε 3 0 w.vs.length,ε 4 0 w.aa.length,ε 5 0 w.cs.length,ε 6 0 w.au.length,aq,ξ w.ok],ζ 30 1 (ι bj q),ζ 23 1 (ι ax w.dk),ζ 49 5 (ι bt w.vs),ζ 73 3 (ι aZ w.aa),ζ 61 10 (ι bi w.cs),ζ 3 1 (ints Z w.au),bE A] w_1 nJ mU/\
 PW mU nJ w_1.R/\
 ∃(i:Nat),[δ Z (aN s.n (↑(w.aa.length - 0):Int))]=[δ Z (↑i:Int)]/\
 wS w_1 i/\
 ∀(w':Wd),w'=u7 w_1 i->
 ∀(q':List (Nat×Nat)) (A':List (Sg×KB)),PW A' q' w'.R->
 K (ar []) [ω [ε 8 0 w'.R.length,ε 9 0 w'.dk.length,ε 10 0 w'.vs.length,ε 11 0 w'.aa.length,ε 12 0 w'.cs.length,ε 13 0 w'.au.length,δ Z w'.now,ξ w'.ok],ο,ο,ο,ο,ο,ο,bE A',ζ 30 1 (ι bj q'),ζ 23 1 (ι ax w'.dk),ζ 49 5 (ι bt w'.vs),ζ 73 3 (ι aZ w'.aa),ζ 61 10 (ι bi w'.cs),ζ 3 1 (ints Z w'.au)])/\
 (decide ((↑(w.aa.length - 0):Int) > 0)=false->
 K (ar []) [ω [ε 8 0 w.R.length,ε 9 0 w.dk.length,ε 10 0 w.vs.length,ε 11 0 w.aa.length,ε 12 0 w.cs.length,ε 13 0 w.au.length,aq,ξ w.ok],ο,ο,ο,ο,ο,ο,bE A,ζ 30 1 (ι bj q),ζ 23 1 (ι ax w.dk),ζ 49 5 (ι bt w.vs),ζ 73 3 (ι aZ w.aa),ζ 61 10 (ι bi w.cs),ζ 3 1 (ints Z w.au)]))/\
 ((s.d == 1)=false->
 ((s.d == 2)=true->
 (decide ((↑(w.aa.length - 0):Int) > 0)=true->
 True/\
 aQ (aN s.n (↑(w.aa.length - 0):Int))/\
 0<=(aN s.n (↑(w.aa.length - 0):Int)).toNat/\
 (aN s.n (↑(w.aa.length - 0):Int)).toNat<=w.aa.length - 0/\
 aQ (Z.wrap (aN s.n (↑(w.aa.length - 0):Int)+1))/\
 True/\
 (Z.wrap (aN s.n (↑(w.aa.length - 0):Int)+1)).toNat<=w.aa.length - 0/\
 w.aa.length - 0<=w.aa.length - 0/\
 True/\
 True/\
 True/\
 True/\
 0+(aN s.n (↑(w.aa.length - 0):Int)).toNat<=(ι aZ w.aa).length/\
 0<=0/\
 (0+(ν 0 (ah (0+(aN s.n (↑(w.aa.length - 0):Int)).toNat) (ι aZ w.aa))).length)*40<=140737488355328/\
 0+(w.aa.length - 0)<=(ι aZ w.aa).length/\
 0+(ν 0 (ah (0+(aN s.n (↑(w.aa.length - 0):Int)).toNat) (ι aZ w.aa))).length<=([]++ν 0 (ah (0+(aN s.n (↑(w.aa.length - 0):Int)).toNat) (ι aZ w.aa))).length/\
 (0+(ν 0 (ah (0+(aN s.n (↑(w.aa.length - 0):Int)).toNat) (ι aZ w.aa))).length+(ν (0+(Z.wrap (aN s.n (↑(w.aa.length - 0):Int)+1)).toNat) bB).length)*40<=140737488355328/\
 K (ar []) [ω [ε 8 0 w.R.length,ε 9 0 w.dk.length,ε 10 0 w.vs.length,ε 11 0 (0+(ν 0 (ah (0+(aN s.n (↑(w.aa.length - 0):Int)).toNat) (ι aZ w.aa))).length+(ν (0+(Z.wrap (aN s.n (↑(w.aa.length - 0):Int)+1)).toNat) bB).length),ε 12 0 w.cs.length,ε 13 0 w.au.length,aq,ξ w.ok],ο,ο,ο,ο,ο,ο,bE A,ζ 30 1 (ι bj q),ζ 23 1 (ι ax w.dk),ζ 49 5 (ι bt w.vs),ζ 73 3 (ah (0+(ν 0 (ah (0+(aN s.n (↑(w.aa.length - 0):Int)).toNat) (ι aZ w.aa))).length) ([]++ν 0 (ah (0+(aN s.n (↑(w.aa.length - 0):Int)).toNat) (ι aZ w.aa)))++ν (0+(Z.wrap (aN s.n (↑(w.aa.length - 0):Int)+1)).toNat) bB),ζ 61 10 (ι bi w.cs),ζ 3 1 (ints Z w.au)])/\
 (decide ((↑(w.aa.length - 0):Int) > 0)=false->
 K (ar []) [ω [ε 8 0 w.R.length,ε 9 0 w.dk.length,ε 10 0 w.vs.length,ε 11 0 w.aa.length,ε 12 0 w.cs.length,ε 13 0 w.au.length,aq,ξ w.ok],ο,ο,ο,ο,ο,ο,bE A,ζ 30 1 (ι bj q),ζ 23 1 (ι ax w.dk),ζ 49 5 (ι bt w.vs),ζ 73 3 (ι aZ w.aa),ζ 61 10 (ι bi w.cs),ζ 3 1 (ints Z w.au)]))/\
 ((s.d == 2)=false->
 ((s.d == 3)=true->
 (decide ((↑(w.aa.length - 0):Int) > 0)=true->
 (decide ((↑(w.aa.length - 0):Int)<500)=true->
 br (aN s.n (↑(w.aa.length - 0):Int)) (w.aa.length - 0)/\
 ∃(e:List D),(ι aZ w.aa)[0+(aN s.n (↑(w.aa.length - 0):Int)).toNat]? =some e/\
 ∃(n:Int),e[0]? =some (η (κ Z n))/\
 ∃(n_1:Int),e[1]? =some (η (κ Z n_1))/\
 ∃(l:List (List D)),e[2]? =some (π 1 l)/\
 True/\
 True/\
 1<=1/\
 w.aa.length<=(ι aZ w.aa).length/\
 (w.aa.length+1)*40<=140737488355328/\
 K (ar []) [ω [ε 8 0 w.R.length,ε 9 0 w.dk.length,ε 10 0 w.vs.length,ε 11 0 (w.aa.length+1),ε 12 0 w.cs.length,ε 13 0 w.au.length,aq,ξ w.ok],ο,ο,ο,ο,ο,ο,bE A,ζ 30 1 (ι bj q),ζ 23 1 (ι ax w.dk),ζ 49 5 (ι bt w.vs),ζ 73 3 (ah w.aa.length (ι aZ w.aa)++[[η (κ Z n),η (κ Z n_1),π 1 l]]),ζ 61 10 (ι bi w.cs),ζ 3 1 (ints Z w.au)])/\
 (decide ((↑(w.aa.length - 0):Int)<500)=false->
 K (ar []) [ω [ε 8 0 w.R.length,ε 9 0 w.dk.length,ε 10 0 w.vs.length,ε 11 0 w.aa.length,ε 12 0 w.cs.length,ε 13 0 w.au.length,aq,ξ w.ok],ο,ο,ο,ο,ο,ο,bE A,ζ 30 1 (ι bj q),ζ 23 1 (ι ax w.dk),ζ 49 5 (ι bt w.vs),ζ 73 3 (ι aZ w.aa),ζ 61 10 (ι bi w.cs),ζ 3 1 (ints Z w.au)]))/\
 (decide ((↑(w.aa.length - 0):Int) > 0)=false->
 K (ar []) [ω [ε 8 0 w.R.length,ε 9 0 w.dk.length,ε 10 0 w.vs.length,ε 11 0 w.aa.length,ε 12 0 w.cs.length,ε 13 0 w.au.length,aq,ξ w.ok],ο,ο,ο,ο,ο,ο,bE A,ζ 30 1 (ι bj q),ζ 23 1 (ι ax w.dk),ζ 49 5 (ι bt w.vs),ζ 73 3 (ι aZ w.aa),ζ 61 10 (ι bi w.cs),ζ 3 1 (ints Z w.au)]))/\
 ((s.d == 3)=false->
 ((s.d == 4)=true->
 br (aN s.cx 4) (w.dk.length - 0)/\
 ∃(e:List D),(ι ax w.dk)[0+(aN s.cx 4).toNat]? =some e/\
 ∃(l:List (List D)),e[0]? =some (π 1 l)/\
 ∃(mU:List (Sg×KB)),∃(l_1:List (Nat×φ)),∃(t:List Int),qT [bE A] mU/\
 bO mU l_1/\
 l=ints θ t/\
 (∀(c:Int),ct c t->
 0<=c/\
 c<256)/\
 t.length<=900000/\
 (((∃(ep:Int),∃(nu:Int),∃(c:List Int),∃(x:List L3),jA t ep nu c x)->
 False)->
 (w.ok=true->
 (false=true->
 br (aN s.cx 4) (w.R.length - 0)/\
 0+(aN s.cx 4).toNat<(ι bj q).length/\
 K (ar []) [ω [ε 8 0 w.R.length,ε 9 0 w.dk.length,ε 10 0 w.vs.length,ε 11 0 w.aa.length,ε 12 0 w.cs.length,ε 13 0 w.au.length,aq,ξ false],ο,ο,ο,ο,ο,ο,bE A,ζ 30 1 ((ι bj q).set (0+(aN s.cx 4).toNat) [η (Value.pointer none)]),ζ 23 1 (ι ax w.dk),ζ 49 5 (ι bt w.vs),ζ 73 3 (ι aZ w.aa),ζ 61 10 (ι bi w.cs),ζ 3 1 (ints Z w.au)])/\
 (false=false->
 K (ar []) [ω [ε 8 0 w.R.length,ε 9 0 w.dk.length,ε 10 0 w.vs.length,ε 11 0 w.aa.length,ε 12 0 w.cs.length,ε 13 0 w.au.length,aq,ξ false],ο,ο,ο,ο,ο,ο,bE A,ζ 30 1 (ι bj q),ζ 23 1 (ι ax w.dk),ζ 49 5 (ι bt w.vs),ζ 73 3 (ι aZ w.aa),ζ 61 10 (ι bi w.cs),ζ 3 1 (ints Z w.au)]))/\
 (w.ok=false->
 (false=true->
 br (aN s.cx 4) (w.R.length - 0)/\
 0+(aN s.cx 4).toNat<(ι bj q).length/\
 K (ar []) [ω [ε 8 0 w.R.length,ε 9 0 w.dk.length,ε 10 0 w.vs.length,ε 11 0 w.aa.length,ε 12 0 w.cs.length,ε 13 0 w.au.length,aq,ξ false],ο,ο,ο,ο,ο,ο,bE A,ζ 30 1 ((ι bj q).set (0+(aN s.cx 4).toNat) [η (Value.pointer none)]),ζ 23 1 (ι ax w.dk),ζ 49 5 (ι bt w.vs),ζ 73 3 (ι aZ w.aa),ζ 61 10 (ι bi w.cs),ζ 3 1 (ints Z w.au)])/\
 (false=false->
 K (ar []) [ω [ε 8 0 w.R.length,ε 9 0 w.dk.length,ε 10 0 w.vs.length,ε 11 0 w.aa.length,ε 12 0 w.cs.length,ε 13 0 w.au.length,aq,ξ false],ο,ο,ο,ο,ο,ο,bE A,ζ 30 1 (ι bj q),ζ 23 1 (ι ax w.dk),ζ 49 5 (ι bt w.vs),ζ 73 3 (ι aZ w.aa),ζ 61 10 (ι bi w.cs),ζ 3 1 (ints Z w.au)])))/\
 ∀(ep nu:Int) (c:List Int) (x:List L3),jA t ep nu c x->
 ∀(b:Nat) (A':List (Sg×KB)),bO A' (l_1++[(b,newR (aN s.cx 4) 5 false ep nu c x)])->
 (w.ok=true->
 (true=true->
 br (aN s.cx 4) (w.R.length - 0)/\
 0+(aN s.cx 4).toNat<(ι bj q).length/\
 K (ar []) [ω [ε 8 0 w.R.length,ε 9 0 w.dk.length,ε 10 0 w.vs.length,ε 11 0 w.aa.length,ε 12 0 w.cs.length,ε 13 0 w.au.length,aq,ξ true],ο,ο,ο,ο,ο,ο,bE A',ζ 30 1 ((ι bj q).set (0+(aN s.cx 4).toNat) [η (pv b)]),ζ 23 1 (ι ax w.dk),ζ 49 5 (ι bt w.vs),ζ 73 3 (ι aZ w.aa),ζ 61 10 (ι bi w.cs),ζ 3 1 (ints Z w.au)])/\
 (true=false->
 K (ar []) [ω [ε 8 0 w.R.length,ε 9 0 w.dk.length,ε 10 0 w.vs.length,ε 11 0 w.aa.length,ε 12 0 w.cs.length,ε 13 0 w.au.length,aq,ξ true],ο,ο,ο,ο,ο,ο,bE A',ζ 30 1 (ι bj q),ζ 23 1 (ι ax w.dk),ζ 49 5 (ι bt w.vs),ζ 73 3 (ι aZ w.aa),ζ 61 10 (ι bi w.cs),ζ 3 1 (ints Z w.au)]))/\
 (w.ok=false->
 (true=true->
 br (aN s.cx 4) (w.R.length - 0)/\
 0+(aN s.cx 4).toNat<(ι bj q).length/\
 K (ar []) [ω [ε 8 0 w.R.length,ε 9 0 w.dk.length,ε 10 0 w.vs.length,ε 11 0 w.aa.length,ε 12 0 w.cs.length,ε 13 0 w.au.length,aq,ξ false],ο,ο,ο,ο,ο,ο,bE A',ζ 30 1 ((ι bj q).set (0+(aN s.cx 4).toNat) [η (pv b)]),ζ 23 1 (ι ax w.dk),ζ 49 5 (ι bt w.vs),ζ 73 3 (ι aZ w.aa),ζ 61 10 (ι bi w.cs),ζ 3 1 (ints Z w.au)])/\
 (true=false->
 K (ar []) [ω [ε 8 0 w.R.length,ε 9 0 w.dk.length,ε 10 0 w.vs.length,ε 11 0 w.aa.length,ε 12 0 w.cs.length,ε 13 0 w.au.length,aq,ξ false],ο,ο,ο,ο,ο,ο,bE A',ζ 30 1 (ι bj q),ζ 23 1 (ι ax w.dk),ζ 49 5 (ι bt w.vs),ζ 73 3 (ι aZ w.aa),ζ 61 10 (ι bi w.cs),ζ 3 1 (ints Z w.au)])))/\
 ((s.d == 4)=false->
 ((s.d == 5)=true->
 ∃(w_1:Wd),∃(nJ:List (Nat×Nat)),∃(mU:List (Sg×KB)),mV [ω [ε 1 0 w.R.length,ε 2 0 w.dk.length,ε 3 0 w.vs.length,ε 4 0 w.aa.length,ε 5 0 w.cs.length,ε 6 0 w.au.length,aq,ξ w.ok],ζ 30 1 (ι bj q),ζ 23 1 (ι ax w.dk),ζ 49 5 (ι bt w.vs),ζ 73 3 (ι aZ w.aa),ζ 61 10 (ι bi w.cs),ζ 3 1 (ints Z w.au),bE A] w_1 nJ mU/\
 PW mU nJ w_1.R/\
 ∃(s_1:Sp),∃(a:Int),[cF [δ Z s.d,δ Z s.cx,δ Z s.n,δ Z s.k,ξ s.ag],δ Z (aN s.cx 4)]=[pL s_1,δ Z a]/\
 BZ w_1/\
 ∀(w':Wd),w'=qO w_1 s_1 a->
 ∀(q':List (Nat×Nat)) (A':List (Sg×KB)),PW A' q' w'.R->
 K (ar []) [ω [ε 8 0 w'.R.length,ε 9 0 w'.dk.length,ε 10 0 w'.vs.length,ε 11 0 w'.aa.length,ε 12 0 w'.cs.length,ε 13 0 w'.au.length,δ Z w'.now,ξ w'.ok],ο,ο,ο,ο,ο,ο,bE A',ζ 30 1 (ι bj q'),ζ 23 1 (ι ax w'.dk),ζ 49 5 (ι bt w'.vs),ζ 73 3 (ι aZ w'.aa),ζ 61 10 (ι bi w'.cs),ζ 3 1 (ints Z w'.au)])/\
 ((s.d == 5)=false->
 ((s.d == 6)=true->
 br (aN s.cx 4) (w.R.length - 0)/\
 ∃(e:List D),(ι bj q)[0+(aN s.cx 4).toNat]? =some e/\
 ∃(v:Value),e[0]? =some (η v)/\
 True/\
 True/\
 True/\
 lQ 3/\
 (∃(e:List D),(ι bj q)[0+(aN s.cx 4).toNat]? =some e/\
 ∃(v_1:Value),e[0]? =some (η v_1)/\
 an (η v_1)=an (η v))/\
 br (if Z.wrap (Z.wrap ((↑(w.vs.length - 0):Int) - 1) - aN s.n 3) > 0 then Z.wrap (Z.wrap ((↑(w.vs.length - 0):Int) - 1) - aN s.n 3)else 0) (w.vs.length - 0)/\
 ∃(e:List D),(ι bt w.vs)[0+(if Z.wrap (Z.wrap ((↑(w.vs.length - 0):Int) - 1) - aN s.n 3) > 0 then Z.wrap (Z.wrap ((↑(w.vs.length - 0):Int) - 1) - aN s.n 3)else 0).toNat]? =some e/\
 ∃(n:Int),e[0]? =some (η (κ Z n))/\
 ∃(n_1:Int),e[1]? =some (η (κ Z n_1))/\
 ∃(n_2:Int),e[2]? =some (η (κ Z n_2))/\
 ∃(l:List (List D)),e[3]? =some (π 1 l)/\
 ∃(l_1:List (List D)),e[4]? =some (π 1 l_1)/\
 ∃(l_2:List (Nat×φ)),∃(i:Nat),∃(b:Nat),∃(R:φ),bO A l_2/\
 l_2[i]? =some (b,R)/\
 η v=η (pv b)/\
 ∃(w_1:Vw),[cF [δ Z n,δ Z n_1,δ Z n_2,an (π 1 l),an (π 1 l_1)]]=[wA w_1]/\
 bz R/\
 w_1.mem.length+w_1.aL.length<=1000/\
 R.out.length+(bA R.me w_1.mem w_1.aL).length<=100000/\
 ∀(A':List (Sg×KB)),bO A' (l_2.set i (b,gi R w_1))->
 ∃(w_2:Wd),∃(nJ:List (Nat×Nat)),∃(A:List (Sg×KB)),mV [ω [ε 1 0 w.R.length,ε 2 0 w.dk.length,ε 3 0 w.vs.length,ε 4 0 w.aa.length,ε 5 0 w.cs.length,ε 6 0 w.au.length,aq,ξ w.ok],ζ 30 1 (ι bj q),ζ 23 1 (ι ax w.dk),ζ 49 5 (ι bt w.vs),ζ 73 3 (ι aZ w.aa),ζ 61 10 (ι bi w.cs),ζ 3 1 (ints Z w.au),bE A'] w_2 nJ A/\
 PW A nJ w_2.R/\
 ∃(i:Nat),[δ Z (aN s.cx 4)]=[δ Z (↑i:Int)]/\
 jz w_2 i/\
 ∀(w':Wd),w'=jo w_2 i->
 ∀(q':List (Nat×Nat)) (A':List (Sg×KB)),PW A' q' w'.R->
 K (ar []) [ω [ε 8 0 w'.R.length,ε 9 0 w'.dk.length,ε 10 0 w'.vs.length,ε 11 0 w'.aa.length,ε 12 0 w'.cs.length,ε 13 0 w'.au.length,δ Z w'.now,ξ w'.ok],ο,ο,ο,ο,ο,ο,bE A',ζ 30 1 (ι bj q'),ζ 23 1 (ι ax w'.dk),ζ 49 5 (ι bt w'.vs),ζ 73 3 (ι aZ w'.aa),ζ 61 10 (ι bi w'.cs),ζ 3 1 (ints Z w'.au)])/\
 ((s.d == 6)=false->
 ((s.d == 7)=true->
 At (Hp w) ([ac 0 0,δ Z 0],[ω [ε 8 0 w.R.length,ε 9 0 w.dk.length,ε 10 0 w.vs.length,ε 11 0 w.aa.length,ε 12 0 w.cs.length,ε 13 0 w.au.length,aq,ξ w.ok],ο,ο,ο,ο,ο,ο,bE A,ζ 30 1 (ι bj q),ζ 23 1 (ι ax w.dk),ζ 49 5 (ι bt w.vs),ζ 73 3 (ι aZ w.aa),ζ 61 10 (ι bi w.cs),ζ 3 1 (ints Z w.au)])/\
 ∀(i:{x:kK // xM w x }),(decide ((↑i.val.i:Int)<4)=true->
 br (↑i.val.i:Int) (i.val.W.R.length - 0)/\
 ∃(e:List D),(ι bj i.val.q)[0+(↑i.val.i:Int).toNat]? =some e/\
 ∃(v:Value),e[0]? =some (η v)/\
 ∃(l:List (Nat×φ)),∃(i_1:Nat),∃(b:Nat),∃(R:φ),bO i.val.A l/\
 l[i_1]? =some (b,R)/\
 η v=η (pv b)/\
 fY []/\
 bz R/\
 0<=R.ti/\
 R.ti<=2199023255552/\
 R.out.length+(ba R).length<=100000/\
 ∀(A':List (Sg×KB)),bO A' (l.set i_1 (b,fX R))->
 ∃(w_1:Wd),∃(q:List (Nat×Nat)),∃(A:List (Sg×KB)),mV [ω [ε 1 0 i.val.W.R.length,ε 2 0 i.val.W.dk.length,ε 3 0 i.val.W.vs.length,ε 4 0 i.val.W.aa.length,ε 5 0 i.val.W.cs.length,ε 6 0 i.val.W.au.length,δ Z i.val.W.now,ξ i.val.W.ok],ζ 30 1 (ι bj i.val.q),ζ 23 1 (ι ax i.val.W.dk),ζ 49 5 (ι bt i.val.W.vs),ζ 73 3 (ι aZ i.val.W.aa),ζ 61 10 (ι bi i.val.W.cs),ζ 3 1 (ints Z i.val.W.au),bE A'] w_1 q A/\
 PW A q w_1.R/\
 ∃(i_2:Nat),[δ Z (↑i.val.i:Int)]=[δ Z (↑i_2:Int)]/\
 jz w_1 i_2/\
 ∀(w':Wd),w'=jo w_1 i_2->
 ∀(q':List (Nat×Nat)) (A':List (Sg×KB)),PW A' q' w'.R->
 Nx (Hp w) i ([ac 0 0,δ Z (Z.wrap ((↑i.val.i:Int)+1))],[ω [ε 8 0 w'.R.length,ε 9 0 w'.dk.length,ε 10 0 w'.vs.length,ε 11 0 w'.aa.length,ε 12 0 w'.cs.length,ε 13 0 w'.au.length,δ Z w'.now,ξ w'.ok],ο,ο,ο,ο,ο,ο,bE A',ζ 30 1 (ι bj q'),ζ 23 1 (ι ax w'.dk),ζ 49 5 (ι bt w'.vs),ζ 73 3 (ι aZ w'.aa),ζ 61 10 (ι bi w'.cs),ζ 3 1 (ints Z w'.au)]))/\
 (decide ((↑i.val.i:Int)<4)=false->
 K (ar []) [ω [ε 8 0 i.val.W.R.length,ε 9 0 i.val.W.dk.length,ε 10 0 i.val.W.vs.length,ε 11 0 i.val.W.aa.length,ε 12 0 i.val.W.cs.length,ε 13 0 i.val.W.au.length,δ Z i.val.W.now,ξ i.val.W.ok],ο,ο,ο,ο,ο,ο,bE i.val.A,ζ 30 1 (ι bj i.val.q),ζ 23 1 (ι ax i.val.W.dk),ζ 49 5 (ι bt i.val.W.vs),ζ 73 3 (ι aZ i.val.W.aa),ζ 61 10 (ι bi i.val.W.cs),ζ 3 1 (ints Z i.val.W.au)]))/\
 ((s.d == 7)=false->
 K (ar []) [ω [ε 8 0 w.R.length,ε 9 0 w.dk.length,ε 10 0 w.vs.length,ε 11 0 w.aa.length,ε 12 0 w.cs.length,ε 13 0 w.au.length,aq,ξ w.ok],ο,ο,ο,ο,ο,ο,bE A,ζ 30 1 (ι bj q),ζ 23 1 (ι ax w.dk),ζ 49 5 (ι bt w.vs),ζ 73 3 (ι aZ w.aa),ζ 61 10 (ι bi w.cs),ζ 3 1 (ints Z w.au)]))))))))
 ):aO Tryz.prog Jg (Pp w 9) 9 [ac 0 0,pL s] (k9 w q A) (eX eW (dh 8 K)):=by apply Eq.mp (a:=ay);kernel_rfl
theorem ZS:dE Tryz.prog GH:=fun f k h=>by
 unfold GH at h
 split at h
 ·cases h;exact Yb
 ·cases h;exact W8
 ·cases h;exact Yl
 ·exact G8 _ _ h
theorem R0:bW Tryz.prog Jg:=dI mixed ZS aM 10
theorem Mw {l:List Int} (hb:bm l) (hl:l.length<=900000) {ep nu KK Nq:Int} {c c':List Int} {x x':List L3} (h:jA l ep nu c x) (h':jA l KK Nq c' x'):ep=KK/\nu=Nq/\c=c'/\x=x':=by
 have F:=OC (l:=l) hb hl (Prod.ext rfl (Prod.ext rfl rfl)) (Prod.ext rfl (Prod.ext rfl rfl)) (Prod.ext rfl (Prod.ext rfl rfl)) (Prod.ext rfl (Prod.ext rfl rfl)) rfl
 obtain⟨a1,a2,a3,a4,_⟩:=F.fwd _ _ _ _ h
 obtain⟨b1,b2,b3,b4,_⟩:=F.fwd _ _ _ _ h'
 refine⟨a1.symm.trans b1,a2.symm.trans b2,?_,Qe h.x h'.x (a4.symm.trans b4)⟩
 have e:=congrArg em (a3.symm.trans b3)
 rw[zK,zK]at e
 exact bh.inj e
theorem WC {xs:List Nat} (h:xs.Nodup) {i v:Nat} (hi:i<xs.length) (hv:∀ x∈xs,x<v):(xs.set i v).Nodup:=by
 rw[List.set_eq_take_append_cons_drop,if_pos hi]
 have e:xs=xs.take i++xs[i]::xs.drop (i+1):=by rw[<- List.drop_eq_getElem_cons hi,List.take_append_drop]
 have h2:=h
 rw[e]at h2
 obtain⟨a,b,c⟩:=List.nodup_append.1 h2
 obtain⟨b1,b2⟩:=List.nodup_cons.1 b
 refine List.nodup_append.2 ⟨a,List.nodup_cons.2 ⟨fun hm=>by have:=hv v (List.mem_of_mem_drop hm);omega,b2⟩,fun x hx y hy=>?_⟩
 rcases eP.1 hy with rfl | hy
 ·have:=hv x (List.mem_of_mem_take hx);omega
 ·exact c x hx y (fS _ hy)
theorem CU.add {l:List (Nat×φ)} {q:List (Nat×Nat)} {R:List φ} (h:CU l q R) {i:Nat} (hi:i<R.length) (b:Nat) (r:φ):CU (l++[(b,r)]) (q.set i (l.length,b)) (R.set i r):=by
 have hlt:∀(j:Nat) (p:Nat×Nat),q[j]? =some p->p.1<l.length:=fun j p hj=>by
  obtain⟨_,_,h2⟩:=h.a j p hj
  exact(bU.1 h2).1
 have L2:i<q.length:=by rw[h.len];exact hi
 refine⟨by simp [h.len],fun j p hj=>?_,?_⟩
 ·by_cases e:i=j
  ·subst e
   rw[gB L2]at hj
   cases hj
   exact⟨r,gB hi,by rw[ef (aE _)];simp⟩
  ·rw[fR e]at hj
   obtain⟨r2,h1,h2⟩:=h.a j p hj
   exact⟨r2,by rw[fR e];exact h1,by rw[eH (hlt j p hj)];exact h2⟩
 ·rw[List.map_set]
  refine WC h.nd (by rw[cg];exact L2) fun x hx=>?_
  obtain⟨p,hp,rfl⟩:=fH.1 hx
  obtain⟨j,hj⟩:=List.getElem?_of_mem hp
  exact hlt j p hj
structure Bv (w:Wd) (s:Sp):Prop where
 rl:w.R.length=4
 dl:w.dk.length=4
 n0:0<=w.now
 n1:w.now<=1000000
 bl:w.aa.length<=10000
 vl:0<w.vs.length
 vm:w.vs.length<=10000
 c0:s.d=0->xH (dq w) s (cC s)
 c1:s.d=1->0<w.aa.length->wS (dq w) (gG w s)
 c4:s.d=4->w.dk[cC s]? =some (du (az w (cC s)))/\jA (du (az w (cC s))) (az w (cC s)).ep (az w (cC s)).nu (az w (cC s)).c (az w (cC s)).t/\bm (du (az w (cC s)))/\(du (az w (cC s))).length<=900000
 c5:s.d=5->BZ (dq w)
 c6:s.d=6->bz (az w (cC s))/\(mg w s).mem.length+(mg w s).aL.length<=1000/\(az w (cC s)).out.length+(bA (az w (cC s)).me (mg w s).mem (mg w s).aL).length<=100000/\jz (dX (dq w) (cC s) (gi (az w (cC s)) (mg w s))) (cC s)
 c7:s.d=7->∀ i,i<4->(gW (dq w) i).R.length=4/\bz (az (gW (dq w) i) i)/\0<=(az (gW (dq w) i) i).ti/\(az (gW (dq w) i) i).ti<=1000000/\(az (gW (dq w) i) i).out.length+(ba (az (gW (dq w) i) i)).length<=100000/\jz (dX (gW (dq w) i) i (fX (az (gW (dq w) i) i))) i
def GStep:List V->Wd->(V->Wd->Prop)->Prop:=fun rest w k=>∃ s:Sp,rest=[pL s]/\Bv w s/\∀ w',w'=gV w s->k (.υ []) w'
theorem Yc:aT Tryz.prog 9 (WM GStep):=mP R0 mixed eW (fun args kb K h=>by
 unfold WM at h;split at h<;>try exact h.elim
 obtain⟨w,q,A,⟨rfl⟩,hp,s,rfl,hc,h⟩:=h
 refine⟨Pp w 9,?_⟩
 show aO _ _ _ _ _ _ (eX eW (dh 8 K))
 apply acl w s q A K
 have hn0:=hc.n0
 have hn1:=hc.n1
 have bX:=hc.bl
 have hrl:=hc.rl
 have hdl:=hc.dl
 have e1:Z.wrap (w.now+1)=w.now+1:=by rw[bR (by omega) (by omega)]
 have pa:=oB s.cx (n:=4) (by omega)
 have hat:aN s.cx 4=(cC s:Int):=by unfold cC;omega
 have Uk:cC s<4:=by unfold cC;omega
 dsimp only
 rw[e1,hat]
 have K0:∀ W:Wd,W.R=w.R->W=gV w s->K (.υ []) (eN W q A):=fun W hR hW=>h W hW q A (by rw[hR];exact hp)
 have hin:br (cC s:Int) w.R.length:=by unfold br;omega
 have hpk:0<w.aa.length->aN s.n ((w.aa.length - 0:Nat):Int)=(gG w s:Int)/\gG w s<w.aa.length:=fun hl=>by
  have:=oB s.n (n:=((w.aa.length - 0:Nat):Int)) (by omega)
  have e:gG w s=(aN s.n ((w.aa.length - 0:Nat):Int)).toNat:=rfl
  omega
 simp only[beq_iff_eq,beq_eq_false_iff_ne,ne_eq,decide_eq_true_eq,decide_eq_false_iff_not]
 refine⟨⟨by omega,by omega⟩,⟨by omega,by omega⟩,fun d0=>?_,fun d0=>⟨fun d1=>⟨fun hl=>?_,fun hl=>?_⟩,fun d1=>⟨fun d2=>⟨fun hl=>?_,fun hl=>?_⟩,fun d2=>⟨fun d3=>⟨fun hl=>⟨fun h5=>?_,fun h5=>?_⟩,fun hl=>?_⟩,fun d3=>⟨fun d4=>?_,fun d4=>⟨fun d5=>?_,fun d5=>⟨fun d6=>?_,fun d6=>⟨fun d7=>?_,fun d7=>?_⟩⟩⟩⟩⟩⟩⟩⟩
 ·exact⟨dq w,q,A,⟨rfl⟩,hp,s,cC s,rfl,hc.c0 d0,fun w' hw' q' A' p'=>h w' (by rw[hw'];unfold gV kZ;rw[if_pos d0]) q' A' p'⟩
 ·have hl:0<w.aa.length:=by omega
  obtain⟨k1,k2⟩:=hpk hl
  rw[k1]
  exact⟨dq w,q,A,⟨rfl⟩,hp,gG w s,rfl,hc.c1 d1 hl,fun w' hw' q' A' p'=>h w' (by rw[hw'];unfold gV kZ;rw[if_neg d0,if_pos d1,if_pos (by exact hl)]) q' A' p'⟩
 ·have hl:¬ 0<w.aa.length:=by omega
  exact K0 (dq w) rfl (by unfold gV kZ;rw[if_neg d0,if_pos d1,if_neg (by exact hl)])
 ·have hl:0<w.aa.length:=by omega
  obtain⟨k1,k2⟩:=hpk hl
  have w1:Z.wrap ((gG w s:Int)+1)=((gG w s+1:Nat):Int):=by rw[bR (by omega) (by omega)];rfl
  have hM:gG w s<(w.aa.map aZ).length:=by rw[cg];exact k2
  have hL:w.aa.length=(w.aa.map aZ).length:=by rw[cg]
  rw[k1,w1,dr,dr,PC hM hL,PB hM hL]
  have hst:kB (dq w) (gG w s)=gV w s:=by unfold gV kZ;rw[if_neg d0,if_neg d1,if_pos d2,if_pos (by exact hl)]
  have hel:(kB (dq w) (gG w s)).aa.length=((w.aa.map aZ).eraseIdx (gG w s)).length:=by
   show(w.aa.eraseIdx _).length=_
   rw[List.length_eraseIdx_of_lt k2,List.length_eraseIdx_of_lt hM,cg]
  have hem:(kB (dq w) (gG w s)).aa.map aZ=(w.aa.map aZ).eraseIdx (gG w s):=M3 aZ w.aa _
  have hle:((w.aa.map aZ).eraseIdx (gG w s)).length<=10000:=by rw[List.length_eraseIdx_of_lt hM];omega
  refine⟨trivial,by unfold aQ;omega,bF _,by omega,by unfold aQ;omega,trivial,by omega,aE _,trivial,trivial,trivial,trivial,by omega,aE _,by simp only[fh,cW];omega,by omega,by simp,by omega,?_⟩
  have:=K0 (kB (dq w) (gG w s)) rfl hst
  unfold eN iQ jg at this
  rw[hel,hem]at this
  exact this
 ·have hl:¬ 0<w.aa.length:=by omega
  exact K0 (dq w) rfl (by unfold gV kZ;rw[if_neg d0,if_neg d1,if_pos d2,if_neg (by exact hl)])
 ·have hl:0<w.aa.length:=by omega
  have h5:w.aa.length<500:=by omega
  obtain⟨k1,k2⟩:=hpk hl
  rw[k1]
  have hst:vb (dq w) (gG w s)=gV w s:=by unfold gV kZ;rw[if_neg d0,if_neg d1,if_neg d2,if_pos d3,if_pos (by exact⟨hl,h5⟩)]
  refine⟨by unfold br;omega,aZ (fK w (gG w s)),by rw[cL,dr,fG,Ct k2];rfl,_,rfl,_,rfl,_,rfl,trivial,trivial,aE _,by rw[cg];exact aE _,by omega,?_⟩
  have:=K0 (vb (dq w) (gG w s)) rfl hst
  have eb:(w.aa++[fK w (gG w s)]).length=w.aa.length+1:=by rw[bw];rfl
  have er:(w.aa++[fK w (gG w s)]).map aZ=ah w.aa.length (w.aa.map aZ)++[aZ (fK w (gG w s))]:=by
   rw[jC,fI (by rw[cg];exact aE _)];rfl
  unfold eN iQ jg at this
  have e9:(vb (dq w) (gG w s)).aa=w.aa++[fK w (gG w s)]:=rfl
  rw[e9,eb,er]at this
  exact this
 ·have h5:¬ w.aa.length<500:=by omega
  exact K0 (dq w) rfl (by unfold gV kZ;rw[if_neg d0,if_neg d1,if_neg d2,if_pos d3,if_neg (by exact fun t=>h5 t.2)])
 ·have hl:¬ 0<w.aa.length:=by omega
  exact K0 (dq w) rfl (by unfold gV kZ;rw[if_neg d0,if_neg d1,if_neg d2,if_pos d3,if_neg (by exact fun t=>hl t.1)])
 ·obtain⟨c1,c2,c3,c4⟩:=hc.c4 d4
  obtain⟨l,hA,nh⟩:=hp.h
  have hst:dX (dq w) (cC s) (tR (az w (cC s)) (cC s))=gV w s:=by unfold gV kZ;rw[if_neg d0,if_neg d1,if_neg d2,if_neg d3,if_pos d4];rfl
  have WO:∀(ep nu:Int) (c:List Int) (x:List L3),jA (du (az w (cC s))) ep nu c x->∀(b:Nat) (A':List (Sg×KB)),bO A' (l++[(b,newR (cC s:Int) 5 false ep nu c x)])->K (.υ []) (eN (dX (dq w) (cC s) (tR (az w (cC s)) (cC s))) (q.set (cC s) (l.length,b)) A'):=fun ep nu c x hr b A' pA=>by
   obtain⟨i1,i2,i3,i4⟩:=Mw c3 c4 c2 hr
   refine h _ hst _ _ ⟨_,pA,?_⟩
   rw[<- i1,<- i2,<- i3,<- i4]
   exact nh.add (by rw[hrl];exact Uk) b _
  have da:(w.dk.map ax)[0+(cC s:Int).toNat]? =some (ax (du (az w (cC s)))):=by rw[cL,dr,fG,c1];rfl
  have KL:∀ b:Nat,(q.map bj).set (0+(cC s:Int).toNat) [η (pv b)]=(q.set (cC s) (l.length,b)).map bj:=fun b=>by rw[cL,dr,List.map_set];rfl
  have TB:∀ b (A':List (Sg×KB)),eN (dX (dq w) (cC s) (tR (az w (cC s)) (cC s))) (q.set (cC s) (l.length,b)) A'=eN (dq w) (q.set (cC s) (l.length,b)) A':=fun b A'=>(AL (W:=dq w) (by show(w.R.set _ _).length=w.R.length;rw[gC]) _ _).symm
  have tq:0+(cC s:Int).toNat<(q.map bj).length:=by rw[cg,nh.len,hrl];omega
  refine⟨by unfold br;omega,_,da,_,rfl,A,l,du (az w (cC s)),⟨.inr rfl⟩,hA,rfl,c3,c4,fun hn=>absurd ⟨_,_,_,_,c2⟩ hn,fun ep nu c x hr b A' pA=>?_⟩
  have k:=WO ep nu c x hr b A' pA
  rw[TB]at k
  refine⟨fun t=>⟨fun _=>⟨hin,tq,?_⟩,fun t2=>(by cases t2)⟩,fun t=>⟨fun _=>⟨hin,tq,?_⟩,fun t2=>(by cases t2)⟩⟩
  ·rw[KL,<- t];exact k
  ·rw[KL,<- t];exact k
 ·exact⟨dq w,q,A,⟨rfl⟩,hp,s,(cC s:Int),rfl,hc.c5 d5,fun w' hw' q' A' p'=>h w' (by rw[hw'];unfold gV kZ;rw[if_neg d0,if_neg d1,if_neg d2,if_neg d3,if_neg d4,if_pos d5]) q' A' p'⟩
 ·have vl:=hc.vl
  have vm:=hc.vm
  have p3:=oB s.n (n:=3) (by omega)
  have x1:Z.wrap (Z.wrap (((w.vs.length - 0:Nat):Int) - 1) - aN s.n 3)=(w.vs.length:Int) - 1 - aN s.n 3:=by
   have:Z.wrap (((w.vs.length - 0:Nat):Int) - 1)=(w.vs.length:Int) - 1:=by rw[bR (by omega) (by omega)];omega
   rw[this,bR (by omega) (by omega)]
  rw[x1]
  obtain⟨tN,Vm⟩:∃ tN,(max 0 ((w.vs.length:Int) - 1 - aN s.n 3)).toNat=tN:=⟨_,rfl⟩
  have x2:(if(w.vs.length:Int) - 1 - aN s.n 3 > 0 then(w.vs.length:Int) - 1 - aN s.n 3 else 0)=(tN:Int):=by split<;>omega
  rw[x2]
  have tl:tN<w.vs.length:=by omega
  have hv:(w.vs.map bt)[0+(tN:Int).toNat]? =some (bt (mg w s)):=by rw[cL,dr,fG,AG tl];unfold mg;rw[Vm];rfl
  obtain⟨c1,c2,c3,c4⟩:=hc.c6 d6
  obtain⟨l,k,b,hq,hA,hl,dG⟩:=hp.get (pF (w:=w) (i:=cC s) (by omega))
  refine⟨hin,_,kX hq,_,rfl,trivial,trivial,trivial,⟨by omega,by omega⟩,⟨_,kX hq,_,rfl,rfl⟩,by unfold br;omega,_,hv,_,rfl,_,rfl,_,rfl,_,rfl,_,rfl,l,k,b,_,hA,hl,rfl,mg w s,rfl,c1,c2,c3,fun A2 p2=>⟨dX (dq w) (cC s) (gi (az w (cC s)) (mg w s)),q,A2,⟨AK (W:=dq w) (by show(w.R.set _ _).length=w.R.length;rw[gC]) q A2⟩,dG _ _ p2,cC s,rfl,c4,fun w' hw' q' A' p'=>h w' (by rw[hw'];unfold gV kZ;rw[if_neg d0,if_neg d1,if_neg d2,if_neg d3,if_neg d4,if_neg d5,if_pos d6];rfl) q' A' p'⟩⟩
 ·refine⟨At.mk' (⟨⟨0,dq w,q,A⟩,bF _,rfl,hp⟩:{x:kK // xM w x}) rfl,?_⟩
  rintro⟨⟨i,W,q1,A1⟩,hi,hW,P1⟩
  dsimp only at hi hW P1 ⊢
  subst hW
  refine⟨fun hlt=>?_,fun hge=>?_⟩
  ·have hlt:i<4:=by omega
   obtain⟨c1,c2,c3,c4,c5,c6⟩:=hc.c7 d7 i hlt
   obtain⟨l,k,b,hq,hA,hl,dG⟩:=P1.get (pF (w:=gW (dq w) i) (i:=i) (by omega))
   refine⟨by show br _ (gW (dq w) i).R.length;unfold br;omega,_,kX hq,_,rfl,l,k,b,_,hA,hl,rfl,⟨rfl⟩,c2,c3,by omega,c5,fun A2 p2=>⟨dX (gW (dq w) i) i (fX (az (gW (dq w) i) i)),q1,A2,⟨AK (W:=gW (dq w) i) (by show((gW (dq w) i).R.set _ _).length=_;rw[gC]) q1 A2⟩,dG _ _ p2,i,rfl,c6,fun w' hw' q' A' p'=>?_⟩⟩
   refine Nx.mk' (⟨⟨i+1,w',q',A'⟩,by show i+1<=4;omega,hw',p'⟩:{x:kK // xM w x}) ?_ (by show 4 - (i+1)<4 - i;omega)
   rw[bR (by omega) (by omega)]
   rfl
  ·have hi:i=4:=by omega
   subst hi
   exact h _ (by unfold gV kZ;rw[if_neg d0,if_neg d1,if_neg d2,if_neg d3,if_neg d4,if_neg d5,if_neg d6,if_pos d7]) q1 A1 P1
 ·exact K0 (dq w) rfl (by unfold gV kZ;rw[if_neg d0,if_neg d1,if_neg d2,if_neg d3,if_neg d4,if_neg d5,if_neg d6,if_neg d7]))
structure Kp (R R2:φ):Prop where
 h:R2.ch=true∨(R2.ep=R.ep/\R2.nu=R.nu/\R2.c=R.c/\R2.t=R.t/\R2.ch=R.ch)
theorem Kp.same {R R2:φ} (h1:R2.ep=R.ep) (h2:R2.nu=R.nu) (h3:R2.c=R.c) (h4:R2.t=R.t) (h5:R2.ch=R.ch):Kp R R2:=⟨.inr ⟨h1,h2,h3,h4,h5⟩⟩
theorem Kp.refl (R:φ):Kp R R:=.same rfl rfl rfl rfl rfl
theorem KX {R R1:φ} (h:Kp R R1):Kp R (fN R1):=by
 unfold fN
 split
 ·split
  ·split
   ·exact⟨h.h⟩
   ·exact h
  ·exact h
 ·exact h
theorem Um (R:φ) (fr:Int) (m:ei):Kp R (gu R fr m):=by
 have r:=Kp.refl R
 unfold gu
 split
 ·exact r
 ·split
  ·unfold iP
   split
   ·exact .same rfl rfl rfl rfl rfl
   ·split
    ·exact⟨.inl rfl⟩
    ·exact r
  ·split
   ·unfold ik
    split
    ·exact r
    ·split
     ·exact r
     ·split
      ·exact .same rfl rfl rfl rfl rfl
      ·exact KX (.same rfl rfl rfl rfl rfl)
   ·split
    ·unfold iN
     split
     ·exact .same rfl rfl rfl rfl rfl
     ·split
      ·exact⟨.inl rfl⟩
      ·exact .same rfl rfl rfl rfl rfl
    ·split
     ·unfold ia
      split
      ·exact r
      ·split
       ·exact r
       ·split
        ·exact KX (.same rfl rfl rfl rfl rfl)
        ·exact r
     ·unfold ic
      split
      ·exact r
      ·split
       ·exact .same rfl rfl rfl rfl rfl
       ·split
        ·exact .same rfl rfl rfl rfl rfl
        ·exact .same rfl rfl rfl rfl rfl
theorem aaM (R:φ):Kp R (fX R):=by
 unfold fX
 split
 ·exact .same rfl rfl rfl rfl rfl
 ·split
  ·exact .same rfl rfl rfl rfl rfl
  ·exact .same rfl rfl rfl rfl rfl
theorem TN {R:φ}:(fN R).ch=R.ch:=by
 unfold fN
 split
 ·split
  ·split<;>rfl
  ·rfl
 ·rfl
theorem aaf (R:φ) (o:Op):Kp R (eE R o).2:=by
 have r:=Kp.refl R
 unfold eE
 split
 ·exact r
 ·split
  ·exact r
  ·rename_i L hl
   split
   ·exact r
   ·split
    ·exact r
    ·split
     ·rename_i e R1 hk
      split at hk
      ·unfold lA at hk
       split at hk
       ·cases hk;exact .same rfl rfl rfl rfl rfl
       ·split at hk
        ·cases hk;exact r
        ·split at hk
         ·cases hk
         ·cases hk;exact r
      ·cases hk
     ·refine⟨.inl ?_⟩
      show(lh R L o).ch=true
      unfold lh
      dsimp only
      rw[tj,TN];rfl
theorem acJ (R:φ) (w:Vw):Kp R (gi R w):=by
 cases hg:ee R w with
 |false=>rw[HE hg];exact .refl R
 |true=>
  cases hl:fm R w with
  |false=>rw[HC hg hl];exact .same rfl rfl rfl rfl rfl
  |true=>
   rw[HD hg hl]
   by_cases he:R.ep=w.ve
   ·cases hc:R.ch with
    |true=>exact⟨.inl (by show(R.ch || _)=true;rw[hc];rfl)⟩
    |false=>exact .same he.symm rfl rfl rfl (by show(R.ch || (R.ep != w.ve))=R.ch;rw[hc,he];simp)
   ·exact⟨.inl (by show(R.ch || (R.ep != w.ve))=true;simp [he])⟩
structure RC (T:Int) (k:Nat) (R:φ):Prop where
 w:RW T R
 me:R.me=k
 out:R.out=[]
 done:R.done=[]
 ch:R.ch=false
structure LW (T:Int) (l:mW):Prop where
 m:MW T l.m
 t0:0<=l.to
 t1:l.to<4
structure VW (T:Int) (v:Vw):Prop where
 len:((v.mem.length+v.aL.length:Nat):Int)<=T+2
 e0:0<=v.ve
 e1:v.ve<=T
 m0:v.mem≠[]
 rg:∀ x∈v.mem++v.aL,0<=x/\x<4
 nd:(v.mem++v.aL).Nodup
structure WI (T:Int) (w:Wd):Prop where
 rl:w.R.length=4
 dl:w.dk.length=4
 r:∀ i,i<4->RC T i (az w i)
 dk:∀ i,i<4->w.dk[i]? =some (du (az w i))
 vs:∀ v∈w.vs,VW T v
 v0:0<w.vs.length
 vm:(w.vs.length:Int)<=T+1
 aa:∀ l∈w.aa,LW T l
 bl:w.aa.length<=2500
 cs:∀ c∈w.cs,fi c.o/\c.o.b.length<=2048
 cl:w.cs.length<=20
 n3:w.au.length=3
 nb:∀ n∈w.au,0<=n/\n<=T
 n0:0<=w.now
 n1:w.now<=T
theorem WI.mono {T T2:Int} {w:Wd} (h:WI T w) (hT:T<=T2):WI T2 w:=
 ⟨h.rl,h.dl,fun i hi=>⟨(h.r i hi).w.mono hT,(h.r i hi).me,(h.r i hi).out,(h.r i hi).done,(h.r i hi).ch⟩,h.dk,fun v hv=>⟨by have:=(h.vs v hv).len;omega,(h.vs v hv).e0,by have:=(h.vs v hv).e1;omega,(h.vs v hv).m0,(h.vs v hv).rg,(h.vs v hv).nd⟩,h.v0,by have:=h.vm;omega,fun l hl=>⟨⟨(h.aa l hl).m.r,by have:=(h.aa l hl).m.n1;omega,by have:=(h.aa l hl).m.n2;omega⟩,(h.aa l hl).t0,(h.aa l hl).t1⟩,h.bl,h.cs,h.cl,h.n3,fun n hn=>by have:=h.nb n hn;omega,h.n0,by have:=h.n1;omega⟩
theorem tP {w:Wd} {i:Nat} (R:φ) (hi:i<w.R.length):az (dX w i R) i=R:=by
 unfold az dX;rw[kn,gB hi];rfl
theorem wa {w:Wd} {i j:Nat} (R:φ) (h:i≠j):az (dX w i R) j=az w j:=by
 unfold az dX;rw[kn,kn,fR h]
theorem Pt {T:Int} (i:Nat):∀(l:List Post) (w:Wd),(∀ p∈l,jn p.m/\bV p.m 1<=T/\bV p.m 2<=T)->(∀ x∈w.aa,LW T x)->∀ x∈(eo w i l).aa,LW T x
 | [],w,_,h=>h
 |p::l,w,hp,h=>Pt i l (ii i w p) (fun p' nj=>hp p' (fS _ nj)) (by
  unfold ii;split
  ·rename_i hc
   have hh:=hp p iA
   exact fun x hx=>qC (P:=LW T) h ⟨⟨hh.1,hh.2.1,hh.2.2⟩,hc.1,hc.2.1⟩ hx
  ·exact h)
theorem aaY (l:List Dn):∀(w:Wd) (c:la),c∈(l.foldl gX w).cs->∃ c0∈w.cs,c0.o=c.o:=by
 induction l with
 |nil=>exact fun w c hc=>⟨c,hc,rfl⟩
 |cons d l ih=>
  intro w c hc
  obtain⟨c1,h1,h2⟩:=ih (gX w d) c hc
  have h1:c1∈w.cs.map (jS w.now d):=h1
  obtain⟨c0,h3,h4⟩:=fH.1 h1
  refine⟨c0,h3,?_⟩
  rw[<- h2,<- h4]
  unfold jS;split<;>rfl
theorem Qq:∀(l:List Dn) (w:Wd),(l.foldl gX w).dk=w.dk/\(l.foldl gX w).vs=w.vs/\(l.foldl gX w).aa=w.aa/\(l.foldl gX w).au=w.au/\(l.foldl gX w).now=w.now
 | [],w=>⟨rfl,rfl,rfl,rfl,rfl⟩
 |d::l,w=>Qq l (gX w d)
theorem OS {w w2:Wd} (h:w2.R=w.R) (i:Nat):az w2 i=az w i:=by unfold az;rw[h]
theorem x4 {T:Int} {w:Wd} (h:WI T w) {i:Nat} (hi:i<4) {R:φ} (hr:RW T R) (hT:T<=900) (me:R.me=i) (ol:R.out.length<=1000) (dl:R.done.length<=1000) (hk:Kp (az w i) R):jz (dX w i R) i/\WI T (jo (dX w i R) i):=by
 have hir:i<w.R.length:=by rw[h.rl];exact hi
 have e1:az (dX w i R) i=R:=tP R hir
 have hle:e_ R.ep:=⟨by have:=hr.e1;omega⟩
 have bX:=h.bl
 have hcl:=h.cl
 refine⟨⟨by show i<(w.R.set i R).length;rw[gC];exact hir,by show i<w.dk.length;rw[h.dl];exact hi,by rw[e1];exact hr.i,by rw[e1];exact hle,by rw[e1];exact ol,by rw[e1];exact dl,by rw[e1];exact fun p hp=>(hr.om p hp).1,by rw[e1];exact hr.dn,by show w.aa.length<=_;omega,by show w.cs.length<=_;omega⟩,?_⟩
 obtain⟨s1,s2,s3,s4,s5,s6,s7,s8⟩:=wj i R.out (jr (dX w i R) i)
 have Uv:jo (dX w i R) i=R.done.foldl gX (eo (jr (dX w i R) i) i R.out):=by unfold jo;rw[e1]
 obtain⟨t1,t2⟩:=wx R.done (eo (jr (dX w i R) i) i R.out)
 obtain⟨u1,u2,u3,u4,u5⟩:=Qq R.done (eo (jr (dX w i R) i) i R.out)
 rw[Uv]
 have eR:(R.done.foldl gX (eo (jr (dX w i R) i) i R.out)).R=(dX w i (nY R)).R:=by
  rw[t1,s1];show(w.R.set i R).set i (nY (az (dX w i R) i))=w.R.set i (nY R);rw[e1,List.set_set]
 have eA:∀ j,az (R.done.foldl gX (eo (jr (dX w i R) i) i R.out)) j=az (dX w i (nY R)) j:=OS eR
 have eD:(R.done.foldl gX (eo (jr (dX w i R) i) i R.out)).dk=if R.ch then w.dk.set i (du R)else w.dk:=by
  rw[u1,s2];show(if(az (dX w i R) i).ch then w.dk.set i (du (az (dX w i R) i))else w.dk)=_;rw[e1]
 refine⟨by rw[eR];show(w.R.set i _).length=4;rw[gC];exact h.rl,?_,fun j hj=>?_,fun j hj=>?_,?_,?_,?_,?_,?_,?_,?_,?_,?_,?_,?_⟩
 ·rw[eD];split
  ·rw[gC];exact h.dl
  ·exact h.dl
 ·rw[eA]
  by_cases e:i=j
  ·subst e;rw[tP _ hir]
   exact⟨SY hr R.ch,me,rfl,rfl,rfl⟩
  ·rw[wa _ e];exact h.r j hj
 ·rw[eA,eD]
  by_cases e:i=j
  ·subst e;rw[tP _ hir]
   cases hc:R.ch with
   |true=>rw[if_pos rfl,gB (by rw[h.dl];exact hi)];rfl
   |false=>
    rw[if_neg Bool.false_ne_true,h.dk i hi]
    rcases hk.h with k | ⟨k1,k2,k3,k4,_⟩
    ·rw[hc]at k;cases k
    ·show some (ig (az w i).ep (az w i).nu (az w i).c (az w i).t)=some (ig R.ep R.nu R.c R.t)
     rw[k1,k2,k3,k4]
  ·rw[wa _ e]
   split
   ·rw[fR e];exact h.dk j hj
   ·exact h.dk j hj
 ·rw[u2,s3];exact h.vs
 ·rw[u2,s3];exact h.v0
 ·rw[u2,s3];exact h.vm
 ·rw[u3];exact Pt i R.out _ hr.om h.aa
 ·rw[u3];have:(jr (dX w i R) i).aa.length=w.aa.length:=rfl;omega
 ·intro c hc
  obtain⟨c0,g1,g2⟩:=aaY _ _ _ hc
  rw[s4]at g1
  rw[<- g2];exact h.cs c0 g1
 ·rw[t2,s4];exact h.cl
 ·rw[u4,s5];exact h.n3
 ·rw[u4,s5];exact h.nb
 ·rw[u5,s6];exact h.n0
 ·rw[u5,s6];exact h.n1
section
variable {T:Int} {w:Wd}
theorem WD (h:WI T w):WI (T+1) (dq w):=by
 have:=h.mono (by omega:T<=T+1)
 exact⟨this.rl,this.dl,this.r,this.dk,this.vs,this.v0,this.vm,this.aa,this.bl,this.cs,this.cl,this.n3,this.nb,by have:=h.n0;show 0<=w.now+1;omega,by have:=h.n1;show w.now+1<=_;omega⟩
theorem Oq (h:WI T w) (k:Nat):WI T (kB w k):=⟨h.rl,h.dl,h.r,h.dk,h.vs,h.v0,h.vm,fun l hl=>h.aa l (List.mem_of_mem_eraseIdx hl),by have:=h.bl;have:=List.length_eraseIdx_le w.aa k;show(w.aa.eraseIdx k).length<=_;omega,h.cs,h.cl,h.n3,h.nb,h.n0,h.n1⟩
theorem JB {k:Nat} (hk:k<w.aa.length):fK w k∈w.aa:=gm (Ct hk)
theorem Tw (h:WI T w) {k:Nat} (hk:k<w.aa.length) (h5:w.aa.length<500):WI T (vb w k):=⟨h.rl,h.dl,h.r,h.dk,h.vs,h.v0,h.vm,fun l hl=>qC (P:=LW T) h.aa (h.aa _ (JB hk)) hl,by show(w.aa++[_]).length<=_;rw[bw,ko];omega,h.cs,h.cl,h.n3,h.nb,h.n0,h.n1⟩
theorem Zn (h:WI T w) {a:Nat} (ha:a<4):WI T (dX w a (tR (az w a) a)):=by
 have Ly:a<w.R.length:=by rw[h.rl];exact ha
 have hr:=(h.r a ha).w
 refine⟨by show(w.R.set a _).length=4;rw[gC];exact h.rl,h.dl,fun j hj=>?_,fun j hj=>?_,h.vs,h.v0,h.vm,h.aa,h.bl,h.cs,h.cl,h.n3,h.nb,h.n0,h.n1⟩
 ·by_cases e:a=j
  ·subst e
   rw[tP _ Ly]
   have h0:=hr.t0
   have h1:=hr.t1
   refine⟨⟨tF _ _ _ _ hr.i.ok.n0 hr.i.ok.n1 hr.i.ok.cl hr.i.ok.cb hr.i.tx,rfl,hr.e0,hr.e1,hr.n1,bF _,gp _,by show(0:Int)<=T;omega,fun p hp=>(by cases hp),fun d hd=>(by cases hd),fun o ho=>by simp [tR,newR,cm]at ho⟩,rfl,rfl,rfl,rfl⟩
  ·rw[wa _ e];exact h.r j hj
 ·by_cases e:a=j
  ·subst e;rw[tP _ Ly];exact h.dk a ha
  ·rw[wa _ e];exact h.dk j hj
theorem MG (h:WI T w):cY w∈w.vs:=gm (AG (by have:=h.v0;omega))
theorem rY {l:List Int} {v x:Int}:x∈dA l v ↔ x∈l/\x≠v:=by unfold dA;rw[lS,bne_iff_ne]
theorem FG {l:List Int} (h:l.Nodup) (v:Int):(dA l v).Nodup:=h.filter _
theorem Wy {v:Vw} (h:VW T v) (ch:Int) {id:Int} (hid:0<=id/\id<4):VW (T+1) (l5 v ch id)/\((l5 v ch id).ve=v.ve∨(l5 v ch id).ve=v.ve+1):=by
 have same:VW (T+1) v:=⟨by have:=h.len;omega,h.e0,by have:=h.e1;omega,h.m0,h.rg,h.nd⟩
 have hnd:=List.nodup_append.1 h.nd
 have l1:=FF v.mem id
 have l2:=FF v.aL id
 have hl:=h.len
 have e0:=h.e0
 have e1:=h.e1
 unfold l5
 split
 ·split
  ·exact⟨same,.inl rfl⟩
  ·rename_i hn
   refine⟨⟨by dsimp only;omega,by dsimp only;omega,by dsimp only;omega,?_,?_,?_⟩,.inr rfl⟩
   ·dsimp only
    intro he
    have hm:∀ x∈v.mem,x=id:=fun x hx=>by
     by_cases e:x=id
     ·exact e
     ·have:x∈dA v.mem id:=rY.2 ⟨hx,e⟩
      rw[he]at this;cases this
    cases hv:v.mem with
    |nil=>exact h.m0 hv
    |cons a r=>
     have ha:=hm a (by rw[hv];exact iA)
     cases r with
     |nil=>exact hn (.inr ⟨by rw[hv,ha];exact iA,by rw[hv];rfl⟩)
     |cons b r=>
      have hb:=hm b (by rw[hv];exact fS _ iA)
      have:=hnd.1
      rw[hv]at this
      exact(List.nodup_cons.1 this).1 (by rw[ha,<- hb];exact iA)
   ·intro x hx
    refine h.rg x ?_
    rcases gl.1 hx with hx | hx
    ·exact lR _ (rY.1 hx).1
    ·exact List.mem_append_right _ (rY.1 hx).1
   ·exact List.nodup_append.2 ⟨FG hnd.1 _,FG hnd.2.1 _,fun a ha b hb=>hnd.2.2 a (rY.1 ha).1 b (rY.1 hb).1⟩
 ·split
  ·split
   ·exact⟨same,.inl rfl⟩
   ·rename_i hn
    refine⟨⟨by dsimp only;rw[bw,ko];omega,by dsimp only;omega,by dsimp only;omega,h.m0,fun x hx=>?_,?_⟩,.inr rfl⟩
    ·dsimp only at hx
     rw[<- dQ]at hx
     exact qC (P:=fun x=>0<=x/\x<4) h.rg hid hx
    ·dsimp only
     rw[<- dQ]
     refine List.nodup_append.2 ⟨h.nd,by simp,fun a ha b hb=>?_⟩
     rw[gY]at hb;subst hb
     intro e;subst e
     exact hn (gl.1 ha)
  ·split
   ·split
    ·exact⟨same,.inl rfl⟩
    ·rename_i hn
     have hn:id∈v.aL:=by simpa using hn
     refine⟨⟨by dsimp only;rw[bw,ko];omega,by dsimp only;omega,by dsimp only;omega,by simp,fun x hx=>?_,?_⟩,.inr rfl⟩
     ·dsimp only at hx
      rcases gl.1 hx with hx | hx
      ·rcases gl.1 hx with hx | hx
       ·exact h.rg x (lR _ hx)
       ·rw[gY]at hx;subst hx;exact hid
      ·exact h.rg x (List.mem_append_right _ (rY.1 hx).1)
     ·dsimp only
      refine List.nodup_append.2 ⟨List.nodup_append.2 ⟨hnd.1,by simp,fun a ha b hb=>?_⟩,FG hnd.2.1 _,fun a ha b hb=>?_⟩
      ·rw[gY]at hb;subst hb
       exact hnd.2.2 a ha _ hn
      ·have hb:=rY.1 hb
       rcases gl.1 ha with ha | ha
       ·exact hnd.2.2 a ha b hb.1
       ·rw[gY]at ha;subst ha
        exact fun e=>hb.2 e.symm
   ·exact⟨same,.inl rfl⟩
theorem aa1 (h:WI T w) (s:Sp) {a:Int} (ha:0<=a/\a<4):WI (T+1) (qO w s a):=by
 have h1:=h.mono (by omega:T<=T+1)
 unfold qO
 split
 ·exact h1
 ·split
  ·exact⟨h1.rl,h1.dl,h1.r,h1.dk,fun v hv=>qC (P:=VW (T+1)) h1.vs (Wy (h.vs _ (MG h)) _ ha).1 hv,by show 0<(w.vs++[_]).length;rw[bw];simp,by have:=h.vm;show(((w.vs++[_]).length:Nat):Int)<=_;rw[bw,ko];omega,h1.aa,h1.bl,h1.cs,h1.cl,h1.n3,h1.nb,h1.n0,h1.n1⟩
  ·exact h1
theorem Ww (h:WI T w) (s:Sp) (h12:w.cs.length<12):WI (T+1) (mM w s):=by
 have h1:=h.mono (by omega:T<=T+1)
 have hb:=FA w s
 have pc:=oB s.n (n:=2) (by omega)
 have cn:(bI s).toNat<w.au.length:=by rw[h.n3];unfold bI;omega
 have hm:=h.nb _ (yx cn)
 refine⟨h1.rl,h1.dl,h1.r,h1.dk,h1.vs,h1.v0,h1.vm,h1.aa,h1.bl,fun c hc=>?_,by show(w.cs++[_]).length<=_;rw[bw,ko];omega,by show(w.au.set _ _).length=3;rw[gC];exact h.n3,fun n hn=>?_,h1.n0,h1.n1⟩
 ·refine qC (P:=fun c:la=>fi c.o/\c.o.b.length<=2048) h.cs ⟨⟨hb.1,by have:=hb.2;show(gn w s).b.length<=_;omega⟩,?_⟩ hc
  show(gn w s).b.length<=_
  unfold gn;dsimp only;split
  ·rw[AI];omega
  ·exact bF _
 ·have hn:n∈w.au.set (bI s).toNat (nB w (bI s)+1):=hn
  rcases List.mem_or_eq_of_mem_set hn with hn | hn
  ·exact h1.nb n hn
  ·have:nB w (bI s)=w.au.getD (bI s).toNat 0:=rfl
   rw[hn,this];omega
theorem oN {α:Type} {l:List α} (h:l=[]):l.length=0:=by rw[h];rfl
theorem G2 (h:WI T w) (hT:T<800) {a:Nat} (ha:a<4) {o:Op} (ho:fi o) (hb:o.b.length<=2048):jz (ry w o a) a/\WI (T+1) (si w o a):=by
 have hr:=h.r a ha
 have z1:=oN hr.out
 have z2:=oN hr.done
 have eV:=tL hr.w
 have hw:=aai hr.w (by omega) (by omega) (by omega) ho hb
 have hs:=PS hr.w.i ho (by have:=hr.w.n1;omega) (by omega) (by omega)
 have so:=hs.o
 have sd:=hs.d
 exact x4 (h.mono (by omega)) ha hw (by omega) (hs.me.trans hr.me) (by omega) (by omega) (aaf _ _)
theorem PO (h:WI T w) (hT:T<790) (s:Sp):xH w s (cC s)/\WI (T+2) (mQ w s (cC s)):=by
 have pa:=oB s.cx (n:=4) (by omega)
 have ha:cC s<4:=by unfold cC;omega
 have hr:=h.r _ ha
 have z1:=oN hr.out
 have eV:=tL hr.w
 have o5:∀ c,qY w (bI s)=some c->c∈w.cs:=fun c hc=>(lS.1 (List.mem_of_getLast? hc)).1
 have hcl:=h.cl
 have hB:w.cs.length<12->jz (ry (mM w s) (gn w s) (cC s)) (cC s)/\WI (T+2) (si (mM w s) (gn w s) (cC s)):=fun h12=>by
  have hn:=Ww h s h12
  have hb:=FA w s
  have hm:(⟨gn w s,rX w s,w.now,-1⟩:la)∈(mM w s).cs:=List.mem_append_right _ (gY.2 rfl)
  have:=G2 hn (by omega) ha (hn.cs _ hm).1 (hn.cs _ hm).2
  rw[show T+1+1=T+2 by omega]at this
  exact this
 refine⟨⟨by rw[h.rl];exact ha,by rw[h.dl];exact ha,hr.w.i,by omega,by omega,fun c hc=>⟨(h.cs c hc).1.b,by have:=(h.cs c hc).2;omega⟩,h.n3,fun n hn=>by have:=h.nb n hn;omega,fun c hc=>(G2 h (by omega) ha (h.cs c (o5 c hc)).1 (h.cs c (o5 c hc)).2).1,fun h12=>(hB h12).1⟩,?_⟩
 unfold mQ
 split
 ·split
  ·rename_i c hc
   exact(G2 h (by omega) ha (h.cs c (o5 c hc)).1 (h.cs c (o5 c hc)).2).2.mono (by omega)
  ·exact h.mono (by omega)
 ·split
  ·exact h.mono (by omega)
  ·exact(hB (by omega)).2
theorem Kj (h:WI T w) (hT:T<800) {k:Nat} (hk:k<w.aa.length):wS w k/\WI T (u7 w k):=by
 have hl:=h.aa _ (JB hk)
 have t0:=hl.t0
 have t1:=hl.t1
 have hto:(fK w k).to.toNat<4:=by omega
 have hr:=h.r _ hto
 have z1:=oN hr.out
 have z2:=oN hr.done
 have hw:=Up hr.w (by omega) (by omega) (by omega) (fK w k).fr hl.m
 have hs:=Ul hr.w.i (by omega) (by omega) (fK w k).fr hl.m.ok
 have so:=hs.o
 have sd:=hs.d
 have:=x4 (Oq h k) hto hw (by omega) (hs.me.trans hr.me) (by omega) (by omega) (Um _ _ _)
 exact⟨⟨hk,by have:=h.bl;omega,t0,by rw[h.rl];exact t1,hl.m.r,hl.m.ok,hr.w.i,this.1⟩,this.2⟩
theorem QK (h:WI T w) (hT:T<800) {a:Nat} (ha:a<4) {v:Vw} (hv:v∈w.vs):bz (az w a)/\v.mem.length+v.aL.length<=1000/\(az w a).out.length+(bA (az w a).me v.mem v.aL).length<=100000/\jz (dX w a (gi (az w a) v)) a/\WI T (QJ w a v):=by
 have hr:=h.r a ha
 have Mj:=h.vs v hv
 have hl:=Mj.len
 have z1:=oN hr.out
 have z2:=oN hr.done
 have ho:(bA (az w a).me v.mem v.aL).length<=1000:=by
  have h1:(bA (az w a).me v.mem v.aL).length<=(v.mem++v.aL).length:=List.length_filter_le ..
  rw[bw]at h1;omega
 have hw:=acM hr.w (by omega) (by omega) (by omega) (w:=v) (by omega) Mj.e1
 have hs:=QL (w:=v) hr.w.i (by omega) (by omega) (by omega)
 have so:=hs.o
 have sd:=hs.d
 have:=x4 h ha hw (by omega) (hs.me.trans hr.me) (by omega) (by omega) (acJ _ _)
 exact⟨hr.w.i,by omega,by omega,this.1,this.2⟩
theorem S6 (w:Wd) {i j:Nat} (R:φ) (h:i≠j) (hi:i<w.R.length):az (jo (dX w i R) i) j=az w j:=by
 have e1:az (dX w i R) i=R:=tP R hi
 have e2:(jo (dX w i R) i).R=(dX w i (nY R)).R:=by
  unfold jo
  rw[e1,(wx _ _).1,(wj i _ _).1]
  show(w.R.set i R).set i (nY (az (dX w i R) i))=w.R.set i (nY R)
  rw[e1,List.set_set]
 rw[OS e2,wa _ h]
theorem AA (h:WI T w) (hT:T<800):∀ i,i<=4->WI (T+1) (gW w i)/\(∀ j,i<=j->j<4->az (gW w i) j=az w j)/\(∀ k,k<i->jz (dX (gW w k) k (fX (az (gW w k) k))) k)
 | 0,_=>⟨h.mono (by omega),fun j _ _=>rfl,fun k hk=>by omega⟩
 |i+1,hi=>by
  obtain⟨h1,h2,h3⟩:=AA h hT i (by omega)
  have hr:=h.r i (by omega)
  have e:=h2 i (aE _) (by omega)
  have z1:=oN hr.out
  have z2:=oN hr.done
  have eV:=tL hr.w
  have hw:=aaP hr.w (by omega) (by omega)
  have hs:=aaL hr.w.i (by omega)
  have c:(fX (az w i)).me=(az w i).me/\(fX (az w i)).done=(az w i).done:=by
   unfold fX
   split
   ·exact⟨rfl,rfl⟩
   ·split<;>exact⟨rfl,rfl⟩
  have so:=hs.2
  have:=x4 h1 (i:=i) (by omega) (R:=fX (az w i)) hw (by omega) (c.1.trans hr.me) (by omega) (by rw[c.2];omega) (by rw[e];exact aaM _)
  have et:gW w (i+1)=jo (dX (gW w i) i (fX (az w i))) i:=by
   show Hn (gW w i) i=_
   unfold Hn;rw[e]
  rw[et]
  refine⟨this.2,fun j hj US=>?_,fun k hk=>?_⟩
  ·rw[S6 _ _ (by omega) (by rw[h1.rl];omega)]
   exact h2 j (by omega) US
  ·by_cases ek:k=i
   ·subst ek;rw[e];exact this.1
   ·exact h3 k (by omega)
theorem PV (h:WI T w) (hT:T<700) (s:Sp):Bv w s/\WI (T+3) (gV w s):=by
 have hn:=WD h
 have pa:=oB s.cx (n:=4) (by omega)
 have ha:cC s<4:=by unfold cC;omega
 have hN:∀ j,az (dq w) j=az w j:=fun j=>rfl
 have p3:=oB s.n (n:=3) (by omega)
 have v0:=h.v0
 have Mh:mg w s∈w.vs:=gm (AG (by omega))
 have hpk:0<w.aa.length->gG w s<(dq w).aa.length:=fun hl=>by
  have:=oB s.n (n:=(w.aa.length:Int)) (by omega)
  show(aN s.n w.aa.length).toNat<w.aa.length
  omega
 have rF:=MG hn
 have hlv:=hn.vs _ rF
 obtain⟨x0,hx0⟩:∃ x,(cY w).mem[0]? =some x:=by
  cases hm:(cY w).mem with
  |nil=>exact absurd hm hlv.m0
  |cons a r=>exact⟨a,rfl⟩
 have yJ:iH (cY w)=x0:=by unfold iH;rw[kn,hx0];rfl
 have hrg:=hlv.rg x0 (lR _ (gm hx0))
 have hlen:=hlv.len
 refine⟨⟨h.rl,h.dl,h.n0,by have:=h.n1;omega,by have:=h.bl;omega,h.v0,by have:=h.vm;omega,fun _=>(PO hn (by omega) s).1,fun _ hl=>(Kj hn (by omega) (hpk hl)).1,fun _=>?_,fun _=>?_,fun _=>?_,fun _ i hi=>?_⟩,?_⟩
 ·have hr:=(h.r _ ha).w
  refine⟨h.dk _ ha,⟨rfl,hr.e0,by have:=hr.e1;omega,hr.i.ok.n0,by have:=hr.n1;omega,hr.i.ok.cl,hr.i.tx⟩,O4 (by have:=hr.e1;omega) (by have:=hr.n1;omega) hr.i.ok.cl hr.i.ok.cb hr.i.tx,?_⟩
  have:=O5 (az w (cC s)).ep (az w (cC s)).nu hr.i.ok.cl hr.i.tx.len
  exact Nat.le_trans this (by omega)
 ·have yM:(cY (dq w)).mem.length+(cY (dq w)).aL.length<=1000:=by omega
  refine⟨v0,by have:=h.vm;show w.vs.length<=_;omega,by omega,by omega,?_,by show 0<=iH (cY w);rw[yJ];omega,by show iH (cY w)<((w.R.length:Nat):Int);rw[yJ,h.rl];omega,?_,hlv.e0,by have:=hlv.e1;omega⟩
  ·rcases Nat.eq_zero_or_pos (cY (dq w)).mem.length with e | e
   ·exact absurd (List.length_eq_zero_iff.1 e) hlv.m0
   ·exact e
  ·refine(h.r (iH (cY w)).toNat ?_).w.i
   rw[yJ];omega
 ·obtain⟨c1,c2,c3,c4,_⟩:=QK hn (by omega) ha (v:=mg w s) Mh
  exact⟨c1,c2,c3,c4⟩
 ·obtain⟨h1,h2,_⟩:=AA hn (by omega) i (by omega)
  have h4:=(AA hn (by omega) 4 (aE _)).2.2 i hi
  have hr:=hn.r i hi
  have e:=h2 i (aE _) hi
  have z1:=oN hr.out
  have eV:=tL hr.w
  rw[e]at h4 ⊢
  exact⟨h1.rl,hr.w.i,hr.w.t0,by have:=hr.w.t1;omega,by omega,h4⟩
 ·unfold gV kZ
  repeat' split
  ·exact(PO hn (by omega) s).2.mono (by omega)
  ·rename_i hl;exact(Kj hn (by omega) (hpk hl)).2.mono (by omega)
  ·exact hn.mono (by omega)
  ·exact(Oq hn _).mono (by omega)
  ·exact hn.mono (by omega)
  ·rename_i hl;exact(Tw hn (hpk hl.1) hl.2).mono (by omega)
  ·exact hn.mono (by omega)
  ·exact(Zn hn ha).mono (by omega)
  ·exact(aa1 hn s (by omega)).mono (by omega)
  ·exact(QK hn (by omega) ha (v:=mg w s) Mh).2.2.2.2.mono (by omega)
  ·exact(AA hn (by omega) 4 (aE _)).1.mono (by omega)
  ·exact hn.mono (by omega)
end
def mL (i:Nat):List φ:=(gD i).map fun(k:Nat)=>newR (k:Int) 5 false 0 0 ki []
def kx (i:Nat):Wd:=⟨mL i,(mL i).map du,[⟨5,1,1,[0,1],[]⟩],[],[],[0,0,0],0,true⟩
structure uw where
 i:Nat
 W:Wd
 q:List (Nat×Nat)
 A:List (Sg×KB)
structure w7 (x:uw):Prop where
 le:x.i<=4
 W:x.W=kx x.i
 p:PW x.A x.q x.W.R
abbrev wB (w:Wd) (q:List (Nat×Nat)) (A:List (Sg×KB)):KB:=[bE A,iQ 2 w,jw q,jO w,jx w,jg w,ke w,kf w]
def Wo:List iB:=[.cell 1 0 30 1,.cell 1 1 23 1,.cell 1 3 73 3,.cell 1 4 61 10]
abbrev Fk:LI where
 α:={x:uw // w7 x}
 live:=[1,2]
 dN:=Wo
 st x:=([ac 1 0,.int Z (x.1.i:Int)],wB x.1.W x.1.q x.1.A)
 μ x:=4 - x.1.i
def M4:FuncId->Nat->Option LI
 | 8,3=>some Fk
 |_,_=>none
def FR (S:aH):aH:=fun args kb K=>match kb with
 | []=>S args [bE []] K
 |kb=>S args kb K
def BA:aH:=fun args kb K=>match args,kb with
 | [],[bE A]=>∃ l,bO A l/\∀ W,W=kx 4->∀ q A',PW A' q W.R->K (ac 1 0) (wB W q A')
 |_,_=>False
theorem abS (A:List (Sg×KB)) (K:V->KB->Prop) (ay:
 2<=2/\
 At Fk ([ac 1 0,δ Z 0],[bE A,ω [ε 2 0 0,ε 3 0 0,ε 4 0 1,ε 5 0 0,ε 6 0 0,ε 7 0 3,δ Z 0,ξ true],ζ 30 1 [],ζ 23 1 [],ζ 49 5 [[η (κ Z 5),η (κ Z 1),η (κ Z 1),π 1 [[η (κ Z 0)],[η (κ Z 1)]],π 1 []]],ζ 73 3 [],ζ 61 10 [],ζ 3 1 [[η (κ Z 0)],[η (κ Z 0)],[η (κ Z 0)]]])/\
 ∀(i:{x:uw // w7 x }),(decide ((↑i.val.i:Int)<4)=true->
 ∃(A:List (Sg×KB)),∃(l:List (Nat×φ)),qT [bE i.val.A] A/\
 bO A l/\
 ∀(b:Nat) (A':List (Sg×KB)),bO A' (l++[(b,newR (↑i.val.i:Int) 5 false 0 0 ki [])])->
 (false=true->
 K (γ (Value.pointer none)) [bE A'])/\
 (false=false->
 1<=1/\
 i.val.W.R.length<=(ι bj i.val.q).length/\
 (i.val.W.R.length+1)*8<=140737488355328/\
 True/\
 ∃(l:List (Nat×φ)),∃(i_1:Nat),∃(b_1:Nat),∃(R:φ),bO A' l/\
 l[i_1]? =some (b_1,R)/\
 pv b=pv b_1/\
 fY []/\
 bz R/\
 e_ R.ep/\
 ∀(A':List (Sg×KB)),bO A' (l.set i_1 (b_1,R))->
 True/\
 1<=1/\
 i.val.W.dk.length<=(ι ax i.val.W.dk).length/\
 (i.val.W.dk.length+1)*24<=140737488355328/\
 Nx Fk i ([ac 1 0,δ Z (Z.wrap ((↑i.val.i:Int)+1))],[bE A',ω [ε 2 0 (i.val.W.R.length+1),ε 3 0 (i.val.W.dk.length+1),ε 4 0 i.val.W.vs.length,ε 5 0 i.val.W.aa.length,ε 6 0 i.val.W.cs.length,ε 7 0 i.val.W.au.length,δ Z i.val.W.now,ξ i.val.W.ok],ζ 30 1 (ah i.val.W.R.length (ι bj i.val.q)++[[η (pv b)]]),ζ 23 1 (ah i.val.W.dk.length (ι ax i.val.W.dk)++[[π 1 (ints θ (du R))]]),ζ 49 5 (ι bt i.val.W.vs),ζ 73 3 (ι aZ i.val.W.aa),ζ 61 10 (ι bi i.val.W.cs),ζ 3 1 (ints Z i.val.W.au)])))/\
 (decide ((↑i.val.i:Int)<4)=false->
 K (ac 1 0) [bE i.val.A,ω [ε 2 0 i.val.W.R.length,ε 3 0 i.val.W.dk.length,ε 4 0 i.val.W.vs.length,ε 5 0 i.val.W.aa.length,ε 6 0 i.val.W.cs.length,ε 7 0 i.val.W.au.length,δ Z i.val.W.now,ξ i.val.W.ok],ζ 30 1 (ι bj i.val.q),ζ 23 1 (ι ax i.val.W.dk),ζ 49 5 (ι bt i.val.W.vs),ζ 73 3 (ι aZ i.val.W.aa),ζ 61 10 (ι bi i.val.W.cs),ζ 3 1 (ints Z i.val.W.au)])
 ):aO Tryz.prog B5 (M4 8) 8 [] [bE A] (dh 1 K):=by apply Eq.mp (a:=ay);kernel_rfl
theorem WL {P:Program} {f:FuncId} {S:aH} (hS:aT P f S):aT P f (FR S):=fun args kb K h σ E W xs hi hd=>by
 unfold FR at h
 split at h
 ·have hl:=hi.len
  have VC:σ=[]:=List.length_eq_zero_iff.1 (by rw[hl];rfl)
  subst VC
  have hno:∀ b,¬ b9 ([⟨0,0,0⟩]:Sg) [bE []] b:=by
   rintro b ⟨i,r,o,h1,h2,h3⟩
   cases i with
   |zero=>
    simp at h2;subst h2
    obtain⟨a,ha,_⟩:=h3
    cases ha
   |succ i=>simp at h2
  have hs:Step [] E [] W ([⟨0,0,0⟩]:Sg) E [bE []] W:=by
   refine⟨⟨rfl,fun i r o h1 h2=>?_,fun i j r r' o o' b hij h1 h2 h3 h4 h5 h6=>(hno b ⟨i,r,o,h1,h2,h5⟩).elim,hi.cP,fun b hb=>(hno b hb).elim⟩,qW.refl _ _,⟨_,rfl⟩,EH.le.refl E,fun b hb=>(hno b hb).elim,fun b o hb=> .inl hb⟩
   cases i with
   |zero=>
    simp at h2;subst h2
    exact⟨fun a ha=>(by cases ha),fun i j a a' b hij h=>by simp at h⟩
   |succ i=>simp at h2
  have hd2:aw ([⟨0,0,0⟩]:Sg) E args xs:=by
   have:=aw.mono (σ:=[]) (τ:=[⟨0,0,0⟩]) (EH.le.refl E) hd
   simpa using this
  refine(hS _ _ _ h _ E W xs hs.inv hd2).mono ?_
  rintro e W' ⟨v,r,σ',E',kb',h1,h2,h3,h4⟩
  exact⟨v,r,σ',E',kb',h1,hs.trans h2,h3,h4⟩
 ·exact hS _ _ _ h σ E W xs hi hd
theorem M8 (i:Nat):mL (i+1)=mL i++[newR (i:Int) 5 false 0 0 ki []]:=by unfold mL;rw[List.range_succ,jC];rfl
theorem vK (i:Nat):(mL i).length=i:=by unfold mL;rw[cg,List.length_range]
theorem Th (l:List (Nat×φ)):CU l [] []:=⟨rfl,fun i p h=>by simp at h,List.Pairwise.nil⟩
theorem CU.app {l:List (Nat×φ)} {q:List (Nat×Nat)} {R:List φ} (h:CU l q R) (b:Nat) (r:φ):CU (l++[(b,r)]) (q++[(l.length,b)]) (R++[r]):=by
 have hlt:∀(j:Nat) (p:Nat×Nat),q[j]? =some p->p.1<l.length:=fun j p hj=>by
  obtain⟨_,_,h2⟩:=h.a j p hj
  exact(bU.1 h2).1
 refine⟨by simp [h.len],fun j p hj=>?_,?_⟩
 ·rcases Nat.lt_trichotomy j q.length with hm | hm | hm
  ·rw[eH hm]at hj
   obtain⟨r2,h1,h2⟩:=h.a j p hj
   exact⟨r2,by rw[eH (by rw[<- h.len];exact hm)];exact h1,by rw[eH (hlt j p hj)];exact h2⟩
  ·subst hm
   rw[ef (aE _)]at hj
   simp at hj;subst hj
   exact⟨r,by rw[ef (by rw[h.len];exact aE _)];simp [h.len],by rw[ef (aE _)];simp⟩
  ·rw[gA (by simp;omega)]at hj;cases hj
 ·rw[jC]
  refine List.nodup_append.2 ⟨h.nd,by simp,fun x hx y hy=>?_⟩
  rw[List.map_cons,List.map_nil,gY]at hy
  obtain⟨p,hp,rfl⟩:=fH.1 hx
  obtain⟨j,hj⟩:=List.getElem?_of_mem hp
  have:=hlt j p hj
  rw[hy];show p.1≠l.length;omega
theorem Xs:aT Tryz.prog 8 BA:=jP Jf mixed (fun args kb K h=>by
 unfold BA at h;split at h<;>try exact h.elim
 rename_i A
 obtain⟨l,hA,h⟩:=h
 refine⟨M4 8,abS A K ⟨aE _,At.mk' (⟨⟨0,kx 0,[],A⟩,bF _,rfl,⟨l,hA,Th l⟩⟩:{x:uw // w7 x}) rfl,?_⟩⟩
 rintro⟨⟨i,W,q1,A1⟩,hi,hW,P1⟩
 dsimp only at hi hW P1 ⊢
 subst hW
 obtain⟨l1,T_,nh⟩:=P1.h
 have Lm:(kx i).R.length=i:=vK i
 have hDl:(kx i).dk.length=i:=by show((mL i).map du).length=i;rw[cg,vK]
 have L_:q1.length=i:=by rw[nh.len];exact vK i
 rw[Lm,hDl]
 refine⟨fun hlt=>⟨A1,l1,⟨.inr rfl⟩,T_,fun b A2 p2=>⟨fun t=>(by cases t),fun _=>⟨aE _,by rw[cg,L_];exact aE _,by omega,trivial,_,l1.length,b,newR (i:Int) 5 false 0 0 ki [],p2,by simp,rfl,⟨rfl⟩,tF _ _ _ _ (gp _) (by omega) rfl HX F3,⟨by show(0:Int)<=_;omega⟩,fun A3 p3=>⟨trivial,aE _,by rw[cg,hDl];exact aE _,by omega,?_⟩⟩⟩⟩,fun hge=>?_⟩
 ·have hlt:i<4:=by rw[decide_eq_true_eq]at hlt;omega
  have dG:(l1++[(b,newR (i:Int) 5 false 0 0 ki [])]).set l1.length (b,newR (i:Int) 5 false 0 0 ki [])=l1++[(b,newR (i:Int) 5 false 0 0 ki [])]:=by
   rw[List.set_append_right _ _ (aE _),Nat.sub_self];rfl
  rw[dG]at p3
  refine Nx.mk' (⟨⟨i+1,kx (i+1),q1++[(l1.length,b)],A3⟩,hlt,rfl,⟨_,p3,by show CU _ _ (mL (i+1));rw[M8];exact nh.app b _⟩⟩:{x:uw // w7 x}) ?_ (by show 4 - (i+1)<4 - i;omega)
  have e1:(kx (i+1)).R.length=i+1:=vK _
  have e2:(kx (i+1)).dk.length=i+1:=by show((mL (i+1)).map du).length=_;rw[cg,vK]
  have e3:(kx (i+1)).dk.map ax=ah i ((kx i).dk.map ax)++[[π 1 (ints θ (du (newR (i:Int) 5 false 0 0 ki [])))]]:=by
   rw[fI (by rw[cg,hDl];exact aE _)]
   show((mL (i+1)).map du).map ax=((mL i).map du).map ax++_
   rw[M8,jC,jC];rfl
  have e4:(q1++[(l1.length,b)]).map bj=ah i (q1.map bj)++[[η (pv b)]]:=by
   rw[fI (by rw[cg,L_];exact aE _),jC];rfl
  show(_,_)=(_,wB (kx (i+1)) (q1++[(l1.length,b)]) A3)
  unfold wB iQ jO jw
  rw[e1,e2,e3,e4,bR (by omega) (by omega)]
  rfl
 ·have hi:i=4:=by rw[decide_eq_false_iff_not]at hge;omega
  subst hi
  have:=h _ rfl q1 A1 P1
  unfold wB iQ at this
  rw[Lm,hDl]at this
  exact this)
def IN:aH:=FR BA
theorem Xr:aT Tryz.prog 8 IN:=WL Xs
theorem Ws:WI 1 (kx 4):=by
 have hr:∀ i,i<4->az (kx 4) i=newR (i:Int) 5 false 0 0 ki []:=fun i hi=>by
  rcases i with _ | _ | _ | _ | i
  ·rfl
  ·rfl
  ·rfl
  ·rfl
  ·omega
 refine⟨rfl,rfl,fun i hi=>?_,fun i hi=>?_,fun v hv=>?_,by decide,by decide,fun l hl=>(by cases hl),by decide,fun c hc=>(by cases hc),by decide,rfl,fun n hn=>?_,by decide,by decide⟩
 ·rw[hr i hi]
  exact⟨⟨tF _ _ _ _ (gp _) (by omega) rfl HX F3,rfl,gp _,by show(0:Int)<=1;omega,by show(0:Int)<=1;omega,bF _,gp _,by show(0:Int)<=1;omega,fun p hp=>(by cases hp),fun d hd=>(by cases hd),fun o ho=>by simp [newR,cm]at ho⟩,rfl,rfl,rfl,rfl⟩
 ·rw[hr i hi]
  rcases i with _ | _ | _ | _ | i
  ·rfl
  ·rfl
  ·rfl
  ·rfl
  ·omega
 ·have hv:v∈[(⟨5,1,1,[0,1],[]⟩:Vw)]:=hv
  rw[gY]at hv;subst hv
  exact⟨by decide,by decide,by decide,by decide,by decide,by decide⟩
 ·have hn:n∈[(0:Int),0,0]:=hn
  simp only[eP,List.not_mem_nil,or_false]at hn;omega
def lK (s:Sp):List D:=[dn Z s.d,dn Z s.cx,dn Z s.n,dn Z s.k,db s.ag]
noncomputable def tW (l:List Sp):Wd:=l.foldl gV (kx 4)
structure wW (l:List Sp) (x:kK):Prop where
 le:x.i<=l.length
 W:x.W=tW (l.take x.i)
 p:PW x.A x.q x.W.R
structure wX (l:List Sp) (x:kK):Prop where
 le:x.i<=4
 W:x.W=tW l
 p:PW x.A x.q x.W.R
abbrev EN (l:List Sp) (b:List Int):LI where
 α:={x:kK // wW l x}
 live:=[0,1,5,6]
 st x:=([an (.sl 5 (l.map lK)),an (.sl 1 (ints θ b)),ac 0 0,.int Z (x.1.i:Int)],k9 x.1.W x.1.q x.1.A)
 μ x:=l.length - x.1.i
abbrev EO (l:List Sp) (b:List Int):LI where
 α:={x:kK // wX l x}
 live:=[1,5,7]
 st x:=([an (.sl 1 (ints θ b)),ac 0 0,.int Z (x.1.i:Int)],k9 x.1.W x.1.q x.1.A)
 μ x:=4 - x.1.i
def VP (l:List Sp) (b:List Int):FuncId->Nat->Option LI
 | 3,7=>some (EN l b)
 | 3,11=>some (EO l b)
 |_,_=>none
def EP:FuncId->Option dw
 | 8=>some ⟨[.gU],IN⟩
 | 9=>some ⟨[.gU],WM GStep⟩
 | 7=>some ⟨[.gU],Bl⟩
 | 12=>some ⟨[.fp 1,.fp 1],xB⟩
 |f=>tV f
noncomputable def B1 (l:List Sp) (b:List Int):bM:=dF Tryz.prog EP (VP l b) 10
theorem abK (l:List Sp) (b:List Int) (ay:
 (decide ((↑(ι lK l).length:Int) > 80)=true->
 true=true)/\
 (decide ((↑(ι lK l).length:Int) > 80)=false->
 (decide ((↑(ints θ b).length:Int) > 300)=true->
 true=true)/\
 (decide ((↑(ints θ b).length:Int) > 300)=false->
 ∃(l_1:List (Nat×φ)),bO [] l_1/\
 ∀(W:Wd),W=kx 4->
 ∀(q:List (Nat×Nat)) (A':List (Sg×KB)),PW A' q W.R->
 At (EN l b) ([an (π 5 (ι lK l)),an (π 1 (ints θ b)),ac 0 0,δ Z 0],[ω [ε 1 0 W.R.length,ε 2 0 W.dk.length,ε 3 0 W.vs.length,ε 4 0 W.aa.length,ε 5 0 W.cs.length,ε 6 0 W.au.length,δ Z W.now,ξ W.ok],ζ 30 1 (ι bj q),ζ 23 1 (ι ax W.dk),ζ 49 5 (ι bt W.vs),ζ 73 3 (ι aZ W.aa),ζ 61 10 (ι bi W.cs),ζ 3 1 (ints Z W.au),bE A'])/\
 ∀(i:{x:kK // wW l x }),(decide ((↑i.val.i:Int)<(↑(ι lK l).length:Int))=true->
 aQ (↑i.val.i:Int)/\
 ∃(e:List D),(ι lK l)[(↑i.val.i:Int).toNat]? =some e/\
 ∃(n:Int),e[0]? =some (η (κ Z n))/\
 ∃(n_1:Int),e[1]? =some (η (κ Z n_1))/\
 ∃(n_2:Int),e[2]? =some (η (κ Z n_2))/\
 ∃(iu:Int),e[3]? =some (η (κ Z iu))/\
 ∃(b_1:Bool),e[4]? =some (η (fa b_1))/\
 ∃(w:Wd),∃(q:List (Nat×Nat)),∃(A:List (Sg×KB)),mV [ω [ε 1 0 i.val.W.R.length,ε 2 0 i.val.W.dk.length,ε 3 0 i.val.W.vs.length,ε 4 0 i.val.W.aa.length,ε 5 0 i.val.W.cs.length,ε 6 0 i.val.W.au.length,δ Z i.val.W.now,ξ i.val.W.ok],ζ 30 1 (ι bj i.val.q),ζ 23 1 (ι ax i.val.W.dk),ζ 49 5 (ι bt i.val.W.vs),ζ 73 3 (ι aZ i.val.W.aa),ζ 61 10 (ι bi i.val.W.cs),ζ 3 1 (ints Z i.val.W.au),bE i.val.A] w q A/\
 PW A q w.R/\
 ∃(s:Sp),[cF [δ Z n,δ Z n_1,δ Z n_2,δ Z iu,ξ b_1]]=[pL s]/\
 Bv w s/\
 ∀(w':Wd),w'=gV w s->
 ∀(q':List (Nat×Nat)) (A':List (Sg×KB)),PW A' q' w'.R->
 Nx (EN l b) i ([an (π 5 (ι lK l)),an (π 1 (ints θ b)),ac 0 0,δ Z (Z.wrap ((↑i.val.i:Int)+1))],[ω [ε 1 0 w'.R.length,ε 2 0 w'.dk.length,ε 3 0 w'.vs.length,ε 4 0 w'.aa.length,ε 5 0 w'.cs.length,ε 6 0 w'.au.length,δ Z w'.now,ξ w'.ok],ζ 30 1 (ι bj q'),ζ 23 1 (ι ax w'.dk),ζ 49 5 (ι bt w'.vs),ζ 73 3 (ι aZ w'.aa),ζ 61 10 (ι bi w'.cs),ζ 3 1 (ints Z w'.au),bE A']))/\
 (decide ((↑i.val.i:Int)<(↑(ι lK l).length:Int))=false->
 At (EO l b) ([an (π 1 (ints θ b)),ac 0 0,δ Z 0],[ω [ε 1 0 i.val.W.R.length,ε 2 0 i.val.W.dk.length,ε 3 0 i.val.W.vs.length,ε 4 0 i.val.W.aa.length,ε 5 0 i.val.W.cs.length,ε 6 0 i.val.W.au.length,δ Z i.val.W.now,ξ i.val.W.ok],ζ 30 1 (ι bj i.val.q),ζ 23 1 (ι ax i.val.W.dk),ζ 49 5 (ι bt i.val.W.vs),ζ 73 3 (ι aZ i.val.W.aa),ζ 61 10 (ι bi i.val.W.cs),ζ 3 1 (ints Z i.val.W.au),bE i.val.A])/\
 ∀(i:{x:kK // wX l x }),(decide ((↑i.val.i:Int)<4)=true->
 br (↑i.val.i:Int) (i.val.W.R.length - 0)/\
 ∃(e:List D),(ι bj i.val.q)[0+(↑i.val.i:Int).toNat]? =some e/\
 ∃(v:Value),e[0]? =some (η v)/\
 ∃(l_2:List (Nat×φ)),∃(i_1:Nat),∃(b_1:Nat),∃(R:φ),bO i.val.A l_2/\
 l_2[i_1]? =some (b_1,R)/\
 η v=η (pv b_1)/\
 fY []/\
 bz R/\
 e_ R.ep/\
 ∀(A':List (Sg×KB)),bO A' (l_2.set i_1 (b_1,R))->
 ∃(A:List (Sg×KB)),∃(dg:List (Nat×φ)),∃(t:List Int),qT [bE A'] A/\
 bO A dg/\
 ints θ (du R)=ints θ t/\
 (∀(c:Int),ct c t->
 0<=c/\
 c<256)/\
 t.length<=900000/\
 (((∃(ep:Int),∃(nu:Int),∃(c:List Int),∃(x:List L3),jA t ep nu c x)->
 False)->
 (true=true->
 False)/\
 (true=false->
 False))/\
 ∀(ep nu:Int) (c:List Int) (x:List L3),jA t ep nu c x->
 ∀(b_2:Nat) (A':List (Sg×KB)),bO A' (dg++[(b_2,newR (↑i.val.i:Int) 5 false ep nu c x)])->
 (false=true->
 False)/\
 (false=false->
 (false=true->
 False)/\
 (false=false->
 br (↑i.val.i:Int) (i.val.W.R.length - 0)/\
 ∃(e:List D),(ι bj i.val.q)[0+(↑i.val.i:Int).toNat]? =some e/\
 ∃(v:Value),e[0]? =some (η v)/\
 True/\
 ∃(aW:List (Nat×φ)),∃(i_2:Nat),∃(iD:Nat),∃(R:φ),bO A' aW/\
 aW[i_2]? =some (iD,R)/\
 pv b_2=pv iD/\
 fY []/\
 bz R/\
 e_ R.ep/\
 ∀(A':List (Sg×KB)),bO A' (aW.set i_2 (iD,R))->
 (∃(e:List D),(ι bj i.val.q)[0+(↑i.val.i:Int).toNat]? =some e/\
 ∃(v_1:Value),e[0]? =some (η v_1)/\
 an (η v_1)=an (η v))/\
 ∃(dV:List (Nat×φ)),∃(cp:Nat),∃(q9:Nat),∃(fy:φ),bO A' dV/\
 dV[cp]? =some (q9,fy)/\
 η v=η (pv q9)/\
 fY []/\
 bz fy/\
 e_ fy.ep/\
 ∀(A':List (Sg×KB)),bO A' (dV.set cp (q9,fy))->
 ∃(a:List Int),∃(q_:List Int),ints θ (du R)=ints θ a/\
 ints θ (du fy)=ints θ q_/\
 a.length.le 1000000/\
 ((!decide (a=q_))=true->
 False)/\
 ((!decide (a=q_))=false->
 br (↑i.val.i:Int) (i.val.W.dk.length - 0)/\
 ∃(e:List D),(ι ax i.val.W.dk)[0+(↑i.val.i:Int).toNat]? =some e/\
 ∃(a_:List (List D)),e[0]? =some (π 1 a_)/\
 br (↑i.val.i:Int) (i.val.W.R.length - 0)/\
 ∃(e:List D),(ι bj i.val.q)[0+(↑i.val.i:Int).toNat]? =some e/\
 ∃(v:Value),e[0]? =some (η v)/\
 True/\
 (∃(e:List D),(ι ax i.val.W.dk)[0+(↑i.val.i:Int).toNat]? =some e/\
 ∃(l:List (List D)),e[0]? =some (π 1 l)/\
 True)/\
 True/\
 ∃(jI:List (Nat×φ)),∃(dp:Nat),∃(Cn:Nat),∃(R:φ),bO A' jI/\
 jI[dp]? =some (Cn,R)/\
 η v=η (pv Cn)/\
 fY []/\
 bz R/\
 e_ R.ep/\
 ∀(A':List (Sg×KB)),bO A' (jI.set dp (Cn,R))->
 ∃(a:List Int),∃(Co:List Int),a_=ints θ a/\
 ints θ (du R)=ints θ Co/\
 a.length.le 1000000/\
 ((!decide (a=Co))=true->
 False)/\
 ((!decide (a=Co))=false->
 ∃(EV:List (Nat×φ)),∃(d_:Nat),∃(Cp:Nat),∃(R:φ),bO A' EV/\
 EV[d_]? =some (Cp,R)/\
 pv b_2=pv Cp/\
 fY []/\
 bz R/\
 ∀(A':List (Sg×KB)),bO A' (EV.set d_ (Cp,R))->
 br (↑i.val.i:Int) (i.val.W.R.length - 0)/\
 ∃(e:List D),(ι bj i.val.q)[0+(↑i.val.i:Int).toNat]? =some e/\
 ∃(v:Value),e[0]? =some (η v)/\
 ∃(EW:List (Nat×φ)),∃(Mk:Nat),∃(Cq:Nat),∃(kJ:φ),bO A' EW/\
 EW[Mk]? =some (Cq,kJ)/\
 η v=η (pv Cq)/\
 fY []/\
 bz kJ/\
 ∀(A':List (Sg×KB)),bO A' (EW.set Mk (Cq,kJ))->
 ∃(EU:List (Nat×φ)),∃(Ml:Nat),∃(Cm:Nat),∃(uz:φ),bO A' EU/\
 EU[Ml]? =some (Cm,uz)/\
 pv b_2=pv Cm/\
 fY []/\
 bz uz/\
 ∀(A':List (Sg×KB)),bO A' (EU.set Ml (Cm,uz))->
 ((R.ep != kJ.ep)=true->
 False)/\
 ((R.ep != kJ.ep)=false->
 ((R.nu != kJ.nu)=true->
 False)/\
 ((R.nu != kJ.nu)=false->
 (eL uz=true->
 False)/\
 (eL uz=false->
 Nx (EO l b) i ([an (π 1 (ints θ b)),ac 0 0,δ Z (Z.wrap ((↑i.val.i:Int)+1))],[ω [ε 1 0 i.val.W.R.length,ε 2 0 i.val.W.dk.length,ε 3 0 i.val.W.vs.length,ε 4 0 i.val.W.aa.length,ε 5 0 i.val.W.cs.length,ε 6 0 i.val.W.au.length,δ Z i.val.W.now,ξ i.val.W.ok],ζ 30 1 (ι bj i.val.q),ζ 23 1 (ι ax i.val.W.dk),ζ 49 5 (ι bt i.val.W.vs),ζ 73 3 (ι aZ i.val.W.aa),ζ 61 10 (ι bi i.val.W.cs),ζ 3 1 (ints Z i.val.W.au),bE A'])))))))))/\
 (decide ((↑i.val.i:Int)<4)=false->
 ∃(A:List (Sg×KB)),∃(l_2:List (Nat×φ)),∃(t:List Int),qT [bE i.val.A] A/\
 bO A l_2/\
 ints θ b=ints θ t/\
 (∀(c:Int),ct c t->
 0<=c/\
 c<256)/\
 t.length<=900000/\
 (((∃(ep:Int),∃(nu:Int),∃(c:List Int),∃(x:List L3),jA t ep nu c x)->
 False)->
 (true=true->
 true=true)/\
 (true=false->
 ∃(dg:List (Nat×φ)),∃(i_1:Nat),∃(b_1:Nat),∃(R:φ),bO i.val.A dg/\
 dg[i_1]? =some (b_1,R)/\
 Value.pointer none=pv b_1/\
 fY []/\
 bz R/\
 e_ R.ep/\
 ∀(A':List (Sg×KB)),bO A' (dg.set i_1 (b_1,R))->
 ∃(a:List Int),∃(b_2:List Int),ints θ (du R)=ints θ a/\
 ints θ b=ints θ b_2/\
 a.length.le 1000000/\
 (decide (a=b_2)=true->
 true=true)/\
 (decide (a=b_2)=false->
 False)))/\
 ∀(ep nu:Int) (c:List Int) (x:List L3),jA t ep nu c x->
 ∀(b_1:Nat) (A':List (Sg×KB)),bO A' (l_2++[(b_1,newR 0 5 false ep nu c x)])->
 (false=true->
 true=true)/\
 (false=false->
 ∃(l:List (Nat×φ)),∃(i:Nat),∃(b_2:Nat),∃(R:φ),bO A' l/\
 l[i]? =some (b_2,R)/\
 pv b_1=pv b_2/\
 fY []/\
 bz R/\
 e_ R.ep/\
 ∀(A':List (Sg×KB)),bO A' (l.set i (b_2,R))->
 ∃(a:List Int),∃(iD:List Int),ints θ (du R)=ints θ a/\
 ints θ b=ints θ iD/\
 a.length.le 1000000/\
 (decide (a=iD)=true->
 true=true)/\
 (decide (a=iD)=false->
 False))))))
 ):B1 l b 3 [an (.sl 5 (l.map lK)),an (.sl 1 (ints θ b))] [] KT:=by apply Eq.mp (a:=ay);kernel_rfl
theorem VO:dE Tryz.prog EP:=fun f k h=>by
 unfold EP at h
 split at h
 ·cases h;exact Xr
 ·cases h;exact Yc
 ·cases h;exact WP
 ·cases h;exact F0
 ·exact zX _ _ h
theorem RQ (l:List Sp) (b:List Int):bW Tryz.prog (B1 l b):=dI mixed VO _ 10
theorem K5:∀(l:List Sp) {w:Wd} {T:Int},WI T w->T+3*(l.length:Int)<=690->WI (T+3*(l.length:Int)) (l.foldl gV w)
 | [],w,T,h,_=>h.mono (by simp)
 |s::l,w,T,h,ht=>by
  rw[io]at ht
  exact(K5 l (PV h (by omega) s).2 (by omega)).mono (by rw[io];omega)
theorem Ph {l:List Sp} (h:l.length<=80):WI (1+3*(l.length:Int)) (tW l):=K5 l Ws (by omega)
theorem ZN {l:List Sp} {i:Nat} (h:i<l.length):tW (l.take (i+1))=gV (tW (l.take i)) l[i]:=by
 unfold tW
 rw[jY,bx h,List.foldl_append];rfl
theorem sf {α:Type} {l:List α} {i:Nat} {x:α} (h:l[i]? =some x):l.set i x=l:=by
 obtain⟨h1,h2⟩:=bU.1 h
 rw[<- h2,List.set_getElem_self]
theorem Jv {α:Type} {l:List α} {i:Nat} {x:α} (y:α) (h:l[i]? =some x):(l++[y])[i]? =some x:=by
 rw[eH (bU.1 h).1];exact h
theorem CU.grow {l:List (Nat×φ)} {q:List (Nat×Nat)} {R:List φ} (h:CU l q R) (y:Nat×φ):CU (l++[y]) q R:=
 ⟨h.len,fun j p hj=>by
  obtain⟨r2,h1,h2⟩:=h.a j p hj
  exact⟨r2,h1,Jv y h2⟩,h.nd⟩
theorem VH {b:List Int} (hb:bm b) {ep nu:Int} {c:List Int} {x:List L3} (h:jA b ep nu c x):bm c:=fun y hy=>hb y (by
 rw[h.e]
 unfold ig bY bT
 simp only[gl]
 exact .inr (.inr (.inl (.inr (.inl hy)))))
theorem VZ (l:List Sp) (b:List Int) (hb:bm b):B1 l b 3 [an (.sl 5 (l.map lK)),an (.sl 1 (ints θ b))] [] KT:=by
 apply abK l b
 rw[cg,be]
 refine⟨fun _=>rfl,fun h1=>⟨fun _=>rfl,fun h2=>?_⟩⟩
 have hl:l.length<=80:=by rw[decide_eq_false_iff_not]at h1;omega
 have LA:b.length<=300:=by rw[decide_eq_false_iff_not]at h2;omega
 refine⟨[],OB,fun W hW q A' p=>?_⟩
 subst hW
 refine⟨At.mk' (⟨⟨0,kx 4,q,A'⟩,bF _,rfl,p⟩:{x:kK // wW l x}) rfl,?_⟩
 rintro⟨⟨i,W,q1,A1⟩,hi,hW,P1⟩
 dsimp only at hi hW P1 ⊢
 have Ln:WI (1+3*(i:Int)) W:=by
  have:=Ph (l:=l.take i) (by rw[cW];omega)
  rw[cW,Nat.min_eq_left hi]at this
  rw[hW];exact this
 refine⟨fun hlt=>?_,fun hge=>⟨?_,?_⟩⟩
 ·have hlt:i<l.length:=by rw[decide_eq_true_eq]at hlt;omega
  refine⟨by unfold aQ;omega,lK l[i],by rw[dr,fG,bx hlt];rfl,_,rfl,_,rfl,_,rfl,_,rfl,_,rfl,W,q1,A1,⟨rfl⟩,P1,l[i],rfl,(PV Ln (by omega) _).1,fun w' hw' q' A' p'=>?_⟩
  refine Nx.mk' (⟨⟨i+1,w',q',A'⟩,hlt,by show w'=_;rw[hw',hW,ZN hlt],p'⟩:{x:kK // wW l x}) ?_ (by show l.length - (i+1)<l.length - i;omega)
  rw[bR (by omega) (by omega)]
  rfl
 ·have hi:i=l.length:=by rw[decide_eq_false_iff_not]at hge;omega
  subst hi
  exact At.mk' (⟨⟨0,W,q1,A1⟩,bF _,by show W=_;rw[hW,cN],P1⟩:{x:kK // wX l x}) rfl
 ·clear Ln hW P1 hge
  rintro⟨⟨j,W,q1,A1⟩,hj,hW,P1⟩
  dsimp only at hj hW P1 ⊢
  have hI:=Ph hl
  rw[<- hW]at hI
  have hrl:=hI.rl
  have hdl:=hI.dl
  refine⟨fun hlt=>?_,fun _=>?_⟩
  ·have hlt:j<4:=by rw[decide_eq_true_eq]at hlt;omega
   obtain⟨l2,hA,nh⟩:=P1.h
   obtain⟨⟨k,b2⟩,hq⟩:=nh.lt (i:=j) (by omega)
   obtain⟨R2,g1,hlk⟩:=nh.a j _ hq
   rw[pF (w:=W) (by omega)]at g1;cases g1
   have hr:=(hI.r j hlt).w
   have hdk:=hI.dk j hlt
   generalize az W j=R at hr hdk hlk
   have e0:=hr.e0
   have e1:=hr.e1
   have n1:=hr.n1
   have hle:e_ R.ep:=⟨by omega⟩
   have hin:br (j:Int) (W.R.length - 0):=by unfold br;omega
   have hby:bm (du R):=O4 (by omega) (by omega) hr.i.ok.cl hr.i.ok.cb hr.i.tx
   have bX:(du R).length<=2000:=O5 R.ep R.nu hr.i.ok.cl hr.i.tx.len
   have Ll:jA (du R) R.ep R.nu R.c R.t:=⟨rfl,e0,by omega,hr.i.ok.n0,by omega,hr.i.ok.cl,hr.i.tx⟩
   have hN:bz (newR (j:Int) 5 false R.ep R.nu R.c R.t):=tF _ _ _ _ hr.i.ok.n0 hr.i.ok.n1 hr.i.ok.cl hr.i.ok.cb hr.i.tx
   have hda:(W.dk.map ax)[0+(j:Int).toNat]? =some (ax (du R)):=by rw[cL,dr,fG,hdk];rfl
   refine⟨hin,_,kX hq,_,rfl,l2,k,b2,R,hA,hlk,rfl,⟨rfl⟩,hr.i,hle,fun A3 p3=>?_⟩
   rw[sf hlk]at p3
   refine⟨A3,l2,du R,⟨.inr rfl⟩,p3,rfl,hby,by omega,fun hn=>absurd ⟨_,_,_,_,Ll⟩ hn,fun ep nu c x hx b3 A4 p4=>?_⟩
   obtain⟨i1,i2,i3,i4⟩:=Mw hby (by omega) Ll hx
   subst i1;subst i2;subst i3;subst i4
   have hk2:=Jv (b3,newR (j:Int) 5 false R.ep R.nu R.c R.t) hlk
   have hn2:(l2++[(b3,newR (j:Int) 5 false R.ep R.nu R.c R.t)])[l2.length]? =some (b3,newR (j:Int) 5 false R.ep R.nu R.c R.t):=by simp
   have LH:=nh.grow (b3,newR (j:Int) 5 false R.ep R.nu R.c R.t)
   generalize l2++[(b3,newR (j:Int) 5 false R.ep R.nu R.c R.t)]=L at p4 hk2 hn2 LH
   refine⟨fun t=>(by cases t),fun _=>⟨fun t=>(by cases t),fun _=>?_⟩⟩
   refine⟨hin,_,kX hq,_,rfl,trivial,L,l2.length,b3,_,p4,hn2,rfl,⟨rfl⟩,hN,hle,fun A5 p5=>⟨⟨_,kX hq,_,rfl,rfl⟩,L,k,b2,R,by rw[sf hn2]at p5;exact p5,hk2,rfl,⟨rfl⟩,hr.i,hle,fun A6 p6=>⟨du R,du R,rfl,rfl,Nat.le_of_lt_succ (by omega),fun t=>(by simp at t),fun _=>?_⟩⟩⟩
   rw[sf hk2]at p6
   refine⟨by unfold br;omega,_,hda,_,rfl,hin,_,kX hq,_,rfl,trivial,⟨_,hda,_,rfl,trivial⟩,trivial,L,k,b2,R,p6,hk2,rfl,⟨rfl⟩,hr.i,hle,fun A7 p7=>⟨du R,du R,rfl,rfl,Nat.le_of_lt_succ (by omega),fun t=>(by simp at t),fun _=>?_⟩⟩
   rw[sf hk2]at p7
   refine⟨L,l2.length,b3,_,p7,hn2,rfl,⟨rfl⟩,hN,fun A8 p8=>⟨hin,_,kX hq,_,rfl,L,k,b2,R,by rw[sf hn2]at p8;exact p8,hk2,rfl,⟨rfl⟩,hr.i,fun A9 p9=>⟨L,l2.length,b3,_,by rw[sf hk2]at p9;exact p9,hn2,rfl,⟨rfl⟩,hN,fun Rg Ot=>⟨fun t=>?_,fun _=>⟨fun t=>?_,fun _=>⟨fun t=>(by cases t),fun _=>?_⟩⟩⟩⟩⟩⟩
   ·simp [newR]at t
   ·simp [newR]at t
   ·rw[sf hn2]at Ot
    refine Nx.mk' (⟨⟨j+1,W,q1,Rg⟩,hlt,hW,⟨L,Ot,LH⟩⟩:{x:kK // wX l x}) ?_ (by show 4 - (j+1)<4 - j;omega)
    rw[bR (by omega) (by omega)]
    rfl
  ·obtain⟨l2,hA,-⟩:=P1.h
   refine⟨A1,l2,b,⟨.inr rfl⟩,hA,rfl,hb,by omega,fun _=>⟨fun _=>rfl,fun t=>(by cases t)⟩,fun ep nu c x hx b1 A2 p2=>⟨fun t=>(by cases t),fun _=>?_⟩⟩
   have h1:=hx.e1
   have h2:=hx.n1
   have hN:bz (newR 0 5 false ep nu c x):=tF _ _ _ _ hx.n0 (by omega) hx.cl (VH hb hx) hx.x
   have he:du (newR 0 5 false ep nu c x)=b:=hx.e.symm
   refine⟨l2++[(b1,newR 0 5 false ep nu c x)],l2.length,b1,_,p2,by simp,rfl,⟨rfl⟩,hN,⟨by show ep<=_;omega⟩,fun A3 p3=>⟨b,b,by rw[he],rfl,Nat.le_of_lt_succ (by omega),fun _=>rfl,fun t=>(by simp at t)⟩⟩
theorem S8 {x:List D} (h:fu [.int Z,.int Z,.int Z,.int Z,.bool] x):∃ a:Sp,x=lK a/\True:=by
 simp only[fu,pZ]at h
 obtain⟨_,_,rfl,⟨a,rfl,_⟩,_,_,rfl,⟨b,rfl,_⟩,_,_,rfl,⟨c,rfl,_⟩,_,_,rfl,⟨d,rfl,_⟩,_,_,rfl,⟨e,rfl⟩,rfl⟩:=h
 exact⟨⟨a,b,c,d,e⟩,rfl,trivial⟩
end Go.Proofs.YtfcjngcnifdmnaaGreat
