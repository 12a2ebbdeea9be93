import Derived.Test.YtfcjngcnifdmnaaGreatQd
import Derived.KernelRfl
namespace Go.Proofs.YtfcjngcnifdmnaaGreat
open Vc Go
open Go.IntKind renaming i64->γ,u8->ξ,u32->iM
open Vc.V renaming any->δ,int->ε,sl->ζ,sb->ο,ptr->aj,φ->au,dat->aC,aa->aR,mp->aY,arr->bF,agg->fz
open Vc.D renaming val->η,sl->χ
open Go.Value renaming int->ν,map->kT,bool->mG,oneCell'->mH
open List renaming map->ae,drop->ax,take->ay,length_append->bn,getElem?_eq_getElem->bu,getElem?_eq_some_iff->bH,length_map->bT,take_length->cQ,length_take->cW,mem_singleton->da,replicate->dv,mem_append->dz,mem_map->dO,mem_cons->dS,Mem->dW,append_assoc->dX,getElem?_append_left->dY,take_of_length_le->eQ,getElem?_append_right->fk,getElem?_map->fy,mem_of_getElem?->fF,length_drop->gm,mem_cons_of_mem->gn,append_nil->gz,length_cons->gA,getD_eq_getElem?_getD->gO,getElem?_set_ne->gP,mem_append_left->gQ,length_singleton->gZ,drop_zero->iD,getElem?_eq_none->iE,getElem?_take_of_lt->iF,length_set->iG,getElem?_set_self->iN,mem_cons_self->iV,map_append->ja,range->jb,nil_append->jr,take_add_one->jt,flatten_cons->jF,getElem?_of_mem->jG,getElem?_drop->jW,map_cons->kv,length_nil->kP,mem_append_right->kQ,mem_filter->lu,ext_getElem?->mb,eq_nil_of_length_eq_zero->mD
open Vc.KO renaming row->ai,dead->aw,cells->aB,objs->fE
open Nat renaming le_refl->ar,zero_le->bj,beq->cX,zero_add->c9,eq_of_beq_eq_true->de,add_assoc->g_,lor->iW,lt_or_ge->kx,sub_zero->ly,le_trans->mc
open Option renaming some->bb,bind_eq_some_iff->lO,map->ng
open Int renaming toNat_natCast->cN,le_refl->dE
open Bool renaming and_eq_true->jo,not_eq_false'->kr,not_eq_true'->mA
set_option linter.unusedVariables false
set_option linter.unusedSimpArgs false
set_option maxRecDepth 100000
set_option maxHeartbeats 2000000
def bm (m:dL) (i:Nat):Int:=m.n.getD i 0
def jz (b:List Int):Option (List Int):=match fM b with | some c=>if c.length=128 then some c else none | none=>none
open Classical in
noncomputable def loadT (b:List Int):Option (List L3):=if h:∃ x,fl x/\b=be x then some h.choose else none
noncomputable def iS (R:ι) (fr:Int) (m:dL):ι:=
 if bm m 1<R.ep∨bm m 1=R.ep/\(bm m 2<R.nu∨ef R=true)∨m.l.length≠1 then ou R fr else
 match jz m.b,loadT (m.l.getD 0 [])with
 |some c,some t=>iz {gy R with ep:=bm m 1,nu:=bm m 2,c:=c,t:=t,ch:=true } fr 11 [bm m 2] [] []
 |_,_=>R
def mark (f:Int->Bool) (k:Int) (v:Bool):Int->Bool:=fun n=>if n=k then v else f n
def iA (R:ι) (fr:Int) (m:dL):ι:=match R.ld with
 |none=>R
 |some L=>if bm m 1≠R.ep∨bm m 2≠R.nu then R else match L.cur with
  |none=>{R with ld:=some ⟨mark L.ins fr true,L.cy,none⟩ }
  |some o=>fq {R with ld:=some ⟨mark L.ins fr true,mark L.cy fr true,some o⟩ }
def uV (m:dL):Op:=⟨bm m 3,bm m 4,bm m 5,bm m 6,m.b⟩
def iR (R:ι) (fr:Int) (m:dL):ι:=
 if bm m 1=R.ep/\bm m 2=R.nu/\ef R=false then iz R fr 13 [R.nu] [] []
 else if bm m 1=R.ep/\bm m 2=R.nu+1/\ef R=false/\gh (uV m)=true/\(bm m 5≠4∨eG R.c=bm m 7)then iz (gE R (uV m)) fr 13 [R.nu+1] [] []
 else ou R fr
def iw (R:ι) (fr:Int) (m:dL):ι:=match R.ld with
 |none=>R
 |some L=>match L.cur with
  |none=>R
  |some o=>if bm m 1=R.ep/\bm m 2=R.nu then fq {R with ld:=some ⟨L.ins,mark L.cy fr true,some o⟩ }else R
def iy (R:ι) (fr:Int) (m:dL):ι:=match R.ld with
 |none=>R
 |some L=>if R.ep<bm m 1 then gy R else if bm m 1=R.ep/\R.nu<bm m 2 then gy {R with lo:=true }
  else qP {R with ld:=some {L with ins:=mark L.ins fr false } } fr
def iP (kd:Int):Nat:=if kd=12 then 8 else 3
def cp (R:ι) (fr:Int) (m:dL):Bool:=decide (10<=m.kd/\m.kd<=14/\m.n.length=iP m.kd/\bm m 0=R.id/\fr≠R.me) && !m.n.any cJ
noncomputable def dI (R:ι) (fr:Int) (m:dL):ι:=
 if cp R fr m=false then R
 else if m.kd=10 then iS R fr m else if m.kd=11 then iA R fr m else if m.kd=12 then iR R fr m else if m.kd=13 then iw R fr m else iy R fr m
def ct (ls:List (List Int)):List (List D):=ls.map fun x=>[.sl 1 (ints ξ x)]
def kj (R:ι) (q1 q2:Int) (ls:List (List Int)):Prop:=q1<R.ep∨q1=R.ep/\(q2<R.nu∨ef R=true)∨ls.length≠1
structure Am (b:List Int) (is:Bool) (cc:List Int):Prop where
 c1:is=true->jz b=some cc
 c0:is=false->jz b=none
structure Al (b y:List Int) (is ok:Bool) (cc:List Int) (x:List L3) (M:ML):Prop where
 c1:is=true->jz b=some cc
 c0:is=false->jz b=none
 t1:ok=true->loadT y=some x/\bL M x
 t0:ok=false->loadT y=none
abbrev VO (R:ι) (T:ML) (π υ:Value) (fr kd q0 q1 q2:Int) (b:List Int) (ls:List (List Int)):LI where
 α:={_u:Unit // ¬ kj R q1 q2 ls}
 live:=[0,1,5,6,7]
 st _:=([aj 0 0,.int γ fr,aj 3 0,.int γ q1,.int γ q2],[cR R (af T) (ο false) (δ π) (δ υ) (.aa none) (.sl 1 0 (nO R)) (.sl 2 0 (nD R)),rO R,rD R,aB [.int γ kd,aC (.sl 1 [[dn γ q0],[dn γ q1],[dn γ q2]]),aC (.sl 1 (ints ξ b)),aC (.sl 1 (ct ls))]])
 μ _:=0
abbrev VR (R:ι) (T:ML) (π υ:Value) (fr kd q0 q1 q2:Int) (b:List Int) (ls:List (List Int)):LI where
 α:={p:Bool×List Int // ¬ kj R q1 q2 ls/\Am b p.1 p.2}
 live:=[0,1,5,6,7,8,9]
 st i:=([aj 0 0,.int γ fr,aj 3 0,.int γ q1,.int γ q2,aj 4 0,ο i.1.1],[cR R (af T) (ο false) (δ π) (δ υ) (.aa none) (.sl 1 0 (nO R)) (.sl 2 0 (nD R)),rO R,rD R,aB [.int γ kd,aC (.sl 1 [[dn γ q0],[dn γ q1],[dn γ q2]]),aC (.sl 1 (ints ξ b)),aC (.sl 1 (ct ls))],aB [bF 128 (aT ξ i.1.2)]])
 μ _:=0
abbrev VV (R:ι) (T:ML) (π υ:Value) (fr kd q0 q1 q2:Int) (b:List Int) (ls:List (List Int)) (cc:List Int) (M:ML):LI where
 α:=Unit
 live:=[0,1,7]
 st _:=([aj 0 0,.int γ fr,.int γ q2],[cG R (ο R.lo) (.int γ q1) (.int γ q2) (bF 128 (aT ξ cc)) (ο true) (af M) (ο false) (δ π) (δ υ) (.aa none) (.sl 1 0 (nO R)) (.sl 3 0 (yD R).length),rO R,aw,ai 70 7 (yD R)])
 μ _:=0
abbrev VT (R:ι) (T:ML) (π υ:Value) (fr kd q0 q1 q2:Int) (b:List Int) (ls:List (List Int)):LI where
 α:={p:Bool×Bool×List Int×List L3×ML // ¬ kj R q1 q2 ls/\Al b (ls.getD 0 []) p.1 p.2.1 p.2.2.1 p.2.2.2.1 p.2.2.2.2}
 live:=[0,1,6,7,8,9,10,11]
 dT:=[.oV 4 0 [γ] false true 2]
 st i:=([aj 0 0,.int γ fr,.int γ q1,.int γ q2,aj 3 0,ο i.1.1,aj 4 0,ο i.1.2.1],[cR R (af T) (ο false) (δ π) (δ υ) (.aa none) (.sl 1 0 (nO R)) (.sl 2 0 (nD R)),rO R,rD R,aB [bF 128 (aT ξ i.1.2.2.1)],aB [af i.1.2.2.2.2]])
 μ _:=0
 sub i r:=match r with
  | 1009=>some (VV R T π υ fr kd q0 q1 q2 b ls i.1.2.2.1 i.1.2.2.2.2)
  |_=>none
def VY (R:ι) (T:ML) (π υ:Value) (fr kd q0 q1 q2:Int) (b:List Int) (ls:List (List Int)):Nat->Option LI
 | 1004=>some (VO R T π υ fr kd q0 q1 q2 b ls)
 | 1005=>some (VR R T π υ fr kd q0 q1 q2 b ls)
 | 1006=>some (VT R T π υ fr kd q0 q1 q2 b ls)
 |_=>none
abbrev VN (R:ι) (T:ML) (I Q:ML) (u:Option (List D)) (fr kd q0 q1 q2:Int) (b:List Int) (ls:List (List Int)):LI where
 α:={_u:Unit // ¬ kj R q1 q2 ls}
 live:=[0,1,5,6,7]
 st _:=([aj 0 0,.int γ fr,aj 5 0,.int γ q1,.int γ q2],[cR R (af T) (ο true) (.mp 1) (.mp 2) (.aa u) (.sl 3 0 (nO R)) (.sl 4 0 (nD R)),an I,an Q,rO R,rD R,aB [.int γ kd,aC (.sl 1 [[dn γ q0],[dn γ q1],[dn γ q2]]),aC (.sl 1 (ints ξ b)),aC (.sl 1 (ct ls))]])
 μ _:=0
abbrev VQ (R:ι) (T:ML) (I Q:ML) (u:Option (List D)) (fr kd q0 q1 q2:Int) (b:List Int) (ls:List (List Int)):LI where
 α:={p:Bool×List Int // ¬ kj R q1 q2 ls/\Am b p.1 p.2}
 live:=[0,1,5,6,7,8,9]
 st i:=([aj 0 0,.int γ fr,aj 5 0,.int γ q1,.int γ q2,aj 6 0,ο i.1.1],[cR R (af T) (ο true) (.mp 1) (.mp 2) (.aa u) (.sl 3 0 (nO R)) (.sl 4 0 (nD R)),an I,an Q,rO R,rD R,aB [.int γ kd,aC (.sl 1 [[dn γ q0],[dn γ q1],[dn γ q2]]),aC (.sl 1 (ints ξ b)),aC (.sl 1 (ct ls))],aB [bF 128 (aT ξ i.1.2)]])
 μ _:=0
abbrev VU (R:ι) (T:ML) (I Q:ML) (u:Option (List D)) (fr kd q0 q1 q2:Int) (b:List Int) (ls:List (List Int)) (cc:List Int) (M:ML):LI where
 α:=Unit
 live:=[0,1,7]
 st _:=([aj 0 0,.int γ fr,.int γ q2],[cG R (ο R.lo) (.int γ q1) (.int γ q2) (bF 128 (aT ξ cc)) (ο true) (af M) (ο false) (.mp 1) (.mp 2) (.aa none) (.sl 3 0 (nO R)) (.sl 5 0 (yD R).length),an I,an Q,rO R,aw,ai 70 7 (yD R)])
 μ _:=0
abbrev VS (R:ι) (T:ML) (I Q:ML) (u:Option (List D)) (fr kd q0 q1 q2:Int) (b:List Int) (ls:List (List Int)):LI where
 α:={p:Bool×Bool×List Int×List L3×ML // ¬ kj R q1 q2 ls/\Al b (ls.getD 0 []) p.1 p.2.1 p.2.2.1 p.2.2.2.1 p.2.2.2.2}
 live:=[0,1,6,7,8,9,10,11]
 dT:=[.oV 6 0 [γ] false true 2]
 st i:=([aj 0 0,.int γ fr,.int γ q1,.int γ q2,aj 5 0,ο i.1.1,aj 6 0,ο i.1.2.1],[cR R (af T) (ο true) (.mp 1) (.mp 2) (.aa u) (.sl 3 0 (nO R)) (.sl 4 0 (nD R)),an I,an Q,rO R,rD R,aB [bF 128 (aT ξ i.1.2.2.1)],aB [af i.1.2.2.2.2]])
 μ _:=0
 sub i r:=match r with
  | 1009=>some (VU R T I Q u fr kd q0 q1 q2 b ls i.1.2.2.1 i.1.2.2.2.2)
  |_=>none
def VX (R:ι) (T:ML) (I Q:ML) (u:Option (List D)) (fr kd q0 q1 q2:Int) (b:List Int) (ls:List (List Int)):Nat->Option LI
 | 1004=>some (VN R T I Q u fr kd q0 q1 q2 b ls)
 | 1005=>some (VQ R T I Q u fr kd q0 q1 q2 b ls)
 | 1006=>some (VS R T I Q u fr kd q0 q1 q2 b ls)
 |_=>none
def Ju:FuncId->Option du
 | 110=>some ⟨[],eL [true,false,true,true,false,false,false,true,true,true,true,true,true,true,true,true,true,true,true,true,false,true] Fg⟩
 | 33=>some ⟨[],xL⟩
 | 34=>some ⟨[],Ax⟩
 | 42=>some ⟨[],eL [true,true,true,true,true,true,false,true,true,true,true,true,true,false,true,true,false,true,true,true,true,false] Ba⟩
 | 52=>some ⟨[],AI⟩
 | 49=>some ⟨[],eL [true,true,true,true,true,true,false,true,true,true,true,true,true,true,true,true,true,true,true,true,true,true] xM⟩
 | 56=>some ⟨[],eL [true,true,true,true,true,false,false,false,true,true,true,true,true,true,true,true,true,true,false,true,true,true] AE⟩
 | 58=>some ⟨[],eL [false,true,true,true,true,true,false,true,true,true,true,false,false,true,true,false,false,true,true,true,true,false] AF⟩
 | 45=>some ⟨[],eL [true,false,true,true,false,false,false,false,true,true,true,true,true,true,true,true,true,true,true,true,false,true] xQ⟩
 | 75=>some ⟨[.mK,.mK,.mK,.fA 1,.fA 1,.fA 1],eL [true,false,true,true,false,true,false,true,true,true,true,true,true,true,true,true,true,true,true,true,false,true] AV⟩
 |_=>none
noncomputable def jY:cd:=dM Tryz.prog Ju aG 10
theorem aiH (R:ι) (T:ML) (π υ:Value) (fr kd q0 q1 q2:Int) (b:List Int) (ls:List (List Int)) (K:V->KB->Prop) (aq:
 let b_:=((↑(ct ls).length:Int) != 1)=true;let bW:=((↑(ct ls).length:Int) != 1)=false;let bQ:=(VT R T π υ fr kd q0 q1 q2 b ls);let bM:=(VR R T π υ fr kd q0 q1 q2 b ls);let aU:=[[dn γ q0],[dn γ q1],[dn γ q2]];let aJ:=[0,2,3,7,8,9,10,11,12,13,14,15,16,17,18,19,21];let av:=aB [ε γ kd,aC (χ 1 aU),aC (χ 1 (ints ξ b)),aC (χ 1 (ct ls))];let ω:=ai 107 5 (ae bV R.out++[[dn γ fr,η (ν γ 14),χ 1 [[dn γ R.id],[dn γ R.ep],[dn γ R.nu]],χ 1 [],χ 1 []]]);aA 1/\
 ∃(y1:List D),aU[1]? =some y1/\
 ∃(y2:Int),y1[0]? =some (η (ν γ y2))/\
 aA 2/\
 ∃(y3:List D),aU[2]? =some y3/\
 ∃(y4:Int),let aN:=At (VO R T π υ fr kd q0 q1 q2 b ls) ([aj 0 0,ε γ fr,aj 3 0,ε γ y2,ε γ y4],[cR R (af T) (ο false) (δ π) (δ υ) (aR none) (ζ 1 0 (nO R)) (ζ 2 0 (nD R)),rO R,rD R,av]);y3[0]? =some (η (ν γ y4))/\
 ((decide (y2<R.ep)=true->
 ∀(y5:Nat->
 Value),nO R=(nO R)/\
 bS (nO R)/\
 bz y5 aJ/\
 ∀(y6:Nat->
 Value),K (au []) [cR R (af T) (ο false) (δ (y6 14)) (δ (y6 15)) (aR none) (ζ 1 0 (nO R+1)) (ζ 2 0 (nD R)),ω,rD R])/\
 (decide (y2<R.ep)=false->
 ((y2 == R.ep)=true->
 (decide (y4<R.nu)=true->
 ∀(y7:Nat->
 Value),nO R=(nO R)/\
 bS (nO R)/\
 bz y7 aJ/\
 ∀(y8:Nat->
 Value),K (au []) [cR R (af T) (ο false) (δ (y8 14)) (δ (y8 15)) (aR none) (ζ 1 0 (nO R+1)) (ζ 2 0 (nD R)),ω,rD R])/\
 (decide (y4<R.nu)=false->
 (false=true->
 ∀(y9:Nat->
 Value),nO R=(nO R)/\
 bS (nO R)/\
 bz y9 aJ/\
 ∀(cU:Nat->
 Value),K (au []) [cR R (af T) (ο false) (δ (cU 14)) (δ (cU 15)) (aR none) (ζ 1 0 (nO R+1)) (ζ 2 0 (nD R)),ω,rD R])/\
 (false=false->
 (b_->
 ∀(cD:Nat->
 Value),nO R=(nO R)/\
 bS (nO R)/\
 bz cD aJ/\
 ∀(cE:Nat->
 Value),K (au []) [cR R (af T) (ο false) (δ (cE 14)) (δ (cE 15)) (aR none) (ζ 1 0 (nO R+1)) (ζ 2 0 (nD R)),ω,rD R])/\
 (bW->
 aN))))/\
 ((y2 == R.ep)=false->
 (b_->
 ∀(cP:Nat->
 Value),nO R=(nO R)/\
 bS (nO R)/\
 bz cP aJ/\
 ∀(dH:Nat->
 Value),K (au []) [cR R (af T) (ο false) (δ (dH 14)) (δ (dH 15)) (aR none) (ζ 1 0 (nO R+1)) (ζ 2 0 (nD R)),ω,rD R])/\
 (bW->
 aN))))/\
 ∀(fZ:{cZ:Unit // ¬kj R q1 q2 ls}),(∃(dr:List Int),ints ξ b=ints ξ dr/\
 (∀(fx:Int),dW fx dr->
 0<=fx/\
 fx<256)/\
 dr.length<=900000/\
 (∀(fO:List Int),fM dr=some fO->
 fO.length=128->
 At bM ([aj 0 0,ε γ fr,aj 3 0,ε γ q1,ε γ q2,aj 4 0,ο true],[cR R (af T) (ο false) (δ π) (δ υ) (aR none) (ζ 1 0 (nO R)) (ζ 2 0 (nD R)),rO R,rD R,av,aB [bF 128 (aT ξ fO)]]))/\
 ((∀(fU:List Int),fM dr=some fU->
 fU.length=128->
 False)->
 At bM ([aj 0 0,ε γ fr,aj 3 0,ε γ q1,ε γ q2,aj 4 0,ο false],[cR R (af T) (ο false) (δ π) (δ υ) (aR none) (ζ 1 0 (nO R)) (ζ 2 0 (nD R)),rO R,rD R,av,aB [bF 128 (dv 128 (η (ν ξ 0)))]])))/\
 ∀(fP:{fh:Bool×List Int // ¬kj R q1 q2 ls/\
 Am b fh.fst fh.snd}),let bp:=aB [bF 128 (aT ξ fP.val.snd)];(aA 0/\
 ∃(iZ:List D),(ct ls)[0]? =some iZ/\
 ∃(gx:List (List D)),iZ[0]? =some (χ 1 gx)/\
 ∃(eZ:List Int),gx=ints ξ eZ/\
 (∀(fj:Int),dW fj eZ->
 0<=fj/\
 fj<256)/\
 eZ.length<=140737488355328/\
 (((∃(eM:List L3),fl eM/\
 eZ=be eM)->
 False)->
 At bQ ([aj 0 0,ε γ fr,ε γ q1,ε γ q2,aj 3 0,ο fP.val.fst,aj 4 0,ο false],[cR R (af T) (ο false) (δ π) (δ υ) (aR none) (ζ 1 0 (nO R)) (ζ 2 0 (nD R)),rO R,rD R,bp,aB [af []]]))/\
 ∀(i_:List L3) (kn:ML),bL kn i_->
 eZ=be i_->
 At bQ ([aj 0 0,ε γ fr,ε γ q1,ε γ q2,aj 3 0,ο fP.val.fst,aj 4 0,ο true],[cR R (af T) (ο false) (δ π) (δ υ) (aR none) (ζ 1 0 (nO R)) (ζ 2 0 (nD R)),rO R,rD R,bp,aB [af kn]]))/\
 ∀(fD:{iC:Bool×Bool×List Int×List L3×ML // ¬kj R q1 q2 ls/\
 Al b (ls.getD 0 []) iC.fst iC.snd.fst iC.snd.snd.fst iC.snd.snd.snd.fst iC.snd.snd.snd.snd}),let bD:=(bF 128 (aT ξ fD.val.snd.snd.fst));((!fD.val.fst)=true->
 ∀(ko:Nat->
 Value),K (au []) [cR R (af T) (ο false) (δ (ko 14)) (δ (ko 15)) (aR none) (ζ 1 0 (nO R)) (ζ 2 0 (nD R)),rO R,rD R])/\
 ((!fD.val.fst)=false->
 ((!fD.val.snd.fst)=true->
 ∀(kO:Nat->
 Value),K (au []) [cR R (af T) (ο false) (δ (kO 14)) (δ (kO 15)) (aR none) (ζ 1 0 (nO R)) (ζ 2 0 (nD R)),rO R,rD R])/\
 ((!fD.val.snd.fst)=false->
 ∀(kp:Nat->
 Value),nD R=(nD R)/\
 bS (nD R)/\
 ∃(lb:Option Op),let θ:=At (VV R T π υ fr kd q0 q1 q2 b ls fD.val.snd.snd.fst fD.val.snd.snd.snd.snd) ([aj 0 0,ε γ fr,ε γ q2],[cG R (ο R.lo) (ε γ q1) (ε γ q2) bD (ο true) (af fD.val.snd.snd.snd.snd) (ο false) (δ π) (δ υ) (aR none) (ζ 1 0 (nO R)) (ζ 3 0 (ae dA R.done++yl lb).length),rO R,aw,ai 70 7 (ae dA R.done++yl lb)]);none=ng bo lb/\
 bz kp [0,1,2,3,4,5,7,8,9,10,11,12,14,15,17,18,19,20]/\
 ((θ/\
 θ/\
 θ/\
 θ)/\
 (θ/\
 θ/\
 θ)/\
 (θ/\
 θ/\
 θ)/\
 (θ/\
 θ)/\
 θ/\
 θ)/\
 ∀(oF:Unit),1<=1/\
 ∀(m5:Nat->
 Value),nO R=(nO R)/\
 bS (nO R)/\
 bS 1/\
 bz m5 [0,2,3,5,7,8,9,10,11,12,13,14,15,16,17,18,19,21]/\
 ∀(lh:Nat->
 Value),K (au []) [cG R (ο R.lo) (ε γ q1) (ε γ q2) bD (ο true) (af fD.val.snd.snd.snd.snd) (ο false) (δ (lh 14)) (δ (lh 15)) (aR none) (ζ 1 0 (nO R+1)) (ζ 2 0 (yD R).length),ai 107 5 (ae bV R.out++[[dn γ fr,η (ν γ 11),χ 1 [[dn γ R.id],[dn γ q1],[η (ν γ q2)]],χ 1 [],χ 1 []]]),ai 70 7 (yD R)]))
 ):aI Tryz.prog jY (VY R T π υ fr kd q0 q1 q2 b ls) 87 [aj 0 0,.int γ fr,.agg [.int γ kd,aC (.sl 1 [[dn γ q0],[dn γ q1],[dn γ q2]]),aC (.sl 1 (ints ξ b)),aC (.sl 1 (ct ls))]] [cR R (af T) (ο false) (δ π) (δ υ) (.aa none) (.sl 1 0 (nO R)) (.sl 2 0 (nD R)),rO R,rD R] (gJ 13 eW K):=by apply Eq.mp (a:=aq);kernel_rfl
theorem aiG (R:ι) (T:ML) (I Q:ML) (u:Option (List D)) (fr kd q0 q1 q2:Int) (b:List Int) (ls:List (List Int)) (K:V->KB->Prop) (aq:
 let cI:=(VS R T I Q u fr kd q0 q1 q2 b ls);let b_:=(VQ R T I Q u fr kd q0 q1 q2 b ls);let bW:=((↑(ct ls).length:Int) != 1)=true;let bQ:=((↑(ct ls).length:Int) != 1)=false;let bp:=[[dn γ q0],[dn γ q1],[dn γ q2]];let aU:=K (au []) [cR R (af T) (ο true) (aY 1) (aY 2) (aR u) (ζ 3 0 (nO R)) (ζ 4 0 (nD R)),an I,an Q,rO R,rD R];let aJ:=[0,2,3,7,8,9,10,11,12,13,14,15,16,17,18,19,21];let av:=aB [ε γ kd,aC (χ 1 bp),aC (χ 1 (ints ξ b)),aC (χ 1 (ct ls))];let ω:=K (au []) [cR R (af T) (ο true) (aY 1) (aY 2) (aR u) (ζ 3 0 (nO R+1)) (ζ 4 0 (nD R)),an I,an Q,ai 107 5 (ae bV R.out++[[dn γ fr,η (ν γ 14),χ 1 [[dn γ R.id],[dn γ R.ep],[dn γ R.nu]],χ 1 [],χ 1 []]]),rD R];aA 1/\
 ∃(y1:List D),bp[1]? =some y1/\
 ∃(y2:Int),y1[0]? =some (η (ν γ y2))/\
 aA 2/\
 ∃(y3:List D),bp[2]? =some y3/\
 ∃(y4:Int),let aN:=At (VN R T I Q u fr kd q0 q1 q2 b ls) ([aj 0 0,ε γ fr,aj 5 0,ε γ y2,ε γ y4],[cR R (af T) (ο true) (aY 1) (aY 2) (aR u) (ζ 3 0 (nO R)) (ζ 4 0 (nD R)),an I,an Q,rO R,rD R,av]);y3[0]? =some (η (ν γ y4))/\
 ((decide (y2<R.ep)=true->
 ∀(y5:Nat->
 Value),nO R=(nO R)/\
 bS (nO R)/\
 bz y5 aJ/\
 ω)/\
 (decide (y2<R.ep)=false->
 ((y2 == R.ep)=true->
 (decide (y4<R.nu)=true->
 ∀(y6:Nat->
 Value),nO R=(nO R)/\
 bS (nO R)/\
 bz y6 aJ/\
 ω)/\
 (decide (y4<R.nu)=false->
 (true=true->
 ∀(y7:Nat->
 Value),nO R=(nO R)/\
 bS (nO R)/\
 bz y7 aJ/\
 ω)/\
 (true=false->
 (bW->
 ∀(y8:Nat->
 Value),nO R=(nO R)/\
 bS (nO R)/\
 bz y8 aJ/\
 ω)/\
 (bQ->
 aN))))/\
 ((y2 == R.ep)=false->
 (bW->
 ∀(y9:Nat->
 Value),nO R=(nO R)/\
 bS (nO R)/\
 bz y9 aJ/\
 ω)/\
 (bQ->
 aN))))/\
 ∀(cD:{cU:Unit // ¬kj R q1 q2 ls}),(∃(cE:List Int),ints ξ b=ints ξ cE/\
 (∀(cP:Int),dW cP cE->
 0<=cP/\
 cP<256)/\
 cE.length<=900000/\
 (∀(dH:List Int),fM cE=some dH->
 dH.length=128->
 At b_ ([aj 0 0,ε γ fr,aj 5 0,ε γ q1,ε γ q2,aj 6 0,ο true],[cR R (af T) (ο true) (aY 1) (aY 2) (aR u) (ζ 3 0 (nO R)) (ζ 4 0 (nD R)),an I,an Q,rO R,rD R,av,aB [bF 128 (aT ξ dH)]]))/\
 ((∀(cZ:List Int),fM cE=some cZ->
 cZ.length=128->
 False)->
 At b_ ([aj 0 0,ε γ fr,aj 5 0,ε γ q1,ε γ q2,aj 6 0,ο false],[cR R (af T) (ο true) (aY 1) (aY 2) (aR u) (ζ 3 0 (nO R)) (ζ 4 0 (nD R)),an I,an Q,rO R,rD R,av,aB [bF 128 (dv 128 (η (ν ξ 0)))]])))/\
 ∀(dr:{fZ:Bool×List Int // ¬kj R q1 q2 ls/\
 Am b fZ.fst fZ.snd}),let bD:=aB [bF 128 (aT ξ dr.val.snd)];(aA 0/\
 ∃(fx:List D),(ct ls)[0]? =some fx/\
 ∃(fO:List (List D)),fx[0]? =some (χ 1 fO)/\
 ∃(fU:List Int),fO=ints ξ fU/\
 (∀(fh:Int),dW fh fU->
 0<=fh/\
 fh<256)/\
 fU.length<=140737488355328/\
 (((∃(fP:List L3),fl fP/\
 fU=be fP)->
 False)->
 At cI ([aj 0 0,ε γ fr,ε γ q1,ε γ q2,aj 5 0,ο dr.val.fst,aj 6 0,ο false],[cR R (af T) (ο true) (aY 1) (aY 2) (aR u) (ζ 3 0 (nO R)) (ζ 4 0 (nD R)),an I,an Q,rO R,rD R,bD,aB [af []]]))/\
 ∀(iZ:List L3) (gx:ML),bL gx iZ->
 fU=be iZ->
 At cI ([aj 0 0,ε γ fr,ε γ q1,ε γ q2,aj 5 0,ο dr.val.fst,aj 6 0,ο true],[cR R (af T) (ο true) (aY 1) (aY 2) (aR u) (ζ 3 0 (nO R)) (ζ 4 0 (nD R)),an I,an Q,rO R,rD R,bD,aB [af gx]]))/\
 ∀(fj:{eZ:Bool×Bool×List Int×List L3×ML // ¬kj R q1 q2 ls/\
 Al b (ls.getD 0 []) eZ.fst eZ.snd.fst eZ.snd.snd.fst eZ.snd.snd.snd.fst eZ.snd.snd.snd.snd}),let bM:=(bF 128 (aT ξ fj.val.snd.snd.fst));((!fj.val.fst)=true->
 aU)/\
 ((!fj.val.fst)=false->
 ((!fj.val.snd.fst)=true->
 aU)/\
 ((!fj.val.snd.fst)=false->
 ∀(eM:Nat->
 Value),nD R=(nD R)/\
 bS (nD R)/\
 ∃(i_:Option Op),let θ:=At (VU R T I Q u fr kd q0 q1 q2 b ls fj.val.snd.snd.fst fj.val.snd.snd.snd.snd) ([aj 0 0,ε γ fr,ε γ q2],[cG R (ο R.lo) (ε γ q1) (ε γ q2) bM (ο true) (af fj.val.snd.snd.snd.snd) (ο false) (aY 1) (aY 2) (aR none) (ζ 3 0 (nO R)) (ζ 5 0 (ae dA R.done++yl i_).length),an I,an Q,rO R,aw,ai 70 7 (ae dA R.done++yl i_)]);u=ng bo i_/\
 bz eM [0,1,2,3,4,5,7,8,9,10,11,12,14,15,17,18,19,20]/\
 ((θ/\
 θ/\
 θ/\
 θ)/\
 (θ/\
 θ/\
 θ)/\
 (θ/\
 θ/\
 θ)/\
 (θ/\
 θ)/\
 θ/\
 θ)/\
 ∀(kn:Unit),1<=1/\
 ∀(iC:Nat->
 Value),nO R=(nO R)/\
 bS (nO R)/\
 bS 1/\
 bz iC [0,2,3,5,7,8,9,10,11,12,13,14,15,16,17,18,19,21]/\
 ∀(fD:Nat->
 Value),K (au []) [cG R (ο R.lo) (ε γ q1) (ε γ q2) bM (ο true) (af fj.val.snd.snd.snd.snd) (ο false) (δ (fD 14)) (δ (fD 15)) (aR none) (ζ 1 0 (nO R+1)) (ζ 2 0 (yD R).length),ai 107 5 (ae bV R.out++[[dn γ fr,η (ν γ 11),χ 1 [[dn γ R.id],[dn γ q1],[η (ν γ q2)]],χ 1 [],χ 1 []]]),ai 70 7 (yD R)]))
 ):aI Tryz.prog jY (VX R T I Q u fr kd q0 q1 q2 b ls) 87 [aj 0 0,.int γ fr,.agg [.int γ kd,aC (.sl 1 [[dn γ q0],[dn γ q1],[dn γ q2]]),aC (.sl 1 (ints ξ b)),aC (.sl 1 (ct ls))]] [cR R (af T) (ο true) (.mp 1) (.mp 2) (.aa u) (.sl 3 0 (nO R)) (.sl 4 0 (nD R)),an I,an Q,rO R,rD R] (gJ 13 eW K):=by apply Eq.mp (a:=aq);kernel_rfl
theorem V8 {x y:List L3} (hx:fl x) (hy:fl y) (h:be x=be y):x=y:=by
 obtain⟨h1,h2⟩:=CH hx
 obtain⟨h3,h4⟩:=CH hy
 have hlen:x.length=y.length:=by rw[<- h1,h,h3]
 have e1:=h2 x.length (ar _)
 have e2:=h4 y.length (ar _)
 rw[cQ]at e1 e2
 rw[h,hlen,e2]at e1
 exact(congrArg (·.2) e1).symm
theorem Kc:fl []:=⟨List.Pairwise.nil,fun p hp=>(by cases hp),by simp⟩
theorem V_ {M:ML} {x:List L3} (h:bL M x):fl x:=⟨h.inc,h.rg,h.len⟩
theorem R8 {b:List Int} (h:¬ ∃ x,fl x/\b=be x):loadT b=none:=by unfold loadT;rw[dif_neg h]
theorem CR {b:List Int} {x:List L3} (hx:fl x) (h:b=be x):loadT b=some x:=by
 have hex:∃ x,fl x/\b=be x:=⟨x,hx,h⟩
 have hc:=hex.choose_spec
 have e:hex.choose=x:=V8 hc.1 hx (hc.2.symm.trans h)
 unfold loadT
 rw[dif_pos hex,e]
theorem V2 {R:ι} {fr kd q0 q1 q2:Int} {b:List Int} {ls:List (List Int)} (h:kj R q1 q2 ls):iS R fr ⟨kd,[q0,q1,q2],b,ls⟩=ou R fr:=by
 unfold iS;exact if_pos h
theorem V1 {R:ι} {fr kd q0 q1 q2:Int} {b:List Int} {ls:List (List Int)} (h:¬ kj R q1 q2 ls) (h2:jz b=none∨loadT (ls.getD 0 [])=none):iS R fr ⟨kd,[q0,q1,q2],b,ls⟩=R:=by
 unfold iS
 refine(if_neg h).trans ?_
 rcases h2 with h2 | h2
 ·simp only[h2]
 ·simp only[h2]
  cases jz b<;>rfl
theorem V3 {R:ι} {fr kd q0 q1 q2:Int} {b c:List Int} {t:List L3} {ls:List (List Int)} (h:¬ kj R q1 q2 ls) (hc:jz b=some c) (ht:loadT (ls.getD 0 [])=some t):
  iS R fr ⟨kd,[q0,q1,q2],b,ls⟩={R with ld:=none,done:=(gy R).done,ep:=q1,nu:=q2,c:=c,t:=t,ch:=true,out:=R.out++[⟨fr,⟨11,[R.id,q1,q2],[],[]⟩⟩] }:=by
 unfold iS
 refine(if_neg h).trans ?_
 simp only[hc,ht]
 rfl
theorem aca:dD Tryz.prog Ju:=fun f k h=>by
 unfold Ju at h
 split at h
 ·cases h;exact fJ ada _
 ·cases h;exact J6
 ·cases h;exact Tz
 ·cases h;exact fJ TP _
 ·cases h;exact Ty
 ·cases h;exact fJ J7 _
 ·cases h;exact fJ Tt _
 ·cases h;exact fJ Tv _
 ·cases h;exact fJ Ka _
 ·cases h;exact fJ TH _
 ·cases h
theorem qk:cx Tryz.prog jY:=dP mixed aca aG 10
theorem R5 {b:List Int} (h:∀ m,fM b=some m->m.length=128->False):jz b=none:=by
 unfold jz
 cases ho:fM b with
 |none=>rfl
 |some m=>simp only;rw[if_neg (h m ho)]
theorem agv (R:ι) (T:ML) (π υ:Value) (fr kd q0 q1 q2:Int) (b:List Int) (ls:List (List Int)) (hT:bL T R.t) (hl:R.ld=none) (hR:dF R) (hb:bq b) (cz:b.length<=900000) (hls:∀ y∈ls,bq y/\y.length<=140737488355328) (eN:∀ π υ,aF R [cR R (af T) (ο false) (δ π) (δ υ) (.aa none) (.sl 1 0 (nO R)) (.sl 2 0 (nD R)),rO R,rD R]) (K:V->KB->Prop) (hK:∀ kb',aF (iS R fr ⟨kd,[q0,q1,q2],b,ls⟩) kb'->K (.φ []) kb'):aI Tryz.prog jY (VY R T π υ fr kd q0 q1 q2 b ls) 87 [aj 0 0,.int γ fr,.agg [.int γ kd,aC (.sl 1 [[dn γ q0],[dn γ q1],[dn γ q2]]),aC (.sl 1 (ints ξ b)),aC (.sl 1 (ct ls))]] [cR R (af T) (ο false) (δ π) (δ υ) (.aa none) (.sl 1 0 (nO R)) (.sl 2 0 (nD R)),rO R,rD R] (gJ 13 eW K):=by
 have fin:∀{R':ι} {kb':KB},iS R fr ⟨kd,[q0,q1,q2],b,ls⟩=R'->aF R' kb'->K (.φ []) kb':=fun{R' kb'} h1 h2=>by
  have:=hK kb'
  rw[h1]at this
  exact this h2
 have fK:nO R<=1000000:=by show(ae bV R.out).length<=_;rw[bT];have:=hR.ol;omega
 have hdl:nD R<=1000000:=by show(ae dA R.done).length<=_;rw[bT];have:=hR.dl;omega
 have nA:ef R=false:=by simp [ef,hl]
 have oS:none=(ci R).map bo:=by simp [ci,hl]
 have nk:kj R q1 q2 ls->∀ f:Nat->Value,K (.φ []) [cR R (af T) (ο false) (δ (f 14)) (δ (f 15)) (.aa none) (.sl 1 0 (nO R+1)) (.sl 2 0 (nD R)),ai 107 5 (ae bV R.out++[gg fr 14 R.id R.ep [[dn γ R.nu]] [] []]),rD R]:=fun h f=>fin (V2 h) (by
  unfold aF ou iz
  simp only[hl]
  refine⟨f 14,f 15,T,hT,?_⟩
  simp [cR,bV,jA,gg,dn,ints,oW])
 have sm:¬ kj R q1 q2 ls->(jz b=none∨loadT (ls.getD 0 [])=none)->∀ f:Nat->Value,K (.φ []) [cR R (af T) (ο false) (δ (f 14)) (δ (f 15)) (.aa none) (.sl 1 0 (nO R)) (.sl 2 0 (nD R)),rO R,rD R]:=fun h h2 f=>fin (V1 h h2) (eN _ _)
 have Kd:∀ cc y M,bL M y->¬ kj R q1 q2 ls->jz b=some cc->loadT (ls.getD 0 [])=some y->∀ f:Nat->Value,K (.φ []) [cG R (ο R.lo) (.int γ q1) (.int γ q2) (bF 128 (aT ξ cc)) (ο true) (af M) (ο false) (δ (f 14)) (δ (f 15)) (.aa none) (.sl 1 0 (nO R+1)) (.sl 2 0 (yD R).length),ai 107 5 (ae bV R.out++[gg fr 11 R.id q1 [[dn γ q2]] [] []]),ai 70 7 (yD R)]:=fun cc y M hM h hc ht2 f=>fin (V3 h hc ht2) (by
  unfold aF
  refine⟨f 14,f 15,M,hM,?_⟩
  simp only[nD,rD,tU]
  simp [cR,cG,bV,jA,gg,dn,ints,oW])
 refine aiH R T π υ fr kd q0 q1 q2 b ls K ⟨(by decide:(0:Int)<=1),_,rfl,q1,rfl,(by decide:(0:Int)<=2),_,rfl,q2,rfl,⟨fun e1=>fun f=>⟨rfl,⟨fK⟩,⟨by simp [bU]⟩,fun f=>nk (.inl (show q1<R.ep by simpa using e1)) f⟩,fun e1=>⟨fun e2=>⟨fun e3=>fun f=>⟨rfl,⟨fK⟩,⟨by simp [bU]⟩,fun f=>nk (.inr (.inl ⟨show q1=R.ep by simpa using e2,.inl (show q2<R.nu by simpa using e3)⟩)) f⟩,fun e3=>⟨fun f=>(by cases f),fun _=>⟨fun e4=>fun f=>⟨rfl,⟨fK⟩,⟨by simp [bU]⟩,fun f=>nk (.inr (.inr (by have:=e4;simp [ct]at this;omega))) f⟩,fun e4=>At.mk' ⟨(),fun h=>h.elim (fun h=>absurd h (show ¬ q1<R.ep by simpa using e1)) (fun h=>h.elim (fun h=>h.2.elim (fun h=>absurd h (show ¬ q2<R.nu by simpa using e3)) (fun h=>absurd h (by rw[nA];decide))) (fun h=>h (show ls.length=1 by have:=e4;simp [ct]at this;omega)))⟩ rfl⟩⟩⟩,fun e2=>⟨fun e4=>fun f=>⟨rfl,⟨fK⟩,⟨by simp [bU]⟩,fun f=>nk (.inr (.inr (by have:=e4;simp [ct]at this;omega))) f⟩,fun e4=>At.mk' ⟨(),fun h=>h.elim (fun h=>absurd h (show ¬ q1<R.ep by simpa using e1)) (fun h=>h.elim (fun h=>absurd h.1 (show ¬ q1=R.ep by simpa using e2)) (fun h=>h (show ls.length=1 by have:=e4;simp [ct]at this;omega)))⟩ rfl⟩⟩⟩,fun i4=>⟨⟨b,rfl,hb,cz,fun m h1 h2=>At.mk' ⟨(true,m),i4.2,fun _=>by simp [jz,h1,h2],fun f=>(by cases f)⟩ rfl,fun h=>At.mk' ⟨(false,jT),i4.2,fun f=>(by cases f),fun _=>R5 h⟩ rfl⟩,fun i5=>⟨?_,fun a=>⟨fun e=>fun f=>sm a.2.1 (.inl (a.2.2.c0 (by simpa using e))) f,fun e=>⟨fun e2=>fun f=>sm a.2.1 (.inr (a.2.2.t0 (by simpa using e2))) f,fun e2 f=>⟨rfl,⟨hdl⟩,ci R,oS,⟨by simp [bU]⟩,?_,fun _=>⟨ar _,fun f=>⟨rfl,⟨fK⟩,⟨by decide⟩,⟨by simp [bU]⟩,fun f=>Kd _ _ _ (a.2.2.t1 (by simpa using e2)).2 a.2.1 (a.2.2.c1 (by simpa using e)) (a.2.2.t1 (by simpa using e2)).1 f⟩⟩⟩⟩⟩⟩⟩⟩
 ·obtain⟨y,rfl⟩:∃ y,ls=[y]:=by
   have:ls.length=1:=Decidable.byContradiction fun h=>i5.2.1 (.inr (.inr h))
   match ls,this with
   | [y],_=>exact⟨y,rfl⟩
  obtain⟨hy,j7⟩:=hls y (by simp)
  exact⟨dE _,_,rfl,_,rfl,y,rfl,hy,by omega,fun h=>At.mk' ⟨(i5.1.1,false,i5.1.2,[],[]),i5.2.1,i5.2.2.c1,i5.2.2.c0,fun f=>(by cases f),fun _=>R8 h⟩ rfl,fun x M hM h=>At.mk' ⟨(i5.1.1,true,i5.1.2,x,M),i5.2.1,i5.2.2.c1,i5.2.2.c0,fun _=>⟨CR (V_ hM) h,hM⟩,fun f=>(by cases f)⟩ rfl⟩
 ·repeat' first
   |exact At.mk' () rfl
   |rfl
   |refine And.intro ?_ ?_
theorem agu (R:ι) (T:ML) (I Q:ML) (L:b9) (fr kd q0 q1 q2:Int) (b:List Int) (ls:List (List Int)) (hT:bL T R.t) (hl:R.ld=some L) (hI:MB I L.ins) (hQ:MB Q L.cy) (hR:dF R) (hb:bq b) (cz:b.length<=900000) (hls:∀ y∈ls,bq y/\y.length<=140737488355328) (hkb:aF R [cR R (af T) (ο true) (.mp 1) (.mp 2) (.aa (L.cur.map bo)) (.sl 3 0 (nO R)) (.sl 4 0 (nD R)),an I,an Q,rO R,rD R]) (K:V->KB->Prop) (hK:∀ kb',aF (iS R fr ⟨kd,[q0,q1,q2],b,ls⟩) kb'->K (.φ []) kb'):aI Tryz.prog jY (VX R T I Q (L.cur.map bo) fr kd q0 q1 q2 b ls) 87 [aj 0 0,.int γ fr,.agg [.int γ kd,aC (.sl 1 [[dn γ q0],[dn γ q1],[dn γ q2]]),aC (.sl 1 (ints ξ b)),aC (.sl 1 (ct ls))]] [cR R (af T) (ο true) (.mp 1) (.mp 2) (.aa (L.cur.map bo)) (.sl 3 0 (nO R)) (.sl 4 0 (nD R)),an I,an Q,rO R,rD R] (gJ 13 eW K):=by
 have fin:∀{R':ι} {kb':KB},iS R fr ⟨kd,[q0,q1,q2],b,ls⟩=R'->aF R' kb'->K (.φ []) kb':=fun{R' kb'} h1 h2=>by
  have:=hK kb'
  rw[h1]at this
  exact this h2
 have fK:nO R<=1000000:=by show(ae bV R.out).length<=_;rw[bT];have:=hR.ol;omega
 have hdl:nD R<=1000000:=by show(ae dA R.done).length<=_;rw[bT];have:=hR.dl;omega
 have nA:ef R=true:=by simp [ef,hl]
 have oS:L.cur.map bo=(ci R).map bo:=by simp [ci,hl]
 have nk:kj R q1 q2 ls->K (.φ []) [cR R (af T) (ο true) (.mp 1) (.mp 2) (.aa (L.cur.map bo)) (.sl 3 0 (nO R+1)) (.sl 4 0 (nD R)),an I,an Q,ai 107 5 (ae bV R.out++[gg fr 14 R.id R.ep [[dn γ R.nu]] [] []]),rD R]:=fun h=>fin (V2 h) (by
  unfold aF ou iz
  simp only[hl]
  refine⟨I,Q,T,hI,hQ,hT,?_⟩
  simp [cR,bV,jA,gg,dn,ints,oW])
 have sm:¬ kj R q1 q2 ls->(jz b=none∨loadT (ls.getD 0 [])=none)->K (.φ []) [cR R (af T) (ο true) (.mp 1) (.mp 2) (.aa (L.cur.map bo)) (.sl 3 0 (nO R)) (.sl 4 0 (nD R)),an I,an Q,rO R,rD R]:=fun h h2=>fin (V1 h h2) hkb
 have Kd:∀ cc y M,bL M y->¬ kj R q1 q2 ls->jz b=some cc->loadT (ls.getD 0 [])=some y->∀ f:Nat->Value,K (.φ []) [cG R (ο R.lo) (.int γ q1) (.int γ q2) (bF 128 (aT ξ cc)) (ο true) (af M) (ο false) (δ (f 14)) (δ (f 15)) (.aa none) (.sl 1 0 (nO R+1)) (.sl 2 0 (yD R).length),ai 107 5 (ae bV R.out++[gg fr 11 R.id q1 [[dn γ q2]] [] []]),ai 70 7 (yD R)]:=fun cc y M hM h hc ht2 f=>fin (V3 h hc ht2) (by
  unfold aF
  refine⟨f 14,f 15,M,hM,?_⟩
  simp only[nD,rD,tU]
  simp [cR,cG,bV,jA,gg,dn,ints,oW])
 refine aiG R T I Q (L.cur.map bo) fr kd q0 q1 q2 b ls K ⟨(by decide:(0:Int)<=1),_,rfl,q1,rfl,(by decide:(0:Int)<=2),_,rfl,q2,rfl,⟨fun e1=>fun f=>⟨rfl,⟨fK⟩,⟨by simp [bU]⟩,nk (.inl (show q1<R.ep by simpa using e1))⟩,fun e1=>⟨fun e2=>⟨fun e3=>fun f=>⟨rfl,⟨fK⟩,⟨by simp [bU]⟩,nk (.inr (.inl ⟨show q1=R.ep by simpa using e2,.inl (show q2<R.nu by simpa using e3)⟩))⟩,fun e3=>⟨fun _=>fun f=>⟨rfl,⟨fK⟩,⟨by simp [bU]⟩,nk (.inr (.inl ⟨show q1=R.ep by simpa using e2,.inr nA⟩))⟩,fun f=>(by cases f)⟩⟩,fun e2=>⟨fun e4=>fun f=>⟨rfl,⟨fK⟩,⟨by simp [bU]⟩,nk (.inr (.inr (by have:=e4;simp [ct]at this;omega)))⟩,fun e4=>At.mk' ⟨(),fun h=>h.elim (fun h=>absurd h (show ¬ q1<R.ep by simpa using e1)) (fun h=>h.elim (fun h=>absurd h.1 (show ¬ q1=R.ep by simpa using e2)) (fun h=>h (show ls.length=1 by have:=e4;simp [ct]at this;omega)))⟩ rfl⟩⟩⟩,fun i4=>⟨⟨b,rfl,hb,cz,fun m h1 h2=>At.mk' ⟨(true,m),i4.2,fun _=>by simp [jz,h1,h2],fun f=>(by cases f)⟩ rfl,fun h=>At.mk' ⟨(false,jT),i4.2,fun f=>(by cases f),fun _=>R5 h⟩ rfl⟩,fun i5=>⟨?_,fun a=>⟨fun e=>sm a.2.1 (.inl (a.2.2.c0 (by simpa using e))),fun e=>⟨fun e2=>sm a.2.1 (.inr (a.2.2.t0 (by simpa using e2))),fun e2 f=>⟨rfl,⟨hdl⟩,ci R,oS,⟨by simp [bU]⟩,?_,fun _=>⟨ar _,fun f=>⟨rfl,⟨fK⟩,⟨by decide⟩,⟨by simp [bU]⟩,fun f=>Kd _ _ _ (a.2.2.t1 (by simpa using e2)).2 a.2.1 (a.2.2.c1 (by simpa using e)) (a.2.2.t1 (by simpa using e2)).1 f⟩⟩⟩⟩⟩⟩⟩⟩
 ·obtain⟨y,rfl⟩:∃ y,ls=[y]:=by
   have:ls.length=1:=Decidable.byContradiction fun h=>i5.2.1 (.inr (.inr h))
   match ls,this with
   | [y],_=>exact⟨y,rfl⟩
  obtain⟨hy,j7⟩:=hls y (by simp)
  exact⟨dE _,_,rfl,_,rfl,y,rfl,hy,by omega,fun h=>At.mk' ⟨(i5.1.1,false,i5.1.2,[],[]),i5.2.1,i5.2.2.c1,i5.2.2.c0,fun f=>(by cases f),fun _=>R8 h⟩ rfl,fun x M hM h=>At.mk' ⟨(i5.1.1,true,i5.1.2,x,M),i5.2.1,i5.2.2.c1,i5.2.2.c0,fun _=>⟨CR (V_ hM) h,hM⟩,fun f=>(by cases f)⟩ rfl⟩
 ·repeat' first
   |exact At.mk' () rfl
   |rfl
   |refine And.intro ?_ ?_
def XV:aE:=fun args kb K=>∃ R fr kd q0 q1 q2 b ls,args=[aj 0 0,.int γ fr,.agg [.int γ kd,aC (.sl 1 [[dn γ q0],[dn γ q1],[dn γ q2]]),aC (.sl 1 (ints ξ b)),aC (.sl 1 (ct ls))]]/\aF R kb/\dF R/\bq b/\b.length<=900000/\(∀ y∈ls,bq y/\y.length<=140737488355328)/\∀ kb',aF (iS R fr ⟨kd,[q0,q1,q2],b,ls⟩) kb'->K (.φ []) kb'
theorem adR:gB Tryz.prog 87 XV:=uQ mixed 13 eW (fun args kb K h=>by
 obtain⟨R,fr,kd,q0,q1,q2,b,ls,rfl,hkb,hR,hb,cz,hls,hK⟩:=h
 have jh:=hkb
 unfold aF at hkb
 split at hkb
 ·rename_i hl
  obtain⟨π,υ,T,hT,rfl⟩:=hkb
  exact⟨_,_,qk,agv R T π υ fr kd q0 q1 q2 b ls hT hl hR hb cz hls (fun a b=>by unfold aF;simp only[hl];exact⟨a,b,T,hT,rfl⟩) K hK⟩
 ·rename_i L hl
  obtain⟨I,Q,T,hI,hQ,hT,rfl⟩:=hkb
  exact⟨_,_,qk,agu R T I Q L fr kd q0 q1 q2 b ls hT hl hI hQ hR hb cz hls jh K hK⟩)
theorem aiF (R:ι) (T:ML) (π υ:Value) (fr kd q0 q1 q2:Int) (b:List Int) (ls:List (List Int)) (K:V->KB->Prop) (aq:
 let θ:=[[dn γ q0],[dn γ q1],[dn γ q2]];(true=true->
 ∀(y1:Nat->
 Value),K (au []) [cR R (af T) (ο false) (δ (y1 14)) (δ (y1 15)) (aR none) (ζ 1 0 (nO R)) (ζ 2 0 (nD R)),rO R,rD R])/\
 (true=false->
 aA 1/\
 ∃(y2:List D),θ[1]? =some y2/\
 ∃(y3:Int),y2[0]? =some (η (ν γ y3))/\
 ((y3 != R.ep)=true->
 ∀(y4:Nat->
 Value),K (au []) [cR R (af T) (ο false) (δ (y4 14)) (δ (y4 15)) (aR none) (ζ 1 0 (nO R)) (ζ 2 0 (nD R)),rO R,rD R])/\
 ((y3 != R.ep)=false->
 aA 2/\
 ∃(y5:List D),θ[2]? =some y5/\
 ∃(y6:Int),y5[0]? =some (η (ν γ y6))/\
 ((y6 != R.nu)=true->
 ∀(y7:Nat->
 Value),K (au []) [cR R (af T) (ο false) (δ (y7 14)) (δ (y7 15)) (aR none) (ζ 1 0 (nO R)) (ζ 2 0 (nD R)),rO R,rD R])/\
 ((y6 != R.nu)=false->
 False)))
 ):aI Tryz.prog jY (fun _=>none) 88 [aj 0 0,.int γ fr,.agg [.int γ kd,aC (.sl 1 [[dn γ q0],[dn γ q1],[dn γ q2]]),aC (.sl 1 (ints ξ b)),aC (.sl 1 (ct ls))]] [cR R (af T) (ο false) (δ π) (δ υ) (.aa none) (.sl 1 0 (nO R)) (.sl 2 0 (nD R)),rO R,rD R] (gJ 13 eW K):=by apply Eq.mp (a:=aq);kernel_rfl
theorem aiE (R:ι) (T:ML) (I Q:ML) (u:Option (List D)) (fr kd q0 q1 q2:Int) (b:List Int) (ls:List (List Int)) (K:V->KB->Prop) (aq:
 let aN:=[1,2,3,4,5,7,8,9,10,13,14,17,18,19,20];let av:=[[dn γ q0],[dn γ q1],[dn γ q2]];let ω:=[η (mG true)];let θ:=K (au []) [cR R (af T) (ο true) (aY 1) (aY 2) (aR u) (ζ 3 0 (nO R)) (ζ 4 0 (nD R)),an I,an Q,rO R,rD R];(false=true->
 θ)/\
 (false=false->
 aA 1/\
 ∃(y1:List D),av[1]? =some y1/\
 ∃(y2:Int),y1[0]? =some (η (ν γ y2))/\
 ((y2 != R.ep)=true->
 θ)/\
 ((y2 != R.ep)=false->
 aA 2/\
 ∃(y3:List D),av[2]? =some y3/\
 ∃(y4:Int),y3[0]? =some (η (ν γ y4))/\
 ((y4 != R.nu)=true->
 θ)/\
 ((y4 != R.nu)=false->
 ((!u.isNone)=true->
 ∀(y5:Nat->
 Value),nD R=(nD R)/\
 bS (nD R)/\
 ∃(y6:List Int),∃(y7:List Int),∃(y8:List Int),∃(y9:Op),iU (aT ξ R.c) y8/\
 ints γ R.v.mem=ints γ y6/\
 ints γ R.v.aH=ints γ y7/\
 dK (y6.length+y7.length)/\
 lL (bI Q [fr] ω)/\
 u=some (bo y9)/\
 lZ y9.bk/\
 (allI R.me y6 y7 (bI Q [fr] ω)=false->
 bz y5 aN/\
 K (au []) [cR R (af T) (ο true) (aY 1) (aY 2) (aR u) (ζ 3 0 (nO R)) (ζ 4 0 (nD R)),an (bI I [fr] ω),an (bI Q [fr] ω),rO R,rD R])/\
 (allI R.me y6 y7 (bI Q [fr] ω)=true->
 bz y5 aN/\
 K (au []) [cS R (ε γ R.nu) (bF 128 (aT ξ y8)) (ο R.ch) (af T) (ο true) (aY 1) (aY 2) (aR none) (ζ 3 0 (nO R)) (ζ 4 0 (nD R+1)),an (bI I [fr] ω),an (bI Q [fr] ω),rO R,ai 70 7 (ae dA R.done++[(bo y9++[η (ν γ 0),χ 1 (qx y8 y9.kd y9.bk)])])]))/\
 ((!u.isNone)=false->
 K (au []) [cR R (af T) (ο true) (aY 1) (aY 2) (aR u) (ζ 3 0 (nO R)) (ζ 4 0 (nD R)),an (bI I [fr] ω),an Q,rO R,rD R]))))
 ):aI Tryz.prog jY (fun _=>none) 88 [aj 0 0,.int γ fr,.agg [.int γ kd,aC (.sl 1 [[dn γ q0],[dn γ q1],[dn γ q2]]),aC (.sl 1 (ints ξ b)),aC (.sl 1 (ct ls))]] [cR R (af T) (ο true) (.mp 1) (.mp 2) (.aa u) (.sl 3 0 (nO R)) (.sl 4 0 (nD R)),an I,an Q,rO R,rD R] (gJ 13 eW K):=by apply Eq.mp (a:=aq);kernel_rfl
theorem aib (R:ι) (T:ML) (π υ:Value) (fr kd q0 q1 q2:Int) (b:List Int) (ls:List (List Int)) (K:V->KB->Prop) (aq:
 let θ:=[[dn γ q0],[dn γ q1],[dn γ q2]];(false=true->
 aA 1/\
 ∃(y1:List D),θ[1]? =some y1/\
 ∃(y2:Int),y1[0]? =some (η (ν γ y2))/\
 ((y2 == R.ep)=true->
 aA 2/\
 ∃(y3:List D),θ[2]? =some y3/\
 ∃(y4:Int),y3[0]? =some (η (ν γ y4))/\
 ((y4 == R.nu)=true->
 (false=true->
 False)/\
 (false=false->
 ∀(y5:Nat->
 Value),K (au []) [cR R (af T) (ο false) (δ (y5 14)) (δ (y5 15)) (aR none) (ζ 1 0 (nO R)) (ζ 2 0 (nD R)),rO R,rD R]))/\
 ((y4 == R.nu)=false->
 ∀(y6:Nat->
 Value),K (au []) [cR R (af T) (ο false) (δ (y6 14)) (δ (y6 15)) (aR none) (ζ 1 0 (nO R)) (ζ 2 0 (nD R)),rO R,rD R]))/\
 ((y2 == R.ep)=false->
 ∀(y7:Nat->
 Value),K (au []) [cR R (af T) (ο false) (δ (y7 14)) (δ (y7 15)) (aR none) (ζ 1 0 (nO R)) (ζ 2 0 (nD R)),rO R,rD R]))/\
 (false=false->
 ∀(y8:Nat->
 Value),K (au []) [cR R (af T) (ο false) (δ (y8 14)) (δ (y8 15)) (aR none) (ζ 1 0 (nO R)) (ζ 2 0 (nD R)),rO R,rD R])
 ):aI Tryz.prog jY (fun _=>none) 90 [aj 0 0,.int γ fr,.agg [.int γ kd,aC (.sl 1 [[dn γ q0],[dn γ q1],[dn γ q2]]),aC (.sl 1 (ints ξ b)),aC (.sl 1 (ct ls))]] [cR R (af T) (ο false) (δ π) (δ υ) (.aa none) (.sl 1 0 (nO R)) (.sl 2 0 (nD R)),rO R,rD R] (gJ 13 eW K):=by apply Eq.mp (a:=aq);kernel_rfl
theorem aia (R:ι) (T:ML) (I Q:ML) (u:Option (List D)) (fr kd q0 q1 q2:Int) (b:List Int) (ls:List (List Int)) (K:V->KB->Prop) (aq:
 let aN:=[1,2,3,4,5,7,8,9,10,13,14,17,18,19,20];let av:=[[dn γ q0],[dn γ q1],[dn γ q2]];let ω:=(bI Q [fr] [η (mG true)]);let θ:=K (au []) [cR R (af T) (ο true) (aY 1) (aY 2) (aR u) (ζ 3 0 (nO R)) (ζ 4 0 (nD R)),an I,an Q,rO R,rD R];(true=true->
 aA 1/\
 ∃(y1:List D),av[1]? =some y1/\
 ∃(y2:Int),y1[0]? =some (η (ν γ y2))/\
 ((y2 == R.ep)=true->
 aA 2/\
 ∃(y3:List D),av[2]? =some y3/\
 ∃(y4:Int),y3[0]? =some (η (ν γ y4))/\
 ((y4 == R.nu)=true->
 ((!u.isNone)=true->
 ∀(y5:Nat->
 Value),nD R=(nD R)/\
 bS (nD R)/\
 ∃(y6:List Int),∃(y7:List Int),∃(y8:List Int),∃(y9:Op),iU (aT ξ R.c) y8/\
 ints γ R.v.mem=ints γ y6/\
 ints γ R.v.aH=ints γ y7/\
 dK (y6.length+y7.length)/\
 lL ω/\
 u=some (bo y9)/\
 lZ y9.bk/\
 (allI R.me y6 y7 ω=false->
 bz y5 aN/\
 K (au []) [cR R (af T) (ο true) (aY 1) (aY 2) (aR u) (ζ 3 0 (nO R)) (ζ 4 0 (nD R)),an I,an ω,rO R,rD R])/\
 (allI R.me y6 y7 ω=true->
 bz y5 aN/\
 K (au []) [cS R (ε γ R.nu) (bF 128 (aT ξ y8)) (ο R.ch) (af T) (ο true) (aY 1) (aY 2) (aR none) (ζ 3 0 (nO R)) (ζ 4 0 (nD R+1)),an I,an ω,rO R,ai 70 7 (ae dA R.done++[(bo y9++[η (ν γ 0),χ 1 (qx y8 y9.kd y9.bk)])])]))/\
 ((!u.isNone)=false->
 θ))/\
 ((y4 == R.nu)=false->
 θ))/\
 ((y2 == R.ep)=false->
 θ))/\
 (true=false->
 θ)
 ):aI Tryz.prog jY (fun _=>none) 90 [aj 0 0,.int γ fr,.agg [.int γ kd,aC (.sl 1 [[dn γ q0],[dn γ q1],[dn γ q2]]),aC (.sl 1 (ints ξ b)),aC (.sl 1 (ct ls))]] [cR R (af T) (ο true) (.mp 1) (.mp 2) (.aa u) (.sl 3 0 (nO R)) (.sl 4 0 (nD R)),an I,an Q,rO R,rD R] (gJ 13 eW K):=by apply Eq.mp (a:=aq);kernel_rfl
theorem aip (R:ι) (T:ML) (π υ:Value) (fr kd q0 q1 q2:Int) (b:List Int) (ls:List (List Int)) (K:V->KB->Prop) (aq:
 let ω:=[0,1,2,3,4,5,7,8,9,10,11,12,14,15,17,18,19,20];let θ:=[[dn γ q0],[dn γ q1],[dn γ q2]];(true=true->
 ∀(y1:Nat->
 Value),K (au []) [cR R (af T) (ο false) (δ (y1 14)) (δ (y1 15)) (aR none) (ζ 1 0 (nO R)) (ζ 2 0 (nD R)),rO R,rD R])/\
 (true=false->
 aA 1/\
 ∃(y2:List D),θ[1]? =some y2/\
 ∃(y3:Int),y2[0]? =some (η (ν γ y3))/\
 (decide (y3 > R.ep)=true->
 ∀(y4:Nat->
 Value),nD R=(nD R)/\
 bS (nD R)/\
 ∃(y5:Option Op),none=ng bo y5/\
 bz y4 ω/\
 ∀(y6:Nat->
 Value),K (au []) [cR R (af T) (ο false) (δ (y6 14)) (δ (y6 15)) (aR none) (ζ 1 0 (nO R)) (ζ 2 0 (ae dA R.done++yl y5).length),rO R,ai 70 7 (ae dA R.done++yl y5)])/\
 (decide (y3 > R.ep)=false->
 aA 1/\
 ∃(y7:List D),θ[1]? =some y7/\
 ∃(y8:Int),y7[0]? =some (η (ν γ y8))/\
 ((y8 == R.ep)=true->
 aA 2/\
 ∃(y9:List D),θ[2]? =some y9/\
 ∃(cU:Int),y9[0]? =some (η (ν γ cU))/\
 (decide (cU > R.nu)=true->
 ∀(cD:Nat->
 Value),nD R=(nD R)/\
 bS (nD R)/\
 ∃(cE:Option Op),none=ng bo cE/\
 bz cD ω/\
 ∀(cP:Nat->
 Value),K (au []) [cG R (ο true) (ε γ R.ep) (ε γ R.nu) (bF 128 (aT ξ R.c)) (ο R.ch) (af T) (ο false) (δ (cP 14)) (δ (cP 15)) (aR none) (ζ 1 0 (nO R)) (ζ 2 0 (ae dA R.done++yl cE).length),rO R,ai 70 7 (ae dA R.done++yl cE)])/\
 (decide (cU > R.nu)=false->
 False))/\
 ((y8 == R.ep)=false->
 False)))
 ):aI Tryz.prog jY (fun _=>none) 91 [aj 0 0,.int γ fr,.agg [.int γ kd,aC (.sl 1 [[dn γ q0],[dn γ q1],[dn γ q2]]),aC (.sl 1 (ints ξ b)),aC (.sl 1 (ct ls))]] [cR R (af T) (ο false) (δ π) (δ υ) (.aa none) (.sl 1 0 (nO R)) (.sl 2 0 (nD R)),rO R,rD R] (gJ 13 eW K):=by apply Eq.mp (a:=aq);kernel_rfl
theorem aio (R:ι) (T:ML) (I Q:ML) (u:Option (List D)) (fr kd q0 q1 q2:Int) (b:List Int) (ls:List (List Int)) (K:V->KB->Prop) (aq:
 let aU:=(bI I [fr] [η (mG false)]);let aJ:=[0,2,3,8,9,10,11,12,13,14,15,16,17,18,19,21];let aN:=(ε γ R.nu);let av:=[0,1,2,3,4,5,7,8,9,10,11,12,14,15,17,18,19,20];let ω:=χ 1 [[dn γ R.id],[dn γ R.ep],[dn γ R.nu]];let θ:=[[dn γ q0],[dn γ q1],[dn γ q2]];(false=true->
 K (au []) [cR R (af T) (ο true) (aY 1) (aY 2) (aR u) (ζ 3 0 (nO R)) (ζ 4 0 (nD R)),an I,an Q,rO R,rD R])/\
 (false=false->
 aA 1/\
 ∃(y1:List D),θ[1]? =some y1/\
 ∃(y2:Int),y1[0]? =some (η (ν γ y2))/\
 (decide (y2 > R.ep)=true->
 ∀(y3:Nat->
 Value),nD R=(nD R)/\
 bS (nD R)/\
 ∃(y4:Option Op),u=ng bo y4/\
 bz y3 av/\
 ∀(y5:Nat->
 Value),K (au []) [cR R (af T) (ο false) (δ (y5 14)) (δ (y5 15)) (aR none) (ζ 1 0 (nO R)) (ζ 2 0 (ae dA R.done++yl y4).length),rO R,ai 70 7 (ae dA R.done++yl y4)])/\
 (decide (y2 > R.ep)=false->
 aA 1/\
 ∃(y6:List D),θ[1]? =some y6/\
 ∃(y7:Int),y6[0]? =some (η (ν γ y7))/\
 ((y7 == R.ep)=true->
 aA 2/\
 ∃(y8:List D),θ[2]? =some y8/\
 ∃(y9:Int),y8[0]? =some (η (ν γ y9))/\
 (decide (y9 > R.nu)=true->
 ∀(cU:Nat->
 Value),nD R=(nD R)/\
 bS (nD R)/\
 ∃(cD:Option Op),u=ng bo cD/\
 bz cU av/\
 ∀(cE:Nat->
 Value),K (au []) [cG R (ο true) (ε γ R.ep) aN (bF 128 (aT ξ R.c)) (ο R.ch) (af T) (ο false) (δ (cE 14)) (δ (cE 15)) (aR none) (ζ 1 0 (nO R)) (ζ 2 0 (ae dA R.done++yl cD).length),rO R,ai 70 7 (ae dA R.done++yl cD)])/\
 (decide (y9 > R.nu)=false->
 ∀(cP:Nat->
 Value),nO R=(nO R)/\
 bS (nO R)/\
 ∃(dH:List Int),∃(cZ:List L3),iU (aT ξ R.c) dH/\
 bL T cZ/\
 bz cP aJ/\
 K (au []) [cS R aN (bF 128 (aT ξ dH)) (ο R.ch) (af T) (ο true) (aY 1) (aY 2) (aR u) (ζ 3 0 (nO R+1)) (ζ 4 0 (nD R)),an aU,an Q,ai 107 5 (ae bV R.out++[[dn γ fr,η (ν γ 10),ω,χ 1 (ints ξ (ca dH)),χ 1 [[χ 1 (ints ξ (be cZ))]]]]),rD R]))/\
 ((y7 == R.ep)=false->
 ∀(fZ:Nat->
 Value),nO R=(nO R)/\
 bS (nO R)/\
 ∃(dr:List Int),∃(fx:List L3),iU (aT ξ R.c) dr/\
 bL T fx/\
 bz fZ aJ/\
 K (au []) [cS R aN (bF 128 (aT ξ dr)) (ο R.ch) (af T) (ο true) (aY 1) (aY 2) (aR u) (ζ 3 0 (nO R+1)) (ζ 4 0 (nD R)),an aU,an Q,ai 107 5 (ae bV R.out++[[dn γ fr,η (ν γ 10),ω,χ 1 (ints ξ (ca dr)),χ 1 [[χ 1 (ints ξ (be fx))]]]]),rD R])))
 ):aI Tryz.prog jY (fun _=>none) 91 [aj 0 0,.int γ fr,.agg [.int γ kd,aC (.sl 1 [[dn γ q0],[dn γ q1],[dn γ q2]]),aC (.sl 1 (ints ξ b)),aC (.sl 1 (ct ls))]] [cR R (af T) (ο true) (.mp 1) (.mp 2) (.aa u) (.sl 3 0 (nO R)) (.sl 4 0 (nD R)),an I,an Q,rO R,rD R] (gJ 13 eW K):=by apply Eq.mp (a:=aq);kernel_rfl
theorem PR {R:ι} {L:b9} {o:Op} (hl:R.ld=some L) (hc:L.cur=some o) (h:(aP R).all L.cy=false):fq R=R:=by
 unfold fq;rw[hl];simp only[hc];rw[if_neg (by rw[h];decide)]
theorem PS {R:ι} {L:b9} {o:Op} (hl:R.ld=some L) (hc:L.cur=some o) (h:(aP R).all L.cy=true):fq R={R with ld:=some {L with cur:=none },done:=R.done++[⟨o,0,mu R.c o⟩] }:=by
 unfold fq;rw[hl];simp only[hc];rw[if_pos h]
theorem agn {R:ι} {fr kd q0 q1 q2:Int} {b:List Int} {ls:List (List Int)} (hl:R.ld=none):iA R fr ⟨kd,[q0,q1,q2],b,ls⟩=R:=by unfold iA;rw[hl]
theorem V0 {R:ι} {L:b9} {fr kd q0 q1 q2:Int} {b:List Int} {ls:List (List Int)} (hl:R.ld=some L) (h:q1≠R.ep∨q2≠R.nu):iA R fr ⟨kd,[q0,q1,q2],b,ls⟩=R:=by
 unfold iA;rw[hl];exact if_pos h
theorem agm {R:ι} {L:b9} {fr kd q0 q1 q2:Int} {b:List Int} {ls:List (List Int)} (hl:R.ld=some L) (hc:L.cur=none) (h1:q1=R.ep) (h2:q2=R.nu):iA R fr ⟨kd,[q0,q1,q2],b,ls⟩={R with ld:=some ⟨mark L.ins fr true,L.cy,none⟩ }:=by
 unfold iA;rw[hl]
 refine(if_neg (show ¬ (q1≠R.ep∨q2≠R.nu) by simp [h1,h2])).trans ?_
 simp only[hc]
theorem VZ {R:ι} {L:b9} {o:Op} {fr kd q0 q1 q2:Int} {b:List Int} {ls:List (List Int)} (hl:R.ld=some L) (hc:L.cur=some o) (h1:q1=R.ep) (h2:q2=R.nu):iA R fr ⟨kd,[q0,q1,q2],b,ls⟩=fq {R with ld:=some ⟨mark L.ins fr true,mark L.cy fr true,some o⟩ }:=by
 unfold iA;rw[hl]
 refine(if_neg (show ¬ (q1≠R.ep∨q2≠R.nu) by simp [h1,h2])).trans ?_
 simp only[hc]
theorem aeb {R:ι} {fr kd q0 q1 q2:Int} {b:List Int} {ls:List (List Int)} (hl:R.ld=none):iw R fr ⟨kd,[q0,q1,q2],b,ls⟩=R:=by unfold iw;rw[hl]
theorem aea {R:ι} {L:b9} {fr kd q0 q1 q2:Int} {b:List Int} {ls:List (List Int)} (hl:R.ld=some L) (hc:L.cur=none):iw R fr ⟨kd,[q0,q1,q2],b,ls⟩=R:=by unfold iw;rw[hl];simp only[hc]
theorem aec {R:ι} {L:b9} {o:Op} {fr kd q0 q1 q2:Int} {b:List Int} {ls:List (List Int)} (hl:R.ld=some L) (hc:L.cur=some o) (h:¬ (q1=R.ep/\q2=R.nu)):iw R fr ⟨kd,[q0,q1,q2],b,ls⟩=R:=by
 unfold iw;rw[hl];simp only[hc];exact if_neg h
theorem T4 {R:ι} {L:b9} {o:Op} {fr kd q0 q1 q2:Int} {b:List Int} {ls:List (List Int)} (hl:R.ld=some L) (hc:L.cur=some o) (h1:q1=R.ep) (h2:q2=R.nu):iw R fr ⟨kd,[q0,q1,q2],b,ls⟩=fq {R with ld:=some ⟨L.ins,mark L.cy fr true,some o⟩ }:=by
 unfold iw;rw[hl];simp only[hc];exact if_pos ⟨h1,h2⟩
theorem ae9 {R:ι} {fr kd q0 q1 q2:Int} {b:List Int} {ls:List (List Int)} (hl:R.ld=none):iy R fr ⟨kd,[q0,q1,q2],b,ls⟩=R:=by unfold iy;rw[hl]
theorem ae8 {R:ι} {L:b9} {fr kd q0 q1 q2:Int} {b:List Int} {ls:List (List Int)} (hl:R.ld=some L) (h:R.ep<q1):iy R fr ⟨kd,[q0,q1,q2],b,ls⟩=gy R:=by
 unfold iy;rw[hl];exact if_pos h
theorem ae_ {R:ι} {L:b9} {fr kd q0 q1 q2:Int} {b:List Int} {ls:List (List Int)} (hl:R.ld=some L) (h:q1=R.ep) (h2:R.nu<q2):iy R fr ⟨kd,[q0,q1,q2],b,ls⟩=gy {R with lo:=true }:=by
 unfold iy;rw[hl]
 refine(if_neg (show ¬ R.ep<q1 by omega)).trans ?_
 exact if_pos ⟨h,h2⟩
theorem UL {R:ι} {L:b9} {fr kd q0 q1 q2:Int} {b:List Int} {ls:List (List Int)} (hl:R.ld=some L) (h:¬ R.ep<q1) (h2:¬ (q1=R.ep/\R.nu<q2)):iy R fr ⟨kd,[q0,q1,q2],b,ls⟩=qP {R with ld:=some {L with ins:=mark L.ins fr false } } fr:=by
 unfold iy;rw[hl]
 exact(if_neg h).trans (if_neg h2)
theorem agq (R:ι) (T:ML) (π υ:Value) (fr kd q0 q1 q2:Int) (b:List Int) (ls:List (List Int)) (hT:bL T R.t) (hl:R.ld=none) (hR:dF R) (eN:∀ π υ,aF R [cR R (af T) (ο false) (δ π) (δ υ) (.aa none) (.sl 1 0 (nO R)) (.sl 2 0 (nD R)),rO R,rD R]) (K:V->KB->Prop) (hK:∀ kb',aF (iA R fr ⟨kd,[q0,q1,q2],b,ls⟩) kb'->K (.φ []) kb'):aI Tryz.prog jY (fun _=>none) 88 [aj 0 0,.int γ fr,.agg [.int γ kd,aC (.sl 1 [[dn γ q0],[dn γ q1],[dn γ q2]]),aC (.sl 1 (ints ξ b)),aC (.sl 1 (ct ls))]] [cR R (af T) (ο false) (δ π) (δ υ) (.aa none) (.sl 1 0 (nO R)) (.sl 2 0 (nD R)),rO R,rD R] (gJ 13 eW K):=by
 have fin:∀{R':ι} {kb':KB},iA R fr ⟨kd,[q0,q1,q2],b,ls⟩=R'->aF R' kb'->K (.φ []) kb':=fun{R' kb'} h1 h2=>by
  have:=hK kb'
  rw[h1]at this
  exact this h2
 exact aiF R T π υ fr kd q0 q1 q2 b ls K ⟨fun _ f=>fin (agn hl) (eN _ _),fun f=>(by cases f)⟩
theorem aef (R:ι) (T:ML) (π υ:Value) (fr kd q0 q1 q2:Int) (b:List Int) (ls:List (List Int)) (hT:bL T R.t) (hl:R.ld=none) (hR:dF R) (eN:∀ π υ,aF R [cR R (af T) (ο false) (δ π) (δ υ) (.aa none) (.sl 1 0 (nO R)) (.sl 2 0 (nD R)),rO R,rD R]) (K:V->KB->Prop) (hK:∀ kb',aF (iw R fr ⟨kd,[q0,q1,q2],b,ls⟩) kb'->K (.φ []) kb'):aI Tryz.prog jY (fun _=>none) 90 [aj 0 0,.int γ fr,.agg [.int γ kd,aC (.sl 1 [[dn γ q0],[dn γ q1],[dn γ q2]]),aC (.sl 1 (ints ξ b)),aC (.sl 1 (ct ls))]] [cR R (af T) (ο false) (δ π) (δ υ) (.aa none) (.sl 1 0 (nO R)) (.sl 2 0 (nD R)),rO R,rD R] (gJ 13 eW K):=by
 have fin:∀{R':ι} {kb':KB},iw R fr ⟨kd,[q0,q1,q2],b,ls⟩=R'->aF R' kb'->K (.φ []) kb':=fun{R' kb'} h1 h2=>by
  have:=hK kb'
  rw[h1]at this
  exact this h2
 exact aib R T π υ fr kd q0 q1 q2 b ls K ⟨fun f=>(by cases f),fun _ f=>fin (aeb hl) (eN _ _)⟩
theorem afc (R:ι) (T:ML) (π υ:Value) (fr kd q0 q1 q2:Int) (b:List Int) (ls:List (List Int)) (hT:bL T R.t) (hl:R.ld=none) (hR:dF R) (eN:∀ π υ,aF R [cR R (af T) (ο false) (δ π) (δ υ) (.aa none) (.sl 1 0 (nO R)) (.sl 2 0 (nD R)),rO R,rD R]) (K:V->KB->Prop) (hK:∀ kb',aF (iy R fr ⟨kd,[q0,q1,q2],b,ls⟩) kb'->K (.φ []) kb'):aI Tryz.prog jY (fun _=>none) 91 [aj 0 0,.int γ fr,.agg [.int γ kd,aC (.sl 1 [[dn γ q0],[dn γ q1],[dn γ q2]]),aC (.sl 1 (ints ξ b)),aC (.sl 1 (ct ls))]] [cR R (af T) (ο false) (δ π) (δ υ) (.aa none) (.sl 1 0 (nO R)) (.sl 2 0 (nD R)),rO R,rD R] (gJ 13 eW K):=by
 have fin:∀{R':ι} {kb':KB},iy R fr ⟨kd,[q0,q1,q2],b,ls⟩=R'->aF R' kb'->K (.φ []) kb':=fun{R' kb'} h1 h2=>by
  have:=hK kb'
  rw[h1]at this
  exact this h2
 exact aip R T π υ fr kd q0 q1 q2 b ls K ⟨fun _ f=>fin (ae9 hl) (eN _ _),fun f=>(by cases f)⟩
theorem agp (R:ι) (T:ML) (I Q:ML) (L:b9) (fr kd q0 q1 q2:Int) (b:List Int) (ls:List (List Int)) (hT:bL T R.t) (hl:R.ld=some L) (hI:MB I L.ins) (hQ:MB Q L.cy) (hR:dF R) (hkb:aF R [cR R (af T) (ο true) (.mp 1) (.mp 2) (.aa (L.cur.map bo)) (.sl 3 0 (nO R)) (.sl 4 0 (nD R)),an I,an Q,rO R,rD R]) (K:V->KB->Prop) (hK:∀ kb',aF (iA R fr ⟨kd,[q0,q1,q2],b,ls⟩) kb'->K (.φ []) kb'):aI Tryz.prog jY (fun _=>none) 88 [aj 0 0,.int γ fr,.agg [.int γ kd,aC (.sl 1 [[dn γ q0],[dn γ q1],[dn γ q2]]),aC (.sl 1 (ints ξ b)),aC (.sl 1 (ct ls))]] [cR R (af T) (ο true) (.mp 1) (.mp 2) (.aa (L.cur.map bo)) (.sl 3 0 (nO R)) (.sl 4 0 (nD R)),an I,an Q,rO R,rD R] (gJ 13 eW K):=by
 have fin:∀{R':ι} {kb':KB},iA R fr ⟨kd,[q0,q1,q2],b,ls⟩=R'->aF R' kb'->K (.φ []) kb':=fun{R' kb'} h1 h2=>by
  have:=hK kb'
  rw[h1]at this
  exact this h2
 have h5:dK (R.v.mem.length+R.v.aH.length):=⟨by have:=hR.vl;omega⟩
 have nt:iU (aT ξ R.c) R.c:=⟨rfl,hR.cl,hR.cb⟩
 have fK:nO R<=1000000:=by show(ae bV R.out).length<=_;rw[bT];have:=hR.ol;omega
 have hdl:nD R<=1000000:=by show(ae dA R.done).length<=_;rw[bT];have:=hR.dl;omega
 have oS:L.cur.map bo=(ci R).map bo:=by simp [ci,hl]
 refine aiE R T I Q (L.cur.map bo) fr kd q0 q1 q2 b ls K ?_
 refine⟨fun f=>(by cases f),fun _=>⟨(by decide:(0:Int)<=1),_,rfl,q1,rfl,fun e1=>fin (V0 hl (.inl (by simpa using e1))) hkb,fun e1=>⟨(by decide:(0:Int)<=2),_,rfl,q2,rfl,fun e2=>fin (V0 hl (.inr (by simpa using e2))) hkb,fun e2=>?_⟩⟩⟩
 have g1:q1=R.ep:=by simpa using e1
 have g2:q2=R.nu:=by simpa using e2
 cases mh:L.cur with
 |none=>
  exact⟨fun f=>(by cases f),fun _=>fin (agm hl mh g1 g2) (by
   unfold aF
   exact⟨_,Q,T,mR hI fr true,hQ,hT,rfl⟩)⟩
 |some p=>
  exact⟨fun _ f=>⟨rfl,⟨hdl⟩,R.v.mem,R.v.aH,R.c,p,nt,rfl,rfl,h5,(mR hQ fr true).b,rfl,DH ⟨hR.cr p (by simp [ci,hl,mh])⟩,fun e=>⟨⟨by simp [bU]⟩,fin ((VZ hl mh g1 g2).trans (PR rfl rfl (by rw[sR (mR hQ fr true)]at e;exact e))) (by
   unfold aF
   exact⟨_,_,T,mR hI fr true,mR hQ fr true,hT,rfl⟩)⟩,fun e=>⟨⟨by simp [bU]⟩,fin ((VZ hl mh g1 g2).trans (PS rfl rfl (by rw[sR (mR hQ fr true)]at e;exact e))) (by
   unfold aF
   refine⟨_,_,T,mR hI fr true,mR hQ fr true,hT,?_⟩
   simp [cR,cS,dA,bo,HA,dn])⟩⟩,fun f=>(by cases f)⟩
theorem aee (R:ι) (T:ML) (I Q:ML) (L:b9) (fr kd q0 q1 q2:Int) (b:List Int) (ls:List (List Int)) (hT:bL T R.t) (hl:R.ld=some L) (hI:MB I L.ins) (hQ:MB Q L.cy) (hR:dF R) (hkb:aF R [cR R (af T) (ο true) (.mp 1) (.mp 2) (.aa (L.cur.map bo)) (.sl 3 0 (nO R)) (.sl 4 0 (nD R)),an I,an Q,rO R,rD R]) (K:V->KB->Prop) (hK:∀ kb',aF (iw R fr ⟨kd,[q0,q1,q2],b,ls⟩) kb'->K (.φ []) kb'):aI Tryz.prog jY (fun _=>none) 90 [aj 0 0,.int γ fr,.agg [.int γ kd,aC (.sl 1 [[dn γ q0],[dn γ q1],[dn γ q2]]),aC (.sl 1 (ints ξ b)),aC (.sl 1 (ct ls))]] [cR R (af T) (ο true) (.mp 1) (.mp 2) (.aa (L.cur.map bo)) (.sl 3 0 (nO R)) (.sl 4 0 (nD R)),an I,an Q,rO R,rD R] (gJ 13 eW K):=by
 have fin:∀{R':ι} {kb':KB},iw R fr ⟨kd,[q0,q1,q2],b,ls⟩=R'->aF R' kb'->K (.φ []) kb':=fun{R' kb'} h1 h2=>by
  have:=hK kb'
  rw[h1]at this
  exact this h2
 have h5:dK (R.v.mem.length+R.v.aH.length):=⟨by have:=hR.vl;omega⟩
 have nt:iU (aT ξ R.c) R.c:=⟨rfl,hR.cl,hR.cb⟩
 have fK:nO R<=1000000:=by show(ae bV R.out).length<=_;rw[bT];have:=hR.ol;omega
 have hdl:nD R<=1000000:=by show(ae dA R.done).length<=_;rw[bT];have:=hR.dl;omega
 have oS:L.cur.map bo=(ci R).map bo:=by simp [ci,hl]
 refine aia R T I Q (L.cur.map bo) fr kd q0 q1 q2 b ls K ?_
 cases mh:L.cur with
 |none=>
  have same:=fin (aea hl mh) hkb
  rw[mh]at same
  exact⟨fun _=>⟨(by decide:(0:Int)<=1),_,rfl,q1,rfl,fun _=>⟨(by decide:(0:Int)<=2),_,rfl,q2,rfl,fun _=>⟨fun f=>(by cases f),fun _=>same⟩,fun _=>same⟩,fun _=>same⟩,fun _=>same⟩
 |some p=>
  have same:=fun h=>fin (aec hl mh h) hkb
  rw[mh]at same
  exact⟨fun _=>⟨(by decide:(0:Int)<=1),_,rfl,q1,rfl,fun e1=>⟨(by decide:(0:Int)<=2),_,rfl,q2,rfl,fun e2=>⟨fun _ f=>⟨rfl,⟨hdl⟩,R.v.mem,R.v.aH,R.c,p,nt,rfl,rfl,h5,(mR hQ fr true).b,rfl,DH ⟨hR.cr p (by simp [ci,hl,mh])⟩,fun e=>⟨⟨by simp [bU]⟩,fin ((T4 hl mh (show q1=R.ep by simpa using e1) (show q2=R.nu by simpa using e2)).trans (PR rfl rfl (by rw[sR (mR hQ fr true)]at e;exact e))) (by
   unfold aF
   exact⟨I,_,T,hI,mR hQ fr true,hT,rfl⟩)⟩,fun e=>⟨⟨by simp [bU]⟩,fin ((T4 hl mh (show q1=R.ep by simpa using e1) (show q2=R.nu by simpa using e2)).trans (PS rfl rfl (by rw[sR (mR hQ fr true)]at e;exact e))) (by
   unfold aF
   refine⟨I,_,T,hI,mR hQ fr true,hT,?_⟩
   simp [cR,cS,dA,bo,HA,dn])⟩⟩,fun f=>(by cases f)⟩,fun e2=>same fun h=>absurd h.2 (show ¬ q2=R.nu by simpa using e2)⟩,fun e1=>same fun h=>absurd h.1 (show ¬ q1=R.ep by simpa using e1)⟩,fun f=>(by cases f)⟩
theorem afb (R:ι) (T:ML) (I Q:ML) (L:b9) (fr kd q0 q1 q2:Int) (b:List Int) (ls:List (List Int)) (hT:bL T R.t) (hl:R.ld=some L) (hI:MB I L.ins) (hQ:MB Q L.cy) (hR:dF R) (hkb:aF R [cR R (af T) (ο true) (.mp 1) (.mp 2) (.aa (L.cur.map bo)) (.sl 3 0 (nO R)) (.sl 4 0 (nD R)),an I,an Q,rO R,rD R]) (K:V->KB->Prop) (hK:∀ kb',aF (iy R fr ⟨kd,[q0,q1,q2],b,ls⟩) kb'->K (.φ []) kb'):aI Tryz.prog jY (fun _=>none) 91 [aj 0 0,.int γ fr,.agg [.int γ kd,aC (.sl 1 [[dn γ q0],[dn γ q1],[dn γ q2]]),aC (.sl 1 (ints ξ b)),aC (.sl 1 (ct ls))]] [cR R (af T) (ο true) (.mp 1) (.mp 2) (.aa (L.cur.map bo)) (.sl 3 0 (nO R)) (.sl 4 0 (nD R)),an I,an Q,rO R,rD R] (gJ 13 eW K):=by
 have fin:∀{R':ι} {kb':KB},iy R fr ⟨kd,[q0,q1,q2],b,ls⟩=R'->aF R' kb'->K (.φ []) kb':=fun{R' kb'} h1 h2=>by
  have:=hK kb'
  rw[h1]at this
  exact this h2
 have h5:dK (R.v.mem.length+R.v.aH.length):=⟨by have:=hR.vl;omega⟩
 have nt:iU (aT ξ R.c) R.c:=⟨rfl,hR.cl,hR.cb⟩
 have fK:nO R<=1000000:=by show(ae bV R.out).length<=_;rw[bT];have:=hR.ol;omega
 have hdl:nD R<=1000000:=by show(ae dA R.done).length<=_;rw[bT];have:=hR.dl;omega
 have oS:L.cur.map bo=(ci R).map bo:=by simp [ci,hl]
 refine aio R T I Q (L.cur.map bo) fr kd q0 q1 q2 b ls K ?_
 exact⟨fun f=>(by cases f),fun _=>⟨(by decide:(0:Int)<=1),_,rfl,q1,rfl,fun e1 f=>⟨rfl,⟨hdl⟩,ci R,oS,⟨by simp [bU]⟩,fun f=>fin (ae8 hl (show R.ep<q1 by simpa using e1)) (by
  unfold aF
  refine⟨f 14,f 15,T,hT,?_⟩
  simp only[nD,rD,tU]
  rfl)⟩,fun e1=>⟨(by decide:(0:Int)<=1),_,rfl,q1,rfl,fun e2=>⟨(by decide:(0:Int)<=2),_,rfl,q2,rfl,fun e3 f=>⟨rfl,⟨hdl⟩,ci R,oS,⟨by simp [bU]⟩,fun f=>fin (ae_ hl (show q1=R.ep by simpa using e2) (show R.nu<q2 by simpa using e3)) (by
  unfold aF
  refine⟨f 14,f 15,T,hT,?_⟩
  simp only[nD,rD,tU]
  rfl)⟩,fun e3=>fun f=>⟨rfl,⟨fK⟩,R.c,R.t,nt,hT,⟨by simp [bU]⟩,fin (UL hl (show ¬ R.ep<q1 by simpa using e1) (fun h=>absurd h.2 (show ¬ R.nu<q2 by simpa using e3))) (by
  unfold aF qP iz
  simp only
  refine⟨_,Q,T,mR hI fr false,hQ,hT,?_⟩
  simp [cR,cS,gK,bV,jA,mX,gg,dn,ints]
  try rfl)⟩⟩,fun e2=>fun f=>⟨rfl,⟨fK⟩,R.c,R.t,nt,hT,⟨by simp [bU]⟩,fin (UL hl (show ¬ R.ep<q1 by simpa using e1) (fun h=>absurd h.1 (show ¬ q1=R.ep by simpa using e2))) (by
  unfold aF qP iz
  simp only
  refine⟨_,Q,T,mR hI fr false,hQ,hT,?_⟩
  simp [cR,cS,gK,bV,jA,mX,gg,dn,ints]
  try rfl)⟩⟩⟩⟩
def XW:aE:=fun args kb K=>∃ R fr kd q0 q1 q2 b ls,args=[aj 0 0,.int γ fr,.agg [.int γ kd,aC (.sl 1 [[dn γ q0],[dn γ q1],[dn γ q2]]),aC (.sl 1 (ints ξ b)),aC (.sl 1 (ct ls))]]/\aF R kb/\dF R/\∀ kb',aF (iA R fr ⟨kd,[q0,q1,q2],b,ls⟩) kb'->K (.φ []) kb'
theorem adS:gB Tryz.prog 88 XW:=uQ mixed 13 eW (fun args kb K h=>by
 obtain⟨R,fr,kd,q0,q1,q2,b,ls,rfl,hkb,hR,hK⟩:=h
 have jh:=hkb
 unfold aF at hkb
 split at hkb
 ·rename_i hl
  obtain⟨π,υ,T,hT,rfl⟩:=hkb
  exact⟨_,_,qk,agq R T π υ fr kd q0 q1 q2 b ls hT hl hR (fun a b=>by unfold aF;simp only[hl];exact⟨a,b,T,hT,rfl⟩) K hK⟩
 ·rename_i L hl
  obtain⟨I,Q,T,hI,hQ,hT,rfl⟩:=hkb
  exact⟨_,_,qk,agp R T I Q L fr kd q0 q1 q2 b ls hT hl hI hQ hR jh K hK⟩)
def XP:aE:=fun args kb K=>∃ R fr kd q0 q1 q2 b ls,args=[aj 0 0,.int γ fr,.agg [.int γ kd,aC (.sl 1 [[dn γ q0],[dn γ q1],[dn γ q2]]),aC (.sl 1 (ints ξ b)),aC (.sl 1 (ct ls))]]/\aF R kb/\dF R/\∀ kb',aF (iw R fr ⟨kd,[q0,q1,q2],b,ls⟩) kb'->K (.φ []) kb'
theorem adj:gB Tryz.prog 90 XP:=uQ mixed 13 eW (fun args kb K h=>by
 obtain⟨R,fr,kd,q0,q1,q2,b,ls,rfl,hkb,hR,hK⟩:=h
 have jh:=hkb
 unfold aF at hkb
 split at hkb
 ·rename_i hl
  obtain⟨π,υ,T,hT,rfl⟩:=hkb
  exact⟨_,_,qk,aef R T π υ fr kd q0 q1 q2 b ls hT hl hR (fun a b=>by unfold aF;simp only[hl];exact⟨a,b,T,hT,rfl⟩) K hK⟩
 ·rename_i L hl
  obtain⟨I,Q,T,hI,hQ,hT,rfl⟩:=hkb
  exact⟨_,_,qk,aee R T I Q L fr kd q0 q1 q2 b ls hT hl hI hQ hR jh K hK⟩)
def XR:aE:=fun args kb K=>∃ R fr kd q0 q1 q2 b ls,args=[aj 0 0,.int γ fr,.agg [.int γ kd,aC (.sl 1 [[dn γ q0],[dn γ q1],[dn γ q2]]),aC (.sl 1 (ints ξ b)),aC (.sl 1 (ct ls))]]/\aF R kb/\dF R/\∀ kb',aF (iy R fr ⟨kd,[q0,q1,q2],b,ls⟩) kb'->K (.φ []) kb'
theorem adI:gB Tryz.prog 91 XR:=uQ mixed 13 eW (fun args kb K h=>by
 obtain⟨R,fr,kd,q0,q1,q2,b,ls,rfl,hkb,hR,hK⟩:=h
 have jh:=hkb
 unfold aF at hkb
 split at hkb
 ·rename_i hl
  obtain⟨π,υ,T,hT,rfl⟩:=hkb
  exact⟨_,_,qk,afc R T π υ fr kd q0 q1 q2 b ls hT hl hR (fun a b=>by unfold aF;simp only[hl];exact⟨a,b,T,hT,rfl⟩) K hK⟩
 ·rename_i L hl
  obtain⟨I,Q,T,hI,hQ,hT,rfl⟩:=hkb
  exact⟨_,_,qk,afb R T I Q L fr kd q0 q1 q2 b ls hT hl hI hQ hR jh K hK⟩)
abbrev wN (kd q0 q1 q2 q3 q4 q5 q6 q7:Int) (b:List Int) (ls:List (List Int)):KO:=.cells [.int γ kd,aC (.sl 1 [[dn γ q0],[dn γ q1],[dn γ q2],[dn γ q3],[dn γ q4],[dn γ q5],[dn γ q6],[dn γ q7]]),aC (.sl 1 (ints ξ b)),aC (.sl 1 (ct ls))]
def pX (R:ι) (q1 q2:Int):Bool:=decide (q1=R.ep/\q2=R.nu/\ef R=false)
def l0 (R:ι) (q1 q2:Int) (o:Op):Bool:=decide (q1=R.ep/\q2=R.nu+1/\ef R=false/\gh o=true)
def iu (R:ι) (q1 q2 q7:Int) (o:Op):Bool:=l0 R q1 q2 o && (o.kd != 4 || eG R.c == q7)
abbrev TV (R:ι) (T:ML) (π υ:Value) (fr kd q0 q1 q2 q3 q4 q5 q6 q7:Int) (b:List Int) (ls:List (List Int)):LI where
 α:=Unit
 live:=[0,1,5,6]
 st _:=([aj 0 0,.int γ fr,aj 3 0,aj 4 0],[cR R (af T) (ο false) (δ π) (δ υ) (.aa none) (.sl 1 0 (nO R)) (.sl 2 0 (nD R)),rO R,rD R,wN kd q0 q1 q2 q3 q4 q5 q6 q7 b ls,aB [.int γ q3,.int γ q4,.int γ q5,.int γ q6,aC (.sl 1 (ints ξ b))]])
 μ _:=0
abbrev TX (R:ι) (T:ML) (π υ:Value) (fr kd q0 q1 q2 q3 q4 q5 q6 q7:Int) (b:List Int) (ls:List (List Int)):LI where
 α:=Unit
 live:=[0,1,5,6,7]
 st _:=([aj 0 0,.int γ fr,aj 3 0,aj 4 0,ο (l0 R q1 q2 ⟨q3,q4,q5,q6,b⟩)],[cR R (af T) (ο false) (δ π) (δ υ) (.aa none) (.sl 1 0 (nO R)) (.sl 2 0 (nD R)),rO R,rD R,wN kd q0 q1 q2 q3 q4 q5 q6 q7 b ls,aB [.int γ q3,.int γ q4,.int γ q5,.int γ q6,aC (.sl 1 (ints ξ b))]])
 μ _:=0
abbrev TZ (R:ι) (T:ML) (π υ:Value) (fr kd q0 q1 q2 q3 q4 q5 q6 q7:Int) (b:List Int) (ls:List (List Int)):LI where
 α:=Unit
 live:=[0,1,5,6,7,62]
 st _:=([aj 0 0,.int γ fr,aj 3 0,aj 4 0,ο (l0 R q1 q2 ⟨q3,q4,q5,q6,b⟩),ο (pX R q1 q2)],[cR R (af T) (ο false) (δ π) (δ υ) (.aa none) (.sl 1 0 (nO R)) (.sl 2 0 (nD R)),rO R,rD R,wN kd q0 q1 q2 q3 q4 q5 q6 q7 b ls,aB [.int γ q3,.int γ q4,.int γ q5,.int γ q6,aC (.sl 1 (ints ξ b))]])
 μ _:=0
abbrev T1 (R:ι) (T:ML) (π υ:Value) (fr kd q0 q1 q2 q3 q4 q5 q6 q7:Int) (b:List Int) (ls:List (List Int)):LI where
 α:=Unit
 live:=[0,1,6,90]
 st _:=([aj 0 0,.int γ fr,aj 3 0,ο (iu R q1 q2 q7 ⟨q3,q4,q5,q6,b⟩)],[cR R (af T) (ο false) (δ π) (δ υ) (.aa none) (.sl 1 0 (nO R)) (.sl 2 0 (nD R)),rO R,rD R,aB [.int γ q3,.int γ q4,.int γ q5,.int γ q6,aC (.sl 1 (ints ξ b))]])
 μ _:=0
def T8 (R:ι) (T:ML) (π υ:Value) (fr kd q0 q1 q2 q3 q4 q5 q6 q7:Int) (b:List Int) (ls:List (List Int)):Nat->Option LI
 | 1002=>some (TV R T π υ fr kd q0 q1 q2 q3 q4 q5 q6 q7 b ls)
 | 1004=>some (TX R T π υ fr kd q0 q1 q2 q3 q4 q5 q6 q7 b ls)
 | 1005=>some (TZ R T π υ fr kd q0 q1 q2 q3 q4 q5 q6 q7 b ls)
 | 1006=>some (T1 R T π υ fr kd q0 q1 q2 q3 q4 q5 q6 q7 b ls)
 |_=>none
abbrev TU (R:ι) (T:ML) (I Q:ML) (u:Option (List D)) (fr kd q0 q1 q2 q3 q4 q5 q6 q7:Int) (b:List Int) (ls:List (List Int)):LI where
 α:=Unit
 live:=[0,1,5,6]
 st _:=([aj 0 0,.int γ fr,aj 5 0,aj 6 0],[cR R (af T) (ο true) (.mp 1) (.mp 2) (.aa u) (.sl 3 0 (nO R)) (.sl 4 0 (nD R)),an I,an Q,rO R,rD R,wN kd q0 q1 q2 q3 q4 q5 q6 q7 b ls,aB [.int γ q3,.int γ q4,.int γ q5,.int γ q6,aC (.sl 1 (ints ξ b))]])
 μ _:=0
abbrev TW (R:ι) (T:ML) (I Q:ML) (u:Option (List D)) (fr kd q0 q1 q2 q3 q4 q5 q6 q7:Int) (b:List Int) (ls:List (List Int)):LI where
 α:=Unit
 live:=[0,1,5,6,7]
 st _:=([aj 0 0,.int γ fr,aj 5 0,aj 6 0,ο (l0 R q1 q2 ⟨q3,q4,q5,q6,b⟩)],[cR R (af T) (ο true) (.mp 1) (.mp 2) (.aa u) (.sl 3 0 (nO R)) (.sl 4 0 (nD R)),an I,an Q,rO R,rD R,wN kd q0 q1 q2 q3 q4 q5 q6 q7 b ls,aB [.int γ q3,.int γ q4,.int γ q5,.int γ q6,aC (.sl 1 (ints ξ b))]])
 μ _:=0
abbrev TY (R:ι) (T:ML) (I Q:ML) (u:Option (List D)) (fr kd q0 q1 q2 q3 q4 q5 q6 q7:Int) (b:List Int) (ls:List (List Int)):LI where
 α:=Unit
 live:=[0,1,5,6,7,62]
 st _:=([aj 0 0,.int γ fr,aj 5 0,aj 6 0,ο (l0 R q1 q2 ⟨q3,q4,q5,q6,b⟩),ο (pX R q1 q2)],[cR R (af T) (ο true) (.mp 1) (.mp 2) (.aa u) (.sl 3 0 (nO R)) (.sl 4 0 (nD R)),an I,an Q,rO R,rD R,wN kd q0 q1 q2 q3 q4 q5 q6 q7 b ls,aB [.int γ q3,.int γ q4,.int γ q5,.int γ q6,aC (.sl 1 (ints ξ b))]])
 μ _:=0
abbrev T0 (R:ι) (T:ML) (I Q:ML) (u:Option (List D)) (fr kd q0 q1 q2 q3 q4 q5 q6 q7:Int) (b:List Int) (ls:List (List Int)):LI where
 α:=Unit
 live:=[0,1,6,90]
 st _:=([aj 0 0,.int γ fr,aj 5 0,ο (iu R q1 q2 q7 ⟨q3,q4,q5,q6,b⟩)],[cR R (af T) (ο true) (.mp 1) (.mp 2) (.aa u) (.sl 3 0 (nO R)) (.sl 4 0 (nD R)),an I,an Q,rO R,rD R,aB [.int γ q3,.int γ q4,.int γ q5,.int γ q6,aC (.sl 1 (ints ξ b))]])
 μ _:=0
def T7 (R:ι) (T:ML) (I Q:ML) (u:Option (List D)) (fr kd q0 q1 q2 q3 q4 q5 q6 q7:Int) (b:List Int) (ls:List (List Int)):Nat->Option LI
 | 1002=>some (TU R T I Q u fr kd q0 q1 q2 q3 q4 q5 q6 q7 b ls)
 | 1004=>some (TW R T I Q u fr kd q0 q1 q2 q3 q4 q5 q6 q7 b ls)
 | 1005=>some (TY R T I Q u fr kd q0 q1 q2 q3 q4 q5 q6 q7 b ls)
 | 1006=>some (T0 R T I Q u fr kd q0 q1 q2 q3 q4 q5 q6 q7 b ls)
 |_=>none
theorem aid (R:ι) (T:ML) (π υ:Value) (fr kd q0 q1 q2 q3 q4 q5 q6 q7:Int) (b:List Int) (ls:List (List Int)) (K:V->KB->Prop) (aq:
 let lm:=[0,1,2,3,4,5,7,8,9,10,11,12,13,14,15,16,17,18,19,20,21];let jU:=(TX R T π υ fr kd q0 q1 q2 q3 q4 q5 q6 q7 b ls);let gM:=(TZ R T π υ fr kd q0 q1 q2 q3 q4 q5 q6 q7 b ls);let gk:=(ε γ (R.nu+1));let eP:=aC (χ 1 (ints ξ b));let cI:=ο (l0 R q1 q2 {cl:=q3,nm:=q4,kd:=q5,bk:=q6,b:=b});let bW:=[0,1,2,3,4,8,9,10,11,12,13,14,15,16,17,19,20,21];let bD:=[0,2,3,5,7,8,9,10,11,12,13,14,15,16,17,18,19,21];let bp:=(T1 R T π υ fr kd q0 q1 q2 q3 q4 q5 q6 q7 b ls);let aN:=ai 107 5 (ae bV R.out++[[dn γ fr,η (ν γ 13),χ 1 [[dn γ R.id],[dn γ R.ep],[η (ν γ (R.nu+1))]],χ 1 [],χ 1 []]]);let av:=aB [ε γ q3,ε γ q4,ε γ q5,ε γ q6,eP];let bM:KB:=[cR R (af T) (ο false) (δ π) (δ υ) (aR none) (ζ 1 0 (nO R)) (ζ 2 0 (nD R)),rO R,rD R,av];let ω:=[[dn γ q0],[dn γ q1],[dn γ q2],[dn γ q3],[dn γ q4],[dn γ q5],[dn γ q6],[dn γ q7]];let bQ:=aB [ε γ kd,aC (χ 1 ω),eP,aC (χ 1 (ct ls))];let θ:KB:=[cR R (af T) (ο false) (δ π) (δ υ) (aR none) (ζ 1 0 (nO R)) (ζ 2 0 (nD R)),rO R,rD R,bQ,av];let aU:=At gM ([aj 0 0,ε γ fr,aj 3 0,aj 4 0,cI,ο false],θ);let aJ:=At jU ([aj 0 0,ε γ fr,aj 3 0,aj 4 0,ο false],θ);(aA 3/\
 ∃(y1:List D),ω[3]? =some y1/\
 ∃(y2:Int),y1[0]? =some (η (ν γ y2))/\
 aA 4/\
 ∃(y3:List D),ω[4]? =some y3/\
 ∃(y4:Int),y3[0]? =some (η (ν γ y4))/\
 aA 5/\
 ∃(y5:List D),ω[5]? =some y5/\
 ∃(y6:Int),y5[0]? =some (η (ν γ y6))/\
 aA 6/\
 ∃(y7:List D),ω[6]? =some y7/\
 ∃(y8:Int),y7[0]? =some (η (ν γ y8))/\
 True/\
 (∃(y9:Int),y7[0]? =some (η (ν γ y9))/\
 True)/\
 True/\
 (∃(cU:Int),y5[0]? =some (η (ν γ cU))/\
 True)/\
 True/\
 (∃(cD:Int),y3[0]? =some (η (ν γ cD))/\
 True)/\
 True/\
 (∃(cE:Int),y1[0]? =some (η (ν γ cE))/\
 True)/\
 True/\
 At (TV R T π υ fr kd q0 q1 q2 q3 q4 q5 q6 q7 b ls) ([aj 0 0,ε γ fr,aj 3 0,aj 4 0],[cR R (af T) (ο false) (δ π) (δ υ) (aR none) (ζ 1 0 (nO R)) (ζ 2 0 (nD R)),rO R,rD R,bQ,aB [ε γ y2,ε γ y4,ε γ y6,ε γ y8,eP]]))/\
 ∀(cP:Unit),(aA 1/\
 ∃(dH:List D),ω[1]? =some dH/\
 ∃(cZ:Int),dH[0]? =some (η (ν γ cZ))/\
 ((cZ == R.ep)=true->
 aA 2/\
 ∃(fZ:List D),ω[2]? =some fZ/\
 ∃(dr:Int),fZ[0]? =some (η (ν γ dr))/\
 ((dr == γ.wrap (R.nu+1))=true->
 (true=true->
 At jU ([aj 0 0,ε γ fr,aj 3 0,aj 4 0,ο (kh q3 q4 q5 q6 (ints ξ b).length)],θ))/\
 (true=false->
 aJ))/\
 ((dr == γ.wrap (R.nu+1))=false->
 aJ))/\
 ((cZ == R.ep)=false->
 aJ))/\
 ∀(fx:Unit),(aA 1/\
 ∃(fO:List D),ω[1]? =some fO/\
 ∃(fU:Int),fO[0]? =some (η (ν γ fU))/\
 ((fU == R.ep)=true->
 aA 2/\
 ∃(fh:List D),ω[2]? =some fh/\
 ∃(fP:Int),fh[0]? =some (η (ν γ fP))/\
 ((fP == R.nu)=true->
 At gM ([aj 0 0,ε γ fr,aj 3 0,aj 4 0,cI,ο true],θ))/\
 ((fP == R.nu)=false->
 aU))/\
 ((fU == R.ep)=false->
 aU))/\
 ∀(iZ:Unit),(pX R q1 q2=true->
 1<=1/\
 ∀(gx:Nat->
 Value),nO R=(nO R)/\
 bS (nO R)/\
 bS 1/\
 bz gx bD/\
 ∀(eZ:Nat->
 Value),K (au []) [cR R (af T) (ο false) (δ (eZ 14)) (δ (eZ 15)) (aR none) (ζ 1 0 (nO R+1)) (ζ 2 0 (nD R)),ai 107 5 (ae bV R.out++[[dn γ fr,η (ν γ 13),χ 1 [[dn γ R.id],[dn γ R.ep],[η (ν γ R.nu)]],χ 1 [],χ 1 []]]),rD R])/\
 (pX R q1 q2=false->
 ((l0 R q1 q2 {cl:=q3,nm:=q4,kd:=q5,bk:=q6,b:=b}=true->
 ((q5 != 4)=true->
 At bp ([aj 0 0,ε γ fr,aj 3 0,ο true],bM))/\
 ((q5 != 4)=false->
 (∀(fj:Nat->
 Value),∃(eM:List Int),aT ξ R.c=aT ξ eM/\
 eM.length=128/\
 (∀(i_:Int),dW i_ eM->
 0<=i_/\
 i_<256)/\
 bz fj lm/\
 aA 7/\
 ∃(kn:List D),ω[7]? =some kn/\
 ∃(iC:Int),kn[0]? =some (η (ν γ iC))/\
 At bp ([aj 0 0,ε γ fr,aj 3 0,ο (γ.wrap (eG eM) == iC)],[cS R (ε γ R.nu) (bF 128 (aT ξ eM)) (ο R.ch) (af T) (ο false) (δ π) (δ υ) (aR none) (ζ 1 0 (nO R)) (ζ 2 0 (nD R)),rO R,rD R,av]))/\
 aA 7/\
 ∃(fD:List D),ω[7]? =some fD/\
 ∃(ko:Int),fD[0]? =some (η (ν γ ko))/\
 ∀(kO:Nat->
 Value),∃(kp:List Int),aT ξ R.c=aT ξ kp/\
 kp.length=128/\
 (∀(lb:Int),dW lb kp->
 0<=lb/\
 lb<256)/\
 bz kO lm/\
 (∃(oF:Int),fD[0]? =some (η (ν γ oF))/\
 ma oF ko)/\
 At bp ([aj 0 0,ε γ fr,aj 3 0,ο (γ.wrap (eG kp) == ko)],[cS R (ε γ R.nu) (bF 128 (aT ξ kp)) (ο R.ch) (af T) (ο false) (δ π) (δ υ) (aR none) (ζ 1 0 (nO R)) (ζ 2 0 (nD R)),rO R,rD R,av])))/\
 (l0 R q1 q2 {cl:=q3,nm:=q4,kd:=q5,bk:=q6,b:=b}=false->
 At bp ([aj 0 0,ε γ fr,aj 3 0,ο false],bM)))/\
 ∀(m5:Unit),(iu R q1 q2 q7 {cl:=q3,nm:=q4,kd:=q5,bk:=q6,b:=b}=true->
 ∀(lh:Nat->
 Value),∃(oG:List Int),∃(m6:List Int),let b_:=(bF 128 (aT ξ (fm oG q5 q6 m6)));∃(po:List L3),iU (aT ξ R.c) oG/\
 ints ξ b=ints ξ m6/\
 bL T po/\
 rh R.nu/\
 vI q3 q4 q5 q6 m6.length/\
 (Aq q5->
 bz lh bW/\
 1<=1/\
 ∀(sC:Nat->
 Value),nO R=(nO R)/\
 bS (nO R)/\
 bS 1/\
 bz sC bD/\
 ∀(qW:Nat->
 Value),K (au []) [cS R gk b_ (ο true) (af T) (ο false) (δ (qW 14)) (δ (qW 15)) (aR none) (ζ 1 0 (nO R+1)) (ζ 2 0 (nD R)),aN,rD R])/\
 (z8 q5->
 (mE (cY po q3 q4 0)->
 bz lh bW/\
 1<=1/\
 ∀(sD:Nat->
 Value),nO R=(nO R)/\
 bS (nO R)/\
 bS 1/\
 bz sD bD/\
 ∀(tS:Nat->
 Value),K (au []) [cS R gk b_ (ο true) (af T) (ο false) (δ (tS 14)) (δ (tS 15)) (aR none) (ζ 1 0 (nO R+1)) (ζ 2 0 (nD R)),aN,rD R])/\
 (mC (cY po q3 q4 0)->
 bz lh bW/\
 1<=1/\
 ∀(sE:Nat->
 Value),nO R=(nO R)/\
 bS (nO R)/\
 bS 1/\
 bz sE bD/\
 ∀(vk:Nat->
 Value),K (au []) [cS R gk b_ (ο true) (af (bI T [q3] [dn γ q4,η (ν γ 0)])) (ο false) (δ (vk 14)) (δ (vk 15)) (aR none) (ζ 1 0 (nO R+1)) (ζ 2 0 (nD R)),aN,rD R])))/\
 (iu R q1 q2 q7 {cl:=q3,nm:=q4,kd:=q5,bk:=q6,b:=b}=false->
 ∀(vn:Nat->
 Value),nO R=(nO R)/\
 bS (nO R)/\
 bz vn [0,2,3,7,8,9,10,11,12,13,14,15,16,17,18,19,21]/\
 ∀(tT:Nat->
 Value),K (au []) [cR R (af T) (ο false) (δ (tT 14)) (δ (tT 15)) (aR none) (ζ 1 0 (nO R+1)) (ζ 2 0 (nD R)),ai 107 5 (ae bV R.out++[[dn γ fr,η (ν γ 14),χ 1 [[dn γ R.id],[dn γ R.ep],[dn γ R.nu]],χ 1 [],χ 1 []]]),rD R]))
 ):aI Tryz.prog jY (T8 R T π υ fr kd q0 q1 q2 q3 q4 q5 q6 q7 b ls) 89 [aj 0 0,.int γ fr,.agg [.int γ kd,aC (.sl 1 [[dn γ q0],[dn γ q1],[dn γ q2],[dn γ q3],[dn γ q4],[dn γ q5],[dn γ q6],[dn γ q7]]),aC (.sl 1 (ints ξ b)),aC (.sl 1 (ct ls))]] [cR R (af T) (ο false) (δ π) (δ υ) (.aa none) (.sl 1 0 (nO R)) (.sl 2 0 (nD R)),rO R,rD R] (gJ 13 eW K):=by apply Eq.mp (a:=aq);kernel_rfl
theorem aic (R:ι) (T:ML) (I Q:ML) (u:Option (List D)) (fr kd q0 q1 q2 q3 q4 q5 q6 q7:Int) (b:List Int) (ls:List (List Int)) (K:V->KB->Prop) (aq:
 let gk:=(TW R T I Q u fr kd q0 q1 q2 q3 q4 q5 q6 q7 b ls);let eP:=[0,1,2,3,4,5,7,8,9,10,11,12,13,14,15,16,17,18,19,20,21];let cI:=aC (χ 1 (ints ξ b));let b_:=[0,1,2,3,4,8,9,10,11,12,13,14,15,16,17,19,20,21];let bM:=[0,2,3,5,7,8,9,10,11,12,13,14,15,16,17,18,19,21];let bD:=(T0 R T I Q u fr kd q0 q1 q2 q3 q4 q5 q6 q7 b ls);let bp:=ai 107 5 (ae bV R.out++[[dn γ fr,η (ν γ 13),χ 1 [[dn γ R.id],[dn γ R.ep],[η (ν γ (R.nu+1))]],χ 1 [],χ 1 []]]);let av:=aB [ε γ q3,ε γ q4,ε γ q5,ε γ q6,cI];let bQ:KB:=[cR R (af T) (ο true) (aY 1) (aY 2) (aR u) (ζ 3 0 (nO R)) (ζ 4 0 (nD R)),an I,an Q,rO R,rD R,av];let ω:=[[dn γ q0],[dn γ q1],[dn γ q2],[dn γ q3],[dn γ q4],[dn γ q5],[dn γ q6],[dn γ q7]];let bW:=aB [ε γ kd,aC (χ 1 ω),cI,aC (χ 1 (ct ls))];let θ:KB:=[cR R (af T) (ο true) (aY 1) (aY 2) (aR u) (ζ 3 0 (nO R)) (ζ 4 0 (nD R)),an I,an Q,rO R,rD R,bW,av];let aU:=At gk ([aj 0 0,ε γ fr,aj 5 0,aj 6 0,ο false],θ);let aJ:=At (TY R T I Q u fr kd q0 q1 q2 q3 q4 q5 q6 q7 b ls) ([aj 0 0,ε γ fr,aj 5 0,aj 6 0,ο (l0 R q1 q2 {cl:=q3,nm:=q4,kd:=q5,bk:=q6,b:=b}),ο false],θ);(aA 3/\
 ∃(y1:List D),ω[3]? =some y1/\
 ∃(y2:Int),y1[0]? =some (η (ν γ y2))/\
 aA 4/\
 ∃(y3:List D),ω[4]? =some y3/\
 ∃(y4:Int),y3[0]? =some (η (ν γ y4))/\
 aA 5/\
 ∃(y5:List D),ω[5]? =some y5/\
 ∃(y6:Int),y5[0]? =some (η (ν γ y6))/\
 aA 6/\
 ∃(y7:List D),ω[6]? =some y7/\
 ∃(y8:Int),y7[0]? =some (η (ν γ y8))/\
 True/\
 (∃(y9:Int),y7[0]? =some (η (ν γ y9))/\
 True)/\
 True/\
 (∃(cU:Int),y5[0]? =some (η (ν γ cU))/\
 True)/\
 True/\
 (∃(cD:Int),y3[0]? =some (η (ν γ cD))/\
 True)/\
 True/\
 (∃(cE:Int),y1[0]? =some (η (ν γ cE))/\
 True)/\
 True/\
 At (TU R T I Q u fr kd q0 q1 q2 q3 q4 q5 q6 q7 b ls) ([aj 0 0,ε γ fr,aj 5 0,aj 6 0],[cR R (af T) (ο true) (aY 1) (aY 2) (aR u) (ζ 3 0 (nO R)) (ζ 4 0 (nD R)),an I,an Q,rO R,rD R,bW,aB [ε γ y2,ε γ y4,ε γ y6,ε γ y8,cI]]))/\
 ∀(cP:Unit),(aA 1/\
 ∃(dH:List D),ω[1]? =some dH/\
 ∃(cZ:Int),dH[0]? =some (η (ν γ cZ))/\
 ((cZ == R.ep)=true->
 aA 2/\
 ∃(fZ:List D),ω[2]? =some fZ/\
 ∃(dr:Int),fZ[0]? =some (η (ν γ dr))/\
 ((dr == γ.wrap (R.nu+1))=true->
 (false=true->
 At gk ([aj 0 0,ε γ fr,aj 5 0,aj 6 0,ο (kh q3 q4 q5 q6 (ints ξ b).length)],θ))/\
 (false=false->
 aU))/\
 ((dr == γ.wrap (R.nu+1))=false->
 aU))/\
 ((cZ == R.ep)=false->
 aU))/\
 ∀(fx:Unit),(aA 1/\
 ∃(fO:List D),ω[1]? =some fO/\
 ∃(fU:Int),fO[0]? =some (η (ν γ fU))/\
 ((fU == R.ep)=true->
 aA 2/\
 ∃(fh:List D),ω[2]? =some fh/\
 ∃(fP:Int),fh[0]? =some (η (ν γ fP))/\
 ((fP == R.nu)=true->
 aJ)/\
 ((fP == R.nu)=false->
 aJ))/\
 ((fU == R.ep)=false->
 aJ))/\
 ∀(iZ:Unit),(pX R q1 q2=true->
 1<=1/\
 ∀(gx:Nat->
 Value),nO R=(nO R)/\
 bS (nO R)/\
 bS 1/\
 bz gx bM/\
 K (au []) [cR R (af T) (ο true) (aY 1) (aY 2) (aR u) (ζ 3 0 (nO R+1)) (ζ 4 0 (nD R)),an I,an Q,ai 107 5 (ae bV R.out++[[dn γ fr,η (ν γ 13),χ 1 [[dn γ R.id],[dn γ R.ep],[η (ν γ R.nu)]],χ 1 [],χ 1 []]]),rD R])/\
 (pX R q1 q2=false->
 ((l0 R q1 q2 {cl:=q3,nm:=q4,kd:=q5,bk:=q6,b:=b}=true->
 ((q5 != 4)=true->
 At bD ([aj 0 0,ε γ fr,aj 5 0,ο true],bQ))/\
 ((q5 != 4)=false->
 (∀(eZ:Nat->
 Value),∃(fj:List Int),aT ξ R.c=aT ξ fj/\
 fj.length=128/\
 (∀(eM:Int),dW eM fj->
 0<=eM/\
 eM<256)/\
 bz eZ eP/\
 aA 7/\
 ∃(i_:List D),ω[7]? =some i_/\
 ∃(kn:Int),i_[0]? =some (η (ν γ kn))/\
 At bD ([aj 0 0,ε γ fr,aj 5 0,ο (γ.wrap (eG fj) == kn)],[cS R (ε γ R.nu) (bF 128 (aT ξ fj)) (ο R.ch) (af T) (ο true) (aY 1) (aY 2) (aR u) (ζ 3 0 (nO R)) (ζ 4 0 (nD R)),an I,an Q,rO R,rD R,av]))/\
 aA 7/\
 ∃(iC:List D),ω[7]? =some iC/\
 ∃(fD:Int),iC[0]? =some (η (ν γ fD))/\
 ∀(ko:Nat->
 Value),∃(kO:List Int),aT ξ R.c=aT ξ kO/\
 kO.length=128/\
 (∀(kp:Int),dW kp kO->
 0<=kp/\
 kp<256)/\
 bz ko eP/\
 (∃(lb:Int),iC[0]? =some (η (ν γ lb))/\
 ma lb fD)/\
 At bD ([aj 0 0,ε γ fr,aj 5 0,ο (γ.wrap (eG kO) == fD)],[cS R (ε γ R.nu) (bF 128 (aT ξ kO)) (ο R.ch) (af T) (ο true) (aY 1) (aY 2) (aR u) (ζ 3 0 (nO R)) (ζ 4 0 (nD R)),an I,an Q,rO R,rD R,av])))/\
 (l0 R q1 q2 {cl:=q3,nm:=q4,kd:=q5,bk:=q6,b:=b}=false->
 At bD ([aj 0 0,ε γ fr,aj 5 0,ο false],bQ)))/\
 ∀(oF:Unit),(iu R q1 q2 q7 {cl:=q3,nm:=q4,kd:=q5,bk:=q6,b:=b}=true->
 ∀(m5:Nat->
 Value),∃(lh:List Int),∃(oG:List Int),let gM:=(bF 128 (aT ξ (fm lh q5 q6 oG)));let aN:=K (au []) [cS R (ε γ (R.nu+1)) gM (ο true) (af T) (ο true) (aY 1) (aY 2) (aR u) (ζ 3 0 (nO R+1)) (ζ 4 0 (nD R)),an I,an Q,bp,rD R];∃(m6:List L3),iU (aT ξ R.c) lh/\
 ints ξ b=ints ξ oG/\
 bL T m6/\
 rh R.nu/\
 vI q3 q4 q5 q6 oG.length/\
 (Aq q5->
 bz m5 b_/\
 1<=1/\
 ∀(po:Nat->
 Value),nO R=(nO R)/\
 bS (nO R)/\
 bS 1/\
 bz po bM/\
 aN)/\
 (z8 q5->
 (mE (cY m6 q3 q4 0)->
 bz m5 b_/\
 1<=1/\
 ∀(sC:Nat->
 Value),nO R=(nO R)/\
 bS (nO R)/\
 bS 1/\
 bz sC bM/\
 aN)/\
 (mC (cY m6 q3 q4 0)->
 bz m5 b_/\
 1<=1/\
 ∀(qW:Nat->
 Value),nO R=(nO R)/\
 bS (nO R)/\
 bS 1/\
 bz qW bM/\
 K (au []) [cS R (ε γ (R.nu+1)) gM (ο true) (af (bI T [q3] [dn γ q4,η (ν γ 0)])) (ο true) (aY 1) (aY 2) (aR u) (ζ 3 0 (nO R+1)) (ζ 4 0 (nD R)),an I,an Q,bp,rD R])))/\
 (iu R q1 q2 q7 {cl:=q3,nm:=q4,kd:=q5,bk:=q6,b:=b}=false->
 ∀(sD:Nat->
 Value),nO R=(nO R)/\
 bS (nO R)/\
 bz sD [0,2,3,7,8,9,10,11,12,13,14,15,16,17,18,19,21]/\
 K (au []) [cR R (af T) (ο true) (aY 1) (aY 2) (aR u) (ζ 3 0 (nO R+1)) (ζ 4 0 (nD R)),an I,an Q,ai 107 5 (ae bV R.out++[[dn γ fr,η (ν γ 14),χ 1 [[dn γ R.id],[dn γ R.ep],[dn γ R.nu]],χ 1 [],χ 1 []]]),rD R]))
 ):aI Tryz.prog jY (T7 R T I Q u fr kd q0 q1 q2 q3 q4 q5 q6 q7 b ls) 89 [aj 0 0,.int γ fr,.agg [.int γ kd,aC (.sl 1 [[dn γ q0],[dn γ q1],[dn γ q2],[dn γ q3],[dn γ q4],[dn γ q5],[dn γ q6],[dn γ q7]]),aC (.sl 1 (ints ξ b)),aC (.sl 1 (ct ls))]] [cR R (af T) (ο true) (.mp 1) (.mp 2) (.aa u) (.sl 3 0 (nO R)) (.sl 4 0 (nD R)),an I,an Q,rO R,rD R] (gJ 13 eW K):=by apply Eq.mp (a:=aq);kernel_rfl
theorem zh {R:ι} {q1 q2:Int} {o:Op} (h:¬ (q1=R.ep/\q2=R.nu+1/\ef R=false)):l0 R q1 q2 o=false:=by
 unfold l0;exact decide_eq_false fun⟨a,b,c,_⟩=>h ⟨a,b,c⟩
theorem ad_ {R:ι} {q1 q2:Int} {o:Op} (h1:q1=R.ep) (h2:q2=R.nu+1) (h3:ef R=false):l0 R q1 q2 o=gh o:=by
 unfold l0;simp [h1,h2,h3]
theorem zi {R:ι} {q1 q2:Int} (h:¬ (q1=R.ep/\q2=R.nu/\ef R=false)):pX R q1 q2=false:=decide_eq_false h
theorem aei {R:ι} {q1 q2:Int} (h1:q1=R.ep) (h2:q2=R.nu) (h3:ef R=false):pX R q1 q2=true:=decide_eq_true ⟨h1,h2,h3⟩
theorem T6 {R:ι} {fr kd q0 q1 q2 q3 q4 q5 q6 q7:Int} {b:List Int} {ls:List (List Int)} (h:pX R q1 q2=true):iR R fr ⟨kd,[q0,q1,q2,q3,q4,q5,q6,q7],b,ls⟩=iz R fr 13 [R.nu] [] []:=by
 unfold iR;exact if_pos (of_decide_eq_true h)
theorem Kg {R:ι} {q1 q2 q3 q4 q5 q6 q7:Int} {b:List Int}:iu R q1 q2 q7 ⟨q3,q4,q5,q6,b⟩=true ↔ (q1=R.ep/\q2=R.nu+1/\ef R=false/\gh ⟨q3,q4,q5,q6,b⟩=true/\(q5≠4∨eG R.c=q7)):=by
 unfold iu l0
 simp [and_assoc]
theorem Ki {R:ι} {fr kd q0 q1 q2 q3 q4 q5 q6 q7:Int} {b:List Int} {ls:List (List Int)} (h:pX R q1 q2=false) (h2:iu R q1 q2 q7 ⟨q3,q4,q5,q6,b⟩=true):iR R fr ⟨kd,[q0,q1,q2,q3,q4,q5,q6,q7],b,ls⟩=iz (gE R ⟨q3,q4,q5,q6,b⟩) fr 13 [R.nu+1] [] []:=by
 unfold iR
 exact(if_neg (of_decide_eq_false h)).trans (if_pos (Kg.1 h2))
theorem T5 {R:ι} {fr kd q0 q1 q2 q3 q4 q5 q6 q7:Int} {b:List Int} {ls:List (List Int)} (h:pX R q1 q2=false) (h2:iu R q1 q2 q7 ⟨q3,q4,q5,q6,b⟩=false):iR R fr ⟨kd,[q0,q1,q2,q3,q4,q5,q6,q7],b,ls⟩=ou R fr:=by
 unfold iR
 exact(if_neg (of_decide_eq_false h)).trans (if_neg (fun hh=>by have h3:iu R q1 q2 q7 ⟨q3,q4,q5,q6,b⟩=true:=Kg.2 hh;rw[h2]at h3;cases h3))
theorem G7 {t:List L3} {o:Op} (h:je o=false∨cY t o.cl o.nm 0≠0):kD t o=t:=by
 unfold kD
 rw[if_neg]
 rintro⟨h1,h2⟩
 rcases h with h | h
 ·rw[h]at h1;cases h1
 ·exact h h2
theorem Ps {t:List L3} {o:Op} (h:je o=true) (h2:cY t o.cl o.nm 0=0):kD t o=pd t o.cl o.nm 0:=by
 unfold kD
 rw[if_pos ⟨h,h2⟩]
theorem ael (R:ι) (T:ML) (π υ:Value) (fr kd q0 q1 q2 q3 q4 q5 q6 q7:Int) (b:List Int) (ls:List (List Int)) (hT:bL T R.t) (hl:R.ld=none) (hR:dF R) (eN:∀ π υ,aF R [cR R (af T) (ο false) (δ π) (δ υ) (.aa none) (.sl 1 0 (nO R)) (.sl 2 0 (nD R)),rO R,rD R]) (K:V->KB->Prop) (hK:∀ kb',aF (iR R fr ⟨kd,[q0,q1,q2,q3,q4,q5,q6,q7],b,ls⟩) kb'->K (.φ []) kb'):aI Tryz.prog jY (T8 R T π υ fr kd q0 q1 q2 q3 q4 q5 q6 q7 b ls) 89 [aj 0 0,.int γ fr,.agg [.int γ kd,aC (.sl 1 [[dn γ q0],[dn γ q1],[dn γ q2],[dn γ q3],[dn γ q4],[dn γ q5],[dn γ q6],[dn γ q7]]),aC (.sl 1 (ints ξ b)),aC (.sl 1 (ct ls))]] [cR R (af T) (ο false) (δ π) (δ υ) (.aa none) (.sl 1 0 (nO R)) (.sl 2 0 (nD R)),rO R,rD R] (gJ 13 eW K):=by
 have fin:∀{R':ι} {kb':KB},iR R fr ⟨kd,[q0,q1,q2,q3,q4,q5,q6,q7],b,ls⟩=R'->aF R' kb'->K (.φ []) kb':=fun{R' kb'} h1 h2=>by
  have:=hK kb'
  rw[h1]at this
  exact this h2
 have nt:iU (aT ξ R.c) R.c:=⟨rfl,hR.cl,hR.cb⟩
 have fK:nO R<=1000000:=by show(ae bV R.out).length<=_;rw[bT];have:=hR.ol;omega
 have kX:rh R.nu:=⟨hR.n0,by have:=hR.n1;omega⟩
 have ew:γ.wrap (R.nu+1)=R.nu+1:=bE (by have:=kX.lo;omega) (by have:=kX.hi;omega)
 have QQ:=yi R.c
 have ec:γ.wrap (eG R.c)=eG R.c:=bE (by omega) (by omega)
 have nA:ef R=false:=by simp [ef,hl]
 exact aid R T π υ fr kd q0 q1 q2 q3 q4 q5 q6 q7 b ls K ⟨⟨(by decide:(0:Int)<=3),_,rfl,q3,rfl,(by decide:(0:Int)<=4),_,rfl,q4,rfl,(by decide:(0:Int)<=5),_,rfl,q5,rfl,(by decide:(0:Int)<=6),_,rfl,q6,rfl,trivial,⟨q6,rfl,trivial⟩,trivial,⟨q5,rfl,trivial⟩,trivial,⟨q4,rfl,trivial⟩,trivial,⟨q3,rfl,trivial⟩,trivial,At.mk' () rfl⟩,
  fun _=>⟨⟨(by decide:(0:Int)<=1),_,rfl,q1,rfl,fun e1=>⟨(by decide:(0:Int)<=2),_,rfl,q2,rfl,fun e2=>⟨fun _=>At.mk' () (by simp only[ad_ (o:=⟨q3,q4,q5,q6,b⟩) (show q1=R.ep by simpa using e1) (show q2=R.nu+1 by simpa [ew]using e2) nA,gh,bi]),fun f=>(by cases f)⟩,fun e2=>At.mk' () (by simp only[zh (o:=⟨q3,q4,q5,q6,b⟩) (fun h=>absurd h.2.1 (show ¬ q2=R.nu+1 by simpa [ew]using e2))])⟩,fun e1=>At.mk' () (by simp only[zh (o:=⟨q3,q4,q5,q6,b⟩) (q2:=q2) (fun h=>absurd h.1 (show ¬ q1=R.ep by simpa using e1))])⟩,
  fun _=>⟨⟨(by decide:(0:Int)<=1),_,rfl,q1,rfl,fun e1=>⟨(by decide:(0:Int)<=2),_,rfl,q2,rfl,fun e2=>At.mk' () (by simp only[aei (show q1=R.ep by simpa using e1) (show q2=R.nu by simpa using e2) nA]),fun e2=>At.mk' () (by simp only[zi (q1:=q1) (fun h=>absurd h.2.1 (show ¬ q2=R.nu by simpa using e2))])⟩,fun e1=>At.mk' () (by simp only[zi (q2:=q2) (fun h=>absurd h.1 (show ¬ q1=R.ep by simpa using e1))])⟩,
  fun _=>⟨fun hs=>⟨ar _,fun f=>⟨rfl,⟨fK⟩,⟨by decide⟩,⟨by simp [bU]⟩,fun f=>fin (T6 hs) (by
  unfold aF iz
  simp only[hl]
  refine⟨f 14,f 15,T,hT,?_⟩
  simp [cR,cS,bV,jA,gg,dn,ints,oW,gE]
  try rfl)⟩⟩,fun hs=>⟨⟨fun hn=>⟨fun e=>At.mk' () (by simp only[show iu R q1 q2 q7 ⟨q3,q4,q5,q6,b⟩=true by simp only[iu,hn,e,Bool.true_and,Bool.true_or]]),fun e=>⟨fun f=>⟨R.c,rfl,hR.cl,hR.cb,⟨by simp [bU]⟩,(by decide:(0:Int)<=7),_,rfl,q7,rfl,At.mk' () (by simp only[ec,show iu R q1 q2 q7 ⟨q3,q4,q5,q6,b⟩=(eG R.c == q7) by simp only[iu,hn,e,Bool.true_and,Bool.false_or]];try rfl)⟩,(by decide:(0:Int)<=7),_,rfl,q7,rfl,fun f=>⟨R.c,rfl,hR.cl,hR.cb,⟨by simp [bU]⟩,⟨q7,rfl,⟨rfl⟩⟩,At.mk' () (by simp only[ec,show iu R q1 q2 q7 ⟨q3,q4,q5,q6,b⟩=(eG R.c == q7) by simp only[iu,hn,e,Bool.true_and,Bool.false_or]];try rfl)⟩⟩⟩,fun hn=>At.mk' () (by simp only[show iu R q1 q2 q7 ⟨q3,q4,q5,q6,b⟩=false by simp only[iu,hn,Bool.false_and]])⟩,
  fun _=>⟨fun hg=>fun f=>⟨R.c,b,R.t,nt,rfl,hT,kX,⟨(Kg.1 hg).2.2.2.1⟩,fun hc=>⟨⟨by simp [bU]⟩,⟨ar _,fun f=>⟨rfl,⟨fK⟩,⟨by decide⟩,⟨by simp [bU]⟩,fun f=>fin (Ki hs hg) (by
  unfold aF iz gE
  simp only[hl,G7 (t:=R.t) (o:=⟨q3,q4,q5,q6,b⟩) (.inl hc.h)]
  refine⟨f 14,f 15,T,hT,?_⟩
  simp [cR,cS,bV,jA,gg,dn,ints,oW,gE]
  try rfl)⟩⟩⟩,fun hc=>⟨fun hz=>⟨⟨by simp [bU]⟩,⟨ar _,fun f=>⟨rfl,⟨fK⟩,⟨by decide⟩,⟨by simp [bU]⟩,fun f=>fin (Ki hs hg) (by
  unfold aF iz gE
  simp only[hl,G7 (t:=R.t) (o:=⟨q3,q4,q5,q6,b⟩) (.inr hz.h)]
  refine⟨f 14,f 15,T,hT,?_⟩
  simp [cR,cS,bV,jA,gg,dn,ints,oW,gE]
  try rfl)⟩⟩⟩,fun hz=>⟨⟨by simp [bU]⟩,⟨ar _,fun f=>⟨rfl,⟨fK⟩,⟨by decide⟩,⟨by simp [bU]⟩,fun f=>fin (Ki hs hg) (by
  unfold aF iz gE
  simp only[hl,Ps (t:=R.t) (o:=⟨q3,q4,q5,q6,b⟩) hc.h hz.h]
  refine⟨f 14,f 15,_,D8 hT hz.h,?_⟩
  simp [cR,cS,bV,jA,gg,dn,ints,oW,gE]
  try rfl)⟩⟩⟩⟩⟩,fun hg=>fun f=>⟨rfl,⟨fK⟩,⟨by simp [bU]⟩,fun f=>fin (T5 hs hg) (by
  unfold aF ou iz
  simp only[hl]
  refine⟨f 14,f 15,T,hT,?_⟩
  simp [cR,bV,jA,gg,dn,ints,oW])⟩⟩⟩⟩⟩⟩⟩
theorem aek (R:ι) (T:ML) (I Q:ML) (L:b9) (fr kd q0 q1 q2 q3 q4 q5 q6 q7:Int) (b:List Int) (ls:List (List Int)) (hT:bL T R.t) (hl:R.ld=some L) (hI:MB I L.ins) (hQ:MB Q L.cy) (hR:dF R) (hkb:aF R [cR R (af T) (ο true) (.mp 1) (.mp 2) (.aa (L.cur.map bo)) (.sl 3 0 (nO R)) (.sl 4 0 (nD R)),an I,an Q,rO R,rD R]) (K:V->KB->Prop) (hK:∀ kb',aF (iR R fr ⟨kd,[q0,q1,q2,q3,q4,q5,q6,q7],b,ls⟩) kb'->K (.φ []) kb'):aI Tryz.prog jY (T7 R T I Q (L.cur.map bo) fr kd q0 q1 q2 q3 q4 q5 q6 q7 b ls) 89 [aj 0 0,.int γ fr,.agg [.int γ kd,aC (.sl 1 [[dn γ q0],[dn γ q1],[dn γ q2],[dn γ q3],[dn γ q4],[dn γ q5],[dn γ q6],[dn γ q7]]),aC (.sl 1 (ints ξ b)),aC (.sl 1 (ct ls))]] [cR R (af T) (ο true) (.mp 1) (.mp 2) (.aa (L.cur.map bo)) (.sl 3 0 (nO R)) (.sl 4 0 (nD R)),an I,an Q,rO R,rD R] (gJ 13 eW K):=by
 have fin:∀{R':ι} {kb':KB},iR R fr ⟨kd,[q0,q1,q2,q3,q4,q5,q6,q7],b,ls⟩=R'->aF R' kb'->K (.φ []) kb':=fun{R' kb'} h1 h2=>by
  have:=hK kb'
  rw[h1]at this
  exact this h2
 have nt:iU (aT ξ R.c) R.c:=⟨rfl,hR.cl,hR.cb⟩
 have fK:nO R<=1000000:=by show(ae bV R.out).length<=_;rw[bT];have:=hR.ol;omega
 have kX:rh R.nu:=⟨hR.n0,by have:=hR.n1;omega⟩
 have ew:γ.wrap (R.nu+1)=R.nu+1:=bE (by have:=kX.lo;omega) (by have:=kX.hi;omega)
 have QQ:=yi R.c
 have ec:γ.wrap (eG R.c)=eG R.c:=bE (by omega) (by omega)
 have nA:ef R=true:=by simp [ef,hl]
 exact aic R T I Q (L.cur.map bo) fr kd q0 q1 q2 q3 q4 q5 q6 q7 b ls K ⟨⟨(by decide:(0:Int)<=3),_,rfl,q3,rfl,(by decide:(0:Int)<=4),_,rfl,q4,rfl,(by decide:(0:Int)<=5),_,rfl,q5,rfl,(by decide:(0:Int)<=6),_,rfl,q6,rfl,trivial,⟨q6,rfl,trivial⟩,trivial,⟨q5,rfl,trivial⟩,trivial,⟨q4,rfl,trivial⟩,trivial,⟨q3,rfl,trivial⟩,trivial,At.mk' () rfl⟩,
  fun _=>⟨⟨(by decide:(0:Int)<=1),_,rfl,q1,rfl,fun e1=>⟨(by decide:(0:Int)<=2),_,rfl,q2,rfl,fun e2=>⟨fun f=>(by cases f),fun _=>At.mk' () (by simp only[zh (R:=R) (q1:=q1) (q2:=q2) (o:=⟨q3,q4,q5,q6,b⟩) (fun h=>absurd h.2.2 (by rw[nA];decide))])⟩,fun e2=>At.mk' () (by simp only[zh (o:=⟨q3,q4,q5,q6,b⟩) (fun h=>absurd h.2.1 (show ¬ q2=R.nu+1 by simpa [ew]using e2))])⟩,fun e1=>At.mk' () (by simp only[zh (o:=⟨q3,q4,q5,q6,b⟩) (q2:=q2) (fun h=>absurd h.1 (show ¬ q1=R.ep by simpa using e1))])⟩,
  fun _=>⟨⟨(by decide:(0:Int)<=1),_,rfl,q1,rfl,fun e1=>⟨(by decide:(0:Int)<=2),_,rfl,q2,rfl,fun e2=>At.mk' () (by simp only[zi (R:=R) (q1:=q1) (q2:=q2) (fun h=>absurd h.2.2 (by rw[nA];decide))]),fun e2=>At.mk' () (by simp only[zi (q1:=q1) (fun h=>absurd h.2.1 (show ¬ q2=R.nu by simpa using e2))])⟩,fun e1=>At.mk' () (by simp only[zi (q2:=q2) (fun h=>absurd h.1 (show ¬ q1=R.ep by simpa using e1))])⟩,
  fun _=>⟨fun hs=>⟨ar _,fun f=>⟨rfl,⟨fK⟩,⟨by decide⟩,⟨by simp [bU]⟩,fin (T6 hs) (by
  unfold aF iz
  simp only[hl]
  refine⟨I,Q,T,hI,hQ,hT,?_⟩
  simp [cR,cS,bV,jA,gg,dn,ints,oW,gE]
  try rfl)⟩⟩,fun hs=>⟨⟨fun hn=>⟨fun e=>At.mk' () (by simp only[show iu R q1 q2 q7 ⟨q3,q4,q5,q6,b⟩=true by simp only[iu,hn,e,Bool.true_and,Bool.true_or]]),fun e=>⟨fun f=>⟨R.c,rfl,hR.cl,hR.cb,⟨by simp [bU]⟩,(by decide:(0:Int)<=7),_,rfl,q7,rfl,At.mk' () (by simp only[ec,show iu R q1 q2 q7 ⟨q3,q4,q5,q6,b⟩=(eG R.c == q7) by simp only[iu,hn,e,Bool.true_and,Bool.false_or]];try rfl)⟩,(by decide:(0:Int)<=7),_,rfl,q7,rfl,fun f=>⟨R.c,rfl,hR.cl,hR.cb,⟨by simp [bU]⟩,⟨q7,rfl,⟨rfl⟩⟩,At.mk' () (by simp only[ec,show iu R q1 q2 q7 ⟨q3,q4,q5,q6,b⟩=(eG R.c == q7) by simp only[iu,hn,e,Bool.true_and,Bool.false_or]];try rfl)⟩⟩⟩,fun hn=>At.mk' () (by simp only[show iu R q1 q2 q7 ⟨q3,q4,q5,q6,b⟩=false by simp only[iu,hn,Bool.false_and]])⟩,
  fun _=>⟨fun hg=>absurd hg (by simp [iu,l0,nA]),fun hg=>fun f=>⟨rfl,⟨fK⟩,⟨by simp [bU]⟩,fin (T5 hs hg) (by
  unfold aF ou iz
  simp only[hl]
  refine⟨I,Q,T,hI,hQ,hT,?_⟩
  simp [cR,bV,jA,gg,dn,ints,oW])⟩⟩⟩⟩⟩⟩⟩
def XN:aE:=fun args kb K=>∃ R fr kd q0 q1 q2 q3 q4 q5 q6 q7 b ls,args=[aj 0 0,.int γ fr,.agg [.int γ kd,aC (.sl 1 [[dn γ q0],[dn γ q1],[dn γ q2],[dn γ q3],[dn γ q4],[dn γ q5],[dn γ q6],[dn γ q7]]),aC (.sl 1 (ints ξ b)),aC (.sl 1 (ct ls))]]/\aF R kb/\dF R/\∀ kb',aF (iR R fr ⟨kd,[q0,q1,q2,q3,q4,q5,q6,q7],b,ls⟩) kb'->K (.φ []) kb'
theorem adi:gB Tryz.prog 89 XN:=uQ mixed 13 eW (fun args kb K h=>by
 obtain⟨R,fr,kd,q0,q1,q2,q3,q4,q5,q6,q7,b,ls,rfl,hkb,hR,hK⟩:=h
 have jh:=hkb
 unfold aF at hkb
 split at hkb
 ·rename_i hl
  obtain⟨π,υ,T,hT,rfl⟩:=hkb
  exact⟨_,_,qk,ael R T π υ fr kd q0 q1 q2 q3 q4 q5 q6 q7 b ls hT hl hR (fun a b=>by unfold aF;simp only[hl];exact⟨a,b,T,hT,rfl⟩) K hK⟩
 ·rename_i L hl
  obtain⟨I,Q,T,hI,hQ,hT,rfl⟩:=hkb
  exact⟨_,_,qk,aek R T I Q L fr kd q0 q1 q2 q3 q4 q5 q6 q7 b ls hT hl hI hQ hR jh K hK⟩)
structure gR (R:ι) (kb:KB):Prop where
 h:aF R kb
structure oO (R:ι):Prop where
 h:dF R
structure FD (R:ι) (b:List Int) (ls:List (List Int)):Prop where
 ok:dF R
 Za:bq b
 l:b.length<=900000
 ls:∀ y∈ls,bq y/\y.length<=140737488355328
def M1:aE:=fun args kb K=>∃ R fr kd q0 q1 q2 b ls,args=[aj 0 0,.int γ fr,.agg [.int γ kd,aC (.sl 1 [[dn γ q0],[dn γ q1],[dn γ q2]]),aC (.sl 1 (ints ξ b)),aC (.sl 1 (ct ls))]]/\gR R kb/\FD R b ls/\∀ kb',gR (iS R fr ⟨kd,[q0,q1,q2],b,ls⟩) kb'->K (.φ []) kb'
theorem acY:gB Tryz.prog 87 M1:=fun args kb K h=>adR args kb K (by
 obtain⟨R,fr,kd,q0,q1,q2,b,ls,rfl,hkb,hO,hK⟩:=h
 exact⟨R,fr,kd,q0,q1,q2,b,ls,rfl,hkb.h,hO.ok,hO.Za,hO.l,hO.ls,fun kb' hk=>hK kb' ⟨hk⟩⟩)
def M3:aE:=fun args kb K=>∃ R fr kd q0 q1 q2 b ls,args=[aj 0 0,.int γ fr,.agg [.int γ kd,aC (.sl 1 [[dn γ q0],[dn γ q1],[dn γ q2]]),aC (.sl 1 (ints ξ b)),aC (.sl 1 (ct ls))]]/\gR R kb/\oO R/\∀ kb',gR (iA R fr ⟨kd,[q0,q1,q2],b,ls⟩) kb'->K (.φ []) kb'
theorem acZ:gB Tryz.prog 88 M3:=fun args kb K h=>adS args kb K (by
 obtain⟨R,fr,kd,q0,q1,q2,b,ls,rfl,hkb,hO,hK⟩:=h
 exact⟨R,fr,kd,q0,q1,q2,b,ls,rfl,hkb.h,hO.h,fun kb' hk=>hK kb' ⟨hk⟩⟩)
def MX:aE:=fun args kb K=>∃ R fr kd q0 q1 q2 q3 q4 q5 q6 q7 b ls,args=[aj 0 0,.int γ fr,.agg [.int γ kd,aC (.sl 1 [[dn γ q0],[dn γ q1],[dn γ q2],[dn γ q3],[dn γ q4],[dn γ q5],[dn γ q6],[dn γ q7]]),aC (.sl 1 (ints ξ b)),aC (.sl 1 (ct ls))]]/\gR R kb/\oO R/\∀ kb',gR (iR R fr ⟨kd,[q0,q1,q2,q3,q4,q5,q6,q7],b,ls⟩) kb'->K (.φ []) kb'
theorem acV:gB Tryz.prog 89 MX:=fun args kb K h=>adi args kb K (by
 obtain⟨R,fr,kd,q0,q1,q2,q3,q4,q5,q6,q7,b,ls,rfl,hkb,hO,hK⟩:=h
 exact⟨R,fr,kd,q0,q1,q2,q3,q4,q5,q6,q7,b,ls,rfl,hkb.h,hO.h,fun kb' hk=>hK kb' ⟨hk⟩⟩)
def MY:aE:=fun args kb K=>∃ R fr kd q0 q1 q2 b ls,args=[aj 0 0,.int γ fr,.agg [.int γ kd,aC (.sl 1 [[dn γ q0],[dn γ q1],[dn γ q2]]),aC (.sl 1 (ints ξ b)),aC (.sl 1 (ct ls))]]/\gR R kb/\oO R/\∀ kb',gR (iw R fr ⟨kd,[q0,q1,q2],b,ls⟩) kb'->K (.φ []) kb'
theorem acW:gB Tryz.prog 90 MY:=fun args kb K h=>adj args kb K (by
 obtain⟨R,fr,kd,q0,q1,q2,b,ls,rfl,hkb,hO,hK⟩:=h
 exact⟨R,fr,kd,q0,q1,q2,b,ls,rfl,hkb.h,hO.h,fun kb' hk=>hK kb' ⟨hk⟩⟩)
def MZ:aE:=fun args kb K=>∃ R fr kd q0 q1 q2 b ls,args=[aj 0 0,.int γ fr,.agg [.int γ kd,aC (.sl 1 [[dn γ q0],[dn γ q1],[dn γ q2]]),aC (.sl 1 (ints ξ b)),aC (.sl 1 (ct ls))]]/\gR R kb/\oO R/\∀ kb',gR (iy R fr ⟨kd,[q0,q1,q2],b,ls⟩) kb'->K (.φ []) kb'
theorem acX:gB Tryz.prog 91 MZ:=fun args kb K h=>adI args kb K (by
 obtain⟨R,fr,kd,q0,q1,q2,b,ls,rfl,hkb,hO,hK⟩:=h
 exact⟨R,fr,kd,q0,q1,q2,b,ls,rfl,hkb.h,hO.h,fun kb' hk=>hK kb' ⟨hk⟩⟩)
def Ij:FuncId->Option du
 | 87=>some ⟨[.tail],M1⟩
 | 88=>some ⟨[.tail],M3⟩
 | 89=>some ⟨[.tail],MX⟩
 | 90=>some ⟨[.tail],MY⟩
 | 91=>some ⟨[.tail],MZ⟩
 | 70=>some ⟨[],AD⟩
 |_=>none
noncomputable def xY:cd:=dM Tryz.prog Ij aG 10
theorem ahQ (R:ι) (T:ML) (π υ:Value) (fr:Int) (m:dL) (K:V->KB->Prop) (aq:
 let aU:=[η (ν γ 3)];let av:KB:=[cR R (af T) (ο false) (δ π) (δ υ) (aR none) (ζ 1 0 (nO R)) (ζ 2 0 (nD R)),rO R,rD R];let ω:=[aj 0 0,ε γ fr,fz [ε γ m.kd,aC (χ 1 (ints γ m.n)),aC (χ 1 (ints ξ m.b)),aC (χ 1 (ct m.l))]];let θ:=(bI (bI (bI (bI (bI [] [10] aU) [11] aU) [12] [η (ν γ 8)]) [13] aU) [14] aU);let aJ:=((↑(ints γ m.n).length:Int) == eI θ [m.kd] 0)=true;let aN:=((↑(ints γ m.n).length:Int) == eI θ [m.kd] 0)=false;([m.kd]=[10]->
 (∀(y1:List D),bK θ [m.kd]=some y1->
 gN [CK.int γ] y1)/\
 (aJ->
 aA 0/\
 ∃(y2:List D),(ints γ m.n)[0]? =some y2/\
 ∃(y3:Int),y2[0]? =some (η (ν γ y3))/\
 ((y3 == R.id)=true->
 ((fr != R.me)=true->
 ∃(y4:List Int),ints γ m.n=ints γ y4/\
 dK y4.length/\
 ((!y4.any cJ)=true->
 ∃(y5:ι),∃(y6:Int),∃(y7:Int),∃(y8:Int),∃(y9:Int),∃(cU:Int),∃(cD:List Int),∃(cE:List (List Int)),ω=[aj 0 0,ε γ y6,fz [ε γ y7,aC (χ 1 [[dn γ y8],[dn γ y9],[dn γ cU]]),aC (χ 1 (ints ξ cD)),aC (χ 1 (ct cE))]]/\
 gR y5 av/\
 FD y5 cD cE/\
 ∀(cP:KB),gR (iS y5 y6 {kd:=y7,n:=[y8,y9,cU],b:=cD,l:=cE}) cP->
 gG cP=true->
 ∀(dH:List Re),gG (dH,cP).snd=true/\
 K (au []) cP)/\
 ((!y4.any cJ)=false->
 ∀(cZ:Nat->
 Value),K (au []) [cR R (af T) (ο false) (δ (cZ 14)) (δ (cZ 15)) (aR none) (ζ 1 0 (nO R)) (ζ 2 0 (nD R)),rO R,rD R]))/\
 ((fr != R.me)=false->
 ∀(fZ:Nat->
 Value),K (au []) [cR R (af T) (ο false) (δ (fZ 14)) (δ (fZ 15)) (aR none) (ζ 1 0 (nO R)) (ζ 2 0 (nD R)),rO R,rD R]))/\
 ((y3 == R.id)=false->
 ∀(dr:Nat->
 Value),K (au []) [cR R (af T) (ο false) (δ (dr 14)) (δ (dr 15)) (aR none) (ζ 1 0 (nO R)) (ζ 2 0 (nD R)),rO R,rD R]))/\
 (aN->
 ∀(fx:Nat->
 Value),K (au []) [cR R (af T) (ο false) (δ (fx 14)) (δ (fx 15)) (aR none) (ζ 1 0 (nO R)) (ζ 2 0 (nD R)),rO R,rD R]))/\
 (([m.kd]=[10]->
 False)->
 ([m.kd]=[11]->
 (∀(fO:List D),bK θ [m.kd]=some fO->
 gN [CK.int γ] fO)/\
 (aJ->
 aA 0/\
 ∃(fU:List D),(ints γ m.n)[0]? =some fU/\
 ∃(fh:Int),fU[0]? =some (η (ν γ fh))/\
 ((fh == R.id)=true->
 ((fr != R.me)=true->
 ∃(fP:List Int),ints γ m.n=ints γ fP/\
 dK fP.length/\
 ((!fP.any cJ)=true->
 ∃(iZ:ι),∃(gx:Int),∃(eZ:Int),∃(fj:Int),∃(eM:Int),∃(i_:Int),∃(kn:List Int),∃(iC:List (List Int)),ω=[aj 0 0,ε γ gx,fz [ε γ eZ,aC (χ 1 [[dn γ fj],[dn γ eM],[dn γ i_]]),aC (χ 1 (ints ξ kn)),aC (χ 1 (ct iC))]]/\
 gR iZ av/\
 oO iZ/\
 ∀(fD:KB),gR (iA iZ gx {kd:=eZ,n:=[fj,eM,i_],b:=kn,l:=iC}) fD->
 gG fD=true->
 ∀(ko:List Re),gG (ko,fD).snd=true/\
 K (au []) fD)/\
 ((!fP.any cJ)=false->
 ∀(kO:Nat->
 Value),K (au []) [cR R (af T) (ο false) (δ (kO 14)) (δ (kO 15)) (aR none) (ζ 1 0 (nO R)) (ζ 2 0 (nD R)),rO R,rD R]))/\
 ((fr != R.me)=false->
 ∀(kp:Nat->
 Value),K (au []) [cR R (af T) (ο false) (δ (kp 14)) (δ (kp 15)) (aR none) (ζ 1 0 (nO R)) (ζ 2 0 (nD R)),rO R,rD R]))/\
 ((fh == R.id)=false->
 ∀(lb:Nat->
 Value),K (au []) [cR R (af T) (ο false) (δ (lb 14)) (δ (lb 15)) (aR none) (ζ 1 0 (nO R)) (ζ 2 0 (nD R)),rO R,rD R]))/\
 (aN->
 ∀(oF:Nat->
 Value),K (au []) [cR R (af T) (ο false) (δ (oF 14)) (δ (oF 15)) (aR none) (ζ 1 0 (nO R)) (ζ 2 0 (nD R)),rO R,rD R]))/\
 (([m.kd]=[11]->
 False)->
 ([m.kd]=[12]->
 (∀(m5:List D),bK θ [m.kd]=some m5->
 gN [CK.int γ] m5)/\
 (aJ->
 aA 0/\
 ∃(lh:List D),(ints γ m.n)[0]? =some lh/\
 ∃(oG:Int),lh[0]? =some (η (ν γ oG))/\
 ((oG == R.id)=true->
 ((fr != R.me)=true->
 ∃(m6:List Int),ints γ m.n=ints γ m6/\
 dK m6.length/\
 ((!m6.any cJ)=true->
 ∃(po:ι),∃(sC:Int),∃(qW:Int),∃(sD:Int),∃(tS:Int),∃(sE:Int),∃(vk:Int),∃(vn:Int),∃(tT:Int),∃(xw:Int),∃(vo:Int),∃(xx:List Int),∃(zO:List (List Int)),ω=[aj 0 0,ε γ sC,fz [ε γ qW,aC (χ 1 [[dn γ sD],[dn γ tS],[dn γ sE],[dn γ vk],[dn γ vn],[dn γ tT],[dn γ xw],[dn γ vo]]),aC (χ 1 (ints ξ xx)),aC (χ 1 (ct zO))]]/\
 gR po av/\
 oO po/\
 ∀(vp:KB),gR (iR po sC {kd:=qW,n:=[sD,tS,sE,vk,vn,tT,xw,vo],b:=xx,l:=zO}) vp->
 gG vp=true->
 ∀(Ep:List Re),gG (Ep,vp).snd=true/\
 K (au []) vp)/\
 ((!m6.any cJ)=false->
 ∀(zP:Nat->
 Value),K (au []) [cR R (af T) (ο false) (δ (zP 14)) (δ (zP 15)) (aR none) (ζ 1 0 (nO R)) (ζ 2 0 (nD R)),rO R,rD R]))/\
 ((fr != R.me)=false->
 ∀(zQ:Nat->
 Value),K (au []) [cR R (af T) (ο false) (δ (zQ 14)) (δ (zQ 15)) (aR none) (ζ 1 0 (nO R)) (ζ 2 0 (nD R)),rO R,rD R]))/\
 ((oG == R.id)=false->
 ∀(zR:Nat->
 Value),K (au []) [cR R (af T) (ο false) (δ (zR 14)) (δ (zR 15)) (aR none) (ζ 1 0 (nO R)) (ζ 2 0 (nD R)),rO R,rD R]))/\
 (aN->
 ∀(zS:Nat->
 Value),K (au []) [cR R (af T) (ο false) (δ (zS 14)) (δ (zS 15)) (aR none) (ζ 1 0 (nO R)) (ζ 2 0 (nD R)),rO R,rD R]))/\
 (([m.kd]=[12]->
 False)->
 ([m.kd]=[13]->
 (∀(vq:List D),bK θ [m.kd]=some vq->
 gN [CK.int γ] vq)/\
 (aJ->
 aA 0/\
 ∃(Er:List D),(ints γ m.n)[0]? =some Er/\
 ∃(xy:Int),Er[0]? =some (η (ν γ xy))/\
 ((xy == R.id)=true->
 ((fr != R.me)=true->
 ∃(vr:List Int),ints γ m.n=ints γ vr/\
 dK vr.length/\
 ((!vr.any cJ)=true->
 ∃(vt:ι),∃(vu:Int),∃(xz:Int),∃(zT:Int),∃(zU:Int),∃(zV:Int),∃(zW:List Int),∃(zX:List (List Int)),ω=[aj 0 0,ε γ vu,fz [ε γ xz,aC (χ 1 [[dn γ zT],[dn γ zU],[dn γ zV]]),aC (χ 1 (ints ξ zW)),aC (χ 1 (ct zX))]]/\
 gR vt av/\
 oO vt/\
 ∀(vw:KB),gR (iw vt vu {kd:=xz,n:=[zT,zU,zV],b:=zW,l:=zX}) vw->
 gG vw=true->
 ∀(Es:List Re),gG (Es,vw).snd=true/\
 K (au []) vw)/\
 ((!vr.any cJ)=false->
 ∀(vx:Nat->
 Value),K (au []) [cR R (af T) (ο false) (δ (vx 14)) (δ (vx 15)) (aR none) (ζ 1 0 (nO R)) (ζ 2 0 (nD R)),rO R,rD R]))/\
 ((fr != R.me)=false->
 ∀(Et:Nat->
 Value),K (au []) [cR R (af T) (ο false) (δ (Et 14)) (δ (Et 15)) (aR none) (ζ 1 0 (nO R)) (ζ 2 0 (nD R)),rO R,rD R]))/\
 ((xy == R.id)=false->
 ∀(Xh:Nat->
 Value),K (au []) [cR R (af T) (ο false) (δ (Xh 14)) (δ (Xh 15)) (aR none) (ζ 1 0 (nO R)) (ζ 2 0 (nD R)),rO R,rD R]))/\
 (aN->
 ∀(Xi:Nat->
 Value),K (au []) [cR R (af T) (ο false) (δ (Xi 14)) (δ (Xi 15)) (aR none) (ζ 1 0 (nO R)) (ζ 2 0 (nD R)),rO R,rD R]))/\
 (([m.kd]=[13]->
 False)->
 ([m.kd]=[14]->
 (∀(Xj:List D),bK θ [m.kd]=some Xj->
 gN [CK.int γ] Xj)/\
 (aJ->
 aA 0/\
 ∃(Xk:List D),(ints γ m.n)[0]? =some Xk/\
 ∃(Mi:Int),Xk[0]? =some (η (ν γ Mi))/\
 ((Mi == R.id)=true->
 ((fr != R.me)=true->
 ∃(Eu:List Int),ints γ m.n=ints γ Eu/\
 dK Eu.length/\
 ((!Eu.any cJ)=true->
 ∃(Mj:ι),∃(Xl:Int),∃(Xm:Int),∃(Xn:Int),∃(Xo:Int),∃(Xp:Int),∃(Xq:List Int),∃(Xr:List (List Int)),ω=[aj 0 0,ε γ Xl,fz [ε γ Xm,aC (χ 1 [[dn γ Xn],[dn γ Xo],[dn γ Xp]]),aC (χ 1 (ints ξ Xq)),aC (χ 1 (ct Xr))]]/\
 gR Mj av/\
 oO Mj/\
 ∀(Ev:KB),gR (iy Mj Xl {kd:=Xm,n:=[Xn,Xo,Xp],b:=Xq,l:=Xr}) Ev->
 gG Ev=true->
 ∀(y91:List Re),gG (y91,Ev).snd=true/\
 K (au []) Ev)/\
 ((!Eu.any cJ)=false->
 ∀(Xs:Nat->
 Value),K (au []) [cR R (af T) (ο false) (δ (Xs 14)) (δ (Xs 15)) (aR none) (ζ 1 0 (nO R)) (ζ 2 0 (nD R)),rO R,rD R]))/\
 ((fr != R.me)=false->
 ∀(Xt:Nat->
 Value),K (au []) [cR R (af T) (ο false) (δ (Xt 14)) (δ (Xt 15)) (aR none) (ζ 1 0 (nO R)) (ζ 2 0 (nD R)),rO R,rD R]))/\
 ((Mi == R.id)=false->
 ∀(Xu:Nat->
 Value),K (au []) [cR R (af T) (ο false) (δ (Xu 14)) (δ (Xu 15)) (aR none) (ζ 1 0 (nO R)) (ζ 2 0 (nD R)),rO R,rD R]))/\
 (aN->
 ∀(Xv:Nat->
 Value),K (au []) [cR R (af T) (ο false) (δ (Xv 14)) (δ (Xv 15)) (aR none) (ζ 1 0 (nO R)) (ζ 2 0 (nD R)),rO R,rD R]))/\
 (([m.kd]=[14]->
 False)->
 ∀(Xw:Nat->
 Value),K (au []) [cR R (af T) (ο false) (δ (Xw 14)) (δ (Xw 15)) (aR none) (ζ 1 0 (nO R)) (ζ 2 0 (nD R)),rO R,rD R])))))
 ):aI Tryz.prog xY (fun _=>none) 60 [aj 0 0,.int γ fr,.agg [.int γ m.kd,aC (.sl 1 (ints γ m.n)),aC (.sl 1 (ints ξ m.b)),aC (.sl 1 (ct m.l))]] [cR R (af T) (ο false) (δ π) (δ υ) (.aa none) (.sl 1 0 (nO R)) (.sl 2 0 (nD R)),rO R,rD R] (xb 13 eW K):=by apply Eq.mp (a:=aq);kernel_rfl
theorem ahP (R:ι) (T:ML) (I Q:ML) (u:Option (List D)) (fr:Int) (m:dL) (K:V->KB->Prop) (aq:
 let aU:=[η (ν γ 3)];let av:=[aj 0 0,ε γ fr,fz [ε γ m.kd,aC (χ 1 (ints γ m.n)),aC (χ 1 (ints ξ m.b)),aC (χ 1 (ct m.l))]];let ω:KB:=[cR R (af T) (ο true) (aY 1) (aY 2) (aR u) (ζ 3 0 (nO R)) (ζ 4 0 (nD R)),an I,an Q,rO R,rD R];let θ:=(bI (bI (bI (bI (bI [] [10] aU) [11] aU) [12] [η (ν γ 8)]) [13] aU) [14] aU);let aJ:=((↑(ints γ m.n).length:Int) == eI θ [m.kd] 0)=true;let aN:=((↑(ints γ m.n).length:Int) == eI θ [m.kd] 0)=false;([m.kd]=[10]->
 (∀(y1:List D),bK θ [m.kd]=some y1->
 gN [CK.int γ] y1)/\
 (aJ->
 aA 0/\
 ∃(y2:List D),(ints γ m.n)[0]? =some y2/\
 ∃(y3:Int),y2[0]? =some (η (ν γ y3))/\
 ((y3 == R.id)=true->
 ((fr != R.me)=true->
 ∃(y4:List Int),ints γ m.n=ints γ y4/\
 dK y4.length/\
 ((!y4.any cJ)=true->
 ∃(y5:ι),∃(y6:Int),∃(y7:Int),∃(y8:Int),∃(y9:Int),∃(cU:Int),∃(cD:List Int),∃(cE:List (List Int)),av=[aj 0 0,ε γ y6,fz [ε γ y7,aC (χ 1 [[dn γ y8],[dn γ y9],[dn γ cU]]),aC (χ 1 (ints ξ cD)),aC (χ 1 (ct cE))]]/\
 gR y5 ω/\
 FD y5 cD cE/\
 ∀(cP:KB),gR (iS y5 y6 {kd:=y7,n:=[y8,y9,cU],b:=cD,l:=cE}) cP->
 gG cP=true->
 ∀(dH:List Re),gG (dH,cP).snd=true/\
 K (au []) cP)/\
 ((!y4.any cJ)=false->
 K (au []) ω))/\
 ((fr != R.me)=false->
 K (au []) ω))/\
 ((y3 == R.id)=false->
 K (au []) ω))/\
 (aN->
 K (au []) ω))/\
 (([m.kd]=[10]->
 False)->
 ([m.kd]=[11]->
 (∀(cZ:List D),bK θ [m.kd]=some cZ->
 gN [CK.int γ] cZ)/\
 (aJ->
 aA 0/\
 ∃(fZ:List D),(ints γ m.n)[0]? =some fZ/\
 ∃(dr:Int),fZ[0]? =some (η (ν γ dr))/\
 ((dr == R.id)=true->
 ((fr != R.me)=true->
 ∃(fx:List Int),ints γ m.n=ints γ fx/\
 dK fx.length/\
 ((!fx.any cJ)=true->
 ∃(fO:ι),∃(fU:Int),∃(fh:Int),∃(fP:Int),∃(iZ:Int),∃(gx:Int),∃(eZ:List Int),∃(fj:List (List Int)),av=[aj 0 0,ε γ fU,fz [ε γ fh,aC (χ 1 [[dn γ fP],[dn γ iZ],[dn γ gx]]),aC (χ 1 (ints ξ eZ)),aC (χ 1 (ct fj))]]/\
 gR fO ω/\
 oO fO/\
 ∀(eM:KB),gR (iA fO fU {kd:=fh,n:=[fP,iZ,gx],b:=eZ,l:=fj}) eM->
 gG eM=true->
 ∀(i_:List Re),gG (i_,eM).snd=true/\
 K (au []) eM)/\
 ((!fx.any cJ)=false->
 K (au []) ω))/\
 ((fr != R.me)=false->
 K (au []) ω))/\
 ((dr == R.id)=false->
 K (au []) ω))/\
 (aN->
 K (au []) ω))/\
 (([m.kd]=[11]->
 False)->
 ([m.kd]=[12]->
 (∀(kn:List D),bK θ [m.kd]=some kn->
 gN [CK.int γ] kn)/\
 (aJ->
 aA 0/\
 ∃(iC:List D),(ints γ m.n)[0]? =some iC/\
 ∃(fD:Int),iC[0]? =some (η (ν γ fD))/\
 ((fD == R.id)=true->
 ((fr != R.me)=true->
 ∃(ko:List Int),ints γ m.n=ints γ ko/\
 dK ko.length/\
 ((!ko.any cJ)=true->
 ∃(kO:ι),∃(kp:Int),∃(lb:Int),∃(oF:Int),∃(m5:Int),∃(lh:Int),∃(oG:Int),∃(m6:Int),∃(po:Int),∃(sC:Int),∃(qW:Int),∃(sD:List Int),∃(tS:List (List Int)),av=[aj 0 0,ε γ kp,fz [ε γ lb,aC (χ 1 [[dn γ oF],[dn γ m5],[dn γ lh],[dn γ oG],[dn γ m6],[dn γ po],[dn γ sC],[dn γ qW]]),aC (χ 1 (ints ξ sD)),aC (χ 1 (ct tS))]]/\
 gR kO ω/\
 oO kO/\
 ∀(sE:KB),gR (iR kO kp {kd:=lb,n:=[oF,m5,lh,oG,m6,po,sC,qW],b:=sD,l:=tS}) sE->
 gG sE=true->
 ∀(vk:List Re),gG (vk,sE).snd=true/\
 K (au []) sE)/\
 ((!ko.any cJ)=false->
 K (au []) ω))/\
 ((fr != R.me)=false->
 K (au []) ω))/\
 ((fD == R.id)=false->
 K (au []) ω))/\
 (aN->
 K (au []) ω))/\
 (([m.kd]=[12]->
 False)->
 ([m.kd]=[13]->
 (∀(vn:List D),bK θ [m.kd]=some vn->
 gN [CK.int γ] vn)/\
 (aJ->
 aA 0/\
 ∃(tT:List D),(ints γ m.n)[0]? =some tT/\
 ∃(xw:Int),tT[0]? =some (η (ν γ xw))/\
 ((xw == R.id)=true->
 ((fr != R.me)=true->
 ∃(vo:List Int),ints γ m.n=ints γ vo/\
 dK vo.length/\
 ((!vo.any cJ)=true->
 ∃(xx:ι),∃(zO:Int),∃(vp:Int),∃(Ep:Int),∃(zP:Int),∃(zQ:Int),∃(zR:List Int),∃(zS:List (List Int)),av=[aj 0 0,ε γ zO,fz [ε γ vp,aC (χ 1 [[dn γ Ep],[dn γ zP],[dn γ zQ]]),aC (χ 1 (ints ξ zR)),aC (χ 1 (ct zS))]]/\
 gR xx ω/\
 oO xx/\
 ∀(vq:KB),gR (iw xx zO {kd:=vp,n:=[Ep,zP,zQ],b:=zR,l:=zS}) vq->
 gG vq=true->
 ∀(Er:List Re),gG (Er,vq).snd=true/\
 K (au []) vq)/\
 ((!vo.any cJ)=false->
 K (au []) ω))/\
 ((fr != R.me)=false->
 K (au []) ω))/\
 ((xw == R.id)=false->
 K (au []) ω))/\
 (aN->
 K (au []) ω))/\
 (([m.kd]=[13]->
 False)->
 ([m.kd]=[14]->
 (∀(xy:List D),bK θ [m.kd]=some xy->
 gN [CK.int γ] xy)/\
 (aJ->
 aA 0/\
 ∃(vr:List D),(ints γ m.n)[0]? =some vr/\
 ∃(vt:Int),vr[0]? =some (η (ν γ vt))/\
 ((vt == R.id)=true->
 ((fr != R.me)=true->
 ∃(vu:List Int),ints γ m.n=ints γ vu/\
 dK vu.length/\
 ((!vu.any cJ)=true->
 ∃(xz:ι),∃(zT:Int),∃(zU:Int),∃(zV:Int),∃(zW:Int),∃(zX:Int),∃(vw:List Int),∃(Es:List (List Int)),av=[aj 0 0,ε γ zT,fz [ε γ zU,aC (χ 1 [[dn γ zV],[dn γ zW],[dn γ zX]]),aC (χ 1 (ints ξ vw)),aC (χ 1 (ct Es))]]/\
 gR xz ω/\
 oO xz/\
 ∀(vx:KB),gR (iy xz zT {kd:=zU,n:=[zV,zW,zX],b:=vw,l:=Es}) vx->
 gG vx=true->
 ∀(Et:List Re),gG (Et,vx).snd=true/\
 K (au []) vx)/\
 ((!vu.any cJ)=false->
 K (au []) ω))/\
 ((fr != R.me)=false->
 K (au []) ω))/\
 ((vt == R.id)=false->
 K (au []) ω))/\
 (aN->
 K (au []) ω))/\
 (([m.kd]=[14]->
 False)->
 K (au []) ω)))))
 ):aI Tryz.prog xY (fun _=>none) 60 [aj 0 0,.int γ fr,.agg [.int γ m.kd,aC (.sl 1 (ints γ m.n)),aC (.sl 1 (ints ξ m.b)),aC (.sl 1 (ct m.l))]] [cR R (af T) (ο true) (.mp 1) (.mp 2) (.aa u) (.sl 3 0 (nO R)) (.sl 4 0 (nD R)),an I,an Q,rO R,rD R] (xb 13 eW K):=by apply Eq.mp (a:=aq);kernel_rfl
theorem eK {R:ι} {fr:Int} {m:dL} (h:cp R fr m=false):dI R fr m=R:=if_pos h
theorem QE {R:ι} {fr:Int} {n b:List Int} {ls:List (List Int)} (h:cp R fr ⟨10,n,b,ls⟩=true):dI R fr ⟨10,n,b,ls⟩=iS R fr ⟨10,n,b,ls⟩:=by unfold dI;rw[h];rfl
theorem QF {R:ι} {fr:Int} {n b:List Int} {ls:List (List Int)} (h:cp R fr ⟨11,n,b,ls⟩=true):dI R fr ⟨11,n,b,ls⟩=iA R fr ⟨11,n,b,ls⟩:=by unfold dI;rw[h];rfl
theorem QG {R:ι} {fr:Int} {n b:List Int} {ls:List (List Int)} (h:cp R fr ⟨12,n,b,ls⟩=true):dI R fr ⟨12,n,b,ls⟩=iR R fr ⟨12,n,b,ls⟩:=by unfold dI;rw[h];rfl
theorem QH {R:ι} {fr:Int} {n b:List Int} {ls:List (List Int)} (h:cp R fr ⟨13,n,b,ls⟩=true):dI R fr ⟨13,n,b,ls⟩=iw R fr ⟨13,n,b,ls⟩:=by unfold dI;rw[h];rfl
theorem QI {R:ι} {fr:Int} {n b:List Int} {ls:List (List Int)} (h:cp R fr ⟨14,n,b,ls⟩=true):dI R fr ⟨14,n,b,ls⟩=iy R fr ⟨14,n,b,ls⟩:=by unfold dI;rw[h];rfl
structure lw (m:dL):Prop where
 b:bq m.b
 l:m.b.length<=900000
 ls:∀ y∈m.l,bq y/\y.length<=140737488355328
theorem aaR:dD Tryz.prog Ij:=fun f k h=>by
 unfold Ij at h
 split at h
 ·cases h;exact acY
 ·cases h;exact acZ
 ·cases h;exact acV
 ·cases h;exact acW
 ·cases h;exact acX
 ·cases h;exact Tr
 ·cases h
theorem NH:cx Tryz.prog xY:=dP mixed aaR aG 10
theorem aaJ (R:ι) (T:ML) (π υ:Value) (fr kd:Int) (n b:List Int) (ls:List (List Int)) (hT:bL T R.t) (hl:R.ld=none) (hR:dF R) (hM:lw ⟨kd,n,b,ls⟩) (eN:∀ π υ,aF R [cR R (af T) (ο false) (δ π) (δ υ) (.aa none) (.sl 1 0 (nO R)) (.sl 2 0 (nD R)),rO R,rD R]) (K:V->KB->Prop) (hK:∀ kb',aF (dI R fr ⟨kd,n,b,ls⟩) kb'->K (.φ []) kb'):aI Tryz.prog xY (fun _=>none) 60 [aj 0 0,.int γ fr,.agg [.int γ kd,aC (.sl 1 (ints γ n)),aC (.sl 1 (ints ξ b)),aC (.sl 1 (ct ls))]] [cR R (af T) (ο false) (δ π) (δ υ) (.aa none) (.sl 1 0 (nO R)) (.sl 2 0 (nD R)),rO R,rD R] (xb 13 eW K):=by
 have fin:∀{R':ι} {kb':KB},dI R fr ⟨kd,n,b,ls⟩=R'->aF R' kb'->K (.φ []) kb':=fun{R' kb'} h1 h2=>by
  have:=hK kb'
  rw[h1]at this
  exact this h2
 refine ahQ R T π υ fr ⟨kd,n,b,ls⟩ K ⟨?_,fun C6=>⟨?_,fun Jw=>⟨?_,fun Jx=>⟨?_,fun Jy=>⟨?_,fun Jz=>?_⟩⟩⟩⟩⟩
 ·intro e
  have hk:kd=10:=by simpa using e
  subst hk
  refine⟨fun cs h=>?_,fun hlen=>?_,fun hlen=>fun f=>fin (eK (by have h2:¬ n.length=3:=(by have:=hlen;simp [bi,eI,bK,bI,iv]at this;omega);simp [cp,iP,h2])) (eN _ _)⟩
  ·simp [bI,bK]at h
   subst h
   exact⟨_,_,rfl,rfl⟩
  ·have hl:n.length=3:=by have:=hlen;simp [bi,eI,bK,bI,iv]at this;omega
   match n,hl with
   | [q0,q1,q2],_=>
    exact⟨dE _,_,rfl,q0,rfl,fun h0=>⟨fun h1=>⟨[q0,q1,q2],rfl,⟨by simp⟩,fun h2=>⟨R,fr,10,q0,q1,q2,b,ls,rfl,⟨(eN _ _)⟩,⟨hR,hM.b,hM.l,hM.ls⟩,fun kb' hk hf τ=>⟨hf,fin (QE (by have h0:q0=R.id:=(by simpa using h0);have h1:¬ fr=R.me:=(by simpa using h1);have h2:[q0,q1,q2].any cJ=false:=(by simpa using h2);simp [cp,bm,iP,h0,h1];simpa [h0]using h2)) hk.h⟩⟩,fun h2=>fun f=>fin (eK (by have h2:[q0,q1,q2].any cJ=true:=(by simpa only[kr]using h2);unfold cp;rw[h2];simp)) (eN _ _)⟩,fun h1=>fun f=>fin (eK (by have h1:fr=R.me:=(by simpa using h1);simp [cp,h1])) (eN _ _)⟩,fun h0=>fun f=>fin (eK (by have h0:¬ q0=R.id:=(by simpa using h0);simp [cp,bm,h0])) (eN _ _)⟩
 ·intro e
  have hk:kd=11:=by simpa using e
  subst hk
  refine⟨fun cs h=>?_,fun hlen=>?_,fun hlen=>fun f=>fin (eK (by have h2:¬ n.length=3:=(by have:=hlen;simp [bi,eI,bK,bI,iv]at this;omega);simp [cp,iP,h2])) (eN _ _)⟩
  ·simp [bI,bK]at h
   subst h
   exact⟨_,_,rfl,rfl⟩
  ·have hl:n.length=3:=by have:=hlen;simp [bi,eI,bK,bI,iv]at this;omega
   match n,hl with
   | [q0,q1,q2],_=>
    exact⟨dE _,_,rfl,q0,rfl,fun h0=>⟨fun h1=>⟨[q0,q1,q2],rfl,⟨by simp⟩,fun h2=>⟨R,fr,11,q0,q1,q2,b,ls,rfl,⟨(eN _ _)⟩,⟨hR⟩,fun kb' hk hf τ=>⟨hf,fin (QF (by have h0:q0=R.id:=(by simpa using h0);have h1:¬ fr=R.me:=(by simpa using h1);have h2:[q0,q1,q2].any cJ=false:=(by simpa using h2);simp [cp,bm,iP,h0,h1];simpa [h0]using h2)) hk.h⟩⟩,fun h2=>fun f=>fin (eK (by have h2:[q0,q1,q2].any cJ=true:=(by simpa only[kr]using h2);unfold cp;rw[h2];simp)) (eN _ _)⟩,fun h1=>fun f=>fin (eK (by have h1:fr=R.me:=(by simpa using h1);simp [cp,h1])) (eN _ _)⟩,fun h0=>fun f=>fin (eK (by have h0:¬ q0=R.id:=(by simpa using h0);simp [cp,bm,h0])) (eN _ _)⟩
 ·intro e
  have hk:kd=12:=by simpa using e
  subst hk
  refine⟨fun cs h=>?_,fun hlen=>?_,fun hlen=>fun f=>fin (eK (by have h2:¬ n.length=8:=(by have:=hlen;simp [bi,eI,bK,bI,iv]at this;omega);simp [cp,iP,h2])) (eN _ _)⟩
  ·simp [bI,bK]at h
   subst h
   exact⟨_,_,rfl,rfl⟩
  ·have hl:n.length=8:=by have:=hlen;simp [bi,eI,bK,bI,iv]at this;omega
   match n,hl with
   | [q0,q1,q2,q3,q4,q5,q6,q7],_=>
    exact⟨dE _,_,rfl,q0,rfl,fun h0=>⟨fun h1=>⟨[q0,q1,q2,q3,q4,q5,q6,q7],rfl,⟨by simp⟩,fun h2=>⟨R,fr,12,q0,q1,q2,q3,q4,q5,q6,q7,b,ls,rfl,⟨(eN _ _)⟩,⟨hR⟩,fun kb' hk hf τ=>⟨hf,fin (QG (by have h0:q0=R.id:=(by simpa using h0);have h1:¬ fr=R.me:=(by simpa using h1);have h2:[q0,q1,q2,q3,q4,q5,q6,q7].any cJ=false:=(by simpa using h2);simp [cp,bm,iP,h0,h1];simpa [h0]using h2)) hk.h⟩⟩,fun h2=>fun f=>fin (eK (by have h2:[q0,q1,q2,q3,q4,q5,q6,q7].any cJ=true:=(by simpa only[kr]using h2);unfold cp;rw[h2];simp)) (eN _ _)⟩,fun h1=>fun f=>fin (eK (by have h1:fr=R.me:=(by simpa using h1);simp [cp,h1])) (eN _ _)⟩,fun h0=>fun f=>fin (eK (by have h0:¬ q0=R.id:=(by simpa using h0);simp [cp,bm,h0])) (eN _ _)⟩
 ·intro e
  have hk:kd=13:=by simpa using e
  subst hk
  refine⟨fun cs h=>?_,fun hlen=>?_,fun hlen=>fun f=>fin (eK (by have h2:¬ n.length=3:=(by have:=hlen;simp [bi,eI,bK,bI,iv]at this;omega);simp [cp,iP,h2])) (eN _ _)⟩
  ·simp [bI,bK]at h
   subst h
   exact⟨_,_,rfl,rfl⟩
  ·have hl:n.length=3:=by have:=hlen;simp [bi,eI,bK,bI,iv]at this;omega
   match n,hl with
   | [q0,q1,q2],_=>
    exact⟨dE _,_,rfl,q0,rfl,fun h0=>⟨fun h1=>⟨[q0,q1,q2],rfl,⟨by simp⟩,fun h2=>⟨R,fr,13,q0,q1,q2,b,ls,rfl,⟨(eN _ _)⟩,⟨hR⟩,fun kb' hk hf τ=>⟨hf,fin (QH (by have h0:q0=R.id:=(by simpa using h0);have h1:¬ fr=R.me:=(by simpa using h1);have h2:[q0,q1,q2].any cJ=false:=(by simpa using h2);simp [cp,bm,iP,h0,h1];simpa [h0]using h2)) hk.h⟩⟩,fun h2=>fun f=>fin (eK (by have h2:[q0,q1,q2].any cJ=true:=(by simpa only[kr]using h2);unfold cp;rw[h2];simp)) (eN _ _)⟩,fun h1=>fun f=>fin (eK (by have h1:fr=R.me:=(by simpa using h1);simp [cp,h1])) (eN _ _)⟩,fun h0=>fun f=>fin (eK (by have h0:¬ q0=R.id:=(by simpa using h0);simp [cp,bm,h0])) (eN _ _)⟩
 ·intro e
  have hk:kd=14:=by simpa using e
  subst hk
  refine⟨fun cs h=>?_,fun hlen=>?_,fun hlen=>fun f=>fin (eK (by have h2:¬ n.length=3:=(by have:=hlen;simp [bi,eI,bK,bI,iv]at this;omega);simp [cp,iP,h2])) (eN _ _)⟩
  ·simp [bI,bK]at h
   subst h
   exact⟨_,_,rfl,rfl⟩
  ·have hl:n.length=3:=by have:=hlen;simp [bi,eI,bK,bI,iv]at this;omega
   match n,hl with
   | [q0,q1,q2],_=>
    exact⟨dE _,_,rfl,q0,rfl,fun h0=>⟨fun h1=>⟨[q0,q1,q2],rfl,⟨by simp⟩,fun h2=>⟨R,fr,14,q0,q1,q2,b,ls,rfl,⟨(eN _ _)⟩,⟨hR⟩,fun kb' hk hf τ=>⟨hf,fin (QI (by have h0:q0=R.id:=(by simpa using h0);have h1:¬ fr=R.me:=(by simpa using h1);have h2:[q0,q1,q2].any cJ=false:=(by simpa using h2);simp [cp,bm,iP,h0,h1];simpa [h0]using h2)) hk.h⟩⟩,fun h2=>fun f=>fin (eK (by have h2:[q0,q1,q2].any cJ=true:=(by simpa only[kr]using h2);unfold cp;rw[h2];simp)) (eN _ _)⟩,fun h1=>fun f=>fin (eK (by have h1:fr=R.me:=(by simpa using h1);simp [cp,h1])) (eN _ _)⟩,fun h0=>fun f=>fin (eK (by have h0:¬ q0=R.id:=(by simpa using h0);simp [cp,bm,h0])) (eN _ _)⟩
 ·have hno:cp R fr ⟨kd,n,b,ls⟩=false:=by
   have h10:¬ kd=10:=fun h=>C6 (by simp [h])
   have h11:¬ kd=11:=fun h=>Jw (by simp [h])
   have h12:¬ kd=12:=fun h=>Jx (by simp [h])
   have h13:¬ kd=13:=fun h=>Jy (by simp [h])
   have h14:¬ kd=14:=fun h=>Jz (by simp [h])
   have:¬ (10<=kd/\kd<=14/\n.length=iP kd/\bm ⟨kd,n,b,ls⟩ 0=R.id/\fr≠R.me):=by omega
   simp only[cp,decide_eq_false this,Bool.false_and]
  have fs:∀ f:Nat->Value,K (.φ []) [cR R (af T) (ο false) (δ (f 14)) (δ (f 15)) (.aa none) (.sl 1 0 (nO R)) (.sl 2 0 (nD R)),rO R,rD R]:=fun f=>fin (eK hno) (eN _ _)
  first
   |exact fs
   |exact⟨fun f=>(by cases f),fun _=>fs⟩
theorem aaI (R:ι) (T:ML) (I Q:ML) (L:b9) (fr kd:Int) (n b:List Int) (ls:List (List Int)) (hT:bL T R.t) (hl:R.ld=some L) (hI:MB I L.ins) (hQ:MB Q L.cy) (hR:dF R) (hM:lw ⟨kd,n,b,ls⟩) (hkb:aF R [cR R (af T) (ο true) (.mp 1) (.mp 2) (.aa (L.cur.map bo)) (.sl 3 0 (nO R)) (.sl 4 0 (nD R)),an I,an Q,rO R,rD R]) (K:V->KB->Prop) (hK:∀ kb',aF (dI R fr ⟨kd,n,b,ls⟩) kb'->K (.φ []) kb'):aI Tryz.prog xY (fun _=>none) 60 [aj 0 0,.int γ fr,.agg [.int γ kd,aC (.sl 1 (ints γ n)),aC (.sl 1 (ints ξ b)),aC (.sl 1 (ct ls))]] [cR R (af T) (ο true) (.mp 1) (.mp 2) (.aa (L.cur.map bo)) (.sl 3 0 (nO R)) (.sl 4 0 (nD R)),an I,an Q,rO R,rD R] (xb 13 eW K):=by
 have fin:∀{R':ι} {kb':KB},dI R fr ⟨kd,n,b,ls⟩=R'->aF R' kb'->K (.φ []) kb':=fun{R' kb'} h1 h2=>by
  have:=hK kb'
  rw[h1]at this
  exact this h2
 refine ahP R T I Q (L.cur.map bo) fr ⟨kd,n,b,ls⟩ K ⟨?_,fun C6=>⟨?_,fun Jw=>⟨?_,fun Jx=>⟨?_,fun Jy=>⟨?_,fun Jz=>?_⟩⟩⟩⟩⟩
 ·intro e
  have hk:kd=10:=by simpa using e
  subst hk
  refine⟨fun cs h=>?_,fun hlen=>?_,fun hlen=>fin (eK (by have h2:¬ n.length=3:=(by have:=hlen;simp [bi,eI,bK,bI,iv]at this;omega);simp [cp,iP,h2])) hkb⟩
  ·simp [bI,bK]at h
   subst h
   exact⟨_,_,rfl,rfl⟩
  ·have hl:n.length=3:=by have:=hlen;simp [bi,eI,bK,bI,iv]at this;omega
   match n,hl with
   | [q0,q1,q2],_=>
    exact⟨dE _,_,rfl,q0,rfl,fun h0=>⟨fun h1=>⟨[q0,q1,q2],rfl,⟨by simp⟩,fun h2=>⟨R,fr,10,q0,q1,q2,b,ls,rfl,⟨hkb⟩,⟨hR,hM.b,hM.l,hM.ls⟩,fun kb' hk hf τ=>⟨hf,fin (QE (by have h0:q0=R.id:=(by simpa using h0);have h1:¬ fr=R.me:=(by simpa using h1);have h2:[q0,q1,q2].any cJ=false:=(by simpa using h2);simp [cp,bm,iP,h0,h1];simpa [h0]using h2)) hk.h⟩⟩,fun h2=>fin (eK (by have h2:[q0,q1,q2].any cJ=true:=(by simpa only[kr]using h2);unfold cp;rw[h2];simp)) hkb⟩,fun h1=>fin (eK (by have h1:fr=R.me:=(by simpa using h1);simp [cp,h1])) hkb⟩,fun h0=>fin (eK (by have h0:¬ q0=R.id:=(by simpa using h0);simp [cp,bm,h0])) hkb⟩
 ·intro e
  have hk:kd=11:=by simpa using e
  subst hk
  refine⟨fun cs h=>?_,fun hlen=>?_,fun hlen=>fin (eK (by have h2:¬ n.length=3:=(by have:=hlen;simp [bi,eI,bK,bI,iv]at this;omega);simp [cp,iP,h2])) hkb⟩
  ·simp [bI,bK]at h
   subst h
   exact⟨_,_,rfl,rfl⟩
  ·have hl:n.length=3:=by have:=hlen;simp [bi,eI,bK,bI,iv]at this;omega
   match n,hl with
   | [q0,q1,q2],_=>
    exact⟨dE _,_,rfl,q0,rfl,fun h0=>⟨fun h1=>⟨[q0,q1,q2],rfl,⟨by simp⟩,fun h2=>⟨R,fr,11,q0,q1,q2,b,ls,rfl,⟨hkb⟩,⟨hR⟩,fun kb' hk hf τ=>⟨hf,fin (QF (by have h0:q0=R.id:=(by simpa using h0);have h1:¬ fr=R.me:=(by simpa using h1);have h2:[q0,q1,q2].any cJ=false:=(by simpa using h2);simp [cp,bm,iP,h0,h1];simpa [h0]using h2)) hk.h⟩⟩,fun h2=>fin (eK (by have h2:[q0,q1,q2].any cJ=true:=(by simpa only[kr]using h2);unfold cp;rw[h2];simp)) hkb⟩,fun h1=>fin (eK (by have h1:fr=R.me:=(by simpa using h1);simp [cp,h1])) hkb⟩,fun h0=>fin (eK (by have h0:¬ q0=R.id:=(by simpa using h0);simp [cp,bm,h0])) hkb⟩
 ·intro e
  have hk:kd=12:=by simpa using e
  subst hk
  refine⟨fun cs h=>?_,fun hlen=>?_,fun hlen=>fin (eK (by have h2:¬ n.length=8:=(by have:=hlen;simp [bi,eI,bK,bI,iv]at this;omega);simp [cp,iP,h2])) hkb⟩
  ·simp [bI,bK]at h
   subst h
   exact⟨_,_,rfl,rfl⟩
  ·have hl:n.length=8:=by have:=hlen;simp [bi,eI,bK,bI,iv]at this;omega
   match n,hl with
   | [q0,q1,q2,q3,q4,q5,q6,q7],_=>
    exact⟨dE _,_,rfl,q0,rfl,fun h0=>⟨fun h1=>⟨[q0,q1,q2,q3,q4,q5,q6,q7],rfl,⟨by simp⟩,fun h2=>⟨R,fr,12,q0,q1,q2,q3,q4,q5,q6,q7,b,ls,rfl,⟨hkb⟩,⟨hR⟩,fun kb' hk hf τ=>⟨hf,fin (QG (by have h0:q0=R.id:=(by simpa using h0);have h1:¬ fr=R.me:=(by simpa using h1);have h2:[q0,q1,q2,q3,q4,q5,q6,q7].any cJ=false:=(by simpa using h2);simp [cp,bm,iP,h0,h1];simpa [h0]using h2)) hk.h⟩⟩,fun h2=>fin (eK (by have h2:[q0,q1,q2,q3,q4,q5,q6,q7].any cJ=true:=(by simpa only[kr]using h2);unfold cp;rw[h2];simp)) hkb⟩,fun h1=>fin (eK (by have h1:fr=R.me:=(by simpa using h1);simp [cp,h1])) hkb⟩,fun h0=>fin (eK (by have h0:¬ q0=R.id:=(by simpa using h0);simp [cp,bm,h0])) hkb⟩
 ·intro e
  have hk:kd=13:=by simpa using e
  subst hk
  refine⟨fun cs h=>?_,fun hlen=>?_,fun hlen=>fin (eK (by have h2:¬ n.length=3:=(by have:=hlen;simp [bi,eI,bK,bI,iv]at this;omega);simp [cp,iP,h2])) hkb⟩
  ·simp [bI,bK]at h
   subst h
   exact⟨_,_,rfl,rfl⟩
  ·have hl:n.length=3:=by have:=hlen;simp [bi,eI,bK,bI,iv]at this;omega
   match n,hl with
   | [q0,q1,q2],_=>
    exact⟨dE _,_,rfl,q0,rfl,fun h0=>⟨fun h1=>⟨[q0,q1,q2],rfl,⟨by simp⟩,fun h2=>⟨R,fr,13,q0,q1,q2,b,ls,rfl,⟨hkb⟩,⟨hR⟩,fun kb' hk hf τ=>⟨hf,fin (QH (by have h0:q0=R.id:=(by simpa using h0);have h1:¬ fr=R.me:=(by simpa using h1);have h2:[q0,q1,q2].any cJ=false:=(by simpa using h2);simp [cp,bm,iP,h0,h1];simpa [h0]using h2)) hk.h⟩⟩,fun h2=>fin (eK (by have h2:[q0,q1,q2].any cJ=true:=(by simpa only[kr]using h2);unfold cp;rw[h2];simp)) hkb⟩,fun h1=>fin (eK (by have h1:fr=R.me:=(by simpa using h1);simp [cp,h1])) hkb⟩,fun h0=>fin (eK (by have h0:¬ q0=R.id:=(by simpa using h0);simp [cp,bm,h0])) hkb⟩
 ·intro e
  have hk:kd=14:=by simpa using e
  subst hk
  refine⟨fun cs h=>?_,fun hlen=>?_,fun hlen=>fin (eK (by have h2:¬ n.length=3:=(by have:=hlen;simp [bi,eI,bK,bI,iv]at this;omega);simp [cp,iP,h2])) hkb⟩
  ·simp [bI,bK]at h
   subst h
   exact⟨_,_,rfl,rfl⟩
  ·have hl:n.length=3:=by have:=hlen;simp [bi,eI,bK,bI,iv]at this;omega
   match n,hl with
   | [q0,q1,q2],_=>
    exact⟨dE _,_,rfl,q0,rfl,fun h0=>⟨fun h1=>⟨[q0,q1,q2],rfl,⟨by simp⟩,fun h2=>⟨R,fr,14,q0,q1,q2,b,ls,rfl,⟨hkb⟩,⟨hR⟩,fun kb' hk hf τ=>⟨hf,fin (QI (by have h0:q0=R.id:=(by simpa using h0);have h1:¬ fr=R.me:=(by simpa using h1);have h2:[q0,q1,q2].any cJ=false:=(by simpa using h2);simp [cp,bm,iP,h0,h1];simpa [h0]using h2)) hk.h⟩⟩,fun h2=>fin (eK (by have h2:[q0,q1,q2].any cJ=true:=(by simpa only[kr]using h2);unfold cp;rw[h2];simp)) hkb⟩,fun h1=>fin (eK (by have h1:fr=R.me:=(by simpa using h1);simp [cp,h1])) hkb⟩,fun h0=>fin (eK (by have h0:¬ q0=R.id:=(by simpa using h0);simp [cp,bm,h0])) hkb⟩
 ·have hno:cp R fr ⟨kd,n,b,ls⟩=false:=by
   have h10:¬ kd=10:=fun h=>C6 (by simp [h])
   have h11:¬ kd=11:=fun h=>Jw (by simp [h])
   have h12:¬ kd=12:=fun h=>Jx (by simp [h])
   have h13:¬ kd=13:=fun h=>Jy (by simp [h])
   have h14:¬ kd=14:=fun h=>Jz (by simp [h])
   have:¬ (10<=kd/\kd<=14/\n.length=iP kd/\bm ⟨kd,n,b,ls⟩ 0=R.id/\fr≠R.me):=by omega
   simp only[cp,decide_eq_false this,Bool.false_and]
  have fs:K (.φ []) [cR R (af T) (ο true) (.mp 1) (.mp 2) (.aa (L.cur.map bo)) (.sl 3 0 (nO R)) (.sl 4 0 (nD R)),an I,an Q,rO R,rD R]:=fin (eK hno) hkb
  first
   |exact fs
   |exact⟨fun f=>(by cases f),fun _=>fs⟩
def XL:aE:=fun args kb K=>∃ R fr m,args=[aj 0 0,.int γ fr,.agg [.int γ m.kd,aC (.sl 1 (ints γ m.n)),aC (.sl 1 (ints ξ m.b)),aC (.sl 1 (ct m.l))]]/\aF R kb/\dF R/\lw m/\∀ kb',aF (dI R fr m) kb'->K (.φ []) kb'
theorem acT:gB Tryz.prog 60 XL:=ab6 mixed 13 eW (fun args kb K h=>by
 obtain⟨R,fr,⟨kd,n,b,ls⟩,rfl,hkb,hR,hM,hK⟩:=h
 have jh:=hkb
 unfold aF at hkb
 split at hkb
 ·rename_i hl
  obtain⟨π,υ,T,hT,rfl⟩:=hkb
  exact⟨_,_,NH,aaJ R T π υ fr kd n b ls hT hl hR hM (fun a b=>by unfold aF;simp only[hl];exact⟨a,b,T,hT,rfl⟩) K hK⟩
 ·rename_i L hl
  obtain⟨I,Q,T,hI,hQ,hT,rfl⟩:=hkb
  exact⟨_,_,NH,aaI R T I Q L fr kd n b ls hT hl hI hQ hR hM jh K hK⟩)
def gj (R:ι) (L:b9) (k:Int):List Post:=
 if L.ins k=false then[jn R k]else match L.cur with
 |some o=>if L.cy k=false then[jf R o k]else[]
 |none=>[]
def cO (R:ι):ι:=match R.ld with
 |none=>{R with ti:=R.ti+1 }
 |some L=>if(R.ti+1).tmod 3=0 then{R with ti:=R.ti+1,out:=R.out++(aP R).flatMap (gj R L) }else{R with ti:=R.ti+1 }
def rW (c:Option Op) (I Q:ML):b9:=⟨fun n=>iQ I [n] 0,fun n=>iQ Q [n] 0,c⟩
def tks (R:ι) (c:Option Op) (I Q:ML) (i:Nat):List Post:=((aP R).take i).flatMap (gj R (rW c I Q))
def LO:FuncId->Option du
 | 44=>some ⟨[],eL [false,true,true,true,true,true,false,true,true,true,true,false,false,true,true,true,true,true,true,true,true,true] vK⟩
 | 45=>some ⟨[],eL [true,false,true,true,false,false,false,false,true,true,true,true,true,true,true,true,true,true,true,true,false,true] xQ⟩
 | 57=>some ⟨[],eL [true,false,true,true,false,false,false,true,true,true,true,true,true,true,true,true,false,true,true,true,false,true] AH⟩
 |_=>none
noncomputable def xZ:cd:=dM Tryz.prog LO aG 10
abbrev zF (R:ι) (T I Q:ML) (c:Option Op):LI where
 α:={i:Nat // i<=(aP R).length/\(R.ti+1).tmod 3=0}
 live:=[0,25,26,27]
 dT:=[.mv 0 147]
 st i:=([aj 0 0,.sl 6 0 (aP R).length,.int γ ((aP R).length:Int),.int γ (i.1:Int)],[cT R (.int γ (R.ti+1)) (af T) (ο true) (.mp 1) (.mp 2) (.aa (c.map bo)) (.sl 5 0 (nO R+(tks R c I Q i.1).length)) (.sl 4 0 (nD R)),an I,an Q,aw,rD R,ai 107 5 (ae bV R.out++ae bV (tks R c I Q i.1)),ai 3 1 (ints γ (iJ R.me R.v.mem R.v.aH))])
 μ i:=(aP R).length - i.1
def Wu (R:ι) (T I Q:ML) (c:Option Op):Nat->Option LI
 | 3=>some (zF R T I Q c)
 |_=>none
theorem aiK (R:ι) (T I Q:ML) (c:Option Op) (K:V->KB->Prop) (aq:
 let cI:=aC (χ 1 (ints γ R.v.aH));let b_:=aC (χ 1 (ints γ R.v.mem));let bD:=(aR (ng bo c));let bp:=(γ.wrap (R.ti+1));let aJ:=(ints γ (iJ R.me R.v.mem R.v.aH));let av:=K (au []) [cT R (ε γ bp) (af T) (ο true) (aY 1) (aY 2) bD (ζ 3 0 (nO R)) (ζ 4 0 (nD R)),an I,an Q,rO R,rD R];(false=true->
 av)/\
 (false=false->
 ((bp.tmod 3 != 0)=true->
 av)/\
 ((bp.tmod 3 != 0)=false->
 ∀(y1:Nat->
 Value),∃(y2:List Int),∃(y3:List Int),ints γ R.v.mem=ints γ y2/\
 ints γ R.v.aH=ints γ y3/\
 dK (y2.length+y3.length)/\
 bz y1 [1,2,3,4,5,7,8,9,10,13,14,15,16,17,18,19,20,21]/\
 At (zF R T I Q c) ([aj 0 0,ζ 6 0 (bA R.me y2 y3).length,ε γ (↑((bA R.me y2 y3).length - 0):Int),ε γ 0],[cT R (ε γ bp) (af T) (ο true) (aY 1) (aY 2) bD (ζ 5 0 (nO R)) (ζ 4 0 (nD R)),an I,an Q,aw,rD R,rO R,ai 3 1 (ints γ (iJ R.me y2 y3))])/\
 ∀(y5:{y4:Nat // y4<=(aP R).length/\
 (R.ti+1).tmod 3=0}),let bW:=(↑y5.val:Int)<(↑(aP R).length:Int);let bM:=ζ 5 0 (nO R+(tks R c I Q y5.val).length+1);let aU:=(nO R+(tks R c I Q y5.val).length);let aN:=(ae bV R.out++ae bV (tks R c I Q y5.val));let bQ:=nO R+(tks R c I Q y5.val).length=aN.length;let ω:=[aj 0 0,ζ 6 0 (aP R).length,ε γ (↑(aP R).length:Int),ε γ (γ.wrap ((↑y5.val:Int)+1))];let θ:=Nx (zF R T I Q c) y5 (ω,[cT R (ε γ (R.ti+1)) (af T) (ο true) (aY 1) (aY 2) bD (ζ 5 0 aU) (ζ 4 0 (nD R)),an I,an Q,aw,rD R,ai 107 5 aN,ai 3 1 aJ]);(decide (bW)=true->
 br (↑y5.val:Int) ((aP R).length - 0)/\
 ∃(y6:List D),aJ[0+(↑y5.val:Int).toNat]? =some y6/\
 ∃(y7:Int),y6[0]? =some (η (ν γ y7))/\
 (∀(y8:List D),bK I [y7]=some y8->
 gN [CK.bool] y8)/\
 ((!iQ I [y7] 0)=true->
 ∀(y9:Nat->
 Value),bQ/\
 bS aU/\
 ∃(cU:List Int),∃(cD:List L3),iU (aT ξ R.c) cU/\
 bL T cD/\
 bz y9 [0,2,3,8,9,10,11,12,13,14,15,16,17,18,19,21]/\
 Nx (zF R T I Q c) y5 (ω,[aB [ε γ R.me,ε γ R.id,ο R.bl,ο R.lo,ε γ R.ep,ε γ R.nu,bF 128 (aT ξ cU),af T,ε γ R.v.vi,ε γ R.v.vv,ε γ R.v.ve,b_,cI,ο true,aY 1,aY 2,aR (ng bo c),ε γ R.ce,ο R.ch,ε γ (R.ti+1),bM,ζ 4 0 (nD R)],an I,an Q,aw,rD R,ai 107 5 (ae bV R.out++ae bV (tks R c I Q y5.val)++[[dn γ y7,η (ν γ 10),χ 1 [[dn γ R.id],[dn γ R.ep],[dn γ R.nu]],χ 1 (ints ξ (ca cU)),χ 1 [[χ 1 (ints ξ (be cD))]]]]),ai 3 1 aJ]))/\
 ((!iQ I [y7] 0)=false->
 ((!(ng bo c).isNone)=true->
 (∀(cE:List D),bK Q [y7]=some cE->
 gN [CK.bool] cE)/\
 ((!iQ Q [y7] 0)=true->
 ∀(cP:Nat->
 Value),bQ/\
 bS aU/\
 ∃(dH:List Int),∃(cZ:Op),iU (aT ξ R.c) dH/\
 ng bo c=some (bo cZ)/\
 bz cP [0,2,3,7,8,9,10,11,12,13,14,15,17,18,19,21]/\
 Nx (zF R T I Q c) y5 (ω,[aB [ε γ R.me,ε γ R.id,ο R.bl,ο R.lo,ε γ R.ep,ε γ R.nu,bF 128 (aT ξ dH),af T,ε γ R.v.vi,ε γ R.v.vv,ε γ R.v.ve,b_,cI,ο true,aY 1,aY 2,aR (ng bo c),ε γ R.ce,ο R.ch,ε γ (R.ti+1),bM,ζ 4 0 (nD R)],an I,an Q,aw,rD R,ai 107 5 (ae bV R.out++ae bV (tks R c I Q y5.val)++[[dn γ y7,η (ν γ 12),χ 1 [[dn γ R.id],[dn γ R.ep],[dn γ R.nu],[dn γ cZ.cl],[dn γ cZ.nm],[dn γ cZ.kd],[dn γ cZ.bk],[dn γ (eG dH)]],χ 1 (ints ξ cZ.b),χ 1 []]]),ai 3 1 aJ]))/\
 ((!iQ Q [y7] 0)=false->
 θ))/\
 ((!(ng bo c).isNone)=false->
 θ)))/\
 (decide (bW)=false->
 K (au []) [cT R (ε γ (R.ti+1)) (af T) (ο true) (aY 1) (aY 2) bD (ζ 3 0 aU) (ζ 4 0 (nD R)),an I,an Q,ai 107 5 aN,rD R])))
 ):aI Tryz.prog xZ (Wu R T I Q c) 29 [aj 0 0] [cR R (af T) (ο true) (.mp 1) (.mp 2) (.aa (c.map bo)) (.sl 3 0 (nO R)) (.sl 4 0 (nD R)),an I,an Q,rO R,rD R] (gJ 13 eW K):=by apply Eq.mp (a:=aq);kernel_rfl
theorem aiL (R:ι) (T:ML) (π υ:Value) (K:V->KB->Prop) (aq:
 let θ:=(γ.wrap (R.ti+1));((true=true->
 ∀(y1:Nat->
 Value),K (au []) [cT R (ε γ θ) (af T) (ο false) (δ (y1 14)) (δ (y1 15)) (aR none) (ζ 1 0 (nO R)) (ζ 2 0 (nD R)),rO R,rD R])/\
 (true=false->
 ((θ.tmod 3 != 0)=true->
 ∀(y2:Nat->
 Value),K (au []) [cT R (ε γ θ) (af T) (ο false) (δ (y2 14)) (δ (y2 15)) (aR none) (ζ 1 0 (nO R)) (ζ 2 0 (nD R)),rO R,rD R])/\
 ((θ.tmod 3 != 0)=false->
 At GW ([],[cT R (ε γ θ) (af T) (ο false) (δ π) (δ υ) (aR none) (ζ 1 0 (nO R)) (ζ 2 0 (nD R)),rO R,rD R]))))/\
 True
 ):aI Tryz.prog xZ (cutAt 1002) 29 [aj 0 0] [cR R (af T) (ο false) (δ π) (δ υ) (.aa none) (.sl 1 0 (nO R)) (.sl 2 0 (nD R)),rO R,rD R] (gJ 13 eW K):=by apply Eq.mp (a:=aq);kernel_rfl
theorem agM {R:ι} (hl:R.ld=none):cO R={R with ti:=R.ti+1 }:=by unfold cO;rw[hl]
theorem agL {R:ι} {L:b9} (hl:R.ld=some L) (h:¬ (R.ti+1).tmod 3=0):cO R={R with ti:=R.ti+1 }:=by unfold cO;rw[hl];exact if_neg h
theorem agK {R:ι} {L:b9} (hl:R.ld=some L) (h:(R.ti+1).tmod 3=0):cO R={R with ti:=R.ti+1,out:=R.out++(aP R).flatMap (gj R L) }:=by unfold cO;rw[hl];exact if_pos h
theorem zG {R:ι} {c:Option Op} {I Q:ML} {i:Nat} (h:i<(aP R).length):tks R c I Q (i+1)=tks R c I Q i++gj R (rW c I Q) (aP R)[i]:=by
 unfold tks;rw[jt,bu h,List.flatMap_append];simp
theorem agY {R:ι} {c:Option Op} {I Q:ML} (i:Nat):(tks R c I Q i).length<=i:=by
 induction i with
 |zero=>simp [tks]
 |succ i ih=>
  rcases kx i (aP R).length with h | h
  ·rw[zG h,bn]
   have:(gj R (rW c I Q) (aP R)[i]).length<=1:=by
    unfold gj
    split
    ·simp
    ·split
     ·split<;>simp
     ·simp
   omega
  ·have:tks R c I Q (i+1)=tks R c I Q i:=by unfold tks;rw[eQ (by omega),eQ h]
   rw[this];omega
theorem abL {L:b9} {c:Option Op} {I Q:ML} (hI:MB I L.ins) (hQ:MB Q L.cy) (hc:L.cur=c):rW c I Q=L:=by
 obtain⟨a,b,d⟩:=L
 simp only at hc
 subst hc
 unfold rW
 have e1:(fun n=>iQ I [n] 0)=a:=funext hI.f
 have e2:(fun n=>iQ Q [n] 0)=b:=funext hQ.f
 rw[e1,e2]
theorem OQ {M:ML} (h:lL M) {k:List Int}:∀ cs,bK M k=some cs->gN [CK.bool] cs:=fun cs hc=>by
 obtain⟨b,rfl⟩:=h.h _ _ hc
 exact⟨b,[],rfl,rfl⟩
theorem agX:dD Tryz.prog LO:=fun f k h=>by
 unfold LO at h
 split at h
 ·cases h;exact fJ Di _
 ·cases h;exact fJ Ka _
 ·cases h;exact fJ Tx _
 ·cases h
theorem NT:cx Tryz.prog xZ:=dP mixed agX aG 10
theorem agS (R:ι) (T:ML) (π υ:Value) (hT:bL T R.t) (hl:R.ld=none) (hR:dF R) (h0:0<=R.ti) (h1:R.ti<=2199023255552) (hroom:R.out.length+(aP R).length<=100000) (K:V->KB->Prop) (hK:∀ kb',aF (cO R) kb'->K (.φ []) kb'):aI Tryz.prog xZ (cutAt 1002) 29 [aj 0 0] [cR R (af T) (ο false) (δ π) (δ υ) (.aa none) (.sl 1 0 (nO R)) (.sl 2 0 (nD R)),rO R,rD R] (gJ 13 eW K):=by
 have fin:∀{R':ι} {kb':KB},cO R=R'->aF R' kb'->K (.φ []) kb':=fun{R' kb'} h1 h2=>by
  have:=hK kb'
  rw[h1]at this
  exact this h2
 have ew:γ.wrap (R.ti+1)=R.ti+1:=bE (by omega) (by omega)
 refine aiL R T π υ K ?_
 rw[ew]
 exact⟨⟨fun _ f=>fin (agM hl) (by
  unfold aF
  simp only[hl]
  refine⟨f 14,f 15,T,hT,?_⟩
  rfl),fun f=>(by cases f)⟩,trivial⟩
theorem agR (R:ι) (T:ML) (I Q:ML) (L:b9) (hT:bL T R.t) (hl:R.ld=some L) (hI:MB I L.ins) (hQ:MB Q L.cy) (hR:dF R) (h0:0<=R.ti) (h1:R.ti<=2199023255552) (hroom:R.out.length+(aP R).length<=100000) (K:V->KB->Prop) (hK:∀ kb',aF (cO R) kb'->K (.φ []) kb'):aI Tryz.prog xZ (Wu R T I Q L.cur) 29 [aj 0 0] [cR R (af T) (ο true) (.mp 1) (.mp 2) (.aa (L.cur.map bo)) (.sl 3 0 (nO R)) (.sl 4 0 (nD R)),an I,an Q,rO R,rD R] (gJ 13 eW K):=by
 have fin:∀{R':ι} {kb':KB},cO R=R'->aF R' kb'->K (.φ []) kb':=fun{R' kb'} h1 h2=>by
  have:=hK kb'
  rw[h1]at this
  exact this h2
 have ew:γ.wrap (R.ti+1)=R.ti+1:=bE (by omega) (by omega)
 have h5:dK (R.v.mem.length+R.v.aH.length):=⟨by have:=hR.vl;omega⟩
 have nt:iU (aT ξ R.c) R.c:=⟨rfl,hR.cl,hR.cb⟩
 refine aiK R T I Q L.cur K ?_
 rw[ew]
 refine⟨fun f=>(by cases f),fun _=>⟨fun e=>fin (agL hl (by simpa using e)) (by
  unfold aF
  simp only[hl]
  refine⟨I,Q,T,hI,hQ,hT,?_⟩
  rfl),fun e f=>⟨R.v.mem,R.v.aH,rfl,rfl,h5,⟨by simp [bU]⟩,At.mk' ⟨0,bj _,by simpa using e⟩ ?_,?_⟩⟩⟩
 ·simp [tks,aP]
 ·rintro⟨i,Is,hz⟩
  refine⟨fun hlt=>?_,fun hlt=>?_⟩
  ·have hlt:i<(aP R).length:=by simpa using hlt
   have df:(iJ R.me R.v.mem R.v.aH)[i]? =(aP R)[i]?:=Km hlt
   have wz:=bE (n:=(i:Int)+1) (by omega) (by omega)
   have pr:nO R+(tks R L.cur I Q i).length=(ae bV R.out++ae bV (tks R L.cur I Q i)).length:=by simp [nO]
   have pl:bS (nO R+(tks R L.cur I Q i).length):=⟨by have:=agY (R:=R) (c:=L.cur) (I:=I) (Q:=Q) i;simp [nO];omega⟩
   refine⟨Cv (by simpa using hlt),[dn γ (aP R)[i]],?_,(aP R)[i],rfl,OQ hI.b,fun e1 f=>⟨pr,pl,R.c,R.t,nt,hT,⟨by simp [bU]⟩,Nx.mk' ⟨i+1,hlt,hz⟩ (by
     have eh:tks R L.cur I Q (i+1)=tks R L.cur I Q i++[jn R (aP R)[i]]:=by rw[zG hlt];simp [gj,rW,show iQ I [(aP R)[i]] 0=false by simpa using e1]
     simp only[wz]
     simp [eh,cT,bV,jA,jn,jf,gK,mX,qz,gg,dn,ints,g_]
     try rfl) (by show(aP R).length - (i+1)<(aP R).length - i;omega)⟩,fun e1=>?_⟩
   ·simp only[cN,c9]
    rw[ints_getElem?,df,bu hlt];rfl
   ·cases hp:L.cur.isNone with
    |true=>
     have hp:L.cur=none:=by simpa using hp
     refine⟨fun f=>(by rw[hp]at f;cases f),fun _=>Nx.mk' ⟨i+1,hlt,hz⟩ (by
     have eh:tks R L.cur I Q (i+1)=tks R L.cur I Q i++[]:=by rw[zG hlt];simp [gj,rW,hp,show iQ I [(aP R)[i]] 0=true by simpa using e1]
     simp only[wz]
     simp [eh,cT,bV,jA,jn,jf,gK,mX,qz,gg,dn,ints,g_]
     try rfl) (by show(aP R).length - (i+1)<(aP R).length - i;omega)⟩
    |false=>
     obtain⟨p,hp⟩:∃ p,L.cur=some p:=Option.ne_none_iff_exists'.1 fun h=>by rw[h]at hp;cases hp
     refine⟨fun _=>⟨OQ hQ.b,fun e2 f=>⟨pr,pl,R.c,p,nt,by rw[hp];rfl,⟨by simp [bU]⟩,Nx.mk' ⟨i+1,hlt,hz⟩ (by
     have eh:tks R L.cur I Q (i+1)=tks R L.cur I Q i++[jf R p (aP R)[i]]:=by rw[zG hlt];simp [gj,rW,hp,show iQ I [(aP R)[i]] 0=true by simpa using e1,show iQ Q [(aP R)[i]] 0=false by simpa using e2]
     simp only[wz]
     simp [eh,cT,bV,jA,jn,jf,gK,mX,qz,gg,dn,ints,g_]
     try rfl) (by show(aP R).length - (i+1)<(aP R).length - i;omega)⟩,fun e2=>Nx.mk' ⟨i+1,hlt,hz⟩ (by
     have eh:tks R L.cur I Q (i+1)=tks R L.cur I Q i++[]:=by rw[zG hlt];simp [gj,rW,hp,show iQ I [(aP R)[i]] 0=true by simpa using e1,show iQ Q [(aP R)[i]] 0=true by simpa using e2]
     simp only[wz]
     simp [eh,cT,bV,jA,jn,jf,gK,mX,qz,gg,dn,ints,g_]
     try rfl) (by show(aP R).length - (i+1)<(aP R).length - i;omega)⟩,fun f=>(by rw[hp]at f;cases f)⟩
  ·have hi2:i=(aP R).length:=by
    have:¬ i<(aP R).length:=by simpa using hlt
    omega
   subst hi2
   refine fin (agK hl hz) ?_
   unfold aF
   simp only[hl]
   refine⟨I,Q,T,hI,hQ,hT,?_⟩
   have e2:tks R L.cur I Q (aP R).length=(aP R).flatMap (gj R L):=by unfold tks;rw[cQ,abL hI hQ rfl]
   simp [cR,cT,e2]
def XX:aE:=fun args kb K=>∃ R,args=[aj 0 0]/\aF R kb/\dF R/\0<=R.ti/\R.ti<=2199023255552/\R.out.length+(aP R).length<=100000/\∀ kb',aF (cO R) kb'->K (.φ []) kb'
theorem adU:gB Tryz.prog 29 XX:=uQ mixed 13 eW (fun args kb K h=>by
 obtain⟨R,rfl,hkb,hR,h0,h1,hroom,hK⟩:=h
 have jh:=hkb
 unfold aF at hkb
 split at hkb
 ·rename_i hl
  obtain⟨π,υ,T,hT,rfl⟩:=hkb
  exact⟨_,_,NT,agS R T π υ hT hl hR h0 h1 hroom K hK⟩
 ·rename_i L hl
  obtain⟨I,Q,T,hI,hQ,hT,rfl⟩:=hkb
  exact⟨_,_,NT,agR R T I Q L hT hl hI hQ hR h0 h1 hroom K hK⟩)
def sk:FuncId->Option du
 | 49=>some ⟨[],eL [true,true,true,true,true,true,false,true,true,true,true,true,true,true,true,true,true,true,true,true,true,true] xM⟩
 |_=>none
noncomputable def ql:cd:=dM Tryz.prog sk aG 10
abbrev Ot:=fun(R:ι) mN (K:V->KB->Prop)=>(
 nO R<=(nO R)/\
 K (aC (χ 5 (ax 0 (ay (nO R) (ae bV R.out))))) mN
 :Prop)
theorem aih (R:ι) (T:ML) (π υ:Value) (K:V->KB->Prop) (aq:
 Ot R [cR R (af T) (ο false) (δ π) (δ υ) (aR none) (ζ 1 0 0) (ζ 2 0 (nD R)),ai 107 5 [],rD R] K
 ):aI Tryz.prog X0 (aG 46) 46 [aj 0 0] [cR R (af T) (ο false) (δ π) (δ υ) (.aa none) (.sl 1 0 (nO R)) (.sl 2 0 (nD R)),rO R,rD R] (j0 [.fA 5] (eX [.cell 0 147 107 5] (fg K))):=by apply Eq.mp (a:=aq);kernel_rfl
theorem aig (R:ι) (T:ML) (I Q:ML) (u:Option (List D)) (K:V->KB->Prop) (aq:
 Ot R [cR R (af T) (ο true) (aY 1) (aY 2) (aR u) (ζ 3 0 0) (ζ 4 0 (nD R)),an I,an Q,ai 107 5 [],rD R] K
 ):aI Tryz.prog X0 (aG 46) 46 [aj 0 0] [cR R (af T) (ο true) (.mp 1) (.mp 2) (.aa u) (.sl 3 0 (nO R)) (.sl 4 0 (nD R)),an I,an Q,rO R,rD R] (j0 [.fA 5] (eX [.cell 0 147 107 5] (fg K))):=by apply Eq.mp (a:=aq);kernel_rfl
abbrev Oo:=fun(R:ι) mN (K:V->KB->Prop)=>(
 nD R<=(nD R)/\
 K (aC (χ 7 (ax 0 (ay (nD R) (ae dA R.done))))) mN
 :Prop)
theorem ahE (R:ι) (T:ML) (π υ:Value) (K:V->KB->Prop) (aq:
 Oo R [cR R (af T) (ο false) (δ π) (δ υ) (aR none) (ζ 1 0 (nO R)) (ζ 2 0 0),rO R,ai 70 7 []] K
 ):aI Tryz.prog X0 (aG 24) 24 [aj 0 0] [cR R (af T) (ο false) (δ π) (δ υ) (.aa none) (.sl 1 0 (nO R)) (.sl 2 0 (nD R)),rO R,rD R] (j0 [.fA 7] (eX [.cell 0 148 70 7] (fg K))):=by apply Eq.mp (a:=aq);kernel_rfl
theorem ahD (R:ι) (T:ML) (I Q:ML) (u:Option (List D)) (K:V->KB->Prop) (aq:
 Oo R [cR R (af T) (ο true) (aY 1) (aY 2) (aR u) (ζ 3 0 (nO R)) (ζ 4 0 0),an I,an Q,rO R,ai 70 7 []] K
 ):aI Tryz.prog X0 (aG 24) 24 [aj 0 0] [cR R (af T) (ο true) (.mp 1) (.mp 2) (.aa u) (.sl 3 0 (nO R)) (.sl 4 0 (nD R)),an I,an Q,rO R,rD R] (j0 [.fA 7] (eX [.cell 0 148 70 7] (fg K))):=by apply Eq.mp (a:=aq);kernel_rfl
abbrev On:=fun(R:ι) mN (K:V->KB->Prop)=>(
 K (ο R.ch) mN
 :Prop)
theorem ahl (R:ι) (T:ML) (π υ:Value) (K:V->KB->Prop) (aq:
 On R [cS R (ε γ R.nu) (bF 128 (aT ξ R.c)) (ο false) (af T) (ο false) (δ π) (δ υ) (aR none) (ζ 1 0 (nO R)) (ζ 2 0 (nD R)),rO R,rD R] K
 ):aI Tryz.prog X0 (aG 25) 25 [aj 0 0] [cR R (af T) (ο false) (δ π) (δ υ) (.aa none) (.sl 1 0 (nO R)) (.sl 2 0 (nD R)),rO R,rD R] (fg K):=by apply Eq.mp (a:=aq);kernel_rfl
theorem ahk (R:ι) (T:ML) (I Q:ML) (u:Option (List D)) (K:V->KB->Prop) (aq:
 On R [cS R (ε γ R.nu) (bF 128 (aT ξ R.c)) (ο false) (af T) (ο true) (aY 1) (aY 2) (aR u) (ζ 3 0 (nO R)) (ζ 4 0 (nD R)),an I,an Q,rO R,rD R] K
 ):aI Tryz.prog X0 (aG 25) 25 [aj 0 0] [cR R (af T) (ο true) (.mp 1) (.mp 2) (.aa u) (.sl 3 0 (nO R)) (.sl 4 0 (nD R)),an I,an Q,rO R,rD R] (fg K):=by apply Eq.mp (a:=aq);kernel_rfl
abbrev Oq:=fun(R:ι) mN (K:V->KB->Prop)=>(
 K (au [ε γ R.ep,ε γ R.nu]) mN
 :Prop)
theorem ahH (R:ι) (T:ML) (π υ:Value) (K:V->KB->Prop) (aq:
 Oq R [cR R (af T) (ο false) (δ π) (δ υ) (aR none) (ζ 1 0 (nO R)) (ζ 2 0 (nD R)),rO R,rD R] K
 ):aI Tryz.prog X0 (aG 13) 13 [aj 0 0] [cR R (af T) (ο false) (δ π) (δ υ) (.aa none) (.sl 1 0 (nO R)) (.sl 2 0 (nD R)),rO R,rD R] (fg K):=by apply Eq.mp (a:=aq);kernel_rfl
theorem ahG (R:ι) (T:ML) (I Q:ML) (u:Option (List D)) (K:V->KB->Prop) (aq:
 Oq R [cR R (af T) (ο true) (aY 1) (aY 2) (aR u) (ζ 3 0 (nO R)) (ζ 4 0 (nD R)),an I,an Q,rO R,rD R] K
 ):aI Tryz.prog X0 (aG 13) 13 [aj 0 0] [cR R (af T) (ο true) (.mp 1) (.mp 2) (.aa u) (.sl 3 0 (nO R)) (.sl 4 0 (nD R)),an I,an Q,rO R,rD R] (fg K):=by apply Eq.mp (a:=aq);kernel_rfl
abbrev Ou:=fun(R:ι) (mN:(List Int)->_) (K:V->KB->Prop)=>(
 ∀(y1:Nat->
 Value),∃(y2:List Int),aT ξ R.c=aT ξ y2/\
 y2.length=128/\
 (∀(y3:Int),dW y3 y2->
 0<=y3/\
 y3<256)/\
 bz y1 [0,1,2,3,4,5,7,8,9,10,11,12,13,14,15,16,17,18,19,20,21]/\
 K (ε iM (eG y2)) (mN y2)
 :Prop)
theorem aiC (R:ι) (T:ML) (π υ:Value) (K:V->KB->Prop) (aq:
 Ou R (fun y2=>[cS R (ε γ R.nu) (bF 128 (aT ξ y2)) (ο R.ch) (af T) (ο false) (δ π) (δ υ) (aR none) (ζ 1 0 (nO R)) (ζ 2 0 (nD R)),rO R,rD R]) K
 ):aI Tryz.prog ql (aG 18) 18 [aj 0 0] [cR R (af T) (ο false) (δ π) (δ υ) (.aa none) (.sl 1 0 (nO R)) (.sl 2 0 (nD R)),rO R,rD R] (fg K):=by apply Eq.mp (a:=aq);kernel_rfl
theorem aiB (R:ι) (T:ML) (I Q:ML) (u:Option (List D)) (K:V->KB->Prop) (aq:
 Ou R (fun y2=>[cS R (ε γ R.nu) (bF 128 (aT ξ y2)) (ο R.ch) (af T) (ο true) (aY 1) (aY 2) (aR u) (ζ 3 0 (nO R)) (ζ 4 0 (nD R)),an I,an Q,rO R,rD R]) K
 ):aI Tryz.prog ql (aG 18) 18 [aj 0 0] [cR R (af T) (ο true) (.mp 1) (.mp 2) (.aa u) (.sl 3 0 (nO R)) (.sl 4 0 (nD R)),an I,an Q,rO R,rD R] (fg K):=by apply Eq.mp (a:=aq);kernel_rfl
theorem ah0 (R:ι) (T:ML) (π υ:Value) (K:V->KB->Prop) (aq:
 ∀(y1:Nat->
 Value),false=false/\
 bz y1 [0,1,2,3,4,5,7,8,9,10,11,12,14,15,17,18,19,20,21]/\
 K (au [ο false,ο false,ο false]) [cR R (af T) (ο false) (δ π) (δ υ) (aR none) (ζ 1 0 (nO R)) (ζ 2 0 (nD R)),rO R,rD R]
 ):eL [true,true,true,true,true,true,false,true,true,true,true,true,true,false,true,true,false,true,true,true,true,true] rj [aj 0 0] [cR R (af T) (ο false) (δ π) (δ υ) (.aa none) (.sl 1 0 (nO R)) (.sl 2 0 (nD R)),rO R,rD R] (fg K):=by apply Eq.mp (a:=aq);kernel_rfl
theorem ahZ (R:ι) (T:ML) (I Q:ML) (u:Option (List D)) (K:V->KB->Prop) (aq:
 ∀(y1:Nat->
 Value),∃(y2:List Int),∃(y3:List Int),ints γ R.v.mem=ints γ y2/\
 ints γ R.v.aH=ints γ y3/\
 dK (y2.length+y3.length)/\
 lL I/\
 true=true/\
 bz y1 [1,2,3,4,5,7,8,9,10,15,17,18,19,20,21]/\
 K (au [ο true,ο (allI R.me y2 y3 I),ο !u.isNone]) [cR R (af T) (ο true) (aY 1) (aY 2) (aR u) (ζ 3 0 (nO R)) (ζ 4 0 (nD R)),an I,an Q,rO R,rD R]
 ):eL [false,true,true,true,true,true,false,true,true,true,true,false,false,false,false,true,false,true,true,true,true,true] rj [aj 0 0] [cR R (af T) (ο true) (.mp 1) (.mp 2) (.aa u) (.sl 3 0 (nO R)) (.sl 4 0 (nD R)),an I,an Q,rO R,rD R] (fg K):=by apply Eq.mp (a:=aq);kernel_rfl
theorem Jp {P:Program} (hm:P.follows .mixedOrders=true) (ms:List Vc.Mode) (ds:List jX) {f:FuncId} {S:aE} (h:∀ args kb K,S args kb K->∃(X:cd) (T:Nat->Option LI),cx P X/\aI P X T f args kb (j0 ms (eX ds (fg K)))):gB P f S:=
 Jo (JF (Qo (xi hm (S:=fun a k K0=>∃ X T,cx P X/\aI P X T f a k K0) fun _ _ _ h=>h) ms) ds) h
def X3:aE:=fun args kb K=>∃ ms,eL ms rj args kb K
theorem X4:aO Tryz.prog 14 X3:=fun args kb K ⟨ms,h⟩=>fJ J8 ms args kb K h
theorem zy:dD Tryz.prog sk:=fun f k h=>by
 unfold sk at h
 split at h
 ·cases h;exact fJ J7 _
 ·cases h
theorem vP:cx Tryz.prog ql:=dP mixed zy aG 10
theorem aeU (R:ι) (T:ML) (π υ:Value) (hT:bL T R.t) (hl:R.ld=none) (hR:dF R) (K:V->KB->Prop) (hK:∀ kb',aF {R with out:=[] } kb'->K (aC (.sl 5 (R.out.map bV))) kb'):aI Tryz.prog X0 (aG 46) 46 [aj 0 0] [cR R (af T) (ο false) (δ π) (δ υ) (.aa none) (.sl 1 0 (nO R)) (.sl 2 0 (nD R)),rO R,rD R] (j0 [.fA 5] (eX [.cell 0 147 107 5] (fg K))):=by
 have fin:∀{kb'},aF {R with out:=[] } kb'->∀{r},r=(aC (.sl 5 (R.out.map bV)))->K r kb':=fun h r e=>e ▸ hK _ h
 refine aih R T π υ K ⟨ar _,fin ?_ (by rw[iD,eQ (ar _)])⟩
 unfold aF
 simp only[hl]
 exact⟨π,υ,T,hT,rfl⟩
theorem aeT (R:ι) (T:ML) (I Q:ML) (L:b9) (hT:bL T R.t) (hl:R.ld=some L) (hI:MB I L.ins) (hQ:MB Q L.cy) (hR:dF R) (K:V->KB->Prop) (hK:∀ kb',aF {R with out:=[] } kb'->K (aC (.sl 5 (R.out.map bV))) kb'):aI Tryz.prog X0 (aG 46) 46 [aj 0 0] [cR R (af T) (ο true) (.mp 1) (.mp 2) (.aa (L.cur.map bo)) (.sl 3 0 (nO R)) (.sl 4 0 (nD R)),an I,an Q,rO R,rD R] (j0 [.fA 5] (eX [.cell 0 147 107 5] (fg K))):=by
 have fin:∀{kb'},aF {R with out:=[] } kb'->∀{r},r=(aC (.sl 5 (R.out.map bV)))->K r kb':=fun h r e=>e ▸ hK _ h
 refine aig R T I Q (L.cur.map bo) K ⟨ar _,fin ?_ (by rw[iD,eQ (ar _)])⟩
 unfold aF
 simp only[hl]
 exact⟨I,Q,T,hI,hQ,hT,rfl⟩
def XQ:aE:=fun args kb K=>∃ R,args=[aj 0 0]/\aF R kb/\dF R/\∀ kb',aF {R with out:=[] } kb'->K (aC (.sl 5 (R.out.map bV))) kb'
set_option maxHeartbeats 4000000 in
theorem adk:gB Tryz.prog 46 XQ:=Jp mixed [.fA 5] [.cell 0 147 107 5] (fun args kb K h=>by
 obtain⟨R,rfl,hkb,hR,hK⟩:=h
 have jh:=hkb
 unfold aF at hkb
 split at hkb
 ·rename_i hl
  obtain⟨π,υ,T,hT,rfl⟩:=hkb
  exact⟨_,_,ga,aeU R T π υ hT hl hR K hK⟩
 ·rename_i L hl
  obtain⟨I,Q,T,hI,hQ,hT,rfl⟩:=hkb
  exact⟨_,_,ga,aeT R T I Q L hT hl hI hQ hR K hK⟩)
theorem aeN (R:ι) (T:ML) (π υ:Value) (hT:bL T R.t) (hl:R.ld=none) (hR:dF R) (K:V->KB->Prop) (hK:∀ kb',aF {R with done:=[] } kb'->K (aC (.sl 7 (R.done.map dA))) kb'):aI Tryz.prog X0 (aG 24) 24 [aj 0 0] [cR R (af T) (ο false) (δ π) (δ υ) (.aa none) (.sl 1 0 (nO R)) (.sl 2 0 (nD R)),rO R,rD R] (j0 [.fA 7] (eX [.cell 0 148 70 7] (fg K))):=by
 have fin:∀{kb'},aF {R with done:=[] } kb'->∀{r},r=(aC (.sl 7 (R.done.map dA)))->K r kb':=fun h r e=>e ▸ hK _ h
 refine ahE R T π υ K ⟨ar _,fin ?_ (by rw[iD,eQ (ar _)])⟩
 unfold aF
 simp only[hl]
 exact⟨π,υ,T,hT,rfl⟩
theorem aeM (R:ι) (T:ML) (I Q:ML) (L:b9) (hT:bL T R.t) (hl:R.ld=some L) (hI:MB I L.ins) (hQ:MB Q L.cy) (hR:dF R) (K:V->KB->Prop) (hK:∀ kb',aF {R with done:=[] } kb'->K (aC (.sl 7 (R.done.map dA))) kb'):aI Tryz.prog X0 (aG 24) 24 [aj 0 0] [cR R (af T) (ο true) (.mp 1) (.mp 2) (.aa (L.cur.map bo)) (.sl 3 0 (nO R)) (.sl 4 0 (nD R)),an I,an Q,rO R,rD R] (j0 [.fA 7] (eX [.cell 0 148 70 7] (fg K))):=by
 have fin:∀{kb'},aF {R with done:=[] } kb'->∀{r},r=(aC (.sl 7 (R.done.map dA)))->K r kb':=fun h r e=>e ▸ hK _ h
 refine ahD R T I Q (L.cur.map bo) K ⟨ar _,fin ?_ (by rw[iD,eQ (ar _)])⟩
 unfold aF
 simp only[hl]
 exact⟨I,Q,T,hI,hQ,hT,rfl⟩
def XJ:aE:=fun args kb K=>∃ R,args=[aj 0 0]/\aF R kb/\dF R/\∀ kb',aF {R with done:=[] } kb'->K (aC (.sl 7 (R.done.map dA))) kb'
set_option maxHeartbeats 4000000 in
theorem acJ:gB Tryz.prog 24 XJ:=Jp mixed [.fA 7] [.cell 0 148 70 7] (fun args kb K h=>by
 obtain⟨R,rfl,hkb,hR,hK⟩:=h
 have jh:=hkb
 unfold aF at hkb
 split at hkb
 ·rename_i hl
  obtain⟨π,υ,T,hT,rfl⟩:=hkb
  exact⟨_,_,ga,aeN R T π υ hT hl hR K hK⟩
 ·rename_i L hl
  obtain⟨I,Q,T,hI,hQ,hT,rfl⟩:=hkb
  exact⟨_,_,ga,aeM R T I Q L hT hl hI hQ hR K hK⟩)
theorem aeL (R:ι) (T:ML) (π υ:Value) (hT:bL T R.t) (hl:R.ld=none) (hR:dF R) (K:V->KB->Prop) (hK:∀ kb',aF {R with ch:=false } kb'->K (ο R.ch) kb'):aI Tryz.prog X0 (aG 25) 25 [aj 0 0] [cR R (af T) (ο false) (δ π) (δ υ) (.aa none) (.sl 1 0 (nO R)) (.sl 2 0 (nD R)),rO R,rD R] (fg K):=by
 have fin:∀{kb'},aF {R with ch:=false } kb'->∀{r},r=(ο R.ch)->K r kb':=fun h r e=>e ▸ hK _ h
 refine ahl R T π υ K (fin ?_ rfl)
 unfold aF
 simp only[hl]
 exact⟨π,υ,T,hT,rfl⟩
theorem aeK (R:ι) (T:ML) (I Q:ML) (L:b9) (hT:bL T R.t) (hl:R.ld=some L) (hI:MB I L.ins) (hQ:MB Q L.cy) (hR:dF R) (K:V->KB->Prop) (hK:∀ kb',aF {R with ch:=false } kb'->K (ο R.ch) kb'):aI Tryz.prog X0 (aG 25) 25 [aj 0 0] [cR R (af T) (ο true) (.mp 1) (.mp 2) (.aa (L.cur.map bo)) (.sl 3 0 (nO R)) (.sl 4 0 (nD R)),an I,an Q,rO R,rD R] (fg K):=by
 have fin:∀{kb'},aF {R with ch:=false } kb'->∀{r},r=(ο R.ch)->K r kb':=fun h r e=>e ▸ hK _ h
 refine ahk R T I Q (L.cur.map bo) K (fin ?_ rfl)
 unfold aF
 simp only[hl]
 exact⟨I,Q,T,hI,hQ,hT,rfl⟩
def XI:aE:=fun args kb K=>∃ R,args=[aj 0 0]/\aF R kb/\dF R/\∀ kb',aF {R with ch:=false } kb'->K (ο R.ch) kb'
set_option maxHeartbeats 4000000 in
theorem acz:gB Tryz.prog 25 XI:=C0 mixed (fun args kb K h=>by
 obtain⟨R,rfl,hkb,hR,hK⟩:=h
 have jh:=hkb
 unfold aF at hkb
 split at hkb
 ·rename_i hl
  obtain⟨π,υ,T,hT,rfl⟩:=hkb
  exact⟨_,_,ga,aeL R T π υ hT hl hR K hK⟩
 ·rename_i L hl
  obtain⟨I,Q,T,hI,hQ,hT,rfl⟩:=hkb
  exact⟨_,_,ga,aeK R T I Q L hT hl hI hQ hR K hK⟩)
theorem aeP (R:ι) (T:ML) (π υ:Value) (hT:bL T R.t) (hl:R.ld=none) (hR:dF R) (K:V->KB->Prop) (hK:∀ kb',aF R kb'->K (.φ [.int γ R.ep,.int γ R.nu]) kb'):aI Tryz.prog X0 (aG 13) 13 [aj 0 0] [cR R (af T) (ο false) (δ π) (δ υ) (.aa none) (.sl 1 0 (nO R)) (.sl 2 0 (nD R)),rO R,rD R] (fg K):=by
 have fin:∀{kb'},aF R kb'->∀{r},r=(.φ [.int γ R.ep,.int γ R.nu])->K r kb':=fun h r e=>e ▸ hK _ h
 refine ahH R T π υ K (fin ?_ rfl)
 unfold aF
 simp only[hl]
 exact⟨π,υ,T,hT,rfl⟩
theorem aeO (R:ι) (T:ML) (I Q:ML) (L:b9) (hT:bL T R.t) (hl:R.ld=some L) (hI:MB I L.ins) (hQ:MB Q L.cy) (hR:dF R) (K:V->KB->Prop) (hK:∀ kb',aF R kb'->K (.φ [.int γ R.ep,.int γ R.nu]) kb'):aI Tryz.prog X0 (aG 13) 13 [aj 0 0] [cR R (af T) (ο true) (.mp 1) (.mp 2) (.aa (L.cur.map bo)) (.sl 3 0 (nO R)) (.sl 4 0 (nD R)),an I,an Q,rO R,rD R] (fg K):=by
 have fin:∀{kb'},aF R kb'->∀{r},r=(.φ [.int γ R.ep,.int γ R.nu])->K r kb':=fun h r e=>e ▸ hK _ h
 refine ahG R T I Q (L.cur.map bo) K (fin ?_ rfl)
 unfold aF
 simp only[hl]
 exact⟨I,Q,T,hI,hQ,hT,rfl⟩
def XK:aE:=fun args kb K=>∃ R,args=[aj 0 0]/\aF R kb/\dF R/\∀ kb',aF R kb'->K (.φ [.int γ R.ep,.int γ R.nu]) kb'
set_option maxHeartbeats 4000000 in
theorem acL:gB Tryz.prog 13 XK:=C0 mixed (fun args kb K h=>by
 obtain⟨R,rfl,hkb,hR,hK⟩:=h
 have jh:=hkb
 unfold aF at hkb
 split at hkb
 ·rename_i hl
  obtain⟨π,υ,T,hT,rfl⟩:=hkb
  exact⟨_,_,ga,aeP R T π υ hT hl hR K hK⟩
 ·rename_i L hl
  obtain⟨I,Q,T,hI,hQ,hT,rfl⟩:=hkb
  exact⟨_,_,ga,aeO R T I Q L hT hl hI hQ hR K hK⟩)
theorem aeW (R:ι) (T:ML) (π υ:Value) (hT:bL T R.t) (hl:R.ld=none) (hR:dF R) (K:V->KB->Prop) (hK:∀ kb',aF R kb'->K (.int iM (eG R.c)) kb'):aI Tryz.prog ql (aG 18) 18 [aj 0 0] [cR R (af T) (ο false) (δ π) (δ υ) (.aa none) (.sl 1 0 (nO R)) (.sl 2 0 (nD R)),rO R,rD R] (fg K):=by
 have fin:∀{kb'},aF R kb'->∀{r},r=(.int iM (eG R.c))->K r kb':=fun h r e=>e ▸ hK _ h
 refine aiC R T π υ K fun f=>⟨R.c,rfl,hR.cl,fun c h=>hR.cb c h,⟨by simp [bU]⟩,fin ?_ rfl⟩
 unfold aF
 simp only[hl]
 exact⟨π,υ,T,hT,rfl⟩
theorem aeV (R:ι) (T:ML) (I Q:ML) (L:b9) (hT:bL T R.t) (hl:R.ld=some L) (hI:MB I L.ins) (hQ:MB Q L.cy) (hR:dF R) (K:V->KB->Prop) (hK:∀ kb',aF R kb'->K (.int iM (eG R.c)) kb'):aI Tryz.prog ql (aG 18) 18 [aj 0 0] [cR R (af T) (ο true) (.mp 1) (.mp 2) (.aa (L.cur.map bo)) (.sl 3 0 (nO R)) (.sl 4 0 (nD R)),an I,an Q,rO R,rD R] (fg K):=by
 have fin:∀{kb'},aF R kb'->∀{r},r=(.int iM (eG R.c))->K r kb':=fun h r e=>e ▸ hK _ h
 refine aiB R T I Q (L.cur.map bo) K fun f=>⟨R.c,rfl,hR.cl,fun c h=>hR.cb c h,⟨by simp [bU]⟩,fin ?_ rfl⟩
 unfold aF
 simp only[hl]
 exact⟨I,Q,T,hI,hQ,hT,rfl⟩
def XU:aE:=fun args kb K=>∃ R,args=[aj 0 0]/\aF R kb/\dF R/\∀ kb',aF R kb'->K (.int iM (eG R.c)) kb'
set_option maxHeartbeats 4000000 in
theorem adP:gB Tryz.prog 18 XU:=C0 mixed (fun args kb K h=>by
 obtain⟨R,rfl,hkb,hR,hK⟩:=h
 have jh:=hkb
 unfold aF at hkb
 split at hkb
 ·rename_i hl
  obtain⟨π,υ,T,hT,rfl⟩:=hkb
  exact⟨_,_,vP,aeW R T π υ hT hl hR K hK⟩
 ·rename_i L hl
  obtain⟨I,Q,T,hI,hQ,hT,rfl⟩:=hkb
  exact⟨_,_,vP,aeV R T I Q L hT hl hI hQ hR K hK⟩)
theorem aeR (R:ι) (T:ML) (π υ:Value) (hT:bL T R.t) (hl:R.ld=none) (hR:dF R) (K:V->KB->Prop) (hK:∀ kb',aF R kb'->K (.φ [ο (ef R),ο (gw R),ο (lA R)]) kb'):eL [true,true,true,true,true,true,false,true,true,true,true,true,true,false,true,true,false,true,true,true,true,true] rj [aj 0 0] [cR R (af T) (ο false) (δ π) (δ υ) (.aa none) (.sl 1 0 (nO R)) (.sl 2 0 (nD R)),rO R,rD R] (fg K):=by
 have fin:∀{kb'},aF R kb'->∀{r},r=(.φ [ο (ef R),ο (gw R),ο (lA R)])->K r kb':=fun h r e=>e ▸ hK _ h
 refine ah0 R T π υ K fun f=>⟨rfl,⟨by simp [bU]⟩,fin ?_ (by simp [ef,gw,lA,ci,hl])⟩
 unfold aF
 simp only[hl]
 exact⟨π,υ,T,hT,rfl⟩
theorem aeQ (R:ι) (T:ML) (I Q:ML) (L:b9) (hT:bL T R.t) (hl:R.ld=some L) (hI:MB I L.ins) (hQ:MB Q L.cy) (hR:dF R) (K:V->KB->Prop) (hK:∀ kb',aF R kb'->K (.φ [ο (ef R),ο (gw R),ο (lA R)]) kb'):eL [false,true,true,true,true,true,false,true,true,true,true,false,false,false,false,true,false,true,true,true,true,true] rj [aj 0 0] [cR R (af T) (ο true) (.mp 1) (.mp 2) (.aa (L.cur.map bo)) (.sl 3 0 (nO R)) (.sl 4 0 (nD R)),an I,an Q,rO R,rD R] (fg K):=by
 have fin:∀{kb'},aF R kb'->∀{r},r=(.φ [ο (ef R),ο (gw R),ο (lA R)])->K r kb':=fun h r e=>e ▸ hK _ h
 refine ahZ R T I Q (L.cur.map bo) K fun f=>⟨R.v.mem,R.v.aH,rfl,rfl,⟨by have:=hR.vl;omega⟩,hI.b,rfl,⟨by simp [bU]⟩,fin ?_ (by simp [ef,gw,lA,ci,hl,sR hI,aP])⟩
 unfold aF
 simp only[hl]
 exact⟨I,Q,T,hI,hQ,hT,rfl⟩
def XM:aE:=fun args kb K=>∃ R,args=[aj 0 0]/\aF R kb/\dF R/\∀ kb',aF R kb'->K (.φ [ο (ef R),ο (gw R),ο (lA R)]) kb'
set_option maxHeartbeats 4000000 in
theorem ac4:gB Tryz.prog 14 XM:=Jo X4 (fun args kb K h=>by
 obtain⟨R,rfl,hkb,hR,hK⟩:=h
 have jh:=hkb
 unfold aF at hkb
 split at hkb
 ·rename_i hl
  obtain⟨π,υ,T,hT,rfl⟩:=hkb
  exact⟨_,aeR R T π υ hT hl hR K hK⟩
 ·rename_i L hl
  obtain⟨I,Q,T,hI,hQ,hT,rfl⟩:=hkb
  exact⟨_,aeQ R T I Q L hT hl hI hQ hR K hK⟩)
def jQ (ep nu:Int) (c:List Int) (x:List L3):List Int:=aZ ep++(aZ nu++(cK (ca c)++cK (be x)))
def gD (R:ι):List Int:=jQ R.ep R.nu R.c (gK R)
def Gr:FuncId->Option du
 | 38=>some ⟨[],eL [true,true,true,true,true,true,false,true,true,true,true,true,true,true,true,true,true,true,true,true,true,true] AA⟩
 | 39=>some ⟨[],eL [true,true,true,true,true,true,false,false,true,true,true,true,true,true,true,true,true,true,true,true,true,true] AX⟩
 |f=>wZ f
noncomputable def xV:cd:=dM Tryz.prog Gr aG 10
abbrev JB (me id:Int) (bl:Bool) (ep nu:Int) (c:List Int) (M:ML):KO:=.cells [.int γ me,.int γ id,ο bl,ο false,.int γ ep,.int γ nu,bF 128 (aT ξ c),af M,.int γ 0,.int γ 0,.int γ 0,aC (.sl 1 []),aC (.sl 1 []),ο false,δ (.map none),δ (.map none),.aa none,.int γ 0,ο false,.int γ 0,.sl 1 0 0,.sl 2 0 0]
def EQ:aE:=fun args kb K=>match args,kb with
 | [.int γ me,.int γ id,ο bl],[]=>K (aj 0 0) [JB me id bl 0 0 jT [],ai 107 5 [],ai 70 7 []]
 |_,_=>False
def nL (l:List Int) (lo:Nat) (e most:Int):Int×Nat×Int:=((cC (l.drop lo) e most).1,lo+(cC (l.drop lo) e most).2.1,(cC (l.drop lo) e most).2.2)
def qf (l:List Int) (lo:Nat) (e most:Int):List Int×Nat×Int:=((gX (l.drop lo) e most).1,lo+(gX (l.drop lo) e most).2.1,(gX (l.drop lo) e most).2.2)
structure oK (A:List (List D)) (h lo:Nat) (l:List Int):Prop where
 e:A=ints ξ l
 h:h=l.length
 lo:lo<=l.length
 b:bq l
 m:l.length<=140737488355328
def Fq:aE:=fun args kb K=>match args,kb with
 | [aj 0 0,.int γ most],[aB [.sl 1 lo h,.int γ e],ai 5 1 A]=>∃ l:List Int,oK A h lo l/\
  ∀ v p e',nL l lo e most=(v,p,e')->K (.int γ v) [aB [.sl 1 p l.length,.int γ e'],ai 5 1 (ints ξ l)]
 |_,_=>False
def Fs:aE:=fun args kb K=>match args,kb with
 | [aj 0 0,.int γ most],[aB [.sl 1 lo h,.int γ e],ai 5 1 A]=>∃ l:List Int,oK A h lo l/\
  ∀ t p e',qf l lo e most=(t,p,e')->K (.sl 2 0 t.length) [aB [.sl 1 p l.length,.int γ e'],ai 5 1 (ints ξ l),ai 5 1 (ints ξ t)]
 |_,_=>False
def Fo:aE:=fun args kb K=>match args,kb with
 | [aj 0 0],[aB [.sl 1 lo h,.int γ e],ai 5 1 A]=>∃ l:List Int,oK A h lo l/\
  ∀ e',iY (l.drop lo) e=e'->K (.int γ e') [aB [.sl 1 lo l.length,.int γ e'],ai 5 1 (ints ξ l)]
 |_,_=>False
def I9:FuncId->Option du
 | 22=>some ⟨[],EQ⟩
 | 31=>some ⟨[],Fq⟩
 | 32=>some ⟨[],Fs⟩
 | 35=>some ⟨[],Fo⟩
 | 30=>some ⟨[.fL 1],AM⟩
 | 33=>some ⟨[.fA 1],xL⟩
 | 34=>some ⟨[.fA 1],Ax⟩
 |_=>none
noncomputable def NJ:cd:=dM Tryz.prog I9 aG 10
abbrev Om:=fun(R:ι) (T:ML) (mN:(List Int)->_) (K:V->KB->Prop)=>(
 ∃(y1:List Int),[]=ints ξ y1/\
 0=y1.length/\
 y1.length<=10000000/\
 jE R.ep/\
 ∃(y2:List Int),ints ξ (y1++aZ R.ep)=ints ξ y2/\
 (y1++aZ R.ep).length=y2.length/\
 y2.length<=10000000/\
 jE R.nu/\
 ∀(y3:Nat->
 Value),∃(y4:List Int),aT ξ R.c=aT ξ y4/\
 y4.length=128/\
 (∀(y5:Int),dW y5 y4->
 0<=y5/\
 y5<256)/\
 bz y3 [0,1,2,3,4,5,7,8,9,10,11,12,13,14,15,16,17,18,19,20,21]/\
 (132<=(ints ξ (ca y4)).length/\
 True)/\
 ∃(y6:List Int),∃(y7:List Int),ints ξ (y2++aZ R.nu)=ints ξ y6/\
 ax 0 (ay 132 (ints ξ (ca y4)))=ints ξ y7/\
 (y2++aZ R.nu).length=y6.length/\
 y6.length<=1000000/\
 y7.length<=1000000/\
 oM (ints ξ (y6++cK y7)).flatten/\
 ∀(y8:Nat->
 Value),∃(y9:List L3),bL T y9/\
 bz y8 [0,1,2,3,4,5,8,9,10,11,12,13,14,15,16,17,18,19,20,21]/\
 ((be y9).length<=(ints ξ (be y9)).length/\
 True)/\
 ∃(cU:List Int),∃(cD:List Int),ints ξ (y6++cK y7)=ints ξ cU/\
 ax 0 (ay (be y9).length (ints ξ (be y9)))=ints ξ cD/\
 (y6++cK y7).length=cU.length/\
 cU.length<=1000000/\
 cD.length<=1000000/\
 oM (ints ξ (cU++cK cD)).flatten/\
 ∃(cE:List Int),ints ξ (cU++cK cD)=ints ξ cE/\
 (cU++cK cD).length=cE.length/\
 cE.length<=1000000/\
 cE.length<=(ints ξ cE).length/\
 K (aC (χ 1 (ax 0 (ay cE.length (ints ξ cE))))) (mN y4)
 :Prop)
theorem ahi (R:ι) (T:ML) (π υ:Value) (K:V->KB->Prop) (aq:
 Om R T (fun y4=>[cS R (ε γ R.nu) (bF 128 (aT ξ y4)) (ο R.ch) (af T) (ο false) (δ π) (δ υ) (aR none) (ζ 1 0 (nO R)) (ζ 2 0 (nD R)),rO R,rD R]) K
 ):aI Tryz.prog xV (aG 11) 11 [aj 0 0] [cR R (af T) (ο false) (δ π) (δ υ) (.aa none) (.sl 1 0 (nO R)) (.sl 2 0 (nD R)),rO R,rD R] (j0 [.fA 1] (fg K)):=by apply Eq.mp (a:=aq);kernel_rfl
theorem ahh (R:ι) (T:ML) (I Q:ML) (u:Option (List D)) (K:V->KB->Prop) (aq:
 Om R T (fun y4=>[cS R (ε γ R.nu) (bF 128 (aT ξ y4)) (ο R.ch) (af T) (ο true) (aY 1) (aY 2) (aR u) (ζ 3 0 (nO R)) (ζ 4 0 (nD R)),an I,an Q,rO R,rD R]) K
 ):aI Tryz.prog xV (aG 11) 11 [aj 0 0] [cR R (af T) (ο true) (.mp 1) (.mp 2) (.aa u) (.sl 3 0 (nO R)) (.sl 4 0 (nD R)),an I,an Q,rO R,rD R] (j0 [.fA 1] (fg K)):=by apply Eq.mp (a:=aq);kernel_rfl
theorem ah6 (me id:Int) (bl:Bool) (K:V->KB->Prop) (aq:
 K (aj 0 0) [aB [ε γ me,ε γ id,ο bl,ο false,ε γ 0,ε γ 0,bF 128 (dv 128 (η (ν ξ 0))),af [],ε γ 0,ε γ 0,ε γ 0,aC (χ 1 []),aC (χ 1 []),ο false,δ (kT none),δ (kT none),aR none,ε γ 0,ο false,ε γ 0,ζ 1 0 0,ζ 2 0 0],ai 107 5 [],ai 70 7 []]
 ):aI Tryz.prog X0 (aG 22) 22 [.int γ me,.int γ id,ο bl] [] (eX [.sY 0 138 1,.sY 0 139 1,.cell 0 147 107 5,.cell 0 148 70 7,.oV 0 134 [γ] false true 2,.qD 0 143] K):=by apply Eq.mp (a:=aq);kernel_rfl
theorem ah3 (me id:Int) (l:List Int) (K:V->KB->Prop) (aq:
 let aJ:=bF 128 (dv 128 (η (ν ξ 0)));let aN:=(au [aj 0 0,ο true]);let θ:=K (au [δ (Value.pointer none),ο false]) [];(ints ξ l).length<=140737488355328/\
 ∃(y1:List Int),oK (ints ξ l) (ints ξ l).length 0 y1/\
 ∀(y2:Int) (y3:Nat) (y4:Int),nL y1 0 0 1099511627776=(y2,y3,y4)->
 ∃(y5:List Int),oK (ints ξ y1) y1.length y3 y5/\
 ∀(y6:Int) (y7:Nat) (y8:Int),nL y5 y3 y4 1099511627776=(y6,y7,y8)->
 ∃(y9:List Int),oK (ints ξ y5) y5.length y7 y9/\
 ∀(cU:List Int) (cD:Nat) (cE:Int),qf y9 y7 y8 (↑(ints ξ l).length:Int)=(cU,cD,cE)->
 ∃(cP:List Int),oK (ints ξ y9) y9.length cD cP/\
 ∀(dH:List Int) (cZ:Nat) (fZ:Int),let bp:=dH.length<=(ints ξ dH).length;let aU:=(ay dH.length (ints ξ dH));qf cP cD cE (↑(ints ξ l).length:Int)=(dH,cZ,fZ)->
 cU.length<=(ints ξ cU).length/\
 ∃(dr:List Int),ax 0 (ay cU.length (ints ξ cU))=ints ξ dr/\
 (∀(fx:Int),dW fx dr->
 0<=fx/\
 fx<256)/\
 dr.length<=900000/\
 (∀(fO:List Int),fM dr=some fO->
 fO.length=128->
 bp/\
 ∃(fU:List Int),ax 0 aU=ints ξ fU/\
 (∀(fh:Int),dW fh fU->
 0<=fh/\
 fh<256)/\
 fU.length<=140737488355328/\
 (((∃(fP:List L3),fl fP/\
 fU=be fP)->
 False)->
 ∃(iZ:List Int),oK (ints ξ cP) cP.length cZ iZ/\
 ∀(gx:Int),iY (ax cZ iZ) fZ=gx->
 ((gx != 0)=true->
 θ)/\
 ((gx != 0)=false->
 (false=true->
 θ)/\
 (false=false->
 (true=true->
 θ)/\
 (true=false->
 δ (kT none)=δ (kT none)/\
 K aN [aB [ε γ me,ε γ id,ο false,ο false,ε γ y2,ε γ y6,bF 128 (aT ξ fO),δ (kT none),ε γ 0,ε γ 0,ε γ 0,aC (χ 1 []),aC (χ 1 []),ο false,δ (kT none),δ (kT none),aR none,ε γ 0,ο false,ε γ 0,ζ 1 0 0,ζ 2 0 0],ai 107 5 [],ai 70 7 []]))))/\
 ∀(eZ:List L3) (fj:ML),let av:=K aN [aB [ε γ me,ε γ id,ο false,ο false,ε γ y2,ε γ y6,bF 128 (aT ξ fO),af fj,ε γ 0,ε γ 0,ε γ 0,aC (χ 1 []),aC (χ 1 []),ο false,δ (kT none),δ (kT none),aR none,ε γ 0,ο false,ε γ 0,ζ 1 0 0,ζ 2 0 0],ai 107 5 [],ai 70 7 []];bL fj eZ->
 fU=be eZ->
 ∃(eM:List Int),oK (ints ξ cP) cP.length cZ eM/\
 ∀(i_:Int),iY (ax cZ eM) fZ=i_->
 ((i_ != 0)=true->
 θ)/\
 ((i_ != 0)=false->
 (false=true->
 θ)/\
 (false=false->
 (false=true->
 θ)/\
 (false=false->
 av/\
 av))))/\
 ((∀(kn:List Int),fM dr=some kn->
 kn.length=128->
 False)->
 bp/\
 ∃(iC:List Int),ax 0 aU=ints ξ iC/\
 (∀(fD:Int),dW fD iC->
 0<=fD/\
 fD<256)/\
 iC.length<=140737488355328/\
 (((∃(ko:List L3),fl ko/\
 iC=be ko)->
 False)->
 ∃(kO:List Int),oK (ints ξ cP) cP.length cZ kO/\
 ∀(kp:Int),iY (ax cZ kO) fZ=kp->
 ((kp != 0)=true->
 θ)/\
 ((kp != 0)=false->
 (true=true->
 θ)/\
 (true=false->
 (true=true->
 θ)/\
 (true=false->
 δ (kT none)=δ (kT none)/\
 K aN [aB [ε γ me,ε γ id,ο false,ο false,ε γ y2,ε γ y6,aJ,δ (kT none),ε γ 0,ε γ 0,ε γ 0,aC (χ 1 []),aC (χ 1 []),ο false,δ (kT none),δ (kT none),aR none,ε γ 0,ο false,ε γ 0,ζ 1 0 0,ζ 2 0 0],ai 107 5 [],ai 70 7 []]))))/\
 ∀(lb:List L3) (oF:ML),let ω:=K aN [aB [ε γ me,ε γ id,ο false,ο false,ε γ y2,ε γ y6,aJ,af oF,ε γ 0,ε γ 0,ε γ 0,aC (χ 1 []),aC (χ 1 []),ο false,δ (kT none),δ (kT none),aR none,ε γ 0,ο false,ε γ 0,ζ 1 0 0,ζ 2 0 0],ai 107 5 [],ai 70 7 []];bL oF lb->
 iC=be lb->
 ∃(m5:List Int),oK (ints ξ cP) cP.length cZ m5/\
 ∀(lh:Int),iY (ax cZ m5) fZ=lh->
 ((lh != 0)=true->
 θ)/\
 ((lh != 0)=false->
 (true=true->
 θ)/\
 (true=false->
 (false=true->
 θ)/\
 (false=false->
 ω/\
 ω))))
 ):aI Tryz.prog NJ (aG 10) 10 [.int γ me,.int γ id,aC (.sl 1 (ints ξ l))] [] K:=by apply Eq.mp (a:=aq);kernel_rfl
theorem Bt {a b:List Int} (ha:bq a) (hb:bq b):bq (a++b):=fun c hc=>(dz.1 hc).elim (ha c) (hb c)
theorem Td {l:List Int} (hb:bq l) {lo:Nat} {e m v e':Int} {p:Nat} (hlo:lo<=l.length) (h:nL l lo e m=(v,p,e')):p<=l.length:=by
 have:=uT hb (p:=(lo,e)) hlo m
 unfold nL at h
 simp only[Prod.mk.injEq]at h
 obtain⟨-,h2,-⟩:=h
 rw[<- h2];exact this
theorem JT {l:List Int} (hb:bq l) {lo:Nat} {e m v:Int} {p:Nat} (hm:0<=m) (h:nL l lo e m=(v,p,0)):e=0/\l.drop lo=aZ v++l.drop p/\0<=v/\v<=m:=by
 unfold nL at h
 simp only[Prod.mk.injEq]at h
 obtain⟨h1,h2,h3⟩:=h
 have hs:(ir l (lo,e) m).2=0:=h3
 have k1:=wS hs
 have k2:=zb hb hs
 have k3:=zq (l:=l.drop lo) hm e
 refine⟨k1,?_,by rw[<- h1];exact k3.2,by rw[<- h1];exact k3.1⟩
 rw[<- h1,<- h2]
 exact k2
theorem Tc {pre rest:List Int} {v m:Int} (h0:0<=v) (hm:v<=m) (h:m<=9223372036854775807):nL (pre++(aZ v++rest)) pre.length 0 m=(v,(pre++aZ v).length,0):=by
 have:=za (pre:=pre) (rest:=rest) h0 (by omega) hm
 unfold ir jM at this
 simp only[Prod.mk.injEq]at this
 unfold nL
 rw[this.2,this.1.1,this.1.2]
theorem aeY {l:List Int} {e most:Int} (h:e≠0):gX l e most=([],0,e):=by
 unfold gX
 rw[Dv h]
 simp [h]
theorem aeX {l:List Int} (hb:bq l) (e m:Int):(gX l e m).1.length<=l.length/\(gX l e m).2.1<=l.length/\bq (gX l e m).1:=by
 have k:=(zr hb e m).2.2
 unfold gX
 split
 ·split
  ·exact⟨bj _,k,fun c hc=>by cases hc⟩
  ·rename_i h2
   rw[gm]at h2
   refine⟨by rw[cW,gm];omega,by simp only;omega,bq.take (qq hb _) _⟩
 ·exact⟨bj _,k,fun c hc=>by cases hc⟩
theorem Wk {l:List Int} (hb:bq l) {lo:Nat} {e m e':Int} {t:List Int} {p:Nat} (hlo:lo<=l.length) (h:qf l lo e m=(t,p,e')):p<=l.length/\t.length<=l.length/\bq t:=by
 have:=aeX (qq hb lo) e m
 rw[gm]at this
 unfold qf at h
 simp only[Prod.mk.injEq]at h
 obtain⟨h1,h2,-⟩:=h
 rw[<- h1,<- h2]
 exact⟨by omega,by omega,this.2.2⟩
theorem Wl {l:List Int} (hb:bq l) {lo:Nat} {e m:Int} {t:List Int} {p:Nat} (hm:0<=m) (h:qf l lo e m=(t,p,0)):e=0/\l.drop lo=cK t++l.drop p:=by
 unfold qf at h
 simp only[Prod.mk.injEq]at h
 obtain⟨h1,h2,h3⟩:=h
 have he:e=0:=Classical.byContradiction fun f=>by
  rw[aeY f]at h3;exact f h3
 subst he
 refine⟨rfl,?_⟩
 unfold gX at h1 h2 h3
 split at h3
 ·rename_i hn
  rw[if_pos hn]at h1 h2
  split at h3
  ·cases h3
  ·rename_i hl
   rw[if_neg hl]at h1 h2
   obtain⟨-,k1,k2,-⟩:=JT (lo:=lo) (e:=0) (m:=m) (v:=(cC (l.drop lo) 0 m).1) (p:=lo+(cC (l.drop lo) 0 m).2.1) hb hm (by unfold nL;rw[hn])
   simp only at h1 h2
   have hlen:(t.length:Int)=(cC (l.drop lo) 0 m).1:=by
    rw[<- h1,cW]
    omega
   unfold cK
   rw[hlen,dX]
   have e2:t++l.drop p=l.drop (lo+(cC (l.drop lo) 0 m).2.1):=by
    rw[<- h1,<- h2,<- g_,<- List.drop_drop,<- List.drop_drop,List.take_append_drop]
   rw[e2]
   exact k1
 ·rename_i hn
  exact absurd h3 hn
theorem Wj {pre rest b:List Int} {m:Int} (hm:(b.length:Int)<=m) (h:m<=9223372036854775807):qf (pre++(cK b++rest)) pre.length 0 m=(b,(pre++cK b).length,0):=by
 unfold qf
 rw[List.drop_left,UC hm (by omega),bn]
structure oI (l:List Int) (ep nu:Int) (c:List Int) (x:List L3):Prop where
 e:l=jQ ep nu c x
 e0:0<=ep
 e1:ep<=1099511627776
 n0:0<=nu
 n1:nu<=1099511627776
 cl:c.length=128
 x:fl x
structure Na (l:List Int) (v v1:Int) (t t1:List Int) (e:Int):Prop where
 back:e=0->∀ c x,t=ca c->c.length=128->t1=be x->fl x->oI l v v1 c x
 fwd:∀ ep nu c x,oI l ep nu c x->v=ep/\v1=nu/\t=ca c/\t1=be x/\e=0
theorem Um {l:List Int} (hb:bq l) (hl:l.length<=900000) {v v1:Int} {t t1:List Int} {p p1 p2 p3:Nat} {e e1 e2 e3 e4:Int} (h1:nL l 0 0 1099511627776=(v,p,e)) (h2:nL l p e 1099511627776=(v1,p1,e1)) (h3:qf l p1 e1 l.length=(t,p2,e2)) (h4:qf l p2 e2 l.length=(t1,p3,e3)) (h5:iY (l.drop p3) e3=e4):Na l v v1 t t1 e4:=by
 refine⟨fun h c x ht hc ht1 hx=>?_,fun ep nu c x hr=>?_⟩
 ·subst h
  obtain⟨rfl,q5⟩:=UB h5
  obtain⟨rfl,q4⟩:=Wl hb (by omega) h4
  obtain⟨rfl,q3⟩:=Wl hb (by omega) h3
  obtain⟨rfl,q2,k1,k2⟩:=JT hb (by omega) h2
  obtain⟨-,q1,k3,k4⟩:=JT hb (by omega) h1
  refine⟨?_,k3,k4,k1,k2,hc,hx⟩
  rw[iD]at q1
  unfold jQ
  rw[q1,q2,q3,q4,q5,gz,ht,ht1]
 ·obtain⟨rfl,a0,a1,a2,a3,a4,a5⟩:=hr
  have hlen:(ca c).length<=(jQ ep nu c x).length/\(be x).length<=(jQ ep nu c x).length:=by
   unfold jQ cK;simp only[bn];omega
  have b1:=Tc (pre:=[]) (rest:=aZ nu++(cK (ca c)++cK (be x))) a0 a1 (by omega)
  rw[jr]at b1
  have c1:nL (jQ ep nu c x) 0 0 1099511627776=(ep,([]++aZ ep).length,0):=b1
  rw[c1]at h1
  simp only[Prod.mk.injEq]at h1
  obtain⟨rfl,rfl,rfl⟩:=h1
  have b2:=Tc (pre:=[]++aZ ep) (rest:=cK (ca c)++cK (be x)) a2 a3 (by omega)
  have c2:nL (jQ ep nu c x) ([]++aZ ep).length 0 1099511627776=(nu,([]++aZ ep++aZ nu).length,0):=b2
  rw[c2]at h2
  simp only[Prod.mk.injEq]at h2
  obtain⟨rfl,rfl,rfl⟩:=h2
  have b3:=Wj (pre:=[]++aZ ep++aZ nu) (b:=ca c) (rest:=cK (be x)) (m:=((jQ ep nu c x).length:Int)) (by omega) (by omega)
  have r3:[]++aZ ep++aZ nu++(cK (ca c)++cK (be x))=jQ ep nu c x:=by unfold jQ;simp [dX]
  rw[r3]at b3
  rw[b3]at h3
  simp only[Prod.mk.injEq]at h3
  obtain⟨rfl,rfl,rfl⟩:=h3
  have b4:=Wj (pre:=[]++aZ ep++aZ nu++cK (ca c)) (b:=be x) (rest:=[]) (m:=((jQ ep nu c x).length:Int)) (by omega) (by omega)
  have r4:[]++aZ ep++aZ nu++cK (ca c)++(cK (be x)++[])=jQ ep nu c x:=by unfold jQ;simp [dX]
  rw[r4]at b4
  rw[b4]at h4
  simp only[Prod.mk.injEq]at h4
  obtain⟨rfl,rfl,rfl⟩:=h4
  refine⟨rfl,rfl,rfl,rfl,?_⟩
  rw[<- h5]
  have r5:jQ ep nu c x=[]++aZ ep++aZ nu++cK (ca c)++cK (be x):=by rw[<- r4,gz]
  rw[r5,List.drop_length]
  rfl
theorem afh (ep nu:Int) {c:List Int} (hc:c.length=128) {x:List L3} (hx:x.length<=32):(jQ ep nu c x).length<=2000:=by
 have h1:=ke ep
 have h2:=ke nu
 have h3:=sx (ca c)
 have h4:=sx (be x)
 have h5:=va hx x.length
 rw[tQ]at h5
 rw[pg,hc]at h3
 unfold jQ;simp only[bn];omega
theorem LA {x:List L3} (h:fl x):bq (be x):=by
 unfold be gU
 refine Bt (pW (by have:=h.len;omega)) fun c hc=>?_
 simp only[List.mem_flatten,dO]at hc
 obtain⟨_,⟨p,hp,rfl⟩,hc⟩:=hc
 have hr:=h.rg p hp
 unfold mZ at hc
 simp only[dz]at hc
 rcases hc with (hc | hc) | hc
 ·exact pW (by omega) c hc
 ·exact pW (by omega) c hc
 ·exact pW (by omega) c hc
theorem afg {ep nu:Int} {c:List Int} {x:List L3} (h1:ep<=9223372036854775807) (h2:nu<=9223372036854775807) (hc:c.length=128) (hb:bq c) (hx:fl x):bq (jQ ep nu c x):=by
 have h5:=va hx.len x.length
 rw[tQ]at h5
 exact Bt (pW h1) (Bt (pW h2) (Bt (D_ (DR hb) (by rw[pg];omega)) (D_ (LA hx) (by omega))))
theorem ade:aO Tryz.prog 31 Fq:=fun args kb K h=>TB args kb K (by
 unfold Fq at h
 unfold AR
 split at h<;>try exact h.elim
 obtain⟨l,h1,h2⟩:=h
 exact⟨l,h1.e,h1.h,h1.lo,h1.b,h1.m,h2 _ _ _ rfl⟩)
theorem adT:aO Tryz.prog 32 Fs:=fun args kb K h=>TK args kb K (by
 unfold Fs at h
 unfold AS
 split at h<;>try exact h.elim
 obtain⟨l,h1,h2⟩:=h
 exact⟨l,h1.e,h1.h,h1.lo,h1.b,h1.m,h2 _ _ _ rfl⟩)
theorem acK:aO Tryz.prog 35 Fo:=fun args kb K h=>Tu args kb K (by
 unfold Fo at h
 unfold AQ
 split at h<;>try exact h.elim
 obtain⟨l,h1,h2⟩:=h
 exact⟨l,h1.e,h1.h,h2 _ rfl⟩)
theorem Y_:dD Tryz.prog Gr:=fun f k h=>by
 unfold Gr at h
 split at h
 ·cases h;exact fJ Tn _
 ·cases h;exact fJ TJ _
 ·exact Ds _ _ h
theorem Nu:cx Tryz.prog xV:=dP mixed Y_ aG 10
theorem TA:aO Tryz.prog 22 EQ:=Ld ga mixed [.sY 0 138 1,.sY 0 139 1,.cell 0 147 107 5,.cell 0 148 70 7,.oV 0 134 [γ] false true 2,.qD 0 143] (fun args kb K h=>by
 unfold EQ at h;split at h<;>try exact h.elim
 exact⟨_,ah6 _ _ _ K h⟩)
theorem abS:dD Tryz.prog I9:=fun f k h=>by
 unfold I9 at h
 split at h
 ·cases h;exact TA
 ·cases h;exact ade
 ·cases h;exact adT
 ·cases h;exact acK
 ·cases h;exact TD
 ·cases h;exact J6
 ·cases h;exact Tz
 ·cases h
theorem Yk:cx Tryz.prog NJ:=dP mixed abS aG 10
def Nc:aE:=fun args kb K=>match args,kb with
 | [.int γ me,.int γ id,aC (.sl 1 B)],[]=>∃ l,B=ints ξ l/\bq l/\l.length<=900000/\
  ((¬ ∃ ep nu c x,oI l ep nu c x)->K (.φ [δ (.pointer none),ο false]) [])/\
  ∀ ep nu c x M,oI l ep nu c x->bL M x->K (.φ [aj 0 0,ο true]) [JB me id false ep nu c M,ai 107 5 [],ai 70 7 []]
 |_,_=>False
theorem adE:aO Tryz.prog 10 Nc:=eC Yk mixed (fun args kb K h=>by
 unfold Nc at h;split at h<;>try exact h.elim
 obtain⟨l,rfl,hb,hl,hno,h1⟩:=h
 refine⟨_,ah3 _ _ l K ?_⟩
 have hk:∀{lo:Nat},lo<=l.length->oK (ints ξ l) l.length lo l:=fun h=>⟨rfl,rfl,h,hb,by omega⟩
 have tk:∀ t:List Int,ax 0 (ay t.length (ints ξ t))=ints ξ t:=fun t=>by rw[iD,eQ (by rw[bi];omega)]
 simp only[bi]
 refine⟨by omega,l,hk (bj _),fun v p e q1=>?_⟩
 have b1:=Td hb (bj _) q1
 refine⟨l,hk b1,fun v1 p1 e1 q2=>?_⟩
 have b2:=Td hb b1 q2
 refine⟨l,hk b2,fun t p2 e2 q3=>?_⟩
 have b3:=Wk hb b2 q3
 refine⟨l,hk b3.1,fun t1 p3 e3 q4=>?_⟩
 have b4:=Wk hb b3.1 q4
 have fin:∀ e4,iY (l.drop p3) e3=e4->Na l v v1 t t1 e4:=fun e4 q5=>Um hb hl q1 q2 q3 q4 q5
 refine⟨ar _,t,tk t,b3.2.2,by omega,fun m hm Ci=>⟨ar _,t1,tk t1,b4.2.2,by omega,fun Iy=>⟨l,hk b4.1,fun e4 q5=>?_⟩,fun x M hT uJ=>⟨l,hk b4.1,fun e4 q5=>?_⟩⟩,fun hnm=>?_⟩
 ·have no:K (.φ [δ (.pointer none),ο false]) []:=hno fun⟨ep,nu,c,x,hr⟩=>by
   obtain⟨-,-,-,k4,-⟩:=(fin e4 q5).fwd _ _ _ _ hr
   exact Iy ⟨x,hr.x,k4⟩
  exact⟨fun _=>no,fun _=>⟨fun q=>(by cases q),fun _=>⟨fun _=>no,fun q=>(by cases q)⟩⟩⟩
 ·have F:=fin e4 q5
  refine⟨fun hne=>hno fun⟨ep,nu,c,x,hr⟩=>?_,fun he=>⟨fun q=>(by cases q),fun _=>⟨fun q=>(by cases q),fun _=>?_⟩⟩⟩
  ·obtain⟨-,-,-,-,k⟩:=F.fwd _ _ _ _ hr
   rw[k]at hne;simp at hne
  ·have he:e4=0:=by simpa using he
   have k:=h1 v v1 m x M (F.back he m x (Dk hm) Ci uJ hT.ok) hT
   exact⟨k,k⟩
 ·have no:K (.φ [δ (.pointer none),ο false]) []:=hno fun⟨ep,nu,c,x',hr⟩=>by
   obtain⟨-,-,k3,-,-⟩:=(fin _ rfl).fwd _ _ _ _ hr
   exact hnm c (by rw[k3,wX]) hr.cl
  exact⟨ar _,t1,tk t1,b4.2.2,by omega,fun _=>⟨l,hk b4.1,fun e4 q5=>⟨fun _=>no,fun _=>⟨fun _=>no,fun q=>(by cases q)⟩⟩⟩,fun x M hT uJ=>⟨l,hk b4.1,fun e4 q5=>⟨fun _=>no,fun _=>⟨fun _=>no,fun q=>(by cases q)⟩⟩⟩⟩)
def newR (me id:Int) (bl:Bool) (ep nu:Int) (c:List Int) (x:List L3):ι:=⟨me,id,ep,nu,0,0,bl,false,false,c,x,⟨0,0,0,[],[]⟩,none,[],[]⟩
theorem UO (me id:Int) (bl:Bool) (ep nu:Int) (c:List Int) {x:List L3} {M:ML} (hM:bL M x):aF (newR me id bl ep nu c x) [JB me id bl ep nu c M,ai 107 5 [],ai 70 7 []]:=by
 unfold aF newR
 exact⟨_,_,M,hM,rfl⟩
theorem aff (me id:Int) (bl:Bool) (ep:Int) {nu:Int} {c:List Int} (x:List L3) (h0:0<=nu) (h1:nu<=2199023255552) (hc:c.length=128) (hb:bq c):dF (newR me id bl ep nu c x):=
 ⟨hc,hb,h0,h1,bj _,bj _,bj _,fun o h=>by simp [newR,ci]at h⟩
theorem aeJ (R:ι) (T:ML) (π υ:Value) (hT:bL T R.t) (hl:R.ld=none) (hR:dF R) (hE:jE R.ep) (K:V->KB->Prop) (hK:∀ kb',aF R kb'->K (aC (.sl 1 (ints ξ (gD R)))) kb'):aI Tryz.prog xV (aG 11) 11 [aj 0 0] [cR R (af T) (ο false) (δ π) (δ υ) (.aa none) (.sl 1 0 (nO R)) (.sl 2 0 (nD R)),rO R,rD R] (j0 [.fA 1] (fg K)):=by
 have hN:jE R.nu:=⟨by have:=hR.n1;omega⟩
 have e1:=sw (tL hR.cl).symm
 have e2:=sw (l:=be R.t) rfl
 have w1:=ke R.ep
 have w2:=ke R.nu
 have w3:=sx (ca R.c)
 have w4:=sx (be R.t)
 have w5:=va hT.len R.t.length
 rw[tQ]at w5
 have w6:=tL hR.cl
 refine ahi R T π υ K ⟨[],rfl,rfl,bj _,hE,[]++aZ R.ep,rfl,rfl,by rw[bn,kP];omega,hN,fun f=>⟨R.c,rfl,hR.cl,fun c h=>hR.cb c h,⟨by simp [bU]⟩,⟨by rw[bi,w6];exact ar _,trivial⟩,[]++aZ R.ep++aZ R.nu,ca R.c,rfl,e1,rfl,by simp only[bn,kP];omega,by omega,⟨o9⟩,fun f=>⟨R.t,hT,⟨by simp [bU]⟩,⟨by rw[bi];exact ar _,trivial⟩,[]++aZ R.ep++aZ R.nu++cK (ca R.c),be R.t,rfl,e2,rfl,by simp only[bn,kP];omega,by omega,⟨o9⟩,_,rfl,rfl,by simp only[bn,kP];omega,by rw[bi];exact ar _,?_⟩⟩⟩
 rw[sw rfl]
 have eb:[]++aZ R.ep++aZ R.nu++cK (ca R.c)++cK (be R.t)=gD R:=by
  unfold gD jQ gK;simp [dX]
 rw[eb]
 refine hK _ ?_
 unfold aF
 simp only[hl]
 exact⟨π,υ,T,hT,rfl⟩
theorem aeI (R:ι) (T:ML) (I Q:ML) (L:b9) (hT:bL T R.t) (hl:R.ld=some L) (hI:MB I L.ins) (hQ:MB Q L.cy) (hR:dF R) (hE:jE R.ep) (K:V->KB->Prop) (hK:∀ kb',aF R kb'->K (aC (.sl 1 (ints ξ (gD R)))) kb'):aI Tryz.prog xV (aG 11) 11 [aj 0 0] [cR R (af T) (ο true) (.mp 1) (.mp 2) (.aa (L.cur.map bo)) (.sl 3 0 (nO R)) (.sl 4 0 (nD R)),an I,an Q,rO R,rD R] (j0 [.fA 1] (fg K)):=by
 have hN:jE R.nu:=⟨by have:=hR.n1;omega⟩
 have e1:=sw (tL hR.cl).symm
 have e2:=sw (l:=be R.t) rfl
 have w1:=ke R.ep
 have w2:=ke R.nu
 have w3:=sx (ca R.c)
 have w4:=sx (be R.t)
 have w5:=va hT.len R.t.length
 rw[tQ]at w5
 have w6:=tL hR.cl
 refine ahh R T I Q (L.cur.map bo) K ⟨[],rfl,rfl,bj _,hE,[]++aZ R.ep,rfl,rfl,by rw[bn,kP];omega,hN,fun f=>⟨R.c,rfl,hR.cl,fun c h=>hR.cb c h,⟨by simp [bU]⟩,⟨by rw[bi,w6];exact ar _,trivial⟩,[]++aZ R.ep++aZ R.nu,ca R.c,rfl,e1,rfl,by simp only[bn,kP];omega,by omega,⟨o9⟩,fun f=>⟨R.t,hT,⟨by simp [bU]⟩,⟨by rw[bi];exact ar _,trivial⟩,[]++aZ R.ep++aZ R.nu++cK (ca R.c),be R.t,rfl,e2,rfl,by simp only[bn,kP];omega,by omega,⟨o9⟩,_,rfl,rfl,by simp only[bn,kP];omega,by rw[bi];exact ar _,?_⟩⟩⟩
 rw[sw rfl]
 have eb:[]++aZ R.ep++aZ R.nu++cK (ca R.c)++cK (be R.t)=gD R:=by
  unfold gD jQ gK;simp [dX]
 rw[eb]
 refine hK _ ?_
 unfold aF
 simp only[hl]
 exact⟨I,Q,T,hI,hQ,hT,rfl⟩
def XH:aE:=fun args kb K=>∃ R,args=[aj 0 0]/\aF R kb/\dF R/\jE R.ep/\∀ kb',aF R kb'->K (aC (.sl 1 (ints ξ (gD R)))) kb'
set_option maxHeartbeats 4000000 in
theorem acx:gB Tryz.prog 11 XH:=Jp mixed [.fA 1] [] (fun args kb K h=>by
 obtain⟨R,rfl,hkb,hR,hE,hK⟩:=h
 have jh:=hkb
 unfold aF at hkb
 split at hkb
 ·rename_i hl
  obtain⟨π,υ,T,hT,rfl⟩:=hkb
  exact⟨_,_,Nu,aeJ R T π υ hT hl hR hE K hK⟩
 ·rename_i L hl
  obtain⟨I,Q,T,hI,hQ,hT,rfl⟩:=hkb
  exact⟨_,_,Nu,aeI R T I Q L hT hl hI hQ hR hE K hK⟩)
structure f_ (o:Op):Prop where
 b:bq o.b
 l:o.b.length<=900000
structure bB (R:ι):Prop where
 ok:dF R
 tx:fl R.t
 om:∀ p∈R.out,lw p.m
 oc:∀ o,ci R=some o->f_ o
structure ky (R R2:ι):Prop where
 i:bB R2
 o:R2.out.length<=R.out.length+1
 d:R2.done.length<=R.done.length+1
 me:R2.me=R.me
 id:R2.id=R.id
 v:R2.v=R.v
 ti:R2.ti=R.ti
theorem ky.refl {R:ι} (h:bB R):ky R R:=⟨h,Nat.le_succ _,Nat.le_succ _,rfl,rfl,rfl,rfl⟩
theorem agA {x:List L3} (h:fl x):bL (x.map pC) x:=⟨List.Perm.refl _,h.inc,h.rg,h.len⟩
theorem ad4 {x:List L3} {c n e:Int} (h:fl x) (h0:cY x c n e=0):fl (pd x c n e):=(D8 (agA h) h0).ok
theorem R9 {b:List Int} {x:List L3} (h:loadT b=some x):fl x/\b=be x:=by
 unfold loadT at h
 split at h
 ·rename_i hex
  have hc:=hex.choose_spec
  simp only[bb.injEq]at h
  exact⟨h ▸ hc.1,h ▸ hc.2⟩
 ·cases h
theorem R6 {b c:List Int} (h:jz b=some c):c.length=128/\b=ca c:=by
 unfold jz at h
 split at h
 ·rename_i c' hc
  split at h
  ·rename_i hl
   cases h
   exact⟨hl,Dk hc⟩
  ·cases h
 ·cases h
theorem C_ (kd:Int) (n:List Int):lw ⟨kd,n,[],[]⟩:=⟨fun c h=>(by cases h),bj _,fun y h=>(by cases h)⟩
theorem Lt {R:ι} (hI:bB R) (to:Int):lw (jn R to).m:=by
 have hx:fl (gK R):=hI.tx
 have hl:=va hx.len (gK R).length
 rw[tQ]at hl
 refine⟨DR hI.ok.cb,by show(ca R.c).length<=_;rw[tL hI.ok.cl];omega,fun y hy=>?_⟩
 have:y=be (gK R):=by simpa [jn]using hy
 subst this
 exact⟨LA hx,by omega⟩
theorem QB {R:ι} {o:Op} (h:f_ o) (to:Int):lw (jf R o to).m:=⟨h.b,h.l,fun y h=>(by cases h)⟩
theorem xg {R:ι} (h:bB R) (ho:R.out.length<100000) {to kd:Int} {n b:List Int} {l:List (List Int)} (hm:lw ⟨kd,R.id::R.ep::n,b,l⟩):ky R (iz R to kd n b l):=by
 refine⟨⟨⟨h.ok.cl,h.ok.cb,h.ok.n0,h.ok.n1,h.ok.vl,?_,h.ok.dl,h.ok.cr⟩,h.tx,fun p hp=>?_,h.oc⟩,?_,Nat.le_succ _,rfl,rfl,rfl,rfl⟩
 ·simp only[iz,bn,gZ];omega
 ·simp only[iz,dz,da]at hp
  rcases hp with hp | rfl
  ·exact h.om p hp
  ·exact hm
 ·simp only[iz,bn,gZ];omega
theorem SR {R:ι} (h:bB R) (ho:R.out.length<100000) (to:Int):ky R (ou R to):=xg h ho (C_ _ _)
theorem agc {R:ι} (h:bB R) (ho:R.out.length<100000) (to:Int):ky R (qP R to):=xg h ho (Lt h to)
theorem xA {R:ι} (h:bB R) (hd:R.done.length<100000):bB (gy R)/\(gy R).done.length<=R.done.length+1:=by
 have hl:(gy R).done.length<=R.done.length+1:=by
  unfold gy
  cases ci R<;>simp
 exact⟨⟨⟨h.ok.cl,h.ok.cb,h.ok.n0,h.ok.n1,h.ok.vl,h.ok.ol,by omega,fun o ho=>by simp [gy,ci]at ho⟩,h.tx,h.om,fun o ho=>by simp [gy,ci]at ho⟩,hl⟩
theorem HD {R:ι} (h:bB R) (hd:R.done.length<100000):bB (fq R)/\(fq R).done.length<=R.done.length+1/\(fq R).out=R.out/\(fq R).me=R.me/\(fq R).id=R.id/\(fq R).v=R.v/\(fq R).ti=R.ti:=by
 unfold fq
 split
 ·rename_i L hl
  split
  ·rename_i o ho
   split
   ·exact⟨⟨⟨h.ok.cl,h.ok.cb,h.ok.n0,h.ok.n1,h.ok.vl,h.ok.ol,by simp;omega,fun o ho=>by simp [ci]at ho⟩,h.tx,h.om,fun o ho=>by simp [ci]at ho⟩,by simp,rfl,rfl,rfl,rfl,rfl⟩
   ·exact⟨h,Nat.le_succ _,rfl,rfl,rfl,rfl,rfl⟩
  ·exact⟨h,Nat.le_succ _,rfl,rfl,rfl,rfl,rfl⟩
 ·exact⟨h,Nat.le_succ _,rfl,rfl,rfl,rfl,rfl⟩
theorem En {l:List Int} (h:l.any cJ=false) {i:Nat}:0<=l.getD i 0/\l.getD i 0<=1099511627776:=by
 rw[List.any_eq_false]at h
 rw[gO]
 cases hi:l[i]? with
 |none=>simp
 |some x=>
  have:=h x (fF hi)
  simp only[cJ,decide_eq_true_eq]at this
  simp only[Option.getD_some]
  omega
theorem agt {R:ι} (h:bB R) (ho:R.out.length<100000) (hd:R.done.length<100000) (fr:Int) {m:dL} (hm:lw m) (hw:m.n.any cJ=false):ky R (iS R fr m):=by
 unfold iS
 split
 ·exact SR h ho fr
 ·split
  ·rename_i c t hc ht
   obtain⟨k1,k2⟩:=xA h hd
   obtain⟨c1,c2⟩:=R6 hc
   have cb:bq c:=fun x hx=>hm.b x (by rw[c2];unfold ca;exact gQ _ hx)
   have n2:=En hw (i:=2)
   have hY:bB {gy R with ep:=bm m 1,nu:=bm m 2,c:=c,t:=t,ch:=true }:=by
    refine⟨⟨c1,cb,n2.1,by have:=n2.2;show bm m 2<=_;unfold bm;omega,k1.ok.vl,k1.ok.ol,k1.ok.dl,fun o ho=>by simp [gy,ci]at ho⟩,(R9 ht).1,k1.om,fun o ho=>by simp [gy,ci]at ho⟩
   have:=xg (to:=fr) (kd:=11) (n:=[bm m 2]) (b:=[]) (l:=[]) hY (by exact ho) (C_ _ _)
   exact⟨this.i,this.o,k2,this.me,this.id,this.v,this.ti⟩
  ·exact ky.refl h
theorem PO {R R1:ι} (h:bB R1) (hd:R1.done.length<100000) (e1:R1.out=R.out) (e2:R1.done=R.done) (e3:R1.me=R.me) (e4:R1.id=R.id) (e5:R1.v=R.v) (e6:R1.ti=R.ti):ky R (fq R1):=by
 obtain⟨k1,k2,k3,k4,k5,k6,k7⟩:=HD h hd
 exact⟨k1,by rw[k3,e1];omega,by rw[<- e2];exact k2,k4.trans e3,k5.trans e4,k6.trans e5,k7.trans e6⟩
theorem yR {R:ι} (h:bB R) {L:b9} (hl:R.ld=some L) (f g:Int->Bool):bB {R with ld:=some ⟨f,g,L.cur⟩ }:=by
 have hc:ci R=L.cur:=by unfold ci;rw[hl];rfl
 refine⟨⟨h.ok.cl,h.ok.cb,h.ok.n0,h.ok.n1,h.ok.vl,h.ok.ol,h.ok.dl,fun o ho=>h.ok.cr o (by rw[hc];exact ho)⟩,h.tx,h.om,fun o ho=>h.oc o (by rw[hc];exact ho)⟩
theorem ago {R:ι} (h:bB R) (hd:R.done.length<100000) (fr:Int) (m:dL):ky R (iA R fr m):=by
 unfold iA
 split
 ·exact ky.refl h
 ·rename_i L hl
  split
  ·exact ky.refl h
  ·split
   ·rename_i hc
    have:=yR h hl (mark L.ins fr true) L.cy
    rw[hc]at this
    exact⟨this,Nat.le_succ _,Nat.le_succ _,rfl,rfl,rfl,rfl⟩
   ·rename_i o hc
    have:=yR h hl (mark L.ins fr true) (mark L.cy fr true)
    rw[hc]at this
    exact PO this hd rfl rfl rfl rfl rfl rfl
theorem aed {R:ι} (h:bB R) (hd:R.done.length<100000) (fr:Int) (m:dL):ky R (iw R fr m):=by
 unfold iw
 split
 ·exact ky.refl h
 ·rename_i L hl
  split
  ·exact ky.refl h
  ·rename_i o hc
   split
   ·have:=yR h hl L.ins (mark L.cy fr true)
    rw[hc]at this
    exact PO this hd rfl rfl rfl rfl rfl rfl
   ·exact ky.refl h
theorem afa {R:ι} (h:bB R) (ho:R.out.length<100000) (hd:R.done.length<100000) (fr:Int) (m:dL):ky R (iy R fr m):=by
 unfold iy
 split
 ·exact ky.refl h
 ·rename_i L hl
  split
  ·obtain⟨k1,k2⟩:=xA h hd
   exact⟨k1,Nat.le_succ _,k2,rfl,rfl,rfl,rfl⟩
  ·split
   ·have h2:bB {R with lo:=true }:=⟨⟨h.ok.cl,h.ok.cb,h.ok.n0,h.ok.n1,h.ok.vl,h.ok.ol,h.ok.dl,h.ok.cr⟩,h.tx,h.om,h.oc⟩
    obtain⟨k1,k2⟩:=xA h2 hd
    exact⟨k1,Nat.le_succ _,k2,rfl,rfl,rfl,rfl⟩
   ·have:=agc (yR h hl (mark L.ins fr false) L.cy) ho fr
    exact⟨this.i,this.o,this.d,this.me,this.id,this.v,this.ti⟩
theorem KY {o:Op} (h:gh o=true):1<=o.kd/\o.kd<=4/\0<=o.bk/\o.bk<8/\0<=o.cl/\o.cl<=255/\1<=o.nm/\o.nm<=1099511627776/\(o.kd=1->o.b.length=16):=by
 unfold gh kh at h
 simp at h
 omega
theorem Pr {t:List L3} (h:fl t) (o:Op):fl (kD t o):=by
 unfold kD
 split
 ·rename_i hp
  exact ad4 h hp.2
 ·exact h
theorem G8 {R:ι} (h:bB R) {o:Op} (hr:gh o=true) (hb:bq o.b) (hn:R.nu<2199023255552):bB (gE R o):=by
 have k:=KY hr
 have c1:=Pq (c:=R.c) h.ok.cl hr
 have c2:=Pp (kd:=o.kd) (bk:=o.bk) h.ok.cb hb
 have n0:=h.ok.n0
 exact⟨⟨c1,c2,by show 0<=R.nu+1;omega,by show R.nu+1<=_;omega,h.ok.vl,h.ok.ol,h.ok.dl,h.ok.cr⟩,Pr h.tx o,h.om,h.oc⟩
theorem aej {R:ι} (h:bB R) (ho:R.out.length<100000) (fr:Int) {m:dL} (hm:lw m) (hw:m.n.any cJ=false):ky R (iR R fr m):=by
 unfold iR
 split
 ·exact xg h ho (C_ _ _)
 ·split
  ·rename_i k
   obtain⟨_,k2,_,k4,_⟩:=k
   have n2:=En hw (i:=2)
   have k2:m.n.getD 2 0=R.nu+1:=k2
   have hD:=G8 h (o:=uV m) k4 hm.b (by omega)
   have:=xg (to:=fr) (kd:=13) (n:=[R.nu+1]) (b:=[]) (l:=[]) hD (by exact ho) (C_ _ _)
   exact⟨this.i,this.o,this.d,this.me,this.id,this.v,this.ti⟩
  ·exact SR h ho fr
theorem Ql {R:ι} {fr:Int} {m:dL} (h:cp R fr m=true):m.n.any cJ=false:=by
 unfold cp at h
 simp only[jo,mA]at h
 exact h.2
theorem aaG {R:ι} (h:bB R) (ho:R.out.length<100000) (hd:R.done.length<100000) (fr:Int) {m:dL} (hm:lw m):ky R (dI R fr m):=by
 unfold dI
 split
 ·exact ky.refl h
 ·rename_i hg
  have hw:=Ql (by simpa using hg)
  split
  ·exact agt h ho hd fr hm hw
  ·split
   ·exact ago h hd fr m
   ·split
    ·exact aej h ho fr hm hw
    ·split
     ·exact aed h hd fr m
     ·exact afa h ho hd fr m
theorem Dm {R:ι} (h:bB R) {ps:List Post} (hp:∀ p∈ps,lw p.m) (hl:R.out.length+ps.length<=100000):bB {R with out:=R.out++ps }:=
 ⟨⟨h.ok.cl,h.ok.cb,h.ok.n0,h.ok.n1,h.ok.vl,by show(R.out++ps).length<=_;rw[bn];exact hl,h.ok.dl,h.ok.cr⟩,h.tx,fun p hm=>(dz.1 hm).elim (h.om p) (hp p),h.oc⟩
theorem Ea {R:ι} (h:bB R) (n:Int):bB {R with ti:=n }:=⟨⟨h.ok.cl,h.ok.cb,h.ok.n0,h.ok.n1,h.ok.vl,h.ok.ol,h.ok.dl,h.ok.cr⟩,h.tx,h.om,h.oc⟩
theorem Bv {R:ι} (h:bB R) (b:Bool):bB {R with ch:=b }:=⟨⟨h.ok.cl,h.ok.cb,h.ok.n0,h.ok.n1,h.ok.vl,h.ok.ol,h.ok.dl,h.ok.cr⟩,h.tx,h.om,h.oc⟩
theorem Ud {R:ι} (h:bB R):bB {R with out:=[] }:=⟨⟨h.ok.cl,h.ok.cb,h.ok.n0,h.ok.n1,h.ok.vl,bj _,h.ok.dl,h.ok.cr⟩,h.tx,fun p hp=>(by cases hp),h.oc⟩
theorem G_ {R:ι} (h:bB R):bB {R with done:=[] }:=⟨⟨h.ok.cl,h.ok.cb,h.ok.n0,h.ok.n1,h.ok.vl,h.ok.ol,bj _,h.ok.cr⟩,h.tx,h.om,h.oc⟩
theorem Pt {R:ι} (h:bB R) {d:List Dn} (hl:R.done.length+d.length<=100000):bB {R with done:=R.done++d }:=⟨⟨h.ok.cl,h.ok.cb,h.ok.n0,h.ok.n1,h.ok.vl,h.ok.ol,by show(R.done++d).length<=_;rw[bn];exact hl,h.ok.cr⟩,h.tx,h.om,h.oc⟩
theorem agI (R:ι) (L:b9) (k:Int):(gj R L k).length<=1:=by
 unfold gj
 split
 ·simp
 ·split
  ·split<;>simp
  ·simp
theorem LL (R:ι) (L:b9):∀ l:List Int,(l.flatMap (gj R L)).length<=l.length
 | []=>by simp
 |a::l=>by
  have:=LL R L l
  have:=agI R L a
  rw[List.flatMap_cons,bn,gA];omega
theorem agJ {R:ι} (h:bB R) {L:b9} (hl:R.ld=some L) (k:Int):∀ p∈gj R L k,lw p.m:=by
 unfold gj
 split
 ·intro p hp
  rw[da]at hp;subst hp
  exact Lt h k
 ·split
  ·rename_i o ho
   split
   ·intro p hp
    rw[da]at hp;subst hp
    exact QB (h.oc o (by unfold ci;rw[hl];exact ho)) k
   ·intro p hp;cases hp
  ·intro p hp;cases hp
theorem agP {R:ι} (h:bB R) (ho:R.out.length+(aP R).length<=100000):bB (cO R)/\(cO R).out.length<=R.out.length+(aP R).length:=by
 unfold cO
 split
 ·exact⟨Ea h _,by simp⟩
 ·rename_i L hl
  have:=LL R L (aP R)
  split
  ·refine⟨Ea (Dm h (fun p hp=>?_) (by omega)) _,by show(R.out++_).length<=_;rw[bn];omega⟩
   obtain⟨k,_,hk⟩:=List.mem_flatMap.1 hp
   exact agJ h hl k p hk
  ·exact⟨Ea h _,by simp⟩
structure oN (n:Nat) (R R2:ι):Prop where
 i:bB R2
 o:R2.out.length<=R.out.length+n
 d:R2.done.length<=R.done.length+1
 me:R2.me=R.me
 id:R2.id=R.id
 ti:R2.ti=R.ti
theorem oN.refl {n:Nat} {R:ι} (h:bB R):oN n R R:=⟨h,Nat.le_add_right _ _,Nat.le_succ _,rfl,rfl,rfl⟩
theorem YZ {R:ι} (h:bB R) {L:b9} {o:Op} (hr:gh o=true) (ho:f_ o) (hn:R.nu<2199023255552) (hout:R.out.length+(aP R).length<=100000) (hd:R.done.length<100000):oN (aP R).length R (gC R L o):=by
 have hD:=G8 h hr ho.b hn
 obtain⟨B,hB⟩:∃ B:ι,B={gE R o with ld:=some {L with cy:=fun _=>false,cur:=some o } }:=⟨_,rfl⟩
 have h1:bB B:=by
  subst hB
  exact⟨⟨hD.ok.cl,hD.ok.cb,hD.ok.n0,hD.ok.n1,hD.ok.vl,hD.ok.ol,hD.ok.dl,fun o' ho'=>by simp [ci]at ho';subst ho';exact hr⟩,hD.tx,hD.om,fun o' ho'=>by simp [ci]at ho';subst ho';exact ho⟩
 have e:gC R L o=fq {B with out:=B.out++(aP R).map (jf B o) }:=by
  have e0:aP B=aP R:=by subst hB;rfl
  have e9:gC R L o=fq ((aP B).foldl (fun r k=>yB r o k) B):=by subst hB;rfl
  rw[e9,th,e0]
 have e1:B.out=R.out:=by subst hB;rfl
 have e2:B.done=R.done:=by subst hB;rfl
 have e3:B.me=R.me/\B.id=R.id/\B.ti=R.ti:=by subst hB;exact⟨rfl,rfl,rfl⟩
 rw[e]
 have h2:=Dm h1 (ps:=(aP R).map (jf B o)) (fun p hp=>by
  obtain⟨k,_,rfl⟩:=dO.1 hp
  exact QB ho k) (by rw[bT,e1];exact hout)
 obtain⟨k1,k2,k3,k4,k5,k6,k7⟩:=HD h2 (by rw[e2];exact hd)
 exact⟨k1,by rw[k3];show(B.out++_).length<=_;rw[bn,bT,e1];exact ar _,by rw[<- e2];exact k2,k4.trans e3.1,k5.trans e3.2.1,k7.trans e3.2.2⟩
theorem VG {R:ι} (h:bB R) {o:Op} (ho:f_ o) (hn:R.nu<2199023255552) (hout:R.out.length+(aP R).length<=100000) (hd:R.done.length<100000):oN (aP R).length R (dN R o).2:=by
 unfold dN
 split
 ·exact oN.refl h
 ·rename_i hr
  have hr:gh o=true:=by simpa using hr
  split
  ·exact oN.refl h
  ·rename_i L hl
   split
   ·exact oN.refl h
   ·split
    ·exact oN.refl h
    ·split
     ·rename_i e R1 hk
      split at hk
      ·unfold lW at hk
       split at hk
       ·cases hk
        exact⟨Pt h (by simp;omega),Nat.le_add_right _ _,by simp,rfl,rfl,rfl⟩
       ·split at hk
        ·cases hk;exact oN.refl h
        ·split at hk
         ·cases hk
         ·cases hk;exact oN.refl h
      ·cases hk
     ·exact YZ h hr ho hn hout hd
def jy (R:ι) (w:Vw):ι:={gy R with v:=w,ep:=w.ve,ch:=R.ch || (R.ep != w.ve),ld:=some ⟨fun _=>false,fun _=>false,none⟩ }
theorem vg {R:ι} {w:Vw} (h:dR R w=false):dV R w=R:=if_pos h
theorem xp {R:ι} {w:Vw} (h:dR R w=true) (h2:fv R w=false):dV R w={gy R with v:=w }:=by
 unfold dV;rw[if_neg (by simp [h])];dsimp only;rw[if_pos h2]
theorem xq {R:ι} {w:Vw} (h:dR R w=true) (h2:fv R w=true):dV R w={jy R w with out:=R.out++(bA R.me w.mem w.aH).map (jn (jy R w)) }:=by
 have e:dV R w=(aP (jy R w)).foldl qP (jy R w):=by
  unfold dV;rw[if_neg (by simp [h])];dsimp only;rw[if_neg (by simp [h2])];rfl
 rw[e,Lu];rfl
theorem RU {R:ι} (h:bB R) {w:Vw} (hw:w.mem.length+w.aH.length<=1000) (hd:R.done.length<100000):bB (jy R w)/\(jy R w).done.length<=R.done.length+1:=by
 obtain⟨k1,k2⟩:=xA h hd
 exact⟨⟨⟨k1.ok.cl,k1.ok.cb,k1.ok.n0,k1.ok.n1,hw,k1.ok.ol,k1.ok.dl,fun o ho=>by simp [jy,ci]at ho⟩,k1.tx,k1.om,fun o ho=>by simp [jy,ci]at ho⟩,k2⟩
theorem WU {R:ι} (h:bB R) {w:Vw} (hw:w.mem.length+w.aH.length<=1000) (hout:R.out.length+(bA R.me w.mem w.aH).length<=100000) (hd:R.done.length<100000):oN (bA R.me w.mem w.aH).length R (dV R w):=by
 cases hg:dR R w with
 |false=>rw[vg hg];exact oN.refl h
 |true=>
  obtain⟨k1,k2⟩:=xA h hd
  cases hl:fv R w with
  |false=>
   rw[xp hg hl]
   exact⟨⟨⟨k1.ok.cl,k1.ok.cb,k1.ok.n0,k1.ok.n1,hw,k1.ok.ol,k1.ok.dl,k1.ok.cr⟩,k1.tx,k1.om,k1.oc⟩,Nat.le_add_right _ _,k2,rfl,rfl,rfl⟩
  |true=>
   rw[xq hg hl]
   obtain⟨q1,q2⟩:=RU h hw hd
   have:=Dm q1 (ps:=(bA R.me w.mem w.aH).map (jn (jy R w))) (fun p hp=>by
    obtain⟨k,_,rfl⟩:=dO.1 hp
    exact Lt q1 k) (by rw[bT];exact hout)
   refine⟨this,?_,q2,rfl,rfl,rfl⟩
   show(R.out++_).length<=_
   rw[bn,bT];exact ar _
theorem C7 (me id:Int) (bl:Bool) (ep:Int) {nu:Int} {c:List Int} {x:List L3} (h0:0<=nu) (h1:nu<=2199023255552) (hc:c.length=128) (hb:bq c) (hx:fl x):bB (newR me id bl ep nu c x):=
 ⟨aff me id bl ep x h0 h1 hc hb,hx,fun p hp=>(by cases hp),fun o ho=>by simp [newR,ci]at ho⟩
theorem Mk:bq jT:=fun c hc=>by
 have:=List.eq_of_mem_replicate hc
 omega
end Go.Proofs.YtfcjngcnifdmnaaGreat
set_option linter.unusedSimpArgs false
set_option linter.unusedVariables false
namespace Vc
open Go
open Go.IntKind renaming i64->γ,u8->ξ,u32->iM
open Go.Value renaming int->ν,map->kT,bool->mG,oneCell'->mH
open List renaming map->ae,drop->ax,take->ay,length_append->bn,getElem?_eq_getElem->bu,getElem?_eq_some_iff->bH,length_map->bT,take_length->cQ,length_take->cW,mem_singleton->da,replicate->dv,mem_append->dz,mem_map->dO,mem_cons->dS,Mem->dW,append_assoc->dX,getElem?_append_left->dY,take_of_length_le->eQ,getElem?_append_right->fk,getElem?_map->fy,mem_of_getElem?->fF,length_drop->gm,mem_cons_of_mem->gn,append_nil->gz,length_cons->gA,getD_eq_getElem?_getD->gO,getElem?_set_ne->gP,mem_append_left->gQ,length_singleton->gZ,drop_zero->iD,getElem?_eq_none->iE,getElem?_take_of_lt->iF,length_set->iG,getElem?_set_self->iN,mem_cons_self->iV,map_append->ja,range->jb,nil_append->jr,take_add_one->jt,flatten_cons->jF,getElem?_of_mem->jG,getElem?_drop->jW,map_cons->kv,length_nil->kP,mem_append_right->kQ,mem_filter->lu,ext_getElem?->mb,eq_nil_of_length_eq_zero->mD
open Nat renaming le_refl->ar,zero_le->bj,beq->cX,zero_add->c9,eq_of_beq_eq_true->de,add_assoc->g_,lor->iW,lt_or_ge->kx,sub_zero->ly,le_trans->mc
open Option renaming some->bb,bind_eq_some_iff->lO,map->ng
open Int renaming toNat_natCast->cN,le_refl->dE
open Bool renaming and_eq_true->jo,not_eq_false'->kr,not_eq_true'->mA
def pF:List (List FM)->List V->KB->(List V->KB->Prop)->Prop
 |_,[],kb,K=>K [] kb
 | [],v::vs,kb,K=>K (v::vs) kb
 | []::ms,v::vs,kb,K=>pF ms vs kb (fun us kb'=>K (v::us) kb')
 | (a::m)::ms,.agg l::vs,kb,K=>pG (a::m) l kb (fun us kb'=>pF ms vs kb' (fun ws j8=>K (.agg us::ws) j8))
 | (.sl s:: _)::ms,v::vs,kb,K=>rv (.sl s) v kb (fun d kb'=>pF ms vs kb' (fun ws j8=>K (.dat d::ws) j8))
 | (_:: _)::ms,v::vs,kb,K=>pF ms vs kb (fun us kb'=>K (tF v::us) kb')
theorem aas:∀{ms:List (List FM)} {vs:List V} {kb:KB} {K:List V->KB->Prop},pF ms vs kb K->∀{σ:Sg} {E:EH} {W:World},Inv σ E kb W->∀{xs:List Value},az σ E vs xs->
  ∃ E' kb' us,Step σ E kb W σ E' kb' W/\az σ E' us xs/\K us kb':=by
 intro ms
 induction ms with
 |nil=>
  intro vs kb K h σ E W hi xs hd
  cases vs with
  |nil=>exact⟨E,kb,[],Step.refl hi,hd,h⟩
  |cons v vs=>exact⟨E,kb,v::vs,Step.refl hi,hd,h⟩
 |cons m ms ih=>
  intro vs kb K h σ E W hi xs hd
  cases vs with
  |nil=>
   have h:K [] kb:=by
    cases m with
    |nil=>exact h
    |cons a m=>cases a<;>exact h
   exact⟨E,kb,[],Step.refl hi,hd,h⟩
  |cons v vs=>
   simp only[az]at hd
   obtain⟨x,xs',rfl,h1,h2⟩:=hd
   have plain:∀ w,Den σ E w x->pF ms vs kb (fun us kb'=>K (w::us) kb')->∃ E' kb' us,Step σ E kb W σ E' kb' W/\az σ E' us (x::xs')/\K us kb':=fun w hw h=>by
    obtain⟨E1,fu,us,s1,d1,hK⟩:=ih h hi h2
    have:=Den.mono (τ:=[]) s1.le hw
    rw[gz]at this
    exact⟨E1,fu,w::us,s1,.cons this d1,hK⟩
   have agg:∀ a m l,v= .agg l->pG (a::m) l kb (fun us kb'=>pF ms vs kb' (fun ws j8=>K (.agg us::ws) j8))->∃ E' kb' us,Step σ E kb W σ E' kb' W/\az σ E' us (x::xs')/\K us kb':=fun a m l e hh=>by
    subst e
    simp only[Den]at h1
    obtain⟨cs,rfl,hl⟩:=h1
    obtain⟨E1,fu,us,s1,d1,hh⟩:=we hh hi hl
    have h2':=az.mono (τ:=[]) s1.le h2
    rw[gz]at h2'
    obtain⟨E2,bY,ws,s2,d2,hK⟩:=ih hh s1.inv h2'
    have d1':=aV.mono (τ:=[]) s2.le d1
    rw[gz]at d1'
    exact⟨E2,bY,.agg us::ws,s1.trans s2,.cons (by simp only[Den];exact⟨cs,rfl,d1'⟩) d2,hK⟩
   have sli:∀ s,rv (.sl s) v kb (fun d kb'=>pF ms vs kb' (fun ws j8=>K (.dat d::ws) j8))->∃ E' kb' us,Step σ E kb W σ E' kb' W/\az σ E' us (x::xs')/\K us kb':=fun s h=>by
    obtain⟨E1,fu,d,s1,r1,h⟩:=yh h hi h1
    have h2':=az.mono (τ:=[]) s1.le h2
    rw[gz]at h2'
    obtain⟨E2,bY,ws,s2,d2,hK⟩:=ih h s1.inv h2'
    exact⟨E2,bY,.dat d::ws,s1.trans s2,.cons (by simp only[Den];exact r1.mono s2.le) d2,hK⟩
   cases m with
   |nil=>simp only[pF]at h;exact plain v h1 h
   |cons a m=>
    cases v<;>cases a<;>simp only[pF]at h<;>first
     |exact agg _ _ _ rfl h
     |exact sli _ h
     |exact plain _ (JU h1) h
def wg (ms:List (List FM)) (S:aE):aE:=fun args kb K=>pF ms args kb (fun us kb'=>Lc S us kb' K)
theorem yw {P:Program} {f:FuncId} {S:aE} (hS:aO P f S) (ms:List (List FM)):aO P f (wg ms S):=fun args kb K h σ E W xs hi hd=>by
 obtain⟨E1,fu,us,s1,d1,h⟩:=aas h hi hd
 refine(Vu hS h s1.inv d1).mono ?_
 rintro e W' ⟨v,r,σ',E',kb',rfl,hst,eT,hK⟩
 exact⟨v,r,σ',E',kb',rfl,s1.trans hst,eT,hK⟩
theorem Pf {σ:Sg} {E:EH}:∀{vs:List V} {xs:List Value},az σ E vs xs->az σ E (vs.map tF) xs
 | [],_,h=>h
 |v::vs,_,h=>by
  simp only[az]at h
  obtain⟨x,xs',rfl,h1,h2⟩:=h
  exact .cons (JU h1) (Pf h2)
def JG (S:aE):aE:=fun args kb K=>S (args.map tF) kb K
theorem SY {P:Program} {f:FuncId} {S:aE} (hS:aO P f S):aO P f (JG S):=fun args kb K h σ E W xs hi hd=>hS _ kb K h σ E W xs hi (Pf hd)
end Vc
namespace Go.Proofs.YtfcjngcnifdmnaaGreat
open Vc Go
open Go.IntKind renaming i64->γ,u8->ξ,u32->iM
open Vc.V renaming any->δ,int->ε,sl->ζ,sb->ο,ptr->aj,φ->au,dat->aC,aa->aR,mp->aY,arr->bF,agg->fz
open Vc.D renaming val->η,sl->χ
open Go.Value renaming int->ν,map->kT,bool->mG,oneCell'->mH
open List renaming map->ae,drop->ax,take->ay,length_append->bn,getElem?_eq_getElem->bu,getElem?_eq_some_iff->bH,length_map->bT,take_length->cQ,length_take->cW,mem_singleton->da,replicate->dv,mem_append->dz,mem_map->dO,mem_cons->dS,Mem->dW,append_assoc->dX,getElem?_append_left->dY,take_of_length_le->eQ,getElem?_append_right->fk,getElem?_map->fy,mem_of_getElem?->fF,length_drop->gm,mem_cons_of_mem->gn,append_nil->gz,length_cons->gA,getD_eq_getElem?_getD->gO,getElem?_set_ne->gP,mem_append_left->gQ,length_singleton->gZ,drop_zero->iD,getElem?_eq_none->iE,getElem?_take_of_lt->iF,length_set->iG,getElem?_set_self->iN,mem_cons_self->iV,map_append->ja,range->jb,nil_append->jr,take_add_one->jt,flatten_cons->jF,getElem?_of_mem->jG,getElem?_drop->jW,map_cons->kv,length_nil->kP,mem_append_right->kQ,mem_filter->lu,ext_getElem?->mb,eq_nil_of_length_eq_zero->mD
open Vc.KO renaming row->ai,dead->aw,cells->aB,objs->fE
open Nat renaming le_refl->ar,zero_le->bj,beq->cX,zero_add->c9,eq_of_beq_eq_true->de,add_assoc->g_,lor->iW,lt_or_ge->kx,sub_zero->ly,le_trans->mc
open Option renaming some->bb,bind_eq_some_iff->lO,map->ng
open Int renaming toNat_natCast->cN,le_refl->dE
open Bool renaming and_eq_true->jo,not_eq_false'->kr,not_eq_true'->mA
set_option linter.unusedVariables false
set_option linter.unusedSimpArgs false
set_option maxRecDepth 100000
set_option maxHeartbeats 2000000
structure cF (A:List (Sg×KB)) (l:List (Nat×ι)):Prop where
 len:A.length=l.length
 h:∀(i:Nat) (p:Nat×ι),l[i]? =some p->∃ a:Sg×KB,A[i]? =some a/\oz a.1 p.1/\aF p.2 a.2
abbrev PK:=V->ι->Prop
def PM (g:List V->ι->PK->Prop):aE:=fun args kb K=>match args,kb with
 |v::rest,[fE A]=>∃ l i b R,cF A l/\l[i]? =some (b,R)/\xF v (pv b)/\g rest R (fun r R'=>∀ A',cF A' (l.set i (b,R'))->K r [fE A'])
 |_,_=>False
abbrev uW (o:Op):V:=.agg [.int γ o.cl,.int γ o.nm,.int γ o.kd,.int γ o.bk,aC (.sl 1 (ints ξ o.b))]
abbrev xr (w:Vw):V:=.agg [.int γ w.vi,.int γ w.vv,.int γ w.ve,aC (.sl 1 (ints γ w.mem)),aC (.sl 1 (ints γ w.aH))]
abbrev Jv (m:dL):V:=.agg [.int γ m.kd,aC (.sl 1 (ints γ m.n)),aC (.sl 1 (ints ξ m.b)),aC (.sl 1 (ct m.l))]
structure xE (kb:KB) (A:List (Sg×KB)):Prop where
 h:kb=[]/\A=[]∨kb=[fE A]
structure jI (l:List V):Prop where
 h:l=[]
def MU:List V->ι->PK->Prop:=fun rest R k=>∃ w,rest=[xr w]/\bB R/\w.mem.length+w.aH.length<=1000/\R.out.length+(bA R.me w.mem w.aH).length<=100000/\k (.φ []) (dV R w)
def MP:List V->ι->PK->Prop:=fun rest R k=>∃ o,rest=[uW o]/\bB R/\R.out.length+(aP R).length<=100000/\bq o.b/\o.b.length<=100000/\k (.int γ (dN R o).1) (dN R o).2
def MJ:List V->ι->PK->Prop:=fun rest R k=>∃ fr m,rest=[.int γ fr,Jv m]/\bB R/\lw m/\k (.φ []) (dI R fr m)
def MS:List V->ι->PK->Prop:=fun rest R k=>jI rest/\bB R/\0<=R.ti/\R.ti<=2199023255552/\R.out.length+(aP R).length<=100000/\k (.φ []) (cO R)
def MO:List V->ι->PK->Prop:=fun rest R k=>jI rest/\bB R/\k (aC (.sl 5 (R.out.map bV))) {R with out:=[] }
def MG:List V->ι->PK->Prop:=fun rest R k=>jI rest/\bB R/\k (aC (.sl 7 (R.done.map dA))) {R with done:=[] }
def MF:List V->ι->PK->Prop:=fun rest R k=>jI rest/\bB R/\k (ο R.ch) {R with ch:=false }
def MH:List V->ι->PK->Prop:=fun rest R k=>jI rest/\bB R/\k (.φ [.int γ R.ep,.int γ R.nu]) R
def MR:List V->ι->PK->Prop:=fun rest R k=>jI rest/\bB R/\k (.int iM (eG R.c)) R
def MK:List V->ι->PK->Prop:=fun rest R k=>jI rest/\bB R/\k (.φ [ο (ef R),ο (gw R),ο (lA R)]) R
def ME:List V->ι->PK->Prop:=fun rest R k=>jI rest/\bB R/\jE R.ep/\k (aC (.sl 1 (ints ξ (gD R)))) R
def EP:aE:=fun args kb K=>match args with
 | [.int γ me,.int γ id,ο bl]=>∃ A l,xE kb A/\cF A l/\∀ b A',cF A' (l++[(b,newR me id bl 0 0 jT [])])->K (δ (pv b)) [fE A']
 |_=>False
def EO:aE:=fun args kb K=>match args with
 | [.int γ me,.int γ id,aC (.sl 1 B)]=>∃ A l t,xE kb A/\cF A l/\B=ints ξ t/\bq t/\t.length<=900000/\
  ((¬ ∃ ep nu c x,oI t ep nu c x)->K (.φ [δ (.pointer none),ο false]) kb)/\
  ∀ ep nu c x,oI t ep nu c x->∀ b A',cF A' (l++[(b,newR me id false ep nu c x)])->K (.φ [δ (pv b),ο true]) [fE A']
 |_=>False
def iB (n:Int):List Int:=ξ.wrap n::(dv 14 0++[if n > 0 then 7 else 0])
def ES:aE:=fun args kb K=>match args,kb with
 | [.int γ n],[]=>K (aC (.sl 1 (ints ξ (iB n)))) []
 |_,_=>False
theorem aiP (n:Int) (K:V->KB->Prop) (aq:
 let ω:=[η (ν ξ (ξ.wrap n))];let θ:=[η (ν ξ 0)];aA 16/\
 Room 16 16 1/\
 br 0 16/\
 0<16/\
 (decide (n > 0)=true->
 br 15 16/\
 15<16/\
 16<=16/\
 K (aC (χ 1 [ω,θ,θ,θ,θ,θ,θ,θ,θ,θ,θ,θ,θ,θ,θ,[η (ν ξ 7)]])) [])/\
 (decide (n > 0)=false->
 16<=16/\
 K (aC (χ 1 [ω,θ,θ,θ,θ,θ,θ,θ,θ,θ,θ,θ,θ,θ,θ,θ])) [])
 ):aI Tryz.prog X0 (aG 23) 23 [.int γ n] [] (j0 [.fA 1] (dp 0 K)):=by apply Eq.mp (a:=aq);kernel_rfl
theorem Ul:cF [] []:=⟨rfl,fun i p h=>by simp at h⟩
theorem cF.set {A:List (Sg×KB)} {l:List (Nat×ι)} (h:cF A l) {i b:Nat} {R:ι} (hi:i<l.length) {τ:Sg} {kb:KB} (ht:oz τ b) (hk:aF R kb):cF (A.set i (τ,kb)) (l.set i (b,R)):=by
 refine⟨by simp [h.len],fun j p hj=>?_⟩
 by_cases e:i=j
 ·subst e
  rw[iN hi]at hj
  cases hj
  exact⟨(τ,kb),iN (by rw[h.len];exact hi),ht,hk⟩
 ·rw[gP e]at hj
  obtain⟨a,h1,h2⟩:=h.h j p hj
  exact⟨a,by rw[gP e];exact h1,h2⟩
theorem cF.add {A:List (Sg×KB)} {l:List (Nat×ι)} (h:cF A l) {b:Nat} {R:ι} {τ:Sg} {kb:KB} (ht:oz τ b) (hk:aF R kb):cF (A++[(τ,kb)]) (l++[(b,R)]):=by
 refine⟨by simp [h.len],fun j p hj=>?_⟩
 rcases Nat.lt_trichotomy j l.length with hm | hm | hm
 ·rw[dY hm]at hj
  obtain⟨a,h1,h2⟩:=h.h j p hj
  exact⟨a,by rw[dY (by rw[h.len];exact hm)];exact h1,h2⟩
 ·subst hm
  rw[fk (ar _)]at hj
  simp at hj;subst hj
  exact⟨(τ,kb),by rw[fk (by rw[h.len];exact ar _)];simp [h.len],ht,hk⟩
 ·rw[iE (by simp;omega)]at hj;cases hj
theorem pY {f:FuncId} {M:aE} {g:List V->ι->PK->Prop} (hM:gB Tryz.prog f M) (hg:∀ rest R k,g rest R k->V.lD (fun _=>none) rest=some rest/\∀ kb K,aF R kb->(∀ r R' kb',k r R'->aF R' kb'->K r kb')->M (aj 0 0::rest) kb K):aO Tryz.prog f (PM g):=fun args kb K h=>ab7 hM args kb K (by
 unfold PM at h
 split at h<;>try exact h.elim
 rename_i v rest A
 obtain⟨l,i,b,R,hP,hi,hv,hG⟩:=h
 obtain⟨a,h1,h2,h3⟩:=hP.h i _ hi
 obtain⟨h4,h5⟩:=hg _ _ _ hG
 refine⟨i,a,b,rest,h1,h2,hv,h4,h5 _ _ h3 fun r R' kb' hr hkb τ oU=>hr _ (hP.set ?_ oU hkb)⟩
 exact(bH.1 hi).1)
theorem adz:aO Tryz.prog 15 (PM MU):=pY adY fun rest R k ⟨w,e,h1,h2,h3,h4⟩=>by
 subst e
 exact⟨rfl,fun kb K hkb hK=>⟨R,w,rfl,hkb,h1.ok,h2,h3,fun kb' h=>hK _ _ _ h4 h⟩⟩
theorem adw:aO Tryz.prog 21 (PM MP):=pY adM fun rest R k ⟨o,e,h1,h2,h3,h5,h4⟩=>by
 subst e
 exact⟨rfl,fun kb K hkb hK=>⟨R,o,rfl,hkb,h1.ok,h2,h3,h5,fun kb' h=>hK _ _ _ h4 h⟩⟩
theorem adp:aO Tryz.prog 60 (PM MJ):=pY acT fun rest R k ⟨fr,m,e,h1,h2,h4⟩=>by
 subst e
 exact⟨rfl,fun kb K hkb hK=>⟨R,fr,m,rfl,hkb,h1.ok,h2,fun kb' h=>hK _ _ _ h4 h⟩⟩
theorem ady:aO Tryz.prog 29 (PM MS):=pY adU fun rest R k ⟨⟨e⟩,h1,h2,h3,h5,h4⟩=>by
 subst e
 exact⟨rfl,fun kb K hkb hK=>⟨R,rfl,hkb,h1.ok,h2,h3,h5,fun kb' h=>hK _ _ _ h4 h⟩⟩
theorem adu:aO Tryz.prog 46 (PM MO):=pY adk fun rest R k ⟨⟨e⟩,h1,h4⟩=>by
 subst e
 exact⟨rfl,fun kb K hkb hK=>⟨R,rfl,hkb,h1.ok,fun kb' h=>hK _ _ _ h4 h⟩⟩
theorem adn:aO Tryz.prog 24 (PM MG):=pY acJ fun rest R k ⟨⟨e⟩,h1,h4⟩=>by
 subst e
 exact⟨rfl,fun kb K hkb hK=>⟨R,rfl,hkb,h1.ok,fun kb' h=>hK _ _ _ h4 h⟩⟩
theorem adm:aO Tryz.prog 25 (PM MF):=pY acz fun rest R k ⟨⟨e⟩,h1,h4⟩=>by
 subst e
 exact⟨rfl,fun kb K hkb hK=>⟨R,rfl,hkb,h1.ok,fun kb' h=>hK _ _ _ h4 h⟩⟩
theorem ado:aO Tryz.prog 13 (PM MH):=pY acL fun rest R k ⟨⟨e⟩,h1,h4⟩=>by
 subst e
 exact⟨rfl,fun kb K hkb hK=>⟨R,rfl,hkb,h1.ok,fun kb' h=>hK _ _ _ h4 h⟩⟩
theorem adx:aO Tryz.prog 18 (PM MR):=pY adP fun rest R k ⟨⟨e⟩,h1,h4⟩=>by
 subst e
 exact⟨rfl,fun kb K hkb hK=>⟨R,rfl,hkb,h1.ok,fun kb' h=>hK _ _ _ h4 h⟩⟩
theorem adq:aO Tryz.prog 14 (PM MK):=pY ac4 fun rest R k ⟨⟨e⟩,h1,h4⟩=>by
 subst e
 exact⟨rfl,fun kb K hkb hK=>⟨R,rfl,hkb,h1.ok,fun kb' h=>hK _ _ _ h4 h⟩⟩
theorem adl:aO Tryz.prog 11 (PM ME):=pY acx fun rest R k ⟨⟨e⟩,h1,h2,h4⟩=>by
 subst e
 exact⟨rfl,fun kb K hkb hK=>⟨R,rfl,hkb,h1.ok,h2,fun kb' h=>hK _ _ _ h4 h⟩⟩
theorem adt:aO Tryz.prog 22 EP:=fun args kb K h=>Gn TA args kb K (by
 unfold EP at h
 split at h<;>try exact h.elim
 rename_i me id bl
 obtain⟨A,l,hkb,hP,hK⟩:=h
 refine⟨A,_,hkb.h,rfl,?_⟩
 show(_:Prop)
 refine⟨by rfl,fun b τ oU=>?_⟩
 exact hK b _ (hP.add oU (UO _ _ _ _ _ _ V9)))
theorem adr:aO Tryz.prog 10 EO:=fun args kb K h=>Gn adE args kb K (by
 unfold EO at h
 split at h<;>try exact h.elim
 rename_i me id B
 obtain⟨A,l,t,hkb,hP,rfl,hb,hl,h0,h1⟩:=h
 refine⟨A,_,hkb.h,rfl,t,rfl,hb,hl,fun hn=>h0 hn,fun ep nu c x M hr hT=>?_⟩
 refine⟨by rfl,fun b τ oU=>?_⟩
 exact h1 _ _ _ _ hr b _ (hP.add oU (UO _ _ _ _ _ _ hT)))
theorem Eg (n:Int):(iB n).length=16:=by simp [iB]
theorem LY (n:Int):bq (iB n):=fun c hc=>by
 unfold iB at hc
 simp only[dS,dz,List.mem_replicate,da,List.not_mem_nil,or_false]at hc
 rcases hc with rfl | ⟨_,rfl⟩ | hc
 ·rw[IntKind.wrap_u8];omega
 ·omega
 ·subst hc;split<;>omega
theorem TM:aO Tryz.prog 23 ES:=fun args kb K h=>B8 (eC ga mixed (S:=fun a k K0=>∃ T,aI Tryz.prog X0 T 23 a k K0) fun _ _ _ h=>h) [.fA 1] args kb K (by
 unfold ES at h;split at h<;>try exact h.elim
 rename_i n
 refine⟨_,aiP n K ⟨by unfold aA;omega,⟨by omega,by omega,by omega⟩,⟨by omega,by omega⟩,by omega,fun h1=>⟨⟨by omega,by omega⟩,by omega,by omega,?_⟩,fun h1=>⟨by omega,?_⟩⟩⟩
 ·have h1:n > 0:=by simpa using h1
  unfold iB at h;rw[if_pos h1]at h;exact h
 ·have h1:¬ n > 0:=by simpa using h1
  unfold iB at h;rw[if_neg h1]at h;exact h)
def xc:FuncId->Option du
 | 22=>some ⟨[.ic],wg [[.num],[.num]] (Vb EP)⟩
 | 23=>some ⟨[],JG ES⟩
 | 15=>some ⟨[.ic],wg [[],[.num,.num,.num,.sl 1,.sl 1]] (PM MU)⟩
 | 21=>some ⟨[.ic],wg [[],[.num,.num,.num,.num,.sl 1]] (PM MP)⟩
 | 60=>some ⟨[.ic],wg [[],[.num]] (PM MJ)⟩
 | 46=>some ⟨[.ic],PM MO⟩
 | 24=>some ⟨[.ic],PM MG⟩
 | 13=>some ⟨[.ic],PM MH⟩
 | 18=>some ⟨[.ic],PM MR⟩
 | 14=>some ⟨[.ic],PM MK⟩
 | 25=>some ⟨[.ic],PM MF⟩
 | 11=>some ⟨[.ic],PM ME⟩
 | 29=>some ⟨[.ic],PM MS⟩
 | 10=>some ⟨[.ic],wg [[.num],[.num]] EO⟩
 |_=>none
theorem DG:dD Tryz.prog xc:=fun f k h=>by
 unfold xc at h
 split at h
 ·cases h;exact yw (afA adt) _
 ·cases h;exact SY TM
 ·cases h;exact yw adz _
 ·cases h;exact yw adw _
 ·cases h;exact yw adp _
 ·cases h;exact adu
 ·cases h;exact adn
 ·cases h;exact ado
 ·cases h;exact adx
 ·cases h;exact adq
 ·cases h;exact adm
 ·cases h;exact adl
 ·cases h;exact ady
 ·cases h;exact yw adr _
 ·cases h
noncomputable def FO:cd:=dM Tryz.prog xc aG 10
theorem NP:cx Tryz.prog FO:=dP mixed DG aG 10
theorem ahc (C6:Nat) (K:V->KB->Prop) (aq:
 let θ:=[η (ν ξ 0)];∃(A:List (Sg×KB)),∃(l:List (Nat×ι)),xE [] A/\
 cF A l/\
 ∀(b:Nat) (A':List (Sg×KB)),cF A' (l++[(b,newR 3 1 false 0 0 jT [])])->
 (false=true->
 K (ο false) [fE A'])/\
 (false=false->
 1<=1/\
 ∃(l:List (Nat×ι)),∃(i:Nat),∃(b_1:Nat),∃(R:ι),cF A' l/\
 l[i]? =some (b_1,R)/\
 pv b=pv b_1/\
 ∃(w:Vw),[fz [ε γ 1,ε γ 0,ε γ 1,aC (χ 1 [[η (ν γ 3)]]),aC (χ 1 [])]]=[xr w]/\
 bB R/\
 w.mem.length+w.aH.length<=1000/\
 R.out.length+(bA R.me w.mem w.aH).length<=100000/\
 ∀(A':List (Sg×KB)),cF A' (l.set i (b_1,dV R w))->
 ∃(l:List (Nat×ι)),∃(i:Nat),∃(b_2:Nat),∃(R:ι),cF A' l/\
 l[i]? =some (b_2,R)/\
 pv b=pv b_2/\
 ∃(o:Op),[fz [ε γ 1,ε γ 1,ε γ 1,ε γ 2,aC (χ 1 [[η (ν ξ 9)],θ,θ,θ,θ,θ,θ,θ,θ,θ,θ,θ,θ,θ,θ,[η (ν ξ 7)]])]]=[uW o]/\
 bB R/\
 R.out.length+(aP R).length<=100000/\
 (∀(c:Int),dW c o.b->
 0<=c/\
 c<256)/\
 o.b.length<=100000/\
 ∀(A':List (Sg×KB)),cF A' (l.set i (b_2,(dN R o).snd))->
 ∃(l:List (Nat×ι)),∃(i:Nat),∃(sS:Nat),∃(iX:ι),cF A' l/\
 l[i]? =some (sS,iX)/\
 pv b=pv sS/\
 jI []/\
 bB iX/\
 ∀(A':List (Sg×KB)),cF A' (l.set i (sS,{me:=iX.me,id:=iX.id,ep:=iX.ep,nu:=iX.nu,ce:=iX.ce,ti:=iX.ti,bl:=iX.bl,lo:=iX.lo,ch:=iX.ch,c:=iX.c,t:=iX.t,v:=iX.v,ld:=iX.ld,out:=iX.out,done:=[] }))->
 ∃(l:List (Nat×ι)),∃(i:Nat),∃(Gc:Nat),∃(ua:ι),cF A' l/\
 l[i]? =some (Gc,ua)/\
 pv b=pv Gc/\
 jI []/\
 bB ua/\
 ∀(A':List (Sg×KB)),let ω:=K (ο false) [fE A'];cF A' (l.set i (Gc,ua))->
 (((dN R o).fst == 0)=true->
 (((↑(ae dA iX.done).length:Int) == 1)=true->
 aA 0/\
 ∃(e:List D),(ae dA iX.done)[0]? =some e/\
 ∃(n:Int),e[5]? =some (η (ν γ n))/\
 ((n == 0)=true->
 ((ua.ep == 1)=true->
 ((ua.nu == 1)=true->
 ∃(l:List (Nat×ι)),∃(i:Nat),∃(Gd:Nat),∃(R:ι),cF A' l/\
 l[i]? =some (Gd,R)/\
 pv b=pv Gd/\
 jI []/\
 bB R/\
 ∀(A':List (Sg×KB)),cF A' (l.set i (Gd,{me:=R.me,id:=R.id,ep:=R.ep,nu:=R.nu,ce:=R.ce,ti:=R.ti,bl:=R.bl,lo:=R.lo,ch:=false,c:=R.c,t:=R.t,v:=R.v,ld:=R.ld,out:=R.out,done:=R.done }))->
 K (ο R.ch) [fE A'])/\
 ((ua.nu == 1)=false->
 ω))/\
 ((ua.ep == 1)=false->
 ω))/\
 ((n == 0)=false->
 ω))/\
 (((↑(ae dA iX.done).length:Int) == 1)=false->
 ω))/\
 (((dN R o).fst == 0)=false->
 ω))
 ):aI Tryz.prog FO (aG 7) 7 [] [] K:=by apply Eq.mp (a:=aq);kernel_rfl
def Bq:ι:=newR 3 1 false 0 0 jT []
def Ga:Vw:=⟨1,0,1,[3],[]⟩
def qp:ι:=dV Bq Ga
def ul:Op:=⟨1,1,1,2,iB 9⟩
def oQ:ι:=(dN qp ul).2
theorem N_:bB Bq:=C7 3 1 false 0 (by omega) (by omega) rfl Mk Kc
theorem Oa:bB qp:=(WU (w:=Ga) N_ (by decide) (by decide) (by decide)).i
theorem Ob:(aP qp).length=0:=by kernel_rfl
theorem Oc:qp.out.length=0:=by kernel_rfl
theorem YQ:qp.done.length=0:=by kernel_rfl
theorem YR:qp.nu=0:=by kernel_rfl
theorem F_:bB oQ:=(VG (o:=ul) Oa ⟨LY 9,by show(iB 9).length<=_;rw[Eg];omega⟩ (by rw[YR];omega) (by rw[Ob,Oc];omega) (by rw[YQ];omega)).i
theorem YT:(dN qp ul).1=0:=by kernel_rfl
theorem Od:oQ.done=[⟨ul,0,[]⟩]:=by kernel_rfl
theorem YU:oQ.ep=1:=by kernel_rfl
theorem YV:oQ.nu=1:=by kernel_rfl
theorem YS:oQ.ch=true:=by kernel_rfl
def Nf:aE:=fun args kb K=>match args,kb with
 | [],[]=>∀ A,K (ο true) [fE A]
 |_,_=>False
def EU:aE:=fun args kb K=>match args,kb with
 | [],[]=>K (ο true) []
 | [],[fE A]=>K (ο true) [fE A]
 |_,_=>False
theorem acw:aO Tryz.prog 7 Nf:=eC NP mixed (fun args kb K h=>by
 unfold Nf at h;split at h<;>try exact h.elim
 refine⟨_,ahc 0 K ⟨[],[],⟨.inl ⟨rfl,rfl⟩⟩,Ul,fun b A1 p1=>⟨fun q=>(by cases q),fun _=>⟨ar _,[(b,Bq)],0,b,Bq,p1,rfl,rfl,Ga,rfl,N_,by decide,by decide,fun A2 p2=>?_⟩⟩⟩⟩
 refine⟨[(b,qp)],0,b,qp,p2,rfl,rfl,ul,rfl,Oa,by rw[Ob,Oc];omega,LY 9,by show(iB 9).length<=_;rw[Eg];omega,fun A3 p3=>?_⟩
 refine⟨[(b,oQ)],0,b,oQ,p3,rfl,rfl,⟨rfl⟩,F_,fun A4 p4=>?_⟩
 refine⟨[(b,{oQ with done:=[] })],0,b,_,p4,rfl,rfl,⟨rfl⟩,G_ F_,fun A5 p5=>⟨fun _=>⟨fun _=>?_,fun q=>?_⟩,fun q=>?_⟩⟩
 ·refine⟨by unfold aA;omega,dA ⟨ul,0,[]⟩,by rw[Od];rfl,0,rfl,fun _=>⟨fun _=>⟨fun _=>?_,fun q=>?_⟩,fun q=>?_⟩,fun q=>(by cases q)⟩
  ·refine⟨[(b,{oQ with done:=[] })],0,b,_,p5,rfl,rfl,⟨rfl⟩,G_ F_,fun A6 p6=>?_⟩
   show K (ο oQ.ch) [fE A6]
   rw[YS];exact h A6
  ·have q:(oQ.nu == 1)=false:=q
   rw[YV]at q;cases q
  ·have q:(oQ.ep == 1)=false:=q
   rw[YU]at q;cases q
 ·rw[Od]at q;cases q
 ·have q:((dN qp ul).1 == 0)=false:=q
  rw[YT]at q;cases q)
theorem acv:aO Tryz.prog 7 EU:=fun args kb K h=>Gn acw args kb K (by
 unfold EU at h
 split at h<;>try exact h.elim
 ·exact⟨[],[],.inl ⟨rfl,rfl⟩,rfl,fun A=>h⟩
 ·exact⟨_,[],.inr rfl,rfl,fun A=>h⟩)
end Go.Proofs.YtfcjngcnifdmnaaGreat
