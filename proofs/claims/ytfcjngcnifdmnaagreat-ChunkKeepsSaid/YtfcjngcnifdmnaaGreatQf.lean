import Derived.Test.YtfcjngcnifdmnaaGreatQe
import Derived.KernelRfl
namespace Go.Proofs.YtfcjngcnifdmnaaGreat
open Vc Go
open Go.IntKind renaming i64->Z,u8->θ,u32->gq
open Vc.V renaming any->γ,int->δ,sl->ε,sb->ξ,ptr->ac,dat->an,υ->ar,ae->aG,mp->aV,arr->bc,agg->cF
open Vc.KO renaming row->ζ,dead->ο,cells->ω,objs->bE
open Vc.D renaming val->η,sl->π
open List renaming map->ι,drop->ν,take->ah,length_append->bw,getElem?_eq_getElem->bx,getElem?_eq_some_iff->bU,length_map->cg,Mem->ct,take_length->cN,replicate->cQ,length_take->cW,append_assoc->dQ,getElem?_append_right->ef,getElem?_append_left->eH,mem_cons->eP,append_nil->fg,length_drop->fh,getElem?_map->fG,mem_map->fH,take_of_length_le->fI,getElem?_set_ne->fR,mem_cons_of_mem->fS,mem_append->gl,mem_of_getElem?->gm,getElem?_eq_none->gA,getElem?_set_self->gB,length_set->gC,range->gD,drop_zero->gK,mem_singleton->gY,flatten_cons->im,length_cons->io,mem_cons_self->iA,getElem?_take_of_lt->jj,length_nil->jk,nil_append->jm,getElem?_drop->jB,map_append->jC,take_add_one->jY,ext_getElem?->km,getD_eq_getElem?_getD->kn,length_singleton->ko,eq_nil_of_length_eq_zero->kG,mem_append_left->lR,mem_filter->lS
open Go.Value renaming int->κ,slice->eI,bool->fa,map->gr,oneCell'->kq
open Nat renaming le_refl->aE,zero_le->bF,beq->bZ,eq_of_beq_eq_true->cy,zero_add->cL,add_assoc->fT,lor->gE,lt_or_ge->iX,sub_zero->kp
open Option renaming some->bh,bind_eq_some_iff->jF,map->jZ
open Int renaming toNat_natCast->dr,le_refl->gp
open Bool renaming and_eq_true->kE
set_option linter.unusedVariables false
set_option linter.unusedSimpArgs false
set_option maxRecDepth 100000
def jR (R:φ) (L:dx) (k:Int):List Post:=
 if L.ins k=false then[kD R k]else match L.cur with
 |some o=>if L.dR k=false then[jH R o k]else[]
 |none=>[]
def fX (R:φ):φ:=match R.ld with
 |none=>{R with ti:=R.ti+1 }
 |some L=>if(R.ti+1).tmod 3=0 then{R with ti:=R.ti+1,out:=R.out++(ba R).flatMap (jR R L) }else{R with ti:=R.ti+1 }
def pu (c:Option Op) (I Q:ML):dx:=⟨fun n=>hZ I [n] 0,fun n=>hZ Q [n] 0,c⟩
def tks (R:φ) (c:Option Op) (I Q:ML) (i:Nat):List Post:=((ba R).take i).flatMap (jR R (pu c I Q))
def Hq:FuncId->Option dw
 | 44=>some ⟨[],dK [false,true,true,true,true,true,false,true,true,true,true,false,false,true,true,true,true,true,true,true,true,true] sP⟩
 | 45=>some ⟨[],dK [true,false,true,true,false,false,false,false,true,true,true,true,true,true,true,true,true,true,true,true,false,true] uF⟩
 | 57=>some ⟨[],dK [true,false,true,true,false,false,false,true,true,true,true,true,true,true,true,true,false,true,true,true,false,true] xo⟩
 |_=>none
noncomputable def uM:bM:=dF Tryz.prog Hq aM 10
abbrev uj (R:φ) (T I Q:ML) (c:Option Op):LI where
 α:={i:Nat // i<=(ba R).length/\(R.ti+1).tmod 3=0}
 live:=[0,25,26,27]
 dN:=[.mv 0 147]
 st i:=([ac 0 0,.sl 6 0 (ba R).length,.int Z ((ba R).length:Int),.int Z (i.1:Int)],[cT R (.int Z (R.ti+1)) (ai T) (ξ true) (.mp 1) (.mp 2) (.ae (c.map bn)) (.sl 5 0 (nO R+(tks R c I Q i.1).length)) (.sl 4 0 (nD R)),af I,af Q,ο,rD R,ζ 107 5 (ι bD R.out++ι bD (tks R c I Q i.1)),ζ 3 1 (ints Z (fC R.me R.v.mem R.v.aL))])
 μ i:=(ba R).length - i.1
def Qp (R:φ) (T I Q:ML) (c:Option Op):Nat->Option LI
 | 3=>some (uj R T I Q c)
 |_=>none
theorem acx (R:φ) (T I Q:ML) (c:Option Op) (K:V->KB->Prop) (ay:
 let aq:KB:=[cT R (δ Z (Z.wrap (R.ti+1))) (ai T) (ξ true) (aV 1) (aV 2) (aG (jZ bn c)) (ε 3 0 (nO R)) (ε 4 0 (nD R)),af I,af Q,rO R,rD R];(false=true->
 K (ar []) aq)/\
 (false=false->
 (((Z.wrap (R.ti+1)).tmod 3 != 0)=true->
 K (ar []) aq)/\
 (((Z.wrap (R.ti+1)).tmod 3 != 0)=false->
 ∀(y1:Nat->
 Value),∃(y2:List Int),∃(y3:List Int),ints Z R.v.mem=ints Z y2/\
 ints Z R.v.aL=ints Z y3/\
 dm (y2.length+y3.length)/\
 bu y1 [1,2,3,4,5,7,8,9,10,13,14,15,16,17,18,19,20,21]/\
 At (uj R T I Q c) ([ac 0 0,ε 6 0 (bA R.me y2 y3).length,δ Z (↑((bA R.me y2 y3).length - 0):Int),δ Z 0],[cT R (δ Z (Z.wrap (R.ti+1))) (ai T) (ξ true) (aV 1) (aV 2) (aG (jZ bn c)) (ε 5 0 (nO R)) (ε 4 0 (nD R)),af I,af Q,ο,rD R,rO R,ζ 3 1 (ints Z (fC R.me y2 y3))])/\
 ∀(y5:{y4:Nat // y4<=(ba R).length/\
 (R.ti+1).tmod 3=0}),let dP:=[ac 0 0,ε 6 0 (ba R).length,δ Z (↑(ba R).length:Int),δ Z (Z.wrap ((↑y5.val:Int)+1))];let AX:=(ι bD R.out++ι bD (tks R c I Q y5.val));let HW:=ζ 3 1 (ints Z (fC R.me R.v.mem R.v.aL));let gJ:=(dP,[cT R (δ Z (R.ti+1)) (ai T) (ξ true) (aV 1) (aV 2) (aG (jZ bn c)) (ε 5 0 (nO R+(tks R c I Q y5.val).length)) (ε 4 0 (nD R)),af I,af Q,ο,rD R,ζ 107 5 AX,HW]);(decide ((↑y5.val:Int)<(↑(ba R).length:Int))=true->
 br (↑y5.val:Int) ((ba R).length - 0)/\
 ∃(y6:List D),(ints Z (fC R.me R.v.mem R.v.aL))[0+(↑y5.val:Int).toNat]? =some y6/\
 ∃(y7:Int),y6[0]? =some (η (κ Z y7))/\
 (∀(y8:List D),bJ I [y7]=some y8->
 fQ [CK.bool] y8)/\
 ((!hZ I [y7] 0)=true->
 ∀(y9:Nat->
 Value),nO R+(tks R c I Q y5.val).length=AX.length/\
 bN (nO R+(tks R c I Q y5.val).length)/\
 ∃(cq:List Int),∃(b_:List L3),gz (aK θ R.c) cq/\
 bG T b_/\
 bu y9 [0,2,3,8,9,10,11,12,13,14,15,16,17,18,19,21]/\
 Nx (uj R T I Q c) y5 (dP,[ω [δ Z R.me,δ Z R.id,ξ R.bl,ξ R.lo,δ Z R.ep,δ Z R.nu,bc 128 (aK θ cq),ai T,δ Z R.v.vi,δ Z R.v.vv,δ Z R.v.ve,an (π 1 (ints Z R.v.mem)),an (π 1 (ints Z R.v.aL)),ξ true,aV 1,aV 2,aG (jZ bn c),δ Z R.ce,ξ R.ch,δ Z (R.ti+1),ε 5 0 (nO R+(tks R c I Q y5.val).length+1),ε 4 0 (nD R)],af I,af Q,ο,rD R,ζ 107 5 (ι bD R.out++ι bD (tks R c I Q y5.val)++[[dn Z y7,η (κ Z 10),π 1 [[dn Z R.id],[dn Z R.ep],[dn Z R.nu]],π 1 (ints θ (bT cq)),π 1 [[π 1 (ints θ (bb b_))]]]]),HW]))/\
 ((!hZ I [y7] 0)=false->
 ((!(jZ bn c).isNone)=true->
 (∀(ca:List D),bJ Q [y7]=some ca->
 fQ [CK.bool] ca)/\
 ((!hZ Q [y7] 0)=true->
 ∀(cf:Nat->
 Value),nO R+(tks R c I Q y5.val).length=AX.length/\
 bN (nO R+(tks R c I Q y5.val).length)/\
 ∃(cE:List Int),∃(cj:Op),gz (aK θ R.c) cE/\
 jZ bn c=some (bn cj)/\
 bu cf [0,2,3,7,8,9,10,11,12,13,14,15,17,18,19,21]/\
 Nx (uj R T I Q c) y5 (dP,[ω [δ Z R.me,δ Z R.id,ξ R.bl,ξ R.lo,δ Z R.ep,δ Z R.nu,bc 128 (aK θ cE),ai T,δ Z R.v.vi,δ Z R.v.vv,δ Z R.v.ve,an (π 1 (ints Z R.v.mem)),an (π 1 (ints Z R.v.aL)),ξ true,aV 1,aV 2,aG (jZ bn c),δ Z R.ce,ξ R.ch,δ Z (R.ti+1),ε 5 0 (nO R+(tks R c I Q y5.val).length+1),ε 4 0 (nD R)],af I,af Q,ο,rD R,ζ 107 5 (ι bD R.out++ι bD (tks R c I Q y5.val)++[[dn Z y7,η (κ Z 12),π 1 [[dn Z R.id],[dn Z R.ep],[dn Z R.nu],[dn Z cj.cl],[dn Z cj.nm],[dn Z cj.kd],[dn Z cj.bk],[dn Z (dy cE)]],π 1 (ints θ cj.b),π 1 []]]),HW]))/\
 ((!hZ Q [y7] 0)=false->
 Nx (uj R T I Q c) y5 gJ))/\
 ((!(jZ bn c).isNone)=false->
 Nx (uj R T I Q c) y5 gJ)))/\
 (decide ((↑y5.val:Int)<(↑(ba R).length:Int))=false->
 K (ar []) [cT R (δ Z (R.ti+1)) (ai T) (ξ true) (aV 1) (aV 2) (aG (jZ bn c)) (ε 3 0 (nO R+(tks R c I Q y5.val).length)) (ε 4 0 (nD R)),af I,af Q,ζ 107 5 AX,rD R])))
 ):aO Tryz.prog uM (Qp R T I Q c) 29 [ac 0 0] [cR R (ai T) (ξ true) (.mp 1) (.mp 2) (.ae (c.map bn)) (.sl 3 0 (nO R)) (.sl 4 0 (nD R)),af I,af Q,rO R,rD R] (fD 13 dW K):=by apply Eq.mp (a:=ay);kernel_rfl
theorem acy (R:φ) (T:ML) (χ ψ:Value) (K:V->KB->Prop) (ay:
 let aq:=(δ Z (Z.wrap (R.ti+1)));((true=true->
 ∀(y1:Nat->
 Value),K (ar []) [cT R aq (ai T) (ξ false) (γ (y1 14)) (γ (y1 15)) (aG none) (ε 1 0 (nO R)) (ε 2 0 (nD R)),rO R,rD R])/\
 (true=false->
 (((Z.wrap (R.ti+1)).tmod 3 != 0)=true->
 ∀(y2:Nat->
 Value),K (ar []) [cT R aq (ai T) (ξ false) (γ (y2 14)) (γ (y2 15)) (aG none) (ε 1 0 (nO R)) (ε 2 0 (nD R)),rO R,rD R])/\
 (((Z.wrap (R.ti+1)).tmod 3 != 0)=false->
 At C3 ([],[cT R aq (ai T) (ξ false) (γ χ) (γ ψ) (aG none) (ε 1 0 (nO R)) (ε 2 0 (nD R)),rO R,rD R]))))/\
 True
 ):aO Tryz.prog uM (cutAt 1002) 29 [ac 0 0] [cR R (ai T) (ξ false) (γ χ) (γ ψ) (.ae none) (.sl 1 0 (nO R)) (.sl 2 0 (nD R)),rO R,rD R] (fD 13 dW K):=by apply Eq.mp (a:=ay);kernel_rfl
theorem aaK {R:φ} (hl:R.ld=none):fX R={R with ti:=R.ti+1 }:=by unfold fX;rw[hl]
theorem aaJ {R:φ} {L:dx} (hl:R.ld=some L) (h:¬ (R.ti+1).tmod 3=0):fX R={R with ti:=R.ti+1 }:=by unfold fX;rw[hl];exact if_neg h
theorem aaI {R:φ} {L:dx} (hl:R.ld=some L) (h:(R.ti+1).tmod 3=0):fX R={R with ti:=R.ti+1,out:=R.out++(ba R).flatMap (jR R L) }:=by unfold fX;rw[hl];exact if_pos h
theorem ww {R:φ} {c:Option Op} {I Q:ML} {i:Nat} (h:i<(ba R).length):tks R c I Q (i+1)=tks R c I Q i++jR R (pu c I Q) (ba R)[i]:=by
 unfold tks;rw[jY,bx h,List.flatMap_append];simp
theorem aaS {R:φ} {c:Option Op} {I Q:ML} (i:Nat):(tks R c I Q i).length<=i:=by
 induction i with
 |zero=>simp [tks]
 |succ i ih=>
  rcases iX i (ba R).length with h | h
  ·rw[ww h,bw]
   have:(jR R (pu c I Q) (ba R)[i]).length<=1:=by
    unfold jR
    split
    ·simp
    ·split
     ·split<;>simp
     ·simp
   omega
  ·have:tks R c I Q (i+1)=tks R c I Q i:=by unfold tks;rw[fI (by omega),fI h]
   rw[this];omega
theorem V3 {L:dx} {c:Option Op} {I Q:ML} (hI:MB I L.ins) (hQ:MB Q L.dR) (hc:L.cur=c):pu c I Q=L:=by
 obtain⟨a,b,d⟩:=L
 simp only at hc
 subst hc
 unfold pu
 have e1:(fun n=>hZ I [n] 0)=a:=funext hI.f
 have e2:(fun n=>hZ Q [n] 0)=b:=funext hQ.f
 rw[e1,e2]
theorem J5 {M:ML} (h:jW M) {k:List Int}:∀ cs,bJ M k=some cs->fQ [CK.bool] cs:=fun cs hc=>by
 obtain⟨b,rfl⟩:=h.h _ _ hc
 exact⟨b,[],rfl,rfl⟩
theorem aaR:dE Tryz.prog Hq:=fun f k h=>by
 unfold Hq at h
 split at h
 ·cases h;exact eK zH _
 ·cases h;exact eK F1 _
 ·cases h;exact eK NL _
 ·cases h
theorem Jk:bW Tryz.prog uM:=dI mixed aaR aM 10
theorem aaO (R:φ) (T:ML) (χ ψ:Value) (hT:bG T R.t) (hl:R.ld=none) (hR:c8 R) (h0:0<=R.ti) (h1:R.ti<=2199023255552) (hroom:R.out.length+(ba R).length<=100000) (K:V->KB->Prop) (hK:∀ kb',aF (fX R) kb'->K (.υ []) kb'):aO Tryz.prog uM (cutAt 1002) 29 [ac 0 0] [cR R (ai T) (ξ false) (γ χ) (γ ψ) (.ae none) (.sl 1 0 (nO R)) (.sl 2 0 (nD R)),rO R,rD R] (fD 13 dW K):=by
 have fin:∀{R':φ} {kb':KB},fX R=R'->aF R' kb'->K (.υ []) kb':=fun{R' kb'} h1 h2=>by
  have:=hK kb'
  rw[h1]at this
  exact this h2
 have ew:Z.wrap (R.ti+1)=R.ti+1:=bR (by omega) (by omega)
 refine acy R T χ ψ K ?_
 rw[ew]
 exact⟨⟨fun _ f=>fin (aaK hl) (by
  unfold aF
  simp only[hl]
  refine⟨f 14,f 15,T,hT,?_⟩
  rfl),fun f=>(by cases f)⟩,trivial⟩
theorem aaN (R:φ) (T:ML) (I Q:ML) (L:dx) (hT:bG T R.t) (hl:R.ld=some L) (hI:MB I L.ins) (hQ:MB Q L.dR) (hR:c8 R) (h0:0<=R.ti) (h1:R.ti<=2199023255552) (hroom:R.out.length+(ba R).length<=100000) (K:V->KB->Prop) (hK:∀ kb',aF (fX R) kb'->K (.υ []) kb'):aO Tryz.prog uM (Qp R T I Q L.cur) 29 [ac 0 0] [cR R (ai T) (ξ true) (.mp 1) (.mp 2) (.ae (L.cur.map bn)) (.sl 3 0 (nO R)) (.sl 4 0 (nD R)),af I,af Q,rO R,rD R] (fD 13 dW K):=by
 have fin:∀{R':φ} {kb':KB},fX R=R'->aF R' kb'->K (.υ []) kb':=fun{R' kb'} h1 h2=>by
  have:=hK kb'
  rw[h1]at this
  exact this h2
 have ew:Z.wrap (R.ti+1)=R.ti+1:=bR (by omega) (by omega)
 have h5:dm (R.v.mem.length+R.v.aL.length):=⟨by have:=hR.vl;omega⟩
 have lm:gz (aK θ R.c) R.c:=⟨rfl,hR.cl,hR.cb⟩
 refine acx R T I Q L.cur K ?_
 rw[ew]
 refine⟨fun f=>(by cases f),fun _=>⟨fun e=>fin (aaJ hl (by simpa using e)) (by
  unfold aF
  simp only[hl]
  refine⟨I,Q,T,hI,hQ,hT,?_⟩
  rfl),fun e f=>⟨R.v.mem,R.v.aL,rfl,rfl,h5,⟨by simp [bP]⟩,At.mk' ⟨0,bF _,by simpa using e⟩ ?_,?_⟩⟩⟩
 ·simp [tks,ba]
 ·rintro⟨i,Ek,hz⟩
  refine⟨fun hlt=>?_,fun hlt=>?_⟩
  ·have hlt:i<(ba R).length:=by simpa using hlt
   have da:(fC R.me R.v.mem R.v.aL)[i]? =(ba R)[i]?:=Ga hlt
   have wz:=bR (n:=(i:Int)+1) (by omega) (by omega)
   have pr:nO R+(tks R L.cur I Q i).length=(ι bD R.out++ι bD (tks R L.cur I Q i)).length:=by simp [nO]
   have pl:bN (nO R+(tks R L.cur I Q i).length):=⟨by have:=aaS (R:=R) (c:=L.cur) (I:=I) (Q:=Q) i;simp [nO];omega⟩
   refine⟨yX (by simpa using hlt),[dn Z (ba R)[i]],?_,(ba R)[i],rfl,J5 hI.b,fun e1 f=>⟨pr,pl,R.c,R.t,lm,hT,⟨by simp [bP]⟩,Nx.mk' ⟨i+1,hlt,hz⟩ (by
     have eh:tks R L.cur I Q (i+1)=tks R L.cur I Q i++[kD R (ba R)[i]]:=by rw[ww hlt];simp [jR,pu,show hZ I [(ba R)[i]] 0=false by simpa using e1]
     simp only[wz]
     simp [eh,cT,bD,h_,kD,jH,fW,kY,od,fc,dn,ints,fT]
     try rfl) (by show(ba R).length - (i+1)<(ba R).length - i;omega)⟩,fun e1=>?_⟩
   ·simp only[dr,cL]
    rw[ints_getElem?,da,bx hlt];rfl
   ·cases hp:L.cur.isNone with
    |true=>
     have hp:L.cur=none:=by simpa using hp
     refine⟨fun f=>(by rw[hp]at f;cases f),fun _=>Nx.mk' ⟨i+1,hlt,hz⟩ (by
     have eh:tks R L.cur I Q (i+1)=tks R L.cur I Q i++[]:=by rw[ww hlt];simp [jR,pu,hp,show hZ I [(ba R)[i]] 0=true by simpa using e1]
     simp only[wz]
     simp [eh,cT,bD,h_,kD,jH,fW,kY,od,fc,dn,ints,fT]
     try rfl) (by show(ba R).length - (i+1)<(ba R).length - i;omega)⟩
    |false=>
     obtain⟨p,hp⟩:∃ p,L.cur=some p:=Option.ne_none_iff_exists'.1 fun h=>by rw[h]at hp;cases hp
     refine⟨fun _=>⟨J5 hQ.b,fun e2 f=>⟨pr,pl,R.c,p,lm,by rw[hp];rfl,⟨by simp [bP]⟩,Nx.mk' ⟨i+1,hlt,hz⟩ (by
     have eh:tks R L.cur I Q (i+1)=tks R L.cur I Q i++[jH R p (ba R)[i]]:=by rw[ww hlt];simp [jR,pu,hp,show hZ I [(ba R)[i]] 0=true by simpa using e1,show hZ Q [(ba R)[i]] 0=false by simpa using e2]
     simp only[wz]
     simp [eh,cT,bD,h_,kD,jH,fW,kY,od,fc,dn,ints,fT]
     try rfl) (by show(ba R).length - (i+1)<(ba R).length - i;omega)⟩,fun e2=>Nx.mk' ⟨i+1,hlt,hz⟩ (by
     have eh:tks R L.cur I Q (i+1)=tks R L.cur I Q i++[]:=by rw[ww hlt];simp [jR,pu,hp,show hZ I [(ba R)[i]] 0=true by simpa using e1,show hZ Q [(ba R)[i]] 0=true by simpa using e2]
     simp only[wz]
     simp [eh,cT,bD,h_,kD,jH,fW,kY,od,fc,dn,ints,fT]
     try rfl) (by show(ba R).length - (i+1)<(ba R).length - i;omega)⟩,fun f=>(by rw[hp]at f;cases f)⟩
  ·have hi2:i=(ba R).length:=by
    have:¬ i<(ba R).length:=by simpa using hlt
    omega
   subst hi2
   refine fin (aaI hl hz) ?_
   unfold aF
   simp only[hl]
   refine⟨I,Q,T,hI,hQ,hT,?_⟩
   have e2:tks R L.cur I Q (ba R).length=(ba R).flatMap (jR R L):=by unfold tks;rw[cN,V3 hI hQ rfl]
   simp [cR,cT,e2]
def Rx:aH:=fun args kb K=>∃ R,args=[ac 0 0]/\aF R kb/\c8 R/\0<=R.ti/\R.ti<=2199023255552/\R.out.length+(ba R).length<=100000/\∀ kb',aF (fX R) kb'->K (.υ []) kb'
theorem Yj:fw Tryz.prog 29 Rx:=rS mixed 13 dW (fun args kb K h=>by
 obtain⟨R,rfl,hkb,hR,h0,h1,hroom,hK⟩:=h
 have gN:=hkb
 unfold aF at hkb
 split at hkb
 ·rename_i hl
  obtain⟨χ,ψ,T,hT,rfl⟩:=hkb
  exact⟨_,_,Jk,aaO R T χ ψ hT hl hR h0 h1 hroom K hK⟩
 ·rename_i L hl
  obtain⟨I,Q,T,hI,hQ,hT,rfl⟩:=hkb
  exact⟨_,_,Jk,aaN R T I Q L hT hl hI hQ hR h0 h1 hroom K hK⟩)
def GQ:FuncId->Option dw
 | 49=>some ⟨[],dK [true,true,true,true,true,true,false,true,true,true,true,true,true,true,true,true,true,true,true,true,true,true] uC⟩
 |_=>none
noncomputable def uL:bM:=dF Tryz.prog GQ aM 10
abbrev JL:=fun(R:φ) iG (K:V->KB->Prop)=>(
 nO R<=(nO R)/\
 K (an (π 5 (ν 0 (ah (nO R) (ι bD R.out))))) iG
 :Prop)
theorem ab6 (R:φ) (T:ML) (χ ψ:Value) (K:V->KB->Prop) (ay:
 JL R [cR R (ai T) (ξ false) (γ χ) (γ ψ) (aG none) (ε 1 0 0) (ε 2 0 (nD R)),ζ 107 5 [],rD R] K
 ):aO Tryz.prog X0 (aM 46) 46 [ac 0 0] [cR R (ai T) (ξ false) (γ χ) (γ ψ) (.ae none) (.sl 1 0 (nO R)) (.sl 2 0 (nD R)),rO R,rD R] (iF [.eB 5] (eX [.cell 0 147 107 5] (ed K))):=by apply Eq.mp (a:=ay);kernel_rfl
theorem ab5 (R:φ) (T:ML) (I Q:ML) (u:Option (List D)) (K:V->KB->Prop) (ay:
 JL R [cR R (ai T) (ξ true) (aV 1) (aV 2) (aG u) (ε 3 0 0) (ε 4 0 (nD R)),af I,af Q,ζ 107 5 [],rD R] K
 ):aO Tryz.prog X0 (aM 46) 46 [ac 0 0] [cR R (ai T) (ξ true) (.mp 1) (.mp 2) (.ae u) (.sl 3 0 (nO R)) (.sl 4 0 (nD R)),af I,af Q,rO R,rD R] (iF [.eB 5] (eX [.cell 0 147 107 5] (ed K))):=by apply Eq.mp (a:=ay);kernel_rfl
abbrev JI:=fun(R:φ) iG (K:V->KB->Prop)=>(
 nD R<=(nD R)/\
 K (an (π 7 (ν 0 (ah (nD R) (ι bo R.done))))) iG
 :Prop)
theorem abu (R:φ) (T:ML) (χ ψ:Value) (K:V->KB->Prop) (ay:
 JI R [cR R (ai T) (ξ false) (γ χ) (γ ψ) (aG none) (ε 1 0 (nO R)) (ε 2 0 0),rO R,ζ 70 7 []] K
 ):aO Tryz.prog X0 (aM 24) 24 [ac 0 0] [cR R (ai T) (ξ false) (γ χ) (γ ψ) (.ae none) (.sl 1 0 (nO R)) (.sl 2 0 (nD R)),rO R,rD R] (iF [.eB 7] (eX [.cell 0 148 70 7] (ed K))):=by apply Eq.mp (a:=ay);kernel_rfl
theorem abt (R:φ) (T:ML) (I Q:ML) (u:Option (List D)) (K:V->KB->Prop) (ay:
 JI R [cR R (ai T) (ξ true) (aV 1) (aV 2) (aG u) (ε 3 0 (nO R)) (ε 4 0 0),af I,af Q,rO R,ζ 70 7 []] K
 ):aO Tryz.prog X0 (aM 24) 24 [ac 0 0] [cR R (ai T) (ξ true) (.mp 1) (.mp 2) (.ae u) (.sl 3 0 (nO R)) (.sl 4 0 (nD R)),af I,af Q,rO R,rD R] (iF [.eB 7] (eX [.cell 0 148 70 7] (ed K))):=by apply Eq.mp (a:=ay);kernel_rfl
abbrev JH:=fun(R:φ) iG (K:V->KB->Prop)=>(
 K (ξ R.ch) iG
 :Prop)
theorem abc (R:φ) (T:ML) (χ ψ:Value) (K:V->KB->Prop) (ay:
 JH R [cS R (δ Z R.nu) (bc 128 (aK θ R.c)) (ξ false) (ai T) (ξ false) (γ χ) (γ ψ) (aG none) (ε 1 0 (nO R)) (ε 2 0 (nD R)),rO R,rD R] K
 ):aO Tryz.prog X0 (aM 25) 25 [ac 0 0] [cR R (ai T) (ξ false) (γ χ) (γ ψ) (.ae none) (.sl 1 0 (nO R)) (.sl 2 0 (nD R)),rO R,rD R] (ed K):=by apply Eq.mp (a:=ay);kernel_rfl
theorem abb (R:φ) (T:ML) (I Q:ML) (u:Option (List D)) (K:V->KB->Prop) (ay:
 JH R [cS R (δ Z R.nu) (bc 128 (aK θ R.c)) (ξ false) (ai T) (ξ true) (aV 1) (aV 2) (aG u) (ε 3 0 (nO R)) (ε 4 0 (nD R)),af I,af Q,rO R,rD R] K
 ):aO Tryz.prog X0 (aM 25) 25 [ac 0 0] [cR R (ai T) (ξ true) (.mp 1) (.mp 2) (.ae u) (.sl 3 0 (nO R)) (.sl 4 0 (nD R)),af I,af Q,rO R,rD R] (ed K):=by apply Eq.mp (a:=ay);kernel_rfl
abbrev JK:=fun(R:φ) iG (K:V->KB->Prop)=>(
 K (ar [δ Z R.ep,δ Z R.nu]) iG
 :Prop)
theorem abx (R:φ) (T:ML) (χ ψ:Value) (K:V->KB->Prop) (ay:
 JK R [cR R (ai T) (ξ false) (γ χ) (γ ψ) (aG none) (ε 1 0 (nO R)) (ε 2 0 (nD R)),rO R,rD R] K
 ):aO Tryz.prog X0 (aM 13) 13 [ac 0 0] [cR R (ai T) (ξ false) (γ χ) (γ ψ) (.ae none) (.sl 1 0 (nO R)) (.sl 2 0 (nD R)),rO R,rD R] (ed K):=by apply Eq.mp (a:=ay);kernel_rfl
theorem abw (R:φ) (T:ML) (I Q:ML) (u:Option (List D)) (K:V->KB->Prop) (ay:
 JK R [cR R (ai T) (ξ true) (aV 1) (aV 2) (aG u) (ε 3 0 (nO R)) (ε 4 0 (nD R)),af I,af Q,rO R,rD R] K
 ):aO Tryz.prog X0 (aM 13) 13 [ac 0 0] [cR R (ai T) (ξ true) (.mp 1) (.mp 2) (.ae u) (.sl 3 0 (nO R)) (.sl 4 0 (nD R)),af I,af Q,rO R,rD R] (ed K):=by apply Eq.mp (a:=ay);kernel_rfl
abbrev JM:=fun(R:φ) (iG:(List Int)->_) (K:V->KB->Prop)=>(
 ∀(y1:Nat->
 Value),∃(y2:List Int),aK θ R.c=aK θ y2/\
 y2.length=128/\
 (∀(y3:Int),ct y3 y2->
 0<=y3/\
 y3<256)/\
 bu y1 [0,1,2,3,4,5,7,8,9,10,11,12,13,14,15,16,17,18,19,20,21]/\
 K (δ gq (dy y2)) (iG y2)
 :Prop)
theorem aco (R:φ) (T:ML) (χ ψ:Value) (K:V->KB->Prop) (ay:
 JM R (fun y2=>[cS R (δ Z R.nu) (bc 128 (aK θ y2)) (ξ R.ch) (ai T) (ξ false) (γ χ) (γ ψ) (aG none) (ε 1 0 (nO R)) (ε 2 0 (nD R)),rO R,rD R]) K
 ):aO Tryz.prog uL (aM 18) 18 [ac 0 0] [cR R (ai T) (ξ false) (γ χ) (γ ψ) (.ae none) (.sl 1 0 (nO R)) (.sl 2 0 (nD R)),rO R,rD R] (ed K):=by apply Eq.mp (a:=ay);kernel_rfl
theorem acn (R:φ) (T:ML) (I Q:ML) (u:Option (List D)) (K:V->KB->Prop) (ay:
 JM R (fun y2=>[cS R (δ Z R.nu) (bc 128 (aK θ y2)) (ξ R.ch) (ai T) (ξ true) (aV 1) (aV 2) (aG u) (ε 3 0 (nO R)) (ε 4 0 (nD R)),af I,af Q,rO R,rD R]) K
 ):aO Tryz.prog uL (aM 18) 18 [ac 0 0] [cR R (ai T) (ξ true) (.mp 1) (.mp 2) (.ae u) (.sl 3 0 (nO R)) (.sl 4 0 (nD R)),af I,af Q,rO R,rD R] (ed K):=by apply Eq.mp (a:=ay);kernel_rfl
theorem abP (R:φ) (T:ML) (χ ψ:Value) (K:V->KB->Prop) (ay:
 ∀(y1:Nat->
 Value),false=false/\
 bu y1 [0,1,2,3,4,5,7,8,9,10,11,12,14,15,17,18,19,20,21]/\
 K (ar [ξ false,ξ false,ξ false]) [cR R (ai T) (ξ false) (γ χ) (γ ψ) (aG none) (ε 1 0 (nO R)) (ε 2 0 (nD R)),rO R,rD R]
 ):dK [true,true,true,true,true,true,false,true,true,true,true,true,true,false,true,true,false,true,true,true,true,true] oS [ac 0 0] [cR R (ai T) (ξ false) (γ χ) (γ ψ) (.ae none) (.sl 1 0 (nO R)) (.sl 2 0 (nD R)),rO R,rD R] (ed K):=by apply Eq.mp (a:=ay);kernel_rfl
theorem abO (R:φ) (T:ML) (I Q:ML) (u:Option (List D)) (K:V->KB->Prop) (ay:
 ∀(y1:Nat->
 Value),∃(y2:List Int),∃(y3:List Int),ints Z R.v.mem=ints Z y2/\
 ints Z R.v.aL=ints Z y3/\
 dm (y2.length+y3.length)/\
 jW I/\
 true=true/\
 bu y1 [1,2,3,4,5,7,8,9,10,15,17,18,19,20,21]/\
 K (ar [ξ true,ξ (allI R.me y2 y3 I),ξ !u.isNone]) [cR R (ai T) (ξ true) (aV 1) (aV 2) (aG u) (ε 3 0 (nO R)) (ε 4 0 (nD R)),af I,af Q,rO R,rD R]
 ):dK [false,true,true,true,true,true,false,true,true,true,true,false,false,false,false,true,false,true,true,true,true,true] oS [ac 0 0] [cR R (ai T) (ξ true) (.mp 1) (.mp 2) (.ae u) (.sl 3 0 (nO R)) (.sl 4 0 (nD R)),af I,af Q,rO R,rD R] (ed K):=by apply Eq.mp (a:=ay);kernel_rfl
theorem Fo {P:Program} (hm:P.follows .mixedOrders=true) (ms:List Vc.Mode) (ds:List iB) {f:FuncId} {S:aH} (h:∀ args kb K,S args kb K->∃(X:bM) (T:Nat->Option LI),bW P X/\aO P X T f args kb (iF ms (eX ds (ed K)))):fw P f S:=
 Fl (FC (Le (ud hm (S:=fun a k K0=>∃ X T,bW P X/\aO P X T f a k K0) fun _ _ _ h=>h) ms) ds) h
def RA:aH:=fun args kb K=>∃ ms,dK ms oS args kb K
theorem RB:aT Tryz.prog 14 RA:=fun args kb K ⟨ms,h⟩=>eK FY ms args kb K h
theorem Z0:dE Tryz.prog GQ:=fun f k h=>by
 unfold GQ at h
 split at h
 ·cases h;exact eK FX _
 ·cases h
theorem Jh:bW Tryz.prog uL:=dI mixed Z0 aM 10
theorem Zd (R:φ) (T:ML) (χ ψ:Value) (hT:bG T R.t) (hl:R.ld=none) (hR:c8 R) (K:V->KB->Prop) (hK:∀ kb',aF {R with out:=[] } kb'->K (an (.sl 5 (R.out.map bD))) kb'):aO Tryz.prog X0 (aM 46) 46 [ac 0 0] [cR R (ai T) (ξ false) (γ χ) (γ ψ) (.ae none) (.sl 1 0 (nO R)) (.sl 2 0 (nD R)),rO R,rD R] (iF [.eB 5] (eX [.cell 0 147 107 5] (ed K))):=by
 have fin:∀{kb'},aF {R with out:=[] } kb'->∀{r},r=(an (.sl 5 (R.out.map bD)))->K r kb':=fun h r e=>e ▸ hK _ h
 refine ab6 R T χ ψ K ⟨aE _,fin ?_ (by rw[gK,fI (aE _)])⟩
 unfold aF
 simp only[hl]
 exact⟨χ,ψ,T,hT,rfl⟩
theorem Zc (R:φ) (T:ML) (I Q:ML) (L:dx) (hT:bG T R.t) (hl:R.ld=some L) (hI:MB I L.ins) (hQ:MB Q L.dR) (hR:c8 R) (K:V->KB->Prop) (hK:∀ kb',aF {R with out:=[] } kb'->K (an (.sl 5 (R.out.map bD))) kb'):aO Tryz.prog X0 (aM 46) 46 [ac 0 0] [cR R (ai T) (ξ true) (.mp 1) (.mp 2) (.ae (L.cur.map bn)) (.sl 3 0 (nO R)) (.sl 4 0 (nD R)),af I,af Q,rO R,rD R] (iF [.eB 5] (eX [.cell 0 147 107 5] (ed K))):=by
 have fin:∀{kb'},aF {R with out:=[] } kb'->∀{r},r=(an (.sl 5 (R.out.map bD)))->K r kb':=fun h r e=>e ▸ hK _ h
 refine ab5 R T I Q (L.cur.map bn) K ⟨aE _,fin ?_ (by rw[gK,fI (aE _)])⟩
 unfold aF
 simp only[hl]
 exact⟨I,Q,T,hI,hQ,hT,rfl⟩
def Rr:aH:=fun args kb K=>∃ R,args=[ac 0 0]/\aF R kb/\c8 R/\∀ kb',aF {R with out:=[] } kb'->K (an (.sl 5 (R.out.map bD))) kb'
set_option maxHeartbeats 4000000 in
theorem XI:fw Tryz.prog 46 Rr:=Fo mixed [.eB 5] [.cell 0 147 107 5] (fun args kb K h=>by
 obtain⟨R,rfl,hkb,hR,hK⟩:=h
 have gN:=hkb
 unfold aF at hkb
 split at hkb
 ·rename_i hl
  obtain⟨χ,ψ,T,hT,rfl⟩:=hkb
  exact⟨_,_,f_,Zd R T χ ψ hT hl hR K hK⟩
 ·rename_i L hl
  obtain⟨I,Q,T,hI,hQ,hT,rfl⟩:=hkb
  exact⟨_,_,f_,Zc R T I Q L hT hl hI hQ hR K hK⟩)
theorem Y7 (R:φ) (T:ML) (χ ψ:Value) (hT:bG T R.t) (hl:R.ld=none) (hR:c8 R) (K:V->KB->Prop) (hK:∀ kb',aF {R with done:=[] } kb'->K (an (.sl 7 (R.done.map bo))) kb'):aO Tryz.prog X0 (aM 24) 24 [ac 0 0] [cR R (ai T) (ξ false) (γ χ) (γ ψ) (.ae none) (.sl 1 0 (nO R)) (.sl 2 0 (nD R)),rO R,rD R] (iF [.eB 7] (eX [.cell 0 148 70 7] (ed K))):=by
 have fin:∀{kb'},aF {R with done:=[] } kb'->∀{r},r=(an (.sl 7 (R.done.map bo)))->K r kb':=fun h r e=>e ▸ hK _ h
 refine abu R T χ ψ K ⟨aE _,fin ?_ (by rw[gK,fI (aE _)])⟩
 unfold aF
 simp only[hl]
 exact⟨χ,ψ,T,hT,rfl⟩
theorem Y6 (R:φ) (T:ML) (I Q:ML) (L:dx) (hT:bG T R.t) (hl:R.ld=some L) (hI:MB I L.ins) (hQ:MB Q L.dR) (hR:c8 R) (K:V->KB->Prop) (hK:∀ kb',aF {R with done:=[] } kb'->K (an (.sl 7 (R.done.map bo))) kb'):aO Tryz.prog X0 (aM 24) 24 [ac 0 0] [cR R (ai T) (ξ true) (.mp 1) (.mp 2) (.ae (L.cur.map bn)) (.sl 3 0 (nO R)) (.sl 4 0 (nD R)),af I,af Q,rO R,rD R] (iF [.eB 7] (eX [.cell 0 148 70 7] (ed K))):=by
 have fin:∀{kb'},aF {R with done:=[] } kb'->∀{r},r=(an (.sl 7 (R.done.map bo)))->K r kb':=fun h r e=>e ▸ hK _ h
 refine abt R T I Q (L.cur.map bn) K ⟨aE _,fin ?_ (by rw[gK,fI (aE _)])⟩
 unfold aF
 simp only[hl]
 exact⟨I,Q,T,hI,hQ,hT,rfl⟩
def Rl:aH:=fun args kb K=>∃ R,args=[ac 0 0]/\aF R kb/\c8 R/\∀ kb',aF {R with done:=[] } kb'->K (an (.sl 7 (R.done.map bo))) kb'
set_option maxHeartbeats 4000000 in
theorem W9:fw Tryz.prog 24 Rl:=Fo mixed [.eB 7] [.cell 0 148 70 7] (fun args kb K h=>by
 obtain⟨R,rfl,hkb,hR,hK⟩:=h
 have gN:=hkb
 unfold aF at hkb
 split at hkb
 ·rename_i hl
  obtain⟨χ,ψ,T,hT,rfl⟩:=hkb
  exact⟨_,_,f_,Y7 R T χ ψ hT hl hR K hK⟩
 ·rename_i L hl
  obtain⟨I,Q,T,hI,hQ,hT,rfl⟩:=hkb
  exact⟨_,_,f_,Y6 R T I Q L hT hl hI hQ hR K hK⟩)
theorem Y5 (R:φ) (T:ML) (χ ψ:Value) (hT:bG T R.t) (hl:R.ld=none) (hR:c8 R) (K:V->KB->Prop) (hK:∀ kb',aF {R with ch:=false } kb'->K (ξ R.ch) kb'):aO Tryz.prog X0 (aM 25) 25 [ac 0 0] [cR R (ai T) (ξ false) (γ χ) (γ ψ) (.ae none) (.sl 1 0 (nO R)) (.sl 2 0 (nD R)),rO R,rD R] (ed K):=by
 have fin:∀{kb'},aF {R with ch:=false } kb'->∀{r},r=(ξ R.ch)->K r kb':=fun h r e=>e ▸ hK _ h
 refine abc R T χ ψ K (fin ?_ rfl)
 unfold aF
 simp only[hl]
 exact⟨χ,ψ,T,hT,rfl⟩
theorem Y4 (R:φ) (T:ML) (I Q:ML) (L:dx) (hT:bG T R.t) (hl:R.ld=some L) (hI:MB I L.ins) (hQ:MB Q L.dR) (hR:c8 R) (K:V->KB->Prop) (hK:∀ kb',aF {R with ch:=false } kb'->K (ξ R.ch) kb'):aO Tryz.prog X0 (aM 25) 25 [ac 0 0] [cR R (ai T) (ξ true) (.mp 1) (.mp 2) (.ae (L.cur.map bn)) (.sl 3 0 (nO R)) (.sl 4 0 (nD R)),af I,af Q,rO R,rD R] (ed K):=by
 have fin:∀{kb'},aF {R with ch:=false } kb'->∀{r},r=(ξ R.ch)->K r kb':=fun h r e=>e ▸ hK _ h
 refine abb R T I Q (L.cur.map bn) K (fin ?_ rfl)
 unfold aF
 simp only[hl]
 exact⟨I,Q,T,hI,hQ,hT,rfl⟩
def Rk:aH:=fun args kb K=>∃ R,args=[ac 0 0]/\aF R kb/\c8 R/\∀ kb',aF {R with ch:=false } kb'->K (ξ R.ch) kb'
set_option maxHeartbeats 4000000 in
theorem WT:fw Tryz.prog 25 Rk:=zp mixed (fun args kb K h=>by
 obtain⟨R,rfl,hkb,hR,hK⟩:=h
 have gN:=hkb
 unfold aF at hkb
 split at hkb
 ·rename_i hl
  obtain⟨χ,ψ,T,hT,rfl⟩:=hkb
  exact⟨_,_,f_,Y5 R T χ ψ hT hl hR K hK⟩
 ·rename_i L hl
  obtain⟨I,Q,T,hI,hQ,hT,rfl⟩:=hkb
  exact⟨_,_,f_,Y4 R T I Q L hT hl hI hQ hR K hK⟩)
theorem Y9 (R:φ) (T:ML) (χ ψ:Value) (hT:bG T R.t) (hl:R.ld=none) (hR:c8 R) (K:V->KB->Prop) (hK:∀ kb',aF R kb'->K (.υ [.int Z R.ep,.int Z R.nu]) kb'):aO Tryz.prog X0 (aM 13) 13 [ac 0 0] [cR R (ai T) (ξ false) (γ χ) (γ ψ) (.ae none) (.sl 1 0 (nO R)) (.sl 2 0 (nD R)),rO R,rD R] (ed K):=by
 have fin:∀{kb'},aF R kb'->∀{r},r=(.υ [.int Z R.ep,.int Z R.nu])->K r kb':=fun h r e=>e ▸ hK _ h
 refine abx R T χ ψ K (fin ?_ rfl)
 unfold aF
 simp only[hl]
 exact⟨χ,ψ,T,hT,rfl⟩
theorem Y8 (R:φ) (T:ML) (I Q:ML) (L:dx) (hT:bG T R.t) (hl:R.ld=some L) (hI:MB I L.ins) (hQ:MB Q L.dR) (hR:c8 R) (K:V->KB->Prop) (hK:∀ kb',aF R kb'->K (.υ [.int Z R.ep,.int Z R.nu]) kb'):aO Tryz.prog X0 (aM 13) 13 [ac 0 0] [cR R (ai T) (ξ true) (.mp 1) (.mp 2) (.ae (L.cur.map bn)) (.sl 3 0 (nO R)) (.sl 4 0 (nD R)),af I,af Q,rO R,rD R] (ed K):=by
 have fin:∀{kb'},aF R kb'->∀{r},r=(.υ [.int Z R.ep,.int Z R.nu])->K r kb':=fun h r e=>e ▸ hK _ h
 refine abw R T I Q (L.cur.map bn) K (fin ?_ rfl)
 unfold aF
 simp only[hl]
 exact⟨I,Q,T,hI,hQ,hT,rfl⟩
def Rm:aH:=fun args kb K=>∃ R,args=[ac 0 0]/\aF R kb/\c8 R/\∀ kb',aF R kb'->K (.υ [.int Z R.ep,.int Z R.nu]) kb'
set_option maxHeartbeats 4000000 in
theorem Xa:fw Tryz.prog 13 Rm:=zp mixed (fun args kb K h=>by
 obtain⟨R,rfl,hkb,hR,hK⟩:=h
 have gN:=hkb
 unfold aF at hkb
 split at hkb
 ·rename_i hl
  obtain⟨χ,ψ,T,hT,rfl⟩:=hkb
  exact⟨_,_,f_,Y9 R T χ ψ hT hl hR K hK⟩
 ·rename_i L hl
  obtain⟨I,Q,T,hI,hQ,hT,rfl⟩:=hkb
  exact⟨_,_,f_,Y8 R T I Q L hT hl hI hQ hR K hK⟩)
theorem Zf (R:φ) (T:ML) (χ ψ:Value) (hT:bG T R.t) (hl:R.ld=none) (hR:c8 R) (K:V->KB->Prop) (hK:∀ kb',aF R kb'->K (.int gq (dy R.c)) kb'):aO Tryz.prog uL (aM 18) 18 [ac 0 0] [cR R (ai T) (ξ false) (γ χ) (γ ψ) (.ae none) (.sl 1 0 (nO R)) (.sl 2 0 (nD R)),rO R,rD R] (ed K):=by
 have fin:∀{kb'},aF R kb'->∀{r},r=(.int gq (dy R.c))->K r kb':=fun h r e=>e ▸ hK _ h
 refine aco R T χ ψ K fun f=>⟨R.c,rfl,hR.cl,fun c h=>hR.cb c h,⟨by simp [bP]⟩,fin ?_ rfl⟩
 unfold aF
 simp only[hl]
 exact⟨χ,ψ,T,hT,rfl⟩
theorem Ze (R:φ) (T:ML) (I Q:ML) (L:dx) (hT:bG T R.t) (hl:R.ld=some L) (hI:MB I L.ins) (hQ:MB Q L.dR) (hR:c8 R) (K:V->KB->Prop) (hK:∀ kb',aF R kb'->K (.int gq (dy R.c)) kb'):aO Tryz.prog uL (aM 18) 18 [ac 0 0] [cR R (ai T) (ξ true) (.mp 1) (.mp 2) (.ae (L.cur.map bn)) (.sl 3 0 (nO R)) (.sl 4 0 (nD R)),af I,af Q,rO R,rD R] (ed K):=by
 have fin:∀{kb'},aF R kb'->∀{r},r=(.int gq (dy R.c))->K r kb':=fun h r e=>e ▸ hK _ h
 refine acn R T I Q (L.cur.map bn) K fun f=>⟨R.c,rfl,hR.cl,fun c h=>hR.cb c h,⟨by simp [bP]⟩,fin ?_ rfl⟩
 unfold aF
 simp only[hl]
 exact⟨I,Q,T,hI,hQ,hT,rfl⟩
def Ru:aH:=fun args kb K=>∃ R,args=[ac 0 0]/\aF R kb/\c8 R/\∀ kb',aF R kb'->K (.int gq (dy R.c)) kb'
set_option maxHeartbeats 4000000 in
theorem Ye:fw Tryz.prog 18 Ru:=zp mixed (fun args kb K h=>by
 obtain⟨R,rfl,hkb,hR,hK⟩:=h
 have gN:=hkb
 unfold aF at hkb
 split at hkb
 ·rename_i hl
  obtain⟨χ,ψ,T,hT,rfl⟩:=hkb
  exact⟨_,_,Jh,Zf R T χ ψ hT hl hR K hK⟩
 ·rename_i L hl
  obtain⟨I,Q,T,hI,hQ,hT,rfl⟩:=hkb
  exact⟨_,_,Jh,Ze R T I Q L hT hl hI hQ hR K hK⟩)
theorem Za (R:φ) (T:ML) (χ ψ:Value) (hT:bG T R.t) (hl:R.ld=none) (hR:c8 R) (K:V->KB->Prop) (hK:∀ kb',aF R kb'->K (.υ [ξ (eL R),ξ (ib R),ξ (kN R)]) kb'):dK [true,true,true,true,true,true,false,true,true,true,true,true,true,false,true,true,false,true,true,true,true,true] oS [ac 0 0] [cR R (ai T) (ξ false) (γ χ) (γ ψ) (.ae none) (.sl 1 0 (nO R)) (.sl 2 0 (nD R)),rO R,rD R] (ed K):=by
 have fin:∀{kb'},aF R kb'->∀{r},r=(.υ [ξ (eL R),ξ (ib R),ξ (kN R)])->K r kb':=fun h r e=>e ▸ hK _ h
 refine abP R T χ ψ K fun f=>⟨rfl,⟨by simp [bP]⟩,fin ?_ (by simp [eL,ib,kN,cm,hl])⟩
 unfold aF
 simp only[hl]
 exact⟨χ,ψ,T,hT,rfl⟩
theorem Y_ (R:φ) (T:ML) (I Q:ML) (L:dx) (hT:bG T R.t) (hl:R.ld=some L) (hI:MB I L.ins) (hQ:MB Q L.dR) (hR:c8 R) (K:V->KB->Prop) (hK:∀ kb',aF R kb'->K (.υ [ξ (eL R),ξ (ib R),ξ (kN R)]) kb'):dK [false,true,true,true,true,true,false,true,true,true,true,false,false,false,false,true,false,true,true,true,true,true] oS [ac 0 0] [cR R (ai T) (ξ true) (.mp 1) (.mp 2) (.ae (L.cur.map bn)) (.sl 3 0 (nO R)) (.sl 4 0 (nD R)),af I,af Q,rO R,rD R] (ed K):=by
 have fin:∀{kb'},aF R kb'->∀{r},r=(.υ [ξ (eL R),ξ (ib R),ξ (kN R)])->K r kb':=fun h r e=>e ▸ hK _ h
 refine abO R T I Q (L.cur.map bn) K fun f=>⟨R.v.mem,R.v.aL,rfl,rfl,⟨by have:=hR.vl;omega⟩,hI.b,rfl,⟨by simp [bP]⟩,fin ?_ (by simp [eL,ib,kN,cm,hl,qc hI,ba])⟩
 unfold aF
 simp only[hl]
 exact⟨I,Q,T,hI,hQ,hT,rfl⟩
def Ro:aH:=fun args kb K=>∃ R,args=[ac 0 0]/\aF R kb/\c8 R/\∀ kb',aF R kb'->K (.υ [ξ (eL R),ξ (ib R),ξ (kN R)]) kb'
set_option maxHeartbeats 4000000 in
theorem Xq:fw Tryz.prog 14 Ro:=Fl RB (fun args kb K h=>by
 obtain⟨R,rfl,hkb,hR,hK⟩:=h
 have gN:=hkb
 unfold aF at hkb
 split at hkb
 ·rename_i hl
  obtain⟨χ,ψ,T,hT,rfl⟩:=hkb
  exact⟨_,Za R T χ ψ hT hl hR K hK⟩
 ·rename_i L hl
  obtain⟨I,Q,T,hI,hQ,hT,rfl⟩:=hkb
  exact⟨_,Y_ R T I Q L hT hl hI hQ hR K hK⟩)
def ig (ep nu:Int) (c:List Int) (x:List L3):List Int:=aU ep++(aU nu++(bY (bT c)++bY (bb x)))
def du (R:φ):List Int:=ig R.ep R.nu R.c (fW R)
def CC:FuncId->Option dw
 | 38=>some ⟨[],dK [true,true,true,true,true,true,false,true,true,true,true,true,true,true,true,true,true,true,true,true,true,true] xh⟩
 | 39=>some ⟨[],dK [true,true,true,true,true,true,false,false,true,true,true,true,true,true,true,true,true,true,true,true,true,true] xF⟩
 |f=>tO f
noncomputable def uI:bM:=dF Tryz.prog CC aM 10
abbrev Fz (me id:Int) (bl:Bool) (ep nu:Int) (c:List Int) (M:ML):KO:=.cells [.int Z me,.int Z id,ξ bl,ξ false,.int Z ep,.int Z nu,bc 128 (aK θ c),ai M,.int Z 0,.int Z 0,.int Z 0,an (.sl 1 []),an (.sl 1 []),ξ false,γ (.map none),γ (.map none),.ae none,.int Z 0,ξ false,.int Z 0,.sl 1 0 0,.sl 2 0 0]
def Bi:aH:=fun args kb K=>match args,kb with
 | [.int Z me,.int Z id,ξ bl],[]=>K (ac 0 0) [Fz me id bl 0 0 ki [],ζ 107 5 [],ζ 70 7 []]
 |_,_=>False
def lF (l:List Int) (lo:Nat) (e most:Int):Int×Nat×Int:=((ak (l.drop lo) e most).1,lo+(ak (l.drop lo) e most).2.1,(ak (l.drop lo) e most).2.2)
def nN (l:List Int) (lo:Nat) (e most:Int):List Int×Nat×Int:=((bp (l.drop lo) e most).1,lo+(bp (l.drop lo) e most).2.1,(bp (l.drop lo) e most).2.2)
structure mq (A:List (List D)) (h lo:Nat) (l:List Int):Prop where
 e:A=ints θ l
 h:h=l.length
 lo:lo<=l.length
 b:bm l
 m:l.length<=140737488355328
def BK:aH:=fun args kb K=>match args,kb with
 | [ac 0 0,.int Z most],[ω [.sl 1 lo h,.int Z e],ζ 5 1 A]=>∃ l:List Int,mq A h lo l/\
  ∀ v p e',lF l lo e most=(v,p,e')->K (.int Z v) [ω [.sl 1 p l.length,.int Z e'],ζ 5 1 (ints θ l)]
 |_,_=>False
def BL:aH:=fun args kb K=>match args,kb with
 | [ac 0 0,.int Z most],[ω [.sl 1 lo h,.int Z e],ζ 5 1 A]=>∃ l:List Int,mq A h lo l/\
  ∀ t p e',nN l lo e most=(t,p,e')->K (.sl 2 0 t.length) [ω [.sl 1 p l.length,.int Z e'],ζ 5 1 (ints θ l),ζ 5 1 (ints θ t)]
 |_,_=>False
def BI:aH:=fun args kb K=>match args,kb with
 | [ac 0 0],[ω [.sl 1 lo h,.int Z e],ζ 5 1 A]=>∃ l:List Int,mq A h lo l/\
  ∀ e',fe (l.drop lo) e=e'->K (.int Z e') [ω [.sl 1 lo l.length,.int Z e'],ζ 5 1 (ints θ l)]
 |_,_=>False
def E9:FuncId->Option dw
 | 22=>some ⟨[],Bi⟩
 | 31=>some ⟨[],BK⟩
 | 32=>some ⟨[],BL⟩
 | 35=>some ⟨[],BI⟩
 | 30=>some ⟨[.fp 1],xu⟩
 | 33=>some ⟨[.eB 1],uB⟩
 | 34=>some ⟨[.eB 1],xe⟩
 |_=>none
noncomputable def Ja:bM:=dF Tryz.prog E9 aM 10
abbrev JG:=fun(R:φ) (T:ML) (iG:(List Int)->_) (K:V->KB->Prop)=>(
 ∃(y1:List Int),[]=ints θ y1/\
 0=y1.length/\
 y1.length<=10000000/\
 e_ R.ep/\
 ∃(y2:List Int),ints θ (y1++aU R.ep)=ints θ y2/\
 (y1++aU R.ep).length=y2.length/\
 y2.length<=10000000/\
 e_ R.nu/\
 ∀(y3:Nat->
 Value),∃(y4:List Int),aK θ R.c=aK θ y4/\
 y4.length=128/\
 (∀(y5:Int),ct y5 y4->
 0<=y5/\
 y5<256)/\
 bu y3 [0,1,2,3,4,5,7,8,9,10,11,12,13,14,15,16,17,18,19,20,21]/\
 (132<=(ints θ (bT y4)).length/\
 True)/\
 ∃(y6:List Int),∃(y7:List Int),ints θ (y2++aU R.nu)=ints θ y6/\
 ν 0 (ah 132 (ints θ (bT y4)))=ints θ y7/\
 (y2++aU R.nu).length=y6.length/\
 y6.length<=1000000/\
 y7.length<=1000000/\
 lg (ints θ (y6++bY y7)).flatten/\
 ∀(y8:Nat->
 Value),∃(y9:List L3),bG T y9/\
 bu y8 [0,1,2,3,4,5,8,9,10,11,12,13,14,15,16,17,18,19,20,21]/\
 ((bb y9).length<=(ints θ (bb y9)).length/\
 True)/\
 ∃(cq:List Int),∃(b_:List Int),ints θ (y6++bY y7)=ints θ cq/\
 ν 0 (ah (bb y9).length (ints θ (bb y9)))=ints θ b_/\
 (y6++bY y7).length=cq.length/\
 cq.length<=1000000/\
 b_.length<=1000000/\
 lg (ints θ (cq++bY b_)).flatten/\
 ∃(ca:List Int),ints θ (cq++bY b_)=ints θ ca/\
 (cq++bY b_).length=ca.length/\
 ca.length<=1000000/\
 ca.length<=(ints θ ca).length/\
 K (an (π 1 (ν 0 (ah ca.length (ints θ ca))))) (iG y4)
 :Prop)
theorem aa_ (R:φ) (T:ML) (χ ψ:Value) (K:V->KB->Prop) (ay:
 JG R T (fun y4=>[cS R (δ Z R.nu) (bc 128 (aK θ y4)) (ξ R.ch) (ai T) (ξ false) (γ χ) (γ ψ) (aG none) (ε 1 0 (nO R)) (ε 2 0 (nD R)),rO R,rD R]) K
 ):aO Tryz.prog uI (aM 11) 11 [ac 0 0] [cR R (ai T) (ξ false) (γ χ) (γ ψ) (.ae none) (.sl 1 0 (nO R)) (.sl 2 0 (nD R)),rO R,rD R] (iF [.eB 1] (ed K)):=by apply Eq.mp (a:=ay);kernel_rfl
theorem aa9 (R:φ) (T:ML) (I Q:ML) (u:Option (List D)) (K:V->KB->Prop) (ay:
 JG R T (fun y4=>[cS R (δ Z R.nu) (bc 128 (aK θ y4)) (ξ R.ch) (ai T) (ξ true) (aV 1) (aV 2) (aG u) (ε 3 0 (nO R)) (ε 4 0 (nD R)),af I,af Q,rO R,rD R]) K
 ):aO Tryz.prog uI (aM 11) 11 [ac 0 0] [cR R (ai T) (ξ true) (.mp 1) (.mp 2) (.ae u) (.sl 3 0 (nO R)) (.sl 4 0 (nD R)),af I,af Q,rO R,rD R] (iF [.eB 1] (ed K)):=by apply Eq.mp (a:=ay);kernel_rfl
theorem abU (me id:Int) (bl:Bool) (K:V->KB->Prop) (ay:
 K (ac 0 0) [ω [δ Z me,δ Z id,ξ bl,ξ false,δ Z 0,δ Z 0,bc 128 (cQ 128 (η (κ θ 0))),ai [],δ Z 0,δ Z 0,δ Z 0,an (π 1 []),an (π 1 []),ξ false,γ (gr none),γ (gr none),aG none,δ Z 0,ξ false,δ Z 0,ε 1 0 0,ε 2 0 0],ζ 107 5 [],ζ 70 7 []]
 ):aO Tryz.prog X0 (aM 22) 22 [.int Z me,.int Z id,ξ bl] [] (eX [.rf 0 138 1,.rf 0 139 1,.cell 0 147 107 5,.cell 0 148 70 7,.mG 0 134 [Z] false true 2,.ot 0 143] K):=by apply Eq.mp (a:=ay);kernel_rfl
theorem abR (me id:Int) (l:List Int) (K:V->KB->Prop) (ay:
 let aq:=(ar [γ (Value.pointer none),ξ false]);let bB:=bc 128 (cQ 128 (η (κ θ 0)));(ints θ l).length<=140737488355328/\
 ∃(y1:List Int),mq (ints θ l) (ints θ l).length 0 y1/\
 ∀(y2:Int) (y3:Nat) (y4:Int),lF y1 0 0 1099511627776=(y2,y3,y4)->
 ∃(y5:List Int),mq (ints θ y1) y1.length y3 y5/\
 ∀(y6:Int) (y7:Nat) (y8:Int),lF y5 y3 y4 1099511627776=(y6,y7,y8)->
 ∃(y9:List Int),mq (ints θ y5) y5.length y7 y9/\
 ∀(cq:List Int) (b_:Nat) (ca:Int),nN y9 y7 y8 (↑(ints θ l).length:Int)=(cq,b_,ca)->
 ∃(cf:List Int),mq (ints θ y9) y9.length b_ cf/\
 ∀(cE:List Int) (cj:Nat) (eZ:Int),nN cf b_ ca (↑(ints θ l).length:Int)=(cE,cj,eZ)->
 cq.length<=(ints θ cq).length/\
 ∃(cJ:List Int),ν 0 (ah cq.length (ints θ cq))=ints θ cJ/\
 (∀(eu:Int),ct eu cJ->
 0<=eu/\
 eu<256)/\
 cJ.length<=900000/\
 (∀(eF:List Int),em cJ=some eF->
 eF.length=128->
 cE.length<=(ints θ cE).length/\
 ∃(eS:List Int),ν 0 (ah cE.length (ints θ cE))=ints θ eS/\
 (∀(dO:Int),ct dO eS->
 0<=dO/\
 dO<256)/\
 eS.length<=140737488355328/\
 (((∃(eG:List L3),fx eG/\
 eS=bb eG)->
 False)->
 ∃(gH:List Int),mq (ints θ cf) cf.length cj gH/\
 ∀(fq:Int),fe (ν cj gH) eZ=fq->
 ((fq != 0)=true->
 K aq [])/\
 ((fq != 0)=false->
 (false=true->
 K aq [])/\
 (false=false->
 (true=true->
 K aq [])/\
 (true=false->
 γ (gr none)=γ (gr none)/\
 K (ar [ac 0 0,ξ true]) [ω [δ Z me,δ Z id,ξ false,ξ false,δ Z y2,δ Z y6,bc 128 (aK θ eF),γ (gr none),δ Z 0,δ Z 0,δ Z 0,an (π 1 []),an (π 1 []),ξ false,γ (gr none),γ (gr none),aG none,δ Z 0,ξ false,δ Z 0,ε 1 0 0,ε 2 0 0],ζ 107 5 [],ζ 70 7 []]))))/\
 ∀(dY:List L3) (cU:ML),bG cU dY->
 eS=bb dY->
 ∃(dH:List Int),mq (ints θ cf) cf.length cj dH/\
 ∀(dc:Int),fe (ν cj dH) eZ=dc->
 ((dc != 0)=true->
 K aq [])/\
 ((dc != 0)=false->
 (false=true->
 K aq [])/\
 (false=false->
 (false=true->
 K aq [])/\
 (false=false->
 K (ar [ac 0 0,ξ true]) [ω [δ Z me,δ Z id,ξ false,ξ false,δ Z y2,δ Z y6,bc 128 (aK θ eF),ai cU,δ Z 0,δ Z 0,δ Z 0,an (π 1 []),an (π 1 []),ξ false,γ (gr none),γ (gr none),aG none,δ Z 0,ξ false,δ Z 0,ε 1 0 0,ε 2 0 0],ζ 107 5 [],ζ 70 7 []]/\
 K (ar [ac 0 0,ξ true]) [ω [δ Z me,δ Z id,ξ false,ξ false,δ Z y2,δ Z y6,bc 128 (aK θ eF),ai cU,δ Z 0,δ Z 0,δ Z 0,an (π 1 []),an (π 1 []),ξ false,γ (gr none),γ (gr none),aG none,δ Z 0,ξ false,δ Z 0,ε 1 0 0,ε 2 0 0],ζ 107 5 [],ζ 70 7 []]))))/\
 ((∀(iR:List Int),em cJ=some iR->
 iR.length=128->
 False)->
 cE.length<=(ints θ cE).length/\
 ∃(gj:List Int),ν 0 (ah cE.length (ints θ cE))=ints θ gj/\
 (∀(di:Int),ct di gj->
 0<=di/\
 di<256)/\
 gj.length<=140737488355328/\
 (((∃(iS:List L3),fx iS/\
 gj=bb iS)->
 False)->
 ∃(ji:List Int),mq (ints θ cf) cf.length cj ji/\
 ∀(iT:Int),fe (ν cj ji) eZ=iT->
 ((iT != 0)=true->
 K aq [])/\
 ((iT != 0)=false->
 (true=true->
 K aq [])/\
 (true=false->
 (true=true->
 K aq [])/\
 (true=false->
 γ (gr none)=γ (gr none)/\
 K (ar [ac 0 0,ξ true]) [ω [δ Z me,δ Z id,ξ false,ξ false,δ Z y2,δ Z y6,bB,γ (gr none),δ Z 0,δ Z 0,δ Z 0,an (π 1 []),an (π 1 []),ξ false,γ (gr none),γ (gr none),aG none,δ Z 0,ξ false,δ Z 0,ε 1 0 0,ε 2 0 0],ζ 107 5 [],ζ 70 7 []]))))/\
 ∀(dC:List L3) (lN:ML),bG lN dC->
 gj=bb dC->
 ∃(k_:List Int),mq (ints θ cf) cf.length cj k_/\
 ∀(iU:Int),fe (ν cj k_) eZ=iU->
 ((iU != 0)=true->
 K aq [])/\
 ((iU != 0)=false->
 (true=true->
 K aq [])/\
 (true=false->
 (false=true->
 K aq [])/\
 (false=false->
 K (ar [ac 0 0,ξ true]) [ω [δ Z me,δ Z id,ξ false,ξ false,δ Z y2,δ Z y6,bB,ai lN,δ Z 0,δ Z 0,δ Z 0,an (π 1 []),an (π 1 []),ξ false,γ (gr none),γ (gr none),aG none,δ Z 0,ξ false,δ Z 0,ε 1 0 0,ε 2 0 0],ζ 107 5 [],ζ 70 7 []]/\
 K (ar [ac 0 0,ξ true]) [ω [δ Z me,δ Z id,ξ false,ξ false,δ Z y2,δ Z y6,bB,ai lN,δ Z 0,δ Z 0,δ Z 0,an (π 1 []),an (π 1 []),ξ false,γ (gr none),γ (gr none),aG none,δ Z 0,ξ false,δ Z 0,ε 1 0 0,ε 2 0 0],ζ 107 5 [],ζ 70 7 []]))))
 ):aO Tryz.prog Ja (aM 10) 10 [.int Z me,.int Z id,an (.sl 1 (ints θ l))] [] K:=by apply Eq.mp (a:=ay);kernel_rfl
theorem xV {a b:List Int} (ha:bm a) (hb:bm b):bm (a++b):=fun c hc=>(gl.1 hc).elim (ha c) (hb c)
theorem Nw {l:List Int} (hb:bm l) {lo:Nat} {e m v e':Int} {p:Nat} (hlo:lo<=l.length) (h:lF l lo e m=(v,p,e')):p<=l.length:=by
 have:=r7 hb (p:=(lo,e)) hlo m
 unfold lF at h
 simp only[Prod.mk.injEq]at h
 obtain⟨-,h2,-⟩:=h
 rw[<- h2];exact this
theorem FN {l:List Int} (hb:bm l) {lo:Nat} {e m v:Int} {p:Nat} (hm:0<=m) (h:lF l lo e m=(v,p,0)):e=0/\l.drop lo=aU v++l.drop p/\0<=v/\v<=m:=by
 unfold lF at h
 simp only[Prod.mk.injEq]at h
 obtain⟨h1,h2,h3⟩:=h
 have hs:(gd l (lo,e) m).2=0:=h3
 have k1:=tI hs
 have k2:=vP hb hs
 have k3:=wb (l:=l.drop lo) hm e
 refine⟨k1,?_,by rw[<- h1];exact k3.2,by rw[<- h1];exact k3.1⟩
 rw[<- h1,<- h2]
 exact k2
theorem Nv {pre rest:List Int} {v m:Int} (h0:0<=v) (hm:v<=m) (h:m<=9223372036854775807):lF (pre++(aU v++rest)) pre.length 0 m=(v,(pre++aU v).length,0):=by
 have:=vO (pre:=pre) (rest:=rest) h0 (by omega) hm
 unfold gd iw at this
 simp only[Prod.mk.injEq]at this
 unfold lF
 rw[this.2,this.1.1,this.1.2]
theorem Zh {l:List Int} {e most:Int} (h:e≠0):bp l e most=([],0,e):=by
 unfold bp
 rw[zT h]
 simp [h]
theorem Zg {l:List Int} (hb:bm l) (e m:Int):(bp l e m).1.length<=l.length/\(bp l e m).2.1<=l.length/\bm (bp l e m).1:=by
 have k:=(wc hb e m).2.2
 unfold bp
 split
 ·split
  ·exact⟨bF _,k,fun c hc=>by cases hc⟩
  ·rename_i h2
   rw[fh]at h2
   refine⟨by rw[cW,fh];omega,by simp only;omega,bm.take (nW hb _) _⟩
 ·exact⟨bF _,k,fun c hc=>by cases hc⟩
theorem Qn {l:List Int} (hb:bm l) {lo:Nat} {e m e':Int} {t:List Int} {p:Nat} (hlo:lo<=l.length) (h:nN l lo e m=(t,p,e')):p<=l.length/\t.length<=l.length/\bm t:=by
 have:=Zg (nW hb lo) e m
 rw[fh]at this
 unfold nN at h
 simp only[Prod.mk.injEq]at h
 obtain⟨h1,h2,-⟩:=h
 rw[<- h1,<- h2]
 exact⟨by omega,by omega,this.2.2⟩
theorem Qo {l:List Int} (hb:bm l) {lo:Nat} {e m:Int} {t:List Int} {p:Nat} (hm:0<=m) (h:nN l lo e m=(t,p,0)):e=0/\l.drop lo=bY t++l.drop p:=by
 unfold nN at h
 simp only[Prod.mk.injEq]at h
 obtain⟨h1,h2,h3⟩:=h
 have he:e=0:=Classical.byContradiction fun f=>by
  rw[Zh f]at h3;exact f h3
 subst he
 refine⟨rfl,?_⟩
 unfold bp at h1 h2 h3
 split at h3
 ·rename_i hn
  rw[if_pos hn]at h1 h2
  split at h3
  ·cases h3
  ·rename_i hl
   rw[if_neg hl]at h1 h2
   obtain⟨-,k1,k2,-⟩:=FN (lo:=lo) (e:=0) (m:=m) (v:=(ak (l.drop lo) 0 m).1) (p:=lo+(ak (l.drop lo) 0 m).2.1) hb hm (by unfold lF;rw[hn])
   simp only at h1 h2
   have hlen:(t.length:Int)=(ak (l.drop lo) 0 m).1:=by
    rw[<- h1,cW]
    omega
   unfold bY
   rw[hlen,dQ]
   have e2:t++l.drop p=l.drop (lo+(ak (l.drop lo) 0 m).2.1):=by
    rw[<- h1,<- h2,<- fT,<- List.drop_drop,<- List.drop_drop,List.take_append_drop]
   rw[e2]
   exact k1
 ·rename_i hn
  exact absurd h3 hn
theorem Qm {pre rest b:List Int} {m:Int} (hm:(b.length:Int)<=m) (h:m<=9223372036854775807):nN (pre++(bY b++rest)) pre.length 0 m=(b,(pre++bY b).length,0):=by
 unfold nN
 rw[List.drop_left,OU hm (by omega),bw]
structure jA (l:List Int) (ep nu:Int) (c:List Int) (x:List L3):Prop where
 e:l=ig ep nu c x
 e0:0<=ep
 e1:ep<=1099511627776
 n0:0<=nu
 n1:nu<=1099511627776
 cl:c.length=128
 x:fx x
structure IH (l:List Int) (v v1:Int) (t t1:List Int) (e:Int):Prop where
 back:e=0->∀ c x,t=bT c->c.length=128->t1=bb x->fx x->jA l v v1 c x
 fwd:∀ ep nu c x,jA l ep nu c x->v=ep/\v1=nu/\t=bT c/\t1=bb x/\e=0
theorem OC {l:List Int} (hb:bm l) (hl:l.length<=900000) {v v1:Int} {t t1:List Int} {p p1 p2 p3:Nat} {e e1 e2 e3 e4:Int} (h1:lF l 0 0 1099511627776=(v,p,e)) (h2:lF l p e 1099511627776=(v1,p1,e1)) (h3:nN l p1 e1 l.length=(t,p2,e2)) (h4:nN l p2 e2 l.length=(t1,p3,e3)) (h5:fe (l.drop p3) e3=e4):IH l v v1 t t1 e4:=by
 refine⟨fun h c x ht hc ht1 hx=>?_,fun ep nu c x hr=>?_⟩
 ·subst h
  obtain⟨rfl,q5⟩:=OT h5
  obtain⟨rfl,q4⟩:=Qo hb (by omega) h4
  obtain⟨rfl,q3⟩:=Qo hb (by omega) h3
  obtain⟨rfl,q2,k1,k2⟩:=FN hb (by omega) h2
  obtain⟨-,q1,k3,k4⟩:=FN hb (by omega) h1
  refine⟨?_,k3,k4,k1,k2,hc,hx⟩
  rw[gK]at q1
  unfold ig
  rw[q1,q2,q3,q4,q5,fg,ht,ht1]
 ·obtain⟨rfl,a0,a1,a2,a3,a4,a5⟩:=hr
  have hlen:(bT c).length<=(ig ep nu c x).length/\(bb x).length<=(ig ep nu c x).length:=by
   unfold ig bY;simp only[bw];omega
  have b1:=Nv (pre:=[]) (rest:=aU nu++(bY (bT c)++bY (bb x))) a0 a1 (by omega)
  rw[jm]at b1
  have c1:lF (ig ep nu c x) 0 0 1099511627776=(ep,([]++aU ep).length,0):=b1
  rw[c1]at h1
  simp only[Prod.mk.injEq]at h1
  obtain⟨rfl,rfl,rfl⟩:=h1
  have b2:=Nv (pre:=[]++aU ep) (rest:=bY (bT c)++bY (bb x)) a2 a3 (by omega)
  have c2:lF (ig ep nu c x) ([]++aU ep).length 0 1099511627776=(nu,([]++aU ep++aU nu).length,0):=b2
  rw[c2]at h2
  simp only[Prod.mk.injEq]at h2
  obtain⟨rfl,rfl,rfl⟩:=h2
  have b3:=Qm (pre:=[]++aU ep++aU nu) (b:=bT c) (rest:=bY (bb x)) (m:=((ig ep nu c x).length:Int)) (by omega) (by omega)
  have r3:[]++aU ep++aU nu++(bY (bT c)++bY (bb x))=ig ep nu c x:=by unfold ig;simp [dQ]
  rw[r3]at b3
  rw[b3]at h3
  simp only[Prod.mk.injEq]at h3
  obtain⟨rfl,rfl,rfl⟩:=h3
  have b4:=Qm (pre:=[]++aU ep++aU nu++bY (bT c)) (b:=bb x) (rest:=[]) (m:=((ig ep nu c x).length:Int)) (by omega) (by omega)
  have r4:[]++aU ep++aU nu++bY (bT c)++(bY (bb x)++[])=ig ep nu c x:=by unfold ig;simp [dQ]
  rw[r4]at b4
  rw[b4]at h4
  simp only[Prod.mk.injEq]at h4
  obtain⟨rfl,rfl,rfl⟩:=h4
  refine⟨rfl,rfl,rfl,rfl,?_⟩
  rw[<- h5]
  have r5:ig ep nu c x=[]++aU ep++aU nu++bY (bT c)++bY (bb x):=by rw[<- r4,fg]
  rw[r5,List.drop_length]
  rfl
theorem O5 (ep nu:Int) {c:List Int} (hc:c.length=128) {x:List L3} (hx:x.length<=32):(ig ep nu c x).length<=2000:=by
 have h1:=iL ep
 have h2:=iL nu
 have h3:=pQ (bT c)
 have h4:=pQ (bb x)
 have h5:=sj hx x.length
 rw[qN]at h5
 rw[mO,hc]at h3
 unfold ig;simp only[bw];omega
theorem Hf {x:List L3} (h:fx x):bm (bb x):=by
 unfold bb fL
 refine xV (nC (by have:=h.len;omega)) fun c hc=>?_
 simp only[List.mem_flatten,fH]at hc
 obtain⟨_,⟨p,hp,rfl⟩,hc⟩:=hc
 have hr:=h.rg p hp
 unfold k8 at hc
 simp only[gl]at hc
 rcases hc with (hc | hc) | hc
 ·exact nC (by omega) c hc
 ·exact nC (by omega) c hc
 ·exact nC (by omega) c hc
theorem O4 {ep nu:Int} {c:List Int} {x:List L3} (h1:ep<=9223372036854775807) (h2:nu<=9223372036854775807) (hc:c.length=128) (hb:bm c) (hx:fx x):bm (ig ep nu c x):=by
 have h5:=sj hx.len x.length
 rw[qN]at h5
 exact xV (nC h1) (xV (nC h2) (xV (Ay (Ae hb) (by rw[mO];omega)) (Ay (Hf hx) (by omega))))
theorem XA:aT Tryz.prog 31 BK:=fun args kb K h=>NP args kb K (by
 unfold BK at h
 unfold xz
 split at h<;>try exact h.elim
 obtain⟨l,h1,h2⟩:=h
 exact⟨l,h1.e,h1.h,h1.lo,h1.b,h1.m,h2 _ _ _ rfl⟩)
theorem Yi:aT Tryz.prog 32 BL:=fun args kb K h=>NW args kb K (by
 unfold BL at h
 unfold xA
 split at h<;>try exact h.elim
 obtain⟨l,h1,h2⟩:=h
 exact⟨l,h1.e,h1.h,h1.lo,h1.b,h1.m,h2 _ _ _ rfl⟩)
theorem W_:aT Tryz.prog 35 BI:=fun args kb K h=>NJ args kb K (by
 unfold BI at h
 unfold xy
 split at h<;>try exact h.elim
 obtain⟨l,h1,h2⟩:=h
 exact⟨l,h1.e,h1.h,h2 _ rfl⟩)
theorem SG:dE Tryz.prog CC:=fun f k h=>by
 unfold CC at h
 split at h
 ·cases h;exact eK NE _
 ·cases h;exact eK NV _
 ·exact zR _ _ h
theorem IX:bW Tryz.prog uI:=dI mixed SG aM 10
theorem NO:aT Tryz.prog 22 Bi:=GV f_ mixed [.rf 0 138 1,.rf 0 139 1,.cell 0 147 107 5,.cell 0 148 70 7,.mG 0 134 [Z] false true 2,.ot 0 143] (fun args kb K h=>by
 unfold Bi at h;split at h<;>try exact h.elim
 exact⟨_,abU _ _ _ K h⟩)
theorem Wa:dE Tryz.prog E9:=fun f k h=>by
 unfold E9 at h
 split at h
 ·cases h;exact NO
 ·cases h;exact XA
 ·cases h;exact Yi
 ·cases h;exact W_
 ·cases h;exact NR
 ·cases h;exact FV
 ·cases h;exact NN
 ·cases h
theorem RT:bW Tryz.prog Ja:=dI mixed Wa aM 10
def IJ:aH:=fun args kb K=>match args,kb with
 | [.int Z me,.int Z id,an (.sl 1 B)],[]=>∃ l,B=ints θ l/\bm l/\l.length<=900000/\
  ((¬ ∃ ep nu c x,jA l ep nu c x)->K (.υ [γ (.pointer none),ξ false]) [])/\
  ∀ ep nu c x M,jA l ep nu c x->bG M x->K (.υ [ac 0 0,ξ true]) [Fz me id false ep nu c M,ζ 107 5 [],ζ 70 7 []]
 |_,_=>False
theorem X4:aT Tryz.prog 10 IJ:=eM RT mixed (fun args kb K h=>by
 unfold IJ at h;split at h<;>try exact h.elim
 obtain⟨l,rfl,hb,hl,hno,h1⟩:=h
 refine⟨_,abR _ _ l K ?_⟩
 have hk:∀{lo:Nat},lo<=l.length->mq (ints θ l) l.length lo l:=fun h=>⟨rfl,rfl,h,hb,by omega⟩
 have tk:∀ t:List Int,ν 0 (ah t.length (ints θ t))=ints θ t:=fun t=>by rw[gK,fI (by rw[be];omega)]
 simp only[be]
 refine⟨by omega,l,hk (bF _),fun v p e q1=>?_⟩
 have b1:=Nw hb (bF _) q1
 refine⟨l,hk b1,fun v1 p1 e1 q2=>?_⟩
 have b2:=Nw hb b1 q2
 refine⟨l,hk b2,fun t p2 e2 q3=>?_⟩
 have b3:=Qn hb b2 q3
 refine⟨l,hk b3.1,fun t1 p3 e3 q4=>?_⟩
 have b4:=Qn hb b3.1 q4
 have fin:∀ e4,fe (l.drop p3) e3=e4->IH l v v1 t t1 e4:=fun e4 q5=>OC hb hl q1 q2 q3 q4 q5
 refine⟨aE _,t,tk t,b3.2.2,by omega,fun m hm yO=>⟨aE _,t1,tk t1,b4.2.2,by omega,fun Ep=>⟨l,hk b4.1,fun e4 q5=>?_⟩,fun x M hT yU=>⟨l,hk b4.1,fun e4 q5=>?_⟩⟩,fun hnm=>?_⟩
 ·have no:K (.υ [γ (.pointer none),ξ false]) []:=hno fun⟨ep,nu,c,x,hr⟩=>by
   obtain⟨-,-,-,k4,-⟩:=(fin e4 q5).fwd _ _ _ _ hr
   exact Ep ⟨x,hr.x,k4⟩
  exact⟨fun _=>no,fun _=>⟨fun q=>(by cases q),fun _=>⟨fun _=>no,fun q=>(by cases q)⟩⟩⟩
 ·have F:=fin e4 q5
  refine⟨fun hne=>hno fun⟨ep,nu,c,x,hr⟩=>?_,fun he=>⟨fun q=>(by cases q),fun _=>⟨fun q=>(by cases q),fun _=>?_⟩⟩⟩
  ·obtain⟨-,-,-,-,k⟩:=F.fwd _ _ _ _ hr
   rw[k]at hne;simp at hne
  ·have he:e4=0:=by simpa using he
   have k:=h1 v v1 m x M (F.back he m x (zL hm) yO yU hT.ok) hT
   exact⟨k,k⟩
 ·have no:K (.υ [γ (.pointer none),ξ false]) []:=hno fun⟨ep,nu,c,x',hr⟩=>by
   obtain⟨-,-,k3,-,-⟩:=(fin _ rfl).fwd _ _ _ _ hr
   exact hnm c (by rw[k3,zK]) hr.cl
  exact⟨aE _,t1,tk t1,b4.2.2,by omega,fun _=>⟨l,hk b4.1,fun e4 q5=>⟨fun _=>no,fun _=>⟨fun _=>no,fun q=>(by cases q)⟩⟩⟩,fun x M hT yU=>⟨l,hk b4.1,fun e4 q5=>⟨fun _=>no,fun _=>⟨fun _=>no,fun q=>(by cases q)⟩⟩⟩⟩)
def newR (me id:Int) (bl:Bool) (ep nu:Int) (c:List Int) (x:List L3):φ:=⟨me,id,ep,nu,0,0,bl,false,false,c,x,⟨0,0,0,[],[]⟩,none,[],[]⟩
theorem O6 (me id:Int) (bl:Bool) (ep nu:Int) (c:List Int) {x:List L3} {M:ML} (hM:bG M x):aF (newR me id bl ep nu c x) [Fz me id bl ep nu c M,ζ 107 5 [],ζ 70 7 []]:=by
 unfold aF newR
 exact⟨_,_,M,hM,rfl⟩
theorem Zx (me id:Int) (bl:Bool) (ep:Int) {nu:Int} {c:List Int} (x:List L3) (h0:0<=nu) (h1:nu<=2199023255552) (hc:c.length=128) (hb:bm c):c8 (newR me id bl ep nu c x):=
 ⟨hc,hb,h0,h1,bF _,bF _,bF _,fun o h=>by simp [newR,cm]at h⟩
theorem Y3 (R:φ) (T:ML) (χ ψ:Value) (hT:bG T R.t) (hl:R.ld=none) (hR:c8 R) (hE:e_ R.ep) (K:V->KB->Prop) (hK:∀ kb',aF R kb'->K (an (.sl 1 (ints θ (du R)))) kb'):aO Tryz.prog uI (aM 11) 11 [ac 0 0] [cR R (ai T) (ξ false) (γ χ) (γ ψ) (.ae none) (.sl 1 0 (nO R)) (.sl 2 0 (nD R)),rO R,rD R] (iF [.eB 1] (ed K)):=by
 have hN:e_ R.nu:=⟨by have:=hR.n1;omega⟩
 have e1:=pP (qJ hR.cl).symm
 have e2:=pP (l:=bb R.t) rfl
 have w1:=iL R.ep
 have w2:=iL R.nu
 have w3:=pQ (bT R.c)
 have w4:=pQ (bb R.t)
 have w5:=sj hT.len R.t.length
 rw[qN]at w5
 have w6:=qJ hR.cl
 refine aa_ R T χ ψ K ⟨[],rfl,rfl,bF _,hE,[]++aU R.ep,rfl,rfl,by rw[bw,jk];omega,hN,fun f=>⟨R.c,rfl,hR.cl,fun c h=>hR.cb c h,⟨by simp [bP]⟩,⟨by rw[be,w6];exact aE _,trivial⟩,[]++aU R.ep++aU R.nu,bT R.c,rfl,e1,rfl,by simp only[bw,jk];omega,by omega,⟨nG⟩,fun f=>⟨R.t,hT,⟨by simp [bP]⟩,⟨by rw[be];exact aE _,trivial⟩,[]++aU R.ep++aU R.nu++bY (bT R.c),bb R.t,rfl,e2,rfl,by simp only[bw,jk];omega,by omega,⟨nG⟩,_,rfl,rfl,by simp only[bw,jk];omega,by rw[be];exact aE _,?_⟩⟩⟩
 rw[pP rfl]
 have eb:[]++aU R.ep++aU R.nu++bY (bT R.c)++bY (bb R.t)=du R:=by
  unfold du ig fW;simp [dQ]
 rw[eb]
 refine hK _ ?_
 unfold aF
 simp only[hl]
 exact⟨χ,ψ,T,hT,rfl⟩
theorem Y2 (R:φ) (T:ML) (I Q:ML) (L:dx) (hT:bG T R.t) (hl:R.ld=some L) (hI:MB I L.ins) (hQ:MB Q L.dR) (hR:c8 R) (hE:e_ R.ep) (K:V->KB->Prop) (hK:∀ kb',aF R kb'->K (an (.sl 1 (ints θ (du R)))) kb'):aO Tryz.prog uI (aM 11) 11 [ac 0 0] [cR R (ai T) (ξ true) (.mp 1) (.mp 2) (.ae (L.cur.map bn)) (.sl 3 0 (nO R)) (.sl 4 0 (nD R)),af I,af Q,rO R,rD R] (iF [.eB 1] (ed K)):=by
 have hN:e_ R.nu:=⟨by have:=hR.n1;omega⟩
 have e1:=pP (qJ hR.cl).symm
 have e2:=pP (l:=bb R.t) rfl
 have w1:=iL R.ep
 have w2:=iL R.nu
 have w3:=pQ (bT R.c)
 have w4:=pQ (bb R.t)
 have w5:=sj hT.len R.t.length
 rw[qN]at w5
 have w6:=qJ hR.cl
 refine aa9 R T I Q (L.cur.map bn) K ⟨[],rfl,rfl,bF _,hE,[]++aU R.ep,rfl,rfl,by rw[bw,jk];omega,hN,fun f=>⟨R.c,rfl,hR.cl,fun c h=>hR.cb c h,⟨by simp [bP]⟩,⟨by rw[be,w6];exact aE _,trivial⟩,[]++aU R.ep++aU R.nu,bT R.c,rfl,e1,rfl,by simp only[bw,jk];omega,by omega,⟨nG⟩,fun f=>⟨R.t,hT,⟨by simp [bP]⟩,⟨by rw[be];exact aE _,trivial⟩,[]++aU R.ep++aU R.nu++bY (bT R.c),bb R.t,rfl,e2,rfl,by simp only[bw,jk];omega,by omega,⟨nG⟩,_,rfl,rfl,by simp only[bw,jk];omega,by rw[be];exact aE _,?_⟩⟩⟩
 rw[pP rfl]
 have eb:[]++aU R.ep++aU R.nu++bY (bT R.c)++bY (bb R.t)=du R:=by
  unfold du ig fW;simp [dQ]
 rw[eb]
 refine hK _ ?_
 unfold aF
 simp only[hl]
 exact⟨I,Q,T,hI,hQ,hT,rfl⟩
def Rj:aH:=fun args kb K=>∃ R,args=[ac 0 0]/\aF R kb/\c8 R/\e_ R.ep/\∀ kb',aF R kb'->K (an (.sl 1 (ints θ (du R)))) kb'
set_option maxHeartbeats 4000000 in
theorem WR:fw Tryz.prog 11 Rj:=Fo mixed [.eB 1] [] (fun args kb K h=>by
 obtain⟨R,rfl,hkb,hR,hE,hK⟩:=h
 have gN:=hkb
 unfold aF at hkb
 split at hkb
 ·rename_i hl
  obtain⟨χ,ψ,T,hT,rfl⟩:=hkb
  exact⟨_,_,IX,Y3 R T χ ψ hT hl hR hE K hK⟩
 ·rename_i L hl
  obtain⟨I,Q,T,hI,hQ,hT,rfl⟩:=hkb
  exact⟨_,_,IX,Y2 R T I Q L hT hl hI hQ hR hE K hK⟩)
structure fi (o:Op):Prop where
 b:bm o.b
 l:o.b.length<=900000
structure bz (R:φ):Prop where
 ok:c8 R
 tx:fx R.t
 om:∀ p∈R.out,jD p.m
 oc:∀ o,cm R=some o->fi o
structure iY (R R2:φ):Prop where
 i:bz R2
 o:R2.out.length<=R.out.length+1
 d:R2.done.length<=R.done.length+1
 me:R2.me=R.me
 id:R2.id=R.id
 v:R2.v=R.v
 ti:R2.ti=R.ti
theorem iY.refl {R:φ} (h:bz R):iY R R:=⟨h,Nat.le_succ _,Nat.le_succ _,rfl,rfl,rfl,rfl⟩
theorem aaB {x:List L3} (h:fx x):bG (x.map m7) x:=⟨List.Perm.refl _,h.inc,h.rg,h.len⟩
theorem Yr {x:List L3} {c n e:Int} (h:fx x) (h0:cz x c n e=0):fx (nI x c n e):=(Aw (aaB h) h0).ok
theorem MX {b:List Int} {x:List L3} (h:loadT b=some x):fx x/\b=bb x:=by
 unfold loadT at h
 split at h
 ·rename_i hex
  have hc:=hex.choose_spec
  simp only[bh.injEq]at h
  exact⟨h ▸ hc.1,h ▸ hc.2⟩
 ·cases h
theorem MS {b c:List Int} (h:jJ b=some c):c.length=128/\b=bT c:=by
 unfold jJ at h
 split at h
 ·rename_i c' hc
  split at h
  ·rename_i hl
   cases h
   exact⟨hl,zL hc⟩
  ·cases h
 ·cases h
theorem zy (kd:Int) (n:List Int):jD ⟨kd,n,[],[]⟩:=⟨fun c h=>(by cases h),bF _,fun y h=>(by cases h)⟩
theorem G3 {R:φ} (hI:bz R) (to:Int):jD (kD R to).m:=by
 have hx:fx (fW R):=hI.tx
 have hl:=sj hx.len (fW R).length
 rw[qN]at hl
 refine⟨Ae hI.ok.cb,by show(bT R.c).length<=_;rw[qJ hI.ok.cl];omega,fun y hy=>?_⟩
 have:y=bb (fW R):=by simpa [kD]using hy
 subst this
 exact⟨Hf hx,by omega⟩
theorem Lr {R:φ} {o:Op} (h:fi o) (to:Int):jD (jH R o to).m:=⟨h.b,h.l,fun y h=>(by cases h)⟩
theorem ua {R:φ} (h:bz R) (ho:R.out.length<100000) {to kd:Int} {n b:List Int} {l:List (List Int)} (hm:jD ⟨kd,R.id::R.ep::n,b,l⟩):iY R (gw R to kd n b l):=by
 refine⟨⟨⟨h.ok.cl,h.ok.cb,h.ok.n0,h.ok.n1,h.ok.vl,?_,h.ok.dl,h.ok.cr⟩,h.tx,fun p hp=>?_,h.oc⟩,?_,Nat.le_succ _,rfl,rfl,rfl,rfl⟩
 ·simp only[gw,bw,ko];omega
 ·simp only[gw,gl,gY]at hp
  rcases hp with hp | rfl
  ·exact h.om p hp
  ·exact hm
 ·simp only[gw,bw,ko];omega
theorem Nf {R:φ} (h:bz R) (ho:R.out.length<100000) (to:Int):iY R (oz R to):=ua h ho (zy _ _)
theorem aaj {R:φ} (h:bz R) (ho:R.out.length<100000) (to:Int):iY R (oE R to):=ua h ho (G3 h to)
theorem uo {R:φ} (h:bz R) (hd:R.done.length<100000):bz (gk R)/\(gk R).done.length<=R.done.length+1:=by
 have hl:(gk R).done.length<=R.done.length+1:=by
  unfold gk
  cases cm R<;>simp
 exact⟨⟨⟨h.ok.cl,h.ok.cb,h.ok.n0,h.ok.n1,h.ok.vl,h.ok.ol,by omega,fun o ho=>by simp [gk,cm]at ho⟩,h.tx,h.om,fun o ho=>by simp [gk,cm]at ho⟩,hl⟩
theorem Dw {R:φ} (h:bz R) (hd:R.done.length<100000):bz (fN R)/\(fN R).done.length<=R.done.length+1/\(fN R).out=R.out/\(fN R).me=R.me/\(fN R).id=R.id/\(fN R).v=R.v/\(fN R).ti=R.ti:=by
 unfold fN
 split
 ·rename_i L hl
  split
  ·rename_i o ho
   split
   ·exact⟨⟨⟨h.ok.cl,h.ok.cb,h.ok.n0,h.ok.n1,h.ok.vl,h.ok.ol,by simp;omega,fun o ho=>by simp [cm]at ho⟩,h.tx,h.om,fun o ho=>by simp [cm]at ho⟩,by simp,rfl,rfl,rfl,rfl,rfl⟩
   ·exact⟨h,Nat.le_succ _,rfl,rfl,rfl,rfl,rfl⟩
  ·exact⟨h,Nat.le_succ _,rfl,rfl,rfl,rfl,rfl⟩
 ·exact⟨h,Nat.le_succ _,rfl,rfl,rfl,rfl,rfl⟩
theorem AP {l:List Int} (h:l.any cM=false) {i:Nat}:0<=l.getD i 0/\l.getD i 0<=1099511627776:=by
 rw[List.any_eq_false]at h
 rw[kn]
 cases hi:l[i]? with
 |none=>simp
 |some x=>
  have:=h x (gm hi)
  simp only[cM,decide_eq_true_eq]at this
  simp only[Option.getD_some]
  omega
theorem aav {R:φ} (h:bz R) (ho:R.out.length<100000) (hd:R.done.length<100000) (fr:Int) {m:ei} (hm:jD m) (hw:m.n.any cM=false):iY R (iP R fr m):=by
 unfold iP
 split
 ·exact Nf h ho fr
 ·split
  ·rename_i c t hc ht
   obtain⟨k1,k2⟩:=uo h hd
   obtain⟨c1,c2⟩:=MS hc
   have cb:bm c:=fun x hx=>hm.b x (by rw[c2];unfold bT;exact lR _ hx)
   have n2:=AP hw (i:=2)
   have hY:bz {gk R with ep:=bV m 1,nu:=bV m 2,c:=c,t:=t,ch:=true }:=by
    refine⟨⟨c1,cb,n2.1,by have:=n2.2;show bV m 2<=_;unfold bV;omega,k1.ok.vl,k1.ok.ol,k1.ok.dl,fun o ho=>by simp [gk,cm]at ho⟩,(MX ht).1,k1.om,fun o ho=>by simp [gk,cm]at ho⟩
   have:=ua (to:=fr) (kd:=11) (n:=[bV m 2]) (b:=[]) (l:=[]) hY (by exact ho) (zy _ _)
   exact⟨this.i,this.o,k2,this.me,this.id,this.v,this.ti⟩
  ·exact iY.refl h
theorem KR {R R1:φ} (h:bz R1) (hd:R1.done.length<100000) (e1:R1.out=R.out) (e2:R1.done=R.done) (e3:R1.me=R.me) (e4:R1.id=R.id) (e5:R1.v=R.v) (e6:R1.ti=R.ti):iY R (fN R1):=by
 obtain⟨k1,k2,k3,k4,k5,k6,k7⟩:=Dw h hd
 exact⟨k1,by rw[k3,e1];omega,by rw[<- e2];exact k2,k4.trans e3,k5.trans e4,k6.trans e5,k7.trans e6⟩
theorem vF {R:φ} (h:bz R) {L:dx} (hl:R.ld=some L) (f g:Int->Bool):bz {R with ld:=some ⟨f,g,L.cur⟩ }:=by
 have hc:cm R=L.cur:=by unfold cm;rw[hl];rfl
 refine⟨⟨h.ok.cl,h.ok.cb,h.ok.n0,h.ok.n1,h.ok.vl,h.ok.ol,h.ok.dl,fun o ho=>h.ok.cr o (by rw[hc];exact ho)⟩,h.tx,h.om,fun o ho=>h.oc o (by rw[hc];exact ho)⟩
theorem aar {R:φ} (h:bz R) (hd:R.done.length<100000) (fr:Int) (m:ei):iY R (ik R fr m):=by
 unfold ik
 split
 ·exact iY.refl h
 ·rename_i L hl
  split
  ·exact iY.refl h
  ·split
   ·rename_i hc
    have:=vF h hl (mark L.ins fr true) L.dR
    rw[hc]at this
    exact⟨this,Nat.le_succ _,Nat.le_succ _,rfl,rfl,rfl,rfl⟩
   ·rename_i o hc
    have:=vF h hl (mark L.ins fr true) (mark L.dR fr true)
    rw[hc]at this
    exact KR this hd rfl rfl rfl rfl rfl rfl
theorem Yx {R:φ} (h:bz R) (hd:R.done.length<100000) (fr:Int) (m:ei):iY R (ia R fr m):=by
 unfold ia
 split
 ·exact iY.refl h
 ·rename_i L hl
  split
  ·exact iY.refl h
  ·rename_i o hc
   split
   ·have:=vF h hl L.ins (mark L.dR fr true)
    rw[hc]at this
    exact KR this hd rfl rfl rfl rfl rfl rfl
   ·exact iY.refl h
theorem Zs {R:φ} (h:bz R) (ho:R.out.length<100000) (hd:R.done.length<100000) (fr:Int) (m:ei):iY R (ic R fr m):=by
 unfold ic
 split
 ·exact iY.refl h
 ·rename_i L hl
  split
  ·obtain⟨k1,k2⟩:=uo h hd
   exact⟨k1,Nat.le_succ _,k2,rfl,rfl,rfl,rfl⟩
  ·split
   ·have h2:bz {R with lo:=true }:=⟨⟨h.ok.cl,h.ok.cb,h.ok.n0,h.ok.n1,h.ok.vl,h.ok.ol,h.ok.dl,h.ok.cr⟩,h.tx,h.om,h.oc⟩
    obtain⟨k1,k2⟩:=uo h2 hd
    exact⟨k1,Nat.le_succ _,k2,rfl,rfl,rfl,rfl⟩
   ·have:=aaj (vF h hl (mark L.ins fr false) L.dR) ho fr
    exact⟨this.i,this.o,this.d,this.me,this.id,this.v,this.ti⟩
theorem Pa {o:Op} (h:gg o=true):1<=o.kd/\o.kd<=4/\0<=o.bk/\o.bk<8/\0<=o.cl/\o.cl<=255/\1<=o.nm/\o.nm<=1099511627776/\(o.kd=1->o.b.length=16):=by
 unfold gg jv at h
 simp at h
 omega
theorem Ts {t:List L3} (h:fx t) (o:Op):fx (m6 t o):=by
 unfold m6
 split
 ·rename_i hp
  exact Yr h hp.2
 ·exact h
theorem Dc {R:φ} (h:bz R) {o:Op} (hr:gg o=true) (hb:bm o.b) (hn:R.nu<2199023255552):bz (iE R o):=by
 have k:=Pa hr
 have c1:=Kz (c:=R.c) h.ok.cl hr
 have c2:=Ky (kd:=o.kd) (bk:=o.bk) h.ok.cb hb
 have n0:=h.ok.n0
 exact⟨⟨c1,c2,by show 0<=R.nu+1;omega,by show R.nu+1<=_;omega,h.ok.vl,h.ok.ol,h.ok.dl,h.ok.cr⟩,Ts h.tx o,h.om,h.oc⟩
theorem YF {R:φ} (h:bz R) (ho:R.out.length<100000) (fr:Int) {m:ei} (hm:jD m) (hw:m.n.any cM=false):iY R (iN R fr m):=by
 unfold iN
 split
 ·exact ua h ho (zy _ _)
 ·split
  ·rename_i k
   obtain⟨_,k2,_,k4,_⟩:=k
   have n2:=AP hw (i:=2)
   have k2:m.n.getD 2 0=R.nu+1:=k2
   have hD:=Dc h (o:=zI m) k4 hm.b (by omega)
   have:=ua (to:=fr) (kd:=13) (n:=[R.nu+1]) (b:=[]) (l:=[]) hD (by exact ho) (zy _ _)
   exact⟨this.i,this.o,this.d,this.me,this.id,this.v,this.ti⟩
  ·exact Nf h ho fr
theorem Lc {R:φ} {fr:Int} {m:ei} (h:cw R fr m=true):m.n.any cM=false:=by
 unfold cw at h
 simp only[kE,Bool.not_eq_true']at h
 exact h.2
theorem Ul {R:φ} (h:bz R) (ho:R.out.length<100000) (hd:R.done.length<100000) (fr:Int) {m:ei} (hm:jD m):iY R (gu R fr m):=by
 unfold gu
 split
 ·exact iY.refl h
 ·rename_i hg
  have hw:=Lc (by simpa using hg)
  split
  ·exact aav h ho hd fr hm hw
  ·split
   ·exact aar h hd fr m
   ·split
    ·exact YF h ho fr hm hw
    ·split
     ·exact Yx h hd fr m
     ·exact Zs h ho hd fr m
theorem zN {R:φ} (h:bz R) {ps:List Post} (hp:∀ p∈ps,jD p.m) (hl:R.out.length+ps.length<=100000):bz {R with out:=R.out++ps }:=
 ⟨⟨h.ok.cl,h.ok.cb,h.ok.n0,h.ok.n1,h.ok.vl,by show(R.out++ps).length<=_;rw[bw];exact hl,h.ok.dl,h.ok.cr⟩,h.tx,fun p hm=>(gl.1 hm).elim (h.om p) (hp p),h.oc⟩
theorem Az {R:φ} (h:bz R) (n:Int):bz {R with ti:=n }:=⟨⟨h.ok.cl,h.ok.cb,h.ok.n0,h.ok.n1,h.ok.vl,h.ok.ol,h.ok.dl,h.ok.cr⟩,h.tx,h.om,h.oc⟩
theorem xX {R:φ} (h:bz R) (b:Bool):bz {R with ch:=b }:=⟨⟨h.ok.cl,h.ok.cb,h.ok.n0,h.ok.n1,h.ok.vl,h.ok.ol,h.ok.dl,h.ok.cr⟩,h.tx,h.om,h.oc⟩
theorem Oo {R:φ} (h:bz R):bz {R with out:=[] }:=⟨⟨h.ok.cl,h.ok.cb,h.ok.n0,h.ok.n1,h.ok.vl,bF _,h.ok.dl,h.ok.cr⟩,h.tx,fun p hp=>(by cases hp),h.oc⟩
theorem Dd {R:φ} (h:bz R):bz {R with done:=[] }:=⟨⟨h.ok.cl,h.ok.cb,h.ok.n0,h.ok.n1,h.ok.vl,h.ok.ol,bF _,h.ok.cr⟩,h.tx,h.om,h.oc⟩
theorem KD {R:φ} (h:bz R) {d:List Dn} (hl:R.done.length+d.length<=100000):bz {R with done:=R.done++d }:=⟨⟨h.ok.cl,h.ok.cb,h.ok.n0,h.ok.n1,h.ok.vl,h.ok.ol,by show(R.done++d).length<=_;rw[bw];exact hl,h.ok.cr⟩,h.tx,h.om,h.oc⟩
theorem aaG (R:φ) (L:dx) (k:Int):(jR R L k).length<=1:=by
 unfold jR
 split
 ·simp
 ·split
  ·split<;>simp
  ·simp
theorem Ho (R:φ) (L:dx):∀ l:List Int,(l.flatMap (jR R L)).length<=l.length
 | []=>by simp
 |a::l=>by
  have:=Ho R L l
  have:=aaG R L a
  rw[List.flatMap_cons,bw,io];omega
theorem aaH {R:φ} (h:bz R) {L:dx} (hl:R.ld=some L) (k:Int):∀ p∈jR R L k,jD p.m:=by
 unfold jR
 split
 ·intro p hp
  rw[gY]at hp;subst hp
  exact G3 h k
 ·split
  ·rename_i o ho
   split
   ·intro p hp
    rw[gY]at hp;subst hp
    exact Lr (h.oc o (by unfold cm;rw[hl];exact ho)) k
   ·intro p hp;cases hp
  ·intro p hp;cases hp
theorem aaL {R:φ} (h:bz R) (ho:R.out.length+(ba R).length<=100000):bz (fX R)/\(fX R).out.length<=R.out.length+(ba R).length:=by
 unfold fX
 split
 ·exact⟨Az h _,by simp⟩
 ·rename_i L hl
  have:=Ho R L (ba R)
  split
  ·refine⟨Az (zN h (fun p hp=>?_) (by omega)) _,by show(R.out++_).length<=_;rw[bw];omega⟩
   obtain⟨k,_,hk⟩:=List.mem_flatMap.1 hp
   exact aaH h hl k p hk
  ·exact⟨Az h _,by simp⟩
structure mu (n:Nat) (R R2:φ):Prop where
 i:bz R2
 o:R2.out.length<=R.out.length+n
 d:R2.done.length<=R.done.length+1
 me:R2.me=R.me
 id:R2.id=R.id
 ti:R2.ti=R.ti
theorem mu.refl {n:Nat} {R:φ} (h:bz R):mu n R R:=⟨h,Nat.le_add_right _ _,Nat.le_succ _,rfl,rfl,rfl⟩
theorem Sw {R:φ} (h:bz R) {L:dx} {o:Op} (hr:gg o=true) (ho:fi o) (hn:R.nu<2199023255552) (hout:R.out.length+(ba R).length<=100000) (hd:R.done.length<100000):mu (ba R).length R (lh R L o):=by
 have hD:=Dc h hr ho.b hn
 obtain⟨B,hB⟩:∃ B:φ,B={iE R o with ld:=some {L with dR:=fun _=>false,cur:=some o } }:=⟨_,rfl⟩
 have h1:bz B:=by
  subst hB
  exact⟨⟨hD.ok.cl,hD.ok.cb,hD.ok.n0,hD.ok.n1,hD.ok.vl,hD.ok.ol,hD.ok.dl,fun o' ho'=>by simp [cm]at ho';subst ho';exact hr⟩,hD.tx,hD.om,fun o' ho'=>by simp [cm]at ho';subst ho';exact ho⟩
 have e:lh R L o=fN {B with out:=B.out++(ba R).map (jH B o) }:=by
  have e0:ba B=ba R:=by subst hB;rfl
  have e9:lh R L o=fN ((ba B).foldl (fun r k=>vr r o k) B):=by subst hB;rfl
  rw[e9,tj,e0]
 have e1:B.out=R.out:=by subst hB;rfl
 have e2:B.done=R.done:=by subst hB;rfl
 have e3:B.me=R.me/\B.id=R.id/\B.ti=R.ti:=by subst hB;exact⟨rfl,rfl,rfl⟩
 rw[e]
 have h2:=zN h1 (ps:=(ba R).map (jH B o)) (fun p hp=>by
  obtain⟨k,_,rfl⟩:=fH.1 hp
  exact Lr ho k) (by rw[cg,e1];exact hout)
 obtain⟨k1,k2,k3,k4,k5,k6,k7⟩:=Dw h2 (by rw[e2];exact hd)
 exact⟨k1,by rw[k3];show(B.out++_).length<=_;rw[bw,cg,e1];exact aE _,by rw[<- e2];exact k2,k4.trans e3.1,k5.trans e3.2.1,k7.trans e3.2.2⟩
theorem PS {R:φ} (h:bz R) {o:Op} (ho:fi o) (hn:R.nu<2199023255552) (hout:R.out.length+(ba R).length<=100000) (hd:R.done.length<100000):mu (ba R).length R (eE R o).2:=by
 unfold eE
 split
 ·exact mu.refl h
 ·rename_i hr
  have hr:gg o=true:=by simpa using hr
  split
  ·exact mu.refl h
  ·rename_i L hl
   split
   ·exact mu.refl h
   ·split
    ·exact mu.refl h
    ·split
     ·rename_i e R1 hk
      split at hk
      ·unfold lA at hk
       split at hk
       ·cases hk
        exact⟨KD h (by simp;omega),Nat.le_add_right _ _,by simp,rfl,rfl,rfl⟩
       ·split at hk
        ·cases hk;exact mu.refl h
        ·split at hk
         ·cases hk
         ·cases hk;exact mu.refl h
      ·cases hk
     ·exact Sw h hr ho hn hout hd
def nv (R:φ) (w:Vw):φ:={gk R with v:=w,ep:=w.ve,ch:=R.ch || (R.ep != w.ve),ld:=some ⟨fun _=>false,fun _=>false,none⟩ }
theorem HE {R:φ} {w:Vw} (h:ee R w=false):gi R w=R:=if_pos h
theorem HC {R:φ} {w:Vw} (h:ee R w=true) (h2:fm R w=false):gi R w={gk R with v:=w }:=by
 unfold gi;rw[if_neg (by simp [h])];dsimp only;rw[if_pos h2]
theorem HD {R:φ} {w:Vw} (h:ee R w=true) (h2:fm R w=true):gi R w={nv R w with out:=R.out++(bA R.me w.mem w.aL).map (kD (nv R w)) }:=by
 have e:gi R w=(ba (nv R w)).foldl oE (nv R w):=by
  unfold gi;rw[if_neg (by simp [h])];dsimp only;rw[if_neg (by simp [h2])];rfl
 rw[e,G4];rfl
theorem MI {R:φ} (h:bz R) {w:Vw} (hw:w.mem.length+w.aL.length<=1000) (hd:R.done.length<100000):bz (nv R w)/\(nv R w).done.length<=R.done.length+1:=by
 obtain⟨k1,k2⟩:=uo h hd
 exact⟨⟨⟨k1.ok.cl,k1.ok.cb,k1.ok.n0,k1.ok.n1,hw,k1.ok.ol,k1.ok.dl,fun o ho=>by simp [nv,cm]at ho⟩,k1.tx,k1.om,fun o ho=>by simp [nv,cm]at ho⟩,k2⟩
theorem QL {R:φ} (h:bz R) {w:Vw} (hw:w.mem.length+w.aL.length<=1000) (hout:R.out.length+(bA R.me w.mem w.aL).length<=100000) (hd:R.done.length<100000):mu (bA R.me w.mem w.aL).length R (gi R w):=by
 cases hg:ee R w with
 |false=>rw[HE hg];exact mu.refl h
 |true=>
  obtain⟨k1,k2⟩:=uo h hd
  cases hl:fm R w with
  |false=>
   rw[HC hg hl]
   exact⟨⟨⟨k1.ok.cl,k1.ok.cb,k1.ok.n0,k1.ok.n1,hw,k1.ok.ol,k1.ok.dl,k1.ok.cr⟩,k1.tx,k1.om,k1.oc⟩,Nat.le_add_right _ _,k2,rfl,rfl,rfl⟩
  |true=>
   rw[HD hg hl]
   obtain⟨q1,q2⟩:=MI h hw hd
   have:=zN q1 (ps:=(bA R.me w.mem w.aL).map (kD (nv R w))) (fun p hp=>by
    obtain⟨k,_,rfl⟩:=fH.1 hp
    exact G3 q1 k) (by rw[cg];exact hout)
   refine⟨this,?_,q2,rfl,rfl,rfl⟩
   show(R.out++_).length<=_
   rw[bw,cg];exact aE _
theorem tF (me id:Int) (bl:Bool) (ep:Int) {nu:Int} {c:List Int} {x:List L3} (h0:0<=nu) (h1:nu<=2199023255552) (hc:c.length=128) (hb:bm c) (hx:fx x):bz (newR me id bl ep nu c x):=
 ⟨Zx me id bl ep x h0 h1 hc hb,hx,fun p hp=>(by cases hp),fun o ho=>by simp [newR,cm]at ho⟩
theorem HX:bm ki:=fun c hc=>by
 have:=List.eq_of_mem_replicate hc
 omega
end Go.Proofs.YtfcjngcnifdmnaaGreat
set_option linter.unusedSimpArgs false
set_option linter.unusedVariables false
namespace Vc
open Go
open Go.IntKind renaming i64->Z,u8->θ,u32->gq
open List renaming map->ι,drop->ν,take->ah,length_append->bw,getElem?_eq_getElem->bx,getElem?_eq_some_iff->bU,length_map->cg,Mem->ct,take_length->cN,replicate->cQ,length_take->cW,append_assoc->dQ,getElem?_append_right->ef,getElem?_append_left->eH,mem_cons->eP,append_nil->fg,length_drop->fh,getElem?_map->fG,mem_map->fH,take_of_length_le->fI,getElem?_set_ne->fR,mem_cons_of_mem->fS,mem_append->gl,mem_of_getElem?->gm,getElem?_eq_none->gA,getElem?_set_self->gB,length_set->gC,range->gD,drop_zero->gK,mem_singleton->gY,flatten_cons->im,length_cons->io,mem_cons_self->iA,getElem?_take_of_lt->jj,length_nil->jk,nil_append->jm,getElem?_drop->jB,map_append->jC,take_add_one->jY,ext_getElem?->km,getD_eq_getElem?_getD->kn,length_singleton->ko,eq_nil_of_length_eq_zero->kG,mem_append_left->lR,mem_filter->lS
open Go.Value renaming int->κ,slice->eI,bool->fa,map->gr,oneCell'->kq
open Nat renaming le_refl->aE,zero_le->bF,beq->bZ,eq_of_beq_eq_true->cy,zero_add->cL,add_assoc->fT,lor->gE,lt_or_ge->iX,sub_zero->kp
open Option renaming some->bh,bind_eq_some_iff->jF,map->jZ
open Int renaming toNat_natCast->dr,le_refl->gp
open Bool renaming and_eq_true->kE
def na:List (List FM)->List V->KB->(List V->KB->Prop)->Prop
 |_,[],kb,K=>K [] kb
 | [],v::vs,kb,K=>K (v::vs) kb
 | []::ms,v::vs,kb,K=>na ms vs kb (fun us kb'=>K (v::us) kb')
 | (a::m)::ms,.agg l::vs,kb,K=>nc (a::m) l kb (fun us kb'=>na ms vs kb' (fun ws iI=>K (.agg us::ws) iI))
 | (.sl s:: _)::ms,v::vs,kb,K=>oW (.sl s) v kb (fun d kb'=>na ms vs kb' (fun ws iI=>K (.dat d::ws) iI))
 | (_:: _)::ms,v::vs,kb,K=>na ms vs kb (fun us kb'=>K (qD v::us) kb')
theorem TT:∀{ms:List (List FM)} {vs:List V} {kb:KB} {K:List V->KB->Prop},na ms vs kb K->∀{σ:Sg} {E:EH} {W:World},Inv σ E kb W->∀{xs:List Value},aw σ E vs xs->
  ∃ E' kb' us,Step σ E kb W σ E' kb' W/\aw σ E' us xs/\K us kb':=by
 intro ms
 induction ms with
 |nil=>
  intro vs kb K h σ E W hi xs hd
  cases vs with
  |nil=>exact⟨E,kb,[],Step.refl hi,hd,h⟩
  |cons v vs=>exact⟨E,kb,v::vs,Step.refl hi,hd,h⟩
 |cons m ms ih=>
  intro vs kb K h σ E W hi xs hd
  cases vs with
  |nil=>
   have h:K [] kb:=by
    cases m with
    |nil=>exact h
    |cons a m=>cases a<;>exact h
   exact⟨E,kb,[],Step.refl hi,hd,h⟩
  |cons v vs=>
   simp only[aw]at hd
   obtain⟨x,xs',rfl,h1,h2⟩:=hd
   have plain:∀ w,Den σ E w x->na ms vs kb (fun us kb'=>K (w::us) kb')->∃ E' kb' us,Step σ E kb W σ E' kb' W/\aw σ E' us (x::xs')/\K us kb':=fun w hw h=>by
    obtain⟨E1,dU,us,s1,d1,hK⟩:=ih h hi h2
    have:=Den.mono (τ:=[]) s1.le hw
    rw[fg]at this
    exact⟨E1,dU,w::us,s1,.cons this d1,hK⟩
   have agg:∀ a m l,v= .agg l->nc (a::m) l kb (fun us kb'=>na ms vs kb' (fun ws iI=>K (.agg us::ws) iI))->∃ E' kb' us,Step σ E kb W σ E' kb' W/\aw σ E' us (x::xs')/\K us kb':=fun a m l e hh=>by
    subst e
    simp only[Den]at h1
    obtain⟨cs,rfl,hl⟩:=h1
    obtain⟨E1,dU,us,s1,d1,hh⟩:=tc hh hi hl
    have h2':=aw.mono (τ:=[]) s1.le h2
    rw[fg]at h2'
    obtain⟨E2,bC,ws,s2,d2,hK⟩:=ih hh s1.inv h2'
    have d1':=aS.mono (τ:=[]) s2.le d1
    rw[fg]at d1'
    exact⟨E2,bC,.agg us::ws,s1.trans s2,.cons (by simp only[Den];exact⟨cs,rfl,d1'⟩) d2,hK⟩
   have ZX:∀ s,oW (.sl s) v kb (fun d kb'=>na ms vs kb' (fun ws iI=>K (.dat d::ws) iI))->∃ E' kb' us,Step σ E kb W σ E' kb' W/\aw σ E' us (x::xs')/\K us kb':=fun s h=>by
    obtain⟨E1,dU,d,s1,r1,h⟩:=u0 h hi h1
    have h2':=aw.mono (τ:=[]) s1.le h2
    rw[fg]at h2'
    obtain⟨E2,bC,ws,s2,d2,hK⟩:=ih h s1.inv h2'
    exact⟨E2,bC,.dat d::ws,s1.trans s2,.cons (by simp only[Den];exact r1.mono s2.le) d2,hK⟩
   cases m with
   |nil=>simp only[na]at h;exact plain v h1 h
   |cons a m=>
    cases v<;>cases a<;>simp only[na]at h<;>first
     |exact agg _ _ _ rfl h
     |exact ZX _ h
     |exact plain _ (FO h1) h
def td (ms:List (List FM)) (S:aH):aH:=fun args kb K=>na ms args kb (fun us kb'=>GU S us kb' K)
theorem vh {P:Program} {f:FuncId} {S:aH} (hS:aT P f S) (ms:List (List FM)):aT P f (td ms S):=fun args kb K h σ E W xs hi hd=>by
 obtain⟨E1,dU,us,s1,d1,h⟩:=TT h hi hd
 refine(PF hS h s1.inv d1).mono ?_
 rintro e W' ⟨v,r,σ',E',kb',rfl,hst,dT,hK⟩
 exact⟨v,r,σ',E',kb',rfl,s1.trans hst,dT,hK⟩
theorem Kq {σ:Sg} {E:EH}:∀{vs:List V} {xs:List Value},aw σ E vs xs->aw σ E (vs.map qD) xs
 | [],_,h=>h
 |v::vs,_,h=>by
  simp only[aw]at h
  obtain⟨x,xs',rfl,h1,h2⟩:=h
  exact .cons (FO h1) (Kq h2)
def FD (S:aH):aH:=fun args kb K=>S (args.map qD) kb K
theorem Nj {P:Program} {f:FuncId} {S:aH} (hS:aT P f S):aT P f (FD S):=fun args kb K h σ E W xs hi hd=>hS _ kb K h σ E W xs hi (Kq hd)
end Vc
namespace Go.Proofs.YtfcjngcnifdmnaaGreat
open Vc Go
open Go.IntKind renaming i64->Z,u8->θ,u32->gq
open Vc.V renaming any->γ,int->δ,sl->ε,sb->ξ,ptr->ac,dat->an,υ->ar,ae->aG,mp->aV,arr->bc,agg->cF
open Vc.KO renaming row->ζ,dead->ο,cells->ω,objs->bE
open Vc.D renaming val->η,sl->π
open List renaming map->ι,drop->ν,take->ah,length_append->bw,getElem?_eq_getElem->bx,getElem?_eq_some_iff->bU,length_map->cg,Mem->ct,take_length->cN,replicate->cQ,length_take->cW,append_assoc->dQ,getElem?_append_right->ef,getElem?_append_left->eH,mem_cons->eP,append_nil->fg,length_drop->fh,getElem?_map->fG,mem_map->fH,take_of_length_le->fI,getElem?_set_ne->fR,mem_cons_of_mem->fS,mem_append->gl,mem_of_getElem?->gm,getElem?_eq_none->gA,getElem?_set_self->gB,length_set->gC,range->gD,drop_zero->gK,mem_singleton->gY,flatten_cons->im,length_cons->io,mem_cons_self->iA,getElem?_take_of_lt->jj,length_nil->jk,nil_append->jm,getElem?_drop->jB,map_append->jC,take_add_one->jY,ext_getElem?->km,getD_eq_getElem?_getD->kn,length_singleton->ko,eq_nil_of_length_eq_zero->kG,mem_append_left->lR,mem_filter->lS
open Go.Value renaming int->κ,slice->eI,bool->fa,map->gr,oneCell'->kq
open Nat renaming le_refl->aE,zero_le->bF,beq->bZ,eq_of_beq_eq_true->cy,zero_add->cL,add_assoc->fT,lor->gE,lt_or_ge->iX,sub_zero->kp
open Option renaming some->bh,bind_eq_some_iff->jF,map->jZ
open Int renaming toNat_natCast->dr,le_refl->gp
open Bool renaming and_eq_true->kE
set_option linter.unusedVariables false
set_option linter.unusedSimpArgs false
set_option maxRecDepth 100000
structure bO (A:List (Sg×KB)) (l:List (Nat×φ)):Prop where
 len:A.length=l.length
 h:∀(i:Nat) (p:Nat×φ),l[i]? =some p->∃ a:Sg×KB,A[i]? =some a/\l_ a.1 p.1/\aF p.2 a.2
abbrev PK:=V->φ->Prop
def PM (g:List V->φ->PK->Prop):aH:=fun args kb K=>match args,kb with
 |v::rest,[bE A]=>∃ l i b R,bO A l/\l[i]? =some (b,R)/\uv v (pv b)/\g rest R (fun r R'=>∀ A',bO A' (l.set i (b,R'))->K r [bE A'])
 |_,_=>False
abbrev tK (o:Op):V:=.agg [.int Z o.cl,.int Z o.nm,.int Z o.kd,.int Z o.bk,an (.sl 1 (ints θ o.b))]
abbrev wA (w:Vw):V:=.agg [.int Z w.vi,.int Z w.vv,.int Z w.ve,an (.sl 1 (ints Z w.mem)),an (.sl 1 (ints Z w.aL))]
abbrev Fu (m:ei):V:=.agg [.int Z m.kd,an (.sl 1 (ints Z m.n)),an (.sl 1 (ints θ m.b)),an (.sl 1 (bL m.l))]
structure qT (kb:KB) (A:List (Sg×KB)):Prop where
 h:kb=[]/\A=[]∨kb=[bE A]
structure fY (l:List V):Prop where
 h:l=[]
def Ix:List V->φ->PK->Prop:=fun rest R k=>∃ w,rest=[wA w]/\bz R/\w.mem.length+w.aL.length<=1000/\R.out.length+(bA R.me w.mem w.aL).length<=100000/\k (.υ []) (gi R w)
def Is:List V->φ->PK->Prop:=fun rest R k=>∃ o,rest=[tK o]/\bz R/\R.out.length+(ba R).length<=100000/\bm o.b/\o.b.length<=100000/\k (.int Z (eE R o).1) (eE R o).2
def Ip:List V->φ->PK->Prop:=fun rest R k=>∃ fr m,rest=[.int Z fr,Fu m]/\bz R/\jD m/\k (.υ []) (gu R fr m)
def Iv:List V->φ->PK->Prop:=fun rest R k=>fY rest/\bz R/\0<=R.ti/\R.ti<=2199023255552/\R.out.length+(ba R).length<=100000/\k (.υ []) (fX R)
def Ir:List V->φ->PK->Prop:=fun rest R k=>fY rest/\bz R/\k (an (.sl 5 (R.out.map bD))) {R with out:=[] }
def Im:List V->φ->PK->Prop:=fun rest R k=>fY rest/\bz R/\k (an (.sl 7 (R.done.map bo))) {R with done:=[] }
def Ij:List V->φ->PK->Prop:=fun rest R k=>fY rest/\bz R/\k (ξ R.ch) {R with ch:=false }
def Io:List V->φ->PK->Prop:=fun rest R k=>fY rest/\bz R/\k (.υ [.int Z R.ep,.int Z R.nu]) R
def Iu:List V->φ->PK->Prop:=fun rest R k=>fY rest/\bz R/\k (.int gq (dy R.c)) R
def Iq:List V->φ->PK->Prop:=fun rest R k=>fY rest/\bz R/\k (.υ [ξ (eL R),ξ (ib R),ξ (kN R)]) R
def Ii:List V->φ->PK->Prop:=fun rest R k=>fY rest/\bz R/\e_ R.ep/\k (an (.sl 1 (ints θ (du R)))) R
def Bg:aH:=fun args kb K=>match args with
 | [.int Z me,.int Z id,ξ bl]=>∃ A l,qT kb A/\bO A l/\∀ b A',bO A' (l++[(b,newR me id bl 0 0 ki [])])->K (γ (pv b)) [bE A']
 |_=>False
def Bf:aH:=fun args kb K=>match args with
 | [.int Z me,.int Z id,an (.sl 1 B)]=>∃ A l t,qT kb A/\bO A l/\B=ints θ t/\bm t/\t.length<=900000/\
  ((¬ ∃ ep nu c x,jA t ep nu c x)->K (.υ [γ (.pointer none),ξ false]) kb)/\
  ∀ ep nu c x,jA t ep nu c x->∀ b A',bO A' (l++[(b,newR me id false ep nu c x)])->K (.υ [γ (pv b),ξ true]) [bE A']
 |_=>False
def mi (n:Int):List Int:=θ.wrap n::(cQ 14 0++[if n > 0 then 7 else 0])
def Bk:aH:=fun args kb K=>match args,kb with
 | [.int Z n],[]=>K (an (.sl 1 (ints θ (mi n)))) []
 |_,_=>False
theorem acC (n:Int) (K:V->KB->Prop) (ay:
 aQ 16/\
 Room 16 16 1/\
 br 0 16/\
 0<16/\
 (decide (n > 0)=true->
 br 15 16/\
 15<16/\
 16<=16/\
 K (an (π 1 [[η (κ θ (θ.wrap n))],[η (κ θ 0)],[η (κ θ 0)],[η (κ θ 0)],[η (κ θ 0)],[η (κ θ 0)],[η (κ θ 0)],[η (κ θ 0)],[η (κ θ 0)],[η (κ θ 0)],[η (κ θ 0)],[η (κ θ 0)],[η (κ θ 0)],[η (κ θ 0)],[η (κ θ 0)],[η (κ θ 7)]])) [])/\
 (decide (n > 0)=false->
 16<=16/\
 K (an (π 1 [[η (κ θ (θ.wrap n))],[η (κ θ 0)],[η (κ θ 0)],[η (κ θ 0)],[η (κ θ 0)],[η (κ θ 0)],[η (κ θ 0)],[η (κ θ 0)],[η (κ θ 0)],[η (κ θ 0)],[η (κ θ 0)],[η (κ θ 0)],[η (κ θ 0)],[η (κ θ 0)],[η (κ θ 0)],[η (κ θ 0)]])) [])
 ):aO Tryz.prog X0 (aM 23) 23 [.int Z n] [] (iF [.eB 1] (dh 0 K)):=by apply Eq.mp (a:=ay);kernel_rfl
theorem OB:bO [] []:=⟨rfl,fun i p h=>by simp at h⟩
theorem bO.set {A:List (Sg×KB)} {l:List (Nat×φ)} (h:bO A l) {i b:Nat} {R:φ} (hi:i<l.length) {τ:Sg} {kb:KB} (ht:l_ τ b) (hk:aF R kb):bO (A.set i (τ,kb)) (l.set i (b,R)):=by
 refine⟨by simp [h.len],fun j p hj=>?_⟩
 by_cases e:i=j
 ·subst e
  rw[gB hi]at hj
  cases hj
  exact⟨(τ,kb),gB (by rw[h.len];exact hi),ht,hk⟩
 ·rw[fR e]at hj
  obtain⟨a,h1,h2⟩:=h.h j p hj
  exact⟨a,by rw[fR e];exact h1,h2⟩
theorem bO.add {A:List (Sg×KB)} {l:List (Nat×φ)} (h:bO A l) {b:Nat} {R:φ} {τ:Sg} {kb:KB} (ht:l_ τ b) (hk:aF R kb):bO (A++[(τ,kb)]) (l++[(b,R)]):=by
 refine⟨by simp [h.len],fun j p hj=>?_⟩
 rcases Nat.lt_trichotomy j l.length with hm | hm | hm
 ·rw[eH hm]at hj
  obtain⟨a,h1,h2⟩:=h.h j p hj
  exact⟨a,by rw[eH (by rw[h.len];exact hm)];exact h1,h2⟩
 ·subst hm
  rw[ef (aE _)]at hj
  simp at hj;subst hj
  exact⟨(τ,kb),by rw[ef (by rw[h.len];exact aE _)];simp [h.len],ht,hk⟩
 ·rw[gA (by simp;omega)]at hj;cases hj
theorem nH {f:FuncId} {M:aH} {g:List V->φ->PK->Prop} (hM:fw Tryz.prog f M) (hg:∀ rest R k,g rest R k->V.jN (fun _=>none) rest=some rest/\∀ kb K,aF R kb->(∀ r R' kb',k r R'->aF R' kb'->K r kb')->M (ac 0 0::rest) kb K):aT Tryz.prog f (PM g):=fun args kb K h=>Wr hM args kb K (by
 unfold PM at h
 split at h<;>try exact h.elim
 rename_i v rest A
 obtain⟨l,i,b,R,hP,hi,hv,hG⟩:=h
 obtain⟨a,h1,h2,h3⟩:=hP.h i _ hi
 obtain⟨h4,h5⟩:=hg _ _ _ hG
 refine⟨i,a,b,rest,h1,h2,hv,h4,h5 _ _ h3 fun r R' kb' hr hkb τ mF=>hr _ (hP.set ?_ mF hkb)⟩
 exact(bU.1 hi).1)
theorem XX:aT Tryz.prog 15 (PM Ix):=nH Yn fun rest R k ⟨w,e,h1,h2,h3,h4⟩=>by
 subst e
 exact⟨rfl,fun kb K hkb hK=>⟨R,w,rfl,hkb,h1.ok,h2,h3,fun kb' h=>hK _ _ _ h4 h⟩⟩
theorem XU:aT Tryz.prog 21 (PM Is):=nH Ya fun rest R k ⟨o,e,h1,h2,h3,h5,h4⟩=>by
 subst e
 exact⟨rfl,fun kb K hkb hK=>⟨R,o,rfl,hkb,h1.ok,h2,h3,h5,fun kb' h=>hK _ _ _ h4 h⟩⟩
theorem XN:aT Tryz.prog 60 (PM Ip):=nH Xg fun rest R k ⟨fr,m,e,h1,h2,h4⟩=>by
 subst e
 exact⟨rfl,fun kb K hkb hK=>⟨R,fr,m,rfl,hkb,h1.ok,h2,fun kb' h=>hK _ _ _ h4 h⟩⟩
theorem XW:aT Tryz.prog 29 (PM Iv):=nH Yj fun rest R k ⟨⟨e⟩,h1,h2,h3,h5,h4⟩=>by
 subst e
 exact⟨rfl,fun kb K hkb hK=>⟨R,rfl,hkb,h1.ok,h2,h3,h5,fun kb' h=>hK _ _ _ h4 h⟩⟩
theorem XT:aT Tryz.prog 46 (PM Ir):=nH XI fun rest R k ⟨⟨e⟩,h1,h4⟩=>by
 subst e
 exact⟨rfl,fun kb K hkb hK=>⟨R,rfl,hkb,h1.ok,fun kb' h=>hK _ _ _ h4 h⟩⟩
theorem XL:aT Tryz.prog 24 (PM Im):=nH W9 fun rest R k ⟨⟨e⟩,h1,h4⟩=>by
 subst e
 exact⟨rfl,fun kb K hkb hK=>⟨R,rfl,hkb,h1.ok,fun kb' h=>hK _ _ _ h4 h⟩⟩
theorem XK:aT Tryz.prog 25 (PM Ij):=nH WT fun rest R k ⟨⟨e⟩,h1,h4⟩=>by
 subst e
 exact⟨rfl,fun kb K hkb hK=>⟨R,rfl,hkb,h1.ok,fun kb' h=>hK _ _ _ h4 h⟩⟩
theorem XM:aT Tryz.prog 13 (PM Io):=nH Xa fun rest R k ⟨⟨e⟩,h1,h4⟩=>by
 subst e
 exact⟨rfl,fun kb K hkb hK=>⟨R,rfl,hkb,h1.ok,fun kb' h=>hK _ _ _ h4 h⟩⟩
theorem XV:aT Tryz.prog 18 (PM Iu):=nH Ye fun rest R k ⟨⟨e⟩,h1,h4⟩=>by
 subst e
 exact⟨rfl,fun kb K hkb hK=>⟨R,rfl,hkb,h1.ok,fun kb' h=>hK _ _ _ h4 h⟩⟩
theorem XP:aT Tryz.prog 14 (PM Iq):=nH Xq fun rest R k ⟨⟨e⟩,h1,h4⟩=>by
 subst e
 exact⟨rfl,fun kb K hkb hK=>⟨R,rfl,hkb,h1.ok,fun kb' h=>hK _ _ _ h4 h⟩⟩
theorem XJ:aT Tryz.prog 11 (PM Ii):=nH WR fun rest R k ⟨⟨e⟩,h1,h2,h4⟩=>by
 subst e
 exact⟨rfl,fun kb K hkb hK=>⟨R,rfl,hkb,h1.ok,h2,fun kb' h=>hK _ _ _ h4 h⟩⟩
theorem XR:aT Tryz.prog 22 Bg:=fun args kb K h=>Cz NO args kb K (by
 unfold Bg at h
 split at h<;>try exact h.elim
 rename_i me id bl
 obtain⟨A,l,hkb,hP,hK⟩:=h
 refine⟨A,_,hkb.h,rfl,?_⟩
 show(_:Prop)
 refine⟨by rfl,fun b τ mF=>?_⟩
 exact hK b _ (hP.add mF (O6 _ _ _ _ _ _ Qf)))
theorem XQ:aT Tryz.prog 10 Bf:=fun args kb K h=>Cz X4 args kb K (by
 unfold Bf at h
 split at h<;>try exact h.elim
 rename_i me id B
 obtain⟨A,l,t,hkb,hP,rfl,hb,hl,h0,h1⟩:=h
 refine⟨A,_,hkb.h,rfl,t,rfl,hb,hl,fun hn=>h0 hn,fun ep nu c x M hr hT=>?_⟩
 refine⟨by rfl,fun b τ mF=>?_⟩
 exact h1 _ _ _ _ hr b _ (hP.add mF (O6 _ _ _ _ _ _ hT)))
theorem AI (n:Int):(mi n).length=16:=by simp [mi]
theorem Hy (n:Int):bm (mi n):=fun c hc=>by
 unfold mi at hc
 simp only[eP,gl,List.mem_replicate,gY,List.not_mem_nil,or_false]at hc
 rcases hc with rfl | ⟨_,rfl⟩ | hc
 ·rw[IntKind.wrap_u8];omega
 ·omega
 ·subst hc;split<;>omega
theorem NY:aT Tryz.prog 23 Bk:=fun args kb K h=>yy (eM f_ mixed (S:=fun a k K0=>∃ T,aO Tryz.prog X0 T 23 a k K0) fun _ _ _ h=>h) [.eB 1] args kb K (by
 unfold Bk at h;split at h<;>try exact h.elim
 rename_i n
 refine⟨_,acC n K ⟨by unfold aQ;omega,⟨by omega,by omega,by omega⟩,⟨by omega,by omega⟩,by omega,fun h1=>⟨⟨by omega,by omega⟩,by omega,by omega,?_⟩,fun h1=>⟨by omega,?_⟩⟩⟩
 ·have h1:n > 0:=by simpa using h1
  unfold mi at h;rw[if_pos h1]at h;exact h
 ·have h1:¬ n > 0:=by simpa using h1
  unfold mi at h;rw[if_neg h1]at h;exact h)
def tV:FuncId->Option dw
 | 22=>some ⟨[.gU],td [[.num],[.num]] (Po Bg)⟩
 | 23=>some ⟨[],FD Bk⟩
 | 15=>some ⟨[.gU],td [[],[.num,.num,.num,.sl 1,.sl 1]] (PM Ix)⟩
 | 21=>some ⟨[.gU],td [[],[.num,.num,.num,.num,.sl 1]] (PM Is)⟩
 | 60=>some ⟨[.gU],td [[],[.num]] (PM Ip)⟩
 | 46=>some ⟨[.gU],PM Ir⟩
 | 24=>some ⟨[.gU],PM Im⟩
 | 13=>some ⟨[.gU],PM Io⟩
 | 18=>some ⟨[.gU],PM Iu⟩
 | 14=>some ⟨[.gU],PM Iq⟩
 | 25=>some ⟨[.gU],PM Ij⟩
 | 11=>some ⟨[.gU],PM Ii⟩
 | 29=>some ⟨[.gU],PM Iv⟩
 | 10=>some ⟨[.gU],td [[.num],[.num]] Bf⟩
 |_=>none
theorem zX:dE Tryz.prog tV:=fun f k h=>by
 unfold tV at h
 split at h
 ·cases h;exact vh (ZR XR) _
 ·cases h;exact Nj NY
 ·cases h;exact vh XX _
 ·cases h;exact vh XU _
 ·cases h;exact vh XN _
 ·cases h;exact XT
 ·cases h;exact XL
 ·cases h;exact XM
 ·cases h;exact XV
 ·cases h;exact XP
 ·cases h;exact XK
 ·cases h;exact XJ
 ·cases h;exact XW
 ·cases h;exact vh XQ _
 ·cases h
noncomputable def B5:bM:=dF Tryz.prog tV aM 10
theorem Jf:bW Tryz.prog B5:=dI mixed zX aM 10
theorem aa4 (zv:Nat) (K:V->KB->Prop) (ay:
 ∃(A:List (Sg×KB)),∃(l:List (Nat×φ)),qT [] A/\
 bO A l/\
 ∀(b:Nat) (A':List (Sg×KB)),bO A' (l++[(b,newR 3 1 false 0 0 ki [])])->
 (false=true->
 K (ξ false) [bE A'])/\
 (false=false->
 1<=1/\
 ∃(l:List (Nat×φ)),∃(i:Nat),∃(b_1:Nat),∃(R:φ),bO A' l/\
 l[i]? =some (b_1,R)/\
 pv b=pv b_1/\
 ∃(w:Vw),[cF [δ Z 1,δ Z 0,δ Z 1,an (π 1 [[η (κ Z 3)]]),an (π 1 [])]]=[wA w]/\
 bz R/\
 w.mem.length+w.aL.length<=1000/\
 R.out.length+(bA R.me w.mem w.aL).length<=100000/\
 ∀(A':List (Sg×KB)),bO A' (l.set i (b_1,gi R w))->
 ∃(l:List (Nat×φ)),∃(i:Nat),∃(b_2:Nat),∃(R:φ),bO A' l/\
 l[i]? =some (b_2,R)/\
 pv b=pv b_2/\
 ∃(o:Op),[cF [δ Z 1,δ Z 1,δ Z 1,δ Z 2,an (π 1 [[η (κ θ 9)],[η (κ θ 0)],[η (κ θ 0)],[η (κ θ 0)],[η (κ θ 0)],[η (κ θ 0)],[η (κ θ 0)],[η (κ θ 0)],[η (κ θ 0)],[η (κ θ 0)],[η (κ θ 0)],[η (κ θ 0)],[η (κ θ 0)],[η (κ θ 0)],[η (κ θ 0)],[η (κ θ 7)]])]]=[tK o]/\
 bz R/\
 R.out.length+(ba R).length<=100000/\
 (∀(c:Int),ct c o.b->
 0<=c/\
 c<256)/\
 o.b.length<=100000/\
 ∀(A':List (Sg×KB)),bO A' (l.set i (b_2,(eE R o).snd))->
 ∃(l:List (Nat×φ)),∃(i:Nat),∃(iD:Nat),∃(fy:φ),bO A' l/\
 l[i]? =some (iD,fy)/\
 pv b=pv iD/\
 fY []/\
 bz fy/\
 ∀(A':List (Sg×KB)),bO A' (l.set i (iD,{me:=fy.me,id:=fy.id,ep:=fy.ep,nu:=fy.nu,ce:=fy.ce,ti:=fy.ti,bl:=fy.bl,lo:=fy.lo,ch:=fy.ch,c:=fy.c,t:=fy.t,v:=fy.v,ld:=fy.ld,out:=fy.out,done:=[] }))->
 ∃(l:List (Nat×φ)),∃(i:Nat),∃(q9:Nat),∃(kJ:φ),bO A' l/\
 l[i]? =some (q9,kJ)/\
 pv b=pv q9/\
 fY []/\
 bz kJ/\
 ∀(A':List (Sg×KB)),bO A' (l.set i (q9,kJ))->
 (((eE R o).fst == 0)=true->
 (((↑(ι bo fy.done).length:Int) == 1)=true->
 aQ 0/\
 ∃(e:List D),(ι bo fy.done)[0]? =some e/\
 ∃(n:Int),e[5]? =some (η (κ Z n))/\
 ((n == 0)=true->
 ((kJ.ep == 1)=true->
 ((kJ.nu == 1)=true->
 ∃(l:List (Nat×φ)),∃(i:Nat),∃(q_:Nat),∃(R:φ),bO A' l/\
 l[i]? =some (q_,R)/\
 pv b=pv q_/\
 fY []/\
 bz R/\
 ∀(A':List (Sg×KB)),bO A' (l.set i (q_,{me:=R.me,id:=R.id,ep:=R.ep,nu:=R.nu,ce:=R.ce,ti:=R.ti,bl:=R.bl,lo:=R.lo,ch:=false,c:=R.c,t:=R.t,v:=R.v,ld:=R.ld,out:=R.out,done:=R.done }))->
 K (ξ R.ch) [bE A'])/\
 ((kJ.nu == 1)=false->
 K (ξ false) [bE A']))/\
 ((kJ.ep == 1)=false->
 K (ξ false) [bE A']))/\
 ((n == 0)=false->
 K (ξ false) [bE A']))/\
 (((↑(ι bo fy.done).length:Int) == 1)=false->
 K (ξ false) [bE A']))/\
 (((eE R o).fst == 0)=false->
 K (ξ false) [bE A']))
 ):aO Tryz.prog B5 (aM 7) 7 [] [] K:=by apply Eq.mp (a:=ay);kernel_rfl
def xT:φ:=newR 3 1 false 0 0 ki []
def Ck:Vw:=⟨1,0,1,[3],[]⟩
def nV:φ:=gi xT Ck
def q8:Op:=⟨1,1,1,2,mi 9⟩
def mz:φ:=(eE nV q8).2
theorem Jw:bz xT:=tF 3 1 false 0 (by omega) (by omega) rfl HX F3
theorem Jx:bz nV:=(QL (w:=Ck) Jw (by decide) (by decide) (by decide)).i
theorem Jy:(ba nV).length=0:=by kernel_rfl
theorem Jz:nV.out.length=0:=by kernel_rfl
theorem Sj:nV.done.length=0:=by kernel_rfl
theorem Sk:nV.nu=0:=by kernel_rfl
theorem Cj:bz mz:=(PS (o:=q8) Jx ⟨Hy 9,by show(mi 9).length<=_;rw[AI];omega⟩ (by rw[Sk];omega) (by rw[Jy,Jz];omega) (by rw[Sj];omega)).i
theorem Sn:(eE nV q8).1=0:=by kernel_rfl
theorem JA:mz.done=[⟨q8,0,[]⟩]:=by kernel_rfl
theorem Sq:mz.ep=1:=by kernel_rfl
theorem Sr:mz.nu=1:=by kernel_rfl
theorem Sl:mz.ch=true:=by kernel_rfl
def IL:aH:=fun args kb K=>match args,kb with
 | [],[]=>∀ A,K (ξ true) [bE A]
 |_,_=>False
def Bl:aH:=fun args kb K=>match args,kb with
 | [],[]=>K (ξ true) []
 | [],[bE A]=>K (ξ true) [bE A]
 |_,_=>False
theorem WQ:aT Tryz.prog 7 IL:=eM Jf mixed (fun args kb K h=>by
 unfold IL at h;split at h<;>try exact h.elim
 refine⟨_,aa4 0 K ⟨[],[],⟨.inl ⟨rfl,rfl⟩⟩,OB,fun b A1 p1=>⟨fun q=>(by cases q),fun _=>⟨aE _,[(b,xT)],0,b,xT,p1,rfl,rfl,Ck,rfl,Jw,by decide,by decide,fun A2 p2=>?_⟩⟩⟩⟩
 refine⟨[(b,nV)],0,b,nV,p2,rfl,rfl,q8,rfl,Jx,by rw[Jy,Jz];omega,Hy 9,by show(mi 9).length<=_;rw[AI];omega,fun A3 p3=>?_⟩
 refine⟨[(b,mz)],0,b,mz,p3,rfl,rfl,⟨rfl⟩,Cj,fun A4 p4=>?_⟩
 refine⟨[(b,{mz with done:=[] })],0,b,_,p4,rfl,rfl,⟨rfl⟩,Dd Cj,fun A5 p5=>⟨fun _=>⟨fun _=>?_,fun q=>?_⟩,fun q=>?_⟩⟩
 ·refine⟨by unfold aQ;omega,bo ⟨q8,0,[]⟩,by rw[JA];rfl,0,rfl,fun _=>⟨fun _=>⟨fun _=>?_,fun q=>?_⟩,fun q=>?_⟩,fun q=>(by cases q)⟩
  ·refine⟨[(b,{mz with done:=[] })],0,b,_,p5,rfl,rfl,⟨rfl⟩,Dd Cj,fun A6 p6=>?_⟩
   show K (ξ mz.ch) [bE A6]
   rw[Sl];exact h A6
  ·have q:(mz.nu == 1)=false:=q
   rw[Sr]at q;cases q
  ·have q:(mz.ep == 1)=false:=q
   rw[Sq]at q;cases q
 ·rw[JA]at q;cases q
 ·have q:((eE nV q8).1 == 0)=false:=q
  rw[Sn]at q;cases q)
theorem WP:aT Tryz.prog 7 Bl:=fun args kb K h=>Cz WQ args kb K (by
 unfold Bl at h
 split at h<;>try exact h.elim
 ·exact⟨[],[],.inl ⟨rfl,rfl⟩,rfl,fun A=>h⟩
 ·exact⟨_,[],.inr rfl,rfl,fun A=>h⟩)
end Go.Proofs.YtfcjngcnifdmnaaGreat
namespace Go.Proofs.YtfcjngcnifdmnaaGreat.Fm
open Vc Go
open Go.IntKind renaming i64->Z,u8->θ,u32->gq
open Vc.V renaming any->γ,int->δ,sl->ε,sb->ξ,ptr->ac,dat->an,υ->ar,ae->aG,mp->aV,arr->bc,agg->cF
open Vc.KO renaming row->ζ,dead->ο,cells->ω,objs->bE
open Vc.D renaming val->η,sl->π
open List renaming map->ι,drop->ν,take->ah,length_append->bw,getElem?_eq_getElem->bx,getElem?_eq_some_iff->bU,length_map->cg,Mem->ct,take_length->cN,replicate->cQ,length_take->cW,append_assoc->dQ,getElem?_append_right->ef,getElem?_append_left->eH,mem_cons->eP,append_nil->fg,length_drop->fh,getElem?_map->fG,mem_map->fH,take_of_length_le->fI,getElem?_set_ne->fR,mem_cons_of_mem->fS,mem_append->gl,mem_of_getElem?->gm,getElem?_eq_none->gA,getElem?_set_self->gB,length_set->gC,range->gD,drop_zero->gK,mem_singleton->gY,flatten_cons->im,length_cons->io,mem_cons_self->iA,getElem?_take_of_lt->jj,length_nil->jk,nil_append->jm,getElem?_drop->jB,map_append->jC,take_add_one->jY,ext_getElem?->km,getD_eq_getElem?_getD->kn,length_singleton->ko,eq_nil_of_length_eq_zero->kG,mem_append_left->lR,mem_filter->lS
open Go.Value renaming int->κ,slice->eI,bool->fa,map->gr,oneCell'->kq
open Nat renaming le_refl->aE,zero_le->bF,beq->bZ,eq_of_beq_eq_true->cy,zero_add->cL,add_assoc->fT,lor->gE,lt_or_ge->iX,sub_zero->kp
open Option renaming some->bh,bind_eq_some_iff->jF,map->jZ
open Int renaming toNat_natCast->dr,le_refl->gp
open Bool renaming and_eq_true->kE
set_option linter.unusedVariables false
set_option linter.unusedSimpArgs false
set_option maxRecDepth 100000
def gI (l:List Int) (i:Nat):Int:=l.getD i 0
def gT (l:List (List Int)) (i:Nat):List Int:=l.getD i []
def tot:List (List Int)->Nat
 | []=>0
 |t::l=>t.length+tot l
structure gZ (k:Int) (n b:List Int) (l:List (List Int)):Prop where
 k1:1<=k
 k2:k<=40
 nl:n.length<=16
 bl:b.length<=2048
 ll:l.length<=64
 ns:∀ x∈n,0<=x/\x<=4611686018427387904
 ts:∀ t∈l,t.length<=2048
 al:tot l<=65536
abbrev zt (k:Int) (n b:List Int) (l:List (List Int)):List V:=[.int Z k,an (.sl 1 (ints Z n)),an (.sl 1 (ints θ b)),an (.sl 1 (l.map ax))]
abbrev qZ (l:List (List Int)):LI where
 α:={i:Nat // i<=l.length}
 live:=[3,6,7,8]
 st i:=([.int Z (tot (l.take i.1):Int),an (.sl 1 (l.map ax)),.int Z (l.length:Int),.int Z (i.1:Int)],[])
 μ i:=l.length - i.1
abbrev EK (n:List Int):LI where
 α:={i:Nat // i<=n.length/\∀ x∈n.take i,0<=x/\x<=4611686018427387904}
 live:=[0,1,7,8]
 st i:=([an (.sl 1 (ints Z n)),.fn 101 [],.int Z (n.length:Int),.int Z (i.1:Int)],[])
 μ i:=n.length - i.1
abbrev EM (l:List (List Int)):LI where
 α:={i:Nat // i<=l.length/\∀ t∈l.take i,t.length<=2048}
 live:=[0,1,7,8]
 st i:=([an (.sl 1 (l.map ax)),.fn 102 [],.int Z (l.length:Int),.int Z (i.1:Int)],[])
 μ i:=l.length - i.1
def gL (l:List Int):List Int:=(l.map aU).flatten
def fM (l:List (List Int)):List Int:=(l.map bY).flatten
def pu1 (k:Int) (n:List Int) (i:Nat):List Int:=aU k++aU (n.length:Int)++gL (n.take i)
def pu2 (k:Int) (n b:List Int) (l:List (List Int)) (i:Nat):List Int:=pu1 k n n.length++bY b++aU (l.length:Int)++fM (l.take i)
def cZ (k:Int) (n b:List Int) (l:List (List Int)):List Int:=pu2 k n b l l.length
abbrev vY (k:Int) (n b:List Int) (l:List (List Int)):LI where
 α:={i:Nat // i<=n.length}
 live:=[1,5,23,24,25]
 st i:=([ac 0 0,ac 1 0,an (.sl 1 (ints Z n)),.int Z (n.length:Int),.int Z (i.1:Int)],[ω (zt k n b l),ω [.sl 2 0 (pu1 k n i.1).length],ζ 5 1 (ints θ (pu1 k n i.1))])
 μ i:=n.length - i.1
abbrev vZ (k:Int) (n b:List Int) (l:List (List Int)):LI where
 α:={i:Nat // i<=l.length}
 live:=[5,40,41,42]
 st i:=([ac 0 0,an (.sl 1 (l.map ax)),.int Z (l.length:Int),.int Z (i.1:Int)],[ω [.sl 1 0 (pu2 k n b l i.1).length],ζ 5 1 (ints θ (pu2 k n b l i.1))])
 μ i:=l.length - i.1
def vg (k:Int) (n b:List Int) (l:List (List Int)):FuncId->Nat->Option LI
 | 104,3=>some (qZ l)
 | 99,2=>some (EK n)
 | 115,2=>some (EM l)
 | 47,8=>some (vY k n b l)
 | 47,15=>some (vZ k n b l)
 |_,_=>none
def qV:aH:=fun args kb K=>match args,kb with
 | [an (.sl 1 L)],[]=>∃ l:List (List Int),L=l.map ax/\l.length<=maxLen/\tot l<=1000000/\K (.int Z (tot l)) []
 |_,_=>False
structure qb (n b:List Int) (l:List (List Int)):Prop where
 nl:n.length<=maxLen
 bl:b.length<=maxLen
 ll:l.length<=maxLen
 tl:∀ t∈l,t.length<=maxLen
def xi:aH:=fun args kb K=>match args,kb with
 | [.agg [.int Z k,an (.sl 1 N),an (.sl 1 B),an (.sl 1 L)]],[]=>∃ n b l,N=ints Z n/\B=ints θ b/\L=l.map ax/\qb n b l/\(gZ k n b l->K (.int Z 0) [])/\(¬ gZ k n b l->K (.int Z 3) [])
 |_,_=>False
def Bs:aH:=fun args kb K=>match args,kb with
 | [an (.sl 1 N),.fn 101 []],[]=>∃ n:List Int,N=ints Z n/\n.length<=maxLen/\∀ q:Bool,(q=true ↔ ¬ ∀ x∈n,0<=x/\x<=4611686018427387904)->K (ξ q) []
 |_,_=>False
def Bt:aH:=fun args kb K=>match args,kb with
 | [an (.sl 1 L),.fn 102 []],[]=>∃ l:List (List Int),L=l.map ax/\l.length<=maxLen/\∀ q:Bool,(q=true ↔ ¬ ∀ t∈l,t.length<=2048)->K (ξ q) []
 |_,_=>False
def fk:FuncId->Option dw
 | 104=>some ⟨[.fp 1],qV⟩
 | 70=>some ⟨[.fp 1],Bs⟩
 | 103=>some ⟨[.fp 1],Bt⟩
 |_=>none
noncomputable def IY:bM:=dF Tryz.prog fk aM 10
noncomputable def xQ (n:List Int) (l:List (List Int)):bM:=dF Tryz.prog FH (vg 0 n [] l) 10
theorem abn (n:List Int) (K:V->KB->Prop) (ay:
 At (EK n) ([an (π 1 (ints Z n)),V.fn 101 [],δ Z (↑(ints Z n).length:Int),δ Z 0],[])/\
 ∀(i:{i:Nat // i<=n.length/\
 ∀(x:Int),x∈ah i n->
 0<=x/\
 x<=4611686018427387904 }),(decide ((↑i.val:Int)<(↑n.length:Int))=true->
 aQ (↑i.val:Int)/\
 ∃(e:List D),(ints Z n)[(↑i.val:Int).toNat]? =some e/\
 ∃(n_1:Int),e[0]? =some (η (κ Z n_1))/\
 (decide (n_1<0)=true->
 K (ξ (decide ((↑i.val:Int) ≥ 0))) [])/\
 (decide (n_1<0)=false->
 (decide (n_1 > 4611686018427387904)=true->
 K (ξ (decide ((↑i.val:Int) ≥ 0))) [])/\
 (decide (n_1 > 4611686018427387904)=false->
 Nx (EK n) i ([an (π 1 (ints Z n)),V.fn 101 [],δ Z (↑n.length:Int),δ Z (Z.wrap ((↑i.val:Int)+1))],[]))))/\
 (decide ((↑i.val:Int)<(↑n.length:Int))=false->
 K (ξ false) [])
 ):aO Tryz.prog (xQ n []) (aM 70) 70 [an (.sl 1 (ints Z n)),.fn 101 []] [] K:=by apply Eq.mp (a:=ay);kernel_rfl
theorem abo (l:List (List Int)) (K:V->KB->Prop) (ay:
 At (EM l) ([an (π 1 (ι ax l)),V.fn 102 [],δ Z (↑(ι ax l).length:Int),δ Z 0],[])/\
 ∀(i:{i:Nat // i<=l.length/\
 ∀(t:List Int),t∈ah i l->
 t.length<=2048 }),(decide ((↑i.val:Int)<(↑l.length:Int))=true->
 aQ (↑i.val:Int)/\
 ∃(e:List D),(ι ax l)[(↑i.val:Int).toNat]? =some e/\
 ∃(l_1:List (List D)),e[0]? =some (π 1 l_1)/\
 (decide ((↑l_1.length:Int) > 2048)=true->
 K (ξ (decide ((↑i.val:Int) ≥ 0))) [])/\
 (decide ((↑l_1.length:Int) > 2048)=false->
 Nx (EM l) i ([an (π 1 (ι ax l)),V.fn 102 [],δ Z (↑l.length:Int),δ Z (Z.wrap ((↑i.val:Int)+1))],[])))/\
 (decide ((↑i.val:Int)<(↑l.length:Int))=false->
 K (ξ false) [])
 ):aO Tryz.prog (xQ [] l) (aM 103) 103 [an (.sl 1 (l.map ax)),.fn 102 []] [] K:=by apply Eq.mp (a:=ay);kernel_rfl
theorem HA (l:List (List Int)) (K:V->KB->Prop) (ay:
 At (qZ l) ([δ Z 0,an (π 1 (ι ax l)),δ Z (↑(ι ax l).length:Int),δ Z 0],[])/\
 ∀(i:{i:Nat // i<=l.length }),(decide ((↑i.val:Int)<(↑l.length:Int))=true->
 aQ (↑i.val:Int)/\
 ∃(e:List D),(ι ax l)[(↑i.val:Int).toNat]? =some e/\
 ∃(l_1:List (List D)),e[0]? =some (π 1 l_1)/\
 Nx (qZ l) i ([δ Z (Z.wrap ((↑(tot (ah i.val l)):Int)+(↑l_1.length:Int))),an (π 1 (ι ax l)),δ Z (↑l.length:Int),δ Z (Z.wrap ((↑i.val:Int)+1))],[]))/\
 (decide ((↑i.val:Int)<(↑l.length:Int))=false->
 K (δ Z (↑(tot (ah i.val l)):Int)) [])
 ):aO Tryz.prog X0 (vg 0 [] [] l 104) 104 [an (.sl 1 (l.map ax))] [] K:=by apply Eq.mp (a:=ay);kernel_rfl
theorem abd (k:Int) (n b:List Int) (l:List (List Int)) (K:V->KB->Prop) (ay:
 (decide (k<1)=true->
 K (δ Z 3) [])/\
 (decide (k<1)=false->
 (decide (k > 40)=true->
 K (δ Z 3) [])/\
 (decide (k > 40)=false->
 (decide ((↑(ints Z n).length:Int) > 16)=true->
 K (δ Z 3) [])/\
 (decide ((↑(ints Z n).length:Int) > 16)=false->
 (decide ((↑(ι ax l).length:Int) > 64)=true->
 K (δ Z 3) [])/\
 (decide ((↑(ι ax l).length:Int) > 64)=false->
 (decide ((↑(ints θ b).length:Int) > 2048)=true->
 K (δ Z 3) [])/\
 (decide ((↑(ints θ b).length:Int) > 2048)=false->
 ∃(n_1:List Int),ints Z n=ints Z n_1/\
 n_1.length<=maxLen/\
 ∀(q:Bool),(q=true ↔ ¬∀(x:Int),x∈n_1->
 0<=x/\
 x<=4611686018427387904)->
 (q=true->
 K (δ Z 3) [])/\
 (q=false->
 ∃(l_1:List (List Int)),ι ax l=ι ax l_1/\
 l_1.length<=maxLen/\
 ∀(q:Bool),(q=true ↔ ¬∀(t:List Int),t∈l_1->
 t.length<=2048)->
 (q=true->
 K (δ Z 3) [])/\
 (q=false->
 ∃(l_2:List (List Int)),ι ax l=ι ax l_2/\
 l_2.length<=maxLen/\
 tot l_2<=1000000/\
 (decide ((↑(tot l_2):Int) > 65536)=true->
 K (δ Z 3) [])/\
 (decide ((↑(tot l_2):Int) > 65536)=false->
 K (δ Z 0) []))))))))
 ):aO Tryz.prog IY (aM 76) 76 [.agg (zt k n b l)] [] K:=by apply Eq.mp (a:=ay);kernel_rfl
theorem yr {l:List Int} {i:Nat} (h:i<l.length):l[i]? =some (gI l i):=by
 unfold gI;rw[kn,bx h];rfl
theorem yt {l:List Int} {i:Nat} (h:i<l.length):gI l i∈l:=gm (yr h)
theorem DO {l:List Int} {i:Nat} (h:i<l.length):l.take (i+1)=l.take i++[gI l i]:=by rw[jY,yr h];rfl
theorem yu {l:List (List Int)} {i:Nat} (h:i<l.length):l[i]? =some (gT l i):=by
 unfold gT;rw[kn,bx h];rfl
theorem DP {l:List (List Int)} {i:Nat} (h:i<l.length):gT l i∈l:=gm (yu h)
theorem yw {l:List (List Int)} {i:Nat} (h:i<l.length):l.take (i+1)=l.take i++[gT l i]:=by rw[jY,yu h];rfl
theorem el {k:IntKind} {l:List Int} {i:Nat} {Q:Int->Prop} (h:i<l.length) (q:Q (gI l i)):aQ (i:Int)/\∃ e,(ints k l)[(i:Int).toNat]? =some e/\∃ n,e[0]? =some (η (.int k n))/\Q n:=
 ⟨by unfold aQ;omega,[η (.int k (gI l i))],by rw[dr,kw,yr h];rfl,_,rfl,q⟩
theorem Di {l:List (List Int)} {i:Nat} {Q:List (List D)->Prop} (h:i<l.length) (q:Q (ints θ (gT l i))):aQ (i:Int)/\∃ e,(l.map ax)[(i:Int).toNat]? =some e/\∃ n,e[0]? =some (π 1 n)/\Q n:=
 ⟨by unfold aQ;omega,[π 1 (ints θ (gT l i))],by rw[dr,fG,yu h];rfl,_,rfl,q⟩
theorem qA {l:List (List Int)}:(l.map ax).length=l.length:=cg ..
theorem Qt {a b:List (List Int)}:tot (a++b)=tot a+tot b:=by
 induction a with
 |nil=>simp [tot]
 |cons x a ih=>simp only[List.cons_append,tot,ih];omega
theorem aa0 {l:List (List Int)} {i:Nat} (h:i<l.length):tot (l.take (i+1))=tot (l.take i)+(gT l i).length:=by rw[yw h,Qt];simp [tot]
theorem Qu {l:List (List Int)} (i:Nat):tot (l.take i)<=tot l:=by
 have:=Qt (a:=l.take i) (b:=l.drop i)
 rw[List.take_append_drop]at this;omega
theorem aaZ {l:List (List Int)} {m:Nat} (h:∀ t∈l,t.length<=m):tot l<=m*l.length:=by
 induction l with
 |nil=>simp [tot]
 |cons x l ih=>
  have h1:=h x iA
  have h2:=ih fun t ht=>h t (fS _ ht)
  simp only[tot,io]
  rw[Nat.mul_add,Nat.mul_one];omega
theorem FU:aT Tryz.prog 104 qV:=eM f_ mixed (fun args kb K h=>by
 unfold qV at h;split at h<;>try exact h.elim
 obtain⟨l,rfl,hl0,hl,h⟩:=h
 simp only[maxLen]at hl0
 refine⟨vg 0 [] [] l 104,HA l K ⟨by rw[qA];exact At.mk' ⟨0,bF _⟩ rfl,?_⟩⟩
 rintro⟨i,hi⟩
 dsimp only
 simp only[decide_eq_true_eq,decide_eq_false_iff_not]
 refine⟨fun hc=>Di (by omega) ?_,fun hc=>?_⟩
 ·have h1:=aa0 (l:=l) (i:=i) (by omega)
  have h2:=Qu (l:=l) (i+1)
  have e1:Z.wrap ((i:Int)+1)=((i+1:Nat):Int):=by rw[bR (by omega) (by omega)];rfl
  rw[be,bR (by omega) (by omega),e1]
  have e2:(tot (l.take i):Int)+((gT l i).length:Int)=((tot (l.take (i+1)):Nat):Int):=by omega
  rw[e2]
  exact Nx.mk' (⟨i+1,by omega⟩:{i:Nat // i<=l.length}) rfl (by show l.length - (i+1)<l.length - i;omega)
 ·have:i=l.length:=by omega
  subst this
  rwa [cN])
theorem W5:aT Tryz.prog 70 Bs:=ud mixed (fun args kb K h=>by
 unfold Bs at h;split at h<;>try exact h.elim
 obtain⟨n,rfl,hl,h⟩:=h
 simp only[maxLen]at hl
 refine⟨xQ n [],aM 70,dI mixed FI _ 10,abn n K ⟨by rw[be];exact At.mk' ⟨0,bF _,by simp⟩ rfl,?_⟩⟩
 rintro⟨i,hi,ht⟩
 dsimp only
 simp only[decide_eq_true_eq,decide_eq_false_iff_not]
 refine⟨fun hc=>el (by omega) ⟨fun h1=>h _ ⟨fun _ f=>?_,fun _=>by simp⟩,fun h1=>⟨fun h2=>h _ ⟨fun _ f=>?_,fun _=>by simp⟩,fun h2=>?_⟩⟩,fun hc=>h _ ⟨fun f=>(by cases f),fun f=>?_⟩⟩
 ·have:=f _ (yt (show i<n.length by omega));omega
 ·have:=f _ (yt (show i<n.length by omega));omega
 ·rw[bR (by omega) (by omega)]
  refine Nx.mk' (⟨i+1,by omega,fun x hx=>?_⟩:{i:Nat // i<=n.length/\∀ x∈n.take i,0<=x/\x<=4611686018427387904}) rfl (by show n.length - (i+1)<n.length - i;omega)
  rw[DO (by omega),gl,gY]at hx
  rcases hx with hx | rfl
  ·exact ht x hx
  ·omega
 ·have:i=n.length:=by omega
  subst this
  rw[cN]at ht
  exact absurd ht f)
theorem W6:aT Tryz.prog 103 Bt:=ud mixed (fun args kb K h=>by
 unfold Bt at h;split at h<;>try exact h.elim
 obtain⟨l,rfl,hl,h⟩:=h
 simp only[maxLen]at hl
 refine⟨xQ [] l,aM 103,dI mixed FI _ 10,abo l K ⟨by rw[qA];exact At.mk' ⟨0,bF _,by simp⟩ rfl,?_⟩⟩
 rintro⟨i,hi,ht⟩
 dsimp only
 simp only[decide_eq_true_eq,decide_eq_false_iff_not]
 refine⟨fun hc=>Di (by omega) ⟨fun h1=>h _ ⟨fun _ f=>?_,fun _=>by simp⟩,fun h2=>?_⟩,fun hc=>h _ ⟨fun f=>(by cases f),fun f=>?_⟩⟩
 ·rw[be]at h1
  have:=f _ (DP (show i<l.length by omega));omega
 ·rw[be]at h2
  rw[bR (by omega) (by omega)]
  refine Nx.mk' (⟨i+1,by omega,fun x hx=>?_⟩:{i:Nat // i<=l.length/\∀ t∈l.take i,t.length<=2048}) rfl (by show l.length - (i+1)<l.length - i;omega)
  rw[yw (by omega),gl,gY]at hx
  rcases hx with hx | rfl
  ·exact ht x hx
  ·omega
 ·have:i=l.length:=by omega
  subst this
  rw[cN]at ht
  exact absurd ht f)
theorem SW:dE Tryz.prog fk:=fun f k h=>by
 unfold fk at h
 split at h<;>first | (cases h;first | exact FU | exact W5 | exact W6) | cases h
theorem RH:bW Tryz.prog IY:=dI mixed SW aM 10
theorem NF:aT Tryz.prog 76 xi:=eM RH mixed (fun args kb K h=>by
 unfold xi at h;split at h<;>try exact h.elim
 rename_i k _ _ _
 obtain⟨n,b,l,rfl,rfl,rfl,⟨n1,b1,l1,t1⟩,hy,hn⟩:=h
 refine⟨aM 76,abd k n b l K ?_⟩
 simp only[decide_eq_true_eq,decide_eq_false_iff_not,be,qA]
 refine⟨fun h1=>hn fun w=>by have:=w.k1;omega,fun h1=>⟨fun h2=>hn fun w=>by have:=w.k2;omega,fun h2=>⟨fun h3=>hn fun w=>by have:=w.nl;omega,fun h3=>⟨fun h4=>hn fun w=>by have:=w.ll;omega,fun h4=>⟨fun h5=>hn fun w=>by have:=w.bl;omega,fun h5=>⟨n,rfl,n1,fun q hq=>⟨fun h6=>hn fun w=>hq.1 h6 w.ns,fun h6=>⟨l,rfl,l1,fun q' np=>⟨fun h7=>hn fun w=>np.1 h7 w.ts,fun h7=>?_⟩⟩⟩⟩⟩⟩⟩⟩⟩
 have ni:∀ x∈n,0<=x/\x<=4611686018427387904:=Classical.byContradiction fun f=>by rw[hq.2 f]at h6;cases h6
 have hts:∀ t∈l,t.length<=2048:=Classical.byContradiction fun f=>by rw[np.2 f]at h7;cases h7
 have htb:=aaZ hts
 refine⟨l,rfl,l1,by omega,fun h8=>hn fun w=>by have:=w.al;omega,fun h8=>hy ⟨by omega,by omega,by omega,by omega,by omega,ni,hts,by omega⟩⟩)
structure uu (b:List Int) (l:List (List Int)):Prop where
 b:bm b
 l:∀ t∈l,bm t
def IR:aH:=fun args kb K=>match args,kb with
 | [.agg [.int Z k,an (.sl 1 N),an (.sl 1 B),an (.sl 1 L)]],[]=>∃ n b l,N=ints Z n/\B=ints θ b/\L=l.map ax/\qb n b l/\uu b l/\
  (gZ k n b l->K (.υ [.sl 0 0 ((cZ k n b l).length+4),.int Z 0]) [ζ 5 1 (ints θ (bT (cZ k n b l)))])/\(¬ gZ k n b l->K (.υ [.sl 0 0 0,.int Z 3]) [ζ 5 1 []])
 |_,_=>False
def DH:FuncId->Option dw
 | 76=>some ⟨[.fp 1],xi⟩
 | 67=>some ⟨[.fp 1],xC⟩
 |f=>Gi f
noncomputable def I6:bM:=dF Tryz.prog DH aM 10
theorem ab8 (k:Int) (n b:List Int) (l:List (List Int)) (K:V->KB->Prop) (ay:
 let aq:=[ac 0 0,ac 1 0,an (π 1 (ints Z n)),δ Z (↑(ints Z n).length:Int),δ Z 0];∃(n_1:List Int),∃(b_1:List Int),∃(l_1:List (List Int)),ints Z n=ints Z n_1/\
 ints θ b=ints θ b_1/\
 ι ax l=ι ax l_1/\
 qb n_1 b_1 l_1/\
 (gZ k n_1 b_1 l_1->
 (false=true->
 K (ar [ε 0 0 0,δ Z 0]) [ζ 5 1 []])/\
 (false=false->
 ∃(a:List Int),[]=ints θ a/\
 0=a.length/\
 a.length<=10000000/\
 e_ k/\
 ∃(a_1:List Int),ints θ (a++aU k)=ints θ a_1/\
 (a++aU k).length=a_1.length/\
 a_1.length<=10000000/\
 e_ (↑(ints Z n).length:Int)/\
 At (vY k n b l) (aq,[ω [δ Z k,an (π 1 (ints Z n)),an (π 1 (ints θ b)),an (π 1 (ι ax l))],ω [ε 2 0 (a_1++aU (↑(ints Z n).length:Int)).length],ζ 5 1 (ints θ (a_1++aU (↑(ints Z n).length:Int)))])/\
 ∀(i:{i:Nat // i<=n.length }),(decide ((↑i.val:Int)<(↑n.length:Int))=true->
 aQ (↑i.val:Int)/\
 ∃(e:List D),(ints Z n)[(↑i.val:Int).toNat]? =some e/\
 ∃(n_2:Int),e[0]? =some (η (κ Z n_2))/\
 ∃(a:List Int),ints θ (pu1 k n i.val)=ints θ a/\
 (pu1 k n i.val).length=a.length/\
 a.length<=10000000/\
 e_ n_2/\
 Nx (vY k n b l) i ([ac 0 0,ac 1 0,an (π 1 (ints Z n)),δ Z (↑n.length:Int),δ Z (Z.wrap ((↑i.val:Int)+1))],[ω [δ Z k,an (π 1 (ints Z n)),an (π 1 (ints θ b)),an (π 1 (ι ax l))],ω [ε 2 0 (a++aU n_2).length],ζ 5 1 (ints θ (a++aU n_2))]))/\
 (decide ((↑i.val:Int)<(↑n.length:Int))=false->
 ∃(a:List Int),∃(b_2:List Int),ints θ (pu1 k n i.val)=ints θ a/\
 ints θ b=ints θ b_2/\
 (pu1 k n i.val).length=a.length/\
 a.length<=1000000/\
 b_2.length<=1000000/\
 ∃(a_2:List Int),ints θ (a++bY b_2)=ints θ a_2/\
 (a++bY b_2).length=a_2.length/\
 a_2.length<=10000000/\
 e_ (↑(ι ax l).length:Int)/\
 At (vZ k n b l) ([ac 0 0,an (π 1 (ι ax l)),δ Z (↑(ι ax l).length:Int),δ Z 0],[ω [ε 1 0 (a_2++aU (↑(ι ax l).length:Int)).length],ζ 5 1 (ints θ (a_2++aU (↑(ι ax l).length:Int)))])/\
 ∀(i:{i:Nat // i<=l.length }),(decide ((↑i.val:Int)<(↑l.length:Int))=true->
 aQ (↑i.val:Int)/\
 ∃(e:List D),(ι ax l)[(↑i.val:Int).toNat]? =some e/\
 ∃(l_2:List (List D)),e[0]? =some (π 1 l_2)/\
 ∃(a:List Int),∃(iD:List Int),ints θ (pu2 k n b l i.val)=ints θ a/\
 l_2=ints θ iD/\
 (pu2 k n b l i.val).length=a.length/\
 a.length<=1000000/\
 iD.length<=1000000/\
 Nx (vZ k n b l) i ([ac 0 0,an (π 1 (ι ax l)),δ Z (↑l.length:Int),δ Z (Z.wrap ((↑i.val:Int)+1))],[ω [ε 1 0 (a++bY iD).length],ζ 5 1 (ints θ (a++bY iD))]))/\
 (decide ((↑i.val:Int)<(↑l.length:Int))=false->
 ∃(a:List Int),ints θ (pu2 k n b l i.val)=ints θ a/\
 (pu2 k n b l i.val).length=a.length/\
 a.length<=1000000/\
 (a.length<=(ints θ a).length/\
 True)/\
 ∃(l:List Int),ν 0 (ah a.length (ints θ a))=ints θ l/\
 (∀(c:Int),ct c l->
 0<=c/\
 c<256)/\
 l.length<=900000/\
 lg (ints θ (bT l)).flatten/\
 K (ar [ε 0 0 (l.length+4),δ Z 0]) [ζ 5 1 (ints θ (bT l))]))))/\
 ((gZ k n_1 b_1 l_1->
 False)->
 (true=true->
 K (ar [ε 0 0 0,δ Z 3]) [ζ 5 1 []])/\
 (true=false->
 ∃(a:List Int),[]=ints θ a/\
 0=a.length/\
 a.length<=10000000/\
 e_ k/\
 ∃(a_1:List Int),ints θ (a++aU k)=ints θ a_1/\
 (a++aU k).length=a_1.length/\
 a_1.length<=10000000/\
 e_ (↑(ints Z n).length:Int)/\
 At (vY k n b l) (aq,[ω [δ Z k,an (π 1 (ints Z n)),an (π 1 (ints θ b)),an (π 1 (ι ax l))],ω [ε 2 0 (a_1++aU (↑(ints Z n).length:Int)).length],ζ 5 1 (ints θ (a_1++aU (↑(ints Z n).length:Int)))])/\
 ∀(i:{i:Nat // i<=n.length }),(decide ((↑i.val:Int)<(↑n.length:Int))=true->
 aQ (↑i.val:Int)/\
 ∃(e:List D),(ints Z n)[(↑i.val:Int).toNat]? =some e/\
 ∃(n_2:Int),e[0]? =some (η (κ Z n_2))/\
 ∃(a:List Int),ints θ (pu1 k n i.val)=ints θ a/\
 (pu1 k n i.val).length=a.length/\
 a.length<=10000000/\
 e_ n_2/\
 Nx (vY k n b l) i ([ac 0 0,ac 1 0,an (π 1 (ints Z n)),δ Z (↑n.length:Int),δ Z (Z.wrap ((↑i.val:Int)+1))],[ω [δ Z k,an (π 1 (ints Z n)),an (π 1 (ints θ b)),an (π 1 (ι ax l))],ω [ε 2 0 (a++aU n_2).length],ζ 5 1 (ints θ (a++aU n_2))]))/\
 (decide ((↑i.val:Int)<(↑n.length:Int))=false->
 ∃(a:List Int),∃(b_2:List Int),ints θ (pu1 k n i.val)=ints θ a/\
 ints θ b=ints θ b_2/\
 (pu1 k n i.val).length=a.length/\
 a.length<=1000000/\
 b_2.length<=1000000/\
 ∃(a_2:List Int),ints θ (a++bY b_2)=ints θ a_2/\
 (a++bY b_2).length=a_2.length/\
 a_2.length<=10000000/\
 e_ (↑(ι ax l).length:Int)/\
 At (vZ k n b l) ([ac 0 0,an (π 1 (ι ax l)),δ Z (↑(ι ax l).length:Int),δ Z 0],[ω [ε 1 0 (a_2++aU (↑(ι ax l).length:Int)).length],ζ 5 1 (ints θ (a_2++aU (↑(ι ax l).length:Int)))])/\
 ∀(i:{i:Nat // i<=l.length }),(decide ((↑i.val:Int)<(↑l.length:Int))=true->
 aQ (↑i.val:Int)/\
 ∃(e:List D),(ι ax l)[(↑i.val:Int).toNat]? =some e/\
 ∃(l_2:List (List D)),e[0]? =some (π 1 l_2)/\
 ∃(a:List Int),∃(iD:List Int),ints θ (pu2 k n b l i.val)=ints θ a/\
 l_2=ints θ iD/\
 (pu2 k n b l i.val).length=a.length/\
 a.length<=1000000/\
 iD.length<=1000000/\
 Nx (vZ k n b l) i ([ac 0 0,an (π 1 (ι ax l)),δ Z (↑l.length:Int),δ Z (Z.wrap ((↑i.val:Int)+1))],[ω [ε 1 0 (a++bY iD).length],ζ 5 1 (ints θ (a++bY iD))]))/\
 (decide ((↑i.val:Int)<(↑l.length:Int))=false->
 ∃(a:List Int),ints θ (pu2 k n b l i.val)=ints θ a/\
 (pu2 k n b l i.val).length=a.length/\
 a.length<=1000000/\
 (a.length<=(ints θ a).length/\
 True)/\
 ∃(l:List Int),ν 0 (ah a.length (ints θ a))=ints θ l/\
 (∀(c:Int),ct c l->
 0<=c/\
 c<256)/\
 l.length<=900000/\
 lg (ints θ (bT l)).flatten/\
 K (ar [ε 0 0 (l.length+4),δ Z 0]) [ζ 5 1 (ints θ (bT l))]))))
 ):aO Tryz.prog I6 (vg k n b l 47) 47 [.agg (zt k n b l)] [] (eX [.slot 0 5 1] (dh 0 K)):=by apply Eq.mp (a:=ay);kernel_rfl
theorem JQ {a b:List Int}:gL (a++b)=gL a++gL b:=by unfold gL;rw[jC,List.flatten_append]
theorem JT {a b:List (List Int)}:fM (a++b)=fM a++fM b:=by unfold fM;rw[jC,List.flatten_append]
theorem SO {l:List Int} {i:Nat} (h:i<l.length):gL (l.take (i+1))=gL (l.take i)++aU (gI l i):=by
 rw[DO h,JQ];simp [gL]
theorem SQ {l:List (List Int)} {i:Nat} (h:i<l.length):fM (l.take (i+1))=fM (l.take i)++bY (gT l i):=by
 rw[yw h,JT];simp [fM]
theorem JR:∀(l:List Int),(gL l).length<=9*l.length
 | []=>by simp [gL]
 |a::l=>by
  have:=JR l
  have h1:=iL a
  have e:gL (a::l)=aU a++gL l:=by simp [gL]
  rw[e,bw,io];omega
theorem JU:∀(l:List (List Int)),(fM l).length<=tot l+9*l.length
 | []=>by simp [fM,tot]
 |a::l=>by
  have:=JU l
  have h1:=pQ a
  have e:fM (a::l)=bY a++fM l:=by simp [fM]
  rw[e,bw,io]
  simp only[tot];omega
theorem OE {k:Int} {n:List Int}:pu1 k n 0=aU k++aU (n.length:Int):=by simp [pu1,gL]
theorem OG {k:Int} {n:List Int} {i:Nat} (h:i<n.length):pu1 k n (i+1)=pu1 k n i++aU (gI n i):=by
 unfold pu1;rw[SO h,dQ (_++_)]
theorem OH {k:Int} {n b:List Int} {l:List (List Int)}:pu2 k n b l 0=pu1 k n n.length++bY b++aU (l.length:Int):=by simp [pu2,fM]
theorem OJ {k:Int} {n b:List Int} {l:List (List Int)} {i:Nat} (h:i<l.length):pu2 k n b l (i+1)=pu2 k n b l i++bY (gT l i):=by
 unfold pu2;rw[SQ h];simp only[dQ]
theorem OF {k:Int} {n b:List Int} {l:List (List Int)} (h:gZ k n b l) (i:Nat):(pu1 k n i).length<=162:=by
 have h1:=iL k
 have h2:=iL (n.length:Int)
 have h3:=JR (n.take i)
 have:=h.nl
 rw[cW]at h3
 unfold pu1;simp only[bw];omega
theorem OI {k:Int} {n b:List Int} {l:List (List Int)} (h:gZ k n b l) (i:Nat):(pu2 k n b l i).length<=100000:=by
 have h1:=OF h n.length
 have h2:=iL (l.length:Int)
 have h3:=JU (l.take i)
 have h4:=pQ b
 have h5:=h.bl
 have h6:=h.ll
 have h7:=h.al
 have h8:=Qu (l:=l) i
 rw[cW]at h3
 unfold pu2;simp only[bw];omega
theorem uV {a b:List Int} (ha:bm a) (hb:bm b):bm (a++b):=fun c hc=>by
 rcases gl.1 hc with h | h
 ·exact ha c h
 ·exact hb c h
theorem OM {k:Int} {n b:List Int} {l:List (List Int)} (h:gZ k n b l) (hb:uu b l):bm (cZ k n b l):=by
 unfold cZ pu2 pu1
 refine uV (uV (uV (uV (uV (nC ?_) (nC ?_)) ?_) (Ay hb.b ?_)) (nC ?_)) ?_
 ·have:=h.k2;omega
 ·have:=h.nl;omega
 ·intro c hc
  unfold gL at hc
  obtain⟨x,hx,hc⟩:=List.mem_flatten.1 hc
  obtain⟨m,hm,rfl⟩:=fH.1 hx
  exact nC (by have:=h.ns m (List.mem_of_mem_take hm);omega) c hc
 ·have:=h.bl;omega
 ·have:=h.ll;omega
 ·intro c hc
  unfold fM at hc
  obtain⟨x,hx,hc⟩:=List.mem_flatten.1 hc
  obtain⟨m,hm,rfl⟩:=fH.1 hx
  exact Ay (hb.l m (List.mem_of_mem_take hm)) (by have:=h.ts m (List.mem_of_mem_take hm);omega) c hc
theorem TP:dE Tryz.prog DH:=fun f k h=>by
 unfold DH at h
 split at h
 ·cases h;exact NF
 ·cases h;exact NT
 ·exact OO _ _ h
theorem RN:bW Tryz.prog I6:=dI mixed TP aM 10
theorem X1:aT Tryz.prog 47 IR:=mP RN mixed [.slot 0 5 1] (fun args kb K h=>by
 unfold IR at h;split at h<;>try exact h.elim
 rename_i k _ _ _
 obtain⟨n,b,l,rfl,rfl,rfl,L6,hb,hy,hn⟩:=h
 refine⟨vg k n b l 47,ab8 k n b l K ⟨n,b,l,rfl,rfl,rfl,L6,fun hr=>⟨fun f=>(by cases f),fun _=>?_⟩,fun hr=>⟨fun _=>hn hr,fun f=>(by cases f)⟩⟩⟩
 replace hy:=hy hr
 have k1:=iL k
 have hk2:=hr.k2
 have hnl:=hr.nl
 have yM:=hr.ll
 have bX:=hr.bl
 refine⟨[],rfl,rfl,by simp,⟨by omega⟩,_,rfl,rfl,by simp only[bw,jk];omega,⟨by rw[be];omega⟩,?_,?_⟩
 ·rw[jm,be,<- OE]
  exact At.mk' ⟨0,bF _⟩ rfl
 rintro⟨i,hi⟩
 dsimp only
 simp only[decide_eq_true_eq,decide_eq_false_iff_not]
 have p1:=OF hr i
 refine⟨fun hc=>el (by omega) ⟨_,rfl,rfl,by omega,⟨by have:=hr.ns _ (yt (show i<n.length by omega));omega⟩,?_⟩,fun hc=>?_⟩
 ·have e1:Z.wrap ((i:Int)+1)=((i+1:Nat):Int):=by rw[bR (by omega) (by omega)];rfl
  rw[e1,<- OG (by omega)]
  exact Nx.mk' (⟨i+1,by omega⟩:{i:Nat // i<=n.length}) rfl (by show n.length - (i+1)<n.length - i;omega)
 have:i=n.length:=by omega
 subst this
 have t1:=pQ b
 refine⟨_,b,rfl,rfl,rfl,by omega,by omega,_,rfl,rfl,by rw[bw];omega,⟨by rw[qA];omega⟩,?_,?_⟩
 ·rw[qA,<- OH]
  exact At.mk' ⟨0,bF _⟩ rfl
 rintro⟨j,hj⟩
 dsimp only
 try simp only[decide_eq_true_eq,decide_eq_false_iff_not]
 have p2:=OI hr j
 refine⟨fun hc=>Di (by omega) ⟨_,_,rfl,rfl,rfl,by omega,by have:=hr.ts _ (DP (show j<l.length by omega));omega,?_⟩,fun hc=>?_⟩
 ·have e1:Z.wrap ((j:Int)+1)=((j+1:Nat):Int):=by rw[bR (by omega) (by omega)];rfl
  rw[e1,<- OJ (by omega)]
  exact Nx.mk' (⟨j+1,by omega⟩:{i:Nat // i<=l.length}) rfl (by show l.length - (j+1)<l.length - j;omega)
 have:j=l.length:=by omega
 subst this
 refine⟨_,rfl,rfl,by omega,⟨by rw[be];exact aE _,trivial⟩,cZ k n b l,by rw[gK,oq];unfold cZ;rw[cN],OM hr hb,by unfold cZ;omega,⟨nG⟩,hy⟩)
def gd (l:List Int) (p:Nat×Int) (most:Int):Nat×Int:=(p.1+(ak (l.drop p.1) p.2 most).2.1,(ak (l.drop p.1) p.2 most).2.2)
def iw (l:List Int) (p:Nat×Int) (most:Int):Int:=(ak (l.drop p.1) p.2 most).1
def ui (l:List Int) (p:Nat×Int) (most:Int):Nat×Int:=(p.1+(bp (l.drop p.1) p.2 most).2.1,(bp (l.drop p.1) p.2 most).2.2)
def uh (l:List Int) (p:Nat×Int) (most:Int):List Int:=(bp (l.drop p.1) p.2 most).1
def pz (l:List Int) (p:Nat×Int):Nat->(Nat×Int)×List Int
 | 0=>(p,[])
 |i+1=>(gd l (pz l p i).1 4611686018427387904,(pz l p i).2++[iw l (pz l p i).1 4611686018427387904])
def nL (l:List Int) (p:Nat×Int):Nat->(Nat×Int)×List (List Int)
 | 0=>(p,[])
 |i+1=>(ui l (nL l p i).1 2048,(nL l p i).2++[uh l (nL l p i).1 2048])
def q1 (l:List Int):Nat×Int:=gd l (0,0) 40
def kd (l:List Int):Int:=iw l (0,0) 40
def q2 (l:List Int):Nat×Int:=gd l (q1 l) 16
def cn (l:List Int):Nat:=(iw l (q1 l) 16).toNat
def qn (l:List Int) (i:Nat):(Nat×Int)×List Int:=pz l (q2 l) i
def pn (l:List Int):Nat×Int:=(qn l (cn l)).1
def q3 (l:List Int):Nat×Int:=ui l (pn l) 2048
def bd (l:List Int):List Int:=uh l (pn l) 2048
def q4 (l:List Int):Nat×Int:=gd l (q3 l) 64
def cl (l:List Int):Nat:=(iw l (q3 l) 64).toNat
def qt (l:List Int) (i:Nat):(Nat×Int)×List (List Int):=nL l (q4 l) i
def pt (l:List Int):Nat×Int:=(qt l (cl l)).1
def fin (l:List Int):Int:=fe (l.drop (pt l).1) (pt l).2
structure II where
 e:Int
 k:Int
 n:List Int
 b:List Int
 l:List (List Int)
def tQ (e:Int):II:=⟨e,0,[],[],[]⟩
def uA (l:List Int):Prop:=gZ (kd l) (qn l (cn l)).2 (bd l) (qt l (cl l)).2
open Classical in
noncomputable def lI (b:List Int):II:=match em b with
 |none=>tQ 4
 |some l=>if fin l≠0 then tQ (fin l)else if uA l then⟨0,kd l,(qn l (cn l)).2,bd l,(qt l (cl l)).2⟩else tQ 3
abbrev Ib:List V:=[.int Z 0,γ (.slice none 0 0),γ (.slice none 0 0),γ (.slice none 0 0)]
abbrev l8 (l:List Int):LI where
 α:={i:Nat // i<=cn l/\(qn l i).1.1<=l.length}
 live:=[2,6,7,24,25]
 dN:=[.cell 2 1 3 1]
 st i:=([ac 0 0,ac 1 0,ac 2 0,.int Z (cn l:Int),.int Z (i.1:Int)],[ω Ib,ω [.sl 3 (qn l i.1).1.1 l.length,.int Z (qn l i.1).1.2],ω [.int Z (kd l),.sl 4 0 i.1,γ (.slice none 0 0),γ (.slice none 0 0)],ζ 5 1 (ints θ l),ζ 3 1 (ints Z (qn l i.1).2)])
 μ i:=cn l - i.1
abbrev l9 (l:List Int):LI where
 α:={i:Nat // i<=cl l/\(qt l i).1.1<=l.length}
 live:=[2,6,7,39,40]
 dN:=[.cell 2 3 23 1]
 st i:=([ac 0 0,ac 1 0,ac 2 0,.int Z (cl l:Int),.int Z (i.1:Int)],[ω Ib,ω [.sl 3 (qt l i.1).1.1 l.length,.int Z (qt l i.1).1.2],ω [.int Z (kd l),.sl 4 0 (cn l),.sl 5 0 (bd l).length,.sl 6 0 i.1],ζ 5 1 (ints θ l),ζ 3 1 (ints Z (qn l (cn l)).2),ζ 5 1 (ints θ (bd l)),ζ 23 1 ((qt l i.1).2.map ax)])
 μ i:=cl l - i.1
abbrev zW (b l:List Int):LI where
 α:={q:Nat // em b=some l}
 live:=[2,4]
 dN:=[.slot 1 5 1]
 st q:=([ac 0 0,.sl 1 0 l.length],[ω Ib,ζ 5 1 (ints θ l)])
 μ q:=0
def DJ (b l:List Int):FuncId->Nat->Option LI
 | 59,1004=>some (zW b l)
 | 59,7=>some (l8 l)
 | 59,12=>some (l9 l)
 |_,_=>none
def IS:aH:=fun args kb K=>match args,kb with
 | [an (.sl 1 B)],[]=>∃ b:List Int,B=ints θ b/\bm b/\b.length<=200000/\K (.υ [.agg (zt (lI b).k (lI b).n (lI b).b (lI b).l),.int Z (lI b).e]) []
 |_,_=>False
def DI:FuncId->Option dw
 | 76=>some ⟨[.fp 1],xi⟩
 | 64=>some ⟨[.fp 1],xt⟩
 |f=>Gi f
noncomputable def I7:bM:=dF Tryz.prog DI aM 10
theorem QF (b l:List Int) (K:V->KB->Prop) (ay:
 let aq:=[δ Z 0,γ (eI none 0 0),γ (eI none 0 0),γ (eI none 0 0)];let bB:=[δ Z 0,an (π 1 []),an (π 1 []),an (π 1 [])];let ft:=(ah (cn l) (ints Z (qn l (cn l)).snd));let gy:=(ah (bd l).length (ints θ (bd l)));let mj:=(ν 0 (ah l.length (ints θ l)));∃(l_1:List Int),ints θ b=ints θ l_1/\
 (∀(c:Int),ct c l_1->
 0<=c/\
 c<256)/\
 l_1.length<=900000/\
 (em l_1=none->
 ((true=true->
 K (ar [cF bB,δ Z 4]) [])/\
 (true=false->
 At (zW b l) ([ac 0 0,ε 1 0 0],[ω aq,ζ 5 1 []])))/\
 ∀(i:{q:Nat // em b=some l }),let dP:=aq;let gJ:=mj;(l.length<=(ints θ l).length/\
 True)/\
 gJ.length<=140737488355328/\
 lg gJ.flatten/\
 ∃(l_2:List Int),ν 0 (ah l.length (ints θ l))=ints θ l_2/\
 gJ.length=l_2.length/\
 0<=l_2.length/\
 (∀(c:Int),ct c l_2->
 0<=c/\
 c<256)/\
 l_2.length<=140737488355328/\
 ∃(dg:List Int),ints θ l_2=ints θ dg/\
 l_2.length=dg.length/\
 0+(ak (ν 0 l_2) 0 40).snd.fst<=dg.length/\
 (∀(c:Int),ct c dg->
 0<=c/\
 c<256)/\
 dg.length<=140737488355328/\
 At (l8 l) ([ac 0 0,ac 1 0,ac 2 0,δ Z (ak (ν (0+(ak (ν 0 l_2) 0 40).snd.fst) dg) (ak (ν 0 l_2) 0 40).snd.snd 16).fst,δ Z 0],[ω dP,ω [ε 3 (0+(ak (ν 0 l_2) 0 40).snd.fst+(ak (ν (0+(ak (ν 0 l_2) 0 40).snd.fst) dg) (ak (ν 0 l_2) 0 40).snd.snd 16).snd.fst) dg.length,δ Z (ak (ν (0+(ak (ν 0 l_2) 0 40).snd.fst) dg) (ak (ν 0 l_2) 0 40).snd.snd 16).snd.snd],ω [δ Z (ak (ν 0 l_2) 0 40).fst,ε 4 0 0,γ (eI none 0 0),γ (eI none 0 0)],ζ 5 1 (ints θ dg),ζ 3 1 []])/\
 ∀(i:{i:Nat // i<=cn l/\
 (qn l i).fst.fst<=l.length }),let cK:=dP;(decide ((↑i.val:Int)<(↑(cn l):Int))=true->
 (∃(aW:List Int),ints θ l=ints θ aW/\
 l.length=aW.length/\
 (qn l i.val).fst.fst<=aW.length/\
 (∀(c:Int),ct c aW->
 0<=c/\
 c<256)/\
 aW.length<=140737488355328/\
 1<=1/\
 i.val<=(ints Z (qn l i.val).snd).length/\
 (i.val+1)*8<=140737488355328/\
 Nx (l8 l) i ([ac 0 0,ac 1 0,ac 2 0,δ Z (↑(cn l):Int),δ Z (Z.wrap ((↑i.val:Int)+1))],[ω cK,ω [ε 3 ((qn l i.val).fst.fst+(ak (ν (qn l i.val).fst.fst aW) (qn l i.val).fst.snd 4611686018427387904).snd.fst) aW.length,δ Z (ak (ν (qn l i.val).fst.fst aW) (qn l i.val).fst.snd 4611686018427387904).snd.snd],ω [δ Z (kd l),ε 4 0 (i.val+1),γ (eI none 0 0),γ (eI none 0 0)],ζ 5 1 (ints θ aW),ζ 3 1 (ah i.val (ints Z (qn l i.val).snd)++[[η (κ Z (ak (ν (qn l i.val).fst.fst aW) (qn l i.val).fst.snd 4611686018427387904).fst)]])]))/\
 ∃(aW:List Int),ints θ l=ints θ aW/\
 l.length=aW.length/\
 (qn l i.val).fst.fst<=aW.length/\
 (∀(c:Int),ct c aW->
 0<=c/\
 c<256)/\
 aW.length<=140737488355328/\
 (1<=1/\
 i.val<=(ints Z (qn l i.val).snd).length/\
 (i.val+1)*8<=140737488355328/\
 Nx (l8 l) i ([ac 0 0,ac 1 0,ac 2 0,δ Z (↑(cn l):Int),δ Z (Z.wrap ((↑i.val:Int)+1))],[ω cK,ω [ε 3 ((qn l i.val).fst.fst+(ak (ν (qn l i.val).fst.fst aW) (qn l i.val).fst.snd 4611686018427387904).snd.fst) aW.length,δ Z (ak (ν (qn l i.val).fst.fst aW) (qn l i.val).fst.snd 4611686018427387904).snd.snd],ω [δ Z (kd l),ε 4 0 (i.val+1),γ (eI none 0 0),γ (eI none 0 0)],ζ 5 1 (ints θ aW),ζ 3 1 (ah i.val (ints Z (qn l i.val).snd)++[[η (κ Z (ak (ν (qn l i.val).fst.fst aW) (qn l i.val).fst.snd 4611686018427387904).fst)]])]))/\
 1<=1/\
 i.val<=(ints Z (qn l i.val).snd).length/\
 (i.val+1)*8<=140737488355328/\
 Nx (l8 l) i ([ac 0 0,ac 1 0,ac 2 0,δ Z (↑(cn l):Int),δ Z (Z.wrap ((↑i.val:Int)+1))],[ω cK,ω [ε 3 ((qn l i.val).fst.fst+(ak (ν (qn l i.val).fst.fst aW) (qn l i.val).fst.snd 4611686018427387904).snd.fst) aW.length,δ Z (ak (ν (qn l i.val).fst.fst aW) (qn l i.val).fst.snd 4611686018427387904).snd.snd],ω [δ Z (kd l),ε 4 0 (i.val+1),γ (eI none 0 0),γ (eI none 0 0)],ζ 5 1 (ints θ aW),ζ 3 1 (ah i.val (ints Z (qn l i.val).snd)++[[η (κ Z (ak (ν (qn l i.val).fst.fst aW) (qn l i.val).fst.snd 4611686018427387904).fst)]])]))/\
 (decide ((↑i.val:Int)<(↑(cn l):Int))=false->
 ∃(aW:List Int),ints θ l=ints θ aW/\
 l.length=aW.length/\
 (qn l i.val).fst.fst<=aW.length/\
 (∀(c:Int),ct c aW->
 0<=c/\
 c<256)/\
 aW.length<=140737488355328/\
 ∃(dV:List Int),ints θ aW=ints θ dV/\
 aW.length=dV.length/\
 (qn l i.val).fst.fst+(bp (ν (qn l i.val).fst.fst aW) (qn l i.val).fst.snd 2048).snd.fst<=dV.length/\
 (∀(c:Int),ct c dV->
 0<=c/\
 c<256)/\
 dV.length<=140737488355328/\
 At (l9 l) ([ac 0 0,ac 1 0,ac 2 0,δ Z (ak (ν ((qn l i.val).fst.fst+(bp (ν (qn l i.val).fst.fst aW) (qn l i.val).fst.snd 2048).snd.fst) dV) (bp (ν (qn l i.val).fst.fst aW) (qn l i.val).fst.snd 2048).snd.snd 64).fst,δ Z 0],[ω cK,ω [ε 3 ((qn l i.val).fst.fst+(bp (ν (qn l i.val).fst.fst aW) (qn l i.val).fst.snd 2048).snd.fst+(ak (ν ((qn l i.val).fst.fst+(bp (ν (qn l i.val).fst.fst aW) (qn l i.val).fst.snd 2048).snd.fst) dV) (bp (ν (qn l i.val).fst.fst aW) (qn l i.val).fst.snd 2048).snd.snd 64).snd.fst) dV.length,δ Z (ak (ν ((qn l i.val).fst.fst+(bp (ν (qn l i.val).fst.fst aW) (qn l i.val).fst.snd 2048).snd.fst) dV) (bp (ν (qn l i.val).fst.fst aW) (qn l i.val).fst.snd 2048).snd.snd 64).snd.snd],ω [δ Z (kd l),ε 4 0 i.val,ε 5 0 (bp (ν (qn l i.val).fst.fst aW) (qn l i.val).fst.snd 2048).fst.length,ε 6 0 0],ζ 5 1 (ints θ dV),ζ 3 1 (ints Z (qn l i.val).snd),ζ 5 1 (ints θ (bp (ν (qn l i.val).fst.fst aW) (qn l i.val).fst.snd 2048).fst),ζ 23 1 []])/\
 ∀(i:{i:Nat // i<=cl l/\
 (qt l i).fst.fst<=l.length }),let dj:=(ar [cF [δ Z (kd l),an (π 1 (ν 0 ft)),an (π 1 (ν 0 gy)),an (π 1 (ν 0 (ah i.val (ι ax (qt l i.val).snd))))],δ Z 0]);let dD:=[ac 0 0,ac 1 0,ac 2 0,δ Z (↑(cl l):Int),δ Z (Z.wrap ((↑i.val:Int)+1))];let eT:=ω cK;let ur:=ω [δ Z (kd l),ε 4 0 (cn l),ε 5 0 (bd l).length,ε 6 0 (i.val+1)];let H1:=cF bB;(decide ((↑i.val:Int)<(↑(cl l):Int))=true->
 (∃(a_:List Int),ints θ l=ints θ a_/\
 l.length=a_.length/\
 (qt l i.val).fst.fst<=a_.length/\
 (∀(c:Int),ct c a_->
 0<=c/\
 c<256)/\
 a_.length<=140737488355328/\
 (bp (ν (qt l i.val).fst.fst a_) (qt l i.val).fst.snd 2048).fst.length<=(ints θ (bp (ν (qt l i.val).fst.fst a_) (qt l i.val).fst.snd 2048).fst).length/\
 1<=1/\
 i.val<=(ι ax (qt l i.val).snd).length/\
 (i.val+1)*24<=140737488355328/\
 Nx (l9 l) i (dD,[eT,ω [ε 3 ((qt l i.val).fst.fst+(bp (ν (qt l i.val).fst.fst a_) (qt l i.val).fst.snd 2048).snd.fst) a_.length,δ Z (bp (ν (qt l i.val).fst.fst a_) (qt l i.val).fst.snd 2048).snd.snd],ur,ζ 5 1 (ints θ a_),ζ 3 1 (ints Z (qn l (cn l)).snd),ζ 5 1 (ints θ (bd l)),ζ 23 1 (ah i.val (ι ax (qt l i.val).snd)++[[π 1 (ν 0 (ah (bp (ν (qt l i.val).fst.fst a_) (qt l i.val).fst.snd 2048).fst.length (ints θ (bp (ν (qt l i.val).fst.fst a_) (qt l i.val).fst.snd 2048).fst)))]])]))/\
 ∃(a_:List Int),ints θ l=ints θ a_/\
 l.length=a_.length/\
 (qt l i.val).fst.fst<=a_.length/\
 (∀(c:Int),ct c a_->
 0<=c/\
 c<256)/\
 a_.length<=140737488355328/\
 ((bp (ν (qt l i.val).fst.fst a_) (qt l i.val).fst.snd 2048).fst.length<=(ints θ (bp (ν (qt l i.val).fst.fst a_) (qt l i.val).fst.snd 2048).fst).length/\
 1<=1/\
 i.val<=(ι ax (qt l i.val).snd).length/\
 (i.val+1)*24<=140737488355328/\
 Nx (l9 l) i (dD,[eT,ω [ε 3 ((qt l i.val).fst.fst+(bp (ν (qt l i.val).fst.fst a_) (qt l i.val).fst.snd 2048).snd.fst) a_.length,δ Z (bp (ν (qt l i.val).fst.fst a_) (qt l i.val).fst.snd 2048).snd.snd],ur,ζ 5 1 (ints θ a_),ζ 3 1 (ints Z (qn l (cn l)).snd),ζ 5 1 (ints θ (bd l)),ζ 23 1 (ah i.val (ι ax (qt l i.val).snd)++[[π 1 (ν 0 (ah (bp (ν (qt l i.val).fst.fst a_) (qt l i.val).fst.snd 2048).fst.length (ints θ (bp (ν (qt l i.val).fst.fst a_) (qt l i.val).fst.snd 2048).fst)))]])]))/\
 (bp (ν (qt l i.val).fst.fst a_) (qt l i.val).fst.snd 2048).fst.length<=(ints θ (bp (ν (qt l i.val).fst.fst a_) (qt l i.val).fst.snd 2048).fst).length/\
 1<=1/\
 i.val<=(ι ax (qt l i.val).snd).length/\
 (i.val+1)*24<=140737488355328/\
 Nx (l9 l) i (dD,[eT,ω [ε 3 ((qt l i.val).fst.fst+(bp (ν (qt l i.val).fst.fst a_) (qt l i.val).fst.snd 2048).snd.fst) a_.length,δ Z (bp (ν (qt l i.val).fst.fst a_) (qt l i.val).fst.snd 2048).snd.snd],ur,ζ 5 1 (ints θ a_),ζ 3 1 (ints Z (qn l (cn l)).snd),ζ 5 1 (ints θ (bd l)),ζ 23 1 (ah i.val (ι ax (qt l i.val).snd)++[[π 1 (ν 0 (ah (bp (ν (qt l i.val).fst.fst a_) (qt l i.val).fst.snd 2048).fst.length (ints θ (bp (ν (qt l i.val).fst.fst a_) (qt l i.val).fst.snd 2048).fst)))]])]))/\
 (decide ((↑i.val:Int)<(↑(cl l):Int))=false->
 ∃(a_:List Int),ints θ l=ints θ a_/\
 l.length=a_.length/\
 ((fe (ν (qt l i.val).fst.fst a_) (qt l i.val).fst.snd != 0)=true->
 K (ar [H1,δ Z (fe (ν (qt l i.val).fst.fst a_) (qt l i.val).fst.snd)]) [])/\
 ((fe (ν (qt l i.val).fst.fst a_) (qt l i.val).fst.snd != 0)=false->
 ((cn l<=(ints Z (qn l (cn l)).snd).length/\
 (bd l).length<=(ints θ (bd l)).length/\
 i.val<=(ι ax (qt l i.val).snd).length/\
 True)/\
 True)/\
 ∃(n:List Int),∃(b:List Int),∃(jI:List (List Int)),ν 0 ft=ints Z n/\
 ν 0 gy=ints θ b/\
 ν 0 (ah i.val (ι ax (qt l i.val).snd))=ι ax jI/\
 qb n b jI/\
 (gZ (kd l) n b jI->
 True/\
 (false=true->
 K (ar [H1,δ Z 0]) [])/\
 (false=false->
 cn l<=(ints Z (qn l (cn l)).snd).length/\
 (bd l).length<=(ints θ (bd l)).length/\
 i.val<=(ι ax (qt l i.val).snd).length/\
 K dj []))/\
 ((gZ (kd l) n b jI->
 False)->
 True/\
 (true=true->
 K (ar [H1,δ Z 3]) [])/\
 (true=false->
 cn l<=(ints Z (qn l (cn l)).snd).length/\
 (bd l).length<=(ints θ (bd l)).length/\
 i.val<=(ι ax (qt l i.val).snd).length/\
 K dj []))))))/\
 ∀(m:List Int),em l_1=some m->
 (m=[]->
 ((false=true->
 K (ar [cF bB,δ Z 4]) [])/\
 (false=false->
 At (zW b l) ([ac 0 0,ε 1 0 0],[ω aq,ζ 5 1 []])))/\
 ∀(i:{q:Nat // em b=some l }),let Ra:=aq;let H2:=mj;(l.length<=(ints θ l).length/\
 True)/\
 H2.length<=140737488355328/\
 lg H2.flatten/\
 ∃(l_2:List Int),ν 0 (ah l.length (ints θ l))=ints θ l_2/\
 H2.length=l_2.length/\
 0<=l_2.length/\
 (∀(c:Int),ct c l_2->
 0<=c/\
 c<256)/\
 l_2.length<=140737488355328/\
 ∃(dg:List Int),ints θ l_2=ints θ dg/\
 l_2.length=dg.length/\
 0+(ak (ν 0 l_2) 0 40).snd.fst<=dg.length/\
 (∀(c:Int),ct c dg->
 0<=c/\
 c<256)/\
 dg.length<=140737488355328/\
 At (l8 l) ([ac 0 0,ac 1 0,ac 2 0,δ Z (ak (ν (0+(ak (ν 0 l_2) 0 40).snd.fst) dg) (ak (ν 0 l_2) 0 40).snd.snd 16).fst,δ Z 0],[ω Ra,ω [ε 3 (0+(ak (ν 0 l_2) 0 40).snd.fst+(ak (ν (0+(ak (ν 0 l_2) 0 40).snd.fst) dg) (ak (ν 0 l_2) 0 40).snd.snd 16).snd.fst) dg.length,δ Z (ak (ν (0+(ak (ν 0 l_2) 0 40).snd.fst) dg) (ak (ν 0 l_2) 0 40).snd.snd 16).snd.snd],ω [δ Z (ak (ν 0 l_2) 0 40).fst,ε 4 0 0,γ (eI none 0 0),γ (eI none 0 0)],ζ 5 1 (ints θ dg),ζ 3 1 []])/\
 ∀(i:{i:Nat // i<=cn l/\
 (qn l i).fst.fst<=l.length }),let nP:=Ra;(decide ((↑i.val:Int)<(↑(cn l):Int))=true->
 (∃(aW:List Int),ints θ l=ints θ aW/\
 l.length=aW.length/\
 (qn l i.val).fst.fst<=aW.length/\
 (∀(c:Int),ct c aW->
 0<=c/\
 c<256)/\
 aW.length<=140737488355328/\
 1<=1/\
 i.val<=(ints Z (qn l i.val).snd).length/\
 (i.val+1)*8<=140737488355328/\
 Nx (l8 l) i ([ac 0 0,ac 1 0,ac 2 0,δ Z (↑(cn l):Int),δ Z (Z.wrap ((↑i.val:Int)+1))],[ω nP,ω [ε 3 ((qn l i.val).fst.fst+(ak (ν (qn l i.val).fst.fst aW) (qn l i.val).fst.snd 4611686018427387904).snd.fst) aW.length,δ Z (ak (ν (qn l i.val).fst.fst aW) (qn l i.val).fst.snd 4611686018427387904).snd.snd],ω [δ Z (kd l),ε 4 0 (i.val+1),γ (eI none 0 0),γ (eI none 0 0)],ζ 5 1 (ints θ aW),ζ 3 1 (ah i.val (ints Z (qn l i.val).snd)++[[η (κ Z (ak (ν (qn l i.val).fst.fst aW) (qn l i.val).fst.snd 4611686018427387904).fst)]])]))/\
 ∃(aW:List Int),ints θ l=ints θ aW/\
 l.length=aW.length/\
 (qn l i.val).fst.fst<=aW.length/\
 (∀(c:Int),ct c aW->
 0<=c/\
 c<256)/\
 aW.length<=140737488355328/\
 (1<=1/\
 i.val<=(ints Z (qn l i.val).snd).length/\
 (i.val+1)*8<=140737488355328/\
 Nx (l8 l) i ([ac 0 0,ac 1 0,ac 2 0,δ Z (↑(cn l):Int),δ Z (Z.wrap ((↑i.val:Int)+1))],[ω nP,ω [ε 3 ((qn l i.val).fst.fst+(ak (ν (qn l i.val).fst.fst aW) (qn l i.val).fst.snd 4611686018427387904).snd.fst) aW.length,δ Z (ak (ν (qn l i.val).fst.fst aW) (qn l i.val).fst.snd 4611686018427387904).snd.snd],ω [δ Z (kd l),ε 4 0 (i.val+1),γ (eI none 0 0),γ (eI none 0 0)],ζ 5 1 (ints θ aW),ζ 3 1 (ah i.val (ints Z (qn l i.val).snd)++[[η (κ Z (ak (ν (qn l i.val).fst.fst aW) (qn l i.val).fst.snd 4611686018427387904).fst)]])]))/\
 1<=1/\
 i.val<=(ints Z (qn l i.val).snd).length/\
 (i.val+1)*8<=140737488355328/\
 Nx (l8 l) i ([ac 0 0,ac 1 0,ac 2 0,δ Z (↑(cn l):Int),δ Z (Z.wrap ((↑i.val:Int)+1))],[ω nP,ω [ε 3 ((qn l i.val).fst.fst+(ak (ν (qn l i.val).fst.fst aW) (qn l i.val).fst.snd 4611686018427387904).snd.fst) aW.length,δ Z (ak (ν (qn l i.val).fst.fst aW) (qn l i.val).fst.snd 4611686018427387904).snd.snd],ω [δ Z (kd l),ε 4 0 (i.val+1),γ (eI none 0 0),γ (eI none 0 0)],ζ 5 1 (ints θ aW),ζ 3 1 (ah i.val (ints Z (qn l i.val).snd)++[[η (κ Z (ak (ν (qn l i.val).fst.fst aW) (qn l i.val).fst.snd 4611686018427387904).fst)]])]))/\
 (decide ((↑i.val:Int)<(↑(cn l):Int))=false->
 ∃(aW:List Int),ints θ l=ints θ aW/\
 l.length=aW.length/\
 (qn l i.val).fst.fst<=aW.length/\
 (∀(c:Int),ct c aW->
 0<=c/\
 c<256)/\
 aW.length<=140737488355328/\
 ∃(dV:List Int),ints θ aW=ints θ dV/\
 aW.length=dV.length/\
 (qn l i.val).fst.fst+(bp (ν (qn l i.val).fst.fst aW) (qn l i.val).fst.snd 2048).snd.fst<=dV.length/\
 (∀(c:Int),ct c dV->
 0<=c/\
 c<256)/\
 dV.length<=140737488355328/\
 At (l9 l) ([ac 0 0,ac 1 0,ac 2 0,δ Z (ak (ν ((qn l i.val).fst.fst+(bp (ν (qn l i.val).fst.fst aW) (qn l i.val).fst.snd 2048).snd.fst) dV) (bp (ν (qn l i.val).fst.fst aW) (qn l i.val).fst.snd 2048).snd.snd 64).fst,δ Z 0],[ω nP,ω [ε 3 ((qn l i.val).fst.fst+(bp (ν (qn l i.val).fst.fst aW) (qn l i.val).fst.snd 2048).snd.fst+(ak (ν ((qn l i.val).fst.fst+(bp (ν (qn l i.val).fst.fst aW) (qn l i.val).fst.snd 2048).snd.fst) dV) (bp (ν (qn l i.val).fst.fst aW) (qn l i.val).fst.snd 2048).snd.snd 64).snd.fst) dV.length,δ Z (ak (ν ((qn l i.val).fst.fst+(bp (ν (qn l i.val).fst.fst aW) (qn l i.val).fst.snd 2048).snd.fst) dV) (bp (ν (qn l i.val).fst.fst aW) (qn l i.val).fst.snd 2048).snd.snd 64).snd.snd],ω [δ Z (kd l),ε 4 0 i.val,ε 5 0 (bp (ν (qn l i.val).fst.fst aW) (qn l i.val).fst.snd 2048).fst.length,ε 6 0 0],ζ 5 1 (ints θ dV),ζ 3 1 (ints Z (qn l i.val).snd),ζ 5 1 (ints θ (bp (ν (qn l i.val).fst.fst aW) (qn l i.val).fst.snd 2048).fst),ζ 23 1 []])/\
 ∀(i:{i:Nat // i<=cl l/\
 (qt l i).fst.fst<=l.length }),let Rb:=(ar [cF [δ Z (kd l),an (π 1 (ν 0 ft)),an (π 1 (ν 0 gy)),an (π 1 (ν 0 (ah i.val (ι ax (qt l i.val).snd))))],δ Z 0]);let H3:=[ac 0 0,ac 1 0,ac 2 0,δ Z (↑(cl l):Int),δ Z (Z.wrap ((↑i.val:Int)+1))];let H4:=ω nP;let H5:=ω [δ Z (kd l),ε 4 0 (cn l),ε 5 0 (bd l).length,ε 6 0 (i.val+1)];let H6:=cF bB;(decide ((↑i.val:Int)<(↑(cl l):Int))=true->
 (∃(a_:List Int),ints θ l=ints θ a_/\
 l.length=a_.length/\
 (qt l i.val).fst.fst<=a_.length/\
 (∀(c:Int),ct c a_->
 0<=c/\
 c<256)/\
 a_.length<=140737488355328/\
 (bp (ν (qt l i.val).fst.fst a_) (qt l i.val).fst.snd 2048).fst.length<=(ints θ (bp (ν (qt l i.val).fst.fst a_) (qt l i.val).fst.snd 2048).fst).length/\
 1<=1/\
 i.val<=(ι ax (qt l i.val).snd).length/\
 (i.val+1)*24<=140737488355328/\
 Nx (l9 l) i (H3,[H4,ω [ε 3 ((qt l i.val).fst.fst+(bp (ν (qt l i.val).fst.fst a_) (qt l i.val).fst.snd 2048).snd.fst) a_.length,δ Z (bp (ν (qt l i.val).fst.fst a_) (qt l i.val).fst.snd 2048).snd.snd],H5,ζ 5 1 (ints θ a_),ζ 3 1 (ints Z (qn l (cn l)).snd),ζ 5 1 (ints θ (bd l)),ζ 23 1 (ah i.val (ι ax (qt l i.val).snd)++[[π 1 (ν 0 (ah (bp (ν (qt l i.val).fst.fst a_) (qt l i.val).fst.snd 2048).fst.length (ints θ (bp (ν (qt l i.val).fst.fst a_) (qt l i.val).fst.snd 2048).fst)))]])]))/\
 ∃(a_:List Int),ints θ l=ints θ a_/\
 l.length=a_.length/\
 (qt l i.val).fst.fst<=a_.length/\
 (∀(c:Int),ct c a_->
 0<=c/\
 c<256)/\
 a_.length<=140737488355328/\
 ((bp (ν (qt l i.val).fst.fst a_) (qt l i.val).fst.snd 2048).fst.length<=(ints θ (bp (ν (qt l i.val).fst.fst a_) (qt l i.val).fst.snd 2048).fst).length/\
 1<=1/\
 i.val<=(ι ax (qt l i.val).snd).length/\
 (i.val+1)*24<=140737488355328/\
 Nx (l9 l) i (H3,[H4,ω [ε 3 ((qt l i.val).fst.fst+(bp (ν (qt l i.val).fst.fst a_) (qt l i.val).fst.snd 2048).snd.fst) a_.length,δ Z (bp (ν (qt l i.val).fst.fst a_) (qt l i.val).fst.snd 2048).snd.snd],H5,ζ 5 1 (ints θ a_),ζ 3 1 (ints Z (qn l (cn l)).snd),ζ 5 1 (ints θ (bd l)),ζ 23 1 (ah i.val (ι ax (qt l i.val).snd)++[[π 1 (ν 0 (ah (bp (ν (qt l i.val).fst.fst a_) (qt l i.val).fst.snd 2048).fst.length (ints θ (bp (ν (qt l i.val).fst.fst a_) (qt l i.val).fst.snd 2048).fst)))]])]))/\
 (bp (ν (qt l i.val).fst.fst a_) (qt l i.val).fst.snd 2048).fst.length<=(ints θ (bp (ν (qt l i.val).fst.fst a_) (qt l i.val).fst.snd 2048).fst).length/\
 1<=1/\
 i.val<=(ι ax (qt l i.val).snd).length/\
 (i.val+1)*24<=140737488355328/\
 Nx (l9 l) i (H3,[H4,ω [ε 3 ((qt l i.val).fst.fst+(bp (ν (qt l i.val).fst.fst a_) (qt l i.val).fst.snd 2048).snd.fst) a_.length,δ Z (bp (ν (qt l i.val).fst.fst a_) (qt l i.val).fst.snd 2048).snd.snd],H5,ζ 5 1 (ints θ a_),ζ 3 1 (ints Z (qn l (cn l)).snd),ζ 5 1 (ints θ (bd l)),ζ 23 1 (ah i.val (ι ax (qt l i.val).snd)++[[π 1 (ν 0 (ah (bp (ν (qt l i.val).fst.fst a_) (qt l i.val).fst.snd 2048).fst.length (ints θ (bp (ν (qt l i.val).fst.fst a_) (qt l i.val).fst.snd 2048).fst)))]])]))/\
 (decide ((↑i.val:Int)<(↑(cl l):Int))=false->
 ∃(a_:List Int),ints θ l=ints θ a_/\
 l.length=a_.length/\
 ((fe (ν (qt l i.val).fst.fst a_) (qt l i.val).fst.snd != 0)=true->
 K (ar [H6,δ Z (fe (ν (qt l i.val).fst.fst a_) (qt l i.val).fst.snd)]) [])/\
 ((fe (ν (qt l i.val).fst.fst a_) (qt l i.val).fst.snd != 0)=false->
 ((cn l<=(ints Z (qn l (cn l)).snd).length/\
 (bd l).length<=(ints θ (bd l)).length/\
 i.val<=(ι ax (qt l i.val).snd).length/\
 True)/\
 True)/\
 ∃(n:List Int),∃(b:List Int),∃(jI:List (List Int)),ν 0 ft=ints Z n/\
 ν 0 gy=ints θ b/\
 ν 0 (ah i.val (ι ax (qt l i.val).snd))=ι ax jI/\
 qb n b jI/\
 (gZ (kd l) n b jI->
 True/\
 (false=true->
 K (ar [H6,δ Z 0]) [])/\
 (false=false->
 cn l<=(ints Z (qn l (cn l)).snd).length/\
 (bd l).length<=(ints θ (bd l)).length/\
 i.val<=(ι ax (qt l i.val).snd).length/\
 K Rb []))/\
 ((gZ (kd l) n b jI->
 False)->
 True/\
 (true=true->
 K (ar [H6,δ Z 3]) [])/\
 (true=false->
 cn l<=(ints Z (qn l (cn l)).snd).length/\
 (bd l).length<=(ints θ (bd l)).length/\
 i.val<=(ι ax (qt l i.val).snd).length/\
 K Rb []))))))/\
 ((false=true->
 K (ar [cF bB,δ Z 4]) [])/\
 (false=false->
 At (zW b l) ([ac 0 0,ε 1 0 m.length],[ω aq,ζ 5 1 (ints θ m)])))/\
 ∀(i:{q:Nat // em b=some l }),let Rc:=aq;let H7:=mj;(l.length<=(ints θ l).length/\
 True)/\
 H7.length<=140737488355328/\
 lg H7.flatten/\
 ∃(l_2:List Int),ν 0 (ah l.length (ints θ l))=ints θ l_2/\
 H7.length=l_2.length/\
 0<=l_2.length/\
 (∀(c:Int),ct c l_2->
 0<=c/\
 c<256)/\
 l_2.length<=140737488355328/\
 ∃(dg:List Int),ints θ l_2=ints θ dg/\
 l_2.length=dg.length/\
 0+(ak (ν 0 l_2) 0 40).snd.fst<=dg.length/\
 (∀(c:Int),ct c dg->
 0<=c/\
 c<256)/\
 dg.length<=140737488355328/\
 At (l8 l) ([ac 0 0,ac 1 0,ac 2 0,δ Z (ak (ν (0+(ak (ν 0 l_2) 0 40).snd.fst) dg) (ak (ν 0 l_2) 0 40).snd.snd 16).fst,δ Z 0],[ω Rc,ω [ε 3 (0+(ak (ν 0 l_2) 0 40).snd.fst+(ak (ν (0+(ak (ν 0 l_2) 0 40).snd.fst) dg) (ak (ν 0 l_2) 0 40).snd.snd 16).snd.fst) dg.length,δ Z (ak (ν (0+(ak (ν 0 l_2) 0 40).snd.fst) dg) (ak (ν 0 l_2) 0 40).snd.snd 16).snd.snd],ω [δ Z (ak (ν 0 l_2) 0 40).fst,ε 4 0 0,γ (eI none 0 0),γ (eI none 0 0)],ζ 5 1 (ints θ dg),ζ 3 1 []])/\
 ∀(i:{i:Nat // i<=cn l/\
 (qn l i).fst.fst<=l.length }),let wN:=Rc;(decide ((↑i.val:Int)<(↑(cn l):Int))=true->
 (∃(aW:List Int),ints θ l=ints θ aW/\
 l.length=aW.length/\
 (qn l i.val).fst.fst<=aW.length/\
 (∀(c:Int),ct c aW->
 0<=c/\
 c<256)/\
 aW.length<=140737488355328/\
 1<=1/\
 i.val<=(ints Z (qn l i.val).snd).length/\
 (i.val+1)*8<=140737488355328/\
 Nx (l8 l) i ([ac 0 0,ac 1 0,ac 2 0,δ Z (↑(cn l):Int),δ Z (Z.wrap ((↑i.val:Int)+1))],[ω wN,ω [ε 3 ((qn l i.val).fst.fst+(ak (ν (qn l i.val).fst.fst aW) (qn l i.val).fst.snd 4611686018427387904).snd.fst) aW.length,δ Z (ak (ν (qn l i.val).fst.fst aW) (qn l i.val).fst.snd 4611686018427387904).snd.snd],ω [δ Z (kd l),ε 4 0 (i.val+1),γ (eI none 0 0),γ (eI none 0 0)],ζ 5 1 (ints θ aW),ζ 3 1 (ah i.val (ints Z (qn l i.val).snd)++[[η (κ Z (ak (ν (qn l i.val).fst.fst aW) (qn l i.val).fst.snd 4611686018427387904).fst)]])]))/\
 ∃(aW:List Int),ints θ l=ints θ aW/\
 l.length=aW.length/\
 (qn l i.val).fst.fst<=aW.length/\
 (∀(c:Int),ct c aW->
 0<=c/\
 c<256)/\
 aW.length<=140737488355328/\
 (1<=1/\
 i.val<=(ints Z (qn l i.val).snd).length/\
 (i.val+1)*8<=140737488355328/\
 Nx (l8 l) i ([ac 0 0,ac 1 0,ac 2 0,δ Z (↑(cn l):Int),δ Z (Z.wrap ((↑i.val:Int)+1))],[ω wN,ω [ε 3 ((qn l i.val).fst.fst+(ak (ν (qn l i.val).fst.fst aW) (qn l i.val).fst.snd 4611686018427387904).snd.fst) aW.length,δ Z (ak (ν (qn l i.val).fst.fst aW) (qn l i.val).fst.snd 4611686018427387904).snd.snd],ω [δ Z (kd l),ε 4 0 (i.val+1),γ (eI none 0 0),γ (eI none 0 0)],ζ 5 1 (ints θ aW),ζ 3 1 (ah i.val (ints Z (qn l i.val).snd)++[[η (κ Z (ak (ν (qn l i.val).fst.fst aW) (qn l i.val).fst.snd 4611686018427387904).fst)]])]))/\
 1<=1/\
 i.val<=(ints Z (qn l i.val).snd).length/\
 (i.val+1)*8<=140737488355328/\
 Nx (l8 l) i ([ac 0 0,ac 1 0,ac 2 0,δ Z (↑(cn l):Int),δ Z (Z.wrap ((↑i.val:Int)+1))],[ω wN,ω [ε 3 ((qn l i.val).fst.fst+(ak (ν (qn l i.val).fst.fst aW) (qn l i.val).fst.snd 4611686018427387904).snd.fst) aW.length,δ Z (ak (ν (qn l i.val).fst.fst aW) (qn l i.val).fst.snd 4611686018427387904).snd.snd],ω [δ Z (kd l),ε 4 0 (i.val+1),γ (eI none 0 0),γ (eI none 0 0)],ζ 5 1 (ints θ aW),ζ 3 1 (ah i.val (ints Z (qn l i.val).snd)++[[η (κ Z (ak (ν (qn l i.val).fst.fst aW) (qn l i.val).fst.snd 4611686018427387904).fst)]])]))/\
 (decide ((↑i.val:Int)<(↑(cn l):Int))=false->
 ∃(aW:List Int),ints θ l=ints θ aW/\
 l.length=aW.length/\
 (qn l i.val).fst.fst<=aW.length/\
 (∀(c:Int),ct c aW->
 0<=c/\
 c<256)/\
 aW.length<=140737488355328/\
 ∃(dV:List Int),ints θ aW=ints θ dV/\
 aW.length=dV.length/\
 (qn l i.val).fst.fst+(bp (ν (qn l i.val).fst.fst aW) (qn l i.val).fst.snd 2048).snd.fst<=dV.length/\
 (∀(c:Int),ct c dV->
 0<=c/\
 c<256)/\
 dV.length<=140737488355328/\
 At (l9 l) ([ac 0 0,ac 1 0,ac 2 0,δ Z (ak (ν ((qn l i.val).fst.fst+(bp (ν (qn l i.val).fst.fst aW) (qn l i.val).fst.snd 2048).snd.fst) dV) (bp (ν (qn l i.val).fst.fst aW) (qn l i.val).fst.snd 2048).snd.snd 64).fst,δ Z 0],[ω wN,ω [ε 3 ((qn l i.val).fst.fst+(bp (ν (qn l i.val).fst.fst aW) (qn l i.val).fst.snd 2048).snd.fst+(ak (ν ((qn l i.val).fst.fst+(bp (ν (qn l i.val).fst.fst aW) (qn l i.val).fst.snd 2048).snd.fst) dV) (bp (ν (qn l i.val).fst.fst aW) (qn l i.val).fst.snd 2048).snd.snd 64).snd.fst) dV.length,δ Z (ak (ν ((qn l i.val).fst.fst+(bp (ν (qn l i.val).fst.fst aW) (qn l i.val).fst.snd 2048).snd.fst) dV) (bp (ν (qn l i.val).fst.fst aW) (qn l i.val).fst.snd 2048).snd.snd 64).snd.snd],ω [δ Z (kd l),ε 4 0 i.val,ε 5 0 (bp (ν (qn l i.val).fst.fst aW) (qn l i.val).fst.snd 2048).fst.length,ε 6 0 0],ζ 5 1 (ints θ dV),ζ 3 1 (ints Z (qn l i.val).snd),ζ 5 1 (ints θ (bp (ν (qn l i.val).fst.fst aW) (qn l i.val).fst.snd 2048).fst),ζ 23 1 []])/\
 ∀(i:{i:Nat // i<=cl l/\
 (qt l i).fst.fst<=l.length }),let Rf:=(ar [cF [δ Z (kd l),an (π 1 (ν 0 ft)),an (π 1 (ν 0 gy)),an (π 1 (ν 0 (ah i.val (ι ax (qt l i.val).snd))))],δ Z 0]);let H8:=[ac 0 0,ac 1 0,ac 2 0,δ Z (↑(cl l):Int),δ Z (Z.wrap ((↑i.val:Int)+1))];let H9:=ω wN;let H_:=ω [δ Z (kd l),ε 4 0 (cn l),ε 5 0 (bd l).length,ε 6 0 (i.val+1)];let Ia:=cF bB;(decide ((↑i.val:Int)<(↑(cl l):Int))=true->
 (∃(a_:List Int),ints θ l=ints θ a_/\
 l.length=a_.length/\
 (qt l i.val).fst.fst<=a_.length/\
 (∀(c:Int),ct c a_->
 0<=c/\
 c<256)/\
 a_.length<=140737488355328/\
 (bp (ν (qt l i.val).fst.fst a_) (qt l i.val).fst.snd 2048).fst.length<=(ints θ (bp (ν (qt l i.val).fst.fst a_) (qt l i.val).fst.snd 2048).fst).length/\
 1<=1/\
 i.val<=(ι ax (qt l i.val).snd).length/\
 (i.val+1)*24<=140737488355328/\
 Nx (l9 l) i (H8,[H9,ω [ε 3 ((qt l i.val).fst.fst+(bp (ν (qt l i.val).fst.fst a_) (qt l i.val).fst.snd 2048).snd.fst) a_.length,δ Z (bp (ν (qt l i.val).fst.fst a_) (qt l i.val).fst.snd 2048).snd.snd],H_,ζ 5 1 (ints θ a_),ζ 3 1 (ints Z (qn l (cn l)).snd),ζ 5 1 (ints θ (bd l)),ζ 23 1 (ah i.val (ι ax (qt l i.val).snd)++[[π 1 (ν 0 (ah (bp (ν (qt l i.val).fst.fst a_) (qt l i.val).fst.snd 2048).fst.length (ints θ (bp (ν (qt l i.val).fst.fst a_) (qt l i.val).fst.snd 2048).fst)))]])]))/\
 ∃(a_:List Int),ints θ l=ints θ a_/\
 l.length=a_.length/\
 (qt l i.val).fst.fst<=a_.length/\
 (∀(c:Int),ct c a_->
 0<=c/\
 c<256)/\
 a_.length<=140737488355328/\
 ((bp (ν (qt l i.val).fst.fst a_) (qt l i.val).fst.snd 2048).fst.length<=(ints θ (bp (ν (qt l i.val).fst.fst a_) (qt l i.val).fst.snd 2048).fst).length/\
 1<=1/\
 i.val<=(ι ax (qt l i.val).snd).length/\
 (i.val+1)*24<=140737488355328/\
 Nx (l9 l) i (H8,[H9,ω [ε 3 ((qt l i.val).fst.fst+(bp (ν (qt l i.val).fst.fst a_) (qt l i.val).fst.snd 2048).snd.fst) a_.length,δ Z (bp (ν (qt l i.val).fst.fst a_) (qt l i.val).fst.snd 2048).snd.snd],H_,ζ 5 1 (ints θ a_),ζ 3 1 (ints Z (qn l (cn l)).snd),ζ 5 1 (ints θ (bd l)),ζ 23 1 (ah i.val (ι ax (qt l i.val).snd)++[[π 1 (ν 0 (ah (bp (ν (qt l i.val).fst.fst a_) (qt l i.val).fst.snd 2048).fst.length (ints θ (bp (ν (qt l i.val).fst.fst a_) (qt l i.val).fst.snd 2048).fst)))]])]))/\
 (bp (ν (qt l i.val).fst.fst a_) (qt l i.val).fst.snd 2048).fst.length<=(ints θ (bp (ν (qt l i.val).fst.fst a_) (qt l i.val).fst.snd 2048).fst).length/\
 1<=1/\
 i.val<=(ι ax (qt l i.val).snd).length/\
 (i.val+1)*24<=140737488355328/\
 Nx (l9 l) i (H8,[H9,ω [ε 3 ((qt l i.val).fst.fst+(bp (ν (qt l i.val).fst.fst a_) (qt l i.val).fst.snd 2048).snd.fst) a_.length,δ Z (bp (ν (qt l i.val).fst.fst a_) (qt l i.val).fst.snd 2048).snd.snd],H_,ζ 5 1 (ints θ a_),ζ 3 1 (ints Z (qn l (cn l)).snd),ζ 5 1 (ints θ (bd l)),ζ 23 1 (ah i.val (ι ax (qt l i.val).snd)++[[π 1 (ν 0 (ah (bp (ν (qt l i.val).fst.fst a_) (qt l i.val).fst.snd 2048).fst.length (ints θ (bp (ν (qt l i.val).fst.fst a_) (qt l i.val).fst.snd 2048).fst)))]])]))/\
 (decide ((↑i.val:Int)<(↑(cl l):Int))=false->
 ∃(a_:List Int),ints θ l=ints θ a_/\
 l.length=a_.length/\
 ((fe (ν (qt l i.val).fst.fst a_) (qt l i.val).fst.snd != 0)=true->
 K (ar [Ia,δ Z (fe (ν (qt l i.val).fst.fst a_) (qt l i.val).fst.snd)]) [])/\
 ((fe (ν (qt l i.val).fst.fst a_) (qt l i.val).fst.snd != 0)=false->
 ((cn l<=(ints Z (qn l (cn l)).snd).length/\
 (bd l).length<=(ints θ (bd l)).length/\
 i.val<=(ι ax (qt l i.val).snd).length/\
 True)/\
 True)/\
 ∃(n:List Int),∃(b:List Int),∃(jI:List (List Int)),ν 0 ft=ints Z n/\
 ν 0 gy=ints θ b/\
 ν 0 (ah i.val (ι ax (qt l i.val).snd))=ι ax jI/\
 qb n b jI/\
 (gZ (kd l) n b jI->
 True/\
 (false=true->
 K (ar [Ia,δ Z 0]) [])/\
 (false=false->
 cn l<=(ints Z (qn l (cn l)).snd).length/\
 (bd l).length<=(ints θ (bd l)).length/\
 i.val<=(ι ax (qt l i.val).snd).length/\
 K Rf []))/\
 ((gZ (kd l) n b jI->
 False)->
 True/\
 (true=true->
 K (ar [Ia,δ Z 3]) [])/\
 (true=false->
 cn l<=(ints Z (qn l (cn l)).snd).length/\
 (bd l).length<=(ints θ (bd l)).length/\
 i.val<=(ι ax (qt l i.val).snd).length/\
 K Rf [])))))
 ):aO Tryz.prog I7 (DJ b l 59) 59 [an (.sl 1 (ints θ b))] [] (vj [.num,.sl 1,.sl 1,.sl 1] (dh 0 K)):=by apply Eq.mp (a:=ay);kernel_rfl
theorem wb {l:List Int} {most:Int} (h0:0<=most) (e:Int):(ak l e most).1<=most/\0<=(ak l e most).1:=by
 unfold ak
 split
 ·split
  ·split
   ·exact⟨h0,gp _⟩
   ·exact⟨by simp only;omega,by simp only;omega⟩
  ·exact⟨h0,gp _⟩
  ·exact⟨h0,gp _⟩
 ·exact⟨h0,gp _⟩
theorem zT {l:List Int} {e most:Int} (h:e≠0):ak l e most=(0,0,e):=by unfold ak;rw[if_neg h]
theorem OV {l:List Int} (hb:bm l) (e most:Int):(bp l e most).1.length<=l.length/\(bp l e most).2.1<=l.length:=by
 have h1:=(wc hb e most).2.2
 unfold bp
 split
 ·split
  ·exact⟨bF _,h1⟩
  ·rename_i h2
   simp only[cW,fh]at h2 ⊢
   omega
 ·exact⟨bF _,h1⟩
theorem zG {l:List Int} (hb:bm l) {p:Nat×Int} (h:p.1<=l.length) (m:Int):(gd l p m).1<=l.length:=by
 have:=(wc (nW hb p.1) p.2 m).2.2
 rw[fh]at this
 unfold gd;simp only;omega
theorem Ql {l:List Int} (hb:bm l) {p:Nat×Int} (h:p.1<=l.length) (m:Int):(ui l p m).1<=l.length:=by
 have:=(OV (nW hb p.1) p.2 m).2
 rw[fh]at this
 unfold ui;simp only;omega
theorem Qj {l:List Int} (hb:bm l) (p:Nat×Int) (m:Int):(uh l p m).length<=l.length:=by
 have:=(OV (nW hb p.1) p.2 m).1
 rw[fh]at this
 unfold uh;omega
theorem Nd {l:List Int} (hb:bm l) {p:Nat×Int} (h:p.1<=l.length):∀ i,(pz l p i).1.1<=l.length/\(pz l p i).2.length=i
 | 0=>⟨h,rfl⟩
 |i+1=>by
  obtain⟨h1,h2⟩:=Nd hb h i
  exact⟨zG hb h1 _,by simp only[pz,bw,ko,h2]⟩
theorem Qb {l:List Int} (hb:bm l) {p:Nat×Int} (h:p.1<=l.length):∀ i,(nL l p i).1.1<=l.length/\(nL l p i).2.length=i/\∀ t∈(nL l p i).2,t.length<=l.length
 | 0=>⟨h,rfl,fun t ht=>by cases ht⟩
 |i+1=>by
  obtain⟨h1,h2,h3⟩:=Qb hb h i
  refine⟨Ql hb h1 _,by simp only[nL,bw,ko,h2],fun t ht=>?_⟩
  simp only[nL,gl,gY]at ht
  rcases ht with ht | rfl
  ·exact h3 t ht
  ·exact Qj hb _ _
theorem OP {l:List Int} (hb:bm l):(q1 l).1<=l.length:=zG hb (bF _) _
theorem Y0 {l:List Int} (hb:bm l):(q2 l).1<=l.length:=zG hb (OP hb) _
theorem v7 {l:List Int} (hb:bm l) (i:Nat):(qn l i).1.1<=l.length/\(qn l i).2.length=i:=Nd hb (Y0 hb) i
theorem OQ {l:List Int} (hb:bm l):(q3 l).1<=l.length:=Ql hb (v7 hb _).1 _
theorem Y1 {l:List Int} (hb:bm l):(q4 l).1<=l.length:=zG hb (OQ hb) _
theorem zS {l:List Int} (hb:bm l) (i:Nat):(qt l i).1.1<=l.length/\(qt l i).2.length=i/\∀ t∈(qt l i).2,t.length<=l.length:=Qb hb (Y1 hb) i
theorem J2 {l:List Int}:iw l (q1 l) 16=(cn l:Int)/\cn l<=16:=by
 have:=wb (l:=l.drop (q1 l).1) (most:=16) (by omega) (q1 l).2
 unfold cn iw;omega
theorem JZ {l:List Int}:iw l (q3 l) 64=(cl l:Int)/\cl l<=64:=by
 have:=wb (l:=l.drop (q3 l).1) (most:=64) (by omega) (q3 l).2
 unfold cl iw;omega
theorem tI {l:List Int} {p:Nat×Int} {m:Int} (h:p.2≠0):(gd l p m).2=p.2:=by unfold gd;rw[zT h]
theorem Zl {b:List Int} (h:em b=none):lI b=tQ 4:=by unfold lI;rw[h]
theorem Zj {b l:List Int} (h:em b=some l) (hf:fin l≠0):lI b=tQ (fin l):=by unfold lI;rw[h];simp only;rw[if_pos hf]
theorem OY {b l:List Int} (h:em b=some l) (hf:fin l=0) (hr:uA l):lI b=⟨0,kd l,(qn l (cn l)).2,bd l,(qt l (cl l)).2⟩:=by
 unfold lI;rw[h];simp only;rw[if_neg (by simp [hf]),if_pos hr]
theorem Zk {b l:List Int} (h:em b=some l) (hf:fin l=0) (hr:¬ uA l):lI b=tQ 3:=by
 unfold lI;rw[h];simp only;rw[if_neg (by simp [hf]),if_neg hr]
theorem YJ {b l:List Int} (h:em b=some l) (hb:bm b):bm l/\l.length<=b.length:=by
 have:=zL h
 subst this
 exact⟨fun c hc=>hb c (lR _ hc),by rw[mO];omega⟩
theorem TQ:dE Tryz.prog DI:=fun f k h=>by
 unfold DI at h
 split at h
 ·cases h;exact NF
 ·cases h;exact NQ
 ·exact OO _ _ h
theorem RO:bW Tryz.prog I7:=dI mixed TQ aM 10
theorem K7 {α:Type} {A B C D E X:α->Prop} (q:∃ l,A l/\B l/\C l/\D l/\E l/\X l):(∃ l,A l/\B l/\C l/\D l/\E l/\X l)/\∃ l,A l/\B l/\C l/\D l/\E l/\X l/\X l:=
 ⟨q,q.imp fun _ h=>⟨h.1,h.2.1,h.2.2.1,h.2.2.2.1,h.2.2.2.2.1,h.2.2.2.2.2,h.2.2.2.2.2⟩⟩
theorem pO {k:IntKind} {o:List Int} {n:Nat} (h:n=o.length):ν 0 (ah n (ints k o))=ints k o:=by
 subst h
 rw[gK,oq,cN]
theorem aaC {o:List (List Int)} {n:Nat} (h:n=o.length):ν 0 (ah n (o.map ax))=o.map ax:=by
 subst h
 rw[gK,<- List.map_take,cN]
theorem V4 {l:List Int} (hb:bm l) (hl:l.length<=900000):qb (qn l (cn l)).2 (bd l) (qt l (cl l)).2:=by
 have h1:=(v7 hb (cn l)).2
 have h2:=Qj hb (pn l) 2048
 have h3:=zS hb (cl l)
 have h4:=(J2 (l:=l)).2
 have h5:=(JZ (l:=l)).2
 have h6:(bd l).length<=l.length:=h2
 refine⟨?_,?_,?_,fun t ht=>?_⟩<;>simp only[maxLen]
 ·omega
 ·omega
 ·omega
 ·have:=h3.2.2 t ht;omega
theorem X5:aT Tryz.prog 59 IS:=PG RO mixed [.num,.sl 1,.sl 1,.sl 1] (fun args kb K h=>by
 unfold IS at h;split at h<;>try exact h.elim
 obtain⟨b,rfl,hb,hl,h⟩:=h
 cases ho:em b with
 |none=>
  rw[Zl ho]at h
  refine⟨DJ b [] 59,QF b [] K ((fun t=>⟨b,rfl,hb,by omega,fun _=>⟨⟨fun _=>h,fun f=>(by cases f)⟩,t⟩,fun m hm=>absurd hm (by rw[ho];simp)⟩) ?_)⟩
  rintro⟨_,hq⟩
  rw[ho]at hq;cases hq
 |some l=>
  obtain⟨hlb,yM⟩:=YJ ho hb
  refine⟨DJ b l 59,QF b l K ((fun t=>⟨b,rfl,hb,by omega,fun hn=>(by rw[ho]at hn;cases hn),fun m hm=>⟨fun hm0=>⟨⟨fun f=>(by cases f),fun _=>?_⟩,t⟩,⟨⟨fun f=>(by cases f),fun _=>?_⟩,t⟩⟩⟩) ?_)⟩
  rotate_left
  ·rw[ho,bh.injEq]at hm
   subst hm
   subst hm0
   exact At.mk' ⟨0,ho⟩ rfl
  ·rw[ho,bh.injEq]at hm
   subst hm
   exact At.mk' ⟨0,ho⟩ rfl
  rintro⟨_,_⟩
  have e0:ν 0 (ah l.length (ints θ l))=ints θ l:=pO rfl
  rw[e0]
  obtain⟨c1,c2⟩:=J2 (l:=l)
  obtain⟨d1,d2⟩:=JZ (l:=l)
  refine⟨⟨by rw[be];exact aE _,trivial⟩,by rw[be];omega,⟨nG⟩,l,rfl,be,bF _,hlb,by omega,l,rfl,rfl,OP hlb,hlb,by omega,?_,?_⟩
  ·have e1:(ak (ν (0+(ak (ν 0 l) 0 40).2.1) l) (ak (ν 0 l) 0 40).2.2 16).1=(cn l:Int):=c1
   rw[e1]
   exact At.mk' ⟨0,bF _,(v7 hlb 0).1⟩ rfl
  rintro⟨i,hi,hil⟩
  dsimp only at hil ⊢
  have hq:=v7 hlb i
  have e1:Z.wrap ((i:Int)+1)=((i+1:Nat):Int):=by rw[bR (by omega) (by omega)];rfl
  simp only[decide_eq_true_eq,decide_eq_false_iff_not]
  refine⟨fun hc=>K7 ⟨l,rfl,rfl,hil,hlb,by omega,aE _,by rw[be];omega,by omega,?_⟩,fun hc=>?_⟩
  ·refine Nx.mk' (⟨i+1,by omega,(v7 hlb (i+1)).1⟩:{i:Nat // i<=cn l/\(qn l i).1.1<=l.length}) ?_ (by show cn l - (i+1)<cn l - i;omega)
   show(_:List V×KB)=_
   have e2:ah i (ints Z (qn l i).2)=ints Z (qn l i).2:=fI (by rw[be];omega)
   have e3:ints Z (qn l i).2++[[η (.int Z (ak (l.drop (qn l i).1.1) (qn l i).1.2 4611686018427387904).1)]]=ints Z (qn l (i+1)).2:=by
    show _=ints Z ((qn l i).2++[_])
    rw[po];rfl
   rw[e1,e2,e3]
   rfl
  have:i=cn l:=by omega
  subst this
  refine⟨l,rfl,rfl,hil,hlb,by omega,l,rfl,rfl,OQ hlb,hlb,by omega,?_,?_⟩
  ·have e2:(ak (ν ((qn l (cn l)).1.1+(bp (ν (qn l (cn l)).1.1 l) (qn l (cn l)).1.2 2048).2.1) l) (bp (ν (qn l (cn l)).1.1 l) (qn l (cn l)).1.2 2048).2.2 64).1=(cl l:Int):=d1
   rw[e2]
   exact At.mk' ⟨0,bF _,(zS hlb 0).1⟩ rfl
  rintro⟨j,hj,hjl⟩
  dsimp only at hjl ⊢
  have Vb:=zS hlb j
  have e1:Z.wrap ((j:Int)+1)=((j+1:Nat):Int):=by rw[bR (by omega) (by omega)];rfl
  try simp only[decide_eq_true_eq,decide_eq_false_iff_not]
  refine⟨fun hc=>K7 ⟨l,rfl,rfl,hjl,hlb,by omega,by rw[be];exact aE _,aE _,by rw[qA];omega,by omega,?_⟩,fun hc=>?_⟩
  ·refine Nx.mk' (⟨j+1,by omega,(zS hlb (j+1)).1⟩:{i:Nat // i<=cl l/\(qt l i).1.1<=l.length}) ?_ (by show cl l - (j+1)<cl l - j;omega)
   show(_:List V×KB)=_
   have e2:ah j ((qt l j).2.map ax)=(qt l j).2.map ax:=fI (by rw[qA];omega)
   have e3:(qt l j).2.map ax++[[π 1 (ν 0 (ah (bp (l.drop (qt l j).1.1) (qt l j).1.2 2048).1.length (ints θ (bp (l.drop (qt l j).1.1) (qt l j).1.2 2048).1)))]]=(qt l (j+1)).2.map ax:=by
    rw[pO rfl]
    show _=((qt l j).2++[_]).map ax
    rw[jC];rfl
   rw[e1,e2,e3]
   rfl
  have:j=cl l:=by omega
  subst this
  refine⟨l,rfl,rfl,fun h1=>?_,fun h1=>?_⟩
  ·have hf:fin l≠0:=by
    have h2:fe (ν (qt l (cl l)).1.1 l) (qt l (cl l)).1.2≠0:=by simpa using h1
    exact h2
   rw[Zj ho hf]at h
   exact h
  ·have hf:fin l=0:=by
    have h2:fe (ν (qt l (cl l)).1.1 l) (qt l (cl l)).1.2=0:=by simpa using h1
    exact h2
   have f1:ν 0 (ah (cn l) (ints Z (qn l (cn l)).2))=ints Z (qn l (cn l)).2:=pO hq.2.symm
   have f2:ν 0 (ah (bd l).length (ints θ (bd l)))=ints θ (bd l):=pO rfl
   have f3:ν 0 (ah (cl l) ((qt l (cl l)).2.map ax))=(qt l (cl l)).2.map ax:=aaC Vb.2.1.symm
   have g1:cn l<=(ints Z (qn l (cn l)).2).length:=by rw[be];omega
   have g2:(bd l).length<=(ints θ (bd l)).length:=by rw[be];omega
   have g3:cl l<=((qt l (cl l)).2.map ax).length:=by rw[qA];omega
   rw[f1,f2,f3]
   refine⟨⟨⟨g1,g2,g3,trivial⟩,trivial⟩,_,_,_,rfl,rfl,rfl,V4 hlb (by omega),fun hr=>⟨trivial,fun f=>(by cases f),fun _=>⟨g1,g2,g3,?_⟩⟩,fun hr=>⟨trivial,fun _=>?_,fun f=>(by cases f)⟩⟩
   ·rw[OY ho hf hr]at h;exact h
   ·rw[Zk ho hf hr]at h;exact h)
def IQ:aH:=fun args kb K=>match args,kb with
 | [.agg [.int Z k,an (.sl 1 N),an (.sl 1 B),an (.sl 1 L)]],[]=>∃ n b l,N=ints Z n/\B=ints θ b/\L=l.map ax/\qb n b l/\uu b l/\
  (gZ k n b l->K (.υ [an (.sl 1 (ints θ (bT (cZ k n b l)))),.int Z 0]) [])/\(¬ gZ k n b l->K (.υ [an (.sl 1 []),.int Z 3]) [])
 |_,_=>False
theorem zF {pre rest:List Int} {v m:Int} (h0:0<=v) (h:v<=9223372036854775807) (hm:v<=m):gd (pre++(aU v++rest)) (pre.length,0) m=((pre++aU v).length,0)/\iw (pre++(aU v++rest)) (pre.length,0) m=v:=by
 unfold gd iw
 simp only
 rw[List.drop_left,Gk h0 h hm,bw]
 exact⟨rfl,rfl⟩
theorem Qk {pre rest t:List Int} {m:Int} (hm:(t.length:Int)<=m) (h:(t.length:Int)<=9223372036854775807):ui (pre++(bY t++rest)) (pre.length,0) m=((pre++bY t).length,0)/\uh (pre++(bY t++rest)) (pre.length,0) m=t:=by
 unfold ui uh
 simp only
 rw[List.drop_left,OU hm h,bw]
 exact⟨rfl,rfl⟩
theorem YV {k:Int} {n:List Int} (i:Nat):pu1 k n n.length=pu1 k n i++gL (n.drop i):=by
 unfold pu1
 have:=JQ (a:=n.take i) (b:=n.drop i)
 rw[List.take_append_drop]at this
 rw[cN,this]
 simp only[dQ]
theorem YW {k:Int} {n b:List Int} {l:List (List Int)} (i:Nat):cZ k n b l=pu2 k n b l i++fM (l.drop i):=by
 unfold cZ pu2
 have:=JT (a:=l.take i) (b:=l.drop i)
 rw[List.take_append_drop]at this
 rw[cN,this]
 simp only[dQ]
theorem SN {n:List Int} {i:Nat} (h:i<n.length):gL (n.drop i)=aU (gI n i)++gL (n.drop (i+1)):=by
 have h1:=List.drop_eq_getElem_cons h
 have h2:=yr h
 rw[bx h,bh.injEq]at h2
 rw[h1,h2]
 simp [gL]
theorem SP {n:List (List Int)} {i:Nat} (h:i<n.length):fM (n.drop i)=bY (gT n i)++fM (n.drop (i+1)):=by
 have h1:=List.drop_eq_getElem_cons h
 have h2:=yu h
 rw[bx h,bh.injEq]at h2
 rw[h1,h2]
 simp [fM]
section
variable {k:Int} {n b:List Int} {l:List (List Int)} (hr:gZ k n b l)
include hr
theorem O8:q1 (cZ k n b l)=((aU k).length,0)/\kd (cZ k n b l)=k:=by
 have e:cZ k n b l=[]++(aU k++(aU (n.length:Int)++gL n++bY b++aU (l.length:Int)++fM l)):=by
  unfold cZ pu2 pu1
  rw[cN,cN]
  simp only[dQ,jm]
 have h1:=hr.k1
 have h2:=hr.k2
 unfold q1 kd
 rw[e]
 exact zF (pre:=[]) (by omega) (by omega) (by omega)
theorem Gy:q2 (cZ k n b l)=((aU k++aU (n.length:Int)).length,0)/\cn (cZ k n b l)=n.length:=by
 have e:cZ k n b l=aU k++(aU (n.length:Int)++(gL n++bY b++aU (l.length:Int)++fM l)):=by
  unfold cZ pu2 pu1
  rw[cN,cN]
  simp only[dQ]
 have h1:=hr.nl
 have h2:=zF (pre:=aU k) (rest:=gL n++bY b++aU (l.length:Int)++fM l) (v:=(n.length:Int)) (m:=16) (by omega) (by omega) (by omega)
 rw[<- e]at h2
 unfold q2 cn
 rw[(O8 hr).1,h2.1,h2.2]
 exact⟨rfl,dr _⟩
theorem Gz:∀ i,i<=n.length->qn (cZ k n b l) i=(((pu1 k n i).length,0),n.take i)
 | 0,_=>by
  unfold qn pz
  rw[(Gy hr).1,OE];rfl
 |i+1,hi=>by
  have ih:=Gz i (by omega)
  unfold qn at ih ⊢
  simp only[pz]
  rw[ih]
  have e:cZ k n b l=pu1 k n i++(aU (gI n i)++(gL (n.drop (i+1))++bY b++aU (l.length:Int)++fM l)):=by
   unfold cZ pu2
   rw[YV i,SN (by omega),cN]
   simp only[dQ]
  have h0:=hr.ns _ (yt (show i<n.length by omega))
  have h2:=zF (pre:=pu1 k n i) (rest:=gL (n.drop (i+1))++bY b++aU (l.length:Int)++fM l) (v:=gI n i) (m:=4611686018427387904) h0.1 (by omega) h0.2
  rw[<- e]at h2
  simp only
  rw[h2.1,h2.2,OG (by omega),DO (by omega)]
theorem ZG:pn (cZ k n b l)=((pu1 k n n.length).length,0):=by
 unfold pn
 rw[(Gy hr).2,Gz hr _ (aE _)]
theorem O9:q3 (cZ k n b l)=((pu1 k n n.length++bY b).length,0)/\bd (cZ k n b l)=b:=by
 have e:cZ k n b l=pu1 k n n.length++(bY b++(aU (l.length:Int)++fM l)):=by
  unfold cZ pu2
  rw[cN]
  simp only[dQ]
 have h1:=hr.bl
 have h2:=Qk (pre:=pu1 k n n.length) (rest:=aU (l.length:Int)++fM l) (t:=b) (m:=2048) (by omega) (by omega)
 rw[<- e]at h2
 unfold q3 bd
 rw[ZG hr]
 exact h2
theorem O_:q4 (cZ k n b l)=((pu2 k n b l 0).length,0)/\cl (cZ k n b l)=l.length:=by
 have e:cZ k n b l=(pu1 k n n.length++bY b)++(aU (l.length:Int)++fM l):=by
  unfold cZ pu2
  rw[cN]
  simp only[dQ]
 have h1:=hr.ll
 have h2:=zF (pre:=pu1 k n n.length++bY b) (rest:=fM l) (v:=(l.length:Int)) (m:=64) (by omega) (by omega) (by omega)
 rw[<- e]at h2
 unfold q4 cl
 rw[(O9 hr).1,h2.1,h2.2,OH]
 exact⟨rfl,dr _⟩
theorem GA:∀ i,i<=l.length->qt (cZ k n b l) i=(((pu2 k n b l i).length,0),l.take i)
 | 0,_=>by
  unfold qt nL
  rw[(O_ hr).1];rfl
 |i+1,hi=>by
  have ih:=GA i (by omega)
  unfold qt at ih ⊢
  simp only[nL]
  rw[ih]
  have e:cZ k n b l=pu2 k n b l i++(bY (gT l i)++fM (l.drop (i+1))):=by
   rw[YW i,SP (by omega)]
  have h0:=hr.ts _ (DP (show i<l.length by omega))
  have h2:=Qk (pre:=pu2 k n b l i) (rest:=fM (l.drop (i+1))) (t:=gT l i) (m:=2048) (by omega) (by omega)
  rw[<- e]at h2
  simp only
  rw[h2.1,h2.2,OJ (by omega),yw (by omega)]
theorem Zm:lI (bT (cZ k n b l))=⟨0,k,n,b,l⟩:=by
 have h1:=(O_ hr).2
 have h2:pt (cZ k n b l)=((cZ k n b l).length,0):=by
  unfold pt
  rw[h1,GA hr _ (aE _)];rfl
 have hf:fin (cZ k n b l)=0:=by
  unfold fin
  rw[h2]
  show fe ((cZ k n b l).drop (cZ k n b l).length) 0=0
  rw[List.drop_length];rfl
 have e1:kd (cZ k n b l)=k:=(O8 hr).2
 have e2:(qn (cZ k n b l) (cn (cZ k n b l))).2=n:=by rw[(Gy hr).2,Gz hr _ (aE _),cN]
 have e3:bd (cZ k n b l)=b:=(O9 hr).2
 have e4:(qt (cZ k n b l) (cl (cZ k n b l))).2=l:=by rw[h1,GA hr _ (aE _),cN]
 have hR:uA (cZ k n b l):=by
  unfold uA
  rw[e1,e2,e3,e4];exact hr
 rw[OY zK hf hR,e1,e2,e3,e4]
end
theorem XZ:aT Tryz.prog 47 IQ:=fun args kb K hs=>yy X1 [.eB 1] args kb K (by
 unfold IQ at hs;split at hs<;>try exact hs.elim
 rename_i k _ _ _
 obtain⟨n,b,l,rfl,rfl,rfl,hl,hb,hy,hn⟩:=hs
 refine⟨n,b,l,rfl,rfl,rfl,hl,hb,fun hr=>?_,fun hr=>?_⟩
 ·refine⟨by rw[be,mO];exact aE _,?_⟩
  have e:ν 0 (ah ((cZ k n b l).length+4) (ints θ (bT (cZ k n b l))))=ints θ (bT (cZ k n b l)):=pO (by rw[mO])
  show K (.υ [an (.sl 1 (ν 0 (ah ((cZ k n b l).length+4) (ints θ (bT (cZ k n b l)))))),.int Z 0]) []
  rw[e]
  exact hy hr
 ·refine⟨aE _,?_⟩
  exact hn hr)
theorem ZA {k:Int} {n b:List Int} {l:List (List Int)} (h:gZ k n b l):(cZ k n b l).length<=100000:=OI h _
end Go.Proofs.YtfcjngcnifdmnaaGreat.Fm
namespace Go.Proofs.YtfcjngcnifdmnaaGreat
open Vc Go
open Go.IntKind renaming i64->Z,u8->θ,u32->gq
open Vc.V renaming any->γ,int->δ,sl->ε,sb->ξ,ptr->ac,dat->an,υ->ar,ae->aG,mp->aV,arr->bc,agg->cF
open Vc.KO renaming row->ζ,dead->ο,cells->ω,objs->bE
open Vc.D renaming val->η,sl->π
open List renaming map->ι,drop->ν,take->ah,length_append->bw,getElem?_eq_getElem->bx,getElem?_eq_some_iff->bU,length_map->cg,Mem->ct,take_length->cN,replicate->cQ,length_take->cW,append_assoc->dQ,getElem?_append_right->ef,getElem?_append_left->eH,mem_cons->eP,append_nil->fg,length_drop->fh,getElem?_map->fG,mem_map->fH,take_of_length_le->fI,getElem?_set_ne->fR,mem_cons_of_mem->fS,mem_append->gl,mem_of_getElem?->gm,getElem?_eq_none->gA,getElem?_set_self->gB,length_set->gC,range->gD,drop_zero->gK,mem_singleton->gY,flatten_cons->im,length_cons->io,mem_cons_self->iA,getElem?_take_of_lt->jj,length_nil->jk,nil_append->jm,getElem?_drop->jB,map_append->jC,take_add_one->jY,ext_getElem?->km,getD_eq_getElem?_getD->kn,length_singleton->ko,eq_nil_of_length_eq_zero->kG,mem_append_left->lR,mem_filter->lS
open Go.Value renaming int->κ,slice->eI,bool->fa,map->gr,oneCell'->kq
open Nat renaming le_refl->aE,zero_le->bF,beq->bZ,eq_of_beq_eq_true->cy,zero_add->cL,add_assoc->fT,lor->gE,lt_or_ge->iX,sub_zero->kp
open Option renaming some->bh,bind_eq_some_iff->jF,map->jZ
open Int renaming toNat_natCast->dr,le_refl->gp
open Bool renaming and_eq_true->kE
set_option linter.unusedVariables false
set_option linter.unusedSimpArgs false
set_option maxRecDepth 100000
abbrev Ex (o:List Int) (v:Int):LI where
 α:={i:Nat // i<=o.length/\v ∉ o.take i}
 live:=[0,1,5]
 st i:=([an (.sl 1 (ints Z o)),.int Z v,.int Z (i.1:Int)],[])
 μ i:=o.length - i.1
def dA (l:List Int) (v:Int):List Int:=l.filter (fun x=>x != v)
abbrev AO (o:List Int) (v:Int):LI where
 α:={i:Nat // i<=o.length}
 live:=[0,1,5,6]
 dN:=[.slot 2 3 1]
 st i:=([an (.sl 1 (ints Z o)),.int Z v,.sl 0 0 (dA (o.take i.1) v).length,.int Z (i.1:Int)],[ζ 3 1 (ints Z (dA (o.take i.1) v))])
 μ i:=o.length - i.1
abbrev FT (b:List Int):LI where
 α:={i:Nat // 1<=i/\i<=15/\∀ k,1<=k->k<i->b.getD k 0=0}
 live:=[0,3]
 st i:=([an (.sl 1 (ints θ b)),.int Z (i.1:Int)],[])
 μ i:=15 - i.1
def HS (o:List Int) (v:Int):FuncId->Nat->Option LI
 | 93,2=>some (Ex o v)
 | 94,3=>some (AO o v)
 | 77,4=>some (FT o)
 |_,_=>none
def Bw:aH:=fun args kb K=>match args,kb with
 | [an (.sl 1 O),.int Z v],[]=>∃ o:List Int,O=ints Z o/\o.length<=100000/\K (ξ (decide (v∈o))) []
 |_,_=>False
def BU:aH:=fun args kb K=>match args,kb with
 | [an (.sl 1 O),.int Z v],[]=>∃ o:List Int,O=ints Z o/\o.length<=100000/\K (an (.sl 1 (ints Z (dA o v)))) []
 |_,_=>False
def lG (b:List Int):Int:=if b.length=16/\(∀ k,k<15->1<=k->b.getD k 0=0)/\¬ (b.getD 0 0=0/\b.getD 15 0≠0∨b.getD 0 0≠0/\b.getD 15 0≠7)then b.getD 0 0 else -1
def BE:aH:=fun args kb K=>match args,kb with
 | [an (.sl 1 B)],[]=>∃ b:List Int,B=ints θ b/\bm b/\b.length<=100000/\K (.int Z (lG b)) []
 |_,_=>False
def l5 (c:Vw) (ch id:Int):Vw:=
 if ch=0 then(if(id ∉ c.mem/\id ∉ c.aL)∨(id∈c.mem/\c.mem.length=1)then c else⟨c.vi,c.vv,c.ve+1,dA c.mem id,dA c.aL id⟩)
 else if ch=1 then(if id∈c.mem∨id∈c.aL then c else⟨c.vi,c.vv,c.ve+1,c.mem,c.aL++[id]⟩)
 else if ch=2 then(if id ∉ c.aL then c else⟨c.vi,c.vv,c.ve+1,c.mem++[id],dA c.aL id⟩)else c
def IP:aH:=fun args kb K=>match args,kb with
 | [.agg [.int Z vi,.int Z vv,.int Z ve,an (.sl 1 M),an (.sl 1 J)],.int Z ch,.int Z id],[]=>∃ m j:List Int,M=ints Z m/\J=ints Z j/\m.length<=1000/\j.length<=1000/\0<=ve/\ve<=1000000/\K (wA (l5 ⟨vi,vv,ve,m,j⟩ ch id)) []
 |_,_=>False
def FQ:FuncId->Option dw
 | 93=>some ⟨[.fp 1],Bw⟩
 | 94=>some ⟨[.eB 1],BU⟩
 |_=>none
noncomputable def Jc:bM:=dF Tryz.prog FQ aM 10
theorem abE (o:List Int) (v:Int) (K:V->KB->Prop) (ay:
 At (Ex o v) ([an (π 1 (ints Z o)),δ Z v,δ Z 0],[])/\
 ∀(i:{i:Nat // i<=o.length/\
 ¬v∈ah i o }),(decide ((↑i.val:Int)<(↑(ints Z o).length:Int))=true->
 aQ (↑i.val:Int)/\
 ∃(e:List D),(ints Z o)[(↑i.val:Int).toNat]? =some e/\
 ∃(n:Int),e[0]? =some (η (κ Z n))/\
 ((n == v)=true->
 K (ξ true) [])/\
 ((n == v)=false->
 Nx (Ex o v) i ([an (π 1 (ints Z o)),δ Z v,δ Z (Z.wrap ((↑i.val:Int)+1))],[])))/\
 (decide ((↑i.val:Int)<(↑(ints Z o).length:Int))=false->
 K (ξ false) [])
 ):aO Tryz.prog X0 (HS o v 93) 93 [an (.sl 1 (ints Z o)),.int Z v] [] K:=by apply Eq.mp (a:=ay);kernel_rfl
theorem acH (o:List Int) (v:Int) (K:V->KB->Prop) (ay:
 At (AO o v) ([an (π 1 (ints Z o)),δ Z v,ε 0 0 0,δ Z 0],[ζ 3 1 []])/\
 ∀(i:{i:Nat // i<=o.length }),let dP:=δ Z (Z.wrap ((↑i.val:Int)+1));(decide ((↑i.val:Int)<(↑(ints Z o).length:Int))=true->
 aQ (↑i.val:Int)/\
 ∃(e:List D),(ints Z o)[(↑i.val:Int).toNat]? =some e/\
 ∃(n:Int),e[0]? =some (η (κ Z n))/\
 ((n != v)=true->
 aQ (↑i.val:Int)/\
 ∃(e:List D),(ints Z o)[(↑i.val:Int).toNat]? =some e/\
 ∃(n:Int),e[0]? =some (η (κ Z n))/\
 1<=1/\
 (dA (ah i.val o) v).length<=(ints Z (dA (ah i.val o) v)).length/\
 ((dA (ah i.val o) v).length+1)*8<=140737488355328/\
 Nx (AO o v) i ([an (π 1 (ints Z o)),δ Z v,ε 0 0 ((dA (ah i.val o) v).length+1),dP],[ζ 3 1 (ah (dA (ah i.val o) v).length (ints Z (dA (ah i.val o) v))++[[η (κ Z n)]])]))/\
 ((n != v)=false->
 Nx (AO o v) i ([an (π 1 (ints Z o)),δ Z v,ε 0 0 (dA (ah i.val o) v).length,dP],[ζ 3 1 (ints Z (dA (ah i.val o) v))])))/\
 (decide ((↑i.val:Int)<(↑(ints Z o).length:Int))=false->
 (dA (ah i.val o) v).length<=(ints Z (dA (ah i.val o) v)).length/\
 K (an (π 1 (ν 0 (ah (dA (ah i.val o) v).length (ints Z (dA (ah i.val o) v)))))) [])
 ):aO Tryz.prog X0 (HS o v 94) 94 [an (.sl 1 (ints Z o)),.int Z v] [] (iF [.eB 1] (dh 0 K)):=by apply Eq.mp (a:=ay);kernel_rfl
theorem abY (b:List Int) (K:V->KB->Prop) (ay:
 (((↑(ints θ b).length:Int) != 16)=true->
 K (δ Z (-1)) [])/\
 (((↑(ints θ b).length:Int) != 16)=false->
 At (FT b) ([an (π 1 (ints θ b)),δ Z 1],[])/\
 ∀(i:{i:Nat // 1<=i/\
 i<=15/\
 ∀(k:Nat),1<=k->
 k<i->
 b.getD k 0=0 }),(decide ((↑i.val:Int)<15)=true->
 aQ (↑i.val:Int)/\
 ∃(e:List D),(ints θ b)[(↑i.val:Int).toNat]? =some e/\
 ∃(n:Int),e[0]? =some (η (κ θ n))/\
 ((n != 0)=true->
 K (δ Z (-1)) [])/\
 ((n != 0)=false->
 Nx (FT b) i ([an (π 1 (ints θ b)),δ Z (Z.wrap ((↑i.val:Int)+1))],[])))/\
 (decide ((↑i.val:Int)<15)=false->
 aQ 0/\
 ∃(e:List D),(ints θ b)[0]? =some e/\
 ∃(n:Int),e[0]? =some (η (κ θ n))/\
 ((n == 0)=true->
 aQ 15/\
 ∃(e:List D),(ints θ b)[15]? =some e/\
 ∃(n:Int),e[0]? =some (η (κ θ n))/\
 ((n != 0)=true->
 K (δ Z (-1)) [])/\
 ((n != 0)=false->
 aQ 0/\
 ∃(e:List D),(ints θ b)[0]? =some e/\
 ∃(n:Int),e[0]? =some (η (κ θ n))/\
 ((n != 0)=true->
 aQ 15/\
 ∃(e:List D),(ints θ b)[15]? =some e/\
 ∃(n:Int),e[0]? =some (η (κ θ n))/\
 ((n != 7)=true->
 K (δ Z (-1)) [])/\
 ((n != 7)=false->
 aQ 0/\
 ∃(e:List D),(ints θ b)[0]? =some e/\
 ∃(n:Int),e[0]? =some (η (κ θ n))/\
 K (δ Z (Z.wrap n)) []))/\
 ((n != 0)=false->
 aQ 0/\
 ∃(e:List D),(ints θ b)[0]? =some e/\
 ∃(n:Int),e[0]? =some (η (κ θ n))/\
 K (δ Z (Z.wrap n)) [])))/\
 ((n == 0)=false->
 aQ 0/\
 ∃(e:List D),(ints θ b)[0]? =some e/\
 ∃(n:Int),e[0]? =some (η (κ θ n))/\
 ((n != 0)=true->
 aQ 15/\
 ∃(e:List D),(ints θ b)[15]? =some e/\
 ∃(n:Int),e[0]? =some (η (κ θ n))/\
 ((n != 7)=true->
 K (δ Z (-1)) [])/\
 ((n != 7)=false->
 aQ 0/\
 ∃(e:List D),(ints θ b)[0]? =some e/\
 ∃(n:Int),e[0]? =some (η (κ θ n))/\
 K (δ Z (Z.wrap n)) []))/\
 ((n != 0)=false->
 aQ 0/\
 ∃(e:List D),(ints θ b)[0]? =some e/\
 ∃(n:Int),e[0]? =some (η (κ θ n))/\
 K (δ Z (Z.wrap n)) []))))
 ):aO Tryz.prog X0 (HS b 0 77) 77 [an (.sl 1 (ints θ b))] [] K:=by apply Eq.mp (a:=ay);kernel_rfl
theorem abV (vi vv ve:Int) (m j:List Int) (ch id:Int) (K:V->KB->Prop) (ay:
 let aq:=(cF [δ Z vi,δ Z vv,δ Z ve,an (π 1 (ints Z m)),an (π 1 (ints Z j))]);let bB:=(ah (0+(ints Z j).length) ([]++ints Z j)++[[η (κ Z id)]]);let ft:=(ah (0+(ints Z m).length) ([]++ints Z m)++[[η (κ Z id)]]);∃(o:List Int),ints Z m=ints Z o/\
 o.length<=100000/\
 ∃(qE:List Int),ints Z j=ints Z qE/\
 qE.length<=100000/\
 ((ch == 0)=true->
 ((!decide (id∈o))=true->
 ((!decide (id∈qE))=true->
 K aq [])/\
 ((!decide (id∈qE))=false->
 (decide (id∈o)=true->
 (((↑(ints Z m).length:Int) == 1)=true->
 K aq [])/\
 (((↑(ints Z m).length:Int) == 1)=false->
 ∃(o:List Int),ints Z m=ints Z o/\
 o.length<=100000/\
 ∃(kW:List Int),ints Z j=ints Z kW/\
 kW.length<=100000/\
 K (cF [δ Z vi,δ Z vv,δ Z (Z.wrap (ve+1)),an (π 1 (ints Z (dA o id))),an (π 1 (ints Z (dA kW id)))]) []))/\
 (decide (id∈o)=false->
 ∃(o:List Int),ints Z m=ints Z o/\
 o.length<=100000/\
 ∃(kW:List Int),ints Z j=ints Z kW/\
 kW.length<=100000/\
 K (cF [δ Z vi,δ Z vv,δ Z (Z.wrap (ve+1)),an (π 1 (ints Z (dA o id))),an (π 1 (ints Z (dA kW id)))]) [])))/\
 ((!decide (id∈o))=false->
 (decide (id∈o)=true->
 (((↑(ints Z m).length:Int) == 1)=true->
 K aq [])/\
 (((↑(ints Z m).length:Int) == 1)=false->
 ∃(o:List Int),ints Z m=ints Z o/\
 o.length<=100000/\
 ∃(kW:List Int),ints Z j=ints Z kW/\
 kW.length<=100000/\
 K (cF [δ Z vi,δ Z vv,δ Z (Z.wrap (ve+1)),an (π 1 (ints Z (dA o id))),an (π 1 (ints Z (dA kW id)))]) []))/\
 (decide (id∈o)=false->
 ∃(o:List Int),ints Z m=ints Z o/\
 o.length<=100000/\
 ∃(kW:List Int),ints Z j=ints Z kW/\
 kW.length<=100000/\
 K (cF [δ Z vi,δ Z vv,δ Z (Z.wrap (ve+1)),an (π 1 (ints Z (dA o id))),an (π 1 (ints Z (dA kW id)))]) [])))/\
 ((ch == 0)=false->
 ((ch == 1)=true->
 (decide (id∈o)=true->
 K aq [])/\
 (decide (id∈o)=false->
 (decide (id∈qE)=true->
 K aq [])/\
 (decide (id∈qE)=false->
 True/\
 0<=0/\
 (0+(ints Z j).length)*8<=140737488355328/\
 1<=1/\
 0+(ints Z j).length<=([]++ints Z j).length/\
 (0+(ints Z j).length+1)*8<=140737488355328/\
 0+(ints Z j).length+1<=bB.length/\
 K (cF [δ Z vi,δ Z vv,δ Z (Z.wrap (ve+1)),an (π 1 (ints Z m)),an (π 1 (ν 0 (ah (0+(ints Z j).length+1) bB)))]) [])))/\
 ((ch == 1)=false->
 ((ch == 2)=true->
 ((!decide (id∈qE))=true->
 K aq [])/\
 ((!decide (id∈qE))=false->
 True/\
 0<=0/\
 (0+(ints Z m).length)*8<=140737488355328/\
 1<=1/\
 0+(ints Z m).length<=([]++ints Z m).length/\
 (0+(ints Z m).length+1)*8<=140737488355328/\
 ∃(o:List Int),ints Z j=ints Z o/\
 o.length<=100000/\
 0+(ints Z m).length+1<=ft.length/\
 K (cF [δ Z vi,δ Z vv,δ Z (Z.wrap (ve+1)),an (π 1 (ν 0 (ah (0+(ints Z m).length+1) ft))),an (π 1 (ints Z (dA o id)))]) []))/\
 ((ch == 2)=false->
 K aq [])))
 ):aO Tryz.prog Jc (aM 61) 61 [.agg [.int Z vi,.int Z vv,.int Z ve,an (.sl 1 (ints Z m)),an (.sl 1 (ints Z j))],.int Z ch,.int Z id] [] (vj [.num,.num,.num,.sl 1,.sl 1] (dh 0 K)):=by apply Eq.mp (a:=ay);kernel_rfl
theorem n_ {k:IntKind} {l:List Int} {n:Int} {i:Nat} {Q:Int->Prop} (hn:0<=n) (h:i<l.length) (q:Q (l.getD i 0)):aQ n/\∃ e,(ints k l)[i]? =some e/\∃ x,e[0]? =some (η (.int k x))/\Q x:=
 ⟨by unfold aQ;omega,[η (.int k (l.getD i 0))],by rw[kw,bx h,kn,bx h];rfl,_,rfl,q⟩
theorem vk {l:List Int} {i:Nat} (h:i<l.length):l[i]? =some (l.getD i 0):=by rw[kn,bx h];rfl
theorem yx {l:List Int} {i:Nat} (h:i<l.length):l.getD i 0∈l:=gm (vk h)
theorem Hj {l:List Int} {i:Nat} (h:i<l.length):l.take (i+1)=l.take i++[l.getD i 0]:=by rw[jY,vk h];rfl
theorem Xh:aT Tryz.prog 93 Bw:=eM f_ mixed (fun args kb K h=>by
 unfold Bw at h;split at h<;>try exact h.elim
 rename_i v
 obtain⟨o,rfl,hl,h⟩:=h
 refine⟨_,abE o v K ⟨At.mk' ⟨0,bF _,by simp⟩ rfl,?_⟩⟩
 rintro⟨i,hi,ht⟩
 simp only[be,decide_eq_true_eq,decide_eq_false_iff_not]
 refine⟨fun hc=>n_ (by omega) (by omega) ⟨fun hx=>?_,fun hx=>?_⟩,fun hc=>?_⟩
 ·simp only[beq_iff_eq]at hx
  rw[dr]at hx
  rwa [decide_eq_true (by rw[<- hx];exact yx (by omega))]at h
 ·simp only[beq_eq_false_iff_ne,ne_eq]at hx
  rw[dr]at hx
  rw[bR (by omega) (by omega)]
  refine Nx.mk' (⟨i+1,by omega,?_⟩:{i:Nat // i<=o.length/\v ∉ o.take i}) rfl (by show o.length - (i+1)<o.length - i;omega)
  rw[Hj (by omega),gl,gY]
  rintro(h1 | h1)
  ·exact ht h1
  ·exact hx h1.symm
 ·have:i=o.length:=by omega
  subst this
  rw[cN]at ht
  rwa [decide_eq_false ht]at h)
theorem Nl (a b:List Int) (v:Int):dA (a++b) v=dA a v++dA b v:=List.filter_append ..
theorem FF (a:List Int) (v:Int):(dA a v).length<=a.length:=List.length_filter_le ..
theorem Yq:aT Tryz.prog 94 BU:=fun args kb K h=>yy (eM f_ mixed (S:=fun a k K0=>∃ T,aO Tryz.prog X0 T 94 a k K0) fun _ _ _ h=>h) [.eB 1] args kb K (by
 unfold BU at h;split at h<;>try exact h.elim
 rename_i v
 obtain⟨o,rfl,hl,h⟩:=h
 refine⟨_,acH o v K ⟨At.mk' ⟨0,bF _⟩ rfl,?_⟩⟩
 rintro⟨i,hi⟩
 have hn:=FF (o.take i) v
 rw[cW]at hn
 simp only[be,decide_eq_true_eq,decide_eq_false_iff_not]
 refine⟨fun hc=>n_ (by omega) (by omega) ⟨fun hx=>n_ (by omega) (by omega) ⟨aE _,aE _,by omega,?_⟩,fun hx=>?_⟩,fun hc=>⟨aE _,?_⟩⟩
 ·rw[dr]at hx ⊢
  have e:dA (o.take (i+1)) v=dA (o.take i) v++[o.getD i 0]:=by rw[Hj (by omega),Nl];unfold dA;rw[List.filter_cons_of_pos (by exact hx)];rfl
  refine Nx.mk' (⟨i+1,by omega⟩:{i:Nat // i<=o.length}) ?_ (by show o.length - (i+1)<o.length - i;omega)
  rw[bR (by omega) (by omega)]
  dsimp only
  have e2:ah (dA (o.take i) v).length (ints Z (dA (o.take i) v))=ints Z (dA (o.take i) v):=fI (by rw[be];exact aE _)
  rw[e,e2,po,bw]
  rfl
 ·rw[dr]at hx
  have e:dA (o.take (i+1)) v=dA (o.take i) v:=by rw[Hj (by omega),Nl];unfold dA;rw[List.filter_cons_of_neg (by rw[hx];exact Bool.false_ne_true)];simp
  refine Nx.mk' (⟨i+1,by omega⟩:{i:Nat // i<=o.length}) ?_ (by show o.length - (i+1)<o.length - i;omega)
  rw[bR (by omega) (by omega)]
  dsimp only
  rw[e];rfl
 ·have:i=o.length:=by omega
  subst this
  rw[gK,fI (by rw[be];exact aE _),cN]
  exact h)
theorem SJ {b:List Int} (h:bm b) (i:Nat):0<=b.getD i 0/\b.getD i 0<256:=by
 by_cases hi:i<b.length
 ·exact h _ (yx hi)
 ·rw[kn,gA (by omega)];exact⟨by decide,by decide⟩
theorem XF:aT Tryz.prog 77 BE:=eM f_ mixed (fun args kb K h=>by
 unfold BE at h;split at h<;>try exact h.elim
 obtain⟨b,rfl,hb,hl,h⟩:=h
 refine⟨_,abY b K ⟨fun hc=>?_,fun hc=>?_⟩⟩
 ·rw[be]at hc
  have:lG b=-1:=if_neg (fun w=>by simp [w.1]at hc)
  rwa [this]at h
 rw[be]at hc
 have T8:b.length=16:=by simp at hc;omega
 refine⟨At.mk' ⟨1,by omega,by omega,fun k h1 h2=>by omega⟩ rfl,?_⟩
 rintro⟨i,h1,h2,h3⟩
 simp only[decide_eq_true_eq,decide_eq_false_iff_not,bne_iff_ne,ne_eq,bne_eq_false_iff_eq,beq_iff_eq,beq_eq_false_iff_ne]
 refine⟨fun hc=>n_ (by omega) (by omega) ⟨fun hx=>?_,fun hx=>?_⟩,fun hc=>?_⟩
 ·rw[dr]at hx
  have:lG b=-1:=if_neg (fun w=>hx (w.2.1 i (by omega) h1))
  rwa [this]at h
 ·rw[dr]at hx
  rw[bR (by omega) (by omega)]
  refine Nx.mk' (⟨i+1,by omega,by omega,fun k k1 k2=>?_⟩:{i:Nat // 1<=i/\i<=15/\∀ k,1<=k->k<i->b.getD k 0=0}) rfl (by show 15 - (i+1)<15 - i;omega)
  by_cases e:k=i
  ·subst e;exact hx
  ·exact h3 k k1 (by omega)
 ·have hi:i=15:=by omega
  subst hi
  have h0:=SJ hb 0
  have bad:(b.getD 0 0=0/\b.getD 15 0≠0∨b.getD 0 0≠0/\b.getD 15 0≠7)->K (.int Z (-1)) []:=fun w=>by
   have:lG b=-1:=if_neg (fun q=>q.2.2 w)
   rwa [this]at h
  have good:¬ (b.getD 0 0=0/\b.getD 15 0≠0∨b.getD 0 0≠0/\b.getD 15 0≠7)->aQ 0/\∃ e,(ints θ b)[0]? =some e/\∃ n,e[0]? =some (η (.int θ n))/\K (.int Z (Z.wrap n)) []:=fun w=>n_ (by omega) (by omega) (by
   have:lG b=b.getD 0 0:=if_pos ⟨T8,fun k k1 k2=>h3 k k2 k1,w⟩
   rw[this]at h
   rwa [bR (by omega) (by omega)])
  refine n_ (by omega) (by omega) ⟨fun h4=>n_ (by omega) (by omega) ⟨fun h5=>bad (.inl ⟨h4,h5⟩),fun h5=>n_ (by omega) (by omega) ⟨fun h6=>absurd h4 h6,fun h6=>good (by omega)⟩⟩,fun h4=>n_ (by omega) (by omega) ⟨fun h5=>n_ (by omega) (by omega) ⟨fun h6=>bad (.inr ⟨h5,h6⟩),fun h6=>good (by omega)⟩,fun h5=>absurd h5 h4⟩⟩)
theorem WK:dE Tryz.prog FQ:=fun f k h=>by
 unfold FQ at h
 split at h
 ·cases h;exact Xh
 ·cases h;exact Yq
 ·cases h
theorem RV:bW Tryz.prog Jc:=dI mixed WK aM 10
theorem Xy:aT Tryz.prog 61 IP:=PG RV mixed [.num,.num,.num,.sl 1,.sl 1] (fun args kb K h=>by
 unfold IP at h;split at h<;>try exact h.elim
 rename_i vi vv ve _ _ ch id
 obtain⟨m,j,rfl,rfl,hm,hj,e0,e1,h⟩:=h
 refine⟨_,abV vi vv ve m j ch id K ?_⟩
 have w1:Z.wrap (ve+1)=ve+1:=by rw[bR (by omega) (by omega)]
 have hm1:(ints Z m).length=m.length:=be
 have hj1:(ints Z j).length=j.length:=be
 have ap:∀(l:List Int) (x:Int),ν 0 (ah (0+(ints Z l).length+1) (ah (0+(ints Z l).length) ([]++ints Z l)++[[η (.int Z x)]]))=ints Z (l++[x]):=fun l x=>by
  rw[gK,jm,cL,cN,fI (by rw[bw];exact aE _),po];rfl
 have al:∀(l:List Int) (x:Int),0+(ints Z l).length+1<=(ah (0+(ints Z l).length) ([]++ints Z l)++[[η (.int Z x)]]).length:=fun l x=>by
  rw[jm,cL,cN,bw];exact aE _
 unfold l5 at h
 dsimp only at h ⊢
 refine⟨m,rfl,by omega,j,rfl,by omega,?_⟩
 simp only[beq_iff_eq,beq_eq_false_iff_ne,ne_eq,Bool.not_eq_true',Bool.not_eq_false',decide_eq_true_eq,decide_eq_false_iff_not,w1,ap]at h ⊢
 have fl:((ints Z m).length:Int)=1 ↔ m.length=1:=by rw[hm1];omega
 refine⟨fun c0=>?_,fun c0=>⟨fun c1=>?_,fun c1=>⟨fun c2=>?_,fun c2=>?_⟩⟩⟩
 ·rw[if_pos c0]at h
  have go:¬ ((id ∉ m/\id ∉ j)∨(id∈m/\m.length=1))->∃ o,ints Z m=ints Z o/\o.length<=100000/\∃ o2,ints Z j=ints Z o2/\o2.length<=100000/\K (.agg [.int Z vi,.int Z vv,.int Z (ve+1),an (.sl 1 (ints Z (dA o id))),an (.sl 1 (ints Z (dA o2 id)))]) []:=fun w=>by
   rw[if_neg w]at h
   exact⟨m,rfl,by omega,j,rfl,by omega,h⟩
  have no:((id ∉ m/\id ∉ j)∨(id∈m/\m.length=1))->K (.agg [.int Z vi,.int Z vv,.int Z ve,an (.sl 1 (ints Z m)),an (.sl 1 (ints Z j))]) []:=fun w=>by rw[if_pos w]at h;exact h
  refine⟨fun m1=>⟨fun j1=>no (.inl ⟨m1,j1⟩),fun j1=>⟨fun m2=>absurd m2 m1,fun m2=>go (fun w=>w.elim (fun w=>w.2 j1) (fun w=>m1 w.1))⟩⟩,fun m1=>⟨fun m2=>⟨fun l1=>no (.inr ⟨m1,fl.1 l1⟩),fun l1=>go (fun w=>w.elim (fun w=>w.1 m1) (fun w=>l1 (fl.2 w.2)))⟩,fun m2=>absurd m1 m2⟩⟩
 ·rw[if_neg c0,if_pos c1]at h
  refine⟨fun m1=>?_,fun m1=>⟨fun j1=>?_,fun j1=>⟨trivial,aE _,by omega,aE _,by simp,by omega,al _ _,?_⟩⟩⟩
  ·rw[if_pos (.inl m1)]at h;exact h
  ·rw[if_pos (.inr j1)]at h;exact h
  ·rw[if_neg (fun w=>w.elim (fun w=>m1 w) (fun w=>j1 w))]at h;exact h
 ·rw[if_neg c0,if_neg c1,if_pos c2]at h
  refine⟨fun j1=>?_,fun j1=>⟨trivial,aE _,by omega,aE _,by simp,by omega,j,rfl,by omega,al _ _,?_⟩⟩
  ·rw[if_pos j1]at h;exact h
  ·rw[if_neg (fun w=>w j1)]at h;exact h
 ·rw[if_neg c0,if_neg c1,if_neg c2]at h;exact h)
structure mW where
 fr:Int
 to:Int
 m:ei
structure la where
 o:Op
 v:Int
 bg:Int
 en:Int
structure Wd where
 R:List φ
 dk:List (List Int)
 vs:List Vw
 aa:List mW
 cs:List la
 au:List Int
 now:Int
 ok:Bool
def ky (m:ei):List Int:=bT (Fm.cZ m.kd m.n m.b m.l)
def aZ (x:mW):List D:=[dn Z x.fr,dn Z x.to,.sl 1 (ints θ (ky x.m))]
def bt (w:Vw):List D:=[dn Z w.vi,dn Z w.vv,dn Z w.ve,.sl 1 (ints Z w.mem),.sl 1 (ints Z w.aL)]
def bi (c:la):List D:=[dn Z c.o.cl,dn Z c.o.nm,dn Z c.o.kd,dn Z c.o.bk,.sl 1 (ints θ c.o.b),dn Z c.o.kd,dn Z c.v,dn Z c.bg,dn Z c.en,db false]
def bj (p:Nat×Nat):List D:=[.val (pv p.2)]
abbrev iQ (b:Nat) (w:Wd):KO:=.cells [.sl b 0 w.R.length,.sl (b+1) 0 w.dk.length,.sl (b+2) 0 w.vs.length,.sl (b+3) 0 w.aa.length,.sl (b+4) 0 w.cs.length,.sl (b+5) 0 w.au.length,.int Z w.now,ξ w.ok]
abbrev jw (q:List (Nat×Nat)):KO:=.row 30 1 (q.map bj)
abbrev jO (w:Wd):KO:=.row 23 1 (w.dk.map ax)
abbrev jx (w:Wd):KO:=.row 49 5 (w.vs.map bt)
abbrev jg (w:Wd):KO:=.row 73 3 (w.aa.map aZ)
abbrev ke (w:Wd):KO:=.row 61 10 (w.cs.map bi)
abbrev kf (w:Wd):KO:=.row 3 1 (ints Z w.au)
abbrev k9 (w:Wd) (q:List (Nat×Nat)) (A:List (Sg×KB)):KB:=[iQ 1 w,jw q,jO w,jx w,jg w,ke w,kf w,bE A]
abbrev eN (w:Wd) (q:List (Nat×Nat)) (A:List (Sg×KB)):KB:=[iQ 8 w,ο,ο,ο,ο,ο,ο,bE A,jw q,jO w,jx w,jg w,ke w,kf w]
abbrev QC (w:Wd) (q:List (Nat×Nat)):KB:=[iQ 1 w,jw q,jO w,jx w,jg w,ke w,kf w]
abbrev vKo (w:Wd) (q:List (Nat×Nat)):KB:=[iQ 7 w,ο,ο,ο,ο,ο,ο,jw q,jO w,jx w,jg w,ke w,kf w]
def eW:List iB:=[.mv 0 0,.mv 0 1,.mv 0 2,.mv 0 3,.mv 0 4,.mv 0 5,.kill 1,.kill 2,.kill 3,.kill 4,.kill 5,.kill 6]
structure CU (l:List (Nat×φ)) (q:List (Nat×Nat)) (R:List φ):Prop where
 len:q.length=R.length
 a:∀(i:Nat) (p:Nat×Nat),q[i]? =some p->∃ r,R[i]? =some r/\l[p.1]? =some (p.2,r)
 nd:(q.map (·.1)).Nodup
structure PW (A:List (Sg×KB)) (q:List (Nat×Nat)) (R:List φ):Prop where
 h:∃ l,bO A l/\CU l q R
structure mV (kb:KB) (w:Wd) (q:List (Nat×Nat)) (A:List (Sg×KB)):Prop where
 h:kb=k9 w q A
structure ID (kb:KB) (w:Wd) (q:List (Nat×Nat)):Prop where
 h:kb=QC w q
def qu (d:Dn) (c:la):Prop:=c.o.cl=d.o.cl/\c.o.nm=d.o.nm/\c.en=-1/\d.e=0
instance (d:Dn) (c:la):Decidable (qu d c):=by unfold qu;infer_instance
def jS (now:Int) (d:Dn) (c:la):la:=if qu d c then⟨c.o,if c.o.kd=3 then lG d.x else c.v,c.bg,now⟩else c
def oH (d:Dn) (c:la):Bool:=decide (qu d c/\c.o.kd=3->0<=lG d.x)
def cI (w:Wd) (d:Dn) (i:Nat):Wd:={w with cs:=(w.cs.take i).map (jS w.now d)++w.cs.drop i,ok:=w.ok && (w.cs.take i).all (oH d) }
def gX (w:Wd) (d:Dn):Wd:={w with cs:=w.cs.map (jS w.now d),ok:=w.ok && w.cs.all (oH d) }
def SK:la:=⟨⟨0,0,0,0,[]⟩,0,0,0⟩
def cH (w:Wd) (i:Nat):la:=w.cs.getD i SK
def Hs (w:Wd) (d:Dn) (i:Nat):Wd:={cI w d i with ok:=(cI w d (i+1)).ok }
abbrev va (d:Dn):KO:=.cells [.int Z d.o.cl,.int Z d.o.nm,.int Z d.o.kd,.int Z d.o.bk,an (.sl 1 (ints θ d.o.b)),.int Z d.e,an (.sl 1 (ints θ d.x))]
structure xL where
 W:Wd
 e:List D
structure BW (w:Wd) (d:Dn) (i:Nat) (x:xL):Prop where
 lt:i<w.cs.length
 hit:qu d (cH w i)
 W:x.W=Hs w d i
 e:x.e=bi (jS w.now d (cH w i))
abbrev wv (w:Wd) (q:List (Nat×Nat)) (d:Dn) (i:Nat):LI where
 α:={x:xL // BW w d i x}
 live:=[0,3,4,5]
 dN:=eW++[.pj 3]
 st x:=([ac 0 0,ac 13 0,.int Z (i:Int),.dd x.1.e 0],[iQ 7 x.1.W,ο,ο,ο,ο,ο,ο,jw q,jO w,jx w,jg w,ke x.1.W,kf w,va d])
 μ x:=0
def aaF (w:Wd) (q:List (Nat×Nat)) (d:Dn) (i:Nat):Nat->Option LI
 | 1010=>some (wv w q d i)
 |_=>none
abbrev nM (w:Wd) (q:List (Nat×Nat)) (d:Dn):LI where
 α:={x:Nat×Wd // x.1<=w.cs.length/\x.2=cI w d x.1}
 live:=[0,3,4]
 dN:=eW
 st x:=([ac 0 0,ac 13 0,.int Z (x.1.1:Int)],[iQ 7 x.1.2,ο,ο,ο,ο,ο,ο,jw q,jO w,jx w,jg w,ke x.1.2,kf w,va d])
 μ x:=w.cs.length - x.1.1
 sub x:=aaF w q d x.1.1
def Qi (w:Wd) (q:List (Nat×Nat)) (d:Dn):FuncId->Nat->Option LI
 | 48,2=>some (nM w q d)
 |_,_=>none
def Hm:FuncId->Option dw
 | 77=>some ⟨[.fp 1],BE⟩
 |_=>none
noncomputable def Jj:bM:=dF Tryz.prog Hm aM 10
abbrev Kx (d:Dn):V:=.agg [.int Z d.o.cl,.int Z d.o.nm,.int Z d.o.kd,.int Z d.o.bk,an (.sl 1 (ints θ d.o.b)),.int Z d.e,an (.sl 1 (ints θ d.x))]
theorem acz (w:Wd) (q:List (Nat×Nat)) (d:Dn) (K:V->KB->Prop) (ay:
 At (nM w q d) ([ac 0 0,ac 13 0,δ Z 0],[ω [ε 7 0 w.R.length,ε 8 0 w.dk.length,ε 9 0 w.vs.length,ε 10 0 w.aa.length,ε 11 0 w.cs.length,ε 12 0 w.au.length,δ Z w.now,ξ w.ok],ο,ο,ο,ο,ο,ο,ζ 30 1 (ι bj q),ζ 23 1 (ι ax w.dk),ζ 49 5 (ι bt w.vs),ζ 73 3 (ι aZ w.aa),ζ 61 10 (ι bi w.cs),ζ 3 1 (ints Z w.au),ω [δ Z d.o.cl,δ Z d.o.nm,δ Z d.o.kd,δ Z d.o.bk,an (π 1 (ints θ d.o.b)),δ Z d.e,an (π 1 (ints θ d.x))]])/\
 ∀(i:{x:Nat×Wd // x.fst<=w.cs.length/\
 x.snd=cI w d x.fst }),let dP:=ω [ε 7 0 i.val.snd.R.length,ε 8 0 i.val.snd.dk.length,ε 9 0 i.val.snd.vs.length,ε 10 0 i.val.snd.aa.length,ε 11 0 i.val.snd.cs.length,ε 12 0 i.val.snd.au.length,δ Z i.val.snd.now,ξ i.val.snd.ok];let gJ:=[ac 0 0,ac 13 0,δ Z (Z.wrap ((↑i.val.fst:Int)+1))];(decide ((↑i.val.fst:Int)<(↑(i.val.snd.cs.length - 0):Int))=true->
 br (↑i.val.fst:Int) (i.val.snd.cs.length - 0)/\
 ∃(e:List D),(ι bi i.val.snd.cs)[0+(↑i.val.fst:Int).toNat]? =some e/\
 ∃(n:Int),e[0]? =some (η (κ Z n))/\
 ∃(n_1:Int),e[1]? =some (η (κ Z n_1))/\
 ∃(n_2:Int),e[2]? =some (η (κ Z n_2))/\
 ∃(iu:Int),e[3]? =some (η (κ Z iu))/\
 ∃(l:List (List D)),e[4]? =some (π 1 l)/\
 ∃(iK:Int),e[5]? =some (η (κ Z iK))/\
 ∃(l4:Int),e[6]? =some (η (κ Z l4))/\
 ∃(kV:Int),e[7]? =some (η (κ Z kV))/\
 ∃(ny:Int),e[8]? =some (η (κ Z ny))/\
 ∃(b:Bool),e[9]? =some (η (fa b))/\
 ((n != d.o.cl)=true->
 Nx (nM w q d) i (gJ,[dP,ο,ο,ο,ο,ο,ο,ζ 30 1 (ι bj q),ζ 23 1 (ι ax w.dk),ζ 49 5 (ι bt w.vs),ζ 73 3 (ι aZ w.aa),ζ 61 10 (ι bi i.val.snd.cs),ζ 3 1 (ints Z w.au),ω [δ Z d.o.cl,δ Z d.o.nm,δ Z d.o.kd,δ Z d.o.bk,an (π 1 (ints θ d.o.b)),δ Z d.e,an (π 1 (ints θ d.x))]]))/\
 ((n != d.o.cl)=false->
 ((n_1 != d.o.nm)=true->
 Nx (nM w q d) i (gJ,[dP,ο,ο,ο,ο,ο,ο,ζ 30 1 (ι bj q),ζ 23 1 (ι ax w.dk),ζ 49 5 (ι bt w.vs),ζ 73 3 (ι aZ w.aa),ζ 61 10 (ι bi i.val.snd.cs),ζ 3 1 (ints Z w.au),ω [δ Z d.o.cl,δ Z d.o.nm,δ Z d.o.kd,δ Z d.o.bk,an (π 1 (ints θ d.o.b)),δ Z d.e,an (π 1 (ints θ d.x))]]))/\
 ((n_1 != d.o.nm)=false->
 ((ny != -1)=true->
 Nx (nM w q d) i (gJ,[dP,ο,ο,ο,ο,ο,ο,ζ 30 1 (ι bj q),ζ 23 1 (ι ax w.dk),ζ 49 5 (ι bt w.vs),ζ 73 3 (ι aZ w.aa),ζ 61 10 (ι bi i.val.snd.cs),ζ 3 1 (ints Z w.au),ω [δ Z d.o.cl,δ Z d.o.nm,δ Z d.o.kd,δ Z d.o.bk,an (π 1 (ints θ d.o.b)),δ Z d.e,an (π 1 (ints θ d.x))]]))/\
 ((ny != -1)=false->
 ((d.e != 0)=true->
 Nx (nM w q d) i (gJ,[dP,ο,ο,ο,ο,ο,ο,ζ 30 1 (ι bj q),ζ 23 1 (ι ax w.dk),ζ 49 5 (ι bt w.vs),ζ 73 3 (ι aZ w.aa),ζ 61 10 (ι bi i.val.snd.cs),ζ 3 1 (ints Z w.au),ω [δ Z d.o.cl,δ Z d.o.nm,δ Z d.o.kd,δ Z d.o.bk,an (π 1 (ints θ d.o.b)),δ Z d.e,an (π 1 (ints θ d.x))]]))/\
 ((d.e != 0)=false->
 (((n_2 == 3)=true->
 ∃(b_1:List Int),ints θ d.x=ints θ b_1/\
 (∀(c:Int),ct c b_1->
 0<=c/\
 c<256)/\
 b_1.length<=100000/\
 (i.val.snd.ok=true->
 At (wv w q d i.val.fst) ([ac 0 0,ac 13 0,δ Z (↑i.val.fst:Int),V.dd [η (κ Z n),η (κ Z n_1),η (κ Z n_2),η (κ Z iu),π 1 l,η (κ Z iK),η (κ Z (lG b_1)),η (κ Z kV),η (κ Z i.val.snd.now),η (fa b)] 0],[ω [ε 7 0 i.val.snd.R.length,ε 8 0 i.val.snd.dk.length,ε 9 0 i.val.snd.vs.length,ε 10 0 i.val.snd.aa.length,ε 11 0 i.val.snd.cs.length,ε 12 0 i.val.snd.au.length,δ Z i.val.snd.now,ξ (decide (lG b_1 ≥ 0))],ο,ο,ο,ο,ο,ο,ζ 30 1 (ι bj q),ζ 23 1 (ι ax w.dk),ζ 49 5 (ι bt w.vs),ζ 73 3 (ι aZ w.aa),ζ 61 10 (ι bi i.val.snd.cs),ζ 3 1 (ints Z w.au),ω [δ Z d.o.cl,δ Z d.o.nm,δ Z d.o.kd,δ Z d.o.bk,an (π 1 (ints θ d.o.b)),δ Z d.e,an (π 1 (ints θ d.x))]]))/\
 (i.val.snd.ok=false->
 At (wv w q d i.val.fst) ([ac 0 0,ac 13 0,δ Z (↑i.val.fst:Int),V.dd [η (κ Z n),η (κ Z n_1),η (κ Z n_2),η (κ Z iu),π 1 l,η (κ Z iK),η (κ Z (lG b_1)),η (κ Z kV),η (κ Z i.val.snd.now),η (fa b)] 0],[ω [ε 7 0 i.val.snd.R.length,ε 8 0 i.val.snd.dk.length,ε 9 0 i.val.snd.vs.length,ε 10 0 i.val.snd.aa.length,ε 11 0 i.val.snd.cs.length,ε 12 0 i.val.snd.au.length,δ Z i.val.snd.now,ξ false],ο,ο,ο,ο,ο,ο,ζ 30 1 (ι bj q),ζ 23 1 (ι ax w.dk),ζ 49 5 (ι bt w.vs),ζ 73 3 (ι aZ w.aa),ζ 61 10 (ι bi i.val.snd.cs),ζ 3 1 (ints Z w.au),ω [δ Z d.o.cl,δ Z d.o.nm,δ Z d.o.kd,δ Z d.o.bk,an (π 1 (ints θ d.o.b)),δ Z d.e,an (π 1 (ints θ d.x))]])))/\
 ((n_2 == 3)=false->
 At (wv w q d i.val.fst) ([ac 0 0,ac 13 0,δ Z (↑i.val.fst:Int),V.dd [η (κ Z n),η (κ Z n_1),η (κ Z n_2),η (κ Z iu),π 1 l,η (κ Z iK),η (κ Z l4),η (κ Z kV),η (κ Z i.val.snd.now),η (fa b)] 0],[dP,ο,ο,ο,ο,ο,ο,ζ 30 1 (ι bj q),ζ 23 1 (ι ax w.dk),ζ 49 5 (ι bt w.vs),ζ 73 3 (ι aZ w.aa),ζ 61 10 (ι bi i.val.snd.cs),ζ 3 1 (ints Z w.au),ω [δ Z d.o.cl,δ Z d.o.nm,δ Z d.o.kd,δ Z d.o.bk,an (π 1 (ints θ d.o.b)),δ Z d.e,an (π 1 (ints θ d.x))]])))/\
 ∀(i_1:{x:xL // BW w d i.val.fst x }),let cK:=(ah (0+(↑i.val.fst:Int).toNat) (ι bi i_1.val.W.cs));let AY:=(ah (0+(i_1.val.W.cs.length - 0)) (ι bi i_1.val.W.cs));let AZ:=(ν (0+(Z.wrap ((↑i.val.fst:Int)+1)).toNat) AY);let HZ:=ω [ε 7 0 i_1.val.W.R.length,ε 8 0 i_1.val.W.dk.length,ε 9 0 i_1.val.W.vs.length,ε 10 0 i_1.val.W.aa.length,ε 11 0 (0+(ν 0 cK).length+1+AZ.length),ε 12 0 i_1.val.W.au.length,δ Z i_1.val.W.now,ξ i_1.val.W.ok];let H0:=gJ;True/\
 aQ (↑i.val.fst:Int)/\
 0<=(↑i.val.fst:Int).toNat/\
 (↑i.val.fst:Int).toNat<=i_1.val.W.cs.length - 0/\
 ∃(n:Int),i_1.val.e[0]? =some (η (κ Z n))/\
 ∃(j9:Int),i_1.val.e[1]? =some (η (κ Z j9))/\
 ∃(oy:Int),i_1.val.e[2]? =some (η (κ Z oy))/\
 ∃(ox:Int),i_1.val.e[3]? =some (η (κ Z ox))/\
 ∃(l:List (List D)),i_1.val.e[4]? =some (π 1 l)/\
 ∃(rT:Int),i_1.val.e[5]? =some (η (κ Z rT))/\
 ∃(rU:Int),i_1.val.e[6]? =some (η (κ Z rU))/\
 ∃(rV:Int),i_1.val.e[7]? =some (η (κ Z rV))/\
 ∃(rW:Int),i_1.val.e[8]? =some (η (κ Z rW))/\
 ∃(b:Bool),i_1.val.e[9]? =some (η (fa b))/\
 aQ (Z.wrap ((↑i.val.fst:Int)+1))/\
 True/\
 (Z.wrap ((↑i.val.fst:Int)+1)).toNat<=i_1.val.W.cs.length - 0/\
 i_1.val.W.cs.length - 0<=i_1.val.W.cs.length - 0/\
 (True/\
 True/\
 (∃(n:Int),i_1.val.e[0]? =some (η (κ Z n))/\
 ∃(n:Int),i_1.val.e[1]? =some (η (κ Z n))/\
 ∃(n:Int),i_1.val.e[2]? =some (η (κ Z n))/\
 ∃(n:Int),i_1.val.e[3]? =some (η (κ Z n))/\
 ∃(l:List (List D)),i_1.val.e[4]? =some (π 1 l)/\
 ∃(n:Int),i_1.val.e[5]? =some (η (κ Z n))/\
 ∃(n:Int),i_1.val.e[6]? =some (η (κ Z n))/\
 ∃(n:Int),i_1.val.e[7]? =some (η (κ Z n))/\
 ∃(n:Int),i_1.val.e[8]? =some (η (κ Z n))/\
 ∃(b:Bool),i_1.val.e[9]? =some (η (fa b))/\
 True)/\
 (True/\
 True/\
 0+(↑i.val.fst:Int).toNat<=(ι bi i_1.val.W.cs).length/\
 0<=0/\
 (0+(ν 0 cK).length)*96<=140737488355328/\
 (∃(n:Int),i_1.val.e[0]? =some (η (κ Z n))/\
 ∃(n:Int),i_1.val.e[1]? =some (η (κ Z n))/\
 ∃(n:Int),i_1.val.e[2]? =some (η (κ Z n))/\
 ∃(n:Int),i_1.val.e[3]? =some (η (κ Z n))/\
 ∃(l:List (List D)),i_1.val.e[4]? =some (π 1 l)/\
 ∃(n:Int),i_1.val.e[5]? =some (η (κ Z n))/\
 ∃(n:Int),i_1.val.e[6]? =some (η (κ Z n))/\
 ∃(n:Int),i_1.val.e[7]? =some (η (κ Z n))/\
 ∃(n:Int),i_1.val.e[8]? =some (η (κ Z n))/\
 ∃(b:Bool),i_1.val.e[9]? =some (η (fa b))/\
 True)/\
 True/\
 True/\
 1<=1/\
 0+(ν 0 cK).length<=([]++ν 0 cK).length/\
 (0+(ν 0 cK).length+1)*96<=140737488355328/\
 0+(i_1.val.W.cs.length - 0)<=(ι bi i_1.val.W.cs).length/\
 0+(ν 0 cK).length+1<=(ah (0+(ν 0 cK).length) ([]++ν 0 cK)++[[η (κ Z n),η (κ Z j9),η (κ Z oy),η (κ Z ox),π 1 l,η (κ Z rT),η (κ Z rU),η (κ Z rV),η (κ Z rW),η (fa b)]]).length/\
 (0+(ν 0 cK).length+1+AZ.length)*96<=140737488355328/\
 Nx (nM w q d) i (H0,[HZ,ο,ο,ο,ο,ο,ο,ζ 30 1 (ι bj q),ζ 23 1 (ι ax w.dk),ζ 49 5 (ι bt w.vs),ζ 73 3 (ι aZ w.aa),ζ 61 10 (ah (0+(ν 0 cK).length+1) (ah (0+(ν 0 cK).length) ([]++ν 0 cK)++[[η (κ Z n),η (κ Z j9),η (κ Z oy),η (κ Z ox),π 1 l,η (κ Z rT),η (κ Z rU),η (κ Z rV),η (κ Z rW),η (fa b)]])++ν (0+(Z.wrap ((↑i.val.fst:Int)+1)).toNat) AY),ζ 3 1 (ints Z w.au),ω [δ Z d.o.cl,δ Z d.o.nm,δ Z d.o.kd,δ Z d.o.bk,an (π 1 (ints θ d.o.b)),δ Z d.e,an (π 1 (ints θ d.x))]]))/\
 True/\
 True/\
 True/\
 True/\
 0+(↑i.val.fst:Int).toNat<=(ι bi i_1.val.W.cs).length/\
 0<=0/\
 (0+(ν 0 cK).length)*96<=140737488355328/\
 True/\
 1<=1/\
 0+(ν 0 cK).length<=([]++ν 0 cK).length/\
 (0+(ν 0 cK).length+1)*96<=140737488355328/\
 0+(i_1.val.W.cs.length - 0)<=(ι bi i_1.val.W.cs).length/\
 0+(ν 0 cK).length+1<=(ah (0+(ν 0 cK).length) ([]++ν 0 cK)++[[η (κ Z n),η (κ Z j9),η (κ Z oy),η (κ Z ox),π 1 l,η (κ Z rT),η (κ Z rU),η (κ Z rV),η (κ Z rW),η (fa b)]]).length/\
 (0+(ν 0 cK).length+1+AZ.length)*96<=140737488355328/\
 Nx (nM w q d) i (H0,[HZ,ο,ο,ο,ο,ο,ο,ζ 30 1 (ι bj q),ζ 23 1 (ι ax w.dk),ζ 49 5 (ι bt w.vs),ζ 73 3 (ι aZ w.aa),ζ 61 10 (ah (0+(ν 0 cK).length+1) (ah (0+(ν 0 cK).length) ([]++ν 0 cK)++[[η (κ Z n),η (κ Z j9),η (κ Z oy),η (κ Z ox),π 1 l,η (κ Z rT),η (κ Z rU),η (κ Z rV),η (κ Z rW),η (fa b)]])++ν (0+(Z.wrap ((↑i.val.fst:Int)+1)).toNat) AY),ζ 3 1 (ints Z w.au),ω [δ Z d.o.cl,δ Z d.o.nm,δ Z d.o.kd,δ Z d.o.bk,an (π 1 (ints θ d.o.b)),δ Z d.e,an (π 1 (ints θ d.x))]]))/\
 True/\
 True/\
 True/\
 True/\
 True/\
 True/\
 0+(↑i.val.fst:Int).toNat<=(ι bi i_1.val.W.cs).length/\
 0<=0/\
 (0+(ν 0 cK).length)*96<=140737488355328/\
 True/\
 1<=1/\
 0+(ν 0 cK).length<=([]++ν 0 cK).length/\
 (0+(ν 0 cK).length+1)*96<=140737488355328/\
 0+(i_1.val.W.cs.length - 0)<=(ι bi i_1.val.W.cs).length/\
 0+(ν 0 cK).length+1<=(ah (0+(ν 0 cK).length) ([]++ν 0 cK)++[[η (κ Z n),η (κ Z j9),η (κ Z oy),η (κ Z ox),π 1 l,η (κ Z rT),η (κ Z rU),η (κ Z rV),η (κ Z rW),η (fa b)]]).length/\
 (0+(ν 0 cK).length+1+AZ.length)*96<=140737488355328/\
 Nx (nM w q d) i (H0,[HZ,ο,ο,ο,ο,ο,ο,ζ 30 1 (ι bj q),ζ 23 1 (ι ax w.dk),ζ 49 5 (ι bt w.vs),ζ 73 3 (ι aZ w.aa),ζ 61 10 (ah (0+(ν 0 cK).length+1) (ah (0+(ν 0 cK).length) ([]++ν 0 cK)++[[η (κ Z n),η (κ Z j9),η (κ Z oy),η (κ Z ox),π 1 l,η (κ Z rT),η (κ Z rU),η (κ Z rV),η (κ Z rW),η (fa b)]])++ν (0+(Z.wrap ((↑i.val.fst:Int)+1)).toNat) AY),ζ 3 1 (ints Z w.au),ω [δ Z d.o.cl,δ Z d.o.nm,δ Z d.o.kd,δ Z d.o.bk,an (π 1 (ints θ d.o.b)),δ Z d.e,an (π 1 (ints θ d.x))]]))))))/\
 (decide ((↑i.val.fst:Int)<(↑(i.val.snd.cs.length - 0):Int))=false->
 K (ar []) [dP,ο,ο,ο,ο,ο,ο,ζ 30 1 (ι bj q),ζ 23 1 (ι ax w.dk),ζ 49 5 (ι bt w.vs),ζ 73 3 (ι aZ w.aa),ζ 61 10 (ι bi i.val.snd.cs),ζ 3 1 (ints Z w.au)])
 ):aO Tryz.prog Jj (Qi w q d 48) 48 [ac 0 0,Kx d] (QC w q) (eX eW (dh 7 K)):=by apply Eq.mp (a:=ay);kernel_rfl
theorem uc {α:Type} (M:List α) (i:Nat):ν 0 (ah (0+i) M)=M.take i:=by rw[gK,cL]
theorem Z8 {α:Type} {M:List α} {x:α} {i n:Nat} (hi:i<M.length) (hn:n=M.length):ah (0+(ν 0 (ah (0+i) M)).length+1) (ah (0+(ν 0 (ah (0+i) M)).length) ([]++ν 0 (ah (0+i) M))++[x])++ν (0+(i+1)) (ah (0+(n - 0)) M)=M.set i x:=by
 subst hn
 rw[uc,kp,cL,cL,cL,jm,cN,cN,fI (by rw[bw];exact aE _),List.set_eq_take_append_cons_drop,if_pos hi,dQ]
 rfl
theorem Z6 {α:Type} {M:List α} {i n:Nat} (hi:i<M.length) (hn:n=M.length):0+(ν 0 (ah (0+i) M)).length+1+(ν (0+(i+1)) (ah (0+(n - 0)) M)).length=M.length:=by
 subst hn
 rw[uc,kp,cL,cL,cL,cN,cW,fh];omega
theorem sW {w:Wd} {i:Nat} (h:i<w.cs.length):w.cs[i]? =some (cH w i):=by
 unfold cH;rw[kn,bx h];rfl
theorem Hr (w:Wd) (d:Dn) (i:Nat):(cI w d i).cs.length=w.cs.length:=by
 simp only[cI,bw,cg,cW,fh];omega
theorem aaU (w:Wd) (d:Dn):cI w d 0=w:=by unfold cI;simp
theorem aaV (w:Wd) (d:Dn):cI w d w.cs.length=gX w d:=by unfold cI gX;simp
theorem Qr {w:Wd} {d:Dn} {i:Nat} (h:i<w.cs.length):(cI w d i).cs[i]? =some (cH w i):=by
 show((w.cs.take i).map (jS w.now d)++w.cs.drop i)[i]? =_
 have e:((w.cs.take i).map (jS w.now d)).length=i:=by rw[cg,cW];omega
 rw[ef (by omega),e,Nat.sub_self,jB,Nat.add_zero]
 exact sW h
theorem Qs {w:Wd} {d:Dn} {i:Nat} (h:i<w.cs.length):(cI w d (i+1)).cs=(cI w d i).cs.set i (jS w.now d (cH w i))/\(cI w d (i+1)).ok=((cI w d i).ok && oH d (cH w i)):=by
 have hc:=sW h
 have e:((w.cs.take i).map (jS w.now d)).length=i:=by rw[cg,cW];omega
 have ht:w.cs.take (i+1)=w.cs.take i++[cH w i]:=by rw[jY,hc];rfl
 constructor
 ·show(w.cs.take (i+1)).map (jS w.now d)++w.cs.drop (i+1)=((w.cs.take i).map (jS w.now d)++w.cs.drop i).set i _
  have hd:w.cs.drop i=cH w i::w.cs.drop (i+1):=by
   rw[List.drop_eq_getElem_cons h]
   congr 1
   rw[bx h]at hc
   exact bh.inj hc
  rw[List.set_append_right _ _ (by omega),e,Nat.sub_self,hd,List.set_cons_zero,ht,jC,dQ]
  rfl
 ·show(w.ok && (w.cs.take (i+1)).all (oH d))=((w.ok && (w.cs.take i).all (oH d)) && _)
  rw[ht,List.all_append,Bool.and_assoc];simp
theorem aaW {w:Wd} {d:Dn} {i:Nat} (h:i<w.cs.length) (hh:¬ qu d (cH w i)):cI w d (i+1)=cI w d i:=by
 obtain⟨h1,h2⟩:=Qs (d:=d) h
 have e1:jS w.now d (cH w i)=cH w i:=if_neg hh
 have e2:oH d (cH w i)=true:=by unfold oH;rw[decide_eq_true_eq];exact fun w=>absurd w.1 hh
 have e3:(cI w d (i+1)).cs=(cI w d i).cs:=by
  rw[h1,e1]
  have:=Qr (d:=d) h
  apply km
  intro k
  by_cases e:i=k
  ·subst e;rw[this,gB (by rw[Hr];exact h)]
  ·rw[fR e]
 have e4:(cI w d (i+1)).ok=(cI w d i).ok:=by rw[h2,e2,Bool.and_true]
 have e5:cI w d (i+1)={cI w d i with cs:=(cI w d (i+1)).cs,ok:=(cI w d (i+1)).ok }:=rfl
 rw[e5,e3,e4]
theorem aaE:dE Tryz.prog Hm:=fun f k h=>by
 unfold Hm at h
 split at h
 ·cases h;exact XF
 ·cases h
theorem R6:bW Tryz.prog Jj:=dI mixed aaE aM 10
structure oO (d:Dn):Prop where
 b:bm d.x
 l:d.x.length<=100000
def BQ:aH:=fun args kb K=>match args with
 | [ac 0 0,.agg [.int Z cl,.int Z nm,.int Z kd,.int Z bk,an (.sl 1 B),.int Z e,an (.sl 1 Y)]]=>∃ w q b x,ID kb w q/\B=ints θ b/\Y=ints θ x/\w.cs.length<=1000/\oO ⟨⟨cl,nm,kd,bk,b⟩,e,x⟩/\∀ w',w'=gX w ⟨⟨cl,nm,kd,bk,b⟩,e,x⟩->K (.υ []) (vKo w' q)
 |_=>False
theorem Yk:aT Tryz.prog 48 BQ:=mP R6 mixed eW (fun args kb K h=>by
 unfold BQ at h;split at h<;>try exact h.elim
 rename_i cl nm kd bk _ e _
 obtain⟨w,q,b,x,⟨rfl⟩,rfl,rfl,hl,hd,h⟩:=h
 generalize hde:(⟨⟨cl,nm,kd,bk,b⟩,e,x⟩:Dn)=d at*
 refine⟨Qi w q d 48,?_⟩
 show aO _ _ _ _ _ _ (eX eW (dh 7 K))
 have hv:(cF [.int Z cl,.int Z nm,.int Z kd,.int Z bk,an (.sl 1 (ints θ b)),.int Z e,an (.sl 1 (ints θ x))]:V)=Kx d:=by subst hde;rfl
 rw[hv]
 apply acz w q d K
 refine⟨At.mk' (⟨(0,w),bF _,(aaU w d).symm⟩:{x:Nat×Wd // x.1<=w.cs.length/\x.2=cI w d x.1}) rfl,?_⟩
 rintro⟨⟨i,W⟩,hi,hW⟩
 dsimp only at hi hW ⊢
 subst hW
 have hL:=Hr w d i
 have nx:∀(hlt:i<w.cs.length),cI w d (i+1)=cI w d i->Nx (nM w q d) ⟨(i,cI w d i),hi,rfl⟩ ([ac 0 0,ac 13 0,.int Z (Z.wrap ((i:Int)+1))],[iQ 7 (cI w d i),ο,ο,ο,ο,ο,ο,jw q,jO w,jx w,jg w,ke (cI w d i),kf w,va d]):=fun hlt he=>by
  refine Nx.mk' (⟨(i+1,cI w d i),hlt,he.symm⟩:{x:Nat×Wd // x.1<=w.cs.length/\x.2=cI w d x.1}) ?_ (by show w.cs.length - (i+1)<w.cs.length - i;omega)
  rw[bR (by omega) (by omega)];rfl
 refine⟨fun hc=>?_,fun hc=>?_⟩
 ·have hlt:i<w.cs.length:=by rw[decide_eq_true_eq]at hc;omega
  have ha:=Qr (d:=d) hlt
  have hs:=Qs (d:=d) hlt
  have nn:¬ qu d (cH w i)->cI w d (i+1)=cI w d i:=aaW hlt
  refine⟨by unfold br;omega,bi (cH w i),by rw[cL,dr,fG,ha];rfl,_,rfl,_,rfl,_,rfl,_,rfl,_,rfl,_,rfl,_,rfl,_,rfl,_,rfl,_,rfl,?_⟩
  simp only[bne_iff_ne,ne_eq,bne_eq_false_iff_eq,beq_iff_eq,beq_eq_false_iff_ne]
  refine⟨fun h1=>nx hlt (nn fun q=>h1 q.1),fun h1=>⟨fun h2=>nx hlt (nn fun q=>h2 q.2.1),fun h2=>⟨fun h3=>nx hlt (nn fun q=>h3 q.2.2.1),fun h3=>⟨fun h4=>nx hlt (nn fun q=>h4 q.2.2.2),fun h4=>?_⟩⟩⟩⟩
  have hit:qu d (cH w i):=⟨h1,h2,h3,h4⟩
  have rz:jS w.now d (cH w i)=⟨(cH w i).o,if(cH w i).o.kd=3 then lG d.x else(cH w i).v,(cH w i).bg,w.now⟩:=if_pos hit
  have hat:∀(v:Int) (ok:Bool),v=(jS w.now d (cH w i)).v->ok=(cI w d (i+1)).ok->At (wv w q d i) ([ac 0 0,ac 13 0,.int Z (i:Int),.dd [dn Z (cH w i).o.cl,dn Z (cH w i).o.nm,dn Z (cH w i).o.kd,dn Z (cH w i).o.bk,.sl 1 (ints θ (cH w i).o.b),dn Z (cH w i).o.kd,dn Z v,dn Z (cH w i).bg,dn Z w.now,db false] 0],[iQ 7 {cI w d i with ok:=ok },ο,ο,ο,ο,ο,ο,jw q,jO w,jx w,jg w,ke (cI w d i),kf w,va d]):=fun v ok hv ho=>by
   have hcl:[dn Z (cH w i).o.cl,dn Z (cH w i).o.nm,dn Z (cH w i).o.kd,dn Z (cH w i).o.bk,.sl 1 (ints θ (cH w i).o.b),dn Z (cH w i).o.kd,dn Z v,dn Z (cH w i).bg,dn Z w.now,db false]=bi (jS w.now d (cH w i)):=by rw[hv,rz];rfl
   refine At.mk' (⟨⟨Hs w d i,_⟩,hlt,hit,rfl,hcl⟩:{x:xL // BW w d i x}) ?_
   subst ho
   rfl
  refine⟨⟨fun h5=>⟨d.x,rfl,hd.b,hd.l,fun h6=>?_,fun h6=>?_⟩,fun h5=>?_⟩,?_⟩
  ·refine hat (lG d.x) (decide (lG d.x ≥ 0)) (by rw[rz];dsimp only;rw[if_pos h5]) ?_
   rw[hs.2,h6,Bool.true_and]
   unfold oH
   apply decide_eq_decide.2
   exact⟨fun h7 _=>h7,fun h7=>h7 ⟨hit,h5⟩⟩
  ·refine hat (lG d.x) false (by rw[rz];dsimp only;rw[if_pos h5]) ?_
   rw[hs.2,h6,Bool.false_and]
  ·refine hat (cH w i).v (cI w d i).ok (by rw[rz];dsimp only;rw[if_neg h5]) ?_
   rw[hs.2]
   have:oH d (cH w i)=true:=by unfold oH;rw[decide_eq_true_eq];exact fun q=>absurd q.2 h5
   rw[this,Bool.and_true]
  ·rintro⟨⟨W,e⟩,hI⟩
   obtain⟨k1,k2,k3,k4⟩:=hI
   dsimp only at k3 k4 ⊢
   subst k3 k4
   have w1:Z.wrap ((i:Int)+1)=((i+1:Nat):Int):=by rw[bR (by omega) (by omega)];rfl
   have hM:i<((cI w d i).cs.map bi).length:=by rw[cg];omega
   have e1:=Z8 (x:=bi (jS w.now d (cH w i))) hM (n:=(cI w d i).cs.length) (by rw[cg])
   have e2:=Z6 hM (n:=(cI w d i).cs.length) (by rw[cg])
   have e4:((cI w d i).cs.map bi).set i (bi (jS w.now d (cH w i)))=(cI w d (i+1)).cs.map bi:=by rw[hs.1,List.map_set]
   have e5:(cI w d (i+1)).cs.length=w.cs.length:=Hr w d (i+1)
   have hN:∀ Y:List D,Y=bi (jS w.now d (cH w i))->Nx (nM w q d) ⟨(i,cI w d i),hi,rfl⟩ ([ac 0 0,ac 13 0,.int Z (Z.wrap ((i:Int)+1))],[ω [.sl 7 0 w.R.length,.sl 8 0 w.dk.length,.sl 9 0 w.vs.length,.sl 10 0 w.aa.length,.sl 11 0 (0+(ν 0 (ah (0+(i:Int).toNat) ((cI w d i).cs.map bi))).length+1+(ν (0+(Z.wrap ((i:Int)+1)).toNat) (ah (0+((cI w d i).cs.length - 0)) ((cI w d i).cs.map bi))).length),.sl 12 0 w.au.length,.int Z w.now,ξ (cI w d (i+1)).ok],ο,ο,ο,ο,ο,ο,jw q,jO w,jx w,jg w,ζ 61 10 (ah (0+(ν 0 (ah (0+(i:Int).toNat) ((cI w d i).cs.map bi))).length+1) (ah (0+(ν 0 (ah (0+(i:Int).toNat) ((cI w d i).cs.map bi))).length) ([]++ν 0 (ah (0+(i:Int).toNat) ((cI w d i).cs.map bi)))++[Y])++ν (0+(Z.wrap ((i:Int)+1)).toNat) (ah (0+((cI w d i).cs.length - 0)) ((cI w d i).cs.map bi))),kf w,va d]):=fun Y hY=>by
    subst hY
    rw[w1,dr,dr,e1,e2,e4,cg,hL.trans e5.symm]
    exact Nx.mk' (⟨(i+1,cI w d (i+1)),hlt,rfl⟩:{x:Nat×Wd // x.1<=w.cs.length/\x.2=cI w d x.1}) rfl (by show w.cs.length - (i+1)<w.cs.length - i;omega)
   have l3:(Hs w d i).cs.length=w.cs.length:=hL
   repeat' (first | exact trivial | exact hN _ rfl | refine⟨_,rfl,?_⟩ | apply And.intro)
   all_goals first | exact aE _ | exact bF _ | (unfold aQ;omega) | omega | (simp only[jm,bw,cW,fh,ko,io,jk,cg,w1,dr];omega)
 ·have:i=w.cs.length:=by rw[decide_eq_false_iff_not]at hc;omega
  subst this
  rw[aaV]
  exact h _ rfl)
end Go.Proofs.YtfcjngcnifdmnaaGreat
