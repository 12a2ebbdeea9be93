import Derived.Test.YtfcjngcnifdmnaaGreatQe
import Derived.KernelRfl
namespace Go.Proofs.YtfcjngcnifdmnaaGreat.Fm
open Vc Go
open Go.IntKind renaming i64->γ,u8->ξ,u32->iM
open Vc.V renaming any->δ,int->ε,sl->ζ,sb->ο,ptr->aj,φ->au,dat->aC,aa->aR,mp->aY,arr->bF,agg->fz
open Vc.D renaming val->η,sl->χ
open Go.Value renaming int->ν,map->kT,bool->mG,oneCell'->mH
open List renaming map->ae,drop->ax,take->ay,length_append->bn,getElem?_eq_getElem->bu,getElem?_eq_some_iff->bH,length_map->bT,take_length->cQ,length_take->cW,mem_singleton->da,replicate->dv,mem_append->dz,mem_map->dO,mem_cons->dS,Mem->dW,append_assoc->dX,getElem?_append_left->dY,take_of_length_le->eQ,getElem?_append_right->fk,getElem?_map->fy,mem_of_getElem?->fF,length_drop->gm,mem_cons_of_mem->gn,append_nil->gz,length_cons->gA,getD_eq_getElem?_getD->gO,getElem?_set_ne->gP,mem_append_left->gQ,length_singleton->gZ,drop_zero->iD,getElem?_eq_none->iE,getElem?_take_of_lt->iF,length_set->iG,getElem?_set_self->iN,mem_cons_self->iV,map_append->ja,range->jb,nil_append->jr,take_add_one->jt,flatten_cons->jF,getElem?_of_mem->jG,getElem?_drop->jW,map_cons->kv,length_nil->kP,mem_append_right->kQ,mem_filter->lu,ext_getElem?->mb,eq_nil_of_length_eq_zero->mD
open Vc.KO renaming row->ai,dead->aw,cells->aB,objs->fE
open Nat renaming le_refl->ar,zero_le->bj,beq->cX,zero_add->c9,eq_of_beq_eq_true->de,add_assoc->g_,lor->iW,lt_or_ge->kx,sub_zero->ly,le_trans->mc
open Option renaming some->bb,bind_eq_some_iff->lO,map->ng
open Int renaming toNat_natCast->cN,le_refl->dE
open Bool renaming and_eq_true->jo,not_eq_false'->kr,not_eq_true'->mA
set_option linter.unusedVariables false
set_option linter.unusedSimpArgs false
set_option maxRecDepth 100000
set_option maxHeartbeats 2000000
def gI (l:List Int) (i:Nat):Int:=l.getD i 0
def gT (l:List (List Int)) (i:Nat):List Int:=l.getD i []
def tot:List (List Int)->Nat
 | []=>0
 |t::l=>t.length+tot l
structure kR (k:Int) (n b:List Int) (l:List (List Int)):Prop where
 k1:1<=k
 k2:k<=40
 nl:n.length<=16
 bl:b.length<=2048
 ll:l.length<=64
 ns:∀ x∈n,0<=x/\x<=4611686018427387904
 ts:∀ t∈l,t.length<=2048
 al:tot l<=65536
abbrev C4 (k:Int) (n b:List Int) (l:List (List Int)):List V:=[.int γ k,aC (.sl 1 (ints γ n)),aC (.sl 1 (ints ξ b)),aC (.sl 1 (l.map bO))]
abbrev vQ (l:List (List Int)):LI where
 α:={i:Nat // i<=l.length}
 live:=[3,6,7,8]
 st i:=([.int γ (tot (l.take i.1):Int),aC (.sl 1 (l.map bO)),.int γ (l.length:Int),.int γ (i.1:Int)],[])
 μ i:=l.length - i.1
abbrev IU (n:List Int):LI where
 α:={i:Nat // i<=n.length/\∀ x∈n.take i,0<=x/\x<=4611686018427387904}
 live:=[0,1,7,8]
 st i:=([aC (.sl 1 (ints γ n)),.fn 101 [],.int γ (n.length:Int),.int γ (i.1:Int)],[])
 μ i:=n.length - i.1
abbrev IW (l:List (List Int)):LI where
 α:={i:Nat // i<=l.length/\∀ t∈l.take i,t.length<=2048}
 live:=[0,1,7,8]
 st i:=([aC (.sl 1 (l.map bO)),.fn 102 [],.int γ (l.length:Int),.int γ (i.1:Int)],[])
 μ i:=l.length - i.1
def jd (l:List Int):List Int:=(l.map aZ).flatten
def gV (l:List (List Int)):List Int:=(l.map cK).flatten
def pu1 (k:Int) (n:List Int) (i:Nat):List Int:=aZ k++aZ (n.length:Int)++jd (n.take i)
def pu2 (k:Int) (n b:List Int) (l:List (List Int)) (i:Nat):List Int:=pu1 k n n.length++cK b++aZ (l.length:Int)++gV (l.take i)
def dC (k:Int) (n b:List Int) (l:List (List Int)):List Int:=pu2 k n b l l.length
abbrev Kv (k:Int) (n b:List Int) (l:List (List Int)):LI where
 α:={i:Nat // i<=n.length}
 live:=[1,5,23,24,25]
 st i:=([aj 0 0,aj 1 0,aC (.sl 1 (ints γ n)),.int γ (n.length:Int),.int γ (i.1:Int)],[aB (C4 k n b l),aB [.sl 2 0 (pu1 k n i.1).length],ai 5 1 (ints ξ (pu1 k n i.1))])
 μ i:=n.length - i.1
abbrev Kw (k:Int) (n b:List Int) (l:List (List Int)):LI where
 α:={i:Nat // i<=l.length}
 live:=[5,40,41,42]
 st i:=([aj 0 0,aC (.sl 1 (l.map bO)),.int γ (l.length:Int),.int γ (i.1:Int)],[aB [.sl 1 0 (pu2 k n b l i.1).length],ai 5 1 (ints ξ (pu2 k n b l i.1))])
 μ i:=l.length - i.1
def yv (k:Int) (n b:List Int) (l:List (List Int)):FuncId->Nat->Option LI
 | 104,3=>some (vQ l)
 | 99,2=>some (IU n)
 | 115,2=>some (IW l)
 | 47,8=>some (Kv k n b l)
 | 47,15=>some (Kw k n b l)
 |_,_=>none
def ub:aE:=fun args kb K=>match args,kb with
 | [aC (.sl 1 L)],[]=>∃ l:List (List Int),L=l.map bO/\l.length<=maxLen/\tot l<=1000000/\K (.int γ (tot l)) []
 |_,_=>False
structure vF (n b:List Int) (l:List (List Int)):Prop where
 nl:n.length<=maxLen
 bl:b.length<=maxLen
 ll:l.length<=maxLen
 tl:∀ t∈l,t.length<=maxLen
def AB:aE:=fun args kb K=>match args,kb with
 | [.agg [.int γ k,aC (.sl 1 N),aC (.sl 1 B),aC (.sl 1 L)]],[]=>∃ n b l,N=ints γ n/\B=ints ξ b/\L=l.map bO/\vF n b l/\(kR k n b l->K (.int γ 0) [])/\(¬ kR k n b l->K (.int γ 3) [])
 |_,_=>False
def E5:aE:=fun args kb K=>match args,kb with
 | [aC (.sl 1 N),.fn 101 []],[]=>∃ n:List Int,N=ints γ n/\n.length<=maxLen/\∀ q:Bool,(q=true ↔ ¬ ∀ x∈n,0<=x/\x<=4611686018427387904)->K (ο q) []
 |_,_=>False
def E6:aE:=fun args kb K=>match args,kb with
 | [aC (.sl 1 L),.fn 102 []],[]=>∃ l:List (List Int),L=l.map bO/\l.length<=maxLen/\∀ q:Bool,(q=true ↔ ¬ ∀ t∈l,t.length<=2048)->K (ο q) []
 |_,_=>False
def jL:FuncId->Option du
 | 104=>some ⟨[.fL 1],ub⟩
 | 70=>some ⟨[.fL 1],E5⟩
 | 103=>some ⟨[.fL 1],E6⟩
 |_=>none
noncomputable def Nv:cd:=dM Tryz.prog jL aG 10
noncomputable def Bi (n:List Int) (l:List (List Int)):cd:=dM Tryz.prog JK (yv 0 n [] l) 10
theorem ahw (n:List Int) (K:V->KB->Prop) (aq:
 At (IU n) ([aC (χ 1 (ints γ n)),V.fn 101 [],ε γ (↑(ints γ n).length:Int),ε γ 0],[])/\
 ∀(i:{i:Nat // i<=n.length/\
 ∀(x:Int),x∈ay i n->
 0<=x/\
 x<=4611686018427387904 }),let θ:=K (ο (decide ((↑i.val:Int) ≥ 0))) [];(decide ((↑i.val:Int)<(↑n.length:Int))=true->
 aA (↑i.val:Int)/\
 ∃(e:List D),(ints γ n)[(↑i.val:Int).toNat]? =some e/\
 ∃(n_1:Int),e[0]? =some (η (ν γ n_1))/\
 (decide (n_1<0)=true->
 θ)/\
 (decide (n_1<0)=false->
 (decide (n_1 > 4611686018427387904)=true->
 θ)/\
 (decide (n_1 > 4611686018427387904)=false->
 Nx (IU n) i ([aC (χ 1 (ints γ n)),V.fn 101 [],ε γ (↑n.length:Int),ε γ (γ.wrap ((↑i.val:Int)+1))],[]))))/\
 (decide ((↑i.val:Int)<(↑n.length:Int))=false->
 K (ο false) [])
 ):aI Tryz.prog (Bi n []) (aG 70) 70 [aC (.sl 1 (ints γ n)),.fn 101 []] [] K:=by apply Eq.mp (a:=aq);kernel_rfl
theorem ahx (l:List (List Int)) (K:V->KB->Prop) (aq:
 At (IW l) ([aC (χ 1 (ae bO l)),V.fn 102 [],ε γ (↑(ae bO l).length:Int),ε γ 0],[])/\
 ∀(i:{i:Nat // i<=l.length/\
 ∀(t:List Int),t∈ay i l->
 t.length<=2048 }),(decide ((↑i.val:Int)<(↑l.length:Int))=true->
 aA (↑i.val:Int)/\
 ∃(e:List D),(ae bO l)[(↑i.val:Int).toNat]? =some e/\
 ∃(l_1:List (List D)),e[0]? =some (χ 1 l_1)/\
 (decide ((↑l_1.length:Int) > 2048)=true->
 K (ο (decide ((↑i.val:Int) ≥ 0))) [])/\
 (decide ((↑l_1.length:Int) > 2048)=false->
 Nx (IW l) i ([aC (χ 1 (ae bO l)),V.fn 102 [],ε γ (↑l.length:Int),ε γ (γ.wrap ((↑i.val:Int)+1))],[])))/\
 (decide ((↑i.val:Int)<(↑l.length:Int))=false->
 K (ο false) [])
 ):aI Tryz.prog (Bi [] l) (aG 103) 103 [aC (.sl 1 (l.map bO)),.fn 102 []] [] K:=by apply Eq.mp (a:=aq);kernel_rfl
theorem L4 (l:List (List Int)) (K:V->KB->Prop) (aq:
 At (vQ l) ([ε γ 0,aC (χ 1 (ae bO l)),ε γ (↑(ae bO l).length:Int),ε γ 0],[])/\
 ∀(i:{i:Nat // i<=l.length }),(decide ((↑i.val:Int)<(↑l.length:Int))=true->
 aA (↑i.val:Int)/\
 ∃(e:List D),(ae bO l)[(↑i.val:Int).toNat]? =some e/\
 ∃(l_1:List (List D)),e[0]? =some (χ 1 l_1)/\
 Nx (vQ l) i ([ε γ (γ.wrap ((↑(tot (ay i.val l)):Int)+(↑l_1.length:Int))),aC (χ 1 (ae bO l)),ε γ (↑l.length:Int),ε γ (γ.wrap ((↑i.val:Int)+1))],[]))/\
 (decide ((↑i.val:Int)<(↑l.length:Int))=false->
 K (ε γ (↑(tot (ay i.val l)):Int)) [])
 ):aI Tryz.prog X0 (yv 0 [] [] l 104) 104 [aC (.sl 1 (l.map bO))] [] K:=by apply Eq.mp (a:=aq);kernel_rfl
theorem ahm (k:Int) (n b:List Int) (l:List (List Int)) (K:V->KB->Prop) (aq:
 let θ:=K (ε γ 3) [];(decide (k<1)=true->
 θ)/\
 (decide (k<1)=false->
 (decide (k > 40)=true->
 θ)/\
 (decide (k > 40)=false->
 (decide ((↑(ints γ n).length:Int) > 16)=true->
 θ)/\
 (decide ((↑(ints γ n).length:Int) > 16)=false->
 (decide ((↑(ae bO l).length:Int) > 64)=true->
 θ)/\
 (decide ((↑(ae bO l).length:Int) > 64)=false->
 (decide ((↑(ints ξ b).length:Int) > 2048)=true->
 θ)/\
 (decide ((↑(ints ξ b).length:Int) > 2048)=false->
 ∃(n_1:List Int),ints γ n=ints γ n_1/\
 n_1.length<=maxLen/\
 ∀(q:Bool),(q=true ↔ ¬∀(x:Int),x∈n_1->
 0<=x/\
 x<=4611686018427387904)->
 (q=true->
 θ)/\
 (q=false->
 ∃(l_1:List (List Int)),ae bO l=ae bO l_1/\
 l_1.length<=maxLen/\
 ∀(q:Bool),(q=true ↔ ¬∀(t:List Int),t∈l_1->
 t.length<=2048)->
 (q=true->
 θ)/\
 (q=false->
 ∃(l_2:List (List Int)),ae bO l=ae bO l_2/\
 l_2.length<=maxLen/\
 tot l_2<=1000000/\
 (decide ((↑(tot l_2):Int) > 65536)=true->
 θ)/\
 (decide ((↑(tot l_2):Int) > 65536)=false->
 K (ε γ 0) []))))))))
 ):aI Tryz.prog Nv (aG 76) 76 [.agg (C4 k n b l)] [] K:=by apply Eq.mp (a:=aq);kernel_rfl
theorem B0 {l:List Int} {i:Nat} (h:i<l.length):l[i]? =some (gI l i):=by
 unfold gI;rw[gO,bu h];rfl
theorem B1 {l:List Int} {i:Nat} (h:i<l.length):gI l i∈l:=fF (B0 h)
theorem HT {l:List Int} {i:Nat} (h:i<l.length):l.take (i+1)=l.take i++[gI l i]:=by rw[jt,B0 h];rfl
theorem B4 {l:List (List Int)} {i:Nat} (h:i<l.length):l[i]? =some (gT l i):=by
 unfold gT;rw[gO,bu h];rfl
theorem HU {l:List (List Int)} {i:Nat} (h:i<l.length):gT l i∈l:=fF (B4 h)
theorem B5 {l:List (List Int)} {i:Nat} (h:i<l.length):l.take (i+1)=l.take i++[gT l i]:=by rw[jt,B4 h];rfl
theorem el {k:IntKind} {l:List Int} {i:Nat} {Q:Int->Prop} (h:i<l.length) (q:Q (gI l i)):aA (i:Int)/\∃ e,(ints k l)[(i:Int).toNat]? =some e/\∃ n,e[0]? =some (η (.int k n))/\Q n:=
 ⟨by unfold aA;omega,[η (.int k (gI l i))],by rw[cN,kY,B0 h];rfl,_,rfl,q⟩
theorem Hi {l:List (List Int)} {i:Nat} {Q:List (List D)->Prop} (h:i<l.length) (q:Q (ints ξ (gT l i))):aA (i:Int)/\∃ e,(l.map bO)[(i:Int).toNat]? =some e/\∃ n,e[0]? =some (χ 1 n)/\Q n:=
 ⟨by unfold aA;omega,[χ 1 (ints ξ (gT l i))],by rw[cN,fy,B4 h];rfl,_,rfl,q⟩
theorem tC {l:List (List Int)}:(l.map bO).length=l.length:=bT ..
theorem Wz {a b:List (List Int)}:tot (a++b)=tot a+tot b:=by
 induction a with
 |nil=>simp [tot]
 |cons x a ih=>simp only[List.cons_append,tot,ih];omega
theorem ag7 {l:List (List Int)} {i:Nat} (h:i<l.length):tot (l.take (i+1))=tot (l.take i)+(gT l i).length:=by rw[B5 h,Wz];simp [tot]
theorem WA {l:List (List Int)} (i:Nat):tot (l.take i)<=tot l:=by
 have:=Wz (a:=l.take i) (b:=l.drop i)
 rw[List.take_append_drop]at this;omega
theorem ag6 {l:List (List Int)} {m:Nat} (h:∀ t∈l,t.length<=m):tot l<=m*l.length:=by
 induction l with
 |nil=>simp [tot]
 |cons x l ih=>
  have h1:=h x iV
  have h2:=ih fun t ht=>h t (gn _ ht)
  simp only[tot,gA]
  rw[Nat.mul_add,Nat.mul_one];omega
theorem J5:aO Tryz.prog 104 ub:=eC ga mixed (fun args kb K h=>by
 unfold ub at h;split at h<;>try exact h.elim
 obtain⟨l,rfl,hl0,hl,h⟩:=h
 simp only[maxLen]at hl0
 refine⟨yv 0 [] [] l 104,L4 l K ⟨by rw[tC];exact At.mk' ⟨0,bj _⟩ rfl,?_⟩⟩
 rintro⟨i,hi⟩
 dsimp only
 simp only[decide_eq_true_eq,decide_eq_false_iff_not]
 refine⟨fun hc=>Hi (by omega) ?_,fun hc=>?_⟩
 ·have h1:=ag7 (l:=l) (i:=i) (by omega)
  have h2:=WA (l:=l) (i+1)
  have e1:γ.wrap ((i:Int)+1)=((i+1:Nat):Int):=by rw[bE (by omega) (by omega)];rfl
  rw[bi,bE (by omega) (by omega),e1]
  have e2:(tot (l.take i):Int)+((gT l i).length:Int)=((tot (l.take (i+1)):Nat):Int):=by omega
  rw[e2]
  exact Nx.mk' (⟨i+1,by omega⟩:{i:Nat // i<=l.length}) rfl (by show l.length - (i+1)<l.length - i;omega)
 ·have:i=l.length:=by omega
  subst this
  rwa [cQ])
theorem acF:aO Tryz.prog 70 E5:=xi mixed (fun args kb K h=>by
 unfold E5 at h;split at h<;>try exact h.elim
 obtain⟨n,rfl,hl,h⟩:=h
 simp only[maxLen]at hl
 refine⟨Bi n [],aG 70,dP mixed JL _ 10,ahw n K ⟨by rw[bi];exact At.mk' ⟨0,bj _,by simp⟩ rfl,?_⟩⟩
 rintro⟨i,hi,ht⟩
 dsimp only
 simp only[decide_eq_true_eq,decide_eq_false_iff_not]
 refine⟨fun hc=>el (by omega) ⟨fun h1=>h _ ⟨fun _ f=>?_,fun _=>by simp⟩,fun h1=>⟨fun h2=>h _ ⟨fun _ f=>?_,fun _=>by simp⟩,fun h2=>?_⟩⟩,fun hc=>h _ ⟨fun f=>(by cases f),fun f=>?_⟩⟩
 ·have:=f _ (B1 (show i<n.length by omega));omega
 ·have:=f _ (B1 (show i<n.length by omega));omega
 ·rw[bE (by omega) (by omega)]
  refine Nx.mk' (⟨i+1,by omega,fun x hx=>?_⟩:{i:Nat // i<=n.length/\∀ x∈n.take i,0<=x/\x<=4611686018427387904}) rfl (by show n.length - (i+1)<n.length - i;omega)
  rw[HT (by omega),dz,da]at hx
  rcases hx with hx | rfl
  ·exact ht x hx
  ·omega
 ·have:i=n.length:=by omega
  subst this
  rw[cQ]at ht
  exact absurd ht f)
theorem acG:aO Tryz.prog 103 E6:=xi mixed (fun args kb K h=>by
 unfold E6 at h;split at h<;>try exact h.elim
 obtain⟨l,rfl,hl,h⟩:=h
 simp only[maxLen]at hl
 refine⟨Bi [] l,aG 103,dP mixed JL _ 10,ahx l K ⟨by rw[tC];exact At.mk' ⟨0,bj _,by simp⟩ rfl,?_⟩⟩
 rintro⟨i,hi,ht⟩
 dsimp only
 simp only[decide_eq_true_eq,decide_eq_false_iff_not]
 refine⟨fun hc=>Hi (by omega) ⟨fun h1=>h _ ⟨fun _ f=>?_,fun _=>by simp⟩,fun h2=>?_⟩,fun hc=>h _ ⟨fun f=>(by cases f),fun f=>?_⟩⟩
 ·rw[bi]at h1
  have:=f _ (HU (show i<l.length by omega));omega
 ·rw[bi]at h2
  rw[bE (by omega) (by omega)]
  refine Nx.mk' (⟨i+1,by omega,fun x hx=>?_⟩:{i:Nat // i<=l.length/\∀ t∈l.take i,t.length<=2048}) rfl (by show l.length - (i+1)<l.length - i;omega)
  rw[B5 (by omega),dz,da]at hx
  rcases hx with hx | rfl
  ·exact ht x hx
  ·omega
 ·have:i=l.length:=by omega
  subst this
  rw[cQ]at ht
  exact absurd ht f)
theorem Zn:dD Tryz.prog jL:=fun f k h=>by
 unfold jL at h
 split at h<;>first | (cases h;first | exact J5 | exact acF | exact acG) | cases h
theorem X_:cx Tryz.prog Nv:=dP mixed Zn aG 10
theorem To:aO Tryz.prog 76 AB:=eC X_ mixed (fun args kb K h=>by
 unfold AB at h;split at h<;>try exact h.elim
 rename_i k _ _ _
 obtain⟨n,b,l,rfl,rfl,rfl,⟨n1,b1,l1,t1⟩,hy,hn⟩:=h
 refine⟨aG 76,ahm k n b l K ?_⟩
 simp only[decide_eq_true_eq,decide_eq_false_iff_not,bi,tC]
 refine⟨fun h1=>hn fun w=>by have:=w.k1;omega,fun h1=>⟨fun h2=>hn fun w=>by have:=w.k2;omega,fun h2=>⟨fun h3=>hn fun w=>by have:=w.nl;omega,fun h3=>⟨fun h4=>hn fun w=>by have:=w.ll;omega,fun h4=>⟨fun h5=>hn fun w=>by have:=w.bl;omega,fun h5=>⟨n,rfl,n1,fun q hq=>⟨fun h6=>hn fun w=>hq.1 h6 w.ns,fun h6=>⟨l,rfl,l1,fun q' pM=>⟨fun h7=>hn fun w=>pM.1 h7 w.ts,fun h7=>?_⟩⟩⟩⟩⟩⟩⟩⟩⟩
 have pL:∀ x∈n,0<=x/\x<=4611686018427387904:=Classical.byContradiction fun f=>by rw[hq.2 f]at h6;cases h6
 have hts:∀ t∈l,t.length<=2048:=Classical.byContradiction fun f=>by rw[pM.2 f]at h7;cases h7
 have htb:=ag6 hts
 refine⟨l,rfl,l1,by omega,fun h8=>hn fun w=>by have:=w.al;omega,fun h8=>hy ⟨by omega,by omega,by omega,by omega,by omega,pL,hts,by omega⟩⟩)
structure xB (b:List Int) (l:List (List Int)):Prop where
 b:bq b
 l:∀ t∈l,bq t
def Nk:aE:=fun args kb K=>match args,kb with
 | [.agg [.int γ k,aC (.sl 1 N),aC (.sl 1 B),aC (.sl 1 L)]],[]=>∃ n b l,N=ints γ n/\B=ints ξ b/\L=l.map bO/\vF n b l/\xB b l/\
  (kR k n b l->K (.φ [.sl 0 0 ((dC k n b l).length+4),.int γ 0]) [ai 5 1 (ints ξ (ca (dC k n b l)))])/\(¬ kR k n b l->K (.φ [.sl 0 0 0,.int γ 3]) [ai 5 1 []])
 |_,_=>False
def HM:FuncId->Option du
 | 76=>some ⟨[.fL 1],AB⟩
 | 67=>some ⟨[.fL 1],AU⟩
 |f=>Ky f
noncomputable def NF:cd:=dM Tryz.prog HM aG 10
theorem aij (k:Int) (n b:List Int) (l:List (List Int)) (K:V->KB->Prop) (aq:
 let aN:=aC (χ 1 (ae bO l));let av:=aC (χ 1 (ints γ n));let ω:=aB [ε γ k,av,aC (χ 1 (ints ξ b)),aN];let θ:=(∃(a:List Int),[]=ints ξ a/\
 0=a.length/\
 a.length<=10000000/\
 jE k/\
 ∃(a_1:List Int),let aJ:=(a_1++aZ (↑(ints γ n).length:Int));ints ξ (a++aZ k)=ints ξ a_1/\
 (a++aZ k).length=a_1.length/\
 a_1.length<=10000000/\
 jE (↑(ints γ n).length:Int)/\
 At (Kv k n b l) ([aj 0 0,aj 1 0,av,ε γ (↑(ints γ n).length:Int),ε γ 0],[ω,aB [ζ 2 0 aJ.length],ai 5 1 (ints ξ aJ)])/\
 ∀(i:{i:Nat // i<=n.length }),(decide ((↑i.val:Int)<(↑n.length:Int))=true->
 aA (↑i.val:Int)/\
 ∃(e:List D),(ints γ n)[(↑i.val:Int).toNat]? =some e/\
 ∃(n_2:Int),e[0]? =some (η (ν γ n_2))/\
 ∃(a:List Int),ints ξ (pu1 k n i.val)=ints ξ a/\
 (pu1 k n i.val).length=a.length/\
 a.length<=10000000/\
 jE n_2/\
 Nx (Kv k n b l) i ([aj 0 0,aj 1 0,av,ε γ (↑n.length:Int),ε γ (γ.wrap ((↑i.val:Int)+1))],[ω,aB [ζ 2 0 (a++aZ n_2).length],ai 5 1 (ints ξ (a++aZ n_2))]))/\
 (decide ((↑i.val:Int)<(↑n.length:Int))=false->
 ∃(a:List Int),∃(b_2:List Int),ints ξ (pu1 k n i.val)=ints ξ a/\
 ints ξ b=ints ξ b_2/\
 (pu1 k n i.val).length=a.length/\
 a.length<=1000000/\
 b_2.length<=1000000/\
 ∃(a_2:List Int),let aU:=(a_2++aZ (↑(ae bO l).length:Int));ints ξ (a++cK b_2)=ints ξ a_2/\
 (a++cK b_2).length=a_2.length/\
 a_2.length<=10000000/\
 jE (↑(ae bO l).length:Int)/\
 At (Kw k n b l) ([aj 0 0,aN,ε γ (↑(ae bO l).length:Int),ε γ 0],[aB [ζ 1 0 aU.length],ai 5 1 (ints ξ aU)])/\
 ∀(i:{i:Nat // i<=l.length }),(decide ((↑i.val:Int)<(↑l.length:Int))=true->
 aA (↑i.val:Int)/\
 ∃(e:List D),(ae bO l)[(↑i.val:Int).toNat]? =some e/\
 ∃(l_2:List (List D)),e[0]? =some (χ 1 l_2)/\
 ∃(a:List Int),∃(sS:List Int),ints ξ (pu2 k n b l i.val)=ints ξ a/\
 l_2=ints ξ sS/\
 (pu2 k n b l i.val).length=a.length/\
 a.length<=1000000/\
 sS.length<=1000000/\
 Nx (Kw k n b l) i ([aj 0 0,aN,ε γ (↑l.length:Int),ε γ (γ.wrap ((↑i.val:Int)+1))],[aB [ζ 1 0 (a++cK sS).length],ai 5 1 (ints ξ (a++cK sS))]))/\
 (decide ((↑i.val:Int)<(↑l.length:Int))=false->
 ∃(a:List Int),ints ξ (pu2 k n b l i.val)=ints ξ a/\
 (pu2 k n b l i.val).length=a.length/\
 a.length<=1000000/\
 (a.length<=(ints ξ a).length/\
 True)/\
 ∃(l:List Int),ax 0 (ay a.length (ints ξ a))=ints ξ l/\
 (∀(c:Int),dW c l->
 0<=c/\
 c<256)/\
 l.length<=900000/\
 oM (ints ξ (ca l)).flatten/\
 K (au [ζ 0 0 (l.length+4),ε γ 0]) [ai 5 1 (ints ξ (ca l))])));∃(n_1:List Int),∃(b_1:List Int),∃(l_1:List (List Int)),ints γ n=ints γ n_1/\
 ints ξ b=ints ξ b_1/\
 ae bO l=ae bO l_1/\
 vF n_1 b_1 l_1/\
 (kR k n_1 b_1 l_1->
 (false=true->
 K (au [ζ 0 0 0,ε γ 0]) [ai 5 1 []])/\
 (false=false->
 θ))/\
 ((kR k n_1 b_1 l_1->
 False)->
 (true=true->
 K (au [ζ 0 0 0,ε γ 3]) [ai 5 1 []])/\
 (true=false->
 θ))
 ):aI Tryz.prog NF (yv k n b l 47) 47 [.agg (C4 k n b l)] [] (eX [.slot 0 5 1] (dp 0 K)):=by apply Eq.mp (a:=aq);kernel_rfl
theorem Oz {a b:List Int}:jd (a++b)=jd a++jd b:=by unfold jd;rw[ja,List.flatten_append]
theorem OC {a b:List (List Int)}:gV (a++b)=gV a++gV b:=by unfold gV;rw[ja,List.flatten_append]
theorem Zf {l:List Int} {i:Nat} (h:i<l.length):jd (l.take (i+1))=jd (l.take i)++aZ (gI l i):=by
 rw[HT h,Oz];simp [jd]
theorem Zh {l:List (List Int)} {i:Nat} (h:i<l.length):gV (l.take (i+1))=gV (l.take i)++cK (gT l i):=by
 rw[B5 h,OC];simp [gV]
theorem OA:∀(l:List Int),(jd l).length<=9*l.length
 | []=>by simp [jd]
 |a::l=>by
  have:=OA l
  have h1:=ke a
  have e:jd (a::l)=aZ a++jd l:=by simp [jd]
  rw[e,bn,gA];omega
theorem OE:∀(l:List (List Int)),(gV l).length<=tot l+9*l.length
 | []=>by simp [gV,tot]
 |a::l=>by
  have:=OE l
  have h1:=sx a
  have e:gV (a::l)=cK a++gV l:=by simp [gV]
  rw[e,bn,gA]
  simp only[tot];omega
theorem Un {k:Int} {n:List Int}:pu1 k n 0=aZ k++aZ (n.length:Int):=by simp [pu1,jd]
theorem Up {k:Int} {n:List Int} {i:Nat} (h:i<n.length):pu1 k n (i+1)=pu1 k n i++aZ (gI n i):=by
 unfold pu1;rw[Zf h,dX (_++_)]
theorem Uq {k:Int} {n b:List Int} {l:List (List Int)}:pu2 k n b l 0=pu1 k n n.length++cK b++aZ (l.length:Int):=by simp [pu2,gV]
theorem Us {k:Int} {n b:List Int} {l:List (List Int)} {i:Nat} (h:i<l.length):pu2 k n b l (i+1)=pu2 k n b l i++cK (gT l i):=by
 unfold pu2;rw[Zh h];simp only[dX]
theorem Uo {k:Int} {n b:List Int} {l:List (List Int)} (h:kR k n b l) (i:Nat):(pu1 k n i).length<=162:=by
 have h1:=ke k
 have h2:=ke (n.length:Int)
 have h3:=OA (n.take i)
 have:=h.nl
 rw[cW]at h3
 unfold pu1;simp only[bn];omega
theorem Ur {k:Int} {n b:List Int} {l:List (List Int)} (h:kR k n b l) (i:Nat):(pu2 k n b l i).length<=100000:=by
 have h1:=Uo h n.length
 have h2:=ke (l.length:Int)
 have h3:=OE (l.take i)
 have h4:=sx b
 have h5:=h.bl
 have h6:=h.ll
 have h7:=h.al
 have h8:=WA (l:=l) i
 rw[cW]at h3
 unfold pu2;simp only[bn];omega
theorem ya {a b:List Int} (ha:bq a) (hb:bq b):bq (a++b):=fun c hc=>by
 rcases dz.1 hc with h | h
 ·exact ha c h
 ·exact hb c h
theorem Uv {k:Int} {n b:List Int} {l:List (List Int)} (h:kR k n b l) (hb:xB b l):bq (dC k n b l):=by
 unfold dC pu2 pu1
 refine ya (ya (ya (ya (ya (pW ?_) (pW ?_)) ?_) (D_ hb.b ?_)) (pW ?_)) ?_
 ·have:=h.k2;omega
 ·have:=h.nl;omega
 ·intro c hc
  unfold jd at hc
  obtain⟨x,hx,hc⟩:=List.mem_flatten.1 hc
  obtain⟨m,hm,rfl⟩:=dO.1 hx
  exact pW (by have:=h.ns m (List.mem_of_mem_take hm);omega) c hc
 ·have:=h.bl;omega
 ·have:=h.ll;omega
 ·intro c hc
  unfold gV at hc
  obtain⟨x,hx,hc⟩:=List.mem_flatten.1 hc
  obtain⟨m,hm,rfl⟩:=dO.1 hx
  exact D_ (hb.l m (List.mem_of_mem_take hm)) (by have:=h.ts m (List.mem_of_mem_take hm);omega) c hc
theorem aap:dD Tryz.prog HM:=fun f k h=>by
 unfold HM at h
 split at h
 ·cases h;exact To
 ·cases h;exact TG
 ·exact Ux _ _ h
theorem Yg:cx Tryz.prog NF:=dP mixed aap aG 10
theorem adB:aO Tryz.prog 47 Nk:=my Yg mixed [.slot 0 5 1] (fun args kb K h=>by
 unfold Nk at h;split at h<;>try exact h.elim
 rename_i k _ _ _
 obtain⟨n,b,l,rfl,rfl,rfl,Iw,hb,hy,hn⟩:=h
 refine⟨yv k n b l 47,aij k n b l K ⟨n,b,l,rfl,rfl,rfl,Iw,fun hr=>⟨fun f=>(by cases f),fun _=>?_⟩,fun hr=>⟨fun _=>hn hr,fun f=>(by cases f)⟩⟩⟩
 replace hy:=hy hr
 have k1:=ke k
 have hk2:=hr.k2
 have hnl:=hr.nl
 have Cf:=hr.ll
 have cz:=hr.bl
 refine⟨[],rfl,rfl,by simp,⟨by omega⟩,_,rfl,rfl,by simp only[bn,kP];omega,⟨by rw[bi];omega⟩,?_,?_⟩
 ·rw[jr,bi,<- Un]
  exact At.mk' ⟨0,bj _⟩ rfl
 rintro⟨i,hi⟩
 dsimp only
 simp only[decide_eq_true_eq,decide_eq_false_iff_not]
 have p1:=Uo hr i
 refine⟨fun hc=>el (by omega) ⟨_,rfl,rfl,by omega,⟨by have:=hr.ns _ (B1 (show i<n.length by omega));omega⟩,?_⟩,fun hc=>?_⟩
 ·have e1:γ.wrap ((i:Int)+1)=((i+1:Nat):Int):=by rw[bE (by omega) (by omega)];rfl
  rw[e1,<- Up (by omega)]
  exact Nx.mk' (⟨i+1,by omega⟩:{i:Nat // i<=n.length}) rfl (by show n.length - (i+1)<n.length - i;omega)
 have:i=n.length:=by omega
 subst this
 have t1:=sx b
 refine⟨_,b,rfl,rfl,rfl,by omega,by omega,_,rfl,rfl,by rw[bn];omega,⟨by rw[tC];omega⟩,?_,?_⟩
 ·rw[tC,<- Uq]
  exact At.mk' ⟨0,bj _⟩ rfl
 rintro⟨j,hj⟩
 dsimp only
 try simp only[decide_eq_true_eq,decide_eq_false_iff_not]
 have p2:=Ur hr j
 refine⟨fun hc=>Hi (by omega) ⟨_,_,rfl,rfl,rfl,by omega,by have:=hr.ts _ (HU (show j<l.length by omega));omega,?_⟩,fun hc=>?_⟩
 ·have e1:γ.wrap ((j:Int)+1)=((j+1:Nat):Int):=by rw[bE (by omega) (by omega)];rfl
  rw[e1,<- Us (by omega)]
  exact Nx.mk' (⟨j+1,by omega⟩:{i:Nat // i<=l.length}) rfl (by show l.length - (j+1)<l.length - j;omega)
 have:j=l.length:=by omega
 subst this
 refine⟨_,rfl,rfl,by omega,⟨by rw[bi];exact ar _,trivial⟩,dC k n b l,by rw[iD,oX];unfold dC;rw[cQ],Uv hr hb,by unfold dC;omega,⟨o9⟩,hy⟩)
def ir (l:List Int) (p:Nat×Int) (most:Int):Nat×Int:=(p.1+(cC (l.drop p.1) p.2 most).2.1,(cC (l.drop p.1) p.2 most).2.2)
def jM (l:List Int) (p:Nat×Int) (most:Int):Int:=(cC (l.drop p.1) p.2 most).1
def xm (l:List Int) (p:Nat×Int) (most:Int):Nat×Int:=(p.1+(gX (l.drop p.1) p.2 most).2.1,(gX (l.drop p.1) p.2 most).2.2)
def xl (l:List Int) (p:Nat×Int) (most:Int):List Int:=(gX (l.drop p.1) p.2 most).1
def r6 (l:List Int) (p:Nat×Int):Nat->(Nat×Int)×List Int
 | 0=>(p,[])
 |i+1=>(ir l (r6 l p i).1 4611686018427387904,(r6 l p i).2++[jM l (r6 l p i).1 4611686018427387904])
def qe (l:List Int) (p:Nat×Int):Nat->(Nat×Int)×List (List Int)
 | 0=>(p,[])
 |i+1=>(xm l (qe l p i).1 2048,(qe l p i).2++[xl l (qe l p i).1 2048])
def q1 (l:List Int):Nat×Int:=ir l (0,0) 40
def kd (l:List Int):Int:=jM l (0,0) 40
def q2 (l:List Int):Nat×Int:=ir l (q1 l) 16
def cn (l:List Int):Nat:=(jM l (q1 l) 16).toNat
def qn (l:List Int) (i:Nat):(Nat×Int)×List Int:=r6 l (q2 l) i
def pn (l:List Int):Nat×Int:=(qn l (cn l)).1
def q3 (l:List Int):Nat×Int:=xm l (pn l) 2048
def bd (l:List Int):List Int:=xl l (pn l) 2048
def q4 (l:List Int):Nat×Int:=ir l (q3 l) 64
def cl (l:List Int):Nat:=(jM l (q3 l) 64).toNat
def qt (l:List Int) (i:Nat):(Nat×Int)×List (List Int):=qe l (q4 l) i
def pt (l:List Int):Nat×Int:=(qt l (cl l)).1
def fin (l:List Int):Int:=iY (l.drop (pt l).1) (pt l).2
structure Nb where
 e:Int
 k:Int
 n:List Int
 b:List Int
 l:List (List Int)
def w9 (e:Int):Nb:=⟨e,0,[],[],[]⟩
def xK (l:List Int):Prop:=kR (kd l) (qn l (cn l)).2 (bd l) (qt l (cl l)).2
open Classical in
noncomputable def nM (b:List Int):Nb:=match fM b with
 |none=>w9 4
 |some l=>if fin l≠0 then w9 (fin l)else if xK l then⟨0,kd l,(qn l (cn l)).2,bd l,(qt l (cl l)).2⟩else w9 3
abbrev Mw:List V:=[.int γ 0,δ (.slice none 0 0),δ (.slice none 0 0),δ (.slice none 0 0)]
abbrev DE (l:List Int):LI where
 α:={i:Nat // i<=cn l/\(qn l i).1.1<=l.length}
 live:=[2,6,7,24,25]
 dT:=[.cell 2 1 3 1]
 st i:=([aj 0 0,aj 1 0,aj 2 0,.int γ (cn l:Int),.int γ (i.1:Int)],[aB Mw,aB [.sl 3 (qn l i.1).1.1 l.length,.int γ (qn l i.1).1.2],aB [.int γ (kd l),.sl 4 0 i.1,δ (.slice none 0 0),δ (.slice none 0 0)],ai 5 1 (ints ξ l),ai 3 1 (ints γ (qn l i.1).2)])
 μ i:=cn l - i.1
abbrev DF (l:List Int):LI where
 α:={i:Nat // i<=cl l/\(qt l i).1.1<=l.length}
 live:=[2,6,7,39,40]
 dT:=[.cell 2 3 23 1]
 st i:=([aj 0 0,aj 1 0,aj 2 0,.int γ (cl l:Int),.int γ (i.1:Int)],[aB Mw,aB [.sl 3 (qt l i.1).1.1 l.length,.int γ (qt l i.1).1.2],aB [.int γ (kd l),.sl 4 0 (cn l),.sl 5 0 (bd l).length,.sl 6 0 i.1],ai 5 1 (ints ξ l),ai 3 1 (ints γ (qn l (cn l)).2),ai 5 1 (ints ξ (bd l)),ai 23 1 ((qt l i.1).2.map bO)])
 μ i:=cl l - i.1
abbrev KN (b l:List Int):LI where
 α:={q:Nat // fM b=some l}
 live:=[2,4]
 dT:=[.slot 1 5 1]
 st q:=([aj 0 0,.sl 1 0 l.length],[aB Mw,ai 5 1 (ints ξ l)])
 μ q:=0
def HO (b l:List Int):FuncId->Nat->Option LI
 | 59,1004=>some (KN b l)
 | 59,7=>some (DE l)
 | 59,12=>some (DF l)
 |_,_=>none
def Nl:aE:=fun args kb K=>match args,kb with
 | [aC (.sl 1 B)],[]=>∃ b:List Int,B=ints ξ b/\bq b/\b.length<=200000/\K (.φ [.agg (C4 (nM b).k (nM b).n (nM b).b (nM b).l),.int γ (nM b).e]) []
 |_,_=>False
def uv:FuncId->Option du
 | 76=>some ⟨[.fL 1],AB⟩
 | 64=>some ⟨[.fL 1],AL⟩
 |f=>Ky f
noncomputable def xX:cd:=dM Tryz.prog uv aG 10
theorem WO (b l:List Int) (K:V->KB->Prop) (aq:
 let mz:=ε γ (kd l);let m8:=(ay l.length (ints ξ l));let lm:=(ints ξ (bd l));let sI:=(bd l).length<=lm.length;let cI:=(ints γ (qn l (cn l)).snd);let b_:=δ (Value.slice none 0 0);let bp:=fz [ε γ 0,aC (χ 1 []),aC (χ 1 []),aC (χ 1 [])];let sF:=K (au [bp,ε γ 4]) [];let ω:=aB [ε γ 0,b_,b_,b_];let sH:=At (KN b l) ([aj 0 0,ζ 1 0 0],[ω,ai 5 1 []]);let θ:=(∀(i:{q:Nat // fM b=some l }),(l.length<=(ints ξ l).length/\
 True)/\
 (ax 0 m8).length<=140737488355328/\
 oM (ax 0 m8).flatten/\
 ∃(l_2:List Int),let bW:=(cC (ax 0 l_2) 0 40);ax 0 m8=ints ξ l_2/\
 (ax 0 m8).length=l_2.length/\
 0<=l_2.length/\
 (∀(c:Int),dW c l_2->
 0<=c/\
 c<256)/\
 l_2.length<=140737488355328/\
 ∃(io:List Int),let nT:=(cC (ax (0+bW.snd.fst) io) bW.snd.snd 16);ints ξ l_2=ints ξ io/\
 l_2.length=io.length/\
 0+bW.snd.fst<=io.length/\
 (∀(c:Int),dW c io->
 0<=c/\
 c<256)/\
 io.length<=140737488355328/\
 At (DE l) ([aj 0 0,aj 1 0,aj 2 0,ε γ nT.fst,ε γ 0],[ω,aB [ζ 3 (0+bW.snd.fst+nT.snd.fst) io.length,ε γ nT.snd.snd],aB [ε γ bW.fst,ζ 4 0 0,b_,b_],ai 5 1 (ints ξ io),ai 3 1 []])/\
 ∀(i:{i:Nat // i<=cn l/\
 (qn l i).fst.fst<=l.length }),let tV:=aB [mz,ζ 4 0 (i.val+1),b_,b_];let qY:=(i.val+1)*8<=140737488355328;let m7:=[aj 0 0,aj 1 0,aj 2 0,ε γ (↑(cn l):Int),ε γ (γ.wrap ((↑i.val:Int)+1))];let gM:=(ints γ (qn l i.val).snd);(decide ((↑i.val:Int)<(↑(cn l):Int))=true->
 (∃(hU:List Int),let eP:=(cC (ax (qn l i.val).fst.fst hU) (qn l i.val).fst.snd 4611686018427387904);ints ξ l=ints ξ hU/\
 l.length=hU.length/\
 (qn l i.val).fst.fst<=hU.length/\
 (∀(c:Int),dW c hU->
 0<=c/\
 c<256)/\
 hU.length<=140737488355328/\
 1<=1/\
 i.val<=gM.length/\
 qY/\
 Nx (DE l) i (m7,[ω,aB [ζ 3 ((qn l i.val).fst.fst+eP.snd.fst) hU.length,ε γ eP.snd.snd],tV,ai 5 1 (ints ξ hU),ai 3 1 (ay i.val gM++[[η (ν γ eP.fst)]])]))/\
 ∃(hU:List Int),let gk:=(cC (ax (qn l i.val).fst.fst hU) (qn l i.val).fst.snd 4611686018427387904);let aN:=Nx (DE l) i (m7,[ω,aB [ζ 3 ((qn l i.val).fst.fst+gk.snd.fst) hU.length,ε γ gk.snd.snd],tV,ai 5 1 (ints ξ hU),ai 3 1 (ay i.val gM++[[η (ν γ gk.fst)]])]);ints ξ l=ints ξ hU/\
 l.length=hU.length/\
 (qn l i.val).fst.fst<=hU.length/\
 (∀(c:Int),dW c hU->
 0<=c/\
 c<256)/\
 hU.length<=140737488355328/\
 (1<=1/\
 i.val<=gM.length/\
 qY/\
 aN)/\
 1<=1/\
 i.val<=gM.length/\
 qY/\
 aN)/\
 (decide ((↑i.val:Int)<(↑(cn l):Int))=false->
 ∃(hU:List Int),let aJ:=(gX (ax (qn l i.val).fst.fst hU) (qn l i.val).fst.snd 2048);ints ξ l=ints ξ hU/\
 l.length=hU.length/\
 (qn l i.val).fst.fst<=hU.length/\
 (∀(c:Int),dW c hU->
 0<=c/\
 c<256)/\
 hU.length<=140737488355328/\
 ∃(oY:List Int),let jU:=(cC (ax ((qn l i.val).fst.fst+aJ.snd.fst) oY) aJ.snd.snd 64);ints ξ hU=ints ξ oY/\
 hU.length=oY.length/\
 (qn l i.val).fst.fst+aJ.snd.fst<=oY.length/\
 (∀(c:Int),dW c oY->
 0<=c/\
 c<256)/\
 oY.length<=140737488355328/\
 At (DF l) ([aj 0 0,aj 1 0,aj 2 0,ε γ jU.fst,ε γ 0],[ω,aB [ζ 3 ((qn l i.val).fst.fst+aJ.snd.fst+jU.snd.fst) oY.length,ε γ jU.snd.snd],aB [mz,ζ 4 0 i.val,ζ 5 0 aJ.fst.length,ζ 6 0 0],ai 5 1 (ints ξ oY),ai 3 1 gM,ai 5 1 (ints ξ aJ.fst),ai 23 1 []])/\
 ∀(i:{i:Nat // i<=cl l/\
 (qt l i).fst.fst<=l.length }),let qi:=(i.val+1)*24<=140737488355328;let qX:=aB [mz,ζ 4 0 (cn l),ζ 5 0 (bd l).length,ζ 6 0 (i.val+1)];let l9:=[aj 0 0,aj 1 0,aj 2 0,ε γ (↑(cl l):Int),ε γ (γ.wrap ((↑i.val:Int)+1))];let bQ:=(ae bO (qt l i.val).snd);let bM:=K (au [fz [mz,aC (χ 1 (ax 0 (ay (cn l) cI))),aC (χ 1 (ax 0 (ay (bd l).length lm))),aC (χ 1 (ax 0 (ay i.val bQ)))],ε γ 0]) [];(decide ((↑i.val:Int)<(↑(cl l):Int))=true->
 (∃(j_:List Int),let bD:=(gX (ax (qt l i.val).fst.fst j_) (qt l i.val).fst.snd 2048);ints ξ l=ints ξ j_/\
 l.length=j_.length/\
 (qt l i.val).fst.fst<=j_.length/\
 (∀(c:Int),dW c j_->
 0<=c/\
 c<256)/\
 j_.length<=140737488355328/\
 bD.fst.length<=(ints ξ bD.fst).length/\
 1<=1/\
 i.val<=bQ.length/\
 qi/\
 Nx (DF l) i (l9,[ω,aB [ζ 3 ((qt l i.val).fst.fst+bD.snd.fst) j_.length,ε γ bD.snd.snd],qX,ai 5 1 (ints ξ j_),ai 3 1 cI,ai 5 1 lm,ai 23 1 (ay i.val bQ++[[χ 1 (ax 0 (ay bD.fst.length (ints ξ bD.fst)))]])]))/\
 ∃(j_:List Int),let aU:=(gX (ax (qt l i.val).fst.fst j_) (qt l i.val).fst.snd 2048);let sJ:=aU.fst.length<=(ints ξ aU.fst).length;let av:=Nx (DF l) i (l9,[ω,aB [ζ 3 ((qt l i.val).fst.fst+aU.snd.fst) j_.length,ε γ aU.snd.snd],qX,ai 5 1 (ints ξ j_),ai 3 1 cI,ai 5 1 lm,ai 23 1 (ay i.val bQ++[[χ 1 (ax 0 (ay aU.fst.length (ints ξ aU.fst)))]])]);ints ξ l=ints ξ j_/\
 l.length=j_.length/\
 (qt l i.val).fst.fst<=j_.length/\
 (∀(c:Int),dW c j_->
 0<=c/\
 c<256)/\
 j_.length<=140737488355328/\
 (sJ/\
 1<=1/\
 i.val<=bQ.length/\
 qi/\
 av)/\
 sJ/\
 1<=1/\
 i.val<=bQ.length/\
 qi/\
 av)/\
 (decide ((↑i.val:Int)<(↑(cl l):Int))=false->
 ∃(j_:List Int),let sG:=(ax (qt l i.val).fst.fst j_);let sL:=(iY sG (qt l i.val).fst.snd != 0);ints ξ l=ints ξ j_/\
 l.length=j_.length/\
 (sL=true->
 K (au [bp,ε γ (iY sG (qt l i.val).fst.snd)]) [])/\
 (sL=false->
 ((cn l<=cI.length/\
 sI/\
 i.val<=bQ.length/\
 True)/\
 True)/\
 ∃(n:List Int),∃(b:List Int),∃(CI:List (List Int)),ax 0 (ay (cn l) cI)=ints γ n/\
 ax 0 (ay (bd l).length lm)=ints ξ b/\
 ax 0 (ay i.val bQ)=ae bO CI/\
 vF n b CI/\
 (kR (kd l) n b CI->
 True/\
 (false=true->
 K (au [bp,ε γ 0]) [])/\
 (false=false->
 cn l<=cI.length/\
 sI/\
 i.val<=bQ.length/\
 bM))/\
 ((kR (kd l) n b CI->
 False)->
 True/\
 (true=true->
 K (au [bp,ε γ 3]) [])/\
 (true=false->
 cn l<=cI.length/\
 sI/\
 i.val<=bQ.length/\
 bM))))));∃(l_1:List Int),ints ξ b=ints ξ l_1/\
 (∀(c:Int),dW c l_1->
 0<=c/\
 c<256)/\
 l_1.length<=900000/\
 (fM l_1=none->
 ((true=true->
 sF)/\
 (true=false->
 sH))/\
 θ)/\
 ∀(m:List Int),fM l_1=some m->
 (m=[]->
 ((false=true->
 sF)/\
 (false=false->
 sH))/\
 θ)/\
 ((false=true->
 sF)/\
 (false=false->
 At (KN b l) ([aj 0 0,ζ 1 0 m.length],[ω,ai 5 1 (ints ξ m)])))/\
 θ
 ):aI Tryz.prog xX (HO b l 59) 59 [aC (.sl 1 (ints ξ b))] [] (yx [.num,.sl 1,.sl 1,.sl 1] (dp 0 K)):=by apply Eq.mp (a:=aq);kernel_rfl
theorem zq {l:List Int} {most:Int} (h0:0<=most) (e:Int):(cC l e most).1<=most/\0<=(cC l e most).1:=by
 unfold cC
 split
 ·split
  ·split
   ·exact⟨h0,dE _⟩
   ·exact⟨by simp only;omega,by simp only;omega⟩
  ·exact⟨h0,dE _⟩
  ·exact⟨h0,dE _⟩
 ·exact⟨h0,dE _⟩
theorem Dv {l:List Int} {e most:Int} (h:e≠0):cC l e most=(0,0,e):=by unfold cC;rw[if_neg h]
theorem UD {l:List Int} (hb:bq l) (e most:Int):(gX l e most).1.length<=l.length/\(gX l e most).2.1<=l.length:=by
 have h1:=(zr hb e most).2.2
 unfold gX
 split
 ·split
  ·exact⟨bj _,h1⟩
  ·rename_i h2
   simp only[cW,gm]at h2 ⊢
   omega
 ·exact⟨bj _,h1⟩
theorem Dh {l:List Int} (hb:bq l) {p:Nat×Int} (h:p.1<=l.length) (m:Int):(ir l p m).1<=l.length:=by
 have:=(zr (qq hb p.1) p.2 m).2.2
 rw[gm]at this
 unfold ir;simp only;omega
theorem Wi {l:List Int} (hb:bq l) {p:Nat×Int} (h:p.1<=l.length) (m:Int):(xm l p m).1<=l.length:=by
 have:=(UD (qq hb p.1) p.2 m).2
 rw[gm]at this
 unfold xm;simp only;omega
theorem Wg {l:List Int} (hb:bq l) (p:Nat×Int) (m:Int):(xl l p m).length<=l.length:=by
 have:=(UD (qq hb p.1) p.2 m).1
 rw[gm]at this
 unfold xl;omega
theorem SL {l:List Int} (hb:bq l) {p:Nat×Int} (h:p.1<=l.length):∀ i,(r6 l p i).1.1<=l.length/\(r6 l p i).2.length=i
 | 0=>⟨h,rfl⟩
 |i+1=>by
  obtain⟨h1,h2⟩:=SL hb h i
  exact⟨Dh hb h1 _,by simp only[r6,bn,gZ,h2]⟩
theorem V5 {l:List Int} (hb:bq l) {p:Nat×Int} (h:p.1<=l.length):∀ i,(qe l p i).1.1<=l.length/\(qe l p i).2.length=i/\∀ t∈(qe l p i).2,t.length<=l.length
 | 0=>⟨h,rfl,fun t ht=>by cases ht⟩
 |i+1=>by
  obtain⟨h1,h2,h3⟩:=V5 hb h i
  refine⟨Wi hb h1 _,by simp only[qe,bn,gZ,h2],fun t ht=>?_⟩
  simp only[qe,dz,da]at ht
  rcases ht with ht | rfl
  ·exact h3 t ht
  ·exact Wg hb _ _
theorem Uy {l:List Int} (hb:bq l):(q1 l).1<=l.length:=Dh hb (bj _) _
theorem aeF {l:List Int} (hb:bq l):(q2 l).1<=l.length:=Dh hb (Uy hb) _
theorem zn {l:List Int} (hb:bq l) (i:Nat):(qn l i).1.1<=l.length/\(qn l i).2.length=i:=SL hb (aeF hb) i
theorem Uz {l:List Int} (hb:bq l):(q3 l).1<=l.length:=Wi hb (zn hb _).1 _
theorem aeG {l:List Int} (hb:bq l):(q4 l).1<=l.length:=Dh hb (Uz hb) _
theorem Du {l:List Int} (hb:bq l) (i:Nat):(qt l i).1.1<=l.length/\(qt l i).2.length=i/\∀ t∈(qt l i).2,t.length<=l.length:=V5 hb (aeG hb) i
theorem OK {l:List Int}:jM l (q1 l) 16=(cn l:Int)/\cn l<=16:=by
 have:=zq (l:=l.drop (q1 l).1) (most:=16) (by omega) (q1 l).2
 unfold cn jM;omega
theorem OH {l:List Int}:jM l (q3 l) 64=(cl l:Int)/\cl l<=64:=by
 have:=zq (l:=l.drop (q3 l).1) (most:=64) (by omega) (q3 l).2
 unfold cl jM;omega
theorem wS {l:List Int} {p:Nat×Int} {m:Int} (h:p.2≠0):(ir l p m).2=p.2:=by unfold ir;rw[Dv h]
theorem ae2 {b:List Int} (h:fM b=none):nM b=w9 4:=by unfold nM;rw[h]
theorem ae0 {b l:List Int} (h:fM b=some l) (hf:fin l≠0):nM b=w9 (fin l):=by unfold nM;rw[h];simp only;rw[if_pos hf]
theorem UG {b l:List Int} (h:fM b=some l) (hf:fin l=0) (hr:xK l):nM b=⟨0,kd l,(qn l (cn l)).2,bd l,(qt l (cl l)).2⟩:=by
 unfold nM;rw[h];simp only;rw[if_neg (by simp [hf]),if_pos hr]
theorem ae1 {b l:List Int} (h:fM b=some l) (hf:fin l=0) (hr:¬ xK l):nM b=w9 3:=by
 unfold nM;rw[h];simp only;rw[if_neg (by simp [hf]),if_neg hr]
theorem aeo {b l:List Int} (h:fM b=some l) (hb:bq b):bq l/\l.length<=b.length:=by
 have:=Dk h
 subst this
 exact⟨fun c hc=>hb c (gQ _ hc),by rw[pg];omega⟩
theorem HN:dD Tryz.prog uv:=fun f k h=>by
 unfold uv at h
 split at h
 ·cases h;exact To
 ·cases h;exact TC
 ·exact Ux _ _ h
theorem FL:cx Tryz.prog xX:=dP mixed HN aG 10
theorem Qd {α:Type} {A B C D E X:α->Prop} (q:∃ l,A l/\B l/\C l/\D l/\E l/\X l):(∃ l,A l/\B l/\C l/\D l/\E l/\X l)/\∃ l,A l/\B l/\C l/\D l/\E l/\X l/\X l:=
 ⟨q,q.imp fun _ h=>⟨h.1,h.2.1,h.2.2.1,h.2.2.2.1,h.2.2.2.2.1,h.2.2.2.2.2,h.2.2.2.2.2⟩⟩
theorem su {k:IntKind} {o:List Int} {n:Nat} (h:n=o.length):ax 0 (ay n (ints k o))=ints k o:=by
 subst h
 rw[iD,oX,cQ]
theorem agB {o:List (List Int)} {n:Nat} (h:n=o.length):ax 0 (ay n (o.map bO))=o.map bO:=by
 subst h
 rw[iD,<- List.map_take,cQ]
theorem abM {l:List Int} (hb:bq l) (hl:l.length<=900000):vF (qn l (cn l)).2 (bd l) (qt l (cl l)).2:=by
 have h1:=(zn hb (cn l)).2
 have h2:=Wg hb (pn l) 2048
 have h3:=Du hb (cl l)
 have h4:=(OK (l:=l)).2
 have h5:=(OH (l:=l)).2
 have h6:(bd l).length<=l.length:=h2
 refine⟨?_,?_,?_,fun t ht=>?_⟩<;>simp only[maxLen]
 ·omega
 ·omega
 ·omega
 ·have:=h3.2.2 t ht;omega
theorem adF:aO Tryz.prog 59 Nl:=Vv FL mixed [.num,.sl 1,.sl 1,.sl 1] (fun args kb K h=>by
 unfold Nl at h;split at h<;>try exact h.elim
 obtain⟨b,rfl,hb,hl,h⟩:=h
 cases ho:fM b with
 |none=>
  rw[ae2 ho]at h
  refine⟨HO b [] 59,WO b [] K ((fun t=>⟨b,rfl,hb,by omega,fun _=>⟨⟨fun _=>h,fun f=>(by cases f)⟩,t⟩,fun m hm=>absurd hm (by rw[ho];simp)⟩) ?_)⟩
  rintro⟨_,hq⟩
  rw[ho]at hq;cases hq
 |some l=>
  obtain⟨hlb,Cf⟩:=aeo ho hb
  refine⟨HO b l 59,WO b l K ((fun t=>⟨b,rfl,hb,by omega,fun hn=>(by rw[ho]at hn;cases hn),fun m hm=>⟨fun hm0=>⟨⟨fun f=>(by cases f),fun _=>?_⟩,t⟩,⟨⟨fun f=>(by cases f),fun _=>?_⟩,t⟩⟩⟩) ?_)⟩
  rotate_left
  ·rw[ho,bb.injEq]at hm
   subst hm
   subst hm0
   exact At.mk' ⟨0,ho⟩ rfl
  ·rw[ho,bb.injEq]at hm
   subst hm
   exact At.mk' ⟨0,ho⟩ rfl
  rintro⟨_,_⟩
  have e0:ax 0 (ay l.length (ints ξ l))=ints ξ l:=su rfl
  rw[e0]
  obtain⟨c1,c2⟩:=OK (l:=l)
  obtain⟨d1,d2⟩:=OH (l:=l)
  refine⟨⟨by rw[bi];exact ar _,trivial⟩,by rw[bi];omega,⟨o9⟩,l,rfl,bi,bj _,hlb,by omega,l,rfl,rfl,Uy hlb,hlb,by omega,?_,?_⟩
  ·have e1:(cC (ax (0+(cC (ax 0 l) 0 40).2.1) l) (cC (ax 0 l) 0 40).2.2 16).1=(cn l:Int):=c1
   rw[e1]
   exact At.mk' ⟨0,bj _,(zn hlb 0).1⟩ rfl
  rintro⟨i,hi,hil⟩
  dsimp only at hil ⊢
  have hq:=zn hlb i
  have e1:γ.wrap ((i:Int)+1)=((i+1:Nat):Int):=by rw[bE (by omega) (by omega)];rfl
  simp only[decide_eq_true_eq,decide_eq_false_iff_not]
  refine⟨fun hc=>Qd ⟨l,rfl,rfl,hil,hlb,by omega,ar _,by rw[bi];omega,by omega,?_⟩,fun hc=>?_⟩
  ·refine Nx.mk' (⟨i+1,by omega,(zn hlb (i+1)).1⟩:{i:Nat // i<=cn l/\(qn l i).1.1<=l.length}) ?_ (by show cn l - (i+1)<cn l - i;omega)
   show(_:List V×KB)=_
   have e2:ay i (ints γ (qn l i).2)=ints γ (qn l i).2:=eQ (by rw[bi];omega)
   have e3:ints γ (qn l i).2++[[η (.int γ (cC (l.drop (qn l i).1.1) (qn l i).1.2 4611686018427387904).1)]]=ints γ (qn l (i+1)).2:=by
    show _=ints γ ((qn l i).2++[_])
    rw[pR];rfl
   rw[e1,e2,e3]
   rfl
  have:i=cn l:=by omega
  subst this
  refine⟨l,rfl,rfl,hil,hlb,by omega,l,rfl,rfl,Uz hlb,hlb,by omega,?_,?_⟩
  ·have e2:(cC (ax ((qn l (cn l)).1.1+(gX (ax (qn l (cn l)).1.1 l) (qn l (cn l)).1.2 2048).2.1) l) (gX (ax (qn l (cn l)).1.1 l) (qn l (cn l)).1.2 2048).2.2 64).1=(cl l:Int):=d1
   rw[e2]
   exact At.mk' ⟨0,bj _,(Du hlb 0).1⟩ rfl
  rintro⟨j,hj,hjl⟩
  dsimp only at hjl ⊢
  have hqj:=Du hlb j
  have e1:γ.wrap ((j:Int)+1)=((j+1:Nat):Int):=by rw[bE (by omega) (by omega)];rfl
  try simp only[decide_eq_true_eq,decide_eq_false_iff_not]
  refine⟨fun hc=>Qd ⟨l,rfl,rfl,hjl,hlb,by omega,by rw[bi];exact ar _,ar _,by rw[tC];omega,by omega,?_⟩,fun hc=>?_⟩
  ·refine Nx.mk' (⟨j+1,by omega,(Du hlb (j+1)).1⟩:{i:Nat // i<=cl l/\(qt l i).1.1<=l.length}) ?_ (by show cl l - (j+1)<cl l - j;omega)
   show(_:List V×KB)=_
   have e2:ay j ((qt l j).2.map bO)=(qt l j).2.map bO:=eQ (by rw[tC];omega)
   have e3:(qt l j).2.map bO++[[χ 1 (ax 0 (ay (gX (l.drop (qt l j).1.1) (qt l j).1.2 2048).1.length (ints ξ (gX (l.drop (qt l j).1.1) (qt l j).1.2 2048).1)))]]=(qt l (j+1)).2.map bO:=by
    rw[su rfl]
    show _=((qt l j).2++[_]).map bO
    rw[ja];rfl
   rw[e1,e2,e3]
   rfl
  have:j=cl l:=by omega
  subst this
  refine⟨l,rfl,rfl,fun h1=>?_,fun h1=>?_⟩
  ·have hf:fin l≠0:=by
    have h2:iY (ax (qt l (cl l)).1.1 l) (qt l (cl l)).1.2≠0:=by simpa using h1
    exact h2
   rw[ae0 ho hf]at h
   exact h
  ·have hf:fin l=0:=by
    have h2:iY (ax (qt l (cl l)).1.1 l) (qt l (cl l)).1.2=0:=by simpa using h1
    exact h2
   have f1:ax 0 (ay (cn l) (ints γ (qn l (cn l)).2))=ints γ (qn l (cn l)).2:=su hq.2.symm
   have f2:ax 0 (ay (bd l).length (ints ξ (bd l)))=ints ξ (bd l):=su rfl
   have f3:ax 0 (ay (cl l) ((qt l (cl l)).2.map bO))=(qt l (cl l)).2.map bO:=agB hqj.2.1.symm
   have g1:cn l<=(ints γ (qn l (cn l)).2).length:=by rw[bi];omega
   have g2:(bd l).length<=(ints ξ (bd l)).length:=by rw[bi];omega
   have g3:cl l<=((qt l (cl l)).2.map bO).length:=by rw[tC];omega
   rw[f1,f2,f3]
   refine⟨⟨⟨g1,g2,g3,trivial⟩,trivial⟩,_,_,_,rfl,rfl,rfl,abM hlb (by omega),fun hr=>⟨trivial,fun f=>(by cases f),fun _=>⟨g1,g2,g3,?_⟩⟩,fun hr=>⟨trivial,fun _=>?_,fun f=>(by cases f)⟩⟩
   ·rw[UG ho hf hr]at h;exact h
   ·rw[ae1 ho hf hr]at h;exact h)
def Nj:aE:=fun args kb K=>match args,kb with
 | [.agg [.int γ k,aC (.sl 1 N),aC (.sl 1 B),aC (.sl 1 L)]],[]=>∃ n b l,N=ints γ n/\B=ints ξ b/\L=l.map bO/\vF n b l/\xB b l/\
  (kR k n b l->K (.φ [aC (.sl 1 (ints ξ (ca (dC k n b l)))),.int γ 0]) [])/\(¬ kR k n b l->K (.φ [aC (.sl 1 []),.int γ 3]) [])
 |_,_=>False
theorem Dg {pre rest:List Int} {v m:Int} (h0:0<=v) (h:v<=9223372036854775807) (hm:v<=m):ir (pre++(aZ v++rest)) (pre.length,0) m=((pre++aZ v).length,0)/\jM (pre++(aZ v++rest)) (pre.length,0) m=v:=by
 unfold ir jM
 simp only
 rw[List.drop_left,KA h0 h hm,bn]
 exact⟨rfl,rfl⟩
theorem Wh {pre rest t:List Int} {m:Int} (hm:(t.length:Int)<=m) (h:(t.length:Int)<=9223372036854775807):xm (pre++(cK t++rest)) (pre.length,0) m=((pre++cK t).length,0)/\xl (pre++(cK t++rest)) (pre.length,0) m=t:=by
 unfold xm xl
 simp only
 rw[List.drop_left,UC hm h,bn]
 exact⟨rfl,rfl⟩
theorem aeB {k:Int} {n:List Int} (i:Nat):pu1 k n n.length=pu1 k n i++jd (n.drop i):=by
 unfold pu1
 have:=Oz (a:=n.take i) (b:=n.drop i)
 rw[List.take_append_drop]at this
 rw[cQ,this]
 simp only[dX]
theorem aeC {k:Int} {n b:List Int} {l:List (List Int)} (i:Nat):dC k n b l=pu2 k n b l i++gV (l.drop i):=by
 unfold dC pu2
 have:=OC (a:=l.take i) (b:=l.drop i)
 rw[List.take_append_drop]at this
 rw[cQ,this]
 simp only[dX]
theorem Ze {n:List Int} {i:Nat} (h:i<n.length):jd (n.drop i)=aZ (gI n i)++jd (n.drop (i+1)):=by
 have h1:=List.drop_eq_getElem_cons h
 have h2:=B0 h
 rw[bu h,bb.injEq]at h2
 rw[h1,h2]
 simp [jd]
theorem Zg {n:List (List Int)} {i:Nat} (h:i<n.length):gV (n.drop i)=cK (gT n i)++gV (n.drop (i+1)):=by
 have h1:=List.drop_eq_getElem_cons h
 have h2:=B4 h
 rw[bu h,bb.injEq]at h2
 rw[h1,h2]
 simp [gV]
section
variable {k:Int} {n b:List Int} {l:List (List Int)} (hr:kR k n b l)
include hr
theorem UQ:q1 (dC k n b l)=((aZ k).length,0)/\kd (dC k n b l)=k:=by
 have e:dC k n b l=[]++(aZ k++(aZ (n.length:Int)++jd n++cK b++aZ (l.length:Int)++gV l)):=by
  unfold dC pu2 pu1
  rw[cQ,cQ]
  simp only[dX,jr]
 have h1:=hr.k1
 have h2:=hr.k2
 unfold q1 kd
 rw[e]
 exact Dg (pre:=[]) (by omega) (by omega) (by omega)
theorem KS:q2 (dC k n b l)=((aZ k++aZ (n.length:Int)).length,0)/\cn (dC k n b l)=n.length:=by
 have e:dC k n b l=aZ k++(aZ (n.length:Int)++(jd n++cK b++aZ (l.length:Int)++gV l)):=by
  unfold dC pu2 pu1
  rw[cQ,cQ]
  simp only[dX]
 have h1:=hr.nl
 have h2:=Dg (pre:=aZ k) (rest:=jd n++cK b++aZ (l.length:Int)++gV l) (v:=(n.length:Int)) (m:=16) (by omega) (by omega) (by omega)
 rw[<- e]at h2
 unfold q2 cn
 rw[(UQ hr).1,h2.1,h2.2]
 exact⟨rfl,cN _⟩
theorem KU:∀ i,i<=n.length->qn (dC k n b l) i=(((pu1 k n i).length,0),n.take i)
 | 0,_=>by
  unfold qn r6
  rw[(KS hr).1,Un];rfl
 |i+1,hi=>by
  have ih:=KU i (by omega)
  unfold qn at ih ⊢
  simp only[r6]
  rw[ih]
  have e:dC k n b l=pu1 k n i++(aZ (gI n i)++(jd (n.drop (i+1))++cK b++aZ (l.length:Int)++gV l)):=by
   unfold dC pu2
   rw[aeB i,Ze (by omega),cQ]
   simp only[dX]
  have h0:=hr.ns _ (B1 (show i<n.length by omega))
  have h2:=Dg (pre:=pu1 k n i) (rest:=jd (n.drop (i+1))++cK b++aZ (l.length:Int)++gV l) (v:=gI n i) (m:=4611686018427387904) h0.1 (by omega) h0.2
  rw[<- e]at h2
  simp only
  rw[h2.1,h2.2,Up (by omega),HT (by omega)]
theorem afp:pn (dC k n b l)=((pu1 k n n.length).length,0):=by
 unfold pn
 rw[(KS hr).2,KU hr _ (ar _)]
theorem UR:q3 (dC k n b l)=((pu1 k n n.length++cK b).length,0)/\bd (dC k n b l)=b:=by
 have e:dC k n b l=pu1 k n n.length++(cK b++(aZ (l.length:Int)++gV l)):=by
  unfold dC pu2
  rw[cQ]
  simp only[dX]
 have h1:=hr.bl
 have h2:=Wh (pre:=pu1 k n n.length) (rest:=aZ (l.length:Int)++gV l) (t:=b) (m:=2048) (by omega) (by omega)
 rw[<- e]at h2
 unfold q3 bd
 rw[afp hr]
 exact h2
theorem US:q4 (dC k n b l)=((pu2 k n b l 0).length,0)/\cl (dC k n b l)=l.length:=by
 have e:dC k n b l=(pu1 k n n.length++cK b)++(aZ (l.length:Int)++gV l):=by
  unfold dC pu2
  rw[cQ]
  simp only[dX]
 have h1:=hr.ll
 have h2:=Dg (pre:=pu1 k n n.length++cK b) (rest:=gV l) (v:=(l.length:Int)) (m:=64) (by omega) (by omega) (by omega)
 rw[<- e]at h2
 unfold q4 cl
 rw[(UR hr).1,h2.1,h2.2,Uq]
 exact⟨rfl,cN _⟩
theorem KV:∀ i,i<=l.length->qt (dC k n b l) i=(((pu2 k n b l i).length,0),l.take i)
 | 0,_=>by
  unfold qt qe
  rw[(US hr).1];rfl
 |i+1,hi=>by
  have ih:=KV i (by omega)
  unfold qt at ih ⊢
  simp only[qe]
  rw[ih]
  have e:dC k n b l=pu2 k n b l i++(cK (gT l i)++gV (l.drop (i+1))):=by
   rw[aeC i,Zg (by omega)]
  have h0:=hr.ts _ (HU (show i<l.length by omega))
  have h2:=Wh (pre:=pu2 k n b l i) (rest:=gV (l.drop (i+1))) (t:=gT l i) (m:=2048) (by omega) (by omega)
  rw[<- e]at h2
  simp only
  rw[h2.1,h2.2,Us (by omega),B5 (by omega)]
theorem ae3:nM (ca (dC k n b l))=⟨0,k,n,b,l⟩:=by
 have h1:=(US hr).2
 have h2:pt (dC k n b l)=((dC k n b l).length,0):=by
  unfold pt
  rw[h1,KV hr _ (ar _)];rfl
 have hf:fin (dC k n b l)=0:=by
  unfold fin
  rw[h2]
  show iY ((dC k n b l).drop (dC k n b l).length) 0=0
  rw[List.drop_length];rfl
 have e1:kd (dC k n b l)=k:=(UQ hr).2
 have e2:(qn (dC k n b l) (cn (dC k n b l))).2=n:=by rw[(KS hr).2,KU hr _ (ar _),cQ]
 have e3:bd (dC k n b l)=b:=(UR hr).2
 have e4:(qt (dC k n b l) (cl (dC k n b l))).2=l:=by rw[h1,KV hr _ (ar _),cQ]
 have hR:xK (dC k n b l):=by
  unfold xK
  rw[e1,e2,e3,e4];exact hr
 rw[UG wX hf hR,e1,e2,e3,e4]
end
theorem adA:aO Tryz.prog 47 Nj:=fun args kb K hs=>B8 adB [.fA 1] args kb K (by
 unfold Nj at hs;split at hs<;>try exact hs.elim
 rename_i k _ _ _
 obtain⟨n,b,l,rfl,rfl,rfl,hl,hb,hy,hn⟩:=hs
 refine⟨n,b,l,rfl,rfl,rfl,hl,hb,fun hr=>?_,fun hr=>?_⟩
 ·refine⟨by rw[bi,pg];exact ar _,?_⟩
  have e:ax 0 (ay ((dC k n b l).length+4) (ints ξ (ca (dC k n b l))))=ints ξ (ca (dC k n b l)):=su (by rw[pg])
  show K (.φ [aC (.sl 1 (ax 0 (ay ((dC k n b l).length+4) (ints ξ (ca (dC k n b l)))))),.int γ 0]) []
  rw[e]
  exact hy hr
 ·refine⟨ar _,?_⟩
  exact hn hr)
theorem afk {k:Int} {n b:List Int} {l:List (List Int)} (h:kR k n b l):(dC k n b l).length<=100000:=Ur h _
end Go.Proofs.YtfcjngcnifdmnaaGreat.Fm
namespace Go.Proofs.YtfcjngcnifdmnaaGreat
open Vc Go
open Go.IntKind renaming i64->γ,u8->ξ,u32->iM
open Vc.V renaming any->δ,int->ε,sl->ζ,sb->ο,ptr->aj,φ->au,dat->aC,aa->aR,mp->aY,arr->bF,agg->fz
open Vc.D renaming val->η,sl->χ
open Go.Value renaming int->ν,map->kT,bool->mG,oneCell'->mH
open List renaming map->ae,drop->ax,take->ay,length_append->bn,getElem?_eq_getElem->bu,getElem?_eq_some_iff->bH,length_map->bT,take_length->cQ,length_take->cW,mem_singleton->da,replicate->dv,mem_append->dz,mem_map->dO,mem_cons->dS,Mem->dW,append_assoc->dX,getElem?_append_left->dY,take_of_length_le->eQ,getElem?_append_right->fk,getElem?_map->fy,mem_of_getElem?->fF,length_drop->gm,mem_cons_of_mem->gn,append_nil->gz,length_cons->gA,getD_eq_getElem?_getD->gO,getElem?_set_ne->gP,mem_append_left->gQ,length_singleton->gZ,drop_zero->iD,getElem?_eq_none->iE,getElem?_take_of_lt->iF,length_set->iG,getElem?_set_self->iN,mem_cons_self->iV,map_append->ja,range->jb,nil_append->jr,take_add_one->jt,flatten_cons->jF,getElem?_of_mem->jG,getElem?_drop->jW,map_cons->kv,length_nil->kP,mem_append_right->kQ,mem_filter->lu,ext_getElem?->mb,eq_nil_of_length_eq_zero->mD
open Vc.KO renaming row->ai,dead->aw,cells->aB,objs->fE
open Nat renaming le_refl->ar,zero_le->bj,beq->cX,zero_add->c9,eq_of_beq_eq_true->de,add_assoc->g_,lor->iW,lt_or_ge->kx,sub_zero->ly,le_trans->mc
open Option renaming some->bb,bind_eq_some_iff->lO,map->ng
open Int renaming toNat_natCast->cN,le_refl->dE
open Bool renaming and_eq_true->jo,not_eq_false'->kr,not_eq_true'->mA
set_option linter.unusedVariables false
set_option linter.unusedSimpArgs false
set_option maxRecDepth 100000
set_option maxHeartbeats 2000000
abbrev IH (o:List Int) (v:Int):LI where
 α:={i:Nat // i<=o.length/\v ∉ o.take i}
 live:=[0,1,5]
 st i:=([aC (.sl 1 (ints γ o)),.int γ v,.int γ (i.1:Int)],[])
 μ i:=o.length - i.1
def ia (l:List Int) (v:Int):List Int:=l.filter (fun x=>x != v)
abbrev Em (o:List Int) (v:Int):LI where
 α:={i:Nat // i<=o.length}
 live:=[0,1,5,6]
 dT:=[.slot 2 3 1]
 st i:=([aC (.sl 1 (ints γ o)),.int γ v,.sl 0 0 (ia (o.take i.1) v).length,.int γ (i.1:Int)],[ai 3 1 (ints γ (ia (o.take i.1) v))])
 μ i:=o.length - i.1
abbrev J4 (b:List Int):LI where
 α:={i:Nat // 1<=i/\i<=15/\∀ k,1<=k->k<i->b.getD k 0=0}
 live:=[0,3]
 st i:=([aC (.sl 1 (ints ξ b)),.int γ (i.1:Int)],[])
 μ i:=15 - i.1
def Me (o:List Int) (v:Int):FuncId->Nat->Option LI
 | 93,2=>some (IH o v)
 | 94,3=>some (Em o v)
 | 77,4=>some (J4 o)
 |_,_=>none
def ud:aE:=fun args kb K=>match args,kb with
 | [aC (.sl 1 O),.int γ v],[]=>∃ o:List Int,O=ints γ o/\o.length<=100000/\K (ο (decide (v∈o))) []
 |_,_=>False
def FC:aE:=fun args kb K=>match args,kb with
 | [aC (.sl 1 O),.int γ v],[]=>∃ o:List Int,O=ints γ o/\o.length<=100000/\K (aC (.sl 1 (ints γ (ia o v)))) []
 |_,_=>False
def kg (b:List Int):Int:=if b.length=16/\(∀ k,k<15->1<=k->b.getD k 0=0)/\¬ (b.getD 0 0=0/\b.getD 15 0≠0∨b.getD 0 0≠0/\b.getD 15 0≠7)then b.getD 0 0 else -1
def Fj:aE:=fun args kb K=>match args,kb with
 | [aC (.sl 1 B)],[]=>∃ b:List Int,B=ints ξ b/\bq b/\b.length<=100000/\K (.int γ (kg b)) []
 |_,_=>False
def lY (c:Vw) (ch id:Int):Vw:=
 if ch=0 then(if(id ∉ c.mem/\id ∉ c.aH)∨(id∈c.mem/\c.mem.length=1)then c else⟨c.vi,c.vv,c.ve+1,ia c.mem id,ia c.aH id⟩)
 else if ch=1 then(if id∈c.mem∨id∈c.aH then c else⟨c.vi,c.vv,c.ve+1,c.mem,c.aH++[id]⟩)
 else if ch=2 then(if id ∉ c.aH then c else⟨c.vi,c.vv,c.ve+1,c.mem++[id],ia c.aH id⟩)else c
def vJ:aE:=fun args kb K=>match args,kb with
 | [.agg [.int γ vi,.int γ vv,.int γ ve,aC (.sl 1 M),aC (.sl 1 J)],.int γ ch,.int γ id],[]=>∃ m j:List Int,M=ints γ m/\J=ints γ j/\m.length<=1000/\j.length<=1000/\0<=ve/\ve<=1000000/\K (xr (lY ⟨vi,vv,ve,m,j⟩ ch id)) []
 |_,_=>False
def JY:FuncId->Option du
 | 93=>some ⟨[.fL 1],ud⟩
 | 94=>some ⟨[.fA 1],FC⟩
 |_=>none
noncomputable def NL:cd:=dM Tryz.prog JY aG 10
theorem L5 (o:List Int) (v:Int) (K:V->KB->Prop) (aq:
 At (IH o v) ([aC (χ 1 (ints γ o)),ε γ v,ε γ 0],[])/\
 ∀(i:{i:Nat // i<=o.length/\
 ¬v∈ay i o }),let θ:=(↑i.val:Int)<(↑(ints γ o).length:Int);(decide (θ)=true->
 aA (↑i.val:Int)/\
 ∃(e:List D),(ints γ o)[(↑i.val:Int).toNat]? =some e/\
 ∃(n:Int),e[0]? =some (η (ν γ n))/\
 ((n == v)=true->
 K (ο true) [])/\
 ((n == v)=false->
 Nx (IH o v) i ([aC (χ 1 (ints γ o)),ε γ v,ε γ (γ.wrap ((↑i.val:Int)+1))],[])))/\
 (decide (θ)=false->
 K (ο false) [])
 ):aI Tryz.prog X0 (Me o v 93) 93 [aC (.sl 1 (ints γ o)),.int γ v] [] K:=by apply Eq.mp (a:=aq);kernel_rfl
theorem aiV (o:List Int) (v:Int) (K:V->KB->Prop) (aq:
 let ω:=aC (χ 1 (ints γ o));At (Em o v) ([ω,ε γ v,ζ 0 0 0,ε γ 0],[ai 3 1 []])/\
 ∀(i:{i:Nat // i<=o.length }),let aN:=(↑i.val:Int)<(↑(ints γ o).length:Int);let av:=ε γ (γ.wrap ((↑i.val:Int)+1));let θ:=(ia (ay i.val o) v);let aJ:=θ.length<=(ints γ θ).length;(decide (aN)=true->
 aA (↑i.val:Int)/\
 ∃(e:List D),(ints γ o)[(↑i.val:Int).toNat]? =some e/\
 ∃(n:Int),e[0]? =some (η (ν γ n))/\
 ((n != v)=true->
 aA (↑i.val:Int)/\
 ∃(e:List D),(ints γ o)[(↑i.val:Int).toNat]? =some e/\
 ∃(n:Int),e[0]? =some (η (ν γ n))/\
 1<=1/\
 aJ/\
 (θ.length+1)*8<=140737488355328/\
 Nx (Em o v) i ([ω,ε γ v,ζ 0 0 (θ.length+1),av],[ai 3 1 (ay θ.length (ints γ θ)++[[η (ν γ n)]])]))/\
 ((n != v)=false->
 Nx (Em o v) i ([ω,ε γ v,ζ 0 0 θ.length,av],[ai 3 1 (ints γ θ)])))/\
 (decide (aN)=false->
 aJ/\
 K (aC (χ 1 (ax 0 (ay θ.length (ints γ θ))))) [])
 ):aI Tryz.prog X0 (Me o v 94) 94 [aC (.sl 1 (ints γ o)),.int γ v] [] (j0 [.fA 1] (dp 0 K)):=by apply Eq.mp (a:=aq);kernel_rfl
theorem ah9 (b:List Int) (K:V->KB->Prop) (aq:
 let θ:=K (ε γ (-1)) [];(((↑(ints ξ b).length:Int) != 16)=true->
 θ)/\
 (((↑(ints ξ b).length:Int) != 16)=false->
 At (J4 b) ([aC (χ 1 (ints ξ b)),ε γ 1],[])/\
 ∀(i:{i:Nat // 1<=i/\
 i<=15/\
 ∀(k:Nat),1<=k->
 k<i->
 b.getD k 0=0 }),(decide ((↑i.val:Int)<15)=true->
 aA (↑i.val:Int)/\
 ∃(e:List D),(ints ξ b)[(↑i.val:Int).toNat]? =some e/\
 ∃(n:Int),e[0]? =some (η (ν ξ n))/\
 ((n != 0)=true->
 θ)/\
 ((n != 0)=false->
 Nx (J4 b) i ([aC (χ 1 (ints ξ b)),ε γ (γ.wrap ((↑i.val:Int)+1))],[])))/\
 (decide ((↑i.val:Int)<15)=false->
 aA 0/\
 ∃(e:List D),(ints ξ b)[0]? =some e/\
 ∃(n:Int),e[0]? =some (η (ν ξ n))/\
 ((n == 0)=true->
 aA 15/\
 ∃(e:List D),(ints ξ b)[15]? =some e/\
 ∃(n:Int),e[0]? =some (η (ν ξ n))/\
 ((n != 0)=true->
 θ)/\
 ((n != 0)=false->
 aA 0/\
 ∃(e:List D),(ints ξ b)[0]? =some e/\
 ∃(n:Int),e[0]? =some (η (ν ξ n))/\
 ((n != 0)=true->
 aA 15/\
 ∃(e:List D),(ints ξ b)[15]? =some e/\
 ∃(n:Int),e[0]? =some (η (ν ξ n))/\
 ((n != 7)=true->
 θ)/\
 ((n != 7)=false->
 aA 0/\
 ∃(e:List D),(ints ξ b)[0]? =some e/\
 ∃(n:Int),e[0]? =some (η (ν ξ n))/\
 K (ε γ (γ.wrap n)) []))/\
 ((n != 0)=false->
 aA 0/\
 ∃(e:List D),(ints ξ b)[0]? =some e/\
 ∃(n:Int),e[0]? =some (η (ν ξ n))/\
 K (ε γ (γ.wrap n)) [])))/\
 ((n == 0)=false->
 aA 0/\
 ∃(e:List D),(ints ξ b)[0]? =some e/\
 ∃(n:Int),e[0]? =some (η (ν ξ n))/\
 ((n != 0)=true->
 aA 15/\
 ∃(e:List D),(ints ξ b)[15]? =some e/\
 ∃(n:Int),e[0]? =some (η (ν ξ n))/\
 ((n != 7)=true->
 θ)/\
 ((n != 7)=false->
 aA 0/\
 ∃(e:List D),(ints ξ b)[0]? =some e/\
 ∃(n:Int),e[0]? =some (η (ν ξ n))/\
 K (ε γ (γ.wrap n)) []))/\
 ((n != 0)=false->
 aA 0/\
 ∃(e:List D),(ints ξ b)[0]? =some e/\
 ∃(n:Int),e[0]? =some (η (ν ξ n))/\
 K (ε γ (γ.wrap n)) []))))
 ):aI Tryz.prog X0 (Me b 0 77) 77 [aC (.sl 1 (ints ξ b))] [] K:=by apply Eq.mp (a:=aq);kernel_rfl
theorem L6 (vi vv ve:Int) (m j:List Int) (ch id:Int) (K:V->KB->Prop) (aq:
 let bp:=((↑(ints γ m).length:Int) == 1)=true;let aU:=((↑(ints γ m).length:Int) == 1)=false;let aJ:=ε γ (γ.wrap (ve+1));let aN:=(ay (0+(ints γ m).length) ([]++ints γ m)++[[η (ν γ id)]]);let av:=(ay (0+(ints γ j).length) ([]++ints γ j)++[[η (ν γ id)]]);let ω:=K (fz [ε γ vi,ε γ vv,ε γ ve,aC (χ 1 (ints γ m)),aC (χ 1 (ints γ j))]) [];∃(o:List Int),let θ:=(∃(o:List Int),ints γ m=ints γ o/\
 o.length<=100000/\
 ∃(J0:List Int),ints γ j=ints γ J0/\
 J0.length<=100000/\
 K (fz [ε γ vi,ε γ vv,aJ,aC (χ 1 (ints γ (ia o id))),aC (χ 1 (ints γ (ia J0 id)))]) []);ints γ m=ints γ o/\
 o.length<=100000/\
 ∃(gf:List Int),ints γ j=ints γ gf/\
 gf.length<=100000/\
 ((ch == 0)=true->
 ((!decide (id∈o))=true->
 ((!decide (id∈gf))=true->
 ω)/\
 ((!decide (id∈gf))=false->
 (decide (id∈o)=true->
 (bp->
 ω)/\
 (aU->
 θ))/\
 (decide (id∈o)=false->
 θ)))/\
 ((!decide (id∈o))=false->
 (decide (id∈o)=true->
 (bp->
 ω)/\
 (aU->
 θ))/\
 (decide (id∈o)=false->
 θ)))/\
 ((ch == 0)=false->
 ((ch == 1)=true->
 (decide (id∈o)=true->
 ω)/\
 (decide (id∈o)=false->
 (decide (id∈gf)=true->
 ω)/\
 (decide (id∈gf)=false->
 True/\
 0<=0/\
 (0+(ints γ j).length)*8<=140737488355328/\
 1<=1/\
 0+(ints γ j).length<=([]++ints γ j).length/\
 (0+(ints γ j).length+1)*8<=140737488355328/\
 0+(ints γ j).length+1<=av.length/\
 K (fz [ε γ vi,ε γ vv,aJ,aC (χ 1 (ints γ m)),aC (χ 1 (ax 0 (ay (0+(ints γ j).length+1) av)))]) [])))/\
 ((ch == 1)=false->
 ((ch == 2)=true->
 ((!decide (id∈gf))=true->
 ω)/\
 ((!decide (id∈gf))=false->
 True/\
 0<=0/\
 (0+(ints γ m).length)*8<=140737488355328/\
 1<=1/\
 0+(ints γ m).length<=([]++ints γ m).length/\
 (0+(ints γ m).length+1)*8<=140737488355328/\
 ∃(o:List Int),ints γ j=ints γ o/\
 o.length<=100000/\
 0+(ints γ m).length+1<=aN.length/\
 K (fz [ε γ vi,ε γ vv,aJ,aC (χ 1 (ax 0 (ay (0+(ints γ m).length+1) aN))),aC (χ 1 (ints γ (ia o id)))]) []))/\
 ((ch == 2)=false->
 ω)))
 ):aI Tryz.prog NL (aG 61) 61 [.agg [.int γ vi,.int γ vv,.int γ ve,aC (.sl 1 (ints γ m)),aC (.sl 1 (ints γ j))],.int γ ch,.int γ id] [] (yx [.num,.num,.num,.sl 1,.sl 1] (dp 0 K)):=by apply Eq.mp (a:=aq);kernel_rfl
theorem qw {k:IntKind} {l:List Int} {n:Int} {i:Nat} {Q:Int->Prop} (hn:0<=n) (h:i<l.length) (q:Q (l.getD i 0)):aA n/\∃ e,(ints k l)[i]? =some e/\∃ x,e[0]? =some (η (.int k x))/\Q x:=
 ⟨by unfold aA;omega,[η (.int k (l.getD i 0))],by rw[kY,bu h,gO,bu h];rfl,_,rfl,q⟩
theorem yy {l:List Int} {i:Nat} (h:i<l.length):l[i]? =some (l.getD i 0):=by rw[gO,bu h];rfl
theorem B6 {l:List Int} {i:Nat} (h:i<l.length):l.getD i 0∈l:=fF (yy h)
theorem LG {l:List Int} {i:Nat} (h:i<l.length):l.take (i+1)=l.take i++[l.getD i 0]:=by rw[jt,yy h];rfl
theorem acU:aO Tryz.prog 93 ud:=eC ga mixed (fun args kb K h=>by
 unfold ud at h;split at h<;>try exact h.elim
 rename_i v
 obtain⟨o,rfl,hl,h⟩:=h
 refine⟨_,L5 o v K ⟨At.mk' ⟨0,bj _,by simp⟩ rfl,?_⟩⟩
 rintro⟨i,hi,ht⟩
 simp only[bi,decide_eq_true_eq,decide_eq_false_iff_not]
 refine⟨fun hc=>qw (by omega) (by omega) ⟨fun hx=>?_,fun hx=>?_⟩,fun hc=>?_⟩
 ·simp only[beq_iff_eq]at hx
  rw[cN]at hx
  rwa [decide_eq_true (by rw[<- hx];exact B6 (by omega))]at h
 ·simp only[beq_eq_false_iff_ne,ne_eq]at hx
  rw[cN]at hx
  rw[bE (by omega) (by omega)]
  refine Nx.mk' (⟨i+1,by omega,?_⟩:{i:Nat // i<=o.length/\v ∉ o.take i}) rfl (by show o.length - (i+1)<o.length - i;omega)
  rw[LG (by omega),dz,da]
  rintro(h1 | h1)
  ·exact ht h1
  ·exact hx h1.symm
 ·have:i=o.length:=by omega
  subst this
  rw[cQ]at ht
  rwa [decide_eq_false ht]at h)
theorem S1 (a b:List Int) (v:Int):ia (a++b) v=ia a v++ia b v:=List.filter_append ..
theorem JH (a:List Int) (v:Int):(ia a v).length<=a.length:=List.length_filter_le ..
theorem ad2:aO Tryz.prog 94 FC:=fun args kb K h=>B8 (eC ga mixed (S:=fun a k K0=>∃ T,aI Tryz.prog X0 T 94 a k K0) fun _ _ _ h=>h) [.fA 1] args kb K (by
 unfold FC at h;split at h<;>try exact h.elim
 rename_i v
 obtain⟨o,rfl,hl,h⟩:=h
 refine⟨_,aiV o v K ⟨At.mk' ⟨0,bj _⟩ rfl,?_⟩⟩
 rintro⟨i,hi⟩
 have hn:=JH (o.take i) v
 rw[cW]at hn
 simp only[bi,decide_eq_true_eq,decide_eq_false_iff_not]
 refine⟨fun hc=>qw (by omega) (by omega) ⟨fun hx=>qw (by omega) (by omega) ⟨ar _,ar _,by omega,?_⟩,fun hx=>?_⟩,fun hc=>⟨ar _,?_⟩⟩
 ·rw[cN]at hx ⊢
  have e:ia (o.take (i+1)) v=ia (o.take i) v++[o.getD i 0]:=by rw[LG (by omega),S1];unfold ia;rw[List.filter_cons_of_pos (by exact hx)];rfl
  refine Nx.mk' (⟨i+1,by omega⟩:{i:Nat // i<=o.length}) ?_ (by show o.length - (i+1)<o.length - i;omega)
  rw[bE (by omega) (by omega)]
  dsimp only
  have e2:ay (ia (o.take i) v).length (ints γ (ia (o.take i) v))=ints γ (ia (o.take i) v):=eQ (by rw[bi];exact ar _)
  rw[e,e2,pR,bn]
  rfl
 ·rw[cN]at hx
  have e:ia (o.take (i+1)) v=ia (o.take i) v:=by rw[LG (by omega),S1];unfold ia;rw[List.filter_cons_of_neg (by rw[hx];exact Bool.false_ne_true)];simp
  refine Nx.mk' (⟨i+1,by omega⟩:{i:Nat // i<=o.length}) ?_ (by show o.length - (i+1)<o.length - i;omega)
  rw[bE (by omega) (by omega)]
  dsimp only
  rw[e];rfl
 ·have:i=o.length:=by omega
  subst this
  rw[iD,eQ (by rw[bi];exact ar _),cQ]
  exact h)
theorem Zb {b:List Int} (h:bq b) (i:Nat):0<=b.getD i 0/\b.getD i 0<256:=by
 by_cases hi:i<b.length
 ·exact h _ (B6 hi)
 ·rw[gO,iE (by omega)];exact⟨by decide,by decide⟩
theorem adg:aO Tryz.prog 77 Fj:=eC ga mixed (fun args kb K h=>by
 unfold Fj at h;split at h<;>try exact h.elim
 obtain⟨b,rfl,hb,hl,h⟩:=h
 refine⟨_,ah9 b K ⟨fun hc=>?_,fun hc=>?_⟩⟩
 ·rw[bi]at hc
  have:kg b=-1:=if_neg (fun w=>by simp [w.1]at hc)
  rwa [this]at h
 rw[bi]at hc
 have h16:b.length=16:=by simp at hc;omega
 refine⟨At.mk' ⟨1,by omega,by omega,fun k h1 h2=>by omega⟩ rfl,?_⟩
 rintro⟨i,h1,h2,h3⟩
 simp only[decide_eq_true_eq,decide_eq_false_iff_not,bne_iff_ne,ne_eq,bne_eq_false_iff_eq,beq_iff_eq,beq_eq_false_iff_ne]
 refine⟨fun hc=>qw (by omega) (by omega) ⟨fun hx=>?_,fun hx=>?_⟩,fun hc=>?_⟩
 ·rw[cN]at hx
  have:kg b=-1:=if_neg (fun w=>hx (w.2.1 i (by omega) h1))
  rwa [this]at h
 ·rw[cN]at hx
  rw[bE (by omega) (by omega)]
  refine Nx.mk' (⟨i+1,by omega,by omega,fun k k1 k2=>?_⟩:{i:Nat // 1<=i/\i<=15/\∀ k,1<=k->k<i->b.getD k 0=0}) rfl (by show 15 - (i+1)<15 - i;omega)
  by_cases e:k=i
  ·subst e;exact hx
  ·exact h3 k k1 (by omega)
 ·have hi:i=15:=by omega
  subst hi
  have h0:=Zb hb 0
  have bad:(b.getD 0 0=0/\b.getD 15 0≠0∨b.getD 0 0≠0/\b.getD 15 0≠7)->K (.int γ (-1)) []:=fun w=>by
   have:kg b=-1:=if_neg (fun q=>q.2.2 w)
   rwa [this]at h
  have good:¬ (b.getD 0 0=0/\b.getD 15 0≠0∨b.getD 0 0≠0/\b.getD 15 0≠7)->aA 0/\∃ e,(ints ξ b)[0]? =some e/\∃ n,e[0]? =some (η (.int ξ n))/\K (.int γ (γ.wrap n)) []:=fun w=>qw (by omega) (by omega) (by
   have:kg b=b.getD 0 0:=if_pos ⟨h16,fun k k1 k2=>h3 k k2 k1,w⟩
   rw[this]at h
   rwa [bE (by omega) (by omega)])
  refine qw (by omega) (by omega) ⟨fun h4=>qw (by omega) (by omega) ⟨fun h5=>bad (.inl ⟨h4,h5⟩),fun h5=>qw (by omega) (by omega) ⟨fun h6=>absurd h4 h6,fun h6=>good (by omega)⟩⟩,fun h4=>qw (by omega) (by omega) ⟨fun h5=>qw (by omega) (by omega) ⟨fun h6=>bad (.inr ⟨h5,h6⟩),fun h6=>good (by omega)⟩,fun h5=>absurd h5 h4⟩⟩)
theorem acp:dD Tryz.prog JY:=fun f k h=>by
 unfold JY at h
 split at h
 ·cases h;exact acU
 ·cases h;exact ad2
 ·cases h
theorem Yn:cx Tryz.prog NL:=dP mixed acp aG 10
theorem adb:aO Tryz.prog 61 vJ:=Vv Yn mixed [.num,.num,.num,.sl 1,.sl 1] (fun args kb K h=>by
 unfold vJ at h;split at h<;>try exact h.elim
 rename_i vi vv ve _ _ ch id
 obtain⟨m,j,rfl,rfl,hm,hj,e0,e1,h⟩:=h
 refine⟨_,L6 vi vv ve m j ch id K ?_⟩
 have w1:γ.wrap (ve+1)=ve+1:=by rw[bE (by omega) (by omega)]
 have hm1:(ints γ m).length=m.length:=bi
 have hj1:(ints γ j).length=j.length:=bi
 have ap:∀(l:List Int) (x:Int),ax 0 (ay (0+(ints γ l).length+1) (ay (0+(ints γ l).length) ([]++ints γ l)++[[η (.int γ x)]]))=ints γ (l++[x]):=fun l x=>by
  rw[iD,jr,c9,cQ,eQ (by rw[bn];exact ar _),pR];rfl
 have al:∀(l:List Int) (x:Int),0+(ints γ l).length+1<=(ay (0+(ints γ l).length) ([]++ints γ l)++[[η (.int γ x)]]).length:=fun l x=>by
  rw[jr,c9,cQ,bn];exact ar _
 unfold lY at h
 dsimp only at h ⊢
 refine⟨m,rfl,by omega,j,rfl,by omega,?_⟩
 simp only[beq_iff_eq,beq_eq_false_iff_ne,ne_eq,mA,kr,decide_eq_true_eq,decide_eq_false_iff_not,w1,ap]at h ⊢
 have fR:((ints γ m).length:Int)=1 ↔ m.length=1:=by rw[hm1];omega
 refine⟨fun c0=>?_,fun c0=>⟨fun c1=>?_,fun c1=>⟨fun c2=>?_,fun c2=>?_⟩⟩⟩
 ·rw[if_pos c0]at h
  have go:¬ ((id ∉ m/\id ∉ j)∨(id∈m/\m.length=1))->∃ o,ints γ m=ints γ o/\o.length<=100000/\∃ o2,ints γ j=ints γ o2/\o2.length<=100000/\K (.agg [.int γ vi,.int γ vv,.int γ (ve+1),aC (.sl 1 (ints γ (ia o id))),aC (.sl 1 (ints γ (ia o2 id)))]) []:=fun w=>by
   rw[if_neg w]at h
   exact⟨m,rfl,by omega,j,rfl,by omega,h⟩
  have no:((id ∉ m/\id ∉ j)∨(id∈m/\m.length=1))->K (.agg [.int γ vi,.int γ vv,.int γ ve,aC (.sl 1 (ints γ m)),aC (.sl 1 (ints γ j))]) []:=fun w=>by rw[if_pos w]at h;exact h
  refine⟨fun m1=>⟨fun j1=>no (.inl ⟨m1,j1⟩),fun j1=>⟨fun m2=>absurd m2 m1,fun m2=>go (fun w=>w.elim (fun w=>w.2 j1) (fun w=>m1 w.1))⟩⟩,fun m1=>⟨fun m2=>⟨fun l1=>no (.inr ⟨m1,fR.1 l1⟩),fun l1=>go (fun w=>w.elim (fun w=>w.1 m1) (fun w=>l1 (fR.2 w.2)))⟩,fun m2=>absurd m1 m2⟩⟩
 ·rw[if_neg c0,if_pos c1]at h
  refine⟨fun m1=>?_,fun m1=>⟨fun j1=>?_,fun j1=>⟨trivial,ar _,by omega,ar _,by simp,by omega,al _ _,?_⟩⟩⟩
  ·rw[if_pos (.inl m1)]at h;exact h
  ·rw[if_pos (.inr j1)]at h;exact h
  ·rw[if_neg (fun w=>w.elim (fun w=>m1 w) (fun w=>j1 w))]at h;exact h
 ·rw[if_neg c0,if_neg c1,if_pos c2]at h
  refine⟨fun j1=>?_,fun j1=>⟨trivial,ar _,by omega,ar _,by simp,by omega,j,rfl,by omega,al _ _,?_⟩⟩
  ·rw[if_pos j1]at h;exact h
  ·rw[if_neg (fun w=>w j1)]at h;exact h
 ·rw[if_neg c0,if_neg c1,if_neg c2]at h;exact h)
structure fQ where
 fr:Int
 to:Int
 m:dL
structure dy where
 o:Op
 v:Int
 bg:Int
 en:Int
structure Wd where
 R:List ι
 dk:List (List Int)
 vs:List Vw
 ψ:List fQ
 cs:List dy
 bt:List Int
 now:Int
 ok:Bool
def mT (m:dL):List Int:=ca (Fm.dC m.kd m.n m.b m.l)
def dG (x:fQ):List D:=[dn γ x.fr,dn γ x.to,.sl 1 (ints ξ (mT x.m))]
def eY (w:Vw):List D:=[dn γ w.vi,dn γ w.vv,dn γ w.ve,.sl 1 (ints γ w.mem),.sl 1 (ints γ w.aH)]
def cL (c:dy):List D:=[dn γ c.o.cl,dn γ c.o.nm,dn γ c.o.kd,dn γ c.o.bk,.sl 1 (ints ξ c.o.b),dn γ c.o.kd,dn γ c.v,dn γ c.bg,dn γ c.en,db false]
def eB (p:Nat×Nat):List D:=[.val (pv p.2)]
abbrev km (b:Nat) (w:Wd):KO:=.cells [.sl b 0 w.R.length,.sl (b+1) 0 w.dk.length,.sl (b+2) 0 w.vs.length,.sl (b+3) 0 w.ψ.length,.sl (b+4) 0 w.cs.length,.sl (b+5) 0 w.bt.length,.int γ w.now,ο w.ok]
abbrev kL (q:List (Nat×Nat)):KO:=.row 30 1 (q.map eB)
abbrev la (w:Wd):KO:=.row 23 1 (w.dk.map bO)
abbrev kM (w:Wd):KO:=.row 49 5 (w.vs.map eY)
abbrev ki (w:Wd):KO:=.row 73 3 (w.ψ.map dG)
abbrev l5 (w:Wd):KO:=.row 61 10 (w.cs.map cL)
abbrev lE (w:Wd):KO:=.row 3 1 (ints γ w.bt)
abbrev dx (w:Wd) (q:List (Nat×Nat)) (A:List (Sg×KB)):KB:=[km 1 w,kL q,la w,kM w,ki w,l5 w,lE w,fE A]
abbrev bR (w:Wd) (q:List (Nat×Nat)) (A:List (Sg×KB)):KB:=[km 8 w,aw,aw,aw,aw,aw,aw,fE A,kL q,la w,kM w,ki w,l5 w,lE w]
abbrev WH (w:Wd) (q:List (Nat×Nat)):KB:=[km 1 w,kL q,la w,kM w,ki w,l5 w,lE w]
abbrev vKo (w:Wd) (q:List (Nat×Nat)):KB:=[km 7 w,aw,aw,aw,aw,aw,aw,kL q,la w,kM w,ki w,l5 w,lE w]
def eu:List jX:=[.mv 0 0,.mv 0 1,.mv 0 2,.mv 0 3,.mv 0 4,.mv 0 5,.kill 1,.kill 2,.kill 3,.kill 4,.kill 5,.kill 6]
structure CU (l:List (Nat×ι)) (q:List (Nat×Nat)) (R:List ι):Prop where
 len:q.length=R.length
 a:∀(i:Nat) (p:Nat×Nat),q[i]? =some p->∃ r,R[i]? =some r/\l[p.1]? =some (p.2,r)
 nd:(q.map (·.1)).Nodup
structure PW (A:List (Sg×KB)) (q:List (Nat×Nat)) (R:List ι):Prop where
 h:∃ l,cF A l/\CU l q R
structure lq (kb:KB) (w:Wd) (q:List (Nat×Nat)) (A:List (Sg×KB)):Prop where
 h:kb=dx w q A
structure M4 (kb:KB) (w:Wd) (q:List (Nat×Nat)):Prop where
 h:kb=WH w q
def qB (d:Dn) (c:dy):Prop:=c.o.cl=d.o.cl/\c.o.nm=d.o.nm/\c.en=-1/\d.e=0
instance (d:Dn) (c:dy):Decidable (qB d c):=by unfold qB;infer_instance
def gL (now:Int) (d:Dn) (c:dy):dy:=if qB d c then⟨c.o,if c.o.kd=3 then kg d.x else c.v,c.bg,now⟩else c
def oC (d:Dn) (c:dy):Bool:=decide (qB d c/\c.o.kd=3->0<=kg d.x)
def di (w:Wd) (d:Dn) (i:Nat):Wd:={w with cs:=(w.cs.take i).map (gL w.now d)++w.cs.drop i,ok:=w.ok && (w.cs.take i).all (oC d) }
def fT (w:Wd) (d:Dn):Wd:={w with cs:=w.cs.map (gL w.now d),ok:=w.ok && w.cs.all (oC d) }
def Zc:dy:=⟨⟨0,0,0,0,[]⟩,0,0,0⟩
def dd (w:Wd) (i:Nat):dy:=w.cs.getD i Zc
def LQ (w:Wd) (d:Dn) (i:Nat):Wd:={di w d i with ok:=(di w d (i+1)).ok }
abbrev yo (d:Dn):KO:=.cells [.int γ d.o.cl,.int γ d.o.nm,.int γ d.o.kd,.int γ d.o.bk,aC (.sl 1 (ints ξ d.o.b)),.int γ d.e,aC (.sl 1 (ints ξ d.x))]
structure Bb where
 W:Wd
 e:List D
structure FE (w:Wd) (d:Dn) (i:Nat) (x:Bb):Prop where
 lt:i<w.cs.length
 hit:qB d (dd w i)
 W:x.W=LQ w d i
 e:x.e=cL (gL w.now d (dd w i))
abbrev zE (w:Wd) (q:List (Nat×Nat)) (d:Dn) (i:Nat):LI where
 α:={x:Bb // FE w d i x}
 live:=[0,3,4,5]
 dT:=eu++[.pQ 3]
 st x:=([aj 0 0,aj 13 0,.int γ (i:Int),.dm x.1.e 0],[km 7 x.1.W,aw,aw,aw,aw,aw,aw,kL q,la w,kM w,ki w,l5 x.1.W,lE w,yo d])
 μ x:=0
def agG (w:Wd) (q:List (Nat×Nat)) (d:Dn) (i:Nat):Nat->Option LI
 | 1010=>some (zE w q d i)
 |_=>none
abbrev xk (w:Wd) (q:List (Nat×Nat)) (d:Dn):LI where
 α:={x:Nat×Wd // x.1<=w.cs.length/\x.2=di w d x.1}
 live:=[0,3,4]
 dT:=eu
 st x:=([aj 0 0,aj 13 0,.int γ (x.1.1:Int)],[km 7 x.1.2,aw,aw,aw,aw,aw,aw,kL q,la w,kM w,ki w,l5 x.1.2,lE w,yo d])
 μ x:=w.cs.length - x.1.1
 sub x:=agG w q d x.1.1
def Wc (w:Wd) (q:List (Nat×Nat)) (d:Dn):FuncId->Nat->Option LI
 | 48,2=>some (xk w q d)
 |_,_=>none
def LK:FuncId->Option du
 | 77=>some ⟨[.fL 1],Fj⟩
 |_=>none
noncomputable def NS:cd:=dM Tryz.prog LK aG 10
abbrev Po (d:Dn):V:=.agg [.int γ d.o.cl,.int γ d.o.nm,.int γ d.o.kd,.int γ d.o.bk,aC (.sl 1 (ints ξ d.o.b)),.int γ d.e,aC (.sl 1 (ints ξ d.x))]
theorem aiM (w:Wd) (q:List (Nat×Nat)) (d:Dn) (K:V->KB->Prop) (aq:
 let Mv:=ε γ d.o.bk;let Mu:=ε γ d.o.kd;let Mt:=ε γ d.o.nm;let Ms:=ε γ d.o.cl;let sF:=aC (χ 1 (ints ξ d.x));let jU:=ai 30 1 (ae eB q);let gM:=ai 49 5 (ae eY w.vs);let gk:=ai 23 1 (ae bO w.dk);let eP:=ai 73 3 (ae dG w.ψ);let cI:=ai 3 1 (ints γ w.bt);At (xk w q d) ([aj 0 0,aj 13 0,ε γ 0],[aB [ζ 7 0 w.R.length,ζ 8 0 w.dk.length,ζ 9 0 w.vs.length,ζ 10 0 w.ψ.length,ζ 11 0 w.cs.length,ζ 12 0 w.bt.length,ε γ w.now,ο w.ok],aw,aw,aw,aw,aw,aw,jU,gk,gM,eP,ai 61 10 (ae cL w.cs),cI,aB [Ms,Mt,Mu,Mv,aC (χ 1 (ints ξ d.o.b)),ε γ d.e,sF]])/\
 ∀(i:{x:Nat×Wd // x.fst<=w.cs.length/\
 x.snd=di w d x.fst }),let Xy:=η (ν γ i.val.snd.now);let Ml:=ζ 7 0 i.val.snd.R.length;let sL:=ζ 9 0 i.val.snd.vs.length;let sJ:=ζ 8 0 i.val.snd.dk.length;let sI:=(↑i.val.fst:Int)<(↑(i.val.snd.cs.length - 0):Int);let sH:=ζ 11 0 i.val.snd.cs.length;let qY:=ζ 10 0 i.val.snd.ψ.length;let qi:=ε γ i.val.snd.now;let sG:=ζ 12 0 i.val.snd.bt.length;let m7:=ai 61 10 (ae cL i.val.snd.cs);let bQ:=aB [Ml,sJ,sL,qY,sH,sG,qi,ο i.val.snd.ok];let aU:=(γ.wrap ((↑i.val.fst:Int)+1));let Xx:=[aj 0 0,aj 13 0,ε γ aU];(decide (sI)=true->
 br (↑i.val.fst:Int) (i.val.snd.cs.length - 0)/\
 ∃(e:List D),(ae cL i.val.snd.cs)[0+(↑i.val.fst:Int).toNat]? =some e/\
 ∃(n:Int),let Mr:=(ν γ n);e[0]? =some (η Mr)/\
 ∃(n_1:Int),let Mm:=(ν γ n_1);e[1]? =some (η Mm)/\
 ∃(n_2:Int),let Mn:=(ν γ n_2);e[2]? =some (η Mn)/\
 ∃(dB:Int),let Mo:=(ν γ dB);e[3]? =some (η Mo)/\
 ∃(l:List (List D)),e[4]? =some (χ 1 l)/\
 ∃(iI:Int),let Mp:=(ν γ iI);e[5]? =some (η Mp)/\
 ∃(nJ:Int),e[6]? =some (η (ν γ nJ))/\
 ∃(ot:Int),let Mq:=(ν γ ot);e[7]? =some (η Mq)/\
 ∃(o6:Int),e[8]? =some (η (ν γ o6))/\
 ∃(b:Bool),let bp:=aB [Ms,Mt,Mu,Mv,aC (χ 1 (ints ξ d.o.b)),ε γ d.e,sF];let ω:KB:=[bQ,aw,aw,aw,aw,aw,aw,jU,gk,gM,eP,m7,cI,bp];let b_:=Nx (xk w q d) i (Xx,ω);e[9]? =some (η (mG b))/\
 ((n != d.o.cl)=true->
 b_)/\
 ((n != d.o.cl)=false->
 ((n_1 != d.o.nm)=true->
 b_)/\
 ((n_1 != d.o.nm)=false->
 ((o6 != -1)=true->
 b_)/\
 ((o6 != -1)=false->
 ((d.e != 0)=true->
 b_)/\
 ((d.e != 0)=false->
 (((n_2 == 3)=true->
 ∃(b_1:List Int),let bD:=[aj 0 0,aj 13 0,ε γ (↑i.val.fst:Int),V.dm [η Mr,η Mm,η Mn,η Mo,χ 1 l,η Mp,η (ν γ (kg b_1)),η Mq,Xy,η (mG b)] 0];ints ξ d.x=ints ξ b_1/\
 (∀(c:Int),dW c b_1->
 0<=c/\
 c<256)/\
 b_1.length<=100000/\
 (i.val.snd.ok=true->
 At (zE w q d i.val.fst) (bD,[aB [Ml,sJ,sL,qY,sH,sG,qi,ο (decide (kg b_1 ≥ 0))],aw,aw,aw,aw,aw,aw,jU,gk,gM,eP,m7,cI,bp]))/\
 (i.val.snd.ok=false->
 At (zE w q d i.val.fst) (bD,[aB [Ml,sJ,sL,qY,sH,sG,qi,ο false],aw,aw,aw,aw,aw,aw,jU,gk,gM,eP,m7,cI,bp])))/\
 ((n_2 == 3)=false->
 At (zE w q d i.val.fst) ([aj 0 0,aj 13 0,ε γ (↑i.val.fst:Int),V.dm [η Mr,η Mm,η Mn,η Mo,χ 1 l,η Mp,η (ν γ nJ),η Mq,Xy,η (mG b)] 0],ω)))/\
 ∀(i_1:{x:Bb // FE w d i.val.fst x }),let l9:=(i_1.val.W.cs.length - 0);let bW:=(ae cL i_1.val.W.cs);let tV:=(ax (0+aU.toNat) (ay (0+l9) bW));let qX:=0+(↑i.val.fst:Int).toNat<=bW.length;let av:=(ay (0+(↑i.val.fst:Int).toNat) bW);let nT:=(0+(ax 0 av).length)*96<=140737488355328;let m8:=(0+(ax 0 av).length+1)*96<=140737488355328;let lm:=0+(ax 0 av).length<=([]++ax 0 av).length;let bM:=(0+(ax 0 av).length+1+tV.length)*96<=140737488355328;True/\
 aA (↑i.val.fst:Int)/\
 0<=(↑i.val.fst:Int).toNat/\
 (↑i.val.fst:Int).toNat<=i_1.val.W.cs.length - 0/\
 ∃(n:Int),i_1.val.e[0]? =some (η (ν γ n))/\
 ∃(o7:Int),i_1.val.e[1]? =some (η (ν γ o7))/\
 ∃(yZ:Int),i_1.val.e[2]? =some (η (ν γ yZ))/\
 ∃(yY:Int),i_1.val.e[3]? =some (η (ν γ yY))/\
 ∃(l:List (List D)),i_1.val.e[4]? =some (χ 1 l)/\
 ∃(SM:Int),i_1.val.e[5]? =some (η (ν γ SM))/\
 ∃(SN:Int),i_1.val.e[6]? =some (η (ν γ SN))/\
 ∃(SO:Int),i_1.val.e[7]? =some (η (ν γ SO))/\
 ∃(SP:Int),i_1.val.e[8]? =some (η (ν γ SP))/\
 ∃(b:Bool),let aJ:=(∃(n:Int),i_1.val.e[0]? =some (η (ν γ n))/\
 ∃(n:Int),i_1.val.e[1]? =some (η (ν γ n))/\
 ∃(n:Int),i_1.val.e[2]? =some (η (ν γ n))/\
 ∃(n:Int),i_1.val.e[3]? =some (η (ν γ n))/\
 ∃(l:List (List D)),i_1.val.e[4]? =some (χ 1 l)/\
 ∃(n:Int),i_1.val.e[5]? =some (η (ν γ n))/\
 ∃(n:Int),i_1.val.e[6]? =some (η (ν γ n))/\
 ∃(n:Int),i_1.val.e[7]? =some (η (ν γ n))/\
 ∃(n:Int),i_1.val.e[8]? =some (η (ν γ n))/\
 ∃(b:Bool),i_1.val.e[9]? =some (η (mG b))/\
 True);let aN:=(ay (0+(ax 0 av).length) ([]++ax 0 av)++[[η (ν γ n),η (ν γ o7),η (ν γ yZ),η (ν γ yY),χ 1 l,η (ν γ SM),η (ν γ SN),η (ν γ SO),η (ν γ SP),η (mG b)]]);let mz:=0+(ax 0 av).length+1<=aN.length;let θ:=Nx (xk w q d) i (Xx,[aB [ζ 7 0 i_1.val.W.R.length,ζ 8 0 i_1.val.W.dk.length,ζ 9 0 i_1.val.W.vs.length,ζ 10 0 i_1.val.W.ψ.length,ζ 11 0 (0+(ax 0 av).length+1+tV.length),ζ 12 0 i_1.val.W.bt.length,ε γ i_1.val.W.now,ο i_1.val.W.ok],aw,aw,aw,aw,aw,aw,jU,gk,gM,eP,ai 61 10 (ay (0+(ax 0 av).length+1) aN++ax (0+aU.toNat) (ay (0+l9) bW)),cI,aB [Ms,Mt,Mu,Mv,aC (χ 1 (ints ξ d.o.b)),ε γ d.e,sF]]);i_1.val.e[9]? =some (η (mG b))/\
 aA aU/\
 True/\
 aU.toNat<=i_1.val.W.cs.length - 0/\
 i_1.val.W.cs.length - 0<=i_1.val.W.cs.length - 0/\
 (True/\
 True/\
 (aJ)/\
 (True/\
 True/\
 qX/\
 0<=0/\
 nT/\
 (aJ)/\
 True/\
 True/\
 1<=1/\
 lm/\
 m8/\
 0+l9<=bW.length/\
 mz/\
 bM/\
 θ)/\
 True/\
 True/\
 True/\
 True/\
 qX/\
 0<=0/\
 nT/\
 True/\
 1<=1/\
 lm/\
 m8/\
 0+l9<=bW.length/\
 mz/\
 bM/\
 θ)/\
 True/\
 True/\
 True/\
 True/\
 True/\
 True/\
 qX/\
 0<=0/\
 nT/\
 True/\
 1<=1/\
 lm/\
 m8/\
 0+l9<=bW.length/\
 mz/\
 bM/\
 θ)))))/\
 (decide (sI)=false->
 K (au []) [bQ,aw,aw,aw,aw,aw,aw,jU,gk,gM,eP,m7,cI])
 ):aI Tryz.prog NS (Wc w q d 48) 48 [aj 0 0,Po d] (WH w q) (eX eu (dp 7 K)):=by apply Eq.mp (a:=aq);kernel_rfl
theorem xh {α:Type} (M:List α) (i:Nat):ax 0 (ay (0+i) M)=M.take i:=by rw[iD,c9]
theorem afV {α:Type} {M:List α} {x:α} {i n:Nat} (hi:i<M.length) (hn:n=M.length):ay (0+(ax 0 (ay (0+i) M)).length+1) (ay (0+(ax 0 (ay (0+i) M)).length) ([]++ax 0 (ay (0+i) M))++[x])++ax (0+(i+1)) (ay (0+(n - 0)) M)=M.set i x:=by
 subst hn
 rw[xh,ly,c9,c9,c9,jr,cQ,cQ,eQ (by rw[bn];exact ar _),List.set_eq_take_append_cons_drop,if_pos hi,dX]
 rfl
theorem afT {α:Type} {M:List α} {i n:Nat} (hi:i<M.length) (hn:n=M.length):0+(ax 0 (ay (0+i) M)).length+1+(ax (0+(i+1)) (ay (0+(n - 0)) M)).length=M.length:=by
 subst hn
 rw[xh,ly,c9,c9,c9,cQ,cW,gm];omega
theorem v6 {w:Wd} {i:Nat} (h:i<w.cs.length):w.cs[i]? =some (dd w i):=by
 unfold dd;rw[gO,bu h];rfl
theorem LP (w:Wd) (d:Dn) (i:Nat):(di w d i).cs.length=w.cs.length:=by
 simp only[di,bn,bT,cW,gm];omega
theorem agZ (w:Wd) (d:Dn):di w d 0=w:=by unfold di;simp
theorem ag0 (w:Wd) (d:Dn):di w d w.cs.length=fT w d:=by unfold di fT;simp
theorem Ww {w:Wd} {d:Dn} {i:Nat} (h:i<w.cs.length):(di w d i).cs[i]? =some (dd w i):=by
 show((w.cs.take i).map (gL w.now d)++w.cs.drop i)[i]? =_
 have e:((w.cs.take i).map (gL w.now d)).length=i:=by rw[bT,cW];omega
 rw[fk (by omega),e,Nat.sub_self,jW,Nat.add_zero]
 exact v6 h
theorem Wx {w:Wd} {d:Dn} {i:Nat} (h:i<w.cs.length):(di w d (i+1)).cs=(di w d i).cs.set i (gL w.now d (dd w i))/\(di w d (i+1)).ok=((di w d i).ok && oC d (dd w i)):=by
 have hc:=v6 h
 have e:((w.cs.take i).map (gL w.now d)).length=i:=by rw[bT,cW];omega
 have ht:w.cs.take (i+1)=w.cs.take i++[dd w i]:=by rw[jt,hc];rfl
 constructor
 ·show(w.cs.take (i+1)).map (gL w.now d)++w.cs.drop (i+1)=((w.cs.take i).map (gL w.now d)++w.cs.drop i).set i _
  have hd:w.cs.drop i=dd w i::w.cs.drop (i+1):=by
   rw[List.drop_eq_getElem_cons h]
   congr 1
   rw[bu h]at hc
   exact bb.inj hc
  rw[List.set_append_right _ _ (by omega),e,Nat.sub_self,hd,List.set_cons_zero,ht,ja,dX]
  rfl
 ·show(w.ok && (w.cs.take (i+1)).all (oC d))=((w.ok && (w.cs.take i).all (oC d)) && _)
  rw[ht,List.all_append,Bool.and_assoc];simp
theorem ag1 {w:Wd} {d:Dn} {i:Nat} (h:i<w.cs.length) (hh:¬ qB d (dd w i)):di w d (i+1)=di w d i:=by
 obtain⟨h1,h2⟩:=Wx (d:=d) h
 have e1:gL w.now d (dd w i)=dd w i:=if_neg hh
 have e2:oC d (dd w i)=true:=by unfold oC;rw[decide_eq_true_eq];exact fun w=>absurd w.1 hh
 have e3:(di w d (i+1)).cs=(di w d i).cs:=by
  rw[h1,e1]
  have:=Ww (d:=d) h
  apply mb
  intro k
  by_cases e:i=k
  ·subst e;rw[this,iN (by rw[LP];exact h)]
  ·rw[gP e]
 have e4:(di w d (i+1)).ok=(di w d i).ok:=by rw[h2,e2,Bool.and_true]
 have e5:di w d (i+1)={di w d i with cs:=(di w d (i+1)).cs,ok:=(di w d (i+1)).ok }:=rfl
 rw[e5,e3,e4]
theorem agF:dD Tryz.prog LK:=fun f k h=>by
 unfold LK at h
 split at h
 ·cases h;exact adg
 ·cases h
theorem Yw:cx Tryz.prog NS:=dP mixed agF aG 10
structure q_ (d:Dn):Prop where
 b:bq d.x
 l:d.x.length<=100000
def Fx:aE:=fun args kb K=>match args with
 | [aj 0 0,.agg [.int γ cl,.int γ nm,.int γ kd,.int γ bk,aC (.sl 1 B),.int γ e,aC (.sl 1 Y)]]=>∃ w q b x,M4 kb w q/\B=ints ξ b/\Y=ints ξ x/\w.cs.length<=1000/\q_ ⟨⟨cl,nm,kd,bk,b⟩,e,x⟩/\∀ w',w'=fT w ⟨⟨cl,nm,kd,bk,b⟩,e,x⟩->K (.φ []) (vKo w' q)
 |_=>False
theorem adV:aO Tryz.prog 48 Fx:=my Yw mixed eu (fun args kb K h=>by
 unfold Fx at h;split at h<;>try exact h.elim
 rename_i cl nm kd bk _ e _
 obtain⟨w,q,b,x,⟨rfl⟩,rfl,rfl,hl,hd,h⟩:=h
 generalize hde:(⟨⟨cl,nm,kd,bk,b⟩,e,x⟩:Dn)=d at*
 refine⟨Wc w q d 48,?_⟩
 show aI _ _ _ _ _ _ (eX eu (dp 7 K))
 have hv:(fz [.int γ cl,.int γ nm,.int γ kd,.int γ bk,aC (.sl 1 (ints ξ b)),.int γ e,aC (.sl 1 (ints ξ x))]:V)=Po d:=by subst hde;rfl
 rw[hv]
 apply aiM w q d K
 refine⟨At.mk' (⟨(0,w),bj _,(agZ w d).symm⟩:{x:Nat×Wd // x.1<=w.cs.length/\x.2=di w d x.1}) rfl,?_⟩
 rintro⟨⟨i,W⟩,hi,hW⟩
 dsimp only at hi hW ⊢
 subst hW
 have hL:=LP w d i
 have nx:∀(hlt:i<w.cs.length),di w d (i+1)=di w d i->Nx (xk w q d) ⟨(i,di w d i),hi,rfl⟩ ([aj 0 0,aj 13 0,.int γ (γ.wrap ((i:Int)+1))],[km 7 (di w d i),aw,aw,aw,aw,aw,aw,kL q,la w,kM w,ki w,l5 (di w d i),lE w,yo d]):=fun hlt he=>by
  refine Nx.mk' (⟨(i+1,di w d i),hlt,he.symm⟩:{x:Nat×Wd // x.1<=w.cs.length/\x.2=di w d x.1}) ?_ (by show w.cs.length - (i+1)<w.cs.length - i;omega)
  rw[bE (by omega) (by omega)];rfl
 refine⟨fun hc=>?_,fun hc=>?_⟩
 ·have hlt:i<w.cs.length:=by rw[decide_eq_true_eq]at hc;omega
  have ha:=Ww (d:=d) hlt
  have hs:=Wx (d:=d) hlt
  have nn:¬ qB d (dd w i)->di w d (i+1)=di w d i:=ag1 hlt
  refine⟨by unfold br;omega,cL (dd w i),by rw[c9,cN,fy,ha];rfl,_,rfl,_,rfl,_,rfl,_,rfl,_,rfl,_,rfl,_,rfl,_,rfl,_,rfl,_,rfl,?_⟩
  simp only[bne_iff_ne,ne_eq,bne_eq_false_iff_eq,beq_iff_eq,beq_eq_false_iff_ne]
  refine⟨fun h1=>nx hlt (nn fun q=>h1 q.1),fun h1=>⟨fun h2=>nx hlt (nn fun q=>h2 q.2.1),fun h2=>⟨fun h3=>nx hlt (nn fun q=>h3 q.2.2.1),fun h3=>⟨fun h4=>nx hlt (nn fun q=>h4 q.2.2.2),fun h4=>?_⟩⟩⟩⟩
  have hit:qB d (dd w i):=⟨h1,h2,h3,h4⟩
  have uA:gL w.now d (dd w i)=⟨(dd w i).o,if(dd w i).o.kd=3 then kg d.x else(dd w i).v,(dd w i).bg,w.now⟩:=if_pos hit
  have hat:∀(v:Int) (ok:Bool),v=(gL w.now d (dd w i)).v->ok=(di w d (i+1)).ok->At (zE w q d i) ([aj 0 0,aj 13 0,.int γ (i:Int),.dm [dn γ (dd w i).o.cl,dn γ (dd w i).o.nm,dn γ (dd w i).o.kd,dn γ (dd w i).o.bk,.sl 1 (ints ξ (dd w i).o.b),dn γ (dd w i).o.kd,dn γ v,dn γ (dd w i).bg,dn γ w.now,db false] 0],[km 7 {di w d i with ok:=ok },aw,aw,aw,aw,aw,aw,kL q,la w,kM w,ki w,l5 (di w d i),lE w,yo d]):=fun v ok hv ho=>by
   have hcl:[dn γ (dd w i).o.cl,dn γ (dd w i).o.nm,dn γ (dd w i).o.kd,dn γ (dd w i).o.bk,.sl 1 (ints ξ (dd w i).o.b),dn γ (dd w i).o.kd,dn γ v,dn γ (dd w i).bg,dn γ w.now,db false]=cL (gL w.now d (dd w i)):=by rw[hv,uA];rfl
   refine At.mk' (⟨⟨LQ w d i,_⟩,hlt,hit,rfl,hcl⟩:{x:Bb // FE w d i x}) ?_
   subst ho
   rfl
  refine⟨⟨fun h5=>⟨d.x,rfl,hd.b,hd.l,fun h6=>?_,fun h6=>?_⟩,fun h5=>?_⟩,?_⟩
  ·refine hat (kg d.x) (decide (kg d.x ≥ 0)) (by rw[uA];dsimp only;rw[if_pos h5]) ?_
   rw[hs.2,h6,Bool.true_and]
   unfold oC
   apply decide_eq_decide.2
   exact⟨fun h7 _=>h7,fun h7=>h7 ⟨hit,h5⟩⟩
  ·refine hat (kg d.x) false (by rw[uA];dsimp only;rw[if_pos h5]) ?_
   rw[hs.2,h6,Bool.false_and]
  ·refine hat (dd w i).v (di w d i).ok (by rw[uA];dsimp only;rw[if_neg h5]) ?_
   rw[hs.2]
   have:oC d (dd w i)=true:=by unfold oC;rw[decide_eq_true_eq];exact fun q=>absurd q.2 h5
   rw[this,Bool.and_true]
  ·rintro⟨⟨W,e⟩,hI⟩
   obtain⟨k1,k2,k3,k4⟩:=hI
   dsimp only at k3 k4 ⊢
   subst k3 k4
   have w1:γ.wrap ((i:Int)+1)=((i+1:Nat):Int):=by rw[bE (by omega) (by omega)];rfl
   have hM:i<((di w d i).cs.map cL).length:=by rw[bT];omega
   have e1:=afV (x:=cL (gL w.now d (dd w i))) hM (n:=(di w d i).cs.length) (by rw[bT])
   have e2:=afT hM (n:=(di w d i).cs.length) (by rw[bT])
   have e4:((di w d i).cs.map cL).set i (cL (gL w.now d (dd w i)))=(di w d (i+1)).cs.map cL:=by rw[hs.1,List.map_set]
   have e5:(di w d (i+1)).cs.length=w.cs.length:=LP w d (i+1)
   have hN:∀ Y:List D,Y=cL (gL w.now d (dd w i))->Nx (xk w q d) ⟨(i,di w d i),hi,rfl⟩ ([aj 0 0,aj 13 0,.int γ (γ.wrap ((i:Int)+1))],[aB [.sl 7 0 w.R.length,.sl 8 0 w.dk.length,.sl 9 0 w.vs.length,.sl 10 0 w.ψ.length,.sl 11 0 (0+(ax 0 (ay (0+(i:Int).toNat) ((di w d i).cs.map cL))).length+1+(ax (0+(γ.wrap ((i:Int)+1)).toNat) (ay (0+((di w d i).cs.length - 0)) ((di w d i).cs.map cL))).length),.sl 12 0 w.bt.length,.int γ w.now,ο (di w d (i+1)).ok],aw,aw,aw,aw,aw,aw,kL q,la w,kM w,ki w,ai 61 10 (ay (0+(ax 0 (ay (0+(i:Int).toNat) ((di w d i).cs.map cL))).length+1) (ay (0+(ax 0 (ay (0+(i:Int).toNat) ((di w d i).cs.map cL))).length) ([]++ax 0 (ay (0+(i:Int).toNat) ((di w d i).cs.map cL)))++[Y])++ax (0+(γ.wrap ((i:Int)+1)).toNat) (ay (0+((di w d i).cs.length - 0)) ((di w d i).cs.map cL))),lE w,yo d]):=fun Y hY=>by
    subst hY
    rw[w1,cN,cN,e1,e2,e4,bT,hL.trans e5.symm]
    exact Nx.mk' (⟨(i+1,di w d (i+1)),hlt,rfl⟩:{x:Nat×Wd // x.1<=w.cs.length/\x.2=di w d x.1}) rfl (by show w.cs.length - (i+1)<w.cs.length - i;omega)
   have l3:(LQ w d i).cs.length=w.cs.length:=hL
   repeat' (first | exact trivial | exact hN _ rfl | refine⟨_,rfl,?_⟩ | apply And.intro)
   all_goals first | exact ar _ | exact bj _ | (unfold aA;omega) | omega | (simp only[jr,bn,cW,gm,gZ,gA,kP,bT,w1,cN];omega)
 ·have:i=w.cs.length:=by rw[decide_eq_false_iff_not]at hc;omega
  subst this
  rw[ag0]
  exact h _ rfl)
def κ (w:Wd) (i:Nat):ι:=w.R.getD i (newR 0 0 false 0 0 [] [])
def ii (i:Int) (w:Wd) (p:Post):Wd:=if 0<=p.to/\p.to<4/\w.ψ.length<2000 then{w with ψ:=w.ψ++[⟨i,p.to,p.m⟩] }else w
def iH (R:ι):ι:={R with ch:=false,out:=[],done:=[] }
def j9 (w:Wd) (i:Nat):Wd:={w with R:=w.R.set i {κ w i with ch:=false,out:=[] },dk:=if(κ w i).ch then w.dk.set i (gD (κ w i))else w.dk }
def fS (w:Wd) (i:Nat):Wd:={w with R:=w.R.set i (iH (κ w i)),dk:=if(κ w i).ch then w.dk.set i (gD (κ w i))else w.dk }
def dw (w:Wd) (i:Nat) (l:List Post):Wd:=l.foldl (ii i) w
def cf (w:Wd) (i:Nat):Wd:=(κ w i).done.foldl fT (dw (fS w i) i (κ w i).out)
def WM (g:List V->Wd->(V->Wd->Prop)->Prop):aE:=fun args kb K=>match args with
 |aj 0 0::rest=>∃ w q A,lq kb w q A/\PW A q w.R/\g rest w (fun r w'=>∀ q' A',PW A' q' w'.R->K r (bR w' q' A'))
 |_=>False
structure m9 where
 k:Nat
 W:Wd
 q:List (Nat×Nat)
 A:List (Sg×KB)
structure kS (m:dL):Prop where
 r:Fm.kR m.kd m.n m.b m.l
 b:Fm.xB m.b m.l
structure jD (w:Wd) (i:Nat):Prop where
 hi:i<w.R.length
 hd:i<w.dk.length
 r:bB (κ w i)
 e:jE (κ w i).ep
 ol:(κ w i).out.length<=1000
 dl:(κ w i).done.length<=1000
 om:∀ p∈(κ w i).out,kS p.m
 dn:∀ d∈(κ w i).done,q_ d
 bl:w.ψ.length<=10000
 cl:w.cs.length<=1000
structure sO (w:Wd) (i:Nat) (x:m9):Prop where
 le:x.k<=(κ w i).out.length
 W:x.W=dw (j9 w i) i ((κ w i).out.take x.k)
 p:PW x.A x.q x.W.R
structure z_ (w:Wd) (i:Nat) (x:m9):Prop where
 le:x.k<=(κ w i).done.length
 W:x.W=((κ w i).done.take x.k).foldl fT (dw (fS w i) i (κ w i).out)
 p:PW x.A x.q x.W.R
structure PA where
 q:List (Nat×Nat)
 A:List (Sg×KB)
def kZ (w:Wd) (i:Nat):Wd:={w with R:=w.R.set i {κ w i with ch:=false },dk:=if(κ w i).ch then w.dk.set i (gD (κ w i))else w.dk }
abbrev yf (w:Wd) (i:Nat):LI where
 α:={x:PA // PW x.A x.q (kZ w i).R}
 live:=[0,1]
 dT:=eu
 st x:=([aj 0 0,.int γ (i:Int)],bR (kZ w i) x.1.q x.1.A)
 μ x:=0
abbrev GJ (w:Wd) (i k:Nat):LI where
 α:={x:m9 // sO w i x/\x.k=k/\k<(κ w i).out.length}
 live:=[0,1,4,5,6]
 dT:=eu
 st x:=([aj 0 0,.int γ (i:Int),aC (.sl 5 ((κ w i).out.map bV)),.int γ (x.1.k:Int),aC (.sl 1 (ints ξ (mT (((κ w i).out.getD k ⟨0,⟨0,[],[],[]⟩⟩).m))))],bR x.1.W x.1.q x.1.A)
 μ x:=0
def Zw (w:Wd) (i k:Nat):Nat->Option LI
 | 1008=>some (GJ w i k)
 |_=>none
abbrev ye (w:Wd) (i:Nat):LI where
 α:={x:m9 // sO w i x}
 live:=[0,1,4,5]
 dT:=eu
 st x:=([aj 0 0,.int γ (i:Int),aC (.sl 5 ((κ w i).out.map bV)),.int γ (x.1.k:Int)],bR x.1.W x.1.q x.1.A)
 μ x:=(κ w i).out.length - x.1.k
 sub x:=Zw w i x.1.k
abbrev GH (w:Wd) (i:Nat):LI where
 α:={x:m9 // z_ w i x}
 live:=[0,8,9]
 dT:=eu
 st x:=([aj 0 0,aC (.sl 7 ((κ w i).done.map dA)),.int γ (x.1.k:Int)],bR x.1.W x.1.q x.1.A)
 μ x:=(κ w i).done.length - x.1.k
def OL (w:Wd) (i:Nat):FuncId->Nat->Option LI
 | 16,1002=>some (yf w i)
 | 16,4=>some (ye w i)
 | 16,12=>some (GH w i)
 |_,_=>none
def Fk:aE:=fun args kb K=>match args,kb with
 | [.agg [.int γ k,aC (.sl 1 N),aC (.sl 1 B),aC (.sl 1 L)]],[]=>∃ n b l,N=ints γ n/\B=ints ξ b/\L=l.map bO/\kS ⟨k,n,b,l⟩/\K (.φ [aC (.sl 1 (ints ξ (mT ⟨k,n,b,l⟩))),.int γ 0]) []
 |_,_=>False
def GK:FuncId->Option du
 | 47=>some ⟨[],Fk⟩
 | 48=>some ⟨[],Fx⟩
 |f=>xc f
noncomputable def Nw:cd:=dM Tryz.prog GK aG 10
theorem ahs (w:Wd) (i:Nat) (q:List (Nat×Nat)) (A:List (Sg×KB)) (K:V->KB->Prop) (aq:
 let aU:=(ae dA (κ w i).done);let aJ:=ε γ (↑i:Int);let ω:=(ae bV (κ w i).out);(br (↑i:Int) (w.R.length - 0)/\
 ∃(e:List D),(ae eB q)[0+(↑i:Int).toNat]? =some e/\
 ∃(v:Value),e[0]? =some (η v)/\
 ∃(l:List (Nat×ι)),∃(i_1:Nat),∃(b:Nat),∃(R:ι),cF A l/\
 l[i_1]? =some (b,R)/\
 η v=η (pv b)/\
 jI []/\
 bB R/\
 ∀(A':List (Sg×KB)),cF A' (l.set i_1 (b,{me:=R.me,id:=R.id,ep:=R.ep,nu:=R.nu,ce:=R.ce,ti:=R.ti,bl:=R.bl,lo:=R.lo,ch:=false,c:=R.c,t:=R.t,v:=R.v,ld:=R.ld,out:=R.out,done:=R.done }))->
 (R.ch=true->
 br (↑i:Int) (w.R.length - 0)/\
 ∃(e:List D),(ae eB q)[0+(↑i:Int).toNat]? =some e/\
 ∃(v:Value),e[0]? =some (η v)/\
 True/\
 True/\
 ∃(l:List (Nat×ι)),∃(i_2:Nat),∃(b:Nat),∃(R:ι),cF A' l/\
 l[i_2]? =some (b,R)/\
 η v=η (pv b)/\
 jI []/\
 bB R/\
 jE R.ep/\
 ∀(A':List (Sg×KB)),cF A' (l.set i_2 (b,R))->
 br (↑i:Int) (w.dk.length - 0)/\
 0+(↑i:Int).toNat<(ae bO w.dk).length/\
 At (yf w i) ([aj 0 0,aJ],[aB [ζ 8 0 w.R.length,ζ 9 0 w.dk.length,ζ 10 0 w.vs.length,ζ 11 0 w.ψ.length,ζ 12 0 w.cs.length,ζ 13 0 w.bt.length,ε γ w.now,ο w.ok],aw,aw,aw,aw,aw,aw,fE A',ai 30 1 (ae eB q),ai 23 1 ((ae bO w.dk).set (0+(↑i:Int).toNat) [χ 1 (ints ξ (gD R))]),ai 49 5 (ae eY w.vs),ai 73 3 (ae dG w.ψ),ai 61 10 (ae cL w.cs),ai 3 1 (ints γ w.bt)]))/\
 (R.ch=false->
 At (yf w i) ([aj 0 0,aJ],(bR w q A'))))/\
 ∀(i_1:{x:PA // PW x.A x.q (kZ w i).R }),br (↑i:Int) ((kZ w i).R.length - 0)/\
 ∃(e:List D),(ae eB i_1.val.q)[0+(↑i:Int).toNat]? =some e/\
 ∃(v:Value),e[0]? =some (η v)/\
 ∃(l:List (Nat×ι)),∃(i_2:Nat),∃(b:Nat),∃(R:ι),cF i_1.val.A l/\
 l[i_2]? =some (b,R)/\
 η v=η (pv b)/\
 jI []/\
 bB R/\
 ∀(A':List (Sg×KB)),cF A' (l.set i_2 (b,{me:=R.me,id:=R.id,ep:=R.ep,nu:=R.nu,ce:=R.ce,ti:=R.ti,bl:=R.bl,lo:=R.lo,ch:=R.ch,c:=R.c,t:=R.t,v:=R.v,ld:=R.ld,out:=[],done:=R.done }))->
 At (ye w i) ([aj 0 0,aJ,aC (χ 5 (ae bV R.out)),ε γ 0],(bR (kZ w i) i_1.val.q A'))/\
 ∀(eU:{x:m9 // sO w i x }),let gk:=ai 49 5 (ae eY eU.val.W.vs);let eP:=ai 23 1 (ae bO eU.val.W.dk);let b_:=ai 61 10 (ae cL eU.val.W.cs);let bW:=ai 73 3 (ae dG eU.val.W.ψ);let bQ:=(↑eU.val.k:Int)<(↑ω.length:Int);let bD:=ai 3 1 (ints γ eU.val.W.bt);let bp:=(ae eB eU.val.q);(decide (bQ)=true->
 aA (↑eU.val.k:Int)/\
 ∃(e:List D),ω[(↑eU.val.k:Int).toNat]? =some e/\
 ∃(n:Int),e[1]? =some (η (ν γ n))/\
 ∃(l:List (List D)),e[2]? =some (χ 1 l)/\
 ∃(l_1:List (List D)),e[3]? =some (χ 1 l_1)/\
 ∃(l_2:List (List D)),e[4]? =some (χ 1 l_2)/\
 ∃(n_1:List Int),∃(b:List Int),∃(io:List (List Int)),let av:=[aj 0 0,aJ,aC (χ 5 ω),ε γ (↑eU.val.k:Int),aC (χ 1 (ints ξ (mT {kd:=n,n:=n_1,b:=b,l:=io })))];l=ints γ n_1/\
 l_1=ints ξ b/\
 l_2=ae bO io/\
 kS {kd:=n,n:=n_1,b:=b,l:=io }/\
 ((eU.val.W.ok=true->
 At (GJ w i eU.val.k) (av,[aB [ζ 8 0 eU.val.W.R.length,ζ 9 0 eU.val.W.dk.length,ζ 10 0 eU.val.W.vs.length,ζ 11 0 eU.val.W.ψ.length,ζ 12 0 eU.val.W.cs.length,ζ 13 0 eU.val.W.bt.length,ε γ eU.val.W.now,ο true],aw,aw,aw,aw,aw,aw,fE eU.val.A,ai 30 1 bp,eP,gk,bW,b_,bD]))/\
 (eU.val.W.ok=false->
 At (GJ w i eU.val.k) (av,[aB [ζ 8 0 eU.val.W.R.length,ζ 9 0 eU.val.W.dk.length,ζ 10 0 eU.val.W.vs.length,ζ 11 0 eU.val.W.ψ.length,ζ 12 0 eU.val.W.cs.length,ζ 13 0 eU.val.W.bt.length,ε γ eU.val.W.now,ο false],aw,aw,aw,aw,aw,aw,fE eU.val.A,ai 30 1 bp,eP,gk,bW,b_,bD])))/\
 ∀(fc:{x:m9 // sO w i x/\
 x.k=eU.val.k/\
 eU.val.k<(κ w i).out.length }),let bM:=(↑(fc.val.W.ψ.length - 0):Int)<2000;let θ:=[aj 0 0,aJ,aC (χ 5 ω),ε γ (γ.wrap ((↑fc.val.k:Int)+1))];let aN:=Nx (ye w i) eU (θ,(bR fc.val.W fc.val.q fc.val.A));aA (↑fc.val.k:Int)/\
 ∃(e:List D),ω[(↑fc.val.k:Int).toNat]? =some e/\
 ∃(n:Int),e[0]? =some (η (ν γ n))/\
 (decide (n ≥ 0)=true->
 aA (↑fc.val.k:Int)/\
 ∃(e:List D),ω[(↑fc.val.k:Int).toNat]? =some e/\
 ∃(n:Int),e[0]? =some (η (ν γ n))/\
 (decide (n<4)=true->
 (decide (bM)=true->
 aA (↑fc.val.k:Int)/\
 ∃(e:List D),ω[(↑fc.val.k:Int).toNat]? =some e/\
 ∃(n:Int),e[0]? =some (η (ν γ n))/\
 True/\
 1<=1/\
 fc.val.W.ψ.length<=(ae dG fc.val.W.ψ).length/\
 (fc.val.W.ψ.length+1)*40<=140737488355328/\
 Nx (ye w i) eU (θ,[aB [ζ 8 0 fc.val.W.R.length,ζ 9 0 fc.val.W.dk.length,ζ 10 0 fc.val.W.vs.length,ζ 11 0 (fc.val.W.ψ.length+1),ζ 12 0 fc.val.W.cs.length,ζ 13 0 fc.val.W.bt.length,ε γ fc.val.W.now,ο fc.val.W.ok],aw,aw,aw,aw,aw,aw,fE fc.val.A,ai 30 1 (ae eB fc.val.q),ai 23 1 (ae bO fc.val.W.dk),ai 49 5 (ae eY fc.val.W.vs),ai 73 3 (ay fc.val.W.ψ.length (ae dG fc.val.W.ψ)++[[η (ν γ (↑i:Int)),η (ν γ n),χ 1 (ints ξ (mT ((κ w i).out.getD eU.val.k {to:=0,m:={kd:=0,n:=[],b:=[],l:=[] } }).m))]]),ai 61 10 (ae cL fc.val.W.cs),ai 3 1 (ints γ fc.val.W.bt)]))/\
 (decide (bM)=false->
 aN))/\
 (decide (n<4)=false->
 aN))/\
 (decide (n ≥ 0)=false->
 aN))/\
 (decide (bQ)=false->
 br (↑i:Int) (eU.val.W.R.length - 0)/\
 ∃(e:List D),bp[0+(↑i:Int).toNat]? =some e/\
 ∃(v:Value),e[0]? =some (η v)/\
 ∃(l:List (Nat×ι)),∃(fc:Nat),∃(b:Nat),∃(R:ι),cF eU.val.A l/\
 l[fc]? =some (b,R)/\
 η v=η (pv b)/\
 jI []/\
 bB R/\
 ∀(A':List (Sg×KB)),cF A' (l.set fc (b,{me:=R.me,id:=R.id,ep:=R.ep,nu:=R.nu,ce:=R.ce,ti:=R.ti,bl:=R.bl,lo:=R.lo,ch:=R.ch,c:=R.c,t:=R.t,v:=R.v,ld:=R.ld,out:=R.out,done:=[] }))->
 At (GH w i) ([aj 0 0,aC (χ 7 (ae dA R.done)),ε γ 0],(bR eU.val.W eU.val.q A'))/\
 ∀(jx:{x:m9 // z_ w i x }),let cI:=(↑jx.val.k:Int)<(↑aU.length:Int);(decide (cI)=true->
 aA (↑jx.val.k:Int)/\
 ∃(e:List D),aU[(↑jx.val.k:Int).toNat]? =some e/\
 ∃(n:Int),e[0]? =some (η (ν γ n))/\
 ∃(n_1:Int),e[1]? =some (η (ν γ n_1))/\
 ∃(n_2:Int),e[2]? =some (η (ν γ n_2))/\
 ∃(dB:Int),e[3]? =some (η (ν γ dB))/\
 ∃(l:List (List D)),e[4]? =some (χ 1 l)/\
 ∃(iI:Int),e[5]? =some (η (ν γ iI))/\
 ∃(l_1:List (List D)),e[6]? =some (χ 1 l_1)/\
 ∃(w_1:Wd),∃(q:List (Nat×Nat)),∃(b:List Int),∃(x:List Int),M4 [aB [ζ 1 0 jx.val.W.R.length,ζ 2 0 jx.val.W.dk.length,ζ 3 0 jx.val.W.vs.length,ζ 4 0 jx.val.W.ψ.length,ζ 5 0 jx.val.W.cs.length,ζ 6 0 jx.val.W.bt.length,ε γ jx.val.W.now,ο jx.val.W.ok],ai 30 1 (ae eB jx.val.q),ai 23 1 (ae bO jx.val.W.dk),ai 49 5 (ae eY jx.val.W.vs),ai 73 3 (ae dG jx.val.W.ψ),ai 61 10 (ae cL jx.val.W.cs),ai 3 1 (ints γ jx.val.W.bt)] w_1 q/\
 l=ints ξ b/\
 l_1=ints ξ x/\
 w_1.cs.length<=1000/\
 q_ {o:={cl:=n,nm:=n_1,kd:=n_2,bk:=dB,b:=b },e:=iI,x:=x }/\
 ∀(w':Wd),w'=fT w_1 {o:={cl:=n,nm:=n_1,kd:=n_2,bk:=dB,b:=b },e:=iI,x:=x }->
 Nx (GH w i) jx ([aj 0 0,aC (χ 7 aU),ε γ (γ.wrap ((↑jx.val.k:Int)+1))],(bR w' q jx.val.A)))/\
 (decide (cI)=false->
 K (au []) (bR jx.val.W jx.val.q jx.val.A)))
 ):aI Tryz.prog Nw (OL w i 16) 16 [aj 0 0,.int γ (i:Int)] (dx w q A) (eX eu (dp 8 K)):=by apply Eq.mp (a:=aq);kernel_rfl
theorem CU.lt {l:List (Nat×ι)} {q:List (Nat×Nat)} {R:List ι} (h:CU l q R) {i:Nat} (hi:i<R.length):∃ p,q[i]? =some p:=⟨_,bu (by rw[h.len];exact hi)⟩
theorem PW.get {A:List (Sg×KB)} {q:List (Nat×Nat)} {R:List ι} (h:PW A q R) {i:Nat} {r:ι} (hi:R[i]? =some r):∃ l k b,q[i]? =some (k,b)/\cF A l/\l[k]? =some (b,r)/\∀(r':ι) A',cF A' (l.set k (b,r'))->PW A' q (R.set i r'):=by
 obtain⟨l,hp,hc⟩:=h.h
 obtain⟨⟨k,b⟩,hq⟩:=hc.lt (bH.1 hi).1
 obtain⟨r2,h1,h2⟩:=hc.a i _ hq
 rw[hi]at h1;cases h1
 refine⟨l,k,b,hq,hp,h2,fun r' A' hA=>⟨_,hA,by rw[iG];exact hc.len,fun j p hj=>?_,hc.nd⟩⟩
 by_cases e:i=j
 ·subst e
  rw[hq]at hj;cases hj
  refine⟨r',iN (bH.1 hi).1,iN (bH.1 h2).1⟩
 ·obtain⟨r3,h3,h4⟩:=hc.a j p hj
  refine⟨r3,by rw[gP e];exact h3,?_⟩
  rw[gP]
  ·exact h4
  ·intro e2
   have n1:(q.map (·.1))[i]? =some k:=by rw[fy,hq];rfl
   have n2:(q.map (·.1))[j]? =some k:=by rw[fy,hj,e2];rfl
   have h5:=(bH.1 n1)
   have h6:=(bH.1 n2)
   exact e ((List.getElem_inj (h₀:=h5.1) (h₁:=h6.1) hc.nd).1 (h5.2.trans h6.2.symm))
theorem p8 {w:Wd} {i:Nat} (h:i<w.R.length):w.R[i]? =some (κ w i):=by
 unfold κ;rw[gO,bu h];rfl
theorem Vf (i:Int) (w:Wd) (p:Post):(ii i w p).R=w.R/\(ii i w p).dk=w.dk/\(ii i w p).vs=w.vs/\(ii i w p).cs=w.cs/\(ii i w p).bt=w.bt/\(ii i w p).now=w.now/\(ii i w p).ok=w.ok/\(ii i w p).ψ.length<=max 2000 w.ψ.length:=by
 unfold ii;split
 ·refine⟨rfl,rfl,rfl,rfl,rfl,rfl,rfl,?_⟩
  simp only[bn,gZ];omega
 ·exact⟨rfl,rfl,rfl,rfl,rfl,rfl,rfl,by omega⟩
theorem nN (i:Nat):∀(l:List Post) (w:Wd),(dw w i l).R=w.R/\(dw w i l).dk=w.dk/\(dw w i l).vs=w.vs/\(dw w i l).cs=w.cs/\(dw w i l).bt=w.bt/\(dw w i l).now=w.now/\(dw w i l).ok=w.ok/\(dw w i l).ψ.length<=max 2000 w.ψ.length
 | [],w=>⟨rfl,rfl,rfl,rfl,rfl,rfl,rfl,by show w.ψ.length<=_;omega⟩
 |p::l,w=>by
  obtain⟨a1,a2,a3,a4,a5,a6,a7,a8⟩:=Vf i w p
  obtain⟨b1,b2,b3,b4,b5,b6,b7,b8⟩:=nN i l (ii i w p)
  exact⟨b1.trans a1,b2.trans a2,b3.trans a3,b4.trans a4,b5.trans a5,b6.trans a6,b7.trans a7,by show(dw (ii i w p) i l).ψ.length<=_;omega⟩
theorem Vg (i:Nat) (R:List ι):∀(l:List Post) (w:Wd),dw {w with R:=R } i l={dw w i l with R:=R }
 | [],w=>rfl
 |p::l,w=>by
  have:ii i {w with R:=R } p={ii i w p with R:=R }:=by unfold ii;dsimp only;split<;>rfl
  show dw (ii i {w with R:=R } p) i l=_
  rw[this,Vg i R l];rfl
theorem ag2 (w:Wd) (d:Dn):(fT w d).R=w.R/\(fT w d).cs.length=w.cs.length:=⟨rfl,by show(w.cs.map _).length=_;rw[bT]⟩
theorem sy:∀(l:List Dn) (w:Wd),(l.foldl fT w).R=w.R/\(l.foldl fT w).cs.length=w.cs.length
 | [],w=>⟨rfl,rfl⟩
 |d::l,w=>⟨(sy l (fT w d)).1,(sy l (fT w d)).2.trans (ag2 w d).2⟩
theorem adC:aO Tryz.prog 47 Fk:=fun args kb K hs=>Fm.adA args kb K (by
 unfold Fk at hs;split at hs<;>try exact hs.elim
 obtain⟨n,b,l,rfl,rfl,rfl,hr,h⟩:=hs
 have Cn:Fm.kR _ n b l:=hr.r
 exact⟨n,b,l,rfl,rfl,rfl,⟨by have:=Cn.nl;simp only[maxLen];omega,by have:=Cn.bl;simp only[maxLen];omega,by have:=Cn.ll;simp only[maxLen];omega,fun t ht=>by have:=Cn.ts t ht;simp only[maxLen];omega⟩,hr.b,fun _=>h,fun hn=>absurd hr.r hn⟩)
theorem Zv:dD Tryz.prog GK:=fun f k h=>by
 unfold GK at h
 split at h
 ·cases h;exact adC
 ·cases h;exact adV
 ·exact DG _ _ h
theorem Ya:cx Tryz.prog Nw:=dP mixed Zv aG 10
def ED:List V->Wd->(V->Wd->Prop)->Prop:=fun rest w k=>∃ i:Nat,rest=[.int γ (i:Int)]/\jD w i/\∀ w',w'=cf w i->k (.φ []) w'
theorem ox {q:List (Nat×Nat)} {i k b:Nat} (h:q[i]? =some (k,b)):(q.map eB)[0+(i:Int).toNat]? =some [η (pv b)]:=by rw[c9,cN,fy,h];rfl
theorem Ej {W:Wd} {R':List ι} (h:R'.length=W.R.length) (q:List (Nat×Nat)) (A:List (Sg×KB)):bR W q A=bR {W with R:=R' } q A:=by
 show[aB [.sl 8 0 W.R.length,_,_,_,_,_,_,_],_,_,_,_,_,_,_,_,_,_,_,_,_]=[aB [.sl 8 0 R'.length,_,_,_,_,_,_,_],_,_,_,_,_,_,_,_,_,_,_,_,_]
 rw[h]
theorem afC {W:Wd} {i:Nat} {x:Post} (h:0<=x.to/\x.to<4/\W.ψ.length<2000) (q:List (Nat×Nat)) (A:List (Sg×KB)):bR (ii i W x) q A=[aB [.sl 8 0 W.R.length,.sl 9 0 W.dk.length,.sl 10 0 W.vs.length,.sl 11 0 (W.ψ.length+1),.sl 12 0 W.cs.length,.sl 13 0 W.bt.length,.int γ W.now,ο W.ok],aw,aw,aw,aw,aw,aw,fE A,kL q,la W,kM W,ai 73 3 (ay W.ψ.length (W.ψ.map dG)++[[.val (.int γ (i:Int)),.val (.int γ x.to),.sl 1 (ints ξ (mT x.m))]]),l5 W,lE W]:=by
 have hy:ii i W x={W with ψ:=W.ψ++[⟨i,x.to,x.m⟩] }:=if_pos h
 have eb:(W.ψ++[(⟨i,x.to,x.m⟩:fQ)]).length=W.ψ.length+1:=by rw[bn];rfl
 have er:(W.ψ++[(⟨i,x.to,x.m⟩:fQ)]).map dG=ay W.ψ.length (W.ψ.map dG)++[[η (.int γ (i:Int)),η (.int γ x.to),.sl 1 (ints ξ (mT x.m))]]:=by
  rw[ja,eQ (by rw[bT];exact ar _)];rfl
 rw[hy]
 unfold bR km ki
 dsimp only
 rw[eb,er]
theorem Tq:aO Tryz.prog 16 (WM ED):=my Ya mixed eu (fun args kb K h=>by
 unfold WM at h;split at h<;>try exact h.elim
 obtain⟨w,q,A,⟨rfl⟩,hp,i,rfl,hc,h⟩:=h
 refine⟨OL w i 16,?_⟩
 show aI _ _ _ _ _ _ (eX eu (dp 8 K))
 apply ahs w i q A K
 have fW:=p8 hc.hi
 have hi:=hc.hi
 have hd:=hc.hd
 obtain⟨l,k,b,hq,hA,hl,dQ⟩:=hp.get fW
 rw[ly]
 have cut:∀ A',PW A' q (kZ w i).R->(κ w i).ch=true->At (yf w i) ([aj 0 0,.int γ (i:Int)],[km 8 w,aw,aw,aw,aw,aw,aw,fE A',kL q,ai 23 1 ((w.dk.map bO).set (0+(i:Int).toNat) [.sl 1 (ints ξ (gD (κ w i)))]),kM w,ki w,l5 w,lE w]):=fun A' p h1=>by
  refine At.mk' (⟨⟨q,A'⟩,p⟩:{x:PA // PW x.A x.q (kZ w i).R}) ?_
  have e:kZ w i={w with R:=w.R.set i {κ w i with ch:=false },dk:=w.dk.set i (gD (κ w i)) }:=by unfold kZ;rw[if_pos h1]
  show(_,_)=(_,bR (kZ w i) q A')
  rw[e,c9,cN]
  show(_,_)=([aj 0 0,.int γ (i:Int)],[aB [.sl 8 0 (w.R.set i _).length,.sl 9 0 (w.dk.set i _).length,_,_,_,_,_,_],_,_,_,_,_,_,_,_,ai _ _ (ae bO (w.dk.set i _)),_,_,_,_])
  rw[iG,iG,List.map_set];rfl
 have OZ:∀ A',PW A' q (kZ w i).R->(κ w i).ch=false->At (yf w i) ([aj 0 0,.int γ (i:Int)],bR w q A'):=fun A' p h1=>by
  refine At.mk' (⟨⟨q,A'⟩,p⟩:{x:PA // PW x.A x.q (kZ w i).R}) ?_
  have e:kZ w i={w with R:=w.R.set i {κ w i with ch:=false } }:=by unfold kZ;rw[if_neg (by rw[h1];exact Bool.false_ne_true)]
  show(_,_)=(_,bR (kZ w i) q A')
  rw[e,Ej (W:=w) (R':=w.R.set i {κ w i with ch:=false }) (by rw[iG])]
 have hin:br (i:Int) w.R.length:=by unfold br;omega
 refine⟨⟨hin,_,ox hq,_,rfl,l,k,b,_,hA,hl,rfl,⟨rfl⟩,hc.r,fun A1 p1=>⟨fun c1=>?_,fun c1=>?_⟩⟩,?_⟩
 ·have P1:=dQ _ _ p1
  obtain⟨l2,k2,b2,od,hA2,hl2,abh⟩:=P1.get (i:=i) (r:={κ w i with ch:=false }) (iN hi)
  rw[hq]at od;cases od
  refine⟨hin,_,ox hq,_,rfl,trivial,trivial,l2,k,b,_,hA2,hl2,rfl,⟨rfl⟩,Bv hc.r false,hc.e,fun A2 p2=>⟨by unfold br;omega,by rw[bT];omega,?_⟩⟩
  have P2:=abh _ _ p2
  rw[List.set_set]at P2
  exact cut A2 P2 c1
 ·exact OZ A1 (dQ _ _ p1) c1
 clear cut OZ dQ hl hA l
 rintro⟨⟨q1,A1⟩,P1⟩
 dsimp only at P1 ⊢
 have kl:(kZ w i).R.length=w.R.length:=by show(w.R.set i _).length=_;rw[iG]
 obtain⟨l,k,b,hq,hA,hl,dQ⟩:=P1.get (i:=i) (r:={κ w i with ch:=false }) (iN hi)
 refine⟨by rw[kl,ly];exact hin,_,ox hq,_,rfl,l,k,b,_,hA,hl,rfl,⟨rfl⟩,Bv hc.r false,fun A2 p2=>⟨?_,?_⟩⟩
 ·have P2:=dQ _ _ p2
  have e:(kZ w i).R.set i {κ w i with ch:=false,out:=[] }=(j9 w i).R:=by show(w.R.set i _).set i _=_;rw[List.set_set];rfl
  refine At.mk' (⟨⟨0,j9 w i,q1,A2⟩,bj _,rfl,by rw[<- e];exact P2⟩:{x:m9 // sO w i x}) ?_
  show(_,bR (kZ w i) q1 A2)=(_,bR (j9 w i) q1 A2)
  rw[Ej (W:=kZ w i) (R':=(j9 w i).R) (by rw[<- e,iG])]
  rfl
 clear p2 A2 dQ hl hA l hq k b P1 A1 q1 kl
 rintro⟨⟨k,W,q1,A1⟩,hle,hW,P1⟩
 dsimp only at hle hW P1 ⊢
 subst hW
 obtain⟨s1,s2,s3,s4,s5,s6,s7,s8⟩:=nN i ((κ w i).out.take k) (j9 w i)
 have e3:(j9 w i).R.length=w.R.length:=by show(w.R.set i _).length=_;rw[iG]
 have ol:=hc.ol
 refine⟨fun hlt=>?_,fun hge=>?_⟩
 ·have hlt:k<(κ w i).out.length:=by rw[decide_eq_true_eq,bT]at hlt;omega
  have hg:=bu hlt
  have hgd:(κ w i).out.getD k ⟨0,⟨0,[],[],[]⟩⟩=(κ w i).out[k]:=by rw[gO,hg];rfl
  have IL:(κ w i).out.take (k+1)=(κ w i).out.take k++[(κ w i).out[k]]:=by rw[jt,hg];rfl
  have hmem:(κ w i).out[k]∈(κ w i).out:=List.getElem_mem hlt
  generalize (κ w i).out[k]=x at*
  refine⟨by unfold aA;omega,bV x,by rw[cN,fy,hg];rfl,x.m.kd,rfl,_,rfl,_,rfl,_,rfl,x.m.n,x.m.b,x.m.l,rfl,rfl,rfl,hc.om x hmem,⟨fun h1=>?_,fun h1=>?_⟩,?_⟩
  ·refine At.mk' (⟨⟨k,dw (j9 w i) i ((κ w i).out.take k),q1,A1⟩,⟨hle,rfl,P1⟩,rfl,hlt⟩:{x:m9 // sO w i x/\x.k=k/\k<(κ w i).out.length}) ?_
   show(_,_)=([_,_,_,_,aC (.sl 1 (ints ξ (mT ((κ w i).out.getD k ⟨0,⟨0,[],[],[]⟩⟩).m)))],bR (dw (j9 w i) i ((κ w i).out.take k)) q1 A1)
   rw[hgd,<- h1]
  ·refine At.mk' (⟨⟨k,dw (j9 w i) i ((κ w i).out.take k),q1,A1⟩,⟨hle,rfl,P1⟩,rfl,hlt⟩:{x:m9 // sO w i x/\x.k=k/\k<(κ w i).out.length}) ?_
   show(_,_)=([_,_,_,_,aC (.sl 1 (ints ξ (mT ((κ w i).out.getD k ⟨0,⟨0,[],[],[]⟩⟩).m)))],bR (dw (j9 w i) i ((κ w i).out.take k)) q1 A1)
   rw[hgd,<- h1]
  rintro⟨⟨k2,W,q2,A2⟩,⟨_,hW,P2⟩,hk,_⟩
  dsimp only at hk hW P2 ⊢
  subst hk hW
  have w1:γ.wrap ((k2:Int)+1)=((k2+1:Nat):Int):=by rw[bE (by omega) (by omega)];rfl
  have hS:dw (j9 w i) i ((κ w i).out.take (k2+1))=ii i (dw (j9 w i) i ((κ w i).out.take k2)) x:=by unfold dw;rw[IL,List.foldl_append];rfl
  have nx:∀ W':Wd,W'=ii i (dw (j9 w i) i ((κ w i).out.take k2)) x->Nx (ye w i) ⟨⟨k2,dw (j9 w i) i ((κ w i).out.take k2),q1,A1⟩,hle,rfl,P1⟩ ([aj 0 0,.int γ (i:Int),aC (.sl 5 ((κ w i).out.map bV)),.int γ (γ.wrap ((k2:Int)+1))],bR W' q2 A2):=fun W' B9=>by
   refine Nx.mk' (⟨⟨k2+1,W',q2,A2⟩,⟨hlt,B9.trans hS.symm,by rw[B9,(Vf i _ x).1];exact P2⟩⟩:{x:m9 // sO w i x}) ?_ (by show(κ w i).out.length - (k2+1)<(κ w i).out.length - k2;omega)
   rw[w1]
  have no:∀ W:Wd,¬ (0<=x.to/\x.to<4/\W.ψ.length<2000)->ii i W x=W:=fun W h=>if_neg h
  have hge:((κ w i).out.map bV)[(k2:Int).toNat]? =some (bV x):=by rw[cN,fy,hg];rfl
  have kW:aA (k2:Int):=by unfold aA;omega
  have cz:=hc.bl
  refine⟨kW,bV x,hge,x.to,rfl,fun t1=>⟨kW,bV x,hge,x.to,rfl,fun t2=>⟨fun t3=>?_,fun t3=>?_⟩,fun t2=>?_⟩,fun t1=>?_⟩
  ·rw[decide_eq_true_eq]at t1 t2 t3
   refine⟨kW,bV x,hge,x.to,rfl,trivial,ar _,by rw[bT];exact ar _,by omega,?_⟩
   have:=nx _ rfl
   rw[afC ⟨t1,t2,by omega⟩]at this
   rw[hgd]
   exact this
  ·rw[decide_eq_false_iff_not]at t3
   exact nx _ (no _ fun q=>t3 (by omega)).symm
  ·rw[decide_eq_false_iff_not]at t2
   exact nx _ (no _ fun q=>t2 q.2.1).symm
  ·rw[decide_eq_false_iff_not]at t1
   exact nx _ (no _ fun q=>t1 q.1).symm
 ·have hk:k=(κ w i).out.length:=by rw[decide_eq_false_iff_not,bT]at hge;omega
  subst hk
  rw[cQ]at*
  have hR:(dw (j9 w i) i (κ w i).out).R[i]? =some {κ w i with ch:=false,out:=[] }:=by rw[s1];exact iN hi
  obtain⟨l,k,b,hq,hA,hl,dQ⟩:=P1.get hR
  refine⟨by rw[s1,e3,ly];exact hin,_,ox hq,_,rfl,l,k,b,_,hA,hl,rfl,⟨rfl⟩,Ud (Bv hc.r false),fun A2 p2=>⟨?_,?_⟩⟩
  ·have P2:=dQ _ _ p2
   have e:(dw (j9 w i) i (κ w i).out).R.set i (iH (κ w i))=(fS w i).R:=by rw[s1];show(w.R.set i _).set i _=_;rw[List.set_set];rfl
   have e2:dw (fS w i) i (κ w i).out={dw (j9 w i) i (κ w i).out with R:=(fS w i).R }:=Vg i (fS w i).R (κ w i).out (j9 w i)
   refine At.mk' (⟨⟨0,{dw (j9 w i) i (κ w i).out with R:=(fS w i).R },q1,A2⟩,bj _,e2.symm,by rw[<- e];exact P2⟩:{x:m9 // z_ w i x}) ?_
   show(_,bR _ q1 A2)=(_,bR {dw (j9 w i) i (κ w i).out with R:=(fS w i).R } q1 A2)
   rw[<- Ej (R':=(fS w i).R) (by rw[<- e,iG])]
   rfl
  rintro⟨⟨k,W,q2,A2⟩,hle2,hW,P2⟩
  dsimp only at hle2 hW P2 ⊢
  have dl:=hc.dl
  obtain⟨t1,t2,t3,t4,_⟩:=nN i (κ w i).out (fS w i)
  have f1:=sy ((κ w i).done.take k) (dw (fS w i) i (κ w i).out)
  rw[<- hW,t4]at f1
  refine⟨fun hlt=>?_,fun hge=>?_⟩
  ·have hlt:k<(κ w i).done.length:=by rw[decide_eq_true_eq,bT]at hlt;omega
   have hg:=bu hlt
   have IL:(κ w i).done.take (k+1)=(κ w i).done.take k++[(κ w i).done[k]]:=by rw[jt,hg];rfl
   have hmem:(κ w i).done[k]∈(κ w i).done:=List.getElem_mem hlt
   generalize (κ w i).done[k]=d at*
   refine⟨by unfold aA;omega,dA d,by rw[cN,fy,hg];rfl,d.o.cl,rfl,d.o.nm,rfl,d.o.kd,rfl,d.o.bk,rfl,_,rfl,d.e,rfl,_,rfl,W,q2,d.o.b,d.x,⟨rfl⟩,rfl,rfl,by rw[f1.2];exact hc.cl,hc.dn d hmem,fun w' hw'=>?_⟩
   refine Nx.mk' (⟨⟨k+1,w',q2,A2⟩,⟨hlt,by rw[hw',IL,List.foldl_append,<- hW];rfl,by rw[hw'];exact P2⟩⟩:{x:m9 // z_ w i x}) ?_ (by show(κ w i).done.length - (k+1)<(κ w i).done.length - k;omega)
   rw[bE (by omega) (by omega)]
   rfl
  ·have hk:k=(κ w i).done.length:=by rw[decide_eq_false_iff_not,bT]at hge;omega
   subst hk
   rw[cQ]at hW
   exact h W hW q2 A2 P2)
structure RW (T:Int) (R:ι):Prop where
 i:bB R
 id:R.id=5
 e0:0<=R.ep
 e1:R.ep<=T
 n1:R.nu<=T
 vl:R.v.mem.length+R.v.aH.length<=1000
 t0:0<=R.ti
 t1:R.ti<=T
 om:∀ p∈R.out,kS p.m/\bm p.m 1<=T/\bm p.m 2<=T
 dn:∀ d∈R.done,q_ d
 cu:∀ o,ci R=some o->o.b.length<=2048
structure MW (T:Int) (m:dL):Prop where
 r:kS m
 n1:bm m 1<=T
 n2:bm m 2<=T
theorem MW.ok {T:Int} {m:dL} (h:MW T m):lw m:=⟨h.r.b.b,by have:=h.r.r.bl;omega,fun y hy=>⟨h.r.b.l y hy,by have:=h.r.r.ts y hy;omega⟩⟩
theorem KX {kd:Int} {n b:List Int} {l:List (List Int)} (h:Fm.kR kd n b l) (hb:Fm.xB b l):kS ⟨kd,n,b,l⟩:=⟨h,hb⟩
theorem DI {T kd ep nu:Int} (hT:T<=1000000) (k:kd=11∨kd=13∨kd=14) (h1:0<=ep/\ep<=T) (h2:0<=nu/\nu<=T):kS ⟨kd,[5,ep,nu],[],[]⟩:=
 KX ⟨by omega,by omega,by show 3<=16;omega,bj _,bj _,fun x hx=>by
  simp only[dS,List.not_mem_nil,or_false]at hx;omega,fun t ht=>(by cases ht),bj _⟩ ⟨fun c h=>(by cases h),fun t h=>(by cases h)⟩
theorem UU {T ep nu:Int} (hT:T<=1000000) {c:List Int} {x:List L3} (hc:c.length=128) (hb:bq c) (hx:fl x) (h1:0<=ep/\ep<=T) (h2:0<=nu/\nu<=T):kS ⟨10,[5,ep,nu],ca c,[be x]⟩:=by
 have hl:=va hx.len x.length
 rw[tQ]at hl
 refine KX ⟨by omega,by omega,by show 3<=16;omega,by rw[tL hc];omega,by show 1<=64;omega,fun y hy=>?_,fun t ht=>?_,?_⟩ ⟨DR hb,fun t ht=>?_⟩
 ·simp only[dS,List.not_mem_nil,or_false]at hy;omega
 ·rw[da]at ht;subst ht;omega
 ·show(be x).length+0<=_;omega
 ·rw[da]at ht;subst ht;exact LA hx
theorem afq {T ep nu:Int} (hT:T<=1000000) {o:Op} (hr:gh o=true) (ho:f_ o) (hb:o.b.length<=2048) (c:List Int) (h1:0<=ep/\ep<=T) (h2:0<=nu/\nu<=T):kS ⟨12,[5,ep,nu,o.cl,o.nm,o.kd,o.bk,eG c],o.b,[]⟩:=by
 have k:=KY hr
 have QQ:=yi c
 refine KX ⟨by omega,by omega,by show 8<=16;omega,hb,bj _,fun y hy=>?_,fun t ht=>(by cases ht),bj _⟩ ⟨ho.b,fun t ht=>(by cases ht)⟩
 simp only[dS,List.not_mem_nil,or_false]at hy;omega
theorem q_.nil (o:Op) (e:Int):q_ ⟨o,e,[]⟩:=⟨fun c h=>(by cases h),bj _⟩
theorem aeZ {c:List Int} (hb:bq c) (o:Op) (e:Int):q_ ⟨o,e,mu c o⟩:=by
 constructor
 ·intro x hx
  have hx:x∈mu c o:=hx
  unfold mu at hx;split at hx
  ·exact hb x (List.mem_of_mem_drop (List.mem_of_mem_take hx))
  ·cases hx
 ·show(mu c o).length<=_
  unfold mu;split
  ·rw[cW];omega
  ·exact bj _
section
variable {T:Int} {R:ι}
theorem RW.mono {T2:Int} (h:RW T R) (hT:T<=T2):RW T2 R:=⟨h.i,h.id,h.e0,by have:=h.e1;omega,by have:=h.n1;omega,h.vl,h.t0,by have:=h.t1;omega,fun p hp=>by have:=h.om p hp;exact⟨this.1,by omega,by omega⟩,h.dn,h.cu⟩
theorem mn {α:Type} {l:List α} {a x:α} {P:α->Prop} (h:∀ y∈l,P y) (ha:P a) (hx:x∈l++[a]):P x:=by
 rcases dz.1 hx with hx | hx
 ·exact h x hx
 ·rw[da]at hx;rw[hx];exact ha
theorem Ey (h:RW T R) (hd:R.done.length<100000):RW T (gy R):=by
 refine⟨(xA h.i hd).1,h.id,h.e0,h.e1,h.n1,h.vl,h.t0,h.t1,h.om,fun d hm=>?_,fun o ho=>by simp [gy,ci]at ho⟩
 have hm:d∈R.done++(match ci R with | some o=>[⟨o,19,[]⟩] | none=>[]):=hm
 rcases dz.1 hm with hm | hm
 ·exact h.dn d hm
 ·cases hc:ci R with
  |none=>rw[hc]at hm;cases hm
  |some o=>rw[hc]at hm;rw[da]at hm;subst hm;exact q_.nil _ _
theorem HF (h:RW T R) (hd:R.done.length<100000):RW T (fq R):=by
 have hi:=(HD h.i hd).1
 unfold fq at hi ⊢
 split
 ·rename_i L hl
  split
  ·rename_i o ho
   split
   ·rename_i ha
    rw[hl]at hi;dsimp only at hi;rw[ho]at hi;dsimp only at hi;rw[if_pos ha]at hi
    exact⟨hi,h.id,h.e0,h.e1,h.n1,h.vl,h.t0,h.t1,h.om,fun d hm=>mn h.dn (aeZ h.i.ok.cb o 0) hm,fun o ho=>by simp [ci]at ho⟩
   ·exact h
  ·exact h
 ·exact h
theorem zw (h:RW T R) (hT:T<=1000000) (ho:R.out.length<100000) {to kd:Int} {n b:List Int} {l:List (List Int)} {nu:Int} (hn:n=nu::n.tail) (kX:nu<=T) (hm:kS ⟨kd,5::R.ep::n,b,l⟩):RW T (iz R to kd n b l):=by
 have hm':lw ⟨kd,R.id::R.ep::n,b,l⟩:=by
  rw[h.id]
  exact⟨hm.b.b,by have:=hm.r.bl;have:b.length<=2048:=this;show b.length<=_;omega,fun y hy=>⟨hm.b.l y hy,by have:=hm.r.ts y hy;omega⟩⟩
 refine⟨(xg h.i ho hm').i,h.id,h.e0,h.e1,h.n1,h.vl,h.t0,h.t1,fun p hp=>?_,h.dn,h.cu⟩
 have hP:kS (⟨to,⟨kd,R.id::R.ep::n,b,l⟩⟩:Post).m/\bm (⟨to,⟨kd,R.id::R.ep::n,b,l⟩⟩:Post).m 1<=T/\bm (⟨to,⟨kd,R.id::R.ep::n,b,l⟩⟩:Post).m 2<=T:=
  ⟨by rw[<- h.id]at hm;exact hm,h.e1,by show(R.id::R.ep::n).getD 2 0<=T;rw[hn];exact kX⟩
 exact mn (P:=fun p=>kS p.m/\bm p.m 1<=T/\bm p.m 2<=T) h.om hP hp
theorem wR (h:RW T R):0<=R.nu/\R.nu<=T:=⟨h.i.ok.n0,h.n1⟩
theorem SU (h:RW T R) (hT:T<=1000000) (ho:R.out.length<100000) (to:Int):RW T (ou R to):=zw h hT ho (nu:=R.nu) rfl h.n1 (DI hT (.inr (.inr rfl)) ⟨h.e0,h.e1⟩ (wR h))
theorem agd (h:RW T R) (hT:T<=1000000) (ho:R.out.length<100000) (to:Int):RW T (qP R to):=zw h hT ho (nu:=R.nu) rfl h.n1 (UU hT h.i.ok.cl h.i.ok.cb h.i.tx ⟨h.e0,h.e1⟩ (wR h))
theorem CL (h:RW T R) {L:b9} (hl:R.ld=some L) (f g:Int->Bool):RW T {R with ld:=some ⟨f,g,L.cur⟩ }:=by
 have hc:ci R=L.cur:=by unfold ci;rw[hl];rfl
 exact⟨yR h.i hl f g,h.id,h.e0,h.e1,h.n1,h.vl,h.t0,h.t1,h.om,h.dn,fun o ho=>h.cu o (by rw[hc];exact ho)⟩
theorem agx (h:RW T R) (hT:T<=1000000) (ho:R.out.length<100000) (hd:R.done.length<100000) (fr:Int) {m:dL} (hm:MW T m) (hw:m.n.any cJ=false):RW T (iS R fr m):=by
 unfold iS
 split
 ·exact SU h hT ho fr
 ·split
  ·rename_i c t hc ht
   have hy:=Ey h hd
   obtain⟨c1,c2⟩:=R6 hc
   have cb:bq c:=fun x hx=>hm.ok.b x (by rw[c2];unfold ca;exact gQ _ hx)
   have n1:=En hw (i:=1)
   have n2:=En hw (i:=2)
   have m1:=hm.n1
   have m2:=hm.n2
   have hY:RW T {gy R with ep:=bm m 1,nu:=bm m 2,c:=c,t:=t,ch:=true }:=by
    refine⟨⟨⟨c1,cb,n2.1,by show bm m 2<=_;omega,hy.i.ok.vl,hy.i.ok.ol,hy.i.ok.dl,fun o ho=>by simp [gy,ci]at ho⟩,(R9 ht).1,hy.i.om,fun o ho=>by simp [gy,ci]at ho⟩,h.id,n1.1,m1,m2,h.vl,h.t0,h.t1,h.om,hy.dn,fun o ho=>by simp [gy,ci]at ho⟩
   exact zw (to:=fr) (kd:=11) (n:=[bm m 2]) (b:=[]) (l:=[]) hY hT ho (nu:=bm m 2) rfl m2 (DI hT (.inl rfl) ⟨n1.1,m1⟩ ⟨n2.1,m2⟩)
  ·exact h
theorem ags (h:RW T R) (hd:R.done.length<100000) (fr:Int) (m:dL):RW T (iA R fr m):=by
 unfold iA
 split
 ·exact h
 ·rename_i L hl
  split
  ·exact h
  ·split
   ·rename_i hc
    have:=CL h hl (mark L.ins fr true) L.cy
    rw[hc]at this;exact this
   ·rename_i o hc
    have:=CL h hl (mark L.ins fr true) (mark L.cy fr true)
    rw[hc]at this
    exact HF this hd
theorem aeh (h:RW T R) (hd:R.done.length<100000) (fr:Int) (m:dL):RW T (iw R fr m):=by
 unfold iw
 split
 ·exact h
 ·rename_i L hl
  split
  ·exact h
  ·rename_i o hc
   split
   ·have:=CL h hl L.ins (mark L.cy fr true)
    rw[hc]at this
    exact HF this hd
   ·exact h
theorem abT (h:RW T R) (b:Bool):RW T {R with lo:=b }:=⟨⟨⟨h.i.ok.cl,h.i.ok.cb,h.i.ok.n0,h.i.ok.n1,h.i.ok.vl,h.i.ok.ol,h.i.ok.dl,h.i.ok.cr⟩,h.i.tx,h.i.om,h.i.oc⟩,h.id,h.e0,h.e1,h.n1,h.vl,h.t0,h.t1,h.om,h.dn,h.cu⟩
theorem afe (h:RW T R) (hT:T<=1000000) (ho:R.out.length<100000) (hd:R.done.length<100000) (fr:Int) (m:dL):RW T (iy R fr m):=by
 unfold iy
 split
 ·exact h
 ·rename_i L hl
  split
  ·exact Ey h hd
  ·split
   ·exact Ey (abT h true) hd
   ·exact agd (CL h hl (mark L.ins fr false) L.cy) hT ho fr
theorem G9 (h:RW T R) (hT:T<=1000000) {o:Op} (hr:gh o=true) (hb:bq o.b):RW (T+1) (gE R o):=by
 have n1:=h.n1
 exact⟨G8 h.i hr hb (by omega),h.id,h.e0,by have:=h.e1;show R.ep<=_;omega,by show R.nu+1<=_;omega,h.vl,h.t0,by have:=h.t1;show R.ti<=_;omega,(h.mono (by omega:T<=T+1)).om,h.dn,h.cu⟩
theorem aen (h:RW T R) (hT:T<=1000000) (ho:R.out.length<100000) (fr:Int) {m:dL} (hm:MW T m) (hw:m.n.any cJ=false):RW T (iR R fr m):=by
 unfold iR
 split
 ·exact zw h hT ho (nu:=R.nu) rfl h.n1 (DI hT (.inr (.inl rfl)) ⟨h.e0,h.e1⟩ (wR h))
 ·split
  ·rename_i k
   obtain⟨_,k2,_,k4,_⟩:=k
   have m2:=hm.n2
   have n0:=(wR h).1
   have hD:=G9 h hT k4 hm.ok.b
   have tg:RW T (gE R (uV m)):=⟨hD.i,h.id,h.e0,h.e1,by show R.nu+1<=T;omega,h.vl,h.t0,h.t1,h.om,h.dn,h.cu⟩
   exact zw tg hT ho (nu:=R.nu+1) rfl (by omega) (DI hT (.inr (.inl rfl)) ⟨h.e0,h.e1⟩ ⟨by omega,by omega⟩)
  ·exact SU h hT ho fr
theorem aaL (h:RW T R) (hT:T<=1000000) (ho:R.out.length<100000) (hd:R.done.length<100000) (fr:Int) {m:dL} (hm:MW T m):RW T (dI R fr m):=by
 unfold dI
 split
 ·exact h
 ·rename_i hg
  have hw:=Ql (by simpa using hg)
  split
  ·exact agx h hT ho hd fr hm hw
  ·split
   ·exact ags h hd fr m
   ·split
    ·exact aen h hT ho fr hm hw
    ·split
     ·exact aeh h hd fr m
     ·exact afe h hT ho hd fr m
theorem Kt (h:RW T R) (hT:T<=1000000) {ps:List Post} (hp:∀ p∈ps,kS p.m/\bm p.m 1<=T/\bm p.m 2<=T) (hl:R.out.length+ps.length<=100000):RW T {R with out:=R.out++ps }:=by
 refine⟨Dm h.i (fun p hm=>?_) hl,h.id,h.e0,h.e1,h.n1,h.vl,h.t0,h.t1,fun p hm=>(dz.1 hm).elim (h.om p) (hp p),h.dn,h.cu⟩
 exact MW.ok ⟨(hp p hm).1,(hp p hm).2.1,(hp p hm).2.2⟩
theorem VH (h:RW T R) (hT:T<=1000000) (k:Int):kS (jn R k).m/\bm (jn R k).m 1<=T/\bm (jn R k).m 2<=T:=by
 refine⟨?_,h.e1,h.n1⟩
 unfold jn;rw[h.id]
 exact UU hT h.i.ok.cl h.i.ok.cb h.i.tx ⟨h.e0,h.e1⟩ (wR h)
theorem QA (h:RW T R) (hT:T<=1000000) {o:Op} (hr:gh o=true) (ho:f_ o) (hb:o.b.length<=2048) (k:Int):kS (jf R o k).m/\bm (jf R o k).m 1<=T/\bm (jf R o k).m 2<=T:=by
 refine⟨?_,h.e1,h.n1⟩
 unfold jf;rw[h.id]
 exact afq hT hr ho hb _ ⟨h.e0,h.e1⟩ (wR h)
theorem uX (h:RW T R):(aP R).length<=1000:=by
 have h1:(bA R.me R.v.mem R.v.aH).length<=(R.v.mem++R.v.aH).length:=List.length_filter_le ..
 rw[bn]at h1
 have:=h.vl
 unfold aP;omega
theorem agV (h:RW T R) (hT:T<=1000000) (ho:R.out.length<=1000):RW (T+1) (cO R):=by
 have h2:=h.mono (by omega:T<=T+1)
 have ol:=uX h
 have ti:∀{R2:ι},RW (T+1) R2->R2.ti=R.ti->RW (T+1) {R2 with ti:=R.ti+1 }:=fun{R2} q e=>⟨Ea q.i _,q.id,q.e0,q.e1,q.n1,q.vl,by have:=h.t0;show 0<=R.ti+1;omega,by have:=h.t1;show R.ti+1<=_;omega,q.om,q.dn,q.cu⟩
 unfold cO
 split
 ·exact ti h2 rfl
 ·rename_i L hl
  have hc:ci R=L.cur:=by unfold ci;rw[hl];rfl
  have:=LL R L (aP R)
  split
  ·refine ti (R2:={R with out:=R.out++(aP R).flatMap (gj R L) }) ?_ rfl
   refine(Kt h hT (fun p hp=>?_) (by omega)).mono (by omega)
   obtain⟨k,_,hk⟩:=List.mem_flatMap.1 hp
   unfold gj at hk
   split at hk
   ·rw[da]at hk;subst hk;exact VH h hT k
   ·split at hk
    ·rename_i o mg
     rw[mg]at hc
     split at hk
     ·rw[da]at hk;subst hk;exact QA h hT (h.i.ok.cr o hc) (h.i.oc o hc) (h.cu o hc) k
     ·cases hk
    ·cases hk
  ·exact ti h2 rfl
theorem ai3 (h:RW T R) (hT:T<=1000000) (ho:R.out.length<=1000) (hd:R.done.length<100000) {w:Vw} (hw:w.mem.length+w.aH.length<=1000) (hv:w.ve<=T):RW T (dV R w):=by
 have ol:(bA R.me w.mem w.aH).length<=1000:=by
  have h1:(bA R.me w.mem w.aH).length<=(w.mem++w.aH).length:=List.length_filter_le ..
  rw[bn]at h1;omega
 cases hg:dR R w with
 |false=>rw[vg hg];exact h
 |true=>
  have hy:=Ey h hd
  cases hl:fv R w with
  |false=>
   rw[xp hg hl]
   exact⟨⟨⟨hy.i.ok.cl,hy.i.ok.cb,hy.i.ok.n0,hy.i.ok.n1,hw,hy.i.ok.ol,hy.i.ok.dl,hy.i.ok.cr⟩,hy.i.tx,hy.i.om,hy.i.oc⟩,h.id,h.e0,h.e1,h.n1,hw,h.t0,h.t1,h.om,hy.dn,hy.cu⟩
  |true=>
   rw[xq hg hl]
   have oT:1<=w.ve:=by
    unfold dR at hg
    rw[jo,decide_eq_true_eq]at hg
    exact hg.1.2.2.2
   have q1:=(RU h.i (w:=w) (by omega) hd).1
   have q2:RW T (jy R w):=⟨q1,h.id,by show 0<=w.ve;omega,hv,h.n1,hw,h.t0,h.t1,h.om,hy.dn,fun o ho=>by simp [jy,ci]at ho⟩
   exact Kt q2 hT (fun p hp=>by
    obtain⟨k,_,rfl⟩:=dO.1 hp
    exact VH q2 hT k) (by rw[bT];show R.out.length+_<=_;omega)
theorem Y1 (h:RW T R) (hT:T<1000000) (ho:R.out.length<=1000) (hd:R.done.length<100000) {L:b9} {o:Op} (hr:gh o=true) (yK:f_ o) (hb:o.b.length<=2048):RW (T+1) (gC R L o):=by
 have ol:=uX h
 have hD:=G9 h (by omega) hr yK.b
 obtain⟨B,hB⟩:∃ B:ι,B={gE R o with ld:=some {L with cy:=fun _=>false,cur:=some o } }:=⟨_,rfl⟩
 have h1:RW (T+1) B:=by
  subst hB
  exact⟨⟨⟨hD.i.ok.cl,hD.i.ok.cb,hD.i.ok.n0,hD.i.ok.n1,hD.i.ok.vl,hD.i.ok.ol,hD.i.ok.dl,fun o' ho'=>by simp [ci]at ho';subst ho';exact hr⟩,hD.i.tx,hD.i.om,fun o' ho'=>by simp [ci]at ho';subst ho';exact yK⟩,hD.id,hD.e0,hD.e1,hD.n1,hD.vl,hD.t0,hD.t1,hD.om,hD.dn,fun o' ho'=>by simp [ci]at ho';subst ho';exact hb⟩
 have e:gC R L o=fq {B with out:=B.out++(aP R).map (jf B o) }:=by
  have e0:aP B=aP R:=by subst hB;rfl
  have e9:gC R L o=fq ((aP B).foldl (fun r k=>yB r o k) B):=by subst hB;rfl
  rw[e9,th,e0]
 have e1:B.out=R.out:=by subst hB;rfl
 have e2:B.done=R.done:=by subst hB;rfl
 rw[e]
 refine HF (Kt h1 (by omega) (fun p hp=>?_) (by rw[bT,e1];omega)) (by show B.done.length<_;rw[e2];exact hd)
 obtain⟨k,_,rfl⟩:=dO.1 hp
 exact QA h1 (by omega) hr yK hb k
theorem agb (h:RW T R) (hT:T<1000000) (ho:R.out.length<=1000) (hd:R.done.length<100000) {o:Op} (yK:f_ o) (hb:o.b.length<=2048):RW (T+1) (dN R o).2:=by
 have h2:=h.mono (by omega:T<=T+1)
 unfold dN
 split
 ·exact h2
 ·rename_i hr
  have hr:gh o=true:=by simpa using hr
  split
  ·exact h2
  ·rename_i L hl
   split
   ·exact h2
   ·split
    ·exact h2
    ·split
     ·rename_i e R1 hk
      split at hk
      ·unfold lW at hk
       split at hk
       ·cases hk
        exact⟨Pt h.i (by simp;omega),h.id,h.e0,h2.e1,h2.n1,h.vl,h.t0,h2.t1,h2.om,fun d hm=>mn h.dn (q_.nil _ _) hm,h.cu⟩
       ·split at hk
        ·cases hk;exact h2
        ·split at hk
         ·cases hk
         ·cases hk;exact h2
      ·cases hk
     ·exact Y1 h hT ho hd hr yK hb
theorem Zp (h:RW T R) (b:Bool):RW T (iH R):=⟨G_ (Ud (Bv h.i false)),h.id,h.e0,h.e1,h.n1,h.vl,h.t0,h.t1,fun p hp=>(by cases hp),fun d hd=>(by cases hd),h.cu⟩
end
structure Sp where
 d:Int
 dj:Int
 n:Int
 k:Int
 ag:Bool
abbrev qO (s:Sp):V:=.agg [.int γ s.d,.int γ s.dj,.int γ s.n,.int γ s.k,ο s.ag]
def bP (s:Sp):Int:=1+bC s.n 2
def kI (w:Wd) (cl:Int):Int:=w.bt.getD cl.toNat 0
def nF (w:Wd) (cl:Int) (c:dy):Bool:=decide (c.o.cl=cl/\c.o.nm=kI w cl/\c.o.kd≠3)
def uj (w:Wd) (cl:Int):Option dy:=(w.cs.filter (nF w cl)).getLast?
def gv (w:Wd) (s:Sp):Op:=⟨bP s,kI w (bP s)+1,1+bC s.k 4,bC (γ.wrap (s.n.tdiv 2)) 2,if 1+bC s.k 4=1 then iB ((w.cs.length:Int)+1)else[]⟩
def qH (w:Wd) (s:Sp):Int:=if 1+bC s.k 4=1 then(w.cs.length:Int)+1 else 0
def pU (w:Wd) (s:Sp):Wd:={w with bt:=w.bt.set (bP s).toNat (kI w (bP s)+1) }
def lX (w:Wd) (s:Sp):Wd:={pU w s with cs:=w.cs++[⟨gv w s,qH w s,w.now,-1⟩] }
def tf (w:Wd) (o:Op) (dj:Nat):Wd:={w with R:=w.R.set dj (dN (κ w dj) o).2 }
def lG (w:Wd) (o:Op) (dj:Nat):Wd:=cf (tf w o dj) dj
def lH (w:Wd) (s:Sp) (dj:Nat):Wd:=
 if s.ag then(match uj w (bP s)with | some c=>lG w c.o dj | none=>w)
 else if 12<=w.cs.length then w else lG (lX w s) (gv w s) dj
structure xR where
 k:Nat
 q:List (Nat×Nat)
 A:List (Sg×KB)
structure AY (w:Wd) (cl:Int) (x:xR):Prop where
 le:x.k<=w.cs.length
 no:∀ j,x.k<=j->j<w.cs.length->nF w cl (dd w j)=false
 p:PW x.A x.q w.R
structure lP where
 e:List D
 q:List (Nat×Nat)
 A:List (Sg×KB)
 b:Bool
structure Fw (w:Wd) (cl:Int) (k:Nat) (x:lP):Prop where
 k0:0<k
 lt:k - 1<w.cs.length
 e:x.e=cL (dd w (k - 1))
 hit:x.b=nF w cl (dd w (k - 1))
 no:∀ j,k<=j->j<w.cs.length->nF w cl (dd w j)=false
 p:PW x.A x.q w.R
abbrev D2 (w:Wd) (cl dj:Int) (k:Nat):LI where
 α:={x:lP // Fw w cl k x}
 live:=[0,2,6,7,8,57]
 dT:=eu++[.pQ 4]
 st x:=([aj 0 0,.int γ dj,.int γ cl,.int γ ((k:Int) - 1),.dm x.1.e 0,ο x.1.b],bR w x.1.q x.1.A)
 μ x:=0
def agl (w:Wd) (cl dj:Int) (k:Nat):Nat->Option LI
 | 1008=>some (D2 w cl dj k)
 |_=>none
abbrev Lj (w:Wd) (cl dj:Int):LI where
 α:={x:xR // AY w cl x}
 live:=[0,2,6,7]
 dT:=eu
 st x:=([aj 0 0,.int γ dj,.int γ cl,.int γ ((x.1.k:Int) - 1)],bR w x.1.q x.1.A)
 μ x:=x.1.k
 sub x:=agl w cl dj x.1.k
structure Ar where
 W:Wd
 q:List (Nat×Nat)
 A:List (Sg×KB)
structure EL (w:Wd) (s:Sp) (x:Ar):Prop where
 W:x.W=pU w s
 p:PW x.A x.q x.W.R
abbrev JV (w:Wd) (s:Sp) (dj:Int):LI where
 α:={x:Ar // EL w s x}
 live:=[0,2,4,6]
 dT:=eu
 st x:=([aj 0 0,.int γ dj,aj 14 0,.int γ (bP s)],[km 8 x.1.W,aw,aw,aw,aw,aw,aw,fE x.1.A,kL x.1.q,la x.1.W,kM x.1.W,ki x.1.W,l5 x.1.W,lE x.1.W,aB [.int γ s.d,.int γ s.dj,.int γ s.n,.int γ s.k,ο s.ag]])
 μ x:=0
structure Au where
 W:Wd
 o:Op
 q:List (Nat×Nat)
 A:List (Sg×KB)
structure EM (w:Wd) (s:Sp) (x:Au):Prop where
 W:x.W=pU w s
 o:x.o={gv w s with b:=[] }
 p:PW x.A x.q x.W.R
structure xI where
 W:Wd
 e:List D
 v:Int
 q:List (Nat×Nat)
 A:List (Sg×KB)
structure As (w:Wd) (s:Sp) (x:xI):Prop where
 W:x.W=pU w s
 e:x.e=bo (gv w s)
 v:x.v=qH w s
 p:PW x.A x.q x.W.R
abbrev JW (w:Wd) (s:Sp) (dj:Int):LI where
 α:={x:Au // EM w s x}
 live:=[0,2,9]
 dT:=eu++[.sY 14 4 1]
 st x:=([aj 0 0,.int γ dj,aj 14 0],[km 8 x.1.W,aw,aw,aw,aw,aw,aw,fE x.1.A,kL x.1.q,la x.1.W,kM x.1.W,ki x.1.W,l5 x.1.W,lE x.1.W,aB [.int γ x.1.o.cl,.int γ x.1.o.nm,.int γ x.1.o.kd,.int γ x.1.o.bk,aC (.sl 1 [])]])
 μ x:=0
abbrev JX (w:Wd) (s:Sp) (dj:Int):LI where
 α:={x:xI // As w s x}
 live:=[0,2,9,10]
 dT:=eu++[.pQ 2]
 st x:=([aj 0 0,.int γ dj,.dm x.1.e 0,.int γ x.1.v],bR x.1.W x.1.q x.1.A)
 μ x:=0
def VM (w:Wd) (s:Sp) (dj:Int):FuncId->Nat->Option LI
 | 26,4=>some (Lj w (bP s) dj)
 | 26,1012=>some (JV w s dj)
 | 26,1013=>some (JW w s dj)
 | 26,1017=>some (JX w s dj)
 |_,_=>none
def ER:aE:=fun args kb K=>match args,kb with
 | [.int γ n],[]=>∀ b:List Int,b=iB n->K (aC (.sl 1 (ints ξ b))) []
 |_,_=>False
structure nc (n:Int):Prop where
 h:-9223372036854775808<=n/\n<=9223372036854775807
def AO:aE:=fun args kb K=>match args,kb with
 | [.int γ k,.int γ n],[]=>nc n/\K (.int γ (bC k n)) []
 |_,_=>False
def zC:FuncId->Option du
 | 20=>some ⟨[],AO⟩
 | 16=>some ⟨[.ic],WM ED⟩
 | 23=>some ⟨[],JG ER⟩
 |f=>xc f
noncomputable def NR:cd:=dM Tryz.prog zC aG 10
theorem aiv (w:Wd) (s:Sp) (a:Nat) (q:List (Nat×Nat)) (A:List (Sg×KB)) (K:V->KB->Prop) (aq:
 let mz:=ε γ (bP s);let gM:=(γ.wrap (1+bC s.n 2));let bW:=ε γ (↑a:Int);let bM:=(ints γ w.bt);let qX:=0+(w.bt.length - 0)<=bM.length;let m8:=(ay (0+(w.bt.length - 0)) bM);nc 2/\
 (s.ag=true->
 At (Lj w (bP s) (↑a:Int)) ([aj 0 0,bW,ε γ gM,ε γ (γ.wrap ((↑(w.cs.length - 0):Int) - 1))],(bR w q A))/\
 ∀(i:{x:xR // AY w (bP s) x }),let sH:=ε γ ((↑i.val.k:Int) - 1);(decide ((↑i.val.k:Int) - 1 ≥ 0)=true->
 br ((↑i.val.k:Int) - 1) (w.cs.length - 0)/\
 ∃(e:List D),(ae cL w.cs)[0+((↑i.val.k:Int) - 1).toNat]? =some e/\
 ∃(n:Int),e[0]? =some (η (ν γ n))/\
 ∃(n_1:Int),e[1]? =some (η (ν γ n_1))/\
 ∃(n_2:Int),e[2]? =some (η (ν γ n_2))/\
 ∃(dB:Int),e[3]? =some (η (ν γ dB))/\
 ∃(l:List (List D)),e[4]? =some (χ 1 l)/\
 ∃(iI:Int),e[5]? =some (η (ν γ iI))/\
 ∃(nJ:Int),e[6]? =some (η (ν γ nJ))/\
 ∃(ot:Int),e[7]? =some (η (ν γ ot))/\
 ∃(o6:Int),e[8]? =some (η (ν γ o6))/\
 ∃(b:Bool),let aU:=V.dm [η (ν γ n),η (ν γ n_1),η (ν γ n_2),η (ν γ dB),χ 1 l,η (ν γ iI),η (ν γ nJ),η (ν γ ot),η (ν γ o6),η (mG b)] 0;let cI:=At (D2 w (bP s) (↑a:Int) i.val.k) ([aj 0 0,bW,mz,sH,aU,ο false],(bR w i.val.q i.val.A));e[9]? =some (η (mG b))/\
 (((n == bP s)=true->
 br (bP s) (w.bt.length - 0)/\
 ∃(e:List D),bM[0+(bP s).toNat]? =some e/\
 ∃(o7:Int),e[0]? =some (η (ν γ o7))/\
 ((n_1 == o7)=true->
 At (D2 w (bP s) (↑a:Int) i.val.k) ([aj 0 0,bW,mz,sH,aU,ο (n_2 != 3)],(bR w i.val.q i.val.A)))/\
 ((n_1 == o7)=false->
 cI))/\
 ((n == bP s)=false->
 cI))/\
 ∀(i_1:{x:lP // Fw w (bP s) i.val.k x }),(i_1.val.b=true->
 br (↑a:Int) (w.R.length - 0)/\
 ∃(e:List D),(ae eB i_1.val.q)[0+(↑a:Int).toNat]? =some e/\
 ∃(v:Value),e[0]? =some (η v)/\
 ∃(n:Int),i_1.val.e[0]? =some (η (ν γ n))/\
 ∃(o7:Int),i_1.val.e[1]? =some (η (ν γ o7))/\
 ∃(yZ:Int),i_1.val.e[2]? =some (η (ν γ yZ))/\
 ∃(yY:Int),i_1.val.e[3]? =some (η (ν γ yY))/\
 ∃(l:List (List D)),i_1.val.e[4]? =some (χ 1 l)/\
 ∃(l_1:List (Nat×ι)),∃(i_2:Nat),∃(b:Nat),∃(R:ι),cF i_1.val.A l_1/\
 l_1[i_2]? =some (b,R)/\
 η v=η (pv b)/\
 ∃(o:Op),[fz [ε γ n,ε γ o7,ε γ yZ,ε γ yY,aC (χ 1 l)]]=[uW o]/\
 bB R/\
 R.out.length+(aP R).length<=100000/\
 (∀(c:Int),dW c o.b->
 0<=c/\
 c<256)/\
 o.b.length<=100000/\
 ∀(A':List (Sg×KB)),cF A' (l_1.set i_2 (b,(dN R o).snd))->
 ∃(w_1:Wd),∃(q:List (Nat×Nat)),∃(A:List (Sg×KB)),lq (dx w i_1.val.q A') w_1 q A/\
 PW A q w_1.R/\
 ∃(i:Nat),[bW]=[ε γ (↑i:Int)]/\
 jD w_1 i/\
 ∀(w':Wd),w'=cf w_1 i->
 ∀(q':List (Nat×Nat)) (A':List (Sg×KB)),PW A' q' w'.R->
 K (au []) (bR w' q' A'))/\
 (i_1.val.b=false->
 Nx (Lj w (bP s) (↑a:Int)) i ([aj 0 0,bW,mz,ε γ (γ.wrap ((↑i.val.k:Int) - 1 - 1))],(bR w i_1.val.q i_1.val.A))))/\
 (decide ((↑i.val.k:Int) - 1 ≥ 0)=false->
 K (au []) (bR w i.val.q i.val.A)))/\
 (s.ag=false->
 (decide ((↑(w.cs.length - 0):Int) ≥ 12)=true->
 K (au []) (bR w q A))/\
 (decide ((↑(w.cs.length - 0):Int) ≥ 12)=false->
 (True/\
 aA gM/\
 0<=gM.toNat/\
 gM.toNat<=w.bt.length - 0/\
 br gM (w.bt.length - 0)/\
 ∃(e:List D),bM[0+(γ.wrap (1+bC s.n 2)).toNat]? =some e/\
 ∃(n:Int),let sF:=[[η (ν γ (γ.wrap (n+1)))]];let jU:=(γ.wrap (1+bC s.n 2));let qi:=0+jU.toNat<=bM.length;let eP:=(∃(e:List D),bM[0+(γ.wrap (1+bC s.n 2)).toNat]? =some e/\
 ∃(n_1:Int),e[0]? =some (η (ν γ n_1))/\
 ma n_1 n);let b_:=(γ.wrap (γ.wrap (1+bC s.n 2)+1));let qY:=(sF++ax (0+b_.toNat) m8);let aJ:=(ax (0+b_.toNat) m8);let nT:=(1+aJ.length)*8<=140737488355328;let bD:=1+aJ.length<=qY.length;let aN:=(ay (0+jU.toNat) bM);let m7:=(0+(ax 0 aN).length)*8<=140737488355328;let lm:=0+(ax 0 aN).length<=([]++ax 0 aN).length;let av:=(ay (1+aJ.length) qY);let gk:=(0+(ax 0 aN).length+(ax 0 av).length)*8<=140737488355328;let θ:=At (JV w s (↑a:Int)) ([aj 0 0,bW,aj 14 0,ε γ jU],[aB [ζ 8 0 w.R.length,ζ 9 0 w.dk.length,ζ 10 0 w.vs.length,ζ 11 0 w.ψ.length,ζ 12 0 w.cs.length,ζ 13 0 (0+(ax 0 aN).length+(ax 0 av).length),ε γ w.now,ο w.ok],aw,aw,aw,aw,aw,aw,fE A,ai 30 1 (ae eB q),ai 23 1 (ae bO w.dk),ai 49 5 (ae eY w.vs),ai 73 3 (ae dG w.ψ),ai 61 10 (ae cL w.cs),ai 3 1 (ay (0+(ax 0 aN).length) ([]++ax 0 aN)++ax 0 av),aB [ε γ s.d,ε γ s.dj,ε γ s.n,ε γ s.k,ο s.ag]]);e[0]? =some (η (ν γ n))/\
 aA b_/\
 True/\
 b_.toNat<=w.bt.length - 0/\
 w.bt.length - 0<=w.bt.length - 0/\
 (True/\
 True/\
 True/\
 (eP)/\
 (True/\
 True/\
 True/\
 qi/\
 0<=0/\
 m7/\
 (eP)/\
 True/\
 True/\
 qX/\
 1<=1/\
 nT/\
 bD/\
 lm/\
 gk/\
 θ)/\
 True/\
 True/\
 True/\
 True/\
 True/\
 qi/\
 0<=0/\
 m7/\
 qX/\
 1<=1/\
 nT/\
 bD/\
 lm/\
 gk/\
 θ)/\
 True/\
 True/\
 True/\
 True/\
 True/\
 True/\
 True/\
 qi/\
 0<=0/\
 m7/\
 qX/\
 1<=1/\
 nT/\
 bD/\
 lm/\
 gk/\
 θ)/\
 ∀(i:{x:Ar // EL w s x }),let l9:=(ints γ i.val.W.bt);(br (bP s) (i.val.W.bt.length - 0)/\
 ∃(e:List D),l9[0+(bP s).toNat]? =some e/\
 ∃(n:Int),let bQ:=(∃(e:List D),l9[0+(bP s).toNat]? =some e/\
 ∃(n:Int),e[0]? =some (η (ν γ n))/\
 True);let bp:=(∃(e:List D),l9[0+(bP s).toNat]? =some e/\
 ∃(n_1:Int),e[0]? =some (η (ν γ n_1))/\
 ma n_1 n);let ω:=At (JW w s (↑a:Int)) ([aj 0 0,bW,aj 14 0],[aB [ζ 8 0 i.val.W.R.length,ζ 9 0 i.val.W.dk.length,ζ 10 0 i.val.W.vs.length,ζ 11 0 i.val.W.ψ.length,ζ 12 0 i.val.W.cs.length,ζ 13 0 i.val.W.bt.length,ε γ i.val.W.now,ο i.val.W.ok],aw,aw,aw,aw,aw,aw,fE i.val.A,ai 30 1 (ae eB i.val.q),ai 23 1 (ae bO i.val.W.dk),ai 49 5 (ae eY i.val.W.vs),ai 73 3 (ae dG i.val.W.ψ),ai 61 10 (ae cL i.val.W.cs),ai 3 1 l9,aB [mz,ε γ n,ε γ (γ.wrap (1+bC s.k 4)),ε γ (bC (γ.wrap (s.n.tdiv 2)) 2),aC (χ 1 [])]]);e[0]? =some (η (ν γ n))/\
 (True/\
 nc 4/\
 ma s.n s.n/\
 (bp)/\
 (True/\
 nc 2/\
 (bp)/\
 (bQ)/\
 True/\
 ω)/\
 True/\
 (bQ)/\
 True/\
 True/\
 nc 2/\
 (bp)/\
 ω)/\
 True/\
 True/\
 (bQ)/\
 True/\
 True/\
 nc 4/\
 ma s.n s.n/\
 (bp)/\
 True/\
 nc 2/\
 (bp)/\
 ω)/\
 ∀(i:{x:Au // EM w s x }),let sL:=η (ν γ i.val.o.bk);let sJ:=η (ν γ i.val.o.kd);let tV:=η (ν γ i.val.o.nm);let sI:=η (ν γ i.val.o.cl);let sG:=(γ.wrap ((↑(i.val.W.cs.length - 0):Int)+1));(((i.val.o.kd == 1)=true->
 ∀(b:List Int),b=[ξ.wrap sG,0,0,0,0,0,0,0,0,0,0,0,0,0,0,if γ.wrap ((↑(i.val.W.cs.length - 0):Int)+1) > 0 then 7 else 0]->
 At (JX w s (↑a:Int)) ([aj 0 0,bW,V.dm [sI,tV,sJ,sL,χ 1 (ints ξ b)] 0,ε γ sG],(bR i.val.W i.val.q i.val.A)))/\
 ((i.val.o.kd == 1)=false->
 At (JX w s (↑a:Int)) ([aj 0 0,bW,V.dm [sI,tV,sJ,sL,χ 1 []] 0,ε γ 0],(bR i.val.W i.val.q i.val.A))))/\
 ∀(i:{x:xI // As w s x }),∃(n:Int),i.val.e[0]? =some (η (ν γ n))/\
 ∃(n_1:Int),i.val.e[1]? =some (η (ν γ n_1))/\
 ∃(n_2:Int),i.val.e[2]? =some (η (ν γ n_2))/\
 ∃(dB:Int),i.val.e[3]? =some (η (ν γ dB))/\
 ∃(l:List (List D)),i.val.e[4]? =some (χ 1 l)/\
 ∃(iI:Int),i.val.e[2]? =some (η (ν γ iI))/\
 True/\
 True/\
 1<=1/\
 i.val.W.cs.length<=(ae cL i.val.W.cs).length/\
 (i.val.W.cs.length+1)*96<=140737488355328/\
 br (↑a:Int) (i.val.W.R.length - 0)/\
 ∃(e:List D),(ae eB i.val.q)[0+(↑a:Int).toNat]? =some e/\
 ∃(v:Value),e[0]? =some (η v)/\
 ∃(nJ:Int),i.val.e[0]? =some (η (ν γ nJ))/\
 ∃(ot:Int),i.val.e[1]? =some (η (ν γ ot))/\
 ∃(o6:Int),i.val.e[2]? =some (η (ν γ o6))/\
 ∃(o7:Int),i.val.e[3]? =some (η (ν γ o7))/\
 ∃(l_1:List (List D)),i.val.e[4]? =some (χ 1 l_1)/\
 ∃(l_2:List (Nat×ι)),∃(i_1:Nat),∃(b:Nat),∃(R:ι),cF i.val.A l_2/\
 l_2[i_1]? =some (b,R)/\
 η v=η (pv b)/\
 ∃(o:Op),[fz [ε γ nJ,ε γ ot,ε γ o6,ε γ o7,aC (χ 1 l_1)]]=[uW o]/\
 bB R/\
 R.out.length+(aP R).length<=100000/\
 (∀(c:Int),dW c o.b->
 0<=c/\
 c<256)/\
 o.b.length<=100000/\
 ∀(A':List (Sg×KB)),cF A' (l_2.set i_1 (b,(dN R o).snd))->
 ∃(w_1:Wd),∃(q:List (Nat×Nat)),∃(A:List (Sg×KB)),lq [aB [ζ 1 0 i.val.W.R.length,ζ 2 0 i.val.W.dk.length,ζ 3 0 i.val.W.vs.length,ζ 4 0 i.val.W.ψ.length,ζ 5 0 (i.val.W.cs.length+1),ζ 6 0 i.val.W.bt.length,ε γ i.val.W.now,ο i.val.W.ok],ai 30 1 (ae eB i.val.q),ai 23 1 (ae bO i.val.W.dk),ai 49 5 (ae eY i.val.W.vs),ai 73 3 (ae dG i.val.W.ψ),ai 61 10 (ay i.val.W.cs.length (ae cL i.val.W.cs)++[[η (ν γ n),η (ν γ n_1),η (ν γ n_2),η (ν γ dB),χ 1 l,η (ν γ iI),η (ν γ i.val.v),η (ν γ i.val.W.now),η (ν γ (-1)),η (mG false)]]),ai 3 1 (ints γ i.val.W.bt),fE A'] w_1 q A/\
 PW A q w_1.R/\
 ∃(i:Nat),[bW]=[ε γ (↑i:Int)]/\
 jD w_1 i/\
 ∀(w':Wd),w'=cf w_1 i->
 ∀(q':List (Nat×Nat)) (A':List (Sg×KB)),PW A' q' w'.R->
 K (au []) (bR w' q' A')))
 ):aI Tryz.prog NR (VM w s (a:Int) 26) 26 [aj 0 0,qO s,.int γ (a:Int)] (dx w q A) (eX eu (dp 8 K)):=by apply Eq.mp (a:=aq);kernel_rfl
theorem Vs {α:Type} (x:α) (D:List α):ay (1+D.length) ([x]++D)=x::D:=eQ (by rw[bn];exact ar _)
theorem afW {α:Type} {M:List α} {x:α} {c n:Nat} (hc:c<M.length) (hn:n=M.length):ay (0+(ax 0 (ay (0+c) M)).length) ([]++ax 0 (ay (0+c) M))++ax 0 (ay (1+(ax (0+(c+1)) (ay (0+(n - 0)) M)).length) ([x]++ax (0+(c+1)) (ay (0+(n - 0)) M)))=M.set c x:=by
 subst hn
 rw[xh,Vs,ly,c9,c9,c9,jr,cQ,cQ,iD,List.set_eq_take_append_cons_drop,if_pos hc]
theorem afU {α:Type} {M:List α} {x:α} {c n:Nat} (hc:c<M.length) (hn:n=M.length):0+(ax 0 (ay (0+c) M)).length+(ax 0 (ay (1+(ax (0+(c+1)) (ay (0+(n - 0)) M)).length) ([x]++ax (0+(c+1)) (ay (0+(n - 0)) M)))).length=M.length:=by
 subst hn
 rw[xh,Vs,ly,c9,c9,c9,cQ,iD,gA,cW,gm];omega
theorem xt {W:Wd} {R':List ι} (h:R'.length=W.R.length) (q:List (Nat×Nat)) (A:List (Sg×KB)):dx W q A=dx {W with R:=R' } q A:=by
 show[aB [.sl 1 0 W.R.length,_,_,_,_,_,_,_],_,_,_,_,_,_,_]=[aB [.sl 1 0 R'.length,_,_,_,_,_,_,_],_,_,_,_,_,_,_]
 rw[h]
theorem TE:aO Tryz.prog 20 AO:=fun args kb K hs=>J9 args kb K (by
 unfold AO at hs;split at hs<;>try exact hs.elim
 exact⟨hs.1.h,hs.2⟩)
theorem adX:aO Tryz.prog 23 ER:=fun args kb K hs=>TM args kb K (by
 unfold ER at hs;split at hs<;>try exact hs.elim
 exact hs _ rfl)
theorem Ly:dD Tryz.prog zC:=fun f k h=>by
 unfold zC at h
 split at h
 ·cases h;exact TE
 ·cases h;exact Tq
 ·cases h;exact SY adX
 ·exact DG _ _ h
theorem Yv:cx Tryz.prog NR:=dP mixed Ly aG 10
theorem Yz {w:Wd} {cl:Int} (h:∀ j,j<w.cs.length->nF w cl (dd w j)=false):uj w cl=none:=by
 unfold uj
 have:w.cs.filter (nF w cl)=[]:=List.filter_eq_nil_iff.2 fun c hc=>by
  obtain⟨j,hj⟩:=jG hc
  have hl:=(bH.1 hj).1
  have:=h j hl
  rw[v6 hl,bb.injEq]at hj
  rw[<- hj,this];exact Bool.false_ne_true
 rw[this];rfl
theorem YA {w:Wd} {cl:Int} {k:Nat} (hk:k<w.cs.length) (h1:nF w cl (dd w k)=true) (h:∀ j,k<j->j<w.cs.length->nF w cl (dd w j)=false):uj w cl=some (dd w k):=by
 unfold uj
 have e:w.cs=w.cs.take k++dd w k::w.cs.drop (k+1):=by
  have hc:=v6 hk
  rw[bu hk,bb.injEq]at hc
  rw[<- hc,<- List.drop_eq_getElem_cons hk,List.take_append_drop]
 have e2:(w.cs.drop (k+1)).filter (nF w cl)=[]:=List.filter_eq_nil_iff.2 fun c hc=>by
  obtain⟨j,hj⟩:=jG hc
  rw[jW]at hj
  have hl:=(bH.1 hj).1
  have:=h (k+1+j) (by omega) hl
  rw[v6 hl,bb.injEq]at hj
  rw[<- hj,this];exact Bool.false_ne_true
 generalize dd w k=c at*
 rw[e,List.filter_append,List.filter_cons_of_pos h1,e2,List.getLast?_concat]
structure AZ (w:Wd) (s:Sp) (a:Nat):Prop where
 hi:a<w.R.length
 hd:a<w.dk.length
 r:bB (κ w a)
 ol:(κ w a).out.length+(aP (κ w a)).length<=100000
 cl:w.cs.length<=1000
 cb:∀ c∈w.cs,bq c.o.b/\c.o.b.length<=100000
 n3:w.bt.length=3
 nb:∀ n∈w.bt,0<=n/\n<=1000000
 cA:∀ c,uj w (bP s)=some c->jD (tf w c.o a) a
 cB:w.cs.length<12->jD (tf (lX w s) (gv w s) a) a
def MQ:List V->Wd->(V->Wd->Prop)->Prop:=fun rest w k=>∃(s:Sp) (a:Nat),rest=[qO s,.int γ (a:Int)]/\AZ w s a/\∀ w',w'=lH w s a->k (.φ []) w'
theorem kJ (k:Int) {n:Int} (h:1<=n):0<=bC k n/\bC k n<n:=aev h
theorem JC (w:Wd) (s:Sp):bq (gv w s).b/\(gv w s).b.length<=100000:=by
 unfold gv;dsimp only;split
 ·exact⟨LY _,by rw[Eg];omega⟩
 ·exact⟨fun c h=>(by cases h),bj _⟩
theorem adN:aO Tryz.prog 26 (WM MQ):=my Yv mixed eu (fun args kb K h=>by
 unfold WM at h;split at h<;>try exact h.elim
 obtain⟨w,q,A,⟨rfl⟩,hp,s,a,rfl,hc,h⟩:=h
 refine⟨VM w s (a:Int) 26,?_⟩
 show aI _ _ _ _ _ _ (eX eu (dp 8 K))
 apply aiv w s a q A K
 have hi:=hc.hi
 have hcl:=hc.cl
 have pc:=kJ s.n (n:=2) (by omega)
 have e1:γ.wrap (1+bC s.n 2)=bP s:=by rw[bE (by omega) (by omega)];rfl
 have hcs:1<=bP s/\bP s<=2:=by unfold bP;omega
 have IR:∀ n:Int,0<=n->n<=10->nc n:=fun n h1 h2=>⟨by omega,by omega⟩
 have hin:br (a:Int) w.R.length:=by unfold br;omega
 have hn3:=hc.n3
 have cv:br (bP s) w.bt.length:=by unfold br;omega
 have cn:(bP s).toNat<w.bt.length:=by omega
 have go:∀(W:Wd) (o:Op) (q1:List (Nat×Nat)) (A1:List (Sg×KB)),W.R=w.R->PW A1 q1 W.R->(bq o.b/\o.b.length<=100000)->jD (tf W o a) a->lH w s a=lG W o a->
   ∀(F:List (Sg×KB)->KB),(∀ A',F A'=dx W q1 A')->∀(X:List V),X=[uW o]->br (a:Int) (w.R.length - 0)/\∃ e,(q1.map eB)[0+(a:Int).toNat]? =some e/\∃ d:Value,e[0]? =some (η d)/\∃(l:List (Nat×ι)) (i:Nat) (b:Nat) (R:ι),cF A1 l/\l[i]? =some (b,R)/\η d=η (pv b)/\∃ o:Op,X=[uW o]/\bB R/\R.out.length+(aP R).length<=100000/\(∀ c,dW c o.b->0<=c/\c<256)/\o.b.length<=100000/\
    ∀ A',cF A' (l.set i (b,(dN R o).2))->∃(w1:Wd) (q:List (Nat×Nat)) (A:List (Sg×KB)),lq (F A') w1 q A/\PW A q w1.R/\∃ i:Nat,[ε γ (a:Int)]=[ε γ (i:Int)]/\jD w1 i/\∀ w',w'=cf w1 i->∀ q' A',PW A' q' w'.R->K (.φ []) (bR w' q' A'):=by
  intro W o q1 A1 Qw P1 oa Ig hst F hF X hX
  have rM:W.R[a]? =some (κ w a):=by rw[Qw];exact p8 hi
  have hrW:κ W a=κ w a:=by unfold κ;rw[Qw]
  obtain⟨l,k,b,hq,hA,hl,dQ⟩:=P1.get rM
  refine⟨hin,_,ox hq,_,rfl,l,k,b,_,hA,hl,rfl,o,hX,hc.r,hc.ol,oa.1,oa.2,fun A2 p2=>⟨tf W o a,q1,A2,⟨?_⟩,?_,a,rfl,Ig,fun w' hw' q' A' p'=>h w' (by rw[hw',hst];rfl) q' A' p'⟩⟩
  ·rw[hF];exact xt (by rw[iG]) q1 A2
  ·have:=dQ _ _ p2
   show PW A2 q1 (W.R.set a (dN (κ W a) o).2)
   rw[hrW];exact this
 rw[e1]
 refine⟨IR 2 (by omega) (by omega),fun ha=>⟨?_,?_⟩,fun ha=>⟨fun h12=>?_,fun h12=>?_⟩⟩
 ·refine At.mk' (⟨⟨w.cs.length,q,A⟩,ar _,fun j h1 h2=>absurd h1 (by show ¬ w.cs.length<=j;omega),hp⟩:{x:xR // AY w (bP s) x}) ?_
  rw[bE (by omega) (by omega)]
  rfl
 ·rintro⟨⟨k,q1,A1⟩,hk,hno,P1⟩
  dsimp only at hk hno P1 ⊢
  refine⟨fun pK=>?_,fun pK=>?_⟩
  ·have pK:0<k:=by rw[decide_eq_true_eq]at pK;omega
   have hlt:k - 1<w.cs.length:=by omega
   have ek:((k:Int) - 1)=((k - 1:Nat):Int):=by omega
   have hg:=v6 hlt
   have x9:∀ b:Bool,b=nF w (bP s) (dd w (k - 1))->At (D2 w (bP s) (a:Int) k) ([aj 0 0,.int γ (a:Int),.int γ (bP s),.int γ ((k:Int) - 1),.dm (cL (dd w (k - 1))) 0,ο b],bR w q1 A1):=fun b hb=>At.mk' (⟨⟨_,q1,A1,b⟩,pK,hlt,rfl,hb,hno,P1⟩:{x:lP // Fw w (bP s) k x}) rfl
   refine⟨by rw[ek];unfold br;omega,cL (dd w (k - 1)),by rw[ek,c9,cN,fy,hg];rfl,_,rfl,_,rfl,_,rfl,_,rfl,_,rfl,_,rfl,_,rfl,_,rfl,_,rfl,_,rfl,⟨fun t1=>⟨cv,_,by rw[c9,kY,yy cn];rfl,w.bt.getD (bP s).toNat 0,rfl,fun t2=>?_,fun t2=>?_⟩,fun t1=>?_⟩,?_⟩
   ·refine x9 _ ?_
    rw[beq_iff_eq]at t1 t2
    unfold nF
    rw[Bool.eq_iff_iff,decide_eq_true_eq]
    rw[bne_iff_ne]
    exact⟨fun t3=>⟨t1,t2,t3⟩,fun t3=>t3.2.2⟩
   ·refine x9 _ ?_
    rw[beq_eq_false_iff_ne]at t2
    unfold nF
    exact(decide_eq_false fun t3=>t2 t3.2.1).symm
   ·refine x9 _ ?_
    rw[beq_eq_false_iff_ne]at t1
    unfold nF
    exact(decide_eq_false fun t3=>t1 t3.1).symm
   ·rintro⟨⟨e,q2,A2,b⟩,_,_,he,hb,_,P2⟩
    dsimp only at he hb P2 ⊢
    subst he
    refine⟨fun tb=>?_,fun tb=>?_⟩
    ·rw[tb]at hb
     have rG:=YA hlt hb.symm (fun j h1 h2=>hno j (by omega) h2)
     have hst:lH w s a=lG w (dd w (k - 1)).o a:=by
      unfold lH;rw[if_pos ha,rG]
     have hmem:dd w (k - 1)∈w.cs:=fF hg
     obtain⟨g1,e,g2,d,g3,l,i,b',R,g4⟩:=go w (dd w (k - 1)).o q2 A2 rfl P2 (hc.cb _ hmem) (hc.cA _ rG) hst (fun A'=>dx w q2 A') (fun _=>rfl) _ rfl
     exact⟨g1,e,g2,d,g3,_,rfl,_,rfl,_,rfl,_,rfl,_,rfl,l,i,b',R,g4⟩
    ·rw[tb]at hb
     refine Nx.mk' (⟨⟨k - 1,q2,A2⟩,by show k - 1<=_;omega,fun j h1 h2=>?_,P2⟩:{x:xR // AY w (bP s) x}) ?_ (by show k - 1<k;omega)
     ·have h1:k - 1<=j:=h1
      by_cases ej:j=k - 1
      ·subst ej;exact hb.symm
      ·exact hno j (by omega) h2
     ·rw[bE (by omega) (by omega),ek]
  ·have pK:k=0:=by rw[decide_eq_false_iff_not]at pK;omega
   subst pK
   have rG:=Yz (w:=w) (cl:=bP s) (fun j h1=>hno j (bj _) h1)
   exact h w (by unfold lH;rw[if_pos ha,rG]) q1 A1 P1
 ·have h12:12<=w.cs.length:=by rw[decide_eq_true_eq]at h12;omega
  exact h w (by unfold lH;rw[if_neg (by rw[ha];exact Bool.false_ne_true),if_pos h12]) q A hp
 have h12:w.cs.length<12:=by rw[decide_eq_false_iff_not]at h12;omega
 have e2:γ.wrap (bP s+1)=bP s+1:=by rw[bE (by omega) (by omega)]
 have e3:(bP s+1).toNat=(bP s).toNat+1:=by omega
 have hmem:=hc.nb _ (B6 cn)
 have e4:γ.wrap (w.bt.getD (bP s).toNat 0+1)=kI w (bP s)+1:=by rw[bE (by omega) (by omega)];rfl
 have df:(ints γ w.bt)[0+(bP s).toNat]? =some [η (.int γ (w.bt.getD (bP s).toNat 0))]:=by rw[c9,kY,yy cn];rfl
 have hM:(bP s).toNat<(ints γ w.bt).length:=by rw[bi];exact cn
 have hL:w.bt.length=(ints γ w.bt).length:=bi.symm
 have hst:lH w s a=lG (lX w s) (gv w s) a:=by
  unfold lH;rw[if_neg (by rw[ha];exact Bool.false_ne_true),if_neg (by omega)]
 refine⟨?_,?_⟩
 ·simp only[e2,e3]
  have H1:At (JV w s (a:Int)) ([aj 0 0,.int γ (a:Int),aj 14 0,.int γ (bP s)],[aB [.sl 8 0 w.R.length,.sl 9 0 w.dk.length,.sl 10 0 w.vs.length,.sl 11 0 w.ψ.length,.sl 12 0 w.cs.length,.sl 13 0 (0+(ax 0 (ay (0+(bP s).toNat) (ints γ w.bt))).length+(ax 0 (ay (1+(ax (0+((bP s).toNat+1)) (ay (0+(w.bt.length - 0)) (ints γ w.bt))).length) ([[η (.int γ (γ.wrap (w.bt.getD (bP s).toNat 0+1)))]]++ax (0+((bP s).toNat+1)) (ay (0+(w.bt.length - 0)) (ints γ w.bt))))).length),.int γ w.now,ο w.ok],aw,aw,aw,aw,aw,aw,fE A,kL q,la w,kM w,ki w,l5 w,
    .row 3 1 (ay (0+(ax 0 (ay (0+(bP s).toNat) (ints γ w.bt))).length) ([]++ax 0 (ay (0+(bP s).toNat) (ints γ w.bt)))++ax 0 (ay (1+(ax (0+((bP s).toNat+1)) (ay (0+(w.bt.length - 0)) (ints γ w.bt))).length) ([[η (.int γ (γ.wrap (w.bt.getD (bP s).toNat 0+1)))]]++ax (0+((bP s).toNat+1)) (ay (0+(w.bt.length - 0)) (ints γ w.bt))))),aB [.int γ s.d,.int γ s.dj,.int γ s.n,.int γ s.k,ο s.ag]]):=by
   rw[afW hM hL,afU hM hL,<- hL,e4]
   refine At.mk' (⟨⟨pU w s,q,A⟩,rfl,hp⟩:{x:Ar // EL w s x}) ?_
   have e5:(ints γ w.bt).set (bP s).toNat [η (.int γ (kI w (bP s)+1))]=ints γ (pU w s).bt:=by
    show _=ints γ (w.bt.set _ _)
    simp only[ints,List.map_set]
   rw[e5]
   show(_,_)=(_,[aB [_,_,_,_,_,.sl 13 0 (w.bt.set (bP s).toNat (kI w (bP s)+1)).length,_,_],_,_,_,_,_,_,_,_,_,_,_,_,_,_])
   rw[iG]
   rfl
  repeat' (first | exact trivial | exact H1 | refine⟨_,df,_,rfl,?_⟩ | exact⟨_,df,_,rfl,⟨rfl⟩⟩ | apply And.intro)
  all_goals first | exact cv | exact⟨rfl⟩ | exact ar _ | exact bj _ | (unfold aA;omega) | omega | (simp only[jr,bn,cW,gm,gZ,gA,kP,bi];omega)
 rintro⟨⟨W,q1,A1⟩,hW,P1⟩
 dsimp only at hW P1 ⊢
 have H7:W.bt=w.bt.set (bP s).toNat (kI w (bP s)+1):=by rw[hW];rfl
 have Qx:W.bt.length=w.bt.length:=by rw[H7,iG]
 have p4:=kJ s.k (n:=4) (by omega)
 have e6:γ.wrap (1+bC s.k 4)=1+bC s.k 4:=by rw[bE (by omega) (by omega)]
 have Q6:(ints γ W.bt)[0+(bP s).toNat]? =some [η (.int γ (kI w (bP s)+1))]:=by rw[c9,kY,H7,iN cn];rfl
 have O1:br (bP s) (W.bt.length - 0):=by rw[Qx];exact cv
 refine⟨?_,?_⟩
 ·have H1:At (JW w s (a:Int)) ([aj 0 0,.int γ (a:Int),aj 14 0],[km 8 W,aw,aw,aw,aw,aw,aw,fE A1,kL q1,la W,kM W,ki W,l5 W,lE W,aB [.int γ (bP s),.int γ (kI w (bP s)+1),.int γ (γ.wrap (1+bC s.k 4)),.int γ (bC (γ.wrap (s.n.tdiv 2)) 2),aC (.sl 1 [])]]):=by
   refine At.mk' (⟨⟨W,{gv w s with b:=[] },q1,A1⟩,hW,rfl,P1⟩:{x:Au // EM w s x}) ?_
   rw[e6];rfl
  repeat' (first | exact trivial | exact H1 | exact O1 | exact IR 2 (by omega) (by omega) | exact IR 4 (by omega) (by omega) | refine⟨_,Q6,_,rfl,?_⟩ | exact⟨rfl⟩ | apply And.intro)
 clear Q6 O1 P1 hW H7 Qx A1 q1 W
 rintro⟨⟨W,o,q1,A1⟩,hW,ho,P1⟩
 dsimp only at hW ho P1 ⊢
 subst hW ho
 refine⟨?_,?_⟩
 ·have e7:γ.wrap ((((pU w s).cs.length - 0:Nat):Int)+1)=(w.cs.length:Int)+1:=by
   show γ.wrap ((w.cs.length:Int)+1)=_
   rw[bE (by omega) (by omega)]
  rw[e7]
  refine⟨fun t=>?_,fun t=>?_⟩
  ·have t:1+bC s.k 4=1:=by rw[beq_iff_eq]at t;exact t
   intro b hb
   have hb:b=iB ((w.cs.length:Int)+1):=hb
   refine At.mk' (⟨⟨pU w s,bo (gv w s),(w.cs.length:Int)+1,q1,A1⟩,rfl,rfl,by unfold qH;rw[if_pos t],P1⟩:{x:xI // As w s x}) ?_
   show(_,_)=([_,_,V.dm [_,_,_,_,.sl 1 (ints ξ (gv w s).b)] 0,_],_)
   have:(gv w s).b=b:=by rw[hb];unfold gv;dsimp only;rw[if_pos t]
   rw[this]
  ·have t:¬ 1+bC s.k 4=1:=by rw[beq_eq_false_iff_ne]at t;exact t
   refine At.mk' (⟨⟨pU w s,bo (gv w s),0,q1,A1⟩,rfl,rfl,by unfold qH;rw[if_neg t],P1⟩:{x:xI // As w s x}) ?_
   show(_,_)=([_,_,V.dm [_,_,_,_,.sl 1 (ints ξ (gv w s).b)] 0,_],_)
   have:(gv w s).b=[]:=by unfold gv;dsimp only;rw[if_neg t]
   rw[this];rfl
 ·clear P1 A1 q1
  rintro⟨⟨W,e,v,q1,A1⟩,hW,he,hv,P1⟩
  dsimp only at hW he hv P1 ⊢
  subst hW he hv
  have hb:=JC w s
  refine⟨_,rfl,_,rfl,_,rfl,_,rfl,_,rfl,_,rfl,trivial,trivial,ar _,by rw[bT];exact ar _,by show(w.cs.length+1)*96<=_;omega,?_⟩
  obtain⟨g1,e,g2,d,g3,l,i,b',R,g4⟩:=go (lX w s) (gv w s) q1 A1 rfl P1 hb (hc.cB h12) hst (fun A'=>dx (lX w s) q1 A') (fun _=>rfl) _ rfl
  have ek:∀ A',dx (lX w s) q1 A'=[aB [.sl 1 0 w.R.length,.sl 2 0 w.dk.length,.sl 3 0 w.vs.length,.sl 4 0 w.ψ.length,.sl 5 0 (w.cs.length+1),.sl 6 0 (pU w s).bt.length,.int γ w.now,ο w.ok],kL q1,la w,kM w,ki w,ai 61 10 (ay w.cs.length (w.cs.map cL)++[cL ⟨gv w s,qH w s,w.now,-1⟩]),lE (pU w s),fE A']:=fun A'=>by
   have e8:(lX w s).cs.length=w.cs.length+1:=by show(w.cs++[_]).length=_;rw[bn];rfl
   have e9:(lX w s).cs.map cL=ay w.cs.length (w.cs.map cL)++[cL ⟨gv w s,qH w s,w.now,-1⟩]:=by
    show(w.cs++[_]).map cL=_
    rw[ja,eQ (by rw[bT];exact ar _)];rfl
   unfold dx km l5
   rw[e8,e9]
   rfl
  simp only[ek]at g4
  exact⟨g1,e,g2,d,g3,_,rfl,_,rfl,_,rfl,_,rfl,_,rfl,l,i,b',R,g4⟩)
def Jc:fQ:=⟨0,0,⟨0,[],[],[]⟩⟩
def fH (w:Wd) (k:Nat):fQ:=w.ψ.getD k Jc
def fw (w:Wd) (k:Nat):Wd:={w with ψ:=w.ψ.eraseIdx k }
noncomputable def yC (w:Wd) (l:fQ):Wd:={w with R:=w.R.set l.to.toNat (dI (κ w l.to.toNat) l.fr l.m) }
noncomputable def lB (w:Wd) (k:Nat):Wd:=cf (yC (fw w k) (fH w k)) (fH w k).to.toNat
def Ft:aE:=fun args kb K=>match args,kb with
 | [aC (.sl 1 B)],[]=>∃ m:dL,B=ints ξ (mT m)/\kS m/\K (.φ [Jv m,.int γ 0]) []
 |_,_=>False
structure Ae where
 W:Wd
 e:List D
 q:List (Nat×Nat)
 A:List (Sg×KB)
structure EA (w:Wd) (k:Nat) (x:Ae):Prop where
 W:x.W=fw w k
 e:x.e=jA (fH w k).m
 p:PW x.A x.q x.W.R
abbrev O4 (w:Wd) (k:Nat) (l:fQ):LI where
 α:={x:Ae // EA w k x}
 live:=[0,4,5,40]
 dT:=eu++[.pQ 2]
 st x:=([aj 0 0,aj 14 0,.dm x.1.e 0,ο true],[km 8 x.1.W,aw,aw,aw,aw,aw,aw,fE x.1.A,kL x.1.q,la x.1.W,kM x.1.W,ki x.1.W,l5 x.1.W,lE x.1.W,aB [.int γ l.fr,.int γ l.to,aC (.sl 1 (ints ξ (mT l.m)))]])
 μ x:=0
def zI (w:Wd) (i:Nat):Vw:=w.vs.getD i ⟨0,0,0,[],[]⟩
def bJ (w:Wd):Vw:=zI w (w.vs.length - 1)
def fb (c:Vw):Int:=c.mem.getD 0 0
def oD (w:Wd) (s:Sp) (a:Int):Wd:=
 if bC s.k 3=2/\¬ (gw (κ w (fb (bJ w)).toNat)=true/\(κ w (fb (bJ w)).toNat).ep=(bJ w).ve)then w
 else if(lY (bJ w) (bC s.k 3) a).ve≠(bJ w).ve then{w with vs:=w.vs++[lY (bJ w) (bC s.k 3) a] }else w
structure FG (w:Wd) (s:Sp) (x:lP):Prop where
 e:x.e=eY (bJ w)
 b:x.b=(bC s.k 3 == 2)
 p:PW x.A x.q w.R
abbrev WB (w:Wd) (s:Sp) (a:Int):LI where
 α:={x:lP // FG w s x}
 live:=[0,2,6,7,30]
 dT:=eu++[.pQ 2]
 st x:=([aj 0 0,.int γ a,.dm x.1.e 0,.int γ (bC s.k 3),ο x.1.b],bR w x.1.q x.1.A)
 μ x:=0
structure Be (w:Wd) (s:Sp) (x:lP):Prop where
 e:x.e=eY (bJ w)
 ok:bC s.k 3=2->gw (κ w (fb (bJ w)).toNat)=true/\(κ w (fb (bJ w)).toNat).ep=(bJ w).ve
 p:PW x.A x.q w.R
abbrev LR (w:Wd) (s:Sp) (a:Int):LI where
 α:={x:lP // Be w s x}
 live:=[0,2,6,7]
 dT:=eu
 st x:=([aj 0 0,.int γ a,.dm x.1.e 0,.int γ (bC s.k 3)],bR w x.1.q x.1.A)
 μ x:=0
structure FH (w:Wd) (s:Sp) (a:Int) (x:lP):Prop where
 e:x.e=eY (lY (bJ w) (bC s.k 3) a)
 b:x.b=((lY (bJ w) (bC s.k 3) a).ve != (bJ w).ve)
 p:PW x.A x.q w.R
abbrev WC (w:Wd) (s:Sp) (a:Int):LI where
 α:={x:lP // FH w s a x}
 live:=[0,13,76]
 dT:=eu++[.pQ 1]
 st x:=([aj 0 0,.dm x.1.e 0,ο x.1.b],bR w x.1.q x.1.A)
 μ x:=0
def BF (w:Wd) (s:Sp) (a:Int) (k:Nat) (l:fQ):FuncId->Nat->Option LI
 | 27,1004=>some (O4 w k l)
 | 28,1004=>some (WB w s a)
 | 28,1007=>some (LR w s a)
 | 28,1009=>some (WC w s a)
 |_,_=>none
def Fh:aE:=fun args kb K=>match args,kb with
 | [.agg [.int γ vi,.int γ vv,.int γ ve,aC (.sl 1 M),aC (.sl 1 J)],.int γ ch,.int γ id],[]=>∃ m j:List Int,M=ints γ m/\J=ints γ j/\m.length<=1000/\j.length<=1000/\rh ve/\ve<=1000000/\∀ x:Vw,x=lY ⟨vi,vv,ve,m,j⟩ ch id->K (xr x) []
 |_,_=>False
def GV:FuncId->Option du
 | 59=>some ⟨[],Ft⟩
 | 61=>some ⟨[],Fh⟩
 |f=>zC f
noncomputable def FK:cd:=dM Tryz.prog GV aG 10
theorem ahz (w:Wd) (k:Nat) (l:fQ) (q:List (Nat×Nat)) (A:List (Sg×KB)) (K:V->KB->Prop) (aq:
 let av:=(ay (0+(w.ψ.length - 0)) (ae dG w.ψ));let ω:=(γ.wrap ((↑k:Int)+1));let θ:=(ay (0+(↑k:Int).toNat) (ae dG w.ψ));br (↑k:Int) (w.ψ.length - 0)/\
 ∃(e:List D),(ae dG w.ψ)[0+(↑k:Int).toNat]? =some e/\
 ∃(n:Int),e[0]? =some (η (ν γ n))/\
 ∃(n_1:Int),e[1]? =some (η (ν γ n_1))/\
 ∃(l_1:List (List D)),e[2]? =some (χ 1 l_1)/\
 True/\
 aA (↑k:Int)/\
 0<=(↑k:Int).toNat/\
 (↑k:Int).toNat<=w.ψ.length - 0/\
 aA ω/\
 True/\
 ω.toNat<=w.ψ.length - 0/\
 w.ψ.length - 0<=w.ψ.length - 0/\
 True/\
 True/\
 True/\
 True/\
 0+(↑k:Int).toNat<=(ae dG w.ψ).length/\
 0<=0/\
 (0+(ax 0 θ).length)*40<=140737488355328/\
 0+(w.ψ.length - 0)<=(ae dG w.ψ).length/\
 0+(ax 0 θ).length<=([]++ax 0 θ).length/\
 (0+(ax 0 θ).length+(ax (0+ω.toNat) av).length)*40<=140737488355328/\
 ∃(m:dL),l_1=ints ξ (mT m)/\
 kS m/\
 At (O4 w k l) ([aj 0 0,aj 14 0,V.dm [η (ν γ m.kd),χ 1 (ints γ m.n),χ 1 (ints ξ m.b),χ 1 (ct m.l)] 0,ο true],[aB [ζ 8 0 w.R.length,ζ 9 0 w.dk.length,ζ 10 0 w.vs.length,ζ 11 0 (0+(ax 0 θ).length+(ax (0+ω.toNat) av).length),ζ 12 0 w.cs.length,ζ 13 0 w.bt.length,ε γ w.now,ο w.ok],aw,aw,aw,aw,aw,aw,fE A,ai 30 1 (ae eB q),ai 23 1 (ae bO w.dk),ai 49 5 (ae eY w.vs),ai 73 3 (ay (0+(ax 0 θ).length) ([]++ax 0 θ)++ax (0+ω.toNat) av),ai 61 10 (ae cL w.cs),ai 3 1 (ints γ w.bt),aB [ε γ n,ε γ n_1,aC (χ 1 l_1)]])/\
 ∀(i:{x:Ae // EA w k x }),(true=true->
 br l.to (i.val.W.R.length - 0)/\
 ∃(e:List D),(ae eB i.val.q)[0+l.to.toNat]? =some e/\
 ∃(v:Value),e[0]? =some (η v)/\
 ∃(n:Int),i.val.e[0]? =some (η (ν γ n))/\
 ∃(l_2:List (List D)),i.val.e[1]? =some (χ 1 l_2)/\
 ∃(io:List (List D)),i.val.e[2]? =some (χ 1 io)/\
 ∃(hU:List (List D)),i.val.e[3]? =some (χ 1 hU)/\
 ∃(oY:List (Nat×ι)),∃(i_1:Nat),∃(b:Nat),∃(R:ι),cF i.val.A oY/\
 oY[i_1]? =some (b,R)/\
 η v=η (pv b)/\
 ∃(fr:Int),∃(m:dL),[ε γ l.fr,fz [ε γ n,aC (χ 1 l_2),aC (χ 1 io),aC (χ 1 hU)]]=[ε γ fr,Jv m]/\
 bB R/\
 lw m/\
 ∀(A':List (Sg×KB)),cF A' (oY.set i_1 (b,dI R fr m))->
 ∃(w_1:Wd),∃(q:List (Nat×Nat)),∃(A:List (Sg×KB)),lq (dx i.val.W i.val.q A') w_1 q A/\
 PW A q w_1.R/\
 ∃(i:Nat),[ε γ l.to]=[ε γ (↑i:Int)]/\
 jD w_1 i/\
 ∀(w':Wd),w'=cf w_1 i->
 ∀(q':List (Nat×Nat)) (A':List (Sg×KB)),PW A' q' w'.R->
 K (au []) (bR w' q' A'))/\
 (true=false->
 K (au []) (bR i.val.W i.val.q i.val.A))
 ):aI Tryz.prog FK (BF w ⟨0,0,0,0,false⟩ 0 k l 27) 27 [aj 0 0,.int γ (k:Int)] (dx w q A) (eX eu (dp 8 K)):=by apply Eq.mp (a:=aq);kernel_rfl
theorem aiO (w:Wd) (s:Sp) (a:Int) (q:List (Nat×Nat)) (A:List (Sg×KB)) (K:V->KB->Prop) (aq:
 let θ:=ε γ (bC s.k 3);br (γ.wrap ((↑(w.vs.length - 0):Int) - 1)) (w.vs.length - 0)/\
 ∃(e:List D),(ae eY w.vs)[0+(γ.wrap ((↑(w.vs.length - 0):Int) - 1)).toNat]? =some e/\
 ∃(n:Int),e[0]? =some (η (ν γ n))/\
 ∃(n_1:Int),e[1]? =some (η (ν γ n_1))/\
 ∃(n_2:Int),e[2]? =some (η (ν γ n_2))/\
 ∃(l:List (List D)),e[3]? =some (χ 1 l)/\
 ∃(l_1:List (List D)),e[4]? =some (χ 1 l_1)/\
 (∃(e:List D),(ae eY w.vs)[0+(γ.wrap ((↑(w.vs.length - 0):Int) - 1)).toNat]? =some e/\
 ∃(n:Int),e[0]? =some (η (ν γ n))/\
 ∃(n:Int),e[1]? =some (η (ν γ n))/\
 ∃(n:Int),e[2]? =some (η (ν γ n))/\
 ∃(l:List (List D)),e[3]? =some (χ 1 l)/\
 ∃(l:List (List D)),e[4]? =some (χ 1 l)/\
 True)/\
 True/\
 True/\
 nc 3/\
 (At (WB w s a) ([aj 0 0,ε γ a,V.dm [η (ν γ n),η (ν γ n_1),η (ν γ n_2),χ 1 l,χ 1 l_1] 0,θ,ο (bC s.k 3 == 2)],(bR w q A))/\
 ∀(i:{x:lP // FG w s x }),(i.val.b=true->
 ∃(l:List (List D)),i.val.e[3]? =some (χ 1 l)/\
 aA 0/\
 ∃(e:List D),l[0]? =some e/\
 ∃(n:Int),e[0]? =some (η (ν γ n))/\
 br n (w.R.length - 0)/\
 ∃(e:List D),(ae eB i.val.q)[0+n.toNat]? =some e/\
 ∃(v:Value),e[0]? =some (η v)/\
 ∃(l:List (Nat×ι)),∃(i_1:Nat),∃(b:Nat),∃(R:ι),cF i.val.A l/\
 l[i_1]? =some (b,R)/\
 η v=η (pv b)/\
 jI []/\
 bB R/\
 ∀(A':List (Sg×KB)),cF A' (l.set i_1 (b,R))->
 ∃(l:List (List D)),i.val.e[3]? =some (χ 1 l)/\
 aA 0/\
 ∃(e:List D),l[0]? =some e/\
 ∃(n:Int),e[0]? =some (η (ν γ n))/\
 br n (w.R.length - 0)/\
 ∃(e:List D),(ae eB i.val.q)[0+n.toNat]? =some e/\
 ∃(v:Value),e[0]? =some (η v)/\
 ∃(l:List (Nat×ι)),∃(i_2:Nat),∃(b:Nat),∃(iX:ι),cF A' l/\
 l[i_2]? =some (b,iX)/\
 η v=η (pv b)/\
 jI []/\
 bB iX/\
 ∀(A':List (Sg×KB)),cF A' (l.set i_2 (b,iX))->
 ((!gw iX)=true->
 K (au []) (bR w i.val.q A'))/\
 ((!gw iX)=false->
 ∃(n:Int),i.val.e[2]? =some (η (ν γ n))/\
 ((R.ep != n)=true->
 K (au []) (bR w i.val.q A'))/\
 ((R.ep != n)=false->
 At (LR w s a) ([aj 0 0,ε γ a,V.dm i.val.e 0,θ],(bR w i.val.q A')))))/\
 (i.val.b=false->
 At (LR w s a) ([aj 0 0,ε γ a,V.dm i.val.e 0,θ],(bR w i.val.q i.val.A))))/\
 ∀(i:{x:lP // Be w s x }),∃(n:Int),i.val.e[0]? =some (η (ν γ n))/\
 ∃(dB:Int),i.val.e[1]? =some (η (ν γ dB))/\
 ∃(iI:Int),i.val.e[2]? =some (η (ν γ iI))/\
 ∃(l:List (List D)),i.val.e[3]? =some (χ 1 l)/\
 ∃(l_2:List (List D)),i.val.e[4]? =some (χ 1 l_2)/\
 ∃(m:List Int),∃(j:List Int),l=ints γ m/\
 l_2=ints γ j/\
 m.length<=1000/\
 j.length<=1000/\
 rh iI/\
 iI<=1000000/\
 ∀(x:Vw),x=lY {vi:=n,vv:=dB,ve:=iI,mem:=m,aH:=j } (bC s.k 3) a->
 (∃(n:Int),i.val.e[2]? =some (η (ν γ n))/\
 At (WC w s a) ([aj 0 0,V.dm [η (ν γ x.vi),η (ν γ x.vv),η (ν γ x.ve),χ 1 (ints γ x.mem),χ 1 (ints γ x.aH)] 0,ο (x.ve != n)],(bR w i.val.q i.val.A)))/\
 ∀(i:{x:lP // FH w s a x }),(i.val.b=true->
 ∃(n:Int),i.val.e[0]? =some (η (ν γ n))/\
 ∃(nJ:Int),i.val.e[1]? =some (η (ν γ nJ))/\
 ∃(ot:Int),i.val.e[2]? =some (η (ν γ ot))/\
 ∃(l:List (List D)),i.val.e[3]? =some (χ 1 l)/\
 ∃(io:List (List D)),i.val.e[4]? =some (χ 1 io)/\
 True/\
 1<=1/\
 w.vs.length<=(ae eY w.vs).length/\
 (w.vs.length+1)*72<=140737488355328/\
 K (au []) [aB [ζ 8 0 w.R.length,ζ 9 0 w.dk.length,ζ 10 0 (w.vs.length+1),ζ 11 0 w.ψ.length,ζ 12 0 w.cs.length,ζ 13 0 w.bt.length,ε γ w.now,ο w.ok],aw,aw,aw,aw,aw,aw,fE i.val.A,ai 30 1 (ae eB i.val.q),ai 23 1 (ae bO w.dk),ai 49 5 (ay w.vs.length (ae eY w.vs)++[[η (ν γ n),η (ν γ nJ),η (ν γ ot),χ 1 l,χ 1 io]]),ai 73 3 (ae dG w.ψ),ai 61 10 (ae cL w.cs),ai 3 1 (ints γ w.bt)])/\
 (i.val.b=false->
 K (au []) (bR w i.val.q i.val.A))
 ):aI Tryz.prog FK (BF w s a 0 Jc 28) 28 [aj 0 0,qO s,.int γ a] (dx w q A) (eX eu (dp 8 K)):=by apply Eq.mp (a:=aq);kernel_rfl
theorem adG:aO Tryz.prog 59 Ft:=fun args kb K hs=>Fm.adF args kb K (by
 unfold Ft at hs;split at hs<;>try exact hs.elim
 obtain⟨m,rfl,hm,h⟩:=hs
 have hl:=Fm.afk hm.r
 refine⟨mT m,rfl,DR (Fm.Uv hm.r hm.b),by unfold mT;rw[pg];omega,?_⟩
 unfold mT
 rw[Fm.ae3 hm.r]
 exact h)
theorem adc:aO Tryz.prog 61 Fh:=fun args kb K hs=>adb args kb K (by
 unfold Fh at hs;split at hs<;>try exact hs.elim
 obtain⟨m,j,rfl,rfl,h1,h2,h3,h4,h⟩:=hs
 exact⟨m,j,rfl,rfl,h1,h2,h3.lo,h4,h _ rfl⟩)
theorem ZK:dD Tryz.prog GV:=fun f k h=>by
 unfold GV at h
 split at h
 ·cases h;exact adG
 ·cases h;exact adc
 ·exact Ly _ _ h
theorem Nz:cx Tryz.prog FK:=dP mixed ZK aG 10
theorem Gg {w:Wd} {k:Nat} (h:k<w.ψ.length):w.ψ[k]? =some (fH w k):=by
 unfold fH;rw[gO,bu h];rfl
theorem Vq {α:Type} {M:List α} {k n:Nat} (hk:k<M.length) (hn:n=M.length):ay (0+(ax 0 (ay (0+k) M)).length) ([]++ax 0 (ay (0+k) M))++ax (0+(k+1)) (ay (0+(n - 0)) M)=M.eraseIdx k:=by
 subst hn
 rw[xh,ly,c9,c9,c9,jr,cQ,cQ,List.eraseIdx_eq_take_drop_succ]
theorem Vr {α:Type} {M:List α} {k n:Nat} (hk:k<M.length) (hn:n=M.length):0+(ax 0 (ay (0+k) M)).length+(ax (0+(k+1)) (ay (0+(n - 0)) M)).length=(M.eraseIdx k).length:=by
 subst hn
 rw[xh,ly,c9,c9,c9,cQ,List.length_eraseIdx_of_lt hk,cW,gm];omega
theorem Su {α β:Type} (f:α->β) (M:List α) (k:Nat):(M.eraseIdx k).map f=(M.map f).eraseIdx k:=by
 rw[List.eraseIdx_eq_take_drop_succ,List.eraseIdx_eq_take_drop_succ,ja,List.map_take,List.map_drop]
structure vA (w:Wd) (k:Nat):Prop where
 hk:k<w.ψ.length
 bl:w.ψ.length<=10000
 t0:0<=(fH w k).to
 t1:(fH w k).to<w.R.length
 rt:kS (fH w k).m
 mo:lw (fH w k).m
 r:bB (κ w (fH w k).to.toNat)
 c:jD (yC (fw w k) (fH w k)) (fH w k).to.toNat
def EE:List V->Wd->(V->Wd->Prop)->Prop:=fun rest w k=>∃ i:Nat,rest=[.int γ (i:Int)]/\vA w i/\∀ w',w'=lB w i->k (.φ []) w'
theorem Ts:aO Tryz.prog 27 (WM EE):=my Nz mixed eu (fun args kb K h=>by
 unfold WM at h;split at h<;>try exact h.elim
 obtain⟨w,q,A,⟨rfl⟩,hp,k,rfl,hc,h⟩:=h
 refine⟨BF w ⟨0,0,0,0,false⟩ 0 k (fH w k) 27,?_⟩
 show aI _ _ _ _ _ _ (eX eu (dp 8 K))
 apply ahz w k (fH w k) q A K
 dsimp only
 have hk:=hc.hk
 have cz:=hc.bl
 have hg:=Gg hk
 have w1:γ.wrap ((k:Int)+1)=((k+1:Nat):Int):=by rw[bE (by omega) (by omega)];rfl
 have hM:k<(w.ψ.map dG).length:=by rw[bT];exact hk
 have hL:w.ψ.length=(w.ψ.map dG).length:=by rw[bT]
 have t0:=hc.t0
 have t1:=hc.t1
 obtain⟨to,hto⟩:∃ to:Nat,(fH w k).to=(to:Int):=⟨(fH w k).to.toNat,by omega⟩
 have rI:(w.ψ.map dG)[0+(k:Int).toNat]? =some (dG (fH w k)):=by rw[c9,cN,fy,hg];rfl
 have nB:=hc.rt
 have hmo:=hc.mo
 have hr:=hc.r
 have uA:=hc.c
 have hst:lB w k=cf (yC (fw w k) (fH w k)) (fH w k).to.toNat:=rfl
 clear hc
 generalize hl:fH w k=l at*
 have htn:l.to.toNat=to:=by omega
 rw[w1,cN,cN]at*
 have hel:(fw w k).ψ.length=((w.ψ.map dG).eraseIdx k).length:=by
  show(w.ψ.eraseIdx k).length=_
  rw[List.length_eraseIdx_of_lt hk,List.length_eraseIdx_of_lt hM,bT]
 have hem:(fw w k).ψ.map dG=(w.ψ.map dG).eraseIdx k:=by
  show(w.ψ.eraseIdx k).map dG=_
  exact Su dG w.ψ k
 try dsimp only
 rw[Vr hM hL]
 refine⟨by unfold br;omega,_,rI,_,rfl,_,rfl,_,rfl,trivial,by unfold aA;omega,bj _,by omega,by unfold aA;omega,trivial,by omega,ar _,trivial,trivial,trivial,trivial,by omega,ar _,by simp only[gm,cW];omega,by omega,by simp,?_,l.m,rfl,nB,?_⟩
 ·rw[<- hel];have:(fw w k).ψ.length<=w.ψ.length:=by show(w.ψ.eraseIdx k).length<=_;rw[List.length_eraseIdx_of_lt hk];omega
  omega
 refine⟨?_,?_⟩
 ·rw[Vq hM hL,<- hel,<- hem]
  exact At.mk' (⟨⟨fw w k,jA l.m,q,A⟩,rfl,by rw[hl],hp⟩:{x:Ae // EA w k x}) rfl
 rintro⟨⟨W,e,q1,A1⟩,hW,he,P1⟩
 dsimp only at hW he P1 ⊢
 subst hW he
 rw[hl]
 refine⟨fun _=>?_,fun t=>(by cases t)⟩
 have htl:to<w.R.length:=by omega
 have rM:(fw w k).R[to]? =some (κ w to):=p8 htl
 obtain⟨l2,i,b,hq,hA,ww,dQ⟩:=P1.get rM
 rw[htn]at hr uA hst
 refine⟨by show br _ w.R.length;unfold br;omega,_,by rw[htn];have:=ox hq;rw[cN]at this;exact this,_,rfl,_,rfl,_,rfl,_,rfl,_,rfl,l2,i,b,_,hA,ww,rfl,l.fr,l.m,rfl,hr,hmo,fun A2 p2=>⟨yC (fw w k) l,q1,A2,⟨?_⟩,?_,to,by rw[hto],uA,fun w' hw' q' A' p'=>h w' (by rw[hw',hst]) q' A' p'⟩⟩
 ·exact xt (by show _=w.R.length;rw[iG];rfl) q1 A2
 ·have:=dQ _ _ p2
  show PW A2 q1 (w.R.set l.to.toNat (dI (κ w l.to.toNat) l.fr l.m))
  rw[htn];exact this)
theorem vf {w:Wd} {i:Nat} (h:i<w.vs.length):w.vs[i]? =some (zI w i):=by
 unfold zI;rw[gO,bu h];rfl
structure FI (w:Wd):Prop where
 vl:0<w.vs.length
 v1:w.vs.length<=10000
 ml:(bJ w).mem.length<=1000
 jl:(bJ w).aH.length<=1000
 m0:0<(bJ w).mem.length
 h0:0<=fb (bJ w)
 h1:fb (bJ w)<w.R.length
 r:bB (κ w (fb (bJ w)).toNat)
 e0:0<=(bJ w).ve
 e1:(bJ w).ve<=1000000
def MT:List V->Wd->(V->Wd->Prop)->Prop:=fun rest w k=>∃(s:Sp) (a:Int),rest=[qO s,.int γ a]/\FI w/\∀ w',w'=oD w s a->k (.φ []) w'
theorem adW:aO Tryz.prog 28 (WM MT):=my Nz mixed eu (fun args kb K h=>by
 unfold WM at h;split at h<;>try exact h.elim
 obtain⟨w,q,A,⟨rfl⟩,hp,s,a,rfl,hc,h⟩:=h
 refine⟨BF w s a 0 Jc 28,?_⟩
 show aI _ _ _ _ _ _ (eX eu (dp 8 K))
 apply aiO w s a q A K
 obtain⟨vl,v1,ml,jl,m0,h0,h1,hr,ve0,ve1⟩:=hc
 have w1:γ.wrap (((w.vs.length - 0:Nat):Int) - 1)=((w.vs.length - 1:Nat):Int):=by rw[bE (by omega) (by omega)];omega
 have hv:(w.vs.map eY)[0+((w.vs.length - 1:Nat):Int).toNat]? =some (eY (bJ w)):=by
  rw[c9,cN,fy,vf (by omega)];rfl
 have aa5:nc 3:=⟨by omega,by omega⟩
 have hh:(bJ w).mem.getD 0 0=fb (bJ w):=rfl
 obtain⟨hd,wu⟩:∃ n:Nat,fb (bJ w)=(n:Int):=⟨(fb (bJ w)).toNat,by omega⟩
 have hdn:(fb (bJ w)).toNat=hd:=by omega
 have hdl:hd<w.R.length:=by omega
 rw[hdn]at hr
 have no:∀ q' A',PW A' q' w.R->bC s.k 3=2/\¬ (gw (κ w hd)=true/\(κ w hd).ep=(bJ w).ve)->K (.φ []) (bR w q' A'):=fun q' A' p' t=>h w (by unfold oD;rw[hdn,if_pos t]) q' A' p'
 have hm0:(ints γ (bJ w).mem)[0]? =some [η (.int γ (fb (bJ w)))]:=by rw[kY,yy m0];rfl
 have hpt:∀{q1:List (Nat×Nat)} {k b:Nat},q1[hd]? =some (k,b)->(q1.map eB)[0+(fb (bJ w)).toNat]? =some [η (pv b)]:=fun hq=>by have:=ox hq;rw[hdn];rw[cN]at this;exact this
 have kW:aA 0:=by unfold aA;omega
 have hin:br (fb (bJ w)) (w.R.length - 0):=by show br _ w.R.length;unfold br;omega
 dsimp only
 rw[w1]
 refine⟨by unfold br;omega,_,hv,_,rfl,_,rfl,_,rfl,_,rfl,_,rfl,⟨_,hv,_,rfl,_,rfl,_,rfl,_,rfl,_,rfl,trivial⟩,trivial,trivial,aa5,⟨?_,?_⟩,?_⟩
 ·exact At.mk' (⟨⟨_,q,A,_⟩,rfl,rfl,hp⟩:{x:lP // FG w s x}) rfl
 ·rintro⟨⟨e,q1,A1,b⟩,he,hb,P1⟩
  dsimp only at he hb P1 ⊢
  subst he
  refine⟨fun tb=>?_,fun tb=>?_⟩
  ·rw[tb]at hb
   have hp2:bC s.k 3=2:=by simpa using hb.symm
   obtain⟨l,i,b',hq,hA,ww,dQ⟩:=P1.get (p8 hdl)
   refine⟨_,rfl,kW,_,hm0,_,rfl,hin,_,hpt hq,_,rfl,l,i,b',_,hA,ww,rfl,⟨rfl⟩,hr,fun A2 p2=>?_⟩
   have P2:=dQ _ _ p2
   have hsame:w.R.set hd (κ w hd)=w.R:=by
    apply mb
    intro k
    by_cases ek:hd=k
    ·subst ek;rw[iN hdl,p8 hdl]
    ·rw[gP ek]
   rw[hsame]at P2
   obtain⟨l',i',b'',pM,hA',abb,abg⟩:=P2.get (p8 hdl)
   refine⟨_,rfl,kW,_,hm0,_,rfl,hin,_,hpt pM,_,rfl,l',i',b'',_,hA',abb,rfl,⟨rfl⟩,hr,fun A3 p3=>?_⟩
   have P3:=abg _ _ p3
   rw[hsame]at P3
   refine⟨fun t1=>?_,fun t1=>⟨_,rfl,fun t2=>?_,fun t2=>?_⟩⟩
   ·exact no _ _ P3 ⟨hp2,fun t=>by rw[t.1]at t1;cases t1⟩
   ·exact no _ _ P3 ⟨hp2,fun t=>by rw[t.2]at t2;simp at t2⟩
   ·exact At.mk' (⟨⟨_,q1,A3,true⟩,rfl,fun _=>by rw[hdn];exact⟨by simpa using t1,by simpa using t2⟩,P3⟩:{x:lP // Be w s x}) rfl
  ·rw[tb]at hb
   have hp2:¬ bC s.k 3=2:=by intro t;rw[t]at hb;cases hb
   exact At.mk' (⟨⟨_,q1,A1,true⟩,rfl,fun t=>absurd t hp2,P1⟩:{x:lP // Be w s x}) rfl
 rintro⟨⟨e,q1,A1,b⟩,he,hok,P1⟩
 dsimp only at he P1 ⊢
 subst he
 refine⟨_,rfl,_,rfl,_,rfl,_,rfl,_,rfl,(bJ w).mem,(bJ w).aH,rfl,rfl,ml,jl,⟨ve0,by omega⟩,ve1,fun x hx=>?_⟩
 have hx:x=lY (bJ w) (bC s.k 3) a:=hx
 refine⟨⟨_,rfl,?_⟩,?_⟩
 ·exact At.mk' (⟨⟨eY x,q1,A1,x.ve != (bJ w).ve⟩,by rw[<- hx],by rw[<- hx],P1⟩:{x:lP // FH w s a x}) rfl
 rintro⟨⟨e,q2,A2,b⟩,he,hb,P2⟩
 dsimp only at he hb P2 ⊢
 subst he
 rw[<- hx]at hb ⊢
 have hsk:¬ (bC s.k 3=2/\¬ (gw (κ w (fb (bJ w)).toNat)=true/\(κ w (fb (bJ w)).toNat).ep=(bJ w).ve)):=fun t=>t.2 (hok t.1)
 refine⟨fun tb=>?_,fun tb=>?_⟩
 ·rw[tb]at hb
  have hne:x.ve≠(bJ w).ve:=by simpa using hb.symm
  refine⟨_,rfl,_,rfl,_,rfl,_,rfl,_,rfl,trivial,ar _,by rw[bT];exact ar _,by omega,?_⟩
  have:=h {w with vs:=w.vs++[x] } (by unfold oD;rw[if_neg hsk,<- hx,if_pos hne]) q2 A2 P2
  have e1:(w.vs++[x]).length=w.vs.length+1:=by rw[bn];rfl
  have e2:(w.vs++[x]).map eY=ay w.vs.length (w.vs.map eY)++[eY x]:=by
   rw[ja,eQ (by rw[bT];exact ar _)];rfl
  unfold bR km kM at this
  dsimp only at this
  rw[e1,e2]at this
  exact this
 ·rw[tb]at hb
  have hne:¬ x.ve≠(bJ w).ve:=by simpa using hb.symm
  exact h w (by unfold oD;rw[if_neg hsk,<- hx,if_neg hne]) q2 A2 P2)
def sf (R:ι) (a:Int):ι:=newR a 5 false R.ep R.nu R.c R.t
def cw (w:Wd):Wd:={w with now:=w.now+1 }
def bx (w:Wd) (i:Nat) (R:ι):Wd:={w with R:=w.R.set i R }
def yq (w:Wd) (k:Nat):Wd:={w with ψ:=w.ψ++[fH w k] }
def pm (w:Wd) (i:Nat):Wd:=cf (bx w i (cO (κ w i))) i
def eO (w:Wd):Nat->Wd
 | 0=>w
 |i+1=>pm (eO w i) i
def mY (w:Wd) (s:Sp):Vw:=zI w (max 0 ((w.vs.length:Int) - 1 - bC s.n 3)).toNat
def qT (w:Wd) (a:Nat) (v:Vw):Wd:=cf (bx w a (dV (κ w a) v)) a
noncomputable def kN (w:Wd) (s:Sp) (a k:Nat):Wd:=
 if s.d=0 then lH w s a
 else if s.d=1 then(if 0<w.ψ.length then lB w k else w)
 else if s.d=2 then(if 0<w.ψ.length then fw w k else w)
 else if s.d=3 then(if 0<w.ψ.length/\w.ψ.length<500 then yq w k else w)
 else if s.d=4 then bx w a (sf (κ w a) a)
 else if s.d=5 then oD w s (a:Int)
 else if s.d=6 then qT w a (mY w s)
 else if s.d=7 then eO w 4 else w
def cH (s:Sp):Nat:=(bC s.dj 4).toNat
def iK (w:Wd) (s:Sp):Nat:=(bC s.n w.ψ.length).toNat
noncomputable def eE (w:Wd) (s:Sp):Wd:=kN (cw w) s (cH s) (iK w s)
structure kA where
 i:Nat
 W:Wd
 q:List (Nat×Nat)
 A:List (Sg×KB)
structure Bc (w:Wd) (x:kA):Prop where
 le:x.i<=4
 W:x.W=eO (cw w) x.i
 p:PW x.A x.q x.W.R
abbrev LN (w:Wd):LI where
 α:={x:kA // Bc w x}
 live:=[0,8]
 dT:=eu
 st x:=([aj 0 0,.int γ (x.1.i:Int)],bR x.1.W x.1.q x.1.A)
 μ x:=4 - x.1.i
def Vd (w:Wd):FuncId->Nat->Option LI
 | 9,28=>some (LN w)
 |_,_=>none
def K4:FuncId->Option du
 | 26=>some ⟨[.ic],WM MQ⟩
 | 27=>some ⟨[.ic],WM EE⟩
 | 28=>some ⟨[.ic],WM MT⟩
 |f=>zC f
noncomputable def NQ:cd:=dM Tryz.prog K4 aG 10
theorem aiz (w:Wd) (s:Sp) (q:List (Nat×Nat)) (A:List (Sg×KB)) (K:V->KB->Prop) (aq:
 let mz:=(γ.wrap ((↑(w.vs.length - 0):Int) - 1) - bC s.n 3);let m8:=decide ((↑(w.ψ.length - 0):Int) > 0)=true;let l9:=decide ((↑(w.ψ.length - 0):Int) > 0)=false;let m7:=(ay (0+(w.ψ.length - 0)) (ae dG w.ψ));let jU:=0+(bC s.dj 4).toNat<(ae eB q).length;let gM:=[fz [ε γ s.d,ε γ s.dj,ε γ s.n,ε γ s.k,ο s.ag],ε γ (bC s.dj 4)];let cI:=ai 30 1 (ae eB q);let b_:=(bC s.n (↑(w.ψ.length - 0):Int));let bW:=(γ.wrap (bC s.n (↑(w.ψ.length - 0):Int)+1));let bQ:=ai 73 3 (ae dG w.ψ);let bM:=ε γ (γ.wrap (w.now+1));let gk:=aB [ζ 8 0 w.R.length,ζ 9 0 w.dk.length,ζ 10 0 w.vs.length,ζ 11 0 w.ψ.length,ζ 12 0 w.cs.length,ζ 13 0 w.bt.length,bM,ο true];let bD:=ai 49 5 (ae eY w.vs);let bp:=ai 23 1 (ae bO w.dk);let aU:=ai 61 10 (ae cL w.cs);let aJ:=ai 3 1 (ints γ w.bt);let aN:=(ay (0+b_.toNat) (ae dG w.ψ));let av:KB:=[aB [ζ 1 0 w.R.length,ζ 2 0 w.dk.length,ζ 3 0 w.vs.length,ζ 4 0 w.ψ.length,ζ 5 0 w.cs.length,ζ 6 0 w.bt.length,bM,ο w.ok],cI,bp,bD,bQ,aU,aJ,fE A];let ω:=aB [ζ 8 0 w.R.length,ζ 9 0 w.dk.length,ζ 10 0 w.vs.length,ζ 11 0 w.ψ.length,ζ 12 0 w.cs.length,ζ 13 0 w.bt.length,bM,ο false];let lm:=K (au []) [ω,aw,aw,aw,aw,aw,aw,fE A,cI,bp,bD,bQ,aU,aJ];let eP:=K (au []) [ω,aw,aw,aw,aw,aw,aw,fE A,ai 30 1 ((ae eB q).set (0+(bC s.dj 4).toNat) [η (Value.pointer none)]),bp,bD,bQ,aU,aJ];let θ:KB:=[aB [ζ 8 0 w.R.length,ζ 9 0 w.dk.length,ζ 10 0 w.vs.length,ζ 11 0 w.ψ.length,ζ 12 0 w.cs.length,ζ 13 0 w.bt.length,bM,ο w.ok],aw,aw,aw,aw,aw,aw,fE A,cI,bp,bD,bQ,aU,aJ];nc 4/\
 nc (↑(w.ψ.length - 0):Int)/\
 ((s.d == 0)=true->
 ∃(w_1:Wd),∃(pZ:List (Nat×Nat)),∃(pp:List (Sg×KB)),lq av w_1 pZ pp/\
 PW pp pZ w_1.R/\
 ∃(s_1:Sp),∃(a:Nat),gM=[qO s_1,ε γ (↑a:Int)]/\
 AZ w_1 s_1 a/\
 ∀(w':Wd),w'=lH w_1 s_1 a->
 ∀(q':List (Nat×Nat)) (A':List (Sg×KB)),PW A' q' w'.R->
 K (au []) (bR w' q' A'))/\
 ((s.d == 0)=false->
 ((s.d == 1)=true->
 (m8->
 ∃(w_1:Wd),∃(pZ:List (Nat×Nat)),∃(pp:List (Sg×KB)),lq av w_1 pZ pp/\
 PW pp pZ w_1.R/\
 ∃(i:Nat),[ε γ b_]=[ε γ (↑i:Int)]/\
 vA w_1 i/\
 ∀(w':Wd),w'=lB w_1 i->
 ∀(q':List (Nat×Nat)) (A':List (Sg×KB)),PW A' q' w'.R->
 K (au []) (bR w' q' A'))/\
 (l9->
 K (au []) θ))/\
 ((s.d == 1)=false->
 ((s.d == 2)=true->
 (m8->
 True/\
 aA b_/\
 0<=b_.toNat/\
 b_.toNat<=w.ψ.length - 0/\
 aA bW/\
 True/\
 bW.toNat<=w.ψ.length - 0/\
 w.ψ.length - 0<=w.ψ.length - 0/\
 True/\
 True/\
 True/\
 True/\
 0+b_.toNat<=(ae dG w.ψ).length/\
 0<=0/\
 (0+(ax 0 aN).length)*40<=140737488355328/\
 0+(w.ψ.length - 0)<=(ae dG w.ψ).length/\
 0+(ax 0 aN).length<=([]++ax 0 aN).length/\
 (0+(ax 0 aN).length+(ax (0+bW.toNat) m7).length)*40<=140737488355328/\
 K (au []) [aB [ζ 8 0 w.R.length,ζ 9 0 w.dk.length,ζ 10 0 w.vs.length,ζ 11 0 (0+(ax 0 aN).length+(ax (0+bW.toNat) m7).length),ζ 12 0 w.cs.length,ζ 13 0 w.bt.length,bM,ο w.ok],aw,aw,aw,aw,aw,aw,fE A,cI,bp,bD,ai 73 3 (ay (0+(ax 0 aN).length) ([]++ax 0 aN)++ax (0+bW.toNat) m7),aU,aJ])/\
 (l9->
 K (au []) θ))/\
 ((s.d == 2)=false->
 ((s.d == 3)=true->
 (m8->
 (decide ((↑(w.ψ.length - 0):Int)<500)=true->
 br b_ (w.ψ.length - 0)/\
 ∃(e:List D),(ae dG w.ψ)[0+(bC s.n (↑(w.ψ.length - 0):Int)).toNat]? =some e/\
 ∃(n:Int),e[0]? =some (η (ν γ n))/\
 ∃(n_1:Int),e[1]? =some (η (ν γ n_1))/\
 ∃(l:List (List D)),e[2]? =some (χ 1 l)/\
 True/\
 True/\
 1<=1/\
 w.ψ.length<=(ae dG w.ψ).length/\
 (w.ψ.length+1)*40<=140737488355328/\
 K (au []) [aB [ζ 8 0 w.R.length,ζ 9 0 w.dk.length,ζ 10 0 w.vs.length,ζ 11 0 (w.ψ.length+1),ζ 12 0 w.cs.length,ζ 13 0 w.bt.length,bM,ο w.ok],aw,aw,aw,aw,aw,aw,fE A,cI,bp,bD,ai 73 3 (ay w.ψ.length (ae dG w.ψ)++[[η (ν γ n),η (ν γ n_1),χ 1 l]]),aU,aJ])/\
 (decide ((↑(w.ψ.length - 0):Int)<500)=false->
 K (au []) θ))/\
 (l9->
 K (au []) θ))/\
 ((s.d == 3)=false->
 ((s.d == 4)=true->
 br (bC s.dj 4) (w.dk.length - 0)/\
 ∃(e:List D),(ae bO w.dk)[0+(bC s.dj 4).toNat]? =some e/\
 ∃(l:List (List D)),e[0]? =some (χ 1 l)/\
 ∃(pp:List (Sg×KB)),∃(l_1:List (Nat×ι)),∃(t:List Int),xE [fE A] pp/\
 cF pp l_1/\
 l=ints ξ t/\
 (∀(c:Int),dW c t->
 0<=c/\
 c<256)/\
 t.length<=900000/\
 (((∃(ep:Int),∃(nu:Int),∃(c:List Int),∃(x:List L3),oI t ep nu c x)->
 False)->
 (w.ok=true->
 (false=true->
 br (bC s.dj 4) (w.R.length - 0)/\
 jU/\
 eP)/\
 (false=false->
 lm))/\
 (w.ok=false->
 (false=true->
 br (bC s.dj 4) (w.R.length - 0)/\
 jU/\
 eP)/\
 (false=false->
 lm)))/\
 ∀(ep nu:Int) (c:List Int) (x:List L3),oI t ep nu c x->
 ∀(b:Nat) (A':List (Sg×KB)),let nT:=ai 30 1 ((ae eB q).set (0+(bC s.dj 4).toNat) [η (pv b)]);cF A' (l_1++[(b,newR (bC s.dj 4) 5 false ep nu c x)])->
 (w.ok=true->
 (true=true->
 br (bC s.dj 4) (w.R.length - 0)/\
 jU/\
 K (au []) [gk,aw,aw,aw,aw,aw,aw,fE A',nT,bp,bD,bQ,aU,aJ])/\
 (true=false->
 K (au []) [gk,aw,aw,aw,aw,aw,aw,fE A',cI,bp,bD,bQ,aU,aJ]))/\
 (w.ok=false->
 (true=true->
 br (bC s.dj 4) (w.R.length - 0)/\
 jU/\
 K (au []) [ω,aw,aw,aw,aw,aw,aw,fE A',nT,bp,bD,bQ,aU,aJ])/\
 (true=false->
 K (au []) [ω,aw,aw,aw,aw,aw,aw,fE A',cI,bp,bD,bQ,aU,aJ])))/\
 ((s.d == 4)=false->
 ((s.d == 5)=true->
 ∃(w_1:Wd),∃(pZ:List (Nat×Nat)),∃(pp:List (Sg×KB)),lq av w_1 pZ pp/\
 PW pp pZ w_1.R/\
 ∃(s_1:Sp),∃(a:Int),gM=[qO s_1,ε γ a]/\
 FI w_1/\
 ∀(w':Wd),w'=oD w_1 s_1 a->
 ∀(q':List (Nat×Nat)) (A':List (Sg×KB)),PW A' q' w'.R->
 K (au []) (bR w' q' A'))/\
 ((s.d == 5)=false->
 ((s.d == 6)=true->
 br (bC s.dj 4) (w.R.length - 0)/\
 ∃(e:List D),(ae eB q)[0+(bC s.dj 4).toNat]? =some e/\
 ∃(v:Value),e[0]? =some (η v)/\
 True/\
 True/\
 True/\
 nc 3/\
 (∃(e:List D),(ae eB q)[0+(bC s.dj 4).toNat]? =some e/\
 ∃(v_1:Value),e[0]? =some (η v_1)/\
 aC (η v_1)=aC (η v))/\
 br (if γ.wrap mz > 0 then γ.wrap mz else 0) (w.vs.length - 0)/\
 ∃(e:List D),(ae eY w.vs)[0+(if γ.wrap (γ.wrap ((↑(w.vs.length - 0):Int) - 1) - bC s.n 3) > 0 then γ.wrap (γ.wrap ((↑(w.vs.length - 0):Int) - 1) - bC s.n 3)else 0).toNat]? =some e/\
 ∃(n:Int),e[0]? =some (η (ν γ n))/\
 ∃(n_1:Int),e[1]? =some (η (ν γ n_1))/\
 ∃(n_2:Int),e[2]? =some (η (ν γ n_2))/\
 ∃(l:List (List D)),e[3]? =some (χ 1 l)/\
 ∃(l_1:List (List D)),e[4]? =some (χ 1 l_1)/\
 ∃(l_2:List (Nat×ι)),∃(i:Nat),∃(b:Nat),∃(R:ι),cF A l_2/\
 l_2[i]? =some (b,R)/\
 η v=η (pv b)/\
 ∃(w_1:Vw),[fz [ε γ n,ε γ n_1,ε γ n_2,aC (χ 1 l),aC (χ 1 l_1)]]=[xr w_1]/\
 bB R/\
 w_1.mem.length+w_1.aH.length<=1000/\
 R.out.length+(bA R.me w_1.mem w_1.aH).length<=100000/\
 ∀(A':List (Sg×KB)),cF A' (l_2.set i (b,dV R w_1))->
 ∃(w_2:Wd),∃(pZ:List (Nat×Nat)),∃(A:List (Sg×KB)),lq [aB [ζ 1 0 w.R.length,ζ 2 0 w.dk.length,ζ 3 0 w.vs.length,ζ 4 0 w.ψ.length,ζ 5 0 w.cs.length,ζ 6 0 w.bt.length,bM,ο w.ok],cI,bp,bD,bQ,aU,aJ,fE A'] w_2 pZ A/\
 PW A pZ w_2.R/\
 ∃(i:Nat),[ε γ (bC s.dj 4)]=[ε γ (↑i:Int)]/\
 jD w_2 i/\
 ∀(w':Wd),w'=cf w_2 i->
 ∀(q':List (Nat×Nat)) (A':List (Sg×KB)),PW A' q' w'.R->
 K (au []) (bR w' q' A'))/\
 ((s.d == 6)=false->
 ((s.d == 7)=true->
 At (LN w) ([aj 0 0,ε γ 0],θ)/\
 ∀(i:{x:kA // Bc w x }),(decide ((↑i.val.i:Int)<4)=true->
 br (↑i.val.i:Int) (i.val.W.R.length - 0)/\
 ∃(e:List D),(ae eB i.val.q)[0+(↑i.val.i:Int).toNat]? =some e/\
 ∃(v:Value),e[0]? =some (η v)/\
 ∃(l:List (Nat×ι)),∃(i_1:Nat),∃(b:Nat),∃(R:ι),cF i.val.A l/\
 l[i_1]? =some (b,R)/\
 η v=η (pv b)/\
 jI []/\
 bB R/\
 0<=R.ti/\
 R.ti<=2199023255552/\
 R.out.length+(aP R).length<=100000/\
 ∀(A':List (Sg×KB)),cF A' (l.set i_1 (b,cO R))->
 ∃(w_1:Wd),∃(q:List (Nat×Nat)),∃(A:List (Sg×KB)),lq (dx i.val.W i.val.q A') w_1 q A/\
 PW A q w_1.R/\
 ∃(i_2:Nat),[ε γ (↑i.val.i:Int)]=[ε γ (↑i_2:Int)]/\
 jD w_1 i_2/\
 ∀(w':Wd),w'=cf w_1 i_2->
 ∀(q':List (Nat×Nat)) (A':List (Sg×KB)),PW A' q' w'.R->
 Nx (LN w) i ([aj 0 0,ε γ (γ.wrap ((↑i.val.i:Int)+1))],(bR w' q' A')))/\
 (decide ((↑i.val.i:Int)<4)=false->
 K (au []) (bR i.val.W i.val.q i.val.A)))/\
 ((s.d == 7)=false->
 K (au []) θ))))))))
 ):aI Tryz.prog NQ (Vd w 9) 9 [aj 0 0,qO s] (dx w q A) (eX eu (dp 8 K)):=by apply Eq.mp (a:=aq);kernel_rfl
theorem afB:dD Tryz.prog K4:=fun f k h=>by
 unfold K4 at h
 split at h
 ·cases h;exact adN
 ·cases h;exact Ts
 ·cases h;exact adW
 ·exact Ly _ _ h
theorem Ys:cx Tryz.prog NQ:=dP mixed afB aG 10
theorem abq {l:List Int} (hb:bq l) (hl:l.length<=900000) {ep nu PC S5:Int} {c c':List Int} {x x':List L3} (h:oI l ep nu c x) (h':oI l PC S5 c' x'):ep=PC/\nu=S5/\c=c'/\x=x':=by
 have F:=Um (l:=l) hb hl (Prod.ext rfl (Prod.ext rfl rfl)) (Prod.ext rfl (Prod.ext rfl rfl)) (Prod.ext rfl (Prod.ext rfl rfl)) (Prod.ext rfl (Prod.ext rfl rfl)) rfl
 obtain⟨a1,a2,a3,a4,_⟩:=F.fwd _ _ _ _ h
 obtain⟨b1,b2,b3,b4,_⟩:=F.fwd _ _ _ _ h'
 refine⟨a1.symm.trans b1,a2.symm.trans b2,?_,V8 h.x h'.x (a4.symm.trans b4)⟩
 have e:=congrArg fM (a3.symm.trans b3)
 rw[wX,wX]at e
 exact bb.inj e
theorem acj {xs:List Nat} (h:xs.Nodup) {i v:Nat} (hi:i<xs.length) (hv:∀ x∈xs,x<v):(xs.set i v).Nodup:=by
 rw[List.set_eq_take_append_cons_drop,if_pos hi]
 have e:xs=xs.take i++xs[i]::xs.drop (i+1):=by rw[<- List.drop_eq_getElem_cons hi,List.take_append_drop]
 have h2:=h
 rw[e]at h2
 obtain⟨a,b,c⟩:=List.nodup_append.1 h2
 obtain⟨b1,b2⟩:=List.nodup_cons.1 b
 refine List.nodup_append.2 ⟨a,List.nodup_cons.2 ⟨fun hm=>by have:=hv v (List.mem_of_mem_drop hm);omega,b2⟩,fun x hx y hy=>?_⟩
 rcases dS.1 hy with rfl | hy
 ·have:=hv x (List.mem_of_mem_take hx);omega
 ·exact c x hx y (gn _ hy)
theorem CU.add {l:List (Nat×ι)} {q:List (Nat×Nat)} {R:List ι} (h:CU l q R) {i:Nat} (hi:i<R.length) (b:Nat) (r:ι):CU (l++[(b,r)]) (q.set i (l.length,b)) (R.set i r):=by
 have hlt:∀(j:Nat) (p:Nat×Nat),q[j]? =some p->p.1<l.length:=fun j p hj=>by
  obtain⟨_,_,h2⟩:=h.a j p hj
  exact(bH.1 h2).1
 have Rb:i<q.length:=by rw[h.len];exact hi
 refine⟨by simp [h.len],fun j p hj=>?_,?_⟩
 ·by_cases e:i=j
  ·subst e
   rw[iN Rb]at hj
   cases hj
   exact⟨r,iN hi,by rw[fk (ar _)];simp⟩
  ·rw[gP e]at hj
   obtain⟨r2,h1,h2⟩:=h.a j p hj
   exact⟨r2,by rw[gP e];exact h1,by rw[dY (hlt j p hj)];exact h2⟩
 ·rw[List.map_set]
  refine acj h.nd (by rw[bT];exact Rb) fun x hx=>?_
  obtain⟨p,hp,rfl⟩:=dO.1 hx
  obtain⟨j,hj⟩:=jG hp
  exact hlt j p hj
structure xN (w:Wd) (s:Sp):Prop where
 rl:w.R.length=4
 dl:w.dk.length=4
 n0:0<=w.now
 n1:w.now<=1000000
 bl:w.ψ.length<=10000
 vl:0<w.vs.length
 vm:w.vs.length<=10000
 c0:s.d=0->AZ (cw w) s (cH s)
 c1:s.d=1->0<w.ψ.length->vA (cw w) (iK w s)
 c4:s.d=4->w.dk[cH s]? =some (gD (κ w (cH s)))/\oI (gD (κ w (cH s))) (κ w (cH s)).ep (κ w (cH s)).nu (κ w (cH s)).c (κ w (cH s)).t/\bq (gD (κ w (cH s)))/\(gD (κ w (cH s))).length<=900000
 c5:s.d=5->FI (cw w)
 c6:s.d=6->bB (κ w (cH s))/\(mY w s).mem.length+(mY w s).aH.length<=1000/\(κ w (cH s)).out.length+(bA (κ w (cH s)).me (mY w s).mem (mY w s).aH).length<=100000/\jD (bx (cw w) (cH s) (dV (κ w (cH s)) (mY w s))) (cH s)
 c7:s.d=7->∀ i,i<4->(eO (cw w) i).R.length=4/\bB (κ (eO (cw w) i) i)/\0<=(κ (eO (cw w) i) i).ti/\(κ (eO (cw w) i) i).ti<=1000000/\(κ (eO (cw w) i) i).out.length+(aP (κ (eO (cw w) i) i)).length<=100000/\jD (bx (eO (cw w) i) i (cO (κ (eO (cw w) i) i))) i
def GStep:List V->Wd->(V->Wd->Prop)->Prop:=fun rest w k=>∃ s:Sp,rest=[qO s]/\xN w s/\∀ w',w'=eE w s->k (.φ []) w'
theorem TI:aO Tryz.prog 9 (WM GStep):=my Ys mixed eu (fun args kb K h=>by
 unfold WM at h;split at h<;>try exact h.elim
 obtain⟨w,q,A,⟨rfl⟩,hp,s,rfl,hc,h⟩:=h
 refine⟨Vd w 9,?_⟩
 show aI _ _ _ _ _ _ (eX eu (dp 8 K))
 apply aiz w s q A K
 have hn0:=hc.n0
 have hn1:=hc.n1
 have cz:=hc.bl
 have hrl:=hc.rl
 have hdl:=hc.dl
 have e1:γ.wrap (w.now+1)=w.now+1:=by rw[bE (by omega) (by omega)]
 have pa:=kJ s.dj (n:=4) (by omega)
 have hat:bC s.dj 4=(cH s:Int):=by unfold cH;omega
 have ha4:cH s<4:=by unfold cH;omega
 dsimp only
 rw[e1,hat]
 have K0:∀ W:Wd,W.R=w.R->W=eE w s->K (.φ []) (bR W q A):=fun W hR hW=>h W hW q A (by rw[hR];exact hp)
 have hin:br (cH s:Int) w.R.length:=by unfold br;omega
 have hpk:0<w.ψ.length->bC s.n ((w.ψ.length - 0:Nat):Int)=(iK w s:Int)/\iK w s<w.ψ.length:=fun hl=>by
  have:=kJ s.n (n:=((w.ψ.length - 0:Nat):Int)) (by omega)
  have e:iK w s=(bC s.n ((w.ψ.length - 0:Nat):Int)).toNat:=rfl
  omega
 simp only[beq_iff_eq,beq_eq_false_iff_ne,ne_eq,decide_eq_true_eq,decide_eq_false_iff_not]
 refine⟨⟨by omega,by omega⟩,⟨by omega,by omega⟩,fun d0=>?_,fun d0=>⟨fun d1=>⟨fun hl=>?_,fun hl=>?_⟩,fun d1=>⟨fun d2=>⟨fun hl=>?_,fun hl=>?_⟩,fun d2=>⟨fun d3=>⟨fun hl=>⟨fun h5=>?_,fun h5=>?_⟩,fun hl=>?_⟩,fun d3=>⟨fun d4=>?_,fun d4=>⟨fun d5=>?_,fun d5=>⟨fun d6=>?_,fun d6=>⟨fun d7=>?_,fun d7=>?_⟩⟩⟩⟩⟩⟩⟩⟩
 ·exact⟨cw w,q,A,⟨rfl⟩,hp,s,cH s,rfl,hc.c0 d0,fun w' hw' q' A' p'=>h w' (by rw[hw'];unfold eE kN;rw[if_pos d0]) q' A' p'⟩
 ·have hl:0<w.ψ.length:=by omega
  obtain⟨k1,k2⟩:=hpk hl
  rw[k1]
  exact⟨cw w,q,A,⟨rfl⟩,hp,iK w s,rfl,hc.c1 d1 hl,fun w' hw' q' A' p'=>h w' (by rw[hw'];unfold eE kN;rw[if_neg d0,if_pos d1,if_pos (by exact hl)]) q' A' p'⟩
 ·have hl:¬ 0<w.ψ.length:=by omega
  exact K0 (cw w) rfl (by unfold eE kN;rw[if_neg d0,if_pos d1,if_neg (by exact hl)])
 ·have hl:0<w.ψ.length:=by omega
  obtain⟨k1,k2⟩:=hpk hl
  have w1:γ.wrap ((iK w s:Int)+1)=((iK w s+1:Nat):Int):=by rw[bE (by omega) (by omega)];rfl
  have hM:iK w s<(w.ψ.map dG).length:=by rw[bT];exact k2
  have hL:w.ψ.length=(w.ψ.map dG).length:=by rw[bT]
  rw[k1,w1,cN,cN,Vr hM hL,Vq hM hL]
  have hst:fw (cw w) (iK w s)=eE w s:=by unfold eE kN;rw[if_neg d0,if_neg d1,if_pos d2,if_pos (by exact hl)]
  have hel:(fw (cw w) (iK w s)).ψ.length=((w.ψ.map dG).eraseIdx (iK w s)).length:=by
   show(w.ψ.eraseIdx _).length=_
   rw[List.length_eraseIdx_of_lt k2,List.length_eraseIdx_of_lt hM,bT]
  have hem:(fw (cw w) (iK w s)).ψ.map dG=(w.ψ.map dG).eraseIdx (iK w s):=Su dG w.ψ _
  have hle:((w.ψ.map dG).eraseIdx (iK w s)).length<=10000:=by rw[List.length_eraseIdx_of_lt hM];omega
  refine⟨trivial,by unfold aA;omega,bj _,by omega,by unfold aA;omega,trivial,by omega,ar _,trivial,trivial,trivial,trivial,by omega,ar _,by simp only[gm,cW];omega,by omega,by simp,by omega,?_⟩
  have:=K0 (fw (cw w) (iK w s)) rfl hst
  unfold bR km ki at this
  rw[hel,hem]at this
  exact this
 ·have hl:¬ 0<w.ψ.length:=by omega
  exact K0 (cw w) rfl (by unfold eE kN;rw[if_neg d0,if_neg d1,if_pos d2,if_neg (by exact hl)])
 ·have hl:0<w.ψ.length:=by omega
  have h5:w.ψ.length<500:=by omega
  obtain⟨k1,k2⟩:=hpk hl
  rw[k1]
  have hst:yq (cw w) (iK w s)=eE w s:=by unfold eE kN;rw[if_neg d0,if_neg d1,if_neg d2,if_pos d3,if_pos (by exact⟨hl,h5⟩)]
  refine⟨by unfold br;omega,dG (fH w (iK w s)),by rw[c9,cN,fy,Gg k2];rfl,_,rfl,_,rfl,_,rfl,trivial,trivial,ar _,by rw[bT];exact ar _,by omega,?_⟩
  have:=K0 (yq (cw w) (iK w s)) rfl hst
  have eb:(w.ψ++[fH w (iK w s)]).length=w.ψ.length+1:=by rw[bn];rfl
  have er:(w.ψ++[fH w (iK w s)]).map dG=ay w.ψ.length (w.ψ.map dG)++[dG (fH w (iK w s))]:=by
   rw[ja,eQ (by rw[bT];exact ar _)];rfl
  unfold bR km ki at this
  have e9:(yq (cw w) (iK w s)).ψ=w.ψ++[fH w (iK w s)]:=rfl
  rw[e9,eb,er]at this
  exact this
 ·have h5:¬ w.ψ.length<500:=by omega
  exact K0 (cw w) rfl (by unfold eE kN;rw[if_neg d0,if_neg d1,if_neg d2,if_pos d3,if_neg (by exact fun t=>h5 t.2)])
 ·have hl:¬ 0<w.ψ.length:=by omega
  exact K0 (cw w) rfl (by unfold eE kN;rw[if_neg d0,if_neg d1,if_neg d2,if_pos d3,if_neg (by exact fun t=>hl t.1)])
 ·obtain⟨c1,c2,c3,c4⟩:=hc.c4 d4
  obtain⟨l,hA,mg⟩:=hp.h
  have hst:bx (cw w) (cH s) (sf (κ w (cH s)) (cH s))=eE w s:=by unfold eE kN;rw[if_neg d0,if_neg d1,if_neg d2,if_neg d3,if_pos d4];rfl
  have ok4:∀(ep nu:Int) (c:List Int) (x:List L3),oI (gD (κ w (cH s))) ep nu c x->∀(b:Nat) (A':List (Sg×KB)),cF A' (l++[(b,newR (cH s:Int) 5 false ep nu c x)])->K (.φ []) (bR (bx (cw w) (cH s) (sf (κ w (cH s)) (cH s))) (q.set (cH s) (l.length,b)) A'):=fun ep nu c x hr b A' pA=>by
   obtain⟨i1,i2,i3,i4⟩:=abq c3 c4 c2 hr
   refine h _ hst _ _ ⟨_,pA,?_⟩
   rw[<- i1,<- i2,<- i3,<- i4]
   exact mg.add (by rw[hrl];exact ha4) b _
  have df:(w.dk.map bO)[0+(cH s:Int).toNat]? =some (bO (gD (κ w (cH s)))):=by rw[c9,cN,fy,c1];rfl
  have PD:∀ b:Nat,(q.map eB).set (0+(cH s:Int).toNat) [η (pv b)]=(q.set (cH s) (l.length,b)).map eB:=fun b=>by rw[c9,cN,List.map_set];rfl
  have Z6:∀ b (A':List (Sg×KB)),bR (bx (cw w) (cH s) (sf (κ w (cH s)) (cH s))) (q.set (cH s) (l.length,b)) A'=bR (cw w) (q.set (cH s) (l.length,b)) A':=fun b A'=>(Ej (W:=cw w) (by show(w.R.set _ _).length=w.R.length;rw[iG]) _ _).symm
  have ww:0+(cH s:Int).toNat<(q.map eB).length:=by rw[bT,mg.len,hrl];omega
  refine⟨by unfold br;omega,_,df,_,rfl,A,l,gD (κ w (cH s)),⟨.inr rfl⟩,hA,rfl,c3,c4,fun hn=>absurd ⟨_,_,_,_,c2⟩ hn,fun ep nu c x hr b A' pA=>?_⟩
  have k:=ok4 ep nu c x hr b A' pA
  rw[Z6]at k
  refine⟨fun t=>⟨fun _=>⟨hin,ww,?_⟩,fun t2=>(by cases t2)⟩,fun t=>⟨fun _=>⟨hin,ww,?_⟩,fun t2=>(by cases t2)⟩⟩
  ·rw[PD,<- t];exact k
  ·rw[PD,<- t];exact k
 ·exact⟨cw w,q,A,⟨rfl⟩,hp,s,(cH s:Int),rfl,hc.c5 d5,fun w' hw' q' A' p'=>h w' (by rw[hw'];unfold eE kN;rw[if_neg d0,if_neg d1,if_neg d2,if_neg d3,if_neg d4,if_pos d5]) q' A' p'⟩
 ·have vl:=hc.vl
  have vm:=hc.vm
  have p3:=kJ s.n (n:=3) (by omega)
  have x1:γ.wrap (γ.wrap (((w.vs.length - 0:Nat):Int) - 1) - bC s.n 3)=(w.vs.length:Int) - 1 - bC s.n 3:=by
   have:γ.wrap (((w.vs.length - 0:Nat):Int) - 1)=(w.vs.length:Int) - 1:=by rw[bE (by omega) (by omega)];omega
   rw[this,bE (by omega) (by omega)]
  rw[x1]
  obtain⟨tN,htN⟩:∃ tN,(max 0 ((w.vs.length:Int) - 1 - bC s.n 3)).toNat=tN:=⟨_,rfl⟩
  have x2:(if(w.vs.length:Int) - 1 - bC s.n 3 > 0 then(w.vs.length:Int) - 1 - bC s.n 3 else 0)=(tN:Int):=by split<;>omega
  rw[x2]
  have tl:tN<w.vs.length:=by omega
  have hv:(w.vs.map eY)[0+(tN:Int).toNat]? =some (eY (mY w s)):=by rw[c9,cN,fy,vf tl];unfold mY;rw[htN];rfl
  obtain⟨c1,c2,c3,c4⟩:=hc.c6 d6
  obtain⟨l,k,b,hq,hA,hl,dQ⟩:=hp.get (p8 (w:=w) (i:=cH s) (by omega))
  refine⟨hin,_,ox hq,_,rfl,trivial,trivial,trivial,⟨by omega,by omega⟩,⟨_,ox hq,_,rfl,rfl⟩,by unfold br;omega,_,hv,_,rfl,_,rfl,_,rfl,_,rfl,_,rfl,l,k,b,_,hA,hl,rfl,mY w s,rfl,c1,c2,c3,fun A2 p2=>⟨bx (cw w) (cH s) (dV (κ w (cH s)) (mY w s)),q,A2,⟨xt (W:=cw w) (by show(w.R.set _ _).length=w.R.length;rw[iG]) q A2⟩,dQ _ _ p2,cH s,rfl,c4,fun w' hw' q' A' p'=>h w' (by rw[hw'];unfold eE kN;rw[if_neg d0,if_neg d1,if_neg d2,if_neg d3,if_neg d4,if_neg d5,if_pos d6];rfl) q' A' p'⟩⟩
 ·refine⟨At.mk' (⟨⟨0,cw w,q,A⟩,bj _,rfl,hp⟩:{x:kA // Bc w x}) rfl,?_⟩
  rintro⟨⟨i,W,q1,A1⟩,hi,hW,P1⟩
  dsimp only at hi hW P1 ⊢
  subst hW
  refine⟨fun hlt=>?_,fun hge=>?_⟩
  ·have hlt:i<4:=by omega
   obtain⟨c1,c2,c3,c4,c5,c6⟩:=hc.c7 d7 i hlt
   obtain⟨l,k,b,hq,hA,hl,dQ⟩:=P1.get (p8 (w:=eO (cw w) i) (i:=i) (by omega))
   refine⟨by show br _ (eO (cw w) i).R.length;unfold br;omega,_,ox hq,_,rfl,l,k,b,_,hA,hl,rfl,⟨rfl⟩,c2,c3,by omega,c5,fun A2 p2=>⟨bx (eO (cw w) i) i (cO (κ (eO (cw w) i) i)),q1,A2,⟨xt (W:=eO (cw w) i) (by show((eO (cw w) i).R.set _ _).length=_;rw[iG]) q1 A2⟩,dQ _ _ p2,i,rfl,c6,fun w' hw' q' A' p'=>?_⟩⟩
   refine Nx.mk' (⟨⟨i+1,w',q',A'⟩,by show i+1<=4;omega,hw',p'⟩:{x:kA // Bc w x}) ?_ (by show 4 - (i+1)<4 - i;omega)
   rw[bE (by omega) (by omega)]
   rfl
  ·have hi:i=4:=by omega
   subst hi
   exact h _ (by unfold eE kN;rw[if_neg d0,if_neg d1,if_neg d2,if_neg d3,if_neg d4,if_neg d5,if_neg d6,if_pos d7]) q1 A1 P1
 ·exact K0 (cw w) rfl (by unfold eE kN;rw[if_neg d0,if_neg d1,if_neg d2,if_neg d3,if_neg d4,if_neg d5,if_neg d6,if_neg d7]))
structure Kp (R R2:ι):Prop where
 h:R2.ch=true∨(R2.ep=R.ep/\R2.nu=R.nu/\R2.c=R.c/\R2.t=R.t/\R2.ch=R.ch)
theorem Kp.same {R R2:ι} (h1:R2.ep=R.ep) (h2:R2.nu=R.nu) (h3:R2.c=R.c) (h4:R2.t=R.t) (h5:R2.ch=R.ch):Kp R R2:=⟨.inr ⟨h1,h2,h3,h4,h5⟩⟩
theorem Kp.refl (R:ι):Kp R R:=.same rfl rfl rfl rfl rfl
theorem PT {R R1:ι} (h:Kp R R1):Kp R (fq R1):=by
 unfold fq
 split
 ·split
  ·split
   ·exact⟨h.h⟩
   ·exact h
  ·exact h
 ·exact h
theorem aaH (R:ι) (fr:Int) (m:dL):Kp R (dI R fr m):=by
 have r:=Kp.refl R
 unfold dI
 split
 ·exact r
 ·split
  ·unfold iS
   split
   ·exact .same rfl rfl rfl rfl rfl
   ·split
    ·exact⟨.inl rfl⟩
    ·exact r
  ·split
   ·unfold iA
    split
    ·exact r
    ·split
     ·exact r
     ·split
      ·exact .same rfl rfl rfl rfl rfl
      ·exact PT (.same rfl rfl rfl rfl rfl)
   ·split
    ·unfold iR
     split
     ·exact .same rfl rfl rfl rfl rfl
     ·split
      ·exact⟨.inl rfl⟩
      ·exact .same rfl rfl rfl rfl rfl
    ·split
     ·unfold iw
      split
      ·exact r
      ·split
       ·exact r
       ·split
        ·exact PT (.same rfl rfl rfl rfl rfl)
        ·exact r
     ·unfold iy
      split
      ·exact r
      ·split
       ·exact .same rfl rfl rfl rfl rfl
       ·split
        ·exact .same rfl rfl rfl rfl rfl
        ·exact .same rfl rfl rfl rfl rfl
theorem agQ (R:ι):Kp R (cO R):=by
 unfold cO
 split
 ·exact .same rfl rfl rfl rfl rfl
 ·split
  ·exact .same rfl rfl rfl rfl rfl
  ·exact .same rfl rfl rfl rfl rfl
theorem aal {R:ι}:(fq R).ch=R.ch:=by
 unfold fq
 split
 ·split
  ·split<;>rfl
  ·rfl
 ·rfl
theorem af7 (R:ι) (o:Op):Kp R (dN R o).2:=by
 have r:=Kp.refl R
 unfold dN
 split
 ·exact r
 ·split
  ·exact r
  ·rename_i L hl
   split
   ·exact r
   ·split
    ·exact r
    ·split
     ·rename_i e R1 hk
      split at hk
      ·unfold lW at hk
       split at hk
       ·cases hk;exact .same rfl rfl rfl rfl rfl
       ·split at hk
        ·cases hk;exact r
        ·split at hk
         ·cases hk
         ·cases hk;exact r
      ·cases hk
     ·refine⟨.inl ?_⟩
      show(gC R L o).ch=true
      unfold gC
      dsimp only
      rw[th,aal];rfl
theorem aiZ (R:ι) (w:Vw):Kp R (dV R w):=by
 cases hg:dR R w with
 |false=>rw[vg hg];exact .refl R
 |true=>
  cases hl:fv R w with
  |false=>rw[xp hg hl];exact .same rfl rfl rfl rfl rfl
  |true=>
   rw[xq hg hl]
   by_cases he:R.ep=w.ve
   ·cases hc:R.ch with
    |true=>exact⟨.inl (by show(R.ch || _)=true;rw[hc];rfl)⟩
    |false=>exact .same he.symm rfl rfl rfl (by show(R.ch || (R.ep != w.ve))=R.ch;rw[hc,he];simp)
   ·exact⟨.inl (by show(R.ch || (R.ep != w.ve))=true;simp [he])⟩
structure RC (T:Int) (k:Nat) (R:ι):Prop where
 w:RW T R
 me:R.me=k
 out:R.out=[]
 done:R.done=[]
 ch:R.ch=false
structure LW (T:Int) (l:fQ):Prop where
 m:MW T l.m
 t0:0<=l.to
 t1:l.to<4
structure VW (T:Int) (v:Vw):Prop where
 len:((v.mem.length+v.aH.length:Nat):Int)<=T+2
 e0:0<=v.ve
 e1:v.ve<=T
 m0:v.mem≠[]
 rg:∀ x∈v.mem++v.aH,0<=x/\x<4
 nd:(v.mem++v.aH).Nodup
structure WI (T:Int) (w:Wd):Prop where
 rl:w.R.length=4
 dl:w.dk.length=4
 r:∀ i,i<4->RC T i (κ w i)
 dk:∀ i,i<4->w.dk[i]? =some (gD (κ w i))
 vs:∀ v∈w.vs,VW T v
 v0:0<w.vs.length
 vm:(w.vs.length:Int)<=T+1
 ψ:∀ l∈w.ψ,LW T l
 bl:w.ψ.length<=2500
 cs:∀ c∈w.cs,f_ c.o/\c.o.b.length<=2048
 cl:w.cs.length<=20
 n3:w.bt.length=3
 nb:∀ n∈w.bt,0<=n/\n<=T
 n0:0<=w.now
 n1:w.now<=T
theorem WI.mono {T T2:Int} {w:Wd} (h:WI T w) (hT:T<=T2):WI T2 w:=
 ⟨h.rl,h.dl,fun i hi=>⟨(h.r i hi).w.mono hT,(h.r i hi).me,(h.r i hi).out,(h.r i hi).done,(h.r i hi).ch⟩,h.dk,fun v hv=>⟨by have:=(h.vs v hv).len;omega,(h.vs v hv).e0,by have:=(h.vs v hv).e1;omega,(h.vs v hv).m0,(h.vs v hv).rg,(h.vs v hv).nd⟩,h.v0,by have:=h.vm;omega,fun l hl=>⟨⟨(h.ψ l hl).m.r,by have:=(h.ψ l hl).m.n1;omega,by have:=(h.ψ l hl).m.n2;omega⟩,(h.ψ l hl).t0,(h.ψ l hl).t1⟩,h.bl,h.cs,h.cl,h.n3,fun n hn=>by have:=h.nb n hn;omega,h.n0,by have:=h.n1;omega⟩
theorem l4 {w:Wd} {i:Nat} (R:ι) (hi:i<w.R.length):κ (bx w i R) i=R:=by
 unfold κ bx;rw[gO,iN hi];rfl
theorem qL {w:Wd} {i j:Nat} (R:ι) (h:i≠j):κ (bx w i R) j=κ w j:=by
 unfold κ bx;rw[gO,gO,gP h]
theorem Vh {T:Int} (i:Nat):∀(l:List Post) (w:Wd),(∀ p∈l,kS p.m/\bm p.m 1<=T/\bm p.m 2<=T)->(∀ x∈w.ψ,LW T x)->∀ x∈(dw w i l).ψ,LW T x
 | [],w,_,h=>h
 |p::l,w,hp,h=>Vh i l (ii i w p) (fun p' mP=>hp p' (gn _ mP)) (by
  unfold ii;split
  ·rename_i hc
   have hh:=hp p iV
   exact fun x hx=>mn (P:=LW T) h ⟨⟨hh.1,hh.2.1,hh.2.2⟩,hc.1,hc.2.1⟩ hx
  ·exact h)
theorem ag4 (l:List Dn):∀(w:Wd) (c:dy),c∈(l.foldl fT w).cs->∃ c0∈w.cs,c0.o=c.o:=by
 induction l with
 |nil=>exact fun w c hc=>⟨c,hc,rfl⟩
 |cons d l ih=>
  intro w c hc
  obtain⟨c1,h1,h2⟩:=ih (fT w d) c hc
  have h1:c1∈w.cs.map (gL w.now d):=h1
  obtain⟨c0,h3,h4⟩:=dO.1 h1
  refine⟨c0,h3,?_⟩
  rw[<- h2,<- h4]
  unfold gL;split<;>rfl
theorem xn:∀(l:List Dn) (w:Wd),(l.foldl fT w).dk=w.dk/\(l.foldl fT w).vs=w.vs/\(l.foldl fT w).ψ=w.ψ/\(l.foldl fT w).bt=w.bt/\(l.foldl fT w).now=w.now
 | [],w=>⟨rfl,rfl,rfl,rfl,rfl⟩
 |d::l,w=>xn l (fT w d)
theorem tJ {w w2:Wd} (h:w2.R=w.R) (i:Nat):κ w2 i=κ w i:=by unfold κ;rw[h]
theorem BA {T:Int} {w:Wd} (h:WI T w) {i:Nat} (hi:i<4) {R:ι} (hr:RW T R) (hT:T<=900) (me:R.me=i) (ol:R.out.length<=1000) (dl:R.done.length<=1000) (hk:Kp (κ w i) R):jD (bx w i R) i/\WI T (cf (bx w i R) i):=by
 have hir:i<w.R.length:=by rw[h.rl];exact hi
 have e1:κ (bx w i R) i=R:=l4 R hir
 have hle:jE R.ep:=⟨by have:=hr.e1;omega⟩
 have cz:=h.bl
 have hcl:=h.cl
 refine⟨⟨by show i<(w.R.set i R).length;rw[iG];exact hir,by show i<w.dk.length;rw[h.dl];exact hi,by rw[e1];exact hr.i,by rw[e1];exact hle,by rw[e1];exact ol,by rw[e1];exact dl,by rw[e1];exact fun p hp=>(hr.om p hp).1,by rw[e1];exact hr.dn,by show w.ψ.length<=_;omega,by show w.cs.length<=_;omega⟩,?_⟩
 obtain⟨s1,s2,s3,s4,s5,s6,s7,s8⟩:=nN i R.out (fS (bx w i R) i)
 have Ii:cf (bx w i R) i=R.done.foldl fT (dw (fS (bx w i R) i) i R.out):=by unfold cf;rw[e1]
 obtain⟨t1,t2⟩:=sy R.done (dw (fS (bx w i R) i) i R.out)
 obtain⟨u1,u2,u3,u4,u5⟩:=xn R.done (dw (fS (bx w i R) i) i R.out)
 rw[Ii]
 have eR:(R.done.foldl fT (dw (fS (bx w i R) i) i R.out)).R=(bx w i (iH R)).R:=by
  rw[t1,s1];show(w.R.set i R).set i (iH (κ (bx w i R) i))=w.R.set i (iH R);rw[e1,List.set_set]
 have eA:∀ j,κ (R.done.foldl fT (dw (fS (bx w i R) i) i R.out)) j=κ (bx w i (iH R)) j:=tJ eR
 have eD:(R.done.foldl fT (dw (fS (bx w i R) i) i R.out)).dk=if R.ch then w.dk.set i (gD R)else w.dk:=by
  rw[u1,s2];show(if(κ (bx w i R) i).ch then w.dk.set i (gD (κ (bx w i R) i))else w.dk)=_;rw[e1]
 refine⟨by rw[eR];show(w.R.set i _).length=4;rw[iG];exact h.rl,?_,fun j hj=>?_,fun j hj=>?_,?_,?_,?_,?_,?_,?_,?_,?_,?_,?_,?_⟩
 ·rw[eD];split
  ·rw[iG];exact h.dl
  ·exact h.dl
 ·rw[eA]
  by_cases e:i=j
  ·subst e;rw[l4 _ hir]
   exact⟨Zp hr R.ch,me,rfl,rfl,rfl⟩
  ·rw[qL _ e];exact h.r j hj
 ·rw[eA,eD]
  by_cases e:i=j
  ·subst e;rw[l4 _ hir]
   cases hc:R.ch with
   |true=>rw[if_pos rfl,iN (by rw[h.dl];exact hi)];rfl
   |false=>
    rw[if_neg Bool.false_ne_true,h.dk i hi]
    rcases hk.h with k | ⟨k1,k2,k3,k4,_⟩
    ·rw[hc]at k;cases k
    ·show some (jQ (κ w i).ep (κ w i).nu (κ w i).c (κ w i).t)=some (jQ R.ep R.nu R.c R.t)
     rw[k1,k2,k3,k4]
  ·rw[qL _ e]
   split
   ·rw[gP e];exact h.dk j hj
   ·exact h.dk j hj
 ·rw[u2,s3];exact h.vs
 ·rw[u2,s3];exact h.v0
 ·rw[u2,s3];exact h.vm
 ·rw[u3];exact Vh i R.out _ hr.om h.ψ
 ·rw[u3];have:(fS (bx w i R) i).ψ.length=w.ψ.length:=rfl;omega
 ·intro c hc
  obtain⟨c0,g1,g2⟩:=ag4 _ _ _ hc
  rw[s4]at g1
  rw[<- g2];exact h.cs c0 g1
 ·rw[t2,s4];exact h.cl
 ·rw[u4,s5];exact h.n3
 ·rw[u4,s5];exact h.nb
 ·rw[u5,s6];exact h.n0
 ·rw[u5,s6];exact h.n1
section
variable {T:Int} {w:Wd}
theorem wQ (h:WI T w):WI (T+1) (cw w):=by
 have:=h.mono (by omega:T<=T+1)
 exact⟨this.rl,this.dl,this.r,this.dk,this.vs,this.v0,this.vm,this.ψ,this.bl,this.cs,this.cl,this.n3,this.nb,by have:=h.n0;show 0<=w.now+1;omega,by have:=h.n1;show w.now+1<=_;omega⟩
theorem Ko (h:WI T w) (k:Nat):WI T (fw w k):=⟨h.rl,h.dl,h.r,h.dk,h.vs,h.v0,h.vm,fun l hl=>h.ψ l (List.mem_of_mem_eraseIdx hl),by have:=h.bl;have:=List.length_eraseIdx_le w.ψ k;show(w.ψ.eraseIdx k).length<=_;omega,h.cs,h.cl,h.n3,h.nb,h.n0,h.n1⟩
theorem sU {k:Nat} (hk:k<w.ψ.length):fH w k∈w.ψ:=fF (Gg hk)
theorem Z0 (h:WI T w) {k:Nat} (hk:k<w.ψ.length) (h5:w.ψ.length<500):WI T (yq w k):=⟨h.rl,h.dl,h.r,h.dk,h.vs,h.v0,h.vm,fun l hl=>mn (P:=LW T) h.ψ (h.ψ _ (sU hk)) hl,by show(w.ψ++[_]).length<=_;rw[bn,gZ];omega,h.cs,h.cl,h.n3,h.nb,h.n0,h.n1⟩
theorem ae5 (h:WI T w) {a:Nat} (ha:a<4):WI T (bx w a (sf (κ w a) a)):=by
 have tj:a<w.R.length:=by rw[h.rl];exact ha
 have hr:=(h.r a ha).w
 refine⟨by show(w.R.set a _).length=4;rw[iG];exact h.rl,h.dl,fun j hj=>?_,fun j hj=>?_,h.vs,h.v0,h.vm,h.ψ,h.bl,h.cs,h.cl,h.n3,h.nb,h.n0,h.n1⟩
 ·by_cases e:a=j
  ·subst e
   rw[l4 _ tj]
   have h0:=hr.t0
   have h1:=hr.t1
   refine⟨⟨C7 _ _ _ _ hr.i.ok.n0 hr.i.ok.n1 hr.i.ok.cl hr.i.ok.cb hr.i.tx,rfl,hr.e0,hr.e1,hr.n1,bj _,dE _,by show(0:Int)<=T;omega,fun p hp=>(by cases hp),fun d hd=>(by cases hd),fun o ho=>by simp [sf,newR,ci]at ho⟩,rfl,rfl,rfl,rfl⟩
  ·rw[qL _ e];exact h.r j hj
 ·by_cases e:a=j
  ·subst e;rw[l4 _ tj];exact h.dk a ha
  ·rw[qL _ e];exact h.dk j hj
theorem uN (h:WI T w):bJ w∈w.vs:=fF (vf (by have:=h.v0;omega))
theorem tE {l:List Int} {v x:Int}:x∈ia l v ↔ x∈l/\x≠v:=by unfold ia;rw[lu,bne_iff_ne]
theorem JI {l:List Int} (h:l.Nodup) (v:Int):(ia l v).Nodup:=h.filter _
theorem JE {v:Vw} (h:VW T v) (ch:Int) {id:Int} (hid:0<=id/\id<4):VW (T+1) (lY v ch id)/\((lY v ch id).ve=v.ve∨(lY v ch id).ve=v.ve+1):=by
 have same:VW (T+1) v:=⟨by have:=h.len;omega,h.e0,by have:=h.e1;omega,h.m0,h.rg,h.nd⟩
 have hnd:=List.nodup_append.1 h.nd
 have l1:=JH v.mem id
 have l2:=JH v.aH id
 have hl:=h.len
 have e0:=h.e0
 have e1:=h.e1
 unfold lY
 split
 ·split
  ·exact⟨same,.inl rfl⟩
  ·rename_i hn
   refine⟨⟨by dsimp only;omega,by dsimp only;omega,by dsimp only;omega,?_,?_,?_⟩,.inr rfl⟩
   ·dsimp only
    intro he
    have hm:∀ x∈v.mem,x=id:=fun x hx=>by
     by_cases e:x=id
     ·exact e
     ·have:x∈ia v.mem id:=tE.2 ⟨hx,e⟩
      rw[he]at this;cases this
    cases hv:v.mem with
    |nil=>exact h.m0 hv
    |cons a r=>
     have ha:=hm a (by rw[hv];exact iV)
     cases r with
     |nil=>exact hn (.inr ⟨by rw[hv,ha];exact iV,by rw[hv];rfl⟩)
     |cons b r=>
      have hb:=hm b (by rw[hv];exact gn _ iV)
      have:=hnd.1
      rw[hv]at this
      exact(List.nodup_cons.1 this).1 (by rw[ha,<- hb];exact iV)
   ·intro x hx
    refine h.rg x ?_
    rcases dz.1 hx with hx | hx
    ·exact gQ _ (tE.1 hx).1
    ·exact kQ _ (tE.1 hx).1
   ·exact List.nodup_append.2 ⟨JI hnd.1 _,JI hnd.2.1 _,fun a ha b hb=>hnd.2.2 a (tE.1 ha).1 b (tE.1 hb).1⟩
 ·split
  ·split
   ·exact⟨same,.inl rfl⟩
   ·rename_i hn
    refine⟨⟨by dsimp only;rw[bn,gZ];omega,by dsimp only;omega,by dsimp only;omega,h.m0,fun x hx=>?_,?_⟩,.inr rfl⟩
    ·dsimp only at hx
     rw[<- dX]at hx
     exact mn (P:=fun x=>0<=x/\x<4) h.rg hid hx
    ·dsimp only
     rw[<- dX]
     refine List.nodup_append.2 ⟨h.nd,by simp,fun a ha b hb=>?_⟩
     rw[da]at hb;subst hb
     intro e;subst e
     exact hn (dz.1 ha)
  ·split
   ·split
    ·exact⟨same,.inl rfl⟩
    ·rename_i hn
     have hn:id∈v.aH:=by simpa using hn
     refine⟨⟨by dsimp only;rw[bn,gZ];omega,by dsimp only;omega,by dsimp only;omega,by simp,fun x hx=>?_,?_⟩,.inr rfl⟩
     ·dsimp only at hx
      rcases dz.1 hx with hx | hx
      ·rcases dz.1 hx with hx | hx
       ·exact h.rg x (gQ _ hx)
       ·rw[da]at hx;subst hx;exact hid
      ·exact h.rg x (kQ _ (tE.1 hx).1)
     ·dsimp only
      refine List.nodup_append.2 ⟨List.nodup_append.2 ⟨hnd.1,by simp,fun a ha b hb=>?_⟩,JI hnd.2.1 _,fun a ha b hb=>?_⟩
      ·rw[da]at hb;subst hb
       exact hnd.2.2 a ha _ hn
      ·have hb:=tE.1 hb
       rcases dz.1 ha with ha | ha
       ·exact hnd.2.2 a ha b hb.1
       ·rw[da]at ha;subst ha
        exact fun e=>hb.2 e.symm
   ·exact⟨same,.inl rfl⟩
theorem ag8 (h:WI T w) (s:Sp) {a:Int} (ha:0<=a/\a<4):WI (T+1) (oD w s a):=by
 have h1:=h.mono (by omega:T<=T+1)
 unfold oD
 split
 ·exact h1
 ·split
  ·exact⟨h1.rl,h1.dl,h1.r,h1.dk,fun v hv=>mn (P:=VW (T+1)) h1.vs (JE (h.vs _ (uN h)) _ ha).1 hv,by show 0<(w.vs++[_]).length;rw[bn];simp,by have:=h.vm;show(((w.vs++[_]).length:Nat):Int)<=_;rw[bn,gZ];omega,h1.ψ,h1.bl,h1.cs,h1.cl,h1.n3,h1.nb,h1.n0,h1.n1⟩
  ·exact h1
theorem JD (h:WI T w) (s:Sp) (h12:w.cs.length<12):WI (T+1) (lX w s):=by
 have h1:=h.mono (by omega:T<=T+1)
 have hb:=JC w s
 have pc:=kJ s.n (n:=2) (by omega)
 have cn:(bP s).toNat<w.bt.length:=by rw[h.n3];unfold bP;omega
 have hm:=h.nb _ (B6 cn)
 refine⟨h1.rl,h1.dl,h1.r,h1.dk,h1.vs,h1.v0,h1.vm,h1.ψ,h1.bl,fun c hc=>?_,by show(w.cs++[_]).length<=_;rw[bn,gZ];omega,by show(w.bt.set _ _).length=3;rw[iG];exact h.n3,fun n hn=>?_,h1.n0,h1.n1⟩
 ·refine mn (P:=fun c:dy=>f_ c.o/\c.o.b.length<=2048) h.cs ⟨⟨hb.1,by have:=hb.2;show(gv w s).b.length<=_;omega⟩,?_⟩ hc
  show(gv w s).b.length<=_
  unfold gv;dsimp only;split
  ·rw[Eg];omega
  ·exact bj _
 ·have hn:n∈w.bt.set (bP s).toNat (kI w (bP s)+1):=hn
  rcases List.mem_or_eq_of_mem_set hn with hn | hn
  ·exact h1.nb n hn
  ·have:kI w (bP s)=w.bt.getD (bP s).toNat 0:=rfl
   rw[hn,this];omega
theorem qZ {α:Type} {l:List α} (h:l=[]):l.length=0:=by rw[h];rfl
theorem zB (h:WI T w) (hT:T<800) {a:Nat} (ha:a<4) {o:Op} (ho:f_ o) (hb:o.b.length<=2048):jD (tf w o a) a/\WI (T+1) (lG w o a):=by
 have hr:=h.r a ha
 have z1:=qZ hr.out
 have z2:=qZ hr.done
 have fK:=uX hr.w
 have hw:=agb hr.w (by omega) (by omega) (by omega) ho hb
 have hs:=VG hr.w.i ho (by have:=hr.w.n1;omega) (by omega) (by omega)
 have so:=hs.o
 have sd:=hs.d
 exact BA (h.mono (by omega)) ha hw (by omega) (hs.me.trans hr.me) (by omega) (by omega) (af7 _ _)
theorem VD (h:WI T w) (hT:T<790) (s:Sp):AZ w s (cH s)/\WI (T+2) (lH w s (cH s)):=by
 have pa:=kJ s.dj (n:=4) (by omega)
 have ha:cH s<4:=by unfold cH;omega
 have hr:=h.r _ ha
 have z1:=qZ hr.out
 have fK:=uX hr.w
 have rG:∀ c,uj w (bP s)=some c->c∈w.cs:=fun c hc=>(lu.1 (List.mem_of_getLast? hc)).1
 have hcl:=h.cl
 have hB:w.cs.length<12->jD (tf (lX w s) (gv w s) (cH s)) (cH s)/\WI (T+2) (lG (lX w s) (gv w s) (cH s)):=fun h12=>by
  have hn:=JD h s h12
  have hb:=JC w s
  have hm:(⟨gv w s,qH w s,w.now,-1⟩:dy)∈(lX w s).cs:=kQ _ (da.2 rfl)
  have:=zB hn (by omega) ha (hn.cs _ hm).1 (hn.cs _ hm).2
  rw[show T+1+1=T+2 by omega]at this
  exact this
 refine⟨⟨by rw[h.rl];exact ha,by rw[h.dl];exact ha,hr.w.i,by omega,by omega,fun c hc=>⟨(h.cs c hc).1.b,by have:=(h.cs c hc).2;omega⟩,h.n3,fun n hn=>by have:=h.nb n hn;omega,fun c hc=>(zB h (by omega) ha (h.cs c (rG c hc)).1 (h.cs c (rG c hc)).2).1,fun h12=>(hB h12).1⟩,?_⟩
 unfold lH
 split
 ·split
  ·rename_i c hc
   exact(zB h (by omega) ha (h.cs c (rG c hc)).1 (h.cs c (rG c hc)).2).2.mono (by omega)
  ·exact h.mono (by omega)
 ·split
  ·exact h.mono (by omega)
  ·exact(hB (by omega)).2
theorem yk (h:WI T w) (hT:T<800) {k:Nat} (hk:k<w.ψ.length):vA w k/\WI T (lB w k):=by
 have hl:=h.ψ _ (sU hk)
 have t0:=hl.t0
 have t1:=hl.t1
 have hto:(fH w k).to.toNat<4:=by omega
 have hr:=h.r _ hto
 have z1:=qZ hr.out
 have z2:=qZ hr.done
 have hw:=aaL hr.w (by omega) (by omega) (by omega) (fH w k).fr hl.m
 have hs:=aaG hr.w.i (by omega) (by omega) (fH w k).fr hl.m.ok
 have so:=hs.o
 have sd:=hs.d
 have:=BA (Ko h k) hto hw (by omega) (hs.me.trans hr.me) (by omega) (by omega) (aaH _ _ _)
 exact⟨⟨hk,by have:=h.bl;omega,t0,by rw[h.rl];exact t1,hl.m.r,hl.m.ok,hr.w.i,this.1⟩,this.2⟩
theorem zK (h:WI T w) (hT:T<800) {a:Nat} (ha:a<4) {v:Vw} (hv:v∈w.vs):bB (κ w a)/\v.mem.length+v.aH.length<=1000/\(κ w a).out.length+(bA (κ w a).me v.mem v.aH).length<=100000/\jD (bx w a (dV (κ w a) v)) a/\WI T (qT w a v):=by
 have hr:=h.r a ha
 have lT:=h.vs v hv
 have hl:=lT.len
 have z1:=qZ hr.out
 have z2:=qZ hr.done
 have ho:(bA (κ w a).me v.mem v.aH).length<=1000:=by
  have h1:(bA (κ w a).me v.mem v.aH).length<=(v.mem++v.aH).length:=List.length_filter_le ..
  rw[bn]at h1;omega
 have hw:=ai3 hr.w (by omega) (by omega) (by omega) (w:=v) (by omega) lT.e1
 have hs:=WU (w:=v) hr.w.i (by omega) (by omega) (by omega)
 have so:=hs.o
 have sd:=hs.d
 have:=BA h ha hw (by omega) (hs.me.trans hr.me) (by omega) (by omega) (aiZ _ _)
 exact⟨hr.w.i,by omega,by omega,this.1,this.2⟩
theorem uo (w:Wd) {i j:Nat} (R:ι) (h:i≠j) (hi:i<w.R.length):κ (cf (bx w i R) i) j=κ w j:=by
 have e1:κ (bx w i R) i=R:=l4 R hi
 have e2:(cf (bx w i R) i).R=(bx w i (iH R)).R:=by
  unfold cf
  rw[e1,(sy _ _).1,(nN i _ _).1]
  show(w.R.set i R).set i (iH (κ (bx w i R) i))=w.R.set i (iH R)
  rw[e1,List.set_set]
 rw[tJ e2,qL _ h]
theorem vc (h:WI T w) (hT:T<800):∀ i,i<=4->WI (T+1) (eO w i)/\(∀ j,i<=j->j<4->κ (eO w i) j=κ w j)/\(∀ k,k<i->jD (bx (eO w k) k (cO (κ (eO w k) k))) k)
 | 0,_=>⟨h.mono (by omega),fun j _ _=>rfl,fun k hk=>by omega⟩
 |i+1,hi=>by
  obtain⟨h1,h2,h3⟩:=vc h hT i (by omega)
  have hr:=h.r i (by omega)
  have e:=h2 i (ar _) (by omega)
  have z1:=qZ hr.out
  have z2:=qZ hr.done
  have fK:=uX hr.w
  have hw:=agV hr.w (by omega) (by omega)
  have hs:=agP hr.w.i (by omega)
  have c:(cO (κ w i)).me=(κ w i).me/\(cO (κ w i)).done=(κ w i).done:=by
   unfold cO
   split
   ·exact⟨rfl,rfl⟩
   ·split<;>exact⟨rfl,rfl⟩
  have so:=hs.2
  have:=BA h1 (i:=i) (by omega) (R:=cO (κ w i)) hw (by omega) (c.1.trans hr.me) (by omega) (by rw[c.2];omega) (by rw[e];exact agQ _)
  have et:eO w (i+1)=cf (bx (eO w i) i (cO (κ w i))) i:=by
   show pm (eO w i) i=_
   unfold pm;rw[e]
  rw[et]
  refine⟨this.2,fun j hj hj4=>?_,fun k hk=>?_⟩
  ·rw[uo _ _ (by omega) (by rw[h1.rl];omega)]
   exact h2 j (by omega) hj4
  ·by_cases ek:k=i
   ·subst ek;rw[e];exact this.1
   ·exact h3 k (by omega)
theorem sn (h:WI T w) (hT:T<700) (s:Sp):xN w s/\WI (T+3) (eE w s):=by
 have hn:=wQ h
 have pa:=kJ s.dj (n:=4) (by omega)
 have ha:cH s<4:=by unfold cH;omega
 have hN:∀ j,κ (cw w) j=κ w j:=fun j=>rfl
 have p3:=kJ s.n (n:=3) (by omega)
 have v0:=h.v0
 have Cq:mY w s∈w.vs:=fF (vf (by omega))
 have hpk:0<w.ψ.length->iK w s<(cw w).ψ.length:=fun hl=>by
  have:=kJ s.n (n:=(w.ψ.length:Int)) (by omega)
  show(bC s.n w.ψ.length).toNat<w.ψ.length
  omega
 have kV:=uN hn
 have hlv:=hn.vs _ kV
 obtain⟨x0,hx0⟩:∃ x,(bJ w).mem[0]? =some x:=by
  cases hm:(bJ w).mem with
  |nil=>exact absurd hm hlv.m0
  |cons a r=>exact⟨a,rfl⟩
 have wu:fb (bJ w)=x0:=by unfold fb;rw[gO,hx0];rfl
 have Cl:=hlv.rg x0 (gQ _ (fF hx0))
 have hlen:=hlv.len
 refine⟨⟨h.rl,h.dl,h.n0,by have:=h.n1;omega,by have:=h.bl;omega,h.v0,by have:=h.vm;omega,fun _=>(VD hn (by omega) s).1,fun _ hl=>(yk hn (by omega) (hpk hl)).1,fun _=>?_,fun _=>?_,fun _=>?_,fun _ i hi=>?_⟩,?_⟩
 ·have hr:=(h.r _ ha).w
  refine⟨h.dk _ ha,⟨rfl,hr.e0,by have:=hr.e1;omega,hr.i.ok.n0,by have:=hr.n1;omega,hr.i.ok.cl,hr.i.tx⟩,afg (by have:=hr.e1;omega) (by have:=hr.n1;omega) hr.i.ok.cl hr.i.ok.cb hr.i.tx,?_⟩
  have:=afh (κ w (cH s)).ep (κ w (cH s)).nu hr.i.ok.cl hr.i.tx.len
  exact mc this (by omega)
 ·have Cf:(bJ (cw w)).mem.length+(bJ (cw w)).aH.length<=1000:=by omega
  refine⟨v0,by have:=h.vm;show w.vs.length<=_;omega,by omega,by omega,?_,by show 0<=fb (bJ w);rw[wu];omega,by show fb (bJ w)<((w.R.length:Nat):Int);rw[wu,h.rl];omega,?_,hlv.e0,by have:=hlv.e1;omega⟩
  ·rcases Nat.eq_zero_or_pos (bJ (cw w)).mem.length with e | e
   ·exact absurd (List.length_eq_zero_iff.1 e) hlv.m0
   ·exact e
  ·refine(h.r (fb (bJ w)).toNat ?_).w.i
   rw[wu];omega
 ·obtain⟨c1,c2,c3,c4,_⟩:=zK hn (by omega) ha (v:=mY w s) Cq
  exact⟨c1,c2,c3,c4⟩
 ·obtain⟨h1,h2,_⟩:=vc hn (by omega) i (by omega)
  have h4:=(vc hn (by omega) 4 (ar _)).2.2 i hi
  have hr:=hn.r i hi
  have e:=h2 i (ar _) hi
  have z1:=qZ hr.out
  have fK:=uX hr.w
  rw[e]at h4 ⊢
  exact⟨h1.rl,hr.w.i,hr.w.t0,by have:=hr.w.t1;omega,by omega,h4⟩
 ·unfold eE kN
  repeat' split
  ·exact(VD hn (by omega) s).2.mono (by omega)
  ·rename_i hl;exact(yk hn (by omega) (hpk hl)).2.mono (by omega)
  ·exact hn.mono (by omega)
  ·exact(Ko hn _).mono (by omega)
  ·exact hn.mono (by omega)
  ·rename_i hl;exact(Z0 hn (hpk hl.1) hl.2).mono (by omega)
  ·exact hn.mono (by omega)
  ·exact(ae5 hn ha).mono (by omega)
  ·exact(ag8 hn s (by omega)).mono (by omega)
  ·exact(zK hn (by omega) ha (v:=mY w s) Cq).2.2.2.2.mono (by omega)
  ·exact(vc hn (by omega) 4 (ar _)).1.mono (by omega)
  ·exact hn.mono (by omega)
end
end Go.Proofs.YtfcjngcnifdmnaaGreat
