/- The law 'ChunkKeeps' of a chunk at a server returns true at every input, and what came in reads as it did. No condition. -/
import Derived.Test.YtfcjngcnifdmnaaGreatRows
import Derived.ProofKit
import Derived.OpenShut
import Derived.Below
import Derived.Carry
import Derived.Test.YtfcjngcnifdmnaaGreatQg
namespace Go.Proofs.YtfcjngcnifdmnaaGreat.chunkKeepsAt
open Go.ChangeShapes Go.WideShapes Go.ChangeAt Go.RowKit Vc
open Go.IntKind renaming i64->Z,u8->θ,u32->gq
open Vc.V renaming any->γ,int->δ,sl->ε,sb->ξ,ptr->ac,dat->an,υ->ar,ae->aG,mp->aV,arr->bc,agg->cF
open Vc.KO renaming row->ζ,dead->ο,cells->ω,objs->bE
open Vc.D renaming val->η,sl->π
open List renaming map->ι,drop->ν,take->ah,length_append->bw,getElem?_eq_getElem->bx,getElem?_eq_some_iff->bU,length_map->cg,Mem->ct,take_length->cN,replicate->cQ,length_take->cW,append_assoc->dQ,getElem?_append_right->ef,getElem?_append_left->eH,mem_cons->eP,append_nil->fg,length_drop->fh,getElem?_map->fG,mem_map->fH,take_of_length_le->fI,getElem?_set_ne->fR,mem_cons_of_mem->fS,mem_append->gl,mem_of_getElem?->gm,getElem?_eq_none->gA,getElem?_set_self->gB,length_set->gC,range->gD,drop_zero->gK,mem_singleton->gY,flatten_cons->im,length_cons->io,mem_cons_self->iA,getElem?_take_of_lt->jj,length_nil->jk,nil_append->jm,getElem?_drop->jB,map_append->jC,take_add_one->jY,ext_getElem?->km,getD_eq_getElem?_getD->kn,length_singleton->ko,eq_nil_of_length_eq_zero->kG,mem_append_left->lR,mem_filter->lS
open Go.Value renaming int->κ,slice->eI,bool->fa,map->gr,oneCell'->kq
open Nat renaming le_refl->aE,zero_le->bF,beq->bZ,eq_of_beq_eq_true->cy,zero_add->cL,add_assoc->fT,lor->gE,lt_or_ge->iX,sub_zero->kp
open Option renaming some->bh,bind_eq_some_iff->jF,map->jZ
open Int renaming toNat_natCast->dr,le_refl->gp
open Bool renaming and_eq_true->kE
set_option linter.unusedVariables false
set_option linter.unusedSimpArgs false
set_option maxRecDepth 100000
theorem own:ownKnob Tryz.prog.godebug=none:=by kernel_rfl
theorem laidOut:laidOutB Tryz.prog=true:=by kernel_rfl
theorem lifted (os:Os) (started:os.Started) (H:Type) (enc:TypeId×Value->H):
  ReturnsInHanded {} Tryz.checked os 3 .any (Rows.chunkKeepsSpec.pre6 enc Tryz.prog Tryz.f3 Rows.chunkKeepsRow.domain false) (Rows.chunkKeepsSpec.post enc Tryz.prog Tryz.f3 false true false false):=by
 refine returnsInHanded_of_change (C:=Tryz.checked) own started (by kernel_rfl) Tryz.func3
  (ChangeSpec.witness6 (enc:=enc) (C:=Tryz.checked) false ⟨#[],#[.slice none 0 0,.slice none 0 0],[]⟩ 8 (by kernel_rfl) (by kernel_rfl) (by kernel_rfl) (by kernel_rfl)) ?_
 intro W base args ds gs before Mg hW LC _
 have hval:∀(j:Nat) t v,Tryz.f3.params[j]? =some t->args[j]? =some v->Value.okWide Tryz.prog W .any base t v:=Mg
 have yE:=hW
 obtain⟨p,q,Lf,hV,rfl,hfz,hnd⟩:=hW
 have hA:DataW.TrodAll enc Tryz.prog W 0 (fun _=>true) true Tryz.f3.params.toList args.toList ds p:=Lf
 rw[Tryz.params3]at hA hval
 obtain⟨v0,vs0,d0,ds0,p0,q0,hargs,rfl,rfl,h0,r0⟩:=trodAll_cons hA
 obtain⟨v1,vs1,d1,ds1,p1,q1,rfl,rfl,rfl,h1,r1⟩:=trodAll_cons r0
 obtain⟨rfl,rfl,rfl⟩:=trodAll_nil r1
 obtain rfl:args=#[v0,v1]:=by cases args;simp_all
 obtain⟨rfl,rfl⟩:=trodVars_none hV
 have k0:=h0
 have Wh:∀ x∈p0,x.block<W.heap.size:=by obtain⟨m,hm⟩:=k0;exact DataW.trod_lt m _ _ _ hm
 have k1:=h1
 have Wi:∀ x∈p1,x.block<W.heap.size:=by obtain⟨m,hm⟩:=k1;exact DataW.trod_lt m _ _ _ hm
 obtain⟨l,e0,m0,c0⟩:=Oj (P:=Tryz.prog) (t:=22) (es:=[.int Z,.int Z,.int Z,.int Z,.bool]) (by kernel_rfl) (N3 (P:=Tryz.prog) (t:=22) (by kernel_rfl) (hval 0 22 v0 rfl rfl)) h0
 obtain⟨l,rfl,w_l⟩:=J6 (f:=lK) (Q:=fun _=>True) (fun _ h=>S8 h) c0
 have m_l:l.length<=maxLen:=by simpa [be]using m0
 obtain⟨b,e1,m1,c1⟩:=Oj (P:=Tryz.prog) (t:=23) (es:=[.int θ]) (by kernel_rfl) (N3 (P:=Tryz.prog) (t:=23) (by kernel_rfl) (hval 1 23 v1 rfl rfl)) h1
 obtain⟨b,rfl,w_b⟩:=S7 c1
 have m_b:b.length<=maxLen:=by simpa [be]using m1
 clear Lf Mg
 refine(V0 (RQ _ _) (f:=3) (args:=[.dat (.sl 5 (ι lK l)),.dat (.sl 1 (ints θ b))]) (VZ l b (fun n hn=>by have:=bounds_u8 (w_b n hn);omega)) (W:=W) (Km e0 (Km e1 (by simp only[aw])))).mono fun e W' ⟨he,Cu⟩=>?_
 subst he
 exact⟨_,rfl,_,_,_,[],_,[],yE,trodAll_mk1 (shut_bool (P:=Tryz.prog) (t:=4) (by kernel_rfl) _),(trodAll_cons_mk (Below.trod laidOut (by kernel_rfl) (of_decide_eq_true (by kernel_rfl)) k0 Cu Wh) (trodAll_cons_mk (Below.trod laidOut (by kernel_rfl) (of_decide_eq_true (by kernel_rfl)) k1 Cu Wi) trodAll_mk0)),rfl,Cu.frame _,fun h=>by cases h⟩
theorem proved:Rows.ChunkKeepsSaid:=
 OpenClaim.holds_of_wide 3 Tryz.f3 rfl rfl rfl rfl rfl rfl rfl ⟨rfl,rfl,rfl,rfl,rfl⟩ rfl rfl rfl rfl rfl (by kernel_rfl) Tryz.func3 (by kernel_rfl)
  (of_decide_eq_true (by kernel_rfl)) (by unfold Func.isWrapper;first | (rw[if_pos (by decide+kernel)];kernel_rfl) | (rw[if_neg (by decide+kernel)];exact⟨rfl,rfl⟩))
  (fun os started H enc _=>lifted os started H enc)
#print axioms proved
end Go.Proofs.YtfcjngcnifdmnaaGreat.chunkKeepsAt
