/- The law 'ChunkOne' of a chunk at a server returns true at every input, and what came in reads as it did. No condition. -/
import Derived.Test.YtfcjngcnifdmnaaGreatRows
import Derived.ProofKit
import Derived.OpenShut
import Derived.Below
import Derived.Carry
import Derived.Test.YtfcjngcnifdmnaaGreatQh
namespace Go.Proofs.YtfcjngcnifdmnaaGreat.chunkOneAt
open Go.ChangeShapes Go.WideShapes Go.ChangeAt Go.RowKit Vc
open Go.IntKind renaming i64->Z,u8->ι,u32->ic
open Vc.V renaming any->γ,sl->δ,int->ε,sb->θ,ptr->aj,υ->aw,dat->aD,aa->aP,mp->aX,arr->bB,agg->fF
open Vc.D renaming val->ζ,sl->ψ
open Go.Value renaming int->ν,map->kq,oneCell'->lU,bool->nE
open Vc.KO renaming row->ξ,dead->χ,cells->ar,objs->cD
open List renaming map->φ,drop->ay,take->az,length_append->bn,getElem?_eq_getElem->bp,getElem?_eq_some_iff->bG,length_map->bX,take_length->cM,length_take->cQ,replicate->dq,mem_append->dM,append_assoc->dO,getElem?_append_left->dP,mem_singleton->dQ,Mem->dS,mem_cons->ey,mem_map->eL,take_of_length_le->eM,getElem?_append_right->eW,mem_of_getElem?->fi,append_nil->fD,getElem?_map->fE,mem_cons_of_mem->fM,length_drop->fQ,getElem?_set_ne->gr,getD_eq_getElem?_getD->gD,getElem?_eq_none->gO,drop_zero->g_,getElem?_take_of_lt->hU,getElem?_set_self->ig,length_singleton->ii,length_set->ir,mem_cons_self->iu,range->iw,mem_append_left->iL,length_cons->iZ,take_add_one->i_,flatten_cons->jm,getElem?_drop->jw,getElem?_of_mem->jx,map_append->jy,nil_append->jV,length_nil->kn,mem_filter->kM,ext_getElem?->lw,eq_nil_of_length_eq_zero->ma,map_cons->mb,mem_append_right->mc
open Nat renaming le_refl->av,zero_le->bt,beq->cp,eq_of_beq_eq_true->cU,zero_add->c9,add_assoc->gE,lor->iy,lt_or_ge->jX,sub_zero->lT,le_trans->mf
open Option renaming some->bb,bind_eq_some_iff->kP,map->mO
open Int renaming toNat_natCast->cP,le_refl->fa
open Bool renaming and_eq_true->km,not_eq_false'->lm,not_eq_true'->lR
set_option linter.unusedVariables false
set_option linter.unusedSimpArgs false
set_option maxRecDepth 100000
theorem own:ownKnob Tryz.prog.godebug=none:=by kernel_rfl
theorem laidOut:laidOutB Tryz.prog=true:=by kernel_rfl
theorem lifted (os:Os) (started:os.Started) (H:Type) (enc:TypeId×Value->H):
  ReturnsInHanded {} Tryz.checked os 5 .any (Rows.chunkOneSpec.pre6 enc Tryz.prog Tryz.f5 Rows.chunkOneRow.domain false) (Rows.chunkOneSpec.post enc Tryz.prog Tryz.f5 false true false false):=by
 refine returnsInHanded_of_change (C:=Tryz.checked) own started (by kernel_rfl) Tryz.func5
  (ChangeSpec.witness6 (enc:=enc) (C:=Tryz.checked) false ⟨#[],#[.slice none 0 0],[]⟩ 8 (by kernel_rfl) (by kernel_rfl) (by kernel_rfl) (by kernel_rfl)) ?_
 intro W base args ds gs before PC hW OY _
 have hval:∀(j:Nat) t v,Tryz.f5.params[j]? =some t->args[j]? =some v->Value.okWide Tryz.prog W .any base t v:=PC
 have Bd:=hW
 obtain⟨p,q,OE,hV,rfl,hfz,hnd⟩:=hW
 have hA:DataW.TrodAll enc Tryz.prog W 0 (fun _=>true) true Tryz.f5.params.toList args.toList ds p:=OE
 rw[Tryz.params5]at hA hval
 obtain⟨v0,vs0,d0,ds0,p0,q0,hargs,rfl,rfl,h0,r0⟩:=trodAll_cons hA
 obtain⟨rfl,rfl,rfl⟩:=trodAll_nil r0
 obtain rfl:args=#[v0]:=by cases args;simp_all
 obtain⟨rfl,rfl⟩:=trodVars_none hV
 have k0:=h0
 have lt0:∀ x∈p0,x.block<W.heap.size:=by obtain⟨m,hm⟩:=k0;exact DataW.trod_lt m _ _ _ hm
 obtain⟨l,e0,m0,c0⟩:=adg (P:=Tryz.prog) (t:=22) (es:=[.int Z,.int Z,.int Z,.int Z,.bool]) (by kernel_rfl) (acQ (P:=Tryz.prog) (t:=22) (by kernel_rfl) (hval 0 22 v0 rfl rfl)) h0
 obtain⟨l,rfl,w_l⟩:=Nn (f:=nX) (Q:=fun _=>True) (fun _ h=>Xi h) c0
 have m_l:l.length<=maxLen:=by simpa [bi]using m0
 clear OE PC
 refine(aas (VL _) (f:=5) (args:=[.dat (.sl 5 (φ nX l))]) (aar l) (W:=W) (Xy e0 (by simp only[aq]))).mono fun e W' ⟨he,MJ⟩=>?_
 subst he
 exact⟨_,rfl,_,_,_,[],_,[],Bd,trodAll_mk1 (shut_bool (P:=Tryz.prog) (t:=4) (by kernel_rfl) _),(trodAll_cons_mk (Below.trod laidOut (by kernel_rfl) (of_decide_eq_true (by kernel_rfl)) k0 MJ lt0) trodAll_mk0),rfl,MJ.frame _,fun h=>by cases h⟩
theorem proved:Rows.ChunkOneSaid:=
 OpenClaim.holds_of_wide 5 Tryz.f5 rfl rfl rfl rfl rfl rfl rfl ⟨rfl,rfl,rfl,rfl,rfl⟩ rfl rfl rfl rfl rfl (by kernel_rfl) Tryz.func5 (by kernel_rfl)
  (of_decide_eq_true (by kernel_rfl)) (by unfold Func.isWrapper;first | (rw[if_pos (by decide+kernel)];kernel_rfl) | (rw[if_neg (by decide+kernel)];exact⟨rfl,rfl⟩))
  (fun os started H enc _=>lifted os started H enc)
#print axioms proved
end Go.Proofs.YtfcjngcnifdmnaaGreat.chunkOneAt
