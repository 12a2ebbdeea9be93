/- The law 'ChunkSame' of a chunk at a server returns true at every input, and what came in reads as it did. No condition. -/
import Derived.Test.YtfcjngcnifdmnaaGreatRows
import Derived.ProofKit
import Derived.OpenShut
import Derived.Below
import Derived.Carry
import Derived.Test.YtfcjngcnifdmnaaGreatQh
namespace Go.Proofs.YtfcjngcnifdmnaaGreat.chunkSameAt
open Go.ChangeShapes Go.WideShapes Go.ChangeAt Go.RowKit Vc
open Go.IntKind renaming i64->γ,u8->ν,u32->iy
open Vc.V renaming any->δ,sl->ε,int->ζ,sb->ξ,ptr->an,χ->av,dat->aH,af->aO,mp->bb,arr->bD,agg->fw
open Vc.D renaming val->η,sl->ω
open Vc.KO renaming row->υ,dead->aa,cells->aw,objs->cY
open Go.Value renaming int->φ,map->kr,oneCell'->l0
open List renaming map->ae,drop->ax,take->aA,length_append->bo,getElem?_eq_getElem->bz,getElem?_eq_some_iff->bO,length_map->cp,take_length->cZ,length_take->dc,mem_singleton->dm,replicate->dp,mem_append->dQ,Mem->dW,getElem?_append_left->dX,mem_map->ef,append_assoc->eH,mem_cons->eI,getElem?_append_right->e_,append_nil->fu,getElem?_map->fH,take_of_length_le->fI,length_drop->fZ,mem_cons_of_mem->f_,getElem?_set_ne->gE,length_cons->gF,mem_of_getElem?->gG,getElem?_eq_none->g_,getElem?_set_self->iz,length_set->iA,mem_cons_self->iB,length_singleton->iL,mem_append_left->iM,range->iN,drop_zero->iX,getD_eq_getElem?_getD->iY,getElem?_take_of_lt->ji,flatten_cons->jt,nil_append->ju,getElem?_drop->jE,map_append->jZ,take_add_one->j2,length_nil->ko,ext_getElem?->lB,getElem?_of_mem->lC,mem_append_right->lD,map_cons->lY,mem_filter->lZ,eq_nil_of_length_eq_zero->mq
open Nat renaming le_refl->au,zero_le->bt,beq->cq,eq_of_beq_eq_true->cP,zero_add->cQ,add_assoc->gR,lor->iO,lt_or_ge->jF,sub_zero->kV
open Option renaming some->bc,bind_eq_some_iff->kW,map->mU
open Int renaming le_refl->dy,toNat_natCast->dD
open Bool renaming and_eq_true->iW,not_eq_false'->nI
set_option linter.unusedVariables false
set_option linter.unusedSimpArgs false
set_option maxRecDepth 100000
theorem own:ownKnob Tryz.prog.godebug=none:=by kernel_rfl
theorem laidOut:laidOutB Tryz.prog=true:=by kernel_rfl
theorem lifted (os:Os) (started:os.Started) (H:Type) (enc:TypeId×Value->H):
  ReturnsInHanded {} Tryz.checked os 4 .any (Rows.chunkSameSpec.pre6 enc Tryz.prog Tryz.f4 Rows.chunkSameRow.domain false) (Rows.chunkSameSpec.post enc Tryz.prog Tryz.f4 false true false false):=by
 refine returnsInHanded_of_change (C:=Tryz.checked) own started (by kernel_rfl) Tryz.func4
  (ChangeSpec.witness6 (enc:=enc) (C:=Tryz.checked) false ⟨#[],#[.slice none 0 0],[]⟩ 8 (by kernel_rfl) (by kernel_rfl) (by kernel_rfl) (by kernel_rfl)) ?_
 intro W base args ds gs before Qo hW Pv _
 have hval:∀(j:Nat) t v,Tryz.f4.params[j]? =some t->args[j]? =some v->Value.okWide Tryz.prog W .any base t v:=Qo
 have BB:=hW
 obtain⟨p,q,O8,hV,rfl,hfz,hnd⟩:=hW
 have hA:DataW.TrodAll enc Tryz.prog W 0 (fun _=>true) true Tryz.f4.params.toList args.toList ds p:=O8
 rw[Tryz.params4]at hA hval
 obtain⟨v0,vs0,d0,ds0,p0,q0,hargs,rfl,rfl,h0,r0⟩:=trodAll_cons hA
 obtain⟨rfl,rfl,rfl⟩:=trodAll_nil r0
 obtain rfl:args=#[v0]:=by cases args;simp_all
 obtain⟨rfl,rfl⟩:=trodVars_none hV
 have k0:=h0
 have lt0:∀ x∈p0,x.block<W.heap.size:=by obtain⟨m,hm⟩:=k0;exact DataW.trod_lt m _ _ _ hm
 obtain⟨l,e0,m0,c0⟩:=adz (P:=Tryz.prog) (t:=22) (es:=[.int γ,.int γ,.int γ,.int γ,.bool]) (by kernel_rfl) (adb (P:=Tryz.prog) (t:=22) (by kernel_rfl) (hval 0 22 v0 rfl rfl)) h0
 obtain⟨l,rfl,w_l⟩:=NE (f:=nA) (Q:=fun _=>True) (fun _ h=>X9 h) c0
 have m_l:l.length<=maxLen:=by simpa [bh]using m0
 clear O8 Qo
 refine(aaV (WG _ _ _ _ _ _ _) (f:=4) (args:=[.dat (.sl 5 (ae nA l))]) (aaT l) (W:=W) (Yq e0 (by simp only[aq]))).mono fun e W' ⟨he,M3⟩=>?_
 subst he
 exact⟨_,rfl,_,_,_,[],_,[],BB,trodAll_mk1 (shut_bool (P:=Tryz.prog) (t:=4) (by kernel_rfl) _),(trodAll_cons_mk (Below.trod laidOut (by kernel_rfl) (of_decide_eq_true (by kernel_rfl)) k0 M3 lt0) trodAll_mk0),rfl,M3.frame _,fun h=>by cases h⟩
theorem proved:Rows.ChunkSameSaid:=
 OpenClaim.holds_of_wide 4 Tryz.f4 rfl rfl rfl rfl rfl rfl rfl ⟨rfl,rfl,rfl,rfl,rfl⟩ rfl rfl rfl rfl rfl (by kernel_rfl) Tryz.func4 (by kernel_rfl)
  (of_decide_eq_true (by kernel_rfl)) (by unfold Func.isWrapper;first | (rw[if_pos (by decide+kernel)];kernel_rfl) | (rw[if_neg (by decide+kernel)];exact⟨rfl,rfl⟩))
  (fun os started H enc _=>lifted os started H enc)
#print axioms proved
end Go.Proofs.YtfcjngcnifdmnaaGreat.chunkSameAt
