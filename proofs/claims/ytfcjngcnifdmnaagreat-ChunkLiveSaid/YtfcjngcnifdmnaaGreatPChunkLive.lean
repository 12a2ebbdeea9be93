/- The law 'ChunkLive' of a chunk at a server returns true at every input, and what came in reads as it did. No condition. -/
import Derived.Test.YtfcjngcnifdmnaaGreatRows
import Derived.ProofKit
import Derived.OpenShut
import Derived.Below
import Derived.Carry
import Derived.Test.YtfcjngcnifdmnaaGreatQh
namespace Go.Proofs.YtfcjngcnifdmnaaGreat.chunkLiveAt
open Go.ChangeShapes Go.WideShapes Go.ChangeAt Go.RowKit Vc
open Go.IntKind renaming i64->γ,u8->ξ,u32->iM
open Vc.V renaming any->δ,int->ε,sl->ζ,sb->ο,ptr->aj,φ->au,dat->aC,aa->aR,mp->aY,arr->bF,agg->fz
open Vc.D renaming val->η,sl->χ
open Go.Value renaming int->ν,map->kT,bool->mG,oneCell'->mH
open List renaming map->ae,drop->ax,take->ay,length_append->bn,getElem?_eq_getElem->bu,getElem?_eq_some_iff->bH,length_map->bT,take_length->cQ,length_take->cW,mem_singleton->da,replicate->dv,mem_append->dz,mem_map->dO,mem_cons->dS,Mem->dW,append_assoc->dX,getElem?_append_left->dY,take_of_length_le->eQ,getElem?_append_right->fk,getElem?_map->fy,mem_of_getElem?->fF,length_drop->gm,mem_cons_of_mem->gn,append_nil->gz,length_cons->gA,getD_eq_getElem?_getD->gO,getElem?_set_ne->gP,mem_append_left->gQ,length_singleton->gZ,drop_zero->iD,getElem?_eq_none->iE,getElem?_take_of_lt->iF,length_set->iG,getElem?_set_self->iN,mem_cons_self->iV,map_append->ja,range->jb,nil_append->jr,take_add_one->jt,flatten_cons->jF,getElem?_of_mem->jG,getElem?_drop->jW,map_cons->kv,length_nil->kP,mem_append_right->kQ,mem_filter->lu,ext_getElem?->mb,eq_nil_of_length_eq_zero->mD
open Vc.KO renaming row->ai,dead->aw,cells->aB,objs->fE
open Nat renaming le_refl->ar,zero_le->bj,beq->cX,zero_add->c9,eq_of_beq_eq_true->de,add_assoc->g_,lor->iW,lt_or_ge->kx,sub_zero->ly,le_trans->mc
open Option renaming some->bb,bind_eq_some_iff->lO,map->ng
open Int renaming toNat_natCast->cN,le_refl->dE
open Bool renaming and_eq_true->jo,not_eq_false'->kr,not_eq_true'->mA
set_option linter.unusedVariables false
set_option linter.unusedSimpArgs false
set_option maxRecDepth 100000
theorem own:ownKnob Tryz.prog.godebug=none:=by kernel_rfl
theorem laidOut:laidOutB Tryz.prog=true:=by kernel_rfl
theorem lifted (os:Os) (started:os.Started) (H:Type) (enc:TypeId×Value->H):
  ReturnsInHanded {} Tryz.checked os 6 .any (Rows.chunkLiveSpec.pre6 enc Tryz.prog Tryz.f6 Rows.chunkLiveRow.domain false) (Rows.chunkLiveSpec.post enc Tryz.prog Tryz.f6 false true false false):=by
 refine returnsInHanded_of_change (C:=Tryz.checked) own started (by kernel_rfl) Tryz.func6
  (ChangeSpec.witness6 (enc:=enc) (C:=Tryz.checked) false ⟨#[],#[.slice none 0 0,.int γ 0],[]⟩ 8 (by kernel_rfl) (by kernel_rfl) (by kernel_rfl) (by kernel_rfl)) ?_
 intro W base args ds gs before Ru hW QN _
 have hval:∀(j:Nat) t v,Tryz.f6.params[j]? =some t->args[j]? =some v->Value.okWide Tryz.prog W .any base t v:=Ru
 have B9:=hW
 obtain⟨p,q,Qp,hV,rfl,hfz,hnd⟩:=hW
 have hA:DataW.TrodAll enc Tryz.prog W 0 (fun _=>true) true Tryz.f6.params.toList args.toList ds p:=Qp
 rw[Tryz.params6]at hA hval
 obtain⟨v0,vs0,d0,ds0,p0,q0,hargs,rfl,rfl,h0,r0⟩:=trodAll_cons hA
 obtain⟨v1,vs1,d1,ds1,p1,q1,rfl,rfl,rfl,h1,r1⟩:=trodAll_cons r0
 obtain⟨rfl,rfl,rfl⟩:=trodAll_nil r1
 obtain rfl:args=#[v0,v1]:=by cases args;simp_all
 obtain⟨rfl,rfl⟩:=trodVars_none hV
 have k0:=h0
 have lt0:∀ x∈p0,x.block<W.heap.size:=by obtain⟨m,hm⟩:=k0;exact DataW.trod_lt m _ _ _ hm
 have k1:=h1
 have lt1:∀ x∈p1,x.block<W.heap.size:=by obtain⟨m,hm⟩:=k1;exact DataW.trod_lt m _ _ _ hm
 obtain⟨l,e0,m0,c0⟩:=aeq (P:=Tryz.prog) (t:=22) (es:=[.int γ,.int γ,.int γ,.int γ,.bool]) (by kernel_rfl) (ad5 (P:=Tryz.prog) (t:=22) (by kernel_rfl) (hval 0 22 v0 rfl rfl)) h0
 obtain⟨l,rfl,w_l⟩:=OR (f:=nP) (Q:=fun _=>True) (fun _ h=>Zx h) c0
 have m_l:l.length<=maxLen:=by simpa [bi]using m0
 obtain⟨n,rfl,_,_,w1⟩:=open_int (P:=Tryz.prog) (t:=3) (k:=γ) (by kernel_rfl) (hval 1 3 v1 rfl rfl) h1
 clear Qp Ru
 refine(abH (Yl _ _ _ _ _ _ _ _ _ _ _ _) (f:=6) (args:=[.dat (.sl 5 (ae nP l)),.int γ n]) (abF l n) (W:=W) (O9 e0 (O9 (by simp only[Den]) (by simp only[az])))).mono fun e W' ⟨he,Gi⟩=>?_
 subst he
 exact⟨_,rfl,_,_,_,[],_,[],B9,trodAll_mk1 (shut_bool (P:=Tryz.prog) (t:=4) (by kernel_rfl) _),(trodAll_cons_mk (Below.trod laidOut (by kernel_rfl) (of_decide_eq_true (by kernel_rfl)) k0 Gi lt0) (trodAll_cons_mk (Below.trod laidOut (by kernel_rfl) (of_decide_eq_true (by kernel_rfl)) k1 Gi lt1) trodAll_mk0)),rfl,Gi.frame _,fun h=>by cases h⟩
theorem proved:Rows.ChunkLiveSaid:=
 OpenClaim.holds_of_wide 6 Tryz.f6 rfl rfl rfl rfl rfl rfl rfl ⟨rfl,rfl,rfl,rfl,rfl⟩ rfl rfl rfl rfl rfl (by kernel_rfl) Tryz.func6 (by kernel_rfl)
  (of_decide_eq_true (by kernel_rfl)) (by unfold Func.isWrapper;first | (rw[if_pos (by decide+kernel)];kernel_rfl) | (rw[if_neg (by decide+kernel)];exact⟨rfl,rfl⟩))
  (fun os started H enc _=>lifted os started H enc)
#print axioms proved
end Go.Proofs.YtfcjngcnifdmnaaGreat.chunkLiveAt
