/- The law 'BallotOne' of the ballot returns true at every input, and what came in reads as it did. No condition. -/
import Derived.Test.YtlompcfnjfjaeaaRows
import Derived.ProofKit
import Derived.OpenShut
import Derived.Below
import Derived.Carry
import Derived.Test.YtlompcfnjfjaeaaOne
import Derived.Test.YtlompcfnjfjaeaaVcP
namespace Go.Proofs.Ytlompcfnjfjaeaa.ballotOneAt
open Go.ChangeShapes Go.WideShapes Go.ChangeAt Go.RowKit Vc
set_option linter.unusedVariables false
set_option maxRecDepth 100000
theorem own : ownKnob Try.prog.godebug = none := by kernel_rfl
theorem laidOut : laidOutB Try.prog = true := by kernel_rfl
theorem lifted (os : Os) (started : os.Started) (H : Type) (enc : TypeId × Value → H) :
    ReturnsInHanded {} Try.checked os 3 .any (Rows.ballotOneSpec.pre6 enc Try.prog Try.f3 Rows.ballotOneRow.domain false) (Rows.ballotOneSpec.post enc Try.prog Try.f3 false true false false) := by
  refine returnsInHanded_of_change (C := Try.checked) own started (by kernel_rfl) Try.func3
    (ChangeSpec.witness6 (enc := enc) (C := Try.checked) false ⟨#[], #[.agg #[.int .i64 0, .int .i64 0], .slice none 0 0, .slice none 0 0], []⟩ 8 (by kernel_rfl) (by kernel_rfl) (by kernel_rfl) (by kernel_rfl)) ?_
  intro W base args ds gs before hval0 hW hcnd _
  have hval : ∀ (j : Nat) t v, Try.f3.params[j]? = some t → args[j]? = some v → Value.okWide Try.prog W .any base t v := hval0
  have hW' := hW
  obtain ⟨p, q, hA0, hV, rfl, hfz, hnd⟩ := hW
  have hA : DataW.TrodAll enc Try.prog W 0 (fun _ => true) true Try.f3.params.toList args.toList ds p := hA0
  rw [Try.params3] at hA hval
  obtain ⟨v0, vs0, d0, ds0, p0, q0, hargs, rfl, rfl, h0, r0⟩ := trodAll_cons hA
  obtain ⟨v1, vs1, d1, ds1, p1, q1, rfl, rfl, rfl, h1, r1⟩ := trodAll_cons r0
  obtain ⟨v2, vs2, d2, ds2, p2, q2, rfl, rfl, rfl, h2, r2⟩ := trodAll_cons r1
  obtain ⟨rfl, rfl, rfl⟩ := trodAll_nil r2
  obtain rfl : args = #[v0, v1, v2] := by cases args; simp_all
  obtain ⟨rfl, rfl⟩ := trodVars_none hV
  have k0 := h0
  have lt0 : ∀ x ∈ p0, x.block < W.heap.size := by obtain ⟨m, hm⟩ := k0; exact DataW.trod_lt m _ _ _ hm
  have k1 := h1
  have lt1 : ∀ x ∈ p1, x.block < W.heap.size := by obtain ⟨m, hm⟩ := k1; exact DataW.trod_lt m _ _ _ hm
  have k2 := h2
  have lt2 : ∀ x ∈ p2, x.block < W.heap.size := by obtain ⟨m, hm⟩ := k2; exact DataW.trod_lt m _ _ _ hm
  obtain ⟨c0, rfl, e0⟩ := open_cells (P := Try.prog) (t := 23) (ks := [.int .i64, .int .i64]) (by kernel_rfl) (by kernel_rfl) (by kernel_rfl) (hval 0 23 v0 rfl rfl) h0
  simp only [Conf, ConfC] at e0
  obtain ⟨_, _, rfl, ⟨t, rfl, w0t⟩, _, _, rfl, ⟨v, rfl, w0v⟩, rfl⟩ := e0
  obtain ⟨l1, c1, e1, m1⟩ := open_slice' (P := Try.prog) (t := 24) (e := 5) (ks := [.int .u8]) (by kernel_rfl) (by kernel_rfl) (by kernel_rfl) (by decide) (okWide_slice (P := Try.prog) (t := 24) (e := 5) (by kernel_rfl) (hval 1 24 v1 rfl rfl)) h1
  obtain ⟨terms, rfl, w_terms⟩ := conf_ints c1
  have m_terms : terms.length ≤ maxLen := by simpa [ints_len] using m1
  obtain ⟨l2, c2, e2, m2⟩ := open_slice' (P := Try.prog) (t := 24) (e := 5) (ks := [.int .u8]) (by kernel_rfl) (by kernel_rfl) (by kernel_rfl) (by decide) (okWide_slice (P := Try.prog) (t := 24) (e := 5) (by kernel_rfl) (hval 2 24 v2 rfl rfl)) h2
  obtain ⟨whos, rfl, w_whos⟩ := conf_ints c2
  have m_whos : whos.length ≤ maxLen := by simpa [ints_len] using m2
  clear hA0 hval0
  refine (law_of (callS_ok mixed ballotS_ok (oneT terms whos) 10) (f := 3) (args := [.agg [.int .i64 t, .int .i64 v], .isl 1 (ints .u8 terms), .isl 1 (ints .u8 whos)]) (lawOne t v terms whos w_terms w_whos) (W := W) (.cons (by simp only [Den]; exact ⟨_, rfl, (.cons (by simp only [Den]) (.cons (by simp only [Den]) .nil))⟩) (.cons e1 (.cons e2 .nil)))).mono fun e W' ⟨he, bel⟩ => ?_
  subst he
  exact ⟨_, rfl, _, _, _, [], _, [], hW', trodAll_mk1 (shut_bool (P := Try.prog) (t := 4) (by kernel_rfl) _), (trodAll_cons_mk (Below.trod laidOut (by kernel_rfl) (of_decide_eq_true (by kernel_rfl)) k0 bel lt0) (trodAll_cons_mk (Below.trod laidOut (by kernel_rfl) (of_decide_eq_true (by kernel_rfl)) k1 bel lt1) (trodAll_cons_mk (Below.trod laidOut (by kernel_rfl) (of_decide_eq_true (by kernel_rfl)) k2 bel lt2) trodAll_mk0))), rfl, bel.frame _, fun h => by cases h⟩
theorem proved : Rows.BallotOneSaid :=
  OpenClaim.holds_of_wide 3 Try.f3 rfl rfl rfl rfl rfl rfl rfl ⟨rfl, rfl, rfl, rfl, rfl⟩ rfl rfl rfl rfl rfl (by kernel_rfl) Try.func3 (by kernel_rfl)
    (of_decide_eq_true (by kernel_rfl)) (by unfold Func.isWrapper; first | (rw [if_pos (by decide +kernel)]; kernel_rfl) | (rw [if_neg (by decide +kernel)]; exact ⟨rfl, rfl⟩))
    (fun os started H enc _ => lifted os started H enc)
#print axioms proved
end Go.Proofs.Ytlompcfnjfjaeaa.ballotOneAt
