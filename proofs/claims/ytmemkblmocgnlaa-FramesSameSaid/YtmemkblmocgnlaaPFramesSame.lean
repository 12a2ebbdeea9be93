/- The law 'FramesSame' of messages' forms returns true at every input, and what came in reads as it did. No condition. -/
import Derived.Test.YtmemkblmocgnlaaRows
import Derived.ProofKit
import Derived.OpenShut
import Derived.Below
import Derived.Carry
import Derived.Test.YtmemkblmocgnlaaLb
import Derived.Test.YtmemkblmocgnlaaVdP
namespace Go.Proofs.Ytmemkblmocgnlaa.framesSameAt
open Go.ChangeShapes Go.WideShapes Go.ChangeAt Go.RowKit Vc
set_option linter.unusedVariables false
set_option linter.unusedSimpArgs false
set_option maxRecDepth 100000
theorem own : ownKnob Try.prog.godebug = none := by kernel_rfl
theorem laidOut : laidOutB Try.prog = true := by kernel_rfl
theorem lifted (os : Os) (started : os.Started) (H : Type) (enc : TypeId × Value → H) :
    ReturnsInHanded {} Try.checked os 7 .any (Rows.framesSameSpec.pre6 enc Try.prog Try.f7 Rows.framesSameRow.domain false) (Rows.framesSameSpec.post enc Try.prog Try.f7 false true false false) := by
  refine returnsInHanded_of_change (C := Try.checked) own started (by kernel_rfl) Try.func7
    (ChangeSpec.witness6 (enc := enc) (C := Try.checked) false ⟨#[], #[.agg #[.int .i64 0, .slice none 0 0, .slice none 0 0, .slice none 0 0], .agg #[.int .i64 0, .slice none 0 0, .slice none 0 0, .slice none 0 0]], []⟩ 8 (by kernel_rfl) (by kernel_rfl) (by kernel_rfl) (by kernel_rfl)) ?_
  intro W base args ds gs before hval0 hW hcnd _
  have hval : ∀ (j : Nat) t v, Try.f7.params[j]? = some t → args[j]? = some v → Value.okWide Try.prog W .any base t v := hval0
  have hW' := hW
  obtain ⟨p, q, hA0, hV, rfl, hfz, hnd⟩ := hW
  have hA : DataW.TrodAll enc Try.prog W 0 (fun _ => true) true Try.f7.params.toList args.toList ds p := hA0
  rw [Try.params7] at hA hval
  obtain ⟨v0, vs0, d0, ds0, p0, q0, hargs, rfl, rfl, h0, r0⟩ := trodAll_cons hA
  obtain ⟨v1, vs1, d1, ds1, p1, q1, rfl, rfl, rfl, h1, r1⟩ := trodAll_cons r0
  obtain ⟨rfl, rfl, rfl⟩ := trodAll_nil r1
  obtain rfl : args = #[v0, v1] := by cases args; simp_all
  obtain ⟨rfl, rfl⟩ := trodVars_none hV
  have k0 := h0
  have lt0 : ∀ x ∈ p0, x.block < W.heap.size := by obtain ⟨m, hm⟩ := k0; exact DataW.trod_lt m _ _ _ hm
  have k1 := h1
  have lt1 : ∀ x ∈ p1, x.block < W.heap.size := by obtain ⟨m, hm⟩ := k1; exact DataW.trod_lt m _ _ _ hm
  obtain ⟨cs0, ds0, rfl, e0, cf0⟩ := open_cells (P := Try.prog) (t := 26) (ks := [.int .i64, .sl [.int .i64], .sl [.int .u8], .sl [.sl [.int .u8]]]) (by kernel_rfl) (by kernel_rfl) (by kernel_rfl) (hval 0 26 v0 rfl rfl) h0
  obtain ⟨mk, mn, mb, ml, rfl, xl, xb⟩ := conf_msg cf0
  obtain ⟨cs1, ds1, rfl, e1, cf1⟩ := open_cells (P := Try.prog) (t := 26) (ks := [.int .i64, .sl [.int .i64], .sl [.int .u8], .sl [.sl [.int .u8]]]) (by kernel_rfl) (by kernel_rfl) (by kernel_rfl) (hval 1 26 v1 rfl rfl) h1
  obtain ⟨mk2, mn2, mb2, ml2, rfl, yl, yb⟩ := conf_msg cf1
  clear hA0 hval0
  refine (law_of (XLb_ok _ _ _ _ _ _ _ _) (f := 7) (args := [.agg [.int .i64 mk, .dat (.sl 1 (ints .i64 mn)), .dat (.sl 1 (ints .u8 mb)), .dat (.sl 1 (List.map bsl ml))], .agg [.int .i64 mk2, .dat (.sl 1 (ints .i64 mn2)), .dat (.sl 1 (ints .u8 mb2)), .dat (.sl 1 (List.map bsl ml2))]]) (lawSame mk mn mb ml mk2 mn2 mb2 ml2 xl xb yl yb) (W := W) (denL_cons (by simp only [Den]; exact ⟨_, rfl, den_agg e0⟩) (denL_cons (by simp only [Den]; exact ⟨_, rfl, den_agg e1⟩) (by simp only [DenL])))).mono fun e W' ⟨he, bel⟩ => ?_
  subst he
  exact ⟨_, rfl, _, _, _, [], _, [], hW', trodAll_mk1 (shut_bool (P := Try.prog) (t := 4) (by kernel_rfl) _), (trodAll_cons_mk (Below.trod laidOut (by kernel_rfl) (of_decide_eq_true (by kernel_rfl)) k0 bel lt0) (trodAll_cons_mk (Below.trod laidOut (by kernel_rfl) (of_decide_eq_true (by kernel_rfl)) k1 bel lt1) trodAll_mk0)), rfl, bel.frame _, fun h => by cases h⟩
theorem proved : Rows.FramesSameSaid :=
  OpenClaim.holds_of_wide 7 Try.f7 rfl rfl rfl rfl rfl rfl rfl ⟨rfl, rfl, rfl, rfl, rfl⟩ rfl rfl rfl rfl rfl (by kernel_rfl) Try.func7 (by kernel_rfl)
    (of_decide_eq_true (by kernel_rfl)) (by unfold Func.isWrapper; first | (rw [if_pos (by decide +kernel)]; kernel_rfl) | (rw [if_neg (by decide +kernel)]; exact ⟨rfl, rfl⟩))
    (fun os started H enc _ => lifted os started H enc)
#print axioms proved
end Go.Proofs.Ytmemkblmocgnlaa.framesSameAt
