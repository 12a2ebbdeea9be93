/- The law 'VaultOwn' of a vault on a device returns true at every input, and what came in reads as it did. No condition. -/
import Derived.Test.YtkodjbegpheomaaRows
import Derived.ProofKit
import Derived.OpenShut
import Derived.Below
import Derived.Carry
import Derived.Test.YtkodjbegpheomaaLy
import Derived.Test.YtkodjbegpheomaaVdP
namespace Go.Proofs.Ytkodjbegpheomaa.vaultOwnAt
open Go.ChangeShapes Go.WideShapes Go.ChangeAt Go.RowKit Vc
set_option linter.unusedVariables false
set_option linter.unusedSimpArgs false
set_option maxRecDepth 100000
theorem own : ownKnob Try.prog.godebug = none := by kernel_rfl
theorem laidOut : laidOutB Try.prog = true := by kernel_rfl
theorem lifted (os : Os) (started : os.Started) (H : Type) (enc : TypeId × Value → H) :
    ReturnsInHanded {} Try.checked os 6 .any (Rows.vaultOwnSpec.pre6 enc Try.prog Try.f6 Rows.vaultOwnRow.domain false) (Rows.vaultOwnSpec.post enc Try.prog Try.f6 false true false false) := by
  refine returnsInHanded_of_change (C := Try.checked) own started (by kernel_rfl) Try.func6
    (ChangeSpec.witness6 (enc := enc) (C := Try.checked) false ⟨#[], #[.int .u16 0, .slice none 0 0, .slice none 0 0], []⟩ 8 (by kernel_rfl) (by kernel_rfl) (by kernel_rfl) (by kernel_rfl)) ?_
  intro W base args ds gs before hval0 hW hcnd _
  have hval : ∀ (j : Nat) t v, Try.f6.params[j]? = some t → args[j]? = some v → Value.okWide Try.prog W .any base t v := hval0
  have hW' := hW
  obtain ⟨p, q, hA0, hV, rfl, hfz, hnd⟩ := hW
  have hA : DataW.TrodAll enc Try.prog W 0 (fun _ => true) true Try.f6.params.toList args.toList ds p := hA0
  rw [Try.params6] at hA hval
  obtain ⟨v0, vs0, d0, ds0, p0, q0, hargs, rfl, rfl, h0, r0⟩ := trodAll_cons hA
  obtain ⟨v1, vs1, d1, ds1, p1, q1, rfl, rfl, rfl, h1, r1⟩ := trodAll_cons r0
  obtain ⟨v2, vs2, d2, ds2, p2, q2, rfl, rfl, rfl, h2, r2⟩ := trodAll_cons r1
  obtain ⟨rfl, rfl, rfl⟩ := trodAll_nil r2
  obtain rfl : args = #[v0, v1, v2] := by cases args; simp_all
  obtain ⟨rfl, rfl⟩ := trodVars_none hV
  have k0 := h0
  have lt0 : ∀ x ∈ p0, x.block < W.heap.size := by obtain ⟨m, hm⟩ := k0; exact DataW.trod_lt m _ _ _ hm
  have k1 := h1
  have lt1 : ∀ x ∈ p1, x.block < W.heap.size := by obtain ⟨m, hm⟩ := k1; exact DataW.trod_lt m _ _ _ hm
  have k2 := h2
  have lt2 : ∀ x ∈ p2, x.block < W.heap.size := by obtain ⟨m, hm⟩ := k2; exact DataW.trod_lt m _ _ _ hm
  obtain ⟨k, rfl, _, _, w0⟩ := open_int (P := Try.prog) (t := 38) (k := .u16) (by kernel_rfl) (hval 0 38 v0 rfl rfl) h0
  obtain ⟨a, e1, m1, c1⟩ := open_sl (P := Try.prog) (t := 30) (es := [.int .u8]) (by kernel_rfl) (ok_slT (P := Try.prog) (t := 30) (by kernel_rfl) (hval 1 30 v1 rfl rfl)) h1
  obtain ⟨a, rfl, w_a⟩ := conf_ints c1
  have m_a : a.length ≤ maxLen := by simpa [ints_len] using m1
  obtain ⟨b, e2, m2, c2⟩ := open_sl (P := Try.prog) (t := 30) (es := [.int .u8]) (by kernel_rfl) (ok_slT (P := Try.prog) (t := 30) (by kernel_rfl) (hval 2 30 v2 rfl rfl)) h2
  obtain ⟨b, rfl, w_b⟩ := conf_ints c2
  have m_b : b.length ≤ maxLen := by simpa [ints_len] using m2
  clear hA0 hval0
  refine (law_of (XL_ok _ _ _ _ _ _ _) (f := 6) (args := [.int .u16 k, .dat (.sl 1 (ints .u8 a)), .dat (.sl 1 (ints .u8 b))]) (lawOwn k a b (by have := bounds_u16 w0; omega) (byt_wf w_a) (byt_wf w_b)) (W := W) (denL_cons (by simp only [Den]) (denL_cons e1 (denL_cons e2 (by simp only [DenL]))))).mono fun e W' ⟨he, bel⟩ => ?_
  subst he
  exact ⟨_, rfl, _, _, _, [], _, [], hW', trodAll_mk1 (shut_bool (P := Try.prog) (t := 4) (by kernel_rfl) _), (trodAll_cons_mk (Below.trod laidOut (by kernel_rfl) (of_decide_eq_true (by kernel_rfl)) k0 bel lt0) (trodAll_cons_mk (Below.trod laidOut (by kernel_rfl) (of_decide_eq_true (by kernel_rfl)) k1 bel lt1) (trodAll_cons_mk (Below.trod laidOut (by kernel_rfl) (of_decide_eq_true (by kernel_rfl)) k2 bel lt2) trodAll_mk0))), rfl, bel.frame _, fun h => by cases h⟩
theorem proved : Rows.VaultOwnSaid :=
  OpenClaim.holds_of_wide 6 Try.f6 rfl rfl rfl rfl rfl rfl rfl ⟨rfl, rfl, rfl, rfl, rfl⟩ rfl rfl rfl rfl rfl (by kernel_rfl) Try.func6 (by kernel_rfl)
    (of_decide_eq_true (by kernel_rfl)) (by unfold Func.isWrapper; first | (rw [if_pos (by decide +kernel)]; kernel_rfl) | (rw [if_neg (by decide +kernel)]; exact ⟨rfl, rfl⟩))
    (fun os started H enc _ => lifted os started H enc)
#print axioms proved
end Go.Proofs.Ytkodjbegpheomaa.vaultOwnAt
