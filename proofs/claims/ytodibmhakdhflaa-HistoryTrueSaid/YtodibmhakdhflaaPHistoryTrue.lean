/- The law 'HistoryTrue' of histories returns true at every input, and what came in reads as it did. No condition. -/
import Derived.Test.YtodibmhakdhflaaRows
import Derived.ProofKit
import Derived.OpenShut
import Derived.Below
import Derived.Carry
import Derived.Test.YtodibmhakdhflaaLa
import Derived.Test.YtodibmhakdhflaaVdP
namespace Go.Proofs.Ytodibmhakdhflaa.historyTrueAt
open Go.ChangeShapes Go.WideShapes Go.ChangeAt Go.RowKit Vc
set_option linter.unusedVariables false
set_option linter.unusedSimpArgs false
set_option maxRecDepth 100000
theorem own : ownKnob Try.prog.godebug = none := by kernel_rfl
theorem laidOut : laidOutB Try.prog = true := by kernel_rfl
theorem lifted (os : Os) (started : os.Started) (H : Type) (enc : TypeId × Value → H) :
    ReturnsInHanded {} Try.checked os 4 .any (Rows.historyTrueSpec.pre6 enc Try.prog Try.f4 Rows.historyTrueRow.domain false) (Rows.historyTrueSpec.post enc Try.prog Try.f4 false true false false) := by
  refine returnsInHanded_of_change (C := Try.checked) own started (by kernel_rfl) Try.func4
    (ChangeSpec.witness6 (enc := enc) (C := Try.checked) false ⟨#[], #[.slice none 0 0, .slice none 0 0, .slice none 0 0, .slice none 0 0], []⟩ 8 (by kernel_rfl) (by kernel_rfl) (by kernel_rfl) (by kernel_rfl)) ?_
  intro W base args ds gs before hval0 hW hcnd _
  have hval : ∀ (j : Nat) t v, Try.f4.params[j]? = some t → args[j]? = some v → Value.okWide Try.prog W .any base t v := hval0
  have hW' := hW
  obtain ⟨p, q, hA0, hV, rfl, hfz, hnd⟩ := hW
  have hA : DataW.TrodAll enc Try.prog W 0 (fun _ => true) true Try.f4.params.toList args.toList ds p := hA0
  rw [Try.params4] at hA hval
  obtain ⟨v0, vs0, d0, ds0, p0, q0, hargs, rfl, rfl, h0, r0⟩ := trodAll_cons hA
  obtain ⟨v1, vs1, d1, ds1, p1, q1, rfl, rfl, rfl, h1, r1⟩ := trodAll_cons r0
  obtain ⟨v2, vs2, d2, ds2, p2, q2, rfl, rfl, rfl, h2, r2⟩ := trodAll_cons r1
  obtain ⟨v3, vs3, d3, ds3, p3, q3, rfl, rfl, rfl, h3, r3⟩ := trodAll_cons r2
  obtain ⟨rfl, rfl, rfl⟩ := trodAll_nil r3
  obtain rfl : args = #[v0, v1, v2, v3] := by cases args; simp_all
  obtain ⟨rfl, rfl⟩ := trodVars_none hV
  have k0 := h0
  have lt0 : ∀ x ∈ p0, x.block < W.heap.size := by obtain ⟨m, hm⟩ := k0; exact DataW.trod_lt m _ _ _ hm
  have k1 := h1
  have lt1 : ∀ x ∈ p1, x.block < W.heap.size := by obtain ⟨m, hm⟩ := k1; exact DataW.trod_lt m _ _ _ hm
  have k2 := h2
  have lt2 : ∀ x ∈ p2, x.block < W.heap.size := by obtain ⟨m, hm⟩ := k2; exact DataW.trod_lt m _ _ _ hm
  have k3 := h3
  have lt3 : ∀ x ∈ p3, x.block < W.heap.size := by obtain ⟨m, hm⟩ := k3; exact DataW.trod_lt m _ _ _ hm
  obtain ⟨a, e0, m0, c0⟩ := open_sl (P := Try.prog) (t := 29) (es := [.int .u8]) (by kernel_rfl) (ok_slT (P := Try.prog) (t := 29) (by kernel_rfl) (hval 0 29 v0 rfl rfl)) h0
  obtain ⟨a, rfl, w_a⟩ := conf_ints c0
  have m_a : a.length ≤ maxLen := by simpa [ints_len] using m0
  obtain ⟨b, e1, m1, c1⟩ := open_sl (P := Try.prog) (t := 29) (es := [.int .u8]) (by kernel_rfl) (ok_slT (P := Try.prog) (t := 29) (by kernel_rfl) (hval 1 29 v1 rfl rfl)) h1
  obtain ⟨b, rfl, w_b⟩ := conf_ints c1
  have m_b : b.length ≤ maxLen := by simpa [ints_len] using m1
  obtain ⟨c, e2, m2, c2⟩ := open_sl (P := Try.prog) (t := 29) (es := [.int .u8]) (by kernel_rfl) (ok_slT (P := Try.prog) (t := 29) (by kernel_rfl) (hval 2 29 v2 rfl rfl)) h2
  obtain ⟨c, rfl, w_c⟩ := conf_ints c2
  have m_c : c.length ≤ maxLen := by simpa [ints_len] using m2
  obtain ⟨d, e3, m3, c3⟩ := open_sl (P := Try.prog) (t := 29) (es := [.int .u8]) (by kernel_rfl) (ok_slT (P := Try.prog) (t := 29) (by kernel_rfl) (hval 3 29 v3 rfl rfl)) h3
  obtain ⟨d, rfl, w_d⟩ := conf_ints c3
  have m_d : d.length ≤ maxLen := by simpa [ints_len] using m3
  clear hA0 hval0
  refine (law_of (XL_ok _ _ _ _ _) (f := 4) (args := [.dat (.sl 1 (ints .u8 a)), .dat (.sl 1 (ints .u8 b)), .dat (.sl 1 (ints .u8 c)), .dat (.sl 1 (ints .u8 d))]) (lawTrue a b c d (byt_wf w_a) (byt_wf w_b) (byt_wf w_c) (byt_wf w_d)) (W := W) (denL_cons e0 (denL_cons e1 (denL_cons e2 (denL_cons e3 (by simp only [DenL])))))).mono fun e W' ⟨he, bel⟩ => ?_
  subst he
  exact ⟨_, rfl, _, _, _, [], _, [], hW', trodAll_mk1 (shut_bool (P := Try.prog) (t := 4) (by kernel_rfl) _), (trodAll_cons_mk (Below.trod laidOut (by kernel_rfl) (of_decide_eq_true (by kernel_rfl)) k0 bel lt0) (trodAll_cons_mk (Below.trod laidOut (by kernel_rfl) (of_decide_eq_true (by kernel_rfl)) k1 bel lt1) (trodAll_cons_mk (Below.trod laidOut (by kernel_rfl) (of_decide_eq_true (by kernel_rfl)) k2 bel lt2) (trodAll_cons_mk (Below.trod laidOut (by kernel_rfl) (of_decide_eq_true (by kernel_rfl)) k3 bel lt3) trodAll_mk0)))), rfl, bel.frame _, fun h => by cases h⟩
theorem proved : Rows.HistoryTrueSaid :=
  OpenClaim.holds_of_wide 4 Try.f4 rfl rfl rfl rfl rfl rfl rfl ⟨rfl, rfl, rfl, rfl, rfl⟩ rfl rfl rfl rfl rfl (by kernel_rfl) Try.func4 (by kernel_rfl)
    (of_decide_eq_true (by kernel_rfl)) (by unfold Func.isWrapper; first | (rw [if_pos (by decide +kernel)]; kernel_rfl) | (rw [if_neg (by decide +kernel)]; exact ⟨rfl, rfl⟩))
    (fun os started H enc _ => lifted os started H enc)
#print axioms proved
end Go.Proofs.Ytodibmhakdhflaa.historyTrueAt
