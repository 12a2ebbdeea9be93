/- The law 'ChunkRaw' of a chunk at a server returns true at every input, and what came in reads as it did. No condition. -/
import Derived.Test.YtfcjngcnifdmnaaRows
import Derived.ProofKit
import Derived.OpenShut
import Derived.Below
import Derived.Carry
import Derived.SizedLaws
import Derived.Test.YtfcjngcnifdmnaaQh
namespace Go.Proofs.Ytfcjngcnifdmnaa.chunkRawAt
open Go.ChangeShapes Go.WideShapes Go.ChangeAt Go.RowKit Vc
set_option linter.unusedVariables false
set_option linter.unusedSimpArgs false
set_option maxRecDepth 100000
theorem own : ownKnob Try.prog.godebug = none := by kernel_rfl
theorem laidOut : laidOutB Try.prog = true := by kernel_rfl
theorem lifted (os : Os) (started : os.Started) (H : Type) (enc : TypeId × Value → H) :
    ReturnsInHanded {} Try.checked os 5 .any (Rows.chunkRawSpec.pre6 enc Try.prog Try.f5 Rows.chunkRawRow.domain false) (Rows.chunkRawSpec.post enc Try.prog Try.f5 false true false false) := by
  refine returnsInHanded_of_change_sized (C := Try.checked) own started (by kernel_rfl) Try.func5
    (ChangeSpec.witness6 (enc := enc) (C := Try.checked) false ⟨#[], #[.slice none 0 0, .slice none 0 0], []⟩ 8 (by kernel_rfl) (by kernel_rfl) (by kernel_rfl) (by kernel_rfl)) ?_
  intro W base args ds gs before hval0 hW hcnd hsz0 _
  have hval : ∀ (j : Nat) t v, Try.f5.params[j]? = some t → args[j]? = some v → Value.okWide Try.prog W .any base t v := hval0
  have hW' := hW
  obtain ⟨p, q, hA0, hV, rfl, hfz, hnd⟩ := hW
  have hA : DataW.TrodAll enc Try.prog W 0 (fun _ => true) true Try.f5.params.toList args.toList ds p := hA0
  rw [Try.params5] at hA hval
  obtain ⟨v0, vs0, d0, ds0, p0, q0, hargs, rfl, rfl, h0, r0⟩ := trodAll_cons hA
  obtain ⟨v1, vs1, d1, ds1, p1, q1, rfl, rfl, rfl, h1, r1⟩ := trodAll_cons r0
  obtain ⟨rfl, rfl, rfl⟩ := trodAll_nil r1
  obtain rfl : args = #[v0, v1] := by cases args; simp_all
  obtain ⟨rfl, rfl⟩ := trodVars_none hV
  have k0 := h0
  have lt0 : ∀ x ∈ p0, x.block < W.heap.size := by obtain ⟨m, hm⟩ := k0; exact DataW.trod_lt m _ _ _ hm
  have k1 := h1
  have lt1 : ∀ x ∈ p1, x.block < W.heap.size := by obtain ⟨m, hm⟩ := k1; exact DataW.trod_lt m _ _ _ hm
  have hN0 : ∀ n ∈ d0.weights Try.prog 48, n ≤ 140737488355328 := fun n hn => by
    have := List.all_eq_true.1 hsz0 _ (DataW.weights_mem_each (j := 0) (t := 48) (by kernel_rfl) rfl n hn)
    have h9 : n ≤ reachBytes := of_decide_eq_true this
    unfold reachBytes at h9
    omega
  obtain ⟨l, e0, m0, c0⟩ := open_slS (P := Try.prog) (t := 48) (es := [.int .i64, .sl [.int .i64], .sl [.int .u8], .sl [.sl [.int .u8]]]) (by kernel_rfl) (ok_slT (P := Try.prog) (t := 48) (by kernel_rfl) (hval 0 48 v0 rfl rfl)) h0 hN0
  obtain ⟨l, rfl, w_l⟩ := msgsS c0
  have m_l : l.length ≤ 140737488355328 := by simpa [ints_len] using m0
  obtain ⟨fr, e1, m1, c1⟩ := open_sl (P := Try.prog) (t := 27) (es := [.int .i64]) (by kernel_rfl) (ok_slT (P := Try.prog) (t := 27) (by kernel_rfl) (hval 1 27 v1 rfl rfl)) h1
  obtain ⟨fr, rfl, w_fr⟩ := conf_ints c1
  have m_fr : fr.length ≤ maxLen := by simpa [ints_len] using m1
  clear hA0 hval0
  refine (law_of (XR_ok _ _) (f := 5) (args := [.dat (.sl 4 (List.map msgD l)), .dat (.sl 1 (ints .i64 fr))]) (lawRaw l fr w_l (by omega)) (W := W) (denL_cons e0 (denL_cons e1 (by simp only [DenL])))).mono fun e W' ⟨he, bel⟩ => ?_
  subst he
  exact ⟨_, rfl, _, _, _, [], _, [], hW', trodAll_mk1 (shut_bool (P := Try.prog) (t := 4) (by kernel_rfl) _), (trodAll_cons_mk (Below.trod laidOut (by kernel_rfl) (of_decide_eq_true (by kernel_rfl)) k0 bel lt0) (trodAll_cons_mk (Below.trod laidOut (by kernel_rfl) (of_decide_eq_true (by kernel_rfl)) k1 bel lt1) trodAll_mk0)), rfl, bel.frame _, fun h => by cases h⟩
theorem proved : Rows.ChunkRawSaid :=
  OpenClaim.holds_of_wide 5 Try.f5 rfl rfl rfl rfl rfl rfl rfl ⟨rfl, rfl, rfl, rfl, rfl⟩ rfl rfl rfl rfl rfl (by kernel_rfl) Try.func5 (by kernel_rfl)
    (of_decide_eq_true (by kernel_rfl)) (by unfold Func.isWrapper; first | (rw [if_pos (by decide +kernel)]; kernel_rfl) | (rw [if_neg (by decide +kernel)]; exact ⟨rfl, rfl⟩))
    (fun os started H enc _ => lifted os started H enc)
#print axioms proved
end Go.Proofs.Ytfcjngcnifdmnaa.chunkRawAt
