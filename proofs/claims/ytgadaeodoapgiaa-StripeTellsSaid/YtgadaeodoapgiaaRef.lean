import Derived.Test.YtgadaeodoapgiaaSp
namespace Go.Proofs.Ytgadaeodoapgiaa
open Vc Go
set_option linter.unusedVariables false
set_option maxRecDepth 100000
theorem pcN_new {f : Int} {i : Nat} (hf : 0 ≤ f) (h : (i : Int) = 0 ∨ (f + i) % 8 = 0) : pcN f ((i : Int) + 1) = pcN f i + 1 := by
  unfold pcN; split <;> split <;> omega
theorem pcN_old {f : Int} {i : Nat} (hf : 0 ≤ f) (h0 : ¬ (i : Int) = 0) (h : ¬ (f + i) % 8 = 0) : pcN f ((i : Int) + 1) = pcN f i ∧ 1 ≤ pcN f i := by
  unfold pcN; split <;> split <;> omega
theorem pc_row {f m : Int} {j : Nat} {a b c d : Int} (h1 : f / 8 + j = a) (h2 : pcS f j - 8 * (f / 8 + j) = b) (h3 : pcE f m j - pcS f j = c) (h4 : pcS f j - f = d) : pc f m j = [Value.int IntKind.i64 a, Value.int IntKind.i64 b, Value.int IntKind.i64 c, Value.int IntKind.i64 d] := by
  subst h1; subst h2; subst h3; subst h4; rfl
theorem pcs_same {f : Int} {i n : Nat} (hf : 0 ≤ f) (h : ∀ j : Nat, j < n → 8 * (f / 8 + j + 1) ≤ f + i) : pcs f ((i : Int) + 1) n = pcs f i n := by
  unfold pcs
  refine List.map_congr_left fun j hj => ?_
  have := h j (List.mem_range.1 hj)
  have e : pcE f ((i : Int) + 1) j = pcE f i j := by unfold pcE; omega
  unfold pc; rw [e]
theorem pcs_new {f : Int} {i : Nat} (hf : 0 ≤ f) (h : (i : Int) = 0 ∨ (f + i) % 8 = 0) :
    pcs f ((i : Int) + 1) (pcN f ((i : Int) + 1)) = pcs f i (pcN f i) ++ [[Value.int IntKind.i64 ((f + i) / 8), Value.int IntKind.i64 ((f + i) % 8), Value.int IntKind.i64 1, Value.int IntKind.i64 i]] := by
  have hN : (pcN f i : Int) = if (i : Int) < 1 then 0 else (f + i - 1) / 8 - f / 8 + 1 := by unfold pcN; split <;> omega
  rw [pcN_new hf h, pcs_succ, pcs_same hf (fun j hj => by split at hN <;> omega)]
  have e0 : pcS f (pcN f i) = f + i := by unfold pcS; split at hN <;> omega
  rw [pc_row (a := (f + i) / 8) (b := (f + i) % 8) (c := 1) (d := i) (by split at hN <;> omega) (by rw [e0]; split at hN <;> omega) (by rw [e0]; unfold pcE; split at hN <;> omega) (by rw [e0]; omega)]
theorem pcs_old {f : Int} {i : Nat} (hf : 0 ≤ f) (h0 : ¬ (i : Int) = 0) (h : ¬ (f + i) % 8 = 0) :
    ∃ a b c d, (pcs f i (pcN f i))[pcN f i - 1]? = some [Value.int IntKind.i64 a, Value.int IntKind.i64 b, Value.int IntKind.i64 c, Value.int IntKind.i64 d] ∧ 0 ≤ c ∧ c ≤ 8 ∧
      pcs f ((i : Int) + 1) (pcN f ((i : Int) + 1)) = (pcs f i (pcN f i)).set (pcN f i - 1) [Value.int IntKind.i64 a, Value.int IntKind.i64 b, Value.int IntKind.i64 (c + 1), Value.int IntKind.i64 d] := by
  obtain ⟨e1, e2⟩ := pcN_old hf h0 h
  have hN : (pcN f i : Int) = (f + i - 1) / 8 - f / 8 + 1 := by unfold pcN; split <;> omega
  obtain ⟨M, hM⟩ : ∃ M, pcN f i = M + 1 := ⟨pcN f i - 1, by omega⟩
  rw [e1, hM, pcs_succ, pcs_succ, pcs_same hf (fun j hj => by omega)]
  have hE : pcE f ((i : Int) + 1) M = pcE f i M + 1 := by unfold pcE; omega
  refine ⟨f / 8 + M, pcS f M - 8 * (f / 8 + M), pcE f i M - pcS f M, pcS f M - f, ?_, ?_, ?_, ?_⟩
  · rw [Nat.add_sub_cancel, List.getElem?_append_right (by rw [pcs_len]; exact Nat.le_refl _), pcs_len, Nat.sub_self]; rfl
  · unfold pcE pcS; omega
  · unfold pcE pcS; omega
  · rw [Nat.add_sub_cancel, List.set_append_right _ _ (by rw [pcs_len]; exact Nat.le_refl _), pcs_len, Nat.sub_self]
    congr 1
    simp only [List.set_cons_zero]
    rw [pc_row (m := (i : Int) + 1) (j := M) rfl rfl (show _ = pcE f i M - pcS f M + 1 by rw [hE]; omega) rfl]
theorem ref_next {f m : Int} {i : Nat} {hh} {j : Int} {n : Nat} {l : List (List Value)} (hlt : (i : Int) < m) (hj : j = i + 1) (hn : n = pcN f ((i : Int) + 1)) (hl : l = pcs f ((i : Int) + 1) (pcN f ((i : Int) + 1))) :
    ∃ x, ([V.int IntKind.i64 f, V.int IntKind.i64 m, V.sl 0 0 n, V.int IntKind.i64 j], [KO.row 29 4 l]) = (refLI f m).st x ∧ (refLI f m).μ x < (refLI f m).μ ⟨i, hh⟩ := by
  subst hj; subst hn; subst hl
  refine ⟨⟨i + 1, by show ((i + 1 : Nat) : Int) ≤ m; omega⟩, ?_, ?_⟩
  · have e : ((i + 1 : Nat) : Int) = (i : Int) + 1 := by omega
    show _ = ([_, _, V.sl 0 0 (pcN f ((i + 1 : Nat) : Int)), V.int IntKind.i64 ((i + 1 : Nat) : Int)], [KO.row 29 4 (pcs f ((i + 1 : Nat) : Int) (pcN f ((i + 1 : Nat) : Int)))])
    rw [e]
  show m.toNat - (i + 1) < m.toNat - i
  omega
theorem ok13 : SpecOk Try.prog 13 S13 := specOk_of' XW_ok mixed (fun args kb K h => by
  unfold S13 at h; split at h <;> try exact h.elim
  rename_i f m
  obtain ⟨⟨c1, c2, c3, c4⟩, hK⟩ := h
  refine ⟨_, vc13 f m K ⟨⟨⟨0, by show ((0 : Nat) : Int) ≤ m; omega⟩, rfl⟩, fun i => ?_⟩⟩
  obtain ⟨i, hi⟩ := i
  have hi : (i : Int) ≤ m := hi
  have w1 := IntWalk.i64_in (f + i) (by omega)
  have d1 : (f + i).tdiv 8 = (f + i) / 8 := Int.tdiv_eq_ediv_of_nonneg (by omega)
  have d2 : (f + i).tmod 8 = (f + i) % 8 := Int.tmod_eq_emod_of_nonneg (by omega)
  have w2 := IntWalk.i64_in ((f + i) / 8) (by omega)
  have w3 := IntWalk.i64_in ((i : Int) + 1) (by omega)
  have hN : pcN f i ≤ 200 := by unfold pcN; split <;> omega
  have w4 := IntWalk.i64_in (((pcN f i + 1 : Nat) : Int) - 1) (by omega)
  have w5 := IntWalk.i64_in ((pcN f i : Int) - 1) (by omega)
  have t1 : (((pcN f i + 1 : Nat) : Int) - 1).toNat = pcN f i := by omega
  have t2 : ((pcN f i : Int) - 1).toNat = pcN f i - 1 := by omega
  simp only [w1, d1, d2, w2, w3, Nat.sub_zero, w4, w5, Nat.zero_add, t1, t2, pcs_take, pcs_len, decide_eq_true_eq, decide_eq_false_iff_not, beq_iff_eq, beq_eq_false_iff_ne, ne_eq]
  have last : (pcs f i (pcN f i) ++ [[Value.int IntKind.i64 ((f + i) / 8), Value.int IntKind.i64 ((f + i) % 8), Value.int IntKind.i64 0, Value.int IntKind.i64 i]])[pcN f i]? = some [Value.int IntKind.i64 ((f + i) / 8), Value.int IntKind.i64 ((f + i) % 8), Value.int IntKind.i64 0, Value.int IntKind.i64 i] := by
    rw [List.getElem?_append_right (by rw [pcs_len]; exact Nat.le_refl _), pcs_len, Nat.sub_self]; rfl
  have hset : (pcs f i (pcN f i) ++ [[Value.int IntKind.i64 ((f + i) / 8), Value.int IntKind.i64 ((f + i) % 8), Value.int IntKind.i64 0, Value.int IntKind.i64 i]]).set (pcN f i) (splice [Value.int IntKind.i64 ((f + i) / 8), Value.int IntKind.i64 ((f + i) % 8), Value.int IntKind.i64 0, Value.int IntKind.i64 i] 2 [Value.int IntKind.i64 (IntKind.i64.wrap (0 + 1))]) = pcs f i (pcN f i) ++ [[Value.int IntKind.i64 ((f + i) / 8), Value.int IntKind.i64 ((f + i) % 8), Value.int IntKind.i64 1, Value.int IntKind.i64 i]] := by
    rw [List.set_append_right _ _ (by rw [pcs_len]; exact Nat.le_refl _), pcs_len, Nat.sub_self, IntWalk.i64_in (0 + 1) (by omega)]
    rfl
  have hin : InB (((pcN f i + 1 : Nat) : Int) - 1) (pcN f i + 1) := ⟨by omega, by omega⟩
  refine ⟨fun hlt => ⟨fun h0 => ⟨Nat.le_refl _, Nat.le_refl _, by omega, hin, _, last, 0, rfl, hin, _, last, ?_⟩, fun h0 => ⟨fun h8 => ⟨Nat.le_refl _, Nat.le_refl _, by omega, hin, _, last, 0, rfl, hin, _, last, ?_⟩, fun h8 => ?_⟩⟩, fun hge => ?_⟩
  · rw [hset]
    exact ref_next hlt rfl (pcN_new c1 (.inl h0)).symm (pcs_new c1 (.inl h0)).symm
  · rw [hset]
    exact ref_next hlt rfl (pcN_new c1 (.inr h8)).symm (pcs_new c1 (.inr h8)).symm
  · obtain ⟨e1, e2⟩ := pcN_old c1 h0 h8
    obtain ⟨a, b, c, d, q1, q2, q3, q4⟩ := pcs_old c1 h0 h8
    have hin2 : InB ((pcN f i : Int) - 1) (pcN f i) := ⟨by omega, by omega⟩
    refine ⟨hin2, _, q1, c, rfl, hin2, _, q1, ref_next hlt rfl e1.symm ?_⟩
    rw [q4, IntWalk.i64_in (c + 1) (by omega)]
    rfl
  · have : (i : Int) = m := by omega
    rw [this]
    exact hK)
def stripeS : FuncId → Option Known
  | 7 => some ⟨[], S7⟩
  | 8 => some ⟨[], S8⟩
  | 9 => some ⟨[], S9⟩
  | 10 => some ⟨[], S10⟩
  | 11 => some ⟨[], S10⟩
  | 12 => some ⟨[], S12⟩
  | 13 => some ⟨[], S13⟩
  | _ => none
theorem stripeS_ok : AllOk Try.prog stripeS := fun f k h => by
  unfold stripeS at h
  split at h <;> cases h
  · exact ok7
  · exact ok8
  · exact ok9
  · exact ok10
  · exact ok11
  · exact ok12
  · exact ok13
end Go.Proofs.Ytgadaeodoapgiaa
