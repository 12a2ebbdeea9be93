import Derived.Test.YtkodjbegpheomaaVo
namespace Go.Proofs.Ytkodjbegpheomaa
open Vc Go
set_option linter.unusedVariables false
set_option linter.unusedSimpArgs false
set_option maxRecDepth 100000
theorem okKeepV : SpecOk Try.prog 29 SvKeep := specOk_vt XVo_ok 7 (8, 6) (1, 1) [2, 3, 5, 6] (fun args kb K h => by
  unfold SvKeep at h; split at h <;> try exact h.elim
  obtain ⟨N, s, x, c, ⟨hvi, htab, rfl, rfl, rfl, rfl, rfl, rfl, rfl, rfl, rfl, rfl, rfl, rfl, rfl⟩, rfl, hc, hg, h⟩ := h
  rename_i M
  refine ⟨rfl, noT _, vcKeepV N s M x (chgW c) K ?_⟩
  have hb := VI.b hvi
  have h8 := hb.N8
  have h4 := hb.N4
  have hxl := hb.xl
  have hll := hb.ll
  have hum := hb.um
  have huk := hb.uk
  have hcl := chgL_len (x := s.l) (c := c)
  obtain ⟨c1, c2⟩ := chgW_ok hc
  have hf : (formJ (s.gen : Int) (s.m : Int) (chgW c)).2 = 0 := form_ok ⟨by omega, by omega⟩ ⟨by omega, by omega⟩ c2
  refine ⟨fun q => (by cases q), fun _ => ⟨s.l, c, htab, rfl, hc, by omega, fun M' hM' => ⟨x, ⟨2 * (N / 4), N - 2 * (N / 4), (s.gen : Int), s.u, s.m⟩, [], chgW c, ⟨rfl, rfl, rfl, rfl, rfl, rfl, rfl, rfl, rfl, rfl⟩, rfl, ⟨⟨hb.sec, by dsimp only; omega⟩, huk, ⟨by dsimp only; omega, by dsimp only; omega⟩, by dsimp only; omega⟩, ⟨hb.sec, by simp, fun d hd => (by cases hd)⟩, by omega, by simp, c1, by omega, fun q => absurd hf q, fun _ q => ⟨fun q2 => (by cases q2), fun _ => ⟨fun _ => ?_, fun q2 => (by cases q2)⟩⟩, fun _ q v hv hvp => ⟨fun _ => ?_, fun q2 => (by cases q2)⟩⟩⟩⟩
  · have q' : N - 2 * (N / 4) < s.u + szc s.gen s.m c := q
    have e : keepF N s c = turnF N s (chgL s.l c) := if_neg (by omega)
    rw [e] at h
    exact ⟨N, s, x, chgL s.l c, ⟨hvi, htab, rfl, rfl, rfl, rfl, rfl, rfl, rfl, rfl, rfl, rfl, rfl, rfl, rfl⟩, hM', by omega, hg, fun M2 x2 t1 t2 => h M2 x2 t1 t2⟩
  · have q' : s.u + szc s.gen s.m c ≤ N - 2 * (N / 4) := q
    have e : keepF N s c = (0, ⟨s.gen, chgL s.l c, s.u + szc s.gen s.m c, s.m + 1⟩) := if_pos q'
    rw [e] at h
    obtain ⟨a1, a2, a3, a4⟩ := VI.add hvi hc q'
    exact ⟨addX x (2 * (N / 4) + s.u) s.gen s.m c, ⟨2 * (N / 4), N - 2 * (N / 4), (s.gen : Int), s.u + szc s.gen s.m c, s.m + 1⟩, addG (2 * (N / 4) + s.u) s.gen s.m c, ⟨rfl, rfl, rfl, rfl, rfl, rfl, rfl, rfl, rfl, rfl⟩, a1, a3, fun q => (by cases q), fun _ => h M' _ hM' a4⟩)
theorem vpS_ok : AllOk Try.prog vpS := fun f k h => by
  unfold vpS at h
  split at h
  · cases h; exact okKeepV
  · exact pxS_ok _ _ h
theorem XVp_ok : CallOk Try.prog XVp := callS_ok mixed vpS_ok noT 10
theorem okPutV : SpecOk Try.prog 10 SvPut := specOk_vt XVp_ok 7 (8, 6) (1, 1) [2, 3, 5, 6] (fun args kb K h => by
  unfold SvPut at h; split at h <;> try exact h.elim
  obtain ⟨N, s, x, b, ⟨hvi, htab, rfl, rfl, rfl, rfl, rfl, rfl, rfl, rfl, rfl, rfl, rfl, rfl, rfl⟩, rfl, hbb, hbl, hg, h⟩ := h
  rename_i key M
  refine ⟨rfl, noT _, vcPutV N s M x key b K ?_⟩
  refine ⟨fun q => ?_, fun q => ⟨fun q2 => ?_, fun q2 => ⟨fun q3 => ?_, fun q3 => ?_⟩⟩⟩
  · simp only [decide_eq_true_eq] at q
    have e : putF N s key b = (5, s) := if_pos (fun hk => by have := hk.lo; omega)
    rw [e] at h
    exact h M x htab hvi
  · simp only [gt_iff_lt, decide_eq_true_eq] at q2
    have e : putF N s key b = (5, s) := if_pos (fun hk => by have := hk.hi; omega)
    rw [e] at h
    exact h M x htab hvi
  all_goals simp only [gt_iff_lt, decide_eq_true_eq, decide_eq_false_iff_not, ints_len] at q q2 q3
  all_goals have hk : NumJ key := ⟨by omega, by omega⟩
  · have e : putF N s key b = (15, s) := by unfold putF; rw [if_neg (fun hn => hn hk), if_pos (by omega)]
    rw [e] at h
    exact h M x htab hvi
  · have e : putF N s key b = keepF N s (key, some b) := by unfold putF; rw [if_neg (fun hn => hn hk), if_neg (by omega)]
    rw [e] at h
    have hc : ChgOk (key, some b) := ⟨hk, fun b' hb' => by cases hb'; exact ⟨hbb, by omega⟩⟩
    have hn := (numW_len key).2
    have ht := (textW_len b).2
    have hcw := (chgW_ok hc).2
    refine ⟨[], rfl, rfl, Nat.zero_le _, ⟨by omega⟩, numW key, rfl, rfl, by omega, ⟨by omega⟩, numW key ++ [1], b, rfl, rfl, rfl, by rw [List.length_append, List.length_singleton]; omega, by omega, chgW (key, some b), rfl, rfl, by omega, by rw [ints_len]; exact Nat.le_refl _, N, s, x, (key, some b), ⟨hvi, htab, rfl, rfl, rfl, rfl, rfl, rfl, rfl, rfl, rfl, rfl, rfl, rfl, rfl⟩, by rw [take_i, List.drop_zero], hc, hg, fun M2 x2 t1 t2 => h M2 x2 t1 t2⟩)
theorem okDropV : SpecOk Try.prog 20 SvDrop := specOk_vt XVp_ok 7 (8, 6) (1, 1) [2, 3, 5, 6] (fun args kb K h => by
  unfold SvDrop at h; split at h <;> try exact h.elim
  obtain ⟨N, s, x, ⟨hvi, htab, rfl, rfl, rfl, rfl, rfl, rfl, rfl, rfl, rfl, rfl, rfl, rfl, rfl⟩, hg, h⟩ := h
  rename_i key M
  refine ⟨rfl, noT _, vcDropV N s M x key K ?_⟩
  have hh := (tab_has htab key).1
  refine ⟨tab_conf htab key, fun q => ?_, fun q => ?_⟩
  · have e : dropF N s key = (7, s) := if_pos (by
      rw [hh] at q
      cases hg : getP s.l key with
      | none => rfl
      | some b => rw [hg] at q; cases q)
    rw [e] at h
    exact h M x htab hvi
  · rw [hh] at q
    cases hgp : getP s.l key with
    | none => rw [hgp] at q; cases q
    | some b =>
      have e : dropF N s key = keepF N s (key, none) := if_neg (by rw [hgp]; intro q; cases q)
      rw [e] at h
      have hk : NumJ key := (htab.rg _ (getP_some hgp)).1
      have hk2 := hk.hi
      have hc : ChgOk (key, none) := ⟨hk, fun b' hb' => (by cases hb')⟩
      have hn := (numW_len key).2
      have hcw := (chgW_ok hc).2
      refine ⟨[], rfl, rfl, Nat.zero_le _, ⟨by omega⟩, numW key, rfl, rfl, by omega, ⟨by omega⟩, chgW (key, none), rfl, rfl, by omega, by rw [ints_len]; exact Nat.le_refl _, N, s, x, (key, none), ⟨hvi, htab, rfl, rfl, rfl, rfl, rfl, rfl, rfl, rfl, rfl, rfl, rfl, rfl, rfl⟩, by rw [take_i, List.drop_zero], hc, hg, fun M2 x2 t1 t2 => h M2 x2 t1 t2⟩)
end Go.Proofs.Ytkodjbegpheomaa
