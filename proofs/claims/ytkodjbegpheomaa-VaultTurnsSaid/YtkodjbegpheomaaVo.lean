import Derived.Test.YtkodjbegpheomaaVn
namespace Go.Proofs.Ytkodjbegpheomaa
open Vc Go
set_option linter.unusedVariables false
set_option linter.unusedSimpArgs false
set_option maxRecDepth 100000
theorem specOk_vt {X : CallT} (hX : CallOk Try.prog X) (n : Nat) (m1 m2 : Nat × Nat) (ks : List Nat) {f : FuncId} {S : FSpec} (h : ∀ args kb K, S args kb K → kb.length = n ∧ ∃ T, runSpec Try.prog X T f args kb (vtidy n m1 m2 ks K)) : SpecOk Try.prog f S := by
  have h0 : SpecOk Try.prog f (fun a k K0 => ∃ T, runSpec Try.prog X T f a k K0) := specOk_of' hX mixed fun _ _ _ h => h
  have h1 := tidyOut_ok (nilOut_ok h0 [.mvP 0 3, .mvP 0 4])
  have h2 := tidyOut_ok (nilOut_ok h1 ([.mv m1.1 m1.2, .mv m2.1 m2.2] ++ ks.map .kill))
  exact fun args kb K hs => h2 args kb K (by obtain ⟨rfl, hh⟩ := h args kb K hs; exact hh)
theorem vnS_ok : AllOk Try.prog vnS := fun f k h => by
  unfold vnS at h
  split at h
  · cases h; exact okMapClone
  · cases h; exact okMapKeys
  · cases h; exact okSorted
  · cases h; exact cloneN_of okClone
  · cases h; exact okRecords
  · cases h; exact okSectors
  · cases h; exact okChange
  · cases h; exact okCheck
  · cases h; exact okVlay
  · cases h; exact okJOpen
  · cases h; exact okJAdd
  · cases h; exact okJFlush
  · cases h; exact okLenD
  · cases h
theorem XVn_ok : CallOk Try.prog XVn := callS_ok mixed vnS_ok noT 10
theorem tab_conf {M : ML} {x : List P2} (h : Tab M x) (k : Int) : ∀ cs, mget M [k] = some cs → ConfK [CK.sl 1] cs := fun cs hcs => by
  rw [tbl_get h] at hcs
  cases hg : getP x k with
  | none => rw [hg] at hcs; cases hcs
  | some b => rw [hg] at hcs; cases hcs; exact ⟨_, [], rfl, rfl⟩
theorem getP_le {x : List P2} (h : OkL x) (k : Int) : ((getP x k).getD []).length ≤ 900 ∧ Byt ((getP x k).getD []) := by
  cases hg : getP x k with
  | none => exact ⟨Nat.zero_le _, fun c hc => (by cases hc)⟩
  | some b => have := h.rg _ (getP_some hg); exact ⟨this.2.2, this.2.1⟩
theorem okGetV : SpecOk Try.prog 11 SvGet := specOk_ntn XVn_ok [.slot 0 5 1] 7 (fun args kb K h => by
  unfold SvGet at h; split at h <;> try exact h.elim
  obtain ⟨N, s, x, ⟨hvi, htab, rfl, rfl, rfl, rfl, rfl, rfl, rfl, rfl, rfl, rfl, rfl, rfl, rfl⟩, h⟩ := h
  rename_i key M
  refine ⟨rfl, noT _, vcGetV N s M x key K ?_⟩
  obtain ⟨e1, e2⟩ := tab_has htab key
  have hb := getP_le htab.toOkL key
  rw [e1, e2, ints_len]
  exact ⟨tab_conf htab key, by omega, h⟩)
theorem okKeysV : SpecOk Try.prog 22 SvKeys := specOk_ntn XVn_ok [.slot 0 3 1] 7 (fun args kb K h => by
  unfold SvKeys at h; split at h <;> try exact h.elim
  obtain ⟨N, s, x, ⟨hvi, htab, rfl, rfl, rfl, rfl, rfl, rfl, rfl, rfl, rfl, rfl, rfl, rfl, rfl⟩, h⟩ := h
  rename_i M
  refine ⟨rfl, noT _, vcKeysV N s M x K ?_⟩
  obtain ⟨hK, hs, hML⟩ := tab_keys htab
  rw [hs, hML]
  refine ⟨rfl, rfl, rfl, hK, fun hM => ?_, h⟩
  have hx : s.l = [] := by
    rw [hM] at hML
    exact List.length_eq_zero_iff.1 hML.symm
  rw [hx] at h
  exact h)
theorem okGenV : SpecOk Try.prog 9 SvGen := specOk_tdn XVn_ok 7 (fun args kb K h => by
  unfold SvGen at h; split at h <;> try exact h.elim
  obtain ⟨N, s, x, ⟨hvi, htab, rfl, rfl, rfl, rfl, rfl, rfl, rfl, rfl, rfl, rfl, rfl, rfl, rfl⟩, h⟩ := h
  exact ⟨rfl, noT _, vcGenV N s _ x K h⟩)
theorem sel_step {N : Nat} {s : VSt} {x : List (List Int)} {g0 g1 : Nat} {l0 l1 : List P2} {cs : List Chg} (h : VOp N s x g0 g1 l0 l1 cs) {i : Nat} (hi : i < 2) : ∃ g l, Pl (N / 4) g l ((x.drop (i * (N / 4))).take (N / 4)) ∧
    (g ≤ selG g0 g1 i → selG g0 g1 (i + 1) = selG g0 g1 i ∧ selL g0 g1 l0 l1 (i + 1) = selL g0 g1 l0 l1 i) ∧ (selG g0 g1 i < g → selG g0 g1 (i + 1) = g ∧ selL g0 g1 l0 l1 (i + 1) = l) := by
  rcases (by omega : i = 0 ∨ i = 1) with rfl | rfl
  · refine ⟨g0, l0, by rw [Nat.zero_mul]; exact h.p0, fun q => ?_, fun q => ?_⟩
    · have : g0 = 0 := Nat.le_zero.1 q
      exact ⟨this, h.p0.z this⟩
    · exact ⟨rfl, rfl⟩
  · refine ⟨g1, l1, by rw [Nat.one_mul]; exact h.p1, fun q => ?_, fun q => ?_⟩
    · have q' : ¬ g0 < g1 := by have : g1 ≤ g0 := q; omega
      exact ⟨by show (if g0 < g1 then g1 else g0) = g0; rw [if_neg q'], by show (if g0 < g1 then l1 else l0) = l0; rw [if_neg q']⟩
    · have q' : g0 < g1 := q
      exact ⟨by show (if g0 < g1 then g1 else g0) = g1; rw [if_pos q'], by show (if g0 < g1 then l1 else l0) = l1; rw [if_pos q']⟩
theorem okOpenV : SpecOk Try.prog 8 SvOpen := specOk_tidy XVn_ok mixed (fun args kb K h => by
  unfold SvOpen at h; split at h <;> try exact h.elim
  · exact ⟨noT _, vcOpenN () K h⟩
  obtain ⟨N, s, x, rfl, rfl, ⟨rfl, rfl⟩, hvi, h⟩ := h
  obtain ⟨g0, g1, l0, l1, cs, hop⟩ := vi_open hvi
  have hb := hop.b
  have h8 := hb.N8
  have h4 := hb.N4
  have hxl := hb.xl
  have hok := hb.okl
  have hcl := hop.cl
  have hum := hb.um
  have huk := hb.uk
  have hgg := hb.hg
  refine ⟨vnT N s x g0 g1 l0 l1 (if g0 < g1 then l1 else l0) cs _, vcOpenV N s x g0 g1 l0 l1 (if g0 < g1 then l1 else l0) cs K ?_⟩
  have w0 : IntKind.i64.wrap ((x.length : Int).tdiv 4) = ((N / 4 : Nat) : Int) := by
    rw [Int.tdiv_eq_ediv_of_nonneg (by omega), w64 (by omega) (by omega), hxl]; omega
  have w2 : IntKind.i64.wrap (2 * ((N / 4 : Nat) : Int)) = ((2 * (N / 4) : Nat) : Int) := by rw [w64 (by omega) (by omega)]; omega
  have w3 : IntKind.i64.wrap ((x.length : Int) - ((2 * (N / 4) : Nat) : Int)) = ((N - 2 * (N / 4) : Nat) : Int) := by rw [w64 (by omega) (by omega)]; omega
  have hpr : ∀ f k, f + k ≤ N → Prt x f k := fun f k hfk => ⟨hb.sec, by omega⟩
  refine ⟨x, rfl, rfl, rfl, fun q => ?_, fun _ => ⟨x, rfl, rfl, rfl, ?_, ?_⟩⟩
  · simp only [decide_eq_true_eq] at q; omega
  · rw [w0]
    exact At.mk' (⟨(0, []), Nat.zero_le _, tab_nil⟩ : {p : Nat × ML // p.1 ≤ 2 ∧ Tab p.2 (selL g0 g1 l0 l1 p.1)}) rfl
  rintro ⟨⟨i, M⟩, hi, hT⟩
  dsimp only at hi hT ⊢
  refine ⟨fun hc => ?_, fun hc => ?_⟩
  · simp only [decide_eq_true_eq] at hc
    have hi2 : i < 2 := by omega
    obtain ⟨g, l, hpl, s1, s2⟩ := sel_step hop hi2
    have w4 : IntKind.i64.wrap ((i : Int) * ((N / 4 : Nat) : Int)) = ((i * (N / 4) : Nat) : Int) := by
      rcases (by omega : i = 0 ∨ i = 1) with rfl | rfl
      · rw [show ((0 : Nat) : Int) * ((N / 4 : Nat) : Int) = 0 by omega, Nat.zero_mul]; rfl
      · rw [show ((1 : Nat) : Int) * ((N / 4 : Nat) : Int) = ((N / 4 : Nat) : Int) by omega, Nat.one_mul, w64 (by omega) (by omega)]
    have hfit : i * (N / 4) + N / 4 ≤ N := by
      rcases (by omega : i = 0 ∨ i = 1) with rfl | rfl <;> omega
    have w5 : IntKind.i64.wrap ((i : Int) + 1) = ((i + 1 : Nat) : Int) := by rw [w64 (by omega) (by omega)]; omega
    rw [w4, w5]
    refine ⟨x, i * (N / 4), N / 4, g, l, rfl, rfl, rfl, rfl, rfl, hpr _ _ hfit, hb.byt, by omega, hpl, fun hg0 => ⟨fun q => (by cases q), fun _ => ⟨fun q => ?_, fun q => ?_⟩⟩, fun hg1 M' hM' => ⟨fun q => (by cases q), fun _ => ⟨fun q => ?_, fun q => ?_⟩⟩⟩
    · simp only [decide_eq_true_eq] at q; omega
    · obtain ⟨t1, t2⟩ := s1 (by omega)
      rw [← t1]
      exact Nx.mk' (⟨(i + 1, M), by show i + 1 ≤ 2; omega, by dsimp only; rw [t2]; exact hT⟩ : {p : Nat × ML // p.1 ≤ 2 ∧ Tab p.2 (selL g0 g1 l0 l1 p.1)}) rfl (by dsimp only; omega)
    · simp only [decide_eq_true_eq] at q
      obtain ⟨t1, t2⟩ := s2 (by omega)
      rw [← t1]
      exact Nx.mk' (⟨(i + 1, M'), by show i + 1 ≤ 2; omega, by dsimp only; rw [t2]; exact hM'⟩ : {p : Nat × ML // p.1 ≤ 2 ∧ Tab p.2 (selL g0 g1 l0 l1 p.1)}) rfl (by dsimp only; omega)
    · simp only [decide_eq_false_iff_not] at q
      obtain ⟨t1, t2⟩ := s1 (by omega)
      rw [← t1]
      exact Nx.mk' (⟨(i + 1, M), by show i + 1 ≤ 2; omega, by dsimp only; rw [t2]; exact hT⟩ : {p : Nat × ML // p.1 ≤ 2 ∧ Tab p.2 (selL g0 g1 l0 l1 p.1)}) rfl (by dsimp only; omega)
  · simp only [decide_eq_false_iff_not] at hc
    have e : i = 2 := by omega
    subst e
    have eG : selG g0 g1 2 = s.gen := hop.sel
    have eL : selL g0 g1 l0 l1 2 = (if g0 < g1 then l1 else l0) := rfl
    rw [eL] at hT
    rw [eG, w2]
    refine ⟨x, rfl, rfl, rfl, ⟨rfl⟩, ⟨rfl⟩, ⟨rfl⟩, rfl, x, 2 * (N / 4), N - 2 * (N / 4), rfl, w3, rfl, rfl, rfl, hpr _ _ (by omega), hb.byt, ⟨by omega, by omega⟩, ⟨hb.sec, by simp, fun d hd => (by cases hd)⟩, by omega, fun w' L u hw hs hu => ⟨fun q => (by cases q), fun _ => ⟨?_, ?_⟩⟩⟩
    · have : w' = [] := hw.elim id id
      subst this
      rw [hop.scan] at hs
      cases hs
      rw [hop.sw, List.length_map]
      refine At.mk' (⟨(0, M), Nat.zero_le _, hT⟩ : {p : Nat × ML // p.1 ≤ cs.length ∧ Tab p.2 ((cs.take p.1).foldl chgL (if g0 < g1 then l1 else l0))}) ?_
      show _ = (([_, _, _, _], [_, _, _, _, _, _, _, .cells [_, _, _, _, _, .int .i64 (s.m : Int), _, _], _]) : List V × KB)
      rw [← hcl]; rfl
    rintro ⟨⟨j, M2⟩, hj, hT2⟩
    dsimp only at hj hT2 ⊢
    refine ⟨fun hc => ?_, fun hc => ?_⟩
    · simp only [decide_eq_true_eq] at hc
      have hj2 : j < cs.length := by omega
      have htk : cs.take (j + 1) = cs.take j ++ [cs[j]] := by rw [List.take_add_one, List.getElem?_eq_getElem hj2]; rfl
      have hcok := hop.cok _ (List.getElem_mem hj2)
      have hl2 : ((cs.take j).foldl chgL (if g0 < g1 then l1 else l0)).length < 100000 := by
        have hbase : (if g0 < g1 then l1 else l0).length ≤ 4096 ∧ OkL (if g0 < g1 then l1 else l0) := by
          have := hop.p0.ll; have := hop.p1.ll
          split
          · exact ⟨by omega, hop.p1.okl⟩
          · exact ⟨by omega, hop.p0.okl⟩
        have := (foldl_chg hbase.2 (cs := cs.take j) (fun c hc => hop.cok c (List.mem_of_mem_take hc))).2
        rw [List.length_take] at this
        omega
      refine ⟨by unfold InB; omega, bsl (chgW cs[j]), by rw [Nat.zero_add, Int.toNat_natCast, List.getElem?_map, List.getElem?_map, List.getElem?_eq_getElem hj2]; rfl, ints .u8 (chgW cs[j]), rfl, _, cs[j], hT2, rfl, hcok, hl2, fun M' hM' => ⟨fun q => (by cases q), fun _ => ?_⟩⟩
      rw [w64 (n := (j : Int) + 1) (by omega) (by omega)]
      exact Nx.mk' (⟨(j + 1, M'), by show j + 1 ≤ cs.length; omega, by dsimp only; rw [htk, List.foldl_append]; exact hM'⟩ : {p : Nat × ML // p.1 ≤ cs.length ∧ Tab p.2 ((cs.take p.1).foldl chgL (if g0 < g1 then l1 else l0))}) rfl (by dsimp only; omega)
    · simp only [decide_eq_false_iff_not] at hc
      have e : j = cs.length := by omega
      subst e
      rw [List.take_length, ← hop.hl] at hT2
      exact h M2 hT2)
theorem okTurnV : SpecOk Try.prog 49 SvTurn := specOk_vt XVn_ok 8 (9, 6) (2, 1) [1, 3, 4, 6, 7] (fun args kb K h => by
  unfold SvTurn at h; split at h <;> try exact h.elim
  obtain ⟨N, s, x, l, ⟨hvi, htab, rfl, rfl, rfl, rfl, rfl, rfl, rfl, rfl, rfl, rfl, rfl, rfl, rfl⟩, hT1, hl, hg, h⟩ := h
  rename_i M1 M
  refine ⟨rfl, noT _, vcTurnV N s M M1 x K ?_⟩
  have hb := VI.b hvi
  have h8 := hb.N8
  have h4 := hb.N4
  have hxl := hb.xl
  obtain ⟨pre, P, post, hx, hpre, hP, h1, h2, hcut⟩ := VI.cut hvi
  have w1 : IntKind.i64.wrap ((s.gen : Int) + 1) = ((s.gen + 1 : Nat) : Int) := by rw [w64 (by omega) (by omega)]; omega
  have w2 : IntKind.i64.wrap (((s.gen + 1 : Nat) : Int) + 1) = ((s.gen + 2 : Nat) : Int) := by rw [w64 (by omega) (by omega)]; omega
  have hpm : s.gen % 2 * (N / 4) ≤ N / 4 := by
    rcases (by omega : s.gen % 2 = 0 ∨ s.gen % 2 = 1) with q | q <;> rw [q] <;> omega
  have w3 : IntKind.i64.wrap (((s.gen + 2 : Nat) : Int).tmod 2 * ((N / 4 : Nat) : Int)) = ((placeA N s.gen : Nat) : Int) := by
    have e : ((s.gen + 2 : Nat) : Int).tmod 2 = ((s.gen % 2 : Nat) : Int) := by
      rw [Int.tmod_eq_emod_of_nonneg (by omega)]; omega
    rw [e, ← Int.natCast_mul, w64 (by omega) (by omega)]; rfl
  have w4 : IntKind.i64.wrap (2 * ((N / 4 : Nat) : Int)) = ((2 * (N / 4) : Nat) : Int) := by rw [w64 (by omega) (by omega)]; omega
  have w5 : ∀ n : Nat, n = N → IntKind.i64.wrap ((n : Int) - ((2 * (N / 4) : Nat) : Int)) = ((N - 2 * (N / 4) : Nat) : Int) := fun n hn => by rw [w64 (by omega) (by omega)]; omega
  have hrl : (recW l).length = l.length + 1 := by simp [recW]
  have hall := recW_all hT1.toOkL hT1.len
  have hrec : RecOk ((s.gen + 1 : Nat) : Int) 0 (recW l) := recOk_all ⟨by omega, by omega⟩ hall (by omega)
  have t0 : List.drop 0 (List.take (recW l).length (List.map bsl (recW l))) = List.map bsl (recW l) := by
    rw [List.drop_zero, List.take_of_length_le (by rw [List.length_map]; exact Nat.le_refl _)]
  have tl : (recW l).length ≤ (List.map bsl (recW l)).length := by rw [List.length_map]; exact Nat.le_refl _
  rw [w1, w2, w3, w4]
  refine ⟨l, hT1, ⟨tl, trivial⟩, recW l, t0, ⟨hrec⟩, by omega, hall, trivial, ⟨rfl⟩, fun q => ?_, fun q => ⟨tl, x, ⟨pre, P, post⟩, placeA N s.gen, N / 4, s.gen + 1, recW l, rfl, rfl, rfl, rfl, ⟨rfl, rfl⟩, ⟨hx, hpre, hP, h1, h2, by omega, by omega, fun b hb2 => ⟨hb.sec.each b hb2, hb.byt b hb2⟩⟩, rfl, by omega, t0, hall, by omega, ⟨hrec⟩, ?_, fun x' B hlay => ⟨fun q => (by cases q), fun _ => ?_⟩⟩⟩
  · simp only [gt_iff_lt, decide_eq_true_eq] at q
    have e : turnF N s l = (6, s) := if_neg (by omega)
    rw [e] at h
    exact h M x htab hvi
  · simp only [gt_iff_lt, decide_eq_false_iff_not] at q; omega
  · simp only [gt_iff_lt, decide_eq_false_iff_not] at q
    have e : turnF N s l = (0, ⟨s.gen + 1, l, 0, 0⟩) := if_pos (by omega)
    rw [e] at h
    obtain ⟨c1, c2, c3, c4, c5⟩ := hcut x' B l hlay hT1.toOkL hg
    have hsl : (swX x' (2 * (N / 4) + 0) (N - 2 * (N / 4) - 0)).length = x'.length := swX_len (by omega)
    refine ⟨x', rfl, rfl, rfl, ⟨rfl⟩, ⟨rfl⟩, ⟨rfl⟩, rfl, x', 2 * (N / 4), N - 2 * (N / 4), rfl, w5 _ c2, rfl, rfl, rfl, ⟨c1, by omega⟩, c3, ⟨by omega, by omega⟩, ⟨c1, by simp, fun d hd => (by cases hd)⟩, by omega, fun w' L u hw hs hu => ⟨fun q => (by cases q), fun _ => ?_⟩⟩
    have : w' = [] := hw.elim id id
    subst this
    rw [c4] at hs
    cases hs
    have h' := h M1 _ hT1 c5
    unfold vauT devV at h'
    rw [hsl] at h'
    exact h')
theorem voS_ok : AllOk Try.prog voS := fun f k h => by
  unfold voS at h
  split at h
  · cases h; exact okTurnV
  · exact vnS_ok _ _ h
theorem XVo_ok : CallOk Try.prog XVo := callS_ok mixed voS_ok noT 10
end Go.Proofs.Ytkodjbegpheomaa
