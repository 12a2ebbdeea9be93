import Derived.Test.YtkodjbegpheomaaVr
namespace Go.Proofs.Ytkodjbegpheomaa
open Vc Go
set_option linter.unusedVariables false
set_option linter.unusedSimpArgs false
set_option maxRecDepth 100000
theorem vraS_ok : AllOk Try.prog vraS := fun f k h => by
  unfold vraS at h
  split at h
  · cases h; exact okSame
  · cases h; exact okRefNum
  · cases h; exact okRefText
  · cases h; exact okKeysV
  · cases h; exact okGetV
  · cases h
theorem XVa_ok : CallOk Try.prog XVa := callS_ok mixed vraS_ok noT 10
theorem prs_get {x : List P2} {i : Nat} (h : i < x.length) : (x.map prD)[((i : Nat) : Int).toNat]? = some (prD (gP x i)) := by
  rw [Int.toNat_natCast, List.getElem?_map, gP_get h]; rfl
theorem take_gP {x : List P2} {i : Nat} (h : i < x.length) : x.take (i + 1) = x.take i ++ [gP x i] := by
  rw [List.take_add_one, gP_get h]; rfl
theorem outL_snoc {x : List P2} {p : P2} {k : Int} : outL (x ++ [p]) k = outL x k ++ if p.1 = k then [] else [p] := by
  unfold outL
  rw [List.filter_append]
  congr 1
  by_cases h : p.1 = k <;> simp [h]
theorem lohi {y : List P2} {k : Int} (hi : y.Pairwise (fun a b => a.1 < b.1)) (hk : ∀ p ∈ y, p.1 ≠ k) : lo2 y k ++ hi2 y k = y := by
  induction y with
  | nil => rfl
  | cons p t ih =>
    rw [List.pairwise_cons] at hi
    have ih' := ih hi.2 (fun q hq => hk q (List.mem_cons_of_mem _ hq))
    have hp := hk p List.mem_cons_self
    unfold lo2 hi2 at ih' ⊢
    by_cases h : p.1 < k
    · have h2 : ¬ k < p.1 := by omega
      rw [List.filter_cons_of_pos (by simpa using h), List.filter_cons_of_neg (by simpa using h2), List.cons_append, ih']
    · have h2 : k < p.1 := by omega
      rw [List.filter_cons_of_neg (by simpa using h), List.filter_cons_of_pos (by simpa using h2)]
      have e1 : t.filter (fun p => decide (p.1 < k)) = [] := List.filter_eq_nil_iff.2 fun q hq => by have := hi.1 q hq; simp; omega
      rw [e1] at ih' ⊢
      rw [List.nil_append] at ih' ⊢
      rw [ih']
theorem lo_lt {y : List P2} {k : Int} : ∀ p ∈ lo2 y k, p.1 < k := fun p hp => by have := (List.mem_filter.1 hp).2; simpa using this
theorem hi_lt {y : List P2} {k : Int} : ∀ p ∈ hi2 y k, k < p.1 := fun p hp => by have := (List.mem_filter.1 hp).2; simpa using this
theorem lo_out {x : List P2} {k : Int} : lo2 (outL x k) k = lo2 x k := by
  unfold lo2 outL
  rw [List.filter_filter]
  apply List.filter_congr
  intro p _
  by_cases h : p.1 < k
  · have : p.1 ≠ k := by omega
    simp [h, this]
  · simp [h]
theorem hi_out {x : List P2} {k : Int} : hi2 (outL x k) k = hi2 x k := by
  unfold hi2 outL
  rw [List.filter_filter]
  apply List.filter_congr
  intro p _
  by_cases h : k < p.1
  · have : p.1 ≠ k := by omega
    simp [h, this]
  · simp [h]
structure AcY (y : List P2) (k : Int) : Prop where
  inc : y.Pairwise (fun a b => a.1 < b.1)
  ne : ∀ p ∈ y, p.1 ≠ k
theorem AcY.lt {y : List P2} {k : Int} (h : AcY y k) {i : Nat} (hi : i < y.length) : (i < (lo2 y k).length → (gP y i).1 < k) ∧ ((lo2 y k).length ≤ i → k < (gP y i).1 ∧ (hi2 y k)[i - (lo2 y k).length]? = some (gP y i)) := by
  have e := lohi h.inc h.ne
  have hg : (lo2 y k ++ hi2 y k)[i]? = some (gP y i) := by rw [e]; exact gP_get hi
  refine ⟨fun q => ?_, fun q => ?_⟩
  · rw [List.getElem?_append_left q] at hg
    exact lo_lt _ (List.mem_of_getElem? hg)
  · rw [List.getElem?_append_right q] at hg
    exact ⟨hi_lt _ (List.mem_of_getElem? hg), hg⟩
theorem AcY.take {y : List P2} {k : Int} (h : AcY y k) : y.take (lo2 y k).length = lo2 y k := by
  conv => lhs; rw [← lohi h.inc h.ne]
  rw [lohi h.inc h.ne]
  conv => lhs; arg 2; rw [← lohi h.inc h.ne]
  rw [List.take_left]
theorem AcY.len {y : List P2} {k : Int} (h : AcY y k) : (lo2 y k).length + (hi2 y k).length = y.length := by
  rw [← List.length_append, lohi h.inc h.ne]
theorem acc_le {y : List P2} {k : Int} {b : List Int} {i : Nat} : (accL y k b i).length ≤ i + 1 := by
  unfold accL
  split
  · rw [List.length_append, List.length_cons, List.length_take]; omega
  · rw [List.length_take]; omega
theorem prd_app {a : List P2} {p : P2} : List.take a.length (a.map prD) ++ [[D.val (Value.int IntKind.i64 p.1), D.sl 1 (ints .u8 p.2)]] = (a ++ [p]).map prD := by
  rw [List.take_of_length_le (by rw [List.length_map]; exact Nat.le_refl _), List.map_append]; rfl
theorem okROne : SpecOk Try.prog 33 SrOne := specOk_tdn XVa_ok 0 (fun args kb K h => by
  unfold SrOne at h; split at h <;> try exact h.elim
  obtain ⟨a, c, rfl, rfl, ha, hc, h⟩ := h
  refine ⟨rfl, noT _, vcOne (a : Int) (c : Int) K ⟨⟨by omega⟩, ⟨by omega⟩, ?_⟩⟩
  have h1 := (numW_len (a : Int)).2
  have h2 := (numW_len (c : Int)).2
  have e : (IntKind.i64.wrap ((IntKind.i64.wrap (IntKind.i64.wrap (IntKind.i64.wrap (IntKind.i64.wrap (IntKind.i64.wrap (4 + (↑((numW (a : Int)).length - 0) : Int)) + (↑((numW (c : Int)).length - 0) : Int)) + (c : Int)) + 4) + 63)).tdiv 64)) = (oneN a c : Int) := by
    unfold oneN
    rw [w64 (n := 4 + (↑((numW (a : Int)).length - 0) : Int)) (by omega) (by omega), w64 (n := 4 + (↑((numW (a : Int)).length - 0) : Int) + (↑((numW (c : Int)).length - 0) : Int)) (by omega) (by omega), w64 (n := _ + (c : Int)) (by omega) (by omega), w64 (n := _ + 4) (by omega) (by omega), w64 (n := _ + 63) (by omega) (by omega), Int.tdiv_eq_ediv_of_nonneg (by omega), w64 (by omega) (by omega)]
    omega
  rw [e]; exact h)
theorem okRAt : SpecOk Try.prog 19 SrAt := specOk_tdn XVa_ok 0 (fun args kb K h => by
  unfold SrAt at h; split at h <;> try exact h.elim
  rename_i k
  obtain ⟨x, rfl, hl, h1, h2⟩ := h
  refine ⟨rfl, vrT x [] k [] 0 s0 [] [] _, vcAt x k K ⟨At.mk' ⟨0, Nat.zero_le _, fun p hp => (by cases hp)⟩ rfl, ?_⟩⟩
  rintro ⟨i, hi, hne⟩
  dsimp only
  rw [List.length_map]
  refine ⟨fun hc => ?_, fun hc => ?_⟩
  · simp only [decide_eq_true_eq] at hc
    have hi2 : i < x.length := by omega
    refine ⟨nonNat i, prD (gP x i), prs_get hi2, (gP x i).1, rfl, fun q => ?_, fun q => ?_⟩
    · simp only [beq_iff_eq] at q
      exact h2 i hi2 q
    · simp only [beq_eq_false_iff_ne] at q
      rw [w64 (n := (i : Int) + 1) (by omega) (by omega)]
      refine Nx.mk' (⟨i + 1, by omega, fun p hp => ?_⟩ : {i : Nat // i ≤ x.length ∧ ∀ p ∈ x.take i, p.1 ≠ k}) rfl (by show x.length - (i + 1) < x.length - i; omega)
      rw [take_gP hi2] at hp
      rcases List.mem_append.1 hp with t | t
      · exact hne p t
      · rw [List.mem_singleton] at t; rw [t]; exact q
  · simp only [decide_eq_false_iff_not] at hc
    rw [List.take_of_length_le (by omega)] at hne
    exact h1 hne)
theorem okROut0 : SpecOk Try.prog 18 SrOut0 := specOk_ntn XVa_ok [.slot 0 77 2] 0 (fun args kb K h => by
  unfold SrOut0 at h; split at h <;> try exact h.elim
  rename_i k
  obtain ⟨x, rfl, hl, h⟩ := h
  refine ⟨rfl, vrT x [] k [] 0 s0 [] [] _, vcOut x k K ⟨At.mk' ⟨0, Nat.zero_le _⟩ rfl, ?_⟩⟩
  rintro ⟨i, hi⟩
  dsimp only
  rw [List.length_map]
  refine ⟨fun hc => ?_, fun hc => ?_⟩
  · simp only [decide_eq_true_eq] at hc
    have hi2 : i < x.length := by omega
    have hs := outL_snoc (x := x.take i) (p := gP x i) (k := k)
    rw [← take_gP hi2] at hs
    have hol : (outL (x.take i) k).length ≤ x.length := by
      have := outL_len (x := x.take i) (k := k)
      rw [List.length_take] at this; omega
    rw [w64 (n := (i : Int) + 1) (by omega) (by omega)]
    refine ⟨nonNat i, prD (gP x i), prs_get hi2, (gP x i).1, rfl, fun q => ⟨nonNat i, prD (gP x i), prs_get hi2, (gP x i).1, rfl, ints .u8 (gP x i).2, rfl, Nat.le_refl _, by rw [List.length_map]; exact Nat.le_refl _, by omega, ?_⟩, fun q => ?_⟩
    · simp only [bne_iff_ne, ne_eq] at q
      rw [if_neg q] at hs
      rw [prd_app]
      refine Nx.mk' (⟨i + 1, by omega⟩ : {i : Nat // i ≤ x.length}) ?_ (by show x.length - (i + 1) < x.length - i; omega)
      show _ = (([_, _, .sl 0 0 (outL (x.take (i + 1)) k).length, _], [prR (outL (x.take (i + 1)) k)]) : List V × KB)
      rw [hs, List.length_append]
      rfl
    · have q' : (gP x i).1 = k := by simpa using q
      rw [if_pos q', List.append_nil] at hs
      refine Nx.mk' (⟨i + 1, by omega⟩ : {i : Nat // i ≤ x.length}) ?_ (by show x.length - (i + 1) < x.length - i; omega)
      show _ = (([_, _, .sl 0 0 (outL (x.take (i + 1)) k).length, _], [prR (outL (x.take (i + 1)) k)]) : List V × KB)
      rw [hs]
      rfl
  · simp only [decide_eq_false_iff_not] at hc
    rw [List.take_of_length_le (by omega)]
    exact h)
theorem okROut : SpecOk Try.prog 18 SrOut := fun args kb K hs => gvTidy_ok okROut0 [.give 2] args kb K (by
  unfold SrOut at hs; split at hs <;> try exact hs.elim
  obtain ⟨x, rfl, hl, h⟩ := hs
  refine ⟨x, rfl, hl, by rw [List.length_map]; exact Nat.le_refl _, ?_⟩
  show K (.dat (.sl 2 (List.drop 0 (List.take (outL x _).length ((outL x _).map prD))))) []
  rw [List.drop_zero, List.take_of_length_le (by rw [List.length_map]; exact Nat.le_refl _)]
  exact h)
theorem okRSame6 : SpecOk Try.prog 16 SrSame := specOk_tdn XVa_ok 0 (fun args kb K h => by
  unfold SrSame at h; split at h <;> try exact h.elim
  obtain ⟨x, y, rfl, rfl, hx, hy, bx, byy, h⟩ := h
  refine ⟨rfl, vrT x y 0 [] 0 s0 [] [] _, vcRSame x y K ?_⟩
  rw [List.length_map, List.length_map]
  refine ⟨fun q => ?_, fun q => ⟨At.mk' ⟨0, Nat.zero_le _, rfl⟩ rfl, ?_⟩⟩
  · have : x ≠ y := fun e => by subst e; simp at q
    rw [decide_eq_false this] at h; exact h
  have hxy : x.length = y.length := by
    simp only [bne_eq_false_iff_eq] at q; omega
  rintro ⟨i, hi, hT⟩
  dsimp only
  refine ⟨fun hc => ?_, fun hc => ?_⟩
  · simp only [decide_eq_true_eq] at hc
    have hi2 : i < x.length := by omega
    have hi3 : i < y.length := by omega
    have hbx := bx _ (gP_mem hi2)
    have hne : gP x i ≠ gP y i → x ≠ y := fun q e => q (by rw [e])
    rw [w64 (n := (i : Int) + 1) (by omega) (by omega)]
    refine ⟨nonNat i, prD (gP x i), prs_get hi2, (gP x i).1, rfl, nonNat i, prD (gP y i), prs_get hi3, (gP y i).1, rfl, fun q => ?_, fun q => ⟨nonNat i, prD (gP x i), prs_get hi2, ints .u8 (gP x i).2, rfl, nonNat i, prD (gP y i), prs_get hi3, ints .u8 (gP y i).2, rfl, (gP x i).2, (gP y i).2, rfl, rfl, Nat.le_eq ▸ (show (gP x i).2.length ≤ 1000000 by omega), fun q2 => ?_, fun q2 => ?_⟩⟩
    · simp only [bne_iff_ne, ne_eq] at q
      rw [decide_eq_false (hne (fun e => q (by rw [e])))] at h; exact h
    · have q3 : (gP x i).2 ≠ (gP y i).2 := by simpa using q2
      rw [decide_eq_false (hne (fun e => q3 (by rw [e])))] at h; exact h
    · have q3 : (gP x i).2 = (gP y i).2 := by simpa using q2
      have q4 : (gP x i).1 = (gP y i).1 := by simpa using q
      refine Nx.mk' (⟨i + 1, by omega, ?_⟩ : {i : Nat // i ≤ x.length ∧ x.take i = y.take i}) rfl (by show x.length - (i + 1) < x.length - i; omega)
      rw [take_gP hi2, take_gP hi3, hT, Prod.ext q4 q3]
  · simp only [decide_eq_false_iff_not] at hc
    rw [List.take_of_length_le (by omega), List.take_of_length_le (by omega)] at hT
    rw [decide_eq_true hT] at h; exact h)
theorem specOk_ng {X : CallT} (hX : CallOk Try.prog X) (ds : List NilD) (ms : List Vc.Mode) (n : Nat) {f : FuncId} {S : FSpec} (h : ∀ args kb K, S args kb K → kb.length = n ∧ ∃ T, runSpec Try.prog X T f args kb (nilRes ds (gvRes ms (tidyRes n K)))) : SpecOk Try.prog f S := by
  have h0 : SpecOk Try.prog f (fun a k K0 => ∃ T, runSpec Try.prog X T f a k K0) := specOk_of' hX mixed fun _ _ _ h => h
  have h1 := gvTidy_ok (nilOut_ok h0 ds) ms
  exact fun args kb K hs => h1 args kb K (by obtain ⟨rfl, hh⟩ := h args kb K hs; exact hh)
theorem okPairsV : SpecOk Try.prog 17 SvPairs := specOk_ng XVa_ok [.slot 0 77 2] [.give 2] 7 (fun args kb K h => by
  unfold SvPairs at h; split at h <;> try exact h.elim
  obtain ⟨N, s, x, ⟨hvi, htab, rfl, rfl, rfl, rfl, rfl, rfl, rfl, rfl, rfl, rfl, rfl, rfl, rfl⟩, h⟩ := h
  rename_i M
  have hb := VI.b hvi
  have hll := hb.ll
  have hV : VIn N s x ((N / 4 : Nat) : Int) (s.gen : Int) x.length 0 M ((2 * (N / 4) : Nat) : Int) ((N - 2 * (N / 4) : Nat) : Int) (s.gen : Int) (s.u : Int) (s.m : Int) 0 (secs x) [] [] := ⟨hvi, htab, rfl, rfl, rfl, rfl, rfl, rfl, rfl, rfl, rfl, rfl, rfl, rfl, rfl⟩
  refine ⟨rfl, vrT [] [] 0 [] N s M x _, vcPairs N s M x K ⟨N, s, x, hV, At.mk' ⟨0, Nat.zero_le _⟩ rfl, ?_⟩⟩
  rintro ⟨i, hi⟩
  dsimp only
  rw [Nat.sub_zero]
  refine ⟨fun hc => ?_, fun hc => ?_⟩
  · simp only [decide_eq_true_eq] at hc
    have hi2 : i < s.l.length := by omega
    have hkey : (ints .i64 (s.l.map (·.1)))[0 + ((i : Nat) : Int).toNat]? = some [D.val (.int .i64 (gP s.l i).1)] := by
      rw [Nat.zero_add, Int.toNat_natCast, ints_get, List.getElem?_map, gP_get hi2]; rfl
    have hg : getP s.l (gP s.l i).1 = some (gP s.l i).2 := getP_of htab.inc (gP_mem hi2)
    have hlt : (s.l.take i).length = i := by rw [List.length_take]; omega
    refine ⟨by unfold InB; omega, _, hkey, (gP s.l i).1, rfl, N, s, x, hV, by unfold InB; omega, _, hkey, (gP s.l i).1, rfl, by rw [ints_len]; exact Nat.le_refl _, Nat.le_refl _, by rw [List.length_map]; exact Nat.le_refl _, by omega, ?_⟩
    rw [hg, Option.getD_some, take_i, List.drop_zero, prd_app, ← take_gP hi2, w64 (n := (i : Int) + 1) (by omega) (by omega)]
    refine Nx.mk' (⟨i + 1, by omega⟩ : {i : Nat // i ≤ s.l.length}) ?_ (by show s.l.length - (i + 1) < s.l.length - i; omega)
    show _ = (([_, .sl 7 0 (s.l.take (i + 1)).length, _, _], _) : List V × KB)
    rw [show (s.l.take (i + 1)).length = (s.l.take i).length + 1 by rw [take_gP hi2, List.length_append]; rfl]
    rfl
  · simp only [decide_eq_false_iff_not] at hc
    have e : s.l.take i = s.l := List.take_of_length_le (by omega)
    rw [e]
    refine ⟨by rw [List.length_map]; exact Nat.le_refl _, ?_⟩
    have e2 : List.drop 0 (List.take s.l.length (s.l.map prD)) = s.l.map prD := by rw [List.drop_zero, List.take_of_length_le (by rw [List.length_map]; exact Nat.le_refl _)]
    rw [e2]
    exact h)
theorem vrS0_ok : AllOk Try.prog vrS0 := fun f k h => by
  unfold vrS0 at h
  split at h
  · cases h; exact okROut
  · cases h; exact okROne
  · exact vraS_ok _ _ h
theorem XVr_ok : CallOk Try.prog XVr := callS_ok mixed vrS0_ok noT 10
theorem acY_out {x : List P2} {k : Int} (h : x.Pairwise (fun a b => a.1 < b.1)) : AcY (outL x k) k := ⟨h.filter _, fun p hp => by have := (List.mem_filter.1 hp).2; simpa using this⟩
theorem okRPut0 : SpecOk Try.prog 14 SrPut0 := specOk_ntn XVr_ok [.slot 0 77 2] 0 (fun args kb K h => by
  unfold SrPut0 at h; split at h <;> try exact h.elim
  rename_i k _
  obtain ⟨x, b, rfl, rfl, hl, hinc, h⟩ := h
  have hY := acY_out (k := k) hinc
  have hol := outL_len (x := x) (k := k)
  have e1 := lo_out (x := x) (k := k)
  have e2 := hi_out (x := x) (k := k)
  have hput : putL x k b = lo2 (outL x k) k ++ (k, b) :: hi2 (outL x k) k := by rw [e1, e2]; rfl
  rw [hput] at h
  refine ⟨rfl, vrT [] (outL x k) k b 0 s0 [] [] _, vcRPut x (outL x k) k b K ⟨x, rfl, hl, ?_⟩⟩
  generalize outL x k = y at *
  refine ⟨At.mk' ⟨0, Nat.zero_le _⟩ (by
    show _ = (([_, _, _, .sl 0 0 (accL y k b 0).length, .sb (decide ((lo2 y k).length < 0)), _], [prR (accL y k b 0)]) : List V × KB)
    have : accL y k b 0 = [] := by unfold accL; rw [if_neg (Nat.not_lt_zero _)]; rfl
    rw [this, decide_eq_false (Nat.not_lt_zero _)]; rfl), ?_⟩
  rintro ⟨i, hi⟩
  dsimp only
  have hlen := hY.len
  have htk := hY.take
  have hac := acc_le (y := y) (k := k) (b := b) (i := i)
  have hml : ∀ l : List P2, l.length ≤ (l.map prD).length := fun l => by rw [List.length_map]; exact Nat.le_refl _
  have nx : ∀ z : List P2, ∀ (d : Bool), i < y.length → d = decide ((lo2 y k).length < i + 1) → z = accL y k b (i + 1) → Nx (puLI y k b) ⟨i, hi⟩ ([.dat (prs y), .int .i64 k, .dat (.sl 1 (ints .u8 b)), .sl 0 0 z.length, .sb d, .int .i64 ((i : Int) + 1)], [prR z]) := fun z d hiy hd hz => by
    subst hz; subst hd
    exact Nx.mk' (⟨i + 1, by omega⟩ : {i : Nat // i ≤ y.length}) rfl (by show y.length - (i + 1) < y.length - i; omega)
  rw [List.length_map]
  refine ⟨fun hc => ?_, fun hc => ?_⟩
  · simp only [decide_eq_true_eq] at hc
    have hi2 : i < y.length := by omega
    obtain ⟨a1, a2⟩ := hY.lt hi2
    rw [w64 (n := (i : Int) + 1) (by omega) (by omega)]
    refine ⟨fun q => ⟨nonNat i, prD (gP y i), prs_get hi2, (gP y i).1, rfl, fun q2 => ?_, fun q2 => ?_⟩, fun q => ?_⟩
    · have q' : ¬ (lo2 y k).length < i := by simpa using q
      simp only [decide_eq_true_eq] at q2
      have hj : (lo2 y k).length = i := by
        rcases Nat.lt_or_ge i (lo2 y k).length with t | t
        · have := a1 t; omega
        · omega
      obtain ⟨_, b2⟩ := a2 (by omega)
      have hz : accL y k b i ++ [(k, b)] ++ [gP y i] = accL y k b (i + 1) := by
        unfold accL
        rw [if_neg q', if_pos (by omega), ← hj, htk, Nat.add_sub_cancel_left]
        rw [← hj, Nat.sub_self] at b2
        rw [List.take_add_one, b2, List.append_assoc]
        rw [hj]; rfl
      have hz2 := nx _ true hi2 (by rw [decide_eq_true (by omega)]) hz
      refine ⟨Nat.le_refl _, hml _, by omega, nonNat i, prD (gP y i), prs_get hi2, (gP y i).1, rfl, ints .u8 (gP y i).2, rfl, Nat.le_refl _, ?_, by omega, ?_⟩
      · rw [prd_app (p := (k, b)), List.length_map, List.length_append]; exact Nat.le_refl _
      · rw [prd_app (p := (k, b))]
        have el : (accL y k b i).length + 1 = (accL y k b i ++ [(k, b)]).length := by rw [List.length_append]; rfl
        rw [el, prd_app]
        rw [show (accL y k b i ++ [(k, b)] ++ [gP y i]).length = (accL y k b i ++ [(k, b)]).length + 1 from List.length_append] at hz2
        exact hz2
    · have q' : ¬ (lo2 y k).length < i := by simpa using q
      simp only [decide_eq_false_iff_not] at q2
      have hj : i < (lo2 y k).length := by
        rcases Nat.lt_or_ge i (lo2 y k).length with t | t
        · exact t
        · exact absurd (a2 t).1 q2
      have hz : accL y k b i ++ [gP y i] = accL y k b (i + 1) := by
        unfold accL
        rw [if_neg q', if_neg (by omega), take_gP hi2]
      have hz2 := nx _ (decide ((lo2 y k).length < i)) hi2 (by rw [decide_eq_false (by omega), decide_eq_false (by omega)]) hz
      rw [List.length_append] at hz2
      refine ⟨nonNat i, prD (gP y i), prs_get hi2, (gP y i).1, rfl, ints .u8 (gP y i).2, rfl, Nat.le_refl _, hml _, by omega, ?_⟩
      rw [prd_app]
      exact hz2
    · have q' : (lo2 y k).length < i := by simpa using q
      obtain ⟨_, b2⟩ := a2 (by omega)
      have hz : accL y k b i ++ [gP y i] = accL y k b (i + 1) := by
        unfold accL
        rw [if_pos q', if_pos (by omega), show i + 1 - (lo2 y k).length = (i - (lo2 y k).length) + 1 by omega, List.take_add_one, b2, List.append_assoc]; rfl
      have hz2 := nx _ (decide ((lo2 y k).length < i)) hi2 (by rw [decide_eq_true q', decide_eq_true (by omega)]) hz
      rw [List.length_append] at hz2
      refine ⟨nonNat i, prD (gP y i), prs_get hi2, (gP y i).1, rfl, ints .u8 (gP y i).2, rfl, Nat.le_refl _, hml _, by omega, ?_⟩
      rw [prd_app]
      exact hz2
  · simp only [decide_eq_false_iff_not] at hc
    have hiy : i = y.length := by omega
    refine ⟨fun q => ⟨Nat.le_refl _, hml _, by omega, ?_⟩, fun q => ?_⟩
    · have q' : ¬ (lo2 y k).length < i := by simpa using q
      have h0 : hi2 y k = [] := List.length_eq_zero_iff.1 (by omega)
      have ea : accL y k b i = lo2 y k := by
        unfold accL
        rw [if_neg q', ← htk]
        congr 1
        omega
      rw [h0] at h
      rw [prd_app (p := (k, b)), ea]
      rw [List.length_append] at h
      exact h
    · have q' : (lo2 y k).length < i := by simpa using q
      have ea : accL y k b i = lo2 y k ++ (k, b) :: hi2 y k := by
        unfold accL
        rw [if_pos q', List.take_of_length_le (by omega)]
      rw [ea]
      exact h)
theorem okRPut6 : SpecOk Try.prog 14 SrPut := fun args kb K hs => gvTidy_ok okRPut0 [.give 2] args kb K (by
  unfold SrPut at hs; split at hs <;> try exact hs.elim
  obtain ⟨x, b, rfl, rfl, hl, hi, h⟩ := hs
  refine ⟨x, b, rfl, rfl, hl, hi, by rw [List.length_map]; exact Nat.le_refl _, ?_⟩
  show K (.dat (.sl 2 (List.drop 0 (List.take (putL x _ b).length ((putL x _ b).map prD))))) []
  rw [List.drop_zero, List.take_of_length_le (by rw [List.length_map]; exact Nat.le_refl _)]
  exact h)
theorem secN_snoc {p : P2} : ∀ {i : Nat} {x : List P2}, secN i (x ++ [p]) = secN i x + oneN (i + x.length + 1) (recP p).length
  | i, [] => by simp [secN]
  | i, q :: x => by
    rw [List.cons_append]
    have e : ∀ z, secN i (q :: z) = oneN (i + 1) (recP q).length + secN (i + 1) z := fun _ => rfl
    rw [e, e, secN_snoc, List.length_cons, show i + 1 + x.length + 1 = i + (x.length + 1) + 1 by omega]; omega
theorem oneN_le {a c : Nat} (hc : c ≤ 980) : oneN a c ≤ 20 := by
  have h1 := (numW_len (a : Int)).2
  have h2 := (numW_len (c : Int)).2
  unfold oneN; omega
theorem secN_le {i : Nat} : ∀ {x : List P2}, OkL x → secN i x ≤ 20 * x.length := by
  intro x h
  induction x generalizing i with
  | nil => exact Nat.le_refl _
  | cons p x ih =>
    have h1 := (recP_ok (h.rg p List.mem_cons_self)).2
    have h2 := oneN_le (a := i + 1) h1
    have h3 := ih (i := i + 1) ⟨(List.pairwise_cons.1 h.inc).2, fun q hq => h.rg q (List.mem_cons_of_mem _ hq)⟩
    have e : secN i (p :: x) = oneN (i + 1) (recP p).length + secN (i + 1) x := rfl
    rw [e, List.length_cons]; omega
theorem okRSectors : SpecOk Try.prog 21 SrSectors := specOk_tdn XVr_ok 0 (fun args kb K h => by
  unfold SrSectors at h; split at h <;> try exact h.elim
  obtain ⟨x, rfl, hx, hl, h⟩ := h
  have hn9 := (numW_len (x.length : Int)).2
  refine ⟨rfl, vrT x [] 0 [] 0 s0 [] [] _, vcSectorsR x K ?_⟩
  rw [List.length_map]
  refine ⟨⟨by omega⟩, 0, (numW (x.length : Int)).length, rfl, by rw [Nat.sub_zero], by omega, by omega, At.mk' ⟨0, Nat.zero_le _⟩ rfl, ?_⟩
  rintro ⟨i, hi⟩
  dsimp only
  refine ⟨fun hc => ?_, fun hc => ?_⟩
  · simp only [decide_eq_true_eq] at hc
    have hi2 : i < x.length := by omega
    have hp := hx.rg _ (gP_mem hi2)
    have hk2 := hp.1.hi
    have hr := (recP_ok hp).2
    have h1 := (numW_len (gP x i).1).2
    have h2 := (textW_len (gP x i).2).2
    have hrl : (recP (gP x i)).length = (numW (gP x i).1).length + (textW (gP x i).2).length := List.length_append
    have hs := secN_snoc (i := 0) (p := gP x i) (x := x.take i)
    rw [← take_gP hi2, List.length_take, Nat.zero_add, Nat.min_eq_left (by omega)] at hs
    have hb1 := secN_le (i := 0) (hx.take i)
    rw [List.length_take] at hb1
    have hb2 := oneN_le (a := i + 1) hr
    have hb3 := oneN_le (a := 0) (c := (numW (x.length : Int)).length) (by omega)
    have w1 : IntKind.i64.wrap ((i : Int) + 1) = ((i + 1 : Nat) : Int) := by rw [w64 (by omega) (by omega)]; omega
    rw [w1]
    refine ⟨nonNat i, prD (gP x i), prs_get hi2, (gP x i).1, rfl, nonNat i, prD (gP x i), prs_get hi2, ints .u8 (gP x i).2, rfl, ⟨by omega⟩, ⟨ints .u8 (gP x i).2, rfl, trivial⟩, (gP x i).2, rfl, by omega, i + 1, (recP (gP x i)).length, rfl, ?_, by omega, by omega, ?_⟩
    · rw [w64 (by omega) (by omega), hrl]; omega
    · rw [w64 (by omega) (by omega)]
      refine Nx.mk' (⟨i + 1, by omega⟩ : {i : Nat // i ≤ x.length}) ?_ (by show x.length - (i + 1) < x.length - i; omega)
      show _ = (([_, .int .i64 ((oneN 0 (numW (x.length : Int)).length + secN 0 (x.take (i + 1)) : Nat) : Int), _], _) : List V × KB)
      rw [hs, ← Nat.add_assoc]
      rfl
  · simp only [decide_eq_false_iff_not] at hc
    rw [List.take_of_length_le (by omega)]
    exact h)
theorem numW_one {g : Nat} (h : g < 128) : (numW (g : Int)).length = 1 := by
  unfold numW numF
  rw [Int.toNat_natCast, if_pos h]; rfl
/-- The document's count of sectors is the vault's, at a small generation. -/
theorem oneN_form {g n : Nat} {t : List Int} (hg : g < 128) (hn : n ≤ 1000000) (ht : Byt t ∧ t.length ≤ 980) : (formJ (g : Int) (n : Int) t).1.length / 64 = oneN n t.length := by
  have hf := form_ok (gen := (g : Int)) (n := (n : Int)) ⟨by omega, by omega⟩ ⟨by omega, by omega⟩ ht.2
  have hs := (formJ_sz hf).1
  rw [hs]
  have hl := bodyJ_len (g : Int) (n : Int) t
  rw [List.length_append, List.length_append] at hl
  have h1 : (numW (g : Int)).length = 1 := numW_one hg
  have h2 : (textW t).length = (numW (t.length : Int)).length + t.length := List.length_append
  unfold szJ oneN
  rw [hl, h1, h2]
  congr 1
  omega
theorem secN_cat {g : Nat} (hg : g < 128) : ∀ {n : Nat} {x : List P2}, OkL x → n + x.length ≤ 1000000 → catN (g : Int) (n + 1) (x.map recP) = secN n x
  | _, [], _, _ => rfl
  | n, p :: x, h, hn => by
    rw [List.length_cons] at hn
    have hp := recP_ok (h.rg p List.mem_cons_self)
    have ih := secN_cat hg (n := n + 1) (x := x) ⟨(List.pairwise_cons.1 h.inc).2, fun q hq => h.rg q (List.mem_cons_of_mem _ hq)⟩ (by omega)
    show (formJ (g : Int) ((n + 1 : Nat) : Int) (recP p)).1.length / 64 + catN (g : Int) (n + 1 + 1) (x.map recP) = oneN (n + 1) (recP p).length + secN (n + 1) x
    rw [ih, oneN_form hg (by omega) hp]
theorem secL_cat {g : Nat} (hg : g < 128) {x : List P2} (h : OkL x) (hx : x.length ≤ 10000) : catN (g : Int) 0 (recW x) = secL x := by
  have hn9 := (numW_len (x.length : Int)).2
  show (formJ (g : Int) ((0 : Nat) : Int) (numW (x.length : Int))).1.length / 64 + catN (g : Int) (0 + 1) (x.map recP) = _
  rw [secN_cat hg h (by omega), oneN_form hg (by omega) ⟨numW_byt (by omega), by omega⟩]
  rfl
end Go.Proofs.Ytkodjbegpheomaa
