import Derived.Test.YtbkjkbfahclimaaJp
import Derived.KernelRfl
namespace Go.Proofs.Ytbkjkbfahclimaa
open Vc Go
set_option linter.unusedVariables false
set_option linter.unusedSimpArgs false
set_option maxRecDepth 100000
def hedJ (r : List Int) : List Int := 1 :: ((r.length % 256 : Nat) : Int) :: ((r.length / 256 % 256 : Nat) : Int) :: r
abbrev rfLI (r : List Int) : LI where
  α := {i : Nat // i ≤ 64 * szJ r - 3 - r.length}
  live := [9]
  st i := ([.sl 0 0 (3 + r.length + i.1)], [.row 5 1 (ints .u8 (hedJ r ++ List.replicate i.1 0))])
  μ i := 64 * szJ r - 3 - r.length - i.1
def sAll (a b : List (List Int)) (i : Nat) : Prop := i ≤ a.length ∧ a.take i = b.take i
abbrev saA (a b : List (List Int)) : LI where
  α := {i : Nat // sAll a b i}
  live := [0, 1, 5]
  st i := ([.dat (.sl 1 (a.map bsl)), .dat (.sl 1 (b.map bsl)), .int .i64 (i.1 : Int)], [])
  μ i := a.length - i.1
def reT (r : List Int) (a b : List (List Int)) : FuncId → Nat → Option LI
  | 8, 5 => some (rfLI r)
  | 15, 4 => some (saA a b)
  | _, _ => none
def reS : FuncId → Option Known
  | 9 => some ⟨[.lend 1, .lend 1], Ssame⟩
  | 22 => some ⟨[.lend 1], Sseal⟩
  | f => pxS f
noncomputable def XRe : CallT := callS Try.prog reS noT 10
def SsameAll : FSpec := fun args kb K => match args, kb with
  | [.dat (.sl 1 A), .dat (.sl 1 B)], [] => ∃ a b : List (List Int), A = a.map bsl ∧ B = b.map bsl ∧ a.length ≤ 100000 ∧ (∀ x ∈ a, x.length ≤ 1000000) ∧ K (.sb (decide (a = b))) []
  | _, _ => False
theorem vcRForm (gen n : Int) (b r : List Int) (K : V → KB → Prop) (hvc_ :
 (decide (gen < 0) = true → K (V.tup [V.sl 0 0 0, V.int IntKind.i64 5]) [KO.row 5 1 []]) ∧
 (decide (gen < 0) = false →
 (decide (gen > 1099511627776) = true → K (V.tup [V.sl 0 0 0, V.int IntKind.i64 5]) [KO.row 5 1 []]) ∧
 (decide (gen > 1099511627776) = false →
 (decide (n < 0) = true → K (V.tup [V.sl 0 0 0, V.int IntKind.i64 5]) [KO.row 5 1 []]) ∧
 (decide (n < 0) = false →
 (decide (n > 1099511627776) = true → K (V.tup [V.sl 0 0 0, V.int IntKind.i64 5]) [KO.row 5 1 []]) ∧
 (decide (n > 1099511627776) = false →
 LeM gen ∧
 LeM n ∧
 (numW n).length ≤ (ints IntKind.u8 (numW n)).length ∧
 (numW gen).length ≤ (ints IntKind.u8 (numW gen)).length ∧
 ((numW gen).length + (List.drop 0 (List.take (numW n).length (ints IntKind.u8 (numW n)))).length) * 1 ≤ 140737488355328 ∧
 ∃ (b_1 : List Int),
 ints IntKind.u8 b = ints IntKind.u8 b_1 ∧
 b_1.length ≤ 1000000 ∧
 (textW b_1).length ≤ (ints IntKind.u8 (textW b_1)).length ∧
 (numW gen).length + (List.drop 0 (List.take (numW n).length (ints IntKind.u8 (numW n)))).length ≤ (List.take (numW gen).length (ints IntKind.u8 (numW gen)) ++ List.drop 0 (List.take (numW n).length (ints IntKind.u8 (numW n)))).length ∧
 ((numW gen).length + (List.drop 0 (List.take (numW n).length (ints IntKind.u8 (numW n)))).length + (List.drop 0 (List.take (textW b_1).length (ints IntKind.u8 (textW b_1)))).length) * 1 ≤ 140737488355328 ∧
 ((numW gen).length + (List.drop 0 (List.take (numW n).length (ints IntKind.u8 (numW n)))).length + (List.drop 0 (List.take (textW b_1).length (ints IntKind.u8 (textW b_1)))).length ≤
 (List.take ((numW gen).length + (List.drop 0 (List.take (numW n).length (ints IntKind.u8 (numW n)))).length) (List.take (numW gen).length (ints IntKind.u8 (numW gen)) ++ List.drop 0 (List.take (numW n).length (ints IntKind.u8 (numW n)))) ++ List.drop 0 (List.take (textW b_1).length (ints IntKind.u8 (textW b_1)))).length ∧
 True) ∧
 ∃ (l : List Int),
 List.drop 0
 (List.take ((numW gen).length + (List.drop 0 (List.take (numW n).length (ints IntKind.u8 (numW n)))).length + (List.drop 0 (List.take (textW b_1).length (ints IntKind.u8 (textW b_1)))).length)
 (List.take ((numW gen).length + (List.drop 0 (List.take (numW n).length (ints IntKind.u8 (numW n)))).length) (List.take (numW gen).length (ints IntKind.u8 (numW gen)) ++ List.drop 0 (List.take (numW n).length (ints IntKind.u8 (numW n)))) ++ List.drop 0 (List.take (textW b_1).length (ints IntKind.u8 (textW b_1))))) =
 ints IntKind.u8 l ∧
 (∀ (c : Int), List.Mem c l → 0 ≤ c ∧ c < 256) ∧
 l.length ≤ 900000 ∧
 PlainS (ints IntKind.u8 (sealI l)).flatten ∧
 l.length + 4 ≤ (ints IntKind.u8 (sealI l)).length ∧
 3 ≤ 3 ∧
 (3 + (List.drop 0 (List.take (l.length + 4) (ints IntKind.u8 (sealI l)))).length) * 1 ≤ 140737488355328 ∧
 At (rfLI r)
 ([V.sl 0 0 (3 + (List.drop 0 (List.take (l.length + 4) (ints IntKind.u8 (sealI l)))).length)],
 [KO.row 5 1 ([[D.val (Value.int IntKind.u8 1)], [D.val (Value.int IntKind.u8 (IntKind.u8.wrap ((↑(l.length + 4 - 0) : Int).tmod 256)))], [D.val (Value.int IntKind.u8 (IntKind.u8.wrap ((IntKind.i64.wrap ((↑(l.length + 4 - 0) : Int).tdiv 256)).tmod 256)))]] ++ List.drop 0 (List.take (l.length + 4) (ints IntKind.u8 (sealI l))))]) ∧
 ∀ (i : { i : Nat // i ≤ 64 * szJ r - 3 - r.length }),
 (((↑(3 + r.length + i.val - 0) : Int).tmod 64 != 0) = true →
 1 ≤ 1 ∧
 3 + r.length + i.val ≤ (ints IntKind.u8 (hedJ r ++ List.replicate i.val 0)).length ∧ (3 + r.length + i.val + 1) * 1 ≤ 140737488355328 ∧ Nx (rfLI r) i ([V.sl 0 0 (3 + r.length + i.val + 1)], [KO.row 5 1 (List.take (3 + r.length + i.val) (ints IntKind.u8 (hedJ r ++ List.replicate i.val 0)) ++ [[D.val (Value.int IntKind.u8 0)]])])) ∧
 (((↑(3 + r.length + i.val - 0) : Int).tmod 64 != 0) = false →
 (decide ((↑(3 + r.length + i.val - 0) : Int) > 1024) = true → K (V.tup [V.sl 0 0 0, V.int IntKind.i64 15]) [KO.row 5 1 []]) ∧ (decide ((↑(3 + r.length + i.val - 0) : Int) > 1024) = false → K (V.tup [V.sl 0 0 (3 + r.length + i.val), V.int IntKind.i64 0]) [KO.row 5 1 (ints IntKind.u8 (hedJ r ++ List.replicate i.val 0))]))))))
 ) : runSpec Try.prog XRe (reT r [] [] 8) 8 [.int .i64 gen, .int .i64 n, .dat (.sl 1 (ints .u8 b))] [] (nilRes [.slot 0 5 1] (tidyRes 0 K)) := by apply Eq.mp (a := hvc_); kernel_rfl
theorem vcSameAll (a b : List (List Int)) (K : V → KB → Prop) (hvc_ :
 (((↑(List.map bsl a).length : Int) != (↑(List.map bsl b).length : Int)) = true → K (V.sb false) []) ∧
 (((↑(List.map bsl a).length : Int) != (↑(List.map bsl b).length : Int)) = false →
 At (saA a b) ([V.dat (D.sl 1 (List.map bsl a)), V.dat (D.sl 1 (List.map bsl b)), V.int IntKind.i64 0], []) ∧
 ∀ (i : { i : Nat // sAll a b i }),
 (decide ((↑i.val : Int) < (↑(List.map bsl a).length : Int)) = true →
 NonN (↑i.val : Int) ∧
 ∃ (e : List D),
 (List.map bsl a)[(↑i.val : Int).toNat]? = some e ∧
 ∃ (l : List (List D)),
 e[0]? = some (D.sl 1 l) ∧
 NonN (↑i.val : Int) ∧
 ∃ (e : List D),
 (List.map bsl b)[(↑i.val : Int).toNat]? = some e ∧
 ∃ (l_1 : List (List D)),
 e[0]? = some (D.sl 1 l_1) ∧
 ∃ (a_3 : List Int), ∃ (b_1 : List Int), l = ints IntKind.u8 a_3 ∧ l_1 = ints IntKind.u8 b_1 ∧ a_3.length.le 1000000 ∧ ((!decide (a_3 = b_1)) = true → K (V.sb false) []) ∧ ((!decide (a_3 = b_1)) = false → Nx (saA a b) i ([V.dat (D.sl 1 (List.map bsl a)), V.dat (D.sl 1 (List.map bsl b)), V.int IntKind.i64 (IntKind.i64.wrap ((↑i.val : Int) + 1))], []))) ∧
 (decide ((↑i.val : Int) < (↑(List.map bsl a).length : Int)) = false → K (V.sb true) []))
 ) : runSpec Try.prog XRe (reT [] a b 15) 15 [.dat (.sl 1 (a.map bsl)), .dat (.sl 1 (b.map bsl))] [] K := by apply Eq.mp (a := hvc_); kernel_rfl
theorem reS_ok : AllOk Try.prog reS := fun f k h => by
  unfold reS at h
  split at h
  · cases h; exact okSame
  · cases h; exact okRSeal
  · exact pxS_ok _ _ h
theorem XRe_ok : CallOk Try.prog XRe := callS_ok mixed reS_ok noT 10
theorem rawJ_hed {r : List Int} (h : r.length / 256 < 256) : rawJ r = hedJ r ++ List.replicate (64 * szJ r - 3 - r.length) 0 := by
  unfold rawJ hedJ
  rw [Nat.mod_eq_of_lt h]; rfl
theorem byt_app {a b : List Int} (h : Byt a) (k : Byt b) : Byt (a ++ b) := fun c hc => (List.mem_append.1 hc).elim (h c) (k c)
theorem okRForm : SpecOk Try.prog 8 Sform := specOk_nt XRe_ok mixed [.slot 0 5 1] (fun args kb K h => by
  unfold Sform at h; split at h <;> try exact h.elim
  rename_i gen n _
  obtain ⟨b, rfl, hb, hl, h⟩ := h
  refine ⟨reT (bodyJ gen n b) [] [] _, vcRForm gen n b (bodyJ gen n b) K ?_⟩
  have hlen := bodyJ_len gen n b
  have hle := bodyJ_le gen n b
  have szd : szJ (bodyJ gen n b) = ((bodyJ gen n b).length + 66) / 64 := rfl
  unfold formJ at h
  simp only [decide_eq_true_eq, decide_eq_false_iff_not]
  have bad : (¬ NumJ gen ∨ ¬ NumJ n) → K (V.tup [V.sl 0 0 0, V.int IntKind.i64 5]) [KO.row 5 1 []] := fun q => by rw [if_pos q] at h; exact h
  refine ⟨fun q => bad (.inl fun k => by have := k.lo; omega), fun q1 => ⟨fun q => bad (.inl fun k => by have := k.hi; omega), fun q2 => ⟨fun q => bad (.inr fun k => by have := k.lo; omega), fun q3 => ⟨fun q => bad (.inr fun k => by have := k.hi; omega), fun q4 => ?_⟩⟩⟩⟩
  have hg : NumJ gen := ⟨by omega, by omega⟩
  have hn : NumJ n := ⟨by omega, by omega⟩
  rw [if_neg (by rintro (q | q); exact q hg; exact q hn)] at h
  have e1 : List.drop 0 (List.take (numW n).length (ints .u8 (numW n))) = ints .u8 (numW n) := dropTake
  have e2 : List.take (numW gen).length (ints .u8 (numW gen)) = ints .u8 (numW gen) := by rw [ints_take, List.take_length]
  have e3 : List.drop 0 (List.take (textW b).length (ints .u8 (textW b))) = ints .u8 (textW b) := dropTake
  simp only [e1, e2, ints_len]
  have e4 : List.take ((numW gen).length + (numW n).length) (ints .u8 (numW gen) ++ ints .u8 (numW n)) = ints .u8 (numW gen ++ numW n) := by
    rw [← ints_app, ← List.length_append, ints_take, List.take_length]
  have l1 := (numW_len gen).2
  have l2 := (numW_len n).2
  have l3 := (textW_len b).2
  have bt : Byt (numW gen ++ numW n ++ textW b) := byt_app (byt_app (numW_byt (by omega)) (numW_byt (by omega))) (textW_byt hb (by omega))
  have e5 : sealI (numW gen ++ numW n ++ textW b) = bodyJ gen n b := rfl
  refine ⟨⟨by omega⟩, ⟨by omega⟩, Nat.le_refl _, Nat.le_refl _, by omega, b, rfl, by omega, Nat.le_refl _, by rw [← ints_app, ints_len, List.length_append]; exact Nat.le_refl _, ?_, ⟨?_, trivial⟩, numW gen ++ numW n ++ textW b, ?_, bt, ?_, ⟨plain_ints⟩, ?_, Nat.le_refl _, ?_, ?_, ?_⟩
  · rw [e3, ints_len]; omega
  · rw [e3, e4, ← ints_app]; simp only [ints_len, List.length_append]; omega
  · rw [e3, e4, ← ints_app, ints_len, ← List.length_append, ← List.length_append, dropTake]
  · simp only [List.length_append]; omega
  · rw [sealI_len]; exact Nat.le_refl _
  · rw [e5, List.length_drop, List.length_take, ints_len, hlen]; omega
  · rw [e5]
    have e6 : List.drop 0 (List.take ((numW gen ++ numW n ++ textW b).length + 4) (ints .u8 (bodyJ gen n b))) = ints .u8 (bodyJ gen n b) := by rw [← hlen, dropTake]
    rw [e6, ints_len, ← hlen]
    have w1 : IntKind.i64.wrap ((((bodyJ gen n b).length - 0 : Nat) : Int).tdiv 256) = ((((bodyJ gen n b).length / 256 : Nat)) : Int) := by
      rw [Int.tdiv_eq_ediv_of_nonneg (by omega), w64 (by omega) (by omega)]; omega
    rw [w1, Int.tmod_eq_emod_of_nonneg (by omega), Int.tmod_eq_emod_of_nonneg (by omega), w8 (by omega) (by omega), w8 (by omega) (by omega)]
    refine At.mk' (⟨0, Nat.zero_le _⟩ : {i : Nat // i ≤ 64 * szJ (bodyJ gen n b) - 3 - (bodyJ gen n b).length}) ?_
    have c1 : (((bodyJ gen n b).length % 256 : Nat) : Int) = (((bodyJ gen n b).length - 0 : Nat) : Int) % 256 := by omega
    have c2 : (((bodyJ gen n b).length / 256 % 256 : Nat) : Int) = (((bodyJ gen n b).length / 256 : Nat) : Int) % 256 := by omega
    dsimp only
    unfold hedJ
    rw [c1, c2, List.replicate_zero, List.append_nil]
    rfl
  · rintro ⟨i, hi⟩
    dsimp only
    have hhl : (hedJ (bodyJ gen n b)).length = 3 + (bodyJ gen n b).length := by unfold hedJ; simp only [List.length_cons]; omega
    have hhl2 : (hedJ (bodyJ gen n b) ++ List.replicate i 0).length = 3 + (bodyJ gen n b).length + i := by rw [List.length_append, hhl, List.length_replicate]
    rw [Int.tmod_eq_emod_of_nonneg (by omega)]
    refine ⟨fun c => ?_, fun c => ?_⟩
    · simp only [bne_iff_ne, ne_eq] at c
      have e7 : List.take (3 + (bodyJ gen n b).length + i) (ints .u8 (hedJ (bodyJ gen n b) ++ List.replicate i 0)) ++ [[D.val (Value.int IntKind.u8 0)]] = ints .u8 (hedJ (bodyJ gen n b) ++ List.replicate (i + 1) 0) := by
        rw [ints_take, List.take_of_length_le (by rw [hhl2]; omega), List.replicate_succ', ← List.append_assoc, ints_app (m := [0])]; rfl
      rw [e7]
      refine ⟨Nat.le_refl _, by rw [hhl2]; omega, by omega, ?_⟩
      exact Nx.mk' (⟨i + 1, by omega⟩ : {i : Nat // i ≤ 64 * szJ (bodyJ gen n b) - 3 - (bodyJ gen n b).length}) rfl (by dsimp only; omega)
    · simp only [bne_eq_false_iff_eq] at c
      have hi2 : i = 64 * szJ (bodyJ gen n b) - 3 - (bodyJ gen n b).length := by omega
      refine ⟨fun c2 => ?_, fun c2 => ?_⟩
      · rw [if_pos (by omega)] at h; exact h
      · rw [if_neg (by omega)] at h
        dsimp only at h
        rw [rawJ_hed (by omega), ← hi2, hhl2] at h
        exact h)
theorem gL_get {l : List (List Int)} {i : Nat} (h : i < l.length) : l[i]? = some (gS l (i : Int)) := gS_at h
theorem bsl_row {l : List (List Int)} {i : Nat} (h : i < l.length) : (l.map bsl)[i]? = some (bsl (gS l (i : Int))) := by rw [List.getElem?_map, gS_at h]; rfl
theorem okSameAll : SpecOk Try.prog 15 SsameAll := specOk_of' XRe_ok mixed (fun args kb K h => by
  unfold SsameAll at h; split at h <;> try exact h.elim
  obtain ⟨a, b, rfl, rfl, ha, hsm, h⟩ := h
  refine ⟨_, vcSameAll a b K ?_⟩
  simp only [List.length_map]
  refine ⟨fun c => ?_, fun c => ⟨At.mk' (⟨0, Nat.zero_le _, rfl⟩ : {i : Nat // sAll a b i}) rfl, ?_⟩⟩
  · simp only [bne_iff_ne, ne_eq] at c
    rw [decide_eq_false (fun e => c (by rw [e]))] at h; exact h
  simp only [bne_eq_false_iff_eq] at c
  rintro ⟨i, hi, ht⟩
  simp only [decide_eq_true_eq, decide_eq_false_iff_not, Int.toNat_natCast]
  refine ⟨fun c2 => ⟨by unfold NonN; omega, _, bsl_row (by omega), _, rfl, by unfold NonN; omega, _, bsl_row (by omega), _, rfl, gS a (i : Int), gS b (i : Int), rfl, rfl, Nat.le_eq ▸ hsm _ (List.mem_of_getElem? (gS_at (by omega))), fun c3 => ?_, fun c3 => ?_⟩, fun c2 => ?_⟩
  · simp only [Bool.not_eq_true', decide_eq_false_iff_not] at c3
    rw [decide_eq_false (fun e => c3 (by rw [e]))] at h; exact h
  · simp only [Bool.not_eq_false', decide_eq_true_eq] at c3
    rw [w64 (by omega) (by omega), show (i : Int) + 1 = ((i + 1 : Nat) : Int) by omega]
    exact Nx.mk' (⟨i + 1, by omega, by rw [List.take_add_one, List.take_add_one, ht, gS_at (x := a) (i := i) (by omega), gS_at (x := b) (i := i) (by omega), c3]⟩ : {i : Nat // sAll a b i}) rfl (by dsimp only; omega)
  · have e : i = a.length := by omega
    subst e
    rw [List.take_length, show a.length = b.length by omega, List.take_length] at ht
    rw [decide_eq_true ht] at h; exact h)
end Go.Proofs.Ytbkjkbfahclimaa
