import Derived.Test.YtmemkblmocgnlaaPkB
import Derived.KernelRfl
namespace Go.Proofs.Ytmemkblmocgnlaa
open Vc Go
set_option linter.unusedVariables false
set_option linter.unusedSimpArgs false
set_option maxRecDepth 100000
/-- What is known of packing. -/
def pkS : FuncId → Option Known
  | 32 => some ⟨[], SrText⟩
  | 21 => some ⟨[.asis, .lend 1], nilIn [.cell 0 0 5 1] SwText⟩
  | 23 => some ⟨[], nilIn [.cell 0 0 5 1] SwBytes⟩
  | 30 => some ⟨[.lend 1], SpRead⟩
  | 33 => some ⟨[], SrEnd⟩
  | 35 => some ⟨[.lend 1], SrefText⟩
  | 39 => some ⟨[.give 1, .asis], STake⟩
  | f => rdS f
noncomputable def XPk : CallT := callS Try.prog pkS noT 10
theorem vcTakeText (l : List Int) (most : Int) (K : V → KB → Prop) (hvc_ :
 ∃ (l_1 : List Int),
 ints IntKind.u8 l = ints IntKind.u8 l_1 ∧
 (∀ (c : Int), List.Mem c l_1 → 0 ≤ c ∧ c < 256) ∧
 l_1.length ≤ 10000000 ∧
 (((rNum l_1 0 most).snd.snd != 0) = true → K (V.agg [V.int IntKind.i64 (rNum l_1 0 most).fst, V.dat (D.sl 1 []), V.int IntKind.i64 (rNum l_1 0 most).snd.snd, V.dat (D.sl 1 (ints IntKind.u8 (List.drop (rNum l_1 0 most).snd.fst l_1)))]) []) ∧
 (((rNum l_1 0 most).snd.snd != 0) = false →
 (decide ((rNum l_1 0 most).fst > (↑(ints IntKind.u8 (List.drop (rNum l_1 0 most).snd.fst l_1)).length : Int)) = true → K (V.agg [V.int IntKind.i64 0, V.dat (D.sl 1 []), V.int IntKind.i64 2, V.dat (D.sl 1 (ints IntKind.u8 (List.drop (rNum l_1 0 most).snd.fst l_1)))]) []) ∧
 (decide ((rNum l_1 0 most).fst > (↑(ints IntKind.u8 (List.drop (rNum l_1 0 most).snd.fst l_1)).length : Int)) = false →
 True ∧
 NonN (rNum l_1 0 most).fst ∧
 0 ≤ (rNum l_1 0 most).fst.toNat ∧
 (rNum l_1 0 most).fst.toNat ≤ (ints IntKind.u8 (List.drop (rNum l_1 0 most).snd.fst l_1)).length ∧
 NonN (rNum l_1 0 most).fst ∧
 True ∧
 (rNum l_1 0 most).fst.toNat ≤ (ints IntKind.u8 (List.drop (rNum l_1 0 most).snd.fst l_1)).length ∧
 (ints IntKind.u8 (List.drop (rNum l_1 0 most).snd.fst l_1)).length ≤ (ints IntKind.u8 (List.drop (rNum l_1 0 most).snd.fst l_1)).length ∧
 K
 (V.agg
 [V.int IntKind.i64 0, V.dat (D.sl 1 (List.drop 0 (List.take (rNum l_1 0 most).fst.toNat (ints IntKind.u8 (List.drop (rNum l_1 0 most).snd.fst l_1))))), V.int IntKind.i64 0,
 V.dat (D.sl 1 (List.drop (rNum l_1 0 most).fst.toNat (List.take (ints IntKind.u8 (List.drop (rNum l_1 0 most).snd.fst l_1)).length (ints IntKind.u8 (List.drop (rNum l_1 0 most).snd.fst l_1)))))])
 []))
 ) : runSpec Try.prog XPk (noT 40) 40 [.dat (.sl 1 (ints .u8 l)), .int .i64 most] [] (nilRes [.fldD 0 1 1] K) := Eq.mp (by kernel_rfl) hvc_
theorem pkS_ok : AllOk Try.prog pkS := fun f k h => by
  unfold pkS at h
  split at h
  · cases h; exact okText
  · cases h; exact nilIn_ok okWText _
  · cases h; exact nilIn_ok okBytesW _
  · cases h; exact okPRead
  · cases h; exact okEnd
  · cases h; exact okRefText
  · cases h; exact okTake
  · exact rdS_ok _ _ h
theorem XPk_ok : CallOk Try.prog XPk := callS_ok mixed pkS_ok noT 10
def STakeText : FSpec := fun args kb K => match args, kb with
  | [.dat (.sl 1 A), .int .i64 most], [] => ∃ l : List Int, A = ints .u8 l ∧ Byt l ∧ l.length ≤ 10000000 ∧
    K (.agg [.int .i64 0, .dat (.sl 1 (ints .u8 (rText l 0 most).1)), .int .i64 (rText l 0 most).2.2, .dat (.sl 1 (ints .u8 (l.drop (rText l 0 most).2.1)))]) []
  | _, _ => False
theorem rNum_err {l : List Int} {most : Int} (h : (rNum l 0 most).2.2 ≠ 0) : (rNum l 0 most).1 = 0 := by
  unfold rNum at h ⊢
  rw [if_pos rfl] at h ⊢
  split
  · rename_i v n hn
    rw [hn] at h
    simp only at h
    split
    · rfl
    · rename_i hm
      rw [if_neg hm] at h
      exact absurd rfl h
  · rfl
  · rfl
theorem okTakeText : SpecOk Try.prog 40 STakeText := specOk_nil XPk_ok mixed [.fldD 0 1 1] (fun args kb K h => by
  unfold STakeText at h; split at h <;> try exact h.elim
  rename_i most
  obtain ⟨l, rfl, hb, hl, h⟩ := h
  refine ⟨noT 40, vcTakeText l most K ⟨l, rfl, hb, hl, ?_⟩⟩
  have hv := rNum_val hb 0 most
  have he := rNum_err (l := l) (most := most)
  unfold rText at h
  generalize rNum l 0 most = r at h hv he ⊢
  obtain ⟨n, u, e'⟩ := r
  simp only [ints_len] at h hv he ⊢
  refine ⟨fun hc => ?_, fun hc => ⟨fun hx => ?_, fun hx => ?_⟩⟩
  · simp only [bne_iff_ne, ne_eq] at hc
    rw [if_neg hc] at h
    rw [he hc]
    exact h
  · simp only [decide_eq_true_eq] at hx
    simp only [bne_eq_false_iff_eq] at hc
    subst hc
    rw [if_pos rfl, if_pos (by omega)] at h
    exact h
  · simp only [decide_eq_false_iff_not] at hx
    simp only [bne_eq_false_iff_eq] at hc
    subst hc
    rw [if_pos rfl, if_neg (by omega)] at h
    have hnn : NonN n := hv.1
    refine ⟨trivial, hnn, Nat.zero_le _, by omega, hnn, trivial, by omega, Nat.le_refl _, ?_⟩
    rw [List.drop_zero, ints_take, ints_take, List.take_length, ints_drop, List.drop_drop]
    exact h)
def pxS : FuncId → Option Known
  | 40 => some ⟨[.give 1, .asis], STakeText⟩
  | f => pkS f
theorem pxS_ok : AllOk Try.prog pxS := fun f k h => by
  unfold pxS at h
  split at h
  · cases h; exact okTakeText
  · exact pkS_ok _ _ h
noncomputable def XPx : CallT := callS Try.prog pxS noT 10
theorem XPx_ok : CallOk Try.prog XPx := callS_ok mixed pxS_ok noT 10
end Go.Proofs.Ytmemkblmocgnlaa
