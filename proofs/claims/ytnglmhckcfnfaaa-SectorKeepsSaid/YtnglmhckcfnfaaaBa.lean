import Derived.Test.YtnglmhckcfnfaaaRows
import Derived.KernelRfl
import Derived.Test.YtnglmhckcfnfaaaVdT
namespace Go.Proofs.Ytnglmhckcfnfaaa
open Vc Go
set_option linter.unusedVariables false
set_option linter.unusedSimpArgs false
set_option maxRecDepth 100000
def noT : FuncId → Nat → Option LI := fun _ _ => none
def noS : FuncId → Option Known := fun _ => none
noncomputable def X0 : CallT := callS Try.prog noS noT 10
def Sm (l : List Int) : Prop := l.length ≤ 1000000
def sInv (a b : List Int) (i : Nat) : Prop := i ≤ a.length ∧ a.take i = b.take i
abbrev saLI (k : IntKind) (a b : List Int) : LI where
  α := {i : Nat // sInv a b i}
  live := [0, 1, 5]
  st i := ([.dat (.sl 1 (ints k a)), .dat (.sl 1 (ints k b)), .int .i64 (i.1 : Int)], [])
  μ i := a.length - i.1
abbrev eqLI (k : IntKind) (a b : List Int) : LI where
  α := {i : Nat // sInv a b i}
  live := [0, 1, 12, 13]
  st i := ([.dat (.sl 1 (ints k a)), .dat (.sl 1 (ints k b)), .int .i64 (a.length : Int), .int .i64 (i.1 : Int)], [])
  μ i := a.length - i.1
def saT (k : IntKind) (a b : List Int) : FuncId → Nat → Option LI
  | 12, 4 => some (saLI k a b)
  | _, _ => none
theorem vcSame (a b : List Int) (K : V → KB → Prop) (hvc_ :
 (((↑(ints IntKind.u8 a).length : Int) != (↑(ints IntKind.u8 b).length : Int)) = true → K (V.sb false) []) ∧
 (((↑(ints IntKind.u8 a).length : Int) != (↑(ints IntKind.u8 b).length : Int)) = false →
 At (saLI IntKind.u8 a b) ([V.dat (D.sl 1 (ints IntKind.u8 a)), V.dat (D.sl 1 (ints IntKind.u8 b)), V.int IntKind.i64 0], []) ∧
 ∀ (i : { i : Nat // sInv a b i }),
 (decide ((↑i.val : Int) < (↑(ints IntKind.u8 a).length : Int)) = true →
 NonN (↑i.val : Int) ∧
 ∃ (e : List D),
 (ints IntKind.u8 a)[(↑i.val : Int).toNat]? = some e ∧
 ∃ (n : Int),
 e[0]? = some (D.val (Value.int IntKind.u8 n)) ∧
 NonN (↑i.val : Int) ∧
 ∃ (e : List D), (ints IntKind.u8 b)[(↑i.val : Int).toNat]? = some e ∧ ∃ (n_1 : Int), e[0]? = some (D.val (Value.int IntKind.u8 n_1)) ∧ ((n != n_1) = true → K (V.sb false) []) ∧ ((n != n_1) = false → Nx (saLI IntKind.u8 a b) i ([V.dat (D.sl 1 (ints IntKind.u8 a)), V.dat (D.sl 1 (ints IntKind.u8 b)), V.int IntKind.i64 (IntKind.i64.wrap ((↑i.val : Int) + 1))], []))) ∧
 (decide ((↑i.val : Int) < (↑(ints IntKind.u8 a).length : Int)) = false → K (V.sb true) []))
 ) : runSpec Try.prog X0 (saT .u8 a b 12) 12 [.dat (.sl 1 (ints .u8 a)), .dat (.sl 1 (ints .u8 b))] [] K := by apply Eq.mp (a := hvc_); kernel_rfl
theorem vcClone (a : List (List D)) (K : V → KB → Prop) (hvc_ :
 ∀ (b : Bool), (b = true → a.length = 0) → (b = true → K (V.any (Value.slice none 0 0)) []) ∧ (b = false → True ∧ 0 ≤ 0 ∧ (0 + a.length) * 1 ≤ 140737488355328 ∧ K (V.sl 0 0 (0 + a.length)) [KO.row 5 1 ([] ++ a)])
 ) : runSpec Try.prog X0 (noT 17) 17 [.dat (.sl 1 a)] [] K := by apply Eq.mp (a := hvc_); kernel_rfl
theorem mixed : Try.prog.follows .mixedOrders = true := by kernel_rfl
theorem noS_ok : AllOk Try.prog noS := fun f k h => by cases h
theorem X0_ok : CallOk Try.prog X0 := callS_ok mixed noS_ok noT 10
def SsameL (k : IntKind) : FSpec := fun args kb K => match args, kb with
  | [.dat (.sl 1 A), .dat (.sl 1 B)], [] => ∃ a b : List Int, A = ints k a ∧ B = ints k b ∧ a.length ≤ maxLen ∧ K (.sb (decide (a = b))) []
  | _, _ => False
def SsameK (k : IntKind) : FSpec := fun args kb K => match args, kb with
  | [.dat (.sl 1 A), .dat (.sl 1 B)], [] => ∃ a b : List Int, A = ints k a ∧ B = ints k b ∧ Sm a ∧ K (.sb (decide (a = b))) []
  | _, _ => False
abbrev Ssame : FSpec := SsameK .u8
theorem sameK_of {f : FuncId} {k : IntKind} (h : SpecOk Try.prog f (SsameL k)) : SpecOk Try.prog f (SsameK k) := fun args kb K hs => h args kb K (by
  unfold SsameK at hs; split at hs <;> try exact hs.elim
  obtain ⟨a, b, rfl, rfl, hl, hk⟩ := hs
  unfold Sm at hl
  exact ⟨a, b, rfl, rfl, by simp only [maxLen]; omega, hk⟩)
theorem sInv_step {a b : List Int} {i : Nat} (h : sInv a b i) (ha : i < a.length) (hb : i < b.length) (he : a[i] = b[i]) : sInv a b (i + 1) := by
  refine ⟨by omega, ?_⟩
  rw [List.take_add_one, List.take_add_one, h.2, List.getElem?_eq_getElem ha, List.getElem?_eq_getElem hb, he]
theorem okSameL : SpecOk Try.prog 12 (SsameL .u8) := specOk_of' X0_ok mixed (fun args kb K h => by
  unfold SsameL at h; split at h <;> try exact h.elim
  obtain ⟨a, b, rfl, rfl, hsm, h⟩ := h
  simp only [maxLen] at hsm
  refine ⟨saT .u8 a b 12, vcSame a b K ⟨fun hc => ?_, fun hc => ⟨At.mk' ⟨0, Nat.zero_le _, rfl⟩ rfl, ?_⟩⟩⟩
  · simp only [ints_len, bne_iff_ne, ne_eq] at hc
    rw [decide_eq_false (fun e => hc (by rw [e]))] at h; exact h
  simp only [ints_len, bne_eq_false_iff_eq] at hc
  have hl : a.length = b.length := by omega
  rintro ⟨i, hi, ht⟩
  simp only [ints_len] at ht ⊢
  refine ⟨fun hc2 => ?_, fun hc2 => ?_⟩
  · simp only [decide_eq_true_eq] at hc2
    have e2 : ((i : Nat) : Int).toNat = i := by omega
    have hq : a[i]? = some a[i] := List.getElem?_eq_getElem (by omega)
    have hq2 : b[i]? = some b[i] := List.getElem?_eq_getElem (by omega)
    have hnn : NonN (i : Int) := by unfold NonN; omega
    have w2 := w64 (n := (i : Int) + 1) (by omega) (by omega)
    refine ⟨hnn, [D.val (.int .u8 a[i])], by rw [e2, ints_get, hq]; rfl, a[i], rfl, hnn, [D.val (.int .u8 b[i])], by rw [e2, ints_get, hq2]; rfl, b[i], rfl, fun hx => ?_, fun hx => ?_⟩
    · simp only [bne_iff_ne, ne_eq] at hx
      rw [decide_eq_false (fun e => hx (by subst e; rfl))] at h; exact h
    · simp only [bne_eq_false_iff_eq] at hx
      rw [w2]
      exact Nx.mk' (⟨i + 1, sInv_step ⟨hi, ht⟩ (by omega) (by omega) hx⟩ : {i : Nat // sInv a b i}) rfl (by show a.length - (i + 1) < a.length - i; omega)
  · simp only [decide_eq_false_iff_not] at hc2
    have : i = a.length := by omega
    subst this
    rw [List.take_length, hl, List.take_length] at ht
    rw [decide_eq_true ht] at h; exact h)
theorem okSame : SpecOk Try.prog 12 (SsameK .u8) := sameK_of okSameL
def ScloneT (ty : TypeId) : FSpec := fun args kb K => match args, kb with
  | [.dat (.sl 1 A)], [] => A.length ≤ 1000000 ∧ (A = [] → K (.any (.slice none 0 0)) []) ∧ K (.sl 0 0 A.length) [.row ty 1 A]
  | _, _ => False
/-- Likewise, nil being an empty row. -/
def ScloneN (ty : TypeId) : FSpec := fun args kb K => match args, kb with
  | [.dat (.sl 1 A)], [] => A.length ≤ 1000000 ∧ K (.sl 0 0 A.length) [.row ty 1 A]
  | _, _ => False
theorem cloneN_of {f : FuncId} {ty : TypeId} (h : SpecOk Try.prog f (ScloneT ty)) : SpecOk Try.prog f (ScloneN ty) := fun args kb K hs => nilOut_ok h [.slot 0 ty 1] args kb K (by
  unfold ScloneN at hs; split at hs <;> try exact hs.elim
  refine ⟨hs.1, fun e => ?_, hs.2⟩
  subst e
  exact hs.2)
abbrev Sclone : FSpec := ScloneT 5
theorem okClone : SpecOk Try.prog 17 (ScloneT 5) := specOk_of' X0_ok mixed (fun args kb K h => by
  unfold ScloneT at h; split at h <;> try exact h.elim
  rename_i A
  refine ⟨noT 17, vcClone A K (fun b hb => ⟨fun e => h.2.1 (List.length_eq_zero_iff.1 (hb e)), fun e => ⟨trivial, Nat.le_refl _, by omega, ?_⟩⟩)⟩
  have := h.2.2
  simpa using this)
end Go.Proofs.Ytnglmhckcfnfaaa
