import Derived.Test.YtljkijkonhcgfaaPk
import Derived.KernelRfl
namespace Go.Proofs.Ytljkijkonhcgfaa
open Vc Go
set_option linter.unusedVariables false
set_option linter.unusedSimpArgs false
set_option maxRecDepth 100000
def nuS : FuncId → Option Known
  | 32 => some ⟨[], Snumber⟩
  | f => baS f
noncomputable def XNu : CallT := callS Try.prog nuS noT 10
def SrNum : FSpec := fun args kb K => match args, kb with
  | [.ptr 0 0, .int .i64 most], [.cells [.sl 1 lo h, .int .i64 e], .row 5 1 A] => ∃ l : List Int, A = ints .u8 l ∧ h = l.length ∧ lo ≤ l.length ∧ Byt l ∧ l.length ≤ 10000000 ∧
    K (.int .i64 (rNum (l.drop lo) e most).1) [.cells [.sl 1 (lo + (rNum (l.drop lo) e most).2.1) l.length, .int .i64 (rNum (l.drop lo) e most).2.2], .row 5 1 (ints .u8 l)]
  | _, _ => False
def rdS : FuncId → Option Known
  | 21 => some ⟨[], SrNum⟩
  | 24 => some ⟨[], nilIn [.cell 0 0 5 1] SwNum⟩
  | 26 => some ⟨[], SrefNum⟩
  | f => nuS f
noncomputable def XRd : CallT := callS Try.prog rdS noT 10
def leInv (m i : Nat) : Prop := i ≤ m
def rdT (l : List Int) (most : Int) (n : Nat) : FuncId → Nat → Option LI
  | _, _ => none
theorem vcNum (l : List Int) (lo : Nat) (e most : Int) (K : V → KB → Prop) (hvc_ :
 ((e != 0) = true → K (V.int IntKind.i64 0) [KO.cells [V.sl 1 lo l.length, V.int IntKind.i64 e], KO.row 5 1 (ints IntKind.u8 l)]) ∧
 ((e != 0) = false →
 ∃ (l_1 : List Int),
 ints IntKind.u8 l = ints IntKind.u8 l_1 ∧
 l.length = l_1.length ∧
 lo ≤ l_1.length ∧
 (∀ (c : Int), List.Mem c l_1 → 0 ≤ c ∧ c < 256) ∧
 l_1.length ≤ 10000000 ∧
 e = 0 ∧
 (∀ (v n : Nat),
 numR 0 0 (List.drop lo l_1) = RdN.got v n →
 (((↑n : Int) == 0) = true → K (V.int IntKind.i64 0) [KO.cells [V.sl 1 lo l_1.length, V.int IntKind.i64 0], KO.row 5 1 (ints IntKind.u8 l_1)]) ∧
 (((↑n : Int) == 0) = false →
 (decide ((↑v : Int) > most) = true → (true = true → K (V.int IntKind.i64 0) [KO.cells [V.sl 1 lo l_1.length, V.int IntKind.i64 5], KO.row 5 1 (ints IntKind.u8 l_1)]) ∧ (true = false → K (V.int IntKind.i64 0) [KO.cells [V.sl 1 lo l_1.length, V.int IntKind.i64 0], KO.row 5 1 (ints IntKind.u8 l_1)])) ∧
 (decide ((↑v : Int) > most) = false → NonN (↑n : Int) ∧ True ∧ (↑n : Int).toNat ≤ l_1.length - lo ∧ l_1.length - lo ≤ l_1.length - lo ∧ K (V.int IntKind.i64 (↑v : Int)) [KO.cells [V.sl 1 (lo + (↑n : Int).toNat) (lo + (l_1.length - lo)), V.int IntKind.i64 0], KO.row 5 1 (ints IntKind.u8 l_1)]))) ∧
 (numR 0 0 (List.drop lo l_1) = RdN.short →
 (true = true → K (V.int IntKind.i64 0) [KO.cells [V.sl 1 lo l_1.length, V.int IntKind.i64 2], KO.row 5 1 (ints IntKind.u8 l_1)]) ∧
 (true = false →
 (decide (0 > most) = true → (false = true → K (V.int IntKind.i64 0) [KO.cells [V.sl 1 lo l_1.length, V.int IntKind.i64 5], KO.row 5 1 (ints IntKind.u8 l_1)]) ∧ (false = false → K (V.int IntKind.i64 0) [KO.cells [V.sl 1 lo l_1.length, V.int IntKind.i64 2], KO.row 5 1 (ints IntKind.u8 l_1)])) ∧
 (decide (0 > most) = false → NonN 0 ∧ True ∧ 0 ≤ l_1.length - lo ∧ l_1.length - lo ≤ l_1.length - lo ∧ K (V.int IntKind.i64 0) [KO.cells [V.sl 1 (lo + 0) (lo + (l_1.length - lo)), V.int IntKind.i64 2], KO.row 5 1 (ints IntKind.u8 l_1)]))) ∧
 (numR 0 0 (List.drop lo l_1) = RdN.form →
 (true = true → K (V.int IntKind.i64 0) [KO.cells [V.sl 1 lo l_1.length, V.int IntKind.i64 3], KO.row 5 1 (ints IntKind.u8 l_1)]) ∧
 (true = false →
 (decide (0 > most) = true → (false = true → K (V.int IntKind.i64 0) [KO.cells [V.sl 1 lo l_1.length, V.int IntKind.i64 5], KO.row 5 1 (ints IntKind.u8 l_1)]) ∧ (false = false → K (V.int IntKind.i64 0) [KO.cells [V.sl 1 lo l_1.length, V.int IntKind.i64 3], KO.row 5 1 (ints IntKind.u8 l_1)])) ∧
 (decide (0 > most) = false → NonN 0 ∧ True ∧ 0 ≤ l_1.length - lo ∧ l_1.length - lo ≤ l_1.length - lo ∧ K (V.int IntKind.i64 0) [KO.cells [V.sl 1 (lo + 0) (lo + (l_1.length - lo)), V.int IntKind.i64 3], KO.row 5 1 (ints IntKind.u8 l_1)]))))
 ) : runSpec Try.prog XNu (noT 21) 21 [.ptr 0 0, .int .i64 most] [.cells [.sl 1 lo l.length, .int .i64 e], .row 5 1 (ints .u8 l)] K := Eq.mp (by kernel_rfl) hvc_
theorem vcBytes (A : List (List D)) (n : Nat) (K : V → KB → Prop) (hvc_ :
 (n ≤ A.length ∧ True) ∧ (List.drop 0 (List.take n A)).length ≤ 1000000 ∧ PlainS (List.drop 0 (List.take n A)).flatten ∧ K (V.sl 2 0 (List.drop 0 (List.take n A)).length) [KO.cells [V.sl 1 0 n], KO.row 5 1 A, KO.row 5 1 (List.drop 0 (List.take n A))]
 ) : runSpec Try.prog XRd (noT 25) 25 [.ptr 0 0] [.cells [.sl 1 0 n], .row 5 1 A] K := Eq.mp (by kernel_rfl) hvc_
theorem vcRead (A : List (List D)) (K : V → KB → Prop) (hvc_ :
 A.length ≤ 1000000 ∧ K (V.ptr 0 0) [KO.cells [V.sl 1 0 A.length, V.int IntKind.i64 0], KO.row 5 1 A]
 ) : runSpec Try.prog XRd (noT 20) 20 [.dat (.sl 1 A)] [] (tidyRes 0 K) := Eq.mp (by kernel_rfl) hvc_
theorem vcEnd (l : List Int) (lo : Nat) (e : Int) (K : V → KB → Prop) (hvc_ :
 (decide ((↑(l.length - lo) : Int) > 0) = true → ((e == 0) = true → K (V.int IntKind.i64 3) [KO.cells [V.sl 1 lo l.length, V.int IntKind.i64 3], KO.row 5 1 (ints IntKind.u8 l)]) ∧ ((e == 0) = false → K (V.int IntKind.i64 e) [KO.cells [V.sl 1 lo l.length, V.int IntKind.i64 e], KO.row 5 1 (ints IntKind.u8 l)])) ∧
 (decide ((↑(l.length - lo) : Int) > 0) = false → K (V.int IntKind.i64 e) [KO.cells [V.sl 1 lo l.length, V.int IntKind.i64 e], KO.row 5 1 (ints IntKind.u8 l)])
 ) : runSpec Try.prog XRd (noT 23) 23 [.ptr 0 0] [.cells [.sl 1 lo l.length, .int .i64 e], .row 5 1 (ints .u8 l)] K := Eq.mp (by kernel_rfl) hvc_
theorem vcErr (A : List (List D)) (lo hi : Nat) (e : Int) (K : V → KB → Prop) (hvc_ :
 K (V.int IntKind.i64 e) [KO.cells [V.sl 1 lo hi, V.int IntKind.i64 e], KO.row 5 1 A]
 ) : runSpec Try.prog XRd (noT 22) 22 [.ptr 0 0] [.cells [.sl 1 lo hi, .int .i64 e], .row 5 1 A] K := Eq.mp (by kernel_rfl) hvc_
theorem baS_ok : AllOk Try.prog baS := fun f k h => by
  unfold baS at h
  split at h <;> first | (cases h; first | exact okSame | exact cloneN_of okClone) | cases h
theorem nuS_ok : AllOk Try.prog nuS := fun f k h => by
  unfold nuS at h
  split at h
  · cases h; exact okNumber
  · exact baS_ok _ _ h
theorem XNu_ok : CallOk Try.prog XNu := callS_ok mixed nuS_ok noT 10
theorem byt_drop {l : List Int} (h : Byt l) (n : Nat) : Byt (l.drop n) := fun c hc => h c (List.mem_of_mem_drop hc)
theorem byt_take {l : List Int} (h : Byt l) (n : Nat) : Byt (l.take n) := fun c hc => h c (List.mem_of_mem_take hc)
theorem okNum : SpecOk Try.prog 21 SrNum := specOk_of' XNu_ok mixed (fun args kb K h => by
  unfold SrNum at h; split at h <;> try exact h.elim
  rename_i most lo _ e _
  obtain ⟨l, rfl, rfl, hlo, hb, hl, h⟩ := h
  refine ⟨noT 21, vcNum l lo e most K ⟨fun hc => ?_, fun hc => ?_⟩⟩
  · simp only [bne_iff_ne, ne_eq] at hc
    unfold rNum at h
    rw [if_neg hc] at h
    exact h
  · simp only [bne_eq_false_iff_eq] at hc
    subst hc
    refine ⟨l, rfl, rfl, hlo, hb, hl, rfl, fun v n hn => ⟨fun h0 => ?_, fun h0 => ⟨fun hv => ⟨fun _ => ?_, fun h => by simp at h⟩, fun hv => ⟨by unfold NonN; omega, trivial, ?_, Nat.le_refl _, ?_⟩⟩⟩, fun hn => ⟨fun _ => ?_, fun h => by simp at h⟩, fun hn => ⟨fun _ => ?_, fun h => by simp at h⟩⟩
    · obtain ⟨_, h2, _⟩ := numR_got (byt_drop hb lo) hn
      have := numW_len (v : Int)
      simp only [beq_iff_eq] at h0
      omega
    · simp only [decide_eq_true_eq] at hv
      unfold rNum at h
      rw [if_pos rfl, hn] at h
      simp only [if_pos (show most < (v : Int) from hv)] at h
      exact h
    · obtain ⟨_, h2, r, h3⟩ := numR_got (byt_drop hb lo) hn
      have := congrArg List.length h3
      rw [List.length_drop, List.length_append] at this
      omega
    · simp only [decide_eq_false_iff_not] at hv
      unfold rNum at h
      rw [if_pos rfl, hn] at h
      simp only [if_neg (show ¬ most < (v : Int) from hv)] at h
      rw [show lo + (l.length - lo) = l.length by omega]
      exact h
    · unfold rNum at h
      rw [if_pos rfl, hn] at h
      exact h
    · unfold rNum at h
      rw [if_pos rfl, hn] at h
      exact h)
theorem rdS_ok : AllOk Try.prog rdS := fun f k h => by
  unfold rdS at h
  split at h
  · cases h; exact okNum
  · cases h; exact nilIn_ok okWNum _
  · cases h; exact okRefNum
  · exact nuS_ok _ _ h
theorem XRd_ok : CallOk Try.prog XRd := callS_ok mixed rdS_ok noT 10
def SwBytes : FSpec := fun args kb K => match args, kb with
  | [.ptr 0 0], [.cells [.sl 1 0 h], .row 5 1 A] => ∃ a : List Int, A = ints .u8 a ∧ h = a.length ∧ a.length ≤ 1000000 ∧ K (.sl 2 0 a.length) [.cells [.sl 1 0 a.length], .row 5 1 (ints .u8 a), .row 5 1 (ints .u8 a)]
  | _, _ => False
theorem dropTake {k : IntKind} {a : List Int} : List.drop 0 (List.take a.length (ints k a)) = ints k a := by rw [List.drop_zero, ints_take, List.take_length]
theorem okBytesW : SpecOk Try.prog 25 SwBytes := specOk_of' XRd_ok mixed (fun args kb K h => by
  unfold SwBytes at h; split at h <;> try exact h.elim
  obtain ⟨a, rfl, rfl, h1, h⟩ := h
  refine ⟨noT 25, vcBytes _ _ K ?_⟩
  rw [dropTake, ints_len]
  exact ⟨⟨Nat.le_refl _, trivial⟩, h1, ⟨plain_ints⟩, h⟩)
def SpRead : FSpec := fun args kb K => match args, kb with
  | [.dat (.sl 1 A)], [] => A.length ≤ 1000000 ∧ K (.ptr 0 0) [.cells [.sl 1 0 A.length, .int .i64 0], .row 5 1 A]
  | _, _ => False
theorem okPRead : SpecOk Try.prog 20 SpRead := specOk_tidy XRd_ok mixed (fun args kb K h => by
  unfold SpRead at h; split at h <;> try exact h.elim
  exact ⟨noT 20, vcRead _ K h⟩)
def SrEnd : FSpec := fun args kb K => match args, kb with
  | [.ptr 0 0], [.cells [.sl 1 lo h, .int .i64 e], .row 5 1 A] => ∃ l : List Int, A = ints .u8 l ∧ h = l.length ∧
    K (.int .i64 (rEnd (l.drop lo) e)) [.cells [.sl 1 lo l.length, .int .i64 (rEnd (l.drop lo) e)], .row 5 1 (ints .u8 l)]
  | _, _ => False
theorem okEnd : SpecOk Try.prog 23 SrEnd := specOk_of' XRd_ok mixed (fun args kb K h => by
  unfold SrEnd at h; split at h <;> try exact h.elim
  rename_i lo _ e _
  obtain ⟨l, rfl, rfl, h⟩ := h
  have hd : l.drop lo = [] ↔ l.length - lo = 0 := by rw [← List.length_eq_zero_iff, List.length_drop]
  refine ⟨noT 23, vcEnd l lo e K ⟨fun hc => ⟨fun h0 => ?_, fun h0 => ?_⟩, fun hc => ?_⟩⟩
  · simp only [decide_eq_true_eq] at hc
    simp only [beq_iff_eq] at h0
    unfold rEnd at h
    rw [if_pos ⟨fun hh => by rw [hd] at hh; omega, h0⟩] at h
    exact h
  · simp only [beq_eq_false_iff_ne, ne_eq] at h0
    unfold rEnd at h
    rw [if_neg (fun hh => h0 hh.2)] at h
    exact h
  · simp only [decide_eq_false_iff_not] at hc
    unfold rEnd at h
    rw [if_neg (fun hh => hh.1 (hd.2 (by omega)))] at h
    exact h)
def SrErr : FSpec := fun args kb K => match args, kb with
  | [.ptr 0 0], [.cells [.sl 1 lo hi, .int .i64 e], .row 5 1 A] => K (.int .i64 e) [.cells [.sl 1 lo hi, .int .i64 e], .row 5 1 A]
  | _, _ => False
theorem okErr : SpecOk Try.prog 22 SrErr := specOk_of' XRd_ok mixed (fun args kb K h => by
  unfold SrErr at h; split at h <;> try exact h.elim
  exact ⟨noT 22, vcErr _ _ _ _ K h⟩)
end Go.Proofs.Ytljkijkonhcgfaa
