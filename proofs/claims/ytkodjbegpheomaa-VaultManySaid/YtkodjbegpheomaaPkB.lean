import Derived.Test.YtkodjbegpheomaaPk
import Derived.KernelRfl
namespace Go.Proofs.Ytkodjbegpheomaa
open Vc Go
set_option linter.unusedVariables false
set_option linter.unusedSimpArgs false
set_option maxRecDepth 100000
def nuS : FuncId → Option Known
  | 62 => some ⟨[], Snumber⟩
  | f => baS f
noncomputable def XNu : CallT := callS Try.prog nuS noT 10
def SrNum : FSpec := fun args kb K => match args, kb with
  | [.ptr 0 0, .int .i64 most], [.cells [.sl 1 lo h, .int .i64 e], .row 5 1 A] => ∃ l : List Int, A = ints .u8 l ∧ h = l.length ∧ lo ≤ l.length ∧ Byt l ∧ l.length ≤ 10000000 ∧
    K (.int .i64 (rNum (l.drop lo) e most).1) [.cells [.sl 1 (lo + (rNum (l.drop lo) e most).2.1) l.length, .int .i64 (rNum (l.drop lo) e most).2.2], .row 5 1 (ints .u8 l)]
  | _, _ => False
def rdS : FuncId → Option Known
  | 44 => some ⟨[], SrNum⟩
  | 27 => some ⟨[], nilIn [.cell 0 0 5 1] SwNum⟩
  | 34 => some ⟨[], SrefNum⟩
  | f => nuS f
noncomputable def XRd : CallT := callS Try.prog rdS noT 10
def leInv (m i : Nat) : Prop := i ≤ m
def rdT (l : List Int) (most : Int) (n : Nat) : FuncId → Nat → Option LI
  | _, _ => none
theorem vcNum (l : List Int) (lo : Nat) (e most : Int) (K : V → KB → Prop) (hvc_ :
 ((e != 0) = true → K (V.int IntKind.i64 0) [KO.cells [V.sl 1 lo l.length, V.int IntKind.i64 e], KO.row 5 1 (ints IntKind.u8 l)]) ∧
 ((e != 0) = false →
 ∃ (l_1 : List Int),
 ints IntKind.u8 l = ints IntKind.u8 l_1 ∧
 l.length = l_1.length ∧
 lo ≤ l_1.length ∧
 (∀ (c : Int), List.Mem c l_1 → 0 ≤ c ∧ c < 256) ∧
 l_1.length ≤ 10000000 ∧
 e = 0 ∧
 (∀ (v n : Nat),
 numR 0 0 (List.drop lo l_1) = RdN.got v n →
 (((↑n : Int) == 0) = true → K (V.int IntKind.i64 0) [KO.cells [V.sl 1 lo l_1.length, V.int IntKind.i64 0], KO.row 5 1 (ints IntKind.u8 l_1)]) ∧
 (((↑n : Int) == 0) = false →
 (decide ((↑v : Int) > most) = true → (true = true → K (V.int IntKind.i64 0) [KO.cells [V.sl 1 lo l_1.length, V.int IntKind.i64 5], KO.row 5 1 (ints IntKind.u8 l_1)]) ∧ (true = false → K (V.int IntKind.i64 0) [KO.cells [V.sl 1 lo l_1.length, V.int IntKind.i64 0], KO.row 5 1 (ints IntKind.u8 l_1)])) ∧
 (decide ((↑v : Int) > most) = false → NonN (↑n : Int) ∧ True ∧ (↑n : Int).toNat ≤ l_1.length - lo ∧ l_1.length - lo ≤ l_1.length - lo ∧ K (V.int IntKind.i64 (↑v : Int)) [KO.cells [V.sl 1 (lo + (↑n : Int).toNat) (lo + (l_1.length - lo)), V.int IntKind.i64 0], KO.row 5 1 (ints IntKind.u8 l_1)]))) ∧
 (numR 0 0 (List.drop lo l_1) = RdN.short →
 (true = true → K (V.int IntKind.i64 0) [KO.cells [V.sl 1 lo l_1.length, V.int IntKind.i64 2], KO.row 5 1 (ints IntKind.u8 l_1)]) ∧
 (true = false →
 (decide (0 > most) = true → (false = true → K (V.int IntKind.i64 0) [KO.cells [V.sl 1 lo l_1.length, V.int IntKind.i64 5], KO.row 5 1 (ints IntKind.u8 l_1)]) ∧ (false = false → K (V.int IntKind.i64 0) [KO.cells [V.sl 1 lo l_1.length, V.int IntKind.i64 2], KO.row 5 1 (ints IntKind.u8 l_1)])) ∧
 (decide (0 > most) = false → NonN 0 ∧ True ∧ 0 ≤ l_1.length - lo ∧ l_1.length - lo ≤ l_1.length - lo ∧ K (V.int IntKind.i64 0) [KO.cells [V.sl 1 (lo + 0) (lo + (l_1.length - lo)), V.int IntKind.i64 2], KO.row 5 1 (ints IntKind.u8 l_1)]))) ∧
 (numR 0 0 (List.drop lo l_1) = RdN.form →
 (true = true → K (V.int IntKind.i64 0) [KO.cells [V.sl 1 lo l_1.length, V.int IntKind.i64 3], KO.row 5 1 (ints IntKind.u8 l_1)]) ∧
 (true = false →
 (decide (0 > most) = true → (false = true → K (V.int IntKind.i64 0) [KO.cells [V.sl 1 lo l_1.length, V.int IntKind.i64 5], KO.row 5 1 (ints IntKind.u8 l_1)]) ∧ (false = false → K (V.int IntKind.i64 0) [KO.cells [V.sl 1 lo l_1.length, V.int IntKind.i64 3], KO.row 5 1 (ints IntKind.u8 l_1)])) ∧
 (decide (0 > most) = false → NonN 0 ∧ True ∧ 0 ≤ l_1.length - lo ∧ l_1.length - lo ≤ l_1.length - lo ∧ K (V.int IntKind.i64 0) [KO.cells [V.sl 1 (lo + 0) (lo + (l_1.length - lo)), V.int IntKind.i64 3], KO.row 5 1 (ints IntKind.u8 l_1)]))))
 ) : runSpec Try.prog XNu (noT 44) 44 [.ptr 0 0, .int .i64 most] [.cells [.sl 1 lo l.length, .int .i64 e], .row 5 1 (ints .u8 l)] K := by apply Eq.mp (a := hvc_); kernel_rfl
theorem vcText (l : List Int) (lo : Nat) (e most : Int) (K : V → KB → Prop) (hvc_ :
 ∃ (l_1 : List Int),
 ints IntKind.u8 l = ints IntKind.u8 l_1 ∧
 l.length = l_1.length ∧
 lo ≤ l_1.length ∧
 (∀ (c : Int), List.Mem c l_1 → 0 ≤ c ∧ c < 256) ∧
 l_1.length ≤ 10000000 ∧
 (((rNum (List.drop lo l_1) e most).snd.snd != 0) = true → K (V.sl 2 0 0) [KO.cells [V.sl 1 (lo + (rNum (List.drop lo l_1) e most).snd.fst) l_1.length, V.int IntKind.i64 (rNum (List.drop lo l_1) e most).snd.snd], KO.row 5 1 (ints IntKind.u8 l_1), KO.row 5 1 []]) ∧
 (((rNum (List.drop lo l_1) e most).snd.snd != 0) = false →
 (decide ((rNum (List.drop lo l_1) e most).fst > (↑(l_1.length - (lo + (rNum (List.drop lo l_1) e most).snd.fst)) : Int)) = true →
 (((rNum (List.drop lo l_1) e most).snd.snd == 0) = true → K (V.sl 2 0 0) [KO.cells [V.sl 1 (lo + (rNum (List.drop lo l_1) e most).snd.fst) l_1.length, V.int IntKind.i64 2], KO.row 5 1 (ints IntKind.u8 l_1), KO.row 5 1 []]) ∧
 (((rNum (List.drop lo l_1) e most).snd.snd == 0) = false → K (V.sl 2 0 0) [KO.cells [V.sl 1 (lo + (rNum (List.drop lo l_1) e most).snd.fst) l_1.length, V.int IntKind.i64 (rNum (List.drop lo l_1) e most).snd.snd], KO.row 5 1 (ints IntKind.u8 l_1), KO.row 5 1 []])) ∧
 (decide ((rNum (List.drop lo l_1) e most).fst > (↑(l_1.length - (lo + (rNum (List.drop lo l_1) e most).snd.fst)) : Int)) = false →
 True ∧
 NonN (rNum (List.drop lo l_1) e most).fst ∧
 0 ≤ (rNum (List.drop lo l_1) e most).fst.toNat ∧
 (rNum (List.drop lo l_1) e most).fst.toNat ≤ l_1.length - (lo + (rNum (List.drop lo l_1) e most).snd.fst) ∧
 (lo + (rNum (List.drop lo l_1) e most).snd.fst + (rNum (List.drop lo l_1) e most).fst.toNat ≤ (ints IntKind.u8 l_1).length ∧ True) ∧
 (List.drop (lo + (rNum (List.drop lo l_1) e most).snd.fst + 0) (List.take (lo + (rNum (List.drop lo l_1) e most).snd.fst + (rNum (List.drop lo l_1) e most).fst.toNat) (ints IntKind.u8 l_1))).length ≤ 1000000 ∧
 PlainS (List.drop (lo + (rNum (List.drop lo l_1) e most).snd.fst + 0) (List.take (lo + (rNum (List.drop lo l_1) e most).snd.fst + (rNum (List.drop lo l_1) e most).fst.toNat) (ints IntKind.u8 l_1))).flatten ∧
 NonN (rNum (List.drop lo l_1) e most).fst ∧
 True ∧
 (rNum (List.drop lo l_1) e most).fst.toNat ≤ l_1.length - (lo + (rNum (List.drop lo l_1) e most).snd.fst) ∧
 l_1.length - (lo + (rNum (List.drop lo l_1) e most).snd.fst) ≤ l_1.length - (lo + (rNum (List.drop lo l_1) e most).snd.fst) ∧
 K (V.sl 2 0 (List.drop (lo + (rNum (List.drop lo l_1) e most).snd.fst + 0) (List.take (lo + (rNum (List.drop lo l_1) e most).snd.fst + (rNum (List.drop lo l_1) e most).fst.toNat) (ints IntKind.u8 l_1))).length)
 [KO.cells [V.sl 1 (lo + (rNum (List.drop lo l_1) e most).snd.fst + (rNum (List.drop lo l_1) e most).fst.toNat) (lo + (rNum (List.drop lo l_1) e most).snd.fst + (l_1.length - (lo + (rNum (List.drop lo l_1) e most).snd.fst))), V.int IntKind.i64 (rNum (List.drop lo l_1) e most).snd.snd], KO.row 5 1 (ints IntKind.u8 l_1),
 KO.row 5 1 (List.drop (lo + (rNum (List.drop lo l_1) e most).snd.fst + 0) (List.take (lo + (rNum (List.drop lo l_1) e most).snd.fst + (rNum (List.drop lo l_1) e most).fst.toNat) (ints IntKind.u8 l_1)))]))
 ) : runSpec Try.prog XRd (noT 46) 46 [.ptr 0 0, .int .i64 most] [.cells [.sl 1 lo l.length, .int .i64 e], .row 5 1 (ints .u8 l)] (nilRes [.slot 0 5 1] K) := by apply Eq.mp (a := hvc_); kernel_rfl
theorem vcWText (a : List Int) (B : List (List D)) (K : V → KB → Prop) (hvc_ :
 ∃ (a_1 : List Int),
 ints IntKind.u8 a = ints IntKind.u8 a_1 ∧
 a.length = a_1.length ∧
 a_1.length ≤ 10000000 ∧
 LeM (↑B.length : Int) ∧
 True ∧
 (a_1 ++ numW (↑B.length : Int)).length ≤ (ints IntKind.u8 (a_1 ++ numW (↑B.length : Int))).length ∧
 ((a_1 ++ numW (↑B.length : Int)).length + B.length) * 1 ≤ 140737488355328 ∧ K (V.tup []) [KO.cells [V.sl 2 0 ((a_1 ++ numW (↑B.length : Int)).length + B.length)], KO.dead, KO.row 5 1 (List.take (a_1 ++ numW (↑B.length : Int)).length (ints IntKind.u8 (a_1 ++ numW (↑B.length : Int))) ++ B)]
 ) : runSpec Try.prog XRd (noT 28) 28 [.ptr 0 0, .dat (.sl 1 B)] [.cells [.sl 1 0 a.length], .row 5 1 (ints .u8 a)] (tidyRes 2 K) := by apply Eq.mp (a := hvc_); kernel_rfl
theorem vcBytes (A : List (List D)) (n : Nat) (K : V → KB → Prop) (hvc_ :
 (n ≤ A.length ∧ True) ∧ (List.drop 0 (List.take n A)).length ≤ 1000000 ∧ PlainS (List.drop 0 (List.take n A)).flatten ∧ K (V.sl 2 0 (List.drop 0 (List.take n A)).length) [KO.cells [V.sl 1 0 n], KO.row 5 1 A, KO.row 5 1 (List.drop 0 (List.take n A))]
 ) : runSpec Try.prog XRd (noT 30) 30 [.ptr 0 0] [.cells [.sl 1 0 n], .row 5 1 A] K := by apply Eq.mp (a := hvc_); kernel_rfl
theorem vcRead (A : List (List D)) (K : V → KB → Prop) (hvc_ :
 A.length ≤ 1000000 ∧ K (V.ptr 0 0) [KO.cells [V.sl 1 0 A.length, V.int IntKind.i64 0], KO.row 5 1 A]
 ) : runSpec Try.prog XRd (noT 43) 43 [.dat (.sl 1 A)] [] (tidyRes 0 K) := by apply Eq.mp (a := hvc_); kernel_rfl
theorem vcEnd (l : List Int) (lo : Nat) (e : Int) (K : V → KB → Prop) (hvc_ :
 (decide ((↑(l.length - lo) : Int) > 0) = true → ((e == 0) = true → K (V.int IntKind.i64 3) [KO.cells [V.sl 1 lo l.length, V.int IntKind.i64 3], KO.row 5 1 (ints IntKind.u8 l)]) ∧ ((e == 0) = false → K (V.int IntKind.i64 e) [KO.cells [V.sl 1 lo l.length, V.int IntKind.i64 e], KO.row 5 1 (ints IntKind.u8 l)])) ∧
 (decide ((↑(l.length - lo) : Int) > 0) = false → K (V.int IntKind.i64 e) [KO.cells [V.sl 1 lo l.length, V.int IntKind.i64 e], KO.row 5 1 (ints IntKind.u8 l)])
 ) : runSpec Try.prog XRd (noT 45) 45 [.ptr 0 0] [.cells [.sl 1 lo l.length, .int .i64 e], .row 5 1 (ints .u8 l)] K := by apply Eq.mp (a := hvc_); kernel_rfl
theorem vcRefText (b : List (List D)) (K : V → KB → Prop) (hvc_ :
 LeM (↑b.length : Int) ∧ True ∧ (numW (↑b.length : Int)).length ≤ (ints IntKind.u8 (numW (↑b.length : Int))).length ∧ ((numW (↑b.length : Int)).length + b.length) * 1 ≤ 140737488355328 ∧ K (V.sl 0 0 ((numW (↑b.length : Int)).length + b.length)) [KO.row 5 1 (List.take (numW (↑b.length : Int)).length (ints IntKind.u8 (numW (↑b.length : Int))) ++ b)]
 ) : runSpec Try.prog XRd (noT 35) 35 [.dat (.sl 1 b)] [] (tidyRes 0 K) := by apply Eq.mp (a := hvc_); kernel_rfl
theorem baS_ok : AllOk Try.prog baS := fun f k h => by
  unfold baS at h
  split at h <;> first | (cases h; first | exact okSame | exact cloneN_of okClone) | cases h
theorem nuS_ok : AllOk Try.prog nuS := fun f k h => by
  unfold nuS at h
  split at h
  · cases h; exact okNumber
  · exact baS_ok _ _ h
theorem XNu_ok : CallOk Try.prog XNu := callS_ok mixed nuS_ok noT 10
theorem byt_drop {l : List Int} (h : Byt l) (n : Nat) : Byt (l.drop n) := fun c hc => h c (List.mem_of_mem_drop hc)
theorem byt_take {l : List Int} (h : Byt l) (n : Nat) : Byt (l.take n) := fun c hc => h c (List.mem_of_mem_take hc)
theorem okNum : SpecOk Try.prog 44 SrNum := specOk_of' XNu_ok mixed (fun args kb K h => by
  unfold SrNum at h; split at h <;> try exact h.elim
  rename_i most lo _ e _
  obtain ⟨l, rfl, rfl, hlo, hb, hl, h⟩ := h
  refine ⟨noT 44, vcNum l lo e most K ⟨fun hc => ?_, fun hc => ?_⟩⟩
  · simp only [bne_iff_ne, ne_eq] at hc
    unfold rNum at h
    rw [if_neg hc] at h
    exact h
  · simp only [bne_eq_false_iff_eq] at hc
    subst hc
    refine ⟨l, rfl, rfl, hlo, hb, hl, rfl, fun v n hn => ⟨fun h0 => ?_, fun h0 => ⟨fun hv => ⟨fun _ => ?_, fun h => by simp at h⟩, fun hv => ⟨by unfold NonN; omega, trivial, ?_, Nat.le_refl _, ?_⟩⟩⟩, fun hn => ⟨fun _ => ?_, fun h => by simp at h⟩, fun hn => ⟨fun _ => ?_, fun h => by simp at h⟩⟩
    · obtain ⟨_, h2, _⟩ := numR_got (byt_drop hb lo) hn
      have := numW_len (v : Int)
      simp only [beq_iff_eq] at h0
      omega
    · simp only [decide_eq_true_eq] at hv
      unfold rNum at h
      rw [if_pos rfl, hn] at h
      simp only [if_pos (show most < (v : Int) from hv)] at h
      exact h
    · obtain ⟨_, h2, r, h3⟩ := numR_got (byt_drop hb lo) hn
      have := congrArg List.length h3
      rw [List.length_drop, List.length_append] at this
      omega
    · simp only [decide_eq_false_iff_not] at hv
      unfold rNum at h
      rw [if_pos rfl, hn] at h
      simp only [if_neg (show ¬ most < (v : Int) from hv)] at h
      rw [show lo + (l.length - lo) = l.length by omega]
      exact h
    · unfold rNum at h
      rw [if_pos rfl, hn] at h
      exact h
    · unfold rNum at h
      rw [if_pos rfl, hn] at h
      exact h)
theorem rdS_ok : AllOk Try.prog rdS := fun f k h => by
  unfold rdS at h
  split at h
  · cases h; exact okNum
  · cases h; exact nilIn_ok okWNum _
  · cases h; exact okRefNum
  · exact nuS_ok _ _ h
theorem XRd_ok : CallOk Try.prog XRd := callS_ok mixed rdS_ok noT 10
def SrText : FSpec := fun args kb K => match args, kb with
  | [.ptr 0 0, .int .i64 most], [.cells [.sl 1 lo h, .int .i64 e], .row 5 1 A] => ∃ l : List Int, A = ints .u8 l ∧ h = l.length ∧ lo ≤ l.length ∧ Byt l ∧ l.length ≤ 900000 ∧
    K (.sl 2 0 (rText (l.drop lo) e most).1.length) [.cells [.sl 1 (lo + (rText (l.drop lo) e most).2.1) l.length, .int .i64 (rText (l.drop lo) e most).2.2], .row 5 1 (ints .u8 l), .row 5 1 (ints .u8 (rText (l.drop lo) e most).1)]
  | _, _ => False
theorem okText : SpecOk Try.prog 46 SrText := specOk_nil XRd_ok mixed [.slot 0 5 1] (fun args kb K h => by
  unfold SrText at h; split at h <;> try exact h.elim
  rename_i most lo _ e _
  obtain ⟨l, rfl, rfl, hlo, hb, hl, h⟩ := h
  refine ⟨noT 46, vcText l lo e most K ⟨l, rfl, rfl, hlo, hb, by omega, ?_⟩⟩
  have hv := rNum_val (byt_drop hb lo) e most
  rw [List.length_drop] at hv
  unfold rText at h
  generalize hr : rNum (l.drop lo) e most = r at h hv ⊢
  obtain ⟨n, u, e'⟩ := r
  simp only at h hv ⊢
  refine ⟨fun hc => ?_, fun hc => ⟨fun hx => ⟨fun hy => ?_, fun hy => ?_⟩, fun hx => ?_⟩⟩
  · simp only [bne_iff_ne, ne_eq] at hc
    rw [if_neg hc] at h
    exact h
  · simp only [decide_eq_true_eq] at hx
    simp only [bne_eq_false_iff_eq] at hc
    subst hc
    rw [if_pos rfl, if_pos (by rw [List.length_drop, List.length_drop]; omega)] at h
    exact h
  · rw [bne, hy] at hc
    cases hc
  · simp only [decide_eq_false_iff_not] at hx
    simp only [bne_eq_false_iff_eq] at hc
    subst hc
    rw [if_pos rfl, if_neg (by rw [List.length_drop, List.length_drop]; omega)] at h
    have hnn : NonN n := hv.1
    have e1 : List.drop (lo + u + 0) (List.take (lo + u + n.toNat) (ints .u8 l)) = ints .u8 (List.take n.toNat (List.drop u (List.drop lo l))) := by
      rw [Nat.add_zero, List.drop_take, ints_drop, ints_take, List.drop_drop, Nat.add_sub_cancel_left]
    rw [e1]
    simp only [List.drop_drop, ints_len] at h ⊢
    have e3 : lo + u + (l.length - (lo + u)) = l.length := by omega
    rw [e3]
    refine ⟨trivial, hnn, Nat.zero_le _, by omega, ⟨by omega, trivial⟩, by rw [List.length_take, List.length_drop]; omega, ⟨plain_ints⟩, hnn, trivial, by omega, Nat.le_refl _, ?_⟩
    rw [show lo + u + n.toNat = lo + (u + n.toNat) by omega]
    exact h)
def SwText : FSpec := fun args kb K => match args, kb with
  | [.ptr 0 0, .dat (.sl 1 B)], [.cells [.sl 1 0 h], .row 5 1 A] => ∃ a b : List Int, A = ints .u8 a ∧ B = ints .u8 b ∧ h = a.length ∧ a.length ≤ 1000000 ∧ b.length ≤ 1000000 ∧
    K (.tup []) [.cells [.sl 2 0 (a ++ textW b).length], .dead, .row 5 1 (ints .u8 (a ++ textW b))]
  | _, _ => False
theorem okWText : SpecOk Try.prog 28 SwText := specOk_tidy XRd_ok mixed (fun args kb K h => by
  unfold SwText at h; split at h <;> try exact h.elim
  obtain ⟨a, b, rfl, rfl, rfl, h1, h2, h⟩ := h
  refine ⟨noT 28, vcWText a _ K ⟨a, rfl, rfl, by omega, ⟨by rw [ints_len]; omega⟩, trivial, by simp only [ints_len]; exact Nat.le_refl _, ?_, ?_⟩⟩
  · have := (numW_len ((ints IntKind.u8 b).length : Int)).2
    rw [List.length_append, ints_len]
    rw [ints_len] at this
    omega
  · rw [ints_len, ints_take, List.take_length, ← ints_app, ← List.length_append, List.append_assoc]
    exact h)
def SwBytes : FSpec := fun args kb K => match args, kb with
  | [.ptr 0 0], [.cells [.sl 1 0 h], .row 5 1 A] => ∃ a : List Int, A = ints .u8 a ∧ h = a.length ∧ a.length ≤ 1000000 ∧ K (.sl 2 0 a.length) [.cells [.sl 1 0 a.length], .row 5 1 (ints .u8 a), .row 5 1 (ints .u8 a)]
  | _, _ => False
theorem dropTake {k : IntKind} {a : List Int} : List.drop 0 (List.take a.length (ints k a)) = ints k a := by rw [List.drop_zero, ints_take, List.take_length]
theorem okBytesW : SpecOk Try.prog 30 SwBytes := specOk_of' XRd_ok mixed (fun args kb K h => by
  unfold SwBytes at h; split at h <;> try exact h.elim
  obtain ⟨a, rfl, rfl, h1, h⟩ := h
  refine ⟨noT 30, vcBytes _ _ K ?_⟩
  rw [dropTake, ints_len]
  exact ⟨⟨Nat.le_refl _, trivial⟩, h1, ⟨plain_ints⟩, h⟩)
def SpRead : FSpec := fun args kb K => match args, kb with
  | [.dat (.sl 1 A)], [] => A.length ≤ 1000000 ∧ K (.ptr 0 0) [.cells [.sl 1 0 A.length, .int .i64 0], .row 5 1 A]
  | _, _ => False
theorem okPRead : SpecOk Try.prog 43 SpRead := specOk_tidy XRd_ok mixed (fun args kb K h => by
  unfold SpRead at h; split at h <;> try exact h.elim
  exact ⟨noT 43, vcRead _ K h⟩)
def SrEnd : FSpec := fun args kb K => match args, kb with
  | [.ptr 0 0], [.cells [.sl 1 lo h, .int .i64 e], .row 5 1 A] => ∃ l : List Int, A = ints .u8 l ∧ h = l.length ∧
    K (.int .i64 (rEnd (l.drop lo) e)) [.cells [.sl 1 lo l.length, .int .i64 (rEnd (l.drop lo) e)], .row 5 1 (ints .u8 l)]
  | _, _ => False
theorem okEnd : SpecOk Try.prog 45 SrEnd := specOk_of' XRd_ok mixed (fun args kb K h => by
  unfold SrEnd at h; split at h <;> try exact h.elim
  rename_i lo _ e _
  obtain ⟨l, rfl, rfl, h⟩ := h
  have hd : l.drop lo = [] ↔ l.length - lo = 0 := by rw [← List.length_eq_zero_iff, List.length_drop]
  refine ⟨noT 45, vcEnd l lo e K ⟨fun hc => ⟨fun h0 => ?_, fun h0 => ?_⟩, fun hc => ?_⟩⟩
  · simp only [decide_eq_true_eq] at hc
    simp only [beq_iff_eq] at h0
    unfold rEnd at h
    rw [if_pos ⟨fun hh => by rw [hd] at hh; omega, h0⟩] at h
    exact h
  · simp only [beq_eq_false_iff_ne, ne_eq] at h0
    unfold rEnd at h
    rw [if_neg (fun hh => h0 hh.2)] at h
    exact h
  · simp only [decide_eq_false_iff_not] at hc
    unfold rEnd at h
    rw [if_neg (fun hh => hh.1 (hd.2 (by omega)))] at h
    exact h)
def SrefText : FSpec := fun args kb K => match args, kb with
  | [.dat (.sl 1 B)], [] => ∃ b : List Int, B = ints .u8 b ∧ b.length ≤ 1000000 ∧ K (.sl 0 0 (textW b).length) [.row 5 1 (ints .u8 (textW b))]
  | _, _ => False
theorem okRefText : SpecOk Try.prog 35 SrefText := specOk_tidy XRd_ok mixed (fun args kb K h => by
  unfold SrefText at h; split at h <;> try exact h.elim
  obtain ⟨b, rfl, hl, h⟩ := h
  refine ⟨noT 35, vcRefText _ K ?_⟩
  rw [ints_len, ints_len, ints_take, List.take_length, ← ints_app, ← List.length_append]
  have := (numW_len (b.length : Int)).2
  exact ⟨⟨by omega⟩, trivial, Nat.le_refl _, by rw [List.length_append]; omega, h⟩)
end Go.Proofs.Ytkodjbegpheomaa
