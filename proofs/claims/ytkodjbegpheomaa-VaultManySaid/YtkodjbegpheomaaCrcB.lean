import Derived.Test.YtkodjbegpheomaaCrc
import Derived.KernelRfl
namespace Go.Proofs.Ytkodjbegpheomaa
open Vc Go
set_option linter.unusedVariables false
set_option linter.unusedSimpArgs false
set_option maxRecDepth 100000
def sumS : FuncId → Option Known
  | 91 => some ⟨[.lend 1], Ssum⟩
  | 12 => some ⟨[.lend 1, .lend 1], Ssame⟩
  | 76 => some ⟨[.lend 1, .lend 1], Ssame⟩
  | 31 => some ⟨[.lend 1], Sclone⟩
  | _ => none
noncomputable def XS : CallT := callS Try.prog sumS noT 10
def Sseal : FSpec := fun args kb K => match args, kb with
  | [.dat (.sl 1 A)], [] => ∃ l : List Int, A = ints .u8 l ∧ Byt l ∧ l.length ≤ 900000 ∧ K (.sl 0 0 (l.length + 4)) [.row 5 1 (ints .u8 (sealI l))]
  | _, _ => False
def Sopen : FSpec := fun args kb K => match args, kb with
  | [.dat (.sl 1 A)], [] => ∃ l : List Int, A = ints .u8 l ∧ Byt l ∧ l.length ≤ 900000 ∧ (openI l = none → K (.tup [.any (.slice none 0 0), .sb false]) []) ∧
    ∀ m, openI l = some m → (m = [] → K (.tup [.any (.slice none 0 0), .sb true]) []) ∧ K (.tup [.sl 0 0 m.length, .sb true]) [.row 5 1 (ints .u8 m)]
  | _, _ => False
def SrOpen : FSpec := fun args kb K => match args, kb with
  | [.dat (.sl 1 A)], [] => ∃ l : List Int, A = ints .u8 l ∧ Byt l ∧ l.length ≤ 900000 ∧ (openI l = none → K (.tup [.any (.slice none 0 0), .sb false]) []) ∧
    ∀ m, openI l = some m → K (.tup [.dat (.sl 1 (ints .u8 m)), .sb true]) []
  | [.sl 0 0 n], [.row 5 1 A] => ∃ l : List Int, A = ints .u8 l ∧ n = l.length ∧ Byt l ∧ l.length ≤ 900000 ∧ (openI l = none → K (.tup [.any (.slice none 0 0), .sb false]) [.row 5 1 (ints .u8 l)]) ∧
    ∀ m, openI l = some m → K (.tup [.sl 0 0 m.length, .sb true]) [.row 5 1 (ints .u8 l)]
  | _, _ => False
def sealS : FuncId → Option Known
  | 77 => some ⟨[.lend 1], Sseal⟩
  | f => sumS f
noncomputable def XO : CallT := callS Try.prog sealS noT 10
theorem vcOpen (l : List Int) (K : V → KB → Prop) (hvc_ :
 (decide (IntKind.i64.wrap ((↑(ints IntKind.u8 l).length : Int) - 4) < 0) = true → K (V.tup [V.any (Value.slice none 0 0), V.sb false]) []) ∧
 (decide (IntKind.i64.wrap ((↑(ints IntKind.u8 l).length : Int) - 4) < 0) = false →
 True ∧
 NonN (IntKind.i64.wrap ((↑(ints IntKind.u8 l).length : Int) - 4)) ∧
 0 ≤ (IntKind.i64.wrap ((↑(ints IntKind.u8 l).length : Int) - 4)).toNat ∧
 (IntKind.i64.wrap ((↑(ints IntKind.u8 l).length : Int) - 4)).toNat ≤ (ints IntKind.u8 l).length ∧
 ∃ (l_1 : List Int),
 List.drop 0 (List.take (IntKind.i64.wrap ((↑(ints IntKind.u8 l).length : Int) - 4)).toNat (ints IntKind.u8 l)) = ints IntKind.u8 l_1 ∧
 (∀ (c : Int), List.Mem c l_1 → 0 ≤ c ∧ c < 256) ∧
 l_1.length ≤ 900000 ∧
 (l_1.length + 4 ≤ (ints IntKind.u8 (sealI l_1)).length ∧ True ∧ True) ∧
 ∃ (a : List Int),
 ∃ (b : List Int),
 List.drop 0 (List.take (l_1.length + 4) (ints IntKind.u8 (sealI l_1))) = ints IntKind.u8 a ∧
 ints IntKind.u8 l = ints IntKind.u8 b ∧
 a.length.le 1000000 ∧
 True ∧
 ((!decide (a = b)) = true → K (V.tup [V.any (Value.slice none 0 0), V.sb false]) []) ∧
 ((!decide (a = b)) = false →
 True ∧
 NonN (IntKind.i64.wrap ((↑(ints IntKind.u8 l).length : Int) - 4)) ∧
 0 ≤ (IntKind.i64.wrap ((↑(ints IntKind.u8 l).length : Int) - 4)).toNat ∧
 (IntKind.i64.wrap ((↑(ints IntKind.u8 l).length : Int) - 4)).toNat ≤ (ints IntKind.u8 l).length ∧
 (List.drop 0 (List.take (IntKind.i64.wrap ((↑(ints IntKind.u8 l).length : Int) - 4)).toNat (ints IntKind.u8 l))).length ≤ 1000000 ∧
 (List.drop 0 (List.take (IntKind.i64.wrap ((↑(ints IntKind.u8 l).length : Int) - 4)).toNat (ints IntKind.u8 l)) = [] → K (V.tup [V.any (Value.slice none 0 0), V.sb true]) []) ∧
 K (V.tup [V.sl 0 0 (List.drop 0 (List.take (IntKind.i64.wrap ((↑(ints IntKind.u8 l).length : Int) - 4)).toNat (ints IntKind.u8 l))).length, V.sb true]) [KO.row 5 1 (List.drop 0 (List.take (IntKind.i64.wrap ((↑(ints IntKind.u8 l).length : Int) - 4)).toNat (ints IntKind.u8 l)))]))
 ) : runSpec Try.prog XO (noT 75) 75 [.dat (.sl 1 (ints .u8 l))] [] K := by apply Eq.mp (a := hvc_); kernel_rfl
theorem vcSeal (A : List (List D)) (K : V → KB → Prop) (hvc_ :
 (1 ≤ 1 ∧ True) ∧
 ∃ (ls : List (List Int)),
 [[D.sl 1 A]] = List.map bsl ls ∧
 (ls.length ≤ 1000000 ∧ ∀ (l : List Int), List.Mem l ls → (∀ (c : Int), List.Mem c l → 0 ≤ c ∧ c < 256) ∧ l.length.le 1000000) ∧
 True ∧
 A.length ≤ 1000000 ∧
 (A = [] → 4 ≤ 4 ∧ 4 * 1 ≤ 140737488355328 ∧ K (V.sl 0 0 4) [KO.row 5 1 [[D.val (Value.int IntKind.u8 (IntKind.u8.wrap (crcI ls.flatten)))], [D.val (Value.int IntKind.u8 (IntKind.u8.wrap ((crcI ls.flatten).fdiv 256)))], [D.val (Value.int IntKind.u8 (IntKind.u8.wrap ((crcI ls.flatten).fdiv 65536)))], [D.val (Value.int IntKind.u8 (IntKind.u8.wrap ((crcI ls.flatten).fdiv 16777216)))]]]) ∧
 4 ≤ 4 ∧
 A.length ≤ A.length ∧
 (A.length + 4) * 1 ≤ 140737488355328 ∧
 K (V.sl 0 0 (A.length + 4)) [KO.row 5 1 (List.take A.length A ++ [[D.val (Value.int IntKind.u8 (IntKind.u8.wrap (crcI ls.flatten)))], [D.val (Value.int IntKind.u8 (IntKind.u8.wrap ((crcI ls.flatten).fdiv 256)))], [D.val (Value.int IntKind.u8 (IntKind.u8.wrap ((crcI ls.flatten).fdiv 65536)))], [D.val (Value.int IntKind.u8 (IntKind.u8.wrap ((crcI ls.flatten).fdiv 16777216)))]])]
 ) : runSpec Try.prog XS (noT 77) 77 [.dat (.sl 1 A)] [] K := by apply Eq.mp (a := hvc_); kernel_rfl
theorem sumS_ok : AllOk Try.prog sumS := fun f k h => by
  unfold sumS at h
  split at h <;> first | (cases h; first | exact okSum | exact okRSum | exact okSame | exact okEqual | exact okClone) | cases h
theorem XS_ok : CallOk Try.prog XS := callS_ok mixed sumS_ok noT 10
theorem crcI_one {l : List Int} : ([l] : List (List Int)).flatten = l := by simp
theorem okSeal : SpecOk Try.prog 77 Sseal := specOk_of' XS_ok mixed (fun args kb K h => by
  unfold Sseal at h; split at h <;> try exact h.elim
  obtain ⟨l, rfl, hb, hsm, h⟩ := h
  refine ⟨noT 77, vcSeal _ K ⟨⟨Nat.le_refl _, trivial⟩, [l], rfl, ⟨Nat.le_of_ble_eq_true rfl, fun x hx => ?_⟩, trivial, by rw [ints_len]; omega, fun e => ⟨Nat.le_refl _, by omega, ?_⟩, Nat.le_refl _, Nat.le_refl _, by rw [ints_len]; omega, ?_⟩⟩
  · cases hx with
    | head => exact ⟨hb, Nat.le_trans hsm (by decide)⟩
    | tail _ hx => cases hx
  · cases l with
    | cons a l => simp [ints] at e
    | nil => exact h
  · rw [crcI_one, ints_len, List.take_of_length_le (by rw [ints_len]; omega)]
    have : ints .u8 (sealI l) = ints .u8 l ++ ints .u8 (le4 (crcI l)) := by unfold sealI; rw [ints_app]
    rw [this] at h
    exact h)
theorem sealS_ok : AllOk Try.prog sealS := fun f k h => by
  unfold sealS at h
  split at h
  · cases h; exact okSeal
  · exact sumS_ok _ _ h
theorem XO_ok : CallOk Try.prog XO := callS_ok mixed sealS_ok noT 10
theorem take_four {l : List Int} (h : 4 ≤ l.length) (hm : l.length ≤ 900000) : (IntKind.i64.wrap ((l.length : Int) - 4)).toNat = l.length - 4 ∧ NonN (IntKind.i64.wrap ((l.length : Int) - 4)) := by
  rw [w64 (by omega) (by omega)]
  unfold NonN
  omega
theorem Byt.take {l : List Int} (h : Byt l) (n : Nat) : Byt (l.take n) := fun c hc => h c (List.mem_of_mem_take hc)
theorem dt (n : Nat) (l : List Int) : List.drop 0 (List.take n (ints .u8 l)) = ints .u8 (l.take n) := by rw [List.drop_zero, ints_take]
theorem okOpen : SpecOk Try.prog 75 Sopen := specOk_of' XO_ok mixed (fun args kb K h => by
  unfold Sopen at h; split at h <;> try exact h.elim
  obtain ⟨l, rfl, hb, hsm, h1, h2⟩ := h
  refine ⟨noT 75, vcOpen l K ⟨fun hc => ?_, fun hc => ?_⟩⟩
  · simp only [ints_len, decide_eq_true_eq] at hc
    refine h1 ?_
    unfold openI
    rw [if_neg]
    rintro ⟨h4, _⟩
    rw [w64 (by omega) (by omega)] at hc; omega
  · simp only [ints_len, decide_eq_false_iff_not] at hc ⊢
    have h4 : 4 ≤ l.length := by rw [w64 (by omega) (by omega)] at hc; omega
    obtain ⟨t1, t2⟩ := take_four h4 hsm
    rw [t1]
    refine ⟨trivial, t2, Nat.zero_le _, Nat.sub_le _ _, l.take (l.length - 4), dt _ _, Byt.take hb _, by simp; omega, ⟨?_, trivial, trivial⟩, sealI (l.take (l.length - 4)), l, ?_, rfl, ?_, trivial, fun hx => ?_, fun hx => ?_⟩
    · simp only [ints_len, sealI_len]; exact Nat.le_refl _
    · rw [dt, ← sealI_len, List.take_length]
    · show (sealI (l.take (l.length - 4))).length ≤ 1000000
      rw [sealI_len, List.length_take]; omega
    · refine h1 ?_
      unfold openI
      rw [if_neg]
      rintro ⟨_, he⟩
      simp [he] at hx
    · have ho : openI l = some (l.take (l.length - 4)) := by
        unfold openI
        rw [if_pos ⟨h4, by simpa using hx⟩]
      obtain ⟨k1, k2⟩ := h2 _ ho
      simp only [dt, ints_len]
      refine ⟨trivial, t2, Nat.zero_le _, Nat.sub_le _ _, by rw [List.length_take]; omega, fun e => k1 ?_, k2⟩
      have := congrArg List.length e
      rw [ints_len] at this
      exact List.length_eq_zero_iff.1 this)
def codeS : FuncId → Option Known
  | 75 => some ⟨[.lend 1], Sopen⟩
  | f => sealS f
theorem codeS_ok : AllOk Try.prog codeS := fun f k h => by
  unfold codeS at h
  split at h
  · cases h; exact okOpen
  · exact sealS_ok _ _ h
end Go.Proofs.Ytkodjbegpheomaa
