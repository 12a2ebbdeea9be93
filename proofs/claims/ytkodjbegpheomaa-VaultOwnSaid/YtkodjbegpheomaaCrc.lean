import Derived.Test.YtkodjbegpheomaaBa
import Derived.KernelRfl
import Derived.Test.YtkodjbegpheomaaVdT
namespace Go.Proofs.Ytkodjbegpheomaa
open Vc Go
set_option linter.unusedVariables false
set_option linter.unusedSimpArgs false
set_option maxRecDepth 100000
def tInv (i : Nat) : Prop := i ≤ 256
def uInv (k : Nat) : Prop := k ≤ 8
abbrev uLI (tb : Nat → List D) (h' : Nat → Nat → Int) (i : Nat) : LI where
  α := {k : Nat // uInv k}
  live := [1, 2, 3, 5, 10]
  st k := ([.ptr 0 0, .int .i64 (i : Int), .int .u32 (h' i k.1), .int .i64 (i : Int), .int .i64 (k.1 : Int)], [.cells [.arr 256 (tb i)]])
  μ k := 8 - k.1
abbrev tLI (tb : Nat → List D) (h' : Nat → Nat → Int) : LI where
  α := {i : Nat // tInv i}
  live := [1, 5]
  st i := ([.ptr 0 0, .int .i64 (i.1 : Int)], [.cells [.arr 256 (tb i.1)]])
  μ i := 256 - i.1
  sub i := fun r => match r with | 7 => some (uLI tb h' i.1) | _ => none
def sumT (tb : Nat → List D) (h' : Nat → Nat → Int) : FuncId → Nat → Option LI
  | 98, 3 => some (tLI tb h')
  | _, _ => none
def tabD (i : Nat) : List D := dns .u32 (crcTb i)
def tabH (i k : Nat) : Int := U (cstN k (BitVec.ofNat 32 i))
def Ssums (ts : List D) : FSpec := fun args kb K => match args, kb with
  | [], [] => K (.ptr 0 0) [.cells [.arr 256 ts]]
  | _, _ => False
def crS (ts : List D) : FuncId → Option Known
  | 98 => some ⟨[], Ssums ts⟩
  | _ => none
noncomputable def XC (ts : List D) : CallT := callS Try.prog (crS ts) noT 10
/-- Slices of bytes, a cell each. -/
def bsl (l : List Int) : List D := [.sl 1 (ints .u8 l)]
def qInv (n : Nat) (i : Nat) : Prop := i ≤ n
abbrev bLI (ts : List D) (ls : List (List Int)) (xv : Nat → Nat → Int) (j : Nat) : LI where
  α := {i : Nat // qInv (ls.getD j []).length i}
  live := [3, 4, 10, 11, 12, 16, 17, 18]
  st i := ([.ptr 0 0, .int .u32 (xv j i.1), .dat (.sl 1 (ls.map bsl)), .int .i64 (ls.length : Int), .int .i64 (j : Int), .dat (.sl 1 (ints .u8 (ls.getD j []))), .int .i64 ((ls.getD j []).length : Int), .int .i64 (i.1 : Int)], [.cells [.arr 256 ts]])
  μ i := (ls.getD j []).length - i.1
abbrev aLI (ts : List D) (ls : List (List Int)) (xv : Nat → Nat → Int) : LI where
  α := {j : Nat // qInv ls.length j}
  live := [3, 4, 10, 11, 12]
  st j := ([.ptr 0 0, .int .u32 (xv j.1 0), .dat (.sl 1 (ls.map bsl)), .int .i64 (ls.length : Int), .int .i64 (j.1 : Int)], [.cells [.arr 256 ts]])
  μ j := ls.length - j.1
  sub j := fun r => match r with | 7 => some (bLI ts ls xv j.1) | _ => none
def crcT (ts : List D) (ls : List (List Int)) (xv : Nat → Nat → Int) : FuncId → Nat → Option LI
  | 91, 4 => some (aLI ts ls xv)
  | _, _ => none
abbrev riLI (l : List Int) (yv : Nat → Nat → Int) (i : Nat) : LI where
  α := {k : Nat // uInv k}
  live := [0, 3, 4, 5]
  st k := ([.dat (.sl 1 (ints .u8 l)), .int .u32 (yv i k.1), .int .i64 (i : Int), .int .i64 (k.1 : Int)], [])
  μ k := 8 - k.1
abbrev rLI (l : List Int) (xv : Nat → Int) (yv : Nat → Nat → Int) : LI where
  α := {i : Nat // qInv l.length i}
  live := [0, 3, 4]
  st i := ([.dat (.sl 1 (ints .u8 l)), .int .u32 (xv i.1), .int .i64 (i.1 : Int)], [])
  μ i := l.length - i.1
  sub i := fun r => match r with | 7 => some (riLI l yv i.1) | _ => none
def rcT (l : List Int) (xv : Nat → Int) (yv : Nat → Nat → Int) : FuncId → Nat → Option LI
  | _, _ => none
theorem vcSums (tb : Nat → List D) (h' : Nat → Nat → Int) (K : V → KB → Prop) (hvc_ :
 At (tLI tb h')
 ([V.ptr 0 0, V.int IntKind.i64 0],
 [KO.cells
 [V.arr 256
 (List.replicate 256 (D.val (Value.int IntKind.u32 0)))]]) ∧
 ∀ (i : { i : Nat // tInv i }),
 (decide ((↑i.val : Int) < 256) = true →
 At (uLI tb h' i.val) ([V.ptr 0 0, V.int IntKind.i64 (↑i.val : Int), V.int IntKind.u32 (IntKind.u32.wrap (↑i.val : Int)), V.int IntKind.i64 (↑i.val : Int), V.int IntKind.i64 0], [KO.cells [V.arr 256 (tb i.val)]]) ∧
 ∀ (i_1 : { k : Nat // uInv k }),
 (decide ((↑i_1.val : Int) < 8) = true →
 Nx (uLI tb h' i.val) i_1
 ([V.ptr 0 0, V.int IntKind.i64 (↑i.val : Int), V.int IntKind.u32 (IntKind.u32.wrap (↑(BitVec.ofInt 32 ((h' i.val i_1.val).fdiv 2) ^^^ BitVec.ofInt 32 (IntKind.u32.wrap (IntKind.u32.wrap (↑(BitVec.ofInt 32 (h' i.val i_1.val) &&& BitVec.ofInt 32 1).toNat : Int) * 3988292384))).toNat : Int)), V.int IntKind.i64 (↑i.val : Int),
 V.int IntKind.i64 (IntKind.i64.wrap ((↑i_1.val : Int) + 1))],
 [KO.cells [V.arr 256 (tb i.val)]])) ∧
 (decide ((↑i_1.val : Int) < 8) = false → InB (↑i.val : Int) 256 ∧ (↑i.val : Int).toNat * 1 + 1 ≤ 256 ∧ Nx (tLI tb h') i ([V.ptr 0 0, V.int IntKind.i64 (IntKind.i64.wrap ((↑i.val : Int) + 1))], [KO.cells [V.arr 256 (splice (tb i.val) ((↑i.val : Int).toNat * 1) [D.val (Value.int IntKind.u32 (h' i.val i_1.val))])]]))) ∧
 (decide ((↑i.val : Int) < 256) = false → K (V.ptr 0 0) [KO.cells [V.arr 256 (tb i.val)]])
 ) : runSpec Try.prog X0 (sumT tb h' 98) 98 [] [] K := by apply Eq.mp (a := hvc_); kernel_rfl
theorem vcSum (ts : List D) (ls : List (List Int)) (xv : Nat → Nat → Int) (K : V → KB → Prop) (hvc_ :
 At (aLI ts ls xv) ([V.ptr 0 0, V.int IntKind.u32 4294967295, V.dat (D.sl 1 (List.map bsl ls)), V.int IntKind.i64 (↑(List.map bsl ls).length : Int), V.int IntKind.i64 0], [KO.cells [V.arr 256 ts]]) ∧
 ∀ (i : { j : Nat // qInv ls.length j }),
 (decide ((↑i.val : Int) < (↑ls.length : Int)) = true →
 NonN (↑i.val : Int) ∧
 ∃ (e : List D),
 (List.map bsl ls)[(↑i.val : Int).toNat]? = some e ∧
 ∃ (l : List (List D)),
 e[0]? = some (D.sl 1 l) ∧
 At (bLI ts ls xv i.val) ([V.ptr 0 0, V.int IntKind.u32 (xv i.val 0), V.dat (D.sl 1 (List.map bsl ls)), V.int IntKind.i64 (↑ls.length : Int), V.int IntKind.i64 (↑i.val : Int), V.dat (D.sl 1 l), V.int IntKind.i64 (↑l.length : Int), V.int IntKind.i64 0], [KO.cells [V.arr 256 ts]]) ∧
 ∀ (i_1 : { i_1 : Nat // qInv (ls.getD i.val []).length i_1 }),
 (decide ((↑i_1.val : Int) < (↑(ls.getD i.val []).length : Int)) = true →
 NonN (↑i_1.val : Int) ∧
 ∃ (e : List D),
 (ints IntKind.u8 (ls.getD i.val []))[(↑i_1.val : Int).toNat]? = some e ∧
 ∃ (n : Int),
 e[0]? = some (D.val (Value.int IntKind.u8 n)) ∧
 InB (IntKind.u8.wrap (↑(BitVec.ofInt 8 (IntKind.u8.wrap (xv i.val i_1.val)) ^^^ BitVec.ofInt 8 n).toNat : Int)) 256 ∧
 ∃ (n_1 : Int),
 ts[(IntKind.u8.wrap (↑(BitVec.ofInt 8 (IntKind.u8.wrap (xv i.val i_1.val)) ^^^ BitVec.ofInt 8 n).toNat : Int)).toNat * 1]? = some (D.val (Value.int IntKind.u32 n_1)) ∧
 Nx (bLI ts ls xv i.val) i_1
 ([V.ptr 0 0, V.int IntKind.u32 (IntKind.u32.wrap (↑(BitVec.ofInt 32 ((xv i.val i_1.val).fdiv 256) ^^^ BitVec.ofInt 32 n_1).toNat : Int)), V.dat (D.sl 1 (List.map bsl ls)), V.int IntKind.i64 (↑ls.length : Int), V.int IntKind.i64 (↑i.val : Int), V.dat (D.sl 1 (ints IntKind.u8 (ls.getD i.val []))), V.int IntKind.i64 (↑(ls.getD i.val []).length : Int),
 V.int IntKind.i64 (IntKind.i64.wrap ((↑i_1.val : Int) + 1))],
 [KO.cells [V.arr 256 ts]])) ∧
 (decide ((↑i_1.val : Int) < (↑(ls.getD i.val []).length : Int)) = false → Nx (aLI ts ls xv) i ([V.ptr 0 0, V.int IntKind.u32 (xv i.val i_1.val), V.dat (D.sl 1 (List.map bsl ls)), V.int IntKind.i64 (↑ls.length : Int), V.int IntKind.i64 (IntKind.i64.wrap ((↑i.val : Int) + 1))], [KO.cells [V.arr 256 ts]]))) ∧
 (decide ((↑i.val : Int) < (↑ls.length : Int)) = false → K (V.int IntKind.u32 (IntKind.u32.wrap (↑(BitVec.ofInt 32 4294967295 ^^^ BitVec.ofInt 32 (xv i.val 0)).toNat : Int))) [])
 ) : runSpec Try.prog (XC ts) (crcT ts ls xv 91) 91 [.dat (.sl 1 (ls.map bsl))] [] K := by apply Eq.mp (a := hvc_); kernel_rfl
theorem crcTb_set {i : Nat} (h : i < 256) : splice (crcTb i) (i * 1) [crcTab i] = crcTb (i + 1) := by
  unfold splice crcTb
  apply List.ext_getElem?
  intro j
  simp only [Nat.mul_one, List.length_cons, List.length_nil]
  have hl : ((List.range 256).map fun j => if j < i then crcTab j else 0).length = 256 := by simp
  rcases Nat.lt_trichotomy j i with hj | rfl | hj
  · rw [List.append_assoc, List.getElem?_append_left (by rw [List.length_take, hl]; omega), List.getElem?_take_of_lt hj]
    simp only [List.getElem?_map, List.getElem?_range (show j < 256 by omega), Option.map_some, if_pos hj, if_pos (show j < i + 1 by omega)]
  · rw [List.append_assoc, List.getElem?_append_right (by rw [List.length_take, hl]; omega)]
    rw [List.length_take, hl, show j - min j 256 = 0 by omega]
    simp only [List.getElem?_map, List.getElem?_range h, Option.map_some, if_pos (show j < j + 1 by omega)]
    rfl
  · rw [List.append_assoc, List.getElem?_append_right (by rw [List.length_take, hl]; omega)]
    rw [List.length_take, hl, List.getElem?_append_right (by simp; omega), List.getElem?_drop]
    rw [show i + 1 + (j - min i 256 - [crcTab i].length) = j by simp; omega]
    by_cases h2 : j < 256
    · simp only [List.getElem?_map, List.getElem?_range h2, Option.map_some, if_neg (show ¬ j < i by omega), if_neg (show ¬ j < i + 1 by omega)]
    · rw [List.getElem?_eq_none (by rw [hl]; omega), List.getElem?_eq_none (by simp; omega)]
theorem tabD_set {i : Nat} (h : i < 256) : splice (tabD i) (i * 1) [D.val (.int .u32 (tabH i 8))] = tabD (i + 1) := by
  have : splice (dns .u32 (crcTb i)) (i * 1) (dns .u32 [crcTab i]) = dns .u32 (splice (crcTb i) (i * 1) [crcTab i]) := by simp [splice, dns]
  unfold tabD
  rw [← crcTb_set h, ← this]; rfl
theorem okSums : SpecOk Try.prog 98 (Ssums (tabD 256)) := specOk_of' X0_ok mixed (fun args kb K h => by
  unfold Ssums at h; split at h <;> try exact h.elim
  refine ⟨sumT tabD tabH 98, vcSums tabD tabH K ⟨At.mk' ⟨0, Nat.zero_le _⟩ rfl, ?_⟩⟩
  rintro ⟨i, hi⟩
  simp only [tInv] at hi ⊢
  refine ⟨fun hc => ?_, fun hc => ?_⟩
  · simp only [decide_eq_true_eq] at hc
    have hi2 : i < 256 := by omega
    have w1 : IntKind.u32.wrap (i : Int) = tabH i 0 := by
      unfold tabH U cstN
      rw [BitVec.toNat_ofNat, Nat.mod_eq_of_lt (by omega)]
      exact IntWalk.u32_in _ (by omega)
    rw [w1]
    refine ⟨At.mk' ⟨0, Nat.zero_le _⟩ rfl, ?_⟩
    rintro ⟨k, hk⟩
    simp only [uInv] at hk ⊢
    refine ⟨fun hc2 => ?_, fun hc2 => ?_⟩
    · simp only [decide_eq_true_eq] at hc2
      have w2 := w64 (n := (k : Int) + 1) (by omega) (by omega)
      have e : IntKind.u32.wrap (((BitVec.ofInt 32 ((tabH i k).fdiv 2) ^^^ BitVec.ofInt 32 (IntKind.u32.wrap (IntKind.u32.wrap (((BitVec.ofInt 32 (tabH i k) &&& BitVec.ofInt 32 1).toNat : Int)) * 3988292384))).toNat : Int)) = tabH i (k + 1) := by
        unfold tabH
        rw [U_of, show (BitVec.ofInt 32 1) = 1#32 by decide]
        have h1 := U_bit (cstN k (BitVec.ofNat 32 i))
        unfold U at h1
        rw [h1]
        have h2 := U_shr (cstN k (BitVec.ofNat 32 i)) 1
        rw [show ((2 ^ 1 : Nat) : Int) = 2 from rfl] at h2
        rw [h2, U_of]
        have h3 := U_of (if (cstN k (BitVec.ofNat 32 i)).getLsbD 0 then cpoly else 0#32)
        unfold U at h3
        rw [h3]
        exact U_wrap _
      rw [e, w2]
      exact Nx.mk' (⟨k + 1, by show k + 1 ≤ 8; omega⟩ : {x : Nat // uInv x}) rfl (by show 8 - (k + 1) < 8 - k; omega)
    · simp only [decide_eq_false_iff_not] at hc2
      have hk8 : k = 8 := by omega
      subst hk8
      have e2 : ((i : Nat) : Int).toNat = i := by omega
      have w2 := w64 (n := (i : Int) + 1) (by omega) (by omega)
      refine ⟨by unfold InB; omega, by omega, ?_⟩
      rw [e2, w2, tabD_set hi2]
      exact Nx.mk' (⟨i + 1, by show i + 1 ≤ 256; omega⟩ : {x : Nat // tInv x}) rfl (by show 256 - (i + 1) < 256 - i; omega)
  · simp only [decide_eq_false_iff_not] at hc
    have : i = 256 := by omega
    subst this; exact h)
theorem crS_ok : AllOk Try.prog (crS (tabD 256)) := fun f k h => by
  unfold crS at h
  split at h <;> first | (cases h; exact okSums) | cases h
theorem XC_ok : CallOk Try.prog (XC (tabD 256)) := callS_ok mixed crS_ok noT 10
abbrev ini32 : W32 := 4294967295#32
def sumX (ls : List (List Int)) (j i : Nat) : Int := U (crcR (crcR ini32 (ls.take j).flatten) ((ls.getD j []).take i))
def Byts (ls : List (List Int)) : Prop := ls.length ≤ 1000000 ∧ ∀ l ∈ ls, Byt l ∧ Sm l
def Ssum : FSpec := fun args kb K => match args, kb with
  | [.dat (.sl 1 L)], [] => ∃ ls : List (List Int), L = ls.map bsl ∧ Byts ls ∧ K (.int .u32 (crcI ls.flatten)) []
  | _, _ => False
theorem tab_get {i : Nat} (h : i < 256) : (tabD 256)[i]? = some (D.val (.int .u32 (U (cstN 8 (BitVec.ofNat 32 i))))) := by
  unfold tabD crcTb dns
  simp only [List.getElem?_map, List.getElem?_range h, Option.map_some, if_pos h]
  rfl
theorem okSum : SpecOk Try.prog 91 Ssum := specOk_of' XC_ok mixed (fun args kb K h => by
  unfold Ssum at h; split at h <;> try exact h.elim
  obtain ⟨ls, rfl, hb, h⟩ := h
  have hbl := hb.1
  refine ⟨crcT (tabD 256) ls (sumX ls) 91, vcSum (tabD 256) ls (sumX ls) K ⟨?_, ?_⟩⟩
  · simp only [List.length_map]
    exact At.mk' ⟨0, Nat.zero_le _⟩ rfl
  rintro ⟨j, hj⟩
  simp only [qInv] at hj ⊢
  refine ⟨fun hc => ?_, fun hc => ?_⟩
  · simp only [decide_eq_true_eq] at hc
    have e2 : ((j : Nat) : Int).toNat = j := by omega
    have hq : ls[j]? = some ls[j] := List.getElem?_eq_getElem (by omega)
    have hg : ls.getD j [] = ls[j] := by rw [List.getD_eq_getElem?_getD, hq]; rfl
    have hnn : NonN (j : Int) := by unfold NonN; omega
    refine ⟨hnn, bsl ls[j], by rw [e2, List.getElem?_map, hq]; rfl, ints .u8 ls[j], rfl, ?_, ?_⟩
    · rw [ints_len, ← hg]
      exact At.mk' (⟨0, Nat.zero_le _⟩ : {i : Nat // qInv (ls.getD j []).length i}) rfl
    rintro ⟨i, hi⟩
    simp only [qInv] at hi ⊢
    refine ⟨fun hc2 => ?_, fun hc2 => ?_⟩
    · simp only [decide_eq_true_eq] at hc2
      have e3 : ((i : Nat) : Int).toNat = i := by omega
      have hil : i < ls[j].length := by rw [← hg]; omega
      have hq2 : (ls.getD j [])[i]? = some ls[j][i] := by rw [hg]; exact List.getElem?_eq_getElem hil
      have hby : 0 ≤ ls[j][i] ∧ ls[j][i] < 256 := (hb.2 ls[j] (List.getElem_mem _)).1 _ (List.getElem_mem _)
      have hnn2 : NonN (i : Int) := by unfold NonN; omega
      have hsm : ls[j].length ≤ 1000000 := (hb.2 ls[j] (List.getElem_mem _)).2
      have w2 := w64 (n := (i : Int) + 1) (by omega) (by omega)
      refine ⟨hnn2, [D.val (.int .u8 ls[j][i])], by rw [e3, ints_get, hq2]; rfl, ls[j][i], rfl, ?_⟩
      unfold sumX
      rw [crc_idx hby]
      have hlt : ((crcR (crcR ini32 (ls.take j).flatten) ((ls.getD j []).take i) ^^^ BitVec.ofInt 32 ls[j][i]) &&& 255#32).toNat < 256 := by rw [low_toNat]; omega
      refine ⟨by unfold InB; omega, _, by rw [Int.toNat_natCast, Nat.mul_one, tab_get hlt], ?_⟩
      rw [BitVec.ofNat_toNat, BitVec.setWidth_eq, crc_new hby, w2]
      refine Nx.mk' (⟨i + 1, by show i + 1 ≤ (ls.getD j []).length; omega⟩ : {i : Nat // qInv (ls.getD j []).length i}) ?_ (by show (ls.getD j []).length - (i + 1) < (ls.getD j []).length - i; omega)
      have ht : (ls.getD j []).take (i + 1) = (ls.getD j []).take i ++ [ls[j][i]] := by rw [List.take_add_one, hq2]; rfl
      show _ = (([.ptr 0 0, .int .u32 (U (crcR (crcR ini32 (ls.take j).flatten) ((ls.getD j []).take (i + 1)))), _, _, _, _, _, _], _) : List V × KB)
      rw [ht, crcR_snoc]
      rfl
    · simp only [decide_eq_false_iff_not] at hc2
      have hil : i = (ls.getD j []).length := by omega
      subst hil
      have w2 := w64 (n := (j : Int) + 1) (by omega) (by omega)
      rw [w2]
      refine Nx.mk' (⟨j + 1, by show j + 1 ≤ ls.length; omega⟩ : {j : Nat // qInv ls.length j}) ?_ (by show ls.length - (j + 1) < ls.length - j; omega)
      have ht : (ls.take (j + 1)).flatten = (ls.take j).flatten ++ ls.getD j [] := by rw [List.take_add_one, hq, hg, List.flatten_append]; simp
      have e : sumX ls j (ls.getD j []).length = sumX ls (j + 1) 0 := by
        unfold sumX
        rw [List.take_length, ht, crcR_app]; rfl
      rw [e]; rfl
  · simp only [decide_eq_false_iff_not] at hc
    have : j = ls.length := by omega
    subst this
    have e : sumX ls ls.length 0 = U (crcR ini32 ls.flatten) := by
      unfold sumX; rw [List.take_length, List.take_zero]; rfl
    rw [e, U_not]
    exact h)
def rX (l : List Int) (i : Nat) : Int := U (crcR ini32 (l.take i))
def rY (l : List Int) (i k : Nat) : Int := U (cstN k (crcR ini32 (l.take i) ^^^ BitVec.ofInt 32 (l.getD i 0)))
def SrSum : FSpec := fun args kb K => match args, kb with
  | [.dat (.sl 1 L)], [] => ∃ l : List Int, L = ints .u8 l ∧ Byt l ∧ Sm l ∧ K (.int .u32 (crcI l)) []
  | _, _ => False
end Go.Proofs.Ytkodjbegpheomaa
