import Derived.Test.YtlffefjepohoiaaCrcB
import Derived.Test.YtlffefjepohoiaaVdU
import Derived.KernelRfl
namespace Go.Proofs.Ytlffefjepohoiaa
open Vc Go
set_option linter.unusedVariables false
set_option linter.unusedSimpArgs false
set_option maxRecDepth 100000
noncomputable def XA : CallT := callS Try.prog codeS noT 10
def Sawake : FSpec := fun args kb K => match args, kb with | [], [] => K (.sb true) [] | _, _ => False
def lawS : FuncId → Option Known
  | 7 => some ⟨[], Sawake⟩
  | f => codeS f
def turnInv (l : List Int) (k : Int) (x : Nat × Int × List Int) : Prop := x.1 ≤ 4 ∧ 0 ≤ k ∧ k < 1004 ∧ Byt x.2.2 ∧ Near k.toNat x.2.2 (sealI l)
abbrev turnLI (l : List Int) (k : Int) : LI where
  α := {x : Nat × Int × List Int // turnInv l k x}
  live := [0, 2, 7, 8, 9]
  st x := ([.dat (.sl 1 (ints .u8 l)), .int .u32 x.1.2.1, .sl 0 0 (l.length + 4), .int .i64 k, .int .i64 (x.1.1 : Int)], [.row 5 1 (ints .u8 x.1.2.2)])
  μ x := 4 - x.1.1
def lawT (l : List Int) (k : Int) : FuncId → Nat → Option LI
  | 6, 6 => some (turnLI l k)
  | _, _ => none
noncomputable def XL (l : List Int) (k : Int) : CallT := callS Try.prog lawS (lawT l k) 10
theorem vcAwake  (K : V → KB → Prop) (h :
 0 < 5 ∧
 5 ≤ 5 ∧
 0 < 4 ∧
 4 ≤ 4 ∧
 (2 ≤ 2 ∧ True) ∧
 ∃ ls,
 [[D.sl 1 [[D.val (Value.int IntKind.u8 49)], [D.val (Value.int IntKind.u8 50)], [D.val (Value.int IntKind.u8 51)], [D.val (Value.int IntKind.u8 52)], [D.val (Value.int IntKind.u8 53)]]], [D.sl 1 [[D.val (Value.int IntKind.u8 54)], [D.val (Value.int IntKind.u8 55)], [D.val (Value.int IntKind.u8 56)], [D.val (Value.int IntKind.u8 57)]]]] = List.map bsl ls ∧
 (ls.length ≤ 1000000 ∧ ∀ (l : List Int), List.Mem l ls → (∀ (c : Int), List.Mem c l → 0 ≤ c ∧ c < 256) ∧ l.length.le 1000000) ∧ True ∧ ((crcI ls.flatten == 3421780262) = true → ∃ l, [] = ints IntKind.u8 l ∧ (∀ (c : Int), List.Mem c l → 0 ≤ c ∧ c < 256) ∧ l.length ≤ 900000 ∧ K (V.sb ((↑(l.length + 4 - 0) : Int) == 4)) []) ∧ ((crcI ls.flatten == 3421780262) = false → K (V.sb false) [])
 ) : runSpec Try.prog XA (noT 7) 7 [] [] K := Eq.mp (by kernel_rfl) h
theorem vcTells (l : List Int) (cut : Int)  (h :
 (decide ((↑(ints IntKind.u8 l).length : Int) > 1000) = true → true = true) ∧
 (decide ((↑(ints IntKind.u8 l).length : Int) > 1000) = false →
 (-9223372036854775808 ≤ IntKind.i64.wrap ((↑(ints IntKind.u8 l).length : Int) + 1) ∧ IntKind.i64.wrap ((↑(ints IntKind.u8 l).length : Int) + 1) ≤ 9223372036854775807) ∧
 True ∧
 NonN (pickI cut (IntKind.i64.wrap ((↑(ints IntKind.u8 l).length : Int) + 1))) ∧
 0 ≤ (pickI cut (IntKind.i64.wrap ((↑(ints IntKind.u8 l).length : Int) + 1))).toNat ∧
 (pickI cut (IntKind.i64.wrap ((↑(ints IntKind.u8 l).length : Int) + 1))).toNat ≤ (ints IntKind.u8 l).length ∧
 NonN (pickI cut (IntKind.i64.wrap ((↑(ints IntKind.u8 l).length : Int) + 1))) ∧
 True ∧
 (pickI cut (IntKind.i64.wrap ((↑(ints IntKind.u8 l).length : Int) + 1))).toNat ≤ (ints IntKind.u8 l).length ∧
 (ints IntKind.u8 l).length ≤ (ints IntKind.u8 l).length ∧
 (2 ≤ 2 ∧ True) ∧
 ∃ ls,
 [[D.sl 1 (List.drop 0 (List.take (pickI cut (IntKind.i64.wrap ((↑(ints IntKind.u8 l).length : Int) + 1))).toNat (ints IntKind.u8 l)))], [D.sl 1 (List.drop (pickI cut (IntKind.i64.wrap ((↑(ints IntKind.u8 l).length : Int) + 1))).toNat (List.take (ints IntKind.u8 l).length (ints IntKind.u8 l)))]] = List.map bsl ls ∧
 (ls.length ≤ 1000000 ∧ ∀ (l : List Int), List.Mem l ls → (∀ (c : Int), List.Mem c l → 0 ≤ c ∧ c < 256) ∧ l.length.le 1000000) ∧
 True ∧
 ∃ l_1,
 ints IntKind.u8 l = ints IntKind.u8 l_1 ∧
 (∀ (c : Int), List.Mem c l_1 → 0 ≤ c ∧ c < 256) ∧
 l_1.length.le 1000000 ∧
 ((crcI ls.flatten == crcI l_1) = true →
 ∃ l_2,
 ints IntKind.u8 l = ints IntKind.u8 l_2 ∧
 (∀ (c : Int), List.Mem c l_2 → 0 ≤ c ∧ c < 256) ∧
 l_2.length ≤ 900000 ∧
 ∃ l_3,
 ints IntKind.u8 l = ints IntKind.u8 l_3 ∧
 (∀ (c : Int), List.Mem c l_3 → 0 ≤ c ∧ c < 256) ∧
 l_3.length ≤ 900000 ∧
 (l_2.length + 4 ≤ (ints IntKind.u8 (sealI l_2)).length ∧ l_3.length + 4 ≤ (ints IntKind.u8 (sealI l_3)).length ∧ True) ∧
 ∃ a b, List.drop 0 (List.take (l_2.length + 4) (ints IntKind.u8 (sealI l_2))) = ints IntKind.u8 a ∧ List.drop 0 (List.take (l_3.length + 4) (ints IntKind.u8 (sealI l_3))) = ints IntKind.u8 b ∧ a.length.le 1000000 ∧ True ∧ (decide (a = b) = true → true = true) ∧ (decide (a = b) = false → False)) ∧
 ((crcI ls.flatten == crcI l_1) = false → False))
 ) : XL l 0 3 [.dat (.sl 1 (ints .u8 l)), .int .i64 cut] [] KT := Eq.mp (by kernel_rfl) h
theorem vcOther (l : List Int) (at' t : Int)  (h :
 (decide ((↑(ints IntKind.u8 l).length : Int) < 1) = true → true = true) ∧
 (decide ((↑(ints IntKind.u8 l).length : Int) < 1) = false →
 (decide ((↑(ints IntKind.u8 l).length : Int) > 1000) = true → true = true) ∧
 (decide ((↑(ints IntKind.u8 l).length : Int) > 1000) = false →
 ((t == 0) = true → true = true) ∧
 ((t == 0) = false →
 (-9223372036854775808 ≤ (↑(ints IntKind.u8 l).length : Int) ∧ (↑(ints IntKind.u8 l).length : Int) ≤ 9223372036854775807) ∧
 True ∧
 0 ≤ 0 ∧
 (0 + (ints IntKind.u8 l).length) * 1 ≤ 140737488355328 ∧
 InB (pickI at' (↑(ints IntKind.u8 l).length : Int)) (0 + (ints IntKind.u8 l).length - 0) ∧
 ∃ e,
 ([] ++ ints IntKind.u8 l)[0 + (pickI at' (↑(ints IntKind.u8 l).length : Int)).toNat]? = some e ∧
 ∃ n,
 e[0]? = some (D.val (Value.int IntKind.u8 n)) ∧
 InB (pickI at' (↑(ints IntKind.u8 l).length : Int)) (0 + (ints IntKind.u8 l).length - 0) ∧
 0 + (pickI at' (↑(ints IntKind.u8 l).length : Int)).toNat < ([] ++ ints IntKind.u8 l).length ∧
 0 + (ints IntKind.u8 l).length ≤ (([] ++ ints IntKind.u8 l).set (0 + (pickI at' (↑(ints IntKind.u8 l).length : Int)).toNat) [D.val (Value.int IntKind.u8 (IntKind.u8.wrap (↑(BitVec.ofInt 8 n ^^^ BitVec.ofInt 8 t).toNat : Int)))]).length ∧
 (1 ≤ 1 ∧ True) ∧
 ∃ ls,
 [[D.sl 1 (List.drop 0 (List.take (0 + (ints IntKind.u8 l).length) (([] ++ ints IntKind.u8 l).set (0 + (pickI at' (↑(ints IntKind.u8 l).length : Int)).toNat) [D.val (Value.int IntKind.u8 (IntKind.u8.wrap (↑(BitVec.ofInt 8 n ^^^ BitVec.ofInt 8 t).toNat : Int)))])))]] = List.map bsl ls ∧
 (ls.length ≤ 1000000 ∧ ∀ (l : List Int), List.Mem l ls → (∀ (c : Int), List.Mem c l → 0 ≤ c ∧ c < 256) ∧ l.length.le 1000000) ∧
 True ∧
 (1 ≤ 1 ∧ True) ∧
 ∃ ls_1,
 [[D.sl 1 (ints IntKind.u8 l)]] = List.map bsl ls_1 ∧
 (ls_1.length ≤ 1000000 ∧ ∀ (l : List Int), List.Mem l ls_1 → (∀ (c : Int), List.Mem c l → 0 ≤ c ∧ c < 256) ∧ l.length.le 1000000) ∧
 True ∧
 ((crcI ls.flatten != crcI ls_1.flatten) = true →
 (2 ≤ 2 ∧ True) ∧
 ∃ ls,
 [[D.sl 1 (ints IntKind.u8 l)], [D.sl 1 []]] = List.map bsl ls ∧
 (ls.length ≤ 1000000 ∧ ∀ (l : List Int), List.Mem l ls → (∀ (c : Int), List.Mem c l → 0 ≤ c ∧ c < 256) ∧ l.length.le 1000000) ∧
 True ∧
 (2 ≤ 2 ∧ True) ∧
 ∃ ls_2,
 [[D.sl 1 []], [D.sl 1 (ints IntKind.u8 l)]] = List.map bsl ls_2 ∧
 (ls_2.length ≤ 1000000 ∧ ∀ (l : List Int), List.Mem l ls_2 → (∀ (c : Int), List.Mem c l → 0 ≤ c ∧ c < 256) ∧ l.length.le 1000000) ∧ True ∧ ((crcI ls.flatten == crcI ls_2.flatten) = true → true = true) ∧ ((crcI ls.flatten == crcI ls_2.flatten) = false → False)) ∧
 ((crcI ls.flatten != crcI ls_1.flatten) = false → False))))
 ) : XL l 0 4 [.dat (.sl 1 (ints .u8 l)), .int .i64 at', .int .u8 t] [] KT := Eq.mp (by kernel_rfl) h
theorem vcOpens (l : List Int)  (h :
 (decide ((↑(ints IntKind.u8 l).length : Int) > 1000) = true → true = true) ∧
 (decide ((↑(ints IntKind.u8 l).length : Int) > 1000) = false →
 ∃ l_1,
 ints IntKind.u8 l = ints IntKind.u8 l_1 ∧
 (∀ (c : Int), List.Mem c l_1 → 0 ≤ c ∧ c < 256) ∧
 l_1.length ≤ 900000 ∧
 (openI l_1 = none →
 ∃ l_2,
 ints IntKind.u8 l = ints IntKind.u8 l_2 ∧
 (∀ (c : Int), List.Mem c l_2 → 0 ≤ c ∧ c < 256) ∧
 l_2.length ≤ 900000 ∧
 (openI l_2 = none →
 ∃ l_3,
 ints IntKind.u8 l = ints IntKind.u8 l_3 ∧
 (∀ (c : Int), List.Mem c l_3 → 0 ≤ c ∧ c < 256) ∧
 l_3.length ≤ 900000 ∧
 (l_3.length + 4 ≤ (ints IntKind.u8 (sealI l_3)).length ∧ True) ∧
 ∃ l_4,
 List.drop 0 (List.take (l_3.length + 4) (ints IntKind.u8 (sealI l_3))) = ints IntKind.u8 l_4 ∧
 (∀ (c : Int), List.Mem c l_4 → 0 ≤ c ∧ c < 256) ∧
 l_4.length ≤ 900000 ∧
 (openI l_4 = none →
 True ∧
 (true = true →
 ∃ a b,
 [] = ints IntKind.u8 a ∧
 [] = ints IntKind.u8 b ∧ a.length.le 1000000 ∧ (decide (a = b) = true → (false = true → ∃ a b, [] = ints IntKind.u8 a ∧ ints IntKind.u8 l = ints IntKind.u8 b ∧ a.length.le 1000000 ∧ (decide (a = b) = true → true = true) ∧ (decide (a = b) = false → False)) ∧ (false = false → False)) ∧ (decide (a = b) = false → False)) ∧
 (true = false → False)) ∧
 ∀ (m : List Int),
 openI l_4 = some m →
 (m = [] →
 True ∧
 (true = true →
 ∃ a b,
 [] = ints IntKind.u8 a ∧
 [] = ints IntKind.u8 b ∧ a.length.le 1000000 ∧ (decide (a = b) = true → (true = true → ∃ a b, [] = ints IntKind.u8 a ∧ ints IntKind.u8 l = ints IntKind.u8 b ∧ a.length.le 1000000 ∧ (decide (a = b) = true → true = true) ∧ (decide (a = b) = false → False)) ∧ (true = false → False)) ∧ (decide (a = b) = false → False)) ∧
 (true = false → False)) ∧
 PlainS (ints IntKind.u8 m).flatten ∧
 (true = true →
 ∃ a b,
 [] = ints IntKind.u8 a ∧
 [] = ints IntKind.u8 b ∧
 a.length.le 1000000 ∧
 (decide (a = b) = true →
 (true = true → (m.length ≤ (ints IntKind.u8 m).length ∧ True ∧ True) ∧ ∃ a b, List.drop 0 (List.take m.length (ints IntKind.u8 m)) = ints IntKind.u8 a ∧ ints IntKind.u8 l = ints IntKind.u8 b ∧ a.length.le 1000000 ∧ True ∧ (decide (a = b) = true → true = true) ∧ (decide (a = b) = false → False)) ∧ (true = false → False)) ∧
 (decide (a = b) = false → False)) ∧
 (true = false → False)) ∧
 ∀ (m : List Int),
 openI l_2 = some m →
 ∃ l_3,
 ints IntKind.u8 l = ints IntKind.u8 l_3 ∧
 (∀ (c : Int), List.Mem c l_3 → 0 ≤ c ∧ c < 256) ∧
 l_3.length ≤ 900000 ∧
 (l_3.length + 4 ≤ (ints IntKind.u8 (sealI l_3)).length ∧ True) ∧
 ∃ l_4,
 List.drop 0 (List.take (l_3.length + 4) (ints IntKind.u8 (sealI l_3))) = ints IntKind.u8 l_4 ∧
 (∀ (c : Int), List.Mem c l_4 → 0 ≤ c ∧ c < 256) ∧
 l_4.length ≤ 900000 ∧
 (openI l_4 = none →
 True ∧
 (false = true →
 ∃ a b,
 [] = ints IntKind.u8 a ∧
 ints IntKind.u8 m = ints IntKind.u8 b ∧ a.length.le 1000000 ∧ (decide (a = b) = true → (false = true → ∃ a b, [] = ints IntKind.u8 a ∧ ints IntKind.u8 l = ints IntKind.u8 b ∧ a.length.le 1000000 ∧ (decide (a = b) = true → true = true) ∧ (decide (a = b) = false → False)) ∧ (false = false → False)) ∧ (decide (a = b) = false → False)) ∧
 (false = false → False)) ∧
 ∀ (m_1 : List Int),
 openI l_4 = some m_1 →
 (m_1 = [] →
 True ∧
 (false = true →
 ∃ a b,
 [] = ints IntKind.u8 a ∧
 ints IntKind.u8 m = ints IntKind.u8 b ∧
 a.length.le 1000000 ∧ (decide (a = b) = true → (true = true → ∃ a b, [] = ints IntKind.u8 a ∧ ints IntKind.u8 l = ints IntKind.u8 b ∧ a.length.le 1000000 ∧ (decide (a = b) = true → true = true) ∧ (decide (a = b) = false → False)) ∧ (true = false → False)) ∧ (decide (a = b) = false → False)) ∧
 (false = false → False)) ∧
 PlainS (ints IntKind.u8 m_1).flatten ∧
 (false = true →
 ∃ a b,
 [] = ints IntKind.u8 a ∧
 ints IntKind.u8 m = ints IntKind.u8 b ∧
 a.length.le 1000000 ∧
 (decide (a = b) = true →
 (true = true → (m_1.length ≤ (ints IntKind.u8 m_1).length ∧ True ∧ True) ∧ ∃ a b, List.drop 0 (List.take m_1.length (ints IntKind.u8 m_1)) = ints IntKind.u8 a ∧ ints IntKind.u8 l = ints IntKind.u8 b ∧ a.length.le 1000000 ∧ True ∧ (decide (a = b) = true → true = true) ∧ (decide (a = b) = false → False)) ∧
 (true = false → False)) ∧
 (decide (a = b) = false → False)) ∧
 (false = false → False)) ∧
 ∀ (m : List Int),
 openI l_1 = some m →
 (m = [] →
 ∃ l_2,
 ints IntKind.u8 l = ints IntKind.u8 l_2 ∧
 (∀ (c : Int), List.Mem c l_2 → 0 ≤ c ∧ c < 256) ∧
 l_2.length ≤ 900000 ∧
 (openI l_2 = none →
 ∃ l_3,
 ints IntKind.u8 l = ints IntKind.u8 l_3 ∧
 (∀ (c : Int), List.Mem c l_3 → 0 ≤ c ∧ c < 256) ∧
 l_3.length ≤ 900000 ∧
 (l_3.length + 4 ≤ (ints IntKind.u8 (sealI l_3)).length ∧ True) ∧
 ∃ l_4,
 List.drop 0 (List.take (l_3.length + 4) (ints IntKind.u8 (sealI l_3))) = ints IntKind.u8 l_4 ∧
 (∀ (c : Int), List.Mem c l_4 → 0 ≤ c ∧ c < 256) ∧
 l_4.length ≤ 900000 ∧
 (openI l_4 = none →
 True ∧
 (false = true →
 ∃ a b,
 [] = ints IntKind.u8 a ∧
 [] = ints IntKind.u8 b ∧ a.length.le 1000000 ∧ (decide (a = b) = true → (false = true → ∃ a b, [] = ints IntKind.u8 a ∧ ints IntKind.u8 l = ints IntKind.u8 b ∧ a.length.le 1000000 ∧ (decide (a = b) = true → true = true) ∧ (decide (a = b) = false → False)) ∧ (false = false → False)) ∧ (decide (a = b) = false → False)) ∧
 (false = false → False)) ∧
 ∀ (m : List Int),
 openI l_4 = some m →
 (m = [] →
 True ∧
 (false = true →
 ∃ a b,
 [] = ints IntKind.u8 a ∧
 [] = ints IntKind.u8 b ∧ a.length.le 1000000 ∧ (decide (a = b) = true → (true = true → ∃ a b, [] = ints IntKind.u8 a ∧ ints IntKind.u8 l = ints IntKind.u8 b ∧ a.length.le 1000000 ∧ (decide (a = b) = true → true = true) ∧ (decide (a = b) = false → False)) ∧ (true = false → False)) ∧ (decide (a = b) = false → False)) ∧
 (false = false → False)) ∧
 PlainS (ints IntKind.u8 m).flatten ∧
 (false = true →
 ∃ a b,
 [] = ints IntKind.u8 a ∧
 [] = ints IntKind.u8 b ∧
 a.length.le 1000000 ∧
 (decide (a = b) = true →
 (true = true → (m.length ≤ (ints IntKind.u8 m).length ∧ True ∧ True) ∧ ∃ a b, List.drop 0 (List.take m.length (ints IntKind.u8 m)) = ints IntKind.u8 a ∧ ints IntKind.u8 l = ints IntKind.u8 b ∧ a.length.le 1000000 ∧ True ∧ (decide (a = b) = true → true = true) ∧ (decide (a = b) = false → False)) ∧
 (true = false → False)) ∧
 (decide (a = b) = false → False)) ∧
 (false = false → False)) ∧
 ∀ (m : List Int),
 openI l_2 = some m →
 ∃ l_3,
 ints IntKind.u8 l = ints IntKind.u8 l_3 ∧
 (∀ (c : Int), List.Mem c l_3 → 0 ≤ c ∧ c < 256) ∧
 l_3.length ≤ 900000 ∧
 (l_3.length + 4 ≤ (ints IntKind.u8 (sealI l_3)).length ∧ True) ∧
 ∃ l_4,
 List.drop 0 (List.take (l_3.length + 4) (ints IntKind.u8 (sealI l_3))) = ints IntKind.u8 l_4 ∧
 (∀ (c : Int), List.Mem c l_4 → 0 ≤ c ∧ c < 256) ∧
 l_4.length ≤ 900000 ∧
 (openI l_4 = none →
 True ∧
 (true = true →
 ∃ a b,
 [] = ints IntKind.u8 a ∧
 ints IntKind.u8 m = ints IntKind.u8 b ∧
 a.length.le 1000000 ∧ (decide (a = b) = true → (false = true → ∃ a b, [] = ints IntKind.u8 a ∧ ints IntKind.u8 l = ints IntKind.u8 b ∧ a.length.le 1000000 ∧ (decide (a = b) = true → true = true) ∧ (decide (a = b) = false → False)) ∧ (false = false → False)) ∧ (decide (a = b) = false → False)) ∧
 (true = false → False)) ∧
 ∀ (m_1 : List Int),
 openI l_4 = some m_1 →
 (m_1 = [] →
 True ∧
 (true = true →
 ∃ a b,
 [] = ints IntKind.u8 a ∧
 ints IntKind.u8 m = ints IntKind.u8 b ∧
 a.length.le 1000000 ∧ (decide (a = b) = true → (true = true → ∃ a b, [] = ints IntKind.u8 a ∧ ints IntKind.u8 l = ints IntKind.u8 b ∧ a.length.le 1000000 ∧ (decide (a = b) = true → true = true) ∧ (decide (a = b) = false → False)) ∧ (true = false → False)) ∧ (decide (a = b) = false → False)) ∧
 (true = false → False)) ∧
 PlainS (ints IntKind.u8 m_1).flatten ∧
 (true = true →
 ∃ a b,
 [] = ints IntKind.u8 a ∧
 ints IntKind.u8 m = ints IntKind.u8 b ∧
 a.length.le 1000000 ∧
 (decide (a = b) = true →
 (true = true → (m_1.length ≤ (ints IntKind.u8 m_1).length ∧ True ∧ True) ∧ ∃ a b, List.drop 0 (List.take m_1.length (ints IntKind.u8 m_1)) = ints IntKind.u8 a ∧ ints IntKind.u8 l = ints IntKind.u8 b ∧ a.length.le 1000000 ∧ True ∧ (decide (a = b) = true → true = true) ∧ (decide (a = b) = false → False)) ∧
 (true = false → False)) ∧
 (decide (a = b) = false → False)) ∧
 (true = false → False)) ∧
 ∃ l_2,
 ints IntKind.u8 l = ints IntKind.u8 l_2 ∧
 (∀ (c : Int), List.Mem c l_2 → 0 ≤ c ∧ c < 256) ∧
 l_2.length ≤ 900000 ∧
 (openI l_2 = none →
 ∃ l_3,
 ints IntKind.u8 l = ints IntKind.u8 l_3 ∧
 (∀ (c : Int), List.Mem c l_3 → 0 ≤ c ∧ c < 256) ∧
 l_3.length ≤ 900000 ∧
 (l_3.length + 4 ≤ (ints IntKind.u8 (sealI l_3)).length ∧ True) ∧
 ∃ l_4,
 List.drop 0 (List.take (l_3.length + 4) (ints IntKind.u8 (sealI l_3))) = ints IntKind.u8 l_4 ∧
 (∀ (c : Int), List.Mem c l_4 → 0 ≤ c ∧ c < 256) ∧
 l_4.length ≤ 900000 ∧
 (openI l_4 = none →
 True ∧
 (false = true →
 (m.length ≤ (ints IntKind.u8 m).length ∧ True ∧ True) ∧
 ∃ a b,
 List.drop 0 (List.take m.length (ints IntKind.u8 m)) = ints IntKind.u8 a ∧
 [] = ints IntKind.u8 b ∧ a.length.le 1000000 ∧ True ∧ (decide (a = b) = true → (false = true → ∃ a b, [] = ints IntKind.u8 a ∧ ints IntKind.u8 l = ints IntKind.u8 b ∧ a.length.le 1000000 ∧ (decide (a = b) = true → true = true) ∧ (decide (a = b) = false → False)) ∧ (false = false → False)) ∧ (decide (a = b) = false → False)) ∧
 (false = false → False)) ∧
 ∀ (m_1 : List Int),
 openI l_4 = some m_1 →
 (m_1 = [] →
 True ∧
 (false = true →
 (m.length ≤ (ints IntKind.u8 m).length ∧ True ∧ True) ∧
 ∃ a b,
 List.drop 0 (List.take m.length (ints IntKind.u8 m)) = ints IntKind.u8 a ∧
 [] = ints IntKind.u8 b ∧ a.length.le 1000000 ∧ True ∧ (decide (a = b) = true → (true = true → ∃ a b, [] = ints IntKind.u8 a ∧ ints IntKind.u8 l = ints IntKind.u8 b ∧ a.length.le 1000000 ∧ (decide (a = b) = true → true = true) ∧ (decide (a = b) = false → False)) ∧ (true = false → False)) ∧ (decide (a = b) = false → False)) ∧
 (false = false → False)) ∧
 PlainS (ints IntKind.u8 m_1).flatten ∧
 (false = true →
 (m.length ≤ (ints IntKind.u8 m).length ∧ True ∧ True) ∧
 ∃ a b,
 List.drop 0 (List.take m.length (ints IntKind.u8 m)) = ints IntKind.u8 a ∧
 [] = ints IntKind.u8 b ∧
 a.length.le 1000000 ∧
 True ∧
 (decide (a = b) = true →
 (true = true → (m_1.length ≤ (ints IntKind.u8 m_1).length ∧ True ∧ True) ∧ ∃ a b, List.drop 0 (List.take m_1.length (ints IntKind.u8 m_1)) = ints IntKind.u8 a ∧ ints IntKind.u8 l = ints IntKind.u8 b ∧ a.length.le 1000000 ∧ True ∧ (decide (a = b) = true → true = true) ∧ (decide (a = b) = false → False)) ∧
 (true = false → False)) ∧
 (decide (a = b) = false → False)) ∧
 (false = false → False)) ∧
 ∀ (m_1 : List Int),
 openI l_2 = some m_1 →
 ∃ l_3,
 ints IntKind.u8 l = ints IntKind.u8 l_3 ∧
 (∀ (c : Int), List.Mem c l_3 → 0 ≤ c ∧ c < 256) ∧
 l_3.length ≤ 900000 ∧
 (l_3.length + 4 ≤ (ints IntKind.u8 (sealI l_3)).length ∧ True) ∧
 ∃ l_4,
 List.drop 0 (List.take (l_3.length + 4) (ints IntKind.u8 (sealI l_3))) = ints IntKind.u8 l_4 ∧
 (∀ (c : Int), List.Mem c l_4 → 0 ≤ c ∧ c < 256) ∧
 l_4.length ≤ 900000 ∧
 (openI l_4 = none →
 True ∧
 (true = true →
 (m.length ≤ (ints IntKind.u8 m).length ∧ True ∧ True) ∧
 ∃ a b,
 List.drop 0 (List.take m.length (ints IntKind.u8 m)) = ints IntKind.u8 a ∧
 ints IntKind.u8 m_1 = ints IntKind.u8 b ∧
 a.length.le 1000000 ∧ True ∧ (decide (a = b) = true → (false = true → ∃ a b, [] = ints IntKind.u8 a ∧ ints IntKind.u8 l = ints IntKind.u8 b ∧ a.length.le 1000000 ∧ (decide (a = b) = true → true = true) ∧ (decide (a = b) = false → False)) ∧ (false = false → False)) ∧ (decide (a = b) = false → False)) ∧
 (true = false → False)) ∧
 ∀ (m_2 : List Int),
 openI l_4 = some m_2 →
 (m_2 = [] →
 True ∧
 (true = true →
 (m.length ≤ (ints IntKind.u8 m).length ∧ True ∧ True) ∧
 ∃ a b,
 List.drop 0 (List.take m.length (ints IntKind.u8 m)) = ints IntKind.u8 a ∧
 ints IntKind.u8 m_1 = ints IntKind.u8 b ∧
 a.length.le 1000000 ∧ True ∧ (decide (a = b) = true → (true = true → ∃ a b, [] = ints IntKind.u8 a ∧ ints IntKind.u8 l = ints IntKind.u8 b ∧ a.length.le 1000000 ∧ (decide (a = b) = true → true = true) ∧ (decide (a = b) = false → False)) ∧ (true = false → False)) ∧ (decide (a = b) = false → False)) ∧
 (true = false → False)) ∧
 PlainS (ints IntKind.u8 m_2).flatten ∧
 (true = true →
 (m.length ≤ (ints IntKind.u8 m).length ∧ True ∧ True) ∧
 ∃ a b,
 List.drop 0 (List.take m.length (ints IntKind.u8 m)) = ints IntKind.u8 a ∧
 ints IntKind.u8 m_1 = ints IntKind.u8 b ∧
 a.length.le 1000000 ∧
 True ∧
 (decide (a = b) = true →
 (true = true → (m_2.length ≤ (ints IntKind.u8 m_2).length ∧ True ∧ True) ∧ ∃ a b, List.drop 0 (List.take m_2.length (ints IntKind.u8 m_2)) = ints IntKind.u8 a ∧ ints IntKind.u8 l = ints IntKind.u8 b ∧ a.length.le 1000000 ∧ True ∧ (decide (a = b) = true → true = true) ∧ (decide (a = b) = false → False)) ∧
 (true = false → False)) ∧
 (decide (a = b) = false → False)) ∧
 (true = false → False))
 ) : XL l 0 5 [.dat (.sl 1 (ints .u8 l))] [] KT := Eq.mp (by kernel_rfl) h
theorem vcTurned (l : List Int) (at' t k : Int)  (h :
 (decide ((↑(ints IntKind.u8 l).length : Int) > 1000) = true → true = true) ∧
 (decide ((↑(ints IntKind.u8 l).length : Int) > 1000) = false →
 ((t == 0) = true → true = true) ∧
 ((t == 0) = false →
 ∃ l_1,
 ints IntKind.u8 l = ints IntKind.u8 l_1 ∧
 (∀ (c : Int), List.Mem c l_1 → 0 ≤ c ∧ c < 256) ∧
 l_1.length ≤ 900000 ∧
 (-9223372036854775808 ≤ (↑(l_1.length + 4 - 0) : Int) ∧ (↑(l_1.length + 4 - 0) : Int) ≤ 9223372036854775807) ∧
 At (turnLI l k) ([V.dat (D.sl 1 (ints IntKind.u8 l)), V.int IntKind.u32 t, V.sl 0 0 (l_1.length + 4), V.int IntKind.i64 (pickI at' (↑(l_1.length + 4 - 0) : Int)), V.int IntKind.i64 0], [KO.row 5 1 (ints IntKind.u8 (sealI l_1))]) ∧
 ∀ (i : { x // turnInv l k x }),
 (decide ((↑i.val.fst : Int) < 4) = true →
 (decide (IntKind.i64.wrap (k + (↑i.val.fst : Int)) < (↑(l.length + 4 - 0) : Int)) = true →
 InB (IntKind.i64.wrap (k + (↑i.val.fst : Int))) (l.length + 4 - 0) ∧
 ∃ e,
 (ints IntKind.u8 i.val.snd.snd)[0 + (IntKind.i64.wrap (k + (↑i.val.fst : Int))).toNat]? = some e ∧
 ∃ n,
 e[0]? = some (D.val (Value.int IntKind.u8 n)) ∧
 InB (IntKind.i64.wrap (k + (↑i.val.fst : Int))) (l.length + 4 - 0) ∧
 0 + (IntKind.i64.wrap (k + (↑i.val.fst : Int))).toNat < (ints IntKind.u8 i.val.snd.snd).length ∧
 Nx (turnLI l k) i
 ([V.dat (D.sl 1 (ints IntKind.u8 l)), V.int IntKind.u32 (IntKind.u32.wrap (i.val.snd.fst.tdiv 256)), V.sl 0 0 (l.length + 4), V.int IntKind.i64 k, V.int IntKind.i64 (IntKind.i64.wrap ((↑i.val.fst : Int) + 1))],
 [KO.row 5 1 ((ints IntKind.u8 i.val.snd.snd).set (0 + (IntKind.i64.wrap (k + (↑i.val.fst : Int))).toNat) [D.val (Value.int IntKind.u8 (IntKind.u8.wrap (↑(BitVec.ofInt 8 n ^^^ BitVec.ofInt 8 (IntKind.u8.wrap i.val.snd.fst)).toNat : Int)))])])) ∧
 (decide (IntKind.i64.wrap (k + (↑i.val.fst : Int)) < (↑(l.length + 4 - 0) : Int)) = false →
 ∃ l_2,
 ints IntKind.u8 l = ints IntKind.u8 l_2 ∧
 (∀ (c : Int), List.Mem c l_2 → 0 ≤ c ∧ c < 256) ∧
 l_2.length ≤ 900000 ∧
 (l.length + 4 ≤ (ints IntKind.u8 i.val.snd.snd).length ∧ l_2.length + 4 ≤ (ints IntKind.u8 (sealI l_2)).length ∧ True) ∧
 ∃ a b,
 List.drop 0 (List.take (l.length + 4) (ints IntKind.u8 i.val.snd.snd)) = ints IntKind.u8 a ∧
 List.drop 0 (List.take (l_2.length + 4) (ints IntKind.u8 (sealI l_2))) = ints IntKind.u8 b ∧
 a.length.le 1000000 ∧
 True ∧
 (decide (a = b) = true → true = true) ∧
 (decide (a = b) = false →
 (l.length + 4 ≤ (ints IntKind.u8 i.val.snd.snd).length ∧ True) ∧
 ∃ l_3,
 List.drop 0 (List.take (l.length + 4) (ints IntKind.u8 i.val.snd.snd)) = ints IntKind.u8 l_3 ∧
 (∀ (c : Int), List.Mem c l_3 → 0 ≤ c ∧ c < 256) ∧
 l_3.length ≤ 900000 ∧ (openI l_3 = none → True ∧ (true = true → true = true) ∧ (true = false → False)) ∧ ∀ (m : List Int), openI l_3 = some m → (m = [] → True ∧ (false = true → true = true) ∧ (false = false → False)) ∧ PlainS (ints IntKind.u8 m).flatten ∧ (false = true → true = true) ∧ (false = false → False)))) ∧
 (decide ((↑i.val.fst : Int) < 4) = false →
 ∃ l_2,
 ints IntKind.u8 l = ints IntKind.u8 l_2 ∧
 (∀ (c : Int), List.Mem c l_2 → 0 ≤ c ∧ c < 256) ∧
 l_2.length ≤ 900000 ∧
 (l.length + 4 ≤ (ints IntKind.u8 i.val.snd.snd).length ∧ l_2.length + 4 ≤ (ints IntKind.u8 (sealI l_2)).length ∧ True) ∧
 ∃ a b,
 List.drop 0 (List.take (l.length + 4) (ints IntKind.u8 i.val.snd.snd)) = ints IntKind.u8 a ∧
 List.drop 0 (List.take (l_2.length + 4) (ints IntKind.u8 (sealI l_2))) = ints IntKind.u8 b ∧
 a.length.le 1000000 ∧
 True ∧
 (decide (a = b) = true → true = true) ∧
 (decide (a = b) = false →
 (l.length + 4 ≤ (ints IntKind.u8 i.val.snd.snd).length ∧ True) ∧
 ∃ l_3,
 List.drop 0 (List.take (l.length + 4) (ints IntKind.u8 i.val.snd.snd)) = ints IntKind.u8 l_3 ∧
 (∀ (c : Int), List.Mem c l_3 → 0 ≤ c ∧ c < 256) ∧
 l_3.length ≤ 900000 ∧ (openI l_3 = none → True ∧ (true = true → true = true) ∧ (true = false → False)) ∧ ∀ (m : List Int), openI l_3 = some m → (m = [] → True ∧ (false = true → true = true) ∧ (false = false → False)) ∧ PlainS (ints IntKind.u8 m).flatten ∧ (false = true → true = true) ∧ (false = false → False)))))
 ) : XL l k 6 [.dat (.sl 1 (ints .u8 l)), .int .i64 at', .int .u32 t] [] KT := Eq.mp (by kernel_rfl) h
theorem XA_ok : CallOk Try.prog XA := callS_ok mixed codeS_ok noT 10
theorem byt_of {l : List Int} (h : ∀ n ∈ l, (Lit.int .u8 n).wf = true) : Byt l := fun c hc => by
  have := bounds_u8 (h c hc); omega
theorem byts1 {l : List Int} (h : Byt l) (hl : l.length ≤ 1000000) : Byts [l] := ⟨by simp, fun x hx => by
  rw [List.mem_singleton] at hx; subst hx; exact ⟨h, hl⟩⟩
theorem byts2 {l m : List Int} (h : Byt l) (hl : l.length ≤ 1000000) (h' : Byt m) (hm : m.length ≤ 1000000) : Byts [l, m] := ⟨by simp, fun x hx => by
  rcases List.mem_cons.1 hx with rfl | hx
  · exact ⟨h, hl⟩
  · rw [List.mem_singleton] at hx; subst hx; exact ⟨h', hm⟩⟩
theorem crc_check : crcI ([[49, 50, 51, 52, 53], [54, 55, 56, 57]] : List (List Int)).flatten = 3421780262 := by decide +kernel
theorem okAwake : SpecOk Try.prog 7 Sawake := specOk_of' XA_ok mixed (fun args kb K h => by
  unfold Sawake at h; split at h <;> try exact h.elim
  refine ⟨noT 7, vcAwake K ⟨by decide, by decide, by decide, by decide, ⟨by decide, trivial⟩, [[49, 50, 51, 52, 53], [54, 55, 56, 57]], rfl, byts2 (fun c hc => ?_) (by decide) (fun c hc => ?_) (by decide), trivial, fun hx => ⟨[], rfl, (fun c hc => by cases hc), Nat.zero_le _, h⟩, fun hx => ?_⟩⟩
  · simp only [List.mem_cons, List.not_mem_nil, or_false] at hc; omega
  · simp only [List.mem_cons, List.not_mem_nil, or_false] at hc; omega
  · rw [crc_check] at hx; simp at hx)
theorem lawS_ok : AllOk Try.prog lawS := fun f k h => by
  unfold lawS at h
  split at h
  · cases h; exact okAwake
  · exact codeS_ok _ _ h
theorem XL_ok (l : List Int) (k : Int) : CallOk Try.prog (XL l k) := callS_ok mixed lawS_ok (lawT l k) 10
theorem lawTells (l : List Int) (cut : Int) (hw : ∀ n ∈ l, (Lit.int .u8 n).wf = true) : XL l 0 3 [.dat (.sl 1 (ints .u8 l)), .int .i64 cut] [] KT := by
  have hb := byt_of hw
  refine vcTells l cut ⟨fun _ => rfl, fun hc => ?_⟩
  simp only [ints_len, decide_eq_false_iff_not] at hc ⊢
  have w1 := w64 (n := (l.length : Int) + 1) (by omega) (by omega)
  rw [w1]
  obtain ⟨p1, p2⟩ := pickI_range (k := cut) (n := (l.length : Int) + 1) (by omega)
  generalize pickI cut ((l.length : Int) + 1) = q at *
  have hnn : NonN q := by unfold NonN; omega
  refine ⟨by omega, trivial, hnn, Nat.zero_le _, by omega, hnn, trivial, by omega, Nat.le_refl _, ⟨by decide, trivial⟩, [l.take q.toNat, l.drop q.toNat], ?_, byts2 (Byt.take hb _) (by simp; omega) (fun c hc => hb c (List.mem_of_mem_drop hc)) (by simp; omega), trivial, l, rfl, hb, Nat.le_of_lt (by show l.length < 1000000; omega), fun hx => ?_, fun hx => ?_⟩
  · have e : List.take l.length (ints .u8 l) = ints .u8 l := List.take_of_length_le (by rw [ints_len]; omega)
    rw [dt, e, ints_drop]; rfl
  · refine ⟨l, rfl, hb, by omega, l, rfl, hb, by omega, ⟨by rw [sealI_len]; exact Nat.le_refl _, by rw [sealI_len]; exact Nat.le_refl _, trivial⟩, sealI l, sealI l, ?_, ?_, ?_, trivial, fun _ => by simp, fun h => by simp at h⟩
    · rw [dt, ← sealI_len, List.take_length]
    · rw [dt, ← sealI_len, List.take_length]
    · show (sealI l).length ≤ 1000000
      rw [sealI_len]; omega
  · have : ([l.take q.toNat, l.drop q.toNat] : List (List Int)).flatten = l := by simp
    rw [this] at hx; simp at hx
theorem near_one {l : List Int} {k : Nat} (c : Int) : Near k (l.set k c) l := by
  have := Near.set (Near.refl k l) (i := 0) (by omega) c
  exact this
theorem lawOther (l : List Int) (at' t : Int) (hw : ∀ n ∈ l, (Lit.int .u8 n).wf = true) (ht : (Lit.int .u8 t).wf = true) : XL l 0 4 [.dat (.sl 1 (ints .u8 l)), .int .i64 at', .int .u8 t] [] KT := by
  have hb := byt_of hw
  have htb := bounds_u8 ht
  refine vcOther l at' t ⟨fun _ => rfl, fun hc0 => ⟨fun _ => rfl, fun hc1 => ⟨fun _ => rfl, fun hc2 => ?_⟩⟩⟩
  simp only [ints_len, decide_eq_false_iff_not] at hc0 hc1 ⊢
  obtain ⟨p1, p2⟩ := pickI_range (k := at') (n := (l.length : Int)) (by omega)
  generalize pickI at' (l.length : Int) = q at *
  obtain ⟨k, rfl⟩ := Int.eq_ofNat_of_zero_le p1
  have hk : k < l.length := by omega
  have hq : l[k]? = some l[k] := List.getElem?_eq_getElem hk
  have hbk := hb l[k] (List.getElem_mem _)
  simp only [List.nil_append, Nat.zero_add, Int.toNat_natCast, Nat.sub_zero, ints_get, hq, Option.map_some, Option.some.injEq, exists_eq_left', List.getElem?_cons_zero, D.val.injEq, Value.int.injEq, true_and]
  have hin : InB (k : Int) l.length := by unfold InB; omega
  refine ⟨by omega, Nat.le_refl _, by omega, hin, hin, by rw [ints_len]; exact hk, by simp [ints_len], ⟨by decide, trivial⟩, ?_⟩
  have hx := hc2
  generalize hv : IntKind.u8.wrap (((BitVec.ofInt 8 l[k] ^^^ BitVec.ofInt 8 t).toNat : Nat) : Int) = v
  have hv1 : v = (((BitVec.ofInt 8 l[k] ^^^ BitVec.ofInt 8 t).toNat : Nat) : Int) := by
    rw [← hv]
    have := (BitVec.ofInt 8 l[k] ^^^ BitVec.ofInt 8 t).isLt
    exact IntWalk.u8_in _ (by omega)
  have hvb : 0 ≤ v ∧ v < 256 := by
    have := (BitVec.ofInt 8 l[k] ^^^ BitVec.ofInt 8 t).isLt
    omega
  have hne : v ≠ l[k] := by
    intro e
    have e1 : BitVec.ofInt 8 l[k] = BitVec.ofInt 8 l[k] ^^^ BitVec.ofInt 8 t := by
      apply BitVec.eq_of_toNat_eq
      rw [BitVec.toNat_ofInt]; omega
    have e2 : BitVec.ofInt 8 t = 0#8 := by
      have := congrArg (fun y => BitVec.ofInt 8 l[k] ^^^ y) e1
      simpa [← BitVec.xor_assoc] using this.symm
    have e3 := congrArg BitVec.toNat e2
    rw [BitVec.toNat_ofInt] at e3
    simp only [beq_eq_false_iff_ne, ne_eq] at hc2
    simp at e3; omega
  have hset : (ints .u8 l).set k [D.val (.int .u8 v)] = ints .u8 (l.set k v) := ints_set
  have hbs : Byt (l.set k v) := Byt.set hb hvb
  have hne2 : l.set k v ≠ l := fun e => hne (by have := congrArg (fun y => y[k]?) e; simpa [hk, hq] using this)
  have hcr : crcI (l.set k v) ≠ crcI l := fun e => by
    have e1 := U_inj e
    have e2 : crcR 4294967295#32 (l.set k v) = crcR 4294967295#32 l := by
      have := congrArg (fun y : W32 => ~~~ y) e1
      simpa using this
    exact hne2 (crc_near hbs hb (near_one v) e2)
  rw [hset]
  refine ⟨[l.set k v], ?_, byts1 hbs (by simp; omega), ⟨by decide, trivial⟩, [l], rfl, byts1 hb (by omega), fun _ => ?_, fun h => ?_⟩
  · have : List.take l.length (ints .u8 (l.set k v)) = ints .u8 (l.set k v) := List.take_of_length_le (by rw [ints_len]; simp)
    rw [this, List.drop_zero]; rfl
  · refine ⟨⟨by decide, trivial⟩, [l, []], rfl, byts2 hb (by omega) (fun c hc => absurd hc List.not_mem_nil) (by decide), ⟨by decide, trivial⟩, [[], l], rfl, byts2 (fun c hc => absurd hc List.not_mem_nil) (by decide) hb (by omega), fun _ => by simp, fun h => by simp at h⟩
  · simp at h; exact hcr h
theorem lawTurned (l : List Int) (at' t : Int) (hw : ∀ n ∈ l, (Lit.int .u8 n).wf = true) : XL l (pickI at' ((l.length + 4 : Nat) : Int)) 6 [.dat (.sl 1 (ints .u8 l)), .int .i64 at', .int .u32 t] [] KT := by
  have hb := byt_of hw
  refine vcTurned l at' t (pickI at' ((l.length + 4 : Nat) : Int)) ⟨fun _ => rfl, fun hc1 => ⟨fun _ => rfl, fun hc2 => ?_⟩⟩
  simp only [ints_len, decide_eq_false_iff_not, Nat.sub_zero] at hc1 ⊢
  obtain ⟨p1, p2⟩ := pickI_range (k := at') (n := ((l.length + 4 : Nat) : Int)) (by omega)
  refine ⟨l, rfl, hb, by omega, by omega, At.mk' ⟨(0, t, sealI l), Nat.zero_le _, p1, by omega, sealI_byt hb, Near.refl _ _⟩ rfl, ?_⟩
  generalize pickI at' ((l.length + 4 : Nat) : Int) = q at *
  rintro ⟨⟨i, tv, s⟩, hi, hq0, hq1, hs, hn⟩
  simp only at hi hs hn ⊢
  have hsl : s.length = l.length + 4 := by rw [hn.1, sealI_len]
  have w1 := w64 (n := q + (i : Int)) (by omega) (by omega)
  rw [w1]
  refine ⟨fun hc => ⟨fun hc3 => ?_, fun hc3 => ?_⟩, fun hc => ?_⟩
  · simp only [decide_eq_true_eq] at hc hc3
    have e : (q + (i : Int)).toNat = q.toNat + i := by omega
    have hlt : q.toNat + i < s.length := by omega
    have hq : s[q.toNat + i]? = some s[q.toNat + i] := List.getElem?_eq_getElem hlt
    have hin : InB (q + (i : Int)) (l.length + 4) := by unfold InB; omega
    have w2 := w64 (n := (i : Int) + 1) (by omega) (by omega)
    refine ⟨hin, [D.val (.int .u8 s[q.toNat + i])], by rw [e, Nat.zero_add, ints_get, hq]; rfl, s[q.toNat + i], rfl, hin, by omega, ?_⟩
    rw [e, Nat.zero_add, ints_set, w2]
    generalize hv : IntKind.u8.wrap (((BitVec.ofInt 8 s[q.toNat + i] ^^^ BitVec.ofInt 8 (IntKind.u8.wrap tv)).toNat : Nat) : Int) = v
    have hvb : 0 ≤ v ∧ v < 256 := by rw [← hv, IntKind.wrap_u8]; omega
    exact Nx.mk' (⟨(i + 1, IntKind.u32.wrap (tv.tdiv 256), s.set (q.toNat + i) v), by show i + 1 ≤ 4; omega, hq0, hq1, hs.set hvb, hn.set (by omega) v⟩ : {x : Nat × Int × List Int // turnInv l q x}) rfl (by show 4 - (i + 1) < 4 - i; omega)
  all_goals
    refine ⟨l, rfl, hb, by omega, ⟨by omega, by rw [sealI_len]; exact Nat.le_refl _, trivial⟩, s, sealI l, ?_, ?_, ?_, trivial, fun _ => by simp, fun hx => ?_⟩
    · rw [dt, ← hsl, List.take_length]
    · rw [dt, ← sealI_len, List.take_length]
    · show s.length ≤ 1000000
      omega
    · have hx : s ≠ sealI l := by simpa using hx
      have ho := open_near hb hs hn hx
      refine ⟨⟨by omega, trivial⟩, s, ?_, hs, by omega, fun _ => by simp, fun m hm => ?_⟩
      · rw [dt, ← hsl, List.take_length]
      · rw [ho] at hm; cases hm
theorem ints_iff {k : IntKind} {a b : List Int} : ints k a = ints k b ↔ a = b := ⟨ints_inj, fun e => by rw [e]⟩
theorem nil_ints {k : IntKind} {a : List Int} : [] = ints k a ↔ a = [] := ⟨fun h => (ints_inj (m := []) h.symm), fun e => by rw [e]; rfl⟩
theorem dseal {l : List Int} : List.drop 0 (List.take (l.length + 4) (ints .u8 (sealI l))) = ints .u8 (sealI l) := by rw [dt, ← sealI_len, List.take_length]
theorem dall {l : List Int} : List.drop 0 (List.take l.length (ints .u8 l)) = ints .u8 l := by rw [dt, List.take_length]
theorem openI_len {l m : List Int} (h : openI l = some m) : m.length ≤ l.length := by
  rw [openI_some h, sealI_len]; omega
theorem lawOpens (l : List Int) (hw : ∀ n ∈ l, (Lit.int .u8 n).wf = true) : XL l 0 5 [.dat (.sl 1 (ints .u8 l))] [] KT := by
  have hb : ∀ c, List.Mem c l → 0 ≤ c ∧ c < 256 := byt_of hw
  have hb2 : ∀ c, List.Mem c (sealI l) → 0 ≤ c ∧ c < 256 := sealI_byt (byt_of hw)
  refine vcOpens l ⟨fun _ => rfl, fun hc => ?_⟩
  simp only [ints_len, decide_eq_false_iff_not] at hc
  have h9 : l.length ≤ 900000 := by omega
  have h10 : l.length.le 1000000 := by show l.length ≤ 1000000; omega
  have h11 : (sealI l).length ≤ 900000 := by rw [sealI_len]; omega
  have hp : ∀ m : List Int, PlainS (ints .u8 m).flatten := fun m => ⟨plain_ints⟩
  have hz : (0 : Nat).le 1000000 := Nat.zero_le _
  cases ho : openI l with
  | none =>
    simp only [ints_iff, nil_ints, dseal, dall, exists_eq_left', exists_eq_left, ho, hb, h9, h10, h11, hb2, openI_seal, ints_len, sealI_len, Nat.le_refl, hp, List.length_nil, hz, decide_true, true_and, true_implies, and_true, reduceCtorEq, false_implies, implies_true, forall_const, Option.some.injEq, forall_eq', Bool.true_eq_false, Bool.false_eq_true]
    simp
    exact ⟨hb, hb2, by omega, by omega⟩
  | some m =>
    have hm := openI_len ho
    have h12 : m.length.le 1000000 := by show m.length ≤ 1000000; omega
    simp only [ints_iff, nil_ints, dseal, dall, exists_eq_left', exists_eq_left, ho, hb, h9, h10, h11, hb2, h12, openI_seal, ints_len, sealI_len, Nat.le_refl, hp, List.length_nil, hz, decide_true, true_and, true_implies, and_true, reduceCtorEq, false_implies, implies_true, forall_const, Option.some.injEq, forall_eq', Bool.true_eq_false, Bool.false_eq_true]
    simp
    have hl4 : l.length = m.length + 4 := by rw [openI_some ho, sealI_len]
    have hln : l ≠ [] := fun e => by rw [e] at hl4; simp at hl4
    exact ⟨hb, fun e => ⟨hb, hb2, by omega, fun e2 => absurd e2 hln, fun _ => by omega, e⟩, hb, hb2, by omega, fun e => absurd e hln, by omega, by omega⟩
end Go.Proofs.Ytlffefjepohoiaa
