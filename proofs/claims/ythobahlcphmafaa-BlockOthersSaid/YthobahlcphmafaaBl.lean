import Derived.Test.YthobahlcphmafaaCrcB
import Derived.Test.YthobahlcphmafaaVdU
import Derived.KernelRfl
namespace Go.Proofs.Ythobahlcphmafaa
open Vc Go
set_option linter.unusedVariables false
set_option linter.unusedSimpArgs false
set_option maxRecDepth 100000
noncomputable def XB : CallT := callS Try.prog codeS noT 10
def kInv (k : Nat) : Prop := k ≤ 8
/-- The loop of all: out holds the first blocks. -/
abbrev alLI (C : List D) (o : Nat → List (List D)) : LI where
  α := {k : Nat // kInv k}
  live := [0, 3, 9, 10]
  nils := [.slot 1 5 1]
  st k := ([.ptr 0 0, .sl 1 0 (16 * k.1), .agg [.arr 128 C], .int .i64 (k.1 : Int)], [.cells [.arr 128 C], .row 5 1 (o k.1)])
  μ k := 8 - k.1
def alT (C : List D) (o : Nat → List (List D)) : FuncId → Nat → Option LI
  | 26, 3 => some (alLI C o)
  | _, _ => none
/-- The loop of Load: the first blocks stand. -/
abbrev ldLI (m : List Int) (o : Nat → List D) (z : List D) : LI where
  α := {k : Nat // kInv k}
  live := [2, 4, 6, 21]
  st k := ([.ptr 0 0, .sl 1 0 m.length, .ptr 2 0, .int .i64 (k.1 : Int)], [.cells [.arr 128 z], .row 5 1 (ints .u8 m), .cells [.arr 128 (o k.1)]])
  μ k := 8 - k.1
def ldT (m : List Int) (o : Nat → List D) (z : List D) : FuncId → Nat → Option LI
  | 17, 6 => some (ldLI m o z)
  | _, _ => none
theorem vcWrite (c : List D) (A : List (List D)) (i : Int) (K : V → KB → Prop) (h :
 (decide (i ≥ 0) = true →
 ((!decide (i < 8)) = true → K (V.int IntKind.i64 1) [KO.cells [V.arr 128 c]]) ∧
 ((!decide (i < 8)) = false →
 (((↑A.length : Int) != 16) = true → K (V.int IntKind.i64 1) [KO.cells [V.arr 128 c]]) ∧
 (((↑A.length : Int) != 16) = false →
 16 ≤ A.length ∧ 16 ≤ A.flatten.length ∧ InB i 8 ∧ i.toNat * 16 + 16 ≤ 128 ∧ K (V.int IntKind.i64 0) [KO.cells [V.arr 128 (((List.take (i.toNat * 16) c ++ appD (List.take 16 (List.drop 0 A.flatten)) []) ++ (List.drop (i.toNat * 16 + (appD (List.take 16 (List.drop 0 A.flatten)) []).length) c)))]]))) ∧
 (decide (i ≥ 0) = false → K (V.int IntKind.i64 1) [KO.cells [V.arr 128 c]])
 ) : runSpec Try.prog XB (noT 9) 9 [.ptr 0 0, .int .i64 i, .dat (.sl 1 A)] [.cells [.arr 128 c]] K := Eq.mp (by kernel_rfl) h
theorem vcRead (c : List D) (i : Int) (K : V → KB → Prop) (h :
 (decide (i ≥ 0) = true →
 ((!decide (i < 8)) = true → K (V.tup [V.any (Value.slice none 0 0), V.int IntKind.i64 1]) [KO.cells [V.arr 128 c]]) ∧
 ((!decide (i < 8)) = false →
 InB i 8 ∧
 True ∧
 True ∧
 0 ≤ 16 ∧
 16 ≤ 16 ∧
 (i.toNat * 16 + 0 + 16 ≤ 128 ∧ True) ∧
 (ones (List.take 16 (List.drop (i.toNat * 16 + 0) c))).length ≤ 1000000 ∧
 (ones (List.take 16 (List.drop (i.toNat * 16 + 0) c)) = [] → True ∧ K (V.tup [V.any (Value.slice none 0 0), V.int IntKind.i64 0]) [KO.cells [V.arr 128 c]]) ∧
 PlainS (ones (List.take 16 (List.drop (i.toNat * 16 + 0) c))).flatten ∧ K (V.tup [V.sl 1 0 (ones (List.take 16 (List.drop (i.toNat * 16 + 0) c))).length, V.int IntKind.i64 0]) [KO.cells [V.arr 128 c], KO.row 5 1 (ones (List.take 16 (List.drop (i.toNat * 16 + 0) c)))])) ∧
 (decide (i ≥ 0) = false → K (V.tup [V.any (Value.slice none 0 0), V.int IntKind.i64 1]) [KO.cells [V.arr 128 c]])
 ) : runSpec Try.prog XB (noT 10) 10 [.ptr 0 0, .int .i64 i] [.cells [.arr 128 c]] K := Eq.mp (by kernel_rfl) h
theorem vcTrim (c : List D) (i : Int) (K : V → KB → Prop) (h :
 (decide (i ≥ 0) = true →
 ((!decide (i < 8)) = true → K (V.int IntKind.i64 1) [KO.cells [V.arr 128 c]]) ∧
 ((!decide (i < 8)) = false →
 InB i 8 ∧
 i.toNat * 16 + 16 ≤ 128 ∧
 K (V.int IntKind.i64 0)
 [KO.cells
 [V.arr 128
 (((List.take (i.toNat * 16) c ++
 (List.replicate 16 (D.val (Value.int IntKind.u8 0)))) ++ (List.drop (i.toNat * 16 + 16) c)))]])) ∧
 (decide (i ≥ 0) = false → K (V.int IntKind.i64 1) [KO.cells [V.arr 128 c]])
 ) : runSpec Try.prog XB (noT 12) 12 [.ptr 0 0, .int .i64 i] [.cells [.arr 128 c]] K := Eq.mp (by kernel_rfl) h
theorem vcAll (c : List D) (o : Nat → List (List D)) (K : V → KB → Prop) (h :
 At (alLI c o) ([V.ptr 0 0, V.sl 1 0 0, V.agg [V.arr 128 c], V.int IntKind.i64 0], [KO.cells [V.arr 128 c], KO.row 5 1 []]) ∧
 ∀ (i : { k // kInv k }),
 (decide ((↑i.val : Int) < 8) = true →
 InB (↑i.val : Int) 8 ∧
 (↑i.val : Int).toNat * 16 + 16 ≤ c.length ∧
 True ∧
 True ∧
 0 ≤ 16 ∧
 16 ≤ 16 ∧
 16 ≤ 16 ∧
 16 * i.val ≤ (o i.val).length ∧
 (16 * i.val + (ones (List.take 16 (List.drop 0 (List.take 16 (List.drop ((↑i.val : Int).toNat * 16) c))))).length) * 1 ≤ 140737488355328 ∧
 Nx (alLI c o) i
 ([V.ptr 0 0, V.sl 1 0 (16 * i.val + (ones (List.take 16 (List.drop 0 (List.take 16 (List.drop ((↑i.val : Int).toNat * 16) c))))).length), V.agg [V.arr 128 c], V.int IntKind.i64 (IntKind.i64.wrap ((↑i.val : Int) + 1))],
 [KO.cells [V.arr 128 c], KO.row 5 1 (List.take (16 * i.val) (o i.val) ++ ones (List.take 16 (List.drop 0 (List.take 16 (List.drop ((↑i.val : Int).toNat * 16) c)))))])) ∧
 (decide ((↑i.val : Int) < 8) = false → K (V.sl 1 0 (16 * i.val)) [KO.cells [V.arr 128 c], KO.row 5 1 (o i.val)])
 ) : runSpec Try.prog XB (alT c o 26) 26 [.ptr 0 0] [.cells [.arr 128 c]] K := Eq.mp (by kernel_rfl) h
theorem vcLoad (l m : List Int) (o : Nat → List D) (z : List D) (K : V → KB → Prop) (h :
 ∃ l_1,
 ints IntKind.u8 l = ints IntKind.u8 l_1 ∧
 (∀ (c : Int), List.Mem c l_1 → 0 ≤ c ∧ c < 256) ∧
 l_1.length ≤ 900000 ∧
 (openI l_1 = none →
 (true = true →
 K
 (V.tup
 [V.agg
 [V.arr 128
 (List.replicate 128 (D.val (Value.int IntKind.u8 0)))],
 V.sb false])
 []) ∧
 (true = false →
 (true = true →
 K
 (V.tup
 [V.agg
 [V.arr 128
 (List.replicate 128 (D.val (Value.int IntKind.u8 0)))],
 V.sb false])
 []) ∧
 (true = false →
 At (ldLI m o z)
 ([V.ptr 0 0, V.any (Value.slice none 0 0), V.ptr 1 0, V.int IntKind.i64 0],
 [KO.cells
 [V.arr 128
 (List.replicate 128 (D.val (Value.int IntKind.u8 0)))],
 KO.cells
 [V.arr 128
 (List.replicate 128 (D.val (Value.int IntKind.u8 0)))]]) ∧
 ∀ (i : { k // kInv k }),
 (decide ((↑i.val : Int) < 8) = true →
 NonN (IntKind.i64.wrap ((↑i.val : Int) * 16)) ∧
 True ∧
 (IntKind.i64.wrap ((↑i.val : Int) * 16)).toNat ≤ m.length - 0 ∧
 m.length - 0 ≤ m.length - 0 ∧
 16 ≤ 0 + (m.length - 0) - (0 + (IntKind.i64.wrap ((↑i.val : Int) * 16)).toNat) ∧
 16 ≤ (List.drop (0 + (IntKind.i64.wrap ((↑i.val : Int) * 16)).toNat) (ints IntKind.u8 m)).flatten.length ∧
 InB (↑i.val : Int) 8 ∧
 (↑i.val : Int).toNat * 16 + 16 ≤ 128 ∧
 Nx (ldLI m o z) i
 ([V.ptr 0 0, V.sl 1 0 m.length, V.ptr 2 0, V.int IntKind.i64 (IntKind.i64.wrap ((↑i.val : Int) + 1))],
 [KO.cells [V.arr 128 z], KO.row 5 1 (ints IntKind.u8 m), KO.cells [V.arr 128 (splice (o i.val) ((↑i.val : Int).toNat * 16) (appD (List.take 16 (List.drop 0 (List.drop (0 + (IntKind.i64.wrap ((↑i.val : Int) * 16)).toNat) (ints IntKind.u8 m)).flatten)) []))]])) ∧
 (decide ((↑i.val : Int) < 8) = false → K (V.tup [V.agg [V.arr 128 (o i.val)], V.sb true]) [])))) ∧
 ∀ (m_1 : List Int),
 openI l_1 = some m_1 →
 (m_1 = [] →
 (false = true →
 K
 (V.tup
 [V.agg
 [V.arr 128
 (List.replicate 128 (D.val (Value.int IntKind.u8 0)))],
 V.sb false])
 []) ∧
 (false = false →
 (true = true →
 K
 (V.tup
 [V.agg
 [V.arr 128
 (List.replicate 128 (D.val (Value.int IntKind.u8 0)))],
 V.sb false])
 []) ∧
 (true = false →
 At (ldLI m o z)
 ([V.ptr 0 0, V.any (Value.slice none 0 0), V.ptr 1 0, V.int IntKind.i64 0],
 [KO.cells
 [V.arr 128
 (List.replicate 128 (D.val (Value.int IntKind.u8 0)))],
 KO.cells
 [V.arr 128
 (List.replicate 128 (D.val (Value.int IntKind.u8 0)))]]) ∧
 ∀ (i : { k // kInv k }),
 (decide ((↑i.val : Int) < 8) = true →
 NonN (IntKind.i64.wrap ((↑i.val : Int) * 16)) ∧
 True ∧
 (IntKind.i64.wrap ((↑i.val : Int) * 16)).toNat ≤ m.length - 0 ∧
 m.length - 0 ≤ m.length - 0 ∧
 16 ≤ 0 + (m.length - 0) - (0 + (IntKind.i64.wrap ((↑i.val : Int) * 16)).toNat) ∧
 16 ≤ (List.drop (0 + (IntKind.i64.wrap ((↑i.val : Int) * 16)).toNat) (ints IntKind.u8 m)).flatten.length ∧
 InB (↑i.val : Int) 8 ∧
 (↑i.val : Int).toNat * 16 + 16 ≤ 128 ∧
 Nx (ldLI m o z) i
 ([V.ptr 0 0, V.sl 1 0 m.length, V.ptr 2 0, V.int IntKind.i64 (IntKind.i64.wrap ((↑i.val : Int) + 1))],
 [KO.cells [V.arr 128 z], KO.row 5 1 (ints IntKind.u8 m), KO.cells [V.arr 128 (splice (o i.val) ((↑i.val : Int).toNat * 16) (appD (List.take 16 (List.drop 0 (List.drop (0 + (IntKind.i64.wrap ((↑i.val : Int) * 16)).toNat) (ints IntKind.u8 m)).flatten)) []))]])) ∧
 (decide ((↑i.val : Int) < 8) = false → K (V.tup [V.agg [V.arr 128 (o i.val)], V.sb true]) [])))) ∧
 (false = true →
 K
 (V.tup
 [V.agg
 [V.arr 128
 (List.replicate 128 (D.val (Value.int IntKind.u8 0)))],
 V.sb false])
 []) ∧
 (false = false →
 (((↑(m_1.length - 0) : Int) != 128) = true →
 K
 (V.tup
 [V.agg
 [V.arr 128
 (List.replicate 128 (D.val (Value.int IntKind.u8 0)))],
 V.sb false])
 []) ∧
 (((↑(m_1.length - 0) : Int) != 128) = false →
 At (ldLI m o z)
 ([V.ptr 0 0, V.sl 1 0 m_1.length, V.ptr 2 0, V.int IntKind.i64 0],
 [KO.cells
 [V.arr 128
 (List.replicate 128 (D.val (Value.int IntKind.u8 0)))],
 KO.row 5 1 (ints IntKind.u8 m_1),
 KO.cells
 [V.arr 128
 (List.replicate 128 (D.val (Value.int IntKind.u8 0)))]]) ∧
 ∀ (i : { k // kInv k }),
 (decide ((↑i.val : Int) < 8) = true →
 NonN (IntKind.i64.wrap ((↑i.val : Int) * 16)) ∧
 True ∧
 (IntKind.i64.wrap ((↑i.val : Int) * 16)).toNat ≤ m.length - 0 ∧
 m.length - 0 ≤ m.length - 0 ∧
 16 ≤ 0 + (m.length - 0) - (0 + (IntKind.i64.wrap ((↑i.val : Int) * 16)).toNat) ∧
 16 ≤ (List.drop (0 + (IntKind.i64.wrap ((↑i.val : Int) * 16)).toNat) (ints IntKind.u8 m)).flatten.length ∧
 InB (↑i.val : Int) 8 ∧
 (↑i.val : Int).toNat * 16 + 16 ≤ 128 ∧
 Nx (ldLI m o z) i
 ([V.ptr 0 0, V.sl 1 0 m.length, V.ptr 2 0, V.int IntKind.i64 (IntKind.i64.wrap ((↑i.val : Int) + 1))],
 [KO.cells [V.arr 128 z], KO.row 5 1 (ints IntKind.u8 m), KO.cells [V.arr 128 (splice (o i.val) ((↑i.val : Int).toNat * 16) (appD (List.take 16 (List.drop 0 (List.drop (0 + (IntKind.i64.wrap ((↑i.val : Int) * 16)).toNat) (ints IntKind.u8 m)).flatten)) []))]])) ∧
 (decide ((↑i.val : Int) < 8) = false → K (V.tup [V.agg [V.arr 128 (o i.val)], V.sb true]) [])))
 ) : runSpec Try.prog XB (ldT m o z 17) 17 [.dat (.sl 1 (ints .u8 l))] [] K := Eq.mp (by kernel_rfl) h
theorem vcRWrite (A B : List (List D)) (n : Nat) (i : Int) (K : V → KB → Prop) (h :
 (decide (i < 0) = true → K (V.tup [V.sl 0 0 n, V.int IntKind.i64 1]) [KO.row 5 1 A]) ∧
 (decide (i < 0) = false →
 (decide (i > 7) = true → K (V.tup [V.sl 0 0 n, V.int IntKind.i64 1]) [KO.row 5 1 A]) ∧
 (decide (i > 7) = false →
 (((↑B.length : Int) != 16) = true → K (V.tup [V.sl 0 0 n, V.int IntKind.i64 1]) [KO.row 5 1 A]) ∧
 (((↑B.length : Int) != 16) = false →
 True ∧
 NonN (IntKind.i64.wrap (16 * i)) ∧
 0 ≤ (IntKind.i64.wrap (16 * i)).toNat ∧
 (IntKind.i64.wrap (16 * i)).toNat ≤ n - 0 ∧
 0 + (IntKind.i64.wrap (16 * i)).toNat ≤ A.length ∧
 0 ≤ 0 ∧
 (0 + (List.drop 0 (List.take (0 + (IntKind.i64.wrap (16 * i)).toNat) A)).length) * 1 ≤ 140737488355328 ∧
 True ∧
 0 + (List.drop 0 (List.take (0 + (IntKind.i64.wrap (16 * i)).toNat) A)).length ≤ ([] ++ List.drop 0 (List.take (0 + (IntKind.i64.wrap (16 * i)).toNat) A)).length ∧
 (0 + (List.drop 0 (List.take (0 + (IntKind.i64.wrap (16 * i)).toNat) A)).length + B.length) * 1 ≤ 140737488355328 ∧
 NonN (IntKind.i64.wrap (IntKind.i64.wrap (16 * i) + 16)) ∧
 True ∧
 (IntKind.i64.wrap (IntKind.i64.wrap (16 * i) + 16)).toNat ≤ n - 0 ∧
 n - 0 ≤ n - 0 ∧
 0 + (n - 0) ≤ A.length ∧
 0 + (List.drop 0 (List.take (0 + (IntKind.i64.wrap (16 * i)).toNat) A)).length + B.length ≤ (List.take (0 + (List.drop 0 (List.take (0 + (IntKind.i64.wrap (16 * i)).toNat) A)).length) ([] ++ List.drop 0 (List.take (0 + (IntKind.i64.wrap (16 * i)).toNat) A)) ++ B).length ∧
 (0 + (List.drop 0 (List.take (0 + (IntKind.i64.wrap (16 * i)).toNat) A)).length + B.length + (List.drop (0 + (IntKind.i64.wrap (IntKind.i64.wrap (16 * i) + 16)).toNat) (List.take (0 + (n - 0)) A)).length) * 1 ≤ 140737488355328 ∧
 K (V.tup [V.sl 1 0 (0 + (List.drop 0 (List.take (0 + (IntKind.i64.wrap (16 * i)).toNat) A)).length + B.length + (List.drop (0 + (IntKind.i64.wrap (IntKind.i64.wrap (16 * i) + 16)).toNat) (List.take (0 + (n - 0)) A)).length), V.int IntKind.i64 0])
 [KO.row 5 1 A,
 KO.row 5 1
 (List.take (0 + (List.drop 0 (List.take (0 + (IntKind.i64.wrap (16 * i)).toNat) A)).length + B.length) (List.take (0 + (List.drop 0 (List.take (0 + (IntKind.i64.wrap (16 * i)).toNat) A)).length) ([] ++ List.drop 0 (List.take (0 + (IntKind.i64.wrap (16 * i)).toNat) A)) ++ B) ++
 List.drop (0 + (IntKind.i64.wrap (IntKind.i64.wrap (16 * i) + 16)).toNat) (List.take (0 + (n - 0)) A))])))
 ) : runSpec Try.prog XB (noT 15) 15 [.sl 0 0 n, .int .i64 i, .dat (.sl 1 B)] [.row 5 1 A] K := Eq.mp (by kernel_rfl) h
theorem vcRRead (A : List (List D)) (n : Nat) (i : Int) (K : V → KB → Prop) (h :
 (decide (i < 0) = true → K (V.tup [V.any (Value.slice none 0 0), V.int IntKind.i64 1]) [KO.row 5 1 A]) ∧
 (decide (i < 0) = false →
 (decide (i > 7) = true → K (V.tup [V.any (Value.slice none 0 0), V.int IntKind.i64 1]) [KO.row 5 1 A]) ∧
 (decide (i > 7) = false →
 NonN (IntKind.i64.wrap (16 * i)) ∧
 NonN (IntKind.i64.wrap (IntKind.i64.wrap (16 * i) + 16)) ∧ (IntKind.i64.wrap (16 * i)).toNat ≤ (IntKind.i64.wrap (IntKind.i64.wrap (16 * i) + 16)).toNat ∧ (IntKind.i64.wrap (IntKind.i64.wrap (16 * i) + 16)).toNat ≤ n - 0 ∧ K (V.tup [V.sl 0 (0 + (IntKind.i64.wrap (16 * i)).toNat) (0 + (IntKind.i64.wrap (IntKind.i64.wrap (16 * i) + 16)).toNat), V.int IntKind.i64 0]) [KO.row 5 1 A]))
 ) : runSpec Try.prog XB (noT 18) 18 [.sl 0 0 n, .int .i64 i] [.row 5 1 A] K := Eq.mp (by kernel_rfl) h
theorem vcRLoad2 (l : List Int) (K : V → KB → Prop) (h :
 ∃ l_1,
 ints IntKind.u8 l = ints IntKind.u8 l_1 ∧
 l.length = l_1.length ∧
 (∀ (c : Int), List.Mem c l_1 → 0 ≤ c ∧ c < 256) ∧
 l_1.length ≤ 900000 ∧
 (openI l_1 = none → (true = true → K (V.tup [V.any (Value.slice none 0 0), V.sb false]) [KO.row 5 1 (ints IntKind.u8 l_1)]) ∧ (true = false → (true = true → K (V.tup [V.any (Value.slice none 0 0), V.sb false]) [KO.row 5 1 (ints IntKind.u8 l_1)]) ∧ (true = false → K (V.tup [V.any (Value.slice none 0 0), V.sb true]) [KO.row 5 1 (ints IntKind.u8 l_1)]))) ∧
 ∀ (m : List Int),
 openI l_1 = some m →
 (false = true → K (V.tup [V.any (Value.slice none 0 0), V.sb false]) [KO.row 5 1 (ints IntKind.u8 l_1)]) ∧ (false = false → (((↑(m.length - 0) : Int) != 128) = true → K (V.tup [V.any (Value.slice none 0 0), V.sb false]) [KO.row 5 1 (ints IntKind.u8 l_1)]) ∧ (((↑(m.length - 0) : Int) != 128) = false → K (V.tup [V.sl 0 0 m.length, V.sb true]) [KO.row 5 1 (ints IntKind.u8 l_1)]))
 ) : runSpec Try.prog XB (noT 22) 22 [.sl 0 0 l.length] [.row 5 1 (ints .u8 l)] K := Eq.mp (by kernel_rfl) h
theorem vcRLoad (l : List Int) (K : V → KB → Prop) (h :
 ∃ l_1,
 ints IntKind.u8 l = ints IntKind.u8 l_1 ∧
 (∀ (c : Int), List.Mem c l_1 → 0 ≤ c ∧ c < 256) ∧
 l_1.length ≤ 900000 ∧
 (openI l_1 = none → (true = true → K (V.tup [V.any (Value.slice none 0 0), V.sb false]) []) ∧ (true = false → (true = true → K (V.tup [V.any (Value.slice none 0 0), V.sb false]) []) ∧ (true = false → K (V.tup [V.any (Value.slice none 0 0), V.sb true]) []))) ∧
 ∀ (m : List Int), openI l_1 = some m → (false = true → K (V.tup [V.any (Value.slice none 0 0), V.sb false]) []) ∧ (false = false → (((↑(ints IntKind.u8 m).length : Int) != 128) = true → K (V.tup [V.any (Value.slice none 0 0), V.sb false]) []) ∧ (((↑(ints IntKind.u8 m).length : Int) != 128) = false → K (V.tup [V.dat (D.sl 1 (ints IntKind.u8 m)), V.sb true]) []))
 ) : runSpec Try.prog XB (noT 22) 22 [.dat (.sl 1 (ints .u8 l))] [] K := Eq.mp (by kernel_rfl) h
theorem XB_ok : CallOk Try.prog XB := callS_ok mixed codeS_ok noT 10
structure okI (i : Int) : Prop where
  lo : 0 ≤ i
  hi : i < 8
def Swrite : FSpec := fun args kb K => match args, kb with
  | [.ptr 0 0, .int .i64 i, .dat (.sl 1 A)], [.cells [.arr 128 C]] => ∃ c b : List Int, C = dns .u8 c ∧ A = ints .u8 b ∧ c.length = 128 ∧ (okI i ∧ b.length = 16 → K (.int .i64 0) [.cells [.arr 128 (dns .u8 (splice c (i.toNat * 16) b))]]) ∧ (¬ (okI i ∧ b.length = 16) → K (.int .i64 1) [.cells [.arr 128 (dns .u8 c)]])
  | _, _ => False
def Strim : FSpec := fun args kb K => match args, kb with
  | [.ptr 0 0, .int .i64 i], [.cells [.arr 128 C]] => ∃ c : List Int, C = dns .u8 c ∧ c.length = 128 ∧ (okI i → K (.int .i64 0) [.cells [.arr 128 (dns .u8 (splice c (i.toNat * 16) (List.replicate 16 0)))]]) ∧ (¬ okI i → K (.int .i64 1) [.cells [.arr 128 (dns .u8 c)]])
  | _, _ => False
def Sread : FSpec := fun args kb K => match args, kb with
  | [.ptr 0 0, .int .i64 i], [.cells [.arr 128 C]] => ∃ c : List Int, C = dns .u8 c ∧ c.length = 128 ∧ (okI i → K (.tup [.sl 1 0 16, .int .i64 0]) [.cells [.arr 128 (dns .u8 c)], .row 5 1 (ints .u8 ((c.drop (i.toNat * 16)).take 16))]) ∧ (¬ okI i → K (.tup [.any (.slice none 0 0), .int .i64 1]) [.cells [.arr 128 (dns .u8 c)]])
  | _, _ => False
def Sall : FSpec := fun args kb K => match args, kb with
  | [.ptr 0 0], [.cells [.arr 128 C]] => ∃ c : List Int, C = dns .u8 c ∧ c.length = 128 ∧ K (.sl 1 0 128) [.cells [.arr 128 (dns .u8 c)], .row 5 1 (ints .u8 c)]
  | _, _ => False
theorem dns_flat {b : List Int} : (ints .u8 b).flatten = dns .u8 b := ints_flat
theorem okWrite : SpecOk Try.prog 9 Swrite := specOk_of' XB_ok mixed (fun args kb K h => by
  unfold Swrite at h; split at h <;> try exact h.elim
  rename_i i A C
  obtain ⟨c, b, rfl, rfl, hl, h1, h2⟩ := h
  refine ⟨noT 9, vcWrite _ _ i K ⟨fun hi => ⟨fun h8 => h2 ?_, fun h8 => ⟨fun hb => h2 ?_, fun hb => ?_⟩⟩, fun hi => h2 ?_⟩⟩
  · rintro ⟨⟨a1, a2⟩, _⟩; simp at h8; omega
  · rintro ⟨_, hb2⟩; simp [ints_len] at hb; omega
  · simp only [ints_len, bne_eq_false_iff_eq] at hb
    have hb : b.length = 16 := by omega
    have hi : 0 ≤ i := by simpa using hi
    have h8 : i < 8 := by simpa using h8
    have k := h1 ⟨⟨hi, h8⟩, hb⟩
    refine ⟨by rw [ints_len]; omega, by rw [ints_flat]; simp [dns]; omega, by unfold InB; omega, by omega, ?_⟩
    have e : splice (dns .u8 c) (i.toNat * 16) (appD (List.take 16 (List.drop 0 (ints .u8 b).flatten)) []) = dns .u8 (splice c (i.toNat * 16) b) := by
      rw [List.drop_zero, ints_flat, List.take_of_length_le (by simp [dns]; omega)]
      have : appD (dns .u8 b) [] = dns .u8 b := by simp [appD]
      rw [this]
      simp [splice, dns]
    rw [← e] at k
    exact k
  · rintro ⟨⟨a1, a2⟩, _⟩; simp at hi; omega)
theorem okTrim : SpecOk Try.prog 12 Strim := specOk_of' XB_ok mixed (fun args kb K h => by
  unfold Strim at h; split at h <;> try exact h.elim
  rename_i i C
  obtain ⟨c, rfl, hl, h1, h2⟩ := h
  refine ⟨noT 12, vcTrim _ i K ⟨fun hi => ⟨fun h8 => h2 ?_, fun h8 => ?_⟩, fun hi => h2 ?_⟩⟩
  · rintro ⟨a1, a2⟩; simp at h8; omega
  · have hi : 0 ≤ i := by simpa using hi
    have h8 : i < 8 := by simpa using h8
    have k := h1 ⟨hi, h8⟩
    refine ⟨by unfold InB; omega, by omega, ?_⟩
    have e : splice (dns .u8 c) (i.toNat * 16) (List.replicate 16 (D.val (.int .u8 0))) = dns .u8 (splice c (i.toNat * 16) (List.replicate 16 0)) := by
      simp [splice, dns]
    rw [← e] at k
    exact k
  · rintro ⟨a1, a2⟩; simp at hi; omega)
theorem ones_part {c : List Int} {o n : Nat} : ones (List.take n (List.drop o (dns .u8 c))) = ints .u8 ((c.drop o).take n) := by
  simp only [ones, dns, ints, List.map_take, List.map_drop, List.map_map]; rfl
theorem okRead : SpecOk Try.prog 10 Sread := specOk_of' XB_ok mixed (fun args kb K h => by
  unfold Sread at h; split at h <;> try exact h.elim
  rename_i i C
  obtain ⟨c, rfl, hl, h1, h2⟩ := h
  refine ⟨noT 10, vcRead _ i K ⟨fun hi => ⟨fun h8 => h2 ?_, fun h8 => ?_⟩, fun hi => h2 ?_⟩⟩
  · rintro ⟨a1, a2⟩; simp at h8; omega
  · have hi : 0 ≤ i := by simpa using hi
    have h8 : i < 8 := by simpa using h8
    have k := h1 ⟨hi, h8⟩
    have hlen : ((c.drop (i.toNat * 16)).take 16).length = 16 := by simp; omega
    simp only [Nat.add_zero, ones_part, ints_len, hlen]
    refine ⟨by unfold InB; omega, trivial, trivial, by omega, by omega, ⟨by omega, trivial⟩, by omega, fun e => ?_, ⟨plain_ints⟩, k⟩
    have := congrArg List.length e
    rw [ints_len, hlen] at this
    cases this
  · rintro ⟨a1, a2⟩; simp at hi; omega)
theorem okAll : SpecOk Try.prog 26 Sall := specOk_of' XB_ok mixed (fun args kb K h => by
  unfold Sall at h; split at h <;> try exact h.elim
  obtain ⟨c, rfl, hl, h⟩ := h
  refine ⟨alT (dns .u8 c) (fun k => ints .u8 (c.take (16 * k))) 26, vcAll _ (fun k => ints .u8 (c.take (16 * k))) K ⟨At.mk' ⟨0, Nat.zero_le _⟩ rfl, ?_⟩⟩
  rintro ⟨k, hk⟩
  simp only [kInv] at hk ⊢
  have e2 : ((k : Nat) : Int).toNat = k := by omega
  refine ⟨fun hc => ?_, fun hc => ?_⟩
  · simp only [decide_eq_true_eq] at hc
    have w2 := w64 (n := (k : Int) + 1) (by omega) (by omega)
    have e3 : ones (List.take 16 (List.drop 0 (List.take 16 (List.drop (k * 16) (dns .u8 c))))) = ints .u8 ((c.drop (16 * k)).take 16) := by
      rw [List.drop_zero, List.take_take, Nat.min_self, ones_part, Nat.mul_comm]
    have hlen : ((c.drop (16 * k)).take 16).length = 16 := by simp; omega
    rw [e2, e3, w2, ints_len, ints_len, hlen]
    have e4 : List.take (16 * k) (ints .u8 (c.take (16 * k))) ++ ints .u8 ((c.drop (16 * k)).take 16) = ints .u8 (c.take (16 * (k + 1))) := by
      rw [List.take_of_length_le (by rw [ints_len, List.length_take]; omega), ← ints_app, Nat.mul_succ, List.take_add]
    refine ⟨by unfold InB; omega, by simp [dns]; omega, trivial, trivial, by omega, by omega, by omega, by rw [List.length_take]; omega, by omega, ?_⟩
    rw [e4]
    exact Nx.mk' (⟨k + 1, by show k + 1 ≤ 8; omega⟩ : {k : Nat // kInv k}) rfl (by show 8 - (k + 1) < 8 - k; omega)
  · simp only [decide_eq_false_iff_not] at hc
    have : k = 8 := by omega
    subst this
    rw [List.take_of_length_le (by omega)]
    exact h)
abbrev z128 : List Int := List.replicate 128 0
def Sload : FSpec := fun args kb K => match args, kb with
  | [.dat (.sl 1 A)], [] => ∃ l : List Int, A = ints .u8 l ∧ Byt l ∧ l.length ≤ 900000 ∧ (∀ m, openI l = some m → m.length = 128 → K (.tup [.agg [.arr 128 (dns .u8 m)], .sb true]) []) ∧ ((∀ m, openI l = some m → ¬ m.length = 128) → K (.tup [.agg [.arr 128 (dns .u8 z128)], .sb false]) [])
  | _, _ => False
def SrWrite : FSpec := fun args kb K => match args, kb with
  | [.sl 0 0 128, .int .i64 i, .dat (.sl 1 B)], [.row 5 1 A] => ∃ a b : List Int, A = ints .u8 a ∧ a.length = 128 ∧ B = ints .u8 b ∧ (okI i ∧ b.length = 16 → K (.tup [.sl 1 0 128, .int .i64 0]) [.row 5 1 (ints .u8 a), .row 5 1 (ints .u8 (splice a (i.toNat * 16) b))]) ∧ (¬ (okI i ∧ b.length = 16) → K (.tup [.sl 0 0 128, .int .i64 1]) [.row 5 1 (ints .u8 a)])
  | _, _ => False
def SrRead : FSpec := fun args kb K => match args, kb with
  | [.sl 0 0 128, .int .i64 i], [.row 5 1 A] => (okI i → K (.tup [.sl 0 (i.toNat * 16) (i.toNat * 16 + 16), .int .i64 0]) [.row 5 1 A]) ∧ (¬ okI i → K (.tup [.any (.slice none 0 0), .int .i64 1]) [.row 5 1 A])
  | _, _ => False
def SrLoad : FSpec := fun args kb K => match args, kb with
  | [.dat (.sl 1 A)], [] => ∃ l : List Int, A = ints .u8 l ∧ Byt l ∧ l.length ≤ 900000 ∧ (∀ m, openI l = some m → m.length = 128 → K (.tup [.dat (.sl 1 (ints .u8 m)), .sb true]) []) ∧ ((∀ m, openI l = some m → ¬ m.length = 128) → K (.tup [.any (.slice none 0 0), .sb false]) [])
  | [.sl 0 0 n], [.row 5 1 A] => ∃ l : List Int, A = ints .u8 l ∧ n = l.length ∧ Byt l ∧ l.length ≤ 900000 ∧ (∀ m, openI l = some m → m.length = 128 → K (.tup [.sl 0 0 m.length, .sb true]) [.row 5 1 (ints .u8 l)]) ∧ ((∀ m, openI l = some m → ¬ m.length = 128) → K (.tup [.any (.slice none 0 0), .sb false]) [.row 5 1 (ints .u8 l)])
  | _, _ => False
theorem okRLoad : SpecOk Try.prog 22 SrLoad := specOk_of' XB_ok mixed (fun args kb K h => by
  unfold SrLoad at h; split at h <;> try exact h.elim
  · obtain ⟨l, rfl, hb, hl, h1, h2⟩ := h
    refine ⟨noT 22, vcRLoad l K ⟨l, rfl, hb, hl, fun ho => ⟨fun _ => h2 (fun m hm => by rw [ho] at hm; cases hm), fun h => by cases h⟩, fun m ho => ⟨fun h => (by cases h), fun _ => ⟨fun hn => h2 (fun m' hm => ?_), fun hn => h1 m ho ?_⟩⟩⟩⟩
    · rw [ho] at hm; cases hm
      simp only [ints_len, bne_iff_ne, ne_eq] at hn; omega
    · simp only [ints_len, bne_eq_false_iff_eq] at hn; omega
  · obtain ⟨l, rfl, rfl, hb, hl, h1, h2⟩ := h
    refine ⟨noT 22, vcRLoad2 l K ⟨l, rfl, rfl, hb, hl, fun ho => ⟨fun _ => h2 (fun m hm => by rw [ho] at hm; cases hm), fun h => by cases h⟩, fun m ho => ⟨fun h => (by cases h), fun _ => ⟨fun hn => h2 (fun m' hm => ?_), fun hn => h1 m ho ?_⟩⟩⟩⟩
    · rw [ho] at hm; cases hm
      simp only [Nat.sub_zero, bne_iff_ne, ne_eq] at hn; omega
    · simp only [Nat.sub_zero, bne_eq_false_iff_eq] at hn; omega)
theorem okRRead : SpecOk Try.prog 18 SrRead := specOk_of' XB_ok mixed (fun args kb K h => by
  unfold SrRead at h; split at h <;> try exact h.elim
  rename_i i A
  obtain ⟨h1, h2⟩ := h
  refine ⟨noT 18, vcRRead A 128 i K ⟨fun hi => h2 (fun ⟨a1, a2⟩ => ?_), fun hi => ⟨fun h8 => h2 (fun ⟨a1, a2⟩ => ?_), fun h8 => ?_⟩⟩⟩
  · simp at hi; omega
  · simp at h8; omega
  · have hi : 0 ≤ i := by simpa using hi
    have h8 : i ≤ 7 := by simpa using h8
    have k := h1 ⟨hi, by omega⟩
    have w1 := w64 (n := 16 * i) (by omega) (by omega)
    have w2 := w64 (n := 16 * i + 16) (by omega) (by omega)
    rw [w1, w2, show (16 * i).toNat = i.toNat * 16 by omega, show (16 * i + 16).toNat = i.toNat * 16 + 16 by omega, Nat.zero_add, Nat.zero_add]
    exact ⟨by unfold NonN; omega, by unfold NonN; omega, by omega, by omega, k⟩)
theorem okRWrite : SpecOk Try.prog 15 SrWrite := specOk_of' XB_ok mixed (fun args kb K h => by
  unfold SrWrite at h; split at h <;> try exact h.elim
  rename_i i B A
  obtain ⟨a, b, rfl, hl, rfl, h1, h2⟩ := h
  refine ⟨noT 15, vcRWrite _ _ 128 i K ⟨fun hi => h2 (fun ⟨⟨a1, a2⟩, _⟩ => ?_), fun hi => ⟨fun h8 => h2 (fun ⟨⟨a1, a2⟩, _⟩ => ?_), fun h8 => ⟨fun hb => h2 (fun ⟨_, hb2⟩ => ?_), fun hb => ?_⟩⟩⟩⟩
  · simp at hi; omega
  · simp at h8; omega
  · simp [ints_len] at hb; omega
  · have hi : 0 ≤ i := by simpa using hi
    have h8 : i ≤ 7 := by simpa using h8
    simp only [ints_len, bne_eq_false_iff_eq] at hb
    have hb : b.length = 16 := by omega
    have k := h1 ⟨⟨hi, by omega⟩, hb⟩
    have w1 := w64 (n := 16 * i) (by omega) (by omega)
    have w2 := w64 (n := 16 * i + 16) (by omega) (by omega)
    have t1 : List.drop 0 (List.take (i.toNat * 16) (ints .u8 a)) = ints .u8 (a.take (i.toNat * 16)) := dt _ _
    have t2 : List.take 128 (ints .u8 a) = ints .u8 a := List.take_of_length_le (by rw [ints_len]; omega)
    have t3 : (a.take (i.toNat * 16)).length = i.toNat * 16 := by rw [List.length_take]; omega
    have t4 : (a.drop (i.toNat * 16 + 16)).length = 112 - i.toNat * 16 := by rw [List.length_drop]; omega
    rw [w1, w2, show (16 * i).toNat = i.toNat * 16 by omega, show (16 * i + 16).toNat = i.toNat * 16 + 16 by omega]
    simp only [Nat.zero_add, Nat.sub_zero, t1, t2, List.nil_append, ints_len, hb, t3, ints_drop, t4, hl]
    have t5 : List.take (i.toNat * 16) (ints .u8 (a.take (i.toNat * 16))) = ints .u8 (a.take (i.toNat * 16)) := List.take_of_length_le (by rw [ints_len, t3]; omega)
    have t6 : List.take (i.toNat * 16 + 16) (ints .u8 (a.take (i.toNat * 16)) ++ ints .u8 b) = ints .u8 (a.take (i.toNat * 16)) ++ ints .u8 b := List.take_of_length_le (by rw [List.length_append, ints_len, ints_len, t3]; omega)
    have t7 : ints .u8 (a.take (i.toNat * 16)) ++ ints .u8 b ++ ints .u8 (a.drop (i.toNat * 16 + 16)) = ints .u8 (splice a (i.toNat * 16) b) := by
      unfold splice; rw [hb, ints_app, ints_app]
    have t8 : i.toNat * 16 + 16 + (112 - i.toNat * 16) = 128 := by omega
    rw [t5, t6, t7, t8]
    simp only [List.length_append, ints_len, t3, hb]
    exact ⟨trivial, by unfold NonN; omega, by omega, by omega, by omega, by omega, by omega, trivial, by omega, by omega, by unfold NonN; omega, trivial, by omega, by omega, by omega, by omega, by omega, k⟩)
def ldO (m : List Int) (k : Nat) : List D := dns .u8 (m.take (16 * k) ++ List.replicate (128 - 16 * k) 0)
theorem ldO_step {m : List Int} (hm : m.length = 128) {k : Nat} (hk : k < 8) : splice (ldO m k) (k * 16) (appD (List.take 16 (List.drop 0 (List.drop (k * 16) (ints .u8 m)).flatten)) []) = ldO m (k + 1) := by
  have e1 : appD (List.take 16 (List.drop 0 (List.drop (k * 16) (ints .u8 m)).flatten)) [] = dns .u8 ((m.drop (k * 16)).take 16) := by
    rw [ints_drop, ints_flat, List.drop_zero]
    simp [appD, dns]
  rw [e1]
  have e2 : splice (ldO m k) (k * 16) (dns .u8 ((m.drop (k * 16)).take 16)) = dns .u8 (splice (m.take (16 * k) ++ List.replicate (128 - 16 * k) 0) (k * 16) ((m.drop (k * 16)).take 16)) := by
    simp [splice, dns, ldO]
  rw [e2]
  unfold ldO
  congr 1
  unfold splice
  have l1 : (m.take (16 * k)).length = 16 * k := by rw [List.length_take]; omega
  have l2 : ((m.drop (k * 16)).take 16).length = 16 := by simp; omega
  have a1 : List.take (k * 16) (m.take (16 * k) ++ List.replicate (128 - 16 * k) (0 : Int)) = m.take (16 * k) := by
    rw [List.take_append_of_le_length (by omega)]; exact List.take_of_length_le (by omega)
  have a2 : List.drop (k * 16 + 16) (m.take (16 * k) ++ List.replicate (128 - 16 * k) (0 : Int)) = List.replicate (128 - 16 * (k + 1)) 0 := by
    rw [List.drop_append, List.drop_of_length_le (by omega), List.nil_append, List.drop_replicate, l1]; congr 1; omega
  rw [l2, a1, a2, show 16 * (k + 1) = 16 * k + 16 by omega, List.take_add, show k * 16 = 16 * k by omega]
theorem okLoad : SpecOk Try.prog 17 Sload := specOk_of' XB_ok mixed (fun args kb K h => by
  unfold Sload at h; split at h <;> try exact h.elim
  obtain ⟨l, rfl, hb, hl, h1, h2⟩ := h
  cases ho : openI l with
  | none =>
    refine ⟨ldT [] (ldO []) [] 17, vcLoad l [] (ldO []) [] K ⟨l, rfl, hb, hl, fun _ => ⟨fun _ => h2 (fun m hm => by rw [ho] at hm; cases hm), fun h => by cases h⟩, fun m hm => by rw [ho] at hm; cases hm⟩⟩
  | some m =>
    have hml := openI_some ho
    refine ⟨ldT m (ldO m) (List.replicate 128 (D.val (.int .u8 0))) 17, vcLoad l m (ldO m) (List.replicate 128 (D.val (.int .u8 0))) K ⟨l, rfl, hb, hl, fun h0 => (by rw [ho] at h0; cases h0), fun m' hm => ?_⟩⟩
    rw [ho] at hm; cases hm
    refine ⟨fun e => ⟨fun h => (by cases h), fun _ => ⟨fun _ => h2 (fun m' hm' => ?_), fun h => ?_⟩⟩, fun h => (by cases h), fun _ => ⟨fun hn => h2 (fun m' hm' => ?_), fun hn => ?_⟩⟩
    · rw [ho] at hm'; cases hm'
      rw [e]; simp
    · cases h
    · rw [ho] at hm'; cases hm'
      simp only [Nat.sub_zero, bne_iff_ne, ne_eq] at hn; omega
    · have hm8 : m.length = 128 := by simp only [Nat.sub_zero, bne_eq_false_iff_eq] at hn; omega
      refine ⟨At.mk' ⟨0, Nat.zero_le _⟩ rfl, ?_⟩
      rintro ⟨k, hk⟩
      simp only [kInv] at hk ⊢
      refine ⟨fun hc => ?_, fun hc => ?_⟩
      · simp only [decide_eq_true_eq] at hc
        have w1 := w64 (n := (k : Int) * 16) (by omega) (by omega)
        have w2 := w64 (n := (k : Int) + 1) (by omega) (by omega)
        have e2 : ((k : Nat) : Int).toNat = k := by omega
        have e3 : ((k : Int) * 16).toNat = k * 16 := by omega
        rw [w1, w2, e2, e3]
        simp only [Nat.zero_add, Nat.sub_zero]
        rw [ldO_step hm8 (by omega)]
        refine ⟨by unfold NonN; omega, trivial, by omega, by omega, by omega, ?_, by unfold InB; omega, by omega, ?_⟩
        · rw [ints_drop, ints_flat]; simp [dns]; omega
        · exact Nx.mk' (⟨k + 1, by show k + 1 ≤ 8; omega⟩ : {k : Nat // kInv k}) rfl (by show 8 - (k + 1) < 8 - k; omega)
      · simp only [decide_eq_false_iff_not] at hc
        have : k = 8 := by omega
        subst this
        have e : ldO m 8 = dns .u8 m := by
          unfold ldO
          rw [List.take_of_length_le (by omega)]; simp
        rw [e]
        exact h1 m ho hm8)
end Go.Proofs.Ythobahlcphmafaa
