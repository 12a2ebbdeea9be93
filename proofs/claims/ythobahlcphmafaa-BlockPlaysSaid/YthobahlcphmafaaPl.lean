import Derived.Test.YthobahlcphmafaaLd
import Derived.KernelRfl
namespace Go.Proofs.Ythobahlcphmafaa
open Vc Go
set_option linter.unusedVariables false
set_option linter.unusedSimpArgs false
set_option maxRecDepth 100000
def plInv (n : Nat) (p : List Int × Nat) : Prop := p.1.length = 128 ∧ Byt p.1 ∧ p.2 ≤ n
def plC (l : List Act) (i : Nat) (p : List Int × Act) : Prop := p.1.length = 128 ∧ Byt p.1 ∧ l[i]? = some p.2
abbrev pcLI (l : List Act) (i : Nat) : LI where
  α := {p : List Int × Act // plC l i p}
  live := [0, 3, 4, 5, 6]
  st p := ([.dat (.sl 3 (l.map actR)), .ptr 0 0, .sl 1 0 128, .int .i64 (i : Int), .ptr 2 0], [.cells [.arr 128 (dns .u8 p.1.1)], .row 5 1 (ints .u8 p.1.1), .cells [.int .i64 p.1.2.1, .int .i64 p.1.2.2.1, .dat (.sl 1 (ints .u8 p.1.2.2.2))]])
  μ _ := 0
abbrev plLI (l : List Act) : LI where
  α := {p : List Int × Nat // plInv l.length p}
  live := [0, 3, 4, 5]
  st p := ([.dat (.sl 3 (l.map actR)), .ptr 0 0, .sl 1 0 128, .int .i64 (p.1.2 : Int)], [.cells [.arr 128 (dns .u8 p.1.1)], .row 5 1 (ints .u8 p.1.1)])
  μ p := l.length - p.1.2
  sub p := fun r => match r with | 1027 => some (pcLI l p.1.2) | _ => none
def otInv (k : Nat) : Prop := k ≤ 8
def part (c : List Int) (k : Nat) : List Int := List.take 16 (List.drop (k * 16) c)
abbrev ocLI (c b : List Int) (i k : Nat) : LI where
  α := Unit
  live := [5, 7, 8, 9, 10, 11, 13]
  st _ := ([.ptr 0 0, .ptr 1 0, .ptr 2 0, .int .i64 (i : Int), .int .i64 (k : Int), .sl 3 0 16, .sl 4 0 16], [.cells [.arr 16 (dns .u8 b)], .cells [.arr 128 (dns .u8 c)], .cells [.arr 128 (dns .u8 (splice c (i * 16) b))], .row 5 1 (ints .u8 (part c k)), .row 5 1 (ints .u8 (part (splice c (i * 16) b) k))])
  μ _ := 0
abbrev otLI (c b : List Int) (i : Nat) : LI where
  α := {k : Nat // otInv k}
  live := [5, 7, 8, 9, 10]
  st k := ([.ptr 0 0, .ptr 1 0, .ptr 2 0, .int .i64 (i : Int), .int .i64 (k.1 : Int)], [.cells [.arr 16 (dns .u8 b)], .cells [.arr 128 (dns .u8 c)], .cells [.arr 128 (dns .u8 (splice c (i * 16) b))]])
  μ k := 8 - k.1
  sub k := fun r => match r with | 1014 => some (ocLI c b i k.1) | _ => none
def plT (l : List Act) : FuncId → Nat → Option LI
  | 5, 6 => some (plLI l)
  | _, _ => none
def otT (c b : List Int) (i : Nat) : FuncId → Nat → Option LI
  | 3, 10 => some (otLI c b i)
  | _, _ => none
noncomputable def XP (l : List Act) : CallT := callS Try.prog lawS (plT l) 10
noncomputable def XQ (c b : List Int) (i : Nat) : CallT := callS Try.prog lawS (otT c b i) 10
theorem vcOthers (l : List Act) (a : Int) (b : List Int) (i : Nat)  (h :
 (decide ((↑(List.map actR l).length : Int) > 60) = true → true = true) ∧
 (decide ((↑(List.map actR l).length : Int) > 60) = false →
 ∃ c l_1,
 (List.replicate 128 (D.val (Value.int IntKind.u8 0))) =
 dns IntKind.u8 c ∧
 c.length = 128 ∧
 List.map actR l = List.map actR l_1 ∧
 l_1.length ≤ 1000 ∧
 True ∧
 True ∧
 0 ≤ 16 ∧
 16 ≤ 16 ∧
 (16 ≤ 16 ∧ True) ∧
 ∃ c_1 b_1,
 dns IntKind.u8 (doC c l_1) = dns IntKind.u8 c_1 ∧
 ones (List.take 16 (List.drop 0 (dns IntKind.u8 b))) = ints IntKind.u8 b_1 ∧
 c_1.length = 128 ∧
 (okI ((IntKind.i64.wrap a).tmod 8) ∧ b_1.length = 16 →
 PlainS (dns IntKind.u8 (splice c_1 (((IntKind.i64.wrap a).tmod 8).toNat * 16) b_1)) ∧
 (false = true → False) ∧
 (false = false →
 At (otLI (doC z128 l) b i)
 ([V.ptr 0 0, V.ptr 1 0, V.ptr 2 0, V.int IntKind.i64 ((IntKind.i64.wrap a).tmod 8), V.int IntKind.i64 0],
 [KO.cells [V.arr 16 (dns IntKind.u8 b)], KO.cells [V.arr 128 (dns IntKind.u8 (doC c l_1))],
 KO.cells [V.arr 128 (dns IntKind.u8 (splice c_1 (((IntKind.i64.wrap a).tmod 8).toNat * 16) b_1))]]) ∧
 ∀ (i_1 : { k // otInv k }),
 (decide ((↑i_1.val : Int) < 8) = true →
 ∃ c,
 dns IntKind.u8 (doC z128 l) = dns IntKind.u8 c ∧
 c.length = 128 ∧
 (okI (↑i_1.val : Int) →
 (∃ c_2,
 dns IntKind.u8 (splice (doC z128 l) (i * 16) b) = dns IntKind.u8 c_2 ∧
 c_2.length = 128 ∧
 (okI (↑i_1.val : Int) →
 At (ocLI (doC z128 l) b i i_1.val)
 ([V.ptr 0 0, V.ptr 1 0, V.ptr 2 0, V.int IntKind.i64 (↑i : Int), V.int IntKind.i64 (↑i_1.val : Int), V.sl 3 0 16, V.sl 4 0 16],
 [KO.cells [V.arr 16 (dns IntKind.u8 b)], KO.cells [V.arr 128 (dns IntKind.u8 c)], KO.cells [V.arr 128 (dns IntKind.u8 c_2)], KO.row 5 1 (ints IntKind.u8 (List.take 16 (List.drop ((↑i_1.val : Int).toNat * 16) c))), KO.row 5 1 (ints IntKind.u8 (List.take 16 (List.drop ((↑i_1.val : Int).toNat * 16) c_2)))])) ∧
 ((okI (↑i_1.val : Int) → False) →
 At (ocLI (doC z128 l) b i i_1.val)
 ([V.ptr 0 0, V.ptr 1 0, V.ptr 2 0, V.int IntKind.i64 (↑i : Int), V.int IntKind.i64 (↑i_1.val : Int), V.sl 3 0 16, V.any (Value.slice none 0 0)],
 [KO.cells [V.arr 16 (dns IntKind.u8 b)], KO.cells [V.arr 128 (dns IntKind.u8 c)], KO.cells [V.arr 128 (dns IntKind.u8 c_2)], KO.row 5 1 (ints IntKind.u8 (List.take 16 (List.drop ((↑i_1.val : Int).toNat * 16) c)))]))) ∧
 ∀ (i_2 : Unit),
 (((↑i_1.val : Int) != (↑i : Int)) = true →
 (16 ≤ (ints IntKind.u8 (part (doC z128 l) i_1.val)).length ∧ 16 ≤ (ints IntKind.u8 (part (splice (doC z128 l) (i * 16) b) i_1.val)).length ∧ True) ∧
 ∃ a b_2,
 List.drop 0 (List.take 16 (ints IntKind.u8 (part (doC z128 l) i_1.val))) = ints IntKind.u8 a ∧
 List.drop 0 (List.take 16 (ints IntKind.u8 (part (splice (doC z128 l) (i * 16) b) i_1.val))) = ints IntKind.u8 b_2 ∧
 a.length.le 1000000 ∧
 True ∧
 ((!decide (a = b_2)) = true → False) ∧
 ((!decide (a = b_2)) = false →
 (((↑i_1.val : Int) == (↑i : Int)) = true →
 True ∧
 True ∧
 0 ≤ 16 ∧
 16 ≤ 16 ∧
 (16 ≤ (ints IntKind.u8 (part (splice (doC z128 l) (i * 16) b) i_1.val)).length ∧ 16 ≤ 16 ∧ True) ∧
 ∃ a b_3,
 List.drop 0 (List.take 16 (ints IntKind.u8 (part (splice (doC z128 l) (i * 16) b) i_1.val))) = ints IntKind.u8 a ∧
 ones (List.take 16 (List.drop 0 (dns IntKind.u8 b))) = ints IntKind.u8 b_3 ∧
 a.length.le 1000000 ∧
 True ∧
 ((!decide (a = b_3)) = true → False) ∧
 ((!decide (a = b_3)) = false →
 Nx (otLI (doC z128 l) b i) i_1
 ([V.ptr 0 0, V.ptr 1 0, V.ptr 2 0, V.int IntKind.i64 (↑i : Int), V.int IntKind.i64 (IntKind.i64.wrap ((↑i_1.val : Int) + 1))],
 [KO.cells [V.arr 16 (dns IntKind.u8 b)], KO.cells [V.arr 128 (dns IntKind.u8 (doC z128 l))], KO.cells [V.arr 128 (dns IntKind.u8 (splice (doC z128 l) (i * 16) b))]]))) ∧
 (((↑i_1.val : Int) == (↑i : Int)) = false →
 Nx (otLI (doC z128 l) b i) i_1
 ([V.ptr 0 0, V.ptr 1 0, V.ptr 2 0, V.int IntKind.i64 (↑i : Int), V.int IntKind.i64 (IntKind.i64.wrap ((↑i_1.val : Int) + 1))], [KO.cells [V.arr 16 (dns IntKind.u8 b)], KO.cells [V.arr 128 (dns IntKind.u8 (doC z128 l))], KO.cells [V.arr 128 (dns IntKind.u8 (splice (doC z128 l) (i * 16) b))]])))) ∧
 (((↑i_1.val : Int) != (↑i : Int)) = false →
 (((↑i_1.val : Int) == (↑i : Int)) = true →
 True ∧
 True ∧
 0 ≤ 16 ∧
 16 ≤ 16 ∧
 (16 ≤ (ints IntKind.u8 (part (splice (doC z128 l) (i * 16) b) i_1.val)).length ∧ 16 ≤ 16 ∧ True) ∧
 ∃ a b_2,
 List.drop 0 (List.take 16 (ints IntKind.u8 (part (splice (doC z128 l) (i * 16) b) i_1.val))) = ints IntKind.u8 a ∧
 ones (List.take 16 (List.drop 0 (dns IntKind.u8 b))) = ints IntKind.u8 b_2 ∧
 a.length.le 1000000 ∧
 True ∧
 ((!decide (a = b_2)) = true → False) ∧
 ((!decide (a = b_2)) = false →
 Nx (otLI (doC z128 l) b i) i_1
 ([V.ptr 0 0, V.ptr 1 0, V.ptr 2 0, V.int IntKind.i64 (↑i : Int), V.int IntKind.i64 (IntKind.i64.wrap ((↑i_1.val : Int) + 1))], [KO.cells [V.arr 16 (dns IntKind.u8 b)], KO.cells [V.arr 128 (dns IntKind.u8 (doC z128 l))], KO.cells [V.arr 128 (dns IntKind.u8 (splice (doC z128 l) (i * 16) b))]]))) ∧
 (((↑i_1.val : Int) == (↑i : Int)) = false →
 Nx (otLI (doC z128 l) b i) i_1 ([V.ptr 0 0, V.ptr 1 0, V.ptr 2 0, V.int IntKind.i64 (↑i : Int), V.int IntKind.i64 (IntKind.i64.wrap ((↑i_1.val : Int) + 1))], [KO.cells [V.arr 16 (dns IntKind.u8 b)], KO.cells [V.arr 128 (dns IntKind.u8 (doC z128 l))], KO.cells [V.arr 128 (dns IntKind.u8 (splice (doC z128 l) (i * 16) b))]])))) ∧
 ((okI (↑i_1.val : Int) → False) →
 (∃ c_2,
 dns IntKind.u8 (splice (doC z128 l) (i * 16) b) = dns IntKind.u8 c_2 ∧
 c_2.length = 128 ∧
 (okI (↑i_1.val : Int) →
 At (ocLI (doC z128 l) b i i_1.val)
 ([V.ptr 0 0, V.ptr 1 0, V.ptr 2 0, V.int IntKind.i64 (↑i : Int), V.int IntKind.i64 (↑i_1.val : Int), V.any (Value.slice none 0 0), V.sl 3 0 16],
 [KO.cells [V.arr 16 (dns IntKind.u8 b)], KO.cells [V.arr 128 (dns IntKind.u8 c)], KO.cells [V.arr 128 (dns IntKind.u8 c_2)], KO.row 5 1 (ints IntKind.u8 (List.take 16 (List.drop ((↑i_1.val : Int).toNat * 16) c_2)))])) ∧
 ((okI (↑i_1.val : Int) → False) →
 At (ocLI (doC z128 l) b i i_1.val) ([V.ptr 0 0, V.ptr 1 0, V.ptr 2 0, V.int IntKind.i64 (↑i : Int), V.int IntKind.i64 (↑i_1.val : Int), V.any (Value.slice none 0 0), V.any (Value.slice none 0 0)], [KO.cells [V.arr 16 (dns IntKind.u8 b)], KO.cells [V.arr 128 (dns IntKind.u8 c)], KO.cells [V.arr 128 (dns IntKind.u8 c_2)]]))) ∧
 ∀ (i_2 : Unit),
 (((↑i_1.val : Int) != (↑i : Int)) = true →
 (16 ≤ (ints IntKind.u8 (part (doC z128 l) i_1.val)).length ∧ 16 ≤ (ints IntKind.u8 (part (splice (doC z128 l) (i * 16) b) i_1.val)).length ∧ True) ∧
 ∃ a b_2,
 List.drop 0 (List.take 16 (ints IntKind.u8 (part (doC z128 l) i_1.val))) = ints IntKind.u8 a ∧
 List.drop 0 (List.take 16 (ints IntKind.u8 (part (splice (doC z128 l) (i * 16) b) i_1.val))) = ints IntKind.u8 b_2 ∧
 a.length.le 1000000 ∧
 True ∧
 ((!decide (a = b_2)) = true → False) ∧
 ((!decide (a = b_2)) = false →
 (((↑i_1.val : Int) == (↑i : Int)) = true →
 True ∧
 True ∧
 0 ≤ 16 ∧
 16 ≤ 16 ∧
 (16 ≤ (ints IntKind.u8 (part (splice (doC z128 l) (i * 16) b) i_1.val)).length ∧ 16 ≤ 16 ∧ True) ∧
 ∃ a b_3,
 List.drop 0 (List.take 16 (ints IntKind.u8 (part (splice (doC z128 l) (i * 16) b) i_1.val))) = ints IntKind.u8 a ∧
 ones (List.take 16 (List.drop 0 (dns IntKind.u8 b))) = ints IntKind.u8 b_3 ∧
 a.length.le 1000000 ∧
 True ∧
 ((!decide (a = b_3)) = true → False) ∧
 ((!decide (a = b_3)) = false →
 Nx (otLI (doC z128 l) b i) i_1
 ([V.ptr 0 0, V.ptr 1 0, V.ptr 2 0, V.int IntKind.i64 (↑i : Int), V.int IntKind.i64 (IntKind.i64.wrap ((↑i_1.val : Int) + 1))],
 [KO.cells [V.arr 16 (dns IntKind.u8 b)], KO.cells [V.arr 128 (dns IntKind.u8 (doC z128 l))], KO.cells [V.arr 128 (dns IntKind.u8 (splice (doC z128 l) (i * 16) b))]]))) ∧
 (((↑i_1.val : Int) == (↑i : Int)) = false →
 Nx (otLI (doC z128 l) b i) i_1
 ([V.ptr 0 0, V.ptr 1 0, V.ptr 2 0, V.int IntKind.i64 (↑i : Int), V.int IntKind.i64 (IntKind.i64.wrap ((↑i_1.val : Int) + 1))], [KO.cells [V.arr 16 (dns IntKind.u8 b)], KO.cells [V.arr 128 (dns IntKind.u8 (doC z128 l))], KO.cells [V.arr 128 (dns IntKind.u8 (splice (doC z128 l) (i * 16) b))]])))) ∧
 (((↑i_1.val : Int) != (↑i : Int)) = false →
 (((↑i_1.val : Int) == (↑i : Int)) = true →
 True ∧
 True ∧
 0 ≤ 16 ∧
 16 ≤ 16 ∧
 (16 ≤ (ints IntKind.u8 (part (splice (doC z128 l) (i * 16) b) i_1.val)).length ∧ 16 ≤ 16 ∧ True) ∧
 ∃ a b_2,
 List.drop 0 (List.take 16 (ints IntKind.u8 (part (splice (doC z128 l) (i * 16) b) i_1.val))) = ints IntKind.u8 a ∧
 ones (List.take 16 (List.drop 0 (dns IntKind.u8 b))) = ints IntKind.u8 b_2 ∧
 a.length.le 1000000 ∧
 True ∧
 ((!decide (a = b_2)) = true → False) ∧
 ((!decide (a = b_2)) = false →
 Nx (otLI (doC z128 l) b i) i_1
 ([V.ptr 0 0, V.ptr 1 0, V.ptr 2 0, V.int IntKind.i64 (↑i : Int), V.int IntKind.i64 (IntKind.i64.wrap ((↑i_1.val : Int) + 1))], [KO.cells [V.arr 16 (dns IntKind.u8 b)], KO.cells [V.arr 128 (dns IntKind.u8 (doC z128 l))], KO.cells [V.arr 128 (dns IntKind.u8 (splice (doC z128 l) (i * 16) b))]]))) ∧
 (((↑i_1.val : Int) == (↑i : Int)) = false →
 Nx (otLI (doC z128 l) b i) i_1
 ([V.ptr 0 0, V.ptr 1 0, V.ptr 2 0, V.int IntKind.i64 (↑i : Int), V.int IntKind.i64 (IntKind.i64.wrap ((↑i_1.val : Int) + 1))], [KO.cells [V.arr 16 (dns IntKind.u8 b)], KO.cells [V.arr 128 (dns IntKind.u8 (doC z128 l))], KO.cells [V.arr 128 (dns IntKind.u8 (splice (doC z128 l) (i * 16) b))]]))))) ∧
 (decide ((↑i_1.val : Int) < 8) = false →
 ∃ c,
 dns IntKind.u8 (splice (doC z128 l) (i * 16) b) = dns IntKind.u8 c ∧
 c.length = 128 ∧
 (okI (↑i : Int) →
 (false = true → False) ∧
 (false = false →
 ∃ c_2,
 dns IntKind.u8 (splice c ((↑i : Int).toNat * 16) [0, 0, 0, 0, 0, 0, 0, 0, 0, 0, 0, 0, 0, 0, 0, 0]) = dns IntKind.u8 c_2 ∧
 c_2.length = 128 ∧
 (okI (↑i : Int) →
 NonN 16 ∧
 Room 16 16 1 ∧
 (16 ≤ (ints IntKind.u8 (List.take 16 (List.drop ((↑i : Int).toNat * 16) c_2))).length ∧ 16 ≤ 16 ∧ True) ∧
 ∃ a b,
 List.drop 0 (List.take 16 (ints IntKind.u8 (List.take 16 (List.drop ((↑i : Int).toNat * 16) c_2)))) = ints IntKind.u8 a ∧
 (List.replicate 16 ([D.val (Value.int IntKind.u8 0)])) =
 ints IntKind.u8 b ∧
 a.length.le 1000000 ∧ True ∧ (decide (a = b) = true → true = true) ∧ (decide (a = b) = false → False)) ∧
 ((okI (↑i : Int) → False) →
 NonN 16 ∧
 Room 16 16 1 ∧
 (True ∧ 16 ≤ 16 ∧ True) ∧
 ∃ a b,
 [] = ints IntKind.u8 a ∧
 (List.replicate 16 ([D.val (Value.int IntKind.u8 0)])) =
 ints IntKind.u8 b ∧
 a.length.le 1000000 ∧ True ∧ (decide (a = b) = true → true = true) ∧ (decide (a = b) = false → False)))) ∧
 ((okI (↑i : Int) → False) →
 (true = true → False) ∧
 (true = false →
 ∃ c_2,
 dns IntKind.u8 c = dns IntKind.u8 c_2 ∧
 c_2.length = 128 ∧
 (okI (↑i : Int) →
 NonN 16 ∧
 Room 16 16 1 ∧
 (16 ≤ (ints IntKind.u8 (List.take 16 (List.drop ((↑i : Int).toNat * 16) c_2))).length ∧ 16 ≤ 16 ∧ True) ∧
 ∃ a b,
 List.drop 0 (List.take 16 (ints IntKind.u8 (List.take 16 (List.drop ((↑i : Int).toNat * 16) c_2)))) = ints IntKind.u8 a ∧
 (List.replicate 16 ([D.val (Value.int IntKind.u8 0)])) =
 ints IntKind.u8 b ∧
 a.length.le 1000000 ∧ True ∧ (decide (a = b) = true → true = true) ∧ (decide (a = b) = false → False)) ∧
 ((okI (↑i : Int) → False) →
 NonN 16 ∧
 Room 16 16 1 ∧
 (True ∧ 16 ≤ 16 ∧ True) ∧
 ∃ a b,
 [] = ints IntKind.u8 a ∧
 (List.replicate 16 ([D.val (Value.int IntKind.u8 0)])) =
 ints IntKind.u8 b ∧
 a.length.le 1000000 ∧ True ∧ (decide (a = b) = true → true = true) ∧ (decide (a = b) = false → False))))))) ∧
 ((okI ((IntKind.i64.wrap a).tmod 8) ∧ b_1.length = 16 → False) →
 PlainS (dns IntKind.u8 c_1) ∧
 (true = true → False) ∧
 (true = false →
 At (otLI (doC z128 l) b i)
 ([V.ptr 0 0, V.ptr 1 0, V.ptr 2 0, V.int IntKind.i64 ((IntKind.i64.wrap a).tmod 8), V.int IntKind.i64 0],
 [KO.cells [V.arr 16 (dns IntKind.u8 b)], KO.cells [V.arr 128 (dns IntKind.u8 (doC c l_1))], KO.cells [V.arr 128 (dns IntKind.u8 c_1)]]) ∧
 ∀ (i_1 : { k // otInv k }),
 (decide ((↑i_1.val : Int) < 8) = true →
 ∃ c,
 dns IntKind.u8 (doC z128 l) = dns IntKind.u8 c ∧
 c.length = 128 ∧
 (okI (↑i_1.val : Int) →
 (∃ c_2,
 dns IntKind.u8 (splice (doC z128 l) (i * 16) b) = dns IntKind.u8 c_2 ∧
 c_2.length = 128 ∧
 (okI (↑i_1.val : Int) →
 At (ocLI (doC z128 l) b i i_1.val)
 ([V.ptr 0 0, V.ptr 1 0, V.ptr 2 0, V.int IntKind.i64 (↑i : Int), V.int IntKind.i64 (↑i_1.val : Int), V.sl 3 0 16, V.sl 4 0 16],
 [KO.cells [V.arr 16 (dns IntKind.u8 b)], KO.cells [V.arr 128 (dns IntKind.u8 c)], KO.cells [V.arr 128 (dns IntKind.u8 c_2)], KO.row 5 1 (ints IntKind.u8 (List.take 16 (List.drop ((↑i_1.val : Int).toNat * 16) c))), KO.row 5 1 (ints IntKind.u8 (List.take 16 (List.drop ((↑i_1.val : Int).toNat * 16) c_2)))])) ∧
 ((okI (↑i_1.val : Int) → False) →
 At (ocLI (doC z128 l) b i i_1.val)
 ([V.ptr 0 0, V.ptr 1 0, V.ptr 2 0, V.int IntKind.i64 (↑i : Int), V.int IntKind.i64 (↑i_1.val : Int), V.sl 3 0 16, V.any (Value.slice none 0 0)],
 [KO.cells [V.arr 16 (dns IntKind.u8 b)], KO.cells [V.arr 128 (dns IntKind.u8 c)], KO.cells [V.arr 128 (dns IntKind.u8 c_2)], KO.row 5 1 (ints IntKind.u8 (List.take 16 (List.drop ((↑i_1.val : Int).toNat * 16) c)))]))) ∧
 ∀ (i_2 : Unit),
 (((↑i_1.val : Int) != (↑i : Int)) = true →
 (16 ≤ (ints IntKind.u8 (part (doC z128 l) i_1.val)).length ∧ 16 ≤ (ints IntKind.u8 (part (splice (doC z128 l) (i * 16) b) i_1.val)).length ∧ True) ∧
 ∃ a b_2,
 List.drop 0 (List.take 16 (ints IntKind.u8 (part (doC z128 l) i_1.val))) = ints IntKind.u8 a ∧
 List.drop 0 (List.take 16 (ints IntKind.u8 (part (splice (doC z128 l) (i * 16) b) i_1.val))) = ints IntKind.u8 b_2 ∧
 a.length.le 1000000 ∧
 True ∧
 ((!decide (a = b_2)) = true → False) ∧
 ((!decide (a = b_2)) = false →
 (((↑i_1.val : Int) == (↑i : Int)) = true →
 True ∧
 True ∧
 0 ≤ 16 ∧
 16 ≤ 16 ∧
 (16 ≤ (ints IntKind.u8 (part (splice (doC z128 l) (i * 16) b) i_1.val)).length ∧ 16 ≤ 16 ∧ True) ∧
 ∃ a b_3,
 List.drop 0 (List.take 16 (ints IntKind.u8 (part (splice (doC z128 l) (i * 16) b) i_1.val))) = ints IntKind.u8 a ∧
 ones (List.take 16 (List.drop 0 (dns IntKind.u8 b))) = ints IntKind.u8 b_3 ∧
 a.length.le 1000000 ∧
 True ∧
 ((!decide (a = b_3)) = true → False) ∧
 ((!decide (a = b_3)) = false →
 Nx (otLI (doC z128 l) b i) i_1
 ([V.ptr 0 0, V.ptr 1 0, V.ptr 2 0, V.int IntKind.i64 (↑i : Int), V.int IntKind.i64 (IntKind.i64.wrap ((↑i_1.val : Int) + 1))],
 [KO.cells [V.arr 16 (dns IntKind.u8 b)], KO.cells [V.arr 128 (dns IntKind.u8 (doC z128 l))], KO.cells [V.arr 128 (dns IntKind.u8 (splice (doC z128 l) (i * 16) b))]]))) ∧
 (((↑i_1.val : Int) == (↑i : Int)) = false →
 Nx (otLI (doC z128 l) b i) i_1
 ([V.ptr 0 0, V.ptr 1 0, V.ptr 2 0, V.int IntKind.i64 (↑i : Int), V.int IntKind.i64 (IntKind.i64.wrap ((↑i_1.val : Int) + 1))], [KO.cells [V.arr 16 (dns IntKind.u8 b)], KO.cells [V.arr 128 (dns IntKind.u8 (doC z128 l))], KO.cells [V.arr 128 (dns IntKind.u8 (splice (doC z128 l) (i * 16) b))]])))) ∧
 (((↑i_1.val : Int) != (↑i : Int)) = false →
 (((↑i_1.val : Int) == (↑i : Int)) = true →
 True ∧
 True ∧
 0 ≤ 16 ∧
 16 ≤ 16 ∧
 (16 ≤ (ints IntKind.u8 (part (splice (doC z128 l) (i * 16) b) i_1.val)).length ∧ 16 ≤ 16 ∧ True) ∧
 ∃ a b_2,
 List.drop 0 (List.take 16 (ints IntKind.u8 (part (splice (doC z128 l) (i * 16) b) i_1.val))) = ints IntKind.u8 a ∧
 ones (List.take 16 (List.drop 0 (dns IntKind.u8 b))) = ints IntKind.u8 b_2 ∧
 a.length.le 1000000 ∧
 True ∧
 ((!decide (a = b_2)) = true → False) ∧
 ((!decide (a = b_2)) = false →
 Nx (otLI (doC z128 l) b i) i_1
 ([V.ptr 0 0, V.ptr 1 0, V.ptr 2 0, V.int IntKind.i64 (↑i : Int), V.int IntKind.i64 (IntKind.i64.wrap ((↑i_1.val : Int) + 1))], [KO.cells [V.arr 16 (dns IntKind.u8 b)], KO.cells [V.arr 128 (dns IntKind.u8 (doC z128 l))], KO.cells [V.arr 128 (dns IntKind.u8 (splice (doC z128 l) (i * 16) b))]]))) ∧
 (((↑i_1.val : Int) == (↑i : Int)) = false →
 Nx (otLI (doC z128 l) b i) i_1 ([V.ptr 0 0, V.ptr 1 0, V.ptr 2 0, V.int IntKind.i64 (↑i : Int), V.int IntKind.i64 (IntKind.i64.wrap ((↑i_1.val : Int) + 1))], [KO.cells [V.arr 16 (dns IntKind.u8 b)], KO.cells [V.arr 128 (dns IntKind.u8 (doC z128 l))], KO.cells [V.arr 128 (dns IntKind.u8 (splice (doC z128 l) (i * 16) b))]])))) ∧
 ((okI (↑i_1.val : Int) → False) →
 (∃ c_2,
 dns IntKind.u8 (splice (doC z128 l) (i * 16) b) = dns IntKind.u8 c_2 ∧
 c_2.length = 128 ∧
 (okI (↑i_1.val : Int) →
 At (ocLI (doC z128 l) b i i_1.val)
 ([V.ptr 0 0, V.ptr 1 0, V.ptr 2 0, V.int IntKind.i64 (↑i : Int), V.int IntKind.i64 (↑i_1.val : Int), V.any (Value.slice none 0 0), V.sl 3 0 16],
 [KO.cells [V.arr 16 (dns IntKind.u8 b)], KO.cells [V.arr 128 (dns IntKind.u8 c)], KO.cells [V.arr 128 (dns IntKind.u8 c_2)], KO.row 5 1 (ints IntKind.u8 (List.take 16 (List.drop ((↑i_1.val : Int).toNat * 16) c_2)))])) ∧
 ((okI (↑i_1.val : Int) → False) →
 At (ocLI (doC z128 l) b i i_1.val) ([V.ptr 0 0, V.ptr 1 0, V.ptr 2 0, V.int IntKind.i64 (↑i : Int), V.int IntKind.i64 (↑i_1.val : Int), V.any (Value.slice none 0 0), V.any (Value.slice none 0 0)], [KO.cells [V.arr 16 (dns IntKind.u8 b)], KO.cells [V.arr 128 (dns IntKind.u8 c)], KO.cells [V.arr 128 (dns IntKind.u8 c_2)]]))) ∧
 ∀ (i_2 : Unit),
 (((↑i_1.val : Int) != (↑i : Int)) = true →
 (16 ≤ (ints IntKind.u8 (part (doC z128 l) i_1.val)).length ∧ 16 ≤ (ints IntKind.u8 (part (splice (doC z128 l) (i * 16) b) i_1.val)).length ∧ True) ∧
 ∃ a b_2,
 List.drop 0 (List.take 16 (ints IntKind.u8 (part (doC z128 l) i_1.val))) = ints IntKind.u8 a ∧
 List.drop 0 (List.take 16 (ints IntKind.u8 (part (splice (doC z128 l) (i * 16) b) i_1.val))) = ints IntKind.u8 b_2 ∧
 a.length.le 1000000 ∧
 True ∧
 ((!decide (a = b_2)) = true → False) ∧
 ((!decide (a = b_2)) = false →
 (((↑i_1.val : Int) == (↑i : Int)) = true →
 True ∧
 True ∧
 0 ≤ 16 ∧
 16 ≤ 16 ∧
 (16 ≤ (ints IntKind.u8 (part (splice (doC z128 l) (i * 16) b) i_1.val)).length ∧ 16 ≤ 16 ∧ True) ∧
 ∃ a b_3,
 List.drop 0 (List.take 16 (ints IntKind.u8 (part (splice (doC z128 l) (i * 16) b) i_1.val))) = ints IntKind.u8 a ∧
 ones (List.take 16 (List.drop 0 (dns IntKind.u8 b))) = ints IntKind.u8 b_3 ∧
 a.length.le 1000000 ∧
 True ∧
 ((!decide (a = b_3)) = true → False) ∧
 ((!decide (a = b_3)) = false →
 Nx (otLI (doC z128 l) b i) i_1
 ([V.ptr 0 0, V.ptr 1 0, V.ptr 2 0, V.int IntKind.i64 (↑i : Int), V.int IntKind.i64 (IntKind.i64.wrap ((↑i_1.val : Int) + 1))],
 [KO.cells [V.arr 16 (dns IntKind.u8 b)], KO.cells [V.arr 128 (dns IntKind.u8 (doC z128 l))], KO.cells [V.arr 128 (dns IntKind.u8 (splice (doC z128 l) (i * 16) b))]]))) ∧
 (((↑i_1.val : Int) == (↑i : Int)) = false →
 Nx (otLI (doC z128 l) b i) i_1
 ([V.ptr 0 0, V.ptr 1 0, V.ptr 2 0, V.int IntKind.i64 (↑i : Int), V.int IntKind.i64 (IntKind.i64.wrap ((↑i_1.val : Int) + 1))], [KO.cells [V.arr 16 (dns IntKind.u8 b)], KO.cells [V.arr 128 (dns IntKind.u8 (doC z128 l))], KO.cells [V.arr 128 (dns IntKind.u8 (splice (doC z128 l) (i * 16) b))]])))) ∧
 (((↑i_1.val : Int) != (↑i : Int)) = false →
 (((↑i_1.val : Int) == (↑i : Int)) = true →
 True ∧
 True ∧
 0 ≤ 16 ∧
 16 ≤ 16 ∧
 (16 ≤ (ints IntKind.u8 (part (splice (doC z128 l) (i * 16) b) i_1.val)).length ∧ 16 ≤ 16 ∧ True) ∧
 ∃ a b_2,
 List.drop 0 (List.take 16 (ints IntKind.u8 (part (splice (doC z128 l) (i * 16) b) i_1.val))) = ints IntKind.u8 a ∧
 ones (List.take 16 (List.drop 0 (dns IntKind.u8 b))) = ints IntKind.u8 b_2 ∧
 a.length.le 1000000 ∧
 True ∧
 ((!decide (a = b_2)) = true → False) ∧
 ((!decide (a = b_2)) = false →
 Nx (otLI (doC z128 l) b i) i_1
 ([V.ptr 0 0, V.ptr 1 0, V.ptr 2 0, V.int IntKind.i64 (↑i : Int), V.int IntKind.i64 (IntKind.i64.wrap ((↑i_1.val : Int) + 1))], [KO.cells [V.arr 16 (dns IntKind.u8 b)], KO.cells [V.arr 128 (dns IntKind.u8 (doC z128 l))], KO.cells [V.arr 128 (dns IntKind.u8 (splice (doC z128 l) (i * 16) b))]]))) ∧
 (((↑i_1.val : Int) == (↑i : Int)) = false →
 Nx (otLI (doC z128 l) b i) i_1
 ([V.ptr 0 0, V.ptr 1 0, V.ptr 2 0, V.int IntKind.i64 (↑i : Int), V.int IntKind.i64 (IntKind.i64.wrap ((↑i_1.val : Int) + 1))], [KO.cells [V.arr 16 (dns IntKind.u8 b)], KO.cells [V.arr 128 (dns IntKind.u8 (doC z128 l))], KO.cells [V.arr 128 (dns IntKind.u8 (splice (doC z128 l) (i * 16) b))]]))))) ∧
 (decide ((↑i_1.val : Int) < 8) = false →
 ∃ c,
 dns IntKind.u8 (splice (doC z128 l) (i * 16) b) = dns IntKind.u8 c ∧
 c.length = 128 ∧
 (okI (↑i : Int) →
 (false = true → False) ∧
 (false = false →
 ∃ c_2,
 dns IntKind.u8 (splice c ((↑i : Int).toNat * 16) [0, 0, 0, 0, 0, 0, 0, 0, 0, 0, 0, 0, 0, 0, 0, 0]) = dns IntKind.u8 c_2 ∧
 c_2.length = 128 ∧
 (okI (↑i : Int) →
 NonN 16 ∧
 Room 16 16 1 ∧
 (16 ≤ (ints IntKind.u8 (List.take 16 (List.drop ((↑i : Int).toNat * 16) c_2))).length ∧ 16 ≤ 16 ∧ True) ∧
 ∃ a b,
 List.drop 0 (List.take 16 (ints IntKind.u8 (List.take 16 (List.drop ((↑i : Int).toNat * 16) c_2)))) = ints IntKind.u8 a ∧
 (List.replicate 16 ([D.val (Value.int IntKind.u8 0)])) =
 ints IntKind.u8 b ∧
 a.length.le 1000000 ∧ True ∧ (decide (a = b) = true → true = true) ∧ (decide (a = b) = false → False)) ∧
 ((okI (↑i : Int) → False) →
 NonN 16 ∧
 Room 16 16 1 ∧
 (True ∧ 16 ≤ 16 ∧ True) ∧
 ∃ a b,
 [] = ints IntKind.u8 a ∧
 (List.replicate 16 ([D.val (Value.int IntKind.u8 0)])) =
 ints IntKind.u8 b ∧
 a.length.le 1000000 ∧ True ∧ (decide (a = b) = true → true = true) ∧ (decide (a = b) = false → False)))) ∧
 ((okI (↑i : Int) → False) →
 (true = true → False) ∧
 (true = false →
 ∃ c_2,
 dns IntKind.u8 c = dns IntKind.u8 c_2 ∧
 c_2.length = 128 ∧
 (okI (↑i : Int) →
 NonN 16 ∧
 Room 16 16 1 ∧
 (16 ≤ (ints IntKind.u8 (List.take 16 (List.drop ((↑i : Int).toNat * 16) c_2))).length ∧ 16 ≤ 16 ∧ True) ∧
 ∃ a b,
 List.drop 0 (List.take 16 (ints IntKind.u8 (List.take 16 (List.drop ((↑i : Int).toNat * 16) c_2)))) = ints IntKind.u8 a ∧
 (List.replicate 16 ([D.val (Value.int IntKind.u8 0)])) =
 ints IntKind.u8 b ∧
 a.length.le 1000000 ∧ True ∧ (decide (a = b) = true → true = true) ∧ (decide (a = b) = false → False)) ∧
 ((okI (↑i : Int) → False) →
 NonN 16 ∧
 Room 16 16 1 ∧
 (True ∧ 16 ≤ 16 ∧ True) ∧
 ∃ a b,
 [] = ints IntKind.u8 a ∧
 (List.replicate 16 ([D.val (Value.int IntKind.u8 0)])) =
 ints IntKind.u8 b ∧
 a.length.le 1000000 ∧ True ∧ (decide (a = b) = true → true = true) ∧ (decide (a = b) = false → False))))))))
 ) : XQ (doC z128 l) b i 3 [.dat (.sl 3 (l.map actR)), .int .u8 a, .agg [.arr 16 (dns .u8 b)]] [] KT := Eq.mp (by kernel_rfl) h
theorem vcPlays (l : List Act)  (h :
 (decide ((↑(List.map actR l).length : Int) > 60) = true → true = true) ∧
 (decide ((↑(List.map actR l).length : Int) > 60) = false →
 At (plLI l)
 ([V.dat (D.sl 3 (List.map actR l)), V.ptr 0 0, V.sl 1 0 128, V.int IntKind.i64 0],
 [KO.cells
 [V.arr 128
 (List.replicate 128 (D.val (Value.int IntKind.u8 0)))],
 KO.row 5 1
 (List.replicate 128 ([D.val (Value.int IntKind.u8 0)]))]) ∧
 ∀ (i : { p // plInv l.length p }),
 (decide ((↑i.val.snd : Int) < (↑(List.map actR l).length : Int)) = true →
 NonN (↑i.val.snd : Int) ∧
 ∃ e,
 (List.map actR l)[(↑i.val.snd : Int).toNat]? = some e ∧
 ∃ n,
 e[0]? = some (D.val (Value.int IntKind.i64 n)) ∧
 ∃ n_1,
 e[1]? = some (D.val (Value.int IntKind.i64 n_1)) ∧
 ∃ l_1,
 e[2]? = some (D.sl 1 l_1) ∧
 (decide ((↑l_1.length : Int) > 20) = true → true = true) ∧
 (decide ((↑l_1.length : Int) > 20) = false →
 (((n == 0) = true →
 ∃ a b,
 ints IntKind.u8 i.val.fst = ints IntKind.u8 a ∧
 a.length = 128 ∧
 l_1 = ints IntKind.u8 b ∧
 (okI n_1 ∧ b.length = 16 →
 ∃ c b_1,
 dns IntKind.u8 i.val.fst = dns IntKind.u8 c ∧
 l_1 = ints IntKind.u8 b_1 ∧
 c.length = 128 ∧
 (okI n_1 ∧ b_1.length = 16 →
 (false = true → False) ∧
 (false = false →
 At (pcLI l i.val.snd)
 ([V.dat (D.sl 3 (List.map actR l)), V.ptr 0 0, V.sl 1 0 128, V.int IntKind.i64 (↑i.val.snd : Int), V.ptr 2 0], [KO.cells [V.arr 128 (dns IntKind.u8 (splice c (n_1.toNat * 16) b_1))], KO.row 5 1 (ints IntKind.u8 (splice a (n_1.toNat * 16) b)), KO.cells [V.int IntKind.i64 n, V.int IntKind.i64 n_1, V.dat (D.sl 1 l_1)]]))) ∧
 ((okI n_1 ∧ b_1.length = 16 → False) →
 (true = true → False) ∧
 (true = false → At (pcLI l i.val.snd) ([V.dat (D.sl 3 (List.map actR l)), V.ptr 0 0, V.sl 1 0 128, V.int IntKind.i64 (↑i.val.snd : Int), V.ptr 2 0], [KO.cells [V.arr 128 (dns IntKind.u8 c)], KO.row 5 1 (ints IntKind.u8 (splice a (n_1.toNat * 16) b)), KO.cells [V.int IntKind.i64 n, V.int IntKind.i64 n_1, V.dat (D.sl 1 l_1)]])))) ∧
 ((okI n_1 ∧ b.length = 16 → False) →
 ∃ c b,
 dns IntKind.u8 i.val.fst = dns IntKind.u8 c ∧
 l_1 = ints IntKind.u8 b ∧
 c.length = 128 ∧
 (okI n_1 ∧ b.length = 16 →
 (true = true → False) ∧
 (true = false → At (pcLI l i.val.snd) ([V.dat (D.sl 3 (List.map actR l)), V.ptr 0 0, V.sl 1 0 128, V.int IntKind.i64 (↑i.val.snd : Int), V.ptr 2 0], [KO.cells [V.arr 128 (dns IntKind.u8 (splice c (n_1.toNat * 16) b))], KO.row 5 1 (ints IntKind.u8 a), KO.cells [V.int IntKind.i64 n, V.int IntKind.i64 n_1, V.dat (D.sl 1 l_1)]]))) ∧
 ((okI n_1 ∧ b.length = 16 → False) →
 (false = true → False) ∧ (false = false → At (pcLI l i.val.snd) ([V.dat (D.sl 3 (List.map actR l)), V.ptr 0 0, V.sl 1 0 128, V.int IntKind.i64 (↑i.val.snd : Int), V.ptr 2 0], [KO.cells [V.arr 128 (dns IntKind.u8 c)], KO.row 5 1 (ints IntKind.u8 a), KO.cells [V.int IntKind.i64 n, V.int IntKind.i64 n_1, V.dat (D.sl 1 l_1)]]))))) ∧
 ((n == 0) = false →
 ((n == 1) = true →
 ∃ a,
 ints IntKind.u8 i.val.fst = ints IntKind.u8 a ∧
 a.length = 128 ∧
 (okI n_1 →
 ∃ c,
 dns IntKind.u8 i.val.fst = dns IntKind.u8 c ∧
 c.length = 128 ∧
 (okI n_1 →
 (false = true → False) ∧
 (false = false →
 At (pcLI l i.val.snd)
 ([V.dat (D.sl 3 (List.map actR l)), V.ptr 0 0, V.sl 1 0 128, V.int IntKind.i64 (↑i.val.snd : Int), V.ptr 2 0],
 [KO.cells [V.arr 128 (dns IntKind.u8 (splice c (n_1.toNat * 16) [0, 0, 0, 0, 0, 0, 0, 0, 0, 0, 0, 0, 0, 0, 0, 0]))], KO.row 5 1 (ints IntKind.u8 (splice a (n_1.toNat * 16) [0, 0, 0, 0, 0, 0, 0, 0, 0, 0, 0, 0, 0, 0, 0, 0])), KO.cells [V.int IntKind.i64 n, V.int IntKind.i64 n_1, V.dat (D.sl 1 l_1)]]))) ∧
 ((okI n_1 → False) →
 (true = true → False) ∧
 (true = false →
 At (pcLI l i.val.snd)
 ([V.dat (D.sl 3 (List.map actR l)), V.ptr 0 0, V.sl 1 0 128, V.int IntKind.i64 (↑i.val.snd : Int), V.ptr 2 0],
 [KO.cells [V.arr 128 (dns IntKind.u8 c)], KO.row 5 1 (ints IntKind.u8 (splice a (n_1.toNat * 16) [0, 0, 0, 0, 0, 0, 0, 0, 0, 0, 0, 0, 0, 0, 0, 0])), KO.cells [V.int IntKind.i64 n, V.int IntKind.i64 n_1, V.dat (D.sl 1 l_1)]])))) ∧
 ((okI n_1 → False) →
 ∃ c,
 dns IntKind.u8 i.val.fst = dns IntKind.u8 c ∧
 c.length = 128 ∧
 (okI n_1 →
 (true = true → False) ∧
 (true = false →
 At (pcLI l i.val.snd)
 ([V.dat (D.sl 3 (List.map actR l)), V.ptr 0 0, V.sl 1 0 128, V.int IntKind.i64 (↑i.val.snd : Int), V.ptr 2 0],
 [KO.cells [V.arr 128 (dns IntKind.u8 (splice c (n_1.toNat * 16) [0, 0, 0, 0, 0, 0, 0, 0, 0, 0, 0, 0, 0, 0, 0, 0]))], KO.row 5 1 (ints IntKind.u8 a), KO.cells [V.int IntKind.i64 n, V.int IntKind.i64 n_1, V.dat (D.sl 1 l_1)]]))) ∧
 ((okI n_1 → False) →
 (false = true → False) ∧ (false = false → At (pcLI l i.val.snd) ([V.dat (D.sl 3 (List.map actR l)), V.ptr 0 0, V.sl 1 0 128, V.int IntKind.i64 (↑i.val.snd : Int), V.ptr 2 0], [KO.cells [V.arr 128 (dns IntKind.u8 c)], KO.row 5 1 (ints IntKind.u8 a), KO.cells [V.int IntKind.i64 n, V.int IntKind.i64 n_1, V.dat (D.sl 1 l_1)]]))))) ∧
 ((n == 1) = false →
 ((n == 2) = true →
 ∃ c,
 dns IntKind.u8 i.val.fst = dns IntKind.u8 c ∧
 c.length = 128 ∧
 (∀ (c_1 : Int), List.Mem c_1 c → 0 ≤ c_1 ∧ c_1 < 256) ∧
 (132 ≤ (ints IntKind.u8 (sealI c)).length ∧ True) ∧
 ∃ l_2,
 List.drop 0 (List.take 132 (ints IntKind.u8 (sealI c))) = ints IntKind.u8 l_2 ∧
 (∀ (c : Int), List.Mem c l_2 → 0 ≤ c ∧ c < 256) ∧
 l_2.length ≤ 900000 ∧
 (∀ (m : List Int),
 openI l_2 = some m →
 m.length = 128 →
 PlainS (dns IntKind.u8 m) ∧
 (false = true → False) ∧
 (false = false → At (pcLI l i.val.snd) ([V.dat (D.sl 3 (List.map actR l)), V.ptr 0 0, V.sl 1 0 128, V.int IntKind.i64 (↑i.val.snd : Int), V.ptr 2 0], [KO.cells [V.arr 128 (dns IntKind.u8 m)], KO.row 5 1 (ints IntKind.u8 i.val.fst), KO.cells [V.int IntKind.i64 n, V.int IntKind.i64 n_1, V.dat (D.sl 1 l_1)]]))) ∧
 ((∀ (m : List Int), openI l_2 = some m → m.length = 128 → False) →
 PlainS
 (List.replicate 128 (D.val (Value.int IntKind.u8 0))) ∧
 (true = true → False) ∧
 (true = false →
 At (pcLI l i.val.snd)
 ([V.dat (D.sl 3 (List.map actR l)), V.ptr 0 0, V.sl 1 0 128, V.int IntKind.i64 (↑i.val.snd : Int), V.ptr 2 0],
 [KO.cells
 [V.arr 128
 (List.replicate 128 (D.val (Value.int IntKind.u8 0)))],
 KO.row 5 1 (ints IntKind.u8 i.val.fst), KO.cells [V.int IntKind.i64 n, V.int IntKind.i64 n_1, V.dat (D.sl 1 l_1)]])))) ∧
 ((n == 2) = false → At (pcLI l i.val.snd) ([V.dat (D.sl 3 (List.map actR l)), V.ptr 0 0, V.sl 1 0 128, V.int IntKind.i64 (↑i.val.snd : Int), V.ptr 2 0], [KO.cells [V.arr 128 (dns IntKind.u8 i.val.fst)], KO.row 5 1 (ints IntKind.u8 i.val.fst), KO.cells [V.int IntKind.i64 n, V.int IntKind.i64 n_1, V.dat (D.sl 1 l_1)]]))))) ∧
 ∀ (i_1 : { p // plC l i.val.snd p }),
 ∃ c,
 dns IntKind.u8 i_1.val.fst = dns IntKind.u8 c ∧
 c.length = 128 ∧
 (okI i_1.val.snd.snd.fst →
 (okI i_1.val.snd.snd.fst →
 (false = true → False) ∧
 (false = false →
 (16 ≤ (ints IntKind.u8 (List.take 16 (List.drop (i_1.val.snd.snd.fst.toNat * 16) c))).length ∧ i_1.val.snd.snd.fst.toNat * 16 + 16 ≤ (ints IntKind.u8 i_1.val.fst).length ∧ True) ∧
 ∃ a b,
 List.drop 0 (List.take 16 (ints IntKind.u8 (List.take 16 (List.drop (i_1.val.snd.snd.fst.toNat * 16) c)))) = ints IntKind.u8 a ∧
 List.drop (i_1.val.snd.snd.fst.toNat * 16) (List.take (i_1.val.snd.snd.fst.toNat * 16 + 16) (ints IntKind.u8 i_1.val.fst)) = ints IntKind.u8 b ∧
 a.length.le 1000000 ∧
 True ∧
 ((!decide (a = b)) = true → False) ∧
 ((!decide (a = b)) = false →
 ∃ c_1,
 dns IntKind.u8 c = dns IntKind.u8 c_1 ∧
 c_1.length = 128 ∧
 (∀ (c : Int), List.Mem c c_1 → 0 ≤ c ∧ c < 256) ∧
 (128 ≤ (ints IntKind.u8 i_1.val.fst).length ∧ True) ∧
 ∃ l_2,
 List.drop 0 (List.take 128 (ints IntKind.u8 i_1.val.fst)) = ints IntKind.u8 l_2 ∧
 (∀ (c : Int), List.Mem c l_2 → 0 ≤ c ∧ c < 256) ∧
 l_2.length.le 1000000 ∧
 True ∧
 ((crcI c_1 != crcI l_2) = true → False) ∧
 ((crcI c_1 != crcI l_2) = false →
 ∃ c,
 dns IntKind.u8 c_1 = dns IntKind.u8 c ∧
 c.length = 128 ∧
 (∀ (c_2 : Int), List.Mem c_2 c → 0 ≤ c_2 ∧ c_2 < 256) ∧
 (128 ≤ (ints IntKind.u8 i_1.val.fst).length ∧ True) ∧
 ∃ l_3,
 List.drop 0 (List.take 128 (ints IntKind.u8 i_1.val.fst)) = ints IntKind.u8 l_3 ∧
 (∀ (c : Int), List.Mem c l_3 → 0 ≤ c ∧ c < 256) ∧
 l_3.length ≤ 900000 ∧
 PlainS (ints IntKind.u8 (sealI l_3)).flatten ∧
 (132 ≤ (ints IntKind.u8 (sealI c)).length ∧ l_3.length + 4 ≤ (ints IntKind.u8 (sealI l_3)).length ∧ True) ∧
 ∃ a b,
 List.drop 0 (List.take 132 (ints IntKind.u8 (sealI c))) = ints IntKind.u8 a ∧
 List.drop 0 (List.take (l_3.length + 4) (ints IntKind.u8 (sealI l_3))) = ints IntKind.u8 b ∧
 a.length.le 1000000 ∧
 True ∧
 ((!decide (a = b)) = true → False) ∧
 ((!decide (a = b)) = false → Nx (plLI l) i ([V.dat (D.sl 3 (List.map actR l)), V.ptr 0 0, V.sl 1 0 128, V.int IntKind.i64 (IntKind.i64.wrap ((↑i.val.snd : Int) + 1))], [KO.cells [V.arr 128 (dns IntKind.u8 c)], KO.row 5 1 (ints IntKind.u8 i_1.val.fst)])))))) ∧
 ((okI i_1.val.snd.snd.fst → False) →
 (true = true → False) ∧
 (true = false →
 (16 ≤ (ints IntKind.u8 (List.take 16 (List.drop (i_1.val.snd.snd.fst.toNat * 16) c))).length ∧ True ∧ True) ∧
 ∃ a b,
 List.drop 0 (List.take 16 (ints IntKind.u8 (List.take 16 (List.drop (i_1.val.snd.snd.fst.toNat * 16) c)))) = ints IntKind.u8 a ∧
 [] = ints IntKind.u8 b ∧
 a.length.le 1000000 ∧
 True ∧
 ((!decide (a = b)) = true → False) ∧
 ((!decide (a = b)) = false →
 ∃ c_1,
 dns IntKind.u8 c = dns IntKind.u8 c_1 ∧
 c_1.length = 128 ∧
 (∀ (c : Int), List.Mem c c_1 → 0 ≤ c ∧ c < 256) ∧
 (128 ≤ (ints IntKind.u8 i_1.val.fst).length ∧ True) ∧
 ∃ l_2,
 List.drop 0 (List.take 128 (ints IntKind.u8 i_1.val.fst)) = ints IntKind.u8 l_2 ∧
 (∀ (c : Int), List.Mem c l_2 → 0 ≤ c ∧ c < 256) ∧
 l_2.length.le 1000000 ∧
 True ∧
 ((crcI c_1 != crcI l_2) = true → False) ∧
 ((crcI c_1 != crcI l_2) = false →
 ∃ c,
 dns IntKind.u8 c_1 = dns IntKind.u8 c ∧
 c.length = 128 ∧
 (∀ (c_2 : Int), List.Mem c_2 c → 0 ≤ c_2 ∧ c_2 < 256) ∧
 (128 ≤ (ints IntKind.u8 i_1.val.fst).length ∧ True) ∧
 ∃ l_3,
 List.drop 0 (List.take 128 (ints IntKind.u8 i_1.val.fst)) = ints IntKind.u8 l_3 ∧
 (∀ (c : Int), List.Mem c l_3 → 0 ≤ c ∧ c < 256) ∧
 l_3.length ≤ 900000 ∧
 PlainS (ints IntKind.u8 (sealI l_3)).flatten ∧
 (132 ≤ (ints IntKind.u8 (sealI c)).length ∧ l_3.length + 4 ≤ (ints IntKind.u8 (sealI l_3)).length ∧ True) ∧
 ∃ a b,
 List.drop 0 (List.take 132 (ints IntKind.u8 (sealI c))) = ints IntKind.u8 a ∧
 List.drop 0 (List.take (l_3.length + 4) (ints IntKind.u8 (sealI l_3))) = ints IntKind.u8 b ∧
 a.length.le 1000000 ∧
 True ∧
 ((!decide (a = b)) = true → False) ∧
 ((!decide (a = b)) = false → Nx (plLI l) i ([V.dat (D.sl 3 (List.map actR l)), V.ptr 0 0, V.sl 1 0 128, V.int IntKind.i64 (IntKind.i64.wrap ((↑i.val.snd : Int) + 1))], [KO.cells [V.arr 128 (dns IntKind.u8 c)], KO.row 5 1 (ints IntKind.u8 i_1.val.fst)]))))))) ∧
 ((okI i_1.val.snd.snd.fst → False) →
 (okI i_1.val.snd.snd.fst →
 (true = true → False) ∧
 (true = false →
 (True ∧ i_1.val.snd.snd.fst.toNat * 16 + 16 ≤ (ints IntKind.u8 i_1.val.fst).length ∧ True) ∧
 ∃ a b,
 [] = ints IntKind.u8 a ∧
 List.drop (i_1.val.snd.snd.fst.toNat * 16) (List.take (i_1.val.snd.snd.fst.toNat * 16 + 16) (ints IntKind.u8 i_1.val.fst)) = ints IntKind.u8 b ∧
 a.length.le 1000000 ∧
 True ∧
 ((!decide (a = b)) = true → False) ∧
 ((!decide (a = b)) = false →
 ∃ c_1,
 dns IntKind.u8 c = dns IntKind.u8 c_1 ∧
 c_1.length = 128 ∧
 (∀ (c : Int), List.Mem c c_1 → 0 ≤ c ∧ c < 256) ∧
 (128 ≤ (ints IntKind.u8 i_1.val.fst).length ∧ True) ∧
 ∃ l_2,
 List.drop 0 (List.take 128 (ints IntKind.u8 i_1.val.fst)) = ints IntKind.u8 l_2 ∧
 (∀ (c : Int), List.Mem c l_2 → 0 ≤ c ∧ c < 256) ∧
 l_2.length.le 1000000 ∧
 True ∧
 ((crcI c_1 != crcI l_2) = true → False) ∧
 ((crcI c_1 != crcI l_2) = false →
 ∃ c,
 dns IntKind.u8 c_1 = dns IntKind.u8 c ∧
 c.length = 128 ∧
 (∀ (c_2 : Int), List.Mem c_2 c → 0 ≤ c_2 ∧ c_2 < 256) ∧
 (128 ≤ (ints IntKind.u8 i_1.val.fst).length ∧ True) ∧
 ∃ l_3,
 List.drop 0 (List.take 128 (ints IntKind.u8 i_1.val.fst)) = ints IntKind.u8 l_3 ∧
 (∀ (c : Int), List.Mem c l_3 → 0 ≤ c ∧ c < 256) ∧
 l_3.length ≤ 900000 ∧
 PlainS (ints IntKind.u8 (sealI l_3)).flatten ∧
 (132 ≤ (ints IntKind.u8 (sealI c)).length ∧ l_3.length + 4 ≤ (ints IntKind.u8 (sealI l_3)).length ∧ True) ∧
 ∃ a b,
 List.drop 0 (List.take 132 (ints IntKind.u8 (sealI c))) = ints IntKind.u8 a ∧
 List.drop 0 (List.take (l_3.length + 4) (ints IntKind.u8 (sealI l_3))) = ints IntKind.u8 b ∧
 a.length.le 1000000 ∧
 True ∧
 ((!decide (a = b)) = true → False) ∧
 ((!decide (a = b)) = false → Nx (plLI l) i ([V.dat (D.sl 3 (List.map actR l)), V.ptr 0 0, V.sl 1 0 128, V.int IntKind.i64 (IntKind.i64.wrap ((↑i.val.snd : Int) + 1))], [KO.cells [V.arr 128 (dns IntKind.u8 c)], KO.row 5 1 (ints IntKind.u8 i_1.val.fst)])))))) ∧
 ((okI i_1.val.snd.snd.fst → False) →
 (false = true → False) ∧
 (false = false →
 ∃ a b,
 [] = ints IntKind.u8 a ∧
 [] = ints IntKind.u8 b ∧
 a.length.le 1000000 ∧
 ((!decide (a = b)) = true → False) ∧
 ((!decide (a = b)) = false →
 ∃ c_1,
 dns IntKind.u8 c = dns IntKind.u8 c_1 ∧
 c_1.length = 128 ∧
 (∀ (c : Int), List.Mem c c_1 → 0 ≤ c ∧ c < 256) ∧
 (128 ≤ (ints IntKind.u8 i_1.val.fst).length ∧ True) ∧
 ∃ l_2,
 List.drop 0 (List.take 128 (ints IntKind.u8 i_1.val.fst)) = ints IntKind.u8 l_2 ∧
 (∀ (c : Int), List.Mem c l_2 → 0 ≤ c ∧ c < 256) ∧
 l_2.length.le 1000000 ∧
 True ∧
 ((crcI c_1 != crcI l_2) = true → False) ∧
 ((crcI c_1 != crcI l_2) = false →
 ∃ c,
 dns IntKind.u8 c_1 = dns IntKind.u8 c ∧
 c.length = 128 ∧
 (∀ (c_2 : Int), List.Mem c_2 c → 0 ≤ c_2 ∧ c_2 < 256) ∧
 (128 ≤ (ints IntKind.u8 i_1.val.fst).length ∧ True) ∧
 ∃ l_3,
 List.drop 0 (List.take 128 (ints IntKind.u8 i_1.val.fst)) = ints IntKind.u8 l_3 ∧
 (∀ (c : Int), List.Mem c l_3 → 0 ≤ c ∧ c < 256) ∧
 l_3.length ≤ 900000 ∧
 PlainS (ints IntKind.u8 (sealI l_3)).flatten ∧
 (132 ≤ (ints IntKind.u8 (sealI c)).length ∧ l_3.length + 4 ≤ (ints IntKind.u8 (sealI l_3)).length ∧ True) ∧
 ∃ a b,
 List.drop 0 (List.take 132 (ints IntKind.u8 (sealI c))) = ints IntKind.u8 a ∧
 List.drop 0 (List.take (l_3.length + 4) (ints IntKind.u8 (sealI l_3))) = ints IntKind.u8 b ∧
 a.length.le 1000000 ∧
 True ∧
 ((!decide (a = b)) = true → False) ∧
 ((!decide (a = b)) = false → Nx (plLI l) i ([V.dat (D.sl 3 (List.map actR l)), V.ptr 0 0, V.sl 1 0 128, V.int IntKind.i64 (IntKind.i64.wrap ((↑i.val.snd : Int) + 1))], [KO.cells [V.arr 128 (dns IntKind.u8 c)], KO.row 5 1 (ints IntKind.u8 i_1.val.fst)]))))))))) ∧
 (decide ((↑i.val.snd : Int) < (↑(List.map actR l).length : Int)) = false → true = true))
 ) : XP l 5 [.dat (.sl 3 (l.map actR))] [] KT := Eq.mp (by kernel_rfl) h
theorem splice_len8 {c b : List Int} {o : Nat} (hc : c.length = 128) (ho : o < 8) (hb : b.length = 16) : (splice c (o * 16) b).length = 128 := by
  unfold splice; simp; omega
theorem dxa {c : List Int} {o : Nat} : List.drop 0 (List.take 16 (ints .u8 (List.take 16 (List.drop o c)))) = ints .u8 (List.take 16 (List.drop o c)) := by
  rw [List.drop_zero, ints_take, List.take_take, Nat.min_self]
theorem dxb {c : List Int} {o : Nat} : List.drop o (List.take (o + 16) (ints .u8 c)) = ints .u8 (List.take 16 (List.drop o c)) := by
  rw [List.drop_take, ints_drop, ints_take, Nat.add_sub_cancel_left]
theorem d128 {c : List Int} (h : c.length = 128) : List.drop 0 (List.take 128 (ints .u8 c)) = ints .u8 c := by
  rw [List.drop_zero]; exact List.take_of_length_le (by rw [ints_len]; omega)
theorem plTail (l : List Act) (i : Nat) (hi : i < l.length) (h60 : l.length ≤ 60) {c : List Int} (hc : c.length = 128) (hb : Byt c) {q : {p // plInv l.length p}} (hq : q.1.2 = i) :
    Nx (plLI l) q ([V.dat (D.sl 3 (List.map actR l)), V.ptr 0 0, V.sl 1 0 128, V.int IntKind.i64 (IntKind.i64.wrap ((i : Int) + 1))], [KO.cells [V.arr 128 (dns IntKind.u8 c)], KO.row 5 1 (ints IntKind.u8 c)]) := by
  obtain ⟨⟨c0, i0⟩, h1, h2, h3⟩ := q
  simp only at hq
  subst hq
  by_cases h60 : i0 < 9223372036854775806
  · rw [w64 (by omega) (by omega)]
    exact Nx.mk' (⟨(c, i0 + 1), hc, hb, by show i0 + 1 ≤ l.length; omega⟩ : {p : List Int × Nat // plInv l.length p}) rfl (by show l.length - (i0 + 1) < l.length - i0; omega)
  · omega
theorem lawPlays (l : List Act) (hl : ∀ a ∈ l, actB a) : XP l 5 [.dat (.sl 3 (l.map actR))] [] KT := by
  refine vcPlays l ⟨fun _ => rfl, fun h1 => ⟨At.mk' ⟨(z128, 0), rfl, bytZ, Nat.zero_le _⟩ rfl, ?_⟩⟩
  simp only [List.length_map, decide_eq_false_iff_not] at h1
  rintro ⟨⟨c0, i⟩, hc0, hb0, hi⟩
  simp only [List.length_map, decide_eq_true_eq] at hc0 hb0 hi ⊢

  refine ⟨fun hx => ⟨by unfold NonN; omega, ?_⟩, fun _ => trivial⟩
  have hil : i < l.length := by omega
  obtain ⟨a, ha⟩ : ∃ a, l[i]? = some a := ⟨_, List.getElem?_eq_getElem hil⟩
  have hab : actB a := hl a (List.mem_of_getElem? ha)
  have cut : ∀ c' : List Int, c'.length = 128 → Byt c' → At (pcLI l i) ([V.dat (D.sl 3 (List.map actR l)), V.ptr 0 0, V.sl 1 0 128, V.int IntKind.i64 (i : Int), V.ptr 2 0],
    [KO.cells [V.arr 128 (dns IntKind.u8 c')], KO.row 5 1 (ints IntKind.u8 c'), KO.cells [V.int IntKind.i64 a.1, V.int IntKind.i64 a.2.1, V.dat (D.sl 1 (ints .u8 a.2.2))]]) := fun c' h h' => At.mk' ⟨(c', a), h, h', ha⟩ rfl
  refine ⟨actR a, by rw [Int.toNat_natCast, List.getElem?_map, ha]; rfl, a.1, rfl, a.2.1, rfl, ints .u8 a.2.2, rfl, fun _ => trivial, fun h20 => ⟨⟨fun h0 => ?_, fun h0 => ⟨fun h1' => ?_, fun h1' => ⟨fun h2 => ?_, fun h2 => cut c0 hc0 hb0⟩⟩⟩, ?_⟩⟩
  · refine ⟨c0, a.2.2, rfl, hc0, rfl, fun hok => ⟨c0, a.2.2, rfl, rfl, hc0, fun _ => ⟨fun h => (by cases h), fun _ => cut _ (splice_len8 hc0 (by have := hok.1.1; have := hok.1.2; omega) hok.2) (splice_byt hb0 hab)⟩, fun hn => (hn hok).elim⟩,
      fun hn => ⟨c0, a.2.2, rfl, rfl, hc0, fun hok => (hn hok).elim, fun _ => ⟨fun h => (by cases h), fun _ => cut c0 hc0 hb0⟩⟩⟩
  · exact ⟨c0, rfl, hc0, fun hok => ⟨c0, rfl, hc0, fun _ => ⟨fun h => (by cases h), fun _ => cut _ (splice_len8 hc0 (by have := hok.1; have := hok.2; omega) rfl) (splice_byt hb0 byt_z16)⟩, fun hn => (hn hok).elim⟩,
      fun hn => ⟨c0, rfl, hc0, fun hok => (hn hok).elim, fun _ => ⟨fun h => (by cases h), fun _ => cut c0 hc0 hb0⟩⟩⟩
  · exact ⟨c0, rfl, hc0, hb0, ⟨by rw [ints_len, sealI_len]; omega, trivial⟩, sealI c0, dseal2 hc0, sealI_byt hb0, by rw [sealI_len]; omega, fun m hm hm2 => by
      rw [openI_seal] at hm; cases hm
      exact ⟨⟨plain_dns⟩, fun h => (by cases h), fun _ => cut c0 hc0 hb0⟩, fun hn => (hn c0 openI_seal hc0).elim⟩
  · rintro ⟨⟨c, a'⟩, hc, hb, ha'⟩
    simp only at hc hb ha' ⊢
    have nx := plTail l i hil (by omega) hc hb (q := ⟨(c0, i), hc0, hb0, hi⟩) rfl
    have hbm : ∀ d, List.Mem d c → 0 ≤ d ∧ d < 256 := hb
    have hbs : ∀ d, List.Mem d (sealI c) → 0 ≤ d ∧ d < 256 := sealI_byt hb
    have hp : ∀ m : List Int, PlainS (ints .u8 m).flatten := fun m => ⟨plain_ints⟩
    simp only [ints_iff, dns_iff, nil_ints, dseal, dxa, dxb, d128 hc, dseal2 hc, exists_eq_left', exists_eq_left, hc, ints_len, sealI_len, Nat.le_refl, hp, decide_true, true_and, true_implies, and_true, reduceCtorEq, false_implies, implies_true, forall_const, bne_self_eq_false, Bool.not_true, Bool.true_eq_false, Bool.false_eq_true, not_true, not_false_eq_true]
    have hq : (sealI c).length.le 1000000 := by show (sealI c).length ≤ 1000000; rw [sealI_len]; omega
    have h128 : Nat.le 128 1000000 := by show 128 ≤ 1000000; omega
    have T : (∀ (c_1 : Int), List.Mem c_1 c → 0 ≤ c_1 ∧ c_1 < 256) ∧ (∀ (c_1 : Int), List.Mem c_1 c → 0 ≤ c_1 ∧ c_1 < 256) ∧ Nat.le 128 1000000 ∧ (∀ (c_1 : Int), List.Mem c_1 c → 0 ≤ c_1 ∧ c_1 < 256) ∧
        (∀ (c_1 : Int), List.Mem c_1 c → 0 ≤ c_1 ∧ c_1 < 256) ∧ 128 ≤ 900000 ∧ ∃ a b, sealI c = a ∧ sealI c = b ∧ a.length.le 1000000 ∧ ((!decide (a = b)) = true → False) ∧ ((!decide (a = b)) = false → _) :=
      ⟨hbm, hbm, h128, hbm, hbm, by omega, sealI c, sealI c, rfl, rfl, hq, fun f => by simp at f, fun _ => nx⟩
    by_cases hok : okI a'.2.1
    · obtain ⟨k1, k2⟩ := hok
      simp only [List.drop_zero, List.take_take, Nat.min_self]
      refine ⟨fun _ => ⟨fun _ => ⟨⟨by simp; omega, by omega⟩, _, _, rfl, rfl, by show (List.take 16 (List.drop (a'.2.1.toNat * 16) c)).length ≤ 1000000; simp; omega, fun f => by simp at f, fun _ => T⟩, fun hn => (hn ⟨k1, k2⟩).elim⟩, fun hn => (hn ⟨k1, k2⟩).elim⟩
    · refine ⟨fun h => (hok h).elim, fun _ => ⟨fun h => (hok h).elim, fun _ => ?_⟩⟩
      have hz : ([] : List Int).length.le 1000000 := Nat.zero_le _
      exact ⟨[], [], rfl, rfl, hz, fun f => by simp at f, fun _ => T⟩
theorem part_get {c : List Int} {k j : Nat} : (part c k)[j]? = if j < 16 then c[k * 16 + j]? else none := by
  unfold part; rw [List.getElem?_take]; split
  · rw [List.getElem?_drop]
  · rfl
theorem part_other {c b : List Int} {i k : Nat} (hc : c.length = 128) (hb : b.length = 16) (hi : i < 8) (h : k ≠ i) : part (splice c (i * 16) b) k = part c k := by
  apply List.ext_getElem?
  intro j
  rw [part_get, part_get]
  split
  · rw [get_splice (by omega)]
    split
    · rfl
    · rw [if_neg (by omega)]
  · rfl
theorem part_same {c b : List Int} {i : Nat} (hc : c.length = 128) (hb : b.length = 16) (hi : i < 8) : part (splice c (i * 16) b) i = b := by
  apply List.ext_getElem?
  intro j
  rw [part_get]
  split
  · rw [get_splice (by omega), if_neg (by omega), if_pos (by omega)]
    congr 1
    omega
  · exact (List.getElem?_eq_none (by omega)).symm
theorem part_len {c : List Int} {k : Nat} (hc : c.length = 128) (hk : k < 8) : (part c k).length = 16 := by unfold part; simp; omega
theorem le_mil {n : Nat} (h : n ≤ 900000) : n.le 1000000 := by show n ≤ 1000000; omega
theorem d16 {b : List Int} (hb : b.length = 16) : List.drop 0 (List.take 16 (ints .u8 b)) = ints .u8 b := by
  rw [List.drop_zero]; exact List.take_of_length_le (by rw [ints_len]; omega)
theorem ones16 {b : List Int} (hb : b.length = 16) : ones (List.take 16 (List.drop 0 (dns .u8 b))) = ints .u8 b := by
  rw [List.drop_zero, List.take_of_length_le (by rw [dns_len]; omega), ones_dns]
theorem lawOthers (l : List Act) (a : Int) (b : List Int) (hl : ∀ x ∈ l, actB x) (ha : 0 ≤ a ∧ a < 256) (hb : b.length = 16) : XQ (doC z128 l) b (a.toNat % 8) 3 [.dat (.sl 3 (l.map actR)), .int .u8 a, .agg [.arr 16 (dns .u8 b)]] [] KT := by
  refine vcOthers l a b (a.toNat % 8) ?_
  have hi : a.toNat % 8 < 8 := Nat.mod_lt _ (by decide)
  have hw : (IntKind.i64.wrap a).tmod 8 = ((a.toNat % 8 : Nat) : Int) := by
    rw [w64 (by omega) (by omega), Int.tmod_eq_emod_of_nonneg (by omega)]; omega
  rw [hw]
  clear hw
  generalize a.toNat % 8 = i at hi ⊢
  have ci : (doC z128 l).length = 128 := doC_len rfl
  refine ⟨fun _ => rfl, fun h1 => ?_⟩
  simp only [List.length_map, decide_eq_false_iff_not] at h1
  have hc := ci
  refine ⟨z128, l, rfl, rfl, rfl, by omega, trivial, trivial, by omega, by omega, ⟨by omega, trivial⟩, doC z128 l, b, rfl, ones16 hb, hc, fun hok => ⟨⟨plain_dns⟩, fun h => (by cases h), fun _ => ⟨At.mk' ⟨0, Nat.zero_le _⟩ rfl, ?_⟩⟩,
    fun hn => (hn ⟨⟨by omega, by omega⟩, hb⟩).elim⟩
  have hs : (splice (doC z128 l) (i * 16) b).length = 128 := splice_len8 hc hi hb
  rintro ⟨k, hk⟩
  simp only at hk ⊢
  unfold otInv at hk
  refine ⟨fun hlt => ⟨_, rfl, hc, fun hok2 => ⟨⟨_, rfl, hs, fun _ => At.mk' () rfl, fun hn => (hn hok2).elim⟩, fun _ => ⟨fun hne => ?_, fun heq => ?_⟩⟩, fun hn => ?_⟩, fun hge => ?_⟩
  · simp only [decide_eq_true_eq] at hlt
    have hki : k ≠ i := fun e => by subst e; simp at hne
    have hk8 : k < 8 := by omega
    refine ⟨⟨by rw [ints_len, part_len hc hk8]; omega, by rw [ints_len, part_len hs hk8]; omega, trivial⟩, _, _, d16 (part_len hc hk8), d16 (part_len hs hk8), le_mil (by rw [part_len hc hk8]; omega), trivial, fun f => ?_, fun _ => ⟨fun he => ?_, fun _ => ?_⟩⟩
    · rw [part_other hc hb hi hki] at f; simp at f
    · exact absurd (by simpa using he) (fun e : (k : Int) = i => hki (by omega))
    · rw [w64 (by omega) (by omega)]
      exact Nx.mk' (⟨k + 1, by show k + 1 ≤ 8; omega⟩ : {k : Nat // otInv k}) rfl (by show 8 - (k + 1) < 8 - k; omega)
  · simp only [decide_eq_true_eq] at hlt
    have hki : k = i := by simp at heq; omega
    subst hki
    refine ⟨fun _ => ⟨trivial, trivial, by omega, by omega, ⟨by rw [ints_len, part_len hs hi]; omega, by omega, trivial⟩, _, _, d16 (part_len hs hi), ones16 hb, le_mil (by rw [part_len hs hi]; omega), trivial, fun f => ?_, fun _ => ?_⟩, fun f => by simp at f⟩
    · rw [part_same hc hb hi] at f; simp at f
    · rw [w64 (by omega) (by omega)]
      exact Nx.mk' (⟨k + 1, by show k + 1 ≤ 8; omega⟩ : {k : Nat // otInv k}) rfl (by show 8 - (k + 1) < 8 - k; omega)
  · simp only [decide_eq_true_eq] at hlt
    exact (hn ⟨by omega, by omega⟩).elim
  · have z16 : (List.replicate 16 ([D.val (Value.int IntKind.u8 0)])) = ints .u8 (List.replicate 16 0) := ints_rep
    have ht : (splice (splice (doC z128 l) (i * 16) b) (i * 16) [0, 0, 0, 0, 0, 0, 0, 0, 0, 0, 0, 0, 0, 0, 0, 0]).length = 128 := splice_len8 hs hi rfl
    have hok : okI (i : Int) := ⟨by omega, by omega⟩
    have hpl := part_len (k := i) ht hi
    refine ⟨_, rfl, hs, fun _ => ⟨fun h => (by cases h), fun _ => ⟨_, rfl, ht, fun _ => ⟨by unfold NonN; omega, ⟨by omega, by omega, by omega⟩, ⟨by rw [ints_len]; exact Nat.le_of_eq hpl.symm, by omega, trivial⟩, _, _, d16 hpl, z16, ?_, trivial, fun _ => trivial, fun f => ?_⟩, fun hn => (hn hok).elim⟩⟩, fun hn => (hn hok).elim⟩
    · exact le_mil (Nat.le_trans (Nat.le_of_eq hpl) (by omega))
    · have := part_same (b := [0, 0, 0, 0, 0, 0, 0, 0, 0, 0, 0, 0, 0, 0, 0, 0]) hs rfl hi
      unfold part at this
      rw [Int.toNat_natCast, this] at f; simp at f
end Go.Proofs.Ythobahlcphmafaa
