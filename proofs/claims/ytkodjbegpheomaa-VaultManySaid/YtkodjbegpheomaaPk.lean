import Derived.Test.YtkodjbegpheomaaBa
import Derived.KernelRfl
import Derived.Test.YtkodjbegpheomaaVdW
namespace Go.Proofs.Ytkodjbegpheomaa
open Vc Go
set_option linter.unusedVariables false
set_option linter.unusedSimpArgs false
set_option maxRecDepth 100000
def wInv (tot : List Int) (n : Nat) (p : List Int × Nat × Nat) : Prop := tot = p.1 ++ numF p.2.1 p.2.2 ∧ p.2.2 < 128 ^ (p.2.1 + 1) ∧ p.1.length + p.2.1 ≤ n + 8
abbrev wLI (tot : List Int) (n : Nat) : LI where
  α := {p : List Int × Nat × Nat // wInv tot n p} ⊕ {p : List Int × Nat × Nat // wInv tot n p}
  live := [0, 1]
  st p := match p with
    | .inl p => ([.ptr 0 0, .int .i64 (p.1.2.2 : Int)], [.cells [.sl 1 0 p.1.1.length], .row 5 1 (ints .u8 p.1.1)])
    | .inr p => ([.ptr 0 0, .int .i64 (p.1.2.2 : Int)], [.cells [.sl 2 0 p.1.1.length], .dead, .row 5 1 (ints .u8 p.1.1)])
  μ p := match p with
    | .inl p => p.1.2.1
    | .inr p => p.1.2.1
  all := fun Q => (∀ a, Q (.inl a)) ∧ ∀ b, Q (.inr b)
  all_ok := fun Q h i => match i with
    | .inl a => h.1 a
    | .inr b => h.2 b
abbrev rnLI (tot : List Int) : LI where
  α := {p : List Int × Nat × Nat // wInv tot 0 p}
  live := [0, 3]
  nils := [.slot 1 5 1]
  st p := ([.int .i64 (p.1.2.2 : Int), .sl 0 0 p.1.1.length], [.row 5 1 (ints .u8 p.1.1)])
  μ p := p.1.2.1
/-- A number's digits so far: how many, the value. -/
def nuInv (l : List Int) (p : Nat × Nat) : Prop := p.1 ≤ 9 ∧ p.1 ≤ l.length ∧ numR 0 0 l = numR p.1 p.2 (l.drop p.1) ∧ p.2 < 128 ^ p.1
abbrev nuLI (l : List Int) (lo : Nat) (e : Int) : LI where
  α := {p : Nat × Nat // nuInv (l.drop lo) p}
  live := [0, 2, 3, 9, 10, 11]
  st p := ([.ptr 0 0, .int .i64 (p.1.2 : Int), .int .i64 (p.1.1 : Int), .sl 1 lo l.length, .int .i64 ((l.length - lo : Nat) : Int), .int .i64 (p.1.1 : Int)], [.cells [.sl 1 lo l.length, .int .i64 e], .row 5 1 (ints .u8 l)])
  μ p := l.length - lo - p.1.1
def wT (tot : List Int) (n : Nat) : FuncId → Nat → Option LI
  | 27, 1 => some (wLI tot n)
  | 34, 4 => some (rnLI tot)
  | _, _ => none
def nuT (l : List Int) (lo : Nat) (e : Int) : FuncId → Nat → Option LI
  | 62, 2 => some (nuLI l lo e)
  | _, _ => none
def baS : FuncId → Option Known
  | 12 => some ⟨[.lend 1, .lend 1], Ssame⟩
  | 31 => some ⟨[.lend 1], ScloneN 5⟩
  | _ => none
noncomputable def XBa (l : List Int) (lo : Nat) (e : Int) : CallT := callS Try.prog baS (nuT l lo e) 10
theorem vcWNum (tot : List Int) (n : Nat) (z : Int) (a : List Int) (K : V → KB → Prop) (hvc_ :
 At (wLI tot n) ([V.ptr 0 0, V.int IntKind.i64 (if 0 > z then 0 else z)], [KO.cells [V.sl 1 0 a.length], KO.row 5 1 (ints IntKind.u8 a)]) ∧
 (∀ (a : { p : List Int × Nat × Nat // wInv tot n p }),
 (decide ((↑a.val.snd.snd : Int) ≥ 128) = true →
 1 ≤ 1 ∧
 a.val.fst.length ≤ (ints IntKind.u8 a.val.fst).length ∧
 (a.val.fst.length + 1) * 1 ≤ 140737488355328 ∧
 Nx (wLI tot n) (Sum.inl a) ([V.ptr 0 0, V.int IntKind.i64 ((↑a.val.snd.snd : Int).fdiv 128)], [KO.cells [V.sl 2 0 (a.val.fst.length + 1)], KO.dead, KO.row 5 1 (List.take a.val.fst.length (ints IntKind.u8 a.val.fst) ++ [[D.val (Value.int IntKind.u8 (IntKind.u8.wrap (↑(BitVec.ofInt 8 (IntKind.u8.wrap (↑a.val.snd.snd : Int)) ||| BitVec.ofInt 8 128).toNat : Int)))]])])) ∧
 (decide ((↑a.val.snd.snd : Int) ≥ 128) = false → 1 ≤ 1 ∧ a.val.fst.length ≤ (ints IntKind.u8 a.val.fst).length ∧ (a.val.fst.length + 1) * 1 ≤ 140737488355328 ∧ K (V.tup []) [KO.cells [V.sl 2 0 (a.val.fst.length + 1)], KO.dead, KO.row 5 1 (List.take a.val.fst.length (ints IntKind.u8 a.val.fst) ++ [[D.val (Value.int IntKind.u8 (IntKind.u8.wrap (↑a.val.snd.snd : Int)))]])])) ∧
 ∀ (b : { p : List Int × Nat × Nat // wInv tot n p }),
 (decide ((↑b.val.snd.snd : Int) ≥ 128) = true →
 1 ≤ 1 ∧
 b.val.fst.length ≤ (ints IntKind.u8 b.val.fst).length ∧
 (b.val.fst.length + 1) * 1 ≤ 140737488355328 ∧
 Nx (wLI tot n) (Sum.inr b) ([V.ptr 0 0, V.int IntKind.i64 ((↑b.val.snd.snd : Int).fdiv 128)], [KO.cells [V.sl 2 0 (b.val.fst.length + 1)], KO.dead, KO.row 5 1 (List.take b.val.fst.length (ints IntKind.u8 b.val.fst) ++ [[D.val (Value.int IntKind.u8 (IntKind.u8.wrap (↑(BitVec.ofInt 8 (IntKind.u8.wrap (↑b.val.snd.snd : Int)) ||| BitVec.ofInt 8 128).toNat : Int)))]])])) ∧
 (decide ((↑b.val.snd.snd : Int) ≥ 128) = false → 1 ≤ 1 ∧ b.val.fst.length ≤ (ints IntKind.u8 b.val.fst).length ∧ (b.val.fst.length + 1) * 1 ≤ 140737488355328 ∧ K (V.tup []) [KO.cells [V.sl 2 0 (b.val.fst.length + 1)], KO.dead, KO.row 5 1 (List.take b.val.fst.length (ints IntKind.u8 b.val.fst) ++ [[D.val (Value.int IntKind.u8 (IntKind.u8.wrap (↑b.val.snd.snd : Int)))]])])
 ) : runSpec Try.prog X0 (wT tot n 27) 27 [.ptr 0 0, .int .i64 z] [.cells [.sl 1 0 a.length], .row 5 1 (ints .u8 a)] (tidyRes 2 K) := by apply Eq.mp (a := hvc_); kernel_rfl
theorem vcRNum (tot : List Int) (z : Int) (K : V → KB → Prop) (hvc_ :
 (decide (z < 0) = true →
 At (rnLI tot) ([V.int IntKind.i64 0, V.sl 0 0 0], [KO.row 5 1 []]) ∧
 ∀ (i : { p : List Int × Nat × Nat // wInv tot 0 p }),
 (decide ((↑i.val.snd.snd : Int) > 127) = true →
 1 ≤ 1 ∧
 i.val.fst.length ≤ (ints IntKind.u8 i.val.fst).length ∧
 (i.val.fst.length + 1) * 1 ≤ 140737488355328 ∧ Nx (rnLI tot) i ([V.int IntKind.i64 (IntKind.i64.wrap ((↑i.val.snd.snd : Int).tdiv 128)), V.sl 0 0 (i.val.fst.length + 1)], [KO.row 5 1 (List.take i.val.fst.length (ints IntKind.u8 i.val.fst) ++ [[D.val (Value.int IntKind.u8 (IntKind.u8.wrap (IntKind.i64.wrap (128 + (↑i.val.snd.snd : Int).tmod 128))))]])])) ∧
 (decide ((↑i.val.snd.snd : Int) > 127) = false → 1 ≤ 1 ∧ i.val.fst.length ≤ (ints IntKind.u8 i.val.fst).length ∧ (i.val.fst.length + 1) * 1 ≤ 140737488355328 ∧ K (V.sl 0 0 (i.val.fst.length + 1)) [KO.row 5 1 (List.take i.val.fst.length (ints IntKind.u8 i.val.fst) ++ [[D.val (Value.int IntKind.u8 (IntKind.u8.wrap (↑i.val.snd.snd : Int)))]])])) ∧
 (decide (z < 0) = false →
 At (rnLI tot) ([V.int IntKind.i64 z, V.sl 0 0 0], [KO.row 5 1 []]) ∧
 ∀ (i : { p : List Int × Nat × Nat // wInv tot 0 p }),
 (decide ((↑i.val.snd.snd : Int) > 127) = true →
 1 ≤ 1 ∧
 i.val.fst.length ≤ (ints IntKind.u8 i.val.fst).length ∧
 (i.val.fst.length + 1) * 1 ≤ 140737488355328 ∧ Nx (rnLI tot) i ([V.int IntKind.i64 (IntKind.i64.wrap ((↑i.val.snd.snd : Int).tdiv 128)), V.sl 0 0 (i.val.fst.length + 1)], [KO.row 5 1 (List.take i.val.fst.length (ints IntKind.u8 i.val.fst) ++ [[D.val (Value.int IntKind.u8 (IntKind.u8.wrap (IntKind.i64.wrap (128 + (↑i.val.snd.snd : Int).tmod 128))))]])])) ∧
 (decide ((↑i.val.snd.snd : Int) > 127) = false → 1 ≤ 1 ∧ i.val.fst.length ≤ (ints IntKind.u8 i.val.fst).length ∧ (i.val.fst.length + 1) * 1 ≤ 140737488355328 ∧ K (V.sl 0 0 (i.val.fst.length + 1)) [KO.row 5 1 (List.take i.val.fst.length (ints IntKind.u8 i.val.fst) ++ [[D.val (Value.int IntKind.u8 (IntKind.u8.wrap (↑i.val.snd.snd : Int)))]])]))
 ) : runSpec Try.prog X0 (wT tot 0 34) 34 [.int .i64 z] [] K := by apply Eq.mp (a := hvc_); kernel_rfl
theorem vcNumber (l : List Int) (lo : Nat) (e : Int) (K : V → KB → Prop) (hvc_ :
 At (nuLI l lo e) ([V.ptr 0 0, V.int IntKind.i64 0, V.int IntKind.i64 0, V.sl 1 lo l.length, V.int IntKind.i64 (↑(l.length - lo) : Int), V.int IntKind.i64 0], [KO.cells [V.sl 1 lo l.length, V.int IntKind.i64 e], KO.row 5 1 (ints IntKind.u8 l)]) ∧
 ∀ (i : { p : Nat × Nat // nuInv (List.drop lo l) p }),
 (decide ((↑i.val.fst : Int) < (↑(l.length - lo) : Int)) = true →
 InB (↑i.val.fst : Int) (l.length - lo) ∧
 ∃ (e_1 : List D),
 (ints IntKind.u8 l)[lo + (↑i.val.fst : Int).toNat]? = some e_1 ∧
 ∃ (n : Int),
 e_1[0]? = some (D.val (Value.int IntKind.u8 n)) ∧
 (((↑i.val.fst : Int) == 9) = true →
 (((↑i.val.fst : Int) == (↑(l.length - lo) : Int)) = true →
 (decide ((↑i.val.fst : Int) < 9) = true → ((e == 0) = true → K (V.tup [V.int IntKind.i64 0, V.int IntKind.i64 0]) [KO.cells [V.sl 1 lo l.length, V.int IntKind.i64 2], KO.row 5 1 (ints IntKind.u8 l)]) ∧ ((e == 0) = false → K (V.tup [V.int IntKind.i64 0, V.int IntKind.i64 0]) [KO.cells [V.sl 1 lo l.length, V.int IntKind.i64 e], KO.row 5 1 (ints IntKind.u8 l)])) ∧
 (decide ((↑i.val.fst : Int) < 9) = false → ((e == 0) = true → K (V.tup [V.int IntKind.i64 0, V.int IntKind.i64 0]) [KO.cells [V.sl 1 lo l.length, V.int IntKind.i64 3], KO.row 5 1 (ints IntKind.u8 l)]) ∧ ((e == 0) = false → K (V.tup [V.int IntKind.i64 0, V.int IntKind.i64 0]) [KO.cells [V.sl 1 lo l.length, V.int IntKind.i64 e], KO.row 5 1 (ints IntKind.u8 l)]))) ∧
 (((↑i.val.fst : Int) == (↑(l.length - lo) : Int)) = false →
 ((e == 0) = true → K (V.tup [V.int IntKind.i64 0, V.int IntKind.i64 0]) [KO.cells [V.sl 1 lo l.length, V.int IntKind.i64 3], KO.row 5 1 (ints IntKind.u8 l)]) ∧ ((e == 0) = false → K (V.tup [V.int IntKind.i64 0, V.int IntKind.i64 0]) [KO.cells [V.sl 1 lo l.length, V.int IntKind.i64 e], KO.row 5 1 (ints IntKind.u8 l)]))) ∧
 (((↑i.val.fst : Int) == 9) = false →
 ((n == 0) = true →
 (decide ((↑i.val.fst : Int) > 0) = true →
 (((↑i.val.fst : Int) == (↑(l.length - lo) : Int)) = true →
 (decide ((↑i.val.fst : Int) < 9) = true → ((e == 0) = true → K (V.tup [V.int IntKind.i64 0, V.int IntKind.i64 0]) [KO.cells [V.sl 1 lo l.length, V.int IntKind.i64 2], KO.row 5 1 (ints IntKind.u8 l)]) ∧ ((e == 0) = false → K (V.tup [V.int IntKind.i64 0, V.int IntKind.i64 0]) [KO.cells [V.sl 1 lo l.length, V.int IntKind.i64 e], KO.row 5 1 (ints IntKind.u8 l)])) ∧
 (decide ((↑i.val.fst : Int) < 9) = false →
 ((e == 0) = true → K (V.tup [V.int IntKind.i64 0, V.int IntKind.i64 0]) [KO.cells [V.sl 1 lo l.length, V.int IntKind.i64 3], KO.row 5 1 (ints IntKind.u8 l)]) ∧ ((e == 0) = false → K (V.tup [V.int IntKind.i64 0, V.int IntKind.i64 0]) [KO.cells [V.sl 1 lo l.length, V.int IntKind.i64 e], KO.row 5 1 (ints IntKind.u8 l)]))) ∧
 (((↑i.val.fst : Int) == (↑(l.length - lo) : Int)) = false →
 ((e == 0) = true → K (V.tup [V.int IntKind.i64 0, V.int IntKind.i64 0]) [KO.cells [V.sl 1 lo l.length, V.int IntKind.i64 3], KO.row 5 1 (ints IntKind.u8 l)]) ∧ ((e == 0) = false → K (V.tup [V.int IntKind.i64 0, V.int IntKind.i64 0]) [KO.cells [V.sl 1 lo l.length, V.int IntKind.i64 e], KO.row 5 1 (ints IntKind.u8 l)]))) ∧
 (decide ((↑i.val.fst : Int) > 0) = false →
 (decide (n ≥ 128) = true →
 (IntKind.i64.wrap (7 * (↑i.val.fst : Int)) < 0 → False) ∧
 Nx (nuLI l lo e) i
 ([V.ptr 0 0, V.int IntKind.i64 (IntKind.i64.wrap (↑(BitVec.ofInt 64 (↑i.val.snd : Int) ||| BitVec.ofInt 64 (shlI IntKind.i64 (IntKind.i64.wrap (IntKind.u8.wrap (↑(BitVec.ofInt 8 n &&& BitVec.ofInt 8 127).toNat : Int))) (IntKind.i64.wrap (7 * (↑i.val.fst : Int))))).toNat : Int)), V.int IntKind.i64 (IntKind.i64.wrap ((↑i.val.fst : Int) + 1)), V.sl 1 lo l.length,
 V.int IntKind.i64 (↑(l.length - lo) : Int), V.int IntKind.i64 (IntKind.i64.wrap ((↑i.val.fst : Int) + 1))],
 [KO.cells [V.sl 1 lo l.length, V.int IntKind.i64 e], KO.row 5 1 (ints IntKind.u8 l)])) ∧
 (decide (n ≥ 128) = false →
 (IntKind.i64.wrap (7 * (↑i.val.fst : Int)) < 0 → False) ∧
 K (V.tup [V.int IntKind.i64 (IntKind.i64.wrap (↑(BitVec.ofInt 64 (↑i.val.snd : Int) ||| BitVec.ofInt 64 (shlI IntKind.i64 (IntKind.i64.wrap n) (IntKind.i64.wrap (7 * (↑i.val.fst : Int))))).toNat : Int)), V.int IntKind.i64 (IntKind.i64.wrap ((↑i.val.fst : Int) + 1))]) [KO.cells [V.sl 1 lo l.length, V.int IntKind.i64 e], KO.row 5 1 (ints IntKind.u8 l)]))) ∧
 ((n == 0) = false →
 (decide (n ≥ 128) = true →
 (IntKind.i64.wrap (7 * (↑i.val.fst : Int)) < 0 → False) ∧
 Nx (nuLI l lo e) i
 ([V.ptr 0 0, V.int IntKind.i64 (IntKind.i64.wrap (↑(BitVec.ofInt 64 (↑i.val.snd : Int) ||| BitVec.ofInt 64 (shlI IntKind.i64 (IntKind.i64.wrap (IntKind.u8.wrap (↑(BitVec.ofInt 8 n &&& BitVec.ofInt 8 127).toNat : Int))) (IntKind.i64.wrap (7 * (↑i.val.fst : Int))))).toNat : Int)), V.int IntKind.i64 (IntKind.i64.wrap ((↑i.val.fst : Int) + 1)), V.sl 1 lo l.length,
 V.int IntKind.i64 (↑(l.length - lo) : Int), V.int IntKind.i64 (IntKind.i64.wrap ((↑i.val.fst : Int) + 1))],
 [KO.cells [V.sl 1 lo l.length, V.int IntKind.i64 e], KO.row 5 1 (ints IntKind.u8 l)])) ∧
 (decide (n ≥ 128) = false →
 (IntKind.i64.wrap (7 * (↑i.val.fst : Int)) < 0 → False) ∧
 K (V.tup [V.int IntKind.i64 (IntKind.i64.wrap (↑(BitVec.ofInt 64 (↑i.val.snd : Int) ||| BitVec.ofInt 64 (shlI IntKind.i64 (IntKind.i64.wrap n) (IntKind.i64.wrap (7 * (↑i.val.fst : Int))))).toNat : Int)), V.int IntKind.i64 (IntKind.i64.wrap ((↑i.val.fst : Int) + 1))]) [KO.cells [V.sl 1 lo l.length, V.int IntKind.i64 e], KO.row 5 1 (ints IntKind.u8 l)])))) ∧
 (decide ((↑i.val.fst : Int) < (↑(l.length - lo) : Int)) = false →
 (((↑i.val.fst : Int) == (↑(l.length - lo) : Int)) = true →
 (decide ((↑i.val.fst : Int) < 9) = true → ((e == 0) = true → K (V.tup [V.int IntKind.i64 0, V.int IntKind.i64 0]) [KO.cells [V.sl 1 lo l.length, V.int IntKind.i64 2], KO.row 5 1 (ints IntKind.u8 l)]) ∧ ((e == 0) = false → K (V.tup [V.int IntKind.i64 0, V.int IntKind.i64 0]) [KO.cells [V.sl 1 lo l.length, V.int IntKind.i64 e], KO.row 5 1 (ints IntKind.u8 l)])) ∧
 (decide ((↑i.val.fst : Int) < 9) = false → ((e == 0) = true → K (V.tup [V.int IntKind.i64 0, V.int IntKind.i64 0]) [KO.cells [V.sl 1 lo l.length, V.int IntKind.i64 3], KO.row 5 1 (ints IntKind.u8 l)]) ∧ ((e == 0) = false → K (V.tup [V.int IntKind.i64 0, V.int IntKind.i64 0]) [KO.cells [V.sl 1 lo l.length, V.int IntKind.i64 e], KO.row 5 1 (ints IntKind.u8 l)]))) ∧
 (((↑i.val.fst : Int) == (↑(l.length - lo) : Int)) = false → ((e == 0) = true → K (V.tup [V.int IntKind.i64 0, V.int IntKind.i64 0]) [KO.cells [V.sl 1 lo l.length, V.int IntKind.i64 3], KO.row 5 1 (ints IntKind.u8 l)]) ∧ ((e == 0) = false → K (V.tup [V.int IntKind.i64 0, V.int IntKind.i64 0]) [KO.cells [V.sl 1 lo l.length, V.int IntKind.i64 e], KO.row 5 1 (ints IntKind.u8 l)])))
 ) : runSpec Try.prog X0 (nuT l lo e 62) 62 [.ptr 0 0] [.cells [.sl 1 lo l.length, .int .i64 e], .row 5 1 (ints .u8 l)] K := by apply Eq.mp (a := hvc_); kernel_rfl
theorem w8 {n : Int} (h1 : 0 ≤ n) (h2 : n < 256) : IntKind.u8.wrap n = n := IntWalk.u8_in n (by omega)
theorem snocT {a : List Int} {n : Int} : List.take a.length (ints .u8 a) ++ [[D.val (.int .u8 n)]] = ints .u8 (a ++ [n]) := by
  rw [ints_take, List.take_length, ints_app]; rfl
theorem wStep {tot : List Int} {n : Nat} {p : List Int × Nat × Nat} (h : wInv tot n p) (hc : 128 ≤ p.2.2) :
    ∃ q : List Int × Nat × Nat, wInv tot n q ∧ q.2.1 < p.2.1 ∧ q.1 = p.1 ++ [((p.2.2 % 128 + 128 : Nat) : Int)] ∧ q.2.2 = p.2.2 / 128 := by
  obtain ⟨o, k, m⟩ := p
  obtain ⟨h1, h2, h3⟩ := h
  simp only at h1 h2 h3 hc
  cases k with
  | zero => simp at h2; omega
  | succ k =>
    rw [numF.eq_2, if_neg (by omega)] at h1
    refine ⟨(o ++ [((m % 128 + 128 : Nat) : Int)], k, m / 128), ⟨by simp only; rw [h1, List.append_assoc]; rfl, ?_, by simp only [List.length_append, List.length_cons, List.length_nil]; omega⟩, by simp only; omega, rfl, rfl⟩
    simp only
    rw [Nat.div_lt_iff_lt_mul (by decide), ← Nat.pow_succ]; exact h2
theorem wLast {tot : List Int} {n : Nat} {p : List Int × Nat × Nat} (h : wInv tot n p) (hc : p.2.2 < 128) : tot = p.1 ++ [(p.2.2 : Int)] := by
  obtain ⟨o, k, m⟩ := p
  obtain ⟨h1, h2, h3⟩ := h
  simp only at h1 hc
  cases k with
  | zero => rw [h1, numF.eq_1]
  | succ k => rw [h1, numF.eq_2, if_pos hc]
theorem lt63 {z : Int} (h : z ≤ 9223372036854775807) : z.toNat < 128 ^ (8 + 1) := by
  have : (128 : Nat) ^ (8 + 1) = 9223372036854775808 := rfl
  omega
def SwNum : FSpec := fun args kb K => match args, kb with
  | [.ptr 0 0, .int .i64 z], [.cells [.sl 1 0 h], .row 5 1 A] => ∃ a : List Int, A = ints .u8 a ∧ h = a.length ∧ a.length ≤ 10000000 ∧ LeM z ∧
    K (.tup []) [.cells [.sl 2 0 (a ++ numW z).length], .dead, .row 5 1 (ints .u8 (a ++ numW z))]
  | _, _ => False
theorem okWNum : SpecOk Try.prog 27 SwNum := specOk_tidy X0_ok mixed (fun args kb K h => by
  unfold SwNum at h; split at h <;> try exact h.elim
  rename_i z _ _
  obtain ⟨a, rfl, rfl, hl, ⟨hz⟩, h⟩ := h
  have e0 : (if 0 > z then 0 else z) = ((z.toNat : Nat) : Int) := by split <;> omega
  refine ⟨wT (a ++ numW z) a.length 27, vcWNum (a ++ numW z) a.length z a K ⟨?_, ?_, ?_⟩⟩
  · rw [e0]
    exact At.mk' (.inl ⟨(a, 8, z.toNat), rfl, lt63 hz, Nat.le_refl _⟩) rfl
  · rintro ⟨p, hp⟩
    have hb := hp.2.2
    simp only [ints_len, or128]
    refine ⟨fun hc => ⟨by omega, by omega, by omega, ?_⟩, fun hc => ⟨by omega, by omega, by omega, ?_⟩⟩
    · simp only [decide_eq_true_eq] at hc
      obtain ⟨q, h1, h2, h3, h4⟩ := wStep hp (by omega)
      have e1 : (p.2.2 : Int).fdiv 128 = ((q.2.2 : Nat) : Int) := by rw [h4, Int.fdiv_eq_ediv_of_nonneg _ (by omega)]; omega
      rw [e1, snocT, ← h3, show p.1.length + 1 = q.1.length by rw [h3]; simp]
      exact Nx.mk' (.inr ⟨q, h1⟩) rfl h2
    · simp only [decide_eq_false_iff_not] at hc
      rw [w8 (by omega) (by omega), snocT, ← wLast hp (by omega), show p.1.length + 1 = (a ++ numW z).length by rw [wLast hp (by omega)]; simp]
      exact h
  · rintro ⟨p, hp⟩
    have hb := hp.2.2
    simp only [ints_len, or128]
    refine ⟨fun hc => ⟨by omega, by omega, by omega, ?_⟩, fun hc => ⟨by omega, by omega, by omega, ?_⟩⟩
    · simp only [decide_eq_true_eq] at hc
      obtain ⟨q, h1, h2, h3, h4⟩ := wStep hp (by omega)
      have e1 : (p.2.2 : Int).fdiv 128 = ((q.2.2 : Nat) : Int) := by rw [h4, Int.fdiv_eq_ediv_of_nonneg _ (by omega)]; omega
      rw [e1, snocT, ← h3, show p.1.length + 1 = q.1.length by rw [h3]; simp]
      exact Nx.mk' (.inr ⟨q, h1⟩) rfl h2
    · simp only [decide_eq_false_iff_not] at hc
      rw [w8 (by omega) (by omega), snocT, ← wLast hp (by omega), show p.1.length + 1 = (a ++ numW z).length by rw [wLast hp (by omega)]; simp]
      exact h)
def SrefNum : FSpec := fun args kb K => match args, kb with
  | [.int .i64 z], [] => LeM z ∧ K (.sl 0 0 (numW z).length) [.row 5 1 (ints .u8 (numW z))]
  | _, _ => False
theorem rBody {z : Int} {K : V → KB → Prop} (h : K (.sl 0 0 (numW z).length) [.row 5 1 (ints .u8 (numW z))]) : ∀ (i : { p // wInv (numW z) 0 p }),
 (decide ((i.val.snd.snd : Int) > 127) = true →
 1 ≤ 1 ∧
 i.val.fst.length ≤ (ints IntKind.u8 i.val.fst).length ∧
 (i.val.fst.length + 1) * 1 ≤ 140737488355328 ∧ Nx (rnLI (numW z)) i ([V.int IntKind.i64 (IntKind.i64.wrap ((i.val.snd.snd : Int).tdiv 128)), V.sl 0 0 (i.val.fst.length + 1)], [KO.row 5 1 (List.take i.val.fst.length (ints IntKind.u8 i.val.fst) ++ [[D.val (Value.int IntKind.u8 (IntKind.u8.wrap (IntKind.i64.wrap (128 + (i.val.snd.snd : Int).tmod 128))))]])])) ∧
 (decide ((i.val.snd.snd : Int) > 127) = false → 1 ≤ 1 ∧ i.val.fst.length ≤ (ints IntKind.u8 i.val.fst).length ∧ (i.val.fst.length + 1) * 1 ≤ 140737488355328 ∧ K (V.sl 0 0 (i.val.fst.length + 1)) [KO.row 5 1 (List.take i.val.fst.length (ints IntKind.u8 i.val.fst) ++ [[D.val (Value.int IntKind.u8 (IntKind.u8.wrap (i.val.snd.snd : Int)))]])]) := by
  rintro ⟨p, hp⟩
  have hb := hp.2.2
  simp only [ints_len]
  refine ⟨fun hc => ⟨by omega, by omega, by omega, ?_⟩, fun hc => ⟨by omega, by omega, by omega, ?_⟩⟩
  · simp only [decide_eq_true_eq] at hc
    obtain ⟨q, h1, h2, h3, h4⟩ := wStep hp (by omega)
    have hlt : p.2.2 < 9223372036854775808 := by
      have := hp.2.1
      have h9 : (128 : Nat) ^ (p.2.1 + 1) ≤ 128 ^ 9 := Nat.pow_le_pow_right (by decide) (by omega)
      have : (128 : Nat) ^ 9 = 9223372036854775808 := rfl
      omega
    have e1 : IntKind.i64.wrap ((p.2.2 : Int).tdiv 128) = ((q.2.2 : Nat) : Int) := by rw [Int.tdiv_eq_ediv_of_nonneg (by omega), w64 (by omega) (by omega), h4]; omega
    have e2 : IntKind.u8.wrap (IntKind.i64.wrap (128 + (p.2.2 : Int).tmod 128)) = ((p.2.2 % 128 + 128 : Nat) : Int) := by
      rw [Int.tmod_eq_emod_of_nonneg (by omega), w64 (by omega) (by omega), w8 (by omega) (by omega)]; omega
    rw [e1, e2, snocT, ← h3, show p.1.length + 1 = q.1.length by rw [h3]; simp]
    exact Nx.mk' ⟨q, h1⟩ rfl h2
  · simp only [decide_eq_false_iff_not] at hc
    rw [w8 (by omega) (by omega), snocT, ← wLast hp (by omega), show p.1.length + 1 = (numW z).length by rw [wLast hp (by omega)]; simp]
    exact h
theorem okRefNum : SpecOk Try.prog 34 SrefNum := specOk_of' X0_ok mixed (fun args kb K h => by
  unfold SrefNum at h; split at h <;> try exact h.elim
  rename_i z
  obtain ⟨⟨hz⟩, h⟩ := h
  refine ⟨wT (numW z) 0 34, vcRNum (numW z) z K ⟨fun hc => ⟨?_, rBody h⟩, fun hc => ⟨?_, rBody h⟩⟩⟩
  · simp only [decide_eq_true_eq] at hc
    exact At.mk' ⟨([], 8, 0), by unfold numW; rw [show z.toNat = 0 by omega]; rfl, by decide, Nat.le_refl _⟩ rfl
  · simp only [decide_eq_false_iff_not] at hc
    have : z = ((z.toNat : Nat) : Int) := by omega
    rw [this]
    exact At.mk' ⟨([], 8, z.toNat), by rw [← this]; rfl, lt63 hz, Nat.le_refl _⟩ rfl)
def Snumber : FSpec := fun args kb K => match args, kb with
  | [.ptr 0 0], [.cells [.sl 1 lo h, .int .i64 e], .row 5 1 A] => ∃ l : List Int, A = ints .u8 l ∧ h = l.length ∧ lo ≤ l.length ∧ Byt l ∧ l.length ≤ 10000000 ∧ e = 0 ∧
    (∀ v n, numR 0 0 (l.drop lo) = .got v n → K (.tup [.int .i64 (v : Int), .int .i64 (n : Int)]) [.cells [.sl 1 lo l.length, .int .i64 0], .row 5 1 (ints .u8 l)]) ∧
    (numR 0 0 (l.drop lo) = .short → K (.tup [.int .i64 0, .int .i64 0]) [.cells [.sl 1 lo l.length, .int .i64 2], .row 5 1 (ints .u8 l)]) ∧
    (numR 0 0 (l.drop lo) = .form → K (.tup [.int .i64 0, .int .i64 0]) [.cells [.sl 1 lo l.length, .int .i64 3], .row 5 1 (ints .u8 l)])
  | _, _ => False
theorem mul7 {i : Nat} (h : i ≤ 9) : IntKind.i64.wrap (7 * (i : Int)) = ((7 * i : Nat) : Int) := by
  rw [w64 (by omega) (by omega)]; omega
theorem okNumber : SpecOk Try.prog 62 Snumber := specOk_of' X0_ok mixed (fun args kb K h => by
  unfold Snumber at h; split at h <;> try exact h.elim
  rename_i lo _ _ _
  obtain ⟨l, rfl, rfl, hlo, hb, hl, rfl, hg, hs, hf⟩ := h
  refine ⟨nuT l lo 0 62, vcNumber l lo 0 K ⟨At.mk' ⟨(0, 0), by omega, Nat.zero_le _, by rw [List.drop_zero], by decide⟩ rfl, ?_⟩⟩
  rintro ⟨⟨i, v⟩, hh⟩
  obtain ⟨h9, hi, hn, hv⟩ := hh
  have hh : nuInv (l.drop lo) (i, v) := ⟨h9, hi, hn, hv⟩
  simp only [List.length_drop] at h9 hi hn hv ⊢
  refine ⟨fun hc => ?_, fun hc => ?_⟩
  · simp only [decide_eq_true_eq] at hc
    have hil : i < l.length - lo := by omega
    have hel : l[lo + i]? = some l[lo + i] := List.getElem?_eq_getElem (by omega)
    have hdr : (l.drop lo).drop i = l[lo + i] :: (l.drop lo).drop (i + 1) := by
      rw [List.drop_drop, List.drop_drop, show lo + (i + 1) = lo + i + 1 by omega]
      exact List.drop_eq_getElem_cons (by omega)
    have hbd := hb l[lo + i] (List.getElem_mem _)
    rw [hdr] at hn
    generalize l[lo + i] = c at hel hn hbd hdr
    rw [numR.eq_2] at hn
    have ff : (i = 9 ∨ (c = 0 ∧ 0 < i)) → numR 0 0 (l.drop lo) = .form := fun h => by rw [hn, if_pos h]
    refine ⟨by unfold InB; omega, [D.val (.int .u8 c)], by rw [Int.toNat_natCast, ints_get, hel]; rfl, c, rfl, fun hx => ?_, fun hx => ?_⟩
    · simp only [beq_iff_eq] at hx
      have := ff (.inl (by omega))
      refine ⟨fun hy => ?_, fun hy => ⟨fun _ => hf this, fun h => by simp at h⟩⟩
      simp only [beq_iff_eq] at hy
      omega
    · simp only [beq_eq_false_iff_ne, ne_eq] at hx
      have hi9 : i ≤ 8 := by omega
      have go : ¬ (c = 0 ∧ 0 < i) → ((decide (c ≥ 128) = true →
 (IntKind.i64.wrap (7 * (i : Int)) < 0 → False) ∧
 Nx (nuLI l lo 0) ⟨(i, v), hh⟩
 ([V.ptr 0 0, V.int IntKind.i64 (IntKind.i64.wrap ((BitVec.ofInt 64 (v : Int) ||| BitVec.ofInt 64 (shlI IntKind.i64 (IntKind.i64.wrap (IntKind.u8.wrap ((BitVec.ofInt 8 c &&& BitVec.ofInt 8 127).toNat : Int))) (IntKind.i64.wrap (7 * (i : Int))))).toNat : Int)), V.int IntKind.i64 (IntKind.i64.wrap ((i : Int) + 1)), V.sl 1 lo l.length,
 V.int IntKind.i64 ((l.length - lo : Nat) : Int), V.int IntKind.i64 (IntKind.i64.wrap ((i : Int) + 1))],
 [KO.cells [V.sl 1 lo l.length, V.int IntKind.i64 0], KO.row 5 1 (ints IntKind.u8 l)])) ∧
 (decide (c ≥ 128) = false →
 (IntKind.i64.wrap (7 * (i : Int)) < 0 → False) ∧
 K (V.tup [V.int IntKind.i64 (IntKind.i64.wrap ((BitVec.ofInt 64 (v : Int) ||| BitVec.ofInt 64 (shlI IntKind.i64 (IntKind.i64.wrap c) (IntKind.i64.wrap (7 * (i : Int))))).toNat : Int)), V.int IntKind.i64 (IntKind.i64.wrap ((i : Int) + 1))]) [KO.cells [V.sl 1 lo l.length, V.int IntKind.i64 0], KO.row 5 1 (ints IntKind.u8 l)])) := by
        intro hz
        rw [if_neg (by omega)] at hn
        rw [mul7 (by omega), and127 hbd.1 hbd.2]
        have hm := Nat.mod_lt c.toNat (show 128 > 0 by decide)
        refine ⟨fun h => ⟨fun f => by omega, ?_⟩, fun h => ⟨fun f => by omega, ?_⟩⟩
        · simp only [decide_eq_true_eq] at h
          rw [if_pos (by omega)] at hn
          rw [w64 (n := ((c.toNat % 128 : Nat) : Int)) (by omega) (by omega), num_or hv hm hi9, w64 (n := (i : Int) + 1) (by omega) (by omega)]
          refine Nx.mk' (⟨(i + 1, v + c.toNat % 128 * 128 ^ i), by simp only; omega, by simp only [List.length_drop]; omega, hn, ?_⟩ : {p // nuInv (l.drop lo) p}) rfl (by show l.length - lo - (i + 1) < l.length - lo - i; omega)
          simp only
          rw [Nat.pow_succ]
          have : c.toNat % 128 * 128 ^ i ≤ 127 * 128 ^ i := Nat.mul_le_mul_right _ (by omega)
          omega
        · simp only [decide_eq_false_iff_not] at h
          rw [if_neg (by omega)] at hn
          have ec : c = ((c.toNat : Nat) : Int) := by omega
          have := hg _ _ hn
          rw [w64 (n := c) (by omega) (by omega), w64 (n := (i : Int) + 1) (by omega) (by omega)]
          rw [show shlI IntKind.i64 c ((7 * i : Nat) : Int) = shlI IntKind.i64 ((c.toNat : Nat) : Int) ((7 * i : Nat) : Int) by rw [← ec], num_or hv (by omega) hi9]
          exact this
      refine ⟨fun h0 => ⟨fun h1 => ?_, fun h1 => ?_⟩, fun h0 => ?_⟩
      · simp only [beq_iff_eq] at h0
        simp only [decide_eq_true_eq] at h1
        have := ff (.inr ⟨h0, by omega⟩)
        refine ⟨fun hy => ?_, fun hy => ⟨fun _ => hf this, fun h => by simp at h⟩⟩
        simp only [beq_iff_eq] at hy
        omega
      · simp only [decide_eq_false_iff_not] at h1
        exact go (fun h => h1 (by omega))
      · simp only [beq_eq_false_iff_ne, ne_eq] at h0
        exact go (fun h => h0 h.1)
  · simp only [decide_eq_false_iff_not] at hc
    have : i = l.length - lo := by omega
    rw [show List.drop i (l.drop lo) = [] from List.drop_eq_nil_of_le (by rw [List.length_drop]; omega), numR.eq_1] at hn
    refine ⟨fun hy => ⟨fun h => ⟨fun _ => hs ?_, fun h => by simp at h⟩, fun h => ⟨fun _ => hf ?_, fun h => by simp at h⟩⟩, fun hy => ?_⟩
    · simp only [decide_eq_true_eq] at h
      rw [hn, if_pos (by omega)]
    · simp only [decide_eq_false_iff_not] at h
      rw [hn, if_neg (by omega)]
    · simp only [beq_eq_false_iff_ne, ne_eq] at hy
      omega)
end Go.Proofs.Ytkodjbegpheomaa
