import Derived.Test.YtnlhpjfdnimpjaaBa
import Derived.KernelRfl
namespace Go.Proofs.Ytnlhpjfdnimpjaa
open Vc Go
set_option linter.unusedVariables false
set_option linter.unusedSimpArgs false
set_option maxRecDepth 100000
/-- A letter. -/
structure Lt where
  f : Int
  t : Int
  b : List Int
def ltD (x : Lt) : List D := [dn .i64 x.f, dn .i64 x.t, .sl 1 (ints .u8 x.b)]
def ltV (x : Lt) : V := .agg [.int .i64 x.f, .int .i64 x.t, .dat (.sl 1 (ints .u8 x.b))]
abbrev chL (r : Nat) (l : List Lt) : KO := .ch true 3 r (l.map ltD)
abbrev bxC : KO := .cells [.ch 1, .ch 2, .ch 3]
def psL (k c : Int) (r : Nat) (l : List Lt) (x : Lt) : List Lt := if c = k ∧ l.length < r then l ++ [x] else l
def psB (c : Int) (r : Nat) (l0 l1 l2 : List Lt) : Bool := decide ((c = 0 ∧ l0.length < r) ∨ (c = 1 ∧ l1.length < r) ∨ (c = 2 ∧ l2.length < r))
def SPost1 : FSpec := fun args kb K => match args, kb with
  | [.ptr 0 0, .int .i64 c, .agg [.int .i64 f, .int .i64 t, .dat (.sl 1 B)]], [.cells [.ch 1, .ch 2, .ch 3], .ch true 3 r0 L0, .ch true 3 r1 L1, .ch true 3 r2 L2] => ∃ (b : List Int) (r : Nat) (l0 l1 l2 : List Lt), B = ints .u8 b ∧ b.length ≤ 1000000 ∧ r0 = r ∧ r1 = r ∧ r2 = r ∧ L0 = l0.map ltD ∧ L1 = l1.map ltD ∧ L2 = l2.map ltD ∧
    K (.sb (psB c r l0 l1 l2)) [bxC, chL r (psL 0 c r l0 ⟨f, t, b⟩), chL r (psL 1 c r l1 ⟨f, t, b⟩), chL r (psL 2 c r l2 ⟨f, t, b⟩)]
  | _, _ => False
def SPost2 : FSpec := fun args kb K => match args, kb with
  | [.ptr 0 0, .int .i64 c, .agg [.int .i64 f, .int .i64 t, .sl 1 0 n]], [.cells [.ch 2, .ch 3, .ch 4], .row 5 1 B, .ch true 3 r0 L0, .ch true 3 r1 L1, .ch true 3 r2 L2] => ∃ (b : List Int) (r : Nat) (l0 l1 l2 : List Lt), B = ints .u8 b ∧ n = b.length ∧ b.length ≤ 1000000 ∧ r0 = r ∧ r1 = r ∧ r2 = r ∧ L0 = l0.map ltD ∧ L1 = l1.map ltD ∧ L2 = l2.map ltD ∧
    K (.sb (psB c r l0 l1 l2)) [.cells [.ch 2, .ch 3, .ch 4], .row 5 1 (ints .u8 b), chL r (psL 0 c r l0 ⟨f, t, b⟩), chL r (psL 1 c r l1 ⟨f, t, b⟩), chL r (psL 2 c r l2 ⟨f, t, b⟩)]
  | _, _ => False
def nxt : List Lt → List Lt → List Lt → Lt × Int × Bool × List Lt × List Lt × List Lt
  | x :: a, b, c => (x, 0, true, a, b, c)
  | [], x :: b, c => (x, 1, true, [], b, c)
  | [], [], x :: c => (x, 2, true, [], [], c)
  | [], [], [] => (⟨0, 0, []⟩, 0, false, [], [], [])
def SNext : FSpec := fun args kb K => match args, kb with
  | [.ptr 0 0], [.cells [.ch 1, .ch 2, .ch 3], .ch true 3 r0 L0, .ch true 3 r1 L1, .ch true 3 r2 L2] => ∃ (a b c : List Lt), L0 = a.map ltD ∧ L1 = b.map ltD ∧ L2 = c.map ltD ∧
    K (.tup [.agg [.int .i64 (nxt a b c).1.f, .int .i64 (nxt a b c).1.t, .dat (.sl 1 (ints .u8 (nxt a b c).1.b))], .int .i64 (nxt a b c).2.1, .sb (nxt a b c).2.2.1]) [bxC, chL r0 (nxt a b c).2.2.2.1, chL r1 (nxt a b c).2.2.2.2.1, chL r2 (nxt a b c).2.2.2.2.2]
  | _, _ => False
def SLen : FSpec := fun args kb K => match args, kb with
  | [.ptr 0 0, .int .i64 c], [.cells [.ch 1, .ch 2, .ch 3], .ch true 3 r0 L0, .ch true 3 r1 L1, .ch true 3 r2 L2] =>
    K (.int .i64 (if c = 0 then (L0.length : Int) else if c = 1 then (L1.length : Int) else if c = 2 then (L2.length : Int) else 0)) [bxC, .ch true 3 r0 L0, .ch true 3 r1 L1, .ch true 3 r2 L2]
  | _, _ => False
structure NewI (n : Int) : Prop where
  lo : 1 ≤ n
  hi : n ≤ 4096
def SNew : FSpec := fun args kb K => match args, kb with
  | [.int .i64 n], [] => (¬ NewI n → K (.any (.pointer none)) []) ∧ (NewI n → K (.ptr 0 0) [bxC, chL n.toNat [], chL n.toNat [], chL n.toNat []])
  | _, _ => False
def maS0 : FuncId → Option Known
  | 17 => some ⟨[.lend 1], ScloneN 5⟩
  | _ => none
noncomputable def XMa0 : CallT := callS Try.prog maS0 noT 10
structure It where
  c : Int
  l : Lt
def itD (x : It) : List D := [dn .i64 x.c, dn .i64 x.l.f, dn .i64 x.l.t, .sl 1 (ints .u8 x.l.b)]
def cntI (x : List It) (c : Int) : Nat := (x.filter (fun a => a.c == c)).length
def gX (x : List It) (i : Nat) : It := x.getD i ⟨0, 0, 0, []⟩
def besI (x : List It) : Nat → Int
  | 0 => -1
  | i + 1 => if besI x i < 0 ∨ (gX x i).c < (gX x (besI x i).toNat).c then (i : Int) else besI x i
def SCount : FSpec := fun args kb K => match args, kb with
  | [.dat (.sl 4 X), .int .i64 c], [] => ∃ x : List It, X = x.map itD ∧ x.length ≤ 100000 ∧ K (.int .i64 (cntI x c : Int)) []
  | _, _ => False
def SFirst : FSpec := fun args kb K => match args, kb with
  | [.dat (.sl 4 X)], [] => ∃ x : List It, X = x.map itD ∧ x.length ≤ 100000 ∧ K (.int .i64 (besI x x.length)) []
  | _, _ => False
def SOut : FSpec := fun args kb K => match args, kb with
  | [.dat (.sl 4 X), .int .i64 i'], [] => ∃ (x : List It) (i : Nat), X = x.map itD ∧ i' = i ∧ i < x.length ∧ x.length ≤ 100000 ∧ K (.sl 0 0 (x.length - 1)) [.row 41 4 ((x.eraseIdx i).map itD)]
  | _, _ => False
def SSameL : FSpec := fun args kb K => match args, kb with
  | [.agg [.int .i64 f, .int .i64 t, .dat (.sl 1 A)], .agg [.int .i64 f', .int .i64 t', .dat (.sl 1 B)]], [] => ∃ a b : List Int, A = ints .u8 a ∧ B = ints .u8 b ∧ Sm a ∧ K (.sb (decide (f = f' ∧ t = t' ∧ a = b))) []
  | _, _ => False
def SDrain : FSpec := fun args kb K => match args, kb with
  | [.ptr 0 0], [.cells [.ch 1, .ch 2, .ch 3], .ch true 3 r0 L0, .ch true 3 r1 L1, .ch true 3 r2 L2] => ∃ (a b c : List Lt), L0 = a.map ltD ∧ L1 = b.map ltD ∧ L2 = c.map ltD ∧ a.length + b.length + c.length ≤ 100000 ∧
    K (.int .i64 (a.length + b.length + c.length : Nat)) [bxC, chL r0 [], chL r1 [], chL r2 []]
  | _, _ => False
structure DrI (a b c : List Lt) (p : Nat × List Lt × List Lt × List Lt) : Prop where
  sum : p.1 + (p.2.1.length + p.2.2.1.length + p.2.2.2.length) = a.length + b.length + c.length
abbrev drLI (r0 r1 r2 : Nat) (a b c : List Lt) : LI where
  α := {p : Nat × List Lt × List Lt × List Lt // DrI a b c p}
  live := [0, 3]
  st p := ([.ptr 0 0, .int .i64 (p.1.1 : Int)], [bxC, chL r0 p.1.2.1, chL r1 p.1.2.2.1, chL r2 p.1.2.2.2])
  μ p := p.1.2.1.length + p.1.2.2.1.length + p.1.2.2.2.length
abbrev coLI (x : List It) (c : Int) : LI where
  α := {i : Nat // i ≤ x.length}
  live := [0, 1, 5, 6]
  st i := ([.dat (.sl 4 (x.map itD)), .int .i64 c, .int .i64 (cntI (x.take i.1) c : Int), .int .i64 (i.1 : Int)], [])
  μ i := x.length - i.1
abbrev fiLI (x : List It) : LI where
  α := {i : Nat // i ≤ x.length}
  live := [0, 3, 4]
  st i := ([.dat (.sl 4 (x.map itD)), .int .i64 (besI x i.1), .int .i64 (i.1 : Int)], [])
  μ i := x.length - i.1
def maT (x : List It) (cc : Int) (r0 r1 r2 : Nat) (a b c : List Lt) : FuncId → Nat → Option LI
  | 15, 2 => some (drLI r0 r1 r2 a b c)
  | 12, 3 => some (coLI x cc)
  | 13, 3 => some (fiLI x)
  | _, _ => none
def maS1 : FuncId → Option Known
  | 9 => some ⟨[], SNext⟩
  | 18 => some ⟨[.lend 1, .lend 1], Ssame⟩
  | _ => none
noncomputable def XMa1 : CallT := callS Try.prog maS1 noT 10
theorem vcNew (n : Int) (K : V → KB → Prop) (hvc_ :
 (decide (n < 1) = true → K (V.any (Value.pointer none)) []) ∧ (decide (n < 1) = false → (decide (n > 4096) = true → K (V.any (Value.pointer none)) []) ∧ (decide (n > 4096) = false → ChN n ∧ InB 0 3 ∧ ChN n ∧ InB 1 3 ∧ ChN n ∧ InB 2 3 ∧ K (V.ptr 0 0) [KO.cells [V.ch 1, V.ch 2, V.ch 3], KO.ch true 3 n.toNat [], KO.ch true 3 n.toNat [], KO.ch true 3 n.toNat []]))
 ) : runSpec Try.prog X0 (noT 7) 7 [.int .i64 n] [] K := by apply Eq.mp (a := hvc_); kernel_rfl
theorem vcPost1 (c f t : Int) (b : List Int) (r : Nat) (l0 l1 l2 : List Lt) (K : V → KB → Prop) (hvc_ :
 (decide (c ≥ 0) = true →
 ((!decide (c < 3)) = true → K (V.sb false) [KO.cells [V.ch 1, V.ch 2, V.ch 3], KO.ch true 3 r (List.map ltD l0), KO.ch true 3 r (List.map ltD l1), KO.ch true 3 r (List.map ltD l2)]) ∧
 ((!decide (c < 3)) = false →
 (ints IntKind.u8 b).length ≤ 1000000 ∧
 InB c 3 ∧
 (c = 0 →
 (ints IntKind.u8 b).length ≤ (ints IntKind.u8 b).length ∧
 ((List.map ltD l0).length < r → K (V.sb true) [KO.cells [V.ch 1, V.ch 2, V.ch 3], KO.ch true 3 r (List.map ltD l0 ++ [[D.val (Value.int IntKind.i64 f), D.val (Value.int IntKind.i64 t), D.sl 1 (List.drop 0 (List.take (ints IntKind.u8 b).length (ints IntKind.u8 b)))]]), KO.ch true 3 r (List.map ltD l1), KO.ch true 3 r (List.map ltD l2)]) ∧
 (((List.map ltD l0).length < r → False) → K (V.sb false) [KO.cells [V.ch 1, V.ch 2, V.ch 3], KO.ch true 3 r (List.map ltD l0), KO.ch true 3 r (List.map ltD l1), KO.ch true 3 r (List.map ltD l2)])) ∧
 (c = 1 →
 (ints IntKind.u8 b).length ≤ (ints IntKind.u8 b).length ∧
 ((List.map ltD l1).length < r → K (V.sb true) [KO.cells [V.ch 1, V.ch 2, V.ch 3], KO.ch true 3 r (List.map ltD l0), KO.ch true 3 r (List.map ltD l1 ++ [[D.val (Value.int IntKind.i64 f), D.val (Value.int IntKind.i64 t), D.sl 1 (List.drop 0 (List.take (ints IntKind.u8 b).length (ints IntKind.u8 b)))]]), KO.ch true 3 r (List.map ltD l2)]) ∧
 (((List.map ltD l1).length < r → False) → K (V.sb false) [KO.cells [V.ch 1, V.ch 2, V.ch 3], KO.ch true 3 r (List.map ltD l0), KO.ch true 3 r (List.map ltD l1), KO.ch true 3 r (List.map ltD l2)])) ∧
 (c = 2 →
 (ints IntKind.u8 b).length ≤ (ints IntKind.u8 b).length ∧
 ((List.map ltD l2).length < r → K (V.sb true) [KO.cells [V.ch 1, V.ch 2, V.ch 3], KO.ch true 3 r (List.map ltD l0), KO.ch true 3 r (List.map ltD l1), KO.ch true 3 r (List.map ltD l2 ++ [[D.val (Value.int IntKind.i64 f), D.val (Value.int IntKind.i64 t), D.sl 1 (List.drop 0 (List.take (ints IntKind.u8 b).length (ints IntKind.u8 b)))]])]) ∧
 (((List.map ltD l2).length < r → False) → K (V.sb false) [KO.cells [V.ch 1, V.ch 2, V.ch 3], KO.ch true 3 r (List.map ltD l0), KO.ch true 3 r (List.map ltD l1), KO.ch true 3 r (List.map ltD l2)])))) ∧
 (decide (c ≥ 0) = false → K (V.sb false) [KO.cells [V.ch 1, V.ch 2, V.ch 3], KO.ch true 3 r (List.map ltD l0), KO.ch true 3 r (List.map ltD l1), KO.ch true 3 r (List.map ltD l2)])
 ) : runSpec Try.prog XMa0 (noT 8) 8 [.ptr 0 0, .int .i64 c, .agg [.int .i64 f, .int .i64 t, .dat (.sl 1 (ints .u8 b))]] [bxC, chL r l0, chL r l1, chL r l2] K := by apply Eq.mp (a := hvc_); kernel_rfl
theorem vcPost2 (c f t : Int) (b : List Int) (r : Nat) (l0 l1 l2 : List Lt) (K : V → KB → Prop) (hvc_ :
 (decide (c ≥ 0) = true →
 ((!decide (c < 3)) = true → K (V.sb false) [KO.cells [V.ch 2, V.ch 3, V.ch 4], KO.row 5 1 (ints IntKind.u8 b), KO.ch true 3 r (List.map ltD l0), KO.ch true 3 r (List.map ltD l1), KO.ch true 3 r (List.map ltD l2)]) ∧
 ((!decide (c < 3)) = false →
 (b.length ≤ (ints IntKind.u8 b).length ∧ True) ∧
 (List.drop 0 (List.take b.length (ints IntKind.u8 b))).length ≤ 1000000 ∧
 PlainS (List.drop 0 (List.take b.length (ints IntKind.u8 b))).flatten ∧
 InB c 3 ∧
 (c = 0 →
 (List.drop 0 (List.take b.length (ints IntKind.u8 b))).length ≤ (List.drop 0 (List.take b.length (ints IntKind.u8 b))).length ∧
 ((List.map ltD l0).length < r →
 K (V.sb true)
 [KO.cells [V.ch 2, V.ch 3, V.ch 4], KO.row 5 1 (ints IntKind.u8 b), KO.ch true 3 r (List.map ltD l0 ++ [[D.val (Value.int IntKind.i64 f), D.val (Value.int IntKind.i64 t), D.sl 1 (List.drop 0 (List.take (List.drop 0 (List.take b.length (ints IntKind.u8 b))).length (List.drop 0 (List.take b.length (ints IntKind.u8 b)))))]]), KO.ch true 3 r (List.map ltD l1),
 KO.ch true 3 r (List.map ltD l2)]) ∧
 (((List.map ltD l0).length < r → False) → K (V.sb false) [KO.cells [V.ch 2, V.ch 3, V.ch 4], KO.row 5 1 (ints IntKind.u8 b), KO.ch true 3 r (List.map ltD l0), KO.ch true 3 r (List.map ltD l1), KO.ch true 3 r (List.map ltD l2)])) ∧
 (c = 1 →
 (List.drop 0 (List.take b.length (ints IntKind.u8 b))).length ≤ (List.drop 0 (List.take b.length (ints IntKind.u8 b))).length ∧
 ((List.map ltD l1).length < r →
 K (V.sb true)
 [KO.cells [V.ch 2, V.ch 3, V.ch 4], KO.row 5 1 (ints IntKind.u8 b), KO.ch true 3 r (List.map ltD l0), KO.ch true 3 r (List.map ltD l1 ++ [[D.val (Value.int IntKind.i64 f), D.val (Value.int IntKind.i64 t), D.sl 1 (List.drop 0 (List.take (List.drop 0 (List.take b.length (ints IntKind.u8 b))).length (List.drop 0 (List.take b.length (ints IntKind.u8 b)))))]]),
 KO.ch true 3 r (List.map ltD l2)]) ∧
 (((List.map ltD l1).length < r → False) → K (V.sb false) [KO.cells [V.ch 2, V.ch 3, V.ch 4], KO.row 5 1 (ints IntKind.u8 b), KO.ch true 3 r (List.map ltD l0), KO.ch true 3 r (List.map ltD l1), KO.ch true 3 r (List.map ltD l2)])) ∧
 (c = 2 →
 (List.drop 0 (List.take b.length (ints IntKind.u8 b))).length ≤ (List.drop 0 (List.take b.length (ints IntKind.u8 b))).length ∧
 ((List.map ltD l2).length < r →
 K (V.sb true)
 [KO.cells [V.ch 2, V.ch 3, V.ch 4], KO.row 5 1 (ints IntKind.u8 b), KO.ch true 3 r (List.map ltD l0), KO.ch true 3 r (List.map ltD l1),
 KO.ch true 3 r (List.map ltD l2 ++ [[D.val (Value.int IntKind.i64 f), D.val (Value.int IntKind.i64 t), D.sl 1 (List.drop 0 (List.take (List.drop 0 (List.take b.length (ints IntKind.u8 b))).length (List.drop 0 (List.take b.length (ints IntKind.u8 b)))))]])]) ∧
 (((List.map ltD l2).length < r → False) → K (V.sb false) [KO.cells [V.ch 2, V.ch 3, V.ch 4], KO.row 5 1 (ints IntKind.u8 b), KO.ch true 3 r (List.map ltD l0), KO.ch true 3 r (List.map ltD l1), KO.ch true 3 r (List.map ltD l2)])))) ∧
 (decide (c ≥ 0) = false → K (V.sb false) [KO.cells [V.ch 2, V.ch 3, V.ch 4], KO.row 5 1 (ints IntKind.u8 b), KO.ch true 3 r (List.map ltD l0), KO.ch true 3 r (List.map ltD l1), KO.ch true 3 r (List.map ltD l2)])
 ) : runSpec Try.prog XMa0 (noT 8) 8 [.ptr 0 0, .int .i64 c, .agg [.int .i64 f, .int .i64 t, .sl 1 0 b.length]] [.cells [.ch 2, .ch 3, .ch 4], .row 5 1 (ints .u8 b), chL r l0, chL r l1, chL r l2] K := by apply Eq.mp (a := hvc_); kernel_rfl
theorem vcNext (r0 r1 r2 : Nat) (a b c : List Lt) (K : V → KB → Prop) (hvc_ :
 InB 0 3 ∧
 (∀ (c_1 : List D) (l' : List (List D)),
 List.map ltD a = c_1 :: l' →
 ∃ (n : Int),
 c_1[0]? = some (D.val (Value.int IntKind.i64 n)) ∧
 ∃ (n_1 : Int), c_1[1]? = some (D.val (Value.int IntKind.i64 n_1)) ∧ ∃ (l : List (List D)), c_1[2]? = some (D.sl 1 l) ∧ K (V.tup [V.agg [V.int IntKind.i64 n, V.int IntKind.i64 n_1, V.dat (D.sl 1 l)], V.int IntKind.i64 0, V.sb true]) [KO.cells [V.ch 1, V.ch 2, V.ch 3], KO.ch true 3 r0 l', KO.ch true 3 r1 (List.map ltD b), KO.ch true 3 r2 (List.map ltD c)]) ∧
 (List.map ltD a = [] →
 InB 1 3 ∧
 (∀ (c_1 : List D) (l' : List (List D)),
 List.map ltD b = c_1 :: l' →
 ∃ (n : Int),
 c_1[0]? = some (D.val (Value.int IntKind.i64 n)) ∧
 ∃ (n_1 : Int), c_1[1]? = some (D.val (Value.int IntKind.i64 n_1)) ∧ ∃ (l : List (List D)), c_1[2]? = some (D.sl 1 l) ∧ K (V.tup [V.agg [V.int IntKind.i64 n, V.int IntKind.i64 n_1, V.dat (D.sl 1 l)], V.int IntKind.i64 1, V.sb true]) [KO.cells [V.ch 1, V.ch 2, V.ch 3], KO.ch true 3 r0 (List.map ltD a), KO.ch true 3 r1 l', KO.ch true 3 r2 (List.map ltD c)]) ∧
 (List.map ltD b = [] →
 InB 2 3 ∧
 (∀ (c_1 : List D) (l' : List (List D)),
 List.map ltD c = c_1 :: l' →
 ∃ (n : Int),
 c_1[0]? = some (D.val (Value.int IntKind.i64 n)) ∧
 ∃ (n_1 : Int), c_1[1]? = some (D.val (Value.int IntKind.i64 n_1)) ∧ ∃ (l : List (List D)), c_1[2]? = some (D.sl 1 l) ∧ K (V.tup [V.agg [V.int IntKind.i64 n, V.int IntKind.i64 n_1, V.dat (D.sl 1 l)], V.int IntKind.i64 2, V.sb true]) [KO.cells [V.ch 1, V.ch 2, V.ch 3], KO.ch true 3 r0 (List.map ltD a), KO.ch true 3 r1 (List.map ltD b), KO.ch true 3 r2 l']) ∧
 (List.map ltD c = [] → K (V.tup [V.agg [V.int IntKind.i64 0, V.int IntKind.i64 0, V.dat (D.sl 1 [])], V.int IntKind.i64 0, V.sb false]) [KO.cells [V.ch 1, V.ch 2, V.ch 3], KO.ch true 3 r0 (List.map ltD a), KO.ch true 3 r1 (List.map ltD b), KO.ch true 3 r2 (List.map ltD c)])))
 ) : runSpec Try.prog XMa0 (noT 9) 9 [.ptr 0 0] [bxC, chL r0 a, chL r1 b, chL r2 c] (nilRes [.fldD 0 2 1] K) := by apply Eq.mp (a := hvc_); kernel_rfl
theorem vcLenN (n : Int) (r0 r1 r2 : Nat) (a b c : List (List D)) (K : V → KB → Prop) (hvc_ :
 (decide (n ≥ 0) = true →
 ((!decide (n < 3)) = true → K (V.int IntKind.i64 0) [KO.cells [V.ch 1, V.ch 2, V.ch 3], KO.ch true 3 r0 a, KO.ch true 3 r1 b, KO.ch true 3 r2 c]) ∧
 ((!decide (n < 3)) = false →
 InB n 3 ∧
 (n = 0 → K (V.int IntKind.i64 (↑a.length : Int)) [KO.cells [V.ch 1, V.ch 2, V.ch 3], KO.ch true 3 r0 a, KO.ch true 3 r1 b, KO.ch true 3 r2 c]) ∧
 (n = 1 → K (V.int IntKind.i64 (↑b.length : Int)) [KO.cells [V.ch 1, V.ch 2, V.ch 3], KO.ch true 3 r0 a, KO.ch true 3 r1 b, KO.ch true 3 r2 c]) ∧ (n = 2 → K (V.int IntKind.i64 (↑c.length : Int)) [KO.cells [V.ch 1, V.ch 2, V.ch 3], KO.ch true 3 r0 a, KO.ch true 3 r1 b, KO.ch true 3 r2 c]))) ∧
 (decide (n ≥ 0) = false → K (V.int IntKind.i64 0) [KO.cells [V.ch 1, V.ch 2, V.ch 3], KO.ch true 3 r0 a, KO.ch true 3 r1 b, KO.ch true 3 r2 c])
 ) : runSpec Try.prog XMa0 (noT 11) 11 [.ptr 0 0, .int .i64 n] [bxC, .ch true 3 r0 a, .ch true 3 r1 b, .ch true 3 r2 c] K := by apply Eq.mp (a := hvc_); kernel_rfl
theorem vcDrain (r0 r1 r2 : Nat) (a b c : List Lt) (K : V → KB → Prop) (hvc_ :
 At (drLI r0 r1 r2 a b c) ([V.ptr 0 0, V.int IntKind.i64 0], [KO.cells [V.ch 1, V.ch 2, V.ch 3], KO.ch true 3 r0 (List.map ltD a), KO.ch true 3 r1 (List.map ltD b), KO.ch true 3 r2 (List.map ltD c)]) ∧
 ∀ (i : { p : Nat × List Lt × List Lt × List Lt // DrI a b c p }),
 ∃ (a_1 : List Lt),
 ∃ (b_1 : List Lt),
 ∃ (c_1 : List Lt),
 List.map ltD i.val.snd.fst = List.map ltD a_1 ∧
 List.map ltD i.val.snd.snd.fst = List.map ltD b_1 ∧
 List.map ltD i.val.snd.snd.snd = List.map ltD c_1 ∧
 ((!(nxt a_1 b_1 c_1).snd.snd.fst) = true → K (V.int IntKind.i64 (↑i.val.fst : Int)) [KO.cells [V.ch 1, V.ch 2, V.ch 3], KO.ch true 3 r0 (List.map ltD (nxt a_1 b_1 c_1).snd.snd.snd.fst), KO.ch true 3 r1 (List.map ltD (nxt a_1 b_1 c_1).snd.snd.snd.snd.fst), KO.ch true 3 r2 (List.map ltD (nxt a_1 b_1 c_1).snd.snd.snd.snd.snd)]) ∧
 ((!(nxt a_1 b_1 c_1).snd.snd.fst) = false →
 Nx (drLI r0 r1 r2 a b c) i ([V.ptr 0 0, V.int IntKind.i64 (IntKind.i64.wrap ((↑i.val.fst : Int) + 1))], [KO.cells [V.ch 1, V.ch 2, V.ch 3], KO.ch true 3 r0 (List.map ltD (nxt a_1 b_1 c_1).snd.snd.snd.fst), KO.ch true 3 r1 (List.map ltD (nxt a_1 b_1 c_1).snd.snd.snd.snd.fst), KO.ch true 3 r2 (List.map ltD (nxt a_1 b_1 c_1).snd.snd.snd.snd.snd)]))
 ) : runSpec Try.prog XMa1 (maT [] 0 r0 r1 r2 a b c 15) 15 [.ptr 0 0] [bxC, chL r0 a, chL r1 b, chL r2 c] K := by apply Eq.mp (a := hvc_); kernel_rfl
theorem vcCount (x : List It) (c : Int) (K : V → KB → Prop) (hvc_ :
 At (coLI x c) ([V.dat (D.sl 4 (List.map itD x)), V.int IntKind.i64 c, V.int IntKind.i64 0, V.int IntKind.i64 0], []) ∧
 ∀ (i : { i : Nat // i ≤ x.length }),
 (decide ((↑i.val : Int) < (↑(List.map itD x).length : Int)) = true →
 NonN (↑i.val : Int) ∧
 ∃ (e : List D),
 (List.map itD x)[(↑i.val : Int).toNat]? = some e ∧
 ∃ (n : Int),
 e[0]? = some (D.val (Value.int IntKind.i64 n)) ∧
 ((n == c) = true → Nx (coLI x c) i ([V.dat (D.sl 4 (List.map itD x)), V.int IntKind.i64 c, V.int IntKind.i64 (IntKind.i64.wrap ((↑(cntI (List.take i.val x) c) : Int) + 1)), V.int IntKind.i64 (IntKind.i64.wrap ((↑i.val : Int) + 1))], [])) ∧
 ((n == c) = false → Nx (coLI x c) i ([V.dat (D.sl 4 (List.map itD x)), V.int IntKind.i64 c, V.int IntKind.i64 (↑(cntI (List.take i.val x) c) : Int), V.int IntKind.i64 (IntKind.i64.wrap ((↑i.val : Int) + 1))], []))) ∧
 (decide ((↑i.val : Int) < (↑(List.map itD x).length : Int)) = false → K (V.int IntKind.i64 (↑(cntI (List.take i.val x) c) : Int)) [])
 ) : runSpec Try.prog X0 (maT x c 0 0 0 [] [] [] 12) 12 [.dat (.sl 4 (x.map itD)), .int .i64 c] [] K := by apply Eq.mp (a := hvc_); kernel_rfl
theorem vcFirst (x : List It) (K : V → KB → Prop) (hvc_ :
 At (fiLI x) ([V.dat (D.sl 4 (List.map itD x)), V.int IntKind.i64 (-1), V.int IntKind.i64 0], []) ∧
 ∀ (i : { i : Nat // i ≤ x.length }),
 (decide ((↑i.val : Int) < (↑(List.map itD x).length : Int)) = true →
 (decide (besI x i.val < 0) = true → Nx (fiLI x) i ([V.dat (D.sl 4 (List.map itD x)), V.int IntKind.i64 (↑i.val : Int), V.int IntKind.i64 (IntKind.i64.wrap ((↑i.val : Int) + 1))], [])) ∧
 (decide (besI x i.val < 0) = false →
 NonN (↑i.val : Int) ∧
 ∃ (e : List D),
 (List.map itD x)[(↑i.val : Int).toNat]? = some e ∧
 ∃ (n : Int),
 e[0]? = some (D.val (Value.int IntKind.i64 n)) ∧
 NonN (besI x i.val) ∧
 ∃ (e : List D),
 (List.map itD x)[(besI x i.val).toNat]? = some e ∧
 ∃ (n_1 : Int),
 e[0]? = some (D.val (Value.int IntKind.i64 n_1)) ∧
 (decide (n < n_1) = true → Nx (fiLI x) i ([V.dat (D.sl 4 (List.map itD x)), V.int IntKind.i64 (↑i.val : Int), V.int IntKind.i64 (IntKind.i64.wrap ((↑i.val : Int) + 1))], [])) ∧ (decide (n < n_1) = false → Nx (fiLI x) i ([V.dat (D.sl 4 (List.map itD x)), V.int IntKind.i64 (besI x i.val), V.int IntKind.i64 (IntKind.i64.wrap ((↑i.val : Int) + 1))], [])))) ∧
 (decide ((↑i.val : Int) < (↑(List.map itD x).length : Int)) = false → K (V.int IntKind.i64 (besI x i.val)) [])
 ) : runSpec Try.prog X0 (maT x 0 0 0 0 [] [] [] 13) 13 [.dat (.sl 4 (x.map itD))] [] K := by apply Eq.mp (a := hvc_); kernel_rfl
theorem vcOut (x : List It) (i : Nat) (K : V → KB → Prop) (hvc_ :
 True ∧
 NonN (↑i : Int) ∧
 0 ≤ (↑i : Int).toNat ∧
 (↑i : Int).toNat ≤ (List.map itD x).length ∧
 NonN (IntKind.i64.wrap ((↑i : Int) + 1)) ∧
 True ∧
 (IntKind.i64.wrap ((↑i : Int) + 1)).toNat ≤ (List.map itD x).length ∧
 (List.map itD x).length ≤ (List.map itD x).length ∧
 True ∧
 0 ≤ 0 ∧
 (0 + (List.drop 0 (List.take (↑i : Int).toNat (List.map itD x))).length) * 48 ≤ 140737488355328 ∧
 True ∧
 0 + (List.drop 0 (List.take (↑i : Int).toNat (List.map itD x))).length ≤ ([] ++ List.drop 0 (List.take (↑i : Int).toNat (List.map itD x))).length ∧
 (0 + (List.drop 0 (List.take (↑i : Int).toNat (List.map itD x))).length + (List.drop (IntKind.i64.wrap ((↑i : Int) + 1)).toNat (List.take (List.map itD x).length (List.map itD x))).length) * 48 ≤ 140737488355328 ∧
 K (V.sl 0 0 (0 + (List.drop 0 (List.take (↑i : Int).toNat (List.map itD x))).length + (List.drop (IntKind.i64.wrap ((↑i : Int) + 1)).toNat (List.take (List.map itD x).length (List.map itD x))).length))
 [KO.row 41 4 (List.take (0 + (List.drop 0 (List.take (↑i : Int).toNat (List.map itD x))).length) ([] ++ List.drop 0 (List.take (↑i : Int).toNat (List.map itD x))) ++ List.drop (IntKind.i64.wrap ((↑i : Int) + 1)).toNat (List.take (List.map itD x).length (List.map itD x)))]
 ) : runSpec Try.prog X0 (noT 14) 14 [.dat (.sl 4 (x.map itD)), .int .i64 (i : Int)] [] K := by apply Eq.mp (a := hvc_); kernel_rfl
theorem vcSameL (f t f' t' : Int) (a b : List Int) (K : V → KB → Prop) (hvc_ :
 ((f == f') = true → ((t == t') = true → ∃ (a_3 : List Int), ∃ (b_1 : List Int), ints IntKind.u8 a = ints IntKind.u8 a_3 ∧ ints IntKind.u8 b = ints IntKind.u8 b_1 ∧ a_3.length.le 1000000 ∧ K (V.sb (decide (a_3 = b_1))) []) ∧ ((t == t') = false → K (V.sb false) [])) ∧ ((f == f') = false → K (V.sb false) [])
 ) : runSpec Try.prog XMa1 (noT 10) 10 [.agg [.int .i64 f, .int .i64 t, .dat (.sl 1 (ints .u8 a))], .agg [.int .i64 f', .int .i64 t', .dat (.sl 1 (ints .u8 b))]] [] K := by apply Eq.mp (a := hvc_); kernel_rfl
theorem maS0_ok : AllOk Try.prog maS0 := fun f k h => by
  unfold maS0 at h
  split at h
  · cases h; exact cloneN_of okClone
  · cases h
theorem XMa0_ok : CallOk Try.prog XMa0 := callS_ok mixed maS0_ok noT 10
theorem psL_yes {k : Int} {r : Nat} {l : List Lt} {x : Lt} (h : l.length < r) : psL k k r l x = l ++ [x] := by unfold psL; rw [if_pos ⟨rfl, h⟩]
theorem psL_ne {k c : Int} {r : Nat} {l : List Lt} {x : Lt} (h : c ≠ k) : psL k c r l x = l := by unfold psL; rw [if_neg (fun q => h q.1)]
theorem psL_full {k c : Int} {r : Nat} {l : List Lt} {x : Lt} (h : ¬ l.length < r) : psL k c r l x = l := by unfold psL; rw [if_neg (fun q => h q.2)]
theorem ltAp {f t : Int} {b : List Int} {l : List Lt} : l.map ltD ++ [[D.val (.int .i64 f), D.val (.int .i64 t), D.sl 1 (ints .u8 b)]] = (l ++ [Lt.mk f t b]).map ltD := by
  rw [List.map_append]; rfl
theorem tk0 {α : Type} {l : List α} : List.drop 0 (List.take l.length l) = l := by rw [List.take_length, List.drop_zero]
theorem okNew : SpecOk Try.prog 7 SNew := specOk_of' X0_ok mixed (fun args kb K h => by
  unfold SNew at h; split at h <;> try exact h.elim
  rename_i n
  refine ⟨noT _, vcNew n K ⟨fun h1 => h.1 fun q => ?_, fun h1 => ⟨fun h2 => h.1 fun q => ?_, fun h2 => ?_⟩⟩⟩
  · have := q.lo; simp only [decide_eq_true_eq] at h1; omega
  · have := q.hi; simp only [decide_eq_true_eq] at h2; omega
  · simp only [decide_eq_false_iff_not] at h1 h2
    have hc : ChN n := ⟨by omega, by omega⟩
    exact ⟨hc, ⟨by omega, by omega⟩, hc, ⟨by omega, by omega⟩, hc, ⟨by omega, by omega⟩, h.2 ⟨by omega, by omega⟩⟩)
theorem okPost1 : SpecOk Try.prog 8 SPost1 := specOk_of' XMa0_ok mixed (fun args kb K h => by
  unfold SPost1 at h; split at h <;> try exact h.elim
  rename_i c f t _ _ _ _ _ _ _
  obtain ⟨b, r, l0, l1, l2, rfl, hb, rfl, rfl, rfl, rfl, rfl, rfl, h⟩ := h
  refine ⟨noT _, vcPost1 c f t b _ l0 l1 l2 K ?_⟩
  simp only [tk0, ltAp]
  simp only [ints_len, List.length_map]
  refine ⟨fun h1 => ⟨fun h2 => ?_, fun h2 => ⟨hb, ?_, fun e => ⟨Nat.le_refl _, fun q => ?_, fun q => ?_⟩, fun e => ⟨Nat.le_refl _, fun q => ?_, fun q => ?_⟩, fun e => ⟨Nat.le_refl _, fun q => ?_, fun q => ?_⟩⟩⟩, fun h1 => ?_⟩
  · simp only [Bool.not_eq_true', decide_eq_false_iff_not] at h2
    rw [psL_ne (by omega), psL_ne (by omega), psL_ne (by omega), show psB c _ l0 l1 l2 = false from decide_eq_false (by omega)] at h; exact h
  · simp only [decide_eq_true_eq, Bool.not_eq_false'] at h1 h2; exact ⟨by omega, by omega⟩
  · subst e
    rw [psL_yes q, psL_ne (by omega), psL_ne (by omega), show psB 0 _ l0 l1 l2 = true from decide_eq_true (by omega)] at h; exact h
  · subst e
    replace q : ¬ l0.length < _ := q
    rw [psL_full q, psL_ne (by omega), psL_ne (by omega), show psB 0 _ l0 l1 l2 = false from decide_eq_false (by omega)] at h; exact h
  · subst e
    rw [psL_yes q, psL_ne (by omega), psL_ne (by omega), show psB 1 _ l0 l1 l2 = true from decide_eq_true (by omega)] at h; exact h
  · subst e
    replace q : ¬ l1.length < _ := q
    rw [psL_ne (by omega), psL_full q, psL_ne (by omega), show psB 1 _ l0 l1 l2 = false from decide_eq_false (by omega)] at h; exact h
  · subst e
    rw [psL_yes q, psL_ne (by omega), psL_ne (by omega), show psB 2 _ l0 l1 l2 = true from decide_eq_true (by omega)] at h; exact h
  · subst e
    replace q : ¬ l2.length < _ := q
    rw [psL_ne (by omega), psL_ne (by omega), psL_full q, show psB 2 _ l0 l1 l2 = false from decide_eq_false (by omega)] at h; exact h
  · simp only [decide_eq_false_iff_not] at h1
    rw [psL_ne (by omega), psL_ne (by omega), psL_ne (by omega), show psB c _ l0 l1 l2 = false from decide_eq_false (by omega)] at h; exact h)
theorem okPost2 : SpecOk Try.prog 8 SPost2 := specOk_of' XMa0_ok mixed (fun args kb K h => by
  unfold SPost2 at h; split at h <;> try exact h.elim
  rename_i c f t _ _ _ _ _ _ _ _
  obtain ⟨b, r, l0, l1, l2, rfl, rfl, hb, rfl, rfl, rfl, rfl, rfl, rfl, h⟩ := h
  refine ⟨noT _, vcPost2 c f t b _ l0 l1 l2 K ?_⟩
  have tb : List.drop 0 (List.take b.length (ints .u8 b)) = ints .u8 b := by rw [ints_take, List.take_length, List.drop_zero]
  simp only [tb, tk0, ltAp]
  simp only [ints_len, List.length_map]
  refine ⟨fun h1 => ⟨fun h2 => ?_, fun h2 => ⟨⟨Nat.le_refl _, trivial⟩, hb, ⟨plain_ints⟩, ?_, fun e => ⟨Nat.le_refl _, fun q => ?_, fun q => ?_⟩, fun e => ⟨Nat.le_refl _, fun q => ?_, fun q => ?_⟩, fun e => ⟨Nat.le_refl _, fun q => ?_, fun q => ?_⟩⟩⟩, fun h1 => ?_⟩
  · simp only [Bool.not_eq_true', decide_eq_false_iff_not] at h2
    rw [psL_ne (by omega), psL_ne (by omega), psL_ne (by omega), show psB c _ l0 l1 l2 = false from decide_eq_false (by omega)] at h; exact h
  · simp only [decide_eq_true_eq, Bool.not_eq_false'] at h1 h2; exact ⟨by omega, by omega⟩
  · subst e
    rw [psL_yes q, psL_ne (by omega), psL_ne (by omega), show psB 0 _ l0 l1 l2 = true from decide_eq_true (by omega)] at h; exact h
  · subst e
    replace q : ¬ l0.length < _ := q
    rw [psL_full q, psL_ne (by omega), psL_ne (by omega), show psB 0 _ l0 l1 l2 = false from decide_eq_false (by omega)] at h; exact h
  · subst e
    rw [psL_yes q, psL_ne (by omega), psL_ne (by omega), show psB 1 _ l0 l1 l2 = true from decide_eq_true (by omega)] at h; exact h
  · subst e
    replace q : ¬ l1.length < _ := q
    rw [psL_ne (by omega), psL_full q, psL_ne (by omega), show psB 1 _ l0 l1 l2 = false from decide_eq_false (by omega)] at h; exact h
  · subst e
    rw [psL_yes q, psL_ne (by omega), psL_ne (by omega), show psB 2 _ l0 l1 l2 = true from decide_eq_true (by omega)] at h; exact h
  · subst e
    replace q : ¬ l2.length < _ := q
    rw [psL_ne (by omega), psL_ne (by omega), psL_full q, show psB 2 _ l0 l1 l2 = false from decide_eq_false (by omega)] at h; exact h
  · simp only [decide_eq_false_iff_not] at h1
    rw [psL_ne (by omega), psL_ne (by omega), psL_ne (by omega), show psB c _ l0 l1 l2 = false from decide_eq_false (by omega)] at h; exact h)
def SPost : FSpec := fun args kb K => match args, kb with
  | [.ptr 0 0, .int .i64 c, .agg [.int .i64 f, .int .i64 t, .dat (.sl 1 B)]], [.cells [.ch 1, .ch 2, .ch 3], .ch true 3 r0 L0, .ch true 3 r1 L1, .ch true 3 r2 L2] => ∃ (b : List Int) (r : Nat) (l0 l1 l2 : List Lt), B = ints .u8 b ∧ b.length ≤ 1000000 ∧ r0 = r ∧ r1 = r ∧ r2 = r ∧ L0 = l0.map ltD ∧ L1 = l1.map ltD ∧ L2 = l2.map ltD ∧
    K (.sb (psB c r l0 l1 l2)) [bxC, chL r (psL 0 c r l0 ⟨f, t, b⟩), chL r (psL 1 c r l1 ⟨f, t, b⟩), chL r (psL 2 c r l2 ⟨f, t, b⟩)]
  | [.ptr 0 0, .int .i64 c, .agg [.int .i64 f, .int .i64 t, .sl 1 0 n]], [.cells [.ch 2, .ch 3, .ch 4], .row 5 1 B, .ch true 3 r0 L0, .ch true 3 r1 L1, .ch true 3 r2 L2] => ∃ (b : List Int) (r : Nat) (l0 l1 l2 : List Lt), B = ints .u8 b ∧ n = b.length ∧ b.length ≤ 1000000 ∧ r0 = r ∧ r1 = r ∧ r2 = r ∧ L0 = l0.map ltD ∧ L1 = l1.map ltD ∧ L2 = l2.map ltD ∧
    K (.sb (psB c r l0 l1 l2)) [.cells [.ch 2, .ch 3, .ch 4], .row 5 1 (ints .u8 b), chL r (psL 0 c r l0 ⟨f, t, b⟩), chL r (psL 1 c r l1 ⟨f, t, b⟩), chL r (psL 2 c r l2 ⟨f, t, b⟩)]
  | _, _ => False
theorem okPost : SpecOk Try.prog 8 SPost := fun args kb K h => by
  unfold SPost at h; split at h <;> try exact h.elim
  · exact okPost1 _ _ K h
  · exact okPost2 _ _ K h
theorem ltE {x : Lt} {a : List Lt} {c : List D} {l : List (List D)} (h : List.map ltD (x :: a) = c :: l) {Q : Int → Int → List (List D) → List (List D) → Prop} (q : Q x.f x.t (ints .u8 x.b) (a.map ltD)) :
    ∃ n, c[0]? = some (D.val (.int .i64 n)) ∧ ∃ m, c[1]? = some (D.val (.int .i64 m)) ∧ ∃ s, c[2]? = some (D.sl 1 s) ∧ Q n m s l := by
  rw [List.map_cons] at h
  cases h
  exact ⟨_, rfl, _, rfl, _, rfl, q⟩
theorem okNext : SpecOk Try.prog 9 SNext := specOk_nil XMa0_ok mixed [.fldD 0 2 1] (fun args kb K h => by
  unfold SNext at h; split at h <;> try exact h.elim
  obtain ⟨a, b, c, rfl, rfl, rfl, h⟩ := h
  refine ⟨noT _, vcNext _ _ _ a b c K ?_⟩
  refine ⟨⟨by omega, by omega⟩, fun d l e => ?_, fun e => ⟨⟨by omega, by omega⟩, fun d l e2 => ?_, fun e2 => ⟨⟨by omega, by omega⟩, fun d l e3 => ?_, fun e3 => ?_⟩⟩⟩
  · cases a with
    | nil => cases e
    | cons x a => exact ltE e (Q := fun n m s l => K (V.tup [V.agg [V.int IntKind.i64 n, V.int IntKind.i64 m, V.dat (D.sl 1 s)], V.int IntKind.i64 0, V.sb true]) [KO.cells [V.ch 1, V.ch 2, V.ch 3], KO.ch true 3 _ l, KO.ch true 3 _ (List.map ltD b), KO.ch true 3 _ (List.map ltD c)]) h
  · cases a with
    | cons x a => cases e
    | nil => cases b with
      | nil => cases e2
      | cons x b => exact ltE e2 (Q := fun n m s l => K (V.tup [V.agg [V.int IntKind.i64 n, V.int IntKind.i64 m, V.dat (D.sl 1 s)], V.int IntKind.i64 1, V.sb true]) [KO.cells [V.ch 1, V.ch 2, V.ch 3], KO.ch true 3 _ [], KO.ch true 3 _ l, KO.ch true 3 _ (List.map ltD c)]) h
  · cases a with
    | cons x a => cases e
    | nil => cases b with
      | cons x b => cases e2
      | nil => cases c with
        | nil => cases e3
        | cons x c => exact ltE e3 (Q := fun n m s l => K (V.tup [V.agg [V.int IntKind.i64 n, V.int IntKind.i64 m, V.dat (D.sl 1 s)], V.int IntKind.i64 2, V.sb true]) [KO.cells [V.ch 1, V.ch 2, V.ch 3], KO.ch true 3 _ [], KO.ch true 3 _ [], KO.ch true 3 _ l]) h
  · cases a with
    | cons x a => cases e
    | nil => cases b with
      | cons x b => cases e2
      | nil => cases c with
        | cons x c => cases e3
        | nil => exact h)
theorem okLen : SpecOk Try.prog 11 SLen := specOk_of' XMa0_ok mixed (fun args kb K h => by
  unfold SLen at h; split at h <;> try exact h.elim
  rename_i n _ _ _ _ _ _
  refine ⟨noT _, vcLenN n _ _ _ _ _ _ K ?_⟩
  refine ⟨fun h1 => ⟨fun h2 => ?_, fun h2 => ⟨?_, fun e => ?_, fun e => ?_, fun e => ?_⟩⟩, fun h1 => ?_⟩
  · simp only [Bool.not_eq_true', decide_eq_false_iff_not] at h2
    rw [if_neg (by omega), if_neg (by omega), if_neg (by omega)] at h; exact h
  · simp only [decide_eq_true_eq, Bool.not_eq_false'] at h1 h2; exact ⟨by omega, by omega⟩
  · subst e; exact h
  · subst e; exact h
  · subst e; exact h
  · simp only [decide_eq_false_iff_not] at h1
    rw [if_neg (by omega), if_neg (by omega), if_neg (by omega)] at h; exact h)
theorem maS1_ok : AllOk Try.prog maS1 := fun f k h => by
  unfold maS1 at h
  split at h
  · cases h; exact okNext
  · cases h; exact okSame
  · cases h
theorem XMa1_ok : CallOk Try.prog XMa1 := callS_ok mixed maS1_ok noT 10
theorem ltD_inj {x y : Lt} (h : ltD x = ltD y) : x = y := by
  obtain ⟨f, t, b⟩ := x
  obtain ⟨f', t', b'⟩ := y
  simp only [ltD, dn, List.cons.injEq, D.val.injEq, Value.int.injEq, true_and, D.sl.injEq, and_true] at h
  obtain ⟨rfl, rfl, h⟩ := h
  rw [ints_inj h]
theorem nxt_sum (a b c : List Lt) : ((nxt a b c).2.2.1 = false → a = [] ∧ b = [] ∧ c = []) ∧ ((nxt a b c).2.2.1 = true → (nxt a b c).2.2.2.1.length + (nxt a b c).2.2.2.2.1.length + (nxt a b c).2.2.2.2.2.length + 1 = a.length + b.length + c.length) := by
  cases a with
  | cons x a => exact ⟨fun q => (by cases q), fun _ => by simp only [nxt, List.length_cons]; omega⟩
  | nil => cases b with
    | cons x b => exact ⟨fun q => (by cases q), fun _ => by simp only [nxt, List.length_cons, List.length_nil]; omega⟩
    | nil => cases c with
      | cons x c => exact ⟨fun q => (by cases q), fun _ => by simp only [nxt, List.length_cons, List.length_nil]; omega⟩
      | nil => exact ⟨fun _ => ⟨rfl, rfl, rfl⟩, fun q => (by cases q)⟩
theorem okDrain : SpecOk Try.prog 15 SDrain := specOk_of' XMa1_ok mixed (fun args kb K h => by
  unfold SDrain at h; split at h <;> try exact h.elim
  rename_i r0 _ r1 _ r2 _
  obtain ⟨a, b, c, rfl, rfl, rfl, hs, h⟩ := h
  refine ⟨_, vcDrain r0 r1 r2 a b c K ⟨At.mk' (⟨(0, a, b, c), ⟨by simp only; omega⟩⟩ : {p : Nat × List Lt × List Lt × List Lt // DrI a b c p}) rfl, ?_⟩⟩
  rintro ⟨⟨n, a1, b1, c1⟩, hI⟩
  have hI := hI.sum
  simp only at hI
  refine ⟨a1, b1, c1, rfl, rfl, rfl, fun h1 => ?_, fun h1 => ?_⟩
  · simp only [Bool.not_eq_true'] at h1
    obtain ⟨rfl, rfl, rfl⟩ := (nxt_sum a1 b1 c1).1 h1
    simp only [List.length_nil] at hI
    have e : n = a.length + b.length + c.length := by omega
    subst e
    exact h
  · simp only [Bool.not_eq_false'] at h1
    have hq := (nxt_sum a1 b1 c1).2 h1
    simp only
    rw [w64 (by omega) (by omega), show (n : Int) + 1 = ((n + 1 : Nat) : Int) by omega]
    exact Nx.mk' (⟨(n + 1, (nxt a1 b1 c1).2.2.2.1, (nxt a1 b1 c1).2.2.2.2.1, (nxt a1 b1 c1).2.2.2.2.2), ⟨by simp only; omega⟩⟩ : {p : Nat × List Lt × List Lt × List Lt // DrI a b c p}) rfl (by simp only; omega))
theorem gX_get {l : List It} {i : Nat} (h : i < l.length) : l[i]? = some (gX l i) := by
  unfold gX; rw [List.getD_eq_getElem?_getD, List.getElem?_eq_getElem h]; rfl
theorem gX_row {l : List It} {i : Nat} (h : i < l.length) : (l.map itD)[i]? = some (itD (gX l i)) := by rw [List.getElem?_map, gX_get h]; rfl
theorem cntI_succ {x : List It} {c : Int} {i : Nat} (h : i < x.length) : cntI (x.take (i + 1)) c = cntI (x.take i) c + if (gX x i).c == c then 1 else 0 := by
  unfold cntI
  rw [List.take_add_one, gX_get h, List.filter_append, List.length_append]
  congr 1
  simp only [Option.toList_some, List.filter_cons, List.filter_nil]
  split <;> rfl
theorem cntI_le {x : List It} {c : Int} : cntI x c ≤ x.length := List.length_filter_le _ _
theorem okCount : SpecOk Try.prog 12 SCount := specOk_of' X0_ok mixed (fun args kb K h => by
  unfold SCount at h; split at h <;> try exact h.elim
  rename_i _ c
  obtain ⟨x, rfl, hx, h⟩ := h
  refine ⟨_, vcCount x c K ⟨At.mk' (⟨0, Nat.zero_le _⟩ : {i : Nat // i ≤ x.length}) rfl, ?_⟩⟩
  rintro ⟨i, hi⟩
  simp only [List.length_map, decide_eq_true_eq, decide_eq_false_iff_not, Int.toNat_natCast]
  have hle := cntI_le (x := x.take i) (c := c)
  rw [List.length_take] at hle
  refine ⟨fun h1 => ⟨by unfold NonN; omega, _, gX_row (by omega), _, rfl, fun h2 => ?_, fun h2 => ?_⟩, fun h1 => ?_⟩
  · rw [w64 (by omega) (by omega), w64 (by omega) (by omega)]
    have e := cntI_succ (x := x) (c := c) (i := i) (by omega)
    rw [if_pos h2] at e
    rw [show (cntI (x.take i) c : Int) + 1 = (cntI (x.take (i + 1)) c : Int) by omega, show (i : Int) + 1 = ((i + 1 : Nat) : Int) by omega]
    exact Nx.mk' (⟨i + 1, by omega⟩ : {i : Nat // i ≤ x.length}) rfl (by simp only; omega)
  · rw [w64 (by omega) (by omega)]
    have e := cntI_succ (x := x) (c := c) (i := i) (by omega)
    rw [h2] at e
    simp only [Bool.false_eq_true, if_false, Nat.add_zero] at e
    rw [← e, show (i : Int) + 1 = ((i + 1 : Nat) : Int) by omega]
    exact Nx.mk' (⟨i + 1, by omega⟩ : {i : Nat // i ≤ x.length}) rfl (by simp only; omega)
  · have e : i = x.length := by omega
    subst e
    rw [List.take_length]; exact h)
theorem besI_rg (x : List It) : ∀ i, -1 ≤ besI x i ∧ besI x i < i
  | 0 => by simp [besI]
  | i + 1 => by
    have := besI_rg x i
    unfold besI
    split <;> omega
theorem okFirst : SpecOk Try.prog 13 SFirst := specOk_of' X0_ok mixed (fun args kb K h => by
  unfold SFirst at h; split at h <;> try exact h.elim
  obtain ⟨x, rfl, hx, h⟩ := h
  refine ⟨_, vcFirst x K ⟨At.mk' (⟨0, Nat.zero_le _⟩ : {i : Nat // i ≤ x.length}) rfl, ?_⟩⟩
  rintro ⟨i, hi⟩
  simp only [List.length_map, decide_eq_true_eq, decide_eq_false_iff_not, Int.toNat_natCast]
  have hb := besI_rg x i
  refine ⟨fun h1 => ?_, fun h1 => ?_⟩
  · have w1 : IntKind.i64.wrap ((i : Int) + 1) = ((i + 1 : Nat) : Int) := by rw [w64 (by omega) (by omega)]; omega
    rw [w1]
    have yes : besI x i < 0 ∨ (gX x i).c < (gX x (besI x i).toNat).c → Nx (fiLI x) ⟨i, hi⟩ ([V.dat (D.sl 4 (List.map itD x)), V.int IntKind.i64 (i : Int), V.int IntKind.i64 ((i + 1 : Nat) : Int)], []) := fun q =>
      Nx.mk' (⟨i + 1, by omega⟩ : {i : Nat // i ≤ x.length}) (by simp only [besI]; rw [if_pos q]) (by simp only; omega)
    have no : ¬ (besI x i < 0 ∨ (gX x i).c < (gX x (besI x i).toNat).c) → Nx (fiLI x) ⟨i, hi⟩ ([V.dat (D.sl 4 (List.map itD x)), V.int IntKind.i64 (besI x i), V.int IntKind.i64 ((i + 1 : Nat) : Int)], []) := fun q =>
      Nx.mk' (⟨i + 1, by omega⟩ : {i : Nat // i ≤ x.length}) (by simp only [besI]; rw [if_neg q]) (by simp only; omega)
    exact ⟨fun h2 => yes (.inl h2), fun h2 => ⟨by unfold NonN; omega, _, gX_row (by omega), _, rfl, by unfold NonN; omega, _, gX_row (by omega), _, rfl, fun h3 => yes (.inr h3), fun h3 => no (by rintro (q | q); exact h2 q; exact h3 q)⟩⟩
  · have e : i = x.length := by omega
    subst e
    exact h)
theorem okOut : SpecOk Try.prog 14 SOut := specOk_of' X0_ok mixed (fun args kb K h => by
  unfold SOut at h; split at h <;> try exact h.elim
  obtain ⟨x, i, rfl, rfl, hi, hx, h⟩ := h
  refine ⟨noT _, vcOut x i K ?_⟩
  have w1 : IntKind.i64.wrap ((i : Int) + 1) = ((i + 1 : Nat) : Int) := by rw [w64 (by omega) (by omega)]; omega
  have e1 : List.take (0 + (List.drop 0 (List.take i (List.map itD x))).length) ([] ++ List.drop 0 (List.take i (List.map itD x))) = (x.take i).map itD := by
    rw [List.drop_zero, List.nil_append, Nat.zero_add, List.take_length, List.map_take]
  have e2 : List.drop (i + 1) (List.take (List.map itD x).length (List.map itD x)) = (x.drop (i + 1)).map itD := by rw [List.take_length, List.map_drop]
  simp only [w1, Int.toNat_natCast, e1, e2]
  have e3 : (x.eraseIdx i).map itD = (x.take i).map itD ++ (x.drop (i + 1)).map itD := by rw [List.eraseIdx_eq_take_drop_succ, List.map_append]
  rw [e3] at h
  simp only [List.length_map, List.length_drop, List.length_take, List.drop_zero, List.length_append, List.length_nil]
  refine ⟨trivial, by unfold NonN; omega, by omega, by omega, by unfold NonN; omega, trivial, by omega, Nat.le_refl _, trivial, by omega, by omega, trivial, by omega, by omega, ?_⟩
  rw [show 0 + min i x.length + (x.length - (i + 1)) = x.length - 1 by omega]
  exact h)
theorem okSameLt : SpecOk Try.prog 10 SSameL := specOk_of' XMa1_ok mixed (fun args kb K h => by
  unfold SSameL at h; split at h <;> try exact h.elim
  rename_i f t _ f' t' _
  obtain ⟨a, b, rfl, rfl, hs, h⟩ := h
  refine ⟨noT _, vcSameL f t f' t' a b K ⟨fun h1 => ⟨fun h2 => ⟨a, b, rfl, rfl, ?_, ?_⟩, fun h2 => ?_⟩, fun h1 => ?_⟩⟩
  · unfold Sm at hs; exact Nat.le_eq ▸ hs
  · simp only [beq_iff_eq] at h1 h2
    subst h1; subst h2
    simp only [true_and] at h; exact h
  · simp only [beq_eq_false_iff_ne, ne_eq] at h2
    rw [decide_eq_false (fun q => h2 q.2.1)] at h; exact h
  · simp only [beq_eq_false_iff_ne, ne_eq] at h1
    rw [decide_eq_false (fun q => h1 q.1)] at h; exact h)
end Go.Proofs.Ytnlhpjfdnimpjaa
