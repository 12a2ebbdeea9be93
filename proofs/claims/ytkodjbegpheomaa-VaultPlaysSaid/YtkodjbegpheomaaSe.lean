import Derived.Test.YtkodjbegpheomaaPkC
import Derived.Test.YtkodjbegpheomaaCrcB
import Derived.Test.YtkodjbegpheomaaVdW
import Derived.KernelRfl
namespace Go.Proofs.Ytkodjbegpheomaa
open Vc Go
set_option linter.unusedVariables false
set_option linter.unusedSimpArgs false
set_option maxRecDepth 100000
/-- A device's row of sectors, 64 bytes each. -/
def secs (x : List (List Int)) : List (List D) := x.map (dns .u8)
def zer (n : Nat) : List (List Int) := List.replicate n (List.replicate 64 0)
structure Sec64 (x : List (List Int)) : Prop where
  len : x.length ≤ 4096
  each : ∀ b ∈ x, b.length = 64
abbrev devC (n m : Nat) : KO := .cells [.sl 1 0 n, .sl 2 0 m, .int .i64 (-1), .sb false]
abbrev secR (x : List (List Int)) : KO := .row 82 64 (secs x)
abbrev waiR (w : List (List D)) : KO := .row 84 129 w
/-- A device that neither burns nor is off. -/
def Sburns : FSpec := fun args kb K => match args, kb with
  | [.ptr 0 0], [.cells [.sl 1 0 n, .sl 2 0 m, .int .i64 (-1), .sb false], .row 82 64 X, .row 84 129 w] => K (.sb false) [devC n m, .row 82 64 X, waiR w]
  | _, _ => False
def seS : FuncId → Option Known
  | 78 => some ⟨[], Sburns⟩
  | _ => none
noncomputable def XSe : CallT := callS Try.prog seS noT 10
def gS (x : List (List Int)) (i : Int) : List Int := x.getD i.toNat []
structure WrI (x : List (List Int)) (i : Int) (b : List Int) : Prop where
  lo : 0 ≤ i
  hi : i < x.length
  b64 : b.length = 64
abbrev wrC1 (x : List (List Int)) (w : List (List D)) (i : Int) (b : List Int) : LI where
  α := {q : Nat // WrI x i b}
  live := [0, 1, 2]
  st q := ([.ptr 0 0, .int .i64 i, .dat (.sl 1 (ints .u8 b))], [devC x.length w.length, secR x, waiR w])
  μ q := 0
abbrev wrC2 (x : List (List Int)) (w : List (List D)) (i : Int) (b : List Int) : LI where
  α := {q : Nat // WrI x i b}
  live := [0, 1, 7]
  st q := ([.ptr 0 0, .int .i64 i, .ptr 3 0], [devC x.length w.length, secR x, waiR w, .cells [.int .i64 i, .arr 64 (dns .u8 (gS x i)), .arr 64 (dns .u8 b)]])
  μ q := 0
def wrT (x : List (List Int)) (w : List (List D)) (i : Int) (b : List Int) : FuncId → Nat → Option LI
  | 67, 1005 => some (wrC1 x w i b)
  | 67, 1006 => some (wrC2 x w i b)
  | _, _ => none
structure OkD (x : List (List Int)) (w : List (List D)) : Prop where
  s : Sec64 x
  wl : w.length ≤ 100000
  p : Plain w.flatten
def SdWrite : FSpec := fun args kb K => match args, kb with
  | [.ptr 0 0, .int .i64 i, .dat (.sl 1 B)], [.cells [.sl 1 0 n, .sl 2 0 m, .int .i64 (-1), .sb false], .row 82 64 X, .row 84 129 w] => ∃ (x : List (List Int)) (b : List Int), X = secs x ∧ B = ints .u8 b ∧ n = x.length ∧ m = w.length ∧ OkD x w ∧
      (¬ WrI x i b → K (.int .i64 1) [devC n m, secR x, waiR w]) ∧
      (WrI x i b → K (.int .i64 0) [.cells [.sl 1 0 x.length, .sl 3 0 (w.length + 1), .int .i64 (-1), .sb false], secR (x.set i.toNat b), .dead, waiR (w ++ [.val (.int .i64 i) :: (dns .u8 (gS x i) ++ dns .u8 b)])])
  | _, _ => False
structure NewI (n : Int) : Prop where
  lo : 1 ≤ n
  hi : n ≤ 4096
def SdNew : FSpec := fun args kb K => match args, kb with
  | [.int .i64 n], [] => (¬ NewI n → K (.any (.pointer none)) []) ∧ (NewI n → K (.ptr 0 0) [devC n.toNat 0, secR (zer n.toNat), waiR []])
  | _, _ => False
def SdFlush : FSpec := fun args kb K => match args, kb with
  | [.ptr 0 0], [.cells [.sl 1 0 n, .sl 2 0 m, .int .i64 (-1), .sb false], .row 82 64 X, .row 84 129 w] => ∃ x : List (List Int), X = secs x ∧ n = x.length ∧ m = w.length ∧ K (.int .i64 0) [.cells [.sl 1 0 x.length, .sl 3 0 0, .int .i64 (-1), .sb false], secR x, waiR w, waiR []]
  | _, _ => False
def SdLen : FSpec := fun args kb K => match args, kb with
  | [.ptr 0 0], [.cells [.sl 1 0 n, .sl 2 0 m, .int .i64 (-1), .sb false], .row 82 64 X, .row 84 129 w] => ∃ x : List (List Int), X = secs x ∧ n = x.length ∧ m = w.length ∧ K (.int .i64 (x.length : Int)) [devC x.length w.length, secR x, waiR w]
  | _, _ => False
def dRd (x : List (List Int)) (i : Int) : List Int × Int := if 0 ≤ i ∧ i < x.length then (gS x i, 0) else ([], 1)
def SdRead : FSpec := fun args kb K => match args, kb with
  | [.ptr 0 0, .int .i64 i], [.cells [.sl 1 0 n, .sl 2 0 m, .int .i64 (-1), .sb false], .row 82 64 X, .row 84 129 w] => ∃ x : List (List Int), X = secs x ∧ n = x.length ∧ m = w.length ∧ Sec64 x ∧
      K (.tup [.sl 3 0 (dRd x i).1.length, .int .i64 (dRd x i).2]) [devC x.length w.length, secR x, waiR w, .row 5 1 (ints .u8 (dRd x i).1)]
  | _, _ => False
theorem vcBurns (X : List (List D)) (w : List (List D)) (n m : Nat) (K : V → KB → Prop) (hvc_ :
 (false = true → K (V.sb true) [KO.cells [V.sl 1 0 n, V.sl 2 0 m, V.int IntKind.i64 (-1), V.sb false], KO.row 82 64 X, KO.row 84 129 w]) ∧
 (false = false →
 (false = true → K (V.sb true) [KO.cells [V.sl 1 0 n, V.sl 2 0 m, V.int IntKind.i64 (-1), V.sb true], KO.row 82 64 X, KO.row 84 129 w]) ∧
 (false = false → (false = true → K (V.sb false) [KO.cells [V.sl 1 0 n, V.sl 2 0 m, V.int IntKind.i64 (-2), V.sb false], KO.row 82 64 X, KO.row 84 129 w]) ∧ (false = false → K (V.sb false) [KO.cells [V.sl 1 0 n, V.sl 2 0 m, V.int IntKind.i64 (-1), V.sb false], KO.row 82 64 X, KO.row 84 129 w])))
 ) : runSpec Try.prog X0 (noT 78) 78 [.ptr 0 0] [devC n m, .row 82 64 X, waiR w] K := by apply Eq.mp (a := hvc_); kernel_rfl
theorem vcNew (n : Int) (K : V → KB → Prop) (hvc_ :
 (decide (n < 1) = true → K (V.any (Value.pointer none)) []) ∧
 (decide (n < 1) = false →
 (decide (n > 4096) = true → K (V.any (Value.pointer none)) []) ∧
 (decide (n > 4096) = false →
 NonN n ∧
 Room n n 64 ∧
 K (V.ptr 0 0)
 [KO.cells [V.sl 1 0 n.toNat, V.sl 2 0 0, V.int IntKind.i64 (-1), V.sb false],
 KO.row 82 64
 (List.replicate n.toNat
 (List.replicate 64 (D.val (Value.int IntKind.u8 0)))),
 KO.row 84 129 []]))
 ) : runSpec Try.prog X0 (noT 7) 7 [.int .i64 n] [] (nilRes [.cell 0 1 84 129] K) := by apply Eq.mp (a := hvc_); kernel_rfl
theorem vcLen (x : List (List Int)) (w : List (List D)) (K : V → KB → Prop) (hvc_ :
 K (V.int IntKind.i64 (↑(x.length - 0) : Int)) [KO.cells [V.sl 1 0 x.length, V.sl 2 0 w.length, V.int IntKind.i64 (-1), V.sb false], KO.row 82 64 (secs x), KO.row 84 129 w]
 ) : runSpec Try.prog X0 (noT 23) 23 [.ptr 0 0] [devC x.length w.length, secR x, waiR w] K := by apply Eq.mp (a := hvc_); kernel_rfl
theorem vcSRead (x : List (List Int)) (w : List (List D)) (i : Int) (K : V → KB → Prop) (hvc_ :
 (false = true → K (V.tup [V.sl 3 0 0, V.int IntKind.i64 17]) [KO.cells [V.sl 1 0 x.length, V.sl 2 0 w.length, V.int IntKind.i64 (-1), V.sb false], KO.row 82 64 (secs x), KO.row 84 129 w, KO.row 5 1 []]) ∧
 (false = false →
 (decide (i ≥ 0) = true →
 ((!decide (i < (↑(x.length - 0) : Int))) = true → K (V.tup [V.sl 3 0 0, V.int IntKind.i64 1]) [KO.cells [V.sl 1 0 x.length, V.sl 2 0 w.length, V.int IntKind.i64 (-1), V.sb false], KO.row 82 64 (secs x), KO.row 84 129 w, KO.row 5 1 []]) ∧
 ((!decide (i < (↑(x.length - 0) : Int))) = false →
 InB i (x.length - 0) ∧
 True ∧
 True ∧
 0 ≤ 64 ∧
 64 ≤ 64 ∧
 ∀ (b : Bool),
 (b = true → 64 = 0) →
 (b = true → K (V.tup [V.sl 3 0 0, V.int IntKind.i64 0]) [KO.cells [V.sl 1 0 x.length, V.sl 2 0 w.length, V.int IntKind.i64 (-1), V.sb false], KO.row 82 64 (secs x), KO.row 84 129 w, KO.row 5 1 []]) ∧
 (b = false →
 (0 + i.toNat < (secs x).length ∧ 64 ≤ 64) ∧
 0 ≤ 0 ∧
 (0 + (ones (List.take 64 (List.drop 0 ((secs x)[0 + i.toNat]?.getD [])))).length) * 1 ≤ 140737488355328 ∧
 K (V.tup [V.sl 3 0 (0 + (ones (List.take 64 (List.drop 0 ((secs x)[0 + i.toNat]?.getD [])))).length), V.int IntKind.i64 0]) [KO.cells [V.sl 1 0 x.length, V.sl 2 0 w.length, V.int IntKind.i64 (-1), V.sb false], KO.row 82 64 (secs x), KO.row 84 129 w, KO.row 5 1 ([] ++ ones (List.take 64 (List.drop 0 ((secs x)[0 + i.toNat]?.getD []))))]))) ∧
 (decide (i ≥ 0) = false → K (V.tup [V.sl 3 0 0, V.int IntKind.i64 1]) [KO.cells [V.sl 1 0 x.length, V.sl 2 0 w.length, V.int IntKind.i64 (-1), V.sb false], KO.row 82 64 (secs x), KO.row 84 129 w, KO.row 5 1 []]))
 ) : runSpec Try.prog X0 (noT 38) 38 [.ptr 0 0, .int .i64 i] [devC x.length w.length, secR x, waiR w] (nilRes [.slot 0 5 1] (tidyRes 3 K)) := by apply Eq.mp (a := hvc_); kernel_rfl
theorem vcSWrite (x : List (List Int)) (w : List (List D)) (i : Int) (b : List Int) (K : V → KB → Prop) (hvc_ :
 ((false = true → K (V.int IntKind.i64 16) [KO.cells [V.sl 1 0 x.length, V.sl 2 0 w.length, V.int IntKind.i64 (-1), V.sb false], KO.row 82 64 (secs x), KO.row 84 129 w]) ∧
 (false = false →
 (decide (i ≥ 0) = true →
 ((!decide (i < (↑(x.length - 0) : Int))) = true → K (V.int IntKind.i64 1) [KO.cells [V.sl 1 0 x.length, V.sl 2 0 w.length, V.int IntKind.i64 (-1), V.sb false], KO.row 82 64 (secs x), KO.row 84 129 w]) ∧
 ((!decide (i < (↑(x.length - 0) : Int))) = false →
 (((↑(ints IntKind.u8 b).length : Int) != 64) = true → K (V.int IntKind.i64 1) [KO.cells [V.sl 1 0 x.length, V.sl 2 0 w.length, V.int IntKind.i64 (-1), V.sb false], KO.row 82 64 (secs x), KO.row 84 129 w]) ∧
 (((↑(ints IntKind.u8 b).length : Int) != 64) = false → At (wrC1 x w i b) ([V.ptr 0 0, V.int IntKind.i64 i, V.dat (D.sl 1 (ints IntKind.u8 b))], [KO.cells [V.sl 1 0 x.length, V.sl 2 0 w.length, V.int IntKind.i64 (-1), V.sb false], KO.row 82 64 (secs x), KO.row 84 129 w])))) ∧
 (decide (i ≥ 0) = false → K (V.int IntKind.i64 1) [KO.cells [V.sl 1 0 x.length, V.sl 2 0 w.length, V.int IntKind.i64 (-1), V.sb false], KO.row 82 64 (secs x), KO.row 84 129 w]))) ∧
 ∀ (i_1 : { q : Nat // WrI x i b }),
 ((InB i (x.length - 0) ∧
 ∃ (e : List D),
 (secs x)[0 + i.toNat]? = some e ∧
 64 ≤ e.length ∧
 64 ≤ (ints IntKind.u8 b).length ∧
 64 ≤ (ints IntKind.u8 b).flatten.length ∧
 (PlainD (List.take 64 (List.drop 0 (ints IntKind.u8 b).flatten)) ∧ 64 ≤ (ints IntKind.u8 b).flatten.length ∧ V.arr 64 (List.take 64 (List.drop 0 (ints IntKind.u8 b).flatten)) = V.arr 64 (List.take 64 (List.drop 0 (ints IntKind.u8 b).flatten))) ∧
 (PlainD (List.take 64 (List.drop 0 e)) ∧ ∃ (e_1 : List D), (secs x)[0 + i.toNat]? = some e_1 ∧ 64 ≤ e_1.length ∧ V.arr 64 (List.take 64 (List.drop 0 e_1)) = V.arr 64 (List.take 64 (List.drop 0 e))) ∧
 At (wrC2 x w i b) ([V.ptr 0 0, V.int IntKind.i64 i, V.ptr 3 0], [KO.cells [V.sl 1 0 x.length, V.sl 2 0 w.length, V.int IntKind.i64 (-1), V.sb false], KO.row 82 64 (secs x), KO.row 84 129 w, KO.cells [V.int IntKind.i64 i, V.arr 64 (List.take 64 (List.drop 0 e)), V.arr 64 (List.take 64 (List.drop 0 (ints IntKind.u8 b).flatten))]])) ∧
 ((InB i (x.length - 0) ∧
 ∃ (e : List D),
 (secs x)[0 + i.toNat]? = some e ∧
 64 ≤ e.length ∧
 64 ≤ (ints IntKind.u8 b).length ∧
 64 ≤ (ints IntKind.u8 b).flatten.length ∧
 (PlainD (List.take 64 (List.drop 0 (ints IntKind.u8 b).flatten)) ∧ 64 ≤ (ints IntKind.u8 b).flatten.length ∧ V.arr 64 (List.take 64 (List.drop 0 (ints IntKind.u8 b).flatten)) = V.arr 64 (List.take 64 (List.drop 0 (ints IntKind.u8 b).flatten))) ∧
 (PlainD (List.take 64 (List.drop 0 e)) ∧ ∃ (e_1 : List D), (secs x)[0 + i.toNat]? = some e_1 ∧ 64 ≤ e_1.length ∧ V.arr 64 (List.take 64 (List.drop 0 e_1)) = V.arr 64 (List.take 64 (List.drop 0 e))) ∧
 At (wrC2 x w i b) ([V.ptr 0 0, V.int IntKind.i64 i, V.ptr 3 0], [KO.cells [V.sl 1 0 x.length, V.sl 2 0 w.length, V.int IntKind.i64 (-1), V.sb false], KO.row 82 64 (secs x), KO.row 84 129 w, KO.cells [V.int IntKind.i64 i, V.arr 64 (List.take 64 (List.drop 0 e)), V.arr 64 (List.take 64 (List.drop 0 (ints IntKind.u8 b).flatten))]])) ∧
 ((InB i (x.length - 0) ∧
 ∃ (e : List D),
 (secs x)[0 + i.toNat]? = some e ∧
 64 ≤ e.length ∧
 64 ≤ (ints IntKind.u8 b).length ∧
 64 ≤ (ints IntKind.u8 b).flatten.length ∧
 (PlainD (List.take 64 (List.drop 0 (ints IntKind.u8 b).flatten)) ∧ 64 ≤ (ints IntKind.u8 b).flatten.length ∧ V.arr 64 (List.take 64 (List.drop 0 (ints IntKind.u8 b).flatten)) = V.arr 64 (List.take 64 (List.drop 0 (ints IntKind.u8 b).flatten))) ∧
 (PlainD (List.take 64 (List.drop 0 e)) ∧ ∃ (e_1 : List D), (secs x)[0 + i.toNat]? = some e_1 ∧ 64 ≤ e_1.length ∧ V.arr 64 (List.take 64 (List.drop 0 e_1)) = V.arr 64 (List.take 64 (List.drop 0 e))) ∧
 At (wrC2 x w i b) ([V.ptr 0 0, V.int IntKind.i64 i, V.ptr 3 0], [KO.cells [V.sl 1 0 x.length, V.sl 2 0 w.length, V.int IntKind.i64 (-1), V.sb false], KO.row 82 64 (secs x), KO.row 84 129 w, KO.cells [V.int IntKind.i64 i, V.arr 64 (List.take 64 (List.drop 0 e)), V.arr 64 (List.take 64 (List.drop 0 (ints IntKind.u8 b).flatten))]])) ∧
 (64 ≤ (ints IntKind.u8 b).length ∧
 (InB i (x.length - 0) ∧
 ∃ (e : List D),
 (secs x)[0 + i.toNat]? = some e ∧
 64 ≤ e.length ∧
 64 ≤ (ints IntKind.u8 b).flatten.length ∧
 (PlainD (List.take 64 (List.drop 0 (ints IntKind.u8 b).flatten)) ∧ 64 ≤ (ints IntKind.u8 b).flatten.length ∧ V.arr 64 (List.take 64 (List.drop 0 (ints IntKind.u8 b).flatten)) = V.arr 64 (List.take 64 (List.drop 0 (ints IntKind.u8 b).flatten))) ∧
 (PlainD (List.take 64 (List.drop 0 e)) ∧ ∃ (e_1 : List D), (secs x)[0 + i.toNat]? = some e_1 ∧ 64 ≤ e_1.length ∧ V.arr 64 (List.take 64 (List.drop 0 e_1)) = V.arr 64 (List.take 64 (List.drop 0 e))) ∧
 At (wrC2 x w i b) ([V.ptr 0 0, V.int IntKind.i64 i, V.ptr 3 0], [KO.cells [V.sl 1 0 x.length, V.sl 2 0 w.length, V.int IntKind.i64 (-1), V.sb false], KO.row 82 64 (secs x), KO.row 84 129 w, KO.cells [V.int IntKind.i64 i, V.arr 64 (List.take 64 (List.drop 0 e)), V.arr 64 (List.take 64 (List.drop 0 (ints IntKind.u8 b).flatten))]])) ∧
 (64 ≤ (ints IntKind.u8 b).flatten.length ∧
 (InB i (x.length - 0) ∧
 ∃ (e : List D),
 (secs x)[0 + i.toNat]? = some e ∧
 64 ≤ e.length ∧
 (PlainD (List.take 64 (List.drop 0 e)) ∧ ∃ (e_1 : List D), (secs x)[0 + i.toNat]? = some e_1 ∧ 64 ≤ e_1.length ∧ V.arr 64 (List.take 64 (List.drop 0 e_1)) = V.arr 64 (List.take 64 (List.drop 0 e))) ∧
 At (wrC2 x w i b) ([V.ptr 0 0, V.int IntKind.i64 i, V.ptr 3 0], [KO.cells [V.sl 1 0 x.length, V.sl 2 0 w.length, V.int IntKind.i64 (-1), V.sb false], KO.row 82 64 (secs x), KO.row 84 129 w, KO.cells [V.int IntKind.i64 i, V.arr 64 (List.take 64 (List.drop 0 e)), V.arr 64 (List.take 64 (List.drop 0 (ints IntKind.u8 b).flatten))]])) ∧
 InB i (x.length - 0) ∧
 ∃ (e : List D),
 (secs x)[0 + i.toNat]? = some e ∧
 64 ≤ e.length ∧ At (wrC2 x w i b) ([V.ptr 0 0, V.int IntKind.i64 i, V.ptr 3 0], [KO.cells [V.sl 1 0 x.length, V.sl 2 0 w.length, V.int IntKind.i64 (-1), V.sb false], KO.row 82 64 (secs x), KO.row 84 129 w, KO.cells [V.int IntKind.i64 i, V.arr 64 (List.take 64 (List.drop 0 e)), V.arr 64 (List.take 64 (List.drop 0 (ints IntKind.u8 b).flatten))]])) ∧
 InB i (x.length - 0) ∧
 ∃ (e : List D),
 (secs x)[0 + i.toNat]? = some e ∧
 64 ≤ e.length ∧
 64 ≤ (ints IntKind.u8 b).flatten.length ∧
 At (wrC2 x w i b) ([V.ptr 0 0, V.int IntKind.i64 i, V.ptr 3 0], [KO.cells [V.sl 1 0 x.length, V.sl 2 0 w.length, V.int IntKind.i64 (-1), V.sb false], KO.row 82 64 (secs x), KO.row 84 129 w, KO.cells [V.int IntKind.i64 i, V.arr 64 (List.take 64 (List.drop 0 e)), V.arr 64 (List.take 64 (List.drop 0 (ints IntKind.u8 b).flatten))]])) ∧
 InB i (x.length - 0) ∧
 ∃ (e : List D),
 (secs x)[0 + i.toNat]? = some e ∧
 64 ≤ e.length ∧
 64 ≤ (ints IntKind.u8 b).length ∧
 64 ≤ (ints IntKind.u8 b).flatten.length ∧
 At (wrC2 x w i b) ([V.ptr 0 0, V.int IntKind.i64 i, V.ptr 3 0], [KO.cells [V.sl 1 0 x.length, V.sl 2 0 w.length, V.int IntKind.i64 (-1), V.sb false], KO.row 82 64 (secs x), KO.row 84 129 w, KO.cells [V.int IntKind.i64 i, V.arr 64 (List.take 64 (List.drop 0 e)), V.arr 64 (List.take 64 (List.drop 0 (ints IntKind.u8 b).flatten))]])) ∧
 InB i (x.length - 0) ∧
 ∃ (e : List D),
 (secs x)[0 + i.toNat]? = some e ∧
 64 ≤ e.length ∧
 64 ≤ (ints IntKind.u8 b).length ∧
 64 ≤ (ints IntKind.u8 b).flatten.length ∧ At (wrC2 x w i b) ([V.ptr 0 0, V.int IntKind.i64 i, V.ptr 3 0], [KO.cells [V.sl 1 0 x.length, V.sl 2 0 w.length, V.int IntKind.i64 (-1), V.sb false], KO.row 82 64 (secs x), KO.row 84 129 w, KO.cells [V.int IntKind.i64 i, V.arr 64 (List.take 64 (List.drop 0 e)), V.arr 64 (List.take 64 (List.drop 0 (ints IntKind.u8 b).flatten))]])) ∧
 ((InB i (x.length - 0) ∧
 ∃ (e : List D),
 (secs x)[0 + i.toNat]? = some e ∧
 64 ≤ e.length ∧
 64 ≤ (ints IntKind.u8 b).length ∧
 64 ≤ (ints IntKind.u8 b).flatten.length ∧
 (PlainD (List.take 64 (List.drop 0 (ints IntKind.u8 b).flatten)) ∧ 64 ≤ (ints IntKind.u8 b).flatten.length ∧ V.arr 64 (List.take 64 (List.drop 0 (ints IntKind.u8 b).flatten)) = V.arr 64 (List.take 64 (List.drop 0 (ints IntKind.u8 b).flatten))) ∧
 (PlainD (List.take 64 (List.drop 0 e)) ∧ ∃ (e_1 : List D), (secs x)[0 + i.toNat]? = some e_1 ∧ 64 ≤ e_1.length ∧ V.arr 64 (List.take 64 (List.drop 0 e_1)) = V.arr 64 (List.take 64 (List.drop 0 e))) ∧
 At (wrC2 x w i b) ([V.ptr 0 0, V.int IntKind.i64 i, V.ptr 3 0], [KO.cells [V.sl 1 0 x.length, V.sl 2 0 w.length, V.int IntKind.i64 (-1), V.sb false], KO.row 82 64 (secs x), KO.row 84 129 w, KO.cells [V.int IntKind.i64 i, V.arr 64 (List.take 64 (List.drop 0 e)), V.arr 64 (List.take 64 (List.drop 0 (ints IntKind.u8 b).flatten))]])) ∧
 ((InB i (x.length - 0) ∧
 ∃ (e : List D),
 (secs x)[0 + i.toNat]? = some e ∧
 64 ≤ e.length ∧
 64 ≤ (ints IntKind.u8 b).length ∧
 64 ≤ (ints IntKind.u8 b).flatten.length ∧
 (PlainD (List.take 64 (List.drop 0 (ints IntKind.u8 b).flatten)) ∧ 64 ≤ (ints IntKind.u8 b).flatten.length ∧ V.arr 64 (List.take 64 (List.drop 0 (ints IntKind.u8 b).flatten)) = V.arr 64 (List.take 64 (List.drop 0 (ints IntKind.u8 b).flatten))) ∧
 (PlainD (List.take 64 (List.drop 0 e)) ∧ ∃ (e_1 : List D), (secs x)[0 + i.toNat]? = some e_1 ∧ 64 ≤ e_1.length ∧ V.arr 64 (List.take 64 (List.drop 0 e_1)) = V.arr 64 (List.take 64 (List.drop 0 e))) ∧
 At (wrC2 x w i b) ([V.ptr 0 0, V.int IntKind.i64 i, V.ptr 3 0], [KO.cells [V.sl 1 0 x.length, V.sl 2 0 w.length, V.int IntKind.i64 (-1), V.sb false], KO.row 82 64 (secs x), KO.row 84 129 w, KO.cells [V.int IntKind.i64 i, V.arr 64 (List.take 64 (List.drop 0 e)), V.arr 64 (List.take 64 (List.drop 0 (ints IntKind.u8 b).flatten))]])) ∧
 (64 ≤ (ints IntKind.u8 b).length ∧
 (InB i (x.length - 0) ∧
 ∃ (e : List D),
 (secs x)[0 + i.toNat]? = some e ∧
 64 ≤ e.length ∧
 64 ≤ (ints IntKind.u8 b).flatten.length ∧
 (PlainD (List.take 64 (List.drop 0 (ints IntKind.u8 b).flatten)) ∧ 64 ≤ (ints IntKind.u8 b).flatten.length ∧ V.arr 64 (List.take 64 (List.drop 0 (ints IntKind.u8 b).flatten)) = V.arr 64 (List.take 64 (List.drop 0 (ints IntKind.u8 b).flatten))) ∧
 (PlainD (List.take 64 (List.drop 0 e)) ∧ ∃ (e_1 : List D), (secs x)[0 + i.toNat]? = some e_1 ∧ 64 ≤ e_1.length ∧ V.arr 64 (List.take 64 (List.drop 0 e_1)) = V.arr 64 (List.take 64 (List.drop 0 e))) ∧
 At (wrC2 x w i b) ([V.ptr 0 0, V.int IntKind.i64 i, V.ptr 3 0], [KO.cells [V.sl 1 0 x.length, V.sl 2 0 w.length, V.int IntKind.i64 (-1), V.sb false], KO.row 82 64 (secs x), KO.row 84 129 w, KO.cells [V.int IntKind.i64 i, V.arr 64 (List.take 64 (List.drop 0 e)), V.arr 64 (List.take 64 (List.drop 0 (ints IntKind.u8 b).flatten))]])) ∧
 (64 ≤ (ints IntKind.u8 b).flatten.length ∧
 (InB i (x.length - 0) ∧
 ∃ (e : List D),
 (secs x)[0 + i.toNat]? = some e ∧
 64 ≤ e.length ∧
 (PlainD (List.take 64 (List.drop 0 e)) ∧ ∃ (e_1 : List D), (secs x)[0 + i.toNat]? = some e_1 ∧ 64 ≤ e_1.length ∧ V.arr 64 (List.take 64 (List.drop 0 e_1)) = V.arr 64 (List.take 64 (List.drop 0 e))) ∧
 At (wrC2 x w i b) ([V.ptr 0 0, V.int IntKind.i64 i, V.ptr 3 0], [KO.cells [V.sl 1 0 x.length, V.sl 2 0 w.length, V.int IntKind.i64 (-1), V.sb false], KO.row 82 64 (secs x), KO.row 84 129 w, KO.cells [V.int IntKind.i64 i, V.arr 64 (List.take 64 (List.drop 0 e)), V.arr 64 (List.take 64 (List.drop 0 (ints IntKind.u8 b).flatten))]])) ∧
 InB i (x.length - 0) ∧
 ∃ (e : List D),
 (secs x)[0 + i.toNat]? = some e ∧
 64 ≤ e.length ∧ At (wrC2 x w i b) ([V.ptr 0 0, V.int IntKind.i64 i, V.ptr 3 0], [KO.cells [V.sl 1 0 x.length, V.sl 2 0 w.length, V.int IntKind.i64 (-1), V.sb false], KO.row 82 64 (secs x), KO.row 84 129 w, KO.cells [V.int IntKind.i64 i, V.arr 64 (List.take 64 (List.drop 0 e)), V.arr 64 (List.take 64 (List.drop 0 (ints IntKind.u8 b).flatten))]])) ∧
 InB i (x.length - 0) ∧
 ∃ (e : List D),
 (secs x)[0 + i.toNat]? = some e ∧
 64 ≤ e.length ∧
 64 ≤ (ints IntKind.u8 b).flatten.length ∧
 At (wrC2 x w i b) ([V.ptr 0 0, V.int IntKind.i64 i, V.ptr 3 0], [KO.cells [V.sl 1 0 x.length, V.sl 2 0 w.length, V.int IntKind.i64 (-1), V.sb false], KO.row 82 64 (secs x), KO.row 84 129 w, KO.cells [V.int IntKind.i64 i, V.arr 64 (List.take 64 (List.drop 0 e)), V.arr 64 (List.take 64 (List.drop 0 (ints IntKind.u8 b).flatten))]])) ∧
 InB i (x.length - 0) ∧
 ∃ (e : List D),
 (secs x)[0 + i.toNat]? = some e ∧
 64 ≤ e.length ∧
 64 ≤ (ints IntKind.u8 b).length ∧
 64 ≤ (ints IntKind.u8 b).flatten.length ∧
 At (wrC2 x w i b) ([V.ptr 0 0, V.int IntKind.i64 i, V.ptr 3 0], [KO.cells [V.sl 1 0 x.length, V.sl 2 0 w.length, V.int IntKind.i64 (-1), V.sb false], KO.row 82 64 (secs x), KO.row 84 129 w, KO.cells [V.int IntKind.i64 i, V.arr 64 (List.take 64 (List.drop 0 e)), V.arr 64 (List.take 64 (List.drop 0 (ints IntKind.u8 b).flatten))]])) ∧
 (64 ≤ (ints IntKind.u8 b).length ∧
 (InB i (x.length - 0) ∧
 ∃ (e : List D),
 (secs x)[0 + i.toNat]? = some e ∧
 64 ≤ e.length ∧
 64 ≤ (ints IntKind.u8 b).flatten.length ∧
 (PlainD (List.take 64 (List.drop 0 (ints IntKind.u8 b).flatten)) ∧ 64 ≤ (ints IntKind.u8 b).flatten.length ∧ V.arr 64 (List.take 64 (List.drop 0 (ints IntKind.u8 b).flatten)) = V.arr 64 (List.take 64 (List.drop 0 (ints IntKind.u8 b).flatten))) ∧
 (PlainD (List.take 64 (List.drop 0 e)) ∧ ∃ (e_1 : List D), (secs x)[0 + i.toNat]? = some e_1 ∧ 64 ≤ e_1.length ∧ V.arr 64 (List.take 64 (List.drop 0 e_1)) = V.arr 64 (List.take 64 (List.drop 0 e))) ∧
 At (wrC2 x w i b) ([V.ptr 0 0, V.int IntKind.i64 i, V.ptr 3 0], [KO.cells [V.sl 1 0 x.length, V.sl 2 0 w.length, V.int IntKind.i64 (-1), V.sb false], KO.row 82 64 (secs x), KO.row 84 129 w, KO.cells [V.int IntKind.i64 i, V.arr 64 (List.take 64 (List.drop 0 e)), V.arr 64 (List.take 64 (List.drop 0 (ints IntKind.u8 b).flatten))]])) ∧
 ((InB i (x.length - 0) ∧
 ∃ (e : List D),
 (secs x)[0 + i.toNat]? = some e ∧
 64 ≤ e.length ∧
 64 ≤ (ints IntKind.u8 b).flatten.length ∧
 (PlainD (List.take 64 (List.drop 0 (ints IntKind.u8 b).flatten)) ∧ 64 ≤ (ints IntKind.u8 b).flatten.length ∧ V.arr 64 (List.take 64 (List.drop 0 (ints IntKind.u8 b).flatten)) = V.arr 64 (List.take 64 (List.drop 0 (ints IntKind.u8 b).flatten))) ∧
 (PlainD (List.take 64 (List.drop 0 e)) ∧ ∃ (e_1 : List D), (secs x)[0 + i.toNat]? = some e_1 ∧ 64 ≤ e_1.length ∧ V.arr 64 (List.take 64 (List.drop 0 e_1)) = V.arr 64 (List.take 64 (List.drop 0 e))) ∧
 At (wrC2 x w i b) ([V.ptr 0 0, V.int IntKind.i64 i, V.ptr 3 0], [KO.cells [V.sl 1 0 x.length, V.sl 2 0 w.length, V.int IntKind.i64 (-1), V.sb false], KO.row 82 64 (secs x), KO.row 84 129 w, KO.cells [V.int IntKind.i64 i, V.arr 64 (List.take 64 (List.drop 0 e)), V.arr 64 (List.take 64 (List.drop 0 (ints IntKind.u8 b).flatten))]])) ∧
 (64 ≤ (ints IntKind.u8 b).flatten.length ∧
 (InB i (x.length - 0) ∧
 ∃ (e : List D),
 (secs x)[0 + i.toNat]? = some e ∧
 64 ≤ e.length ∧
 (PlainD (List.take 64 (List.drop 0 e)) ∧ ∃ (e_1 : List D), (secs x)[0 + i.toNat]? = some e_1 ∧ 64 ≤ e_1.length ∧ V.arr 64 (List.take 64 (List.drop 0 e_1)) = V.arr 64 (List.take 64 (List.drop 0 e))) ∧
 At (wrC2 x w i b) ([V.ptr 0 0, V.int IntKind.i64 i, V.ptr 3 0], [KO.cells [V.sl 1 0 x.length, V.sl 2 0 w.length, V.int IntKind.i64 (-1), V.sb false], KO.row 82 64 (secs x), KO.row 84 129 w, KO.cells [V.int IntKind.i64 i, V.arr 64 (List.take 64 (List.drop 0 e)), V.arr 64 (List.take 64 (List.drop 0 (ints IntKind.u8 b).flatten))]])) ∧
 InB i (x.length - 0) ∧
 ∃ (e : List D),
 (secs x)[0 + i.toNat]? = some e ∧
 64 ≤ e.length ∧ At (wrC2 x w i b) ([V.ptr 0 0, V.int IntKind.i64 i, V.ptr 3 0], [KO.cells [V.sl 1 0 x.length, V.sl 2 0 w.length, V.int IntKind.i64 (-1), V.sb false], KO.row 82 64 (secs x), KO.row 84 129 w, KO.cells [V.int IntKind.i64 i, V.arr 64 (List.take 64 (List.drop 0 e)), V.arr 64 (List.take 64 (List.drop 0 (ints IntKind.u8 b).flatten))]])) ∧
 InB i (x.length - 0) ∧
 ∃ (e : List D),
 (secs x)[0 + i.toNat]? = some e ∧
 64 ≤ e.length ∧
 64 ≤ (ints IntKind.u8 b).flatten.length ∧
 At (wrC2 x w i b) ([V.ptr 0 0, V.int IntKind.i64 i, V.ptr 3 0], [KO.cells [V.sl 1 0 x.length, V.sl 2 0 w.length, V.int IntKind.i64 (-1), V.sb false], KO.row 82 64 (secs x), KO.row 84 129 w, KO.cells [V.int IntKind.i64 i, V.arr 64 (List.take 64 (List.drop 0 e)), V.arr 64 (List.take 64 (List.drop 0 (ints IntKind.u8 b).flatten))]])) ∧
 (64 ≤ (ints IntKind.u8 b).flatten.length ∧
 (InB i (x.length - 0) ∧
 ∃ (e : List D),
 (secs x)[0 + i.toNat]? = some e ∧
 64 ≤ e.length ∧
 (PlainD (List.take 64 (List.drop 0 e)) ∧ ∃ (e_1 : List D), (secs x)[0 + i.toNat]? = some e_1 ∧ 64 ≤ e_1.length ∧ V.arr 64 (List.take 64 (List.drop 0 e_1)) = V.arr 64 (List.take 64 (List.drop 0 e))) ∧
 At (wrC2 x w i b) ([V.ptr 0 0, V.int IntKind.i64 i, V.ptr 3 0], [KO.cells [V.sl 1 0 x.length, V.sl 2 0 w.length, V.int IntKind.i64 (-1), V.sb false], KO.row 82 64 (secs x), KO.row 84 129 w, KO.cells [V.int IntKind.i64 i, V.arr 64 (List.take 64 (List.drop 0 e)), V.arr 64 (List.take 64 (List.drop 0 (ints IntKind.u8 b).flatten))]])) ∧
 ((InB i (x.length - 0) ∧
 ∃ (e : List D),
 (secs x)[0 + i.toNat]? = some e ∧
 64 ≤ e.length ∧
 (PlainD (List.take 64 (List.drop 0 e)) ∧ ∃ (e_1 : List D), (secs x)[0 + i.toNat]? = some e_1 ∧ 64 ≤ e_1.length ∧ V.arr 64 (List.take 64 (List.drop 0 e_1)) = V.arr 64 (List.take 64 (List.drop 0 e))) ∧
 At (wrC2 x w i b) ([V.ptr 0 0, V.int IntKind.i64 i, V.ptr 3 0], [KO.cells [V.sl 1 0 x.length, V.sl 2 0 w.length, V.int IntKind.i64 (-1), V.sb false], KO.row 82 64 (secs x), KO.row 84 129 w, KO.cells [V.int IntKind.i64 i, V.arr 64 (List.take 64 (List.drop 0 e)), V.arr 64 (List.take 64 (List.drop 0 (ints IntKind.u8 b).flatten))]])) ∧
 InB i (x.length - 0) ∧
 ∃ (e : List D),
 (secs x)[0 + i.toNat]? = some e ∧
 64 ≤ e.length ∧ At (wrC2 x w i b) ([V.ptr 0 0, V.int IntKind.i64 i, V.ptr 3 0], [KO.cells [V.sl 1 0 x.length, V.sl 2 0 w.length, V.int IntKind.i64 (-1), V.sb false], KO.row 82 64 (secs x), KO.row 84 129 w, KO.cells [V.int IntKind.i64 i, V.arr 64 (List.take 64 (List.drop 0 e)), V.arr 64 (List.take 64 (List.drop 0 (ints IntKind.u8 b).flatten))]])) ∧
 InB i (x.length - 0) ∧
 ∃ (e : List D),
 (secs x)[0 + i.toNat]? = some e ∧
 64 ≤ e.length ∧ At (wrC2 x w i b) ([V.ptr 0 0, V.int IntKind.i64 i, V.ptr 3 0], [KO.cells [V.sl 1 0 x.length, V.sl 2 0 w.length, V.int IntKind.i64 (-1), V.sb false], KO.row 82 64 (secs x), KO.row 84 129 w, KO.cells [V.int IntKind.i64 i, V.arr 64 (List.take 64 (List.drop 0 e)), V.arr 64 (List.take 64 (List.drop 0 (ints IntKind.u8 b).flatten))]])) ∧
 InB i (x.length - 0) ∧
 ∃ (e : List D),
 (secs x)[0 + i.toNat]? = some e ∧
 64 ≤ e.length ∧
 64 ≤ (ints IntKind.u8 b).flatten.length ∧
 At (wrC2 x w i b) ([V.ptr 0 0, V.int IntKind.i64 i, V.ptr 3 0], [KO.cells [V.sl 1 0 x.length, V.sl 2 0 w.length, V.int IntKind.i64 (-1), V.sb false], KO.row 82 64 (secs x), KO.row 84 129 w, KO.cells [V.int IntKind.i64 i, V.arr 64 (List.take 64 (List.drop 0 e)), V.arr 64 (List.take 64 (List.drop 0 (ints IntKind.u8 b).flatten))]])) ∧
 InB i (x.length - 0) ∧
 ∃ (e : List D),
 (secs x)[0 + i.toNat]? = some e ∧
 64 ≤ e.length ∧
 64 ≤ (ints IntKind.u8 b).length ∧
 64 ≤ (ints IntKind.u8 b).flatten.length ∧
 At (wrC2 x w i b) ([V.ptr 0 0, V.int IntKind.i64 i, V.ptr 3 0], [KO.cells [V.sl 1 0 x.length, V.sl 2 0 w.length, V.int IntKind.i64 (-1), V.sb false], KO.row 82 64 (secs x), KO.row 84 129 w, KO.cells [V.int IntKind.i64 i, V.arr 64 (List.take 64 (List.drop 0 e)), V.arr 64 (List.take 64 (List.drop 0 (ints IntKind.u8 b).flatten))]])) ∧
 InB i (x.length - 0) ∧
 ∃ (e : List D),
 (secs x)[0 + i.toNat]? = some e ∧
 64 ≤ e.length ∧
 64 ≤ (ints IntKind.u8 b).length ∧
 64 ≤ (ints IntKind.u8 b).flatten.length ∧ At (wrC2 x w i b) ([V.ptr 0 0, V.int IntKind.i64 i, V.ptr 3 0], [KO.cells [V.sl 1 0 x.length, V.sl 2 0 w.length, V.int IntKind.i64 (-1), V.sb false], KO.row 82 64 (secs x), KO.row 84 129 w, KO.cells [V.int IntKind.i64 i, V.arr 64 (List.take 64 (List.drop 0 e)), V.arr 64 (List.take 64 (List.drop 0 (ints IntKind.u8 b).flatten))]])) ∧
 ∀ (i_2 : { q : Nat // WrI x i b }),
 (1 ≤ 1 ∧
 w.length ≤ w.length ∧
 (w.length + 1) * 136 ≤ 140737488355328 ∧
 InB i (x.length - 0) ∧
 0 + i.toNat < (secs x).length ∧ K (V.int IntKind.i64 0) [KO.cells [V.sl 1 0 x.length, V.sl 3 0 (w.length + 1), V.int IntKind.i64 (-1), V.sb false], KO.row 82 64 ((secs x).set (0 + i.toNat) (appD (dns IntKind.u8 b) [])), KO.dead, KO.row 84 129 (List.take w.length w ++ [D.val (Value.int IntKind.i64 i) :: appD (dns IntKind.u8 (gS x i)) (appD (dns IntKind.u8 b) [])])]) ∧
 (1 ≤ 1 ∧
 w.length ≤ w.length ∧
 (w.length + 1) * 136 ≤ 140737488355328 ∧
 InB i (x.length - 0) ∧
 0 + i.toNat < (secs x).length ∧ K (V.int IntKind.i64 0) [KO.cells [V.sl 1 0 x.length, V.sl 3 0 (w.length + 1), V.int IntKind.i64 (-1), V.sb false], KO.row 82 64 ((secs x).set (0 + i.toNat) (appD (dns IntKind.u8 b) [])), KO.dead, KO.row 84 129 (List.take w.length w ++ [D.val (Value.int IntKind.i64 i) :: appD (dns IntKind.u8 (gS x i)) (appD (dns IntKind.u8 b) [])])]) ∧
 1 ≤ 1 ∧
 w.length ≤ w.length ∧
 (w.length + 1) * 136 ≤ 140737488355328 ∧
 InB i (x.length - 0) ∧
 0 + i.toNat < (secs x).length ∧ K (V.int IntKind.i64 0) [KO.cells [V.sl 1 0 x.length, V.sl 3 0 (w.length + 1), V.int IntKind.i64 (-1), V.sb false], KO.row 82 64 ((secs x).set (0 + i.toNat) (appD (dns IntKind.u8 b) [])), KO.dead, KO.row 84 129 (List.take w.length w ++ [D.val (Value.int IntKind.i64 i) :: appD (dns IntKind.u8 (gS x i)) (appD (dns IntKind.u8 b) [])])]
 ) : runSpec Try.prog XSe (wrT x w i b 67) 67 [.ptr 0 0, .int .i64 i, .dat (.sl 1 (ints .u8 b))] [devC x.length w.length, secR x, waiR w] (tidyRes 3 K) := by apply Eq.mp (a := hvc_); kernel_rfl
theorem vcFlush (x : List (List Int)) (w : List (List D)) (K : V → KB → Prop) (hvc_ :
 (false = true → K (V.int IntKind.i64 16) [KO.cells [V.sl 1 0 x.length, V.sl 2 0 w.length, V.int IntKind.i64 (-1), V.sb false], KO.row 82 64 (secs x), KO.row 84 129 w]) ∧ (false = false → K (V.int IntKind.i64 0) [KO.cells [V.sl 1 0 x.length, V.sl 3 0 0, V.int IntKind.i64 (-1), V.sb false], KO.row 82 64 (secs x), KO.row 84 129 w, KO.row 84 129 []])
 ) : runSpec Try.prog XSe (noT 71) 71 [.ptr 0 0] [devC x.length w.length, secR x, waiR w] (nilRes [.cell 0 1 84 129] K) := by apply Eq.mp (a := hvc_); kernel_rfl
theorem specOk_ntn {X : CallT} (hX : CallOk Try.prog X) (ds : List NilD) (n : Nat) {f : FuncId} {S : FSpec} (h : ∀ args kb K, S args kb K → kb.length = n ∧ ∃ T, runSpec Try.prog X T f args kb (nilRes ds (tidyRes n K))) : SpecOk Try.prog f S :=
  specOk_nt hX mixed ds fun args kb K hs => by obtain ⟨rfl, hh⟩ := h args kb K hs; exact hh
theorem specOk_tdn {X : CallT} (hX : CallOk Try.prog X) (n : Nat) {f : FuncId} {S : FSpec} (h : ∀ args kb K, S args kb K → kb.length = n ∧ ∃ T, runSpec Try.prog X T f args kb (tidyRes n K)) : SpecOk Try.prog f S :=
  specOk_tidy hX mixed fun args kb K hs => by obtain ⟨rfl, hh⟩ := h args kb K hs; exact hh
theorem okBurns : SpecOk Try.prog 78 Sburns := specOk_of' X0_ok mixed (fun args kb K h => by
  unfold Sburns at h; split at h <;> try exact h.elim
  exact ⟨noT _, vcBurns _ _ _ _ K ⟨fun f => (by cases f), fun _ => ⟨fun f => (by cases f), fun _ => ⟨fun f => (by cases f), fun _ => h⟩⟩⟩⟩)
theorem seS_ok : AllOk Try.prog seS := fun f k h => by
  unfold seS at h
  split at h <;> first | (cases h; exact okBurns) | cases h
theorem XSe_ok : CallOk Try.prog XSe := callS_ok mixed seS_ok noT 10
theorem gS_get {x : List (List Int)} {i : Int} (h0 : 0 ≤ i) (h : i < x.length) : (secs x)[0 + i.toNat]? = some (dns .u8 (gS x i)) := by
  unfold secs gS
  rw [Nat.zero_add, List.getElem?_map, List.getD_eq_getElem?_getD, List.getElem?_eq_getElem (by omega)]
  rfl
theorem gS_mem {x : List (List Int)} {i : Int} (h0 : 0 ≤ i) (h : i < x.length) : gS x i ∈ x := by
  unfold gS
  rw [List.getD_eq_getElem?_getD, List.getElem?_eq_getElem (by omega)]
  exact List.getElem_mem (by omega)
theorem secs_len {x : List (List Int)} : (secs x).length = x.length := List.length_map ..
theorem take64 {b : List Int} (h : b.length = 64) : List.take 64 (List.drop 0 (dns .u8 b)) = dns .u8 b := by
  rw [List.drop_zero]; exact List.take_of_length_le (by rw [dns_len]; omega)
theorem plain_d {b : List Int} : PlainD (dns .u8 b) := ⟨fun d hd => by obtain ⟨n, _, rfl⟩ := List.mem_map.1 hd; exact ⟨_, rfl⟩⟩
theorem okWrite : SpecOk Try.prog 67 SdWrite := specOk_tdn XSe_ok 3 (fun args kb K h => by
  unfold SdWrite at h; split at h <;> try exact h.elim
  rename_i i _ _ _ _ w
  obtain ⟨x, b, rfl, rfl, rfl, rfl, ⟨⟨hx, hx64⟩, hw, _⟩, hno, hy⟩ := h
  refine ⟨rfl, wrT x w i b 67, vcSWrite x w i b K ⟨⟨fun f => (by cases f), fun _ => ⟨fun h1 => ⟨fun h2 => hno fun q => ?_, fun h2 => ⟨fun h3 => hno fun q => ?_, fun h3 => ?_⟩⟩, fun h1 => hno fun q => ?_⟩⟩, ?_⟩⟩
  · have := q.hi
    simp only [Bool.not_eq_true', decide_eq_false_iff_not, Nat.sub_zero] at h2; omega
  · have := q.b64
    simp only [ints_len, bne_iff_ne, ne_eq] at h3; omega
  · simp only [Bool.not_eq_false', decide_eq_true_eq, Nat.sub_zero, ints_len, bne_eq_false_iff_eq] at h1 h2 h3
    exact At.mk' ⟨0, h1, h2, by omega⟩ rfl
  · have := q.lo
    simp only [decide_eq_false_iff_not] at h1; omega
  rintro ⟨_, hW⟩
  have hg := gS_get hW.lo hW.hi
  have h64 := hx64 _ (gS_mem hW.lo hW.hi)
  have t1 := take64 h64
  have hb64 := hW.b64
  have t2 := take64 hb64
  have hin : InB i (x.length - 0) := by unfold InB; have := hW.hi; have := hW.lo; omega
  have hC : At (wrC2 x w i b) ([.ptr 0 0, .int .i64 i, .ptr 3 0], [devC x.length w.length, secR x, waiR w, .cells [.int .i64 i, .arr 64 (dns .u8 (gS x i)), .arr 64 (dns .u8 b)]]) := At.mk' ⟨0, hW⟩ rfl
  have p1 := plain_d (b := b)
  have p2 := plain_d (b := gS x i)
  have l1 : 64 ≤ (dns .u8 (gS x i)).length := by rw [dns_len]; omega
  have l2 : 64 ≤ (dns .u8 b).length := by rw [dns_len]; omega
  have l3 : 64 ≤ b.length := by have := hW.b64; omega
  constructor
  · simp only [hg, Option.some.injEq, exists_eq_left', ints_flat, ints_len, t1, t2, hin, l1, l2, l3, p1, p2, hC, and_self, and_true, true_and]
  · rintro ⟨_, _⟩
    have lw : (w.length + 1) * 136 ≤ 140737488355328 := by omega
    have ls : 0 + i.toNat < (secs x).length := by rw [secs_len]; have := hW.hi; have := hW.lo; omega
    have hk := hy hW
    have es : (secs x).set (0 + i.toNat) (dns .u8 b) = secs (x.set i.toNat b) := by unfold secs; rw [Nat.zero_add, List.map_set]
    simp only [appD_eq, List.append_nil, es, List.take_length, hin, lw, ls, Nat.le_refl, true_and, and_true, and_self]
    exact hk)
theorem plain_app {l m : List (List D)} (h : Plain l.flatten) (k : Plain m.flatten) : Plain (l ++ m).flatten := fun d hd => by
  rw [List.flatten_append] at hd
  rcases List.mem_append.1 hd with q | q
  · exact h d q
  · exact k d q
theorem plain_secs {x : List (List Int)} : Plain (secs x).flatten := fun d hd => by
  obtain ⟨l, hl, hd⟩ := List.mem_flatten.1 hd
  obtain ⟨b, _, rfl⟩ := List.mem_map.1 hl
  exact plain_dns d hd
theorem plain_wr {i : Int} {a b : List Int} : Plain [.val (.int .i64 i) :: (dns .u8 a ++ dns .u8 b)].flatten := fun d hd => by
  simp only [List.flatten_cons, List.flatten_nil, List.append_nil, List.mem_cons, List.mem_append] at hd
  rcases hd with rfl | q | q
  · trivial
  · exact plain_dns d q
  · exact plain_dns d q
theorem okFlushD : SpecOk Try.prog 71 SdFlush := specOk_nil XSe_ok mixed [.cell 0 1 84 129] (fun args kb K h => by
  unfold SdFlush at h; split at h <;> try exact h.elim
  obtain ⟨x, rfl, rfl, rfl, h⟩ := h
  exact ⟨noT _, vcFlush x _ K ⟨fun f => (by cases f), fun _ => h⟩⟩)
theorem okLenD : SpecOk Try.prog 23 SdLen := specOk_of' X0_ok mixed (fun args kb K h => by
  unfold SdLen at h; split at h <;> try exact h.elim
  obtain ⟨x, rfl, rfl, rfl, h⟩ := h
  exact ⟨noT _, vcLen x _ K h⟩)
theorem okNewD : SpecOk Try.prog 7 SdNew := specOk_nil X0_ok mixed [.cell 0 1 84 129] (fun args kb K h => by
  unfold SdNew at h; split at h <;> try exact h.elim
  rename_i n
  obtain ⟨hno, hy⟩ := h
  refine ⟨noT _, vcNew n K ?_⟩
  simp only [decide_eq_true_eq, decide_eq_false_iff_not]
  refine ⟨fun h1 => hno fun q => by have := q.lo; omega, fun h1 => ⟨fun h2 => hno fun q => by have := q.hi; omega, fun h2 => ⟨by unfold NonN; omega, ⟨by omega, by omega, by omega⟩, ?_⟩⟩⟩
  have := hy ⟨by omega, by omega⟩
  have e : secs (zer n.toNat) = List.replicate n.toNat (List.replicate 64 (D.val (.int .u8 0))) := by unfold secs zer; rw [List.map_replicate]; rfl
  rw [← e]
  exact this)
theorem okReadD : SpecOk Try.prog 38 SdRead := specOk_ntn X0_ok [.slot 0 5 1] 3 (fun args kb K h => by
  unfold SdRead at h; split at h <;> try exact h.elim
  rename_i i _ _ _ w
  obtain ⟨x, rfl, rfl, rfl, hs, h⟩ := h
  refine ⟨rfl, noT _, vcSRead x w i K ?_⟩
  unfold dRd at h
  simp only [Nat.sub_zero, decide_eq_true_eq, decide_eq_false_iff_not, Bool.not_eq_true', Bool.not_eq_false']
  refine ⟨fun f => (by cases f), fun _ => ⟨fun h1 => ⟨fun h2 => ?_, fun h2 => ?_⟩, fun h1 => ?_⟩⟩
  · rw [if_neg (by omega)] at h; exact h
  · rw [if_pos ⟨h1, h2⟩] at h
    have hg := gS_get h1 h2
    have h64 := hs.each _ (gS_mem h1 h2)
    have t1 := take64 h64
    rw [hg, Option.getD_some, t1, ones_dns, ints_len]
    have ls : 0 + i.toNat < (secs x).length := by rw [secs_len]; omega
    refine ⟨⟨h1, h2⟩, trivial, trivial, by omega, by omega, fun b hb => ⟨fun hb' => by have := hb hb'; omega, fun _ => ⟨⟨ls, by omega⟩, by omega, by omega, ?_⟩⟩⟩
    rw [Nat.zero_add, List.nil_append]; exact h
  · rw [if_neg (by omega)] at h; exact h)
end Go.Proofs.Ytkodjbegpheomaa
