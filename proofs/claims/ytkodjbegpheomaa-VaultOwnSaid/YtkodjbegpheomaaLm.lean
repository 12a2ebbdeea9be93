import Derived.Test.YtkodjbegpheomaaLx
import Derived.Test.YtkodjbegpheomaaVt
import Derived.KernelRfl
namespace Go.Proofs.Ytkodjbegpheomaa
open Vc Go
set_option linter.unusedVariables false
set_option linter.unusedSimpArgs false
set_option maxRecDepth 100000
def lawMS : FuncId → Option Known
  | 10 => some ⟨[], SvPutR⟩
  | f => lawS f
def maT (l : List Int) (keep : Int) : FuncId → Nat → Option LI
  | 4, 9 => some (maLI l keep)
  | _, _ => none
noncomputable def XM (l : List Int) (keep : Int) : CallT := callS Try.prog lawMS (maT l keep) 10
theorem vcManyM (l : List Int) (keep : Int)  (hvc_ :
 (decide ((↑(ints IntKind.u16 l).length : Int) > 40) = true → true = true) ∧
 (decide ((↑(ints IntKind.u16 l).length : Int) > 40) = false →
 ((NewI 200 → False) → False) ∧
 (NewI 200 →
 ∃ (N : Nat),
 ∃ (s : VSt),
 ∃ (x : List (List Int)),
 [(List.replicate 64 (D.val (Value.int IntKind.u8 0))),
 (List.replicate 64 (D.val (Value.int IntKind.u8 0))),
 (List.replicate 64 (D.val (Value.int IntKind.u8 0))),
 (List.replicate 64 (D.val (Value.int IntKind.u8 0))),
 (List.replicate 64 (D.val (Value.int IntKind.u8 0))),
 (List.replicate 64 (D.val (Value.int IntKind.u8 0))),
 (List.replicate 64 (D.val (Value.int IntKind.u8 0))),
 (List.replicate 64 (D.val (Value.int IntKind.u8 0))),
 (List.replicate 64 (D.val (Value.int IntKind.u8 0))),
 (List.replicate 64 (D.val (Value.int IntKind.u8 0))),
 (List.replicate 64 (D.val (Value.int IntKind.u8 0))),
 (List.replicate 64 (D.val (Value.int IntKind.u8 0))),
 (List.replicate 64 (D.val (Value.int IntKind.u8 0))),
 (List.replicate 64 (D.val (Value.int IntKind.u8 0))),
 (List.replicate 64 (D.val (Value.int IntKind.u8 0))),
 (List.replicate 64 (D.val (Value.int IntKind.u8 0))),
 (List.replicate 64 (D.val (Value.int IntKind.u8 0))),
 (List.replicate 64 (D.val (Value.int IntKind.u8 0))),
 (List.replicate 64 (D.val (Value.int IntKind.u8 0))),
 (List.replicate 64 (D.val (Value.int IntKind.u8 0))),
 (List.replicate 64 (D.val (Value.int IntKind.u8 0))),
 (List.replicate 64 (D.val (Value.int IntKind.u8 0))),
 (List.replicate 64 (D.val (Value.int IntKind.u8 0))),
 (List.replicate 64 (D.val (Value.int IntKind.u8 0))),
 (List.replicate 64 (D.val (Value.int IntKind.u8 0))),
 (List.replicate 64 (D.val (Value.int IntKind.u8 0))),
 (List.replicate 64 (D.val (Value.int IntKind.u8 0))),
 (List.replicate 64 (D.val (Value.int IntKind.u8 0))),
 (List.replicate 64 (D.val (Value.int IntKind.u8 0))),
 (List.replicate 64 (D.val (Value.int IntKind.u8 0))),
 (List.replicate 64 (D.val (Value.int IntKind.u8 0))),
 (List.replicate 64 (D.val (Value.int IntKind.u8 0))),
 (List.replicate 64 (D.val (Value.int IntKind.u8 0))),
 (List.replicate 64 (D.val (Value.int IntKind.u8 0))),
 (List.replicate 64 (D.val (Value.int IntKind.u8 0))),
 (List.replicate 64 (D.val (Value.int IntKind.u8 0))),
 (List.replicate 64 (D.val (Value.int IntKind.u8 0))),
 (List.replicate 64 (D.val (Value.int IntKind.u8 0))),
 (List.replicate 64 (D.val (Value.int IntKind.u8 0))),
 (List.replicate 64 (D.val (Value.int IntKind.u8 0))),
 (List.replicate 64 (D.val (Value.int IntKind.u8 0))),
 (List.replicate 64 (D.val (Value.int IntKind.u8 0))),
 (List.replicate 64 (D.val (Value.int IntKind.u8 0))),
 (List.replicate 64 (D.val (Value.int IntKind.u8 0))),
 (List.replicate 64 (D.val (Value.int IntKind.u8 0))),
 (List.replicate 64 (D.val (Value.int IntKind.u8 0))),
 (List.replicate 64 (D.val (Value.int IntKind.u8 0))),
 (List.replicate 64 (D.val (Value.int IntKind.u8 0))),
 (List.replicate 64 (D.val (Value.int IntKind.u8 0))),
 (List.replicate 64 (D.val (Value.int IntKind.u8 0))),
 (List.replicate 64 (D.val (Value.int IntKind.u8 0))),
 (List.replicate 64 (D.val (Value.int IntKind.u8 0))),
 (List.replicate 64 (D.val (Value.int IntKind.u8 0))),
 (List.replicate 64 (D.val (Value.int IntKind.u8 0))),
 (List.replicate 64 (D.val (Value.int IntKind.u8 0))),
 (List.replicate 64 (D.val (Value.int IntKind.u8 0))),
 (List.replicate 64 (D.val (Value.int IntKind.u8 0))),
 (List.replicate 64 (D.val (Value.int IntKind.u8 0))),
 (List.replicate 64 (D.val (Value.int IntKind.u8 0))),
 (List.replicate 64 (D.val (Value.int IntKind.u8 0))),
 (List.replicate 64 (D.val (Value.int IntKind.u8 0))),
 (List.replicate 64 (D.val (Value.int IntKind.u8 0))),
 (List.replicate 64 (D.val (Value.int IntKind.u8 0))),
 (List.replicate 64 (D.val (Value.int IntKind.u8 0))),
 (List.replicate 64 (D.val (Value.int IntKind.u8 0))),
 (List.replicate 64 (D.val (Value.int IntKind.u8 0))),
 (List.replicate 64 (D.val (Value.int IntKind.u8 0))),
 (List.replicate 64 (D.val (Value.int IntKind.u8 0))),
 (List.replicate 64 (D.val (Value.int IntKind.u8 0))),
 (List.replicate 64 (D.val (Value.int IntKind.u8 0))),
 (List.replicate 64 (D.val (Value.int IntKind.u8 0))),
 (List.replicate 64 (D.val (Value.int IntKind.u8 0))),
 (List.replicate 64 (D.val (Value.int IntKind.u8 0))),
 (List.replicate 64 (D.val (Value.int IntKind.u8 0))),
 (List.replicate 64 (D.val (Value.int IntKind.u8 0))),
 (List.replicate 64 (D.val (Value.int IntKind.u8 0))),
 (List.replicate 64 (D.val (Value.int IntKind.u8 0))),
 (List.replicate 64 (D.val (Value.int IntKind.u8 0))),
 (List.replicate 64 (D.val (Value.int IntKind.u8 0))),
 (List.replicate 64 (D.val (Value.int IntKind.u8 0))),
 (List.replicate 64 (D.val (Value.int IntKind.u8 0))),
 (List.replicate 64 (D.val (Value.int IntKind.u8 0))),
 (List.replicate 64 (D.val (Value.int IntKind.u8 0))),
 (List.replicate 64 (D.val (Value.int IntKind.u8 0))),
 (List.replicate 64 (D.val (Value.int IntKind.u8 0))),
 (List.replicate 64 (D.val (Value.int IntKind.u8 0))),
 (List.replicate 64 (D.val (Value.int IntKind.u8 0))),
 (List.replicate 64 (D.val (Value.int IntKind.u8 0))),
 (List.replicate 64 (D.val (Value.int IntKind.u8 0))),
 (List.replicate 64 (D.val (Value.int IntKind.u8 0))),
 (List.replicate 64 (D.val (Value.int IntKind.u8 0))),
 (List.replicate 64 (D.val (Value.int IntKind.u8 0))),
 (List.replicate 64 (D.val (Value.int IntKind.u8 0))),
 (List.replicate 64 (D.val (Value.int IntKind.u8 0))),
 (List.replicate 64 (D.val (Value.int IntKind.u8 0))),
 (List.replicate 64 (D.val (Value.int IntKind.u8 0))),
 (List.replicate 64 (D.val (Value.int IntKind.u8 0))),
 (List.replicate 64 (D.val (Value.int IntKind.u8 0))),
 (List.replicate 64 (D.val (Value.int IntKind.u8 0))),
 (List.replicate 64 (D.val (Value.int IntKind.u8 0))),
 (List.replicate 64 (D.val (Value.int IntKind.u8 0))),
 (List.replicate 64 (D.val (Value.int IntKind.u8 0))),
 (List.replicate 64 (D.val (Value.int IntKind.u8 0))),
 (List.replicate 64 (D.val (Value.int IntKind.u8 0))),
 (List.replicate 64 (D.val (Value.int IntKind.u8 0))),
 (List.replicate 64 (D.val (Value.int IntKind.u8 0))),
 (List.replicate 64 (D.val (Value.int IntKind.u8 0))),
 (List.replicate 64 (D.val (Value.int IntKind.u8 0))),
 (List.replicate 64 (D.val (Value.int IntKind.u8 0))),
 (List.replicate 64 (D.val (Value.int IntKind.u8 0))),
 (List.replicate 64 (D.val (Value.int IntKind.u8 0))),
 (List.replicate 64 (D.val (Value.int IntKind.u8 0))),
 (List.replicate 64 (D.val (Value.int IntKind.u8 0))),
 (List.replicate 64 (D.val (Value.int IntKind.u8 0))),
 (List.replicate 64 (D.val (Value.int IntKind.u8 0))),
 (List.replicate 64 (D.val (Value.int IntKind.u8 0))),
 (List.replicate 64 (D.val (Value.int IntKind.u8 0))),
 (List.replicate 64 (D.val (Value.int IntKind.u8 0))),
 (List.replicate 64 (D.val (Value.int IntKind.u8 0))),
 (List.replicate 64 (D.val (Value.int IntKind.u8 0))),
 (List.replicate 64 (D.val (Value.int IntKind.u8 0))),
 (List.replicate 64 (D.val (Value.int IntKind.u8 0))),
 (List.replicate 64 (D.val (Value.int IntKind.u8 0))),
 (List.replicate 64 (D.val (Value.int IntKind.u8 0))),
 (List.replicate 64 (D.val (Value.int IntKind.u8 0))),
 (List.replicate 64 (D.val (Value.int IntKind.u8 0))),
 (List.replicate 64 (D.val (Value.int IntKind.u8 0))),
 (List.replicate 64 (D.val (Value.int IntKind.u8 0))),
 (List.replicate 64 (D.val (Value.int IntKind.u8 0))),
 (List.replicate 64 (D.val (Value.int IntKind.u8 0))),
 (List.replicate 64 (D.val (Value.int IntKind.u8 0))),
 (List.replicate 64 (D.val (Value.int IntKind.u8 0))),
 (List.replicate 64 (D.val (Value.int IntKind.u8 0))),
 (List.replicate 64 (D.val (Value.int IntKind.u8 0))),
 (List.replicate 64 (D.val (Value.int IntKind.u8 0))),
 (List.replicate 64 (D.val (Value.int IntKind.u8 0))),
 (List.replicate 64 (D.val (Value.int IntKind.u8 0))),
 (List.replicate 64 (D.val (Value.int IntKind.u8 0))),
 (List.replicate 64 (D.val (Value.int IntKind.u8 0))),
 (List.replicate 64 (D.val (Value.int IntKind.u8 0))),
 (List.replicate 64 (D.val (Value.int IntKind.u8 0))),
 (List.replicate 64 (D.val (Value.int IntKind.u8 0))),
 (List.replicate 64 (D.val (Value.int IntKind.u8 0))),
 (List.replicate 64 (D.val (Value.int IntKind.u8 0))),
 (List.replicate 64 (D.val (Value.int IntKind.u8 0))),
 (List.replicate 64 (D.val (Value.int IntKind.u8 0))),
 (List.replicate 64 (D.val (Value.int IntKind.u8 0))),
 (List.replicate 64 (D.val (Value.int IntKind.u8 0))),
 (List.replicate 64 (D.val (Value.int IntKind.u8 0))),
 (List.replicate 64 (D.val (Value.int IntKind.u8 0))),
 (List.replicate 64 (D.val (Value.int IntKind.u8 0))),
 (List.replicate 64 (D.val (Value.int IntKind.u8 0))),
 (List.replicate 64 (D.val (Value.int IntKind.u8 0))),
 (List.replicate 64 (D.val (Value.int IntKind.u8 0))),
 (List.replicate 64 (D.val (Value.int IntKind.u8 0))),
 (List.replicate 64 (D.val (Value.int IntKind.u8 0))),
 (List.replicate 64 (D.val (Value.int IntKind.u8 0))),
 (List.replicate 64 (D.val (Value.int IntKind.u8 0))),
 (List.replicate 64 (D.val (Value.int IntKind.u8 0))),
 (List.replicate 64 (D.val (Value.int IntKind.u8 0))),
 (List.replicate 64 (D.val (Value.int IntKind.u8 0))),
 (List.replicate 64 (D.val (Value.int IntKind.u8 0))),
 (List.replicate 64 (D.val (Value.int IntKind.u8 0))),
 (List.replicate 64 (D.val (Value.int IntKind.u8 0))),
 (List.replicate 64 (D.val (Value.int IntKind.u8 0))),
 (List.replicate 64 (D.val (Value.int IntKind.u8 0))),
 (List.replicate 64 (D.val (Value.int IntKind.u8 0))),
 (List.replicate 64 (D.val (Value.int IntKind.u8 0))),
 (List.replicate 64 (D.val (Value.int IntKind.u8 0))),
 (List.replicate 64 (D.val (Value.int IntKind.u8 0))),
 (List.replicate 64 (D.val (Value.int IntKind.u8 0))),
 (List.replicate 64 (D.val (Value.int IntKind.u8 0))),
 (List.replicate 64 (D.val (Value.int IntKind.u8 0))),
 (List.replicate 64 (D.val (Value.int IntKind.u8 0))),
 (List.replicate 64 (D.val (Value.int IntKind.u8 0))),
 (List.replicate 64 (D.val (Value.int IntKind.u8 0))),
 (List.replicate 64 (D.val (Value.int IntKind.u8 0))),
 (List.replicate 64 (D.val (Value.int IntKind.u8 0))),
 (List.replicate 64 (D.val (Value.int IntKind.u8 0))),
 (List.replicate 64 (D.val (Value.int IntKind.u8 0))),
 (List.replicate 64 (D.val (Value.int IntKind.u8 0))),
 (List.replicate 64 (D.val (Value.int IntKind.u8 0))),
 (List.replicate 64 (D.val (Value.int IntKind.u8 0))),
 (List.replicate 64 (D.val (Value.int IntKind.u8 0))),
 (List.replicate 64 (D.val (Value.int IntKind.u8 0))),
 (List.replicate 64 (D.val (Value.int IntKind.u8 0))),
 (List.replicate 64 (D.val (Value.int IntKind.u8 0))),
 (List.replicate 64 (D.val (Value.int IntKind.u8 0))),
 (List.replicate 64 (D.val (Value.int IntKind.u8 0))),
 (List.replicate 64 (D.val (Value.int IntKind.u8 0))),
 (List.replicate 64 (D.val (Value.int IntKind.u8 0))),
 (List.replicate 64 (D.val (Value.int IntKind.u8 0))),
 (List.replicate 64 (D.val (Value.int IntKind.u8 0))),
 (List.replicate 64 (D.val (Value.int IntKind.u8 0))),
 (List.replicate 64 (D.val (Value.int IntKind.u8 0))),
 (List.replicate 64 (D.val (Value.int IntKind.u8 0))),
 (List.replicate 64 (D.val (Value.int IntKind.u8 0))),
 (List.replicate 64 (D.val (Value.int IntKind.u8 0))),
 (List.replicate 64 (D.val (Value.int IntKind.u8 0))),
 (List.replicate 64 (D.val (Value.int IntKind.u8 0)))] =
 secs x ∧
 200 = x.length ∧
 NoW 0 [] ∧
 (∃ (P0 : List (List Int)), ∃ (P1 : List (List Int)), ∃ (B : List (List Int)), ∃ (g0 : Nat), ∃ (g1 : Nat), ∃ (l0 : List P2), ∃ (l1 : List P2), ∃ (cs : List Chg), VJ N s.gen s.l s.u s.m x P0 P1 B g0 g1 l0 l1 cs) ∧
 ∀ (M : ML),
 Tab M s.l →
 (false = true → False) ∧
 (false = false →
 At (maLI l keep)
 ([V.dat (D.sl 1 (ints IntKind.u16 l)), V.int IntKind.u8 keep, V.ptr 0 0, V.ptr 1 0, V.dat (D.sl 2 []), V.int IntKind.i64 0],
 [KO.cells [V.sl 2 0 x.length, V.sl 3 0 0, V.int IntKind.i64 (-1), V.sb false], KO.cells [V.ptr 0 0, V.int IntKind.i64 (↑(N / 4) : Int), V.int IntKind.i64 (↑s.gen : Int), V.mp 4, V.ptr 5 0, V.sb false], KO.row 82 64 (secs x), KO.row 84 129 [], KO.mp [IntKind.i64] false false 1 M,
 KO.cells [V.ptr 0 0, V.int IntKind.i64 (↑(2 * (N / 4)) : Int), V.int IntKind.i64 (↑(N - 2 * (N / 4)) : Int), V.int IntKind.i64 (↑s.gen : Int), V.int IntKind.i64 (↑s.u : Int), V.int IntKind.i64 (↑s.m : Int), V.sl 6 0 0, V.sb false], KO.row 126 2 []]) ∧
 ∀ (i : { q : VQ // VqI 200 l.length (maS l q.i) q }),
 (decide ((↑i.val.i : Int) < (↑(ints IntKind.u16 l).length : Int)) = true →
 NonN (↑i.val.i : Int) ∧
 ∃ (e : List D),
 (ints IntKind.u16 l)[(↑i.val.i : Int).toNat]? = some e ∧
 ∃ (n : Int),
 e[0]? = some (D.val (Value.int IntKind.u16 n)) ∧
 NonN (↑i.val.i : Int) ∧
 ∃ (e : List D),
 (ints IntKind.u16 l)[(↑i.val.i : Int).toNat]? = some e ∧
 ∃ (n_1 : Int),
 e[0]? = some (D.val (Value.int IntKind.u16 n_1)) ∧
 ∃ (N : Nat),
 ∃ (s : VSt),
 ∃ (x : List (List Int)),
 ∃ (b : List Int),
 VIn N s x 50 (↑(maS l i.val.i).gen : Int) i.val.x.length 0 i.val.M 100 100 (↑(maS l i.val.i).gen : Int) (↑(maS l i.val.i).u : Int) (↑(maS l i.val.i).m : Int) 0 (secs i.val.x) [] [] ∧
 [[D.val (Value.int IntKind.u8 (IntKind.u8.wrap (↑i.val.i : Int)))], [D.val (Value.int IntKind.u8 (IntKind.u8.wrap n))]] = ints IntKind.u8 b ∧
 2 = b.length ∧
 (∀ (c : Int), List.Mem c b → 0 ≤ c ∧ c < 256) ∧
 b.length ≤ 800000 ∧
 s.gen < 1000 ∧
 ∀ (M' : ML) (x' : List (List Int)),
 Tab M' (putF N s (IntKind.i64.wrap n_1) b).snd.l →
 (∃ (P0 : List (List Int)),
 ∃ (P1 : List (List Int)),
 ∃ (B : List (List Int)), ∃ (g0 : Nat), ∃ (g1 : Nat), ∃ (l0 : List P2), ∃ (l1 : List P2), ∃ (cs : List Chg), VJ N (putF N s (IntKind.i64.wrap n_1) b).snd.gen (putF N s (IntKind.i64.wrap n_1) b).snd.l (putF N s (IntKind.i64.wrap n_1) b).snd.u (putF N s (IntKind.i64.wrap n_1) b).snd.m x' P0 P1 B g0 g1 l0 l1 cs) →
 (((putF N s (IntKind.i64.wrap n_1) b).fst != 0) = true → False) ∧
 (((putF N s (IntKind.i64.wrap n_1) b).fst != 0) = false →
 NonN (↑i.val.i : Int) ∧
 ∃ (e : List D),
 (ints IntKind.u16 l)[(↑i.val.i : Int).toNat]? = some e ∧
 ∃ (n : Int),
 e[0]? = some (D.val (Value.int IntKind.u16 n)) ∧
 2 ≤ (ints IntKind.u8 b).length ∧
 ∃ (x : List P2),
 ∃ (b_1 : List Int),
 List.map prD (maL l i.val.i) = List.map prD x ∧
 List.drop 0 (List.take 2 (ints IntKind.u8 b)) = ints IntKind.u8 b_1 ∧
 x.length ≤ 100000 ∧
 List.Pairwise (fun (a b : P2) => a.fst < b.fst) x ∧
 Nx (maLI l keep) i
 ([V.dat (D.sl 1 (ints IntKind.u16 l)), V.int IntKind.u8 keep, V.ptr 0 0, V.ptr 1 0, V.dat (prs (putL x (IntKind.i64.wrap n) b_1)), V.int IntKind.i64 (IntKind.i64.wrap ((↑i.val.i : Int) + 1))],
 [KO.cells [V.sl 2 0 x'.length, V.sl 3 0 0, V.int IntKind.i64 (-1), V.sb false], KO.cells [V.ptr 0 0, V.int IntKind.i64 (↑(N / 4) : Int), V.int IntKind.i64 (↑(putF N s (IntKind.i64.wrap n_1) b).snd.gen : Int), V.mp 4, V.ptr 5 0, V.sb false], KO.row 82 64 (secs x'), KO.row 84 129 [],
 KO.mp [IntKind.i64] false false 1 M',
 KO.cells
 [V.ptr 0 0, V.int IntKind.i64 (↑(2 * (N / 4)) : Int), V.int IntKind.i64 (↑(N - 2 * (N / 4)) : Int), V.int IntKind.i64 (↑(putF N s (IntKind.i64.wrap n_1) b).snd.gen : Int), V.int IntKind.i64 (↑(putF N s (IntKind.i64.wrap n_1) b).snd.u : Int),
 V.int IntKind.i64 (↑(putF N s (IntKind.i64.wrap n_1) b).snd.m : Int), V.sl 6 0 0, V.sb false],
 KO.row 126 2 []]))) ∧
 (decide ((↑i.val.i : Int) < (↑(ints IntKind.u16 l).length : Int)) = false →
 (1 ≤ 1 ∧ True) ∧
 ∃ (x : List (List Int)),
 secs i.val.x = secs x ∧
 i.val.x.length = x.length ∧
 NoW 0 [] ∧
 (PlainS (secs x).flatten ∧ PlainS [] ∧ PlainS []) ∧
 ∃ (N : Nat),
 ∃ (s : VSt),
 ∃ (x_1 : List (List Int)),
 secs x = secs x_1 ∧
 x.length = x_1.length ∧
 NoW 0 [] ∧
 (∃ (P0 : List (List Int)), ∃ (P1 : List (List Int)), ∃ (B : List (List Int)), ∃ (g0 : Nat), ∃ (g1 : Nat), ∃ (l0 : List P2), ∃ (l1 : List P2), ∃ (cs : List Chg), VJ N s.gen s.l s.u s.m x_1 P0 P1 B g0 g1 l0 l1 cs) ∧
 ∀ (M : ML),
 Tab M s.l →
 ∃ (N_1 : Nat),
 ∃ (s_1 : VSt),
 ∃ (x : List (List Int)),
 secs x_1 = secs x ∧
 x_1.length = x.length ∧
 NoW 0 [] ∧
 (∃ (P0 : List (List Int)), ∃ (P1 : List (List Int)), ∃ (B : List (List Int)), ∃ (g0 : Nat), ∃ (g1 : Nat), ∃ (l0 : List P2), ∃ (l1 : List P2), ∃ (cs : List Chg), VJ N_1 s_1.gen s_1.l s_1.u s_1.m x P0 P1 B g0 g1 l0 l1 cs) ∧
 ∀ (M_1 : ML),
 Tab M_1 s_1.l →
 (true = true →
 (true = true →
 ∃ (N_2 : Nat),
 ∃ (s_2 : VSt),
 ∃ (x_2 : List (List Int)),
 VIn N_2 s_2 x_2 (↑(N / 4) : Int) (↑s.gen : Int) x.length 0 M (↑(2 * (N / 4)) : Int) (↑(N - 2 * (N / 4)) : Int) (↑s.gen : Int) (↑s.u : Int) (↑s.m : Int) 0 (secs x) [] [] ∧
 ∃ (x : List P2),
 ∃ (y : List P2),
 List.map prD s_2.l = List.map prD x ∧
 List.map prD (maL l i.val.i) = List.map prD y ∧
 x.length ≤ 100000 ∧
 y.length ≤ 100000 ∧
 (∀ (p : P2), List.Mem p x → p.snd.length ≤ 800000) ∧
 (∀ (p : P2), List.Mem p y → p.snd.length ≤ 800000) ∧
 (decide (x = y) = true →
 ∃ (N : Nat),
 ∃ (s : VSt),
 ∃ (x : List (List Int)),
 VIn N s x (↑(N_1 / 4) : Int) (↑s_1.gen : Int) x_2.length 0 M_1 (↑(2 * (N_1 / 4)) : Int) (↑(N_1 - 2 * (N_1 / 4)) : Int) (↑s_1.gen : Int) (↑s_1.u : Int) (↑s_1.m : Int) 0 (secs x_2) [] [] ∧
 ∃ (x : List P2),
 ∃ (y : List P2),
 List.map prD s.l = List.map prD x ∧
 List.map prD (maL l i.val.i) = List.map prD y ∧
 x.length ≤ 100000 ∧ y.length ≤ 100000 ∧ (∀ (p : P2), List.Mem p x → p.snd.length ≤ 800000) ∧ (∀ (p : P2), List.Mem p y → p.snd.length ≤ 800000) ∧ (decide (x = y) = true → true = true) ∧ (decide (x = y) = false → False)) ∧
 (decide (x = y) = false → False)) ∧
 (true = false → False)) ∧
 (true = false → False)))))
 ) : XM l keep 4 [.dat (.sl 1 (ints .u16 l)), .int .u8 keep] [] KT := by apply Eq.mp (a := hvc_); kernel_rfl
theorem lawMS_ok : AllOk Try.prog lawMS := fun f k h => by
  unfold lawMS at h
  split at h
  · cases h; exact okPutR
  · exact lawS_ok _ _ h
theorem XM_ok (l : List Int) (keep : Int) : CallOk Try.prog (XM l keep) := callS_ok mixed lawMS_ok _ 10
theorem gI_get {l : List Int} {i : Nat} (h : i < l.length) : l[i]? = some (gI l i) := by
  unfold gI; rw [List.getD_eq_getElem?_getD, List.getElem?_eq_getElem h]; rfl
theorem ma_step {l : List Int} {i : Nat} (hk : NumJ (gI l i)) (hi : i ≤ 40) : putF 200 (maS l i) (gI l i) (maV l i) = (0, maS l (i + 1)) := by
  have hb1 : Byt (maV l i) := fun c hc => by
    rcases List.mem_cons.1 hc with rfl | hc
    · exact byt_wrap _
    · rw [List.mem_singleton.1 hc]; exact byt_wrap _
  have hl2 : (maV l i).length = 2 := rfl
  obtain ⟨c1, c2⟩ := chg_put hk hb1 (by omega)
  have hsz := szc_le (gen := 0) (m := i) (by omega) (by omega) c1
  have hs1 : szc 0 i (gI l i, some (maV l i)) = 1 := by omega
  rw [putF_ok hk (by omega) (by show i + szc 0 i (gI l i, some (maV l i)) ≤ 100; omega)]
  show (0, (⟨0, putL (maL l i) (gI l i) (maV l i), i + szc 0 i (gI l i, some (maV l i)), i + 1⟩ : VSt)) = (0, (⟨0, putL (maL l i) (gI l i) (maV l i), i + 1, i + 1⟩ : VSt))
  rw [hs1]
theorem lawMany (l : List Int) (keep : Int) (hl : ∀ n ∈ l, 0 ≤ n ∧ n < 65536) : XM l keep 4 [.dat (.sl 1 (ints .u16 l)), .int .u8 keep] [] KT := by
  apply vcManyM l keep
  have hv0 : VIs 200 s0 (zer 200) := vi_new (by omega) (by omega)
  refine ⟨fun _ => (by first | exact trivial | exact rfl), fun q1 => ⟨fun q => q ⟨by omega, by omega⟩, fun _ => ⟨200, s0, zer 200, rfl, rfl, ⟨rfl, rfl⟩, hv0, fun M hM => ⟨fun q => (by cases q), fun _ => ⟨?_, ?_⟩⟩⟩⟩⟩
  · exact At.mk' (⟨⟨0, M, zer 200⟩, ⟨Nat.zero_le _, hv0, hM⟩⟩ : {q : VQ // VqI 200 l.length (maS l q.i) q}) rfl
  have hl40 : l.length ≤ 40 := by simp only [ints_len, gt_iff_lt, decide_eq_false_iff_not] at q1; omega
  rintro ⟨⟨i, M1, x1⟩, hi, hv, hT⟩
  dsimp only at hi hv hT ⊢
  rw [ints_len]
  simp only [decide_eq_true_eq, decide_eq_false_iff_not]
  have hbd := VI.b hv
  have hok := hbd.okl
  have hll := hbd.ll
  have hb800 : ∀ p ∈ maL l i, p.2.length ≤ 800000 := fun p hp => by have := (hok.rg p hp).2.2; omega
  refine ⟨fun hc => ?_, fun hc => ?_⟩
  · have hi2 : i < l.length := by omega
    have hn := hl _ (List.mem_of_getElem? (gI_get hi2))
    have hk : NumJ (gI l i) := ⟨by omega, by omega⟩
    have hst := ma_step (l := l) (i := i) hk (by omega)
    have wn : IntKind.i64.wrap (gI l i) = gI l i := w64 (by omega) (by omega)
    have hge : (ints .u16 l)[((i : Nat) : Int).toNat]? = some [D.val (.int .u16 (gI l i))] := by rw [Int.toNat_natCast, ints_get, gI_get hi2]; rfl
    have hbv : Byt (maV l i) := fun c hc => by
      rcases List.mem_cons.1 hc with rfl | hc
      · exact byt_wrap _
      · rw [List.mem_singleton.1 hc]; exact byt_wrap _
    refine ⟨nonNat i, _, hge, gI l i, rfl, nonNat i, _, hge, gI l i, rfl, 200, maS l i, x1, maV l i, vin hv hT, rfl, rfl, hbv, by show 2 ≤ 800000; omega, by show 0 < 1000; omega, fun M2 x2 hT2 hv2 => ?_⟩
    rw [wn, hst] at hT2 hv2 ⊢
    refine ⟨fun q => (by cases q), fun _ => ⟨nonNat i, _, hge, gI l i, rfl, Nat.le_refl _, maL l i, maV l i, rfl, rfl, by have : (maL l i).length ≤ 9000 := hll; omega, hok.inc, ?_⟩⟩
    rw [wn, w64 (n := (i : Int) + 1) (by omega) (by omega)]
    exact Nx.mk' (⟨⟨i + 1, M2, x2⟩, ⟨by dsimp only; omega, hv2, hT2⟩⟩ : {q : VQ // VqI 200 l.length (maS l q.i) q}) rfl (by dsimp only; omega)
  · have hm : (maL l i).length ≤ 100000 := by have : (maL l i).length ≤ 9000 := hll; omega
    refine ⟨⟨Nat.le_refl _, trivial⟩, x1, rfl, rfl, ⟨rfl, rfl⟩, ⟨⟨plain_secs⟩, ⟨fun d hd => (by cases hd)⟩, ⟨fun d hd => (by cases hd)⟩⟩, 200, maS l i, x1, rfl, rfl, ⟨rfl, rfl⟩, hv, fun M2 hM2 => ⟨200, maS l i, x1, rfl, rfl, ⟨rfl, rfl⟩, hv, fun M3 hM3 => ⟨fun _ => ⟨fun _ => ⟨200, maS l i, x1, vin hv hM2, maL l i, maL l i, rfl, rfl, hm, hm, hb800, hb800, fun _ => ⟨200, maS l i, x1, vin hv hM3, maL l i, maL l i, rfl, rfl, hm, hm, hb800, hb800, fun _ => (by first | exact trivial | exact rfl), fun q => (by simp at q)⟩, fun q => (by simp at q)⟩, fun q => (by cases q)⟩, fun q => (by cases q)⟩⟩⟩
end Go.Proofs.Ytkodjbegpheomaa
