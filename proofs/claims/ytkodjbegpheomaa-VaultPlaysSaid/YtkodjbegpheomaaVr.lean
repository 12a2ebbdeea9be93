import Derived.Test.YtkodjbegpheomaaVq
import Derived.KernelRfl
namespace Go.Proofs.Ytkodjbegpheomaa
open Vc Go
set_option linter.unusedVariables false
set_option linter.unusedSimpArgs false
set_option maxRecDepth 100000
/-! The reference's values by their keys. -/
def prD (p : P2) : List D := [dn .i64 p.1, .sl 1 (ints .u8 p.2)]
abbrev prs (x : List P2) : D := .sl 2 (x.map prD)
abbrev prR (x : List P2) : KO := .row 77 2 (x.map prD)
def SrAt : FSpec := fun args kb K => match args, kb with
  | [.dat (.sl 2 L), .int .i64 k], [] => ∃ x : List P2, L = x.map prD ∧ x.length ≤ 100000 ∧
      ((∀ p ∈ x, p.1 ≠ k) → K (.int .i64 (-1)) []) ∧ ∀ i : Nat, i < x.length → (gP x i).1 = k → K (.int .i64 (i : Int)) []
  | _, _ => False
abbrev atLI (x : List P2) (k : Int) : LI where
  α := {i : Nat // i ≤ x.length ∧ ∀ p ∈ x.take i, p.1 ≠ k}
  live := [0, 1, 5]
  st i := ([.dat (prs x), .int .i64 k, .int .i64 (i.1 : Int)], [])
  μ i := x.length - i.1
def SrOut0 : FSpec := fun args kb K => match args, kb with
  | [.dat (.sl 2 L), .int .i64 k], [] => ∃ x : List P2, L = x.map prD ∧ x.length ≤ 100000 ∧ K (.sl 0 0 (outL x k).length) [prR (outL x k)]
  | _, _ => False
def SrOut : FSpec := fun args kb K => match args, kb with
  | [.dat (.sl 2 L), .int .i64 k], [] => ∃ x : List P2, L = x.map prD ∧ x.length ≤ 100000 ∧ K (.dat (prs (outL x k))) []
  | _, _ => False
abbrev ouLI (x : List P2) (k : Int) : LI where
  α := {i : Nat // i ≤ x.length}
  live := [0, 1, 5, 6]
  nils := [.slot 2 77 2]
  st i := ([.dat (prs x), .int .i64 k, .sl 0 0 (outL (x.take i.1) k).length, .int .i64 (i.1 : Int)], [prR (outL (x.take i.1) k)])
  μ i := x.length - i.1
/-- The first i of y, and (k, b) at its place. -/
def accL (y : List P2) (k : Int) (b : List Int) (i : Nat) : List P2 := if (lo2 y k).length < i then lo2 y k ++ (k, b) :: (hi2 y k).take (i - (lo2 y k).length) else y.take i
def SrPut0 : FSpec := fun args kb K => match args, kb with
  | [.dat (.sl 2 L), .int .i64 k, .dat (.sl 1 B)], [] => ∃ (x : List P2) (b : List Int), L = x.map prD ∧ B = ints .u8 b ∧ x.length ≤ 100000 ∧ x.Pairwise (fun a b => a.1 < b.1) ∧ K (.sl 0 0 (putL x k b).length) [prR (putL x k b)]
  | _, _ => False
def SrPut : FSpec := fun args kb K => match args, kb with
  | [.dat (.sl 2 L), .int .i64 k, .dat (.sl 1 B)], [] => ∃ (x : List P2) (b : List Int), L = x.map prD ∧ B = ints .u8 b ∧ x.length ≤ 100000 ∧ x.Pairwise (fun a b => a.1 < b.1) ∧ K (.dat (prs (putL x k b))) []
  | _, _ => False
abbrev puLI (y : List P2) (k : Int) (b : List Int) : LI where
  α := {i : Nat // i ≤ y.length}
  live := [0, 1, 2, 7, 8, 9]
  nils := [.slot 3 77 2]
  st i := ([.dat (prs y), .int .i64 k, .dat (.sl 1 (ints .u8 b)), .sl 0 0 (accL y k b i.1).length, .sb (decide ((lo2 y k).length < i.1)), .int .i64 (i.1 : Int)], [prR (accL y k b i.1)])
  μ i := y.length - i.1
def SrSame : FSpec := fun args kb K => match args, kb with
  | [.dat (.sl 2 A), .dat (.sl 2 C)], [] => ∃ x y : List P2, A = x.map prD ∧ C = y.map prD ∧ x.length ≤ 100000 ∧ y.length ≤ 100000 ∧ (∀ p ∈ x, p.2.length ≤ 800000) ∧ (∀ p ∈ y, p.2.length ≤ 800000) ∧ K (.sb (decide (x = y))) []
  | _, _ => False
abbrev rsLI (x y : List P2) : LI where
  α := {i : Nat // i ≤ x.length ∧ x.take i = y.take i}
  live := [0, 1, 5]
  st i := ([.dat (prs x), .dat (prs y), .int .i64 (i.1 : Int)], [])
  μ i := x.length - i.1
def oneN (n bytes : Nat) : Nat := (3 + 1 + (numW n).length + (numW bytes).length + bytes + 4 + 63) / 64
def SrOne : FSpec := fun args kb K => match args, kb with
  | [.int .i64 n, .int .i64 m], [] => ∃ a c : Nat, n = a ∧ m = c ∧ a ≤ 1000000 ∧ c ≤ 1000000 ∧ K (.int .i64 (oneN a c : Int)) []
  | _, _ => False
def secN : Nat → List P2 → Nat
  | _, [] => 0
  | i, p :: x => oneN (i + 1) (recP p).length + secN (i + 1) x
def secL (x : List P2) : Nat := oneN 0 (numW (x.length : Int)).length + secN 0 x
def SrSectors : FSpec := fun args kb K => match args, kb with
  | [.dat (.sl 2 L)], [] => ∃ x : List P2, L = x.map prD ∧ OkL x ∧ x.length ≤ 10000 ∧ K (.int .i64 (secL x : Int)) []
  | _, _ => False
abbrev seLI (x : List P2) : LI where
  α := {i : Nat // i ≤ x.length}
  live := [0, 3, 4]
  st i := ([.dat (prs x), .int .i64 ((oneN 0 (numW (x.length : Int)).length + secN 0 (x.take i.1) : Nat) : Int), .int .i64 (i.1 : Int)], [])
  μ i := x.length - i.1
def SvPairs : FSpec := fun args kb K => match args, kb with
  | [.ptr 0 0], [.cells [.ptr 1 0, .int .i64 n, .int .i64 gen, .mp 2, .ptr 3 0, .sb false], .cells [.sl 4 0 a, .sl 5 0 lw, .int .i64 (-1), .sb false], .mp [.i64] false false 1 M, .cells [.ptr 1 0, .int .i64 f, .int .i64 k, .int .i64 g, .int .i64 u, .int .i64 m, .sl 6 0 lg, .sb false], .row 82 64 X, .row 84 129 W, .row 126 2 G] =>
    ∃ (N : Nat) (s : VSt) (x : List (List Int)), VIn N s x n gen a lw M f k g u m lg X W G ∧ K (.dat (prs s.l)) (vauH N s M x)
  | _, _ => False
abbrev paLI (N : Nat) (s : VSt) (M : ML) (x : List (List Int)) : LI where
  α := {i : Nat // i ≤ s.l.length}
  live := [0, 3, 4, 5]
  nils := [.slot 1 77 2]
  st i := ([.ptr 0 0, .sl 7 0 (s.l.take i.1).length, .sl 8 0 s.l.length, .int .i64 (i.1 : Int)], vauH N s M x ++ [prR (s.l.take i.1), .row 3 1 (ints .i64 (s.l.map (·.1)))])
  μ i := s.l.length - i.1
def vrT (x y : List P2) (k : Int) (b : List Int) (N : Nat) (s : VSt) (M : ML) (X : List (List Int)) : FuncId → Nat → Option LI
  | 19, 2 => some (atLI x k)
  | 18, 3 => some (ouLI x k)
  | 14, 5 => some (puLI y k b)
  | 16, 4 => some (rsLI x y)
  | 21, 3 => some (seLI x)
  | 17, 4 => some (paLI N s M X)
  | _, _ => none
def s0 : VSt := ⟨0, [], 0, 0⟩
def vraS : FuncId → Option Known
  | 12 => some ⟨[.lend 1, .lend 1], Ssame⟩
  | 34 => some ⟨[], SrefNum⟩
  | 35 => some ⟨[.lend 1], SrefText⟩
  | 22 => some ⟨[], SvKeys⟩
  | 11 => some ⟨[], SvGet⟩
  | _ => none
noncomputable def XVa : CallT := callS Try.prog vraS noT 10
def vrS0 : FuncId → Option Known
  | 18 => some ⟨[.give 2], SrOut⟩
  | 33 => some ⟨[], SrOne⟩
  | f => vraS f
noncomputable def XVr : CallT := callS Try.prog vrS0 noT 10
theorem vcAt (x : List P2) (k : Int) (K : V → KB → Prop) (hvc_ :
 At (atLI x k) ([V.dat (D.sl 2 (List.map prD x)), V.int IntKind.i64 k, V.int IntKind.i64 0], []) ∧
 ∀ (i : { i : Nat // i ≤ x.length ∧ ∀ (p : P2), p ∈ List.take i x → p.fst ≠ k }),
 (decide ((↑i.val : Int) < (↑(List.map prD x).length : Int)) = true →
 NonN (↑i.val : Int) ∧ ∃ (e : List D), (List.map prD x)[(↑i.val : Int).toNat]? = some e ∧ ∃ (n : Int), e[0]? = some (D.val (Value.int IntKind.i64 n)) ∧ ((n == k) = true → K (V.int IntKind.i64 (↑i.val : Int)) []) ∧ ((n == k) = false → Nx (atLI x k) i ([V.dat (prs x), V.int IntKind.i64 k, V.int IntKind.i64 (IntKind.i64.wrap ((↑i.val : Int) + 1))], []))) ∧
 (decide ((↑i.val : Int) < (↑(List.map prD x).length : Int)) = false → K (V.int IntKind.i64 (-1)) [])
 ) : runSpec Try.prog XVa (vrT x [] k [] 0 s0 [] [] 19) 19 [.dat (prs x), .int .i64 k] [] (tidyRes 0 K) := by apply Eq.mp (a := hvc_); kernel_rfl
theorem vcOut (x : List P2) (k : Int) (K : V → KB → Prop) (hvc_ :
 At (ouLI x k) ([V.dat (D.sl 2 (List.map prD x)), V.int IntKind.i64 k, V.sl 0 0 0, V.int IntKind.i64 0], [KO.row 77 2 []]) ∧
 ∀ (i : { i : Nat // i ≤ x.length }),
 (decide ((↑i.val : Int) < (↑(List.map prD x).length : Int)) = true →
 NonN (↑i.val : Int) ∧
 ∃ (e : List D),
 (List.map prD x)[(↑i.val : Int).toNat]? = some e ∧
 ∃ (n : Int),
 e[0]? = some (D.val (Value.int IntKind.i64 n)) ∧
 ((n != k) = true →
 NonN (↑i.val : Int) ∧
 ∃ (e : List D),
 (List.map prD x)[(↑i.val : Int).toNat]? = some e ∧
 ∃ (n : Int),
 e[0]? = some (D.val (Value.int IntKind.i64 n)) ∧
 ∃ (l : List (List D)),
 e[1]? = some (D.sl 1 l) ∧
 1 ≤ 1 ∧
 (outL (List.take i.val x) k).length ≤ (List.map prD (outL (List.take i.val x) k)).length ∧
 ((outL (List.take i.val x) k).length + 1) * 32 ≤ 140737488355328 ∧
 Nx (ouLI x k) i ([V.dat (prs x), V.int IntKind.i64 k, V.sl 0 0 ((outL (List.take i.val x) k).length + 1), V.int IntKind.i64 (IntKind.i64.wrap ((↑i.val : Int) + 1))], [KO.row 77 2 (List.take (outL (List.take i.val x) k).length (List.map prD (outL (List.take i.val x) k)) ++ [[D.val (Value.int IntKind.i64 n), D.sl 1 l]])])) ∧
 ((n != k) = false → Nx (ouLI x k) i ([V.dat (prs x), V.int IntKind.i64 k, V.sl 0 0 (outL (List.take i.val x) k).length, V.int IntKind.i64 (IntKind.i64.wrap ((↑i.val : Int) + 1))], [KO.row 77 2 (List.map prD (outL (List.take i.val x) k))]))) ∧
 (decide ((↑i.val : Int) < (↑(List.map prD x).length : Int)) = false → K (V.sl 0 0 (outL (List.take i.val x) k).length) [KO.row 77 2 (List.map prD (outL (List.take i.val x) k))])
 ) : runSpec Try.prog XVa (vrT x [] k [] 0 s0 [] [] 18) 18 [.dat (prs x), .int .i64 k] [] (nilRes [.slot 0 77 2] (tidyRes 0 K)) := by apply Eq.mp (a := hvc_); kernel_rfl
theorem vcRPut (x y : List P2) (k : Int) (b : List Int) (K : V → KB → Prop) (hvc_ :
 ∃ (x_1 : List P2),
 List.map prD x = List.map prD x_1 ∧
 x_1.length ≤ 100000 ∧
 At (puLI y k b) ([V.dat (D.sl 2 (List.map prD (outL x_1 k))), V.int IntKind.i64 k, V.dat (D.sl 1 (ints IntKind.u8 b)), V.sl 0 0 0, V.sb false, V.int IntKind.i64 0], [KO.row 77 2 []]) ∧
 ∀ (i : { i : Nat // i ≤ y.length }),
 (decide ((↑i.val : Int) < (↑(List.map prD y).length : Int)) = true →
 ((!decide ((lo2 y k).length < i.val)) = true →
 NonN (↑i.val : Int) ∧
 ∃ (e : List D),
 (List.map prD y)[(↑i.val : Int).toNat]? = some e ∧
 ∃ (n : Int),
 e[0]? = some (D.val (Value.int IntKind.i64 n)) ∧
 (decide (k < n) = true →
 1 ≤ 1 ∧
 (accL y k b i.val).length ≤ (List.map prD (accL y k b i.val)).length ∧
 ((accL y k b i.val).length + 1) * 32 ≤ 140737488355328 ∧
 NonN (↑i.val : Int) ∧
 ∃ (e : List D),
 (List.map prD y)[(↑i.val : Int).toNat]? = some e ∧
 ∃ (n : Int),
 e[0]? = some (D.val (Value.int IntKind.i64 n)) ∧
 ∃ (l : List (List D)),
 e[1]? = some (D.sl 1 l) ∧
 1 ≤ 1 ∧
 (accL y k b i.val).length + 1 ≤ (List.take (accL y k b i.val).length (List.map prD (accL y k b i.val)) ++ [[D.val (Value.int IntKind.i64 k), D.sl 1 (ints IntKind.u8 b)]]).length ∧
 ((accL y k b i.val).length + 1 + 1) * 32 ≤ 140737488355328 ∧
 Nx (puLI y k b) i
 ([V.dat (prs y), V.int IntKind.i64 k, V.dat (D.sl 1 (ints IntKind.u8 b)), V.sl 0 0 ((accL y k b i.val).length + 1 + 1), V.sb true, V.int IntKind.i64 (IntKind.i64.wrap ((↑i.val : Int) + 1))],
 [KO.row 77 2 (List.take ((accL y k b i.val).length + 1) (List.take (accL y k b i.val).length (List.map prD (accL y k b i.val)) ++ [[D.val (Value.int IntKind.i64 k), D.sl 1 (ints IntKind.u8 b)]]) ++ [[D.val (Value.int IntKind.i64 n), D.sl 1 l]])])) ∧
 (decide (k < n) = false →
 NonN (↑i.val : Int) ∧
 ∃ (e : List D),
 (List.map prD y)[(↑i.val : Int).toNat]? = some e ∧
 ∃ (n : Int),
 e[0]? = some (D.val (Value.int IntKind.i64 n)) ∧
 ∃ (l : List (List D)),
 e[1]? = some (D.sl 1 l) ∧
 1 ≤ 1 ∧
 (accL y k b i.val).length ≤ (List.map prD (accL y k b i.val)).length ∧
 ((accL y k b i.val).length + 1) * 32 ≤ 140737488355328 ∧
 Nx (puLI y k b) i
 ([V.dat (prs y), V.int IntKind.i64 k, V.dat (D.sl 1 (ints IntKind.u8 b)), V.sl 0 0 ((accL y k b i.val).length + 1), V.sb (decide ((lo2 y k).length < i.val)), V.int IntKind.i64 (IntKind.i64.wrap ((↑i.val : Int) + 1))],
 [KO.row 77 2 (List.take (accL y k b i.val).length (List.map prD (accL y k b i.val)) ++ [[D.val (Value.int IntKind.i64 n), D.sl 1 l]])]))) ∧
 ((!decide ((lo2 y k).length < i.val)) = false →
 NonN (↑i.val : Int) ∧
 ∃ (e : List D),
 (List.map prD y)[(↑i.val : Int).toNat]? = some e ∧
 ∃ (n : Int),
 e[0]? = some (D.val (Value.int IntKind.i64 n)) ∧
 ∃ (l : List (List D)),
 e[1]? = some (D.sl 1 l) ∧
 1 ≤ 1 ∧
 (accL y k b i.val).length ≤ (List.map prD (accL y k b i.val)).length ∧
 ((accL y k b i.val).length + 1) * 32 ≤ 140737488355328 ∧
 Nx (puLI y k b) i
 ([V.dat (prs y), V.int IntKind.i64 k, V.dat (D.sl 1 (ints IntKind.u8 b)), V.sl 0 0 ((accL y k b i.val).length + 1), V.sb (decide ((lo2 y k).length < i.val)), V.int IntKind.i64 (IntKind.i64.wrap ((↑i.val : Int) + 1))], [KO.row 77 2 (List.take (accL y k b i.val).length (List.map prD (accL y k b i.val)) ++ [[D.val (Value.int IntKind.i64 n), D.sl 1 l]])]))) ∧
 (decide ((↑i.val : Int) < (↑(List.map prD y).length : Int)) = false →
 ((!decide ((lo2 y k).length < i.val)) = true → 1 ≤ 1 ∧ (accL y k b i.val).length ≤ (List.map prD (accL y k b i.val)).length ∧ ((accL y k b i.val).length + 1) * 32 ≤ 140737488355328 ∧ K (V.sl 0 0 ((accL y k b i.val).length + 1)) [KO.row 77 2 (List.take (accL y k b i.val).length (List.map prD (accL y k b i.val)) ++ [[D.val (Value.int IntKind.i64 k), D.sl 1 (ints IntKind.u8 b)]])]) ∧
 ((!decide ((lo2 y k).length < i.val)) = false → K (V.sl 0 0 (accL y k b i.val).length) [KO.row 77 2 (List.map prD (accL y k b i.val))]))
 ) : runSpec Try.prog XVr (vrT [] y k b 0 s0 [] [] 14) 14 [.dat (prs x), .int .i64 k, .dat (.sl 1 (ints .u8 b))] [] (nilRes [.slot 0 77 2] (tidyRes 0 K)) := by apply Eq.mp (a := hvc_); kernel_rfl
theorem vcRSame (x y : List P2) (K : V → KB → Prop) (hvc_ :
 (((↑(List.map prD x).length : Int) != (↑(List.map prD y).length : Int)) = true → K (V.sb false) []) ∧
 (((↑(List.map prD x).length : Int) != (↑(List.map prD y).length : Int)) = false →
 At (rsLI x y) ([V.dat (D.sl 2 (List.map prD x)), V.dat (D.sl 2 (List.map prD y)), V.int IntKind.i64 0], []) ∧
 ∀ (i : { i : Nat // i ≤ x.length ∧ List.take i x = List.take i y }),
 (decide ((↑i.val : Int) < (↑(List.map prD x).length : Int)) = true →
 NonN (↑i.val : Int) ∧
 ∃ (e : List D),
 (List.map prD x)[(↑i.val : Int).toNat]? = some e ∧
 ∃ (n : Int),
 e[0]? = some (D.val (Value.int IntKind.i64 n)) ∧
 NonN (↑i.val : Int) ∧
 ∃ (e : List D),
 (List.map prD y)[(↑i.val : Int).toNat]? = some e ∧
 ∃ (n_1 : Int),
 e[0]? = some (D.val (Value.int IntKind.i64 n_1)) ∧
 ((n != n_1) = true → K (V.sb false) []) ∧
 ((n != n_1) = false →
 NonN (↑i.val : Int) ∧
 ∃ (e : List D),
 (List.map prD x)[(↑i.val : Int).toNat]? = some e ∧
 ∃ (l : List (List D)),
 e[1]? = some (D.sl 1 l) ∧
 NonN (↑i.val : Int) ∧
 ∃ (e : List D),
 (List.map prD y)[(↑i.val : Int).toNat]? = some e ∧
 ∃ (l_1 : List (List D)),
 e[1]? = some (D.sl 1 l_1) ∧ ∃ (a : List Int), ∃ (b : List Int), l = ints IntKind.u8 a ∧ l_1 = ints IntKind.u8 b ∧ a.length.le 1000000 ∧ ((!decide (a = b)) = true → K (V.sb false) []) ∧ ((!decide (a = b)) = false → Nx (rsLI x y) i ([V.dat (prs x), V.dat (prs y), V.int IntKind.i64 (IntKind.i64.wrap ((↑i.val : Int) + 1))], [])))) ∧
 (decide ((↑i.val : Int) < (↑(List.map prD x).length : Int)) = false → K (V.sb true) []))
 ) : runSpec Try.prog XVa (vrT x y 0 [] 0 s0 [] [] 16) 16 [.dat (prs x), .dat (prs y)] [] (tidyRes 0 K) := by apply Eq.mp (a := hvc_); kernel_rfl
theorem vcOne (n m : Int) (K : V → KB → Prop) (hvc_ :
 LeM n ∧ LeM m ∧ K (V.int IntKind.i64 (IntKind.i64.wrap ((IntKind.i64.wrap (IntKind.i64.wrap (IntKind.i64.wrap (IntKind.i64.wrap (IntKind.i64.wrap (4 + (↑((numW n).length - 0) : Int)) + (↑((numW m).length - 0) : Int)) + m) + 4) + 63)).tdiv 64))) []
 ) : runSpec Try.prog XVa (noT 33) 33 [.int .i64 n, .int .i64 m] [] (tidyRes 0 K) := by apply Eq.mp (a := hvc_); kernel_rfl
theorem vcSectorsR (x : List P2) (K : V → KB → Prop) (hvc_ :
 LeM (↑(List.map prD x).length : Int) ∧
 ∃ (a : Nat),
 ∃ (c : Nat),
 0 = (↑a : Int) ∧
 (↑((numW (↑(List.map prD x).length : Int)).length - 0) : Int) = (↑c : Int) ∧
 a ≤ 1000000 ∧
 c ≤ 1000000 ∧
 At (seLI x) ([V.dat (D.sl 2 (List.map prD x)), V.int IntKind.i64 (↑(oneN a c) : Int), V.int IntKind.i64 0], []) ∧
 ∀ (i : { i : Nat // i ≤ x.length }),
 (decide ((↑i.val : Int) < (↑(List.map prD x).length : Int)) = true →
 NonN (↑i.val : Int) ∧
 ∃ (e : List D),
 (List.map prD x)[(↑i.val : Int).toNat]? = some e ∧
 ∃ (n : Int),
 e[0]? = some (D.val (Value.int IntKind.i64 n)) ∧
 NonN (↑i.val : Int) ∧
 ∃ (e : List D),
 (List.map prD x)[(↑i.val : Int).toNat]? = some e ∧
 ∃ (l : List (List D)),
 e[1]? = some (D.sl 1 l) ∧
 LeM n ∧
 (∃ (l : List (List D)), e[1]? = some (D.sl 1 l) ∧ True) ∧
 ∃ (b : List Int),
 l = ints IntKind.u8 b ∧
 b.length ≤ 1000000 ∧
 ∃ (a : Nat),
 ∃ (c : Nat),
 IntKind.i64.wrap ((↑i.val : Int) + 1) = (↑a : Int) ∧
 IntKind.i64.wrap ((↑((numW n).length - 0) : Int) + (↑((textW b).length - 0) : Int)) = (↑c : Int) ∧
 a ≤ 1000000 ∧ c ≤ 1000000 ∧ Nx (seLI x) i ([V.dat (prs x), V.int IntKind.i64 (IntKind.i64.wrap ((↑(oneN 0 (numW (↑x.length : Int)).length + secN 0 (List.take i.val x)) : Int) + (↑(oneN a c) : Int))), V.int IntKind.i64 (IntKind.i64.wrap ((↑i.val : Int) + 1))], [])) ∧
 (decide ((↑i.val : Int) < (↑(List.map prD x).length : Int)) = false → K (V.int IntKind.i64 (↑(oneN 0 (numW (↑x.length : Int)).length + secN 0 (List.take i.val x)) : Int)) [])
 ) : runSpec Try.prog XVr (vrT x [] 0 [] 0 s0 [] [] 21) 21 [.dat (prs x)] [] (tidyRes 0 K) := by apply Eq.mp (a := hvc_); kernel_rfl
theorem vcPairs (N : Nat) (s : VSt) (M : ML) (x : List (List Int)) (K : V → KB → Prop) (hvc_ :
 ∃ (N_1 : Nat),
 ∃ (s_1 : VSt),
 ∃ (x_1 : List (List Int)),
 VIn N_1 s_1 x_1 (↑(N / 4) : Int) (↑s.gen : Int) x.length 0 M (↑(2 * (N / 4)) : Int) (↑(N - 2 * (N / 4)) : Int) (↑s.gen : Int) (↑s.u : Int) (↑s.m : Int) 0 (secs x) [] [] ∧
 At (paLI N s M x)
 ([V.ptr 0 0, V.sl 7 0 0, V.sl 8 0 s_1.l.length, V.int IntKind.i64 0],
 [KO.cells [V.ptr 1 0, V.int IntKind.i64 (↑(N_1 / 4) : Int), V.int IntKind.i64 (↑s_1.gen : Int), V.mp 2, V.ptr 3 0, V.sb false], KO.cells [V.sl 4 0 x_1.length, V.sl 5 0 0, V.int IntKind.i64 (-1), V.sb false], KO.mp [IntKind.i64] false false 1 M,
 KO.cells [V.ptr 1 0, V.int IntKind.i64 (↑(2 * (N_1 / 4)) : Int), V.int IntKind.i64 (↑(N_1 - 2 * (N_1 / 4)) : Int), V.int IntKind.i64 (↑s_1.gen : Int), V.int IntKind.i64 (↑s_1.u : Int), V.int IntKind.i64 (↑s_1.m : Int), V.sl 6 0 0, V.sb false], KO.row 82 64 (secs x_1), KO.row 84 129 [], KO.row 126 2 [], KO.row 77 2 [],
 KO.row 3 1 (ints IntKind.i64 (List.map (fun (x : P2) => x.fst) s_1.l))]) ∧
 ∀ (i : { i : Nat // i ≤ s.l.length }),
 (decide ((↑i.val : Int) < (↑(s.l.length - 0) : Int)) = true →
 InB (↑i.val : Int) (s.l.length - 0) ∧
 ∃ (e : List D),
 (ints IntKind.i64 (List.map (fun (x : P2) => x.fst) s.l))[0 + (↑i.val : Int).toNat]? = some e ∧
 ∃ (n : Int),
 e[0]? = some (D.val (Value.int IntKind.i64 n)) ∧
 ∃ (N_2 : Nat),
 ∃ (s_2 : VSt),
 ∃ (x_2 : List (List Int)),
 VIn N_2 s_2 x_2 (↑(N / 4) : Int) (↑s.gen : Int) x.length 0 M (↑(2 * (N / 4)) : Int) (↑(N - 2 * (N / 4)) : Int) (↑s.gen : Int) (↑s.u : Int) (↑s.m : Int) 0 (secs x) [] [] ∧
 InB (↑i.val : Int) (s.l.length - 0) ∧
 ∃ (e : List D),
 (ints IntKind.i64 (List.map (fun (x : P2) => x.fst) s.l))[0 + (↑i.val : Int).toNat]? = some e ∧
 ∃ (n_1 : Int),
 e[0]? = some (D.val (Value.int IntKind.i64 n_1)) ∧
 ((getP s_2.l n).getD []).length ≤ (ints IntKind.u8 ((getP s_2.l n).getD [])).length ∧
 1 ≤ 1 ∧
 (List.take i.val s.l).length ≤ (List.map prD (List.take i.val s.l)).length ∧
 ((List.take i.val s.l).length + 1) * 32 ≤ 140737488355328 ∧
 Nx (paLI N s M x) i
 ([V.ptr 0 0, V.sl 7 0 ((List.take i.val s.l).length + 1), V.sl 8 0 s.l.length, V.int IntKind.i64 (IntKind.i64.wrap ((↑i.val : Int) + 1))],
 [KO.cells [V.ptr 1 0, V.int IntKind.i64 (↑(N_2 / 4) : Int), V.int IntKind.i64 (↑s_2.gen : Int), V.mp 2, V.ptr 3 0, V.sb false], KO.cells [V.sl 4 0 x_2.length, V.sl 5 0 0, V.int IntKind.i64 (-1), V.sb false], KO.mp [IntKind.i64] false false 1 M,
 KO.cells [V.ptr 1 0, V.int IntKind.i64 (↑(2 * (N_2 / 4)) : Int), V.int IntKind.i64 (↑(N_2 - 2 * (N_2 / 4)) : Int), V.int IntKind.i64 (↑s_2.gen : Int), V.int IntKind.i64 (↑s_2.u : Int), V.int IntKind.i64 (↑s_2.m : Int), V.sl 6 0 0, V.sb false], KO.row 82 64 (secs x_2), KO.row 84 129 [], KO.row 126 2 [],
 KO.row 77 2 (List.take (List.take i.val s.l).length (List.map prD (List.take i.val s.l)) ++ [[D.val (Value.int IntKind.i64 n_1), D.sl 1 (List.drop 0 (List.take ((getP s_2.l n).getD []).length (ints IntKind.u8 ((getP s_2.l n).getD []))))]]), KO.row 3 1 (ints IntKind.i64 (List.map (fun (x : P2) => x.fst) s.l))])) ∧
 (decide ((↑i.val : Int) < (↑(s.l.length - 0) : Int)) = false →
 (List.take i.val s.l).length ≤ (List.map prD (List.take i.val s.l)).length ∧
 K (V.dat (D.sl 2 (List.drop 0 (List.take (List.take i.val s.l).length (List.map prD (List.take i.val s.l))))))
 [KO.cells [V.ptr 1 0, V.int IntKind.i64 (↑(N / 4) : Int), V.int IntKind.i64 (↑s.gen : Int), V.mp 2, V.ptr 3 0, V.sb false], KO.cells [V.sl 4 0 x.length, V.sl 5 0 0, V.int IntKind.i64 (-1), V.sb false], KO.mp [IntKind.i64] false false 1 M,
 KO.cells [V.ptr 1 0, V.int IntKind.i64 (↑(2 * (N / 4)) : Int), V.int IntKind.i64 (↑(N - 2 * (N / 4)) : Int), V.int IntKind.i64 (↑s.gen : Int), V.int IntKind.i64 (↑s.u : Int), V.int IntKind.i64 (↑s.m : Int), V.sl 6 0 0, V.sb false], KO.row 82 64 (secs x), KO.row 84 129 [], KO.row 126 2 []])
 ) : runSpec Try.prog XVa (vrT [] [] 0 [] N s M x 17) 17 [.ptr 0 0] (vauH N s M x) (nilRes [.slot 0 77 2] (gvRes [.give 2] (tidyRes 7 K))) := by apply Eq.mp (a := hvc_); kernel_rfl
end Go.Proofs.Ytkodjbegpheomaa
