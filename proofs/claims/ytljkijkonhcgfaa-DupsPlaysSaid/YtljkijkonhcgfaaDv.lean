import Derived.Test.YtljkijkonhcgfaaDu
import Derived.KernelRfl
namespace Go.Proofs.Ytljkijkonhcgfaa
open Vc Go
set_option linter.unusedVariables false
set_option linter.unusedSimpArgs false
set_option maxRecDepth 100000
structure OkX (x : List L3) : Prop where
  inc : x.Pairwise (fun a b => a.1 < b.1)
  rg : ∀ p ∈ x, 0 ≤ p.1 ∧ p.1 ≤ 255 ∧ 1 ≤ p.2.1 ∧ p.2.1 ≤ 1099511627776 ∧ 0 ≤ p.2.2 ∧ p.2.2 ≤ 63
  len : x.length ≤ 32
def lo3 (x : List L3) (c : Int) : List L3 := x.filter (fun p => decide (p.1 < c))
def hi3 (x : List L3) (c : Int) : List L3 := x.filter (fun p => decide (c < p.1))
def putX (x : List L3) (c n e : Int) : List L3 := if putE x c n e = 0 then putL x c n e else x
def midO (x : List L3) (c n e : Int) (i : Nat) : List L3 := lo3 x c ++ (c, n, e) :: hi3 (x.take i) c
abbrev rp1LI (x : List L3) (c n e : Int) : LI where
  α := {i : Nat // i ≤ x.length ∧ putE x c n e = 0}
  live := [0, 1, 2, 3, 11, 12]
  nils := [.slot 4 48 3]
  st i := ([.dat (.sl 3 (x.map en3)), .int .i64 c, .int .i64 n, .int .i64 e, .sl 0 0 (lo3 (x.take i.1) c).length, .int .i64 (i.1 : Int)], [.row 48 3 ((lo3 (x.take i.1) c).map en3)])
  μ i := x.length - i.1
abbrev rp2LI (x : List L3) (c n e : Int) : LI where
  α := {i : Nat // i ≤ x.length ∧ putE x c n e = 0}
  live := [0, 1, 11, 13]
  st i := ([.dat (.sl 3 (x.map en3)), .int .i64 c, .sl 0 0 (midO x c n e i.1).length, .int .i64 (i.1 : Int)], [.row 48 3 ((midO x c n e i.1).map en3)])
  μ i := x.length - i.1
abbrev rpC (x : List L3) (c n e : Int) : LI where
  α := {q : Nat // putE x c n e = 0}
  live := [0, 1, 2, 3]
  st q := ([.dat (.sl 3 (x.map en3)), .int .i64 c, .int .i64 n, .int .i64 e], [])
  μ q := 0
def trW (p : L3) : List Int := numW p.1 ++ numW p.2.1 ++ numW p.2.2
def catP (x : List L3) : List Int := (x.map trW).flatten
def tabW (x : List L3) : List Int := numW (x.length : Int) ++ catP x
def tabI (x : List L3) (i : Nat) : List Int := numW (x.length : Int) ++ catP (x.take i)
abbrev rbLI (x : List L3) : LI where
  α := {i : Nat // i ≤ x.length}
  live := [0, 3, 4]
  st i := ([.dat (.sl 3 (x.map en3)), .sl 0 0 (tabI x i.1).length, .int .i64 (i.1 : Int)], [.row 5 1 (ints .u8 (tabI x i.1))])
  μ i := x.length - i.1
abbrev tbLI (M : ML) (x : List L3) : LI where
  α := {i : Nat // i ≤ x.length}
  live := [0, 3, 13, 14, 15]
  st i := ([.ptr 0 0, .ptr 2 0, .sl 3 0 x.length, .int .i64 (x.length : Int), .int .i64 (i.1 : Int)], [.cells [.mp 1], mpT M, .cells [.sl 4 0 (tabI x i.1).length], .row 3 1 (ints .i64 (x.map (·.1))), .row 5 1 (ints .u8 (tabI x i.1))])
  μ i := x.length - i.1
abbrev tb0LI : LI where
  α := {i : Nat // i = 0}
  live := [0, 3, 13, 14, 15]
  st i := ([.ptr 0 0, .ptr 1 0, .sl 2 0 0, .int .i64 0, .int .i64 0], [.cells [.any (.map none)], .cells [.sl 3 0 (numW 0).length], .row 3 1 [], .row 5 1 (ints .u8 (numW 0))])
  μ i := 0
def dvT (M : ML) (x : List L3) (c n e : Int) : FuncId → Nat → Option LI
  | 10, 1008 => some (rpC x c n e)
  | 10, 10 => some (rp1LI x c n e)
  | 10, 16 => some (rp2LI x c n e)
  | 15, 3 => some (rbLI x)
  | 12, 4 => some (tbLI M x)
  | _, _ => none
def dv0 : FuncId → Nat → Option LI
  | 12, 4 => some tb0LI
  | _, _ => none
def SrPut : FSpec := fun args kb K => match args, kb with
  | [.dat (.sl 3 L), .int .i64 c, .int .i64 n, .int .i64 e], [] => ∃ x : List L3, L = x.map en3 ∧ x.length ≤ 32 ∧ K (.tup [.dat (.sl 3 ((putX x c n e).map en3)), .int .i64 (putE x c n e)]) []
  | _, _ => False
def SrBytes : FSpec := fun args kb K => match args, kb with
  | [.dat (.sl 3 L)], [] => ∃ x : List L3, L = x.map en3 ∧ OkX x ∧ K (.sl 0 0 (tabW x).length) [.row 5 1 (ints .u8 (tabW x))]
  | _, _ => False
def StBytes : FSpec := fun args kb K => match args, kb with
  | [.ptr 0 0], [.cells [.mp 1], .mp [.i64] false true 2 M] => ∃ x, Tab M x ∧ K (.sl 2 0 (tabW x).length) [.cells [.mp 1], mpT M, .row 5 1 (ints .u8 (tabW x))]
  | [.ptr 0 0], [.cells [.any (.map none)]] => K (.sl 1 0 (tabW []).length) [.cells [.any (.map none)], .row 5 1 (ints .u8 (tabW []))]
  | _, _ => False
def dvS : FuncId → Option Known
  | 19 => some ⟨[.lend 3], Sat⟩
  | 9 => some ⟨[], Sclients⟩
  | 7 => some ⟨[], Sput⟩
  | f => pkS f
noncomputable def XDv : CallT := callS Try.prog dvS noT 10
theorem vcRPut (x : List L3) (c n e : Int) (K : V → KB → Prop) (hvc_ :
 (decide (c < 0) = true → K (V.tup [V.dat (D.sl 3 (List.map en3 x)), V.int IntKind.i64 1]) []) ∧
 (decide (c < 0) = false →
 (decide (c > 255) = true → K (V.tup [V.dat (D.sl 3 (List.map en3 x)), V.int IntKind.i64 1]) []) ∧
 (decide (c > 255) = false →
 (decide (n < 1) = true → K (V.tup [V.dat (D.sl 3 (List.map en3 x)), V.int IntKind.i64 1]) []) ∧
 (decide (n < 1) = false →
 (decide (n > 1099511627776) = true → K (V.tup [V.dat (D.sl 3 (List.map en3 x)), V.int IntKind.i64 1]) []) ∧
 (decide (n > 1099511627776) = false →
 (decide (e < 0) = true → K (V.tup [V.dat (D.sl 3 (List.map en3 x)), V.int IntKind.i64 1]) []) ∧
 (decide (e < 0) = false →
 (decide (e > 63) = true → K (V.tup [V.dat (D.sl 3 (List.map en3 x)), V.int IntKind.i64 1]) []) ∧
 (decide (e > 63) = false →
 ∃ (x_1 : List L3),
 List.map en3 x = List.map en3 x_1 ∧
 x_1.length ≤ 32 ∧
 (decide (atV x_1 c ≥ 0) = true →
 NonN (atV x_1 c) ∧
 ∃ (e_1 : List D),
 (List.map en3 x)[(atV x_1 c).toNat]? = some e_1 ∧
 ∃ (n_1 : Int),
 e_1[1]? = some (D.val (Value.int IntKind.i64 n_1)) ∧
 (decide (n ≤ n_1) = true → K (V.tup [V.dat (D.sl 3 (List.map en3 x)), V.int IntKind.i64 13]) []) ∧
 (decide (n ≤ n_1) = false →
 ((decide (atV x_1 c < 0) = true → (decide ((↑(List.map en3 x).length : Int) ≥ 32) = true → K (V.tup [V.dat (D.sl 3 (List.map en3 x)), V.int IntKind.i64 6]) []) ∧ (decide ((↑(List.map en3 x).length : Int) ≥ 32) = false → At (rpC x c n e) ([V.dat (D.sl 3 (List.map en3 x)), V.int IntKind.i64 c, V.int IntKind.i64 n, V.int IntKind.i64 e], []))) ∧
 (decide (atV x_1 c < 0) = false → At (rpC x c n e) ([V.dat (D.sl 3 (List.map en3 x)), V.int IntKind.i64 c, V.int IntKind.i64 n, V.int IntKind.i64 e], []))) ∧
 ∀ (i : { q : Nat // putE x c n e = 0 }),
 At (rp1LI x c n e) ([V.dat (D.sl 3 (List.map en3 x)), V.int IntKind.i64 c, V.int IntKind.i64 n, V.int IntKind.i64 e, V.sl 0 0 0, V.int IntKind.i64 0], [KO.row 48 3 []]) ∧
 ∀ (i : { i : Nat // i ≤ x.length ∧ putE x c n e = 0 }),
 (decide ((↑i.val : Int) < (↑(List.map en3 x).length : Int)) = true →
 NonN (↑i.val : Int) ∧
 ∃ (e_2 : List D),
 (List.map en3 x)[(↑i.val : Int).toNat]? = some e_2 ∧
 ∃ (n_2 : Int),
 e_2[0]? = some (D.val (Value.int IntKind.i64 n_2)) ∧
 (decide (n_2 < c) = true →
 NonN (↑i.val : Int) ∧
 ∃ (e_3 : List D),
 (List.map en3 x)[(↑i.val : Int).toNat]? = some e_3 ∧
 ∃ (n_3 : Int),
 e_3[0]? = some (D.val (Value.int IntKind.i64 n_3)) ∧
 ∃ (n_4 : Int),
 e_3[1]? = some (D.val (Value.int IntKind.i64 n_4)) ∧
 ∃ (n_5 : Int),
 e_3[2]? = some (D.val (Value.int IntKind.i64 n_5)) ∧
 1 ≤ 1 ∧
 (lo3 (List.take i.val x) c).length ≤ (List.map en3 (lo3 (List.take i.val x) c)).length ∧
 ((lo3 (List.take i.val x) c).length + 1) * 24 ≤ 140737488355328 ∧
 Nx (rp1LI x c n e) i
 ([V.dat (D.sl 3 (List.map en3 x)), V.int IntKind.i64 c, V.int IntKind.i64 n, V.int IntKind.i64 e, V.sl 0 0 ((lo3 (List.take i.val x) c).length + 1), V.int IntKind.i64 (IntKind.i64.wrap ((↑i.val : Int) + 1))],
 [KO.row 48 3 (List.take (lo3 (List.take i.val x) c).length (List.map en3 (lo3 (List.take i.val x) c)) ++ [[D.val (Value.int IntKind.i64 n_3), D.val (Value.int IntKind.i64 n_4), D.val (Value.int IntKind.i64 n_5)]])])) ∧
 (decide (n_2 < c) = false → Nx (rp1LI x c n e) i ([V.dat (D.sl 3 (List.map en3 x)), V.int IntKind.i64 c, V.int IntKind.i64 n, V.int IntKind.i64 e, V.sl 0 0 (lo3 (List.take i.val x) c).length, V.int IntKind.i64 (IntKind.i64.wrap ((↑i.val : Int) + 1))], [KO.row 48 3 (List.map en3 (lo3 (List.take i.val x) c))]))) ∧
 (decide ((↑i.val : Int) < (↑(List.map en3 x).length : Int)) = false →
 1 ≤ 1 ∧
 (lo3 (List.take i.val x) c).length ≤ (List.map en3 (lo3 (List.take i.val x) c)).length ∧
 ((lo3 (List.take i.val x) c).length + 1) * 24 ≤ 140737488355328 ∧
 At (rp2LI x c n e)
 ([V.dat (D.sl 3 (List.map en3 x)), V.int IntKind.i64 c, V.sl 0 0 ((lo3 (List.take i.val x) c).length + 1), V.int IntKind.i64 0],
 [KO.row 48 3 (List.take (lo3 (List.take i.val x) c).length (List.map en3 (lo3 (List.take i.val x) c)) ++ [[D.val (Value.int IntKind.i64 c), D.val (Value.int IntKind.i64 n), D.val (Value.int IntKind.i64 e)]])]) ∧
 ∀ (i : { i : Nat // i ≤ x.length ∧ putE x c n e = 0 }),
 (decide ((↑i.val : Int) < (↑(List.map en3 x).length : Int)) = true →
 NonN (↑i.val : Int) ∧
 ∃ (e_2 : List D),
 (List.map en3 x)[(↑i.val : Int).toNat]? = some e_2 ∧
 ∃ (n_2 : Int),
 e_2[0]? = some (D.val (Value.int IntKind.i64 n_2)) ∧
 (decide (n_2 > c) = true →
 NonN (↑i.val : Int) ∧
 ∃ (e_3 : List D),
 (List.map en3 x)[(↑i.val : Int).toNat]? = some e_3 ∧
 ∃ (n_3 : Int),
 e_3[0]? = some (D.val (Value.int IntKind.i64 n_3)) ∧
 ∃ (n_4 : Int),
 e_3[1]? = some (D.val (Value.int IntKind.i64 n_4)) ∧
 ∃ (n_5 : Int),
 e_3[2]? = some (D.val (Value.int IntKind.i64 n_5)) ∧
 1 ≤ 1 ∧
 (midO x c n e i.val).length ≤ (List.map en3 (midO x c n e i.val)).length ∧
 ((midO x c n e i.val).length + 1) * 24 ≤ 140737488355328 ∧
 Nx (rp2LI x c n e) i
 ([V.dat (D.sl 3 (List.map en3 x)), V.int IntKind.i64 c, V.sl 0 0 ((midO x c n e i.val).length + 1), V.int IntKind.i64 (IntKind.i64.wrap ((↑i.val : Int) + 1))],
 [KO.row 48 3 (List.take (midO x c n e i.val).length (List.map en3 (midO x c n e i.val)) ++ [[D.val (Value.int IntKind.i64 n_3), D.val (Value.int IntKind.i64 n_4), D.val (Value.int IntKind.i64 n_5)]])])) ∧
 (decide (n_2 > c) = false → Nx (rp2LI x c n e) i ([V.dat (D.sl 3 (List.map en3 x)), V.int IntKind.i64 c, V.sl 0 0 (midO x c n e i.val).length, V.int IntKind.i64 (IntKind.i64.wrap ((↑i.val : Int) + 1))], [KO.row 48 3 (List.map en3 (midO x c n e i.val))]))) ∧
 (decide ((↑i.val : Int) < (↑(List.map en3 x).length : Int)) = false → (midO x c n e i.val).length ≤ (List.map en3 (midO x c n e i.val)).length ∧ K (V.tup [V.dat (D.sl 3 (List.drop 0 (List.take (midO x c n e i.val).length (List.map en3 (midO x c n e i.val))))), V.int IntKind.i64 0]) [])))) ∧
 (decide (atV x_1 c ≥ 0) = false →
 ((decide (atV x_1 c < 0) = true → (decide ((↑(List.map en3 x).length : Int) ≥ 32) = true → K (V.tup [V.dat (D.sl 3 (List.map en3 x)), V.int IntKind.i64 6]) []) ∧ (decide ((↑(List.map en3 x).length : Int) ≥ 32) = false → At (rpC x c n e) ([V.dat (D.sl 3 (List.map en3 x)), V.int IntKind.i64 c, V.int IntKind.i64 n, V.int IntKind.i64 e], []))) ∧
 (decide (atV x_1 c < 0) = false → At (rpC x c n e) ([V.dat (D.sl 3 (List.map en3 x)), V.int IntKind.i64 c, V.int IntKind.i64 n, V.int IntKind.i64 e], []))) ∧
 ∀ (i : { q : Nat // putE x c n e = 0 }),
 At (rp1LI x c n e) ([V.dat (D.sl 3 (List.map en3 x)), V.int IntKind.i64 c, V.int IntKind.i64 n, V.int IntKind.i64 e, V.sl 0 0 0, V.int IntKind.i64 0], [KO.row 48 3 []]) ∧
 ∀ (i : { i : Nat // i ≤ x.length ∧ putE x c n e = 0 }),
 (decide ((↑i.val : Int) < (↑(List.map en3 x).length : Int)) = true →
 NonN (↑i.val : Int) ∧
 ∃ (e_1 : List D),
 (List.map en3 x)[(↑i.val : Int).toNat]? = some e_1 ∧
 ∃ (n_1 : Int),
 e_1[0]? = some (D.val (Value.int IntKind.i64 n_1)) ∧
 (decide (n_1 < c) = true →
 NonN (↑i.val : Int) ∧
 ∃ (e_2 : List D),
 (List.map en3 x)[(↑i.val : Int).toNat]? = some e_2 ∧
 ∃ (n_2 : Int),
 e_2[0]? = some (D.val (Value.int IntKind.i64 n_2)) ∧
 ∃ (n_3 : Int),
 e_2[1]? = some (D.val (Value.int IntKind.i64 n_3)) ∧
 ∃ (n_4 : Int),
 e_2[2]? = some (D.val (Value.int IntKind.i64 n_4)) ∧
 1 ≤ 1 ∧
 (lo3 (List.take i.val x) c).length ≤ (List.map en3 (lo3 (List.take i.val x) c)).length ∧
 ((lo3 (List.take i.val x) c).length + 1) * 24 ≤ 140737488355328 ∧
 Nx (rp1LI x c n e) i
 ([V.dat (D.sl 3 (List.map en3 x)), V.int IntKind.i64 c, V.int IntKind.i64 n, V.int IntKind.i64 e, V.sl 0 0 ((lo3 (List.take i.val x) c).length + 1), V.int IntKind.i64 (IntKind.i64.wrap ((↑i.val : Int) + 1))],
 [KO.row 48 3 (List.take (lo3 (List.take i.val x) c).length (List.map en3 (lo3 (List.take i.val x) c)) ++ [[D.val (Value.int IntKind.i64 n_2), D.val (Value.int IntKind.i64 n_3), D.val (Value.int IntKind.i64 n_4)]])])) ∧
 (decide (n_1 < c) = false → Nx (rp1LI x c n e) i ([V.dat (D.sl 3 (List.map en3 x)), V.int IntKind.i64 c, V.int IntKind.i64 n, V.int IntKind.i64 e, V.sl 0 0 (lo3 (List.take i.val x) c).length, V.int IntKind.i64 (IntKind.i64.wrap ((↑i.val : Int) + 1))], [KO.row 48 3 (List.map en3 (lo3 (List.take i.val x) c))]))) ∧
 (decide ((↑i.val : Int) < (↑(List.map en3 x).length : Int)) = false →
 1 ≤ 1 ∧
 (lo3 (List.take i.val x) c).length ≤ (List.map en3 (lo3 (List.take i.val x) c)).length ∧
 ((lo3 (List.take i.val x) c).length + 1) * 24 ≤ 140737488355328 ∧
 At (rp2LI x c n e)
 ([V.dat (D.sl 3 (List.map en3 x)), V.int IntKind.i64 c, V.sl 0 0 ((lo3 (List.take i.val x) c).length + 1), V.int IntKind.i64 0], [KO.row 48 3 (List.take (lo3 (List.take i.val x) c).length (List.map en3 (lo3 (List.take i.val x) c)) ++ [[D.val (Value.int IntKind.i64 c), D.val (Value.int IntKind.i64 n), D.val (Value.int IntKind.i64 e)]])]) ∧
 ∀ (i : { i : Nat // i ≤ x.length ∧ putE x c n e = 0 }),
 (decide ((↑i.val : Int) < (↑(List.map en3 x).length : Int)) = true →
 NonN (↑i.val : Int) ∧
 ∃ (e_1 : List D),
 (List.map en3 x)[(↑i.val : Int).toNat]? = some e_1 ∧
 ∃ (n_1 : Int),
 e_1[0]? = some (D.val (Value.int IntKind.i64 n_1)) ∧
 (decide (n_1 > c) = true →
 NonN (↑i.val : Int) ∧
 ∃ (e_2 : List D),
 (List.map en3 x)[(↑i.val : Int).toNat]? = some e_2 ∧
 ∃ (n_2 : Int),
 e_2[0]? = some (D.val (Value.int IntKind.i64 n_2)) ∧
 ∃ (n_3 : Int),
 e_2[1]? = some (D.val (Value.int IntKind.i64 n_3)) ∧
 ∃ (n_4 : Int),
 e_2[2]? = some (D.val (Value.int IntKind.i64 n_4)) ∧
 1 ≤ 1 ∧
 (midO x c n e i.val).length ≤ (List.map en3 (midO x c n e i.val)).length ∧
 ((midO x c n e i.val).length + 1) * 24 ≤ 140737488355328 ∧
 Nx (rp2LI x c n e) i
 ([V.dat (D.sl 3 (List.map en3 x)), V.int IntKind.i64 c, V.sl 0 0 ((midO x c n e i.val).length + 1), V.int IntKind.i64 (IntKind.i64.wrap ((↑i.val : Int) + 1))],
 [KO.row 48 3 (List.take (midO x c n e i.val).length (List.map en3 (midO x c n e i.val)) ++ [[D.val (Value.int IntKind.i64 n_2), D.val (Value.int IntKind.i64 n_3), D.val (Value.int IntKind.i64 n_4)]])])) ∧
 (decide (n_1 > c) = false → Nx (rp2LI x c n e) i ([V.dat (D.sl 3 (List.map en3 x)), V.int IntKind.i64 c, V.sl 0 0 (midO x c n e i.val).length, V.int IntKind.i64 (IntKind.i64.wrap ((↑i.val : Int) + 1))], [KO.row 48 3 (List.map en3 (midO x c n e i.val))]))) ∧
 (decide ((↑i.val : Int) < (↑(List.map en3 x).length : Int)) = false → (midO x c n e i.val).length ≤ (List.map en3 (midO x c n e i.val)).length ∧ K (V.tup [V.dat (D.sl 3 (List.drop 0 (List.take (midO x c n e i.val).length (List.map en3 (midO x c n e i.val))))), V.int IntKind.i64 0]) [])))))))))
 ) : runSpec Try.prog XDv (dvT [] x c n e 10) 10 [.dat (.sl 3 (x.map en3)), .int .i64 c, .int .i64 n, .int .i64 e] [] (gvRes [.give 3] (tidyRes 0 K)) := Eq.mp (by kernel_rfl) hvc_
theorem vcRBytes (x : List L3) (K : V → KB → Prop) (hvc_ :
 LeM (↑(List.map en3 x).length : Int) ∧
 At (rbLI x) ([V.dat (D.sl 3 (List.map en3 x)), V.sl 0 0 (numW (↑(List.map en3 x).length : Int)).length, V.int IntKind.i64 0], [KO.row 5 1 (ints IntKind.u8 (numW (↑(List.map en3 x).length : Int)))]) ∧
 ∀ (i : { i : Nat // i ≤ x.length }),
 (decide ((↑i.val : Int) < (↑(List.map en3 x).length : Int)) = true →
 NonN (↑i.val : Int) ∧
 ∃ (e : List D),
 (List.map en3 x)[(↑i.val : Int).toNat]? = some e ∧
 ∃ (n : Int),
 e[0]? = some (D.val (Value.int IntKind.i64 n)) ∧
 LeM n ∧
 (numW n).length ≤ (ints IntKind.u8 (numW n)).length ∧
 (tabI x i.val).length ≤ (ints IntKind.u8 (tabI x i.val)).length ∧
 ((tabI x i.val).length + (List.drop 0 (List.take (numW n).length (ints IntKind.u8 (numW n)))).length) * 1 ≤ 140737488355328 ∧
 NonN (↑i.val : Int) ∧
 ∃ (e : List D),
 (List.map en3 x)[(↑i.val : Int).toNat]? = some e ∧
 ∃ (n_1 : Int),
 e[1]? = some (D.val (Value.int IntKind.i64 n_1)) ∧
 LeM n_1 ∧
 (numW n_1).length ≤ (ints IntKind.u8 (numW n_1)).length ∧
 (tabI x i.val).length + (List.drop 0 (List.take (numW n).length (ints IntKind.u8 (numW n)))).length ≤ (List.take (tabI x i.val).length (ints IntKind.u8 (tabI x i.val)) ++ List.drop 0 (List.take (numW n).length (ints IntKind.u8 (numW n)))).length ∧
 ((tabI x i.val).length + (List.drop 0 (List.take (numW n).length (ints IntKind.u8 (numW n)))).length + (List.drop 0 (List.take (numW n_1).length (ints IntKind.u8 (numW n_1)))).length) * 1 ≤ 140737488355328 ∧
 NonN (↑i.val : Int) ∧
 ∃ (e : List D),
 (List.map en3 x)[(↑i.val : Int).toNat]? = some e ∧
 ∃ (n_2 : Int),
 e[2]? = some (D.val (Value.int IntKind.i64 n_2)) ∧
 LeM n_2 ∧
 (numW n_2).length ≤ (ints IntKind.u8 (numW n_2)).length ∧
 (tabI x i.val).length + (List.drop 0 (List.take (numW n).length (ints IntKind.u8 (numW n)))).length + (List.drop 0 (List.take (numW n_1).length (ints IntKind.u8 (numW n_1)))).length ≤
 (List.take ((tabI x i.val).length + (List.drop 0 (List.take (numW n).length (ints IntKind.u8 (numW n)))).length) (List.take (tabI x i.val).length (ints IntKind.u8 (tabI x i.val)) ++ List.drop 0 (List.take (numW n).length (ints IntKind.u8 (numW n)))) ++ List.drop 0 (List.take (numW n_1).length (ints IntKind.u8 (numW n_1)))).length ∧
 ((tabI x i.val).length + (List.drop 0 (List.take (numW n).length (ints IntKind.u8 (numW n)))).length + (List.drop 0 (List.take (numW n_1).length (ints IntKind.u8 (numW n_1)))).length + (List.drop 0 (List.take (numW n_2).length (ints IntKind.u8 (numW n_2)))).length) * 1 ≤ 140737488355328 ∧
 Nx (rbLI x) i
 ([V.dat (D.sl 3 (List.map en3 x)), V.sl 0 0 ((tabI x i.val).length + (List.drop 0 (List.take (numW n).length (ints IntKind.u8 (numW n)))).length + (List.drop 0 (List.take (numW n_1).length (ints IntKind.u8 (numW n_1)))).length + (List.drop 0 (List.take (numW n_2).length (ints IntKind.u8 (numW n_2)))).length),
 V.int IntKind.i64 (IntKind.i64.wrap ((↑i.val : Int) + 1))],
 [KO.row 5 1
 (List.take ((tabI x i.val).length + (List.drop 0 (List.take (numW n).length (ints IntKind.u8 (numW n)))).length + (List.drop 0 (List.take (numW n_1).length (ints IntKind.u8 (numW n_1)))).length)
 (List.take ((tabI x i.val).length + (List.drop 0 (List.take (numW n).length (ints IntKind.u8 (numW n)))).length) (List.take (tabI x i.val).length (ints IntKind.u8 (tabI x i.val)) ++ List.drop 0 (List.take (numW n).length (ints IntKind.u8 (numW n)))) ++
 List.drop 0 (List.take (numW n_1).length (ints IntKind.u8 (numW n_1)))) ++
 List.drop 0 (List.take (numW n_2).length (ints IntKind.u8 (numW n_2))))])) ∧
 (decide ((↑i.val : Int) < (↑(List.map en3 x).length : Int)) = false → K (V.sl 0 0 (tabI x i.val).length) [KO.row 5 1 (ints IntKind.u8 (tabI x i.val))])
 ) : runSpec Try.prog XDv (dvT [] x 0 0 0 15) 15 [.dat (.sl 3 (x.map en3))] [] (tidyRes 0 K) := Eq.mp (by kernel_rfl) hvc_
theorem vcTBytes (M : ML) (x : List L3) (K : V → KB → Prop) (hvc_ :
 ∃ (a : List Int),
 [] = ints IntKind.u8 a ∧
 0 = a.length ∧
 a.length ≤ 10000000 ∧
 LeM (↑(List.length M) : Int) ∧
 ∃ (x_1 : List L3),
 Tab M x_1 ∧
 At (tbLI M x) ([V.ptr 0 0, V.ptr 2 0, V.sl 3 0 x_1.length, V.int IntKind.i64 (↑(x_1.length - 0) : Int), V.int IntKind.i64 0], [KO.cells [V.mp 1], KO.mp [IntKind.i64] false true 2 M, KO.cells [V.sl 4 0 (a ++ numW (↑(List.length M) : Int)).length], KO.row 3 1 (ints IntKind.i64 (List.map (fun (x : L3) => x.fst) x_1)), KO.row 5 1 (ints IntKind.u8 (a ++ numW (↑(List.length M) : Int)))]) ∧
 ∀ (i : { i : Nat // i ≤ x.length }),
 (decide ((↑i.val : Int) < (↑x.length : Int)) = true →
 InB (↑i.val : Int) (x.length - 0) ∧
 ∃ (e : List D),
 (ints IntKind.i64 (List.map (fun (x : L3) => x.fst) x))[0 + (↑i.val : Int).toNat]? = some e ∧
 ∃ (n : Int),
 e[0]? = some (D.val (Value.int IntKind.i64 n)) ∧
 ∃ (a : List Int),
 ints IntKind.u8 (tabI x i.val) = ints IntKind.u8 a ∧
 (tabI x i.val).length = a.length ∧
 a.length ≤ 10000000 ∧
 LeM n ∧
 (∀ (cs : List D), mget M [n] = some cs → ConfK ([CK.int IntKind.i64] ++ ([CK.int IntKind.i64] ++ [])) cs) ∧
 ∃ (a_1 : List Int),
 ints IntKind.u8 (a ++ numW n) = ints IntKind.u8 a_1 ∧
 (a ++ numW n).length = a_1.length ∧
 a_1.length ≤ 10000000 ∧
 LeM (mgetI M [n] 0) ∧
 (∀ (cs : List D), mget M [n] = some cs → ConfK ([CK.int IntKind.i64] ++ ([CK.int IntKind.i64] ++ [])) cs) ∧
 ∃ (a : List Int),
 ints IntKind.u8 (a_1 ++ numW (mgetI M [n] 0)) = ints IntKind.u8 a ∧
 (a_1 ++ numW (mgetI M [n] 0)).length = a.length ∧
 a.length ≤ 10000000 ∧
 LeM (mgetI M [n] 1) ∧
 Nx (tbLI M x) i
 ([V.ptr 0 0, V.ptr 2 0, V.sl 3 0 x.length, V.int IntKind.i64 (↑x.length : Int), V.int IntKind.i64 (IntKind.i64.wrap ((↑i.val : Int) + 1))],
 [KO.cells [V.mp 1], KO.mp [IntKind.i64] false true 2 M, KO.cells [V.sl 4 0 (a ++ numW (mgetI M [n] 1)).length], KO.row 3 1 (ints IntKind.i64 (List.map (fun (x : L3) => x.fst) x)), KO.row 5 1 (ints IntKind.u8 (a ++ numW (mgetI M [n] 1)))])) ∧
 (decide ((↑i.val : Int) < (↑x.length : Int)) = false → ∃ (a : List Int), ints IntKind.u8 (tabI x i.val) = ints IntKind.u8 a ∧ (tabI x i.val).length = a.length ∧ a.length ≤ 1000000 ∧ K (V.sl 2 0 a.length) [KO.cells [V.mp 1], KO.mp [IntKind.i64] false true 2 M, KO.row 5 1 (ints IntKind.u8 a)])
 ) : runSpec Try.prog XDv (dvT M x 0 0 0 12) 12 [.ptr 0 0] [.cells [.mp 1], mpT M] (tidyRes 2 K) := Eq.mp (by kernel_rfl) hvc_
theorem vcTBytes0  (K : V → KB → Prop) (hvc_ :
 ∃ (a : List Int),
 [] = ints IntKind.u8 a ∧
 0 = a.length ∧
 a.length ≤ 10000000 ∧
 LeM 0 ∧
 At tb0LI ([V.ptr 0 0, V.ptr 1 0, V.sl 2 0 0, V.int IntKind.i64 0, V.int IntKind.i64 0], [KO.cells [V.any (Value.map none)], KO.cells [V.sl 3 0 (a ++ [0]).length], KO.row 3 1 [], KO.row 5 1 (ints IntKind.u8 (a ++ [0]))]) ∧
 ∀ (i : { i : Nat // i = 0 }),
 (false = true →
 InB 0 0 ∧
 ∃ (e : List D),
 [][0]? = some e ∧
 ∃ (n : Int),
 e[0]? = some (D.val (Value.int IntKind.i64 n)) ∧
 ∃ (a : List Int),
 [[D.val (Value.int IntKind.u8 0)]] = ints IntKind.u8 a ∧
 1 = a.length ∧
 a.length ≤ 10000000 ∧
 LeM n ∧
 ∃ (a_1 : List Int),
 ints IntKind.u8 (a ++ numW n) = ints IntKind.u8 a_1 ∧
 (a ++ numW n).length = a_1.length ∧
 a_1.length ≤ 10000000 ∧
 LeM 0 ∧
 ∃ (a : List Int),
 ints IntKind.u8 (a_1 ++ [0]) = ints IntKind.u8 a ∧ (a_1 ++ [0]).length = a.length ∧ a.length ≤ 10000000 ∧ LeM 0 ∧ Nx tb0LI i ([V.ptr 0 0, V.ptr 1 0, V.sl 2 0 0, V.int IntKind.i64 0, V.int IntKind.i64 1], [KO.cells [V.any (Value.map none)], KO.cells [V.sl 3 0 (a ++ [0]).length], KO.row 3 1 [], KO.row 5 1 (ints IntKind.u8 (a ++ [0]))])) ∧
 (false = false → ∃ (a : List Int), [[D.val (Value.int IntKind.u8 0)]] = ints IntKind.u8 a ∧ 1 = a.length ∧ a.length ≤ 1000000 ∧ K (V.sl 1 0 a.length) [KO.cells [V.any (Value.map none)], KO.row 5 1 (ints IntKind.u8 a)])
 ) : runSpec Try.prog XDv (dv0 12) 12 [.ptr 0 0] [.cells [.any (.map none)]] (tidyRes 1 K) := Eq.mp (by kernel_rfl) hvc_
theorem g3_take {x : List L3} {i : Nat} (h : i < x.length) : x.take (i + 1) = x.take i ++ [g3 x i] := by rw [List.take_add_one, g3_get h]; rfl
theorem lo3_s {x : List L3} {c : Int} {i : Nat} (h : i < x.length) : lo3 (x.take (i + 1)) c = lo3 (x.take i) c ++ if (g3 x i).1 < c then [g3 x i] else [] := by
  unfold lo3
  rw [g3_take h, List.filter_append]
  congr 1
  by_cases hc : (g3 x i).1 < c <;> simp [hc]
theorem hi3_s {x : List L3} {c : Int} {i : Nat} (h : i < x.length) : hi3 (x.take (i + 1)) c = hi3 (x.take i) c ++ if c < (g3 x i).1 then [g3 x i] else [] := by
  unfold hi3
  rw [g3_take h, List.filter_append]
  congr 1
  by_cases hc : c < (g3 x i).1 <;> simp [hc]
theorem mid_s {x : List L3} {c n e : Int} {i : Nat} (h : i < x.length) : midO x c n e (i + 1) = midO x c n e i ++ if c < (g3 x i).1 then [g3 x i] else [] := by
  unfold midO
  rw [hi3_s h]
  simp
theorem lo3_len {x : List L3} {c : Int} {i : Nat} : (lo3 (x.take i) c).length ≤ i := by
  have := List.length_filter_le (fun p : L3 => decide (p.1 < c)) (x.take i)
  rw [List.length_take] at this
  unfold lo3; omega
theorem mid_len {x : List L3} {c n e : Int} {i : Nat} : (midO x c n e i).length ≤ x.length + 1 + i := by
  have h1 := List.length_filter_le (fun p : L3 => decide (p.1 < c)) x
  have h2 := List.length_filter_le (fun p : L3 => decide (c < p.1)) (x.take i)
  rw [List.length_take] at h2
  unfold midO lo3 hi3
  simp only [List.length_append, List.length_cons]; omega
theorem put_mid {x : List L3} {c n e : Int} (h : putE x c n e = 0) : putX x c n e = midO x c n e x.length := by
  unfold putX midO putL lo3 hi3
  rw [if_pos h, List.take_length]
theorem en3_app {a b : List L3} : (a ++ b).map en3 = a.map en3 ++ b.map en3 := List.map_append
theorem en3_take {a : List L3} {n : Nat} (h : a.length ≤ n) : List.take n (a.map en3) = a.map en3 := List.take_of_length_le (by rw [en3_len]; exact h)
theorem dvS_ok : AllOk Try.prog dvS := fun f k h => by
  unfold dvS at h
  split at h
  · cases h; exact okAt
  · cases h; exact okClients
  · cases h; exact okPut
  · exact pkS_ok _ _ h
theorem XDv_ok : CallOk Try.prog XDv := callS_ok mixed dvS_ok noT 10
theorem el33 {x : List L3} {i : Nat} {Q : Int → Int → Int → Prop} (hi : i < x.length) (q : Q (g3 x i).1 (g3 x i).2.1 (g3 x i).2.2) : NonN (i : Int) ∧ ∃ e, (x.map en3)[(i : Int).toNat]? = some e ∧ ∃ n, e[0]? = some (D.val (.int .i64 n)) ∧ ∃ m, e[1]? = some (D.val (.int .i64 m)) ∧ ∃ k, e[2]? = some (D.val (.int .i64 k)) ∧ Q n m k :=
  ⟨by unfold NonN; omega, en3 (g3 x i), by rw [Int.toNat_natCast, List.getElem?_map, g3_get hi]; rfl, _, rfl, _, rfl, _, rfl, q⟩
theorem rputTail {x : List L3} {c n e : Int} {K : V → KB → Prop} (hl : x.length ≤ 32) (h : K (.tup [.dat (.sl 3 ((putX x c n e).map en3)), .int .i64 (putE x c n e)]) []) :
 ∀ (i : { q : Nat // putE x c n e = 0 }),
 At (rp1LI x c n e) ([V.dat (D.sl 3 (List.map en3 x)), V.int IntKind.i64 c, V.int IntKind.i64 n, V.int IntKind.i64 e, V.sl 0 0 0, V.int IntKind.i64 0], [KO.row 48 3 []]) ∧
 ∀ (i : { i : Nat // i ≤ x.length ∧ putE x c n e = 0 }),
 (decide ((↑i.val : Int) < (↑(List.map en3 x).length : Int)) = true →
 NonN (↑i.val : Int) ∧
 ∃ (e_2 : List D),
 (List.map en3 x)[(↑i.val : Int).toNat]? = some e_2 ∧
 ∃ (n_2 : Int),
 e_2[0]? = some (D.val (Value.int IntKind.i64 n_2)) ∧
 (decide (n_2 < c) = true →
 NonN (↑i.val : Int) ∧
 ∃ (e_3 : List D),
 (List.map en3 x)[(↑i.val : Int).toNat]? = some e_3 ∧
 ∃ (n_3 : Int),
 e_3[0]? = some (D.val (Value.int IntKind.i64 n_3)) ∧
 ∃ (n_4 : Int),
 e_3[1]? = some (D.val (Value.int IntKind.i64 n_4)) ∧
 ∃ (n_5 : Int),
 e_3[2]? = some (D.val (Value.int IntKind.i64 n_5)) ∧
 1 ≤ 1 ∧
 (lo3 (List.take i.val x) c).length ≤ (List.map en3 (lo3 (List.take i.val x) c)).length ∧
 ((lo3 (List.take i.val x) c).length + 1) * 24 ≤ 140737488355328 ∧
 Nx (rp1LI x c n e) i
 ([V.dat (D.sl 3 (List.map en3 x)), V.int IntKind.i64 c, V.int IntKind.i64 n, V.int IntKind.i64 e, V.sl 0 0 ((lo3 (List.take i.val x) c).length + 1), V.int IntKind.i64 (IntKind.i64.wrap ((↑i.val : Int) + 1))],
 [KO.row 48 3 (List.take (lo3 (List.take i.val x) c).length (List.map en3 (lo3 (List.take i.val x) c)) ++ [[D.val (Value.int IntKind.i64 n_3), D.val (Value.int IntKind.i64 n_4), D.val (Value.int IntKind.i64 n_5)]])])) ∧
 (decide (n_2 < c) = false → Nx (rp1LI x c n e) i ([V.dat (D.sl 3 (List.map en3 x)), V.int IntKind.i64 c, V.int IntKind.i64 n, V.int IntKind.i64 e, V.sl 0 0 (lo3 (List.take i.val x) c).length, V.int IntKind.i64 (IntKind.i64.wrap ((↑i.val : Int) + 1))], [KO.row 48 3 (List.map en3 (lo3 (List.take i.val x) c))]))) ∧
 (decide ((↑i.val : Int) < (↑(List.map en3 x).length : Int)) = false →
 1 ≤ 1 ∧
 (lo3 (List.take i.val x) c).length ≤ (List.map en3 (lo3 (List.take i.val x) c)).length ∧
 ((lo3 (List.take i.val x) c).length + 1) * 24 ≤ 140737488355328 ∧
 At (rp2LI x c n e)
 ([V.dat (D.sl 3 (List.map en3 x)), V.int IntKind.i64 c, V.sl 0 0 ((lo3 (List.take i.val x) c).length + 1), V.int IntKind.i64 0],
 [KO.row 48 3 (List.take (lo3 (List.take i.val x) c).length (List.map en3 (lo3 (List.take i.val x) c)) ++ [[D.val (Value.int IntKind.i64 c), D.val (Value.int IntKind.i64 n), D.val (Value.int IntKind.i64 e)]])]) ∧
 ∀ (i : { i : Nat // i ≤ x.length ∧ putE x c n e = 0 }),
 (decide ((↑i.val : Int) < (↑(List.map en3 x).length : Int)) = true →
 NonN (↑i.val : Int) ∧
 ∃ (e_2 : List D),
 (List.map en3 x)[(↑i.val : Int).toNat]? = some e_2 ∧
 ∃ (n_2 : Int),
 e_2[0]? = some (D.val (Value.int IntKind.i64 n_2)) ∧
 (decide (n_2 > c) = true →
 NonN (↑i.val : Int) ∧
 ∃ (e_3 : List D),
 (List.map en3 x)[(↑i.val : Int).toNat]? = some e_3 ∧
 ∃ (n_3 : Int),
 e_3[0]? = some (D.val (Value.int IntKind.i64 n_3)) ∧
 ∃ (n_4 : Int),
 e_3[1]? = some (D.val (Value.int IntKind.i64 n_4)) ∧
 ∃ (n_5 : Int),
 e_3[2]? = some (D.val (Value.int IntKind.i64 n_5)) ∧
 1 ≤ 1 ∧
 (midO x c n e i.val).length ≤ (List.map en3 (midO x c n e i.val)).length ∧
 ((midO x c n e i.val).length + 1) * 24 ≤ 140737488355328 ∧
 Nx (rp2LI x c n e) i
 ([V.dat (D.sl 3 (List.map en3 x)), V.int IntKind.i64 c, V.sl 0 0 ((midO x c n e i.val).length + 1), V.int IntKind.i64 (IntKind.i64.wrap ((↑i.val : Int) + 1))],
 [KO.row 48 3 (List.take (midO x c n e i.val).length (List.map en3 (midO x c n e i.val)) ++ [[D.val (Value.int IntKind.i64 n_3), D.val (Value.int IntKind.i64 n_4), D.val (Value.int IntKind.i64 n_5)]])])) ∧
 (decide (n_2 > c) = false → Nx (rp2LI x c n e) i ([V.dat (D.sl 3 (List.map en3 x)), V.int IntKind.i64 c, V.sl 0 0 (midO x c n e i.val).length, V.int IntKind.i64 (IntKind.i64.wrap ((↑i.val : Int) + 1))], [KO.row 48 3 (List.map en3 (midO x c n e i.val))]))) ∧
 (decide ((↑i.val : Int) < (↑(List.map en3 x).length : Int)) = false → (midO x c n e i.val).length ≤ (List.map en3 (midO x c n e i.val)).length ∧ K (V.tup [V.dat (D.sl 3 (List.drop 0 (List.take (midO x c n e i.val).length (List.map en3 (midO x c n e i.val))))), V.int IntKind.i64 0]) [])) := by
  rintro ⟨_, hq⟩
  rw [put_mid hq, hq] at h
  refine ⟨At.mk' ⟨0, Nat.zero_le _, hq⟩ rfl, ?_⟩
  rintro ⟨i, hi, _⟩
  dsimp only
  have hlo := lo3_len (x := x) (c := c) (i := i)
  have e1 : i < x.length → IntKind.i64.wrap ((i : Int) + 1) = ((i + 1 : Nat) : Int) := fun _ => by rw [w64 (by omega) (by omega)]; rfl
  simp only [decide_eq_true_eq, decide_eq_false_iff_not, en3_len]
  refine ⟨fun hc => el3 (v := (g3 x i).1) (by omega) rfl ⟨fun h1 => el33 (by omega) ⟨Nat.le_refl _, Nat.le_refl _, by omega, ?_⟩, fun h1 => ?_⟩, fun hc => ?_⟩
  · refine Nx.mk' (⟨i + 1, by omega, hq⟩ : {i : Nat // i ≤ x.length ∧ putE x c n e = 0}) ?_ (by show x.length - (i + 1) < x.length - i; omega)
    show (_ : List V × KB) = _
    have e2 : lo3 (x.take (i + 1)) c = lo3 (x.take i) c ++ [g3 x i] := by rw [lo3_s (by omega), if_pos h1]
    have e3 : (lo3 (x.take i) c).length + 1 = (lo3 (x.take (i + 1)) c).length := by rw [e2, List.length_append, List.length_singleton]
    have e4 : List.take (lo3 (x.take i) c).length ((lo3 (x.take i) c).map en3) ++ [[D.val (.int .i64 (g3 x i).1), D.val (.int .i64 (g3 x i).2.1), D.val (.int .i64 (g3 x i).2.2)]] = (lo3 (x.take (i + 1)) c).map en3 := by
      rw [en3_take (Nat.le_refl _), e2, en3_app]; rfl
    rw [e1 (by omega), e3, e4]
  · refine Nx.mk' (⟨i + 1, by omega, hq⟩ : {i : Nat // i ≤ x.length ∧ putE x c n e = 0}) ?_ (by show x.length - (i + 1) < x.length - i; omega)
    show (_ : List V × KB) = _
    have e2 : lo3 (x.take i) c = lo3 (x.take (i + 1)) c := by rw [lo3_s (by omega), if_neg h1, List.append_nil]
    rw [e1 (by omega), e2]
  have : i = x.length := by omega
  subst this
  refine ⟨Nat.le_refl _, Nat.le_refl _, by omega, ?_, ?_⟩
  · have e5 : midO x c n e 0 = lo3 (x.take x.length) c ++ [(c, n, e)] := by unfold midO hi3; simp
    have e6 : (lo3 (x.take x.length) c).length + 1 = (midO x c n e 0).length := by rw [e5, List.length_append, List.length_singleton]
    have e7 : List.take (lo3 (x.take x.length) c).length ((lo3 (x.take x.length) c).map en3) ++ [[D.val (.int .i64 c), D.val (.int .i64 n), D.val (.int .i64 e)]] = (midO x c n e 0).map en3 := by
      rw [en3_take (Nat.le_refl _), e5, en3_app]; rfl
    rw [e6, e7]
    exact At.mk' ⟨0, Nat.zero_le _, hq⟩ rfl
  rintro ⟨j, hj, _⟩
  dsimp only
  have hmi := mid_len (x := x) (c := c) (n := n) (e := e) (i := j)
  have e1 : j < x.length → IntKind.i64.wrap ((j : Int) + 1) = ((j + 1 : Nat) : Int) := fun _ => by rw [w64 (by omega) (by omega)]; rfl
  refine ⟨fun hc => el3 (v := (g3 x j).1) (by omega) rfl ⟨fun h1 => el33 (by omega) ⟨Nat.le_refl _, Nat.le_refl _, by omega, ?_⟩, fun h1 => ?_⟩, fun hc => ?_⟩
  · refine Nx.mk' (⟨j + 1, by omega, hq⟩ : {i : Nat // i ≤ x.length ∧ putE x c n e = 0}) ?_ (by show x.length - (j + 1) < x.length - j; omega)
    show (_ : List V × KB) = _
    have e2 : midO x c n e (j + 1) = midO x c n e j ++ [g3 x j] := by rw [mid_s (by omega), if_pos (show c < (g3 x j).1 from h1)]
    have e3 : (midO x c n e j).length + 1 = (midO x c n e (j + 1)).length := by rw [e2, List.length_append, List.length_singleton]
    have e4 : List.take (midO x c n e j).length ((midO x c n e j).map en3) ++ [[D.val (.int .i64 (g3 x j).1), D.val (.int .i64 (g3 x j).2.1), D.val (.int .i64 (g3 x j).2.2)]] = (midO x c n e (j + 1)).map en3 := by
      rw [en3_take (Nat.le_refl _), e2, en3_app]; rfl
    rw [e1 (by omega), e3, e4]
  · refine Nx.mk' (⟨j + 1, by omega, hq⟩ : {i : Nat // i ≤ x.length ∧ putE x c n e = 0}) ?_ (by show x.length - (j + 1) < x.length - j; omega)
    show (_ : List V × KB) = _
    have e2 : midO x c n e j = midO x c n e (j + 1) := by rw [mid_s (by omega), if_neg (show ¬ c < (g3 x j).1 from h1), List.append_nil]
    rw [e1 (by omega), e2]
  have : j = x.length := by omega
  subst this
  refine ⟨Nat.le_refl _, ?_⟩
  rw [List.drop_zero, en3_take (Nat.le_refl _)]
  exact h
theorem okRPut : SpecOk Try.prog 10 SrPut := by
  have h0 : SpecOk Try.prog 10 (fun a k K0 => ∃ T, runSpec Try.prog XDv T 10 a k K0) := specOk_of' XDv_ok mixed fun _ _ _ h => h
  have h2 := gvTidy_ok h0 [.give 3]
  exact fun args kb K hs => h2 args kb K (by
    unfold SrPut at hs; split at hs <;> try exact hs.elim
    rename_i c n e
    obtain ⟨x, rfl, hl, h⟩ := hs
    refine ⟨dvT [] x c n e 10, vcRPut x c n e K ?_⟩
    simp only [decide_eq_true_eq, decide_eq_false_iff_not]
    have er : putE x c n e ≠ 0 → K (.tup [.dat (.sl 3 (x.map en3)), .int .i64 (putE x c n e)]) [] := fun hne => by
      unfold putX at h
      rwa [if_neg hne] at h
    have bad : (c < 0 ∨ 255 < c ∨ n < 1 ∨ 1099511627776 < n ∨ e < 0 ∨ 63 < e) → K (.tup [.dat (.sl 3 (x.map en3)), .int .i64 1]) [] := fun hb => by
      have e1 : putE x c n e = 1 := by unfold putE; rw [if_pos hb]
      rw [e1] at er
      exact er (by decide)
    refine ⟨fun h1 => bad (.inl h1), fun h1 => ⟨fun h2 => bad (.inr (.inl h2)), fun h2 => ⟨fun h3 => bad (.inr (.inr (.inl h3))), fun h3 => ⟨fun h4 => bad (.inr (.inr (.inr (.inl h4)))), fun h4 => ⟨fun h5 => bad (.inr (.inr (.inr (.inr (.inl h5))))), fun h5 => ⟨fun h6 => bad (.inr (.inr (.inr (.inr (.inr h6))))), fun h6 => ?_⟩⟩⟩⟩⟩⟩
    have hg : ¬ (c < 0 ∨ 255 < c ∨ n < 1 ∨ 1099511627776 < n ∨ e < 0 ∨ 63 < e) := by omega
    have ee : putE x c n e = match (atI x c).map fun i => (g3 x i).2 with
        | some q => if n ≤ q.1 then 13 else 0
        | none => if 32 ≤ x.length then 6 else 0 := by unfold putE numA; rw [if_neg hg]; cases atI x c <;> rfl
    refine ⟨x, rfl, hl, ?_⟩
    unfold atV
    cases hc : atI x c with
    | some i =>
      rw [hc] at ee
      simp only [Option.map_some] at ee
      obtain ⟨h1i, _, _⟩ := at_some hc
      refine (fun t => ⟨fun _ => el3 (v := (g3 x i).2.1) h1i rfl ⟨fun h7 => ?_, fun h7 => ⟨⟨fun f => absurd f (by simp only; omega), fun _ => ?_⟩, t⟩⟩, fun f => absurd f (by simp only; omega)⟩) ?_
      rotate_left
      · rw [if_pos h7] at ee
        rw [ee] at er
        exact er (by decide)
      · rw [if_neg h7] at ee
        exact At.mk' ⟨0, ee⟩ rfl
      have t := rputTail hl h; simp only [decide_eq_true_eq, decide_eq_false_iff_not] at t; exact t
    | none =>
      rw [hc] at ee
      simp only [Option.map_none] at ee
      refine (fun t => ⟨fun f => absurd f (by simp only; omega), fun _ => ⟨⟨fun _ => ⟨fun h7 => ?_, fun h7 => ?_⟩, fun f => absurd (show (-1 : Int) < 0 by omega) f⟩, t⟩⟩) ?_
      rotate_left
      · rw [en3_len] at h7
        rw [if_pos (by omega)] at ee
        rw [ee] at er
        exact er (by decide)
      · rw [en3_len] at h7
        rw [if_neg (by omega)] at ee
        exact At.mk' ⟨0, ee⟩ rfl
      have t := rputTail hl h; simp only [decide_eq_true_eq, decide_eq_false_iff_not] at t; exact t)
theorem inc_lt {x : List L3} (h : x.Pairwise (fun a b => a.1 < b.1)) {i j : Nat} (hij : i < j) (hj : j < x.length) : (g3 x i).1 < (g3 x j).1 := by
  have := List.pairwise_iff_getElem.1 h i j (by omega) hj hij
  have e1 := g3_get (show i < x.length by omega)
  have e2 := g3_get hj
  rw [List.getElem?_eq_getElem (show i < x.length by omega), Option.some.injEq] at e1
  rw [List.getElem?_eq_getElem hj, Option.some.injEq] at e2
  rwa [e1, e2] at this
theorem numA_at {x : List L3} (h : x.Pairwise (fun a b => a.1 < b.1)) {i : Nat} (hi : i < x.length) : numA x (g3 x i).1 = some (g3 x i).2 := by
  unfold numA
  rw [at_uniq hi rfl (fun j hj => by have := inc_lt h hj hi; omega)]
  rfl
theorem catP_app {a b : List L3} : catP (a ++ b) = catP a ++ catP b := by unfold catP; rw [List.map_append, List.flatten_append]
theorem tabI_s {x : List L3} {i : Nat} (h : i < x.length) : tabI x (i + 1) = tabI x i ++ trW (g3 x i) := by
  unfold tabI
  rw [g3_take h, catP_app, ← List.append_assoc]
  simp [catP]
theorem tabI_all {x : List L3} : tabI x x.length = tabW x := by unfold tabI tabW; rw [List.take_length]
theorem tabI_0 {x : List L3} : tabI x 0 = numW (x.length : Int) := by simp [tabI, catP]
theorem catP_len : ∀ (x : List L3), (catP x).length ≤ 27 * x.length
  | [] => by simp [catP]
  | p :: l => by
    have := catP_len l
    have h1 := numW_len p.1
    have h2 := numW_len p.2.1
    have h3 := numW_len p.2.2
    have e : catP (p :: l) = trW p ++ catP l := by simp [catP]
    rw [e, List.length_append, List.length_cons]
    unfold trW
    simp only [List.length_append]; omega
theorem tabI_len {x : List L3} (h : x.length ≤ 32) (i : Nat) : (tabI x i).length ≤ 1000 := by
  have h1 := catP_len (x.take i)
  have h2 := numW_len (x.length : Int)
  rw [List.length_take] at h1
  unfold tabI
  rw [List.length_append]; omega
theorem Tab.ok {M : ML} {x : List L3} (h : Tab M x) : OkX x := ⟨h.inc, h.rg, h.len⟩
theorem okRBytes : SpecOk Try.prog 15 SrBytes := specOk_tidy XDv_ok mixed (fun args kb K h => by
  unfold SrBytes at h; split at h <;> try exact h.elim
  obtain ⟨x, rfl, hx, h⟩ := h
  have hl := hx.len
  refine ⟨dvT [] x 0 0 0 15, vcRBytes x K ⟨⟨by rw [en3_len]; omega⟩, ?_, ?_⟩⟩
  · rw [en3_len, ← tabI_0]
    exact At.mk' ⟨0, Nat.zero_le _⟩ rfl
  rintro ⟨i, hi⟩
  dsimp only
  have ht := tabI_len hl i
  simp only [decide_eq_true_eq, decide_eq_false_iff_not, en3_len]
  refine ⟨fun hc => ?_, fun hc => ?_⟩
  · have hr := hx.rg _ (g3_mem (show i < x.length by omega))
    have n1 := numW_len (g3 x i).1
    have n2 := numW_len (g3 x i).2.1
    have n3 := numW_len (g3 x i).2.2
    simp only [ints_len, List.drop_zero, ints_take, List.take_length, ← ints_app, ← List.length_append, Nat.mul_one]
    refine el3 (v := (g3 x i).1) (by omega) rfl ⟨⟨by omega⟩, Nat.le_refl _, Nat.le_refl _, by rw [List.length_append]; omega, el3 (v := (g3 x i).2.1) (by omega) rfl ⟨⟨by omega⟩, Nat.le_refl _, Nat.le_refl _, by simp only [List.length_append]; omega, el3 (v := (g3 x i).2.2) (by omega) rfl ⟨⟨by omega⟩, Nat.le_refl _, Nat.le_refl _, by simp only [List.length_append]; omega, ?_⟩⟩⟩
    have e1 : IntKind.i64.wrap ((i : Int) + 1) = ((i + 1 : Nat) : Int) := by rw [w64 (by omega) (by omega)]; rfl
    have e2 : tabI x i ++ numW (g3 x i).1 ++ numW (g3 x i).2.1 ++ numW (g3 x i).2.2 = tabI x (i + 1) := by
      rw [tabI_s (by omega)]; unfold trW; simp only [List.append_assoc]
    rw [e1, e2]
    exact Nx.mk' (⟨i + 1, by omega⟩ : {i : Nat // i ≤ x.length}) rfl (by show x.length - (i + 1) < x.length - i; omega)
  · have : i = x.length := by omega
    subst this
    rw [tabI_all]
    exact h)
theorem okTBytes : SpecOk Try.prog 12 StBytes := specOk_tidy XDv_ok mixed (fun args kb K h => by
  unfold StBytes at h; split at h <;> try exact h.elim
  · rename_i M
    obtain ⟨x, ht, h⟩ := h
    have hl := ht.len
    have hML := (tab_keys ht).2.2
    refine ⟨dvT M x 0 0 0 12, vcTBytes M x K ⟨[], rfl, rfl, by simp, ⟨by omega⟩, x, ht, ?_, ?_⟩⟩
    · rw [hML, List.nil_append, ← tabI_0]
      exact At.mk' ⟨0, Nat.zero_le _⟩ rfl
    rintro ⟨i, hi⟩
    dsimp only
    have hb := tabI_len hl i
    simp only [decide_eq_true_eq, decide_eq_false_iff_not]
    refine ⟨fun hc => ?_, fun hc => ?_⟩
    · have hix : i < x.length := by omega
      have hr := ht.rg _ (g3_mem hix)
      have n1 := numW_len (g3 x i).1
      have n2 := numW_len (g3 x i).2.1
      have n3 := numW_len (g3 x i).2.2
      obtain ⟨t3, t4⟩ := (tab_has ht (g3 x i).1).2 _ (numA_at ht.inc hix)
      have hk : (x.map (·.1))[i]? = some (g3 x i).1 := by rw [List.getElem?_map, g3_get hix]; rfl
      refine ⟨by unfold InB; omega, [D.val (.int .i64 (g3 x i).1)], by rw [Nat.zero_add, Int.toNat_natCast, ints_get, hk]; rfl, _, rfl, _, rfl, rfl, by omega, ⟨by omega⟩, conf2 ht _, _, rfl, rfl, by rw [List.length_append]; omega, ⟨by rw [t3]; omega⟩, conf2 ht _, _, rfl, rfl, by rw [t3]; simp only [List.length_append]; omega, ⟨by rw [t4]; omega⟩, ?_⟩
      have e1 : IntKind.i64.wrap ((i : Int) + 1) = ((i + 1 : Nat) : Int) := by rw [w64 (by omega) (by omega)]; rfl
      have e2 : tabI x i ++ numW (g3 x i).1 ++ numW (g3 x i).2.1 ++ numW (g3 x i).2.2 = tabI x (i + 1) := by
        rw [tabI_s hix]; unfold trW; simp only [List.append_assoc]
      rw [t3, t4, e1, e2]
      exact Nx.mk' (⟨i + 1, by omega⟩ : {i : Nat // i ≤ x.length}) rfl (by show x.length - (i + 1) < x.length - i; omega)
    · have : i = x.length := by omega
      subst this
      refine ⟨_, rfl, rfl, by omega, ?_⟩
      rw [tabI_all]
      exact h
  · refine ⟨dv0 12, vcTBytes0 K ⟨[], rfl, rfl, by simp, ⟨by omega⟩, At.mk' ⟨0, rfl⟩ rfl, ?_⟩⟩
    rintro ⟨_, _⟩
    exact ⟨fun f => (by cases f), fun _ => ⟨[0], rfl, rfl, by simp, h⟩⟩)
end Go.Proofs.Ytljkijkonhcgfaa
