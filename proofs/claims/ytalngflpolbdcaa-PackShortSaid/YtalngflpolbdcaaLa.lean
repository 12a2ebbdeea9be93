import Derived.Test.YtalngflpolbdcaaPkC
import Derived.KernelRfl
namespace Go.Proofs.Ytalngflpolbdcaa
open Vc Go
set_option linter.unusedVariables false
set_option linter.unusedSimpArgs false
set_option maxRecDepth 100000
abbrev Fld := Bool × Int × List Int
def fldR (f : Fld) : List D := [db f.1, dn .i64 f.2.1, .sl 1 (ints .u8 f.2.2)]
def wOf (f : Fld) : List Int := if f.1 then textW f.2.2 else numW f.2.1
def catW (l : List Fld) : List Int := (l.map wOf).flatten
def gd (c : Nat) (l : List Fld) : Prop := ∀ f, f ∈ l → f.2.2.length ≤ c
def iInv (c : Nat) (l : List Fld) (i : Nat) : Prop := i ≤ l.length ∧ gd c (l.take i)
def jInv (c : Nat) (l : List Fld) (i : Nat) : Prop := i ≤ l.length ∧ gd c l
abbrev pw1LI (l : List Fld) : LI where
  α := {i : Nat // iInv 100 l i}
  live := [0, 3, 4, 5]
  nils := [.cell 0 0 5 1, .slot 2 5 1]
  st i := ([.dat (.sl 3 (l.map fldR)), .ptr 0 0, .sl 1 0 (catW (l.take i.1)).length, .int .i64 (i.1 : Int)], [.cells [.sl 2 0 (catW (l.take i.1)).length], .row 5 1 (ints .u8 (catW (l.take i.1))), .row 5 1 (ints .u8 (catW (l.take i.1)))])
  μ i := l.length - i.1
abbrev pw2LI (l : List Fld) : LI where
  α := {i : Nat // jInv 100 l i}
  live := [0, 6, 7]
  st i := ([.dat (.sl 3 (l.map fldR)), .ptr 0 0, .int .i64 (i.1 : Int)], [.cells [.sl 1 (catW (l.take i.1)).length (catW l).length, .int .i64 0], .row 5 1 (ints .u8 (catW l))])
  μ i := l.length - i.1
def prInv (b : List Int) (n : Nat) (p : Nat × Int × Nat) : Prop := p.1 ≤ b.length ∧ 0 ≤ p.2.1 ∧ p.2.2 ≤ n
def gN (f : Fld) (r : List Int) (e : Int) : Int := if e = 0 then (if f.1 then 0 else (rNum r 0 f.2.1).1) else 0
def gB (f : Fld) (r : List Int) (e : Int) : List Int := if e = 0 then (if f.1 then (rText r 0 f.2.1).1 else []) else []
def gE (f : Fld) (r : List Int) (e : Int) : Int := if e = 0 then (if f.1 then (rText r 0 f.2.1).2.2 else (rNum r 0 f.2.1).2.2) else e
def gU (f : Fld) (r : List Int) (e : Int) : Nat := if e = 0 then (if f.1 then (rText r 0 f.2.1).2.1 else (rNum r 0 f.2.1).2.1) else 0
def gL (f : Fld) (r : List Int) (e : Int) : List Int := if e = 0 then r.drop (gU f r e) else []
def pgInv (b : List Int) (l : List Fld) (i : Nat) (p : Nat × Int × Fld) : Prop := p.1 ≤ b.length ∧ 0 ≤ p.2.1 ∧ l[i]? = some p.2.2
abbrev pgLI (b : List Int) (l : List Fld) (i : Nat) : LI where
  α := {p : Nat × Int × Fld // pgInv b l i p}
  live := [1, 5, 6, 8, 9]
  nils := [.cellD 1 1 1, .cellD 1 3 1]
  st p := ([.dat (.sl 3 (l.map fldR)), .ptr 0 0, .dat (.sl 1 (ints .u8 (b.drop (p.1.1 + gU p.1.2.2 (b.drop p.1.1) p.1.2.1)))), .int .i64 (i : Int), .ptr 1 0], [.cells [.sl 2 p.1.1 b.length, .int .i64 p.1.2.1], .cells [.int .i64 (gN p.1.2.2 (b.drop p.1.1) p.1.2.1), .dat (.sl 1 (ints .u8 (gB p.1.2.2 (b.drop p.1.1) p.1.2.1))), .int .i64 (gE p.1.2.2 (b.drop p.1.1) p.1.2.1), .dat (.sl 1 (ints .u8 (gL p.1.2.2 (b.drop p.1.1) p.1.2.1)))], .row 5 1 (ints .u8 b)])
  μ _ := 0
abbrev prLI (b : List Int) (l : List Fld) : LI where
  α := Unit ⊕ {p : Nat × Int × Nat // prInv b l.length p}
  live := [1, 5, 6, 7, 8]
  st p := match p with
    | .inl _ => ([.dat (.sl 3 (l.map fldR)), .ptr 0 0, .sl 1 0 b.length, .int .i64 0, .int .i64 ((0 : Nat) : Int)], [.cells [.sl 2 0 b.length, .int .i64 0], .row 5 1 (ints .u8 b), .row 5 1 (ints .u8 b)])
    | .inr p => ([.dat (.sl 3 (l.map fldR)), .ptr 0 0, .dat (.sl 1 (ints .u8 (b.drop p.1.1))), .int .i64 p.1.2.1, .int .i64 (p.1.2.2 : Int)], [.cells [.sl 1 p.1.1 b.length, .int .i64 p.1.2.1], .row 5 1 (ints .u8 b)])
  μ p := match p with
    | .inl _ => l.length + 1
    | .inr p => l.length - p.1.2.2
  all := fun Q => (∀ a, Q (.inl a)) ∧ ∀ b, Q (.inr b)
  all_ok := fun Q h i => match i with
    | .inl a => h.1 a
    | .inr b => h.2 b
  sub p := match p with
    | .inl _ => fun r => match r with | 1018 => some (pgLI b l 0) | _ => none
    | .inr p => fun r => match r with | 1018 => some (pgLI b l p.1.2.2) | _ => none
abbrev ps1LI (l : List Fld) (cut : Int) : LI where
  α := {i : Nat // iInv 30 l i}
  live := [0, 1, 5, 6]
  nils := [.cell 0 0 5 1]
  st i := ([.dat (.sl 3 (l.map fldR)), .int .i64 cut, .ptr 0 0, .int .i64 (i.1 : Int)], [.cells [.sl 1 0 (catW (l.take i.1)).length], .row 5 1 (ints .u8 (catW (l.take i.1)))])
  μ i := l.length - i.1
def psInv (b : List Int) (l : List Fld) (p : Nat × Int × Nat) : Prop := p.1 ≤ b.length ∧ p.2.2 ≤ l.length ∧ gd 30 l ∧ ((p.2.1 = 0 ∧ ∃ r, r ≠ [] ∧ b.drop p.1 ++ r = catW (l.drop p.2.2)) ∨ p.2.1 = 2)
abbrev ps2LI (b : List Int) (l : List Fld) : LI where
  α := {p : Nat × Int × Nat // psInv b l p}
  live := [0, 8, 9]
  st p := ([.dat (.sl 3 (l.map fldR)), .ptr 0 0, .int .i64 (p.1.2.2 : Int)], [.cells [.sl 1 p.1.1 b.length, .int .i64 p.1.2.1], .row 5 1 (ints .u8 b)])
  μ p := l.length - p.1.2.2
def laT (b : List Int) (l : List Fld) (cut : Int) : FuncId → Nat → Option LI
  | 5, 6 => some (pw1LI l)
  | 5, 21 => some (pw2LI l)
  | 4, 9 => some (prLI b l)
  | 6, 5 => some (ps1LI l cut)
  | 6, 19 => some (ps2LI b l)
  | _, _ => none
def Sawake : FSpec := fun args kb K => match args, kb with | [], [] => K (.sb true) [] | _, _ => False
def lawS : FuncId → Option Known
  | 7 => some ⟨[], Sawake⟩
  | f => pxS f
noncomputable def XL (b : List Int) (l : List Fld) (cut : Int) : CallT := callS Try.prog lawS (laT b l cut) 10
theorem vcAwake  (K : V → KB → Prop) (h :
 ∃ a,
 [] = ints IntKind.u8 a ∧
 0 = a.length ∧
 a.length ≤ 10000000 ∧
 LeM 300 ∧
 (2 ≤ 2 ∧ True) ∧
 2 ≤ 1000000 ∧
 PlainS [D.val (Value.int IntKind.u8 172), D.val (Value.int IntKind.u8 2)] ∧
 ∃ a_1,
 ints IntKind.u8 (a ++ [172, 2]) = ints IntKind.u8 a_1 ∧
 (a ++ [172, 2]).length = a_1.length ∧
 a_1.length ≤ 1000000 ∧
 (a_1.length ≤ (ints IntKind.u8 a_1).length ∧ 2 ≤ 2 ∧ True) ∧
 ∃ a b,
 List.drop 0 (List.take a_1.length (ints IntKind.u8 a_1)) = ints IntKind.u8 a ∧
 [[D.val (Value.int IntKind.u8 172)], [D.val (Value.int IntKind.u8 2)]] = ints IntKind.u8 b ∧
 a.length.le 1000000 ∧
 True ∧
 (decide (a = b) = true →
 ∃ l,
 [[D.val (Value.int IntKind.u8 172)], [D.val (Value.int IntKind.u8 2)]] = ints IntKind.u8 l ∧
 2 = l.length ∧
 0 ≤ l.length ∧
 (∀ (c : Int), List.Mem c l → 0 ≤ c ∧ c < 256) ∧
 l.length ≤ 10000000 ∧ (((rNum (List.drop 0 l) 0 300).fst == 300) = true → ∃ l_1, ints IntKind.u8 l = ints IntKind.u8 l_1 ∧ l.length = l_1.length ∧ K (V.sb (rEnd (List.drop (0 + (rNum (List.drop 0 l) 0 300).snd.fst) l_1) (rNum (List.drop 0 l) 0 300).snd.snd == 0)) []) ∧ (((rNum (List.drop 0 l) 0 300).fst == 300) = false → K (V.sb false) [])) ∧
 (decide (a = b) = false → K (V.sb false) [])
 ) : runSpec Try.prog XPx (noT 7) 7 [] [] K := Eq.mp (by kernel_rfl) h
theorem vcOne (b : List Int)  (h :
 (decide ((↑(ints IntKind.u8 b).length : Int) > 20) = true → true = true) ∧
 (decide ((↑(ints IntKind.u8 b).length : Int) > 20) = false →
 (ints IntKind.u8 b).length ≤ 1000000 ∧
 ∃ l,
 ints IntKind.u8 b = ints IntKind.u8 l ∧
 (ints IntKind.u8 b).length = l.length ∧
 0 ≤ l.length ∧
 (∀ (c : Int), List.Mem c l → 0 ≤ c ∧ c < 256) ∧
 l.length ≤ 10000000 ∧
 ∃ l_1,
 ints IntKind.u8 l = ints IntKind.u8 l_1 ∧
 l.length = l_1.length ∧
 ((rEnd (List.drop (0 + (rNum (List.drop 0 l) 0 9223372036854775807).snd.fst) l_1) (rNum (List.drop 0 l) 0 9223372036854775807).snd.snd != 0) = true → true = true) ∧
 ((rEnd (List.drop (0 + (rNum (List.drop 0 l) 0 9223372036854775807).snd.fst) l_1) (rNum (List.drop 0 l) 0 9223372036854775807).snd.snd != 0) = false →
 ∃ a,
 [] = ints IntKind.u8 a ∧
 0 = a.length ∧
 a.length ≤ 10000000 ∧
 LeM (rNum (List.drop 0 l) 0 9223372036854775807).fst ∧
 ∃ a_1,
 ints IntKind.u8 (a ++ numW (rNum (List.drop 0 l) 0 9223372036854775807).fst) = ints IntKind.u8 a_1 ∧
 (a ++ numW (rNum (List.drop 0 l) 0 9223372036854775807).fst).length = a_1.length ∧
 a_1.length ≤ 1000000 ∧ (a_1.length ≤ (ints IntKind.u8 a_1).length ∧ True ∧ True) ∧ ∃ a b_1, List.drop 0 (List.take a_1.length (ints IntKind.u8 a_1)) = ints IntKind.u8 a ∧ ints IntKind.u8 b = ints IntKind.u8 b_1 ∧ a.length.le 1000000 ∧ True ∧ (decide (a = b_1) = true → true = true) ∧ (decide (a = b_1) = false → False)))
 ) : XL [] [] 0 3 [.dat (.sl 1 (ints .u8 b))] [] KT := Eq.mp (by kernel_rfl) h
theorem vcReads (b : List Int) (l : List Fld)  (h :
 (decide ((↑(ints IntKind.u8 b).length : Int) > 200) = true → true = true) ∧
 (decide ((↑(ints IntKind.u8 b).length : Int) > 200) = false →
 (decide ((↑(List.map fldR l).length : Int) > 20) = true → true = true) ∧
 (decide ((↑(List.map fldR l).length : Int) > 20) = false →
 (ints IntKind.u8 b).length ≤ 1000000 ∧
 True ∧
 0 ≤ 0 ∧
 (0 + (ints IntKind.u8 b).length) * 1 ≤ 140737488355328 ∧
 At (prLI b l) ([V.dat (D.sl 3 (List.map fldR l)), V.ptr 0 0, V.sl 1 0 (0 + (ints IntKind.u8 b).length), V.int IntKind.i64 0, V.int IntKind.i64 0], [KO.cells [V.sl 2 0 (ints IntKind.u8 b).length, V.int IntKind.i64 0], KO.row 5 1 ([] ++ ints IntKind.u8 b), KO.row 5 1 (ints IntKind.u8 b)]) ∧
 (∀ (a : Unit),
 (decide (0 < (↑(List.map fldR l).length : Int)) = true →
 ((true = true →
 NonN 0 ∧
 ∃ e,
 (List.map fldR l)[0]? = some e ∧
 ∃ b_1,
 e[0]? = some (D.val (Value.bool b_1)) ∧
 (b_1 = true →
 NonN 0 ∧
 ∃ e,
 (List.map fldR l)[0]? = some e ∧
 ∃ n,
 e[1]? = some (D.val (Value.int IntKind.i64 n)) ∧
 b.length ≤ (ints IntKind.u8 b).length ∧
 ∃ l_1,
 List.drop 0 (List.take b.length (ints IntKind.u8 b)) = ints IntKind.u8 l_1 ∧
 (∀ (c : Int), List.Mem c l_1 → 0 ≤ c ∧ c < 256) ∧
 l_1.length ≤ 10000000 ∧
 At (pgLI b l 0)
 ([V.dat (D.sl 3 (List.map fldR l)), V.ptr 0 0, V.dat (D.sl 1 (ints IntKind.u8 (List.drop (rText l_1 0 n).snd.fst l_1))), V.int IntKind.i64 0, V.ptr 1 0],
 [KO.cells [V.sl 2 0 b.length, V.int IntKind.i64 0], KO.cells [V.int IntKind.i64 0, V.dat (D.sl 1 (ints IntKind.u8 (rText l_1 0 n).fst)), V.int IntKind.i64 (rText l_1 0 n).snd.snd, V.dat (D.sl 1 (ints IntKind.u8 (List.drop (rText l_1 0 n).snd.fst l_1)))], KO.row 5 1 (ints IntKind.u8 b)])) ∧
 (b_1 = false →
 (true = true →
 NonN 0 ∧
 ∃ e,
 (List.map fldR l)[0]? = some e ∧
 ∃ n,
 e[1]? = some (D.val (Value.int IntKind.i64 n)) ∧
 b.length ≤ (ints IntKind.u8 b).length ∧
 ∃ l_1,
 List.drop 0 (List.take b.length (ints IntKind.u8 b)) = ints IntKind.u8 l_1 ∧
 (∀ (c : Int), List.Mem c l_1 → 0 ≤ c ∧ c < 256) ∧
 l_1.length ≤ 10000000 ∧
 At (pgLI b l 0)
 ([V.dat (D.sl 3 (List.map fldR l)), V.ptr 0 0, V.dat (D.sl 1 (ints IntKind.u8 (List.drop (rNum l_1 0 n).snd.fst l_1))), V.int IntKind.i64 0, V.ptr 1 0],
 [KO.cells [V.sl 2 0 b.length, V.int IntKind.i64 0], KO.cells [V.int IntKind.i64 (rNum l_1 0 n).fst, V.dat (D.sl 1 []), V.int IntKind.i64 (rNum l_1 0 n).snd.snd, V.dat (D.sl 1 (ints IntKind.u8 (List.drop (rNum l_1 0 n).snd.fst l_1)))], KO.row 5 1 (ints IntKind.u8 b)])) ∧
 (true = false →
 At (pgLI b l 0) ([V.dat (D.sl 3 (List.map fldR l)), V.ptr 0 0, V.sl 1 0 b.length, V.int IntKind.i64 0, V.ptr 2 0], [KO.cells [V.sl 3 0 b.length, V.int IntKind.i64 0], KO.row 5 1 (ints IntKind.u8 b), KO.cells [V.int IntKind.i64 0, V.any (Value.slice none 0 0), V.int IntKind.i64 0, V.any (Value.slice none 0 0)], KO.row 5 1 (ints IntKind.u8 b)])))) ∧
 (true = false →
 (true = true →
 NonN 0 ∧
 ∃ e,
 (List.map fldR l)[0]? = some e ∧
 ∃ n,
 e[1]? = some (D.val (Value.int IntKind.i64 n)) ∧
 b.length ≤ (ints IntKind.u8 b).length ∧
 ∃ l_1,
 List.drop 0 (List.take b.length (ints IntKind.u8 b)) = ints IntKind.u8 l_1 ∧
 (∀ (c : Int), List.Mem c l_1 → 0 ≤ c ∧ c < 256) ∧
 l_1.length ≤ 10000000 ∧
 At (pgLI b l 0)
 ([V.dat (D.sl 3 (List.map fldR l)), V.ptr 0 0, V.dat (D.sl 1 (ints IntKind.u8 (List.drop (rNum l_1 0 n).snd.fst l_1))), V.int IntKind.i64 0, V.ptr 1 0],
 [KO.cells [V.sl 2 0 b.length, V.int IntKind.i64 0], KO.cells [V.int IntKind.i64 (rNum l_1 0 n).fst, V.dat (D.sl 1 []), V.int IntKind.i64 (rNum l_1 0 n).snd.snd, V.dat (D.sl 1 (ints IntKind.u8 (List.drop (rNum l_1 0 n).snd.fst l_1)))], KO.row 5 1 (ints IntKind.u8 b)])) ∧
 (true = false → At (pgLI b l 0) ([V.dat (D.sl 3 (List.map fldR l)), V.ptr 0 0, V.sl 1 0 b.length, V.int IntKind.i64 0, V.ptr 2 0], [KO.cells [V.sl 3 0 b.length, V.int IntKind.i64 0], KO.row 5 1 (ints IntKind.u8 b), KO.cells [V.int IntKind.i64 0, V.any (Value.slice none 0 0), V.int IntKind.i64 0, V.any (Value.slice none 0 0)], KO.row 5 1 (ints IntKind.u8 b)])))) ∧
 ∀ (i : { p // pgInv b l 0 p }),
 NonN 0 ∧
 ∃ e,
 (List.map fldR l)[0]? = some e ∧
 ∃ b_1,
 e[0]? = some (D.val (Value.bool b_1)) ∧
 (b_1 = true →
 NonN 0 ∧
 ∃ e,
 (List.map fldR l)[0]? = some e ∧
 ∃ n,
 e[1]? = some (D.val (Value.int IntKind.i64 n)) ∧
 (∃ l_1,
 ints IntKind.u8 b = ints IntKind.u8 l_1 ∧
 b.length = l_1.length ∧
 i.val.fst ≤ l_1.length ∧
 (∀ (c : Int), List.Mem c l_1 → 0 ≤ c ∧ c < 256) ∧
 l_1.length ≤ 900000 ∧
 ((rText (List.drop i.val.fst l_1) i.val.snd.fst n).fst.length ≤ (ints IntKind.u8 (rText (List.drop i.val.fst l_1) i.val.snd.fst n).fst).length ∧ True ∧ True) ∧
 ∃ a_3 b_2,
 List.drop 0 (List.take (rText (List.drop i.val.fst l_1) i.val.snd.fst n).fst.length (ints IntKind.u8 (rText (List.drop i.val.fst l_1) i.val.snd.fst n).fst)) = ints IntKind.u8 a_3 ∧
 ints IntKind.u8 (gB i.val.snd.snd (List.drop i.val.fst b) i.val.snd.fst) = ints IntKind.u8 b_2 ∧
 a_3.length.le 1000000 ∧
 True ∧
 ((!decide (a_3 = b_2)) = true → False) ∧
 ((!decide (a_3 = b_2)) = false →
 (((rText (List.drop i.val.fst l_1) i.val.snd.fst n).snd.snd != gE i.val.snd.snd (List.drop i.val.fst b) i.val.snd.fst) = true → False) ∧
 (((rText (List.drop i.val.fst l_1) i.val.snd.fst n).snd.snd != gE i.val.snd.snd (List.drop i.val.fst b) i.val.snd.fst) = false →
 Nx (prLI b l) (Sum.inl a)
 ([V.dat (D.sl 3 (List.map fldR l)), V.ptr 0 0, V.dat (D.sl 1 (ints IntKind.u8 (List.drop (i.val.fst + gU i.val.snd.snd (List.drop i.val.fst b) i.val.snd.fst) b))), V.int IntKind.i64 (gE i.val.snd.snd (List.drop i.val.fst b) i.val.snd.fst), V.int IntKind.i64 1],
 [KO.cells [V.sl 1 (i.val.fst + (rText (List.drop i.val.fst l_1) i.val.snd.fst n).snd.fst) l_1.length, V.int IntKind.i64 (rText (List.drop i.val.fst l_1) i.val.snd.fst n).snd.snd], KO.row 5 1 (ints IntKind.u8 l_1)])))) ∧
 ∃ l_1,
 ints IntKind.u8 b = ints IntKind.u8 l_1 ∧
 b.length = l_1.length ∧
 i.val.fst ≤ l_1.length ∧
 (∀ (c : Int), List.Mem c l_1 → 0 ≤ c ∧ c < 256) ∧
 l_1.length ≤ 900000 ∧
 ((rText (List.drop i.val.fst l_1) i.val.snd.fst n).fst.length ≤ (ints IntKind.u8 (rText (List.drop i.val.fst l_1) i.val.snd.fst n).fst).length ∧ True ∧ True) ∧
 ∃ a_3 b_2,
 List.drop 0 (List.take (rText (List.drop i.val.fst l_1) i.val.snd.fst n).fst.length (ints IntKind.u8 (rText (List.drop i.val.fst l_1) i.val.snd.fst n).fst)) = ints IntKind.u8 a_3 ∧
 ints IntKind.u8 (gB i.val.snd.snd (List.drop i.val.fst b) i.val.snd.fst) = ints IntKind.u8 b_2 ∧
 a_3.length.le 1000000 ∧
 True ∧
 ((!decide (a_3 = b_2)) = true → False) ∧
 ((!decide (a_3 = b_2)) = false →
 (((rText (List.drop i.val.fst l_1) i.val.snd.fst n).snd.snd != gE i.val.snd.snd (List.drop i.val.fst b) i.val.snd.fst) = true → False) ∧
 (((rText (List.drop i.val.fst l_1) i.val.snd.fst n).snd.snd != gE i.val.snd.snd (List.drop i.val.fst b) i.val.snd.fst) = false →
 Nx (prLI b l) (Sum.inl a)
 ([V.dat (D.sl 3 (List.map fldR l)), V.ptr 0 0, V.dat (D.sl 1 (ints IntKind.u8 (List.drop (i.val.fst + gU i.val.snd.snd (List.drop i.val.fst b) i.val.snd.fst) b))), V.int IntKind.i64 (gE i.val.snd.snd (List.drop i.val.fst b) i.val.snd.fst), V.int IntKind.i64 1],
 [KO.cells [V.sl 1 (i.val.fst + (rText (List.drop i.val.fst l_1) i.val.snd.fst n).snd.fst) l_1.length, V.int IntKind.i64 (rText (List.drop i.val.fst l_1) i.val.snd.fst n).snd.snd], KO.row 5 1 (ints IntKind.u8 l_1)])))) ∧
 (b_1 = false →
 NonN 0 ∧
 ∃ e,
 (List.map fldR l)[0]? = some e ∧
 ∃ n,
 e[1]? = some (D.val (Value.int IntKind.i64 n)) ∧
 ∃ l_1,
 ints IntKind.u8 b = ints IntKind.u8 l_1 ∧
 b.length = l_1.length ∧
 i.val.fst ≤ l_1.length ∧
 (∀ (c : Int), List.Mem c l_1 → 0 ≤ c ∧ c < 256) ∧
 l_1.length ≤ 10000000 ∧
 EqI (gN i.val.snd.snd (List.drop i.val.fst b) i.val.snd.fst) (gN i.val.snd.snd (List.drop i.val.fst b) i.val.snd.fst) ∧
 (((rNum (List.drop i.val.fst l_1) i.val.snd.fst n).fst != gN i.val.snd.snd (List.drop i.val.fst b) i.val.snd.fst) = true → False) ∧
 (((rNum (List.drop i.val.fst l_1) i.val.snd.fst n).fst != gN i.val.snd.snd (List.drop i.val.fst b) i.val.snd.fst) = false →
 (((rNum (List.drop i.val.fst l_1) i.val.snd.fst n).snd.snd != gE i.val.snd.snd (List.drop i.val.fst b) i.val.snd.fst) = true → False) ∧
 (((rNum (List.drop i.val.fst l_1) i.val.snd.fst n).snd.snd != gE i.val.snd.snd (List.drop i.val.fst b) i.val.snd.fst) = false →
 Nx (prLI b l) (Sum.inl a)
 ([V.dat (D.sl 3 (List.map fldR l)), V.ptr 0 0, V.dat (D.sl 1 (ints IntKind.u8 (List.drop (i.val.fst + gU i.val.snd.snd (List.drop i.val.fst b) i.val.snd.fst) b))), V.int IntKind.i64 (gE i.val.snd.snd (List.drop i.val.fst b) i.val.snd.fst), V.int IntKind.i64 1],
 [KO.cells [V.sl 1 (i.val.fst + (rNum (List.drop i.val.fst l_1) i.val.snd.fst n).snd.fst) l_1.length, V.int IntKind.i64 (rNum (List.drop i.val.fst l_1) i.val.snd.fst n).snd.snd], KO.row 5 1 (ints IntKind.u8 l_1)]))))) ∧
 (decide (0 < (↑(List.map fldR l).length : Int)) = false →
 (true = true →
 (decide ((↑(b.length - 0) : Int) > 0) = true → ∃ l, ints IntKind.u8 b = ints IntKind.u8 l ∧ b.length = l.length ∧ ((rEnd (List.drop 0 l) 0 == 3) = true → true = true) ∧ ((rEnd (List.drop 0 l) 0 == 3) = false → False)) ∧
 (decide ((↑(b.length - 0) : Int) > 0) = false → ∃ l, ints IntKind.u8 b = ints IntKind.u8 l ∧ b.length = l.length ∧ ((rEnd (List.drop 0 l) 0 == 0) = true → true = true) ∧ ((rEnd (List.drop 0 l) 0 == 0) = false → False))) ∧
 (true = false → ∃ l, ints IntKind.u8 b = ints IntKind.u8 l ∧ b.length = l.length ∧ ((rEnd (List.drop 0 l) 0 == 0) = true → true = true) ∧ ((rEnd (List.drop 0 l) 0 == 0) = false → False)))) ∧
 ∀ (b_1 : { p // prInv b l.length p }),
 (decide ((↑b_1.val.snd.snd : Int) < (↑(List.map fldR l).length : Int)) = true →
 (((b_1.val.snd.fst == 0) = true →
 NonN (↑b_1.val.snd.snd : Int) ∧
 ∃ e,
 (List.map fldR l)[(↑b_1.val.snd.snd : Int).toNat]? = some e ∧
 ∃ b_2,
 e[0]? = some (D.val (Value.bool b_2)) ∧
 (b_2 = true →
 NonN (↑b_1.val.snd.snd : Int) ∧
 ∃ e,
 (List.map fldR l)[(↑b_1.val.snd.snd : Int).toNat]? = some e ∧
 ∃ n,
 e[1]? = some (D.val (Value.int IntKind.i64 n)) ∧
 ∃ l_1,
 ints IntKind.u8 (List.drop b_1.val.fst b) = ints IntKind.u8 l_1 ∧
 (∀ (c : Int), List.Mem c l_1 → 0 ≤ c ∧ c < 256) ∧
 l_1.length ≤ 10000000 ∧
 At (pgLI b l b_1.val.snd.snd)
 ([V.dat (D.sl 3 (List.map fldR l)), V.ptr 0 0, V.dat (D.sl 1 (ints IntKind.u8 (List.drop (rText l_1 0 n).snd.fst l_1))), V.int IntKind.i64 (↑b_1.val.snd.snd : Int), V.ptr 1 0],
 [KO.cells [V.sl 2 b_1.val.fst b.length, V.int IntKind.i64 b_1.val.snd.fst], KO.cells [V.int IntKind.i64 0, V.dat (D.sl 1 (ints IntKind.u8 (rText l_1 0 n).fst)), V.int IntKind.i64 (rText l_1 0 n).snd.snd, V.dat (D.sl 1 (ints IntKind.u8 (List.drop (rText l_1 0 n).snd.fst l_1)))], KO.row 5 1 (ints IntKind.u8 b)])) ∧
 (b_2 = false →
 ((b_1.val.snd.fst == 0) = true →
 NonN (↑b_1.val.snd.snd : Int) ∧
 ∃ e,
 (List.map fldR l)[(↑b_1.val.snd.snd : Int).toNat]? = some e ∧
 ∃ n,
 e[1]? = some (D.val (Value.int IntKind.i64 n)) ∧
 ∃ l_1,
 ints IntKind.u8 (List.drop b_1.val.fst b) = ints IntKind.u8 l_1 ∧
 (∀ (c : Int), List.Mem c l_1 → 0 ≤ c ∧ c < 256) ∧
 l_1.length ≤ 10000000 ∧
 At (pgLI b l b_1.val.snd.snd)
 ([V.dat (D.sl 3 (List.map fldR l)), V.ptr 0 0, V.dat (D.sl 1 (ints IntKind.u8 (List.drop (rNum l_1 0 n).snd.fst l_1))), V.int IntKind.i64 (↑b_1.val.snd.snd : Int), V.ptr 1 0],
 [KO.cells [V.sl 2 b_1.val.fst b.length, V.int IntKind.i64 b_1.val.snd.fst], KO.cells [V.int IntKind.i64 (rNum l_1 0 n).fst, V.dat (D.sl 1 []), V.int IntKind.i64 (rNum l_1 0 n).snd.snd, V.dat (D.sl 1 (ints IntKind.u8 (List.drop (rNum l_1 0 n).snd.fst l_1)))], KO.row 5 1 (ints IntKind.u8 b)])) ∧
 ((b_1.val.snd.fst == 0) = false →
 At (pgLI b l b_1.val.snd.snd)
 ([V.dat (D.sl 3 (List.map fldR l)), V.ptr 0 0, V.dat (D.sl 1 (ints IntKind.u8 (List.drop b_1.val.fst b))), V.int IntKind.i64 (↑b_1.val.snd.snd : Int), V.ptr 1 0],
 [KO.cells [V.sl 2 b_1.val.fst b.length, V.int IntKind.i64 b_1.val.snd.fst], KO.cells [V.int IntKind.i64 0, V.dat (D.sl 1 []), V.int IntKind.i64 b_1.val.snd.fst, V.dat (D.sl 1 [])], KO.row 5 1 (ints IntKind.u8 b)])))) ∧
 ((b_1.val.snd.fst == 0) = false →
 ((b_1.val.snd.fst == 0) = true →
 NonN (↑b_1.val.snd.snd : Int) ∧
 ∃ e,
 (List.map fldR l)[(↑b_1.val.snd.snd : Int).toNat]? = some e ∧
 ∃ n,
 e[1]? = some (D.val (Value.int IntKind.i64 n)) ∧
 ∃ l_1,
 ints IntKind.u8 (List.drop b_1.val.fst b) = ints IntKind.u8 l_1 ∧
 (∀ (c : Int), List.Mem c l_1 → 0 ≤ c ∧ c < 256) ∧
 l_1.length ≤ 10000000 ∧
 At (pgLI b l b_1.val.snd.snd)
 ([V.dat (D.sl 3 (List.map fldR l)), V.ptr 0 0, V.dat (D.sl 1 (ints IntKind.u8 (List.drop (rNum l_1 0 n).snd.fst l_1))), V.int IntKind.i64 (↑b_1.val.snd.snd : Int), V.ptr 1 0],
 [KO.cells [V.sl 2 b_1.val.fst b.length, V.int IntKind.i64 b_1.val.snd.fst], KO.cells [V.int IntKind.i64 (rNum l_1 0 n).fst, V.dat (D.sl 1 []), V.int IntKind.i64 (rNum l_1 0 n).snd.snd, V.dat (D.sl 1 (ints IntKind.u8 (List.drop (rNum l_1 0 n).snd.fst l_1)))], KO.row 5 1 (ints IntKind.u8 b)])) ∧
 ((b_1.val.snd.fst == 0) = false →
 At (pgLI b l b_1.val.snd.snd)
 ([V.dat (D.sl 3 (List.map fldR l)), V.ptr 0 0, V.dat (D.sl 1 (ints IntKind.u8 (List.drop b_1.val.fst b))), V.int IntKind.i64 (↑b_1.val.snd.snd : Int), V.ptr 1 0],
 [KO.cells [V.sl 2 b_1.val.fst b.length, V.int IntKind.i64 b_1.val.snd.fst], KO.cells [V.int IntKind.i64 0, V.dat (D.sl 1 []), V.int IntKind.i64 b_1.val.snd.fst, V.dat (D.sl 1 [])], KO.row 5 1 (ints IntKind.u8 b)])))) ∧
 ∀ (i : { p // pgInv b l b_1.val.snd.snd p }),
 NonN (↑b_1.val.snd.snd : Int) ∧
 ∃ e,
 (List.map fldR l)[(↑b_1.val.snd.snd : Int).toNat]? = some e ∧
 ∃ b_2,
 e[0]? = some (D.val (Value.bool b_2)) ∧
 (b_2 = true →
 NonN (↑b_1.val.snd.snd : Int) ∧
 ∃ e,
 (List.map fldR l)[(↑b_1.val.snd.snd : Int).toNat]? = some e ∧
 ∃ n,
 e[1]? = some (D.val (Value.int IntKind.i64 n)) ∧
 (∃ l_1,
 ints IntKind.u8 b = ints IntKind.u8 l_1 ∧
 b.length = l_1.length ∧
 i.val.fst ≤ l_1.length ∧
 (∀ (c : Int), List.Mem c l_1 → 0 ≤ c ∧ c < 256) ∧
 l_1.length ≤ 900000 ∧
 ((rText (List.drop i.val.fst l_1) i.val.snd.fst n).fst.length ≤ (ints IntKind.u8 (rText (List.drop i.val.fst l_1) i.val.snd.fst n).fst).length ∧ True ∧ True) ∧
 ∃ a b_3,
 List.drop 0 (List.take (rText (List.drop i.val.fst l_1) i.val.snd.fst n).fst.length (ints IntKind.u8 (rText (List.drop i.val.fst l_1) i.val.snd.fst n).fst)) = ints IntKind.u8 a ∧
 ints IntKind.u8 (gB i.val.snd.snd (List.drop i.val.fst b) i.val.snd.fst) = ints IntKind.u8 b_3 ∧
 a.length.le 1000000 ∧
 True ∧
 ((!decide (a = b_3)) = true → False) ∧
 ((!decide (a = b_3)) = false →
 (((rText (List.drop i.val.fst l_1) i.val.snd.fst n).snd.snd != gE i.val.snd.snd (List.drop i.val.fst b) i.val.snd.fst) = true → False) ∧
 (((rText (List.drop i.val.fst l_1) i.val.snd.fst n).snd.snd != gE i.val.snd.snd (List.drop i.val.fst b) i.val.snd.fst) = false →
 Nx (prLI b l) (Sum.inr b_1)
 ([V.dat (D.sl 3 (List.map fldR l)), V.ptr 0 0, V.dat (D.sl 1 (ints IntKind.u8 (List.drop (i.val.fst + gU i.val.snd.snd (List.drop i.val.fst b) i.val.snd.fst) b))), V.int IntKind.i64 (gE i.val.snd.snd (List.drop i.val.fst b) i.val.snd.fst), V.int IntKind.i64 (IntKind.i64.wrap ((↑b_1.val.snd.snd : Int) + 1))],
 [KO.cells [V.sl 1 (i.val.fst + (rText (List.drop i.val.fst l_1) i.val.snd.fst n).snd.fst) l_1.length, V.int IntKind.i64 (rText (List.drop i.val.fst l_1) i.val.snd.fst n).snd.snd], KO.row 5 1 (ints IntKind.u8 l_1)])))) ∧
 ∃ l_1,
 ints IntKind.u8 b = ints IntKind.u8 l_1 ∧
 b.length = l_1.length ∧
 i.val.fst ≤ l_1.length ∧
 (∀ (c : Int), List.Mem c l_1 → 0 ≤ c ∧ c < 256) ∧
 l_1.length ≤ 900000 ∧
 ((rText (List.drop i.val.fst l_1) i.val.snd.fst n).fst.length ≤ (ints IntKind.u8 (rText (List.drop i.val.fst l_1) i.val.snd.fst n).fst).length ∧ True ∧ True) ∧
 ∃ a b_3,
 List.drop 0 (List.take (rText (List.drop i.val.fst l_1) i.val.snd.fst n).fst.length (ints IntKind.u8 (rText (List.drop i.val.fst l_1) i.val.snd.fst n).fst)) = ints IntKind.u8 a ∧
 ints IntKind.u8 (gB i.val.snd.snd (List.drop i.val.fst b) i.val.snd.fst) = ints IntKind.u8 b_3 ∧
 a.length.le 1000000 ∧
 True ∧
 ((!decide (a = b_3)) = true → False) ∧
 ((!decide (a = b_3)) = false →
 (((rText (List.drop i.val.fst l_1) i.val.snd.fst n).snd.snd != gE i.val.snd.snd (List.drop i.val.fst b) i.val.snd.fst) = true → False) ∧
 (((rText (List.drop i.val.fst l_1) i.val.snd.fst n).snd.snd != gE i.val.snd.snd (List.drop i.val.fst b) i.val.snd.fst) = false →
 Nx (prLI b l) (Sum.inr b_1)
 ([V.dat (D.sl 3 (List.map fldR l)), V.ptr 0 0, V.dat (D.sl 1 (ints IntKind.u8 (List.drop (i.val.fst + gU i.val.snd.snd (List.drop i.val.fst b) i.val.snd.fst) b))), V.int IntKind.i64 (gE i.val.snd.snd (List.drop i.val.fst b) i.val.snd.fst), V.int IntKind.i64 (IntKind.i64.wrap ((↑b_1.val.snd.snd : Int) + 1))],
 [KO.cells [V.sl 1 (i.val.fst + (rText (List.drop i.val.fst l_1) i.val.snd.fst n).snd.fst) l_1.length, V.int IntKind.i64 (rText (List.drop i.val.fst l_1) i.val.snd.fst n).snd.snd], KO.row 5 1 (ints IntKind.u8 l_1)])))) ∧
 (b_2 = false →
 NonN (↑b_1.val.snd.snd : Int) ∧
 ∃ e,
 (List.map fldR l)[(↑b_1.val.snd.snd : Int).toNat]? = some e ∧
 ∃ n,
 e[1]? = some (D.val (Value.int IntKind.i64 n)) ∧
 ∃ l_1,
 ints IntKind.u8 b = ints IntKind.u8 l_1 ∧
 b.length = l_1.length ∧
 i.val.fst ≤ l_1.length ∧
 (∀ (c : Int), List.Mem c l_1 → 0 ≤ c ∧ c < 256) ∧
 l_1.length ≤ 10000000 ∧
 EqI (gN i.val.snd.snd (List.drop i.val.fst b) i.val.snd.fst) (gN i.val.snd.snd (List.drop i.val.fst b) i.val.snd.fst) ∧
 (((rNum (List.drop i.val.fst l_1) i.val.snd.fst n).fst != gN i.val.snd.snd (List.drop i.val.fst b) i.val.snd.fst) = true → False) ∧
 (((rNum (List.drop i.val.fst l_1) i.val.snd.fst n).fst != gN i.val.snd.snd (List.drop i.val.fst b) i.val.snd.fst) = false →
 (((rNum (List.drop i.val.fst l_1) i.val.snd.fst n).snd.snd != gE i.val.snd.snd (List.drop i.val.fst b) i.val.snd.fst) = true → False) ∧
 (((rNum (List.drop i.val.fst l_1) i.val.snd.fst n).snd.snd != gE i.val.snd.snd (List.drop i.val.fst b) i.val.snd.fst) = false →
 Nx (prLI b l) (Sum.inr b_1)
 ([V.dat (D.sl 3 (List.map fldR l)), V.ptr 0 0, V.dat (D.sl 1 (ints IntKind.u8 (List.drop (i.val.fst + gU i.val.snd.snd (List.drop i.val.fst b) i.val.snd.fst) b))), V.int IntKind.i64 (gE i.val.snd.snd (List.drop i.val.fst b) i.val.snd.fst), V.int IntKind.i64 (IntKind.i64.wrap ((↑b_1.val.snd.snd : Int) + 1))],
 [KO.cells [V.sl 1 (i.val.fst + (rNum (List.drop i.val.fst l_1) i.val.snd.fst n).snd.fst) l_1.length, V.int IntKind.i64 (rNum (List.drop i.val.fst l_1) i.val.snd.fst n).snd.snd], KO.row 5 1 (ints IntKind.u8 l_1)]))))) ∧
 (decide ((↑b_1.val.snd.snd : Int) < (↑(List.map fldR l).length : Int)) = false →
 ((b_1.val.snd.fst == 0) = true →
 (decide ((↑(ints IntKind.u8 (List.drop b_1.val.fst b)).length : Int) > 0) = true → ∃ l_1, ints IntKind.u8 b = ints IntKind.u8 l_1 ∧ b.length = l_1.length ∧ ((rEnd (List.drop b_1.val.fst l_1) b_1.val.snd.fst == 3) = true → true = true) ∧ ((rEnd (List.drop b_1.val.fst l_1) b_1.val.snd.fst == 3) = false → False)) ∧
 (decide ((↑(ints IntKind.u8 (List.drop b_1.val.fst b)).length : Int) > 0) = false → ∃ l_1, ints IntKind.u8 b = ints IntKind.u8 l_1 ∧ b.length = l_1.length ∧ ((rEnd (List.drop b_1.val.fst l_1) b_1.val.snd.fst == b_1.val.snd.fst) = true → true = true) ∧ ((rEnd (List.drop b_1.val.fst l_1) b_1.val.snd.fst == b_1.val.snd.fst) = false → False))) ∧
 ((b_1.val.snd.fst == 0) = false → ∃ l_1, ints IntKind.u8 b = ints IntKind.u8 l_1 ∧ b.length = l_1.length ∧ ((rEnd (List.drop b_1.val.fst l_1) b_1.val.snd.fst == b_1.val.snd.fst) = true → true = true) ∧ ((rEnd (List.drop b_1.val.fst l_1) b_1.val.snd.fst == b_1.val.snd.fst) = false → False)))))
 ) : XL b l 0 4 [.dat (.sl 1 (ints .u8 b)), .dat (.sl 3 (l.map fldR))] [] KT := Eq.mp (by kernel_rfl) h
theorem vcWrites (l : List Fld)  (h :
 (decide ((↑(List.map fldR l).length : Int) > 20) = true → true = true) ∧
 (decide ((↑(List.map fldR l).length : Int) > 20) = false →
 At (pw1LI l) ([V.dat (D.sl 3 (List.map fldR l)), V.ptr 0 0, V.sl 1 0 0, V.int IntKind.i64 0], [KO.cells [V.sl 2 0 0], KO.row 5 1 [], KO.row 5 1 []]) ∧
 ∀ (i : { i // iInv 100 l i }),
 (decide ((↑i.val : Int) < (↑(List.map fldR l).length : Int)) = true →
 NonN (↑i.val : Int) ∧
 ∃ e,
 (List.map fldR l)[(↑i.val : Int).toNat]? = some e ∧
 ∃ l_1,
 e[2]? = some (D.sl 1 l_1) ∧
 (decide ((↑l_1.length : Int) > 100) = true → true = true) ∧
 (decide ((↑l_1.length : Int) > 100) = false →
 NonN (↑i.val : Int) ∧
 ∃ e,
 (List.map fldR l)[(↑i.val : Int).toNat]? = some e ∧
 ∃ b,
 e[0]? = some (D.val (Value.bool b)) ∧
 (b = true →
 NonN (↑i.val : Int) ∧
 ∃ e,
 (List.map fldR l)[(↑i.val : Int).toNat]? = some e ∧
 ∃ l_2,
 e[2]? = some (D.sl 1 l_2) ∧
 ∃ a b,
 ints IntKind.u8 (catW (List.take i.val l)) = ints IntKind.u8 a ∧
 l_2 = ints IntKind.u8 b ∧
 (catW (List.take i.val l)).length = a.length ∧
 a.length ≤ 1000000 ∧
 b.length ≤ 1000000 ∧
 NonN (↑i.val : Int) ∧
 ∃ e,
 (List.map fldR l)[(↑i.val : Int).toNat]? = some e ∧
 ∃ l_3,
 e[2]? = some (D.sl 1 l_3) ∧
 ∃ b_1,
 l_3 = ints IntKind.u8 b_1 ∧
 b_1.length ≤ 1000000 ∧
 (textW b_1).length ≤ (ints IntKind.u8 (textW b_1)).length ∧
 (catW (List.take i.val l)).length ≤ (ints IntKind.u8 (catW (List.take i.val l))).length ∧
 ((catW (List.take i.val l)).length + (List.drop 0 (List.take (textW b_1).length (ints IntKind.u8 (textW b_1)))).length) * 1 ≤ 140737488355328 ∧
 Nx (pw1LI l) i
 ([V.dat (D.sl 3 (List.map fldR l)), V.ptr 0 0, V.sl 1 0 ((catW (List.take i.val l)).length + (List.drop 0 (List.take (textW b_1).length (ints IntKind.u8 (textW b_1)))).length), V.int IntKind.i64 (IntKind.i64.wrap ((↑i.val : Int) + 1))],
 [KO.cells [V.sl 2 0 (a ++ textW b).length], KO.row 5 1 (List.take (catW (List.take i.val l)).length (ints IntKind.u8 (catW (List.take i.val l))) ++ List.drop 0 (List.take (textW b_1).length (ints IntKind.u8 (textW b_1)))), KO.row 5 1 (ints IntKind.u8 (a ++ textW b))])) ∧
 (b = false →
 NonN (↑i.val : Int) ∧
 ∃ e,
 (List.map fldR l)[(↑i.val : Int).toNat]? = some e ∧
 ∃ n,
 e[1]? = some (D.val (Value.int IntKind.i64 n)) ∧
 ∃ a,
 ints IntKind.u8 (catW (List.take i.val l)) = ints IntKind.u8 a ∧
 (catW (List.take i.val l)).length = a.length ∧
 a.length ≤ 10000000 ∧
 LeM n ∧
 NonN (↑i.val : Int) ∧
 ∃ e,
 (List.map fldR l)[(↑i.val : Int).toNat]? = some e ∧
 ∃ n_1,
 e[1]? = some (D.val (Value.int IntKind.i64 n_1)) ∧
 LeM n_1 ∧
 (numW n_1).length ≤ (ints IntKind.u8 (numW n_1)).length ∧
 (catW (List.take i.val l)).length ≤ (ints IntKind.u8 (catW (List.take i.val l))).length ∧
 ((catW (List.take i.val l)).length + (List.drop 0 (List.take (numW n_1).length (ints IntKind.u8 (numW n_1)))).length) * 1 ≤ 140737488355328 ∧
 Nx (pw1LI l) i
 ([V.dat (D.sl 3 (List.map fldR l)), V.ptr 0 0, V.sl 1 0 ((catW (List.take i.val l)).length + (List.drop 0 (List.take (numW n_1).length (ints IntKind.u8 (numW n_1)))).length), V.int IntKind.i64 (IntKind.i64.wrap ((↑i.val : Int) + 1))],
 [KO.cells [V.sl 2 0 (a ++ numW n).length], KO.row 5 1 (List.take (catW (List.take i.val l)).length (ints IntKind.u8 (catW (List.take i.val l))) ++ List.drop 0 (List.take (numW n_1).length (ints IntKind.u8 (numW n_1)))), KO.row 5 1 (ints IntKind.u8 (a ++ numW n))])))) ∧
 (decide ((↑i.val : Int) < (↑(List.map fldR l).length : Int)) = false →
 ∃ a,
 ints IntKind.u8 (catW (List.take i.val l)) = ints IntKind.u8 a ∧
 (catW (List.take i.val l)).length = a.length ∧
 a.length ≤ 1000000 ∧
 (a.length ≤ (ints IntKind.u8 a).length ∧ (catW (List.take i.val l)).length ≤ (ints IntKind.u8 (catW (List.take i.val l))).length ∧ True) ∧
 ∃ a_1 b,
 List.drop 0 (List.take a.length (ints IntKind.u8 a)) = ints IntKind.u8 a_1 ∧
 List.drop 0 (List.take (catW (List.take i.val l)).length (ints IntKind.u8 (catW (List.take i.val l)))) = ints IntKind.u8 b ∧
 a_1.length.le 1000000 ∧
 True ∧
 ((!decide (a_1 = b)) = true → False) ∧
 ((!decide (a_1 = b)) = false →
 ((catW (List.take i.val l)).length ≤ (ints IntKind.u8 (catW (List.take i.val l))).length ∧ True) ∧
 (List.drop 0 (List.take (catW (List.take i.val l)).length (ints IntKind.u8 (catW (List.take i.val l))))).length ≤ 1000000 ∧
 PlainS (List.drop 0 (List.take (catW (List.take i.val l)).length (ints IntKind.u8 (catW (List.take i.val l))))).flatten ∧
 At (pw2LI l) ([V.dat (D.sl 3 (List.map fldR l)), V.ptr 0 0, V.int IntKind.i64 0], [KO.cells [V.sl 1 0 (List.drop 0 (List.take (catW (List.take i.val l)).length (ints IntKind.u8 (catW (List.take i.val l))))).length, V.int IntKind.i64 0], KO.row 5 1 (List.drop 0 (List.take (catW (List.take i.val l)).length (ints IntKind.u8 (catW (List.take i.val l)))))]) ∧
 ∀ (i : { i // jInv 100 l i }),
 (decide ((↑i.val : Int) < (↑(List.map fldR l).length : Int)) = true →
 NonN (↑i.val : Int) ∧
 ∃ e,
 (List.map fldR l)[(↑i.val : Int).toNat]? = some e ∧
 ∃ b,
 e[0]? = some (D.val (Value.bool b)) ∧
 (b = true →
 NonN (↑i.val : Int) ∧
 ∃ e,
 (List.map fldR l)[(↑i.val : Int).toNat]? = some e ∧
 ∃ l_1,
 e[2]? = some (D.sl 1 l_1) ∧
 ∃ l_2,
 ints IntKind.u8 (catW l) = ints IntKind.u8 l_2 ∧
 (catW l).length = l_2.length ∧
 (catW (List.take i.val l)).length ≤ l_2.length ∧
 (∀ (c : Int), List.Mem c l_2 → 0 ≤ c ∧ c < 256) ∧
 l_2.length ≤ 900000 ∧
 (∃ l, e[2]? = some (D.sl 1 l) ∧ True) ∧
 ((rText (List.drop (catW (List.take i.val l)).length l_2) 0 100).fst.length ≤ (ints IntKind.u8 (rText (List.drop (catW (List.take i.val l)).length l_2) 0 100).fst).length ∧ True ∧ True) ∧
 ∃ a b,
 List.drop 0 (List.take (rText (List.drop (catW (List.take i.val l)).length l_2) 0 100).fst.length (ints IntKind.u8 (rText (List.drop (catW (List.take i.val l)).length l_2) 0 100).fst)) = ints IntKind.u8 a ∧
 l_1 = ints IntKind.u8 b ∧
 a.length.le 1000000 ∧
 True ∧
 ((!decide (a = b)) = true → False) ∧
 ((!decide (a = b)) = false →
 Nx (pw2LI l) i
 ([V.dat (D.sl 3 (List.map fldR l)), V.ptr 0 0, V.int IntKind.i64 (IntKind.i64.wrap ((↑i.val : Int) + 1))],
 [KO.cells [V.sl 1 ((catW (List.take i.val l)).length + (rText (List.drop (catW (List.take i.val l)).length l_2) 0 100).snd.fst) l_2.length, V.int IntKind.i64 (rText (List.drop (catW (List.take i.val l)).length l_2) 0 100).snd.snd], KO.row 5 1 (ints IntKind.u8 l_2)]))) ∧
 (b = false →
 NonN (↑i.val : Int) ∧
 ∃ e,
 (List.map fldR l)[(↑i.val : Int).toNat]? = some e ∧
 ∃ n,
 e[1]? = some (D.val (Value.int IntKind.i64 n)) ∧
 ∃ l_1,
 ints IntKind.u8 (catW l) = ints IntKind.u8 l_1 ∧
 (catW l).length = l_1.length ∧
 (catW (List.take i.val l)).length ≤ l_1.length ∧
 (∀ (c : Int), List.Mem c l_1 → 0 ≤ c ∧ c < 256) ∧
 l_1.length ≤ 10000000 ∧
 (∃ n_1, e[1]? = some (D.val (Value.int IntKind.i64 n_1)) ∧ EqI n_1 n) ∧
 (((rNum (List.drop (catW (List.take i.val l)).length l_1) 0 9223372036854775807).fst != if 0 > n then 0 else n) = true → False) ∧
 (((rNum (List.drop (catW (List.take i.val l)).length l_1) 0 9223372036854775807).fst != if 0 > n then 0 else n) = false →
 Nx (pw2LI l) i
 ([V.dat (D.sl 3 (List.map fldR l)), V.ptr 0 0, V.int IntKind.i64 (IntKind.i64.wrap ((↑i.val : Int) + 1))],
 [KO.cells [V.sl 1 ((catW (List.take i.val l)).length + (rNum (List.drop (catW (List.take i.val l)).length l_1) 0 9223372036854775807).snd.fst) l_1.length, V.int IntKind.i64 (rNum (List.drop (catW (List.take i.val l)).length l_1) 0 9223372036854775807).snd.snd], KO.row 5 1 (ints IntKind.u8 l_1)])))) ∧
 (decide ((↑i.val : Int) < (↑(List.map fldR l).length : Int)) = false → ∃ l_1, ints IntKind.u8 (catW l) = ints IntKind.u8 l_1 ∧ (catW l).length = l_1.length ∧ ((rEnd (List.drop (catW (List.take i.val l)).length l_1) 0 == 0) = true → true = true) ∧ ((rEnd (List.drop (catW (List.take i.val l)).length l_1) 0 == 0) = false → False)))))
 ) : XL [] l 0 5 [.dat (.sl 3 (l.map fldR))] [] KT := Eq.mp (by kernel_rfl) h
theorem vcShort (l : List Fld) (cut : Int) (b : List Int)  (h :
 (decide ((↑(List.map fldR l).length : Int) < 1) = true → true = true) ∧
 (decide ((↑(List.map fldR l).length : Int) < 1) = false →
 (decide ((↑(List.map fldR l).length : Int) > 10) = true → true = true) ∧
 (decide ((↑(List.map fldR l).length : Int) > 10) = false →
 At (ps1LI l cut) ([V.dat (D.sl 3 (List.map fldR l)), V.int IntKind.i64 cut, V.ptr 0 0, V.int IntKind.i64 0], [KO.cells [V.sl 1 0 0], KO.row 5 1 []]) ∧
 ∀ (i : { i // iInv 30 l i }),
 (decide ((↑i.val : Int) < (↑(List.map fldR l).length : Int)) = true →
 NonN (↑i.val : Int) ∧
 ∃ e,
 (List.map fldR l)[(↑i.val : Int).toNat]? = some e ∧
 ∃ l_1,
 e[2]? = some (D.sl 1 l_1) ∧
 (decide ((↑l_1.length : Int) > 30) = true → true = true) ∧
 (decide ((↑l_1.length : Int) > 30) = false →
 NonN (↑i.val : Int) ∧
 ∃ e,
 (List.map fldR l)[(↑i.val : Int).toNat]? = some e ∧
 ∃ b,
 e[0]? = some (D.val (Value.bool b)) ∧
 (b = true →
 NonN (↑i.val : Int) ∧
 ∃ e,
 (List.map fldR l)[(↑i.val : Int).toNat]? = some e ∧
 ∃ l_2,
 e[2]? = some (D.sl 1 l_2) ∧
 ∃ a b,
 ints IntKind.u8 (catW (List.take i.val l)) = ints IntKind.u8 a ∧
 l_2 = ints IntKind.u8 b ∧
 (catW (List.take i.val l)).length = a.length ∧ a.length ≤ 1000000 ∧ b.length ≤ 1000000 ∧ Nx (ps1LI l cut) i ([V.dat (D.sl 3 (List.map fldR l)), V.int IntKind.i64 cut, V.ptr 0 0, V.int IntKind.i64 (IntKind.i64.wrap ((↑i.val : Int) + 1))], [KO.cells [V.sl 1 0 (a ++ textW b).length], KO.row 5 1 (ints IntKind.u8 (a ++ textW b))])) ∧
 (b = false →
 NonN (↑i.val : Int) ∧
 ∃ e,
 (List.map fldR l)[(↑i.val : Int).toNat]? = some e ∧
 ∃ n,
 e[1]? = some (D.val (Value.int IntKind.i64 n)) ∧
 ∃ a,
 ints IntKind.u8 (catW (List.take i.val l)) = ints IntKind.u8 a ∧
 (catW (List.take i.val l)).length = a.length ∧ a.length ≤ 10000000 ∧ LeM n ∧ Nx (ps1LI l cut) i ([V.dat (D.sl 3 (List.map fldR l)), V.int IntKind.i64 cut, V.ptr 0 0, V.int IntKind.i64 (IntKind.i64.wrap ((↑i.val : Int) + 1))], [KO.cells [V.sl 1 0 (a ++ numW n).length], KO.row 5 1 (ints IntKind.u8 (a ++ numW n))])))) ∧
 (decide ((↑i.val : Int) < (↑(List.map fldR l).length : Int)) = false →
 ∃ a,
 ints IntKind.u8 (catW (List.take i.val l)) = ints IntKind.u8 a ∧
 (catW (List.take i.val l)).length = a.length ∧
 a.length ≤ 1000000 ∧
 (decide ((↑(a.length - 0) : Int) < 1) = true → False) ∧
 (decide ((↑(a.length - 0) : Int) < 1) = false →
 (-9223372036854775808 ≤ (↑(a.length - 0) : Int) ∧ (↑(a.length - 0) : Int) ≤ 9223372036854775807) ∧
 True ∧
 NonN (pickI cut (↑(a.length - 0) : Int)) ∧
 0 ≤ (pickI cut (↑(a.length - 0) : Int)).toNat ∧
 (pickI cut (↑(a.length - 0) : Int)).toNat ≤ a.length - 0 ∧
 (0 + (pickI cut (↑(a.length - 0) : Int)).toNat ≤ (ints IntKind.u8 a).length ∧ True) ∧
 (List.drop 0 (List.take (0 + (pickI cut (↑(a.length - 0) : Int)).toNat) (ints IntKind.u8 a))).length ≤ 1000000 ∧
 PlainS (List.drop 0 (List.take (0 + (pickI cut (↑(a.length - 0) : Int)).toNat) (ints IntKind.u8 a))).flatten ∧
 At (ps2LI b l) ([V.dat (D.sl 3 (List.map fldR l)), V.ptr 0 0, V.int IntKind.i64 0], [KO.cells [V.sl 1 0 (List.drop 0 (List.take (0 + (pickI cut (↑(a.length - 0) : Int)).toNat) (ints IntKind.u8 a))).length, V.int IntKind.i64 0], KO.row 5 1 (List.drop 0 (List.take (0 + (pickI cut (↑(a.length - 0) : Int)).toNat) (ints IntKind.u8 a)))]) ∧
 ∀ (i : { p // psInv b l p }),
 (decide ((↑i.val.snd.snd : Int) < (↑(List.map fldR l).length : Int)) = true →
 NonN (↑i.val.snd.snd : Int) ∧
 ∃ e,
 (List.map fldR l)[(↑i.val.snd.snd : Int).toNat]? = some e ∧
 ∃ b_1,
 e[0]? = some (D.val (Value.bool b_1)) ∧
 (b_1 = true →
 ∃ l_1,
 ints IntKind.u8 b = ints IntKind.u8 l_1 ∧
 b.length = l_1.length ∧
 i.val.fst ≤ l_1.length ∧
 (∀ (c : Int), List.Mem c l_1 → 0 ≤ c ∧ c < 256) ∧
 l_1.length ≤ 900000 ∧
 Nx (ps2LI b l) i
 ([V.dat (D.sl 3 (List.map fldR l)), V.ptr 0 0, V.int IntKind.i64 (IntKind.i64.wrap ((↑i.val.snd.snd : Int) + 1))],
 [KO.cells [V.sl 1 (i.val.fst + (rText (List.drop i.val.fst l_1) i.val.snd.fst 30).snd.fst) l_1.length, V.int IntKind.i64 (rText (List.drop i.val.fst l_1) i.val.snd.fst 30).snd.snd], KO.row 5 1 (ints IntKind.u8 l_1)])) ∧
 (b_1 = false →
 ∃ l_1,
 ints IntKind.u8 b = ints IntKind.u8 l_1 ∧
 b.length = l_1.length ∧
 i.val.fst ≤ l_1.length ∧
 (∀ (c : Int), List.Mem c l_1 → 0 ≤ c ∧ c < 256) ∧
 l_1.length ≤ 10000000 ∧
 Nx (ps2LI b l) i
 ([V.dat (D.sl 3 (List.map fldR l)), V.ptr 0 0, V.int IntKind.i64 (IntKind.i64.wrap ((↑i.val.snd.snd : Int) + 1))],
 [KO.cells [V.sl 1 (i.val.fst + (rNum (List.drop i.val.fst l_1) i.val.snd.fst 9223372036854775807).snd.fst) l_1.length, V.int IntKind.i64 (rNum (List.drop i.val.fst l_1) i.val.snd.fst 9223372036854775807).snd.snd], KO.row 5 1 (ints IntKind.u8 l_1)]))) ∧
 (decide ((↑i.val.snd.snd : Int) < (↑(List.map fldR l).length : Int)) = false →
 ((i.val.snd.fst == 2) = true → ∃ l_1, ints IntKind.u8 b = ints IntKind.u8 l_1 ∧ b.length = l_1.length ∧ ((rEnd (List.drop i.val.fst l_1) i.val.snd.fst == 2) = true → true = true) ∧ ((rEnd (List.drop i.val.fst l_1) i.val.snd.fst == 2) = false → False)) ∧ ((i.val.snd.fst == 2) = false → False))))))
 ) : XL b l cut 6 [.dat (.sl 3 (l.map fldR)), .int .i64 cut] [] KT := Eq.mp (by kernel_rfl) h
theorem byt_dec {l : List Int} (h : (l.all fun c => decide (0 ≤ c) && decide (c < 256)) = true) : Byt l := fun c hc => by
  have := List.all_eq_true.1 h c hc
  simpa using this
theorem okAwake : SpecOk Try.prog 7 Sawake := specOk_of' XPx_ok mixed (fun args kb K h => by
  unfold Sawake at h; split at h <;> try exact h.elim
  refine ⟨noT 7, vcAwake K ⟨[], rfl, rfl, Nat.zero_le _, ⟨by decide⟩, ⟨Nat.le_refl _, trivial⟩, by omega, ⟨plain_dns (k := .u8) (l := [172, 2])⟩, [172, 2], rfl, rfl, by decide, ⟨by decide, Nat.le_refl _, trivial⟩, [172, 2], [172, 2], rfl, rfl, by show (2 : Nat) ≤ 1000000; omega, trivial, fun _ => ?_, fun hn => by simp at hn⟩⟩
  refine ⟨[172, 2], rfl, rfl, by decide, byt_dec (by decide), by decide, fun _ => ⟨[172, 2], rfl, rfl, ?_⟩, fun hn => ?_⟩
  · have : (rEnd (List.drop (0 + (rNum (List.drop 0 [172, 2]) 0 300).2.1) [172, 2]) (rNum (List.drop 0 [172, 2]) 0 300).2.2 == 0) = true := by decide +kernel
    rw [this]; exact h
  · have : ((rNum (List.drop 0 [172, 2]) 0 300).1 == 300) = true := by decide +kernel
    rw [this] at hn; cases hn)
theorem lawS_ok : AllOk Try.prog lawS := fun f k h => by
  unfold lawS at h
  split at h
  · cases h; exact okAwake
  · exact pxS_ok _ _ h
theorem XL_ok (b : List Int) (l : List Fld) (cut : Int) : CallOk Try.prog (XL b l cut) := callS_ok mixed lawS_ok _ 10
theorem byt_wf {l : List Int} (h : ∀ n ∈ l, (Lit.int .u8 n).wf = true) : Byt l := fun c hc => by have := bounds_u8 (h c hc); omega
theorem rNum0 {b : List Int} {v : Int} {u : Nat} {most : Int} (hb : Byt b) (h : rNum b 0 most = (v, u, 0)) : b = numW v ++ b.drop u ∧ u = (numW v).length ∧ 0 ≤ v ∧ v ≤ 9223372036854775807 := by
  unfold rNum at h
  rw [if_pos rfl] at h
  split at h
  · rename_i w n hn
    split at h
    · simp at h
    · simp only [Prod.mk.injEq, and_true] at h
      obtain ⟨rfl, rfl⟩ := h
      obtain ⟨h1, h2, r, h3⟩ := numR_got hb hn
      refine ⟨?_, h2, by omega, h1⟩
      have : b.drop n = r := by rw [h3, h2, List.drop_left]
      rw [this]; exact h3
  · simp at h
  · simp at h
theorem lawOne (b : List Int) (hw : ∀ n ∈ b, (Lit.int .u8 n).wf = true) : XL [] [] 0 3 [.dat (.sl 1 (ints .u8 b))] [] KT := by
  have hb := byt_wf hw
  refine vcOne b ⟨fun _ => rfl, fun h20 => ?_⟩
  simp only [ints_len, decide_eq_false_iff_not] at h20
  refine ⟨by rw [ints_len]; omega, b, rfl, ints_len, Nat.zero_le _, hb, by omega, b, rfl, rfl, fun _ => rfl, fun h => ?_⟩
  have hd0 : List.drop 0 b = b := rfl
  rw [hd0] at h ⊢
  have hv := rNum_val hb 0 9223372036854775807
  generalize hr : rNum b 0 9223372036854775807 = r at h hv ⊢
  obtain ⟨v, u, e⟩ := r
  simp only [Nat.zero_add, bne_eq_false_iff_eq] at h hv ⊢
  have he : e = 0 ∧ List.drop u b = [] := by
    unfold rEnd at h
    split at h
    · omega
    · rename_i hh
      refine ⟨h, ?_⟩
      by_cases hd : List.drop u b = []
      · exact hd
      · exact absurd ⟨hd, h⟩ hh
  obtain ⟨rfl, hd⟩ := he
  obtain ⟨h1, h2, h3, h4⟩ := rNum0 hb hr
  rw [hd, List.append_nil] at h1
  have e1 : (ints .u8 (numW v)).length = (numW v).length := ints_len
  refine ⟨[], rfl, rfl, Nat.zero_le _, ⟨h4⟩, numW v, rfl, rfl, by have := (numW_len v).2; omega, ⟨by rw [ints_len]; exact Nat.le_refl _, trivial, trivial⟩, numW v, b, dropTake, rfl, by show (numW v).length ≤ 1000000; have := (numW_len v).2; omega, trivial, fun _ => trivial, fun f => ?_⟩
  rw [← h1] at f
  simp at f
def fOk (f : Fld) : Prop := inI f.2.1 ∧ Byt f.2.2
theorem catW_take {l : List Fld} {i : Nat} {f : Fld} (h : l[i]? = some f) : catW (l.take (i + 1)) = catW (l.take i) ++ wOf f := by
  unfold catW
  rw [List.take_add_one, h]
  simp
theorem catW_split (l : List Fld) (i : Nat) : catW l = catW (l.take i) ++ catW (l.drop i) := by
  unfold catW
  rw [← List.flatten_append, ← List.map_append, List.take_append_drop]
theorem catW_drop {l : List Fld} {i : Nat} {f : Fld} (h : l[i]? = some f) : catW (l.drop i) = wOf f ++ catW (l.drop (i + 1)) := by
  obtain ⟨hi, rfl⟩ := List.getElem?_eq_some_iff.1 h
  rw [List.drop_eq_getElem_cons hi]
  unfold catW
  rw [List.map_cons, List.flatten_cons]
theorem wOf_len {f : Fld} {c : Nat} (h : f.2.2.length ≤ c) : 1 ≤ (wOf f).length ∧ (wOf f).length ≤ c + 9 := by
  unfold wOf
  split
  · have := textW_len f.2.2; omega
  · have := numW_len f.2.1; omega
theorem catW_len {c : Nat} : ∀ {l : List Fld}, gd c l → (catW l).length ≤ (c + 9) * l.length
  | [], _ => by simp [catW]
  | f :: l, h => by
    have h1 := wOf_len (h f List.mem_cons_self)
    have h2 := catW_len (l := l) (fun g hg => h g (List.mem_cons_of_mem _ hg))
    have : catW (f :: l) = wOf f ++ catW l := by simp [catW]
    rw [this, List.length_append, List.length_cons, Nat.mul_succ]
    omega
theorem wOf_byt {f : Fld} (h : fOk f) (hl : f.2.2.length ≤ 1000) : Byt (wOf f) := by
  unfold wOf
  split
  · exact textW_byt h.2 (by omega)
  · exact numW_byt h.1.2
theorem catW_byt : ∀ {l : List Fld}, (∀ f ∈ l, fOk f) → gd 1000 l → Byt (catW l)
  | [], _, _ => fun c hc => by simp [catW] at hc
  | f :: l, h, hg => fun c hc => by
    have : catW (f :: l) = wOf f ++ catW l := by simp [catW]
    rw [this] at hc
    rcases List.mem_append.1 hc with hc | hc
    · exact wOf_byt (h f List.mem_cons_self) (hg f List.mem_cons_self) c hc
    · exact catW_byt (fun g hg => h g (List.mem_cons_of_mem _ hg)) (fun g hh => hg g (List.mem_cons_of_mem _ hh)) c hc
theorem gd_take {c : Nat} {l : List Fld} {i : Nat} {f : Fld} (hg : gd c (l.take i)) (h : l[i]? = some f) (hf : f.2.2.length ≤ c) : gd c (l.take (i + 1)) := fun g hm => by
  rw [List.take_add_one, h] at hm
  rcases List.mem_append.1 hm with hm | hm
  · exact hg g hm
  · simp at hm; subst hm; exact hf
theorem gd_mono {c d : Nat} {l : List Fld} (h : gd c l) (hcd : c ≤ d) : gd d l := fun f hf => Nat.le_trans (h f hf) hcd
theorem fget {l : List Fld} {i : Nat} {f : Fld} (h : l[i]? = some f) : (List.map fldR l)[((i : Nat) : Int).toNat]? = some (fldR f) := by
  rw [Int.toNat_natCast, List.getElem?_map, h]; rfl
theorem wnn (i : Nat) : NonN (i : Int) := by unfold NonN; omega
theorem lawWrites (l : List Fld) (hl : ∀ f ∈ l, fOk f) : XL [] l 0 5 [.dat (.sl 3 (l.map fldR))] [] KT := by
  refine vcWrites l ⟨fun _ => rfl, fun h20 => ⟨At.mk' ⟨0, Nat.zero_le _, fun f hf => by simp at hf⟩ rfl, ?_⟩⟩
  simp only [List.length_map, decide_eq_false_iff_not] at h20
  rintro ⟨i, hi, hg⟩
  have hcl := catW_len hg
  have hcl2 : (100 + 9) * (l.take i).length ≤ 109 * 20 := Nat.mul_le_mul_left _ (by rw [List.length_take]; omega)
  simp only [List.length_map, ints_len]
  refine ⟨fun hc => ?_, fun hc => ?_⟩
  · simp only [decide_eq_true_eq] at hc
    obtain ⟨f, hf⟩ : ∃ f, l[i]? = some f := ⟨_, List.getElem?_eq_getElem (by omega)⟩
    have hfo := hl f (List.mem_of_getElem? hf)
    refine ⟨wnn i, fldR f, fget hf, ints .u8 f.2.2, rfl, fun _ => trivial, fun h100 => ⟨wnn i, fldR f, fget hf, f.1, rfl, fun ht => ?_, fun ht => ?_⟩⟩
    all_goals simp only [ints_len, decide_eq_false_iff_not] at h100
    all_goals have hw := wOf_len (f := f) (c := 100) (by omega)
    all_goals have he := catW_take hf
    · have hwf : wOf f = textW f.2.2 := by unfold wOf; rw [if_pos ht]
      rw [hwf] at hw he
      refine ⟨wnn i, fldR f, fget hf, ints .u8 f.2.2, rfl, catW (l.take i), f.2.2, rfl, rfl, rfl, by omega, by omega, wnn i, fldR f, fget hf, ints .u8 f.2.2, rfl, f.2.2, rfl, by omega, Nat.le_refl _, Nat.le_refl _, by rw [dropTake, ints_len]; omega, ?_⟩
      rw [dropTake, ints_len, ints_take, List.take_length, ← ints_app, ← List.length_append, ← he, w64 (by omega) (by omega)]
      exact Nx.mk' (⟨i + 1, by omega, gd_take hg hf (by omega)⟩ : {i // iInv 100 l i}) rfl (by show l.length - (i + 1) < l.length - i; omega)
    · have hwf : wOf f = numW f.2.1 := by unfold wOf; rw [if_neg (by rw [ht]; simp)]
      rw [hwf] at hw he
      refine ⟨wnn i, fldR f, fget hf, f.2.1, rfl, catW (l.take i), rfl, rfl, by omega, ⟨hfo.1.2⟩, wnn i, fldR f, fget hf, f.2.1, rfl, ⟨hfo.1.2⟩, Nat.le_refl _, Nat.le_refl _, by rw [dropTake, ints_len]; omega, ?_⟩
      rw [dropTake, ints_len, ints_take, List.take_length, ← ints_app, ← List.length_append, ← he, w64 (by omega) (by omega)]
      exact Nx.mk' (⟨i + 1, by omega, gd_take hg hf (by omega)⟩ : {i // iInv 100 l i}) rfl (by show l.length - (i + 1) < l.length - i; omega)
  · simp only [decide_eq_false_iff_not] at hc
    have hil : l.take i = l := List.take_of_length_le (by omega)
    rw [hil] at hg hcl ⊢
    have hlen : (catW l).length ≤ 109 * 20 := by rw [hil] at hcl2; omega
    have hby := catW_byt hl (gd_mono hg (by omega))
    refine ⟨catW l, rfl, rfl, by omega, ⟨Nat.le_refl _, Nat.le_refl _, trivial⟩, catW l, catW l, dropTake, dropTake, by show (catW l).length ≤ 1000000; omega, trivial, fun f => by simp at f, fun _ => ⟨⟨Nat.le_refl _, trivial⟩, by rw [dropTake, ints_len]; omega, by rw [dropTake]; exact ⟨plain_ints⟩, ?_, ?_⟩⟩
    · rw [dropTake, ints_len]
      exact At.mk' ⟨0, Nat.zero_le _, hg⟩ rfl
    rintro ⟨j, hj, hg2⟩
    simp only
    have hsp := catW_split l j
    have hdr : List.drop (catW (l.take j)).length (catW l) = catW (l.drop j) := by rw [hsp, List.drop_left]
    refine ⟨fun hc => ?_, fun hc => ?_⟩
    · simp only [decide_eq_true_eq] at hc
      obtain ⟨f, hf⟩ : ∃ f, l[j]? = some f := ⟨_, List.getElem?_eq_getElem (by omega)⟩
      have hfo := hl f (List.mem_of_getElem? hf)
      have hfg := hg f (List.mem_of_getElem? hf)
      have he := catW_take hf
      have hdr2 := catW_drop hf
      have hle : (catW (l.take j)).length ≤ (catW l).length := by rw [hsp, List.length_append]; omega
      refine ⟨wnn j, fldR f, fget hf, f.1, rfl, fun ht => ?_, fun ht => ?_⟩
      · have hwf : wOf f = textW f.2.2 := by unfold wOf; rw [if_pos ht]
        rw [hwf] at he hdr2
        have hr : rText (catW (l.drop j)) 0 100 = (f.2.2, (textW f.2.2).length, 0) := by rw [hdr2]; exact rText_app (by omega) (by omega) _
        refine ⟨wnn j, fldR f, fget hf, ints .u8 f.2.2, rfl, catW l, rfl, rfl, hle, hby, by omega, ⟨_, rfl, trivial⟩, ⟨Nat.le_refl _, trivial, trivial⟩, f.2.2, f.2.2, by rw [hdr, hr]; exact dropTake, rfl, by show f.2.2.length ≤ 1000000; omega, trivial, fun f => by simp at f, fun _ => ?_⟩
        rw [hdr, hr, w64 (by omega) (by omega)]
        simp only
        rw [← List.length_append, ← he]
        exact Nx.mk' (⟨j + 1, by omega, hg⟩ : {i // jInv 100 l i}) rfl (by show l.length - (j + 1) < l.length - j; omega)
      · have hwf : wOf f = numW f.2.1 := by unfold wOf; rw [if_neg (by rw [ht]; simp)]
        rw [hwf] at he hdr2
        have hfo1 := hfo.1
        unfold inI at hfo1
        have hr : rNum (catW (l.drop j)) 0 9223372036854775807 = (if 0 > f.2.1 then 0 else f.2.1, (numW f.2.1).length, 0) := by
          rw [hdr2, numW_max f.2.1]; exact rNum_app (by split <;> omega) (by split <;> omega) (by split <;> omega) _
        refine ⟨wnn j, fldR f, fget hf, f.2.1, rfl, catW l, rfl, rfl, hle, hby, by omega, ⟨_, rfl, ⟨rfl⟩⟩, fun hx => ?_, fun hx => ?_⟩
        · rw [hdr, hr] at hx
          simp at hx
        · rw [hdr, hr, w64 (by omega) (by omega)]
          simp only
          rw [← List.length_append, ← he]
          exact Nx.mk' (⟨j + 1, by omega, hg⟩ : {i // jInv 100 l i}) rfl (by show l.length - (j + 1) < l.length - j; omega)
    · simp only [decide_eq_false_iff_not] at hc
      refine ⟨catW l, rfl, rfl, fun _ => trivial, fun hx => ?_⟩
      rw [hdr, List.drop_eq_nil_of_le (by omega)] at hx
      simp [catW, rEnd] at hx
theorem gB_len {f : Fld} {r : List Int} {e : Int} : (gB f r e).length ≤ r.length := by
  unfold gB rText
  split
  · split
    · split
      · split
        · simp
        · simp; omega
      · simp
    · simp
  · simp
theorem rText_e {l : List Int} {e most : Int} (h : e ≠ 0) : rText l e most = ([], 0, e) := by
  have : rNum l e most = (0, 0, e) := by unfold rNum; rw [if_neg h]
  unfold rText
  rw [this]
  simp [h]
theorem rNum_e {l : List Int} {e most : Int} (h : e ≠ 0) : rNum l e most = (0, 0, e) := by unfold rNum; rw [if_neg h]
theorem g_text {f : Fld} {r : List Int} {e : Int} (h : f.1 = true) : rText r e f.2.1 = (gB f r e, gU f r e, gE f r e) := by
  unfold gB gU gE
  rw [if_pos h, if_pos h, if_pos h]
  split
  · rename_i h0; rw [h0]
  · rename_i h0; exact rText_e h0
theorem g_num {f : Fld} {r : List Int} {e : Int} (h : f.1 = false) : rNum r e f.2.1 = (gN f r e, gU f r e, gE f r e) := by
  have hh : ¬ f.1 = true := by rw [h]; simp
  unfold gN gU gE
  rw [if_neg hh, if_neg hh, if_neg hh]
  split
  · rename_i h0; rw [h0]
  · rename_i h0; exact rNum_e h0
theorem rText_val {l : List Int} (hb : Byt l) {e most : Int} (he : 0 ≤ e) : 0 ≤ (rText l e most).2.2 ∧ (rText l e most).2.1 ≤ l.length := by
  have h1 := rNum_val hb e most
  have h2 := rNum_ok (l := l) (most := most) he
  unfold rText
  split
  · split
    · exact ⟨by simp, h1.2.2⟩
    · rename_i h
      simp only [List.length_drop] at h
      exact ⟨by simp, by show _ + _ ≤ _; omega⟩
  · exact ⟨h2.2, h1.2.2⟩
theorem g_val {f : Fld} {r : List Int} {e : Int} (hb : Byt r) (he : 0 ≤ e) : 0 ≤ gE f r e ∧ gU f r e ≤ r.length := by
  cases h : f.1 with
  | true => have := rText_val (most := f.2.1) hb he; rw [g_text h] at this; exact this
  | false =>
    have h1 := rNum_val hb e f.2.1
    have h2 := rNum_ok (l := r) (most := f.2.1) he
    rw [g_num h] at h1 h2
    exact ⟨h2.2, h1.2.2⟩
theorem prStart {b : List Int} {l : List Fld} {i : Nat} {lo : Nat} {e : Int} {f : Fld} (hlo : lo ≤ b.length) (he : 0 ≤ e) (hf : l[i]? = some f) {s : List V × KB} (hs : s = (pgLI b l i).st ⟨(lo, e, f), hlo, he, hf⟩) : At (pgLI b l i) s := At.mk' _ hs
theorem prBody {b : List Int} (hb : Byt b) (h200 : b.length ≤ 200) {l : List Fld} {i : Nat} (hi : i < l.length) (hl20 : l.length ≤ 20) (q : (prLI b l).α) (hq : l.length - (i + 1) < (prLI b l).μ q) : ∀ (p : { p // pgInv b l i p }),
 NonN (i : Int) ∧
 ∃ e,
 (List.map fldR l)[((i : Nat) : Int).toNat]? = some e ∧
 ∃ b_1,
 e[0]? = some (D.val (Value.bool b_1)) ∧
 (b_1 = true →
 NonN (i : Int) ∧
 ∃ e,
 (List.map fldR l)[((i : Nat) : Int).toNat]? = some e ∧
 ∃ n,
 e[1]? = some (D.val (Value.int IntKind.i64 n)) ∧
 (∃ l_1,
 ints IntKind.u8 b = ints IntKind.u8 l_1 ∧
 b.length = l_1.length ∧
 p.val.fst ≤ l_1.length ∧
 (∀ (c : Int), List.Mem c l_1 → 0 ≤ c ∧ c < 256) ∧
 l_1.length ≤ 900000 ∧
 ((rText (List.drop p.val.fst l_1) p.val.snd.fst n).fst.length ≤ (ints IntKind.u8 (rText (List.drop p.val.fst l_1) p.val.snd.fst n).fst).length ∧ True ∧ True) ∧
 ∃ a_3 b_2,
 List.drop 0 (List.take (rText (List.drop p.val.fst l_1) p.val.snd.fst n).fst.length (ints IntKind.u8 (rText (List.drop p.val.fst l_1) p.val.snd.fst n).fst)) = ints IntKind.u8 a_3 ∧
 ints IntKind.u8 (gB p.val.snd.snd (List.drop p.val.fst b) p.val.snd.fst) = ints IntKind.u8 b_2 ∧
 a_3.length.le 1000000 ∧
 True ∧
 ((!decide (a_3 = b_2)) = true → False) ∧
 ((!decide (a_3 = b_2)) = false →
 (((rText (List.drop p.val.fst l_1) p.val.snd.fst n).snd.snd != gE p.val.snd.snd (List.drop p.val.fst b) p.val.snd.fst) = true → False) ∧
 (((rText (List.drop p.val.fst l_1) p.val.snd.fst n).snd.snd != gE p.val.snd.snd (List.drop p.val.fst b) p.val.snd.fst) = false →
 Nx (prLI b l) q
 ([V.dat (D.sl 3 (List.map fldR l)), V.ptr 0 0, V.dat (D.sl 1 (ints IntKind.u8 (List.drop (p.val.fst + gU p.val.snd.snd (List.drop p.val.fst b) p.val.snd.fst) b))), V.int IntKind.i64 (gE p.val.snd.snd (List.drop p.val.fst b) p.val.snd.fst), V.int IntKind.i64 (IntKind.i64.wrap ((i : Int) + 1))],
 [KO.cells [V.sl 1 (p.val.fst + (rText (List.drop p.val.fst l_1) p.val.snd.fst n).snd.fst) l_1.length, V.int IntKind.i64 (rText (List.drop p.val.fst l_1) p.val.snd.fst n).snd.snd], KO.row 5 1 (ints IntKind.u8 l_1)])))) ∧
 ∃ l_1,
 ints IntKind.u8 b = ints IntKind.u8 l_1 ∧
 b.length = l_1.length ∧
 p.val.fst ≤ l_1.length ∧
 (∀ (c : Int), List.Mem c l_1 → 0 ≤ c ∧ c < 256) ∧
 l_1.length ≤ 900000 ∧
 ((rText (List.drop p.val.fst l_1) p.val.snd.fst n).fst.length ≤ (ints IntKind.u8 (rText (List.drop p.val.fst l_1) p.val.snd.fst n).fst).length ∧ True ∧ True) ∧
 ∃ a_3 b_2,
 List.drop 0 (List.take (rText (List.drop p.val.fst l_1) p.val.snd.fst n).fst.length (ints IntKind.u8 (rText (List.drop p.val.fst l_1) p.val.snd.fst n).fst)) = ints IntKind.u8 a_3 ∧
 ints IntKind.u8 (gB p.val.snd.snd (List.drop p.val.fst b) p.val.snd.fst) = ints IntKind.u8 b_2 ∧
 a_3.length.le 1000000 ∧
 True ∧
 ((!decide (a_3 = b_2)) = true → False) ∧
 ((!decide (a_3 = b_2)) = false →
 (((rText (List.drop p.val.fst l_1) p.val.snd.fst n).snd.snd != gE p.val.snd.snd (List.drop p.val.fst b) p.val.snd.fst) = true → False) ∧
 (((rText (List.drop p.val.fst l_1) p.val.snd.fst n).snd.snd != gE p.val.snd.snd (List.drop p.val.fst b) p.val.snd.fst) = false →
 Nx (prLI b l) q
 ([V.dat (D.sl 3 (List.map fldR l)), V.ptr 0 0, V.dat (D.sl 1 (ints IntKind.u8 (List.drop (p.val.fst + gU p.val.snd.snd (List.drop p.val.fst b) p.val.snd.fst) b))), V.int IntKind.i64 (gE p.val.snd.snd (List.drop p.val.fst b) p.val.snd.fst), V.int IntKind.i64 (IntKind.i64.wrap ((i : Int) + 1))],
 [KO.cells [V.sl 1 (p.val.fst + (rText (List.drop p.val.fst l_1) p.val.snd.fst n).snd.fst) l_1.length, V.int IntKind.i64 (rText (List.drop p.val.fst l_1) p.val.snd.fst n).snd.snd], KO.row 5 1 (ints IntKind.u8 l_1)])))) ∧
 (b_1 = false →
 NonN (i : Int) ∧
 ∃ e,
 (List.map fldR l)[((i : Nat) : Int).toNat]? = some e ∧
 ∃ n,
 e[1]? = some (D.val (Value.int IntKind.i64 n)) ∧
 ∃ l_1,
 ints IntKind.u8 b = ints IntKind.u8 l_1 ∧
 b.length = l_1.length ∧
 p.val.fst ≤ l_1.length ∧
 (∀ (c : Int), List.Mem c l_1 → 0 ≤ c ∧ c < 256) ∧
 l_1.length ≤ 10000000 ∧
 EqI (gN p.val.snd.snd (List.drop p.val.fst b) p.val.snd.fst) (gN p.val.snd.snd (List.drop p.val.fst b) p.val.snd.fst) ∧
 (((rNum (List.drop p.val.fst l_1) p.val.snd.fst n).fst != gN p.val.snd.snd (List.drop p.val.fst b) p.val.snd.fst) = true → False) ∧
 (((rNum (List.drop p.val.fst l_1) p.val.snd.fst n).fst != gN p.val.snd.snd (List.drop p.val.fst b) p.val.snd.fst) = false →
 (((rNum (List.drop p.val.fst l_1) p.val.snd.fst n).snd.snd != gE p.val.snd.snd (List.drop p.val.fst b) p.val.snd.fst) = true → False) ∧
 (((rNum (List.drop p.val.fst l_1) p.val.snd.fst n).snd.snd != gE p.val.snd.snd (List.drop p.val.fst b) p.val.snd.fst) = false →
 Nx (prLI b l) q
 ([V.dat (D.sl 3 (List.map fldR l)), V.ptr 0 0, V.dat (D.sl 1 (ints IntKind.u8 (List.drop (p.val.fst + gU p.val.snd.snd (List.drop p.val.fst b) p.val.snd.fst) b))), V.int IntKind.i64 (gE p.val.snd.snd (List.drop p.val.fst b) p.val.snd.fst), V.int IntKind.i64 (IntKind.i64.wrap ((i : Int) + 1))],
 [KO.cells [V.sl 1 (p.val.fst + (rNum (List.drop p.val.fst l_1) p.val.snd.fst n).snd.fst) l_1.length, V.int IntKind.i64 (rNum (List.drop p.val.fst l_1) p.val.snd.fst n).snd.snd], KO.row 5 1 (ints IntKind.u8 l_1)])))) := by
  rintro ⟨⟨lo, e, f⟩, hlo, he, hf⟩
  simp only at hlo he hf ⊢
  have hg := g_val (f := f) (byt_drop hb lo) he
  rw [List.length_drop] at hg
  have hBl := gB_len (f := f) (r := b.drop lo) (e := e)
  rw [List.length_drop] at hBl
  have nx : ∀ w, w = (i : Int) + 1 → Nx (prLI b l) q
      ([V.dat (D.sl 3 (List.map fldR l)), V.ptr 0 0, V.dat (D.sl 1 (ints IntKind.u8 (List.drop (lo + gU f (List.drop lo b) e) b))), V.int IntKind.i64 (gE f (List.drop lo b) e), V.int IntKind.i64 w],
      [KO.cells [V.sl 1 (lo + gU f (List.drop lo b) e) b.length, V.int IntKind.i64 (gE f (List.drop lo b) e)], KO.row 5 1 (ints IntKind.u8 b)]) := by
    rintro _ rfl
    exact Nx.mk' (.inr ⟨(lo + gU f (List.drop lo b) e, gE f (List.drop lo b) e, i + 1), by simp only; omega, hg.1, by simp only; omega⟩) rfl hq
  have hw := w64 (n := (i : Int) + 1) (by omega) (by omega)
  refine ⟨wnn i, fldR f, fget hf, f.1, rfl, fun ht => ?_, fun ht => ?_⟩
  · have T : (∃ l_1,
        ints IntKind.u8 b = ints IntKind.u8 l_1 ∧
        b.length = l_1.length ∧
        lo ≤ l_1.length ∧
        (∀ (c : Int), List.Mem c l_1 → 0 ≤ c ∧ c < 256) ∧
        l_1.length ≤ 900000 ∧
        ((rText (List.drop lo l_1) e f.2.1).fst.length ≤ (ints IntKind.u8 (rText (List.drop lo l_1) e f.2.1).fst).length ∧ True ∧ True) ∧
        ∃ a_3 b_2,
        List.drop 0 (List.take (rText (List.drop lo l_1) e f.2.1).fst.length (ints IntKind.u8 (rText (List.drop lo l_1) e f.2.1).fst)) = ints IntKind.u8 a_3 ∧
        ints IntKind.u8 (gB f (List.drop lo b) e) = ints IntKind.u8 b_2 ∧
        a_3.length.le 1000000 ∧
        True ∧
        ((!decide (a_3 = b_2)) = true → False) ∧
        ((!decide (a_3 = b_2)) = false →
        (((rText (List.drop lo l_1) e f.2.1).snd.snd != gE f (List.drop lo b) e) = true → False) ∧
        (((rText (List.drop lo l_1) e f.2.1).snd.snd != gE f (List.drop lo b) e) = false →
        Nx (prLI b l) q
        ([V.dat (D.sl 3 (List.map fldR l)), V.ptr 0 0, V.dat (D.sl 1 (ints IntKind.u8 (List.drop (lo + gU f (List.drop lo b) e) b))), V.int IntKind.i64 (gE f (List.drop lo b) e), V.int IntKind.i64 (IntKind.i64.wrap ((i : Int) + 1))],
        [KO.cells [V.sl 1 (lo + (rText (List.drop lo l_1) e f.2.1).snd.fst) l_1.length, V.int IntKind.i64 (rText (List.drop lo l_1) e f.2.1).snd.snd], KO.row 5 1 (ints IntKind.u8 l_1)])))) := by
      refine ⟨b, rfl, rfl, hlo, hb, by omega, ?_⟩
      rw [g_text ht]
      refine ⟨⟨by rw [ints_len]; exact Nat.le_refl _, trivial, trivial⟩, _, _, dropTake, rfl, by show (gB f (List.drop lo b) e).length ≤ 1000000; omega, trivial, fun f => by simp at f, fun _ => ⟨fun f => by simp at f, fun _ => nx _ hw⟩⟩
    exact ⟨wnn i, fldR f, fget hf, f.2.1, rfl, T, T⟩
  · refine ⟨wnn i, fldR f, fget hf, f.2.1, rfl, b, rfl, rfl, hlo, hb, by omega, ⟨rfl⟩, ?_⟩
    rw [g_num ht]
    exact ⟨fun f => by simp at f, fun _ => ⟨fun f => by simp at f, fun _ => nx _ hw⟩⟩
theorem lawReads (b : List Int) (l : List Fld) (hw : ∀ n ∈ b, (Lit.int .u8 n).wf = true) : XL b l 0 4 [.dat (.sl 1 (ints .u8 b)), .dat (.sl 3 (l.map fldR))] [] KT := by
  have hb := byt_wf hw
  refine vcReads b l ⟨fun _ => rfl, fun h200 => ⟨fun _ => rfl, fun h20 => ?_⟩⟩
  simp only [List.length_map, decide_eq_false_iff_not] at h200 h20
  have hbl : b.length ≤ 200 := by rw [ints_len] at h200; omega
  have hll : l.length ≤ 20 := by omega
  have hz : 0 + (ints .u8 b).length = b.length := by rw [ints_len, Nat.zero_add]
  refine ⟨by rw [ints_len]; omega, trivial, Nat.le_refl _, by rw [hz]; omega, ?_, ?_, ?_⟩
  · rw [hz, ints_len]
    exact At.mk' (.inl ()) rfl
  · rintro ⟨⟩
    simp only [List.length_map]
    refine ⟨fun hc => ⟨⟨fun _ => ?_, fun h => by simp at h⟩, ?_⟩, fun hc => ⟨fun _ => ⟨fun h => ⟨b, rfl, rfl, fun _ => trivial, fun f => ?_⟩, fun h => ⟨b, rfl, rfl, fun _ => trivial, fun f => ?_⟩⟩, fun h => by simp at h⟩⟩
    · simp only [decide_eq_true_eq] at hc
      obtain ⟨f, hf⟩ : ∃ f, l[0]? = some f := ⟨_, List.getElem?_eq_getElem (by omega)⟩
      have hf' : (List.map fldR l)[0]? = some (fldR f) := fget (i := 0) hf
      refine ⟨wnn 0, fldR f, hf', f.1, rfl, fun ht => ⟨wnn 0, fldR f, hf', f.2.1, rfl, by rw [ints_len]; exact Nat.le_refl _, b, dropTake, hb, by omega, ?_⟩, fun ht => ⟨fun _ => ⟨wnn 0, fldR f, hf', f.2.1, rfl, by rw [ints_len]; exact Nat.le_refl _, b, dropTake, hb, by omega, ?_⟩, fun h => by simp at h⟩⟩
      · refine prStart (lo := 0) (e := 0) (Nat.zero_le _) (Int.le_refl _) hf ?_
        show _ = ([_, _, _, _, _], [_, _, _])
        simp only [gN, gB, gE, gU, gL, if_pos ht, if_true, Nat.zero_add, List.drop_zero]
        rfl
      · have hh : ¬ f.1 = true := by rw [ht]; simp
        refine prStart (lo := 0) (e := 0) (Nat.zero_le _) (Int.le_refl _) hf ?_
        show _ = ([_, _, _, _, _], [_, _, _])
        simp only [gN, gB, gE, gU, gL, if_neg hh, if_true, Nat.zero_add, List.drop_zero]
        rfl
    · simp only [decide_eq_true_eq] at hc
      exact prBody hb hbl (l := l) (i := 0) (by omega) (by omega) (.inl ()) (by show l.length - 1 < l.length + 1; omega)
    · simp only [Nat.sub_zero, decide_eq_true_eq] at h
      have : rEnd (List.drop 0 b) 0 = 3 := by
        unfold rEnd; rw [if_pos ⟨fun hh => by rw [List.drop_zero] at hh; rw [hh] at h; simp at h, rfl⟩]
      rw [this] at f; simp at f
    · simp only [Nat.sub_zero, decide_eq_false_iff_not] at h
      have hnil : b = [] := List.length_eq_zero_iff.1 (by omega)
      rw [hnil] at f
      simp [rEnd] at f
  · rintro ⟨⟨lo, e, i⟩, hlo, he, hi⟩
    simp only [List.length_map] at hlo he hi ⊢
    refine ⟨fun hc => ⟨⟨fun h0 => ?_, fun h0 => ?_⟩, ?_⟩, fun hc => ⟨fun h0 => ⟨fun h => ⟨b, rfl, rfl, fun _ => trivial, fun f => ?_⟩, fun h => ⟨b, rfl, rfl, fun _ => trivial, fun f => ?_⟩⟩, fun h0 => ⟨b, rfl, rfl, fun _ => trivial, fun f => ?_⟩⟩⟩
    · simp only [decide_eq_true_eq] at hc
      simp only [beq_iff_eq] at h0
      subst h0
      obtain ⟨f, hf⟩ : ∃ f, l[i]? = some f := ⟨_, List.getElem?_eq_getElem (by omega)⟩
      refine ⟨wnn i, fldR f, fget hf, f.1, rfl, fun ht => ⟨wnn i, fldR f, fget hf, f.2.1, rfl, b.drop lo, rfl, byt_drop hb lo, by rw [List.length_drop]; omega, ?_⟩, fun ht => ⟨fun _ => ⟨wnn i, fldR f, fget hf, f.2.1, rfl, b.drop lo, rfl, byt_drop hb lo, by rw [List.length_drop]; omega, ?_⟩, fun h => by simp at h⟩⟩
      · refine prStart (lo := lo) (e := 0) hlo (Int.le_refl _) hf ?_
        show _ = ([_, _, _, _, _], [_, _, _])
        simp only [gN, gB, gE, gU, gL, if_pos ht, if_true, List.drop_drop]
      · have hh : ¬ f.1 = true := by rw [ht]; simp
        refine prStart (lo := lo) (e := 0) hlo (Int.le_refl _) hf ?_
        show _ = ([_, _, _, _, _], [_, _, _])
        simp only [gN, gB, gE, gU, gL, if_neg hh, if_true, List.drop_drop]
        rfl
    · simp only [decide_eq_true_eq] at hc
      refine ⟨fun h => (by rw [h] at h0; cases h0), fun _ => ?_⟩
      simp only [beq_eq_false_iff_ne, ne_eq] at h0
      obtain ⟨f, hf⟩ : ∃ f, l[i]? = some f := ⟨_, List.getElem?_eq_getElem (by omega)⟩
      refine prStart (lo := lo) (e := e) hlo he hf ?_
      show _ = ([_, _, _, _, _], [_, _, _])
      simp only [gN, gB, gE, gU, gL, if_neg h0, Nat.add_zero]
      rfl
    · simp only [decide_eq_true_eq] at hc
      exact prBody hb hbl (l := l) (i := i) (by omega) (by omega) (.inr ⟨(lo, e, i), hlo, he, hi⟩) (by show l.length - (i + 1) < l.length - i; omega)
    · simp only [beq_iff_eq] at h0
      subst h0
      simp only [ints_len, decide_eq_true_eq] at h
      have : rEnd (List.drop lo b) 0 = 3 := by
        unfold rEnd; rw [if_pos ⟨fun hh => by rw [hh] at h; simp at h, rfl⟩]
      rw [this] at f; simp at f
    · simp only [beq_iff_eq] at h0
      subst h0
      simp only [ints_len, decide_eq_false_iff_not] at h
      have hnil : b.drop lo = [] := List.length_eq_zero_iff.1 (by omega)
      rw [hnil] at f
      simp [rEnd] at f
    · simp only [beq_eq_false_iff_ne, ne_eq] at h0
      unfold rEnd at f
      rw [if_neg (fun hh => h0 hh.2)] at f
      simp at f
abbrev front (l : List Fld) (cut : Int) : List Int := (catW l).take (pickI cut ((catW l).length : Int)).toNat
theorem psStep {b : List Int} {l : List Fld} (hl : ∀ f ∈ l, fOk f) (hl10 : l.length ≤ 10) {p : Nat × Int × Nat} (hp : psInv b l p) {f : Fld} (hf : l[p.2.2]? = some f) :
    psInv b l (p.1 + (if f.1 then (rText (b.drop p.1) p.2.1 30).2.1 else (rNum (b.drop p.1) p.2.1 9223372036854775807).2.1), if f.1 then (rText (b.drop p.1) p.2.1 30).2.2 else (rNum (b.drop p.1) p.2.1 9223372036854775807).2.2, p.2.2 + 1) := by
  obtain ⟨lo, e, i⟩ := p
  obtain ⟨h1, h2, h3, h4⟩ := hp
  simp only at h1 h2 h3 h4 hf ⊢
  have hlt : i < l.length := (List.getElem?_eq_some_iff.1 hf).1
  have hfo := (hl f (List.mem_of_getElem? hf)).1
  have hfg := h3 f (List.mem_of_getElem? hf)
  unfold inI at hfo
  rcases h4 with ⟨rfl, r, hr, hbr⟩ | rfl
  · rw [catW_drop hf] at hbr
    rcases Nat.lt_or_ge (b.drop lo).length (wOf f).length with hs | hs
    · have hpre : b.drop lo = (wOf f).take (b.drop lo).length := by
        have := congrArg (List.take (b.drop lo).length) hbr
        rw [List.take_left, List.take_append_of_le_length (by omega)] at this
        exact this
      have he2 : (if f.1 then (rText (b.drop lo) 0 30).2.2 else (rNum (b.drop lo) 0 9223372036854775807).2.2) = 2 ∧ lo + (if f.1 then (rText (b.drop lo) 0 30).2.1 else (rNum (b.drop lo) 0 9223372036854775807).2.1) ≤ b.length := by
        have hub := List.length_drop (i := lo) (l := b)
        cases ht : f.1 with
        | true =>
          have hwf : wOf f = textW f.2.2 := by unfold wOf; rw [if_pos ht]
          rw [hwf] at hpre hs
          have := rText_short (b := f.2.2) (most := 30) (by omega) (by omega) hs
          rw [← hpre] at this
          refine ⟨this, ?_⟩
          simp only [if_true]
          unfold rText at this ⊢
          split at this
          · split at this
            · rename_i hh1 hh2
              rw [if_pos hh1, if_pos hh2]
              have : (rNum (b.drop lo) 0 30).2.1 ≤ (b.drop lo).length := by
                by_cases hq : b.drop lo = []
                · rw [hq]; decide
                · unfold rNum
                  simp only [if_true]
                  split
                  · rename_i v n hn
                    split
                    · exact Nat.zero_le _
                    · rw [hpre] at hn
                      rcases Nat.lt_or_ge (b.drop lo).length (numW f.2.2.length).length with h5 | h5
                      · have e5 : (textW f.2.2).take (b.drop lo).length = (numW f.2.2.length).take (b.drop lo).length := by
                          unfold textW; rw [List.take_append_of_le_length (by omega)]
                        rw [e5] at hn
                        have := numR_short (numW f.2.2.length) 0 0 _ _ (b.drop lo).length (by omega) (by have := numR_numW (n := (f.2.2.length : Int)) (by omega) (by omega) []; rwa [List.append_nil] at this) (by omega)
                        rw [this] at hn; cases hn
                      · have e5 : (textW f.2.2).take (b.drop lo).length = numW f.2.2.length ++ f.2.2.take ((b.drop lo).length - (numW f.2.2.length).length) := by
                          unfold textW; rw [List.take_append, List.take_of_length_le h5]
                        rw [e5, numR_numW (by omega) (by omega)] at hn
                        cases hn
                        exact h5
                  · exact Nat.zero_le _
                  · exact Nat.zero_le _
              show lo + (rNum (b.drop lo) 0 30).2.1 ≤ b.length
              omega
            · simp at this
          · rename_i hh1
            rw [if_neg hh1]
            have : (rNum (b.drop lo) 0 30).2.1 = 0 := by
              unfold rNum at hh1 ⊢
              simp only [if_true] at hh1 ⊢
              split
              · rename_i v n hn
                rw [hn] at hh1
                simp only at hh1
                split
                · rfl
                · rename_i hm
                  rw [if_neg hm] at hh1
                  exact absurd rfl hh1
              · rfl
              · rfl
            rw [this]; omega
        | false =>
          have hh : ¬ f.1 = true := by rw [ht]; simp
          have hwf : wOf f = numW f.2.1 := by unfold wOf; rw [if_neg hh]
          rw [hwf, numW_max] at hpre hs
          have := rNum_short (n := if 0 > f.2.1 then 0 else f.2.1) (most := 9223372036854775807) (by split <;> omega) (by split <;> omega) hs
          rw [← hpre] at this
          rw [this]
          simp
          omega
      exact ⟨he2.2, hlt, h3, .inr he2.1⟩
    · have hpre : b.drop lo = wOf f ++ (b.drop lo).drop (wOf f).length := by
        have := congrArg (List.take (wOf f).length) hbr
        rw [List.take_append_of_le_length (by omega), List.take_left] at this
        conv => lhs; rw [← List.take_append_drop (wOf f).length (b.drop lo)]
        rw [this]
      have hrest : (b.drop lo).drop (wOf f).length ++ r = catW (l.drop (i + 1)) := by
        have := congrArg (List.drop (wOf f).length) hbr
        rw [List.drop_append_of_le_length (by omega), List.drop_left] at this
        exact this
      have he0 : (if f.1 then (rText (b.drop lo) 0 30).2.1 else (rNum (b.drop lo) 0 9223372036854775807).2.1) = (wOf f).length ∧ (if f.1 then (rText (b.drop lo) 0 30).2.2 else (rNum (b.drop lo) 0 9223372036854775807).2.2) = 0 := by
        cases ht : f.1 with
        | true =>
          have hwf : wOf f = textW f.2.2 := by unfold wOf; rw [if_pos ht]
          rw [hpre, hwf, rText_app (by omega) (by omega)]
          exact ⟨rfl, rfl⟩
        | false =>
          have hh : ¬ f.1 = true := by rw [ht]; simp
          have hwf : wOf f = numW (if 0 > f.2.1 then 0 else f.2.1) := by unfold wOf; rw [if_neg hh]; exact numW_max _
          rw [hpre, hwf, rNum_app (by split <;> omega) (by split <;> omega) (by split <;> omega)]
          exact ⟨rfl, rfl⟩
      refine ⟨?_, hlt, h3, .inl ⟨he0.2, r, hr, ?_⟩⟩
      · rw [he0.1]
        rw [List.length_drop] at hs
        have := (wOf_len (f := f) (c := 30) (by omega)).1
        simp only
        omega
      · simp only [he0.1]
        rw [← List.drop_drop]
        exact hrest
  · have e1 : rText (b.drop lo) 2 30 = ([], 0, 2) := rText_e (by decide)
    have e2 : rNum (b.drop lo) 2 9223372036854775807 = (0, 0, 2) := rNum_e (by decide)
    rw [e1, e2]
    refine ⟨by simp only [ite_self]; omega, hlt, h3, .inr (by simp only [ite_self])⟩
theorem lawShort (l : List Fld) (cut : Int) (hl : ∀ f ∈ l, fOk f) : XL (front l cut) l cut 6 [.dat (.sl 3 (l.map fldR)), .int .i64 cut] [] KT := by
  refine vcShort l cut (front l cut) ⟨fun _ => rfl, fun h1 => ⟨fun _ => rfl, fun h10 => ⟨At.mk' ⟨0, Nat.zero_le _, fun f hf => by simp at hf⟩ rfl, ?_⟩⟩⟩
  simp only [List.length_map, decide_eq_false_iff_not] at h1 h10
  rintro ⟨i, hi, hg⟩
  have hcl := catW_len hg
  have hcl2 : (30 + 9) * (l.take i).length ≤ 39 * 10 := Nat.mul_le_mul_left _ (by rw [List.length_take]; omega)
  simp only [List.length_map]
  refine ⟨fun hc => ?_, fun hc => ?_⟩
  · simp only [decide_eq_true_eq] at hc
    obtain ⟨f, hf⟩ : ∃ f, l[i]? = some f := ⟨_, List.getElem?_eq_getElem (by omega)⟩
    have hfo := hl f (List.mem_of_getElem? hf)
    refine ⟨wnn i, fldR f, fget hf, ints .u8 f.2.2, rfl, fun _ => trivial, fun h100 => ⟨wnn i, fldR f, fget hf, f.1, rfl, fun ht => ?_, fun ht => ?_⟩⟩
    all_goals simp only [ints_len, decide_eq_false_iff_not] at h100
    all_goals have he := catW_take hf
    · have hwf : wOf f = textW f.2.2 := by unfold wOf; rw [if_pos ht]
      rw [hwf] at he
      refine ⟨wnn i, fldR f, fget hf, ints .u8 f.2.2, rfl, catW (l.take i), f.2.2, rfl, rfl, rfl, by omega, by omega, ?_⟩
      rw [← he, w64 (by omega) (by omega)]
      exact Nx.mk' (⟨i + 1, by omega, gd_take hg hf (by omega)⟩ : {i // iInv 30 l i}) rfl (by show l.length - (i + 1) < l.length - i; omega)
    · have hwf : wOf f = numW f.2.1 := by unfold wOf; rw [if_neg (by rw [ht]; simp)]
      rw [hwf] at he
      refine ⟨wnn i, fldR f, fget hf, f.2.1, rfl, catW (l.take i), rfl, rfl, by omega, ⟨hfo.1.2⟩, ?_⟩
      rw [← he, w64 (by omega) (by omega)]
      exact Nx.mk' (⟨i + 1, by omega, gd_take hg hf (by omega)⟩ : {i // iInv 30 l i}) rfl (by show l.length - (i + 1) < l.length - i; omega)
  · simp only [decide_eq_false_iff_not] at hc
    have hil : l.take i = l := List.take_of_length_le (by omega)
    rw [hil] at hg hcl ⊢
    have hlen : (catW l).length ≤ 39 * 10 := by rw [hil] at hcl2; omega
    have hby := catW_byt hl (gd_mono hg (by omega))
    have hpos : 1 ≤ (catW l).length := by
      obtain ⟨f, hf⟩ : ∃ f, l[0]? = some f := ⟨_, List.getElem?_eq_getElem (by omega)⟩
      have h0 : catW l = wOf f ++ catW (l.drop 1) := by have := catW_drop hf; rwa [List.drop_zero] at this
      rw [h0, List.length_append]
      have := (wOf_len (f := f) (c := 30) (hg f (List.mem_of_getElem? hf))).1
      omega
    refine ⟨catW l, rfl, rfl, by omega, ?_⟩
    simp only [Nat.sub_zero, Nat.zero_add]
    have hpk := pickI_range (k := cut) (n := ((catW l).length : Int)) (by omega)
    have hfl : (front l cut).length = (pickI cut ((catW l).length : Int)).toNat := by
      unfold front; rw [List.length_take]; omega
    have hft : List.drop 0 (List.take (pickI cut ((catW l).length : Int)).toNat (ints .u8 (catW l))) = ints .u8 (front l cut) := by
      rw [List.drop_zero, ints_take]
    rw [hft]
    refine ⟨fun h => ?_, fun _ => ⟨⟨by omega, by omega⟩, trivial, hpk.1, Nat.zero_le _, by omega, ⟨by rw [ints_len]; omega, trivial⟩, by rw [ints_len]; omega, ⟨plain_ints⟩, ?_, ?_⟩⟩
    · simp only [decide_eq_true_eq] at h; omega
    · rw [ints_len]
      exact At.mk' ⟨(0, 0, 0), Nat.zero_le _, Nat.zero_le _, hg, .inl ⟨rfl, (catW l).drop (pickI cut ((catW l).length : Int)).toNat, fun hn => by have := congrArg List.length hn; rw [List.length_drop] at this; simp at this; omega, by rw [List.drop_zero, List.drop_zero]; exact List.take_append_drop _ _⟩⟩ rfl
    · rintro ⟨p, hp⟩
      have hfb : Byt (front l cut) := byt_take hby _
      obtain ⟨q1, q2, q3, q4⟩ := id hp
      simp only
      refine ⟨fun hc => ?_, fun hc => ⟨fun h2 => ⟨front l cut, rfl, rfl, fun _ => trivial, fun f => ?_⟩, fun h2 => ?_⟩⟩
      · simp only [decide_eq_true_eq] at hc
        obtain ⟨f, hf⟩ : ∃ f, l[p.2.2]? = some f := ⟨_, List.getElem?_eq_getElem (by omega)⟩
        have st := psStep hl (by omega) hp hf
        refine ⟨wnn _, fldR f, fget hf, f.1, rfl, fun ht => ?_, fun ht => ?_⟩
        · simp only [if_pos ht] at st
          rw [w64 (by omega) (by omega)]
          exact ⟨front l cut, rfl, rfl, q1, hfb, by omega, Nx.mk' ⟨_, st⟩ rfl (by show l.length - (p.2.2 + 1) < l.length - p.2.2; omega)⟩
        · have hh : ¬ f.1 = true := by rw [ht]; simp
          simp only [if_neg hh] at st
          rw [w64 (by omega) (by omega)]
          exact ⟨front l cut, rfl, rfl, q1, hfb, by omega, Nx.mk' ⟨_, st⟩ rfl (by show l.length - (p.2.2 + 1) < l.length - p.2.2; omega)⟩
      · simp only [beq_iff_eq] at h2
        rw [h2] at f
        simp [rEnd] at f
      · simp only [decide_eq_false_iff_not] at hc
        rcases q4 with ⟨_, r, hr, hbr⟩ | he
        · rw [List.drop_eq_nil_of_le (show l.length ≤ p.2.2 by omega)] at hbr
          have : r = [] := (List.append_eq_nil_iff.1 hbr).2
          exact absurd this hr
        · rw [he] at h2; simp at h2
theorem conf_fld : ∀ x, Conf [.bool, .int .i64, .sl [.int .u8]] x → ∃ f : Fld, x = fldR f ∧ fOk f := fun x h => by
  simp only [Conf, ConfD] at h
  obtain ⟨_, _, rfl, ⟨a, rfl⟩, _, _, rfl, ⟨b, rfl, wb⟩, _, _, rfl, ⟨l, rfl, hl, hc⟩, rfl⟩ := h
  obtain ⟨zs, rfl, hz⟩ := conf_ints (k := .u8) (l := l) (fun e he => by simp only [Conf, ConfD]; exact hc e he)
  exact ⟨(a, b, zs), rfl, by have := bounds_i64 wb; unfold inI; omega, byt_wf hz⟩
end Go.Proofs.Ytalngflpolbdcaa
