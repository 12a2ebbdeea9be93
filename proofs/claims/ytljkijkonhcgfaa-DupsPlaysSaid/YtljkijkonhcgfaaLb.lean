import Derived.Test.YtljkijkonhcgfaaLa
import Derived.KernelRfl
namespace Go.Proofs.Ytljkijkonhcgfaa
open Vc Go
set_option linter.unusedVariables false
set_option linter.unusedSimpArgs false
set_option maxRecDepth 100000
abbrev A4 := Int × Int × Int × Int
def actR (a : A4) : List D := [dn .i64 a.1, dn .i64 a.2.1, dn .i64 a.2.2.1, dn .i64 a.2.2.2]
def g4 (l : List A4) (i : Nat) : A4 := l.getD i (0, 0, 0, 0)
abbrev inN (l : List A4) (i : Nat) : LI where
  α := {j : Nat // j = 0}
  live := [0, 3, 4, 5, 15, 16]
  st j := ([.dat (.sl 4 (l.map actR)), .ptr 0 0, .dat (.sl 3 []), .int .i64 (i : Int), .sl 1 0 0, .int .i64 0], [.cells [.any (.map none)], .row 3 1 []])
  μ j := 0
abbrev inM (l : List A4) (i : Nat) (M : ML) (x : List L3) : LI where
  α := {j : Nat // j ≤ x.length}
  live := [0, 3, 4, 5, 15, 16]
  st j := ([.dat (.sl 4 (l.map actR)), .ptr 0 0, .dat (.sl 3 (x.map en3)), .int .i64 (i : Int), .sl 1 0 x.length, .int .i64 (j.1 : Int)], [.cells [.mp 2], .row 3 1 (ints .i64 (x.map (·.1))), mpT M])
  μ j := x.length - j.1
abbrev plC (l : List A4) (i : Nat) : LI where
  α := {q : Nat // i < l.length} ⊕ {p : ML × List L3 // i < l.length ∧ Tab p.1 p.2}
  live := [0, 3, 4, 5, 6]
  nils := [.slotD 2 3]
  st := fun s => match s with
    | .inl _ => ([.dat (.sl 4 (l.map actR)), .ptr 0 0, .dat (.sl 3 []), .int .i64 (i : Int), .ptr 1 0], [.cells [.any (.map none)], .cells [.int .i64 (g4 l i).1, .int .i64 (g4 l i).2.1, .int .i64 (g4 l i).2.2.1, .int .i64 (g4 l i).2.2.2]])
    | .inr p => ([.dat (.sl 4 (l.map actR)), .ptr 0 0, .dat (.sl 3 (p.1.2.map en3)), .int .i64 (i : Int), .ptr 1 0], [.cells [.mp 2], .cells [.int .i64 (g4 l i).1, .int .i64 (g4 l i).2.1, .int .i64 (g4 l i).2.2.1, .int .i64 (g4 l i).2.2.2], mpT p.1.1])
  μ := fun s => 0
  all := fun Q => (∀ a, Q (.inl a)) ∧ ∀ a, Q (.inr a)
  all_ok := fun Q h i => by
    cases i with
    | inl a => exact h.1 a
    | inr a => exact h.2 a
  sub := fun s r => match r with
    | 24 => match s with
      | .inl _ => some (inN l i)
      | .inr p => some (inM l i p.1.1 p.1.2)
    | _ => none
abbrev plLI (l : List A4) : LI where
  α := {i : Nat // i ≤ l.length} ⊕ {p : Nat × ML × List L3 // p.1 ≤ l.length ∧ Tab p.2.1 p.2.2}
  live := [0, 3, 4, 5]
  nils := [.slotD 2 3]
  st := fun s => match s with
    | .inl i => ([.dat (.sl 4 (l.map actR)), .ptr 0 0, .dat (.sl 3 []), .int .i64 (i.1 : Int)], [.cells [.any (.map none)]])
    | .inr p => ([.dat (.sl 4 (l.map actR)), .ptr 0 0, .dat (.sl 3 (p.1.2.2.map en3)), .int .i64 (p.1.1 : Int)], [.cells [.mp 1], mpT p.1.2.1])
  μ := fun s => match s with | .inl i => l.length - i.1 | .inr p => l.length - p.1.1
  all := fun Q => (∀ a, Q (.inl a)) ∧ ∀ a, Q (.inr a)
  all_ok := fun Q h i => by
    cases i with
    | inl a => exact h.1 a
    | inr a => exact h.2 a
  sub := fun s r => match r with
    | 1018 => match s with
      | .inl i => some (plC l i.1)
      | .inr p => some (plC l p.1.1)
    | _ => none
def plT (l : List A4) : FuncId → Nat → Option LI
  | 4, 6 => some (plLI l)
  | _, _ => none
noncomputable def XP (l : List A4) : CallT := callS Try.prog lawS (plT l) 10
theorem vcPlays (l : List A4)  (hvc_ :
 (decide ((↑(List.map actR l).length : Int) > 100) = true → true = true) ∧
 (decide ((↑(List.map actR l).length : Int) > 100) = false →
 At (plLI l) ([V.dat (D.sl 4 (List.map actR l)), V.ptr 0 0, V.dat (D.sl 3 []), V.int IntKind.i64 0], [KO.cells [V.any (Value.map none)]]) ∧
 (∀ (a : { i : Nat // i ≤ l.length }),
 (decide ((↑a.val : Int) < (↑(List.map actR l).length : Int)) = true →
 NonN (↑a.val : Int) ∧
 ∃ (e : List D),
 (List.map actR l)[(↑a.val : Int).toNat]? = some e ∧
 ∃ (n : Int),
 e[0]? = some (D.val (Value.int IntKind.i64 n)) ∧
 ∃ (n_1 : Int),
 e[1]? = some (D.val (Value.int IntKind.i64 n_1)) ∧
 ∃ (n_2 : Int),
 e[2]? = some (D.val (Value.int IntKind.i64 n_2)) ∧
 ∃ (n_3 : Int),
 e[3]? = some (D.val (Value.int IntKind.i64 n_3)) ∧
 (((n == 0) = true →
 ∃ (x : List L3),
 [] = List.map en3 x ∧
 x.length ≤ 32 ∧
 (NeZ (putE [] n_1 n_2 n_3) →
 ((putE [] n_1 n_2 n_3 != putE x n_1 n_2 n_3) = true → False) ∧
 ((putE [] n_1 n_2 n_3 != putE x n_1 n_2 n_3) = false →
 At (plC l a.val) ([V.dat (D.sl 4 (List.map actR l)), V.ptr 0 0, V.dat (D.sl 3 (List.map en3 (putX x n_1 n_2 n_3))), V.int IntKind.i64 (↑a.val : Int), V.ptr 1 0], [KO.cells [V.any (Value.map none)], KO.cells [V.int IntKind.i64 n, V.int IntKind.i64 n_1, V.int IntKind.i64 n_2, V.int IntKind.i64 n_3]]))) ∧
 (EqZ (putE [] n_1 n_2 n_3) →
 ((0 != putE x n_1 n_2 n_3) = true → False) ∧
 ((0 != putE x n_1 n_2 n_3) = false →
 At (plC l a.val)
 ([V.dat (D.sl 4 (List.map actR l)), V.ptr 0 0, V.dat (D.sl 3 (List.map en3 (putX x n_1 n_2 n_3))), V.int IntKind.i64 (↑a.val : Int), V.ptr 1 0],
 [KO.cells [V.mp 2], KO.cells [V.int IntKind.i64 n, V.int IntKind.i64 n_1, V.int IntKind.i64 n_2, V.int IntKind.i64 n_3], KO.mp [IntKind.i64] false true 2 [([n_1], [dn IntKind.i64 n_2, dn IntKind.i64 n_3])]])))) ∧
 ((n == 0) = false →
 (1 ≤ 1 ∧ True) ∧
 ∃ (b : List Int),
 [[D.val (Value.int IntKind.u8 0)]] = ints IntKind.u8 b ∧
 (∀ (c : Int), List.Mem c b → 0 ≤ c ∧ c < 256) ∧
 b.length ≤ 2000 ∧
 (((∃ (x : List L3), OkX x ∧ b = tabW x) → False) →
 True ∧ (true = true → False) ∧ (true = false → At (plC l a.val) ([V.dat (D.sl 4 (List.map actR l)), V.ptr 0 0, V.dat (D.sl 3 []), V.int IntKind.i64 (↑a.val : Int), V.ptr 1 0], [KO.cells [V.any (Value.map none)], KO.cells [V.int IntKind.i64 n, V.int IntKind.i64 n_1, V.int IntKind.i64 n_2, V.int IntKind.i64 n_3]]))) ∧
 (b = [0] → True ∧ (false = true → False) ∧ (false = false → At (plC l a.val) ([V.dat (D.sl 4 (List.map actR l)), V.ptr 0 0, V.dat (D.sl 3 []), V.int IntKind.i64 (↑a.val : Int), V.ptr 1 0], [KO.cells [V.any (Value.map none)], KO.cells [V.int IntKind.i64 n, V.int IntKind.i64 n_1, V.int IntKind.i64 n_2, V.int IntKind.i64 n_3]]))) ∧
 ∀ (x : List L3) (M : ML),
 Tab M x →
 b = tabW x →
 PlainS (List.map (fun (x : List Int × List D) => x.snd) M).flatten ∧
 (false = true → False) ∧ (false = false → At (plC l a.val) ([V.dat (D.sl 4 (List.map actR l)), V.ptr 0 0, V.dat (D.sl 3 []), V.int IntKind.i64 (↑a.val : Int), V.ptr 1 0], [KO.cells [V.mp 2], KO.cells [V.int IntKind.i64 n, V.int IntKind.i64 n_1, V.int IntKind.i64 n_2, V.int IntKind.i64 n_3], KO.mp [IntKind.i64] false true 2 M])))) ∧
 (∀ (a_2 : { q : Nat // a.val < l.length }),
 ∃ (x : List L3),
 [] = List.map en3 x ∧
 x.length ≤ 32 ∧
 ((0 != chkK x (g4 l a.val).snd.fst (g4 l a.val).snd.snd.fst) = true → False) ∧
 ((0 != chkK x (g4 l a.val).snd.fst (g4 l a.val).snd.snd.fst) = false →
 ((0 != chkE x (g4 l a.val).snd.fst (g4 l a.val).snd.snd.fst) = true → False) ∧
 ((0 != chkE x (g4 l a.val).snd.fst (g4 l a.val).snd.snd.fst) = false →
 (false = true → False) ∧
 (false = false →
 ∃ (x : List L3),
 [] = List.map en3 x ∧
 OkX x ∧
 (1 ≤ 1 ∧ (tabW x).length ≤ (ints IntKind.u8 (tabW x)).length ∧ True) ∧
 ∃ (a_6 : List Int),
 ∃ (b : List Int),
 [[D.val (Value.int IntKind.u8 0)]] = ints IntKind.u8 a_6 ∧
 List.drop 0 (List.take (tabW x).length (ints IntKind.u8 (tabW x))) = ints IntKind.u8 b ∧
 a_6.length.le 1000000 ∧
 True ∧
 ((!decide (a_6 = b)) = true → False) ∧
 ((!decide (a_6 = b)) = false →
 At (inN l a.val) ([V.dat (D.sl 4 (List.map actR l)), V.ptr 0 0, V.dat (D.sl 3 []), V.int IntKind.i64 (↑a.val : Int), V.sl 1 0 0, V.int IntKind.i64 0], [KO.cells [V.any (Value.map none)], KO.row 3 1 []]) ∧
 ∀ (i : { j : Nat // j = 0 }),
 (false = true →
 InB 0 0 ∧
 ∃ (e : List D),
 [][0]? = some e ∧
 ∃ (n : Int),
 e[0]? = some (D.val (Value.int IntKind.i64 n)) ∧
 NonN 0 ∧
 ∃ (e : List D),
 [][0]? = some e ∧
 ∃ (n_4 : Int),
 e[0]? = some (D.val (Value.int IntKind.i64 n_4)) ∧
 ((n != n_4) = true → False) ∧ ((n != n_4) = false → Nx (inN l a.val) i ([V.dat (D.sl 4 (List.map actR l)), V.ptr 0 0, V.dat (D.sl 3 []), V.int IntKind.i64 (↑a.val : Int), V.sl 1 0 0, V.int IntKind.i64 1], [KO.cells [V.any (Value.map none)], KO.row 3 1 []]))) ∧
 (false = false → Nx (plLI l) (Sum.inl a) ([V.dat (D.sl 4 (List.map actR l)), V.ptr 0 0, V.dat (D.sl 3 []), V.int IntKind.i64 (IntKind.i64.wrap ((↑a.val : Int) + 1))], [KO.cells [V.any (Value.map none)]]))))))) ∧
 ∀ (a_2 : { p : ML × List L3 // a.val < l.length ∧ Tab p.fst p.snd }),
 ∃ (x : List L3),
 Tab a_2.val.fst x ∧
 ∃ (x_1 : List L3),
 List.map en3 a_2.val.snd = List.map en3 x_1 ∧
 x_1.length ≤ 32 ∧
 ∃ (x_2 : List L3),
 Tab a_2.val.fst x_2 ∧
 ((chkK x (g4 l a.val).snd.fst (g4 l a.val).snd.snd.fst != chkK x_1 (g4 l a.val).snd.fst (g4 l a.val).snd.snd.fst) = true → False) ∧
 ((chkK x (g4 l a.val).snd.fst (g4 l a.val).snd.snd.fst != chkK x_1 (g4 l a.val).snd.fst (g4 l a.val).snd.snd.fst) = false →
 ((chkE x (g4 l a.val).snd.fst (g4 l a.val).snd.snd.fst != chkE x_1 (g4 l a.val).snd.fst (g4 l a.val).snd.snd.fst) = true → False) ∧
 ((chkE x (g4 l a.val).snd.fst (g4 l a.val).snd.snd.fst != chkE x_1 (g4 l a.val).snd.fst (g4 l a.val).snd.snd.fst) = false →
 (((↑(x_2.length - 0) : Int) != (↑(List.map en3 a_2.val.snd).length : Int)) = true → False) ∧
 (((↑(x_2.length - 0) : Int) != (↑(List.map en3 a_2.val.snd).length : Int)) = false →
 ∃ (x : List L3),
 Tab a_2.val.fst x ∧
 ∃ (x_3 : List L3),
 List.map en3 a_2.val.snd = List.map en3 x_3 ∧
 OkX x_3 ∧
 ((tabW x).length ≤ (ints IntKind.u8 (tabW x)).length ∧ (tabW x_3).length ≤ (ints IntKind.u8 (tabW x_3)).length ∧ True) ∧
 ∃ (a_6 : List Int),
 ∃ (b : List Int),
 List.drop 0 (List.take (tabW x).length (ints IntKind.u8 (tabW x))) = ints IntKind.u8 a_6 ∧
 List.drop 0 (List.take (tabW x_3).length (ints IntKind.u8 (tabW x_3))) = ints IntKind.u8 b ∧
 a_6.length.le 1000000 ∧
 True ∧
 ((!decide (a_6 = b)) = true → False) ∧
 ((!decide (a_6 = b)) = false →
 At (inM l a.val a_2.val.fst a_2.val.snd)
 ([V.dat (D.sl 4 (List.map actR l)), V.ptr 0 0, V.dat (D.sl 3 (List.map en3 a_2.val.snd)), V.int IntKind.i64 (↑a.val : Int), V.sl 1 0 x_2.length, V.int IntKind.i64 0],
 [KO.cells [V.mp 2], KO.row 3 1 (ints IntKind.i64 (List.map (fun (x : L3) => x.fst) x_2)), KO.mp [IntKind.i64] false true 2 a_2.val.fst]) ∧
 ∀ (i : { j : Nat // j ≤ a_2.val.snd.length }),
 (decide ((↑i.val : Int) < (↑(a_2.val.snd.length - 0) : Int)) = true →
 InB (↑i.val : Int) (a_2.val.snd.length - 0) ∧
 ∃ (e : List D),
 (ints IntKind.i64 (List.map (fun (x : L3) => x.fst) a_2.val.snd))[0 + (↑i.val : Int).toNat]? = some e ∧
 ∃ (n : Int),
 e[0]? = some (D.val (Value.int IntKind.i64 n)) ∧
 NonN (↑i.val : Int) ∧
 ∃ (e : List D),
 (List.map en3 a_2.val.snd)[(↑i.val : Int).toNat]? = some e ∧
 ∃ (n_4 : Int),
 e[0]? = some (D.val (Value.int IntKind.i64 n_4)) ∧
 ((n != n_4) = true → False) ∧
 ((n != n_4) = false →
 Nx (inM l a.val a_2.val.fst a_2.val.snd) i
 ([V.dat (D.sl 4 (List.map actR l)), V.ptr 0 0, V.dat (D.sl 3 (List.map en3 a_2.val.snd)), V.int IntKind.i64 (↑a.val : Int), V.sl 1 0 a_2.val.snd.length, V.int IntKind.i64 (IntKind.i64.wrap ((↑i.val : Int) + 1))],
 [KO.cells [V.mp 2], KO.row 3 1 (ints IntKind.i64 (List.map (fun (x : L3) => x.fst) a_2.val.snd)), KO.mp [IntKind.i64] false true 2 a_2.val.fst]))) ∧
 (decide ((↑i.val : Int) < (↑(a_2.val.snd.length - 0) : Int)) = false →
 Nx (plLI l) (Sum.inl a) ([V.dat (D.sl 4 (List.map actR l)), V.ptr 0 0, V.dat (D.sl 3 (List.map en3 a_2.val.snd)), V.int IntKind.i64 (IntKind.i64.wrap ((↑a.val : Int) + 1))], [KO.cells [V.mp 1], KO.mp [IntKind.i64] false true 2 a_2.val.fst]))))))) ∧
 (decide ((↑a.val : Int) < (↑(List.map actR l).length : Int)) = false → true = true)) ∧
 ∀ (a : { p : Nat × ML × List L3 // p.fst ≤ l.length ∧ Tab p.snd.fst p.snd.snd }),
 (decide ((↑a.val.fst : Int) < (↑(List.map actR l).length : Int)) = true →
 NonN (↑a.val.fst : Int) ∧
 ∃ (e : List D),
 (List.map actR l)[(↑a.val.fst : Int).toNat]? = some e ∧
 ∃ (n : Int),
 e[0]? = some (D.val (Value.int IntKind.i64 n)) ∧
 ∃ (n_1 : Int),
 e[1]? = some (D.val (Value.int IntKind.i64 n_1)) ∧
 ∃ (n_2 : Int),
 e[2]? = some (D.val (Value.int IntKind.i64 n_2)) ∧
 ∃ (n_3 : Int),
 e[3]? = some (D.val (Value.int IntKind.i64 n_3)) ∧
 (((n == 0) = true →
 ∃ (x : List L3),
 List.map en3 a.val.snd.snd = List.map en3 x ∧
 x.length ≤ 32 ∧
 ∃ (x_1 : List L3),
 Tab a.val.snd.fst x_1 ∧
 (NeZ (putE x_1 n_1 n_2 n_3) →
 ((putE x_1 n_1 n_2 n_3 != putE x n_1 n_2 n_3) = true → False) ∧
 ((putE x_1 n_1 n_2 n_3 != putE x n_1 n_2 n_3) = false →
 At (plC l a.val.fst)
 ([V.dat (D.sl 4 (List.map actR l)), V.ptr 0 0, V.dat (D.sl 3 (List.map en3 (putX x n_1 n_2 n_3))), V.int IntKind.i64 (↑a.val.fst : Int), V.ptr 1 0], [KO.cells [V.mp 2], KO.cells [V.int IntKind.i64 n, V.int IntKind.i64 n_1, V.int IntKind.i64 n_2, V.int IntKind.i64 n_3], KO.mp [IntKind.i64] false true 2 a.val.snd.fst]))) ∧
 (EqZ (putE x_1 n_1 n_2 n_3) →
 ((0 != putE x n_1 n_2 n_3) = true → False) ∧
 ((0 != putE x n_1 n_2 n_3) = false →
 At (plC l a.val.fst)
 ([V.dat (D.sl 4 (List.map actR l)), V.ptr 0 0, V.dat (D.sl 3 (List.map en3 (putX x n_1 n_2 n_3))), V.int IntKind.i64 (↑a.val.fst : Int), V.ptr 1 0],
 [KO.cells [V.mp 2], KO.cells [V.int IntKind.i64 n, V.int IntKind.i64 n_1, V.int IntKind.i64 n_2, V.int IntKind.i64 n_3], KO.mp [IntKind.i64] false true 2 (mset a.val.snd.fst [n_1] [dn IntKind.i64 n_2, dn IntKind.i64 n_3])])))) ∧
 ((n == 0) = false →
 ∃ (x : List L3),
 Tab a.val.snd.fst x ∧
 ((tabW x).length ≤ (ints IntKind.u8 (tabW x)).length ∧ True) ∧
 ∃ (b : List Int),
 List.drop 0 (List.take (tabW x).length (ints IntKind.u8 (tabW x))) = ints IntKind.u8 b ∧
 (∀ (c : Int), List.Mem c b → 0 ≤ c ∧ c < 256) ∧
 b.length ≤ 2000 ∧
 (((∃ (x : List L3), OkX x ∧ b = tabW x) → False) →
 True ∧
 (true = true → False) ∧
 (true = false → At (plC l a.val.fst) ([V.dat (D.sl 4 (List.map actR l)), V.ptr 0 0, V.dat (D.sl 3 (List.map en3 a.val.snd.snd)), V.int IntKind.i64 (↑a.val.fst : Int), V.ptr 1 0], [KO.cells [V.any (Value.map none)], KO.cells [V.int IntKind.i64 n, V.int IntKind.i64 n_1, V.int IntKind.i64 n_2, V.int IntKind.i64 n_3]]))) ∧
 (b = [0] →
 True ∧
 (false = true → False) ∧
 (false = false → At (plC l a.val.fst) ([V.dat (D.sl 4 (List.map actR l)), V.ptr 0 0, V.dat (D.sl 3 (List.map en3 a.val.snd.snd)), V.int IntKind.i64 (↑a.val.fst : Int), V.ptr 1 0], [KO.cells [V.any (Value.map none)], KO.cells [V.int IntKind.i64 n, V.int IntKind.i64 n_1, V.int IntKind.i64 n_2, V.int IntKind.i64 n_3]]))) ∧
 ∀ (x : List L3) (M : ML),
 Tab M x →
 b = tabW x →
 PlainS (List.map (fun (x : List Int × List D) => x.snd) M).flatten ∧
 (false = true → False) ∧
 (false = false →
 At (plC l a.val.fst) ([V.dat (D.sl 4 (List.map actR l)), V.ptr 0 0, V.dat (D.sl 3 (List.map en3 a.val.snd.snd)), V.int IntKind.i64 (↑a.val.fst : Int), V.ptr 1 0], [KO.cells [V.mp 2], KO.cells [V.int IntKind.i64 n, V.int IntKind.i64 n_1, V.int IntKind.i64 n_2, V.int IntKind.i64 n_3], KO.mp [IntKind.i64] false true 2 M])))) ∧
 (∀ (a_2 : { q : Nat // a.val.fst < l.length }),
 ∃ (x : List L3),
 [] = List.map en3 x ∧
 x.length ≤ 32 ∧
 ((0 != chkK x (g4 l a.val.fst).snd.fst (g4 l a.val.fst).snd.snd.fst) = true → False) ∧
 ((0 != chkK x (g4 l a.val.fst).snd.fst (g4 l a.val.fst).snd.snd.fst) = false →
 ((0 != chkE x (g4 l a.val.fst).snd.fst (g4 l a.val.fst).snd.snd.fst) = true → False) ∧
 ((0 != chkE x (g4 l a.val.fst).snd.fst (g4 l a.val.fst).snd.snd.fst) = false →
 (false = true → False) ∧
 (false = false →
 ∃ (x : List L3),
 [] = List.map en3 x ∧
 OkX x ∧
 (1 ≤ 1 ∧ (tabW x).length ≤ (ints IntKind.u8 (tabW x)).length ∧ True) ∧
 ∃ (a_6 : List Int),
 ∃ (b : List Int),
 [[D.val (Value.int IntKind.u8 0)]] = ints IntKind.u8 a_6 ∧
 List.drop 0 (List.take (tabW x).length (ints IntKind.u8 (tabW x))) = ints IntKind.u8 b ∧
 a_6.length.le 1000000 ∧
 True ∧
 ((!decide (a_6 = b)) = true → False) ∧
 ((!decide (a_6 = b)) = false →
 At (inN l a.val.fst) ([V.dat (D.sl 4 (List.map actR l)), V.ptr 0 0, V.dat (D.sl 3 []), V.int IntKind.i64 (↑a.val.fst : Int), V.sl 1 0 0, V.int IntKind.i64 0], [KO.cells [V.any (Value.map none)], KO.row 3 1 []]) ∧
 ∀ (i : { j : Nat // j = 0 }),
 (false = true →
 InB 0 0 ∧
 ∃ (e : List D),
 [][0]? = some e ∧
 ∃ (n : Int),
 e[0]? = some (D.val (Value.int IntKind.i64 n)) ∧
 NonN 0 ∧
 ∃ (e : List D),
 [][0]? = some e ∧
 ∃ (n_4 : Int),
 e[0]? = some (D.val (Value.int IntKind.i64 n_4)) ∧
 ((n != n_4) = true → False) ∧ ((n != n_4) = false → Nx (inN l a.val.fst) i ([V.dat (D.sl 4 (List.map actR l)), V.ptr 0 0, V.dat (D.sl 3 []), V.int IntKind.i64 (↑a.val.fst : Int), V.sl 1 0 0, V.int IntKind.i64 1], [KO.cells [V.any (Value.map none)], KO.row 3 1 []]))) ∧
 (false = false → Nx (plLI l) (Sum.inr a) ([V.dat (D.sl 4 (List.map actR l)), V.ptr 0 0, V.dat (D.sl 3 []), V.int IntKind.i64 (IntKind.i64.wrap ((↑a.val.fst : Int) + 1))], [KO.cells [V.any (Value.map none)]]))))))) ∧
 ∀ (a_2 : { p : ML × List L3 // a.val.fst < l.length ∧ Tab p.fst p.snd }),
 ∃ (x : List L3),
 Tab a_2.val.fst x ∧
 ∃ (x_1 : List L3),
 List.map en3 a_2.val.snd = List.map en3 x_1 ∧
 x_1.length ≤ 32 ∧
 ∃ (x_2 : List L3),
 Tab a_2.val.fst x_2 ∧
 ((chkK x (g4 l a.val.fst).snd.fst (g4 l a.val.fst).snd.snd.fst != chkK x_1 (g4 l a.val.fst).snd.fst (g4 l a.val.fst).snd.snd.fst) = true → False) ∧
 ((chkK x (g4 l a.val.fst).snd.fst (g4 l a.val.fst).snd.snd.fst != chkK x_1 (g4 l a.val.fst).snd.fst (g4 l a.val.fst).snd.snd.fst) = false →
 ((chkE x (g4 l a.val.fst).snd.fst (g4 l a.val.fst).snd.snd.fst != chkE x_1 (g4 l a.val.fst).snd.fst (g4 l a.val.fst).snd.snd.fst) = true → False) ∧
 ((chkE x (g4 l a.val.fst).snd.fst (g4 l a.val.fst).snd.snd.fst != chkE x_1 (g4 l a.val.fst).snd.fst (g4 l a.val.fst).snd.snd.fst) = false →
 (((↑(x_2.length - 0) : Int) != (↑(List.map en3 a_2.val.snd).length : Int)) = true → False) ∧
 (((↑(x_2.length - 0) : Int) != (↑(List.map en3 a_2.val.snd).length : Int)) = false →
 ∃ (x : List L3),
 Tab a_2.val.fst x ∧
 ∃ (x_3 : List L3),
 List.map en3 a_2.val.snd = List.map en3 x_3 ∧
 OkX x_3 ∧
 ((tabW x).length ≤ (ints IntKind.u8 (tabW x)).length ∧ (tabW x_3).length ≤ (ints IntKind.u8 (tabW x_3)).length ∧ True) ∧
 ∃ (a_6 : List Int),
 ∃ (b : List Int),
 List.drop 0 (List.take (tabW x).length (ints IntKind.u8 (tabW x))) = ints IntKind.u8 a_6 ∧
 List.drop 0 (List.take (tabW x_3).length (ints IntKind.u8 (tabW x_3))) = ints IntKind.u8 b ∧
 a_6.length.le 1000000 ∧
 True ∧
 ((!decide (a_6 = b)) = true → False) ∧
 ((!decide (a_6 = b)) = false →
 At (inM l a.val.fst a_2.val.fst a_2.val.snd)
 ([V.dat (D.sl 4 (List.map actR l)), V.ptr 0 0, V.dat (D.sl 3 (List.map en3 a_2.val.snd)), V.int IntKind.i64 (↑a.val.fst : Int), V.sl 1 0 x_2.length, V.int IntKind.i64 0],
 [KO.cells [V.mp 2], KO.row 3 1 (ints IntKind.i64 (List.map (fun (x : L3) => x.fst) x_2)), KO.mp [IntKind.i64] false true 2 a_2.val.fst]) ∧
 ∀ (i : { j : Nat // j ≤ a_2.val.snd.length }),
 (decide ((↑i.val : Int) < (↑(a_2.val.snd.length - 0) : Int)) = true →
 InB (↑i.val : Int) (a_2.val.snd.length - 0) ∧
 ∃ (e : List D),
 (ints IntKind.i64 (List.map (fun (x : L3) => x.fst) a_2.val.snd))[0 + (↑i.val : Int).toNat]? = some e ∧
 ∃ (n : Int),
 e[0]? = some (D.val (Value.int IntKind.i64 n)) ∧
 NonN (↑i.val : Int) ∧
 ∃ (e : List D),
 (List.map en3 a_2.val.snd)[(↑i.val : Int).toNat]? = some e ∧
 ∃ (n_4 : Int),
 e[0]? = some (D.val (Value.int IntKind.i64 n_4)) ∧
 ((n != n_4) = true → False) ∧
 ((n != n_4) = false →
 Nx (inM l a.val.fst a_2.val.fst a_2.val.snd) i
 ([V.dat (D.sl 4 (List.map actR l)), V.ptr 0 0, V.dat (D.sl 3 (List.map en3 a_2.val.snd)), V.int IntKind.i64 (↑a.val.fst : Int), V.sl 1 0 a_2.val.snd.length, V.int IntKind.i64 (IntKind.i64.wrap ((↑i.val : Int) + 1))],
 [KO.cells [V.mp 2], KO.row 3 1 (ints IntKind.i64 (List.map (fun (x : L3) => x.fst) a_2.val.snd)), KO.mp [IntKind.i64] false true 2 a_2.val.fst]))) ∧
 (decide ((↑i.val : Int) < (↑(a_2.val.snd.length - 0) : Int)) = false →
 Nx (plLI l) (Sum.inr a) ([V.dat (D.sl 4 (List.map actR l)), V.ptr 0 0, V.dat (D.sl 3 (List.map en3 a_2.val.snd)), V.int IntKind.i64 (IntKind.i64.wrap ((↑a.val.fst : Int) + 1))], [KO.cells [V.mp 1], KO.mp [IntKind.i64] false true 2 a_2.val.fst]))))))) ∧
 (decide ((↑a.val.fst : Int) < (↑(List.map actR l).length : Int)) = false → true = true))
 ) : XP l 4 [.dat (.sl 4 (l.map actR))] [] KT := Eq.mp (by kernel_rfl) hvc_
theorem okX_nil : OkX [] := ⟨List.Pairwise.nil, fun p hp => (by cases hp), by simp⟩
theorem tabW_le {x : List L3} (h : x.length ≤ 32) : (tabW x).length ≤ 1000000 := by
  have := tabI_len h x.length
  rw [tabI_all] at this; omega
theorem tabW_2000 {x : List L3} (h : x.length ≤ 32) : (tabW x).length ≤ 2000 := by
  have := tabI_len h x.length
  rw [tabI_all] at this; omega
theorem tabW_inj {x y : List L3} (hx : OkX x) (hy : OkX y) (h : tabW x = tabW y) : x = y := by
  obtain ⟨h1, h2⟩ := lIt_of hx
  obtain ⟨h3, h4⟩ := lIt_of hy
  have hlen : x.length = y.length := by rw [← h1, h, h3]
  have e1 := h2 x.length (Nat.le_refl _)
  have e2 := h4 y.length (Nat.le_refl _)
  rw [List.take_length] at e1 e2
  rw [h, hlen, e2] at e1
  exact (congrArg (·.2) e1).symm
theorem tabW_byt {x : List L3} (h : OkX x) : Byt (tabW x) := by
  intro c hc
  rcases List.mem_append.1 hc with hc | hc
  · exact numW_byt (by have := h.len; omega) c hc
  · unfold catP at hc
    obtain ⟨w, hw, hc⟩ := List.mem_flatten.1 hc
    obtain ⟨p, hp, rfl⟩ := List.mem_map.1 hw
    have := h.rg p hp
    unfold trW at hc
    rcases List.mem_append.1 hc with hc | hc
    · rcases List.mem_append.1 hc with hc | hc
      · exact numW_byt (by omega) c hc
      · exact numW_byt (by omega) c hc
    · exact numW_byt (by omega) c hc
theorem tab_plain {M : ML} {x : List L3} (h : Tab M x) : PlainS (M.map (fun (x : List Int × List D) => x.2)).flatten := ⟨fun d hd => by
  obtain ⟨cs, hcs, hd⟩ := List.mem_flatten.1 hd
  obtain ⟨e, he, rfl⟩ := List.mem_map.1 hcs
  obtain ⟨p, hp, rfl⟩ := List.mem_map.1 (h.perm.mem_iff.1 he)
  simp only [ent, List.mem_cons, List.not_mem_nil, or_false] at hd
  rcases hd with rfl | rfl <;> trivial⟩
theorem g4_get {l : List A4} {i : Nat} (h : i < l.length) : l[i]? = some (g4 l i) := by
  unfold g4; rw [List.getD_eq_getElem?_getD, List.getElem?_eq_getElem h]; rfl
theorem el4 {l : List A4} {i : Nat} {Q : Int → Int → Int → Int → Prop} (hi : i < l.length) (q : Q (g4 l i).1 (g4 l i).2.1 (g4 l i).2.2.1 (g4 l i).2.2.2) : NonN (i : Int) ∧ ∃ e, (l.map actR)[(i : Int).toNat]? = some e ∧ ∃ n, e[0]? = some (D.val (.int .i64 n)) ∧ ∃ m, e[1]? = some (D.val (.int .i64 m)) ∧ ∃ k, e[2]? = some (D.val (.int .i64 k)) ∧ ∃ j, e[3]? = some (D.val (.int .i64 j)) ∧ Q n m k j :=
  ⟨by unfold NonN; omega, actR (g4 l i), by rw [Int.toNat_natCast, List.getElem?_map, g4_get hi]; rfl, _, rfl, _, rfl, _, rfl, _, rfl, q⟩
theorem lnA {l : List A4} : (l.map actR).length = l.length := List.length_map ..
theorem XP_ok (l : List A4) : CallOk Try.prog (XP l) := callS_ok mixed lawS_ok _ 10
theorem lawPlays (l : List A4) : XP l 4 [.dat (.sl 4 (l.map actR))] [] KT := by
  refine vcPlays l ?_
  rw [lnA]
  refine ⟨fun _ => rfl, fun h0 => ⟨At.mk' (.inl ⟨0, Nat.zero_le _⟩) rfl, ?_, ?_⟩⟩
  · rintro ⟨i, hi⟩
    have hl : l.length ≤ 100 := by have := of_decide_eq_false h0; omega
    dsimp only
    refine ⟨fun hc => ?_, fun _ => rfl⟩
    have hlt : i < l.length := by have : (i : Int) < (l.length : Int) := of_decide_eq_true hc; omega
    have e1 : IntKind.i64.wrap ((i : Int) + 1) = ((i + 1 : Nat) : Int) := by rw [w64 (by omega) (by omega)]; rfl
    refine el4 hlt ⟨⟨fun _ => ⟨[], rfl, by simp, fun hne => ⟨fun f => ?_, fun _ => ?_⟩, fun heq => ⟨fun f => ?_, fun _ => ?_⟩⟩, fun _ => ⟨⟨Nat.le_refl _, trivial⟩, [0], rfl, tabW_byt okX_nil, by simp, fun hn => (hn ⟨[], okX_nil, rfl⟩).elim, fun _ => ⟨trivial, fun f => (by cases f), fun _ => At.mk' (.inl ⟨0, hlt⟩) rfl⟩, fun x M ht he => ⟨tab_plain ht, fun f => (by cases f), fun _ => ?_⟩⟩⟩, ?_, ?_⟩
    · simp at f
    · have e2 : putX [] (g4 l i).2.1 (g4 l i).2.2.1 (g4 l i).2.2.2 = [] := by unfold putX; rw [if_neg hne.h]
      rw [e2]
      exact At.mk' (.inl ⟨0, hlt⟩) rfl
    · rw [heq.h] at f; cases f
    · have e2 : putX [] (g4 l i).2.1 (g4 l i).2.2.1 (g4 l i).2.2.2 = putL [] (g4 l i).2.1 (g4 l i).2.2.1 (g4 l i).2.2.2 := by unfold putX; rw [if_pos heq.h]
      rw [e2]
      exact At.mk' (.inr ⟨(mset [] [(g4 l i).2.1] [dn .i64 (g4 l i).2.2.1, dn .i64 (g4 l i).2.2.2], putL [] (g4 l i).2.1 (g4 l i).2.2.1 (g4 l i).2.2.2), hlt, tab_put tab_nil heq.h⟩) rfl
    · have hx : x = [] := (tabW_inj okX_nil ht.ok he).symm
      subst hx
      exact At.mk' (.inr ⟨(M, []), hlt, ht⟩) rfl
    · rintro ⟨_, _⟩
      refine ⟨[], rfl, by simp, fun f => ?_, fun _ => ⟨fun f => ?_, fun _ => ⟨fun f => (by cases f), fun _ => ⟨[], rfl, okX_nil, ⟨Nat.le_refl _, by rw [ints_len]; exact Nat.le_refl _, trivial⟩, [0], tabW [], rfl, takeA rfl, (by show 1 ≤ 1000000; omega), trivial, fun f => ?_, fun _ => ⟨At.mk' ⟨0, rfl⟩ rfl, ?_⟩⟩⟩⟩⟩
      · simp [chkK, numA, atI] at f
      · simp [chkE, numA, atI] at f
      · exact absurd f (by decide)
      rintro ⟨_, _⟩
      refine ⟨fun f => (by cases f), fun _ => ?_⟩
      rw [e1]
      exact Nx.mk' (.inl ⟨i + 1, by omega⟩) rfl (by show l.length - (i + 1) < l.length - i; omega)
    · rintro ⟨⟨M', y⟩, _, hy⟩
      dsimp only at hy ⊢
      refine ⟨y, hy, y, rfl, hy.len, y, hy, fun f => ?_, fun _ => ⟨fun f => ?_, fun _ => ⟨fun f => ?_, fun _ => ⟨y, hy, y, rfl, hy.ok, ⟨by rw [ints_len]; exact Nat.le_refl _, by rw [ints_len]; exact Nat.le_refl _, trivial⟩, tabW y, tabW y, takeA rfl, takeA rfl, tabW_le hy.len, trivial, fun f => ?_, fun _ => ⟨At.mk' ⟨0, Nat.zero_le _⟩ rfl, ?_⟩⟩⟩⟩⟩
      · simp at f
      · simp at f
      · simp at f
      · simp at f
      rintro ⟨j, hj⟩
      have hyl := hy.len
      dsimp only
      refine ⟨fun hc2 => ?_, fun _ => ?_⟩
      · have hjy : j < y.length := by have : (j : Int) < ((y.length - 0 : Nat) : Int) := of_decide_eq_true hc2; omega
        have hk : (y.map (·.1))[j]? = some (g3 y j).1 := by rw [List.getElem?_map, g3_get hjy]; rfl
        refine ⟨by unfold InB; omega, [D.val (.int .i64 (g3 y j).1)], by rw [Nat.zero_add, Int.toNat_natCast, ints_get, hk]; rfl, _, rfl, el3 (v := (g3 y j).1) hjy rfl ⟨fun f => ?_, fun _ => ?_⟩⟩
        · simp at f
        · rw [w64 (n := (j : Int) + 1) (by omega) (by omega)]
          exact Nx.mk' (⟨j + 1, by omega⟩ : {j : Nat // j ≤ y.length}) rfl (by show y.length - (j + 1) < y.length - j; omega)
      · rw [e1]
        exact Nx.mk' (.inr ⟨(i + 1, M', y), by show i + 1 ≤ l.length; omega, hy⟩) rfl (by show l.length - (i + 1) < l.length - i; omega)
  · rintro ⟨⟨i, M, x⟩, hi, ht⟩
    have hl : l.length ≤ 100 := by have := of_decide_eq_false h0; omega
    dsimp only at hi ht ⊢
    refine ⟨fun hc => ?_, fun _ => rfl⟩
    have hlt : i < l.length := by have : (i : Int) < (l.length : Int) := of_decide_eq_true hc; omega
    have e1 : IntKind.i64.wrap ((i : Int) + 1) = ((i + 1 : Nat) : Int) := by rw [w64 (by omega) (by omega)]; rfl
    refine el4 hlt ⟨⟨fun _ => ⟨x, rfl, ht.len, x, ht, fun hne => ⟨fun f => ?_, fun _ => ?_⟩, fun heq => ⟨fun f => ?_, fun _ => ?_⟩⟩, fun _ => ⟨x, ht, ⟨by rw [ints_len]; exact Nat.le_refl _, trivial⟩, tabW x, takeA rfl, tabW_byt ht.ok, tabW_2000 ht.len, fun hn => (hn ⟨x, ht.ok, rfl⟩).elim, fun he => ⟨trivial, fun f => (by cases f), fun _ => ?_⟩, fun y M' hy he => ⟨tab_plain hy, fun f => (by cases f), fun _ => ?_⟩⟩⟩, ?_, ?_⟩
    · simp at f
    · have e2 : putX x (g4 l i).2.1 (g4 l i).2.2.1 (g4 l i).2.2.2 = x := by unfold putX; rw [if_neg hne.h]
      rw [e2]
      exact At.mk' (.inr ⟨(M, x), hlt, ht⟩) rfl
    · rw [heq.h] at f; cases f
    · have e2 : putX x (g4 l i).2.1 (g4 l i).2.2.1 (g4 l i).2.2.2 = putL x (g4 l i).2.1 (g4 l i).2.2.1 (g4 l i).2.2.2 := by unfold putX; rw [if_pos heq.h]
      rw [e2]
      exact At.mk' (.inr ⟨(mset M [(g4 l i).2.1] [dn .i64 (g4 l i).2.2.1, dn .i64 (g4 l i).2.2.2], putL x (g4 l i).2.1 (g4 l i).2.2.1 (g4 l i).2.2.2), hlt, tab_put ht heq.h⟩) rfl
    · have hx : x = [] := (tabW_inj okX_nil ht.ok he.symm).symm
      subst hx
      exact At.mk' (.inl ⟨0, hlt⟩) rfl
    · have hx : x = y := tabW_inj ht.ok hy.ok he
      subst hx
      exact At.mk' (.inr ⟨(M', x), hlt, hy⟩) rfl
    · rintro ⟨_, _⟩
      refine ⟨[], rfl, by simp, fun f => ?_, fun _ => ⟨fun f => ?_, fun _ => ⟨fun f => (by cases f), fun _ => ⟨[], rfl, okX_nil, ⟨Nat.le_refl _, by rw [ints_len]; exact Nat.le_refl _, trivial⟩, [0], tabW [], rfl, takeA rfl, (by show 1 ≤ 1000000; omega), trivial, fun f => ?_, fun _ => ⟨At.mk' ⟨0, rfl⟩ rfl, ?_⟩⟩⟩⟩⟩
      · simp [chkK, numA, atI] at f
      · simp [chkE, numA, atI] at f
      · exact absurd f (by decide)
      rintro ⟨_, _⟩
      refine ⟨fun f => (by cases f), fun _ => ?_⟩
      rw [e1]
      exact Nx.mk' (.inl ⟨i + 1, by omega⟩) rfl (by show l.length - (i + 1) < l.length - i; omega)
    · rintro ⟨⟨M', y⟩, _, hy⟩
      dsimp only at hy ⊢
      refine ⟨y, hy, y, rfl, hy.len, y, hy, fun f => ?_, fun _ => ⟨fun f => ?_, fun _ => ⟨fun f => ?_, fun _ => ⟨y, hy, y, rfl, hy.ok, ⟨by rw [ints_len]; exact Nat.le_refl _, by rw [ints_len]; exact Nat.le_refl _, trivial⟩, tabW y, tabW y, takeA rfl, takeA rfl, tabW_le hy.len, trivial, fun f => ?_, fun _ => ⟨At.mk' ⟨0, Nat.zero_le _⟩ rfl, ?_⟩⟩⟩⟩⟩
      · simp at f
      · simp at f
      · simp at f
      · simp at f
      rintro ⟨j, hj⟩
      have hyl := hy.len
      dsimp only
      refine ⟨fun hc2 => ?_, fun _ => ?_⟩
      · have hjy : j < y.length := by have : (j : Int) < ((y.length - 0 : Nat) : Int) := of_decide_eq_true hc2; omega
        have hk : (y.map (·.1))[j]? = some (g3 y j).1 := by rw [List.getElem?_map, g3_get hjy]; rfl
        refine ⟨by unfold InB; omega, [D.val (.int .i64 (g3 y j).1)], by rw [Nat.zero_add, Int.toNat_natCast, ints_get, hk]; rfl, _, rfl, el3 (v := (g3 y j).1) hjy rfl ⟨fun f => ?_, fun _ => ?_⟩⟩
        · simp at f
        · rw [w64 (n := (j : Int) + 1) (by omega) (by omega)]
          exact Nx.mk' (⟨j + 1, by omega⟩ : {j : Nat // j ≤ y.length}) rfl (by show y.length - (j + 1) < y.length - j; omega)
      · rw [e1]
        exact Nx.mk' (.inr ⟨(i + 1, M', y), by show i + 1 ≤ l.length; omega, hy⟩) rfl (by show l.length - (i + 1) < l.length - i; omega)
theorem conf_act {x : List D} (h : Conf [.int .i64, .int .i64, .int .i64, .int .i64] x) : ∃ a : A4, x = actR a ∧ True := by
  simp only [Conf, ConfD] at h
  obtain ⟨_, _, rfl, ⟨a, rfl, _⟩, _, _, rfl, ⟨b, rfl, _⟩, _, _, rfl, ⟨c, rfl, _⟩, _, _, rfl, ⟨d, rfl, _⟩, rfl⟩ := h
  exact ⟨(a, b, c, d), rfl, trivial⟩
end Go.Proofs.Ytljkijkonhcgfaa
