import Derived.Test.YtnlhpjfdnimpjaaMa
import Derived.KernelRfl
namespace Go.Proofs.Ytnlhpjfdnimpjaa
open Vc Go
set_option linter.unusedVariables false
set_option linter.unusedSimpArgs false
set_option maxRecDepth 100000
def Sawake : FSpec := fun args kb K => match args, kb with | [], [] => K (.sb true) [] | _, _ => False
def awS : FuncId → Option Known
  | 7 => some ⟨[], SNew⟩
  | 8 => some ⟨[], nilIn [.fldD 2 2 1] SPost⟩
  | 9 => some ⟨[], SNext⟩
  | 11 => some ⟨[], SLen⟩
  | 15 => some ⟨[], SDrain⟩
  | 12 => some ⟨[.lend 4], SCount⟩
  | 13 => some ⟨[.lend 4], SFirst⟩
  | 14 => some ⟨[.give 4], SOut⟩
  | 10 => some ⟨[], nilIn [.fldD 0 2 1, .fldD 1 2 1] SSameL⟩
  | _ => none
noncomputable def XAw : CallT := callS Try.prog awS noT 10
def lawS : FuncId → Option Known
  | 6 => some ⟨[], Sawake⟩
  | f => awS f
def gI (l : List Int) (i : Nat) : Int := l.getD i 0
def clL (l : List Int) (i : Nat) (k : Int) : List Lt := ((List.range i).filter (fun j => gI l j % 3 == k)).map (fun (j : Nat) => ⟨(j : Int), 0, []⟩)
structure OkC (l : List Int) (k : Int) (xs : List Lt) : Prop where
  rg : ∀ x ∈ xs, 0 ≤ x.f ∧ x.f < l.length ∧ gI l x.f.toNat % 3 = k
  up : xs.Pairwise (fun x y => x.f < y.f)
structure OrP where
  i : Nat
  cl : Int
  la : Int
  a : List Lt
  b : List Lt
  c : List Lt
structure OrI (l : List Int) (p : OrP) : Prop where
  le : p.i + (p.a.length + p.b.length + p.c.length) = l.length
  cls : p.cl = 0 ∨ (p.cl = 1 ∧ p.a = []) ∨ (p.cl = 2 ∧ p.a = [] ∧ p.b = [])
  oa : OkC l 0 p.a
  ob : OkC l 1 p.b
  oc : OkC l 2 p.c
  la : ∀ x ∈ p.a, p.cl = 0 → p.la < x.f
  lb : ∀ x ∈ p.b, p.cl = 1 → p.la < x.f
  lc : ∀ x ∈ p.c, p.cl = 2 → p.la < x.f
abbrev or1 (l : List Int) : LI where
  α := {i : Nat // i ≤ l.length}
  live := [0, 3, 4]
  st i := ([.dat (.sl 1 (ints .u8 l)), .ptr 0 0, .int .i64 (i.1 : Int)], [bxC, chL 100 (clL l i.1 0), chL 100 (clL l i.1 1), chL 100 (clL l i.1 2)])
  μ i := l.length - i.1
abbrev or2 (l : List Int) : LI where
  α := {p : OrP // OrI l p}
  live := [0, 3, 5, 6, 7]
  st p := ([.dat (.sl 1 (ints .u8 l)), .ptr 0 0, .int .i64 p.1.cl, .int .i64 p.1.la, .int .i64 (p.1.i : Int)], [bxC, chL 100 p.1.a, chL 100 p.1.b, chL 100 p.1.c])
  μ p := l.length - p.1.i
structure OwI (c : Int) (b : List Int) (i : Nat) (p : List Lt × List Lt × List Lt) : Prop where
  sum : i + (p.1.length + p.2.1.length + p.2.2.length) = 2
  e0 : ∀ x ∈ p.1, (c = 0 → x = ⟨1, 2, b⟩) ∧ (c ≠ 0 → x.f = 9)
  e1 : ∀ x ∈ p.2.1, (c = 1 → x = ⟨1, 2, b⟩) ∧ (c ≠ 1 → x.f = 9)
  e2 : ∀ x ∈ p.2.2, (c = 2 → x = ⟨1, 2, b⟩) ∧ (c ≠ 2 → x.f = 9)
abbrev owC (b : List Int) (c : Int) : LI where
  α := {p : List Lt × List Lt × List Lt // OwI (c.tmod 3) b 0 p}
  live := [0, 5, 6, 7]
  st p := ([.dat (.sl 1 (ints .u8 b)), .ptr 0 0, .int .i64 (c.tmod 3), .sl 1 0 b.length], [.cells [.ch 2, .ch 3, .ch 4], .row 5 1 (ints .u8 b), chL 1 p.1.1, chL 1 p.1.2.1, chL 1 p.1.2.2])
  μ p := 0
abbrev owLI (b : List Int) (c : Int) : LI where
  α := {p : Nat × List Int × List Lt × List Lt × List Lt // p.1 ≤ b.length ∧ p.2.1.length = b.length ∧ OwI (c.tmod 3) b 0 p.2.2}
  live := [0, 5, 6, 7, 8]
  st p := ([.dat (.sl 1 (ints .u8 b)), .ptr 0 0, .int .i64 (c.tmod 3), .sl 1 0 b.length, .int .i64 (p.1.1 : Int)], [.cells [.ch 2, .ch 3, .ch 4], .row 5 1 (ints .u8 p.1.2.1), chL 1 p.1.2.2.1, chL 1 p.1.2.2.2.1, chL 1 p.1.2.2.2.2])
  μ p := b.length - p.1.1
abbrev ow2 (b : List Int) (c : Int) : LI where
  α := {p : Nat × List Lt × List Lt × List Lt // OwI (c.tmod 3) b p.1 p.2}
  live := [0, 5, 6, 9]
  st p := ([.dat (.sl 1 (ints .u8 b)), .ptr 0 0, .int .i64 (c.tmod 3), .int .i64 (p.1.1 : Int)], [bxC, chL 1 p.1.2.1, chL 1 p.1.2.2.1, chL 1 p.1.2.2.2])
  μ p := 2 - p.1.1
structure At5 where
  d : Int
  c : Int
  l : Lt
def acD (x : At5) : List D := [dn .i64 x.d, dn .i64 x.c, dn .i64 x.l.f, dn .i64 x.l.t, .sl 1 (ints .u8 x.l.b)]
def gA (l : List At5) (i : Nat) : At5 := l.getD i ⟨0, 0, 0, 0, []⟩
def fl (k : Int) (x : List It) : List Lt := (x.filter (fun a => a.c == k)).map (·.l)
structure PlI (l : List At5) (i : Nat) (x : List It) : Prop where
  le : i ≤ l.length
  few : x.length ≤ i
  cls : ∀ a ∈ x, 0 ≤ a.c ∧ a.c ≤ 2
  sm : ∀ a ∈ x, a.l.b.length ≤ 20
structure PlC (l : List At5) (i : Nat) (x : List It) : Prop where
  le : i < l.length
  few : x.length ≤ i + 1
  cls : ∀ a ∈ x, 0 ≤ a.c ∧ a.c ≤ 2
  sm : ∀ a ∈ x, a.l.b.length ≤ 20
abbrev plHp (r : Nat) (x : List It) : KB := [.cells [.ch 2, .ch 3, .ch 4], .row 41 4 (x.map itD), chL r (fl 0 x), chL r (fl 1 x), chL r (fl 2 x)]
abbrev plC (r : Int) (l : List At5) (i : Nat) : LI where
  α := {x : List It // PlC l i x}
  live := [0, 1, 5, 6, 7, 8]
  nils := [.slot 3 41 4]
  st x := ([.int .i64 r, .dat (.sl 5 (l.map acD)), .ptr 0 0, .sl 1 0 x.1.length, .int .i64 (i : Int), .ptr 2 0], [.cells [.ch 3, .ch 4, .ch 5], .row 41 4 (x.1.map itD), .cells [.int .i64 (gA l i).d, .int .i64 (gA l i).c, .int .i64 (gA l i).l.f, .int .i64 (gA l i).l.t, .dat (.sl 1 (ints .u8 (gA l i).l.b))], chL r.toNat (fl 0 x.1), chL r.toNat (fl 1 x.1), chL r.toNat (fl 2 x.1)])
  μ x := 0
abbrev plLI (r : Int) (l : List At5) : LI where
  α := {p : Nat × List It // PlI l p.1 p.2}
  live := [0, 1, 5, 6, 7]
  nils := [.slot 3 41 4]
  st p := ([.int .i64 r, .dat (.sl 5 (l.map acD)), .ptr 0 0, .sl 1 0 p.1.2.length, .int .i64 (p.1.1 : Int)], plHp r.toNat p.1.2)
  μ p := l.length - p.1.1
  sub p n := match n with
    | 1033 => some (plC r l p.1.1)
    | _ => none
def laT (l : List Int) (c : Int) (r : Int) (acts : List At5) : FuncId → Nat → Option LI
  | 3, 7 => some (or1 l)
  | 3, 13 => some (or2 l)
  | 4, 1010 => some (owC l c)
  | 4, 11 => some (owLI l c)
  | 4, 15 => some (ow2 l c)
  | 5, 10 => some (plLI r acts)
  | _, _ => none
noncomputable def XL (l : List Int) (c : Int) (r : Int) (acts : List At5) : CallT := callS Try.prog lawS (laT l c r acts) 10
theorem vcAwake  (K : V → KB → Prop) (hvc_ :
 ((NewI 1 → False) → K (V.sb false) []) ∧
 (NewI 1 →
 ∃ (b : List Int),
 ∃ (r : Nat),
 ∃ (l0 : List Lt),
 ∃ (l1 : List Lt),
 ∃ (l2 : List Lt),
 [] = ints IntKind.u8 b ∧
 b.length ≤ 1000000 ∧
 1 = r ∧
 1 = r ∧
 1 = r ∧
 [] = List.map ltD l0 ∧
 [] = List.map ltD l1 ∧
 [] = List.map ltD l2 ∧
 ((!psB 2 r l0 l1 l2) = true → K (V.sb false) []) ∧
 ((!psB 2 r l0 l1 l2) = false →
 ∃ (b_1 : List Int),
 ∃ (r_1 : Nat),
 ∃ (l0_1 : List Lt),
 ∃ (l1_1 : List Lt),
 ∃ (l2_1 : List Lt),
 [] = ints IntKind.u8 b_1 ∧
 b_1.length ≤ 1000000 ∧
 r = r_1 ∧
 r = r_1 ∧
 r = r_1 ∧
 List.map ltD (psL 0 2 r l0 { f := 0, t := 2, b := b }) = List.map ltD l0_1 ∧
 List.map ltD (psL 1 2 r l1 { f := 0, t := 2, b := b }) = List.map ltD l1_1 ∧
 List.map ltD (psL 2 2 r l2 { f := 0, t := 2, b := b }) = List.map ltD l2_1 ∧
 ((!psB 0 r_1 l0_1 l1_1 l2_1) = true → K (V.sb false) []) ∧
 ((!psB 0 r_1 l0_1 l1_1 l2_1) = false →
 ∃ (b : List Int),
 ∃ (r : Nat),
 ∃ (l0 : List Lt),
 ∃ (l1 : List Lt),
 ∃ (l2 : List Lt),
 [] = ints IntKind.u8 b ∧
 b.length ≤ 1000000 ∧
 r_1 = r ∧
 r_1 = r ∧
 r_1 = r ∧
 List.map ltD (psL 0 0 r_1 l0_1 { f := 0, t := 5, b := b_1 }) = List.map ltD l0 ∧
 List.map ltD (psL 1 0 r_1 l1_1 { f := 0, t := 5, b := b_1 }) = List.map ltD l1 ∧
 List.map ltD (psL 2 0 r_1 l2_1 { f := 0, t := 5, b := b_1 }) = List.map ltD l2 ∧
 (psB 0 r l0 l1 l2 = true → K (V.sb false) []) ∧
 (psB 0 r l0 l1 l2 = false →
 ∃ (a : List Lt),
 ∃ (b_2 : List Lt),
 ∃ (c : List Lt),
 List.map ltD (psL 0 0 r l0 { f := 0, t := 0, b := b }) = List.map ltD a ∧
 List.map ltD (psL 1 0 r l1 { f := 0, t := 0, b := b }) = List.map ltD b_2 ∧
 List.map ltD (psL 2 0 r l2 { f := 0, t := 0, b := b }) = List.map ltD c ∧
 ((nxt a b_2 c).snd.snd.fst = true →
 (((nxt a b_2 c).snd.fst == 0) = true →
 (((nxt a b_2 c).fst.t == 5) = true →
 K (V.sb ((if 2 = 0 then (↑(List.map ltD (nxt a b_2 c).snd.snd.snd.fst).length : Int) else if 2 = 1 then (↑(List.map ltD (nxt a b_2 c).snd.snd.snd.snd.fst).length : Int) else if 2 = 2 then (↑(List.map ltD (nxt a b_2 c).snd.snd.snd.snd.snd).length : Int) else 0) == 1)) []) ∧
 (((nxt a b_2 c).fst.t == 5) = false → K (V.sb false) [])) ∧
 (((nxt a b_2 c).snd.fst == 0) = false → K (V.sb false) [])) ∧
 ((nxt a b_2 c).snd.snd.fst = false → K (V.sb false) [])))))
 ) : runSpec Try.prog XAw (noT 6) 6 [] [] K := by apply Eq.mp (a := hvc_); kernel_rfl
theorem vcOrder (l : List Int)  (hvc_ :
 (decide ((↑(ints IntKind.u8 l).length : Int) > 60) = true → true = true) ∧
 (decide ((↑(ints IntKind.u8 l).length : Int) > 60) = false →
 ((NewI 100 → False) → False) ∧
 (NewI 100 →
 At (or1 l) ([V.dat (D.sl 1 (ints IntKind.u8 l)), V.ptr 0 0, V.int IntKind.i64 0], [KO.cells [V.ch 1, V.ch 2, V.ch 3], KO.ch true 3 100 [], KO.ch true 3 100 [], KO.ch true 3 100 []]) ∧
 ∀ (i : { i : Nat // i ≤ l.length }),
 (decide ((↑i.val : Int) < (↑(ints IntKind.u8 l).length : Int)) = true →
 NonN (↑i.val : Int) ∧
 ∃ (e : List D),
 (ints IntKind.u8 l)[(↑i.val : Int).toNat]? = some e ∧
 ∃ (n : Int),
 e[0]? = some (D.val (Value.int IntKind.u8 n)) ∧
 ∃ (b : List Int),
 ∃ (r : Nat),
 ∃ (l0 : List Lt),
 ∃ (l1 : List Lt),
 ∃ (l2 : List Lt),
 [] = ints IntKind.u8 b ∧
 b.length ≤ 1000000 ∧
 100 = r ∧
 100 = r ∧
 100 = r ∧
 List.map ltD (clL l i.val 0) = List.map ltD l0 ∧
 List.map ltD (clL l i.val 1) = List.map ltD l1 ∧
 List.map ltD (clL l i.val 2) = List.map ltD l2 ∧
 ((!psB ((IntKind.i64.wrap n).tmod 3) r l0 l1 l2) = true → False) ∧
 ((!psB ((IntKind.i64.wrap n).tmod 3) r l0 l1 l2) = false →
 Nx (or1 l) i
 ([V.dat (D.sl 1 (ints IntKind.u8 l)), V.ptr 0 0, V.int IntKind.i64 (IntKind.i64.wrap ((↑i.val : Int) + 1))],
 [KO.cells [V.ch 1, V.ch 2, V.ch 3], KO.ch true 3 r (List.map ltD (psL 0 ((IntKind.i64.wrap n).tmod 3) r l0 { f := (↑i.val : Int), t := 0, b := b })), KO.ch true 3 r (List.map ltD (psL 1 ((IntKind.i64.wrap n).tmod 3) r l1 { f := (↑i.val : Int), t := 0, b := b })),
 KO.ch true 3 r (List.map ltD (psL 2 ((IntKind.i64.wrap n).tmod 3) r l2 { f := (↑i.val : Int), t := 0, b := b }))]))) ∧
 (decide ((↑i.val : Int) < (↑(ints IntKind.u8 l).length : Int)) = false →
 At (or2 l) ([V.dat (D.sl 1 (ints IntKind.u8 l)), V.ptr 0 0, V.int IntKind.i64 0, V.int IntKind.i64 (-1), V.int IntKind.i64 0], [KO.cells [V.ch 1, V.ch 2, V.ch 3], KO.ch true 3 100 (List.map ltD (clL l i.val 0)), KO.ch true 3 100 (List.map ltD (clL l i.val 1)), KO.ch true 3 100 (List.map ltD (clL l i.val 2))]) ∧
 ∀ (i : { p : OrP // OrI l p }),
 (decide ((↑i.val.i : Int) < (↑(ints IntKind.u8 l).length : Int)) = true →
 ∃ (a : List Lt),
 ∃ (b : List Lt),
 ∃ (c : List Lt),
 List.map ltD i.val.a = List.map ltD a ∧
 List.map ltD i.val.b = List.map ltD b ∧
 List.map ltD i.val.c = List.map ltD c ∧
 ((!(nxt a b c).snd.snd.fst) = true → False) ∧
 ((!(nxt a b c).snd.snd.fst) = false →
 (decide ((nxt a b c).snd.fst < i.val.cl) = true → False) ∧
 (decide ((nxt a b c).snd.fst < i.val.cl) = false →
 (decide ((nxt a b c).fst.f < 0) = true → False) ∧
 (decide ((nxt a b c).fst.f < 0) = false →
 (decide ((nxt a b c).fst.f ≥ (↑(ints IntKind.u8 l).length : Int)) = true → False) ∧
 (decide ((nxt a b c).fst.f ≥ (↑(ints IntKind.u8 l).length : Int)) = false →
 NonN (nxt a b c).fst.f ∧
 ∃ (e : List D),
 (ints IntKind.u8 l)[(nxt a b c).fst.f.toNat]? = some e ∧
 ∃ (n : Int),
 e[0]? = some (D.val (Value.int IntKind.u8 n)) ∧
 (((IntKind.i64.wrap n).tmod 3 != (nxt a b c).snd.fst) = true → False) ∧
 (((IntKind.i64.wrap n).tmod 3 != (nxt a b c).snd.fst) = false →
 (((nxt a b c).snd.fst == i.val.cl) = true →
 (decide ((nxt a b c).fst.f ≤ i.val.la) = true → False) ∧
 (decide ((nxt a b c).fst.f ≤ i.val.la) = false →
 Nx (or2 l) i
 ([V.dat (D.sl 1 (ints IntKind.u8 l)), V.ptr 0 0, V.int IntKind.i64 (nxt a b c).snd.fst, V.int IntKind.i64 (nxt a b c).fst.f, V.int IntKind.i64 (IntKind.i64.wrap ((↑i.val.i : Int) + 1))],
 [KO.cells [V.ch 1, V.ch 2, V.ch 3], KO.ch true 3 100 (List.map ltD (nxt a b c).snd.snd.snd.fst), KO.ch true 3 100 (List.map ltD (nxt a b c).snd.snd.snd.snd.fst), KO.ch true 3 100 (List.map ltD (nxt a b c).snd.snd.snd.snd.snd)]))) ∧
 (((nxt a b c).snd.fst == i.val.cl) = false →
 Nx (or2 l) i
 ([V.dat (D.sl 1 (ints IntKind.u8 l)), V.ptr 0 0, V.int IntKind.i64 (nxt a b c).snd.fst, V.int IntKind.i64 (nxt a b c).fst.f, V.int IntKind.i64 (IntKind.i64.wrap ((↑i.val.i : Int) + 1))],
 [KO.cells [V.ch 1, V.ch 2, V.ch 3], KO.ch true 3 100 (List.map ltD (nxt a b c).snd.snd.snd.fst), KO.ch true 3 100 (List.map ltD (nxt a b c).snd.snd.snd.snd.fst), KO.ch true 3 100 (List.map ltD (nxt a b c).snd.snd.snd.snd.snd)])))))))) ∧
 (decide ((↑i.val.i : Int) < (↑(ints IntKind.u8 l).length : Int)) = false → ∃ (a : List Lt), ∃ (b : List Lt), ∃ (c : List Lt), List.map ltD i.val.a = List.map ltD a ∧ List.map ltD i.val.b = List.map ltD b ∧ List.map ltD i.val.c = List.map ltD c ∧ ((!(nxt a b c).snd.snd.fst) = true → true = true) ∧ ((!(nxt a b c).snd.snd.fst) = false → False)))))
 ) : XL l 0 0 [] 3 [.dat (.sl 1 (ints .u8 l))] [] KT := by apply Eq.mp (a := hvc_); kernel_rfl
theorem vcOwn (b : List Int) (c : Int)  (hvc_ :
 (decide ((↑(ints IntKind.u8 b).length : Int) > 20) = true → true = true) ∧
 (decide ((↑(ints IntKind.u8 b).length : Int) > 20) = false →
 ((NewI 1 → False) → False) ∧
 (NewI 1 →
 True ∧
 0 ≤ 0 ∧
 (0 + (ints IntKind.u8 b).length) * 1 ≤ 140737488355328 ∧
 (∃ (b_1 : List Int),
 ∃ (r : Nat),
 ∃ (l0 : List Lt),
 ∃ (l1 : List Lt),
 ∃ (l2 : List Lt),
 [] ++ ints IntKind.u8 b = ints IntKind.u8 b_1 ∧
 0 + (ints IntKind.u8 b).length = b_1.length ∧
 b_1.length ≤ 1000000 ∧
 1 = r ∧
 1 = r ∧
 1 = r ∧
 [] = List.map ltD l0 ∧
 [] = List.map ltD l1 ∧
 [] = List.map ltD l2 ∧
 ((!psB ((IntKind.i64.wrap c).tmod 3) r l0 l1 l2) = true → False) ∧
 ((!psB ((IntKind.i64.wrap c).tmod 3) r l0 l1 l2) = false →
 ∃ (b_2 : List Int),
 ∃ (r_1 : Nat),
 ∃ (l0_1 : List Lt),
 ∃ (l1_1 : List Lt),
 ∃ (l2_1 : List Lt),
 [] = ints IntKind.u8 b_2 ∧
 b_2.length ≤ 1000000 ∧
 r = r_1 ∧
 r = r_1 ∧
 r = r_1 ∧
 List.map ltD (psL 0 ((IntKind.i64.wrap c).tmod 3) r l0 { f := 1, t := 2, b := b_1 }) = List.map ltD l0_1 ∧
 List.map ltD (psL 1 ((IntKind.i64.wrap c).tmod 3) r l1 { f := 1, t := 2, b := b_1 }) = List.map ltD l1_1 ∧
 List.map ltD (psL 2 ((IntKind.i64.wrap c).tmod 3) r l2 { f := 1, t := 2, b := b_1 }) = List.map ltD l2_1 ∧
 (psB ((IntKind.i64.wrap c).tmod 3) r_1 l0_1 l1_1 l2_1 = true → False) ∧
 (psB ((IntKind.i64.wrap c).tmod 3) r_1 l0_1 l1_1 l2_1 = false →
 ∃ (b_3 : List Int),
 ∃ (r : Nat),
 ∃ (l0 : List Lt),
 ∃ (l1 : List Lt),
 ∃ (l2 : List Lt),
 [] = ints IntKind.u8 b_3 ∧
 b_3.length ≤ 1000000 ∧
 r_1 = r ∧
 r_1 = r ∧
 r_1 = r ∧
 List.map ltD (psL 0 ((IntKind.i64.wrap c).tmod 3) r_1 l0_1 { f := 0, t := 0, b := b_2 }) = List.map ltD l0 ∧
 List.map ltD (psL 1 ((IntKind.i64.wrap c).tmod 3) r_1 l1_1 { f := 0, t := 0, b := b_2 }) = List.map ltD l1 ∧
 List.map ltD (psL 2 ((IntKind.i64.wrap c).tmod 3) r_1 l2_1 { f := 0, t := 0, b := b_2 }) = List.map ltD l2 ∧
 ((!psB ((IntKind.i64.wrap ((IntKind.i64.wrap c).tmod 3 + 1)).tmod 3) r l0 l1 l2) = true → False) ∧
 ((!psB ((IntKind.i64.wrap ((IntKind.i64.wrap c).tmod 3 + 1)).tmod 3) r l0 l1 l2) = false →
 At (owC b c)
 ([V.dat (D.sl 1 (ints IntKind.u8 b)), V.ptr 0 0, V.int IntKind.i64 ((IntKind.i64.wrap c).tmod 3), V.sl 1 0 (0 + (ints IntKind.u8 b).length)],
 [KO.cells [V.ch 2, V.ch 3, V.ch 4], KO.row 5 1 (ints IntKind.u8 b_1), KO.ch true 3 r (List.map ltD (psL 0 ((IntKind.i64.wrap ((IntKind.i64.wrap c).tmod 3 + 1)).tmod 3) r l0 { f := 9, t := 0, b := b_3 })),
 KO.ch true 3 r (List.map ltD (psL 1 ((IntKind.i64.wrap ((IntKind.i64.wrap c).tmod 3 + 1)).tmod 3) r l1 { f := 9, t := 0, b := b_3 })), KO.ch true 3 r (List.map ltD (psL 2 ((IntKind.i64.wrap ((IntKind.i64.wrap c).tmod 3 + 1)).tmod 3) r l2 { f := 9, t := 0, b := b_3 }))]))))) ∧
 ∀ (i : { p : List Lt × List Lt × List Lt // OwI (c.tmod 3) b 0 p }),
 At (owLI b c) ([V.dat (D.sl 1 (ints IntKind.u8 b)), V.ptr 0 0, V.int IntKind.i64 (c.tmod 3), V.sl 1 0 b.length, V.int IntKind.i64 0], [KO.cells [V.ch 2, V.ch 3, V.ch 4], KO.row 5 1 (ints IntKind.u8 b), KO.ch true 3 1 (List.map ltD i.val.fst), KO.ch true 3 1 (List.map ltD i.val.snd.fst), KO.ch true 3 1 (List.map ltD i.val.snd.snd)]) ∧
 ∀ (i : { p : Nat × List Int × List Lt × List Lt × List Lt // p.fst ≤ b.length ∧ p.snd.fst.length = b.length ∧ OwI (c.tmod 3) b 0 p.snd.snd }),
 (decide ((↑i.val.fst : Int) < (↑(b.length - 0) : Int)) = true →
 InB (↑i.val.fst : Int) (b.length - 0) ∧
 ∃ (e : List D),
 (ints IntKind.u8 i.val.snd.fst)[0 + (↑i.val.fst : Int).toNat]? = some e ∧
 ∃ (n : Int),
 e[0]? = some (D.val (Value.int IntKind.u8 n)) ∧
 InB (↑i.val.fst : Int) (b.length - 0) ∧
 0 + (↑i.val.fst : Int).toNat < (ints IntKind.u8 i.val.snd.fst).length ∧
 Nx (owLI b c) i
 ([V.dat (D.sl 1 (ints IntKind.u8 b)), V.ptr 0 0, V.int IntKind.i64 (c.tmod 3), V.sl 1 0 b.length, V.int IntKind.i64 (IntKind.i64.wrap ((↑i.val.fst : Int) + 1))],
 [KO.cells [V.ch 2, V.ch 3, V.ch 4], KO.row 5 1 ((ints IntKind.u8 i.val.snd.fst).set (0 + (↑i.val.fst : Int).toNat) [D.val (Value.int IntKind.u8 (IntKind.u8.wrap (n + 1)))]), KO.ch true 3 1 (List.map ltD i.val.snd.snd.fst), KO.ch true 3 1 (List.map ltD i.val.snd.snd.snd.fst), KO.ch true 3 1 (List.map ltD i.val.snd.snd.snd.snd)])) ∧
 (decide ((↑i.val.fst : Int) < (↑(b.length - 0) : Int)) = false →
 At (ow2 b c) ([V.dat (D.sl 1 (ints IntKind.u8 b)), V.ptr 0 0, V.int IntKind.i64 (c.tmod 3), V.int IntKind.i64 0], [KO.cells [V.ch 1, V.ch 2, V.ch 3], KO.ch true 3 1 (List.map ltD i.val.snd.snd.fst), KO.ch true 3 1 (List.map ltD i.val.snd.snd.snd.fst), KO.ch true 3 1 (List.map ltD i.val.snd.snd.snd.snd)]) ∧
 ∀ (i : { p : Nat × List Lt × List Lt × List Lt // OwI (c.tmod 3) b p.fst p.snd }),
 (decide ((↑i.val.fst : Int) < 2) = true →
 ∃ (a : List Lt),
 ∃ (b_1 : List Lt),
 ∃ (c_1 : List Lt),
 List.map ltD i.val.snd.fst = List.map ltD a ∧
 List.map ltD i.val.snd.snd.fst = List.map ltD b_1 ∧
 List.map ltD i.val.snd.snd.snd = List.map ltD c_1 ∧
 ((!(nxt a b_1 c_1).snd.snd.fst) = true → False) ∧
 ((!(nxt a b_1 c_1).snd.snd.fst) = false →
 (((nxt a b_1 c_1).snd.fst == c.tmod 3) = true →
 ∃ (a_3 : List Int),
 ∃ (b_2 : List Int),
 ints IntKind.u8 (nxt a b_1 c_1).fst.b = ints IntKind.u8 a_3 ∧
 ints IntKind.u8 b = ints IntKind.u8 b_2 ∧
 a_3.length.le 1000000 ∧
 ((!decide ((nxt a b_1 c_1).fst.f = 1 ∧ (nxt a b_1 c_1).fst.t = 2 ∧ a_3 = b_2)) = true → False) ∧
 ((!decide ((nxt a b_1 c_1).fst.f = 1 ∧ (nxt a b_1 c_1).fst.t = 2 ∧ a_3 = b_2)) = false →
 (((nxt a b_1 c_1).snd.fst != c.tmod 3) = true →
 (((nxt a b_1 c_1).fst.f != 9) = true → False) ∧
 (((nxt a b_1 c_1).fst.f != 9) = false →
 Nx (ow2 b c) i
 ([V.dat (D.sl 1 (ints IntKind.u8 b)), V.ptr 0 0, V.int IntKind.i64 (c.tmod 3), V.int IntKind.i64 (IntKind.i64.wrap ((↑i.val.fst : Int) + 1))],
 [KO.cells [V.ch 1, V.ch 2, V.ch 3], KO.ch true 3 1 (List.map ltD (nxt a b_1 c_1).snd.snd.snd.fst), KO.ch true 3 1 (List.map ltD (nxt a b_1 c_1).snd.snd.snd.snd.fst), KO.ch true 3 1 (List.map ltD (nxt a b_1 c_1).snd.snd.snd.snd.snd)]))) ∧
 (((nxt a b_1 c_1).snd.fst != c.tmod 3) = false →
 Nx (ow2 b c) i
 ([V.dat (D.sl 1 (ints IntKind.u8 b)), V.ptr 0 0, V.int IntKind.i64 (c.tmod 3), V.int IntKind.i64 (IntKind.i64.wrap ((↑i.val.fst : Int) + 1))],
 [KO.cells [V.ch 1, V.ch 2, V.ch 3], KO.ch true 3 1 (List.map ltD (nxt a b_1 c_1).snd.snd.snd.fst), KO.ch true 3 1 (List.map ltD (nxt a b_1 c_1).snd.snd.snd.snd.fst), KO.ch true 3 1 (List.map ltD (nxt a b_1 c_1).snd.snd.snd.snd.snd)])))) ∧
 (((nxt a b_1 c_1).snd.fst == c.tmod 3) = false →
 (((nxt a b_1 c_1).snd.fst != c.tmod 3) = true →
 (((nxt a b_1 c_1).fst.f != 9) = true → False) ∧
 (((nxt a b_1 c_1).fst.f != 9) = false →
 Nx (ow2 b c) i
 ([V.dat (D.sl 1 (ints IntKind.u8 b)), V.ptr 0 0, V.int IntKind.i64 (c.tmod 3), V.int IntKind.i64 (IntKind.i64.wrap ((↑i.val.fst : Int) + 1))],
 [KO.cells [V.ch 1, V.ch 2, V.ch 3], KO.ch true 3 1 (List.map ltD (nxt a b_1 c_1).snd.snd.snd.fst), KO.ch true 3 1 (List.map ltD (nxt a b_1 c_1).snd.snd.snd.snd.fst), KO.ch true 3 1 (List.map ltD (nxt a b_1 c_1).snd.snd.snd.snd.snd)]))) ∧
 (((nxt a b_1 c_1).snd.fst != c.tmod 3) = false →
 Nx (ow2 b c) i
 ([V.dat (D.sl 1 (ints IntKind.u8 b)), V.ptr 0 0, V.int IntKind.i64 (c.tmod 3), V.int IntKind.i64 (IntKind.i64.wrap ((↑i.val.fst : Int) + 1))],
 [KO.cells [V.ch 1, V.ch 2, V.ch 3], KO.ch true 3 1 (List.map ltD (nxt a b_1 c_1).snd.snd.snd.fst), KO.ch true 3 1 (List.map ltD (nxt a b_1 c_1).snd.snd.snd.snd.fst), KO.ch true 3 1 (List.map ltD (nxt a b_1 c_1).snd.snd.snd.snd.snd)]))))) ∧
 (decide ((↑i.val.fst : Int) < 2) = false →
 ((IntKind.i64.wrap
 (IntKind.i64.wrap
 ((if 0 = 0 then (↑(List.map ltD i.val.snd.fst).length : Int) else if 0 = 1 then (↑(List.map ltD i.val.snd.snd.fst).length : Int) else if 0 = 2 then (↑(List.map ltD i.val.snd.snd.snd).length : Int) else 0) +
 if 1 = 0 then (↑(List.map ltD i.val.snd.fst).length : Int) else if 1 = 1 then (↑(List.map ltD i.val.snd.snd.fst).length : Int) else if 1 = 2 then (↑(List.map ltD i.val.snd.snd.snd).length : Int) else 0) +
 if 2 = 0 then (↑(List.map ltD i.val.snd.fst).length : Int) else if 2 = 1 then (↑(List.map ltD i.val.snd.snd.fst).length : Int) else if 2 = 2 then (↑(List.map ltD i.val.snd.snd.snd).length : Int) else 0) ==
 0) =
 true →
 (((if 7 = 0 then (↑(List.map ltD i.val.snd.fst).length : Int) else if 7 = 1 then (↑(List.map ltD i.val.snd.snd.fst).length : Int) else if 7 = 2 then (↑(List.map ltD i.val.snd.snd.snd).length : Int) else 0) == 0) = true → true = true) ∧
 (((if 7 = 0 then (↑(List.map ltD i.val.snd.fst).length : Int) else if 7 = 1 then (↑(List.map ltD i.val.snd.snd.fst).length : Int) else if 7 = 2 then (↑(List.map ltD i.val.snd.snd.snd).length : Int) else 0) == 0) = false → False)) ∧
 ((IntKind.i64.wrap
 (IntKind.i64.wrap
 ((if 0 = 0 then (↑(List.map ltD i.val.snd.fst).length : Int) else if 0 = 1 then (↑(List.map ltD i.val.snd.snd.fst).length : Int) else if 0 = 2 then (↑(List.map ltD i.val.snd.snd.snd).length : Int) else 0) +
 if 1 = 0 then (↑(List.map ltD i.val.snd.fst).length : Int) else if 1 = 1 then (↑(List.map ltD i.val.snd.snd.fst).length : Int) else if 1 = 2 then (↑(List.map ltD i.val.snd.snd.snd).length : Int) else 0) +
 if 2 = 0 then (↑(List.map ltD i.val.snd.fst).length : Int) else if 2 = 1 then (↑(List.map ltD i.val.snd.snd.fst).length : Int) else if 2 = 2 then (↑(List.map ltD i.val.snd.snd.snd).length : Int) else 0) ==
 0) =
 false →
 False)))))
 ) : XL b c 0 [] 4 [.dat (.sl 1 (ints .u8 b)), .int .u8 c] [] KT := by apply Eq.mp (a := hvc_); kernel_rfl
theorem vcPlays (r : Int) (l : List At5)  (hvc_ :
 (decide ((↑(List.map acD l).length : Int) > 100) = true → true = true) ∧
 (decide ((↑(List.map acD l).length : Int) > 100) = false →
 (decide (r > 20) = true → true = true) ∧
 (decide (r > 20) = false →
 ((NewI r → False) → ((!false == decide (r ≥ 1)) = true → False) ∧ ((!false == decide (r ≥ 1)) = false → true = true)) ∧
 (NewI r →
 ((!true == decide (r ≥ 1)) = true → False) ∧
 ((!true == decide (r ≥ 1)) = false →
 At (plLI r l) ([V.int IntKind.i64 r, V.dat (D.sl 5 (List.map acD l)), V.ptr 0 0, V.sl 1 0 0, V.int IntKind.i64 0], [KO.cells [V.ch 2, V.ch 3, V.ch 4], KO.row 41 4 [], KO.ch true 3 r.toNat [], KO.ch true 3 r.toNat [], KO.ch true 3 r.toNat []]) ∧
 ∀ (i : { p : Nat × List It // PlI l p.fst p.snd }),
 (decide ((↑i.val.fst : Int) < (↑(List.map acD l).length : Int)) = true →
 NonN (↑i.val.fst : Int) ∧
 ∃ (e : List D),
 (List.map acD l)[(↑i.val.fst : Int).toNat]? = some e ∧
 ∃ (n : Int),
 e[0]? = some (D.val (Value.int IntKind.i64 n)) ∧
 ∃ (n_1 : Int),
 e[1]? = some (D.val (Value.int IntKind.i64 n_1)) ∧
 ∃ (n_2 : Int),
 e[2]? = some (D.val (Value.int IntKind.i64 n_2)) ∧
 ∃ (n_3 : Int),
 e[3]? = some (D.val (Value.int IntKind.i64 n_3)) ∧
 ∃ (l_1 : List (List D)),
 e[4]? = some (D.sl 1 l_1) ∧
 (decide ((↑l_1.length : Int) > 20) = true → true = true) ∧
 (decide ((↑l_1.length : Int) > 20) = false →
 (((n == 0) = true →
 (decide (n_1 ≥ 0) = true →
 (decide (n_1 ≤ 2) = true →
 (i.val.snd.length ≤ (List.map itD i.val.snd).length ∧ True) ∧
 ∃ (x : List It),
 List.drop 0 (List.take i.val.snd.length (List.map itD i.val.snd)) = List.map itD x ∧
 x.length ≤ 100000 ∧
 True ∧
 ∃ (b : List Int),
 ∃ (r_1 : Nat),
 ∃ (l0 : List Lt),
 ∃ (l1 : List Lt),
 ∃ (l2 : List Lt),
 l_1 = ints IntKind.u8 b ∧
 b.length ≤ 1000000 ∧
 r.toNat = r_1 ∧
 r.toNat = r_1 ∧
 r.toNat = r_1 ∧
 List.map ltD (fl 0 i.val.snd) = List.map ltD l0 ∧
 List.map ltD (fl 1 i.val.snd) = List.map ltD l1 ∧
 List.map ltD (fl 2 i.val.snd) = List.map ltD l2 ∧
 ((!psB n_1 r_1 l0 l1 l2 == decide ((↑(cntI x n_1) : Int) < r)) = true → False) ∧
 ((!psB n_1 r_1 l0 l1 l2 == decide ((↑(cntI x n_1) : Int) < r)) = false →
 (decide ((↑(cntI x n_1) : Int) < r) = true →
 1 ≤ 1 ∧
 i.val.snd.length ≤ (List.map itD i.val.snd).length ∧
 (i.val.snd.length + 1) * 48 ≤ 140737488355328 ∧
 At (plC r l i.val.fst)
 ([V.int IntKind.i64 r, V.dat (D.sl 5 (List.map acD l)), V.ptr 0 0, V.sl 1 0 (i.val.snd.length + 1), V.int IntKind.i64 (↑i.val.fst : Int), V.ptr 2 0],
 [KO.cells [V.ch 3, V.ch 4, V.ch 5], KO.row 41 4 (List.take i.val.snd.length (List.map itD i.val.snd) ++ [[D.val (Value.int IntKind.i64 n_1), D.val (Value.int IntKind.i64 n_2), D.val (Value.int IntKind.i64 n_3), D.sl 1 l_1]]),
 KO.cells [V.int IntKind.i64 n, V.int IntKind.i64 n_1, V.int IntKind.i64 n_2, V.int IntKind.i64 n_3, V.dat (D.sl 1 l_1)], KO.ch true 3 r_1 (List.map ltD (psL 0 n_1 r_1 l0 { f := n_2, t := n_3, b := b })),
 KO.ch true 3 r_1 (List.map ltD (psL 1 n_1 r_1 l1 { f := n_2, t := n_3, b := b })), KO.ch true 3 r_1 (List.map ltD (psL 2 n_1 r_1 l2 { f := n_2, t := n_3, b := b }))])) ∧
 (decide ((↑(cntI x n_1) : Int) < r) = false →
 At (plC r l i.val.fst)
 ([V.int IntKind.i64 r, V.dat (D.sl 5 (List.map acD l)), V.ptr 0 0, V.sl 1 0 i.val.snd.length, V.int IntKind.i64 (↑i.val.fst : Int), V.ptr 2 0],
 [KO.cells [V.ch 3, V.ch 4, V.ch 5], KO.row 41 4 (List.map itD i.val.snd), KO.cells [V.int IntKind.i64 n, V.int IntKind.i64 n_1, V.int IntKind.i64 n_2, V.int IntKind.i64 n_3, V.dat (D.sl 1 l_1)], KO.ch true 3 r_1 (List.map ltD (psL 0 n_1 r_1 l0 { f := n_2, t := n_3, b := b })),
 KO.ch true 3 r_1 (List.map ltD (psL 1 n_1 r_1 l1 { f := n_2, t := n_3, b := b })), KO.ch true 3 r_1 (List.map ltD (psL 2 n_1 r_1 l2 { f := n_2, t := n_3, b := b }))])))) ∧
 (decide (n_1 ≤ 2) = false →
 ∃ (b : List Int),
 ∃ (r_1 : Nat),
 ∃ (l0 : List Lt),
 ∃ (l1 : List Lt),
 ∃ (l2 : List Lt),
 l_1 = ints IntKind.u8 b ∧
 b.length ≤ 1000000 ∧
 r.toNat = r_1 ∧
 r.toNat = r_1 ∧
 r.toNat = r_1 ∧
 List.map ltD (fl 0 i.val.snd) = List.map ltD l0 ∧
 List.map ltD (fl 1 i.val.snd) = List.map ltD l1 ∧
 List.map ltD (fl 2 i.val.snd) = List.map ltD l2 ∧
 ((!psB n_1 r_1 l0 l1 l2 == false) = true → False) ∧
 ((!psB n_1 r_1 l0 l1 l2 == false) = false →
 At (plC r l i.val.fst)
 ([V.int IntKind.i64 r, V.dat (D.sl 5 (List.map acD l)), V.ptr 0 0, V.sl 1 0 i.val.snd.length, V.int IntKind.i64 (↑i.val.fst : Int), V.ptr 2 0],
 [KO.cells [V.ch 3, V.ch 4, V.ch 5], KO.row 41 4 (List.map itD i.val.snd), KO.cells [V.int IntKind.i64 n, V.int IntKind.i64 n_1, V.int IntKind.i64 n_2, V.int IntKind.i64 n_3, V.dat (D.sl 1 l_1)], KO.ch true 3 r_1 (List.map ltD (psL 0 n_1 r_1 l0 { f := n_2, t := n_3, b := b })),
 KO.ch true 3 r_1 (List.map ltD (psL 1 n_1 r_1 l1 { f := n_2, t := n_3, b := b })), KO.ch true 3 r_1 (List.map ltD (psL 2 n_1 r_1 l2 { f := n_2, t := n_3, b := b }))])))) ∧
 (decide (n_1 ≥ 0) = false →
 ∃ (b : List Int),
 ∃ (r_1 : Nat),
 ∃ (l0 : List Lt),
 ∃ (l1 : List Lt),
 ∃ (l2 : List Lt),
 l_1 = ints IntKind.u8 b ∧
 b.length ≤ 1000000 ∧
 r.toNat = r_1 ∧
 r.toNat = r_1 ∧
 r.toNat = r_1 ∧
 List.map ltD (fl 0 i.val.snd) = List.map ltD l0 ∧
 List.map ltD (fl 1 i.val.snd) = List.map ltD l1 ∧
 List.map ltD (fl 2 i.val.snd) = List.map ltD l2 ∧
 ((!psB n_1 r_1 l0 l1 l2 == false) = true → False) ∧
 ((!psB n_1 r_1 l0 l1 l2 == false) = false →
 At (plC r l i.val.fst)
 ([V.int IntKind.i64 r, V.dat (D.sl 5 (List.map acD l)), V.ptr 0 0, V.sl 1 0 i.val.snd.length, V.int IntKind.i64 (↑i.val.fst : Int), V.ptr 2 0],
 [KO.cells [V.ch 3, V.ch 4, V.ch 5], KO.row 41 4 (List.map itD i.val.snd), KO.cells [V.int IntKind.i64 n, V.int IntKind.i64 n_1, V.int IntKind.i64 n_2, V.int IntKind.i64 n_3, V.dat (D.sl 1 l_1)], KO.ch true 3 r_1 (List.map ltD (psL 0 n_1 r_1 l0 { f := n_2, t := n_3, b := b })),
 KO.ch true 3 r_1 (List.map ltD (psL 1 n_1 r_1 l1 { f := n_2, t := n_3, b := b })), KO.ch true 3 r_1 (List.map ltD (psL 2 n_1 r_1 l2 { f := n_2, t := n_3, b := b }))])))) ∧
 ((n == 0) = false →
 ((n == 1) = true →
 (i.val.snd.length ≤ (List.map itD i.val.snd).length ∧ True) ∧
 ∃ (x : List It),
 List.drop 0 (List.take i.val.snd.length (List.map itD i.val.snd)) = List.map itD x ∧
 x.length ≤ 100000 ∧
 True ∧
 ∃ (a : List Lt),
 ∃ (b : List Lt),
 ∃ (c : List Lt),
 List.map ltD (fl 0 i.val.snd) = List.map ltD a ∧
 List.map ltD (fl 1 i.val.snd) = List.map ltD b ∧
 List.map ltD (fl 2 i.val.snd) = List.map ltD c ∧
 ((!(nxt a b c).snd.snd.fst == decide (besI x x.length ≥ 0)) = true → False) ∧
 ((!(nxt a b c).snd.snd.fst == decide (besI x x.length ≥ 0)) = false →
 ((nxt a b c).snd.snd.fst = true →
 InB (besI x x.length) (i.val.snd.length - 0) ∧
 ∃ (e : List D),
 (List.map itD i.val.snd)[0 + (besI x x.length).toNat]? = some e ∧
 ∃ (n_4 : Int),
 e[0]? = some (D.val (Value.int IntKind.i64 n_4)) ∧
 (((nxt a b c).snd.fst != n_4) = true → False) ∧
 (((nxt a b c).snd.fst != n_4) = false →
 InB (besI x x.length) (i.val.snd.length - 0) ∧
 ∃ (e : List D),
 (List.map itD i.val.snd)[0 + (besI x x.length).toNat]? = some e ∧
 ∃ (n_5 : Int),
 e[1]? = some (D.val (Value.int IntKind.i64 n_5)) ∧
 ∃ (n_6 : Int),
 e[2]? = some (D.val (Value.int IntKind.i64 n_6)) ∧
 ∃ (l_2 : List (List D)),
 e[3]? = some (D.sl 1 l_2) ∧
 ∃ (a_4 : List Int),
 ∃ (b_1 : List Int),
 ints IntKind.u8 (nxt a b c).fst.b = ints IntKind.u8 a_4 ∧
 l_2 = ints IntKind.u8 b_1 ∧
 a_4.length.le 1000000 ∧
 ((!decide ((nxt a b c).fst.f = n_5 ∧ (nxt a b c).fst.t = n_6 ∧ a_4 = b_1)) = true → False) ∧
 ((!decide ((nxt a b c).fst.f = n_5 ∧ (nxt a b c).fst.t = n_6 ∧ a_4 = b_1)) = false →
 ((!(nxt a b c).snd.snd.fst) = true →
 (((nxt a b c).snd.fst != 0) = true → False) ∧
 (((nxt a b c).snd.fst != 0) = false →
 ∃ (a_8 : List Int),
 ∃ (b_2 : List Int),
 ints IntKind.u8 (nxt a b c).fst.b = ints IntKind.u8 a_8 ∧
 [] = ints IntKind.u8 b_2 ∧
 a_8.length.le 1000000 ∧
 ((!decide ((nxt a b c).fst.f = 0 ∧ (nxt a b c).fst.t = 0 ∧ a_8 = b_2)) = true → False) ∧
 ((!decide ((nxt a b c).fst.f = 0 ∧ (nxt a b c).fst.t = 0 ∧ a_8 = b_2)) = false →
 ((nxt a b c).snd.snd.fst = true →
 i.val.snd.length ≤ (List.map itD i.val.snd).length ∧
 ∃ (x_1 : List It),
 ∃ (i_1 : Nat),
 List.drop 0 (List.take i.val.snd.length (List.map itD i.val.snd)) = List.map itD x_1 ∧
 besI x x.length = (↑i_1 : Int) ∧
 i_1 < x_1.length ∧
 x_1.length ≤ 100000 ∧
 At (plC r l i.val.fst)
 ([V.int IntKind.i64 r, V.dat (D.sl 5 (List.map acD l)), V.ptr 0 0, V.sl 1 0 (x_1.length - 1), V.int IntKind.i64 (↑i.val.fst : Int), V.ptr 2 0],
 [KO.cells [V.ch 3, V.ch 4, V.ch 5], KO.row 41 4 (List.map itD (x_1.eraseIdx i_1)), KO.cells [V.int IntKind.i64 n, V.int IntKind.i64 n_1, V.int IntKind.i64 n_2, V.int IntKind.i64 n_3, V.dat (D.sl 1 l_1)],
 KO.ch true 3 r.toNat (List.map ltD (nxt a b c).snd.snd.snd.fst), KO.ch true 3 r.toNat (List.map ltD (nxt a b c).snd.snd.snd.snd.fst), KO.ch true 3 r.toNat (List.map ltD (nxt a b c).snd.snd.snd.snd.snd)])) ∧
 ((nxt a b c).snd.snd.fst = false →
 At (plC r l i.val.fst)
 ([V.int IntKind.i64 r, V.dat (D.sl 5 (List.map acD l)), V.ptr 0 0, V.sl 1 0 i.val.snd.length, V.int IntKind.i64 (↑i.val.fst : Int), V.ptr 2 0],
 [KO.cells [V.ch 3, V.ch 4, V.ch 5], KO.row 41 4 (List.map itD i.val.snd), KO.cells [V.int IntKind.i64 n, V.int IntKind.i64 n_1, V.int IntKind.i64 n_2, V.int IntKind.i64 n_3, V.dat (D.sl 1 l_1)],
 KO.ch true 3 r.toNat (List.map ltD (nxt a b c).snd.snd.snd.fst), KO.ch true 3 r.toNat (List.map ltD (nxt a b c).snd.snd.snd.snd.fst), KO.ch true 3 r.toNat (List.map ltD (nxt a b c).snd.snd.snd.snd.snd)]))))) ∧
 ((!(nxt a b c).snd.snd.fst) = false →
 ((nxt a b c).snd.snd.fst = true →
 i.val.snd.length ≤ (List.map itD i.val.snd).length ∧
 ∃ (x_1 : List It),
 ∃ (i_1 : Nat),
 List.drop 0 (List.take i.val.snd.length (List.map itD i.val.snd)) = List.map itD x_1 ∧
 besI x x.length = (↑i_1 : Int) ∧
 i_1 < x_1.length ∧
 x_1.length ≤ 100000 ∧
 At (plC r l i.val.fst)
 ([V.int IntKind.i64 r, V.dat (D.sl 5 (List.map acD l)), V.ptr 0 0, V.sl 1 0 (x_1.length - 1), V.int IntKind.i64 (↑i.val.fst : Int), V.ptr 2 0],
 [KO.cells [V.ch 3, V.ch 4, V.ch 5], KO.row 41 4 (List.map itD (x_1.eraseIdx i_1)), KO.cells [V.int IntKind.i64 n, V.int IntKind.i64 n_1, V.int IntKind.i64 n_2, V.int IntKind.i64 n_3, V.dat (D.sl 1 l_1)],
 KO.ch true 3 r.toNat (List.map ltD (nxt a b c).snd.snd.snd.fst), KO.ch true 3 r.toNat (List.map ltD (nxt a b c).snd.snd.snd.snd.fst), KO.ch true 3 r.toNat (List.map ltD (nxt a b c).snd.snd.snd.snd.snd)])) ∧
 ((nxt a b c).snd.snd.fst = false →
 At (plC r l i.val.fst)
 ([V.int IntKind.i64 r, V.dat (D.sl 5 (List.map acD l)), V.ptr 0 0, V.sl 1 0 i.val.snd.length, V.int IntKind.i64 (↑i.val.fst : Int), V.ptr 2 0],
 [KO.cells [V.ch 3, V.ch 4, V.ch 5], KO.row 41 4 (List.map itD i.val.snd), KO.cells [V.int IntKind.i64 n, V.int IntKind.i64 n_1, V.int IntKind.i64 n_2, V.int IntKind.i64 n_3, V.dat (D.sl 1 l_1)],
 KO.ch true 3 r.toNat (List.map ltD (nxt a b c).snd.snd.snd.fst), KO.ch true 3 r.toNat (List.map ltD (nxt a b c).snd.snd.snd.snd.fst), KO.ch true 3 r.toNat (List.map ltD (nxt a b c).snd.snd.snd.snd.snd)])))))) ∧
 ((nxt a b c).snd.snd.fst = false →
 ((!(nxt a b c).snd.snd.fst) = true →
 (((nxt a b c).snd.fst != 0) = true → False) ∧
 (((nxt a b c).snd.fst != 0) = false →
 ∃ (a_5 : List Int),
 ∃ (b_1 : List Int),
 ints IntKind.u8 (nxt a b c).fst.b = ints IntKind.u8 a_5 ∧
 [] = ints IntKind.u8 b_1 ∧
 a_5.length.le 1000000 ∧
 ((!decide ((nxt a b c).fst.f = 0 ∧ (nxt a b c).fst.t = 0 ∧ a_5 = b_1)) = true → False) ∧
 ((!decide ((nxt a b c).fst.f = 0 ∧ (nxt a b c).fst.t = 0 ∧ a_5 = b_1)) = false →
 ((nxt a b c).snd.snd.fst = true →
 i.val.snd.length ≤ (List.map itD i.val.snd).length ∧
 ∃ (x_1 : List It),
 ∃ (i_1 : Nat),
 List.drop 0 (List.take i.val.snd.length (List.map itD i.val.snd)) = List.map itD x_1 ∧
 besI x x.length = (↑i_1 : Int) ∧
 i_1 < x_1.length ∧
 x_1.length ≤ 100000 ∧
 At (plC r l i.val.fst)
 ([V.int IntKind.i64 r, V.dat (D.sl 5 (List.map acD l)), V.ptr 0 0, V.sl 1 0 (x_1.length - 1), V.int IntKind.i64 (↑i.val.fst : Int), V.ptr 2 0],
 [KO.cells [V.ch 3, V.ch 4, V.ch 5], KO.row 41 4 (List.map itD (x_1.eraseIdx i_1)), KO.cells [V.int IntKind.i64 n, V.int IntKind.i64 n_1, V.int IntKind.i64 n_2, V.int IntKind.i64 n_3, V.dat (D.sl 1 l_1)],
 KO.ch true 3 r.toNat (List.map ltD (nxt a b c).snd.snd.snd.fst), KO.ch true 3 r.toNat (List.map ltD (nxt a b c).snd.snd.snd.snd.fst), KO.ch true 3 r.toNat (List.map ltD (nxt a b c).snd.snd.snd.snd.snd)])) ∧
 ((nxt a b c).snd.snd.fst = false →
 At (plC r l i.val.fst)
 ([V.int IntKind.i64 r, V.dat (D.sl 5 (List.map acD l)), V.ptr 0 0, V.sl 1 0 i.val.snd.length, V.int IntKind.i64 (↑i.val.fst : Int), V.ptr 2 0],
 [KO.cells [V.ch 3, V.ch 4, V.ch 5], KO.row 41 4 (List.map itD i.val.snd), KO.cells [V.int IntKind.i64 n, V.int IntKind.i64 n_1, V.int IntKind.i64 n_2, V.int IntKind.i64 n_3, V.dat (D.sl 1 l_1)], KO.ch true 3 r.toNat (List.map ltD (nxt a b c).snd.snd.snd.fst),
 KO.ch true 3 r.toNat (List.map ltD (nxt a b c).snd.snd.snd.snd.fst), KO.ch true 3 r.toNat (List.map ltD (nxt a b c).snd.snd.snd.snd.snd)]))))) ∧
 ((!(nxt a b c).snd.snd.fst) = false →
 ((nxt a b c).snd.snd.fst = true →
 i.val.snd.length ≤ (List.map itD i.val.snd).length ∧
 ∃ (x_1 : List It),
 ∃ (i_1 : Nat),
 List.drop 0 (List.take i.val.snd.length (List.map itD i.val.snd)) = List.map itD x_1 ∧
 besI x x.length = (↑i_1 : Int) ∧
 i_1 < x_1.length ∧
 x_1.length ≤ 100000 ∧
 At (plC r l i.val.fst)
 ([V.int IntKind.i64 r, V.dat (D.sl 5 (List.map acD l)), V.ptr 0 0, V.sl 1 0 (x_1.length - 1), V.int IntKind.i64 (↑i.val.fst : Int), V.ptr 2 0],
 [KO.cells [V.ch 3, V.ch 4, V.ch 5], KO.row 41 4 (List.map itD (x_1.eraseIdx i_1)), KO.cells [V.int IntKind.i64 n, V.int IntKind.i64 n_1, V.int IntKind.i64 n_2, V.int IntKind.i64 n_3, V.dat (D.sl 1 l_1)], KO.ch true 3 r.toNat (List.map ltD (nxt a b c).snd.snd.snd.fst),
 KO.ch true 3 r.toNat (List.map ltD (nxt a b c).snd.snd.snd.snd.fst), KO.ch true 3 r.toNat (List.map ltD (nxt a b c).snd.snd.snd.snd.snd)])) ∧
 ((nxt a b c).snd.snd.fst = false →
 At (plC r l i.val.fst)
 ([V.int IntKind.i64 r, V.dat (D.sl 5 (List.map acD l)), V.ptr 0 0, V.sl 1 0 i.val.snd.length, V.int IntKind.i64 (↑i.val.fst : Int), V.ptr 2 0],
 [KO.cells [V.ch 3, V.ch 4, V.ch 5], KO.row 41 4 (List.map itD i.val.snd), KO.cells [V.int IntKind.i64 n, V.int IntKind.i64 n_1, V.int IntKind.i64 n_2, V.int IntKind.i64 n_3, V.dat (D.sl 1 l_1)], KO.ch true 3 r.toNat (List.map ltD (nxt a b c).snd.snd.snd.fst),
 KO.ch true 3 r.toNat (List.map ltD (nxt a b c).snd.snd.snd.snd.fst), KO.ch true 3 r.toNat (List.map ltD (nxt a b c).snd.snd.snd.snd.snd)])))))) ∧
 ((n == 1) = false →
 ((n == 2) = true →
 ∃ (a : List Lt),
 ∃ (b : List Lt),
 ∃ (c : List Lt),
 List.map ltD (fl 0 i.val.snd) = List.map ltD a ∧
 List.map ltD (fl 1 i.val.snd) = List.map ltD b ∧
 List.map ltD (fl 2 i.val.snd) = List.map ltD c ∧
 a.length + b.length + c.length ≤ 100000 ∧
 (((↑(a.length + b.length + c.length) : Int) != (↑(i.val.snd.length - 0) : Int)) = true → False) ∧
 (((↑(a.length + b.length + c.length) : Int) != (↑(i.val.snd.length - 0) : Int)) = false →
 At (plC r l i.val.fst)
 ([V.int IntKind.i64 r, V.dat (D.sl 5 (List.map acD l)), V.ptr 0 0, V.sl 1 0 0, V.int IntKind.i64 (↑i.val.fst : Int), V.ptr 2 0],
 [KO.cells [V.ch 3, V.ch 4, V.ch 5], KO.row 41 4 [], KO.cells [V.int IntKind.i64 n, V.int IntKind.i64 n_1, V.int IntKind.i64 n_2, V.int IntKind.i64 n_3, V.dat (D.sl 1 l_1)], KO.ch true 3 r.toNat [], KO.ch true 3 r.toNat [], KO.ch true 3 r.toNat []]))) ∧
 ((n == 2) = false →
 At (plC r l i.val.fst)
 ([V.int IntKind.i64 r, V.dat (D.sl 5 (List.map acD l)), V.ptr 0 0, V.sl 1 0 i.val.snd.length, V.int IntKind.i64 (↑i.val.fst : Int), V.ptr 2 0],
 [KO.cells [V.ch 3, V.ch 4, V.ch 5], KO.row 41 4 (List.map itD i.val.snd), KO.cells [V.int IntKind.i64 n, V.int IntKind.i64 n_1, V.int IntKind.i64 n_2, V.int IntKind.i64 n_3, V.dat (D.sl 1 l_1)], KO.ch true 3 r.toNat (List.map ltD (fl 0 i.val.snd)), KO.ch true 3 r.toNat (List.map ltD (fl 1 i.val.snd)),
 KO.ch true 3 r.toNat (List.map ltD (fl 2 i.val.snd))]))))) ∧
 ∀ (i_1 : { x : List It // PlC l i.val.fst x }),
 EqI (gA l i.val.fst).c (gA l i.val.fst).c ∧
 (i_1.val.length ≤ (List.map itD i_1.val).length ∧ True) ∧
 ∃ (x : List It),
 List.drop 0 (List.take i_1.val.length (List.map itD i_1.val)) = List.map itD x ∧
 x.length ≤ 100000 ∧
 True ∧
 (((if (gA l i.val.fst).c = 0 then (↑(List.map ltD (fl 0 i_1.val)).length : Int) else if (gA l i.val.fst).c = 1 then (↑(List.map ltD (fl 1 i_1.val)).length : Int) else if (gA l i.val.fst).c = 2 then (↑(List.map ltD (fl 2 i_1.val)).length : Int) else 0) != (↑(cntI x (gA l i.val.fst).c) : Int)) = true → False) ∧
 (((if (gA l i.val.fst).c = 0 then (↑(List.map ltD (fl 0 i_1.val)).length : Int) else if (gA l i.val.fst).c = 1 then (↑(List.map ltD (fl 1 i_1.val)).length : Int) else if (gA l i.val.fst).c = 2 then (↑(List.map ltD (fl 2 i_1.val)).length : Int) else 0) != (↑(cntI x (gA l i.val.fst).c) : Int)) = false →
 Nx (plLI r l) i
 ([V.int IntKind.i64 r, V.dat (D.sl 5 (List.map acD l)), V.ptr 0 0, V.sl 1 0 i_1.val.length, V.int IntKind.i64 (IntKind.i64.wrap ((↑i.val.fst : Int) + 1))],
 [KO.cells [V.ch 2, V.ch 3, V.ch 4], KO.row 41 4 (List.map itD i_1.val), KO.ch true 3 r.toNat (List.map ltD (fl 0 i_1.val)), KO.ch true 3 r.toNat (List.map ltD (fl 1 i_1.val)), KO.ch true 3 r.toNat (List.map ltD (fl 2 i_1.val))])))) ∧
 (decide ((↑i.val.fst : Int) < (↑(List.map acD l).length : Int)) = false → true = true)))))
 ) : XL [] 0 r l 5 [.int .i64 r, .dat (.sl 5 (l.map acD))] [] KT := by apply Eq.mp (a := hvc_); kernel_rfl
theorem awS_ok : AllOk Try.prog awS := fun f k h => by
  unfold awS at h
  split at h <;> first | (cases h; first | exact okNew | exact nilIn_ok okPost _ | exact okNext | exact okLen | exact okDrain | exact okCount | exact okFirst | exact okOut | exact nilIn_ok okSameLt _) | cases h
theorem XAw_ok : CallOk Try.prog XAw := callS_ok mixed awS_ok noT 10
theorem okAwake : SpecOk Try.prog 6 Sawake := specOk_of' XAw_ok mixed (fun args kb K h => by
  unfold Sawake at h; split at h <;> try exact h.elim
  refine ⟨noT _, vcAwake K ⟨fun q => (q ⟨by omega, by omega⟩).elim, fun _ => ⟨[], 1, [], [], [], rfl, by simp, rfl, rfl, rfl, rfl, rfl, rfl, fun q => (by simp [psB] at q), fun _ => ⟨[], 1, [], [], [⟨0, 2, []⟩], rfl, by simp, rfl, rfl, rfl, rfl, rfl, rfl, fun q => (by simp [psB] at q), fun _ => ⟨[], 1, [⟨0, 5, []⟩], [], [⟨0, 2, []⟩], rfl, by simp, rfl, rfl, rfl, rfl, rfl, rfl, fun q => (by simp [psB] at q), fun _ => ⟨[⟨0, 5, []⟩], [], [⟨0, 2, []⟩], rfl, rfl, rfl, fun _ => ⟨fun _ => ⟨fun _ => ?_, fun q => (by simp [nxt] at q)⟩, fun q => (by simp [nxt] at q)⟩, fun q => (by simp [nxt] at q)⟩⟩⟩⟩⟩⟩
  exact h)
theorem lawS_ok : AllOk Try.prog lawS := fun f k h => by
  unfold lawS at h
  split at h
  · cases h; exact okAwake
  · exact awS_ok _ _ h
theorem XL_ok (l : List Int) (c r : Int) (acts : List At5) : CallOk Try.prog (XL l c r acts) := callS_ok mixed lawS_ok _ 10
theorem gI_get {l : List Int} {i : Nat} (h : i < l.length) : l[i]? = some (gI l i) := by
  unfold gI; rw [List.getD_eq_getElem?_getD, List.getElem?_eq_getElem h]; rfl
theorem gI_mem {l : List Int} {i : Nat} (h : i < l.length) : gI l i ∈ l := List.mem_of_getElem? (gI_get h)
theorem clL_zero {l : List Int} {k : Int} : clL l 0 k = [] := rfl
theorem clL_succ {l : List Int} {i : Nat} {k : Int} : clL l (i + 1) k = if gI l i % 3 = k then clL l i k ++ [⟨(i : Int), 0, []⟩] else clL l i k := by
  unfold clL
  rw [List.range_succ, List.filter_append, List.map_append]
  by_cases h : gI l i % 3 = k
  · rw [if_pos h]; simp [List.filter_cons, h]
  · rw [if_neg h]; simp [List.filter_cons, h]
theorem clL_len (l : List Int) : ∀ i, (∀ j, j < i → 0 ≤ gI l j) → (clL l i 0).length + (clL l i 1).length + (clL l i 2).length = i
  | 0, _ => rfl
  | i + 1, h => by
    have ih := clL_len l i (fun j hj => h j (by omega))
    have h1 := h i (by omega)
    rw [clL_succ, clL_succ, clL_succ]
    have : gI l i % 3 = 0 ∨ gI l i % 3 = 1 ∨ gI l i % 3 = 2 := by omega
    rcases this with e | e | e <;> simp only [e] <;> simp <;> omega
theorem clL_ok (l : List Int) (k : Int) : ∀ i, i ≤ l.length → OkC l k (clL l i k) ∧ ∀ x ∈ clL l i k, x.f < i
  | 0, _ => ⟨⟨fun x hx => (by cases hx), List.Pairwise.nil⟩, fun x hx => (by cases hx)⟩
  | i + 1, h => by
    obtain ⟨⟨ih1, ih2⟩, ih3⟩ := clL_ok l k i (by omega)
    rw [clL_succ]
    split
    · rename_i e
      refine ⟨⟨fun x hx => ?_, ?_⟩, fun x hx => ?_⟩
      · rcases List.mem_append.1 hx with q | q
        · exact ih1 x q
        · simp at q; subst q; exact ⟨by simp only; omega, by simp only; omega, by simpa using e⟩
      · refine List.pairwise_append.2 ⟨ih2, List.pairwise_singleton _ _, fun x hx y hy => ?_⟩
        simp at hy; subst hy; exact ih3 x hx
      · rcases List.mem_append.1 hx with q | q
        · have := ih3 x q; omega
        · simp at q; subst q; simp only; omega
    · exact ⟨⟨ih1, ih2⟩, fun x hx => by have := ih3 x hx; omega⟩
theorem OkC.tl {l : List Int} {k : Int} {x : Lt} {xs : List Lt} (h : OkC l k (x :: xs)) : OkC l k xs ∧ ∀ y ∈ xs, x.f < y.f :=
  ⟨⟨fun y hy => h.rg y (List.mem_cons_of_mem _ hy), (List.pairwise_cons.1 h.up).2⟩, (List.pairwise_cons.1 h.up).1⟩
theorem psB_cl {l : List Int} {i : Nat} {n : Int} (h0 : 0 ≤ n) (h : (clL l i 0).length + (clL l i 1).length + (clL l i 2).length = i) (hi : i < 100) : psB (n.tmod 3) 100 (clL l i 0) (clL l i 1) (clL l i 2) = true := by
  rw [Int.tmod_eq_emod_of_nonneg h0]
  exact decide_eq_true (by omega)
theorem lawOrder (l : List Int) (hb : ∀ n ∈ l, 0 ≤ n ∧ n ≤ 255) : XL l 0 0 [] 3 [.dat (.sl 1 (ints .u8 l))] [] KT := by
  refine vcOrder l ⟨fun _ => rfl, fun h0 => ⟨fun q => q ⟨by omega, by omega⟩, fun _ => ⟨At.mk' (⟨0, Nat.zero_le _⟩ : {i : Nat // i ≤ l.length}) rfl, ?_⟩⟩⟩
  simp only [ints_len, decide_eq_false_iff_not] at h0
  rintro ⟨i, hi⟩
  simp only [ints_len, decide_eq_true_eq, decide_eq_false_iff_not]
  have hnn : ∀ j, j < l.length → 0 ≤ gI l j ∧ gI l j ≤ 255 := fun j hj => hb _ (gI_mem hj)
  have hlen := clL_len l i (fun j hj => (hnn j (by omega)).1)
  refine ⟨fun h1 => ⟨by unfold NonN; omega, _, by rw [Int.toNat_natCast, ints_get, gI_get (by omega)]; rfl, _, rfl, [], 100, _, _, _, rfl, by simp, rfl, rfl, rfl, rfl, rfl, rfl, fun q => ?_, fun q => ?_⟩, fun h1 => ⟨?_, ?_⟩⟩
  · have := hnn i (by omega)
    rw [w64 (by omega) (by omega), psB_cl this.1 hlen (by omega)] at q
    cases q
  · have := hnn i (by omega)
    have e3 : (gI l i).tmod 3 = gI l i % 3 := Int.tmod_eq_emod_of_nonneg this.1
    have ps : ∀ k : Int, psL k ((gI l i).tmod 3) 100 (clL l i k) ⟨(i : Int), 0, []⟩ = clL l (i + 1) k ∨ ¬ (clL l i k).length < 100 := fun k => by
      by_cases hk : (clL l i k).length < 100
      · left
        rw [clL_succ]
        unfold psL
        rw [e3]
        by_cases e : gI l i % 3 = k
        · rw [if_pos ⟨e, hk⟩, if_pos e]
        · rw [if_neg (fun q => e q.1), if_neg e]
      · exact .inr hk
    rw [w64 (n := gI l i) (by omega) (by omega), (ps 0).resolve_right (by omega), (ps 1).resolve_right (by omega), (ps 2).resolve_right (by omega), w64 (by omega) (by omega), show (i : Int) + 1 = ((i + 1 : Nat) : Int) by omega]
    exact Nx.mk' (⟨i + 1, by omega⟩ : {i : Nat // i ≤ l.length}) rfl (by simp only; omega)
  · have e : i = l.length := by omega
    subst e
    have o0 := clL_ok l 0 l.length (Nat.le_refl _)
    have o1 := clL_ok l 1 l.length (Nat.le_refl _)
    have o2 := clL_ok l 2 l.length (Nat.le_refl _)
    exact At.mk' (⟨⟨0, 0, -1, clL l l.length 0, clL l l.length 1, clL l l.length 2⟩, ⟨by simp only; omega, .inl rfl, o0.1, o1.1, o2.1, fun x hx _ => by have := (o0.1.rg x hx).1; simp only; omega, fun x hx q => (by cases q), fun x hx q => (by cases q)⟩⟩ : {p : OrP // OrI l p}) rfl
  · rintro ⟨⟨i, cl, la, a, b, c⟩, hI⟩
    obtain ⟨hle, hcl, oa, ob, oc, hla, hlb, hlc⟩ := hI
    simp only at hle hcl oa ob oc hla hlb hlc
    simp only [ints_len, decide_eq_true_eq, decide_eq_false_iff_not]
    refine ⟨fun h2 => ⟨a, b, c, rfl, rfl, rfl, ?_⟩, fun h2 => ⟨a, b, c, rfl, rfl, rfl, fun _ => trivial, fun q => ?_⟩⟩
    · have w1 : IntKind.i64.wrap ((i : Int) + 1) = ((i + 1 : Nat) : Int) := by rw [w64 (by omega) (by omega)]; omega
      rw [w1]
      have one : ∀ (k : Int) (x : Lt) (a' b' c' : List Lt), nxt a b c = (x, k, true, a', b', c') → (0 ≤ x.f ∧ x.f < l.length ∧ gI l x.f.toNat % 3 = k) → cl ≤ k → (cl = k → la < x.f) → OrI l ⟨i + 1, k, x.f, a', b', c'⟩ →
          ((!(nxt a b c).2.2.1) = true → False) ∧ ((!(nxt a b c).2.2.1) = false → ((nxt a b c).2.1 < cl → False) ∧ (¬ (nxt a b c).2.1 < cl → ((nxt a b c).1.f < 0 → False) ∧ (¬ (nxt a b c).1.f < 0 → ((nxt a b c).1.f ≥ (l.length : Int) → False) ∧ (¬ (nxt a b c).1.f ≥ (l.length : Int) → NonN (nxt a b c).1.f ∧ ∃ e, (ints IntKind.u8 l)[(nxt a b c).1.f.toNat]? = some e ∧ ∃ n, e[0]? = some (D.val (Value.int IntKind.u8 n)) ∧
            (((IntKind.i64.wrap n).tmod 3 != (nxt a b c).2.1) = true → False) ∧ (((IntKind.i64.wrap n).tmod 3 != (nxt a b c).2.1) = false → (((nxt a b c).2.1 == cl) = true → ((nxt a b c).1.f ≤ la → False) ∧ (¬ (nxt a b c).1.f ≤ la → Nx (or2 l) ⟨⟨i, cl, la, a, b, c⟩, ⟨hle, hcl, oa, ob, oc, hla, hlb, hlc⟩⟩ ([V.dat (D.sl 1 (ints IntKind.u8 l)), V.ptr 0 0, V.int IntKind.i64 (nxt a b c).2.1, V.int IntKind.i64 (nxt a b c).1.f, V.int IntKind.i64 ((i + 1 : Nat) : Int)], [KO.cells [V.ch 1, V.ch 2, V.ch 3], KO.ch true 3 100 (List.map ltD (nxt a b c).2.2.2.1), KO.ch true 3 100 (List.map ltD (nxt a b c).2.2.2.2.1), KO.ch true 3 100 (List.map ltD (nxt a b c).2.2.2.2.2)]))) ∧
            (((nxt a b c).2.1 == cl) = false → Nx (or2 l) ⟨⟨i, cl, la, a, b, c⟩, ⟨hle, hcl, oa, ob, oc, hla, hlb, hlc⟩⟩ ([V.dat (D.sl 1 (ints IntKind.u8 l)), V.ptr 0 0, V.int IntKind.i64 (nxt a b c).2.1, V.int IntKind.i64 (nxt a b c).1.f, V.int IntKind.i64 ((i + 1 : Nat) : Int)], [KO.cells [V.ch 1, V.ch 2, V.ch 3], KO.ch true 3 100 (List.map ltD (nxt a b c).2.2.2.1), KO.ch true 3 100 (List.map ltD (nxt a b c).2.2.2.2.1), KO.ch true 3 100 (List.map ltD (nxt a b c).2.2.2.2.2)]))))))) := by
        intro k x a' b' c' hn hx hk hlt hO
        rw [hn]
        have nx : Nx (or2 l) ⟨⟨i, cl, la, a, b, c⟩, ⟨hle, hcl, oa, ob, oc, hla, hlb, hlc⟩⟩ ([V.dat (D.sl 1 (ints IntKind.u8 l)), V.ptr 0 0, V.int IntKind.i64 k, V.int IntKind.i64 x.f, V.int IntKind.i64 ((i + 1 : Nat) : Int)], [KO.cells [V.ch 1, V.ch 2, V.ch 3], KO.ch true 3 100 (List.map ltD a'), KO.ch true 3 100 (List.map ltD b'), KO.ch true 3 100 (List.map ltD c')]) :=
          Nx.mk' (⟨⟨i + 1, k, x.f, a', b', c'⟩, hO⟩ : {p : OrP // OrI l p}) rfl (by simp only; omega)
        have hj : x.f.toNat < l.length := by omega
        have hg := hnn _ hj
        refine ⟨fun q => (by cases q), fun _ => ⟨fun q => by simp only at q; omega, fun _ => ⟨fun q => by simp only at q; omega, fun _ => ⟨fun q => by simp only at q; omega, fun _ => ⟨by unfold NonN; exact hx.1, _, by rw [ints_get, gI_get hj]; rfl, _, rfl, fun q => ?_, fun _ => ⟨fun q => ⟨fun q2 => ?_, fun _ => nx⟩, fun _ => nx⟩⟩⟩⟩⟩⟩
        · rw [w64 (by omega) (by omega), Int.tmod_eq_emod_of_nonneg hg.1, hx.2.2] at q
          simp at q
        · simp only [beq_iff_eq] at q
          have := hlt q.symm
          simp only at q2; omega
      cases a with
      | cons x a =>
        obtain ⟨t1, t2⟩ := oa.tl
        have hc0 : cl = 0 := by rcases hcl with q | q | q <;> first | exact q | (have := q.2; simp at this)
        exact one 0 x a b c rfl (oa.rg x (by simp)) (by omega) (fun _ => hla x (by simp) hc0) ⟨by simp only [List.length_cons] at hle ⊢; omega, .inl rfl, t1, ob, oc, fun y hy _ => t2 y hy, fun y hy q => (by cases q), fun y hy q => (by cases q)⟩
      | nil => cases b with
        | cons x b =>
          obtain ⟨t1, t2⟩ := ob.tl
          have hc0 : cl = 0 ∨ cl = 1 := by rcases hcl with q | q | q <;> first | exact .inl q | exact .inr q.1 | (have := q.2.2; simp at this)
          exact one 1 x [] b c rfl (ob.rg x (by simp)) (by omega) (fun q => hlb x (by simp) q) ⟨by simp only [List.length_cons, List.length_nil] at hle ⊢; omega, .inr (.inl ⟨rfl, rfl⟩), oa, t1, oc, fun y hy _ => (by cases hy), fun y hy q => t2 y hy, fun y hy q => (by cases q)⟩
        | nil => cases c with
          | cons x c =>
            obtain ⟨t1, t2⟩ := oc.tl
            exact one 2 x [] [] c rfl (oc.rg x (by simp)) (by omega) (fun q => hlc x (by simp) q) ⟨by simp only [List.length_cons, List.length_nil] at hle ⊢; omega, .inr (.inr ⟨rfl, rfl, rfl⟩), oa, ob, t1, fun y hy _ => (by cases hy), fun y hy q => (by cases hy), fun y hy q => t2 y hy⟩
          | nil => simp only [List.length_nil] at hle; omega
    · have : a = [] ∧ b = [] ∧ c = [] := ⟨List.length_eq_zero_iff.1 (by omega), List.length_eq_zero_iff.1 (by omega), List.length_eq_zero_iff.1 (by omega)⟩
      obtain ⟨rfl, rfl, rfl⟩ := this
      cases q
theorem ow_nxt {c : Int} {b : List Int} {i : Nat} {p : List Lt × List Lt × List Lt} (h : OwI c b i p) (hi : i < 2) : (nxt p.1 p.2.1 p.2.2).2.2.1 = true ∧ OwI c b (i + 1) ((nxt p.1 p.2.1 p.2.2).2.2.2.1, (nxt p.1 p.2.1 p.2.2).2.2.2.2.1, (nxt p.1 p.2.1 p.2.2).2.2.2.2.2) ∧
    ((nxt p.1 p.2.1 p.2.2).2.1 = c → (nxt p.1 p.2.1 p.2.2).1 = ⟨1, 2, b⟩) ∧ ((nxt p.1 p.2.1 p.2.2).2.1 ≠ c → (nxt p.1 p.2.1 p.2.2).1.f = 9) := by
  obtain ⟨p0, p1, p2⟩ := p
  obtain ⟨hs, h0, h1, h2⟩ := h
  simp only at hs h0 h1 h2
  cases p0 with
  | cons x p0 =>
    refine ⟨rfl, ⟨?_, fun y hy => h0 y (List.mem_cons_of_mem _ hy), h1, h2⟩, fun q => (h0 x (by simp)).1 q.symm, fun q => (h0 x (by simp)).2 (fun e => q e.symm)⟩
    simp only [nxt, List.length_cons] at hs ⊢; omega
  | nil => cases p1 with
    | cons x p1 =>
      refine ⟨rfl, ⟨?_, h0, fun y hy => h1 y (List.mem_cons_of_mem _ hy), h2⟩, fun q => (h1 x (by simp)).1 q.symm, fun q => (h1 x (by simp)).2 (fun e => q e.symm)⟩
      simp only [nxt, List.length_cons, List.length_nil] at hs ⊢; omega
    | nil => cases p2 with
      | cons x p2 =>
        refine ⟨rfl, ⟨?_, h0, h1, fun y hy => h2 y (List.mem_cons_of_mem _ hy)⟩, fun q => (h2 x (by simp)).1 q.symm, fun q => (h2 x (by simp)).2 (fun e => q e.symm)⟩
        simp only [nxt, List.length_cons, List.length_nil] at hs ⊢; omega
      | nil => simp only [List.length_nil] at hs; omega
theorem lawOwn (b : List Int) (c : Int) (h0 : 0 ≤ c) (h1 : c ≤ 255) : XL b c 0 [] 4 [.dat (.sl 1 (ints .u8 b)), .int .u8 c] [] KT := by
  refine vcOwn b c ⟨fun _ => rfl, fun hb => ⟨fun q => q ⟨by omega, by omega⟩, fun _ => ⟨trivial, Nat.le_refl _, ?_, ?_, ?_⟩⟩⟩
  · simp only [ints_len, decide_eq_false_iff_not] at hb ⊢; omega
  · simp only [ints_len, decide_eq_false_iff_not] at hb
    have hc : c.tmod 3 = 0 ∨ c.tmod 3 = 1 ∨ c.tmod 3 = 2 := by rw [Int.tmod_eq_emod_of_nonneg h0]; omega
    have e1 : IntKind.i64.wrap c = c := w64 (by omega) (by omega)
    have e2 : IntKind.i64.wrap (c.tmod 3 + 1) = c.tmod 3 + 1 := w64 (by omega) (by omega)
    have fin : ∀ p : List Lt × List Lt × List Lt, OwI (c.tmod 3) b 0 p → At (owC b c) ([V.dat (D.sl 1 (ints IntKind.u8 b)), V.ptr 0 0, V.int IntKind.i64 (c.tmod 3), V.sl 1 0 (0 + (ints IntKind.u8 b).length)], [KO.cells [V.ch 2, V.ch 3, V.ch 4], KO.row 5 1 (ints IntKind.u8 b), KO.ch true 3 1 (List.map ltD p.1), KO.ch true 3 1 (List.map ltD p.2.1), KO.ch true 3 1 (List.map ltD p.2.2)]) := fun p hp =>
      At.mk' (⟨p, hp⟩ : {p : List Lt × List Lt × List Lt // OwI (c.tmod 3) b 0 p}) (by rw [Nat.zero_add, ints_len])
    refine ⟨b, 1, [], [], [], by simp, by rw [ints_len, Nat.zero_add], by omega, rfl, rfl, rfl, rfl, rfl, rfl, ?_⟩
    rw [e1]
    rcases hc with e | e | e
    · rw [e] at fin e2 ⊢
      refine ⟨fun q => (by simp [psB] at q), fun _ => ⟨[], 1, [⟨1, 2, b⟩], [], [], rfl, by simp, rfl, rfl, rfl, rfl, rfl, rfl, fun q => (by simp [psB] at q), fun _ => ⟨[], 1, [⟨1, 2, b⟩], [], [], rfl, by simp, rfl, rfl, rfl, rfl, rfl, rfl, ?_⟩⟩⟩
      rw [e2]
      rw [show ((0 : Int) + 1).tmod 3 = 1 from rfl]
      refine ⟨fun q => (by simp [psB] at q), fun _ => fin ([⟨1, 2, b⟩], [⟨9, 0, []⟩], []) ⟨rfl, ?_, ?_, ?_⟩⟩ <;> simp
    · rw [e] at fin e2 ⊢
      refine ⟨fun q => (by simp [psB] at q), fun _ => ⟨[], 1, [], [⟨1, 2, b⟩], [], rfl, by simp, rfl, rfl, rfl, rfl, rfl, rfl, fun q => (by simp [psB] at q), fun _ => ⟨[], 1, [], [⟨1, 2, b⟩], [], rfl, by simp, rfl, rfl, rfl, rfl, rfl, rfl, ?_⟩⟩⟩
      rw [e2]
      rw [show ((1 : Int) + 1).tmod 3 = 2 from rfl]
      refine ⟨fun q => (by simp [psB] at q), fun _ => fin ([], [⟨1, 2, b⟩], [⟨9, 0, []⟩]) ⟨rfl, ?_, ?_, ?_⟩⟩ <;> simp
    · rw [e] at fin e2 ⊢
      refine ⟨fun q => (by simp [psB] at q), fun _ => ⟨[], 1, [], [], [⟨1, 2, b⟩], rfl, by simp, rfl, rfl, rfl, rfl, rfl, rfl, fun q => (by simp [psB] at q), fun _ => ⟨[], 1, [], [], [⟨1, 2, b⟩], rfl, by simp, rfl, rfl, rfl, rfl, rfl, rfl, ?_⟩⟩⟩
      rw [e2]
      rw [show ((2 : Int) + 1).tmod 3 = 0 from rfl]
      refine ⟨fun q => (by simp [psB] at q), fun _ => fin ([⟨9, 0, []⟩], [], [⟨1, 2, b⟩]) ⟨rfl, ?_, ?_, ?_⟩⟩ <;> simp
  · simp only [ints_len, decide_eq_false_iff_not] at hb
    rintro ⟨p, hp⟩
    refine ⟨At.mk' (⟨(0, b, p), Nat.zero_le _, rfl, hp⟩ : {p : Nat × List Int × List Lt × List Lt × List Lt // p.1 ≤ b.length ∧ p.2.1.length = b.length ∧ OwI (c.tmod 3) b 0 p.2.2}) rfl, ?_⟩
    rintro ⟨⟨i, m, p⟩, hi, hm, hp⟩
    simp only at hi hm hp
    simp only [ints_len, decide_eq_true_eq, decide_eq_false_iff_not, Nat.sub_zero, Nat.zero_add, Int.toNat_natCast]
    refine ⟨fun h2 => ⟨⟨by omega, by omega⟩, _, by rw [ints_get, gI_get (l := m) (by omega)]; rfl, _, rfl, ⟨by omega, by omega⟩, by omega, ?_⟩, fun h2 => ⟨At.mk' (⟨(0, p), hp⟩ : {p : Nat × List Lt × List Lt × List Lt // OwI (c.tmod 3) b p.1 p.2}) rfl, ?_⟩⟩
    · rw [w64 (by omega) (by omega), ints_set, show (i : Int) + 1 = ((i + 1 : Nat) : Int) by omega]
      exact Nx.mk' (⟨(i + 1, m.set i (IntKind.u8.wrap (gI m i + 1)), p), by simp only; omega, by simp only [List.length_set]; exact hm, hp⟩ : {p : Nat × List Int × List Lt × List Lt × List Lt // p.1 ≤ b.length ∧ p.2.1.length = b.length ∧ OwI (c.tmod 3) b 0 p.2.2}) rfl (by simp only; omega)
    · rintro ⟨⟨k, p⟩, hp⟩
      simp only at hp
      have hsum := hp.sum
      simp only [List.length_map]
      refine ⟨fun h3 => ⟨p.1, p.2.1, p.2.2, rfl, rfl, rfl, ?_⟩, fun h3 => ⟨fun _ => ⟨fun _ => trivial, fun q => ?_⟩, fun q => ?_⟩⟩
      · obtain ⟨n1, n2, n3, n4⟩ := ow_nxt hp (by omega)
        rw [w64 (by omega) (by omega), show (k : Int) + 1 = ((k + 1 : Nat) : Int) by omega]
        have nx : Nx (ow2 b c) ⟨(k, p), hp⟩ ([V.dat (D.sl 1 (ints IntKind.u8 b)), V.ptr 0 0, V.int IntKind.i64 (c.tmod 3), V.int IntKind.i64 ((k + 1 : Nat) : Int)], [KO.cells [V.ch 1, V.ch 2, V.ch 3], KO.ch true 3 1 (List.map ltD (nxt p.1 p.2.1 p.2.2).2.2.2.1), KO.ch true 3 1 (List.map ltD (nxt p.1 p.2.1 p.2.2).2.2.2.2.1), KO.ch true 3 1 (List.map ltD (nxt p.1 p.2.1 p.2.2).2.2.2.2.2)]) :=
          Nx.mk' (⟨(k + 1, _), n2⟩ : {p : Nat × List Lt × List Lt × List Lt // OwI (c.tmod 3) b p.1 p.2}) rfl (by simp only; omega)
        refine ⟨fun q => (by rw [n1] at q; cases q), fun _ => ⟨fun q => ?_, fun q => ⟨fun _ => ⟨fun q2 => ?_, fun _ => nx⟩, fun _ => nx⟩⟩⟩
        · simp only [beq_iff_eq] at q
          have e := n3 q
          refine ⟨(nxt p.1 p.2.1 p.2.2).1.b, b, rfl, rfl, ?_, fun q2 => ?_, fun _ => ⟨fun q2 => ?_, fun _ => nx⟩⟩
          · rw [e]; exact Nat.le_eq ▸ (show b.length ≤ 1000000 by omega)
          · rw [e] at q2; simp at q2
          · simp [q] at q2
        · simp only [beq_eq_false_iff_ne, ne_eq] at q
          rw [n4 q] at q2; simp at q2
      · simp at q
      · have e0 : p.1.length = 0 := by omega
        have e1 : p.2.1.length = 0 := by omega
        have e2 : p.2.2.length = 0 := by omega
        rw [e0, e1, e2] at q
        revert q; decide
end Go.Proofs.Ytnlhpjfdnimpjaa
