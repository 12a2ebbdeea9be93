import Derived.Test.YtkodjbegpheomaaVk
import Derived.KernelRfl
namespace Go.Proofs.Ytkodjbegpheomaa
open Vc Go
set_option linter.unusedVariables false
set_option linter.unusedSimpArgs false
set_option maxRecDepth 100000
/-! The vault's acts. -/
structure VSt where
  gen : Nat
  l : List P2
  u : Nat
  m : Nat
abbrev VIs (N : Nat) (s : VSt) (x : List (List Int)) : Prop := VI N s.gen s.l s.u s.m x
def keepF (N : Nat) (s : VSt) (c : Chg) : Int × VSt :=
  if s.u + szc s.gen s.m c ≤ N - 2 * (N / 4) then (0, ⟨s.gen, chgL s.l c, s.u + szc s.gen s.m c, s.m + 1⟩)
  else if catN ((s.gen + 1 : Nat) : Int) 0 (recW (chgL s.l c)) ≤ N / 4 then (0, ⟨s.gen + 1, chgL s.l c, 0, 0⟩) else (6, s)
def putF (N : Nat) (s : VSt) (key : Int) (b : List Int) : Int × VSt :=
  if ¬ NumJ key then (5, s) else if 900 < b.length then (15, s) else keepF N s (key, some b)
def dropF (N : Nat) (s : VSt) (key : Int) : Int × VSt :=
  if getP s.l key = none then (7, s) else keepF N s (key, none)
/-- A vault that comes in. -/
structure VIn (N : Nat) (s : VSt) (x : List (List Int)) (n gen : Int) (a lw : Nat) (M : ML) (f k g u m : Int) (lg : Nat) (X W G : List (List D)) : Prop where
  vi : VIs N s x
  tab : Tab M s.l
  n : n = ((N / 4 : Nat) : Int)
  gen : gen = (s.gen : Int)
  a : a = x.length
  lw : lw = 0
  f : f = ((2 * (N / 4) : Nat) : Int)
  k : k = ((N - 2 * (N / 4) : Nat) : Int)
  g : g = (s.gen : Int)
  u : u = (s.u : Int)
  m : m = (s.m : Int)
  lg : lg = 0
  X : X = secs x
  W : W = []
  G : G = []
abbrev vauH (N : Nat) (s : VSt) (M : ML) (x : List (List Int)) : KB := [vauC ((N / 4 : Nat) : Int) (s.gen : Int), devV 4 5 x.length 0, mpT M, jouV ((2 * (N / 4) : Nat) : Int) ((N - 2 * (N / 4) : Nat) : Int) (s.gen : Int) (s.u : Int) (s.m : Int) 0, secR x, waiR [], begV []]
/-- Behind an act: what may change stands at a number of its own. -/
abbrev vauK (N : Nat) (s : VSt) (M : ML) (x : List (List Int)) : KB := [.cells [.ptr 1 0, .int .i64 ((N / 4 : Nat) : Int), .int .i64 (s.gen : Int), .mp 7, .ptr 8 0, .sb false], devV 4 9 x.length 0, .dead, .dead, secR x, .dead, .dead, mpT M,
  .cells [.ptr 1 0, .int .i64 ((2 * (N / 4) : Nat) : Int), .int .i64 ((N - 2 * (N / 4) : Nat) : Int), .int .i64 (s.gen : Int), .int .i64 (s.u : Int), .int .i64 (s.m : Int), .sl 10 0 0, .sb false], waiR [], begV []]
abbrev vauT (N : Nat) (s : VSt) (M : ML) (x : List (List Int)) : KB := [.cells [.ptr 2 0, .int .i64 ((N / 4 : Nat) : Int), .int .i64 (s.gen : Int), .mp 8, .ptr 9 0, .sb false], .dead, devV 5 10 x.length 0, .dead, .dead, secR x, .dead, .dead, mpT M,
  .cells [.ptr 2 0, .int .i64 ((2 * (N / 4) : Nat) : Int), .int .i64 ((N - 2 * (N / 4) : Nat) : Int), .int .i64 (s.gen : Int), .int .i64 (s.u : Int), .int .i64 (s.m : Int), .sl 11 0 0, .sb false], waiR [], begV []]
def turnF (N : Nat) (s : VSt) (l : List P2) : Int × VSt :=
  if catN ((s.gen + 1 : Nat) : Int) 0 (recW l) ≤ N / 4 then (0, ⟨s.gen + 1, l, 0, 0⟩) else (6, s)
def SvTurn : FSpec := fun args kb K => match args, kb with
  | [.ptr 0 0, .mp 1], [.cells [.ptr 2 0, .int .i64 n, .int .i64 gen, .mp 3, .ptr 4 0, .sb false], .mp [.i64] false false 1 M1, .cells [.sl 5 0 a, .sl 6 0 lw, .int .i64 (-1), .sb false], .mp [.i64] false false 1 M, .cells [.ptr 2 0, .int .i64 f, .int .i64 k, .int .i64 g, .int .i64 u, .int .i64 m, .sl 7 0 lg, .sb false], .row 82 64 X, .row 84 129 W, .row 126 2 G] =>
    ∃ (N : Nat) (s : VSt) (x : List (List Int)) (l : List P2), VIn N s x n gen a lw M f k g u m lg X W G ∧ Tab M1 l ∧ l.length ≤ 9999 ∧ s.gen < 1000 ∧
      ∀ M' x', Tab M' (turnF N s l).2.l → VIs N (turnF N s l).2 x' → K (.int .i64 (turnF N s l).1) (vauT N (turnF N s l).2 M' x')
  | _, _ => False
def SvKeep : FSpec := fun args kb K => match args, kb with
  | [.ptr 0 0, .dat (.sl 1 B)], [.cells [.ptr 1 0, .int .i64 n, .int .i64 gen, .mp 2, .ptr 3 0, .sb false], .cells [.sl 4 0 a, .sl 5 0 lw, .int .i64 (-1), .sb false], .mp [.i64] false false 1 M, .cells [.ptr 1 0, .int .i64 f, .int .i64 k, .int .i64 g, .int .i64 u, .int .i64 m, .sl 6 0 lg, .sb false], .row 82 64 X, .row 84 129 W, .row 126 2 G] =>
    ∃ (N : Nat) (s : VSt) (x : List (List Int)) (c : Chg), VIn N s x n gen a lw M f k g u m lg X W G ∧ B = ints .u8 (chgW c) ∧ ChgOk c ∧ s.gen < 1000 ∧
      ∀ M' x', Tab M' (keepF N s c).2.l → VIs N (keepF N s c).2 x' → K (.int .i64 (keepF N s c).1) (vauK N (keepF N s c).2 M' x')
  | _, _ => False
def SvPut : FSpec := fun args kb K => match args, kb with
  | [.ptr 0 0, .int .i64 key, .dat (.sl 1 B)], [.cells [.ptr 1 0, .int .i64 n, .int .i64 gen, .mp 2, .ptr 3 0, .sb false], .cells [.sl 4 0 a, .sl 5 0 lw, .int .i64 (-1), .sb false], .mp [.i64] false false 1 M, .cells [.ptr 1 0, .int .i64 f, .int .i64 k, .int .i64 g, .int .i64 u, .int .i64 m, .sl 6 0 lg, .sb false], .row 82 64 X, .row 84 129 W, .row 126 2 G] =>
    ∃ (N : Nat) (s : VSt) (x : List (List Int)) (b : List Int), VIn N s x n gen a lw M f k g u m lg X W G ∧ B = ints .u8 b ∧ Byt b ∧ b.length ≤ 800000 ∧ s.gen < 1000 ∧
      ∀ M' x', Tab M' (putF N s key b).2.l → VIs N (putF N s key b).2 x' → K (.int .i64 (putF N s key b).1) (vauK N (putF N s key b).2 M' x')
  | _, _ => False
def SvDrop : FSpec := fun args kb K => match args, kb with
  | [.ptr 0 0, .int .i64 key], [.cells [.ptr 1 0, .int .i64 n, .int .i64 gen, .mp 2, .ptr 3 0, .sb false], .cells [.sl 4 0 a, .sl 5 0 lw, .int .i64 (-1), .sb false], .mp [.i64] false false 1 M, .cells [.ptr 1 0, .int .i64 f, .int .i64 k, .int .i64 g, .int .i64 u, .int .i64 m, .sl 6 0 lg, .sb false], .row 82 64 X, .row 84 129 W, .row 126 2 G] =>
    ∃ (N : Nat) (s : VSt) (x : List (List Int)), VIn N s x n gen a lw M f k g u m lg X W G ∧ s.gen < 1000 ∧
      ∀ M' x', Tab M' (dropF N s key).2.l → VIs N (dropF N s key).2 x' → K (.int .i64 (dropF N s key).1) (vauK N (dropF N s key).2 M' x')
  | _, _ => False
def SvGet : FSpec := fun args kb K => match args, kb with
  | [.ptr 0 0, .int .i64 key], [.cells [.ptr 1 0, .int .i64 n, .int .i64 gen, .mp 2, .ptr 3 0, .sb false], .cells [.sl 4 0 a, .sl 5 0 lw, .int .i64 (-1), .sb false], .mp [.i64] false false 1 M, .cells [.ptr 1 0, .int .i64 f, .int .i64 k, .int .i64 g, .int .i64 u, .int .i64 m, .sl 6 0 lg, .sb false], .row 82 64 X, .row 84 129 W, .row 126 2 G] =>
    ∃ (N : Nat) (s : VSt) (x : List (List Int)), VIn N s x n gen a lw M f k g u m lg X W G ∧
      K (.tup [.sl 7 0 ((getP s.l key).getD []).length, .sb (getP s.l key).isSome]) (vauH N s M x ++ [.row 5 1 (ints .u8 ((getP s.l key).getD []))])
  | _, _ => False
def SvKeys : FSpec := fun args kb K => match args, kb with
  | [.ptr 0 0], [.cells [.ptr 1 0, .int .i64 n, .int .i64 gen, .mp 2, .ptr 3 0, .sb false], .cells [.sl 4 0 a, .sl 5 0 lw, .int .i64 (-1), .sb false], .mp [.i64] false false 1 M, .cells [.ptr 1 0, .int .i64 f, .int .i64 k, .int .i64 g, .int .i64 u, .int .i64 m, .sl 6 0 lg, .sb false], .row 82 64 X, .row 84 129 W, .row 126 2 G] =>
    ∃ (N : Nat) (s : VSt) (x : List (List Int)), VIn N s x n gen a lw M f k g u m lg X W G ∧
      K (.sl 7 0 s.l.length) (vauH N s M x ++ [.row 3 1 (ints .i64 (s.l.map (·.1)))])
  | _, _ => False
def SvGen : FSpec := fun args kb K => match args, kb with
  | [.ptr 0 0], [.cells [.ptr 1 0, .int .i64 n, .int .i64 gen, .mp 2, .ptr 3 0, .sb false], .cells [.sl 4 0 a, .sl 5 0 lw, .int .i64 (-1), .sb false], .mp [.i64] false false 1 M, .cells [.ptr 1 0, .int .i64 f, .int .i64 k, .int .i64 g, .int .i64 u, .int .i64 m, .sl 6 0 lg, .sb false], .row 82 64 X, .row 84 129 W, .row 126 2 G] =>
    ∃ (N : Nat) (s : VSt) (x : List (List Int)), VIn N s x n gen a lw M f k g u m lg X W G ∧ K (.int .i64 (s.gen : Int)) (vauH N s M x)
  | _, _ => False
/-- What Open finds. -/
structure VOp (N : Nat) (s : VSt) (x : List (List Int)) (g0 g1 : Nat) (l0 l1 : List P2) (cs : List Chg) : Prop where
  b : VB N s.gen s.l s.u s.m x
  p0 : Pl (N / 4) g0 l0 ((x.drop 0).take (N / 4))
  p1 : Pl (N / 4) g1 l1 ((x.drop (N / 4)).take (N / 4))
  scan : scanJ (flJ x (2 * (N / 4)) (N - 2 * (N / 4))) (s.gen : Int) = (cs.map chgW, s.u)
  sw : swX x (2 * (N / 4) + s.u) (N - 2 * (N / 4) - s.u) = x
  cok : ∀ c ∈ cs, ChgOk c
  cl : cs.length = s.m
  sel : (if g0 < g1 then g1 else g0) = s.gen
  hl : s.l = cs.foldl chgL (if g0 < g1 then l1 else l0)
def selG (g0 g1 : Nat) (i : Nat) : Nat := if i = 0 then 0 else if i = 1 then g0 else if g0 < g1 then g1 else g0
def selL (g0 g1 : Nat) (l0 l1 : List P2) (i : Nat) : List P2 := if i = 0 then [] else if i = 1 then l0 else if g0 < g1 then l1 else l0
abbrev opLI (N : Nat) (x : List (List Int)) (g0 g1 : Nat) (l0 l1 : List P2) : LI where
  α := {p : Nat × ML // p.1 ≤ 2 ∧ Tab p.2 (selL g0 g1 l0 l1 p.1)}
  live := [0, 4, 28]
  st p := ([.ptr 0 0, .ptr 3 0, .int .i64 (p.1.1 : Int)], [devV 1 2 x.length 0, secR x, waiR [], .cells [.ptr 0 0, .int .i64 ((N / 4 : Nat) : Int), .int .i64 (selG g0 g1 p.1.1 : Int), .mp 4, .any (.pointer none), .sb false], mpT p.1.2])
  μ p := 2 - p.1.1
abbrev op2LI (N : Nat) (s : VSt) (x : List (List Int)) (base : List P2) (cs : List Chg) : LI where
  α := {p : Nat × ML // p.1 ≤ cs.length ∧ Tab p.2 ((cs.take p.1).foldl chgL base)}
  live := [4, 78, 79, 80]
  st p := ([.ptr 4 0, .sl 5 0 cs.length, .int .i64 (cs.length : Int), .int .i64 (p.1.1 : Int)], [devV 1 3 x.length 0, secR x, .dead, waiR [], .cells [.ptr 0 0, .int .i64 ((N / 4 : Nat) : Int), .int .i64 (s.gen : Int), .mp 6, .ptr 7 0, .sb false], .row 30 1 ((cs.map chgW).map bsl), mpT p.1.2,
    .cells [.ptr 0 0, .int .i64 ((2 * (N / 4) : Nat) : Int), .int .i64 ((N - 2 * (N / 4) : Nat) : Int), .int .i64 (s.gen : Int), .int .i64 (s.u : Int), .int .i64 (s.m : Int), .sl 8 0 0, .sb false], begV []])
  μ p := cs.length - p.1.1
def SvOpen : FSpec := fun args kb K => match args, kb with
  | [.any (.pointer none)], [] => K (.tup [.any (.pointer none), .int .i64 1]) []
  | [.ptr 0 0], [.cells [.sl 1 0 n, .sl 2 0 m, .int .i64 (-1), .sb false], .row 82 64 X, .row 84 129 w] => ∃ (N : Nat) (s : VSt) (x : List (List Int)), X = secs x ∧ n = x.length ∧ NoW m w ∧ VIs N s x ∧
      ∀ M, Tab M s.l → K (.tup [.ptr 4 0, .int .i64 0]) [devV 1 3 x.length 0, secR x, .dead, waiR [], .cells [.ptr 0 0, .int .i64 ((N / 4 : Nat) : Int), .int .i64 (s.gen : Int), .mp 5, .ptr 6 0, .sb false], mpT M,
        .cells [.ptr 0 0, .int .i64 ((2 * (N / 4) : Nat) : Int), .int .i64 ((N - 2 * (N / 4) : Nat) : Int), .int .i64 (s.gen : Int), .int .i64 (s.u : Int), .int .i64 (s.m : Int), .sl 7 0 0, .sb false], begV []]
  | _, _ => False
def vnT (N : Nat) (s : VSt) (x : List (List Int)) (g0 g1 : Nat) (l0 l1 base : List P2) (cs : List Chg) : FuncId → Nat → Option LI
  | 8, 5 => some (opLI N x g0 g1 l0 l1)
  | 8, 18 => some (op2LI N s x base cs)
  | _, _ => none
def vnS : FuncId → Option Known
  | 47 => some ⟨[], SmapClone⟩
  | 37 => some ⟨[], SmapKeys 55⟩
  | 36 => some ⟨[], Ssorted 55 3⟩
  | 31 => some ⟨[.lend 1], ScloneN 5⟩
  | 68 => some ⟨[], SvRecords⟩
  | 69 => some ⟨[.lend 1], SvSectors⟩
  | 26 => some ⟨[.asis, .give 1], Schange⟩
  | 24 => some ⟨[], Scheck⟩
  | 70 => some ⟨[.asis, .asis, .asis, .give 1], Svlay⟩
  | 42 => some ⟨[], SjOpen⟩
  | 48 => some ⟨[.asis, .give 1], SjAdd⟩
  | 51 => some ⟨[], SjFlush⟩
  | 23 => some ⟨[], SdLen⟩
  | _ => none
noncomputable def XVn : CallT := callS Try.prog vnS noT 10
def voS : FuncId → Option Known
  | 49 => some ⟨[], SvTurn⟩
  | f => vnS f
noncomputable def XVo : CallT := callS Try.prog voS noT 10
def vpS : FuncId → Option Known
  | 29 => some ⟨[.asis, .give 1], SvKeep⟩
  | f => pxS f
noncomputable def XVp : CallT := callS Try.prog vpS noT 10
def vtidy (n : Nat) (m1 m2 : Nat × Nat) (ks : List Nat) (K : V → KB → Prop) : V → KB → Prop := nilRes [.mvP 0 3, .mvP 0 4] (tidyRes n (nilRes ([.mv m1.1 m1.2, .mv m2.1 m2.2] ++ ks.map .kill) (tidyRes n K)))
theorem vcGetV (N : Nat) (s : VSt) (M : ML) (x : List (List Int)) (key : Int) (K : V → KB → Prop) (hvc_ :
 (∀ (cs : List D), mget M [key] = some cs → ConfK [CK.sl 1] cs) ∧
 (mgetS M [key] 0).length ≤ 1000000 ∧
 K (V.tup [V.sl 7 0 (mgetS M [key] 0).length, V.sb (mhas M [key])])
 [KO.cells [V.ptr 1 0, V.int IntKind.i64 (↑(N / 4) : Int), V.int IntKind.i64 (↑s.gen : Int), V.mp 2, V.ptr 3 0, V.sb false], KO.cells [V.sl 4 0 x.length, V.sl 5 0 0, V.int IntKind.i64 (-1), V.sb false], KO.mp [IntKind.i64] false false 1 M,
 KO.cells [V.ptr 1 0, V.int IntKind.i64 (↑(2 * (N / 4)) : Int), V.int IntKind.i64 (↑(N - 2 * (N / 4)) : Int), V.int IntKind.i64 (↑s.gen : Int), V.int IntKind.i64 (↑s.u : Int), V.int IntKind.i64 (↑s.m : Int), V.sl 6 0 0, V.sb false], KO.row 82 64 (secs x), KO.row 84 129 [], KO.row 126 2 [], KO.row 5 1 (mgetS M [key] 0)]
 ) : runSpec Try.prog XVn (noT 11) 11 [.ptr 0 0, .int .i64 key] (vauH N s M x) (nilRes [.slot 0 5 1] (tidyRes 7 K)) := by apply Eq.mp (a := hvc_); kernel_rfl
theorem vcKeysV (N : Nat) (s : VSt) (M : ML) (x : List (List Int)) (K : V → KB → Prop) (hvc_ :
 55 = 55 ∧
 [IntKind.i64] = [IntKind.i64] ∧
 false = false ∧
 KeysOk M ∧
 (M = [] →
 K (V.sl 7 0 0)
 [KO.cells [V.ptr 1 0, V.int IntKind.i64 (↑(N / 4) : Int), V.int IntKind.i64 (↑s.gen : Int), V.mp 2, V.ptr 3 0, V.sb false], KO.cells [V.sl 4 0 x.length, V.sl 5 0 0, V.int IntKind.i64 (-1), V.sb false], KO.mp [IntKind.i64] false false 1 M,
 KO.cells [V.ptr 1 0, V.int IntKind.i64 (↑(2 * (N / 4)) : Int), V.int IntKind.i64 (↑(N - 2 * (N / 4)) : Int), V.int IntKind.i64 (↑s.gen : Int), V.int IntKind.i64 (↑s.u : Int), V.int IntKind.i64 (↑s.m : Int), V.sl 6 0 0, V.sb false], KO.row 82 64 (secs x), KO.row 84 129 [], KO.row 126 2 [], KO.row 3 1 []]) ∧
 K (V.sl 7 0 (List.length M))
 [KO.cells [V.ptr 1 0, V.int IntKind.i64 (↑(N / 4) : Int), V.int IntKind.i64 (↑s.gen : Int), V.mp 2, V.ptr 3 0, V.sb false], KO.cells [V.sl 4 0 x.length, V.sl 5 0 0, V.int IntKind.i64 (-1), V.sb false], KO.mp [IntKind.i64] false false 1 M,
 KO.cells [V.ptr 1 0, V.int IntKind.i64 (↑(2 * (N / 4)) : Int), V.int IntKind.i64 (↑(N - 2 * (N / 4)) : Int), V.int IntKind.i64 (↑s.gen : Int), V.int IntKind.i64 (↑s.u : Int), V.int IntKind.i64 (↑s.m : Int), V.sl 6 0 0, V.sb false], KO.row 82 64 (secs x), KO.row 84 129 [], KO.row 126 2 [], KO.row 3 1 (ints IntKind.i64 (sortI (Vc.keysM M)))]
 ) : runSpec Try.prog XVn (noT 22) 22 [.ptr 0 0] (vauH N s M x) (nilRes [.slot 0 3 1] (tidyRes 7 K)) := by apply Eq.mp (a := hvc_); kernel_rfl
theorem vcGenV (N : Nat) (s : VSt) (M : ML) (x : List (List Int)) (K : V → KB → Prop) (hvc_ :
 K (V.int IntKind.i64 (↑s.gen : Int))
 [KO.cells [V.ptr 1 0, V.int IntKind.i64 (↑(N / 4) : Int), V.int IntKind.i64 (↑s.gen : Int), V.mp 2, V.ptr 3 0, V.sb false], KO.cells [V.sl 4 0 x.length, V.sl 5 0 0, V.int IntKind.i64 (-1), V.sb false], KO.mp [IntKind.i64] false false 1 M,
 KO.cells [V.ptr 1 0, V.int IntKind.i64 (↑(2 * (N / 4)) : Int), V.int IntKind.i64 (↑(N - 2 * (N / 4)) : Int), V.int IntKind.i64 (↑s.gen : Int), V.int IntKind.i64 (↑s.u : Int), V.int IntKind.i64 (↑s.m : Int), V.sl 6 0 0, V.sb false], KO.row 82 64 (secs x), KO.row 84 129 [], KO.row 126 2 []]
 ) : runSpec Try.prog XVn (noT 9) 9 [.ptr 0 0] (vauH N s M x) (tidyRes 7 K) := by apply Eq.mp (a := hvc_); kernel_rfl
theorem vcOpenN (q : Unit) (K : V → KB → Prop) (hvc_ :
 K (V.tup [V.any (Value.pointer none), V.int IntKind.i64 1]) []
 ) : runSpec Try.prog XVn (noT 8) 8 [.any (.pointer none)] [] (tidyRes 0 K) := by apply Eq.mp (a := hvc_); kernel_rfl
theorem vcOpenV (N : Nat) (s : VSt) (x : List (List Int)) (g0 g1 : Nat) (l0 l1 base : List P2) (cs : List Chg) (K : V → KB → Prop) (hvc_ :
 ∃ (x_1 : List (List Int)),
 secs x = secs x_1 ∧
 x.length = x_1.length ∧
 0 = 0 ∧
 (decide ((↑x_1.length : Int) < 8) = true → K (V.tup [V.any (Value.pointer none), V.int IntKind.i64 1]) [KO.cells [V.sl 1 0 x_1.length, V.sl 2 0 0, V.int IntKind.i64 (-1), V.sb false], KO.row 82 64 (secs x_1), KO.row 84 129 []]) ∧
 (decide ((↑x_1.length : Int) < 8) = false →
 ∃ (x_2 : List (List Int)),
 secs x_1 = secs x_2 ∧
 x_1.length = x_2.length ∧
 0 = 0 ∧
 At (opLI N x g0 g1 l0 l1)
 ([V.ptr 0 0, V.ptr 3 0, V.int IntKind.i64 0], [KO.cells [V.sl 1 0 x_2.length, V.sl 2 0 0, V.int IntKind.i64 (-1), V.sb false], KO.row 82 64 (secs x_2), KO.row 84 129 [], KO.cells [V.ptr 0 0, V.int IntKind.i64 (IntKind.i64.wrap ((↑x_2.length : Int).tdiv 4)), V.int IntKind.i64 0, V.mp 4, V.any (Value.pointer none), V.sb false], KO.mp [IntKind.i64] false false 1 []]) ∧
 ∀ (i : { p : Nat × ML // p.fst ≤ 2 ∧ Tab p.snd (selL g0 g1 l0 l1 p.fst) }),
 (decide ((↑i.val.fst : Int) < 2) = true →
 ∃ (x_3 : List (List Int)),
 ∃ (f : Nat),
 ∃ (k : Nat),
 ∃ (g : Nat),
 ∃ (l : List P2),
 IntKind.i64.wrap ((↑i.val.fst : Int) * (↑(N / 4) : Int)) = (↑f : Int) ∧
 (↑(N / 4) : Int) = (↑k : Int) ∧
 secs x = secs x_3 ∧
 x.length = x_3.length ∧
 0 = 0 ∧
 Prt x_3 f k ∧
 (∀ (b : List Int), List.Mem b x_3 → ∀ (c : Int), List.Mem c b → 0 ≤ c ∧ c < 256) ∧
 k ≤ 4096 ∧
 Pl k g l (List.take k (List.drop f x_3)) ∧
 (g = 0 →
 (false = true → K (V.tup [V.any (Value.pointer none), V.int IntKind.i64 0]) [KO.cells [V.sl 1 0 x_3.length, V.sl 2 0 0, V.int IntKind.i64 (-1), V.sb false], KO.row 82 64 (secs x_3), KO.row 84 129 []]) ∧
 (false = false →
 (decide (0 > (↑(selG g0 g1 i.val.fst) : Int)) = true →
 Nx (opLI N x g0 g1 l0 l1) i
 ([V.ptr 0 0, V.ptr 3 0, V.int IntKind.i64 (IntKind.i64.wrap ((↑i.val.fst : Int) + 1))],
 [KO.cells [V.sl 1 0 x_3.length, V.sl 2 0 0, V.int IntKind.i64 (-1), V.sb false], KO.row 82 64 (secs x_3), KO.row 84 129 [], KO.cells [V.ptr 0 0, V.int IntKind.i64 (↑(N / 4) : Int), V.int IntKind.i64 0, V.any (Value.map none), V.any (Value.pointer none), V.sb false]])) ∧
 (decide (0 > (↑(selG g0 g1 i.val.fst) : Int)) = false →
 Nx (opLI N x g0 g1 l0 l1) i
 ([V.ptr 0 0, V.ptr 3 0, V.int IntKind.i64 (IntKind.i64.wrap ((↑i.val.fst : Int) + 1))],
 [KO.cells [V.sl 1 0 x_3.length, V.sl 2 0 0, V.int IntKind.i64 (-1), V.sb false], KO.row 82 64 (secs x_3), KO.row 84 129 [], KO.cells [V.ptr 0 0, V.int IntKind.i64 (↑(N / 4) : Int), V.int IntKind.i64 (↑(selG g0 g1 i.val.fst) : Int), V.mp 4, V.any (Value.pointer none), V.sb false],
 KO.mp [IntKind.i64] false false 1 i.val.snd])))) ∧
 (1 ≤ g →
 ∀ (M : ML),
 Tab M l →
 (false = true → K (V.tup [V.any (Value.pointer none), V.int IntKind.i64 0]) [KO.cells [V.sl 1 0 x_3.length, V.sl 2 0 0, V.int IntKind.i64 (-1), V.sb false], KO.row 82 64 (secs x_3), KO.row 84 129 []]) ∧
 (false = false →
 (decide ((↑g : Int) > (↑(selG g0 g1 i.val.fst) : Int)) = true →
 Nx (opLI N x g0 g1 l0 l1) i
 ([V.ptr 0 0, V.ptr 3 0, V.int IntKind.i64 (IntKind.i64.wrap ((↑i.val.fst : Int) + 1))],
 [KO.cells [V.sl 1 0 x_3.length, V.sl 2 0 0, V.int IntKind.i64 (-1), V.sb false], KO.row 82 64 (secs x_3), KO.row 84 129 [], KO.cells [V.ptr 0 0, V.int IntKind.i64 (↑(N / 4) : Int), V.int IntKind.i64 (↑g : Int), V.mp 4, V.any (Value.pointer none), V.sb false], KO.mp [IntKind.i64] false false 1 M])) ∧
 (decide ((↑g : Int) > (↑(selG g0 g1 i.val.fst) : Int)) = false →
 Nx (opLI N x g0 g1 l0 l1) i
 ([V.ptr 0 0, V.ptr 3 0, V.int IntKind.i64 (IntKind.i64.wrap ((↑i.val.fst : Int) + 1))],
 [KO.cells [V.sl 1 0 x_3.length, V.sl 2 0 0, V.int IntKind.i64 (-1), V.sb false], KO.row 82 64 (secs x_3), KO.row 84 129 [], KO.cells [V.ptr 0 0, V.int IntKind.i64 (↑(N / 4) : Int), V.int IntKind.i64 (↑(selG g0 g1 i.val.fst) : Int), V.mp 4, V.any (Value.pointer none), V.sb false],
 KO.mp [IntKind.i64] false false 1 i.val.snd]))))) ∧
 (decide ((↑i.val.fst : Int) < 2) = false →
 ∃ (x_3 : List (List Int)),
 secs x = secs x_3 ∧
 x.length = x_3.length ∧
 0 = 0 ∧
 EqI (↑(selG g0 g1 i.val.fst) : Int) (↑(selG g0 g1 i.val.fst) : Int) ∧
 EqI (↑(N / 4) : Int) (↑(N / 4) : Int) ∧
 EqI (↑(N / 4) : Int) (↑(N / 4) : Int) ∧
 V.ptr 0 0 = V.ptr 0 0 ∧
 ∃ (x_4 : List (List Int)),
 ∃ (f : Nat),
 ∃ (k : Nat),
 IntKind.i64.wrap (2 * (↑(N / 4) : Int)) = (↑f : Int) ∧
 IntKind.i64.wrap ((↑x_3.length : Int) - IntKind.i64.wrap (2 * (↑(N / 4) : Int))) = (↑k : Int) ∧
 secs x_3 = secs x_4 ∧
 x_3.length = x_4.length ∧
 0 = 0 ∧
 Prt x_4 f k ∧
 (∀ (b : List Int), List.Mem b x_4 → ∀ (c : Int), List.Mem c b → 0 ≤ c ∧ c < 256) ∧
 NumJ (↑(selG g0 g1 i.val.fst) : Int) ∧
 OkD x_4 [] ∧
 0 ≤ 50000 ∧
 ∀ (w' : List (List D)) (L : List (List Int)) (u : Nat),
 w' = [] ∨ w' = [] →
 scanJ (flJ x_4 f k) (↑(selG g0 g1 i.val.fst) : Int) = (L, u) →
 u ≤ k →
 (false = true → K (V.tup [V.any (Value.pointer none), V.int IntKind.i64 0]) [KO.cells [V.sl 1 0 x_4.length, V.sl 3 0 w'.length, V.int IntKind.i64 (-1), V.sb false], KO.row 82 64 (secs (swX x_4 (f + u) (k - u))), KO.dead, KO.row 84 129 w']) ∧
 (false = false →
 At (op2LI N s x base cs)
 ([V.ptr 4 0, V.sl 5 0 L.length, V.int IntKind.i64 (↑(L.length - 0) : Int), V.int IntKind.i64 0],
 [KO.cells [V.sl 1 0 x_4.length, V.sl 3 0 w'.length, V.int IntKind.i64 (-1), V.sb false], KO.row 82 64 (secs (swX x_4 (f + u) (k - u))), KO.dead, KO.row 84 129 w', KO.cells [V.ptr 0 0, V.int IntKind.i64 (↑(N / 4) : Int), V.int IntKind.i64 (↑(selG g0 g1 i.val.fst) : Int), V.mp 6, V.ptr 7 0, V.sb false],
 KO.row 30 1 (List.map bsl L), KO.mp [IntKind.i64] false false 1 i.val.snd, KO.cells [V.ptr 0 0, V.int IntKind.i64 (↑f : Int), V.int IntKind.i64 (↑k : Int), V.int IntKind.i64 (↑(selG g0 g1 i.val.fst) : Int), V.int IntKind.i64 (↑u : Int), V.int IntKind.i64 (↑L.length : Int), V.sl 8 0 0, V.sb false],
 KO.row 126 2 []]) ∧
 ∀ (i : { p : Nat × ML // p.fst ≤ cs.length ∧ Tab p.snd (List.foldl chgL base (List.take p.fst cs)) }),
 (decide ((↑i.val.fst : Int) < (↑cs.length : Int)) = true →
 InB (↑i.val.fst : Int) (cs.length - 0) ∧
 ∃ (e : List D),
 (List.map bsl (List.map chgW cs))[0 + (↑i.val.fst : Int).toNat]? = some e ∧
 ∃ (l : List (List D)),
 e[0]? = some (D.sl 1 l) ∧
 ∃ (x_5 : List P2),
 ∃ (c : Chg),
 Tab i.val.snd x_5 ∧
 l = ints IntKind.u8 (chgW c) ∧
 ChgOk c ∧
 x_5.length < 100000 ∧
 ∀ (M' : ML),
 Tab M' (chgL x_5 c) →
 (false = true →
 K (V.tup [V.ptr 4 0, V.int IntKind.i64 0])
 [KO.cells [V.sl 1 0 x.length, V.sl 3 0 0, V.int IntKind.i64 (-1), V.sb false], KO.row 82 64 (secs x), KO.dead, KO.row 84 129 [], KO.cells [V.ptr 0 0, V.int IntKind.i64 (↑(N / 4) : Int), V.int IntKind.i64 (↑s.gen : Int), V.mp 5, V.ptr 6 0, V.sb false],
 KO.mp [IntKind.i64] false false 1 M', KO.cells [V.ptr 0 0, V.int IntKind.i64 (↑(2 * (N / 4)) : Int), V.int IntKind.i64 (↑(N - 2 * (N / 4)) : Int), V.int IntKind.i64 (↑s.gen : Int), V.int IntKind.i64 (↑s.u : Int), V.int IntKind.i64 (↑s.m : Int), V.sl 7 0 0, V.sb false],
 KO.row 126 2 []]) ∧
 (false = false →
 Nx (op2LI N s x base cs) i
 ([V.ptr 4 0, V.sl 5 0 cs.length, V.int IntKind.i64 (↑cs.length : Int), V.int IntKind.i64 (IntKind.i64.wrap ((↑i.val.fst : Int) + 1))],
 [KO.cells [V.sl 1 0 x.length, V.sl 3 0 0, V.int IntKind.i64 (-1), V.sb false], KO.row 82 64 (secs x), KO.dead, KO.row 84 129 [], KO.cells [V.ptr 0 0, V.int IntKind.i64 (↑(N / 4) : Int), V.int IntKind.i64 (↑s.gen : Int), V.mp 6, V.ptr 7 0, V.sb false],
 KO.row 30 1 (List.map bsl (List.map chgW cs)), KO.mp [IntKind.i64] false false 1 M',
 KO.cells [V.ptr 0 0, V.int IntKind.i64 (↑(2 * (N / 4)) : Int), V.int IntKind.i64 (↑(N - 2 * (N / 4)) : Int), V.int IntKind.i64 (↑s.gen : Int), V.int IntKind.i64 (↑s.u : Int), V.int IntKind.i64 (↑s.m : Int), V.sl 8 0 0, V.sb false], KO.row 126 2 []]))) ∧
 (decide ((↑i.val.fst : Int) < (↑cs.length : Int)) = false →
 K (V.tup [V.ptr 4 0, V.int IntKind.i64 0])
 [KO.cells [V.sl 1 0 x.length, V.sl 3 0 0, V.int IntKind.i64 (-1), V.sb false], KO.row 82 64 (secs x), KO.dead, KO.row 84 129 [], KO.cells [V.ptr 0 0, V.int IntKind.i64 (↑(N / 4) : Int), V.int IntKind.i64 (↑s.gen : Int), V.mp 5, V.ptr 6 0, V.sb false], KO.mp [IntKind.i64] false false 1 i.val.snd,
 KO.cells [V.ptr 0 0, V.int IntKind.i64 (↑(2 * (N / 4)) : Int), V.int IntKind.i64 (↑(N - 2 * (N / 4)) : Int), V.int IntKind.i64 (↑s.gen : Int), V.int IntKind.i64 (↑s.u : Int), V.int IntKind.i64 (↑s.m : Int), V.sl 7 0 0, V.sb false], KO.row 126 2 []]))))
 ) : runSpec Try.prog XVn (vnT N s x g0 g1 l0 l1 base cs 8) 8 [.ptr 0 0] [devV 1 2 x.length 0, secR x, waiR []] (tidyRes 3 K) := by apply Eq.mp (a := hvc_); kernel_rfl
theorem vcTurnV (N : Nat) (s : VSt) (M M1 : ML) (x : List (List Int)) (K : V → KB → Prop) (hvc_ :
 ∃ (x_1 : List P2),
 Tab M1 x_1 ∧
 ((recW x_1).length ≤ (List.map bsl (recW x_1)).length ∧ True) ∧
 ∃ (ts : List (List Int)),
 List.drop 0 (List.take (recW x_1).length (List.map bsl (recW x_1))) = List.map bsl ts ∧
 RecS (IntKind.i64.wrap ((↑s.gen : Int) + 1)) ts ∧
 ts.length ≤ 20000 ∧
 (∀ (t : List Int), List.Mem t ts → (∀ (c : Int), List.Mem c t → 0 ≤ c ∧ c < 256) ∧ t.length ≤ 980) ∧
 True ∧
 EqI (↑(N / 4) : Int) (↑(N / 4) : Int) ∧
 (decide ((↑(catN (IntKind.i64.wrap ((↑s.gen : Int) + 1)) 0 ts) : Int) > (↑(N / 4) : Int)) = true →
 K (V.int IntKind.i64 6)
 [KO.cells [V.ptr 2 0, V.int IntKind.i64 (↑(N / 4) : Int), V.int IntKind.i64 (↑s.gen : Int), V.mp 8, V.ptr 9 0, V.sb false], KO.dead, KO.cells [V.sl 5 0 x.length, V.sl 10 0 0, V.int IntKind.i64 (-1), V.sb false], KO.dead, KO.dead, KO.row 82 64 (secs x), KO.dead, KO.dead, KO.mp [IntKind.i64] false false 1 M,
 KO.cells [V.ptr 2 0, V.int IntKind.i64 (↑(2 * (N / 4)) : Int), V.int IntKind.i64 (↑(N - 2 * (N / 4)) : Int), V.int IntKind.i64 (↑s.gen : Int), V.int IntKind.i64 (↑s.u : Int), V.int IntKind.i64 (↑s.m : Int), V.sl 11 0 0, V.sb false], KO.row 84 129 [], KO.row 126 2 []]) ∧
 (decide ((↑(catN (IntKind.i64.wrap ((↑s.gen : Int) + 1)) 0 ts) : Int) > (↑(N / 4) : Int)) = false →
 (recW x_1).length ≤ (List.map bsl (recW x_1)).length ∧
 ∃ (x_2 : List (List Int)),
 ∃ (p : LyP),
 ∃ (f : Nat),
 ∃ (k : Nat),
 ∃ (g : Nat),
 ∃ (ts : List (List Int)),
 IntKind.i64.wrap ((IntKind.i64.wrap (IntKind.i64.wrap ((↑s.gen : Int) + 1) + 1)).tmod 2 * (↑(N / 4) : Int)) = (↑f : Int) ∧
 (↑(N / 4) : Int) = (↑k : Int) ∧
 x.length = x_2.length ∧
 secs x = secs x_2 ∧
 NoW 0 [] ∧
 LyOk x_2 p f k ∧
 IntKind.i64.wrap ((↑s.gen : Int) + 1) = (↑g : Int) ∧
 g ≤ 1000 ∧
 List.drop 0 (List.take (recW x_1).length (List.map bsl (recW x_1))) = List.map bsl ts ∧
 (∀ (t : List Int), List.Mem t ts → (∀ (c : Int), List.Mem c t → 0 ≤ c ∧ c < 256) ∧ t.length ≤ 980) ∧
 ts.length ≤ 10000 ∧
 RecS (↑g : Int) ts ∧
 catN (↑g : Int) 0 ts ≤ k ∧
 ∀ (x' B : List (List Int)),
 Lay p.pre p.post k (↑g : Int) ts x' [] B B →
 (false = true →
 (false = true →
 K (V.int IntKind.i64 0)
 [KO.cells [V.ptr 2 0, V.int IntKind.i64 (↑(N / 4) : Int), V.int IntKind.i64 (↑s.gen : Int), V.mp 8, V.ptr 9 0, V.sb true], KO.dead, KO.cells [V.sl 5 0 x'.length, V.sl 10 0 0, V.int IntKind.i64 (-1), V.sb false], KO.dead, KO.dead, KO.row 82 64 (secs x'), KO.dead, KO.dead, KO.mp [IntKind.i64] false false 1 M,
 KO.cells [V.ptr 2 0, V.int IntKind.i64 (↑(2 * (N / 4)) : Int), V.int IntKind.i64 (↑(N - 2 * (N / 4)) : Int), V.int IntKind.i64 (↑s.gen : Int), V.int IntKind.i64 (↑s.u : Int), V.int IntKind.i64 (↑s.m : Int), V.sl 11 0 0, V.sb false], KO.row 84 129 [], KO.row 126 2 []]) ∧
 (false = false →
 K (V.int IntKind.i64 0)
 [KO.cells [V.ptr 2 0, V.int IntKind.i64 (↑(N / 4) : Int), V.int IntKind.i64 (↑s.gen : Int), V.mp 8, V.ptr 9 0, V.sb false], KO.dead, KO.cells [V.sl 5 0 x'.length, V.sl 10 0 0, V.int IntKind.i64 (-1), V.sb false], KO.dead, KO.dead, KO.row 82 64 (secs x'), KO.dead, KO.dead, KO.mp [IntKind.i64] false false 1 M,
 KO.cells [V.ptr 2 0, V.int IntKind.i64 (↑(2 * (N / 4)) : Int), V.int IntKind.i64 (↑(N - 2 * (N / 4)) : Int), V.int IntKind.i64 (↑s.gen : Int), V.int IntKind.i64 (↑s.u : Int), V.int IntKind.i64 (↑s.m : Int), V.sl 11 0 0, V.sb false], KO.row 84 129 [], KO.row 126 2 []])) ∧
 (false = false →
 ∃ (x : List (List Int)),
 secs x' = secs x ∧
 x'.length = x.length ∧
 0 = 0 ∧
 EqI (IntKind.i64.wrap ((↑s.gen : Int) + 1)) (IntKind.i64.wrap ((↑s.gen : Int) + 1)) ∧
 EqI (↑(N / 4) : Int) (↑(N / 4) : Int) ∧
 EqI (↑(N / 4) : Int) (↑(N / 4) : Int) ∧
 V.ptr 2 0 = V.ptr 2 0 ∧
 ∃ (x_3 : List (List Int)),
 ∃ (f : Nat),
 ∃ (k : Nat),
 IntKind.i64.wrap (2 * (↑(N / 4) : Int)) = (↑f : Int) ∧
 IntKind.i64.wrap ((↑x.length : Int) - IntKind.i64.wrap (2 * (↑(N / 4) : Int))) = (↑k : Int) ∧
 secs x = secs x_3 ∧
 x.length = x_3.length ∧
 0 = 0 ∧
 Prt x_3 f k ∧
 (∀ (b : List Int), List.Mem b x_3 → ∀ (c : Int), List.Mem c b → 0 ≤ c ∧ c < 256) ∧
 NumJ (IntKind.i64.wrap ((↑s.gen : Int) + 1)) ∧
 OkD x_3 [] ∧
 0 ≤ 50000 ∧
 ∀ (w' : List (List D)) (L : List (List Int)) (u : Nat),
 w' = [] ∨ w' = [] →
 scanJ (flJ x_3 f k) (IntKind.i64.wrap ((↑s.gen : Int) + 1)) = (L, u) →
 u ≤ k →
 (false = true →
 K (V.int IntKind.i64 0)
 [KO.cells [V.ptr 2 0, V.int IntKind.i64 (↑(N / 4) : Int), V.int IntKind.i64 (IntKind.i64.wrap ((↑s.gen : Int) + 1)), V.mp 8, V.ptr 9 0, V.sb true], KO.dead, KO.cells [V.sl 5 0 x_3.length, V.sl 10 0 w'.length, V.int IntKind.i64 (-1), V.sb false], KO.dead, KO.dead,
 KO.row 82 64 (secs (swX x_3 (f + u) (k - u))), KO.dead, KO.dead, KO.mp [IntKind.i64] false false 1 M1,
 KO.cells [V.ptr 2 0, V.int IntKind.i64 (↑f : Int), V.int IntKind.i64 (↑k : Int), V.int IntKind.i64 (IntKind.i64.wrap ((↑s.gen : Int) + 1)), V.int IntKind.i64 (↑u : Int), V.int IntKind.i64 (↑L.length : Int), V.sl 11 0 0, V.sb false], KO.row 84 129 w', KO.row 126 2 []]) ∧
 (false = false →
 K (V.int IntKind.i64 0)
 [KO.cells [V.ptr 2 0, V.int IntKind.i64 (↑(N / 4) : Int), V.int IntKind.i64 (IntKind.i64.wrap ((↑s.gen : Int) + 1)), V.mp 8, V.ptr 9 0, V.sb false], KO.dead, KO.cells [V.sl 5 0 x_3.length, V.sl 10 0 w'.length, V.int IntKind.i64 (-1), V.sb false], KO.dead, KO.dead,
 KO.row 82 64 (secs (swX x_3 (f + u) (k - u))), KO.dead, KO.dead, KO.mp [IntKind.i64] false false 1 M1,
 KO.cells [V.ptr 2 0, V.int IntKind.i64 (↑f : Int), V.int IntKind.i64 (↑k : Int), V.int IntKind.i64 (IntKind.i64.wrap ((↑s.gen : Int) + 1)), V.int IntKind.i64 (↑u : Int), V.int IntKind.i64 (↑L.length : Int), V.sl 11 0 0, V.sb false], KO.row 84 129 w', KO.row 126 2 []])))
 ) : runSpec Try.prog XVn (noT 49) 49 [.ptr 0 0, .mp 1] [.cells [.ptr 2 0, .int .i64 ((N / 4 : Nat) : Int), .int .i64 (s.gen : Int), .mp 3, .ptr 4 0, .sb false], mpT M1, devV 5 6 x.length 0, mpT M, .cells [.ptr 2 0, .int .i64 ((2 * (N / 4) : Nat) : Int), .int .i64 ((N - 2 * (N / 4) : Nat) : Int), .int .i64 (s.gen : Int), .int .i64 (s.u : Int), .int .i64 (s.m : Int), .sl 7 0 0, .sb false], secR x, waiR [], begV []] (vtidy 8 (9, 6) (2, 1) [1, 3, 4, 6, 7] K) := by apply Eq.mp (a := hvc_); kernel_rfl
theorem vcKeepV (N : Nat) (s : VSt) (M : ML) (x : List (List Int)) (b : List Int) (K : V → KB → Prop) (hvc_ :
 (false = true →
 K (V.int IntKind.i64 16)
 [KO.cells [V.ptr 1 0, V.int IntKind.i64 (↑(N / 4) : Int), V.int IntKind.i64 (↑s.gen : Int), V.mp 7, V.ptr 8 0, V.sb false], KO.cells [V.sl 4 0 x.length, V.sl 9 0 0, V.int IntKind.i64 (-1), V.sb false], KO.dead, KO.dead, KO.row 82 64 (secs x), KO.dead, KO.dead, KO.mp [IntKind.i64] false false 1 M,
 KO.cells [V.ptr 1 0, V.int IntKind.i64 (↑(2 * (N / 4)) : Int), V.int IntKind.i64 (↑(N - 2 * (N / 4)) : Int), V.int IntKind.i64 (↑s.gen : Int), V.int IntKind.i64 (↑s.u : Int), V.int IntKind.i64 (↑s.m : Int), V.sl 10 0 0, V.sb false], KO.row 84 129 [], KO.row 126 2 []]) ∧
 (false = false →
 ∃ (x_1 : List P2),
 ∃ (c : Chg),
 Tab M x_1 ∧
 ints IntKind.u8 b = ints IntKind.u8 (chgW c) ∧
 ChgOk c ∧
 x_1.length < 100000 ∧
 ∀ (M' : ML),
 Tab M' (chgL x_1 c) →
 ∃ (x_2 : List (List Int)),
 ∃ (p : JP),
 ∃ (g : List Bg),
 ∃ (b_1 : List Int),
 JIn (↑(2 * (N / 4)) : Int) (↑(N - 2 * (N / 4)) : Int) (↑s.gen : Int) (↑s.u : Int) (↑s.m : Int) 0 x.length 0 [] (secs x) [] x_2 p g ∧
 ints IntKind.u8 b = ints IntKind.u8 b_1 ∧
 OkJ x_2 p ∧
 OkD x_2 [] ∧
 0 ≤ 50000 ∧
 g.length ≤ 50000 ∧
 (∀ (c : Int), List.Mem c b_1 → 0 ≤ c ∧ c < 256) ∧
 b_1.length ≤ 800000 ∧
 ((formJ p.gen (↑p.n : Int) b_1).snd ≠ 0 →
 (((formJ p.gen (↑p.n : Int) b_1).snd == 0) = true →
 ∃ (x : List (List Int)),
 ∃ (p_1 : JP),
 ∃ (g_1 : List Bg),
 JIn (↑p.f : Int) (↑p.k : Int) p.gen (↑p.u : Int) (↑p.n : Int) g.length x_2.length 0 (List.map bgD g) (secs x_2) [] x p_1 g_1 ∧
 Sec64 x ∧
 BgOk x g_1 ∧
 (false = true →
 (false = true →
 K (V.int IntKind.i64 0)
 [KO.cells [V.ptr 1 0, V.int IntKind.i64 (↑(N / 4) : Int), V.int IntKind.i64 (↑s.gen : Int), V.mp 7, V.ptr 8 0, V.sb true], KO.cells [V.sl 4 0 (flsJ x g_1).length, V.sl 9 0 0, V.int IntKind.i64 (-1), V.sb false], KO.dead, KO.dead, KO.row 82 64 (secs (flsJ x g_1)), KO.dead, KO.dead, KO.mp [IntKind.i64] false false 1 M,
 KO.cells [V.ptr 1 0, V.int IntKind.i64 (↑p_1.f : Int), V.int IntKind.i64 (↑p_1.k : Int), V.int IntKind.i64 p_1.gen, V.int IntKind.i64 (↑p_1.u : Int), V.int IntKind.i64 (↑p_1.n : Int), V.sl 10 0 0, V.sb false], KO.row 84 129 [], KO.row 126 2 []]) ∧
 (false = false →
 K (V.int IntKind.i64 0)
 [KO.cells [V.ptr 1 0, V.int IntKind.i64 (↑(N / 4) : Int), V.int IntKind.i64 (↑s.gen : Int), V.mp 7, V.ptr 8 0, V.sb false], KO.cells [V.sl 4 0 (flsJ x g_1).length, V.sl 9 0 0, V.int IntKind.i64 (-1), V.sb false], KO.dead, KO.dead, KO.row 82 64 (secs (flsJ x g_1)), KO.dead, KO.dead, KO.mp [IntKind.i64] false false 1 M,
 KO.cells [V.ptr 1 0, V.int IntKind.i64 (↑p_1.f : Int), V.int IntKind.i64 (↑p_1.k : Int), V.int IntKind.i64 p_1.gen, V.int IntKind.i64 (↑p_1.u : Int), V.int IntKind.i64 (↑p_1.n : Int), V.sl 10 0 0, V.sb false], KO.row 84 129 [], KO.row 126 2 []])) ∧
 (false = false →
 K (V.int IntKind.i64 0)
 [KO.cells [V.ptr 1 0, V.int IntKind.i64 (↑(N / 4) : Int), V.int IntKind.i64 (↑s.gen : Int), V.mp 7, V.ptr 8 0, V.sb false], KO.cells [V.sl 4 0 (flsJ x g_1).length, V.sl 9 0 0, V.int IntKind.i64 (-1), V.sb false], KO.dead, KO.dead, KO.row 82 64 (secs (flsJ x g_1)), KO.dead, KO.dead, KO.mp [IntKind.i64] false false 1 M',
 KO.cells [V.ptr 1 0, V.int IntKind.i64 (↑p_1.f : Int), V.int IntKind.i64 (↑p_1.k : Int), V.int IntKind.i64 p_1.gen, V.int IntKind.i64 (↑p_1.u : Int), V.int IntKind.i64 (↑p_1.n : Int), V.sl 10 0 0, V.sb false], KO.row 84 129 [], KO.row 126 2 []])) ∧
 (((formJ p.gen (↑p.n : Int) b_1).snd == 0) = false →
 (((formJ p.gen (↑p.n : Int) b_1).snd == 6) = true →
 ∃ (N_1 : Nat),
 ∃ (s_1 : VSt),
 ∃ (x : List (List Int)),
 ∃ (l : List P2),
 VIn N_1 s_1 x (↑(N / 4) : Int) (↑s.gen : Int) x_2.length 0 M (↑p.f : Int) (↑p.k : Int) p.gen (↑p.u : Int) (↑p.n : Int) g.length (secs x_2) [] (List.map bgD g) ∧
 Tab M' l ∧
 l.length ≤ 9999 ∧
 s_1.gen < 1000 ∧
 ∀ (M' : ML) (x' : List (List Int)),
 Tab M' (turnF N_1 s_1 l).snd.l →
 (∃ (P0 : List (List Int)), ∃ (P1 : List (List Int)), ∃ (B : List (List Int)), ∃ (g0 : Nat), ∃ (g1 : Nat), ∃ (l0 : List P2), ∃ (l1 : List P2), ∃ (cs : List Chg), VJ N_1 (turnF N_1 s_1 l).snd.gen (turnF N_1 s_1 l).snd.l (turnF N_1 s_1 l).snd.u (turnF N_1 s_1 l).snd.m x' P0 P1 B g0 g1 l0 l1 cs) →
 K (V.int IntKind.i64 (turnF N_1 s_1 l).fst)
 [KO.cells [V.ptr 1 0, V.int IntKind.i64 (↑(N_1 / 4) : Int), V.int IntKind.i64 (↑(turnF N_1 s_1 l).snd.gen : Int), V.mp 7, V.ptr 8 0, V.sb false], KO.cells [V.sl 4 0 x'.length, V.sl 9 0 0, V.int IntKind.i64 (-1), V.sb false], KO.dead, KO.dead, KO.row 82 64 (secs x'), KO.dead, KO.dead,
 KO.mp [IntKind.i64] false false 1 M',
 KO.cells [V.ptr 1 0, V.int IntKind.i64 (↑(2 * (N_1 / 4)) : Int), V.int IntKind.i64 (↑(N_1 - 2 * (N_1 / 4)) : Int), V.int IntKind.i64 (↑(turnF N_1 s_1 l).snd.gen : Int), V.int IntKind.i64 (↑(turnF N_1 s_1 l).snd.u : Int), V.int IntKind.i64 (↑(turnF N_1 s_1 l).snd.m : Int), V.sl 10 0 0, V.sb false], KO.row 84 129 [],
 KO.row 126 2 []]) ∧
 (((formJ p.gen (↑p.n : Int) b_1).snd == 6) = false →
 (((formJ p.gen (↑p.n : Int) b_1).snd != 0) = true →
 K (V.int IntKind.i64 (formJ p.gen (↑p.n : Int) b_1).snd)
 [KO.cells [V.ptr 1 0, V.int IntKind.i64 (↑(N / 4) : Int), V.int IntKind.i64 (↑s.gen : Int), V.mp 7, V.ptr 8 0, V.sb true], KO.cells [V.sl 4 0 x_2.length, V.sl 9 0 0, V.int IntKind.i64 (-1), V.sb false], KO.dead, KO.dead, KO.row 82 64 (secs x_2), KO.dead, KO.dead, KO.mp [IntKind.i64] false false 1 M,
 KO.cells [V.ptr 1 0, V.int IntKind.i64 (↑p.f : Int), V.int IntKind.i64 (↑p.k : Int), V.int IntKind.i64 p.gen, V.int IntKind.i64 (↑p.u : Int), V.int IntKind.i64 (↑p.n : Int), V.sl 10 0 g.length, V.sb false], KO.row 84 129 [], KO.row 126 2 (List.map bgD g)]) ∧
 (((formJ p.gen (↑p.n : Int) b_1).snd != 0) = false →
 K (V.int IntKind.i64 (formJ p.gen (↑p.n : Int) b_1).snd)
 [KO.cells [V.ptr 1 0, V.int IntKind.i64 (↑(N / 4) : Int), V.int IntKind.i64 (↑s.gen : Int), V.mp 7, V.ptr 8 0, V.sb false], KO.cells [V.sl 4 0 x_2.length, V.sl 9 0 0, V.int IntKind.i64 (-1), V.sb false], KO.dead, KO.dead, KO.row 82 64 (secs x_2), KO.dead, KO.dead, KO.mp [IntKind.i64] false false 1 M,
 KO.cells [V.ptr 1 0, V.int IntKind.i64 (↑p.f : Int), V.int IntKind.i64 (↑p.k : Int), V.int IntKind.i64 p.gen, V.int IntKind.i64 (↑p.u : Int), V.int IntKind.i64 (↑p.n : Int), V.sl 10 0 g.length, V.sb false], KO.row 84 129 [], KO.row 126 2 (List.map bgD g)])))) ∧
 ((formJ p.gen (↑p.n : Int) b_1).snd = 0 →
 p.k < p.u + (formJ p.gen (↑p.n : Int) b_1).fst.length / 64 →
 (false = true →
 ∃ (x : List (List Int)),
 ∃ (p_1 : JP),
 ∃ (g_1 : List Bg),
 JIn (↑p.f : Int) (↑p.k : Int) p.gen (↑p.u : Int) (↑p.n : Int) g.length x_2.length 0 (List.map bgD g) (secs x_2) [] x p_1 g_1 ∧
 Sec64 x ∧
 BgOk x g_1 ∧
 (false = true →
 (false = true →
 K (V.int IntKind.i64 0)
 [KO.cells [V.ptr 1 0, V.int IntKind.i64 (↑(N / 4) : Int), V.int IntKind.i64 (↑s.gen : Int), V.mp 7, V.ptr 8 0, V.sb true], KO.cells [V.sl 4 0 (flsJ x g_1).length, V.sl 9 0 0, V.int IntKind.i64 (-1), V.sb false], KO.dead, KO.dead, KO.row 82 64 (secs (flsJ x g_1)), KO.dead, KO.dead, KO.mp [IntKind.i64] false false 1 M,
 KO.cells [V.ptr 1 0, V.int IntKind.i64 (↑p_1.f : Int), V.int IntKind.i64 (↑p_1.k : Int), V.int IntKind.i64 p_1.gen, V.int IntKind.i64 (↑p_1.u : Int), V.int IntKind.i64 (↑p_1.n : Int), V.sl 10 0 0, V.sb false], KO.row 84 129 [], KO.row 126 2 []]) ∧
 (false = false →
 K (V.int IntKind.i64 0)
 [KO.cells [V.ptr 1 0, V.int IntKind.i64 (↑(N / 4) : Int), V.int IntKind.i64 (↑s.gen : Int), V.mp 7, V.ptr 8 0, V.sb false], KO.cells [V.sl 4 0 (flsJ x g_1).length, V.sl 9 0 0, V.int IntKind.i64 (-1), V.sb false], KO.dead, KO.dead, KO.row 82 64 (secs (flsJ x g_1)), KO.dead, KO.dead, KO.mp [IntKind.i64] false false 1 M,
 KO.cells [V.ptr 1 0, V.int IntKind.i64 (↑p_1.f : Int), V.int IntKind.i64 (↑p_1.k : Int), V.int IntKind.i64 p_1.gen, V.int IntKind.i64 (↑p_1.u : Int), V.int IntKind.i64 (↑p_1.n : Int), V.sl 10 0 0, V.sb false], KO.row 84 129 [], KO.row 126 2 []])) ∧
 (false = false →
 K (V.int IntKind.i64 0)
 [KO.cells [V.ptr 1 0, V.int IntKind.i64 (↑(N / 4) : Int), V.int IntKind.i64 (↑s.gen : Int), V.mp 7, V.ptr 8 0, V.sb false], KO.cells [V.sl 4 0 (flsJ x g_1).length, V.sl 9 0 0, V.int IntKind.i64 (-1), V.sb false], KO.dead, KO.dead, KO.row 82 64 (secs (flsJ x g_1)), KO.dead, KO.dead, KO.mp [IntKind.i64] false false 1 M',
 KO.cells [V.ptr 1 0, V.int IntKind.i64 (↑p_1.f : Int), V.int IntKind.i64 (↑p_1.k : Int), V.int IntKind.i64 p_1.gen, V.int IntKind.i64 (↑p_1.u : Int), V.int IntKind.i64 (↑p_1.n : Int), V.sl 10 0 0, V.sb false], KO.row 84 129 [], KO.row 126 2 []])) ∧
 (false = false →
 (true = true →
 ∃ (N_1 : Nat),
 ∃ (s_1 : VSt),
 ∃ (x : List (List Int)),
 ∃ (l : List P2),
 VIn N_1 s_1 x (↑(N / 4) : Int) (↑s.gen : Int) x_2.length 0 M (↑p.f : Int) (↑p.k : Int) p.gen (↑p.u : Int) (↑p.n : Int) g.length (secs x_2) [] (List.map bgD g) ∧
 Tab M' l ∧
 l.length ≤ 9999 ∧
 s_1.gen < 1000 ∧
 ∀ (M' : ML) (x' : List (List Int)),
 Tab M' (turnF N_1 s_1 l).snd.l →
 (∃ (P0 : List (List Int)), ∃ (P1 : List (List Int)), ∃ (B : List (List Int)), ∃ (g0 : Nat), ∃ (g1 : Nat), ∃ (l0 : List P2), ∃ (l1 : List P2), ∃ (cs : List Chg), VJ N_1 (turnF N_1 s_1 l).snd.gen (turnF N_1 s_1 l).snd.l (turnF N_1 s_1 l).snd.u (turnF N_1 s_1 l).snd.m x' P0 P1 B g0 g1 l0 l1 cs) →
 K (V.int IntKind.i64 (turnF N_1 s_1 l).fst)
 [KO.cells [V.ptr 1 0, V.int IntKind.i64 (↑(N_1 / 4) : Int), V.int IntKind.i64 (↑(turnF N_1 s_1 l).snd.gen : Int), V.mp 7, V.ptr 8 0, V.sb false], KO.cells [V.sl 4 0 x'.length, V.sl 9 0 0, V.int IntKind.i64 (-1), V.sb false], KO.dead, KO.dead, KO.row 82 64 (secs x'), KO.dead, KO.dead,
 KO.mp [IntKind.i64] false false 1 M',
 KO.cells [V.ptr 1 0, V.int IntKind.i64 (↑(2 * (N_1 / 4)) : Int), V.int IntKind.i64 (↑(N_1 - 2 * (N_1 / 4)) : Int), V.int IntKind.i64 (↑(turnF N_1 s_1 l).snd.gen : Int), V.int IntKind.i64 (↑(turnF N_1 s_1 l).snd.u : Int), V.int IntKind.i64 (↑(turnF N_1 s_1 l).snd.m : Int), V.sl 10 0 0, V.sb false],
 KO.row 84 129 [], KO.row 126 2 []]) ∧
 (true = false →
 (true = true →
 K (V.int IntKind.i64 6)
 [KO.cells [V.ptr 1 0, V.int IntKind.i64 (↑(N / 4) : Int), V.int IntKind.i64 (↑s.gen : Int), V.mp 7, V.ptr 8 0, V.sb true], KO.cells [V.sl 4 0 x_2.length, V.sl 9 0 0, V.int IntKind.i64 (-1), V.sb false], KO.dead, KO.dead, KO.row 82 64 (secs x_2), KO.dead, KO.dead, KO.mp [IntKind.i64] false false 1 M,
 KO.cells [V.ptr 1 0, V.int IntKind.i64 (↑p.f : Int), V.int IntKind.i64 (↑p.k : Int), V.int IntKind.i64 p.gen, V.int IntKind.i64 (↑p.u : Int), V.int IntKind.i64 (↑p.n : Int), V.sl 10 0 g.length, V.sb false], KO.row 84 129 [], KO.row 126 2 (List.map bgD g)]) ∧
 (true = false →
 K (V.int IntKind.i64 6)
 [KO.cells [V.ptr 1 0, V.int IntKind.i64 (↑(N / 4) : Int), V.int IntKind.i64 (↑s.gen : Int), V.mp 7, V.ptr 8 0, V.sb false], KO.cells [V.sl 4 0 x_2.length, V.sl 9 0 0, V.int IntKind.i64 (-1), V.sb false], KO.dead, KO.dead, KO.row 82 64 (secs x_2), KO.dead, KO.dead, KO.mp [IntKind.i64] false false 1 M,
 KO.cells [V.ptr 1 0, V.int IntKind.i64 (↑p.f : Int), V.int IntKind.i64 (↑p.k : Int), V.int IntKind.i64 p.gen, V.int IntKind.i64 (↑p.u : Int), V.int IntKind.i64 (↑p.n : Int), V.sl 10 0 g.length, V.sb false], KO.row 84 129 [], KO.row 126 2 (List.map bgD g)])))) ∧
 ((formJ p.gen (↑p.n : Int) b_1).snd = 0 →
 p.u + (formJ p.gen (↑p.n : Int) b_1).fst.length / 64 ≤ p.k →
 ∀ (v : List (List D)),
 v.length ≤ 16 →
 Plain v.flatten →
 (true = true →
 ∃ (x : List (List Int)),
 ∃ (p_1 : JP),
 ∃ (g_1 : List Bg),
 JIn (↑p.f : Int) (↑p.k : Int) p.gen (↑(p.u + (formJ p.gen (↑p.n : Int) b_1).fst.length / 64) : Int) (↑(p.n + 1) : Int) (g ++ [((↑(p.f + p.u) : Int), List.take 64 (formJ p.gen (↑p.n : Int) b_1).fst)]).length (putJ x_2 (p.f + p.u) (0 :: (formJ p.gen (↑p.n : Int) b_1).fst.tail) ((formJ p.gen (↑p.n : Int) b_1).fst.length / 64)).length
 v.length (List.map bgD (g ++ [((↑(p.f + p.u) : Int), List.take 64 (formJ p.gen (↑p.n : Int) b_1).fst)])) (secs (putJ x_2 (p.f + p.u) (0 :: (formJ p.gen (↑p.n : Int) b_1).fst.tail) ((formJ p.gen (↑p.n : Int) b_1).fst.length / 64))) v x p_1 g_1 ∧
 Sec64 x ∧
 BgOk x g_1 ∧
 (false = true →
 (false = true →
 K (V.int IntKind.i64 0)
 [KO.cells [V.ptr 1 0, V.int IntKind.i64 (↑(N / 4) : Int), V.int IntKind.i64 (↑s.gen : Int), V.mp 7, V.ptr 8 0, V.sb true], KO.cells [V.sl 4 0 (flsJ x g_1).length, V.sl 9 0 0, V.int IntKind.i64 (-1), V.sb false], KO.dead, KO.dead, KO.row 82 64 (secs (flsJ x g_1)), KO.dead, KO.dead,
 KO.mp [IntKind.i64] false false 1 M, KO.cells [V.ptr 1 0, V.int IntKind.i64 (↑p_1.f : Int), V.int IntKind.i64 (↑p_1.k : Int), V.int IntKind.i64 p_1.gen, V.int IntKind.i64 (↑p_1.u : Int), V.int IntKind.i64 (↑p_1.n : Int), V.sl 10 0 0, V.sb false], KO.row 84 129 [], KO.row 126 2 []]) ∧
 (false = false →
 K (V.int IntKind.i64 0)
 [KO.cells [V.ptr 1 0, V.int IntKind.i64 (↑(N / 4) : Int), V.int IntKind.i64 (↑s.gen : Int), V.mp 7, V.ptr 8 0, V.sb false], KO.cells [V.sl 4 0 (flsJ x g_1).length, V.sl 9 0 0, V.int IntKind.i64 (-1), V.sb false], KO.dead, KO.dead, KO.row 82 64 (secs (flsJ x g_1)), KO.dead, KO.dead,
 KO.mp [IntKind.i64] false false 1 M, KO.cells [V.ptr 1 0, V.int IntKind.i64 (↑p_1.f : Int), V.int IntKind.i64 (↑p_1.k : Int), V.int IntKind.i64 p_1.gen, V.int IntKind.i64 (↑p_1.u : Int), V.int IntKind.i64 (↑p_1.n : Int), V.sl 10 0 0, V.sb false], KO.row 84 129 [], KO.row 126 2 []])) ∧
 (false = false →
 K (V.int IntKind.i64 0)
 [KO.cells [V.ptr 1 0, V.int IntKind.i64 (↑(N / 4) : Int), V.int IntKind.i64 (↑s.gen : Int), V.mp 7, V.ptr 8 0, V.sb false], KO.cells [V.sl 4 0 (flsJ x g_1).length, V.sl 9 0 0, V.int IntKind.i64 (-1), V.sb false], KO.dead, KO.dead, KO.row 82 64 (secs (flsJ x g_1)), KO.dead, KO.dead, KO.mp [IntKind.i64] false false 1 M',
 KO.cells [V.ptr 1 0, V.int IntKind.i64 (↑p_1.f : Int), V.int IntKind.i64 (↑p_1.k : Int), V.int IntKind.i64 p_1.gen, V.int IntKind.i64 (↑p_1.u : Int), V.int IntKind.i64 (↑p_1.n : Int), V.sl 10 0 0, V.sb false], KO.row 84 129 [], KO.row 126 2 []])) ∧
 (true = false →
 (false = true →
 ∃ (N_1 : Nat),
 ∃ (s_1 : VSt),
 ∃ (x : List (List Int)),
 ∃ (l : List P2),
 VIn N_1 s_1 x (↑(N / 4) : Int) (↑s.gen : Int) (putJ x_2 (p.f + p.u) (0 :: (formJ p.gen (↑p.n : Int) b_1).fst.tail) ((formJ p.gen (↑p.n : Int) b_1).fst.length / 64)).length v.length M (↑p.f : Int) (↑p.k : Int) p.gen (↑(p.u + (formJ p.gen (↑p.n : Int) b_1).fst.length / 64) : Int) (↑(p.n + 1) : Int)
 (g ++ [((↑(p.f + p.u) : Int), List.take 64 (formJ p.gen (↑p.n : Int) b_1).fst)]).length (secs (putJ x_2 (p.f + p.u) (0 :: (formJ p.gen (↑p.n : Int) b_1).fst.tail) ((formJ p.gen (↑p.n : Int) b_1).fst.length / 64))) v (List.map bgD (g ++ [((↑(p.f + p.u) : Int), List.take 64 (formJ p.gen (↑p.n : Int) b_1).fst)])) ∧
 Tab M' l ∧
 l.length ≤ 9999 ∧
 s_1.gen < 1000 ∧
 ∀ (M' : ML) (x' : List (List Int)),
 Tab M' (turnF N_1 s_1 l).snd.l →
 (∃ (P0 : List (List Int)), ∃ (P1 : List (List Int)), ∃ (B : List (List Int)), ∃ (g0 : Nat), ∃ (g1 : Nat), ∃ (l0 : List P2), ∃ (l1 : List P2), ∃ (cs : List Chg), VJ N_1 (turnF N_1 s_1 l).snd.gen (turnF N_1 s_1 l).snd.l (turnF N_1 s_1 l).snd.u (turnF N_1 s_1 l).snd.m x' P0 P1 B g0 g1 l0 l1 cs) →
 K (V.int IntKind.i64 (turnF N_1 s_1 l).fst)
 [KO.cells [V.ptr 1 0, V.int IntKind.i64 (↑(N_1 / 4) : Int), V.int IntKind.i64 (↑(turnF N_1 s_1 l).snd.gen : Int), V.mp 7, V.ptr 8 0, V.sb false], KO.cells [V.sl 4 0 x'.length, V.sl 9 0 0, V.int IntKind.i64 (-1), V.sb false], KO.dead, KO.dead, KO.row 82 64 (secs x'), KO.dead, KO.dead,
 KO.mp [IntKind.i64] false false 1 M',
 KO.cells [V.ptr 1 0, V.int IntKind.i64 (↑(2 * (N_1 / 4)) : Int), V.int IntKind.i64 (↑(N_1 - 2 * (N_1 / 4)) : Int), V.int IntKind.i64 (↑(turnF N_1 s_1 l).snd.gen : Int), V.int IntKind.i64 (↑(turnF N_1 s_1 l).snd.u : Int), V.int IntKind.i64 (↑(turnF N_1 s_1 l).snd.m : Int), V.sl 10 0 0, V.sb false],
 KO.row 84 129 [], KO.row 126 2 []]) ∧
 (false = false →
 (false = true →
 K (V.int IntKind.i64 0)
 [KO.cells [V.ptr 1 0, V.int IntKind.i64 (↑(N / 4) : Int), V.int IntKind.i64 (↑s.gen : Int), V.mp 7, V.ptr 8 0, V.sb true], KO.cells [V.sl 4 0 (putJ x_2 (p.f + p.u) (0 :: (formJ p.gen (↑p.n : Int) b_1).fst.tail) ((formJ p.gen (↑p.n : Int) b_1).fst.length / 64)).length, V.sl 9 0 v.length, V.int IntKind.i64 (-1), V.sb false],
 KO.dead, KO.dead, KO.row 82 64 (secs (putJ x_2 (p.f + p.u) (0 :: (formJ p.gen (↑p.n : Int) b_1).fst.tail) ((formJ p.gen (↑p.n : Int) b_1).fst.length / 64))), KO.dead, KO.dead, KO.mp [IntKind.i64] false false 1 M,
 KO.cells
 [V.ptr 1 0, V.int IntKind.i64 (↑p.f : Int), V.int IntKind.i64 (↑p.k : Int), V.int IntKind.i64 p.gen, V.int IntKind.i64 (↑(p.u + (formJ p.gen (↑p.n : Int) b_1).fst.length / 64) : Int), V.int IntKind.i64 (↑(p.n + 1) : Int), V.sl 10 0 (g ++ [((↑(p.f + p.u) : Int), List.take 64 (formJ p.gen (↑p.n : Int) b_1).fst)]).length,
 V.sb false],
 KO.row 84 129 v, KO.row 126 2 (List.map bgD (g ++ [((↑(p.f + p.u) : Int), List.take 64 (formJ p.gen (↑p.n : Int) b_1).fst)]))]) ∧
 (false = false →
 K (V.int IntKind.i64 0)
 [KO.cells [V.ptr 1 0, V.int IntKind.i64 (↑(N / 4) : Int), V.int IntKind.i64 (↑s.gen : Int), V.mp 7, V.ptr 8 0, V.sb false], KO.cells [V.sl 4 0 (putJ x_2 (p.f + p.u) (0 :: (formJ p.gen (↑p.n : Int) b_1).fst.tail) ((formJ p.gen (↑p.n : Int) b_1).fst.length / 64)).length, V.sl 9 0 v.length, V.int IntKind.i64 (-1), V.sb false],
 KO.dead, KO.dead, KO.row 82 64 (secs (putJ x_2 (p.f + p.u) (0 :: (formJ p.gen (↑p.n : Int) b_1).fst.tail) ((formJ p.gen (↑p.n : Int) b_1).fst.length / 64))), KO.dead, KO.dead, KO.mp [IntKind.i64] false false 1 M,
 KO.cells
 [V.ptr 1 0, V.int IntKind.i64 (↑p.f : Int), V.int IntKind.i64 (↑p.k : Int), V.int IntKind.i64 p.gen, V.int IntKind.i64 (↑(p.u + (formJ p.gen (↑p.n : Int) b_1).fst.length / 64) : Int), V.int IntKind.i64 (↑(p.n + 1) : Int), V.sl 10 0 (g ++ [((↑(p.f + p.u) : Int), List.take 64 (formJ p.gen (↑p.n : Int) b_1).fst)]).length,
 V.sb false],
 KO.row 84 129 v, KO.row 126 2 (List.map bgD (g ++ [((↑(p.f + p.u) : Int), List.take 64 (formJ p.gen (↑p.n : Int) b_1).fst)]))])))))
 ) : runSpec Try.prog XVo (noT 29) 29 [.ptr 0 0, .dat (.sl 1 (ints .u8 b))] (vauH N s M x) (vtidy 7 (8, 6) (1, 1) [2, 3, 5, 6] K) := by apply Eq.mp (a := hvc_); kernel_rfl
theorem vcPutV (N : Nat) (s : VSt) (M : ML) (x : List (List Int)) (key : Int) (b : List Int) (K : V → KB → Prop) (hvc_ :
 (decide (key < 0) = true →
 K (V.int IntKind.i64 5)
 [KO.cells [V.ptr 1 0, V.int IntKind.i64 (↑(N / 4) : Int), V.int IntKind.i64 (↑s.gen : Int), V.mp 7, V.ptr 8 0, V.sb false], KO.cells [V.sl 4 0 x.length, V.sl 9 0 0, V.int IntKind.i64 (-1), V.sb false], KO.dead, KO.dead, KO.row 82 64 (secs x), KO.dead, KO.dead, KO.mp [IntKind.i64] false false 1 M,
 KO.cells [V.ptr 1 0, V.int IntKind.i64 (↑(2 * (N / 4)) : Int), V.int IntKind.i64 (↑(N - 2 * (N / 4)) : Int), V.int IntKind.i64 (↑s.gen : Int), V.int IntKind.i64 (↑s.u : Int), V.int IntKind.i64 (↑s.m : Int), V.sl 10 0 0, V.sb false], KO.row 84 129 [], KO.row 126 2 []]) ∧
 (decide (key < 0) = false →
 (decide (key > 1099511627776) = true →
 K (V.int IntKind.i64 5)
 [KO.cells [V.ptr 1 0, V.int IntKind.i64 (↑(N / 4) : Int), V.int IntKind.i64 (↑s.gen : Int), V.mp 7, V.ptr 8 0, V.sb false], KO.cells [V.sl 4 0 x.length, V.sl 9 0 0, V.int IntKind.i64 (-1), V.sb false], KO.dead, KO.dead, KO.row 82 64 (secs x), KO.dead, KO.dead, KO.mp [IntKind.i64] false false 1 M,
 KO.cells [V.ptr 1 0, V.int IntKind.i64 (↑(2 * (N / 4)) : Int), V.int IntKind.i64 (↑(N - 2 * (N / 4)) : Int), V.int IntKind.i64 (↑s.gen : Int), V.int IntKind.i64 (↑s.u : Int), V.int IntKind.i64 (↑s.m : Int), V.sl 10 0 0, V.sb false], KO.row 84 129 [], KO.row 126 2 []]) ∧
 (decide (key > 1099511627776) = false →
 (decide ((↑(ints IntKind.u8 b).length : Int) > 900) = true →
 K (V.int IntKind.i64 15)
 [KO.cells [V.ptr 1 0, V.int IntKind.i64 (↑(N / 4) : Int), V.int IntKind.i64 (↑s.gen : Int), V.mp 7, V.ptr 8 0, V.sb false], KO.cells [V.sl 4 0 x.length, V.sl 9 0 0, V.int IntKind.i64 (-1), V.sb false], KO.dead, KO.dead, KO.row 82 64 (secs x), KO.dead, KO.dead, KO.mp [IntKind.i64] false false 1 M,
 KO.cells [V.ptr 1 0, V.int IntKind.i64 (↑(2 * (N / 4)) : Int), V.int IntKind.i64 (↑(N - 2 * (N / 4)) : Int), V.int IntKind.i64 (↑s.gen : Int), V.int IntKind.i64 (↑s.u : Int), V.int IntKind.i64 (↑s.m : Int), V.sl 10 0 0, V.sb false], KO.row 84 129 [], KO.row 126 2 []]) ∧
 (decide ((↑(ints IntKind.u8 b).length : Int) > 900) = false →
 ∃ (a : List Int),
 [] = ints IntKind.u8 a ∧
 0 = a.length ∧
 a.length ≤ 10000000 ∧
 LeM key ∧
 ∃ (a_1 : List Int),
 ints IntKind.u8 (a ++ numW key) = ints IntKind.u8 a_1 ∧
 (a ++ numW key).length = a_1.length ∧
 a_1.length ≤ 10000000 ∧
 LeM 1 ∧
 ∃ (a : List Int),
 ∃ (b_1 : List Int),
 ints IntKind.u8 (a_1 ++ [1]) = ints IntKind.u8 a ∧
 ints IntKind.u8 b = ints IntKind.u8 b_1 ∧
 (a_1 ++ [1]).length = a.length ∧
 a.length ≤ 1000000 ∧
 b_1.length ≤ 1000000 ∧
 ∃ (a_2 : List Int),
 ints IntKind.u8 (a ++ textW b_1) = ints IntKind.u8 a_2 ∧
 (a ++ textW b_1).length = a_2.length ∧
 a_2.length ≤ 1000000 ∧
 a_2.length ≤ (ints IntKind.u8 a_2).length ∧
 ∃ (N_1 : Nat),
 ∃ (s_1 : VSt),
 ∃ (x_1 : List (List Int)),
 ∃ (c : Chg),
 VIn N_1 s_1 x_1 (↑(N / 4) : Int) (↑s.gen : Int) x.length 0 M (↑(2 * (N / 4)) : Int) (↑(N - 2 * (N / 4)) : Int) (↑s.gen : Int) (↑s.u : Int) (↑s.m : Int) 0 (secs x) [] [] ∧
 List.drop 0 (List.take a_2.length (ints IntKind.u8 a_2)) = ints IntKind.u8 (chgW c) ∧
 ChgOk c ∧
 s_1.gen < 1000 ∧
 ∀ (M' : ML) (x' : List (List Int)),
 Tab M' (keepF N_1 s_1 c).snd.l →
 (∃ (P0 : List (List Int)), ∃ (P1 : List (List Int)), ∃ (B : List (List Int)), ∃ (g0 : Nat), ∃ (g1 : Nat), ∃ (l0 : List P2), ∃ (l1 : List P2), ∃ (cs : List Chg), VJ N_1 (keepF N_1 s_1 c).snd.gen (keepF N_1 s_1 c).snd.l (keepF N_1 s_1 c).snd.u (keepF N_1 s_1 c).snd.m x' P0 P1 B g0 g1 l0 l1 cs) →
 K (V.int IntKind.i64 (keepF N_1 s_1 c).fst)
 [KO.cells [V.ptr 1 0, V.int IntKind.i64 (↑(N_1 / 4) : Int), V.int IntKind.i64 (↑(keepF N_1 s_1 c).snd.gen : Int), V.mp 7, V.ptr 8 0, V.sb false], KO.cells [V.sl 4 0 x'.length, V.sl 9 0 0, V.int IntKind.i64 (-1), V.sb false], KO.dead, KO.dead, KO.row 82 64 (secs x'), KO.dead, KO.dead,
 KO.mp [IntKind.i64] false false 1 M',
 KO.cells [V.ptr 1 0, V.int IntKind.i64 (↑(2 * (N_1 / 4)) : Int), V.int IntKind.i64 (↑(N_1 - 2 * (N_1 / 4)) : Int), V.int IntKind.i64 (↑(keepF N_1 s_1 c).snd.gen : Int), V.int IntKind.i64 (↑(keepF N_1 s_1 c).snd.u : Int), V.int IntKind.i64 (↑(keepF N_1 s_1 c).snd.m : Int), V.sl 10 0 0, V.sb false], KO.row 84 129 [],
 KO.row 126 2 []])))
 ) : runSpec Try.prog XVp (noT 10) 10 [.ptr 0 0, .int .i64 key, .dat (.sl 1 (ints .u8 b))] (vauH N s M x) (vtidy 7 (8, 6) (1, 1) [2, 3, 5, 6] K) := by apply Eq.mp (a := hvc_); kernel_rfl
theorem vcDropV (N : Nat) (s : VSt) (M : ML) (x : List (List Int)) (key : Int) (K : V → KB → Prop) (hvc_ :
 (∀ (cs : List D), mget M [key] = some cs → ConfK [CK.sl 1] cs) ∧
 ((!mhas M [key]) = true →
 K (V.int IntKind.i64 7)
 [KO.cells [V.ptr 1 0, V.int IntKind.i64 (↑(N / 4) : Int), V.int IntKind.i64 (↑s.gen : Int), V.mp 7, V.ptr 8 0, V.sb false], KO.cells [V.sl 4 0 x.length, V.sl 9 0 0, V.int IntKind.i64 (-1), V.sb false], KO.dead, KO.dead, KO.row 82 64 (secs x), KO.dead, KO.dead, KO.mp [IntKind.i64] false false 1 M,
 KO.cells [V.ptr 1 0, V.int IntKind.i64 (↑(2 * (N / 4)) : Int), V.int IntKind.i64 (↑(N - 2 * (N / 4)) : Int), V.int IntKind.i64 (↑s.gen : Int), V.int IntKind.i64 (↑s.u : Int), V.int IntKind.i64 (↑s.m : Int), V.sl 10 0 0, V.sb false], KO.row 84 129 [], KO.row 126 2 []]) ∧
 ((!mhas M [key]) = false →
 ∃ (a : List Int),
 [] = ints IntKind.u8 a ∧
 0 = a.length ∧
 a.length ≤ 10000000 ∧
 LeM key ∧
 ∃ (a_1 : List Int),
 ints IntKind.u8 (a ++ numW key) = ints IntKind.u8 a_1 ∧
 (a ++ numW key).length = a_1.length ∧
 a_1.length ≤ 10000000 ∧
 LeM 0 ∧
 ∃ (a : List Int),
 ints IntKind.u8 (a_1 ++ [0]) = ints IntKind.u8 a ∧
 (a_1 ++ [0]).length = a.length ∧
 a.length ≤ 1000000 ∧
 a.length ≤ (ints IntKind.u8 a).length ∧
 ∃ (N_1 : Nat),
 ∃ (s_1 : VSt),
 ∃ (x_1 : List (List Int)),
 ∃ (c : Chg),
 VIn N_1 s_1 x_1 (↑(N / 4) : Int) (↑s.gen : Int) x.length 0 M (↑(2 * (N / 4)) : Int) (↑(N - 2 * (N / 4)) : Int) (↑s.gen : Int) (↑s.u : Int) (↑s.m : Int) 0 (secs x) [] [] ∧
 List.drop 0 (List.take a.length (ints IntKind.u8 a)) = ints IntKind.u8 (chgW c) ∧
 ChgOk c ∧
 s_1.gen < 1000 ∧
 ∀ (M' : ML) (x' : List (List Int)),
 Tab M' (keepF N_1 s_1 c).snd.l →
 (∃ (P0 : List (List Int)), ∃ (P1 : List (List Int)), ∃ (B : List (List Int)), ∃ (g0 : Nat), ∃ (g1 : Nat), ∃ (l0 : List P2), ∃ (l1 : List P2), ∃ (cs : List Chg), VJ N_1 (keepF N_1 s_1 c).snd.gen (keepF N_1 s_1 c).snd.l (keepF N_1 s_1 c).snd.u (keepF N_1 s_1 c).snd.m x' P0 P1 B g0 g1 l0 l1 cs) →
 K (V.int IntKind.i64 (keepF N_1 s_1 c).fst)
 [KO.cells [V.ptr 1 0, V.int IntKind.i64 (↑(N_1 / 4) : Int), V.int IntKind.i64 (↑(keepF N_1 s_1 c).snd.gen : Int), V.mp 7, V.ptr 8 0, V.sb false], KO.cells [V.sl 4 0 x'.length, V.sl 9 0 0, V.int IntKind.i64 (-1), V.sb false], KO.dead, KO.dead, KO.row 82 64 (secs x'), KO.dead, KO.dead, KO.mp [IntKind.i64] false false 1 M',
 KO.cells [V.ptr 1 0, V.int IntKind.i64 (↑(2 * (N_1 / 4)) : Int), V.int IntKind.i64 (↑(N_1 - 2 * (N_1 / 4)) : Int), V.int IntKind.i64 (↑(keepF N_1 s_1 c).snd.gen : Int), V.int IntKind.i64 (↑(keepF N_1 s_1 c).snd.u : Int), V.int IntKind.i64 (↑(keepF N_1 s_1 c).snd.m : Int), V.sl 10 0 0, V.sb false], KO.row 84 129 [], KO.row 126 2 []])
 ) : runSpec Try.prog XVp (noT 20) 20 [.ptr 0 0, .int .i64 key] (vauH N s M x) (vtidy 7 (8, 6) (1, 1) [2, 3, 5, 6] K) := by apply Eq.mp (a := hvc_); kernel_rfl
theorem vi_open {N : Nat} {s : VSt} {x : List (List Int)} (h : VIs N s x) : ∃ g0 g1 l0 l1 cs, VOp N s x g0 g1 l0 l1 cs := by
  have hb := VI.b h
  obtain ⟨P0, P1, B, g0, g1, l0, l1, cs, h⟩ := h
  have h4 := h.N4
  have h8 := h.N8
  have h0 := h.p0.len
  have h1 := h.p1.len
  have hpl : (P0 ++ P1).length = 2 * (N / 4) := by rw [List.length_append]; omega
  have hfit := h.jl.fit
  have hlb := h.jl.lb
  have hx := h.jl.x
  have hscan := h.jl.scan
  have hu := h.hu
  rw [hpl] at hscan
  refine ⟨g0, g1, l0, l1, cs, hb, ?_, ?_, ?_, ?_, h.cok, h.hm.symm, ?_, ?_⟩
  · rw [hx, List.drop_zero, List.append_assoc, List.take_left' h0]; exact h.p0
  · rw [hx, List.append_assoc, List.drop_left' h0, List.take_left' h1]; exact h.p1
  · rw [hscan, ← hu]
  · have e1 : x = ((P0 ++ P1) ++ B) ++ zer (N - 2 * (N / 4) - s.u) := by rw [hx, ← hu, List.append_nil, List.append_assoc (P0 ++ P1)]
    have e2 : ((P0 ++ P1) ++ B).length = 2 * (N / 4) + s.u := by rw [List.length_append, hpl, hlb, ← hu]
    unfold swX
    rw [List.drop_eq_nil_of_le (by rw [hb.xl]; omega), List.append_nil]
    conv => lhs; rw [e1]
    rw [List.take_left' e2, ← e1]
  · rcases h.sel with ⟨q1, q2, q3⟩ | ⟨q1, q2, q3⟩ | ⟨q1, q2, q3⟩
    · rw [if_neg (by omega), q2, q1]
    · rw [if_neg (by omega), q2]
    · rw [if_pos (by omega), q2]
  · rw [h.hl]
    rcases h.sel with ⟨q1, q2, q3⟩ | ⟨q1, q2, q3⟩ | ⟨q1, q2, q3⟩
    · rw [if_neg (by omega), if_neg (by omega), h.p0.z q2, h.p1.z q3]
    · rw [if_pos q1, if_neg (by omega)]
    · rw [if_neg (by omega), if_pos (by omega)]
end Go.Proofs.Ytkodjbegpheomaa
