import Derived.Test.YtkodjbegpheomaaLm
import Derived.KernelRfl
namespace Go.Proofs.Ytkodjbegpheomaa
open Vc Go
set_option linter.unusedVariables false
set_option linter.unusedSimpArgs false
set_option maxRecDepth 100000
structure A5 where
  d : Int
  k : Int
  b : List Int
  w : List Int
def acD (a : A5) : List D := [dn .i64 a.d, dn .i64 a.k, .sl 1 (ints .u8 a.b), .sl 1 (ints .i64 a.w)]
def gA (l : List A5) (i : Nat) : A5 := l.getD i ⟨0, 0, [], []⟩
/-- What is wanted, what is told, the document's values, the vault. -/
structure AcR where
  want : Int
  e : Int
  next : List P2
  s : VSt
def actF (N : Nat) (s : VSt) (a : A5) : AcR :=
  if a.d = 0 then ⟨if ¬ NumJ a.k then 5 else if 900 < a.b.length then 15 else 0, (putF N s a.k a.b).1, putL s.l a.k a.b, (putF N s a.k a.b).2⟩
  else if a.d = 1 then ⟨if getP s.l a.k = none then 7 else 0, (dropF N s a.k).1, outL s.l a.k, (dropF N s a.k).2⟩
  else ⟨0, 0, s.l, s⟩
structure PQ where
  i : Nat
  s : VSt
  M : ML
  x : List (List Int)
structure PlI (N n : Nat) (q : PQ) : Prop where
  i : q.i ≤ n
  vi : VIs N q.s q.x
  tab : Tab q.M q.s.l
  g : q.s.gen ≤ q.i
structure PcI (N : Nat) (s : VSt) (q : VQ) : Prop where
  vi : VIs N s q.x
  tab : Tab q.M s.l
abbrev plC (N : Nat) (l : List A5) (q : PQ) : LI where
  α := {c : VQ // PcI N (actF N q.s (gA l q.i)).s c}
  live := [1, 5, 6, 7, 8, 9, 10, 12, 13]
  st c := ([.dat (.sl 4 (l.map acD)), .int .i64 (N : Int), .ptr 0 0, .ptr 1 0, .int .i64 (actF N q.s (gA l q.i)).e, .dat (prs q.s.l), .int .i64 (q.i : Int), .dat (prs (actF N q.s (gA l q.i)).next), .int .i64 (actF N q.s (gA l q.i)).want], vauD N (actF N q.s (gA l q.i)).s c.1.M c.1.x)
  μ _ := 0
abbrev plLI (N : Nat) (l : List A5) : LI where
  α := {q : PQ // PlI N l.length q}
  live := [1, 5, 6, 7, 9, 10]
  nils := [.slotD 4 2]
  st q := ([.dat (.sl 4 (l.map acD)), .int .i64 (N : Int), .ptr 0 0, .ptr 1 0, .dat (prs q.1.s.l), .int .i64 (q.1.i : Int)], vauD N q.1.s q.1.M q.1.x)
  μ q := l.length - q.1.i
  sub q := fun r => match r with | 1036 => some (plC N l q.1) | _ => none
def plT (N : Nat) (l : List A5) : FuncId → Nat → Option LI
  | 5, 10 => some (plLI N l)
  | _, _ => none
noncomputable def XP (N : Nat) (l : List A5) : CallT := callS Try.prog lawS (plT N l) 10
theorem vcPlays (sc : Int) (N : Nat) (l : List A5)  (hvc_ :
 (decide ((↑(List.map acD l).length : Int) > 60) = true → true = true) ∧
 (decide ((↑(List.map acD l).length : Int) > 60) = false →
 ((NewI (IntKind.i64.wrap (8 + (IntKind.i64.wrap sc).tmod 57)) → False) → False) ∧
 (NewI (IntKind.i64.wrap (8 + (IntKind.i64.wrap sc).tmod 57)) →
 ∃ (N_1 : Nat),
 ∃ (s : VSt),
 ∃ (x : List (List Int)),
 secs (zer (IntKind.i64.wrap (8 + (IntKind.i64.wrap sc).tmod 57)).toNat) = secs x ∧
 (IntKind.i64.wrap (8 + (IntKind.i64.wrap sc).tmod 57)).toNat = x.length ∧
 NoW 0 [] ∧
 (∃ (P0 : List (List Int)), ∃ (P1 : List (List Int)), ∃ (B : List (List Int)), ∃ (g0 : Nat), ∃ (g1 : Nat), ∃ (l0 : List P2), ∃ (l1 : List P2), ∃ (cs : List Chg), VJ N_1 s.gen s.l s.u s.m x P0 P1 B g0 g1 l0 l1 cs) ∧
 ∀ (M : ML),
 Tab M s.l →
 (false = true → False) ∧
 (false = false →
 At (plLI N l)
 ([V.dat (D.sl 4 (List.map acD l)), V.int IntKind.i64 (IntKind.i64.wrap (8 + (IntKind.i64.wrap sc).tmod 57)), V.ptr 0 0, V.ptr 1 0, V.dat (D.sl 2 []), V.int IntKind.i64 0],
 [KO.cells [V.sl 2 0 x.length, V.sl 3 0 0, V.int IntKind.i64 (-1), V.sb false], KO.cells [V.ptr 0 0, V.int IntKind.i64 (↑(N_1 / 4) : Int), V.int IntKind.i64 (↑s.gen : Int), V.mp 4, V.ptr 5 0, V.sb false], KO.row 82 64 (secs x), KO.row 84 129 [], KO.mp [IntKind.i64] false false 1 M,
 KO.cells [V.ptr 0 0, V.int IntKind.i64 (↑(2 * (N_1 / 4)) : Int), V.int IntKind.i64 (↑(N_1 - 2 * (N_1 / 4)) : Int), V.int IntKind.i64 (↑s.gen : Int), V.int IntKind.i64 (↑s.u : Int), V.int IntKind.i64 (↑s.m : Int), V.sl 6 0 0, V.sb false], KO.row 126 2 []]) ∧
 ∀ (i : { q : PQ // PlI N l.length q }),
 (decide ((↑i.val.i : Int) < (↑(List.map acD l).length : Int)) = true →
 NonN (↑i.val.i : Int) ∧
 ∃ (e : List D),
 (List.map acD l)[(↑i.val.i : Int).toNat]? = some e ∧
 ∃ (n : Int),
 e[0]? = some (D.val (Value.int IntKind.i64 n)) ∧
 ∃ (n_1 : Int),
 e[1]? = some (D.val (Value.int IntKind.i64 n_1)) ∧
 ∃ (l_1 : List (List D)),
 e[2]? = some (D.sl 1 l_1) ∧
 ∃ (l_2 : List (List D)),
 e[3]? = some (D.sl 1 l_2) ∧
 (decide ((↑l_1.length : Int) > 950) = true → true = true) ∧
 (decide ((↑l_1.length : Int) > 950) = false →
 (decide ((↑l_2.length : Int) > 20) = true → true = true) ∧
 (decide ((↑l_2.length : Int) > 20) = false →
 (((n == 0) = true →
 ∃ (x : List P2),
 ∃ (b : List Int),
 List.map prD i.val.s.l = List.map prD x ∧
 l_1 = ints IntKind.u8 b ∧
 x.length ≤ 100000 ∧
 List.Pairwise (fun (a b : P2) => a.fst < b.fst) x ∧
 (decide ((↑l_1.length : Int) > 900) = true →
 (decide (n_1 < 0) = true →
 ∃ (N_2 : Nat),
 ∃ (s : VSt),
 ∃ (x_1 : List (List Int)),
 ∃ (b_1 : List Int),
 VIn N_2 s x_1 (↑(N / 4) : Int) (↑i.val.s.gen : Int) i.val.x.length 0 i.val.M (↑(2 * (N / 4)) : Int) (↑(N - 2 * (N / 4)) : Int) (↑i.val.s.gen : Int) (↑i.val.s.u : Int) (↑i.val.s.m : Int) 0 (secs i.val.x) [] [] ∧
 l_1 = ints IntKind.u8 b_1 ∧
 (∀ (c : Int), List.Mem c b_1 → 0 ≤ c ∧ c < 256) ∧
 b_1.length ≤ 800000 ∧
 s.gen < 1000 ∧
 ∀ (M' : ML) (x' : List (List Int)),
 Tab M' (putF N_2 s n_1 b_1).snd.l →
 (∃ (P0 : List (List Int)),
 ∃ (P1 : List (List Int)), ∃ (B : List (List Int)), ∃ (g0 : Nat), ∃ (g1 : Nat), ∃ (l0 : List P2), ∃ (l1 : List P2), ∃ (cs : List Chg), VJ N_2 (putF N_2 s n_1 b_1).snd.gen (putF N_2 s n_1 b_1).snd.l (putF N_2 s n_1 b_1).snd.u (putF N_2 s n_1 b_1).snd.m x' P0 P1 B g0 g1 l0 l1 cs) →
 At (plC N l i.val)
 ([V.dat (D.sl 4 (List.map acD l)), V.int IntKind.i64 (↑N : Int), V.ptr 0 0, V.ptr 1 0, V.int IntKind.i64 (putF N_2 s n_1 b_1).fst, V.dat (prs i.val.s.l), V.int IntKind.i64 (↑i.val.i : Int), V.dat (prs (putL x n_1 b)), V.int IntKind.i64 5],
 [KO.cells [V.sl 2 0 x'.length, V.sl 3 0 0, V.int IntKind.i64 (-1), V.sb false], KO.cells [V.ptr 0 0, V.int IntKind.i64 (↑(N_2 / 4) : Int), V.int IntKind.i64 (↑(putF N_2 s n_1 b_1).snd.gen : Int), V.mp 4, V.ptr 5 0, V.sb false], KO.row 82 64 (secs x'), KO.row 84 129 [],
 KO.mp [IntKind.i64] false false 1 M',
 KO.cells
 [V.ptr 0 0, V.int IntKind.i64 (↑(2 * (N_2 / 4)) : Int), V.int IntKind.i64 (↑(N_2 - 2 * (N_2 / 4)) : Int), V.int IntKind.i64 (↑(putF N_2 s n_1 b_1).snd.gen : Int), V.int IntKind.i64 (↑(putF N_2 s n_1 b_1).snd.u : Int), V.int IntKind.i64 (↑(putF N_2 s n_1 b_1).snd.m : Int),
 V.sl 6 0 0, V.sb false],
 KO.row 126 2 []])) ∧
 (decide (n_1 < 0) = false →
 (decide (n_1 > 1099511627776) = true →
 ∃ (N_2 : Nat),
 ∃ (s : VSt),
 ∃ (x_1 : List (List Int)),
 ∃ (b_1 : List Int),
 VIn N_2 s x_1 (↑(N / 4) : Int) (↑i.val.s.gen : Int) i.val.x.length 0 i.val.M (↑(2 * (N / 4)) : Int) (↑(N - 2 * (N / 4)) : Int) (↑i.val.s.gen : Int) (↑i.val.s.u : Int) (↑i.val.s.m : Int) 0 (secs i.val.x) [] [] ∧
 l_1 = ints IntKind.u8 b_1 ∧
 (∀ (c : Int), List.Mem c b_1 → 0 ≤ c ∧ c < 256) ∧
 b_1.length ≤ 800000 ∧
 s.gen < 1000 ∧
 ∀ (M' : ML) (x' : List (List Int)),
 Tab M' (putF N_2 s n_1 b_1).snd.l →
 (∃ (P0 : List (List Int)),
 ∃ (P1 : List (List Int)),
 ∃ (B : List (List Int)), ∃ (g0 : Nat), ∃ (g1 : Nat), ∃ (l0 : List P2), ∃ (l1 : List P2), ∃ (cs : List Chg), VJ N_2 (putF N_2 s n_1 b_1).snd.gen (putF N_2 s n_1 b_1).snd.l (putF N_2 s n_1 b_1).snd.u (putF N_2 s n_1 b_1).snd.m x' P0 P1 B g0 g1 l0 l1 cs) →
 At (plC N l i.val)
 ([V.dat (D.sl 4 (List.map acD l)), V.int IntKind.i64 (↑N : Int), V.ptr 0 0, V.ptr 1 0, V.int IntKind.i64 (putF N_2 s n_1 b_1).fst, V.dat (prs i.val.s.l), V.int IntKind.i64 (↑i.val.i : Int), V.dat (prs (putL x n_1 b)), V.int IntKind.i64 5],
 [KO.cells [V.sl 2 0 x'.length, V.sl 3 0 0, V.int IntKind.i64 (-1), V.sb false], KO.cells [V.ptr 0 0, V.int IntKind.i64 (↑(N_2 / 4) : Int), V.int IntKind.i64 (↑(putF N_2 s n_1 b_1).snd.gen : Int), V.mp 4, V.ptr 5 0, V.sb false], KO.row 82 64 (secs x'), KO.row 84 129 [],
 KO.mp [IntKind.i64] false false 1 M',
 KO.cells
 [V.ptr 0 0, V.int IntKind.i64 (↑(2 * (N_2 / 4)) : Int), V.int IntKind.i64 (↑(N_2 - 2 * (N_2 / 4)) : Int), V.int IntKind.i64 (↑(putF N_2 s n_1 b_1).snd.gen : Int), V.int IntKind.i64 (↑(putF N_2 s n_1 b_1).snd.u : Int),
 V.int IntKind.i64 (↑(putF N_2 s n_1 b_1).snd.m : Int), V.sl 6 0 0, V.sb false],
 KO.row 126 2 []])) ∧
 (decide (n_1 > 1099511627776) = false →
 ∃ (N_2 : Nat),
 ∃ (s : VSt),
 ∃ (x_1 : List (List Int)),
 ∃ (b_1 : List Int),
 VIn N_2 s x_1 (↑(N / 4) : Int) (↑i.val.s.gen : Int) i.val.x.length 0 i.val.M (↑(2 * (N / 4)) : Int) (↑(N - 2 * (N / 4)) : Int) (↑i.val.s.gen : Int) (↑i.val.s.u : Int) (↑i.val.s.m : Int) 0 (secs i.val.x) [] [] ∧
 l_1 = ints IntKind.u8 b_1 ∧
 (∀ (c : Int), List.Mem c b_1 → 0 ≤ c ∧ c < 256) ∧
 b_1.length ≤ 800000 ∧
 s.gen < 1000 ∧
 ∀ (M' : ML) (x' : List (List Int)),
 Tab M' (putF N_2 s n_1 b_1).snd.l →
 (∃ (P0 : List (List Int)),
 ∃ (P1 : List (List Int)),
 ∃ (B : List (List Int)), ∃ (g0 : Nat), ∃ (g1 : Nat), ∃ (l0 : List P2), ∃ (l1 : List P2), ∃ (cs : List Chg), VJ N_2 (putF N_2 s n_1 b_1).snd.gen (putF N_2 s n_1 b_1).snd.l (putF N_2 s n_1 b_1).snd.u (putF N_2 s n_1 b_1).snd.m x' P0 P1 B g0 g1 l0 l1 cs) →
 At (plC N l i.val)
 ([V.dat (D.sl 4 (List.map acD l)), V.int IntKind.i64 (↑N : Int), V.ptr 0 0, V.ptr 1 0, V.int IntKind.i64 (putF N_2 s n_1 b_1).fst, V.dat (prs i.val.s.l), V.int IntKind.i64 (↑i.val.i : Int), V.dat (prs (putL x n_1 b)), V.int IntKind.i64 15],
 [KO.cells [V.sl 2 0 x'.length, V.sl 3 0 0, V.int IntKind.i64 (-1), V.sb false], KO.cells [V.ptr 0 0, V.int IntKind.i64 (↑(N_2 / 4) : Int), V.int IntKind.i64 (↑(putF N_2 s n_1 b_1).snd.gen : Int), V.mp 4, V.ptr 5 0, V.sb false], KO.row 82 64 (secs x'), KO.row 84 129 [],
 KO.mp [IntKind.i64] false false 1 M',
 KO.cells
 [V.ptr 0 0, V.int IntKind.i64 (↑(2 * (N_2 / 4)) : Int), V.int IntKind.i64 (↑(N_2 - 2 * (N_2 / 4)) : Int), V.int IntKind.i64 (↑(putF N_2 s n_1 b_1).snd.gen : Int), V.int IntKind.i64 (↑(putF N_2 s n_1 b_1).snd.u : Int),
 V.int IntKind.i64 (↑(putF N_2 s n_1 b_1).snd.m : Int), V.sl 6 0 0, V.sb false],
 KO.row 126 2 []])))) ∧
 (decide ((↑l_1.length : Int) > 900) = false →
 (decide (n_1 < 0) = true →
 ∃ (N_2 : Nat),
 ∃ (s : VSt),
 ∃ (x_1 : List (List Int)),
 ∃ (b_1 : List Int),
 VIn N_2 s x_1 (↑(N / 4) : Int) (↑i.val.s.gen : Int) i.val.x.length 0 i.val.M (↑(2 * (N / 4)) : Int) (↑(N - 2 * (N / 4)) : Int) (↑i.val.s.gen : Int) (↑i.val.s.u : Int) (↑i.val.s.m : Int) 0 (secs i.val.x) [] [] ∧
 l_1 = ints IntKind.u8 b_1 ∧
 (∀ (c : Int), List.Mem c b_1 → 0 ≤ c ∧ c < 256) ∧
 b_1.length ≤ 800000 ∧
 s.gen < 1000 ∧
 ∀ (M' : ML) (x' : List (List Int)),
 Tab M' (putF N_2 s n_1 b_1).snd.l →
 (∃ (P0 : List (List Int)),
 ∃ (P1 : List (List Int)), ∃ (B : List (List Int)), ∃ (g0 : Nat), ∃ (g1 : Nat), ∃ (l0 : List P2), ∃ (l1 : List P2), ∃ (cs : List Chg), VJ N_2 (putF N_2 s n_1 b_1).snd.gen (putF N_2 s n_1 b_1).snd.l (putF N_2 s n_1 b_1).snd.u (putF N_2 s n_1 b_1).snd.m x' P0 P1 B g0 g1 l0 l1 cs) →
 At (plC N l i.val)
 ([V.dat (D.sl 4 (List.map acD l)), V.int IntKind.i64 (↑N : Int), V.ptr 0 0, V.ptr 1 0, V.int IntKind.i64 (putF N_2 s n_1 b_1).fst, V.dat (prs i.val.s.l), V.int IntKind.i64 (↑i.val.i : Int), V.dat (prs (putL x n_1 b)), V.int IntKind.i64 5],
 [KO.cells [V.sl 2 0 x'.length, V.sl 3 0 0, V.int IntKind.i64 (-1), V.sb false], KO.cells [V.ptr 0 0, V.int IntKind.i64 (↑(N_2 / 4) : Int), V.int IntKind.i64 (↑(putF N_2 s n_1 b_1).snd.gen : Int), V.mp 4, V.ptr 5 0, V.sb false], KO.row 82 64 (secs x'), KO.row 84 129 [],
 KO.mp [IntKind.i64] false false 1 M',
 KO.cells
 [V.ptr 0 0, V.int IntKind.i64 (↑(2 * (N_2 / 4)) : Int), V.int IntKind.i64 (↑(N_2 - 2 * (N_2 / 4)) : Int), V.int IntKind.i64 (↑(putF N_2 s n_1 b_1).snd.gen : Int), V.int IntKind.i64 (↑(putF N_2 s n_1 b_1).snd.u : Int), V.int IntKind.i64 (↑(putF N_2 s n_1 b_1).snd.m : Int),
 V.sl 6 0 0, V.sb false],
 KO.row 126 2 []])) ∧
 (decide (n_1 < 0) = false →
 (decide (n_1 > 1099511627776) = true →
 ∃ (N_2 : Nat),
 ∃ (s : VSt),
 ∃ (x_1 : List (List Int)),
 ∃ (b_1 : List Int),
 VIn N_2 s x_1 (↑(N / 4) : Int) (↑i.val.s.gen : Int) i.val.x.length 0 i.val.M (↑(2 * (N / 4)) : Int) (↑(N - 2 * (N / 4)) : Int) (↑i.val.s.gen : Int) (↑i.val.s.u : Int) (↑i.val.s.m : Int) 0 (secs i.val.x) [] [] ∧
 l_1 = ints IntKind.u8 b_1 ∧
 (∀ (c : Int), List.Mem c b_1 → 0 ≤ c ∧ c < 256) ∧
 b_1.length ≤ 800000 ∧
 s.gen < 1000 ∧
 ∀ (M' : ML) (x' : List (List Int)),
 Tab M' (putF N_2 s n_1 b_1).snd.l →
 (∃ (P0 : List (List Int)),
 ∃ (P1 : List (List Int)),
 ∃ (B : List (List Int)), ∃ (g0 : Nat), ∃ (g1 : Nat), ∃ (l0 : List P2), ∃ (l1 : List P2), ∃ (cs : List Chg), VJ N_2 (putF N_2 s n_1 b_1).snd.gen (putF N_2 s n_1 b_1).snd.l (putF N_2 s n_1 b_1).snd.u (putF N_2 s n_1 b_1).snd.m x' P0 P1 B g0 g1 l0 l1 cs) →
 At (plC N l i.val)
 ([V.dat (D.sl 4 (List.map acD l)), V.int IntKind.i64 (↑N : Int), V.ptr 0 0, V.ptr 1 0, V.int IntKind.i64 (putF N_2 s n_1 b_1).fst, V.dat (prs i.val.s.l), V.int IntKind.i64 (↑i.val.i : Int), V.dat (prs (putL x n_1 b)), V.int IntKind.i64 5],
 [KO.cells [V.sl 2 0 x'.length, V.sl 3 0 0, V.int IntKind.i64 (-1), V.sb false], KO.cells [V.ptr 0 0, V.int IntKind.i64 (↑(N_2 / 4) : Int), V.int IntKind.i64 (↑(putF N_2 s n_1 b_1).snd.gen : Int), V.mp 4, V.ptr 5 0, V.sb false], KO.row 82 64 (secs x'), KO.row 84 129 [],
 KO.mp [IntKind.i64] false false 1 M',
 KO.cells
 [V.ptr 0 0, V.int IntKind.i64 (↑(2 * (N_2 / 4)) : Int), V.int IntKind.i64 (↑(N_2 - 2 * (N_2 / 4)) : Int), V.int IntKind.i64 (↑(putF N_2 s n_1 b_1).snd.gen : Int), V.int IntKind.i64 (↑(putF N_2 s n_1 b_1).snd.u : Int),
 V.int IntKind.i64 (↑(putF N_2 s n_1 b_1).snd.m : Int), V.sl 6 0 0, V.sb false],
 KO.row 126 2 []])) ∧
 (decide (n_1 > 1099511627776) = false →
 ∃ (N_2 : Nat),
 ∃ (s : VSt),
 ∃ (x_1 : List (List Int)),
 ∃ (b_1 : List Int),
 VIn N_2 s x_1 (↑(N / 4) : Int) (↑i.val.s.gen : Int) i.val.x.length 0 i.val.M (↑(2 * (N / 4)) : Int) (↑(N - 2 * (N / 4)) : Int) (↑i.val.s.gen : Int) (↑i.val.s.u : Int) (↑i.val.s.m : Int) 0 (secs i.val.x) [] [] ∧
 l_1 = ints IntKind.u8 b_1 ∧
 (∀ (c : Int), List.Mem c b_1 → 0 ≤ c ∧ c < 256) ∧
 b_1.length ≤ 800000 ∧
 s.gen < 1000 ∧
 ∀ (M' : ML) (x' : List (List Int)),
 Tab M' (putF N_2 s n_1 b_1).snd.l →
 (∃ (P0 : List (List Int)),
 ∃ (P1 : List (List Int)),
 ∃ (B : List (List Int)), ∃ (g0 : Nat), ∃ (g1 : Nat), ∃ (l0 : List P2), ∃ (l1 : List P2), ∃ (cs : List Chg), VJ N_2 (putF N_2 s n_1 b_1).snd.gen (putF N_2 s n_1 b_1).snd.l (putF N_2 s n_1 b_1).snd.u (putF N_2 s n_1 b_1).snd.m x' P0 P1 B g0 g1 l0 l1 cs) →
 At (plC N l i.val)
 ([V.dat (D.sl 4 (List.map acD l)), V.int IntKind.i64 (↑N : Int), V.ptr 0 0, V.ptr 1 0, V.int IntKind.i64 (putF N_2 s n_1 b_1).fst, V.dat (prs i.val.s.l), V.int IntKind.i64 (↑i.val.i : Int), V.dat (prs (putL x n_1 b)), V.int IntKind.i64 0],
 [KO.cells [V.sl 2 0 x'.length, V.sl 3 0 0, V.int IntKind.i64 (-1), V.sb false], KO.cells [V.ptr 0 0, V.int IntKind.i64 (↑(N_2 / 4) : Int), V.int IntKind.i64 (↑(putF N_2 s n_1 b_1).snd.gen : Int), V.mp 4, V.ptr 5 0, V.sb false], KO.row 82 64 (secs x'), KO.row 84 129 [],
 KO.mp [IntKind.i64] false false 1 M',
 KO.cells
 [V.ptr 0 0, V.int IntKind.i64 (↑(2 * (N_2 / 4)) : Int), V.int IntKind.i64 (↑(N_2 - 2 * (N_2 / 4)) : Int), V.int IntKind.i64 (↑(putF N_2 s n_1 b_1).snd.gen : Int), V.int IntKind.i64 (↑(putF N_2 s n_1 b_1).snd.u : Int),
 V.int IntKind.i64 (↑(putF N_2 s n_1 b_1).snd.m : Int), V.sl 6 0 0, V.sb false],
 KO.row 126 2 []]))))) ∧
 ((n == 0) = false →
 ((n == 1) = true →
 ∃ (x : List P2),
 List.map prD i.val.s.l = List.map prD x ∧
 x.length ≤ 100000 ∧
 ∃ (x_1 : List P2),
 List.map prD i.val.s.l = List.map prD x_1 ∧
 x_1.length ≤ 100000 ∧
 ((∀ (p : P2), List.Mem p x_1 → p.fst ≠ n_1) →
 (true = true →
 ∃ (N_2 : Nat),
 ∃ (s : VSt),
 ∃ (x_2 : List (List Int)),
 VIn N_2 s x_2 (↑(N / 4) : Int) (↑i.val.s.gen : Int) i.val.x.length 0 i.val.M (↑(2 * (N / 4)) : Int) (↑(N - 2 * (N / 4)) : Int) (↑i.val.s.gen : Int) (↑i.val.s.u : Int) (↑i.val.s.m : Int) 0 (secs i.val.x) [] [] ∧
 s.gen < 1000 ∧
 ∀ (M' : ML) (x' : List (List Int)),
 Tab M' (dropF N_2 s n_1).snd.l →
 (∃ (P0 : List (List Int)),
 ∃ (P1 : List (List Int)), ∃ (B : List (List Int)), ∃ (g0 : Nat), ∃ (g1 : Nat), ∃ (l0 : List P2), ∃ (l1 : List P2), ∃ (cs : List Chg), VJ N_2 (dropF N_2 s n_1).snd.gen (dropF N_2 s n_1).snd.l (dropF N_2 s n_1).snd.u (dropF N_2 s n_1).snd.m x' P0 P1 B g0 g1 l0 l1 cs) →
 At (plC N l i.val)
 ([V.dat (D.sl 4 (List.map acD l)), V.int IntKind.i64 (↑N : Int), V.ptr 0 0, V.ptr 1 0, V.int IntKind.i64 (dropF N_2 s n_1).fst, V.dat (prs i.val.s.l), V.int IntKind.i64 (↑i.val.i : Int), V.dat (prs (outL x n_1)), V.int IntKind.i64 7],
 [KO.cells [V.sl 2 0 x'.length, V.sl 3 0 0, V.int IntKind.i64 (-1), V.sb false], KO.cells [V.ptr 0 0, V.int IntKind.i64 (↑(N_2 / 4) : Int), V.int IntKind.i64 (↑(dropF N_2 s n_1).snd.gen : Int), V.mp 4, V.ptr 5 0, V.sb false], KO.row 82 64 (secs x'), KO.row 84 129 [],
 KO.mp [IntKind.i64] false false 1 M',
 KO.cells
 [V.ptr 0 0, V.int IntKind.i64 (↑(2 * (N_2 / 4)) : Int), V.int IntKind.i64 (↑(N_2 - 2 * (N_2 / 4)) : Int), V.int IntKind.i64 (↑(dropF N_2 s n_1).snd.gen : Int), V.int IntKind.i64 (↑(dropF N_2 s n_1).snd.u : Int), V.int IntKind.i64 (↑(dropF N_2 s n_1).snd.m : Int), V.sl 6 0 0,
 V.sb false],
 KO.row 126 2 []])) ∧
 (true = false →
 ∃ (N_2 : Nat),
 ∃ (s : VSt),
 ∃ (x_2 : List (List Int)),
 VIn N_2 s x_2 (↑(N / 4) : Int) (↑i.val.s.gen : Int) i.val.x.length 0 i.val.M (↑(2 * (N / 4)) : Int) (↑(N - 2 * (N / 4)) : Int) (↑i.val.s.gen : Int) (↑i.val.s.u : Int) (↑i.val.s.m : Int) 0 (secs i.val.x) [] [] ∧
 s.gen < 1000 ∧
 ∀ (M' : ML) (x' : List (List Int)),
 Tab M' (dropF N_2 s n_1).snd.l →
 (∃ (P0 : List (List Int)),
 ∃ (P1 : List (List Int)), ∃ (B : List (List Int)), ∃ (g0 : Nat), ∃ (g1 : Nat), ∃ (l0 : List P2), ∃ (l1 : List P2), ∃ (cs : List Chg), VJ N_2 (dropF N_2 s n_1).snd.gen (dropF N_2 s n_1).snd.l (dropF N_2 s n_1).snd.u (dropF N_2 s n_1).snd.m x' P0 P1 B g0 g1 l0 l1 cs) →
 At (plC N l i.val)
 ([V.dat (D.sl 4 (List.map acD l)), V.int IntKind.i64 (↑N : Int), V.ptr 0 0, V.ptr 1 0, V.int IntKind.i64 (dropF N_2 s n_1).fst, V.dat (prs i.val.s.l), V.int IntKind.i64 (↑i.val.i : Int), V.dat (prs (outL x n_1)), V.int IntKind.i64 0],
 [KO.cells [V.sl 2 0 x'.length, V.sl 3 0 0, V.int IntKind.i64 (-1), V.sb false], KO.cells [V.ptr 0 0, V.int IntKind.i64 (↑(N_2 / 4) : Int), V.int IntKind.i64 (↑(dropF N_2 s n_1).snd.gen : Int), V.mp 4, V.ptr 5 0, V.sb false], KO.row 82 64 (secs x'), KO.row 84 129 [],
 KO.mp [IntKind.i64] false false 1 M',
 KO.cells
 [V.ptr 0 0, V.int IntKind.i64 (↑(2 * (N_2 / 4)) : Int), V.int IntKind.i64 (↑(N_2 - 2 * (N_2 / 4)) : Int), V.int IntKind.i64 (↑(dropF N_2 s n_1).snd.gen : Int), V.int IntKind.i64 (↑(dropF N_2 s n_1).snd.u : Int), V.int IntKind.i64 (↑(dropF N_2 s n_1).snd.m : Int), V.sl 6 0 0,
 V.sb false],
 KO.row 126 2 []]))) ∧
 ∀ (i_1 : Nat),
 i_1 < x_1.length →
 (gP x_1 i_1).fst = n_1 →
 (decide ((↑i_1 : Int) < 0) = true →
 ∃ (N_2 : Nat),
 ∃ (s : VSt),
 ∃ (x_2 : List (List Int)),
 VIn N_2 s x_2 (↑(N / 4) : Int) (↑i.val.s.gen : Int) i.val.x.length 0 i.val.M (↑(2 * (N / 4)) : Int) (↑(N - 2 * (N / 4)) : Int) (↑i.val.s.gen : Int) (↑i.val.s.u : Int) (↑i.val.s.m : Int) 0 (secs i.val.x) [] [] ∧
 s.gen < 1000 ∧
 ∀ (M' : ML) (x' : List (List Int)),
 Tab M' (dropF N_2 s n_1).snd.l →
 (∃ (P0 : List (List Int)),
 ∃ (P1 : List (List Int)), ∃ (B : List (List Int)), ∃ (g0 : Nat), ∃ (g1 : Nat), ∃ (l0 : List P2), ∃ (l1 : List P2), ∃ (cs : List Chg), VJ N_2 (dropF N_2 s n_1).snd.gen (dropF N_2 s n_1).snd.l (dropF N_2 s n_1).snd.u (dropF N_2 s n_1).snd.m x' P0 P1 B g0 g1 l0 l1 cs) →
 At (plC N l i.val)
 ([V.dat (D.sl 4 (List.map acD l)), V.int IntKind.i64 (↑N : Int), V.ptr 0 0, V.ptr 1 0, V.int IntKind.i64 (dropF N_2 s n_1).fst, V.dat (prs i.val.s.l), V.int IntKind.i64 (↑i.val.i : Int), V.dat (prs (outL x n_1)), V.int IntKind.i64 7],
 [KO.cells [V.sl 2 0 x'.length, V.sl 3 0 0, V.int IntKind.i64 (-1), V.sb false], KO.cells [V.ptr 0 0, V.int IntKind.i64 (↑(N_2 / 4) : Int), V.int IntKind.i64 (↑(dropF N_2 s n_1).snd.gen : Int), V.mp 4, V.ptr 5 0, V.sb false], KO.row 82 64 (secs x'), KO.row 84 129 [],
 KO.mp [IntKind.i64] false false 1 M',
 KO.cells
 [V.ptr 0 0, V.int IntKind.i64 (↑(2 * (N_2 / 4)) : Int), V.int IntKind.i64 (↑(N_2 - 2 * (N_2 / 4)) : Int), V.int IntKind.i64 (↑(dropF N_2 s n_1).snd.gen : Int), V.int IntKind.i64 (↑(dropF N_2 s n_1).snd.u : Int), V.int IntKind.i64 (↑(dropF N_2 s n_1).snd.m : Int),
 V.sl 6 0 0, V.sb false],
 KO.row 126 2 []])) ∧
 (decide ((↑i_1 : Int) < 0) = false →
 ∃ (N_2 : Nat),
 ∃ (s : VSt),
 ∃ (x_2 : List (List Int)),
 VIn N_2 s x_2 (↑(N / 4) : Int) (↑i.val.s.gen : Int) i.val.x.length 0 i.val.M (↑(2 * (N / 4)) : Int) (↑(N - 2 * (N / 4)) : Int) (↑i.val.s.gen : Int) (↑i.val.s.u : Int) (↑i.val.s.m : Int) 0 (secs i.val.x) [] [] ∧
 s.gen < 1000 ∧
 ∀ (M' : ML) (x' : List (List Int)),
 Tab M' (dropF N_2 s n_1).snd.l →
 (∃ (P0 : List (List Int)),
 ∃ (P1 : List (List Int)), ∃ (B : List (List Int)), ∃ (g0 : Nat), ∃ (g1 : Nat), ∃ (l0 : List P2), ∃ (l1 : List P2), ∃ (cs : List Chg), VJ N_2 (dropF N_2 s n_1).snd.gen (dropF N_2 s n_1).snd.l (dropF N_2 s n_1).snd.u (dropF N_2 s n_1).snd.m x' P0 P1 B g0 g1 l0 l1 cs) →
 At (plC N l i.val)
 ([V.dat (D.sl 4 (List.map acD l)), V.int IntKind.i64 (↑N : Int), V.ptr 0 0, V.ptr 1 0, V.int IntKind.i64 (dropF N_2 s n_1).fst, V.dat (prs i.val.s.l), V.int IntKind.i64 (↑i.val.i : Int), V.dat (prs (outL x n_1)), V.int IntKind.i64 0],
 [KO.cells [V.sl 2 0 x'.length, V.sl 3 0 0, V.int IntKind.i64 (-1), V.sb false], KO.cells [V.ptr 0 0, V.int IntKind.i64 (↑(N_2 / 4) : Int), V.int IntKind.i64 (↑(dropF N_2 s n_1).snd.gen : Int), V.mp 4, V.ptr 5 0, V.sb false], KO.row 82 64 (secs x'), KO.row 84 129 [],
 KO.mp [IntKind.i64] false false 1 M',
 KO.cells
 [V.ptr 0 0, V.int IntKind.i64 (↑(2 * (N_2 / 4)) : Int), V.int IntKind.i64 (↑(N_2 - 2 * (N_2 / 4)) : Int), V.int IntKind.i64 (↑(dropF N_2 s n_1).snd.gen : Int), V.int IntKind.i64 (↑(dropF N_2 s n_1).snd.u : Int), V.int IntKind.i64 (↑(dropF N_2 s n_1).snd.m : Int),
 V.sl 6 0 0, V.sb false],
 KO.row 126 2 []]))) ∧
 ((n == 1) = false →
 ((n == 2) = true →
 ∃ (x : List (List Int)),
 secs i.val.x = secs x ∧
 i.val.x.length = x.length ∧
 NoW 0 [] ∧
 ∃ (N_2 : Nat),
 ∃ (s : VSt),
 ∃ (x_1 : List (List Int)),
 secs x = secs x_1 ∧
 x.length = x_1.length ∧
 NoW 0 [] ∧
 (∃ (P0 : List (List Int)), ∃ (P1 : List (List Int)), ∃ (B : List (List Int)), ∃ (g0 : Nat), ∃ (g1 : Nat), ∃ (l0 : List P2), ∃ (l1 : List P2), ∃ (cs : List Chg), VJ N_2 s.gen s.l s.u s.m x_1 P0 P1 B g0 g1 l0 l1 cs) ∧
 ∀ (M : ML),
 Tab M s.l →
 At (plC N l i.val)
 ([V.dat (D.sl 4 (List.map acD l)), V.int IntKind.i64 (↑N : Int), V.ptr 0 0, V.ptr 1 0, V.int IntKind.i64 0, V.dat (prs i.val.s.l), V.int IntKind.i64 (↑i.val.i : Int), V.dat (prs i.val.s.l), V.int IntKind.i64 0],
 [KO.cells [V.sl 2 0 x_1.length, V.sl 3 0 0, V.int IntKind.i64 (-1), V.sb false], KO.cells [V.ptr 0 0, V.int IntKind.i64 (↑(N_2 / 4) : Int), V.int IntKind.i64 (↑s.gen : Int), V.mp 4, V.ptr 5 0, V.sb false], KO.row 82 64 (secs x_1), KO.row 84 129 [], KO.mp [IntKind.i64] false false 1 M,
 KO.cells [V.ptr 0 0, V.int IntKind.i64 (↑(2 * (N_2 / 4)) : Int), V.int IntKind.i64 (↑(N_2 - 2 * (N_2 / 4)) : Int), V.int IntKind.i64 (↑s.gen : Int), V.int IntKind.i64 (↑s.u : Int), V.int IntKind.i64 (↑s.m : Int), V.sl 6 0 0, V.sb false], KO.row 126 2 []])) ∧
 ((n == 2) = false →
 At (plC N l i.val)
 ([V.dat (D.sl 4 (List.map acD l)), V.int IntKind.i64 (↑N : Int), V.ptr 0 0, V.ptr 1 0, V.int IntKind.i64 0, V.dat (prs i.val.s.l), V.int IntKind.i64 (↑i.val.i : Int), V.dat (prs i.val.s.l), V.int IntKind.i64 0],
 [KO.cells [V.sl 2 0 i.val.x.length, V.sl 3 0 0, V.int IntKind.i64 (-1), V.sb false], KO.cells [V.ptr 0 0, V.int IntKind.i64 (↑(N / 4) : Int), V.int IntKind.i64 (↑i.val.s.gen : Int), V.mp 4, V.ptr 5 0, V.sb false], KO.row 82 64 (secs i.val.x), KO.row 84 129 [], KO.mp [IntKind.i64] false false 1 i.val.M,
 KO.cells [V.ptr 0 0, V.int IntKind.i64 (↑(2 * (N / 4)) : Int), V.int IntKind.i64 (↑(N - 2 * (N / 4)) : Int), V.int IntKind.i64 (↑i.val.s.gen : Int), V.int IntKind.i64 (↑i.val.s.u : Int), V.int IntKind.i64 (↑i.val.s.m : Int), V.sl 6 0 0, V.sb false], KO.row 126 2 []]))))) ∧
 ∀ (i_1 : { c : VQ // PcI N (actF N i.val.s (gA l i.val.i)).s c }),
 (((actF N i.val.s (gA l i.val.i)).want == 0) = true →
 (((actF N i.val.s (gA l i.val.i)).e == 6) = true →
 ∃ (x : List P2),
 List.map prD (actF N i.val.s (gA l i.val.i)).next = List.map prD x ∧
 OkL x ∧
 x.length ≤ 10000 ∧
 (decide ((↑(secL x) : Int) > IntKind.i64.wrap ((↑N : Int).tdiv 4)) = true →
 Nx (plLI N l) i
 ([V.dat (D.sl 4 (List.map acD l)), V.int IntKind.i64 (↑N : Int), V.ptr 0 0, V.ptr 1 0, V.dat (prs i.val.s.l), V.int IntKind.i64 (IntKind.i64.wrap ((↑i.val.i : Int) + 1))],
 [KO.cells [V.sl 2 0 i_1.val.x.length, V.sl 3 0 0, V.int IntKind.i64 (-1), V.sb false], KO.cells [V.ptr 0 0, V.int IntKind.i64 (↑(N / 4) : Int), V.int IntKind.i64 (↑(actF N i.val.s (gA l i.val.i)).s.gen : Int), V.mp 4, V.ptr 5 0, V.sb false], KO.row 82 64 (secs i_1.val.x), KO.row 84 129 [],
 KO.mp [IntKind.i64] false false 1 i_1.val.M,
 KO.cells
 [V.ptr 0 0, V.int IntKind.i64 (↑(2 * (N / 4)) : Int), V.int IntKind.i64 (↑(N - 2 * (N / 4)) : Int), V.int IntKind.i64 (↑(actF N i.val.s (gA l i.val.i)).s.gen : Int), V.int IntKind.i64 (↑(actF N i.val.s (gA l i.val.i)).s.u : Int), V.int IntKind.i64 (↑(actF N i.val.s (gA l i.val.i)).s.m : Int),
 V.sl 6 0 0, V.sb false],
 KO.row 126 2 []])) ∧
 (decide ((↑(secL x) : Int) > IntKind.i64.wrap ((↑N : Int).tdiv 4)) = false →
 (((actF N i.val.s (gA l i.val.i)).e != (actF N i.val.s (gA l i.val.i)).want) = true → False) ∧
 (((actF N i.val.s (gA l i.val.i)).e != (actF N i.val.s (gA l i.val.i)).want) = false →
 (((actF N i.val.s (gA l i.val.i)).want == 0) = true →
 ∃ (N_2 : Nat),
 ∃ (s : VSt),
 ∃ (x : List (List Int)),
 VIn N_2 s x (↑(N / 4) : Int) (↑(actF N i.val.s (gA l i.val.i)).s.gen : Int) i_1.val.x.length 0 i_1.val.M (↑(2 * (N / 4)) : Int) (↑(N - 2 * (N / 4)) : Int) (↑(actF N i.val.s (gA l i.val.i)).s.gen : Int) (↑(actF N i.val.s (gA l i.val.i)).s.u : Int) (↑(actF N i.val.s (gA l i.val.i)).s.m : Int) 0
 (secs i_1.val.x) [] [] ∧
 ∃ (x_1 : List P2),
 ∃ (y : List P2),
 List.map prD s.l = List.map prD x_1 ∧
 List.map prD (actF N i.val.s (gA l i.val.i)).next = List.map prD y ∧
 x_1.length ≤ 100000 ∧
 y.length ≤ 100000 ∧
 (∀ (p : P2), List.Mem p x_1 → p.snd.length ≤ 800000) ∧
 (∀ (p : P2), List.Mem p y → p.snd.length ≤ 800000) ∧
 ((!decide (x_1 = y)) = true → False) ∧
 ((!decide (x_1 = y)) = false →
 Nx (plLI N l) i
 ([V.dat (D.sl 4 (List.map acD l)), V.int IntKind.i64 (↑N : Int), V.ptr 0 0, V.ptr 1 0, V.dat (prs (actF N i.val.s (gA l i.val.i)).next), V.int IntKind.i64 (IntKind.i64.wrap ((↑i.val.i : Int) + 1))],
 [KO.cells [V.sl 2 0 x.length, V.sl 3 0 0, V.int IntKind.i64 (-1), V.sb false], KO.cells [V.ptr 0 0, V.int IntKind.i64 (↑(N_2 / 4) : Int), V.int IntKind.i64 (↑s.gen : Int), V.mp 4, V.ptr 5 0, V.sb false], KO.row 82 64 (secs x), KO.row 84 129 [],
 KO.mp [IntKind.i64] false false 1 i_1.val.M,
 KO.cells [V.ptr 0 0, V.int IntKind.i64 (↑(2 * (N_2 / 4)) : Int), V.int IntKind.i64 (↑(N_2 - 2 * (N_2 / 4)) : Int), V.int IntKind.i64 (↑s.gen : Int), V.int IntKind.i64 (↑s.u : Int), V.int IntKind.i64 (↑s.m : Int), V.sl 6 0 0, V.sb false], KO.row 126 2 []]))) ∧
 (((actF N i.val.s (gA l i.val.i)).want == 0) = false →
 ∃ (N_2 : Nat),
 ∃ (s : VSt),
 ∃ (x : List (List Int)),
 VIn N_2 s x (↑(N / 4) : Int) (↑(actF N i.val.s (gA l i.val.i)).s.gen : Int) i_1.val.x.length 0 i_1.val.M (↑(2 * (N / 4)) : Int) (↑(N - 2 * (N / 4)) : Int) (↑(actF N i.val.s (gA l i.val.i)).s.gen : Int) (↑(actF N i.val.s (gA l i.val.i)).s.u : Int) (↑(actF N i.val.s (gA l i.val.i)).s.m : Int) 0
 (secs i_1.val.x) [] [] ∧
 ∃ (x_1 : List P2),
 ∃ (y : List P2),
 List.map prD s.l = List.map prD x_1 ∧
 List.map prD i.val.s.l = List.map prD y ∧
 x_1.length ≤ 100000 ∧
 y.length ≤ 100000 ∧
 (∀ (p : P2), List.Mem p x_1 → p.snd.length ≤ 800000) ∧
 (∀ (p : P2), List.Mem p y → p.snd.length ≤ 800000) ∧
 ((!decide (x_1 = y)) = true → False) ∧
 ((!decide (x_1 = y)) = false →
 Nx (plLI N l) i
 ([V.dat (D.sl 4 (List.map acD l)), V.int IntKind.i64 (↑N : Int), V.ptr 0 0, V.ptr 1 0, V.dat (prs i.val.s.l), V.int IntKind.i64 (IntKind.i64.wrap ((↑i.val.i : Int) + 1))],
 [KO.cells [V.sl 2 0 x.length, V.sl 3 0 0, V.int IntKind.i64 (-1), V.sb false], KO.cells [V.ptr 0 0, V.int IntKind.i64 (↑(N_2 / 4) : Int), V.int IntKind.i64 (↑s.gen : Int), V.mp 4, V.ptr 5 0, V.sb false], KO.row 82 64 (secs x), KO.row 84 129 [],
 KO.mp [IntKind.i64] false false 1 i_1.val.M,
 KO.cells [V.ptr 0 0, V.int IntKind.i64 (↑(2 * (N_2 / 4)) : Int), V.int IntKind.i64 (↑(N_2 - 2 * (N_2 / 4)) : Int), V.int IntKind.i64 (↑s.gen : Int), V.int IntKind.i64 (↑s.u : Int), V.int IntKind.i64 (↑s.m : Int), V.sl 6 0 0, V.sb false], KO.row 126 2 []])))))) ∧
 (((actF N i.val.s (gA l i.val.i)).e == 6) = false →
 (((actF N i.val.s (gA l i.val.i)).e != (actF N i.val.s (gA l i.val.i)).want) = true → False) ∧
 (((actF N i.val.s (gA l i.val.i)).e != (actF N i.val.s (gA l i.val.i)).want) = false →
 (((actF N i.val.s (gA l i.val.i)).want == 0) = true →
 ∃ (N_2 : Nat),
 ∃ (s : VSt),
 ∃ (x : List (List Int)),
 VIn N_2 s x (↑(N / 4) : Int) (↑(actF N i.val.s (gA l i.val.i)).s.gen : Int) i_1.val.x.length 0 i_1.val.M (↑(2 * (N / 4)) : Int) (↑(N - 2 * (N / 4)) : Int) (↑(actF N i.val.s (gA l i.val.i)).s.gen : Int) (↑(actF N i.val.s (gA l i.val.i)).s.u : Int) (↑(actF N i.val.s (gA l i.val.i)).s.m : Int) 0
 (secs i_1.val.x) [] [] ∧
 ∃ (x_1 : List P2),
 ∃ (y : List P2),
 List.map prD s.l = List.map prD x_1 ∧
 List.map prD (actF N i.val.s (gA l i.val.i)).next = List.map prD y ∧
 x_1.length ≤ 100000 ∧
 y.length ≤ 100000 ∧
 (∀ (p : P2), List.Mem p x_1 → p.snd.length ≤ 800000) ∧
 (∀ (p : P2), List.Mem p y → p.snd.length ≤ 800000) ∧
 ((!decide (x_1 = y)) = true → False) ∧
 ((!decide (x_1 = y)) = false →
 Nx (plLI N l) i
 ([V.dat (D.sl 4 (List.map acD l)), V.int IntKind.i64 (↑N : Int), V.ptr 0 0, V.ptr 1 0, V.dat (prs (actF N i.val.s (gA l i.val.i)).next), V.int IntKind.i64 (IntKind.i64.wrap ((↑i.val.i : Int) + 1))],
 [KO.cells [V.sl 2 0 x.length, V.sl 3 0 0, V.int IntKind.i64 (-1), V.sb false], KO.cells [V.ptr 0 0, V.int IntKind.i64 (↑(N_2 / 4) : Int), V.int IntKind.i64 (↑s.gen : Int), V.mp 4, V.ptr 5 0, V.sb false], KO.row 82 64 (secs x), KO.row 84 129 [],
 KO.mp [IntKind.i64] false false 1 i_1.val.M,
 KO.cells [V.ptr 0 0, V.int IntKind.i64 (↑(2 * (N_2 / 4)) : Int), V.int IntKind.i64 (↑(N_2 - 2 * (N_2 / 4)) : Int), V.int IntKind.i64 (↑s.gen : Int), V.int IntKind.i64 (↑s.u : Int), V.int IntKind.i64 (↑s.m : Int), V.sl 6 0 0, V.sb false], KO.row 126 2 []]))) ∧
 (((actF N i.val.s (gA l i.val.i)).want == 0) = false →
 ∃ (N_2 : Nat),
 ∃ (s : VSt),
 ∃ (x : List (List Int)),
 VIn N_2 s x (↑(N / 4) : Int) (↑(actF N i.val.s (gA l i.val.i)).s.gen : Int) i_1.val.x.length 0 i_1.val.M (↑(2 * (N / 4)) : Int) (↑(N - 2 * (N / 4)) : Int) (↑(actF N i.val.s (gA l i.val.i)).s.gen : Int) (↑(actF N i.val.s (gA l i.val.i)).s.u : Int) (↑(actF N i.val.s (gA l i.val.i)).s.m : Int) 0
 (secs i_1.val.x) [] [] ∧
 ∃ (x_1 : List P2),
 ∃ (y : List P2),
 List.map prD s.l = List.map prD x_1 ∧
 List.map prD i.val.s.l = List.map prD y ∧
 x_1.length ≤ 100000 ∧
 y.length ≤ 100000 ∧
 (∀ (p : P2), List.Mem p x_1 → p.snd.length ≤ 800000) ∧
 (∀ (p : P2), List.Mem p y → p.snd.length ≤ 800000) ∧
 ((!decide (x_1 = y)) = true → False) ∧
 ((!decide (x_1 = y)) = false →
 Nx (plLI N l) i
 ([V.dat (D.sl 4 (List.map acD l)), V.int IntKind.i64 (↑N : Int), V.ptr 0 0, V.ptr 1 0, V.dat (prs i.val.s.l), V.int IntKind.i64 (IntKind.i64.wrap ((↑i.val.i : Int) + 1))],
 [KO.cells [V.sl 2 0 x.length, V.sl 3 0 0, V.int IntKind.i64 (-1), V.sb false], KO.cells [V.ptr 0 0, V.int IntKind.i64 (↑(N_2 / 4) : Int), V.int IntKind.i64 (↑s.gen : Int), V.mp 4, V.ptr 5 0, V.sb false], KO.row 82 64 (secs x), KO.row 84 129 [],
 KO.mp [IntKind.i64] false false 1 i_1.val.M,
 KO.cells [V.ptr 0 0, V.int IntKind.i64 (↑(2 * (N_2 / 4)) : Int), V.int IntKind.i64 (↑(N_2 - 2 * (N_2 / 4)) : Int), V.int IntKind.i64 (↑s.gen : Int), V.int IntKind.i64 (↑s.u : Int), V.int IntKind.i64 (↑s.m : Int), V.sl 6 0 0, V.sb false], KO.row 126 2 []])))))) ∧
 (((actF N i.val.s (gA l i.val.i)).want == 0) = false →
 (((actF N i.val.s (gA l i.val.i)).e != (actF N i.val.s (gA l i.val.i)).want) = true → False) ∧
 (((actF N i.val.s (gA l i.val.i)).e != (actF N i.val.s (gA l i.val.i)).want) = false →
 (((actF N i.val.s (gA l i.val.i)).want == 0) = true →
 ∃ (N_2 : Nat),
 ∃ (s : VSt),
 ∃ (x : List (List Int)),
 VIn N_2 s x (↑(N / 4) : Int) (↑(actF N i.val.s (gA l i.val.i)).s.gen : Int) i_1.val.x.length 0 i_1.val.M (↑(2 * (N / 4)) : Int) (↑(N - 2 * (N / 4)) : Int) (↑(actF N i.val.s (gA l i.val.i)).s.gen : Int) (↑(actF N i.val.s (gA l i.val.i)).s.u : Int) (↑(actF N i.val.s (gA l i.val.i)).s.m : Int) 0 (secs i_1.val.x)
 [] [] ∧
 ∃ (x_1 : List P2),
 ∃ (y : List P2),
 List.map prD s.l = List.map prD x_1 ∧
 List.map prD (actF N i.val.s (gA l i.val.i)).next = List.map prD y ∧
 x_1.length ≤ 100000 ∧
 y.length ≤ 100000 ∧
 (∀ (p : P2), List.Mem p x_1 → p.snd.length ≤ 800000) ∧
 (∀ (p : P2), List.Mem p y → p.snd.length ≤ 800000) ∧
 ((!decide (x_1 = y)) = true → False) ∧
 ((!decide (x_1 = y)) = false →
 Nx (plLI N l) i
 ([V.dat (D.sl 4 (List.map acD l)), V.int IntKind.i64 (↑N : Int), V.ptr 0 0, V.ptr 1 0, V.dat (prs (actF N i.val.s (gA l i.val.i)).next), V.int IntKind.i64 (IntKind.i64.wrap ((↑i.val.i : Int) + 1))],
 [KO.cells [V.sl 2 0 x.length, V.sl 3 0 0, V.int IntKind.i64 (-1), V.sb false], KO.cells [V.ptr 0 0, V.int IntKind.i64 (↑(N_2 / 4) : Int), V.int IntKind.i64 (↑s.gen : Int), V.mp 4, V.ptr 5 0, V.sb false], KO.row 82 64 (secs x), KO.row 84 129 [],
 KO.mp [IntKind.i64] false false 1 i_1.val.M, KO.cells [V.ptr 0 0, V.int IntKind.i64 (↑(2 * (N_2 / 4)) : Int), V.int IntKind.i64 (↑(N_2 - 2 * (N_2 / 4)) : Int), V.int IntKind.i64 (↑s.gen : Int), V.int IntKind.i64 (↑s.u : Int), V.int IntKind.i64 (↑s.m : Int), V.sl 6 0 0, V.sb false],
 KO.row 126 2 []]))) ∧
 (((actF N i.val.s (gA l i.val.i)).want == 0) = false →
 ∃ (N_2 : Nat),
 ∃ (s : VSt),
 ∃ (x : List (List Int)),
 VIn N_2 s x (↑(N / 4) : Int) (↑(actF N i.val.s (gA l i.val.i)).s.gen : Int) i_1.val.x.length 0 i_1.val.M (↑(2 * (N / 4)) : Int) (↑(N - 2 * (N / 4)) : Int) (↑(actF N i.val.s (gA l i.val.i)).s.gen : Int) (↑(actF N i.val.s (gA l i.val.i)).s.u : Int) (↑(actF N i.val.s (gA l i.val.i)).s.m : Int) 0 (secs i_1.val.x)
 [] [] ∧
 ∃ (x_1 : List P2),
 ∃ (y : List P2),
 List.map prD s.l = List.map prD x_1 ∧
 List.map prD i.val.s.l = List.map prD y ∧
 x_1.length ≤ 100000 ∧
 y.length ≤ 100000 ∧
 (∀ (p : P2), List.Mem p x_1 → p.snd.length ≤ 800000) ∧
 (∀ (p : P2), List.Mem p y → p.snd.length ≤ 800000) ∧
 ((!decide (x_1 = y)) = true → False) ∧
 ((!decide (x_1 = y)) = false →
 Nx (plLI N l) i
 ([V.dat (D.sl 4 (List.map acD l)), V.int IntKind.i64 (↑N : Int), V.ptr 0 0, V.ptr 1 0, V.dat (prs i.val.s.l), V.int IntKind.i64 (IntKind.i64.wrap ((↑i.val.i : Int) + 1))],
 [KO.cells [V.sl 2 0 x.length, V.sl 3 0 0, V.int IntKind.i64 (-1), V.sb false], KO.cells [V.ptr 0 0, V.int IntKind.i64 (↑(N_2 / 4) : Int), V.int IntKind.i64 (↑s.gen : Int), V.mp 4, V.ptr 5 0, V.sb false], KO.row 82 64 (secs x), KO.row 84 129 [],
 KO.mp [IntKind.i64] false false 1 i_1.val.M, KO.cells [V.ptr 0 0, V.int IntKind.i64 (↑(2 * (N_2 / 4)) : Int), V.int IntKind.i64 (↑(N_2 - 2 * (N_2 / 4)) : Int), V.int IntKind.i64 (↑s.gen : Int), V.int IntKind.i64 (↑s.u : Int), V.int IntKind.i64 (↑s.m : Int), V.sl 6 0 0, V.sb false],
 KO.row 126 2 []])))))))) ∧
 (decide ((↑i.val.i : Int) < (↑(List.map acD l).length : Int)) = false → true = true))))
 ) : XP N l 5 [.int .u8 sc, .dat (.sl 4 (l.map acD))] [] KT := by apply Eq.mp (a := hvc_); kernel_rfl
end Go.Proofs.Ytkodjbegpheomaa
