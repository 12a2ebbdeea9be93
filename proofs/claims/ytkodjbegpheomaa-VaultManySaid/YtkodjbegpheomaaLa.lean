import Derived.Test.YtkodjbegpheomaaVb
import Derived.KernelRfl
namespace Go.Proofs.Ytkodjbegpheomaa
open Vc Go
set_option linter.unusedVariables false
set_option linter.unusedSimpArgs false
set_option maxRecDepth 100000
def Sawake : FSpec := fun args kb K => match args, kb with | [], [] => K (.sb true) [] | _, _ => False
def awS : FuncId → Option Known
  | 7 => some ⟨[], SdNew⟩
  | 15 => some ⟨[.asis, .lend 1], SdBoot⟩
  | 8 => some ⟨[], SvOpen⟩
  | 10 => some ⟨[.asis, .asis, .give 1], SvPut⟩
  | 20 => some ⟨[], SvDrop⟩
  | 11 => some ⟨[], SvGet⟩
  | 22 => some ⟨[], SvKeys⟩
  | 9 => some ⟨[], SvGen⟩
  | 17 => some ⟨[], SvPairs⟩
  | 14 => some ⟨[.give 2, .asis, .give 1], SrPut⟩
  | 18 => some ⟨[.give 2], SrOut⟩
  | 19 => some ⟨[.give 2], SrAt⟩
  | 16 => some ⟨[.give 2, .give 2], SrSame⟩
  | 21 => some ⟨[.give 2], SrSectors⟩
  | 12 => some ⟨[.lend 1, .lend 1], Ssame⟩
  | _ => none
noncomputable def XAw : CallT := callS Try.prog awS noT 10
def lawS : FuncId → Option Known
  | 13 => some ⟨[], Sawake⟩
  | f => awS f
/-- A vault at a loop's head: the device, the vault, the rest. -/
abbrev vauD (N : Nat) (s : VSt) (M : ML) (x : List (List Int)) : KB := [devV 2 3 x.length 0, .cells [.ptr 0 0, .int .i64 ((N / 4 : Nat) : Int), .int .i64 (s.gen : Int), .mp 4, .ptr 5 0, .sb false], secR x, waiR [], mpT M,
  .cells [.ptr 0 0, .int .i64 ((2 * (N / 4) : Nat) : Int), .int .i64 ((N - 2 * (N / 4) : Nat) : Int), .int .i64 (s.gen : Int), .int .i64 (s.u : Int), .int .i64 (s.m : Int), .sl 6 0 0, .sb false], begV []]
structure VQ where
  i : Nat
  M : ML
  x : List (List Int)
/-- A vault behind i rounds. -/
structure VqI (N n : Nat) (s : VSt) (q : VQ) : Prop where
  i : q.i ≤ n
  vi : VIs N s q.x
  tab : Tab q.M s.l
def tuS (k : Int) (i : Nat) : VSt := ⟨i / 13, if i = 0 then [] else [(k, [IntKind.u8.wrap ((i - 1 : Nat) : Int)])], i % 13, i % 13⟩
abbrev tuLI (n : Nat) (k : Int) : LI where
  α := {q : VQ // VqI 24 n (tuS k q.i) q}
  live := [1, 5, 6, 8, 9]
  st q := ([.int .u8 k, .ptr 0 0, .ptr 1 0, .int .i64 (n : Int), .int .i64 (q.1.i : Int)], vauD 24 (tuS k q.1.i) q.1.M q.1.x)
  μ q := n - q.1.i
def gI (l : List Int) (i : Nat) : Int := l.getD i 0
def maV (l : List Int) (i : Nat) : List Int := [IntKind.u8.wrap (i : Int), IntKind.u8.wrap (gI l i)]
def maL (l : List Int) : Nat → List P2
  | 0 => []
  | i + 1 => putL (maL l i) (gI l i) (maV l i)
def maS (l : List Int) (i : Nat) : VSt := ⟨0, maL l i, i, i⟩
abbrev maLI (l : List Int) (keep : Int) : LI where
  α := {q : VQ // VqI 200 l.length (maS l q.i) q}
  live := [0, 1, 5, 6, 8, 9]
  nils := [.slotD 4 2]
  st q := ([.dat (.sl 1 (ints .u16 l)), .int .u8 keep, .ptr 0 0, .ptr 1 0, .dat (prs (maL l q.1.i)), .int .i64 (q.1.i : Int)], vauD 200 (maS l q.1.i) q.1.M q.1.x)
  μ q := l.length - q.1.i
abbrev owLI (k : Int) (a b : List Int) (s : VSt) : LI where
  α := {q : VQ × List Int // VqI 40 a.length s q.1 ∧ q.2.length = a.length}
  live := [0, 1, 2, 7, 8, 10, 12]
  st q := ([.int .u16 k, .dat (.sl 1 (ints .u8 a)), .dat (.sl 1 (ints .u8 b)), .ptr 0 0, .ptr 1 0, .sl 2 0 a.length, .int .i64 (q.1.1.i : Int)],
   [devV 3 4 q.1.1.x.length 0, .cells [.ptr 0 0, .int .i64 ((40 / 4 : Nat) : Int), .int .i64 (s.gen : Int), .mp 5, .ptr 6 0, .sb false], .row 5 1 (ints .u8 q.1.2), secR q.1.1.x, waiR [], mpT q.1.1.M,
    .cells [.ptr 0 0, .int .i64 ((2 * (40 / 4) : Nat) : Int), .int .i64 ((40 - 2 * (40 / 4) : Nat) : Int), .int .i64 (s.gen : Int), .int .i64 (s.u : Int), .int .i64 (s.m : Int), .sl 7 0 0, .sb false], begV []])
  μ q := a.length - q.1.1.i
def laT (n : Nat) (k keep : Int) (l a b : List Int) (s : VSt) : FuncId → Nat → Option LI
  | 3, 7 => some (tuLI n k)
  | 4, 9 => some (maLI l keep)
  | 6, 9 => some (owLI k a b s)
  | _, _ => none
noncomputable def XL (n : Nat) (k keep : Int) (l a b : List Int) (s : VSt) : CallT := callS Try.prog lawS (laT n k keep l a b s) 10
theorem vcAwake (q : Unit) (K : V → KB → Prop) (hvc_ :
 ((NewI 20 → False) → K (V.sb false) []) ∧
 (NewI 20 →
 ∃ (N : Nat),
 ∃ (s : VSt),
 ∃ (x : List (List Int)),
 [(List.replicate 64 (D.val (Value.int IntKind.u8 0))),
 (List.replicate 64 (D.val (Value.int IntKind.u8 0))),
 (List.replicate 64 (D.val (Value.int IntKind.u8 0))),
 (List.replicate 64 (D.val (Value.int IntKind.u8 0))),
 (List.replicate 64 (D.val (Value.int IntKind.u8 0))),
 (List.replicate 64 (D.val (Value.int IntKind.u8 0))),
 (List.replicate 64 (D.val (Value.int IntKind.u8 0))),
 (List.replicate 64 (D.val (Value.int IntKind.u8 0))),
 (List.replicate 64 (D.val (Value.int IntKind.u8 0))),
 (List.replicate 64 (D.val (Value.int IntKind.u8 0))),
 (List.replicate 64 (D.val (Value.int IntKind.u8 0))),
 (List.replicate 64 (D.val (Value.int IntKind.u8 0))),
 (List.replicate 64 (D.val (Value.int IntKind.u8 0))),
 (List.replicate 64 (D.val (Value.int IntKind.u8 0))),
 (List.replicate 64 (D.val (Value.int IntKind.u8 0))),
 (List.replicate 64 (D.val (Value.int IntKind.u8 0))),
 (List.replicate 64 (D.val (Value.int IntKind.u8 0))),
 (List.replicate 64 (D.val (Value.int IntKind.u8 0))),
 (List.replicate 64 (D.val (Value.int IntKind.u8 0))),
 (List.replicate 64 (D.val (Value.int IntKind.u8 0)))] =
 secs x ∧
 20 = x.length ∧
 NoW 0 [] ∧
 (∃ (P0 : List (List Int)), ∃ (P1 : List (List Int)), ∃ (B : List (List Int)), ∃ (g0 : Nat), ∃ (g1 : Nat), ∃ (l0 : List P2), ∃ (l1 : List P2), ∃ (cs : List Chg), VJ N s.gen s.l s.u s.m x P0 P1 B g0 g1 l0 l1 cs) ∧
 ∀ (M : ML),
 Tab M s.l →
 (false = true → K (V.sb false) []) ∧
 (false = false →
 1 ≤ 1 ∧
 ∃ (N_1 : Nat),
 ∃ (s_1 : VSt),
 ∃ (x_1 : List (List Int)),
 ∃ (b : List Int),
 VIn N_1 s_1 x_1 (↑(N / 4) : Int) (↑s.gen : Int) x.length 0 M (↑(2 * (N / 4)) : Int) (↑(N - 2 * (N / 4)) : Int) (↑s.gen : Int) (↑s.u : Int) (↑s.m : Int) 0 (secs x) [] [] ∧
 [[D.val (Value.int IntKind.u8 1)]] = ints IntKind.u8 b ∧
 (∀ (c : Int), List.Mem c b → 0 ≤ c ∧ c < 256) ∧
 b.length ≤ 800000 ∧
 s_1.gen < 1000 ∧
 ∀ (M' : ML) (x' : List (List Int)),
 Tab M' (putF N_1 s_1 4 b).snd.l →
 (∃ (P0 : List (List Int)), ∃ (P1 : List (List Int)), ∃ (B : List (List Int)), ∃ (g0 : Nat), ∃ (g1 : Nat), ∃ (l0 : List P2), ∃ (l1 : List P2), ∃ (cs : List Chg), VJ N_1 (putF N_1 s_1 4 b).snd.gen (putF N_1 s_1 4 b).snd.l (putF N_1 s_1 4 b).snd.u (putF N_1 s_1 4 b).snd.m x' P0 P1 B g0 g1 l0 l1 cs) →
 (((putF N_1 s_1 4 b).fst != 0) = true → K (V.sb false) []) ∧
 (((putF N_1 s_1 4 b).fst != 0) = false →
 ∃ (x : List (List Int)),
 secs x' = secs x ∧
 x'.length = x.length ∧
 NoW 0 [] ∧
 ∃ (N : Nat),
 ∃ (s : VSt),
 ∃ (x_2 : List (List Int)),
 secs x = secs x_2 ∧
 x.length = x_2.length ∧
 NoW 0 [] ∧
 (∃ (P0 : List (List Int)), ∃ (P1 : List (List Int)), ∃ (B : List (List Int)), ∃ (g0 : Nat), ∃ (g1 : Nat), ∃ (l0 : List P2), ∃ (l1 : List P2), ∃ (cs : List Chg), VJ N s.gen s.l s.u s.m x_2 P0 P1 B g0 g1 l0 l1 cs) ∧
 ∀ (M : ML),
 Tab M s.l →
 (false = true → K (V.sb false) []) ∧
 (false = false →
 ∃ (N_2 : Nat),
 ∃ (s_2 : VSt),
 ∃ (x : List (List Int)),
 VIn N_2 s_2 x (↑(N / 4) : Int) (↑s.gen : Int) x_2.length 0 M (↑(2 * (N / 4)) : Int) (↑(N - 2 * (N / 4)) : Int) (↑s.gen : Int) (↑s.u : Int) (↑s.m : Int) 0 (secs x_2) [] [] ∧
 ((getP s_2.l 4).isSome = true →
 (((getP s_2.l 4).getD []).length ≤ (ints IntKind.u8 ((getP s_2.l 4).getD [])).length ∧ 1 ≤ 1 ∧ True) ∧
 ∃ (a : List Int),
 ∃ (b : List Int),
 List.drop 0 (List.take ((getP s_2.l 4).getD []).length (ints IntKind.u8 ((getP s_2.l 4).getD []))) = ints IntKind.u8 a ∧
 [[D.val (Value.int IntKind.u8 1)]] = ints IntKind.u8 b ∧ a.length.le 1000000 ∧ True ∧ (decide (a = b) = true → K (V.sb true) []) ∧ (decide (a = b) = false → K (V.sb false) [])) ∧
 ((getP s_2.l 4).isSome = false → K (V.sb false) [])))))
 ) : runSpec Try.prog XAw (noT 13) 13 [] [] K := by apply Eq.mp (a := hvc_); kernel_rfl
theorem vcTurns (t k : Int) (n : Nat)  (hvc_ :
 ((NewI 24 → False) → False) ∧
 (NewI 24 →
 ∃ (N : Nat),
 ∃ (s : VSt),
 ∃ (x : List (List Int)),
 [(List.replicate 64 (D.val (Value.int IntKind.u8 0))),
 (List.replicate 64 (D.val (Value.int IntKind.u8 0))),
 (List.replicate 64 (D.val (Value.int IntKind.u8 0))),
 (List.replicate 64 (D.val (Value.int IntKind.u8 0))),
 (List.replicate 64 (D.val (Value.int IntKind.u8 0))),
 (List.replicate 64 (D.val (Value.int IntKind.u8 0))),
 (List.replicate 64 (D.val (Value.int IntKind.u8 0))),
 (List.replicate 64 (D.val (Value.int IntKind.u8 0))),
 (List.replicate 64 (D.val (Value.int IntKind.u8 0))),
 (List.replicate 64 (D.val (Value.int IntKind.u8 0))),
 (List.replicate 64 (D.val (Value.int IntKind.u8 0))),
 (List.replicate 64 (D.val (Value.int IntKind.u8 0))),
 (List.replicate 64 (D.val (Value.int IntKind.u8 0))),
 (List.replicate 64 (D.val (Value.int IntKind.u8 0))),
 (List.replicate 64 (D.val (Value.int IntKind.u8 0))),
 (List.replicate 64 (D.val (Value.int IntKind.u8 0))),
 (List.replicate 64 (D.val (Value.int IntKind.u8 0))),
 (List.replicate 64 (D.val (Value.int IntKind.u8 0))),
 (List.replicate 64 (D.val (Value.int IntKind.u8 0))),
 (List.replicate 64 (D.val (Value.int IntKind.u8 0))),
 (List.replicate 64 (D.val (Value.int IntKind.u8 0))),
 (List.replicate 64 (D.val (Value.int IntKind.u8 0))),
 (List.replicate 64 (D.val (Value.int IntKind.u8 0))),
 (List.replicate 64 (D.val (Value.int IntKind.u8 0)))] =
 secs x ∧
 24 = x.length ∧
 NoW 0 [] ∧
 (∃ (P0 : List (List Int)), ∃ (P1 : List (List Int)), ∃ (B : List (List Int)), ∃ (g0 : Nat), ∃ (g1 : Nat), ∃ (l0 : List P2), ∃ (l1 : List P2), ∃ (cs : List Chg), VJ N s.gen s.l s.u s.m x P0 P1 B g0 g1 l0 l1 cs) ∧
 ∀ (M : ML),
 Tab M s.l →
 (false = true → False) ∧
 (false = false →
 ∃ (N_1 : Nat),
 ∃ (s_1 : VSt),
 ∃ (x_1 : List (List Int)),
 VIn N_1 s_1 x_1 (↑(N / 4) : Int) (↑s.gen : Int) x.length 0 M (↑(2 * (N / 4)) : Int) (↑(N - 2 * (N / 4)) : Int) (↑s.gen : Int) (↑s.u : Int) (↑s.m : Int) 0 (secs x) [] [] ∧
 (((↑s_1.gen : Int) != 0) = true → False) ∧
 (((↑s_1.gen : Int) != 0) = false →
 At (tuLI n k)
 ([V.int IntKind.u8 k, V.ptr 0 0, V.ptr 1 0, V.int IntKind.i64 ((IntKind.i64.wrap t).tmod 200), V.int IntKind.i64 0],
 [KO.cells [V.sl 2 0 x_1.length, V.sl 3 0 0, V.int IntKind.i64 (-1), V.sb false], KO.cells [V.ptr 0 0, V.int IntKind.i64 (↑(N_1 / 4) : Int), V.int IntKind.i64 (↑s_1.gen : Int), V.mp 4, V.ptr 5 0, V.sb false], KO.row 82 64 (secs x_1), KO.row 84 129 [], KO.mp [IntKind.i64] false false 1 M,
 KO.cells [V.ptr 0 0, V.int IntKind.i64 (↑(2 * (N_1 / 4)) : Int), V.int IntKind.i64 (↑(N_1 - 2 * (N_1 / 4)) : Int), V.int IntKind.i64 (↑s_1.gen : Int), V.int IntKind.i64 (↑s_1.u : Int), V.int IntKind.i64 (↑s_1.m : Int), V.sl 6 0 0, V.sb false], KO.row 126 2 []]) ∧
 ∀ (i : { q : VQ // VqI 24 n (tuS k q.i) q }),
 (decide ((↑i.val.i : Int) < (↑n : Int)) = true →
 1 ≤ 1 ∧
 ∃ (N : Nat),
 ∃ (s : VSt),
 ∃ (x : List (List Int)),
 ∃ (b : List Int),
 VIn N s x 6 (↑(tuS k i.val.i).gen : Int) i.val.x.length 0 i.val.M 12 12 (↑(tuS k i.val.i).gen : Int) (↑(tuS k i.val.i).u : Int) (↑(tuS k i.val.i).m : Int) 0 (secs i.val.x) [] [] ∧
 [[D.val (Value.int IntKind.u8 (IntKind.u8.wrap (↑i.val.i : Int)))]] = ints IntKind.u8 b ∧
 (∀ (c : Int), List.Mem c b → 0 ≤ c ∧ c < 256) ∧
 b.length ≤ 800000 ∧
 s.gen < 1000 ∧
 ∀ (M' : ML) (x' : List (List Int)),
 Tab M' (putF N s (IntKind.i64.wrap k) b).snd.l →
 (∃ (P0 : List (List Int)),
 ∃ (P1 : List (List Int)),
 ∃ (B : List (List Int)), ∃ (g0 : Nat), ∃ (g1 : Nat), ∃ (l0 : List P2), ∃ (l1 : List P2), ∃ (cs : List Chg), VJ N (putF N s (IntKind.i64.wrap k) b).snd.gen (putF N s (IntKind.i64.wrap k) b).snd.l (putF N s (IntKind.i64.wrap k) b).snd.u (putF N s (IntKind.i64.wrap k) b).snd.m x' P0 P1 B g0 g1 l0 l1 cs) →
 (((putF N s (IntKind.i64.wrap k) b).fst != 0) = true → False) ∧
 (((putF N s (IntKind.i64.wrap k) b).fst != 0) = false →
 Nx (tuLI n k) i
 ([V.int IntKind.u8 k, V.ptr 0 0, V.ptr 1 0, V.int IntKind.i64 (↑n : Int), V.int IntKind.i64 (IntKind.i64.wrap ((↑i.val.i : Int) + 1))],
 [KO.cells [V.sl 2 0 x'.length, V.sl 3 0 0, V.int IntKind.i64 (-1), V.sb false], KO.cells [V.ptr 0 0, V.int IntKind.i64 (↑(N / 4) : Int), V.int IntKind.i64 (↑(putF N s (IntKind.i64.wrap k) b).snd.gen : Int), V.mp 4, V.ptr 5 0, V.sb false], KO.row 82 64 (secs x'), KO.row 84 129 [], KO.mp [IntKind.i64] false false 1 M',
 KO.cells
 [V.ptr 0 0, V.int IntKind.i64 (↑(2 * (N / 4)) : Int), V.int IntKind.i64 (↑(N - 2 * (N / 4)) : Int), V.int IntKind.i64 (↑(putF N s (IntKind.i64.wrap k) b).snd.gen : Int), V.int IntKind.i64 (↑(putF N s (IntKind.i64.wrap k) b).snd.u : Int), V.int IntKind.i64 (↑(putF N s (IntKind.i64.wrap k) b).snd.m : Int),
 V.sl 6 0 0, V.sb false],
 KO.row 126 2 []]))) ∧
 (decide ((↑i.val.i : Int) < (↑n : Int)) = false →
 ∃ (N : Nat),
 ∃ (s : VSt),
 ∃ (x : List (List Int)),
 secs i.val.x = secs x ∧
 i.val.x.length = x.length ∧
 NoW 0 [] ∧
 (∃ (P0 : List (List Int)), ∃ (P1 : List (List Int)), ∃ (B : List (List Int)), ∃ (g0 : Nat), ∃ (g1 : Nat), ∃ (l0 : List P2), ∃ (l1 : List P2), ∃ (cs : List Chg), VJ N s.gen s.l s.u s.m x P0 P1 B g0 g1 l0 l1 cs) ∧
 ∀ (M : ML),
 Tab M s.l →
 (false = true → False) ∧
 (false = false →
 ∃ (N_2 : Nat),
 ∃ (s_2 : VSt),
 ∃ (x_2 : List (List Int)),
 VIn N_2 s_2 x_2 (↑(N / 4) : Int) (↑s.gen : Int) x.length 0 M (↑(2 * (N / 4)) : Int) (↑(N - 2 * (N / 4)) : Int) (↑s.gen : Int) (↑s.u : Int) (↑s.m : Int) 0 (secs x) [] [] ∧
 ∃ (N : Nat),
 ∃ (s : VSt),
 ∃ (x : List (List Int)),
 VIn N s x 6 (↑(tuS k i.val.i).gen : Int) x_2.length 0 i.val.M 12 12 (↑(tuS k i.val.i).gen : Int) (↑(tuS k i.val.i).u : Int) (↑(tuS k i.val.i).m : Int) 0 (secs x_2) [] [] ∧
 (((↑s_2.gen : Int) != (↑s.gen : Int)) = true → False) ∧
 (((↑s_2.gen : Int) != (↑s.gen : Int)) = false →
 ∃ (N : Nat),
 ∃ (s : VSt),
 ∃ (x_3 : List (List Int)),
 VIn N s x_3 (↑(N_2 / 4) : Int) (↑s_2.gen : Int) x.length 0 M (↑(2 * (N_2 / 4)) : Int) (↑(N_2 - 2 * (N_2 / 4)) : Int) (↑s_2.gen : Int) (↑s_2.u : Int) (↑s_2.m : Int) 0 (secs x) [] [] ∧
 (((↑s.gen : Int) != IntKind.i64.wrap ((↑n : Int).tdiv 13)) = true → False) ∧
 (((↑s.gen : Int) != IntKind.i64.wrap ((↑n : Int).tdiv 13)) = false →
 ∃ (N_3 : Nat),
 ∃ (s_3 : VSt),
 ∃ (x : List (List Int)),
 VIn N_3 s_3 x (↑(N / 4) : Int) (↑s.gen : Int) x_3.length 0 M (↑(2 * (N / 4)) : Int) (↑(N - 2 * (N / 4)) : Int) (↑s.gen : Int) (↑s.u : Int) (↑s.m : Int) 0 (secs x_3) [] [] ∧
 (((getP s_3.l (IntKind.i64.wrap k)).isSome == decide ((↑n : Int) > 0)) = true →
 (((↑n : Int) == 0) = true → true = true) ∧
 (((↑n : Int) == 0) = false →
 (((getP s_3.l (IntKind.i64.wrap k)).getD []).length ≤ (ints IntKind.u8 ((getP s_3.l (IntKind.i64.wrap k)).getD [])).length ∧ 1 ≤ 1 ∧ True) ∧
 ∃ (a : List Int),
 ∃ (b : List Int),
 List.drop 0 (List.take ((getP s_3.l (IntKind.i64.wrap k)).getD []).length (ints IntKind.u8 ((getP s_3.l (IntKind.i64.wrap k)).getD []))) = ints IntKind.u8 a ∧
 [[D.val (Value.int IntKind.u8 (IntKind.u8.wrap (IntKind.i64.wrap ((↑n : Int) - 1))))]] = ints IntKind.u8 b ∧ a.length.le 1000000 ∧ True ∧ (decide (a = b) = true → true = true) ∧ (decide (a = b) = false → False))) ∧
 (((getP s_3.l (IntKind.i64.wrap k)).isSome == decide ((↑n : Int) > 0)) = false → False))))))))
 ) : XL n k 0 [] [] [] s0 3 [.int .u8 t, .int .u8 k] [] KT := by apply Eq.mp (a := hvc_); kernel_rfl
theorem vcMany (l : List Int) (keep : Int)  (hvc_ :
 (decide ((↑(ints IntKind.u16 l).length : Int) > 40) = true → true = true) ∧
 (decide ((↑(ints IntKind.u16 l).length : Int) > 40) = false →
 ((NewI 200 → False) → False) ∧
 (NewI 200 →
 ∃ (N : Nat),
 ∃ (s : VSt),
 ∃ (x : List (List Int)),
 [(List.replicate 64 (D.val (Value.int IntKind.u8 0))),
 (List.replicate 64 (D.val (Value.int IntKind.u8 0))),
 (List.replicate 64 (D.val (Value.int IntKind.u8 0))),
 (List.replicate 64 (D.val (Value.int IntKind.u8 0))),
 (List.replicate 64 (D.val (Value.int IntKind.u8 0))),
 (List.replicate 64 (D.val (Value.int IntKind.u8 0))),
 (List.replicate 64 (D.val (Value.int IntKind.u8 0))),
 (List.replicate 64 (D.val (Value.int IntKind.u8 0))),
 (List.replicate 64 (D.val (Value.int IntKind.u8 0))),
 (List.replicate 64 (D.val (Value.int IntKind.u8 0))),
 (List.replicate 64 (D.val (Value.int IntKind.u8 0))),
 (List.replicate 64 (D.val (Value.int IntKind.u8 0))),
 (List.replicate 64 (D.val (Value.int IntKind.u8 0))),
 (List.replicate 64 (D.val (Value.int IntKind.u8 0))),
 (List.replicate 64 (D.val (Value.int IntKind.u8 0))),
 (List.replicate 64 (D.val (Value.int IntKind.u8 0))),
 (List.replicate 64 (D.val (Value.int IntKind.u8 0))),
 (List.replicate 64 (D.val (Value.int IntKind.u8 0))),
 (List.replicate 64 (D.val (Value.int IntKind.u8 0))),
 (List.replicate 64 (D.val (Value.int IntKind.u8 0))),
 (List.replicate 64 (D.val (Value.int IntKind.u8 0))),
 (List.replicate 64 (D.val (Value.int IntKind.u8 0))),
 (List.replicate 64 (D.val (Value.int IntKind.u8 0))),
 (List.replicate 64 (D.val (Value.int IntKind.u8 0))),
 (List.replicate 64 (D.val (Value.int IntKind.u8 0))),
 (List.replicate 64 (D.val (Value.int IntKind.u8 0))),
 (List.replicate 64 (D.val (Value.int IntKind.u8 0))),
 (List.replicate 64 (D.val (Value.int IntKind.u8 0))),
 (List.replicate 64 (D.val (Value.int IntKind.u8 0))),
 (List.replicate 64 (D.val (Value.int IntKind.u8 0))),
 (List.replicate 64 (D.val (Value.int IntKind.u8 0))),
 (List.replicate 64 (D.val (Value.int IntKind.u8 0))),
 (List.replicate 64 (D.val (Value.int IntKind.u8 0))),
 (List.replicate 64 (D.val (Value.int IntKind.u8 0))),
 (List.replicate 64 (D.val (Value.int IntKind.u8 0))),
 (List.replicate 64 (D.val (Value.int IntKind.u8 0))),
 (List.replicate 64 (D.val (Value.int IntKind.u8 0))),
 (List.replicate 64 (D.val (Value.int IntKind.u8 0))),
 (List.replicate 64 (D.val (Value.int IntKind.u8 0))),
 (List.replicate 64 (D.val (Value.int IntKind.u8 0))),
 (List.replicate 64 (D.val (Value.int IntKind.u8 0))),
 (List.replicate 64 (D.val (Value.int IntKind.u8 0))),
 (List.replicate 64 (D.val (Value.int IntKind.u8 0))),
 (List.replicate 64 (D.val (Value.int IntKind.u8 0))),
 (List.replicate 64 (D.val (Value.int IntKind.u8 0))),
 (List.replicate 64 (D.val (Value.int IntKind.u8 0))),
 (List.replicate 64 (D.val (Value.int IntKind.u8 0))),
 (List.replicate 64 (D.val (Value.int IntKind.u8 0))),
 (List.replicate 64 (D.val (Value.int IntKind.u8 0))),
 (List.replicate 64 (D.val (Value.int IntKind.u8 0))),
 (List.replicate 64 (D.val (Value.int IntKind.u8 0))),
 (List.replicate 64 (D.val (Value.int IntKind.u8 0))),
 (List.replicate 64 (D.val (Value.int IntKind.u8 0))),
 (List.replicate 64 (D.val (Value.int IntKind.u8 0))),
 (List.replicate 64 (D.val (Value.int IntKind.u8 0))),
 (List.replicate 64 (D.val (Value.int IntKind.u8 0))),
 (List.replicate 64 (D.val (Value.int IntKind.u8 0))),
 (List.replicate 64 (D.val (Value.int IntKind.u8 0))),
 (List.replicate 64 (D.val (Value.int IntKind.u8 0))),
 (List.replicate 64 (D.val (Value.int IntKind.u8 0))),
 (List.replicate 64 (D.val (Value.int IntKind.u8 0))),
 (List.replicate 64 (D.val (Value.int IntKind.u8 0))),
 (List.replicate 64 (D.val (Value.int IntKind.u8 0))),
 (List.replicate 64 (D.val (Value.int IntKind.u8 0))),
 (List.replicate 64 (D.val (Value.int IntKind.u8 0))),
 (List.replicate 64 (D.val (Value.int IntKind.u8 0))),
 (List.replicate 64 (D.val (Value.int IntKind.u8 0))),
 (List.replicate 64 (D.val (Value.int IntKind.u8 0))),
 (List.replicate 64 (D.val (Value.int IntKind.u8 0))),
 (List.replicate 64 (D.val (Value.int IntKind.u8 0))),
 (List.replicate 64 (D.val (Value.int IntKind.u8 0))),
 (List.replicate 64 (D.val (Value.int IntKind.u8 0))),
 (List.replicate 64 (D.val (Value.int IntKind.u8 0))),
 (List.replicate 64 (D.val (Value.int IntKind.u8 0))),
 (List.replicate 64 (D.val (Value.int IntKind.u8 0))),
 (List.replicate 64 (D.val (Value.int IntKind.u8 0))),
 (List.replicate 64 (D.val (Value.int IntKind.u8 0))),
 (List.replicate 64 (D.val (Value.int IntKind.u8 0))),
 (List.replicate 64 (D.val (Value.int IntKind.u8 0))),
 (List.replicate 64 (D.val (Value.int IntKind.u8 0))),
 (List.replicate 64 (D.val (Value.int IntKind.u8 0))),
 (List.replicate 64 (D.val (Value.int IntKind.u8 0))),
 (List.replicate 64 (D.val (Value.int IntKind.u8 0))),
 (List.replicate 64 (D.val (Value.int IntKind.u8 0))),
 (List.replicate 64 (D.val (Value.int IntKind.u8 0))),
 (List.replicate 64 (D.val (Value.int IntKind.u8 0))),
 (List.replicate 64 (D.val (Value.int IntKind.u8 0))),
 (List.replicate 64 (D.val (Value.int IntKind.u8 0))),
 (List.replicate 64 (D.val (Value.int IntKind.u8 0))),
 (List.replicate 64 (D.val (Value.int IntKind.u8 0))),
 (List.replicate 64 (D.val (Value.int IntKind.u8 0))),
 (List.replicate 64 (D.val (Value.int IntKind.u8 0))),
 (List.replicate 64 (D.val (Value.int IntKind.u8 0))),
 (List.replicate 64 (D.val (Value.int IntKind.u8 0))),
 (List.replicate 64 (D.val (Value.int IntKind.u8 0))),
 (List.replicate 64 (D.val (Value.int IntKind.u8 0))),
 (List.replicate 64 (D.val (Value.int IntKind.u8 0))),
 (List.replicate 64 (D.val (Value.int IntKind.u8 0))),
 (List.replicate 64 (D.val (Value.int IntKind.u8 0))),
 (List.replicate 64 (D.val (Value.int IntKind.u8 0))),
 (List.replicate 64 (D.val (Value.int IntKind.u8 0))),
 (List.replicate 64 (D.val (Value.int IntKind.u8 0))),
 (List.replicate 64 (D.val (Value.int IntKind.u8 0))),
 (List.replicate 64 (D.val (Value.int IntKind.u8 0))),
 (List.replicate 64 (D.val (Value.int IntKind.u8 0))),
 (List.replicate 64 (D.val (Value.int IntKind.u8 0))),
 (List.replicate 64 (D.val (Value.int IntKind.u8 0))),
 (List.replicate 64 (D.val (Value.int IntKind.u8 0))),
 (List.replicate 64 (D.val (Value.int IntKind.u8 0))),
 (List.replicate 64 (D.val (Value.int IntKind.u8 0))),
 (List.replicate 64 (D.val (Value.int IntKind.u8 0))),
 (List.replicate 64 (D.val (Value.int IntKind.u8 0))),
 (List.replicate 64 (D.val (Value.int IntKind.u8 0))),
 (List.replicate 64 (D.val (Value.int IntKind.u8 0))),
 (List.replicate 64 (D.val (Value.int IntKind.u8 0))),
 (List.replicate 64 (D.val (Value.int IntKind.u8 0))),
 (List.replicate 64 (D.val (Value.int IntKind.u8 0))),
 (List.replicate 64 (D.val (Value.int IntKind.u8 0))),
 (List.replicate 64 (D.val (Value.int IntKind.u8 0))),
 (List.replicate 64 (D.val (Value.int IntKind.u8 0))),
 (List.replicate 64 (D.val (Value.int IntKind.u8 0))),
 (List.replicate 64 (D.val (Value.int IntKind.u8 0))),
 (List.replicate 64 (D.val (Value.int IntKind.u8 0))),
 (List.replicate 64 (D.val (Value.int IntKind.u8 0))),
 (List.replicate 64 (D.val (Value.int IntKind.u8 0))),
 (List.replicate 64 (D.val (Value.int IntKind.u8 0))),
 (List.replicate 64 (D.val (Value.int IntKind.u8 0))),
 (List.replicate 64 (D.val (Value.int IntKind.u8 0))),
 (List.replicate 64 (D.val (Value.int IntKind.u8 0))),
 (List.replicate 64 (D.val (Value.int IntKind.u8 0))),
 (List.replicate 64 (D.val (Value.int IntKind.u8 0))),
 (List.replicate 64 (D.val (Value.int IntKind.u8 0))),
 (List.replicate 64 (D.val (Value.int IntKind.u8 0))),
 (List.replicate 64 (D.val (Value.int IntKind.u8 0))),
 (List.replicate 64 (D.val (Value.int IntKind.u8 0))),
 (List.replicate 64 (D.val (Value.int IntKind.u8 0))),
 (List.replicate 64 (D.val (Value.int IntKind.u8 0))),
 (List.replicate 64 (D.val (Value.int IntKind.u8 0))),
 (List.replicate 64 (D.val (Value.int IntKind.u8 0))),
 (List.replicate 64 (D.val (Value.int IntKind.u8 0))),
 (List.replicate 64 (D.val (Value.int IntKind.u8 0))),
 (List.replicate 64 (D.val (Value.int IntKind.u8 0))),
 (List.replicate 64 (D.val (Value.int IntKind.u8 0))),
 (List.replicate 64 (D.val (Value.int IntKind.u8 0))),
 (List.replicate 64 (D.val (Value.int IntKind.u8 0))),
 (List.replicate 64 (D.val (Value.int IntKind.u8 0))),
 (List.replicate 64 (D.val (Value.int IntKind.u8 0))),
 (List.replicate 64 (D.val (Value.int IntKind.u8 0))),
 (List.replicate 64 (D.val (Value.int IntKind.u8 0))),
 (List.replicate 64 (D.val (Value.int IntKind.u8 0))),
 (List.replicate 64 (D.val (Value.int IntKind.u8 0))),
 (List.replicate 64 (D.val (Value.int IntKind.u8 0))),
 (List.replicate 64 (D.val (Value.int IntKind.u8 0))),
 (List.replicate 64 (D.val (Value.int IntKind.u8 0))),
 (List.replicate 64 (D.val (Value.int IntKind.u8 0))),
 (List.replicate 64 (D.val (Value.int IntKind.u8 0))),
 (List.replicate 64 (D.val (Value.int IntKind.u8 0))),
 (List.replicate 64 (D.val (Value.int IntKind.u8 0))),
 (List.replicate 64 (D.val (Value.int IntKind.u8 0))),
 (List.replicate 64 (D.val (Value.int IntKind.u8 0))),
 (List.replicate 64 (D.val (Value.int IntKind.u8 0))),
 (List.replicate 64 (D.val (Value.int IntKind.u8 0))),
 (List.replicate 64 (D.val (Value.int IntKind.u8 0))),
 (List.replicate 64 (D.val (Value.int IntKind.u8 0))),
 (List.replicate 64 (D.val (Value.int IntKind.u8 0))),
 (List.replicate 64 (D.val (Value.int IntKind.u8 0))),
 (List.replicate 64 (D.val (Value.int IntKind.u8 0))),
 (List.replicate 64 (D.val (Value.int IntKind.u8 0))),
 (List.replicate 64 (D.val (Value.int IntKind.u8 0))),
 (List.replicate 64 (D.val (Value.int IntKind.u8 0))),
 (List.replicate 64 (D.val (Value.int IntKind.u8 0))),
 (List.replicate 64 (D.val (Value.int IntKind.u8 0))),
 (List.replicate 64 (D.val (Value.int IntKind.u8 0))),
 (List.replicate 64 (D.val (Value.int IntKind.u8 0))),
 (List.replicate 64 (D.val (Value.int IntKind.u8 0))),
 (List.replicate 64 (D.val (Value.int IntKind.u8 0))),
 (List.replicate 64 (D.val (Value.int IntKind.u8 0))),
 (List.replicate 64 (D.val (Value.int IntKind.u8 0))),
 (List.replicate 64 (D.val (Value.int IntKind.u8 0))),
 (List.replicate 64 (D.val (Value.int IntKind.u8 0))),
 (List.replicate 64 (D.val (Value.int IntKind.u8 0))),
 (List.replicate 64 (D.val (Value.int IntKind.u8 0))),
 (List.replicate 64 (D.val (Value.int IntKind.u8 0))),
 (List.replicate 64 (D.val (Value.int IntKind.u8 0))),
 (List.replicate 64 (D.val (Value.int IntKind.u8 0))),
 (List.replicate 64 (D.val (Value.int IntKind.u8 0))),
 (List.replicate 64 (D.val (Value.int IntKind.u8 0))),
 (List.replicate 64 (D.val (Value.int IntKind.u8 0))),
 (List.replicate 64 (D.val (Value.int IntKind.u8 0))),
 (List.replicate 64 (D.val (Value.int IntKind.u8 0))),
 (List.replicate 64 (D.val (Value.int IntKind.u8 0))),
 (List.replicate 64 (D.val (Value.int IntKind.u8 0))),
 (List.replicate 64 (D.val (Value.int IntKind.u8 0))),
 (List.replicate 64 (D.val (Value.int IntKind.u8 0))),
 (List.replicate 64 (D.val (Value.int IntKind.u8 0))),
 (List.replicate 64 (D.val (Value.int IntKind.u8 0))),
 (List.replicate 64 (D.val (Value.int IntKind.u8 0))),
 (List.replicate 64 (D.val (Value.int IntKind.u8 0))),
 (List.replicate 64 (D.val (Value.int IntKind.u8 0))),
 (List.replicate 64 (D.val (Value.int IntKind.u8 0)))] =
 secs x ∧
 200 = x.length ∧
 NoW 0 [] ∧
 (∃ (P0 : List (List Int)), ∃ (P1 : List (List Int)), ∃ (B : List (List Int)), ∃ (g0 : Nat), ∃ (g1 : Nat), ∃ (l0 : List P2), ∃ (l1 : List P2), ∃ (cs : List Chg), VJ N s.gen s.l s.u s.m x P0 P1 B g0 g1 l0 l1 cs) ∧
 ∀ (M : ML),
 Tab M s.l →
 (false = true → False) ∧
 (false = false →
 At (maLI l keep)
 ([V.dat (D.sl 1 (ints IntKind.u16 l)), V.int IntKind.u8 keep, V.ptr 0 0, V.ptr 1 0, V.dat (D.sl 2 []), V.int IntKind.i64 0],
 [KO.cells [V.sl 2 0 x.length, V.sl 3 0 0, V.int IntKind.i64 (-1), V.sb false], KO.cells [V.ptr 0 0, V.int IntKind.i64 (↑(N / 4) : Int), V.int IntKind.i64 (↑s.gen : Int), V.mp 4, V.ptr 5 0, V.sb false], KO.row 82 64 (secs x), KO.row 84 129 [], KO.mp [IntKind.i64] false false 1 M,
 KO.cells [V.ptr 0 0, V.int IntKind.i64 (↑(2 * (N / 4)) : Int), V.int IntKind.i64 (↑(N - 2 * (N / 4)) : Int), V.int IntKind.i64 (↑s.gen : Int), V.int IntKind.i64 (↑s.u : Int), V.int IntKind.i64 (↑s.m : Int), V.sl 6 0 0, V.sb false], KO.row 126 2 []]) ∧
 ∀ (i : { q : VQ // VqI 200 l.length (maS l q.i) q }),
 (decide ((↑i.val.i : Int) < (↑(ints IntKind.u16 l).length : Int)) = true →
 NonN (↑i.val.i : Int) ∧
 ∃ (e : List D),
 (ints IntKind.u16 l)[(↑i.val.i : Int).toNat]? = some e ∧
 ∃ (n : Int),
 e[0]? = some (D.val (Value.int IntKind.u16 n)) ∧
 NonN (↑i.val.i : Int) ∧
 ∃ (e : List D),
 (ints IntKind.u16 l)[(↑i.val.i : Int).toNat]? = some e ∧
 ∃ (n_1 : Int),
 e[0]? = some (D.val (Value.int IntKind.u16 n_1)) ∧
 2 ≤ 2 ∧
 ∃ (N : Nat),
 ∃ (s : VSt),
 ∃ (x : List (List Int)),
 ∃ (b : List Int),
 VIn N s x 50 (↑(maS l i.val.i).gen : Int) i.val.x.length 0 i.val.M 100 100 (↑(maS l i.val.i).gen : Int) (↑(maS l i.val.i).u : Int) (↑(maS l i.val.i).m : Int) 0 (secs i.val.x) [] [] ∧
 [[D.val (Value.int IntKind.u8 (IntKind.u8.wrap (↑i.val.i : Int)))], [D.val (Value.int IntKind.u8 (IntKind.u8.wrap n))]] = ints IntKind.u8 b ∧
 (∀ (c : Int), List.Mem c b → 0 ≤ c ∧ c < 256) ∧
 b.length ≤ 800000 ∧
 s.gen < 1000 ∧
 ∀ (M' : ML) (x' : List (List Int)),
 Tab M' (putF N s (IntKind.i64.wrap n_1) b).snd.l →
 (∃ (P0 : List (List Int)),
 ∃ (P1 : List (List Int)),
 ∃ (B : List (List Int)), ∃ (g0 : Nat), ∃ (g1 : Nat), ∃ (l0 : List P2), ∃ (l1 : List P2), ∃ (cs : List Chg), VJ N (putF N s (IntKind.i64.wrap n_1) b).snd.gen (putF N s (IntKind.i64.wrap n_1) b).snd.l (putF N s (IntKind.i64.wrap n_1) b).snd.u (putF N s (IntKind.i64.wrap n_1) b).snd.m x' P0 P1 B g0 g1 l0 l1 cs) →
 (((putF N s (IntKind.i64.wrap n_1) b).fst != 0) = true → False) ∧ (((putF N s (IntKind.i64.wrap n_1) b).fst != 0) = false → NonN (↑i.val.i : Int) ∧ ∃ (e : List D), (ints IntKind.u16 l)[(↑i.val.i : Int).toNat]? = some e ∧ ∃ (n : Int), e[0]? = some (D.val (Value.int IntKind.u16 n)) ∧ False)) ∧
 (decide ((↑i.val.i : Int) < (↑(ints IntKind.u16 l).length : Int)) = false →
 (1 ≤ 1 ∧ True) ∧
 ∃ (x : List (List Int)),
 secs i.val.x = secs x ∧
 i.val.x.length = x.length ∧
 NoW 0 [] ∧
 (PlainS (secs x).flatten ∧ PlainS [] ∧ PlainS []) ∧
 ∃ (N : Nat),
 ∃ (s : VSt),
 ∃ (x_1 : List (List Int)),
 secs x = secs x_1 ∧
 x.length = x_1.length ∧
 NoW 0 [] ∧
 (∃ (P0 : List (List Int)), ∃ (P1 : List (List Int)), ∃ (B : List (List Int)), ∃ (g0 : Nat), ∃ (g1 : Nat), ∃ (l0 : List P2), ∃ (l1 : List P2), ∃ (cs : List Chg), VJ N s.gen s.l s.u s.m x_1 P0 P1 B g0 g1 l0 l1 cs) ∧
 ∀ (M : ML),
 Tab M s.l →
 ∃ (N_1 : Nat),
 ∃ (s_1 : VSt),
 ∃ (x : List (List Int)),
 secs x_1 = secs x ∧
 x_1.length = x.length ∧
 NoW 0 [] ∧
 (∃ (P0 : List (List Int)), ∃ (P1 : List (List Int)), ∃ (B : List (List Int)), ∃ (g0 : Nat), ∃ (g1 : Nat), ∃ (l0 : List P2), ∃ (l1 : List P2), ∃ (cs : List Chg), VJ N_1 s_1.gen s_1.l s_1.u s_1.m x P0 P1 B g0 g1 l0 l1 cs) ∧
 ∀ (M_1 : ML),
 Tab M_1 s_1.l →
 (true = true →
 (true = true →
 ∃ (N_2 : Nat),
 ∃ (s_2 : VSt),
 ∃ (x_2 : List (List Int)),
 VIn N_2 s_2 x_2 (↑(N / 4) : Int) (↑s.gen : Int) x.length 0 M (↑(2 * (N / 4)) : Int) (↑(N - 2 * (N / 4)) : Int) (↑s.gen : Int) (↑s.u : Int) (↑s.m : Int) 0 (secs x) [] [] ∧
 ∃ (x : List P2),
 ∃ (y : List P2),
 List.map prD s_2.l = List.map prD x ∧
 List.map prD (maL l i.val.i) = List.map prD y ∧
 x.length ≤ 100000 ∧
 y.length ≤ 100000 ∧
 (∀ (p : P2), List.Mem p x → p.snd.length ≤ 800000) ∧
 (∀ (p : P2), List.Mem p y → p.snd.length ≤ 800000) ∧
 (decide (x = y) = true →
 ∃ (N : Nat),
 ∃ (s : VSt),
 ∃ (x : List (List Int)),
 VIn N s x (↑(N_1 / 4) : Int) (↑s_1.gen : Int) x_2.length 0 M_1 (↑(2 * (N_1 / 4)) : Int) (↑(N_1 - 2 * (N_1 / 4)) : Int) (↑s_1.gen : Int) (↑s_1.u : Int) (↑s_1.m : Int) 0 (secs x_2) [] [] ∧
 ∃ (x : List P2),
 ∃ (y : List P2),
 List.map prD s.l = List.map prD x ∧
 List.map prD (maL l i.val.i) = List.map prD y ∧
 x.length ≤ 100000 ∧ y.length ≤ 100000 ∧ (∀ (p : P2), List.Mem p x → p.snd.length ≤ 800000) ∧ (∀ (p : P2), List.Mem p y → p.snd.length ≤ 800000) ∧ (decide (x = y) = true → true = true) ∧ (decide (x = y) = false → False)) ∧
 (decide (x = y) = false → False)) ∧
 (true = false → False)) ∧
 (true = false → False)))))
 ) : XL 0 0 keep l [] [] s0 4 [.dat (.sl 1 (ints .u16 l)), .int .u8 keep] [] KT := by apply Eq.mp (a := hvc_); kernel_rfl
theorem vcOwn (k : Int) (a b : List Int) (s : VSt)  (hvc_ :
 (decide ((↑(ints IntKind.u8 a).length : Int) > 60) = true → true = true) ∧
 (decide ((↑(ints IntKind.u8 a).length : Int) > 60) = false →
 (decide ((↑(ints IntKind.u8 b).length : Int) > 60) = true → true = true) ∧
 (decide ((↑(ints IntKind.u8 b).length : Int) > 60) = false →
 ((NewI 40 → False) → False) ∧
 (NewI 40 →
 ∃ (N : Nat),
 ∃ (s_1 : VSt),
 ∃ (x : List (List Int)),
 [(List.replicate 64 (D.val (Value.int IntKind.u8 0))),
 (List.replicate 64 (D.val (Value.int IntKind.u8 0))),
 (List.replicate 64 (D.val (Value.int IntKind.u8 0))),
 (List.replicate 64 (D.val (Value.int IntKind.u8 0))),
 (List.replicate 64 (D.val (Value.int IntKind.u8 0))),
 (List.replicate 64 (D.val (Value.int IntKind.u8 0))),
 (List.replicate 64 (D.val (Value.int IntKind.u8 0))),
 (List.replicate 64 (D.val (Value.int IntKind.u8 0))),
 (List.replicate 64 (D.val (Value.int IntKind.u8 0))),
 (List.replicate 64 (D.val (Value.int IntKind.u8 0))),
 (List.replicate 64 (D.val (Value.int IntKind.u8 0))),
 (List.replicate 64 (D.val (Value.int IntKind.u8 0))),
 (List.replicate 64 (D.val (Value.int IntKind.u8 0))),
 (List.replicate 64 (D.val (Value.int IntKind.u8 0))),
 (List.replicate 64 (D.val (Value.int IntKind.u8 0))),
 (List.replicate 64 (D.val (Value.int IntKind.u8 0))),
 (List.replicate 64 (D.val (Value.int IntKind.u8 0))),
 (List.replicate 64 (D.val (Value.int IntKind.u8 0))),
 (List.replicate 64 (D.val (Value.int IntKind.u8 0))),
 (List.replicate 64 (D.val (Value.int IntKind.u8 0))),
 (List.replicate 64 (D.val (Value.int IntKind.u8 0))),
 (List.replicate 64 (D.val (Value.int IntKind.u8 0))),
 (List.replicate 64 (D.val (Value.int IntKind.u8 0))),
 (List.replicate 64 (D.val (Value.int IntKind.u8 0))),
 (List.replicate 64 (D.val (Value.int IntKind.u8 0))),
 (List.replicate 64 (D.val (Value.int IntKind.u8 0))),
 (List.replicate 64 (D.val (Value.int IntKind.u8 0))),
 (List.replicate 64 (D.val (Value.int IntKind.u8 0))),
 (List.replicate 64 (D.val (Value.int IntKind.u8 0))),
 (List.replicate 64 (D.val (Value.int IntKind.u8 0))),
 (List.replicate 64 (D.val (Value.int IntKind.u8 0))),
 (List.replicate 64 (D.val (Value.int IntKind.u8 0))),
 (List.replicate 64 (D.val (Value.int IntKind.u8 0))),
 (List.replicate 64 (D.val (Value.int IntKind.u8 0))),
 (List.replicate 64 (D.val (Value.int IntKind.u8 0))),
 (List.replicate 64 (D.val (Value.int IntKind.u8 0))),
 (List.replicate 64 (D.val (Value.int IntKind.u8 0))),
 (List.replicate 64 (D.val (Value.int IntKind.u8 0))),
 (List.replicate 64 (D.val (Value.int IntKind.u8 0))),
 (List.replicate 64 (D.val (Value.int IntKind.u8 0)))] =
 secs x ∧
 40 = x.length ∧
 NoW 0 [] ∧
 (∃ (P0 : List (List Int)), ∃ (P1 : List (List Int)), ∃ (B : List (List Int)), ∃ (g0 : Nat), ∃ (g1 : Nat), ∃ (l0 : List P2), ∃ (l1 : List P2), ∃ (cs : List Chg), VJ N s_1.gen s_1.l s_1.u s_1.m x P0 P1 B g0 g1 l0 l1 cs) ∧
 ∀ (M : ML),
 Tab M s_1.l →
 (false = true → False) ∧
 (false = false →
 ∃ (N_1 : Nat),
 ∃ (s_2 : VSt),
 ∃ (x_1 : List (List Int)),
 ∃ (b_1 : List Int),
 VIn N_1 s_2 x_1 (↑(N / 4) : Int) (↑s_1.gen : Int) x.length 0 M (↑(2 * (N / 4)) : Int) (↑(N - 2 * (N / 4)) : Int) (↑s_1.gen : Int) (↑s_1.u : Int) (↑s_1.m : Int) 0 (secs x) [] [] ∧
 ints IntKind.u8 a = ints IntKind.u8 b_1 ∧
 (∀ (c : Int), List.Mem c b_1 → 0 ≤ c ∧ c < 256) ∧
 b_1.length ≤ 800000 ∧
 s_2.gen < 1000 ∧
 ∀ (M' : ML) (x' : List (List Int)),
 Tab M' (putF N_1 s_2 (IntKind.i64.wrap k) b_1).snd.l →
 (∃ (P0 : List (List Int)),
 ∃ (P1 : List (List Int)),
 ∃ (B : List (List Int)), ∃ (g0 : Nat), ∃ (g1 : Nat), ∃ (l0 : List P2), ∃ (l1 : List P2), ∃ (cs : List Chg), VJ N_1 (putF N_1 s_2 (IntKind.i64.wrap k) b_1).snd.gen (putF N_1 s_2 (IntKind.i64.wrap k) b_1).snd.l (putF N_1 s_2 (IntKind.i64.wrap k) b_1).snd.u (putF N_1 s_2 (IntKind.i64.wrap k) b_1).snd.m x' P0 P1 B g0 g1 l0 l1 cs) →
 (((putF N_1 s_2 (IntKind.i64.wrap k) b_1).fst != 0) = true → False) ∧
 (((putF N_1 s_2 (IntKind.i64.wrap k) b_1).fst != 0) = false →
 ∃ (N : Nat),
 ∃ (s_3 : VSt),
 ∃ (x : List (List Int)),
 VIn N s_3 x (↑(N_1 / 4) : Int) (↑(putF N_1 s_2 (IntKind.i64.wrap k) b_1).snd.gen : Int) x'.length 0 M' (↑(2 * (N_1 / 4)) : Int) (↑(N_1 - 2 * (N_1 / 4)) : Int) (↑(putF N_1 s_2 (IntKind.i64.wrap k) b_1).snd.gen : Int) (↑(putF N_1 s_2 (IntKind.i64.wrap k) b_1).snd.u : Int) (↑(putF N_1 s_2 (IntKind.i64.wrap k) b_1).snd.m : Int) 0
 (secs x') [] [] ∧
 At (owLI k a b s)
 ([V.int IntKind.u16 k, V.dat (D.sl 1 (ints IntKind.u8 a)), V.dat (D.sl 1 (ints IntKind.u8 b)), V.ptr 0 0, V.ptr 1 0, V.sl 2 0 ((getP s_3.l (IntKind.i64.wrap k)).getD []).length, V.int IntKind.i64 0],
 [KO.cells [V.sl 3 0 x.length, V.sl 4 0 0, V.int IntKind.i64 (-1), V.sb false], KO.cells [V.ptr 0 0, V.int IntKind.i64 (↑(N / 4) : Int), V.int IntKind.i64 (↑s_3.gen : Int), V.mp 5, V.ptr 6 0, V.sb false], KO.row 5 1 (ints IntKind.u8 ((getP s_3.l (IntKind.i64.wrap k)).getD [])), KO.row 82 64 (secs x), KO.row 84 129 [],
 KO.mp [IntKind.i64] false false 1 M', KO.cells [V.ptr 0 0, V.int IntKind.i64 (↑(2 * (N / 4)) : Int), V.int IntKind.i64 (↑(N - 2 * (N / 4)) : Int), V.int IntKind.i64 (↑s_3.gen : Int), V.int IntKind.i64 (↑s_3.u : Int), V.int IntKind.i64 (↑s_3.m : Int), V.sl 7 0 0, V.sb false], KO.row 126 2 []]) ∧
 ∀ (i : { q : VQ × List Int // VqI 40 a.length s q.fst ∧ q.snd.length = a.length }),
 (decide ((↑i.val.fst.i : Int) < (↑(a.length - 0) : Int)) = true →
 InB (↑i.val.fst.i : Int) (a.length - 0) ∧
 ∃ (e : List D),
 (ints IntKind.u8 i.val.snd)[0 + (↑i.val.fst.i : Int).toNat]? = some e ∧
 ∃ (n : Int),
 e[0]? = some (D.val (Value.int IntKind.u8 n)) ∧
 InB (↑i.val.fst.i : Int) (a.length - 0) ∧
 0 + (↑i.val.fst.i : Int).toNat < (ints IntKind.u8 i.val.snd).length ∧
 Nx (owLI k a b s) i
 ([V.int IntKind.u16 k, V.dat (D.sl 1 (ints IntKind.u8 a)), V.dat (D.sl 1 (ints IntKind.u8 b)), V.ptr 0 0, V.ptr 1 0, V.sl 2 0 a.length, V.int IntKind.i64 (IntKind.i64.wrap ((↑i.val.fst.i : Int) + 1))],
 [KO.cells [V.sl 3 0 i.val.fst.x.length, V.sl 4 0 0, V.int IntKind.i64 (-1), V.sb false], KO.cells [V.ptr 0 0, V.int IntKind.i64 10, V.int IntKind.i64 (↑s.gen : Int), V.mp 5, V.ptr 6 0, V.sb false],
 KO.row 5 1 ((ints IntKind.u8 i.val.snd).set (0 + (↑i.val.fst.i : Int).toNat) [D.val (Value.int IntKind.u8 (IntKind.u8.wrap (n + 1)))]), KO.row 82 64 (secs i.val.fst.x), KO.row 84 129 [], KO.mp [IntKind.i64] false false 1 i.val.fst.M,
 KO.cells [V.ptr 0 0, V.int IntKind.i64 20, V.int IntKind.i64 20, V.int IntKind.i64 (↑s.gen : Int), V.int IntKind.i64 (↑s.u : Int), V.int IntKind.i64 (↑s.m : Int), V.sl 7 0 0, V.sb false], KO.row 126 2 []])) ∧
 (decide ((↑i.val.fst.i : Int) < (↑(a.length - 0) : Int)) = false →
 ∃ (N : Nat),
 ∃ (s_4 : VSt),
 ∃ (x : List (List Int)),
 VIn N s_4 x 10 (↑s.gen : Int) i.val.fst.x.length 0 i.val.fst.M 20 20 (↑s.gen : Int) (↑s.u : Int) (↑s.m : Int) 0 (secs i.val.fst.x) [] [] ∧
 ((!(getP s_4.l (IntKind.i64.wrap k)).isSome) = true → False) ∧
 ((!(getP s_4.l (IntKind.i64.wrap k)).isSome) = false →
 (((getP s_4.l (IntKind.i64.wrap k)).getD []).length ≤ (ints IntKind.u8 ((getP s_4.l (IntKind.i64.wrap k)).getD [])).length ∧ True ∧ True) ∧
 ∃ (a_11 : List Int),
 ∃ (b_2 : List Int),
 List.drop 0 (List.take ((getP s_4.l (IntKind.i64.wrap k)).getD []).length (ints IntKind.u8 ((getP s_4.l (IntKind.i64.wrap k)).getD []))) = ints IntKind.u8 a_11 ∧
 ints IntKind.u8 a = ints IntKind.u8 b_2 ∧
 a_11.length.le 1000000 ∧
 True ∧
 ((!decide (a_11 = b_2)) = true → False) ∧
 ((!decide (a_11 = b_2)) = false →
 ∃ (N_2 : Nat),
 ∃ (s_5 : VSt),
 ∃ (x_2 : List (List Int)),
 VIn N_2 s_5 x_2 (↑(N / 4) : Int) (↑s_4.gen : Int) x.length 0 i.val.fst.M (↑(2 * (N / 4)) : Int) (↑(N - 2 * (N / 4)) : Int) (↑s_4.gen : Int) (↑s_4.u : Int) (↑s_4.m : Int) 0 (secs x) [] [] ∧
 s_5.gen < 1000 ∧
 ∀ (M' : ML) (x' : List (List Int)),
 Tab M' (dropF N_2 s_5 (IntKind.i64.wrap k)).snd.l →
 (∃ (P0 : List (List Int)),
 ∃ (P1 : List (List Int)),
 ∃ (B : List (List Int)),
 ∃ (g0 : Nat),
 ∃ (g1 : Nat),
 ∃ (l0 : List P2), ∃ (l1 : List P2), ∃ (cs : List Chg), VJ N_2 (dropF N_2 s_5 (IntKind.i64.wrap k)).snd.gen (dropF N_2 s_5 (IntKind.i64.wrap k)).snd.l (dropF N_2 s_5 (IntKind.i64.wrap k)).snd.u (dropF N_2 s_5 (IntKind.i64.wrap k)).snd.m x' P0 P1 B g0 g1 l0 l1 cs) →
 (((dropF N_2 s_5 (IntKind.i64.wrap k)).fst != 0) = true → False) ∧
 (((dropF N_2 s_5 (IntKind.i64.wrap k)).fst != 0) = false →
 ∃ (N : Nat),
 ∃ (s : VSt),
 ∃ (x : List (List Int)),
 VIn N s x (↑(N_2 / 4) : Int) (↑(dropF N_2 s_5 (IntKind.i64.wrap k)).snd.gen : Int) x'.length 0 M' (↑(2 * (N_2 / 4)) : Int) (↑(N_2 - 2 * (N_2 / 4)) : Int) (↑(dropF N_2 s_5 (IntKind.i64.wrap k)).snd.gen : Int) (↑(dropF N_2 s_5 (IntKind.i64.wrap k)).snd.u : Int)
 (↑(dropF N_2 s_5 (IntKind.i64.wrap k)).snd.m : Int) 0 (secs x') [] [] ∧
 s.gen < 1000 ∧
 ∀ (M' : ML) (x' : List (List Int)),
 Tab M' (dropF N s (IntKind.i64.wrap k)).snd.l →
 (∃ (P0 : List (List Int)),
 ∃ (P1 : List (List Int)),
 ∃ (B : List (List Int)),
 ∃ (g0 : Nat),
 ∃ (g1 : Nat),
 ∃ (l0 : List P2), ∃ (l1 : List P2), ∃ (cs : List Chg), VJ N (dropF N s (IntKind.i64.wrap k)).snd.gen (dropF N s (IntKind.i64.wrap k)).snd.l (dropF N s (IntKind.i64.wrap k)).snd.u (dropF N s (IntKind.i64.wrap k)).snd.m x' P0 P1 B g0 g1 l0 l1 cs) →
 (((dropF N s (IntKind.i64.wrap k)).fst != 7) = true → False) ∧
 (((dropF N s (IntKind.i64.wrap k)).fst != 7) = false →
 ∃ (N_3 : Nat),
 ∃ (s_6 : VSt),
 ∃ (x : List (List Int)),
 VIn N_3 s_6 x (↑(N / 4) : Int) (↑(dropF N s (IntKind.i64.wrap k)).snd.gen : Int) x'.length 0 M' (↑(2 * (N / 4)) : Int) (↑(N - 2 * (N / 4)) : Int) (↑(dropF N s (IntKind.i64.wrap k)).snd.gen : Int) (↑(dropF N s (IntKind.i64.wrap k)).snd.u : Int)
 (↑(dropF N s (IntKind.i64.wrap k)).snd.m : Int) 0 (secs x') [] [] ∧
 ((getP s_6.l (IntKind.i64.wrap k)).isSome = true → False) ∧
 ((getP s_6.l (IntKind.i64.wrap k)).isSome = false →
 ∃ (N : Nat),
 ∃ (s : VSt),
 ∃ (x_3 : List (List Int)),
 VIn N s x_3 (↑(N_3 / 4) : Int) (↑s_6.gen : Int) x.length 0 M' (↑(2 * (N_3 / 4)) : Int) (↑(N_3 - 2 * (N_3 / 4)) : Int) (↑s_6.gen : Int) (↑s_6.u : Int) (↑s_6.m : Int) 0 (secs x) [] [] ∧
 (((↑(s.l.length - 0) : Int) != 0) = true → False) ∧
 (((↑(s.l.length - 0) : Int) != 0) = false →
 ∃ (N_4 : Nat),
 ∃ (s_7 : VSt),
 ∃ (x : List (List Int)),
 ∃ (b_3 : List Int),
 VIn N_4 s_7 x (↑(N / 4) : Int) (↑s.gen : Int) x_3.length 0 M' (↑(2 * (N / 4)) : Int) (↑(N - 2 * (N / 4)) : Int) (↑s.gen : Int) (↑s.u : Int) (↑s.m : Int) 0 (secs x_3) [] [] ∧
 ints IntKind.u8 b = ints IntKind.u8 b_3 ∧
 (∀ (c : Int), List.Mem c b_3 → 0 ≤ c ∧ c < 256) ∧
 b_3.length ≤ 800000 ∧
 s_7.gen < 1000 ∧
 ∀ (M' : ML) (x' : List (List Int)),
 Tab M' (putF N_4 s_7 (IntKind.i64.wrap k) b_3).snd.l →
 (∃ (P0 : List (List Int)),
 ∃ (P1 : List (List Int)),
 ∃ (B : List (List Int)),
 ∃ (g0 : Nat),
 ∃ (g1 : Nat),
 ∃ (l0 : List P2),
 ∃ (l1 : List P2),
 ∃ (cs : List Chg),
 VJ N_4 (putF N_4 s_7 (IntKind.i64.wrap k) b_3).snd.gen (putF N_4 s_7 (IntKind.i64.wrap k) b_3).snd.l (putF N_4 s_7 (IntKind.i64.wrap k) b_3).snd.u
 (putF N_4 s_7 (IntKind.i64.wrap k) b_3).snd.m x' P0 P1 B g0 g1 l0 l1 cs) →
 (((putF N_4 s_7 (IntKind.i64.wrap k) b_3).fst != 0) = true → False) ∧
 (((putF N_4 s_7 (IntKind.i64.wrap k) b_3).fst != 0) = false →
 ∃ (N : Nat),
 ∃ (s : VSt),
 ∃ (x : List (List Int)),
 secs x' = secs x ∧
 x'.length = x.length ∧
 NoW 0 [] ∧
 (∃ (P0 : List (List Int)),
 ∃ (P1 : List (List Int)), ∃ (B : List (List Int)), ∃ (g0 : Nat), ∃ (g1 : Nat), ∃ (l0 : List P2), ∃ (l1 : List P2), ∃ (cs : List Chg), VJ N s.gen s.l s.u s.m x P0 P1 B g0 g1 l0 l1 cs) ∧
 ∀ (M : ML),
 Tab M s.l →
 (false = true → False) ∧
 (false = false →
 ∃ (N_5 : Nat),
 ∃ (s_8 : VSt),
 ∃ (x_4 : List (List Int)),
 VIn N_5 s_8 x_4 (↑(N / 4) : Int) (↑s.gen : Int) x.length 0 M (↑(2 * (N / 4)) : Int) (↑(N - 2 * (N / 4)) : Int) (↑s.gen : Int) (↑s.u : Int) (↑s.m : Int) 0 (secs x) [] [] ∧
 ((getP s_8.l (IntKind.i64.wrap k)).isSome = true →
 (((getP s_8.l (IntKind.i64.wrap k)).getD []).length ≤ (ints IntKind.u8 ((getP s_8.l (IntKind.i64.wrap k)).getD [])).length ∧ True ∧ True) ∧
 ∃ (a : List Int),
 ∃ (b_4 : List Int),
 List.drop 0 (List.take ((getP s_8.l (IntKind.i64.wrap k)).getD []).length (ints IntKind.u8 ((getP s_8.l (IntKind.i64.wrap k)).getD []))) = ints IntKind.u8 a ∧
 ints IntKind.u8 b = ints IntKind.u8 b_4 ∧ a.length.le 1000000 ∧ True ∧ (decide (a = b_4) = true → true = true) ∧ (decide (a = b_4) = false → False)) ∧
 ((getP s_8.l (IntKind.i64.wrap k)).isSome = false → False)))))))))))))))
 ) : XL 0 k 0 [] a b s 6 [.int .u16 k, .dat (.sl 1 (ints .u8 a)), .dat (.sl 1 (ints .u8 b))] [] KT := by apply Eq.mp (a := hvc_); kernel_rfl
end Go.Proofs.Ytkodjbegpheomaa
