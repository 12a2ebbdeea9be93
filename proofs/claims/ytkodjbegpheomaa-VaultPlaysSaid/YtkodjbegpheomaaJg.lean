import Derived.Test.YtkodjbegpheomaaJf
import Derived.KernelRfl
namespace Go.Proofs.Ytkodjbegpheomaa
open Vc Go
set_option linter.unusedVariables false
set_option linter.unusedSimpArgs false
set_option maxRecDepth 100000
def flJ (x : List (List Int)) (f m : Nat) : List Int := ((x.drop f).take m).flatten
structure Prt (x : List (List Int)) (f m : Nat) : Prop extends Sec64 x where
  fit : f + m ≤ x.length
def Sbytes : FSpec := fun args kb K => match args, kb with
  | [.ptr 0 0, .int .i64 from', .int .i64 many], [.cells [.sl 1 0 n, .sl 2 0 m, .int .i64 (-1), .sb false], .row 82 64 X, .row 84 129 w] => ∃ (x : List (List Int)) (f k : Nat), from' = f ∧ many = k ∧ X = secs x ∧ n = x.length ∧ m = w.length ∧ Prt x f k ∧
      K (.tup [.sl 3 0 (flJ x f k).length, .int .i64 0]) [devC x.length w.length, secR x, waiR w, .row 5 1 (ints .u8 (flJ x f k))]
  | _, _ => False
abbrev byLI (x : List (List Int)) (w : List (List D)) (f k : Nat) : LI where
  α := {i : Nat // i ≤ k}
  live := [0, 1, 8, 12, 13]
  nils := [.slot 2 5 1]
  st i := ([.ptr 0 0, .int .i64 (f : Int), .sl 3 0 (flJ x f i.1).length, .int .i64 (k : Int), .int .i64 (i.1 : Int)], [devC x.length w.length, secR x, waiR w, .row 5 1 (ints .u8 (flJ x f i.1))])
  μ i := k - i.1
def scanF : Nat → List Int → Int → Nat → List (List Int) × Nat
  | 0, _, _, _ => ([], 0)
  | k + 1, b, gen, n => match readJ b gen n with
    | none => ([], 0)
    | some (t, s) => (t :: (scanF k (b.drop (64 * s)) gen (n + 1)).1, s + (scanF k (b.drop (64 * s)) gen (n + 1)).2)
def scanJ (b : List Int) (gen : Int) : List (List Int) × Nat := scanF (b.length + 1) b gen 0
structure ScI (b : List Int) (gen : Int) (p : List (List Int) × Nat) : Prop where
  fit : 64 * p.2 ≤ b.length
  few : p.1.length ≤ p.2
  go : ∃ k, b.length < 64 * p.2 + k ∧ scanJ b gen = (p.1 ++ (scanF k (b.drop (64 * p.2)) gen p.1.length).1, p.2 + (scanF k (b.drop (64 * p.2)) gen p.1.length).2)
abbrev scLI (x : List (List Int)) (w : List (List D)) (b : List Int) (gen : Int) : LI where
  α := {p : List (List Int) × Nat // ScI b gen p}
  live := [3, 11, 13, 14]
  nils := [.slot 1 5 1, .slot 2 30 1]
  st p := ([.int .i64 gen, .sl 3 0 b.length, .sl 4 0 p.1.1.length, .int .i64 (p.1.2 : Int)], [devC x.length w.length, secR x, waiR w, .row 5 1 (ints .u8 b), .row 30 1 (p.1.1.map bsl)])
  μ p := b.length - 64 * p.1.2
def Sscan1 : FSpec := fun args kb K => match args, kb with
  | [.ptr 0 0, .int .i64 from', .int .i64 many, .int .i64 gen], [.cells [.sl 1 0 n, .sl 2 0 m, .int .i64 (-1), .sb false], .row 82 64 X, .row 84 129 w] => ∃ (x : List (List Int)) (f k : Nat), from' = f ∧ many = k ∧ X = secs x ∧ n = x.length ∧ m = w.length ∧ Prt x f k ∧ (∀ b ∈ x, Byt b) ∧ NumJ gen ∧
      K (.tup [.sl 3 0 (scanJ (flJ x f k) gen).1.length, .int .i64 ((scanJ (flJ x f k) gen).2 : Int), .int .i64 0]) [devC x.length w.length, secR x, waiR w, .row 30 1 ((scanJ (flJ x f k) gen).1.map bsl)]
  | _, _ => False
def Sscan2 : FSpec := fun args kb K => match args, kb with
  | [.any (.pointer none), .int .i64 from', .int .i64 many, .int .i64 gen], [] => K (.tup [.sl 0 0 0, .int .i64 0, .int .i64 1]) [.row 30 1 []]
  | _, _ => False
def Sscan : FSpec := fun args kb K => match args, kb with
  | [.ptr 0 0, .int .i64 from', .int .i64 many, .int .i64 gen], [.cells [.sl 1 0 n, .sl 2 0 m, .int .i64 (-1), .sb false], .row 82 64 X, .row 84 129 w] => ∃ (x : List (List Int)) (f k : Nat), from' = f ∧ many = k ∧ X = secs x ∧ n = x.length ∧ m = w.length ∧ Prt x f k ∧ (∀ b ∈ x, Byt b) ∧ NumJ gen ∧
      K (.tup [.sl 3 0 (scanJ (flJ x f k) gen).1.length, .int .i64 ((scanJ (flJ x f k) gen).2 : Int), .int .i64 0]) [devC x.length w.length, secR x, waiR w, .row 30 1 ((scanJ (flJ x f k) gen).1.map bsl)]
  | [.any (.pointer none), .int .i64 from', .int .i64 many, .int .i64 gen], [] => K (.tup [.sl 0 0 0, .int .i64 0, .int .i64 1]) [.row 30 1 []]
  | _, _ => False
def swX (x : List (List Int)) (f i : Nat) : List (List Int) := x.take f ++ zer i ++ x.drop (f + i)
structure SwI (x : List (List Int)) (w : List (List D)) (f k : Nat) (i : Nat) (y : Bool) (v : List (List D)) : Prop extends Prt x f k where
  ik : i ≤ k
  wl : v.length ≤ w.length + i
  wp : Plain v.flatten
  no : y = false → v = w
abbrev swLI (x : List (List Int)) (w : List (List D)) (f k : Nat) : LI where
  α := {p : Nat × Bool × List (List D) // SwI x w f k p.1 p.2.1 p.2.2}
  live := [0, 1, 7, 9, 10, 24, 25]
  nils := [.mv 0 1]
  st p := ([.ptr 0 0, .int .i64 (f : Int), .sl 4 0 (flJ x f k).length, .sl 5 0 64, .sb p.1.2.1, .int .i64 (k : Int), .int .i64 (p.1.1 : Int)], [.cells [.sl 1 0 x.length, .sl 3 0 p.1.2.2.length, .int .i64 (-1), .sb false], secR (swX x f p.1.1), .dead, waiR p.1.2.2, .row 5 1 (ints .u8 (flJ x f k)), .row 5 1 (List.replicate 64 [dn .u8 0])])
  μ p := k - p.1.1
def Ssweep : FSpec := fun args kb K => match args, kb with
  | [.ptr 0 0, .int .i64 from', .int .i64 many], [.cells [.sl 1 0 n, .sl 2 0 m, .int .i64 (-1), .sb false], .row 82 64 X, .row 84 129 w] => ∃ (x : List (List Int)) (f k : Nat), from' = f ∧ many = k ∧ X = secs x ∧ n = x.length ∧ m = w.length ∧ Prt x f k ∧ OkD x w ∧ w.length ≤ 50000 ∧
      ∀ w', (w' = [] ∨ w' = w) → K (.int .i64 0) [.cells [.sl 1 0 x.length, .sl 3 0 w'.length, .int .i64 (-1), .sb false], secR (swX x f k), .dead, waiR w']
  | _, _ => False
def jgT (x : List (List Int)) (w : List (List D)) (f k : Nat) (b : List Int) (gen : Int) : FuncId → Nat → Option LI
  | 59, 3 => some (byLI x w f k)
  | 40, 8 => some (scLI x w b gen)
  | 61, 6 => some (swLI x w f k)
  | _, _ => none
def jgS0 : FuncId → Option Known
  | 38 => some ⟨[], SdRead⟩
  | 67 => some ⟨[.asis, .asis, .lend 1], SdWrite⟩
  | 71 => some ⟨[], SdFlush⟩
  | 23 => some ⟨[], SdLen⟩
  | 7 => some ⟨[], SdNew⟩
  | 76 => some ⟨[.lend 1, .lend 1], Ssame⟩
  | _ => none
def jgS : FuncId → Option Known
  | 59 => some ⟨[], Sbytes⟩
  | 60 => some ⟨[.lend 1], SreadJ⟩
  | f => jgS0 f
noncomputable def XJg : CallT := callS Try.prog jgS noT 10
noncomputable def XJg0 : CallT := callS Try.prog jgS0 noT 10
theorem vcBytesJ (x : List (List Int)) (w : List (List D)) (f k : Nat) (K : V → KB → Prop) (hvc_ :
 At (byLI x w f k) ([V.ptr 0 0, V.int IntKind.i64 (↑f : Int), V.sl 3 0 0, V.int IntKind.i64 (↑k : Int), V.int IntKind.i64 0], [KO.cells [V.sl 1 0 x.length, V.sl 2 0 w.length, V.int IntKind.i64 (-1), V.sb false], KO.row 82 64 (secs x), KO.row 84 129 w, KO.row 5 1 []]) ∧
 ∀ (i : { i : Nat // i ≤ k }),
 (decide ((↑i.val : Int) < (↑k : Int)) = true →
 ∃ (x_1 : List (List Int)),
 secs x = secs x_1 ∧
 x.length = x_1.length ∧
 w.length = w.length ∧
 Sec64 x_1 ∧
 (((dRd x_1 (IntKind.i64.wrap ((↑f : Int) + (↑i.val : Int)))).snd != 0) = true → K (V.tup [V.sl 3 0 0, V.int IntKind.i64 (dRd x_1 (IntKind.i64.wrap ((↑f : Int) + (↑i.val : Int)))).snd]) [KO.cells [V.sl 1 0 x_1.length, V.sl 2 0 w.length, V.int IntKind.i64 (-1), V.sb false], KO.row 82 64 (secs x_1), KO.row 84 129 w, KO.row 5 1 []]) ∧
 (((dRd x_1 (IntKind.i64.wrap ((↑f : Int) + (↑i.val : Int)))).snd != 0) = false →
 (dRd x_1 (IntKind.i64.wrap ((↑f : Int) + (↑i.val : Int)))).fst.length ≤ (ints IntKind.u8 (dRd x_1 (IntKind.i64.wrap ((↑f : Int) + (↑i.val : Int)))).fst).length ∧
 (flJ x f i.val).length ≤ (ints IntKind.u8 (flJ x f i.val)).length ∧
 ((flJ x f i.val).length + (List.drop 0 (List.take (dRd x_1 (IntKind.i64.wrap ((↑f : Int) + (↑i.val : Int)))).fst.length (ints IntKind.u8 (dRd x_1 (IntKind.i64.wrap ((↑f : Int) + (↑i.val : Int)))).fst))).length) * 1 ≤ 140737488355328 ∧
 Nx (byLI x w f k) i
 ([V.ptr 0 0, V.int IntKind.i64 (↑f : Int), V.sl 3 0 ((flJ x f i.val).length + (List.drop 0 (List.take (dRd x_1 (IntKind.i64.wrap ((↑f : Int) + (↑i.val : Int)))).fst.length (ints IntKind.u8 (dRd x_1 (IntKind.i64.wrap ((↑f : Int) + (↑i.val : Int)))).fst))).length), V.int IntKind.i64 (↑k : Int), V.int IntKind.i64 (IntKind.i64.wrap ((↑i.val : Int) + 1))],
 [KO.cells [V.sl 1 0 x_1.length, V.sl 2 0 w.length, V.int IntKind.i64 (-1), V.sb false], KO.row 82 64 (secs x_1), KO.row 84 129 w,
 KO.row 5 1 (List.take (flJ x f i.val).length (ints IntKind.u8 (flJ x f i.val)) ++ List.drop 0 (List.take (dRd x_1 (IntKind.i64.wrap ((↑f : Int) + (↑i.val : Int)))).fst.length (ints IntKind.u8 (dRd x_1 (IntKind.i64.wrap ((↑f : Int) + (↑i.val : Int)))).fst)))]))) ∧
 (decide ((↑i.val : Int) < (↑k : Int)) = false → K (V.tup [V.sl 3 0 (flJ x f i.val).length, V.int IntKind.i64 0]) [KO.cells [V.sl 1 0 x.length, V.sl 2 0 w.length, V.int IntKind.i64 (-1), V.sb false], KO.row 82 64 (secs x), KO.row 84 129 w, KO.row 5 1 (ints IntKind.u8 (flJ x f i.val))])
 ) : runSpec Try.prog XJg0 (jgT x w f k [] 0 59) 59 [.ptr 0 0, .int .i64 (f : Int), .int .i64 (k : Int)] [devC x.length w.length, secR x, waiR w] (nilRes [.slot 0 5 1] (tidyRes 3 K)) := by apply Eq.mp (a := hvc_); kernel_rfl
theorem vcScanJ (x : List (List Int)) (w : List (List D)) (f k : Nat) (b : List Int) (gen : Int) (K : V → KB → Prop) (hvc_ :
 (decide ((↑f : Int) ≥ 0) = true →
 (decide ((↑k : Int) ≥ 0) = true →
 ∃ (x_1 : List (List Int)),
 secs x = secs x_1 ∧
 x.length = x_1.length ∧
 w.length = w.length ∧
 (decide ((↑k : Int) ≤ (↑x_1.length : Int)) = true →
 ∃ (x_2 : List (List Int)),
 secs x_1 = secs x_2 ∧
 x_1.length = x_2.length ∧
 w.length = w.length ∧
 ((!decide ((↑f : Int) ≤ IntKind.i64.wrap ((↑x_2.length : Int) - (↑k : Int)))) = true → K (V.tup [V.sl 3 0 0, V.int IntKind.i64 0, V.int IntKind.i64 1]) [KO.cells [V.sl 1 0 x_2.length, V.sl 2 0 w.length, V.int IntKind.i64 (-1), V.sb false], KO.row 82 64 (secs x_2), KO.row 84 129 w, KO.row 30 1 []]) ∧
 ((!decide ((↑f : Int) ≤ IntKind.i64.wrap ((↑x_2.length : Int) - (↑k : Int)))) = false →
 (decide (gen ≥ 0) = true →
 ((!decide (gen ≤ 1099511627776)) = true → K (V.tup [V.sl 3 0 0, V.int IntKind.i64 0, V.int IntKind.i64 1]) [KO.cells [V.sl 1 0 x_2.length, V.sl 2 0 w.length, V.int IntKind.i64 (-1), V.sb false], KO.row 82 64 (secs x_2), KO.row 84 129 w, KO.row 30 1 []]) ∧
 ((!decide (gen ≤ 1099511627776)) = false →
 ∃ (x_3 : List (List Int)),
 ∃ (f_1 : Nat),
 ∃ (k_1 : Nat),
 (↑f : Int) = (↑f_1 : Int) ∧
 (↑k : Int) = (↑k_1 : Int) ∧
 secs x_2 = secs x_3 ∧
 x_2.length = x_3.length ∧
 w.length = w.length ∧
 Prt x_3 f_1 k_1 ∧
 (false = true → K (V.tup [V.sl 3 0 0, V.int IntKind.i64 0, V.int IntKind.i64 0]) [KO.cells [V.sl 1 0 x_3.length, V.sl 2 0 w.length, V.int IntKind.i64 (-1), V.sb false], KO.row 82 64 (secs x_3), KO.row 84 129 w, KO.row 30 1 []]) ∧
 (false = false →
 At (scLI x w b gen) ([V.int IntKind.i64 gen, V.sl 3 0 (flJ x_3 f_1 k_1).length, V.sl 4 0 0, V.int IntKind.i64 0], [KO.cells [V.sl 1 0 x_3.length, V.sl 2 0 w.length, V.int IntKind.i64 (-1), V.sb false], KO.row 82 64 (secs x_3), KO.row 84 129 w, KO.row 5 1 (ints IntKind.u8 (flJ x_3 f_1 k_1)), KO.row 30 1 []]) ∧
 ∀ (i : { p : List (List Int) × Nat // ScI b gen p }),
 NonN (IntKind.i64.wrap ((↑i.val.snd : Int) * 64)) ∧
 True ∧
 (IntKind.i64.wrap ((↑i.val.snd : Int) * 64)).toNat ≤ b.length - 0 ∧
 b.length - 0 ≤ b.length - 0 ∧
 (0 + (b.length - 0) ≤ (ints IntKind.u8 b).length ∧ True) ∧
 ∃ (b_1 : List Int),
 List.drop (0 + (IntKind.i64.wrap ((↑i.val.snd : Int) * 64)).toNat) (List.take (0 + (b.length - 0)) (ints IntKind.u8 b)) = ints IntKind.u8 b_1 ∧
 (∀ (c : Int), List.Mem c b_1 → 0 ≤ c ∧ c < 256) ∧
 b_1.length ≤ 800000 ∧
 (readJ b_1 gen (↑(i.val.fst.length - 0) : Int) = none →
 ∀ (t : List Int) (s : Int),
 PlainS (ints IntKind.u8 t).flatten ∧
 (true = true → K (V.tup [V.sl 3 0 i.val.fst.length, V.int IntKind.i64 (↑i.val.snd : Int), V.int IntKind.i64 0]) [KO.cells [V.sl 1 0 x.length, V.sl 2 0 w.length, V.int IntKind.i64 (-1), V.sb false], KO.row 82 64 (secs x), KO.row 84 129 w, KO.row 30 1 (List.map bsl i.val.fst)]) ∧
 (true = false →
 t.length ≤ (ints IntKind.u8 t).length ∧
 1 ≤ 1 ∧
 i.val.fst.length ≤ (List.map bsl i.val.fst).length ∧
 (i.val.fst.length + 1) * 24 ≤ 140737488355328 ∧
 Nx (scLI x w b gen) i
 ([V.int IntKind.i64 gen, V.sl 3 0 b.length, V.sl 4 0 (i.val.fst.length + 1), V.int IntKind.i64 (IntKind.i64.wrap ((↑i.val.snd : Int) + s))],
 [KO.cells [V.sl 1 0 x.length, V.sl 2 0 w.length, V.int IntKind.i64 (-1), V.sb false], KO.row 82 64 (secs x), KO.row 84 129 w, KO.row 5 1 (ints IntKind.u8 b),
 KO.row 30 1 (List.take i.val.fst.length (List.map bsl i.val.fst) ++ [[D.sl 1 (List.drop 0 (List.take t.length (ints IntKind.u8 t)))]])]))) ∧
 ∀ (t : List Int) (s : Nat),
 readJ b_1 gen (↑(i.val.fst.length - 0) : Int) = some (t, s) →
 PlainS (ints IntKind.u8 t).flatten ∧
 (false = true → K (V.tup [V.sl 3 0 i.val.fst.length, V.int IntKind.i64 (↑i.val.snd : Int), V.int IntKind.i64 0]) [KO.cells [V.sl 1 0 x.length, V.sl 2 0 w.length, V.int IntKind.i64 (-1), V.sb false], KO.row 82 64 (secs x), KO.row 84 129 w, KO.row 30 1 (List.map bsl i.val.fst)]) ∧
 (false = false →
 t.length ≤ (ints IntKind.u8 t).length ∧
 1 ≤ 1 ∧
 i.val.fst.length ≤ (List.map bsl i.val.fst).length ∧
 (i.val.fst.length + 1) * 24 ≤ 140737488355328 ∧
 Nx (scLI x w b gen) i
 ([V.int IntKind.i64 gen, V.sl 3 0 b.length, V.sl 4 0 (i.val.fst.length + 1), V.int IntKind.i64 (IntKind.i64.wrap ((↑i.val.snd : Int) + (↑s : Int)))],
 [KO.cells [V.sl 1 0 x.length, V.sl 2 0 w.length, V.int IntKind.i64 (-1), V.sb false], KO.row 82 64 (secs x), KO.row 84 129 w, KO.row 5 1 (ints IntKind.u8 b),
 KO.row 30 1 (List.take i.val.fst.length (List.map bsl i.val.fst) ++ [[D.sl 1 (List.drop 0 (List.take t.length (ints IntKind.u8 t)))]])]))))) ∧
 (decide (gen ≥ 0) = false → K (V.tup [V.sl 3 0 0, V.int IntKind.i64 0, V.int IntKind.i64 1]) [KO.cells [V.sl 1 0 x_2.length, V.sl 2 0 w.length, V.int IntKind.i64 (-1), V.sb false], KO.row 82 64 (secs x_2), KO.row 84 129 w, KO.row 30 1 []]))) ∧
 (decide ((↑k : Int) ≤ (↑x_1.length : Int)) = false → K (V.tup [V.sl 3 0 0, V.int IntKind.i64 0, V.int IntKind.i64 1]) [KO.cells [V.sl 1 0 x_1.length, V.sl 2 0 w.length, V.int IntKind.i64 (-1), V.sb false], KO.row 82 64 (secs x_1), KO.row 84 129 w, KO.row 30 1 []])) ∧
 (decide ((↑k : Int) ≥ 0) = false → K (V.tup [V.sl 3 0 0, V.int IntKind.i64 0, V.int IntKind.i64 1]) [KO.cells [V.sl 1 0 x.length, V.sl 2 0 w.length, V.int IntKind.i64 (-1), V.sb false], KO.row 82 64 (secs x), KO.row 84 129 w, KO.row 30 1 []])) ∧
 (decide ((↑f : Int) ≥ 0) = false → K (V.tup [V.sl 3 0 0, V.int IntKind.i64 0, V.int IntKind.i64 1]) [KO.cells [V.sl 1 0 x.length, V.sl 2 0 w.length, V.int IntKind.i64 (-1), V.sb false], KO.row 82 64 (secs x), KO.row 84 129 w, KO.row 30 1 []])
 ) : runSpec Try.prog XJg (jgT x w f k b gen 40) 40 [.ptr 0 0, .int .i64 (f : Int), .int .i64 (k : Int), .int .i64 gen] [devC x.length w.length, secR x, waiR w] (nilRes [.slot 0 30 1] (tidyRes 3 K)) := by apply Eq.mp (a := hvc_); kernel_rfl
theorem vcScanN (f k gen : Int) (K : V → KB → Prop) (hvc_ :
 K (V.tup [V.sl 0 0 0, V.int IntKind.i64 0, V.int IntKind.i64 1]) [KO.row 30 1 []]
 ) : runSpec Try.prog XJg (noT 40) 40 [.any (.pointer none), .int .i64 f, .int .i64 k, .int .i64 gen] [] (nilRes [.slot 0 30 1] (tidyRes 0 K)) := by apply Eq.mp (a := hvc_); kernel_rfl
theorem vcSweep (x : List (List Int)) (w : List (List D)) (f k : Nat) (K : V → KB → Prop) (hvc_ :
 ∃ (x_1 : List (List Int)),
 ∃ (f_1 : Nat),
 ∃ (k_1 : Nat),
 (↑f : Int) = (↑f_1 : Int) ∧
 (↑k : Int) = (↑k_1 : Int) ∧
 secs x = secs x_1 ∧
 x.length = x_1.length ∧
 w.length = w.length ∧
 Prt x_1 f_1 k_1 ∧
 (false = true → K (V.int IntKind.i64 0) [KO.cells [V.sl 1 0 x_1.length, V.sl 3 0 w.length, V.int IntKind.i64 (-1), V.sb false], KO.row 82 64 (secs x_1), KO.dead, KO.row 84 129 w]) ∧
 (false = false →
 NonN 64 ∧
 Room 64 64 1 ∧
 At (swLI x w f k)
 ([V.ptr 0 0, V.int IntKind.i64 (↑f : Int), V.sl 4 0 (flJ x_1 f_1 k_1).length, V.sl 5 0 64, V.sb false, V.int IntKind.i64 (↑k : Int), V.int IntKind.i64 0],
 [KO.cells [V.sl 1 0 x_1.length, V.sl 3 0 w.length, V.int IntKind.i64 (-1), V.sb false], KO.row 82 64 (secs x_1), KO.dead, KO.row 84 129 w, KO.row 5 1 (ints IntKind.u8 (flJ x_1 f_1 k_1)),
 KO.row 5 1
 (List.replicate 64 ([D.val (Value.int IntKind.u8 0)]))]) ∧
 ∀ (i : { p : Nat × Bool × List (List D) // SwI x w f k p.fst p.snd.fst p.snd.snd }),
 (decide ((↑i.val.fst : Int) < (↑k : Int)) = true →
 NonN (IntKind.i64.wrap ((↑i.val.fst : Int) * 64)) ∧
 NonN (IntKind.i64.wrap (IntKind.i64.wrap ((↑i.val.fst : Int) + 1) * 64)) ∧
 (IntKind.i64.wrap ((↑i.val.fst : Int) * 64)).toNat ≤ (IntKind.i64.wrap (IntKind.i64.wrap ((↑i.val.fst : Int) + 1) * 64)).toNat ∧
 (IntKind.i64.wrap (IntKind.i64.wrap ((↑i.val.fst : Int) + 1) * 64)).toNat ≤ (flJ x f k).length - 0 ∧
 (0 + (IntKind.i64.wrap (IntKind.i64.wrap ((↑i.val.fst : Int) + 1) * 64)).toNat ≤ (ints IntKind.u8 (flJ x f k)).length ∧ 64 ≤ 64 ∧ True) ∧
 ∃ (a : List Int),
 ∃ (b : List Int),
 List.drop (0 + (IntKind.i64.wrap ((↑i.val.fst : Int) * 64)).toNat) (List.take (0 + (IntKind.i64.wrap (IntKind.i64.wrap ((↑i.val.fst : Int) + 1) * 64)).toNat) (ints IntKind.u8 (flJ x f k))) = ints IntKind.u8 a ∧
 (List.replicate 64 ([D.val (Value.int IntKind.u8 0)])) =
 ints IntKind.u8 b ∧
 a.length.le 1000000 ∧
 True ∧
 (decide (a = b) = true →
 Nx (swLI x w f k) i
 ([V.ptr 0 0, V.int IntKind.i64 (↑f : Int), V.sl 4 0 (flJ x f k).length, V.sl 5 0 64, V.sb i.val.snd.fst, V.int IntKind.i64 (↑k : Int), V.int IntKind.i64 (IntKind.i64.wrap ((↑i.val.fst : Int) + 1))],
 [KO.cells [V.sl 1 0 x.length, V.sl 3 0 i.val.snd.snd.length, V.int IntKind.i64 (-1), V.sb false], KO.row 82 64 (secs (swX x f i.val.fst)), KO.dead, KO.row 84 129 i.val.snd.snd, KO.row 5 1 (ints IntKind.u8 (flJ x f k)),
 KO.row 5 1
 (List.replicate 64 ([D.val (Value.int IntKind.u8 0)]))])) ∧
 (decide (a = b) = false →
 (64 ≤ 64 ∧ True) ∧
 ∃ (x_2 : List (List Int)),
 ∃ (b : List Int),
 secs (swX x f i.val.fst) = secs x_2 ∧
 (List.replicate 64 ([D.val (Value.int IntKind.u8 0)])) =
 ints IntKind.u8 b ∧
 x.length = x_2.length ∧
 i.val.snd.snd.length = i.val.snd.snd.length ∧
 OkD x_2 i.val.snd.snd ∧
 ((WrI x_2 (IntKind.i64.wrap ((↑f : Int) + (↑i.val.fst : Int))) b → False) →
 (PlainS (secs x_2).flatten ∧ PlainS i.val.snd.snd.flatten) ∧
 (true = true → K (V.int IntKind.i64 1) [KO.cells [V.sl 1 0 x.length, V.sl 3 0 i.val.snd.snd.length, V.int IntKind.i64 (-1), V.sb false], KO.row 82 64 (secs x_2), KO.dead, KO.row 84 129 i.val.snd.snd]) ∧
 (true = false →
 Nx (swLI x w f k) i
 ([V.ptr 0 0, V.int IntKind.i64 (↑f : Int), V.sl 4 0 (flJ x f k).length, V.sl 5 0 64, V.sb true, V.int IntKind.i64 (↑k : Int), V.int IntKind.i64 (IntKind.i64.wrap ((↑i.val.fst : Int) + 1))],
 [KO.cells [V.sl 1 0 x.length, V.sl 3 0 i.val.snd.snd.length, V.int IntKind.i64 (-1), V.sb false], KO.row 82 64 (secs x_2), KO.dead, KO.row 84 129 i.val.snd.snd, KO.row 5 1 (ints IntKind.u8 (flJ x f k)),
 KO.row 5 1
 (List.replicate 64 ([D.val (Value.int IntKind.u8 0)]))]))) ∧
 (WrI x_2 (IntKind.i64.wrap ((↑f : Int) + (↑i.val.fst : Int))) b →
 (PlainS (secs (x_2.set (IntKind.i64.wrap ((↑f : Int) + (↑i.val.fst : Int))).toNat b)).flatten ∧ PlainS (i.val.snd.snd ++ [D.val (Value.int IntKind.i64 (IntKind.i64.wrap ((↑f : Int) + (↑i.val.fst : Int)))) :: (dns IntKind.u8 (gS x_2 (IntKind.i64.wrap ((↑f : Int) + (↑i.val.fst : Int)))) ++ dns IntKind.u8 b)]).flatten) ∧
 (false = true →
 K (V.int IntKind.i64 0)
 [KO.cells [V.sl 1 0 x_2.length, V.sl 3 0 (i.val.snd.snd.length + 1), V.int IntKind.i64 (-1), V.sb false], KO.row 82 64 (secs (x_2.set (IntKind.i64.wrap ((↑f : Int) + (↑i.val.fst : Int))).toNat b)), KO.dead,
 KO.row 84 129 (i.val.snd.snd ++ [D.val (Value.int IntKind.i64 (IntKind.i64.wrap ((↑f : Int) + (↑i.val.fst : Int)))) :: (dns IntKind.u8 (gS x_2 (IntKind.i64.wrap ((↑f : Int) + (↑i.val.fst : Int)))) ++ dns IntKind.u8 b)])]) ∧
 (false = false →
 Nx (swLI x w f k) i
 ([V.ptr 0 0, V.int IntKind.i64 (↑f : Int), V.sl 4 0 (flJ x f k).length, V.sl 5 0 64, V.sb true, V.int IntKind.i64 (↑k : Int), V.int IntKind.i64 (IntKind.i64.wrap ((↑i.val.fst : Int) + 1))],
 [KO.cells [V.sl 1 0 x_2.length, V.sl 3 0 (i.val.snd.snd.length + 1), V.int IntKind.i64 (-1), V.sb false], KO.row 82 64 (secs (x_2.set (IntKind.i64.wrap ((↑f : Int) + (↑i.val.fst : Int))).toNat b)), KO.dead,
 KO.row 84 129 (i.val.snd.snd ++ [D.val (Value.int IntKind.i64 (IntKind.i64.wrap ((↑f : Int) + (↑i.val.fst : Int)))) :: (dns IntKind.u8 (gS x_2 (IntKind.i64.wrap ((↑f : Int) + (↑i.val.fst : Int)))) ++ dns IntKind.u8 b)]), KO.row 5 1 (ints IntKind.u8 (flJ x f k)),
 KO.row 5 1
 (List.replicate 64 ([D.val (Value.int IntKind.u8 0)]))]))))) ∧
 (decide ((↑i.val.fst : Int) < (↑k : Int)) = false →
 (i.val.snd.fst = true → ∃ (x_2 : List (List Int)), secs (swX x f i.val.fst) = secs x_2 ∧ x.length = x_2.length ∧ i.val.snd.snd.length = i.val.snd.snd.length ∧ K (V.int IntKind.i64 0) [KO.cells [V.sl 1 0 x_2.length, V.sl 3 0 0, V.int IntKind.i64 (-1), V.sb false], KO.row 82 64 (secs x_2), KO.dead, KO.row 84 129 []]) ∧
 (i.val.snd.fst = false → K (V.int IntKind.i64 0) [KO.cells [V.sl 1 0 x.length, V.sl 3 0 i.val.snd.snd.length, V.int IntKind.i64 (-1), V.sb false], KO.row 82 64 (secs (swX x f i.val.fst)), KO.dead, KO.row 84 129 i.val.snd.snd])))
 ) : runSpec Try.prog XJg (jgT x w f k [] 0 61) 61 [.ptr 0 0, .int .i64 (f : Int), .int .i64 (k : Int)] [devC x.length w.length, secR x, waiR w] (nilRes [.mv 0 1] (tidyRes 3 K)) := by apply Eq.mp (a := hvc_); kernel_rfl
theorem zer_len {n : Nat} : (zer n).length = n := by unfold zer; simp
theorem gS_at {x : List (List Int)} {i : Nat} (h : i < x.length) : x[i]? = some (gS x (i : Int)) := by
  unfold gS
  rw [Int.toNat_natCast, List.getD_eq_getElem?_getD, List.getElem?_eq_getElem h]; rfl
theorem flJ_succ {x : List (List Int)} {f i : Nat} (h : f + i < x.length) : flJ x f (i + 1) = flJ x f i ++ gS x ((f + i : Nat) : Int) := by
  unfold flJ
  rw [List.take_add_one, List.getElem?_drop, gS_at h]
  simp
theorem Prt.fl {x : List (List Int)} {f k : Nat} (h : Prt x f k) : ∀ i, i ≤ k → (flJ x f i).length = 64 * i
  | 0, _ => by simp [flJ]
  | i + 1, hi => by
    have h1 := h.fit
    rw [flJ_succ (by omega), List.length_append, h.fl i (by omega), h.each _ (List.mem_of_getElem? (gS_at (by omega)))]; omega
theorem flJ_app {x : List (List Int)} {f i j : Nat} : flJ x f (i + j) = flJ x f i ++ flJ x (f + i) j := by
  unfold flJ
  rw [List.take_add, List.flatten_append, List.drop_drop]
theorem Prt.chunk {x : List (List Int)} {f k i : Nat} (h : Prt x f k) (hi : i < k) : ((flJ x f k).take (64 * (i + 1))).drop (64 * i) = gS x ((f + i : Nat) : Int) := by
  have h1 := h.fit
  obtain ⟨j, rfl⟩ : ∃ j, k = i + 1 + j := ⟨k - (i + 1), by omega⟩
  rw [flJ_app, ← h.fl (i + 1) (by omega), List.take_left, flJ_succ (by omega), ← h.fl i (by omega), List.drop_left]
theorem flJ_byt {x : List (List Int)} (h : ∀ b ∈ x, Byt b) (f k : Nat) : Byt (flJ x f k) := fun c hc => by
  obtain ⟨l, hl, hc⟩ := List.mem_flatten.1 hc
  exact h l (List.mem_of_mem_drop (List.mem_of_mem_take hl)) c hc
theorem dRd_in {x : List (List Int)} {i : Nat} (h : i < x.length) : dRd x (i : Int) = (gS x (i : Int), 0) := by
  unfold dRd; rw [if_pos (by omega)]
theorem jgS0_ok : AllOk Try.prog jgS0 := fun f k h => by
  unfold jgS0 at h
  split at h <;> first | (cases h; first | exact okReadD | exact okWrite | exact okFlushD | exact okLenD | exact okNewD | exact okEqual) | cases h
theorem XJg0_ok : CallOk Try.prog XJg0 := callS_ok mixed jgS0_ok noT 10
theorem okBytesJ : SpecOk Try.prog 59 Sbytes := specOk_ntn XJg0_ok [.slot 0 5 1] 3 (fun args kb K h => by
  unfold Sbytes at h; split at h <;> try exact h.elim
  rename_i w
  obtain ⟨x, f, k, rfl, rfl, rfl, rfl, rfl, hP, h⟩ := h
  refine ⟨rfl, ?_⟩
  apply Exists.intro (jgT x w f k [] 0 59)
  apply vcBytesJ x w f k K
  refine ⟨At.mk' ⟨0, Nat.zero_le _⟩ (by simp [flJ, ints]), ?_⟩
  rintro ⟨i, hi⟩
  have hfit := hP.fit
  have hlen := hP.len
  refine ⟨fun h1 => ?_, fun h1 => ?_⟩
  · simp only [decide_eq_true_eq] at h1
    have w1 : IntKind.i64.wrap ((f : Int) + (i : Int)) = ((f + i : Nat) : Int) := by rw [w64 (by omega) (by omega)]; omega
    rw [w1, w64 (n := (i : Int) + 1) (by omega) (by omega)]
    refine ⟨x, rfl, rfl, rfl, hP.toSec64, ?_⟩
    rw [dRd_in (by omega)]
    dsimp only
    refine ⟨fun f => by simp at f, fun _ => ⟨by rw [ints_len]; omega, by rw [ints_len]; omega, ?_, ?_⟩⟩
    · rw [List.drop_zero, List.length_take, ints_len]
      have := hP.fl i (by omega)
      have := hP.each _ (List.mem_of_getElem? (gS_at (i := f + i) (x := x) (by omega)))
      omega
    · rw [dropTake, ints_len, ints_take, List.take_length, ← ints_app, ← flJ_succ (by omega)]
      have e : (flJ x f i).length + (gS x ((f + i : Nat) : Int)).length = (flJ x f (i + 1)).length := by rw [flJ_succ (by omega), List.length_append]
      rw [e]
      exact Nx.mk' (⟨i + 1, by omega⟩ : {i : Nat // i ≤ k}) rfl (by show k - (i + 1) < k - i; omega)
  · simp only [decide_eq_false_iff_not] at h1
    have : i = k := by omega
    subst this
    exact h)
theorem readJ_some {b : List Int} {gen n : Int} {t : List Int} {s : Nat} (h : readJ b gen n = some (t, s)) : CA b (jsize b) (jlong b) ∧ s = jsize b ∧ ∃ m, openI ((b.drop 3).take (jlong b)) = some m ∧ isAll (tailJ b) = true ∧ finJ m gen n (jsize b) = some (t, s) := by
  unfold readJ at h
  split at h
  · cases h
  · rename_i hA
    have hCA : CA b (jsize b) (jlong b) := ⟨by omega, Decidable.byContradiction fun q => hA (.inr (.inl q)), rfl, rfl, by omega, by omega⟩
    split at h
    · cases h
    · rename_i m hm
      split at h
      · rename_i hz
        have hs : s = jsize b := by
          unfold finJ at h
          simp only at h
          split at h
          · cases h; rfl
          · cases h
        exact ⟨hCA, hs, m, hm, hz, h⟩
      · cases h
theorem jsize_pos (b : List Int) : 1 ≤ jsize b := by unfold jsize; omega
theorem scanF_enough : ∀ (k j : Nat) (b : List Int) (gen : Int) (n : Nat), b.length < k → b.length < j → scanF k b gen n = scanF j b gen n
  | 0, _, _, _, _, h, _ => by omega
  | _ + 1, 0, _, _, _, _, h => by omega
  | k + 1, j + 1, b, gen, n, h1, h2 => by
    unfold scanF
    cases hr : readJ b gen n with
    | none => rfl
    | some p =>
      obtain ⟨t, s⟩ := p
      obtain ⟨hA, hs, _⟩ := readJ_some hr
      have := jsize_pos b
      have := hA.fit
      simp only
      rw [scanF_enough k j (b.drop (64 * s)) gen (n + 1) (by rw [List.length_drop]; omega) (by rw [List.length_drop]; omega)]
theorem ScI.step {b : List Int} {gen : Int} {l : List (List Int)} {u : Nat} (h : ScI b gen (l, u)) : (readJ (b.drop (64 * u)) gen l.length = none → scanJ b gen = (l, u)) ∧ (∀ t s, readJ (b.drop (64 * u)) gen l.length = some (t, s) → ScI b gen (l ++ [t], u + s) ∧ 1 ≤ s) := by
  obtain ⟨k, hk, hg⟩ := h.go
  have h1 := h.fit
  have h2 := h.few
  simp only at hk hg h1 h2
  cases k with
  | zero => omega
  | succ k =>
    unfold scanF at hg
    constructor
    · intro hr
      rw [hr] at hg
      simpa using hg
    · intro t s hr
      rw [hr] at hg
      obtain ⟨hA, hs, _⟩ := readJ_some hr
      have hp := jsize_pos (b.drop (64 * u))
      have hf := hA.fit
      rw [List.length_drop] at hf
      refine ⟨⟨by show 64 * (u + s) ≤ _; omega, by show (l ++ [t]).length ≤ u + s; rw [List.length_append, List.length_singleton]; omega, k, by show b.length < 64 * (u + s) + k; omega, ?_⟩, by omega⟩
      simp only at hg ⊢
      rw [hg, List.drop_drop, List.length_append, List.length_singleton, List.append_assoc, Nat.add_assoc, Nat.mul_add]
      rfl
theorem map_bsl_take {l : List (List Int)} : List.take l.length (l.map bsl) = l.map bsl := List.take_of_length_le (by rw [List.length_map]; omega)
theorem jgS_ok : AllOk Try.prog jgS := fun f k h => by
  unfold jgS at h
  split at h
  · cases h; exact okBytesJ
  · cases h; exact okJRead0
  · exact jgS0_ok _ _ h
theorem XJg_ok : CallOk Try.prog XJg := callS_ok mixed jgS_ok noT 10
theorem okScanJ1 : SpecOk Try.prog 40 Sscan1 := specOk_ntn XJg_ok [.slot 0 30 1] 3 (fun args kb K h => by
  unfold Sscan1 at h; split at h <;> try exact h.elim
  · rename_i gen _ _ _ w
    obtain ⟨x, f, k, rfl, rfl, rfl, rfl, rfl, hP, hB, hG, h⟩ := h
    have hfit := hP.fit
    have hlen := hP.len
    refine ⟨rfl, ?_⟩
    apply Exists.intro (jgT x w f k (flJ x f k) gen 40)
    apply vcScanJ x w f k (flJ x f k) gen K
    refine ⟨fun h1 => ⟨fun h2 => ⟨x, rfl, rfl, rfl, fun h3 => ⟨x, rfl, rfl, rfl, fun h4 => ?_, fun h4 => ⟨fun h5 => ⟨fun h6 => ?_, fun h6 => ⟨x, f, k, rfl, rfl, rfl, rfl, rfl, hP, fun q => (by cases q), fun _ => ⟨?_, ?_⟩⟩⟩, fun h5 => ?_⟩⟩, fun h3 => ?_⟩, fun h2 => ?_⟩, fun h1 => ?_⟩
    · simp only [Bool.not_eq_true', decide_eq_false_iff_not] at h4
      rw [w64 (by omega) (by omega)] at h4; omega
    · have := hG.hi
      simp only [Bool.not_eq_true', decide_eq_false_iff_not] at h6; omega
    · exact At.mk' ⟨([], 0), by simp, Nat.le_refl _, (flJ x f k).length + 1, by simp, by simp [scanJ]⟩ rfl
    · rintro ⟨⟨l, u⟩, hI⟩
      have hfl := hP.fl k (Nat.le_refl _)
      have h7 := hI.fit
      have h8 := hI.few
      simp only at h7 h8
      generalize hb : flJ x f k = b at *
      have hbb : Byt b := by rw [← hb]; exact flJ_byt hB f k
      have w1 : IntKind.i64.wrap ((u : Int) * 64) = ((64 * u : Nat) : Int) := by rw [w64 (by omega) (by omega)]; omega
      simp only [w1, Int.toNat_natCast, Nat.sub_zero, Nat.zero_add]
      rw [ints_take, List.take_length, ints_drop, map_bsl_take]
      obtain ⟨k1, k2⟩ := hI.step
      refine ⟨by unfold NonN; omega, trivial, by omega, Nat.le_refl _, ⟨by rw [ints_len]; omega, trivial⟩, _, rfl, byt_drop hbb _, by rw [List.length_drop]; omega, fun hr t s => ⟨⟨plain_ints⟩, fun _ => ?_, fun q => (by cases q)⟩, fun t s hr => ⟨⟨plain_ints⟩, fun q => (by cases q), fun _ => ⟨by rw [ints_len]; omega, Nat.le_refl _, by rw [List.length_map]; omega, by omega, ?_⟩⟩⟩
      · rw [k1 hr] at h
        exact h
      · obtain ⟨k3, k4⟩ := k2 t s hr
        have k5 := k3.fit
        simp only at k5
        have w2 : IntKind.i64.wrap ((u : Int) + (s : Int)) = ((u + s : Nat) : Int) := by rw [w64 (by omega) (by omega)]; omega
        rw [w2, dropTake]
        have e : l.map bsl ++ [[D.sl 1 (ints .u8 t)]] = (l ++ [t]).map bsl := by rw [List.map_append]; rfl
        rw [e, show l.length + 1 = (l ++ [t]).length by simp]
        exact Nx.mk' (⟨(l ++ [t], u + s), k3⟩ : {p : List (List Int) × Nat // ScI b gen p}) rfl (by show b.length - 64 * (u + s) < b.length - 64 * u; omega)
    · have := hG.lo
      simp only [decide_eq_false_iff_not] at h5; omega
    · simp only [decide_eq_false_iff_not] at h3; omega
    · simp only [decide_eq_false_iff_not] at h2; omega
    · simp only [decide_eq_false_iff_not] at h1; omega)
theorem okScanJ2 : SpecOk Try.prog 40 Sscan2 := specOk_ntn XJg_ok [.slot 0 30 1] 0 (fun args kb K h => by
  unfold Sscan2 at h; split at h <;> try exact h.elim
  exact ⟨rfl, noT _, vcScanN _ _ _ K h⟩)
theorem okScanJ : SpecOk Try.prog 40 Sscan := fun args kb K h => by
  unfold Sscan at h; split at h <;> try exact h.elim
  · exact okScanJ1 _ _ K h
  · exact okScanJ2 _ _ K h
theorem zer_succ (n : Nat) : zer (n + 1) = zer n ++ [List.replicate 64 0] := by unfold zer; rw [List.replicate_succ']
theorem swX_set {x : List (List Int)} {f i : Nat} (h : f + i < x.length) : (swX x f i).set (f + i) (List.replicate 64 0) = swX x f (i + 1) := by
  unfold swX
  have hl : (x.take f ++ zer i).length = f + i := by rw [List.length_append, List.length_take, zer_len]; omega
  rw [List.set_append_right _ _ (by omega), hl, Nat.sub_self, List.drop_eq_getElem_cons h, List.set_cons_zero, zer_succ]
  simp [List.append_assoc, Nat.add_assoc]
theorem swX_same {x : List (List Int)} {f i : Nat} (h : f + i < x.length) (e : gS x ((f + i : Nat) : Int) = List.replicate 64 0) : swX x f i = swX x f (i + 1) := by
  have h2 : x[f + i] = gS x ((f + i : Nat) : Int) := Option.some.inj ((List.getElem?_eq_getElem h).symm.trans (gS_at h))
  unfold swX
  rw [List.drop_eq_getElem_cons h, h2, e, zer_succ]
  simp [List.append_assoc, Nat.add_assoc]
theorem swX_zero {x : List (List Int)} {f : Nat} : swX x f 0 = x := by
  unfold swX; rw [show zer 0 = [] from rfl, List.append_nil, Nat.add_zero, List.take_append_drop]
theorem swX_len {x : List (List Int)} {f i : Nat} (h : f + i ≤ x.length) : (swX x f i).length = x.length := by
  unfold swX; rw [List.length_append, List.length_append, List.length_take, zer_len, List.length_drop]; omega
theorem Sec64.sw {x : List (List Int)} {f i : Nat} (h : Sec64 x) (hf : f + i ≤ x.length) : Sec64 (swX x f i) := by
  refine ⟨by rw [swX_len hf]; exact h.len, fun b hb => ?_⟩
  unfold swX at hb
  rcases List.mem_append.1 hb with hb | hb
  · rcases List.mem_append.1 hb with hb | hb
    · exact h.each b (List.mem_of_mem_take hb)
    · unfold zer at hb
      rw [List.eq_of_mem_replicate hb, List.length_replicate]
  · exact h.each b (List.mem_of_mem_drop hb)
theorem ints_z64 : List.replicate 64 [D.val (Value.int IntKind.u8 0)] = ints .u8 (List.replicate 64 0) := ints_rep
theorem okSweep : SpecOk Try.prog 61 Ssweep := specOk_ntn XJg_ok [.mv 0 1] 3 (fun args kb K h => by
  unfold Ssweep at h; split at h <;> try exact h.elim
  rename_i w
  obtain ⟨x, f, k, rfl, rfl, rfl, rfl, rfl, hP, hD, hw, h⟩ := h
  refine ⟨rfl, ?_⟩
  apply Exists.intro (jgT x w f k [] 0 61)
  apply vcSweep x w f k K
  have hfit := hP.fit
  have hlen := hP.len
  refine ⟨x, f, k, rfl, rfl, rfl, rfl, rfl, hP, fun q => (by cases q), fun _ => ⟨by unfold NonN; omega, ⟨by omega, by omega, by omega⟩, ?_, ?_⟩⟩
  · exact At.mk' (⟨(0, false, w), ⟨hP, Nat.zero_le _, by simp, hD.p, fun _ => rfl⟩⟩ : {p : Nat × Bool × List (List D) // SwI x w f k p.1 p.2.1 p.2.2}) (by dsimp only; rw [swX_zero]; rfl)
  rintro ⟨⟨i, y, v⟩, hI⟩
  have hik := hI.ik
  have hwl := hI.wl
  have hwp := hI.wp
  have hno := hI.no
  dsimp only at hik hwl hwp hno ⊢
  simp only [decide_eq_true_eq, decide_eq_false_iff_not]
  refine ⟨fun h1 => ?_, fun h1 => ?_⟩
  · have hi : i < k := by omega
    have hfl := hP.fl k (Nat.le_refl _)
    have w1 : IntKind.i64.wrap ((i : Int) * 64) = ((64 * i : Nat) : Int) := by rw [w64 (by omega) (by omega)]; omega
    have w2 : IntKind.i64.wrap (IntKind.i64.wrap ((i : Int) + 1) * 64) = ((64 * (i + 1) : Nat) : Int) := by rw [w64 (n := (i : Int) + 1) (by omega) (by omega), w64 (by omega) (by omega)]; omega
    have w3 : IntKind.i64.wrap ((i : Int) + 1) = ((i + 1 : Nat) : Int) := by rw [w64 (by omega) (by omega)]; omega
    have w4 : IntKind.i64.wrap ((f : Int) + (i : Int)) = ((f + i : Nat) : Int) := by rw [w64 (by omega) (by omega)]; omega
    simp only [w2]
    simp only [w1, w3, w4, Int.toNat_natCast, Nat.zero_add, Nat.sub_zero, ints_len]
    have hg := hP.each _ (List.mem_of_getElem? (gS_at (i := f + i) (x := x) (by omega)))
    refine ⟨by unfold NonN; omega, by unfold NonN; omega, by omega, by omega, ⟨by omega, Nat.le_refl _, trivial⟩, gS x ((f + i : Nat) : Int), List.replicate 64 0, by rw [ints_take, ints_drop, hP.chunk hi], ints_z64, Nat.le_eq ▸ (show (gS x ((f + i : Nat) : Int)).length ≤ 1000000 by omega), trivial, fun h2 => ?_, fun h2 => ⟨⟨Nat.le_refl _, trivial⟩, swX x f i, List.replicate 64 0, rfl, ints_z64, (swX_len (by omega)).symm, trivial, ⟨hP.toSec64.sw (by omega), by omega, hwp⟩, fun q => ?_, fun q => ⟨⟨⟨plain_secs⟩, ⟨plain_app hwp plain_wr⟩⟩, fun q2 => (by cases q2), fun _ => ?_⟩⟩⟩
    · rw [swX_same (by omega) h2]
      exact Nx.mk' (⟨(i + 1, y, v), ⟨hP, by omega, by dsimp only; omega, hwp, hno⟩⟩ : {p : Nat × Bool × List (List D) // SwI x w f k p.1 p.2.1 p.2.2}) rfl (by dsimp only; omega)
    · exact (q ⟨by omega, by rw [swX_len (by omega)]; omega, by simp⟩).elim
    · rw [swX_set (by omega), swX_len (by omega)]
      exact Nx.mk' (⟨(i + 1, true, _), ⟨hP, by omega, by rw [List.length_append, List.length_singleton]; omega, plain_app hwp plain_wr, fun q => (by cases q)⟩⟩ : {p : Nat × Bool × List (List D) // SwI x w f k p.1 p.2.1 p.2.2}) (by dsimp only; rw [List.length_append, List.length_singleton]) (by dsimp only; omega)
  · have e : i = k := by omega
    subst e
    refine ⟨fun q => ⟨swX x f i, rfl, (swX_len (by omega)).symm, trivial, ?_⟩, fun q => ?_⟩
    · rw [swX_len (by omega)]
      exact h [] (.inl rfl)
    · have := hno q
      subst this
      exact h v (.inr rfl))
end Go.Proofs.Ytkodjbegpheomaa
