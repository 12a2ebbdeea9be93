import Derived.Test.YtkodjbegpheomaaJg
import Derived.KernelRfl
namespace Go.Proofs.Ytkodjbegpheomaa
open Vc Go
set_option linter.unusedVariables false
set_option linter.unusedSimpArgs false
set_option maxRecDepth 100000
/-- The first sector of a record that was added, and where it is. -/
abbrev Bg := Int × List Int
def bgD (p : Bg) : List D := [dn .i64 p.1, .sl 1 (ints .u8 p.2)]
abbrev begR (g : List Bg) : KO := .row 126 2 (g.map bgD)
structure JP where
  f : Nat
  k : Nat
  gen : Int
  u : Nat
  n : Nat
abbrev jouC (p : JP) (g : List Bg) : KO := .cells [.ptr 1 0, .int .i64 (p.f : Int), .int .i64 (p.k : Int), .int .i64 p.gen, .int .i64 (p.u : Int), .int .i64 (p.n : Int), .sl 2 0 g.length, .sb false]
abbrev jouH (x : List (List Int)) (w : List (List D)) (p : JP) (g : List Bg) : KB := [jouC p g, .cells [.sl 3 0 x.length, .sl 4 0 w.length, .int .i64 (-1), .sb false], begR g, secR x, waiR w]
structure OkJ (x : List (List Int)) (p : JP) : Prop extends Prt x p.f p.k where
  ub : p.u ≤ p.k
  ng : NumJ p.gen
  nn : p.n ≤ 1000000
def chk (l : List Int) (i : Nat) : List Int := (l.drop (64 * i)).take 64
/-- The first i sectors of l, from sector a on. -/
def putJ (x : List (List Int)) (a : Nat) (l : List Int) : Nat → List (List Int)
  | 0 => x
  | i + 1 => (putJ x a l i).set (a + i) (chk l i)
def SjOpen : FSpec := fun args kb K => match args, kb with
  | [.ptr 0 0, .int .i64 from', .int .i64 many, .int .i64 gen], [.cells [.sl 1 0 n, .sl 2 0 m, .int .i64 (-1), .sb false], .row 82 64 X, .row 84 129 w] => ∃ (x : List (List Int)) (f k : Nat), from' = f ∧ many = k ∧ X = secs x ∧ n = x.length ∧ m = w.length ∧ Prt x f k ∧ (∀ b ∈ x, Byt b) ∧ NumJ gen ∧ OkD x w ∧ w.length ≤ 50000 ∧
      ∀ (w' : List (List D)) (L : List (List Int)) (u : Nat), (w' = [] ∨ w' = w) → scanJ (flJ x f k) gen = (L, u) → u ≤ k →
        K (.tup [.ptr 4 0, .sl 5 0 L.length, .int .i64 0]) [.cells [.sl 1 0 x.length, .sl 3 0 w'.length, .int .i64 (-1), .sb false], secR (swX x (f + u) (k - u)), .dead, waiR w', .cells [.ptr 0 0, .int .i64 (f : Int), .int .i64 (k : Int), .int .i64 gen, .int .i64 (u : Int), .int .i64 (L.length : Int), .sl 6 0 0, .sb false], .row 30 1 (L.map bsl), begR []]
  | _, _ => False
def SjRoom : FSpec := fun args kb K => match args, kb with
  | [.ptr 0 0], [.cells [.ptr 1 0, .int .i64 f, .int .i64 k, .int .i64 gen, .int .i64 u, .int .i64 n, .sl 2 0 l, .sb false], .cells [.sl 3 0 a, .sl 4 0 b, .int .i64 (-1), .sb false], .row t1 2 G, .row t2 64 X, .row t3 129 W] => inI (k - u) ∧
    K (.int .i64 (k - u)) [.cells [.ptr 1 0, .int .i64 f, .int .i64 k, .int .i64 gen, .int .i64 u, .int .i64 n, .sl 2 0 l, .sb false], .cells [.sl 3 0 a, .sl 4 0 b, .int .i64 (-1), .sb false], .row t1 2 G, .row t2 64 X, .row t3 129 W]
  | _, _ => False
def jhS0 : FuncId → Option Known
  | 61 => some ⟨[], Ssweep⟩
  | 40 => some ⟨[], Sscan⟩
  | 65 => some ⟨[.asis, .asis, .lend 1], Sform⟩
  | 31 => some ⟨[.lend 1], ScloneN 5⟩
  | f => jgS0 f
noncomputable def XJh : CallT := callS Try.prog jhS0 noT 10
structure AdI (x : List (List Int)) (w : List (List D)) (size i : Nat) (v : List (List D)) : Prop where
  ik : i ≤ size
  wl : v.length ≤ w.length + i
  wp : Plain v.flatten
abbrev adLI (x : List (List Int)) (w : List (List D)) (p : JP) (g : List Bg) (r : List Int) (size : Nat) : LI where
  α := {q : Nat × List (List D) // AdI x w size q.1 q.2}
  live := [0, 5, 7, 8, 55, 56]
  nils := [.mv 1 1]
  st q := ([.ptr 0 0, .sl 6 0 (64 * size), .int .i64 (size : Int), .ptr 7 0, .int .i64 (size : Int), .int .i64 (q.1.1 : Int)],
    [jouC p g, .cells [.sl 3 0 x.length, .sl 5 0 q.1.2.length, .int .i64 (-1), .sb false], begR g, secR (putJ x (p.f + p.u) (0 :: r) q.1.1), .dead, waiR q.1.2, .row 5 1 (ints .u8 (0 :: r)), .cells [.int .i64 ((p.f + p.u : Nat) : Int), .sl 8 0 64], .row 5 1 (ints .u8 (1 :: r.take 63))])
  μ q := size - q.1.1
def flsJ (x : List (List Int)) : List Bg → List (List Int)
  | [] => x
  | p :: g => flsJ (x.set p.1.toNat p.2) g
structure FlI (x : List (List Int)) (g : List Bg) (i : Nat) (v : List (List D)) : Prop where
  ik : i ≤ g.length
  wl : v.length ≤ i
  wp : Plain v.flatten
abbrev flLI (x : List (List Int)) (w : List (List D)) (p : JP) (g : List Bg) : LI where
  α := {q : Nat × List (List D) // FlI x g q.1 q.2}
  live := [0, 3, 18, 19, 20]
  nils := [.mv 1 1, .kill 4]
  st q := ([.ptr 0 0, .int .i64 0, .sl 2 0 g.length, .int .i64 (g.length : Int), .int .i64 (q.1.1 : Int)], [jouC p g, .cells [.sl 3 0 x.length, .sl 5 0 q.1.2.length, .int .i64 (-1), .sb false], begR g, secR (flsJ x (g.take q.1.1)), .dead, waiR q.1.2])
  μ q := g.length - q.1.1
abbrev adC1 (x : List (List Int)) (w : List (List D)) (p : JP) (g : List Bg) (r : List Int) (size : Nat) : LI where
  α := Unit
  live := [0, 5, 7, 8]
  st _ := ([.ptr 0 0, .sl 5 0 (64 * size), .int .i64 (size : Int), .ptr 6 0],
    [jouC p g, .cells [.sl 3 0 x.length, .sl 4 0 w.length, .int .i64 (-1), .sb false], begR g, secR x, waiR w, .row 5 1 (ints .u8 (1 :: r)), .cells [.int .i64 ((p.f + p.u : Nat) : Int), .sl 7 0 64], .row 5 1 (ints .u8 (1 :: r.take 63))])
  μ _ := 0
/-- A journal behind an act: its rows have numbers of their own. -/
abbrev jouK (x : List (List Int)) (w : List (List D)) (f k : Nat) (gen : Int) (u n : Nat) (g : List Bg) : KB := [.cells [.ptr 1 0, .int .i64 (f : Int), .int .i64 (k : Int), .int .i64 gen, .int .i64 (u : Int), .int .i64 (n : Int), .sl 5 0 g.length, .sb false], .cells [.sl 3 0 x.length, .sl 6 0 w.length, .int .i64 (-1), .sb false], .dead, secR x, .dead, begR g, waiR w]
abbrev adC2 (x : List (List Int)) (w : List (List D)) (p : JP) (g : List Bg) (r : List Int) (size : Nat) : LI where
  α := {v : List (List D) // AdI x w size size v}
  live := [0, 7]
  nils := [.mv 0 6, .mv 1 1, .kill 2, .kill 4]
  st v := ([.ptr 0 0, .int .i64 (size : Int)], [.cells [.ptr 1 0, .int .i64 (p.f : Int), .int .i64 (p.k : Int), .int .i64 p.gen, .int .i64 (p.u : Int), .int .i64 (p.n : Int), .sl 5 0 (g.length + 1), .sb false], .cells [.sl 3 0 x.length, .sl 6 0 v.1.length, .int .i64 (-1), .sb false], .dead, secR (putJ x (p.f + p.u) (0 :: r) size), .dead, begR (g ++ [(((p.f + p.u : Nat) : Int), 1 :: r.take 63)]), waiR v.1])
  μ _ := 0
def jhT (x : List (List Int)) (w : List (List D)) (p : JP) (g : List Bg) (r : List Int) (size : Nat) : FuncId → Nat → Option LI
  | 48, 1010 => some (adC1 x w p g r size)
  | 48, 12 => some (adLI x w p g r size)
  | 48, 1020 => some (adC2 x w p g r size)
  | 51, 5 => some (flLI x w p g)
  | _, _ => none
/-- What comes in with a journal. -/
structure JIn (f' k' gen u' n' : Int) (l a m : Nat) (G X w : List (List D)) (x : List (List Int)) (p : JP) (g : List Bg) : Prop where
  f : f' = p.f
  k : k' = p.k
  gen : gen = p.gen
  u : u' = p.u
  n : n' = p.n
  l : l = g.length
  a : a = x.length
  m : m = w.length
  G : G = g.map bgD
  X : X = secs x
def SjAdd : FSpec := fun args kb K => match args, kb with
  | [.ptr 0 0, .dat (.sl 1 B)], [.cells [.ptr 1 0, .int .i64 f', .int .i64 k', .int .i64 gen, .int .i64 u', .int .i64 n', .sl 2 0 l, .sb false], .cells [.sl 3 0 a, .sl 4 0 m, .int .i64 (-1), .sb false], .row 126 2 G, .row 82 64 X, .row 84 129 w] => ∃ (x : List (List Int)) (p : JP) (g : List Bg) (b : List Int), JIn f' k' gen u' n' l a m G X w x p g ∧ B = ints .u8 b ∧ OkJ x p ∧ OkD x w ∧ w.length ≤ 50000 ∧ g.length ≤ 50000 ∧ Byt b ∧ b.length ≤ 800000 ∧
     ((formJ p.gen p.n b).2 ≠ 0 → K (.int .i64 (formJ p.gen p.n b).2) (jouK x w p.f p.k p.gen p.u p.n g)) ∧
     ((formJ p.gen p.n b).2 = 0 → p.k < p.u + (formJ p.gen p.n b).1.length / 64 → K (.int .i64 6) (jouK x w p.f p.k p.gen p.u p.n g)) ∧
     ((formJ p.gen p.n b).2 = 0 → p.u + (formJ p.gen p.n b).1.length / 64 ≤ p.k → ∀ v : List (List D), v.length ≤ w.length + 16 → Plain v.flatten →
       K (.int .i64 0) (jouK (putJ x (p.f + p.u) (0 :: (formJ p.gen p.n b).1.tail) ((formJ p.gen p.n b).1.length / 64)) v p.f p.k p.gen (p.u + (formJ p.gen p.n b).1.length / 64) (p.n + 1) (g ++ [(((p.f + p.u : Nat) : Int), (formJ p.gen p.n b).1.take 64)])))
  | _, _ => False
/-- What waits stands in the part. -/
structure BgOk (x : List (List Int)) (g : List Bg) : Prop where
  at' : ∀ p ∈ g, 0 ≤ p.1 ∧ p.1 < x.length ∧ p.2.length = 64
  few : g.length ≤ 50000
def SjFlush : FSpec := fun args kb K => match args, kb with
  | [.ptr 0 0], [.cells [.ptr 1 0, .int .i64 f', .int .i64 k', .int .i64 gen, .int .i64 u', .int .i64 n', .sl 2 0 l, .sb false], .cells [.sl 3 0 a, .sl 4 0 m, .int .i64 (-1), .sb false], .row 126 2 G, .row 82 64 X, .row 84 129 w] => ∃ (x : List (List Int)) (p : JP) (g : List Bg), JIn f' k' gen u' n' l a m G X w x p g ∧ Sec64 x ∧ BgOk x g ∧
     K (.int .i64 0) (jouK (flsJ x g) [] p.f p.k p.gen p.u p.n [])
  | _, _ => False
theorem vcJOpen (x : List (List Int)) (w : List (List D)) (f k : Nat) (gen : Int) (K : V → KB → Prop) (hvc_ :
 ∃ (x_1 : List (List Int)),
 ∃ (f_1 : Nat),
 ∃ (k_1 : Nat),
 (↑f : Int) = (↑f_1 : Int) ∧
 (↑k : Int) = (↑k_1 : Int) ∧
 secs x = secs x_1 ∧
 x.length = x_1.length ∧
 w.length = w.length ∧
 Prt x_1 f_1 k_1 ∧
 (∀ (b : List Int), List.Mem b x_1 → ∀ (c : Int), List.Mem c b → 0 ≤ c ∧ c < 256) ∧
 NumJ gen ∧
 (false = true → K (V.tup [V.any (Value.pointer none), V.any (Value.slice none 0 0), V.int IntKind.i64 0]) [KO.cells [V.sl 1 0 x_1.length, V.sl 2 0 w.length, V.int IntKind.i64 (-1), V.sb false], KO.row 82 64 (secs x_1), KO.row 84 129 w]) ∧
 (false = false →
 ∃ (x : List (List Int)),
 ∃ (f_2 : Nat),
 ∃ (k_2 : Nat),
 IntKind.i64.wrap ((↑f : Int) + (↑(scanJ (flJ x_1 f_1 k_1) gen).snd : Int)) = (↑f_2 : Int) ∧
 IntKind.i64.wrap ((↑k : Int) - (↑(scanJ (flJ x_1 f_1 k_1) gen).snd : Int)) = (↑k_2 : Int) ∧
 secs x_1 = secs x ∧
 x_1.length = x.length ∧
 w.length = w.length ∧
 Prt x f_2 k_2 ∧
 OkD x w ∧
 w.length ≤ 50000 ∧
 ∀ (w' : List (List D)),
 w' = [] ∨ w' = w →
 (false = true → K (V.tup [V.any (Value.pointer none), V.any (Value.slice none 0 0), V.int IntKind.i64 0]) [KO.cells [V.sl 1 0 x.length, V.sl 3 0 w'.length, V.int IntKind.i64 (-1), V.sb false], KO.row 82 64 (secs (swX x f_2 k_2)), KO.dead, KO.row 84 129 w']) ∧
 (false = false →
 K (V.tup [V.ptr 4 0, V.sl 5 0 (scanJ (flJ x_1 f_1 k_1) gen).fst.length, V.int IntKind.i64 0])
 [KO.cells [V.sl 1 0 x.length, V.sl 3 0 w'.length, V.int IntKind.i64 (-1), V.sb false], KO.row 82 64 (secs (swX x f_2 k_2)), KO.dead, KO.row 84 129 w',
 KO.cells [V.ptr 0 0, V.int IntKind.i64 (↑f : Int), V.int IntKind.i64 (↑k : Int), V.int IntKind.i64 gen, V.int IntKind.i64 (↑(scanJ (flJ x_1 f_1 k_1) gen).snd : Int), V.int IntKind.i64 (↑((scanJ (flJ x_1 f_1 k_1) gen).fst.length - 0) : Int), V.sl 6 0 0, V.sb false], KO.row 30 1 (List.map bsl (scanJ (flJ x_1 f_1 k_1) gen).fst),
 KO.row 126 2 []]))
 ) : runSpec Try.prog XJh (noT 42) 42 [.ptr 0 0, .int .i64 (f : Int), .int .i64 (k : Int), .int .i64 gen] [devC x.length w.length, secR x, waiR w] (nilRes [.cell 4 6 126 2] (tidyRes 3 K)) := by apply Eq.mp (a := hvc_); kernel_rfl
theorem vcJRoom (f k gen u n : Int) (l a b : Nat) (G X W : List (List D)) (t1 t2 t3 : TypeId) (K : V → KB → Prop) (hvc_ :
 K (V.int IntKind.i64 (IntKind.i64.wrap (k - u))) [KO.cells [V.ptr 1 0, V.int IntKind.i64 f, V.int IntKind.i64 k, V.int IntKind.i64 gen, V.int IntKind.i64 u, V.int IntKind.i64 n, V.sl 2 0 l, V.sb false], KO.cells [V.sl 3 0 a, V.sl 4 0 b, V.int IntKind.i64 (-1), V.sb false], KO.row t1 2 G, KO.row t2 64 X, KO.row t3 129 W]
 ) : runSpec Try.prog X0 (noT 66) 66 [.ptr 0 0] [.cells [.ptr 1 0, .int .i64 f, .int .i64 k, .int .i64 gen, .int .i64 u, .int .i64 n, .sl 2 0 l, .sb false], .cells [.sl 3 0 a, .sl 4 0 b, .int .i64 (-1), .sb false], .row t1 2 G, .row t2 64 X, .row t3 129 W] K := by apply Eq.mp (a := hvc_); kernel_rfl
theorem vcJAdd (x : List (List Int)) (w : List (List D)) (p : JP) (g : List Bg) (b r : List Int) (size : Nat) (K : V → KB → Prop) (hvc_ :
 (false = true →
 K (V.int IntKind.i64 16)
 [KO.cells [V.ptr 1 0, V.int IntKind.i64 (↑p.f : Int), V.int IntKind.i64 (↑p.k : Int), V.int IntKind.i64 p.gen, V.int IntKind.i64 (↑p.u : Int), V.int IntKind.i64 (↑p.n : Int), V.sl 5 0 g.length, V.sb false], KO.cells [V.sl 3 0 x.length, V.sl 6 0 w.length, V.int IntKind.i64 (-1), V.sb false], KO.dead, KO.row 82 64 (secs x), KO.dead, KO.row 126 2 (List.map bgD g), KO.row 84 129 w]) ∧
 (false = false →
 ∃ (b_1 : List Int),
 ints IntKind.u8 b = ints IntKind.u8 b_1 ∧
 (∀ (c : Int), List.Mem c b_1 → 0 ≤ c ∧ c < 256) ∧
 b_1.length ≤ 800000 ∧
 (((formJ p.gen (↑p.n : Int) b_1).snd != 0) = true →
 K (V.int IntKind.i64 (formJ p.gen (↑p.n : Int) b_1).snd)
 [KO.cells [V.ptr 1 0, V.int IntKind.i64 (↑p.f : Int), V.int IntKind.i64 (↑p.k : Int), V.int IntKind.i64 p.gen, V.int IntKind.i64 (↑p.u : Int), V.int IntKind.i64 (↑p.n : Int), V.sl 5 0 g.length, V.sb false], KO.cells [V.sl 3 0 x.length, V.sl 6 0 w.length, V.int IntKind.i64 (-1), V.sb false], KO.dead, KO.row 82 64 (secs x), KO.dead, KO.row 126 2 (List.map bgD g),
 KO.row 84 129 w]) ∧
 (((formJ p.gen (↑p.n : Int) b_1).snd != 0) = false →
 (decide (IntKind.i64.wrap ((↑((formJ p.gen (↑p.n : Int) b_1).fst.length - 0) : Int).tdiv 64) > IntKind.i64.wrap ((↑p.k : Int) - (↑p.u : Int))) = true →
 K (V.int IntKind.i64 6)
 [KO.cells [V.ptr 1 0, V.int IntKind.i64 (↑p.f : Int), V.int IntKind.i64 (↑p.k : Int), V.int IntKind.i64 p.gen, V.int IntKind.i64 (↑p.u : Int), V.int IntKind.i64 (↑p.n : Int), V.sl 5 0 g.length, V.sb false], KO.cells [V.sl 3 0 x.length, V.sl 6 0 w.length, V.int IntKind.i64 (-1), V.sb false], KO.dead, KO.row 82 64 (secs x), KO.dead, KO.row 126 2 (List.map bgD g),
 KO.row 84 129 w]) ∧
 (decide (IntKind.i64.wrap ((↑((formJ p.gen (↑p.n : Int) b_1).fst.length - 0) : Int).tdiv 64) > IntKind.i64.wrap ((↑p.k : Int) - (↑p.u : Int))) = false →
 (True ∧
 NonN 64 ∧
 0 ≤ 64 ∧
 64 ≤ (formJ p.gen (↑p.n : Int) b_1).fst.length - 0 ∧
 ((64 ≤ (ints IntKind.u8 (formJ p.gen (↑p.n : Int) b_1).fst).length ∧ True) ∧
 (List.drop 0 (List.take 64 (ints IntKind.u8 (formJ p.gen (↑p.n : Int) b_1).fst))).length ≤ 1000000 ∧
 PlainS (List.drop 0 (List.take 64 (ints IntKind.u8 (formJ p.gen (↑p.n : Int) b_1).fst))).flatten ∧
 EqI (↑p.u : Int) (↑p.u : Int) ∧
 EqI (↑p.f : Int) (↑p.f : Int) ∧
 EqI (↑p.u : Int) (↑p.u : Int) ∧
 EqI (↑p.f : Int) (↑p.f : Int) ∧
 At (adC1 x w p g r size)
 ([V.ptr 0 0, V.sl 5 0 (formJ p.gen (↑p.n : Int) b_1).fst.length, V.int IntKind.i64 (IntKind.i64.wrap ((↑((formJ p.gen (↑p.n : Int) b_1).fst.length - 0) : Int).tdiv 64)), V.ptr 6 0],
 [KO.cells [V.ptr 1 0, V.int IntKind.i64 (↑p.f : Int), V.int IntKind.i64 (↑p.k : Int), V.int IntKind.i64 p.gen, V.int IntKind.i64 (↑p.u : Int), V.int IntKind.i64 (↑p.n : Int), V.sl 2 0 g.length, V.sb false], KO.cells [V.sl 3 0 x.length, V.sl 4 0 w.length, V.int IntKind.i64 (-1), V.sb false], KO.row 126 2 (List.map bgD g), KO.row 82 64 (secs x),
 KO.row 84 129 w, KO.row 5 1 (ints IntKind.u8 (formJ p.gen (↑p.n : Int) b_1).fst), KO.cells [V.int IntKind.i64 (IntKind.i64.wrap ((↑p.f : Int) + (↑p.u : Int))), V.sl 7 0 (List.drop 0 (List.take 64 (ints IntKind.u8 (formJ p.gen (↑p.n : Int) b_1).fst))).length],
 KO.row 5 1 (List.drop 0 (List.take 64 (ints IntKind.u8 (formJ p.gen (↑p.n : Int) b_1).fst)))])) ∧
 EqI (↑p.u : Int) (↑p.u : Int) ∧
 EqI (↑p.f : Int) (↑p.f : Int) ∧
 (64 ≤ (ints IntKind.u8 (formJ p.gen (↑p.n : Int) b_1).fst).length ∧ True) ∧
 (List.drop 0 (List.take 64 (ints IntKind.u8 (formJ p.gen (↑p.n : Int) b_1).fst))).length ≤ 1000000 ∧
 PlainS (List.drop 0 (List.take 64 (ints IntKind.u8 (formJ p.gen (↑p.n : Int) b_1).fst))).flatten ∧
 EqI (↑p.u : Int) (↑p.u : Int) ∧
 EqI (↑p.f : Int) (↑p.f : Int) ∧
 At (adC1 x w p g r size)
 ([V.ptr 0 0, V.sl 5 0 (formJ p.gen (↑p.n : Int) b_1).fst.length, V.int IntKind.i64 (IntKind.i64.wrap ((↑((formJ p.gen (↑p.n : Int) b_1).fst.length - 0) : Int).tdiv 64)), V.ptr 6 0],
 [KO.cells [V.ptr 1 0, V.int IntKind.i64 (↑p.f : Int), V.int IntKind.i64 (↑p.k : Int), V.int IntKind.i64 p.gen, V.int IntKind.i64 (↑p.u : Int), V.int IntKind.i64 (↑p.n : Int), V.sl 2 0 g.length, V.sb false], KO.cells [V.sl 3 0 x.length, V.sl 4 0 w.length, V.int IntKind.i64 (-1), V.sb false], KO.row 126 2 (List.map bgD g), KO.row 82 64 (secs x),
 KO.row 84 129 w, KO.row 5 1 (ints IntKind.u8 (formJ p.gen (↑p.n : Int) b_1).fst), KO.cells [V.int IntKind.i64 (IntKind.i64.wrap ((↑p.f : Int) + (↑p.u : Int))), V.sl 7 0 (List.drop 0 (List.take 64 (ints IntKind.u8 (formJ p.gen (↑p.n : Int) b_1).fst))).length],
 KO.row 5 1 (List.drop 0 (List.take 64 (ints IntKind.u8 (formJ p.gen (↑p.n : Int) b_1).fst)))])) ∧
 ∀ (i : Unit),
 InB 0 (64 * size - 0) ∧
 0 < (ints IntKind.u8 (1 :: r)).length ∧
 At (adLI x w p g r size)
 ([V.ptr 0 0, V.sl 6 0 (64 * size), V.int IntKind.i64 (↑size : Int), V.ptr 7 0, V.int IntKind.i64 (↑size : Int), V.int IntKind.i64 0],
 [KO.cells [V.ptr 1 0, V.int IntKind.i64 (↑p.f : Int), V.int IntKind.i64 (↑p.k : Int), V.int IntKind.i64 p.gen, V.int IntKind.i64 (↑p.u : Int), V.int IntKind.i64 (↑p.n : Int), V.sl 2 0 g.length, V.sb false], KO.cells [V.sl 3 0 x.length, V.sl 5 0 w.length, V.int IntKind.i64 (-1), V.sb false], KO.row 126 2 (List.map bgD g), KO.row 82 64 (secs x), KO.dead,
 KO.row 84 129 w, KO.row 5 1 ((ints IntKind.u8 (1 :: r)).set 0 [D.val (Value.int IntKind.u8 0)]), KO.cells [V.int IntKind.i64 (↑(p.f + p.u) : Int), V.sl 8 0 64], KO.row 5 1 (ints IntKind.u8 (1 :: List.take 63 r))]) ∧
 ∀ (i : { q : Nat × List (List D) // AdI x w size q.fst q.snd }),
 (decide ((↑i.val.fst : Int) < (↑size : Int)) = true →
 NonN (IntKind.i64.wrap ((↑i.val.fst : Int) * 64)) ∧
 NonN (IntKind.i64.wrap (IntKind.i64.wrap ((↑i.val.fst : Int) + 1) * 64)) ∧
 (IntKind.i64.wrap ((↑i.val.fst : Int) * 64)).toNat ≤ (IntKind.i64.wrap (IntKind.i64.wrap ((↑i.val.fst : Int) + 1) * 64)).toNat ∧
 (IntKind.i64.wrap (IntKind.i64.wrap ((↑i.val.fst : Int) + 1) * 64)).toNat ≤ 64 * size - 0 ∧
 (0 + (IntKind.i64.wrap (IntKind.i64.wrap ((↑i.val.fst : Int) + 1) * 64)).toNat ≤ (ints IntKind.u8 (0 :: r)).length ∧ True) ∧
 ∃ (x_1 : List (List Int)),
 ∃ (b : List Int),
 secs (putJ x (p.f + p.u) (0 :: r) i.val.fst) = secs x_1 ∧
 List.drop (0 + (IntKind.i64.wrap ((↑i.val.fst : Int) * 64)).toNat) (List.take (0 + (IntKind.i64.wrap (IntKind.i64.wrap ((↑i.val.fst : Int) + 1) * 64)).toNat) (ints IntKind.u8 (0 :: r))) = ints IntKind.u8 b ∧
 x.length = x_1.length ∧
 i.val.snd.length = i.val.snd.length ∧
 OkD x_1 i.val.snd ∧
 ((WrI x_1 (IntKind.i64.wrap ((↑(p.f + p.u) : Int) + (↑i.val.fst : Int))) b → False) →
 (PlainS (secs x_1).flatten ∧ PlainS i.val.snd.flatten) ∧
 (true = true →
 K (V.int IntKind.i64 1)
 [KO.cells [V.ptr 1 0, V.int IntKind.i64 (↑p.f : Int), V.int IntKind.i64 (↑p.k : Int), V.int IntKind.i64 p.gen, V.int IntKind.i64 (↑p.u : Int), V.int IntKind.i64 (↑p.n : Int), V.sl 5 0 g.length, V.sb true], KO.cells [V.sl 3 0 x.length, V.sl 6 0 i.val.snd.length, V.int IntKind.i64 (-1), V.sb false], KO.dead,
 KO.row 82 64 (secs x_1), KO.dead, KO.row 126 2 (List.map bgD g), KO.row 84 129 i.val.snd]) ∧
 (true = false →
 Nx (adLI x w p g r size) i
 ([V.ptr 0 0, V.sl 6 0 (64 * size), V.int IntKind.i64 (↑size : Int), V.ptr 7 0, V.int IntKind.i64 (↑size : Int), V.int IntKind.i64 (IntKind.i64.wrap ((↑i.val.fst : Int) + 1))],
 [KO.cells [V.ptr 1 0, V.int IntKind.i64 (↑p.f : Int), V.int IntKind.i64 (↑p.k : Int), V.int IntKind.i64 p.gen, V.int IntKind.i64 (↑p.u : Int), V.int IntKind.i64 (↑p.n : Int), V.sl 2 0 g.length, V.sb false], KO.cells [V.sl 3 0 x.length, V.sl 5 0 i.val.snd.length, V.int IntKind.i64 (-1), V.sb false],
 KO.row 126 2 (List.map bgD g), KO.row 82 64 (secs x_1), KO.dead, KO.row 84 129 i.val.snd, KO.row 5 1 (ints IntKind.u8 (0 :: r)), KO.cells [V.int IntKind.i64 (↑(p.f + p.u) : Int), V.sl 8 0 64], KO.row 5 1 (ints IntKind.u8 (1 :: List.take 63 r))]))) ∧
 (WrI x_1 (IntKind.i64.wrap ((↑(p.f + p.u) : Int) + (↑i.val.fst : Int))) b →
 (PlainS (secs (x_1.set (IntKind.i64.wrap ((↑(p.f + p.u) : Int) + (↑i.val.fst : Int))).toNat b)).flatten ∧
 PlainS (i.val.snd ++ [D.val (Value.int IntKind.i64 (IntKind.i64.wrap ((↑(p.f + p.u) : Int) + (↑i.val.fst : Int)))) :: (dns IntKind.u8 (gS x_1 (IntKind.i64.wrap ((↑(p.f + p.u) : Int) + (↑i.val.fst : Int)))) ++ dns IntKind.u8 b)]).flatten) ∧
 (false = true →
 K (V.int IntKind.i64 0)
 [KO.cells [V.ptr 1 0, V.int IntKind.i64 (↑p.f : Int), V.int IntKind.i64 (↑p.k : Int), V.int IntKind.i64 p.gen, V.int IntKind.i64 (↑p.u : Int), V.int IntKind.i64 (↑p.n : Int), V.sl 5 0 g.length, V.sb true], KO.cells [V.sl 3 0 x_1.length, V.sl 6 0 (i.val.snd.length + 1), V.int IntKind.i64 (-1), V.sb false], KO.dead,
 KO.row 82 64 (secs (x_1.set (IntKind.i64.wrap ((↑(p.f + p.u) : Int) + (↑i.val.fst : Int))).toNat b)), KO.dead, KO.row 126 2 (List.map bgD g),
 KO.row 84 129 (i.val.snd ++ [D.val (Value.int IntKind.i64 (IntKind.i64.wrap ((↑(p.f + p.u) : Int) + (↑i.val.fst : Int)))) :: (dns IntKind.u8 (gS x_1 (IntKind.i64.wrap ((↑(p.f + p.u) : Int) + (↑i.val.fst : Int)))) ++ dns IntKind.u8 b)])]) ∧
 (false = false →
 Nx (adLI x w p g r size) i
 ([V.ptr 0 0, V.sl 6 0 (64 * size), V.int IntKind.i64 (↑size : Int), V.ptr 7 0, V.int IntKind.i64 (↑size : Int), V.int IntKind.i64 (IntKind.i64.wrap ((↑i.val.fst : Int) + 1))],
 [KO.cells [V.ptr 1 0, V.int IntKind.i64 (↑p.f : Int), V.int IntKind.i64 (↑p.k : Int), V.int IntKind.i64 p.gen, V.int IntKind.i64 (↑p.u : Int), V.int IntKind.i64 (↑p.n : Int), V.sl 2 0 g.length, V.sb false], KO.cells [V.sl 3 0 x_1.length, V.sl 5 0 (i.val.snd.length + 1), V.int IntKind.i64 (-1), V.sb false],
 KO.row 126 2 (List.map bgD g), KO.row 82 64 (secs (x_1.set (IntKind.i64.wrap ((↑(p.f + p.u) : Int) + (↑i.val.fst : Int))).toNat b)), KO.dead,
 KO.row 84 129 (i.val.snd ++ [D.val (Value.int IntKind.i64 (IntKind.i64.wrap ((↑(p.f + p.u) : Int) + (↑i.val.fst : Int)))) :: (dns IntKind.u8 (gS x_1 (IntKind.i64.wrap ((↑(p.f + p.u) : Int) + (↑i.val.fst : Int)))) ++ dns IntKind.u8 b)]), KO.row 5 1 (ints IntKind.u8 (0 :: r)),
 KO.cells [V.int IntKind.i64 (↑(p.f + p.u) : Int), V.sl 8 0 64], KO.row 5 1 (ints IntKind.u8 (1 :: List.take 63 r))])))) ∧
 (decide ((↑i.val.fst : Int) < (↑size : Int)) = false →
 ((64 ≤ (ints IntKind.u8 (1 :: List.take 63 r)).length ∧
 1 ≤ 1 ∧
 g.length ≤ (List.map bgD g).length ∧
 (g.length + 1) * 32 ≤ 140737488355328 ∧
 At (adC2 x w p g r size)
 ([V.ptr 0 0, V.int IntKind.i64 (↑size : Int)],
 [KO.cells [V.ptr 1 0, V.int IntKind.i64 (↑p.f : Int), V.int IntKind.i64 (↑p.k : Int), V.int IntKind.i64 p.gen, V.int IntKind.i64 (↑p.u : Int), V.int IntKind.i64 (↑p.n : Int), V.sl 5 0 (g.length + 1), V.sb false], KO.cells [V.sl 3 0 x.length, V.sl 6 0 i.val.snd.length, V.int IntKind.i64 (-1), V.sb false], KO.dead,
 KO.row 82 64 (secs (putJ x (p.f + p.u) (0 :: r) i.val.fst)), KO.dead, KO.row 126 2 (List.take g.length (List.map bgD g) ++ [[D.val (Value.int IntKind.i64 (↑(p.f + p.u) : Int)), D.sl 1 (List.drop 0 (List.take 64 (ints IntKind.u8 (1 :: List.take 63 r))))]]), KO.row 84 129 i.val.snd])) ∧
 (64 ≤ (ints IntKind.u8 (1 :: List.take 63 r)).length ∧
 1 ≤ 1 ∧
 g.length ≤ (List.map bgD g).length ∧
 (g.length + 1) * 32 ≤ 140737488355328 ∧
 At (adC2 x w p g r size)
 ([V.ptr 0 0, V.int IntKind.i64 (↑size : Int)],
 [KO.cells [V.ptr 1 0, V.int IntKind.i64 (↑p.f : Int), V.int IntKind.i64 (↑p.k : Int), V.int IntKind.i64 p.gen, V.int IntKind.i64 (↑p.u : Int), V.int IntKind.i64 (↑p.n : Int), V.sl 5 0 (g.length + 1), V.sb false], KO.cells [V.sl 3 0 x.length, V.sl 6 0 i.val.snd.length, V.int IntKind.i64 (-1), V.sb false], KO.dead,
 KO.row 82 64 (secs (putJ x (p.f + p.u) (0 :: r) i.val.fst)), KO.dead, KO.row 126 2 (List.take g.length (List.map bgD g) ++ [[D.val (Value.int IntKind.i64 (↑(p.f + p.u) : Int)), D.sl 1 (List.drop 0 (List.take 64 (ints IntKind.u8 (1 :: List.take 63 r))))]]), KO.row 84 129 i.val.snd])) ∧
 64 ≤ (ints IntKind.u8 (1 :: List.take 63 r)).length ∧
 1 ≤ 1 ∧
 g.length ≤ (List.map bgD g).length ∧
 (g.length + 1) * 32 ≤ 140737488355328 ∧
 At (adC2 x w p g r size)
 ([V.ptr 0 0, V.int IntKind.i64 (↑size : Int)],
 [KO.cells [V.ptr 1 0, V.int IntKind.i64 (↑p.f : Int), V.int IntKind.i64 (↑p.k : Int), V.int IntKind.i64 p.gen, V.int IntKind.i64 (↑p.u : Int), V.int IntKind.i64 (↑p.n : Int), V.sl 5 0 (g.length + 1), V.sb false], KO.cells [V.sl 3 0 x.length, V.sl 6 0 i.val.snd.length, V.int IntKind.i64 (-1), V.sb false], KO.dead,
 KO.row 82 64 (secs (putJ x (p.f + p.u) (0 :: r) i.val.fst)), KO.dead, KO.row 126 2 (List.take g.length (List.map bgD g) ++ [[D.val (Value.int IntKind.i64 (↑(p.f + p.u) : Int)), D.sl 1 (List.drop 0 (List.take 64 (ints IntKind.u8 (1 :: List.take 63 r))))]]), KO.row 84 129 i.val.snd])) ∧
 ∀ (i : { v : List (List D) // AdI x w size size v }),
 K (V.int IntKind.i64 0)
 [KO.cells [V.ptr 1 0, V.int IntKind.i64 (↑p.f : Int), V.int IntKind.i64 (↑p.k : Int), V.int IntKind.i64 p.gen, V.int IntKind.i64 (IntKind.i64.wrap ((↑p.u : Int) + (↑size : Int))), V.int IntKind.i64 (IntKind.i64.wrap ((↑p.n : Int) + 1)), V.sl 5 0 (g.length + 1), V.sb false],
 KO.cells [V.sl 3 0 x.length, V.sl 6 0 i.val.length, V.int IntKind.i64 (-1), V.sb false], KO.dead, KO.row 82 64 (secs (putJ x (p.f + p.u) (0 :: r) size)), KO.dead, KO.row 126 2 (List.map bgD (g ++ [((↑(p.f + p.u) : Int), 1 :: List.take 63 r)])), KO.row 84 129 i.val]))))
 ) : runSpec Try.prog XJh (jhT x w p g r size 48) 48 [.ptr 0 0, .dat (.sl 1 (ints .u8 b))] (jouH x w p g) (nilRes [.mv 0 6, .mv 1 1, .kill 2, .kill 4] (tidyRes 5 K)) := by apply Eq.mp (a := hvc_); kernel_rfl
theorem vcJFlush (x : List (List Int)) (w : List (List D)) (p : JP) (g : List Bg) (K : V → KB → Prop) (hvc_ :
 (false = true →
 K (V.int IntKind.i64 16)
 [KO.cells [V.ptr 1 0, V.int IntKind.i64 (↑p.f : Int), V.int IntKind.i64 (↑p.k : Int), V.int IntKind.i64 p.gen, V.int IntKind.i64 (↑p.u : Int), V.int IntKind.i64 (↑p.n : Int), V.sl 5 0 g.length, V.sb false], KO.cells [V.sl 3 0 x.length, V.sl 6 0 w.length, V.int IntKind.i64 (-1), V.sb false], KO.dead, KO.row 82 64 (secs x), KO.dead, KO.row 126 2 (List.map bgD g), KO.row 84 129 w]) ∧
 (false = false →
 ∃ (x_1 : List (List Int)),
 secs x = secs x_1 ∧
 x.length = x_1.length ∧
 w.length = w.length ∧
 At (flLI x w p g)
 ([V.ptr 0 0, V.int IntKind.i64 0, V.sl 2 0 g.length, V.int IntKind.i64 (↑(g.length - 0) : Int), V.int IntKind.i64 0],
 [KO.cells [V.ptr 1 0, V.int IntKind.i64 (↑p.f : Int), V.int IntKind.i64 (↑p.k : Int), V.int IntKind.i64 p.gen, V.int IntKind.i64 (↑p.u : Int), V.int IntKind.i64 (↑p.n : Int), V.sl 2 0 g.length, V.sb false], KO.cells [V.sl 3 0 x_1.length, V.sl 5 0 0, V.int IntKind.i64 (-1), V.sb false], KO.row 126 2 (List.map bgD g), KO.row 82 64 (secs x_1), KO.dead, KO.row 84 129 []]) ∧
 ∀ (i : { q : Nat × List (List D) // FlI x g q.fst q.snd }),
 (decide ((↑i.val.fst : Int) < (↑g.length : Int)) = true →
 InB (↑i.val.fst : Int) (g.length - 0) ∧
 ∃ (e : List D),
 (List.map bgD g)[0 + (↑i.val.fst : Int).toNat]? = some e ∧
 ∃ (n : Int),
 e[0]? = some (D.val (Value.int IntKind.i64 n)) ∧
 ∃ (l : List (List D)),
 e[1]? = some (D.sl 1 l) ∧
 (true = true →
 ∃ (x_2 : List (List Int)),
 ∃ (b : List Int),
 secs (flsJ x (List.take i.val.fst g)) = secs x_2 ∧
 l = ints IntKind.u8 b ∧
 x.length = x_2.length ∧
 i.val.snd.length = i.val.snd.length ∧
 OkD x_2 i.val.snd ∧
 ((WrI x_2 n b → False) →
 Nx (flLI x w p g) i
 ([V.ptr 0 0, V.int IntKind.i64 1, V.sl 2 0 g.length, V.int IntKind.i64 (↑g.length : Int), V.int IntKind.i64 (IntKind.i64.wrap ((↑i.val.fst : Int) + 1))],
 [KO.cells [V.ptr 1 0, V.int IntKind.i64 (↑p.f : Int), V.int IntKind.i64 (↑p.k : Int), V.int IntKind.i64 p.gen, V.int IntKind.i64 (↑p.u : Int), V.int IntKind.i64 (↑p.n : Int), V.sl 2 0 g.length, V.sb false], KO.cells [V.sl 3 0 x.length, V.sl 5 0 i.val.snd.length, V.int IntKind.i64 (-1), V.sb false], KO.row 126 2 (List.map bgD g),
 KO.row 82 64 (secs x_2), KO.dead, KO.row 84 129 i.val.snd])) ∧
 (WrI x_2 n b →
 Nx (flLI x w p g) i
 ([V.ptr 0 0, V.int IntKind.i64 0, V.sl 2 0 g.length, V.int IntKind.i64 (↑g.length : Int), V.int IntKind.i64 (IntKind.i64.wrap ((↑i.val.fst : Int) + 1))],
 [KO.cells [V.ptr 1 0, V.int IntKind.i64 (↑p.f : Int), V.int IntKind.i64 (↑p.k : Int), V.int IntKind.i64 p.gen, V.int IntKind.i64 (↑p.u : Int), V.int IntKind.i64 (↑p.n : Int), V.sl 2 0 g.length, V.sb false], KO.cells [V.sl 3 0 x_2.length, V.sl 5 0 (i.val.snd.length + 1), V.int IntKind.i64 (-1), V.sb false], KO.row 126 2 (List.map bgD g),
 KO.row 82 64 (secs (x_2.set n.toNat b)), KO.dead, KO.row 84 129 (i.val.snd ++ [D.val (Value.int IntKind.i64 n) :: (dns IntKind.u8 (gS x_2 n) ++ dns IntKind.u8 b)])]))) ∧
 (true = false →
 Nx (flLI x w p g) i
 ([V.ptr 0 0, V.int IntKind.i64 0, V.sl 2 0 g.length, V.int IntKind.i64 (↑g.length : Int), V.int IntKind.i64 (IntKind.i64.wrap ((↑i.val.fst : Int) + 1))],
 [KO.cells [V.ptr 1 0, V.int IntKind.i64 (↑p.f : Int), V.int IntKind.i64 (↑p.k : Int), V.int IntKind.i64 p.gen, V.int IntKind.i64 (↑p.u : Int), V.int IntKind.i64 (↑p.n : Int), V.sl 2 0 g.length, V.sb false], KO.cells [V.sl 3 0 x.length, V.sl 5 0 i.val.snd.length, V.int IntKind.i64 (-1), V.sb false], KO.row 126 2 (List.map bgD g),
 KO.row 82 64 (secs (flsJ x (List.take i.val.fst g))), KO.dead, KO.row 84 129 i.val.snd]))) ∧
 (decide ((↑i.val.fst : Int) < (↑g.length : Int)) = false →
 (true = true →
 (decide ((↑(g.length - 0) : Int) > 0) = true →
 ∃ (x_2 : List (List Int)),
 secs (flsJ x (List.take i.val.fst g)) = secs x_2 ∧
 x.length = x_2.length ∧
 i.val.snd.length = i.val.snd.length ∧
 K (V.int IntKind.i64 0)
 [KO.cells [V.ptr 1 0, V.int IntKind.i64 (↑p.f : Int), V.int IntKind.i64 (↑p.k : Int), V.int IntKind.i64 p.gen, V.int IntKind.i64 (↑p.u : Int), V.int IntKind.i64 (↑p.n : Int), V.sl 5 0 0, V.sb false], KO.cells [V.sl 3 0 x_2.length, V.sl 6 0 0, V.int IntKind.i64 (-1), V.sb false], KO.dead, KO.row 82 64 (secs x_2), KO.dead, KO.row 126 2 [], KO.row 84 129 []]) ∧
 (decide ((↑(g.length - 0) : Int) > 0) = false →
 K (V.int IntKind.i64 0)
 [KO.cells [V.ptr 1 0, V.int IntKind.i64 (↑p.f : Int), V.int IntKind.i64 (↑p.k : Int), V.int IntKind.i64 p.gen, V.int IntKind.i64 (↑p.u : Int), V.int IntKind.i64 (↑p.n : Int), V.sl 5 0 0, V.sb false], KO.cells [V.sl 3 0 x.length, V.sl 6 0 i.val.snd.length, V.int IntKind.i64 (-1), V.sb false], KO.dead, KO.row 82 64 (secs (flsJ x (List.take i.val.fst g))), KO.dead,
 KO.row 126 2 [], KO.row 84 129 i.val.snd])) ∧
 (true = false →
 K (V.int IntKind.i64 0)
 [KO.cells [V.ptr 1 0, V.int IntKind.i64 (↑p.f : Int), V.int IntKind.i64 (↑p.k : Int), V.int IntKind.i64 p.gen, V.int IntKind.i64 (↑p.u : Int), V.int IntKind.i64 (↑p.n : Int), V.sl 5 0 0, V.sb false], KO.cells [V.sl 3 0 x.length, V.sl 6 0 i.val.snd.length, V.int IntKind.i64 (-1), V.sb false], KO.dead, KO.row 82 64 (secs (flsJ x (List.take i.val.fst g))), KO.dead,
 KO.row 126 2 [], KO.row 84 129 i.val.snd])))
 ) : runSpec Try.prog XJh (jhT x w p g [] 0 51) 51 [.ptr 0 0] (jouH x w p g) (nilRes [.cell 0 6 126 2, .mv 0 6, .mv 1 1, .kill 2, .kill 4] (tidyRes 5 K)) := by apply Eq.mp (a := hvc_); kernel_rfl
theorem jhS0_ok : AllOk Try.prog jhS0 := fun f k h => by
  unfold jhS0 at h
  split at h
  · cases h; exact okSweep
  · cases h; exact okScanJ
  · cases h; exact okJForm
  · cases h; exact cloneN_of okClone
  · exact jgS0_ok _ _ h
theorem XJh_ok : CallOk Try.prog XJh := callS_ok mixed jhS0_ok noT 10
theorem okJRoom : SpecOk Try.prog 66 SjRoom := specOk_of' X0_ok mixed (fun args kb K h => by
  unfold SjRoom at h; split at h <;> try exact h.elim
  obtain ⟨h1, h2⟩ := h
  refine ⟨noT _, vcJRoom _ _ _ _ _ _ _ _ _ _ _ _ _ _ K ?_⟩
  rw [w64 h1.1 h1.2]; exact h2)
theorem scanF_fit : ∀ (k : Nat) (b : List Int) (gen : Int) (n : Nat), 64 * (scanF k b gen n).2 ≤ b.length
  | 0, _, _, _ => by simp [scanF]
  | k + 1, b, gen, n => by
    unfold scanF
    cases hr : readJ b gen n with
    | none => simp
    | some q =>
      obtain ⟨t, s⟩ := q
      obtain ⟨hA, hs, _⟩ := readJ_some hr
      have hf := hA.fit
      have := scanF_fit k (b.drop (64 * s)) gen (n + 1)
      rw [List.length_drop] at this
      dsimp only
      omega
theorem okJOpen : SpecOk Try.prog 42 SjOpen := specOk_ntn XJh_ok [.cell 4 6 126 2] 3 (fun args kb K h => by
  unfold SjOpen at h; split at h <;> try exact h.elim
  rename_i gen _ _ _ w
  obtain ⟨x, f, k, rfl, rfl, rfl, rfl, rfl, hP, hB, hG, hD, hw, h⟩ := h
  refine ⟨rfl, ?_⟩
  apply Exists.intro (noT _)
  apply vcJOpen x w f k gen K
  have hfit := hP.fit
  have hlen := hP.len
  have hu : (scanJ (flJ x f k) gen).2 ≤ k := by
    have hfl := hP.fl k (Nat.le_refl _)
    have := scanF_fit ((flJ x f k).length + 1) (flJ x f k) gen 0
    unfold scanJ
    omega
  refine ⟨x, f, k, rfl, rfl, rfl, rfl, rfl, hP, hB, hG, fun q => (by cases q), fun _ => ⟨x, f + (scanJ (flJ x f k) gen).2, k - (scanJ (flJ x f k) gen).2, ?_, ?_, rfl, rfl, rfl, ⟨hP.toSec64, by omega⟩, hD, hw, fun w' hw' => ⟨fun q => (by cases q), fun _ => ?_⟩⟩⟩
  · rw [w64 (by omega) (by omega)]; omega
  · rw [w64 (by omega) (by omega)]; omega
  · exact h w' _ _ hw' rfl hu)
theorem flsJ_snoc (p : Bg) : ∀ (x : List (List Int)) (g : List Bg), flsJ x (g ++ [p]) = (flsJ x g).set p.1.toNat p.2
  | _, [] => rfl
  | x, q :: g => by rw [List.cons_append]; unfold flsJ; exact flsJ_snoc p _ g
theorem flsJ_sec {x : List (List Int)} (h : Sec64 x) : ∀ {g : List Bg}, (∀ p ∈ g, p.2.length = 64) → Sec64 (flsJ x g) ∧ (flsJ x g).length = x.length := by
  intro g
  induction g generalizing x with
  | nil => intro _; exact ⟨h, rfl⟩
  | cons p g ih =>
    intro hg
    unfold flsJ
    have := ih (x := x.set p.1.toNat p.2) ⟨by rw [List.length_set]; exact h.len, fun b hb => by
      rcases List.mem_or_eq_of_mem_set hb with q | q
      · exact h.each b q
      · rw [q]; exact hg p (by simp)⟩ (fun q hq => hg q (List.mem_cons_of_mem _ hq))
    rw [List.length_set] at this
    exact this
def gB (g : List Bg) (i : Nat) : Bg := g.getD i (0, [])
theorem gB_get {g : List Bg} {i : Nat} (h : i < g.length) : g[i]? = some (gB g i) := by
  unfold gB; rw [List.getD_eq_getElem?_getD, List.getElem?_eq_getElem h]; rfl
theorem okJFlush : SpecOk Try.prog 51 SjFlush := specOk_ntn XJh_ok [.cell 0 6 126 2, .mv 0 6, .mv 1 1, .kill 2, .kill 4] 5 (fun args kb K h => by
  unfold SjFlush at h; split at h <;> try exact h.elim
  rename_i w
  obtain ⟨x, p, g, ⟨rfl, rfl, rfl, rfl, rfl, rfl, rfl, rfl, rfl, rfl⟩, hx, hg, h⟩ := h
  refine ⟨rfl, ?_⟩
  apply Exists.intro (jhT x w p g [] 0 _)
  apply vcJFlush x w p g K
  have hfew := hg.few
  refine ⟨fun q => (by cases q), fun _ => ⟨x, rfl, rfl, rfl, At.mk' (⟨(0, []), ⟨Nat.zero_le _, Nat.le_refl _, fun d hd => (by cases hd)⟩⟩ : {q : Nat × List (List D) // FlI x g q.1 q.2}) rfl, ?_⟩⟩
  rintro ⟨⟨i, v⟩, hI⟩
  have hik := hI.ik
  have hvl := hI.wl
  have hvp := hI.wp
  dsimp only at hik hvl hvp ⊢
  have hs := flsJ_sec hx (g := g.take i) (fun q hq => (hg.at' q (List.mem_of_mem_take hq)).2.2)
  simp only [decide_eq_true_eq, decide_eq_false_iff_not]
  refine ⟨fun h1 => ?_, fun h1 => ?_⟩
  · have hi : i < g.length := by omega
    have hm := hg.at' _ (List.mem_of_getElem? (gB_get hi))
    have w1 : IntKind.i64.wrap ((i : Int) + 1) = ((i + 1 : Nat) : Int) := by rw [w64 (by omega) (by omega)]; omega
    rw [w1]
    refine ⟨⟨by omega, by omega⟩, _, by rw [Nat.zero_add, Int.toNat_natCast, List.getElem?_map, gB_get hi]; rfl, _, rfl, _, rfl, fun _ => ⟨flsJ x (g.take i), (gB g i).2, rfl, rfl, hs.2.symm, by first | rfl | trivial, ⟨hs.1, by omega, hvp⟩, fun q => ?_, fun q => ?_⟩, fun q => (by cases q)⟩
    · exact (q ⟨hm.1, by rw [hs.2]; exact hm.2.1, hm.2.2⟩).elim
    · rw [← flsJ_snoc]
      have e : g.take i ++ [gB g i] = g.take (i + 1) := by rw [List.take_add_one, gB_get hi]; rfl
      rw [e, hs.2]
      exact Nx.mk' (⟨(i + 1, _), ⟨by dsimp only; omega, by dsimp only; rw [List.length_append, List.length_singleton]; omega, plain_app hvp plain_wr⟩⟩ : {q : Nat × List (List D) // FlI x g q.1 q.2}) (by dsimp only; rw [List.length_append, List.length_singleton]) (by dsimp only; omega)
  · have e : i = g.length := by omega
    subst e
    rw [List.take_length] at hs ⊢
    refine ⟨fun _ => ⟨fun q => ⟨flsJ x g, rfl, hs.2.symm, by first | rfl | trivial, h⟩, fun q => ?_⟩, fun q => (by cases q)⟩
    have e0 : g = [] := List.length_eq_zero_iff.1 (by omega)
    subst e0
    have e1 : v = [] := List.length_eq_zero_iff.1 (Nat.le_zero.1 hvl)
    subst e1
    exact h)
theorem putJ_len (x : List (List Int)) (a : Nat) (l : List Int) : ∀ i, (putJ x a l i).length = x.length
  | 0 => rfl
  | i + 1 => by unfold putJ; rw [List.length_set, putJ_len x a l i]
theorem chk_len {l : List Int} {n i : Nat} (h : l.length = 64 * n) (hi : i < n) : (chk l i).length = 64 := by
  unfold chk; rw [List.length_take, List.length_drop]; omega
theorem putJ_sec {x : List (List Int)} {a n : Nat} {l : List Int} (h : Sec64 x) (hl : l.length = 64 * n) : ∀ i, i ≤ n → Sec64 (putJ x a l i)
  | 0, _ => h
  | i + 1, hi => by
    have ih := putJ_sec h hl (a := a) i (by omega)
    refine ⟨by rw [putJ_len]; exact h.len, fun b hb => ?_⟩
    unfold putJ at hb
    rcases List.mem_or_eq_of_mem_set hb with q | q
    · exact ih.each b q
    · rw [q]; exact chk_len hl (by omega)
theorem formJ_ok {gen n : Int} {b : List Int} (h : (formJ gen n b).2 = 0) : ∃ (r : List Int) (s : Nat), (formJ gen n b).1 = 1 :: r ∧ (1 :: r).length = 64 * s ∧ 1 ≤ s ∧ s ≤ 16 := by
  unfold formJ at h ⊢
  split at h
  · exact absurd h (by decide)
  · rename_i h0
    split at h
    · exact absurd h (by decide)
    · rename_i h1
      rw [if_neg h0, if_neg h1]
      refine ⟨_, szJ (bodyJ gen n b), rfl, rawJ_len, ?_, by omega⟩
      unfold szJ; omega
theorem bgAp {g : List Bg} {a : Int} {b : List Int} : List.take g.length (List.map bgD g) ++ [[D.val (Value.int IntKind.i64 a), D.sl 1 (ints .u8 b)]] = List.map bgD (g ++ [(a, b)]) := by
  rw [List.take_of_length_le (by rw [List.length_map]; exact Nat.le_refl _), List.map_append]; rfl
theorem okJAdd : SpecOk Try.prog 48 SjAdd := specOk_ntn XJh_ok [.mv 0 6, .mv 1 1, .kill 2, .kill 4] 5 (fun args kb K h => by
  unfold SjAdd at h; split at h <;> try exact h.elim
  rename_i w
  obtain ⟨x, p, g, b, ⟨rfl, rfl, rfl, rfl, rfl, rfl, rfl, rfl, rfl, rfl⟩, rfl, hJ, hD, hw, hg, hB, hb, h1, h2, h3⟩ := h
  refine ⟨rfl, ?_⟩
  have hlen := hJ.len
  have hfit := hJ.fit
  have hub := hJ.ub
  have hnn := hJ.nn
  by_cases hF : (formJ p.gen p.n b).2 = 0
  · obtain ⟨r, s, e1, e2, e3, e4⟩ := formJ_ok hF
    have hr : r.length + 1 = 64 * s := by rw [← List.length_cons (a := (1 : Int))]; exact e2
    have hs : (formJ p.gen p.n b).1.length / 64 = s := by rw [e1, e2]; omega
    rw [hs] at h2 h3
    apply Exists.intro (jhT x w p g r s _)
    apply vcJAdd x w p g b r s K
    refine ⟨fun q => (by cases q), fun _ => ⟨b, rfl, hB, hb, fun q => ?_, fun _ => ?_⟩⟩
    · rw [hF] at q; cases q
    have w1 : IntKind.i64.wrap ((((formJ p.gen p.n b).1.length - 0 : Nat) : Int).tdiv 64) = (s : Int) := by
      rw [e1, e2, Int.tdiv_eq_ediv_of_nonneg (by omega), w64 (by omega) (by omega)]; omega
    have w2 : IntKind.i64.wrap ((p.k : Int) - (p.u : Int)) = (p.k : Int) - (p.u : Int) := w64 (by omega) (by omega)
    have w3 : IntKind.i64.wrap ((p.f : Int) + (p.u : Int)) = ((p.f + p.u : Nat) : Int) := by rw [w64 (by omega) (by omega)]; omega
    rw [w1, w2, w3]
    simp only [decide_eq_true_eq, decide_eq_false_iff_not]
    refine ⟨fun q => h2 hF (by omega), fun q => ?_⟩
    have hroom : p.u + s ≤ p.k := by omega
    have tk : List.drop 0 (List.take 64 (ints IntKind.u8 (1 :: r))) = ints .u8 (1 :: r.take 63) := by rw [List.drop_zero, ints_take]; rfl
    have tkl : (1 :: r.take 63 : List Int).length = 64 := by rw [List.length_cons, List.length_take]; omega
    rw [e1, tk, e2]
    have at1 : At (adC1 x w p g r s) ([V.ptr 0 0, V.sl 5 0 (64 * s), V.int IntKind.i64 (s : Int), V.ptr 6 0], [jouC p g, KO.cells [.sl 3 0 x.length, .sl 4 0 w.length, .int .i64 (-1), .sb false], begR g, secR x, waiR w, KO.row 5 1 (ints IntKind.u8 (1 :: r)), KO.cells [V.int IntKind.i64 ((p.f + p.u : Nat) : Int), V.sl 7 0 (ints IntKind.u8 (1 :: r.take 63)).length], KO.row 5 1 (ints IntKind.u8 (1 :: r.take 63))]) :=
      At.mk' () (by rw [ints_len, tkl])
    refine ⟨⟨trivial, by unfold NonN; omega, by omega, by omega, ⟨⟨by rw [ints_len, e2]; omega, trivial⟩, by rw [ints_len, tkl]; omega, ⟨plain_ints⟩, ⟨rfl⟩, ⟨rfl⟩, ⟨rfl⟩, ⟨rfl⟩, at1⟩, ⟨rfl⟩, ⟨rfl⟩, ⟨by rw [ints_len, e2]; omega, trivial⟩, by rw [ints_len, tkl]; omega, ⟨plain_ints⟩, ⟨rfl⟩, ⟨rfl⟩, at1⟩, fun _ => ⟨⟨by omega, by omega⟩, by rw [ints_len, e2]; omega, ?_, ?_⟩⟩
    · exact At.mk' (⟨(0, w), ⟨Nat.zero_le _, Nat.le_refl _, hD.p⟩⟩ : {q : Nat × List (List D) // AdI x w s q.1 q.2}) rfl
    · rintro ⟨⟨i, v⟩, hI⟩
      have hik := hI.ik
      have hvl := hI.wl
      have hvp := hI.wp
      dsimp only at hik hvl hvp ⊢
      have hsec := putJ_sec hJ.toSec64 (a := p.f + p.u) (l := 0 :: r) (n := s) (by rw [List.length_cons]; exact hr) i hik
      have hpl := putJ_len x (p.f + p.u) (0 :: r) i
      refine ⟨fun c1 => ?_, fun c1 => ?_⟩
      · have hi : i < s := by omega
        have w4 : IntKind.i64.wrap ((i : Int) * 64) = ((64 * i : Nat) : Int) := by rw [w64 (by omega) (by omega)]; omega
        have w5 : IntKind.i64.wrap (IntKind.i64.wrap ((i : Int) + 1) * 64) = ((64 * (i + 1) : Nat) : Int) := by rw [w64 (n := (i : Int) + 1) (by omega) (by omega), w64 (by omega) (by omega)]; omega
        have w6 : IntKind.i64.wrap ((i : Int) + 1) = ((i + 1 : Nat) : Int) := by rw [w64 (by omega) (by omega)]; omega
        have w7 : IntKind.i64.wrap (((p.f + p.u : Nat) : Int) + (i : Int)) = ((p.f + p.u + i : Nat) : Int) := by rw [w64 (by omega) (by omega)]; omega
        have hcl := chk_len (l := 0 :: r) (n := s) (by rw [List.length_cons]; exact hr) hi
        have ec : List.drop (64 * i) (List.take (64 * (i + 1)) (0 :: r)) = chk (0 :: r) i := by
          unfold chk
          rw [show 64 * (i + 1) = 64 * i + 64 by omega, List.drop_take]; congr 1; omega
        simp only [w5]
        simp only [w4, w6, w7, Int.toNat_natCast, Nat.zero_add, Nat.sub_zero]
        rw [ints_take, ints_drop, ec]
        refine ⟨by unfold NonN; omega, by unfold NonN; omega, by omega, by omega, ⟨by rw [ints_len, List.length_cons]; omega, trivial⟩, putJ x (p.f + p.u) (0 :: r) i, chk (0 :: r) i, rfl, rfl, hpl.symm, trivial, ⟨hsec, by omega, hvp⟩, fun q => ?_, fun q => ⟨⟨⟨plain_secs⟩, ⟨plain_app hvp plain_wr⟩⟩, fun q2 => (by cases q2), fun _ => ?_⟩⟩
        · exact (q ⟨by omega, by rw [hpl]; omega, hcl⟩).elim
        · rw [hpl]
          exact Nx.mk' (⟨(i + 1, _), ⟨by dsimp only; omega, by dsimp only; rw [List.length_append, List.length_singleton]; omega, plain_app hvp plain_wr⟩⟩ : {q : Nat × List (List D) // AdI x w s q.1 q.2}) (by dsimp only; rw [List.length_append, List.length_singleton]; rfl) (by dsimp only; omega)
      · have ei : i = s := by omega
        subst ei
        have e5 : List.drop 0 (List.take 64 (ints IntKind.u8 (1 :: List.take 63 r))) = ints .u8 (1 :: r.take 63) := by rw [List.drop_zero, ints_take, List.take_of_length_le (by omega)]
        rw [e5, bgAp]
        have q1 : 64 ≤ (ints IntKind.u8 (1 :: List.take 63 r)).length ∧ 1 ≤ 1 ∧ g.length ≤ (List.map bgD g).length ∧ (g.length + 1) * 32 ≤ 140737488355328 ∧ At (adC2 x w p g r i) ([V.ptr 0 0, V.int IntKind.i64 (i : Int)], [KO.cells [V.ptr 1 0, V.int IntKind.i64 (p.f : Int), V.int IntKind.i64 (p.k : Int), V.int IntKind.i64 p.gen, V.int IntKind.i64 (p.u : Int), V.int IntKind.i64 (p.n : Int), V.sl 5 0 (g.length + 1), V.sb false], KO.cells [V.sl 3 0 x.length, V.sl 6 0 v.length, V.int IntKind.i64 (-1), V.sb false], KO.dead, KO.row 82 64 (secs (putJ x (p.f + p.u) (0 :: r) i)), KO.dead, KO.row 126 2 (List.map bgD (g ++ [(((p.f + p.u : Nat) : Int), 1 :: List.take 63 r)])), KO.row 84 129 v]) :=
          ⟨by rw [ints_len]; omega, Nat.le_refl _, by rw [List.length_map]; exact Nat.le_refl _, by omega, At.mk' (⟨v, hI⟩ : {v : List (List D) // AdI x w i i v}) rfl⟩
        refine ⟨⟨q1, q1, q1⟩, ?_⟩
        rintro ⟨v', hv'⟩
        dsimp only
        have k3 := h3 hF hroom v' (by have := hv'.wl; omega) hv'.wp
        rw [w64 (by omega) (by omega), w64 (by omega) (by omega)]
        unfold jouK at k3
        rw [putJ_len, e1, List.length_append, List.length_singleton] at k3
        exact k3
  · apply Exists.intro (jhT x w p g [] 0 _)
    apply vcJAdd x w p g b [] 0 K
    refine ⟨fun q => (by cases q), fun _ => ⟨b, rfl, hB, hb, fun q => h1 hF, fun q => ?_⟩⟩
    simp only [bne_eq_false_iff_eq] at q
    exact absurd q hF)
end Go.Proofs.Ytkodjbegpheomaa
