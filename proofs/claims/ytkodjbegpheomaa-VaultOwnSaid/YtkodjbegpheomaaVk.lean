import Derived.Test.YtkodjbegpheomaaVm
import Derived.KernelRfl
namespace Go.Proofs.Ytkodjbegpheomaa
open Vc Go
set_option linter.unusedVariables false
set_option linter.unusedSimpArgs false
set_option maxRecDepth 100000
/-! The vault's acts on its device. -/
abbrev vauC (n gen : Int) : KO := .cells [.ptr 1 0, .int .i64 n, .int .i64 gen, .mp 2, .ptr 3 0, .sb false]
abbrev jouV (f k gen u m : Int) (l : Nat) : KO := .cells [.ptr 1 0, .int .i64 f, .int .i64 k, .int .i64 gen, .int .i64 u, .int .i64 m, .sl 6 0 l, .sb false]
abbrev devV (i j n m : Nat) : KO := .cells [.sl i 0 n, .sl j 0 m, .int .i64 (-1), .sb false]
abbrev begV (G : List (List D)) : KO := .row 126 2 G
structure NoW (lw : Nat) (W : List (List D)) : Prop where
  l : lw = 0
  w : W = []
def Sblank : FSpec := fun args kb K => match args, kb with
  | [.ptr 0 0, .int .i64 at'], [.cells [.ptr 1 0, .int .i64 n, .int .i64 gen, .mp 2, .ptr 3 0, .sb false], .cells [.sl 4 0 a, .sl 5 0 lw, .int .i64 (-1), .sb false], .mp [.i64] false false 1 M, .cells [.ptr 1 0, .int .i64 f', .int .i64 k', .int .i64 g', .int .i64 u', .int .i64 m', .sl 6 0 lg, .sb false], .row 82 64 X, .row 84 129 W, .row 126 2 G] =>
    ∃ (x : List (List Int)) (f k : Nat), at' = f ∧ n = k ∧ a = x.length ∧ X = secs x ∧ NoW lw W ∧ Prt x f k ∧
      K (.int .i64 0) [vauC n gen, devV 4 7 x.length 0, mpT M, jouV f' k' g' u' m' lg, secR (swX x f k), .dead, begV G, waiR []]
  | _, _ => False
structure BlI (x : List (List Int)) (f k : Nat) (i : Nat) (y : Bool) (v : List (List D)) : Prop extends Prt x f k where
  ik : i ≤ k
  wl : v.length ≤ i
  wp : Plain v.flatten
  no : y = false → v = []
/-- What else is there. -/
structure VR where
  n : Int
  gen : Int
  M : ML
  f' : Int
  k' : Int
  g' : Int
  u' : Int
  m' : Int
  lg : Nat
  G : List (List D)
abbrev blLI (x : List (List Int)) (f k : Nat) (r : VR) : LI where
  α := {p : Nat × Bool × List (List D) // BlI x f k p.1 p.2.1 p.2.2}
  live := [0, 1, 5, 6, 15, 16]
  nils := [.mv 1 1, .kill 5]
  st p := ([.ptr 0 0, .int .i64 (f : Int), .sl 8 0 64, .sb p.1.2.1, .int .i64 (k : Int), .int .i64 (p.1.1 : Int)], [vauC k r.gen, devV 4 7 x.length p.1.2.2.length, mpT r.M, jouV r.f' r.k' r.g' r.u' r.m' r.lg, secR (swX x f p.1.1), .dead, begV r.G, waiR p.1.2.2, .row 5 1 (List.replicate 64 [dn .u8 0])])
  μ p := k - p.1.1
def Scheck : FSpec := fun args kb K => match args, kb with
  | [.ptr 0 0, .int .i64 from', .int .i64 many], [.cells [.sl 1 0 n, .sl 2 0 m, .int .i64 (-1), .sb false], .row 82 64 X, .row 84 129 w] => ∃ (x : List (List Int)) (f k g : Nat) (l : List P2), from' = f ∧ many = k ∧ X = secs x ∧ n = x.length ∧ m = w.length ∧ Prt x f k ∧ (∀ b ∈ x, Byt b) ∧ k ≤ 4096 ∧ Pl k g l ((x.drop f).take k) ∧
      (g = 0 → K (.tup [.int .i64 0, .any (.map none), .int .i64 0]) [devC x.length w.length, secR x, waiR w]) ∧
      (1 ≤ g → ∀ M, Tab M l → K (.tup [.int .i64 (g : Int), .mp 3, .int .i64 0]) [devC x.length w.length, secR x, waiR w, mpT M])
  | _, _ => False
structure LyP where
  pre : List (List Int)
  P : List (List Int)
  post : List (List Int)
structure LyOk (x : List (List Int)) (p : LyP) (f k : Nat) : Prop where
  ex : x = p.pre ++ (p.P ++ p.post)
  ef : p.pre.length = f
  ek : p.P.length = k
  s1 : ∀ b ∈ p.pre, b.length = 64 ∧ Byt b
  s2 : ∀ b ∈ p.post, b.length = 64 ∧ Byt b
  len : x.length ≤ 4096
  kk : k ≤ 1024
  sec : ∀ b ∈ x, b.length = 64 ∧ Byt b
def Svlay : FSpec := fun args kb K => match args, kb with
  | [.ptr 0 0, .int .i64 at', .int .i64 gn, .dat (.sl 1 R)], [.cells [.ptr 1 0, .int .i64 n, .int .i64 gen, .mp 2, .ptr 3 0, .sb false], .cells [.sl 4 0 a, .sl 5 0 lw, .int .i64 (-1), .sb false], .mp [.i64] false false 1 M, .cells [.ptr 1 0, .int .i64 f', .int .i64 k', .int .i64 g', .int .i64 u', .int .i64 m', .sl 6 0 lg, .sb false], .row 82 64 X, .row 84 129 W, .row 126 2 G] =>
    ∃ (x : List (List Int)) (p : LyP) (f k g : Nat) (ts : List (List Int)), at' = f ∧ n = k ∧ a = x.length ∧ X = secs x ∧ NoW lw W ∧ LyOk x p f k ∧ gn = g ∧ g ≤ 1000 ∧ R = ts.map bsl ∧ (∀ t ∈ ts, Byt t ∧ t.length ≤ 980) ∧ ts.length ≤ 10000 ∧ RecS (g : Int) ts ∧ catN (g : Int) 0 ts ≤ k ∧
      ∀ x' B, Lay p.pre p.post k (g : Int) ts x' [] B B → K (.int .i64 0) [vauC n gen, devV 4 7 x'.length 0, mpT M, jouV f' k' g' u' m' lg, secR x', .dead, begV G, waiR []]
  | _, _ => False
structure LyI (p : LyP) (k g : Nat) (ts : List (List Int)) (i : Nat) (x' : List (List Int)) (bg : List Bg) (w : List (List D)) : Prop where
  it : i ≤ ts.length
  lay : ∃ A B, Lay p.pre p.post k (g : Int) (ts.take i) x' bg A B
  wl : w.length ≤ 16 * i
  wp : Plain w.flatten
structure LyS where
  i : Nat
  x : List (List Int)
  g : List Bg
  w : List (List D)
abbrev lyLI (p : LyP) (f k g : Nat) (ts : List (List Int)) (r : VR) : LI where
  α := {q : LyS // LyI p k g ts q.i q.x q.g q.w}
  live := [10, 40, 41, 42]
  nils := [.mv 1 1, .kill 5]
  st q := ([.ptr 8 0, .dat (.sl 1 (ts.map bsl)), .int .i64 (ts.length : Int), .int .i64 (q.1.i : Int)], [vauC k r.gen, devV 4 7 q.1.x.length q.1.w.length, mpT r.M, jouV r.f' r.k' r.g' r.u' r.m' r.lg, secR q.1.x, .dead, begV r.G, waiR q.1.w,
    .cells [.ptr 1 0, .int .i64 (f : Int), .int .i64 (k : Int), .int .i64 (g : Int), .int .i64 (catN (g : Int) 0 (ts.take q.1.i) : Int), .int .i64 (q.1.i : Int), .sl 9 0 q.1.g.length, .sb false], begR q.1.g])
  μ q := ts.length - q.1.i
def vkT (x : List (List Int)) (p : LyP) (f k g : Nat) (ts : List (List Int)) (r : VR) : FuncId → Nat → Option LI
  | 79, 3 => some (blLI x f k r)
  | 70, 8 => some (lyLI p f k g ts r)
  | _, _ => none
def vkS : FuncId → Option Known
  | 40 => some ⟨[], Sscan⟩
  | 41 => some ⟨[.give 1], SvReadV⟩
  | 39 => some ⟨[.lend 1], Sgener⟩
  | f => jgS0 f
noncomputable def XVk : CallT := callS Try.prog vkS noT 10
def vlS : FuncId → Option Known
  | 79 => some ⟨[], Sblank⟩
  | 42 => some ⟨[], SjOpen⟩
  | 48 => some ⟨[.asis, .give 1], SjAdd⟩
  | 51 => some ⟨[], SjFlush⟩
  | _ => none
noncomputable def XVl : CallT := callS Try.prog vlS noT 10
theorem vcBlank (x : List (List Int)) (f k : Nat) (r : VR) (K : V → KB → Prop) (hvc_ :
 NonN 64 ∧
 Room 64 64 1 ∧
 At (blLI x f k r)
 ([V.ptr 0 0, V.int IntKind.i64 (↑f : Int), V.sl 8 0 64, V.sb false, V.int IntKind.i64 (↑k : Int), V.int IntKind.i64 0],
 [KO.cells [V.ptr 1 0, V.int IntKind.i64 (↑k : Int), V.int IntKind.i64 r.gen, V.mp 2, V.ptr 3 0, V.sb false], KO.cells [V.sl 4 0 x.length, V.sl 7 0 0, V.int IntKind.i64 (-1), V.sb false], KO.mp [IntKind.i64] false false 1 r.M,
 KO.cells [V.ptr 1 0, V.int IntKind.i64 r.f', V.int IntKind.i64 r.k', V.int IntKind.i64 r.g', V.int IntKind.i64 r.u', V.int IntKind.i64 r.m', V.sl 6 0 r.lg, V.sb false], KO.row 82 64 (secs x), KO.dead, KO.row 126 2 r.G, KO.row 84 129 [],
 KO.row 5 1
 (List.replicate 64 ([D.val (Value.int IntKind.u8 0)]))]) ∧
 ∀ (i : { p : Nat × Bool × List (List D) // BlI x f k p.fst p.snd.fst p.snd.snd }),
 (decide ((↑i.val.fst : Int) < (↑k : Int)) = true →
 ∃ (x_1 : List (List Int)),
 secs (swX x f i.val.fst) = secs x_1 ∧
 x.length = x_1.length ∧
 i.val.snd.snd.length = i.val.snd.snd.length ∧
 Sec64 x_1 ∧
 (((dRd x_1 (IntKind.i64.wrap ((↑f : Int) + (↑i.val.fst : Int)))).snd != 0) = true →
 K (V.int IntKind.i64 (dRd x_1 (IntKind.i64.wrap ((↑f : Int) + (↑i.val.fst : Int)))).snd)
 [KO.cells [V.ptr 1 0, V.int IntKind.i64 (↑k : Int), V.int IntKind.i64 r.gen, V.mp 2, V.ptr 3 0, V.sb false], KO.cells [V.sl 4 0 x_1.length, V.sl 7 0 i.val.snd.snd.length, V.int IntKind.i64 (-1), V.sb false], KO.mp [IntKind.i64] false false 1 r.M,
 KO.cells [V.ptr 1 0, V.int IntKind.i64 r.f', V.int IntKind.i64 r.k', V.int IntKind.i64 r.g', V.int IntKind.i64 r.u', V.int IntKind.i64 r.m', V.sl 6 0 r.lg, V.sb false], KO.row 82 64 (secs x_1), KO.dead, KO.row 126 2 r.G, KO.row 84 129 i.val.snd.snd]) ∧
 (((dRd x_1 (IntKind.i64.wrap ((↑f : Int) + (↑i.val.fst : Int)))).snd != 0) = false →
 ((dRd x_1 (IntKind.i64.wrap ((↑f : Int) + (↑i.val.fst : Int)))).fst.length ≤ (ints IntKind.u8 (dRd x_1 (IntKind.i64.wrap ((↑f : Int) + (↑i.val.fst : Int)))).fst).length ∧ 64 ≤ 64 ∧ True) ∧
 ∃ (a : List Int),
 ∃ (b : List Int),
 List.drop 0 (List.take (dRd x_1 (IntKind.i64.wrap ((↑f : Int) + (↑i.val.fst : Int)))).fst.length (ints IntKind.u8 (dRd x_1 (IntKind.i64.wrap ((↑f : Int) + (↑i.val.fst : Int)))).fst)) = ints IntKind.u8 a ∧
 (List.replicate 64 ([D.val (Value.int IntKind.u8 0)])) =
 ints IntKind.u8 b ∧
 a.length.le 1000000 ∧
 True ∧
 (decide (a = b) = true →
 Nx (blLI x f k r) i
 ([V.ptr 0 0, V.int IntKind.i64 (↑f : Int), V.sl 8 0 64, V.sb i.val.snd.fst, V.int IntKind.i64 (↑k : Int), V.int IntKind.i64 (IntKind.i64.wrap ((↑i.val.fst : Int) + 1))],
 [KO.cells [V.ptr 1 0, V.int IntKind.i64 (↑k : Int), V.int IntKind.i64 r.gen, V.mp 2, V.ptr 3 0, V.sb false], KO.cells [V.sl 4 0 x_1.length, V.sl 7 0 i.val.snd.snd.length, V.int IntKind.i64 (-1), V.sb false], KO.mp [IntKind.i64] false false 1 r.M,
 KO.cells [V.ptr 1 0, V.int IntKind.i64 r.f', V.int IntKind.i64 r.k', V.int IntKind.i64 r.g', V.int IntKind.i64 r.u', V.int IntKind.i64 r.m', V.sl 6 0 r.lg, V.sb false], KO.row 82 64 (secs x_1), KO.dead, KO.row 126 2 r.G, KO.row 84 129 i.val.snd.snd,
 KO.row 5 1
 (List.replicate 64 ([D.val (Value.int IntKind.u8 0)]))])) ∧
 (decide (a = b) = false →
 (64 ≤ 64 ∧ True) ∧
 ∃ (x_2 : List (List Int)),
 ∃ (b : List Int),
 secs x_1 = secs x_2 ∧
 (List.replicate 64 ([D.val (Value.int IntKind.u8 0)])) =
 ints IntKind.u8 b ∧
 x_1.length = x_2.length ∧
 i.val.snd.snd.length = i.val.snd.snd.length ∧
 OkD x_2 i.val.snd.snd ∧
 ((WrI x_2 (IntKind.i64.wrap ((↑f : Int) + (↑i.val.fst : Int))) b → False) →
 (PlainS (secs x_2).flatten ∧ PlainS i.val.snd.snd.flatten) ∧
 (true = true →
 K (V.int IntKind.i64 1)
 [KO.cells [V.ptr 1 0, V.int IntKind.i64 (↑k : Int), V.int IntKind.i64 r.gen, V.mp 2, V.ptr 3 0, V.sb false], KO.cells [V.sl 4 0 x_1.length, V.sl 7 0 i.val.snd.snd.length, V.int IntKind.i64 (-1), V.sb false], KO.mp [IntKind.i64] false false 1 r.M,
 KO.cells [V.ptr 1 0, V.int IntKind.i64 r.f', V.int IntKind.i64 r.k', V.int IntKind.i64 r.g', V.int IntKind.i64 r.u', V.int IntKind.i64 r.m', V.sl 6 0 r.lg, V.sb false], KO.row 82 64 (secs x_2), KO.dead, KO.row 126 2 r.G, KO.row 84 129 i.val.snd.snd]) ∧
 (true = false →
 Nx (blLI x f k r) i
 ([V.ptr 0 0, V.int IntKind.i64 (↑f : Int), V.sl 8 0 64, V.sb true, V.int IntKind.i64 (↑k : Int), V.int IntKind.i64 (IntKind.i64.wrap ((↑i.val.fst : Int) + 1))],
 [KO.cells [V.ptr 1 0, V.int IntKind.i64 (↑k : Int), V.int IntKind.i64 r.gen, V.mp 2, V.ptr 3 0, V.sb false], KO.cells [V.sl 4 0 x_1.length, V.sl 7 0 i.val.snd.snd.length, V.int IntKind.i64 (-1), V.sb false], KO.mp [IntKind.i64] false false 1 r.M,
 KO.cells [V.ptr 1 0, V.int IntKind.i64 r.f', V.int IntKind.i64 r.k', V.int IntKind.i64 r.g', V.int IntKind.i64 r.u', V.int IntKind.i64 r.m', V.sl 6 0 r.lg, V.sb false], KO.row 82 64 (secs x_2), KO.dead, KO.row 126 2 r.G, KO.row 84 129 i.val.snd.snd,
 KO.row 5 1
 (List.replicate 64 ([D.val (Value.int IntKind.u8 0)]))]))) ∧
 (WrI x_2 (IntKind.i64.wrap ((↑f : Int) + (↑i.val.fst : Int))) b →
 (PlainS (secs (x_2.set (IntKind.i64.wrap ((↑f : Int) + (↑i.val.fst : Int))).toNat b)).flatten ∧ PlainS (i.val.snd.snd ++ [D.val (Value.int IntKind.i64 (IntKind.i64.wrap ((↑f : Int) + (↑i.val.fst : Int)))) :: (dns IntKind.u8 (gS x_2 (IntKind.i64.wrap ((↑f : Int) + (↑i.val.fst : Int)))) ++ dns IntKind.u8 b)]).flatten) ∧
 (false = true →
 K (V.int IntKind.i64 0)
 [KO.cells [V.ptr 1 0, V.int IntKind.i64 (↑k : Int), V.int IntKind.i64 r.gen, V.mp 2, V.ptr 3 0, V.sb false], KO.cells [V.sl 4 0 x_2.length, V.sl 7 0 (i.val.snd.snd.length + 1), V.int IntKind.i64 (-1), V.sb false], KO.mp [IntKind.i64] false false 1 r.M,
 KO.cells [V.ptr 1 0, V.int IntKind.i64 r.f', V.int IntKind.i64 r.k', V.int IntKind.i64 r.g', V.int IntKind.i64 r.u', V.int IntKind.i64 r.m', V.sl 6 0 r.lg, V.sb false], KO.row 82 64 (secs (x_2.set (IntKind.i64.wrap ((↑f : Int) + (↑i.val.fst : Int))).toNat b)), KO.dead, KO.row 126 2 r.G,
 KO.row 84 129 (i.val.snd.snd ++ [D.val (Value.int IntKind.i64 (IntKind.i64.wrap ((↑f : Int) + (↑i.val.fst : Int)))) :: (dns IntKind.u8 (gS x_2 (IntKind.i64.wrap ((↑f : Int) + (↑i.val.fst : Int)))) ++ dns IntKind.u8 b)])]) ∧
 (false = false →
 Nx (blLI x f k r) i
 ([V.ptr 0 0, V.int IntKind.i64 (↑f : Int), V.sl 8 0 64, V.sb true, V.int IntKind.i64 (↑k : Int), V.int IntKind.i64 (IntKind.i64.wrap ((↑i.val.fst : Int) + 1))],
 [KO.cells [V.ptr 1 0, V.int IntKind.i64 (↑k : Int), V.int IntKind.i64 r.gen, V.mp 2, V.ptr 3 0, V.sb false], KO.cells [V.sl 4 0 x_2.length, V.sl 7 0 (i.val.snd.snd.length + 1), V.int IntKind.i64 (-1), V.sb false], KO.mp [IntKind.i64] false false 1 r.M,
 KO.cells [V.ptr 1 0, V.int IntKind.i64 r.f', V.int IntKind.i64 r.k', V.int IntKind.i64 r.g', V.int IntKind.i64 r.u', V.int IntKind.i64 r.m', V.sl 6 0 r.lg, V.sb false], KO.row 82 64 (secs (x_2.set (IntKind.i64.wrap ((↑f : Int) + (↑i.val.fst : Int))).toNat b)), KO.dead, KO.row 126 2 r.G,
 KO.row 84 129 (i.val.snd.snd ++ [D.val (Value.int IntKind.i64 (IntKind.i64.wrap ((↑f : Int) + (↑i.val.fst : Int)))) :: (dns IntKind.u8 (gS x_2 (IntKind.i64.wrap ((↑f : Int) + (↑i.val.fst : Int)))) ++ dns IntKind.u8 b)]),
 KO.row 5 1
 (List.replicate 64 ([D.val (Value.int IntKind.u8 0)]))])))))) ∧
 (decide ((↑i.val.fst : Int) < (↑k : Int)) = false →
 (i.val.snd.fst = true →
 ∃ (x_1 : List (List Int)),
 secs (swX x f i.val.fst) = secs x_1 ∧
 x.length = x_1.length ∧
 i.val.snd.snd.length = i.val.snd.snd.length ∧
 K (V.int IntKind.i64 0)
 [KO.cells [V.ptr 1 0, V.int IntKind.i64 (↑k : Int), V.int IntKind.i64 r.gen, V.mp 2, V.ptr 3 0, V.sb false], KO.cells [V.sl 4 0 x_1.length, V.sl 7 0 0, V.int IntKind.i64 (-1), V.sb false], KO.mp [IntKind.i64] false false 1 r.M,
 KO.cells [V.ptr 1 0, V.int IntKind.i64 r.f', V.int IntKind.i64 r.k', V.int IntKind.i64 r.g', V.int IntKind.i64 r.u', V.int IntKind.i64 r.m', V.sl 6 0 r.lg, V.sb false], KO.row 82 64 (secs x_1), KO.dead, KO.row 126 2 r.G, KO.row 84 129 []]) ∧
 (i.val.snd.fst = false →
 K (V.int IntKind.i64 0)
 [KO.cells [V.ptr 1 0, V.int IntKind.i64 (↑k : Int), V.int IntKind.i64 r.gen, V.mp 2, V.ptr 3 0, V.sb false], KO.cells [V.sl 4 0 x.length, V.sl 7 0 i.val.snd.snd.length, V.int IntKind.i64 (-1), V.sb false], KO.mp [IntKind.i64] false false 1 r.M,
 KO.cells [V.ptr 1 0, V.int IntKind.i64 r.f', V.int IntKind.i64 r.k', V.int IntKind.i64 r.g', V.int IntKind.i64 r.u', V.int IntKind.i64 r.m', V.sl 6 0 r.lg, V.sb false], KO.row 82 64 (secs (swX x f i.val.fst)), KO.dead, KO.row 126 2 r.G, KO.row 84 129 i.val.snd.snd]))
 ) : runSpec Try.prog XVk (vkT x ⟨[], [], []⟩ f k 0 [] r 79) 79 [.ptr 0 0, .int .i64 (f : Int)] [vauC k r.gen, devV 4 5 x.length 0, mpT r.M, jouV r.f' r.k' r.g' r.u' r.m' r.lg, secR x, waiR [], begV r.G] (nilRes [.cell 1 1 84 129, .mv 1 1, .kill 5] (tidyRes 7 K)) := by apply Eq.mp (a := hvc_); kernel_rfl
theorem vcCheck (x : List (List Int)) (w : List (List D)) (f k : Nat) (K : V → KB → Prop) (hvc_ :
 ∃ (x_1 : List (List Int)),
 secs x = secs x_1 ∧
 x.length = x_1.length ∧
 w.length = w.length ∧
 Sec64 x_1 ∧
 (((dRd x_1 (↑f : Int)).snd != 0) = true → K (V.tup [V.int IntKind.i64 0, V.any (Value.map none), V.int IntKind.i64 (dRd x_1 (↑f : Int)).snd]) [KO.cells [V.sl 1 0 x_1.length, V.sl 2 0 w.length, V.int IntKind.i64 (-1), V.sb false], KO.row 82 64 (secs x_1), KO.row 84 129 w]) ∧
 (((dRd x_1 (↑f : Int)).snd != 0) = false →
 ((dRd x_1 (↑f : Int)).fst.length ≤ (ints IntKind.u8 (dRd x_1 (↑f : Int)).fst).length ∧ True) ∧
 ∃ (h : List Int),
 List.drop 0 (List.take (dRd x_1 (↑f : Int)).fst.length (ints IntKind.u8 (dRd x_1 (↑f : Int)).fst)) = ints IntKind.u8 h ∧
 (∀ (c : Int), List.Mem c h → 0 ≤ c ∧ c < 256) ∧
 h.length = 64 ∧
 True ∧
 (decide ((rNum (List.drop 3 h) 0 1099511627776).fst < 1) = true → K (V.tup [V.int IntKind.i64 0, V.any (Value.map none), V.int IntKind.i64 0]) [KO.cells [V.sl 1 0 x_1.length, V.sl 2 0 w.length, V.int IntKind.i64 (-1), V.sb false], KO.row 82 64 (secs x_1), KO.row 84 129 w]) ∧
 (decide ((rNum (List.drop 3 h) 0 1099511627776).fst < 1) = false →
 ∃ (x : List (List Int)),
 ∃ (f_1 : Nat),
 ∃ (k_1 : Nat),
 (↑f : Int) = (↑f_1 : Int) ∧
 (↑k : Int) = (↑k_1 : Int) ∧
 secs x_1 = secs x ∧
 x_1.length = x.length ∧
 w.length = w.length ∧
 Prt x f_1 k_1 ∧
 (∀ (b : List Int), List.Mem b x → ∀ (c : Int), List.Mem c b → 0 ≤ c ∧ c < 256) ∧
 NumJ (rNum (List.drop 3 h) 0 1099511627776).fst ∧
 (false = true → K (V.tup [V.int IntKind.i64 0, V.any (Value.map none), V.int IntKind.i64 0]) [KO.cells [V.sl 1 0 x.length, V.sl 2 0 w.length, V.int IntKind.i64 (-1), V.sb false], KO.row 82 64 (secs x), KO.row 84 129 w]) ∧
 (false = false →
 (scanJ (flJ x f_1 k_1) (rNum (List.drop 3 h) 0 1099511627776).fst).fst.length ≤ (List.map bsl (scanJ (flJ x f_1 k_1) (rNum (List.drop 3 h) 0 1099511627776).fst).fst).length ∧
 ∃ (x_2 : List P2),
 List.drop 0 (List.take (scanJ (flJ x f_1 k_1) (rNum (List.drop 3 h) 0 1099511627776).fst).fst.length (List.map bsl (scanJ (flJ x f_1 k_1) (rNum (List.drop 3 h) 0 1099511627776).fst).fst)) = List.map bsl (recW x_2) ∧
 OkL x_2 ∧
 x_2.length ≤ 100000 ∧
 ∀ (M : ML),
 Tab M x_2 →
 (false = true → K (V.tup [V.int IntKind.i64 0, V.any (Value.map none), V.int IntKind.i64 0]) [KO.cells [V.sl 1 0 x.length, V.sl 2 0 w.length, V.int IntKind.i64 (-1), V.sb false], KO.row 82 64 (secs x), KO.row 84 129 w]) ∧
 (false = false → K (V.tup [V.int IntKind.i64 (rNum (List.drop 3 h) 0 1099511627776).fst, V.mp 3, V.int IntKind.i64 0]) [KO.cells [V.sl 1 0 x.length, V.sl 2 0 w.length, V.int IntKind.i64 (-1), V.sb false], KO.row 82 64 (secs x), KO.row 84 129 w, KO.mp [IntKind.i64] false false 1 M]))))
 ) : runSpec Try.prog XVk (noT 24) 24 [.ptr 0 0, .int .i64 (f : Int), .int .i64 (k : Int)] [devC x.length w.length, secR x, waiR w] (tidyRes 3 K) := by apply Eq.mp (a := hvc_); kernel_rfl
theorem vcVlay (x : List (List Int)) (p : LyP) (f k g : Nat) (ts : List (List Int)) (r : VR) (K : V → KB → Prop) (hvc_ :
 ∃ (x_1 : List (List Int)),
 ∃ (f_1 : Nat),
 ∃ (k_1 : Nat),
 (↑f : Int) = (↑f_1 : Int) ∧
 (↑k : Int) = (↑k_1 : Int) ∧
 x.length = x_1.length ∧
 secs x = secs x_1 ∧
 NoW 0 [] ∧
 Prt x_1 f_1 k_1 ∧
 (false = true →
 K (V.int IntKind.i64 0)
 [KO.cells [V.ptr 1 0, V.int IntKind.i64 (↑k : Int), V.int IntKind.i64 r.gen, V.mp 2, V.ptr 3 0, V.sb false], KO.cells [V.sl 4 0 x_1.length, V.sl 7 0 0, V.int IntKind.i64 (-1), V.sb false], KO.mp [IntKind.i64] false false 1 r.M,
 KO.cells [V.ptr 1 0, V.int IntKind.i64 r.f', V.int IntKind.i64 r.k', V.int IntKind.i64 r.g', V.int IntKind.i64 r.u', V.int IntKind.i64 r.m', V.sl 6 0 r.lg, V.sb false], KO.row 82 64 (secs (swX x_1 f_1 k_1)), KO.dead, KO.row 126 2 r.G, KO.row 84 129 []]) ∧
 (false = false →
 ∃ (x : List (List Int)),
 ∃ (f_2 : Nat),
 ∃ (k_2 : Nat),
 (↑f : Int) = (↑f_2 : Int) ∧
 (↑k : Int) = (↑k_2 : Int) ∧
 secs (swX x_1 f_1 k_1) = secs x ∧
 x_1.length = x.length ∧
 0 = 0 ∧
 Prt x f_2 k_2 ∧
 (∀ (b : List Int), List.Mem b x → ∀ (c : Int), List.Mem c b → 0 ≤ c ∧ c < 256) ∧
 NumJ (↑g : Int) ∧
 OkD x [] ∧
 0 ≤ 50000 ∧
 ∀ (w' : List (List D)) (L : List (List Int)) (u : Nat),
 w' = [] ∨ w' = [] →
 scanJ (flJ x f_2 k_2) (↑g : Int) = (L, u) →
 u ≤ k_2 →
 (false = true →
 K (V.int IntKind.i64 0)
 [KO.cells [V.ptr 1 0, V.int IntKind.i64 (↑k : Int), V.int IntKind.i64 r.gen, V.mp 2, V.ptr 3 0, V.sb false], KO.cells [V.sl 4 0 x.length, V.sl 7 0 w'.length, V.int IntKind.i64 (-1), V.sb false], KO.mp [IntKind.i64] false false 1 r.M,
 KO.cells [V.ptr 1 0, V.int IntKind.i64 r.f', V.int IntKind.i64 r.k', V.int IntKind.i64 r.g', V.int IntKind.i64 r.u', V.int IntKind.i64 r.m', V.sl 6 0 r.lg, V.sb false], KO.row 82 64 (secs (swX x (f_2 + u) (k_2 - u))), KO.dead, KO.row 126 2 r.G, KO.row 84 129 w']) ∧
 (false = false →
 At (lyLI p f k g ts r)
 ([V.ptr 8 0, V.dat (D.sl 1 (List.map bsl ts)), V.int IntKind.i64 (↑(List.map bsl ts).length : Int), V.int IntKind.i64 0],
 [KO.cells [V.ptr 1 0, V.int IntKind.i64 (↑k : Int), V.int IntKind.i64 r.gen, V.mp 2, V.ptr 3 0, V.sb false], KO.cells [V.sl 4 0 x.length, V.sl 7 0 w'.length, V.int IntKind.i64 (-1), V.sb false], KO.mp [IntKind.i64] false false 1 r.M,
 KO.cells [V.ptr 1 0, V.int IntKind.i64 r.f', V.int IntKind.i64 r.k', V.int IntKind.i64 r.g', V.int IntKind.i64 r.u', V.int IntKind.i64 r.m', V.sl 6 0 r.lg, V.sb false], KO.row 82 64 (secs (swX x (f_2 + u) (k_2 - u))), KO.dead, KO.row 126 2 r.G, KO.row 84 129 w',
 KO.cells [V.ptr 1 0, V.int IntKind.i64 (↑f_2 : Int), V.int IntKind.i64 (↑k_2 : Int), V.int IntKind.i64 (↑g : Int), V.int IntKind.i64 (↑u : Int), V.int IntKind.i64 (↑L.length : Int), V.sl 9 0 0, V.sb false], KO.row 126 2 []]) ∧
 ∀ (i : { q : LyS // LyI p k g ts q.i q.x q.g q.w }),
 (decide ((↑i.val.i : Int) < (↑ts.length : Int)) = true →
 NonN (↑i.val.i : Int) ∧
 ∃ (e : List D),
 (List.map bsl ts)[(↑i.val.i : Int).toNat]? = some e ∧
 ∃ (l : List (List D)),
 e[0]? = some (D.sl 1 l) ∧
 ∃ (x : List (List Int)),
 ∃ (p_1 : JP),
 ∃ (g_1 : List Bg),
 ∃ (b : List Int),
 JIn (↑f : Int) (↑k : Int) (↑g : Int) (↑(catN (↑g : Int) 0 (List.take i.val.i ts)) : Int) (↑i.val.i : Int) i.val.g.length i.val.x.length i.val.w.length (List.map bgD i.val.g) (secs i.val.x) i.val.w x p_1 g_1 ∧
 l = ints IntKind.u8 b ∧
 OkJ x p_1 ∧
 OkD x i.val.w ∧
 i.val.w.length ≤ 50000 ∧
 g_1.length ≤ 50000 ∧
 (∀ (c : Int), List.Mem c b → 0 ≤ c ∧ c < 256) ∧
 b.length ≤ 800000 ∧
 ((formJ p_1.gen (↑p_1.n : Int) b).snd ≠ 0 →
 (((formJ p_1.gen (↑p_1.n : Int) b).snd != 0) = true →
 K (V.int IntKind.i64 (formJ p_1.gen (↑p_1.n : Int) b).snd)
 [KO.cells [V.ptr 1 0, V.int IntKind.i64 (↑k : Int), V.int IntKind.i64 r.gen, V.mp 2, V.ptr 3 0, V.sb false], KO.cells [V.sl 4 0 x.length, V.sl 7 0 i.val.w.length, V.int IntKind.i64 (-1), V.sb false], KO.mp [IntKind.i64] false false 1 r.M,
 KO.cells [V.ptr 1 0, V.int IntKind.i64 r.f', V.int IntKind.i64 r.k', V.int IntKind.i64 r.g', V.int IntKind.i64 r.u', V.int IntKind.i64 r.m', V.sl 6 0 r.lg, V.sb false], KO.row 82 64 (secs x), KO.dead, KO.row 126 2 r.G, KO.row 84 129 i.val.w]) ∧
 (((formJ p_1.gen (↑p_1.n : Int) b).snd != 0) = false →
 Nx (lyLI p f k g ts r) i
 ([V.ptr 8 0, V.dat (D.sl 1 (List.map bsl ts)), V.int IntKind.i64 (↑ts.length : Int), V.int IntKind.i64 (IntKind.i64.wrap ((↑i.val.i : Int) + 1))],
 [KO.cells [V.ptr 1 0, V.int IntKind.i64 (↑k : Int), V.int IntKind.i64 r.gen, V.mp 2, V.ptr 3 0, V.sb false], KO.cells [V.sl 4 0 x.length, V.sl 7 0 i.val.w.length, V.int IntKind.i64 (-1), V.sb false], KO.mp [IntKind.i64] false false 1 r.M,
 KO.cells [V.ptr 1 0, V.int IntKind.i64 r.f', V.int IntKind.i64 r.k', V.int IntKind.i64 r.g', V.int IntKind.i64 r.u', V.int IntKind.i64 r.m', V.sl 6 0 r.lg, V.sb false], KO.row 82 64 (secs x), KO.dead, KO.row 126 2 r.G, KO.row 84 129 i.val.w,
 KO.cells [V.ptr 1 0, V.int IntKind.i64 (↑p_1.f : Int), V.int IntKind.i64 (↑p_1.k : Int), V.int IntKind.i64 p_1.gen, V.int IntKind.i64 (↑p_1.u : Int), V.int IntKind.i64 (↑p_1.n : Int), V.sl 9 0 g_1.length, V.sb false], KO.row 126 2 (List.map bgD g_1)]))) ∧
 ((formJ p_1.gen (↑p_1.n : Int) b).snd = 0 →
 p_1.k < p_1.u + (formJ p_1.gen (↑p_1.n : Int) b).fst.length / 64 →
 (true = true →
 K (V.int IntKind.i64 6)
 [KO.cells [V.ptr 1 0, V.int IntKind.i64 (↑k : Int), V.int IntKind.i64 r.gen, V.mp 2, V.ptr 3 0, V.sb false], KO.cells [V.sl 4 0 x.length, V.sl 7 0 i.val.w.length, V.int IntKind.i64 (-1), V.sb false], KO.mp [IntKind.i64] false false 1 r.M,
 KO.cells [V.ptr 1 0, V.int IntKind.i64 r.f', V.int IntKind.i64 r.k', V.int IntKind.i64 r.g', V.int IntKind.i64 r.u', V.int IntKind.i64 r.m', V.sl 6 0 r.lg, V.sb false], KO.row 82 64 (secs x), KO.dead, KO.row 126 2 r.G, KO.row 84 129 i.val.w]) ∧
 (true = false →
 Nx (lyLI p f k g ts r) i
 ([V.ptr 8 0, V.dat (D.sl 1 (List.map bsl ts)), V.int IntKind.i64 (↑ts.length : Int), V.int IntKind.i64 (IntKind.i64.wrap ((↑i.val.i : Int) + 1))],
 [KO.cells [V.ptr 1 0, V.int IntKind.i64 (↑k : Int), V.int IntKind.i64 r.gen, V.mp 2, V.ptr 3 0, V.sb false], KO.cells [V.sl 4 0 x.length, V.sl 7 0 i.val.w.length, V.int IntKind.i64 (-1), V.sb false], KO.mp [IntKind.i64] false false 1 r.M,
 KO.cells [V.ptr 1 0, V.int IntKind.i64 r.f', V.int IntKind.i64 r.k', V.int IntKind.i64 r.g', V.int IntKind.i64 r.u', V.int IntKind.i64 r.m', V.sl 6 0 r.lg, V.sb false], KO.row 82 64 (secs x), KO.dead, KO.row 126 2 r.G, KO.row 84 129 i.val.w,
 KO.cells [V.ptr 1 0, V.int IntKind.i64 (↑p_1.f : Int), V.int IntKind.i64 (↑p_1.k : Int), V.int IntKind.i64 p_1.gen, V.int IntKind.i64 (↑p_1.u : Int), V.int IntKind.i64 (↑p_1.n : Int), V.sl 9 0 g_1.length, V.sb false], KO.row 126 2 (List.map bgD g_1)]))) ∧
 ((formJ p_1.gen (↑p_1.n : Int) b).snd = 0 →
 p_1.u + (formJ p_1.gen (↑p_1.n : Int) b).fst.length / 64 ≤ p_1.k →
 ∀ (v : List (List D)),
 v.length ≤ i.val.w.length + 16 →
 Plain v.flatten →
 (false = true →
 K (V.int IntKind.i64 0)
 [KO.cells [V.ptr 1 0, V.int IntKind.i64 (↑k : Int), V.int IntKind.i64 r.gen, V.mp 2, V.ptr 3 0, V.sb false],
 KO.cells [V.sl 4 0 (putJ x (p_1.f + p_1.u) (0 :: (formJ p_1.gen (↑p_1.n : Int) b).fst.tail) ((formJ p_1.gen (↑p_1.n : Int) b).fst.length / 64)).length, V.sl 7 0 v.length, V.int IntKind.i64 (-1), V.sb false], KO.mp [IntKind.i64] false false 1 r.M,
 KO.cells [V.ptr 1 0, V.int IntKind.i64 r.f', V.int IntKind.i64 r.k', V.int IntKind.i64 r.g', V.int IntKind.i64 r.u', V.int IntKind.i64 r.m', V.sl 6 0 r.lg, V.sb false],
 KO.row 82 64 (secs (putJ x (p_1.f + p_1.u) (0 :: (formJ p_1.gen (↑p_1.n : Int) b).fst.tail) ((formJ p_1.gen (↑p_1.n : Int) b).fst.length / 64))), KO.dead, KO.row 126 2 r.G, KO.row 84 129 v]) ∧
 (false = false →
 Nx (lyLI p f k g ts r) i
 ([V.ptr 8 0, V.dat (D.sl 1 (List.map bsl ts)), V.int IntKind.i64 (↑ts.length : Int), V.int IntKind.i64 (IntKind.i64.wrap ((↑i.val.i : Int) + 1))],
 [KO.cells [V.ptr 1 0, V.int IntKind.i64 (↑k : Int), V.int IntKind.i64 r.gen, V.mp 2, V.ptr 3 0, V.sb false],
 KO.cells [V.sl 4 0 (putJ x (p_1.f + p_1.u) (0 :: (formJ p_1.gen (↑p_1.n : Int) b).fst.tail) ((formJ p_1.gen (↑p_1.n : Int) b).fst.length / 64)).length, V.sl 7 0 v.length, V.int IntKind.i64 (-1), V.sb false], KO.mp [IntKind.i64] false false 1 r.M,
 KO.cells [V.ptr 1 0, V.int IntKind.i64 r.f', V.int IntKind.i64 r.k', V.int IntKind.i64 r.g', V.int IntKind.i64 r.u', V.int IntKind.i64 r.m', V.sl 6 0 r.lg, V.sb false],
 KO.row 82 64 (secs (putJ x (p_1.f + p_1.u) (0 :: (formJ p_1.gen (↑p_1.n : Int) b).fst.tail) ((formJ p_1.gen (↑p_1.n : Int) b).fst.length / 64))), KO.dead, KO.row 126 2 r.G, KO.row 84 129 v,
 KO.cells
 [V.ptr 1 0, V.int IntKind.i64 (↑p_1.f : Int), V.int IntKind.i64 (↑p_1.k : Int), V.int IntKind.i64 p_1.gen, V.int IntKind.i64 (↑(p_1.u + (formJ p_1.gen (↑p_1.n : Int) b).fst.length / 64) : Int), V.int IntKind.i64 (↑(p_1.n + 1) : Int),
 V.sl 9 0 (g_1 ++ [((↑(p_1.f + p_1.u) : Int), List.take 64 (formJ p_1.gen (↑p_1.n : Int) b).fst)]).length, V.sb false],
 KO.row 126 2 (List.map bgD (g_1 ++ [((↑(p_1.f + p_1.u) : Int), List.take 64 (formJ p_1.gen (↑p_1.n : Int) b).fst)]))])))) ∧
 (decide ((↑i.val.i : Int) < (↑ts.length : Int)) = false →
 ∃ (x : List (List Int)),
 ∃ (p_1 : JP),
 ∃ (g_1 : List Bg),
 JIn (↑f : Int) (↑k : Int) (↑g : Int) (↑(catN (↑g : Int) 0 (List.take i.val.i ts)) : Int) (↑i.val.i : Int) i.val.g.length i.val.x.length i.val.w.length (List.map bgD i.val.g) (secs i.val.x) i.val.w x p_1 g_1 ∧
 Sec64 x ∧
 BgOk x g_1 ∧
 K (V.int IntKind.i64 0)
 [KO.cells [V.ptr 1 0, V.int IntKind.i64 (↑k : Int), V.int IntKind.i64 r.gen, V.mp 2, V.ptr 3 0, V.sb false], KO.cells [V.sl 4 0 (flsJ x g_1).length, V.sl 7 0 0, V.int IntKind.i64 (-1), V.sb false], KO.mp [IntKind.i64] false false 1 r.M,
 KO.cells [V.ptr 1 0, V.int IntKind.i64 r.f', V.int IntKind.i64 r.k', V.int IntKind.i64 r.g', V.int IntKind.i64 r.u', V.int IntKind.i64 r.m', V.sl 6 0 r.lg, V.sb false], KO.row 82 64 (secs (flsJ x g_1)), KO.dead, KO.row 126 2 r.G, KO.row 84 129 []])))
 ) : runSpec Try.prog XVl (vkT x p f k g ts r 70) 70 [.ptr 0 0, .int .i64 (f : Int), .int .i64 (g : Int), .dat (.sl 1 (ts.map bsl))] [vauC k r.gen, devV 4 5 x.length 0, mpT r.M, jouV r.f' r.k' r.g' r.u' r.m' r.lg, secR x, waiR [], begV r.G] (nilRes [.mv 1 1, .kill 5] (tidyRes 7 K)) := by apply Eq.mp (a := hvc_); kernel_rfl
theorem vkS_ok : AllOk Try.prog vkS := fun f k h => by
  unfold vkS at h
  split at h
  · cases h; exact okScanJ
  · cases h; exact okReadV
  · cases h; exact okGener
  · exact jgS0_ok _ _ h
theorem XVk_ok : CallOk Try.prog XVk := callS_ok mixed vkS_ok noT 10
theorem dRd_at {x : List (List Int)} {i : Nat} (h : i < x.length) : dRd x (i : Int) = (gS x (i : Int), 0) := by
  unfold dRd; rw [if_pos ⟨by omega, by omega⟩]
theorem gS_sw {x : List (List Int)} {f i : Nat} (h : f + i < x.length) : gS (swX x f i) ((f + i : Nat) : Int) = gS x ((f + i : Nat) : Int) := by
  have hl : (x.take f ++ zer i).length = f + i := by rw [List.length_append, List.length_take, zer_len]; omega
  unfold gS swX
  rw [Int.toNat_natCast, List.getD_eq_getElem?_getD, List.getD_eq_getElem?_getD, List.getElem?_append_right (by omega), hl, Nat.sub_self, List.getElem?_drop, Nat.add_zero]
theorem okBlank : SpecOk Try.prog 79 Sblank := specOk_ntn XVk_ok [.cell 1 1 84 129, .mv 1 1, .kill 5] 7 (fun args kb K h => by
  unfold Sblank at h; split at h <;> try exact h.elim
  obtain ⟨x, f, k, rfl, rfl, rfl, rfl, ⟨rfl, rfl⟩, hP, h⟩ := h
  rename_i gen M f' k' g' u' m' lg G
  refine ⟨rfl, ?_⟩
  apply Exists.intro (vkT x ⟨[], [], []⟩ f k 0 [] ⟨0, gen, M, f', k', g', u', m', lg, G⟩ 79)
  apply vcBlank x f k ⟨0, gen, M, f', k', g', u', m', lg, G⟩ K
  have hfit := hP.fit
  have hlen := hP.len
  refine ⟨nonNat 64, ⟨by omega, by omega, by omega⟩, ?_, ?_⟩
  · exact At.mk' (⟨(0, false, []), ⟨hP, Nat.zero_le _, Nat.le_refl _, fun d hd => (by cases hd), fun _ => rfl⟩⟩ : {p : Nat × Bool × List (List D) // BlI x f k p.1 p.2.1 p.2.2}) (by dsimp only; rw [swX_zero]; rfl)
  rintro ⟨⟨i, y, v⟩, hI⟩
  have hik := hI.ik
  have hwl := hI.wl
  have hwp := hI.wp
  have hno := hI.no
  dsimp only at hik hwl hwp hno ⊢
  simp only [decide_eq_true_eq, decide_eq_false_iff_not]
  refine ⟨fun h1 => ?_, fun h1 => ?_⟩
  · have hi : i < k := by omega
    have w3 : IntKind.i64.wrap ((i : Int) + 1) = ((i + 1 : Nat) : Int) := by rw [w64 (by omega) (by omega)]; omega
    have w4 : IntKind.i64.wrap ((f : Int) + (i : Int)) = ((f + i : Nat) : Int) := by rw [w64 (by omega) (by omega)]; omega
    have hsl : (swX x f i).length = x.length := swX_len (by omega)
    have hg := hP.each _ (List.mem_of_getElem? (gS_at (i := f + i) (x := x) (by omega)))
    have hd : dRd (swX x f i) ((f + i : Nat) : Int) = (gS x ((f + i : Nat) : Int), 0) := by rw [dRd_at (by omega), gS_sw (by omega)]
    refine ⟨swX x f i, rfl, hsl.symm, (by first | exact trivial | exact rfl), hP.toSec64.sw (by omega), ?_⟩
    simp only [w3, w4, hd, Int.toNat_natCast]
    refine ⟨fun q => (by cases q), fun _ => ⟨⟨by rw [ints_len]; exact Nat.le_refl _, Nat.le_refl _, trivial⟩, gS x ((f + i : Nat) : Int), List.replicate 64 0, by rw [take_i, List.drop_zero], ints_z64, Nat.le_eq ▸ (show (gS x ((f + i : Nat) : Int)).length ≤ 1000000 by omega), trivial, fun h2 => ?_, fun h2 => ⟨⟨Nat.le_refl _, trivial⟩, swX x f i, List.replicate 64 0, rfl, ints_z64, (by first | exact trivial | exact rfl), (by first | exact trivial | exact rfl), ⟨hP.toSec64.sw (by omega), by omega, hwp⟩, fun q => ?_, fun q => ⟨⟨⟨plain_secs⟩, ⟨plain_app hwp plain_wr⟩⟩, fun q2 => (by cases q2), fun _ => ?_⟩⟩⟩⟩
    · rw [hsl, swX_same (by omega) (by simpa using h2)]
      exact Nx.mk' (⟨(i + 1, y, v), ⟨hP, by omega, by dsimp only; omega, hwp, hno⟩⟩ : {p : Nat × Bool × List (List D) // BlI x f k p.1 p.2.1 p.2.2}) rfl (by dsimp only; omega)
    · exact (q ⟨by omega, by omega, by simp⟩).elim
    · rw [swX_set (by omega), hsl]
      exact Nx.mk' (⟨(i + 1, true, _), ⟨hP, by omega, by rw [List.length_append, List.length_singleton]; omega, plain_app hwp plain_wr, fun q => (by cases q)⟩⟩ : {p : Nat × Bool × List (List D) // BlI x f k p.1 p.2.1 p.2.2}) (by dsimp only; rw [List.length_append, List.length_singleton]) (by dsimp only; omega)
  · have e : i = k := by omega
    subst e
    have hsl : (swX x f i).length = x.length := swX_len (by omega)
    refine ⟨fun q => ⟨swX x f i, rfl, hsl.symm, (by first | exact trivial | exact rfl), ?_⟩, fun q => ?_⟩
    · rw [hsl]; exact h
    · have := hno q
      subst this
      exact h)
theorem okCheck : SpecOk Try.prog 24 Scheck := specOk_tdn XVk_ok 3 (fun args kb K h => by
  unfold Scheck at h; split at h <;> try exact h.elim
  rename_i w
  obtain ⟨x, f, k, g, l, rfl, rfl, rfl, rfl, rfl, hP, hB, hk, hp, h1, h2⟩ := h
  refine ⟨rfl, noT _, vcCheck x w f k K ?_⟩
  have hfit := hP.fit
  have hn1 := hp.n1
  have hgb := hp.gb
  have hg := hP.each _ (List.mem_of_getElem? (gS_at (i := f) (x := x) (by omega)))
  have hgb2 : Byt (gS x (f : Int)) := hB _ (List.mem_of_getElem? (gS_at (i := f) (x := x) (by omega)))
  have hgen : (rNum ((gS x (f : Int)).drop 3) 0 1099511627776).1 = (g : Int) := by
    have := hp.gen
    have e : ((x.drop f).take k).headD [] = gS x (f : Int) := by
      obtain ⟨k', rfl⟩ : ∃ k', k = k' + 1 := ⟨k - 1, by omega⟩
      have := gS_at (i := f) (x := x) (by omega)
      rw [List.getElem?_eq_getElem (by omega)] at this
      rw [List.drop_eq_getElem_cons (by omega), List.take_succ_cons, Option.some.inj this]
      rfl
    rwa [e] at this
  refine ⟨x, rfl, rfl, rfl, hP.toSec64, ?_⟩
  simp only [dRd_at (show f < x.length by omega)]
  refine ⟨fun q => (by cases q), fun _ => ⟨⟨by rw [ints_len]; exact Nat.le_refl _, trivial⟩, gS x (f : Int), by rw [take_i, List.drop_zero], hgb2, hg, trivial, fun q => ?_, fun q => ?_⟩⟩
  · rw [hgen] at q
    simp only [decide_eq_true_eq] at q
    exact h1 (by omega)
  · rw [hgen] at q ⊢
    simp only [decide_eq_false_iff_not] at q
    have hs : (scanJ (flJ x f k) (g : Int)).1 = recW l := hp.scan (by omega)
    have hll := hp.ll
    refine ⟨x, f, k, (by first | exact trivial | exact rfl), (by first | exact trivial | exact rfl), (by first | exact trivial | exact rfl), (by first | exact trivial | exact rfl), (by first | exact trivial | exact rfl), hP, hB, ⟨by omega, by omega⟩, fun q => (by cases q), fun _ => ?_⟩
    rw [hs]
    exact ⟨by rw [List.length_map]; exact Nat.le_refl _, l, by rw [List.take_of_length_le (by rw [List.length_map]; exact Nat.le_refl _), List.drop_zero], hp.okl, by omega, fun M hM => ⟨fun q => (by cases q), fun _ => h2 (by omega) M hM⟩⟩)
theorem vlS_ok : AllOk Try.prog vlS := fun f k h => by
  unfold vlS at h
  split at h
  · cases h; exact okBlank
  · cases h; exact okJOpen
  · cases h; exact okJAdd
  · cases h; exact okJFlush
  · cases h
theorem XVl_ok : CallOk Try.prog XVl := callS_ok mixed vlS_ok noT 10
theorem catN_take {gen : Int} {ts : List (List Int)} {i : Nat} (h : i < ts.length) : catN gen 0 (ts.take (i + 1)) = catN gen 0 (ts.take i) + (formJ gen (i : Int) ts[i]).1.length / 64 ∧ catN gen 0 (ts.take (i + 1)) ≤ catN gen 0 ts := by
  have e : ts.take (i + 1) = ts.take i ++ [ts[i]] := by rw [List.take_add_one, List.getElem?_eq_getElem h]; rfl
  refine ⟨by rw [e, catN_snoc, List.length_take, Nat.zero_add, Nat.min_eq_left (by omega)], ?_⟩
  have : ts = ts.take (i + 1) ++ ts.drop (i + 1) := (List.take_append_drop ..).symm
  conv => rhs; rw [this]
  rw [catN_app]; omega
theorem recOk_get {gen : Int} : ∀ {n : Nat} {ts : List (List Int)}, RecOk gen n ts → ∀ {i : Nat} (h : i < ts.length), (formJ gen ((n + i : Nat) : Int) ts[i]).2 = 0 ∧ Byt ts[i]
  | _, [], _, _, h => absurd h (Nat.not_lt_zero _)
  | n, t :: ts, hr, 0, _ => hr.1
  | n, t :: ts, hr, i + 1, h => by
    have := recOk_get hr.2 (i := i) (by simpa using h)
    rw [show n + 1 + i = n + (i + 1) by omega] at this
    exact this
theorem swX_twice {x : List (List Int)} {f k : Nat} (h : f + k ≤ x.length) : swX (swX x f k) f k = swX x f k := by
  have ha : (x.take f).length = f := by rw [List.length_take]; omega
  have hb : (x.take f ++ zer k).length = f + k := by rw [List.length_append, ha, zer_len]
  show List.take f (x.take f ++ zer k ++ x.drop (f + k)) ++ zer k ++ List.drop (f + k) (x.take f ++ zer k ++ x.drop (f + k)) = x.take f ++ zer k ++ x.drop (f + k)
  rw [List.drop_left' hb, List.append_assoc (x.take f), List.take_left' ha, List.append_assoc]
theorem okVlay : SpecOk Try.prog 70 Svlay := specOk_ntn XVl_ok [.mv 1 1, .kill 5] 7 (fun args kb K h => by
  unfold Svlay at h; split at h <;> try exact h.elim
  obtain ⟨x, p, f, k, g, ts, rfl, rfl, rfl, rfl, ⟨rfl, rfl⟩, hL, rfl, hg, rfl, hts, htl, ⟨hrec⟩, hcat, h⟩ := h
  rename_i gen M f' k' g' u' m' lg G
  refine ⟨rfl, ?_⟩
  apply Exists.intro (vkT x p f k g ts ⟨0, gen, M, f', k', g', u', m', lg, G⟩ 70)
  apply vcVlay x p f k g ts ⟨0, gen, M, f', k', g', u', m', lg, G⟩ K
  have hpl := hL.ef
  have hkl := hL.ek
  have hkk := hL.kk
  have hx4 := hL.len
  have hxl : x.length = f + k + p.post.length := by rw [hL.ex, List.length_append, List.length_append]; omega
  have hP : Prt x f k := ⟨⟨by omega, fun b hb => (hL.sec b hb).1⟩, by omega⟩
  have hsl : (swX x f k).length = x.length := swX_len (by omega)
  have hsw : swX x f k = p.pre ++ (zer k ++ p.post) := by
    unfold swX
    rw [hL.ex, ← hpl, ← hkl, List.take_left, ← List.append_assoc, ← List.length_append, List.drop_left, List.append_assoc]
  have h0 : Lay p.pre p.post k (g : Int) [] (swX x f k) [] [] [] := by rw [hsw]; exact lay_nil ..
  have hpre : ∀ b ∈ p.pre, b.length = 64 := fun b hb => (hL.s1 b hb).1
  have hpost : ∀ b ∈ p.post, b.length = 64 := fun b hb => (hL.s2 b hb).1
  have hscan := h0.scan
  rw [hpl] at hscan
  have hge := catN_ge hrec
  refine ⟨x, f, k, rfl, rfl, rfl, rfl, ⟨rfl, rfl⟩, hP, fun q => (by cases q), fun _ => ⟨swX x f k, f, k, rfl, rfl, rfl, hsl.symm, rfl, ⟨hP.toSec64.sw (by omega), by omega⟩, h0.byt (fun b hb => (hL.s1 b hb).2) (fun b hb => (hL.s2 b hb).2), ⟨by omega, by omega⟩, ⟨hP.toSec64.sw (by omega), by simp, fun d hd => (by cases hd)⟩, by omega, fun w' L u hw' hs hu => ⟨fun q => (by cases q), fun _ => ⟨?_, ?_⟩⟩⟩⟩
  · have : w' = [] := hw'.elim id id
    subst this
    rw [hscan] at hs
    cases hs
    have e : swX (swX x f k) (f + catN (g : Int) 0 []) (k - catN (g : Int) 0 []) = swX x f k := swX_twice (by omega)
    rw [e, hsl, List.length_map]
    refine At.mk' (⟨⟨0, swX x f k, [], []⟩, ⟨Nat.zero_le _, ⟨[], [], h0⟩, Nat.le_refl _, fun d hd => (by cases hd)⟩⟩ : {q : LyS // LyI p k g ts q.i q.x q.g q.w}) ?_
    rw [← hsl]; rfl
  rintro ⟨⟨i, x', bg, w⟩, hI⟩
  have hit := hI.it
  have hwl := hI.wl
  have hwp := hI.wp
  obtain ⟨A, B, hlay⟩ := hI.lay
  dsimp only at hit hwl hwp hlay ⊢
  have hP' := hlay.sec hpre hpost (by omega)
  rw [hpl] at hP'
  have hxl' : x'.length = x.length := by
    rw [hlay.x, List.length_append, List.length_append, List.length_append, hlay.la, zer_len]; have := hlay.fit; omega
  have el : (ts.take i).length = i := by rw [List.length_take]; omega
  have hfew := hlay.few
  rw [el] at hfew
  have hfit := hlay.fit
  simp only [decide_eq_true_eq, decide_eq_false_iff_not]
  refine ⟨fun h1 => ?_, fun h1 => ?_⟩
  · have hi : i < ts.length := by omega
    obtain ⟨f1, f2⟩ := recOk_get hrec hi
    obtain ⟨c1, c2⟩ := catN_take (gen := (g : Int)) hi
    rw [Nat.zero_add] at f1
    have hts' := hts _ (List.getElem_mem hi)
    have htk : ts.take (i + 1) = ts.take i ++ [ts[i]] := by rw [List.take_add_one, List.getElem?_eq_getElem hi]; rfl
    refine ⟨nonNat i, bsl ts[i], by rw [Int.toNat_natCast, List.getElem?_map, List.getElem?_eq_getElem hi]; rfl, ints .u8 ts[i], rfl, x', ⟨f, k, (g : Int), catN (g : Int) 0 (ts.take i), i⟩, bg, ts[i], ⟨rfl, rfl, rfl, rfl, rfl, rfl, rfl, rfl, rfl, rfl⟩, rfl, ⟨hP', hfit, ⟨by dsimp only; omega, by dsimp only; omega⟩, by dsimp only; omega⟩, ⟨hP'.toSec64, by omega, hwp⟩, by omega, by omega, f2, by omega, fun q => absurd f1 q, fun _ q => ?_, fun _ q v hv hvp => ⟨fun q => (by cases q), fun _ => ?_⟩⟩
    · dsimp only at q; omega
    · dsimp only at q ⊢
      obtain ⟨A', B', hL2⟩ := hlay.add (t := ts[i]) (by rw [el]; exact f1) f2 (by rw [el]; exact q)
      rw [el, ← htk, hpl] at hL2
      rw [w64 (n := (i : Int) + 1) (by omega) (by omega)]
      refine Nx.mk' (⟨⟨i + 1, _, _, v⟩, ⟨by dsimp only; omega, ⟨A', B', hL2⟩, by dsimp only; omega, hvp⟩⟩ : {q : LyS // LyI p k g ts q.i q.x q.g q.w}) ?_ (by dsimp only; omega)
      dsimp only
      rw [c1]
      rfl
  · have e : i = ts.length := by omega
    subst e
    rw [List.take_length] at hlay
    rw [List.take_length]
    refine ⟨x', ⟨f, k, (g : Int), catN (g : Int) 0 ts, ts.length⟩, bg, ⟨rfl, rfl, rfl, rfl, rfl, rfl, rfl, rfl, rfl, rfl⟩, hP'.toSec64, ⟨fun q hq => ?_, by omega⟩, h _ B hlay.flush⟩
    have := hlay.gs q hq
    exact ⟨this.1, by omega, this.2.2⟩)
end Go.Proofs.Ytkodjbegpheomaa
