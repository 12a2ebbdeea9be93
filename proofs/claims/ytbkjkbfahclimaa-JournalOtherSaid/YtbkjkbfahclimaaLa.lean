import Derived.Test.YtbkjkbfahclimaaRa
import Derived.KernelRfl
namespace Go.Proofs.Ytbkjkbfahclimaa
open Vc Go
set_option linter.unusedVariables false
set_option linter.unusedSimpArgs false
set_option maxRecDepth 100000
def Sawake : FSpec := fun args kb K => match args, kb with | [], [] => K (.sb true) [] | _, _ => False
def awS : FuncId → Option Known
  | 10 => some ⟨[], SdNew⟩
  | 11 => some ⟨[], SjOpen⟩
  | 14 => some ⟨[], Sscan⟩
  | 12 => some ⟨[.asis, .give 1], SjAdd⟩
  | 13 => some ⟨[], SjFlush⟩
  | 16 => some ⟨[], SjRoom⟩
  | 7 => some ⟨[.asis, .asis, .lend 1], Sform⟩
  | 8 => some ⟨[.asis, .asis, .lend 1], Sform⟩
  | 15 => some ⟨[.lend 1, .lend 1], SsameAll⟩
  | 9 => some ⟨[.lend 1, .lend 1], Ssame⟩
  | _ => none
noncomputable def XAw : CallT := callS Try.prog awS noT 10
def lawS : FuncId → Option Known
  | 6 => some ⟨[], Sawake⟩
  | f => awS f
structure OtI (l : List (List Int)) (gen : Int) (i : Nat) (x : List (List Int)) (w : List (List D)) (g : List Bg) : Prop where
  le : i ≤ l.length
  lay : ∃ A B, Lay [] [] 40 gen (l.take i) x g A B
  wl : w.length ≤ 16 * i
  wp : Plain w.flatten
structure Ot where
  i : Nat
  x : List (List Int)
  w : List (List D)
  g : List Bg
abbrev jou2 (k : Nat) (gen : Int) (u n gl : Nat) : KO := .cells [.ptr 0 0, .int .i64 0, .int .i64 (k : Int), .int .i64 gen, .int .i64 (u : Int), .int .i64 (n : Int), .sl 4 0 gl, .sb false]
abbrev dev2 (n m : Nat) : KO := .cells [.sl 2 0 n, .sl 3 0 m, .int .i64 (-1), .sb false]
abbrev otLI (l : List (List Int)) (ga gb : Int) : LI where
  α := {p : Ot // OtI l ga p.i p.x p.w p.g}
  live := [0, 1, 2, 7, 8, 11]
  nils := []
  st p := ([.dat (.sl 1 (l.map bsl)), .int .u8 ga, .int .u8 gb, .ptr 0 0, .ptr 1 0, .int .i64 (p.1.i : Int)], [dev2 p.1.x.length p.1.w.length, jou2 40 ga (catN ga 0 (l.take p.1.i)) p.1.i p.1.g.length, secR p.1.x, waiR p.1.w, begR p.1.g])
  μ p := l.length - p.1.i
structure RoI (l : List Int) (i : Nat) (ts : List (List Int)) (x : List (List Int)) (w : List (List D)) (g : List Bg) : Prop where
  le : i ≤ l.length
  tl : ts.length ≤ i
  lay : ∃ A B, Lay [] [] 30 7 ts x g A B
  wl : w.length ≤ 16 * i
  wp : Plain w.flatten
structure Ro where
  i : Nat
  ts : List (List Int)
  x : List (List Int)
  w : List (List D)
  g : List Bg
structure Rc where
  ts : List (List Int)
  x : List (List Int)
  w : List (List D)
  g : List Bg
  F : List Int
  s : Nat
  h : Int
  u0 : Nat
  n0 : Nat
structure RcI (l : List Int) (i : Nat) (q : Rc) : Prop where
  ro : RoI l (i + 1) q.ts q.x q.w q.g
  lF : q.F.length = 64 * q.s
  n : q.n0 ≤ i
  u : q.u0 ≤ 30
  h0 : (q.h = 0 ∧ q.u0 + q.s ≤ 30 ∧ catN 7 0 q.ts = q.u0 + q.s ∧ q.ts.length = q.n0 + 1) ∨ (q.h = 6 ∧ 30 < q.u0 + q.s ∧ catN 7 0 q.ts = q.u0 ∧ q.ts.length = q.n0)
  s16 : q.s ≤ 16
  h6 : 0 ≤ q.h ∧ q.h ≤ 6
abbrev roC (l : List Int) (i : Nat) : LI where
  α := {q : Rc // RcI l i q}
  live := [0, 3, 4, 7, 8, 10, 11, 12, 13]
  nils := []
  st q := ([.dat (.sl 1 (ints .u16 l)), .ptr 0 0, .ptr 1 0, .int .i64 (q.1.n0 : Int), .int .i64 (i : Int), .sl 2 0 q.1.F.length, .int .i64 0, .int .i64 (30 - (q.1.u0 : Int)), .int .i64 q.1.h],
    [.cells [.sl 3 0 q.1.x.length, .sl 4 0 q.1.w.length, .int .i64 (-1), .sb false], .cells [.ptr 0 0, .int .i64 0, .int .i64 30, .int .i64 7, .int .i64 (catN 7 0 q.1.ts : Int), .int .i64 (q.1.ts.length : Int), .sl 5 0 q.1.g.length, .sb false], .row 5 1 (ints .u8 q.1.F), secR q.1.x, waiR q.1.w, begR q.1.g])
  μ _ := 0
abbrev roLI (l : List Int) : LI where
  α := {p : Ro // RoI l p.i p.ts p.x p.w p.g}
  live := [0, 3, 4, 7, 8]
  nils := []
  st p := ([.dat (.sl 1 (ints .u16 l)), .ptr 0 0, .ptr 1 0, .int .i64 (p.1.ts.length : Int), .int .i64 (p.1.i : Int)], [dev2 p.1.x.length p.1.w.length, jou2 30 7 (catN 7 0 p.1.ts) p.1.ts.length p.1.g.length, secR p.1.x, waiR p.1.w, begR p.1.g])
  μ p := l.length - p.1.i
  sub p n := match n with
    | 1017 => some (roC l p.1.i)
    | _ => none
def laT (l : List (List Int)) (ga gb : Int) (r : List Int) : FuncId → Nat → Option LI
  | 4, 10 => some (otLI l ga gb)
  | 5, 11 => some (roLI r)
  | _, _ => none
noncomputable def XL (l : List (List Int)) (ga gb : Int) (r : List Int) : CallT := callS Try.prog lawS (laT l ga gb r) 10
theorem vcAwake  (K : V → KB → Prop) (hvc_ :
 ((NewI 4 → False) → K (V.sb false) []) ∧
 (NewI 4 →
 ∃ (x : List (List Int)),
 ∃ (f : Nat),
 ∃ (k : Nat),
 0 = (↑f : Int) ∧
 4 = (↑k : Int) ∧
 [(List.replicate 64 (D.val (Value.int IntKind.u8 0))),
 (List.replicate 64 (D.val (Value.int IntKind.u8 0))),
 (List.replicate 64 (D.val (Value.int IntKind.u8 0))),
 (List.replicate 64 (D.val (Value.int IntKind.u8 0)))] =
 secs x ∧
 4 = x.length ∧
 0 = 0 ∧
 Prt x f k ∧
 (∀ (b : List Int), List.Mem b x → ∀ (c : Int), List.Mem c b → 0 ≤ c ∧ c < 256) ∧
 NumJ 1 ∧
 OkD x [] ∧
 0 ≤ 50000 ∧
 ∀ (w' : List (List D)) (L : List (List Int)) (u : Nat),
 w' = [] ∨ w' = [] →
 scanJ (flJ x f k) 1 = (L, u) →
 u ≤ k →
 (((↑(L.length - 0) : Int) != 0) = true → K (V.sb false) []) ∧
 (((↑(L.length - 0) : Int) != 0) = false →
 (false = true → K (V.sb false) []) ∧
 (false = false →
 3 ≤ 3 ∧
 ∃ (x_1 : List (List Int)),
 ∃ (p : JP),
 ∃ (g : List Bg),
 ∃ (b : List Int),
 JIn (↑f : Int) (↑k : Int) 1 (↑u : Int) (↑L.length : Int) 0 x.length w'.length [] (secs (swX x (f + u) (k - u))) w' x_1 p g ∧
 [[D.val (Value.int IntKind.u8 1)], [D.val (Value.int IntKind.u8 2)], [D.val (Value.int IntKind.u8 3)]] = ints IntKind.u8 b ∧
 OkJ x_1 p ∧
 OkD x_1 w' ∧
 w'.length ≤ 50000 ∧
 g.length ≤ 50000 ∧
 (∀ (c : Int), List.Mem c b → 0 ≤ c ∧ c < 256) ∧
 b.length ≤ 800000 ∧
 ((formJ p.gen (↑p.n : Int) b).snd ≠ 0 →
 (((formJ p.gen (↑p.n : Int) b).snd != 0) = true → K (V.sb false) []) ∧
 (((formJ p.gen (↑p.n : Int) b).snd != 0) = false → (-9223372036854775808 ≤ (↑p.k : Int) - (↑p.u : Int) ∧ (↑p.k : Int) - (↑p.u : Int) ≤ 9223372036854775807) ∧ (((↑p.k : Int) - (↑p.u : Int) == 3) = true → K (V.sb true) []) ∧ (((↑p.k : Int) - (↑p.u : Int) == 3) = false → K (V.sb false) []))) ∧
 ((formJ p.gen (↑p.n : Int) b).snd = 0 →
 p.k < p.u + (formJ p.gen (↑p.n : Int) b).fst.length / 64 →
 (true = true → K (V.sb false) []) ∧ (true = false → (-9223372036854775808 ≤ (↑p.k : Int) - (↑p.u : Int) ∧ (↑p.k : Int) - (↑p.u : Int) ≤ 9223372036854775807) ∧ (((↑p.k : Int) - (↑p.u : Int) == 3) = true → K (V.sb true) []) ∧ (((↑p.k : Int) - (↑p.u : Int) == 3) = false → K (V.sb false) []))) ∧
 ((formJ p.gen (↑p.n : Int) b).snd = 0 →
 p.u + (formJ p.gen (↑p.n : Int) b).fst.length / 64 ≤ p.k →
 ∀ (v : List (List D)),
 v.length ≤ w'.length + 16 →
 Plain v.flatten →
 (false = true → K (V.sb false) []) ∧
 (false = false →
 (-9223372036854775808 ≤ (↑p.k : Int) - (↑(p.u + (formJ p.gen (↑p.n : Int) b).fst.length / 64) : Int) ∧ (↑p.k : Int) - (↑(p.u + (formJ p.gen (↑p.n : Int) b).fst.length / 64) : Int) ≤ 9223372036854775807) ∧
 (((↑p.k : Int) - (↑(p.u + (formJ p.gen (↑p.n : Int) b).fst.length / 64) : Int) == 3) = true → K (V.sb true) []) ∧ (((↑p.k : Int) - (↑(p.u + (formJ p.gen (↑p.n : Int) b).fst.length / 64) : Int) == 3) = false → K (V.sb false) []))))))
 ) : runSpec Try.prog XAw (noT 6) 6 [] [] K := by apply Eq.mp (a := hvc_); kernel_rfl
theorem vcForms (gen n : Int) (b : List Int)  (hvc_ :
 (decide ((↑(ints IntKind.u8 b).length : Int) > 1100) = true → true = true) ∧
 (decide ((↑(ints IntKind.u8 b).length : Int) > 1100) = false →
 ∃ (b_1 : List Int),
 ints IntKind.u8 b = ints IntKind.u8 b_1 ∧
 (∀ (c : Int), List.Mem c b_1 → 0 ≤ c ∧ c < 256) ∧
 b_1.length ≤ 800000 ∧
 ∃ (b_2 : List Int),
 ints IntKind.u8 b = ints IntKind.u8 b_2 ∧
 (∀ (c : Int), List.Mem c b_2 → 0 ≤ c ∧ c < 256) ∧
 b_2.length ≤ 800000 ∧
 (((formJ gen n b_1).snd == (formJ gen n b_2).snd) = true →
 ((formJ gen n b_1).fst.length ≤ (ints IntKind.u8 (formJ gen n b_1).fst).length ∧ (formJ gen n b_2).fst.length ≤ (ints IntKind.u8 (formJ gen n b_2).fst).length ∧ True) ∧
 ∃ (a : List Int), ∃ (b : List Int), List.drop 0 (List.take (formJ gen n b_1).fst.length (ints IntKind.u8 (formJ gen n b_1).fst)) = ints IntKind.u8 a ∧ List.drop 0 (List.take (formJ gen n b_2).fst.length (ints IntKind.u8 (formJ gen n b_2).fst)) = ints IntKind.u8 b ∧ a.length.le 1000000 ∧ True ∧ (decide (a = b) = true → true = true) ∧ (decide (a = b) = false → False)) ∧
 (((formJ gen n b_1).snd == (formJ gen n b_2).snd) = false → False))
 ) : XL [] 0 0 [] 3 [.int .i64 gen, .int .i64 n, .dat (.sl 1 (ints .u8 b))] [] KT := by apply Eq.mp (a := hvc_); kernel_rfl
theorem vcOther (l : List (List Int)) (ga gb : Int)  (hvc_ :
 (decide ((↑(List.map bsl l).length : Int) > 8) = true → true = true) ∧
 (decide ((↑(List.map bsl l).length : Int) > 8) = false →
 ((ga == gb) = true → true = true) ∧
 ((ga == gb) = false →
 ((NewI 40 → False) → False) ∧
 (NewI 40 →
 ∃ (x : List (List Int)),
 ∃ (f : Nat),
 ∃ (k : Nat),
 0 = (↑f : Int) ∧
 40 = (↑k : Int) ∧
 [(List.replicate 64 (D.val (Value.int IntKind.u8 0))),
 (List.replicate 64 (D.val (Value.int IntKind.u8 0))),
 (List.replicate 64 (D.val (Value.int IntKind.u8 0))),
 (List.replicate 64 (D.val (Value.int IntKind.u8 0))),
 (List.replicate 64 (D.val (Value.int IntKind.u8 0))),
 (List.replicate 64 (D.val (Value.int IntKind.u8 0))),
 (List.replicate 64 (D.val (Value.int IntKind.u8 0))),
 (List.replicate 64 (D.val (Value.int IntKind.u8 0))),
 (List.replicate 64 (D.val (Value.int IntKind.u8 0))),
 (List.replicate 64 (D.val (Value.int IntKind.u8 0))),
 (List.replicate 64 (D.val (Value.int IntKind.u8 0))),
 (List.replicate 64 (D.val (Value.int IntKind.u8 0))),
 (List.replicate 64 (D.val (Value.int IntKind.u8 0))),
 (List.replicate 64 (D.val (Value.int IntKind.u8 0))),
 (List.replicate 64 (D.val (Value.int IntKind.u8 0))),
 (List.replicate 64 (D.val (Value.int IntKind.u8 0))),
 (List.replicate 64 (D.val (Value.int IntKind.u8 0))),
 (List.replicate 64 (D.val (Value.int IntKind.u8 0))),
 (List.replicate 64 (D.val (Value.int IntKind.u8 0))),
 (List.replicate 64 (D.val (Value.int IntKind.u8 0))),
 (List.replicate 64 (D.val (Value.int IntKind.u8 0))),
 (List.replicate 64 (D.val (Value.int IntKind.u8 0))),
 (List.replicate 64 (D.val (Value.int IntKind.u8 0))),
 (List.replicate 64 (D.val (Value.int IntKind.u8 0))),
 (List.replicate 64 (D.val (Value.int IntKind.u8 0))),
 (List.replicate 64 (D.val (Value.int IntKind.u8 0))),
 (List.replicate 64 (D.val (Value.int IntKind.u8 0))),
 (List.replicate 64 (D.val (Value.int IntKind.u8 0))),
 (List.replicate 64 (D.val (Value.int IntKind.u8 0))),
 (List.replicate 64 (D.val (Value.int IntKind.u8 0))),
 (List.replicate 64 (D.val (Value.int IntKind.u8 0))),
 (List.replicate 64 (D.val (Value.int IntKind.u8 0))),
 (List.replicate 64 (D.val (Value.int IntKind.u8 0))),
 (List.replicate 64 (D.val (Value.int IntKind.u8 0))),
 (List.replicate 64 (D.val (Value.int IntKind.u8 0))),
 (List.replicate 64 (D.val (Value.int IntKind.u8 0))),
 (List.replicate 64 (D.val (Value.int IntKind.u8 0))),
 (List.replicate 64 (D.val (Value.int IntKind.u8 0))),
 (List.replicate 64 (D.val (Value.int IntKind.u8 0))),
 (List.replicate 64 (D.val (Value.int IntKind.u8 0)))] =
 secs x ∧
 40 = x.length ∧
 0 = 0 ∧
 Prt x f k ∧
 (∀ (b : List Int), List.Mem b x → ∀ (c : Int), List.Mem c b → 0 ≤ c ∧ c < 256) ∧
 NumJ (IntKind.i64.wrap ga) ∧
 OkD x [] ∧
 0 ≤ 50000 ∧
 ∀ (w' : List (List D)) (L : List (List Int)) (u : Nat),
 w' = [] ∨ w' = [] →
 scanJ (flJ x f k) (IntKind.i64.wrap ga) = (L, u) →
 u ≤ k →
 (false = true → False) ∧
 (false = false →
 At (otLI l ga gb)
 ([V.dat (D.sl 1 (List.map bsl l)), V.int IntKind.u8 ga, V.int IntKind.u8 gb, V.ptr 0 0, V.ptr 1 0, V.int IntKind.i64 0],
 [KO.cells [V.sl 2 0 x.length, V.sl 3 0 w'.length, V.int IntKind.i64 (-1), V.sb false], KO.cells [V.ptr 0 0, V.int IntKind.i64 (↑f : Int), V.int IntKind.i64 (↑k : Int), V.int IntKind.i64 (IntKind.i64.wrap ga), V.int IntKind.i64 (↑u : Int), V.int IntKind.i64 (↑L.length : Int), V.sl 4 0 0, V.sb false],
 KO.row 76 64 (secs (swX x (f + u) (k - u))), KO.row 78 129 w', KO.row 65 2 []]) ∧
 ∀ (i : { p : Ot // OtI l ga p.i p.x p.w p.g }),
 (decide ((↑i.val.i : Int) < (↑(List.map bsl l).length : Int)) = true →
 NonN (↑i.val.i : Int) ∧
 ∃ (e : List D),
 (List.map bsl l)[(↑i.val.i : Int).toNat]? = some e ∧
 ∃ (l_1 : List (List D)),
 e[0]? = some (D.sl 1 l_1) ∧
 (decide ((↑l_1.length : Int) > 200) = true → true = true) ∧
 (decide ((↑l_1.length : Int) > 200) = false →
 NonN (↑i.val.i : Int) ∧
 ∃ (e : List D),
 (List.map bsl l)[(↑i.val.i : Int).toNat]? = some e ∧
 ∃ (l_2 : List (List D)),
 e[0]? = some (D.sl 1 l_2) ∧
 ∃ (x : List (List Int)),
 ∃ (p : JP),
 ∃ (g : List Bg),
 ∃ (b : List Int),
 JIn 0 40 ga (↑(catN ga 0 (List.take i.val.i l)) : Int) (↑i.val.i : Int) i.val.g.length i.val.x.length i.val.w.length (List.map bgD i.val.g) (secs i.val.x) i.val.w x p g ∧
 l_2 = ints IntKind.u8 b ∧
 OkJ x p ∧
 OkD x i.val.w ∧
 i.val.w.length ≤ 50000 ∧
 g.length ≤ 50000 ∧
 (∀ (c : Int), List.Mem c b → 0 ≤ c ∧ c < 256) ∧
 b.length ≤ 800000 ∧
 ((formJ p.gen (↑p.n : Int) b).snd ≠ 0 →
 (((formJ p.gen (↑p.n : Int) b).snd != 0) = true → true = true) ∧
 (((formJ p.gen (↑p.n : Int) b).snd != 0) = false →
 Nx (otLI l ga gb) i
 ([V.dat (D.sl 1 (List.map bsl l)), V.int IntKind.u8 ga, V.int IntKind.u8 gb, V.ptr 0 0, V.ptr 1 0, V.int IntKind.i64 (IntKind.i64.wrap ((↑i.val.i : Int) + 1))],
 [KO.cells [V.sl 2 0 x.length, V.sl 3 0 i.val.w.length, V.int IntKind.i64 (-1), V.sb false],
 KO.cells [V.ptr 0 0, V.int IntKind.i64 (↑p.f : Int), V.int IntKind.i64 (↑p.k : Int), V.int IntKind.i64 p.gen, V.int IntKind.i64 (↑p.u : Int), V.int IntKind.i64 (↑p.n : Int), V.sl 4 0 g.length, V.sb false], KO.row 76 64 (secs x), KO.row 78 129 i.val.w,
 KO.row 65 2 (List.map bgD g)]))) ∧
 ((formJ p.gen (↑p.n : Int) b).snd = 0 →
 p.k < p.u + (formJ p.gen (↑p.n : Int) b).fst.length / 64 →
 (true = true → true = true) ∧
 (true = false →
 Nx (otLI l ga gb) i
 ([V.dat (D.sl 1 (List.map bsl l)), V.int IntKind.u8 ga, V.int IntKind.u8 gb, V.ptr 0 0, V.ptr 1 0, V.int IntKind.i64 (IntKind.i64.wrap ((↑i.val.i : Int) + 1))],
 [KO.cells [V.sl 2 0 x.length, V.sl 3 0 i.val.w.length, V.int IntKind.i64 (-1), V.sb false],
 KO.cells [V.ptr 0 0, V.int IntKind.i64 (↑p.f : Int), V.int IntKind.i64 (↑p.k : Int), V.int IntKind.i64 p.gen, V.int IntKind.i64 (↑p.u : Int), V.int IntKind.i64 (↑p.n : Int), V.sl 4 0 g.length, V.sb false], KO.row 76 64 (secs x), KO.row 78 129 i.val.w,
 KO.row 65 2 (List.map bgD g)]))) ∧
 ((formJ p.gen (↑p.n : Int) b).snd = 0 →
 p.u + (formJ p.gen (↑p.n : Int) b).fst.length / 64 ≤ p.k →
 ∀ (v : List (List D)),
 v.length ≤ i.val.w.length + 16 →
 Plain v.flatten →
 (false = true → true = true) ∧
 (false = false →
 Nx (otLI l ga gb) i
 ([V.dat (D.sl 1 (List.map bsl l)), V.int IntKind.u8 ga, V.int IntKind.u8 gb, V.ptr 0 0, V.ptr 1 0, V.int IntKind.i64 (IntKind.i64.wrap ((↑i.val.i : Int) + 1))],
 [KO.cells [V.sl 2 0 (putJ x (p.f + p.u) (0 :: (formJ p.gen (↑p.n : Int) b).fst.tail) ((formJ p.gen (↑p.n : Int) b).fst.length / 64)).length, V.sl 3 0 v.length, V.int IntKind.i64 (-1), V.sb false],
 KO.cells
 [V.ptr 0 0, V.int IntKind.i64 (↑p.f : Int), V.int IntKind.i64 (↑p.k : Int), V.int IntKind.i64 p.gen, V.int IntKind.i64 (↑(p.u + (formJ p.gen (↑p.n : Int) b).fst.length / 64) : Int), V.int IntKind.i64 (↑(p.n + 1) : Int),
 V.sl 4 0 (g ++ [((↑(p.f + p.u) : Int), List.take 64 (formJ p.gen (↑p.n : Int) b).fst)]).length, V.sb false],
 KO.row 76 64 (secs (putJ x (p.f + p.u) (0 :: (formJ p.gen (↑p.n : Int) b).fst.tail) ((formJ p.gen (↑p.n : Int) b).fst.length / 64))), KO.row 78 129 v, KO.row 65 2 (List.map bgD (g ++ [((↑(p.f + p.u) : Int), List.take 64 (formJ p.gen (↑p.n : Int) b).fst)]))]))))) ∧
 (decide ((↑i.val.i : Int) < (↑(List.map bsl l).length : Int)) = false →
 ∃ (x : List (List Int)),
 ∃ (p : JP),
 ∃ (g : List Bg),
 JIn 0 40 ga (↑(catN ga 0 (List.take i.val.i l)) : Int) (↑i.val.i : Int) i.val.g.length i.val.x.length i.val.w.length (List.map bgD i.val.g) (secs i.val.x) i.val.w x p g ∧
 Sec64 x ∧
 BgOk x g ∧
 (false = true → False) ∧
 (false = false →
 ∃ (x_1 : List (List Int)),
 ∃ (f : Nat),
 ∃ (k : Nat),
 0 = (↑f : Int) ∧
 40 = (↑k : Int) ∧
 secs (flsJ x g) = secs x_1 ∧
 (flsJ x g).length = x_1.length ∧
 0 = 0 ∧
 Prt x_1 f k ∧
 (∀ (b : List Int), List.Mem b x_1 → ∀ (c : Int), List.Mem c b → 0 ≤ c ∧ c < 256) ∧
 NumJ (IntKind.i64.wrap gb) ∧
 ∃ (x : List (List Int)),
 ∃ (f_1 : Nat),
 ∃ (k_1 : Nat),
 0 = (↑f_1 : Int) ∧
 40 = (↑k_1 : Int) ∧
 secs x_1 = secs x ∧
 x_1.length = x.length ∧
 0 = 0 ∧
 Prt x f_1 k_1 ∧
 (∀ (b : List Int), List.Mem b x → ∀ (c : Int), List.Mem c b → 0 ≤ c ∧ c < 256) ∧
 NumJ (IntKind.i64.wrap ga) ∧
 (true = true →
 (true = true →
 (((↑((scanJ (flJ x_1 f k) (IntKind.i64.wrap gb)).fst.length - 0) : Int) == 0) = true →
 (((↑(scanJ (flJ x_1 f k) (IntKind.i64.wrap gb)).snd : Int) == 0) = true →
 ((scanJ (flJ x f_1 k_1) (IntKind.i64.wrap ga)).fst.length ≤ (List.map bsl (scanJ (flJ x f_1 k_1) (IntKind.i64.wrap ga)).fst).length ∧ True ∧ True) ∧
 ∃ (a : List (List Int)),
 ∃ (b : List (List Int)),
 List.drop 0 (List.take (scanJ (flJ x f_1 k_1) (IntKind.i64.wrap ga)).fst.length (List.map bsl (scanJ (flJ x f_1 k_1) (IntKind.i64.wrap ga)).fst)) = List.map bsl a ∧
 List.map bsl l = List.map bsl b ∧
 a.length ≤ 100000 ∧
 (∀ (x : List Int), List.Mem x a → x.length ≤ 1000000) ∧
 True ∧
 (decide (a = b) = true →
 (-9223372036854775808 ≤ (↑p.k : Int) - (↑p.u : Int) ∧ (↑p.k : Int) - (↑p.u : Int) ≤ 9223372036854775807) ∧
 (((↑(scanJ (flJ x f_1 k_1) (IntKind.i64.wrap ga)).snd : Int) == IntKind.i64.wrap (40 - ((↑p.k : Int) - (↑p.u : Int)))) = true → true = true) ∧
 (((↑(scanJ (flJ x f_1 k_1) (IntKind.i64.wrap ga)).snd : Int) == IntKind.i64.wrap (40 - ((↑p.k : Int) - (↑p.u : Int)))) = false → False)) ∧
 (decide (a = b) = false → False)) ∧
 (((↑(scanJ (flJ x_1 f k) (IntKind.i64.wrap gb)).snd : Int) == 0) = false → False)) ∧
 (((↑((scanJ (flJ x_1 f k) (IntKind.i64.wrap gb)).fst.length - 0) : Int) == 0) = false → False)) ∧
 (true = false → False)) ∧
 (true = false → False)))))))
 ) : XL l ga gb [] 4 [.dat (.sl 1 (l.map bsl)), .int .u8 ga, .int .u8 gb] [] KT := by apply Eq.mp (a := hvc_); kernel_rfl
theorem vcRoom (l : List Int)  (hvc_ :
 (decide ((↑(ints IntKind.u16 l).length : Int) > 20) = true → true = true) ∧
 (decide ((↑(ints IntKind.u16 l).length : Int) > 20) = false →
 ((NewI 30 → False) → False) ∧
 (NewI 30 →
 ∃ (x : List (List Int)),
 ∃ (f : Nat),
 ∃ (k : Nat),
 0 = (↑f : Int) ∧
 30 = (↑k : Int) ∧
 [(List.replicate 64 (D.val (Value.int IntKind.u8 0))),
 (List.replicate 64 (D.val (Value.int IntKind.u8 0))),
 (List.replicate 64 (D.val (Value.int IntKind.u8 0))),
 (List.replicate 64 (D.val (Value.int IntKind.u8 0))),
 (List.replicate 64 (D.val (Value.int IntKind.u8 0))),
 (List.replicate 64 (D.val (Value.int IntKind.u8 0))),
 (List.replicate 64 (D.val (Value.int IntKind.u8 0))),
 (List.replicate 64 (D.val (Value.int IntKind.u8 0))),
 (List.replicate 64 (D.val (Value.int IntKind.u8 0))),
 (List.replicate 64 (D.val (Value.int IntKind.u8 0))),
 (List.replicate 64 (D.val (Value.int IntKind.u8 0))),
 (List.replicate 64 (D.val (Value.int IntKind.u8 0))),
 (List.replicate 64 (D.val (Value.int IntKind.u8 0))),
 (List.replicate 64 (D.val (Value.int IntKind.u8 0))),
 (List.replicate 64 (D.val (Value.int IntKind.u8 0))),
 (List.replicate 64 (D.val (Value.int IntKind.u8 0))),
 (List.replicate 64 (D.val (Value.int IntKind.u8 0))),
 (List.replicate 64 (D.val (Value.int IntKind.u8 0))),
 (List.replicate 64 (D.val (Value.int IntKind.u8 0))),
 (List.replicate 64 (D.val (Value.int IntKind.u8 0))),
 (List.replicate 64 (D.val (Value.int IntKind.u8 0))),
 (List.replicate 64 (D.val (Value.int IntKind.u8 0))),
 (List.replicate 64 (D.val (Value.int IntKind.u8 0))),
 (List.replicate 64 (D.val (Value.int IntKind.u8 0))),
 (List.replicate 64 (D.val (Value.int IntKind.u8 0))),
 (List.replicate 64 (D.val (Value.int IntKind.u8 0))),
 (List.replicate 64 (D.val (Value.int IntKind.u8 0))),
 (List.replicate 64 (D.val (Value.int IntKind.u8 0))),
 (List.replicate 64 (D.val (Value.int IntKind.u8 0))),
 (List.replicate 64 (D.val (Value.int IntKind.u8 0)))] =
 secs x ∧
 30 = x.length ∧
 0 = 0 ∧
 Prt x f k ∧
 (∀ (b : List Int), List.Mem b x → ∀ (c : Int), List.Mem c b → 0 ≤ c ∧ c < 256) ∧
 NumJ 7 ∧
 OkD x [] ∧
 0 ≤ 50000 ∧
 ∀ (w' : List (List D)) (L : List (List Int)) (u : Nat),
 w' = [] ∨ w' = [] →
 scanJ (flJ x f k) 7 = (L, u) →
 u ≤ k →
 (false = true → False) ∧
 (false = false →
 At (roLI l)
 ([V.dat (D.sl 1 (ints IntKind.u16 l)), V.ptr 0 0, V.ptr 1 0, V.int IntKind.i64 0, V.int IntKind.i64 0],
 [KO.cells [V.sl 2 0 x.length, V.sl 3 0 w'.length, V.int IntKind.i64 (-1), V.sb false], KO.cells [V.ptr 0 0, V.int IntKind.i64 (↑f : Int), V.int IntKind.i64 (↑k : Int), V.int IntKind.i64 7, V.int IntKind.i64 (↑u : Int), V.int IntKind.i64 (↑L.length : Int), V.sl 4 0 0, V.sb false], KO.row 76 64 (secs (swX x (f + u) (k - u))), KO.row 78 129 w',
 KO.row 65 2 []]) ∧
 ∀ (i : { p : Ro // RoI l p.i p.ts p.x p.w p.g }),
 (decide ((↑i.val.i : Int) < (↑(ints IntKind.u16 l).length : Int)) = true →
 NonN (↑i.val.i : Int) ∧
 ∃ (e : List D),
 (ints IntKind.u16 l)[(↑i.val.i : Int).toNat]? = some e ∧
 ∃ (n : Int),
 e[0]? = some (D.val (Value.int IntKind.u16 n)) ∧
 NonN ((IntKind.i64.wrap n).tmod 500) ∧
 Room ((IntKind.i64.wrap n).tmod 500) ((IntKind.i64.wrap n).tmod 500) 1 ∧
 (((IntKind.i64.wrap n).tmod 500).toNat ≤ (List.replicate ((IntKind.i64.wrap n).tmod 500).toNat [D.val (Value.int IntKind.u8 0)]).length ∧ True) ∧
 ∃ (b : List Int),
 List.drop 0 (List.take ((IntKind.i64.wrap n).tmod 500).toNat (List.replicate ((IntKind.i64.wrap n).tmod 500).toNat [D.val (Value.int IntKind.u8 0)])) = ints IntKind.u8 b ∧
 (∀ (c : Int), List.Mem c b → 0 ≤ c ∧ c < 256) ∧
 b.length ≤ 800000 ∧
 PlainS (ints IntKind.u8 (formJ 7 (↑i.val.ts.length : Int) b).fst).flatten ∧
 (-9223372036854775808 ≤ 30 - (↑(catN 7 0 i.val.ts) : Int) ∧ 30 - (↑(catN 7 0 i.val.ts) : Int) ≤ 9223372036854775807) ∧
 (((IntKind.i64.wrap n).tmod 500).toNat ≤ (List.replicate ((IntKind.i64.wrap n).tmod 500).toNat [D.val (Value.int IntKind.u8 0)]).length ∧
 ∃ (x : List (List Int)),
 ∃ (p : JP),
 ∃ (g : List Bg),
 ∃ (b_1 : List Int),
 JIn 0 30 7 (↑(catN 7 0 i.val.ts) : Int) (↑i.val.ts.length : Int) i.val.g.length i.val.x.length i.val.w.length (List.map bgD i.val.g) (secs i.val.x) i.val.w x p g ∧
 List.drop 0 (List.take ((IntKind.i64.wrap n).tmod 500).toNat (List.replicate ((IntKind.i64.wrap n).tmod 500).toNat [D.val (Value.int IntKind.u8 0)])) = ints IntKind.u8 b_1 ∧
 OkJ x p ∧
 OkD x i.val.w ∧
 i.val.w.length ≤ 50000 ∧
 g.length ≤ 50000 ∧
 (∀ (c : Int), List.Mem c b_1 → 0 ≤ c ∧ c < 256) ∧
 b_1.length ≤ 800000 ∧
 ((formJ p.gen (↑p.n : Int) b_1).snd ≠ 0 →
 At (roC l i.val.i)
 ([V.dat (D.sl 1 (ints IntKind.u16 l)), V.ptr 0 0, V.ptr 1 0, V.int IntKind.i64 (↑i.val.ts.length : Int), V.int IntKind.i64 (↑i.val.i : Int), V.sl 2 0 (formJ 7 (↑i.val.ts.length : Int) b).fst.length, V.int IntKind.i64 (formJ 7 (↑i.val.ts.length : Int) b).snd,
 V.int IntKind.i64 (30 - (↑(catN 7 0 i.val.ts) : Int)), V.int IntKind.i64 (formJ p.gen (↑p.n : Int) b_1).snd],
 [KO.cells [V.sl 3 0 x.length, V.sl 4 0 i.val.w.length, V.int IntKind.i64 (-1), V.sb false],
 KO.cells [V.ptr 0 0, V.int IntKind.i64 (↑p.f : Int), V.int IntKind.i64 (↑p.k : Int), V.int IntKind.i64 p.gen, V.int IntKind.i64 (↑p.u : Int), V.int IntKind.i64 (↑p.n : Int), V.sl 5 0 g.length, V.sb false], KO.row 5 1 (ints IntKind.u8 (formJ 7 (↑i.val.ts.length : Int) b).fst),
 KO.row 76 64 (secs x), KO.row 78 129 i.val.w, KO.row 65 2 (List.map bgD g)])) ∧
 ((formJ p.gen (↑p.n : Int) b_1).snd = 0 →
 p.k < p.u + (formJ p.gen (↑p.n : Int) b_1).fst.length / 64 →
 At (roC l i.val.i)
 ([V.dat (D.sl 1 (ints IntKind.u16 l)), V.ptr 0 0, V.ptr 1 0, V.int IntKind.i64 (↑i.val.ts.length : Int), V.int IntKind.i64 (↑i.val.i : Int), V.sl 2 0 (formJ 7 (↑i.val.ts.length : Int) b).fst.length, V.int IntKind.i64 (formJ 7 (↑i.val.ts.length : Int) b).snd,
 V.int IntKind.i64 (30 - (↑(catN 7 0 i.val.ts) : Int)), V.int IntKind.i64 6],
 [KO.cells [V.sl 3 0 x.length, V.sl 4 0 i.val.w.length, V.int IntKind.i64 (-1), V.sb false],
 KO.cells [V.ptr 0 0, V.int IntKind.i64 (↑p.f : Int), V.int IntKind.i64 (↑p.k : Int), V.int IntKind.i64 p.gen, V.int IntKind.i64 (↑p.u : Int), V.int IntKind.i64 (↑p.n : Int), V.sl 5 0 g.length, V.sb false], KO.row 5 1 (ints IntKind.u8 (formJ 7 (↑i.val.ts.length : Int) b).fst),
 KO.row 76 64 (secs x), KO.row 78 129 i.val.w, KO.row 65 2 (List.map bgD g)])) ∧
 ((formJ p.gen (↑p.n : Int) b_1).snd = 0 →
 p.u + (formJ p.gen (↑p.n : Int) b_1).fst.length / 64 ≤ p.k →
 ∀ (v : List (List D)),
 v.length ≤ i.val.w.length + 16 →
 Plain v.flatten →
 At (roC l i.val.i)
 ([V.dat (D.sl 1 (ints IntKind.u16 l)), V.ptr 0 0, V.ptr 1 0, V.int IntKind.i64 (↑i.val.ts.length : Int), V.int IntKind.i64 (↑i.val.i : Int), V.sl 2 0 (formJ 7 (↑i.val.ts.length : Int) b).fst.length, V.int IntKind.i64 (formJ 7 (↑i.val.ts.length : Int) b).snd,
 V.int IntKind.i64 (30 - (↑(catN 7 0 i.val.ts) : Int)), V.int IntKind.i64 0],
 [KO.cells [V.sl 3 0 (putJ x (p.f + p.u) (0 :: (formJ p.gen (↑p.n : Int) b_1).fst.tail) ((formJ p.gen (↑p.n : Int) b_1).fst.length / 64)).length, V.sl 4 0 v.length, V.int IntKind.i64 (-1), V.sb false],
 KO.cells
 [V.ptr 0 0, V.int IntKind.i64 (↑p.f : Int), V.int IntKind.i64 (↑p.k : Int), V.int IntKind.i64 p.gen, V.int IntKind.i64 (↑(p.u + (formJ p.gen (↑p.n : Int) b_1).fst.length / 64) : Int), V.int IntKind.i64 (↑(p.n + 1) : Int),
 V.sl 5 0 (g ++ [((↑(p.f + p.u) : Int), List.take 64 (formJ p.gen (↑p.n : Int) b_1).fst)]).length, V.sb false],
 KO.row 5 1 (ints IntKind.u8 (formJ 7 (↑i.val.ts.length : Int) b).fst), KO.row 76 64 (secs (putJ x (p.f + p.u) (0 :: (formJ p.gen (↑p.n : Int) b_1).fst.tail) ((formJ p.gen (↑p.n : Int) b_1).fst.length / 64))), KO.row 78 129 v,
 KO.row 65 2 (List.map bgD (g ++ [((↑(p.f + p.u) : Int), List.take 64 (formJ p.gen (↑p.n : Int) b_1).fst)]))]))) ∧
 ∀ (i_1 : { q : Rc // RcI l i.val.i q }),
 (false = true → False) ∧
 (false = false →
 ((!(i_1.val.h == 0) == decide (IntKind.i64.wrap ((↑(i_1.val.F.length - 0) : Int).tdiv 64) ≤ 30 - (↑i_1.val.u0 : Int))) = true → False) ∧
 ((!(i_1.val.h == 0) == decide (IntKind.i64.wrap ((↑(i_1.val.F.length - 0) : Int).tdiv 64) ≤ 30 - (↑i_1.val.u0 : Int))) = false →
 ((i_1.val.h == 0) = true →
 (-9223372036854775808 ≤ 30 - (↑(catN 7 0 i_1.val.ts) : Int) ∧ 30 - (↑(catN 7 0 i_1.val.ts) : Int) ≤ 9223372036854775807) ∧
 ((30 - (↑(catN 7 0 i_1.val.ts) : Int) != IntKind.i64.wrap (30 - (↑i_1.val.u0 : Int) - IntKind.i64.wrap ((↑(i_1.val.F.length - 0) : Int).tdiv 64))) = true → False) ∧
 ((30 - (↑(catN 7 0 i_1.val.ts) : Int) != IntKind.i64.wrap (30 - (↑i_1.val.u0 : Int) - IntKind.i64.wrap ((↑(i_1.val.F.length - 0) : Int).tdiv 64))) = false →
 ((i_1.val.h != 0) = true →
 ((i_1.val.h != 6) = true → False) ∧
 ((i_1.val.h != 6) = false →
 (-9223372036854775808 ≤ 30 - (↑(catN 7 0 i_1.val.ts) : Int) ∧ 30 - (↑(catN 7 0 i_1.val.ts) : Int) ≤ 9223372036854775807) ∧
 ((30 - (↑(catN 7 0 i_1.val.ts) : Int) != 30 - (↑i_1.val.u0 : Int)) = true → False) ∧
 ((30 - (↑(catN 7 0 i_1.val.ts) : Int) != 30 - (↑i_1.val.u0 : Int)) = false →
 ((i_1.val.h == 0) = true →
 Nx (roLI l) i
 ([V.dat (D.sl 1 (ints IntKind.u16 l)), V.ptr 0 0, V.ptr 1 0, V.int IntKind.i64 (IntKind.i64.wrap ((↑i_1.val.n0 : Int) + 1)), V.int IntKind.i64 (IntKind.i64.wrap ((↑i.val.i : Int) + 1))],
 [KO.cells [V.sl 2 0 i_1.val.x.length, V.sl 3 0 i_1.val.w.length, V.int IntKind.i64 (-1), V.sb false],
 KO.cells [V.ptr 0 0, V.int IntKind.i64 0, V.int IntKind.i64 30, V.int IntKind.i64 7, V.int IntKind.i64 (↑(catN 7 0 i_1.val.ts) : Int), V.int IntKind.i64 (↑i_1.val.ts.length : Int), V.sl 4 0 i_1.val.g.length, V.sb false], KO.row 76 64 (secs i_1.val.x),
 KO.row 78 129 i_1.val.w, KO.row 65 2 (List.map bgD i_1.val.g)])) ∧
 ((i_1.val.h == 0) = false →
 Nx (roLI l) i
 ([V.dat (D.sl 1 (ints IntKind.u16 l)), V.ptr 0 0, V.ptr 1 0, V.int IntKind.i64 (↑i_1.val.n0 : Int), V.int IntKind.i64 (IntKind.i64.wrap ((↑i.val.i : Int) + 1))],
 [KO.cells [V.sl 2 0 i_1.val.x.length, V.sl 3 0 i_1.val.w.length, V.int IntKind.i64 (-1), V.sb false],
 KO.cells [V.ptr 0 0, V.int IntKind.i64 0, V.int IntKind.i64 30, V.int IntKind.i64 7, V.int IntKind.i64 (↑(catN 7 0 i_1.val.ts) : Int), V.int IntKind.i64 (↑i_1.val.ts.length : Int), V.sl 4 0 i_1.val.g.length, V.sb false], KO.row 76 64 (secs i_1.val.x),
 KO.row 78 129 i_1.val.w, KO.row 65 2 (List.map bgD i_1.val.g)]))))) ∧
 ((i_1.val.h != 0) = false →
 ((i_1.val.h == 0) = true →
 Nx (roLI l) i
 ([V.dat (D.sl 1 (ints IntKind.u16 l)), V.ptr 0 0, V.ptr 1 0, V.int IntKind.i64 (IntKind.i64.wrap ((↑i_1.val.n0 : Int) + 1)), V.int IntKind.i64 (IntKind.i64.wrap ((↑i.val.i : Int) + 1))],
 [KO.cells [V.sl 2 0 i_1.val.x.length, V.sl 3 0 i_1.val.w.length, V.int IntKind.i64 (-1), V.sb false],
 KO.cells [V.ptr 0 0, V.int IntKind.i64 0, V.int IntKind.i64 30, V.int IntKind.i64 7, V.int IntKind.i64 (↑(catN 7 0 i_1.val.ts) : Int), V.int IntKind.i64 (↑i_1.val.ts.length : Int), V.sl 4 0 i_1.val.g.length, V.sb false], KO.row 76 64 (secs i_1.val.x), KO.row 78 129 i_1.val.w,
 KO.row 65 2 (List.map bgD i_1.val.g)])) ∧
 ((i_1.val.h == 0) = false →
 Nx (roLI l) i
 ([V.dat (D.sl 1 (ints IntKind.u16 l)), V.ptr 0 0, V.ptr 1 0, V.int IntKind.i64 (↑i_1.val.n0 : Int), V.int IntKind.i64 (IntKind.i64.wrap ((↑i.val.i : Int) + 1))],
 [KO.cells [V.sl 2 0 i_1.val.x.length, V.sl 3 0 i_1.val.w.length, V.int IntKind.i64 (-1), V.sb false],
 KO.cells [V.ptr 0 0, V.int IntKind.i64 0, V.int IntKind.i64 30, V.int IntKind.i64 7, V.int IntKind.i64 (↑(catN 7 0 i_1.val.ts) : Int), V.int IntKind.i64 (↑i_1.val.ts.length : Int), V.sl 4 0 i_1.val.g.length, V.sb false], KO.row 76 64 (secs i_1.val.x), KO.row 78 129 i_1.val.w,
 KO.row 65 2 (List.map bgD i_1.val.g)]))))) ∧
 ((i_1.val.h == 0) = false →
 ((i_1.val.h != 0) = true →
 ((i_1.val.h != 6) = true → False) ∧
 ((i_1.val.h != 6) = false →
 (-9223372036854775808 ≤ 30 - (↑(catN 7 0 i_1.val.ts) : Int) ∧ 30 - (↑(catN 7 0 i_1.val.ts) : Int) ≤ 9223372036854775807) ∧
 ((30 - (↑(catN 7 0 i_1.val.ts) : Int) != 30 - (↑i_1.val.u0 : Int)) = true → False) ∧
 ((30 - (↑(catN 7 0 i_1.val.ts) : Int) != 30 - (↑i_1.val.u0 : Int)) = false →
 ((i_1.val.h == 0) = true →
 Nx (roLI l) i
 ([V.dat (D.sl 1 (ints IntKind.u16 l)), V.ptr 0 0, V.ptr 1 0, V.int IntKind.i64 (IntKind.i64.wrap ((↑i_1.val.n0 : Int) + 1)), V.int IntKind.i64 (IntKind.i64.wrap ((↑i.val.i : Int) + 1))],
 [KO.cells [V.sl 2 0 i_1.val.x.length, V.sl 3 0 i_1.val.w.length, V.int IntKind.i64 (-1), V.sb false],
 KO.cells [V.ptr 0 0, V.int IntKind.i64 0, V.int IntKind.i64 30, V.int IntKind.i64 7, V.int IntKind.i64 (↑(catN 7 0 i_1.val.ts) : Int), V.int IntKind.i64 (↑i_1.val.ts.length : Int), V.sl 4 0 i_1.val.g.length, V.sb false], KO.row 76 64 (secs i_1.val.x), KO.row 78 129 i_1.val.w,
 KO.row 65 2 (List.map bgD i_1.val.g)])) ∧
 ((i_1.val.h == 0) = false →
 Nx (roLI l) i
 ([V.dat (D.sl 1 (ints IntKind.u16 l)), V.ptr 0 0, V.ptr 1 0, V.int IntKind.i64 (↑i_1.val.n0 : Int), V.int IntKind.i64 (IntKind.i64.wrap ((↑i.val.i : Int) + 1))],
 [KO.cells [V.sl 2 0 i_1.val.x.length, V.sl 3 0 i_1.val.w.length, V.int IntKind.i64 (-1), V.sb false],
 KO.cells [V.ptr 0 0, V.int IntKind.i64 0, V.int IntKind.i64 30, V.int IntKind.i64 7, V.int IntKind.i64 (↑(catN 7 0 i_1.val.ts) : Int), V.int IntKind.i64 (↑i_1.val.ts.length : Int), V.sl 4 0 i_1.val.g.length, V.sb false], KO.row 76 64 (secs i_1.val.x), KO.row 78 129 i_1.val.w,
 KO.row 65 2 (List.map bgD i_1.val.g)]))))) ∧
 ((i_1.val.h != 0) = false →
 ((i_1.val.h == 0) = true →
 Nx (roLI l) i
 ([V.dat (D.sl 1 (ints IntKind.u16 l)), V.ptr 0 0, V.ptr 1 0, V.int IntKind.i64 (IntKind.i64.wrap ((↑i_1.val.n0 : Int) + 1)), V.int IntKind.i64 (IntKind.i64.wrap ((↑i.val.i : Int) + 1))],
 [KO.cells [V.sl 2 0 i_1.val.x.length, V.sl 3 0 i_1.val.w.length, V.int IntKind.i64 (-1), V.sb false],
 KO.cells [V.ptr 0 0, V.int IntKind.i64 0, V.int IntKind.i64 30, V.int IntKind.i64 7, V.int IntKind.i64 (↑(catN 7 0 i_1.val.ts) : Int), V.int IntKind.i64 (↑i_1.val.ts.length : Int), V.sl 4 0 i_1.val.g.length, V.sb false], KO.row 76 64 (secs i_1.val.x), KO.row 78 129 i_1.val.w,
 KO.row 65 2 (List.map bgD i_1.val.g)])) ∧
 ((i_1.val.h == 0) = false →
 Nx (roLI l) i
 ([V.dat (D.sl 1 (ints IntKind.u16 l)), V.ptr 0 0, V.ptr 1 0, V.int IntKind.i64 (↑i_1.val.n0 : Int), V.int IntKind.i64 (IntKind.i64.wrap ((↑i.val.i : Int) + 1))],
 [KO.cells [V.sl 2 0 i_1.val.x.length, V.sl 3 0 i_1.val.w.length, V.int IntKind.i64 (-1), V.sb false],
 KO.cells [V.ptr 0 0, V.int IntKind.i64 0, V.int IntKind.i64 30, V.int IntKind.i64 7, V.int IntKind.i64 (↑(catN 7 0 i_1.val.ts) : Int), V.int IntKind.i64 (↑i_1.val.ts.length : Int), V.sl 4 0 i_1.val.g.length, V.sb false], KO.row 76 64 (secs i_1.val.x), KO.row 78 129 i_1.val.w,
 KO.row 65 2 (List.map bgD i_1.val.g)]))))))) ∧
 (decide ((↑i.val.i : Int) < (↑(ints IntKind.u16 l).length : Int)) = false →
 ∃ (x : List (List Int)),
 ∃ (p : JP),
 ∃ (g : List Bg),
 JIn 0 30 7 (↑(catN 7 0 i.val.ts) : Int) (↑i.val.ts.length : Int) i.val.g.length i.val.x.length i.val.w.length (List.map bgD i.val.g) (secs i.val.x) i.val.w x p g ∧
 Sec64 x ∧
 BgOk x g ∧
 (false = true → False) ∧
 (false = false →
 ∃ (x_1 : List (List Int)),
 ∃ (f : Nat),
 ∃ (k : Nat),
 0 = (↑f : Int) ∧
 30 = (↑k : Int) ∧
 secs (flsJ x g) = secs x_1 ∧
 (flsJ x g).length = x_1.length ∧
 0 = 0 ∧
 Prt x_1 f k ∧
 (∀ (b : List Int), List.Mem b x_1 → ∀ (c : Int), List.Mem c b → 0 ≤ c ∧ c < 256) ∧
 NumJ 7 ∧
 (true = true →
 (((↑((scanJ (flJ x_1 f k) 7).fst.length - 0) : Int) == (↑i.val.ts.length : Int)) = true →
 (-9223372036854775808 ≤ (↑p.k : Int) - (↑p.u : Int) ∧ (↑p.k : Int) - (↑p.u : Int) ≤ 9223372036854775807) ∧
 (((↑(scanJ (flJ x_1 f k) 7).snd : Int) == IntKind.i64.wrap (30 - ((↑p.k : Int) - (↑p.u : Int)))) = true → true = true) ∧ (((↑(scanJ (flJ x_1 f k) 7).snd : Int) == IntKind.i64.wrap (30 - ((↑p.k : Int) - (↑p.u : Int)))) = false → False)) ∧
 (((↑((scanJ (flJ x_1 f k) 7).fst.length - 0) : Int) == (↑i.val.ts.length : Int)) = false → False)) ∧
 (true = false → False))))))
 ) : XL [] 0 0 l 5 [.dat (.sl 1 (ints .u16 l))] [] KT := by apply Eq.mp (a := hvc_); kernel_rfl
theorem awS_ok : AllOk Try.prog awS := fun f k h => by
  unfold awS at h
  split at h <;> first | (cases h; first | exact okNewD | exact okJOpen | exact okScanJ | exact okJAdd | exact okJFlush | exact okJRoom | exact okJForm | exact okRForm | exact okSameAll | exact okSame) | cases h
theorem XAw_ok : CallOk Try.prog XAw := callS_ok mixed awS_ok noT 10
theorem small_form {gen n : Int} {b : List Int} (hg : NumJ gen) (hn : NumJ n) (hb : b.length ≤ 900) : (formJ gen n b).2 = 0 := by
  unfold formJ
  rw [if_neg (by rintro (q | q); exact q hg; exact q hn), if_neg ?_]
  have h1 := bodyJ_len gen n b
  have h2 := bodyJ_le gen n b
  unfold szJ; omega
theorem zer_sec {n : Nat} (h : n ≤ 4096) : Sec64 (zer n) := ⟨by rw [zer_len]; exact h, fun b hb => by unfold zer at hb; rw [List.eq_of_mem_replicate hb, List.length_replicate]⟩
theorem zer_prt {n : Nat} (h : n ≤ 4096) : Prt (zer n) 0 n := ⟨zer_sec h, by rw [zer_len]; omega⟩
theorem zer_byt {n : Nat} : ∀ b ∈ zer n, Byt b := fun b hb c hc => by
  unfold zer at hb; rw [List.eq_of_mem_replicate hb] at hc; rw [List.eq_of_mem_replicate hc]; omega
theorem zer_okd {n : Nat} (h : n ≤ 4096) : OkD (zer n) [] := ⟨zer_sec h, by simp, fun d hd => (by cases hd)⟩
theorem zer_scan {n : Nat} {gen : Int} : scanJ (flJ (zer n) 0 n) gen = ([], 0) := by
  have := (lay_nil [] [] n gen).scan
  rw [List.append_nil] at this
  exact this
theorem zer_sw {n : Nat} : swX (zer n) 0 n = zer n := by
  unfold swX
  rw [List.take_zero, List.nil_append, Nat.zero_add, List.drop_eq_nil_of_le (by rw [zer_len]; exact Nat.le_refl _), List.append_nil]
theorem okAwake : SpecOk Try.prog 6 Sawake := specOk_of' XAw_ok mixed (fun args kb K h => by
  unfold Sawake at h; split at h <;> try exact h.elim
  refine ⟨noT _, vcAwake K ⟨fun q => (q ⟨by omega, by omega⟩).elim, fun _ => ⟨zer 4, 0, 4, rfl, rfl, rfl, by rw [zer_len], rfl, zer_prt (by omega), zer_byt, ⟨by omega, by omega⟩, zer_okd (by omega), by omega, fun w' L u hw' hs hu => ?_⟩⟩⟩
  have hw' : w' = [] := by rcases hw' with q | q <;> exact q
  subst hw'
  rw [zer_scan] at hs
  cases hs
  rw [Nat.add_zero, Nat.sub_zero, zer_sw]
  refine ⟨fun q => (by cases q), fun _ => ⟨fun q => (by cases q), fun _ => ⟨Nat.le_refl _, zer 4, ⟨0, 4, 1, 0, 0⟩, [], [1, 2, 3], ⟨rfl, rfl, rfl, rfl, rfl, rfl, rfl, rfl, rfl, rfl⟩, rfl, ⟨zer_prt (by omega), Nat.zero_le _, ⟨by simp only; omega, by simp only; omega⟩, Nat.zero_le _⟩, zer_okd (by omega), by simp, by simp, fun c hc => ?_, by simp, fun q => ?_, fun q1 q2 => ?_, fun q1 q2 v hv1 hv2 => ⟨fun q => (by cases q), fun _ => ⟨?_, fun _ => h, fun q => ?_⟩⟩⟩⟩⟩
  · have hc : c = 1 ∨ c = 2 ∨ c = 3 := by simpa using (show c ∈ [1, 2, 3] from hc)
    omega
  · exact absurd (small_form ⟨by simp only; omega, by simp only; omega⟩ ⟨by simp only; omega, by simp only; omega⟩ (by simp)) q
  · have hs := (formJ_sz q1).1
    rw [hs] at q2
    have h1 := bodyJ_len 1 ((0 : Nat) : Int) [1, 2, 3]
    have h2 := bodyJ_le 1 ((0 : Nat) : Int) [1, 2, 3]
    simp only [List.length_cons, List.length_nil] at h2
    unfold szJ at q2
    dsimp only at q2
    omega
  · have hs := (formJ_sz q1).1
    dsimp only at hs q2 ⊢
    omega
  · have hs := (formJ_sz q1).1
    have h1 := bodyJ_len 1 ((0 : Nat) : Int) [1, 2, 3]
    have h2 := bodyJ_le 1 ((0 : Nat) : Int) [1, 2, 3]
    simp only [List.length_cons, List.length_nil] at h2
    have h3 : szJ (bodyJ 1 ((0 : Nat) : Int) [1, 2, 3]) = 1 := by unfold szJ; omega
    dsimp only at hs q
    rw [hs, h3] at q
    exact absurd q (by decide))
theorem lawS_ok : AllOk Try.prog lawS := fun f k h => by
  unfold lawS at h
  split at h
  · cases h; exact okAwake
  · exact awS_ok _ _ h
theorem XL_ok (l : List (List Int)) (ga gb : Int) (r : List Int) : CallOk Try.prog (XL l ga gb r) := callS_ok mixed lawS_ok _ 10
theorem lawForms (gen n : Int) (b : List Int) (hb : Byt b) : XL [] 0 0 [] 3 [.int .i64 gen, .int .i64 n, .dat (.sl 1 (ints .u8 b))] [] KT := by
  refine vcForms gen n b ⟨fun _ => rfl, fun h0 => ⟨b, rfl, hb, ?_, b, rfl, hb, ?_, fun _ => ⟨⟨by rw [ints_len]; exact Nat.le_refl _, by rw [ints_len]; exact Nat.le_refl _, trivial⟩, (formJ gen n b).1, (formJ gen n b).1, dropTake, dropTake, ?_, trivial, fun _ => rfl, fun q => ?_⟩, fun q => ?_⟩⟩
  all_goals (try simp only [ints_len, decide_eq_false_iff_not] at h0)
  · omega
  · omega
  · by_cases h : (formJ gen n b).2 = 0
    · have := (formJ_sz h).2.1
      have := (formJ_some h).2.2.1
      exact Nat.le_eq ▸ (show (formJ gen n b).1.length ≤ 1000000 by omega)
    · have : (formJ gen n b).1 = [] := by
        unfold formJ at h ⊢
        split
        · rfl
        · split
          · rfl
          · rename_i h1 h2; rw [if_neg h1, if_neg h2] at h; exact absurd rfl h
      rw [this]; exact Nat.zero_le _
  · simp at q
  · simp at q
theorem recOk_mem {gen : Int} {b : List Int} : ∀ {n : Nat} {ts : List (List Int)}, RecOk gen n ts → b ∈ ts → ∃ m : Int, (formJ gen m b).2 = 0
  | n, [], _, h => by cases h
  | n, t :: ts, hr, h => by
    rcases List.mem_cons.1 h with e | h
    · exact ⟨_, by rw [e]; exact hr.1.1⟩
    · exact recOk_mem hr.2 h
theorem lay_bg {N : Nat} {gen : Int} {ts x : List (List Int)} {g : List Bg} {A B : List (List Int)} (h : Lay [] [] N gen ts x g A B) (hN : N ≤ 4096) (hl : ts.length ≤ 50000) : Prt x 0 N ∧ BgOk x g ∧ (∀ b ∈ x, Byt b) ∧ x.length = N := by
  have hp := h.sec (fun b hb => (by cases hb)) (fun b hb => (by cases hb)) (by simp only [List.length_nil]; omega)
  have hx : x.length = N := by
    rw [h.x]
    simp only [List.length_append, List.length_nil, h.la, zer_len]
    have := h.fit; omega
  refine ⟨hp, ⟨fun p hpg => ?_, by have := h.few; omega⟩, h.byt (fun b hb => (by cases hb)) (fun b hb => (by cases hb)), hx⟩
  have := h.gs p hpg
  have h2 := h.fit
  simp only [List.length_nil, Nat.zero_add] at this
  exact ⟨this.1, by omega, this.2.2⟩
theorem lay_0 (N : Nat) (gen : Int) : Lay [] [] N gen [] (zer N) [] [] [] := by
  have := lay_nil [] [] N gen
  rw [List.append_nil] at this
  exact this
theorem take_snoc {l : List (List Int)} {i : Nat} (h : i < l.length) : l.take (i + 1) = l.take i ++ [gS l (i : Int)] := by
  rw [List.take_add_one, gS_at h]; rfl
theorem lawOther (l : List (List Int)) (ga gb : Int) (hl : ∀ b ∈ l, Byt b) (ha : 0 ≤ ga ∧ ga ≤ 255) (hb : 0 ≤ gb ∧ gb ≤ 255) : XL l ga gb [] 4 [.dat (.sl 1 (l.map bsl)), .int .u8 ga, .int .u8 gb] [] KT := by
  refine vcOther l ga gb ?_
  have w1 : IntKind.i64.wrap ga = ga := w64 (by omega) (by omega)
  have w2 : IntKind.i64.wrap gb = gb := w64 (by omega) (by omega)
  rw [w1, w2]
  simp only [List.length_map]
  have nga : NumJ ga := ⟨by omega, by omega⟩
  have ngb : NumJ gb := ⟨by omega, by omega⟩
  refine ⟨fun _ => trivial, fun h0 => ⟨fun _ => trivial, fun hne => ⟨fun q => q ⟨by omega, by omega⟩, fun _ => ⟨zer 40, 0, 40, rfl, rfl, rfl, by rw [zer_len], trivial, zer_prt (by omega), zer_byt, nga, zer_okd (by omega), by omega, fun w' L u hw' hs hu => ?_⟩⟩⟩⟩
  simp only [decide_eq_false_iff_not] at h0
  simp only [beq_eq_false_iff_ne, ne_eq] at hne
  have hw' : w' = [] := by simpa using hw'
  subst hw'
  rw [zer_scan] at hs
  cases hs
  rw [Nat.add_zero, Nat.sub_zero, zer_sw]
  refine ⟨fun q => (by cases q), fun _ => ⟨At.mk' (⟨⟨0, zer 40, [], []⟩, ⟨Nat.zero_le _, ⟨[], [], lay_0 40 ga⟩, Nat.zero_le _, fun d hd => (by cases hd)⟩⟩ : {p : Ot // OtI l ga p.i p.x p.w p.g}) rfl, ?_⟩⟩
  rintro ⟨⟨i, x, w, g⟩, hI⟩
  obtain ⟨hle, ⟨A, B, hL⟩, hwl, hwp⟩ := hI
  dsimp only at hle hL hwl hwp ⊢
  simp only [decide_eq_true_eq, decide_eq_false_iff_not, Int.toNat_natCast]
  have htl : (l.take i).length = i := by rw [List.length_take]; omega
  obtain ⟨hP, hBg, hBy, hxl⟩ := lay_bg hL (by omega) (by omega)
  have hfit := hL.fit
  have hfew := hL.few
  rw [htl] at hfew
  have hJ : OkJ x ⟨0, 40, ga, catN ga 0 (l.take i), i⟩ := ⟨hP, hfit, nga, by simp only; omega⟩
  have hD : OkD x w := ⟨hP.toSec64, by omega, hwp⟩
  refine ⟨fun h1 => ?_, fun h1 => ?_⟩
  · have hi : i < l.length := by omega
    have hbyt := hl _ (List.mem_of_getElem? (gS_at hi))
    refine ⟨by unfold NonN; omega, _, bsl_row hi, _, rfl, fun _ => trivial, fun h2 => ⟨by unfold NonN; omega, _, bsl_row hi, _, rfl, x, ⟨0, 40, ga, catN ga 0 (l.take i), i⟩, g, gS l (i : Int), ⟨rfl, rfl, rfl, rfl, rfl, rfl, rfl, rfl, rfl, rfl⟩, rfl, hJ, hD, by omega, by omega, hbyt, ?_, fun q => ⟨fun _ => trivial, fun q2 => ?_⟩, fun _ _ => ⟨fun _ => trivial, fun q => (by cases q)⟩, fun hF hroom v hv1 hv2 => ⟨fun q => (by cases q), fun _ => ?_⟩⟩⟩
    · rw [ints_len] at h2; omega
    · simp only [bne_eq_false_iff_eq] at q2; exact absurd q2 q
    · dsimp only at hF hroom ⊢
      have hF' : (formJ ga ((l.take i).length : Nat) (gS l (i : Int))).2 = 0 := by rw [htl]; exact hF
      obtain ⟨A', B', hL'⟩ := hL.add hF' hbyt (by rw [htl]; exact hroom)
      rw [← take_snoc hi] at hL'
      have hcn : catN ga 0 (l.take (i + 1)) = catN ga 0 (l.take i) + (formJ ga (i : Nat) (gS l (i : Int))).1.length / 64 := by rw [take_snoc hi, catN_snoc, Nat.zero_add, htl]
      rw [htl] at hL'
      simp only [List.length_nil, Nat.zero_add] at hL' ⊢
      rw [w64 (by omega) (by omega), show (i : Int) + 1 = ((i + 1 : Nat) : Int) by omega, ← hcn]
      exact Nx.mk' (⟨⟨i + 1, _, v, _⟩, ⟨by dsimp only; omega, ⟨A', B', hL'⟩, by dsimp only; omega, hv2⟩⟩ : {p : Ot // OtI l ga p.i p.x p.w p.g}) rfl (by dsimp only; omega)
  · have ei : i = l.length := by omega
    subst ei
    rw [List.take_length] at *
    have hF := hL.flush
    obtain ⟨hP2, _, hBy2, hxl2⟩ := lay_bg hF (by omega) (by omega)
    have s1 := hF.scanO hne
    have s2 := hF.scan
    simp only [List.length_nil] at s1 s2
    refine ⟨x, ⟨0, 40, ga, catN ga 0 l, l.length⟩, g, ⟨rfl, rfl, rfl, rfl, rfl, rfl, rfl, rfl, rfl, rfl⟩, hP.toSec64, hBg, fun q => (by cases q), fun _ => ⟨flsJ x g, 0, 40, rfl, rfl, rfl, rfl, trivial, hP2, hBy2, ngb, flsJ x g, 0, 40, rfl, rfl, rfl, rfl, trivial, hP2, hBy2, nga, ?_⟩⟩
    rw [s1, s2]
    refine ⟨fun _ => ⟨fun _ => ⟨fun _ => ⟨fun _ => ⟨⟨Nat.le_refl _, trivial, trivial⟩, l, l, by rw [List.drop_zero, map_bsl_take], rfl, by omega, fun b hb => ?_, trivial, fun _ => ⟨⟨by dsimp only; omega, by dsimp only; omega⟩, fun _ => trivial, fun q => ?_⟩, fun q => ?_⟩, fun q => ?_⟩, fun q => ?_⟩, fun q => ?_⟩, fun q => ?_⟩
    · have hb2 : b ∈ l := hb
      obtain ⟨n, hn⟩ := recOk_mem hL.rec' hb2
      have := formJ_text hn
      omega
    · dsimp only at q
      rw [w64 (by omega) (by omega)] at q
      simp only [beq_eq_false_iff_ne, ne_eq] at q
      omega
    · simp at q
    · exact absurd q (by decide)
    · exact absurd q (by decide)
    · exact absurd q (by decide)
    · exact absurd q (by decide)
def gI (l : List Int) (i : Nat) : Int := l.getD i 0
theorem gI_get {l : List Int} {i : Nat} (h : i < l.length) : l[i]? = some (gI l i) := by
  unfold gI; rw [List.getD_eq_getElem?_getD, List.getElem?_eq_getElem h]; rfl
theorem gI_mem {l : List Int} {i : Nat} (h : i < l.length) : gI l i ∈ l := List.mem_of_getElem? (gI_get h)
theorem lawRoom (l : List Int) (hl : ∀ n ∈ l, 0 ≤ n ∧ n ≤ 65535) : XL [] 0 0 l 5 [.dat (.sl 1 (ints .u16 l))] [] KT := by
  refine vcRoom l ?_
  simp only [ints_len, List.length_map]
  have n7 : NumJ 7 := ⟨by omega, by omega⟩
  refine ⟨fun _ => trivial, fun h0 => ⟨fun q => q ⟨by omega, by omega⟩, fun _ => ⟨zer 30, 0, 30, rfl, rfl, rfl, by rw [zer_len], trivial, zer_prt (by omega), zer_byt, n7, zer_okd (by omega), by omega, fun w' L u hw' hs hu => ?_⟩⟩⟩
  simp only [decide_eq_false_iff_not] at h0
  have hw' : w' = [] := by simpa using hw'
  subst hw'
  rw [zer_scan] at hs
  cases hs
  rw [Nat.add_zero, Nat.sub_zero, zer_sw]
  refine ⟨fun q => (by cases q), fun _ => ⟨At.mk' (⟨⟨0, [], zer 30, [], []⟩, ⟨Nat.zero_le _, Nat.le_refl _, ⟨[], [], lay_0 30 7⟩, Nat.zero_le _, fun d hd => (by cases hd)⟩⟩ : {p : Ro // RoI l p.i p.ts p.x p.w p.g}) rfl, ?_⟩⟩
  rintro ⟨⟨i, ts, x, w, g⟩, hI⟩
  obtain ⟨hle, htl, ⟨A, B, hL⟩, hwl, hwp⟩ := hI
  dsimp only at hle htl hL hwl hwp ⊢
  simp only [decide_eq_true_eq, decide_eq_false_iff_not, Int.toNat_natCast]
  obtain ⟨hP, hBg, hBy, hxl⟩ := lay_bg hL (by omega) (by omega)
  have hfit := hL.fit
  have hfew := hL.few
  have hJ : OkJ x ⟨0, 30, 7, catN 7 0 ts, ts.length⟩ := ⟨hP, hfit, n7, by simp only; omega⟩
  have hD : OkD x w := ⟨hP.toSec64, by omega, hwp⟩
  refine ⟨fun h1 => ?_, fun h1 => ?_⟩
  · have hi : i < l.length := by omega
    have hn := hl _ (gI_mem hi)
    have hm : 0 ≤ (gI l i).tmod 500 ∧ (gI l i).tmod 500 < 500 := by rw [Int.tmod_eq_emod_of_nonneg hn.1]; omega
    have wn : IntKind.i64.wrap (gI l i) = gI l i := w64 (by omega) (by omega)
    have elim : ∀ {Q : Int → Prop}, Q (gI l i) → NonN (i : Int) ∧ ∃ e, (ints IntKind.u16 l)[i]? = some e ∧ ∃ n, e[0]? = some (D.val (Value.int IntKind.u16 n)) ∧ Q n := fun q => ⟨by unfold NonN; omega, _, by rw [ints_get, gI_get hi]; rfl, _, rfl, q⟩
    refine elim ?_
    rw [wn]
    generalize hmm : ((gI l i).tmod 500).toNat = m
    have m500 : m < 500 := by omega
    have eb : List.drop 0 (List.take m (List.replicate m [D.val (Value.int IntKind.u8 0)])) = ints .u8 (List.replicate m 0) := by rw [ints_rep, List.drop_zero, List.take_of_length_le (by rw [ints_len, List.length_replicate]; exact Nat.le_refl _)]
    have hb0 : Byt (List.replicate m 0) := fun c hc => by rw [List.eq_of_mem_replicate hc]; omega
    have hF : (formJ 7 (ts.length : Nat) (List.replicate m 0)).2 = 0 := small_form n7 ⟨by omega, by omega⟩ (by rw [List.length_replicate]; omega)
    obtain ⟨z1, z2, z3⟩ := formJ_sz hF
    have z4 := (formJ_some hF).2.2.1
    have hml : m ≤ (List.replicate m [D.val (Value.int IntKind.u8 0)]).length := by rw [List.length_replicate]; exact Nat.le_refl _
    refine ⟨hm.1, ⟨Int.le_refl _, by omega, by omega⟩, ⟨hml, trivial⟩, List.replicate m 0, eb, hb0, by rw [List.length_replicate]; omega, ⟨plain_ints⟩, ⟨by omega, by omega⟩, ⟨hml, x, ⟨0, 30, 7, catN 7 0 ts, ts.length⟩, g, List.replicate m 0, ⟨rfl, rfl, rfl, rfl, rfl, rfl, rfl, rfl, rfl, rfl⟩, eb, hJ, hD, by omega, by omega, hb0, by rw [List.length_replicate]; omega, fun q => (q hF).elim, fun _ q => ?_, fun _ q v hv1 hv2 => ?_⟩, ?_⟩
    · dsimp only at q ⊢
      rw [hF]
      exact At.mk' (⟨⟨ts, x, w, g, (formJ 7 (ts.length : Nat) (List.replicate m 0)).1, szJ (bodyJ 7 (ts.length : Nat) (List.replicate m 0)), 6, catN 7 0 ts, ts.length⟩, ⟨⟨by first | omega | (dsimp only; omega), by first | omega | (dsimp only; omega), ⟨A, B, hL⟩, by first | omega | (dsimp only; omega), hwp⟩, z2, htl, hfit, .inr ⟨rfl, by first | omega | (dsimp only; omega), rfl, rfl⟩, z4, by first | omega | (dsimp only; omega)⟩⟩ : {q : Rc // RcI l i q}) rfl
    · dsimp only at q ⊢
      rw [hF]
      obtain ⟨A', B', hL'⟩ := hL.add hF hb0 q
      have hcn : catN 7 0 (ts ++ [List.replicate m 0]) = catN 7 0 ts + (formJ 7 (ts.length : Nat) (List.replicate m 0)).1.length / 64 := by rw [catN_snoc, Nat.zero_add]
      simp only [List.length_nil, Nat.zero_add] at hL' ⊢
      rw [← hcn]
      refine At.mk' (⟨⟨ts ++ [List.replicate m 0], _, v, _, (formJ 7 (ts.length : Nat) (List.replicate m 0)).1, szJ (bodyJ 7 (ts.length : Nat) (List.replicate m 0)), 0, catN 7 0 ts, ts.length⟩, ⟨⟨by first | omega | (dsimp only; omega), by dsimp only; rw [List.length_append, List.length_singleton]; omega, ⟨A', B', hL'⟩, by first | omega | (dsimp only; omega), hv2⟩, z2, htl, hfit, .inl ⟨rfl, by first | omega | (dsimp only; omega), by dsimp only; rw [hcn]; omega, by dsimp only; rw [List.length_append, List.length_singleton]⟩, z4, by first | omega | (dsimp only; omega)⟩⟩ : {q : Rc // RcI l i q}) ?_
      dsimp only
      have e9 : (ts ++ [List.replicate m (0 : Int)]).length = ts.length + 1 := by rw [List.length_append, List.length_singleton]
      rw [e9]
      rfl
    · rintro ⟨⟨ts', x', w', g', F, s, h, u0, n0⟩, hq⟩
      obtain ⟨⟨k1, k2, k3, k4, k5⟩, lF, hn0, hu0, hc, s16, h6⟩ := hq
      dsimp only at k1 k2 k3 k4 k5 lF hn0 hu0 hc s16 h6 ⊢
      have wF : IntKind.i64.wrap (((F.length - 0 : Nat) : Int).tdiv 64) = (s : Int) := by
        rw [lF, Int.tdiv_eq_ediv_of_nonneg (by omega), w64 (by omega) (by omega)]; omega
      have w3 : IntKind.i64.wrap (30 - (u0 : Int) - (s : Int)) = 30 - (u0 : Int) - (s : Int) := w64 (by omega) (by omega)
      have w4 : IntKind.i64.wrap ((n0 : Int) + 1) = ((n0 + 1 : Nat) : Int) := by rw [w64 (by omega) (by omega)]; omega
      have w5 : IntKind.i64.wrap ((i : Int) + 1) = ((i + 1 : Nat) : Int) := by rw [w64 (by omega) (by omega)]; omega
      rw [wF, w3, w4, w5]
      have nx : ∀ c : Int, c = (ts'.length : Int) → Nx (roLI l) ⟨⟨i, ts, x, w, g⟩, ⟨hle, htl, ⟨A, B, hL⟩, hwl, hwp⟩⟩ ([V.dat (D.sl 1 (ints IntKind.u16 l)), V.ptr 0 0, V.ptr 1 0, V.int IntKind.i64 c, V.int IntKind.i64 ((i + 1 : Nat) : Int)],
          [KO.cells [V.sl 2 0 x'.length, V.sl 3 0 w'.length, V.int IntKind.i64 (-1), V.sb false], KO.cells [V.ptr 0 0, V.int IntKind.i64 0, V.int IntKind.i64 30, V.int IntKind.i64 7, V.int IntKind.i64 (catN 7 0 ts' : Int), V.int IntKind.i64 (ts'.length : Int), V.sl 4 0 g'.length, V.sb false], KO.row 76 64 (secs x'), KO.row 78 129 w', KO.row 65 2 (List.map bgD g')]) := by
        rintro c rfl
        exact Nx.mk' (⟨⟨i + 1, ts', x', w', g'⟩, ⟨k1, k2, k3, k4, k5⟩⟩ : {p : Ro // RoI l p.i p.ts p.x p.w p.g}) rfl (by dsimp only; omega)
      refine ⟨fun q => (by cases q), fun _ => ?_⟩
      rcases hc with ⟨rfl, c1, c2, c3⟩ | ⟨rfl, c1, c2, c3⟩
      · rw [decide_eq_true (by omega)]
        refine ⟨fun q => absurd q (by decide), fun _ => ⟨fun _ => ⟨⟨by omega, by omega⟩, fun q => ?_, fun _ => ⟨fun q => absurd q (by decide), fun _ => ⟨fun _ => nx _ (by omega), fun q => absurd q (by decide)⟩⟩⟩, fun q => absurd q (by decide)⟩⟩
        simp only [bne_iff_ne, ne_eq] at q; omega
      · rw [decide_eq_false (by omega)]
        refine ⟨fun q => absurd q (by decide), fun _ => ⟨fun q => absurd q (by decide), fun _ => ⟨fun _ => ⟨fun q => absurd q (by decide), fun _ => ⟨⟨by omega, by omega⟩, fun q => ?_, fun _ => ⟨fun q => absurd q (by decide), fun _ => nx _ (by omega)⟩⟩⟩, fun q => absurd q (by decide)⟩⟩⟩
        simp only [bne_iff_ne, ne_eq] at q; omega
  · have hF := hL.flush
    obtain ⟨hP2, _, hBy2, hxl2⟩ := lay_bg hF (by omega) (by omega)
    have s2 := hF.scan
    simp only [List.length_nil] at s2
    refine ⟨x, ⟨0, 30, 7, catN 7 0 ts, ts.length⟩, g, ⟨rfl, rfl, rfl, rfl, rfl, rfl, rfl, rfl, rfl, rfl⟩, hP.toSec64, hBg, fun q => (by cases q), fun _ => ⟨flsJ x g, 0, 30, rfl, rfl, rfl, rfl, trivial, hP2, hBy2, n7, ?_⟩⟩
    rw [s2]
    refine ⟨fun _ => ⟨fun _ => ⟨⟨by dsimp only; omega, by dsimp only; omega⟩, fun _ => trivial, fun q => ?_⟩, fun q => ?_⟩, fun q => ?_⟩
    · dsimp only at q
      rw [w64 (by omega) (by omega)] at q
      simp only [beq_eq_false_iff_ne, ne_eq] at q
      omega
    · simp at q
    · exact absurd q (by decide)
theorem byt_wf {l : List Int} (h : ∀ n ∈ l, (Lit.int .u8 n).wf = true) : Byt l := fun c hc => by have := bounds_u8 (h c hc); omega
theorem conf_bsl {x : List D} (h : Conf [.sl [.int .u8]] x) : ∃ a : List Int, x = bsl a ∧ Byt a := by
  simp only [Conf, ConfD] at h
  obtain ⟨_, _, rfl, ⟨e, rfl, _, he⟩, rfl⟩ := h
  obtain ⟨zs, rfl, hz⟩ := conf_ints he
  exact ⟨zs, rfl, byt_wf hz⟩
end Go.Proofs.Ytbkjkbfahclimaa
