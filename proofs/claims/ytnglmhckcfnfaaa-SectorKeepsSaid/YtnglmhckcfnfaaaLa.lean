import Derived.Test.YtnglmhckcfnfaaaBv
import Derived.KernelRfl
namespace Go.Proofs.Ytnglmhckcfnfaaa
open Vc Go
set_option linter.unusedVariables false
set_option linter.unusedSimpArgs false
set_option maxRecDepth 100000
def Sawake : FSpec := fun args kb K => match args, kb with | [], [] => K (.sb true) [] | _, _ => False
def fulL (c : Int) : List Int := List.replicate 64 c
def Sfull : FSpec := fun args kb K => match args, kb with
  | [.int .u8 c], [] => K (.sl 0 0 64) [.row 5 1 (ints .u8 (fulL c))]
  | _, _ => False
abbrev fuLI (c : Int) : LI where
  α := {i : Nat // i ≤ 64}
  live := [0, 3, 4]
  st i := ([.int .u8 c, .sl 0 0 64, .int .i64 (i.1 : Int)], [.row 5 1 (ints .u8 (List.replicate i.1 c ++ List.replicate (64 - i.1) 0))])
  μ i := 64 - i.1
def fuT (c : Int) : FuncId → Nat → Option LI
  | 7, 3 => some (fuLI c)
  | _, _ => none
def awS : FuncId → Option Known
  | 5 => some ⟨[], SgNew⟩
  | 6 => some ⟨[.asis, .asis, .lend 1], SgWrite⟩
  | 8 => some ⟨[], SgFlush⟩
  | 9 => some ⟨[], SgFuse⟩
  | 10 => some ⟨[.asis, .lend 1], SgBoot⟩
  | 11 => some ⟨[], SgRead⟩
  | 7 => some ⟨[], Sfull⟩
  | 12 => some ⟨[.lend 1, .lend 1], Ssame⟩
  | _ => none
noncomputable def XAw : CallT := callS Try.prog awS noT 10
def lawS : FuncId → Option Known
  | 13 => some ⟨[], Sawake⟩
  | f => awS f
structure A5 where
  d : Int
  i : Int
  b : List Int
  c : Int
  w : List Int
def acD (a : A5) : List D := [dn .i64 a.d, dn .i64 a.i, .sl 1 (ints .u8 a.b), dn .u8 a.c, .sl 1 (ints .i64 a.w)]
structure OtI (n : Nat) (i : Int) (k : Nat) (d : Dev) : Prop where
  kn : k ≤ n
  ok : DOk d
  x6 : d.x.length = 6
  s : gS d.x i = fulL 7
  w : ∀ p ∈ d.w, p.at' ≠ i
  wl : d.w.length ≤ k
abbrev otLI (l : List A5) (i : Int) : LI where
  α := {q : Nat × Dev // OtI l.length i q.1 q.2}
  live := [0, 5, 6, 7]
  st q := ([.dat (.sl 5 (l.map acD)), .ptr 0 0, .int .i64 i, .int .i64 (q.1.1 : Int)], devA q.1.2)
  μ q := l.length - q.1.1
def laT (l : List A5) (i : Int) : FuncId → Nat → Option LI
  | 4, 8 => some (otLI l i)
  | _, _ => none
noncomputable def XL (l : List A5) (i : Int) : CallT := callS Try.prog lawS (laT l i) 10
theorem vcFull (c : Int) (K : V → KB → Prop) (hvc_ :
 NonN 64 ∧
 Room 64 64 1 ∧
 At (fuLI c)
 ([V.int IntKind.u8 c, V.sl 0 0 64, V.int IntKind.i64 0],
 [KO.row 5 1
 (List.replicate 64 ([D.val (Value.int IntKind.u8 0)]))]) ∧
 ∀ (i : { i : Nat // i ≤ 64 }),
 (decide ((↑i.val : Int) < 64) = true →
 InB (↑i.val : Int) 64 ∧
 0 + (↑i.val : Int).toNat < (ints IntKind.u8 (List.replicate i.val c ++ List.replicate (64 - i.val) 0)).length ∧ Nx (fuLI c) i ([V.int IntKind.u8 c, V.sl 0 0 64, V.int IntKind.i64 (IntKind.i64.wrap ((↑i.val : Int) + 1))], [KO.row 5 1 ((ints IntKind.u8 (List.replicate i.val c ++ List.replicate (64 - i.val) 0)).set (0 + (↑i.val : Int).toNat) [D.val (Value.int IntKind.u8 c)])])) ∧
 (decide ((↑i.val : Int) < 64) = false → K (V.sl 0 0 64) [KO.row 5 1 (ints IntKind.u8 (List.replicate i.val c ++ List.replicate (64 - i.val) 0))])
 ) : runSpec Try.prog X0 (fuT c 7) 7 [.int .u8 c] [] (tidyRes 0 K) := by apply Eq.mp (a := hvc_); kernel_rfl
theorem vcAwake (q : Unit) (K : V → KB → Prop) (hvc_ :
 ((NewI 2 → False) → K (V.sb false) []) ∧
 (NewI 2 →
 (64 ≤ 64 ∧ True) ∧
 ∃ (d : Dev),
 ∃ (b : List Int),
 DIn d 2 0 (-1) false
 [(List.replicate 64 (D.val (Value.int IntKind.u8 0))),
 (List.replicate 64 (D.val (Value.int IntKind.u8 0)))]
 [] ∧
 (List.replicate 64 ([D.val (Value.int IntKind.u8 7)])) =
 ints IntKind.u8 b ∧
 d.w.length ≤ 900 ∧
 (PlainS (secs (wrtF d 1 b).snd.x).flatten ∧ PlainS (List.map wrD (wrtF d 1 b).snd.w).flatten) ∧
 (((wrtF d 1 b).fst != 0) = true → K (V.sb false) []) ∧
 (((wrtF d 1 b).fst != 0) = false →
 (1 ≤ 1 ∧ True) ∧
 ∃ (d_1 : Dev),
 ∃ (keeps : List Int),
 DIn d_1 (wrtF d 1 b).snd.x.length (wrtF d 1 b).snd.w.length (wrtF d 1 b).snd.f (wrtF d 1 b).snd.o (secs (wrtF d 1 b).snd.x) (List.map wrD (wrtF d 1 b).snd.w) ∧
 [[D.val (Value.int IntKind.i64 3)]] = ints IntKind.i64 keeps ∧
 (PlainS (secs (bootF d_1 keeps).x).flatten ∧ PlainS []) ∧
 ∃ (d : Dev),
 DIn d (bootF d_1 keeps).x.length 0 (bootF d_1 keeps).f (bootF d_1 keeps).o (secs (bootF d_1 keeps).x) [] ∧
 (((rdF d 1).snd == 0) = true →
 (((↑((rdF d 1).fst.length - 0) : Int) == 64) = true →
 InB 2 ((rdF d 1).fst.length - 0) ∧
 ∃ (e : List D),
 (ints IntKind.u8 (rdF d 1).fst)[2]? = some e ∧
 ∃ (n : Int),
 e[0]? = some (D.val (Value.int IntKind.u8 n)) ∧
 ((n == 7) = true → InB 3 ((rdF d 1).fst.length - 0) ∧ ∃ (e : List D), (ints IntKind.u8 (rdF d 1).fst)[3]? = some e ∧ ∃ (n : Int), e[0]? = some (D.val (Value.int IntKind.u8 n)) ∧ ((n == 0) = true → ((NewI 0 → False) → K (V.sb true) []) ∧ (NewI 0 → K (V.sb false) [])) ∧ ((n == 0) = false → K (V.sb false) [])) ∧
 ((n == 7) = false → K (V.sb false) [])) ∧
 (((↑((rdF d 1).fst.length - 0) : Int) == 64) = false → K (V.sb false) [])) ∧
 (((rdF d 1).snd == 0) = false → K (V.sb false) [])))
 ) : runSpec Try.prog XAw (noT 13) 13 [] [] K := by apply Eq.mp (a := hvc_); kernel_rfl
theorem vcKeeps (a b at' fuse keep : Int)  (hvc_ :
 ((NewI 4 → False) → False) ∧
 (NewI 4 →
 (64 ≤ 64 ∧ True) ∧
 ∃ (d : Dev),
 ∃ (b_1 : List Int),
 DIn d 4 0 (-1) false
 [(List.replicate 64 (D.val (Value.int IntKind.u8 0))),
 (List.replicate 64 (D.val (Value.int IntKind.u8 0))),
 (List.replicate 64 (D.val (Value.int IntKind.u8 0))),
 (List.replicate 64 (D.val (Value.int IntKind.u8 0)))]
 [] ∧
 [[D.val (Value.int IntKind.u8 a)], [D.val (Value.int IntKind.u8 a)], [D.val (Value.int IntKind.u8 a)], [D.val (Value.int IntKind.u8 a)], [D.val (Value.int IntKind.u8 a)], [D.val (Value.int IntKind.u8 a)], [D.val (Value.int IntKind.u8 a)], [D.val (Value.int IntKind.u8 a)], [D.val (Value.int IntKind.u8 a)], [D.val (Value.int IntKind.u8 a)], [D.val (Value.int IntKind.u8 a)],
 [D.val (Value.int IntKind.u8 a)], [D.val (Value.int IntKind.u8 a)], [D.val (Value.int IntKind.u8 a)], [D.val (Value.int IntKind.u8 a)], [D.val (Value.int IntKind.u8 a)], [D.val (Value.int IntKind.u8 a)], [D.val (Value.int IntKind.u8 a)], [D.val (Value.int IntKind.u8 a)], [D.val (Value.int IntKind.u8 a)], [D.val (Value.int IntKind.u8 a)], [D.val (Value.int IntKind.u8 a)],
 [D.val (Value.int IntKind.u8 a)], [D.val (Value.int IntKind.u8 a)], [D.val (Value.int IntKind.u8 a)], [D.val (Value.int IntKind.u8 a)], [D.val (Value.int IntKind.u8 a)], [D.val (Value.int IntKind.u8 a)], [D.val (Value.int IntKind.u8 a)], [D.val (Value.int IntKind.u8 a)], [D.val (Value.int IntKind.u8 a)], [D.val (Value.int IntKind.u8 a)], [D.val (Value.int IntKind.u8 a)],
 [D.val (Value.int IntKind.u8 a)], [D.val (Value.int IntKind.u8 a)], [D.val (Value.int IntKind.u8 a)], [D.val (Value.int IntKind.u8 a)], [D.val (Value.int IntKind.u8 a)], [D.val (Value.int IntKind.u8 a)], [D.val (Value.int IntKind.u8 a)], [D.val (Value.int IntKind.u8 a)], [D.val (Value.int IntKind.u8 a)], [D.val (Value.int IntKind.u8 a)], [D.val (Value.int IntKind.u8 a)],
 [D.val (Value.int IntKind.u8 a)], [D.val (Value.int IntKind.u8 a)], [D.val (Value.int IntKind.u8 a)], [D.val (Value.int IntKind.u8 a)], [D.val (Value.int IntKind.u8 a)], [D.val (Value.int IntKind.u8 a)], [D.val (Value.int IntKind.u8 a)], [D.val (Value.int IntKind.u8 a)], [D.val (Value.int IntKind.u8 a)], [D.val (Value.int IntKind.u8 a)], [D.val (Value.int IntKind.u8 a)],
 [D.val (Value.int IntKind.u8 a)], [D.val (Value.int IntKind.u8 a)], [D.val (Value.int IntKind.u8 a)], [D.val (Value.int IntKind.u8 a)], [D.val (Value.int IntKind.u8 a)], [D.val (Value.int IntKind.u8 a)], [D.val (Value.int IntKind.u8 a)], [D.val (Value.int IntKind.u8 a)], [D.val (Value.int IntKind.u8 a)]] =
 ints IntKind.u8 b_1 ∧
 d.w.length ≤ 900 ∧
 (PlainS (secs (wrtF d ((IntKind.i64.wrap at').tmod 4) b_1).snd.x).flatten ∧ PlainS (List.map wrD (wrtF d ((IntKind.i64.wrap at').tmod 4) b_1).snd.w).flatten) ∧
 (((wrtF d ((IntKind.i64.wrap at').tmod 4) b_1).fst != 0) = true → False) ∧
 (((wrtF d ((IntKind.i64.wrap at').tmod 4) b_1).fst != 0) = false →
 ∃ (d_1 : Dev),
 DIn d_1 (wrtF d ((IntKind.i64.wrap at').tmod 4) b_1).snd.x.length (wrtF d ((IntKind.i64.wrap at').tmod 4) b_1).snd.w.length (wrtF d ((IntKind.i64.wrap at').tmod 4) b_1).snd.f (wrtF d ((IntKind.i64.wrap at').tmod 4) b_1).snd.o (secs (wrtF d ((IntKind.i64.wrap at').tmod 4) b_1).snd.x) (List.map wrD (wrtF d ((IntKind.i64.wrap at').tmod 4) b_1).snd.w) ∧
 (((flsF d_1).fst != 0) = true → False) ∧
 (((flsF d_1).fst != 0) = false →
 ∃ (d : Dev),
 DIn d (flsF d_1).snd.x.length (flsF d_1).snd.w.length (flsF d_1).snd.f (flsF d_1).snd.o (secs (flsF d_1).snd.x) (List.map wrD (flsF d_1).snd.w) ∧
 (64 ≤ 64 ∧ True) ∧
 ∃ (d_2 : Dev),
 ∃ (b_2 : List Int),
 DIn d_2 (fuseF d ((IntKind.i64.wrap fuse).tmod 3)).x.length (fuseF d ((IntKind.i64.wrap fuse).tmod 3)).w.length (fuseF d ((IntKind.i64.wrap fuse).tmod 3)).f (fuseF d ((IntKind.i64.wrap fuse).tmod 3)).o (secs (fuseF d ((IntKind.i64.wrap fuse).tmod 3)).x) (List.map wrD (fuseF d ((IntKind.i64.wrap fuse).tmod 3)).w) ∧
 [[D.val (Value.int IntKind.u8 b)], [D.val (Value.int IntKind.u8 b)], [D.val (Value.int IntKind.u8 b)], [D.val (Value.int IntKind.u8 b)], [D.val (Value.int IntKind.u8 b)], [D.val (Value.int IntKind.u8 b)], [D.val (Value.int IntKind.u8 b)], [D.val (Value.int IntKind.u8 b)], [D.val (Value.int IntKind.u8 b)], [D.val (Value.int IntKind.u8 b)],
 [D.val (Value.int IntKind.u8 b)], [D.val (Value.int IntKind.u8 b)], [D.val (Value.int IntKind.u8 b)], [D.val (Value.int IntKind.u8 b)], [D.val (Value.int IntKind.u8 b)], [D.val (Value.int IntKind.u8 b)], [D.val (Value.int IntKind.u8 b)], [D.val (Value.int IntKind.u8 b)], [D.val (Value.int IntKind.u8 b)], [D.val (Value.int IntKind.u8 b)],
 [D.val (Value.int IntKind.u8 b)], [D.val (Value.int IntKind.u8 b)], [D.val (Value.int IntKind.u8 b)], [D.val (Value.int IntKind.u8 b)], [D.val (Value.int IntKind.u8 b)], [D.val (Value.int IntKind.u8 b)], [D.val (Value.int IntKind.u8 b)], [D.val (Value.int IntKind.u8 b)], [D.val (Value.int IntKind.u8 b)], [D.val (Value.int IntKind.u8 b)],
 [D.val (Value.int IntKind.u8 b)], [D.val (Value.int IntKind.u8 b)], [D.val (Value.int IntKind.u8 b)], [D.val (Value.int IntKind.u8 b)], [D.val (Value.int IntKind.u8 b)], [D.val (Value.int IntKind.u8 b)], [D.val (Value.int IntKind.u8 b)], [D.val (Value.int IntKind.u8 b)], [D.val (Value.int IntKind.u8 b)], [D.val (Value.int IntKind.u8 b)],
 [D.val (Value.int IntKind.u8 b)], [D.val (Value.int IntKind.u8 b)], [D.val (Value.int IntKind.u8 b)], [D.val (Value.int IntKind.u8 b)], [D.val (Value.int IntKind.u8 b)], [D.val (Value.int IntKind.u8 b)], [D.val (Value.int IntKind.u8 b)], [D.val (Value.int IntKind.u8 b)], [D.val (Value.int IntKind.u8 b)], [D.val (Value.int IntKind.u8 b)],
 [D.val (Value.int IntKind.u8 b)], [D.val (Value.int IntKind.u8 b)], [D.val (Value.int IntKind.u8 b)], [D.val (Value.int IntKind.u8 b)], [D.val (Value.int IntKind.u8 b)], [D.val (Value.int IntKind.u8 b)], [D.val (Value.int IntKind.u8 b)], [D.val (Value.int IntKind.u8 b)], [D.val (Value.int IntKind.u8 b)], [D.val (Value.int IntKind.u8 b)],
 [D.val (Value.int IntKind.u8 b)], [D.val (Value.int IntKind.u8 b)], [D.val (Value.int IntKind.u8 b)], [D.val (Value.int IntKind.u8 b)]] =
 ints IntKind.u8 b_2 ∧
 d_2.w.length ≤ 900 ∧
 (PlainS (secs (wrtF d_2 ((IntKind.i64.wrap at').tmod 4) b_2).snd.x).flatten ∧ PlainS (List.map wrD (wrtF d_2 ((IntKind.i64.wrap at').tmod 4) b_2).snd.w).flatten) ∧
 (1 ≤ 1 ∧ True) ∧
 ∃ (d : Dev),
 ∃ (keeps : List Int),
 DIn d (wrtF d_2 ((IntKind.i64.wrap at').tmod 4) b_2).snd.x.length (wrtF d_2 ((IntKind.i64.wrap at').tmod 4) b_2).snd.w.length (wrtF d_2 ((IntKind.i64.wrap at').tmod 4) b_2).snd.f (wrtF d_2 ((IntKind.i64.wrap at').tmod 4) b_2).snd.o (secs (wrtF d_2 ((IntKind.i64.wrap at').tmod 4) b_2).snd.x)
 (List.map wrD (wrtF d_2 ((IntKind.i64.wrap at').tmod 4) b_2).snd.w) ∧
 [[D.val (Value.int IntKind.i64 keep)]] = ints IntKind.i64 keeps ∧
 (PlainS (secs (bootF d keeps).x).flatten ∧ PlainS []) ∧
 ∃ (d_3 : Dev),
 DIn d_3 (bootF d keeps).x.length 0 (bootF d keeps).f (bootF d keeps).o (secs (bootF d keeps).x) [] ∧
 (((rdF d_3 ((IntKind.i64.wrap at').tmod 4)).snd != 0) = true → False) ∧
 (((rdF d_3 ((IntKind.i64.wrap at').tmod 4)).snd != 0) = false →
 (((↑((rdF d_3 ((IntKind.i64.wrap at').tmod 4)).fst.length - 0) : Int) != 64) = true → False) ∧
 (((↑((rdF d_3 ((IntKind.i64.wrap at').tmod 4)).fst.length - 0) : Int) != 64) = false →
 (((wrtF d_2 ((IntKind.i64.wrap at').tmod 4) b_2).fst != 0) = true →
 True ∧
 NonN 0 ∧
 0 ≤ 0 ∧
 0 ≤ (rdF d_3 ((IntKind.i64.wrap at').tmod 4)).fst.length - 0 ∧
 True ∧
 NonN 0 ∧
 0 ≤ 0 ∧
 0 ≤ 64 ∧
 (0 ≤ (ints IntKind.u8 (rdF d_3 ((IntKind.i64.wrap at').tmod 4)).fst).length ∧ 0 ≤ 64 ∧ True) ∧
 ∃ (a_7 : List Int),
 ∃ (b : List Int),
 [] = ints IntKind.u8 a_7 ∧
 [] = ints IntKind.u8 b ∧
 a_7.length.le 1000000 ∧
 True ∧
 (decide (a_7 = b) = true →
 NonN 0 ∧
 True ∧
 0 ≤ (rdF d_3 ((IntKind.i64.wrap at').tmod 4)).fst.length - 0 ∧
 (rdF d_3 ((IntKind.i64.wrap at').tmod 4)).fst.length - 0 ≤ (rdF d_3 ((IntKind.i64.wrap at').tmod 4)).fst.length - 0 ∧
 NonN 0 ∧
 True ∧
 0 ≤ 64 ∧
 64 ≤ 64 ∧
 (0 + ((rdF d_3 ((IntKind.i64.wrap at').tmod 4)).fst.length - 0) ≤ (ints IntKind.u8 (rdF d_3 ((IntKind.i64.wrap at').tmod 4)).fst).length ∧ 64 ≤ 64 ∧ True) ∧
 ∃ (a_9 : List Int),
 ∃ (b : List Int),
 List.drop 0 (List.take (0 + ((rdF d_3 ((IntKind.i64.wrap at').tmod 4)).fst.length - 0)) (ints IntKind.u8 (rdF d_3 ((IntKind.i64.wrap at').tmod 4)).fst)) = ints IntKind.u8 a_9 ∧
 [[D.val (Value.int IntKind.u8 a)], [D.val (Value.int IntKind.u8 a)], [D.val (Value.int IntKind.u8 a)], [D.val (Value.int IntKind.u8 a)], [D.val (Value.int IntKind.u8 a)], [D.val (Value.int IntKind.u8 a)], [D.val (Value.int IntKind.u8 a)],
 [D.val (Value.int IntKind.u8 a)], [D.val (Value.int IntKind.u8 a)], [D.val (Value.int IntKind.u8 a)], [D.val (Value.int IntKind.u8 a)], [D.val (Value.int IntKind.u8 a)], [D.val (Value.int IntKind.u8 a)], [D.val (Value.int IntKind.u8 a)],
 [D.val (Value.int IntKind.u8 a)], [D.val (Value.int IntKind.u8 a)], [D.val (Value.int IntKind.u8 a)], [D.val (Value.int IntKind.u8 a)], [D.val (Value.int IntKind.u8 a)], [D.val (Value.int IntKind.u8 a)], [D.val (Value.int IntKind.u8 a)],
 [D.val (Value.int IntKind.u8 a)], [D.val (Value.int IntKind.u8 a)], [D.val (Value.int IntKind.u8 a)], [D.val (Value.int IntKind.u8 a)], [D.val (Value.int IntKind.u8 a)], [D.val (Value.int IntKind.u8 a)], [D.val (Value.int IntKind.u8 a)],
 [D.val (Value.int IntKind.u8 a)], [D.val (Value.int IntKind.u8 a)], [D.val (Value.int IntKind.u8 a)], [D.val (Value.int IntKind.u8 a)], [D.val (Value.int IntKind.u8 a)], [D.val (Value.int IntKind.u8 a)], [D.val (Value.int IntKind.u8 a)],
 [D.val (Value.int IntKind.u8 a)], [D.val (Value.int IntKind.u8 a)], [D.val (Value.int IntKind.u8 a)], [D.val (Value.int IntKind.u8 a)], [D.val (Value.int IntKind.u8 a)], [D.val (Value.int IntKind.u8 a)], [D.val (Value.int IntKind.u8 a)],
 [D.val (Value.int IntKind.u8 a)], [D.val (Value.int IntKind.u8 a)], [D.val (Value.int IntKind.u8 a)], [D.val (Value.int IntKind.u8 a)], [D.val (Value.int IntKind.u8 a)], [D.val (Value.int IntKind.u8 a)], [D.val (Value.int IntKind.u8 a)],
 [D.val (Value.int IntKind.u8 a)], [D.val (Value.int IntKind.u8 a)], [D.val (Value.int IntKind.u8 a)], [D.val (Value.int IntKind.u8 a)], [D.val (Value.int IntKind.u8 a)], [D.val (Value.int IntKind.u8 a)], [D.val (Value.int IntKind.u8 a)],
 [D.val (Value.int IntKind.u8 a)], [D.val (Value.int IntKind.u8 a)], [D.val (Value.int IntKind.u8 a)], [D.val (Value.int IntKind.u8 a)], [D.val (Value.int IntKind.u8 a)], [D.val (Value.int IntKind.u8 a)], [D.val (Value.int IntKind.u8 a)],
 [D.val (Value.int IntKind.u8 a)]] =
 ints IntKind.u8 b ∧
 a_9.length.le 1000000 ∧ True ∧ (decide (a_9 = b) = true → true = true) ∧ (decide (a_9 = b) = false → False)) ∧
 (decide (a_7 = b) = false → False)) ∧
 (((wrtF d_2 ((IntKind.i64.wrap at').tmod 4) b_2).fst != 0) = false →
 True ∧
 NonN (if (if 64 < keep then 64 else keep) > 0 then if 64 < keep then 64 else keep else 0) ∧
 0 ≤ (if (if 64 < keep then 64 else keep) > 0 then if 64 < keep then 64 else keep else 0).toNat ∧
 (if (if 64 < keep then 64 else keep) > 0 then if 64 < keep then 64 else keep else 0).toNat ≤ (rdF d_3 ((IntKind.i64.wrap at').tmod 4)).fst.length - 0 ∧
 True ∧
 NonN (if (if 64 < keep then 64 else keep) > 0 then if 64 < keep then 64 else keep else 0) ∧
 0 ≤ (if (if 64 < keep then 64 else keep) > 0 then if 64 < keep then 64 else keep else 0).toNat ∧
 (if (if 64 < keep then 64 else keep) > 0 then if 64 < keep then 64 else keep else 0).toNat ≤ 64 ∧
 (0 + (if (if 64 < keep then 64 else keep) > 0 then if 64 < keep then 64 else keep else 0).toNat ≤ (ints IntKind.u8 (rdF d_3 ((IntKind.i64.wrap at').tmod 4)).fst).length ∧ 0 + (if (if 64 < keep then 64 else keep) > 0 then if 64 < keep then 64 else keep else 0).toNat ≤ 64 ∧ True) ∧
 ∃ (a_7 : List Int),
 ∃ (b_3 : List Int),
 List.drop 0 (List.take (0 + (if (if 64 < keep then 64 else keep) > 0 then if 64 < keep then 64 else keep else 0).toNat) (ints IntKind.u8 (rdF d_3 ((IntKind.i64.wrap at').tmod 4)).fst)) = ints IntKind.u8 a_7 ∧
 List.drop 0
 (List.take (0 + (if (if 64 < keep then 64 else keep) > 0 then if 64 < keep then 64 else keep else 0).toNat)
 [[D.val (Value.int IntKind.u8 b)], [D.val (Value.int IntKind.u8 b)], [D.val (Value.int IntKind.u8 b)], [D.val (Value.int IntKind.u8 b)], [D.val (Value.int IntKind.u8 b)], [D.val (Value.int IntKind.u8 b)], [D.val (Value.int IntKind.u8 b)], [D.val (Value.int IntKind.u8 b)],
 [D.val (Value.int IntKind.u8 b)], [D.val (Value.int IntKind.u8 b)], [D.val (Value.int IntKind.u8 b)], [D.val (Value.int IntKind.u8 b)], [D.val (Value.int IntKind.u8 b)], [D.val (Value.int IntKind.u8 b)], [D.val (Value.int IntKind.u8 b)], [D.val (Value.int IntKind.u8 b)],
 [D.val (Value.int IntKind.u8 b)], [D.val (Value.int IntKind.u8 b)], [D.val (Value.int IntKind.u8 b)], [D.val (Value.int IntKind.u8 b)], [D.val (Value.int IntKind.u8 b)], [D.val (Value.int IntKind.u8 b)], [D.val (Value.int IntKind.u8 b)], [D.val (Value.int IntKind.u8 b)],
 [D.val (Value.int IntKind.u8 b)], [D.val (Value.int IntKind.u8 b)], [D.val (Value.int IntKind.u8 b)], [D.val (Value.int IntKind.u8 b)], [D.val (Value.int IntKind.u8 b)], [D.val (Value.int IntKind.u8 b)], [D.val (Value.int IntKind.u8 b)], [D.val (Value.int IntKind.u8 b)],
 [D.val (Value.int IntKind.u8 b)], [D.val (Value.int IntKind.u8 b)], [D.val (Value.int IntKind.u8 b)], [D.val (Value.int IntKind.u8 b)], [D.val (Value.int IntKind.u8 b)], [D.val (Value.int IntKind.u8 b)], [D.val (Value.int IntKind.u8 b)], [D.val (Value.int IntKind.u8 b)],
 [D.val (Value.int IntKind.u8 b)], [D.val (Value.int IntKind.u8 b)], [D.val (Value.int IntKind.u8 b)], [D.val (Value.int IntKind.u8 b)], [D.val (Value.int IntKind.u8 b)], [D.val (Value.int IntKind.u8 b)], [D.val (Value.int IntKind.u8 b)], [D.val (Value.int IntKind.u8 b)],
 [D.val (Value.int IntKind.u8 b)], [D.val (Value.int IntKind.u8 b)], [D.val (Value.int IntKind.u8 b)], [D.val (Value.int IntKind.u8 b)], [D.val (Value.int IntKind.u8 b)], [D.val (Value.int IntKind.u8 b)], [D.val (Value.int IntKind.u8 b)], [D.val (Value.int IntKind.u8 b)],
 [D.val (Value.int IntKind.u8 b)], [D.val (Value.int IntKind.u8 b)], [D.val (Value.int IntKind.u8 b)], [D.val (Value.int IntKind.u8 b)], [D.val (Value.int IntKind.u8 b)], [D.val (Value.int IntKind.u8 b)], [D.val (Value.int IntKind.u8 b)], [D.val (Value.int IntKind.u8 b)]]) =
 ints IntKind.u8 b_3 ∧
 a_7.length.le 1000000 ∧
 True ∧
 (decide (a_7 = b_3) = true →
 NonN (if (if 64 < keep then 64 else keep) > 0 then if 64 < keep then 64 else keep else 0) ∧
 True ∧
 (if (if 64 < keep then 64 else keep) > 0 then if 64 < keep then 64 else keep else 0).toNat ≤ (rdF d_3 ((IntKind.i64.wrap at').tmod 4)).fst.length - 0 ∧
 (rdF d_3 ((IntKind.i64.wrap at').tmod 4)).fst.length - 0 ≤ (rdF d_3 ((IntKind.i64.wrap at').tmod 4)).fst.length - 0 ∧
 NonN (if (if 64 < keep then 64 else keep) > 0 then if 64 < keep then 64 else keep else 0) ∧
 True ∧
 (if (if 64 < keep then 64 else keep) > 0 then if 64 < keep then 64 else keep else 0).toNat ≤ 64 ∧
 64 ≤ 64 ∧
 (0 + ((rdF d_3 ((IntKind.i64.wrap at').tmod 4)).fst.length - 0) ≤ (ints IntKind.u8 (rdF d_3 ((IntKind.i64.wrap at').tmod 4)).fst).length ∧ 64 ≤ 64 ∧ True) ∧
 ∃ (a_9 : List Int),
 ∃ (b : List Int),
 List.drop (0 + (if (if 64 < keep then 64 else keep) > 0 then if 64 < keep then 64 else keep else 0).toNat) (List.take (0 + ((rdF d_3 ((IntKind.i64.wrap at').tmod 4)).fst.length - 0)) (ints IntKind.u8 (rdF d_3 ((IntKind.i64.wrap at').tmod 4)).fst)) =
 ints IntKind.u8 a_9 ∧
 List.drop (0 + (if (if 64 < keep then 64 else keep) > 0 then if 64 < keep then 64 else keep else 0).toNat)
 [[D.val (Value.int IntKind.u8 a)], [D.val (Value.int IntKind.u8 a)], [D.val (Value.int IntKind.u8 a)], [D.val (Value.int IntKind.u8 a)], [D.val (Value.int IntKind.u8 a)], [D.val (Value.int IntKind.u8 a)], [D.val (Value.int IntKind.u8 a)],
 [D.val (Value.int IntKind.u8 a)], [D.val (Value.int IntKind.u8 a)], [D.val (Value.int IntKind.u8 a)], [D.val (Value.int IntKind.u8 a)], [D.val (Value.int IntKind.u8 a)], [D.val (Value.int IntKind.u8 a)], [D.val (Value.int IntKind.u8 a)],
 [D.val (Value.int IntKind.u8 a)], [D.val (Value.int IntKind.u8 a)], [D.val (Value.int IntKind.u8 a)], [D.val (Value.int IntKind.u8 a)], [D.val (Value.int IntKind.u8 a)], [D.val (Value.int IntKind.u8 a)], [D.val (Value.int IntKind.u8 a)],
 [D.val (Value.int IntKind.u8 a)], [D.val (Value.int IntKind.u8 a)], [D.val (Value.int IntKind.u8 a)], [D.val (Value.int IntKind.u8 a)], [D.val (Value.int IntKind.u8 a)], [D.val (Value.int IntKind.u8 a)], [D.val (Value.int IntKind.u8 a)],
 [D.val (Value.int IntKind.u8 a)], [D.val (Value.int IntKind.u8 a)], [D.val (Value.int IntKind.u8 a)], [D.val (Value.int IntKind.u8 a)], [D.val (Value.int IntKind.u8 a)], [D.val (Value.int IntKind.u8 a)], [D.val (Value.int IntKind.u8 a)],
 [D.val (Value.int IntKind.u8 a)], [D.val (Value.int IntKind.u8 a)], [D.val (Value.int IntKind.u8 a)], [D.val (Value.int IntKind.u8 a)], [D.val (Value.int IntKind.u8 a)], [D.val (Value.int IntKind.u8 a)], [D.val (Value.int IntKind.u8 a)],
 [D.val (Value.int IntKind.u8 a)], [D.val (Value.int IntKind.u8 a)], [D.val (Value.int IntKind.u8 a)], [D.val (Value.int IntKind.u8 a)], [D.val (Value.int IntKind.u8 a)], [D.val (Value.int IntKind.u8 a)], [D.val (Value.int IntKind.u8 a)],
 [D.val (Value.int IntKind.u8 a)], [D.val (Value.int IntKind.u8 a)], [D.val (Value.int IntKind.u8 a)], [D.val (Value.int IntKind.u8 a)], [D.val (Value.int IntKind.u8 a)], [D.val (Value.int IntKind.u8 a)], [D.val (Value.int IntKind.u8 a)],
 [D.val (Value.int IntKind.u8 a)], [D.val (Value.int IntKind.u8 a)], [D.val (Value.int IntKind.u8 a)], [D.val (Value.int IntKind.u8 a)], [D.val (Value.int IntKind.u8 a)], [D.val (Value.int IntKind.u8 a)], [D.val (Value.int IntKind.u8 a)],
 [D.val (Value.int IntKind.u8 a)]] =
 ints IntKind.u8 b ∧
 a_9.length.le 1000000 ∧ True ∧ (decide (a_9 = b) = true → true = true) ∧ (decide (a_9 = b) = false → False)) ∧
 (decide (a_7 = b_3) = false → False)))))))
 ) : XL [] 0 3 [.int .u8 a, .int .u8 b, .int .u8 at', .int .u8 fuse, .int .i64 keep] [] KT := by apply Eq.mp (a := hvc_); kernel_rfl
theorem vcOthers (l : List A5) (at' i : Int)  (hvc_ :
 (decide ((↑(List.map acD l).length : Int) > 30) = true → true = true) ∧
 (decide ((↑(List.map acD l).length : Int) > 30) = false →
 ((NewI 6 → False) → False) ∧
 (NewI 6 →
 (64 ≤ 64 ∧ True) ∧
 ∃ (d : Dev),
 ∃ (b : List Int),
 DIn d 6 0 (-1) false
 [(List.replicate 64 (D.val (Value.int IntKind.u8 0))),
 (List.replicate 64 (D.val (Value.int IntKind.u8 0))),
 (List.replicate 64 (D.val (Value.int IntKind.u8 0))),
 (List.replicate 64 (D.val (Value.int IntKind.u8 0))),
 (List.replicate 64 (D.val (Value.int IntKind.u8 0))),
 (List.replicate 64 (D.val (Value.int IntKind.u8 0)))]
 [] ∧
 (List.replicate 64 ([D.val (Value.int IntKind.u8 7)])) =
 ints IntKind.u8 b ∧
 d.w.length ≤ 900 ∧
 (PlainS (secs (wrtF d ((IntKind.i64.wrap at').tmod 6) b).snd.x).flatten ∧ PlainS (List.map wrD (wrtF d ((IntKind.i64.wrap at').tmod 6) b).snd.w).flatten) ∧
 (((wrtF d ((IntKind.i64.wrap at').tmod 6) b).fst != 0) = true → False) ∧
 (((wrtF d ((IntKind.i64.wrap at').tmod 6) b).fst != 0) = false →
 ∃ (d_1 : Dev),
 DIn d_1 (wrtF d ((IntKind.i64.wrap at').tmod 6) b).snd.x.length (wrtF d ((IntKind.i64.wrap at').tmod 6) b).snd.w.length (wrtF d ((IntKind.i64.wrap at').tmod 6) b).snd.f (wrtF d ((IntKind.i64.wrap at').tmod 6) b).snd.o (secs (wrtF d ((IntKind.i64.wrap at').tmod 6) b).snd.x) (List.map wrD (wrtF d ((IntKind.i64.wrap at').tmod 6) b).snd.w) ∧
 (((flsF d_1).fst != 0) = true → False) ∧
 (((flsF d_1).fst != 0) = false →
 At (otLI l i) ([V.dat (D.sl 5 (List.map acD l)), V.ptr 0 0, V.int IntKind.i64 ((IntKind.i64.wrap at').tmod 6), V.int IntKind.i64 0], [KO.cells [V.sl 1 0 (flsF d_1).snd.x.length, V.sl 2 0 (flsF d_1).snd.w.length, V.int IntKind.i64 (flsF d_1).snd.f, V.sb (flsF d_1).snd.o], KO.row 47 64 (secs (flsF d_1).snd.x), KO.row 49 129 (List.map wrD (flsF d_1).snd.w)]) ∧
 ∀ (i_1 : { q : Nat × Dev // OtI l.length i q.fst q.snd }),
 (decide ((↑i_1.val.fst : Int) < (↑(List.map acD l).length : Int)) = true →
 NonN (↑i_1.val.fst : Int) ∧
 ∃ (e : List D),
 (List.map acD l)[(↑i_1.val.fst : Int).toNat]? = some e ∧
 ∃ (n : Int),
 e[0]? = some (D.val (Value.int IntKind.i64 n)) ∧
 ((n == 0) = true →
 NonN (↑i_1.val.fst : Int) ∧
 ∃ (e : List D),
 (List.map acD l)[(↑i_1.val.fst : Int).toNat]? = some e ∧
 ∃ (n : Int),
 e[1]? = some (D.val (Value.int IntKind.i64 n)) ∧
 ((n != i) = true →
 NonN (↑i_1.val.fst : Int) ∧
 ∃ (e : List D),
 (List.map acD l)[(↑i_1.val.fst : Int).toNat]? = some e ∧
 ∃ (n : Int),
 e[1]? = some (D.val (Value.int IntKind.i64 n)) ∧
 NonN (↑i_1.val.fst : Int) ∧
 ∃ (e_1 : List D),
 (List.map acD l)[(↑i_1.val.fst : Int).toNat]? = some e_1 ∧
 ∃ (n_1 : Int),
 e_1[3]? = some (D.val (Value.int IntKind.u8 n_1)) ∧
 (∃ (n_2 : Int), e[1]? = some (D.val (Value.int IntKind.i64 n_2)) ∧ EqI n_2 n) ∧
 (64 ≤ 64 ∧ True) ∧
 ∃ (d : Dev),
 ∃ (b : List Int),
 DIn d i_1.val.snd.x.length i_1.val.snd.w.length i_1.val.snd.f i_1.val.snd.o (secs i_1.val.snd.x) (List.map wrD i_1.val.snd.w) ∧
 [[D.val (Value.int IntKind.u8 n_1)], [D.val (Value.int IntKind.u8 n_1)], [D.val (Value.int IntKind.u8 n_1)], [D.val (Value.int IntKind.u8 n_1)], [D.val (Value.int IntKind.u8 n_1)], [D.val (Value.int IntKind.u8 n_1)], [D.val (Value.int IntKind.u8 n_1)], [D.val (Value.int IntKind.u8 n_1)],
 [D.val (Value.int IntKind.u8 n_1)], [D.val (Value.int IntKind.u8 n_1)], [D.val (Value.int IntKind.u8 n_1)], [D.val (Value.int IntKind.u8 n_1)], [D.val (Value.int IntKind.u8 n_1)], [D.val (Value.int IntKind.u8 n_1)], [D.val (Value.int IntKind.u8 n_1)], [D.val (Value.int IntKind.u8 n_1)],
 [D.val (Value.int IntKind.u8 n_1)], [D.val (Value.int IntKind.u8 n_1)], [D.val (Value.int IntKind.u8 n_1)], [D.val (Value.int IntKind.u8 n_1)], [D.val (Value.int IntKind.u8 n_1)], [D.val (Value.int IntKind.u8 n_1)], [D.val (Value.int IntKind.u8 n_1)], [D.val (Value.int IntKind.u8 n_1)],
 [D.val (Value.int IntKind.u8 n_1)], [D.val (Value.int IntKind.u8 n_1)], [D.val (Value.int IntKind.u8 n_1)], [D.val (Value.int IntKind.u8 n_1)], [D.val (Value.int IntKind.u8 n_1)], [D.val (Value.int IntKind.u8 n_1)], [D.val (Value.int IntKind.u8 n_1)], [D.val (Value.int IntKind.u8 n_1)],
 [D.val (Value.int IntKind.u8 n_1)], [D.val (Value.int IntKind.u8 n_1)], [D.val (Value.int IntKind.u8 n_1)], [D.val (Value.int IntKind.u8 n_1)], [D.val (Value.int IntKind.u8 n_1)], [D.val (Value.int IntKind.u8 n_1)], [D.val (Value.int IntKind.u8 n_1)], [D.val (Value.int IntKind.u8 n_1)],
 [D.val (Value.int IntKind.u8 n_1)], [D.val (Value.int IntKind.u8 n_1)], [D.val (Value.int IntKind.u8 n_1)], [D.val (Value.int IntKind.u8 n_1)], [D.val (Value.int IntKind.u8 n_1)], [D.val (Value.int IntKind.u8 n_1)], [D.val (Value.int IntKind.u8 n_1)], [D.val (Value.int IntKind.u8 n_1)],
 [D.val (Value.int IntKind.u8 n_1)], [D.val (Value.int IntKind.u8 n_1)], [D.val (Value.int IntKind.u8 n_1)], [D.val (Value.int IntKind.u8 n_1)], [D.val (Value.int IntKind.u8 n_1)], [D.val (Value.int IntKind.u8 n_1)], [D.val (Value.int IntKind.u8 n_1)], [D.val (Value.int IntKind.u8 n_1)],
 [D.val (Value.int IntKind.u8 n_1)], [D.val (Value.int IntKind.u8 n_1)], [D.val (Value.int IntKind.u8 n_1)], [D.val (Value.int IntKind.u8 n_1)], [D.val (Value.int IntKind.u8 n_1)], [D.val (Value.int IntKind.u8 n_1)], [D.val (Value.int IntKind.u8 n_1)], [D.val (Value.int IntKind.u8 n_1)]] =
 ints IntKind.u8 b ∧
 d.w.length ≤ 900 ∧
 (PlainS (secs (wrtF d n b).snd.x).flatten ∧ PlainS (List.map wrD (wrtF d n b).snd.w).flatten) ∧
 Nx (otLI l i) i_1
 ([V.dat (D.sl 5 (List.map acD l)), V.ptr 0 0, V.int IntKind.i64 i, V.int IntKind.i64 (IntKind.i64.wrap ((↑i_1.val.fst : Int) + 1))],
 [KO.cells [V.sl 1 0 (wrtF d n b).snd.x.length, V.sl 2 0 (wrtF d n b).snd.w.length, V.int IntKind.i64 (wrtF d n b).snd.f, V.sb (wrtF d n b).snd.o], KO.row 47 64 (secs (wrtF d n b).snd.x), KO.row 49 129 (List.map wrD (wrtF d n b).snd.w)])) ∧
 ((n != i) = false →
 Nx (otLI l i) i_1
 ([V.dat (D.sl 5 (List.map acD l)), V.ptr 0 0, V.int IntKind.i64 i, V.int IntKind.i64 (IntKind.i64.wrap ((↑i_1.val.fst : Int) + 1))],
 [KO.cells [V.sl 1 0 i_1.val.snd.x.length, V.sl 2 0 i_1.val.snd.w.length, V.int IntKind.i64 i_1.val.snd.f, V.sb i_1.val.snd.o], KO.row 47 64 (secs i_1.val.snd.x), KO.row 49 129 (List.map wrD i_1.val.snd.w)]))) ∧
 ((n == 0) = false →
 ((n == 2) = true →
 ∃ (d : Dev),
 DIn d i_1.val.snd.x.length i_1.val.snd.w.length i_1.val.snd.f i_1.val.snd.o (secs i_1.val.snd.x) (List.map wrD i_1.val.snd.w) ∧
 Nx (otLI l i) i_1
 ([V.dat (D.sl 5 (List.map acD l)), V.ptr 0 0, V.int IntKind.i64 i, V.int IntKind.i64 (IntKind.i64.wrap ((↑i_1.val.fst : Int) + 1))],
 [KO.cells [V.sl 1 0 (flsF d).snd.x.length, V.sl 2 0 (flsF d).snd.w.length, V.int IntKind.i64 (flsF d).snd.f, V.sb (flsF d).snd.o], KO.row 47 64 (secs (flsF d).snd.x), KO.row 49 129 (List.map wrD (flsF d).snd.w)])) ∧
 ((n == 2) = false →
 ((n == 3) = true →
 NonN (↑i_1.val.fst : Int) ∧
 ∃ (e : List D),
 (List.map acD l)[(↑i_1.val.fst : Int).toNat]? = some e ∧
 ∃ (n : Int),
 e[1]? = some (D.val (Value.int IntKind.i64 n)) ∧
 ∃ (d : Dev),
 DIn d i_1.val.snd.x.length i_1.val.snd.w.length i_1.val.snd.f i_1.val.snd.o (secs i_1.val.snd.x) (List.map wrD i_1.val.snd.w) ∧
 Nx (otLI l i) i_1
 ([V.dat (D.sl 5 (List.map acD l)), V.ptr 0 0, V.int IntKind.i64 i, V.int IntKind.i64 (IntKind.i64.wrap ((↑i_1.val.fst : Int) + 1))],
 [KO.cells [V.sl 1 0 (fuseF d n).x.length, V.sl 2 0 (fuseF d n).w.length, V.int IntKind.i64 (fuseF d n).f, V.sb (fuseF d n).o], KO.row 47 64 (secs (fuseF d n).x), KO.row 49 129 (List.map wrD (fuseF d n).w)])) ∧
 ((n == 3) = false →
 ((n == 4) = true →
 NonN (↑i_1.val.fst : Int) ∧
 ∃ (e : List D),
 (List.map acD l)[(↑i_1.val.fst : Int).toNat]? = some e ∧
 ∃ (l_1 : List (List D)),
 e[4]? = some (D.sl 1 l_1) ∧
 ∃ (d : Dev),
 ∃ (keeps : List Int),
 DIn d i_1.val.snd.x.length i_1.val.snd.w.length i_1.val.snd.f i_1.val.snd.o (secs i_1.val.snd.x) (List.map wrD i_1.val.snd.w) ∧
 l_1 = ints IntKind.i64 keeps ∧
 Nx (otLI l i) i_1
 ([V.dat (D.sl 5 (List.map acD l)), V.ptr 0 0, V.int IntKind.i64 i, V.int IntKind.i64 (IntKind.i64.wrap ((↑i_1.val.fst : Int) + 1))],
 [KO.cells [V.sl 1 0 (bootF d keeps).x.length, V.sl 2 0 0, V.int IntKind.i64 (bootF d keeps).f, V.sb (bootF d keeps).o], KO.row 47 64 (secs (bootF d keeps).x), KO.row 49 129 []])) ∧
 ((n == 4) = false →
 Nx (otLI l i) i_1
 ([V.dat (D.sl 5 (List.map acD l)), V.ptr 0 0, V.int IntKind.i64 i, V.int IntKind.i64 (IntKind.i64.wrap ((↑i_1.val.fst : Int) + 1))],
 [KO.cells [V.sl 1 0 i_1.val.snd.x.length, V.sl 2 0 i_1.val.snd.w.length, V.int IntKind.i64 i_1.val.snd.f, V.sb i_1.val.snd.o], KO.row 47 64 (secs i_1.val.snd.x), KO.row 49 129 (List.map wrD i_1.val.snd.w)])))))) ∧
 (decide ((↑i_1.val.fst : Int) < (↑(List.map acD l).length : Int)) = false →
 ∃ (d : Dev),
 ∃ (keeps : List Int),
 DIn d i_1.val.snd.x.length i_1.val.snd.w.length i_1.val.snd.f i_1.val.snd.o (secs i_1.val.snd.x) (List.map wrD i_1.val.snd.w) ∧
 [] = ints IntKind.i64 keeps ∧
 ∃ (d_2 : Dev),
 DIn d_2 (bootF d keeps).x.length 0 (bootF d keeps).f (bootF d keeps).o (secs (bootF d keeps).x) [] ∧
 (((rdF d_2 i).snd == 0) = true →
 ((rdF d_2 i).fst.length ≤ (ints IntKind.u8 (rdF d_2 i).fst).length ∧ 64 ≤ 64 ∧ True) ∧
 ∃ (a : List Int),
 ∃ (b : List Int),
 List.drop 0 (List.take (rdF d_2 i).fst.length (ints IntKind.u8 (rdF d_2 i).fst)) = ints IntKind.u8 a ∧
 (List.replicate 64 ([D.val (Value.int IntKind.u8 7)])) =
 ints IntKind.u8 b ∧
 a.length.le 1000000 ∧ True ∧ (decide (a = b) = true → true = true) ∧ (decide (a = b) = false → False)) ∧
 (((rdF d_2 i).snd == 0) = false → False))))))
 ) : XL l i 4 [.dat (.sl 5 (l.map acD)), .int .u8 at'] [] KT := by apply Eq.mp (a := hvc_); kernel_rfl
end Go.Proofs.Ytnglmhckcfnfaaa
