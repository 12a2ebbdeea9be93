import Derived.Test.YtnglmhckcfnfaaaBa
import Derived.Test.YtnglmhckcfnfaaaVdW
import Derived.KernelRfl
namespace Go.Proofs.Ytnglmhckcfnfaaa
open Vc Go
set_option linter.unusedVariables false
set_option linter.unusedSimpArgs false
set_option maxRecDepth 100000
/-! A device, whatever its power does. -/
def secs (x : List (List Int)) : List (List D) := x.map (dns .u8)
def zer (n : Nat) : List (List Int) := List.replicate n (List.replicate 64 0)
structure Sec64 (x : List (List Int)) : Prop where
  len : x.length ≤ 4096
  each : ∀ b ∈ x, b.length = 64
structure W3 where
  at' : Int
  was : List Int
  now : List Int
def wrD (p : W3) : List D := .val (.int .i64 p.at') :: (dns .u8 p.was ++ dns .u8 p.now)
structure Dev where
  x : List (List Int)
  w : List W3
  f : Int
  o : Bool
abbrev secR (x : List (List Int)) : KO := .row 47 64 (secs x)
abbrev waiR (w : List W3) : KO := .row 49 129 (w.map wrD)
abbrev devA (d : Dev) : KB := [.cells [.sl 1 0 d.x.length, .sl 2 0 d.w.length, .int .i64 d.f, .sb d.o], secR d.x, waiR d.w]
abbrev devK (d : Dev) : KB := [.cells [.sl 1 0 d.x.length, .sl 3 0 d.w.length, .int .i64 d.f, .sb d.o], secR d.x, .dead, waiR d.w]
structure W3Ok (n : Nat) (p : W3) : Prop where
  lo : 0 ≤ p.at'
  hi : p.at' < n
  was : p.was.length = 64
  now : p.now.length = 64
structure DOk (d : Dev) : Prop where
  s : Sec64 d.x
  wl : d.w.length ≤ 1000
  w : ∀ p ∈ d.w, W3Ok d.x.length p
  f : inI d.f
structure DIn (d : Dev) (n m : Nat) (f : Int) (o : Bool) (X W : List (List D)) : Prop where
  ok : DOk d
  n : n = d.x.length
  m : m = d.w.length
  f : f = d.f
  o : o = d.o
  X : X = secs d.x
  W : W = d.w.map wrD
def gS (x : List (List Int)) (i : Int) : List Int := x.getD i.toNat []
/-- The power fails, perhaps. -/
def brn (d : Dev) : Bool × Dev := if d.o = true then (true, d) else if d.f = 0 then (true, { d with o := true }) else if 0 < d.f then (false, { d with f := d.f - 1 }) else (false, d)
structure WrI (x : List (List Int)) (i : Int) (b : List Int) : Prop where
  lo : 0 ≤ i
  hi : i < x.length
  b64 : b.length = 64
structure WrJ (d : Dev) (i : Int) (b : List Int) : Prop where
  w : WrI d.x i b
  nb : (brn d).1 = false
open Classical in
noncomputable def wrtF (d : Dev) (i : Int) (b : List Int) : Int × Dev :=
  if (brn d).1 = true then (16, (brn d).2) else if WrI d.x i b then (0, { (brn d).2 with x := d.x.set i.toNat b, w := d.w ++ [⟨i, gS d.x i, b⟩] }) else (1, (brn d).2)
def flsF (d : Dev) : Int × Dev := if (brn d).1 = true then (16, (brn d).2) else (0, { (brn d).2 with w := [] })
def rdF (d : Dev) (i : Int) : List Int × Int := if d.o = true then ([], 17) else if 0 ≤ i ∧ i < d.x.length then (gS d.x i, 0) else ([], 1)
def fuseF (d : Dev) (z : Int) : Dev := { d with f := if z < -1 then -1 else z }
def Sburns : FSpec := fun args kb K => match args, kb with
  | [.ptr 0 0], [.cells [.sl 1 0 n, .sl 2 0 m, .int .i64 f, .sb o], .row 47 64 X, .row 49 129 W] => ∃ d : Dev, DIn d n m f o X W ∧ K (.sb (brn d).1) (devA (brn d).2)
  | _, _ => False
def SgWrite : FSpec := fun args kb K => match args, kb with
  | [.ptr 0 0, .int .i64 i, .dat (.sl 1 B)], [.cells [.sl 1 0 n, .sl 2 0 m, .int .i64 f, .sb o], .row 47 64 X, .row 49 129 W] => ∃ (d : Dev) (b : List Int), DIn d n m f o X W ∧ B = ints .u8 b ∧ d.w.length ≤ 900 ∧ K (.int .i64 (wrtF d i b).1) (devK (wrtF d i b).2)
  | _, _ => False
def SgFlush : FSpec := fun args kb K => match args, kb with
  | [.ptr 0 0], [.cells [.sl 1 0 n, .sl 2 0 m, .int .i64 f, .sb o], .row 47 64 X, .row 49 129 W] => ∃ d : Dev, DIn d n m f o X W ∧ K (.int .i64 (flsF d).1) (devK (flsF d).2)
  | _, _ => False
def SgFuse : FSpec := fun args kb K => match args, kb with
  | [.ptr 0 0, .int .i64 z], [.cells [.sl 1 0 n, .sl 2 0 m, .int .i64 f, .sb o], .row 47 64 X, .row 49 129 W] => ∃ d : Dev, DIn d n m f o X W ∧ K (.tup []) (devA (fuseF d z))
  | _, _ => False
def SgRead : FSpec := fun args kb K => match args, kb with
  | [.ptr 0 0, .int .i64 i], [.cells [.sl 1 0 n, .sl 2 0 m, .int .i64 f, .sb o], .row 47 64 X, .row 49 129 W] => ∃ d : Dev, DIn d n m f o X W ∧ K (.tup [.sl 3 0 (rdF d i).1.length, .int .i64 (rdF d i).2]) (devA d ++ [.row 5 1 (ints .u8 (rdF d i).1)])
  | _, _ => False
structure NewI (n : Int) : Prop where
  lo : 1 ≤ n
  hi : n ≤ 4096
def SgNew : FSpec := fun args kb K => match args, kb with
  | [.int .i64 n], [] => (¬ NewI n → K (.any (.pointer none)) []) ∧ (NewI n → K (.ptr 0 0) (devA ⟨zer n.toNat, [], -1, false⟩))
  | _, _ => False
def bkX (x : List (List Int)) (w : List W3) : List (List Int) := w.foldr (fun p x => x.set p.at'.toNat p.was) x
def kN (keeps : List Int) (k : Nat) : Nat := if k < keeps.length then (min (max (keeps.getD k 0) 0) 64).toNat else 64
def gW (w : List W3) (i : Nat) : W3 := w.getD i ⟨0, [], []⟩
def fwX (keeps : List Int) (x : List (List Int)) (w : List W3) : Nat → List (List Int)
  | 0 => x
  | i + 1 => (fwX keeps x w i).set (gW w i).at'.toNat ((gW w i).now.take (kN keeps i) ++ (gS (fwX keeps x w i) (gW w i).at').drop (kN keeps i))
def bootF (d : Dev) (keeps : List Int) : Dev := ⟨fwX keeps (bkX d.x d.w) d.w d.w.length, [], -1, false⟩
def SgBoot : FSpec := fun args kb K => match args, kb with
  | [.ptr 0 0, .dat (.sl 1 A)], [.cells [.sl 1 0 n, .sl 2 0 m, .int .i64 f, .sb o], .row 47 64 X, .row 49 129 W] => ∃ (d : Dev) (keeps : List Int), DIn d n m f o X W ∧ A = ints .i64 keeps ∧ K (.tup []) (devK (bootF d keeps))
  | [.ptr 0 0, .any (.slice none 0 0)], [.cells [.sl 1 0 n, .sl 2 0 m, .int .i64 f, .sb o], .row 47 64 X, .row 49 129 W] => ∃ (d : Dev), DIn d n m f o X W ∧ K (.tup []) (devK (bootF d []))
  | _, _ => False
abbrev bkLI (d : Dev) (l : Nat) : LI where
  α := {j : Nat // j ≤ d.w.length}
  live := [0, 1, 3]
  st j := ([.any (.func (.yield l) #[] #[]), .ptr 4 0, .int .i64 ((j.1 : Int) - 1)], [.cells [.sl 1 0 d.x.length, .sl 2 0 d.w.length, .int .i64 d.f, .sb d.o], secR (bkX d.x (d.w.drop j.1)), waiR d.w, .cells [.ptr 0 0], .cells [.sl 2 0 d.w.length]])
  μ j := j.1
abbrev bkO (d : Dev) : LI where
  α := Unit
  live := []
  st _ := ([], [])
  μ _ := 0
  itl l := some (bkLI d l)
abbrev fwLI (d : Dev) (a : V) (keeps : List Int) : LI where
  α := {i : Nat // i ≤ d.w.length}
  live := [1, 2, 28, 29, 30]
  st i := ([a, .ptr 3 0, .sl 2 0 d.w.length, .int .i64 (d.w.length : Int), .int .i64 (i.1 : Int)], [.cells [.sl 1 0 d.x.length, .sl 2 0 d.w.length, .int .i64 d.f, .sb d.o], secR (fwX keeps (bkX d.x d.w) d.w i.1), waiR d.w, .cells [.ptr 0 0]])
  μ i := d.w.length - i.1
def boT (d : Dev) (a : V) (keeps : List Int) : FuncId → Nat → Option LI
  | 10, 2003 => some (bkO d)
  | 10, 5 => some (fwLI d a keeps)
  | _, _ => none
def dvS : FuncId → Option Known
  | 14 => some ⟨[], Sburns⟩
  | 17 => some ⟨[.lend 1], ScloneN 5⟩
  | _ => none
noncomputable def XDv : CallT := callS Try.prog dvS noT 10
abbrev wrC1 (d : Dev) (i : Int) (b : List Int) : LI where
  α := {q : Nat // WrJ d i b}
  live := [0, 1, 2]
  st q := ([.ptr 0 0, .int .i64 i, .dat (.sl 1 (ints .u8 b))], devA (brn d).2)
  μ q := 0
abbrev wrC2 (d : Dev) (i : Int) (b : List Int) : LI where
  α := {q : Nat // WrJ d i b}
  live := [0, 1, 7]
  st q := ([.ptr 0 0, .int .i64 i, .ptr 3 0], devA (brn d).2 ++ [.cells [.int .i64 i, .arr 64 (dns .u8 (gS d.x i)), .arr 64 (dns .u8 b)]])
  μ q := 0
def wrT (d : Dev) (i : Int) (b : List Int) : FuncId → Nat → Option LI
  | 6, 1005 => some (wrC1 d i b)
  | 6, 1006 => some (wrC2 d i b)
  | _, _ => none
theorem vcBurnsG (d : Dev) (K : V → KB → Prop) (hvc_ :
 (d.o = true → K (V.sb true) [KO.cells [V.sl 1 0 d.x.length, V.sl 2 0 d.w.length, V.int IntKind.i64 d.f, V.sb d.o], KO.row 47 64 (secs d.x), KO.row 49 129 (List.map wrD d.w)]) ∧
 (d.o = false →
 ((d.f == 0) = true → K (V.sb true) [KO.cells [V.sl 1 0 d.x.length, V.sl 2 0 d.w.length, V.int IntKind.i64 d.f, V.sb true], KO.row 47 64 (secs d.x), KO.row 49 129 (List.map wrD d.w)]) ∧
 ((d.f == 0) = false →
 (decide (d.f > 0) = true → K (V.sb false) [KO.cells [V.sl 1 0 d.x.length, V.sl 2 0 d.w.length, V.int IntKind.i64 (IntKind.i64.wrap (d.f - 1)), V.sb d.o], KO.row 47 64 (secs d.x), KO.row 49 129 (List.map wrD d.w)]) ∧
 (decide (d.f > 0) = false → K (V.sb false) [KO.cells [V.sl 1 0 d.x.length, V.sl 2 0 d.w.length, V.int IntKind.i64 d.f, V.sb d.o], KO.row 47 64 (secs d.x), KO.row 49 129 (List.map wrD d.w)])))
 ) : runSpec Try.prog X0 (noT 14) 14 [.ptr 0 0] (devA d) (tidyRes 3 K) := by apply Eq.mp (a := hvc_); kernel_rfl
theorem vcNewG (n : Int) (K : V → KB → Prop) (hvc_ :
 (decide (n < 1) = true → K (V.any (Value.pointer none)) []) ∧
 (decide (n < 1) = false →
 (decide (n > 4096) = true → K (V.any (Value.pointer none)) []) ∧
 (decide (n > 4096) = false →
 NonN n ∧
 Room n n 64 ∧
 K (V.ptr 0 0)
 [KO.cells [V.sl 1 0 n.toNat, V.sl 2 0 0, V.int IntKind.i64 (-1), V.sb false],
 KO.row 47 64
 (List.replicate n.toNat
 (List.replicate 64 (D.val (Value.int IntKind.u8 0)))),
 KO.row 49 129 []]))
 ) : runSpec Try.prog X0 (noT 5) 5 [.int .i64 n] [] (nilRes [.cell 0 1 49 129] K) := by apply Eq.mp (a := hvc_); kernel_rfl
theorem vcFuseG (d : Dev) (z : Int) (K : V → KB → Prop) (hvc_ :
 K (V.tup []) [KO.cells [V.sl 1 0 d.x.length, V.sl 2 0 d.w.length, V.int IntKind.i64 (if -1 > z then -1 else z), V.sb d.o], KO.row 47 64 (secs d.x), KO.row 49 129 (List.map wrD d.w)]
 ) : runSpec Try.prog X0 (noT 9) 9 [.ptr 0 0, .int .i64 z] (devA d) (tidyRes 3 K) := by apply Eq.mp (a := hvc_); kernel_rfl
theorem vcReadG (d : Dev) (i : Int) (K : V → KB → Prop) (hvc_ :
 (d.o = true → K (V.tup [V.sl 3 0 0, V.int IntKind.i64 17]) [KO.cells [V.sl 1 0 d.x.length, V.sl 2 0 d.w.length, V.int IntKind.i64 d.f, V.sb d.o], KO.row 47 64 (secs d.x), KO.row 49 129 (List.map wrD d.w), KO.row 5 1 []]) ∧
 (d.o = false →
 (decide (i ≥ 0) = true →
 ((!decide (i < (↑(d.x.length - 0) : Int))) = true → K (V.tup [V.sl 3 0 0, V.int IntKind.i64 1]) [KO.cells [V.sl 1 0 d.x.length, V.sl 2 0 d.w.length, V.int IntKind.i64 d.f, V.sb d.o], KO.row 47 64 (secs d.x), KO.row 49 129 (List.map wrD d.w), KO.row 5 1 []]) ∧
 ((!decide (i < (↑(d.x.length - 0) : Int))) = false →
 InB i (d.x.length - 0) ∧
 True ∧
 True ∧
 0 ≤ 64 ∧
 64 ≤ 64 ∧
 ((0 + i.toNat < (secs d.x).length ∧ 64 ≤ 64) ∧ True) ∧
 (ones (List.take 64 (List.drop 0 ((secs d.x)[0 + i.toNat]?.getD [])))).length ≤ 1000000 ∧
 PlainS (ones (List.take 64 (List.drop 0 ((secs d.x)[0 + i.toNat]?.getD [])))).flatten ∧
 K (V.tup [V.sl 3 0 (ones (List.take 64 (List.drop 0 ((secs d.x)[0 + i.toNat]?.getD [])))).length, V.int IntKind.i64 0]) [KO.cells [V.sl 1 0 d.x.length, V.sl 2 0 d.w.length, V.int IntKind.i64 d.f, V.sb d.o], KO.row 47 64 (secs d.x), KO.row 49 129 (List.map wrD d.w), KO.row 5 1 (ones (List.take 64 (List.drop 0 ((secs d.x)[0 + i.toNat]?.getD []))))])) ∧
 (decide (i ≥ 0) = false → K (V.tup [V.sl 3 0 0, V.int IntKind.i64 1]) [KO.cells [V.sl 1 0 d.x.length, V.sl 2 0 d.w.length, V.int IntKind.i64 d.f, V.sb d.o], KO.row 47 64 (secs d.x), KO.row 49 129 (List.map wrD d.w), KO.row 5 1 []]))
 ) : runSpec Try.prog XDv (noT 11) 11 [.ptr 0 0, .int .i64 i] (devA d) (nilRes [.slot 0 5 1] (tidyRes 3 K)) := by apply Eq.mp (a := hvc_); kernel_rfl
theorem vcFlushG (d : Dev) (K : V → KB → Prop) (hvc_ :
 ∃ (d_1 : Dev),
 DIn d_1 d.x.length d.w.length d.f d.o (secs d.x) (List.map wrD d.w) ∧
 ((brn d_1).fst = true → K (V.int IntKind.i64 16) [KO.cells [V.sl 1 0 (brn d_1).snd.x.length, V.sl 3 0 (brn d_1).snd.w.length, V.int IntKind.i64 (brn d_1).snd.f, V.sb (brn d_1).snd.o], KO.row 47 64 (secs (brn d_1).snd.x), KO.dead, KO.row 49 129 (List.map wrD (brn d_1).snd.w)]) ∧
 ((brn d_1).fst = false → K (V.int IntKind.i64 0) [KO.cells [V.sl 1 0 (brn d_1).snd.x.length, V.sl 3 0 0, V.int IntKind.i64 (brn d_1).snd.f, V.sb (brn d_1).snd.o], KO.row 47 64 (secs (brn d_1).snd.x), KO.dead, KO.row 49 129 []])
 ) : runSpec Try.prog XDv (noT 8) 8 [.ptr 0 0] (devA d) (nilRes [.cell 0 1 49 129, .mv 0 1, .kill 2] (tidyRes 3 K)) := by apply Eq.mp (a := hvc_); kernel_rfl
theorem vcWriteG (d : Dev) (i : Int) (b : List Int) (K : V → KB → Prop) (hvc_ :
 (∃ (d_1 : Dev),
 DIn d_1 d.x.length d.w.length d.f d.o (secs d.x) (List.map wrD d.w) ∧
 ((brn d_1).fst = true → K (V.int IntKind.i64 16) [KO.cells [V.sl 1 0 (brn d_1).snd.x.length, V.sl 3 0 (brn d_1).snd.w.length, V.int IntKind.i64 (brn d_1).snd.f, V.sb (brn d_1).snd.o], KO.row 47 64 (secs (brn d_1).snd.x), KO.dead, KO.row 49 129 (List.map wrD (brn d_1).snd.w)]) ∧
 ((brn d_1).fst = false →
 (decide (i ≥ 0) = true →
 ((!decide (i < (↑((brn d_1).snd.x.length - 0) : Int))) = true → K (V.int IntKind.i64 1) [KO.cells [V.sl 1 0 (brn d_1).snd.x.length, V.sl 3 0 (brn d_1).snd.w.length, V.int IntKind.i64 (brn d_1).snd.f, V.sb (brn d_1).snd.o], KO.row 47 64 (secs (brn d_1).snd.x), KO.dead, KO.row 49 129 (List.map wrD (brn d_1).snd.w)]) ∧
 ((!decide (i < (↑((brn d_1).snd.x.length - 0) : Int))) = false →
 (((↑(ints IntKind.u8 b).length : Int) != 64) = true → K (V.int IntKind.i64 1) [KO.cells [V.sl 1 0 (brn d_1).snd.x.length, V.sl 3 0 (brn d_1).snd.w.length, V.int IntKind.i64 (brn d_1).snd.f, V.sb (brn d_1).snd.o], KO.row 47 64 (secs (brn d_1).snd.x), KO.dead, KO.row 49 129 (List.map wrD (brn d_1).snd.w)]) ∧
 (((↑(ints IntKind.u8 b).length : Int) != 64) = false → At (wrC1 d i b) ([V.ptr 0 0, V.int IntKind.i64 i, V.dat (D.sl 1 (ints IntKind.u8 b))], [KO.cells [V.sl 1 0 (brn d_1).snd.x.length, V.sl 2 0 (brn d_1).snd.w.length, V.int IntKind.i64 (brn d_1).snd.f, V.sb (brn d_1).snd.o], KO.row 47 64 (secs (brn d_1).snd.x), KO.row 49 129 (List.map wrD (brn d_1).snd.w)])))) ∧
 (decide (i ≥ 0) = false → K (V.int IntKind.i64 1) [KO.cells [V.sl 1 0 (brn d_1).snd.x.length, V.sl 3 0 (brn d_1).snd.w.length, V.int IntKind.i64 (brn d_1).snd.f, V.sb (brn d_1).snd.o], KO.row 47 64 (secs (brn d_1).snd.x), KO.dead, KO.row 49 129 (List.map wrD (brn d_1).snd.w)]))) ∧
 ∀ (i_1 : { q : Nat // WrJ d i b }),
 ((InB i ((brn d).snd.x.length - 0) ∧
 ∃ (e : List D),
 (secs (brn d).snd.x)[0 + i.toNat]? = some e ∧
 64 ≤ e.length ∧
 64 ≤ (ints IntKind.u8 b).length ∧
 64 ≤ (ints IntKind.u8 b).flatten.length ∧
 (PlainD (List.take 64 (List.drop 0 (ints IntKind.u8 b).flatten)) ∧ 64 ≤ (ints IntKind.u8 b).flatten.length ∧ V.arr 64 (List.take 64 (List.drop 0 (ints IntKind.u8 b).flatten)) = V.arr 64 (List.take 64 (List.drop 0 (ints IntKind.u8 b).flatten))) ∧
 (PlainD (List.take 64 (List.drop 0 e)) ∧ ∃ (e_1 : List D), (secs (brn d).snd.x)[0 + i.toNat]? = some e_1 ∧ 64 ≤ e_1.length ∧ V.arr 64 (List.take 64 (List.drop 0 e_1)) = V.arr 64 (List.take 64 (List.drop 0 e))) ∧
 At (wrC2 d i b)
 ([V.ptr 0 0, V.int IntKind.i64 i, V.ptr 3 0],
 [KO.cells [V.sl 1 0 (brn d).snd.x.length, V.sl 2 0 (brn d).snd.w.length, V.int IntKind.i64 (brn d).snd.f, V.sb (brn d).snd.o], KO.row 47 64 (secs (brn d).snd.x), KO.row 49 129 (List.map wrD (brn d).snd.w), KO.cells [V.int IntKind.i64 i, V.arr 64 (List.take 64 (List.drop 0 e)), V.arr 64 (List.take 64 (List.drop 0 (ints IntKind.u8 b).flatten))]])) ∧
 ((InB i ((brn d).snd.x.length - 0) ∧
 ∃ (e : List D),
 (secs (brn d).snd.x)[0 + i.toNat]? = some e ∧
 64 ≤ e.length ∧
 64 ≤ (ints IntKind.u8 b).length ∧
 64 ≤ (ints IntKind.u8 b).flatten.length ∧
 (PlainD (List.take 64 (List.drop 0 (ints IntKind.u8 b).flatten)) ∧ 64 ≤ (ints IntKind.u8 b).flatten.length ∧ V.arr 64 (List.take 64 (List.drop 0 (ints IntKind.u8 b).flatten)) = V.arr 64 (List.take 64 (List.drop 0 (ints IntKind.u8 b).flatten))) ∧
 (PlainD (List.take 64 (List.drop 0 e)) ∧ ∃ (e_1 : List D), (secs (brn d).snd.x)[0 + i.toNat]? = some e_1 ∧ 64 ≤ e_1.length ∧ V.arr 64 (List.take 64 (List.drop 0 e_1)) = V.arr 64 (List.take 64 (List.drop 0 e))) ∧
 At (wrC2 d i b)
 ([V.ptr 0 0, V.int IntKind.i64 i, V.ptr 3 0],
 [KO.cells [V.sl 1 0 (brn d).snd.x.length, V.sl 2 0 (brn d).snd.w.length, V.int IntKind.i64 (brn d).snd.f, V.sb (brn d).snd.o], KO.row 47 64 (secs (brn d).snd.x), KO.row 49 129 (List.map wrD (brn d).snd.w), KO.cells [V.int IntKind.i64 i, V.arr 64 (List.take 64 (List.drop 0 e)), V.arr 64 (List.take 64 (List.drop 0 (ints IntKind.u8 b).flatten))]])) ∧
 ((InB i ((brn d).snd.x.length - 0) ∧
 ∃ (e : List D),
 (secs (brn d).snd.x)[0 + i.toNat]? = some e ∧
 64 ≤ e.length ∧
 64 ≤ (ints IntKind.u8 b).length ∧
 64 ≤ (ints IntKind.u8 b).flatten.length ∧
 (PlainD (List.take 64 (List.drop 0 (ints IntKind.u8 b).flatten)) ∧ 64 ≤ (ints IntKind.u8 b).flatten.length ∧ V.arr 64 (List.take 64 (List.drop 0 (ints IntKind.u8 b).flatten)) = V.arr 64 (List.take 64 (List.drop 0 (ints IntKind.u8 b).flatten))) ∧
 (PlainD (List.take 64 (List.drop 0 e)) ∧ ∃ (e_1 : List D), (secs (brn d).snd.x)[0 + i.toNat]? = some e_1 ∧ 64 ≤ e_1.length ∧ V.arr 64 (List.take 64 (List.drop 0 e_1)) = V.arr 64 (List.take 64 (List.drop 0 e))) ∧
 At (wrC2 d i b)
 ([V.ptr 0 0, V.int IntKind.i64 i, V.ptr 3 0],
 [KO.cells [V.sl 1 0 (brn d).snd.x.length, V.sl 2 0 (brn d).snd.w.length, V.int IntKind.i64 (brn d).snd.f, V.sb (brn d).snd.o], KO.row 47 64 (secs (brn d).snd.x), KO.row 49 129 (List.map wrD (brn d).snd.w), KO.cells [V.int IntKind.i64 i, V.arr 64 (List.take 64 (List.drop 0 e)), V.arr 64 (List.take 64 (List.drop 0 (ints IntKind.u8 b).flatten))]])) ∧
 (64 ≤ (ints IntKind.u8 b).length ∧
 (InB i ((brn d).snd.x.length - 0) ∧
 ∃ (e : List D),
 (secs (brn d).snd.x)[0 + i.toNat]? = some e ∧
 64 ≤ e.length ∧
 64 ≤ (ints IntKind.u8 b).flatten.length ∧
 (PlainD (List.take 64 (List.drop 0 (ints IntKind.u8 b).flatten)) ∧ 64 ≤ (ints IntKind.u8 b).flatten.length ∧ V.arr 64 (List.take 64 (List.drop 0 (ints IntKind.u8 b).flatten)) = V.arr 64 (List.take 64 (List.drop 0 (ints IntKind.u8 b).flatten))) ∧
 (PlainD (List.take 64 (List.drop 0 e)) ∧ ∃ (e_1 : List D), (secs (brn d).snd.x)[0 + i.toNat]? = some e_1 ∧ 64 ≤ e_1.length ∧ V.arr 64 (List.take 64 (List.drop 0 e_1)) = V.arr 64 (List.take 64 (List.drop 0 e))) ∧
 At (wrC2 d i b)
 ([V.ptr 0 0, V.int IntKind.i64 i, V.ptr 3 0],
 [KO.cells [V.sl 1 0 (brn d).snd.x.length, V.sl 2 0 (brn d).snd.w.length, V.int IntKind.i64 (brn d).snd.f, V.sb (brn d).snd.o], KO.row 47 64 (secs (brn d).snd.x), KO.row 49 129 (List.map wrD (brn d).snd.w), KO.cells [V.int IntKind.i64 i, V.arr 64 (List.take 64 (List.drop 0 e)), V.arr 64 (List.take 64 (List.drop 0 (ints IntKind.u8 b).flatten))]])) ∧
 (64 ≤ (ints IntKind.u8 b).flatten.length ∧
 (InB i ((brn d).snd.x.length - 0) ∧
 ∃ (e : List D),
 (secs (brn d).snd.x)[0 + i.toNat]? = some e ∧
 64 ≤ e.length ∧
 (PlainD (List.take 64 (List.drop 0 e)) ∧ ∃ (e_1 : List D), (secs (brn d).snd.x)[0 + i.toNat]? = some e_1 ∧ 64 ≤ e_1.length ∧ V.arr 64 (List.take 64 (List.drop 0 e_1)) = V.arr 64 (List.take 64 (List.drop 0 e))) ∧
 At (wrC2 d i b)
 ([V.ptr 0 0, V.int IntKind.i64 i, V.ptr 3 0],
 [KO.cells [V.sl 1 0 (brn d).snd.x.length, V.sl 2 0 (brn d).snd.w.length, V.int IntKind.i64 (brn d).snd.f, V.sb (brn d).snd.o], KO.row 47 64 (secs (brn d).snd.x), KO.row 49 129 (List.map wrD (brn d).snd.w), KO.cells [V.int IntKind.i64 i, V.arr 64 (List.take 64 (List.drop 0 e)), V.arr 64 (List.take 64 (List.drop 0 (ints IntKind.u8 b).flatten))]])) ∧
 InB i ((brn d).snd.x.length - 0) ∧
 ∃ (e : List D),
 (secs (brn d).snd.x)[0 + i.toNat]? = some e ∧
 64 ≤ e.length ∧
 At (wrC2 d i b)
 ([V.ptr 0 0, V.int IntKind.i64 i, V.ptr 3 0],
 [KO.cells [V.sl 1 0 (brn d).snd.x.length, V.sl 2 0 (brn d).snd.w.length, V.int IntKind.i64 (brn d).snd.f, V.sb (brn d).snd.o], KO.row 47 64 (secs (brn d).snd.x), KO.row 49 129 (List.map wrD (brn d).snd.w), KO.cells [V.int IntKind.i64 i, V.arr 64 (List.take 64 (List.drop 0 e)), V.arr 64 (List.take 64 (List.drop 0 (ints IntKind.u8 b).flatten))]])) ∧
 InB i ((brn d).snd.x.length - 0) ∧
 ∃ (e : List D),
 (secs (brn d).snd.x)[0 + i.toNat]? = some e ∧
 64 ≤ e.length ∧
 64 ≤ (ints IntKind.u8 b).flatten.length ∧
 At (wrC2 d i b)
 ([V.ptr 0 0, V.int IntKind.i64 i, V.ptr 3 0],
 [KO.cells [V.sl 1 0 (brn d).snd.x.length, V.sl 2 0 (brn d).snd.w.length, V.int IntKind.i64 (brn d).snd.f, V.sb (brn d).snd.o], KO.row 47 64 (secs (brn d).snd.x), KO.row 49 129 (List.map wrD (brn d).snd.w), KO.cells [V.int IntKind.i64 i, V.arr 64 (List.take 64 (List.drop 0 e)), V.arr 64 (List.take 64 (List.drop 0 (ints IntKind.u8 b).flatten))]])) ∧
 InB i ((brn d).snd.x.length - 0) ∧
 ∃ (e : List D),
 (secs (brn d).snd.x)[0 + i.toNat]? = some e ∧
 64 ≤ e.length ∧
 64 ≤ (ints IntKind.u8 b).length ∧
 64 ≤ (ints IntKind.u8 b).flatten.length ∧
 At (wrC2 d i b)
 ([V.ptr 0 0, V.int IntKind.i64 i, V.ptr 3 0],
 [KO.cells [V.sl 1 0 (brn d).snd.x.length, V.sl 2 0 (brn d).snd.w.length, V.int IntKind.i64 (brn d).snd.f, V.sb (brn d).snd.o], KO.row 47 64 (secs (brn d).snd.x), KO.row 49 129 (List.map wrD (brn d).snd.w), KO.cells [V.int IntKind.i64 i, V.arr 64 (List.take 64 (List.drop 0 e)), V.arr 64 (List.take 64 (List.drop 0 (ints IntKind.u8 b).flatten))]])) ∧
 InB i ((brn d).snd.x.length - 0) ∧
 ∃ (e : List D),
 (secs (brn d).snd.x)[0 + i.toNat]? = some e ∧
 64 ≤ e.length ∧
 64 ≤ (ints IntKind.u8 b).length ∧
 64 ≤ (ints IntKind.u8 b).flatten.length ∧
 At (wrC2 d i b)
 ([V.ptr 0 0, V.int IntKind.i64 i, V.ptr 3 0],
 [KO.cells [V.sl 1 0 (brn d).snd.x.length, V.sl 2 0 (brn d).snd.w.length, V.int IntKind.i64 (brn d).snd.f, V.sb (brn d).snd.o], KO.row 47 64 (secs (brn d).snd.x), KO.row 49 129 (List.map wrD (brn d).snd.w), KO.cells [V.int IntKind.i64 i, V.arr 64 (List.take 64 (List.drop 0 e)), V.arr 64 (List.take 64 (List.drop 0 (ints IntKind.u8 b).flatten))]])) ∧
 ((InB i ((brn d).snd.x.length - 0) ∧
 ∃ (e : List D),
 (secs (brn d).snd.x)[0 + i.toNat]? = some e ∧
 64 ≤ e.length ∧
 64 ≤ (ints IntKind.u8 b).length ∧
 64 ≤ (ints IntKind.u8 b).flatten.length ∧
 (PlainD (List.take 64 (List.drop 0 (ints IntKind.u8 b).flatten)) ∧ 64 ≤ (ints IntKind.u8 b).flatten.length ∧ V.arr 64 (List.take 64 (List.drop 0 (ints IntKind.u8 b).flatten)) = V.arr 64 (List.take 64 (List.drop 0 (ints IntKind.u8 b).flatten))) ∧
 (PlainD (List.take 64 (List.drop 0 e)) ∧ ∃ (e_1 : List D), (secs (brn d).snd.x)[0 + i.toNat]? = some e_1 ∧ 64 ≤ e_1.length ∧ V.arr 64 (List.take 64 (List.drop 0 e_1)) = V.arr 64 (List.take 64 (List.drop 0 e))) ∧
 At (wrC2 d i b)
 ([V.ptr 0 0, V.int IntKind.i64 i, V.ptr 3 0],
 [KO.cells [V.sl 1 0 (brn d).snd.x.length, V.sl 2 0 (brn d).snd.w.length, V.int IntKind.i64 (brn d).snd.f, V.sb (brn d).snd.o], KO.row 47 64 (secs (brn d).snd.x), KO.row 49 129 (List.map wrD (brn d).snd.w), KO.cells [V.int IntKind.i64 i, V.arr 64 (List.take 64 (List.drop 0 e)), V.arr 64 (List.take 64 (List.drop 0 (ints IntKind.u8 b).flatten))]])) ∧
 ((InB i ((brn d).snd.x.length - 0) ∧
 ∃ (e : List D),
 (secs (brn d).snd.x)[0 + i.toNat]? = some e ∧
 64 ≤ e.length ∧
 64 ≤ (ints IntKind.u8 b).length ∧
 64 ≤ (ints IntKind.u8 b).flatten.length ∧
 (PlainD (List.take 64 (List.drop 0 (ints IntKind.u8 b).flatten)) ∧ 64 ≤ (ints IntKind.u8 b).flatten.length ∧ V.arr 64 (List.take 64 (List.drop 0 (ints IntKind.u8 b).flatten)) = V.arr 64 (List.take 64 (List.drop 0 (ints IntKind.u8 b).flatten))) ∧
 (PlainD (List.take 64 (List.drop 0 e)) ∧ ∃ (e_1 : List D), (secs (brn d).snd.x)[0 + i.toNat]? = some e_1 ∧ 64 ≤ e_1.length ∧ V.arr 64 (List.take 64 (List.drop 0 e_1)) = V.arr 64 (List.take 64 (List.drop 0 e))) ∧
 At (wrC2 d i b)
 ([V.ptr 0 0, V.int IntKind.i64 i, V.ptr 3 0],
 [KO.cells [V.sl 1 0 (brn d).snd.x.length, V.sl 2 0 (brn d).snd.w.length, V.int IntKind.i64 (brn d).snd.f, V.sb (brn d).snd.o], KO.row 47 64 (secs (brn d).snd.x), KO.row 49 129 (List.map wrD (brn d).snd.w), KO.cells [V.int IntKind.i64 i, V.arr 64 (List.take 64 (List.drop 0 e)), V.arr 64 (List.take 64 (List.drop 0 (ints IntKind.u8 b).flatten))]])) ∧
 (64 ≤ (ints IntKind.u8 b).length ∧
 (InB i ((brn d).snd.x.length - 0) ∧
 ∃ (e : List D),
 (secs (brn d).snd.x)[0 + i.toNat]? = some e ∧
 64 ≤ e.length ∧
 64 ≤ (ints IntKind.u8 b).flatten.length ∧
 (PlainD (List.take 64 (List.drop 0 (ints IntKind.u8 b).flatten)) ∧ 64 ≤ (ints IntKind.u8 b).flatten.length ∧ V.arr 64 (List.take 64 (List.drop 0 (ints IntKind.u8 b).flatten)) = V.arr 64 (List.take 64 (List.drop 0 (ints IntKind.u8 b).flatten))) ∧
 (PlainD (List.take 64 (List.drop 0 e)) ∧ ∃ (e_1 : List D), (secs (brn d).snd.x)[0 + i.toNat]? = some e_1 ∧ 64 ≤ e_1.length ∧ V.arr 64 (List.take 64 (List.drop 0 e_1)) = V.arr 64 (List.take 64 (List.drop 0 e))) ∧
 At (wrC2 d i b)
 ([V.ptr 0 0, V.int IntKind.i64 i, V.ptr 3 0],
 [KO.cells [V.sl 1 0 (brn d).snd.x.length, V.sl 2 0 (brn d).snd.w.length, V.int IntKind.i64 (brn d).snd.f, V.sb (brn d).snd.o], KO.row 47 64 (secs (brn d).snd.x), KO.row 49 129 (List.map wrD (brn d).snd.w), KO.cells [V.int IntKind.i64 i, V.arr 64 (List.take 64 (List.drop 0 e)), V.arr 64 (List.take 64 (List.drop 0 (ints IntKind.u8 b).flatten))]])) ∧
 (64 ≤ (ints IntKind.u8 b).flatten.length ∧
 (InB i ((brn d).snd.x.length - 0) ∧
 ∃ (e : List D),
 (secs (brn d).snd.x)[0 + i.toNat]? = some e ∧
 64 ≤ e.length ∧
 (PlainD (List.take 64 (List.drop 0 e)) ∧ ∃ (e_1 : List D), (secs (brn d).snd.x)[0 + i.toNat]? = some e_1 ∧ 64 ≤ e_1.length ∧ V.arr 64 (List.take 64 (List.drop 0 e_1)) = V.arr 64 (List.take 64 (List.drop 0 e))) ∧
 At (wrC2 d i b)
 ([V.ptr 0 0, V.int IntKind.i64 i, V.ptr 3 0],
 [KO.cells [V.sl 1 0 (brn d).snd.x.length, V.sl 2 0 (brn d).snd.w.length, V.int IntKind.i64 (brn d).snd.f, V.sb (brn d).snd.o], KO.row 47 64 (secs (brn d).snd.x), KO.row 49 129 (List.map wrD (brn d).snd.w), KO.cells [V.int IntKind.i64 i, V.arr 64 (List.take 64 (List.drop 0 e)), V.arr 64 (List.take 64 (List.drop 0 (ints IntKind.u8 b).flatten))]])) ∧
 InB i ((brn d).snd.x.length - 0) ∧
 ∃ (e : List D),
 (secs (brn d).snd.x)[0 + i.toNat]? = some e ∧
 64 ≤ e.length ∧
 At (wrC2 d i b)
 ([V.ptr 0 0, V.int IntKind.i64 i, V.ptr 3 0],
 [KO.cells [V.sl 1 0 (brn d).snd.x.length, V.sl 2 0 (brn d).snd.w.length, V.int IntKind.i64 (brn d).snd.f, V.sb (brn d).snd.o], KO.row 47 64 (secs (brn d).snd.x), KO.row 49 129 (List.map wrD (brn d).snd.w), KO.cells [V.int IntKind.i64 i, V.arr 64 (List.take 64 (List.drop 0 e)), V.arr 64 (List.take 64 (List.drop 0 (ints IntKind.u8 b).flatten))]])) ∧
 InB i ((brn d).snd.x.length - 0) ∧
 ∃ (e : List D),
 (secs (brn d).snd.x)[0 + i.toNat]? = some e ∧
 64 ≤ e.length ∧
 64 ≤ (ints IntKind.u8 b).flatten.length ∧
 At (wrC2 d i b)
 ([V.ptr 0 0, V.int IntKind.i64 i, V.ptr 3 0],
 [KO.cells [V.sl 1 0 (brn d).snd.x.length, V.sl 2 0 (brn d).snd.w.length, V.int IntKind.i64 (brn d).snd.f, V.sb (brn d).snd.o], KO.row 47 64 (secs (brn d).snd.x), KO.row 49 129 (List.map wrD (brn d).snd.w), KO.cells [V.int IntKind.i64 i, V.arr 64 (List.take 64 (List.drop 0 e)), V.arr 64 (List.take 64 (List.drop 0 (ints IntKind.u8 b).flatten))]])) ∧
 InB i ((brn d).snd.x.length - 0) ∧
 ∃ (e : List D),
 (secs (brn d).snd.x)[0 + i.toNat]? = some e ∧
 64 ≤ e.length ∧
 64 ≤ (ints IntKind.u8 b).length ∧
 64 ≤ (ints IntKind.u8 b).flatten.length ∧
 At (wrC2 d i b)
 ([V.ptr 0 0, V.int IntKind.i64 i, V.ptr 3 0],
 [KO.cells [V.sl 1 0 (brn d).snd.x.length, V.sl 2 0 (brn d).snd.w.length, V.int IntKind.i64 (brn d).snd.f, V.sb (brn d).snd.o], KO.row 47 64 (secs (brn d).snd.x), KO.row 49 129 (List.map wrD (brn d).snd.w), KO.cells [V.int IntKind.i64 i, V.arr 64 (List.take 64 (List.drop 0 e)), V.arr 64 (List.take 64 (List.drop 0 (ints IntKind.u8 b).flatten))]])) ∧
 (64 ≤ (ints IntKind.u8 b).length ∧
 (InB i ((brn d).snd.x.length - 0) ∧
 ∃ (e : List D),
 (secs (brn d).snd.x)[0 + i.toNat]? = some e ∧
 64 ≤ e.length ∧
 64 ≤ (ints IntKind.u8 b).flatten.length ∧
 (PlainD (List.take 64 (List.drop 0 (ints IntKind.u8 b).flatten)) ∧ 64 ≤ (ints IntKind.u8 b).flatten.length ∧ V.arr 64 (List.take 64 (List.drop 0 (ints IntKind.u8 b).flatten)) = V.arr 64 (List.take 64 (List.drop 0 (ints IntKind.u8 b).flatten))) ∧
 (PlainD (List.take 64 (List.drop 0 e)) ∧ ∃ (e_1 : List D), (secs (brn d).snd.x)[0 + i.toNat]? = some e_1 ∧ 64 ≤ e_1.length ∧ V.arr 64 (List.take 64 (List.drop 0 e_1)) = V.arr 64 (List.take 64 (List.drop 0 e))) ∧
 At (wrC2 d i b)
 ([V.ptr 0 0, V.int IntKind.i64 i, V.ptr 3 0],
 [KO.cells [V.sl 1 0 (brn d).snd.x.length, V.sl 2 0 (brn d).snd.w.length, V.int IntKind.i64 (brn d).snd.f, V.sb (brn d).snd.o], KO.row 47 64 (secs (brn d).snd.x), KO.row 49 129 (List.map wrD (brn d).snd.w), KO.cells [V.int IntKind.i64 i, V.arr 64 (List.take 64 (List.drop 0 e)), V.arr 64 (List.take 64 (List.drop 0 (ints IntKind.u8 b).flatten))]])) ∧
 ((InB i ((brn d).snd.x.length - 0) ∧
 ∃ (e : List D),
 (secs (brn d).snd.x)[0 + i.toNat]? = some e ∧
 64 ≤ e.length ∧
 64 ≤ (ints IntKind.u8 b).flatten.length ∧
 (PlainD (List.take 64 (List.drop 0 (ints IntKind.u8 b).flatten)) ∧ 64 ≤ (ints IntKind.u8 b).flatten.length ∧ V.arr 64 (List.take 64 (List.drop 0 (ints IntKind.u8 b).flatten)) = V.arr 64 (List.take 64 (List.drop 0 (ints IntKind.u8 b).flatten))) ∧
 (PlainD (List.take 64 (List.drop 0 e)) ∧ ∃ (e_1 : List D), (secs (brn d).snd.x)[0 + i.toNat]? = some e_1 ∧ 64 ≤ e_1.length ∧ V.arr 64 (List.take 64 (List.drop 0 e_1)) = V.arr 64 (List.take 64 (List.drop 0 e))) ∧
 At (wrC2 d i b)
 ([V.ptr 0 0, V.int IntKind.i64 i, V.ptr 3 0],
 [KO.cells [V.sl 1 0 (brn d).snd.x.length, V.sl 2 0 (brn d).snd.w.length, V.int IntKind.i64 (brn d).snd.f, V.sb (brn d).snd.o], KO.row 47 64 (secs (brn d).snd.x), KO.row 49 129 (List.map wrD (brn d).snd.w), KO.cells [V.int IntKind.i64 i, V.arr 64 (List.take 64 (List.drop 0 e)), V.arr 64 (List.take 64 (List.drop 0 (ints IntKind.u8 b).flatten))]])) ∧
 (64 ≤ (ints IntKind.u8 b).flatten.length ∧
 (InB i ((brn d).snd.x.length - 0) ∧
 ∃ (e : List D),
 (secs (brn d).snd.x)[0 + i.toNat]? = some e ∧
 64 ≤ e.length ∧
 (PlainD (List.take 64 (List.drop 0 e)) ∧ ∃ (e_1 : List D), (secs (brn d).snd.x)[0 + i.toNat]? = some e_1 ∧ 64 ≤ e_1.length ∧ V.arr 64 (List.take 64 (List.drop 0 e_1)) = V.arr 64 (List.take 64 (List.drop 0 e))) ∧
 At (wrC2 d i b)
 ([V.ptr 0 0, V.int IntKind.i64 i, V.ptr 3 0],
 [KO.cells [V.sl 1 0 (brn d).snd.x.length, V.sl 2 0 (brn d).snd.w.length, V.int IntKind.i64 (brn d).snd.f, V.sb (brn d).snd.o], KO.row 47 64 (secs (brn d).snd.x), KO.row 49 129 (List.map wrD (brn d).snd.w), KO.cells [V.int IntKind.i64 i, V.arr 64 (List.take 64 (List.drop 0 e)), V.arr 64 (List.take 64 (List.drop 0 (ints IntKind.u8 b).flatten))]])) ∧
 InB i ((brn d).snd.x.length - 0) ∧
 ∃ (e : List D),
 (secs (brn d).snd.x)[0 + i.toNat]? = some e ∧
 64 ≤ e.length ∧
 At (wrC2 d i b)
 ([V.ptr 0 0, V.int IntKind.i64 i, V.ptr 3 0],
 [KO.cells [V.sl 1 0 (brn d).snd.x.length, V.sl 2 0 (brn d).snd.w.length, V.int IntKind.i64 (brn d).snd.f, V.sb (brn d).snd.o], KO.row 47 64 (secs (brn d).snd.x), KO.row 49 129 (List.map wrD (brn d).snd.w), KO.cells [V.int IntKind.i64 i, V.arr 64 (List.take 64 (List.drop 0 e)), V.arr 64 (List.take 64 (List.drop 0 (ints IntKind.u8 b).flatten))]])) ∧
 InB i ((brn d).snd.x.length - 0) ∧
 ∃ (e : List D),
 (secs (brn d).snd.x)[0 + i.toNat]? = some e ∧
 64 ≤ e.length ∧
 64 ≤ (ints IntKind.u8 b).flatten.length ∧
 At (wrC2 d i b)
 ([V.ptr 0 0, V.int IntKind.i64 i, V.ptr 3 0],
 [KO.cells [V.sl 1 0 (brn d).snd.x.length, V.sl 2 0 (brn d).snd.w.length, V.int IntKind.i64 (brn d).snd.f, V.sb (brn d).snd.o], KO.row 47 64 (secs (brn d).snd.x), KO.row 49 129 (List.map wrD (brn d).snd.w), KO.cells [V.int IntKind.i64 i, V.arr 64 (List.take 64 (List.drop 0 e)), V.arr 64 (List.take 64 (List.drop 0 (ints IntKind.u8 b).flatten))]])) ∧
 (64 ≤ (ints IntKind.u8 b).flatten.length ∧
 (InB i ((brn d).snd.x.length - 0) ∧
 ∃ (e : List D),
 (secs (brn d).snd.x)[0 + i.toNat]? = some e ∧
 64 ≤ e.length ∧
 (PlainD (List.take 64 (List.drop 0 e)) ∧ ∃ (e_1 : List D), (secs (brn d).snd.x)[0 + i.toNat]? = some e_1 ∧ 64 ≤ e_1.length ∧ V.arr 64 (List.take 64 (List.drop 0 e_1)) = V.arr 64 (List.take 64 (List.drop 0 e))) ∧
 At (wrC2 d i b)
 ([V.ptr 0 0, V.int IntKind.i64 i, V.ptr 3 0],
 [KO.cells [V.sl 1 0 (brn d).snd.x.length, V.sl 2 0 (brn d).snd.w.length, V.int IntKind.i64 (brn d).snd.f, V.sb (brn d).snd.o], KO.row 47 64 (secs (brn d).snd.x), KO.row 49 129 (List.map wrD (brn d).snd.w), KO.cells [V.int IntKind.i64 i, V.arr 64 (List.take 64 (List.drop 0 e)), V.arr 64 (List.take 64 (List.drop 0 (ints IntKind.u8 b).flatten))]])) ∧
 ((InB i ((brn d).snd.x.length - 0) ∧
 ∃ (e : List D),
 (secs (brn d).snd.x)[0 + i.toNat]? = some e ∧
 64 ≤ e.length ∧
 (PlainD (List.take 64 (List.drop 0 e)) ∧ ∃ (e_1 : List D), (secs (brn d).snd.x)[0 + i.toNat]? = some e_1 ∧ 64 ≤ e_1.length ∧ V.arr 64 (List.take 64 (List.drop 0 e_1)) = V.arr 64 (List.take 64 (List.drop 0 e))) ∧
 At (wrC2 d i b)
 ([V.ptr 0 0, V.int IntKind.i64 i, V.ptr 3 0],
 [KO.cells [V.sl 1 0 (brn d).snd.x.length, V.sl 2 0 (brn d).snd.w.length, V.int IntKind.i64 (brn d).snd.f, V.sb (brn d).snd.o], KO.row 47 64 (secs (brn d).snd.x), KO.row 49 129 (List.map wrD (brn d).snd.w), KO.cells [V.int IntKind.i64 i, V.arr 64 (List.take 64 (List.drop 0 e)), V.arr 64 (List.take 64 (List.drop 0 (ints IntKind.u8 b).flatten))]])) ∧
 InB i ((brn d).snd.x.length - 0) ∧
 ∃ (e : List D),
 (secs (brn d).snd.x)[0 + i.toNat]? = some e ∧
 64 ≤ e.length ∧
 At (wrC2 d i b)
 ([V.ptr 0 0, V.int IntKind.i64 i, V.ptr 3 0],
 [KO.cells [V.sl 1 0 (brn d).snd.x.length, V.sl 2 0 (brn d).snd.w.length, V.int IntKind.i64 (brn d).snd.f, V.sb (brn d).snd.o], KO.row 47 64 (secs (brn d).snd.x), KO.row 49 129 (List.map wrD (brn d).snd.w), KO.cells [V.int IntKind.i64 i, V.arr 64 (List.take 64 (List.drop 0 e)), V.arr 64 (List.take 64 (List.drop 0 (ints IntKind.u8 b).flatten))]])) ∧
 InB i ((brn d).snd.x.length - 0) ∧
 ∃ (e : List D),
 (secs (brn d).snd.x)[0 + i.toNat]? = some e ∧
 64 ≤ e.length ∧
 At (wrC2 d i b)
 ([V.ptr 0 0, V.int IntKind.i64 i, V.ptr 3 0],
 [KO.cells [V.sl 1 0 (brn d).snd.x.length, V.sl 2 0 (brn d).snd.w.length, V.int IntKind.i64 (brn d).snd.f, V.sb (brn d).snd.o], KO.row 47 64 (secs (brn d).snd.x), KO.row 49 129 (List.map wrD (brn d).snd.w), KO.cells [V.int IntKind.i64 i, V.arr 64 (List.take 64 (List.drop 0 e)), V.arr 64 (List.take 64 (List.drop 0 (ints IntKind.u8 b).flatten))]])) ∧
 InB i ((brn d).snd.x.length - 0) ∧
 ∃ (e : List D),
 (secs (brn d).snd.x)[0 + i.toNat]? = some e ∧
 64 ≤ e.length ∧
 64 ≤ (ints IntKind.u8 b).flatten.length ∧
 At (wrC2 d i b)
 ([V.ptr 0 0, V.int IntKind.i64 i, V.ptr 3 0],
 [KO.cells [V.sl 1 0 (brn d).snd.x.length, V.sl 2 0 (brn d).snd.w.length, V.int IntKind.i64 (brn d).snd.f, V.sb (brn d).snd.o], KO.row 47 64 (secs (brn d).snd.x), KO.row 49 129 (List.map wrD (brn d).snd.w), KO.cells [V.int IntKind.i64 i, V.arr 64 (List.take 64 (List.drop 0 e)), V.arr 64 (List.take 64 (List.drop 0 (ints IntKind.u8 b).flatten))]])) ∧
 InB i ((brn d).snd.x.length - 0) ∧
 ∃ (e : List D),
 (secs (brn d).snd.x)[0 + i.toNat]? = some e ∧
 64 ≤ e.length ∧
 64 ≤ (ints IntKind.u8 b).length ∧
 64 ≤ (ints IntKind.u8 b).flatten.length ∧
 At (wrC2 d i b)
 ([V.ptr 0 0, V.int IntKind.i64 i, V.ptr 3 0],
 [KO.cells [V.sl 1 0 (brn d).snd.x.length, V.sl 2 0 (brn d).snd.w.length, V.int IntKind.i64 (brn d).snd.f, V.sb (brn d).snd.o], KO.row 47 64 (secs (brn d).snd.x), KO.row 49 129 (List.map wrD (brn d).snd.w), KO.cells [V.int IntKind.i64 i, V.arr 64 (List.take 64 (List.drop 0 e)), V.arr 64 (List.take 64 (List.drop 0 (ints IntKind.u8 b).flatten))]])) ∧
 InB i ((brn d).snd.x.length - 0) ∧
 ∃ (e : List D),
 (secs (brn d).snd.x)[0 + i.toNat]? = some e ∧
 64 ≤ e.length ∧
 64 ≤ (ints IntKind.u8 b).length ∧
 64 ≤ (ints IntKind.u8 b).flatten.length ∧
 At (wrC2 d i b)
 ([V.ptr 0 0, V.int IntKind.i64 i, V.ptr 3 0],
 [KO.cells [V.sl 1 0 (brn d).snd.x.length, V.sl 2 0 (brn d).snd.w.length, V.int IntKind.i64 (brn d).snd.f, V.sb (brn d).snd.o], KO.row 47 64 (secs (brn d).snd.x), KO.row 49 129 (List.map wrD (brn d).snd.w), KO.cells [V.int IntKind.i64 i, V.arr 64 (List.take 64 (List.drop 0 e)), V.arr 64 (List.take 64 (List.drop 0 (ints IntKind.u8 b).flatten))]])) ∧
 ∀ (i_2 : { q : Nat // WrJ d i b }),
 (1 ≤ 1 ∧
 (brn d).snd.w.length ≤ (List.map wrD (brn d).snd.w).length ∧
 ((brn d).snd.w.length + 1) * 136 ≤ 140737488355328 ∧
 InB i ((brn d).snd.x.length - 0) ∧
 0 + i.toNat < (secs (brn d).snd.x).length ∧
 K (V.int IntKind.i64 0)
 [KO.cells [V.sl 1 0 (brn d).snd.x.length, V.sl 3 0 ((brn d).snd.w.length + 1), V.int IntKind.i64 (brn d).snd.f, V.sb (brn d).snd.o], KO.row 47 64 ((secs (brn d).snd.x).set (0 + i.toNat) (appD (dns IntKind.u8 b) [])), KO.dead,
 KO.row 49 129 (List.take (brn d).snd.w.length (List.map wrD (brn d).snd.w) ++ [D.val (Value.int IntKind.i64 i) :: appD (dns IntKind.u8 (gS d.x i)) (appD (dns IntKind.u8 b) [])])]) ∧
 (1 ≤ 1 ∧
 (brn d).snd.w.length ≤ (List.map wrD (brn d).snd.w).length ∧
 ((brn d).snd.w.length + 1) * 136 ≤ 140737488355328 ∧
 InB i ((brn d).snd.x.length - 0) ∧
 0 + i.toNat < (secs (brn d).snd.x).length ∧
 K (V.int IntKind.i64 0)
 [KO.cells [V.sl 1 0 (brn d).snd.x.length, V.sl 3 0 ((brn d).snd.w.length + 1), V.int IntKind.i64 (brn d).snd.f, V.sb (brn d).snd.o], KO.row 47 64 ((secs (brn d).snd.x).set (0 + i.toNat) (appD (dns IntKind.u8 b) [])), KO.dead,
 KO.row 49 129 (List.take (brn d).snd.w.length (List.map wrD (brn d).snd.w) ++ [D.val (Value.int IntKind.i64 i) :: appD (dns IntKind.u8 (gS d.x i)) (appD (dns IntKind.u8 b) [])])]) ∧
 1 ≤ 1 ∧
 (brn d).snd.w.length ≤ (List.map wrD (brn d).snd.w).length ∧
 ((brn d).snd.w.length + 1) * 136 ≤ 140737488355328 ∧
 InB i ((brn d).snd.x.length - 0) ∧
 0 + i.toNat < (secs (brn d).snd.x).length ∧
 K (V.int IntKind.i64 0)
 [KO.cells [V.sl 1 0 (brn d).snd.x.length, V.sl 3 0 ((brn d).snd.w.length + 1), V.int IntKind.i64 (brn d).snd.f, V.sb (brn d).snd.o], KO.row 47 64 ((secs (brn d).snd.x).set (0 + i.toNat) (appD (dns IntKind.u8 b) [])), KO.dead,
 KO.row 49 129 (List.take (brn d).snd.w.length (List.map wrD (brn d).snd.w) ++ [D.val (Value.int IntKind.i64 i) :: appD (dns IntKind.u8 (gS d.x i)) (appD (dns IntKind.u8 b) [])])]
 ) : runSpec Try.prog XDv (wrT d i b 6) 6 [.ptr 0 0, .int .i64 i, .dat (.sl 1 (ints .u8 b))] (devA d) (nilRes [.mv 0 1, .kill 2] (tidyRes 3 K)) := by apply Eq.mp (a := hvc_); kernel_rfl
theorem vcBootG (d : Dev) (keeps : List Int) (K : V → KB → Prop) (hvc_ :
 ∀ (l : Nat),
 At (bkLI d l) ([V.any (Value.func (Fn.yield l) #[] #[]), V.ptr 4 0, V.int IntKind.i64 (IntKind.i64.wrap ((↑(d.w.length - 0) : Int) - 1))], [KO.cells [V.sl 1 0 d.x.length, V.sl 2 0 d.w.length, V.int IntKind.i64 d.f, V.sb d.o], KO.row 47 64 (secs d.x), KO.row 49 129 (List.map wrD d.w), KO.cells [V.ptr 0 0], KO.cells [V.sl 2 0 d.w.length]]) ∧
 ∀ (i : { j : Nat // j ≤ d.w.length }),
 (decide ((↑i.val : Int) - 1 ≥ 0) = true →
 InB ((↑i.val : Int) - 1) (d.w.length - 0) ∧
 ∃ (e : List D),
 (List.map wrD d.w)[0 + ((↑i.val : Int) - 1).toNat]? = some e ∧
 ∃ (n : Int),
 e[0]? = some (D.val (Value.int IntKind.i64 n)) ∧
 65 ≤ e.length ∧
 129 ≤ e.length ∧
 Value.func (Fn.yield l) #[] #[] = Value.func (Fn.yield l) #[] #[] ∧
 InB n (d.x.length - 0) ∧
 0 + n.toNat < (secs (bkX d.x (List.drop i.val d.w))).length ∧
 Nx (bkLI d l) i
 ([V.any (Value.func (Fn.yield l) #[] #[]), V.ptr 4 0, V.int IntKind.i64 (IntKind.i64.wrap ((↑i.val : Int) - 1 - 1))],
 [KO.cells [V.sl 1 0 d.x.length, V.sl 2 0 d.w.length, V.int IntKind.i64 d.f, V.sb d.o], KO.row 47 64 ((secs (bkX d.x (List.drop i.val d.w))).set (0 + n.toNat) (appD (List.take 64 (List.drop 1 e)) [])), KO.row 49 129 (List.map wrD d.w), KO.cells [V.ptr 0 0], KO.cells [V.sl 2 0 d.w.length]])) ∧
 (decide ((↑i.val : Int) - 1 ≥ 0) = false →
 At (fwLI d (V.dat (D.sl 1 (ints IntKind.i64 keeps))) keeps)
 ([V.dat (D.sl 1 (ints IntKind.i64 keeps)), V.ptr 3 0, V.sl 2 0 d.w.length, V.int IntKind.i64 (↑(d.w.length - 0) : Int), V.int IntKind.i64 0], [KO.cells [V.sl 1 0 d.x.length, V.sl 2 0 d.w.length, V.int IntKind.i64 d.f, V.sb d.o], KO.row 47 64 (secs (bkX d.x (List.drop i.val d.w))), KO.row 49 129 (List.map wrD d.w), KO.cells [V.ptr 0 0]]) ∧
 ∀ (i : { i : Nat // i ≤ d.w.length }),
 (decide ((↑i.val : Int) < (↑d.w.length : Int)) = true →
 InB (↑i.val : Int) (d.w.length - 0) ∧
 ∃ (e : List D),
 (List.map wrD d.w)[0 + (↑i.val : Int).toNat]? = some e ∧
 ∃ (n : Int),
 e[0]? = some (D.val (Value.int IntKind.i64 n)) ∧
 65 ≤ e.length ∧
 129 ≤ e.length ∧
 (decide ((↑i.val : Int) < (↑(ints IntKind.i64 keeps).length : Int)) = true →
 NonN (↑i.val : Int) ∧
 ∃ (e_1 : List D),
 (ints IntKind.i64 keeps)[(↑i.val : Int).toNat]? = some e_1 ∧
 ∃ (n_1 : Int),
 e_1[0]? = some (D.val (Value.int IntKind.i64 n_1)) ∧
 InB n (d.x.length - 0) ∧
 True ∧
 NonN (if 64 < if 0 > n_1 then 0 else n_1 then 64 else if 0 > n_1 then 0 else n_1) ∧
 0 ≤ (if 64 < if 0 > n_1 then 0 else n_1 then 64 else if 0 > n_1 then 0 else n_1).toNat ∧
 (if 64 < if 0 > n_1 then 0 else n_1 then 64 else if 0 > n_1 then 0 else n_1).toNat ≤ 64 ∧
 True ∧
 NonN (if 64 < if 0 > n_1 then 0 else n_1 then 64 else if 0 > n_1 then 0 else n_1) ∧
 0 ≤ (if 64 < if 0 > n_1 then 0 else n_1 then 64 else if 0 > n_1 then 0 else n_1).toNat ∧
 (if 64 < if 0 > n_1 then 0 else n_1 then 64 else if 0 > n_1 then 0 else n_1).toNat ≤ 64 ∧
 0 + ((if 64 < if 0 > n_1 then 0 else n_1 then 64 else if 0 > n_1 then 0 else n_1).toNat - 0) ≤ 64 ∧
 ∃ (e_2 : List D),
 (secs (fwX keeps (bkX d.x d.w) d.w i.val))[0 + n.toNat]? = some e_2 ∧
 0 + ((if 64 < if 0 > n_1 then 0 else n_1 then 64 else if 0 > n_1 then 0 else n_1).toNat - 0) ≤ 64 ∧
 Nx (fwLI d (V.dat (D.sl 1 (ints IntKind.i64 keeps))) keeps) i
 ([V.dat (D.sl 1 (ints IntKind.i64 keeps)), V.ptr 3 0, V.sl 2 0 d.w.length, V.int IntKind.i64 (↑d.w.length : Int), V.int IntKind.i64 (IntKind.i64.wrap ((↑i.val : Int) + 1))],
 [KO.cells [V.sl 1 0 d.x.length, V.sl 2 0 d.w.length, V.int IntKind.i64 d.f, V.sb d.o],
 KO.row 47 64
 ((secs (fwX keeps (bkX d.x d.w) d.w i.val)).set (0 + n.toNat)
 (splice e_2 0 (List.take ((if 64 < if 0 > n_1 then 0 else n_1 then 64 else if 0 > n_1 then 0 else n_1).toNat - 0) (ones (List.take ((if 64 < if 0 > n_1 then 0 else n_1 then 64 else if 0 > n_1 then 0 else n_1).toNat - 0) (List.drop 0 (List.take 64 (List.drop 65 e)))))).flatten)),
 KO.row 49 129 (List.map wrD d.w), KO.cells [V.ptr 0 0]])) ∧
 (decide ((↑i.val : Int) < (↑(ints IntKind.i64 keeps).length : Int)) = false →
 InB n (d.x.length - 0) ∧
 True ∧
 NonN 64 ∧
 0 ≤ 64 ∧
 64 ≤ 64 ∧
 True ∧
 NonN 64 ∧
 0 ≤ 64 ∧
 64 ≤ 64 ∧
 64 ≤ 64 ∧
 ∃ (e_1 : List D),
 (secs (fwX keeps (bkX d.x d.w) d.w i.val))[0 + n.toNat]? = some e_1 ∧
 64 ≤ 64 ∧
 Nx (fwLI d (V.dat (D.sl 1 (ints IntKind.i64 keeps))) keeps) i
 ([V.dat (D.sl 1 (ints IntKind.i64 keeps)), V.ptr 3 0, V.sl 2 0 d.w.length, V.int IntKind.i64 (↑d.w.length : Int), V.int IntKind.i64 (IntKind.i64.wrap ((↑i.val : Int) + 1))],
 [KO.cells [V.sl 1 0 d.x.length, V.sl 2 0 d.w.length, V.int IntKind.i64 d.f, V.sb d.o], KO.row 47 64 ((secs (fwX keeps (bkX d.x d.w) d.w i.val)).set (0 + n.toNat) (splice e_1 0 (List.take 64 (ones (List.take 64 (List.drop 0 (List.take 64 (List.drop 65 e)))))).flatten)), KO.row 49 129 (List.map wrD d.w), KO.cells [V.ptr 0 0]]))) ∧
 (decide ((↑i.val : Int) < (↑d.w.length : Int)) = false → V.ptr 0 0 = V.ptr 0 0 ∧ V.ptr 0 0 = V.ptr 0 0 ∧ V.ptr 0 0 = V.ptr 0 0 ∧ K (V.tup []) [KO.cells [V.sl 1 0 d.x.length, V.sl 3 0 0, V.int IntKind.i64 (-1), V.sb false], KO.row 47 64 (secs (fwX keeps (bkX d.x d.w) d.w i.val)), KO.dead, KO.row 49 129 []]))
 ) : runSpec Try.prog X0 (boT d (.dat (.sl 1 (ints .i64 keeps))) keeps 10) 10 [.ptr 0 0, .dat (.sl 1 (ints .i64 keeps))] (devA d) (nilRes [.cell 0 1 49 129, .mv 0 1, .kill 2] (tidyRes 3 K)) := by apply Eq.mp (a := hvc_); kernel_rfl
theorem vcBootGN (d : Dev) (K : V → KB → Prop) (hvc_ :
 ∀ (l : Nat),
 At (bkLI d l) ([V.any (Value.func (Fn.yield l) #[] #[]), V.ptr 4 0, V.int IntKind.i64 (IntKind.i64.wrap ((↑(d.w.length - 0) : Int) - 1))], [KO.cells [V.sl 1 0 d.x.length, V.sl 2 0 d.w.length, V.int IntKind.i64 d.f, V.sb d.o], KO.row 47 64 (secs d.x), KO.row 49 129 (List.map wrD d.w), KO.cells [V.ptr 0 0], KO.cells [V.sl 2 0 d.w.length]]) ∧
 ∀ (i : { j : Nat // j ≤ d.w.length }),
 (decide ((↑i.val : Int) - 1 ≥ 0) = true →
 InB ((↑i.val : Int) - 1) (d.w.length - 0) ∧
 ∃ (e : List D),
 (List.map wrD d.w)[0 + ((↑i.val : Int) - 1).toNat]? = some e ∧
 ∃ (n : Int),
 e[0]? = some (D.val (Value.int IntKind.i64 n)) ∧
 65 ≤ e.length ∧
 129 ≤ e.length ∧
 Value.func (Fn.yield l) #[] #[] = Value.func (Fn.yield l) #[] #[] ∧
 InB n (d.x.length - 0) ∧
 0 + n.toNat < (secs (bkX d.x (List.drop i.val d.w))).length ∧
 Nx (bkLI d l) i
 ([V.any (Value.func (Fn.yield l) #[] #[]), V.ptr 4 0, V.int IntKind.i64 (IntKind.i64.wrap ((↑i.val : Int) - 1 - 1))],
 [KO.cells [V.sl 1 0 d.x.length, V.sl 2 0 d.w.length, V.int IntKind.i64 d.f, V.sb d.o], KO.row 47 64 ((secs (bkX d.x (List.drop i.val d.w))).set (0 + n.toNat) (appD (List.take 64 (List.drop 1 e)) [])), KO.row 49 129 (List.map wrD d.w), KO.cells [V.ptr 0 0], KO.cells [V.sl 2 0 d.w.length]])) ∧
 (decide ((↑i.val : Int) - 1 ≥ 0) = false →
 At (fwLI d (V.any (Value.slice none 0 0)) []) ([V.any (Value.slice none 0 0), V.ptr 3 0, V.sl 2 0 d.w.length, V.int IntKind.i64 (↑(d.w.length - 0) : Int), V.int IntKind.i64 0], [KO.cells [V.sl 1 0 d.x.length, V.sl 2 0 d.w.length, V.int IntKind.i64 d.f, V.sb d.o], KO.row 47 64 (secs (bkX d.x (List.drop i.val d.w))), KO.row 49 129 (List.map wrD d.w), KO.cells [V.ptr 0 0]]) ∧
 ∀ (i : { i : Nat // i ≤ d.w.length }),
 (decide ((↑i.val : Int) < (↑d.w.length : Int)) = true →
 InB (↑i.val : Int) (d.w.length - 0) ∧
 ∃ (e : List D),
 (List.map wrD d.w)[0 + (↑i.val : Int).toNat]? = some e ∧
 ∃ (n : Int),
 e[0]? = some (D.val (Value.int IntKind.i64 n)) ∧
 65 ≤ e.length ∧
 129 ≤ e.length ∧
 (decide ((↑i.val : Int) < 0) = true → False) ∧
 (decide ((↑i.val : Int) < 0) = false →
 InB n (d.x.length - 0) ∧
 True ∧
 NonN 64 ∧
 0 ≤ 64 ∧
 64 ≤ 64 ∧
 True ∧
 NonN 64 ∧
 0 ≤ 64 ∧
 64 ≤ 64 ∧
 64 ≤ 64 ∧
 ∃ (e_1 : List D),
 (secs (fwX [] (bkX d.x d.w) d.w i.val))[0 + n.toNat]? = some e_1 ∧
 64 ≤ 64 ∧
 Nx (fwLI d (V.any (Value.slice none 0 0)) []) i
 ([V.any (Value.slice none 0 0), V.ptr 3 0, V.sl 2 0 d.w.length, V.int IntKind.i64 (↑d.w.length : Int), V.int IntKind.i64 (IntKind.i64.wrap ((↑i.val : Int) + 1))],
 [KO.cells [V.sl 1 0 d.x.length, V.sl 2 0 d.w.length, V.int IntKind.i64 d.f, V.sb d.o], KO.row 47 64 ((secs (fwX [] (bkX d.x d.w) d.w i.val)).set (0 + n.toNat) (splice e_1 0 (List.take 64 (ones (List.take 64 (List.drop 0 (List.take 64 (List.drop 65 e)))))).flatten)), KO.row 49 129 (List.map wrD d.w), KO.cells [V.ptr 0 0]]))) ∧
 (decide ((↑i.val : Int) < (↑d.w.length : Int)) = false → V.ptr 0 0 = V.ptr 0 0 ∧ V.ptr 0 0 = V.ptr 0 0 ∧ V.ptr 0 0 = V.ptr 0 0 ∧ K (V.tup []) [KO.cells [V.sl 1 0 d.x.length, V.sl 3 0 0, V.int IntKind.i64 (-1), V.sb false], KO.row 47 64 (secs (fwX [] (bkX d.x d.w) d.w i.val)), KO.dead, KO.row 49 129 []]))
 ) : runSpec Try.prog X0 (boT d (.any (.slice none 0 0)) [] 10) 10 [.ptr 0 0, .any (.slice none 0 0)] (devA d) (nilRes [.cell 0 1 49 129, .mv 0 1, .kill 2] (tidyRes 3 K)) := by apply Eq.mp (a := hvc_); kernel_rfl
end Go.Proofs.Ytnglmhckcfnfaaa
