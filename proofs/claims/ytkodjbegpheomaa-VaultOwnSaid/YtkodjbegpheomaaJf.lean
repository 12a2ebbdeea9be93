import Derived.Test.YtkodjbegpheomaaSe
import Derived.KernelRfl
namespace Go.Proofs.Ytkodjbegpheomaa
open Vc Go
set_option linter.unusedVariables false
set_option linter.unusedSimpArgs false
set_option maxRecDepth 100000
/-- A record's form, but for its head and its end. -/
def bodyJ (gen n : Int) (b : List Int) : List Int := sealI (numW gen ++ numW n ++ textW b)
def szJ (r : List Int) : Nat := (r.length + 66) / 64
def rawJ (r : List Int) : List Int := 1 :: ((r.length % 256 : Nat) : Int) :: ((r.length / 256 : Nat) : Int) :: (r ++ List.replicate (64 * szJ r - 3 - r.length) 0)
structure NumJ (n : Int) : Prop where
  lo : 0 ≤ n
  hi : n ≤ 1099511627776
instance (n : Int) : Decidable (NumJ n) := decidable_of_iff (0 ≤ n ∧ n ≤ 1099511627776) ⟨fun h => ⟨h.1, h.2⟩, fun h => ⟨h.lo, h.hi⟩⟩
def formJ (gen n : Int) (b : List Int) : List Int × Int :=
  if ¬ NumJ gen ∨ ¬ NumJ n then ([], 5) else if 16 < szJ (bodyJ gen n b) then ([], 15) else (rawJ (bodyJ gen n b), 0)
def Sform : FSpec := fun args kb K => match args, kb with
  | [.int .i64 gen, .int .i64 n, .dat (.sl 1 B)], [] => ∃ b : List Int, B = ints .u8 b ∧ Byt b ∧ b.length ≤ 800000 ∧ K (.tup [.sl 0 0 (formJ gen n b).1.length, .int .i64 (formJ gen n b).2]) [.row 5 1 (ints .u8 (formJ gen n b).1)]
  | _, _ => False
def isAll (b : List Int) : Bool := b.all (fun c => c == 0)
abbrev jlong (b : List Int) : Nat := (b.getD 1 0 + b.getD 2 0 * 256).toNat
abbrev jsize (b : List Int) : Nat := (jlong b + 66) / 64
def tailJ (b : List Int) : List Int := (b.take (jsize b * 64)).drop (3 + jlong b)
def finJ (m : List Int) (gen n : Int) (size : Nat) : Option (List Int × Nat) :=
  let g := rNum m 0 1099511627776
  let k := rNum (m.drop g.2.1) g.2.2 1099511627776
  let t := rText ((m.drop g.2.1).drop k.2.1) k.2.2 m.length
  if rEnd (m.drop (g.2.1 + k.2.1 + t.2.1)) t.2.2 = 0 ∧ g.1 = gen ∧ k.1 = n then some (t.1, size) else none
/-- What is read at the beginning of bytes. -/
def readJ (b : List Int) (gen n : Int) : Option (List Int × Nat) :=
  if b.length < 3 ∨ b.getD 0 0 ≠ 1 ∨ 16 < jsize b ∨ b.length < jsize b * 64 then none else
  match openI ((b.drop 3).take (jlong b)) with
  | none => none
  | some m => if isAll (tailJ b) = true then finJ m gen n (jsize b) else none
structure CA (b : List Int) (size long : Nat) : Prop where
  l3 : 3 ≤ b.length
  b0 : b.getD 0 0 = 1
  sz : size = jsize b
  lg : long = jlong b
  s16 : size ≤ 16
  fit : size * 64 ≤ b.length
structure CB (b m : List Int) (size long : Nat) : Prop extends CA b size long where
  op : openI ((b.drop 3).take long) = some m
structure CC (b m : List Int) (size long : Nat) : Prop extends CB b m size long where
  zs : isAll (tailJ b) = true
structure PD where
  t : List Int
  lo : Nat
  e : Int
  g : Int
  k : Int
structure CDr (m : List Int) (p : PD) : Prop where
  hg : p.g = (rNum m 0 1099511627776).1
  hk : p.k = (rNum (m.drop (rNum m 0 1099511627776).2.1) (rNum m 0 1099511627776).2.2 1099511627776).1
  ht : p.t = (rText ((m.drop (rNum m 0 1099511627776).2.1).drop (rNum (m.drop (rNum m 0 1099511627776).2.1) (rNum m 0 1099511627776).2.2 1099511627776).2.1) (rNum (m.drop (rNum m 0 1099511627776).2.1) (rNum m 0 1099511627776).2.2 1099511627776).2.2 m.length).1
  hlo : p.lo = (rNum m 0 1099511627776).2.1 + (rNum (m.drop (rNum m 0 1099511627776).2.1) (rNum m 0 1099511627776).2.2 1099511627776).2.1 + (rText ((m.drop (rNum m 0 1099511627776).2.1).drop (rNum (m.drop (rNum m 0 1099511627776).2.1) (rNum m 0 1099511627776).2.2 1099511627776).2.1) (rNum (m.drop (rNum m 0 1099511627776).2.1) (rNum m 0 1099511627776).2.2 1099511627776).2.2 m.length).2.1
  he : p.e = (rText ((m.drop (rNum m 0 1099511627776).2.1).drop (rNum (m.drop (rNum m 0 1099511627776).2.1) (rNum m 0 1099511627776).2.2 1099511627776).2.1) (rNum (m.drop (rNum m 0 1099511627776).2.1) (rNum m 0 1099511627776).2.2 1099511627776).2.2 m.length).2.2
abbrev rdA (b : List Int) (gen n : Int) (size long : Nat) : LI where
  α := {u : Unit // CA b size long}
  live := [0, 1, 2, 7, 9]
  st u := ([.dat (.sl 1 (ints .u8 b)), .int .i64 gen, .int .i64 n, .int .i64 (size : Int), .int .i64 (long : Int)], [])
  μ u := 0
structure CBq (b m : List Int) (size long : Nat) (q : Bool) : Prop extends CA b size long where
  yes : q = true → openI ((b.drop 3).take long) = some m
  no : q = false → openI ((b.drop 3).take long) = none
abbrev rdB (b : List Int) (gen n : Int) (m : List Int) (size long : Nat) : LI where
  α := {q : Bool // CBq b m size long q}
  live := [0, 1, 2, 7, 8, 9, 10]
  nils := [.slot 6 5 1]
  st q := ([.dat (.sl 1 (ints .u8 b)), .int .i64 gen, .int .i64 n, .int .i64 (size : Int), .sb q.1, .int .i64 (long : Int), .sl 0 0 m.length], [.row 5 1 (ints .u8 m)])
  μ u := 0
abbrev rdLI (b : List Int) (gen n : Int) (m tl : List Int) (size long : Nat) : LI where
  α := {i : Nat // CB b m size long ∧ tl = tailJ b ∧ i ≤ tl.length ∧ ∀ c ∈ tl.take i, c = 0}
  live := [1, 2, 7, 10, 64, 65, 66]
  nils := [.slot 3 5 1]
  st i := ([.int .i64 gen, .int .i64 n, .int .i64 (size : Int), .sl 0 0 m.length, .dat (.sl 1 (ints .u8 tl)), .int .i64 (tl.length : Int), .int .i64 (i.1 : Int)], [.row 5 1 (ints .u8 m)])
  μ i := tl.length - i.1
abbrev rdC (b : List Int) (gen n : Int) (m : List Int) (size long : Nat) : LI where
  α := {u : Unit // CC b m size long}
  live := [1, 2, 7, 10]
  nils := [.slot 3 5 1]
  st u := ([.int .i64 gen, .int .i64 n, .int .i64 (size : Int), .sl 0 0 m.length], [.row 5 1 (ints .u8 m)])
  μ u := 0
abbrev rdD (b : List Int) (gen n : Int) (m : List Int) (size long : Nat) : LI where
  α := {p : PD // CC b m size long ∧ CDr m p}
  live := [1, 2, 6, 7, 13, 14, 15]
  nils := [.slot 2 5 1]
  st p := ([.int .i64 gen, .int .i64 n, .sl 0 0 p.1.t.length, .int .i64 (size : Int), .ptr 1 0, .int .i64 p.1.g, .int .i64 p.1.k], [.row 5 1 (ints .u8 p.1.t), .cells [.sl 2 p.1.lo m.length, .int .i64 p.1.e], .row 5 1 (ints .u8 m)])
  μ p := 0
def SreadJ : FSpec := fun args kb K => match args, kb with
  | [.dat (.sl 1 B), .int .i64 gen, .int .i64 n], [] => ∃ b : List Int, B = ints .u8 b ∧ Byt b ∧ b.length ≤ 800000 ∧
    (readJ b gen n = none → ∀ (t : List Int) (s : Int), K (.tup [.sl 0 0 t.length, .int .i64 s, .sb false]) [.row 5 1 (ints .u8 t)]) ∧
    (∀ t s, readJ b gen n = some (t, s) → K (.tup [.sl 0 0 t.length, .int .i64 (s : Int), .sb true]) [.row 5 1 (ints .u8 t)])
  | _, _ => False
def jfT (b : List Int) (gen n : Int) (m tl : List Int) (size long : Nat) : FuncId → Nat → Option LI
  | 60, 1007 => some (rdA b gen n size long)
  | 60, 1008 => some (rdB b gen n m size long)
  | 60, 11 => some (rdLI b gen n m tl size long)
  | 60, 1016 => some (rdC b gen n m size long)
  | 60, 1019 => some (rdD b gen n m size long)
  | _, _ => none
def jfS : FuncId → Option Known
  | 75 => some ⟨[.lend 1], Sopen⟩
  | 77 => some ⟨[.lend 1], Sseal⟩
  | f => pxS f
noncomputable def XJf : CallT := callS Try.prog jfS noT 10
theorem vcJForm (gen n : Int) (b : List Int) (K : V → KB → Prop) (hvc_ :
 (decide (gen ≥ 0) = true →
 ((!decide (gen ≤ 1099511627776)) = true → K (V.tup [V.sl 0 0 0, V.int IntKind.i64 5]) [KO.row 5 1 []]) ∧
 ((!decide (gen ≤ 1099511627776)) = false →
 (decide (n ≥ 0) = true →
 ((!decide (n ≤ 1099511627776)) = true → K (V.tup [V.sl 0 0 0, V.int IntKind.i64 5]) [KO.row 5 1 []]) ∧
 ((!decide (n ≤ 1099511627776)) = false →
 ∃ (a : List Int),
 [] = ints IntKind.u8 a ∧
 0 = a.length ∧
 a.length ≤ 10000000 ∧
 LeM gen ∧
 ∃ (a_1 : List Int),
 ints IntKind.u8 (a ++ numW gen) = ints IntKind.u8 a_1 ∧
 (a ++ numW gen).length = a_1.length ∧
 a_1.length ≤ 10000000 ∧
 LeM n ∧
 ∃ (a : List Int),
 ∃ (b_1 : List Int),
 ints IntKind.u8 (a_1 ++ numW n) = ints IntKind.u8 a ∧
 ints IntKind.u8 b = ints IntKind.u8 b_1 ∧
 (a_1 ++ numW n).length = a.length ∧
 a.length ≤ 1000000 ∧
 b_1.length ≤ 1000000 ∧
 ∃ (a_2 : List Int),
 ints IntKind.u8 (a ++ textW b_1) = ints IntKind.u8 a_2 ∧
 (a ++ textW b_1).length = a_2.length ∧
 a_2.length ≤ 1000000 ∧
 (a_2.length ≤ (ints IntKind.u8 a_2).length ∧ True) ∧
 ∃ (l : List Int),
 List.drop 0 (List.take a_2.length (ints IntKind.u8 a_2)) = ints IntKind.u8 l ∧
 (∀ (c : Int), List.Mem c l → 0 ≤ c ∧ c < 256) ∧
 l.length ≤ 900000 ∧
 PlainS (ints IntKind.u8 (sealI l)).flatten ∧
 (decide (IntKind.i64.wrap ((IntKind.i64.wrap (IntKind.i64.wrap (IntKind.i64.wrap (3 + (↑(l.length + 4 - 0) : Int)) + 64) - 1)).tdiv 64) > 16) = true → K (V.tup [V.sl 0 0 0, V.int IntKind.i64 15]) [KO.row 5 1 []]) ∧
 (decide (IntKind.i64.wrap ((IntKind.i64.wrap (IntKind.i64.wrap (IntKind.i64.wrap (3 + (↑(l.length + 4 - 0) : Int)) + 64) - 1)).tdiv 64) > 16) = false →
 NonN (IntKind.i64.wrap (IntKind.i64.wrap ((IntKind.i64.wrap (IntKind.i64.wrap (IntKind.i64.wrap (3 + (↑(l.length + 4 - 0) : Int)) + 64) - 1)).tdiv 64) * 64)) ∧
 Room (IntKind.i64.wrap (IntKind.i64.wrap ((IntKind.i64.wrap (IntKind.i64.wrap (IntKind.i64.wrap (3 + (↑(l.length + 4 - 0) : Int)) + 64) - 1)).tdiv 64) * 64)) (IntKind.i64.wrap (IntKind.i64.wrap ((IntKind.i64.wrap (IntKind.i64.wrap (IntKind.i64.wrap (3 + (↑(l.length + 4 - 0) : Int)) + 64) - 1)).tdiv 64) * 64)) 1 ∧
 InB 0 ((IntKind.i64.wrap (IntKind.i64.wrap ((IntKind.i64.wrap (IntKind.i64.wrap (IntKind.i64.wrap (3 + (↑(l.length + 4 - 0) : Int)) + 64) - 1)).tdiv 64) * 64)).toNat - 0) ∧
 0 < (List.replicate (IntKind.i64.wrap (IntKind.i64.wrap ((IntKind.i64.wrap (IntKind.i64.wrap (IntKind.i64.wrap (3 + (↑(l.length + 4 - 0) : Int)) + 64) - 1)).tdiv 64) * 64)).toNat [D.val (Value.int IntKind.u8 0)]).length ∧
 InB 1 ((IntKind.i64.wrap (IntKind.i64.wrap ((IntKind.i64.wrap (IntKind.i64.wrap (IntKind.i64.wrap (3 + (↑(l.length + 4 - 0) : Int)) + 64) - 1)).tdiv 64) * 64)).toNat - 0) ∧
 1 < ((List.replicate (IntKind.i64.wrap (IntKind.i64.wrap ((IntKind.i64.wrap (IntKind.i64.wrap (IntKind.i64.wrap (3 + (↑(l.length + 4 - 0) : Int)) + 64) - 1)).tdiv 64) * 64)).toNat [D.val (Value.int IntKind.u8 0)]).set 0 [D.val (Value.int IntKind.u8 1)]).length ∧
 InB 2 ((IntKind.i64.wrap (IntKind.i64.wrap ((IntKind.i64.wrap (IntKind.i64.wrap (IntKind.i64.wrap (3 + (↑(l.length + 4 - 0) : Int)) + 64) - 1)).tdiv 64) * 64)).toNat - 0) ∧
 2 <
 (((List.replicate (IntKind.i64.wrap (IntKind.i64.wrap ((IntKind.i64.wrap (IntKind.i64.wrap (IntKind.i64.wrap (3 + (↑(l.length + 4 - 0) : Int)) + 64) - 1)).tdiv 64) * 64)).toNat [D.val (Value.int IntKind.u8 0)]).set 0 [D.val (Value.int IntKind.u8 1)]).set 1
 [D.val (Value.int IntKind.u8 (IntKind.u8.wrap (↑(l.length + 4 - 0) : Int)))]).length ∧
 NonN 3 ∧
 True ∧
 3 ≤ (IntKind.i64.wrap (IntKind.i64.wrap ((IntKind.i64.wrap (IntKind.i64.wrap (IntKind.i64.wrap (3 + (↑(l.length + 4 - 0) : Int)) + 64) - 1)).tdiv 64) * 64)).toNat - 0 ∧
 (IntKind.i64.wrap (IntKind.i64.wrap ((IntKind.i64.wrap (IntKind.i64.wrap (IntKind.i64.wrap (3 + (↑(l.length + 4 - 0) : Int)) + 64) - 1)).tdiv 64) * 64)).toNat - 0 ≤
 (IntKind.i64.wrap (IntKind.i64.wrap ((IntKind.i64.wrap (IntKind.i64.wrap (IntKind.i64.wrap (3 + (↑(l.length + 4 - 0) : Int)) + 64) - 1)).tdiv 64) * 64)).toNat - 0 ∧
 l.length + 4 ≤ (ints IntKind.u8 (sealI l)).length ∧
 0 + ((IntKind.i64.wrap (IntKind.i64.wrap ((IntKind.i64.wrap (IntKind.i64.wrap (IntKind.i64.wrap (3 + (↑(l.length + 4 - 0) : Int)) + 64) - 1)).tdiv 64) * 64)).toNat - 0) ≤
 ((((List.replicate (IntKind.i64.wrap (IntKind.i64.wrap ((IntKind.i64.wrap (IntKind.i64.wrap (IntKind.i64.wrap (3 + (↑(l.length + 4 - 0) : Int)) + 64) - 1)).tdiv 64) * 64)).toNat [D.val (Value.int IntKind.u8 0)]).set 0 [D.val (Value.int IntKind.u8 1)]).set 1
 [D.val (Value.int IntKind.u8 (IntKind.u8.wrap (↑(l.length + 4 - 0) : Int)))]).set
 2 [D.val (Value.int IntKind.u8 (IntKind.u8.wrap ((↑(l.length + 4 - 0) : Int).fdiv 256)))]).length ∧
 K (V.tup [V.sl 0 0 (IntKind.i64.wrap (IntKind.i64.wrap ((IntKind.i64.wrap (IntKind.i64.wrap (IntKind.i64.wrap (3 + (↑(l.length + 4 - 0) : Int)) + 64) - 1)).tdiv 64) * 64)).toNat, V.int IntKind.i64 0])
 [KO.row 5 1
 (splice
 ((((List.replicate (IntKind.i64.wrap (IntKind.i64.wrap ((IntKind.i64.wrap (IntKind.i64.wrap (IntKind.i64.wrap (3 + (↑(l.length + 4 - 0) : Int)) + 64) - 1)).tdiv 64) * 64)).toNat [D.val (Value.int IntKind.u8 0)]).set 0 [D.val (Value.int IntKind.u8 1)]).set 1
 [D.val (Value.int IntKind.u8 (IntKind.u8.wrap (↑(l.length + 4 - 0) : Int)))]).set
 2 [D.val (Value.int IntKind.u8 (IntKind.u8.wrap ((↑(l.length + 4 - 0) : Int).fdiv 256)))])
 3 (List.take (0 + ((IntKind.i64.wrap (IntKind.i64.wrap ((IntKind.i64.wrap (IntKind.i64.wrap (IntKind.i64.wrap (3 + (↑(l.length + 4 - 0) : Int)) + 64) - 1)).tdiv 64) * 64)).toNat - 0) - 3) (List.drop 0 (List.take (l.length + 4) (ints IntKind.u8 (sealI l))))))]))) ∧
 (decide (n ≥ 0) = false → K (V.tup [V.sl 0 0 0, V.int IntKind.i64 5]) [KO.row 5 1 []]))) ∧
 (decide (gen ≥ 0) = false → K (V.tup [V.sl 0 0 0, V.int IntKind.i64 5]) [KO.row 5 1 []])
 ) : runSpec Try.prog XJf (noT 65) 65 [.int .i64 gen, .int .i64 n, .dat (.sl 1 (ints .u8 b))] [] (nilRes [.slot 0 5 1] (tidyRes 0 K)) := by apply Eq.mp (a := hvc_); kernel_rfl
theorem vcJRead (b : List Int) (gen n : Int) (m tl : List Int) (size long : Nat) (K : V → KB → Prop) (hvc_ :
 (decide ((↑(ints IntKind.u8 b).length : Int) < 3) = true → K (V.tup [V.sl 0 0 0, V.int IntKind.i64 0, V.sb false]) [KO.row 5 1 []]) ∧
 (decide ((↑(ints IntKind.u8 b).length : Int) < 3) = false →
 NonN 0 ∧
 ∃ (e : List D),
 (ints IntKind.u8 b)[0]? = some e ∧
 ∃ (n_1 : Int),
 e[0]? = some (D.val (Value.int IntKind.u8 n_1)) ∧
 ((n_1 != 1) = true → K (V.tup [V.sl 0 0 0, V.int IntKind.i64 0, V.sb false]) [KO.row 5 1 []]) ∧
 ((n_1 != 1) = false →
 NonN 1 ∧
 ∃ (e : List D),
 (ints IntKind.u8 b)[1]? = some e ∧
 ∃ (n_2 : Int),
 e[0]? = some (D.val (Value.int IntKind.u8 n_2)) ∧
 NonN 2 ∧
 ∃ (e : List D),
 (ints IntKind.u8 b)[2]? = some e ∧
 ∃ (n_3 : Int),
 e[0]? = some (D.val (Value.int IntKind.u8 n_3)) ∧
 ((decide (IntKind.i64.wrap ((IntKind.i64.wrap (IntKind.i64.wrap (IntKind.i64.wrap (3 + IntKind.i64.wrap (IntKind.i64.wrap n_2 + IntKind.i64.wrap (IntKind.i64.wrap n_3 * 256))) + 64) - 1)).tdiv 64) > 16) = true → K (V.tup [V.sl 0 0 0, V.int IntKind.i64 0, V.sb false]) [KO.row 5 1 []]) ∧
 (decide (IntKind.i64.wrap ((IntKind.i64.wrap (IntKind.i64.wrap (IntKind.i64.wrap (3 + IntKind.i64.wrap (IntKind.i64.wrap n_2 + IntKind.i64.wrap (IntKind.i64.wrap n_3 * 256))) + 64) - 1)).tdiv 64) > 16) = false →
 (decide (IntKind.i64.wrap (IntKind.i64.wrap ((IntKind.i64.wrap (IntKind.i64.wrap (IntKind.i64.wrap (3 + IntKind.i64.wrap (IntKind.i64.wrap n_2 + IntKind.i64.wrap (IntKind.i64.wrap n_3 * 256))) + 64) - 1)).tdiv 64) * 64) > (↑(ints IntKind.u8 b).length : Int)) = true → K (V.tup [V.sl 0 0 0, V.int IntKind.i64 0, V.sb false]) [KO.row 5 1 []]) ∧
 (decide (IntKind.i64.wrap (IntKind.i64.wrap ((IntKind.i64.wrap (IntKind.i64.wrap (IntKind.i64.wrap (3 + IntKind.i64.wrap (IntKind.i64.wrap n_2 + IntKind.i64.wrap (IntKind.i64.wrap n_3 * 256))) + 64) - 1)).tdiv 64) * 64) > (↑(ints IntKind.u8 b).length : Int)) = false →
 At (rdA b gen n size long)
 ([V.dat (D.sl 1 (ints IntKind.u8 b)), V.int IntKind.i64 gen, V.int IntKind.i64 n, V.int IntKind.i64 (IntKind.i64.wrap ((IntKind.i64.wrap (IntKind.i64.wrap (IntKind.i64.wrap (3 + IntKind.i64.wrap (IntKind.i64.wrap n_2 + IntKind.i64.wrap (IntKind.i64.wrap n_3 * 256))) + 64) - 1)).tdiv 64)),
 V.int IntKind.i64 (IntKind.i64.wrap (IntKind.i64.wrap n_2 + IntKind.i64.wrap (IntKind.i64.wrap n_3 * 256)))],
 [])))) ∧
 ∀ (i : { u : Unit // CA b size long }),
 (NonN 3 ∧
 NonN (IntKind.i64.wrap (3 + (↑long : Int))) ∧
 3 ≤ (IntKind.i64.wrap (3 + (↑long : Int))).toNat ∧
 (IntKind.i64.wrap (3 + (↑long : Int))).toNat ≤ (ints IntKind.u8 b).length ∧
 ∃ (l : List Int),
 List.drop 3 (List.take (IntKind.i64.wrap (3 + (↑long : Int))).toNat (ints IntKind.u8 b)) = ints IntKind.u8 l ∧
 (∀ (c : Int), List.Mem c l → 0 ≤ c ∧ c < 256) ∧
 l.length ≤ 900000 ∧
 (openI l = none → At (rdB b gen n m size long) ([V.dat (D.sl 1 (ints IntKind.u8 b)), V.int IntKind.i64 gen, V.int IntKind.i64 n, V.int IntKind.i64 (↑size : Int), V.sb false, V.int IntKind.i64 (↑long : Int), V.sl 0 0 0], [KO.row 5 1 []])) ∧
 ∀ (m_1 : List Int),
 openI l = some m_1 →
 (m_1 = [] → At (rdB b gen n m size long) ([V.dat (D.sl 1 (ints IntKind.u8 b)), V.int IntKind.i64 gen, V.int IntKind.i64 n, V.int IntKind.i64 (↑size : Int), V.sb true, V.int IntKind.i64 (↑long : Int), V.sl 0 0 0], [KO.row 5 1 []])) ∧
 At (rdB b gen n m size long) ([V.dat (D.sl 1 (ints IntKind.u8 b)), V.int IntKind.i64 gen, V.int IntKind.i64 n, V.int IntKind.i64 (↑size : Int), V.sb true, V.int IntKind.i64 (↑long : Int), V.sl 0 0 m_1.length], [KO.row 5 1 (ints IntKind.u8 m_1)])) ∧
 ∀ (i : { q : Bool // CBq b m size long q }),
 ((!i.val) = true → K (V.tup [V.sl 0 0 0, V.int IntKind.i64 0, V.sb false]) [KO.row 5 1 []]) ∧
 ((!i.val) = false →
 (NonN (IntKind.i64.wrap (3 + (↑long : Int))) ∧
 NonN (IntKind.i64.wrap ((↑size : Int) * 64)) ∧
 (IntKind.i64.wrap (3 + (↑long : Int))).toNat ≤ (IntKind.i64.wrap ((↑size : Int) * 64)).toNat ∧
 (IntKind.i64.wrap ((↑size : Int) * 64)).toNat ≤ (ints IntKind.u8 b).length ∧
 At (rdLI b gen n m tl size long)
 ([V.int IntKind.i64 gen, V.int IntKind.i64 n, V.int IntKind.i64 (↑size : Int), V.sl 0 0 m.length, V.dat (D.sl 1 (List.drop (IntKind.i64.wrap (3 + (↑long : Int))).toNat (List.take (IntKind.i64.wrap ((↑size : Int) * 64)).toNat (ints IntKind.u8 b)))),
 V.int IntKind.i64 (↑(List.drop (IntKind.i64.wrap (3 + (↑long : Int))).toNat (List.take (IntKind.i64.wrap ((↑size : Int) * 64)).toNat (ints IntKind.u8 b))).length : Int), V.int IntKind.i64 0],
 [KO.row 5 1 (ints IntKind.u8 m)]) ∧
 ∀ (i : { i : Nat // CB b m size long ∧ tl = tailJ b ∧ i ≤ tl.length ∧ ∀ (c : Int), c ∈ List.take i tl → c = 0 }),
 (decide ((↑i.val : Int) < (↑tl.length : Int)) = true →
 NonN (↑i.val : Int) ∧
 ∃ (e : List D),
 (ints IntKind.u8 tl)[(↑i.val : Int).toNat]? = some e ∧
 ∃ (n_4 : Int),
 e[0]? = some (D.val (Value.int IntKind.u8 n_4)) ∧
 ((n_4 != 0) = true → K (V.tup [V.sl 0 0 0, V.int IntKind.i64 0, V.sb false]) [KO.row 5 1 []]) ∧
 ((n_4 != 0) = false →
 Nx (rdLI b gen n m tl size long) i ([V.int IntKind.i64 gen, V.int IntKind.i64 n, V.int IntKind.i64 (↑size : Int), V.sl 0 0 m.length, V.dat (D.sl 1 (ints IntKind.u8 tl)), V.int IntKind.i64 (↑tl.length : Int), V.int IntKind.i64 (IntKind.i64.wrap ((↑i.val : Int) + 1))], [KO.row 5 1 (ints IntKind.u8 m)]))) ∧
 (decide ((↑i.val : Int) < (↑tl.length : Int)) = false → At (rdC b gen n m size long) ([V.int IntKind.i64 gen, V.int IntKind.i64 n, V.int IntKind.i64 (↑size : Int), V.sl 0 0 m.length], [KO.row 5 1 (ints IntKind.u8 m)]))) ∧
 ∀ (i : { u : Unit // CC b m size long }),
 (m.length ≤ (ints IntKind.u8 m).length ∧ True) ∧
 (List.drop 0 (List.take m.length (ints IntKind.u8 m))).length ≤ 1000000 ∧
 PlainS (List.drop 0 (List.take m.length (ints IntKind.u8 m))).flatten ∧
 ∃ (l : List Int),
 List.drop 0 (List.take m.length (ints IntKind.u8 m)) = ints IntKind.u8 l ∧
 (List.drop 0 (List.take m.length (ints IntKind.u8 m))).length = l.length ∧
 0 ≤ l.length ∧
 (∀ (c : Int), List.Mem c l → 0 ≤ c ∧ c < 256) ∧
 l.length ≤ 10000000 ∧
 ∃ (l_1 : List Int),
 ints IntKind.u8 l = ints IntKind.u8 l_1 ∧
 l.length = l_1.length ∧
 0 + (rNum (List.drop 0 l) 0 1099511627776).snd.fst ≤ l_1.length ∧
 (∀ (c : Int), List.Mem c l_1 → 0 ≤ c ∧ c < 256) ∧
 l_1.length ≤ 10000000 ∧
 (∃ (l_2 : List Int),
 ints IntKind.u8 l_1 = ints IntKind.u8 l_2 ∧
 l_1.length = l_2.length ∧
 0 + (rNum (List.drop 0 l) 0 1099511627776).snd.fst + (rNum (List.drop (0 + (rNum (List.drop 0 l) 0 1099511627776).snd.fst) l_1) (rNum (List.drop 0 l) 0 1099511627776).snd.snd 1099511627776).snd.fst ≤ l_2.length ∧
 (∀ (c : Int), List.Mem c l_2 → 0 ≤ c ∧ c < 256) ∧
 l_2.length ≤ 900000 ∧
 At (rdD b gen n m size long)
 ([V.int IntKind.i64 gen, V.int IntKind.i64 n,
 V.sl 0 0
 (rText (List.drop (0 + (rNum (List.drop 0 l) 0 1099511627776).snd.fst + (rNum (List.drop (0 + (rNum (List.drop 0 l) 0 1099511627776).snd.fst) l_1) (rNum (List.drop 0 l) 0 1099511627776).snd.snd 1099511627776).snd.fst) l_2)
 (rNum (List.drop (0 + (rNum (List.drop 0 l) 0 1099511627776).snd.fst) l_1) (rNum (List.drop 0 l) 0 1099511627776).snd.snd 1099511627776).snd.snd (↑(m.length - 0) : Int)).fst.length,
 V.int IntKind.i64 (↑size : Int), V.ptr 1 0, V.int IntKind.i64 (rNum (List.drop 0 l) 0 1099511627776).fst, V.int IntKind.i64 (rNum (List.drop (0 + (rNum (List.drop 0 l) 0 1099511627776).snd.fst) l_1) (rNum (List.drop 0 l) 0 1099511627776).snd.snd 1099511627776).fst],
 [KO.row 5 1
 (ints IntKind.u8
 (rText (List.drop (0 + (rNum (List.drop 0 l) 0 1099511627776).snd.fst + (rNum (List.drop (0 + (rNum (List.drop 0 l) 0 1099511627776).snd.fst) l_1) (rNum (List.drop 0 l) 0 1099511627776).snd.snd 1099511627776).snd.fst) l_2)
 (rNum (List.drop (0 + (rNum (List.drop 0 l) 0 1099511627776).snd.fst) l_1) (rNum (List.drop 0 l) 0 1099511627776).snd.snd 1099511627776).snd.snd (↑(m.length - 0) : Int)).fst),
 KO.cells
 [V.sl 2
 (0 + (rNum (List.drop 0 l) 0 1099511627776).snd.fst + (rNum (List.drop (0 + (rNum (List.drop 0 l) 0 1099511627776).snd.fst) l_1) (rNum (List.drop 0 l) 0 1099511627776).snd.snd 1099511627776).snd.fst +
 (rText (List.drop (0 + (rNum (List.drop 0 l) 0 1099511627776).snd.fst + (rNum (List.drop (0 + (rNum (List.drop 0 l) 0 1099511627776).snd.fst) l_1) (rNum (List.drop 0 l) 0 1099511627776).snd.snd 1099511627776).snd.fst) l_2)
 (rNum (List.drop (0 + (rNum (List.drop 0 l) 0 1099511627776).snd.fst) l_1) (rNum (List.drop 0 l) 0 1099511627776).snd.snd 1099511627776).snd.snd (↑(m.length - 0) : Int)).snd.fst)
 l_2.length,
 V.int IntKind.i64
 (rText (List.drop (0 + (rNum (List.drop 0 l) 0 1099511627776).snd.fst + (rNum (List.drop (0 + (rNum (List.drop 0 l) 0 1099511627776).snd.fst) l_1) (rNum (List.drop 0 l) 0 1099511627776).snd.snd 1099511627776).snd.fst) l_2)
 (rNum (List.drop (0 + (rNum (List.drop 0 l) 0 1099511627776).snd.fst) l_1) (rNum (List.drop 0 l) 0 1099511627776).snd.snd 1099511627776).snd.snd (↑(m.length - 0) : Int)).snd.snd],
 KO.row 5 1 (ints IntKind.u8 l_2)])) ∧
 ∀ (i : { p : PD // CC b m size long ∧ CDr m p }),
 ∃ (l : List Int),
 ints IntKind.u8 m = ints IntKind.u8 l ∧
 m.length = l.length ∧
 ((rEnd (List.drop i.val.lo l) i.val.e == 0) = true →
 ((i.val.g == gen) = true → K (V.tup [V.sl 0 0 i.val.t.length, V.int IntKind.i64 (↑size : Int), V.sb (i.val.k == n)]) [KO.row 5 1 (ints IntKind.u8 i.val.t)]) ∧
 ((i.val.g == gen) = false → K (V.tup [V.sl 0 0 i.val.t.length, V.int IntKind.i64 (↑size : Int), V.sb false]) [KO.row 5 1 (ints IntKind.u8 i.val.t)])) ∧
 ((rEnd (List.drop i.val.lo l) i.val.e == 0) = false → K (V.tup [V.sl 0 0 i.val.t.length, V.int IntKind.i64 (↑size : Int), V.sb false]) [KO.row 5 1 (ints IntKind.u8 i.val.t)]))))
 ) : runSpec Try.prog XJf (jfT b gen n m tl size long 60) 60 [.dat (.sl 1 (ints .u8 b)), .int .i64 gen, .int .i64 n] [] (nilRes [.slot 0 5 1] (tidyRes 0 K)) := by apply Eq.mp (a := hvc_); kernel_rfl
theorem jfS_ok : AllOk Try.prog jfS := fun f k h => by
  unfold jfS at h
  split at h
  · cases h; exact okOpen
  · cases h; exact okSeal
  · exact pxS_ok _ _ h
theorem XJf_ok : CallOk Try.prog XJf := callS_ok mixed jfS_ok noT 10
theorem wsz {L : Nat} (h : L ≤ 900100) : IntKind.i64.wrap ((IntKind.i64.wrap (IntKind.i64.wrap (IntKind.i64.wrap (3 + (L : Int)) + 64) - 1)).tdiv 64) = (((L + 66) / 64 : Nat) : Int) := by
  rw [w64 (n := 3 + (L : Int)) (by omega) (by omega), w64 (n := 3 + (L : Int) + 64) (by omega) (by omega), w64 (n := 3 + (L : Int) + 64 - 1) (by omega) (by omega), Int.tdiv_eq_ediv_of_nonneg (by omega), w64 (by omega) (by omega)]
  omega
theorem bodyJ_len (gen n : Int) (b : List Int) : (bodyJ gen n b).length = (numW gen ++ numW n ++ textW b).length + 4 := sealI_len _
theorem bodyJ_le (gen n : Int) (b : List Int) : (numW gen ++ numW n ++ textW b).length ≤ b.length + 27 := by
  have := (numW_len gen).2; have := (numW_len n).2; have := (textW_len b).2
  rw [List.length_append, List.length_append]; omega
theorem row3 {N : Nat} {z a b c : List D} (v : List (List D)) (h : v.length + 3 ≤ N) : splice ((((List.replicate N z).set 0 a).set 1 b).set 2 c) 3 v = a :: b :: c :: (v ++ List.replicate (N - 3 - v.length) z) := by
  obtain ⟨M, rfl⟩ : ∃ M, N = M + 3 := ⟨N - 3, by omega⟩
  simp only [List.replicate_succ, List.set_cons_zero, List.set_cons_succ, splice, List.take_succ_cons, List.take_zero, List.cons_append, List.nil_append]
  rw [show 3 + v.length = v.length + 3 by omega, List.drop_succ_cons, List.drop_succ_cons, List.drop_succ_cons, List.drop_replicate]
  simp
theorem rawJ_len {r : List Int} : (rawJ r).length = 64 * szJ r := by
  unfold rawJ szJ
  simp only [List.length_cons, List.length_append, List.length_replicate]
  omega
theorem okJForm : SpecOk Try.prog 65 Sform := specOk_nt XJf_ok mixed [.slot 0 5 1] (fun args kb K h => by
  unfold Sform at h; split at h <;> try exact h.elim
  rename_i gen n _
  obtain ⟨b, rfl, hb, hl, h⟩ := h
  refine ⟨noT _, vcJForm gen n b K ?_⟩
  simp only [decide_eq_true_eq, decide_eq_false_iff_not, Bool.not_eq_true', Bool.not_eq_false']
  unfold formJ at h
  have bad : (¬ NumJ gen ∨ ¬ NumJ n) → K (V.tup [V.sl 0 0 0, V.int IntKind.i64 5]) [KO.row 5 1 []] := fun q => by rw [if_pos q] at h; exact h
  refine ⟨fun h1 => ⟨fun h2 => bad (.inl fun q => h2 q.hi), fun h2 => ⟨fun h3 => ⟨fun h4 => bad (.inr fun q => h4 q.hi), fun h4 => ?_⟩, fun h3 => bad (.inr fun q => h3 q.lo)⟩⟩, fun h1 => bad (.inl fun q => h1 q.lo)⟩
  rw [if_neg (by rintro (q | q); exact q ⟨h1, h2⟩; exact q ⟨h3, h4⟩)] at h
  have hle := bodyJ_le gen n b
  have l1 := (numW_len gen).2
  have l2 := (numW_len n).2
  have byt : Byt (numW gen ++ numW n ++ textW b) := fun c hc => by
    rcases List.mem_append.1 hc with hc | hc
    · rcases List.mem_append.1 hc with hc | hc
      · exact numW_byt (by omega) c hc
      · exact numW_byt (by omega) c hc
    · exact textW_byt hb (by omega) c hc
  refine ⟨[], rfl, rfl, by simp, ⟨by omega⟩, numW gen, rfl, rfl, by omega, ⟨by omega⟩, numW gen ++ numW n, b, rfl, rfl, rfl, by rw [List.length_append]; omega, by omega, numW gen ++ numW n ++ textW b, rfl, rfl, by omega, ⟨by rw [ints_len]; omega, trivial⟩, _, dropTake, byt, by omega, ⟨plain_ints⟩, ?_⟩
  have hL := bodyJ_len gen n b
  have es : sealI (numW gen ++ numW n ++ textW b) = bodyJ gen n b := rfl
  rw [es]
  rw [← hL]
  generalize bodyJ gen n b = r at *
  simp only [Nat.sub_zero]
  rw [wsz (by omega)]
  have e2 : IntKind.i64.wrap ((((r.length + 66) / 64 : Nat) : Int) * 64) = ((64 * szJ r : Nat) : Int) := by unfold szJ; rw [w64 (by omega) (by omega)]; omega
  rw [e2, Int.toNat_natCast]
  refine ⟨fun h5 => ?_, fun h5 => ?_⟩
  · rw [if_pos (by unfold szJ; omega)] at h
    exact h
  · rw [if_neg (by unfold szJ; omega)] at h
    have hs : 3 + r.length ≤ 64 * szJ r := by unfold szJ; omega
    have hs2 : 64 * szJ r ≤ 1024 := by unfold szJ; omega
    have e3 : List.take (0 + 64 * szJ r - 3) (List.drop 0 (List.take r.length (ints IntKind.u8 r))) = ints .u8 r := by
      rw [dropTake, List.take_of_length_le (by rw [ints_len]; omega)]
    have e4 : IntKind.u8.wrap (r.length : Int) = ((r.length % 256 : Nat) : Int) := by
      show (r.length : Int) % 2 ^ 8 = _
      omega
    have e5 : IntKind.u8.wrap ((r.length : Int).fdiv 256) = ((r.length / 256 : Nat) : Int) := by
      rw [Int.fdiv_eq_ediv_of_nonneg _ (by omega), w8 (by omega) (by omega)]; omega
    rw [e3, e4, e5, row3 _ (by rw [ints_len]; omega), ints_len]
    simp only [List.length_set, List.length_replicate, ints_len, Nat.sub_zero, Nat.zero_add]
    refine ⟨by unfold NonN; omega, ⟨by omega, by omega, by omega⟩, by unfold InB; omega, by omega, by unfold InB; omega, by omega, by unfold InB; omega, by omega, by unfold NonN; omega, trivial, by omega, by omega, by omega, by omega, ?_⟩
    rw [rawJ_len] at h
    have e6 : ints .u8 (rawJ r) = [D.val (.int .u8 1)] :: [D.val (.int .u8 ((r.length % 256 : Nat) : Int))] :: [D.val (.int .u8 ((r.length / 256 : Nat) : Int))] :: (ints .u8 r ++ List.replicate (64 * szJ r - 3 - r.length) [D.val (.int .u8 0)]) := by
      unfold rawJ ints; simp
    rw [e6] at h
    exact h)
theorem elB {b : List Int} {i : Nat} (h : i < b.length) : (ints .u8 b)[i]? = some [D.val (.int .u8 (b.getD i 0))] := by
  rw [ints_get, List.getD_eq_getElem?_getD, List.getElem?_eq_getElem h]; rfl
theorem wlong {x y : Int} (hx : 0 ≤ x ∧ x < 256) (hy : 0 ≤ y ∧ y < 256) : IntKind.i64.wrap (IntKind.i64.wrap x + IntKind.i64.wrap (IntKind.i64.wrap y * 256)) = (((x + y * 256).toNat : Nat) : Int) := by
  rw [w64 (n := x) (by omega) (by omega), w64 (n := y) (by omega) (by omega), w64 (n := y * 256) (by omega) (by omega), w64 (by omega) (by omega)]; omega
theorem getD_byt {b : List Int} (h : Byt b) (i : Nat) : 0 ≤ b.getD i 0 ∧ b.getD i 0 < 256 := by
  rw [List.getD_eq_getElem?_getD]
  cases e : b[i]? with
  | none => simp
  | some c => exact h c (List.mem_of_getElem? e)
theorem readJ_no {b : List Int} {gen n : Int} (h : b.length < 3 ∨ b.getD 0 0 ≠ 1 ∨ 16 < jsize b ∨ b.length < jsize b * 64) : readJ b gen n = none := by
  unfold readJ; rw [if_pos h]
theorem CA.read {b : List Int} {size long : Nat} (h : CA b size long) (gen n : Int) : readJ b gen n = match openI ((b.drop 3).take long) with
  | none => none
  | some m => if isAll (tailJ b) = true then finJ m gen n size else none := by
  unfold readJ
  have h1 := h.sz; have h2 := h.lg; have h3 := h.l3; have h4 := h.b0; have h5 := h.s16; have h6 := h.fit
  rw [if_neg (by rw [h1] at h5 h6; rintro (q | q | q | q) <;> first | omega | exact q h4), h2, h1]
theorem CA.range {b : List Int} {size long : Nat} (h : CA b size long) : 3 + long ≤ size * 64 ∧ size * 64 ≤ 1024 := by
  have h1 := h.sz; have h2 := h.lg; have h5 := h.s16
  have h1 := h.sz
  rw [show jsize b = (jlong b + 66) / 64 from rfl, ← h2] at h1
  omega
theorem openI_len {l m : List Int} (h : openI l = some m) : m.length ≤ l.length := by
  rw [openI_some h, sealI_len]; omega
theorem openI_byt {l m : List Int} (h : openI l = some m) (hb : Byt l) : Byt m := fun c hc => hb c (by
  rw [openI_some h]; unfold sealI; exact List.mem_append_left _ hc)
theorem allZ {l : List Int} : isAll l = true ↔ ∀ c ∈ l, c = 0 := by
  unfold isAll; simp
theorem jreadRest {b : List Int} {gen n : Int} {m : List Int} {size long : Nat} {tl : List Int} {K : V → KB → Prop} (hb : Byt b) (hl : b.length ≤ 800000) (htl : tl = tailJ b)
    (hno : readJ b gen n = none → ∀ (t : List Int) (s : Int), K (.tup [.sl 0 0 t.length, .int .i64 s, .sb false]) [.row 5 1 (ints .u8 t)])
    (hyes : ∀ t s, readJ b gen n = some (t, s) → K (.tup [.sl 0 0 t.length, .int .i64 (s : Int), .sb true]) [.row 5 1 (ints .u8 t)])
    (hm : (openI ((b.drop 3).take (jlong b))).getD [] = m) (hsz : size = jsize b) (hlg : long = jlong b) (no0 : readJ b gen n = none → K (V.tup [V.sl 0 0 0, V.int IntKind.i64 0, V.sb false]) [KO.row 5 1 []]) :
 ∀ (i : { u : Unit // CA b size long }),
 (NonN 3 ∧
 NonN (IntKind.i64.wrap (3 + (↑long : Int))) ∧
 3 ≤ (IntKind.i64.wrap (3 + (↑long : Int))).toNat ∧
 (IntKind.i64.wrap (3 + (↑long : Int))).toNat ≤ (ints IntKind.u8 b).length ∧
 ∃ (l : List Int),
 List.drop 3 (List.take (IntKind.i64.wrap (3 + (↑long : Int))).toNat (ints IntKind.u8 b)) = ints IntKind.u8 l ∧
 (∀ (c : Int), List.Mem c l → 0 ≤ c ∧ c < 256) ∧
 l.length ≤ 900000 ∧
 (openI l = none → At (rdB b gen n m size long) ([V.dat (D.sl 1 (ints IntKind.u8 b)), V.int IntKind.i64 gen, V.int IntKind.i64 n, V.int IntKind.i64 (↑size : Int), V.sb false, V.int IntKind.i64 (↑long : Int), V.sl 0 0 0], [KO.row 5 1 []])) ∧
 ∀ (m_1 : List Int),
 openI l = some m_1 →
 (m_1 = [] → At (rdB b gen n m size long) ([V.dat (D.sl 1 (ints IntKind.u8 b)), V.int IntKind.i64 gen, V.int IntKind.i64 n, V.int IntKind.i64 (↑size : Int), V.sb true, V.int IntKind.i64 (↑long : Int), V.sl 0 0 0], [KO.row 5 1 []])) ∧
 At (rdB b gen n m size long) ([V.dat (D.sl 1 (ints IntKind.u8 b)), V.int IntKind.i64 gen, V.int IntKind.i64 n, V.int IntKind.i64 (↑size : Int), V.sb true, V.int IntKind.i64 (↑long : Int), V.sl 0 0 m_1.length], [KO.row 5 1 (ints IntKind.u8 m_1)])) ∧
 ∀ (i : { q : Bool // CBq b m size long q }),
 ((!i.val) = true → K (V.tup [V.sl 0 0 0, V.int IntKind.i64 0, V.sb false]) [KO.row 5 1 []]) ∧
 ((!i.val) = false →
 (NonN (IntKind.i64.wrap (3 + (↑long : Int))) ∧
 NonN (IntKind.i64.wrap ((↑size : Int) * 64)) ∧
 (IntKind.i64.wrap (3 + (↑long : Int))).toNat ≤ (IntKind.i64.wrap ((↑size : Int) * 64)).toNat ∧
 (IntKind.i64.wrap ((↑size : Int) * 64)).toNat ≤ (ints IntKind.u8 b).length ∧
 At (rdLI b gen n m tl size long)
 ([V.int IntKind.i64 gen, V.int IntKind.i64 n, V.int IntKind.i64 (↑size : Int), V.sl 0 0 m.length, V.dat (D.sl 1 (List.drop (IntKind.i64.wrap (3 + (↑long : Int))).toNat (List.take (IntKind.i64.wrap ((↑size : Int) * 64)).toNat (ints IntKind.u8 b)))),
 V.int IntKind.i64 (↑(List.drop (IntKind.i64.wrap (3 + (↑long : Int))).toNat (List.take (IntKind.i64.wrap ((↑size : Int) * 64)).toNat (ints IntKind.u8 b))).length : Int), V.int IntKind.i64 0],
 [KO.row 5 1 (ints IntKind.u8 m)]) ∧
 ∀ (i : { i : Nat // CB b m size long ∧ tl = tailJ b ∧ i ≤ tl.length ∧ ∀ (c : Int), c ∈ List.take i tl → c = 0 }),
 (decide ((↑i.val : Int) < (↑tl.length : Int)) = true →
 NonN (↑i.val : Int) ∧
 ∃ (e : List D),
 (ints IntKind.u8 tl)[(↑i.val : Int).toNat]? = some e ∧
 ∃ (n_4 : Int),
 e[0]? = some (D.val (Value.int IntKind.u8 n_4)) ∧
 ((n_4 != 0) = true → K (V.tup [V.sl 0 0 0, V.int IntKind.i64 0, V.sb false]) [KO.row 5 1 []]) ∧
 ((n_4 != 0) = false →
 Nx (rdLI b gen n m tl size long) i ([V.int IntKind.i64 gen, V.int IntKind.i64 n, V.int IntKind.i64 (↑size : Int), V.sl 0 0 m.length, V.dat (D.sl 1 (ints IntKind.u8 tl)), V.int IntKind.i64 (↑tl.length : Int), V.int IntKind.i64 (IntKind.i64.wrap ((↑i.val : Int) + 1))], [KO.row 5 1 (ints IntKind.u8 m)]))) ∧
 (decide ((↑i.val : Int) < (↑tl.length : Int)) = false → At (rdC b gen n m size long) ([V.int IntKind.i64 gen, V.int IntKind.i64 n, V.int IntKind.i64 (↑size : Int), V.sl 0 0 m.length], [KO.row 5 1 (ints IntKind.u8 m)]))) ∧
 ∀ (i : { u : Unit // CC b m size long }),
 (m.length ≤ (ints IntKind.u8 m).length ∧ True) ∧
 (List.drop 0 (List.take m.length (ints IntKind.u8 m))).length ≤ 1000000 ∧
 PlainS (List.drop 0 (List.take m.length (ints IntKind.u8 m))).flatten ∧
 ∃ (l : List Int),
 List.drop 0 (List.take m.length (ints IntKind.u8 m)) = ints IntKind.u8 l ∧
 (List.drop 0 (List.take m.length (ints IntKind.u8 m))).length = l.length ∧
 0 ≤ l.length ∧
 (∀ (c : Int), List.Mem c l → 0 ≤ c ∧ c < 256) ∧
 l.length ≤ 10000000 ∧
 ∃ (l_1 : List Int),
 ints IntKind.u8 l = ints IntKind.u8 l_1 ∧
 l.length = l_1.length ∧
 0 + (rNum (List.drop 0 l) 0 1099511627776).snd.fst ≤ l_1.length ∧
 (∀ (c : Int), List.Mem c l_1 → 0 ≤ c ∧ c < 256) ∧
 l_1.length ≤ 10000000 ∧
 (∃ (l_2 : List Int),
 ints IntKind.u8 l_1 = ints IntKind.u8 l_2 ∧
 l_1.length = l_2.length ∧
 0 + (rNum (List.drop 0 l) 0 1099511627776).snd.fst + (rNum (List.drop (0 + (rNum (List.drop 0 l) 0 1099511627776).snd.fst) l_1) (rNum (List.drop 0 l) 0 1099511627776).snd.snd 1099511627776).snd.fst ≤ l_2.length ∧
 (∀ (c : Int), List.Mem c l_2 → 0 ≤ c ∧ c < 256) ∧
 l_2.length ≤ 900000 ∧
 At (rdD b gen n m size long)
 ([V.int IntKind.i64 gen, V.int IntKind.i64 n,
 V.sl 0 0
 (rText (List.drop (0 + (rNum (List.drop 0 l) 0 1099511627776).snd.fst + (rNum (List.drop (0 + (rNum (List.drop 0 l) 0 1099511627776).snd.fst) l_1) (rNum (List.drop 0 l) 0 1099511627776).snd.snd 1099511627776).snd.fst) l_2)
 (rNum (List.drop (0 + (rNum (List.drop 0 l) 0 1099511627776).snd.fst) l_1) (rNum (List.drop 0 l) 0 1099511627776).snd.snd 1099511627776).snd.snd (↑(m.length - 0) : Int)).fst.length,
 V.int IntKind.i64 (↑size : Int), V.ptr 1 0, V.int IntKind.i64 (rNum (List.drop 0 l) 0 1099511627776).fst, V.int IntKind.i64 (rNum (List.drop (0 + (rNum (List.drop 0 l) 0 1099511627776).snd.fst) l_1) (rNum (List.drop 0 l) 0 1099511627776).snd.snd 1099511627776).fst],
 [KO.row 5 1
 (ints IntKind.u8
 (rText (List.drop (0 + (rNum (List.drop 0 l) 0 1099511627776).snd.fst + (rNum (List.drop (0 + (rNum (List.drop 0 l) 0 1099511627776).snd.fst) l_1) (rNum (List.drop 0 l) 0 1099511627776).snd.snd 1099511627776).snd.fst) l_2)
 (rNum (List.drop (0 + (rNum (List.drop 0 l) 0 1099511627776).snd.fst) l_1) (rNum (List.drop 0 l) 0 1099511627776).snd.snd 1099511627776).snd.snd (↑(m.length - 0) : Int)).fst),
 KO.cells
 [V.sl 2
 (0 + (rNum (List.drop 0 l) 0 1099511627776).snd.fst + (rNum (List.drop (0 + (rNum (List.drop 0 l) 0 1099511627776).snd.fst) l_1) (rNum (List.drop 0 l) 0 1099511627776).snd.snd 1099511627776).snd.fst +
 (rText (List.drop (0 + (rNum (List.drop 0 l) 0 1099511627776).snd.fst + (rNum (List.drop (0 + (rNum (List.drop 0 l) 0 1099511627776).snd.fst) l_1) (rNum (List.drop 0 l) 0 1099511627776).snd.snd 1099511627776).snd.fst) l_2)
 (rNum (List.drop (0 + (rNum (List.drop 0 l) 0 1099511627776).snd.fst) l_1) (rNum (List.drop 0 l) 0 1099511627776).snd.snd 1099511627776).snd.snd (↑(m.length - 0) : Int)).snd.fst)
 l_2.length,
 V.int IntKind.i64
 (rText (List.drop (0 + (rNum (List.drop 0 l) 0 1099511627776).snd.fst + (rNum (List.drop (0 + (rNum (List.drop 0 l) 0 1099511627776).snd.fst) l_1) (rNum (List.drop 0 l) 0 1099511627776).snd.snd 1099511627776).snd.fst) l_2)
 (rNum (List.drop (0 + (rNum (List.drop 0 l) 0 1099511627776).snd.fst) l_1) (rNum (List.drop 0 l) 0 1099511627776).snd.snd 1099511627776).snd.snd (↑(m.length - 0) : Int)).snd.snd],
 KO.row 5 1 (ints IntKind.u8 l_2)])) ∧
 ∀ (i : { p : PD // CC b m size long ∧ CDr m p }),
 ∃ (l : List Int),
 ints IntKind.u8 m = ints IntKind.u8 l ∧
 m.length = l.length ∧
 ((rEnd (List.drop i.val.lo l) i.val.e == 0) = true →
 ((i.val.g == gen) = true → K (V.tup [V.sl 0 0 i.val.t.length, V.int IntKind.i64 (↑size : Int), V.sb (i.val.k == n)]) [KO.row 5 1 (ints IntKind.u8 i.val.t)]) ∧
 ((i.val.g == gen) = false → K (V.tup [V.sl 0 0 i.val.t.length, V.int IntKind.i64 (↑size : Int), V.sb false]) [KO.row 5 1 (ints IntKind.u8 i.val.t)])) ∧
 ((rEnd (List.drop i.val.lo l) i.val.e == 0) = false → K (V.tup [V.sl 0 0 i.val.t.length, V.int IntKind.i64 (↑size : Int), V.sb false]) [KO.row 5 1 (ints IntKind.u8 i.val.t)])) := by
  subst hsz
  subst hlg
  subst htl
  simp only [ints_len]
  rintro ⟨_, hA⟩
  have hr := hA.range
  have hf := hA.fit
  have hrd := hA.read gen n
  have w1 : IntKind.i64.wrap (3 + (jlong b : Int)) = ((3 + jlong b : Nat) : Int) := by rw [w64 (by omega) (by omega)]; omega
  have w2 : IntKind.i64.wrap ((jsize b : Int) * 64) = ((jsize b * 64 : Nat) : Int) := by rw [w64 (by omega) (by omega)]; omega
  rw [w1, w2, Int.toNat_natCast, Int.toNat_natCast]
  have e1 : List.drop 3 (List.take (3 + jlong b) (ints .u8 b)) = ints .u8 ((b.drop 3).take (jlong b)) := by
    rw [ints_take, ints_drop, List.drop_take, show 3 + jlong b - 3 = jlong b by omega]
  refine ⟨⟨by unfold NonN; omega, by unfold NonN; omega, by omega, by omega, _, e1, byt_take (byt_drop hb 3) _, by rw [List.length_take, List.length_drop]; omega, fun ho => ?_, fun m1 ho => ⟨fun he => ?_, ?_⟩⟩, ?_⟩
  · rw [ho] at hm
    have : m = [] := hm.symm
    subst this
    exact At.mk' ⟨false, hA, fun f => (by cases f), fun _ => ho⟩ rfl
  · subst he
    rw [ho] at hm
    have : m = [] := hm.symm
    subst this
    exact At.mk' ⟨true, hA, fun _ => ho, fun f => (by cases f)⟩ rfl
  · rw [ho] at hm
    have : m = m1 := hm.symm
    subst this
    exact At.mk' ⟨true, hA, fun _ => ho, fun f => (by cases f)⟩ rfl
  rintro ⟨q, hB⟩
  refine ⟨fun hq => ?_, fun hq => ⟨⟨by unfold NonN; omega, by unfold NonN; omega, by omega, by omega, ?_, ?_⟩, ?_⟩⟩
  · simp only [Bool.not_eq_true'] at hq
    exact no0 (by rw [hrd, hB.no hq])
  · have hq' : q = true := by simpa using hq
    have e2 : List.drop (3 + jlong b) (List.take (jsize b * 64) (ints .u8 b)) = ints .u8 (tailJ b) := by
      unfold tailJ; rw [ints_take, ints_drop]
    rw [e2, ints_len]
    exact At.mk' ⟨0, ⟨hA, hB.yes hq'⟩, rfl, Nat.zero_le _, fun c hc => by simp at hc⟩ rfl
  · rintro ⟨i, hCB, _, hi, hz⟩
    refine ⟨fun h5 => ?_, fun h5 => ?_⟩
    · simp only [decide_eq_true_eq] at h5
      have hlt : i < (tailJ b).length := by omega
      have hlen : (tailJ b).length ≤ 1024 := by unfold tailJ; rw [List.length_drop, List.length_take]; omega
      refine ⟨by unfold NonN; omega, _, by rw [Int.toNat_natCast]; exact elB hlt, _, rfl, fun h6 => ?_, fun h6 => ?_⟩
      · simp only [bne_iff_ne, ne_eq] at h6
        refine no0 ?_
        rw [hrd, hCB.op]
        simp only
        rw [if_neg]
        intro ha
        refine h6 (allZ.1 ha _ ?_)
        rw [List.getD_eq_getElem?_getD, List.getElem?_eq_getElem hlt]
        exact List.getElem_mem hlt
      · simp only [bne_eq_false_iff_eq] at h6
        rw [w64 (n := (i : Int) + 1) (by omega) (by omega)]
        refine Nx.mk' (⟨i + 1, hCB, rfl, hlt, fun c hc => ?_⟩ : {i : Nat // CB b m (jsize b) (jlong b) ∧ tailJ b = tailJ b ∧ i ≤ (tailJ b).length ∧ ∀ c ∈ (tailJ b).take i, c = 0}) rfl (by show (tailJ b).length - (i + 1) < (tailJ b).length - i; omega)
        rw [List.take_add_one, List.getElem?_eq_getElem hlt] at hc
        rcases List.mem_append.1 hc with hc | hc
        · exact hz c hc
        · simp at hc
          rw [hc]
          rwa [List.getD_eq_getElem?_getD, List.getElem?_eq_getElem hlt] at h6
    · simp only [decide_eq_false_iff_not] at h5
      refine At.mk' ⟨(), hCB, allZ.2 fun c hc => hz c ?_⟩ rfl
      rw [List.take_of_length_le (by omega)]; exact hc
  · rintro ⟨_, hC⟩
    have ho := hC.op
    have hml : m.length ≤ 1024 := by
      have := openI_len ho
      rw [List.length_take] at this
      omega
    have hmb : Byt m := openI_byt ho (byt_take (byt_drop hb 3) _)
    have v1 := rNum_val hmb 0 1099511627776
    have v2 := rNum_val (byt_drop hmb (rNum m 0 1099511627776).2.1) (rNum m 0 1099511627776).2.2 1099511627776
    rw [dropTake, ints_len]
    refine ⟨⟨Nat.le_refl _, trivial⟩, by omega, ⟨plain_ints⟩, m, rfl, rfl, Nat.zero_le _, hmb, by omega, m, rfl, rfl, by rw [List.drop_zero]; omega, hmb, by omega, ⟨m, rfl, rfl, ?_, hmb, by omega, ?_⟩, ?_⟩
    · simp only [List.drop_zero, Nat.zero_add]
      rw [List.length_drop] at v2
      omega
    · simp only [List.drop_zero, Nat.zero_add, Nat.sub_zero]
      refine At.mk' ⟨⟨_, _, _, _, _⟩, hC, ⟨rfl, rfl, by rw [List.drop_drop], by rw [List.drop_drop], by rw [List.drop_drop]⟩⟩ ?_
      rfl
    · rintro ⟨p, hC, hD⟩
      refine ⟨m, rfl, rfl, ?_⟩
      have hfin : readJ b gen n = finJ m gen n (jsize b) := by
        rw [hrd, hC.op]
        simp only
        rw [if_pos hC.zs]
      have hf2 : finJ m gen n (jsize b) = if rEnd (m.drop p.lo) p.e = 0 ∧ p.g = gen ∧ p.k = n then some (p.t, jsize b) else none := by
        rw [hD.hlo, hD.he, hD.hk, hD.hg, hD.ht]
        rfl
      rw [hf2] at hfin
      refine ⟨fun h7 => ⟨fun h8 => ?_, fun h8 => ?_⟩, fun h7 => ?_⟩
      · simp only [beq_iff_eq] at h7 h8
        by_cases h9 : p.k = n
        · have := hyes p.t (jsize b) (by rw [hfin, if_pos ⟨h7, h8, h9⟩])
          rw [show (p.k == n) = true by simpa using h9]; exact this
        · have := hno (by rw [hfin, if_neg (by rintro ⟨_, _, q⟩; exact h9 q)]) p.t (jsize b)
          rw [show (p.k == n) = false by simpa using h9]; exact this
      · simp only [beq_eq_false_iff_ne, ne_eq] at h8
        exact hno (by rw [hfin, if_neg (by rintro ⟨_, q, _⟩; exact h8 q)]) p.t (jsize b)
      · simp only [beq_eq_false_iff_ne, ne_eq] at h7
        exact hno (by rw [hfin, if_neg (by rintro ⟨q, _⟩; exact h7 q)]) p.t (jsize b)
theorem okJRead0 : SpecOk Try.prog 60 SreadJ := specOk_nt XJf_ok mixed [.slot 0 5 1] (fun args kb K h => by
  unfold SreadJ at h; split at h <;> try exact h.elim
  rename_i gen n
  obtain ⟨b, rfl, hb, hl, hno, hyes⟩ := h
  generalize hm : (openI ((b.drop 3).take (jlong b))).getD [] = m
  refine ⟨jfT b gen n m (tailJ b) (jsize b) (jlong b) _, vcJRead b gen n m (tailJ b) (jsize b) (jlong b) K ?_⟩
  have no0 : readJ b gen n = none → K (V.tup [V.sl 0 0 0, V.int IntKind.i64 0, V.sb false]) [KO.row 5 1 []] := fun q => hno q [] 0
  have g1 := getD_byt hb 1
  have g2 := getD_byt hb 2
  have rest := jreadRest (m := m) hb hl rfl hno hyes hm rfl rfl no0
  simp only [ints_len] at rest ⊢
  refine ⟨fun h1 => ?_, fun h1 => ?_⟩
  · simp only [decide_eq_true_eq] at h1
    exact no0 (readJ_no (by omega))
  · simp only [decide_eq_false_iff_not] at h1
    refine ⟨Int.le_refl 0, _, elB (by omega), _, rfl, fun h2 => ?_, fun h2 => ⟨by unfold NonN; omega, _, elB (by omega), _, rfl, by unfold NonN; omega, _, elB (by omega), _, rfl, ?_⟩⟩
    · simp only [bne_iff_ne, ne_eq] at h2
      exact no0 (readJ_no (.inr (.inl h2)))
    · simp only [bne_eq_false_iff_eq] at h2
      refine ⟨?_, rest⟩
      rw [wlong g1 g2]
      have hj : (b.getD 1 0 + b.getD 2 0 * 256).toNat = jlong b := rfl
      rw [hj, wsz (by omega)]
      have hz : (jlong b + 66) / 64 = jsize b := rfl
      rw [hz, w64 (n := (jsize b : Int) * 64) (by omega) (by omega)]
      refine ⟨fun h3 => ?_, fun h3 => ⟨fun h4 => ?_, fun h4 => ?_⟩⟩
      · simp only [decide_eq_true_eq] at h3
        exact no0 (readJ_no (by omega))
      · simp only [decide_eq_true_eq] at h4
        exact no0 (readJ_no (by omega))
      · simp only [decide_eq_false_iff_not] at h3 h4
        exact At.mk' ⟨(), by omega, h2, rfl, rfl, by omega, by omega⟩ rfl)
end Go.Proofs.Ytkodjbegpheomaa
