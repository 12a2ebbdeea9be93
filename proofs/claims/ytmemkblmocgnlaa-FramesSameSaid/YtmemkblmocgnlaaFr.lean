import Derived.Test.YtmemkblmocgnlaaFp
import Derived.KernelRfl
namespace Go.Proofs.Ytmemkblmocgnlaa
open Vc Go
set_option linter.unusedVariables false
set_option linter.unusedSimpArgs false
set_option maxRecDepth 100000
/-! What reading gives. -/
def numSt (l : List Int) (p : Nat × Int) (most : Int) : Nat × Int := (p.1 + (rNum (l.drop p.1) p.2 most).2.1, (rNum (l.drop p.1) p.2 most).2.2)
def numAt (l : List Int) (p : Nat × Int) (most : Int) : Int := (rNum (l.drop p.1) p.2 most).1
def texSt (l : List Int) (p : Nat × Int) (most : Int) : Nat × Int := (p.1 + (rText (l.drop p.1) p.2 most).2.1, (rText (l.drop p.1) p.2 most).2.2)
def texAt (l : List Int) (p : Nat × Int) (most : Int) : List Int := (rText (l.drop p.1) p.2 most).1
def nIt (l : List Int) (p : Nat × Int) : Nat → (Nat × Int) × List Int
  | 0 => (p, [])
  | i + 1 => (numSt l (nIt l p i).1 4611686018427387904, (nIt l p i).2 ++ [numAt l (nIt l p i).1 4611686018427387904])
def tIt (l : List Int) (p : Nat × Int) : Nat → (Nat × Int) × List (List Int)
  | 0 => (p, [])
  | i + 1 => (texSt l (tIt l p i).1 2048, (tIt l p i).2 ++ [texAt l (tIt l p i).1 2048])
def q1 (l : List Int) : Nat × Int := numSt l (0, 0) 40
def kd (l : List Int) : Int := numAt l (0, 0) 40
def q2 (l : List Int) : Nat × Int := numSt l (q1 l) 16
def cn (l : List Int) : Nat := (numAt l (q1 l) 16).toNat
def qn (l : List Int) (i : Nat) : (Nat × Int) × List Int := nIt l (q2 l) i
def pn (l : List Int) : Nat × Int := (qn l (cn l)).1
def q3 (l : List Int) : Nat × Int := texSt l (pn l) 2048
def bd (l : List Int) : List Int := texAt l (pn l) 2048
def q4 (l : List Int) : Nat × Int := numSt l (q3 l) 64
def cl (l : List Int) : Nat := (numAt l (q3 l) 64).toNat
def qt (l : List Int) (i : Nat) : (Nat × Int) × List (List Int) := tIt l (q4 l) i
def pt (l : List Int) : Nat × Int := (qt l (cl l)).1
def fin (l : List Int) : Int := rEnd (l.drop (pt l).1) (pt l).2
structure RdM where
  e : Int
  k : Int
  n : List Int
  b : List Int
  l : List (List Int)
def rd0 (e : Int) : RdM := ⟨e, 0, [], [], []⟩
def RightO (l : List Int) : Prop := RightM (kd l) (qn l (cn l)).2 (bd l) (qt l (cl l)).2
open Classical in
noncomputable def rdR (b : List Int) : RdM := match openI b with
  | none => rd0 4
  | some l => if fin l ≠ 0 then rd0 (fin l) else if RightO l then ⟨0, kd l, (qn l (cn l)).2, bd l, (qt l (cl l)).2⟩ else rd0 3
abbrev zMsg : List V := [.int .i64 0, .any (.slice none 0 0), .any (.slice none 0 0), .any (.slice none 0 0)]
abbrev rf1LI (l : List Int) : LI where
  α := {i : Nat // i ≤ cn l ∧ (qn l i).1.1 ≤ l.length}
  live := [2, 6, 7, 24, 25]
  nils := [.cell 2 1 3 1]
  st i := ([.ptr 0 0, .ptr 1 0, .ptr 2 0, .int .i64 (cn l : Int), .int .i64 (i.1 : Int)], [.cells zMsg, .cells [.sl 3 (qn l i.1).1.1 l.length, .int .i64 (qn l i.1).1.2], .cells [.int .i64 (kd l), .sl 4 0 i.1, .any (.slice none 0 0), .any (.slice none 0 0)], .row 5 1 (ints .u8 l), .row 3 1 (ints .i64 (qn l i.1).2)])
  μ i := cn l - i.1
abbrev rf2LI (l : List Int) : LI where
  α := {i : Nat // i ≤ cl l ∧ (qt l i).1.1 ≤ l.length}
  live := [2, 6, 7, 39, 40]
  nils := [.cell 2 3 23 1]
  st i := ([.ptr 0 0, .ptr 1 0, .ptr 2 0, .int .i64 (cl l : Int), .int .i64 (i.1 : Int)], [.cells zMsg, .cells [.sl 3 (qt l i.1).1.1 l.length, .int .i64 (qt l i.1).1.2], .cells [.int .i64 (kd l), .sl 4 0 (cn l), .sl 5 0 (bd l).length, .sl 6 0 i.1], .row 5 1 (ints .u8 l), .row 3 1 (ints .i64 (qn l (cn l)).2), .row 5 1 (ints .u8 (bd l)), .row 23 1 ((qt l i.1).2.map bsl)])
  μ i := cl l - i.1
abbrev rg1LI (l : List Int) : LI where
  α := {p : Nat × Int // p.1 ≤ cn l ∧ (qn l p.1).1.1 ≤ l.length}
  live := [2, 6, 7, 8, 9]
  nils := [.cell 2 1 3 1]
  st p := ([.ptr 0 0, .ptr 1 0, .ptr 2 0, .int .i64 (cn l : Int), .int .i64 (p.1.1 : Int)], [.cells zMsg, .cells [.int .i64 p.1.2, .dat (.sl 1 []), .int .i64 (qn l p.1.1).1.2, .dat (.sl 1 (ints .u8 (l.drop (qn l p.1.1).1.1)))], .cells [.int .i64 (kd l), .sl 3 0 p.1.1, .any (.slice none 0 0), .any (.slice none 0 0)], .row 3 1 (ints .i64 (qn l p.1.1).2)])
  μ p := cn l - p.1.1
abbrev rg2LI (l : List Int) : LI where
  α := {p : Nat × Int × List Int // p.1 ≤ cl l ∧ (qt l p.1).1.1 ≤ l.length ∧ (pn l).2 = 0 ∧ (q3 l).2 = 0}
  live := [2, 6, 7, 8, 10]
  nils := [.cell 2 3 23 1]
  st p := ([.ptr 0 0, .ptr 1 0, .ptr 2 0, .int .i64 (cl l : Int), .int .i64 (p.1.1 : Int)], [.cells zMsg, .cells [.int .i64 p.1.2.1, .dat (.sl 1 (ints .u8 p.1.2.2)), .int .i64 (qt l p.1.1).1.2, .dat (.sl 1 (ints .u8 (l.drop (qt l p.1.1).1.1)))], .cells [.int .i64 (kd l), .sl 3 0 (cn l), .dat (.sl 1 (ints .u8 (bd l))), .sl 4 0 p.1.1], .row 3 1 (ints .i64 (qn l (cn l)).2), .row 23 1 ((qt l p.1.1).2.map bsl)])
  μ p := cl l - p.1.1
abbrev rfC (b l : List Int) : LI where
  α := {q : Nat // openI b = some l}
  live := [2, 4]
  nils := [.slot 1 5 1]
  st q := ([.ptr 0 0, .sl 1 0 l.length], [.cells zMsg, .row 5 1 (ints .u8 l)])
  μ q := 0
abbrev rgC (b l : List Int) : LI where
  α := {q : Nat // openI b = some l}
  live := [2, 4]
  st q := ([.ptr 0 0, .dat (.sl 1 (ints .u8 l))], [.cells zMsg])
  μ q := 0
abbrev rgC2 (l : List Int) : LI where
  α := {g : Int // (pn l).2 = 0}
  live := [2, 6, 7]
  st g := ([.ptr 0 0, .ptr 1 0, .ptr 2 0], [.cells zMsg, .cells [.int .i64 g.1, .dat (.sl 1 []), .int .i64 0, .dat (.sl 1 (ints .u8 (l.drop (pn l).1)))], .cells [.int .i64 (kd l), .sl 3 0 (cn l), .any (.slice none 0 0), .any (.slice none 0 0)], .row 3 1 (ints .i64 (qn l (cn l)).2)])
  μ q := 0
abbrev rgC3 (l : List Int) : LI where
  α := {p : Int × List Int // (pn l).2 = 0 ∧ (q3 l).2 = 0 ∧ (pt l).2 = 0}
  live := [2, 6, 7]
  st p := ([.ptr 0 0, .ptr 1 0, .ptr 2 0], [.cells zMsg, .cells [.int .i64 p.1.1, .dat (.sl 1 (ints .u8 p.1.2)), .int .i64 0, .dat (.sl 1 (ints .u8 (l.drop (pt l).1)))], .cells [.int .i64 (kd l), .sl 3 0 (cn l), .dat (.sl 1 (ints .u8 (bd l))), .sl 4 0 (cl l)], .row 3 1 (ints .i64 (qn l (cn l)).2), .row 23 1 ((qt l (cl l)).2.map bsl)])
  μ q := 0
def frT (b l : List Int) : FuncId → Nat → Option LI
  | 13, 1004 => some (rfC b l)
  | 17, 1004 => some (rgC b l)
  | 17, 1017 => some (rgC2 l)
  | 17, 1030 => some (rgC3 l)
  | 13, 7 => some (rf1LI l)
  | 13, 12 => some (rf2LI l)
  | 17, 11 => some (rg1LI l)
  | 17, 24 => some (rg2LI l)
  | _, _ => none
def SreadM : FSpec := fun args kb K => match args, kb with
  | [.dat (.sl 1 B)], [] => ∃ b : List Int, B = ints .u8 b ∧ Byt b ∧ b.length ≤ 200000 ∧ K (.tup [.agg (msgC (rdR b).k (rdR b).n (rdR b).b (rdR b).l), .int .i64 (rdR b).e]) []
  | _, _ => False
/-- Opening, of a given row. -/
def frS : FuncId → Option Known
  | 12 => some ⟨[.lend 1], Scheck⟩
  | 11 => some ⟨[.lend 1], SrightM⟩
  | 29 => some ⟨[.lend 1], Sopen⟩
  | 38 => some ⟨[], SrOpen⟩
  | f => pxS f
noncomputable def XFr : CallT := callS Try.prog frS noT 10
theorem vcFRead (b l : List Int) (K : V → KB → Prop) (hvc_ :
 ∃ (l_1 : List Int),
 ints IntKind.u8 b = ints IntKind.u8 l_1 ∧
 (∀ (c : Int), List.Mem c l_1 → 0 ≤ c ∧ c < 256) ∧
 l_1.length ≤ 900000 ∧
 (openI l_1 = none →
 ((true = true → K (V.tup [V.agg [V.int IntKind.i64 0, V.dat (D.sl 1 []), V.dat (D.sl 1 []), V.dat (D.sl 1 [])], V.int IntKind.i64 4]) []) ∧ (true = false → At (rfC b l) ([V.ptr 0 0, V.sl 1 0 0], [KO.cells [V.int IntKind.i64 0, V.any (Value.slice none 0 0), V.any (Value.slice none 0 0), V.any (Value.slice none 0 0)], KO.row 5 1 []]))) ∧
 ∀ (i : { q : Nat // openI b = some l }),
 (l.length ≤ (ints IntKind.u8 l).length ∧ True) ∧
 (List.drop 0 (List.take l.length (ints IntKind.u8 l))).length ≤ 1000000 ∧
 PlainS (List.drop 0 (List.take l.length (ints IntKind.u8 l))).flatten ∧
 ∃ (l_2 : List Int),
 List.drop 0 (List.take l.length (ints IntKind.u8 l)) = ints IntKind.u8 l_2 ∧
 (List.drop 0 (List.take l.length (ints IntKind.u8 l))).length = l_2.length ∧
 0 ≤ l_2.length ∧
 (∀ (c : Int), List.Mem c l_2 → 0 ≤ c ∧ c < 256) ∧
 l_2.length ≤ 10000000 ∧
 ∃ (l_3 : List Int),
 ints IntKind.u8 l_2 = ints IntKind.u8 l_3 ∧
 l_2.length = l_3.length ∧
 0 + (rNum (List.drop 0 l_2) 0 40).snd.fst ≤ l_3.length ∧
 (∀ (c : Int), List.Mem c l_3 → 0 ≤ c ∧ c < 256) ∧
 l_3.length ≤ 10000000 ∧
 At (rf1LI l)
 ([V.ptr 0 0, V.ptr 1 0, V.ptr 2 0, V.int IntKind.i64 (rNum (List.drop (0 + (rNum (List.drop 0 l_2) 0 40).snd.fst) l_3) (rNum (List.drop 0 l_2) 0 40).snd.snd 16).fst, V.int IntKind.i64 0],
 [KO.cells [V.int IntKind.i64 0, V.any (Value.slice none 0 0), V.any (Value.slice none 0 0), V.any (Value.slice none 0 0)],
 KO.cells [V.sl 3 (0 + (rNum (List.drop 0 l_2) 0 40).snd.fst + (rNum (List.drop (0 + (rNum (List.drop 0 l_2) 0 40).snd.fst) l_3) (rNum (List.drop 0 l_2) 0 40).snd.snd 16).snd.fst) l_3.length, V.int IntKind.i64 (rNum (List.drop (0 + (rNum (List.drop 0 l_2) 0 40).snd.fst) l_3) (rNum (List.drop 0 l_2) 0 40).snd.snd 16).snd.snd],
 KO.cells [V.int IntKind.i64 (rNum (List.drop 0 l_2) 0 40).fst, V.sl 4 0 0, V.any (Value.slice none 0 0), V.any (Value.slice none 0 0)], KO.row 5 1 (ints IntKind.u8 l_3), KO.row 3 1 []]) ∧
 ∀ (i : { i : Nat // i ≤ cn l ∧ (qn l i).fst.fst ≤ l.length }),
 (decide ((↑i.val : Int) < (↑(cn l) : Int)) = true →
 (∃ (l_4 : List Int),
 ints IntKind.u8 l = ints IntKind.u8 l_4 ∧
 l.length = l_4.length ∧
 (qn l i.val).fst.fst ≤ l_4.length ∧
 (∀ (c : Int), List.Mem c l_4 → 0 ≤ c ∧ c < 256) ∧
 l_4.length ≤ 10000000 ∧
 1 ≤ 1 ∧
 i.val ≤ (ints IntKind.i64 (qn l i.val).snd).length ∧
 (i.val + 1) * 8 ≤ 140737488355328 ∧
 Nx (rf1LI l) i
 ([V.ptr 0 0, V.ptr 1 0, V.ptr 2 0, V.int IntKind.i64 (↑(cn l) : Int), V.int IntKind.i64 (IntKind.i64.wrap ((↑i.val : Int) + 1))],
 [KO.cells [V.int IntKind.i64 0, V.any (Value.slice none 0 0), V.any (Value.slice none 0 0), V.any (Value.slice none 0 0)],
 KO.cells [V.sl 3 ((qn l i.val).fst.fst + (rNum (List.drop (qn l i.val).fst.fst l_4) (qn l i.val).fst.snd 4611686018427387904).snd.fst) l_4.length, V.int IntKind.i64 (rNum (List.drop (qn l i.val).fst.fst l_4) (qn l i.val).fst.snd 4611686018427387904).snd.snd],
 KO.cells [V.int IntKind.i64 (kd l), V.sl 4 0 (i.val + 1), V.any (Value.slice none 0 0), V.any (Value.slice none 0 0)], KO.row 5 1 (ints IntKind.u8 l_4),
 KO.row 3 1 (List.take i.val (ints IntKind.i64 (qn l i.val).snd) ++ [[D.val (Value.int IntKind.i64 (rNum (List.drop (qn l i.val).fst.fst l_4) (qn l i.val).fst.snd 4611686018427387904).fst)]])])) ∧
 (∃ (l_4 : List Int),
 ints IntKind.u8 l = ints IntKind.u8 l_4 ∧
 l.length = l_4.length ∧
 (qn l i.val).fst.fst ≤ l_4.length ∧
 (∀ (c : Int), List.Mem c l_4 → 0 ≤ c ∧ c < 256) ∧
 l_4.length ≤ 10000000 ∧
 1 ≤ 1 ∧
 i.val ≤ (ints IntKind.i64 (qn l i.val).snd).length ∧
 (i.val + 1) * 8 ≤ 140737488355328 ∧
 Nx (rf1LI l) i
 ([V.ptr 0 0, V.ptr 1 0, V.ptr 2 0, V.int IntKind.i64 (↑(cn l) : Int), V.int IntKind.i64 (IntKind.i64.wrap ((↑i.val : Int) + 1))],
 [KO.cells [V.int IntKind.i64 0, V.any (Value.slice none 0 0), V.any (Value.slice none 0 0), V.any (Value.slice none 0 0)],
 KO.cells [V.sl 3 ((qn l i.val).fst.fst + (rNum (List.drop (qn l i.val).fst.fst l_4) (qn l i.val).fst.snd 4611686018427387904).snd.fst) l_4.length, V.int IntKind.i64 (rNum (List.drop (qn l i.val).fst.fst l_4) (qn l i.val).fst.snd 4611686018427387904).snd.snd],
 KO.cells [V.int IntKind.i64 (kd l), V.sl 4 0 (i.val + 1), V.any (Value.slice none 0 0), V.any (Value.slice none 0 0)], KO.row 5 1 (ints IntKind.u8 l_4),
 KO.row 3 1 (List.take i.val (ints IntKind.i64 (qn l i.val).snd) ++ [[D.val (Value.int IntKind.i64 (rNum (List.drop (qn l i.val).fst.fst l_4) (qn l i.val).fst.snd 4611686018427387904).fst)]])])) ∧
 ∃ (l_4 : List Int),
 ints IntKind.u8 l = ints IntKind.u8 l_4 ∧
 l.length = l_4.length ∧
 (qn l i.val).fst.fst ≤ l_4.length ∧
 (∀ (c : Int), List.Mem c l_4 → 0 ≤ c ∧ c < 256) ∧
 l_4.length ≤ 10000000 ∧
 (1 ≤ 1 ∧
 i.val ≤ (ints IntKind.i64 (qn l i.val).snd).length ∧
 (i.val + 1) * 8 ≤ 140737488355328 ∧
 Nx (rf1LI l) i
 ([V.ptr 0 0, V.ptr 1 0, V.ptr 2 0, V.int IntKind.i64 (↑(cn l) : Int), V.int IntKind.i64 (IntKind.i64.wrap ((↑i.val : Int) + 1))],
 [KO.cells [V.int IntKind.i64 0, V.any (Value.slice none 0 0), V.any (Value.slice none 0 0), V.any (Value.slice none 0 0)],
 KO.cells [V.sl 3 ((qn l i.val).fst.fst + (rNum (List.drop (qn l i.val).fst.fst l_4) (qn l i.val).fst.snd 4611686018427387904).snd.fst) l_4.length, V.int IntKind.i64 (rNum (List.drop (qn l i.val).fst.fst l_4) (qn l i.val).fst.snd 4611686018427387904).snd.snd],
 KO.cells [V.int IntKind.i64 (kd l), V.sl 4 0 (i.val + 1), V.any (Value.slice none 0 0), V.any (Value.slice none 0 0)], KO.row 5 1 (ints IntKind.u8 l_4),
 KO.row 3 1 (List.take i.val (ints IntKind.i64 (qn l i.val).snd) ++ [[D.val (Value.int IntKind.i64 (rNum (List.drop (qn l i.val).fst.fst l_4) (qn l i.val).fst.snd 4611686018427387904).fst)]])])) ∧
 1 ≤ 1 ∧
 i.val ≤ (ints IntKind.i64 (qn l i.val).snd).length ∧
 (i.val + 1) * 8 ≤ 140737488355328 ∧
 Nx (rf1LI l) i
 ([V.ptr 0 0, V.ptr 1 0, V.ptr 2 0, V.int IntKind.i64 (↑(cn l) : Int), V.int IntKind.i64 (IntKind.i64.wrap ((↑i.val : Int) + 1))],
 [KO.cells [V.int IntKind.i64 0, V.any (Value.slice none 0 0), V.any (Value.slice none 0 0), V.any (Value.slice none 0 0)],
 KO.cells [V.sl 3 ((qn l i.val).fst.fst + (rNum (List.drop (qn l i.val).fst.fst l_4) (qn l i.val).fst.snd 4611686018427387904).snd.fst) l_4.length, V.int IntKind.i64 (rNum (List.drop (qn l i.val).fst.fst l_4) (qn l i.val).fst.snd 4611686018427387904).snd.snd],
 KO.cells [V.int IntKind.i64 (kd l), V.sl 4 0 (i.val + 1), V.any (Value.slice none 0 0), V.any (Value.slice none 0 0)], KO.row 5 1 (ints IntKind.u8 l_4),
 KO.row 3 1 (List.take i.val (ints IntKind.i64 (qn l i.val).snd) ++ [[D.val (Value.int IntKind.i64 (rNum (List.drop (qn l i.val).fst.fst l_4) (qn l i.val).fst.snd 4611686018427387904).fst)]])])) ∧
 (decide ((↑i.val : Int) < (↑(cn l) : Int)) = false →
 ∃ (l_4 : List Int),
 ints IntKind.u8 l = ints IntKind.u8 l_4 ∧
 l.length = l_4.length ∧
 (qn l i.val).fst.fst ≤ l_4.length ∧
 (∀ (c : Int), List.Mem c l_4 → 0 ≤ c ∧ c < 256) ∧
 l_4.length ≤ 900000 ∧
 ∃ (l_5 : List Int),
 ints IntKind.u8 l_4 = ints IntKind.u8 l_5 ∧
 l_4.length = l_5.length ∧
 (qn l i.val).fst.fst + (rText (List.drop (qn l i.val).fst.fst l_4) (qn l i.val).fst.snd 2048).snd.fst ≤ l_5.length ∧
 (∀ (c : Int), List.Mem c l_5 → 0 ≤ c ∧ c < 256) ∧
 l_5.length ≤ 10000000 ∧
 At (rf2LI l)
 ([V.ptr 0 0, V.ptr 1 0, V.ptr 2 0, V.int IntKind.i64 (rNum (List.drop ((qn l i.val).fst.fst + (rText (List.drop (qn l i.val).fst.fst l_4) (qn l i.val).fst.snd 2048).snd.fst) l_5) (rText (List.drop (qn l i.val).fst.fst l_4) (qn l i.val).fst.snd 2048).snd.snd 64).fst, V.int IntKind.i64 0],
 [KO.cells [V.int IntKind.i64 0, V.any (Value.slice none 0 0), V.any (Value.slice none 0 0), V.any (Value.slice none 0 0)],
 KO.cells
 [V.sl 3
 ((qn l i.val).fst.fst + (rText (List.drop (qn l i.val).fst.fst l_4) (qn l i.val).fst.snd 2048).snd.fst +
 (rNum (List.drop ((qn l i.val).fst.fst + (rText (List.drop (qn l i.val).fst.fst l_4) (qn l i.val).fst.snd 2048).snd.fst) l_5) (rText (List.drop (qn l i.val).fst.fst l_4) (qn l i.val).fst.snd 2048).snd.snd 64).snd.fst)
 l_5.length,
 V.int IntKind.i64 (rNum (List.drop ((qn l i.val).fst.fst + (rText (List.drop (qn l i.val).fst.fst l_4) (qn l i.val).fst.snd 2048).snd.fst) l_5) (rText (List.drop (qn l i.val).fst.fst l_4) (qn l i.val).fst.snd 2048).snd.snd 64).snd.snd],
 KO.cells [V.int IntKind.i64 (kd l), V.sl 4 0 i.val, V.sl 5 0 (rText (List.drop (qn l i.val).fst.fst l_4) (qn l i.val).fst.snd 2048).fst.length, V.sl 6 0 0], KO.row 5 1 (ints IntKind.u8 l_5), KO.row 3 1 (ints IntKind.i64 (qn l i.val).snd),
 KO.row 5 1 (ints IntKind.u8 (rText (List.drop (qn l i.val).fst.fst l_4) (qn l i.val).fst.snd 2048).fst), KO.row 23 1 []]) ∧
 ∀ (i : { i : Nat // i ≤ cl l ∧ (qt l i).fst.fst ≤ l.length }),
 (decide ((↑i.val : Int) < (↑(cl l) : Int)) = true →
 (∃ (l_6 : List Int),
 ints IntKind.u8 l = ints IntKind.u8 l_6 ∧
 l.length = l_6.length ∧
 (qt l i.val).fst.fst ≤ l_6.length ∧
 (∀ (c : Int), List.Mem c l_6 → 0 ≤ c ∧ c < 256) ∧
 l_6.length ≤ 900000 ∧
 (rText (List.drop (qt l i.val).fst.fst l_6) (qt l i.val).fst.snd 2048).fst.length ≤ (ints IntKind.u8 (rText (List.drop (qt l i.val).fst.fst l_6) (qt l i.val).fst.snd 2048).fst).length ∧
 1 ≤ 1 ∧
 i.val ≤ (List.map bsl (qt l i.val).snd).length ∧
 (i.val + 1) * 24 ≤ 140737488355328 ∧
 Nx (rf2LI l) i
 ([V.ptr 0 0, V.ptr 1 0, V.ptr 2 0, V.int IntKind.i64 (↑(cl l) : Int), V.int IntKind.i64 (IntKind.i64.wrap ((↑i.val : Int) + 1))],
 [KO.cells [V.int IntKind.i64 0, V.any (Value.slice none 0 0), V.any (Value.slice none 0 0), V.any (Value.slice none 0 0)],
 KO.cells [V.sl 3 ((qt l i.val).fst.fst + (rText (List.drop (qt l i.val).fst.fst l_6) (qt l i.val).fst.snd 2048).snd.fst) l_6.length, V.int IntKind.i64 (rText (List.drop (qt l i.val).fst.fst l_6) (qt l i.val).fst.snd 2048).snd.snd],
 KO.cells [V.int IntKind.i64 (kd l), V.sl 4 0 (cn l), V.sl 5 0 (bd l).length, V.sl 6 0 (i.val + 1)], KO.row 5 1 (ints IntKind.u8 l_6), KO.row 3 1 (ints IntKind.i64 (qn l (cn l)).snd), KO.row 5 1 (ints IntKind.u8 (bd l)),
 KO.row 23 1 (List.take i.val (List.map bsl (qt l i.val).snd) ++ [[D.sl 1 (List.drop 0 (List.take (rText (List.drop (qt l i.val).fst.fst l_6) (qt l i.val).fst.snd 2048).fst.length (ints IntKind.u8 (rText (List.drop (qt l i.val).fst.fst l_6) (qt l i.val).fst.snd 2048).fst)))]])])) ∧
 (∃ (l_6 : List Int),
 ints IntKind.u8 l = ints IntKind.u8 l_6 ∧
 l.length = l_6.length ∧
 (qt l i.val).fst.fst ≤ l_6.length ∧
 (∀ (c : Int), List.Mem c l_6 → 0 ≤ c ∧ c < 256) ∧
 l_6.length ≤ 900000 ∧
 (rText (List.drop (qt l i.val).fst.fst l_6) (qt l i.val).fst.snd 2048).fst.length ≤ (ints IntKind.u8 (rText (List.drop (qt l i.val).fst.fst l_6) (qt l i.val).fst.snd 2048).fst).length ∧
 1 ≤ 1 ∧
 i.val ≤ (List.map bsl (qt l i.val).snd).length ∧
 (i.val + 1) * 24 ≤ 140737488355328 ∧
 Nx (rf2LI l) i
 ([V.ptr 0 0, V.ptr 1 0, V.ptr 2 0, V.int IntKind.i64 (↑(cl l) : Int), V.int IntKind.i64 (IntKind.i64.wrap ((↑i.val : Int) + 1))],
 [KO.cells [V.int IntKind.i64 0, V.any (Value.slice none 0 0), V.any (Value.slice none 0 0), V.any (Value.slice none 0 0)],
 KO.cells [V.sl 3 ((qt l i.val).fst.fst + (rText (List.drop (qt l i.val).fst.fst l_6) (qt l i.val).fst.snd 2048).snd.fst) l_6.length, V.int IntKind.i64 (rText (List.drop (qt l i.val).fst.fst l_6) (qt l i.val).fst.snd 2048).snd.snd],
 KO.cells [V.int IntKind.i64 (kd l), V.sl 4 0 (cn l), V.sl 5 0 (bd l).length, V.sl 6 0 (i.val + 1)], KO.row 5 1 (ints IntKind.u8 l_6), KO.row 3 1 (ints IntKind.i64 (qn l (cn l)).snd), KO.row 5 1 (ints IntKind.u8 (bd l)),
 KO.row 23 1 (List.take i.val (List.map bsl (qt l i.val).snd) ++ [[D.sl 1 (List.drop 0 (List.take (rText (List.drop (qt l i.val).fst.fst l_6) (qt l i.val).fst.snd 2048).fst.length (ints IntKind.u8 (rText (List.drop (qt l i.val).fst.fst l_6) (qt l i.val).fst.snd 2048).fst)))]])])) ∧
 ∃ (l_6 : List Int),
 ints IntKind.u8 l = ints IntKind.u8 l_6 ∧
 l.length = l_6.length ∧
 (qt l i.val).fst.fst ≤ l_6.length ∧
 (∀ (c : Int), List.Mem c l_6 → 0 ≤ c ∧ c < 256) ∧
 l_6.length ≤ 900000 ∧
 ((rText (List.drop (qt l i.val).fst.fst l_6) (qt l i.val).fst.snd 2048).fst.length ≤ (ints IntKind.u8 (rText (List.drop (qt l i.val).fst.fst l_6) (qt l i.val).fst.snd 2048).fst).length ∧
 1 ≤ 1 ∧
 i.val ≤ (List.map bsl (qt l i.val).snd).length ∧
 (i.val + 1) * 24 ≤ 140737488355328 ∧
 Nx (rf2LI l) i
 ([V.ptr 0 0, V.ptr 1 0, V.ptr 2 0, V.int IntKind.i64 (↑(cl l) : Int), V.int IntKind.i64 (IntKind.i64.wrap ((↑i.val : Int) + 1))],
 [KO.cells [V.int IntKind.i64 0, V.any (Value.slice none 0 0), V.any (Value.slice none 0 0), V.any (Value.slice none 0 0)],
 KO.cells [V.sl 3 ((qt l i.val).fst.fst + (rText (List.drop (qt l i.val).fst.fst l_6) (qt l i.val).fst.snd 2048).snd.fst) l_6.length, V.int IntKind.i64 (rText (List.drop (qt l i.val).fst.fst l_6) (qt l i.val).fst.snd 2048).snd.snd],
 KO.cells [V.int IntKind.i64 (kd l), V.sl 4 0 (cn l), V.sl 5 0 (bd l).length, V.sl 6 0 (i.val + 1)], KO.row 5 1 (ints IntKind.u8 l_6), KO.row 3 1 (ints IntKind.i64 (qn l (cn l)).snd), KO.row 5 1 (ints IntKind.u8 (bd l)),
 KO.row 23 1 (List.take i.val (List.map bsl (qt l i.val).snd) ++ [[D.sl 1 (List.drop 0 (List.take (rText (List.drop (qt l i.val).fst.fst l_6) (qt l i.val).fst.snd 2048).fst.length (ints IntKind.u8 (rText (List.drop (qt l i.val).fst.fst l_6) (qt l i.val).fst.snd 2048).fst)))]])])) ∧
 (rText (List.drop (qt l i.val).fst.fst l_6) (qt l i.val).fst.snd 2048).fst.length ≤ (ints IntKind.u8 (rText (List.drop (qt l i.val).fst.fst l_6) (qt l i.val).fst.snd 2048).fst).length ∧
 1 ≤ 1 ∧
 i.val ≤ (List.map bsl (qt l i.val).snd).length ∧
 (i.val + 1) * 24 ≤ 140737488355328 ∧
 Nx (rf2LI l) i
 ([V.ptr 0 0, V.ptr 1 0, V.ptr 2 0, V.int IntKind.i64 (↑(cl l) : Int), V.int IntKind.i64 (IntKind.i64.wrap ((↑i.val : Int) + 1))],
 [KO.cells [V.int IntKind.i64 0, V.any (Value.slice none 0 0), V.any (Value.slice none 0 0), V.any (Value.slice none 0 0)],
 KO.cells [V.sl 3 ((qt l i.val).fst.fst + (rText (List.drop (qt l i.val).fst.fst l_6) (qt l i.val).fst.snd 2048).snd.fst) l_6.length, V.int IntKind.i64 (rText (List.drop (qt l i.val).fst.fst l_6) (qt l i.val).fst.snd 2048).snd.snd],
 KO.cells [V.int IntKind.i64 (kd l), V.sl 4 0 (cn l), V.sl 5 0 (bd l).length, V.sl 6 0 (i.val + 1)], KO.row 5 1 (ints IntKind.u8 l_6), KO.row 3 1 (ints IntKind.i64 (qn l (cn l)).snd), KO.row 5 1 (ints IntKind.u8 (bd l)),
 KO.row 23 1 (List.take i.val (List.map bsl (qt l i.val).snd) ++ [[D.sl 1 (List.drop 0 (List.take (rText (List.drop (qt l i.val).fst.fst l_6) (qt l i.val).fst.snd 2048).fst.length (ints IntKind.u8 (rText (List.drop (qt l i.val).fst.fst l_6) (qt l i.val).fst.snd 2048).fst)))]])])) ∧
 (decide ((↑i.val : Int) < (↑(cl l) : Int)) = false →
 ∃ (l_6 : List Int),
 ints IntKind.u8 l = ints IntKind.u8 l_6 ∧
 l.length = l_6.length ∧
 ((rEnd (List.drop (qt l i.val).fst.fst l_6) (qt l i.val).fst.snd != 0) = true → K (V.tup [V.agg [V.int IntKind.i64 0, V.dat (D.sl 1 []), V.dat (D.sl 1 []), V.dat (D.sl 1 [])], V.int IntKind.i64 (rEnd (List.drop (qt l i.val).fst.fst l_6) (qt l i.val).fst.snd)]) []) ∧
 ((rEnd (List.drop (qt l i.val).fst.fst l_6) (qt l i.val).fst.snd != 0) = false →
 ((cn l ≤ (ints IntKind.i64 (qn l (cn l)).snd).length ∧ (bd l).length ≤ (ints IntKind.u8 (bd l)).length ∧ i.val ≤ (List.map bsl (qt l i.val).snd).length ∧ True) ∧ True) ∧
 ∃ (n : List Int),
 ∃ (b : List Int),
 ∃ (l_7 : List (List Int)),
 List.drop 0 (List.take (cn l) (ints IntKind.i64 (qn l (cn l)).snd)) = ints IntKind.i64 n ∧
 List.drop 0 (List.take (bd l).length (ints IntKind.u8 (bd l))) = ints IntKind.u8 b ∧
 List.drop 0 (List.take i.val (List.map bsl (qt l i.val).snd)) = List.map bsl l_7 ∧
 LenI n b l_7 ∧
 (RightM (kd l) n b l_7 →
 True ∧
 (false = true → K (V.tup [V.agg [V.int IntKind.i64 0, V.dat (D.sl 1 []), V.dat (D.sl 1 []), V.dat (D.sl 1 [])], V.int IntKind.i64 0]) []) ∧
 (false = false →
 cn l ≤ (ints IntKind.i64 (qn l (cn l)).snd).length ∧
 (bd l).length ≤ (ints IntKind.u8 (bd l)).length ∧
 i.val ≤ (List.map bsl (qt l i.val).snd).length ∧
 K
 (V.tup
 [V.agg
 [V.int IntKind.i64 (kd l), V.dat (D.sl 1 (List.drop 0 (List.take (cn l) (ints IntKind.i64 (qn l (cn l)).snd)))), V.dat (D.sl 1 (List.drop 0 (List.take (bd l).length (ints IntKind.u8 (bd l))))),
 V.dat (D.sl 1 (List.drop 0 (List.take i.val (List.map bsl (qt l i.val).snd))))],
 V.int IntKind.i64 0])
 [])) ∧
 ((RightM (kd l) n b l_7 → False) →
 True ∧
 (true = true → K (V.tup [V.agg [V.int IntKind.i64 0, V.dat (D.sl 1 []), V.dat (D.sl 1 []), V.dat (D.sl 1 [])], V.int IntKind.i64 3]) []) ∧
 (true = false →
 cn l ≤ (ints IntKind.i64 (qn l (cn l)).snd).length ∧
 (bd l).length ≤ (ints IntKind.u8 (bd l)).length ∧
 i.val ≤ (List.map bsl (qt l i.val).snd).length ∧
 K
 (V.tup
 [V.agg
 [V.int IntKind.i64 (kd l), V.dat (D.sl 1 (List.drop 0 (List.take (cn l) (ints IntKind.i64 (qn l (cn l)).snd)))), V.dat (D.sl 1 (List.drop 0 (List.take (bd l).length (ints IntKind.u8 (bd l))))),
 V.dat (D.sl 1 (List.drop 0 (List.take i.val (List.map bsl (qt l i.val).snd))))],
 V.int IntKind.i64 0])
 [])))))) ∧
 ∀ (m : List Int),
 openI l_1 = some m →
 (m = [] →
 ((false = true → K (V.tup [V.agg [V.int IntKind.i64 0, V.dat (D.sl 1 []), V.dat (D.sl 1 []), V.dat (D.sl 1 [])], V.int IntKind.i64 4]) []) ∧ (false = false → At (rfC b l) ([V.ptr 0 0, V.sl 1 0 0], [KO.cells [V.int IntKind.i64 0, V.any (Value.slice none 0 0), V.any (Value.slice none 0 0), V.any (Value.slice none 0 0)], KO.row 5 1 []]))) ∧
 ∀ (i : { q : Nat // openI b = some l }),
 (l.length ≤ (ints IntKind.u8 l).length ∧ True) ∧
 (List.drop 0 (List.take l.length (ints IntKind.u8 l))).length ≤ 1000000 ∧
 PlainS (List.drop 0 (List.take l.length (ints IntKind.u8 l))).flatten ∧
 ∃ (l_2 : List Int),
 List.drop 0 (List.take l.length (ints IntKind.u8 l)) = ints IntKind.u8 l_2 ∧
 (List.drop 0 (List.take l.length (ints IntKind.u8 l))).length = l_2.length ∧
 0 ≤ l_2.length ∧
 (∀ (c : Int), List.Mem c l_2 → 0 ≤ c ∧ c < 256) ∧
 l_2.length ≤ 10000000 ∧
 ∃ (l_3 : List Int),
 ints IntKind.u8 l_2 = ints IntKind.u8 l_3 ∧
 l_2.length = l_3.length ∧
 0 + (rNum (List.drop 0 l_2) 0 40).snd.fst ≤ l_3.length ∧
 (∀ (c : Int), List.Mem c l_3 → 0 ≤ c ∧ c < 256) ∧
 l_3.length ≤ 10000000 ∧
 At (rf1LI l)
 ([V.ptr 0 0, V.ptr 1 0, V.ptr 2 0, V.int IntKind.i64 (rNum (List.drop (0 + (rNum (List.drop 0 l_2) 0 40).snd.fst) l_3) (rNum (List.drop 0 l_2) 0 40).snd.snd 16).fst, V.int IntKind.i64 0],
 [KO.cells [V.int IntKind.i64 0, V.any (Value.slice none 0 0), V.any (Value.slice none 0 0), V.any (Value.slice none 0 0)],
 KO.cells [V.sl 3 (0 + (rNum (List.drop 0 l_2) 0 40).snd.fst + (rNum (List.drop (0 + (rNum (List.drop 0 l_2) 0 40).snd.fst) l_3) (rNum (List.drop 0 l_2) 0 40).snd.snd 16).snd.fst) l_3.length, V.int IntKind.i64 (rNum (List.drop (0 + (rNum (List.drop 0 l_2) 0 40).snd.fst) l_3) (rNum (List.drop 0 l_2) 0 40).snd.snd 16).snd.snd],
 KO.cells [V.int IntKind.i64 (rNum (List.drop 0 l_2) 0 40).fst, V.sl 4 0 0, V.any (Value.slice none 0 0), V.any (Value.slice none 0 0)], KO.row 5 1 (ints IntKind.u8 l_3), KO.row 3 1 []]) ∧
 ∀ (i : { i : Nat // i ≤ cn l ∧ (qn l i).fst.fst ≤ l.length }),
 (decide ((↑i.val : Int) < (↑(cn l) : Int)) = true →
 (∃ (l_4 : List Int),
 ints IntKind.u8 l = ints IntKind.u8 l_4 ∧
 l.length = l_4.length ∧
 (qn l i.val).fst.fst ≤ l_4.length ∧
 (∀ (c : Int), List.Mem c l_4 → 0 ≤ c ∧ c < 256) ∧
 l_4.length ≤ 10000000 ∧
 1 ≤ 1 ∧
 i.val ≤ (ints IntKind.i64 (qn l i.val).snd).length ∧
 (i.val + 1) * 8 ≤ 140737488355328 ∧
 Nx (rf1LI l) i
 ([V.ptr 0 0, V.ptr 1 0, V.ptr 2 0, V.int IntKind.i64 (↑(cn l) : Int), V.int IntKind.i64 (IntKind.i64.wrap ((↑i.val : Int) + 1))],
 [KO.cells [V.int IntKind.i64 0, V.any (Value.slice none 0 0), V.any (Value.slice none 0 0), V.any (Value.slice none 0 0)],
 KO.cells [V.sl 3 ((qn l i.val).fst.fst + (rNum (List.drop (qn l i.val).fst.fst l_4) (qn l i.val).fst.snd 4611686018427387904).snd.fst) l_4.length, V.int IntKind.i64 (rNum (List.drop (qn l i.val).fst.fst l_4) (qn l i.val).fst.snd 4611686018427387904).snd.snd],
 KO.cells [V.int IntKind.i64 (kd l), V.sl 4 0 (i.val + 1), V.any (Value.slice none 0 0), V.any (Value.slice none 0 0)], KO.row 5 1 (ints IntKind.u8 l_4),
 KO.row 3 1 (List.take i.val (ints IntKind.i64 (qn l i.val).snd) ++ [[D.val (Value.int IntKind.i64 (rNum (List.drop (qn l i.val).fst.fst l_4) (qn l i.val).fst.snd 4611686018427387904).fst)]])])) ∧
 (∃ (l_4 : List Int),
 ints IntKind.u8 l = ints IntKind.u8 l_4 ∧
 l.length = l_4.length ∧
 (qn l i.val).fst.fst ≤ l_4.length ∧
 (∀ (c : Int), List.Mem c l_4 → 0 ≤ c ∧ c < 256) ∧
 l_4.length ≤ 10000000 ∧
 1 ≤ 1 ∧
 i.val ≤ (ints IntKind.i64 (qn l i.val).snd).length ∧
 (i.val + 1) * 8 ≤ 140737488355328 ∧
 Nx (rf1LI l) i
 ([V.ptr 0 0, V.ptr 1 0, V.ptr 2 0, V.int IntKind.i64 (↑(cn l) : Int), V.int IntKind.i64 (IntKind.i64.wrap ((↑i.val : Int) + 1))],
 [KO.cells [V.int IntKind.i64 0, V.any (Value.slice none 0 0), V.any (Value.slice none 0 0), V.any (Value.slice none 0 0)],
 KO.cells [V.sl 3 ((qn l i.val).fst.fst + (rNum (List.drop (qn l i.val).fst.fst l_4) (qn l i.val).fst.snd 4611686018427387904).snd.fst) l_4.length, V.int IntKind.i64 (rNum (List.drop (qn l i.val).fst.fst l_4) (qn l i.val).fst.snd 4611686018427387904).snd.snd],
 KO.cells [V.int IntKind.i64 (kd l), V.sl 4 0 (i.val + 1), V.any (Value.slice none 0 0), V.any (Value.slice none 0 0)], KO.row 5 1 (ints IntKind.u8 l_4),
 KO.row 3 1 (List.take i.val (ints IntKind.i64 (qn l i.val).snd) ++ [[D.val (Value.int IntKind.i64 (rNum (List.drop (qn l i.val).fst.fst l_4) (qn l i.val).fst.snd 4611686018427387904).fst)]])])) ∧
 ∃ (l_4 : List Int),
 ints IntKind.u8 l = ints IntKind.u8 l_4 ∧
 l.length = l_4.length ∧
 (qn l i.val).fst.fst ≤ l_4.length ∧
 (∀ (c : Int), List.Mem c l_4 → 0 ≤ c ∧ c < 256) ∧
 l_4.length ≤ 10000000 ∧
 (1 ≤ 1 ∧
 i.val ≤ (ints IntKind.i64 (qn l i.val).snd).length ∧
 (i.val + 1) * 8 ≤ 140737488355328 ∧
 Nx (rf1LI l) i
 ([V.ptr 0 0, V.ptr 1 0, V.ptr 2 0, V.int IntKind.i64 (↑(cn l) : Int), V.int IntKind.i64 (IntKind.i64.wrap ((↑i.val : Int) + 1))],
 [KO.cells [V.int IntKind.i64 0, V.any (Value.slice none 0 0), V.any (Value.slice none 0 0), V.any (Value.slice none 0 0)],
 KO.cells [V.sl 3 ((qn l i.val).fst.fst + (rNum (List.drop (qn l i.val).fst.fst l_4) (qn l i.val).fst.snd 4611686018427387904).snd.fst) l_4.length, V.int IntKind.i64 (rNum (List.drop (qn l i.val).fst.fst l_4) (qn l i.val).fst.snd 4611686018427387904).snd.snd],
 KO.cells [V.int IntKind.i64 (kd l), V.sl 4 0 (i.val + 1), V.any (Value.slice none 0 0), V.any (Value.slice none 0 0)], KO.row 5 1 (ints IntKind.u8 l_4),
 KO.row 3 1 (List.take i.val (ints IntKind.i64 (qn l i.val).snd) ++ [[D.val (Value.int IntKind.i64 (rNum (List.drop (qn l i.val).fst.fst l_4) (qn l i.val).fst.snd 4611686018427387904).fst)]])])) ∧
 1 ≤ 1 ∧
 i.val ≤ (ints IntKind.i64 (qn l i.val).snd).length ∧
 (i.val + 1) * 8 ≤ 140737488355328 ∧
 Nx (rf1LI l) i
 ([V.ptr 0 0, V.ptr 1 0, V.ptr 2 0, V.int IntKind.i64 (↑(cn l) : Int), V.int IntKind.i64 (IntKind.i64.wrap ((↑i.val : Int) + 1))],
 [KO.cells [V.int IntKind.i64 0, V.any (Value.slice none 0 0), V.any (Value.slice none 0 0), V.any (Value.slice none 0 0)],
 KO.cells [V.sl 3 ((qn l i.val).fst.fst + (rNum (List.drop (qn l i.val).fst.fst l_4) (qn l i.val).fst.snd 4611686018427387904).snd.fst) l_4.length, V.int IntKind.i64 (rNum (List.drop (qn l i.val).fst.fst l_4) (qn l i.val).fst.snd 4611686018427387904).snd.snd],
 KO.cells [V.int IntKind.i64 (kd l), V.sl 4 0 (i.val + 1), V.any (Value.slice none 0 0), V.any (Value.slice none 0 0)], KO.row 5 1 (ints IntKind.u8 l_4),
 KO.row 3 1 (List.take i.val (ints IntKind.i64 (qn l i.val).snd) ++ [[D.val (Value.int IntKind.i64 (rNum (List.drop (qn l i.val).fst.fst l_4) (qn l i.val).fst.snd 4611686018427387904).fst)]])])) ∧
 (decide ((↑i.val : Int) < (↑(cn l) : Int)) = false →
 ∃ (l_4 : List Int),
 ints IntKind.u8 l = ints IntKind.u8 l_4 ∧
 l.length = l_4.length ∧
 (qn l i.val).fst.fst ≤ l_4.length ∧
 (∀ (c : Int), List.Mem c l_4 → 0 ≤ c ∧ c < 256) ∧
 l_4.length ≤ 900000 ∧
 ∃ (l_5 : List Int),
 ints IntKind.u8 l_4 = ints IntKind.u8 l_5 ∧
 l_4.length = l_5.length ∧
 (qn l i.val).fst.fst + (rText (List.drop (qn l i.val).fst.fst l_4) (qn l i.val).fst.snd 2048).snd.fst ≤ l_5.length ∧
 (∀ (c : Int), List.Mem c l_5 → 0 ≤ c ∧ c < 256) ∧
 l_5.length ≤ 10000000 ∧
 At (rf2LI l)
 ([V.ptr 0 0, V.ptr 1 0, V.ptr 2 0, V.int IntKind.i64 (rNum (List.drop ((qn l i.val).fst.fst + (rText (List.drop (qn l i.val).fst.fst l_4) (qn l i.val).fst.snd 2048).snd.fst) l_5) (rText (List.drop (qn l i.val).fst.fst l_4) (qn l i.val).fst.snd 2048).snd.snd 64).fst, V.int IntKind.i64 0],
 [KO.cells [V.int IntKind.i64 0, V.any (Value.slice none 0 0), V.any (Value.slice none 0 0), V.any (Value.slice none 0 0)],
 KO.cells
 [V.sl 3
 ((qn l i.val).fst.fst + (rText (List.drop (qn l i.val).fst.fst l_4) (qn l i.val).fst.snd 2048).snd.fst +
 (rNum (List.drop ((qn l i.val).fst.fst + (rText (List.drop (qn l i.val).fst.fst l_4) (qn l i.val).fst.snd 2048).snd.fst) l_5) (rText (List.drop (qn l i.val).fst.fst l_4) (qn l i.val).fst.snd 2048).snd.snd 64).snd.fst)
 l_5.length,
 V.int IntKind.i64 (rNum (List.drop ((qn l i.val).fst.fst + (rText (List.drop (qn l i.val).fst.fst l_4) (qn l i.val).fst.snd 2048).snd.fst) l_5) (rText (List.drop (qn l i.val).fst.fst l_4) (qn l i.val).fst.snd 2048).snd.snd 64).snd.snd],
 KO.cells [V.int IntKind.i64 (kd l), V.sl 4 0 i.val, V.sl 5 0 (rText (List.drop (qn l i.val).fst.fst l_4) (qn l i.val).fst.snd 2048).fst.length, V.sl 6 0 0], KO.row 5 1 (ints IntKind.u8 l_5), KO.row 3 1 (ints IntKind.i64 (qn l i.val).snd),
 KO.row 5 1 (ints IntKind.u8 (rText (List.drop (qn l i.val).fst.fst l_4) (qn l i.val).fst.snd 2048).fst), KO.row 23 1 []]) ∧
 ∀ (i : { i : Nat // i ≤ cl l ∧ (qt l i).fst.fst ≤ l.length }),
 (decide ((↑i.val : Int) < (↑(cl l) : Int)) = true →
 (∃ (l_6 : List Int),
 ints IntKind.u8 l = ints IntKind.u8 l_6 ∧
 l.length = l_6.length ∧
 (qt l i.val).fst.fst ≤ l_6.length ∧
 (∀ (c : Int), List.Mem c l_6 → 0 ≤ c ∧ c < 256) ∧
 l_6.length ≤ 900000 ∧
 (rText (List.drop (qt l i.val).fst.fst l_6) (qt l i.val).fst.snd 2048).fst.length ≤ (ints IntKind.u8 (rText (List.drop (qt l i.val).fst.fst l_6) (qt l i.val).fst.snd 2048).fst).length ∧
 1 ≤ 1 ∧
 i.val ≤ (List.map bsl (qt l i.val).snd).length ∧
 (i.val + 1) * 24 ≤ 140737488355328 ∧
 Nx (rf2LI l) i
 ([V.ptr 0 0, V.ptr 1 0, V.ptr 2 0, V.int IntKind.i64 (↑(cl l) : Int), V.int IntKind.i64 (IntKind.i64.wrap ((↑i.val : Int) + 1))],
 [KO.cells [V.int IntKind.i64 0, V.any (Value.slice none 0 0), V.any (Value.slice none 0 0), V.any (Value.slice none 0 0)],
 KO.cells [V.sl 3 ((qt l i.val).fst.fst + (rText (List.drop (qt l i.val).fst.fst l_6) (qt l i.val).fst.snd 2048).snd.fst) l_6.length, V.int IntKind.i64 (rText (List.drop (qt l i.val).fst.fst l_6) (qt l i.val).fst.snd 2048).snd.snd],
 KO.cells [V.int IntKind.i64 (kd l), V.sl 4 0 (cn l), V.sl 5 0 (bd l).length, V.sl 6 0 (i.val + 1)], KO.row 5 1 (ints IntKind.u8 l_6), KO.row 3 1 (ints IntKind.i64 (qn l (cn l)).snd), KO.row 5 1 (ints IntKind.u8 (bd l)),
 KO.row 23 1
 (List.take i.val (List.map bsl (qt l i.val).snd) ++ [[D.sl 1 (List.drop 0 (List.take (rText (List.drop (qt l i.val).fst.fst l_6) (qt l i.val).fst.snd 2048).fst.length (ints IntKind.u8 (rText (List.drop (qt l i.val).fst.fst l_6) (qt l i.val).fst.snd 2048).fst)))]])])) ∧
 (∃ (l_6 : List Int),
 ints IntKind.u8 l = ints IntKind.u8 l_6 ∧
 l.length = l_6.length ∧
 (qt l i.val).fst.fst ≤ l_6.length ∧
 (∀ (c : Int), List.Mem c l_6 → 0 ≤ c ∧ c < 256) ∧
 l_6.length ≤ 900000 ∧
 (rText (List.drop (qt l i.val).fst.fst l_6) (qt l i.val).fst.snd 2048).fst.length ≤ (ints IntKind.u8 (rText (List.drop (qt l i.val).fst.fst l_6) (qt l i.val).fst.snd 2048).fst).length ∧
 1 ≤ 1 ∧
 i.val ≤ (List.map bsl (qt l i.val).snd).length ∧
 (i.val + 1) * 24 ≤ 140737488355328 ∧
 Nx (rf2LI l) i
 ([V.ptr 0 0, V.ptr 1 0, V.ptr 2 0, V.int IntKind.i64 (↑(cl l) : Int), V.int IntKind.i64 (IntKind.i64.wrap ((↑i.val : Int) + 1))],
 [KO.cells [V.int IntKind.i64 0, V.any (Value.slice none 0 0), V.any (Value.slice none 0 0), V.any (Value.slice none 0 0)],
 KO.cells [V.sl 3 ((qt l i.val).fst.fst + (rText (List.drop (qt l i.val).fst.fst l_6) (qt l i.val).fst.snd 2048).snd.fst) l_6.length, V.int IntKind.i64 (rText (List.drop (qt l i.val).fst.fst l_6) (qt l i.val).fst.snd 2048).snd.snd],
 KO.cells [V.int IntKind.i64 (kd l), V.sl 4 0 (cn l), V.sl 5 0 (bd l).length, V.sl 6 0 (i.val + 1)], KO.row 5 1 (ints IntKind.u8 l_6), KO.row 3 1 (ints IntKind.i64 (qn l (cn l)).snd), KO.row 5 1 (ints IntKind.u8 (bd l)),
 KO.row 23 1
 (List.take i.val (List.map bsl (qt l i.val).snd) ++ [[D.sl 1 (List.drop 0 (List.take (rText (List.drop (qt l i.val).fst.fst l_6) (qt l i.val).fst.snd 2048).fst.length (ints IntKind.u8 (rText (List.drop (qt l i.val).fst.fst l_6) (qt l i.val).fst.snd 2048).fst)))]])])) ∧
 ∃ (l_6 : List Int),
 ints IntKind.u8 l = ints IntKind.u8 l_6 ∧
 l.length = l_6.length ∧
 (qt l i.val).fst.fst ≤ l_6.length ∧
 (∀ (c : Int), List.Mem c l_6 → 0 ≤ c ∧ c < 256) ∧
 l_6.length ≤ 900000 ∧
 ((rText (List.drop (qt l i.val).fst.fst l_6) (qt l i.val).fst.snd 2048).fst.length ≤ (ints IntKind.u8 (rText (List.drop (qt l i.val).fst.fst l_6) (qt l i.val).fst.snd 2048).fst).length ∧
 1 ≤ 1 ∧
 i.val ≤ (List.map bsl (qt l i.val).snd).length ∧
 (i.val + 1) * 24 ≤ 140737488355328 ∧
 Nx (rf2LI l) i
 ([V.ptr 0 0, V.ptr 1 0, V.ptr 2 0, V.int IntKind.i64 (↑(cl l) : Int), V.int IntKind.i64 (IntKind.i64.wrap ((↑i.val : Int) + 1))],
 [KO.cells [V.int IntKind.i64 0, V.any (Value.slice none 0 0), V.any (Value.slice none 0 0), V.any (Value.slice none 0 0)],
 KO.cells [V.sl 3 ((qt l i.val).fst.fst + (rText (List.drop (qt l i.val).fst.fst l_6) (qt l i.val).fst.snd 2048).snd.fst) l_6.length, V.int IntKind.i64 (rText (List.drop (qt l i.val).fst.fst l_6) (qt l i.val).fst.snd 2048).snd.snd],
 KO.cells [V.int IntKind.i64 (kd l), V.sl 4 0 (cn l), V.sl 5 0 (bd l).length, V.sl 6 0 (i.val + 1)], KO.row 5 1 (ints IntKind.u8 l_6), KO.row 3 1 (ints IntKind.i64 (qn l (cn l)).snd), KO.row 5 1 (ints IntKind.u8 (bd l)),
 KO.row 23 1
 (List.take i.val (List.map bsl (qt l i.val).snd) ++ [[D.sl 1 (List.drop 0 (List.take (rText (List.drop (qt l i.val).fst.fst l_6) (qt l i.val).fst.snd 2048).fst.length (ints IntKind.u8 (rText (List.drop (qt l i.val).fst.fst l_6) (qt l i.val).fst.snd 2048).fst)))]])])) ∧
 (rText (List.drop (qt l i.val).fst.fst l_6) (qt l i.val).fst.snd 2048).fst.length ≤ (ints IntKind.u8 (rText (List.drop (qt l i.val).fst.fst l_6) (qt l i.val).fst.snd 2048).fst).length ∧
 1 ≤ 1 ∧
 i.val ≤ (List.map bsl (qt l i.val).snd).length ∧
 (i.val + 1) * 24 ≤ 140737488355328 ∧
 Nx (rf2LI l) i
 ([V.ptr 0 0, V.ptr 1 0, V.ptr 2 0, V.int IntKind.i64 (↑(cl l) : Int), V.int IntKind.i64 (IntKind.i64.wrap ((↑i.val : Int) + 1))],
 [KO.cells [V.int IntKind.i64 0, V.any (Value.slice none 0 0), V.any (Value.slice none 0 0), V.any (Value.slice none 0 0)],
 KO.cells [V.sl 3 ((qt l i.val).fst.fst + (rText (List.drop (qt l i.val).fst.fst l_6) (qt l i.val).fst.snd 2048).snd.fst) l_6.length, V.int IntKind.i64 (rText (List.drop (qt l i.val).fst.fst l_6) (qt l i.val).fst.snd 2048).snd.snd],
 KO.cells [V.int IntKind.i64 (kd l), V.sl 4 0 (cn l), V.sl 5 0 (bd l).length, V.sl 6 0 (i.val + 1)], KO.row 5 1 (ints IntKind.u8 l_6), KO.row 3 1 (ints IntKind.i64 (qn l (cn l)).snd), KO.row 5 1 (ints IntKind.u8 (bd l)),
 KO.row 23 1
 (List.take i.val (List.map bsl (qt l i.val).snd) ++ [[D.sl 1 (List.drop 0 (List.take (rText (List.drop (qt l i.val).fst.fst l_6) (qt l i.val).fst.snd 2048).fst.length (ints IntKind.u8 (rText (List.drop (qt l i.val).fst.fst l_6) (qt l i.val).fst.snd 2048).fst)))]])])) ∧
 (decide ((↑i.val : Int) < (↑(cl l) : Int)) = false →
 ∃ (l_6 : List Int),
 ints IntKind.u8 l = ints IntKind.u8 l_6 ∧
 l.length = l_6.length ∧
 ((rEnd (List.drop (qt l i.val).fst.fst l_6) (qt l i.val).fst.snd != 0) = true → K (V.tup [V.agg [V.int IntKind.i64 0, V.dat (D.sl 1 []), V.dat (D.sl 1 []), V.dat (D.sl 1 [])], V.int IntKind.i64 (rEnd (List.drop (qt l i.val).fst.fst l_6) (qt l i.val).fst.snd)]) []) ∧
 ((rEnd (List.drop (qt l i.val).fst.fst l_6) (qt l i.val).fst.snd != 0) = false →
 ((cn l ≤ (ints IntKind.i64 (qn l (cn l)).snd).length ∧ (bd l).length ≤ (ints IntKind.u8 (bd l)).length ∧ i.val ≤ (List.map bsl (qt l i.val).snd).length ∧ True) ∧ True) ∧
 ∃ (n : List Int),
 ∃ (b : List Int),
 ∃ (l_7 : List (List Int)),
 List.drop 0 (List.take (cn l) (ints IntKind.i64 (qn l (cn l)).snd)) = ints IntKind.i64 n ∧
 List.drop 0 (List.take (bd l).length (ints IntKind.u8 (bd l))) = ints IntKind.u8 b ∧
 List.drop 0 (List.take i.val (List.map bsl (qt l i.val).snd)) = List.map bsl l_7 ∧
 LenI n b l_7 ∧
 (RightM (kd l) n b l_7 →
 True ∧
 (false = true → K (V.tup [V.agg [V.int IntKind.i64 0, V.dat (D.sl 1 []), V.dat (D.sl 1 []), V.dat (D.sl 1 [])], V.int IntKind.i64 0]) []) ∧
 (false = false →
 cn l ≤ (ints IntKind.i64 (qn l (cn l)).snd).length ∧
 (bd l).length ≤ (ints IntKind.u8 (bd l)).length ∧
 i.val ≤ (List.map bsl (qt l i.val).snd).length ∧
 K
 (V.tup
 [V.agg
 [V.int IntKind.i64 (kd l), V.dat (D.sl 1 (List.drop 0 (List.take (cn l) (ints IntKind.i64 (qn l (cn l)).snd)))), V.dat (D.sl 1 (List.drop 0 (List.take (bd l).length (ints IntKind.u8 (bd l))))),
 V.dat (D.sl 1 (List.drop 0 (List.take i.val (List.map bsl (qt l i.val).snd))))],
 V.int IntKind.i64 0])
 [])) ∧
 ((RightM (kd l) n b l_7 → False) →
 True ∧
 (true = true → K (V.tup [V.agg [V.int IntKind.i64 0, V.dat (D.sl 1 []), V.dat (D.sl 1 []), V.dat (D.sl 1 [])], V.int IntKind.i64 3]) []) ∧
 (true = false →
 cn l ≤ (ints IntKind.i64 (qn l (cn l)).snd).length ∧
 (bd l).length ≤ (ints IntKind.u8 (bd l)).length ∧
 i.val ≤ (List.map bsl (qt l i.val).snd).length ∧
 K
 (V.tup
 [V.agg
 [V.int IntKind.i64 (kd l), V.dat (D.sl 1 (List.drop 0 (List.take (cn l) (ints IntKind.i64 (qn l (cn l)).snd)))), V.dat (D.sl 1 (List.drop 0 (List.take (bd l).length (ints IntKind.u8 (bd l))))),
 V.dat (D.sl 1 (List.drop 0 (List.take i.val (List.map bsl (qt l i.val).snd))))],
 V.int IntKind.i64 0])
 [])))))) ∧
 ((false = true → K (V.tup [V.agg [V.int IntKind.i64 0, V.dat (D.sl 1 []), V.dat (D.sl 1 []), V.dat (D.sl 1 [])], V.int IntKind.i64 4]) []) ∧ (false = false → At (rfC b l) ([V.ptr 0 0, V.sl 1 0 m.length], [KO.cells [V.int IntKind.i64 0, V.any (Value.slice none 0 0), V.any (Value.slice none 0 0), V.any (Value.slice none 0 0)], KO.row 5 1 (ints IntKind.u8 m)]))) ∧
 ∀ (i : { q : Nat // openI b = some l }),
 (l.length ≤ (ints IntKind.u8 l).length ∧ True) ∧
 (List.drop 0 (List.take l.length (ints IntKind.u8 l))).length ≤ 1000000 ∧
 PlainS (List.drop 0 (List.take l.length (ints IntKind.u8 l))).flatten ∧
 ∃ (l_2 : List Int),
 List.drop 0 (List.take l.length (ints IntKind.u8 l)) = ints IntKind.u8 l_2 ∧
 (List.drop 0 (List.take l.length (ints IntKind.u8 l))).length = l_2.length ∧
 0 ≤ l_2.length ∧
 (∀ (c : Int), List.Mem c l_2 → 0 ≤ c ∧ c < 256) ∧
 l_2.length ≤ 10000000 ∧
 ∃ (l_3 : List Int),
 ints IntKind.u8 l_2 = ints IntKind.u8 l_3 ∧
 l_2.length = l_3.length ∧
 0 + (rNum (List.drop 0 l_2) 0 40).snd.fst ≤ l_3.length ∧
 (∀ (c : Int), List.Mem c l_3 → 0 ≤ c ∧ c < 256) ∧
 l_3.length ≤ 10000000 ∧
 At (rf1LI l)
 ([V.ptr 0 0, V.ptr 1 0, V.ptr 2 0, V.int IntKind.i64 (rNum (List.drop (0 + (rNum (List.drop 0 l_2) 0 40).snd.fst) l_3) (rNum (List.drop 0 l_2) 0 40).snd.snd 16).fst, V.int IntKind.i64 0],
 [KO.cells [V.int IntKind.i64 0, V.any (Value.slice none 0 0), V.any (Value.slice none 0 0), V.any (Value.slice none 0 0)],
 KO.cells [V.sl 3 (0 + (rNum (List.drop 0 l_2) 0 40).snd.fst + (rNum (List.drop (0 + (rNum (List.drop 0 l_2) 0 40).snd.fst) l_3) (rNum (List.drop 0 l_2) 0 40).snd.snd 16).snd.fst) l_3.length, V.int IntKind.i64 (rNum (List.drop (0 + (rNum (List.drop 0 l_2) 0 40).snd.fst) l_3) (rNum (List.drop 0 l_2) 0 40).snd.snd 16).snd.snd],
 KO.cells [V.int IntKind.i64 (rNum (List.drop 0 l_2) 0 40).fst, V.sl 4 0 0, V.any (Value.slice none 0 0), V.any (Value.slice none 0 0)], KO.row 5 1 (ints IntKind.u8 l_3), KO.row 3 1 []]) ∧
 ∀ (i : { i : Nat // i ≤ cn l ∧ (qn l i).fst.fst ≤ l.length }),
 (decide ((↑i.val : Int) < (↑(cn l) : Int)) = true →
 (∃ (l_4 : List Int),
 ints IntKind.u8 l = ints IntKind.u8 l_4 ∧
 l.length = l_4.length ∧
 (qn l i.val).fst.fst ≤ l_4.length ∧
 (∀ (c : Int), List.Mem c l_4 → 0 ≤ c ∧ c < 256) ∧
 l_4.length ≤ 10000000 ∧
 1 ≤ 1 ∧
 i.val ≤ (ints IntKind.i64 (qn l i.val).snd).length ∧
 (i.val + 1) * 8 ≤ 140737488355328 ∧
 Nx (rf1LI l) i
 ([V.ptr 0 0, V.ptr 1 0, V.ptr 2 0, V.int IntKind.i64 (↑(cn l) : Int), V.int IntKind.i64 (IntKind.i64.wrap ((↑i.val : Int) + 1))],
 [KO.cells [V.int IntKind.i64 0, V.any (Value.slice none 0 0), V.any (Value.slice none 0 0), V.any (Value.slice none 0 0)],
 KO.cells [V.sl 3 ((qn l i.val).fst.fst + (rNum (List.drop (qn l i.val).fst.fst l_4) (qn l i.val).fst.snd 4611686018427387904).snd.fst) l_4.length, V.int IntKind.i64 (rNum (List.drop (qn l i.val).fst.fst l_4) (qn l i.val).fst.snd 4611686018427387904).snd.snd],
 KO.cells [V.int IntKind.i64 (kd l), V.sl 4 0 (i.val + 1), V.any (Value.slice none 0 0), V.any (Value.slice none 0 0)], KO.row 5 1 (ints IntKind.u8 l_4),
 KO.row 3 1 (List.take i.val (ints IntKind.i64 (qn l i.val).snd) ++ [[D.val (Value.int IntKind.i64 (rNum (List.drop (qn l i.val).fst.fst l_4) (qn l i.val).fst.snd 4611686018427387904).fst)]])])) ∧
 (∃ (l_4 : List Int),
 ints IntKind.u8 l = ints IntKind.u8 l_4 ∧
 l.length = l_4.length ∧
 (qn l i.val).fst.fst ≤ l_4.length ∧
 (∀ (c : Int), List.Mem c l_4 → 0 ≤ c ∧ c < 256) ∧
 l_4.length ≤ 10000000 ∧
 1 ≤ 1 ∧
 i.val ≤ (ints IntKind.i64 (qn l i.val).snd).length ∧
 (i.val + 1) * 8 ≤ 140737488355328 ∧
 Nx (rf1LI l) i
 ([V.ptr 0 0, V.ptr 1 0, V.ptr 2 0, V.int IntKind.i64 (↑(cn l) : Int), V.int IntKind.i64 (IntKind.i64.wrap ((↑i.val : Int) + 1))],
 [KO.cells [V.int IntKind.i64 0, V.any (Value.slice none 0 0), V.any (Value.slice none 0 0), V.any (Value.slice none 0 0)],
 KO.cells [V.sl 3 ((qn l i.val).fst.fst + (rNum (List.drop (qn l i.val).fst.fst l_4) (qn l i.val).fst.snd 4611686018427387904).snd.fst) l_4.length, V.int IntKind.i64 (rNum (List.drop (qn l i.val).fst.fst l_4) (qn l i.val).fst.snd 4611686018427387904).snd.snd],
 KO.cells [V.int IntKind.i64 (kd l), V.sl 4 0 (i.val + 1), V.any (Value.slice none 0 0), V.any (Value.slice none 0 0)], KO.row 5 1 (ints IntKind.u8 l_4),
 KO.row 3 1 (List.take i.val (ints IntKind.i64 (qn l i.val).snd) ++ [[D.val (Value.int IntKind.i64 (rNum (List.drop (qn l i.val).fst.fst l_4) (qn l i.val).fst.snd 4611686018427387904).fst)]])])) ∧
 ∃ (l_4 : List Int),
 ints IntKind.u8 l = ints IntKind.u8 l_4 ∧
 l.length = l_4.length ∧
 (qn l i.val).fst.fst ≤ l_4.length ∧
 (∀ (c : Int), List.Mem c l_4 → 0 ≤ c ∧ c < 256) ∧
 l_4.length ≤ 10000000 ∧
 (1 ≤ 1 ∧
 i.val ≤ (ints IntKind.i64 (qn l i.val).snd).length ∧
 (i.val + 1) * 8 ≤ 140737488355328 ∧
 Nx (rf1LI l) i
 ([V.ptr 0 0, V.ptr 1 0, V.ptr 2 0, V.int IntKind.i64 (↑(cn l) : Int), V.int IntKind.i64 (IntKind.i64.wrap ((↑i.val : Int) + 1))],
 [KO.cells [V.int IntKind.i64 0, V.any (Value.slice none 0 0), V.any (Value.slice none 0 0), V.any (Value.slice none 0 0)],
 KO.cells [V.sl 3 ((qn l i.val).fst.fst + (rNum (List.drop (qn l i.val).fst.fst l_4) (qn l i.val).fst.snd 4611686018427387904).snd.fst) l_4.length, V.int IntKind.i64 (rNum (List.drop (qn l i.val).fst.fst l_4) (qn l i.val).fst.snd 4611686018427387904).snd.snd],
 KO.cells [V.int IntKind.i64 (kd l), V.sl 4 0 (i.val + 1), V.any (Value.slice none 0 0), V.any (Value.slice none 0 0)], KO.row 5 1 (ints IntKind.u8 l_4),
 KO.row 3 1 (List.take i.val (ints IntKind.i64 (qn l i.val).snd) ++ [[D.val (Value.int IntKind.i64 (rNum (List.drop (qn l i.val).fst.fst l_4) (qn l i.val).fst.snd 4611686018427387904).fst)]])])) ∧
 1 ≤ 1 ∧
 i.val ≤ (ints IntKind.i64 (qn l i.val).snd).length ∧
 (i.val + 1) * 8 ≤ 140737488355328 ∧
 Nx (rf1LI l) i
 ([V.ptr 0 0, V.ptr 1 0, V.ptr 2 0, V.int IntKind.i64 (↑(cn l) : Int), V.int IntKind.i64 (IntKind.i64.wrap ((↑i.val : Int) + 1))],
 [KO.cells [V.int IntKind.i64 0, V.any (Value.slice none 0 0), V.any (Value.slice none 0 0), V.any (Value.slice none 0 0)],
 KO.cells [V.sl 3 ((qn l i.val).fst.fst + (rNum (List.drop (qn l i.val).fst.fst l_4) (qn l i.val).fst.snd 4611686018427387904).snd.fst) l_4.length, V.int IntKind.i64 (rNum (List.drop (qn l i.val).fst.fst l_4) (qn l i.val).fst.snd 4611686018427387904).snd.snd],
 KO.cells [V.int IntKind.i64 (kd l), V.sl 4 0 (i.val + 1), V.any (Value.slice none 0 0), V.any (Value.slice none 0 0)], KO.row 5 1 (ints IntKind.u8 l_4),
 KO.row 3 1 (List.take i.val (ints IntKind.i64 (qn l i.val).snd) ++ [[D.val (Value.int IntKind.i64 (rNum (List.drop (qn l i.val).fst.fst l_4) (qn l i.val).fst.snd 4611686018427387904).fst)]])])) ∧
 (decide ((↑i.val : Int) < (↑(cn l) : Int)) = false →
 ∃ (l_4 : List Int),
 ints IntKind.u8 l = ints IntKind.u8 l_4 ∧
 l.length = l_4.length ∧
 (qn l i.val).fst.fst ≤ l_4.length ∧
 (∀ (c : Int), List.Mem c l_4 → 0 ≤ c ∧ c < 256) ∧
 l_4.length ≤ 900000 ∧
 ∃ (l_5 : List Int),
 ints IntKind.u8 l_4 = ints IntKind.u8 l_5 ∧
 l_4.length = l_5.length ∧
 (qn l i.val).fst.fst + (rText (List.drop (qn l i.val).fst.fst l_4) (qn l i.val).fst.snd 2048).snd.fst ≤ l_5.length ∧
 (∀ (c : Int), List.Mem c l_5 → 0 ≤ c ∧ c < 256) ∧
 l_5.length ≤ 10000000 ∧
 At (rf2LI l)
 ([V.ptr 0 0, V.ptr 1 0, V.ptr 2 0, V.int IntKind.i64 (rNum (List.drop ((qn l i.val).fst.fst + (rText (List.drop (qn l i.val).fst.fst l_4) (qn l i.val).fst.snd 2048).snd.fst) l_5) (rText (List.drop (qn l i.val).fst.fst l_4) (qn l i.val).fst.snd 2048).snd.snd 64).fst, V.int IntKind.i64 0],
 [KO.cells [V.int IntKind.i64 0, V.any (Value.slice none 0 0), V.any (Value.slice none 0 0), V.any (Value.slice none 0 0)],
 KO.cells
 [V.sl 3
 ((qn l i.val).fst.fst + (rText (List.drop (qn l i.val).fst.fst l_4) (qn l i.val).fst.snd 2048).snd.fst +
 (rNum (List.drop ((qn l i.val).fst.fst + (rText (List.drop (qn l i.val).fst.fst l_4) (qn l i.val).fst.snd 2048).snd.fst) l_5) (rText (List.drop (qn l i.val).fst.fst l_4) (qn l i.val).fst.snd 2048).snd.snd 64).snd.fst)
 l_5.length,
 V.int IntKind.i64 (rNum (List.drop ((qn l i.val).fst.fst + (rText (List.drop (qn l i.val).fst.fst l_4) (qn l i.val).fst.snd 2048).snd.fst) l_5) (rText (List.drop (qn l i.val).fst.fst l_4) (qn l i.val).fst.snd 2048).snd.snd 64).snd.snd],
 KO.cells [V.int IntKind.i64 (kd l), V.sl 4 0 i.val, V.sl 5 0 (rText (List.drop (qn l i.val).fst.fst l_4) (qn l i.val).fst.snd 2048).fst.length, V.sl 6 0 0], KO.row 5 1 (ints IntKind.u8 l_5), KO.row 3 1 (ints IntKind.i64 (qn l i.val).snd),
 KO.row 5 1 (ints IntKind.u8 (rText (List.drop (qn l i.val).fst.fst l_4) (qn l i.val).fst.snd 2048).fst), KO.row 23 1 []]) ∧
 ∀ (i : { i : Nat // i ≤ cl l ∧ (qt l i).fst.fst ≤ l.length }),
 (decide ((↑i.val : Int) < (↑(cl l) : Int)) = true →
 (∃ (l_6 : List Int),
 ints IntKind.u8 l = ints IntKind.u8 l_6 ∧
 l.length = l_6.length ∧
 (qt l i.val).fst.fst ≤ l_6.length ∧
 (∀ (c : Int), List.Mem c l_6 → 0 ≤ c ∧ c < 256) ∧
 l_6.length ≤ 900000 ∧
 (rText (List.drop (qt l i.val).fst.fst l_6) (qt l i.val).fst.snd 2048).fst.length ≤ (ints IntKind.u8 (rText (List.drop (qt l i.val).fst.fst l_6) (qt l i.val).fst.snd 2048).fst).length ∧
 1 ≤ 1 ∧
 i.val ≤ (List.map bsl (qt l i.val).snd).length ∧
 (i.val + 1) * 24 ≤ 140737488355328 ∧
 Nx (rf2LI l) i
 ([V.ptr 0 0, V.ptr 1 0, V.ptr 2 0, V.int IntKind.i64 (↑(cl l) : Int), V.int IntKind.i64 (IntKind.i64.wrap ((↑i.val : Int) + 1))],
 [KO.cells [V.int IntKind.i64 0, V.any (Value.slice none 0 0), V.any (Value.slice none 0 0), V.any (Value.slice none 0 0)],
 KO.cells [V.sl 3 ((qt l i.val).fst.fst + (rText (List.drop (qt l i.val).fst.fst l_6) (qt l i.val).fst.snd 2048).snd.fst) l_6.length, V.int IntKind.i64 (rText (List.drop (qt l i.val).fst.fst l_6) (qt l i.val).fst.snd 2048).snd.snd],
 KO.cells [V.int IntKind.i64 (kd l), V.sl 4 0 (cn l), V.sl 5 0 (bd l).length, V.sl 6 0 (i.val + 1)], KO.row 5 1 (ints IntKind.u8 l_6), KO.row 3 1 (ints IntKind.i64 (qn l (cn l)).snd), KO.row 5 1 (ints IntKind.u8 (bd l)),
 KO.row 23 1 (List.take i.val (List.map bsl (qt l i.val).snd) ++ [[D.sl 1 (List.drop 0 (List.take (rText (List.drop (qt l i.val).fst.fst l_6) (qt l i.val).fst.snd 2048).fst.length (ints IntKind.u8 (rText (List.drop (qt l i.val).fst.fst l_6) (qt l i.val).fst.snd 2048).fst)))]])])) ∧
 (∃ (l_6 : List Int),
 ints IntKind.u8 l = ints IntKind.u8 l_6 ∧
 l.length = l_6.length ∧
 (qt l i.val).fst.fst ≤ l_6.length ∧
 (∀ (c : Int), List.Mem c l_6 → 0 ≤ c ∧ c < 256) ∧
 l_6.length ≤ 900000 ∧
 (rText (List.drop (qt l i.val).fst.fst l_6) (qt l i.val).fst.snd 2048).fst.length ≤ (ints IntKind.u8 (rText (List.drop (qt l i.val).fst.fst l_6) (qt l i.val).fst.snd 2048).fst).length ∧
 1 ≤ 1 ∧
 i.val ≤ (List.map bsl (qt l i.val).snd).length ∧
 (i.val + 1) * 24 ≤ 140737488355328 ∧
 Nx (rf2LI l) i
 ([V.ptr 0 0, V.ptr 1 0, V.ptr 2 0, V.int IntKind.i64 (↑(cl l) : Int), V.int IntKind.i64 (IntKind.i64.wrap ((↑i.val : Int) + 1))],
 [KO.cells [V.int IntKind.i64 0, V.any (Value.slice none 0 0), V.any (Value.slice none 0 0), V.any (Value.slice none 0 0)],
 KO.cells [V.sl 3 ((qt l i.val).fst.fst + (rText (List.drop (qt l i.val).fst.fst l_6) (qt l i.val).fst.snd 2048).snd.fst) l_6.length, V.int IntKind.i64 (rText (List.drop (qt l i.val).fst.fst l_6) (qt l i.val).fst.snd 2048).snd.snd],
 KO.cells [V.int IntKind.i64 (kd l), V.sl 4 0 (cn l), V.sl 5 0 (bd l).length, V.sl 6 0 (i.val + 1)], KO.row 5 1 (ints IntKind.u8 l_6), KO.row 3 1 (ints IntKind.i64 (qn l (cn l)).snd), KO.row 5 1 (ints IntKind.u8 (bd l)),
 KO.row 23 1
 (List.take i.val (List.map bsl (qt l i.val).snd) ++ [[D.sl 1 (List.drop 0 (List.take (rText (List.drop (qt l i.val).fst.fst l_6) (qt l i.val).fst.snd 2048).fst.length (ints IntKind.u8 (rText (List.drop (qt l i.val).fst.fst l_6) (qt l i.val).fst.snd 2048).fst)))]])])) ∧
 ∃ (l_6 : List Int),
 ints IntKind.u8 l = ints IntKind.u8 l_6 ∧
 l.length = l_6.length ∧
 (qt l i.val).fst.fst ≤ l_6.length ∧
 (∀ (c : Int), List.Mem c l_6 → 0 ≤ c ∧ c < 256) ∧
 l_6.length ≤ 900000 ∧
 ((rText (List.drop (qt l i.val).fst.fst l_6) (qt l i.val).fst.snd 2048).fst.length ≤ (ints IntKind.u8 (rText (List.drop (qt l i.val).fst.fst l_6) (qt l i.val).fst.snd 2048).fst).length ∧
 1 ≤ 1 ∧
 i.val ≤ (List.map bsl (qt l i.val).snd).length ∧
 (i.val + 1) * 24 ≤ 140737488355328 ∧
 Nx (rf2LI l) i
 ([V.ptr 0 0, V.ptr 1 0, V.ptr 2 0, V.int IntKind.i64 (↑(cl l) : Int), V.int IntKind.i64 (IntKind.i64.wrap ((↑i.val : Int) + 1))],
 [KO.cells [V.int IntKind.i64 0, V.any (Value.slice none 0 0), V.any (Value.slice none 0 0), V.any (Value.slice none 0 0)],
 KO.cells [V.sl 3 ((qt l i.val).fst.fst + (rText (List.drop (qt l i.val).fst.fst l_6) (qt l i.val).fst.snd 2048).snd.fst) l_6.length, V.int IntKind.i64 (rText (List.drop (qt l i.val).fst.fst l_6) (qt l i.val).fst.snd 2048).snd.snd],
 KO.cells [V.int IntKind.i64 (kd l), V.sl 4 0 (cn l), V.sl 5 0 (bd l).length, V.sl 6 0 (i.val + 1)], KO.row 5 1 (ints IntKind.u8 l_6), KO.row 3 1 (ints IntKind.i64 (qn l (cn l)).snd), KO.row 5 1 (ints IntKind.u8 (bd l)),
 KO.row 23 1
 (List.take i.val (List.map bsl (qt l i.val).snd) ++ [[D.sl 1 (List.drop 0 (List.take (rText (List.drop (qt l i.val).fst.fst l_6) (qt l i.val).fst.snd 2048).fst.length (ints IntKind.u8 (rText (List.drop (qt l i.val).fst.fst l_6) (qt l i.val).fst.snd 2048).fst)))]])])) ∧
 (rText (List.drop (qt l i.val).fst.fst l_6) (qt l i.val).fst.snd 2048).fst.length ≤ (ints IntKind.u8 (rText (List.drop (qt l i.val).fst.fst l_6) (qt l i.val).fst.snd 2048).fst).length ∧
 1 ≤ 1 ∧
 i.val ≤ (List.map bsl (qt l i.val).snd).length ∧
 (i.val + 1) * 24 ≤ 140737488355328 ∧
 Nx (rf2LI l) i
 ([V.ptr 0 0, V.ptr 1 0, V.ptr 2 0, V.int IntKind.i64 (↑(cl l) : Int), V.int IntKind.i64 (IntKind.i64.wrap ((↑i.val : Int) + 1))],
 [KO.cells [V.int IntKind.i64 0, V.any (Value.slice none 0 0), V.any (Value.slice none 0 0), V.any (Value.slice none 0 0)],
 KO.cells [V.sl 3 ((qt l i.val).fst.fst + (rText (List.drop (qt l i.val).fst.fst l_6) (qt l i.val).fst.snd 2048).snd.fst) l_6.length, V.int IntKind.i64 (rText (List.drop (qt l i.val).fst.fst l_6) (qt l i.val).fst.snd 2048).snd.snd],
 KO.cells [V.int IntKind.i64 (kd l), V.sl 4 0 (cn l), V.sl 5 0 (bd l).length, V.sl 6 0 (i.val + 1)], KO.row 5 1 (ints IntKind.u8 l_6), KO.row 3 1 (ints IntKind.i64 (qn l (cn l)).snd), KO.row 5 1 (ints IntKind.u8 (bd l)),
 KO.row 23 1
 (List.take i.val (List.map bsl (qt l i.val).snd) ++ [[D.sl 1 (List.drop 0 (List.take (rText (List.drop (qt l i.val).fst.fst l_6) (qt l i.val).fst.snd 2048).fst.length (ints IntKind.u8 (rText (List.drop (qt l i.val).fst.fst l_6) (qt l i.val).fst.snd 2048).fst)))]])])) ∧
 (decide ((↑i.val : Int) < (↑(cl l) : Int)) = false →
 ∃ (l_6 : List Int),
 ints IntKind.u8 l = ints IntKind.u8 l_6 ∧
 l.length = l_6.length ∧
 ((rEnd (List.drop (qt l i.val).fst.fst l_6) (qt l i.val).fst.snd != 0) = true → K (V.tup [V.agg [V.int IntKind.i64 0, V.dat (D.sl 1 []), V.dat (D.sl 1 []), V.dat (D.sl 1 [])], V.int IntKind.i64 (rEnd (List.drop (qt l i.val).fst.fst l_6) (qt l i.val).fst.snd)]) []) ∧
 ((rEnd (List.drop (qt l i.val).fst.fst l_6) (qt l i.val).fst.snd != 0) = false →
 ((cn l ≤ (ints IntKind.i64 (qn l (cn l)).snd).length ∧ (bd l).length ≤ (ints IntKind.u8 (bd l)).length ∧ i.val ≤ (List.map bsl (qt l i.val).snd).length ∧ True) ∧ True) ∧
 ∃ (n : List Int),
 ∃ (b : List Int),
 ∃ (l_7 : List (List Int)),
 List.drop 0 (List.take (cn l) (ints IntKind.i64 (qn l (cn l)).snd)) = ints IntKind.i64 n ∧
 List.drop 0 (List.take (bd l).length (ints IntKind.u8 (bd l))) = ints IntKind.u8 b ∧
 List.drop 0 (List.take i.val (List.map bsl (qt l i.val).snd)) = List.map bsl l_7 ∧
 LenI n b l_7 ∧
 (RightM (kd l) n b l_7 →
 True ∧
 (false = true → K (V.tup [V.agg [V.int IntKind.i64 0, V.dat (D.sl 1 []), V.dat (D.sl 1 []), V.dat (D.sl 1 [])], V.int IntKind.i64 0]) []) ∧
 (false = false →
 cn l ≤ (ints IntKind.i64 (qn l (cn l)).snd).length ∧
 (bd l).length ≤ (ints IntKind.u8 (bd l)).length ∧
 i.val ≤ (List.map bsl (qt l i.val).snd).length ∧
 K
 (V.tup
 [V.agg
 [V.int IntKind.i64 (kd l), V.dat (D.sl 1 (List.drop 0 (List.take (cn l) (ints IntKind.i64 (qn l (cn l)).snd)))), V.dat (D.sl 1 (List.drop 0 (List.take (bd l).length (ints IntKind.u8 (bd l))))),
 V.dat (D.sl 1 (List.drop 0 (List.take i.val (List.map bsl (qt l i.val).snd))))],
 V.int IntKind.i64 0])
 [])) ∧
 ((RightM (kd l) n b l_7 → False) →
 True ∧
 (true = true → K (V.tup [V.agg [V.int IntKind.i64 0, V.dat (D.sl 1 []), V.dat (D.sl 1 []), V.dat (D.sl 1 [])], V.int IntKind.i64 3]) []) ∧
 (true = false →
 cn l ≤ (ints IntKind.i64 (qn l (cn l)).snd).length ∧
 (bd l).length ≤ (ints IntKind.u8 (bd l)).length ∧
 i.val ≤ (List.map bsl (qt l i.val).snd).length ∧
 K
 (V.tup
 [V.agg
 [V.int IntKind.i64 (kd l), V.dat (D.sl 1 (List.drop 0 (List.take (cn l) (ints IntKind.i64 (qn l (cn l)).snd)))), V.dat (D.sl 1 (List.drop 0 (List.take (bd l).length (ints IntKind.u8 (bd l))))),
 V.dat (D.sl 1 (List.drop 0 (List.take i.val (List.map bsl (qt l i.val).snd))))],
 V.int IntKind.i64 0])
 [])))))
 ) : runSpec Try.prog XFr (frT b l 13) 13 [.dat (.sl 1 (ints .u8 b))] [] (frzRes [.num, .sl 1, .sl 1, .sl 1] (tidyRes 0 K)) := Eq.mp (by kernel_rfl) hvc_
theorem vcGRead (b l : List Int) (K : V → KB → Prop) (hvc_ :
 ∃ (l_1 : List Int),
 ints IntKind.u8 b = ints IntKind.u8 l_1 ∧
 (∀ (c : Int), List.Mem c l_1 → 0 ≤ c ∧ c < 256) ∧
 l_1.length ≤ 900000 ∧
 (openI l_1 = none →
 ((true = true → K (V.tup [V.agg [V.int IntKind.i64 0, V.dat (D.sl 1 []), V.dat (D.sl 1 []), V.dat (D.sl 1 [])], V.int IntKind.i64 4]) []) ∧ (true = false → At (rgC b l) ([V.ptr 0 0, V.any (Value.slice none 0 0)], [KO.cells [V.int IntKind.i64 0, V.any (Value.slice none 0 0), V.any (Value.slice none 0 0), V.any (Value.slice none 0 0)]]))) ∧
 ∀ (i : { q : Nat // openI b = some l }),
 ∃ (l_2 : List Int),
 ints IntKind.u8 l = ints IntKind.u8 l_2 ∧
 (∀ (c : Int), List.Mem c l_2 → 0 ≤ c ∧ c < 256) ∧
 l_2.length ≤ 10000000 ∧
 (((rNum l_2 0 40).snd.snd != 0) = true → EqI (rNum l_2 0 40).snd.snd (rNum l_2 0 40).snd.snd ∧ K (V.tup [V.agg [V.int IntKind.i64 0, V.dat (D.sl 1 []), V.dat (D.sl 1 []), V.dat (D.sl 1 [])], V.int IntKind.i64 (rNum l_2 0 40).snd.snd]) []) ∧
 (((rNum l_2 0 40).snd.snd != 0) = false →
 ∃ (l_3 : List Int),
 ints IntKind.u8 (List.drop (rNum l_2 0 40).snd.fst l_2) = ints IntKind.u8 l_3 ∧
 (∀ (c : Int), List.Mem c l_3 → 0 ≤ c ∧ c < 256) ∧
 l_3.length ≤ 10000000 ∧
 At (rg1LI l)
 ([V.ptr 0 0, V.ptr 1 0, V.ptr 2 0, V.int IntKind.i64 (rNum l_3 0 16).fst, V.int IntKind.i64 0],
 [KO.cells [V.int IntKind.i64 0, V.any (Value.slice none 0 0), V.any (Value.slice none 0 0), V.any (Value.slice none 0 0)], KO.cells [V.int IntKind.i64 (rNum l_3 0 16).fst, V.dat (D.sl 1 []), V.int IntKind.i64 (rNum l_3 0 16).snd.snd, V.dat (D.sl 1 (ints IntKind.u8 (List.drop (rNum l_3 0 16).snd.fst l_3)))],
 KO.cells [V.int IntKind.i64 (rNum l_2 0 40).fst, V.sl 3 0 0, V.any (Value.slice none 0 0), V.any (Value.slice none 0 0)], KO.row 3 1 []]) ∧
 ∀ (i : { p : Nat × Int // p.fst ≤ cn l ∧ (qn l p.fst).fst.fst ≤ l.length }),
 (decide ((↑i.val.fst : Int) < (↑(cn l) : Int)) = true →
 (((qn l i.val.fst).fst.snd == 0) = true →
 ∃ (l_4 : List Int),
 ints IntKind.u8 (List.drop (qn l i.val.fst).fst.fst l) = ints IntKind.u8 l_4 ∧
 (∀ (c : Int), List.Mem c l_4 → 0 ≤ c ∧ c < 256) ∧
 l_4.length ≤ 10000000 ∧
 1 ≤ 1 ∧
 i.val.fst ≤ (ints IntKind.i64 (qn l i.val.fst).snd).length ∧
 (i.val.fst + 1) * 8 ≤ 140737488355328 ∧
 Nx (rg1LI l) i
 ([V.ptr 0 0, V.ptr 1 0, V.ptr 2 0, V.int IntKind.i64 (↑(cn l) : Int), V.int IntKind.i64 (IntKind.i64.wrap ((↑i.val.fst : Int) + 1))],
 [KO.cells [V.int IntKind.i64 0, V.any (Value.slice none 0 0), V.any (Value.slice none 0 0), V.any (Value.slice none 0 0)],
 KO.cells [V.int IntKind.i64 (rNum l_4 0 4611686018427387904).fst, V.dat (D.sl 1 []), V.int IntKind.i64 (rNum l_4 0 4611686018427387904).snd.snd, V.dat (D.sl 1 (ints IntKind.u8 (List.drop (rNum l_4 0 4611686018427387904).snd.fst l_4)))],
 KO.cells [V.int IntKind.i64 (kd l), V.sl 3 0 (i.val.fst + 1), V.any (Value.slice none 0 0), V.any (Value.slice none 0 0)], KO.row 3 1 (List.take i.val.fst (ints IntKind.i64 (qn l i.val.fst).snd) ++ [[D.val (Value.int IntKind.i64 (rNum l_4 0 4611686018427387904).fst)]])])) ∧
 (((qn l i.val.fst).fst.snd == 0) = false →
 ((((qn l i.val.fst).fst.snd != 0) = true → EqI (qn l i.val.fst).fst.snd (qn l i.val.fst).fst.snd ∧ K (V.tup [V.agg [V.int IntKind.i64 0, V.dat (D.sl 1 []), V.dat (D.sl 1 []), V.dat (D.sl 1 [])], V.int IntKind.i64 (qn l i.val.fst).fst.snd]) []) ∧
 (((qn l i.val.fst).fst.snd != 0) = false →
 At (rgC2 l)
 ([V.ptr 0 0, V.ptr 1 0, V.ptr 2 0],
 [KO.cells [V.int IntKind.i64 0, V.any (Value.slice none 0 0), V.any (Value.slice none 0 0), V.any (Value.slice none 0 0)], KO.cells [V.int IntKind.i64 i.val.snd, V.dat (D.sl 1 []), V.int IntKind.i64 (qn l i.val.fst).fst.snd, V.dat (D.sl 1 (ints IntKind.u8 (List.drop (qn l i.val.fst).fst.fst l)))],
 KO.cells [V.int IntKind.i64 (kd l), V.sl 3 0 i.val.fst, V.any (Value.slice none 0 0), V.any (Value.slice none 0 0)], KO.row 3 1 (ints IntKind.i64 (qn l i.val.fst).snd)]))) ∧
 ∀ (i : { g : Int // (pn l).snd = 0 }),
 ∃ (l_4 : List Int),
 ints IntKind.u8 (List.drop (pn l).fst l) = ints IntKind.u8 l_4 ∧
 (∀ (c : Int), List.Mem c l_4 → 0 ≤ c ∧ c < 256) ∧
 l_4.length ≤ 10000000 ∧
 (((rText l_4 0 2048).snd.snd != 0) = true → EqI (rText l_4 0 2048).snd.snd (rText l_4 0 2048).snd.snd ∧ K (V.tup [V.agg [V.int IntKind.i64 0, V.dat (D.sl 1 []), V.dat (D.sl 1 []), V.dat (D.sl 1 [])], V.int IntKind.i64 (rText l_4 0 2048).snd.snd]) []) ∧
 (((rText l_4 0 2048).snd.snd != 0) = false →
 ∃ (l_5 : List Int),
 ints IntKind.u8 (List.drop (rText l_4 0 2048).snd.fst l_4) = ints IntKind.u8 l_5 ∧
 (∀ (c : Int), List.Mem c l_5 → 0 ≤ c ∧ c < 256) ∧
 l_5.length ≤ 10000000 ∧
 At (rg2LI l)
 ([V.ptr 0 0, V.ptr 1 0, V.ptr 2 0, V.int IntKind.i64 (rNum l_5 0 64).fst, V.int IntKind.i64 0],
 [KO.cells [V.int IntKind.i64 0, V.any (Value.slice none 0 0), V.any (Value.slice none 0 0), V.any (Value.slice none 0 0)], KO.cells [V.int IntKind.i64 (rNum l_5 0 64).fst, V.dat (D.sl 1 []), V.int IntKind.i64 (rNum l_5 0 64).snd.snd, V.dat (D.sl 1 (ints IntKind.u8 (List.drop (rNum l_5 0 64).snd.fst l_5)))],
 KO.cells [V.int IntKind.i64 (kd l), V.sl 3 0 (cn l), V.dat (D.sl 1 (ints IntKind.u8 (rText l_4 0 2048).fst)), V.sl 4 0 0], KO.row 3 1 (ints IntKind.i64 (qn l (cn l)).snd), KO.row 23 1 []]) ∧
 ∀ (i : { p : Nat × Int × List Int // p.fst ≤ cl l ∧ (qt l p.fst).fst.fst ≤ l.length ∧ (pn l).snd = 0 ∧ (q3 l).snd = 0 }),
 (decide ((↑i.val.fst : Int) < (↑(cl l) : Int)) = true →
 (((qt l i.val.fst).fst.snd == 0) = true →
 ∃ (l_6 : List Int),
 ints IntKind.u8 (List.drop (qt l i.val.fst).fst.fst l) = ints IntKind.u8 l_6 ∧
 (∀ (c : Int), List.Mem c l_6 → 0 ≤ c ∧ c < 256) ∧
 l_6.length ≤ 10000000 ∧
 1 ≤ 1 ∧
 i.val.fst ≤ (List.map bsl (qt l i.val.fst).snd).length ∧
 (i.val.fst + 1) * 24 ≤ 140737488355328 ∧
 Nx (rg2LI l) i
 ([V.ptr 0 0, V.ptr 1 0, V.ptr 2 0, V.int IntKind.i64 (↑(cl l) : Int), V.int IntKind.i64 (IntKind.i64.wrap ((↑i.val.fst : Int) + 1))],
 [KO.cells [V.int IntKind.i64 0, V.any (Value.slice none 0 0), V.any (Value.slice none 0 0), V.any (Value.slice none 0 0)],
 KO.cells [V.int IntKind.i64 0, V.dat (D.sl 1 (ints IntKind.u8 (rText l_6 0 2048).fst)), V.int IntKind.i64 (rText l_6 0 2048).snd.snd, V.dat (D.sl 1 (ints IntKind.u8 (List.drop (rText l_6 0 2048).snd.fst l_6)))],
 KO.cells [V.int IntKind.i64 (kd l), V.sl 3 0 (cn l), V.dat (D.sl 1 (ints IntKind.u8 (bd l))), V.sl 4 0 (i.val.fst + 1)], KO.row 3 1 (ints IntKind.i64 (qn l (cn l)).snd),
 KO.row 23 1 (List.take i.val.fst (List.map bsl (qt l i.val.fst).snd) ++ [[D.sl 1 (ints IntKind.u8 (rText l_6 0 2048).fst)]])])) ∧
 (((qt l i.val.fst).fst.snd == 0) = false →
 ((((qt l i.val.fst).fst.snd != 0) = true → EqI (qt l i.val.fst).fst.snd (qt l i.val.fst).fst.snd ∧ K (V.tup [V.agg [V.int IntKind.i64 0, V.dat (D.sl 1 []), V.dat (D.sl 1 []), V.dat (D.sl 1 [])], V.int IntKind.i64 (qt l i.val.fst).fst.snd]) []) ∧
 (((qt l i.val.fst).fst.snd != 0) = false →
 At (rgC3 l)
 ([V.ptr 0 0, V.ptr 1 0, V.ptr 2 0],
 [KO.cells [V.int IntKind.i64 0, V.any (Value.slice none 0 0), V.any (Value.slice none 0 0), V.any (Value.slice none 0 0)],
 KO.cells [V.int IntKind.i64 i.val.snd.fst, V.dat (D.sl 1 (ints IntKind.u8 i.val.snd.snd)), V.int IntKind.i64 (qt l i.val.fst).fst.snd, V.dat (D.sl 1 (ints IntKind.u8 (List.drop (qt l i.val.fst).fst.fst l)))],
 KO.cells [V.int IntKind.i64 (kd l), V.sl 3 0 (cn l), V.dat (D.sl 1 (ints IntKind.u8 (bd l))), V.sl 4 0 i.val.fst], KO.row 3 1 (ints IntKind.i64 (qn l (cn l)).snd), KO.row 23 1 (List.map bsl (qt l i.val.fst).snd)]))) ∧
 ∀ (i : { p : Int × List Int // (pn l).snd = 0 ∧ (q3 l).snd = 0 ∧ (pt l).snd = 0 }),
 (decide ((↑(ints IntKind.u8 (List.drop (pt l).fst l)).length : Int) > 0) = true → K (V.tup [V.agg [V.int IntKind.i64 0, V.dat (D.sl 1 []), V.dat (D.sl 1 []), V.dat (D.sl 1 [])], V.int IntKind.i64 3]) []) ∧
 (decide ((↑(ints IntKind.u8 (List.drop (pt l).fst l)).length : Int) > 0) = false →
 ((cn l ≤ (ints IntKind.i64 (qn l (cn l)).snd).length ∧ True ∧ cl l ≤ (List.map bsl (qt l (cl l)).snd).length ∧ True) ∧ True) ∧
 ∃ (n : List Int),
 ∃ (b : List Int),
 ∃ (l_6 : List (List Int)),
 List.drop 0 (List.take (cn l) (ints IntKind.i64 (qn l (cn l)).snd)) = ints IntKind.i64 n ∧
 ints IntKind.u8 (bd l) = ints IntKind.u8 b ∧
 List.drop 0 (List.take (cl l) (List.map bsl (qt l (cl l)).snd)) = List.map bsl l_6 ∧
 LenI n b l_6 ∧
 ∀ (q : Bool),
 (q = true ↔ RightM (kd l) n b l_6) →
 True ∧
 ((!q) = true → K (V.tup [V.agg [V.int IntKind.i64 0, V.dat (D.sl 1 []), V.dat (D.sl 1 []), V.dat (D.sl 1 [])], V.int IntKind.i64 3]) []) ∧
 ((!q) = false →
 cn l ≤ (ints IntKind.i64 (qn l (cn l)).snd).length ∧
 cl l ≤ (List.map bsl (qt l (cl l)).snd).length ∧
 K (V.tup [V.agg [V.int IntKind.i64 (kd l), V.dat (D.sl 1 (List.drop 0 (List.take (cn l) (ints IntKind.i64 (qn l (cn l)).snd)))), V.dat (D.sl 1 (ints IntKind.u8 (bd l))), V.dat (D.sl 1 (List.drop 0 (List.take (cl l) (List.map bsl (qt l (cl l)).snd))))], V.int IntKind.i64 0])
 [])))) ∧
 (decide ((↑i.val.fst : Int) < (↑(cl l) : Int)) = false →
 ((((qt l i.val.fst).fst.snd != 0) = true → EqI (qt l i.val.fst).fst.snd (qt l i.val.fst).fst.snd ∧ K (V.tup [V.agg [V.int IntKind.i64 0, V.dat (D.sl 1 []), V.dat (D.sl 1 []), V.dat (D.sl 1 [])], V.int IntKind.i64 (qt l i.val.fst).fst.snd]) []) ∧
 (((qt l i.val.fst).fst.snd != 0) = false →
 At (rgC3 l)
 ([V.ptr 0 0, V.ptr 1 0, V.ptr 2 0],
 [KO.cells [V.int IntKind.i64 0, V.any (Value.slice none 0 0), V.any (Value.slice none 0 0), V.any (Value.slice none 0 0)],
 KO.cells [V.int IntKind.i64 i.val.snd.fst, V.dat (D.sl 1 (ints IntKind.u8 i.val.snd.snd)), V.int IntKind.i64 (qt l i.val.fst).fst.snd, V.dat (D.sl 1 (ints IntKind.u8 (List.drop (qt l i.val.fst).fst.fst l)))],
 KO.cells [V.int IntKind.i64 (kd l), V.sl 3 0 (cn l), V.dat (D.sl 1 (ints IntKind.u8 (bd l))), V.sl 4 0 i.val.fst], KO.row 3 1 (ints IntKind.i64 (qn l (cn l)).snd), KO.row 23 1 (List.map bsl (qt l i.val.fst).snd)]))) ∧
 ∀ (i : { p : Int × List Int // (pn l).snd = 0 ∧ (q3 l).snd = 0 ∧ (pt l).snd = 0 }),
 (decide ((↑(ints IntKind.u8 (List.drop (pt l).fst l)).length : Int) > 0) = true → K (V.tup [V.agg [V.int IntKind.i64 0, V.dat (D.sl 1 []), V.dat (D.sl 1 []), V.dat (D.sl 1 [])], V.int IntKind.i64 3]) []) ∧
 (decide ((↑(ints IntKind.u8 (List.drop (pt l).fst l)).length : Int) > 0) = false →
 ((cn l ≤ (ints IntKind.i64 (qn l (cn l)).snd).length ∧ True ∧ cl l ≤ (List.map bsl (qt l (cl l)).snd).length ∧ True) ∧ True) ∧
 ∃ (n : List Int),
 ∃ (b : List Int),
 ∃ (l_6 : List (List Int)),
 List.drop 0 (List.take (cn l) (ints IntKind.i64 (qn l (cn l)).snd)) = ints IntKind.i64 n ∧
 ints IntKind.u8 (bd l) = ints IntKind.u8 b ∧
 List.drop 0 (List.take (cl l) (List.map bsl (qt l (cl l)).snd)) = List.map bsl l_6 ∧
 LenI n b l_6 ∧
 ∀ (q : Bool),
 (q = true ↔ RightM (kd l) n b l_6) →
 True ∧
 ((!q) = true → K (V.tup [V.agg [V.int IntKind.i64 0, V.dat (D.sl 1 []), V.dat (D.sl 1 []), V.dat (D.sl 1 [])], V.int IntKind.i64 3]) []) ∧
 ((!q) = false →
 cn l ≤ (ints IntKind.i64 (qn l (cn l)).snd).length ∧
 cl l ≤ (List.map bsl (qt l (cl l)).snd).length ∧
 K (V.tup [V.agg [V.int IntKind.i64 (kd l), V.dat (D.sl 1 (List.drop 0 (List.take (cn l) (ints IntKind.i64 (qn l (cn l)).snd)))), V.dat (D.sl 1 (ints IntKind.u8 (bd l))), V.dat (D.sl 1 (List.drop 0 (List.take (cl l) (List.map bsl (qt l (cl l)).snd))))], V.int IntKind.i64 0])
 [])))))) ∧
 (decide ((↑i.val.fst : Int) < (↑(cn l) : Int)) = false →
 ((((qn l i.val.fst).fst.snd != 0) = true → EqI (qn l i.val.fst).fst.snd (qn l i.val.fst).fst.snd ∧ K (V.tup [V.agg [V.int IntKind.i64 0, V.dat (D.sl 1 []), V.dat (D.sl 1 []), V.dat (D.sl 1 [])], V.int IntKind.i64 (qn l i.val.fst).fst.snd]) []) ∧
 (((qn l i.val.fst).fst.snd != 0) = false →
 At (rgC2 l)
 ([V.ptr 0 0, V.ptr 1 0, V.ptr 2 0],
 [KO.cells [V.int IntKind.i64 0, V.any (Value.slice none 0 0), V.any (Value.slice none 0 0), V.any (Value.slice none 0 0)], KO.cells [V.int IntKind.i64 i.val.snd, V.dat (D.sl 1 []), V.int IntKind.i64 (qn l i.val.fst).fst.snd, V.dat (D.sl 1 (ints IntKind.u8 (List.drop (qn l i.val.fst).fst.fst l)))],
 KO.cells [V.int IntKind.i64 (kd l), V.sl 3 0 i.val.fst, V.any (Value.slice none 0 0), V.any (Value.slice none 0 0)], KO.row 3 1 (ints IntKind.i64 (qn l i.val.fst).snd)]))) ∧
 ∀ (i : { g : Int // (pn l).snd = 0 }),
 ∃ (l_4 : List Int),
 ints IntKind.u8 (List.drop (pn l).fst l) = ints IntKind.u8 l_4 ∧
 (∀ (c : Int), List.Mem c l_4 → 0 ≤ c ∧ c < 256) ∧
 l_4.length ≤ 10000000 ∧
 (((rText l_4 0 2048).snd.snd != 0) = true → EqI (rText l_4 0 2048).snd.snd (rText l_4 0 2048).snd.snd ∧ K (V.tup [V.agg [V.int IntKind.i64 0, V.dat (D.sl 1 []), V.dat (D.sl 1 []), V.dat (D.sl 1 [])], V.int IntKind.i64 (rText l_4 0 2048).snd.snd]) []) ∧
 (((rText l_4 0 2048).snd.snd != 0) = false →
 ∃ (l_5 : List Int),
 ints IntKind.u8 (List.drop (rText l_4 0 2048).snd.fst l_4) = ints IntKind.u8 l_5 ∧
 (∀ (c : Int), List.Mem c l_5 → 0 ≤ c ∧ c < 256) ∧
 l_5.length ≤ 10000000 ∧
 At (rg2LI l)
 ([V.ptr 0 0, V.ptr 1 0, V.ptr 2 0, V.int IntKind.i64 (rNum l_5 0 64).fst, V.int IntKind.i64 0],
 [KO.cells [V.int IntKind.i64 0, V.any (Value.slice none 0 0), V.any (Value.slice none 0 0), V.any (Value.slice none 0 0)], KO.cells [V.int IntKind.i64 (rNum l_5 0 64).fst, V.dat (D.sl 1 []), V.int IntKind.i64 (rNum l_5 0 64).snd.snd, V.dat (D.sl 1 (ints IntKind.u8 (List.drop (rNum l_5 0 64).snd.fst l_5)))],
 KO.cells [V.int IntKind.i64 (kd l), V.sl 3 0 (cn l), V.dat (D.sl 1 (ints IntKind.u8 (rText l_4 0 2048).fst)), V.sl 4 0 0], KO.row 3 1 (ints IntKind.i64 (qn l (cn l)).snd), KO.row 23 1 []]) ∧
 ∀ (i : { p : Nat × Int × List Int // p.fst ≤ cl l ∧ (qt l p.fst).fst.fst ≤ l.length ∧ (pn l).snd = 0 ∧ (q3 l).snd = 0 }),
 (decide ((↑i.val.fst : Int) < (↑(cl l) : Int)) = true →
 (((qt l i.val.fst).fst.snd == 0) = true →
 ∃ (l_6 : List Int),
 ints IntKind.u8 (List.drop (qt l i.val.fst).fst.fst l) = ints IntKind.u8 l_6 ∧
 (∀ (c : Int), List.Mem c l_6 → 0 ≤ c ∧ c < 256) ∧
 l_6.length ≤ 10000000 ∧
 1 ≤ 1 ∧
 i.val.fst ≤ (List.map bsl (qt l i.val.fst).snd).length ∧
 (i.val.fst + 1) * 24 ≤ 140737488355328 ∧
 Nx (rg2LI l) i
 ([V.ptr 0 0, V.ptr 1 0, V.ptr 2 0, V.int IntKind.i64 (↑(cl l) : Int), V.int IntKind.i64 (IntKind.i64.wrap ((↑i.val.fst : Int) + 1))],
 [KO.cells [V.int IntKind.i64 0, V.any (Value.slice none 0 0), V.any (Value.slice none 0 0), V.any (Value.slice none 0 0)],
 KO.cells [V.int IntKind.i64 0, V.dat (D.sl 1 (ints IntKind.u8 (rText l_6 0 2048).fst)), V.int IntKind.i64 (rText l_6 0 2048).snd.snd, V.dat (D.sl 1 (ints IntKind.u8 (List.drop (rText l_6 0 2048).snd.fst l_6)))],
 KO.cells [V.int IntKind.i64 (kd l), V.sl 3 0 (cn l), V.dat (D.sl 1 (ints IntKind.u8 (bd l))), V.sl 4 0 (i.val.fst + 1)], KO.row 3 1 (ints IntKind.i64 (qn l (cn l)).snd), KO.row 23 1 (List.take i.val.fst (List.map bsl (qt l i.val.fst).snd) ++ [[D.sl 1 (ints IntKind.u8 (rText l_6 0 2048).fst)]])])) ∧
 (((qt l i.val.fst).fst.snd == 0) = false →
 ((((qt l i.val.fst).fst.snd != 0) = true → EqI (qt l i.val.fst).fst.snd (qt l i.val.fst).fst.snd ∧ K (V.tup [V.agg [V.int IntKind.i64 0, V.dat (D.sl 1 []), V.dat (D.sl 1 []), V.dat (D.sl 1 [])], V.int IntKind.i64 (qt l i.val.fst).fst.snd]) []) ∧
 (((qt l i.val.fst).fst.snd != 0) = false →
 At (rgC3 l)
 ([V.ptr 0 0, V.ptr 1 0, V.ptr 2 0],
 [KO.cells [V.int IntKind.i64 0, V.any (Value.slice none 0 0), V.any (Value.slice none 0 0), V.any (Value.slice none 0 0)],
 KO.cells [V.int IntKind.i64 i.val.snd.fst, V.dat (D.sl 1 (ints IntKind.u8 i.val.snd.snd)), V.int IntKind.i64 (qt l i.val.fst).fst.snd, V.dat (D.sl 1 (ints IntKind.u8 (List.drop (qt l i.val.fst).fst.fst l)))],
 KO.cells [V.int IntKind.i64 (kd l), V.sl 3 0 (cn l), V.dat (D.sl 1 (ints IntKind.u8 (bd l))), V.sl 4 0 i.val.fst], KO.row 3 1 (ints IntKind.i64 (qn l (cn l)).snd), KO.row 23 1 (List.map bsl (qt l i.val.fst).snd)]))) ∧
 ∀ (i : { p : Int × List Int // (pn l).snd = 0 ∧ (q3 l).snd = 0 ∧ (pt l).snd = 0 }),
 (decide ((↑(ints IntKind.u8 (List.drop (pt l).fst l)).length : Int) > 0) = true → K (V.tup [V.agg [V.int IntKind.i64 0, V.dat (D.sl 1 []), V.dat (D.sl 1 []), V.dat (D.sl 1 [])], V.int IntKind.i64 3]) []) ∧
 (decide ((↑(ints IntKind.u8 (List.drop (pt l).fst l)).length : Int) > 0) = false →
 ((cn l ≤ (ints IntKind.i64 (qn l (cn l)).snd).length ∧ True ∧ cl l ≤ (List.map bsl (qt l (cl l)).snd).length ∧ True) ∧ True) ∧
 ∃ (n : List Int),
 ∃ (b : List Int),
 ∃ (l_6 : List (List Int)),
 List.drop 0 (List.take (cn l) (ints IntKind.i64 (qn l (cn l)).snd)) = ints IntKind.i64 n ∧
 ints IntKind.u8 (bd l) = ints IntKind.u8 b ∧
 List.drop 0 (List.take (cl l) (List.map bsl (qt l (cl l)).snd)) = List.map bsl l_6 ∧
 LenI n b l_6 ∧
 ∀ (q : Bool),
 (q = true ↔ RightM (kd l) n b l_6) →
 True ∧
 ((!q) = true → K (V.tup [V.agg [V.int IntKind.i64 0, V.dat (D.sl 1 []), V.dat (D.sl 1 []), V.dat (D.sl 1 [])], V.int IntKind.i64 3]) []) ∧
 ((!q) = false →
 cn l ≤ (ints IntKind.i64 (qn l (cn l)).snd).length ∧
 cl l ≤ (List.map bsl (qt l (cl l)).snd).length ∧
 K (V.tup [V.agg [V.int IntKind.i64 (kd l), V.dat (D.sl 1 (List.drop 0 (List.take (cn l) (ints IntKind.i64 (qn l (cn l)).snd)))), V.dat (D.sl 1 (ints IntKind.u8 (bd l))), V.dat (D.sl 1 (List.drop 0 (List.take (cl l) (List.map bsl (qt l (cl l)).snd))))], V.int IntKind.i64 0])
 [])))) ∧
 (decide ((↑i.val.fst : Int) < (↑(cl l) : Int)) = false →
 ((((qt l i.val.fst).fst.snd != 0) = true → EqI (qt l i.val.fst).fst.snd (qt l i.val.fst).fst.snd ∧ K (V.tup [V.agg [V.int IntKind.i64 0, V.dat (D.sl 1 []), V.dat (D.sl 1 []), V.dat (D.sl 1 [])], V.int IntKind.i64 (qt l i.val.fst).fst.snd]) []) ∧
 (((qt l i.val.fst).fst.snd != 0) = false →
 At (rgC3 l)
 ([V.ptr 0 0, V.ptr 1 0, V.ptr 2 0],
 [KO.cells [V.int IntKind.i64 0, V.any (Value.slice none 0 0), V.any (Value.slice none 0 0), V.any (Value.slice none 0 0)],
 KO.cells [V.int IntKind.i64 i.val.snd.fst, V.dat (D.sl 1 (ints IntKind.u8 i.val.snd.snd)), V.int IntKind.i64 (qt l i.val.fst).fst.snd, V.dat (D.sl 1 (ints IntKind.u8 (List.drop (qt l i.val.fst).fst.fst l)))],
 KO.cells [V.int IntKind.i64 (kd l), V.sl 3 0 (cn l), V.dat (D.sl 1 (ints IntKind.u8 (bd l))), V.sl 4 0 i.val.fst], KO.row 3 1 (ints IntKind.i64 (qn l (cn l)).snd), KO.row 23 1 (List.map bsl (qt l i.val.fst).snd)]))) ∧
 ∀ (i : { p : Int × List Int // (pn l).snd = 0 ∧ (q3 l).snd = 0 ∧ (pt l).snd = 0 }),
 (decide ((↑(ints IntKind.u8 (List.drop (pt l).fst l)).length : Int) > 0) = true → K (V.tup [V.agg [V.int IntKind.i64 0, V.dat (D.sl 1 []), V.dat (D.sl 1 []), V.dat (D.sl 1 [])], V.int IntKind.i64 3]) []) ∧
 (decide ((↑(ints IntKind.u8 (List.drop (pt l).fst l)).length : Int) > 0) = false →
 ((cn l ≤ (ints IntKind.i64 (qn l (cn l)).snd).length ∧ True ∧ cl l ≤ (List.map bsl (qt l (cl l)).snd).length ∧ True) ∧ True) ∧
 ∃ (n : List Int),
 ∃ (b : List Int),
 ∃ (l_6 : List (List Int)),
 List.drop 0 (List.take (cn l) (ints IntKind.i64 (qn l (cn l)).snd)) = ints IntKind.i64 n ∧
 ints IntKind.u8 (bd l) = ints IntKind.u8 b ∧
 List.drop 0 (List.take (cl l) (List.map bsl (qt l (cl l)).snd)) = List.map bsl l_6 ∧
 LenI n b l_6 ∧
 ∀ (q : Bool),
 (q = true ↔ RightM (kd l) n b l_6) →
 True ∧
 ((!q) = true → K (V.tup [V.agg [V.int IntKind.i64 0, V.dat (D.sl 1 []), V.dat (D.sl 1 []), V.dat (D.sl 1 [])], V.int IntKind.i64 3]) []) ∧
 ((!q) = false →
 cn l ≤ (ints IntKind.i64 (qn l (cn l)).snd).length ∧
 cl l ≤ (List.map bsl (qt l (cl l)).snd).length ∧
 K (V.tup [V.agg [V.int IntKind.i64 (kd l), V.dat (D.sl 1 (List.drop 0 (List.take (cn l) (ints IntKind.i64 (qn l (cn l)).snd)))), V.dat (D.sl 1 (ints IntKind.u8 (bd l))), V.dat (D.sl 1 (List.drop 0 (List.take (cl l) (List.map bsl (qt l (cl l)).snd))))], V.int IntKind.i64 0]) []))))))) ∧
 ∀ (m : List Int),
 openI l_1 = some m →
 ((false = true → K (V.tup [V.agg [V.int IntKind.i64 0, V.dat (D.sl 1 []), V.dat (D.sl 1 []), V.dat (D.sl 1 [])], V.int IntKind.i64 4]) []) ∧ (false = false → At (rgC b l) ([V.ptr 0 0, V.dat (D.sl 1 (ints IntKind.u8 m))], [KO.cells [V.int IntKind.i64 0, V.any (Value.slice none 0 0), V.any (Value.slice none 0 0), V.any (Value.slice none 0 0)]]))) ∧
 ∀ (i : { q : Nat // openI b = some l }),
 ∃ (l_2 : List Int),
 ints IntKind.u8 l = ints IntKind.u8 l_2 ∧
 (∀ (c : Int), List.Mem c l_2 → 0 ≤ c ∧ c < 256) ∧
 l_2.length ≤ 10000000 ∧
 (((rNum l_2 0 40).snd.snd != 0) = true → EqI (rNum l_2 0 40).snd.snd (rNum l_2 0 40).snd.snd ∧ K (V.tup [V.agg [V.int IntKind.i64 0, V.dat (D.sl 1 []), V.dat (D.sl 1 []), V.dat (D.sl 1 [])], V.int IntKind.i64 (rNum l_2 0 40).snd.snd]) []) ∧
 (((rNum l_2 0 40).snd.snd != 0) = false →
 ∃ (l_3 : List Int),
 ints IntKind.u8 (List.drop (rNum l_2 0 40).snd.fst l_2) = ints IntKind.u8 l_3 ∧
 (∀ (c : Int), List.Mem c l_3 → 0 ≤ c ∧ c < 256) ∧
 l_3.length ≤ 10000000 ∧
 At (rg1LI l)
 ([V.ptr 0 0, V.ptr 1 0, V.ptr 2 0, V.int IntKind.i64 (rNum l_3 0 16).fst, V.int IntKind.i64 0],
 [KO.cells [V.int IntKind.i64 0, V.any (Value.slice none 0 0), V.any (Value.slice none 0 0), V.any (Value.slice none 0 0)], KO.cells [V.int IntKind.i64 (rNum l_3 0 16).fst, V.dat (D.sl 1 []), V.int IntKind.i64 (rNum l_3 0 16).snd.snd, V.dat (D.sl 1 (ints IntKind.u8 (List.drop (rNum l_3 0 16).snd.fst l_3)))],
 KO.cells [V.int IntKind.i64 (rNum l_2 0 40).fst, V.sl 3 0 0, V.any (Value.slice none 0 0), V.any (Value.slice none 0 0)], KO.row 3 1 []]) ∧
 ∀ (i : { p : Nat × Int // p.fst ≤ cn l ∧ (qn l p.fst).fst.fst ≤ l.length }),
 (decide ((↑i.val.fst : Int) < (↑(cn l) : Int)) = true →
 (((qn l i.val.fst).fst.snd == 0) = true →
 ∃ (l_4 : List Int),
 ints IntKind.u8 (List.drop (qn l i.val.fst).fst.fst l) = ints IntKind.u8 l_4 ∧
 (∀ (c : Int), List.Mem c l_4 → 0 ≤ c ∧ c < 256) ∧
 l_4.length ≤ 10000000 ∧
 1 ≤ 1 ∧
 i.val.fst ≤ (ints IntKind.i64 (qn l i.val.fst).snd).length ∧
 (i.val.fst + 1) * 8 ≤ 140737488355328 ∧
 Nx (rg1LI l) i
 ([V.ptr 0 0, V.ptr 1 0, V.ptr 2 0, V.int IntKind.i64 (↑(cn l) : Int), V.int IntKind.i64 (IntKind.i64.wrap ((↑i.val.fst : Int) + 1))],
 [KO.cells [V.int IntKind.i64 0, V.any (Value.slice none 0 0), V.any (Value.slice none 0 0), V.any (Value.slice none 0 0)],
 KO.cells [V.int IntKind.i64 (rNum l_4 0 4611686018427387904).fst, V.dat (D.sl 1 []), V.int IntKind.i64 (rNum l_4 0 4611686018427387904).snd.snd, V.dat (D.sl 1 (ints IntKind.u8 (List.drop (rNum l_4 0 4611686018427387904).snd.fst l_4)))],
 KO.cells [V.int IntKind.i64 (kd l), V.sl 3 0 (i.val.fst + 1), V.any (Value.slice none 0 0), V.any (Value.slice none 0 0)], KO.row 3 1 (List.take i.val.fst (ints IntKind.i64 (qn l i.val.fst).snd) ++ [[D.val (Value.int IntKind.i64 (rNum l_4 0 4611686018427387904).fst)]])])) ∧
 (((qn l i.val.fst).fst.snd == 0) = false →
 ((((qn l i.val.fst).fst.snd != 0) = true → EqI (qn l i.val.fst).fst.snd (qn l i.val.fst).fst.snd ∧ K (V.tup [V.agg [V.int IntKind.i64 0, V.dat (D.sl 1 []), V.dat (D.sl 1 []), V.dat (D.sl 1 [])], V.int IntKind.i64 (qn l i.val.fst).fst.snd]) []) ∧
 (((qn l i.val.fst).fst.snd != 0) = false →
 At (rgC2 l)
 ([V.ptr 0 0, V.ptr 1 0, V.ptr 2 0],
 [KO.cells [V.int IntKind.i64 0, V.any (Value.slice none 0 0), V.any (Value.slice none 0 0), V.any (Value.slice none 0 0)], KO.cells [V.int IntKind.i64 i.val.snd, V.dat (D.sl 1 []), V.int IntKind.i64 (qn l i.val.fst).fst.snd, V.dat (D.sl 1 (ints IntKind.u8 (List.drop (qn l i.val.fst).fst.fst l)))],
 KO.cells [V.int IntKind.i64 (kd l), V.sl 3 0 i.val.fst, V.any (Value.slice none 0 0), V.any (Value.slice none 0 0)], KO.row 3 1 (ints IntKind.i64 (qn l i.val.fst).snd)]))) ∧
 ∀ (i : { g : Int // (pn l).snd = 0 }),
 ∃ (l_4 : List Int),
 ints IntKind.u8 (List.drop (pn l).fst l) = ints IntKind.u8 l_4 ∧
 (∀ (c : Int), List.Mem c l_4 → 0 ≤ c ∧ c < 256) ∧
 l_4.length ≤ 10000000 ∧
 (((rText l_4 0 2048).snd.snd != 0) = true → EqI (rText l_4 0 2048).snd.snd (rText l_4 0 2048).snd.snd ∧ K (V.tup [V.agg [V.int IntKind.i64 0, V.dat (D.sl 1 []), V.dat (D.sl 1 []), V.dat (D.sl 1 [])], V.int IntKind.i64 (rText l_4 0 2048).snd.snd]) []) ∧
 (((rText l_4 0 2048).snd.snd != 0) = false →
 ∃ (l_5 : List Int),
 ints IntKind.u8 (List.drop (rText l_4 0 2048).snd.fst l_4) = ints IntKind.u8 l_5 ∧
 (∀ (c : Int), List.Mem c l_5 → 0 ≤ c ∧ c < 256) ∧
 l_5.length ≤ 10000000 ∧
 At (rg2LI l)
 ([V.ptr 0 0, V.ptr 1 0, V.ptr 2 0, V.int IntKind.i64 (rNum l_5 0 64).fst, V.int IntKind.i64 0],
 [KO.cells [V.int IntKind.i64 0, V.any (Value.slice none 0 0), V.any (Value.slice none 0 0), V.any (Value.slice none 0 0)], KO.cells [V.int IntKind.i64 (rNum l_5 0 64).fst, V.dat (D.sl 1 []), V.int IntKind.i64 (rNum l_5 0 64).snd.snd, V.dat (D.sl 1 (ints IntKind.u8 (List.drop (rNum l_5 0 64).snd.fst l_5)))],
 KO.cells [V.int IntKind.i64 (kd l), V.sl 3 0 (cn l), V.dat (D.sl 1 (ints IntKind.u8 (rText l_4 0 2048).fst)), V.sl 4 0 0], KO.row 3 1 (ints IntKind.i64 (qn l (cn l)).snd), KO.row 23 1 []]) ∧
 ∀ (i : { p : Nat × Int × List Int // p.fst ≤ cl l ∧ (qt l p.fst).fst.fst ≤ l.length ∧ (pn l).snd = 0 ∧ (q3 l).snd = 0 }),
 (decide ((↑i.val.fst : Int) < (↑(cl l) : Int)) = true →
 (((qt l i.val.fst).fst.snd == 0) = true →
 ∃ (l_6 : List Int),
 ints IntKind.u8 (List.drop (qt l i.val.fst).fst.fst l) = ints IntKind.u8 l_6 ∧
 (∀ (c : Int), List.Mem c l_6 → 0 ≤ c ∧ c < 256) ∧
 l_6.length ≤ 10000000 ∧
 1 ≤ 1 ∧
 i.val.fst ≤ (List.map bsl (qt l i.val.fst).snd).length ∧
 (i.val.fst + 1) * 24 ≤ 140737488355328 ∧
 Nx (rg2LI l) i
 ([V.ptr 0 0, V.ptr 1 0, V.ptr 2 0, V.int IntKind.i64 (↑(cl l) : Int), V.int IntKind.i64 (IntKind.i64.wrap ((↑i.val.fst : Int) + 1))],
 [KO.cells [V.int IntKind.i64 0, V.any (Value.slice none 0 0), V.any (Value.slice none 0 0), V.any (Value.slice none 0 0)],
 KO.cells [V.int IntKind.i64 0, V.dat (D.sl 1 (ints IntKind.u8 (rText l_6 0 2048).fst)), V.int IntKind.i64 (rText l_6 0 2048).snd.snd, V.dat (D.sl 1 (ints IntKind.u8 (List.drop (rText l_6 0 2048).snd.fst l_6)))],
 KO.cells [V.int IntKind.i64 (kd l), V.sl 3 0 (cn l), V.dat (D.sl 1 (ints IntKind.u8 (bd l))), V.sl 4 0 (i.val.fst + 1)], KO.row 3 1 (ints IntKind.i64 (qn l (cn l)).snd),
 KO.row 23 1 (List.take i.val.fst (List.map bsl (qt l i.val.fst).snd) ++ [[D.sl 1 (ints IntKind.u8 (rText l_6 0 2048).fst)]])])) ∧
 (((qt l i.val.fst).fst.snd == 0) = false →
 ((((qt l i.val.fst).fst.snd != 0) = true → EqI (qt l i.val.fst).fst.snd (qt l i.val.fst).fst.snd ∧ K (V.tup [V.agg [V.int IntKind.i64 0, V.dat (D.sl 1 []), V.dat (D.sl 1 []), V.dat (D.sl 1 [])], V.int IntKind.i64 (qt l i.val.fst).fst.snd]) []) ∧
 (((qt l i.val.fst).fst.snd != 0) = false →
 At (rgC3 l)
 ([V.ptr 0 0, V.ptr 1 0, V.ptr 2 0],
 [KO.cells [V.int IntKind.i64 0, V.any (Value.slice none 0 0), V.any (Value.slice none 0 0), V.any (Value.slice none 0 0)],
 KO.cells [V.int IntKind.i64 i.val.snd.fst, V.dat (D.sl 1 (ints IntKind.u8 i.val.snd.snd)), V.int IntKind.i64 (qt l i.val.fst).fst.snd, V.dat (D.sl 1 (ints IntKind.u8 (List.drop (qt l i.val.fst).fst.fst l)))],
 KO.cells [V.int IntKind.i64 (kd l), V.sl 3 0 (cn l), V.dat (D.sl 1 (ints IntKind.u8 (bd l))), V.sl 4 0 i.val.fst], KO.row 3 1 (ints IntKind.i64 (qn l (cn l)).snd), KO.row 23 1 (List.map bsl (qt l i.val.fst).snd)]))) ∧
 ∀ (i : { p : Int × List Int // (pn l).snd = 0 ∧ (q3 l).snd = 0 ∧ (pt l).snd = 0 }),
 (decide ((↑(ints IntKind.u8 (List.drop (pt l).fst l)).length : Int) > 0) = true → K (V.tup [V.agg [V.int IntKind.i64 0, V.dat (D.sl 1 []), V.dat (D.sl 1 []), V.dat (D.sl 1 [])], V.int IntKind.i64 3]) []) ∧
 (decide ((↑(ints IntKind.u8 (List.drop (pt l).fst l)).length : Int) > 0) = false →
 ((cn l ≤ (ints IntKind.i64 (qn l (cn l)).snd).length ∧ True ∧ cl l ≤ (List.map bsl (qt l (cl l)).snd).length ∧ True) ∧ True) ∧
 ∃ (n : List Int),
 ∃ (b : List Int),
 ∃ (l_6 : List (List Int)),
 List.drop 0 (List.take (cn l) (ints IntKind.i64 (qn l (cn l)).snd)) = ints IntKind.i64 n ∧
 ints IntKind.u8 (bd l) = ints IntKind.u8 b ∧
 List.drop 0 (List.take (cl l) (List.map bsl (qt l (cl l)).snd)) = List.map bsl l_6 ∧
 LenI n b l_6 ∧
 ∀ (q : Bool),
 (q = true ↔ RightM (kd l) n b l_6) →
 True ∧
 ((!q) = true → K (V.tup [V.agg [V.int IntKind.i64 0, V.dat (D.sl 1 []), V.dat (D.sl 1 []), V.dat (D.sl 1 [])], V.int IntKind.i64 3]) []) ∧
 ((!q) = false →
 cn l ≤ (ints IntKind.i64 (qn l (cn l)).snd).length ∧
 cl l ≤ (List.map bsl (qt l (cl l)).snd).length ∧
 K (V.tup [V.agg [V.int IntKind.i64 (kd l), V.dat (D.sl 1 (List.drop 0 (List.take (cn l) (ints IntKind.i64 (qn l (cn l)).snd)))), V.dat (D.sl 1 (ints IntKind.u8 (bd l))), V.dat (D.sl 1 (List.drop 0 (List.take (cl l) (List.map bsl (qt l (cl l)).snd))))], V.int IntKind.i64 0])
 [])))) ∧
 (decide ((↑i.val.fst : Int) < (↑(cl l) : Int)) = false →
 ((((qt l i.val.fst).fst.snd != 0) = true → EqI (qt l i.val.fst).fst.snd (qt l i.val.fst).fst.snd ∧ K (V.tup [V.agg [V.int IntKind.i64 0, V.dat (D.sl 1 []), V.dat (D.sl 1 []), V.dat (D.sl 1 [])], V.int IntKind.i64 (qt l i.val.fst).fst.snd]) []) ∧
 (((qt l i.val.fst).fst.snd != 0) = false →
 At (rgC3 l)
 ([V.ptr 0 0, V.ptr 1 0, V.ptr 2 0],
 [KO.cells [V.int IntKind.i64 0, V.any (Value.slice none 0 0), V.any (Value.slice none 0 0), V.any (Value.slice none 0 0)],
 KO.cells [V.int IntKind.i64 i.val.snd.fst, V.dat (D.sl 1 (ints IntKind.u8 i.val.snd.snd)), V.int IntKind.i64 (qt l i.val.fst).fst.snd, V.dat (D.sl 1 (ints IntKind.u8 (List.drop (qt l i.val.fst).fst.fst l)))],
 KO.cells [V.int IntKind.i64 (kd l), V.sl 3 0 (cn l), V.dat (D.sl 1 (ints IntKind.u8 (bd l))), V.sl 4 0 i.val.fst], KO.row 3 1 (ints IntKind.i64 (qn l (cn l)).snd), KO.row 23 1 (List.map bsl (qt l i.val.fst).snd)]))) ∧
 ∀ (i : { p : Int × List Int // (pn l).snd = 0 ∧ (q3 l).snd = 0 ∧ (pt l).snd = 0 }),
 (decide ((↑(ints IntKind.u8 (List.drop (pt l).fst l)).length : Int) > 0) = true → K (V.tup [V.agg [V.int IntKind.i64 0, V.dat (D.sl 1 []), V.dat (D.sl 1 []), V.dat (D.sl 1 [])], V.int IntKind.i64 3]) []) ∧
 (decide ((↑(ints IntKind.u8 (List.drop (pt l).fst l)).length : Int) > 0) = false →
 ((cn l ≤ (ints IntKind.i64 (qn l (cn l)).snd).length ∧ True ∧ cl l ≤ (List.map bsl (qt l (cl l)).snd).length ∧ True) ∧ True) ∧
 ∃ (n : List Int),
 ∃ (b : List Int),
 ∃ (l_6 : List (List Int)),
 List.drop 0 (List.take (cn l) (ints IntKind.i64 (qn l (cn l)).snd)) = ints IntKind.i64 n ∧
 ints IntKind.u8 (bd l) = ints IntKind.u8 b ∧
 List.drop 0 (List.take (cl l) (List.map bsl (qt l (cl l)).snd)) = List.map bsl l_6 ∧
 LenI n b l_6 ∧
 ∀ (q : Bool),
 (q = true ↔ RightM (kd l) n b l_6) →
 True ∧
 ((!q) = true → K (V.tup [V.agg [V.int IntKind.i64 0, V.dat (D.sl 1 []), V.dat (D.sl 1 []), V.dat (D.sl 1 [])], V.int IntKind.i64 3]) []) ∧
 ((!q) = false →
 cn l ≤ (ints IntKind.i64 (qn l (cn l)).snd).length ∧
 cl l ≤ (List.map bsl (qt l (cl l)).snd).length ∧
 K (V.tup [V.agg [V.int IntKind.i64 (kd l), V.dat (D.sl 1 (List.drop 0 (List.take (cn l) (ints IntKind.i64 (qn l (cn l)).snd)))), V.dat (D.sl 1 (ints IntKind.u8 (bd l))), V.dat (D.sl 1 (List.drop 0 (List.take (cl l) (List.map bsl (qt l (cl l)).snd))))], V.int IntKind.i64 0])
 [])))))) ∧
 (decide ((↑i.val.fst : Int) < (↑(cn l) : Int)) = false →
 ((((qn l i.val.fst).fst.snd != 0) = true → EqI (qn l i.val.fst).fst.snd (qn l i.val.fst).fst.snd ∧ K (V.tup [V.agg [V.int IntKind.i64 0, V.dat (D.sl 1 []), V.dat (D.sl 1 []), V.dat (D.sl 1 [])], V.int IntKind.i64 (qn l i.val.fst).fst.snd]) []) ∧
 (((qn l i.val.fst).fst.snd != 0) = false →
 At (rgC2 l)
 ([V.ptr 0 0, V.ptr 1 0, V.ptr 2 0],
 [KO.cells [V.int IntKind.i64 0, V.any (Value.slice none 0 0), V.any (Value.slice none 0 0), V.any (Value.slice none 0 0)], KO.cells [V.int IntKind.i64 i.val.snd, V.dat (D.sl 1 []), V.int IntKind.i64 (qn l i.val.fst).fst.snd, V.dat (D.sl 1 (ints IntKind.u8 (List.drop (qn l i.val.fst).fst.fst l)))],
 KO.cells [V.int IntKind.i64 (kd l), V.sl 3 0 i.val.fst, V.any (Value.slice none 0 0), V.any (Value.slice none 0 0)], KO.row 3 1 (ints IntKind.i64 (qn l i.val.fst).snd)]))) ∧
 ∀ (i : { g : Int // (pn l).snd = 0 }),
 ∃ (l_4 : List Int),
 ints IntKind.u8 (List.drop (pn l).fst l) = ints IntKind.u8 l_4 ∧
 (∀ (c : Int), List.Mem c l_4 → 0 ≤ c ∧ c < 256) ∧
 l_4.length ≤ 10000000 ∧
 (((rText l_4 0 2048).snd.snd != 0) = true → EqI (rText l_4 0 2048).snd.snd (rText l_4 0 2048).snd.snd ∧ K (V.tup [V.agg [V.int IntKind.i64 0, V.dat (D.sl 1 []), V.dat (D.sl 1 []), V.dat (D.sl 1 [])], V.int IntKind.i64 (rText l_4 0 2048).snd.snd]) []) ∧
 (((rText l_4 0 2048).snd.snd != 0) = false →
 ∃ (l_5 : List Int),
 ints IntKind.u8 (List.drop (rText l_4 0 2048).snd.fst l_4) = ints IntKind.u8 l_5 ∧
 (∀ (c : Int), List.Mem c l_5 → 0 ≤ c ∧ c < 256) ∧
 l_5.length ≤ 10000000 ∧
 At (rg2LI l)
 ([V.ptr 0 0, V.ptr 1 0, V.ptr 2 0, V.int IntKind.i64 (rNum l_5 0 64).fst, V.int IntKind.i64 0],
 [KO.cells [V.int IntKind.i64 0, V.any (Value.slice none 0 0), V.any (Value.slice none 0 0), V.any (Value.slice none 0 0)], KO.cells [V.int IntKind.i64 (rNum l_5 0 64).fst, V.dat (D.sl 1 []), V.int IntKind.i64 (rNum l_5 0 64).snd.snd, V.dat (D.sl 1 (ints IntKind.u8 (List.drop (rNum l_5 0 64).snd.fst l_5)))],
 KO.cells [V.int IntKind.i64 (kd l), V.sl 3 0 (cn l), V.dat (D.sl 1 (ints IntKind.u8 (rText l_4 0 2048).fst)), V.sl 4 0 0], KO.row 3 1 (ints IntKind.i64 (qn l (cn l)).snd), KO.row 23 1 []]) ∧
 ∀ (i : { p : Nat × Int × List Int // p.fst ≤ cl l ∧ (qt l p.fst).fst.fst ≤ l.length ∧ (pn l).snd = 0 ∧ (q3 l).snd = 0 }),
 (decide ((↑i.val.fst : Int) < (↑(cl l) : Int)) = true →
 (((qt l i.val.fst).fst.snd == 0) = true →
 ∃ (l_6 : List Int),
 ints IntKind.u8 (List.drop (qt l i.val.fst).fst.fst l) = ints IntKind.u8 l_6 ∧
 (∀ (c : Int), List.Mem c l_6 → 0 ≤ c ∧ c < 256) ∧
 l_6.length ≤ 10000000 ∧
 1 ≤ 1 ∧
 i.val.fst ≤ (List.map bsl (qt l i.val.fst).snd).length ∧
 (i.val.fst + 1) * 24 ≤ 140737488355328 ∧
 Nx (rg2LI l) i
 ([V.ptr 0 0, V.ptr 1 0, V.ptr 2 0, V.int IntKind.i64 (↑(cl l) : Int), V.int IntKind.i64 (IntKind.i64.wrap ((↑i.val.fst : Int) + 1))],
 [KO.cells [V.int IntKind.i64 0, V.any (Value.slice none 0 0), V.any (Value.slice none 0 0), V.any (Value.slice none 0 0)],
 KO.cells [V.int IntKind.i64 0, V.dat (D.sl 1 (ints IntKind.u8 (rText l_6 0 2048).fst)), V.int IntKind.i64 (rText l_6 0 2048).snd.snd, V.dat (D.sl 1 (ints IntKind.u8 (List.drop (rText l_6 0 2048).snd.fst l_6)))],
 KO.cells [V.int IntKind.i64 (kd l), V.sl 3 0 (cn l), V.dat (D.sl 1 (ints IntKind.u8 (bd l))), V.sl 4 0 (i.val.fst + 1)], KO.row 3 1 (ints IntKind.i64 (qn l (cn l)).snd),
 KO.row 23 1 (List.take i.val.fst (List.map bsl (qt l i.val.fst).snd) ++ [[D.sl 1 (ints IntKind.u8 (rText l_6 0 2048).fst)]])])) ∧
 (((qt l i.val.fst).fst.snd == 0) = false →
 ((((qt l i.val.fst).fst.snd != 0) = true → EqI (qt l i.val.fst).fst.snd (qt l i.val.fst).fst.snd ∧ K (V.tup [V.agg [V.int IntKind.i64 0, V.dat (D.sl 1 []), V.dat (D.sl 1 []), V.dat (D.sl 1 [])], V.int IntKind.i64 (qt l i.val.fst).fst.snd]) []) ∧
 (((qt l i.val.fst).fst.snd != 0) = false →
 At (rgC3 l)
 ([V.ptr 0 0, V.ptr 1 0, V.ptr 2 0],
 [KO.cells [V.int IntKind.i64 0, V.any (Value.slice none 0 0), V.any (Value.slice none 0 0), V.any (Value.slice none 0 0)],
 KO.cells [V.int IntKind.i64 i.val.snd.fst, V.dat (D.sl 1 (ints IntKind.u8 i.val.snd.snd)), V.int IntKind.i64 (qt l i.val.fst).fst.snd, V.dat (D.sl 1 (ints IntKind.u8 (List.drop (qt l i.val.fst).fst.fst l)))],
 KO.cells [V.int IntKind.i64 (kd l), V.sl 3 0 (cn l), V.dat (D.sl 1 (ints IntKind.u8 (bd l))), V.sl 4 0 i.val.fst], KO.row 3 1 (ints IntKind.i64 (qn l (cn l)).snd), KO.row 23 1 (List.map bsl (qt l i.val.fst).snd)]))) ∧
 ∀ (i : { p : Int × List Int // (pn l).snd = 0 ∧ (q3 l).snd = 0 ∧ (pt l).snd = 0 }),
 (decide ((↑(ints IntKind.u8 (List.drop (pt l).fst l)).length : Int) > 0) = true → K (V.tup [V.agg [V.int IntKind.i64 0, V.dat (D.sl 1 []), V.dat (D.sl 1 []), V.dat (D.sl 1 [])], V.int IntKind.i64 3]) []) ∧
 (decide ((↑(ints IntKind.u8 (List.drop (pt l).fst l)).length : Int) > 0) = false →
 ((cn l ≤ (ints IntKind.i64 (qn l (cn l)).snd).length ∧ True ∧ cl l ≤ (List.map bsl (qt l (cl l)).snd).length ∧ True) ∧ True) ∧
 ∃ (n : List Int),
 ∃ (b : List Int),
 ∃ (l_6 : List (List Int)),
 List.drop 0 (List.take (cn l) (ints IntKind.i64 (qn l (cn l)).snd)) = ints IntKind.i64 n ∧
 ints IntKind.u8 (bd l) = ints IntKind.u8 b ∧
 List.drop 0 (List.take (cl l) (List.map bsl (qt l (cl l)).snd)) = List.map bsl l_6 ∧
 LenI n b l_6 ∧
 ∀ (q : Bool),
 (q = true ↔ RightM (kd l) n b l_6) →
 True ∧
 ((!q) = true → K (V.tup [V.agg [V.int IntKind.i64 0, V.dat (D.sl 1 []), V.dat (D.sl 1 []), V.dat (D.sl 1 [])], V.int IntKind.i64 3]) []) ∧
 ((!q) = false →
 cn l ≤ (ints IntKind.i64 (qn l (cn l)).snd).length ∧
 cl l ≤ (List.map bsl (qt l (cl l)).snd).length ∧
 K (V.tup [V.agg [V.int IntKind.i64 (kd l), V.dat (D.sl 1 (List.drop 0 (List.take (cn l) (ints IntKind.i64 (qn l (cn l)).snd)))), V.dat (D.sl 1 (ints IntKind.u8 (bd l))), V.dat (D.sl 1 (List.drop 0 (List.take (cl l) (List.map bsl (qt l (cl l)).snd))))], V.int IntKind.i64 0])
 [])))) ∧
 (decide ((↑i.val.fst : Int) < (↑(cl l) : Int)) = false →
 ((((qt l i.val.fst).fst.snd != 0) = true → EqI (qt l i.val.fst).fst.snd (qt l i.val.fst).fst.snd ∧ K (V.tup [V.agg [V.int IntKind.i64 0, V.dat (D.sl 1 []), V.dat (D.sl 1 []), V.dat (D.sl 1 [])], V.int IntKind.i64 (qt l i.val.fst).fst.snd]) []) ∧
 (((qt l i.val.fst).fst.snd != 0) = false →
 At (rgC3 l)
 ([V.ptr 0 0, V.ptr 1 0, V.ptr 2 0],
 [KO.cells [V.int IntKind.i64 0, V.any (Value.slice none 0 0), V.any (Value.slice none 0 0), V.any (Value.slice none 0 0)],
 KO.cells [V.int IntKind.i64 i.val.snd.fst, V.dat (D.sl 1 (ints IntKind.u8 i.val.snd.snd)), V.int IntKind.i64 (qt l i.val.fst).fst.snd, V.dat (D.sl 1 (ints IntKind.u8 (List.drop (qt l i.val.fst).fst.fst l)))],
 KO.cells [V.int IntKind.i64 (kd l), V.sl 3 0 (cn l), V.dat (D.sl 1 (ints IntKind.u8 (bd l))), V.sl 4 0 i.val.fst], KO.row 3 1 (ints IntKind.i64 (qn l (cn l)).snd), KO.row 23 1 (List.map bsl (qt l i.val.fst).snd)]))) ∧
 ∀ (i : { p : Int × List Int // (pn l).snd = 0 ∧ (q3 l).snd = 0 ∧ (pt l).snd = 0 }),
 (decide ((↑(ints IntKind.u8 (List.drop (pt l).fst l)).length : Int) > 0) = true → K (V.tup [V.agg [V.int IntKind.i64 0, V.dat (D.sl 1 []), V.dat (D.sl 1 []), V.dat (D.sl 1 [])], V.int IntKind.i64 3]) []) ∧
 (decide ((↑(ints IntKind.u8 (List.drop (pt l).fst l)).length : Int) > 0) = false →
 ((cn l ≤ (ints IntKind.i64 (qn l (cn l)).snd).length ∧ True ∧ cl l ≤ (List.map bsl (qt l (cl l)).snd).length ∧ True) ∧ True) ∧
 ∃ (n : List Int),
 ∃ (b : List Int),
 ∃ (l_6 : List (List Int)),
 List.drop 0 (List.take (cn l) (ints IntKind.i64 (qn l (cn l)).snd)) = ints IntKind.i64 n ∧
 ints IntKind.u8 (bd l) = ints IntKind.u8 b ∧
 List.drop 0 (List.take (cl l) (List.map bsl (qt l (cl l)).snd)) = List.map bsl l_6 ∧
 LenI n b l_6 ∧
 ∀ (q : Bool),
 (q = true ↔ RightM (kd l) n b l_6) →
 True ∧
 ((!q) = true → K (V.tup [V.agg [V.int IntKind.i64 0, V.dat (D.sl 1 []), V.dat (D.sl 1 []), V.dat (D.sl 1 [])], V.int IntKind.i64 3]) []) ∧
 ((!q) = false →
 cn l ≤ (ints IntKind.i64 (qn l (cn l)).snd).length ∧
 cl l ≤ (List.map bsl (qt l (cl l)).snd).length ∧
 K (V.tup [V.agg [V.int IntKind.i64 (kd l), V.dat (D.sl 1 (List.drop 0 (List.take (cn l) (ints IntKind.i64 (qn l (cn l)).snd)))), V.dat (D.sl 1 (ints IntKind.u8 (bd l))), V.dat (D.sl 1 (List.drop 0 (List.take (cl l) (List.map bsl (qt l (cl l)).snd))))], V.int IntKind.i64 0]) []))))))
 ) : runSpec Try.prog XFr (frT b l 17) 17 [.dat (.sl 1 (ints .u8 b))] [] (frzRes [.num, .sl 1, .sl 1, .sl 1] (tidyRes 0 K)) := Eq.mp (by kernel_rfl) hvc_
theorem rNum_most {l : List Int} {most : Int} (h0 : 0 ≤ most) (e : Int) : (rNum l e most).1 ≤ most ∧ 0 ≤ (rNum l e most).1 := by
  unfold rNum
  split
  · split
    · split
      · exact ⟨h0, Int.le_refl _⟩
      · exact ⟨by simp only; omega, by simp only; omega⟩
    · exact ⟨h0, Int.le_refl _⟩
    · exact ⟨h0, Int.le_refl _⟩
  · exact ⟨h0, Int.le_refl _⟩
theorem rNum_e {l : List Int} {e most : Int} (h : e ≠ 0) : rNum l e most = (0, 0, e) := by unfold rNum; rw [if_neg h]
theorem rText_e {l : List Int} {e most : Int} (h : e ≠ 0) : rText l e most = ([], 0, e) := by
  unfold rText
  rw [rNum_e h]
  simp only
  rw [if_neg h]
theorem rText_b {l : List Int} (hb : Byt l) (e most : Int) : (rText l e most).1.length ≤ l.length ∧ (rText l e most).2.1 ≤ l.length := by
  have h1 := (rNum_val hb e most).2.2
  unfold rText
  split
  · split
    · exact ⟨Nat.zero_le _, h1⟩
    · rename_i h2
      simp only [List.length_take, List.length_drop] at h2 ⊢
      omega
  · exact ⟨Nat.zero_le _, h1⟩
theorem numSt_b {l : List Int} (hb : Byt l) {p : Nat × Int} (h : p.1 ≤ l.length) (m : Int) : (numSt l p m).1 ≤ l.length := by
  have := (rNum_val (byt_drop hb p.1) p.2 m).2.2
  rw [List.length_drop] at this
  unfold numSt; simp only; omega
theorem texSt_b {l : List Int} (hb : Byt l) {p : Nat × Int} (h : p.1 ≤ l.length) (m : Int) : (texSt l p m).1 ≤ l.length := by
  have := (rText_b (byt_drop hb p.1) p.2 m).2
  rw [List.length_drop] at this
  unfold texSt; simp only; omega
theorem texAt_b {l : List Int} (hb : Byt l) (p : Nat × Int) (m : Int) : (texAt l p m).length ≤ l.length := by
  have := (rText_b (byt_drop hb p.1) p.2 m).1
  rw [List.length_drop] at this
  unfold texAt; omega
theorem nIt_b {l : List Int} (hb : Byt l) {p : Nat × Int} (h : p.1 ≤ l.length) : ∀ i, (nIt l p i).1.1 ≤ l.length ∧ (nIt l p i).2.length = i
  | 0 => ⟨h, rfl⟩
  | i + 1 => by
    obtain ⟨h1, h2⟩ := nIt_b hb h i
    exact ⟨numSt_b hb h1 _, by simp only [nIt, List.length_append, List.length_singleton, h2]⟩
theorem tIt_b {l : List Int} (hb : Byt l) {p : Nat × Int} (h : p.1 ≤ l.length) : ∀ i, (tIt l p i).1.1 ≤ l.length ∧ (tIt l p i).2.length = i ∧ ∀ t ∈ (tIt l p i).2, t.length ≤ l.length
  | 0 => ⟨h, rfl, fun t ht => by cases ht⟩
  | i + 1 => by
    obtain ⟨h1, h2, h3⟩ := tIt_b hb h i
    refine ⟨texSt_b hb h1 _, by simp only [tIt, List.length_append, List.length_singleton, h2], fun t ht => ?_⟩
    simp only [tIt, List.mem_append, List.mem_singleton] at ht
    rcases ht with ht | rfl
    · exact h3 t ht
    · exact texAt_b hb _ _
theorem q1_b {l : List Int} (hb : Byt l) : (q1 l).1 ≤ l.length := numSt_b hb (Nat.zero_le _) _
theorem q2_b {l : List Int} (hb : Byt l) : (q2 l).1 ≤ l.length := numSt_b hb (q1_b hb) _
theorem qn_b {l : List Int} (hb : Byt l) (i : Nat) : (qn l i).1.1 ≤ l.length ∧ (qn l i).2.length = i := nIt_b hb (q2_b hb) i
theorem q3_b {l : List Int} (hb : Byt l) : (q3 l).1 ≤ l.length := texSt_b hb (qn_b hb _).1 _
theorem q4_b {l : List Int} (hb : Byt l) : (q4 l).1 ≤ l.length := numSt_b hb (q3_b hb) _
theorem qt_b {l : List Int} (hb : Byt l) (i : Nat) : (qt l i).1.1 ≤ l.length ∧ (qt l i).2.length = i ∧ ∀ t ∈ (qt l i).2, t.length ≤ l.length := tIt_b hb (q4_b hb) i
theorem cn_i {l : List Int} : numAt l (q1 l) 16 = (cn l : Int) ∧ cn l ≤ 16 := by
  have := rNum_most (l := l.drop (q1 l).1) (most := 16) (by omega) (q1 l).2
  unfold cn numAt; omega
theorem cl_i {l : List Int} : numAt l (q3 l) 64 = (cl l : Int) ∧ cl l ≤ 64 := by
  have := rNum_most (l := l.drop (q3 l).1) (most := 64) (by omega) (q3 l).2
  unfold cl numAt; omega
theorem num_sk {l : List Int} {p : Nat × Int} {m : Int} (h : p.2 ≠ 0) : (numSt l p m).2 = p.2 := by unfold numSt; rw [rNum_e h]
theorem tex_sk {l : List Int} {p : Nat × Int} {m : Int} (h : p.2 ≠ 0) : (texSt l p m).2 = p.2 := by unfold texSt; rw [rText_e h]
theorem nIt_sk {l : List Int} {p : Nat × Int} {i : Nat} (h : (nIt l p i).1.2 ≠ 0) : ∀ d, (nIt l p (i + d)).1.2 = (nIt l p i).1.2
  | 0 => rfl
  | d + 1 => by
    have ih := nIt_sk h d
    show (numSt l (nIt l p (i + d)).1 _).2 = _
    rw [num_sk (by rw [ih]; exact h), ih]
theorem tIt_sk {l : List Int} {p : Nat × Int} {i : Nat} (h : (tIt l p i).1.2 ≠ 0) : ∀ d, (tIt l p (i + d)).1.2 = (tIt l p i).1.2
  | 0 => rfl
  | d + 1 => by
    have ih := tIt_sk h d
    show (texSt l (tIt l p (i + d)).1 _).2 = _
    rw [tex_sk (by rw [ih]; exact h), ih]
theorem rEnd_e {l : List Int} {e : Int} (h : e ≠ 0) : rEnd l e = e := by unfold rEnd; rw [if_neg (fun w => h w.2)]
theorem fin_pt {l : List Int} (h : (pt l).2 ≠ 0) : fin l = (pt l).2 := rEnd_e h
theorem fin_qt {l : List Int} {i : Nat} (hi : i ≤ cl l) (h : (qt l i).1.2 ≠ 0) : fin l = (qt l i).1.2 := by
  have := tIt_sk h (cl l - i)
  have e : i + (cl l - i) = cl l := by omega
  rw [e] at this
  rw [fin_pt (by show (tIt l (q4 l) (cl l)).1.2 ≠ 0; rw [this]; exact h)]
  exact this
theorem fin_q3 {l : List Int} (h : (q3 l).2 ≠ 0) : fin l = (q3 l).2 := by
  have h4 : (q4 l).2 = (q3 l).2 := num_sk h
  rw [fin_qt (i := 0) (Nat.zero_le _) (by show (q4 l).2 ≠ 0; rw [h4]; exact h)]
  exact h4
theorem fin_pn {l : List Int} (h : (pn l).2 ≠ 0) : fin l = (pn l).2 := by
  have h4 : (q3 l).2 = (pn l).2 := tex_sk h
  rw [fin_q3 (by rw [h4]; exact h), h4]
theorem fin_qn {l : List Int} {i : Nat} (hi : i ≤ cn l) (h : (qn l i).1.2 ≠ 0) : fin l = (qn l i).1.2 := by
  have := nIt_sk h (cn l - i)
  have e : i + (cn l - i) = cn l := by omega
  rw [e] at this
  rw [fin_pn (by show (nIt l (q2 l) (cn l)).1.2 ≠ 0; rw [this]; exact h)]
  exact this
theorem fin_q1 {l : List Int} (h : (q1 l).2 ≠ 0) : fin l = (q1 l).2 := by
  have h4 : (q2 l).2 = (q1 l).2 := num_sk h
  rw [fin_qn (i := 0) (Nat.zero_le _) (by show (q2 l).2 ≠ 0; rw [h4]; exact h)]
  exact h4
theorem rd_none {b : List Int} (h : openI b = none) : rdR b = rd0 4 := by unfold rdR; rw [h]
theorem rd_fin {b l : List Int} (h : openI b = some l) (hf : fin l ≠ 0) : rdR b = rd0 (fin l) := by unfold rdR; rw [h]; simp only; rw [if_pos hf]
theorem rd_ok {b l : List Int} (h : openI b = some l) (hf : fin l = 0) (hr : RightO l) : rdR b = ⟨0, kd l, (qn l (cn l)).2, bd l, (qt l (cl l)).2⟩ := by
  unfold rdR; rw [h]; simp only; rw [if_neg (by simp [hf]), if_pos hr]
theorem rd_no {b l : List Int} (h : openI b = some l) (hf : fin l = 0) (hr : ¬ RightO l) : rdR b = rd0 3 := by
  unfold rdR; rw [h]; simp only; rw [if_neg (by simp [hf]), if_neg hr]
theorem open_byt {b l : List Int} (h : openI b = some l) (hb : Byt b) : Byt l ∧ l.length ≤ b.length := by
  have := openI_some h
  subst this
  exact ⟨fun c hc => hb c (List.mem_append_left _ hc), by rw [sealI_len]; omega⟩
theorem frS_ok : AllOk Try.prog frS := fun f k h => by
  unfold frS at h
  split at h
  · cases h; exact okCheck
  · cases h; exact okRightM
  · cases h; exact okOpen
  · cases h; exact okROpen
  · exact pxS_ok _ _ h
theorem XFr_ok : CallOk Try.prog XFr := callS_ok mixed frS_ok noT 10
theorem four1 {α : Type} {A B C D E X : α → Prop} (q : ∃ l, A l ∧ B l ∧ C l ∧ D l ∧ E l ∧ X l) : (∃ l, A l ∧ B l ∧ C l ∧ D l ∧ E l ∧ X l) ∧ (∃ l, A l ∧ B l ∧ C l ∧ D l ∧ E l ∧ X l) ∧ ∃ l, A l ∧ B l ∧ C l ∧ D l ∧ E l ∧ X l ∧ X l :=
  ⟨q, q, q.imp fun _ h => ⟨h.1, h.2.1, h.2.2.1, h.2.2.2.1, h.2.2.2.2.1, h.2.2.2.2.2, h.2.2.2.2.2⟩⟩
theorem takeA {k : IntKind} {o : List Int} {n : Nat} (h : n = o.length) : List.drop 0 (List.take n (ints k o)) = ints k o := by
  subst h
  rw [List.drop_zero, ints_take, List.take_length]
theorem takeB {o : List (List Int)} {n : Nat} (h : n = o.length) : List.drop 0 (List.take n (o.map bsl)) = o.map bsl := by
  subst h
  rw [List.drop_zero, ← List.map_take, List.take_length]
theorem lenI_rd {l : List Int} (hb : Byt l) (hl : l.length ≤ 900000) : LenI (qn l (cn l)).2 (bd l) (qt l (cl l)).2 := by
  have h1 := (qn_b hb (cn l)).2
  have h2 := texAt_b hb (pn l) 2048
  have h3 := qt_b hb (cl l)
  have h4 := (cn_i (l := l)).2
  have h5 := (cl_i (l := l)).2
  have h6 : (bd l).length ≤ l.length := h2
  refine ⟨?_, ?_, ?_, fun t ht => ?_⟩ <;> simp only [maxLen]
  · omega
  · omega
  · omega
  · have := h3.2.2 t ht; omega
theorem okReadF : SpecOk Try.prog 13 SreadM := specOk_frz XFr_ok mixed [.num, .sl 1, .sl 1, .sl 1] (fun args kb K h => by
  unfold SreadM at h; split at h <;> try exact h.elim
  obtain ⟨b, rfl, hb, hl, h⟩ := h
  cases ho : openI b with
  | none =>
    rw [rd_none ho] at h
    refine ⟨frT b [] 13, vcFRead b [] K ((fun t => ⟨b, rfl, hb, by omega, fun _ => ⟨⟨fun _ => h, fun f => (by cases f)⟩, t⟩, fun m hm => absurd hm (by rw [ho]; simp)⟩) ?_)⟩
    rintro ⟨_, hq⟩
    rw [ho] at hq; cases hq
  | some l =>
    obtain ⟨hlb, hll⟩ := open_byt ho hb
    refine ⟨frT b l 13, vcFRead b l K ((fun t => ⟨b, rfl, hb, by omega, fun hn => (by rw [ho] at hn; cases hn), fun m hm => ⟨fun hm0 => ⟨⟨fun f => (by cases f), fun _ => ?_⟩, t⟩, ⟨⟨fun f => (by cases f), fun _ => ?_⟩, t⟩⟩⟩) ?_)⟩
    rotate_left
    · rw [ho, Option.some.injEq] at hm
      subst hm
      subst hm0
      exact At.mk' ⟨0, ho⟩ rfl
    · rw [ho, Option.some.injEq] at hm
      subst hm
      exact At.mk' ⟨0, ho⟩ rfl
    rintro ⟨_, _⟩
    have e0 : List.drop 0 (List.take l.length (ints .u8 l)) = ints .u8 l := takeA rfl
    rw [e0]
    obtain ⟨c1, c2⟩ := cn_i (l := l)
    obtain ⟨d1, d2⟩ := cl_i (l := l)
    refine ⟨⟨by rw [ints_len]; exact Nat.le_refl _, trivial⟩, by rw [ints_len]; omega, ⟨plain_ints⟩, l, rfl, ints_len, Nat.zero_le _, hlb, by omega, l, rfl, rfl, q1_b hlb, hlb, by omega, ?_, ?_⟩
    · have e1 : (rNum (List.drop (0 + (rNum (List.drop 0 l) 0 40).2.1) l) (rNum (List.drop 0 l) 0 40).2.2 16).1 = (cn l : Int) := c1
      rw [e1]
      exact At.mk' ⟨0, Nat.zero_le _, (qn_b hlb 0).1⟩ rfl
    rintro ⟨i, hi, hil⟩
    dsimp only at hil ⊢
    have hq := qn_b hlb i
    have e1 : IntKind.i64.wrap ((i : Int) + 1) = ((i + 1 : Nat) : Int) := by rw [w64 (by omega) (by omega)]; rfl
    simp only [decide_eq_true_eq, decide_eq_false_iff_not]
    refine ⟨fun hc => four1 ⟨l, rfl, rfl, hil, hlb, by omega, Nat.le_refl _, by rw [ints_len]; omega, by omega, ?_⟩, fun hc => ?_⟩
    · refine Nx.mk' (⟨i + 1, by omega, (qn_b hlb (i + 1)).1⟩ : {i : Nat // i ≤ cn l ∧ (qn l i).1.1 ≤ l.length}) ?_ (by show cn l - (i + 1) < cn l - i; omega)
      show (_ : List V × KB) = _
      have e2 : List.take i (ints .i64 (qn l i).2) = ints .i64 (qn l i).2 := List.take_of_length_le (by rw [ints_len]; omega)
      have e3 : ints .i64 (qn l i).2 ++ [[D.val (.int .i64 (rNum (l.drop (qn l i).1.1) (qn l i).1.2 4611686018427387904).1)]] = ints .i64 (qn l (i + 1)).2 := by
        show _ = ints .i64 ((qn l i).2 ++ [_])
        rw [ints_app]; rfl
      rw [e1, e2, e3]
      rfl
    have : i = cn l := by omega
    subst this
    refine ⟨l, rfl, rfl, hil, hlb, by omega, l, rfl, rfl, q3_b hlb, hlb, by omega, ?_, ?_⟩
    · have e2 : (rNum (List.drop ((qn l (cn l)).1.1 + (rText (List.drop (qn l (cn l)).1.1 l) (qn l (cn l)).1.2 2048).2.1) l) (rText (List.drop (qn l (cn l)).1.1 l) (qn l (cn l)).1.2 2048).2.2 64).1 = (cl l : Int) := d1
      rw [e2]
      exact At.mk' ⟨0, Nat.zero_le _, (qt_b hlb 0).1⟩ rfl
    rintro ⟨j, hj, hjl⟩
    dsimp only at hjl ⊢
    have hqj := qt_b hlb j
    have e1 : IntKind.i64.wrap ((j : Int) + 1) = ((j + 1 : Nat) : Int) := by rw [w64 (by omega) (by omega)]; rfl
    try simp only [decide_eq_true_eq, decide_eq_false_iff_not]
    refine ⟨fun hc => four1 ⟨l, rfl, rfl, hjl, hlb, by omega, by rw [ints_len]; exact Nat.le_refl _, Nat.le_refl _, by rw [lnM]; omega, by omega, ?_⟩, fun hc => ?_⟩
    · refine Nx.mk' (⟨j + 1, by omega, (qt_b hlb (j + 1)).1⟩ : {i : Nat // i ≤ cl l ∧ (qt l i).1.1 ≤ l.length}) ?_ (by show cl l - (j + 1) < cl l - j; omega)
      show (_ : List V × KB) = _
      have e2 : List.take j ((qt l j).2.map bsl) = (qt l j).2.map bsl := List.take_of_length_le (by rw [lnM]; omega)
      have e3 : (qt l j).2.map bsl ++ [[D.sl 1 (List.drop 0 (List.take (rText (l.drop (qt l j).1.1) (qt l j).1.2 2048).1.length (ints .u8 (rText (l.drop (qt l j).1.1) (qt l j).1.2 2048).1)))]] = (qt l (j + 1)).2.map bsl := by
        rw [takeA rfl]
        show _ = ((qt l j).2 ++ [_]).map bsl
        rw [List.map_append]; rfl
      rw [e1, e2, e3]
      rfl
    have : j = cl l := by omega
    subst this
    refine ⟨l, rfl, rfl, fun h1 => ?_, fun h1 => ?_⟩
    · have hf : fin l ≠ 0 := by
        have h2 : rEnd (List.drop (qt l (cl l)).1.1 l) (qt l (cl l)).1.2 ≠ 0 := by simpa using h1
        exact h2
      rw [rd_fin ho hf] at h
      exact h
    · have hf : fin l = 0 := by
        have h2 : rEnd (List.drop (qt l (cl l)).1.1 l) (qt l (cl l)).1.2 = 0 := by simpa using h1
        exact h2
      have f1 : List.drop 0 (List.take (cn l) (ints .i64 (qn l (cn l)).2)) = ints .i64 (qn l (cn l)).2 := takeA hq.2.symm
      have f2 : List.drop 0 (List.take (bd l).length (ints .u8 (bd l))) = ints .u8 (bd l) := takeA rfl
      have f3 : List.drop 0 (List.take (cl l) ((qt l (cl l)).2.map bsl)) = (qt l (cl l)).2.map bsl := takeB hqj.2.1.symm
      have g1 : cn l ≤ (ints .i64 (qn l (cn l)).2).length := by rw [ints_len]; omega
      have g2 : (bd l).length ≤ (ints .u8 (bd l)).length := by rw [ints_len]; omega
      have g3 : cl l ≤ ((qt l (cl l)).2.map bsl).length := by rw [lnM]; omega
      rw [f1, f2, f3]
      refine ⟨⟨⟨g1, g2, g3, trivial⟩, trivial⟩, _, _, _, rfl, rfl, rfl, lenI_rd hlb (by omega), fun hr => ⟨trivial, fun f => (by cases f), fun _ => ⟨g1, g2, g3, ?_⟩⟩, fun hr => ⟨trivial, fun _ => ?_, fun f => (by cases f)⟩⟩
      · rw [rd_ok ho hf hr] at h; exact h
      · rw [rd_no ho hf hr] at h; exact h)
theorem stN {l : List Int} {p : Nat × Int} {m : Int} (h : p.2 = 0) : (rNum (l.drop p.1) 0 m).1 = numAt l p m ∧ (rNum (l.drop p.1) 0 m).2.2 = (numSt l p m).2 ∧ (l.drop p.1).drop (rNum (l.drop p.1) 0 m).2.1 = l.drop (numSt l p m).1 := by
  unfold numAt numSt
  rw [h, List.drop_drop]
  exact ⟨rfl, rfl, rfl⟩
theorem stT {l : List Int} {p : Nat × Int} {m : Int} (h : p.2 = 0) : (rText (l.drop p.1) 0 m).1 = texAt l p m ∧ (rText (l.drop p.1) 0 m).2.2 = (texSt l p m).2 ∧ (l.drop p.1).drop (rText (l.drop p.1) 0 m).2.1 = l.drop (texSt l p m).1 := by
  unfold texAt texSt
  rw [h, List.drop_drop]
  exact ⟨rfl, rfl, rfl⟩
theorem okReadR : SpecOk Try.prog 17 SreadM := specOk_frz XFr_ok mixed [.num, .sl 1, .sl 1, .sl 1] (fun args kb K h => by
  unfold SreadM at h; split at h <;> try exact h.elim
  obtain ⟨b, rfl, hb, hl, h⟩ := h
  cases ho : openI b with
  | none =>
    rw [rd_none ho] at h
    refine ⟨frT b [] 17, vcGRead b [] K ((fun t => ⟨b, rfl, hb, by omega, fun _ => ⟨⟨fun _ => h, fun f => (by cases f)⟩, t⟩, fun m hm => absurd hm (by rw [ho]; simp)⟩) ?_)⟩
    rintro ⟨_, hq⟩
    rw [ho] at hq; cases hq
  | some l =>
    obtain ⟨hlb, hll⟩ := open_byt ho hb
    refine ⟨frT b l 17, vcGRead b l K ((fun t => ⟨b, rfl, hb, by omega, fun hn => (by rw [ho] at hn; cases hn), fun m hm => ⟨⟨fun f => (by cases f), fun _ => ?_⟩, t⟩⟩) ?_)⟩
    rotate_left
    · rw [ho, Option.some.injEq] at hm
      subst hm
      exact At.mk' ⟨0, ho⟩ rfl
    have kf : fin l ≠ 0 → K (.tup [.agg [.int .i64 0, .dat (.sl 1 []), .dat (.sl 1 []), .dat (.sl 1 [])], .int .i64 (fin l)]) [] := fun hf => by
      rw [rd_fin ho hf] at h; exact h
    rintro ⟨_, _⟩
    obtain ⟨c1, c2⟩ := cn_i (l := l)
    obtain ⟨d1, d2⟩ := cl_i (l := l)
    have n1 := stN (l := l) (p := (0, 0)) (m := 40) rfl
    refine ⟨l, rfl, hlb, by omega, fun h1 => ⟨⟨rfl⟩, ?_⟩, fun h1 => ?_⟩
    · have he : (q1 l).2 ≠ 0 := by
        have h2 : (rNum l 0 40).2.2 ≠ 0 := by simpa using h1
        exact h2
      have := kf (by rw [fin_q1 he]; exact he)
      rw [fin_q1 he] at this
      exact this
    have he1 : (q1 l).2 = 0 := by
      have h2 : (rNum l 0 40).2.2 = 0 := by simpa using h1
      exact h2
    have n2 := stN (l := l) (p := q1 l) (m := 16) he1
    have x1 : List.drop (rNum l 0 40).2.1 l = l.drop (q1 l).1 := n1.2.2
    rw [x1]
    refine ⟨l.drop (q1 l).1, rfl, byt_drop hlb _, by rw [List.length_drop]; omega, ?_, ?_⟩
    · rw [n2.1, n2.2.1, n2.2.2, c1]
      exact At.mk' ⟨(0, _), Nat.zero_le _, (qn_b hlb 0).1⟩ rfl
    have xE : ∀ (i : Nat) (g : Int), i ≤ cn l → (i = cn l ∨ (qn l i).1.2 ≠ 0) → (((qn l i).1.2 != 0) = true → EqI (qn l i).1.2 (qn l i).1.2 ∧ K (.tup [.agg [.int .i64 0, .dat (.sl 1 []), .dat (.sl 1 []), .dat (.sl 1 [])], .int .i64 (qn l i).1.2]) []) ∧
        (((qn l i).1.2 != 0) = false → At (rgC2 l) ([.ptr 0 0, .ptr 1 0, .ptr 2 0], [.cells zMsg, .cells [.int .i64 g, .dat (.sl 1 []), .int .i64 (qn l i).1.2, .dat (.sl 1 (ints .u8 (l.drop (qn l i).1.1)))], .cells [.int .i64 (kd l), .sl 3 0 i, .any (.slice none 0 0), .any (.slice none 0 0)], .row 3 1 (ints .i64 (qn l i).2)])) := fun i g hi hx => by
      refine ⟨fun h2 => ⟨⟨rfl⟩, ?_⟩, fun h2 => ?_⟩
      · have he : (qn l i).1.2 ≠ 0 := by simpa using h2
        have := kf (by rw [fin_qn hi he]; exact he)
        rw [fin_qn hi he] at this
        exact this
      · have he : (qn l i).1.2 = 0 := by simpa using h2
        rcases hx with hx | hx
        · subst hx
          rw [he]
          exact At.mk' ⟨g, he⟩ rfl
        · exact absurd he hx
    rintro ⟨⟨i, g⟩, hi, hil⟩
    dsimp only at hi hil ⊢
    have hq := qn_b hlb i
    have e1 : i < cn l → IntKind.i64.wrap ((i : Int) + 1) = ((i + 1 : Nat) : Int) := fun _ => by rw [w64 (by omega) (by omega)]; rfl
    simp only [decide_eq_true_eq, decide_eq_false_iff_not, beq_iff_eq, beq_eq_false_iff_ne]
    refine (fun t => ⟨fun hc => ⟨fun h2 => ⟨l.drop (qn l i).1.1, rfl, byt_drop hlb _, by rw [List.length_drop]; omega, Nat.le_refl _, by rw [ints_len]; omega, by omega, ?_⟩, fun h2 => ⟨xE i g hi (.inr h2), t⟩⟩, fun hc => ⟨xE i g hi (.inl (by omega)), t⟩⟩) ?_
    rotate_left
    · refine Nx.mk' (⟨(i + 1, numAt l (qn l i).1 4611686018427387904), by show i + 1 ≤ cn l; omega, (qn_b hlb (i + 1)).1⟩ : {p : Nat × Int // p.1 ≤ cn l ∧ (qn l p.1).1.1 ≤ l.length}) ?_ (by show cn l - (i + 1) < cn l - i; omega)
      show (_ : List V × KB) = _
      have n3 := stN (l := l) (p := (qn l i).1) (m := 4611686018427387904) h2
      have e2 : List.take i (ints .i64 (qn l i).2) = ints .i64 (qn l i).2 := List.take_of_length_le (by rw [ints_len]; omega)
      have e3 : ints .i64 (qn l i).2 ++ [[D.val (.int .i64 (numAt l (qn l i).1 4611686018427387904))]] = ints .i64 (qn l (i + 1)).2 := by
        show _ = ints .i64 ((qn l i).2 ++ [_])
        rw [ints_app]; rfl
      rw [e1 (by omega), n3.1, n3.2.1, n3.2.2, e2, e3]
      rfl
    rintro ⟨g2, hp0⟩
    have n4 := stT (l := l) (p := pn l) (m := 2048) hp0
    refine ⟨l.drop (pn l).1, rfl, byt_drop hlb _, by rw [List.length_drop]; omega, fun h3 => ⟨⟨rfl⟩, ?_⟩, fun h3 => ?_⟩
    · have he : (q3 l).2 ≠ 0 := by
        have h4 : (rText (l.drop (pn l).1) 0 2048).2.2 ≠ 0 := by simpa using h3
        rw [n4.2.1] at h4; exact h4
      have := kf (by rw [fin_q3 he]; exact he)
      rw [fin_q3 he] at this
      rw [n4.2.1]
      exact this
    have he3 : (q3 l).2 = 0 := by
      have h4 : (rText (l.drop (pn l).1) 0 2048).2.2 = 0 := by simpa using h3
      rw [n4.2.1] at h4; exact h4
    have n5 := stN (l := l) (p := q3 l) (m := 64) he3
    rw [n4.2.2]
    refine ⟨l.drop (q3 l).1, rfl, byt_drop hlb _, by rw [List.length_drop]; omega, ?_, ?_⟩
    · rw [n5.1, n5.2.1, n5.2.2, d1, n4.1]
      exact At.mk' ⟨(0, _, []), Nat.zero_le _, (qt_b hlb 0).1, hp0, he3⟩ rfl
    have xT : ∀ (i : Nat) (g : Int) (gb : List Int), i ≤ cl l → (i = cl l ∨ (qt l i).1.2 ≠ 0) → (((qt l i).1.2 != 0) = true → EqI (qt l i).1.2 (qt l i).1.2 ∧ K (.tup [.agg [.int .i64 0, .dat (.sl 1 []), .dat (.sl 1 []), .dat (.sl 1 [])], .int .i64 (qt l i).1.2]) []) ∧
        (((qt l i).1.2 != 0) = false → At (rgC3 l) ([.ptr 0 0, .ptr 1 0, .ptr 2 0], [.cells zMsg, .cells [.int .i64 g, .dat (.sl 1 (ints .u8 gb)), .int .i64 (qt l i).1.2, .dat (.sl 1 (ints .u8 (l.drop (qt l i).1.1)))], .cells [.int .i64 (kd l), .sl 3 0 (cn l), .dat (.sl 1 (ints .u8 (bd l))), .sl 4 0 i], .row 3 1 (ints .i64 (qn l (cn l)).2), .row 23 1 ((qt l i).2.map bsl)])) := fun i g gb hi hx => by
      refine ⟨fun h2 => ⟨⟨rfl⟩, ?_⟩, fun h2 => ?_⟩
      · have he : (qt l i).1.2 ≠ 0 := by simpa using h2
        have := kf (by rw [fin_qt hi he]; exact he)
        rw [fin_qt hi he] at this
        exact this
      · have he : (qt l i).1.2 = 0 := by simpa using h2
        rcases hx with hx | hx
        · subst hx
          rw [he]
          exact At.mk' ⟨(g, gb), hp0, he3, he⟩ rfl
        · exact absurd he hx
    rintro ⟨⟨j, g3, gb⟩, hj, hjl, _, _⟩
    dsimp only at hj hjl ⊢
    have hqj := qt_b hlb j
    have e1 : j < cl l → IntKind.i64.wrap ((j : Int) + 1) = ((j + 1 : Nat) : Int) := fun _ => by rw [w64 (by omega) (by omega)]; rfl
    try simp only [decide_eq_true_eq, decide_eq_false_iff_not, beq_iff_eq, beq_eq_false_iff_ne]
    refine (fun t => ⟨fun hc => ⟨fun h2 => ⟨l.drop (qt l j).1.1, rfl, byt_drop hlb _, by rw [List.length_drop]; omega, Nat.le_refl _, by rw [lnM]; omega, by omega, ?_⟩, fun h2 => ⟨xT j g3 gb hj (.inr h2), t⟩⟩, fun hc => ⟨xT j g3 gb hj (.inl (by omega)), t⟩⟩) ?_
    rotate_left
    · refine Nx.mk' (⟨(j + 1, 0, texAt l (qt l j).1 2048), by show j + 1 ≤ cl l; omega, (qt_b hlb (j + 1)).1, hp0, he3⟩ : {p : Nat × Int × List Int // p.1 ≤ cl l ∧ (qt l p.1).1.1 ≤ l.length ∧ (pn l).2 = 0 ∧ (q3 l).2 = 0}) ?_ (by show cl l - (j + 1) < cl l - j; omega)
      show (_ : List V × KB) = _
      have n3 := stT (l := l) (p := (qt l j).1) (m := 2048) h2
      have e2 : List.take j ((qt l j).2.map bsl) = (qt l j).2.map bsl := List.take_of_length_le (by rw [lnM]; omega)
      have e3 : (qt l j).2.map bsl ++ [[D.sl 1 (ints .u8 (texAt l (qt l j).1 2048))]] = (qt l (j + 1)).2.map bsl := by
        show _ = ((qt l j).2 ++ [_]).map bsl
        rw [List.map_append]; rfl
      rw [e1 (by omega), n3.1, n3.2.1, n3.2.2, e2, e3]
      rfl
    rintro ⟨⟨g4, gb4⟩, _, _, hpt⟩
    have hqt := qt_b hlb (cl l)
    have hqn := qn_b hlb (cn l)
    have f1 : List.drop 0 (List.take (cn l) (ints .i64 (qn l (cn l)).2)) = ints .i64 (qn l (cn l)).2 := takeA hqn.2.symm
    have f3 : List.drop 0 (List.take (cl l) ((qt l (cl l)).2.map bsl)) = (qt l (cl l)).2.map bsl := takeB hqt.2.1.symm
    have g1 : cn l ≤ (ints .i64 (qn l (cn l)).2).length := by rw [ints_len]; omega
    have g3 : cl l ≤ ((qt l (cl l)).2.map bsl).length := by rw [lnM]; omega
    rw [f1, f3]
    refine ⟨fun h4 => ?_, fun h4 => ⟨⟨⟨g1, trivial, g3, trivial⟩, trivial⟩, _, _, _, rfl, rfl, rfl, lenI_rd hlb (by omega), fun q hq => ⟨trivial, fun h5 => ?_, fun h5 => ⟨g1, g3, ?_⟩⟩⟩⟩
    · have hf : fin l = 3 := by
        unfold fin rEnd
        rw [if_pos ⟨fun e => by rw [e] at h4; simp [ints] at h4, hpt⟩]
      have := kf (by rw [hf]; decide)
      rw [hf] at this
      exact this
    all_goals
      have hf : fin l = 0 := by
        unfold fin rEnd
        rw [if_neg (fun w => w.1 (List.length_eq_zero_iff.1 (by rw [ints_len] at h4; omega)))]
        exact hpt
    · have hr : ¬ RightO l := fun w => by rw [hq.2 w] at h5; cases h5
      rw [rd_no ho hf hr] at h; exact h
    · have hr : RightO l := hq.1 (by simpa using h5)
      rw [rd_ok ho hf hr] at h; exact h)
end Go.Proofs.Ytmemkblmocgnlaa
