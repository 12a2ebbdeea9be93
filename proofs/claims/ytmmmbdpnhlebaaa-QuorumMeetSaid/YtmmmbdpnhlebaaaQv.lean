import Derived.Test.YtmmmbdpnhlebaaaQu
import Derived.KernelRfl
namespace Go.Proofs.Ytmmmbdpnhlebaaa
open Vc Go
set_option linter.unusedVariables false
set_option linter.unusedSimpArgs false
set_option maxRecDepth 100000
/-! Taking out of a slice. -/
def nid (id : Int) (l : List Int) : List Int := l.filter fun x => decide (x ≠ id)
abbrev dfLI (a : List Int) (id : Int) : LI where
  α := {i : Nat // i ≤ a.length ∧ id ∉ a.take i}
  live := [0, 1, 7, 8]
  st i := ([.sl 0 0 a.length, .fn 27 [.ptr 1 0], .int .i64 (a.length : Int), .int .i64 (i.1 : Int)], [.row 3 1 (ints .i64 a), .cells [.int .i64 id]])
  μ i := a.length - i.1
structure DlInv (a : List Int) (id : Int) (p : Nat × List Int) : Prop where
  le : p.1 ≤ a.length
  len : p.2.length = a.length
  front : p.2.take (nid id (a.take p.1)).length = nid id (a.take p.1)
  back : p.2.drop p.1 = a.drop p.1
abbrev dlLI (a : List Int) (id : Int) : LI where
  α := {p : Nat × List Int // DlInv a id p}
  live := [0, 1, 5, 6]
  st p := ([.sl 0 0 a.length, .fn 27 [.ptr 1 0], .int .i64 ((nid id (a.take p.1.1)).length : Int), .int .i64 (p.1.1 : Int)], [.row 3 1 (ints .i64 p.1.2), .cells [.int .i64 id]])
  μ p := a.length - p.1.1
def dlT (a : List Int) (id : Int) : FuncId → Nat → Option LI
  | 37, 2 => some (dfLI a id)
  | 25, 5 => some (dlLI a id)
  | _, _ => none
def SdFn : FSpec := fun args kb K => match args, kb with
  | [.sl 0 0 h, .fn 27 [.ptr 1 0]], [.row 3 1 R, .cells [.int .i64 id]] => ∃ a : List Int, R = ints .i64 a ∧ h = a.length ∧ Sm1 a ∧
      ∀ t, K (.sl 0 0 (nid id a).length) [.row 3 1 (ints .i64 (nid id a ++ t)), .cells [.int .i64 id]]
  | _, _ => False
noncomputable def XDl (a : List Int) (id : Int) : CallT := callS Try.prog noS (dlT a id) 10
/-! Changes. -/
open Classical in
noncomputable def chE (l : List Int) (add : Bool) (id : Int) : Int :=
  if ¬ RightL l ∨ id < 0 ∨ 15 < id then 1 else if add = true ∧ id ∈ l then 8 else if add = false ∧ id ∉ l then 7 else if add = true ∧ l.length = 7 then 6 else if add = false ∧ l.length = 1 then 9 else 0
structure ChP (l : List Int) (add : Bool) (id : Int) (r : List Int) (e : Int) : Prop where
  eq : e = chE l add id
  no : e ≠ 0 → r = []
  inc : r.Pairwise (fun x y => x < y)
  mem : e = 0 → ∀ x, x ∈ r ↔ ((add = true ∧ (x ∈ l ∨ x = id)) ∨ (add = false ∧ x ∈ l ∧ x ≠ id))
def SChange : FSpec := fun args kb K => match args, kb with
  | [.dat (.sl 1 L), .sb add, .int .i64 id], [] => ∃ l : List Int, L = ints .i64 l ∧ Sm1 l ∧ ∀ r t e, ChP l add id r e → K (.tup [.sl 0 0 r.length, .int .i64 e]) [.row 3 1 (ints .i64 (r ++ t))]
  | _, _ => False
def chS : FuncId → Option Known
  | 25 => some ⟨[], SdFn⟩
  | 26 => some ⟨[.lend 1], ScloneN 3⟩
  | f => inS f
noncomputable def XCh : CallT := callS Try.prog chS noT 10
structure Cu (l : List Int) (add : Bool) (id : Int) (n : Nat) : Prop where
  r : RightL l
  lo : 0 ≤ id
  hi : id ≤ 15
  a : 1 ≤ n → ¬ (add = true ∧ id ∈ l)
  b : 2 ≤ n → ¬ (add = false ∧ id ∉ l)
  c : 3 ≤ n → ¬ (add = true ∧ l.length = 7)
  d : 4 ≤ n → ¬ (add = false ∧ l.length = 1)
abbrev chCut (l : List Int) (add : Bool) (id : Int) (n : Nat) (sl : Nat) (c : Prop) : LI where
  α := {b : Bool // Cu l add id n ∧ (b = true ↔ c)}
  live := [0, 1, 5, 8, sl]
  st b := ([.dat (.sl 1 (ints .i64 l)), .sb add, .ptr 0 0, .sb (decide (id ∈ l)), .sb b.1], [.cells [.int .i64 id]])
  μ b := 0
abbrev chCut0 (l : List Int) (add : Bool) (id : Int) : LI where
  α := {b : Bool // b = true ↔ ¬ (RightL l ∧ 0 ≤ id ∧ id ≤ 15)}
  live := [0, 1, 5, 8, 13]
  st b := ([.dat (.sl 1 (ints .i64 l)), .sb add, .ptr 0 0, .sb (decide (id ∈ l)), .sb b.1], [.cells [.int .i64 id]])
  μ b := 0
abbrev crCut (l : List Int) (add : Bool) (id : Int) (n : Nat) : LI where
  α := {q : Nat // q = 0 ∧ Cu l add id n}
  live := [0, 1, 2]
  st q := ([.dat (.sl 1 (ints .i64 l)), .sb add, .int .i64 id], [])
  μ q := 0
def rcP (l : List Int) (add : Bool) (id x : Int) : Prop := (x ∈ l ∧ (add = true ∨ x ≠ id)) ∨ (add = true ∧ x = id)
instance (l : List Int) (add : Bool) (id x : Int) : Decidable (rcP l add id x) := by unfold rcP; infer_instance
def rcO (l : List Int) (add : Bool) (id : Int) (v : Nat) : List Int := ((List.range v).map (fun (k : Nat) => (k : Int))).filter fun x => decide (rcP l add id x)
abbrev rcLI (l : List Int) (add : Bool) (id : Int) : LI where
  α := {v : Nat // v ≤ 16 ∧ Cu l add id 4}
  live := [0, 1, 2, 8, 9]
  nils := [.slot 3 3 1]
  st v := ([.dat (.sl 1 (ints .i64 l)), .sb add, .int .i64 id, .sl 0 0 (rcO l add id v.1).length, .int .i64 (v.1 : Int)],
    [.row 3 1 (ints .i64 (rcO l add id v.1))])
  μ v := 16 - v.1
def rcT (l : List Int) (add : Bool) (id : Int) : FuncId → Nat → Option LI
  | 13, 13 => some (rcLI l add id)
  | 13, 1003 => some (crCut l add id 0)
  | 13, 1005 => some (crCut l add id 1)
  | 13, 1007 => some (crCut l add id 2)
  | 13, 1009 => some (crCut l add id 3)
  | 13, 1011 => some (crCut l add id 4)
  | 12, 1003 => some (chCut0 l add id)
  | 12, 1005 => some (chCut l add id 0 22 (add = true ∧ id ∈ l))
  | 12, 1007 => some (chCut l add id 1 27 (add = false ∧ id ∉ l))
  | 12, 1009 => some (chCut l add id 2 34 (add = true ∧ l.length = 7))
  | 12, 1011 => some (chCut l add id 3 41 (add = false ∧ l.length = 1))
  | _, _ => none
/-! Bytes. -/
def catN (l : List Int) : List Int := (l.map numW).flatten
def qW (l : List Int) : List Int := numW (l.length : Int) ++ catN l
def qdS (b : List Int) : Nat → Nat × Int × List Int
  | 0 => ((rNum b 0 7).2.1, (rNum b 0 7).2.2, [])
  | k + 1 => ((qdS b k).1 + (rNum (b.drop (qdS b k).1) (qdS b k).2.1 15).2.1, (rNum (b.drop (qdS b k).1) (qdS b k).2.1 15).2.2, (qdS b k).2.2 ++ [(rNum (b.drop (qdS b k).1) (qdS b k).2.1 15).1])
def rdN (b : List Int) : Nat := (rNum b 0 7).1.toNat
abbrev qbLI (l : List Int) : LI where
  α := {i : Nat // i ≤ l.length}
  live := [3, 9, 10, 11]
  st i := ([.ptr 0 0, .dat (.sl 1 (ints .i64 l)), .int .i64 (l.length : Int), .int .i64 (i.1 : Int)], [.cells [.sl 1 0 (numW (l.length : Int) ++ catN (l.take i.1)).length], .row 5 1 (ints .u8 (numW (l.length : Int) ++ catN (l.take i.1)))])
  μ i := l.length - i.1
abbrev qrLI (b : List Int) : LI where
  α := {k : Nat // k ≤ rdN b ∧ (qdS b k).1 ≤ b.length}
  live := [4, 5, 9, 10]
  nils := [.slot 1 3 1]
  st k := ([.ptr 0 0, .sl 1 0 k.1, .int .i64 (rdN b : Int), .int .i64 (k.1 : Int)], [.cells [.sl 2 (qdS b k.1).1 b.length, .int .i64 (qdS b k.1).2.1], .row 3 1 (ints .i64 (qdS b k.1).2.2), .row 5 1 (ints .u8 b)])
  μ k := rdN b - k.1
def qbT (l b : List Int) : FuncId → Nat → Option LI
  | 21, 4 => some (qbLI l)
  | 19, 4 => some (qrLI b)
  | _, _ => none
def qpS : FuncId → Option Known
  | 14 => some ⟨[.lend 1], Sright⟩
  | f => pkS f
noncomputable def XQp : CallT := callS Try.prog qpS noT 10
def SqBytes : FSpec := fun args kb K => match args, kb with
  | [.dat (.sl 1 L)], [] => ∃ l : List Int, L = ints .i64 l ∧ l.length ≤ 100 ∧ (∀ x ∈ l, x ≤ 9223372036854775807) ∧ K (.sl 0 0 (qW l).length) [.row 5 1 (ints .u8 (qW l))]
  | _, _ => False
structure RdP (b : List Int) (q : Bool) (o : List Int) : Prop where
  t : q = true → RightL o ∧ b = qW o
  f : q = false → o = [] ∧ ¬ ∃ r, RightL r ∧ b = qW r
def SqRead : FSpec := fun args kb K => match args, kb with
  | [.dat (.sl 1 B)], [] => ∃ b : List Int, B = ints .u8 b ∧ Byt b ∧ b.length ≤ 1000 ∧ ∀ q o, RdP b q o → K (.tup [.sl 0 0 o.length, .sb q]) [.row 3 1 (ints .i64 o)]
  | _, _ => False
theorem vcDel (a : List Int) (id : Int) (K : V → KB → Prop) (hvc_ :
 At (dfLI a id) ([V.sl 0 0 a.length, V.fn 27 [V.ptr 1 0], V.int IntKind.i64 (↑(a.length - 0) : Int), V.int IntKind.i64 0], [KO.row 3 1 (ints IntKind.i64 a), KO.cells [V.int IntKind.i64 id]]) ∧
 ∀ (i : { i : Nat // i ≤ a.length ∧ ¬id ∈ List.take i a }),
 (decide ((↑i.val : Int) < (↑a.length : Int)) = true →
 InB (↑i.val : Int) (a.length - 0) ∧
 ∃ (e : List D),
 (ints IntKind.i64 a)[0 + (↑i.val : Int).toNat]? = some e ∧
 ∃ (n : Int),
 e[0]? = some (D.val (Value.int IntKind.i64 n)) ∧
 ((n == id) = true →
 (((↑i.val : Int) == -1) = true → K (V.sl 0 0 a.length) [KO.row 3 1 (ints IntKind.i64 a), KO.cells [V.int IntKind.i64 id]]) ∧
 (((↑i.val : Int) == -1) = false →
 At (dlLI a id) ([V.sl 0 0 a.length, V.fn 27 [V.ptr 1 0], V.int IntKind.i64 (↑i.val : Int), V.int IntKind.i64 (IntKind.i64.wrap ((↑i.val : Int) + 1))], [KO.row 3 1 (ints IntKind.i64 a), KO.cells [V.int IntKind.i64 id]]) ∧
 ∀ (i : { p : Nat × List Int // DlInv a id p }),
 (decide ((↑i.val.fst : Int) < (↑(a.length - 0) : Int)) = true →
 InB (↑i.val.fst : Int) (a.length - 0) ∧
 ∃ (e : List D),
 (ints IntKind.i64 i.val.snd)[0 + (↑i.val.fst : Int).toNat]? = some e ∧
 ∃ (n : Int),
 e[0]? = some (D.val (Value.int IntKind.i64 n)) ∧
 ((!n == id) = true →
 InB (↑(nid id (List.take i.val.fst a)).length : Int) (a.length - 0) ∧
 0 + (↑(nid id (List.take i.val.fst a)).length : Int).toNat < (ints IntKind.i64 i.val.snd).length ∧
 Nx (dlLI a id) i
 ([V.sl 0 0 a.length, V.fn 27 [V.ptr 1 0], V.int IntKind.i64 (IntKind.i64.wrap ((↑(nid id (List.take i.val.fst a)).length : Int) + 1)), V.int IntKind.i64 (IntKind.i64.wrap ((↑i.val.fst : Int) + 1))],
 [KO.row 3 1 ((ints IntKind.i64 i.val.snd).set (0 + (↑(nid id (List.take i.val.fst a)).length : Int).toNat) [D.val (Value.int IntKind.i64 n)]), KO.cells [V.int IntKind.i64 id]])) ∧
 ((!n == id) = false → Nx (dlLI a id) i ([V.sl 0 0 a.length, V.fn 27 [V.ptr 1 0], V.int IntKind.i64 (↑(nid id (List.take i.val.fst a)).length : Int), V.int IntKind.i64 (IntKind.i64.wrap ((↑i.val.fst : Int) + 1))], [KO.row 3 1 (ints IntKind.i64 i.val.snd), KO.cells [V.int IntKind.i64 id]]))) ∧
 (decide ((↑i.val.fst : Int) < (↑(a.length - 0) : Int)) = false →
 NonN (↑(nid id (List.take i.val.fst a)).length : Int) ∧
 True ∧
 (↑(nid id (List.take i.val.fst a)).length : Int).toNat ≤ a.length - 0 ∧
 a.length - 0 ≤ a.length - 0 ∧
 0 + (a.length - 0) ≤ (ints IntKind.i64 i.val.snd).length ∧
 True ∧
 NonN (↑(nid id (List.take i.val.fst a)).length : Int) ∧
 0 ≤ (↑(nid id (List.take i.val.fst a)).length : Int).toNat ∧
 (↑(nid id (List.take i.val.fst a)).length : Int).toNat ≤ a.length - 0 ∧
 K (V.sl 0 0 (0 + (↑(nid id (List.take i.val.fst a)).length : Int).toNat))
 [KO.row 3 1 (splice (ints IntKind.i64 i.val.snd) (0 + (↑(nid id (List.take i.val.fst a)).length : Int).toNat) (List.replicate (0 + (a.length - 0) - (0 + (↑(nid id (List.take i.val.fst a)).length : Int).toNat)) [D.val (Value.int IntKind.i64 0)])), KO.cells [V.int IntKind.i64 id]]))) ∧
 ((n == id) = false → Nx (dfLI a id) i ([V.sl 0 0 a.length, V.fn 27 [V.ptr 1 0], V.int IntKind.i64 (↑a.length : Int), V.int IntKind.i64 (IntKind.i64.wrap ((↑i.val : Int) + 1))], [KO.row 3 1 (ints IntKind.i64 a), KO.cells [V.int IntKind.i64 id]]))) ∧
 (decide ((↑i.val : Int) < (↑a.length : Int)) = false → K (V.sl 0 0 a.length) [KO.row 3 1 (ints IntKind.i64 a), KO.cells [V.int IntKind.i64 id]])
 ) : runSpec Try.prog (XDl a id) (dlT a id 25) 25 [.sl 0 0 a.length, .fn 27 [.ptr 1 0]] [.row 3 1 (ints .i64 a), .cells [.int .i64 id]] K := Eq.mp (by kernel_rfl) hvc_
theorem vcChange (l : List Int) (add : Bool) (id : Int) (K : V → KB → Prop) (hvc_ :
 ∃ (o : List Int),
 ints IntKind.i64 l = ints IntKind.i64 o ∧
 Sm1 o ∧
 (∃ (o_1 : List Int),
 ints IntKind.i64 l = ints IntKind.i64 o_1 ∧
 Sm1 o_1 ∧
 ∀ (b : Bool),
 (b = true ↔ RightL o_1) →
 ((!b) = true → At (chCut0 l add id) ([V.dat (D.sl 1 (ints IntKind.i64 l)), V.sb add, V.ptr 0 0, V.sb (decide (id ∈ o)), V.sb true], [KO.cells [V.int IntKind.i64 id]])) ∧
 ((!b) = false →
 (decide (id ≥ 0) = true → At (chCut0 l add id) ([V.dat (D.sl 1 (ints IntKind.i64 l)), V.sb add, V.ptr 0 0, V.sb (decide (id ∈ o)), V.sb !decide (id ≤ 15)], [KO.cells [V.int IntKind.i64 id]])) ∧ (decide (id ≥ 0) = false → At (chCut0 l add id) ([V.dat (D.sl 1 (ints IntKind.i64 l)), V.sb add, V.ptr 0 0, V.sb (decide (id ∈ o)), V.sb true], [KO.cells [V.int IntKind.i64 id]])))) ∧
 ∀ (i : { b : Bool // b = true ↔ ¬(RightL l ∧ 0 ≤ id ∧ id ≤ 15) }),
 (i.val = true → K (V.tup [V.sl 0 0 0, V.int IntKind.i64 1]) [KO.row 3 1 []]) ∧
 (i.val = false →
 ((add = true → At (chCut l add id 0 22 (add = true ∧ id ∈ l)) ([V.dat (D.sl 1 (ints IntKind.i64 l)), V.sb add, V.ptr 0 0, V.sb (decide (id ∈ l)), V.sb (decide (id ∈ l))], [KO.cells [V.int IntKind.i64 id]])) ∧
 (add = false → At (chCut l add id 0 22 (add = true ∧ id ∈ l)) ([V.dat (D.sl 1 (ints IntKind.i64 l)), V.sb add, V.ptr 0 0, V.sb (decide (id ∈ l)), V.sb false], [KO.cells [V.int IntKind.i64 id]]))) ∧
 ∀ (i : { b : Bool // Cu l add id 0 ∧ (b = true ↔ add = true ∧ id ∈ l) }),
 (i.val = true → K (V.tup [V.sl 0 0 0, V.int IntKind.i64 8]) [KO.row 3 1 []]) ∧
 (i.val = false →
 (((!add) = true → At (chCut l add id 1 27 (add = false ∧ ¬id ∈ l)) ([V.dat (D.sl 1 (ints IntKind.i64 l)), V.sb add, V.ptr 0 0, V.sb (decide (id ∈ l)), V.sb !decide (id ∈ l)], [KO.cells [V.int IntKind.i64 id]])) ∧
 ((!add) = false → At (chCut l add id 1 27 (add = false ∧ ¬id ∈ l)) ([V.dat (D.sl 1 (ints IntKind.i64 l)), V.sb add, V.ptr 0 0, V.sb (decide (id ∈ l)), V.sb false], [KO.cells [V.int IntKind.i64 id]]))) ∧
 ∀ (i : { b : Bool // Cu l add id 1 ∧ (b = true ↔ add = false ∧ ¬id ∈ l) }),
 (i.val = true → K (V.tup [V.sl 0 0 0, V.int IntKind.i64 7]) [KO.row 3 1 []]) ∧
 (i.val = false →
 ((add = true → At (chCut l add id 2 34 (add = true ∧ l.length = 7)) ([V.dat (D.sl 1 (ints IntKind.i64 l)), V.sb add, V.ptr 0 0, V.sb (decide (id ∈ l)), V.sb ((↑(ints IntKind.i64 l).length : Int) == 7)], [KO.cells [V.int IntKind.i64 id]])) ∧
 (add = false → At (chCut l add id 2 34 (add = true ∧ l.length = 7)) ([V.dat (D.sl 1 (ints IntKind.i64 l)), V.sb add, V.ptr 0 0, V.sb (decide (id ∈ l)), V.sb false], [KO.cells [V.int IntKind.i64 id]]))) ∧
 ∀ (i : { b : Bool // Cu l add id 2 ∧ (b = true ↔ add = true ∧ l.length = 7) }),
 (i.val = true → K (V.tup [V.sl 0 0 0, V.int IntKind.i64 6]) [KO.row 3 1 []]) ∧
 (i.val = false →
 (((!add) = true → At (chCut l add id 3 41 (add = false ∧ l.length = 1)) ([V.dat (D.sl 1 (ints IntKind.i64 l)), V.sb add, V.ptr 0 0, V.sb (decide (id ∈ l)), V.sb ((↑(ints IntKind.i64 l).length : Int) == 1)], [KO.cells [V.int IntKind.i64 id]])) ∧
 ((!add) = false → At (chCut l add id 3 41 (add = false ∧ l.length = 1)) ([V.dat (D.sl 1 (ints IntKind.i64 l)), V.sb add, V.ptr 0 0, V.sb (decide (id ∈ l)), V.sb false], [KO.cells [V.int IntKind.i64 id]]))) ∧
 ∀ (i : { b : Bool // Cu l add id 3 ∧ (b = true ↔ add = false ∧ l.length = 1) }),
 (i.val = true → K (V.tup [V.sl 0 0 0, V.int IntKind.i64 9]) [KO.row 3 1 []]) ∧
 (i.val = false →
 ((!add) = true → (ints IntKind.i64 l).length ≤ 1000000 ∧ ∃ (a : List Int), ints IntKind.i64 l = ints IntKind.i64 a ∧ (ints IntKind.i64 l).length = a.length ∧ Sm1 a ∧ ∀ (t : List Int), K (V.tup [V.sl 0 0 (nid id a).length, V.int IntKind.i64 0]) [KO.row 3 1 (ints IntKind.i64 (nid id a ++ t))]) ∧
 ((!add) = false →
 ((ints IntKind.i64 l).length ≤ 1000000 ∧
 EqI id id ∧
 1 ≤ 1 ∧
 (ints IntKind.i64 l).length ≤ (ints IntKind.i64 l).length ∧
 ((ints IntKind.i64 l).length + 1) * 8 ≤ 140737488355328 ∧
 3 = 3 ∧
 ∃ (a : List Int),
 ∃ (t : List Int),
 List.take (ints IntKind.i64 l).length (ints IntKind.i64 l) ++ [[D.val (Value.int IntKind.i64 id)]] = ints IntKind.i64 (a ++ t) ∧ (ints IntKind.i64 l).length + 1 = a.length ∧ a.length ≤ 1000000 ∧ K (V.tup [V.sl 0 0 ((ints IntKind.i64 l).length + 1), V.int IntKind.i64 0]) [KO.row 3 1 (ints IntKind.i64 (sortI a ++ t))]) ∧
 (ints IntKind.i64 l).length ≤ 1000000 ∧
 1 ≤ 1 ∧
 (ints IntKind.i64 l).length ≤ (ints IntKind.i64 l).length ∧
 ((ints IntKind.i64 l).length + 1) * 8 ≤ 140737488355328 ∧
 3 = 3 ∧
 ∃ (a : List Int),
 ∃ (t : List Int),
 List.take (ints IntKind.i64 l).length (ints IntKind.i64 l) ++ [[D.val (Value.int IntKind.i64 id)]] = ints IntKind.i64 (a ++ t) ∧ (ints IntKind.i64 l).length + 1 = a.length ∧ a.length ≤ 1000000 ∧ K (V.tup [V.sl 0 0 ((ints IntKind.i64 l).length + 1), V.int IntKind.i64 0]) [KO.row 3 1 (ints IntKind.i64 (sortI a ++ t))]))))))
 ) : runSpec Try.prog XCh (rcT l add id 12) 12 [.dat (.sl 1 (ints .i64 l)), .sb add, .int .i64 id] [] (nilRes [.slot 0 3 1] (tidyRes 0 K)) := Eq.mp (by kernel_rfl) hvc_
theorem vcRefChange (l : List Int) (add : Bool) (id : Int) (K : V → KB → Prop) (hvc_ :
 (∃ (o : List Int),
 ints IntKind.i64 l = ints IntKind.i64 o ∧
 Sm1 o ∧
 ∀ (b : Bool),
 (b = true ↔ RightL o) →
 ((!b) = true → K (V.tup [V.sl 0 0 0, V.int IntKind.i64 1]) [KO.row 3 1 []]) ∧
 ((!b) = false → (decide (id < 0) = true → K (V.tup [V.sl 0 0 0, V.int IntKind.i64 1]) [KO.row 3 1 []]) ∧ (decide (id < 0) = false → (decide (id > 15) = true → K (V.tup [V.sl 0 0 0, V.int IntKind.i64 1]) [KO.row 3 1 []]) ∧ (decide (id > 15) = false → At (crCut l add id 0) ([V.dat (D.sl 1 (ints IntKind.i64 l)), V.sb add, V.int IntKind.i64 id], []))))) ∧
 ∀ (i : { q : Nat // q = 0 ∧ Cu l add id 0 }),
 ((add = true → ∃ (o : List Int), ints IntKind.i64 l = ints IntKind.i64 o ∧ Sm1 o ∧ (decide (id ∈ o) = true → K (V.tup [V.sl 0 0 0, V.int IntKind.i64 8]) [KO.row 3 1 []]) ∧ (decide (id ∈ o) = false → At (crCut l add id 1) ([V.dat (D.sl 1 (ints IntKind.i64 l)), V.sb add, V.int IntKind.i64 id], []))) ∧
 (add = false → At (crCut l add id 1) ([V.dat (D.sl 1 (ints IntKind.i64 l)), V.sb add, V.int IntKind.i64 id], []))) ∧
 ∀ (i : { q : Nat // q = 0 ∧ Cu l add id 1 }),
 (((!add) = true → ∃ (o : List Int), ints IntKind.i64 l = ints IntKind.i64 o ∧ Sm1 o ∧ ((!decide (id ∈ o)) = true → K (V.tup [V.sl 0 0 0, V.int IntKind.i64 7]) [KO.row 3 1 []]) ∧ ((!decide (id ∈ o)) = false → At (crCut l add id 2) ([V.dat (D.sl 1 (ints IntKind.i64 l)), V.sb add, V.int IntKind.i64 id], []))) ∧
 ((!add) = false → At (crCut l add id 2) ([V.dat (D.sl 1 (ints IntKind.i64 l)), V.sb add, V.int IntKind.i64 id], []))) ∧
 ∀ (i : { q : Nat // q = 0 ∧ Cu l add id 2 }),
 ((add = true → (((↑(ints IntKind.i64 l).length : Int) == 7) = true → K (V.tup [V.sl 0 0 0, V.int IntKind.i64 6]) [KO.row 3 1 []]) ∧ (((↑(ints IntKind.i64 l).length : Int) == 7) = false → At (crCut l add id 3) ([V.dat (D.sl 1 (ints IntKind.i64 l)), V.sb add, V.int IntKind.i64 id], []))) ∧
 (add = false → At (crCut l add id 3) ([V.dat (D.sl 1 (ints IntKind.i64 l)), V.sb add, V.int IntKind.i64 id], []))) ∧
 ∀ (i : { q : Nat // q = 0 ∧ Cu l add id 3 }),
 (((!add) = true → (((↑(ints IntKind.i64 l).length : Int) == 1) = true → K (V.tup [V.sl 0 0 0, V.int IntKind.i64 9]) [KO.row 3 1 []]) ∧ (((↑(ints IntKind.i64 l).length : Int) == 1) = false → At (crCut l add id 4) ([V.dat (D.sl 1 (ints IntKind.i64 l)), V.sb add, V.int IntKind.i64 id], []))) ∧
 ((!add) = false → At (crCut l add id 4) ([V.dat (D.sl 1 (ints IntKind.i64 l)), V.sb add, V.int IntKind.i64 id], []))) ∧
 ∀ (i : { q : Nat // q = 0 ∧ Cu l add id 4 }),
 At (rcLI l add id) ([V.dat (D.sl 1 (ints IntKind.i64 l)), V.sb add, V.int IntKind.i64 id, V.sl 0 0 0, V.int IntKind.i64 0], [KO.row 3 1 []]) ∧
 ∀ (i : { v : Nat // v ≤ 16 ∧ Cu l add id 4 }),
 (decide ((↑i.val : Int) ≤ 15) = true →
 ∃ (o : List Int),
 ints IntKind.i64 l = ints IntKind.i64 o ∧
 Sm1 o ∧
 (decide ((↑i.val : Int) ∈ o) = true →
 (add = true →
 1 ≤ 1 ∧
 (rcO l add id i.val).length ≤ (ints IntKind.i64 (rcO l add id i.val)).length ∧
 ((rcO l add id i.val).length + 1) * 8 ≤ 140737488355328 ∧
 Nx (rcLI l add id) i ([V.dat (D.sl 1 (ints IntKind.i64 l)), V.sb add, V.int IntKind.i64 id, V.sl 0 0 ((rcO l add id i.val).length + 1), V.int IntKind.i64 (IntKind.i64.wrap ((↑i.val : Int) + 1))], [KO.row 3 1 (List.take (rcO l add id i.val).length (ints IntKind.i64 (rcO l add id i.val)) ++ [[D.val (Value.int IntKind.i64 (↑i.val : Int))]])])) ∧
 (add = false →
 (((↑i.val : Int) != id) = true →
 1 ≤ 1 ∧
 (rcO l add id i.val).length ≤ (ints IntKind.i64 (rcO l add id i.val)).length ∧
 ((rcO l add id i.val).length + 1) * 8 ≤ 140737488355328 ∧
 Nx (rcLI l add id) i ([V.dat (D.sl 1 (ints IntKind.i64 l)), V.sb add, V.int IntKind.i64 id, V.sl 0 0 ((rcO l add id i.val).length + 1), V.int IntKind.i64 (IntKind.i64.wrap ((↑i.val : Int) + 1))], [KO.row 3 1 (List.take (rcO l add id i.val).length (ints IntKind.i64 (rcO l add id i.val)) ++ [[D.val (Value.int IntKind.i64 (↑i.val : Int))]])])) ∧
 (((↑i.val : Int) != id) = false →
 (add = true →
 (((↑i.val : Int) == id) = true →
 1 ≤ 1 ∧
 (rcO l add id i.val).length ≤ (ints IntKind.i64 (rcO l add id i.val)).length ∧
 ((rcO l add id i.val).length + 1) * 8 ≤ 140737488355328 ∧
 Nx (rcLI l add id) i
 ([V.dat (D.sl 1 (ints IntKind.i64 l)), V.sb add, V.int IntKind.i64 id, V.sl 0 0 ((rcO l add id i.val).length + 1), V.int IntKind.i64 (IntKind.i64.wrap ((↑i.val : Int) + 1))], [KO.row 3 1 (List.take (rcO l add id i.val).length (ints IntKind.i64 (rcO l add id i.val)) ++ [[D.val (Value.int IntKind.i64 (↑i.val : Int))]])])) ∧
 (((↑i.val : Int) == id) = false → Nx (rcLI l add id) i ([V.dat (D.sl 1 (ints IntKind.i64 l)), V.sb add, V.int IntKind.i64 id, V.sl 0 0 (rcO l add id i.val).length, V.int IntKind.i64 (IntKind.i64.wrap ((↑i.val : Int) + 1))], [KO.row 3 1 (ints IntKind.i64 (rcO l add id i.val))]))) ∧
 (add = false → Nx (rcLI l add id) i ([V.dat (D.sl 1 (ints IntKind.i64 l)), V.sb add, V.int IntKind.i64 id, V.sl 0 0 (rcO l add id i.val).length, V.int IntKind.i64 (IntKind.i64.wrap ((↑i.val : Int) + 1))], [KO.row 3 1 (ints IntKind.i64 (rcO l add id i.val))]))))) ∧
 (decide ((↑i.val : Int) ∈ o) = false →
 (add = true →
 (((↑i.val : Int) == id) = true →
 1 ≤ 1 ∧
 (rcO l add id i.val).length ≤ (ints IntKind.i64 (rcO l add id i.val)).length ∧
 ((rcO l add id i.val).length + 1) * 8 ≤ 140737488355328 ∧
 Nx (rcLI l add id) i ([V.dat (D.sl 1 (ints IntKind.i64 l)), V.sb add, V.int IntKind.i64 id, V.sl 0 0 ((rcO l add id i.val).length + 1), V.int IntKind.i64 (IntKind.i64.wrap ((↑i.val : Int) + 1))], [KO.row 3 1 (List.take (rcO l add id i.val).length (ints IntKind.i64 (rcO l add id i.val)) ++ [[D.val (Value.int IntKind.i64 (↑i.val : Int))]])])) ∧
 (((↑i.val : Int) == id) = false → Nx (rcLI l add id) i ([V.dat (D.sl 1 (ints IntKind.i64 l)), V.sb add, V.int IntKind.i64 id, V.sl 0 0 (rcO l add id i.val).length, V.int IntKind.i64 (IntKind.i64.wrap ((↑i.val : Int) + 1))], [KO.row 3 1 (ints IntKind.i64 (rcO l add id i.val))]))) ∧
 (add = false → Nx (rcLI l add id) i ([V.dat (D.sl 1 (ints IntKind.i64 l)), V.sb add, V.int IntKind.i64 id, V.sl 0 0 (rcO l add id i.val).length, V.int IntKind.i64 (IntKind.i64.wrap ((↑i.val : Int) + 1))], [KO.row 3 1 (ints IntKind.i64 (rcO l add id i.val))])))) ∧
 (decide ((↑i.val : Int) ≤ 15) = false → K (V.tup [V.sl 0 0 (rcO l add id i.val).length, V.int IntKind.i64 0]) [KO.row 3 1 (ints IntKind.i64 (rcO l add id i.val))])
 ) : runSpec Try.prog XCh (rcT l add id 13) 13 [.dat (.sl 1 (ints .i64 l)), .sb add, .int .i64 id] [] (nilRes [.slot 0 3 1] (tidyRes 0 K)) := Eq.mp (by kernel_rfl) hvc_
theorem vcQBytes (l : List Int) (K : V → KB → Prop) (hvc_ :
 ∃ (a : List Int),
 [] = ints IntKind.u8 a ∧
 0 = a.length ∧
 a.length ≤ 10000000 ∧
 LeM (↑(ints IntKind.i64 l).length : Int) ∧
 At (qbLI l) ([V.ptr 0 0, V.dat (D.sl 1 (ints IntKind.i64 l)), V.int IntKind.i64 (↑(ints IntKind.i64 l).length : Int), V.int IntKind.i64 0], [KO.cells [V.sl 1 0 (a ++ numW (↑(ints IntKind.i64 l).length : Int)).length], KO.row 5 1 (ints IntKind.u8 (a ++ numW (↑(ints IntKind.i64 l).length : Int)))]) ∧
 ∀ (i : { i : Nat // i ≤ l.length }),
 (decide ((↑i.val : Int) < (↑l.length : Int)) = true →
 NonN (↑i.val : Int) ∧
 ∃ (e : List D),
 (ints IntKind.i64 l)[(↑i.val : Int).toNat]? = some e ∧
 ∃ (n : Int),
 e[0]? = some (D.val (Value.int IntKind.i64 n)) ∧
 ∃ (a : List Int),
 ints IntKind.u8 (numW (↑l.length : Int) ++ catN (List.take i.val l)) = ints IntKind.u8 a ∧
 (numW (↑l.length : Int) ++ catN (List.take i.val l)).length = a.length ∧ a.length ≤ 10000000 ∧ LeM n ∧ Nx (qbLI l) i ([V.ptr 0 0, V.dat (D.sl 1 (ints IntKind.i64 l)), V.int IntKind.i64 (↑l.length : Int), V.int IntKind.i64 (IntKind.i64.wrap ((↑i.val : Int) + 1))], [KO.cells [V.sl 1 0 (a ++ numW n).length], KO.row 5 1 (ints IntKind.u8 (a ++ numW n))])) ∧
 (decide ((↑i.val : Int) < (↑l.length : Int)) = false → ∃ (a : List Int), ints IntKind.u8 (numW (↑l.length : Int) ++ catN (List.take i.val l)) = ints IntKind.u8 a ∧ (numW (↑l.length : Int) ++ catN (List.take i.val l)).length = a.length ∧ a.length ≤ 1000000 ∧ K (V.sl 0 0 a.length) [KO.row 5 1 (ints IntKind.u8 a)])
 ) : runSpec Try.prog XQp (qbT l [] 21) 21 [.dat (.sl 1 (ints .i64 l))] [] (tidyRes 0 K) := Eq.mp (by kernel_rfl) hvc_
theorem vcQRead (b : List Int) (K : V → KB → Prop) (hvc_ :
 (ints IntKind.u8 b).length ≤ 1000000 ∧
 ∃ (l : List Int),
 ints IntKind.u8 b = ints IntKind.u8 l ∧
 (ints IntKind.u8 b).length = l.length ∧
 0 ≤ l.length ∧
 (∀ (c : Int), List.Mem c l → 0 ≤ c ∧ c < 256) ∧
 l.length ≤ 10000000 ∧
 At (qrLI b) ([V.ptr 0 0, V.sl 1 0 0, V.int IntKind.i64 (rNum (List.drop 0 l) 0 7).fst, V.int IntKind.i64 0], [KO.cells [V.sl 2 (0 + (rNum (List.drop 0 l) 0 7).snd.fst) l.length, V.int IntKind.i64 (rNum (List.drop 0 l) 0 7).snd.snd], KO.row 3 1 [], KO.row 5 1 (ints IntKind.u8 l)]) ∧
 ∀ (i : { k : Nat // k ≤ rdN b ∧ (qdS b k).fst ≤ b.length }),
 (decide ((↑i.val : Int) < (↑(rdN b) : Int)) = true →
 ∃ (l : List Int),
 ints IntKind.u8 b = ints IntKind.u8 l ∧
 b.length = l.length ∧
 (qdS b i.val).fst ≤ l.length ∧
 (∀ (c : Int), List.Mem c l → 0 ≤ c ∧ c < 256) ∧
 l.length ≤ 10000000 ∧
 1 ≤ 1 ∧
 i.val ≤ (ints IntKind.i64 (qdS b i.val).snd.snd).length ∧
 (i.val + 1) * 8 ≤ 140737488355328 ∧
 Nx (qrLI b) i
 ([V.ptr 0 0, V.sl 1 0 (i.val + 1), V.int IntKind.i64 (↑(rdN b) : Int), V.int IntKind.i64 (IntKind.i64.wrap ((↑i.val : Int) + 1))],
 [KO.cells [V.sl 2 ((qdS b i.val).fst + (rNum (List.drop (qdS b i.val).fst l) (qdS b i.val).snd.fst 15).snd.fst) l.length, V.int IntKind.i64 (rNum (List.drop (qdS b i.val).fst l) (qdS b i.val).snd.fst 15).snd.snd],
 KO.row 3 1 (List.take i.val (ints IntKind.i64 (qdS b i.val).snd.snd) ++ [[D.val (Value.int IntKind.i64 (rNum (List.drop (qdS b i.val).fst l) (qdS b i.val).snd.fst 15).fst)]]), KO.row 5 1 (ints IntKind.u8 l)])) ∧
 (decide ((↑i.val : Int) < (↑(rdN b) : Int)) = false →
 ∃ (l : List Int),
 ints IntKind.u8 b = ints IntKind.u8 l ∧
 b.length = l.length ∧
 ((rEnd (List.drop (qdS b i.val).fst l) (qdS b i.val).snd.fst != 0) = true → K (V.tup [V.sl 0 0 0, V.sb false]) [KO.row 3 1 []]) ∧
 ((rEnd (List.drop (qdS b i.val).fst l) (qdS b i.val).snd.fst != 0) = false →
 (i.val ≤ (ints IntKind.i64 (qdS b i.val).snd.snd).length ∧ True) ∧
 ∃ (o : List Int), List.drop 0 (List.take i.val (ints IntKind.i64 (qdS b i.val).snd.snd)) = ints IntKind.i64 o ∧ Sm1 o ∧ ∀ (b_1 : Bool), (b_1 = true ↔ RightL o) → True ∧ ((!b_1) = true → K (V.tup [V.sl 0 0 0, V.sb false]) [KO.row 3 1 []]) ∧ ((!b_1) = false → K (V.tup [V.sl 0 0 i.val, V.sb true]) [KO.row 3 1 (ints IntKind.i64 (qdS b i.val).snd.snd)])))
 ) : runSpec Try.prog XQp (qbT [] b 19) 19 [.dat (.sl 1 (ints .u8 b))] [] (nilRes [.slot 0 3 1] (tidyRes 0 K)) := Eq.mp (by kernel_rfl) hvc_
theorem nid_take {a : List Int} {id : Int} {j : Nat} (h : j < a.length) : nid id (a.take (j + 1)) = nid id (a.take j) ++ if gI a j ≠ id then [gI a j] else [] := by
  unfold nid
  rw [gI_take h, List.filter_append]
  congr 1
  by_cases hx : gI a j = id
  · simp [hx]
  · simp [hx]
theorem nid_le {a : List Int} {id : Int} {j : Nat} : (nid id (a.take j)).length ≤ j := by
  have := List.length_filter_le (fun x => decide (x ≠ id)) (a.take j)
  rw [List.length_take] at this
  unfold nid; omega
theorem nid_not {a : List Int} {id : Int} (h : id ∉ a) : nid id a = a := by
  unfold nid
  rw [List.filter_eq_self]
  intro x hx
  simp only [decide_eq_true_eq]
  exact fun e => h (e ▸ hx)
theorem dl_step {a : List Int} {id : Int} {p : Nat × List Int} (h : DlInv a id p) (hj : p.1 < a.length) (hx : gI a p.1 ≠ id) : DlInv a id (p.1 + 1, p.2.set (nid id (a.take p.1)).length (gI a p.1)) := by
  have hk := nid_le (a := a) (id := id) (j := p.1)
  have hn : nid id (a.take (p.1 + 1)) = nid id (a.take p.1) ++ [gI a p.1] := by rw [nid_take hj, if_pos hx]
  refine ⟨by simp only; omega, by simp only [List.length_set]; exact h.len, ?_, ?_⟩
  · simp only
    rw [hn, List.length_append, List.length_singleton, List.take_add_one, List.take_set_of_le (Nat.le_refl _), h.front, List.getElem?_set_self (by have := h.len; omega)]
    rfl
  · simp only
    rw [List.drop_set_of_lt (by omega)]
    have := congrArg (List.drop 1) h.back
    rwa [List.drop_drop, List.drop_drop] at this
theorem dl_skip {a : List Int} {id : Int} {p : Nat × List Int} (h : DlInv a id p) (hj : p.1 < a.length) (hx : gI a p.1 = id) : DlInv a id (p.1 + 1, p.2) ∧ nid id (a.take (p.1 + 1)) = nid id (a.take p.1) := by
  have hn : nid id (a.take (p.1 + 1)) = nid id (a.take p.1) := by rw [nid_take hj, if_neg (by simp [hx]), List.append_nil]
  refine ⟨⟨by simp only; omega, h.len, by simp only; rw [hn]; exact h.front, ?_⟩, hn⟩
  have := congrArg (List.drop 1) h.back
  rwa [List.drop_drop, List.drop_drop] at this
theorem XDl_ok (a : List Int) (id : Int) : CallOk Try.prog (XDl a id) := callS_ok mixed noS_ok _ 10
theorem elB {k : IntKind} {l : List Int} {i n : Nat} {Q : Int → Prop} (h : i < l.length) (hn : i < n) (q : Q (gI l i)) : InB (i : Int) n ∧ ∃ e, (ints k l)[0 + (i : Int).toNat]? = some e ∧ ∃ n, e[0]? = some (D.val (.int k n)) ∧ Q n :=
  ⟨by unfold InB; omega, [D.val (.int k (gI l i))], by rw [Nat.zero_add, Int.toNat_natCast, ints_get, gI_get h]; rfl, _, rfl, q⟩
theorem okDel : SpecOk Try.prog 25 SdFn := specOk_of'' mixed (fun args kb K h => by
  unfold SdFn at h; split at h <;> try exact h.elim
  rename_i id
  obtain ⟨a, rfl, rfl, ⟨hl⟩, h⟩ := h
  refine ⟨XDl a id, dlT a id 25, XDl_ok a id, vcDel a id K ⟨At.mk' ⟨0, Nat.zero_le _, by simp⟩ rfl, ?_⟩⟩
  rintro ⟨i, hi, ht⟩
  simp only [decide_eq_true_eq, decide_eq_false_iff_not]
  refine ⟨fun hc => elB (by omega) (by omega) ⟨fun hx => ⟨fun f => ?_, fun _ => ⟨?_, ?_⟩⟩, fun hx => ?_⟩, fun hc => ?_⟩
  · simp only [beq_iff_eq] at f; omega
  · simp only [beq_iff_eq] at hx
    have hia : i < a.length := by omega
    have hn0 : nid id (a.take i) = a.take i := nid_not ht
    have hn : nid id (a.take (i + 1)) = a.take i := by rw [nid_take hia, if_neg (by simp [hx]), List.append_nil, hn0]
    have hnl : (nid id (a.take (i + 1))).length = i := by rw [hn, List.length_take]; omega
    rw [w64 (by omega) (by omega)]
    exact At.mk' ⟨(i + 1, a), by simp only; omega, rfl, by simp only; rw [hnl, hn], rfl⟩ (by simp only [hnl]; rfl)
  · rintro ⟨⟨j, r⟩, hp⟩
    have hj := hp.le
    have hlen := hp.len
    have hk := nid_le (a := a) (id := id) (j := j)
    simp only at hj hlen
    dsimp only
    refine ⟨fun hc2 => ?_, fun hc2 => ?_⟩
    · have hja : j < a.length := by have : (j : Int) < ((a.length - 0 : Nat) : Int) := hc2; omega
      have hg : gI r j = gI a j := by
        have h1 : (r.drop j)[0]? = (a.drop j)[0]? := by rw [hp.back]
        rw [List.getElem?_drop, List.getElem?_drop, Nat.add_zero, gI_get (by omega), gI_get hja, Option.some.injEq] at h1
        exact h1
      refine elB (l := r) (show j < r.length by omega) (show j < a.length - 0 by omega) ⟨fun hx2 => ?_, fun hx2 => ?_⟩
      · rw [hg] at hx2
        simp only [Bool.not_eq_true', beq_eq_false_iff_ne, ne_eq] at hx2
        refine ⟨by unfold InB; omega, by rw [Int.toNat_natCast, ints_len]; show 0 + (nid id (a.take j)).length < r.length; omega, ?_⟩
        have hn : (nid id (a.take (j + 1))).length = (nid id (a.take j)).length + 1 := by rw [nid_take hja, if_pos hx2, List.length_append, List.length_singleton]
        rw [hg, Int.toNat_natCast, Nat.zero_add]
        refine Nx.mk' (⟨(j + 1, r.set (nid id (a.take j)).length (gI a j)), dl_step hp hja hx2⟩ : {p : Nat × List Int // DlInv a id p}) ?_ (by show a.length - (j + 1) < a.length - j; omega)
        show (_ : List V × KB) = _
        rw [w64 (n := ((nid id (a.take j)).length : Int) + 1) (by omega) (by omega)]
        have e1 : IntKind.i64.wrap ((j : Int) + 1) = ((j + 1 : Nat) : Int) := by rw [w64 (by omega) (by omega)]; rfl
        have e2 : ((nid id (a.take j)).length : Int) + 1 = ((nid id (a.take (j + 1))).length : Int) := by rw [hn]; rfl
        rw [e1, e2, ints_set]
      · rw [hg] at hx2
        simp only [Bool.not_eq_false', beq_iff_eq] at hx2
        obtain ⟨hs1, hs2⟩ := dl_skip hp hja hx2
        have e1 : IntKind.i64.wrap ((j : Int) + 1) = ((j + 1 : Nat) : Int) := by rw [w64 (by omega) (by omega)]; rfl
        have hs2' : nid id (a.take j) = nid id (a.take (j + 1)) := hs2.symm
        refine Nx.mk' (⟨(j + 1, r), hs1⟩ : {p : Nat × List Int // DlInv a id p}) ?_ (by show a.length - (j + 1) < a.length - j; omega)
        show ([V.sl 0 0 a.length, V.fn 27 [V.ptr 1 0], V.int .i64 ((nid id (a.take j)).length : Int), V.int .i64 (IntKind.i64.wrap ((j : Int) + 1))], [KO.row 3 1 (ints .i64 r), KO.cells [V.int .i64 id]]) = _
        rw [e1, hs2']
    · have hje : j = a.length := by have : ¬ (j : Int) < ((a.length - 0 : Nat) : Int) := hc2; omega
      subst hje
      have hfr := hp.front
      simp only [List.take_length] at hk hfr ⊢
      have hs := h (List.replicate (a.length - (nid id a).length) 0 ++ r.drop ((nid id a).length + (a.length - (nid id a).length)))
      simp only [Int.toNat_natCast, ints_len, Nat.zero_add, Nat.sub_zero]
      refine ⟨by unfold NonN; omega, trivial, hk, Nat.le_refl _, by omega, trivial, by unfold NonN; omega, Nat.zero_le _, hk, ?_⟩
      have e1 : splice (ints .i64 r) (nid id a).length (List.replicate (a.length - (nid id a).length) [D.val (.int .i64 0)]) = ints .i64 (nid id a ++ (List.replicate (a.length - (nid id a).length) 0 ++ r.drop ((nid id a).length + (a.length - (nid id a).length)))) := by
        rw [ints_rep, ints_splice]
        unfold splice
        rw [hfr, List.length_replicate, List.append_assoc]
      rw [e1]
      exact hs
  · simp only [beq_eq_false_iff_ne, ne_eq] at hx
    rw [w64 (by omega) (by omega)]
    refine Nx.mk' (⟨i + 1, by omega, ?_⟩ : {i : Nat // i ≤ a.length ∧ id ∉ a.take i}) rfl (by show a.length - (i + 1) < a.length - i; omega)
    rw [gI_take (by omega), List.mem_append]
    rintro (h1 | h1)
    · exact ht h1
    · exact hx (List.mem_singleton.1 h1).symm
  · have : i = a.length := by omega
    subst this
    rw [List.take_length] at ht
    have := h []
    rwa [nid_not ht, List.append_nil] at this)
theorem right_inc {l : List Int} (h : RightL l) : l.Pairwise (fun x y => x < y) := by
  have key : ∀ j i, i < j → j < l.length → gI l i < gI l j := by
    intro j
    induction j with
    | zero => intro i hi; omega
    | succ j ih =>
      intro i hi hj
      have h1 := (h.ok (j + 1) hj).2.2 (by omega)
      rw [Nat.add_sub_cancel] at h1
      by_cases hij : i = j
      · subst hij; exact h1
      · exact Int.lt_trans (ih i (by omega) (by omega)) h1
  rw [List.pairwise_iff_getElem]
  intro i j hi hj hij
  have := key j i hij hj
  have e1 := gI_get hi
  have e2 := gI_get hj
  rw [List.getElem?_eq_getElem hi, Option.some.injEq] at e1
  rw [List.getElem?_eq_getElem hj, Option.some.injEq] at e2
  rw [e1, e2]; exact this
theorem inc_nodup {l : List Int} (h : l.Pairwise (fun x y => x < y)) : l.Nodup := h.imp (fun h1 h2 => by omega)
theorem right_mem {l : List Int} (h : RightL l) {x : Int} (hx : x ∈ l) : 0 ≤ x ∧ x ≤ 15 := by
  obtain ⟨i, hi, rfl⟩ := mem_gI hx
  exact ⟨(h.ok i hi).1, (h.ok i hi).2.1⟩
theorem chE_0 {l : List Int} {add : Bool} {id : Int} (h : ¬ (RightL l ∧ 0 ≤ id ∧ id ≤ 15)) : chE l add id = 1 := by
  unfold chE
  rw [if_pos]
  by_cases hr : RightL l
  · refine .inr ?_
    by_cases h0 : id < 0
    · exact .inl h0
    · exact .inr (by have : ¬ (0 ≤ id ∧ id ≤ 15) := fun x => h ⟨hr, x⟩; omega)
  · exact .inl hr
theorem cu_no {l : List Int} {add : Bool} {id : Int} {n : Nat} (h : Cu l add id n) : ¬ (¬ RightL l ∨ id < 0 ∨ 15 < id) := by
  have := h.lo; have := h.hi
  rintro (h1 | h1 | h1)
  · exact h1 h.r
  · omega
  · omega
theorem chE_8 {l : List Int} {add : Bool} {id : Int} (h : Cu l add id 0) (k : add = true ∧ id ∈ l) : chE l add id = 8 := by
  unfold chE; rw [if_neg (cu_no h), if_pos k]
theorem chE_7 {l : List Int} {add : Bool} {id : Int} (h : Cu l add id 1) (k : add = false ∧ id ∉ l) : chE l add id = 7 := by
  unfold chE; rw [if_neg (cu_no h), if_neg (h.a (Nat.le_refl _)), if_pos k]
theorem chE_6 {l : List Int} {add : Bool} {id : Int} (h : Cu l add id 2) (k : add = true ∧ l.length = 7) : chE l add id = 6 := by
  unfold chE; rw [if_neg (cu_no h), if_neg (h.a (by omega)), if_neg (h.b (Nat.le_refl _)), if_pos k]
theorem chE_9 {l : List Int} {add : Bool} {id : Int} (h : Cu l add id 3) (k : add = false ∧ l.length = 1) : chE l add id = 9 := by
  unfold chE; rw [if_neg (cu_no h), if_neg (h.a (by omega)), if_neg (h.b (by omega)), if_neg (h.c (Nat.le_refl _)), if_pos k]
theorem chE_ok {l : List Int} {add : Bool} {id : Int} (h : Cu l add id 4) : chE l add id = 0 := by
  unfold chE; rw [if_neg (cu_no h), if_neg (h.a (by omega)), if_neg (h.b (by omega)), if_neg (h.c (by omega)), if_neg (h.d (Nat.le_refl _))]
theorem chP_err {l : List Int} {add : Bool} {id e : Int} (h : chE l add id = e) (he : e ≠ 0) : ChP l add id [] e := ⟨h.symm, fun _ => rfl, List.Pairwise.nil, fun f => absurd f he⟩
theorem chP_del {l : List Int} {id : Int} (h : Cu l false id 4) : ChP l false id (nid id l) 0 := by
  refine ⟨(chE_ok h).symm, fun f => absurd rfl f, (right_inc h.r).filter _, fun _ x => ?_⟩
  unfold nid
  simp [List.mem_filter]
theorem chP_add {l : List Int} {id : Int} (h : Cu l true id 4) : ChP l true id (sortI (l ++ [id])) 0 := by
  have hni : id ∉ l := fun f => h.a (by omega) ⟨rfl, f⟩
  have hp := sortI_perm (l ++ [id])
  have hnd : (sortI (l ++ [id])).Nodup := hp.nodup_iff.2 (List.nodup_append.2 ⟨inc_nodup (right_inc h.r), by simp, fun a ha b hb => by rw [List.mem_singleton] at hb; subst hb; exact fun e => hni (e ▸ ha)⟩)
  refine ⟨(chE_ok h).symm, fun f => absurd rfl f, ?_, fun _ x => ?_⟩
  · have hs := sortI_sorted (l ++ [id])
    exact (hs.and hnd).imp (fun ⟨h1, h2⟩ => by omega)
  · rw [hp.mem_iff]
    simp
theorem inc_uniq {a b : List Int} (ha : a.Pairwise (fun x y => x < y)) (hb : b.Pairwise (fun x y => x < y)) (h : ∀ x, x ∈ a ↔ x ∈ b) : a = b :=
  List.Perm.eq_of_pairwise (le := fun x y => x < y) (fun x y h1 h2 h3 h4 => by omega) ha hb ((List.perm_ext_iff_of_nodup (inc_nodup ha) (inc_nodup hb)).2 h)
theorem chP_uniq {l : List Int} {add : Bool} {id e e' : Int} {r r' : List Int} (h : ChP l add id r e) (k : ChP l add id r' e') : r = r' ∧ e = e' := by
  have he : e = e' := h.eq.trans k.eq.symm
  subst he
  refine ⟨?_, rfl⟩
  by_cases h0 : e = 0
  · exact inc_uniq h.inc k.inc fun x => (h.mem h0 x).trans (k.mem h0 x).symm
  · rw [h.no h0, k.no h0]
theorem chS_ok : AllOk Try.prog chS := fun f k h => by
  unfold chS at h
  split at h
  · cases h; exact okDel
  · cases h; exact cloneN_of okCloneI
  · exact inS_ok _ _ h
theorem XCh_ok : CallOk Try.prog XCh := callS_ok mixed chS_ok noT 10
theorem okChange : SpecOk Try.prog 12 SChange := specOk_nt XCh_ok mixed [.slot 0 3 1] (fun args kb K h => by
  unfold SChange at h; split at h <;> try exact h.elim
  rename_i add id
  obtain ⟨l, rfl, ⟨hl⟩, h⟩ := h
  have err : ∀ {e : Int}, chE l add id = e → e ≠ 0 → K (.tup [.sl 0 0 0, .int .i64 e]) [.row 3 1 []] := fun he h0 => h [] [] _ (chP_err he h0)
  refine ⟨rcT l add id 12, vcChange l add id K ⟨l, rfl, ⟨hl⟩, ⟨l, rfl, ⟨hl⟩, fun b hb => ⟨fun h1 => ?_, fun h1 => ⟨fun h2 => ?_, fun h2 => ?_⟩⟩⟩, ?_⟩⟩
  · simp only [Bool.not_eq_true'] at h1
    exact At.mk' ⟨true, ⟨fun _ w => (by rw [hb.2 w.1] at h1; cases h1), fun _ => rfl⟩⟩ rfl
  · simp only [Bool.not_eq_false', decide_eq_true_eq] at h1 h2
    refine At.mk' ⟨!decide (id ≤ 15), ?_⟩ rfl
    simp only [Bool.not_eq_true', decide_eq_false_iff_not]
    exact ⟨fun h3 w => h3 w.2.2, fun h3 h4 => h3 ⟨hb.1 h1, h2, h4⟩⟩
  · simp only [decide_eq_false_iff_not] at h2
    exact At.mk' ⟨true, ⟨fun _ w => h2 w.2.1, fun _ => rfl⟩⟩ rfl
  rintro ⟨b0, hb0⟩
  refine ⟨fun h1 => err (chE_0 (hb0.1 h1)) (by decide), fun h1 => ⟨⟨fun h2 => ?_, fun h2 => ?_⟩, ?_⟩⟩
  · have w : RightL l ∧ 0 ≤ id ∧ id ≤ 15 := Classical.not_not.1 fun w => by have := hb0.2 w; simp only at h1; rw [h1] at this; cases this
    exact At.mk' ⟨decide (id ∈ l), ⟨w.1, w.2.1, w.2.2, fun f => by omega, fun f => by omega, fun f => by omega, fun f => by omega⟩, by simp [h2]⟩ rfl
  · have w : RightL l ∧ 0 ≤ id ∧ id ≤ 15 := Classical.not_not.1 fun w => by have := hb0.2 w; simp only at h1; rw [h1] at this; cases this
    exact At.mk' ⟨false, ⟨w.1, w.2.1, w.2.2, fun f => by omega, fun f => by omega, fun f => by omega, fun f => by omega⟩, by simp [h2]⟩ rfl
  rintro ⟨b1, hc1, hb1⟩
  refine ⟨fun h1 => err (chE_8 hc1 (hb1.1 h1)) (by decide), fun h1 => ?_⟩
  have n1 : ¬ (add = true ∧ id ∈ l) := fun w => by have := hb1.2 w; simp only at h1; rw [h1] at this; cases this
  have c1 : Cu l add id 1 := ⟨hc1.r, hc1.lo, hc1.hi, fun _ => n1, fun f => by omega, fun f => by omega, fun f => by omega⟩
  refine ⟨⟨fun h2 => At.mk' ⟨!decide (id ∈ l), c1, ?_⟩ rfl, fun h2 => At.mk' ⟨false, c1, ?_⟩ rfl⟩, ?_⟩
  · simp at h2; simp [h2]
  · simp at h2; simp [h2]
  rintro ⟨b2, hc2, hb2⟩
  refine ⟨fun h1 => err (chE_7 hc2 (hb2.1 h1)) (by decide), fun h1 => ?_⟩
  have n2 : ¬ (add = false ∧ id ∉ l) := fun w => by have := hb2.2 w; simp only at h1; rw [h1] at this; cases this
  have c2 : Cu l add id 2 := ⟨hc1.r, hc1.lo, hc1.hi, fun _ => n1, fun _ => n2, fun f => by omega, fun f => by omega⟩
  refine ⟨⟨fun h2 => At.mk' ⟨((ints .i64 l).length : Int) == 7, c2, ?_⟩ rfl, fun h2 => At.mk' ⟨false, c2, ?_⟩ rfl⟩, ?_⟩
  · rw [ints_len]; simp only [beq_iff_eq, h2, true_and]; omega
  · simp [h2]
  rintro ⟨b3, hc3, hb3⟩
  refine ⟨fun h1 => err (chE_6 hc3 (hb3.1 h1)) (by decide), fun h1 => ?_⟩
  have n3 : ¬ (add = true ∧ l.length = 7) := fun w => by have := hb3.2 w; simp only at h1; rw [h1] at this; cases this
  have c3 : Cu l add id 3 := ⟨hc1.r, hc1.lo, hc1.hi, fun _ => n1, fun _ => n2, fun _ => n3, fun f => by omega⟩
  refine ⟨⟨fun h2 => At.mk' ⟨((ints .i64 l).length : Int) == 1, c3, ?_⟩ rfl, fun h2 => At.mk' ⟨false, c3, ?_⟩ rfl⟩, ?_⟩
  · simp at h2; rw [ints_len]; simp only [beq_iff_eq, h2, true_and]; omega
  · simp at h2; simp [h2]
  rintro ⟨b4, hc4, hb4⟩
  refine ⟨fun h1 => err (chE_9 hc4 (hb4.1 h1)) (by decide), fun h1 => ?_⟩
  have n4 : ¬ (add = false ∧ l.length = 1) := fun w => by have := hb4.2 w; simp only at h1; rw [h1] at this; cases this
  have c4 : Cu l add id 4 := ⟨hc1.r, hc1.lo, hc1.hi, fun _ => n1, fun _ => n2, fun _ => n3, fun _ => n4⟩
  refine ⟨fun h2 => ⟨by rw [ints_len]; omega, l, rfl, ints_len, ⟨hl⟩, fun t => ?_⟩, fun h2 => ?_⟩
  · simp at h2; subst h2
    exact h _ t 0 (chP_del c4)
  · simp at h2; subst h2
    have hadd := h _ [] 0 (chP_add c4)
    rw [List.append_nil, sortI_len, List.length_append, List.length_singleton] at hadd
    have e1 : List.take (ints .i64 l).length (ints .i64 l) ++ [[D.val (.int .i64 id)]] = ints .i64 (l ++ [id] ++ []) := by rw [List.take_length, List.append_nil, ints_app]; rfl
    simp only [ints_len] at e1 ⊢
    refine ⟨⟨by omega, ⟨rfl⟩, Nat.le_refl _, Nat.le_refl _, by omega, trivial, l ++ [id], [], e1, by rw [List.length_append, List.length_singleton], by rw [List.length_append, List.length_singleton]; omega, by rw [List.append_nil]; exact hadd⟩, by omega, Nat.le_refl _, Nat.le_refl _, by omega, trivial, l ++ [id], [], e1, by rw [List.length_append, List.length_singleton], by rw [List.length_append, List.length_singleton]; omega, by rw [List.append_nil]; exact hadd⟩)
theorem rcO_len {l : List Int} {add : Bool} {id : Int} {v : Nat} : (rcO l add id v).length ≤ v := by
  have := List.length_filter_le (fun x => decide (rcP l add id x)) ((List.range v).map (fun (k : Nat) => (k : Int)))
  simp only [List.length_map, List.length_range] at this
  exact this
theorem rcO_succ {l : List Int} {add : Bool} {id : Int} {v : Nat} : rcO l add id (v + 1) = rcO l add id v ++ if rcP l add id v then [(v : Int)] else [] := by
  unfold rcO
  rw [List.range_succ, List.map_append, List.filter_append]
  congr 1
  by_cases h : rcP l add id v
  · rw [if_pos h]; simp [h]
  · rw [if_neg h]; simp [h]
theorem rcO_mem {l : List Int} {add : Bool} {id : Int} {v : Nat} {x : Int} : x ∈ rcO l add id v ↔ (0 ≤ x ∧ x < v) ∧ rcP l add id x := by
  unfold rcO
  simp only [List.mem_filter, List.mem_map, List.mem_range, decide_eq_true_eq]
  constructor
  · rintro ⟨⟨k, hk, rfl⟩, h⟩; exact ⟨by omega, h⟩
  · rintro ⟨⟨h1, h2⟩, h⟩; exact ⟨⟨x.toNat, by omega, by omega⟩, h⟩
theorem rcO_inc {l : List Int} {add : Bool} {id : Int} {v : Nat} : (rcO l add id v).Pairwise (fun x y => x < y) := by
  unfold rcO
  refine List.Pairwise.filter _ ?_
  rw [List.pairwise_map]
  exact List.pairwise_lt_range.imp (fun h => by omega)
theorem chP_ref {l : List Int} {add : Bool} {id : Int} (h : Cu l add id 4) : ChP l add id (rcO l add id 16) 0 := by
  refine ⟨(chE_ok h).symm, fun f => absurd rfl f, rcO_inc, fun _ x => ?_⟩
  rw [rcO_mem]
  have hm : x ∈ l → 0 ≤ x ∧ x ≤ 15 := right_mem h.r
  have h1 := h.lo
  have h2 := h.hi
  unfold rcP
  constructor
  · rintro ⟨_, ⟨h3, h4⟩ | ⟨h3, h4⟩⟩
    · cases add
      · refine .inr ⟨rfl, h3, ?_⟩
        rcases h4 with h4 | h4
        · cases h4
        · exact h4
      · exact .inl ⟨rfl, .inl h3⟩
    · exact .inl ⟨h3, .inr h4⟩
  · rintro (⟨h3, h4 | h4⟩ | ⟨h3, h4, h5⟩)
    · have := hm h4; exact ⟨by omega, .inl ⟨h4, .inl h3⟩⟩
    · exact ⟨by omega, .inr ⟨h3, h4⟩⟩
    · have := hm h4; exact ⟨by omega, .inl ⟨h4, .inr h5⟩⟩
theorem okRefChange : SpecOk Try.prog 13 SChange := specOk_nt XCh_ok mixed [.slot 0 3 1] (fun args kb K h => by
  unfold SChange at h; split at h <;> try exact h.elim
  rename_i add id
  obtain ⟨l, rfl, ⟨hl⟩, h⟩ := h
  have err : ∀ {e : Int}, chE l add id = e → e ≠ 0 → K (.tup [.sl 0 0 0, .int .i64 e]) [.row 3 1 []] := fun he h0 => h [] [] _ (chP_err he h0)
  refine ⟨rcT l add id 13, vcRefChange l add id K ⟨⟨l, rfl, ⟨hl⟩, fun b hb => ⟨fun h1 => ?_, fun h1 => ⟨fun h2 => ?_, fun h2 => ⟨fun h3 => ?_, fun h3 => ?_⟩⟩⟩⟩, ?_⟩⟩
  · simp only [Bool.not_eq_true'] at h1
    exact err (chE_0 fun w => by rw [hb.2 w.1] at h1; cases h1) (by decide)
  · simp only [decide_eq_true_eq] at h2
    exact err (chE_0 fun w => by omega) (by decide)
  · simp only [decide_eq_true_eq] at h3
    exact err (chE_0 fun w => by omega) (by decide)
  · simp only [decide_eq_false_iff_not, Bool.not_eq_false'] at h1 h2 h3
    exact At.mk' ⟨0, rfl, hb.1 h1, by omega, by omega, fun f => by omega, fun f => by omega, fun f => by omega, fun f => by omega⟩ rfl
  rintro ⟨_, _, c0⟩
  refine ⟨⟨fun h2 => ⟨l, rfl, ⟨hl⟩, fun h3 => ?_, fun h3 => ?_⟩, fun h2 => ?_⟩, ?_⟩
  · simp only [decide_eq_true_eq] at h3
    exact err (chE_8 c0 ⟨h2, h3⟩) (by decide)
  · simp only [decide_eq_false_iff_not] at h3
    exact At.mk' ⟨0, rfl, c0.r, c0.lo, c0.hi, fun _ w => h3 w.2, fun f => by omega, fun f => by omega, fun f => by omega⟩ rfl
  · exact At.mk' ⟨0, rfl, c0.r, c0.lo, c0.hi, fun _ w => (by rw [h2] at w; cases w.1), fun f => by omega, fun f => by omega, fun f => by omega⟩ rfl
  rintro ⟨_, _, c1⟩
  refine ⟨⟨fun h2 => ⟨l, rfl, ⟨hl⟩, fun h3 => ?_, fun h3 => ?_⟩, fun h2 => ?_⟩, ?_⟩
  · simp only [Bool.not_eq_true', decide_eq_false_iff_not] at h2 h3
    exact err (chE_7 c1 ⟨h2, h3⟩) (by decide)
  · simp only [Bool.not_eq_false', decide_eq_true_eq] at h3
    exact At.mk' ⟨0, rfl, c1.r, c1.lo, c1.hi, fun _ => c1.a (by omega), fun _ w => w.2 h3, fun f => by omega, fun f => by omega⟩ rfl
  · simp only [Bool.not_eq_false'] at h2
    exact At.mk' ⟨0, rfl, c1.r, c1.lo, c1.hi, fun _ => c1.a (by omega), fun _ w => (by rw [h2] at w; cases w.1), fun f => by omega, fun f => by omega⟩ rfl
  rintro ⟨_, _, c2⟩
  refine ⟨⟨fun h2 => ⟨fun h3 => ?_, fun h3 => ?_⟩, fun h2 => ?_⟩, ?_⟩
  · simp only [ints_len, beq_iff_eq] at h3
    exact err (chE_6 c2 ⟨h2, by omega⟩) (by decide)
  · simp only [ints_len, beq_eq_false_iff_ne, ne_eq] at h3
    exact At.mk' ⟨0, rfl, c2.r, c2.lo, c2.hi, fun _ => c2.a (by omega), fun _ => c2.b (by omega), fun _ w => h3 (by omega), fun f => by omega⟩ rfl
  · exact At.mk' ⟨0, rfl, c2.r, c2.lo, c2.hi, fun _ => c2.a (by omega), fun _ => c2.b (by omega), fun _ w => (by rw [h2] at w; cases w.1), fun f => by omega⟩ rfl
  rintro ⟨_, _, c3⟩
  refine ⟨⟨fun h2 => ⟨fun h3 => ?_, fun h3 => ?_⟩, fun h2 => ?_⟩, ?_⟩
  · simp only [Bool.not_eq_true', ints_len, beq_iff_eq] at h2 h3
    exact err (chE_9 c3 ⟨h2, by omega⟩) (by decide)
  · simp only [ints_len, beq_eq_false_iff_ne, ne_eq] at h3
    exact At.mk' ⟨0, rfl, c3.r, c3.lo, c3.hi, fun _ => c3.a (by omega), fun _ => c3.b (by omega), fun _ => c3.c (by omega), fun _ w => h3 (by omega)⟩ rfl
  · simp only [Bool.not_eq_false'] at h2
    exact At.mk' ⟨0, rfl, c3.r, c3.lo, c3.hi, fun _ => c3.a (by omega), fun _ => c3.b (by omega), fun _ => c3.c (by omega), fun _ w => (by rw [h2] at w; cases w.1)⟩ rfl
  rintro ⟨_, _, c4⟩
  refine ⟨At.mk' ⟨0, by omega, c4⟩ rfl, ?_⟩
  rintro ⟨v, hv, _⟩
  dsimp only
  have hrl := rcO_len (l := l) (add := add) (id := id) (v := v)
  have e1 : IntKind.i64.wrap ((v : Int) + 1) = ((v + 1 : Nat) : Int) := by rw [w64 (by omega) (by omega)]; rfl
  simp only [decide_eq_true_eq, decide_eq_false_iff_not, ints_len]
  refine ⟨fun hc => ⟨l, rfl, ⟨hl⟩, ?_⟩, fun hc => ?_⟩
  · have yes : rcP l add id v → 1 ≤ 1 ∧ (rcO l add id v).length ≤ (rcO l add id v).length ∧ ((rcO l add id v).length + 1) * 8 ≤ 140737488355328 ∧ Nx (rcLI l add id) ⟨v, hv, c4⟩ ([V.dat (D.sl 1 (ints .i64 l)), V.sb add, V.int .i64 id, V.sl 0 0 ((rcO l add id v).length + 1), V.int .i64 (IntKind.i64.wrap ((v : Int) + 1))], [KO.row 3 1 (List.take (rcO l add id v).length (ints .i64 (rcO l add id v)) ++ [[D.val (.int .i64 (v : Int))]])]) := fun hp => by
      refine ⟨Nat.le_refl _, Nat.le_refl _, by omega, Nx.mk' (⟨v + 1, by omega, c4⟩ : {v : Nat // v ≤ 16 ∧ Cu l add id 4}) ?_ (by show 16 - (v + 1) < 16 - v; omega)⟩
      show (_ : List V × KB) = _
      have hs : rcO l add id (v + 1) = rcO l add id v ++ [(v : Int)] := by rw [rcO_succ, if_pos hp]
      have e2 : List.take (rcO l add id v).length (ints .i64 (rcO l add id v)) ++ [[D.val (.int .i64 (v : Int))]] = ints .i64 (rcO l add id (v + 1)) := by
        rw [hs, ints_app, List.take_of_length_le (by rw [ints_len]; exact Nat.le_refl _)]; rfl
      have e3 : (rcO l add id v).length + 1 = (rcO l add id (v + 1)).length := by rw [hs, List.length_append, List.length_singleton]
      rw [e1, e2, e3]
    have no : ¬ rcP l add id v → Nx (rcLI l add id) ⟨v, hv, c4⟩ ([V.dat (D.sl 1 (ints .i64 l)), V.sb add, V.int .i64 id, V.sl 0 0 (rcO l add id v).length, V.int .i64 (IntKind.i64.wrap ((v : Int) + 1))], [KO.row 3 1 (ints .i64 (rcO l add id v))]) := fun hp => by
      refine Nx.mk' (⟨v + 1, by omega, c4⟩ : {v : Nat // v ≤ 16 ∧ Cu l add id 4}) ?_ (by show 16 - (v + 1) < 16 - v; omega)
      show (_ : List V × KB) = _
      have hs : rcO l add id (v + 1) = rcO l add id v := by rw [rcO_succ, if_neg hp, List.append_nil]
      rw [e1, ← hs]
    refine ⟨fun h1 => ⟨fun h2 => yes ?_, fun h2 => ⟨fun h3 => yes ?_, fun h3 => ⟨fun h4 => ⟨fun h5 => yes ?_, fun h5 => no ?_⟩, fun h4 => no ?_⟩⟩⟩, fun h1 => ⟨fun h4 => ⟨fun h5 => yes ?_, fun h5 => no ?_⟩, fun h4 => no ?_⟩⟩ <;> (simp only [bne_iff_ne, ne_eq, bne_eq_false_iff_eq, beq_iff_eq, beq_eq_false_iff_ne] at *; unfold rcP; grind)
  · have : v = 16 := by omega
    subst this
    have := h _ [] 0 (chP_ref c4)
    rw [List.append_nil] at this
    exact this)
theorem rNum_most {l : List Int} {most : Int} (h0 : 0 ≤ most) (e : Int) : (rNum l e most).1 ≤ most ∧ 0 ≤ (rNum l e most).1 := by
  unfold rNum
  split
  · split
    · split
      · exact ⟨h0, Int.le_refl _⟩
      · exact ⟨by simp only; omega, by simp only; omega⟩
    · exact ⟨h0, Int.le_refl _⟩
    · exact ⟨h0, Int.le_refl _⟩
  · exact ⟨h0, Int.le_refl _⟩
theorem rNum0 {b : List Int} {v : Int} {u : Nat} {most : Int} (hb : Byt b) (h : rNum b 0 most = (v, u, 0)) : b = numW v ++ b.drop u ∧ u = (numW v).length ∧ 0 ≤ v ∧ v ≤ 9223372036854775807 := by
  unfold rNum at h
  rw [if_pos rfl] at h
  split at h
  · rename_i w n hn
    split at h
    · simp at h
    · simp only [Prod.mk.injEq, and_true] at h
      obtain ⟨rfl, rfl⟩ := h
      obtain ⟨h1, h2, r, h3⟩ := numR_got hb hn
      refine ⟨?_, h2, by omega, h1⟩
      have : b.drop n = r := by rw [h3, h2, List.drop_left]
      rw [this]; exact h3
  · simp at h
  · simp at h
theorem rNum_e {l : List Int} {e most : Int} (h : e ≠ 0) : rNum l e most = (0, 0, e) := by unfold rNum; rw [if_neg h]
theorem qd_le {b : List Int} (hb : Byt b) : ∀ k, (qdS b k).1 ≤ b.length ∧ (qdS b k).2.2.length = k
  | 0 => ⟨(rNum_val hb 0 7).2.2, rfl⟩
  | k + 1 => by
    obtain ⟨h1, h2⟩ := qd_le hb k
    have := (rNum_val (byt_drop hb (qdS b k).1) (qdS b k).2.1 15).2.2
    rw [List.length_drop] at this
    exact ⟨by simp only [qdS]; omega, by simp only [qdS, List.length_append, List.length_singleton, h2]⟩
theorem qd_e {b : List Int} : ∀ k, (qdS b (k + 1)).2.1 = 0 → (qdS b k).2.1 = 0 := fun k h => by
  simp only [qdS] at h
  by_cases h0 : (qdS b k).2.1 = 0
  · exact h0
  · rw [rNum_e h0] at h; exact absurd h h0
theorem catN_app {a b : List Int} : catN (a ++ b) = catN a ++ catN b := by unfold catN; rw [List.map_append, List.flatten_append]
theorem qd_back {b : List Int} (hb : Byt b) : ∀ k, (qdS b k).2.1 = 0 → b = numW (rNum b 0 7).1 ++ (catN (qdS b k).2.2 ++ b.drop (qdS b k).1) ∧ (rNum b 0 7).2.2 = 0
  | 0, h => by
    have h0 : (rNum b 0 7).2.2 = 0 := h
    have := rNum0 (b := b) (v := (rNum b 0 7).1) (u := (rNum b 0 7).2.1) (most := 7) hb (Prod.ext rfl (Prod.ext rfl h0))
    exact ⟨this.1, h0⟩
  | k + 1, h => by
    have hk := qd_e k h
    obtain ⟨h1, h2⟩ := qd_back hb k hk
    refine ⟨?_, h2⟩
    simp only [qdS] at h ⊢
    rw [hk] at h ⊢
    have := rNum0 (b := b.drop (qdS b k).1) (v := (rNum (b.drop (qdS b k).1) 0 15).1) (u := (rNum (b.drop (qdS b k).1) 0 15).2.1) (most := 15) (byt_drop hb _) (Prod.ext rfl (Prod.ext rfl h))
    rw [catN_app, List.append_assoc]
    have e1 : catN [(rNum (b.drop (qdS b k).1) 0 15).1] = numW (rNum (b.drop (qdS b k).1) 0 15).1 := by simp [catN]
    rw [e1, ← List.drop_drop, ← this.1]
    exact h1
theorem rEnd_0 {l : List Int} {e : Int} (h : rEnd l e = 0) : e = 0 ∧ l = [] := by
  unfold rEnd at h
  split at h
  · omega
  · rename_i hh
    refine ⟨h, ?_⟩
    by_cases hd : l = []
    · exact hd
    · exact absurd ⟨hd, h⟩ hh
theorem qd_of {r : List Int} (hr : RightL r) : ∀ k, k ≤ r.length → qdS (qW r) k = ((numW (r.length : Int) ++ catN (r.take k)).length, 0, r.take k)
  | 0, _ => by
    have := rNum_app (n := (r.length : Int)) (most := 7) (by omega) (by have := hr.hi; omega) (by have := hr.hi; omega) (catN r)
    simp only [qdS]
    unfold qW
    rw [this]
    simp [catN]
  | k + 1, hk => by
    have hkl : k < r.length := by omega
    have hok := hr.ok k hkl
    simp only [qdS, qd_of hr k (by omega)]
    have hsplit : qW r = (numW (r.length : Int) ++ catN (r.take k)) ++ (numW (gI r k) ++ catN (r.drop (k + 1))) := by
      unfold qW
      rw [List.append_assoc]
      congr 1
      have e0 : r = r.take k ++ gI r k :: r.drop (k + 1) := by
        have h1 := List.drop_eq_getElem_cons hkl
        have h2 := gI_get hkl
        rw [List.getElem?_eq_getElem hkl, Option.some.injEq] at h2
        rw [← h2, ← h1, List.take_append_drop]
      conv => lhs; rw [e0]
      rw [catN_app]
      simp [catN]
    have hd : (qW r).drop (numW (r.length : Int) ++ catN (r.take k)).length = numW (gI r k) ++ catN (r.drop (k + 1)) := by rw [hsplit, List.drop_left]
    unfold okAt at hok
    rw [hd, rNum_app hok.1 (by omega) hok.2.1, gI_take hkl, catN_app]
    have e1 : catN [gI r k] = numW (gI r k) := by simp [catN]
    rw [e1, ← List.append_assoc]
    simp only [List.length_append, Nat.add_assoc]
theorem rd_plain {b : List Int} (hb : Byt b) : (rEnd (b.drop (qdS b (rdN b)).1) (qdS b (rdN b)).2.1 = 0 ∧ RightL (qdS b (rdN b)).2.2 → b = qW (qdS b (rdN b)).2.2) ∧
    ((∃ r, RightL r ∧ b = qW r) → rEnd (b.drop (qdS b (rdN b)).1) (qdS b (rdN b)).2.1 = 0 ∧ RightL (qdS b (rdN b)).2.2) := by
  constructor
  · rintro ⟨h1, h2⟩
    obtain ⟨h3, h4⟩ := rEnd_0 h1
    obtain ⟨h5, h6⟩ := qd_back hb _ h3
    rw [h4, List.append_nil] at h5
    have h7 := (qd_le hb (rdN b)).2
    have h8 := rNum_most (l := b) (most := 7) (by omega) 0
    have h9 : ((qdS b (rdN b)).2.2.length : Int) = (rNum b 0 7).1 := by rw [h7]; unfold rdN; omega
    unfold qW
    rw [h9]
    exact h5
  · rintro ⟨r, hr, rfl⟩
    have hn : rdN (qW r) = r.length := by
      unfold rdN
      have := rNum_app (n := (r.length : Int)) (most := 7) (by omega) (by have := hr.hi; omega) (by have := hr.hi; omega) (catN r)
      unfold qW
      rw [this]
      simp
    rw [hn, qd_of hr r.length (Nat.le_refl _), List.take_length]
    refine ⟨?_, hr⟩
    show rEnd ((qW r).drop (qW r).length) 0 = 0
    rw [List.drop_length]; rfl
theorem qpS_ok : AllOk Try.prog qpS := fun f k h => by
  unfold qpS at h
  split at h
  · cases h; exact okRight
  · exact pkS_ok _ _ h
theorem XQp_ok : CallOk Try.prog XQp := callS_ok mixed qpS_ok noT 10
theorem catN_take {l : List Int} {i : Nat} (h : i < l.length) : catN (l.take (i + 1)) = catN (l.take i) ++ numW (gI l i) := by
  rw [gI_take h, catN_app]; simp [catN]
theorem catN_len : ∀ (l : List Int), (catN l).length ≤ 9 * l.length
  | [] => by simp [catN]
  | a :: l => by
    have := catN_len l
    have h1 := numW_len a
    have e : catN (a :: l) = numW a ++ catN l := by simp [catN]
    rw [e, List.length_append, List.length_cons]; omega
theorem okQBytes : SpecOk Try.prog 21 SqBytes := specOk_tidy XQp_ok mixed (fun args kb K h => by
  unfold SqBytes at h; split at h <;> try exact h.elim
  obtain ⟨l, rfl, hl, hx, h⟩ := h
  have h9 := numW_len (l.length : Int)
  refine ⟨qbT l [] 21, vcQBytes l K ⟨[], rfl, rfl, by simp, ⟨by rw [ints_len]; omega⟩, ?_, ?_⟩⟩
  · rw [List.nil_append, ints_len]
    exact At.mk' ⟨0, Nat.zero_le _⟩ (by simp [catN])
  rintro ⟨i, hi⟩
  have hc := catN_len (l.take i)
  rw [List.length_take] at hc
  dsimp only
  simp only [decide_eq_true_eq, decide_eq_false_iff_not]
  refine ⟨fun hlt => el (by omega) ⟨_, rfl, rfl, by rw [List.length_append]; omega, ⟨hx _ (gI_mem (by omega))⟩, ?_⟩, fun hge => ⟨_, rfl, rfl, by rw [List.length_append]; omega, ?_⟩⟩
  · have hlt' : i < l.length := by omega
    have e1 : IntKind.i64.wrap ((i : Int) + 1) = ((i + 1 : Nat) : Int) := by rw [w64 (by omega) (by omega)]; rfl
    rw [List.append_assoc, ← catN_take hlt', e1]
    exact Nx.mk' (⟨i + 1, by omega⟩ : {i : Nat // i ≤ l.length}) rfl (by show l.length - (i + 1) < l.length - i; omega)
  · have : i = l.length := by omega
    subst this
    rw [List.take_length]
    exact h)
theorem okQRead : SpecOk Try.prog 19 SqRead := specOk_nt XQp_ok mixed [.slot 0 3 1] (fun args kb K h => by
  unfold SqRead at h; split at h <;> try exact h.elim
  obtain ⟨b, rfl, hb, hl, h⟩ := h
  obtain ⟨p1, p2⟩ := rd_plain hb
  have h7 := rNum_most (l := b) (most := 7) (by omega) 0
  have no : ¬ (rEnd (b.drop (qdS b (rdN b)).1) (qdS b (rdN b)).2.1 = 0 ∧ RightL (qdS b (rdN b)).2.2) → K (.tup [.sl 0 0 0, .sb false]) [.row 3 1 []] := fun hn =>
    h false [] ⟨fun f => (by cases f), fun _ => ⟨rfl, fun hr => hn (p2 hr)⟩⟩
  refine ⟨qbT [] b 19, vcQRead b K ⟨by rw [ints_len]; omega, b, rfl, ints_len, Nat.zero_le _, hb, by omega, ?_, ?_⟩⟩
  · rw [List.drop_zero, Nat.zero_add]
    have e1 : (rNum b 0 7).1 = (rdN b : Int) := by unfold rdN; omega
    rw [e1]
    exact At.mk' ⟨0, Nat.zero_le _, (qd_le hb 0).1⟩ rfl
  rintro ⟨k, hk, hkl⟩
  dsimp only
  have hq := qd_le hb k
  have h7' : rdN b ≤ 7 := by unfold rdN; omega
  simp only [decide_eq_true_eq, decide_eq_false_iff_not, ints_len]
  refine ⟨fun hc => ⟨b, rfl, rfl, hkl, hb, by omega, Nat.le_refl _, by omega, by omega, ?_⟩, fun hc => ⟨b, rfl, rfl, fun h1 => ?_, fun h1 => ⟨⟨by omega, trivial⟩, (qdS b k).2.2, ?_, ?_, fun q hq2 => ⟨trivial, fun h2 => ?_, fun h2 => ?_⟩⟩⟩⟩
  · have e1 : IntKind.i64.wrap ((k : Int) + 1) = ((k + 1 : Nat) : Int) := by rw [w64 (by omega) (by omega)]; rfl
    refine Nx.mk' (⟨k + 1, by omega, (qd_le hb (k + 1)).1⟩ : {k : Nat // k ≤ rdN b ∧ (qdS b k).1 ≤ b.length}) ?_ (by show rdN b - (k + 1) < rdN b - k; omega)
    show (_ : List V × KB) = _
    have e2 : List.take k (ints .i64 (qdS b k).2.2) = ints .i64 (qdS b k).2.2 := List.take_of_length_le (by rw [ints_len]; omega)
    have e3 : ints .i64 (qdS b k).2.2 ++ [[D.val (.int .i64 (rNum (b.drop (qdS b k).1) (qdS b k).2.1 15).1)]] = ints .i64 (qdS b (k + 1)).2.2 := by simp only [qdS, ints_app]; rfl
    rw [e1, e2, e3]
    rfl
  · have hke : k = rdN b := by omega
    subst hke
    simp only [bne_iff_ne, ne_eq] at h1
    exact no fun w => h1 w.1
  · rw [List.drop_zero]
    exact List.take_of_length_le (by rw [ints_len]; omega)
  · exact ⟨by omega⟩
  · have hke : k = rdN b := by omega
    subst hke
    simp only [Bool.not_eq_true'] at h2
    exact no fun w => by rw [hq2.2 w.2] at h2; cases h2
  · have hke : k = rdN b := by omega
    subst hke
    simp only [Bool.not_eq_false', bne_eq_false_iff_eq] at h1 h2
    have hR := hq2.1 h2
    have := h true (qdS b (rdN b)).2.2 ⟨fun _ => ⟨hR, p1 ⟨h1, hR⟩⟩, fun f => (by cases f)⟩
    rw [hq.2] at this
    exact this)
end Go.Proofs.Ytmmmbdpnhlebaaa
