import Derived.Test.YtodibmhakdhflaaFr
import Derived.KernelRfl
namespace Go.Proofs.Ytodibmhakdhflaa
open Vc Go
set_option linter.unusedVariables false
set_option linter.unusedSimpArgs false
set_option maxRecDepth 100000
abbrev nz (r : List Nat) : List Int := r.map (fun (k : Nat) => (k : Int))
def AllC (l : List Call) : Prop := ∀ c ∈ l, okC c
def WitI (l : List Call) (o : List Int) : Prop := ∃ r : List Nat, o = nz r ∧ Wit l r
/-- The document's: how far it is looked at. -/
structure ReInv (l : List Call) (o : List Int) (p : Nat × Int) : Prop where
  le : p.1 ≤ o.length
  run : ∃ r : List Nat, o.take p.1 = nz r ∧ (∀ x ∈ r, x < l.length) ∧ (AllC l → ∀ s, Run l [] 0 (r ++ s) ↔ Run l r p.2 s)
abbrev kAt (o : List Int) (i : Nat) : Int := o.getD i 0
structure CuInv (l : List Call) (o : List Int) (p : Nat × Int) : Prop where
  lt : p.1 < o.length
  lo : 0 ≤ kAt o p.1
  hi : kAt o p.1 < l.length
  new : kAt o p.1 ∉ o.take p.1
  ok : AllC l → ¬ unC (atC l (kAt o p.1).toNat) ∧ fitC (atC l (kAt o p.1).toNat) p.2
abbrev reCutA (l : List Call) (o : List Int) (p : Nat × Int) : LI where
  α := {q : Nat // q = 0 ∧ CuInv l o p}
  live := [0, 1, 5, 6, 7]
  st q := ([.dat (.sl 4 (l.map callR)), .dat (.sl 1 (ints .i64 o)), .int .i64 p.2, .int .i64 (p.1 : Int), .int .i64 (kAt o p.1)], [])
  μ q := 0
def nxA (c : Call) (v : Int) : Int := if c.1 = 1 then c.2.1 else v
abbrev reCutB (l : List Call) (o : List Int) (p : Nat × Int) : LI where
  α := {q : Nat // q = 0 ∧ CuInv l o p}
  live := [0, 1, 5, 6, 7]
  st q := ([.dat (.sl 4 (l.map callR)), .dat (.sl 1 (ints .i64 o)), .int .i64 (nxA (atC l (kAt o p.1).toNat) p.2), .int .i64 (p.1 : Int), .int .i64 (kAt o p.1)], [])
  μ q := 0
abbrev reCut (l : List Call) (o : List Int) (p : Nat × Int) : LI where
  α := {q : Nat // q = 0 ∧ CuInv l o p}
  live := [0, 1, 5, 6, 7]
  st q := ([.dat (.sl 4 (l.map callR)), .dat (.sl 1 (ints .i64 o)), .int .i64 (nxC (atC l (kAt o p.1).toNat) p.2), .int .i64 (p.1 : Int), .int .i64 (kAt o p.1)], [])
  μ q := 0
abbrev reIn (l : List Call) (o : List Int) (p : Nat × Int) : LI where
  α := {j : Nat // j ≤ p.1 ∧ CuInv l o p ∧ ∀ x, x < j → ¬ ahC (atC l (kAt o p.1).toNat) (atC l (kAt o x).toNat)}
  live := [0, 1, 5, 6, 7, 8]
  st j := ([.dat (.sl 4 (l.map callR)), .dat (.sl 1 (ints .i64 o)), .int .i64 (nxC (atC l (kAt o p.1).toNat) p.2), .int .i64 (p.1 : Int), .int .i64 (kAt o p.1), .int .i64 (j.1 : Int)], [])
  μ j := p.1 - j.1
abbrev reLI (l : List Call) (o : List Int) : LI where
  α := {p : Nat × Int // ReInv l o p}
  live := [0, 1, 5, 6]
  st p := ([.dat (.sl 4 (l.map callR)), .dat (.sl 1 (ints .i64 o)), .int .i64 p.1.2, .int .i64 (p.1.1 : Int)], [])
  μ p := o.length - p.1.1
  sub p r := match r with
    | 1010 => some (reCutA l o p.1)
    | 1012 => some (reCutB l o p.1)
    | 1014 => some (reCut l o p.1)
    | 15 => some (reIn l o p.1)
    | _ => none
abbrev reEnd (l : List Call) (o : List Int) : LI where
  α := {k : Nat // k ≤ l.length ∧ (∃ r : List Nat, o = nz r ∧ (AllC l → Run l [] 0 r)) ∧ ∀ x, x < k → okC (atC l x) ∧ ((atC l x).2.2.2 ≠ -1 → (x : Int) ∈ o)}
  live := [0, 1, 9]
  st k := ([.dat (.sl 4 (l.map callR)), .dat (.sl 1 (ints .i64 o)), .int .i64 (k.1 : Int)], [])
  μ k := l.length - k.1
def reT (l : List Call) (o : List Int) : FuncId → Nat → Option LI
  | 11, 3 => some (reLI l o)
  | 11, 20 => some (reEnd l o)
  | _, _ => none
/-- The program's. -/
def atM (o : List Int) : Nat → ML
  | 0 => []
  | i + 1 => mset (atM o i) [kAt o i] [dn .i64 (i : Int)]
def RunV (l : List Call) : List Nat → Int → List Nat → Prop
  | _, _, [] => True
  | p, v, k :: r => k < l.length ∧ k ∉ p ∧ ¬ unC (atC l k) ∧ fitC (atC l k) v ∧ RunV l (p ++ [k]) (nxC (atC l k) v) r
structure PrInv (l : List Call) (o : List Int) (p : Nat × Int) : Prop where
  le : p.1 ≤ o.length
  run : ∃ r : List Nat, o.take p.1 = nz r ∧ (∀ x ∈ r, x < l.length) ∧ r.Nodup ∧ ∀ s, RunV l [] 0 (r ++ s) ↔ RunV l r p.2 s
abbrev prCut (l : List Call) (o : List Int) (p : Nat × Int) : LI where
  α := {q : Nat // q = 0 ∧ PrInv l o p ∧ p.1 < o.length ∧ 0 ≤ kAt o p.1 ∧ kAt o p.1 < l.length ∧ ¬ unC (atC l (kAt o p.1).toNat)}
  live := [0, 1, 5, 6, 7, 8, 19, 20, 21]
  st q := ([.dat (.sl 4 (l.map callR)), .dat (.sl 1 (ints .i64 o)), .mp 0, .int .i64 p.2, .int .i64 (p.1 : Int), .int .i64 (kAt o p.1), .dat (.sl 1 (ints .i64 o)), .int .i64 (o.length : Int), .int .i64 (p.1 : Int)], [.mp [.i64] false false 1 (atM o p.1)])
  μ q := 0
abbrev prLI (l : List Call) (o : List Int) : LI where
  α := {p : Nat × Int // PrInv l o p}
  live := [0, 1, 5, 6, 19, 20, 21]
  st p := ([.dat (.sl 4 (l.map callR)), .dat (.sl 1 (ints .i64 o)), .mp 0, .int .i64 p.1.2, .dat (.sl 1 (ints .i64 o)), .int .i64 (o.length : Int), .int .i64 (p.1.1 : Int)], [.mp [.i64] false false 1 (atM o p.1.1)])
  μ p := o.length - p.1.1
  sub p r := match r with
    | 1008 => some (prCut l o p.1)
    | _ => none
structure P2Inv (l : List Call) (o : List Int) (k : Nat) : Prop where
  le : k ≤ l.length
  run : ∃ r : List Nat, o = nz r ∧ (∀ x ∈ r, x < l.length) ∧ r.Nodup ∧ RunV l [] 0 r
  ok : ∀ x, x < k → okC (atC l x) ∧ ((atC l x).2.2.2 ≠ -1 → (x : Int) ∈ o) ∧ ∀ j, j < o.length → kAt o j = x → ∀ i, i < j → ¬ ahC (atC l x) (atC l (kAt o i).toNat)
abbrev prIn (l : List Call) (o : List Int) (k : Nat) : LI where
  α := {p : Nat × Nat // P2Inv l o k ∧ k < l.length ∧ p.1 < o.length ∧ kAt o p.1 = k ∧ okC (atC l k) ∧ p.2 ≤ p.1 ∧ ∀ i, i < p.2 → ¬ ahC (atC l k) (atC l (kAt o i).toNat)}
  live := [0, 1, 5, 13, 72, 73, 74, 103, 104, 105]
  st p := ([.dat (.sl 4 (l.map callR)), .dat (.sl 1 (ints .i64 o)), .mp 0, .ptr 1 0, .dat (.sl 4 (l.map callR)), .int .i64 (l.length : Int), .int .i64 (k : Int), .dat (.sl 1 (ints .i64 (o.take p.1.1))), .int .i64 (p.1.1 : Int), .int .i64 (p.1.2 : Int)], [.mp [.i64] false false 1 (atM o o.length), .cells [.int .i64 (atC l k).1, .int .i64 (atC l k).2.1, .int .i64 (atC l k).2.2.1, .int .i64 (atC l k).2.2.2]])
  μ p := p.1.1 - p.1.2
abbrev prCut2 (l : List Call) (o : List Int) (k : Nat) : LI where
  α := {j : Nat // P2Inv l o k ∧ k < l.length ∧ j < o.length ∧ kAt o j = k ∧ okC (atC l k)}
  live := [0, 1, 5, 13, 14, 72, 73, 74]
  st j := ([.dat (.sl 4 (l.map callR)), .dat (.sl 1 (ints .i64 o)), .mp 0, .ptr 1 0, .int .i64 (j.1 : Int), .dat (.sl 4 (l.map callR)), .int .i64 (l.length : Int), .int .i64 (k : Int)], [.mp [.i64] false false 1 (atM o o.length), .cells [.int .i64 (atC l k).1, .int .i64 (atC l k).2.1, .int .i64 (atC l k).2.2.1, .int .i64 (atC l k).2.2.2]])
  μ j := 0
abbrev pr2LI (l : List Call) (o : List Int) : LI where
  α := {k : Nat // P2Inv l o k}
  live := [0, 1, 5, 72, 73, 74]
  st k := ([.dat (.sl 4 (l.map callR)), .dat (.sl 1 (ints .i64 o)), .mp 0, .dat (.sl 4 (l.map callR)), .int .i64 (l.length : Int), .int .i64 (k.1 : Int)], [.mp [.i64] false false 1 (atM o o.length)])
  μ k := l.length - k.1
  sub k r := match r with
    | 25 => some (prIn l o k.1)
    | 1024 => some (prCut2 l o k.1)
    | _ => none
def prT (l : List Call) (o : List Int) : FuncId → Nat → Option LI
  | 12, 4 => some (prLI l o)
  | 12, 18 => some (pr2LI l o)
  | _, _ => none
structure IsPre (l : List Call) (o : List Int) : Prop where
  l1 : l.length ≤ 1000
  l2 : o.length ≤ 1000
def Sis : FSpec := fun args kb K => match args, kb with
  | [.dat (.sl 4 L), .dat (.sl 1 O)], [] => ∃ (l : List Call) (o : List Int), L = l.map callR ∧ O = ints .i64 o ∧ IsPre l o ∧ ∀ b : Bool, (b = true ↔ WitI l o) → K (.sb b) []
  | _, _ => False
structure AnPre (l : List Call) (r : List Nat) (n : Nat) : Prop where
  len : l.length ≤ 10
  nod : r.Nodup
  lt : ∀ x ∈ r, x < l.length
  fuel : l.length - r.length < n
def Sany (n : Nat) : FSpec := fun args kb K => match args, kb with
  | [.dat (.sl 4 L), .dat (.sl 1 O)], [] => ∃ (l : List Call) (r : List Nat), L = l.map callR ∧ O = ints .i64 (nz r) ∧ AnPre l r n ∧ ∀ b : Bool, (b = true ↔ ∃ s, Wit l (r ++ s)) → K (.sb b) []
  | _, _ => False
structure AnInv (l : List Call) (r : List Nat) (k : Nat) : Prop where
  le : k ≤ l.length
  nw : ¬ Wit l r
  no : ∀ x, x < k → x ∉ r → ¬ ∃ s, Wit l (r ++ [x] ++ s)
abbrev anLI (l : List Call) (r : List Nat) : LI where
  α := {k : Nat // AnInv l r k}
  live := [0, 1, 5]
  st k := ([.dat (.sl 4 (l.map callR)), .dat (.sl 1 (ints .i64 (nz r))), .int .i64 (k.1 : Int)], [])
  μ k := l.length - k.1
def anT (l : List Call) (r : List Nat) : FuncId → Nat → Option LI
  | 10, 4 => some (anLI l r)
  | _, _ => none
def anS (n : Nat) : FuncId → Option Known
  | 10 => some ⟨[.lend 4, .lend 1], Sany n⟩
  | 11 => some ⟨[.lend 4, .lend 1], Sis⟩
  | f => smS f
noncomputable def XAn (n : Nat) : CallT := callS Try.prog (anS n) noT 10
/-- A witness is found. -/
structure WiPost (l : List Call) (b : Bool) (o : List Int) : Prop where
  t : b = true → WitI l o
  f : b = false → o = [] ∧ (14 < l.length ∨ ¬ ∃ r, Wit l r)
def Swit : FSpec := fun args kb K => match args, kb with
  | [.dat (.sl 4 L)], [] => ∃ l : List Call, L = l.map callR ∧ l.length ≤ 1000 ∧ ∀ b o t, WiPost l b o → K (.tup [.sl 0 0 o.length, .sb b]) [.row 3 1 (ints .i64 (o ++ t))]
  | _, _ => False
def wiS : FuncId → Option Known
  | 15 => some ⟨[], nilIn [.cell 0 2 3 1] (Sfrom 100000)⟩
  | f => smS f
noncomputable def XWi : CallT := callS Try.prog wiS noT 10
abbrev wiLI (l : List Call) : LI where
  α := {i : Nat // i ≤ l.length ∧ ∀ k, k < i → okC (atC l k)}
  live := [0, 10, 11, 12]
  st i := ([.dat (.sl 4 (l.map callR)), .dat (.sl 4 (l.map callR)), .int .i64 (l.length : Int), .int .i64 (i.1 : Int)], [])
  μ i := l.length - i.1
def wiT (l : List Call) : FuncId → Nat → Option LI
  | 9, 4 => some (wiLI l)
  | _, _ => none
theorem vcRefIs (l : List Call) (o : List Int) (K : V → KB → Prop) (h :
 At (reLI l o) ([V.dat (D.sl 4 (List.map callR l)), V.dat (D.sl 1 (ints IntKind.i64 o)), V.int IntKind.i64 0, V.int IntKind.i64 0], []) ∧
 ∀ (i : { p : Nat × Int // ReInv l o p }),
 (decide ((↑i.val.fst : Int) < (↑(ints IntKind.i64 o).length : Int)) = true →
 NonN (↑i.val.fst : Int) ∧
 ∃ (e : List D),
 (ints IntKind.i64 o)[(↑i.val.fst : Int).toNat]? = some e ∧
 ∃ (n : Int),
 e[0]? = some (D.val (Value.int IntKind.i64 n)) ∧
 (decide (n < 0) = true → K (V.sb false) []) ∧
 (decide (n < 0) = false →
 (decide (n ≥ (↑(List.map callR l).length : Int)) = true → K (V.sb false) []) ∧
 (decide (n ≥ (↑(List.map callR l).length : Int)) = false →
 True ∧
 NonN (↑i.val.fst : Int) ∧
 0 ≤ (↑i.val.fst : Int).toNat ∧
 (↑i.val.fst : Int).toNat ≤ (ints IntKind.i64 o).length ∧
 ∃ (o_1 : List Int),
 List.drop 0 (List.take (↑i.val.fst : Int).toNat (ints IntKind.i64 o)) = ints IntKind.i64 o_1 ∧
 o_1.length.le 1000000 ∧
 (decide (n ∈ o_1) = true → K (V.sb false) []) ∧
 (decide (n ∈ o_1) = false →
 (NonN n ∧
 ∃ (e : List D),
 (List.map callR l)[n.toNat]? = some e ∧
 ∃ (n_1 : Int),
 e[0]? = some (D.val (Value.int IntKind.i64 n_1)) ∧
 ((n_1 == 3) = true →
 NonN n ∧
 ∃ (e : List D),
 (List.map callR l)[n.toNat]? = some e ∧
 ∃ (n_2 : Int),
 e[3]? = some (D.val (Value.int IntKind.i64 n_2)) ∧
 ((n_2 == -1) = true → K (V.sb false) []) ∧
 ((n_2 == -1) = false →
 NonN n ∧
 ∃ (e : List D),
 (List.map callR l)[n.toNat]? = some e ∧
 ∃ (n_3 : Int),
 e[1]? = some (D.val (Value.int IntKind.i64 n_3)) ∧
 ((n_3 != i.val.snd) = true → K (V.sb false) []) ∧ ((n_3 != i.val.snd) = false → At (reCutA l o i.val) ([V.dat (D.sl 4 (List.map callR l)), V.dat (D.sl 1 (ints IntKind.i64 o)), V.int IntKind.i64 i.val.snd, V.int IntKind.i64 (↑i.val.fst : Int), V.int IntKind.i64 n], [])))) ∧
 ((n_1 == 3) = false → At (reCutA l o i.val) ([V.dat (D.sl 4 (List.map callR l)), V.dat (D.sl 1 (ints IntKind.i64 o)), V.int IntKind.i64 i.val.snd, V.int IntKind.i64 (↑i.val.fst : Int), V.int IntKind.i64 n], []))) ∧
 ∀ (i_1 : { q : Nat // q = 0 ∧ CuInv l o i.val }),
 (NonN (kAt o i.val.fst) ∧
 ∃ (e : List D),
 (List.map callR l)[(kAt o i.val.fst).toNat]? = some e ∧
 ∃ (n : Int),
 e[0]? = some (D.val (Value.int IntKind.i64 n)) ∧
 ((n == 1) = true →
 NonN (kAt o i.val.fst) ∧
 ∃ (e : List D), (List.map callR l)[(kAt o i.val.fst).toNat]? = some e ∧ ∃ (n : Int), e[1]? = some (D.val (Value.int IntKind.i64 n)) ∧ At (reCutB l o i.val) ([V.dat (D.sl 4 (List.map callR l)), V.dat (D.sl 1 (ints IntKind.i64 o)), V.int IntKind.i64 n, V.int IntKind.i64 (↑i.val.fst : Int), V.int IntKind.i64 (kAt o i.val.fst)], [])) ∧
 ((n == 1) = false → At (reCutB l o i.val) ([V.dat (D.sl 4 (List.map callR l)), V.dat (D.sl 1 (ints IntKind.i64 o)), V.int IntKind.i64 i.val.snd, V.int IntKind.i64 (↑i.val.fst : Int), V.int IntKind.i64 (kAt o i.val.fst)], []))) ∧
 ∀ (i_2 : { q : Nat // q = 0 ∧ CuInv l o i.val }),
 (NonN (kAt o i.val.fst) ∧
 ∃ (e : List D),
 (List.map callR l)[(kAt o i.val.fst).toNat]? = some e ∧
 ∃ (n : Int),
 e[0]? = some (D.val (Value.int IntKind.i64 n)) ∧
 ((n == 2) = true → At (reCut l o i.val) ([V.dat (D.sl 4 (List.map callR l)), V.dat (D.sl 1 (ints IntKind.i64 o)), V.int IntKind.i64 0, V.int IntKind.i64 (↑i.val.fst : Int), V.int IntKind.i64 (kAt o i.val.fst)], [])) ∧
 ((n == 2) = false → At (reCut l o i.val) ([V.dat (D.sl 4 (List.map callR l)), V.dat (D.sl 1 (ints IntKind.i64 o)), V.int IntKind.i64 (nxA (atC l (kAt o i.val.fst).toNat) i.val.snd), V.int IntKind.i64 (↑i.val.fst : Int), V.int IntKind.i64 (kAt o i.val.fst)], []))) ∧
 ∀ (i_3 : { q : Nat // q = 0 ∧ CuInv l o i.val }),
 At (reIn l o i.val) ([V.dat (D.sl 4 (List.map callR l)), V.dat (D.sl 1 (ints IntKind.i64 o)), V.int IntKind.i64 (nxC (atC l (kAt o i.val.fst).toNat) i.val.snd), V.int IntKind.i64 (↑i.val.fst : Int), V.int IntKind.i64 (kAt o i.val.fst), V.int IntKind.i64 0], []) ∧
 ∀ (i_4 : { j : Nat // j ≤ i.val.fst ∧ CuInv l o i.val ∧ ∀ (x : Nat), x < j → ¬ahC (atC l (kAt o i.val.fst).toNat) (atC l (kAt o x).toNat) }),
 (decide ((↑i_4.val : Int) < (↑i.val.fst : Int)) = true →
 NonN (kAt o i.val.fst) ∧
 ∃ (e : List D),
 (List.map callR l)[(kAt o i.val.fst).toNat]? = some e ∧
 ∃ (n : Int),
 e[3]? = some (D.val (Value.int IntKind.i64 n)) ∧
 ((n != -1) = true →
 NonN (kAt o i.val.fst) ∧
 ∃ (e : List D),
 (List.map callR l)[(kAt o i.val.fst).toNat]? = some e ∧
 ∃ (n : Int),
 e[3]? = some (D.val (Value.int IntKind.i64 n)) ∧
 NonN (↑i_4.val : Int) ∧
 ∃ (e : List D),
 (ints IntKind.i64 o)[(↑i_4.val : Int).toNat]? = some e ∧
 ∃ (n_1 : Int),
 e[0]? = some (D.val (Value.int IntKind.i64 n_1)) ∧
 NonN n_1 ∧
 ∃ (e : List D),
 (List.map callR l)[n_1.toNat]? = some e ∧
 ∃ (n_2 : Int),
 e[2]? = some (D.val (Value.int IntKind.i64 n_2)) ∧
 (decide (n < n_2) = true → K (V.sb false) []) ∧
 (decide (n < n_2) = false →
 Nx (reIn l o i.val) i_4
 ([V.dat (D.sl 4 (List.map callR l)), V.dat (D.sl 1 (ints IntKind.i64 o)), V.int IntKind.i64 (nxC (atC l (kAt o i.val.fst).toNat) i.val.snd), V.int IntKind.i64 (↑i.val.fst : Int), V.int IntKind.i64 (kAt o i.val.fst), V.int IntKind.i64 (IntKind.i64.wrap ((↑i_4.val : Int) + 1))], []))) ∧
 ((n != -1) = false →
 Nx (reIn l o i.val) i_4 ([V.dat (D.sl 4 (List.map callR l)), V.dat (D.sl 1 (ints IntKind.i64 o)), V.int IntKind.i64 (nxC (atC l (kAt o i.val.fst).toNat) i.val.snd), V.int IntKind.i64 (↑i.val.fst : Int), V.int IntKind.i64 (kAt o i.val.fst), V.int IntKind.i64 (IntKind.i64.wrap ((↑i_4.val : Int) + 1))], []))) ∧
 (decide ((↑i_4.val : Int) < (↑i.val.fst : Int)) = false → Nx (reLI l o) i ([V.dat (D.sl 4 (List.map callR l)), V.dat (D.sl 1 (ints IntKind.i64 o)), V.int IntKind.i64 (nxC (atC l (kAt o i.val.fst).toNat) i.val.snd), V.int IntKind.i64 (IntKind.i64.wrap ((↑i.val.fst : Int) + 1))], [])))))) ∧
 (decide ((↑i.val.fst : Int) < (↑(ints IntKind.i64 o).length : Int)) = false →
 At (reEnd l o) ([V.dat (D.sl 4 (List.map callR l)), V.dat (D.sl 1 (ints IntKind.i64 o)), V.int IntKind.i64 0], []) ∧
 ∀ (i : { k : Nat // k ≤ l.length ∧ (∃ (r : List Nat), o = nz r ∧ (AllC l → Run l [] 0 r)) ∧ ∀ (x : Nat), x < k → okC (atC l x) ∧ ((atC l x).snd.snd.snd ≠ -1 → (↑x : Int) ∈ o) }),
 (decide ((↑i.val : Int) < (↑(List.map callR l).length : Int)) = true →
 NonN (↑i.val : Int) ∧
 ∃ (e : List D),
 (List.map callR l)[(↑i.val : Int).toNat]? = some e ∧
 ∃ (n : Int),
 e[0]? = some (D.val (Value.int IntKind.i64 n)) ∧
 ∃ (n_1 : Int),
 e[1]? = some (D.val (Value.int IntKind.i64 n_1)) ∧
 ∃ (n_2 : Int),
 e[2]? = some (D.val (Value.int IntKind.i64 n_2)) ∧
 ∃ (n_3 : Int),
 e[3]? = some (D.val (Value.int IntKind.i64 n_3)) ∧
 ((!decide (okC (n, n_1, n_2, n_3))) = true → K (V.sb false) []) ∧
 ((!decide (okC (n, n_1, n_2, n_3))) = false →
 NonN (↑i.val : Int) ∧
 ∃ (e : List D),
 (List.map callR l)[(↑i.val : Int).toNat]? = some e ∧
 ∃ (n : Int),
 e[3]? = some (D.val (Value.int IntKind.i64 n)) ∧
 ((n != -1) = true →
 ∃ (o_1 : List Int),
 ints IntKind.i64 o = ints IntKind.i64 o_1 ∧ o_1.length.le 1000000 ∧ ((!decide ((↑i.val : Int) ∈ o_1)) = true → K (V.sb false) []) ∧ ((!decide ((↑i.val : Int) ∈ o_1)) = false → Nx (reEnd l o) i ([V.dat (D.sl 4 (List.map callR l)), V.dat (D.sl 1 (ints IntKind.i64 o)), V.int IntKind.i64 (IntKind.i64.wrap ((↑i.val : Int) + 1))], []))) ∧
 ((n != -1) = false → Nx (reEnd l o) i ([V.dat (D.sl 4 (List.map callR l)), V.dat (D.sl 1 (ints IntKind.i64 o)), V.int IntKind.i64 (IntKind.i64.wrap ((↑i.val : Int) + 1))], [])))) ∧
 (decide ((↑i.val : Int) < (↑(List.map callR l).length : Int)) = false → K (V.sb true) []))
 ) : runSpec Try.prog XSm (reT l o 11) 11 [.dat (.sl 4 (l.map callR)), .dat (.sl 1 (ints .i64 o))] [] K := Eq.mp (by kernel_rfl) h
theorem vcIs (l : List Call) (o : List Int) (K : V → KB → Prop) (h :
 At (prLI l o) ([V.dat (D.sl 4 (List.map callR l)), V.dat (D.sl 1 (ints IntKind.i64 o)), V.mp 0, V.int IntKind.i64 0, V.dat (D.sl 1 (ints IntKind.i64 o)), V.int IntKind.i64 (↑(ints IntKind.i64 o).length : Int), V.int IntKind.i64 0], [KO.mp [IntKind.i64] false false 1 []]) ∧
 ∀ (i : { p : Nat × Int // PrInv l o p }),
 (decide ((↑i.val.fst : Int) < (↑o.length : Int)) = true →
 NonN (↑i.val.fst : Int) ∧
 ∃ (e : List D),
 (ints IntKind.i64 o)[(↑i.val.fst : Int).toNat]? = some e ∧
 ∃ (n : Int),
 e[0]? = some (D.val (Value.int IntKind.i64 n)) ∧
 ((decide (n < 0) = true → K (V.sb false) []) ∧
 (decide (n < 0) = false →
 (decide (n ≥ (↑(List.map callR l).length : Int)) = true → K (V.sb false) []) ∧
 (decide (n ≥ (↑(List.map callR l).length : Int)) = false →
 NonN n ∧
 ∃ (e : List D),
 (List.map callR l)[n.toNat]? = some e ∧
 ∃ (n_1 : Int),
 e[0]? = some (D.val (Value.int IntKind.i64 n_1)) ∧
 ((n_1 == 3) = true →
 NonN n ∧
 ∃ (e : List D),
 (List.map callR l)[n.toNat]? = some e ∧
 ∃ (n_2 : Int),
 e[3]? = some (D.val (Value.int IntKind.i64 n_2)) ∧
 ((n_2 == -1) = true → K (V.sb false) []) ∧
 ((n_2 == -1) = false →
 At (prCut l o i.val)
 ([V.dat (D.sl 4 (List.map callR l)), V.dat (D.sl 1 (ints IntKind.i64 o)), V.mp 0, V.int IntKind.i64 i.val.snd, V.int IntKind.i64 (↑i.val.fst : Int), V.int IntKind.i64 n, V.dat (D.sl 1 (ints IntKind.i64 o)), V.int IntKind.i64 (↑o.length : Int), V.int IntKind.i64 (↑i.val.fst : Int)], [KO.mp [IntKind.i64] false false 1 (atM o i.val.fst)]))) ∧
 ((n_1 == 3) = false →
 At (prCut l o i.val)
 ([V.dat (D.sl 4 (List.map callR l)), V.dat (D.sl 1 (ints IntKind.i64 o)), V.mp 0, V.int IntKind.i64 i.val.snd, V.int IntKind.i64 (↑i.val.fst : Int), V.int IntKind.i64 n, V.dat (D.sl 1 (ints IntKind.i64 o)), V.int IntKind.i64 (↑o.length : Int), V.int IntKind.i64 (↑i.val.fst : Int)], [KO.mp [IntKind.i64] false false 1 (atM o i.val.fst)]))))) ∧
 ∀ (i_1 : { q : Nat // q = 0 ∧ PrInv l o i.val ∧ i.val.fst < o.length ∧ 0 ≤ kAt o i.val.fst ∧ kAt o i.val.fst < (↑l.length : Int) ∧ ¬unC (atC l (kAt o i.val.fst).toNat) }),
 (∀ (cs : List D), mget (atM o i.val.fst) [kAt o i.val.fst] = some cs → ConfK [CK.int IntKind.i64] cs) ∧
 (mhas (atM o i.val.fst) [kAt o i.val.fst] = true → K (V.sb false) []) ∧
 (mhas (atM o i.val.fst) [kAt o i.val.fst] = false →
 NonN (kAt o i.val.fst) ∧
 ∃ (e : List D),
 (List.map callR l)[(kAt o i.val.fst).toNat]? = some e ∧
 ∃ (n : Int),
 e[0]? = some (D.val (Value.int IntKind.i64 n)) ∧
 ∃ (n_1 : Int),
 e[1]? = some (D.val (Value.int IntKind.i64 n_1)) ∧
 ∃ (n_2 : Int),
 e[2]? = some (D.val (Value.int IntKind.i64 n_2)) ∧
 ∃ (n_3 : Int),
 e[3]? = some (D.val (Value.int IntKind.i64 n_3)) ∧
 ((!decide (fitC (n, n_1, n_2, n_3) i.val.snd)) = true → K (V.sb false) []) ∧
 ((!decide (fitC (n, n_1, n_2, n_3) i.val.snd)) = false →
 Nx (prLI l o) i
 ([V.dat (D.sl 4 (List.map callR l)), V.dat (D.sl 1 (ints IntKind.i64 o)), V.mp 0, V.int IntKind.i64 (nxC (n, n_1, n_2, n_3) i.val.snd), V.dat (D.sl 1 (ints IntKind.i64 o)), V.int IntKind.i64 (↑o.length : Int), V.int IntKind.i64 (IntKind.i64.wrap ((↑i.val.fst : Int) + 1))],
 [KO.mp [IntKind.i64] false false 1 (mset (atM o i.val.fst) [kAt o i.val.fst] [D.val (Value.int IntKind.i64 (↑i.val.fst : Int))])])))) ∧
 (decide ((↑i.val.fst : Int) < (↑o.length : Int)) = false →
 At (pr2LI l o) ([V.dat (D.sl 4 (List.map callR l)), V.dat (D.sl 1 (ints IntKind.i64 o)), V.mp 0, V.dat (D.sl 4 (List.map callR l)), V.int IntKind.i64 (↑(List.map callR l).length : Int), V.int IntKind.i64 0], [KO.mp [IntKind.i64] false false 1 (atM o i.val.fst)]) ∧
 ∀ (i : { k : Nat // P2Inv l o k }),
 (decide ((↑i.val : Int) < (↑l.length : Int)) = true →
 NonN (↑i.val : Int) ∧
 ∃ (e : List D),
 (List.map callR l)[(↑i.val : Int).toNat]? = some e ∧
 ∃ (n : Int),
 e[0]? = some (D.val (Value.int IntKind.i64 n)) ∧
 ∃ (n_1 : Int),
 e[1]? = some (D.val (Value.int IntKind.i64 n_1)) ∧
 ∃ (n_2 : Int),
 e[2]? = some (D.val (Value.int IntKind.i64 n_2)) ∧
 ∃ (n_3 : Int),
 e[3]? = some (D.val (Value.int IntKind.i64 n_3)) ∧
 (∀ (cs : List D), mget (atM o o.length) [(↑i.val : Int)] = some cs → ConfK [CK.int IntKind.i64] cs) ∧
 (((!decide (okC (n, n_1, n_2, n_3))) = true → K (V.sb false) []) ∧
 ((!decide (okC (n, n_1, n_2, n_3))) = false →
 ((!mhas (atM o o.length) [(↑i.val : Int)]) = true →
 ((n_3 != -1) = true → K (V.sb false) []) ∧
 ((n_3 != -1) = false →
 ((!mhas (atM o o.length) [(↑i.val : Int)]) = true → Nx (pr2LI l o) i ([V.dat (D.sl 4 (List.map callR l)), V.dat (D.sl 1 (ints IntKind.i64 o)), V.mp 0, V.dat (D.sl 4 (List.map callR l)), V.int IntKind.i64 (↑l.length : Int), V.int IntKind.i64 (IntKind.i64.wrap ((↑i.val : Int) + 1))], [KO.mp [IntKind.i64] false false 1 (atM o o.length)])) ∧
 ((!mhas (atM o o.length) [(↑i.val : Int)]) = false →
 At (prCut2 l o i.val)
 ([V.dat (D.sl 4 (List.map callR l)), V.dat (D.sl 1 (ints IntKind.i64 o)), V.mp 0, V.ptr 1 0, V.int IntKind.i64 (mgetI (atM o o.length) [(↑i.val : Int)] 0), V.dat (D.sl 4 (List.map callR l)), V.int IntKind.i64 (↑l.length : Int), V.int IntKind.i64 (↑i.val : Int)],
 [KO.mp [IntKind.i64] false false 1 (atM o o.length), KO.cells [V.int IntKind.i64 n, V.int IntKind.i64 n_1, V.int IntKind.i64 n_2, V.int IntKind.i64 n_3]])))) ∧
 ((!mhas (atM o o.length) [(↑i.val : Int)]) = false →
 ((!mhas (atM o o.length) [(↑i.val : Int)]) = true → Nx (pr2LI l o) i ([V.dat (D.sl 4 (List.map callR l)), V.dat (D.sl 1 (ints IntKind.i64 o)), V.mp 0, V.dat (D.sl 4 (List.map callR l)), V.int IntKind.i64 (↑l.length : Int), V.int IntKind.i64 (IntKind.i64.wrap ((↑i.val : Int) + 1))], [KO.mp [IntKind.i64] false false 1 (atM o o.length)])) ∧
 ((!mhas (atM o o.length) [(↑i.val : Int)]) = false →
 At (prCut2 l o i.val)
 ([V.dat (D.sl 4 (List.map callR l)), V.dat (D.sl 1 (ints IntKind.i64 o)), V.mp 0, V.ptr 1 0, V.int IntKind.i64 (mgetI (atM o o.length) [(↑i.val : Int)] 0), V.dat (D.sl 4 (List.map callR l)), V.int IntKind.i64 (↑l.length : Int), V.int IntKind.i64 (↑i.val : Int)],
 [KO.mp [IntKind.i64] false false 1 (atM o o.length), KO.cells [V.int IntKind.i64 n, V.int IntKind.i64 n_1, V.int IntKind.i64 n_2, V.int IntKind.i64 n_3]]))))) ∧
 ∀ (i_1 : { j : Nat // P2Inv l o i.val ∧ i.val < l.length ∧ j < o.length ∧ kAt o j = (↑i.val : Int) ∧ okC (atC l i.val) }),
 True ∧
 NonN (↑i_1.val : Int) ∧
 0 ≤ (↑i_1.val : Int).toNat ∧
 (↑i_1.val : Int).toNat ≤ (ints IntKind.i64 o).length ∧
 At (prIn l o i.val)
 ([V.dat (D.sl 4 (List.map callR l)), V.dat (D.sl 1 (ints IntKind.i64 o)), V.mp 0, V.ptr 1 0, V.dat (D.sl 4 (List.map callR l)), V.int IntKind.i64 (↑l.length : Int), V.int IntKind.i64 (↑i.val : Int), V.dat (D.sl 1 (List.drop 0 (List.take (↑i_1.val : Int).toNat (ints IntKind.i64 o)))),
 V.int IntKind.i64 (↑(List.drop 0 (List.take (↑i_1.val : Int).toNat (ints IntKind.i64 o))).length : Int), V.int IntKind.i64 0],
 [KO.mp [IntKind.i64] false false 1 (atM o o.length), KO.cells [V.int IntKind.i64 (atC l i.val).fst, V.int IntKind.i64 (atC l i.val).snd.fst, V.int IntKind.i64 (atC l i.val).snd.snd.fst, V.int IntKind.i64 (atC l i.val).snd.snd.snd]]) ∧
 ∀ (i_2 : { p : Nat × Nat // P2Inv l o i.val ∧ i.val < l.length ∧ p.fst < o.length ∧ kAt o p.fst = (↑i.val : Int) ∧ okC (atC l i.val) ∧ p.snd ≤ p.fst ∧ ∀ (i_2 : Nat), i_2 < p.snd → ¬ahC (atC l i.val) (atC l (kAt o i_2).toNat) }),
 (decide ((↑i_2.val.snd : Int) < (↑i_2.val.fst : Int)) = true →
 NonN (↑i_2.val.snd : Int) ∧
 ∃ (e : List D),
 (ints IntKind.i64 (List.take i_2.val.fst o))[(↑i_2.val.snd : Int).toNat]? = some e ∧
 ∃ (n : Int),
 e[0]? = some (D.val (Value.int IntKind.i64 n)) ∧
 NonN n ∧
 ∃ (e : List D),
 (List.map callR l)[n.toNat]? = some e ∧
 ∃ (n : Int),
 e[0]? = some (D.val (Value.int IntKind.i64 n)) ∧
 ∃ (n_4 : Int),
 e[1]? = some (D.val (Value.int IntKind.i64 n_4)) ∧
 ∃ (n_5 : Int),
 e[2]? = some (D.val (Value.int IntKind.i64 n_5)) ∧
 ∃ (n_6 : Int),
 e[3]? = some (D.val (Value.int IntKind.i64 n_6)) ∧
 (decide (ahC ((atC l i.val).fst, (atC l i.val).snd.fst, (atC l i.val).snd.snd.fst, (atC l i.val).snd.snd.snd) (n, n_4, n_5, n_6)) = true → K (V.sb false) []) ∧
 (decide (ahC ((atC l i.val).fst, (atC l i.val).snd.fst, (atC l i.val).snd.snd.fst, (atC l i.val).snd.snd.snd) (n, n_4, n_5, n_6)) = false →
 Nx (prIn l o i.val) i_2
 ([V.dat (D.sl 4 (List.map callR l)), V.dat (D.sl 1 (ints IntKind.i64 o)), V.mp 0, V.ptr 1 0, V.dat (D.sl 4 (List.map callR l)), V.int IntKind.i64 (↑l.length : Int), V.int IntKind.i64 (↑i.val : Int), V.dat (D.sl 1 (ints IntKind.i64 (List.take i_2.val.fst o))), V.int IntKind.i64 (↑i_2.val.fst : Int),
 V.int IntKind.i64 (IntKind.i64.wrap ((↑i_2.val.snd : Int) + 1))],
 [KO.mp [IntKind.i64] false false 1 (atM o o.length), KO.cells [V.int IntKind.i64 (atC l i.val).fst, V.int IntKind.i64 (atC l i.val).snd.fst, V.int IntKind.i64 (atC l i.val).snd.snd.fst, V.int IntKind.i64 (atC l i.val).snd.snd.snd]]))) ∧
 (decide ((↑i_2.val.snd : Int) < (↑i_2.val.fst : Int)) = false →
 Nx (pr2LI l o) i ([V.dat (D.sl 4 (List.map callR l)), V.dat (D.sl 1 (ints IntKind.i64 o)), V.mp 0, V.dat (D.sl 4 (List.map callR l)), V.int IntKind.i64 (↑l.length : Int), V.int IntKind.i64 (IntKind.i64.wrap ((↑i.val : Int) + 1))], [KO.mp [IntKind.i64] false false 1 (atM o o.length)]))) ∧
 (decide ((↑i.val : Int) < (↑l.length : Int)) = false → K (V.sb true) []))
 ) : runSpec Try.prog XSm (prT l o 12) 12 [.dat (.sl 4 (l.map callR)), .dat (.sl 1 (ints .i64 o))] [] K := Eq.mp (by kernel_rfl) h
theorem vcAny (n : Nat) (l : List Call) (r : List Nat) (K : V → KB → Prop) (h :
 ∃ (l_1 : List Call),
 ∃ (o : List Int),
 List.map callR l = List.map callR l_1 ∧
 ints IntKind.i64 (nz r) = ints IntKind.i64 o ∧
 IsPre l_1 o ∧
 ∀ (b : Bool),
 (b = true ↔ WitI l_1 o) →
 (b = true → K (V.sb true) []) ∧
 (b = false →
 At (anLI l r) ([V.dat (D.sl 4 (List.map callR l)), V.dat (D.sl 1 (ints IntKind.i64 (nz r))), V.int IntKind.i64 0], []) ∧
 ∀ (i : { k : Nat // AnInv l r k }),
 (decide ((↑i.val : Int) < (↑(List.map callR l).length : Int)) = true →
 ∃ (o : List Int),
 ints IntKind.i64 (nz r) = ints IntKind.i64 o ∧
 o.length.le 1000000 ∧
 ((!decide ((↑i.val : Int) ∈ o)) = true →
 True ∧
 0 ≤ 0 ∧
 (0 + (ints IntKind.i64 (nz r)).length) * 8 ≤ 140737488355328 ∧
 1 ≤ 1 ∧
 0 + (ints IntKind.i64 (nz r)).length ≤ ([] ++ ints IntKind.i64 (nz r)).length ∧
 (0 + (ints IntKind.i64 (nz r)).length + 1) * 8 ≤ 140737488355328 ∧
 (True ∧ 0 + (ints IntKind.i64 (nz r)).length + 1 ≤ (List.take (0 + (ints IntKind.i64 (nz r)).length) ([] ++ ints IntKind.i64 (nz r)) ++ [[D.val (Value.int IntKind.i64 (↑i.val : Int))]]).length ∧ True) ∧
 ∃ (l_2 : List Call),
 ∃ (r_1 : List Nat),
 List.map callR l = List.map callR l_2 ∧
 List.drop 0 (List.take (0 + (ints IntKind.i64 (nz r)).length + 1) (List.take (0 + (ints IntKind.i64 (nz r)).length) ([] ++ ints IntKind.i64 (nz r)) ++ [[D.val (Value.int IntKind.i64 (↑i.val : Int))]])) = ints IntKind.i64 (nz r_1) ∧
 AnPre l_2 r_1 n ∧ ∀ (b : Bool), (b = true ↔ ∃ (s : List Nat), Wit l_2 (r_1 ++ s)) → True ∧ (b = true → K (V.sb true) []) ∧ (b = false → Nx (anLI l r) i ([V.dat (D.sl 4 (List.map callR l)), V.dat (D.sl 1 (ints IntKind.i64 (nz r))), V.int IntKind.i64 (IntKind.i64.wrap ((↑i.val : Int) + 1))], []))) ∧
 ((!decide ((↑i.val : Int) ∈ o)) = false → Nx (anLI l r) i ([V.dat (D.sl 4 (List.map callR l)), V.dat (D.sl 1 (ints IntKind.i64 (nz r))), V.int IntKind.i64 (IntKind.i64.wrap ((↑i.val : Int) + 1))], []))) ∧
 (decide ((↑i.val : Int) < (↑(List.map callR l).length : Int)) = false → K (V.sb false) []))
 ) : runSpec Try.prog (XAn n) (anT l r 10) 10 [.dat (.sl 4 (l.map callR)), .dat (.sl 1 (ints .i64 (nz r)))] [] K := Eq.mp (by kernel_rfl) h
theorem vcWit (l : List Call) (K : V → KB → Prop) (h :
 (decide ((↑(List.map callR l).length : Int) > 14) = true → K (V.tup [V.sl 0 0 0, V.sb false]) [KO.row 3 1 []]) ∧
 (decide ((↑(List.map callR l).length : Int) > 14) = false →
 At (wiLI l) ([V.dat (D.sl 4 (List.map callR l)), V.dat (D.sl 4 (List.map callR l)), V.int IntKind.i64 (↑(List.map callR l).length : Int), V.int IntKind.i64 0], []) ∧
 ∀ (i : { i : Nat // i ≤ l.length ∧ ∀ (k : Nat), k < i → okC (atC l k) }),
 (decide ((↑i.val : Int) < (↑l.length : Int)) = true →
 NonN (↑i.val : Int) ∧
 ∃ (e : List D),
 (List.map callR l)[(↑i.val : Int).toNat]? = some e ∧
 ∃ (n : Int),
 e[0]? = some (D.val (Value.int IntKind.i64 n)) ∧
 ∃ (n_1 : Int),
 e[1]? = some (D.val (Value.int IntKind.i64 n_1)) ∧
 ∃ (n_2 : Int),
 e[2]? = some (D.val (Value.int IntKind.i64 n_2)) ∧
 ∃ (n_3 : Int),
 e[3]? = some (D.val (Value.int IntKind.i64 n_3)) ∧
 ((!decide (okC (n, n_1, n_2, n_3))) = true → K (V.tup [V.sl 0 0 0, V.sb false]) [KO.row 3 1 []]) ∧ ((!decide (okC (n, n_1, n_2, n_3))) = false → Nx (wiLI l) i ([V.dat (D.sl 4 (List.map callR l)), V.dat (D.sl 4 (List.map callR l)), V.int IntKind.i64 (↑l.length : Int), V.int IntKind.i64 (IntKind.i64.wrap ((↑i.val : Int) + 1))], []))) ∧
 (decide ((↑i.val : Int) < (↑l.length : Int)) = false →
 ∃ (l_1 : List Call),
 ∃ (m : Nat),
 ∃ (o : List Int),
 ∃ (t : List Int),
 0 = (↑m : Int) ∧ List.map callR l = List.map callR l_1 ∧ [] = ints IntKind.i64 (o ++ t) ∧ 0 = o.length ∧ FrPre l_1 m 100000 [] o ∧ ∀ (b : Bool) (M' : ML) (o' t' : List Int), FrPost l_1 m 0 [] o b M' o' → ((!b) = true → K (V.tup [V.sl 0 0 0, V.sb false]) [KO.row 3 1 []]) ∧ ((!b) = false → K (V.tup [V.sl 0 0 o'.length, V.sb true]) [KO.row 3 1 (ints IntKind.i64 (o' ++ t'))])))
 ) : runSpec Try.prog XWi (wiT l 9) 9 [.dat (.sl 4 (l.map callR))] [] (nilRes [.slot 0 3 1] (tidyRes 0 K)) := Eq.mp (by kernel_rfl) h
theorem nz_inj {r s : List Nat} (h : nz r = nz s) : r = s := by
  induction r generalizing s with
  | nil => cases s with
    | nil => rfl
    | cons a s => cases h
  | cons a r ih => cases s with
    | nil => cases h
    | cons b s =>
      simp only [List.map_cons, List.cons.injEq] at h
      rw [ih h.2, Int.ofNat.inj h.1]
theorem nz_mem {r : List Nat} {k : Nat} : (k : Int) ∈ nz r ↔ k ∈ r := by
  simp only [nz, List.mem_map]
  constructor
  · rintro ⟨a, h1, h2⟩; rwa [← Int.ofNat.inj h2]
  · intro h; exact ⟨k, h, rfl⟩
theorem nz_mem' {r : List Nat} {n : Int} (h : n ∈ nz r) : 0 ≤ n ∧ n.toNat ∈ r := by
  simp only [nz, List.mem_map] at h
  obtain ⟨a, h1, rfl⟩ := h
  exact ⟨by omega, by simpa using h1⟩
theorem kAt_get {o : List Int} {i : Nat} (h : i < o.length) : o[i]? = some (kAt o i) := by
  unfold kAt; rw [List.getD_eq_getElem?_getD, List.getElem?_eq_getElem h]; rfl
theorem take_kAt {o : List Int} {i : Nat} (h : i < o.length) : o.take (i + 1) = o.take i ++ [kAt o i] := by
  rw [List.take_add_one, kAt_get h]; rfl
theorem callG {l : List Call} {n : Int} (h0 : 0 ≤ n) (h : n < l.length) : (l.map callR)[n.toNat]? = some (callR (atC l n.toNat)) := by
  have := callR_get (l := l) (i := n.toNat) (by omega)
  rwa [Int.toNat_natCast] at this
theorem split_at {o : List Int} {rs r : List Nat} {i : Nat} (hi : i < o.length) (ho : o = nz rs) (hr : o.take i = nz r) : ∃ (k : Nat) (s : List Nat), kAt o i = k ∧ rs = r ++ k :: s := by
  subst ho
  have hl : i < rs.length := by simpa using hi
  have e1 : rs.take i = r := nz_inj (by rw [← hr]; simp [nz])
  refine ⟨rs[i], rs.drop (i + 1), ?_, ?_⟩
  · have h2 := kAt_get hi
    simp only [nz, List.getElem?_map, List.getElem?_eq_getElem hl, Option.map_some, Option.some.injEq] at h2
    exact h2.symm
  · rw [← e1, ← List.drop_eq_getElem_cons hl, List.take_append_drop]
/-- What a witness must meet at a place. -/
structure CondK (l : List Call) (r : List Nat) (k : Nat) (v : Int) : Prop where
  lt : k < l.length
  new : k ∉ r
  un : ¬ unC (atC l k)
  fit : fitC (atC l k) v
  ah : ∀ j, j ∈ r → ¬ ahC (atC l k) (atC l j)
theorem re_use {l : List Call} {o : List Int} {p : Nat × Int} (hp : ReInv l o p) (hi : p.1 < o.length) (hw : WitI l o) : AllC l ∧ ∃ (k : Nat) (r : List Nat), kAt o p.1 = k ∧ o.take p.1 = nz r ∧ CondK l r k p.2 := by
  obtain ⟨rs, ho, h1, h2⟩ := hw
  have hall : AllC l := ok_at.2 fun k hk => (h2 k hk).1
  obtain ⟨r, hr, hlt, hrun⟩ := hp.run
  obtain ⟨k, s, hk, hrs⟩ := split_at hi ho hr
  refine ⟨hall, k, r, hk, hr, ?_⟩
  have := (hrun hall (k :: s)).1 (hrs ▸ h1)
  obtain ⟨a, b, c, d, e, f⟩ := this
  exact ⟨a, b, c, d, e⟩
theorem re_step {l : List Call} {o : List Int} {p : Nat × Int} (hp : ReInv l o p) (hc : CuInv l o p) (ha : ∀ x, x < p.1 → ¬ ahC (atC l (kAt o p.1).toNat) (atC l (kAt o x).toNat)) :
    ReInv l o (p.1 + 1, nxC (atC l (kAt o p.1).toNat) p.2) := by
  obtain ⟨r, hr, hlt, hrun⟩ := hp.run
  have hk : ((kAt o p.1).toNat : Int) = kAt o p.1 := Int.toNat_of_nonneg hc.lo
  have hnew : (kAt o p.1).toNat ∉ r := fun h => hc.new (by rw [hr, ← hk]; exact nz_mem.2 h)
  refine ⟨by have := hc.lt; simp only; omega, r ++ [(kAt o p.1).toNat], ?_, ?_, fun hall s => ?_⟩
  · rw [take_kAt hc.lt, hr]
    simp only [nz, List.map_append, List.map_cons, List.map_nil, hk]
  · intro x hx
    rcases List.mem_append.1 hx with hx | hx
    · exact hlt x hx
    · rw [List.mem_singleton] at hx; subst hx; have := hc.hi; omega
  · rw [List.append_assoc]
    refine (hrun hall _).trans ⟨fun h => h.2.2.2.2.2, fun h => ⟨by have := hc.hi; omega, hnew, (hc.ok hall).1, (hc.ok hall).2, fun j hj => ?_, h⟩⟩
    have hj' : (j : Int) ∈ o.take p.1 := by rw [hr]; exact nz_mem.2 hj
    obtain ⟨x, hx, hxe⟩ := List.getElem_of_mem hj'
    have hxl : x < p.1 := by simp at hx; omega
    have hxo : x < o.length := by have := hc.lt; omega
    have : kAt o x = j := by
      have h1 := kAt_get hxo
      rw [List.getElem_take] at hxe
      rw [List.getElem?_eq_getElem hxo, hxe, Option.some.injEq] at h1
      exact h1.symm
    have := ha x hxl
    rwa [‹kAt o x = j›, Int.toNat_natCast] at this
theorem okRefIs : SpecOk Try.prog 11 Sis := specOk_of' XSm_ok mixed (fun args kb K h => by
  unfold Sis at h; split at h <;> try exact h.elim
  obtain ⟨l, o, rfl, rfl, ⟨hl1, hl2⟩, h⟩ := h
  have no : ¬ WitI l o → K (.sb false) [] := fun hn => h false ⟨fun f => (by cases f), fun w => absurd w hn⟩
  refine ⟨reT l o 11, vcRefIs l o K ⟨At.mk' ⟨(0, 0), Nat.zero_le _, [], by simp, by simp, fun _ s => Iff.rfl⟩ rfl, ?_⟩⟩
  rintro ⟨⟨i, v⟩, hp⟩
  have hi := hp.le
  simp only at hi
  simp only [ints_len, List.length_map, decide_eq_true_eq, decide_eq_false_iff_not]
  refine ⟨fun hc => ?_, fun hc => ⟨?_, ?_⟩⟩
  · have hio : i < o.length := by omega
    have hk0 : ∀ w : WitI l o, 0 ≤ kAt o i ∧ kAt o i < l.length ∧ kAt o i ∉ o.take i := fun w => by
      obtain ⟨_, k, r, h1, h2, h3⟩ := re_use hp hio w
      have := h3.lt
      simp only at h1 h2
      exact ⟨by omega, by omega, by rw [h2, h1]; exact fun h => h3.new (nz_mem.1 h)⟩
    refine ⟨by unfold NonN; omega, [D.val (.int .i64 (kAt o i))], by rw [Int.toNat_natCast, ints_get, kAt_get hio]; rfl, kAt o i, rfl, fun hn => no fun w => by have := hk0 w; omega, fun hn => ⟨fun hn2 => no fun w => by have := hk0 w; omega, fun hn2 => ?_⟩⟩
    have hlo : 0 ≤ kAt o i := by omega
    have hhi : kAt o i < l.length := by omega
    have hg := callG hlo hhi
    refine ⟨trivial, by unfold NonN; omega, Nat.zero_le _, by omega, o.take i, by rw [Int.toNat_natCast, List.drop_zero, ints_take], ?_, fun hm => no fun w => (hk0 w).2.2 hm, fun hm => ⟨?_, ?_⟩⟩
    · show (o.take i).length ≤ _
      rw [List.length_take]; omega
    · have cu : (AllC l → ¬ unC (atC l (kAt o i).toNat) ∧ fitC (atC l (kAt o i).toNat) v) → CuInv l o (i, v) := fun h => ⟨hio, hlo, hhi, hm, h⟩
      refine ⟨hlo, _, hg, (atC l (kAt o i).toNat).1, rfl, fun h3 => ?_, fun h3 => ?_⟩
      · simp only [beq_iff_eq] at h3
        refine ⟨hlo, _, hg, (atC l (kAt o i).toNat).2.2.2, rfl, fun h4 => no fun w => ?_, fun h4 => ⟨hlo, _, hg, (atC l (kAt o i).toNat).2.1, rfl, fun h5 => no fun w => ?_, fun h5 => ?_⟩⟩
        · obtain ⟨_, k, r, h1, h2, hck⟩ := re_use hp hio w
          simp only [beq_iff_eq] at h4 h1
          rw [h1, Int.toNat_natCast] at h3 h4
          exact hck.un ⟨h3, h4⟩
        · obtain ⟨_, k, r, h1, h2, hck⟩ := re_use hp hio w
          simp only [bne_iff_ne, ne_eq] at h5 h1
          rw [h1, Int.toNat_natCast] at h3 h5
          have := hck.fit
          unfold fitC at this
          simp only at this
          omega
        · simp only [beq_eq_false_iff_ne, ne_eq, bne_eq_false_iff_eq] at h4 h5
          exact At.mk' ⟨0, rfl, cu fun _ => ⟨fun hu => h4 hu.2, .inr (.inr h5)⟩⟩ rfl
      · simp only [beq_eq_false_iff_ne, ne_eq] at h3
        refine At.mk' ⟨0, rfl, cu fun hall => ⟨fun hu => h3 hu.1, ?_⟩⟩ rfl
        have := ok_at.1 hall (kAt o i).toNat (by omega)
        unfold okC at this; unfold fitC; omega
    rintro ⟨q, rfl, hcu⟩
    refine ⟨⟨hlo, _, hg, (atC l (kAt o i).toNat).1, rfl, fun h3 => ⟨hlo, _, hg, (atC l (kAt o i).toNat).2.1, rfl, ?_⟩, fun h3 => ?_⟩, ?_⟩
    · simp only [beq_iff_eq] at h3
      exact At.mk' ⟨0, rfl, hcu⟩ (by simp only [nxA, if_pos h3])
    · simp only [beq_eq_false_iff_ne, ne_eq] at h3
      exact At.mk' ⟨0, rfl, hcu⟩ (by simp only [nxA, if_neg h3])
    rintro ⟨q, rfl, _⟩
    refine ⟨⟨hlo, _, hg, (atC l (kAt o i).toNat).1, rfl, fun h3 => ?_, fun h3 => ?_⟩, ?_⟩
    · simp only [beq_iff_eq] at h3
      exact At.mk' ⟨0, rfl, hcu⟩ (by simp only [nxC, if_pos h3, if_neg (show ¬ (atC l (kAt o i).toNat).1 = 1 by omega)])
    · simp only [beq_eq_false_iff_ne, ne_eq] at h3
      exact At.mk' ⟨0, rfl, hcu⟩ (by simp only [nxC, nxA, if_neg h3])
    rintro ⟨q, rfl, _⟩
    refine ⟨At.mk' ⟨0, Nat.zero_le _, hcu, fun x hx => absurd hx (Nat.not_lt_zero _)⟩ rfl, ?_⟩
    rintro ⟨j, hj, _, hah⟩
    refine ⟨fun hji => ?_, fun hji => ?_⟩
    · have hji' : j < i := Int.ofNat_lt.1 hji
      have hjo : j < o.length := by omega
      obtain ⟨r, hr, hlt, hrun⟩ := hp.run
      have hjm : kAt o j ∈ nz r := by
        rw [← hr]
        have h1 := kAt_get hjo
        rw [List.getElem?_eq_getElem hjo, Option.some.injEq] at h1
        rw [← h1]
        exact List.mem_take_iff_getElem.2 ⟨j, by first | omega | (simp; omega), by first | rfl | simp⟩
      obtain ⟨hj0, hjr⟩ := nz_mem' hjm
      have hjl := hlt _ hjr
      have nx : ¬ ahC (atC l (kAt o i).toNat) (atC l (kAt o j).toNat) → Nx (reIn l o (i, v)) ⟨j, hj, hcu, hah⟩ ([V.dat (D.sl 4 (l.map callR)), V.dat (D.sl 1 (ints .i64 o)), V.int .i64 (nxC (atC l (kAt o i).toNat) v), V.int .i64 (i : Int), V.int .i64 (kAt o i), V.int .i64 (IntKind.i64.wrap ((j : Int) + 1))], []) := fun hn => by
        rw [w64 (by omega) (by omega)]
        refine Nx.mk' (⟨j + 1, by simp only; omega, hcu, fun x hx => ?_⟩ : {j : Nat // j ≤ (i, v).1 ∧ CuInv l o (i, v) ∧ ∀ x, x < j → ¬ ahC (atC l (kAt o (i, v).1).toNat) (atC l (kAt o x).toNat)}) rfl (by show i - (j + 1) < i - j; omega)
        by_cases hxj : x = j
        · subst hxj; exact hn
        · exact hah x (by omega)
      refine ⟨hlo, _, hg, (atC l (kAt o i).toNat).2.2.2, rfl, fun h4 => ?_, fun h4 => ?_⟩
      · simp only [bne_iff_ne, ne_eq] at h4
        refine ⟨hlo, _, hg, (atC l (kAt o i).toNat).2.2.2, rfl, by unfold NonN; omega, [D.val (.int .i64 (kAt o j))], by rw [Int.toNat_natCast, ints_get, kAt_get hjo]; rfl, kAt o j, rfl, hj0, _, callG hj0 (by omega), (atC l (kAt o j).toNat).2.2.1, rfl, fun h5 => no fun w => ?_, fun h5 => ?_⟩
        · obtain ⟨_, k, r', h1, h2, hck⟩ := re_use hp hio w
          simp only at h1 h2
          rw [hr] at h2
          have := nz_inj h2
          subst this
          have := hck.ah _ hjr
          rw [h1, Int.toNat_natCast] at h4 h5
          exact this ⟨h4, h5⟩
        · exact nx fun ha => h5 ha.2
      · simp only [bne_eq_false_iff_eq] at h4
        exact nx fun ha => ha.1 h4
    · have hji2 : ¬ (j : Int) < i := hji
      have : j = i := by have : j ≤ i := hj; omega
      subst this
      rw [w64 (by omega) (by omega)]
      exact Nx.mk' (⟨(j + 1, nxC (atC l (kAt o j).toNat) v), re_step hp hcu hah⟩ : {p : Nat × Int // ReInv l o p}) rfl (by show o.length - (j + 1) < o.length - j; omega)
  · have hio : i = o.length := by omega
    subst hio
    obtain ⟨r, hr, hlt, hrun⟩ := hp.run
    rw [List.take_length] at hr
    refine At.mk' ⟨0, Nat.zero_le _, ⟨r, hr, fun hall => ?_⟩, fun x hx => absurd hx (Nat.not_lt_zero _)⟩ rfl
    have := (hrun hall []).2 trivial
    rwa [List.append_nil] at this
  · rintro ⟨k, hk, hr, hok⟩
    have nx : k < l.length → okC (atC l k) → ((atC l k).2.2.2 ≠ -1 → (k : Int) ∈ o) → Nx (reEnd l o) ⟨k, hk, hr, hok⟩ ([V.dat (D.sl 4 (l.map callR)), V.dat (D.sl 1 (ints .i64 o)), V.int .i64 (IntKind.i64.wrap ((k : Int) + 1))], []) := fun hlt h1 h2 => by
      rw [w64 (by omega) (by omega)]
      refine Nx.mk' (⟨k + 1, by omega, hr, fun x hx => ?_⟩ : {k : Nat // k ≤ l.length ∧ (∃ r : List Nat, o = nz r ∧ (AllC l → Run l [] 0 r)) ∧ ∀ x, x < k → okC (atC l x) ∧ ((atC l x).2.2.2 ≠ -1 → (x : Int) ∈ o)}) rfl (by show l.length - (k + 1) < l.length - k; omega)
      by_cases hxk : x = k
      · subst hxk; exact ⟨h1, h2⟩
      · exact hok x (by omega)
    have wk : WitI l o → k < l.length → okC (atC l k) ∧ ((atC l k).2.2.2 ≠ -1 → (k : Int) ∈ o) := by
      rintro ⟨rs, rfl, _, hcov⟩ hlt
      exact ⟨(hcov k hlt).1, fun he => nz_mem.2 ((hcov k hlt).2 he)⟩
    refine ⟨fun hc2 => ?_, fun hc2 => ?_⟩
    · have hlt : k < l.length := Int.ofNat_lt.1 hc2
      refine ⟨by unfold NonN; omega, _, callR_get hlt, (atC l k).1, rfl, (atC l k).2.1, rfl, (atC l k).2.2.1, rfl, (atC l k).2.2.2, rfl, fun h1 => no fun w => ?_, fun h1 => ⟨by unfold NonN; omega, _, callR_get hlt, (atC l k).2.2.2, rfl, fun h2 => ⟨o, rfl, ?_, fun h3 => no fun w => ?_, fun h3 => ?_⟩, fun h2 => ?_⟩⟩
      · simp only [Bool.not_eq_true', decide_eq_false_iff_not] at h1
        exact h1 (wk w hlt).1
      · show o.length ≤ _
        omega
      · simp only [Bool.not_eq_true', decide_eq_false_iff_not, bne_iff_ne, ne_eq] at h2 h3
        exact h3 ((wk w hlt).2 h2)
      · simp only [Bool.not_eq_false', decide_eq_true_eq, bne_iff_ne, ne_eq] at h1 h2 h3
        exact nx hlt h1 fun _ => h3
      · simp only [Bool.not_eq_false', decide_eq_true_eq, bne_eq_false_iff_eq] at h1 h2
        exact nx hlt h1 fun f => absurd h2 f
    · have : k = l.length := by have hc3 : ¬ (k : Int) < l.length := hc2; omega
      subst this
      obtain ⟨r, rfl, hrun⟩ := hr
      exact h true ⟨fun _ => ⟨r, rfl, hrun (ok_at.2 fun x hx => (hok x hx).1), fun x hx => ⟨(hok x hx).1, fun he => nz_mem.1 ((hok x hx).2 he)⟩⟩, fun _ => rfl⟩)
theorem mget_mset {M : ML} {k k' : List Int} {c : List D} : mget (mset M k c) k' = if k' = k then some c else mget M k' := by
  induction M with
  | nil => simp [mset, mget]
  | cons e M ih =>
    obtain ⟨a, x⟩ := e
    simp only [mset]
    by_cases h : k = a
    · subst h
      simp only [if_pos rfl, mget]
      by_cases h2 : k' = k
      · simp [h2, mget]
      · simp [h2, mget]
    · rw [if_neg h]
      simp only [mget]
      by_cases h2 : k' = a
      · subst h2
        rw [if_pos rfl, if_pos rfl, if_neg (Ne.symm h)]
      · rw [if_neg h2, if_neg h2, ih]
theorem atM_get {o : List Int} {x : Int} : ∀ {i : Nat}, i ≤ o.length → (mget (atM o i) [x] = none ∧ x ∉ o.take i) ∨ ∃ j, j < i ∧ kAt o j = x ∧ mget (atM o i) [x] = some [dn .i64 (j : Int)]
  | 0, _ => .inl ⟨rfl, by simp⟩
  | i + 1, hi => by
    simp only [atM, mget_mset]
    by_cases h : x = kAt o i
    · subst h
      exact .inr ⟨i, by omega, rfl, by rw [if_pos rfl]⟩
    · rw [if_neg (by simpa using h), take_kAt (o := o) (i := i) (by omega)]
      rcases atM_get (o := o) (x := x) (i := i) (by omega) with ⟨h1, h2⟩ | ⟨j, h1, h2, h3⟩
      · refine .inl ⟨h1, fun hm => ?_⟩
        rcases List.mem_append.1 hm with hm | hm
        · exact h2 hm
        · exact h (List.mem_singleton.1 hm)
      · exact .inr ⟨j, by omega, h2, h3⟩
theorem atM_has {o : List Int} {x : Int} {i : Nat} (hi : i ≤ o.length) : mhas (atM o i) [x] = true ↔ x ∈ o.take i := by
  unfold mhas
  rcases atM_get (x := x) hi with ⟨h1, h2⟩ | ⟨j, h1, h2, h3⟩
  · rw [h1]; simp [h2]
  · rw [h3]
    refine ⟨fun _ => ?_, fun _ => rfl⟩
    have hjo : j < o.length := by omega
    have h4 := kAt_get hjo
    rw [List.getElem?_eq_getElem hjo, Option.some.injEq, h2] at h4
    rw [← h4]
    exact List.mem_take_iff_getElem.2 ⟨j, by first | omega | (simp; omega), by first | rfl | simp⟩
theorem atM_conf {o : List Int} {x : Int} {i : Nat} (hi : i ≤ o.length) : ∀ cs, mget (atM o i) [x] = some cs → ConfK [CK.int .i64] cs := by
  intro cs h
  rcases atM_get (x := x) hi with ⟨h1, h2⟩ | ⟨j, h1, h2, h3⟩
  · rw [h1] at h; cases h
  · rw [h3] at h; cases h; exact ⟨_, _, rfl, rfl⟩
theorem atM_ix {o : List Int} {x : Int} {i : Nat} (hi : i ≤ o.length) (h : mhas (atM o i) [x] = true) : ∃ j : Nat, j < i ∧ kAt o j = x ∧ mgetI (atM o i) [x] 0 = j := by
  rcases atM_get (x := x) hi with ⟨h1, h2⟩ | ⟨j, h1, h2, h3⟩
  · unfold mhas at h; rw [h1] at h; cases h
  · exact ⟨j, h1, h2, by unfold mgetI; rw [h3]; rfl⟩
theorem run_split {l : List Call} : ∀ {s p : List Nat} {v : Int}, Run l p v s ↔ RunV l p v s ∧ ∀ i (h : i < s.length), ∀ x ∈ p ++ s.take i, ¬ ahC (atC l s[i]) (atC l x)
  | [], p, v => by simp [Run, RunV]
  | k :: s, p, v => by
    simp only [Run, RunV, run_split (s := s) (p := p ++ [k])]
    constructor
    · rintro ⟨a, b, c, d, e, f, g⟩
      refine ⟨⟨a, b, c, d, f⟩, fun i hi x hx => ?_⟩
      cases i with
      | zero => exact e x (by simpa using hx)
      | succ i => exact g i (by simpa using hi) x (by simpa using hx)
    · rintro ⟨⟨a, b, c, d, f⟩, g⟩
      refine ⟨a, b, c, d, fun j hj => g 0 (by simp) j (by simpa using hj), f, fun i hi x hx => ?_⟩
      exact g (i + 1) (by simpa using hi) x (by simpa using hx)
structure CondV (l : List Call) (r : List Nat) (k : Nat) (v : Int) : Prop where
  lt : k < l.length
  new : k ∉ r
  un : ¬ unC (atC l k)
  fit : fitC (atC l k) v
theorem pr_use {l : List Call} {o : List Int} {p : Nat × Int} (hp : PrInv l o p) (hi : p.1 < o.length) (hw : WitI l o) : ∃ (k : Nat) (r : List Nat), kAt o p.1 = k ∧ o.take p.1 = nz r ∧ CondV l r k p.2 := by
  obtain ⟨rs, ho, h1, h2⟩ := hw
  obtain ⟨r, hr, hlt, hnd, hrun⟩ := hp.run
  obtain ⟨k, s, hk, hrs⟩ := split_at hi ho hr
  have := (hrun (k :: s)).1 (hrs ▸ (run_split.1 h1).1)
  obtain ⟨a, b, c, d, e⟩ := this
  exact ⟨k, r, hk, hr, a, b, c, d⟩
theorem pr_step {l : List Call} {o : List Int} {p : Nat × Int} (hp : PrInv l o p) (hi : p.1 < o.length) (h0 : 0 ≤ kAt o p.1) (h1 : kAt o p.1 < l.length) (hu : ¬ unC (atC l (kAt o p.1).toNat)) (hn : kAt o p.1 ∉ o.take p.1) (hf : fitC (atC l (kAt o p.1).toNat) p.2) :
    PrInv l o (p.1 + 1, nxC (atC l (kAt o p.1).toNat) p.2) := by
  obtain ⟨r, hr, hlt, hnd, hrun⟩ := hp.run
  have hk : ((kAt o p.1).toNat : Int) = kAt o p.1 := Int.toNat_of_nonneg h0
  have hnew : (kAt o p.1).toNat ∉ r := fun h => hn (by rw [hr, ← hk]; exact nz_mem.2 h)
  refine ⟨by simp only; omega, r ++ [(kAt o p.1).toNat], ?_, ?_, ?_, fun s => ?_⟩
  · rw [take_kAt hi, hr]
    simp only [nz, List.map_append, List.map_cons, List.map_nil, hk]
  · intro x hx
    rcases List.mem_append.1 hx with hx | hx
    · exact hlt x hx
    · rw [List.mem_singleton] at hx; subst hx; omega
  · exact List.nodup_append.2 ⟨hnd, by simp, fun a ha b hb => by rw [List.mem_singleton] at hb; subst hb; exact fun e => hnew (e ▸ ha)⟩
  · rw [List.append_assoc]
    exact (hrun _).trans ⟨fun h => h.2.2.2.2, fun h => ⟨by omega, hnew, hu, hf, h⟩⟩
theorem okIs : SpecOk Try.prog 12 Sis := specOk_of' XSm_ok mixed (fun args kb K h => by
  unfold Sis at h; split at h <;> try exact h.elim
  obtain ⟨l, o, rfl, rfl, ⟨hl1, hl2⟩, h⟩ := h
  have no : ¬ WitI l o → K (.sb false) [] := fun hn => h false ⟨fun f => (by cases f), fun w => absurd w hn⟩
  refine ⟨prT l o 12, vcIs l o K ⟨by rw [ints_len]; exact At.mk' ⟨(0, 0), Nat.zero_le _, [], by simp, by simp, List.nodup_nil, fun s => Iff.rfl⟩ rfl, ?_⟩⟩
  rintro ⟨⟨i, v⟩, hp⟩
  have hi := hp.le
  simp only at hi
  simp only [ints_len, List.length_map, decide_eq_true_eq, decide_eq_false_iff_not]
  refine ⟨fun hc => ?_, fun hc => ⟨?_, ?_⟩⟩
  · have hio : i < o.length := by omega
    have hk0 : ∀ w : WitI l o, 0 ≤ kAt o i ∧ kAt o i < l.length ∧ kAt o i ∉ o.take i := fun w => by
      obtain ⟨k, r, h1, h2, h3⟩ := pr_use hp hio w
      have := h3.lt
      simp only at h1 h2
      exact ⟨by omega, by omega, by rw [h2, h1]; exact fun h => h3.new (nz_mem.1 h)⟩
    refine ⟨by unfold NonN; omega, [D.val (.int .i64 (kAt o i))], by rw [Int.toNat_natCast, ints_get, kAt_get hio]; rfl, kAt o i, rfl, ⟨fun hn => no fun w => by have := hk0 w; omega, fun hn => ⟨fun hn2 => no fun w => by have := hk0 w; omega, fun hn2 => ?_⟩⟩, ?_⟩
    · have hlo : 0 ≤ kAt o i := by omega
      have hhi : kAt o i < l.length := by omega
      have hg := callG hlo hhi
      refine ⟨hlo, _, hg, (atC l (kAt o i).toNat).1, rfl, fun h3 => ⟨hlo, _, hg, (atC l (kAt o i).toNat).2.2.2, rfl, fun h4 => no fun w => ?_, fun h4 => ?_⟩, fun h3 => ?_⟩
      · obtain ⟨k, r, h1, h2, hck⟩ := pr_use hp hio w
        simp only [beq_iff_eq] at h3 h4 h1
        rw [h1, Int.toNat_natCast] at h3 h4
        exact hck.un ⟨h3, h4⟩
      · simp only [beq_eq_false_iff_ne, ne_eq] at h4
        exact At.mk' ⟨0, rfl, hp, hio, hlo, hhi, fun hu => h4 hu.2⟩ rfl
      · simp only [beq_eq_false_iff_ne, ne_eq] at h3
        exact At.mk' ⟨0, rfl, hp, hio, hlo, hhi, fun hu => h3 hu.1⟩ rfl
    · rintro ⟨q, rfl, _, _, hlo, hhi, hun⟩
      have hlo' : 0 ≤ kAt o i := hlo
      have hhi' : kAt o i < l.length := hhi
      refine ⟨atM_conf (by omega), fun hm => no fun w => (hk0 w).2.2 ((atM_has (by omega)).1 hm), fun hm => ⟨hlo', _, callG hlo' hhi', (atC l (kAt o i).toNat).1, rfl, (atC l (kAt o i).toNat).2.1, rfl, (atC l (kAt o i).toNat).2.2.1, rfl, (atC l (kAt o i).toNat).2.2.2, rfl, fun hf => no fun w => ?_, fun hf => ?_⟩⟩
      · simp only [Bool.not_eq_true', decide_eq_false_iff_not] at hf
        obtain ⟨k, r, h1, h2, hck⟩ := pr_use hp hio w
        have := hck.fit
        simp only at h1
        rw [h1, Int.toNat_natCast] at hf
        exact hf this
      · simp only [Bool.not_eq_false', decide_eq_true_eq] at hf
        have hm' : kAt o i ∉ o.take i := fun f => by rw [(atM_has (by omega)).2 f] at hm; cases hm
        rw [w64 (by omega) (by omega)]
        exact Nx.mk' (⟨(i + 1, nxC (atC l (kAt o i).toNat) v), pr_step hp hio hlo' hhi' hun hm' hf⟩ : {p : Nat × Int // PrInv l o p}) rfl (by show o.length - (i + 1) < o.length - i; omega)
  · have hio : i = o.length := by omega
    subst hio
    obtain ⟨r, hr, hlt, hnd, hrun⟩ := hp.run
    simp only at hr hrun
    rw [List.take_length] at hr
    refine At.mk' ⟨0, Nat.zero_le _, ⟨r, hr, hlt, hnd, ?_⟩, fun x hx => absurd hx (Nat.not_lt_zero _)⟩ rfl
    have := (hrun []).2 trivial
    rwa [List.append_nil] at this
  · rintro ⟨k, hk⟩
    have hkl := hk.le
    have nx : k < l.length → okC (atC l k) → ((atC l k).2.2.2 ≠ -1 → (k : Int) ∈ o) → (∀ j, j < o.length → kAt o j = k → ∀ i, i < j → ¬ ahC (atC l k) (atC l (kAt o i).toNat)) →
        Nx (pr2LI l o) ⟨k, hk⟩ ([V.dat (D.sl 4 (l.map callR)), V.dat (D.sl 1 (ints .i64 o)), V.mp 0, V.dat (D.sl 4 (l.map callR)), V.int .i64 (l.length : Int), V.int .i64 (IntKind.i64.wrap ((k : Int) + 1))], [KO.mp [.i64] false false 1 (atM o o.length)]) := fun hlt h1 h2 h3 => by
      rw [w64 (by omega) (by omega)]
      refine Nx.mk' (⟨k + 1, by omega, hk.run, fun x hx => ?_⟩ : {k : Nat // P2Inv l o k}) rfl (by show l.length - (k + 1) < l.length - k; omega)
      by_cases hxk : x = k
      · subst hxk; exact ⟨h1, h2, h3⟩
      · exact hk.ok x (by omega)
    have hcon := atM_conf (o := o) (x := (k : Int)) (Nat.le_refl o.length)
    refine ⟨fun hc2 => ?_, fun hc2 => ?_⟩
    · have hlt : k < l.length := Int.ofNat_lt.1 hc2
      have wk : WitI l o → okC (atC l k) ∧ ((atC l k).2.2.2 ≠ -1 → (k : Int) ∈ o) := by
        rintro ⟨rs, rfl, _, hcov⟩
        exact ⟨(hcov k hlt).1, fun he => nz_mem.2 ((hcov k hlt).2 he)⟩
      have hhas := atM_has (o := o) (x := (k : Int)) (Nat.le_refl o.length)
      rw [List.take_length] at hhas
      have cut : okC (atC l k) → mhas (atM o o.length) [(k : Int)] = true → At (prCut2 l o k) ([V.dat (D.sl 4 (l.map callR)), V.dat (D.sl 1 (ints .i64 o)), V.mp 0, V.ptr 1 0, V.int .i64 (mgetI (atM o o.length) [(k : Int)] 0), V.dat (D.sl 4 (l.map callR)), V.int .i64 (l.length : Int), V.int .i64 (k : Int)],
          [KO.mp [.i64] false false 1 (atM o o.length), KO.cells [.int .i64 (atC l k).1, .int .i64 (atC l k).2.1, .int .i64 (atC l k).2.2.1, .int .i64 (atC l k).2.2.2]]) := fun h1 h2 => by
        obtain ⟨j, hj, hje, hjm⟩ := atM_ix (Nat.le_refl _) h2
        rw [hjm]
        exact At.mk' ⟨j, hk, hlt, hj, hje, h1⟩ rfl
      refine ⟨by unfold NonN; omega, _, callR_get hlt, (atC l k).1, rfl, (atC l k).2.1, rfl, (atC l k).2.2.1, rfl, (atC l k).2.2.2, rfl, hcon, ⟨fun h1 => no fun w => ?_, fun h1 => ?_⟩, ?_⟩
      · simp only [Bool.not_eq_true', decide_eq_false_iff_not] at h1
        exact h1 (wk w).1
      · simp only [Bool.not_eq_false', decide_eq_true_eq] at h1
        refine ⟨fun h2 => ⟨fun h3 => no fun w => ?_, fun h3 => ⟨fun _ => ?_, fun h4 => ?_⟩⟩, fun h2 => ⟨fun h4 => ?_, fun _ => ?_⟩⟩
        · simp only [bne_iff_ne, ne_eq, Bool.not_eq_true'] at h2 h3
          have := hhas.2 ((wk w).2 h3)
          rw [this] at h2; cases h2
        · simp only [bne_eq_false_iff_eq, Bool.not_eq_true'] at h2 h3
          refine nx hlt h1 (fun f => absurd h3 f) fun j hj hje => ?_
          have : (k : Int) ∈ o := by
            have h5 := kAt_get hj
            rw [List.getElem?_eq_getElem hj, Option.some.injEq, hje] at h5
            rw [← h5]; exact List.getElem_mem _
          rw [hhas.2 this] at h2; cases h2
        · rw [h2] at h4; cases h4
        · rw [h2] at h4; cases h4
        · exact cut h1 (by simpa using h2)
      · rintro ⟨j, _, _, hj, hje, hok⟩
        have hle : (List.drop 0 (List.take ((j : Nat) : Int).toNat (ints .i64 o))) = ints .i64 (o.take j) := by rw [Int.toNat_natCast, List.drop_zero, ints_take]
        refine ⟨trivial, by unfold NonN; omega, Nat.zero_le _, by have : j < o.length := hj; show ((j : Nat) : Int).toNat ≤ _; omega, ?_, ?_⟩
        · show At (prIn l o k) ([V.dat (D.sl 4 (l.map callR)), V.dat (D.sl 1 (ints .i64 o)), V.mp 0, V.ptr 1 0, V.dat (D.sl 4 (l.map callR)), V.int .i64 (l.length : Int), V.int .i64 (k : Int), V.dat (D.sl 1 (List.drop 0 (List.take ((j : Nat) : Int).toNat (ints .i64 o)))), V.int .i64 (((List.drop 0 (List.take ((j : Nat) : Int).toNat (ints .i64 o))).length : Nat) : Int), V.int .i64 0], _)
          rw [hle, ints_len, List.length_take, Nat.min_eq_left (Nat.le_of_lt hj)]
          exact At.mk' ⟨(j, 0), hk, hlt, hj, hje, hok, Nat.zero_le _, fun x hx => absurd hx (Nat.not_lt_zero _)⟩ rfl
        · rintro ⟨⟨j, x⟩, _, _, hj, hje, hok, hxj, hah⟩
          simp only at hj hje hxj hah
          obtain ⟨r, hr, hrl, hnd, hrun⟩ := hk.run
          refine ⟨fun hc3 => ?_, fun hc3 => ?_⟩
          · have hx : x < j := Int.ofNat_lt.1 hc3
            have hxo : x < o.length := by omega
            have hxm : kAt o x ∈ nz r := by
              have h5 := kAt_get hxo
              rw [List.getElem?_eq_getElem hxo, Option.some.injEq] at h5
              rw [← hr, ← h5]; exact List.getElem_mem _
            obtain ⟨hx0, hxr⟩ := nz_mem' hxm
            have hxl := hrl _ hxr
            refine ⟨by unfold NonN; omega, [D.val (.int .i64 (kAt o x))], ?_, kAt o x, rfl, hx0, _, callG hx0 (by omega), (atC l (kAt o x).toNat).1, rfl, (atC l (kAt o x).toNat).2.1, rfl, (atC l (kAt o x).toNat).2.2.1, rfl, (atC l (kAt o x).toNat).2.2.2, rfl, fun ha => no fun w => ?_, fun ha => ?_⟩
            · show (ints .i64 (o.take j))[((x : Nat) : Int).toNat]? = _
              rw [Int.toNat_natCast, ints_get, List.getElem?_take_of_lt hx, kAt_get hxo]; rfl
            · obtain ⟨rs, hrs, hw1, hw2⟩ := w
              have : rs = r := nz_inj (by rw [← hr, hrs])
              subst this
              have hjr : j < rs.length := by have := congrArg List.length hr; simp at this; omega
              have hxr2 : x < rs.length := by omega
              have e1 : rs[j] = k := by
                have h5 := kAt_get hj
                rw [hje, hr] at h5
                simp only [nz, List.getElem?_map, List.getElem?_eq_getElem hjr, Option.map_some, Option.some.injEq] at h5
                exact Int.ofNat.inj h5
              have e2 : rs[x] = (kAt o x).toNat := by
                have h5 := kAt_get hxo
                rw [hr] at h5 ⊢
                simp only [nz, List.getElem?_map, List.getElem?_eq_getElem hxr2, Option.map_some, Option.some.injEq] at h5
                rw [← h5]; simp
              have := (run_split.1 hw1).2 j hjr rs[x] (by rw [List.nil_append]; exact List.mem_take_iff_getElem.2 ⟨x, by first | omega | (simp; omega), by first | rfl | simp⟩)
              rw [e1, e2] at this
              exact this ha
            · have e0 : IntKind.i64.wrap ((x : Int) + 1) = ((x + 1 : Nat) : Int) := by rw [w64 (by omega) (by omega)]; rfl
              refine Nx.mk' (⟨(j, x + 1), hk, hlt, hj, hje, hok, hx, fun y hy => ?_⟩ : {p : Nat × Nat // P2Inv l o k ∧ k < l.length ∧ p.1 < o.length ∧ kAt o p.1 = k ∧ okC (atC l k) ∧ p.2 ≤ p.1 ∧ ∀ i, i < p.2 → ¬ ahC (atC l k) (atC l (kAt o i).toNat)}) (by show (_ : List V × KB) = _; rw [e0]) (by show j - (x + 1) < j - x; omega)
              simp only at hy
              by_cases hyx : y = x
              · subst hyx; exact ha
              · exact hah y (by omega)
          · have hx : x = j := by have hc4 : ¬ (x : Int) < j := hc3; omega
            subst hx
            refine nx hlt hok (fun _ => ?_) fun j' hj' hje' => ?_
            · have h5 := kAt_get hj
              rw [List.getElem?_eq_getElem hj, Option.some.injEq, hje] at h5
              rw [← h5]; exact List.getElem_mem _
            · have : j' = x := by
                have hl2 : o.length = r.length := by rw [hr]; simp
                have e1 := kAt_get hj
                have e2 := kAt_get hj'
                rw [hje, hr] at e1
                rw [hje', hr] at e2
                simp only [nz, List.getElem?_map, List.getElem?_eq_getElem (show x < r.length by omega), List.getElem?_eq_getElem (show j' < r.length by omega), Option.map_some, Option.some.injEq] at e1 e2
                have e3 := Int.ofNat.inj (e2.trans e1.symm)
                have hp2 := List.pairwise_iff_getElem.1 hnd
                rcases Nat.lt_trichotomy j' x with h6 | h6 | h6
                · exact absurd e3 (hp2 j' x (by omega) (by omega) h6)
                · exact h6
                · exact absurd e3.symm (hp2 x j' (by omega) (by omega) h6)
              subst this
              exact hah
    · have : k = l.length := by have hc3 : ¬ (k : Int) < l.length := hc2; omega
      subst this
      obtain ⟨r, hr, hrl, hnd, hrun⟩ := hk.run
      refine h true ⟨fun _ => ⟨r, hr, run_split.2 ⟨hrun, fun i hi x hx => ?_⟩, fun x hx => ⟨(hk.ok x hx).1, fun he => ?_⟩⟩, fun _ => rfl⟩
      · rw [List.nil_append] at hx
        obtain ⟨y, hy, rfl⟩ := List.getElem_of_mem hx
        have hyi : y < i := by simp at hy; omega
        have hl2 : o.length = r.length := by rw [hr]; simp
        have e1 := kAt_get (show i < o.length by omega)
        have e2 := kAt_get (show y < o.length by omega)
        rw [hr] at e1 e2
        simp only [nz, List.getElem?_map, List.getElem?_eq_getElem hi, List.getElem?_eq_getElem (show y < r.length by omega), Option.map_some, Option.some.injEq] at e1 e2
        have := (hk.ok r[i] (hrl _ (List.getElem_mem _))).2.2 i (by omega) (by rw [hr]; exact e1.symm) y hyi
        rw [hr, ← e2, Int.toNat_natCast] at this
        rwa [List.getElem_take]
      · have := (hk.ok x hx).2.1 he
        rw [hr] at this
        exact nz_mem.1 this)
theorem anS_ok {n : Nat} (hn : SpecOk Try.prog 10 (Sany n)) : AllOk Try.prog (anS n) := fun f k h => by
  unfold anS at h
  split at h
  · cases h; exact hn
  · cases h; exact okRefIs
  · exact smS_ok _ _ h
theorem XAn_ok {n : Nat} (hn : SpecOk Try.prog 10 (Sany n)) : CallOk Try.prog (XAn n) := callS_ok mixed (anS_ok hn) noT 10
theorem run_new {l : List Call} : ∀ {s p : List Nat} {v : Int}, Run l p v s → ∀ x ∈ s, x ∉ p
  | k :: s, p, v, h, x, hx => by
    obtain ⟨a, b, c, d, e, f⟩ := h
    rcases List.mem_cons.1 hx with rfl | hx
    · exact b
    · exact fun hp => run_new f x hx (List.mem_append_left _ hp)
theorem run_nodup {l : List Call} : ∀ {s p : List Nat} {v : Int}, Run l p v s → s.Nodup
  | [], _, _, _ => List.nodup_nil
  | k :: s, p, v, h => by
    obtain ⟨a, b, c, d, e, f⟩ := h
    exact List.nodup_cons.2 ⟨fun hk => run_new f k hk (by simp), run_nodup f⟩
theorem run_tail {l : List Call} : ∀ {r s p : List Nat} {v : Int}, Run l p v (r ++ s) → ∃ w, Run l (p ++ r) w s
  | [], s, p, v, h => ⟨v, by simpa using h⟩
  | k :: r, s, p, v, h => by
    obtain ⟨a, b, c, d, e, f⟩ := h
    obtain ⟨w, hw⟩ := run_tail f
    exact ⟨w, by simpa using hw⟩
theorem nodup_le : ∀ {n : Nat} {r : List Nat}, r.Nodup → (∀ x ∈ r, x < n) → r.length ≤ n
  | 0, r, _, h => by
    cases r with
    | nil => simp
    | cons a r => exact absurd (h a (by simp)) (Nat.not_lt_zero _)
  | n + 1, r, hn, h => by
    by_cases hm : n ∈ r
    · have h1 := nodup_le (n := n) (hn.erase n) (fun x hx => by
        have := (List.Nodup.mem_erase_iff hn).1 hx
        have := h x this.2
        omega)
      rw [List.length_erase_of_mem hm] at h1
      omega
    · have := nodup_le (n := n) hn (fun x hx => by
        have h1 := h x hx
        have h2 : x ≠ n := fun e => hm (e ▸ hx)
        omega)
      omega
theorem ints_i64_inj {a b : List Int} (h : ints .i64 a = ints .i64 b) : a = b := ints_inj h
theorem okAny : ∀ n, SpecOk Try.prog 10 (Sany n)
  | 0 => fun args kb K h => by
    unfold Sany at h; split at h <;> try exact h.elim
    obtain ⟨l, r, rfl, rfl, hp, h⟩ := h
    exact absurd hp.fuel (Nat.not_lt_zero _)
  | n + 1 => specOk_of' (XAn_ok (okAny n)) mixed (fun args kb K h => by
    unfold Sany at h; split at h <;> try exact h.elim
    obtain ⟨l, r, rfl, rfl, hp, h⟩ := h
    have hl := hp.len
    have hrl : r.length ≤ l.length := nodup_le hp.nod hp.lt
    refine ⟨anT l r 10, vcAny n l r K ⟨l, nz r, rfl, rfl, ⟨by omega, by simp only [List.length_map]; omega⟩, fun b hb => ⟨fun hbt => ?_, fun hbf => ⟨?_, ?_⟩⟩⟩⟩
    · refine h true ⟨fun _ => ?_, fun _ => rfl⟩
      obtain ⟨r', e, hw⟩ := hb.1 hbt
      rw [← nz_inj e] at hw
      exact ⟨[], by simpa using hw⟩
    · have nw : ¬ Wit l r := fun hw => by rw [hb.2 ⟨r, rfl, hw⟩] at hbf; cases hbf
      exact At.mk' ⟨0, Nat.zero_le _, nw, fun x hx => absurd hx (Nat.not_lt_zero _)⟩ rfl
    · rintro ⟨k, hk⟩
      have nx : k < l.length → (k ∉ r → ¬ ∃ s, Wit l (r ++ [k] ++ s)) → Nx (anLI l r) ⟨k, hk⟩ ([V.dat (D.sl 4 (l.map callR)), V.dat (D.sl 1 (ints .i64 (nz r))), V.int .i64 (IntKind.i64.wrap ((k : Int) + 1))], []) := fun hlt h1 => by
        rw [w64 (by omega) (by omega)]
        refine Nx.mk' (⟨k + 1, by omega, hk.nw, fun x hx hxr => ?_⟩ : {k : Nat // AnInv l r k}) rfl (by show l.length - (k + 1) < l.length - k; omega)
        by_cases hxk : x = k
        · subst hxk; exact h1 hxr
        · exact hk.no x (by omega) hxr
      simp only [List.length_map, ints_len, decide_eq_true_eq, decide_eq_false_iff_not]
      refine ⟨fun hc => ⟨nz r, rfl, ?_, fun hm => ?_, fun hm => ?_⟩, fun hc => ?_⟩
      · show (nz r).length ≤ _
        simp only [List.length_map]; omega
      · have hlt : k < l.length := by omega
        simp only [Bool.not_eq_true', decide_eq_false_iff_not] at hm
        have hkr : k ∉ r := fun f => hm (nz_mem.2 f)
        have hnd2 : (r ++ [k]).Nodup := List.nodup_append.2 ⟨hp.nod, by simp, fun a ha b hb => by rw [List.mem_singleton] at hb; subst hb; exact fun e => hkr (e ▸ ha)⟩
        have hlt2 : ∀ x ∈ r ++ [k], x < l.length := by
          intro x hx
          rcases List.mem_append.1 hx with hx | hx
          · exact hp.lt x hx
          · rw [List.mem_singleton] at hx; subst hx; exact hlt
        have hlz : (ints .i64 (nz r)).length = r.length := by rw [ints_len, List.length_map]
        refine ⟨trivial, Nat.le_refl _, by omega, Nat.le_refl _, by rw [List.nil_append, hlz]; omega, by omega, ⟨trivial, by rw [List.nil_append, List.length_append, List.length_take, hlz, List.length_singleton]; omega, trivial⟩, l, r ++ [k], rfl, ?_, ⟨hl, ?_, ?_, ?_⟩, fun b2 hb2 => ⟨trivial, fun h1 => ?_, fun h1 => ?_⟩⟩
        · rw [Nat.zero_add, List.nil_append, List.drop_zero]
          have e : List.take r.length (ints .i64 (nz r)) = ints .i64 (nz r) := List.take_of_length_le (by rw [hlz]; exact Nat.le_refl _)
          rw [e, show ints .i64 (nz r) ++ [[D.val (Value.int .i64 (k : Int))]] = ints .i64 (nz (r ++ [k])) by rw [show nz (r ++ [k]) = nz r ++ [(k : Int)] by simp [nz], ints_app]; rfl]
          exact List.take_of_length_le (by rw [ints_len, List.length_map, List.length_append, List.length_singleton]; exact Nat.le_refl _)
        · exact hnd2
        · exact hlt2
        · have := hp.fuel
          have h3 := nodup_le hnd2 hlt2
          rw [List.length_append, List.length_singleton] at h3
          rw [List.length_append, List.length_singleton]; omega
        · refine h true ⟨fun _ => ?_, fun _ => rfl⟩
          obtain ⟨s, hs⟩ := hb2.1 h1
          exact ⟨k :: s, by simpa using hs⟩
        · refine nx hlt fun _ hs => ?_
          rw [hb2.2 hs] at h1; cases h1
      · simp only [Bool.not_eq_false', decide_eq_true_eq] at hm
        exact nx (by omega) fun f => absurd (nz_mem.1 hm) f
      · have hkl : k = l.length := by have := hk.le; omega
        refine h false ⟨fun f => (by cases f), fun ⟨s, hs⟩ => ?_⟩
        cases s with
        | nil => exact absurd (by simpa using hs) hk.nw
        | cons x s =>
          obtain ⟨w, hw⟩ := run_tail hs.1
          rw [List.nil_append] at hw
          exact absurd ⟨s, by simpa using hs⟩ (hk.no x (by have := hw.1; omega) hw.2.1))
theorem wiS_ok : AllOk Try.prog wiS := fun f k h => by
  unfold wiS at h
  split at h
  · cases h; exact nilIn_ok (okFrom _) _
  · exact smS_ok _ _ h
theorem XWi_ok : CallOk Try.prog XWi := callS_ok mixed wiS_ok noT 10
theorem okWit : SpecOk Try.prog 9 Swit := specOk_nt XWi_ok mixed [.slot 0 3 1] (fun args kb K h => by
  unfold Swit at h; split at h <;> try exact h.elim
  obtain ⟨l, rfl, hl, h⟩ := h
  refine ⟨wiT l 9, vcWit l K ?_⟩
  simp only [List.length_map, decide_eq_true_eq, decide_eq_false_iff_not]
  refine ⟨fun hc => ?_, fun hc => ⟨At.mk' ⟨0, Nat.zero_le _, fun x hx => absurd hx (Nat.not_lt_zero _)⟩ rfl, ?_⟩⟩
  · exact h false [] [] ⟨fun f => (by cases f), fun _ => ⟨rfl, .inl (by omega)⟩⟩
  rintro ⟨i, hi, hok⟩
  simp only
  refine ⟨fun hc2 => ?_, fun hc2 => ?_⟩
  · have hlt : i < l.length := by omega
    refine ⟨by unfold NonN; omega, _, callR_get hlt, (atC l i).1, rfl, (atC l i).2.1, rfl, (atC l i).2.2.1, rfl, (atC l i).2.2.2, rfl, fun h1 => ?_, fun h1 => ?_⟩
    · simp only [Bool.not_eq_true', decide_eq_false_iff_not] at h1
      exact h false [] [] ⟨fun f => (by cases f), fun _ => ⟨rfl, .inr fun ⟨r, hr⟩ => h1 (hr.2 i hlt).1⟩⟩
    · simp only [Bool.not_eq_false', decide_eq_true_eq] at h1
      rw [w64 (by omega) (by omega)]
      refine Nx.mk' (⟨i + 1, by omega, fun x hx => ?_⟩ : {i : Nat // i ≤ l.length ∧ ∀ k, k < i → okC (atC l k)}) rfl (by show l.length - (i + 1) < l.length - i; omega)
      by_cases hxi : x = i
      · subst hxi; exact h1
      · exact hok x (by omega)
  · have : i = l.length := by omega
    subst this
    have hall : ∀ c ∈ l, okC c := ok_at.2 hok
    refine ⟨l, 0, [], [], rfl, rfl, rfl, rfl, ⟨by omega, Nat.le_refl _, Nat.pow_pos (by decide), ?_, ⟨fun e he => (by cases he)⟩⟩, fun b M' o' t' hpost => ⟨fun hb => ?_, fun hb => ?_⟩⟩
    · have : 2 ^ l.length ≤ 2 ^ 14 := Nat.pow_le_pow_right (by decide) (by omega)
      omega
    · simp only [Bool.not_eq_true'] at hb
      obtain ⟨h1, h2, h3⟩ := hpost.f hb
      exact h false [] [] ⟨fun f => (by cases f), fun _ => ⟨rfl, .inr fun ⟨r, hr⟩ => h2 ⟨r, (wit_iff.1 hr).2⟩⟩⟩
    · simp only [Bool.not_eq_false'] at hb
      obtain ⟨r, h1, h2⟩ := hpost.t hb
      rw [List.nil_append] at h1
      exact h true o' t' ⟨fun _ => ⟨r, h1, wit_iff.2 ⟨hall, h2⟩⟩, fun f => (by cases f)⟩)
end Go.Proofs.Ytodibmhakdhflaa
