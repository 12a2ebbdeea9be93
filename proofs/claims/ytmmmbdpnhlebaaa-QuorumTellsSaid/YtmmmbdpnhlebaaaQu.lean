import Derived.Test.YtmmmbdpnhlebaaaPkC
import Derived.Test.YtmmmbdpnhlebaaaSo
import Derived.KernelRfl
namespace Go.Proofs.Ytmmmbdpnhlebaaa
open Vc Go
set_option linter.unusedVariables false
set_option linter.unusedSimpArgs false
set_option maxRecDepth 100000
def gI (l : List Int) (i : Nat) : Int := l.getD i 0
def okAt (l : List Int) (j : Nat) : Prop := 0 ≤ gI l j ∧ gI l j ≤ 15 ∧ (0 < j → gI l (j - 1) < gI l j)
structure RightL (l : List Int) : Prop where
  lo : 1 ≤ l.length
  hi : l.length ≤ 7
  ok : ∀ j, j < l.length → okAt l j
structure Sm1 (l : List Int) : Prop where
  len : l.length ≤ 1000
abbrev rgLI (l : List Int) : LI where
  α := {i : Nat // i ≤ l.length ∧ ∀ j, j < i → okAt l j}
  live := [0, 5, 6, 7]
  st i := ([.dat (.sl 1 (ints .i64 l)), .dat (.sl 1 (ints .i64 l)), .int .i64 (l.length : Int), .int .i64 (i.1 : Int)], [])
  μ i := l.length - i.1
abbrev rrLI (l : List Int) : LI where
  α := {i : Nat // i ≤ l.length ∧ ∀ j, j < i → okAt l j}
  live := [0, 3]
  st i := ([.dat (.sl 1 (ints .i64 l)), .int .i64 (i.1 : Int)], [])
  μ i := l.length - i.1
abbrev ixLI (o : List Int) (v : Int) : LI where
  α := {i : Nat // i ≤ o.length ∧ v ∉ o.take i}
  live := [0, 1, 7, 8]
  st i := ([.dat (.sl 1 (ints .i64 o)), .int .i64 v, .int .i64 (o.length : Int), .int .i64 (i.1 : Int)], [])
  μ i := o.length - i.1
abbrev hsLI (o : List Int) (v : Int) : LI where
  α := {i : Nat // i ≤ o.length ∧ v ∉ o.take i}
  live := [0, 1, 5]
  st i := ([.dat (.sl 1 (ints .i64 o)), .int .i64 v, .int .i64 (i.1 : Int)], [])
  μ i := o.length - i.1
def hsT (o : List Int) (v : Int) : FuncId → Nat → Option LI
  | 36, 2 => some (ixLI o v)
  | 28, 2 => some (hsLI o v)
  | 14, 2 => some (rgLI o)
  | 10, 4 => some (rrLI o)
  | _, _ => none
noncomputable def XHs (o : List Int) (v : Int) : CallT := callS Try.prog noS (hsT o v) 10
def Shas : FSpec := fun args kb K => match args, kb with
  | [.dat (.sl 1 O), .int .i64 v], [] => ∃ o : List Int, O = ints .i64 o ∧ Sm1 o ∧ K (.sb (decide (v ∈ o))) []
  | _, _ => False
def Sright : FSpec := fun args kb K => match args, kb with
  | [.dat (.sl 1 O)], [] => ∃ o : List Int, O = ints .i64 o ∧ Sm1 o ∧ ∀ b : Bool, (b = true ↔ RightL o) → K (.sb b) []
  | _, _ => False
structure I64 (n : Int) : Prop where
  lo : -9223372036854775808 ≤ n
  hi : n ≤ 9223372036854775807
def majI (n : Int) : Int := if n < 1 then 0 else n / 2 + 1
theorem majI_1 {n : Int} (h : 1 ≤ n) : majI n = n / 2 + 1 := by unfold majI; rw [if_neg (by omega)]
def SMaj : FSpec := fun args kb K => match args, kb with
  | [.int .i64 n], [] => I64 n ∧ K (.int .i64 (majI n)) []
  | _, _ => False
def cnt (l y : List Int) : Nat := l.countP (fun x => decide (x ∈ y))
def wnS : FuncId → Option Known
  | 23 => some ⟨[.lend 1], Shas⟩
  | 28 => some ⟨[.lend 1], Shas⟩
  | 14 => some ⟨[.lend 1], Sright⟩
  | 10 => some ⟨[.lend 1], Sright⟩
  | 9 => some ⟨[], SMaj⟩
  | _ => none
noncomputable def XWn : CallT := callS Try.prog wnS noT 10
abbrev woLI (l y : List Int) : LI where
  α := {i : Nat // i ≤ l.length}
  live := [0, 1, 5, 8, 9, 10]
  st i := ([.dat (.sl 1 (ints .i64 l)), .dat (.sl 1 (ints .i64 y)), .int .i64 (cnt (l.take i.1) y : Int), .dat (.sl 1 (ints .i64 l)), .int .i64 (l.length : Int), .int .i64 (i.1 : Int)], [])
  μ i := l.length - i.1
abbrev wrLI (l y : List Int) : LI where
  α := {i : Nat // i ≤ l.length}
  live := [0, 1, 5, 6]
  st i := ([.dat (.sl 1 (ints .i64 l)), .dat (.sl 1 (ints .i64 y)), .int .i64 (cnt (l.take i.1) y : Int), .int .i64 (i.1 : Int)], [])
  μ i := l.length - i.1
abbrev meLI (l a b : List Int) : LI where
  α := {i : Nat // i ≤ l.length ∧ ∀ x ∈ l.take i, ¬ (x ∈ a ∧ x ∈ b)}
  live := [0, 1, 2, 7]
  st i := ([.dat (.sl 1 (ints .i64 l)), .dat (.sl 1 (ints .i64 a)), .dat (.sl 1 (ints .i64 b)), .int .i64 (i.1 : Int)], [])
  μ i := l.length - i.1
def SWon : FSpec := fun args kb K => match args, kb with
  | [.dat (.sl 1 L), .dat (.sl 1 Y)], [] => ∃ l y : List Int, L = ints .i64 l ∧ Y = ints .i64 y ∧ Sm1 l ∧ Sm1 y ∧ ∀ b : Bool, (b = true ↔ RightL l ∧ l.length < 2 * cnt l y) → K (.sb b) []
  | _, _ => False
def SMeet : FSpec := fun args kb K => match args, kb with
  | [.dat (.sl 1 L), .dat (.sl 1 A), .dat (.sl 1 B)], [] => ∃ l a b : List Int, L = ints .i64 l ∧ A = ints .i64 a ∧ B = ints .i64 b ∧ Sm1 l ∧ Sm1 a ∧ Sm1 b ∧ ∀ q : Bool, (q = true ↔ ∃ x ∈ l, x ∈ a ∧ x ∈ b) → K (.sb q) []
  | _, _ => False
/-- What a majority has. -/
structure MajV (a : List Int) (v : Int) : Prop where
  mem : v ∈ a
  most : a.length < 2 * a.countP (fun x => decide (v ≤ x))
  top : ∀ w ∈ a, a.length < 2 * a.countP (fun x => decide (w ≤ x)) → w ≤ v
def mapV (M : ML) (l : List Int) : List Int := l.map fun x => mgetI M [x] 0
structure OkM (M : ML) : Prop where
  ok : ∀ x cs, mget M [x] = some cs → ∃ n, cs = [dn .i64 n]
structure IdxP (l : List Int) (M : ML) (v : Int) : Prop where
  no : ¬ RightL l → v = 0
  yes : RightL l → MajV (mapV M l) v
def SIndex : FSpec := fun args kb K => match args, kb with
  | [.dat (.sl 1 L), .mp 0], [.mp [.i64] false false 1 M] => ∃ l : List Int, L = ints .i64 l ∧ Sm1 l ∧ OkM M ∧ ∀ v, IdxP l M v → K (.int .i64 v) [.mp [.i64] false false 1 M]
  | _, _ => False
def SrIndex : FSpec := fun args kb K => match args, kb with
  | [.dat (.sl 1 A)], [] => ∃ a : List Int, A = ints .i64 a ∧ Sm1 a ∧ ∀ v, (a ≠ [] → MajV a v) → K (.int .i64 v) []
  | _, _ => False
def inS : FuncId → Option Known
  | 22 => some ⟨[], Ssort 3⟩
  | f => wnS f
noncomputable def XIn : CallT := callS Try.prog inS noT 10
abbrev inLI (l : List Int) (M : ML) : LI where
  α := {i : Nat // i ≤ l.length ∧ RightL l}
  live := [1, 5, 11, 12, 13]
  nils := [.slot 1 3 1]
  st i := ([.mp 0, .sl 1 0 i.1, .dat (.sl 1 (ints .i64 l)), .int .i64 (l.length : Int), .int .i64 (i.1 : Int)], [.mp [.i64] false false 1 M, .row 3 1 (ints .i64 (mapV M (l.take i.1)))])
  μ i := l.length - i.1
def cge (a : List Int) (w : Int) : Nat := a.countP (fun x => decide (w ≤ x))
structure RiInv (a : List Int) (p : Nat × Bool × Int) : Prop where
  le : p.1 ≤ a.length
  t : p.2.1 = true → p.2.2 ∈ a ∧ a.length < 2 * cge a p.2.2 ∧ ∀ j, j < p.1 → a.length < 2 * cge a (gI a j) → gI a j ≤ p.2.2
  f : p.2.1 = false → ∀ j, j < p.1 → ¬ a.length < 2 * cge a (gI a j)
abbrev riIn (a : List Int) (p : Nat × Bool × Int) : LI where
  α := {k : Nat // k ≤ a.length}
  live := [0, 3, 4, 5, 6, 7]
  st k := ([.dat (.sl 1 (ints .i64 a)), .int .i64 p.2.2, .sb p.2.1, .int .i64 (p.1 : Int), .int .i64 (cge (a.take k.1) (gI a p.1) : Int), .int .i64 (k.1 : Int)], [])
  μ k := a.length - k.1
abbrev riLI (a : List Int) : LI where
  α := {p : Nat × Bool × Int // RiInv a p}
  live := [0, 3, 4, 5]
  st p := ([.dat (.sl 1 (ints .i64 a)), .int .i64 p.1.2.2, .sb p.1.2.1, .int .i64 (p.1.1 : Int)], [])
  μ p := a.length - p.1.1
  sub p r := match r with
    | 8 => some (riIn a p.1)
    | _ => none
def inT (l : List Int) (M : ML) : FuncId → Nat → Option LI
  | 8, 5 => some (inLI l M)
  | 11, 4 => some (riLI l)
  | _, _ => none
def woT (l y z : List Int) : FuncId → Nat → Option LI
  | 15, 3 => some (woLI l y)
  | 16, 5 => some (wrLI l y)
  | 18, 2 => some (meLI l y z)
  | _, _ => none
theorem vcRight (o : List Int) (K : V → KB → Prop) (hvc_ :
 At (rgLI o) ([V.dat (D.sl 1 (ints IntKind.i64 o)), V.dat (D.sl 1 (ints IntKind.i64 o)), V.int IntKind.i64 (↑(ints IntKind.i64 o).length : Int), V.int IntKind.i64 0], []) ∧
 ∀ (i : { i : Nat // i ≤ o.length ∧ ∀ (j : Nat), j < i → okAt o j }),
 (decide ((↑i.val : Int) < (↑o.length : Int)) = true →
 NonN (↑i.val : Int) ∧
 ∃ (e : List D),
 (ints IntKind.i64 o)[(↑i.val : Int).toNat]? = some e ∧
 ∃ (n : Int),
 e[0]? = some (D.val (Value.int IntKind.i64 n)) ∧
 (decide (n ≥ 0) = true →
 ((!decide (n ≤ 15)) = true → K (V.sb false) []) ∧
 ((!decide (n ≤ 15)) = false →
 (decide ((↑i.val : Int) > 0) = true →
 NonN (IntKind.i64.wrap ((↑i.val : Int) - 1)) ∧
 ∃ (e : List D),
 (ints IntKind.i64 o)[(IntKind.i64.wrap ((↑i.val : Int) - 1)).toNat]? = some e ∧
 ∃ (n_1 : Int), e[0]? = some (D.val (Value.int IntKind.i64 n_1)) ∧ (decide (n ≤ n_1) = true → K (V.sb false) []) ∧ (decide (n ≤ n_1) = false → Nx (rgLI o) i ([V.dat (D.sl 1 (ints IntKind.i64 o)), V.dat (D.sl 1 (ints IntKind.i64 o)), V.int IntKind.i64 (↑o.length : Int), V.int IntKind.i64 (IntKind.i64.wrap ((↑i.val : Int) + 1))], []))) ∧
 (decide ((↑i.val : Int) > 0) = false → Nx (rgLI o) i ([V.dat (D.sl 1 (ints IntKind.i64 o)), V.dat (D.sl 1 (ints IntKind.i64 o)), V.int IntKind.i64 (↑o.length : Int), V.int IntKind.i64 (IntKind.i64.wrap ((↑i.val : Int) + 1))], [])))) ∧
 (decide (n ≥ 0) = false → K (V.sb false) [])) ∧
 (decide ((↑i.val : Int) < (↑o.length : Int)) = false → (decide ((↑(ints IntKind.i64 o).length : Int) ≥ 1) = true → K (V.sb (decide ((↑(ints IntKind.i64 o).length : Int) ≤ 7))) []) ∧ (decide ((↑(ints IntKind.i64 o).length : Int) ≥ 1) = false → K (V.sb false) []))
 ) : runSpec Try.prog (XHs o 0) (hsT o 0 14) 14 [.dat (.sl 1 (ints .i64 o))] [] K := Eq.mp (by kernel_rfl) hvc_
theorem vcRefRight (o : List Int) (K : V → KB → Prop) (hvc_ :
 (decide ((↑(ints IntKind.i64 o).length : Int) < 1) = true → K (V.sb false) []) ∧
 (decide ((↑(ints IntKind.i64 o).length : Int) < 1) = false →
 (decide ((↑(ints IntKind.i64 o).length : Int) > 7) = true → K (V.sb false) []) ∧
 (decide ((↑(ints IntKind.i64 o).length : Int) > 7) = false →
 At (rrLI o) ([V.dat (D.sl 1 (ints IntKind.i64 o)), V.int IntKind.i64 0], []) ∧
 ∀ (i : { i : Nat // i ≤ o.length ∧ ∀ (j : Nat), j < i → okAt o j }),
 (decide ((↑i.val : Int) < (↑(ints IntKind.i64 o).length : Int)) = true →
 NonN (↑i.val : Int) ∧
 ∃ (e : List D),
 (ints IntKind.i64 o)[(↑i.val : Int).toNat]? = some e ∧
 ∃ (n : Int),
 e[0]? = some (D.val (Value.int IntKind.i64 n)) ∧
 (decide (n < 0) = true → K (V.sb false) []) ∧
 (decide (n < 0) = false →
 NonN (↑i.val : Int) ∧
 ∃ (e : List D),
 (ints IntKind.i64 o)[(↑i.val : Int).toNat]? = some e ∧
 ∃ (n : Int),
 e[0]? = some (D.val (Value.int IntKind.i64 n)) ∧
 (decide (n > 15) = true → K (V.sb false) []) ∧
 (decide (n > 15) = false →
 (decide ((↑i.val : Int) > 0) = true →
 NonN (↑i.val : Int) ∧
 ∃ (e : List D),
 (ints IntKind.i64 o)[(↑i.val : Int).toNat]? = some e ∧
 ∃ (n : Int),
 e[0]? = some (D.val (Value.int IntKind.i64 n)) ∧
 NonN (IntKind.i64.wrap ((↑i.val : Int) - 1)) ∧
 ∃ (e : List D),
 (ints IntKind.i64 o)[(IntKind.i64.wrap ((↑i.val : Int) - 1)).toNat]? = some e ∧
 ∃ (n_1 : Int), e[0]? = some (D.val (Value.int IntKind.i64 n_1)) ∧ (decide (n ≤ n_1) = true → K (V.sb false) []) ∧ (decide (n ≤ n_1) = false → Nx (rrLI o) i ([V.dat (D.sl 1 (ints IntKind.i64 o)), V.int IntKind.i64 (IntKind.i64.wrap ((↑i.val : Int) + 1))], []))) ∧
 (decide ((↑i.val : Int) > 0) = false → Nx (rrLI o) i ([V.dat (D.sl 1 (ints IntKind.i64 o)), V.int IntKind.i64 (IntKind.i64.wrap ((↑i.val : Int) + 1))], []))))) ∧
 (decide ((↑i.val : Int) < (↑(ints IntKind.i64 o).length : Int)) = false → K (V.sb true) [])))
 ) : runSpec Try.prog (XHs o 0) (hsT o 0 10) 10 [.dat (.sl 1 (ints .i64 o))] [] K := Eq.mp (by kernel_rfl) hvc_
theorem vcContains (o : List Int) (v : Int) (K : V → KB → Prop) (hvc_ :
 At (ixLI o v) ([V.dat (D.sl 1 (ints IntKind.i64 o)), V.int IntKind.i64 v, V.int IntKind.i64 (↑(ints IntKind.i64 o).length : Int), V.int IntKind.i64 0], []) ∧
 ∀ (i : { i : Nat // i ≤ o.length ∧ ¬v ∈ List.take i o }),
 (decide ((↑i.val : Int) < (↑o.length : Int)) = true →
 NonN (↑i.val : Int) ∧
 ∃ (e : List D),
 (ints IntKind.i64 o)[(↑i.val : Int).toNat]? = some e ∧ ∃ (n : Int), e[0]? = some (D.val (Value.int IntKind.i64 n)) ∧ ((v == n) = true → K (V.sb (decide ((↑i.val : Int) ≥ 0))) []) ∧ ((v == n) = false → Nx (ixLI o v) i ([V.dat (D.sl 1 (ints IntKind.i64 o)), V.int IntKind.i64 v, V.int IntKind.i64 (↑o.length : Int), V.int IntKind.i64 (IntKind.i64.wrap ((↑i.val : Int) + 1))], []))) ∧
 (decide ((↑i.val : Int) < (↑o.length : Int)) = false → K (V.sb false) [])
 ) : runSpec Try.prog (XHs o v) (noT 23) 23 [.dat (.sl 1 (ints .i64 o)), .int .i64 v] [] K := Eq.mp (by kernel_rfl) hvc_
theorem vcHas (o : List Int) (v : Int) (K : V → KB → Prop) (hvc_ :
 At (hsLI o v) ([V.dat (D.sl 1 (ints IntKind.i64 o)), V.int IntKind.i64 v, V.int IntKind.i64 0], []) ∧
 ∀ (i : { i : Nat // i ≤ o.length ∧ ¬v ∈ List.take i o }),
 (decide ((↑i.val : Int) < (↑(ints IntKind.i64 o).length : Int)) = true →
 NonN (↑i.val : Int) ∧ ∃ (e : List D), (ints IntKind.i64 o)[(↑i.val : Int).toNat]? = some e ∧ ∃ (n : Int), e[0]? = some (D.val (Value.int IntKind.i64 n)) ∧ ((n == v) = true → K (V.sb true) []) ∧ ((n == v) = false → Nx (hsLI o v) i ([V.dat (D.sl 1 (ints IntKind.i64 o)), V.int IntKind.i64 v, V.int IntKind.i64 (IntKind.i64.wrap ((↑i.val : Int) + 1))], []))) ∧
 (decide ((↑i.val : Int) < (↑(ints IntKind.i64 o).length : Int)) = false → K (V.sb false) [])
 ) : runSpec Try.prog (XHs o v) (hsT o v 28) 28 [.dat (.sl 1 (ints .i64 o)), .int .i64 v] [] K := Eq.mp (by kernel_rfl) hvc_
theorem vcMaj (n : Int) (K : V → KB → Prop) (hvc_ :
 (decide (n < 1) = true → K (V.int IntKind.i64 0) []) ∧ (decide (n < 1) = false → K (V.int IntKind.i64 (IntKind.i64.wrap (IntKind.i64.wrap (n.tdiv 2) + 1))) [])
 ) : runSpec Try.prog X0 (noT 9) 9 [.int .i64 n] [] K := Eq.mp (by kernel_rfl) hvc_
theorem vcWon (l y : List Int) (K : V → KB → Prop) (hvc_ :
 At (woLI l y) ([V.dat (D.sl 1 (ints IntKind.i64 l)), V.dat (D.sl 1 (ints IntKind.i64 y)), V.int IntKind.i64 0, V.dat (D.sl 1 (ints IntKind.i64 l)), V.int IntKind.i64 (↑(ints IntKind.i64 l).length : Int), V.int IntKind.i64 0], []) ∧
 ∀ (i : { i : Nat // i ≤ l.length }),
 (decide ((↑i.val : Int) < (↑l.length : Int)) = true →
 NonN (↑i.val : Int) ∧
 ∃ (e : List D),
 (ints IntKind.i64 l)[(↑i.val : Int).toNat]? = some e ∧
 ∃ (n : Int),
 e[0]? = some (D.val (Value.int IntKind.i64 n)) ∧
 ∃ (o : List Int),
 ints IntKind.i64 y = ints IntKind.i64 o ∧
 Sm1 o ∧
 (decide (n ∈ o) = true → Nx (woLI l y) i ([V.dat (D.sl 1 (ints IntKind.i64 l)), V.dat (D.sl 1 (ints IntKind.i64 y)), V.int IntKind.i64 (IntKind.i64.wrap ((↑(cnt (List.take i.val l) y) : Int) + 1)), V.dat (D.sl 1 (ints IntKind.i64 l)), V.int IntKind.i64 (↑l.length : Int), V.int IntKind.i64 (IntKind.i64.wrap ((↑i.val : Int) + 1))], [])) ∧
 (decide (n ∈ o) = false → Nx (woLI l y) i ([V.dat (D.sl 1 (ints IntKind.i64 l)), V.dat (D.sl 1 (ints IntKind.i64 y)), V.int IntKind.i64 (↑(cnt (List.take i.val l) y) : Int), V.dat (D.sl 1 (ints IntKind.i64 l)), V.int IntKind.i64 (↑l.length : Int), V.int IntKind.i64 (IntKind.i64.wrap ((↑i.val : Int) + 1))], []))) ∧
 (decide ((↑i.val : Int) < (↑l.length : Int)) = false → ∃ (o : List Int), ints IntKind.i64 l = ints IntKind.i64 o ∧ Sm1 o ∧ ∀ (b : Bool), (b = true ↔ RightL o) → (b = true → I64 (↑(ints IntKind.i64 l).length : Int) ∧ K (V.sb (decide ((↑(cnt (List.take i.val l) y) : Int) ≥ majI (↑(ints IntKind.i64 l).length : Int)))) []) ∧ (b = false → K (V.sb false) []))
 ) : runSpec Try.prog XWn (woT l y [] 15) 15 [.dat (.sl 1 (ints .i64 l)), .dat (.sl 1 (ints .i64 y))] [] K := Eq.mp (by kernel_rfl) hvc_
theorem vcRefWon (l y : List Int) (K : V → KB → Prop) (hvc_ :
 ∃ (o : List Int),
 ints IntKind.i64 l = ints IntKind.i64 o ∧
 Sm1 o ∧
 ∀ (b : Bool),
 (b = true ↔ RightL o) →
 ((!b) = true → K (V.sb false) []) ∧
 ((!b) = false →
 At (wrLI l y) ([V.dat (D.sl 1 (ints IntKind.i64 l)), V.dat (D.sl 1 (ints IntKind.i64 y)), V.int IntKind.i64 0, V.int IntKind.i64 0], []) ∧
 ∀ (i : { i : Nat // i ≤ l.length }),
 (decide ((↑i.val : Int) < (↑(ints IntKind.i64 l).length : Int)) = true →
 NonN (↑i.val : Int) ∧
 ∃ (e : List D),
 (ints IntKind.i64 l)[(↑i.val : Int).toNat]? = some e ∧
 ∃ (n : Int),
 e[0]? = some (D.val (Value.int IntKind.i64 n)) ∧
 ∃ (o : List Int),
 ints IntKind.i64 y = ints IntKind.i64 o ∧
 Sm1 o ∧
 (decide (n ∈ o) = true → Nx (wrLI l y) i ([V.dat (D.sl 1 (ints IntKind.i64 l)), V.dat (D.sl 1 (ints IntKind.i64 y)), V.int IntKind.i64 (IntKind.i64.wrap ((↑(cnt (List.take i.val l) y) : Int) + 1)), V.int IntKind.i64 (IntKind.i64.wrap ((↑i.val : Int) + 1))], [])) ∧
 (decide (n ∈ o) = false → Nx (wrLI l y) i ([V.dat (D.sl 1 (ints IntKind.i64 l)), V.dat (D.sl 1 (ints IntKind.i64 y)), V.int IntKind.i64 (↑(cnt (List.take i.val l) y) : Int), V.int IntKind.i64 (IntKind.i64.wrap ((↑i.val : Int) + 1))], []))) ∧
 (decide ((↑i.val : Int) < (↑(ints IntKind.i64 l).length : Int)) = false → K (V.sb (decide (IntKind.i64.wrap (2 * (↑(cnt (List.take i.val l) y) : Int)) > (↑(ints IntKind.i64 l).length : Int)))) []))
 ) : runSpec Try.prog XWn (woT l y [] 16) 16 [.dat (.sl 1 (ints .i64 l)), .dat (.sl 1 (ints .i64 y))] [] K := Eq.mp (by kernel_rfl) hvc_
theorem vcMeet (l y z : List Int) (K : V → KB → Prop) (hvc_ :
 At (meLI l y z) ([V.dat (D.sl 1 (ints IntKind.i64 l)), V.dat (D.sl 1 (ints IntKind.i64 y)), V.dat (D.sl 1 (ints IntKind.i64 z)), V.int IntKind.i64 0], []) ∧
 ∀ (i : { i : Nat // i ≤ l.length ∧ ∀ (x : Int), x ∈ List.take i l → ¬(x ∈ y ∧ x ∈ z) }),
 (decide ((↑i.val : Int) < (↑(ints IntKind.i64 l).length : Int)) = true →
 NonN (↑i.val : Int) ∧
 ∃ (e : List D),
 (ints IntKind.i64 l)[(↑i.val : Int).toNat]? = some e ∧
 ∃ (n : Int),
 e[0]? = some (D.val (Value.int IntKind.i64 n)) ∧
 ∃ (o : List Int),
 ints IntKind.i64 y = ints IntKind.i64 o ∧
 Sm1 o ∧
 (decide (n ∈ o) = true →
 NonN (↑i.val : Int) ∧
 ∃ (e : List D),
 (ints IntKind.i64 l)[(↑i.val : Int).toNat]? = some e ∧
 ∃ (n : Int),
 e[0]? = some (D.val (Value.int IntKind.i64 n)) ∧
 ∃ (o : List Int), ints IntKind.i64 z = ints IntKind.i64 o ∧ Sm1 o ∧ (decide (n ∈ o) = true → K (V.sb true) []) ∧ (decide (n ∈ o) = false → Nx (meLI l y z) i ([V.dat (D.sl 1 (ints IntKind.i64 l)), V.dat (D.sl 1 (ints IntKind.i64 y)), V.dat (D.sl 1 (ints IntKind.i64 z)), V.int IntKind.i64 (IntKind.i64.wrap ((↑i.val : Int) + 1))], []))) ∧
 (decide (n ∈ o) = false → Nx (meLI l y z) i ([V.dat (D.sl 1 (ints IntKind.i64 l)), V.dat (D.sl 1 (ints IntKind.i64 y)), V.dat (D.sl 1 (ints IntKind.i64 z)), V.int IntKind.i64 (IntKind.i64.wrap ((↑i.val : Int) + 1))], []))) ∧
 (decide ((↑i.val : Int) < (↑(ints IntKind.i64 l).length : Int)) = false → K (V.sb false) [])
 ) : runSpec Try.prog XWn (woT l y z 18) 18 [.dat (.sl 1 (ints .i64 l)), .dat (.sl 1 (ints .i64 y)), .dat (.sl 1 (ints .i64 z))] [] K := Eq.mp (by kernel_rfl) hvc_
theorem vcIndex (l : List Int) (M : ML) (K : V → KB → Prop) (hvc_ :
 ∃ (o : List Int),
 ints IntKind.i64 l = ints IntKind.i64 o ∧
 Sm1 o ∧
 ∀ (b : Bool),
 (b = true ↔ RightL o) →
 ((!b) = true → K (V.int IntKind.i64 0) [KO.mp [IntKind.i64] false false 1 M]) ∧
 ((!b) = false →
 At (inLI l M) ([V.mp 0, V.sl 1 0 0, V.dat (D.sl 1 (ints IntKind.i64 l)), V.int IntKind.i64 (↑(ints IntKind.i64 l).length : Int), V.int IntKind.i64 0], [KO.mp [IntKind.i64] false false 1 M, KO.row 3 1 []]) ∧
 ∀ (i : { i : Nat // i ≤ l.length ∧ RightL l }),
 (decide ((↑i.val : Int) < (↑l.length : Int)) = true →
 NonN (↑i.val : Int) ∧
 ∃ (e : List D),
 (ints IntKind.i64 l)[(↑i.val : Int).toNat]? = some e ∧
 ∃ (n : Int),
 e[0]? = some (D.val (Value.int IntKind.i64 n)) ∧
 (∀ (cs : List D), mget M [n] = some cs → ConfK [CK.int IntKind.i64] cs) ∧
 1 ≤ 1 ∧
 i.val ≤ (ints IntKind.i64 (mapV M (List.take i.val l))).length ∧
 (i.val + 1) * 8 ≤ 140737488355328 ∧
 Nx (inLI l M) i ([V.mp 0, V.sl 1 0 (i.val + 1), V.dat (D.sl 1 (ints IntKind.i64 l)), V.int IntKind.i64 (↑l.length : Int), V.int IntKind.i64 (IntKind.i64.wrap ((↑i.val : Int) + 1))], [KO.mp [IntKind.i64] false false 1 M, KO.row 3 1 (List.take i.val (ints IntKind.i64 (mapV M (List.take i.val l))) ++ [[D.val (Value.int IntKind.i64 (mgetI M [n] 0))]])])) ∧
 (decide ((↑i.val : Int) < (↑l.length : Int)) = false →
 3 = 3 ∧
 ∃ (a : List Int),
 ∃ (t : List Int),
 ints IntKind.i64 (mapV M (List.take i.val l)) = ints IntKind.i64 (a ++ t) ∧
 i.val = a.length ∧
 a.length ≤ 1000000 ∧
 I64 (↑(i.val - 0) : Int) ∧
 InB (IntKind.i64.wrap ((↑(i.val - 0) : Int) - majI (↑(i.val - 0) : Int))) (i.val - 0) ∧ ∃ (e : List D), (ints IntKind.i64 (sortI a ++ t))[0 + (IntKind.i64.wrap ((↑(i.val - 0) : Int) - majI (↑(i.val - 0) : Int))).toNat]? = some e ∧ ∃ (n : Int), e[0]? = some (D.val (Value.int IntKind.i64 n)) ∧ K (V.int IntKind.i64 n) [KO.mp [IntKind.i64] false false 1 M]))
 ) : runSpec Try.prog XIn (inT l M 8) 8 [.dat (.sl 1 (ints .i64 l)), .mp 0] [.mp [.i64] false false 1 M] K := Eq.mp (by kernel_rfl) hvc_
theorem vcRefIndex (l : List Int) (K : V → KB → Prop) (hvc_ :
 At (riLI l) ([V.dat (D.sl 1 (ints IntKind.i64 l)), V.int IntKind.i64 0, V.sb false, V.int IntKind.i64 0], []) ∧
 ∀ (i : { p : Nat × Bool × Int // RiInv l p }),
 (decide ((↑i.val.fst : Int) < (↑(ints IntKind.i64 l).length : Int)) = true →
 At (riIn l i.val) ([V.dat (D.sl 1 (ints IntKind.i64 l)), V.int IntKind.i64 i.val.snd.snd, V.sb i.val.snd.fst, V.int IntKind.i64 (↑i.val.fst : Int), V.int IntKind.i64 0, V.int IntKind.i64 0], []) ∧
 ∀ (i_1 : { k : Nat // k ≤ l.length }),
 (decide ((↑i_1.val : Int) < (↑(ints IntKind.i64 l).length : Int)) = true →
 NonN (↑i_1.val : Int) ∧
 ∃ (e : List D),
 (ints IntKind.i64 l)[(↑i_1.val : Int).toNat]? = some e ∧
 ∃ (n : Int),
 e[0]? = some (D.val (Value.int IntKind.i64 n)) ∧
 NonN (↑i.val.fst : Int) ∧
 ∃ (e : List D),
 (ints IntKind.i64 l)[(↑i.val.fst : Int).toNat]? = some e ∧
 ∃ (n_1 : Int),
 e[0]? = some (D.val (Value.int IntKind.i64 n_1)) ∧
 (decide (n ≥ n_1) = true → Nx (riIn l i.val) i_1 ([V.dat (D.sl 1 (ints IntKind.i64 l)), V.int IntKind.i64 i.val.snd.snd, V.sb i.val.snd.fst, V.int IntKind.i64 (↑i.val.fst : Int), V.int IntKind.i64 (IntKind.i64.wrap ((↑(cge (List.take i_1.val l) (gI l i.val.fst)) : Int) + 1)), V.int IntKind.i64 (IntKind.i64.wrap ((↑i_1.val : Int) + 1))], [])) ∧
 (decide (n ≥ n_1) = false → Nx (riIn l i.val) i_1 ([V.dat (D.sl 1 (ints IntKind.i64 l)), V.int IntKind.i64 i.val.snd.snd, V.sb i.val.snd.fst, V.int IntKind.i64 (↑i.val.fst : Int), V.int IntKind.i64 (↑(cge (List.take i_1.val l) (gI l i.val.fst)) : Int), V.int IntKind.i64 (IntKind.i64.wrap ((↑i_1.val : Int) + 1))], []))) ∧
 (decide ((↑i_1.val : Int) < (↑(ints IntKind.i64 l).length : Int)) = false →
 (decide (IntKind.i64.wrap (2 * (↑(cge (List.take i_1.val l) (gI l i.val.fst)) : Int)) > (↑(ints IntKind.i64 l).length : Int)) = true →
 ((!i.val.snd.fst) = true → NonN (↑i.val.fst : Int) ∧ ∃ (e : List D), (ints IntKind.i64 l)[(↑i.val.fst : Int).toNat]? = some e ∧ ∃ (n : Int), e[0]? = some (D.val (Value.int IntKind.i64 n)) ∧ Nx (riLI l) i ([V.dat (D.sl 1 (ints IntKind.i64 l)), V.int IntKind.i64 n, V.sb true, V.int IntKind.i64 (IntKind.i64.wrap ((↑i.val.fst : Int) + 1))], [])) ∧
 ((!i.val.snd.fst) = false →
 NonN (↑i.val.fst : Int) ∧
 ∃ (e : List D),
 (ints IntKind.i64 l)[(↑i.val.fst : Int).toNat]? = some e ∧
 ∃ (n : Int),
 e[0]? = some (D.val (Value.int IntKind.i64 n)) ∧
 (decide (n > i.val.snd.snd) = true → NonN (↑i.val.fst : Int) ∧ ∃ (e : List D), (ints IntKind.i64 l)[(↑i.val.fst : Int).toNat]? = some e ∧ ∃ (n : Int), e[0]? = some (D.val (Value.int IntKind.i64 n)) ∧ Nx (riLI l) i ([V.dat (D.sl 1 (ints IntKind.i64 l)), V.int IntKind.i64 n, V.sb true, V.int IntKind.i64 (IntKind.i64.wrap ((↑i.val.fst : Int) + 1))], [])) ∧
 (decide (n > i.val.snd.snd) = false → Nx (riLI l) i ([V.dat (D.sl 1 (ints IntKind.i64 l)), V.int IntKind.i64 i.val.snd.snd, V.sb i.val.snd.fst, V.int IntKind.i64 (IntKind.i64.wrap ((↑i.val.fst : Int) + 1))], [])))) ∧
 (decide (IntKind.i64.wrap (2 * (↑(cge (List.take i_1.val l) (gI l i.val.fst)) : Int)) > (↑(ints IntKind.i64 l).length : Int)) = false → Nx (riLI l) i ([V.dat (D.sl 1 (ints IntKind.i64 l)), V.int IntKind.i64 i.val.snd.snd, V.sb i.val.snd.fst, V.int IntKind.i64 (IntKind.i64.wrap ((↑i.val.fst : Int) + 1))], [])))) ∧
 (decide ((↑i.val.fst : Int) < (↑(ints IntKind.i64 l).length : Int)) = false → K (V.int IntKind.i64 i.val.snd.snd) [])
 ) : runSpec Try.prog XWn (inT l [] 11) 11 [.dat (.sl 1 (ints .i64 l))] [] K := Eq.mp (by kernel_rfl) hvc_
theorem gI_get {l : List Int} {i : Nat} (h : i < l.length) : l[i]? = some (gI l i) := by
  unfold gI; rw [List.getD_eq_getElem?_getD, List.getElem?_eq_getElem h]; rfl
theorem gI_mem {l : List Int} {i : Nat} (h : i < l.length) : gI l i ∈ l := List.mem_of_getElem? (gI_get h)
theorem gI_take {l : List Int} {i : Nat} (h : i < l.length) : l.take (i + 1) = l.take i ++ [gI l i] := by rw [List.take_add_one, gI_get h]; rfl
theorem mem_gI {l : List Int} {x : Int} (h : x ∈ l) : ∃ i, i < l.length ∧ gI l i = x := by
  obtain ⟨i, hi, rfl⟩ := List.getElem_of_mem h
  have := gI_get hi
  rw [List.getElem?_eq_getElem hi, Option.some.injEq] at this
  exact ⟨i, hi, this.symm⟩
theorem el {k : IntKind} {l : List Int} {i : Nat} {Q : Int → Prop} (h : i < l.length) (q : Q (gI l i)) : NonN (i : Int) ∧ ∃ e, (ints k l)[(i : Int).toNat]? = some e ∧ ∃ n, e[0]? = some (D.val (.int k n)) ∧ Q n :=
  ⟨by unfold NonN; omega, [D.val (.int k (gI l i))], by rw [Int.toNat_natCast, ints_get, gI_get h]; rfl, _, rfl, q⟩
theorem el' {k : IntKind} {l : List Int} {x : Int} {i : Nat} {Q : Int → Prop} (e : x = i) (h : i < l.length) (q : Q (gI l i)) : NonN x ∧ ∃ e, (ints k l)[x.toNat]? = some e ∧ ∃ n, e[0]? = some (D.val (.int k n)) ∧ Q n := by
  subst e; exact el h q
theorem XHs_ok (o : List Int) (v : Int) : CallOk Try.prog (XHs o v) := callS_ok mixed noS_ok _ 10
theorem okContains : SpecOk Try.prog 23 Shas := specOk_of'' mixed (fun args kb K h => by
  unfold Shas at h; split at h <;> try exact h.elim
  rename_i v
  obtain ⟨o, rfl, ⟨hl⟩, h⟩ := h
  refine ⟨XHs o v, noT 23, XHs_ok o v, vcContains o v K ⟨by rw [ints_len]; exact At.mk' ⟨0, Nat.zero_le _, by simp⟩ rfl, ?_⟩⟩
  rintro ⟨i, hi, ht⟩
  simp only [decide_eq_true_eq, decide_eq_false_iff_not]
  refine ⟨fun hc => el (by omega) ⟨fun hx => ?_, fun hx => ?_⟩, fun hc => ?_⟩
  · simp only [beq_iff_eq] at hx
    rw [decide_eq_true (show (i : Int) ≥ 0 by omega)]
    rwa [decide_eq_true (by rw [hx]; exact gI_mem (by omega))] at h
  · simp only [beq_eq_false_iff_ne, ne_eq] at hx
    rw [w64 (by omega) (by omega)]
    refine Nx.mk' (⟨i + 1, by omega, ?_⟩ : {i : Nat // i ≤ o.length ∧ v ∉ o.take i}) rfl (by show o.length - (i + 1) < o.length - i; omega)
    rw [gI_take (by omega), List.mem_append]
    rintro (h1 | h1)
    · exact ht h1
    · exact hx (List.mem_singleton.1 h1)
  · have : i = o.length := by omega
    subst this
    rw [List.take_length] at ht
    rwa [decide_eq_false ht] at h)
theorem okHas : SpecOk Try.prog 28 Shas := specOk_of'' mixed (fun args kb K h => by
  unfold Shas at h; split at h <;> try exact h.elim
  rename_i v
  obtain ⟨o, rfl, ⟨hl⟩, h⟩ := h
  refine ⟨XHs o v, hsT o v 28, XHs_ok o v, vcHas o v K ⟨At.mk' ⟨0, Nat.zero_le _, by simp⟩ rfl, ?_⟩⟩
  rintro ⟨i, hi, ht⟩
  simp only [decide_eq_true_eq, decide_eq_false_iff_not, ints_len]
  refine ⟨fun hc => el (by omega) ⟨fun hx => ?_, fun hx => ?_⟩, fun hc => ?_⟩
  · simp only [beq_iff_eq] at hx
    rwa [decide_eq_true (by rw [← hx]; exact gI_mem (by omega))] at h
  · simp only [beq_eq_false_iff_ne, ne_eq] at hx
    rw [w64 (by omega) (by omega)]
    refine Nx.mk' (⟨i + 1, by omega, ?_⟩ : {i : Nat // i ≤ o.length ∧ v ∉ o.take i}) rfl (by show o.length - (i + 1) < o.length - i; omega)
    rw [gI_take (by omega), List.mem_append]
    rintro (h1 | h1)
    · exact ht h1
    · exact hx (List.mem_singleton.1 h1).symm
  · have : i = o.length := by omega
    subst this
    rw [List.take_length] at ht
    rwa [decide_eq_false ht] at h)
theorem ok_next {l : List Int} {i : Nat} (ht : ∀ j, j < i → okAt l j) (h : okAt l i) : ∀ j, j < i + 1 → okAt l j := fun j hj => by
  by_cases hji : j = i
  · subst hji; exact h
  · exact ht j (by omega)
theorem okRight : SpecOk Try.prog 14 Sright := specOk_of'' mixed (fun args kb K h => by
  unfold Sright at h; split at h <;> try exact h.elim
  obtain ⟨o, rfl, ⟨hl⟩, h⟩ := h
  have no : ¬ RightL o → K (.sb false) [] := fun hn => h false ⟨fun f => (by cases f), fun w => absurd w hn⟩
  refine ⟨XHs o 0, hsT o 0 14, XHs_ok o 0, vcRight o K ⟨by rw [ints_len]; exact At.mk' ⟨0, Nat.zero_le _, fun j hj => absurd hj (Nat.not_lt_zero _)⟩ rfl, ?_⟩⟩
  rintro ⟨i, hi, ht⟩
  simp only [decide_eq_true_eq, decide_eq_false_iff_not, ints_len]
  refine ⟨fun hc => ?_, fun hc => ⟨fun h1 => ?_, fun h1 => ?_⟩⟩
  · have hio : i < o.length := by omega
    have nx : okAt o i → Nx (rgLI o) ⟨i, hi, ht⟩ ([V.dat (D.sl 1 (ints .i64 o)), V.dat (D.sl 1 (ints .i64 o)), V.int .i64 (o.length : Int), V.int .i64 (IntKind.i64.wrap ((i : Int) + 1))], []) := fun hk => by
      rw [w64 (by omega) (by omega)]
      exact Nx.mk' (⟨i + 1, by omega, ok_next ht hk⟩ : {i : Nat // i ≤ o.length ∧ ∀ j, j < i → okAt o j}) rfl (by show o.length - (i + 1) < o.length - i; omega)
    refine el hio ⟨fun h1 => ⟨fun h2 => no fun w => ?_, fun h2 => ⟨fun h3 => el' (i := i - 1) (by rw [w64 (by omega) (by omega)]; omega) (by omega) ⟨fun h4 => no fun w => ?_, fun h4 => ?_⟩, fun h3 => ?_⟩⟩, fun h1 => no fun w => ?_⟩
    · simp only [Bool.not_eq_true', decide_eq_false_iff_not] at h2
      have := (w.ok i hio).2.1; omega
    · have := (w.ok i hio).2.2 (by omega); omega
    · simp only [Bool.not_eq_false', decide_eq_true_eq] at h2
      exact nx ⟨by omega, h2, fun _ => by omega⟩
    · simp only [Bool.not_eq_false', decide_eq_true_eq] at h2
      exact nx ⟨by omega, h2, fun _ => by omega⟩
    · have := (w.ok i hio).1; omega
  · have : i = o.length := by omega
    subst this
    refine h _ ⟨fun h2 => ?_, fun w => ?_⟩
    · simp only [decide_eq_true_eq] at h2
      exact ⟨by omega, by omega, ht⟩
    · have := w.hi
      simp only [decide_eq_true_eq]; omega
  · exact no fun w => by have := w.lo; omega)
theorem okRefRight : SpecOk Try.prog 10 Sright := specOk_of'' mixed (fun args kb K h => by
  unfold Sright at h; split at h <;> try exact h.elim
  obtain ⟨o, rfl, ⟨hl⟩, h⟩ := h
  have no : ¬ RightL o → K (.sb false) [] := fun hn => h false ⟨fun f => (by cases f), fun w => absurd w hn⟩
  refine ⟨XHs o 0, hsT o 0 10, XHs_ok o 0, vcRefRight o K ?_⟩
  simp only [decide_eq_true_eq, decide_eq_false_iff_not, ints_len]
  refine ⟨fun h1 => no fun w => by have := w.lo; omega, fun h1 => ⟨fun h2 => no fun w => by have := w.hi; omega, fun h2 => ⟨At.mk' ⟨0, Nat.zero_le _, fun j hj => absurd hj (Nat.not_lt_zero _)⟩ rfl, ?_⟩⟩⟩
  rintro ⟨i, hi, ht⟩
  simp only
  refine ⟨fun hc => ?_, fun hc => ?_⟩
  · have hio : i < o.length := by omega
    have nx : okAt o i → Nx (rrLI o) ⟨i, hi, ht⟩ ([V.dat (D.sl 1 (ints .i64 o)), V.int .i64 (IntKind.i64.wrap ((i : Int) + 1))], []) := fun hk => by
      rw [w64 (by omega) (by omega)]
      exact Nx.mk' (⟨i + 1, by omega, ok_next ht hk⟩ : {i : Nat // i ≤ o.length ∧ ∀ j, j < i → okAt o j}) rfl (by show o.length - (i + 1) < o.length - i; omega)
    refine el hio ⟨fun h1 => no fun w => ?_, fun h1 => el hio ⟨fun h2 => no fun w => ?_, fun h2 => ⟨fun h3 => el hio (el' (i := i - 1) (by rw [w64 (by omega) (by omega)]; omega) (by omega) ⟨fun h4 => no fun w => ?_, fun h4 => ?_⟩), fun h3 => ?_⟩⟩⟩
    · have := (w.ok i hio).1; omega
    · have := (w.ok i hio).2.1; omega
    · have := (w.ok i hio).2.2 (by omega); omega
    · exact nx ⟨by omega, by omega, fun _ => by omega⟩
    · exact nx ⟨by omega, by omega, fun _ => by omega⟩
  · have : i = o.length := by omega
    subst this
    exact h true ⟨fun _ => ⟨by omega, by omega, ht⟩, fun _ => rfl⟩)
theorem okMaj : SpecOk Try.prog 9 SMaj := specOk_of' X0_ok mixed (fun args kb K h => by
  unfold SMaj at h; split at h <;> try exact h.elim
  rename_i n
  obtain ⟨⟨h0, h00⟩, h⟩ := h
  unfold majI at h
  refine ⟨noT 9, vcMaj n K ⟨fun hc => ?_, fun hc => ?_⟩⟩
  · simp only [decide_eq_true_eq] at hc
    rwa [if_pos hc] at h
  · simp only [decide_eq_false_iff_not] at hc
    rw [if_neg hc] at h
    rw [Int.tdiv_eq_ediv_of_nonneg (by omega), w64 (n := n / 2) (by omega) (by omega), w64 (by omega) (by omega)]
    exact h)
theorem wnS_ok : AllOk Try.prog wnS := fun f k h => by
  unfold wnS at h
  split at h <;> first | (cases h; first | exact okContains | exact okHas | exact okRight | exact okRefRight | exact okMaj) | cases h
theorem XWn_ok : CallOk Try.prog XWn := callS_ok mixed wnS_ok noT 10
theorem cnt_take {l y : List Int} {i : Nat} (h : i < l.length) : cnt (l.take (i + 1)) y = cnt (l.take i) y + if gI l i ∈ y then 1 else 0 := by
  unfold cnt
  rw [gI_take h, List.countP_append]
  simp [List.countP_cons, List.countP_nil]
theorem cnt_le {l y : List Int} : cnt l y ≤ l.length := List.countP_le_length
theorem okWon : SpecOk Try.prog 15 SWon := specOk_of' XWn_ok mixed (fun args kb K h => by
  unfold SWon at h; split at h <;> try exact h.elim
  obtain ⟨l, y, rfl, rfl, ⟨hl⟩, ⟨hy⟩, h⟩ := h
  refine ⟨woT l y [] 15, vcWon l y K ⟨by rw [ints_len]; exact At.mk' ⟨0, Nat.zero_le _⟩ rfl, ?_⟩⟩
  rintro ⟨i, hi⟩
  have hcl := cnt_le (l := l.take i) (y := y)
  rw [List.length_take] at hcl
  simp only [decide_eq_true_eq, decide_eq_false_iff_not, ints_len]
  refine ⟨fun hc => el (by omega) ⟨y, rfl, ⟨hy⟩, fun h1 => ?_, fun h1 => ?_⟩, fun hc => ⟨l, rfl, ⟨hl⟩, fun b hb => ⟨fun h1 => ⟨⟨by omega, by omega⟩, ?_⟩, fun h1 => ?_⟩⟩⟩
  · rw [w64 (n := (i : Int) + 1) (by omega) (by omega), w64 (n := (cnt (l.take i) y : Int) + 1) (by omega) (by omega)]
    exact Nx.mk' (⟨i + 1, by omega⟩ : {i : Nat // i ≤ l.length}) (by simp only [cnt_take (show i < l.length by omega), if_pos h1]; rfl) (by show l.length - (i + 1) < l.length - i; omega)
  · rw [w64 (n := (i : Int) + 1) (by omega) (by omega)]
    exact Nx.mk' (⟨i + 1, by omega⟩ : {i : Nat // i ≤ l.length}) (by simp only [cnt_take (show i < l.length by omega), if_neg h1]; rfl) (by show l.length - (i + 1) < l.length - i; omega)
  · have : i = l.length := by omega
    subst this
    have hlo := (hb.1 h1).lo
    rw [List.take_length, majI_1 (by omega)]
    refine h _ ?_
    simp only [decide_eq_true_eq]
    constructor
    · intro h3; exact ⟨hb.1 h1, by omega⟩
    · rintro ⟨_, h3⟩; omega
  · refine h false ⟨fun f => (by cases f), fun ⟨w, _⟩ => ?_⟩
    rw [hb.2 w] at h1; cases h1)
theorem okRefWon : SpecOk Try.prog 16 SWon := specOk_of' XWn_ok mixed (fun args kb K h => by
  unfold SWon at h; split at h <;> try exact h.elim
  obtain ⟨l, y, rfl, rfl, ⟨hl⟩, ⟨hy⟩, h⟩ := h
  refine ⟨woT l y [] 16, vcRefWon l y K ⟨l, rfl, ⟨hl⟩, fun b hb => ⟨fun h1 => ?_, fun h1 => ⟨At.mk' ⟨0, Nat.zero_le _⟩ rfl, ?_⟩⟩⟩⟩
  · refine h false ⟨fun f => (by cases f), fun ⟨w, _⟩ => ?_⟩
    rw [hb.2 w] at h1; cases h1
  rintro ⟨i, hi⟩
  have hcl := cnt_le (l := l.take i) (y := y)
  rw [List.length_take] at hcl
  simp only [decide_eq_true_eq, decide_eq_false_iff_not, ints_len]
  refine ⟨fun hc => el (by omega) ⟨y, rfl, ⟨hy⟩, fun h1 => ?_, fun h1 => ?_⟩, fun hc => ?_⟩
  · rw [w64 (n := (i : Int) + 1) (by omega) (by omega), w64 (n := (cnt (l.take i) y : Int) + 1) (by omega) (by omega)]
    exact Nx.mk' (⟨i + 1, by omega⟩ : {i : Nat // i ≤ l.length}) (by simp only [cnt_take (show i < l.length by omega), if_pos h1]; rfl) (by show l.length - (i + 1) < l.length - i; omega)
  · rw [w64 (n := (i : Int) + 1) (by omega) (by omega)]
    exact Nx.mk' (⟨i + 1, by omega⟩ : {i : Nat // i ≤ l.length}) (by simp only [cnt_take (show i < l.length by omega), if_neg h1]; rfl) (by show l.length - (i + 1) < l.length - i; omega)
  · have : i = l.length := by omega
    subst this
    rw [List.take_length] at hcl ⊢
    refine h _ ?_
    simp only [Bool.not_eq_false'] at h1
    rw [w64 (by omega) (by omega)]
    simp only [decide_eq_true_eq]
    constructor
    · intro h3; exact ⟨hb.1 h1, by omega⟩
    · rintro ⟨_, h3⟩; omega)
theorem okMeet : SpecOk Try.prog 18 SMeet := specOk_of' XWn_ok mixed (fun args kb K h => by
  unfold SMeet at h; split at h <;> try exact h.elim
  obtain ⟨l, a, b, rfl, rfl, rfl, ⟨hl⟩, ⟨ha⟩, ⟨hb⟩, h⟩ := h
  refine ⟨woT l a b 18, vcMeet l a b K ⟨At.mk' ⟨0, Nat.zero_le _, by simp⟩ rfl, ?_⟩⟩
  rintro ⟨i, hi, ht⟩
  simp only [decide_eq_true_eq, decide_eq_false_iff_not, ints_len]
  have nx : i < l.length → ¬ (gI l i ∈ a ∧ gI l i ∈ b) → Nx (meLI l a b) ⟨i, hi, ht⟩ ([V.dat (D.sl 1 (ints .i64 l)), V.dat (D.sl 1 (ints .i64 a)), V.dat (D.sl 1 (ints .i64 b)), V.int .i64 (IntKind.i64.wrap ((i : Int) + 1))], []) := fun hlt hn => by
    rw [w64 (by omega) (by omega)]
    refine Nx.mk' (⟨i + 1, by omega, fun x hx => ?_⟩ : {i : Nat // i ≤ l.length ∧ ∀ x ∈ l.take i, ¬ (x ∈ a ∧ x ∈ b)}) rfl (by show l.length - (i + 1) < l.length - i; omega)
    rw [gI_take hlt] at hx
    rcases List.mem_append.1 hx with hx | hx
    · exact ht x hx
    · rw [List.mem_singleton.1 hx]; exact hn
  refine ⟨fun hc => el (by omega) ⟨a, rfl, ⟨ha⟩, fun h1 => el (by omega) ⟨b, rfl, ⟨hb⟩, fun h2 => ?_, fun h2 => ?_⟩, fun h1 => ?_⟩, fun hc => ?_⟩
  · exact h true ⟨fun _ => ⟨_, gI_mem (by omega), h1, h2⟩, fun _ => rfl⟩
  · exact nx (by omega) fun f => h2 f.2
  · exact nx (by omega) fun f => h1 f.1
  · have : i = l.length := by omega
    subst this
    rw [List.take_length] at ht
    exact h false ⟨fun f => (by cases f), fun ⟨x, h1, h2⟩ => absurd h2 (ht x h1)⟩)
theorem inS_ok : AllOk Try.prog inS := fun f k h => by
  unfold inS at h
  split at h
  · cases h; exact okSort
  · exact wnS_ok _ _ h
theorem XIn_ok : CallOk Try.prog XIn := callS_ok mixed inS_ok noT 10
theorem sortI_perm (l : List Int) : (sortI l).Perm l := List.mergeSort_perm l _
theorem sortI_sorted (l : List Int) : (sortI l).Pairwise (fun x y => x ≤ y) := by
  have := List.pairwise_mergeSort (le := fun (x y : Int) => decide (x ≤ y)) (fun a b c h1 h2 => by simp only [decide_eq_true_eq] at *; omega) (fun a b => by simp only [Bool.or_eq_true, decide_eq_true_eq]; omega) l
  exact this.imp (fun h => by simpa using h)
theorem majV_sorted {a : List Int} (h0 : a ≠ []) : MajV a (gI (sortI a) (a.length - (a.length / 2 + 1))) := by
  have hn : 1 ≤ a.length := by cases a with | nil => exact absurd rfl h0 | cons _ _ => simp
  have hp := sortI_perm a
  have hl := sortI_len a
  have hs := sortI_sorted a
  have hix : a.length - (a.length / 2 + 1) < (sortI a).length := by omega
  have hcp : ∀ w, a.countP (fun x => decide (w ≤ x)) = (sortI a).countP (fun x => decide (w ≤ x)) := fun w => (hp.countP_eq _).symm
  have hv : gI (sortI a) (a.length - (a.length / 2 + 1)) = (sortI a)[a.length - (a.length / 2 + 1)] := by
    have := gI_get hix
    rw [List.getElem?_eq_getElem hix, Option.some.injEq] at this
    exact this.symm
  have hpw := List.pairwise_iff_getElem.1 hs
  have hsplit : ∀ (w : Int) (k : Nat), (sortI a).countP (fun x => decide (w ≤ x)) = ((sortI a).take k).countP (fun x => decide (w ≤ x)) + ((sortI a).drop k).countP (fun x => decide (w ≤ x)) := fun w k => by
    rw [← List.countP_append, List.take_append_drop]
  refine ⟨hp.mem_iff.1 (gI_mem hix), ?_, fun w _ hw => ?_⟩
  · rw [hcp, hsplit _ (a.length - (a.length / 2 + 1))]
    have : ((sortI a).drop (a.length - (a.length / 2 + 1))).countP (fun x => decide (gI (sortI a) (a.length - (a.length / 2 + 1)) ≤ x)) = ((sortI a).drop (a.length - (a.length / 2 + 1))).length := by
      rw [List.countP_eq_length]
      intro x hx
      obtain ⟨j, hj, rfl⟩ := List.getElem_of_mem hx
      rw [List.getElem_drop, hv]
      rw [List.length_drop] at hj
      simp only [decide_eq_true_eq]
      rcases Nat.eq_zero_or_pos j with rfl | hj0
      · exact Int.le_refl _
      · exact hpw _ _ _ _ (by omega)
    rw [this, List.length_drop, hl]
    omega
  · rw [hcp, hsplit _ (a.length - (a.length / 2 + 1) + 1)] at hw
    by_cases hlt : w ≤ gI (sortI a) (a.length - (a.length / 2 + 1))
    · exact hlt
    · have : ((sortI a).take (a.length - (a.length / 2 + 1) + 1)).countP (fun x => decide (w ≤ x)) = 0 := by
        rw [List.countP_eq_zero]
        intro x hx
        obtain ⟨j, hj, rfl⟩ := List.getElem_of_mem hx
        rw [List.getElem_take]
        rw [List.length_take] at hj
        simp only [decide_eq_true_eq]
        intro hwx
        have h3 : (sortI a)[j] ≤ gI (sortI a) (a.length - (a.length / 2 + 1)) := by
          rw [hv]
          rcases Nat.lt_or_ge j (a.length - (a.length / 2 + 1)) with h4 | h4
          · exact hpw _ _ _ _ h4
          · have : j = a.length - (a.length / 2 + 1) := by omega
            subst this; exact Int.le_refl _
        omega
      rw [this] at hw
      have h5 := List.countP_le_length (p := fun x => decide (w ≤ x)) (l := (sortI a).drop (a.length - (a.length / 2 + 1) + 1))
      rw [List.length_drop, hl] at h5
      omega
theorem mapV_take {M : ML} {l : List Int} {i : Nat} (h : i < l.length) : mapV M (l.take (i + 1)) = mapV M (l.take i) ++ [mgetI M [gI l i] 0] := by
  unfold mapV; rw [gI_take h, List.map_append]; rfl
theorem mapV_len {M : ML} {l : List Int} : (mapV M l).length = l.length := by simp [mapV]
theorem okIndex : SpecOk Try.prog 8 SIndex := specOk_of' XIn_ok mixed (fun args kb K h => by
  unfold SIndex at h; split at h <;> try exact h.elim
  rename_i M
  obtain ⟨l, rfl, ⟨hl⟩, hM, h⟩ := h
  refine ⟨inT l M 8, vcIndex l M K ⟨l, rfl, ⟨hl⟩, fun b hb => ⟨fun h1 => ?_, fun h1 => ⟨?_, ?_⟩⟩⟩⟩
  · refine h 0 ⟨fun _ => rfl, fun w => ?_⟩
    rw [hb.2 w] at h1; cases h1
  · rw [ints_len]
    exact At.mk' ⟨0, Nat.zero_le _, hb.1 (by simpa using h1)⟩ rfl
  rintro ⟨i, hi, hR⟩
  have hti : (l.take i).length = i := by rw [List.length_take]; omega
  simp only [decide_eq_true_eq, decide_eq_false_iff_not]
  refine ⟨fun hc => el (by omega) ⟨fun cs hcs => ?_, Nat.le_refl _, ?_, by omega, ?_⟩, fun hc => ⟨trivial, mapV M l, [], ?_, ?_, ?_, ⟨by omega, by omega⟩, ?_⟩⟩
  · obtain ⟨n, rfl⟩ := hM.ok _ _ hcs
    exact ⟨n, [], rfl, rfl⟩
  · rw [ints_len, mapV_len, hti]; exact Nat.le_refl _
  · have hlt : i < l.length := by omega
    rw [w64 (by omega) (by omega)]
    refine Nx.mk' (⟨i + 1, by omega, hR⟩ : {i : Nat // i ≤ l.length ∧ RightL l}) ?_ (by show l.length - (i + 1) < l.length - i; omega)
    show (_ : List V × KB) = _
    have e1 : List.take i (ints .i64 (mapV M (l.take i))) = ints .i64 (mapV M (l.take i)) := List.take_of_length_le (by rw [ints_len, mapV_len, hti]; exact Nat.le_refl _)
    rw [e1, show ints .i64 (mapV M (l.take i)) ++ [[D.val (.int .i64 (mgetI M [gI l i] 0))]] = ints .i64 (mapV M (l.take (i + 1))) by rw [mapV_take hlt, ints_app]; rfl]
    rfl
  · have : i = l.length := by omega
    subst this
    rw [List.take_length, List.append_nil]
  · rw [mapV_len]; omega
  · rw [mapV_len]; omega
  · have hil : i = l.length := by omega
    subst hil
    have hlo := hR.lo
    rw [majI_1 (by omega)]
    have e0 : ((l.length - 0 : Nat) : Int) = (l.length : Int) := rfl
    have e1 : IntKind.i64.wrap (((l.length - 0 : Nat) : Int) - (((l.length - 0 : Nat) : Int) / 2 + 1)) = ((l.length - (l.length / 2 + 1) : Nat) : Int) := by
      rw [w64 (by omega) (by omega)]; omega
    have hne : mapV M l ≠ [] := fun e => by have := congrArg List.length e; rw [mapV_len, List.length_nil] at this; omega
    have hmv := majV_sorted hne
    rw [mapV_len] at hmv
    have hix : l.length - (l.length / 2 + 1) < (sortI (mapV M l)).length := by rw [sortI_len, mapV_len]; omega
    rw [e1]
    have hlt2 : l.length - (l.length / 2 + 1) < l.length := by omega
    refine ⟨⟨by omega, by show ((l.length - (l.length / 2 + 1) : Nat) : Int) < ((l.length - 0 : Nat) : Int); rw [Nat.sub_zero]; exact Int.ofNat_lt.2 hlt2⟩, [D.val (.int .i64 (gI (sortI (mapV M l)) (l.length - (l.length / 2 + 1))))], by rw [List.append_nil, Nat.zero_add, Int.toNat_natCast, ints_get, gI_get hix]; rfl, _, rfl, h _ ⟨fun f => absurd hR f, fun _ => hmv⟩⟩)
theorem cge_take {a : List Int} {w : Int} {k : Nat} (h : k < a.length) : cge (a.take (k + 1)) w = cge (a.take k) w + if w ≤ gI a k then 1 else 0 := by
  unfold cge
  rw [gI_take h, List.countP_append]
  simp [List.countP_cons, List.countP_nil]
theorem okRefIndex : SpecOk Try.prog 11 SrIndex := specOk_of' XWn_ok mixed (fun args kb K h => by
  unfold SrIndex at h; split at h <;> try exact h.elim
  obtain ⟨a, rfl, ⟨hl⟩, h⟩ := h
  refine ⟨inT a [] 11, vcRefIndex a K ⟨At.mk' ⟨(0, false, 0), Nat.zero_le _, fun f => (by cases f), fun _ j hj => absurd hj (Nat.not_lt_zero _)⟩ rfl, ?_⟩⟩
  rintro ⟨⟨i, sm, best⟩, hp⟩
  have hi := hp.le
  have hT := hp.t
  have hF := hp.f
  simp only at hi hT hF
  simp only [decide_eq_true_eq, decide_eq_false_iff_not, ints_len]
  refine ⟨fun hc => ⟨At.mk' ⟨0, Nat.zero_le _⟩ rfl, ?_⟩, fun hc => ?_⟩
  · have hia : i < a.length := by omega
    rintro ⟨k, hk⟩
    have hck := List.countP_le_length (p := fun x => decide (gI a i ≤ x)) (l := a.take k)
    rw [List.length_take] at hck
    have hck2 : cge (a.take k) (gI a i) ≤ min k a.length := hck
    simp only
    have nx : ∀ (s2 : Bool) (b2 : Int), RiInv a (i + 1, s2, b2) → Nx (riLI a) ⟨(i, sm, best), hp⟩ ([V.dat (D.sl 1 (ints .i64 a)), V.int .i64 b2, V.sb s2, V.int .i64 (IntKind.i64.wrap ((i : Int) + 1))], []) := fun s2 b2 hr => by
      rw [w64 (by omega) (by omega)]
      exact Nx.mk' (⟨(i + 1, s2, b2), hr⟩ : {p : Nat × Bool × Int // RiInv a p}) rfl (by show a.length - (i + 1) < a.length - i; omega)
    refine ⟨fun hk2 => el (by omega) (el hia ⟨fun h1 => ?_, fun h1 => ?_⟩), fun hk2 => ⟨fun h1 => ?_, fun h1 => ?_⟩⟩
    · rw [w64 (n := (k : Int) + 1) (by omega) (by omega), w64 (n := (cge (a.take k) (gI a i) : Int) + 1) (by omega) (by omega)]
      exact Nx.mk' (⟨k + 1, by omega⟩ : {k : Nat // k ≤ a.length}) (by simp only [cge_take (show k < a.length by omega), if_pos h1]; rfl) (by show a.length - (k + 1) < a.length - k; omega)
    · rw [w64 (n := (k : Int) + 1) (by omega) (by omega)]
      exact Nx.mk' (⟨k + 1, by omega⟩ : {k : Nat // k ≤ a.length}) (by simp only [cge_take (show k < a.length by omega), if_neg h1]; rfl) (by show a.length - (k + 1) < a.length - k; omega)
    · have hke : k = a.length := by omega
      subst hke
      rw [List.take_length] at hck2 h1
      rw [w64 (by omega) (by omega)] at h1
      have hmaj : a.length < 2 * cge a (gI a i) := by omega
      refine ⟨fun h2 => el hia (nx true (gI a i) ⟨by simp only; omega, fun _ => ⟨gI_mem hia, hmaj, fun j hj hm => ?_⟩, fun f => (by cases f)⟩), fun h2 => el hia ⟨fun h3 => el hia (nx true (gI a i) ⟨by simp only; omega, fun _ => ⟨gI_mem hia, hmaj, fun j hj hm => ?_⟩, fun f => (by cases f)⟩), fun h3 => ?_⟩⟩
      · simp only [Bool.not_eq_true'] at h2
        simp only at hj
        by_cases hji : j = i
        · subst hji; exact Int.le_refl _
        · exact absurd hm (hF h2 j (by omega))
      · simp only [Bool.not_eq_false'] at h2
        simp only at hj
        by_cases hji : j = i
        · subst hji; exact Int.le_refl _
        · have := (hT h2).2.2 j (by omega) hm
          simp only; omega
      · simp only [Bool.not_eq_false'] at h2
        refine nx sm best ⟨by simp only; omega, fun _ => ⟨(hT h2).1, (hT h2).2.1, fun j hj hm => ?_⟩, fun f => ?_⟩
        · simp only at hj
          by_cases hji : j = i
          · subst hji; simp only; omega
          · exact (hT h2).2.2 j (by omega) hm
        · simp only at f; rw [h2] at f; cases f
    · have hke : k = a.length := by omega
      subst hke
      rw [List.take_length] at hck2 h1
      rw [w64 (by omega) (by omega)] at h1
      refine nx sm best ⟨by simp only; omega, fun hb => ⟨(hT hb).1, (hT hb).2.1, fun j hj hm => ?_⟩, fun hb j hj hm => ?_⟩
      · simp only at hj
        by_cases hji : j = i
        · subst hji; omega
        · exact (hT hb).2.2 j (by omega) hm
      · simp only at hj
        by_cases hji : j = i
        · subst hji; omega
        · exact hF hb j (by omega) hm
  · have : i = a.length := by omega
    subst this
    refine h best fun hne => ?_
    have hs : sm = true := by
      cases hsm : sm
      · have hmv := majV_sorted hne
        obtain ⟨j, hj, he⟩ := mem_gI hmv.mem
        have := hF hsm j hj
        rw [he] at this
        exact absurd hmv.most this
      · rfl
    obtain ⟨h1, h2, h3⟩ := hT hs
    exact ⟨h1, h2, fun w hw hm => by obtain ⟨j, hj, rfl⟩ := mem_gI hw; exact h3 j hj hm⟩)
theorem majV_uniq {a : List Int} {v w : Int} (h : MajV a v) (k : MajV a w) : v = w := Int.le_antisymm (k.top v h.mem h.most) (h.top w k.mem k.most)
end Go.Proofs.Ytmmmbdpnhlebaaa
