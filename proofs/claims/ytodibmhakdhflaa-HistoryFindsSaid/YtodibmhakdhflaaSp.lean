import Derived.Test.YtodibmhakdhflaaBa
import Derived.Test.YtodibmhakdhflaaHi
import Derived.KernelRfl
namespace Go.Proofs.Ytodibmhakdhflaa
open Vc Go
set_option linter.unusedVariables false
set_option linter.unusedSimpArgs false
set_option maxRecDepth 100000
def callR (c : Call) : List D := [dn .i64 c.1, dn .i64 c.2.1, dn .i64 c.2.2.1, dn .i64 c.2.2.2]
abbrev callV (c : Call) : V := .agg [.int .i64 c.1, .int .i64 c.2.1, .int .i64 c.2.2.1, .int .i64 c.2.2.2]
structure SmC (l : List Call) : Prop where
  len : l.length ≤ 1000
abbrev sK (l : List Call) (M : ML) (h : Nat) (R : List (List D)) : KB := [.cells [.dat (.sl 4 (l.map callR)), .mp 1, .sl 2 0 h], .mp [.i64, .i64] true false 1 M, .row 3 1 R]
abbrev doLI (l : List Call) (m : Nat) (M : ML) (h : Nat) (R : List (List D)) : LI where
  α := {i : Nat // i ≤ l.length ∧ ∀ k, k < i → (atC l k).2.2.2 ≠ -1 → m.testBit k = true}
  live := [1, 10, 11, 12]
  st i := ([.int .i64 (m : Int), .dat (.sl 4 (l.map callR)), .int .i64 (l.length : Int), .int .i64 (i.1 : Int)], sK l M h R)
  μ i := l.length - i.1
abbrev frLI (l : List Call) (m k : Nat) (M : ML) (h : Nat) (R : List (List D)) : LI where
  α := {i : Nat // i ≤ l.length ∧ ∀ o, o < i → m.testBit o = false → ¬ ahC (atC l o) (atC l k)}
  live := [0, 1, 2, 39, 40, 41]
  st i := ([.ptr 0 0, .int .i64 (m : Int), .int .i64 (k : Int), .dat (.sl 4 (l.map callR)), .int .i64 (l.length : Int), .int .i64 (i.1 : Int)], sK l M h R)
  μ i := l.length - i.1
abbrev frCut (l : List Call) (m k : Nat) (M : ML) (h : Nat) (R : List (List D)) : LI where
  α := {i : Nat // i = 0 ∧ m.testBit k = false ∧ ¬ unC (atC l k)}
  live := [0, 1, 2]
  st i := ([.ptr 0 0, .int .i64 (m : Int), .int .i64 (k : Int)], sK l M h R)
  μ i := 0
def doT (l : List Call) (m k : Nat) (M : ML) (h : Nat) (R : List (List D)) : FuncId → Nat → Option LI
  | 20, 2 => some (doLI l m M h R)
  | 21, 4 => some (frLI l m k M h R)
  | 21, 1003 => some (frCut l m k M h R)
  | _, _ => none
abbrev haLI (o : List Int) (v : Int) : LI where
  α := {i : Nat // i ≤ o.length ∧ v ∉ o.take i}
  live := [0, 1, 5]
  st i := ([.dat (.sl 1 (ints .i64 o)), .int .i64 v, .int .i64 (i.1 : Int)], [])
  μ i := o.length - i.1
def haT (o : List Int) (v : Int) : FuncId → Nat → Option LI
  | 16, 2 => some (haLI o v)
  | _, _ => none
def Sright : FSpec := fun args kb K => match args, kb with
  | [.agg [.int .i64 a, .int .i64 b, .int .i64 c, .int .i64 d]], [] => K (.sb (decide (okC (a, b, c, d)))) []
  | _, _ => False
def Snext : FSpec := fun args kb K => match args, kb with
  | [.agg [.int .i64 a, .int .i64 b, .int .i64 c, .int .i64 d], .int .i64 v], [] => K (.tup [.int .i64 (nxC (a, b, c, d) v), .sb (decide (fitC (a, b, c, d) v))]) []
  | _, _ => False
def Sahead : FSpec := fun args kb K => match args, kb with
  | [.agg [.int .i64 a, .int .i64 b, .int .i64 c, .int .i64 d], .agg [.int .i64 a', .int .i64 b', .int .i64 c', .int .i64 d']], [] => K (.sb (decide (ahC (a, b, c, d) (a', b', c', d')))) []
  | _, _ => False
def Shas : FSpec := fun args kb K => match args, kb with
  | [.dat (.sl 1 O), .int .i64 v], [] => ∃ o : List Int, O = ints .i64 o ∧ Sm o ∧ K (.sb (decide (v ∈ o))) []
  | _, _ => False
def smS : FuncId → Option Known
  | 14 => some ⟨[], Sright⟩
  | 17 => some ⟨[], Sright⟩
  | 18 => some ⟨[], Snext⟩
  | 19 => some ⟨[], Sahead⟩
  | 16 => some ⟨[.lend 1], Shas⟩
  | 13 => some ⟨[.lend 1, .lend 1], SsameK .i64⟩
  | _ => none
noncomputable def XSm : CallT := callS Try.prog smS noT 10
theorem vcRight (a b c d : Int) (K : V → KB → Prop) (h :
 (decide (a ≥ 1) = true → (decide (a ≤ 3) = true → (decide (c ≥ 0) = true → ((d == -1) = true → K (V.sb true) []) ∧ ((d == -1) = false → K (V.sb (decide (d ≥ c))) [])) ∧ (decide (c ≥ 0) = false → K (V.sb false) [])) ∧ (decide (a ≤ 3) = false → K (V.sb false) [])) ∧ (decide (a ≥ 1) = false → K (V.sb false) [])
 ) : runSpec Try.prog X0 (noT 14) 14 [.agg [.int .i64 a, .int .i64 b, .int .i64 c, .int .i64 d]] [] K := Eq.mp (by kernel_rfl) h
theorem vcRight2 (a b c d : Int) (K : V → KB → Prop) (h :
 (decide (a ≥ 1) = true → (decide (a ≤ 3) = true → (decide (c ≥ 0) = true → ((d == -1) = true → K (V.sb true) []) ∧ ((d == -1) = false → K (V.sb (decide (d ≥ c))) [])) ∧ (decide (c ≥ 0) = false → K (V.sb false) [])) ∧ (decide (a ≤ 3) = false → K (V.sb false) [])) ∧ (decide (a ≥ 1) = false → K (V.sb false) [])
 ) : runSpec Try.prog X0 (noT 17) 17 [.agg [.int .i64 a, .int .i64 b, .int .i64 c, .int .i64 d]] [] K := Eq.mp (by kernel_rfl) h
theorem vcNext (a b c d v : Int) (K : V → KB → Prop) (h :
 ((a == 1) = true → K (V.tup [V.int IntKind.i64 b, V.sb true]) []) ∧ ((a == 1) = false → ((a == 2) = true → K (V.tup [V.int IntKind.i64 0, V.sb true]) []) ∧ ((a == 2) = false → K (V.tup [V.int IntKind.i64 v, V.sb (b == v)]) []))
 ) : runSpec Try.prog X0 (noT 18) 18 [.agg [.int .i64 a, .int .i64 b, .int .i64 c, .int .i64 d], .int .i64 v] [] K := Eq.mp (by kernel_rfl) h
theorem vcAhead (a b c d a' b' c' d' : Int) (K : V → KB → Prop) (h :
 ((d != -1) = true → K (V.sb (decide (d < c'))) []) ∧ ((d != -1) = false → K (V.sb false) [])
 ) : runSpec Try.prog X0 (noT 19) 19 [.agg [.int .i64 a, .int .i64 b, .int .i64 c, .int .i64 d], .agg [.int .i64 a', .int .i64 b', .int .i64 c', .int .i64 d']] [] K := Eq.mp (by kernel_rfl) h
theorem vcHas (o : List Int) (v : Int) (K : V → KB → Prop) (h :
 At (haLI o v) ([V.dat (D.sl 1 (ints IntKind.i64 o)), V.int IntKind.i64 v, V.int IntKind.i64 0], []) ∧
 ∀ (i : { i : Nat // i ≤ o.length ∧ ¬v ∈ List.take i o }),
 (decide ((↑i.val : Int) < (↑(ints IntKind.i64 o).length : Int)) = true →
 NonN (↑i.val : Int) ∧ ∃ (e : List D), (ints IntKind.i64 o)[(↑i.val : Int).toNat]? = some e ∧ ∃ (n : Int), e[0]? = some (D.val (Value.int IntKind.i64 n)) ∧ ((n == v) = true → K (V.sb true) []) ∧ ((n == v) = false → Nx (haLI o v) i ([V.dat (D.sl 1 (ints IntKind.i64 o)), V.int IntKind.i64 v, V.int IntKind.i64 (IntKind.i64.wrap ((↑i.val : Int) + 1))], []))) ∧
 (decide ((↑i.val : Int) < (↑(ints IntKind.i64 o).length : Int)) = false → K (V.sb false) [])
 ) : runSpec Try.prog X0 (haT o v 16) 16 [.dat (.sl 1 (ints .i64 o)), .int .i64 v] [] K := Eq.mp (by kernel_rfl) h
theorem vcDone (l : List Call) (m : Nat) (M : ML) (q : Nat) (R : List (List D)) (K : V → KB → Prop) (h :
 At (doLI l m M q R) ([V.int IntKind.i64 (↑m : Int), V.dat (D.sl 4 (List.map callR l)), V.int IntKind.i64 (↑(List.map callR l).length : Int), V.int IntKind.i64 0], [KO.cells [V.dat (D.sl 4 (List.map callR l)), V.mp 1, V.sl 2 0 q], KO.mp [IntKind.i64, IntKind.i64] true false 1 M, KO.row 3 1 R]) ∧
 ∀ (i : { i : Nat // i ≤ l.length ∧ ∀ (k : Nat), k < i → (atC l k).snd.snd.snd ≠ -1 → m.testBit k = true }),
 (decide ((↑i.val : Int) < (↑l.length : Int)) = true →
 NonN (↑i.val : Int) ∧
 ∃ (e : List D),
 (List.map callR l)[(↑i.val : Int).toNat]? = some e ∧
 ∃ (n : Int),
 e[0]? = some (D.val (Value.int IntKind.i64 n)) ∧
 ∃ (n : Int),
 e[1]? = some (D.val (Value.int IntKind.i64 n)) ∧
 ∃ (n : Int),
 e[2]? = some (D.val (Value.int IntKind.i64 n)) ∧
 ∃ (n : Int),
 e[3]? = some (D.val (Value.int IntKind.i64 n)) ∧
 ((n != -1) = true →
 ((↑i.val : Int) < 0 → False) ∧
 ((IntKind.i64.wrap (↑(BitVec.ofInt 64 (shrI IntKind.i64 (↑m : Int) (↑i.val : Int)) &&& BitVec.ofInt 64 1).toNat : Int) == 0) = true → K (V.sb false) [KO.cells [V.dat (D.sl 4 (List.map callR l)), V.mp 1, V.sl 2 0 q], KO.mp [IntKind.i64, IntKind.i64] true false 1 M, KO.row 3 1 R]) ∧
 ((IntKind.i64.wrap (↑(BitVec.ofInt 64 (shrI IntKind.i64 (↑m : Int) (↑i.val : Int)) &&& BitVec.ofInt 64 1).toNat : Int) == 0) = false →
 Nx (doLI l m M q R) i ([V.int IntKind.i64 (↑m : Int), V.dat (D.sl 4 (List.map callR l)), V.int IntKind.i64 (↑l.length : Int), V.int IntKind.i64 (IntKind.i64.wrap ((↑i.val : Int) + 1))], [KO.cells [V.dat (D.sl 4 (List.map callR l)), V.mp 1, V.sl 2 0 q], KO.mp [IntKind.i64, IntKind.i64] true false 1 M, KO.row 3 1 R]))) ∧
 ((n != -1) = false → Nx (doLI l m M q R) i ([V.int IntKind.i64 (↑m : Int), V.dat (D.sl 4 (List.map callR l)), V.int IntKind.i64 (↑l.length : Int), V.int IntKind.i64 (IntKind.i64.wrap ((↑i.val : Int) + 1))], [KO.cells [V.dat (D.sl 4 (List.map callR l)), V.mp 1, V.sl 2 0 q], KO.mp [IntKind.i64, IntKind.i64] true false 1 M, KO.row 3 1 R]))) ∧
 (decide ((↑i.val : Int) < (↑l.length : Int)) = false → K (V.sb true) [KO.cells [V.dat (D.sl 4 (List.map callR l)), V.mp 1, V.sl 2 0 q], KO.mp [IntKind.i64, IntKind.i64] true false 1 M, KO.row 3 1 R])
 ) : runSpec Try.prog XSm (doT l m 0 M q R 20) 20 [.ptr 0 0, .int .i64 (m : Int)] (sK l M q R) K := Eq.mp (by kernel_rfl) h
theorem vcFree (l : List Call) (m : Nat) (k : Nat) (M : ML) (q : Nat) (R : List (List D)) (K : V → KB → Prop) (h :
 (((↑k : Int) < 0 → False) ∧
 ((IntKind.i64.wrap (↑(BitVec.ofInt 64 (shrI IntKind.i64 (↑m : Int) (↑k : Int)) &&& BitVec.ofInt 64 1).toNat : Int) != 0) = true → K (V.sb false) [KO.cells [V.dat (D.sl 4 (List.map callR l)), V.mp 1, V.sl 2 0 q], KO.mp [IntKind.i64, IntKind.i64] true false 1 M, KO.row 3 1 R]) ∧
 ((IntKind.i64.wrap (↑(BitVec.ofInt 64 (shrI IntKind.i64 (↑m : Int) (↑k : Int)) &&& BitVec.ofInt 64 1).toNat : Int) != 0) = false →
 NonN (↑k : Int) ∧
 ∃ (e : List D),
 (List.map callR l)[(↑k : Int).toNat]? = some e ∧
 ∃ (n : Int),
 e[0]? = some (D.val (Value.int IntKind.i64 n)) ∧
 ((n == 3) = true →
 NonN (↑k : Int) ∧
 ∃ (e : List D),
 (List.map callR l)[(↑k : Int).toNat]? = some e ∧
 ∃ (n : Int),
 e[3]? = some (D.val (Value.int IntKind.i64 n)) ∧
 ((n == -1) = true → K (V.sb false) [KO.cells [V.dat (D.sl 4 (List.map callR l)), V.mp 1, V.sl 2 0 q], KO.mp [IntKind.i64, IntKind.i64] true false 1 M, KO.row 3 1 R]) ∧
 ((n == -1) = false → At (frCut l m k M q R) ([V.ptr 0 0, V.int IntKind.i64 (↑m : Int), V.int IntKind.i64 (↑k : Int)], [KO.cells [V.dat (D.sl 4 (List.map callR l)), V.mp 1, V.sl 2 0 q], KO.mp [IntKind.i64, IntKind.i64] true false 1 M, KO.row 3 1 R]))) ∧
 ((n == 3) = false → At (frCut l m k M q R) ([V.ptr 0 0, V.int IntKind.i64 (↑m : Int), V.int IntKind.i64 (↑k : Int)], [KO.cells [V.dat (D.sl 4 (List.map callR l)), V.mp 1, V.sl 2 0 q], KO.mp [IntKind.i64, IntKind.i64] true false 1 M, KO.row 3 1 R])))) ∧
 ∀ (i : { i : Nat // i = 0 ∧ m.testBit k = false ∧ ¬unC (atC l k) }),
 At (frLI l m k M q R) ([V.ptr 0 0, V.int IntKind.i64 (↑m : Int), V.int IntKind.i64 (↑k : Int), V.dat (D.sl 4 (List.map callR l)), V.int IntKind.i64 (↑(List.map callR l).length : Int), V.int IntKind.i64 0], [KO.cells [V.dat (D.sl 4 (List.map callR l)), V.mp 1, V.sl 2 0 q], KO.mp [IntKind.i64, IntKind.i64] true false 1 M, KO.row 3 1 R]) ∧
 ∀ (i : { i : Nat // i ≤ l.length ∧ ∀ (o : Nat), o < i → m.testBit o = false → ¬ahC (atC l o) (atC l k) }),
 (decide ((↑i.val : Int) < (↑l.length : Int)) = true →
 NonN (↑i.val : Int) ∧
 ∃ (e : List D),
 (List.map callR l)[(↑i.val : Int).toNat]? = some e ∧
 ∃ (n : Int),
 e[0]? = some (D.val (Value.int IntKind.i64 n)) ∧
 ∃ (n_1 : Int),
 e[1]? = some (D.val (Value.int IntKind.i64 n_1)) ∧
 ∃ (n_2 : Int),
 e[2]? = some (D.val (Value.int IntKind.i64 n_2)) ∧
 ∃ (n_3 : Int),
 e[3]? = some (D.val (Value.int IntKind.i64 n_3)) ∧
 ((↑i.val : Int) < 0 → False) ∧
 ((IntKind.i64.wrap (↑(BitVec.ofInt 64 (shrI IntKind.i64 (↑m : Int) (↑i.val : Int)) &&& BitVec.ofInt 64 1).toNat : Int) == 0) = true →
 NonN (↑k : Int) ∧
 ∃ (e : List D),
 (List.map callR l)[(↑k : Int).toNat]? = some e ∧
 ∃ (n_4 : Int),
 e[0]? = some (D.val (Value.int IntKind.i64 n_4)) ∧
 ∃ (n_5 : Int),
 e[1]? = some (D.val (Value.int IntKind.i64 n_5)) ∧
 ∃ (n_6 : Int),
 e[2]? = some (D.val (Value.int IntKind.i64 n_6)) ∧
 ∃ (n_7 : Int),
 e[3]? = some (D.val (Value.int IntKind.i64 n_7)) ∧
 (decide (ahC (n, n_1, n_2, n_3) (n_4, n_5, n_6, n_7)) = true → K (V.sb false) [KO.cells [V.dat (D.sl 4 (List.map callR l)), V.mp 1, V.sl 2 0 q], KO.mp [IntKind.i64, IntKind.i64] true false 1 M, KO.row 3 1 R]) ∧
 (decide (ahC (n, n_1, n_2, n_3) (n_4, n_5, n_6, n_7)) = false →
 Nx (frLI l m k M q R) i
 ([V.ptr 0 0, V.int IntKind.i64 (↑m : Int), V.int IntKind.i64 (↑k : Int), V.dat (D.sl 4 (List.map callR l)), V.int IntKind.i64 (↑l.length : Int), V.int IntKind.i64 (IntKind.i64.wrap ((↑i.val : Int) + 1))],
 [KO.cells [V.dat (D.sl 4 (List.map callR l)), V.mp 1, V.sl 2 0 q], KO.mp [IntKind.i64, IntKind.i64] true false 1 M, KO.row 3 1 R]))) ∧
 ((IntKind.i64.wrap (↑(BitVec.ofInt 64 (shrI IntKind.i64 (↑m : Int) (↑i.val : Int)) &&& BitVec.ofInt 64 1).toNat : Int) == 0) = false →
 Nx (frLI l m k M q R) i
 ([V.ptr 0 0, V.int IntKind.i64 (↑m : Int), V.int IntKind.i64 (↑k : Int), V.dat (D.sl 4 (List.map callR l)), V.int IntKind.i64 (↑l.length : Int), V.int IntKind.i64 (IntKind.i64.wrap ((↑i.val : Int) + 1))], [KO.cells [V.dat (D.sl 4 (List.map callR l)), V.mp 1, V.sl 2 0 q], KO.mp [IntKind.i64, IntKind.i64] true false 1 M, KO.row 3 1 R]))) ∧
 (decide ((↑i.val : Int) < (↑l.length : Int)) = false → K (V.sb true) [KO.cells [V.dat (D.sl 4 (List.map callR l)), V.mp 1, V.sl 2 0 q], KO.mp [IntKind.i64, IntKind.i64] true false 1 M, KO.row 3 1 R])
 ) : runSpec Try.prog XSm (doT l m k M q R 21) 21 [.ptr 0 0, .int .i64 (m : Int), .int .i64 (k : Int)] (sK l M q R) K := Eq.mp (by kernel_rfl) h
theorem smS_right : SpecOk Try.prog 14 Sright := specOk_of' X0_ok mixed (fun args kb K h => by
  unfold Sright at h; split at h <;> try exact h.elim
  rename_i a b c d
  refine ⟨noT 14, vcRight a b c d K ?_⟩
  simp only [decide_eq_true_eq, decide_eq_false_iff_not, beq_iff_eq, beq_eq_false_iff_ne]
  refine ⟨fun h1 => ⟨fun h2 => ⟨fun h3 => ⟨fun h4 => ?_, fun h4 => ?_⟩, fun h3 => ?_⟩, fun h2 => ?_⟩, fun h1 => ?_⟩
  · rwa [decide_eq_true (show okC (a, b, c, d) by unfold okC; simp only; omega)] at h
  · rwa [decide_eq_decide.2 (show okC (a, b, c, d) ↔ d ≥ c by unfold okC; simp only; omega)] at h
  · rwa [decide_eq_false (show ¬ okC (a, b, c, d) by unfold okC; simp only; omega)] at h
  · rwa [decide_eq_false (show ¬ okC (a, b, c, d) by unfold okC; simp only; omega)] at h
  · rwa [decide_eq_false (show ¬ okC (a, b, c, d) by unfold okC; simp only; omega)] at h)
theorem smS_right2 : SpecOk Try.prog 17 Sright := specOk_of' X0_ok mixed (fun args kb K h => by
  unfold Sright at h; split at h <;> try exact h.elim
  rename_i a b c d
  refine ⟨noT 17, vcRight2 a b c d K ?_⟩
  simp only [decide_eq_true_eq, decide_eq_false_iff_not, beq_iff_eq, beq_eq_false_iff_ne]
  refine ⟨fun h1 => ⟨fun h2 => ⟨fun h3 => ⟨fun h4 => ?_, fun h4 => ?_⟩, fun h3 => ?_⟩, fun h2 => ?_⟩, fun h1 => ?_⟩
  · rwa [decide_eq_true (show okC (a, b, c, d) by unfold okC; simp only; omega)] at h
  · rwa [decide_eq_decide.2 (show okC (a, b, c, d) ↔ d ≥ c by unfold okC; simp only; omega)] at h
  · rwa [decide_eq_false (show ¬ okC (a, b, c, d) by unfold okC; simp only; omega)] at h
  · rwa [decide_eq_false (show ¬ okC (a, b, c, d) by unfold okC; simp only; omega)] at h
  · rwa [decide_eq_false (show ¬ okC (a, b, c, d) by unfold okC; simp only; omega)] at h)
theorem smS_next : SpecOk Try.prog 18 Snext := specOk_of' X0_ok mixed (fun args kb K h => by
  unfold Snext at h; split at h <;> try exact h.elim
  rename_i a b c d v
  refine ⟨noT 18, vcNext a b c d v K ?_⟩
  simp only [beq_iff_eq, beq_eq_false_iff_ne]
  refine ⟨fun h1 => ?_, fun h1 => ⟨fun h2 => ?_, fun h2 => ?_⟩⟩
  · rwa [decide_eq_true (show fitC (a, b, c, d) v by unfold fitC; simp only; omega), show nxC (a, b, c, d) v = b from if_pos h1] at h
  · rwa [decide_eq_true (show fitC (a, b, c, d) v by unfold fitC; simp only; omega), show nxC (a, b, c, d) v = 0 by unfold nxC; rw [if_neg h1, if_pos h2]] at h
  · rw [decide_eq_decide.2 (show fitC (a, b, c, d) v ↔ b = v by unfold fitC; simp only; omega), show nxC (a, b, c, d) v = v by unfold nxC; rw [if_neg h1, if_neg h2]] at h
    have : decide (b = v) = (b == v) := by rw [Bool.eq_iff_iff]; simp
    rwa [this] at h)
theorem smS_ahead : SpecOk Try.prog 19 Sahead := specOk_of' X0_ok mixed (fun args kb K h => by
  unfold Sahead at h; split at h <;> try exact h.elim
  rename_i a b c d a' b' c' d'
  refine ⟨noT 19, vcAhead a b c d a' b' c' d' K ?_⟩
  simp only [bne_iff_ne, ne_eq, bne_eq_false_iff_eq]
  refine ⟨fun h1 => ?_, fun h1 => ?_⟩
  · rwa [decide_eq_decide.2 (show ahC (a, b, c, d) (a', b', c', d') ↔ d < c' by unfold ahC; simp only; omega)] at h
  · rwa [decide_eq_false (show ¬ ahC (a, b, c, d) (a', b', c', d') by unfold ahC; simp only; omega)] at h)
theorem smS_has : SpecOk Try.prog 16 Shas := specOk_of' X0_ok mixed (fun args kb K h => by
  unfold Shas at h; split at h <;> try exact h.elim
  rename_i v
  obtain ⟨o, rfl, hsm, h⟩ := h
  unfold Sm at hsm
  refine ⟨haT o v 16, vcHas o v K ⟨At.mk' ⟨0, Nat.zero_le _, by simp⟩ rfl, ?_⟩⟩
  rintro ⟨i, hi, ht⟩
  simp only [ints_len, decide_eq_true_eq, decide_eq_false_iff_not]
  refine ⟨fun hc => ?_, fun hc => ?_⟩
  · have hq : o[i]? = some o[i] := List.getElem?_eq_getElem (by omega)
    refine ⟨by unfold NonN; omega, [D.val (.int .i64 o[i])], by rw [Int.toNat_natCast, ints_get, hq]; rfl, o[i], rfl, fun hx => ?_, fun hx => ?_⟩
    · simp only [beq_iff_eq] at hx
      rwa [decide_eq_true (by rw [← hx]; exact List.getElem_mem _)] at h
    · simp only [beq_eq_false_iff_ne, ne_eq] at hx
      rw [w64 (by omega) (by omega)]
      refine Nx.mk' (⟨i + 1, by omega, ?_⟩ : {i : Nat // i ≤ o.length ∧ v ∉ o.take i}) rfl (by show o.length - (i + 1) < o.length - i; omega)
      rw [List.take_add_one, hq, List.mem_append]
      rintro (h1 | h1)
      · exact ht h1
      · simp at h1; exact hx h1.symm
  · have : i = o.length := by omega
    subst this
    rw [List.take_length] at ht
    rwa [decide_eq_false ht] at h)
theorem smS_ok : AllOk Try.prog smS := fun f k h => by
  unfold smS at h
  split at h <;> first | (cases h; first | exact smS_right | exact smS_right2 | exact smS_next | exact smS_ahead | exact smS_has | exact okSameInts) | cases h
theorem XSm_ok : CallOk Try.prog XSm := callS_ok mixed smS_ok noT 10
theorem bit_at {m i : Nat} (hm : m < 2 ^ 62) (hi : i ≤ 60) : IntKind.i64.wrap ((BitVec.ofInt 64 (shrI .i64 (m : Int) (i : Int)) &&& BitVec.ofInt 64 1).toNat : Int) = ((m / 2 ^ i % 2 : Nat) : Int) := by
  have e1 : shrI .i64 (m : Int) (i : Int) = ((m / 2 ^ i : Nat) : Int) := by
    unfold shrI
    rw [Int.toNat_natCast, show min i IntKind.i64.bits = i from Nat.min_eq_left (by show i ≤ 64; omega), Int.fdiv_eq_ediv_of_nonneg _ (by exact_mod_cast Nat.zero_le _)]
    norm_cast
  have hlt : m / 2 ^ i < 2 ^ 62 := Nat.lt_of_le_of_lt (Nat.div_le_self _ _) hm
  rw [e1, BitVec.toNat_and, BitVec.toNat_ofInt, BitVec.toNat_ofInt]
  generalize m / 2 ^ i = z at hlt
  have e2 : ((z : Int) % ((2 ^ 64 : Nat) : Int)).toNat = z := by omega
  rw [e2, show ((1 : Int) % ((2 ^ 64 : Nat) : Int)).toNat = 1 from rfl, Nat.and_one_is_mod]
  rw [w64 (by omega) (by omega)]
theorem bit_tt {m i : Nat} (hm : m < 2 ^ 62) (hi : i ≤ 60) : (IntKind.i64.wrap ((BitVec.ofInt 64 (shrI .i64 (m : Int) (i : Int)) &&& BitVec.ofInt 64 1).toNat : Int) == 0) = !m.testBit i := by
  rw [bit_at hm hi, Nat.testBit_eq_decide_div_mod_eq, Bool.eq_iff_iff]
  simp only [beq_iff_eq, Bool.not_eq_true', decide_eq_false_iff_not]
  omega
theorem atC_get {l : List Call} {i : Nat} (h : i < l.length) : l[i]? = some (atC l i) := by
  unfold atC; rw [List.getD_eq_getElem?_getD, List.getElem?_eq_getElem h]; rfl
theorem callR_get {l : List Call} {i : Nat} (h : i < l.length) : (l.map callR)[((i : Nat) : Int).toNat]? = some (callR (atC l i)) := by
  rw [Int.toNat_natCast, List.getElem?_map, atC_get h]; rfl
instance (l : List Call) (m : Nat) : Decidable (full l m) := by unfold full; infer_instance
instance (l : List Call) (m k : Nat) : Decidable (free l m k) := by unfold free; infer_instance
def Sdone : FSpec := fun args kb K => match args, kb with
  | [.ptr 0 0, .int .i64 M0], [.cells [.dat (.sl 4 L), .mp 1, .sl 2 0 h], .mp [.i64, .i64] true false 1 M, .row 3 1 R] => ∃ (l : List Call) (m : Nat), M0 = m ∧ L = l.map callR ∧ l.length ≤ 20 ∧ m < 2 ^ 62 ∧ K (.sb (decide (full l m))) (sK l M h R)
  | _, _ => False
def Sfree : FSpec := fun args kb K => match args, kb with
  | [.ptr 0 0, .int .i64 M0, .int .i64 k0], [.cells [.dat (.sl 4 L), .mp 1, .sl 2 0 h], .mp [.i64, .i64] true false 1 M, .row 3 1 R] => ∃ (l : List Call) (m k : Nat), M0 = m ∧ k0 = k ∧ L = l.map callR ∧ l.length ≤ 20 ∧ m < 2 ^ 62 ∧ k < l.length ∧ K (.sb (decide (free l m k))) (sK l M h R)
  | _, _ => False
theorem okDone : SpecOk Try.prog 20 Sdone := specOk_of' XSm_ok mixed (fun args kb K h => by
  unfold Sdone at h; split at h <;> try exact h.elim
  rename_i hh M R
  obtain ⟨l, m, rfl, rfl, hl, hm, h⟩ := h
  refine ⟨doT l m 0 M hh R 20, vcDone l m M hh R K ⟨by rw [List.length_map]; exact At.mk' ⟨0, Nat.zero_le _, fun k hk => absurd hk (Nat.not_lt_zero _)⟩ rfl, ?_⟩⟩
  rintro ⟨i, hi, ht⟩
  have nx : i < l.length → ((atC l i).2.2.2 ≠ -1 → m.testBit i = true) → Nx (doLI l m M hh R) ⟨i, hi, ht⟩ ([V.int .i64 (m : Int), V.dat (D.sl 4 (l.map callR)), V.int .i64 (l.length : Int), V.int .i64 (IntKind.i64.wrap ((i : Int) + 1))], sK l M hh R) := fun hlt hb => by
    rw [w64 (by omega) (by omega)]
    refine Nx.mk' (⟨i + 1, by omega, fun k hk he => ?_⟩ : {i : Nat // i ≤ l.length ∧ ∀ k, k < i → (atC l k).2.2.2 ≠ -1 → m.testBit k = true}) rfl (by show l.length - (i + 1) < l.length - i; omega)
    by_cases hki : k = i
    · subst hki; exact hb he
    · exact ht k (by omega) he
  simp only [decide_eq_true_eq, decide_eq_false_iff_not]
  refine ⟨fun hc => ?_, fun hc => ?_⟩
  · refine ⟨by unfold NonN; omega, callR (atC l i), callR_get (by omega), (atC l i).1, rfl, (atC l i).2.1, rfl, (atC l i).2.2.1, rfl, (atC l i).2.2.2, rfl, fun he => ⟨fun f => by omega, fun hb => ?_, fun hb => ?_⟩, fun he => ?_⟩
    · rw [bit_tt hm (by omega)] at hb
      simp only [bne_iff_ne, ne_eq, Bool.not_eq_true'] at he hb
      rwa [decide_eq_false (fun hf : full l m => by have := hf i (by omega) he; rw [this] at hb; cases hb)] at h
    · rw [bit_tt hm (by omega)] at hb
      simp only [Bool.not_eq_false'] at hb
      exact nx (by omega) fun _ => hb
    · simp only [bne_eq_false_iff_eq] at he
      exact nx (by omega) fun f => absurd he f
  · rwa [decide_eq_true (show full l m from fun k hk he => ht k (by omega) he)] at h)
theorem okFree : SpecOk Try.prog 21 Sfree := specOk_of' XSm_ok mixed (fun args kb K h => by
  unfold Sfree at h; split at h <;> try exact h.elim
  rename_i hh M R
  obtain ⟨l, m, k, rfl, rfl, rfl, hl, hm, hk, h⟩ := h
  have hk1 := callR_get hk
  refine ⟨doT l m k M hh R 21, vcFree l m k M hh R K ⟨⟨fun f => by omega, fun hb => ?_, fun hb => ?_⟩, ?_⟩⟩
  · rw [bne, bit_tt hm (by omega)] at hb
    simp only [Bool.not_not] at hb
    rwa [decide_eq_false (fun hf : free l m k => by rw [hf.1] at hb; cases hb)] at h
  · rw [bne, bit_tt hm (by omega)] at hb
    simp only [Bool.not_not] at hb
    refine ⟨by unfold NonN; omega, _, hk1, (atC l k).1, rfl, fun h3 => ⟨by unfold NonN; omega, _, hk1, (atC l k).2.2.2, rfl, fun h4 => ?_, fun h4 => ?_⟩, fun h3 => ?_⟩
    · simp only [beq_iff_eq] at h3 h4
      rwa [decide_eq_false (fun hf : free l m k => hf.2.1 ⟨h3, h4⟩)] at h
    · simp only [beq_eq_false_iff_ne] at h4
      exact At.mk' ⟨0, rfl, hb, fun hu => h4 hu.2⟩ rfl
    · simp only [beq_eq_false_iff_ne] at h3
      exact At.mk' ⟨0, rfl, hb, fun hu => h3 hu.1⟩ rfl
  rintro ⟨_, _, hb, hun⟩
  refine ⟨by rw [List.length_map]; exact At.mk' ⟨0, Nat.zero_le _, fun k hk => absurd hk (Nat.not_lt_zero _)⟩ rfl, ?_⟩
  rintro ⟨i, hi, ht⟩
  have nx : i < l.length → (m.testBit i = false → ¬ ahC (atC l i) (atC l k)) → Nx (frLI l m k M hh R) ⟨i, hi, ht⟩ ([V.ptr 0 0, V.int .i64 (m : Int), V.int .i64 (k : Int), V.dat (D.sl 4 (l.map callR)), V.int .i64 (l.length : Int), V.int .i64 (IntKind.i64.wrap ((i : Int) + 1))], sK l M hh R) := fun hlt hb => by
    rw [w64 (by omega) (by omega)]
    refine Nx.mk' (⟨i + 1, by omega, fun o ho he => ?_⟩ : {i : Nat // i ≤ l.length ∧ ∀ o, o < i → m.testBit o = false → ¬ ahC (atC l o) (atC l k)}) rfl (by show l.length - (i + 1) < l.length - i; omega)
    by_cases hki : o = i
    · subst hki; exact hb he
    · exact ht o (by omega) he
  simp only [decide_eq_true_eq, decide_eq_false_iff_not]
  refine ⟨fun hc => ?_, fun hc => ?_⟩
  · refine ⟨by unfold NonN; omega, callR (atC l i), callR_get (by omega), (atC l i).1, rfl, (atC l i).2.1, rfl, (atC l i).2.2.1, rfl, (atC l i).2.2.2, rfl, fun f => by omega, fun hbi => ?_, fun hbi => ?_⟩
    · rw [bit_tt hm (by omega)] at hbi
      simp only [Bool.not_eq_true'] at hbi
      refine ⟨by unfold NonN; omega, _, hk1, (atC l k).1, rfl, (atC l k).2.1, rfl, (atC l k).2.2.1, rfl, (atC l k).2.2.2, rfl, fun ha => ?_, fun ha => ?_⟩
      · rwa [decide_eq_false (fun hf : free l m k => hf.2.2 i (by omega) hbi ha)] at h
      · exact nx (by omega) fun _ => ha
    · rw [bit_tt hm (by omega)] at hbi
      simp only [Bool.not_eq_false'] at hbi
      exact nx (by omega) fun f => by rw [hbi] at f; cases f
  · rwa [decide_eq_true (show free l m k from ⟨hb, hun, fun o ho he => ht o (by omega) he⟩)] at h)
end Go.Proofs.Ytodibmhakdhflaa
