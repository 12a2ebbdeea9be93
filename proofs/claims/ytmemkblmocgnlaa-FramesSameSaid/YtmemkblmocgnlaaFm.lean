import Derived.Test.YtmemkblmocgnlaaPkC
import Derived.Test.YtmemkblmocgnlaaCrcB
import Derived.Test.YtmemkblmocgnlaaVdW
import Derived.KernelRfl
namespace Go.Proofs.Ytmemkblmocgnlaa
open Vc Go
set_option linter.unusedVariables false
set_option linter.unusedSimpArgs false
set_option maxRecDepth 100000
def gI (l : List Int) (i : Nat) : Int := l.getD i 0
def gT (l : List (List Int)) (i : Nat) : List Int := l.getD i []
def tot : List (List Int) → Nat
  | [] => 0
  | t :: l => t.length + tot l
structure RightM (k : Int) (n b : List Int) (l : List (List Int)) : Prop where
  k1 : 1 ≤ k
  k2 : k ≤ 40
  nl : n.length ≤ 16
  bl : b.length ≤ 2048
  ll : l.length ≤ 64
  ns : ∀ x ∈ n, 0 ≤ x ∧ x ≤ 4611686018427387904
  ts : ∀ t ∈ l, t.length ≤ 2048
  al : tot l ≤ 65536
abbrev msgC (k : Int) (n b : List Int) (l : List (List Int)) : List V := [.int .i64 k, .dat (.sl 1 (ints .i64 n)), .dat (.sl 1 (ints .u8 b)), .dat (.sl 1 (l.map bsl))]
abbrev alLI (l : List (List Int)) : LI where
  α := {i : Nat // i ≤ l.length}
  live := [3, 6, 7, 8]
  st i := ([.int .i64 (tot (l.take i.1) : Int), .dat (.sl 1 (l.map bsl)), .int .i64 (l.length : Int), .int .i64 (i.1 : Int)], [])
  μ i := l.length - i.1
abbrev grLI (k : Int) (n b : List Int) (l : List (List Int)) : LI where
  α := {p : Nat × Int // p.1 ≤ l.length ∧ p.1 ≤ 70}
  live := [1, 3, 4]
  st p := ([.ptr 0 0, .int .i64 p.1.2, .int .i64 (p.1.1 : Int)], [.cells (msgC k n b l)])
  μ p := l.length - p.1.1
abbrev ixNLI (n : List Int) : LI where
  α := {i : Nat // i ≤ n.length ∧ ∀ x ∈ n.take i, 0 ≤ x ∧ x ≤ 4611686018427387904}
  live := [0, 1, 7, 8]
  st i := ([.dat (.sl 1 (ints .i64 n)), .fn 24 [], .int .i64 (n.length : Int), .int .i64 (i.1 : Int)], [])
  μ i := n.length - i.1
abbrev ixTLI (l : List (List Int)) : LI where
  α := {i : Nat // i ≤ l.length ∧ ∀ t ∈ l.take i, t.length ≤ 2048}
  live := [0, 1, 7, 8]
  st i := ([.dat (.sl 1 (l.map bsl)), .fn 25 [], .int .i64 (l.length : Int), .int .i64 (i.1 : Int)], [])
  μ i := l.length - i.1
abbrev rr1LI (k : Int) (n b : List Int) (l : List (List Int)) : LI where
  α := {i : Nat // i ≤ n.length ∧ (1 ≤ k ∧ k ≤ 40 ∧ n.length ≤ 16 ∧ b.length ≤ 2048 ∧ l.length ≤ 64) ∧ ∀ x ∈ n.take i, 0 ≤ x ∧ x ≤ 4611686018427387904}
  live := [1, 3]
  st i := ([.ptr 0 0, .int .i64 (i.1 : Int)], [.cells (msgC k n b l)])
  μ i := n.length - i.1
abbrev rr2LI (k : Int) (n b : List Int) (l : List (List Int)) : LI where
  α := {i : Nat // i ≤ l.length ∧ (1 ≤ k ∧ k ≤ 40 ∧ n.length ≤ 16 ∧ b.length ≤ 2048 ∧ l.length ≤ 64) ∧ (∀ x ∈ n, 0 ≤ x ∧ x ≤ 4611686018427387904) ∧ ∀ t ∈ l.take i, t.length ≤ 2048}
  live := [1, 4, 5]
  st i := ([.ptr 0 0, .int .i64 (tot (l.take i.1) : Int), .int .i64 (i.1 : Int)], [.cells (msgC k n b l)])
  μ i := l.length - i.1
def catN (l : List Int) : List Int := (l.map numW).flatten
def catT (l : List (List Int)) : List Int := (l.map textW).flatten
def pu1 (k : Int) (n : List Int) (i : Nat) : List Int := numW k ++ numW (n.length : Int) ++ catN (n.take i)
def pu2 (k : Int) (n b : List Int) (l : List (List Int)) (i : Nat) : List Int := pu1 k n n.length ++ textW b ++ numW (l.length : Int) ++ catT (l.take i)
def putW (k : Int) (n b : List Int) (l : List (List Int)) : List Int := pu2 k n b l l.length
abbrev pu1LI (k : Int) (n b : List Int) (l : List (List Int)) : LI where
  α := {i : Nat // i ≤ n.length}
  live := [1, 5, 23, 24, 25]
  st i := ([.ptr 0 0, .ptr 1 0, .dat (.sl 1 (ints .i64 n)), .int .i64 (n.length : Int), .int .i64 (i.1 : Int)], [.cells (msgC k n b l), .cells [.sl 2 0 (pu1 k n i.1).length], .row 5 1 (ints .u8 (pu1 k n i.1))])
  μ i := n.length - i.1
abbrev pu2LI (k : Int) (n b : List Int) (l : List (List Int)) : LI where
  α := {i : Nat // i ≤ l.length}
  live := [5, 40, 41, 42]
  st i := ([.ptr 0 0, .dat (.sl 1 (l.map bsl)), .int .i64 (l.length : Int), .int .i64 (i.1 : Int)], [.cells [.sl 1 0 (pu2 k n b l i.1).length], .row 5 1 (ints .u8 (pu2 k n b l i.1))])
  μ i := l.length - i.1
abbrev rp1LI (k : Int) (n b : List Int) (l : List (List Int)) : LI where
  α := {i : Nat // i ≤ n.length}
  live := [1, 3, 4]
  st i := ([.ptr 0 0, .sl 1 0 (pu1 k n i.1).length, .int .i64 (i.1 : Int)], [.cells (msgC k n b l), .row 5 1 (ints .u8 (pu1 k n i.1))])
  μ i := n.length - i.1
abbrev rp2LI (k : Int) (n b : List Int) (l : List (List Int)) : LI where
  α := {i : Nat // i ≤ l.length}
  live := [1, 3, 5]
  st i := ([.ptr 0 0, .sl 1 0 (pu2 k n b l i.1).length, .int .i64 (i.1 : Int)], [.cells (msgC k n b l), .row 5 1 (ints .u8 (pu2 k n b l i.1))])
  μ i := l.length - i.1
abbrev sm1LI (k : Int) (n b : List Int) (l : List (List Int)) (k' : Int) (n' b' : List Int) (l' : List (List Int)) : LI where
  α := {i : Nat // i ≤ l.length ∧ l.length = l'.length ∧ (k = k' ∧ n = n' ∧ b = b') ∧ l.take i = l'.take i}
  live := [2, 3, 5]
  st i := ([.ptr 0 0, .ptr 1 0, .int .i64 (i.1 : Int)], [.cells (msgC k n b l), .cells (msgC k' n' b' l')])
  μ i := l.length - i.1
abbrev eqfLI (l l' : List (List Int)) : LI where
  α := {i : Nat // i ≤ l.length ∧ l.length = l'.length ∧ l.take i = l'.take i}
  live := [0, 1, 2, 10, 11, 12]
  st i := ([.dat (.sl 1 (l.map bsl)), .dat (.sl 1 (l'.map bsl)), .fn 42 [], .dat (.sl 1 (l.map bsl)), .int .i64 (l.length : Int), .int .i64 (i.1 : Int)], [])
  μ i := l.length - i.1
def fmT (k : Int) (n b : List Int) (l : List (List Int)) : FuncId → Nat → Option LI
  | 28, 3 => some (alLI l)
  | 8, 3 => some (grLI k n b l)
  | 46, 2 => some (ixNLI n)
  | 47, 2 => some (ixTLI l)
  | 11, 4 => some (rr1LI k n b l)
  | 11, 10 => some (rr2LI k n b l)
  | 10, 8 => some (pu1LI k n b l)
  | 10, 15 => some (pu2LI k n b l)
  | 15, 3 => some (rp1LI k n b l)
  | 15, 9 => some (rp2LI k n b l)
  | _, _ => none
def Sall : FSpec := fun args kb K => match args, kb with
  | [.dat (.sl 1 L)], [] => ∃ l : List (List Int), L = l.map bsl ∧ l.length ≤ maxLen ∧ tot l ≤ 1000000 ∧ K (.int .i64 (tot l)) []
  | _, _ => False
structure LenI (n b : List Int) (l : List (List Int)) : Prop where
  nl : n.length ≤ maxLen
  bl : b.length ≤ maxLen
  ll : l.length ≤ maxLen
  tl : ∀ t ∈ l, t.length ≤ maxLen
def Sgreat : FSpec := fun args kb K => match args, kb with
  | [.agg [.int .i64 k, .dat (.sl 1 N), .dat (.sl 1 B), .dat (.sl 1 L)]], [] => ∃ n b l, N = ints .i64 n ∧ B = ints .u8 b ∧ L = l.map bsl ∧ LenI n b l ∧ ∀ g : Int, K (.int .i64 g) []
  | _, _ => False
def Scheck : FSpec := fun args kb K => match args, kb with
  | [.agg [.int .i64 k, .dat (.sl 1 N), .dat (.sl 1 B), .dat (.sl 1 L)]], [] => ∃ n b l, N = ints .i64 n ∧ B = ints .u8 b ∧ L = l.map bsl ∧ LenI n b l ∧ (RightM k n b l → K (.int .i64 0) []) ∧ (¬ RightM k n b l → K (.int .i64 3) [])
  | _, _ => False
def SrightM : FSpec := fun args kb K => match args, kb with
  | [.agg [.int .i64 k, .dat (.sl 1 N), .dat (.sl 1 B), .dat (.sl 1 L)]], [] => ∃ n b l, N = ints .i64 n ∧ B = ints .u8 b ∧ L = l.map bsl ∧ LenI n b l ∧ ∀ q : Bool, (q = true ↔ RightM k n b l) → K (.sb q) []
  | _, _ => False
def SctN : FSpec := fun args kb K => match args, kb with
  | [.dat (.sl 1 N), .fn 24 []], [] => ∃ n : List Int, N = ints .i64 n ∧ n.length ≤ maxLen ∧ ∀ q : Bool, (q = true ↔ ¬ ∀ x ∈ n, 0 ≤ x ∧ x ≤ 4611686018427387904) → K (.sb q) []
  | _, _ => False
def SctT : FSpec := fun args kb K => match args, kb with
  | [.dat (.sl 1 L), .fn 25 []], [] => ∃ l : List (List Int), L = l.map bsl ∧ l.length ≤ maxLen ∧ ∀ q : Bool, (q = true ↔ ¬ ∀ t ∈ l, t.length ≤ 2048) → K (.sb q) []
  | _, _ => False
def cks : FuncId → Option Known
  | 28 => some ⟨[.lend 1], Sall⟩
  | 26 => some ⟨[.lend 1], SctN⟩
  | 27 => some ⟨[.lend 1], SctT⟩
  | _ => none
noncomputable def XCk : CallT := callS Try.prog cks noT 10
noncomputable def XIx (n : List Int) (l : List (List Int)) : CallT := callS Try.prog noS (fmT 0 n [] l) 10
theorem vcCtN (n : List Int) (K : V → KB → Prop) (hvc_ :
 At (ixNLI n) ([V.dat (D.sl 1 (ints IntKind.i64 n)), V.fn 24 [], V.int IntKind.i64 (↑(ints IntKind.i64 n).length : Int), V.int IntKind.i64 0], []) ∧
 ∀ (i : { i : Nat // i ≤ n.length ∧ ∀ (x : Int), x ∈ List.take i n → 0 ≤ x ∧ x ≤ 4611686018427387904 }),
 (decide ((↑i.val : Int) < (↑n.length : Int)) = true →
 NonN (↑i.val : Int) ∧
 ∃ (e : List D),
 (ints IntKind.i64 n)[(↑i.val : Int).toNat]? = some e ∧
 ∃ (n_1 : Int),
 e[0]? = some (D.val (Value.int IntKind.i64 n_1)) ∧
 (decide (n_1 < 0) = true → K (V.sb (decide ((↑i.val : Int) ≥ 0))) []) ∧
 (decide (n_1 < 0) = false → (decide (n_1 > 4611686018427387904) = true → K (V.sb (decide ((↑i.val : Int) ≥ 0))) []) ∧ (decide (n_1 > 4611686018427387904) = false → Nx (ixNLI n) i ([V.dat (D.sl 1 (ints IntKind.i64 n)), V.fn 24 [], V.int IntKind.i64 (↑n.length : Int), V.int IntKind.i64 (IntKind.i64.wrap ((↑i.val : Int) + 1))], [])))) ∧
 (decide ((↑i.val : Int) < (↑n.length : Int)) = false → K (V.sb false) [])
 ) : runSpec Try.prog (XIx n []) (noT 26) 26 [.dat (.sl 1 (ints .i64 n)), .fn 24 []] [] K := Eq.mp (by kernel_rfl) hvc_
theorem vcCtT (l : List (List Int)) (K : V → KB → Prop) (hvc_ :
 At (ixTLI l) ([V.dat (D.sl 1 (List.map bsl l)), V.fn 25 [], V.int IntKind.i64 (↑(List.map bsl l).length : Int), V.int IntKind.i64 0], []) ∧
 ∀ (i : { i : Nat // i ≤ l.length ∧ ∀ (t : List Int), t ∈ List.take i l → t.length ≤ 2048 }),
 (decide ((↑i.val : Int) < (↑l.length : Int)) = true →
 NonN (↑i.val : Int) ∧
 ∃ (e : List D),
 (List.map bsl l)[(↑i.val : Int).toNat]? = some e ∧
 ∃ (l_1 : List (List D)), e[0]? = some (D.sl 1 l_1) ∧ (decide ((↑l_1.length : Int) > 2048) = true → K (V.sb (decide ((↑i.val : Int) ≥ 0))) []) ∧ (decide ((↑l_1.length : Int) > 2048) = false → Nx (ixTLI l) i ([V.dat (D.sl 1 (List.map bsl l)), V.fn 25 [], V.int IntKind.i64 (↑l.length : Int), V.int IntKind.i64 (IntKind.i64.wrap ((↑i.val : Int) + 1))], []))) ∧
 (decide ((↑i.val : Int) < (↑l.length : Int)) = false → K (V.sb false) [])
 ) : runSpec Try.prog (XIx [] l) (noT 27) 27 [.dat (.sl 1 (l.map bsl)), .fn 25 []] [] K := Eq.mp (by kernel_rfl) hvc_
theorem vcAll (l : List (List Int)) (K : V → KB → Prop) (hvc_ :
 At (alLI l) ([V.int IntKind.i64 0, V.dat (D.sl 1 (List.map bsl l)), V.int IntKind.i64 (↑(List.map bsl l).length : Int), V.int IntKind.i64 0], []) ∧
 ∀ (i : { i : Nat // i ≤ l.length }),
 (decide ((↑i.val : Int) < (↑l.length : Int)) = true →
 NonN (↑i.val : Int) ∧ ∃ (e : List D), (List.map bsl l)[(↑i.val : Int).toNat]? = some e ∧ ∃ (l_1 : List (List D)), e[0]? = some (D.sl 1 l_1) ∧ Nx (alLI l) i ([V.int IntKind.i64 (IntKind.i64.wrap ((↑(tot (List.take i.val l)) : Int) + (↑l_1.length : Int))), V.dat (D.sl 1 (List.map bsl l)), V.int IntKind.i64 (↑l.length : Int), V.int IntKind.i64 (IntKind.i64.wrap ((↑i.val : Int) + 1))], [])) ∧
 (decide ((↑i.val : Int) < (↑l.length : Int)) = false → K (V.int IntKind.i64 (↑(tot (List.take i.val l)) : Int)) [])
 ) : runSpec Try.prog X0 (fmT 0 [] [] l 28) 28 [.dat (.sl 1 (l.map bsl))] [] K := Eq.mp (by kernel_rfl) hvc_
theorem vcGreat (k : Int) (n b : List Int) (l : List (List Int)) (K : V → KB → Prop) (hvc_ :
 At (grLI k n b l) ([V.ptr 0 0, V.int IntKind.i64 (↑(ints IntKind.u8 b).length : Int), V.int IntKind.i64 0], [KO.cells [V.int IntKind.i64 k, V.dat (D.sl 1 (ints IntKind.i64 n)), V.dat (D.sl 1 (ints IntKind.u8 b)), V.dat (D.sl 1 (List.map bsl l))]]) ∧
 ∀ (i : { p : Nat × Int // p.fst ≤ l.length ∧ p.fst ≤ 70 }),
 (decide ((↑i.val.fst : Int) < (↑(List.map bsl l).length : Int)) = true →
 (decide ((↑i.val.fst : Int) < 70) = true →
 NonN (↑i.val.fst : Int) ∧
 ∃ (e : List D),
 (List.map bsl l)[(↑i.val.fst : Int).toNat]? = some e ∧
 ∃ (l_1 : List (List D)),
 e[0]? = some (D.sl 1 l_1) ∧
 Nx (grLI k n b l) i ([V.ptr 0 0, V.int IntKind.i64 (IntKind.i64.wrap (i.val.snd + if 4000 < (↑l_1.length : Int) then 4000 else (↑l_1.length : Int))), V.int IntKind.i64 (IntKind.i64.wrap ((↑i.val.fst : Int) + 1))], [KO.cells [V.int IntKind.i64 k, V.dat (D.sl 1 (ints IntKind.i64 n)), V.dat (D.sl 1 (ints IntKind.u8 b)), V.dat (D.sl 1 (List.map bsl l))]])) ∧
 (decide ((↑i.val.fst : Int) < 70) = false →
 (decide (i.val.snd > 3000) = true → K (V.int IntKind.i64 1) []) ∧
 (decide (i.val.snd > 3000) = false → (decide ((↑(ints IntKind.i64 n).length : Int) > 20) = true → K (V.int IntKind.i64 1) []) ∧ (decide ((↑(ints IntKind.i64 n).length : Int) > 20) = false → (decide ((↑(List.map bsl l).length : Int) > 70) = true → K (V.int IntKind.i64 1) []) ∧ (decide ((↑(List.map bsl l).length : Int) > 70) = false → K (V.int IntKind.i64 0) []))))) ∧
 (decide ((↑i.val.fst : Int) < (↑(List.map bsl l).length : Int)) = false →
 (decide (i.val.snd > 3000) = true → K (V.int IntKind.i64 1) []) ∧
 (decide (i.val.snd > 3000) = false → (decide ((↑(ints IntKind.i64 n).length : Int) > 20) = true → K (V.int IntKind.i64 1) []) ∧ (decide ((↑(ints IntKind.i64 n).length : Int) > 20) = false → (decide ((↑(List.map bsl l).length : Int) > 70) = true → K (V.int IntKind.i64 1) []) ∧ (decide ((↑(List.map bsl l).length : Int) > 70) = false → K (V.int IntKind.i64 0) []))))
 ) : runSpec Try.prog X0 (fmT k n b l 8) 8 [.agg (msgC k n b l)] [] K := Eq.mp (by kernel_rfl) hvc_
theorem vcCheck (k : Int) (n b : List Int) (l : List (List Int)) (K : V → KB → Prop) (hvc_ :
 (decide (k < 1) = true → K (V.int IntKind.i64 3) []) ∧
 (decide (k < 1) = false →
 (decide (k > 40) = true → K (V.int IntKind.i64 3) []) ∧
 (decide (k > 40) = false →
 (decide ((↑(ints IntKind.i64 n).length : Int) > 16) = true → K (V.int IntKind.i64 3) []) ∧
 (decide ((↑(ints IntKind.i64 n).length : Int) > 16) = false →
 (decide ((↑(List.map bsl l).length : Int) > 64) = true → K (V.int IntKind.i64 3) []) ∧
 (decide ((↑(List.map bsl l).length : Int) > 64) = false →
 (decide ((↑(ints IntKind.u8 b).length : Int) > 2048) = true → K (V.int IntKind.i64 3) []) ∧
 (decide ((↑(ints IntKind.u8 b).length : Int) > 2048) = false →
 ∃ (n_1 : List Int),
 ints IntKind.i64 n = ints IntKind.i64 n_1 ∧
 n_1.length ≤ maxLen ∧
 ∀ (q : Bool),
 (q = true ↔ ¬∀ (x : Int), x ∈ n_1 → 0 ≤ x ∧ x ≤ 4611686018427387904) →
 (q = true → K (V.int IntKind.i64 3) []) ∧
 (q = false →
 ∃ (l_1 : List (List Int)),
 List.map bsl l = List.map bsl l_1 ∧
 l_1.length ≤ maxLen ∧
 ∀ (q : Bool),
 (q = true ↔ ¬∀ (t : List Int), t ∈ l_1 → t.length ≤ 2048) →
 (q = true → K (V.int IntKind.i64 3) []) ∧ (q = false → ∃ (l_2 : List (List Int)), List.map bsl l = List.map bsl l_2 ∧ l_2.length ≤ maxLen ∧ tot l_2 ≤ 1000000 ∧ (decide ((↑(tot l_2) : Int) > 65536) = true → K (V.int IntKind.i64 3) []) ∧ (decide ((↑(tot l_2) : Int) > 65536) = false → K (V.int IntKind.i64 0) []))))))))
 ) : runSpec Try.prog XCk (noT 12) 12 [.agg (msgC k n b l)] [] K := Eq.mp (by kernel_rfl) hvc_
theorem vcRightM (k : Int) (n b : List Int) (l : List (List Int)) (K : V → KB → Prop) (hvc_ :
 (decide (k < 1) = true → K (V.sb false) []) ∧
 (decide (k < 1) = false →
 (decide (k > 40) = true → K (V.sb false) []) ∧
 (decide (k > 40) = false →
 (decide ((↑(ints IntKind.i64 n).length : Int) > 16) = true → K (V.sb false) []) ∧
 (decide ((↑(ints IntKind.i64 n).length : Int) > 16) = false →
 (decide ((↑(ints IntKind.u8 b).length : Int) > 2048) = true → K (V.sb false) []) ∧
 (decide ((↑(ints IntKind.u8 b).length : Int) > 2048) = false →
 (decide ((↑(List.map bsl l).length : Int) > 64) = true → K (V.sb false) []) ∧
 (decide ((↑(List.map bsl l).length : Int) > 64) = false →
 At (rr1LI k n b l) ([V.ptr 0 0, V.int IntKind.i64 0], [KO.cells [V.int IntKind.i64 k, V.dat (D.sl 1 (ints IntKind.i64 n)), V.dat (D.sl 1 (ints IntKind.u8 b)), V.dat (D.sl 1 (List.map bsl l))]]) ∧
 ∀ (i : { i : Nat // i ≤ n.length ∧ (1 ≤ k ∧ k ≤ 40 ∧ n.length ≤ 16 ∧ b.length ≤ 2048 ∧ l.length ≤ 64) ∧ ∀ (x : Int), x ∈ List.take i n → 0 ≤ x ∧ x ≤ 4611686018427387904 }),
 (decide ((↑i.val : Int) < (↑(ints IntKind.i64 n).length : Int)) = true →
 NonN (↑i.val : Int) ∧
 ∃ (e : List D),
 (ints IntKind.i64 n)[(↑i.val : Int).toNat]? = some e ∧
 ∃ (n_1 : Int),
 e[0]? = some (D.val (Value.int IntKind.i64 n_1)) ∧
 (decide (n_1 < 0) = true → K (V.sb false) []) ∧
 (decide (n_1 < 0) = false →
 NonN (↑i.val : Int) ∧
 ∃ (e : List D),
 (ints IntKind.i64 n)[(↑i.val : Int).toNat]? = some e ∧
 ∃ (n_2 : Int),
 e[0]? = some (D.val (Value.int IntKind.i64 n_2)) ∧
 (decide (n_2 > 4611686018427387904) = true → K (V.sb false) []) ∧
 (decide (n_2 > 4611686018427387904) = false → Nx (rr1LI k n b l) i ([V.ptr 0 0, V.int IntKind.i64 (IntKind.i64.wrap ((↑i.val : Int) + 1))], [KO.cells [V.int IntKind.i64 k, V.dat (D.sl 1 (ints IntKind.i64 n)), V.dat (D.sl 1 (ints IntKind.u8 b)), V.dat (D.sl 1 (List.map bsl l))]])))) ∧
 (decide ((↑i.val : Int) < (↑(ints IntKind.i64 n).length : Int)) = false →
 At (rr2LI k n b l) ([V.ptr 0 0, V.int IntKind.i64 0, V.int IntKind.i64 0], [KO.cells [V.int IntKind.i64 k, V.dat (D.sl 1 (ints IntKind.i64 n)), V.dat (D.sl 1 (ints IntKind.u8 b)), V.dat (D.sl 1 (List.map bsl l))]]) ∧
 ∀ (i : { i : Nat // i ≤ l.length ∧ (1 ≤ k ∧ k ≤ 40 ∧ n.length ≤ 16 ∧ b.length ≤ 2048 ∧ l.length ≤ 64) ∧ (∀ (x : Int), x ∈ n → 0 ≤ x ∧ x ≤ 4611686018427387904) ∧ ∀ (t : List Int), t ∈ List.take i l → t.length ≤ 2048 }),
 (decide ((↑i.val : Int) < (↑(List.map bsl l).length : Int)) = true →
 NonN (↑i.val : Int) ∧
 ∃ (e : List D),
 (List.map bsl l)[(↑i.val : Int).toNat]? = some e ∧
 ∃ (l_1 : List (List D)),
 e[0]? = some (D.sl 1 l_1) ∧
 (decide ((↑l_1.length : Int) > 2048) = true → K (V.sb false) []) ∧
 (decide ((↑l_1.length : Int) > 2048) = false →
 NonN (↑i.val : Int) ∧
 ∃ (e : List D),
 (List.map bsl l)[(↑i.val : Int).toNat]? = some e ∧
 ∃ (l_2 : List (List D)),
 e[0]? = some (D.sl 1 l_2) ∧
 Nx (rr2LI k n b l) i ([V.ptr 0 0, V.int IntKind.i64 (IntKind.i64.wrap ((↑(tot (List.take i.val l)) : Int) + (↑l_2.length : Int))), V.int IntKind.i64 (IntKind.i64.wrap ((↑i.val : Int) + 1))], [KO.cells [V.int IntKind.i64 k, V.dat (D.sl 1 (ints IntKind.i64 n)), V.dat (D.sl 1 (ints IntKind.u8 b)), V.dat (D.sl 1 (List.map bsl l))]]))) ∧
 (decide ((↑i.val : Int) < (↑(List.map bsl l).length : Int)) = false → K (V.sb (decide ((↑(tot (List.take i.val l)) : Int) ≤ 65536))) [])))))))
 ) : runSpec Try.prog X0 (fmT k n b l 11) 11 [.agg (msgC k n b l)] [] K := Eq.mp (by kernel_rfl) hvc_
theorem gI_get {l : List Int} {i : Nat} (h : i < l.length) : l[i]? = some (gI l i) := by
  unfold gI; rw [List.getD_eq_getElem?_getD, List.getElem?_eq_getElem h]; rfl
theorem gI_mem {l : List Int} {i : Nat} (h : i < l.length) : gI l i ∈ l := List.mem_of_getElem? (gI_get h)
theorem gI_take {l : List Int} {i : Nat} (h : i < l.length) : l.take (i + 1) = l.take i ++ [gI l i] := by rw [List.take_add_one, gI_get h]; rfl
theorem gT_get {l : List (List Int)} {i : Nat} (h : i < l.length) : l[i]? = some (gT l i) := by
  unfold gT; rw [List.getD_eq_getElem?_getD, List.getElem?_eq_getElem h]; rfl
theorem gT_mem {l : List (List Int)} {i : Nat} (h : i < l.length) : gT l i ∈ l := List.mem_of_getElem? (gT_get h)
theorem gT_take {l : List (List Int)} {i : Nat} (h : i < l.length) : l.take (i + 1) = l.take i ++ [gT l i] := by rw [List.take_add_one, gT_get h]; rfl
theorem el {k : IntKind} {l : List Int} {i : Nat} {Q : Int → Prop} (h : i < l.length) (q : Q (gI l i)) : NonN (i : Int) ∧ ∃ e, (ints k l)[(i : Int).toNat]? = some e ∧ ∃ n, e[0]? = some (D.val (.int k n)) ∧ Q n :=
  ⟨by unfold NonN; omega, [D.val (.int k (gI l i))], by rw [Int.toNat_natCast, ints_get, gI_get h]; rfl, _, rfl, q⟩
theorem elT {l : List (List Int)} {i : Nat} {Q : List (List D) → Prop} (h : i < l.length) (q : Q (ints .u8 (gT l i))) : NonN (i : Int) ∧ ∃ e, (l.map bsl)[(i : Int).toNat]? = some e ∧ ∃ n, e[0]? = some (D.sl 1 n) ∧ Q n :=
  ⟨by unfold NonN; omega, [D.sl 1 (ints .u8 (gT l i))], by rw [Int.toNat_natCast, List.getElem?_map, gT_get h]; rfl, _, rfl, q⟩
theorem lnM {l : List (List Int)} : (l.map bsl).length = l.length := List.length_map ..
theorem tot_app {a b : List (List Int)} : tot (a ++ b) = tot a + tot b := by
  induction a with
  | nil => simp [tot]
  | cons x a ih => simp only [List.cons_append, tot, ih]; omega
theorem tot_take {l : List (List Int)} {i : Nat} (h : i < l.length) : tot (l.take (i + 1)) = tot (l.take i) + (gT l i).length := by rw [gT_take h, tot_app]; simp [tot]
theorem tot_le {l : List (List Int)} (i : Nat) : tot (l.take i) ≤ tot l := by
  have := tot_app (a := l.take i) (b := l.drop i)
  rw [List.take_append_drop] at this; omega
theorem tot_bd {l : List (List Int)} {m : Nat} (h : ∀ t ∈ l, t.length ≤ m) : tot l ≤ m * l.length := by
  induction l with
  | nil => simp [tot]
  | cons x l ih =>
    have h1 := h x List.mem_cons_self
    have h2 := ih fun t ht => h t (List.mem_cons_of_mem _ ht)
    simp only [tot, List.length_cons]
    rw [Nat.mul_add, Nat.mul_one]; omega
theorem bsl_inj : ∀ {a b : List (List Int)}, a.map bsl = b.map bsl → a = b
  | [], [], _ => rfl
  | [], _ :: _, h => by cases h
  | _ :: _, [], h => by cases h
  | x :: a, y :: b, h => by
    simp only [List.map_cons, List.cons.injEq] at h
    have h1 : ints .u8 x = ints .u8 y := by
      have := h.1
      unfold bsl at this
      simp only [List.cons.injEq, and_true] at this
      exact (D.sl.inj this).2
    rw [ints_inj h1, bsl_inj h.2]
theorem okAll : SpecOk Try.prog 28 Sall := specOk_of' X0_ok mixed (fun args kb K h => by
  unfold Sall at h; split at h <;> try exact h.elim
  obtain ⟨l, rfl, hl0, hl, h⟩ := h
  simp only [maxLen] at hl0
  refine ⟨fmT 0 [] [] l 28, vcAll l K ⟨by rw [lnM]; exact At.mk' ⟨0, Nat.zero_le _⟩ rfl, ?_⟩⟩
  rintro ⟨i, hi⟩
  dsimp only
  simp only [decide_eq_true_eq, decide_eq_false_iff_not]
  refine ⟨fun hc => elT (by omega) ?_, fun hc => ?_⟩
  · have h1 := tot_take (l := l) (i := i) (by omega)
    have h2 := tot_le (l := l) (i + 1)
    have e1 : IntKind.i64.wrap ((i : Int) + 1) = ((i + 1 : Nat) : Int) := by rw [w64 (by omega) (by omega)]; rfl
    rw [ints_len, w64 (by omega) (by omega), e1]
    have e2 : (tot (l.take i) : Int) + ((gT l i).length : Int) = ((tot (l.take (i + 1)) : Nat) : Int) := by omega
    rw [e2]
    exact Nx.mk' (⟨i + 1, by omega⟩ : {i : Nat // i ≤ l.length}) rfl (by show l.length - (i + 1) < l.length - i; omega)
  · have : i = l.length := by omega
    subst this
    rwa [List.take_length])
theorem okCtN : SpecOk Try.prog 26 SctN := specOk_of'' mixed (fun args kb K h => by
  unfold SctN at h; split at h <;> try exact h.elim
  obtain ⟨n, rfl, hl, h⟩ := h
  simp only [maxLen] at hl
  refine ⟨XIx n [], noT 26, callS_ok mixed noS_ok _ 10, vcCtN n K ⟨by rw [ints_len]; exact At.mk' ⟨0, Nat.zero_le _, by simp⟩ rfl, ?_⟩⟩
  rintro ⟨i, hi, ht⟩
  dsimp only
  simp only [decide_eq_true_eq, decide_eq_false_iff_not]
  refine ⟨fun hc => el (by omega) ⟨fun h1 => h _ ⟨fun _ f => ?_, fun _ => by simp⟩, fun h1 => ⟨fun h2 => h _ ⟨fun _ f => ?_, fun _ => by simp⟩, fun h2 => ?_⟩⟩, fun hc => h _ ⟨fun f => (by cases f), fun f => ?_⟩⟩
  · have := f _ (gI_mem (show i < n.length by omega)); omega
  · have := f _ (gI_mem (show i < n.length by omega)); omega
  · rw [w64 (by omega) (by omega)]
    refine Nx.mk' (⟨i + 1, by omega, fun x hx => ?_⟩ : {i : Nat // i ≤ n.length ∧ ∀ x ∈ n.take i, 0 ≤ x ∧ x ≤ 4611686018427387904}) rfl (by show n.length - (i + 1) < n.length - i; omega)
    rw [gI_take (by omega), List.mem_append, List.mem_singleton] at hx
    rcases hx with hx | rfl
    · exact ht x hx
    · omega
  · have : i = n.length := by omega
    subst this
    rw [List.take_length] at ht
    exact absurd ht f)
theorem okCtT : SpecOk Try.prog 27 SctT := specOk_of'' mixed (fun args kb K h => by
  unfold SctT at h; split at h <;> try exact h.elim
  obtain ⟨l, rfl, hl, h⟩ := h
  simp only [maxLen] at hl
  refine ⟨XIx [] l, noT 27, callS_ok mixed noS_ok _ 10, vcCtT l K ⟨by rw [lnM]; exact At.mk' ⟨0, Nat.zero_le _, by simp⟩ rfl, ?_⟩⟩
  rintro ⟨i, hi, ht⟩
  dsimp only
  simp only [decide_eq_true_eq, decide_eq_false_iff_not]
  refine ⟨fun hc => elT (by omega) ⟨fun h1 => h _ ⟨fun _ f => ?_, fun _ => by simp⟩, fun h2 => ?_⟩, fun hc => h _ ⟨fun f => (by cases f), fun f => ?_⟩⟩
  · rw [ints_len] at h1
    have := f _ (gT_mem (show i < l.length by omega)); omega
  · rw [ints_len] at h2
    rw [w64 (by omega) (by omega)]
    refine Nx.mk' (⟨i + 1, by omega, fun x hx => ?_⟩ : {i : Nat // i ≤ l.length ∧ ∀ t ∈ l.take i, t.length ≤ 2048}) rfl (by show l.length - (i + 1) < l.length - i; omega)
    rw [gT_take (by omega), List.mem_append, List.mem_singleton] at hx
    rcases hx with hx | rfl
    · exact ht x hx
    · omega
  · have : i = l.length := by omega
    subst this
    rw [List.take_length] at ht
    exact absurd ht f)
theorem cks_ok : AllOk Try.prog cks := fun f k h => by
  unfold cks at h
  split at h <;> first | (cases h; first | exact okAll | exact okCtN | exact okCtT) | cases h
theorem XCk_ok : CallOk Try.prog XCk := callS_ok mixed cks_ok noT 10
theorem okCheck : SpecOk Try.prog 12 Scheck := specOk_of' XCk_ok mixed (fun args kb K h => by
  unfold Scheck at h; split at h <;> try exact h.elim
  rename_i k _ _ _
  obtain ⟨n, b, l, rfl, rfl, rfl, ⟨n1, b1, l1, t1⟩, hy, hn⟩ := h
  refine ⟨noT 12, vcCheck k n b l K ?_⟩
  simp only [decide_eq_true_eq, decide_eq_false_iff_not, ints_len, lnM]
  refine ⟨fun h1 => hn fun w => by have := w.k1; omega, fun h1 => ⟨fun h2 => hn fun w => by have := w.k2; omega, fun h2 => ⟨fun h3 => hn fun w => by have := w.nl; omega, fun h3 => ⟨fun h4 => hn fun w => by have := w.ll; omega, fun h4 => ⟨fun h5 => hn fun w => by have := w.bl; omega, fun h5 => ⟨n, rfl, n1, fun q hq => ⟨fun h6 => hn fun w => hq.1 h6 w.ns, fun h6 => ⟨l, rfl, l1, fun q' hq' => ⟨fun h7 => hn fun w => hq'.1 h7 w.ts, fun h7 => ?_⟩⟩⟩⟩⟩⟩⟩⟩⟩
  have hns : ∀ x ∈ n, 0 ≤ x ∧ x ≤ 4611686018427387904 := Classical.byContradiction fun f => by rw [hq.2 f] at h6; cases h6
  have hts : ∀ t ∈ l, t.length ≤ 2048 := Classical.byContradiction fun f => by rw [hq'.2 f] at h7; cases h7
  have htb := tot_bd hts
  refine ⟨l, rfl, l1, by omega, fun h8 => hn fun w => by have := w.al; omega, fun h8 => hy ⟨by omega, by omega, by omega, by omega, by omega, hns, hts, by omega⟩⟩)
theorem okGreat : SpecOk Try.prog 8 Sgreat := specOk_of' X0_ok mixed (fun args kb K h => by
  unfold Sgreat at h; split at h <;> try exact h.elim
  rename_i k _ _ _
  obtain ⟨n, b, l, rfl, rfl, rfl, ⟨n1, b1, l1, t1⟩, h⟩ := h
  simp only [maxLen] at n1 b1 l1
  refine ⟨fmT k n b l 8, vcGreat k n b l K ⟨by rw [ints_len]; exact At.mk' ⟨(0, _), Nat.zero_le _, by show 0 ≤ 70; omega⟩ rfl, ?_⟩⟩
  rintro ⟨⟨i, g⟩, hi, hi2⟩
  dsimp only at hi hi2 ⊢
  simp only [decide_eq_true_eq, decide_eq_false_iff_not, ints_len, lnM]
  refine ⟨fun hc => ⟨fun hc2 => elT (by omega) ?_, fun hc2 => ⟨fun _ => h _, fun h1 => ⟨fun _ => h _, fun h2 => ⟨fun _ => h _, fun h3 => h _⟩⟩⟩⟩, fun hc => ⟨fun _ => h _, fun h1 => ⟨fun _ => h _, fun h2 => ⟨fun _ => h _, fun h3 => h _⟩⟩⟩⟩
  have e1 : IntKind.i64.wrap ((i : Int) + 1) = ((i + 1 : Nat) : Int) := by rw [w64 (by omega) (by omega)]; rfl
  rw [e1]
  exact Nx.mk' (⟨(i + 1, _), by show i + 1 ≤ l.length; omega, by show i + 1 ≤ 70; omega⟩ : {p : Nat × Int // p.1 ≤ l.length ∧ p.1 ≤ 70}) rfl (by show l.length - (i + 1) < l.length - i; omega))
theorem okRightM : SpecOk Try.prog 11 SrightM := specOk_of' X0_ok mixed (fun args kb K h => by
  unfold SrightM at h; split at h <;> try exact h.elim
  rename_i k _ _ _
  obtain ⟨n, b, l, rfl, rfl, rfl, ⟨n1, b1, l1, t1⟩, h⟩ := h
  have hn : ¬ RightM k n b l → K (.sb false) [] := fun hn => h false ⟨fun f => (by cases f), fun w => absurd w hn⟩
  refine ⟨fmT k n b l 11, vcRightM k n b l K ?_⟩
  simp only [decide_eq_true_eq, decide_eq_false_iff_not, ints_len, lnM]
  refine ⟨fun h1 => hn fun w => by have := w.k1; omega, fun h1 => ⟨fun h2 => hn fun w => by have := w.k2; omega, fun h2 => ⟨fun h3 => hn fun w => by have := w.nl; omega, fun h3 => ⟨fun h5 => hn fun w => by have := w.bl; omega, fun h5 => ⟨fun h4 => hn fun w => by have := w.ll; omega, fun h4 => ⟨At.mk' ⟨0, Nat.zero_le _, by omega, by simp⟩ rfl, ?_⟩⟩⟩⟩⟩⟩
  rintro ⟨i, hi, hp, ht⟩
  dsimp only
  refine ⟨fun hc => el (by omega) ⟨fun h6 => hn fun w => by have := w.ns _ (gI_mem (show i < n.length by omega)); omega, fun h6 => el (by omega) ⟨fun h7 => hn fun w => by have := w.ns _ (gI_mem (show i < n.length by omega)); omega, fun h7 => ?_⟩⟩, fun hc => ⟨At.mk' ⟨0, Nat.zero_le _, hp, ?_, by simp⟩ rfl, ?_⟩⟩
  · rw [w64 (by omega) (by omega)]
    refine Nx.mk' (⟨i + 1, by omega, hp, fun x hx => ?_⟩ : {i : Nat // i ≤ n.length ∧ (1 ≤ k ∧ k ≤ 40 ∧ n.length ≤ 16 ∧ b.length ≤ 2048 ∧ l.length ≤ 64) ∧ ∀ x ∈ n.take i, 0 ≤ x ∧ x ≤ 4611686018427387904}) rfl (by show n.length - (i + 1) < n.length - i; omega)
    rw [gI_take (by omega), List.mem_append, List.mem_singleton] at hx
    rcases hx with hx | rfl
    · exact ht x hx
    · omega
  · have : i = n.length := by omega
    subst this
    rwa [List.take_length] at ht
  rintro ⟨j, hj, hp, hns, htj⟩
  dsimp only
  have htb := tot_bd htj
  rw [List.length_take] at htb
  refine ⟨fun hc => elT (by omega) ⟨fun h6 => hn fun w => ?_, fun h6 => elT (by omega) ?_⟩, fun hc => ?_⟩
  · rw [ints_len] at h6
    have := w.ts _ (gT_mem (show j < l.length by omega)); omega
  · rw [ints_len] at h6 ⊢
    have e0 := tot_take (l := l) (i := j) (by omega)
    have e1 : IntKind.i64.wrap ((j : Int) + 1) = ((j + 1 : Nat) : Int) := by rw [w64 (by omega) (by omega)]; rfl
    have e2 : IntKind.i64.wrap ((tot (l.take j) : Int) + ((gT l j).length : Int)) = ((tot (l.take (j + 1)) : Nat) : Int) := by rw [w64 (by omega) (by omega)]; omega
    rw [e1, e2]
    refine Nx.mk' (⟨j + 1, by omega, hp, hns, fun x hx => ?_⟩ : {i : Nat // i ≤ l.length ∧ (1 ≤ k ∧ k ≤ 40 ∧ n.length ≤ 16 ∧ b.length ≤ 2048 ∧ l.length ≤ 64) ∧ (∀ x ∈ n, 0 ≤ x ∧ x ≤ 4611686018427387904) ∧ ∀ t ∈ l.take i, t.length ≤ 2048}) rfl (by show l.length - (j + 1) < l.length - j; omega)
    rw [gT_take (by omega), List.mem_append, List.mem_singleton] at hx
    rcases hx with hx | rfl
    · exact htj x hx
    · omega
  · have : j = l.length := by omega
    subst this
    rw [List.take_length] at htj ⊢
    refine h _ ⟨fun h6 => ?_, fun w => ?_⟩
    · simp only [decide_eq_true_eq] at h6
      exact ⟨by omega, by omega, by omega, by omega, by omega, hns, htj, by omega⟩
    · have := w.al
      simp only [decide_eq_true_eq]; omega)
end Go.Proofs.Ytmemkblmocgnlaa
