import Derived.Test.YtgadaeodoapgiaaRows
import Derived.KernelRfl
import Derived.Test.YtgadaeodoapgiaaVcP
namespace Go.Proofs.Ytgadaeodoapgiaa
open Vc Go
set_option linter.unusedVariables false
set_option maxRecDepth 100000

def inI (n : Int) : Prop := -9223372036854775808 ≤ n ∧ n ≤ 9223372036854775807
def cnt (b : Int) : Int := if b < 1 then 0 else (b - 1) / 8 + 1
def whC (b : Int) : Int := if b < 0 then 0 else b / 8
def whA (b : Int) : Int := if b < 0 then 0 else b % 8
def rightR (b f m : Int) : Bool := decide (0 ≤ b) && (decide (b ≤ 512) && (decide (0 ≤ f) && (decide (1 ≤ m) && (decide (f ≤ 512) && (decide (m ≤ 512) && decide (f + m ≤ b))))))
/-- The pieces of a range: piece j. -/
def pcS (f : Int) (j : Nat) : Int := max f (8 * (f / 8 + j))
def pcE (f m : Int) (j : Nat) : Int := min (f + m) (8 * (f / 8 + j + 1))
def pc (f m : Int) (j : Nat) : List Value := [.int .i64 (f / 8 + j), .int .i64 (pcS f j - 8 * (f / 8 + j)), .int .i64 (pcE f m j - pcS f j), .int .i64 (pcS f j - f)]
def pcN (f m : Int) : Nat := if m < 1 then 0 else ((f + m - 1) / 8 - f / 8 + 1).toNat
def pcs (f m : Int) (n : Nat) : List (List Value) := (List.range n).map (pc f m)

def S8 : FSpec := fun args kb K => match args, kb with | [], [] => K (.sb true) [] | _, _ => False
def S9 : FSpec := fun args kb K => match args, kb with | [.int .i64 b], [] => inI b ∧ K (.tup [.int .i64 (whC b), .int .i64 (whA b)]) [] | _, _ => False
def S10 : FSpec := fun args kb K => match args, kb with | [.int .i64 b], [] => inI b ∧ K (.int .i64 (cnt b)) [] | _, _ => False
def S12 : FSpec := fun args kb K => match args, kb with | [.int .i64 b, .int .i64 f, .int .i64 m], [] => K (.sb (rightR b f m)) [] | _, _ => False
def S7 : FSpec := fun args kb K => match args, kb with
  | [.int .i64 b, .int .i64 f, .int .i64 m], [] => (rightR b f m = true → K (.tup [.sl 0 0 (pcN f m), .int .i64 0]) [.row 29 4 (pcs f m (pcN f m))]) ∧ (rightR b f m = false → K (.tup [.any (.slice none 0 0), .int .i64 5]) [])
  | _, _ => False
def S13 : FSpec := fun args kb K => match args, kb with
  | [.int .i64 f, .int .i64 m], [] => (0 ≤ f ∧ f ≤ 512 ∧ 1 ≤ m ∧ m ≤ 512) ∧ K (.sl 0 0 (pcN f m)) [.row 29 4 (pcs f m (pcN f m))]
  | _, _ => False
def noT : FuncId → Nat → Option LI := fun _ _ => none
def noS : FuncId → Option Known := fun _ => none
def whS : FuncId → Option Known
  | 9 => some ⟨[], S9⟩
  | _ => none
def splitInv (f m : Int) (s : Nat × Int) : Prop := s.1 ≤ pcN f m ∧ s.2 = min (f + m) (pcS f s.1) - f
def splitLI (b f m : Int) : LI where
  α := {s : Nat × Int // splitInv f m s}
  live := [1, 2, 8, 9]
  nils := [.slot 2 29 4]
  st s := ([.int .i64 f, .int .i64 m, .sl 0 0 s.1.1, .int .i64 s.1.2], [.row 29 4 (pcs f m s.1.1)])
  μ s := pcN f m - s.1.1
def splitT (b f m : Int) : FuncId → Nat → Option LI
  | 7, 5 => some (splitLI b f m)
  | _, _ => none
def refInv (f m : Int) (i : Nat) : Prop := (i : Int) ≤ m
def refLI (f m : Int) : LI where
  α := {i : Nat // refInv f m i}
  live := [0, 1, 5, 6]
  nils := [.slot 2 29 4]
  st i := ([.int .i64 f, .int .i64 m, .sl 0 0 (pcN f i.1), .int .i64 i.1], [.row 29 4 (pcs f i.1 (pcN f i.1))])
  μ i := m.toNat - i.1
def refT (f m : Int) : FuncId → Nat → Option LI
  | 13, 3 => some (refLI f m)
  | _, _ => none
noncomputable def X0 : CallT := callS Try.prog noS noT 10
noncomputable def XW : CallT := callS Try.prog whS noT 10
theorem vc8  (K : V → KB → Prop) (h :
 1 ≤ 1 ∧
 32 ≤ 140737488355328 ∧
 1 ≤ 1 ∧
 1 ≤ 1 ∧
 64 ≤ 140737488355328 ∧
 (true = true →
 InB 0 2 ∧
 ∃ e,
 [[Value.int IntKind.i64 0, Value.int IntKind.i64 6, Value.int IntKind.i64 2, Value.int IntKind.i64 0], [Value.int IntKind.i64 1, Value.int IntKind.i64 0, Value.int IntKind.i64 3, Value.int IntKind.i64 2]][0]? = some e ∧
 ∃ n,
 e[0]? = some (Value.int IntKind.i64 n) ∧
 ∃ n_1,
 e[1]? = some (Value.int IntKind.i64 n_1) ∧
 ∃ n_2,
 e[2]? = some (Value.int IntKind.i64 n_2) ∧
 ∃ n_3,
 e[3]? = some (Value.int IntKind.i64 n_3) ∧
 ((n == 0 && (n_1 == 6 && (n_2 == 2 && (n_3 == 0 && true)))) = true →
 InB 1 2 ∧
 ∃ e,
 [[Value.int IntKind.i64 0, Value.int IntKind.i64 6, Value.int IntKind.i64 2, Value.int IntKind.i64 0], [Value.int IntKind.i64 1, Value.int IntKind.i64 0, Value.int IntKind.i64 3, Value.int IntKind.i64 2]][1]? = some e ∧
 ∃ n, e[0]? = some (Value.int IntKind.i64 n) ∧ ∃ n_4, e[1]? = some (Value.int IntKind.i64 n_4) ∧ ∃ n_5, e[2]? = some (Value.int IntKind.i64 n_5) ∧ ∃ n_6, e[3]? = some (Value.int IntKind.i64 n_6) ∧ K (V.sb (n == 1 && (n_4 == 0 && (n_5 == 3 && (n_6 == 2 && true))))) []) ∧
 ((n == 0 && (n_1 == 6 && (n_2 == 2 && (n_3 == 0 && true)))) = false → K (V.sb false) [])) ∧
 (true = false → K (V.sb false) [])
 ) : runSpec Try.prog X0 (noT 8) 8 [] [] K := Eq.mp (by kernel_rfl) h
theorem vc9 (b : Int) (K : V → KB → Prop) (h :
 (decide (b < 0) = true → K (V.tup [V.int IntKind.i64 0, V.int IntKind.i64 0]) []) ∧ (decide (b < 0) = false → K (V.tup [V.int IntKind.i64 (IntKind.i64.wrap (b.tdiv 8)), V.int IntKind.i64 (b.tmod 8)]) [])
 ) : runSpec Try.prog X0 (noT 9) 9 [.int .i64 b] [] K := Eq.mp (by kernel_rfl) h
theorem vc10 (b : Int) (K : V → KB → Prop) (h :
 (decide (b < 1) = true → K (V.int IntKind.i64 0) []) ∧ (decide (b < 1) = false → K (V.int IntKind.i64 (IntKind.i64.wrap (IntKind.i64.wrap ((IntKind.i64.wrap (b - 1)).tdiv 8) + 1))) [])
 ) : runSpec Try.prog X0 (noT 10) 10 [.int .i64 b] [] K := Eq.mp (by kernel_rfl) h
theorem vc11 (b : Int) (K : V → KB → Prop) (h :
 (((if 0 > b then 0 else b).tmod 8 == 0) = true → K (V.int IntKind.i64 (IntKind.i64.wrap ((if 0 > b then 0 else b).tdiv 8))) []) ∧ (((if 0 > b then 0 else b).tmod 8 == 0) = false → K (V.int IntKind.i64 (IntKind.i64.wrap (IntKind.i64.wrap ((if 0 > b then 0 else b).tdiv 8) + 1))) [])
 ) : runSpec Try.prog X0 (noT 11) 11 [.int .i64 b] [] K := Eq.mp (by kernel_rfl) h
theorem vc12 (b f m : Int) (K : V → KB → Prop) (h :
 (decide (b ≥ 0) = true →
 (decide (b ≤ 512) = true → (decide (f ≥ 0) = true → (decide (m ≥ 1) = true → (decide (f ≤ 512) = true → (decide (m ≤ 512) = true → K (V.sb (decide (IntKind.i64.wrap (f + m) ≤ b))) []) ∧ (decide (m ≤ 512) = false → K (V.sb false) [])) ∧ (decide (f ≤ 512) = false → K (V.sb false) [])) ∧ (decide (m ≥ 1) = false → K (V.sb false) [])) ∧ (decide (f ≥ 0) = false → K (V.sb false) [])) ∧
 (decide (b ≤ 512) = false → K (V.sb false) [])) ∧
 (decide (b ≥ 0) = false → K (V.sb false) [])
 ) : runSpec Try.prog X0 (noT 12) 12 [.int .i64 b, .int .i64 f, .int .i64 m] [] K := Eq.mp (by kernel_rfl) h
theorem vc7 (b f m : Int) (K : V → KB → Prop) (h :
 (decide (b < 0) = true → K (V.tup [V.any (Value.slice none 0 0), V.int IntKind.i64 5]) []) ∧
 (decide (b < 0) = false →
 (decide (b > 512) = true → K (V.tup [V.any (Value.slice none 0 0), V.int IntKind.i64 5]) []) ∧
 (decide (b > 512) = false →
 (decide (f < 0) = true → K (V.tup [V.any (Value.slice none 0 0), V.int IntKind.i64 5]) []) ∧
 (decide (f < 0) = false →
 (decide (m < 1) = true → K (V.tup [V.any (Value.slice none 0 0), V.int IntKind.i64 5]) []) ∧
 (decide (m < 1) = false →
 (decide (f > b) = true → K (V.tup [V.any (Value.slice none 0 0), V.int IntKind.i64 5]) []) ∧
 (decide (f > b) = false →
 (decide (m > IntKind.i64.wrap (b - f)) = true → K (V.tup [V.any (Value.slice none 0 0), V.int IntKind.i64 5]) []) ∧
 (decide (m > IntKind.i64.wrap (b - f)) = false →
 (∃ i, ([V.int IntKind.i64 f, V.int IntKind.i64 m, V.sl 0 0 0, V.int IntKind.i64 0], [KO.row 29 4 []]) = (splitLI b f m).st i) ∧
 ∀ (i : (splitLI b f m).α),
 (-9223372036854775808 ≤ IntKind.i64.wrap (f + i.val.snd) ∧ IntKind.i64.wrap (f + i.val.snd) ≤ 9223372036854775807) ∧
 (decide ((if IntKind.i64.wrap (m - i.val.snd) < IntKind.i64.wrap (8 - whA (IntKind.i64.wrap (f + i.val.snd))) then IntKind.i64.wrap (m - i.val.snd) else IntKind.i64.wrap (8 - whA (IntKind.i64.wrap (f + i.val.snd)))) < 1) = true → K (V.tup [V.sl 0 0 i.val.fst, V.int IntKind.i64 0]) [KO.row 29 4 (pcs f m i.val.fst)]) ∧
 (decide ((if IntKind.i64.wrap (m - i.val.snd) < IntKind.i64.wrap (8 - whA (IntKind.i64.wrap (f + i.val.snd))) then IntKind.i64.wrap (m - i.val.snd) else IntKind.i64.wrap (8 - whA (IntKind.i64.wrap (f + i.val.snd)))) < 1) = false →
 1 ≤ 1 ∧
 i.val.fst ≤ (pcs f m i.val.fst).length ∧
 (i.val.fst + 1) * 32 ≤ 140737488355328 ∧
 ∃ j,
 ([V.int IntKind.i64 f, V.int IntKind.i64 m, V.sl 0 0 (i.val.fst + 1), V.int IntKind.i64 (IntKind.i64.wrap (i.val.snd + if IntKind.i64.wrap (m - i.val.snd) < IntKind.i64.wrap (8 - whA (IntKind.i64.wrap (f + i.val.snd))) then IntKind.i64.wrap (m - i.val.snd) else IntKind.i64.wrap (8 - whA (IntKind.i64.wrap (f + i.val.snd)))))],
 [KO.row 29 4
 (List.take i.val.fst (pcs f m i.val.fst) ++
 [[Value.int IntKind.i64 (whC (IntKind.i64.wrap (f + i.val.snd))), Value.int IntKind.i64 (whA (IntKind.i64.wrap (f + i.val.snd))),
 Value.int IntKind.i64 (if IntKind.i64.wrap (m - i.val.snd) < IntKind.i64.wrap (8 - whA (IntKind.i64.wrap (f + i.val.snd))) then IntKind.i64.wrap (m - i.val.snd) else IntKind.i64.wrap (8 - whA (IntKind.i64.wrap (f + i.val.snd)))), Value.int IntKind.i64 i.val.snd]])]) =
 (splitLI b f m).st j ∧
 (splitLI b f m).μ j < (splitLI b f m).μ i)))))))
 ) : runSpec Try.prog XW (splitT b f m 7) 7 [.int .i64 b, .int .i64 f, .int .i64 m] [] K := Eq.mp (by kernel_rfl) h
theorem vc13 (f m : Int) (K : V → KB → Prop) (h :
 (∃ i, ([V.int IntKind.i64 f, V.int IntKind.i64 m, V.sl 0 0 0, V.int IntKind.i64 0], [KO.row 29 4 []]) = (refLI f m).st i) ∧
 ∀ (i : (refLI f m).α),
 (decide ((↑i.val : Int) < m) = true →
 (((↑i.val : Int) == 0) = true →
 1 ≤ 1 ∧
 pcN f (↑i.val : Int) ≤ (pcs f (↑i.val : Int) (pcN f (↑i.val : Int))).length ∧
 (pcN f (↑i.val : Int) + 1) * 32 ≤ 140737488355328 ∧
 InB (IntKind.i64.wrap ((↑(pcN f (↑i.val : Int) + 1 - 0) : Int) - 1)) (pcN f (↑i.val : Int) + 1 - 0) ∧
 ∃ e,
 (List.take (pcN f (↑i.val : Int)) (pcs f (↑i.val : Int) (pcN f (↑i.val : Int))) ++
 [[Value.int IntKind.i64 (IntKind.i64.wrap ((IntKind.i64.wrap (f + (↑i.val : Int))).tdiv 8)), Value.int IntKind.i64 ((IntKind.i64.wrap (f + (↑i.val : Int))).tmod 8), Value.int IntKind.i64 0, Value.int IntKind.i64 (↑i.val : Int)]])[0 + (IntKind.i64.wrap ((↑(pcN f (↑i.val : Int) + 1 - 0) : Int) - 1)).toNat]? =
 some e ∧
 ∃ n,
 e[2]? = some (Value.int IntKind.i64 n) ∧
 InB (IntKind.i64.wrap ((↑(pcN f (↑i.val : Int) + 1 - 0) : Int) - 1)) (pcN f (↑i.val : Int) + 1 - 0) ∧
 ∃ e,
 (List.take (pcN f (↑i.val : Int)) (pcs f (↑i.val : Int) (pcN f (↑i.val : Int))) ++
 [[Value.int IntKind.i64 (IntKind.i64.wrap ((IntKind.i64.wrap (f + (↑i.val : Int))).tdiv 8)), Value.int IntKind.i64 ((IntKind.i64.wrap (f + (↑i.val : Int))).tmod 8), Value.int IntKind.i64 0, Value.int IntKind.i64 (↑i.val : Int)]])[0 + (IntKind.i64.wrap ((↑(pcN f (↑i.val : Int) + 1 - 0) : Int) - 1)).toNat]? =
 some e ∧
 ∃ j,
 ([V.int IntKind.i64 f, V.int IntKind.i64 m, V.sl 0 0 (pcN f (↑i.val : Int) + 1), V.int IntKind.i64 (IntKind.i64.wrap ((↑i.val : Int) + 1))],
 [KO.row 29 4
 ((List.take (pcN f (↑i.val : Int)) (pcs f (↑i.val : Int) (pcN f (↑i.val : Int))) ++ [[Value.int IntKind.i64 (IntKind.i64.wrap ((IntKind.i64.wrap (f + (↑i.val : Int))).tdiv 8)), Value.int IntKind.i64 ((IntKind.i64.wrap (f + (↑i.val : Int))).tmod 8), Value.int IntKind.i64 0, Value.int IntKind.i64 (↑i.val : Int)]]).set
 (0 + (IntKind.i64.wrap ((↑(pcN f (↑i.val : Int) + 1 - 0) : Int) - 1)).toNat) (splice e 2 [Value.int IntKind.i64 (IntKind.i64.wrap (n + 1))]))]) =
 (refLI f m).st j ∧
 (refLI f m).μ j < (refLI f m).μ i) ∧
 (((↑i.val : Int) == 0) = false →
 (((IntKind.i64.wrap (f + (↑i.val : Int))).tmod 8 == 0) = true →
 1 ≤ 1 ∧
 pcN f (↑i.val : Int) ≤ (pcs f (↑i.val : Int) (pcN f (↑i.val : Int))).length ∧
 (pcN f (↑i.val : Int) + 1) * 32 ≤ 140737488355328 ∧
 InB (IntKind.i64.wrap ((↑(pcN f (↑i.val : Int) + 1 - 0) : Int) - 1)) (pcN f (↑i.val : Int) + 1 - 0) ∧
 ∃ e,
 (List.take (pcN f (↑i.val : Int)) (pcs f (↑i.val : Int) (pcN f (↑i.val : Int))) ++
 [[Value.int IntKind.i64 (IntKind.i64.wrap ((IntKind.i64.wrap (f + (↑i.val : Int))).tdiv 8)), Value.int IntKind.i64 ((IntKind.i64.wrap (f + (↑i.val : Int))).tmod 8), Value.int IntKind.i64 0, Value.int IntKind.i64 (↑i.val : Int)]])[0 + (IntKind.i64.wrap ((↑(pcN f (↑i.val : Int) + 1 - 0) : Int) - 1)).toNat]? =
 some e ∧
 ∃ n,
 e[2]? = some (Value.int IntKind.i64 n) ∧
 InB (IntKind.i64.wrap ((↑(pcN f (↑i.val : Int) + 1 - 0) : Int) - 1)) (pcN f (↑i.val : Int) + 1 - 0) ∧
 ∃ e,
 (List.take (pcN f (↑i.val : Int)) (pcs f (↑i.val : Int) (pcN f (↑i.val : Int))) ++
 [[Value.int IntKind.i64 (IntKind.i64.wrap ((IntKind.i64.wrap (f + (↑i.val : Int))).tdiv 8)), Value.int IntKind.i64 ((IntKind.i64.wrap (f + (↑i.val : Int))).tmod 8), Value.int IntKind.i64 0, Value.int IntKind.i64 (↑i.val : Int)]])[0 + (IntKind.i64.wrap ((↑(pcN f (↑i.val : Int) + 1 - 0) : Int) - 1)).toNat]? =
 some e ∧
 ∃ j,
 ([V.int IntKind.i64 f, V.int IntKind.i64 m, V.sl 0 0 (pcN f (↑i.val : Int) + 1), V.int IntKind.i64 (IntKind.i64.wrap ((↑i.val : Int) + 1))],
 [KO.row 29 4
 ((List.take (pcN f (↑i.val : Int)) (pcs f (↑i.val : Int) (pcN f (↑i.val : Int))) ++ [[Value.int IntKind.i64 (IntKind.i64.wrap ((IntKind.i64.wrap (f + (↑i.val : Int))).tdiv 8)), Value.int IntKind.i64 ((IntKind.i64.wrap (f + (↑i.val : Int))).tmod 8), Value.int IntKind.i64 0, Value.int IntKind.i64 (↑i.val : Int)]]).set
 (0 + (IntKind.i64.wrap ((↑(pcN f (↑i.val : Int) + 1 - 0) : Int) - 1)).toNat) (splice e 2 [Value.int IntKind.i64 (IntKind.i64.wrap (n + 1))]))]) =
 (refLI f m).st j ∧
 (refLI f m).μ j < (refLI f m).μ i) ∧
 (((IntKind.i64.wrap (f + (↑i.val : Int))).tmod 8 == 0) = false →
 InB (IntKind.i64.wrap ((↑(pcN f (↑i.val : Int) - 0) : Int) - 1)) (pcN f (↑i.val : Int) - 0) ∧
 ∃ e,
 (pcs f (↑i.val : Int) (pcN f (↑i.val : Int)))[0 + (IntKind.i64.wrap ((↑(pcN f (↑i.val : Int) - 0) : Int) - 1)).toNat]? = some e ∧
 ∃ n,
 e[2]? = some (Value.int IntKind.i64 n) ∧
 InB (IntKind.i64.wrap ((↑(pcN f (↑i.val : Int) - 0) : Int) - 1)) (pcN f (↑i.val : Int) - 0) ∧
 ∃ e,
 (pcs f (↑i.val : Int) (pcN f (↑i.val : Int)))[0 + (IntKind.i64.wrap ((↑(pcN f (↑i.val : Int) - 0) : Int) - 1)).toNat]? = some e ∧
 ∃ j,
 ([V.int IntKind.i64 f, V.int IntKind.i64 m, V.sl 0 0 (pcN f (↑i.val : Int)), V.int IntKind.i64 (IntKind.i64.wrap ((↑i.val : Int) + 1))], [KO.row 29 4 ((pcs f (↑i.val : Int) (pcN f (↑i.val : Int))).set (0 + (IntKind.i64.wrap ((↑(pcN f (↑i.val : Int) - 0) : Int) - 1)).toNat) (splice e 2 [Value.int IntKind.i64 (IntKind.i64.wrap (n + 1))]))]) = (refLI f m).st j ∧
 (refLI f m).μ j < (refLI f m).μ i))) ∧
 (decide ((↑i.val : Int) < m) = false → K (V.sl 0 0 (pcN f (↑i.val : Int))) [KO.row 29 4 (pcs f (↑i.val : Int) (pcN f (↑i.val : Int)))])
 ) : runSpec Try.prog XW (refT f m 13) 13 [.int .i64 f, .int .i64 m] [] K := Eq.mp (by kernel_rfl) h

theorem mixed : Try.prog.follows .mixedOrders = true := by kernel_rfl
theorem noS_ok : AllOk Try.prog noS := fun f k h => by cases h
theorem X0_ok : CallOk Try.prog X0 := callS_ok mixed noS_ok noT 10
theorem ok8 : SpecOk Try.prog 8 S8 := specOk_of X0_ok mixed (noT 8) (fun args kb K h => by
  unfold S8 at h; split at h <;> try exact h.elim
  refine vc8 K ?_
  simp [InB]
  exact h)
theorem ok9 : SpecOk Try.prog 9 S9 := specOk_of X0_ok mixed (noT 9) (fun args kb K h => by
  unfold S9 at h; split at h <;> try exact h.elim
  rename_i b
  obtain ⟨hb, h⟩ := h
  unfold inI at hb
  refine vc9 b K ⟨fun hc => ?_, fun hc => ?_⟩
  · simp only [decide_eq_true_eq] at hc
    simpa [whC, whA, hc] using h
  · simp only [decide_eq_false_iff_not] at hc
    have e1 : b.tdiv 8 = b / 8 := Int.tdiv_eq_ediv_of_nonneg (by omega)
    have e2 : b.tmod 8 = b % 8 := Int.tmod_eq_emod_of_nonneg (by omega)
    rw [e1, e2, IntWalk.i64_in _ (by omega)]
    simpa [whC, whA, hc] using h)
theorem ok10 : SpecOk Try.prog 10 S10 := specOk_of X0_ok mixed (noT 10) (fun args kb K h => by
  unfold S10 at h; split at h <;> try exact h.elim
  rename_i b
  obtain ⟨hb, h⟩ := h
  unfold inI at hb
  refine vc10 b K ⟨fun hc => ?_, fun hc => ?_⟩
  · simp only [decide_eq_true_eq] at hc
    simpa [cnt, hc] using h
  · simp only [decide_eq_false_iff_not] at hc
    have e1 : (b - 1).tdiv 8 = (b - 1) / 8 := Int.tdiv_eq_ediv_of_nonneg (by omega)
    rw [IntWalk.i64_in (b - 1) (by omega), e1, IntWalk.i64_in ((b - 1) / 8) (by omega), IntWalk.i64_in _ (by omega)]
    simpa [cnt, hc] using h)
theorem ok11 : SpecOk Try.prog 11 S10 := specOk_of X0_ok mixed (noT 11) (fun args kb K h => by
  unfold S10 at h; split at h <;> try exact h.elim
  rename_i b
  obtain ⟨hb, h⟩ := h
  unfold inI at hb
  have e0 : (if 0 > b then (0 : Int) else b) = max b 0 := by omega
  have e1 : (max b 0).tdiv 8 = (max b 0) / 8 := Int.tdiv_eq_ediv_of_nonneg (by omega)
  have e2 : (max b 0).tmod 8 = (max b 0) % 8 := Int.tmod_eq_emod_of_nonneg (by omega)
  have e3 := IntWalk.i64_in (max b 0 / 8) (by omega)
  have e4 := IntWalk.i64_in (max b 0 / 8 + 1) (by omega)
  refine vc11 b K ?_
  simp only [e0, e1, e2, e3, e4]
  refine ⟨fun hc => ?_, fun hc => ?_⟩
  · simp only [beq_iff_eq] at hc
    have : max b 0 / 8 = cnt b := by unfold cnt; split <;> omega
    rw [this]; exact h
  · have hc : ¬ max b 0 % 8 = 0 := by simpa using hc
    have : max b 0 / 8 + 1 = cnt b := by unfold cnt; split <;> omega
    rw [this]; exact h)
theorem right_leaf {K : V → KB → Prop} {b f m : Int} (h : K (.sb (rightR b f m)) []) {x : Bool} (hb : x = rightR b f m) : K (.sb x) [] := hb ▸ h
theorem ok12 : SpecOk Try.prog 12 S12 := specOk_of X0_ok mixed (noT 12) (fun args kb K h => by
  unfold S12 at h; split at h <;> try exact h.elim
  rename_i b f m
  refine vc12 b f m K ?_
  repeat' first | apply And.intro | intro
  case left.left.left.left.left.left =>
    simp only [decide_eq_true_eq] at *
    rw [IntWalk.i64_in _ (by omega)]
    refine right_leaf h ?_
    simp [rightR, *]
  all_goals (refine right_leaf h ?_; simp only [decide_eq_true_eq, decide_eq_false_iff_not] at *; symm; simp only [rightR, Bool.and_eq_false_iff, decide_eq_false_iff_not]; omega))

theorem whS_ok : AllOk Try.prog whS := fun f k h => by
  unfold whS at h
  split at h <;> cases h
  exact ok9
theorem XW_ok : CallOk Try.prog XW := callS_ok mixed whS_ok noT 10
theorem pcs_len {f m : Int} {n : Nat} : (pcs f m n).length = n := by simp [pcs]
theorem pcs_succ {f m : Int} {n : Nat} : pcs f m (n + 1) = pcs f m n ++ [pc f m n] := by simp [pcs, List.range_succ]
theorem pcs_take {f m : Int} {n : Nat} : (pcs f m n).take n = pcs f m n := List.take_of_length_le (by rw [pcs_len]; exact Nat.le_refl _)
theorem rightR_iff {b f m : Int} : rightR b f m = true ↔ 0 ≤ b ∧ b ≤ 512 ∧ 0 ≤ f ∧ 1 ≤ m ∧ f ≤ 512 ∧ m ≤ 512 ∧ f + m ≤ b := by simp [rightR]
theorem rightR_false {b f m : Int} : rightR b f m = false ↔ ¬ (0 ≤ b ∧ b ≤ 512 ∧ 0 ≤ f ∧ 1 ≤ m ∧ f ≤ 512 ∧ m ≤ 512 ∧ f + m ≤ b) := by rw [← rightR_iff]; simp
theorem pc_next {f m off : Int} {k : Nat} (h0 : 0 ≤ f) (hoff : off = min (f + m) (max f (8 * (f / 8 + k))) - f) (hc : 1 ≤ min (m - off) (8 - (f + off) % 8)) :
    pc f m k = [Value.int IntKind.i64 ((f + off) / 8), Value.int IntKind.i64 ((f + off) % 8), Value.int IntKind.i64 (min (m - off) (8 - (f + off) % 8)), Value.int IntKind.i64 off] := by
  have e0 : max f (8 * (f / 8 + k)) = f + off := by omega
  have e1 : (f + off) / 8 = f / 8 + k := by omega
  unfold pc pcE pcS
  rw [e0, e1]
  have e2 : f + off - 8 * (f / 8 + k) = (f + off) % 8 := by omega
  have e3 : min (f + m) (8 * (f / 8 + k + 1)) - (f + off) = min (m - off) (8 - (f + off) % 8) := by omega
  have e4 : f + off - f = off := by omega
  rw [e2, e3, e4]
theorem split_next {b f m off : Int} {k : Nat} {hh} (h0 : 0 ≤ f) (hm : 1 ≤ m) (hlt : k + 1 ≤ pcN f m) (hoff : off = min (f + m) (max f (8 * (f / 8 + k))) - f) (hc : 1 ≤ min (m - off) (8 - (f + off) % 8)) :
    ∃ j, ([V.int IntKind.i64 f, V.int IntKind.i64 m, V.sl 0 0 (k + 1), V.int IntKind.i64 (off + min (m - off) (8 - (f + off) % 8))],
      [KO.row 29 4 (pcs f m k ++ [[Value.int IntKind.i64 ((f + off) / 8), Value.int IntKind.i64 ((f + off) % 8), Value.int IntKind.i64 (min (m - off) (8 - (f + off) % 8)), Value.int IntKind.i64 off]])]) = (splitLI b f m).st j ∧
      (splitLI b f m).μ j < (splitLI b f m).μ ⟨(k, off), hh⟩ := by
  refine ⟨⟨(k + 1, off + min (m - off) (8 - (f + off) % 8)), hlt, ?_⟩, ?_, ?_⟩
  · show _ = min (f + m) (max f (8 * (f / 8 + ((k + 1 : Nat) : Int)))) - f
    omega
  · rw [← pc_next h0 hoff hc, ← pcs_succ]; rfl
  · show pcN f m - (k + 1) < pcN f m - k
    omega
theorem ok7 : SpecOk Try.prog 7 S7 := specOk_of' XW_ok mixed (fun args kb K h => by
  unfold S7 at h; split at h <;> try exact h.elim
  rename_i b f m
  obtain ⟨h1, h2⟩ := h
  rw [rightR_iff] at h1
  rw [rightR_false] at h2
  refine ⟨_, vc7 b f m K ?_⟩
  simp only [decide_eq_true_eq, decide_eq_false_iff_not]
  refine ⟨fun c => h2 (by omega), fun c1 => ⟨fun c => h2 (by omega), fun c2 => ⟨fun c => h2 (by omega), fun c3 => ⟨fun c => h2 (by omega), fun c4 => ⟨fun c => h2 (by omega), fun c5 => ?_⟩⟩⟩⟩⟩
  rw [IntWalk.i64_in (b - f) (by omega)]
  refine ⟨fun c => h2 (by omega), fun c6 => ⟨⟨⟨(0, 0), Nat.zero_le _, by simp [pcS]; omega⟩, rfl⟩, fun i => ?_⟩⟩
  obtain ⟨⟨k, off⟩, hk, hoff⟩ := i
  simp only at hk hoff ⊢
  have hp : pcS f k = max f (8 * (f / 8 + k)) := rfl
  have hn : pcN f m = ((f + m - 1) / 8 - f / 8 + 1).toNat := by unfold pcN; rw [if_neg (by omega)]
  have w1 := IntWalk.i64_in (f + off) (by omega)
  have a1 : whA (f + off) = (f + off) % 8 := by unfold whA; rw [if_neg (by omega)]
  have a2 : whC (f + off) = (f + off) / 8 := by unfold whC; rw [if_neg (by omega)]
  have w2 := IntWalk.i64_in (m - off) (by omega)
  have w3 := IntWalk.i64_in (8 - (f + off) % 8) (by omega)
  have hmin : (if m - off < 8 - (f + off) % 8 then m - off else 8 - (f + off) % 8) = min (m - off) (8 - (f + off) % 8) := by omega
  have w4 := IntWalk.i64_in (off + min (m - off) (8 - (f + off) % 8)) (by omega)
  simp only [w1, a1, a2, w2, w3, hmin, w4]
  rw [hp] at hoff
  refine ⟨⟨by omega, by omega⟩, fun c => ?_, fun c => ⟨Nat.le_refl _, by rw [pcs_len]; exact Nat.le_refl _, by omega, ?_⟩⟩
  · have : k = pcN f m := by omega
    subst this
    exact h1 (by omega)
  · have hlt : k + 1 ≤ pcN f m := by omega
    rw [pcs_take]
    exact split_next (by omega) (by omega) hlt hoff (by omega))
end Go.Proofs.Ytgadaeodoapgiaa
