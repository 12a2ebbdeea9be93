import Derived.Test.YtkodjbegpheomaaVs
import Derived.KernelRfl
namespace Go.Proofs.Ytkodjbegpheomaa
open Vc Go
set_option linter.unusedVariables false
set_option linter.unusedSimpArgs false
set_option maxRecDepth 100000
/-- The power fails, and nothing waits. -/
def SdBoot : FSpec := fun args kb K => match args, kb with
  | [.ptr 0 0, .dat (.sl 1 A)], [.cells [.sl 1 0 n, .sl 2 0 m, .int .i64 (-1), .sb false], .row 82 64 X, .row 84 129 W] => ∃ x : List (List Int), X = secs x ∧ n = x.length ∧ NoW m W ∧ K (.tup []) [devV 1 3 x.length 0, secR x, waiR [], waiR []]
  | [.ptr 0 0, .any (.slice none 0 0)], [.cells [.sl 1 0 n, .sl 2 0 m, .int .i64 (-1), .sb false], .row 82 64 X, .row 84 129 W] => ∃ x : List (List Int), X = secs x ∧ n = x.length ∧ NoW m W ∧ K (.tup []) [devV 1 3 x.length 0, secR x, waiR [], waiR []]
  | _, _ => False
def SBack : FSpec := fun args kb K => match args, kb with
  | [.any v, .ptr 0 0], [.cells [.sl 1 0 m], .row 84 129 W] => NoW m W ∧ K (.tup []) [.cells [.sl 1 0 0], waiR []]
  | _, _ => False
abbrev bkLI (v : Value) : LI where
  α := {i : Int // i = -1}
  live := [0, 1, 3]
  st i := ([.any v, .ptr 0 0, .int .i64 i.1], [.cells [.sl 1 0 0], waiR []])
  μ _ := 0
def bkT (v : Value) : FuncId → Nat → Option LI
  | 52, 1 => some (bkLI v)
  | _, _ => none
abbrev boLI (a : V) (x : List (List Int)) : LI where
  α := {i : Int // i = 0}
  live := [1, 2, 28, 29, 30]
  st i := ([a, .ptr 3 0, .sl 2 0 0, .int .i64 i.1, .int .i64 i.1], [devC x.length 0, secR x, waiR [], .cells [.ptr 0 0]])
  μ _ := 0
def boT (a : V) (x : List (List Int)) : FuncId → Nat → Option LI
  | 15, 5 => some (boLI a x)
  | _, _ => none
def vbS : FuncId → Option Known
  | 52 => some ⟨[], SBack⟩
  | _ => none
noncomputable def XVb : CallT := callS Try.prog vbS noT 10
theorem vcBack (v : Value) (K : V → KB → Prop) (hvc_ :
 At (bkLI v) ([V.any v, V.ptr 0 0, V.int IntKind.i64 (-1)], [KO.cells [V.sl 1 0 0], KO.row 84 129 []]) ∧
 ∀ (i : { i : Int // i = -1 }), (decide (i.val ≥ 0) = true → InB i.val 0 ∧ ∃ (e : List D), [][0 + i.val.toNat]? = some e ∧ ∃ (n : Int), e[0]? = some (D.val (Value.int IntKind.i64 n)) ∧ 65 ≤ e.length ∧ 129 ≤ e.length ∧ False) ∧ (decide (i.val ≥ 0) = false → K (V.tup []) [KO.cells [V.sl 1 0 0], KO.row 84 129 []])
 ) : runSpec Try.prog X0 (bkT v 52) 52 [.any v, .ptr 0 0] [.cells [.sl 1 0 0], waiR []] (tidyRes 2 K) := by apply Eq.mp (a := hvc_); kernel_rfl
theorem vcBootD (x : List (List Int)) (A : List (List D)) (K : V → KB → Prop) (hvc_ :
 ∀ (l : Nat),
 NoW 0 [] ∧
 At (boLI (V.dat (D.sl 1 A)) x) ([V.dat (D.sl 1 A), V.ptr 3 0, V.sl 2 0 0, V.int IntKind.i64 0, V.int IntKind.i64 0], [KO.cells [V.sl 1 0 x.length, V.sl 2 0 0, V.int IntKind.i64 (-1), V.sb false], KO.row 82 64 (secs x), KO.row 84 129 [], KO.cells [V.ptr 0 0]]) ∧
 ∀ (i : { i : Int // i = 0 }),
 (decide (i.val < i.val) = true →
 InB i.val 0 ∧
 ∃ (e : List D),
 [][0 + i.val.toNat]? = some e ∧
 ∃ (n : Int),
 e[0]? = some (D.val (Value.int IntKind.i64 n)) ∧
 65 ≤ e.length ∧
 129 ≤ e.length ∧
 (decide (i.val < (↑A.length : Int)) = true →
 NonN i.val ∧
 ∃ (e_1 : List D),
 A[i.val.toNat]? = some e_1 ∧
 ∃ (n_1 : Int),
 e_1[0]? = some (D.val (Value.int IntKind.i64 n_1)) ∧
 InB n (x.length - 0) ∧
 True ∧
 NonN (if 64 < if 0 > n_1 then 0 else n_1 then 64 else if 0 > n_1 then 0 else n_1) ∧
 0 ≤ (if 64 < if 0 > n_1 then 0 else n_1 then 64 else if 0 > n_1 then 0 else n_1).toNat ∧
 (if 64 < if 0 > n_1 then 0 else n_1 then 64 else if 0 > n_1 then 0 else n_1).toNat ≤ 64 ∧
 True ∧
 NonN (if 64 < if 0 > n_1 then 0 else n_1 then 64 else if 0 > n_1 then 0 else n_1) ∧
 0 ≤ (if 64 < if 0 > n_1 then 0 else n_1 then 64 else if 0 > n_1 then 0 else n_1).toNat ∧
 (if 64 < if 0 > n_1 then 0 else n_1 then 64 else if 0 > n_1 then 0 else n_1).toNat ≤ 64 ∧
 0 + ((if 64 < if 0 > n_1 then 0 else n_1 then 64 else if 0 > n_1 then 0 else n_1).toNat - 0) ≤ 64 ∧
 ∃ (e_2 : List D),
 (secs x)[0 + n.toNat]? = some e_2 ∧
 0 + ((if 64 < if 0 > n_1 then 0 else n_1 then 64 else if 0 > n_1 then 0 else n_1).toNat - 0) ≤ 64 ∧
 Nx (boLI (V.dat (D.sl 1 A)) x) i
 ([V.dat (D.sl 1 A), V.ptr 3 0, V.sl 2 0 0, V.int IntKind.i64 i.val, V.int IntKind.i64 (IntKind.i64.wrap (i.val + 1))],
 [KO.cells [V.sl 1 0 x.length, V.sl 2 0 0, V.int IntKind.i64 (-1), V.sb false],
 KO.row 82 64 ((secs x).set (0 + n.toNat) (splice e_2 0 (List.take ((if 64 < if 0 > n_1 then 0 else n_1 then 64 else if 0 > n_1 then 0 else n_1).toNat - 0) (ones (List.take ((if 64 < if 0 > n_1 then 0 else n_1 then 64 else if 0 > n_1 then 0 else n_1).toNat - 0) (List.drop 0 (List.take 64 (List.drop 65 e)))))).flatten)),
 KO.row 84 129 [], KO.cells [V.ptr 0 0]])) ∧
 (decide (i.val < (↑A.length : Int)) = false →
 InB n (x.length - 0) ∧
 True ∧
 NonN 64 ∧
 0 ≤ 64 ∧
 64 ≤ 64 ∧
 True ∧
 NonN 64 ∧
 0 ≤ 64 ∧
 64 ≤ 64 ∧
 64 ≤ 64 ∧
 ∃ (e_1 : List D),
 (secs x)[0 + n.toNat]? = some e_1 ∧
 64 ≤ 64 ∧
 Nx (boLI (V.dat (D.sl 1 A)) x) i
 ([V.dat (D.sl 1 A), V.ptr 3 0, V.sl 2 0 0, V.int IntKind.i64 i.val, V.int IntKind.i64 (IntKind.i64.wrap (i.val + 1))],
 [KO.cells [V.sl 1 0 x.length, V.sl 2 0 0, V.int IntKind.i64 (-1), V.sb false], KO.row 82 64 ((secs x).set (0 + n.toNat) (splice e_1 0 (List.take 64 (ones (List.take 64 (List.drop 0 (List.take 64 (List.drop 65 e)))))).flatten)), KO.row 84 129 [], KO.cells [V.ptr 0 0]]))) ∧
 (decide (i.val < i.val) = false → V.ptr 0 0 = V.ptr 0 0 ∧ V.ptr 0 0 = V.ptr 0 0 ∧ V.ptr 0 0 = V.ptr 0 0 ∧ K (V.tup []) [KO.cells [V.sl 1 0 x.length, V.sl 3 0 0, V.int IntKind.i64 (-1), V.sb false], KO.row 82 64 (secs x), KO.row 84 129 [], KO.row 84 129 []])
 ) : runSpec Try.prog XVb (boT (.dat (.sl 1 A)) x 15) 15 [.ptr 0 0, .dat (.sl 1 A)] [devC x.length 0, secR x, waiR []] (nilRes [.cell 0 1 84 129] (tidyRes 3 K)) := by apply Eq.mp (a := hvc_); kernel_rfl
theorem vcBootN (x : List (List Int)) (K : V → KB → Prop) (hvc_ :
 ∀ (l : Nat),
 NoW 0 [] ∧
 At (boLI (V.any (Value.slice none 0 0)) x) ([V.any (Value.slice none 0 0), V.ptr 3 0, V.sl 2 0 0, V.int IntKind.i64 0, V.int IntKind.i64 0], [KO.cells [V.sl 1 0 x.length, V.sl 2 0 0, V.int IntKind.i64 (-1), V.sb false], KO.row 82 64 (secs x), KO.row 84 129 [], KO.cells [V.ptr 0 0]]) ∧
 ∀ (i : { i : Int // i = 0 }),
 (decide (i.val < i.val) = true →
 InB i.val 0 ∧
 ∃ (e : List D),
 [][0 + i.val.toNat]? = some e ∧
 ∃ (n : Int),
 e[0]? = some (D.val (Value.int IntKind.i64 n)) ∧
 65 ≤ e.length ∧
 129 ≤ e.length ∧
 (decide (i.val < 0) = true → False) ∧
 (decide (i.val < 0) = false →
 InB n (x.length - 0) ∧
 True ∧
 NonN 64 ∧
 0 ≤ 64 ∧
 64 ≤ 64 ∧
 True ∧
 NonN 64 ∧
 0 ≤ 64 ∧
 64 ≤ 64 ∧
 64 ≤ 64 ∧
 ∃ (e_1 : List D),
 (secs x)[0 + n.toNat]? = some e_1 ∧
 64 ≤ 64 ∧
 Nx (boLI (V.any (Value.slice none 0 0)) x) i
 ([V.any (Value.slice none 0 0), V.ptr 3 0, V.sl 2 0 0, V.int IntKind.i64 i.val, V.int IntKind.i64 (IntKind.i64.wrap (i.val + 1))],
 [KO.cells [V.sl 1 0 x.length, V.sl 2 0 0, V.int IntKind.i64 (-1), V.sb false], KO.row 82 64 ((secs x).set (0 + n.toNat) (splice e_1 0 (List.take 64 (ones (List.take 64 (List.drop 0 (List.take 64 (List.drop 65 e)))))).flatten)), KO.row 84 129 [], KO.cells [V.ptr 0 0]]))) ∧
 (decide (i.val < i.val) = false → V.ptr 0 0 = V.ptr 0 0 ∧ V.ptr 0 0 = V.ptr 0 0 ∧ V.ptr 0 0 = V.ptr 0 0 ∧ K (V.tup []) [KO.cells [V.sl 1 0 x.length, V.sl 3 0 0, V.int IntKind.i64 (-1), V.sb false], KO.row 82 64 (secs x), KO.row 84 129 [], KO.row 84 129 []])
 ) : runSpec Try.prog XVb (boT (.any (.slice none 0 0)) x 15) 15 [.ptr 0 0, .any (.slice none 0 0)] [devC x.length 0, secR x, waiR []] (nilRes [.cell 0 1 84 129] (tidyRes 3 K)) := by apply Eq.mp (a := hvc_); kernel_rfl
theorem okBack : SpecOk Try.prog 52 SBack := specOk_tdn X0_ok 2 (fun args kb K h => by
  unfold SBack at h; split at h <;> try exact h.elim
  rename_i v _ _
  obtain ⟨⟨rfl, rfl⟩, h⟩ := h
  refine ⟨rfl, bkT v _, vcBack v K ⟨At.mk' ⟨-1, rfl⟩ rfl, ?_⟩⟩
  rintro ⟨i, rfl⟩
  exact ⟨fun q => (by cases q), fun _ => h⟩)
theorem vbS_ok : AllOk Try.prog vbS := fun f k h => by
  unfold vbS at h
  split at h
  · cases h; exact okBack
  · cases h
theorem XVb_ok : CallOk Try.prog XVb := callS_ok mixed vbS_ok noT 10
theorem okBootV : SpecOk Try.prog 15 SdBoot := specOk_ntn XVb_ok [.cell 0 1 84 129] 3 (fun args kb K h => by
  unfold SdBoot at h; split at h <;> try exact h.elim
  · rename_i A _ _ _ _
    obtain ⟨x, rfl, rfl, ⟨rfl, rfl⟩, h⟩ := h
    refine ⟨rfl, boT (.dat (.sl 1 A)) x _, vcBootD x A K fun l => ⟨⟨rfl, rfl⟩, At.mk' ⟨0, rfl⟩ rfl, ?_⟩⟩
    rintro ⟨i, rfl⟩
    exact ⟨fun q => (by cases q), fun _ => ⟨rfl, rfl, rfl, h⟩⟩
  · obtain ⟨x, rfl, rfl, ⟨rfl, rfl⟩, h⟩ := h
    refine ⟨rfl, boT (.any (.slice none 0 0)) x _, vcBootN x K fun l => ⟨⟨rfl, rfl⟩, At.mk' ⟨0, rfl⟩ rfl, ?_⟩⟩
    rintro ⟨i, rfl⟩
    exact ⟨fun q => (by cases q), fun _ => ⟨rfl, rfl, rfl, h⟩⟩)
end Go.Proofs.Ytkodjbegpheomaa
