import Derived.Test.YtlompcfnjfjaeaaSp
import Derived.KernelRfl
import Derived.Test.YtlompcfnjfjaeaaVcP
namespace Go.Proofs.Ytlompcfnjfjaeaa
open Vc Go
set_option linter.unusedVariables false
set_option maxRecDepth 100000
def oneInv (m : Nat) (s : Nat × Int × Int × List Int) : Prop :=
  s.1 ≤ m ∧ rightB s.2.1 s.2.2.1 = true ∧ s.2.2.2.length = 300 ∧ ∀ (T : Nat) (g : Int), s.2.2.2[T]? = some g → g = 0 ∨ (T : Int) < s.2.1 ∨ ((T : Int) = s.2.1 ∧ g = s.2.2.1 + 1)
def oneLI (terms whos : List Int) : LI where
  α := {s : Nat × Int × Int × List Int // oneInv terms.length s}
  live := [1, 2, 3, 7, 8]
  st x := ([.isl 1 (ints .u8 terms), .isl 1 (ints .u8 whos), .ptr 0 0, .ptr 1 0, .int .i64 x.1.1], [.cells [.int .i64 x.1.2.1, .int .i64 x.1.2.2.1], .row 27 1 (ints .i64 x.1.2.2.2)])
  μ x := terms.length - x.1.1
def oneT (terms whos : List Int) : FuncId → Nat → Option LI
  | 3, 5 => some (oneLI terms whos)
  | _, _ => none
noncomputable def X2 (terms whos : List Int) : CallT := callS Try.prog ballotS (oneT terms whos) 10
theorem vc3 (t v : Int) (terms whos : List Int)  (h :
 (decide ((↑(ints IntKind.u8 terms).length : Int) > 60) = true → true = true) ∧
 (decide ((↑(ints IntKind.u8 terms).length : Int) > 60) = false →
 (decide ((↑(ints IntKind.u8 whos).length : Int) < (↑(ints IntKind.u8 terms).length : Int)) = true → true = true) ∧
 (decide ((↑(ints IntKind.u8 whos).length : Int) < (↑(ints IntKind.u8 terms).length : Int)) = false →
 (decide ((↑(ints IntKind.u8 whos).length : Int) > 100) = true → true = true) ∧
 (decide ((↑(ints IntKind.u8 whos).length : Int) > 100) = false →
 ((!rightB t v) = true → true = true) ∧
 ((!rightB t v) = false →
 (∃ i, ([V.isl 1 (ints IntKind.u8 terms), V.isl 1 (ints IntKind.u8 whos), V.ptr 0 0, V.ptr (0 + 1) 0, V.int IntKind.i64 0], [KO.cells [V.int IntKind.i64 t, V.int IntKind.i64 v], KO.row 27 (Value.int IntKind.i64 0).cells.toList.length (List.replicate 300 (Value.int IntKind.i64 0).cells.toList)]) = (oneLI terms whos).st i) ∧
 ∀ (i : (oneLI terms whos).α),
 (decide ((↑i.val.fst : Int) < (↑(ints IntKind.u8 terms).length : Int)) = true →
 NonN (↑i.val.fst : Int) ∧
 ∃ e,
 (ints IntKind.u8 terms)[(↑i.val.fst : Int).toNat]? = some e ∧
 ∃ n,
 e[0]? = some (Value.int IntKind.u8 n) ∧
 NonN (↑i.val.fst : Int) ∧
 ∃ e,
 (ints IntKind.u8 whos)[(↑i.val.fst : Int).toNat]? = some e ∧
 ∃ n_1,
 e[0]? = some (Value.int IntKind.u8 n_1) ∧
 ((∃ n, e[0]? = some (Value.int IntKind.u8 n) ∧ n = n_1) ∧
 (∃ n, e[0]? = some (Value.int IntKind.u8 n) ∧ n = n_1) ∧
 (decide (seeT i.val.snd.fst (IntKind.i64.wrap n) < i.val.snd.fst) = true → False) ∧
 (decide (seeT i.val.snd.fst (IntKind.i64.wrap n) < i.val.snd.fst) = false →
 ((!rightB (seeT i.val.snd.fst (IntKind.i64.wrap n)) (graV i.val.snd.fst i.val.snd.snd.fst (IntKind.i64.wrap n) ((IntKind.i64.wrap n_1).tmod 16) true)) = true → False) ∧
 ((!rightB (seeT i.val.snd.fst (IntKind.i64.wrap n)) (graV i.val.snd.fst i.val.snd.snd.fst (IntKind.i64.wrap n) ((IntKind.i64.wrap n_1).tmod 16) true)) = false →
 ((!okB i.val.snd.fst i.val.snd.snd.fst (IntKind.i64.wrap n) ((IntKind.i64.wrap n_1).tmod 16) true) = true →
 ∃ j,
 ([V.isl 1 (ints IntKind.u8 terms), V.isl 1 (ints IntKind.u8 whos), V.ptr 0 0, V.ptr (0 + 1) 0, V.int IntKind.i64 (IntKind.i64.wrap ((↑i.val.fst : Int) + 1))],
 [KO.cells [V.int IntKind.i64 (seeT i.val.snd.fst (IntKind.i64.wrap n)), V.int IntKind.i64 (graV i.val.snd.fst i.val.snd.snd.fst (IntKind.i64.wrap n) ((IntKind.i64.wrap n_1).tmod 16) true)], KO.row 27 1 (ints IntKind.i64 i.val.snd.snd.snd)]) =
 (oneLI terms whos).st j ∧
 (oneLI terms whos).μ j < (oneLI terms whos).μ i) ∧
 ((!okB i.val.snd.fst i.val.snd.snd.fst (IntKind.i64.wrap n) ((IntKind.i64.wrap n_1).tmod 16) true) = false →
 InB (IntKind.i64.wrap n) 300 ∧
 ∃ e,
 (ints IntKind.i64 i.val.snd.snd.snd)[(IntKind.i64.wrap n).toNat]? = some e ∧
 ∃ n_2,
 e[0]? = some (Value.int IntKind.i64 n_2) ∧
 ((n_2 != 0) = true →
 InB (IntKind.i64.wrap n) 300 ∧
 ∃ e,
 (ints IntKind.i64 i.val.snd.snd.snd)[(IntKind.i64.wrap n).toNat]? = some e ∧
 ∃ n_3,
 e[0]? = some (Value.int IntKind.i64 n_3) ∧
 NonN (↑i.val.fst : Int) ∧
 ∃ e,
 (ints IntKind.u8 whos)[(↑i.val.fst : Int).toNat]? = some e ∧
 ∃ n_4,
 e[0]? = some (Value.int IntKind.u8 n_4) ∧
 ((n_3 != IntKind.i64.wrap (1 + (IntKind.i64.wrap n_4).tmod 16)) = true → False) ∧
 ((n_3 != IntKind.i64.wrap (1 + (IntKind.i64.wrap n_4).tmod 16)) = false →
 NonN (↑i.val.fst : Int) ∧
 ∃ e,
 (ints IntKind.u8 whos)[(↑i.val.fst : Int).toNat]? = some e ∧
 ∃ n_5,
 e[0]? = some (Value.int IntKind.u8 n_5) ∧
 ((graV i.val.snd.fst i.val.snd.snd.fst (IntKind.i64.wrap n) ((IntKind.i64.wrap n_1).tmod 16) true != (IntKind.i64.wrap n_5).tmod 16) = true → False) ∧
 ((graV i.val.snd.fst i.val.snd.snd.fst (IntKind.i64.wrap n) ((IntKind.i64.wrap n_1).tmod 16) true != (IntKind.i64.wrap n_5).tmod 16) = false →
 NonN (↑i.val.fst : Int) ∧
 ∃ e,
 (ints IntKind.u8 whos)[(↑i.val.fst : Int).toNat]? = some e ∧
 ∃ n_6,
 e[0]? = some (Value.int IntKind.u8 n_6) ∧
 InB (IntKind.i64.wrap n) 300 ∧
 (IntKind.i64.wrap n).toNat < (ints IntKind.i64 i.val.snd.snd.snd).length ∧
 ∃ j,
 ([V.isl 1 (ints IntKind.u8 terms), V.isl 1 (ints IntKind.u8 whos), V.ptr 0 0, V.ptr (0 + 1) 0, V.int IntKind.i64 (IntKind.i64.wrap ((↑i.val.fst : Int) + 1))],
 [KO.cells [V.int IntKind.i64 (seeT i.val.snd.fst (IntKind.i64.wrap n)), V.int IntKind.i64 (graV i.val.snd.fst i.val.snd.snd.fst (IntKind.i64.wrap n) ((IntKind.i64.wrap n_1).tmod 16) true)],
 KO.row 27 1 ((ints IntKind.i64 i.val.snd.snd.snd).set (IntKind.i64.wrap n).toNat [Value.int IntKind.i64 (IntKind.i64.wrap (1 + (IntKind.i64.wrap n_6).tmod 16))])]) =
 (oneLI terms whos).st j ∧
 (oneLI terms whos).μ j < (oneLI terms whos).μ i))) ∧
 ((n_2 != 0) = false →
 NonN (↑i.val.fst : Int) ∧
 ∃ e,
 (ints IntKind.u8 whos)[(↑i.val.fst : Int).toNat]? = some e ∧
 ∃ n_3,
 e[0]? = some (Value.int IntKind.u8 n_3) ∧
 ((graV i.val.snd.fst i.val.snd.snd.fst (IntKind.i64.wrap n) ((IntKind.i64.wrap n_1).tmod 16) true != (IntKind.i64.wrap n_3).tmod 16) = true → False) ∧
 ((graV i.val.snd.fst i.val.snd.snd.fst (IntKind.i64.wrap n) ((IntKind.i64.wrap n_1).tmod 16) true != (IntKind.i64.wrap n_3).tmod 16) = false →
 NonN (↑i.val.fst : Int) ∧
 ∃ e,
 (ints IntKind.u8 whos)[(↑i.val.fst : Int).toNat]? = some e ∧
 ∃ n_4,
 e[0]? = some (Value.int IntKind.u8 n_4) ∧
 InB (IntKind.i64.wrap n) 300 ∧
 (IntKind.i64.wrap n).toNat < (ints IntKind.i64 i.val.snd.snd.snd).length ∧
 ∃ j,
 ([V.isl 1 (ints IntKind.u8 terms), V.isl 1 (ints IntKind.u8 whos), V.ptr 0 0, V.ptr (0 + 1) 0, V.int IntKind.i64 (IntKind.i64.wrap ((↑i.val.fst : Int) + 1))],
 [KO.cells [V.int IntKind.i64 (seeT i.val.snd.fst (IntKind.i64.wrap n)), V.int IntKind.i64 (graV i.val.snd.fst i.val.snd.snd.fst (IntKind.i64.wrap n) ((IntKind.i64.wrap n_1).tmod 16) true)],
 KO.row 27 1 ((ints IntKind.i64 i.val.snd.snd.snd).set (IntKind.i64.wrap n).toNat [Value.int IntKind.i64 (IntKind.i64.wrap (1 + (IntKind.i64.wrap n_4).tmod 16))])]) =
 (oneLI terms whos).st j ∧
 (oneLI terms whos).μ j < (oneLI terms whos).μ i)))))) ∧
 (∃ n, e[0]? = some (Value.int IntKind.u8 n) ∧ n = n_1) ∧
 (i.val.snd.fst = i.val.snd.fst ∧ i.val.snd.snd.fst = i.val.snd.snd.fst) ∧
 (∃ n, e[0]? = some (Value.int IntKind.u8 n) ∧ n = n_1) ∧
 (decide (seeT i.val.snd.fst (IntKind.i64.wrap n) < i.val.snd.fst) = true → False) ∧
 (decide (seeT i.val.snd.fst (IntKind.i64.wrap n) < i.val.snd.fst) = false →
 ((!rightB (seeT i.val.snd.fst (IntKind.i64.wrap n)) (graV i.val.snd.fst i.val.snd.snd.fst (IntKind.i64.wrap n) ((IntKind.i64.wrap n_1).tmod 16) true)) = true → False) ∧
 ((!rightB (seeT i.val.snd.fst (IntKind.i64.wrap n)) (graV i.val.snd.fst i.val.snd.snd.fst (IntKind.i64.wrap n) ((IntKind.i64.wrap n_1).tmod 16) true)) = false →
 ((!okB i.val.snd.fst i.val.snd.snd.fst (IntKind.i64.wrap n) ((IntKind.i64.wrap n_1).tmod 16) true) = true →
 ∃ j,
 ([V.isl 1 (ints IntKind.u8 terms), V.isl 1 (ints IntKind.u8 whos), V.ptr 0 0, V.ptr (0 + 1) 0, V.int IntKind.i64 (IntKind.i64.wrap ((↑i.val.fst : Int) + 1))],
 [KO.cells [V.int IntKind.i64 (seeT i.val.snd.fst (IntKind.i64.wrap n)), V.int IntKind.i64 (graV i.val.snd.fst i.val.snd.snd.fst (IntKind.i64.wrap n) ((IntKind.i64.wrap n_1).tmod 16) true)], KO.row 27 1 (ints IntKind.i64 i.val.snd.snd.snd)]) =
 (oneLI terms whos).st j ∧
 (oneLI terms whos).μ j < (oneLI terms whos).μ i) ∧
 ((!okB i.val.snd.fst i.val.snd.snd.fst (IntKind.i64.wrap n) ((IntKind.i64.wrap n_1).tmod 16) true) = false →
 InB (IntKind.i64.wrap n) 300 ∧
 ∃ e,
 (ints IntKind.i64 i.val.snd.snd.snd)[(IntKind.i64.wrap n).toNat]? = some e ∧
 ∃ n_2,
 e[0]? = some (Value.int IntKind.i64 n_2) ∧
 ((n_2 != 0) = true →
 InB (IntKind.i64.wrap n) 300 ∧
 ∃ e,
 (ints IntKind.i64 i.val.snd.snd.snd)[(IntKind.i64.wrap n).toNat]? = some e ∧
 ∃ n_3,
 e[0]? = some (Value.int IntKind.i64 n_3) ∧
 NonN (↑i.val.fst : Int) ∧
 ∃ e,
 (ints IntKind.u8 whos)[(↑i.val.fst : Int).toNat]? = some e ∧
 ∃ n_4,
 e[0]? = some (Value.int IntKind.u8 n_4) ∧
 ((n_3 != IntKind.i64.wrap (1 + (IntKind.i64.wrap n_4).tmod 16)) = true → False) ∧
 ((n_3 != IntKind.i64.wrap (1 + (IntKind.i64.wrap n_4).tmod 16)) = false →
 NonN (↑i.val.fst : Int) ∧
 ∃ e,
 (ints IntKind.u8 whos)[(↑i.val.fst : Int).toNat]? = some e ∧
 ∃ n_5,
 e[0]? = some (Value.int IntKind.u8 n_5) ∧
 ((graV i.val.snd.fst i.val.snd.snd.fst (IntKind.i64.wrap n) ((IntKind.i64.wrap n_1).tmod 16) true != (IntKind.i64.wrap n_5).tmod 16) = true → False) ∧
 ((graV i.val.snd.fst i.val.snd.snd.fst (IntKind.i64.wrap n) ((IntKind.i64.wrap n_1).tmod 16) true != (IntKind.i64.wrap n_5).tmod 16) = false →
 NonN (↑i.val.fst : Int) ∧
 ∃ e,
 (ints IntKind.u8 whos)[(↑i.val.fst : Int).toNat]? = some e ∧
 ∃ n_6,
 e[0]? = some (Value.int IntKind.u8 n_6) ∧
 InB (IntKind.i64.wrap n) 300 ∧
 (IntKind.i64.wrap n).toNat < (ints IntKind.i64 i.val.snd.snd.snd).length ∧
 ∃ j,
 ([V.isl 1 (ints IntKind.u8 terms), V.isl 1 (ints IntKind.u8 whos), V.ptr 0 0, V.ptr (0 + 1) 0, V.int IntKind.i64 (IntKind.i64.wrap ((↑i.val.fst : Int) + 1))],
 [KO.cells [V.int IntKind.i64 (seeT i.val.snd.fst (IntKind.i64.wrap n)), V.int IntKind.i64 (graV i.val.snd.fst i.val.snd.snd.fst (IntKind.i64.wrap n) ((IntKind.i64.wrap n_1).tmod 16) true)],
 KO.row 27 1 ((ints IntKind.i64 i.val.snd.snd.snd).set (IntKind.i64.wrap n).toNat [Value.int IntKind.i64 (IntKind.i64.wrap (1 + (IntKind.i64.wrap n_6).tmod 16))])]) =
 (oneLI terms whos).st j ∧
 (oneLI terms whos).μ j < (oneLI terms whos).μ i))) ∧
 ((n_2 != 0) = false →
 NonN (↑i.val.fst : Int) ∧
 ∃ e,
 (ints IntKind.u8 whos)[(↑i.val.fst : Int).toNat]? = some e ∧
 ∃ n_3,
 e[0]? = some (Value.int IntKind.u8 n_3) ∧
 ((graV i.val.snd.fst i.val.snd.snd.fst (IntKind.i64.wrap n) ((IntKind.i64.wrap n_1).tmod 16) true != (IntKind.i64.wrap n_3).tmod 16) = true → False) ∧
 ((graV i.val.snd.fst i.val.snd.snd.fst (IntKind.i64.wrap n) ((IntKind.i64.wrap n_1).tmod 16) true != (IntKind.i64.wrap n_3).tmod 16) = false →
 NonN (↑i.val.fst : Int) ∧
 ∃ e,
 (ints IntKind.u8 whos)[(↑i.val.fst : Int).toNat]? = some e ∧
 ∃ n_4,
 e[0]? = some (Value.int IntKind.u8 n_4) ∧
 InB (IntKind.i64.wrap n) 300 ∧
 (IntKind.i64.wrap n).toNat < (ints IntKind.i64 i.val.snd.snd.snd).length ∧
 ∃ j,
 ([V.isl 1 (ints IntKind.u8 terms), V.isl 1 (ints IntKind.u8 whos), V.ptr 0 0, V.ptr (0 + 1) 0, V.int IntKind.i64 (IntKind.i64.wrap ((↑i.val.fst : Int) + 1))],
 [KO.cells [V.int IntKind.i64 (seeT i.val.snd.fst (IntKind.i64.wrap n)), V.int IntKind.i64 (graV i.val.snd.fst i.val.snd.snd.fst (IntKind.i64.wrap n) ((IntKind.i64.wrap n_1).tmod 16) true)],
 KO.row 27 1 ((ints IntKind.i64 i.val.snd.snd.snd).set (IntKind.i64.wrap n).toNat [Value.int IntKind.i64 (IntKind.i64.wrap (1 + (IntKind.i64.wrap n_4).tmod 16))])]) =
 (oneLI terms whos).st j ∧
 (oneLI terms whos).μ j < (oneLI terms whos).μ i)))))) ∧
 (decide ((↑i.val.fst : Int) < (↑(ints IntKind.u8 terms).length : Int)) = false → (decide (IntKind.i64.wrap (i.val.snd.fst + 1) > i.val.snd.fst) = true → true = true) ∧ (decide (IntKind.i64.wrap (i.val.snd.fst + 1) > i.val.snd.fst) = false → False))))))
 ) : X2 terms whos 3 [.agg [.int .i64 t, .int .i64 v], .isl 1 (ints .u8 terms), .isl 1 (ints .u8 whos)] [] KT := Eq.mp (by kernel_rfl) h
theorem oneStart (terms whos : List Int) (t v : Int) (h : rightB t v = true) : ∃ i, ([V.isl 1 (ints .u8 terms), V.isl 1 (ints .u8 whos), V.ptr 0 0, V.ptr (0 + 1) 0, V.int IntKind.i64 0], [KO.cells [V.int IntKind.i64 t, V.int IntKind.i64 v], KO.row 27 (Value.int IntKind.i64 0).cells.toList.length (List.replicate 300 (Value.int IntKind.i64 0).cells.toList)]) = (oneLI terms whos).st i :=
  ⟨⟨(0, t, v, List.replicate 300 0), Nat.zero_le _, h, by simp, fun T g hg => .inl (by
    have := List.mem_of_getElem? hg
    exact (List.mem_replicate.1 this).2)⟩, by
    show _ = (_, [_, KO.row 27 1 (ints .i64 (List.replicate 300 0))])
    rw [← ints_rep]; rfl⟩
theorem oneNext (terms whos : List Int) {i : Nat} {a b : Int} {g : List Int} {hh} {j : Int} {a' b' : Int} {g' : List Int} (hj : j = i + 1) (h : oneInv terms.length (i + 1, a', b', g')) :
    ∃ x, ([V.isl 1 (ints .u8 terms), V.isl 1 (ints .u8 whos), V.ptr 0 0, V.ptr (0 + 1) 0, V.int IntKind.i64 j], [KO.cells [V.int IntKind.i64 a', V.int IntKind.i64 b'], KO.row 27 1 (ints .i64 g')]) = (oneLI terms whos).st x ∧ (oneLI terms whos).μ x < (oneLI terms whos).μ ⟨(i, a, b, g), hh⟩ := by
  refine ⟨⟨(i + 1, a', b', g'), h⟩, by subst hj; rfl, ?_⟩
  have := h.1
  simp only at this
  show terms.length - (i + 1) < terms.length - i
  omega
theorem lawOne (t v : Int) (terms whos : List Int) (hT : ∀ n ∈ terms, (Lit.int .u8 n).wf = true) (hW : ∀ n ∈ whos, (Lit.int .u8 n).wf = true) : X2 terms whos 3 [.agg [.int .i64 t, .int .i64 v], .isl 1 (ints .u8 terms), .isl 1 (ints .u8 whos)] [] KT := by
  refine vc3 t v terms whos ?_
  simp only [ex_ints, ex_cell, ints_len, ints_set]
  refine ⟨fun _ => trivial, fun h60 => ⟨fun _ => trivial, fun hlw => ⟨fun _ => trivial, fun h100 => ⟨fun _ => trivial, fun hr => ⟨oneStart _ _ _ _ (by simpa using hr), fun i => ?_⟩⟩⟩⟩⟩
  obtain ⟨⟨i, a, b, g⟩, h1, h2, h3, h4⟩ := i
  simp only at h1 h2 h3 h4 ⊢
  simp only [decide_eq_false_iff_not] at h60 hlw h100
  refine ⟨fun hi => ?_, fun hi => ?_⟩
  · simp only [decide_eq_true_eq] at hi
    obtain ⟨x, hx⟩ : ∃ x, terms[i]? = some x := ⟨terms[i], List.getElem?_eq_getElem (by omega)⟩
    obtain ⟨y, hy⟩ : ∃ y, whos[i]? = some y := ⟨whos[i], List.getElem?_eq_getElem (by omega)⟩
    have bx := bounds_u8 (hT x (List.mem_of_getElem? hx))
    have byy := bounds_u8 (hW y (List.mem_of_getElem? hy))
    have wx := IntWalk.i64_in x (by omega)
    have wy := IntWalk.i64_in y (by omega)
    have hm : y.tmod 16 = y % 16 := Int.tmod_eq_emod_of_nonneg (by omega)
    have w1 := IntWalk.i64_in (1 + y % 16) (by omega)
    obtain ⟨z, hz⟩ : ∃ z, g[x.toNat]? = some z := ⟨g[x.toNat], List.getElem?_eq_getElem (by omega)⟩
    have h5 := h4 _ _ hz
    simp only [Int.toNat_natCast, hx, hy, wx, wy, hm, w1, hz, Option.some.injEq, exists_eq_left', true_and]
    have hi1 : IntKind.i64.wrap ((i : Int) + 1) = i + 1 := IntWalk.i64_in _ (by omega)
    have hinb : InB x 300 := ⟨by omega, by omega⟩
    have hnn : NonN (i : Int) := by unfold NonN; omega
    have hr2 : rightB (seeT a x) (graV a b x (y % 16) true) = true := by grind [rightB, seeT, graV, okB, seeV]
    have hsee : a ≤ seeT a x := by grind [seeT]
    have hnx : okB a b x (y % 16) true = false → oneInv terms.length (i + 1, seeT a x, graV a b x (y % 16) true, g) := fun hok => by
      refine ⟨by simp only; omega, hr2, h3, fun T c hc => ?_⟩
      have := h4 T c hc
      simp only at *
      grind [rightB, seeT, graV, okB, seeV]
    have hnx2 : okB a b x (y % 16) true = true → oneInv terms.length (i + 1, seeT a x, graV a b x (y % 16) true, g.set x.toNat (1 + y % 16)) := fun hok => by
      refine ⟨by simp only; omega, hr2, by simp [h3], fun T c hc => ?_⟩
      simp only at *
      rw [List.getElem?_set] at hc
      split at hc
      · rename_i hT
        subst hT
        have : c = 1 + y % 16 := by simp [h3] at hc; omega
        right; right
        have e1 : ((x.toNat : Nat) : Int) = x := by omega
        rw [e1, this]
        grind [rightB, seeT, graV, okB, seeV]
      · have := h4 T c hc
        grind [rightB, seeT, graV, okB, seeV]
    have e1 : ((x.toNat : Nat) : Int) = x := by omega
    rw [e1] at h5
    have hz0 : okB a b x (y % 16) true = true → z = 0 ∨ z = 1 + y % 16 := fun hok => by grind [rightB, seeT, graV, okB, seeV]
    have hv : okB a b x (y % 16) true = true → graV a b x (y % 16) true = y % 16 := fun hok => by grind [graV]
    simp only [hr2, and_self]
    refine ⟨hnn, hnn, fun h => ?_, fun _ => ⟨fun h => by simp at h, fun _ => ⟨fun h => ?_, fun h => ?_⟩⟩⟩
    · simp only [decide_eq_true_eq] at h; omega
    · exact oneNext terms whos hi1 (hnx (by simpa using h))
    · have hok : okB a b x (y % 16) true = true := by simpa using h
      have h8 := hz0 hok
      have h9 := hv hok
      have h10 := oneNext terms whos (hh := ⟨h1, h2, h3, h4⟩) (a := a) (b := b) hi1 (hnx2 hok)
      have hlt : x.toNat < g.length := by omega
      simp only [h9] at h10 ⊢
      refine ⟨hinb, fun h => ⟨hinb, hnn, fun h => ?_, fun _ => ⟨hnn, fun h => ?_, fun _ => ⟨hnn, hinb, hlt, h10⟩⟩⟩, fun h => ⟨hnn, fun h => ?_, fun _ => ⟨hnn, hinb, hlt, h10⟩⟩⟩
      all_goals grind
  · simp only [decide_eq_false_iff_not] at hi
    have h2' := h2
    unfold rightB at h2'
    simp only [Bool.and_eq_true, decide_eq_true_eq] at h2'
    have : IntKind.i64.wrap (a + 1) = a + 1 := IntWalk.i64_in _ (by omega)
    rw [this]
    exact ⟨fun _ => trivial, fun h => by simp at h; omega⟩
end Go.Proofs.Ytlompcfnjfjaeaa
