import Derived.Test.YtlompcfnjfjaeaaSp
import Derived.KernelRfl
namespace Go.Proofs.Ytlompcfnjfjaeaa
open Vc Go
set_option linter.unusedVariables false
set_option maxRecDepth 100000
theorem vc4 (t v term who i j : Int) (n : Bool) (K : V → KB → Prop) (h :
 (t = t ∧ v = v) ∧
 ((rightB t v == rightB t v) = true →
 ((seeT t term == seeT t term && (graV t v term who n == graV t v term who n && true)) = true →
 ((okB t v term who n == okB t v term who n) = true →
 (t = t ∧ v = v) ∧
 (seeT t term = seeT t term ∧ graV t v term who n = graV t v term who n) ∧
 (seeT t term = seeT t term ∧ graV t v term who n = graV t v term who n) ∧
 (seeT t term = seeT t term ∧ graV t v term who n = graV t v term who n) ∧
 (seeT t term = seeT t term ∧ graV t v term who n = graV t v term who n) ∧
 ((seeT t term == seeT t term && (seeV t v term == seeV t v term && true)) = true →
 t = t ∧
 (seeT t term = seeT t term ∧ graV t v term who n = graV t v term who n) ∧
 (seeT t term = seeT t term ∧ graV t v term who n = graV t v term who n) ∧
 (decide (t > term) = true →
 ((newB t i term j == true) = true →
 t = t ∧
 (seeT t term = seeT t term ∧ graV t v term who n = graV t v term who n) ∧
 (seeT t term = seeT t term ∧ graV t v term who n = graV t v term who n) ∧
 K (V.sb true)
 [KO.cells [V.int IntKind.i64 t, V.int IntKind.i64 v],
 KO.cells
 [V.int IntKind.i64 (seeT t term),
 V.int IntKind.i64 (graV t v term who n)],
 KO.cells
 [V.int IntKind.i64 (seeT t term),
 V.int IntKind.i64 (graV t v term who n)]]) ∧
 ((newB t i term j == true) = false →
 K V.ff
 [KO.cells [V.int IntKind.i64 t, V.int IntKind.i64 v],
 KO.cells
 [V.int IntKind.i64 (seeT t term),
 V.int IntKind.i64 (graV t v term who n)],
 KO.cells
 [V.int IntKind.i64 (seeT t term),
 V.int IntKind.i64 (graV t v term who n)]])) ∧
 (decide (t > term) = false →
 ((t == term) = true →
 ((newB t i term j == decide (i ≥ j)) = true →
 t = t ∧
 t = t ∧
 (seeT t term = seeT t term ∧
 graV t v term who n = graV t v term who n) ∧
 (seeT t term = seeT t term ∧
 graV t v term who n = graV t v term who n) ∧
 K (V.sb true)
 [KO.cells [V.int IntKind.i64 t, V.int IntKind.i64 v],
 KO.cells
 [V.int IntKind.i64 (seeT t term),
 V.int IntKind.i64 (graV t v term who n)],
 KO.cells
 [V.int IntKind.i64 (seeT t term),
 V.int IntKind.i64 (graV t v term who n)]]) ∧
 ((newB t i term j == decide (i ≥ j)) = false →
 K V.ff
 [KO.cells [V.int IntKind.i64 t, V.int IntKind.i64 v],
 KO.cells
 [V.int IntKind.i64 (seeT t term),
 V.int IntKind.i64 (graV t v term who n)],
 KO.cells
 [V.int IntKind.i64 (seeT t term),
 V.int IntKind.i64 (graV t v term who n)]])) ∧
 ((t == term) = false →
 ((newB t i term j == false) = true →
 t = t ∧
 t = t ∧
 (seeT t term = seeT t term ∧
 graV t v term who n = graV t v term who n) ∧
 (seeT t term = seeT t term ∧
 graV t v term who n = graV t v term who n) ∧
 K (V.sb true)
 [KO.cells [V.int IntKind.i64 t, V.int IntKind.i64 v],
 KO.cells
 [V.int IntKind.i64 (seeT t term),
 V.int IntKind.i64 (graV t v term who n)],
 KO.cells
 [V.int IntKind.i64 (seeT t term),
 V.int IntKind.i64 (graV t v term who n)]]) ∧
 ((newB t i term j == false) = false →
 K V.ff
 [KO.cells [V.int IntKind.i64 t, V.int IntKind.i64 v],
 KO.cells
 [V.int IntKind.i64 (seeT t term),
 V.int IntKind.i64 (graV t v term who n)],
 KO.cells
 [V.int IntKind.i64 (seeT t term),
 V.int IntKind.i64 (graV t v term who n)]])))) ∧
 ((seeT t term == seeT t term && (seeV t v term == seeV t v term && true)) = false →
 K V.ff
 [KO.cells [V.int IntKind.i64 t, V.int IntKind.i64 v],
 KO.cells [V.int IntKind.i64 (seeT t term), V.int IntKind.i64 (graV t v term who n)],
 KO.cells [V.int IntKind.i64 (seeT t term), V.int IntKind.i64 (graV t v term who n)]])) ∧
 ((okB t v term who n == okB t v term who n) = false →
 K V.ff
 [KO.cells [V.int IntKind.i64 t, V.int IntKind.i64 v],
 KO.cells [V.int IntKind.i64 (seeT t term), V.int IntKind.i64 (graV t v term who n)],
 KO.cells [V.int IntKind.i64 (seeT t term), V.int IntKind.i64 (graV t v term who n)]])) ∧
 ((seeT t term == seeT t term && (graV t v term who n == graV t v term who n && true)) = false →
 K V.ff
 [KO.cells [V.int IntKind.i64 t, V.int IntKind.i64 v],
 KO.cells [V.int IntKind.i64 (seeT t term), V.int IntKind.i64 (graV t v term who n)],
 KO.cells [V.int IntKind.i64 (seeT t term), V.int IntKind.i64 (graV t v term who n)]])) ∧
 ((rightB t v == rightB t v) = false →
 K V.ff
 [KO.cells [V.int IntKind.i64 t, V.int IntKind.i64 v],
 KO.cells [V.int IntKind.i64 (seeT t term), V.int IntKind.i64 (graV t v term who n)],
 KO.cells [V.int IntKind.i64 (seeT t term), V.int IntKind.i64 (graV t v term who n)]])
 ) : X1 4 [.agg [.int .i64 t, .int .i64 v], .int .i64 term, .int .i64 who, .sb n, .int .i64 i, .int .i64 j] [] K := Eq.mp (by kernel_rfl) h
theorem vc5 (a0 a1 b0 b1 c0 c1 : Int) (K : V → KB → Prop) (h :
 InB 0 2 ∧
 InB 1 2 ∧
 InB 0 2 ∧
 InB 1 2 ∧
 InB 0 2 ∧
 InB 1 2 ∧
 InB 0 2 ∧
 InB 1 2 ∧
 a1 = a1 ∧
 a0 = a0 ∧
 b1 = b1 ∧
 b0 = b0 ∧
 ((!newB a0 a1 b0 b1) = true →
 ((!newB b0 b1 a0 a1) = true →
 K V.ff
 [KO.cells [V.int IntKind.i64 a0, V.int IntKind.i64 a1],
 KO.cells [V.int IntKind.i64 b0, V.int IntKind.i64 b1],
 KO.cells [V.int IntKind.i64 c0, V.int IntKind.i64 c1]]) ∧
 ((!newB b0 b1 a0 a1) = false →
 (newB a0 a1 b0 b1 = true →
 ((!newB b0 b1 a0 a1 == (a0 == b0 && (a1 == b1 && true))) = true →
 K V.ff
 [KO.cells [V.int IntKind.i64 a0, V.int IntKind.i64 a1],
 KO.cells [V.int IntKind.i64 b0, V.int IntKind.i64 b1],
 KO.cells [V.int IntKind.i64 c0, V.int IntKind.i64 c1]]) ∧
 ((!newB b0 b1 a0 a1 == (a0 == b0 && (a1 == b1 && true))) = false →
 ((!newB a0 a1 b0 b1) = true →
 K (V.sb true)
 [KO.cells [V.int IntKind.i64 a0, V.int IntKind.i64 a1],
 KO.cells [V.int IntKind.i64 b0, V.int IntKind.i64 b1],
 KO.cells [V.int IntKind.i64 c0, V.int IntKind.i64 c1]]) ∧
 ((!newB a0 a1 b0 b1) = false →
 InB 0 2 ∧
 InB 1 2 ∧
 InB 0 2 ∧
 InB 1 2 ∧
 ((!newB b0 b1 c0 c1) = true →
 K (V.sb true)
 [KO.cells [V.int IntKind.i64 a0, V.int IntKind.i64 a1],
 KO.cells [V.int IntKind.i64 b0, V.int IntKind.i64 b1],
 KO.cells [V.int IntKind.i64 c0, V.int IntKind.i64 c1]]) ∧
 ((!newB b0 b1 c0 c1) = false →
 InB 0 2 ∧
 InB 1 2 ∧
 InB 0 2 ∧
 InB 1 2 ∧
 (newB a0 a1 c0 c1 = true →
 K (V.sb true)
 [KO.cells
 [V.int IntKind.i64 a0, V.int IntKind.i64 a1],
 KO.cells
 [V.int IntKind.i64 b0, V.int IntKind.i64 b1],
 KO.cells
 [V.int IntKind.i64 c0,
 V.int IntKind.i64 c1]]) ∧
 (newB a0 a1 c0 c1 = false →
 K V.ff
 [KO.cells
 [V.int IntKind.i64 a0, V.int IntKind.i64 a1],
 KO.cells
 [V.int IntKind.i64 b0, V.int IntKind.i64 b1],
 KO.cells
 [V.int IntKind.i64 c0,
 V.int IntKind.i64 c1]]))))) ∧
 (newB a0 a1 b0 b1 = false →
 ((!false == (a0 == b0 && (a1 == b1 && true))) = true →
 K V.ff
 [KO.cells [V.int IntKind.i64 a0, V.int IntKind.i64 a1],
 KO.cells [V.int IntKind.i64 b0, V.int IntKind.i64 b1],
 KO.cells [V.int IntKind.i64 c0, V.int IntKind.i64 c1]]) ∧
 ((!false == (a0 == b0 && (a1 == b1 && true))) = false →
 ((!newB a0 a1 b0 b1) = true →
 K (V.sb true)
 [KO.cells [V.int IntKind.i64 a0, V.int IntKind.i64 a1],
 KO.cells [V.int IntKind.i64 b0, V.int IntKind.i64 b1],
 KO.cells [V.int IntKind.i64 c0, V.int IntKind.i64 c1]]) ∧
 ((!newB a0 a1 b0 b1) = false →
 InB 0 2 ∧
 InB 1 2 ∧
 InB 0 2 ∧
 InB 1 2 ∧
 ((!newB b0 b1 c0 c1) = true →
 K (V.sb true)
 [KO.cells [V.int IntKind.i64 a0, V.int IntKind.i64 a1],
 KO.cells [V.int IntKind.i64 b0, V.int IntKind.i64 b1],
 KO.cells [V.int IntKind.i64 c0, V.int IntKind.i64 c1]]) ∧
 ((!newB b0 b1 c0 c1) = false →
 InB 0 2 ∧
 InB 1 2 ∧
 InB 0 2 ∧
 InB 1 2 ∧
 (newB a0 a1 c0 c1 = true →
 K (V.sb true)
 [KO.cells
 [V.int IntKind.i64 a0, V.int IntKind.i64 a1],
 KO.cells
 [V.int IntKind.i64 b0, V.int IntKind.i64 b1],
 KO.cells
 [V.int IntKind.i64 c0,
 V.int IntKind.i64 c1]]) ∧
 (newB a0 a1 c0 c1 = false →
 K V.ff
 [KO.cells
 [V.int IntKind.i64 a0, V.int IntKind.i64 a1],
 KO.cells
 [V.int IntKind.i64 b0, V.int IntKind.i64 b1],
 KO.cells
 [V.int IntKind.i64 c0,
 V.int IntKind.i64 c1]]))))))) ∧
 ((!newB a0 a1 b0 b1) = false →
 (newB a0 a1 b0 b1 = true →
 ((!newB b0 b1 a0 a1 == (a0 == b0 && (a1 == b1 && true))) = true →
 K V.ff
 [KO.cells [V.int IntKind.i64 a0, V.int IntKind.i64 a1],
 KO.cells [V.int IntKind.i64 b0, V.int IntKind.i64 b1],
 KO.cells [V.int IntKind.i64 c0, V.int IntKind.i64 c1]]) ∧
 ((!newB b0 b1 a0 a1 == (a0 == b0 && (a1 == b1 && true))) = false →
 ((!newB a0 a1 b0 b1) = true →
 K (V.sb true)
 [KO.cells [V.int IntKind.i64 a0, V.int IntKind.i64 a1],
 KO.cells [V.int IntKind.i64 b0, V.int IntKind.i64 b1],
 KO.cells [V.int IntKind.i64 c0, V.int IntKind.i64 c1]]) ∧
 ((!newB a0 a1 b0 b1) = false →
 InB 0 2 ∧
 InB 1 2 ∧
 InB 0 2 ∧
 InB 1 2 ∧
 ((!newB b0 b1 c0 c1) = true →
 K (V.sb true)
 [KO.cells [V.int IntKind.i64 a0, V.int IntKind.i64 a1],
 KO.cells [V.int IntKind.i64 b0, V.int IntKind.i64 b1],
 KO.cells [V.int IntKind.i64 c0, V.int IntKind.i64 c1]]) ∧
 ((!newB b0 b1 c0 c1) = false →
 InB 0 2 ∧
 InB 1 2 ∧
 InB 0 2 ∧
 InB 1 2 ∧
 (newB a0 a1 c0 c1 = true →
 K (V.sb true)
 [KO.cells
 [V.int IntKind.i64 a0, V.int IntKind.i64 a1],
 KO.cells
 [V.int IntKind.i64 b0, V.int IntKind.i64 b1],
 KO.cells
 [V.int IntKind.i64 c0, V.int IntKind.i64 c1]]) ∧
 (newB a0 a1 c0 c1 = false →
 K V.ff
 [KO.cells
 [V.int IntKind.i64 a0, V.int IntKind.i64 a1],
 KO.cells
 [V.int IntKind.i64 b0, V.int IntKind.i64 b1],
 KO.cells
 [V.int IntKind.i64 c0,
 V.int IntKind.i64 c1]]))))) ∧
 (newB a0 a1 b0 b1 = false →
 ((!false == (a0 == b0 && (a1 == b1 && true))) = true →
 K V.ff
 [KO.cells [V.int IntKind.i64 a0, V.int IntKind.i64 a1],
 KO.cells [V.int IntKind.i64 b0, V.int IntKind.i64 b1],
 KO.cells [V.int IntKind.i64 c0, V.int IntKind.i64 c1]]) ∧
 ((!false == (a0 == b0 && (a1 == b1 && true))) = false →
 ((!newB a0 a1 b0 b1) = true →
 K (V.sb true)
 [KO.cells [V.int IntKind.i64 a0, V.int IntKind.i64 a1],
 KO.cells [V.int IntKind.i64 b0, V.int IntKind.i64 b1],
 KO.cells [V.int IntKind.i64 c0, V.int IntKind.i64 c1]]) ∧
 ((!newB a0 a1 b0 b1) = false →
 InB 0 2 ∧
 InB 1 2 ∧
 InB 0 2 ∧
 InB 1 2 ∧
 ((!newB b0 b1 c0 c1) = true →
 K (V.sb true)
 [KO.cells [V.int IntKind.i64 a0, V.int IntKind.i64 a1],
 KO.cells [V.int IntKind.i64 b0, V.int IntKind.i64 b1],
 KO.cells [V.int IntKind.i64 c0, V.int IntKind.i64 c1]]) ∧
 ((!newB b0 b1 c0 c1) = false →
 InB 0 2 ∧
 InB 1 2 ∧
 InB 0 2 ∧
 InB 1 2 ∧
 (newB a0 a1 c0 c1 = true →
 K (V.sb true)
 [KO.cells
 [V.int IntKind.i64 a0, V.int IntKind.i64 a1],
 KO.cells
 [V.int IntKind.i64 b0, V.int IntKind.i64 b1],
 KO.cells
 [V.int IntKind.i64 c0, V.int IntKind.i64 c1]]) ∧
 (newB a0 a1 c0 c1 = false →
 K V.ff
 [KO.cells
 [V.int IntKind.i64 a0, V.int IntKind.i64 a1],
 KO.cells
 [V.int IntKind.i64 b0, V.int IntKind.i64 b1],
 KO.cells
 [V.int IntKind.i64 c0,
 V.int IntKind.i64 c1]]))))))
 ) : X1 5 [.agg [.int .i64 a0, .int .i64 a1], .agg [.int .i64 b0, .int .i64 b1], .agg [.int .i64 c0, .int .i64 c1]] [] K := Eq.mp (by kernel_rfl) h
def KT : V → KB → Prop := fun r _ => isT r
theorem lawTells (t v term who : Int) (n : Bool) (i j : Int) : X1 4 [.agg [.int .i64 t, .int .i64 v], .int .i64 term, .int .i64 who, .sb n, .int .i64 i, .int .i64 j] [] KT := by
  refine vc4 t v term who i j n KT ?_
  simp only [KT, isT]
  repeat' first | apply And.intro | intro
  all_goals grind [newB]
theorem lawNew (a0 a1 b0 b1 c0 c1 : Int) : X1 5 [.agg [.int .i64 a0, .int .i64 a1], .agg [.int .i64 b0, .int .i64 b1], .agg [.int .i64 c0, .int .i64 c1]] [] KT := by
  refine vc5 a0 a1 b0 b1 c0 c1 KT ?_
  simp only [KT, isT, InB]
  repeat' first | apply And.intro | intro
  all_goals grind [newB]
end Go.Proofs.Ytlompcfnjfjaeaa
