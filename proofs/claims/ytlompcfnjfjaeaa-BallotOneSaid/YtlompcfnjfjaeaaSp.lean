import Derived.Test.YtlompcfnjfjaeaaBal
import Derived.KernelRfl
namespace Go.Proofs.Ytlompcfnjfjaeaa
open Vc Go
set_option linter.unusedVariables false
set_option maxRecDepth 100000
theorem vc7 (t v : Int) (K : V → KB → Prop) (h :
 (decide (t ≥ 0) = true →
 (decide (t ≤ 1099511627776) = true →
 ((v == -1) = true → K (V.sb true) []) ∧
 ((v == -1) = false →
 (decide (v ≥ 0) = true → K (V.sb (decide (v ≤ 15))) []) ∧ (decide (v ≥ 0) = false → K (V.sb false) []))) ∧
 (decide (t ≤ 1099511627776) = false → K (V.sb false) [])) ∧
 (decide (t ≥ 0) = false → K (V.sb false) [])
 ) : runSpec Try.prog X0 (noT 7) 7 [.agg [.int .i64 t, .int .i64 v]] [] K := Eq.mp (by kernel_rfl) h
theorem vc12 (t v : Int) (K : V → KB → Prop) (h :
 (decide (t ≥ 0) = true →
 (decide (t ≤ 1099511627776) = true →
 (decide (v ≥ -1) = true → K (V.sb (decide (v ≤ 15))) []) ∧ (decide (v ≥ -1) = false → K (V.sb false) [])) ∧
 (decide (t ≤ 1099511627776) = false → K (V.sb false) [])) ∧
 (decide (t ≥ 0) = false → K (V.sb false) [])
 ) : runSpec Try.prog X0 (noT 12) 12 [.agg [.int .i64 t, .int .i64 v]] [] K := Eq.mp (by kernel_rfl) h
theorem vc8  (K : V → KB → Prop) (h :
 K (V.sb true) []
 ) : runSpec Try.prog X0 (noT 8) 8 [] [] K := Eq.mp (by kernel_rfl) h
theorem vc9 (t v term who : Int) (n : Bool) (K : V → KB → Prop) (h :
 (decide (term > t) = true →
 ((term != term) = true → K (V.tup [V.agg [V.int IntKind.i64 term, V.int IntKind.i64 (-1)], V.sb false]) []) ∧
 ((term != term) = false →
 ((!n) = true → K (V.tup [V.agg [V.int IntKind.i64 term, V.int IntKind.i64 (-1)], V.sb false]) []) ∧
 ((!n) = false →
 (decide (who ≥ 0) = true →
 ((!decide (who ≤ 15)) = true →
 K (V.tup [V.agg [V.int IntKind.i64 term, V.int IntKind.i64 (-1)], V.sb false]) []) ∧
 ((!decide (who ≤ 15)) = false →
 K (V.tup [V.agg [V.int IntKind.i64 term, V.int IntKind.i64 who], V.sb true]) [])) ∧
 (decide (who ≥ 0) = false →
 K (V.tup [V.agg [V.int IntKind.i64 term, V.int IntKind.i64 (-1)], V.sb false]) [])))) ∧
 (decide (term > t) = false →
 ((t != term) = true → K (V.tup [V.agg [V.int IntKind.i64 t, V.int IntKind.i64 v], V.sb false]) []) ∧
 ((t != term) = false →
 ((!n) = true → K (V.tup [V.agg [V.int IntKind.i64 t, V.int IntKind.i64 v], V.sb false]) []) ∧
 ((!n) = false →
 (decide (who ≥ 0) = true →
 ((!decide (who ≤ 15)) = true →
 K (V.tup [V.agg [V.int IntKind.i64 t, V.int IntKind.i64 v], V.sb false]) []) ∧
 ((!decide (who ≤ 15)) = false →
 ((v != -1) = true →
 ((v != who) = true →
 K (V.tup [V.agg [V.int IntKind.i64 t, V.int IntKind.i64 v], V.sb false]) []) ∧
 ((v != who) = false →
 K (V.tup [V.agg [V.int IntKind.i64 t, V.int IntKind.i64 who], V.sb true]) [])) ∧
 ((v != -1) = false →
 K (V.tup [V.agg [V.int IntKind.i64 t, V.int IntKind.i64 who], V.sb true]) []))) ∧
 (decide (who ≥ 0) = false →
 K (V.tup [V.agg [V.int IntKind.i64 t, V.int IntKind.i64 v], V.sb false]) []))))
 ) : runSpec Try.prog X0 (noT 9) 9 [.agg [.int .i64 t, .int .i64 v], .int .i64 term, .int .i64 who, .sb n] [] K := Eq.mp (by kernel_rfl) h
theorem vc11 (t v term who : Int) (n : Bool) (K : V → KB → Prop) (h :
 (decide (term > t) = true →
 ((term == term) = true →
 (n = true →
 (decide (who ≥ 0) = true →
 (decide (who ≤ 15) = true →
 K (V.tup [V.agg [V.int IntKind.i64 term, V.int IntKind.i64 who], V.sb true]) []) ∧
 (decide (who ≤ 15) = false →
 K (V.tup [V.agg [V.int IntKind.i64 term, V.int IntKind.i64 (-1)], V.sb false]) [])) ∧
 (decide (who ≥ 0) = false →
 K (V.tup [V.agg [V.int IntKind.i64 term, V.int IntKind.i64 (-1)], V.sb false]) [])) ∧
 (n = false → K (V.tup [V.agg [V.int IntKind.i64 term, V.int IntKind.i64 (-1)], V.sb false]) [])) ∧
 ((term == term) = false → K (V.tup [V.agg [V.int IntKind.i64 term, V.int IntKind.i64 (-1)], V.sb false]) [])) ∧
 (decide (term > t) = false →
 ((t == term) = true →
 (n = true →
 (decide (who ≥ 0) = true →
 (decide (who ≤ 15) = true →
 ((v == -1) = true → K (V.tup [V.agg [V.int IntKind.i64 t, V.int IntKind.i64 who], V.sb true]) []) ∧
 ((v == -1) = false →
 ((v == who) = true →
 K (V.tup [V.agg [V.int IntKind.i64 t, V.int IntKind.i64 who], V.sb (v == who)]) []) ∧
 ((v == who) = false →
 K (V.tup [V.agg [V.int IntKind.i64 t, V.int IntKind.i64 v], V.sb (v == who)]) []))) ∧
 (decide (who ≤ 15) = false →
 K (V.tup [V.agg [V.int IntKind.i64 t, V.int IntKind.i64 v], V.sb false]) [])) ∧
 (decide (who ≥ 0) = false →
 K (V.tup [V.agg [V.int IntKind.i64 t, V.int IntKind.i64 v], V.sb false]) [])) ∧
 (n = false → K (V.tup [V.agg [V.int IntKind.i64 t, V.int IntKind.i64 v], V.sb false]) [])) ∧
 ((t == term) = false → K (V.tup [V.agg [V.int IntKind.i64 t, V.int IntKind.i64 v], V.sb false]) []))
 ) : runSpec Try.prog X0 (noT 11) 11 [.agg [.int .i64 t, .int .i64 v], .int .i64 term, .int .i64 who, .sb n] [] K := Eq.mp (by kernel_rfl) h
theorem vc13 (t v term : Int) (K : V → KB → Prop) (h :
 (decide (term > t) = true → K (V.agg [V.int IntKind.i64 term, V.int IntKind.i64 (-1)]) []) ∧
 (decide (term > t) = false → K (V.agg [V.int IntKind.i64 t, V.int IntKind.i64 v]) [])
 ) : runSpec Try.prog X0 (noT 13) 13 [.agg [.int .i64 t, .int .i64 v], .int .i64 term] [] K := Eq.mp (by kernel_rfl) h
theorem vc14 (t v term : Int) (K : V → KB → Prop) (h :
 (decide (term > t) = true → K (V.agg [V.int IntKind.i64 term, V.int IntKind.i64 (-1)]) []) ∧
 (decide (term > t) = false → K (V.agg [V.int IntKind.i64 t, V.int IntKind.i64 v]) [])
 ) : runSpec Try.prog X0 (noT 14) 14 [.agg [.int .i64 t, .int .i64 v], .int .i64 term] [] K := Eq.mp (by kernel_rfl) h
theorem vc15 (a b c d : Int) (K : V → KB → Prop) (h :
 (decide (a > c) = true → K (V.sb true) []) ∧
 (decide (a > c) = false → ((a == c) = true → K (V.sb (decide (b ≥ d))) []) ∧ ((a == c) = false → K (V.sb false) []))
 ) : runSpec Try.prog X0 (noT 15) 15 [.int .i64 a, .int .i64 b, .int .i64 c, .int .i64 d] [] K := Eq.mp (by kernel_rfl) h

theorem mixed : Try.prog.follows .mixedOrders = true := by kernel_rfl
theorem noS_ok : AllOk Try.prog noS := fun f k h => by cases h
theorem X0_ok : CallOk Try.prog X0 := callS_ok mixed noS_ok noT 10

theorem right_leaf {K : V → KB → Prop} {t v : Int} (h : K (.sb (rightB t v)) []) {b : Bool} (hb : b = rightB t v) : K (.sb b) [] := hb ▸ h
theorem ok7 : SpecOk Try.prog 7 S7 := specOk_of X0_ok mixed (noT 7) (fun args kb K h => by
  unfold S7 at h; split at h <;> try exact h.elim
  rename_i t v
  refine vc7 t v K ?_
  repeat' first | apply And.intro | intro
  all_goals (refine right_leaf h ?_; simp_all [rightB]; try omega))
theorem ok12 : SpecOk Try.prog 12 S7 := specOk_of X0_ok mixed (noT 12) (fun args kb K h => by
  unfold S7 at h; split at h <;> try exact h.elim
  rename_i t v
  refine vc12 t v K ?_
  repeat' first | apply And.intro | intro
  all_goals (refine right_leaf h ?_; simp_all [rightB]; try omega))
theorem ok8 : SpecOk Try.prog 8 S8 := specOk_of X0_ok mixed (noT 8) (fun args kb K h => by
  unfold S8 at h; split at h <;> try exact h.elim
  exact vc8 K h)
theorem gra_leaf {K : V → KB → Prop} {t v term who : Int} {n : Bool} (h : K (.tup [.agg [.int .i64 (seeT t term), .int .i64 (graV t v term who n)], .sb (okB t v term who n)]) []) {x y : Int} {b : Bool}
    (hx : x = seeT t term ∧ y = graV t v term who n ∧ b = okB t v term who n) : K (.tup [.agg [.int .i64 x, .int .i64 y], .sb b]) [] := by obtain ⟨rfl, rfl, rfl⟩ := hx; exact h
theorem ok9 : SpecOk Try.prog 9 S9 := specOk_of X0_ok mixed (noT 9) (fun args kb K h => by
  unfold S9 at h; split at h <;> try exact h.elim
  rename_i t v term who n
  refine vc9 t v term who n K ?_
  repeat' first | apply And.intro | intro
  all_goals (refine gra_leaf h ?_; simp_all [seeT, seeV, okB, graV]; try omega))
theorem ok11 : SpecOk Try.prog 11 S9 := specOk_of X0_ok mixed (noT 11) (fun args kb K h => by
  unfold S9 at h; split at h <;> try exact h.elim
  rename_i t v term who n
  refine vc11 t v term who n K ?_
  repeat' first | apply And.intro | intro
  all_goals (refine gra_leaf h ?_; simp_all [seeT, seeV, okB, graV]; try omega))
theorem see_leaf {K : V → KB → Prop} {t v term : Int} (h : K (.agg [.int .i64 (seeT t term), .int .i64 (seeV t v term)]) []) {x y : Int}
    (hx : x = seeT t term ∧ y = seeV t v term) : K (.agg [.int .i64 x, .int .i64 y]) [] := by obtain ⟨rfl, rfl⟩ := hx; exact h
theorem ok13 : SpecOk Try.prog 13 S13 := specOk_of X0_ok mixed (noT 13) (fun args kb K h => by
  unfold S13 at h; split at h <;> try exact h.elim
  rename_i t v term
  refine vc13 t v term K ?_
  repeat' first | apply And.intro | intro
  all_goals (refine see_leaf h ?_; simp_all [seeT, seeV]; try omega))
theorem ok14 : SpecOk Try.prog 14 S13 := specOk_of X0_ok mixed (noT 14) (fun args kb K h => by
  unfold S13 at h; split at h <;> try exact h.elim
  rename_i t v term
  refine vc14 t v term K ?_
  repeat' first | apply And.intro | intro
  all_goals (refine see_leaf h ?_; simp_all [seeT, seeV]; try omega))
theorem new_leaf {K : V → KB → Prop} {a b c d : Int} (h : K (.sb (newB a b c d)) []) {x : Bool} (hb : x = newB a b c d) : K (.sb x) [] := hb ▸ h
theorem ok15 : SpecOk Try.prog 15 S15 := specOk_of X0_ok mixed (noT 15) (fun args kb K h => by
  unfold S15 at h; split at h <;> try exact h.elim
  rename_i a b c d
  refine vc15 a b c d K ?_
  repeat' first | apply And.intro | intro
  all_goals (refine new_leaf h ?_; simp_all [newB]; try omega))
theorem ballotS_ok : AllOk Try.prog ballotS := fun f k h => by
  unfold ballotS at h
  split at h <;> cases h
  · exact ok7
  · exact ok8
  · exact ok9
  · exact ok11
  · exact ok12
  · exact ok13
  · exact ok14
  · exact ok15
theorem X1_ok : CallOk Try.prog X1 := callS_ok mixed ballotS_ok noT 10
end Go.Proofs.Ytlompcfnjfjaeaa
