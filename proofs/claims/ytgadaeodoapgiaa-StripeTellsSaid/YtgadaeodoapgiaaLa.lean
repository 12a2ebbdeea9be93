import Derived.Test.YtgadaeodoapgiaaRef
import Derived.KernelRfl
namespace Go.Proofs.Ytgadaeodoapgiaa
open Vc Go
set_option linter.unusedVariables false
set_option maxRecDepth 100000
def onceInv (f m : Int) (s : Nat × Int) : Prop := s.1 ≤ pcN f m ∧ s.2 = min (f + m) (pcS f s.1) - f
def onceLI (f m : Int) : LI where
  α := {s : Nat × Int // onceInv f m s}
  live := [5, 6, 7, 8, 9, 10]
  st s := ([.int .i64 f, .int .i64 m, .sl 0 0 (pcN f m), .int .i64 0, .int .i64 s.1.2, .int .i64 s.1.1], [.row 29 4 (pcs f m (pcN f m))])
  μ s := pcN f m - s.1.1
def tellLI (b f m : Int) : LI where
  α := {i : Nat // i ≤ pcN f m}
  live := [7, 11, 12]
  st i := ([.sl 0 0 (pcN f m), .sl 1 0 (pcN f m), .int .i64 i.1], [.row 29 4 (pcs f m (pcN f m)), .row 29 4 (pcs f m (pcN f m))])
  μ i := pcN f m - i.1
def lawT (b f m : Int) : FuncId → Nat → Option LI
  | 3, 7 => some (onceLI f m)
  | 4, 7 => some (tellLI b f m)
  | _, _ => none
noncomputable def XL (b f m : Int) : CallT := callS Try.prog stripeS (lawT b f m) 10
theorem vc3 (f m f0 m0 : Int)  (h :
 (rightR 512 ((IntKind.i64.wrap f0).tmod 512) (IntKind.i64.wrap (1 + (IntKind.i64.wrap m0).tmod 512)) = true →
 (decide (IntKind.i64.wrap ((IntKind.i64.wrap f0).tmod 512 + IntKind.i64.wrap (1 + (IntKind.i64.wrap m0).tmod 512)) > 512) = true → (false = true → true = true) ∧ (false = false → False)) ∧
 (decide (IntKind.i64.wrap ((IntKind.i64.wrap f0).tmod 512 + IntKind.i64.wrap (1 + (IntKind.i64.wrap m0).tmod 512)) > 512) = false →
 (∃ i,
 ([V.int IntKind.i64 ((IntKind.i64.wrap f0).tmod 512), V.int IntKind.i64 (IntKind.i64.wrap (1 + (IntKind.i64.wrap m0).tmod 512)), V.sl 0 0 (pcN ((IntKind.i64.wrap f0).tmod 512) (IntKind.i64.wrap (1 + (IntKind.i64.wrap m0).tmod 512))), V.int IntKind.i64 0, V.int IntKind.i64 0, V.int IntKind.i64 0],
 [KO.row 29 4 (pcs ((IntKind.i64.wrap f0).tmod 512) (IntKind.i64.wrap (1 + (IntKind.i64.wrap m0).tmod 512)) (pcN ((IntKind.i64.wrap f0).tmod 512) (IntKind.i64.wrap (1 + (IntKind.i64.wrap m0).tmod 512))))]) =
 (onceLI f m).st i) ∧
 ∀ (i : (onceLI f m).α),
 (decide ((↑i.val.fst : Int) < (↑(pcN f m - 0) : Int)) = true →
 InB (↑i.val.fst : Int) (pcN f m - 0) ∧
 ∃ e,
 (pcs f m (pcN f m))[0 + (↑i.val.fst : Int).toNat]? = some e ∧
 ∃ n,
 e[0]? = some (Value.int IntKind.i64 n) ∧
 ∃ n_1,
 e[1]? = some (Value.int IntKind.i64 n_1) ∧
 ∃ n_2,
 e[2]? = some (Value.int IntKind.i64 n_2) ∧
 ∃ n_3,
 e[3]? = some (Value.int IntKind.i64 n_3) ∧
 ((n_3 != i.val.snd) = true → False) ∧
 ((n_3 != i.val.snd) = false →
 (decide (n_2 < 1) = true → False) ∧
 (decide (n_2 < 1) = false →
 (decide (n_1 < 0) = true → False) ∧
 (decide (n_1 < 0) = false →
 (decide (IntKind.i64.wrap (n_1 + n_2) > 8) = true → False) ∧
 (decide (IntKind.i64.wrap (n_1 + n_2) > 8) = false →
 ((IntKind.i64.wrap (IntKind.i64.wrap (8 * n) + n_1) != IntKind.i64.wrap (f + i.val.snd)) = true → False) ∧
 ((IntKind.i64.wrap (IntKind.i64.wrap (8 * n) + n_1) != IntKind.i64.wrap (f + i.val.snd)) = false →
 ∃ j, ([V.int IntKind.i64 f, V.int IntKind.i64 m, V.sl 0 0 (pcN f m), V.int IntKind.i64 0, V.int IntKind.i64 (IntKind.i64.wrap (i.val.snd + n_2)), V.int IntKind.i64 (IntKind.i64.wrap ((↑i.val.fst : Int) + 1))], [KO.row 29 4 (pcs f m (pcN f m))]) = (onceLI f m).st j ∧ (onceLI f m).μ j < (onceLI f m).μ i)))))) ∧
 (decide ((↑i.val.fst : Int) < (↑(pcN f m - 0) : Int)) = false → (true = true → ((i.val.snd == m) = true → true = true) ∧ ((i.val.snd == m) = false → False)) ∧ (true = false → False)))) ∧
 (rightR 512 ((IntKind.i64.wrap f0).tmod 512) (IntKind.i64.wrap (1 + (IntKind.i64.wrap m0).tmod 512)) = false →
 (decide (IntKind.i64.wrap ((IntKind.i64.wrap f0).tmod 512 + IntKind.i64.wrap (1 + (IntKind.i64.wrap m0).tmod 512)) > 512) = true → (true = true → true = true) ∧ (true = false → False)) ∧
 (decide (IntKind.i64.wrap ((IntKind.i64.wrap f0).tmod 512 + IntKind.i64.wrap (1 + (IntKind.i64.wrap m0).tmod 512)) > 512) = false →
 (∃ i, ([V.int IntKind.i64 ((IntKind.i64.wrap f0).tmod 512), V.int IntKind.i64 (IntKind.i64.wrap (1 + (IntKind.i64.wrap m0).tmod 512)), V.any (Value.slice none 0 0), V.int IntKind.i64 5, V.int IntKind.i64 0, V.int IntKind.i64 0], []) = (onceLI f m).st i) ∧
 ∀ (i : (onceLI f m).α),
 (decide ((↑i.val.fst : Int) < (↑(pcN f m - 0) : Int)) = true →
 InB (↑i.val.fst : Int) (pcN f m - 0) ∧
 ∃ e,
 (pcs f m (pcN f m))[0 + (↑i.val.fst : Int).toNat]? = some e ∧
 ∃ n,
 e[0]? = some (Value.int IntKind.i64 n) ∧
 ∃ n_1,
 e[1]? = some (Value.int IntKind.i64 n_1) ∧
 ∃ n_2,
 e[2]? = some (Value.int IntKind.i64 n_2) ∧
 ∃ n_3,
 e[3]? = some (Value.int IntKind.i64 n_3) ∧
 ((n_3 != i.val.snd) = true → False) ∧
 ((n_3 != i.val.snd) = false →
 (decide (n_2 < 1) = true → False) ∧
 (decide (n_2 < 1) = false →
 (decide (n_1 < 0) = true → False) ∧
 (decide (n_1 < 0) = false →
 (decide (IntKind.i64.wrap (n_1 + n_2) > 8) = true → False) ∧
 (decide (IntKind.i64.wrap (n_1 + n_2) > 8) = false →
 ((IntKind.i64.wrap (IntKind.i64.wrap (8 * n) + n_1) != IntKind.i64.wrap (f + i.val.snd)) = true → False) ∧
 ((IntKind.i64.wrap (IntKind.i64.wrap (8 * n) + n_1) != IntKind.i64.wrap (f + i.val.snd)) = false →
 ∃ j, ([V.int IntKind.i64 f, V.int IntKind.i64 m, V.sl 0 0 (pcN f m), V.int IntKind.i64 0, V.int IntKind.i64 (IntKind.i64.wrap (i.val.snd + n_2)), V.int IntKind.i64 (IntKind.i64.wrap ((↑i.val.fst : Int) + 1))], [KO.row 29 4 (pcs f m (pcN f m))]) = (onceLI f m).st j ∧ (onceLI f m).μ j < (onceLI f m).μ i)))))) ∧
 (decide ((↑i.val.fst : Int) < (↑(pcN f m - 0) : Int)) = false → (true = true → ((i.val.snd == m) = true → true = true) ∧ ((i.val.snd == m) = false → False)) ∧ (true = false → False))))
 ) : XL 512 f m 3 [.int .u16 f0, .int .u16 m0] [] KT := Eq.mp (by kernel_rfl) h
theorem vc5 (a b : Int)  (h :
 (-9223372036854775808 ≤ IntKind.i64.wrap a ∧ IntKind.i64.wrap a ≤ 9223372036854775807) ∧
 (-9223372036854775808 ≤ IntKind.i64.wrap b ∧ IntKind.i64.wrap b ≤ 9223372036854775807) ∧
 ((whC (IntKind.i64.wrap a) == whC (IntKind.i64.wrap b)) = true →
 (((whA (IntKind.i64.wrap a) == whA (IntKind.i64.wrap b)) == (a == b)) = true →
 ((IntKind.i64.wrap (IntKind.i64.wrap (8 * whC (IntKind.i64.wrap a)) + whA (IntKind.i64.wrap a)) == IntKind.i64.wrap a) = true →
 (decide (whA (IntKind.i64.wrap a) ≥ 0) = true →
 (decide (whA (IntKind.i64.wrap a) < 8) = true →
 (-9223372036854775808 ≤ IntKind.i64.wrap (IntKind.i64.wrap a + 1) ∧ IntKind.i64.wrap (IntKind.i64.wrap a + 1) ≤ 9223372036854775807) ∧
 ((cnt (IntKind.i64.wrap (IntKind.i64.wrap a + 1)) == IntKind.i64.wrap (whC (IntKind.i64.wrap a) + 1)) = true → true = true) ∧ ((cnt (IntKind.i64.wrap (IntKind.i64.wrap a + 1)) == IntKind.i64.wrap (whC (IntKind.i64.wrap a) + 1)) = false → False)) ∧
 (decide (whA (IntKind.i64.wrap a) < 8) = false → False)) ∧
 (decide (whA (IntKind.i64.wrap a) ≥ 0) = false → False)) ∧
 ((IntKind.i64.wrap (IntKind.i64.wrap (8 * whC (IntKind.i64.wrap a)) + whA (IntKind.i64.wrap a)) == IntKind.i64.wrap a) = false → False)) ∧
 (((whA (IntKind.i64.wrap a) == whA (IntKind.i64.wrap b)) == (a == b)) = false → False)) ∧
 ((whC (IntKind.i64.wrap a) == whC (IntKind.i64.wrap b)) = false →
 ((false == (a == b)) = true →
 ((IntKind.i64.wrap (IntKind.i64.wrap (8 * whC (IntKind.i64.wrap a)) + whA (IntKind.i64.wrap a)) == IntKind.i64.wrap a) = true →
 (decide (whA (IntKind.i64.wrap a) ≥ 0) = true →
 (decide (whA (IntKind.i64.wrap a) < 8) = true →
 (-9223372036854775808 ≤ IntKind.i64.wrap (IntKind.i64.wrap a + 1) ∧ IntKind.i64.wrap (IntKind.i64.wrap a + 1) ≤ 9223372036854775807) ∧
 ((cnt (IntKind.i64.wrap (IntKind.i64.wrap a + 1)) == IntKind.i64.wrap (whC (IntKind.i64.wrap a) + 1)) = true → true = true) ∧ ((cnt (IntKind.i64.wrap (IntKind.i64.wrap a + 1)) == IntKind.i64.wrap (whC (IntKind.i64.wrap a) + 1)) = false → False)) ∧
 (decide (whA (IntKind.i64.wrap a) < 8) = false → False)) ∧
 (decide (whA (IntKind.i64.wrap a) ≥ 0) = false → False)) ∧
 ((IntKind.i64.wrap (IntKind.i64.wrap (8 * whC (IntKind.i64.wrap a)) + whA (IntKind.i64.wrap a)) == IntKind.i64.wrap a) = false → False)) ∧
 ((false == (a == b)) = false → False))
 ) : XL 0 0 0 5 [.int .u16 a, .int .u16 b] [] KT := Eq.mp (by kernel_rfl) h
theorem vc6 (f m : Int)  (h :
 (decide (f < 0) = true → (decide (f < 0) = true → true = true) ∧ (decide (f < 0) = false → (decide (f > 1099511627776) = true → true = true) ∧ (decide (f > 1099511627776) = false → (decide (m < 1) = true → true = true) ∧ (decide (m < 1) = false → (decide (m > 1048576) = true → true = true) ∧ (decide (m > 1048576) = false → False))))) ∧
 (decide (f < 0) = false →
 (decide (f > 1099511627776) = true → (decide (f < 0) = true → true = true) ∧ (decide (f < 0) = false → (decide (f > 1099511627776) = true → true = true) ∧ (decide (f > 1099511627776) = false → (decide (m < 1) = true → true = true) ∧ (decide (m < 1) = false → (decide (m > 1048576) = true → true = true) ∧ (decide (m > 1048576) = false → False))))) ∧
 (decide (f > 1099511627776) = false →
 (decide (m < 1) = true → (decide (f < 0) = true → true = true) ∧ (decide (f < 0) = false → (decide (f > 1099511627776) = true → true = true) ∧ (decide (f > 1099511627776) = false → (decide (m < 1) = true → true = true) ∧ (decide (m < 1) = false → (decide (m > 1048576) = true → true = true) ∧ (decide (m > 1048576) = false → False))))) ∧
 (decide (m < 1) = false →
 (decide (m > 1048576) = true → (decide (f < 0) = true → true = true) ∧ (decide (f < 0) = false → (decide (f > 1099511627776) = true → true = true) ∧ (decide (f > 1099511627776) = false → (decide (m < 1) = true → true = true) ∧ (decide (m < 1) = false → (decide (m > 1048576) = true → true = true) ∧ (decide (m > 1048576) = false → False))))) ∧
 (decide (m > 1048576) = false →
 (decide (f < 0) = true → False) ∧
 (decide (f < 0) = false →
 (decide (f > 1099511627776) = true → False) ∧
 (decide (f > 1099511627776) = false →
 (decide (m < 1) = true → False) ∧
 (decide (m < 1) = false →
 (decide (m > 1048576) = true → False) ∧
 (decide (m > 1048576) = false →
 (decide (IntKind.i64.wrap (16 * IntKind.i64.wrap (f.tdiv 16)) ≤ f) = true →
 (decide (IntKind.i64.wrap (16 * IntKind.i64.wrap (IntKind.i64.wrap (f.tdiv 16) + 1)) > f) = true →
 (decide (IntKind.i64.wrap (16 * IntKind.i64.wrap (IntKind.i64.wrap (f.tdiv 16) + IntKind.i64.wrap (IntKind.i64.wrap (IntKind.i64.wrap ((IntKind.i64.wrap (IntKind.i64.wrap (f + m) - 1)).tdiv 16) - IntKind.i64.wrap (f.tdiv 16)) + 1))) ≥ IntKind.i64.wrap (f + m)) = true →
 (decide (IntKind.i64.wrap (16 * IntKind.i64.wrap (IntKind.i64.wrap (IntKind.i64.wrap (f.tdiv 16) + IntKind.i64.wrap (IntKind.i64.wrap (IntKind.i64.wrap ((IntKind.i64.wrap (IntKind.i64.wrap (f + m) - 1)).tdiv 16) - IntKind.i64.wrap (f.tdiv 16)) + 1)) - 1)) < IntKind.i64.wrap (f + m)) = true → true = true) ∧
 (decide (IntKind.i64.wrap (16 * IntKind.i64.wrap (IntKind.i64.wrap (IntKind.i64.wrap (f.tdiv 16) + IntKind.i64.wrap (IntKind.i64.wrap (IntKind.i64.wrap ((IntKind.i64.wrap (IntKind.i64.wrap (f + m) - 1)).tdiv 16) - IntKind.i64.wrap (f.tdiv 16)) + 1)) - 1)) < IntKind.i64.wrap (f + m)) = false → False)) ∧
 (decide (IntKind.i64.wrap (16 * IntKind.i64.wrap (IntKind.i64.wrap (f.tdiv 16) + IntKind.i64.wrap (IntKind.i64.wrap (IntKind.i64.wrap ((IntKind.i64.wrap (IntKind.i64.wrap (f + m) - 1)).tdiv 16) - IntKind.i64.wrap (f.tdiv 16)) + 1))) ≥ IntKind.i64.wrap (f + m)) = false → False)) ∧
 (decide (IntKind.i64.wrap (16 * IntKind.i64.wrap (IntKind.i64.wrap (f.tdiv 16) + 1)) > f) = false → False)) ∧
 (decide (IntKind.i64.wrap (16 * IntKind.i64.wrap (f.tdiv 16)) ≤ f) = false → False)))))))))
 ) : XL 0 0 0 6 [.int .i64 f, .int .i64 m] [] KT := Eq.mp (by kernel_rfl) h

theorem XL_ok (b f m : Int) : CallOk Try.prog (XL b f m) := callS_ok mixed stripeS_ok (lawT b f m) 10
theorem lawWhere (a b : Int) (ha : (Lit.int .u16 a).wf = true) (hb : (Lit.int .u16 b).wf = true) : XL 0 0 0 5 [.int .u16 a, .int .u16 b] [] KT := by
  have b1 := bounds_u16 ha
  have b2 := bounds_u16 hb
  refine vc5 a b ?_
  have c1 : whC a = a / 8 := by unfold whC; rw [if_neg (by omega)]
  have c2 : whC b = b / 8 := by unfold whC; rw [if_neg (by omega)]
  have c3 : whA a = a % 8 := by unfold whA; rw [if_neg (by omega)]
  have c4 : whA b = b % 8 := by unfold whA; rw [if_neg (by omega)]
  have c5 : cnt (a + 1) = a / 8 + 1 := by unfold cnt; rw [if_neg (by omega)]; omega
  rw [IntWalk.i64_in a (by omega), IntWalk.i64_in b (by omega), c1, c2, c3, c4, IntWalk.i64_in (8 * (a / 8)) (by omega), IntWalk.i64_in (8 * (a / 8) + a % 8) (by omega), IntWalk.i64_in (a + 1) (by omega), c5, IntWalk.i64_in (a / 8 + 1) (by omega)]
  have e : 8 * (a / 8) + a % 8 = a := by omega
  have l1 : decide (a % 8 ≥ 0) = true := by simp; omega
  have l2 : decide (a % 8 < 8) = true := by simp; omega
  simp only [e, l1, l2, beq_self_eq_true]
  have q1 : -9223372036854775808 ≤ a ∧ a ≤ 9223372036854775807 := by omega
  have q2 : -9223372036854775808 ≤ b ∧ b ≤ 9223372036854775807 := by omega
  have q3 : -9223372036854775808 ≤ a + 1 ∧ a + 1 ≤ 9223372036854775807 := by omega
  refine ⟨q1, q2, fun h => ⟨fun h2 => by simp [q3.1, q3.2], fun h2 => ?_⟩, fun h => ⟨fun h2 => by simp [q3.1, q3.2], fun h2 => ?_⟩⟩
  · simp only [beq_iff_eq] at h
    by_cases hab : a = b
    · subst hab; simp at h2
    · have : ¬ a % 8 = b % 8 := by omega
      have e1 : (a % 8 == b % 8) = false := by simpa using this
      have e2 : (a == b) = false := by simpa using hab
      rw [e1, e2] at h2; simp at h2
  · have h' : ¬ a / 8 = b / 8 := by simpa using h
    have hab : ¬ a = b := fun e => h' (by rw [e])
    have e2 : (a == b) = false := by simpa using hab
    rw [e2] at h2; simp at h2
theorem lawBytes (f m : Int) : XL 0 0 0 6 [.int .i64 f, .int .i64 m] [] KT := by
  refine vc6 f m ?_
  simp only [decide_eq_true_eq, decide_eq_false_iff_not]
  refine ⟨fun h => ⟨fun _ => trivial, fun h2 => absurd h h2⟩, fun h1 => ⟨fun h => ⟨fun _ => trivial, fun _ => ⟨fun _ => trivial, fun h2 => absurd h h2⟩⟩, fun h2 => ⟨fun h => ⟨fun _ => trivial, fun _ => ⟨fun _ => trivial, fun _ => ⟨fun _ => trivial, fun h2 => absurd h h2⟩⟩⟩, fun h3 => ⟨fun h => ⟨fun _ => trivial, fun _ => ⟨fun _ => trivial, fun _ => ⟨fun _ => trivial, fun _ => ⟨fun _ => trivial, fun h2 => absurd h h2⟩⟩⟩⟩, fun h4 => ⟨fun h => absurd h h1, fun _ => ⟨fun h => absurd h h2, fun _ => ⟨fun h => absurd h h3, fun _ => ⟨fun h => absurd h h4, fun _ => ?_⟩⟩⟩⟩⟩⟩⟩⟩
  have e1 : f.tdiv 16 = f / 16 := Int.tdiv_eq_ediv_of_nonneg (by omega)
  have e2 : (f + m - 1).tdiv 16 = (f + m - 1) / 16 := Int.tdiv_eq_ediv_of_nonneg (by omega)
  rw [e1, IntWalk.i64_in (f / 16) (by omega), IntWalk.i64_in (f + m) (by omega), IntWalk.i64_in (f + m - 1) (by omega), e2, IntWalk.i64_in ((f + m - 1) / 16) (by omega), IntWalk.i64_in ((f + m - 1) / 16 - f / 16) (by omega), IntWalk.i64_in ((f + m - 1) / 16 - f / 16 + 1) (by omega),
    IntWalk.i64_in (f / 16 + ((f + m - 1) / 16 - f / 16 + 1)) (by omega), IntWalk.i64_in (f / 16 + ((f + m - 1) / 16 - f / 16 + 1) - 1) (by omega), IntWalk.i64_in (f / 16 + 1) (by omega), IntWalk.i64_in (16 * (f / 16)) (by omega), IntWalk.i64_in (16 * (f / 16 + 1)) (by omega),
    IntWalk.i64_in (16 * (f / 16 + ((f + m - 1) / 16 - f / 16 + 1))) (by omega), IntWalk.i64_in (16 * (f / 16 + ((f + m - 1) / 16 - f / 16 + 1) - 1)) (by omega)]
  exact ⟨fun _ => ⟨fun _ => ⟨fun _ => ⟨fun _ => trivial, fun h => by omega⟩, fun h => by omega⟩, fun h => by omega⟩, fun h => by omega⟩
theorem once_next {f m : Int} {k : Nat} {o : Int} {hh} {j o2 : Int} (hj : j = k + 1) (h : onceInv f m (k + 1, o2)) :
    ∃ x, ([V.int IntKind.i64 f, V.int IntKind.i64 m, V.sl 0 0 (pcN f m), V.int IntKind.i64 0, V.int IntKind.i64 o2, V.int IntKind.i64 j], [KO.row 29 4 (pcs f m (pcN f m))]) = (onceLI f m).st x ∧ (onceLI f m).μ x < (onceLI f m).μ ⟨(k, o), hh⟩ := by
  subst hj
  refine ⟨⟨(k + 1, o2), h⟩, rfl, ?_⟩
  have := h.1
  simp only at this
  show pcN f m - (k + 1) < pcN f m - k
  omega
theorem lawOnce (f0 m0 : Int) (hf : (Lit.int .u16 f0).wf = true) (hm : (Lit.int .u16 m0).wf = true) : XL 512 (f0 % 512) (1 + m0 % 512) 3 [.int .u16 f0, .int .u16 m0] [] KT := by
  have b1 := bounds_u16 hf
  have b2 := bounds_u16 hm
  refine vc3 _ _ f0 m0 ?_
  have t1 : f0.tmod 512 = f0 % 512 := Int.tmod_eq_emod_of_nonneg (by omega)
  have t2 : m0.tmod 512 = m0 % 512 := Int.tmod_eq_emod_of_nonneg (by omega)
  rw [IntWalk.i64_in f0 (by omega), IntWalk.i64_in m0 (by omega), t1, t2, IntWalk.i64_in (1 + m0 % 512) (by omega)]
  obtain ⟨f, hff⟩ : ∃ f, f0 % 512 = f := ⟨_, rfl⟩
  obtain ⟨m, hmm⟩ : ∃ m, 1 + m0 % 512 = m := ⟨_, rfl⟩
  have bf : 0 ≤ f ∧ f < 512 := by omega
  have bm : 1 ≤ m ∧ m ≤ 512 := by omega
  rw [hff, hmm, IntWalk.i64_in (f + m) (by omega)]
  clear hff hmm t1 t2
  rw [rightR_iff, rightR_false]
  simp only [decide_eq_true_eq, decide_eq_false_iff_not]
  have hn : pcN f m = ((f + m - 1) / 8 - f / 8 + 1).toNat := by unfold pcN; rw [if_neg (by omega)]
  refine ⟨fun hr => ⟨fun h => by omega, fun h => ⟨⟨⟨(0, 0), Nat.zero_le _, by simp [pcS]; omega⟩, rfl⟩, fun i => ?_⟩⟩, fun hr => ⟨fun h => by simp, fun h => by omega⟩⟩
  obtain ⟨⟨k, o⟩, h1, h2⟩ := i
  simp only at h1 h2 ⊢
  have hp : pcS f k = max f (8 * (f / 8 + k)) := rfl
  have hq : pcE f m k = min (f + m) (8 * (f / 8 + k + 1)) := rfl
  simp only [Nat.sub_zero]
  refine ⟨fun hk => ?_, fun hk => ⟨fun _ => ⟨fun _ => trivial, fun h => ?_⟩, fun h => by simp at h⟩⟩
  · have hg : (pcs f m (pcN f m))[0 + (k : Int).toNat]? = some (pc f m k) := by
      have : 0 + (k : Int).toNat = k := by omega
      rw [this]
      unfold pcs
      rw [List.getElem?_map, List.getElem?_range (by omega)]
      rfl
    refine ⟨⟨by omega, by omega⟩, _, hg, _, rfl, _, rfl, _, rfl, _, rfl, ?_⟩
    rw [hp] at h2
    have hko : pcS f k = f + o := by omega
    have w1 := IntWalk.i64_in (8 * (f / 8 + k)) (by omega)
    have w2 := IntWalk.i64_in (f + o - 8 * (f / 8 + k) + (min (f + m) (8 * (f / 8 + k + 1)) - (f + o))) (by omega)
    have w3 := IntWalk.i64_in (8 * (f / 8 + k) + (f + o - 8 * (f / 8 + k))) (by omega)
    have w4 := IntWalk.i64_in (f + o) (by omega)
    have w5 := IntWalk.i64_in (o + (min (f + m) (8 * (f / 8 + k + 1)) - (f + o))) (by omega)
    have w6 := IntWalk.i64_in ((k : Int) + 1) (by omega)
    simp only [hko, hq, w1, w2, w3, w4, w5, w6]
    have hlt : k + 1 ≤ pcN f m := by omega
    refine ⟨fun h => ?_, fun _ => ⟨fun h => by omega, fun _ => ⟨fun h => by omega, fun _ => ⟨fun h => by omega, fun _ => ⟨fun h => ?_, fun _ => once_next rfl ⟨hlt, ?_⟩⟩⟩⟩⟩⟩
    · have : ¬ f + o - f = o := by simpa using h
      omega
    · have : ¬ 8 * (f / 8 + k) + (f + o - 8 * (f / 8 + k)) = f + o := by simpa using h
      omega
    · show _ = min (f + m) (max f (8 * (f / 8 + ((k + 1 : Nat) : Int)))) - f
      omega
  · rw [hp] at h2
    have : ¬ o = m := by simpa using h
    omega
end Go.Proofs.Ytgadaeodoapgiaa
