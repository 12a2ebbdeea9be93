/- Plain laws that verification conditions need: rows of numbers, wrapping. -/
import Derived.Test.YtgadaeodoapgiaaVcO
import Derived.IntWalk
import Derived.OpenShut
set_option linter.unusedVariables false
namespace Vc
open Go

def KT : V → KB → Prop := fun r _ => isT r

theorem specOk_of' {P : Program} {X : CallT} (hX : CallOk P X) (hm : P.follows .mixedOrders = true) {f : FuncId} {S : FSpec} (h : ∀ args kb K, S args kb K → ∃ T, runSpec P X T f args kb K) : SpecOk P f S :=
  fun args kb K hs σ E W xs hi hd => by
    obtain ⟨T, hT⟩ := h args kb K hs
    exact runSpec_ok hX hm hT hi hd

/-- A row of numbers. -/
def ints (k : IntKind) (l : List Int) : List (List Value) := l.map fun n => [Value.int k n]
theorem ints_len {k : IntKind} {l : List Int} : (ints k l).length = l.length := by simp [ints]
theorem ints_nil {k : IntKind} : ints k [] = [] := rfl
theorem ints_cons {k : IntKind} {a : Int} {l : List Int} : ints k (a :: l) = [Value.int k a] :: ints k l := rfl
theorem ints_app {k : IntKind} {l m : List Int} : ints k (l ++ m) = ints k l ++ ints k m := by simp [ints]
theorem ints_set {k : IntKind} {l : List Int} {i : Nat} {n : Int} : (ints k l).set i [Value.int k n] = ints k (l.set i n) := by simp [ints]
theorem ints_take {k : IntKind} {l : List Int} {i : Nat} : (ints k l).take i = ints k (l.take i) := by simp [ints]
theorem ints_drop {k : IntKind} {l : List Int} {i : Nat} : (ints k l).drop i = ints k (l.drop i) := by simp [ints]
theorem ints_rep {k : IntKind} {m : Nat} {n : Int} : List.replicate m [Value.int k n] = ints k (List.replicate m n) := by simp [ints]
theorem ints_get {k : IntKind} {l : List Int} {i : Nat} : (ints k l)[i]? = l[i]?.map fun n => [Value.int k n] := by simp [ints]
theorem ints_inj {k : IntKind} : ∀ {l m : List Int}, ints k l = ints k m → l = m
  | [], [], _ => rfl
  | [], b :: m, h => by simp [ints] at h
  | a :: l, [], h => by simp [ints] at h
  | a :: l, b :: m, h => by
    simp only [ints, List.map_cons, List.cons.injEq, Value.int.injEq, true_and, and_true] at h
    rw [h.1, ints_inj h.2]
theorem ex_ints {k : IntKind} {l : List Int} {i : Nat} {R : List Value → Prop} : (∃ e, (ints k l)[i]? = some e ∧ R e) ↔ ∃ n, l[i]? = some n ∧ R [Value.int k n] := by
  constructor
  · rintro ⟨e, h1, h2⟩
    rw [ints_get] at h1
    simp only [Option.map_eq_some_iff] at h1
    obtain ⟨m, h4, rfl⟩ := h1
    exact ⟨_, h4, h2⟩
  · rintro ⟨n, h1, h2⟩
    exact ⟨[Value.int k n], by rw [ints_get, h1]; rfl, h2⟩
theorem ex_cell {k : IntKind} {n : Int} {Q : Int → Prop} : (∃ m, ([Value.int k n] : List Value)[0]? = some (Value.int k m) ∧ Q m) ↔ Q n := by
  constructor
  · rintro ⟨m, h1, h2⟩; simp at h1; subst h1; exact h2
  · intro h; exact ⟨n, rfl, h⟩
/-- A slice of numbers that came in. -/
theorem conf_ints {k : IntKind} {l : List (List Value)} (h : ∀ x ∈ l, Conf [.int k] x) : ∃ zs, l = ints k zs ∧ ∀ n ∈ zs, (Lit.int k n).wf = true := by
  induction l with
  | nil => exact ⟨[], rfl, by simp⟩
  | cons x l ih =>
    obtain ⟨zs, h1, h2⟩ := ih (fun y hy => h y (List.mem_cons_of_mem _ hy))
    have := h x List.mem_cons_self
    simp only [Conf, ConfC] at this
    obtain ⟨v, vs, rfl, ⟨n, rfl, hw⟩, rfl⟩ := this
    refine ⟨n :: zs, by rw [ints_cons, h1], fun m hm => ?_⟩
    rcases List.mem_cons.1 hm with rfl | hm
    · exact hw
    · exact h2 m hm
theorem wrap_wf {k : IntKind} {n : Int} (h : (Lit.int k n).wf = true) : k.wrap n = n := by
  cases k
  · exact IntWalk.i8_in n (bounds_i8 h)
  · exact IntWalk.i16_in n (bounds_i16 h)
  · exact IntWalk.i32_in n (bounds_i32 h)
  · exact IntWalk.i64_in n (bounds_i64 h)
  · exact IntWalk.u8_in n (bounds_u8 h)
  · exact IntWalk.u16_in n (bounds_u16 h)
  · exact IntWalk.u32_in n (bounds_u32 h)
  · exact IntWalk.u64_in n (bounds_u64 h)
end Vc
