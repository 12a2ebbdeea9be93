/- Plain laws that verification conditions need: rows of numbers, wrapping. -/
import Derived.Test.YtnglmhckcfnfaaaVdO
import Derived.IntWalk
import Derived.OpenShut
set_option linter.unusedSimpArgs false
set_option linter.unusedVariables false
namespace Vc
open Go

def KT : V → KB → Prop := fun r _ => isT r

theorem specOk_of' {P : Program} {X : CallT} (hX : CallOk P X) (hm : P.follows .mixedOrders = true) {f : FuncId} {S : FSpec} (h : ∀ args kb K, S args kb K → ∃ T, runSpec P X T f args kb K) : SpecOk P f S :=
  fun args kb K hs σ E W xs hi hd => by
    obtain ⟨T, hT⟩ := h args kb K hs
    exact runSpec_ok hX hm hT hi hd
/-- The calls, too, may be others from case to case. -/
theorem specOk_of'' {P : Program} (hm : P.follows .mixedOrders = true) {f : FuncId} {S : FSpec} (h : ∀ args kb K, S args kb K → ∃ X T, CallOk P X ∧ runSpec P X T f args kb K) : SpecOk P f S :=
  fun args kb K hs σ E W xs hi hd => by
    obtain ⟨X, T, hX, hT⟩ := h args kb K hs
    exact runSpec_ok hX hm hT hi hd

/-- Likewise, nil being an empty row in the results. -/
theorem specOk_nil {P : Program} {X : CallT} (hX : CallOk P X) (hm : P.follows .mixedOrders = true) (ds : List NilD) {f : FuncId} {S : FSpec} (h : ∀ args kb K, S args kb K → ∃ T, runSpec P X T f args kb (nilRes ds K)) : SpecOk P f S :=
  fun args kb K hs => by
    have h0 : SpecOk P f (fun a k K0 => ∃ T, runSpec P X T f a k K0) := specOk_of' hX hm fun _ _ _ h => h
    exact nilOut_ok h0 ds args kb K (h args kb K hs)
/-- Likewise, the results' blocks in order. -/
theorem specOk_tidy {P : Program} {X : CallT} (hX : CallOk P X) (hm : P.follows .mixedOrders = true) {f : FuncId} {S : FSpec} (h : ∀ args kb K, S args kb K → ∃ T, runSpec P X T f args kb (tidyRes kb.length K)) : SpecOk P f S :=
  fun args kb K hs => by
    have h0 : SpecOk P f (fun a k K0 => ∃ T, runSpec P X T f a k K0) := specOk_of' hX hm fun _ _ _ h => h
    exact tidyOut_ok h0 args kb K (h args kb K hs)
/-- Both: nil as an empty row, rows renumbered; then the results' blocks in order. -/
theorem specOk_nt {P : Program} {X : CallT} (hX : CallOk P X) (hm : P.follows .mixedOrders = true) (ds : List NilD) {f : FuncId} {S : FSpec} (h : ∀ args kb K, S args kb K → ∃ T, runSpec P X T f args kb (nilRes ds (tidyRes kb.length K))) : SpecOk P f S := by
  have h1 : SpecOk P f (fun args kb K => ∃ T, runSpec P X T f args kb (nilRes ds K)) := specOk_nil hX hm ds (fun args kb K h => h)
  have h2 := tidyOut_ok h1
  exact fun args kb K hs => h2 args kb K (h args kb K hs)
/-- A condition that elaboration leaves alone. -/
structure RS (p : Prop) : Prop where
  h : p
theorem specOk_r {P : Program} {X : CallT} (hX : CallOk P X) (hm : P.follows .mixedOrders = true) {f : FuncId} {S : FSpec} (h : ∀ args kb K, S args kb K → ∃ T, RS (runSpec P X T f args kb K)) : SpecOk P f S :=
  specOk_of' hX hm fun args kb K hs => let ⟨T, hT⟩ := h args kb K hs; ⟨T, hT.h⟩
theorem specOk_rt {P : Program} {X : CallT} (hX : CallOk P X) (hm : P.follows .mixedOrders = true) (n : Nat) {f : FuncId} {S : FSpec} (h : ∀ args kb K, S args kb K → kb.length = n ∧ ∃ T, RS (runSpec P X T f args kb (tidyRes n K))) : SpecOk P f S :=
  specOk_tidy hX hm fun args kb K hs => by obtain ⟨rfl, T, hT⟩ := h args kb K hs; exact ⟨T, hT.h⟩
theorem specOk_rn {P : Program} {X : CallT} (hX : CallOk P X) (hm : P.follows .mixedOrders = true) (ds : List NilD) (n : Nat) {f : FuncId} {S : FSpec} (h : ∀ args kb K, S args kb K → kb.length = n ∧ ∃ T, RS (runSpec P X T f args kb (nilRes ds (tidyRes n K)))) : SpecOk P f S :=
  specOk_nt hX hm ds fun args kb K hs => by obtain ⟨rfl, T, hT⟩ := h args kb K hs; exact ⟨T, hT.h⟩
/-- A bool that is written out, as one that is not known. -/
def unB : V → V
  | .tt => .sb true
  | .ff => .sb false
  | v => v
theorem denL_unB {σ : Sg} {E : EH} : ∀ {vs : List V} {xs : List Value}, DenL σ E vs xs → DenL σ E (vs.map unB) xs
  | [], _, h => h
  | v :: vs, _, h => by
    simp only [DenL] at h
    obtain ⟨x, xs', rfl, h1, h2⟩ := h
    refine .cons ?_ (denL_unB h2)
    cases v <;> first | exact h1 | (simp only [Den] at h1; simpa [unB, Den] using h1)
def sbIn (S : FSpec) : FSpec := fun args kb K => S (args.map unB) kb K
theorem sbIn_ok {P : Program} {f : FuncId} {S : FSpec} (hS : SpecOk P f S) : SpecOk P f (sbIn S) := fun args kb K h σ E W xs hi hd => hS _ kb K h σ E W xs hi (denL_unB hd)
/-- A number as a datum. -/
abbrev dn (k : IntKind) (n : Int) : D := .val (.int k n)
abbrev db (b : Bool) : D := .val (.bool b)
/-- Cells that are numbers. -/
def dns (k : IntKind) (l : List Int) : List D := l.map fun n => .val (.int k n)
/-- A row of numbers. -/
def ints (k : IntKind) (l : List Int) : List (List D) := l.map fun n => [.val (.int k n)]

theorem dns_len {k : IntKind} {l : List Int} : (dns k l).length = l.length := by simp [dns]
theorem dns_nil {k : IntKind} : dns k [] = [] := rfl
theorem dns_cons {k : IntKind} {a : Int} {l : List Int} : dns k (a :: l) = .val (.int k a) :: dns k l := rfl
theorem dns_app {k : IntKind} {l m : List Int} : dns k (l ++ m) = dns k l ++ dns k m := by simp [dns]
theorem dns_take {k : IntKind} {l : List Int} {i : Nat} : (dns k l).take i = dns k (l.take i) := by simp [dns]
theorem dns_drop {k : IntKind} {l : List Int} {i : Nat} : (dns k l).drop i = dns k (l.drop i) := by simp [dns]
theorem dns_rep {k : IntKind} {m : Nat} {n : Int} : List.replicate m (D.val (.int k n)) = dns k (List.replicate m n) := by simp [dns]
theorem dns_get {k : IntKind} {l : List Int} {i : Nat} : (dns k l)[i]? = l[i]?.map fun n => D.val (.int k n) := by simp [dns]
theorem dns_splice {k : IntKind} {l m : List Int} {o : Nat} : splice (dns k l) o (dns k m) = dns k (splice l o m) := by simp [splice, dns]
theorem dns_splice1 {k : IntKind} {l : List Int} {o : Nat} {n : Int} : splice (dns k l) o [.val (.int k n)] = dns k (splice l o [n]) := dns_splice (m := [n])
theorem dns_inj {k : IntKind} : ∀ {l m : List Int}, dns k l = dns k m → l = m
  | [], [], _ => rfl
  | [], b :: m, h => by simp [dns] at h
  | a :: l, [], h => by simp [dns] at h
  | a :: l, b :: m, h => by
    simp only [dns, List.map_cons, List.cons.injEq, D.val.injEq, Value.int.injEq, true_and] at h
    rw [h.1, dns_inj h.2]
theorem splice_one {α : Type} {l : List α} {o : Nat} (h : o < l.length) (a : α) : splice l o [a] = l.set o a := by
  apply List.ext_getElem?
  intro j
  rw [get_splice (by omega), List.getElem?_set]
  simp only [List.length_cons, List.length_nil]
  by_cases c1 : j < o
  · rw [if_pos c1, if_neg (by omega)]
  · rw [if_neg c1]
    by_cases c2 : j = o
    · subst c2; simp [h]
    · rw [if_neg (by omega), if_neg (by omega)]

theorem ints_len {k : IntKind} {l : List Int} : (ints k l).length = l.length := by simp [ints]
theorem ints_nil {k : IntKind} : ints k [] = [] := rfl
theorem ints_cons {k : IntKind} {a : Int} {l : List Int} : ints k (a :: l) = [.val (.int k a)] :: ints k l := rfl
theorem ints_app {k : IntKind} {l m : List Int} : ints k (l ++ m) = ints k l ++ ints k m := by simp [ints]
theorem ints_set {k : IntKind} {l : List Int} {i : Nat} {n : Int} : (ints k l).set i [.val (.int k n)] = ints k (l.set i n) := by simp [ints]
theorem ints_take {k : IntKind} {l : List Int} {i : Nat} : (ints k l).take i = ints k (l.take i) := by simp [ints]
theorem ints_drop {k : IntKind} {l : List Int} {i : Nat} : (ints k l).drop i = ints k (l.drop i) := by simp [ints]
theorem ints_rep {k : IntKind} {m : Nat} {n : Int} : List.replicate m [D.val (.int k n)] = ints k (List.replicate m n) := by simp [ints]
theorem ints_get {k : IntKind} {l : List Int} {i : Nat} : (ints k l)[i]? = l[i]?.map fun n => [D.val (.int k n)] := by simp [ints]
theorem ints_flat {k : IntKind} {l : List Int} : (ints k l).flatten = dns k l := by
  induction l with
  | nil => rfl
  | cons a l ih => rw [ints_cons, List.flatten_cons, ih]; rfl
theorem ones_dns {k : IntKind} {l : List Int} : ones (dns k l) = ints k l := by simp [ones, dns, ints]
theorem map_dns {k : IntKind} {l : List Int} : (dns k l).map (fun d => [d]) = ints k l := by simp [dns, ints]
theorem ints_splice {k : IntKind} {l m : List Int} {o : Nat} : splice (ints k l) o (ints k m) = ints k (splice l o m) := by simp [splice, ints]
theorem ints_inj {k : IntKind} : ∀ {l m : List Int}, ints k l = ints k m → l = m
  | [], [], _ => rfl
  | [], b :: m, h => by simp [ints] at h
  | a :: l, [], h => by simp [ints] at h
  | a :: l, b :: m, h => by
    simp only [ints, List.map_cons, List.cons.injEq, D.val.injEq, Value.int.injEq, true_and, and_true] at h
    rw [h.1, ints_inj h.2]
/-- An element of a row that is a map's image. -/
theorem ex_map {α : Type} {f : α → List D} {l : List α} {i : Nat} {R : List D → Prop} : (∃ e, (l.map f)[i]? = some e ∧ R e) ↔ ∃ a, l[i]? = some a ∧ R (f a) := by
  constructor
  · rintro ⟨e, h1, h2⟩
    rw [List.getElem?_map] at h1
    simp only [Option.map_eq_some_iff] at h1
    obtain ⟨m, h4, rfl⟩ := h1
    exact ⟨_, h4, h2⟩
  · rintro ⟨n, h1, h2⟩
    exact ⟨f n, by rw [List.getElem?_map, h1]; rfl, h2⟩
theorem ex_ints {k : IntKind} {l : List Int} {i : Nat} {R : List D → Prop} : (∃ e, (ints k l)[i]? = some e ∧ R e) ↔ ∃ n, l[i]? = some n ∧ R [.val (.int k n)] := ex_map
theorem ex_cell {k : IntKind} {n : Int} {Q : Int → Prop} : (∃ m, ([D.val (.int k n)] : List D)[0]? = some (D.val (.int k m)) ∧ Q m) ↔ Q n := by
  constructor
  · rintro ⟨m, h1, h2⟩; simp at h1; subst h1; exact h2
  · intro h; exact ⟨n, rfl, h⟩
theorem ex_val {k : IntKind} {n : Int} {Q : Int → Prop} : (∃ m, some (D.val (.int k n)) = some (D.val (.int k m)) ∧ Q m) ↔ Q n := by
  constructor
  · rintro ⟨m, h1, h2⟩; simp at h1; subst h1; exact h2
  · intro h; exact ⟨n, rfl, h⟩
theorem ex_dns {k : IntKind} {l : List Int} {o : Nat} {Q : Int → Prop} : (∃ m, (dns k l)[o]? = some (D.val (.int k m)) ∧ Q m) ↔ ∃ m, l[o]? = some m ∧ Q m := by
  constructor
  · rintro ⟨m, h1, h2⟩
    rw [dns_get] at h1
    simp only [Option.map_eq_some_iff, D.val.injEq, Value.int.injEq, true_and] at h1
    obtain ⟨a, h3, rfl⟩ := h1
    exact ⟨a, h3, h2⟩
  · rintro ⟨m, h1, h2⟩
    exact ⟨m, by rw [dns_get, h1]; rfl, h2⟩
theorem plain_dns {k : IntKind} {l : List Int} : Plain (dns k l) := fun d hd => by
  obtain ⟨n, _, rfl⟩ := List.mem_map.1 hd; trivial
theorem plain_nil : Plain [] := fun d hd => by cases hd
theorem plain_ints {k : IntKind} {l : List Int} : Plain (ints k l).flatten := by rw [ints_flat]; exact plain_dns

/-- A slice of numbers that came in. -/
theorem conf_ints {k : IntKind} {l : List (List D)} (h : ∀ x ∈ l, Conf [.int k] x) : ∃ zs, l = ints k zs ∧ ∀ n ∈ zs, (Lit.int k n).wf = true := by
  induction l with
  | nil => exact ⟨[], rfl, by simp⟩
  | cons x l ih =>
    obtain ⟨zs, h1, h2⟩ := ih (fun y hy => h y (List.mem_cons_of_mem _ hy))
    have := h x List.mem_cons_self
    simp only [Conf, ConfD] at this
    obtain ⟨v, vs, rfl, ⟨n, rfl, hw⟩, rfl⟩ := this
    refine ⟨n :: zs, by rw [ints_cons, h1], fun m hm => ?_⟩
    rcases List.mem_cons.1 hm with rfl | hm
    · exact hw
    · exact h2 m hm
/-- A slice of things that came in, each of them read. -/
theorem conf_map {α : Type} {ss : List SH} {f : α → List D} {Q : α → Prop} (hf : ∀ x, Conf ss x → ∃ a, x = f a ∧ Q a) : ∀ {l : List (List D)}, (∀ x ∈ l, Conf ss x) → ∃ zs : List α, l = zs.map f ∧ ∀ a ∈ zs, Q a
  | [], _ => ⟨[], rfl, by simp⟩
  | x :: l, h => by
    obtain ⟨zs, h1, h2⟩ := conf_map hf (l := l) (fun y hy => h y (List.mem_cons_of_mem _ hy))
    obtain ⟨a, rfl, ha⟩ := hf x (h x List.mem_cons_self)
    refine ⟨a :: zs, by rw [h1]; rfl, fun m hm => ?_⟩
    rcases List.mem_cons.1 hm with rfl | hm
    · exact ha
    · exact h2 m hm
theorem wrap_wf {k : IntKind} {n : Int} (h : (Lit.int k n).wf = true) : k.wrap n = n := by
  cases k
  · exact IntWalk.i8_in n (bounds_i8 h)
  · exact IntWalk.i16_in n (bounds_i16 h)
  · exact IntWalk.i32_in n (bounds_i32 h)
  · exact IntWalk.i64_in n (bounds_i64 h)
  · exact IntWalk.u8_in n (bounds_u8 h)
  · exact IntWalk.u16_in n (bounds_u16 h)
  · exact IntWalk.u32_in n (bounds_u32 h)
  · exact IntWalk.u64_in n (bounds_u64 h)
/-- Within 64 bits. -/
def inI (n : Int) : Prop := -9223372036854775808 ≤ n ∧ n ≤ 9223372036854775807
theorem w64 {n : Int} (h1 : -9223372036854775808 ≤ n) (h2 : n ≤ 9223372036854775807) : IntKind.i64.wrap n = n := IntWalk.i64_in n (by omega)
/-- One cell of data as a symbolic value. -/
def dV : D → V
  | .val (.int k n) => .int k n
  | .val (.bool b) => .sb b
  | .val v => .any v
  | .sl sz l => .dat (.sl sz l)
theorem den_dV {σ : Sg} {E : EH} {d : D} {x : Value} (h : RepD E d x) : Den σ E (dV d) x := by
  cases d with
  | sl sz l => simpa only [dV, Den] using h
  | val v =>
    simp only [RepD] at h
    obtain ⟨rfl, _⟩ := h
    cases x <;> simp only [dV, Den]
/-- Cells of data as symbolic pieces. -/
theorem den_agg {σ : Sg} {E : EH} : ∀ {ds : List D} {cs : List Value}, DenD E ds cs → DenC σ E (ds.map dV) cs
  | [], _, h => by simp only [DenD] at h; subst h; simp [DenC]
  | d :: ds, _, h => by
    have h1 := h
    simp only [DenD] at h
    obtain ⟨x, xs', rfl, h2, h3⟩ := h
    simp only [List.map_cons, DenC]
    exact ⟨[x], xs', rfl, .inl ⟨x, rfl, h2.one, den_dV h2⟩, den_agg h3⟩
theorem denL_cons {σ : Sg} {E : EH} {v : V} {vs : List V} {x : Value} {xs : List Value} (h : Den σ E v x) (k : DenL σ E vs xs) : DenL σ E (v :: vs) (x :: xs) := by
  simp only [DenL]; exact ⟨x, xs, rfl, h, k⟩
def isSlT (P : Program) (t : TypeId) : Bool := match P.underlying t with
  | some (.slice _) => true
  | _ => false
theorem ok_slT {P : Program} {w : World} {r : Reach} {base : Nat} {t : TypeId} {v : Value} (hs : isSlT P t = true) (h : Value.okWide P w r base t v) : ∃ a len cap, v = .slice a len cap := by
  unfold isSlT at hs
  split at hs
  · rename_i e he; exact WideShapes.okWide_slice he h
  · cases hs
/-- An array of numbers that came in. -/
theorem conf_dns {k : IntKind} : ∀ {n : Nat} {ds : List D}, Conf (List.replicate n (.int k)) ds → ∃ b : List Int, ds = dns k b ∧ b.length = n ∧ ∀ z ∈ b, (Lit.int k z).wf = true
  | 0, ds, h => by
    simp only [List.replicate, Conf, ConfD] at h
    exact ⟨[], by rw [h]; rfl, rfl, by simp⟩
  | n + 1, ds, h => by
    simp only [List.replicate, Conf, ConfD] at h
    obtain ⟨v, vs, rfl, ⟨z, rfl, hz⟩, hr⟩ := h
    obtain ⟨b, rfl, hb, hw⟩ := conf_dns (n := n) hr
    refine ⟨z :: b, rfl, by simp [hb], fun y hy => ?_⟩
    rcases List.mem_cons.1 hy with rfl | hy
    · exact hz
    · exact hw y hy
theorem den_arr {σ : Sg} {E : EH} {k : IntKind} {b : List Int} {n : Nat} (hb : b.length = n) {cs : List Value} (h : DenD E (dns k b) cs) : Den σ E (.agg [.arr n (dns k b)]) (.agg cs.toArray) := by
  simp only [Den, DenC]
  exact ⟨_, rfl, cs, [], (List.append_nil _).symm, .inr ⟨n, _, rfl, by rw [dns_len, hb], h⟩, rfl⟩
/-! ### Results whose fields are frozen -/
/-- How a field of a result is told: as it is; a number; a slice of elements of s cells, immutable from now on. -/
inductive FM where
  | asis
  | num
  | sl (s : Nat)
def numV : V → V
  | .lit k n => .int k n
  | .any (.int k n) => .int k n
  | v => v
theorem numV_one {v : V} {σ : Sg} {E : EH} {x : Value} (h : Den σ E v x) : Den σ E (numV v) x := by
  unfold numV; split <;> first | exact h | (simp only [Den] at h ⊢; exact h)
theorem numV_P1 {v : V} {σ : Sg} {E : EH} {ys : List Value} (h : DenP1 σ E v ys) : DenP1 σ E (numV v) ys := by
  rcases h with ⟨y, rfl, h1, h2⟩ | ⟨m, cs, rfl, h1, h2⟩
  · exact .inl ⟨y, rfl, h1, numV_one h2⟩
  · exact .inr ⟨m, cs, rfl, h1, h2⟩
theorem DenP1.mono' {σ : Sg} {E E' : EH} (h : E.le E') {v : V} {ys : List Value} (hd : DenP1 σ E v ys) : DenP1 σ E' v ys := by
  rcases hd with ⟨y, rfl, h1, h2⟩ | ⟨m, cs, rfl, h1, h2⟩
  · have := Den.mono (τ := []) h h2
    rw [List.append_nil] at this
    exact .inl ⟨y, rfl, h1, this⟩
  · exact .inr ⟨m, cs, rfl, h1, h2.mono h⟩
def frzC : List FM → List V → KB → (List V → KB → Prop) → Prop
  | _, [], kb, K => K [] kb
  | [], v :: vs, kb, K => K (v :: vs) kb
  | .asis :: ms, v :: vs, kb, K => frzC ms vs kb (fun us kb' => K (v :: us) kb')
  | .num :: ms, v :: vs, kb, K => frzC ms vs kb (fun us kb' => K (numV v :: us) kb')
  | .sl s :: ms, v :: vs, kb, K => conv1 (.sl s) v kb (fun d kb' => frzC ms vs kb' (fun us kb'' => K (.dat d :: us) kb''))
theorem frzC_ok : ∀ {ms : List FM} {vs : List V} {kb : KB} {K : List V → KB → Prop}, frzC ms vs kb K → ∀ {σ : Sg} {E : EH} {W : World}, Inv σ E kb W → ∀ {xs : List Value}, DenC σ E vs xs →
    ∃ E' kb' us, Step σ E kb W σ E' kb' W ∧ DenC σ E' us xs ∧ K us kb'
  | ms, [], kb, K, h, σ, E, W, hi, xs, hd => by
    have : K [] kb := by cases ms with | nil => exact h | cons m ms => cases m <;> exact h
    exact ⟨E, kb, [], Step.refl hi, hd, this⟩
  | [], v :: vs, kb, K, h, σ, E, W, hi, xs, hd => ⟨E, kb, v :: vs, Step.refl hi, hd, h⟩
  | .asis :: ms, v :: vs, kb, K, h, σ, E, W, hi, xs, hd => by
    obtain ⟨ys, zs, rfl, h1, h2⟩ := hd.uncons
    simp only [frzC] at h
    obtain ⟨E1, kb1, us, s1, d1, hK⟩ := frzC_ok h hi h2
    have := DenP1.mono' s1.le h1
    exact ⟨E1, kb1, v :: us, s1, .cons this d1, hK⟩
  | .num :: ms, v :: vs, kb, K, h, σ, E, W, hi, xs, hd => by
    obtain ⟨ys, zs, rfl, h1, h2⟩ := hd.uncons
    simp only [frzC] at h
    obtain ⟨E1, kb1, us, s1, d1, hK⟩ := frzC_ok h hi h2
    have := DenP1.mono' s1.le (numV_P1 h1)
    exact ⟨E1, kb1, numV v :: us, s1, .cons this d1, hK⟩
  | .sl s :: ms, v :: vs, kb, K, h, σ, E, W, hi, xs, hd => by
    obtain ⟨ys, zs, rfl, h1, h2⟩ := hd.uncons
    simp only [frzC] at h
    rcases h1 with ⟨y, rfl, h1, hy⟩ | ⟨m, cs, rfl, _, _⟩
    · obtain ⟨E1, kb1, d, s1, r1, h⟩ := conv1_ok h hi hy
      have h2' := DenC.mono (τ := []) s1.le h2
      rw [List.append_nil] at h2'
      obtain ⟨E2, kb2, us, s2, d2, hK⟩ := frzC_ok h s1.inv h2'
      exact ⟨E2, kb2, .dat d :: us, s1.trans s2, DenC.cons1 (by simp only [Den]; exact r1.mono s2.le) h1 d2, hK⟩
    · exact h.elim
/-- A result that is a struct, or whose first part is one. -/
def frzRes (ms : List FM) (K : V → KB → Prop) : V → KB → Prop := fun r kb => match r with
  | .agg l => frzC ms l kb (fun us kb' => K (.agg us) kb')
  | .tup (.agg l :: rest) => frzC ms l kb (fun us kb' => K (.tup (.agg us :: rest)) kb')
  | _ => False
def frzOut (ms : List FM) (S : FSpec) : FSpec := fun args kb K => S args kb (frzRes ms K)
theorem frzOut_ok {P : Program} {f : FuncId} {S : FSpec} (hS : SpecOk P f S) (ms : List FM) : SpecOk P f (frzOut ms S) := fun args kb K h σ E W xs hi hd => by
  refine (hS args kb _ h σ E W xs hi hd).mono ?_
  rintro e W' ⟨v, r, σs, E', kb2, rfl, hst, hden, hK⟩
  unfold frzRes at hK
  split at hK <;> try exact hK.elim
  · rename_i l
    simp only [Den] at hden
    obtain ⟨vs, rfl, hl⟩ := hden
    obtain ⟨E1, kb1, us, s1, d1, hK⟩ := frzC_ok hK hst.inv hl
    exact ⟨_, _, _, _, _, rfl, hst.trans s1, by simp only [Den]; exact ⟨vs, rfl, d1⟩, hK⟩
  · rename_i l rest
    simp only [Den] at hden
    obtain ⟨vs, rfl, hl⟩ := hden
    simp only [DenL] at hl
    obtain ⟨x, xs', rfl, hx, hr⟩ := hl
    simp only [Den] at hx
    obtain ⟨cs, rfl, hl⟩ := hx
    obtain ⟨E1, kb1, us, s1, d1, hK⟩ := frzC_ok hK hst.inv hl
    have := DenL.mono (τ := []) s1.le hr
    rw [List.append_nil] at this
    exact ⟨_, _, _, _, _, rfl, hst.trans s1, by simp only [Den]; exact ⟨_, rfl, .cons (by simp only [Den]; exact ⟨cs, rfl, d1⟩) this⟩, hK⟩
/-- The fields frozen, then the results' blocks in order. -/
theorem specOk_frz {P : Program} {X : CallT} (hX : CallOk P X) (hm : P.follows .mixedOrders = true) (ms : List FM) {f : FuncId} {S : FSpec} (h : ∀ args kb K, S args kb K → ∃ T, runSpec P X T f args kb (frzRes ms (tidyRes kb.length K))) : SpecOk P f S := by
  have h0 : SpecOk P f (fun a k K0 => ∃ T, runSpec P X T f a k K0) := specOk_of' hX hm fun _ _ _ h => h
  have h2 := tidyOut_ok (frzOut_ok h0 ms)
  exact fun args kb K hs => h2 args kb K (h args kb K hs)
/-! ### Results that are given: slices of a result as data -/
def gvRes (ms : List Mode) (K : V → KB → Prop) : V → KB → Prop := fun r kb => match r with
  | .tup l => giveL ms l kb (fun us kb' => K (.tup us) kb')
  | r => giveL ms [r] kb (fun us kb' => match us with | [u] => K u kb' | _ => False)
def gvOut (ms : List Mode) (S : FSpec) : FSpec := fun args kb K => S args kb (gvRes ms K)
theorem gvOut_ok {P : Program} {f : FuncId} {S : FSpec} (hS : SpecOk P f S) (ms : List Mode) : SpecOk P f (gvOut ms S) := fun args kb K h σ E W xs hi hd => by
  refine (hS args kb _ h σ E W xs hi hd).mono ?_
  rintro e W' ⟨v, r, σs, E', kb2, rfl, hst, hden, hK⟩
  unfold gvRes at hK
  split at hK
  · rename_i l
    simp only [Den] at hden
    obtain ⟨vs, rfl, hl⟩ := hden
    obtain ⟨E1, kb1, us, s1, d1, hK⟩ := giveL_ok hK hst.inv hl
    exact ⟨_, _, _, _, _, rfl, hst.trans s1, by simp only [Den]; exact ⟨vs, rfl, d1⟩, hK⟩
  · rename_i r _
    obtain ⟨E1, kb1, us, s1, d1, hK⟩ := giveL_ok hK hst.inv (denL_one hden)
    split at hK <;> try exact hK.elim
    exact ⟨_, _, _, _, _, rfl, hst.trans s1, denL_one' d1, hK⟩
/-- Slices of the results are data; then the results' blocks in order. -/
def gvTidy (ms : List Mode) (S : FSpec) : FSpec := fun args kb K => S args kb (gvRes ms (tidyRes kb.length K))
theorem gvTidy_ok {P : Program} {f : FuncId} {S : FSpec} (hS : SpecOk P f S) (ms : List Mode) : SpecOk P f (gvTidy ms S) := by
  have h2 := tidyOut_ok (gvOut_ok hS ms)
  exact fun args kb K hs => h2 args kb K hs
/-- A result whose first part, a struct, nobody looks at: any values. -/
def anyC : List V → (List V → Prop) → Prop
  | [], K => K []
  | .arr _ _ :: _, _ => False
  | _ :: us, K => ∀ v : Value, anyC us (fun ws => K (.any v :: ws))
theorem anyC_ok : ∀ {us : List V} {K : List V → Prop}, anyC us K → ∀ {σ : Sg} {E : EH} {xs : List Value}, DenC σ E us xs → ∃ ws, DenC σ E ws xs ∧ K ws
  | [], K, h, σ, E, xs, hd => ⟨[], hd, h⟩
  | u :: us, K, h, σ, E, xs, hd => by
    obtain ⟨ys, zs, rfl, h1, h2⟩ := hd.uncons
    rcases h1 with ⟨y, rfl, h3, h4⟩ | ⟨m, cs, rfl, _, _⟩
    · have h' : anyC us (fun ws => K (.any y :: ws)) := by
        cases u <;> first | (simp only [anyC] at h; exact h y) | (simp only [anyC] at h)
      obtain ⟨ws, d1, hK⟩ := anyC_ok h' h2
      exact ⟨.any y :: ws, DenC.cons1 (by simp only [Den]) h3 d1, hK⟩
    · exact h.elim
def anyRes (K : V → KB → Prop) : V → KB → Prop := fun r kb => match r with
  | .tup (.agg us :: rest) => anyC us (fun ws => K (.tup (.agg ws :: rest)) kb)
  | _ => False
def anyOut (S : FSpec) : FSpec := fun args kb K => S args kb (anyRes K)
theorem anyOut_ok {P : Program} {f : FuncId} {S : FSpec} (hS : SpecOk P f S) : SpecOk P f (anyOut S) := fun args kb K h σ E W xs hi hd => by
  refine (hS args kb _ h σ E W xs hi hd).mono ?_
  rintro e W' ⟨v, r, σs, E', kb2, rfl, hst, hden, hK⟩
  unfold anyRes at hK
  split at hK <;> try exact hK.elim
  rename_i us rest
  simp only [Den] at hden
  obtain ⟨vs, rfl, hl⟩ := hden
  simp only [DenL] at hl
  obtain ⟨x, xs', rfl, hx, hr⟩ := hl
  simp only [Den] at hx
  obtain ⟨cs, rfl, hc⟩ := hx
  obtain ⟨ws, d1, hK⟩ := anyC_ok hK hc
  exact ⟨_, _, _, _, _, rfl, hst, by simp only [Den]; exact ⟨_, rfl, .cons (by simp only [Den]; exact ⟨cs, rfl, d1⟩) hr⟩, hK⟩
end Vc
