import Derived.Test.YtodibmhakdhflaaVdT
namespace Go.Proofs.Ytodibmhakdhflaa
open Vc Go
set_option linter.unusedVariables false
set_option linter.unusedSimpArgs false
/-- A call: its kind, its value, its beginning, its end. -/
abbrev Call := Int × Int × Int × Int
def okC (c : Call) : Prop := 1 ≤ c.1 ∧ c.1 ≤ 3 ∧ 0 ≤ c.2.2.1 ∧ (c.2.2.2 = -1 ∨ c.2.2.1 ≤ c.2.2.2)
def ahC (a b : Call) : Prop := a.2.2.2 ≠ -1 ∧ a.2.2.2 < b.2.2.1
def unC (c : Call) : Prop := c.1 = 3 ∧ c.2.2.2 = -1
def nxC (c : Call) (v : Int) : Int := if c.1 = 1 then c.2.1 else if c.1 = 2 then 0 else v
def fitC (c : Call) (v : Int) : Prop := c.1 = 1 ∨ c.1 = 2 ∨ c.2.1 = v
def atC (l : List Call) (k : Nat) : Call := l.getD k (0, 0, 0, 0)
instance (c : Call) : Decidable (okC c) := by unfold okC; infer_instance
instance (a b : Call) : Decidable (ahC a b) := by unfold ahC; infer_instance
instance (c : Call) : Decidable (unC c) := by unfold unC; infer_instance
instance (c : Call) (v : Int) : Decidable (fitC c v) := by unfold fitC; infer_instance

/-- What is placed: a mask. -/
def full (l : List Call) (m : Nat) : Prop := ∀ k, k < l.length → (atC l k).2.2.2 ≠ -1 → m.testBit k = true
def free (l : List Call) (m k : Nat) : Prop := m.testBit k = false ∧ ¬ unC (atC l k) ∧ ∀ o, o < l.length → m.testBit o = false → ¬ ahC (atC l o) (atC l k)
def setB (m k : Nat) : Nat := m ||| 2 ^ k
theorem setB_bit (m k j : Nat) : (setB m k).testBit j = (m.testBit j || decide (k = j)) := by
  unfold setB
  rw [Nat.testBit_or, Nat.testBit_two_pow]
/-- An order that goes on behind what is placed. -/
def Ext (l : List Call) : Nat → Int → List Nat → Prop
  | m, _, [] => full l m
  | m, v, k :: r => k < l.length ∧ free l m k ∧ fitC (atC l k) v ∧ Ext l (setB m k) (nxC (atC l k) v) r

/-- The document's: what is ahead is a list. -/
def Run (l : List Call) : List Nat → Int → List Nat → Prop
  | _, _, [] => True
  | p, v, k :: r => k < l.length ∧ k ∉ p ∧ ¬ unC (atC l k) ∧ fitC (atC l k) v ∧ (∀ j, j ∈ p → ¬ ahC (atC l k) (atC l j)) ∧ Run l (p ++ [k]) (nxC (atC l k) v) r
def Cov (l : List Call) (o : List Nat) : Prop := ∀ k, k < l.length → okC (atC l k) ∧ ((atC l k).2.2.2 ≠ -1 → k ∈ o)
def Wit (l : List Call) (o : List Nat) : Prop := Run l [] 0 o ∧ Cov l o

theorem run_later {l : List Call} : ∀ {r p : List Nat} {v : Int} {j o : Nat}, Run l p v r → o ∈ r → j ∈ p → ¬ ahC (atC l o) (atC l j)
  | [], p, v, j, o, h, ho, hj => by cases ho
  | k :: r, p, v, j, o, h, ho, hj => by
    obtain ⟨_, _, _, _, h5, h6⟩ := h
    rcases List.mem_cons.1 ho with rfl | ho
    · exact h5 j hj
    · exact run_later h6 ho (List.mem_append_left _ hj)
theorem not_self {c : Call} (h : okC c) : ¬ ahC c c := by unfold okC ahC at *; omega
theorem ext_of_run {l : List Call} : ∀ {r p : List Nat} {v : Int} {m : Nat}, (∀ k, m.testBit k = true ↔ k ∈ p) → Run l p v r → Cov l (p ++ r) → Ext l m v r
  | [], p, v, m, hm, _, hc => fun k hk he => (hm k).2 (by simpa using (hc k hk).2 he)
  | k :: r, p, v, m, hm, h, hc => by
    obtain ⟨h1, h2, h3, h4, h5, h6⟩ := h
    have hbit : ∀ j, m.testBit j = false ↔ j ∉ p := fun j => by rw [← hm j]; simp
    refine ⟨h1, ⟨(hbit k).2 h2, h3, fun o ho hb ha => ?_⟩, h4, ext_of_run (p := p ++ [k]) (fun j => ?_) h6 (by rw [List.append_assoc]; exact hc)⟩
    · have hop : o ∉ p := (hbit o).1 hb
      by_cases hok : o = k
      · subst hok; exact not_self (hc o ho).1 ha
      · have : o ∈ p ++ k :: r := (hc o ho).2 ha.1
        have : o ∈ r := by
          rcases List.mem_append.1 this with h' | h'
          · exact absurd h' hop
          · rcases List.mem_cons.1 h' with h' | h'
            · exact absurd h' hok
            · exact h'
        exact run_later h6 this (by simp) ha
    · rw [setB_bit, Bool.or_eq_true, hm j, List.mem_append, List.mem_singleton, decide_eq_true_eq]
      exact or_congr Iff.rfl eq_comm
theorem run_of_ext {l : List Call} : ∀ {r p : List Nat} {v : Int} {m : Nat}, (∀ k, m.testBit k = true ↔ k ∈ p) → (∀ j, j ∈ p → ∀ o, o < l.length → o ∉ p → ¬ ahC (atC l o) (atC l j)) → Ext l m v r →
    Run l p v r ∧ (∀ k, k < l.length → (atC l k).2.2.2 ≠ -1 → k ∈ p ++ r)
  | [], p, v, m, hm, hp, h => ⟨trivial, fun k hk he => by simpa using (hm k).1 (h k hk he)⟩
  | k :: r, p, v, m, hm, hp, h => by
    obtain ⟨h1, ⟨f1, f2, f3⟩, h4, h5⟩ := h
    have hbit : ∀ j, m.testBit j = false ↔ j ∉ p := fun j => by rw [← hm j]; simp
    have hk : k ∉ p := (hbit k).1 f1
    obtain ⟨k1, k2⟩ := run_of_ext (p := p ++ [k]) (fun j => by
      rw [setB_bit, Bool.or_eq_true, hm j, List.mem_append, List.mem_singleton, decide_eq_true_eq]
      exact or_congr Iff.rfl eq_comm) (fun j hj o ho hop => by
      have hop2 : o ∉ p := fun h => hop (List.mem_append_left _ h)
      rcases List.mem_append.1 hj with hj | hj
      · exact hp j hj o ho hop2
      · rw [List.mem_singleton] at hj
        subst hj
        exact f3 o ho ((hbit o).2 hop2)) h5
    exact ⟨⟨h1, hk, f2, h4, fun j hj => hp j hj k h1 hk, k1⟩, by rw [List.append_assoc] at k2; exact k2⟩
theorem ok_at {l : List Call} : (∀ c ∈ l, okC c) ↔ ∀ k, k < l.length → okC (atC l k) := by
  constructor
  · intro h k hk
    have : atC l k = l[k] := by unfold atC; rw [List.getD_eq_getElem?_getD, List.getElem?_eq_getElem hk]; rfl
    rw [this]; exact h _ (List.getElem_mem hk)
  · intro h c hc
    obtain ⟨k, hk, rfl⟩ := List.getElem_of_mem hc
    have : atC l k = l[k] := by unfold atC; rw [List.getD_eq_getElem?_getD, List.getElem?_eq_getElem hk]; rfl
    rw [← this]; exact h k hk
theorem wit_iff {l : List Call} {o : List Nat} : Wit l o ↔ (∀ c ∈ l, okC c) ∧ Ext l 0 0 o := by
  constructor
  · rintro ⟨h1, h2⟩
    exact ⟨ok_at.2 fun k hk => (h2 k hk).1, ext_of_run (p := []) (fun k => by simp) h1 h2⟩
  · rintro ⟨h1, h2⟩
    obtain ⟨k1, k2⟩ := run_of_ext (p := []) (fun k => by simp) (fun j hj => by cases hj) h2
    exact ⟨k1, fun k hk => ⟨ok_at.1 h1 k hk, k2 k hk⟩⟩
theorem run_lt {l : List Call} : ∀ {r p : List Nat} {v : Int}, Run l p v r → ∀ k ∈ r, k < l.length
  | [], _, _, _, _, hk => by cases hk
  | k :: r, p, v, h, j, hj => by
    rcases List.mem_cons.1 hj with rfl | hj
    · exact h.1
    · exact run_lt h.2.2.2.2.2 j hj
/-- Calls that reach further: of the same kinds and values. -/
theorem wit_wider {l m : List Call} {o : List Nat} (hl : m.length = l.length)
    (hw : ∀ k, k < l.length → okC (atC l k) → (atC m k).1 = (atC l k).1 ∧ (atC m k).2.1 = (atC l k).2.1 ∧ okC (atC m k) ∧ (atC m k).2.2.1 ≤ (atC l k).2.2.1 ∧
      ((atC m k).2.2.2 ≠ -1 → (atC l k).2.2.2 ≠ -1 ∧ (atC l k).2.2.2 ≤ (atC m k).2.2.2) ∧ ((atC m k).1 = 3 → (atC m k).2.2.2 = -1 → (atC l k).2.2.2 = -1))
    (h : Wit l o) : Wit m o := by
  obtain ⟨h1, h2⟩ := h
  refine ⟨?_, fun k hk => ?_⟩
  · suffices hs : ∀ (r p : List Nat) (v : Int), (∀ j ∈ p, j < l.length) → Run l p v r → Run m p v r from hs o [] 0 (fun j hj => by cases hj) h1
    intro r
    induction r with
    | nil => intro p v _ _; trivial
    | cons k r ih =>
      rintro p v hp ⟨k1, k2, k3, k4, k5, k6⟩
      obtain ⟨w1, w2, w3, w4, w5, w6⟩ := hw k k1 (h2 k k1).1
      have hn : nxC (atC m k) v = nxC (atC l k) v := by unfold nxC; rw [w1, w2]
      refine ⟨hl ▸ k1, k2, fun hu => k3 ⟨w1 ▸ hu.1, w6 hu.1 hu.2⟩, by unfold fitC at *; rw [w1, w2]; exact k4, fun j hj ha => ?_, hn ▸ ih _ _ (fun j hj => ?_) k6⟩
      · obtain ⟨x1, x2, x3, x4, x5, x6⟩ := hw j (hp j hj) (h2 j (hp j hj)).1
        have := w5 ha.1
        exact k5 j hj ⟨this.1, by have := ha.2; omega⟩
      · rcases List.mem_append.1 hj with hj | hj
        · exact hp j hj
        · rw [List.mem_singleton] at hj; subst hj; exact k1
  · obtain ⟨w1, w2, w3, w4, w5, w6⟩ := hw k (hl ▸ hk) (h2 k (hl ▸ hk)).1
    exact ⟨w3, fun he => (h2 k (hl ▸ hk)).2 (w5 he).1⟩
end Go.Proofs.Ytodibmhakdhflaa
