/- The library's sort of numbers, as a specification. -/
import Derived.Test.YtkodjbegpheomaaVdP
import Derived.Shelf.Sort.Plain
import Derived.Shelf.Slices.In.SortNone
set_option linter.unusedSimpArgs false
set_option linter.unusedVariables false
namespace Vc
open Go Go.Shelf Go.Sort Go.RowKit Go.Proofs

/-- Blocks of the world's own come to be. -/
theorem Inv.more {σ : Sg} {E : EH} {kb : KB} {W W' : World} (h : Inv σ E kb W) (hos : W'.os = W.os) (htp : W'.tape = W.tape) (hout : W'.output = W.output) (hsz : W.heap.size ≤ W'.heap.size)
    (hbl : ∀ b, b < W.heap.size → W'.heap[b]? = W.heap[b]?) : Step σ E kb W σ E kb W' := by
  refine ⟨⟨h.len, fun i r o h1 h2 => ?_, h.disj, fun b o hb => ?_, h.sep⟩, ⟨hos, htp, hout, hsz, fun b hb _ => hbl b hb⟩, ⟨[], by simp⟩, EH.le.refl E, fun _ h => .inl h, fun _ _ h => .inl h⟩
  · have ho := h.obj i r o h1 h2
    have := ho.mono (τ := []) (W' := W') (EH.le.refl E) (fun b hb => hbl b (ho.lt hb))
    simpa using this
  · have := h.imm b o hb
    rw [hbl b ((Array.getElem?_eq_some_iff.1 this).1)]; exact this

def sortI (l : List Int) : List Int := l.mergeSort fun x y => decide (x ≤ y)
/-- Sorting a slice of a row of ours, from its beginning on. -/
def Ssort (ty : TypeId) : FSpec := fun args kb K => match args, kb with
  | [.sl 0 0 h], [.row ty' 1 R] => ty' = ty ∧ ∃ a t : List Int, R = ints .i64 (a ++ t) ∧ h = a.length ∧ a.length ≤ 1000000 ∧ K (.tup []) [.row ty 1 (ints .i64 (sortI a ++ t))]
  | _, _ => False
theorem sortI_len (l : List Int) : (sortI l).length = l.length := (List.mergeSort_perm l _).length_eq
theorem den_ints {E : EH} {k : IntKind} : ∀ {l : List Int} {xs : List Value}, DenD E (ints k l).flatten xs → xs = l.map (Value.int k)
  | [], xs, h => by simp only [ints, List.map_nil, List.flatten_nil, DenD] at h; simpa using h
  | a :: l, xs, h => by
    simp only [ints, List.map_cons, List.flatten_cons, List.cons_append, List.nil_append, DenD, RepD] at h
    obtain ⟨x, xs', rfl, ⟨rfl, _⟩, h2⟩ := h
    have := den_ints (k := k) (l := l) (xs := xs') (by simpa [ints] using h2)
    rw [this]; rfl
theorem ints_den {E : EH} {k : IntKind} : ∀ (l : List Int), DenD E (ints k l).flatten (l.map (Value.int k))
  | [] => by simp [ints, DenD]
  | a :: l => by
    simp only [ints, List.map_cons, List.flatten_cons, List.cons_append, List.nil_append, DenD, RepD]
    exact ⟨_, _, rfl, ⟨rfl, rfl⟩, by simpa [ints] using ints_den l⟩
theorem okSort_of {P : Program} {ρ : Ren} (Ly : Lays.n189 P ρ) (ty : TypeId) : SpecOk P (ρ.f 189) (Ssort ty) := fun args kb K h σ E W xs hi hd => by
  unfold Ssort at h
  split at h <;> try exact h.elim
  rename_i hh ty' R
  obtain ⟨rfl, a, t, rfl, rfl, hsz, h⟩ := h
  simp only [DenL, Den] at hd
  obtain ⟨x, xs', rfl, ⟨r, ad, hr, rfl, _, hcap, had⟩, rfl⟩ := hd
  have ho := hi.obj 0 r _ hr rfl
  obtain ⟨k1, k2, k3, k4, k5⟩ := ho
  rw [ints_len] at k3
  simp only [Nat.sub_zero] at *
  rcases Nat.eq_zero_or_pos a.length with h0 | h0
  · have ha : a = [] := List.eq_nil_of_length_eq_zero h0
    subst ha
    refine (Any.slices_Sort_int_none Ly ad r.cap W).mono ?_
    rintro e W' ⟨rfl, rfl⟩
    have e0 : sortI [] = [] := by unfold sortI; simp
    rw [e0] at h
    exact ⟨_, .tup [], σ, E, _, rfl, Step.refl hi, by simp [Den, DenL], h⟩
  · have hc0 : r.cap ≠ 0 := by omega
    rcases k5 with k5 | ⟨arr, k5, k6, k7⟩
    · exact absurd k5 hc0
    rw [had (by omega), Nat.zero_mul]
    rw [ints_len, Nat.mul_one] at k7
    have hxs := den_ints k7
    have harr : arr.size = r.cap := by omega
    have hcell : ∀ j (hj : j < a.length), arr[j]? = some (.int .i64 a[j]) := fun j hj => by
      have h1 : (arr.toList.take (a ++ t).length)[j]? = some (.int .i64 a[j]) := by
        rw [hxs, List.getElem?_map, List.getElem?_append_left hj, List.getElem?_eq_getElem hj]; rfl
      rw [List.getElem?_take_of_lt (by rw [List.length_append]; omega)] at h1
      simpa using h1
    have hb : r.blk < W.heap.size := (Array.getElem?_eq_some_iff.1 k5).1
    have hH : Holds (Value.int .i64) W r.blk 0 a.toArray := fun j hj => by
      have hj' : j < a.length := by simpa using hj
      refine ⟨?_, ?_⟩
      · rw [Nat.zero_add, cell_of_heap k5, hcell j hj']
        simp [hj']
      · unfold World.frozen?
        simp [k5]
    refine (Any.slices_Sort_int Ly r.blk 0 r.cap a W hH hb (by omega)).mono ?_
    rintro e W' ⟨rfl, n, os, rfl⟩
    have hsl := sortI_len a
    -- the cells behind it
    have hcells : (mapBlock (Go.Sort.ahead W n) r.blk (putCells (Value.int .i64) 0 (sortI a).toArray)).heap[r.blk]? = some (.cells (putCells (Value.int .i64) 0 (sortI a).toArray arr) ty' (0, 0)) := by
      unfold mapBlock Go.Sort.ahead
      simp [Array.getElem?_modify, k5, onCells]
    have hother : ∀ b, b ≠ r.blk → (mapBlock (Go.Sort.ahead W n) r.blk (putCells (Value.int .i64) 0 (sortI a).toArray)).heap[b]? = W.heap[b]? := fun b hb => by
      unfold mapBlock Go.Sort.ahead
      simp [Array.getElem?_modify, Ne.symm hb]
    have hlist : (putCells (Value.int .i64) 0 (sortI a).toArray arr).toList.take (a ++ t).length = (sortI a ++ t).map (Value.int .i64) := by
      apply List.ext_getElem?
      intro j
      rcases Nat.lt_or_ge j (a ++ t).length with hj | hj
      · rw [List.getElem?_take_of_lt hj]
        have hja : j < arr.size := by rw [List.length_append] at hj; rw [List.length_append] at k3; omega
        rw [List.getElem?_map]
        unfold putCells
        simp only [Array.getElem?_toList, Array.getElem?_mapIdx, Array.getElem?_eq_getElem hja, Option.map_some, Nat.zero_le, true_and, Nat.zero_add, List.size_toArray, Nat.sub_zero]
        by_cases hjs : j < (sortI a).length
        · rw [if_pos hjs, List.getElem?_append_left hjs, List.getElem?_eq_getElem hjs]
          simp [hjs]
        · rw [if_neg hjs, List.getElem?_append_right (by omega), hsl]
          have h1 : (arr.toList.take (a ++ t).length)[j]? = ((a ++ t).map (Value.int .i64))[j]? := by rw [hxs]
          rw [List.getElem?_take_of_lt hj, List.getElem?_map, List.getElem?_append_right (by omega)] at h1
          rw [← h1]
          simp [hja]
      · rw [List.getElem?_eq_none (by rw [List.length_take]; omega), List.getElem?_eq_none (by rw [List.length_map, List.length_append, hsl, ← List.length_append]; exact hj)]
    have hset := hi.set (W' := mapBlock (Go.Sort.ahead W n) r.blk (putCells (Value.int .i64) 0 (sortI a).toArray)) (o' := .row ty' 1 (ints .i64 (sortI a ++ t))) hr rfl rfl rfl rfl (by unfold mapBlock Go.Sort.ahead; simp)
      (fun b hb => hother b (fun e => hb ⟨hc0, e⟩)) (fun b hb => hb)
      ⟨k1, fun e he => by simp only [ints, List.mem_map] at he; obtain ⟨_, _, rfl⟩ := he; rfl, by rw [ints_len, List.length_append, hsl, ← List.length_append]; exact k3, k4, .inr ⟨_, hcells, by rw [← k6]; unfold putCells; simp, by
        rw [ints_len, Nat.mul_one, List.length_append, hsl, ← List.length_append, hlist]; exact ints_den _⟩⟩
    have hmore := hset.inv.more (W' := grow (mapBlock (Go.Sort.ahead W n) r.blk (putCells (Value.int .i64) 0 (sortI a).toArray)) os) rfl rfl rfl (by unfold grow; simp) (fun b hb => by
      unfold grow
      simp only
      rw [Array.getElem?_append_left hb])
    exact ⟨_, .tup [], σ, E, _, rfl, hset.trans hmore, by simp [Den, DenL], h⟩
end Vc
