/- Literals of structs, arrays and slices. -/
import Derived.Test.YtgadaeodoapgiaaVcG
import Derived.Laws.Tables
set_option linter.unusedVariables false
namespace Vc
open Go

def cellsL : V → Option (List V)
  | .agg vs => some vs
  | v => match V.one v with | true => some [v] | false => none

theorem cellsL_ok {v : V} {vs : List V} (h : cellsL v = some vs) {σ : Sg} {E : EH} {x : Value} (hd : Den σ E v x) : ∃ xs, x.cells = xs.toArray ∧ DenL σ E vs xs := by
  unfold cellsL at h
  split at h
  · cases h
    simp only [Den] at hd
    obtain ⟨xs, rfl, hD⟩ := hd
    exact ⟨xs, rfl, hD⟩
  · split at h
    · rename_i h1
      cases h
      have h2 := one_den h1 hd
      refine ⟨[x], ?_, .cons hd .nil⟩
      cases x <;> simp_all [Value.cells, Value.oneCell']
    · cases h

def fillV (place : Nat → Option (Nat × Nat)) (l : List V) : List (Nat × V) → Option (List V)
  | [] => some l
  | (i, v) :: rest => match place i, cellsL v with
    | some (off, size), some vs => match Nat.beq vs.length size, Nat.ble (off + vs.length) l.length with
      | true, true => fillV place (splice l off vs) rest
      | _, _ => none
    | _, _ => none

theorem splice_cons {α : Type} (c : α) (l : List α) (n : Nat) (vs : List α) : splice (c :: l) (n + 1) vs = c :: splice l n vs := by
  simp only [splice, List.take_succ_cons, List.cons_append]
  rw [show n + 1 + vs.length = (n + vs.length) + 1 by omega, List.drop_succ_cons]

theorem splice_set {α : Type} : ∀ (l : List α) (n : Nat) (v : α) (vs : List α), n + 1 + vs.length ≤ l.length → splice (l.set n v) (n + 1) vs = splice l n (v :: vs)
  | [], n, v, vs, h => by simp at h
  | c :: l, 0, v, vs, h => by
    rw [List.set_cons_zero, splice_cons]
    simp [splice]
  | c :: l, n + 1, v, vs, h => by
    rw [List.set_cons_succ, splice_cons, splice_cons, splice_set l n v vs (by simp at h; omega)]

theorem foldl_zip (off : Nat) : ∀ (vs : List Value) (k : Nat) (cs : Array Value), off + k + vs.length ≤ cs.size →
    ((vs.zipIdx k).foldl (fun cs (c, j) => cs.setIfInBounds (off + j) c) cs).toList = splice cs.toList (off + k) vs
  | [], k, cs, _ => by simp [splice]
  | v :: vs, k, cs, h => by
    simp only [List.length_cons] at h
    simp only [List.zipIdx_cons, List.foldl_cons]
    rw [foldl_zip off vs (k + 1) _ (by simp; omega), Array.toList_setIfInBounds]
    exact splice_set cs.toList (off + k) v vs (by simp; omega)

def DenP (σ : Sg) (E : EH) : List (Nat × V) → List (Nat × Value) → Prop
  | [], xs => xs = []
  | (i, v) :: vs, xs => ∃ x xs', xs = (i, x) :: xs' ∧ Den σ E v x ∧ DenP σ E vs xs'

theorem fillV_ok {place : Nat → Option (Nat × Nat)} {σ : Sg} {E : EH} : ∀ {parts : List (Nat × V)} {l r : List V}, fillV place l parts = some r → ∀ {xs : List Value}, DenL σ E l xs → ∀ {ps : List (Nat × Value)}, DenP σ E parts ps →
    ∃ ys, Instr.fill place xs.toArray ps = some ys.toArray ∧ DenL σ E r ys
  | [], l, r, h, xs, hd, ps, hp => by
    simp only [fillV] at h; cases h
    simp only [DenP] at hp; subst hp
    exact ⟨xs, rfl, hd⟩
  | (i, v) :: rest, l, r, h, xs, hd, ps, hp => by
    simp only [DenP] at hp
    obtain ⟨x, xs', rfl, hv, hp⟩ := hp
    simp only [fillV] at h
    split at h
    · rename_i off size vs hpl hc
      split at h
      · rename_i hb1 hb2
        obtain ⟨ys, h1, h2⟩ := cellsL_ok hc hv
        have hs := Nat.eq_of_beq_eq_true hb1
        have hle := Nat.le_of_ble_eq_true hb2
        rw [← h2.len] at hs hle
        rw [← hd.len] at hle
        obtain ⟨zs, h3, h4⟩ := fillV_ok h (denL_splice hd h2 off) hp
        refine ⟨zs, ?_, h4⟩
        simp only [Instr.fill, hpl, h1, List.size_toArray]
        rw [if_neg (by simp; omega)]
        have hz := foldl_zip off ys 0 xs.toArray (by simpa using hle)
        simp only [Nat.add_zero] at hz
        rw [← h3]
        congr 1
        apply Array.ext'
        rw [← Array.foldl_toList, Array.toList_zipIdx]
        exact hz
      · cases h
    · cases h

def buildV (P : Program) (t : TypeId) (parts : List (Nat × V)) : Option (List V) :=
  match P.info? t, P.underlying t with
  | some it, some (.array _ e) =>
    match it.zero, P.info? e with
    | some z, some ie => fillV (fun i => some (i * ie.size, ie.size)) (z.cells.toList.map cvc1) parts
    | _, _ => none
  | some it, some (.struct fields) =>
    match it.zero, fields.toList.mapM (fun f => (P.info? f.type).map fun i => (f.offset, i.size)) with
    | some z, some places => fillV (places.toArray[·]?) (z.cells.toList.map cvc1) parts
    | _, _ => none
  | _, _ => none

theorem buildV_ok {P : Program} {t : TypeId} {parts : List (Nat × V)} {r : List V} (h : buildV P t parts = some r) {σ : Sg} {E : EH} {ps : List (Nat × Value)} (hp : DenP σ E parts ps) :
    ∃ x, (∀ W, (Instr.build t ps.toArray).run P W = .ok x W) ∧ Den σ E (.agg r) x := by
  unfold buildV at h
  split at h
  · rename_i it m e hi hu
    split at h
    · rename_i z ie hz hie
      obtain ⟨ys, h1, h2⟩ := fillV_ok h (denL_cvc1 σ E z.cells.toList) hp
      exact ⟨_, fun W => run_build W t ps.toArray ys.toArray (by simp only [Program.built, hi, hu, hz, hie]; simpa using h1), by simp only [Den]; exact ⟨ys, rfl, h2⟩⟩
    · cases h
  · rename_i it fields hi hu
    split at h
    · rename_i z places hz hpl
      obtain ⟨ys, h1, h2⟩ := fillV_ok h (denL_cvc1 σ E z.cells.toList) hp
      exact ⟨_, fun W => run_build W t ps.toArray ys.toArray (by simp only [Program.built, hi, hu, hz, hpl]; simpa using h1), by simp only [Den]; exact ⟨ys, rfl, h2⟩⟩
    · cases h
  · cases h

/-- A list, parted into pieces of n + 1. -/
def chunk {α : Type} (n : Nat) : Nat → List α → List (List α)
  | 0, _ => []
  | m + 1, l => match l with | [] => [] | _ => l.take (n + 1) :: chunk n m (l.drop (n + 1))

def allLen {α : Type} (n : Nat) : List (List α) → Bool
  | [] => true
  | e :: l => Nat.beq e.length n && allLen n l
theorem allLen_ok {α : Type} {n : Nat} : ∀ {l : List (List α)}, allLen n l = true → ∀ e ∈ l, e.length = n
  | [], _, e, he => by cases he
  | c :: l, h, e, he => by
    simp only [allLen, Bool.and_eq_true] at h
    rcases List.mem_cons.1 he with rfl | he
    · exact Nat.eq_of_beq_eq_true h.1
    · exact allLen_ok h.2 e he

theorem chunk_flatten {α : Type} {n : Nat} : ∀ {m : Nat} {l : List α}, l.length ≤ m → (chunk n m l).flatten = l
  | 0, l, h => by have := List.eq_nil_of_length_eq_zero (Nat.le_zero.1 h); subst this; rfl
  | m + 1, [], _ => rfl
  | m + 1, a :: l, h => by
    simp only [chunk, List.flatten_cons]
    rw [chunk_flatten (by simp at h ⊢; omega)]
    exact List.take_append_drop _ _

def buildSliceK (P : Program) (t : TypeId) (len : Nat) (parts : List (Nat × V)) (kb : KB) (K : V → KB → Prop) : Prop :=
  match P.underlying t with
  | some (.slice elem) =>
    match P.info? elem with
    | some i =>
      match i.zero, i.size with
      | some z, s + 1 =>
        match Nat.ble (len * (s + 1)) 16777216, Nat.beq z.cells.size (s + 1) with
        | true, true =>
          match fillV (fun j => some (j * (s + 1), s + 1)) (((Array.range (len * (s + 1))).map (z.cells[· % z.cells.size]!)).toList.map cvc1) parts with
          | some vs => match V.vals? vs with
            | some xs => match allLen (s + 1) (chunk s (len * (s + 1)) xs), Nat.beq (chunk s (len * (s + 1)) xs).length len, xs.all Value.oneCell', Nat.beq xs.length (len * (s + 1)) with
              | true, true, true, true => K (.sl kb.length 0 len) (kb ++ [.row elem (s + 1) (chunk s (len * (s + 1)) xs)])
              | _, _, _, _ => False
            | none => False
          | none => False
        | _, _ => False
      | _, _ => False
    | none => False
  | _ => False

theorem buildSliceK_ok {P : Program} {t : TypeId} {len : Nat} {parts : List (Nat × V)} {kb : KB} {K : V → KB → Prop} (h : buildSliceK P t len parts kb K) {σ : Sg} {E : EH} {W : World} (hi : Inv σ E kb W) {ps : List (Nat × Value)}
    (hp : DenP σ E parts ps) : ∃ v x σ' kb' W', (Instr.buildSlice t len ps.toArray).run P W = .ok x W' ∧ Step σ E kb W σ' E kb' W' ∧ Den σ' E v x ∧ K v kb' := by
  unfold buildSliceK at h
  split at h <;> try exact h.elim
  rename_i elem ht
  split at h <;> try exact h.elim
  rename_i i hinf
  split at h <;> try exact h.elim
  rename_i z s hz hs
  split at h <;> try exact h.elim
  rename_i hb1 hb2
  split at h <;> try exact h.elim
  rename_i vs hf
  split at h <;> try exact h.elim
  rename_i xs hxs
  split at h <;> try exact h.elim
  rename_i g1 g2 g3 g4
  have hle := Nat.le_of_ble_eq_true hb1
  obtain ⟨ys, h1, h2⟩ := fillV_ok hf (denL_cvc1 σ E _) hp
  have hyx := (vals?_den hxs).1 h2
  subst hyx
  have hlen := Nat.eq_of_beq_eq_true g4
  have hcl := Nat.eq_of_beq_eq_true g2
  have hfl : (chunk s (len * (s + 1)) ys).flatten = ys := chunk_flatten (by omega)
  have hl1 : len ≤ len * (s + 1) := Nat.le_mul_of_pos_right _ (Nat.succ_pos s)
  have hw : wellE (s + 1) (chunk s (len * (s + 1)) ys) := fun e he => ⟨allLen_ok g1 e he, fun c hc => by
    refine List.all_eq_true.1 g3 c ?_
    rw [← hfl]
    exact List.mem_flatten.2 ⟨e, he, hc⟩⟩
  have hrun : (Instr.buildSlice t len ps.toArray).run P W = .ok (.slice (some ⟨W.heap.size, 0, none⟩) len len) (W.alloc (.cells ys.toArray elem)) := by
    have earr : ∀ (n : Nat), ((Array.range n).map (z.cells[· % z.cells.size]!)).toList.toArray = (Array.range n).map (z.cells[· % z.cells.size]!) := fun n => Array.toArray_toList
    have hfill : Instr.fill (fun j => some (j * (s + 1), s + 1)) ((Array.range (len * (s + 1))).map (z.cells[· % z.cells.size]!)) ps = some ys.toArray := by rw [← earr]; exact h1
    by_cases hl0 : len * (s + 1) = 0
    · have e0 : ((Array.range (len * (s + 1))).map (fun (x : Nat) => (#[] : Array Value)[x % (#[] : Array Value).size]!)) = ((Array.range (len * (s + 1))).map (z.cells[· % z.cells.size]!)) := by rw [hl0]; apply Array.ext'; simp
      have hn : ¬ len * (s + 1) > 2 ^ 24 := by omega
      unfold Instr.buildSlice
      rw [Sem.run_bind, run_underlying ht, Result.andThen_ok]
      simp only []
      rw [Sem.run_bind, show (Go.sizeOf elem).run P W = .ok (s + 1) W by simp [Go.sizeOf, typeInfo, hinf, hs], Result.andThen_ok]
      simp only [hn, if_false]
      rw [if_pos hl0, Sem.run_bind, Sem.run_pure, Result.andThen_ok]
      simp only [e0, hfill]
      simp [newRow]
    · have hn : ¬ len * (s + 1) > 2 ^ 24 := by omega
      unfold Instr.buildSlice
      rw [Sem.run_bind, run_underlying ht, Result.andThen_ok]
      simp only []
      rw [Sem.run_bind, show (Go.sizeOf elem).run P W = .ok (s + 1) W by simp [Go.sizeOf, typeInfo, hinf, hs], Result.andThen_ok]
      simp only [hn, if_false]
      rw [if_neg hl0, Sem.run_bind, show (zeroValue elem).run P W = .ok z W by simp [zeroValue, typeInfo, hinf, hz], Result.andThen_ok, Sem.run_bind, Sem.run_pure, Result.andThen_ok]
      simp only [hfill]
      simp [newRow]
  have hst : Step σ E kb W (σ ++ [⟨W.heap.size, len, s + 1⟩]) E (kb ++ [.row elem (s + 1) (chunk s (len * (s + 1)) ys)]) (W.alloc (.cells ys.toArray elem)) :=
    alloc_row hi hw (by omega) (by simp only [maxLen]; omega) (by simpa using hlen) (by rw [hcl, hfl, ← hlen]; simp)
  exact ⟨_, _, _, _, _, hrun, hst, by simp only [Den]; exact ⟨⟨W.heap.size, len, s + 1⟩, _, by rw [← hi.len]; simp, rfl, by simp, by simp, by simp⟩, h⟩
end Vc
