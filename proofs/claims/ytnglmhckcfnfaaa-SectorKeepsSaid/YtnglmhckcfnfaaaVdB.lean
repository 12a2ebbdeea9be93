/- The symbolic memory's invariant, and what a stretch of a walk may do to the world. -/
import Derived.Test.YtnglmhckcfnfaaaVdA
set_option linter.unusedSimpArgs false
set_option linter.unusedVariables false
namespace Vc
open Go

def cellV (agg : Bool) (cs : List Value) : Value := if agg then .agg cs.toArray else cs.getD 0 undef

/-- The cells of a key. -/
def keyC (kks : List IntKind) (k : List Int) : List Value := List.zipWith Value.int kks k
/-- The entries of a map. -/
def EntL (E : EH) (kks : List IntKind) (kagg agg : Bool) : List MapEntry → List (List Int × List D) → Prop
  | [], l => l = []
  | e :: es, l => ∃ k c l', l = (k, c) :: l' ∧ (k.length = kks.length ∧ e.key = cellV kagg (keyC kks k) ∧ ∃ ys, e.val = cellV agg ys ∧ DenD E c ys) ∧ EntL E kks kagg agg es l'
theorem EntL.mono {E E' : EH} (hE : E.le E') {kks : List IntKind} {kagg agg : Bool} : ∀ {es : List MapEntry} {l : List (List Int × List D)}, EntL E kks kagg agg es l → EntL E' kks kagg agg es l
  | [], _, h => by simpa only [EntL] using h
  | e :: es, _, h => by
    simp only [EntL] at h ⊢
    obtain ⟨k, c, l', h0, ⟨h1, h1', ys, h2, h3⟩, h4⟩ := h
    exact ⟨k, c, l', h0, ⟨h1, h1', ys, h2, h3.mono hE⟩, h4.mono hE⟩
theorem EntL.len {E : EH} {kks : List IntKind} {kagg agg : Bool} : ∀ {es : List MapEntry} {l : List (List Int × List D)}, EntL E kks kagg agg es l → es.length = l.length
  | [], _, h => by simp only [EntL] at h; simp [h]
  | e :: es, _, h => by
    simp only [EntL] at h
    obtain ⟨k, c, l', rfl, _, h4⟩ := h
    simp [h4.len]
/-- No two entries of a map came at the same time. -/
def BornOk (es : List MapEntry) (clock : Nat) : Prop := (es.map (·.born)).Nodup ∧ ∀ e ∈ es, e.born < clock

/-- What lies in a channel. -/
def BufL (E : EH) (agg : Bool) : List Value → List (List D) → Prop
  | [], l => l = []
  | v :: vs, l => ∃ c l', l = c :: l' ∧ (∃ ys, v = cellV agg ys ∧ DenD E c ys) ∧ BufL E agg vs l'
theorem BufL.mono {E E' : EH} (hE : E.le E') {agg : Bool} : ∀ {vs : List Value} {l : List (List D)}, BufL E agg vs l → BufL E' agg vs l
  | [], _, h => by simpa only [BufL] using h
  | v :: vs, _, h => by
    simp only [BufL] at h ⊢
    obtain ⟨c, l', h0, ⟨ys, h1, h2⟩, h3⟩ := h
    exact ⟨c, l', h0, ⟨ys, h1, h2.mono hE⟩, h3.mono hE⟩
theorem BufL.len {E : EH} {agg : Bool} : ∀ {vs : List Value} {l : List (List D)}, BufL E agg vs l → vs.length = l.length
  | [], _, h => by simp only [BufL] at h; subst h; rfl
  | v :: vs, _, h => by
    simp only [BufL] at h
    obtain ⟨c, l', rfl, _, h3⟩ := h
    simp [h3.len]
theorem BufL.snoc {E : EH} {agg : Bool} {v : Value} {c : List D} (h1 : ∃ ys, v = cellV agg ys ∧ DenD E c ys) : ∀ {vs : List Value} {l : List (List D)}, BufL E agg vs l → BufL E agg (vs ++ [v]) (l ++ [c])
  | [], _, h => by
    simp only [BufL] at h; subst h
    simp only [List.nil_append, BufL]
    exact ⟨c, [], rfl, h1, rfl⟩
  | u :: vs, _, h => by
    simp only [BufL] at h
    obtain ⟨d, l', rfl, h2, h3⟩ := h
    simp only [List.cons_append, BufL]
    exact ⟨d, l' ++ [c], rfl, h2, h3.snoc h1⟩

/-- What stands in a world for a block of ours. -/
def HoldsO (σ : Sg) (E : EH) (W : World) (r : Re) : KO → Prop
  | .cells l => ∃ arr ty, W.heap[r.blk]? = some (.cells arr ty (0, 0)) ∧ DenC σ E l arr.toList
  | .row ty sz l => r.sz = sz ∧ wl sz l ∧ l.length ≤ r.cap ∧ r.cap ≤ maxLen ∧
      (r.cap = 0 ∨ ∃ arr, W.heap[r.blk]? = some (.cells arr ty (0, 0)) ∧ arr.size = r.cap * sz ∧ DenD E l.flatten (arr.toList.take (l.length * sz)))
  | .mp kks kagg agg sz l => wl sz (l.map (·.2)) ∧ ∃ es clock, W.heap[r.blk]? = some (.map es clock) ∧ EntL E kks kagg agg es.toList l ∧ BornOk es.toList clock
  | .ch agg sz cap l => wl sz l ∧ l.length ≤ cap ∧ ∃ buf s r', W.heap[r.blk]? = some (.chan cap buf false s r' false) ∧ BufL E agg buf.toList l
  | .dead => True

/-- Is the block b ours by this entry? -/
def owned (r : Re) : KO → Nat → Prop
  | .cells _, b => b = r.blk
  | .row .., b => r.cap ≠ 0 ∧ b = r.blk
  | .mp .., b => b = r.blk
  | .ch .., b => b = r.blk
  | .dead, _ => False

def Owns (σ : Sg) (kb : KB) (b : Nat) : Prop := ∃ (i : Nat) (r : Re) (o : KO), σ[i]? = some r ∧ kb[i]? = some o ∧ owned r o b

structure Inv (σ : Sg) (E : EH) (kb : KB) (W : World) : Prop where
  len : σ.length = kb.length
  obj : ∀ (i : Nat) (r : Re) (o : KO), σ[i]? = some r → kb[i]? = some o → HoldsO σ E W r o
  disj : ∀ (i j : Nat) (r r' : Re) (o o' : KO) (b : Nat), i ≠ j → σ[i]? = some r → kb[i]? = some o → σ[j]? = some r' → kb[j]? = some o' → owned r o b → owned r' o' b → False
  imm : ∀ b o, E b = some o → W.heap[b]? = some o
  sep : ∀ b, Owns σ kb b → E b = none

theorem HoldsO.lt {σ : Sg} {E : EH} {W : World} {r : Re} {o : KO} (h : HoldsO σ E W r o) {b : Nat} (ho : owned r o b) : b < W.heap.size := by
  cases o with
  | cells l =>
    obtain ⟨arr, ty, h1, _⟩ := h
    simp only [owned] at ho
    subst ho
    exact (Array.getElem?_eq_some_iff.1 h1).1
  | row ty sz l =>
    simp only [owned] at ho
    obtain ⟨_, _, _, _, h4⟩ := h
    rcases h4 with h4 | ⟨arr, h4, _⟩
    · exact absurd h4 ho.1
    · rw [ho.2]; exact (Array.getElem?_eq_some_iff.1 h4).1
  | mp kks kagg agg sz l =>
    obtain ⟨_, es, ck, h1, _⟩ := h
    simp only [owned] at ho
    subst ho
    exact (Array.getElem?_eq_some_iff.1 h1).1
  | ch agg sz cap l =>
    obtain ⟨_, _, bf, s, rr, h1, _⟩ := h
    simp only [owned] at ho
    subst ho
    exact (Array.getElem?_eq_some_iff.1 h1).1
  | dead => exact ho.elim

theorem Inv.lt {σ : Sg} {E : EH} {kb : KB} {W : World} (h : Inv σ E kb W) {b : Nat} (ho : Owns σ kb b) : b < W.heap.size := by
  obtain ⟨i, r, o, h1, h2, h3⟩ := ho
  exact (h.obj i r o h1 h2).lt h3

theorem HoldsO.mono {σ τ : Sg} {E E' : EH} {W W' : World} (hE : E.le E') {r : Re} {o : KO} (h : HoldsO σ E W r o) (hb : ∀ b, owned r o b → W'.heap[b]? = W.heap[b]?) : HoldsO (σ ++ τ) E' W' r o := by
  cases o with
  | cells l =>
    obtain ⟨arr, ty, h1, h2⟩ := h
    exact ⟨arr, ty, by rw [hb r.blk rfl]; exact h1, DenC.mono hE h2⟩
  | row ty sz l =>
    obtain ⟨h0, h1, h2, h3, h4⟩ := h
    refine ⟨h0, h1, h2, h3, ?_⟩
    rcases h4 with h4 | ⟨arr, h4, h5⟩
    · exact .inl h4
    · by_cases hc : r.cap = 0
      · exact .inl hc
      · exact .inr ⟨arr, by rw [hb r.blk ⟨hc, rfl⟩]; exact h4, h5.1, h5.2.mono hE⟩
  | mp kks kagg agg sz l =>
    obtain ⟨h0, es, ck, h1, h2, h3⟩ := h
    exact ⟨h0, es, ck, by rw [hb r.blk rfl]; exact h1, h2.mono hE, h3⟩
  | ch agg sz cap l =>
    obtain ⟨h0, h00, bf, s, rr, h1, h2⟩ := h
    exact ⟨h0, h00, bf, s, rr, by rw [hb r.blk rfl]; exact h1, h2.mono hE⟩
  | dead => trivial

/-- From one world to another: but for the blocks in O all that was there is as it was. -/
structure Stp (O : Nat → Prop) (W W' : World) : Prop where
  os : W'.os = W.os
  tape : W'.tape = W.tape
  output : W'.output = W.output
  size : W.heap.size ≤ W'.heap.size
  block : ∀ k, k < W.heap.size → ¬ O k → W'.heap[k]? = W.heap[k]?

theorem Stp.refl (O : Nat → Prop) (W : World) : Stp O W W := ⟨rfl, rfl, rfl, Nat.le_refl _, fun _ _ _ => rfl⟩

/-- What a stretch of a run has done, from one state of ours to another. -/
structure Step (σ : Sg) (E : EH) (kb : KB) (W : World) (σ' : Sg) (E' : EH) (kb' : KB) (W' : World) : Prop where
  inv : Inv σ' E' kb' W'
  stp : Stp (Owns σ kb) W W'
  pre : ∃ τ, σ' = σ ++ τ
  le : E.le E'
  own : ∀ b, Owns σ' kb' b → Owns σ kb b ∨ W.heap.size ≤ b
  new : ∀ b o, E' b = some o → E b = some o ∨ Owns σ kb b ∨ W.heap.size ≤ b

theorem Step.refl {σ : Sg} {E : EH} {kb : KB} {W : World} (h : Inv σ E kb W) : Step σ E kb W σ E kb W :=
  ⟨h, Stp.refl _ _, ⟨[], by simp⟩, EH.le.refl E, fun _ h => .inl h, fun _ _ h => .inl h⟩

theorem Step.trans {σ σ' σ'' : Sg} {E E' E'' : EH} {kb kb' kb'' : KB} {W W' W'' : World}
    (h : Step σ E kb W σ' E' kb' W') (k : Step σ' E' kb' W' σ'' E'' kb'' W'') : Step σ E kb W σ'' E'' kb'' W'' := by
  have hsz := h.stp.size
  refine ⟨k.inv, ⟨k.stp.os.trans h.stp.os, k.stp.tape.trans h.stp.tape, k.stp.output.trans h.stp.output, Nat.le_trans hsz k.stp.size, fun b hb hn => ?_⟩, ?_, h.le.trans k.le, fun b hb => ?_, fun b o hb => ?_⟩
  · rw [k.stp.block b (by omega) (fun ho => ?_)]
    · exact h.stp.block b hb hn
    · rcases h.own b ho with h1 | h1
      · exact hn h1
      · omega
  · obtain ⟨τ, rfl⟩ := h.pre
    obtain ⟨τ', rfl⟩ := k.pre
    exact ⟨τ ++ τ', by simp⟩
  · rcases k.own b hb with h1 | h1
    · exact h.own b h1
    · exact .inr (by omega)
  · rcases k.new b o hb with h1 | h1 | h1
    · exact h.new b o h1
    · rcases h.own b h1 with h2 | h2
      · exact .inr (.inl h2)
      · exact .inr (.inr h2)
    · exact .inr (.inr (by omega))

/-- A new block of ours, in a world in which all that was there is as it was. -/
theorem Inv.grow {σ : Sg} {E : EH} {kb : KB} {W W' : World} (h : Inv σ E kb W) (r : Re) (o : KO) (hos : W'.os = W.os) (htp : W'.tape = W.tape) (hout : W'.output = W.output) (hsz : W.heap.size ≤ W'.heap.size)
    (hold : ∀ b, b < W.heap.size → W'.heap[b]? = W.heap[b]?) (hr : ∀ b, owned r o b → W.heap.size ≤ b) (ho : HoldsO (σ ++ [r]) E W' r o) : Step σ E kb W (σ ++ [r]) E (kb ++ [o]) W' := by
  have hown : ∀ b, Owns (σ ++ [r]) (kb ++ [o]) b → Owns σ kb b ∨ W.heap.size ≤ b := by
    rintro b ⟨i, r', o', h1, h2, h3⟩
    rcases Nat.lt_trichotomy i σ.length with hi | hi | hi
    · rw [List.getElem?_append_left hi] at h1
      rw [List.getElem?_append_left (by rw [← h.len]; exact hi)] at h2
      exact .inl ⟨i, r', o', h1, h2, h3⟩
    · subst hi
      rw [List.getElem?_append_right (Nat.le_refl _)] at h1
      rw [h.len, List.getElem?_append_right (Nat.le_refl _)] at h2
      simp at h1 h2
      subst h1; subst h2
      exact .inr (hr b h3)
    · rw [List.getElem?_eq_none (by simp; omega)] at h1; cases h1
  refine ⟨⟨by simp [h.len], fun i r' o' h1 h2 => ?_, fun i j r1 r2 o1 o2 b hij h1 h2 h3 h4 h5 h6 => ?_, fun b x hb => ?_, fun b hb => ?_⟩, ⟨hos, htp, hout, hsz, fun b hb _ => hold b hb⟩, ⟨[r], rfl⟩, EH.le.refl E, hown, fun b x hb => .inl hb⟩
  · rcases Nat.lt_trichotomy i σ.length with hi | hi | hi
    · rw [List.getElem?_append_left hi] at h1
      rw [List.getElem?_append_left (by rw [← h.len]; exact hi)] at h2
      exact (h.obj i r' o' h1 h2).mono (EH.le.refl E) (fun b hb => hold b ((h.obj i r' o' h1 h2).lt hb))
    · subst hi
      rw [List.getElem?_append_right (Nat.le_refl _)] at h1
      rw [h.len, List.getElem?_append_right (Nat.le_refl _)] at h2
      simp at h1 h2
      subst h1; subst h2
      exact ho
    · rw [List.getElem?_eq_none (by simp; omega)] at h1; cases h1
  · have case : ∀ (i : Nat) (r' : Re) (o' : KO), (σ ++ [r])[i]? = some r' → (kb ++ [o])[i]? = some o' → (σ[i]? = some r' ∧ kb[i]? = some o') ∨ (i = σ.length ∧ r' = r ∧ o' = o) := by
      intro i r' o' h1 h2
      rcases Nat.lt_trichotomy i σ.length with hi | hi | hi
      · rw [List.getElem?_append_left hi] at h1
        rw [List.getElem?_append_left (by rw [← h.len]; exact hi)] at h2
        exact .inl ⟨h1, h2⟩
      · subst hi
        rw [List.getElem?_append_right (Nat.le_refl _)] at h1
        rw [h.len, List.getElem?_append_right (Nat.le_refl _)] at h2
        simp at h1 h2
        exact .inr ⟨rfl, h1.symm, h2.symm⟩
      · rw [List.getElem?_eq_none (by simp; omega)] at h1; cases h1
    rcases case i r1 o1 h1 h2 with ⟨a1, a2⟩ | ⟨a1, a2, a3⟩ <;> rcases case j r2 o2 h3 h4 with ⟨b1, b2⟩ | ⟨b1, b2, b3⟩
    · exact h.disj i j r1 r2 o1 o2 b hij a1 a2 b1 b2 h5 h6
    · subst b2; subst b3
      have := (h.obj i r1 o1 a1 a2).lt h5
      have := hr b h6
      omega
    · subst a2; subst a3
      have := (h.obj j r2 o2 b1 b2).lt h6
      have := hr b h5
      omega
    · omega
  · have := h.imm b x hb
    rw [hold b (Array.getElem?_eq_some_iff.1 this).1]
    exact this
  · rcases hown b hb with h1 | h1
    · exact h.sep b h1
    · cases hE : E b with
      | none => rfl
      | some x =>
        have := (Array.getElem?_eq_some_iff.1 (h.imm b x hE)).1
        omega

/-- A new block of ours. -/
theorem Inv.alloc {σ : Sg} {E : EH} {kb : KB} {W : World} (h : Inv σ E kb W) (ob : Obj) (r : Re) (o : KO) (hr : ∀ b, owned r o b → b = W.heap.size)
    (ho : HoldsO (σ ++ [r]) E (W.alloc ob) r o) : Step σ E kb W (σ ++ [r]) E (kb ++ [o]) (W.alloc ob) :=
  h.grow r o rfl rfl rfl (by simp) (fun b hb => by
    show (W.heap.push ob)[b]? = _
    rw [Array.getElem?_push, if_neg (by omega)]) (fun b hb => by rw [hr b hb]; exact Nat.le_refl _) ho

/-- One block of ours is another one. -/
theorem Inv.set {σ : Sg} {E : EH} {kb : KB} {W W' : World} (h : Inv σ E kb W) {i : Nat} {r : Re} {o o' : KO} (hs : σ[i]? = some r) (hk : kb[i]? = some o)
    (hos : W'.os = W.os) (htp : W'.tape = W.tape) (hout : W'.output = W.output) (hsz : W'.heap.size = W.heap.size)
    (hbl : ∀ b, ¬ owned r o b → W'.heap[b]? = W.heap[b]?) (hr : ∀ b, owned r o' b → owned r o b) (ho : HoldsO σ E W' r o') : Step σ E kb W σ E (kb.set i o') W' := by
  have hi : i < kb.length := by
    rcases Nat.lt_or_ge i kb.length with h' | h'
    · exact h'
    · simp [List.getElem?_eq_none h'] at hk
  have hget : ∀ (j : Nat) (x : KO), (kb.set i o')[j]? = some x → (j = i ∧ x = o') ∨ (j ≠ i ∧ kb[j]? = some x) := by
    intro j x hj
    by_cases hji : j = i
    · subst hji
      rw [List.getElem?_set_self hi] at hj
      exact .inl ⟨rfl, (Option.some.inj hj).symm⟩
    · rw [List.getElem?_set_ne (Ne.symm hji)] at hj
      exact .inr ⟨hji, hj⟩
  have hown : ∀ b, Owns σ (kb.set i o') b → Owns σ kb b := by
    rintro b ⟨j, r', x, h1, h2, h3⟩
    rcases hget j x h2 with ⟨rfl, rfl⟩ | ⟨hji, h4⟩
    · rw [hs] at h1; cases h1
      exact ⟨_, r, o, hs, hk, hr b h3⟩
    · exact ⟨j, r', x, h1, h4, h3⟩
  refine ⟨⟨by simp [h.len], fun j r' x h1 h2 => ?_, fun a c r1 r2 o1 o2 b hac h1 h2 h3 h4 h5 h6 => ?_, fun b x hb => ?_, fun b hb => h.sep b (hown b hb)⟩, ⟨hos, htp, hout, by omega, fun b _ hn => hbl b (fun hb => hn ⟨i, r, o, hs, hk, hb⟩)⟩, ⟨[], by simp⟩, EH.le.refl E, fun b hb => .inl (hown b hb), fun b x hb => .inl hb⟩
  · rcases hget j x h2 with ⟨rfl, rfl⟩ | ⟨hji, h4⟩
    · rw [hs] at h1; cases h1; exact ho
    · have := (h.obj j r' x h1 h4).mono (τ := []) (W' := W') (EH.le.refl E) (fun b hb => hbl b (fun hb' => h.disj i j r r' o x b (Ne.symm hji) hs hk h1 h4 hb' hb))
      simpa using this
  · have up : ∀ (j : Nat) (r' : Re) (x : KO), σ[j]? = some r' → (kb.set i o')[j]? = some x → owned r' x b → ∃ y, kb[j]? = some y ∧ owned r' y b := by
      intro j r' x h1 h2 h3
      rcases hget j x h2 with ⟨rfl, rfl⟩ | ⟨hji, h4⟩
      · rw [hs] at h1; cases h1; exact ⟨o, hk, hr b h3⟩
      · exact ⟨x, h4, h3⟩
    obtain ⟨y1, p1, q1⟩ := up a r1 o1 h1 h2 h5
    obtain ⟨y2, p2, q2⟩ := up c r2 o2 h3 h4 h6
    exact h.disj a c r1 r2 y1 y2 b hac h1 p1 h3 p2 q1 q2
  · rw [hbl b (fun hb' => ?_)]
    · exact h.imm b x hb
    · have := h.sep b ⟨i, r, o, hs, hk, hb'⟩
      rw [this] at hb; cases hb

/-- A draw. -/
theorem Inv.drew {σ : Sg} {E : EH} {kb : KB} {W : World} (h : Inv σ E kb W) : Step σ E kb W σ E kb W.drew :=
  ⟨⟨h.len, fun i r o h1 h2 => by
      have := (h.obj i r o h1 h2).mono (τ := []) (W' := W.drew) (EH.le.refl E) (fun _ _ => rfl)
      simpa using this, h.disj, h.imm, h.sep⟩, ⟨rfl, rfl, rfl, Nat.le_refl _, fun _ _ _ => rfl⟩, ⟨[], by simp⟩, EH.le.refl E, fun _ h => .inl h, fun _ _ h => .inl h⟩

/-- A row of ours becomes immutable. -/
theorem Inv.freeze {σ : Sg} {E : EH} {kb : KB} {W : World} (h : Inv σ E kb W) {i : Nat} {r : Re} {ty : TypeId} {sz : Nat} {l : List (List D)} (hs : σ[i]? = some r) (hk : kb[i]? = some (.row ty sz l)) :
    ∃ E', Step σ E kb W σ E' (kb.set i .dead) W ∧ (r.cap ≠ 0 → RepC E' l.flatten r.blk 0) := by
  have hi : i < kb.length := (List.getElem?_eq_some_iff.1 hk).1
  have ho := h.obj i r _ hs hk
  let E' : EH := fun b => if r.cap ≠ 0 ∧ b = r.blk then W.heap[b]? else E b
  have hle : E.le E' := fun b x hb => by
    show (if r.cap ≠ 0 ∧ b = r.blk then W.heap[b]? else E b) = some x
    by_cases hc : r.cap ≠ 0 ∧ b = r.blk
    · have := h.sep b ⟨i, r, _, hs, hk, hc⟩
      rw [this] at hb; cases hb
    · rw [if_neg hc]; exact hb
  have hget : ∀ (j : Nat) (x : KO), (kb.set i .dead)[j]? = some x → (j = i ∧ x = .dead) ∨ (j ≠ i ∧ kb[j]? = some x) := by
    intro j x hj
    by_cases hji : j = i
    · subst hji
      rw [List.getElem?_set_self hi] at hj
      exact .inl ⟨rfl, (Option.some.inj hj).symm⟩
    · rw [List.getElem?_set_ne (Ne.symm hji)] at hj
      exact .inr ⟨hji, hj⟩
  have hown : ∀ b, Owns σ (kb.set i .dead) b → Owns σ kb b ∧ ¬ (r.cap ≠ 0 ∧ b = r.blk) := by
    rintro b ⟨j, r', x, h1, h2, h3⟩
    rcases hget j x h2 with ⟨rfl, rfl⟩ | ⟨hji, h4⟩
    · exact h3.elim
    · exact ⟨⟨j, r', x, h1, h4, h3⟩, fun hc => h.disj i j r r' _ x b (Ne.symm hji) hs hk h1 h4 hc h3⟩
  refine ⟨E', ⟨⟨by simp [h.len], fun j r' x h1 h2 => ?_, fun a c r1 r2 o1 o2 b hac h1 h2 h3 h4 h5 h6 => ?_, fun b x hb => ?_, fun b hb => ?_⟩, Stp.refl _ W, ⟨[], by simp⟩, hle, fun b hb => .inl (hown b hb).1, fun b x hb => ?_⟩, fun hc => ?_⟩
  · rcases hget j x h2 with ⟨rfl, rfl⟩ | ⟨hji, h4⟩
    · trivial
    · have := (h.obj j r' x h1 h4).mono (τ := []) (W' := W) hle (fun b hb => rfl)
      simpa using this
  · rcases hget a o1 h2 with ⟨rfl, rfl⟩ | ⟨_, k2⟩
    · exact h5.elim
    rcases hget c o2 h4 with ⟨rfl, rfl⟩ | ⟨_, k4⟩
    · exact h6.elim
    exact h.disj a c r1 r2 o1 o2 b hac h1 k2 h3 k4 h5 h6
  · by_cases hc : r.cap ≠ 0 ∧ b = r.blk
    · simp only [E', if_pos hc] at hb; exact hb
    · simp only [E', if_neg hc] at hb; exact h.imm b x hb
  · obtain ⟨h1, h2⟩ := hown b hb
    show (if r.cap ≠ 0 ∧ b = r.blk then W.heap[b]? else E b) = none
    rw [if_neg h2]
    exact h.sep b h1
  · by_cases hc : r.cap ≠ 0 ∧ b = r.blk
    · exact .inr (.inl ⟨i, r, _, hs, hk, hc⟩)
    · simp only [E', if_neg hc] at hb; exact .inl hb
  · obtain ⟨rfl, k1, k2, k3, k4⟩ := ho
    rcases k4 with k4 | ⟨arr, k4, k5, k6⟩
    · exact absurd k4 hc
    refine (k6.mono hle).rep fun j x hj => ?_
    have e : E' r.blk = some (.cells arr ty (0, 0)) := by simp only [E', if_pos (show r.cap ≠ 0 ∧ r.blk = r.blk from ⟨hc, rfl⟩), k4]
    unfold EH.cell
    rw [e, Nat.zero_add]
    have hlt : j < l.length * r.sz := by
      have := (List.getElem?_eq_some_iff.1 hj).1
      simp only [List.length_take] at this
      omega
    rw [List.getElem?_take_of_lt hlt] at hj
    simpa using hj

/-- A row becomes immutable, and the block bears a mark behind its end. -/
theorem Inv.freezeM {σ : Sg} {E : EH} {kb : KB} {W : World} (h : Inv σ E kb W) {i : Nat} {r : Re} {ty : TypeId} {sz : Nat} {l : List (List D)} (hs : σ[i]? = some r) (hk : kb[i]? = some (.row ty sz l)) (hc : r.cap ≠ 0) :
    ∃ E' arr, W.heap[r.blk]? = some (.cells arr ty (0, 0)) ∧ (∀ W', W'.os = W.os → W'.tape = W.tape → W'.output = W.output → W'.heap.size = W.heap.size → W'.heap[r.blk]? = some (.cells arr ty (arr.size, arr.size + 1)) → (∀ k, k ≠ r.blk → W'.heap[k]? = W.heap[k]?) →
      Step σ E kb W σ E' (kb.set i .dead) W') ∧ RepC E' l.flatten r.blk 0 := by
  have hi : i < kb.length := (List.getElem?_eq_some_iff.1 hk).1
  have ho := h.obj i r _ hs hk
  obtain ⟨rfl, k1, k2, k3, k4⟩ := ho
  rcases k4 with k4 | ⟨arr, k4, k5, k6⟩
  · exact absurd k4 hc
  let E' : EH := fun b => if b = r.blk then some (.cells arr ty (arr.size, arr.size + 1)) else E b
  have hle : E.le E' := fun b x hb => by
    show (if b = r.blk then _ else E b) = some x
    by_cases hcb : b = r.blk
    · have := h.sep b ⟨i, r, _, hs, hk, hc, hcb⟩
      rw [this] at hb; cases hb
    · rw [if_neg hcb]; exact hb
  have hget : ∀ (j : Nat) (x : KO), (kb.set i .dead)[j]? = some x → (j = i ∧ x = .dead) ∨ (j ≠ i ∧ kb[j]? = some x) := by
    intro j x hj
    by_cases hji : j = i
    · subst hji
      rw [List.getElem?_set_self hi] at hj
      exact .inl ⟨rfl, (Option.some.inj hj).symm⟩
    · rw [List.getElem?_set_ne (Ne.symm hji)] at hj
      exact .inr ⟨hji, hj⟩
  have hown : ∀ b, Owns σ (kb.set i .dead) b → Owns σ kb b ∧ ¬ b = r.blk := by
    rintro b ⟨j, r', x, h1, h2, h3⟩
    rcases hget j x h2 with ⟨rfl, rfl⟩ | ⟨hji, h4⟩
    · exact h3.elim
    · exact ⟨⟨j, r', x, h1, h4, h3⟩, fun hcb => h.disj i j r r' _ x b (Ne.symm hji) hs hk h1 h4 ⟨hc, hcb⟩ h3⟩
  refine ⟨E', arr, k4, fun W' w1 w2 w3 w4 w5 w6 => ⟨⟨by simp [h.len], fun j r' x h1 h2 => ?_, fun a c r1 r2 o1 o2 b hac h1 h2 h3 h4 h5 h6 => ?_, fun b x hb => ?_, fun b hb => ?_⟩, ⟨w1, w2, w3, by omega, fun k hkk hno => w6 k (fun e => hno (by rw [e]; exact ⟨i, r, _, hs, hk, hc, rfl⟩))⟩, ⟨[], by simp⟩, hle, fun b hb => .inl (hown b hb).1, fun b x hb => ?_⟩, ?_⟩
  · rcases hget j x h2 with ⟨rfl, rfl⟩ | ⟨hji, h4⟩
    · trivial
    · have := (h.obj j r' x h1 h4).mono (τ := []) (W' := W') hle (fun b hb => w6 b (fun e => h.disj i j r r' _ x b (Ne.symm hji) hs hk h1 h4 ⟨hc, e⟩ hb))
      simpa using this
  · rcases hget a o1 h2 with ⟨rfl, rfl⟩ | ⟨_, k2⟩
    · exact h5.elim
    rcases hget c o2 h4 with ⟨rfl, rfl⟩ | ⟨_, k4⟩
    · exact h6.elim
    exact h.disj a c r1 r2 o1 o2 b hac h1 k2 h3 k4 h5 h6
  · by_cases hcb : b = r.blk
    · simp only [E', if_pos hcb] at hb; cases hb; rw [hcb]; exact w5
    · simp only [E', if_neg hcb] at hb; rw [w6 b hcb]; exact h.imm b x hb
  · obtain ⟨h1, h2⟩ := hown b hb
    show (if b = r.blk then _ else E b) = none
    rw [if_neg h2]
    exact h.sep b h1
  · by_cases hcb : b = r.blk
    · exact .inr (.inl ⟨i, r, _, hs, hk, hc, hcb⟩)
    · simp only [E', if_neg hcb] at hb; exact .inl hb
  · refine (k6.mono hle).rep fun j x hj => ?_
    have e : E' r.blk = some (.cells arr ty (arr.size, arr.size + 1)) := by simp only [E', if_pos rfl]
    unfold EH.cell
    rw [e, Nat.zero_add]
    have hlt : j < l.length * r.sz := by
      have := (List.getElem?_eq_some_iff.1 hj).1
      simp only [List.length_take] at this
      omega
    rw [List.getElem?_take_of_lt hlt] at hj
    simpa using hj

/-- Something new becomes immutable. -/
theorem Inv.growE {σ : Sg} {E : EH} {kb : KB} {W : World} (h : Inv σ E kb W) (ob : Obj) :
    Step σ E kb W σ (fun b => if b = W.heap.size then some ob else E b) kb (W.alloc ob) := by
  have hne : E W.heap.size = none := by
    cases he : E W.heap.size with
    | none => rfl
    | some x => have := (Array.getElem?_eq_some_iff.1 (h.imm _ x he)).1; omega
  have hle : E.le (fun b => if b = W.heap.size then some ob else E b) := fun b x hb => by
    by_cases hc : b = W.heap.size
    · subst hc; rw [hne] at hb; cases hb
    · simp [hc, hb]
  have hold : ∀ b, b < W.heap.size → (W.alloc ob).heap[b]? = W.heap[b]? := fun b hb => by
    show (W.heap.push ob)[b]? = _
    rw [Array.getElem?_push, if_neg (by omega)]
  refine ⟨⟨h.len, fun j r x h1 h2 => ?_, h.disj, fun b x hb => ?_, fun b hb => ?_⟩, ⟨rfl, rfl, rfl, by simp, fun k hk _ => hold k hk⟩, ⟨[], by simp⟩, hle, fun b hb => .inl hb, fun b x hb => ?_⟩
  · have := (h.obj j r x h1 h2).mono (τ := []) (W' := W.alloc ob) hle (fun b hb => hold b ((h.obj j r x h1 h2).lt hb))
    simpa using this
  · by_cases hc : b = W.heap.size
    · subst hc
      simp only [if_true, Option.some.injEq] at hb
      subst hb
      show (W.heap.push ob)[W.heap.size]? = _
      simp
    · simp only [hc, if_false] at hb
      have := h.imm b x hb
      rw [hold b (Array.getElem?_eq_some_iff.1 this).1]; exact this
  · have := h.lt hb
    rw [if_neg (by omega)]
    exact h.sep b hb
  · by_cases hc : b = W.heap.size
    · exact .inr (.inr (by omega))
    · simp only [hc, if_false] at hb; exact .inl hb
end Vc
