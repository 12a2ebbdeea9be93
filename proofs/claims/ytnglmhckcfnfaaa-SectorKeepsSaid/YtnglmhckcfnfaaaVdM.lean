/- A call that is met by what is known of the callee: of its arguments, and of the blocks that they reach, alone. -/
import Derived.Test.YtnglmhckcfnfaaaVdL
set_option linter.unusedSimpArgs false
set_option linter.unusedVariables false
namespace Vc
open Go

abbrev FSpec := List V → KB → (V → KB → Prop) → Prop

def SpecOk (P : Program) (f : FuncId) (S : FSpec) : Prop := ∀ args kb K, S args kb K → ∀ σ E W xs, Inv σ E kb W → DenL σ E args xs →
  Calls P f xs.toArray W (fun e W' => ∃ v r σ' E' kb', e = .returned v ∧ Step σ E kb W σ' E' kb' W' ∧ Den σ' E' r v ∧ K r kb')

/-- Where the callee's k-th block stands with the caller. -/
def backIx (o : List Nat) (n : Nat) (k : Nat) : Option Nat :=
  match o[k]? with
  | some i => some i
  | none => some (n + (k - o.length))

def renAll (ρ : Nat → Option Nat) : KB → Option KB
  | [] => some []
  | x :: xs => match KO.ren ρ x, renAll ρ xs with
    | some y, some ys => some (y :: ys)
    | _, _ => none
theorem renAll_ok {ρ : Nat → Option Nat} : ∀ {l r : KB}, renAll ρ l = some r → r.length = l.length ∧ ∀ (m : Nat) (b : KO), r[m]? = some b → ∃ a, l[m]? = some a ∧ KO.ren ρ a = some b
  | [], r, h => by simp only [renAll, Option.some.injEq] at h; subst h; simp
  | x :: xs, r, h => by
    simp only [renAll] at h
    split at h <;> try (cases h; done)
    rename_i y ys h1 h2
    cases h
    obtain ⟨h3, h4⟩ := renAll_ok h2
    refine ⟨by simp [h3], fun m b hb => ?_⟩
    cases m with
    | zero => simp at hb; subst hb; exact ⟨x, rfl, h1⟩
    | succ m => simpa using h4 m b (by simpa using hb)

/-- The caller's blocks behind the call. -/
def backKB (kb2 : KB) (o : List Nat) (ρ : Nat → Option Nat) : Nat → KB → Option KB
  | _, [] => renAll ρ (kb2.drop o.length)
  | i, x :: r => match idx o i with
    | some k => match kb2[k]? with
      | some a => match KO.ren ρ a, backKB kb2 o ρ (i + 1) r with
        | some b, some t => some (b :: t)
        | _, _ => none
      | none => none
    | none => match backKB kb2 o ρ (i + 1) r with
      | some t => some (x :: t)
      | none => none

theorem backKB_ok {kb2 : KB} {o : List Nat} {ρ : Nat → Option Nat} : ∀ {r : KB} {i0 : Nat} {out : KB}, backKB kb2 o ρ i0 r = some out →
    out.length = r.length + (kb2.length - o.length) ∧ ∀ (j : Nat) (b : KO), out[j]? = some b →
      (j < r.length ∧ idx o (i0 + j) = none ∧ r[j]? = some b) ∨ (j < r.length ∧ ∃ k a, idx o (i0 + j) = some k ∧ kb2[k]? = some a ∧ KO.ren ρ a = some b) ∨
      (r.length ≤ j ∧ ∃ a, kb2[o.length + (j - r.length)]? = some a ∧ KO.ren ρ a = some b)
  | [], i0, out, h => by
    simp only [backKB] at h
    obtain ⟨h1, h2⟩ := renAll_ok h
    refine ⟨by simp [h1], fun j b hb => .inr (.inr ⟨by simp, ?_⟩)⟩
    obtain ⟨a, ha, hr⟩ := h2 j b hb
    exact ⟨a, by simpa using ha, hr⟩
  | x :: r, i0, out, h => by
    simp only [backKB] at h
    have step : ∀ {t : KB}, backKB kb2 o ρ (i0 + 1) r = some t → ∀ (y : KO), ((idx o i0 = none ∧ y = x) ∨ ∃ k a, idx o i0 = some k ∧ kb2[k]? = some a ∧ KO.ren ρ a = some y) →
        (y :: t).length = (x :: r).length + (kb2.length - o.length) ∧ ∀ (j : Nat) (b : KO), (y :: t)[j]? = some b →
        (j < (x :: r).length ∧ idx o (i0 + j) = none ∧ (x :: r)[j]? = some b) ∨ (j < (x :: r).length ∧ ∃ k a, idx o (i0 + j) = some k ∧ kb2[k]? = some a ∧ KO.ren ρ a = some b) ∨
        ((x :: r).length ≤ j ∧ ∃ a, kb2[o.length + (j - (x :: r).length)]? = some a ∧ KO.ren ρ a = some b) := by
      intro t ht y hy
      obtain ⟨h1, h2⟩ := backKB_ok ht
      refine ⟨by simp [h1]; omega, fun j b hb => ?_⟩
      cases j with
      | zero =>
        simp at hb; subst hb
        rcases hy with ⟨h3, rfl⟩ | ⟨k, a, h3, h4, h5⟩
        · exact .inl ⟨by simp, by simpa using h3, rfl⟩
        · exact .inr (.inl ⟨by simp, k, a, by simpa using h3, h4, h5⟩)
      | succ j =>
        rcases h2 j b (by simpa using hb) with ⟨k1, k2, k3⟩ | ⟨k1, k, a, k2, k3, k4⟩ | ⟨k1, a, k2, k3⟩
        · exact .inl ⟨by simpa using k1, by rw [show i0 + (j + 1) = i0 + 1 + j by omega]; exact k2, by simpa using k3⟩
        · exact .inr (.inl ⟨by simpa using k1, k, a, by rw [show i0 + (j + 1) = i0 + 1 + j by omega]; exact k2, k3, k4⟩)
        · exact .inr (.inr ⟨by simpa using k1, a, by rw [show o.length + (j + 1 - (x :: r).length) = o.length + (j - r.length) by simp]; exact k2, k3⟩)
    split at h
    · rename_i k hk
      split at h <;> try (cases h; done)
      rename_i a ha
      split at h <;> try (cases h; done)
      rename_i b t hb ht
      cases h
      exact step ht b (.inr ⟨k, a, hk, ha, hb⟩)
    · rename_i hk
      split at h <;> try (cases h; done)
      rename_i t ht
      cases h
      exact step ht x (.inl ⟨hk, rfl⟩)

/-- A call, by what is known of the callee. -/
def specK (S : FSpec) (args : List V) (kb : KB) (K : V → KB → Prop) : Prop :=
  match canon 0 args kb with
  | some (args', sub, o) => S args' sub (fun r kb2 => match Nat.ble o.length kb2.length, V.ren (backIx o kb.length) r, backKB kb2 o (backIx o kb.length) 0 kb with
    | true, some r', some kb' => K r' kb'
    | _, _, _ => False)
  | none => False

theorem idx_none {l : List Nat} {i : Nat} (h : idx l i = none) : i ∉ l := fun hm => by
  obtain ⟨k, hk⟩ := idx_of_mem hm
  rw [h] at hk; cases hk

theorem owns_sel {σ : Sg} {kb : KB} (hlen : σ.length = kb.length) {o : List Nat} {sub : KB} (hs : selKB (idx o) kb o = some sub) {b : Nat} (h : Owns (selSg σ o) sub b) :
    ∃ i r ob, i ∈ o ∧ σ[i]? = some r ∧ kb[i]? = some ob ∧ owned r ob b := by
  obtain ⟨hl, hget⟩ := selKB_ok hs
  obtain ⟨k, r, o', h1, h2, h3⟩ := h
  simp only [selSg, List.getElem?_map, Option.map_eq_some_iff] at h1
  obtain ⟨i, hi, hr⟩ := h1
  obtain ⟨ob, o2, ho, ho2, hk⟩ := hget k i hi
  rw [h2] at hk; cases hk
  have hlt : i < σ.length := by rw [hlen]; exact (List.getElem?_eq_some_iff.1 ho).1
  rw [List.getElem?_eq_getElem hlt] at hr
  simp at hr
  exact ⟨i, r, ob, List.mem_of_getElem? hi, by rw [List.getElem?_eq_getElem hlt, hr], ho, (owned_ren ho2).1 h3⟩

theorem specK_ok {P : Program} {f : FuncId} {S : FSpec} (hS : SpecOk P f S) {args : List V} {kb : KB} {K : V → KB → Prop} (h : specK S args kb K) {σ : Sg} {E : EH} {W : World} {xs : List Value} (hi : Inv σ E kb W) (hd : DenL σ E args xs) :
    Calls P f xs.toArray W (fun e W' => ∃ v r σ' E' kb', e = .returned v ∧ Step σ E kb W σ' E' kb' W' ∧ Den σ' E' r v ∧ K r kb') := by
  unfold specK at h
  split at h <;> try exact h.elim
  rename_i args' sub o hc
  obtain ⟨hn, _, hra, hsel⟩ := canon_ok hc
  obtain ⟨k1, k2, k3⟩ := hi.sel hn hsel
  obtain ⟨hsl, hget⟩ := selKB_ok hsel
  refine (hS args' sub _ h (selSg σ o) E W xs k1 (DenL.ren k3 hra hd)).mono ?_
  rintro e W' ⟨v, r, σs, E', kb2, rfl, hst, hden, hK⟩
  split at hK <;> try exact hK.elim
  rename_i r' kb' hble hr' hkb'
  have hle := Nat.le_of_ble_eq_true hble
  obtain ⟨τ, hτ⟩ := hst.pre
  have hsgl : (selSg σ o).length = o.length := by simp [selSg]
  have hl2 : σs.length = kb2.length := hst.inv.len
  obtain ⟨hout, hcase0⟩ := backKB_ok hkb'
  let σ'' := σ ++ σs.drop o.length
  -- the two kinds of blocks
  have hβ : ∀ i j r, backIx o kb.length i = some j → σs[i]? = some r → σ''[j]? = some r := by
    intro i j r hb hr
    unfold backIx at hb
    split at hb
    · rename_i q hq
      cases hb
      have hil : i < o.length := (List.getElem?_eq_some_iff.1 hq).1
      rw [hτ, List.getElem?_append_left (by rw [hsgl]; exact hil)] at hr
      simp only [selSg, List.getElem?_map, hq, Option.map_some, Option.some.injEq] at hr
      obtain ⟨ob, _, hob, _, _⟩ := hget i j hq
      have hjl : j < σ.length := by rw [hi.len]; exact (List.getElem?_eq_some_iff.1 hob).1
      rw [List.getElem?_eq_getElem hjl] at hr
      simp only [Option.getD_some] at hr
      show (σ ++ _)[j]? = _
      rw [List.getElem?_append_left hjl, List.getElem?_eq_getElem hjl, hr]
    · rename_i hq
      cases hb
      have hil : o.length ≤ i := by
        rcases Nat.lt_or_ge i o.length with h' | h'
        · rw [List.getElem?_eq_getElem h'] at hq; cases hq
        · exact h'
      show (σ ++ _)[_]? = _
      rw [List.getElem?_append_right (by rw [hi.len]; omega), hi.len, show kb.length + (i - o.length) - kb.length = i - o.length by omega, List.getElem?_drop, show o.length + (i - o.length) = i by omega]
      exact hr
  have hcase : ∀ (i : Nat) (r : Re) (ob : KO), σ''[i]? = some r → kb'[i]? = some ob →
      (∃ k a, backIx o kb.length k = some i ∧ σs[k]? = some r ∧ kb2[k]? = some a ∧ KO.ren (backIx o kb.length) a = some ob) ∨ (i ∉ o ∧ σ[i]? = some r ∧ kb[i]? = some ob) := by
    intro i r ob h1 h2
    rcases hcase0 i ob h2 with ⟨c1, c2, c3⟩ | ⟨c1, k, a, c2, c3, c4⟩ | ⟨c1, a, c2, c3⟩
    · rw [Nat.zero_add] at c2
      have h1' : (σ ++ σs.drop o.length)[i]? = some r := h1
      rw [List.getElem?_append_left (by rw [hi.len]; exact c1)] at h1'
      exact .inr ⟨idx_none c2, h1', c3⟩
    · rw [Nat.zero_add] at c2
      have hk := idx_spec c2
      have hkl : k < σs.length := by rw [hl2]; exact (List.getElem?_eq_some_iff.1 c3).1
      have hb : backIx o kb.length k = some i := by simp [backIx, hk]
      have := hβ k i _ hb (List.getElem?_eq_getElem hkl)
      rw [this] at h1
      exact .inl ⟨k, a, hb, by rw [List.getElem?_eq_getElem hkl]; exact h1, c3, c4⟩
    · have hb : backIx o kb.length (o.length + (i - kb.length)) = some i := by
        have : o[o.length + (i - kb.length)]? = none := List.getElem?_eq_none (by omega)
        simp only [backIx, this]
        congr 1
        omega
      have hkl : o.length + (i - kb.length) < σs.length := by rw [hl2]; exact (List.getElem?_eq_some_iff.1 c2).1
      have := hβ _ i _ hb (List.getElem?_eq_getElem hkl)
      rw [this] at h1
      exact .inl ⟨_, a, hb, by rw [List.getElem?_eq_getElem hkl]; exact h1, c2, c3⟩
  have hsubown : ∀ b, Owns (selSg σ o) sub b → ∀ (j : Nat) (r : Re) (ob : KO), j ∉ o → σ[j]? = some r → kb[j]? = some ob → owned r ob b → False := by
    intro b hb j r ob hj h1 h2 h3
    obtain ⟨i, r2, o2, g1, g2, g3, g4⟩ := owns_sel hi.len hsel hb
    exact hi.disj i j r2 r o2 ob b (fun e => by subst e; exact hj g1) g2 g3 h1 h2 g4 h3
  have hother : ∀ (j : Nat) (r : Re) (ob : KO), j ∉ o → σ[j]? = some r → kb[j]? = some ob → ∀ b, owned r ob b → W'.heap[b]? = W.heap[b]? := by
    intro j r ob hj h1 h2 b h3
    exact hst.stp.block b ((hi.obj j r ob h1 h2).lt h3) (fun hb => hsubown b hb j r ob hj h1 h2 h3)
  have hownA : ∀ b (k : Nat) (r : Re) (a : KO), σs[k]? = some r → kb2[k]? = some a → owned r a b → Owns (selSg σ o) sub b ∨ W.heap.size ≤ b := fun b k r a h1 h2 h3 => hst.own b ⟨k, r, a, h1, h2, h3⟩
  have hown : ∀ b, Owns σ'' kb' b → Owns σ kb b ∨ W.heap.size ≤ b := by
    rintro b ⟨i, r, ob, h1, h2, h3⟩
    rcases hcase i r ob h1 h2 with ⟨k, a, _, g2, g3, g4⟩ | ⟨g1, g2, g3⟩
    · rcases hownA b k r a g2 g3 ((owned_ren g4).1 h3) with h4 | h4
      · exact .inl (k2 b h4)
      · exact .inr h4
    · exact .inl ⟨i, r, ob, g2, g3, h3⟩
  refine ⟨v, r', σ'', E', kb', rfl, ⟨⟨?_, fun i r ob h1 h2 => ?_, fun i j r1 r2 o1 o2 b hij h1 h2 h3 h4 h5 h6 => ?_, hst.inv.imm, fun b hb => ?_⟩, ⟨hst.stp.os, hst.stp.tape, hst.stp.output, hst.stp.size, fun b hb hn' => hst.stp.block b hb (fun h => hn' (k2 b h))⟩, ⟨_, rfl⟩, hst.le, hown, fun b x hb => ?_⟩, Den.ren hβ hr' hden, hK⟩
  · simp only [σ'', List.length_append, List.length_drop, hout, hi.len, hl2]
  · rcases hcase i r ob h1 h2 with ⟨k, a, _, g2, g3, g4⟩ | ⟨g1, g2, g3⟩
    · exact (hst.inv.obj k r a g2 g3).ren hβ g4
    · exact (hi.obj i r ob g2 g3).mono hst.le (fun b hb => hother i r ob g1 g2 g3 b hb)
  · rcases hcase i r1 o1 h1 h2 with ⟨k, a, g1, g2, g3, g4⟩ | ⟨g1, g2, g3⟩ <;> rcases hcase j r2 o2 h3 h4 with ⟨m, a', q1, q2, q3, q4⟩ | ⟨q1, q2, q3⟩
    · refine hst.inv.disj k m r1 r2 a a' b (fun e => ?_) g2 g3 q2 q3 ((owned_ren g4).1 h5) ((owned_ren q4).1 h6)
      subst e
      rw [g1] at q1
      cases q1
      exact hij rfl
    · rcases hownA b k r1 a g2 g3 ((owned_ren g4).1 h5) with h7 | h7
      · exact hsubown b h7 j r2 o2 q1 q2 q3 h6
      · have := (hi.obj j r2 o2 q2 q3).lt h6; omega
    · rcases hownA b m r2 a' q2 q3 ((owned_ren q4).1 h6) with h7 | h7
      · exact hsubown b h7 i r1 o1 g1 g2 g3 h5
      · have := (hi.obj i r1 o1 g2 g3).lt h5; omega
    · exact hi.disj i j r1 r2 o1 o2 b hij g2 g3 q2 q3 h5 h6
  · obtain ⟨i, r, ob, h1, h2, h3⟩ := hb
    rcases hcase i r ob h1 h2 with ⟨k, a, _, g2, g3, g4⟩ | ⟨g1, g2, g3⟩
    · exact hst.inv.sep b ⟨k, r, a, g2, g3, (owned_ren g4).1 h3⟩
    · cases hE : E' b with
      | none => rfl
      | some x =>
        rcases hst.new b x hE with h4 | h4 | h4
        · have := hi.sep b ⟨i, r, ob, g2, g3, h3⟩; rw [this] at h4; cases h4
        · exact (hsubown b h4 i r ob g1 g2 g3 h3).elim
        · have := (hi.obj i r ob g2 g3).lt h3; omega
  · rcases hst.new b x hb with h4 | h4 | h4
    · exact .inl h4
    · exact .inr (.inl (k2 b h4))
    · exact .inr (.inr h4)

theorem denL_one {σ : Sg} {E : EH} {v : V} {x : Value} (h : Den σ E v x) : DenL σ E [v] [x] := by simp only [DenL]; exact ⟨x, [], rfl, h, rfl⟩
theorem denL_one' {σ : Sg} {E : EH} {v : V} {x : Value} (h : DenL σ E [v] [x]) : Den σ E v x := by
  simp only [DenL] at h
  obtain ⟨y, ys, e, h1, rfl⟩ := h
  cases e
  exact h1
/-- A specification that takes nil for an empty row. -/
def nilIn (ds : List NilD) (S : FSpec) : FSpec := fun args kb K => specK S (nilsK ds (args, kb)).1 (nilsK ds (args, kb)).2 K
theorem nilIn_ok {P : Program} {f : FuncId} {S : FSpec} (hS : SpecOk P f S) (ds : List NilD) : SpecOk P f (nilIn ds S) := fun args kb K h σ E W xs hi hd => by
  obtain ⟨σ', E2', h1, h2, _⟩ := nilsK_ok (c := ⟨σ, E, kb, W⟩) ds (s := (args, kb)) (Step.refl hi) hd
  refine (specK_ok hS h h1.inv h2).mono ?_
  rintro e W' ⟨v, r, σs, E', kb2, rfl, hst, hden, hK⟩
  exact ⟨v, r, σs, E', kb2, rfl, Step.trans h1 hst, hden, hK⟩
def nilRes (ds : List NilD) (K : V → KB → Prop) : V → KB → Prop := fun r kb => match r with
  | .tup l => K (.tup (nilsK ds (l, kb)).1) (nilsK ds (l, kb)).2
  | r => match (nilsK ds ([r], kb)).1 with
    | [r'] => K r' (nilsK ds ([r], kb)).2
    | _ => False
/-- A specification whose results have an empty row for nil. -/
def nilOut (ds : List NilD) (S : FSpec) : FSpec := fun args kb K => S args kb (nilRes ds K)
theorem nilOut_ok {P : Program} {f : FuncId} {S : FSpec} (hS : SpecOk P f S) (ds : List NilD) : SpecOk P f (nilOut ds S) := fun args kb K h σ E W xs hi hd => by
  refine (hS args kb _ h σ E W xs hi hd).mono ?_
  rintro e W' ⟨v, r, σs, E', kb2, rfl, hst, hden, hK⟩
  unfold nilRes at hK
  split at hK
  · rename_i l
    simp only [Den] at hden
    obtain ⟨vs, rfl, hl⟩ := hden
    obtain ⟨σ', E2', h1, h2, _⟩ := nilsK_ok (c := ⟨σ, E, kb, W⟩) ds (s := (l, kb2)) hst hl
    exact ⟨_, _, _, _, _, rfl, h1, by simp only [Den]; exact ⟨vs, rfl, h2⟩, hK⟩
  · split at hK <;> try exact hK.elim
    rename_i r' hr
    obtain ⟨σ', E2', h1, h2, _⟩ := nilsK_ok (c := ⟨σ, E, kb, W⟩) ds (s := ([r], kb2)) hst (denL_one hden)
    rw [hr] at h2
    exact ⟨_, _, _, _, _, rfl, h1, denL_one' h2, hK⟩
/-- The results' blocks in order, those that nothing reaches dropped. -/
def tidyRes (n0 : Nat) (K : V → KB → Prop) : V → KB → Prop := fun r kb => match canon n0 [r] kb with
  | some ([r'], kb', _) => K r' kb'
  | _ => False
def tidyOut (S : FSpec) : FSpec := fun args kb K => S args kb (tidyRes kb.length K)
theorem tidyOut_ok {P : Program} {f : FuncId} {S : FSpec} (hS : SpecOk P f S) : SpecOk P f (tidyOut S) := fun args kb K h σ E W xs hi hd => by
  refine (hS args kb _ h σ E W xs hi hd).mono ?_
  rintro e W' ⟨v, r, σs, E', kb2, rfl, hst, hden, hK⟩
  unfold tidyRes at hK
  split at hK <;> try exact hK.elim
  rename_i r' kb' o hc
  rw [← hi.len] at hc
  obtain ⟨σ', h1, h2⟩ := Step.sel (c := ⟨σ, E, kb, W⟩) hst hc (denL_one hden)
  exact ⟨_, _, _, _, _, rfl, h1, denL_one' h2, hK⟩
end Vc
