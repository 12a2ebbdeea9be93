/- Slices that are lent or given to a callee; functions by their specifications; laws. -/
import Derived.Test.YtnglmhckcfnfaaaVdM
import Derived.Below
set_option linter.unusedSimpArgs false
set_option linter.unusedVariables false
namespace Vc
open Go

/-- How an argument is handed to a callee: as it is; a slice of elements of s cells that the callee only reads, and hands nothing of it back; one that is immutable from now on. -/
inductive Mode where
  | asis
  | lend (s : Nat)
  | give (s : Nat)

/-! ### Slices that are given -/
def giveL : List Mode → List V → KB → (List V → KB → Prop) → Prop
  | _, [], kb, K => K [] kb
  | [], v :: vs, kb, K => K (v :: vs) kb
  | .give s :: ms, v :: vs, kb, K => conv1 (.sl s) v kb (fun d kb' => giveL ms vs kb' (fun us kb'' => K (.dat d :: us) kb''))
  | _ :: ms, v :: vs, kb, K => giveL ms vs kb (fun us kb' => K (v :: us) kb')

theorem giveL_ok : ∀ {ms : List Mode} {vs : List V} {kb : KB} {K : List V → KB → Prop}, giveL ms vs kb K → ∀ {σ : Sg} {E : EH} {W : World}, Inv σ E kb W → ∀ {xs : List Value}, DenL σ E vs xs →
    ∃ E' kb' us, Step σ E kb W σ E' kb' W ∧ DenL σ E' us xs ∧ K us kb'
  | ms, [], kb, K, h, σ, E, W, hi, xs, hd => by
    have : K [] kb := by cases ms with | nil => exact h | cons m ms => cases m <;> exact h
    exact ⟨E, kb, [], Step.refl hi, hd, this⟩
  | [], v :: vs, kb, K, h, σ, E, W, hi, xs, hd => ⟨E, kb, v :: vs, Step.refl hi, hd, h⟩
  | m :: ms, v :: vs, kb, K, h, σ, E, W, hi, xs, hd => by
    simp only [DenL] at hd
    obtain ⟨x, xs', rfl, h1, h2⟩ := hd
    have plain : giveL ms vs kb (fun us kb' => K (v :: us) kb') → ∃ E' kb' us, Step σ E kb W σ E' kb' W ∧ DenL σ E' us (x :: xs') ∧ K us kb' := fun h => by
      obtain ⟨E1, kb1, us, s1, d1, hK⟩ := giveL_ok h hi h2
      have := Den.mono (τ := []) s1.le h1
      rw [List.append_nil] at this
      exact ⟨E1, kb1, v :: us, s1, .cons this d1, hK⟩
    cases m with
    | asis => exact plain h
    | lend s => exact plain h
    | give s =>
      simp only [giveL] at h
      obtain ⟨E1, kb1, d, s1, r1, h⟩ := conv1_ok h hi h1
      have h2' := DenL.mono (τ := []) s1.le h2
      rw [List.append_nil] at h2'
      obtain ⟨E2, kb2, us, s2, d2, hK⟩ := giveL_ok h s1.inv h2'
      exact ⟨E2, kb2, .dat d :: us, s1.trans s2, .cons (by simp only [Den]; exact r1.mono s2.le) d2, hK⟩

/-! ### Slices that are lent -/
def srcIds : V → List Nat
  | .sl i _ _ => [i]
  | .sa i _ _ _ _ _ => [i]
  | .se i _ _ _ _ _ => [i]
  | _ => []
/-- An argument that the callee only reads, a slice of elements of s cells: what it is to the callee, and what it must meet. -/
def lend1 (kb : KB) (s : Nat) (v : V) : Option (Prop × V × List Nat) :=
  match srcV kb v with
  | some (sz, p, xs) => match szFits s sz with
    | true => some (p, .dat (.sl s xs), srcIds v)
    | false => none
  | none => none
/-- The fields of a struct: those that are slices of such elements. -/
def lendC (kb : KB) (s : Nat) : List V → Option (Prop × List V × List Nat)
  | [] => some (True, [], [])
  | v :: vs => match lendC kb s vs with
    | some (q, us, js) => match lend1 kb s v with
      | some (p, u, is) => some (p ∧ q, u :: us, is ++ js)
      | none => some (q, v :: us, js)
    | none => none
def lendV (kb : KB) (s : Nat) (v : V) : Option (Prop × V × List Nat) :=
  match v with
  | .agg l => match lendC kb s l with
    | some (p, us, is) => some (p, .agg us, is)
    | none => none
  | v => lend1 kb s v

def lendL (kb : KB) : List Mode → List V → Option (Prop × List V × List Nat)
  | _, [] => some (True, [], [])
  | .lend s :: ss, v :: vs => match lendV kb s v, lendL kb ss vs with
    | some (p, u, is), some (q, us, js) => some (p ∧ q, u :: us, is ++ js)
    | _, _ => none
  | [], v :: vs => match lendL kb [] vs with
    | some (p, us, is) => some (p, v :: us, is)
    | none => none
  | _ :: ss, v :: vs => match lendL kb ss vs with
    | some (p, us, is) => some (p, v :: us, is)
    | none => none

open Classical in
/-- The blocks of what is lent, added to the immutable ones. -/
noncomputable def lentE (σ : Sg) (kb : KB) (is : List Nat) (W : World) (E : EH) : EH := fun b => match E b with
  | some o => some o
  | none => if ∃ i ∈ is, ∃ r o, σ[i]? = some r ∧ kb[i]? = some o ∧ owned r o b then W.heap[b]? else none

theorem lentE_le (σ : Sg) (kb : KB) (is : List Nat) (W : World) (E : EH) : E.le (lentE σ kb is W E) := fun b o h => by simp [lentE, h]

theorem lend1_ok {kb : KB} {s : Nat} {v u : V} {p : Prop} {is : List Nat} (h : lend1 kb s v = some (p, u, is)) (hp : p) {σ : Sg} {E : EH} {W : World} (hi : Inv σ E kb W) {x : Value} (hd : Den σ E v x) {js : List Nat} (hjs : ∀ i ∈ is, i ∈ js) :
    Den σ (lentE σ kb js W E) u x := by
  unfold lend1 at h
  split at h <;> try (cases h; done)
  rename_i sz q xs hsrc
  split at h <;> try (cases h; done)
  rename_i hfit
  simp only [Option.some.injEq, Prod.mk.injEq] at h
  obtain ⟨rfl, rfl, rfl⟩ := h
  have hle := lentE_le σ kb js W E
  -- data stays data
  by_cases hdat : ∃ l, v = .dat (.sl s l) ∧ xs = l
  · obtain ⟨l, rfl, rfl⟩ := hdat
    simp only [Den] at hd ⊢
    exact hd.mono hle
  have hE := srcV_ok hsrc hp hi hd hfit
  obtain ⟨hw, a, cap, ys, rfl, hc, hD, ha⟩ := hE
  simp only [Den, RepD]
  refine ⟨a, cap, rfl, hc, ?_⟩
  rcases ha with ha | ⟨b, o, rfl, ha⟩
  · exact .inl ha
  by_cases h0 : xs.length = 0
  · exact .inl h0
  refine .inr ⟨b, o, rfl, RepL.of_flat hw ((hD.mono hle).rep fun j y hj => ?_)⟩
  have hcell := ha j y hj
  -- the block is one of ours
  have key : ∀ {i : Nat} {r : Re} {ob : KO}, i ∈ srcIds v → σ[i]? = some r → kb[i]? = some ob → owned r ob b → EH.cell (lentE σ kb js W E) b (o + j) = some y := by
    intro i r ob hin hr hk ho
    have hn := hi.sep b ⟨i, r, ob, hr, hk, ho⟩
    have hlt := (hi.obj i r ob hr hk).lt ho
    have hb : lentE σ kb js W E b = W.heap[b]? := by
      simp only [lentE, hn]
      rw [if_pos ⟨i, hjs i hin, r, ob, hr, hk, ho⟩]
    unfold EH.cell
    rw [hb]
    unfold World.cell? at hcell
    simp only at hcell
    split at hcell <;> first | (rename_i e; rw [e]; simpa using hcell) | (cases hcell)
  unfold srcV at hsrc
  split at hsrc
  · rename_i i lo hi'
    split at hsrc <;> try (cases hsrc; done)
    rename_i ty sz' l hl
    simp only [Option.some.injEq, Prod.mk.injEq] at hsrc
    obtain ⟨rfl, rfl, rfl⟩ := hsrc
    simp only [Den] at hd
    obtain ⟨r, ad, hr, e, g1, g2, g3⟩ := hd
    have hl0 : ((l.take hi').drop lo).length = hi' - lo := by simp; omega
    simp only [Value.slice.injEq] at e
    have := g3 (by omega)
    rw [← e.1] at this
    cases this
    exact key (by simp [srcIds]) hr hl ⟨by omega, rfl⟩
  · rename_i sz' l
    simp only [Option.some.injEq, Prod.mk.injEq] at hsrc
    obtain ⟨rfl, rfl, rfl⟩ := hsrc
    have : sz' = s := Nat.eq_of_beq_eq_true hfit
    subst this
    exact (hdat ⟨_, rfl, rfl⟩).elim
  · simp only [Option.some.injEq, Prod.mk.injEq] at hsrc
    obtain ⟨_, _, rfl⟩ := hsrc
    exact (h0 rfl).elim
  · simp only [Option.some.injEq, Prod.mk.injEq] at hsrc
    obtain ⟨_, _, rfl⟩ := hsrc
    exact (h0 rfl).elim
  · rename_i i base o' s' n c
    split at hsrc <;> try (cases hsrc; done)
    rename_i l hl hb
    split at hsrc <;> try (cases hsrc; done)
    rename_i m cs hpc
    simp only [Option.some.injEq, Prod.mk.injEq] at hsrc
    obtain ⟨_, rfl, rfl⟩ := hsrc
    simp only [Den] at hd
    obtain ⟨r, ad, hr, e, g1, g3⟩ := hd
    simp only [Value.slice.injEq] at e
    have := g3 (by omega)
    rw [← e.1] at this
    cases this
    exact key (by simp [srcIds]) hr hl rfl
  · rename_i i ix o' s' n c
    split at hsrc <;> try (cases hsrc; done)
    rename_i ty sz' l hl hb
    simp only [Option.some.injEq, Prod.mk.injEq] at hsrc
    obtain ⟨_, rfl, rfl⟩ := hsrc
    simp only [Den] at hd
    obtain ⟨r, ad, hr, e, g1, g3⟩ := hd
    simp only [Value.slice.injEq] at e
    have := g3 (by omega)
    rw [← e.1] at this
    cases this
    have hk := hi.obj i r _ hr hl
    obtain ⟨_, _, k3, _, _⟩ := hk
    exact key (by simp [srcIds]) hr hl ⟨by have := hp.1; omega, rfl⟩
  · cases hsrc

theorem lendC_ok {kb : KB} {s : Nat} {σ : Sg} {E : EH} {W : World} (hi : Inv σ E kb W) {js : List Nat} : ∀ {vs us : List V} {p : Prop} {is : List Nat}, lendC kb s vs = some (p, us, is) → p → (∀ i ∈ is, i ∈ js) → ∀ {xs : List Value}, DenC σ E vs xs → DenC σ (lentE σ kb js W E) us xs
  | [], us, p, is, h, _, _, xs, hd => by
    simp only [lendC, Option.some.injEq, Prod.mk.injEq] at h
    obtain ⟨_, rfl, _⟩ := h
    simpa only [DenC] using hd
  | v :: vs, us, p, is, h, hp, hjs, xs, hd => by
    simp only [lendC] at h
    obtain ⟨ys, zs, rfl, h1, h2⟩ := hd.uncons
    split at h <;> try (cases h; done)
    rename_i q ws ls hq
    split at h
    · rename_i p1 u is1 h3
      simp only [Option.some.injEq, Prod.mk.injEq] at h
      obtain ⟨rfl, rfl, rfl⟩ := h
      refine DenC.cons ?_ (lendC_ok hi hq hp.2 (fun i hi' => hjs i (List.mem_append_right _ hi')) h2)
      rcases h1 with ⟨y, rfl, h4, h5⟩ | ⟨m, cs, rfl, _, _⟩
      · exact .inl ⟨y, rfl, h4, lend1_ok h3 hp.1 hi h5 (fun i hi' => hjs i (List.mem_append_left _ hi'))⟩
      · cases h3
    · simp only [Option.some.injEq, Prod.mk.injEq] at h
      obtain ⟨rfl, rfl, rfl⟩ := h
      refine DenC.cons ?_ (lendC_ok hi hq hp hjs h2)
      rcases h1 with ⟨y, rfl, h4, h5⟩ | ⟨m, cs, rfl, h4, h5⟩
      · exact .inl ⟨y, rfl, h4, by simpa using Den.mono (τ := []) (lentE_le σ kb js W E) h5⟩
      · exact .inr ⟨m, cs, rfl, h4, h5.mono (lentE_le σ kb js W E)⟩
theorem lendV_ok {kb : KB} {s : Nat} {v u : V} {p : Prop} {is : List Nat} (h : lendV kb s v = some (p, u, is)) (hp : p) {σ : Sg} {E : EH} {W : World} (hi : Inv σ E kb W) {x : Value} (hd : Den σ E v x) {js : List Nat} (hjs : ∀ i ∈ is, i ∈ js) :
    Den σ (lentE σ kb js W E) u x := by
  unfold lendV at h
  split at h
  · split at h <;> try (cases h; done)
    rename_i l p1 us is1 h1
    simp only [Option.some.injEq, Prod.mk.injEq] at h
    obtain ⟨rfl, rfl, rfl⟩ := h
    simp only [Den] at hd ⊢
    obtain ⟨vs, rfl, h2⟩ := hd
    exact ⟨vs, rfl, lendC_ok hi h1 hp hjs h2⟩
  · exact lend1_ok h hp hi hd hjs

theorem lendL_ok {kb : KB} {σ : Sg} {E : EH} {W : World} (hi : Inv σ E kb W) {js : List Nat} : ∀ {ss : List Mode} {vs us : List V} {p : Prop} {is : List Nat}, lendL kb ss vs = some (p, us, is) → p → (∀ i ∈ is, i ∈ js) → ∀ {xs : List Value}, DenL σ E vs xs → DenL σ (lentE σ kb js W E) us xs
  | ss, [], us, p, is, h, _, _, xs, hd => by
    have : us = [] := by
      cases ss with
      | nil => simp only [lendL, Option.some.injEq, Prod.mk.injEq] at h; exact h.2.1.symm
      | cons m ss => cases m <;> (simp only [lendL, Option.some.injEq, Prod.mk.injEq] at h; exact h.2.1.symm)
    subst this
    simpa only [DenL] using hd
  | [], v :: vs, us, p, is, h, hp, hjs, xs, hd => by
    simp only [lendL] at h
    split at h <;> try (cases h; done)
    rename_i q ws ks hq
    simp only [Option.some.injEq, Prod.mk.injEq] at h
    obtain ⟨rfl, rfl, rfl⟩ := h
    simp only [DenL] at hd ⊢
    obtain ⟨x, xs', rfl, h1, h2⟩ := hd
    exact ⟨x, xs', rfl, by simpa using Den.mono (τ := []) (lentE_le σ kb js W E) h1, lendL_ok hi hq hp hjs h2⟩
  | m :: ss, v :: vs, us, p, is, h, hp, hjs, xs, hd => by
    have plain : (match lendL kb ss vs with | some (p, us, is) => some (p, v :: us, is) | none => none) = some (p, us, is) → DenL σ (lentE σ kb js W E) us xs := fun h => by
      split at h <;> try (cases h; done)
      rename_i q ws ks hq
      simp only [Option.some.injEq, Prod.mk.injEq] at h
      obtain ⟨rfl, rfl, rfl⟩ := h
      simp only [DenL] at hd ⊢
      obtain ⟨x, xs', rfl, h1, h2⟩ := hd
      exact ⟨x, xs', rfl, by simpa using Den.mono (τ := []) (lentE_le σ kb js W E) h1, lendL_ok hi hq hp hjs h2⟩
    cases m with
    | asis => exact plain (by simpa only [lendL] using h)
    | give s => exact plain (by simpa only [lendL] using h)
    | lend s =>
      simp only [lendL] at h
      split at h <;> try (cases h; done)
      rename_i q u ks q' ws ls hq hq'
      simp only [Option.some.injEq, Prod.mk.injEq] at h
      obtain ⟨rfl, rfl, rfl⟩ := h
      simp only [DenL] at hd ⊢
      obtain ⟨x, xs', rfl, h1, h2⟩ := hd
      exact ⟨x, xs', rfl, lendV_ok hq hp.1 hi h1 (fun i hi' => hjs i (List.mem_append_left _ hi')), lendL_ok hi hq' hp.2 (fun i hi' => hjs i (List.mem_append_right _ hi')) h2⟩

/-! ### What is free of lent things -/
def D.isVal : D → Prop
  | .val _ => True
  | .sl .. => False
def Plain (cs : List D) : Prop := ∀ d ∈ cs, d.isVal
theorem RepD.free {E E' : EH} {d : D} (h : d.isVal) {x : Value} (hr : RepD E d x) : RepD E' d x := by
  cases d with
  | val v => simpa only [RepD] using hr
  | sl _ _ => exact h.elim
theorem DenD.free {E E' : EH} : ∀ {ds : List D} {xs : List Value}, Plain ds → DenD E ds xs → DenD E' ds xs
  | [], _, _, hd => by simpa only [DenD] using hd
  | d :: ds, _, h, hd => by
    simp only [DenD] at hd ⊢
    obtain ⟨x, xs', h0, h1, h2⟩ := hd
    exact ⟨x, xs', h0, h1.free (h d (by simp)), h2.free (fun e he => h e (List.mem_cons_of_mem _ he))⟩
structure PlainS (cs : List D) : Prop where
  ok : Plain cs
def conjP : List (List D) → Prop
  | [] => True
  | [a] => PlainS a
  | a :: b :: l => PlainS a ∧ conjP (b :: l)
theorem conjP_mem : ∀ {l : List (List D)}, conjP l → ∀ a ∈ l, Plain a
  | [], _, a, ha => by cases ha
  | [b], h, a, ha => by simp at ha; subst ha; exact h.ok
  | b :: c :: l, h, a, ha => by
    rcases List.mem_cons.1 ha with rfl | ha
    · exact h.1.ok
    · exact conjP_mem h.2 a ha
mutual
/-- What must be plain, so that nothing immutable is in it. -/
def V.free : V → Option (List (List D))
  | .ipe .. => none
  | .dat (.sl ..) => none
  | .arr _ cs => some [cs]
  | .agg l => V.freeL l
  | .tup l => V.freeL l
  | .fn _ l => V.freeL l
  | .dat d => some [[d]]
  | _ => some []
def V.freeL : List V → Option (List (List D))
  | [] => some []
  | v :: vs => match V.free v with
    | some p => match V.freeL vs with | some q => some (p ++ q) | none => none
    | none => none
end
mutual
theorem Den.free {σ : Sg} {E E' : EH} : ∀ {v : V} {ps : List (List D)}, V.free v = some ps → (∀ p ∈ ps, Plain p) → ∀ {x : Value}, Den σ E v x → Den σ E' v x
  | .any _, _, _, _, _, hd | .int .., _, _, _, _, hd | .lit .., _, _, _, _, hd | .sb _, _, _, _, _, hd | .tt, _, _, _, _, hd | .ff, _, _, _, _, hd | .ptr .., _, _, _, _, hd | .pa .., _, _, _, _, hd | .sl .., _, _, _, _, hd
  | .pe .., _, _, _, _, hd | .pw .., _, _, _, _, hd | .e0, _, _, _, _, hd | .sa .., _, _, _, _, hd | .se .., _, _, _, _, hd | .mp _, _, _, _, _, hd | .ch _, _, _, _, _, hd => by simpa only [Den] using hd
  | .arr .., _, _, _, _, hd => by simp only [Den] at hd
  | .ipe .., _, h, _, _, _ => by simp [V.free] at h
  | .dat d, ps, h, hp, x, hd => by
    cases d with
    | val v => simpa only [Den, RepD] using hd
    | sl _ _ => simp [V.free] at h
  | .agg l, ps, h, hp, x, hd => by
    simp only [V.free] at h
    simp only [Den] at hd ⊢
    obtain ⟨vs, h1, h2⟩ := hd
    exact ⟨vs, h1, DenC.free h hp h2⟩
  | .tup l, ps, h, hp, x, hd => by
    simp only [V.free] at h
    simp only [Den] at hd ⊢
    obtain ⟨vs, h1, h2⟩ := hd
    exact ⟨vs, h1, DenL.free h hp h2⟩
  | .fn f l, ps, h, hp, x, hd => by
    simp only [V.free] at h
    simp only [Den] at hd ⊢
    obtain ⟨vs, h1, h2⟩ := hd
    exact ⟨vs, h1, DenL.free h hp h2⟩
theorem DenL.free {σ : Sg} {E E' : EH} : ∀ {vs : List V} {ps : List (List D)}, V.freeL vs = some ps → (∀ p ∈ ps, Plain p) → ∀ {xs : List Value}, DenL σ E vs xs → DenL σ E' vs xs
  | [], _, _, _, _, hd => by simpa only [DenL] using hd
  | v :: vs, ps, h, hp, xs, hd => by
    simp only [V.freeL] at h
    split at h <;> try (cases h; done)
    rename_i p h1
    split at h <;> try (cases h; done)
    rename_i q h2
    cases h
    simp only [DenL] at hd ⊢
    obtain ⟨x, xs', h0, k1, k2⟩ := hd
    exact ⟨x, xs', h0, Den.free h1 (fun a ha => hp a (List.mem_append_left _ ha)) k1, DenL.free h2 (fun a ha => hp a (List.mem_append_right _ ha)) k2⟩
theorem DenC.free {σ : Sg} {E E' : EH} : ∀ {vs : List V} {ps : List (List D)}, V.freeL vs = some ps → (∀ p ∈ ps, Plain p) → ∀ {xs : List Value}, DenC σ E vs xs → DenC σ E' vs xs
  | [], _, _, _, _, hd => by simpa only [DenC] using hd
  | v :: vs, ps, h, hp, xs, hd => by
    simp only [V.freeL] at h
    split at h <;> try (cases h; done)
    rename_i p h1
    split at h <;> try (cases h; done)
    rename_i q h2
    cases h
    simp only [DenC] at hd ⊢
    obtain ⟨ys, zs, h0, k1, k2⟩ := hd
    refine ⟨ys, zs, h0, ?_, DenC.free h2 (fun a ha => hp a (List.mem_append_right _ ha)) k2⟩
    rcases k1 with ⟨y, e, o, hy⟩ | ⟨m, cs, e, hl, hD⟩
    · exact .inl ⟨y, e, o, Den.free h1 (fun a ha => hp a (List.mem_append_left _ ha)) hy⟩
    · subst e
      simp only [V.free, Option.some.injEq] at h1
      subst h1
      exact .inr ⟨m, cs, rfl, hl, hD.free (hp cs (by simp))⟩
end
def KO.free : KO → Option (List (List D))
  | .cells l => V.freeL l
  | .row _ _ l => some [l.flatten]
  | .mp _ _ _ _ l => some [(l.map (·.2)).flatten]
  | .ch _ _ _ l => some [l.flatten]
  | .dead => some []
def freeKB : KB → Option (List (List D))
  | [] => some []
  | o :: kb => match KO.free o with
    | some p => match freeKB kb with | some q => some (p ++ q) | none => none
    | none => none
theorem EntL.free {E E' : EH} {kks : List IntKind} {kagg agg : Bool} : ∀ {es : List MapEntry} {l : List (List Int × List D)}, Plain (l.map (·.2)).flatten → EntL E kks kagg agg es l → EntL E' kks kagg agg es l
  | [], _, _, h => by simpa only [EntL] using h
  | e :: es, _, hp, h => by
    simp only [EntL] at h ⊢
    obtain ⟨k, c, l', rfl, ⟨h1, h1', ys, h2, h3⟩, h4⟩ := h
    simp only [List.map_cons, List.flatten_cons] at hp
    exact ⟨k, c, l', rfl, ⟨h1, h1', ys, h2, h3.free (fun d hd => hp d (List.mem_append_left _ hd))⟩, h4.free (fun d hd => hp d (List.mem_append_right _ hd))⟩
theorem BufL.free {E E' : EH} {agg : Bool} : ∀ {vs : List Value} {l : List (List D)}, Plain l.flatten → BufL E agg vs l → BufL E' agg vs l
  | [], _, _, h => by simpa only [BufL] using h
  | v :: vs, _, hp, h => by
    simp only [BufL] at h ⊢
    obtain ⟨c, l', rfl, ⟨ys, h1, h2⟩, h3⟩ := h
    rw [List.flatten_cons] at hp
    exact ⟨c, l', rfl, ⟨ys, h1, h2.free (fun d hd => hp d (List.mem_append_left _ hd))⟩, h3.free (fun d hd => hp d (List.mem_append_right _ hd))⟩
theorem HoldsO.free {σ : Sg} {E E' : EH} {W : World} {r : Re} {o : KO} {ps : List (List D)} (h : KO.free o = some ps) (hp : ∀ p ∈ ps, Plain p) (hh : HoldsO σ E W r o) : HoldsO σ E' W r o := by
  cases o with
  | cells l => obtain ⟨arr, ty, h1, h2⟩ := hh; exact ⟨arr, ty, h1, DenC.free h hp h2⟩
  | row ty sz l =>
    simp only [KO.free, Option.some.injEq] at h
    subst h
    obtain ⟨h0, h1, h2, h3, h4⟩ := hh
    exact ⟨h0, h1, h2, h3, h4.elim .inl fun ⟨arr, k1, k2, k3⟩ => .inr ⟨arr, k1, k2, k3.free (hp _ (by simp))⟩⟩
  | mp kks kagg agg sz l =>
    simp only [KO.free, Option.some.injEq] at h
    subst h
    obtain ⟨h0, es, ck, h1, h2, h3⟩ := hh
    exact ⟨h0, es, ck, h1, h2.free (hp _ (by simp)), h3⟩
  | ch agg sz cap l =>
    simp only [KO.free, Option.some.injEq] at h
    subst h
    obtain ⟨h0, h00, bf, s, rr, h1, h2⟩ := hh
    exact ⟨h0, h00, bf, s, rr, h1, h2.free (hp _ (by simp))⟩
  | dead => trivial
theorem freeKB_ok : ∀ {kb : KB} {ps : List (List D)}, freeKB kb = some ps → (∀ p ∈ ps, Plain p) → ∀ (i : Nat) (o : KO), kb[i]? = some o → ∃ qs, KO.free o = some qs ∧ ∀ q ∈ qs, Plain q
  | [], _, _, _, i, o, ho => by simp at ho
  | x :: kb, ps, h, hp, i, o, ho => by
    simp only [freeKB] at h
    split at h <;> try (cases h; done)
    rename_i p h1
    split at h <;> try (cases h; done)
    rename_i q h2
    cases h
    cases i with
    | zero => simp at ho; subst ho; exact ⟨p, h1, fun a ha => hp a (List.mem_append_left _ ha)⟩
    | succ i => exact freeKB_ok h2 (fun a ha => hp a (List.mem_append_right _ ha)) i o (by simpa using ho)

def disjB : List Nat → List Nat → Bool
  | [], _ => true
  | i :: is, o => match memB o i with | true => false | false => disjB is o
theorem disjB_ok : ∀ {is o : List Nat}, disjB is o = true → ∀ i ∈ is, i ∉ o
  | i :: is, o, h, j, hj => by
    simp only [disjB] at h
    split at h
    · cases h
    · rename_i hm
      rcases List.mem_cons.1 hj with rfl | hj
      · intro hin
        obtain ⟨k, hk⟩ := idx_of_mem hin
        simp [memB, hk] at hm
      · exact disjB_ok h j hj

/-- A call to which slices are lent or given. -/
def specB (S : FSpec) (ms : List Mode) (args : List V) (kb : KB) (K : V → KB → Prop) : Prop :=
  giveL ms args kb (fun args kb => match lendL kb ms args with
    | some (_, args1, []) => specK S args1 kb K
    | some (p, args1, is) => p ∧ (match canon 0 args1 kb with
      | some (args', sub, o) => match disjB is o with
        | true => S args' sub (fun r kb2 => match Nat.ble o.length kb2.length, V.ren (backIx o kb.length) r, backKB kb2 o (backIx o kb.length) 0 kb, V.free r, freeKB kb2 with
          | true, some r', some kb', some ps, some qs => conjP (ps ++ qs) ∧ K r' kb'
          | _, _, _, _, _ => False)
        | false => False
      | none => False)
    | none => False)

theorem lend1_none {kb : KB} {s : Nat} {v u : V} {q : Prop} (hq : lend1 kb s v = some (q, u, [])) {σ : Sg} {E : EH} {x : Value} (h1 : Den σ E v x) : Den σ E u x := by
  unfold lend1 at hq
  split at hq <;> try (cases hq; done)
  rename_i sz r xs2 hsrc
  split at hq <;> try (cases hq; done)
  rename_i hfit
  simp only [Option.some.injEq, Prod.mk.injEq] at hq
  obtain ⟨_, rfl, hids⟩ := hq
  unfold srcV at hsrc
  split at hsrc
  · simp [srcIds] at hids
  · simp only [Option.some.injEq, Prod.mk.injEq] at hsrc
    obtain ⟨rfl, _, rfl⟩ := hsrc
    have : _ = s := Nat.eq_of_beq_eq_true hfit
    subst this
    exact h1
  · simp only [Option.some.injEq, Prod.mk.injEq] at hsrc
    obtain ⟨_, _, rfl⟩ := hsrc
    simp only [Den] at h1
    subst h1
    simp only [Den, RepD]
    exact ⟨none, 0, rfl, Nat.le_refl _, .inl rfl⟩
  · simp only [Option.some.injEq, Prod.mk.injEq] at hsrc
    obtain ⟨_, _, rfl⟩ := hsrc
    simp only [Den] at h1
    obtain ⟨a, rfl⟩ := h1
    simp only [Den, RepD]
    exact ⟨a, 0, rfl, Nat.le_refl _, .inl rfl⟩
  · simp [srcIds] at hids
  · simp [srcIds] at hids
  · cases hsrc
theorem lendC_none {kb : KB} {s : Nat} {σ : Sg} {E : EH} : ∀ {vs us : List V} {p : Prop}, lendC kb s vs = some (p, us, []) → ∀ {xs : List Value}, DenC σ E vs xs → DenC σ E us xs
  | [], us, p, h, xs, hd => by
    simp only [lendC, Option.some.injEq, Prod.mk.injEq] at h
    obtain ⟨_, rfl, _⟩ := h
    exact hd
  | v :: vs, us, p, h, xs, hd => by
    simp only [lendC] at h
    obtain ⟨ys, zs, rfl, h1, h2⟩ := hd.uncons
    split at h <;> try (cases h; done)
    rename_i q ws ls hq
    split at h
    · rename_i p1 u is1 h3
      simp only [Option.some.injEq, Prod.mk.injEq] at h
      obtain ⟨rfl, rfl, he⟩ := h
      have hk : is1 = [] ∧ ls = [] := List.append_eq_nil_iff.1 he
      obtain ⟨rfl, rfl⟩ := hk
      refine DenC.cons ?_ (lendC_none hq h2)
      rcases h1 with ⟨y, rfl, h4, h5⟩ | ⟨m, cs, rfl, _, _⟩
      · exact .inl ⟨y, rfl, h4, lend1_none h3 h5⟩
      · cases h3
    · simp only [Option.some.injEq, Prod.mk.injEq] at h
      obtain ⟨rfl, rfl, rfl⟩ := h
      exact DenC.cons h1 (lendC_none hq h2)
theorem lendV_none {kb : KB} {s : Nat} {v u : V} {q : Prop} (hq : lendV kb s v = some (q, u, [])) {σ : Sg} {E : EH} {x : Value} (h1 : Den σ E v x) : Den σ E u x := by
  unfold lendV at hq
  split at hq
  · split at hq <;> try (cases hq; done)
    rename_i l p1 us is1 h2
    simp only [Option.some.injEq, Prod.mk.injEq] at hq
    obtain ⟨rfl, rfl, rfl⟩ := hq
    simp only [Den] at h1 ⊢
    obtain ⟨vs, rfl, h3⟩ := h1
    exact ⟨vs, rfl, lendC_none h2 h3⟩
  · exact lend1_none hq h1

theorem lendL_none {kb : KB} {σ : Sg} {E : EH} {W : World} (hi : Inv σ E kb W) : ∀ {ss : List Mode} {vs us : List V} {p : Prop}, lendL kb ss vs = some (p, us, []) → ∀ {xs : List Value}, DenL σ E vs xs → DenL σ E us xs
  | ss, [], us, p, h, xs, hd => by
    have : us = [] := by
      cases ss with
      | nil => simp only [lendL, Option.some.injEq, Prod.mk.injEq] at h; exact h.2.1.symm
      | cons m ss => cases m <;> (simp only [lendL, Option.some.injEq, Prod.mk.injEq] at h; exact h.2.1.symm)
    subst this
    simpa only [DenL] using hd
  | [], v :: vs, us, p, h, xs, hd => by
    simp only [lendL] at h
    split at h <;> try (cases h; done)
    rename_i q ws ks hq
    simp only [Option.some.injEq, Prod.mk.injEq] at h
    obtain ⟨rfl, rfl, rfl⟩ := h
    simp only [DenL] at hd ⊢
    obtain ⟨x, xs', rfl, h1, h2⟩ := hd
    exact ⟨x, xs', rfl, h1, lendL_none hi hq h2⟩
  | m :: ss, v :: vs, us, p, h, xs, hd => by
    have plain : (match lendL kb ss vs with | some (p, us, is) => some (p, v :: us, is) | none => none) = some (p, us, []) → DenL σ E us xs := fun h => by
      split at h <;> try (cases h; done)
      rename_i q ws ks hq
      simp only [Option.some.injEq, Prod.mk.injEq] at h
      obtain ⟨rfl, rfl, rfl⟩ := h
      simp only [DenL] at hd ⊢
      obtain ⟨x, xs', rfl, h1, h2⟩ := hd
      exact ⟨x, xs', rfl, h1, lendL_none hi hq h2⟩
    cases m with
    | asis => exact plain (by simpa only [lendL] using h)
    | give s => exact plain (by simpa only [lendL] using h)
    | lend s =>
      simp only [lendL] at h
      split at h <;> try (cases h; done)
      rename_i q u ks q' ws ls hq hq'
      simp only [Option.some.injEq, Prod.mk.injEq] at h
      obtain ⟨rfl, rfl, he⟩ := h
      have hk : ks = [] ∧ ls = [] := List.append_eq_nil_iff.1 he
      obtain ⟨rfl, rfl⟩ := hk
      simp only [DenL] at hd ⊢
      obtain ⟨x, xs', rfl, h1, h2⟩ := hd
      refine ⟨x, xs', rfl, ?_, lendL_none hi hq' h2⟩
      exact lendV_none hq h1

theorem specB_ok {P : Program} {f : FuncId} {S : FSpec} (hS : SpecOk P f S) {ms : List Mode} {args : List V} {kb : KB} {K : V → KB → Prop} (h : specB S ms args kb K) {σ : Sg} {E : EH} {W : World} {xs : List Value} (hi : Inv σ E kb W) (hd : DenL σ E args xs) :
    Calls P f xs.toArray W (fun e W' => ∃ v r σ' E' kb', e = .returned v ∧ Step σ E kb W σ' E' kb' W' ∧ Den σ' E' r v ∧ K r kb') := by
  unfold specB at h
  obtain ⟨E0, kb0, us0, s0, d0, h⟩ := giveL_ok h hi hd
  suffices body : Calls P f xs.toArray W (fun e W' => ∃ v r σ' E' kb', e = .returned v ∧ Step σ E0 kb0 W σ' E' kb' W' ∧ Den σ' E' r v ∧ K r kb') by
    refine body.mono ?_
    rintro e W' ⟨v, r, σ', E', kb', h1, h2, h3, h4⟩
    exact ⟨v, r, σ', E', kb', h1, s0.trans h2, h3, h4⟩
  replace hi := s0.inv
  replace hd := d0
  clear s0 d0
  generalize E0 = E at *
  generalize kb0 = kb at *
  generalize us0 = args at *
  split at h <;> try exact h.elim
  · rename_i q args1 hlend
    exact specK_ok hS h hi (lendL_none hi hlend hd)
  rename_i p args1 is _ hlend
  obtain ⟨hp, h⟩ := h
  split at h <;> try exact h.elim
  rename_i args' sub o hc
  split at h <;> try exact h.elim
  rename_i hdis
  obtain ⟨hn, _, hra, hsel⟩ := canon_ok hc
  obtain ⟨k1, k2, k3⟩ := hi.sel hn hsel
  obtain ⟨hsl, hget⟩ := selKB_ok hsel
  have hdj := disjB_ok hdis
  have hd1 := lendL_ok hi (js := is) hlend hp (fun i h => h) hd
  have hsubown : ∀ b, Owns (selSg σ o) sub b → ∀ (j : Nat) (r : Re) (ob : KO), j ∉ o → σ[j]? = some r → kb[j]? = some ob → owned r ob b → False := by
    intro b hb j r ob hj h1 h2 h3
    obtain ⟨i, r2, o2, g1, g2, g3, g4⟩ := owns_sel hi.len hsel hb
    exact hi.disj i j r2 r o2 ob b (fun e => by subst e; exact hj g1) g2 g3 h1 h2 g4 h3
  -- what is lent lies in no block of the callee's
  have k1' : Inv (selSg σ o) (lentE σ kb is W E) sub W := by
    refine ⟨k1.len, fun i r ob h1 h2 => ?_, k1.disj, fun b x hb => ?_, fun b hb => ?_⟩
    · simpa using (k1.obj i r ob h1 h2).mono (τ := []) (W' := W) (lentE_le σ kb is W E) (fun _ _ => rfl)
    · simp only [lentE] at hb
      split at hb
      · rename_i x' hx; rw [← hb]; exact k1.imm b x' hx
      · split at hb
        · exact hb
        · cases hb
    · have h0 := k1.sep b hb
      simp only [lentE, h0]
      rw [if_neg]
      rintro ⟨i, hi', r, ob, hr, hk, ho⟩
      exact hsubown _ hb i r ob (hdj i hi') hr hk ho
  refine (hS args' sub _ h (selSg σ o) (lentE σ kb is W E) W xs k1' (DenL.ren k3 hra hd1)).mono ?_
  rintro e W' ⟨v, r, σs, E', kb2, rfl, hst, hden, hK⟩
  split at hK <;> try exact hK.elim
  rename_i r' kb' ps qs hble hr' hkb' hef1 hef2
  obtain ⟨hpl, hK⟩ := hK
  have hpl' := conjP_mem hpl
  have hle := Nat.le_of_ble_eq_true hble
  obtain ⟨τ, hτ⟩ := hst.pre
  have hsgl : (selSg σ o).length = o.length := by simp [selSg]
  have hl2 : σs.length = kb2.length := hst.inv.len
  obtain ⟨hout, hcase0⟩ := backKB_ok hkb'
  let σ'' := σ ++ σs.drop o.length
  have hβ : ∀ i j r, backIx o kb.length i = some j → σs[i]? = some r → σ''[j]? = some r := by
    intro i j r hb hr
    unfold backIx at hb
    split at hb
    · rename_i q hq
      cases hb
      have hil : i < o.length := (List.getElem?_eq_some_iff.1 hq).1
      rw [hτ, List.getElem?_append_left (by rw [hsgl]; exact hil)] at hr
      simp only [selSg, List.getElem?_map, hq, Option.map_some, Option.some.injEq] at hr
      obtain ⟨ob, _, hob, _, _⟩ := hget i j hq
      have hjl : j < σ.length := by rw [hi.len]; exact (List.getElem?_eq_some_iff.1 hob).1
      rw [List.getElem?_eq_getElem hjl] at hr
      simp only [Option.getD_some] at hr
      show (σ ++ _)[j]? = _
      rw [List.getElem?_append_left hjl, List.getElem?_eq_getElem hjl, hr]
    · rename_i hq
      cases hb
      have hil : o.length ≤ i := by
        rcases Nat.lt_or_ge i o.length with h' | h'
        · rw [List.getElem?_eq_getElem h'] at hq; cases hq
        · exact h'
      show (σ ++ _)[_]? = _
      rw [List.getElem?_append_right (by rw [hi.len]; omega), hi.len, show kb.length + (i - o.length) - kb.length = i - o.length by omega, List.getElem?_drop, show o.length + (i - o.length) = i by omega]
      exact hr
  have hcase : ∀ (i : Nat) (r : Re) (ob : KO), σ''[i]? = some r → kb'[i]? = some ob →
      (∃ k a, backIx o kb.length k = some i ∧ σs[k]? = some r ∧ kb2[k]? = some a ∧ KO.ren (backIx o kb.length) a = some ob) ∨ (i ∉ o ∧ σ[i]? = some r ∧ kb[i]? = some ob) := by
    intro i r ob h1 h2
    rcases hcase0 i ob h2 with ⟨c1, c2, c3⟩ | ⟨c1, k, a, c2, c3, c4⟩ | ⟨c1, a, c2, c3⟩
    · rw [Nat.zero_add] at c2
      have h1' : (σ ++ σs.drop o.length)[i]? = some r := h1
      rw [List.getElem?_append_left (by rw [hi.len]; exact c1)] at h1'
      exact .inr ⟨idx_none c2, h1', c3⟩
    · rw [Nat.zero_add] at c2
      have hk := idx_spec c2
      have hkl : k < σs.length := by rw [hl2]; exact (List.getElem?_eq_some_iff.1 c3).1
      have hb : backIx o kb.length k = some i := by simp [backIx, hk]
      have := hβ k i _ hb (List.getElem?_eq_getElem hkl)
      rw [this] at h1
      exact .inl ⟨k, a, hb, by rw [List.getElem?_eq_getElem hkl]; exact h1, c3, c4⟩
    · have hb : backIx o kb.length (o.length + (i - kb.length)) = some i := by
        have : o[o.length + (i - kb.length)]? = none := List.getElem?_eq_none (by omega)
        simp only [backIx, this]
        congr 1
        omega
      have hkl : o.length + (i - kb.length) < σs.length := by rw [hl2]; exact (List.getElem?_eq_some_iff.1 c2).1
      have := hβ _ i _ hb (List.getElem?_eq_getElem hkl)
      rw [this] at h1
      exact .inl ⟨_, a, hb, by rw [List.getElem?_eq_getElem hkl]; exact h1, c2, c3⟩
  have hother : ∀ (j : Nat) (r : Re) (ob : KO), j ∉ o → σ[j]? = some r → kb[j]? = some ob → ∀ b, owned r ob b → W'.heap[b]? = W.heap[b]? := by
    intro j r ob hj h1 h2 b h3
    exact hst.stp.block b ((hi.obj j r ob h1 h2).lt h3) (fun hb => hsubown b hb j r ob hj h1 h2 h3)
  have hownA : ∀ b (k : Nat) (r : Re) (a : KO), σs[k]? = some r → kb2[k]? = some a → owned r a b → Owns (selSg σ o) sub b ∨ W.heap.size ≤ b := fun b k r a h1 h2 h3 => hst.own b ⟨k, r, a, h1, h2, h3⟩
  have hown : ∀ b, Owns σ'' kb' b → Owns σ kb b ∨ W.heap.size ≤ b := by
    rintro b ⟨i, r, ob, h1, h2, h3⟩
    rcases hcase i r ob h1 h2 with ⟨k, a, _, g2, g3, g4⟩ | ⟨g1, g2, g3⟩
    · rcases hownA b k r a g2 g3 ((owned_ren g4).1 h3) with h4 | h4
      · exact .inl (k2 b h4)
      · exact .inr h4
    · exact .inl ⟨i, r, ob, g2, g3, h3⟩
  have hEle : E.le E' := (lentE_le σ kb is W E).trans hst.le
  refine ⟨v, r', σ'', E, kb', rfl, ⟨⟨?_, fun i r ob h1 h2 => ?_, fun i j r1 r2 o1 o2 b hij h1 h2 h3 h4 h5 h6 => ?_, fun b x hb => hst.inv.imm b x (hEle b x hb), fun b hb => ?_⟩, ⟨hst.stp.os, hst.stp.tape, hst.stp.output, hst.stp.size, fun b hb hn' => hst.stp.block b hb (fun h => hn' (k2 b h))⟩, ⟨_, rfl⟩, EH.le.refl E, hown, fun b x hb => .inl hb⟩, Den.ren hβ hr' (Den.free hef1 (fun p hp => hpl' p (List.mem_append_left _ hp)) hden), hK⟩
  · simp only [σ'', List.length_append, List.length_drop, hout, hi.len, hl2]
  · rcases hcase i r ob h1 h2 with ⟨k, a, _, g2, g3, g4⟩ | ⟨g1, g2, g3⟩
    · obtain ⟨us, u1, u2⟩ := freeKB_ok hef2 (fun p hp => hpl' p (List.mem_append_right _ hp)) k a g3
      exact ((hst.inv.obj k r a g2 g3).free u1 u2).ren hβ g4
    · exact (hi.obj i r ob g2 g3).mono (EH.le.refl E) (fun b hb => hother i r ob g1 g2 g3 b hb)
  · rcases hcase i r1 o1 h1 h2 with ⟨k, a, g1, g2, g3, g4⟩ | ⟨g1, g2, g3⟩ <;> rcases hcase j r2 o2 h3 h4 with ⟨m, a', q1, q2, q3, q4⟩ | ⟨q1, q2, q3⟩
    · refine hst.inv.disj k m r1 r2 a a' b (fun e => ?_) g2 g3 q2 q3 ((owned_ren g4).1 h5) ((owned_ren q4).1 h6)
      subst e
      rw [g1] at q1
      cases q1
      exact hij rfl
    · rcases hownA b k r1 a g2 g3 ((owned_ren g4).1 h5) with h7 | h7
      · exact hsubown b h7 j r2 o2 q1 q2 q3 h6
      · have := (hi.obj j r2 o2 q2 q3).lt h6; omega
    · rcases hownA b m r2 a' q2 q3 ((owned_ren q4).1 h6) with h7 | h7
      · exact hsubown b h7 i r1 o1 g1 g2 g3 h5
      · have := (hi.obj i r1 o1 g2 g3).lt h5; omega
    · exact hi.disj i j r1 r2 o1 o2 b hij g2 g3 q2 q3 h5 h6
  · obtain ⟨i, r, ob, h1, h2, h3⟩ := hb
    rcases hcase i r ob h1 h2 with ⟨k, a, _, g2, g3, g4⟩ | ⟨g1, g2, g3⟩
    · cases hE : E b with
      | none => rfl
      | some x =>
        have h0 := hst.inv.sep b ⟨k, r, a, g2, g3, (owned_ren g4).1 h3⟩
        have := hEle b x hE
        rw [h0] at this; cases this
    · exact hi.sep b ⟨i, r, ob, g2, g3, h3⟩

/-! ### Functions by their specifications -/
/-- What is known of a function: how its arguments are handed to it, and what it does. -/
structure Known where
  modes : List Mode
  S : FSpec

def callS (P : Program) (Sp : FuncId → Option Known) (T : FuncId → Nat → Option LI) : Nat → CallT
  | 0 => fun _ _ _ _ => False
  | d + 1 => fun f args kb K => match Sp f with
    | some k => match k.modes with
      | [] => specK k.S args kb K
      | ms => specB k.S ms args kb K
    | none => runFn P (callS P Sp T d) (T f) f args kb K

def AllOk (P : Program) (Sp : FuncId → Option Known) : Prop := ∀ f k, Sp f = some k → SpecOk P f k.S

theorem callS_ok {P : Program} (hm : P.follows .mixedOrders = true) {Sp : FuncId → Option Known} (hS : AllOk P Sp) (T : FuncId → Nat → Option LI) : ∀ d, CallOk P (callS P Sp T d)
  | 0 => fun f args kb K h => h.elim
  | d + 1 => fun f args kb K h σ E W xs hi hd => by
    simp only [callS] at h
    split at h
    · rename_i k hk
      split at h
      · exact specK_ok (hS f k hk) h hi hd
      · exact specB_ok (hS f k hk) h hi hd
    · exact runFn_ok (callS_ok hm hS T d) hm h hi hd

/-- What is handed back, in its own numbering. -/
def finC (P : Program) (fn : Func) (n0 : Nat) (K : V → KB → Prop) : Exit → Fr → KB → Prop :=
  fin P fn (fun r kb => match canon n0 [r] kb with
    | some ([r'], kb', _) => K r' kb'
    | _ => False)

/-- The body of a function that has a specification. -/
def runSpec (P : Program) (X : CallT) (T : Nat → Option LI) (f : FuncId) (args : List V) (kb : KB) (K : V → KB → Prop) : Prop :=
  runFn P X T f args kb (fun r kb' => match canon kb.length [r] kb' with
    | some ([r'], kb', _) => K r' kb'
    | _ => False)

theorem runSpec_ok {P : Program} {X : CallT} (hX : CallOk P X) (hm : P.follows .mixedOrders = true) {T : Nat → Option LI} {f : FuncId} {args : List V} {kb : KB} {K : V → KB → Prop} (h : runSpec P X T f args kb K) {σ : Sg} {E : EH} {W : World} {xs : List Value} (hi : Inv σ E kb W)
    (hd : DenL σ E args xs) : Calls P f xs.toArray W (fun e W' => ∃ v r σ' E' kb', e = .returned v ∧ Step σ E kb W σ' E' kb' W' ∧ Den σ' E' r v ∧ K r kb') := by
  refine (runFn_ok hX hm h hi hd).mono ?_
  rintro e W' ⟨v, r, σ', E', kb', rfl, h1, h2, h3⟩
  split at h3 <;> try exact h3.elim
  rename_i r' kb2 o hc
  rw [← hi.len] at hc
  obtain ⟨σ2, h4, h5⟩ := Step.sel (c := ⟨σ, E, kb, W⟩) h1 hc (.cons h2 .nil)
  simp only [DenL] at h5
  obtain ⟨x, xs', he, h6, rfl⟩ := h5
  cases he
  exact ⟨v, r', σ2, E', kb2, rfl, h4, h6, h3⟩

theorem specOk_of {P : Program} {X : CallT} (hX : CallOk P X) (hm : P.follows .mixedOrders = true) (T : Nat → Option LI) {f : FuncId} {S : FSpec} (h : ∀ args kb K, S args kb K → runSpec P X T f args kb K) : SpecOk P f S :=
  fun args kb K hs σ E W xs hi hd => runSpec_ok hX hm (h args kb K hs) hi hd

/-! ### Laws -/
def isT : V → Prop
  | .tt => True
  | .sb b => b = true
  | _ => False
theorem isT_den {v : V} (h : isT v) {σ : Sg} {E : EH} {x : Value} (hd : Den σ E v x) : x = .bool true := by
  cases v <;> simp only [isT] at h
  · subst h; simpa [Den] using hd
  · simpa [Den] using hd

/-- The world's own blocks, all of them immutable. -/
def baseE (W : World) : EH := fun b => W.heap[b]?
theorem inv_base (W : World) : Inv [] (baseE W) [] W :=
  ⟨rfl, fun i r o h => by simp at h, fun i j r r' o o' b _ h => by simp at h, fun b o h => h, fun b ⟨i, r, o, h, _⟩ => by simp at h⟩

theorem law_of {P : Program} {X : CallT} (hX : CallOk P X) {f : FuncId} {args : List V} (h : X f args [] (fun r _ => isT r)) {W : World} {xs : List Value} (hd : DenL [] (baseE W) args xs) :
    Calls P f xs.toArray W (fun e W' => e = .returned (.bool true) ∧ RowKit.Below W.heap.size W W') := by
  refine (hX f args [] _ h [] (baseE W) W xs (inv_base W) hd).mono ?_
  rintro e W' ⟨v, r, σ', E', kb', rfl, h1, h2, h3⟩
  refine ⟨by rw [isT_den h3 h2], ⟨h1.stp.os, h1.stp.tape, h1.stp.output, h1.stp.size, fun k hk => h1.stp.block k hk (fun ⟨i, r, o, h, _⟩ => by simp at h)⟩⟩
end Vc
