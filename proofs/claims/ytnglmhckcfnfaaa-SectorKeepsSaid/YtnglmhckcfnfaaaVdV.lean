/- The marks of ranges over functions; what is known depends on the immutable cells alone. -/
import Derived.Test.YtnglmhckcfnfaaaVdB
import Derived.RangeFuncRecord
set_option linter.unusedSimpArgs false
set_option linter.unusedVariables false
namespace Vc
open Go

/-- All immutable cells of the one are the other's. -/
def EH.cle (E E' : EH) : Prop := ∀ b o v, E.cell b o = some v → E'.cell b o = some v
theorem EH.cle.cell {E E' : EH} (h : E.cle E') {b o : Nat} {v : Value} (hc : E.cell b o = some v) : E'.cell b o = some v := h b o v hc
mutual
theorem RepD.cmono {E E' : EH} (h : E.cle E') : ∀ {d : D} {v : Value}, RepD E d v → RepD E' d v
  | .val _, _, hr => by simpa [RepD] using hr
  | .sl sz l, x, hr => by
    simp only [RepD] at hr ⊢
    obtain ⟨a, cap, h1, h2, h3⟩ := hr
    exact ⟨a, cap, h1, h2, h3.elim .inl (fun ⟨b, off, e, r⟩ => .inr ⟨b, off, e, RepL.cmono h r⟩)⟩
theorem RepC.cmono {E E' : EH} (h : E.cle E') : ∀ {cs : List D} {b off : Nat}, RepC E cs b off → RepC E' cs b off
  | [], _, _, _ => by simp [RepC]
  | c :: cs, b, off, hr => by
    simp only [RepC] at hr ⊢
    obtain ⟨⟨v, h1, h2⟩, h3⟩ := hr
    exact ⟨⟨v, h.cell h1, RepD.cmono h h2⟩, RepC.cmono h h3⟩
theorem RepL.cmono {E E' : EH} (h : E.cle E') : ∀ {sz : Nat} {l : List (List D)} {b off : Nat}, RepL E sz l b off → RepL E' sz l b off
  | _, [], _, _, _ => by simp [RepL]
  | sz, e :: l, b, off, hr => by
    simp only [RepL] at hr ⊢
    exact ⟨⟨hr.1.1, RepC.cmono h hr.1.2⟩, RepL.cmono h hr.2⟩
end

theorem DenD.cmono {E E' : EH} (hE : E.cle E') : ∀ {ds : List D} {xs : List Value}, DenD E ds xs → DenD E' ds xs
  | [], _, h => by simpa only [DenD] using h
  | d :: ds, _, h => by simp only [DenD] at h ⊢; obtain ⟨x, xs', h0, h1, h2⟩ := h; exact ⟨x, xs', h0, h1.cmono hE, h2.cmono hE⟩
mutual
theorem Den.cmono {σ τ : Sg} {E E' : EH} (h : E.cle E') : ∀ {v : V} {x : Value}, Den σ E v x → Den (σ ++ τ) E' v x
  | .any _, _, hd | .int .., _, hd | .lit .., _, hd | .sb _, _, hd | .tt, _, hd | .ff, _, hd | .e0, _, hd => by simpa [Den] using hd
  | .arr .., _, hd => by simp only [Den] at hd
  | .ptr i off, _, hd => by simp only [Den] at hd ⊢; obtain ⟨r, h1, h2⟩ := hd; exact ⟨r, sg_ext h1, h2⟩
  | .pa i base o, _, hd => by simp only [Den] at hd ⊢; obtain ⟨r, h1, h2⟩ := hd; exact ⟨r, sg_ext h1, h2⟩
  | .mp i, _, hd => by simp only [Den] at hd ⊢; obtain ⟨r, h1, h2⟩ := hd; exact ⟨r, sg_ext h1, h2⟩
  | .ch i, _, hd => by simp only [Den] at hd ⊢; obtain ⟨r, h1, h2⟩ := hd; exact ⟨r, sg_ext h1, h2⟩
  | .sl i lo hi, _, hd => by simp only [Den] at hd ⊢; obtain ⟨r, a, h1, h2⟩ := hd; exact ⟨r, a, sg_ext h1, h2⟩
  | .sa .., _, hd => by simp only [Den] at hd ⊢; obtain ⟨r, a, h1, h2⟩ := hd; exact ⟨r, a, sg_ext h1, h2⟩
  | .se .., _, hd => by simp only [Den] at hd ⊢; obtain ⟨r, a, h1, h2⟩ := hd; exact ⟨r, a, sg_ext h1, h2⟩
  | .pe i ix fld, _, hd => by simp only [Den] at hd ⊢; obtain ⟨r, h1, h2⟩ := hd; exact ⟨r, sg_ext h1, h2⟩
  | .pw i ix, _, hd => by simp only [Den] at hd ⊢; obtain ⟨r, h1, h2⟩ := hd; exact ⟨r, sg_ext h1, h2⟩
  | .ipe e fld, _, hd => by simp only [Den] at hd ⊢; obtain ⟨b, off, h1, h2⟩ := hd; exact ⟨b, off, h1, RepC.cmono h h2⟩
  | .dat d, _, hd => by simp only [Den] at hd ⊢; exact RepD.cmono h hd
  | .agg l, _, hd => by simp only [Den] at hd ⊢; obtain ⟨vs, h1, h2⟩ := hd; exact ⟨vs, h1, DenC.cmono h h2⟩
  | .tup l, _, hd => by simp only [Den] at hd ⊢; obtain ⟨vs, h1, h2⟩ := hd; exact ⟨vs, h1, DenL.cmono h h2⟩
  | .fn f cap, _, hd => by simp only [Den] at hd ⊢; obtain ⟨vs, h1, h2⟩ := hd; exact ⟨vs, h1, DenL.cmono h h2⟩
theorem DenL.cmono {σ τ : Sg} {E E' : EH} (h : E.cle E') : ∀ {vs : List V} {xs : List Value}, DenL σ E vs xs → DenL (σ ++ τ) E' vs xs
  | [], _, hd => by simpa [DenL] using hd
  | v :: vs, _, hd => by
    simp only [DenL] at hd ⊢
    obtain ⟨x, xs', h1, h2, h3⟩ := hd
    exact ⟨x, xs', h1, Den.cmono h h2, DenL.cmono h h3⟩
theorem DenC.cmono {σ τ : Sg} {E E' : EH} (h : E.cle E') : ∀ {vs : List V} {xs : List Value}, DenC σ E vs xs → DenC (σ ++ τ) E' vs xs
  | [], _, hd => by simpa [DenC] using hd
  | v :: vs, _, hd => by
    simp only [DenC] at hd ⊢
    obtain ⟨ys, zs, h1, h2, h3⟩ := hd
    refine ⟨ys, zs, h1, ?_, DenC.cmono h h3⟩
    rcases h2 with ⟨y, e, o, hy⟩ | ⟨m, cs, e, hl, hd⟩
    · exact .inl ⟨y, e, o, Den.cmono h hy⟩
    · exact .inr ⟨m, cs, e, hl, hd.cmono h⟩
end

theorem EntL.cmono {E E' : EH} (hE : E.cle E') {kks : List IntKind} {kagg agg : Bool} : ∀ {es : List MapEntry} {l : List (List Int × List D)}, EntL E kks kagg agg es l → EntL E' kks kagg agg es l
  | [], _, h => by simpa only [EntL] using h
  | e :: es, _, h => by
    simp only [EntL] at h ⊢
    obtain ⟨k, c, l', h0, ⟨h1, h1', ys, h2, h3⟩, h4⟩ := h
    exact ⟨k, c, l', h0, ⟨h1, h1', ys, h2, h3.cmono hE⟩, h4.cmono hE⟩

theorem BufL.cmono {E E' : EH} (hE : E.cle E') {agg : Bool} : ∀ {vs : List Value} {l : List (List D)}, BufL E agg vs l → BufL E' agg vs l
  | [], _, h => by simpa only [BufL] using h
  | v :: vs, _, h => by
    simp only [BufL] at h ⊢
    obtain ⟨c, l', h0, ⟨ys, h1, h2⟩, h3⟩ := h
    exact ⟨c, l', h0, ⟨ys, h1, h2.cmono hE⟩, h3.cmono hE⟩

theorem HoldsO.cmono {σ τ : Sg} {E E' : EH} {W W' : World} (hE : E.cle E') {r : Re} {o : KO} (h : HoldsO σ E W r o) (hb : ∀ b, owned r o b → W'.heap[b]? = W.heap[b]?) : HoldsO (σ ++ τ) E' W' r o := by
  cases o with
  | cells l =>
    obtain ⟨arr, ty, h1, h2⟩ := h
    exact ⟨arr, ty, by rw [hb r.blk rfl]; exact h1, DenC.cmono hE h2⟩
  | row ty sz l =>
    obtain ⟨h0, h1, h2, h3, h4⟩ := h
    refine ⟨h0, h1, h2, h3, ?_⟩
    rcases h4 with h4 | ⟨arr, h4, h5⟩
    · exact .inl h4
    · by_cases hc : r.cap = 0
      · exact .inl hc
      · exact .inr ⟨arr, by rw [hb r.blk ⟨hc, rfl⟩]; exact h4, h5.1, h5.2.cmono hE⟩
  | mp kks kagg agg sz l =>
    obtain ⟨h0, es, ck, h1, h2, h3⟩ := h
    exact ⟨h0, es, ck, by rw [hb r.blk rfl]; exact h1, h2.cmono hE, h3⟩
  | ch agg sz cap l =>
    obtain ⟨h0, h00, bf, s, rr, h1, h2⟩ := h
    exact ⟨h0, h00, bf, s, rr, by rw [hb r.blk rfl]; exact h1, h2.cmono hE⟩
  | dead => trivial


/-- The cells alone. -/
def EH.strip (E : EH) : EH := fun b => match E b with
  | some (.cells c t i) => some (.cells c t i)
  | _ => none
theorem EH.strip_some {E : EH} {b : Nat} {o : Obj} (h : E.strip b = some o) : E b = some o := by
  unfold EH.strip at h
  split at h
  · rename_i c t i e; rw [e]; exact h
  · cases h
theorem EH.strip_cells {E : EH} {b : Nat} {c : Array Value} {t : TypeId} {i : Nat × Nat} (h : E b = some (.cells c t i)) : E.strip b = some (.cells c t i) := by
  unfold EH.strip; rw [h]
theorem EH.strip_cle (E : EH) : E.cle E.strip := by
  intro b o v h
  unfold EH.cell EH.strip at *
  cases e : E b with
  | none => rw [e] at h; cases h
  | some x =>
    rw [e] at h
    cases x <;> first | exact h | (simp only at h; cases h)
theorem EH.strip_def {E : EH} {b : Nat} {l : Option (List Deferred)} : E.strip b ≠ some (.deferred l) := by
  unfold EH.strip
  intro h
  split at h
  · cases h
  · cases h

/-- The marks of ranges over functions among a frame's deferred calls: the rounds deferred nothing. -/
structure MkOk (E : EH) (ds : List Deferred) : Prop where
  all : ∀ d ∈ ds, ∃ b, d = { target := .collected b, args := #[] } ∧ E b = some (.deferred (some []))
  nodup : ds.Pairwise (· ≠ ·)
theorem MkOk.nil (E : EH) : MkOk E [] := ⟨by simp, .nil⟩
theorem MkOk.mono {E E' : EH} {ds : List Deferred} (h : MkOk E ds) (hE : E.le E') : MkOk E' ds :=
  ⟨fun d hd => let ⟨b, h1, h2⟩ := h.all d hd; ⟨b, h1, hE b _ h2⟩, h.nodup⟩

/-- A function's marks are taken, one by one: it leaves as it would have left without them. -/
theorem leaves_marks {P : Program} {fn : Func} {tmps : Array Value} {R : Ending → World → Prop} : ∀ (ds : List Deferred) (W : World), ds.Pairwise (· ≠ ·) →
    (∀ d ∈ ds, ∃ b, d = { target := .collected b, args := #[] } ∧ W.heap[b]? = some (.deferred (some []))) →
    (∀ W', W'.os = W.os → W'.tape = W.tape → W'.output = W.output → W'.heap.size = W.heap.size → (∀ b, (∀ d ∈ ds, d ≠ { target := .collected b, args := #[] }) → W'.heap[b]? = W.heap[b]?) →
      ∃ v, (results fn tmps).run P W' = .ok v W' ∧ R (.returned v) W') →
    LeavesInM Fence.wide 0 P fn tmps R ds .returning W
  | [], W, _, _, h => by
    obtain ⟨v, h1, h2⟩ := h W rfl rfl rfl rfl (fun _ _ => rfl)
    exact ⟨v, h1, h2⟩
  | d :: ds, W, hn, hd, h => by
    obtain ⟨b, rfl, hb⟩ := hd d (List.mem_cons_self ..)
    have hn' := List.pairwise_cons.1 hn
    refine ⟨by simp, .inl ⟨b, _, rfl, run_takeDeferred hb, leaves_marks ds _ hn'.2 (fun d hd' => ?_) (fun W' e1 e2 e3 e4 e5 => ?_)⟩⟩
    · obtain ⟨b', rfl, hb'⟩ := hd d (List.mem_cons_of_mem _ hd')
      refine ⟨b', rfl, ?_⟩
      rw [World.putObj_heap_other]
      · exact hb'
      · intro e; subst e; exact hn'.1 _ hd' rfl
    · refine h W' (e1.trans rfl) (e2.trans rfl) (e3.trans rfl) (e4.trans World.putObj_size) (fun b' hb' => ?_)
      rw [e5 b' (fun d hd' => hb' d (List.mem_cons_of_mem _ hd'))]
      rw [World.putObj_heap_other]
      intro e; subst e
      exact hb' _ (List.mem_cons_self ..) rfl

/-- What a function has done, its marks let go. -/
theorem Step.unmark {σ : Sg} {E : EH} {kb : KB} {W : World} (hi : Inv σ E kb W) {σ' : Sg} {E' : EH} {kb' : KB} {W' : World} (h : Step σ E.strip kb W σ' E' kb' W') {W2 : World}
    (e1 : W2.os = W'.os) (e2 : W2.tape = W'.tape) (e3 : W2.output = W'.output) (e4 : W2.heap.size = W'.heap.size) {M : Nat → Prop} (hM : ∀ b, M b → E' b = some (.deferred (some []))) (e5 : ∀ b, ¬ M b → W2.heap[b]? = W'.heap[b]?) :
    ∃ E2, Step σ E kb W σ' E2 kb' W2 ∧ E'.cle E2 := by
  have hEW : ∀ b x, E b = some x → W'.heap[b]? = some x := fun b x hx => by
    have h1 := hi.imm b x hx
    rw [h.stp.block b (Array.getElem?_eq_some_iff.1 h1).1 (fun ho => by have := hi.sep b ho; rw [hx] at this; cases this)]
    exact h1
  have hMn : ∀ b, M b → E b = none := fun b hb => by
    have h0 := hM b hb
    cases hE : E b with
    | none => rfl
    | some x =>
      exfalso
      have h2 := h.inv.imm b _ h0
      have h3 := hEW b x hE
      rw [h2] at h3
      rcases h.new b _ h0 with h1 | h1 | h1
      · exact EH.strip_def h1
      · have := hi.sep b h1; rw [hE] at this; cases this
      · have := (Array.getElem?_eq_some_iff.1 (hi.imm b x hE)).1; omega
  have hMold : ∀ b, M b → ¬ Owns σ kb b → W.heap.size ≤ b := fun b hb hno => by
    rcases h.new b _ (hM b hb) with h1 | h1 | h1
    · exact (EH.strip_def h1).elim
    · exact (hno h1).elim
    · exact h1
  let E2 : EH := fun b => match E b with | some x => some x | none => E'.strip b
  have hE2 : ∀ b x, E2 b = some x → E b = some x ∨ (E b = none ∧ E'.strip b = some x) := by
    intro b x hx
    simp only [E2] at hx
    split at hx
    · rename_i y hy; rw [hy]; exact .inl hx
    · rename_i hy; exact .inr ⟨hy, hx⟩
  have hc : E'.cle E2 := by
    intro b o v hv
    have hv' := E'.strip_cle b o v hv
    unfold EH.cell at hv ⊢
    simp only [E2]
    cases hE : E b with
    | none => exact hv'
    | some x =>
      have h3 := hEW b x hE
      cases hE' : E' b with
      | none => rw [hE'] at hv; cases hv
      | some y =>
        have h2 := h.inv.imm b y hE'
        rw [h3] at h2
        cases h2
        rw [hE'] at hv
        exact hv
  have hsepM : ∀ b, Owns σ' kb' b → ¬ M b := fun b hb hm => by have := h.inv.sep b hb; rw [hM b hm] at this; cases this
  refine ⟨E2, ⟨⟨h.inv.len, fun i r o h1 h2 => ?_, h.inv.disj, fun b x hx => ?_, fun b hb => ?_⟩, ⟨e1.trans h.stp.os, e2.trans h.stp.tape, e3.trans h.stp.output, by rw [e4]; exact h.stp.size, fun b hb hno => ?_⟩, h.pre, fun b x hx => ?_, h.own, fun b x hx => ?_⟩, hc⟩
  · have := (h.inv.obj i r o h1 h2).cmono (τ := []) (W' := W2) hc (fun b hb => e5 b (hsepM b ⟨i, r, o, h1, h2, hb⟩))
    simpa using this
  · rcases hE2 b x hx with hx | ⟨_, hx⟩
    · rw [e5 b (fun hm => by rw [hMn b hm] at hx; cases hx)]
      exact hEW b x hx
    · have hx' := EH.strip_some hx
      rw [e5 b (fun hm => by rw [hM b hm] at hx'; cases hx'; exact EH.strip_def hx)]
      exact h.inv.imm b x hx'
  · have h1 := h.inv.sep b hb
    have h2 : E b = none := by
      rcases h.own b hb with h2 | h2
      · exact hi.sep b h2
      · cases hE : E b with
        | none => rfl
        | some x => have := (Array.getElem?_eq_some_iff.1 (hi.imm b x hE)).1; omega
    simp only [E2, h2, EH.strip, h1]
  · rw [e5 b (fun hm => by have := hMold b hm hno; omega)]
    exact h.stp.block b hb hno
  · simp only [E2, hx]
  · rcases hE2 b x hx with hx | ⟨_, hx⟩
    · exact .inl hx
    · rcases h.new b x (EH.strip_some hx) with h1 | h1 | h1
      · exact .inl (EH.strip_some h1)
      · exact .inr (.inl h1)
      · exact .inr (.inr h1)

/-- The cells alone are enough. -/
theorem Inv.strip {σ : Sg} {E : EH} {kb : KB} {W : World} (h : Inv σ E kb W) : Inv σ E.strip kb W :=
  ⟨h.len, fun i r o h1 h2 => by
    have := (h.obj i r o h1 h2).cmono (τ := []) (W' := W) E.strip_cle (fun _ _ => rfl)
    simpa using this, h.disj, fun b o hb => h.imm b o (EH.strip_some hb), fun b hb => by
      have := h.sep b hb
      simp only [EH.strip, this]⟩

/-- A range over a function is entered: two blocks that are nobody's, the one immutable for as long as the function runs. -/
theorem Step.entered {σ : Sg} {E : EH} {kb : KB} {W : World} (hi : Inv σ E kb W) (r : Loop) :
    ∃ E', Step σ E kb W σ E' kb ((W.alloc (.deferred (some []))).alloc (.loop r)) ∧ E' W.heap.size = some (.deferred (some [])) ∧ E' (W.heap.size + 1) = none ∧ ((W.alloc (.deferred (some []))).alloc (.loop r)).heap[W.heap.size + 1]? = some (.loop r) := by
  let W1 := (W.alloc (.deferred (some []))).alloc (.loop r)
  have hold : ∀ b, b < W.heap.size → W1.heap[b]? = W.heap[b]? := fun b hb => by
    show ((W.heap.push _).push _)[b]? = _
    rw [Array.getElem?_push, if_neg (by simp; omega), Array.getElem?_push, if_neg (by omega)]
  have h0 : W1.heap[W.heap.size]? = some (.deferred (some [])) := by
    show ((W.heap.push _).push _)[W.heap.size]? = _
    rw [Array.getElem?_push, if_neg (by simp), Array.getElem?_push, if_pos rfl]
  have h1 : W1.heap[W.heap.size + 1]? = some (.loop r) := by
    show ((W.heap.push _).push _)[W.heap.size + 1]? = _
    rw [Array.getElem?_push, if_pos (by simp)]
  have hEn : ∀ b, W.heap.size ≤ b → E b = none := fun b hb => by
    cases hE : E b with
    | none => rfl
    | some x => have := (Array.getElem?_eq_some_iff.1 (hi.imm b x hE)).1; omega
  let E' : EH := fun b => if b = W.heap.size then some (.deferred (some [])) else E b
  have hle : E.le E' := fun b x hb => by
    show (if b = W.heap.size then _ else E b) = some x
    rw [if_neg (fun e => by rw [hEn b (by omega)] at hb; cases hb)]
    exact hb
  refine ⟨E', ⟨⟨hi.len, fun i r' o h2 h3 => ?_, hi.disj, fun b x hb => ?_, fun b hb => ?_⟩, ⟨rfl, rfl, rfl, by show W.heap.size ≤ ((W.heap.push _).push _).size; simp only [Array.size_push]; omega, fun b hb _ => hold b hb⟩, ⟨[], by simp⟩, hle, fun b hb => .inl hb, fun b x hb => ?_⟩, by simp [E'], ?_, h1⟩
  · have := (hi.obj i r' o h2 h3).mono (τ := []) (W' := W1) hle (fun b hb => hold b ((hi.obj i r' o h2 h3).lt hb))
    simpa using this
  · by_cases hc : b = W.heap.size
    · subst hc
      simp only [E', if_true] at hb
      rw [← hb]
      exact h0
    · simp only [E', if_neg hc] at hb
      have h2 := hi.imm b x hb
      rw [← h2]
      exact hold b (Array.getElem?_eq_some_iff.1 h2).1
  · have hlt := hi.lt hb
    simp only [E', if_neg (show ¬ b = W.heap.size by omega)]
    exact hi.sep b hb
  · by_cases hc : b = W.heap.size
    · exact .inr (.inr (by omega))
    · simp only [E', if_neg hc] at hb; exact .inl hb
  · simp only [E', if_neg (show ¬ W.heap.size + 1 = W.heap.size by omega)]
    exact hEn _ (by omega)

/-- A block that is nobody's turns. -/
theorem Step.other {σ : Sg} {E : EH} {kb : KB} {W : World} {σ' : Sg} {E' : EH} {kb' : KB} {W' : World} (h : Step σ E kb W σ' E' kb' W') {l : Nat} (hl : W.heap.size ≤ l) (hno : ¬ Owns σ' kb' l) (hE : E' l = none) (o : Obj) : Step σ E kb W σ' E' kb' (W'.putObj l o) := by
  refine ⟨⟨h.inv.len, fun i r x h1 h2 => ?_, h.inv.disj, fun b x hb => ?_, h.inv.sep⟩, ⟨h.stp.os, h.stp.tape, h.stp.output, by rw [World.putObj_size]; exact h.stp.size, fun b hb hn => ?_⟩, h.pre, h.le, h.own, h.new⟩
  · have := (h.inv.obj i r x h1 h2).mono (τ := []) (W' := W'.putObj l o) (EH.le.refl E') (fun b hb => World.putObj_heap_other (fun e => by subst e; exact hno ⟨i, r, x, h1, h2, hb⟩))
    simpa using this
  · rw [World.putObj_heap_other (fun e => by subst e; rw [hE] at hb; cases hb)]
    exact h.inv.imm b x hb
  · rw [World.putObj_heap_other (by omega)]
    exact h.stp.block b hb hn

end Vc
