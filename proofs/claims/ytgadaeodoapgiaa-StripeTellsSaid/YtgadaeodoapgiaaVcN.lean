/- Slices that are lent to a callee; functions by their specifications; laws. -/
import Derived.Test.YtgadaeodoapgiaaVcM
import Derived.Below
set_option linter.unusedVariables false
namespace Vc
open Go

/-! ### Slices that are lent -/
/-- An argument that the callee only reads, a slice of elements of s cells: what it is to the callee, and what it must meet. -/
def lendV (kb : KB) (s : Nat) (v : V) : Option (Prop × V × List Nat) :=
  match s with
  | 0 => some (True, v, [])
  | _ => match v with
    | .sl i lo hi => match kb[i]? with
      | some (.row _ sz l) => match Nat.beq sz s with
        | true => some (hi ≤ l.length, .isl s ((l.take hi).drop lo), [i])
        | false => none
      | _ => none
    | .any (.slice none 0 0) => some (True, .isl s [], [])
    | .isl sz l => match Nat.beq sz s with
      | true => some (True, .isl sz l, [])
      | false => none
    | _ => none

def lendL (kb : KB) : List Nat → List V → Option (Prop × List V × List Nat)
  | _, [] => some (True, [], [])
  | [], v :: vs => match lendL kb [] vs with
    | some (p, us, is) => some (p, v :: us, is)
    | none => none
  | s :: ss, v :: vs => match lendV kb s v, lendL kb ss vs with
    | some (p, u, is), some (q, us, js) => some (p ∧ q, u :: us, is ++ js)
    | _, _ => none

/-- The blocks of what is lent, added to the immutable ones. -/
def lentE (σ : Sg) (is : List Nat) (W : World) (E : EH) : EH := fun b => match E b with
  | some o => some o
  | none => if ∃ i ∈ is, ∃ r, σ[i]? = some r ∧ r.cap ≠ 0 ∧ b = r.blk then W.heap[b]? else none

theorem lentE_le (σ : Sg) (is : List Nat) (W : World) (E : EH) : E.le (lentE σ is W E) := fun b o h => by simp [lentE, h]

theorem RepDs_of_cells {E : EH} : ∀ {l : List Value} {b off : Nat}, (∀ (j : Nat) (x : Value), l[j]? = some x → E.cell b (off + j) = some x) → RepDs E (l.map .val) b off
  | [], _, _, _ => by simp [RepDs]
  | v :: l, b, off, h => by
    simp only [List.map_cons, RepDs]
    refine ⟨⟨v, by simpa using h 0 v rfl, by simp [RepD]⟩, RepDs_of_cells (fun j x hj => ?_)⟩
    rw [show off + 1 + j = off + (j + 1) by omega]
    exact h (j + 1) x (by simpa using hj)

theorem lendV_ok {kb : KB} {s : Nat} {v u : V} {p : Prop} {is : List Nat} (h : lendV kb s v = some (p, u, is)) (hp : p) {σ : Sg} {E : EH} {W : World} (hi : Inv σ E kb W) {x : Value} (hd : Den σ E v x) {js : List Nat} (hjs : ∀ i ∈ is, i ∈ js) :
    Den σ (lentE σ js W E) u x := by
  have hle := lentE_le σ js W E
  have same : ∀ {v : V}, Den σ E v x → Den σ (lentE σ js W E) v x := fun hd => by simpa using Den.mono (τ := []) hle hd
  unfold lendV at h
  split at h
  · simp only [Option.some.injEq, Prod.mk.injEq] at h
    obtain ⟨_, rfl, _⟩ := h
    exact same hd
  · rename_i hs0
    have hs : 1 ≤ s := Nat.one_le_iff_ne_zero.2 (fun e => hs0 e)
    split at h
    · rename_i i lo hi'
      split at h <;> try (cases h; done)
      rename_i ty sz l hl
      split at h <;> try (cases h; done)
      rename_i hb
      simp only [Option.some.injEq, Prod.mk.injEq] at h
      obtain ⟨rfl, rfl, rfl⟩ := h
      have hsz := Nat.eq_of_beq_eq_true hb
      subst hsz
      simp only [Den] at hd
      obtain ⟨r, ad, hr, rfl, g1, g2, g3⟩ := hd
      obtain ⟨k1, k2, k3, k4, k5⟩ := hi.obj i r _ hr hl
      have hw := (k2.take hi').drop lo
      have hxl : ((l.take hi').drop lo).length = hi' - lo := by simp; omega
      simp only [Den, RepD]
      refine ⟨hw, ad, hi' - lo, r.cap - lo, rfl, by rw [List.length_map, flatten_length hw.len, hxl], by omega, ?_⟩
      by_cases hz : hi' - lo = 0
      · left
        have : (l.take hi').drop lo = [] := List.eq_nil_of_length_eq_zero (by omega)
        rw [this]; rfl
      · right
        have hc : r.cap ≠ 0 := by omega
        rcases k5 with k5 | ⟨arr, k5, k6, k7⟩
        · exact absurd k5 hc
        refine ⟨r.blk, lo * r.sz, g3 (by omega), RepDs_of_cells (fun j y hj => ?_)⟩
        have hE : lentE σ js W E r.blk = some (.cells arr ty (0, 0)) := by
          have h0 := hi.sep r.blk ⟨i, r, _, hr, hl, hc, rfl⟩
          simp only [lentE, h0]
          rw [if_pos ⟨i, hjs i (by simp), r, hr, hc, rfl⟩]
          exact k5
        simp only [EH.cell, hE]
        rw [flatten_drop (k2.take hi').len, flatten_take k2.len, ← k7, List.take_take, List.getElem?_drop] at hj
        rw [k1]
        have hlt : lo * sz + j < min (hi' * sz) (l.length * sz) := by
          have := (List.getElem?_eq_some_iff.1 hj).1
          simp only [List.length_take] at this
          omega
        rw [List.getElem?_take_of_lt hlt] at hj
        simpa using hj
    · simp only [Option.some.injEq, Prod.mk.injEq] at h
      obtain ⟨_, rfl, _⟩ := h
      simp only [Den] at hd
      subst hd
      simp only [Den, RepD]
      exact ⟨fun e he => (by cases he), none, 0, 0, rfl, by simp, Nat.le_refl _, .inl rfl⟩
    · split at h <;> try (cases h; done)
      simp only [Option.some.injEq, Prod.mk.injEq] at h
      obtain ⟨_, rfl, _⟩ := h
      exact same hd
    · cases h

theorem lendL_ok {kb : KB} {σ : Sg} {E : EH} {W : World} (hi : Inv σ E kb W) {js : List Nat} : ∀ {ss : List Nat} {vs us : List V} {p : Prop} {is : List Nat}, lendL kb ss vs = some (p, us, is) → p → (∀ i ∈ is, i ∈ js) → ∀ {xs : List Value}, DenL σ E vs xs → DenL σ (lentE σ js W E) us xs
  | _, [], us, p, is, h, _, _, xs, hd => by
    cases ‹List Nat› <;> (simp only [lendL, Option.some.injEq, Prod.mk.injEq] at h; obtain ⟨_, rfl, _⟩ := h; simpa only [DenL] using hd)
  | [], v :: vs, us, p, is, h, hp, hjs, xs, hd => by
    simp only [lendL] at h
    split at h <;> try (cases h; done)
    rename_i q ws ks hq
    simp only [Option.some.injEq, Prod.mk.injEq] at h
    obtain ⟨rfl, rfl, rfl⟩ := h
    simp only [DenL] at hd ⊢
    obtain ⟨x, xs', rfl, h1, h2⟩ := hd
    exact ⟨x, xs', rfl, by simpa using Den.mono (τ := []) (lentE_le σ js W E) h1, lendL_ok hi hq hp hjs h2⟩
  | s :: ss, v :: vs, us, p, is, h, hp, hjs, xs, hd => by
    simp only [lendL] at h
    split at h <;> try (cases h; done)
    rename_i q u ks q' ws ls hq hq'
    simp only [Option.some.injEq, Prod.mk.injEq] at h
    obtain ⟨rfl, rfl, rfl⟩ := h
    simp only [DenL] at hd ⊢
    obtain ⟨x, xs', rfl, h1, h2⟩ := hd
    exact ⟨x, xs', rfl, lendV_ok hq hp.1 hi h1 (fun i hi' => hjs i (List.mem_append_left _ hi')), lendL_ok hi hq' hp.2 (fun i hi' => hjs i (List.mem_append_right _ hi')) h2⟩

theorem lendV_rows {kb : KB} {s : Nat} {v u : V} {p : Prop} {is : List Nat} (h : lendV kb s v = some (p, u, is)) : ∀ i ∈ is, ∃ ty sz l, kb[i]? = some (.row ty sz l) := by
  unfold lendV at h
  split at h
  · simp only [Option.some.injEq, Prod.mk.injEq] at h
    obtain ⟨_, _, rfl⟩ := h
    intro i hi; cases hi
  · split at h
    · split at h <;> try (cases h; done)
      rename_i ty sz l hl
      split at h <;> try (cases h; done)
      simp only [Option.some.injEq, Prod.mk.injEq] at h
      obtain ⟨_, _, rfl⟩ := h
      intro i hi
      simp only [List.mem_singleton] at hi
      subst hi
      exact ⟨ty, sz, l, hl⟩
    · simp only [Option.some.injEq, Prod.mk.injEq] at h
      obtain ⟨_, _, rfl⟩ := h
      intro i hi; cases hi
    · split at h <;> try (cases h; done)
      simp only [Option.some.injEq, Prod.mk.injEq] at h
      obtain ⟨_, _, rfl⟩ := h
      intro i hi; cases hi
    · cases h

theorem lendL_rows {kb : KB} : ∀ {ss : List Nat} {vs us : List V} {p : Prop} {is : List Nat}, lendL kb ss vs = some (p, us, is) → ∀ i ∈ is, ∃ ty sz l, kb[i]? = some (.row ty sz l)
  | _, [], us, p, is, h => by
    have : is = [] := by
      simp only [lendL, Option.some.injEq, Prod.mk.injEq] at h
      exact h.2.2.symm
    subst this
    intro i hi; cases hi
  | [], v :: vs, us, p, is, h => by
    simp only [lendL] at h
    split at h <;> try (cases h; done)
    rename_i q ws ks hq
    simp only [Option.some.injEq, Prod.mk.injEq] at h
    obtain ⟨_, _, rfl⟩ := h
    exact lendL_rows hq
  | s :: ss, v :: vs, us, p, is, h => by
    simp only [lendL] at h
    split at h <;> try (cases h; done)
    rename_i q u ks q' ws ls hq hq'
    simp only [Option.some.injEq, Prod.mk.injEq] at h
    obtain ⟨_, _, rfl⟩ := h
    intro i hi
    rcases List.mem_append.1 hi with hi | hi
    · exact lendV_rows hq i hi
    · exact lendL_rows hq' i hi

mutual
/-- Nothing immutable is in it. -/
def V.efree : V → Bool
  | .isl .. | .ipe .. | .dat _ => false
  | .agg l => V.efreeL l
  | .tup l => V.efreeL l
  | .fn _ l => V.efreeL l
  | _ => true
def V.efreeL : List V → Bool
  | [] => true
  | v :: vs => V.efree v && V.efreeL vs
end
mutual
theorem Den.efree {σ : Sg} {E E' : EH} : ∀ {v : V}, V.efree v = true → ∀ {x : Value}, Den σ E v x → Den σ E' v x
  | .any _, _, _, hd | .int .., _, _, hd | .lit .., _, _, hd | .sb _, _, _, hd | .tt, _, _, hd | .ff, _, _, hd | .ptr .., _, _, hd | .sl .., _, _, hd | .pe .., _, _, hd | .mp _, _, _, hd => by simpa only [Den] using hd
  | .isl .., h, _, _ | .ipe .., h, _, _ | .dat _, h, _, _ => by simp [V.efree] at h
  | .agg l, h, _, hd => by
    simp only [V.efree] at h
    simp only [Den] at hd ⊢
    obtain ⟨vs, h1, h2⟩ := hd
    exact ⟨vs, h1, DenL.efree h h2⟩
  | .tup l, h, _, hd => by
    simp only [V.efree] at h
    simp only [Den] at hd ⊢
    obtain ⟨vs, h1, h2⟩ := hd
    exact ⟨vs, h1, DenL.efree h h2⟩
  | .fn f l, h, _, hd => by
    simp only [V.efree] at h
    simp only [Den] at hd ⊢
    obtain ⟨vs, h1, h2⟩ := hd
    exact ⟨vs, h1, DenL.efree h h2⟩
theorem DenL.efree {σ : Sg} {E E' : EH} : ∀ {vs : List V}, V.efreeL vs = true → ∀ {xs : List Value}, DenL σ E vs xs → DenL σ E' vs xs
  | [], _, _, hd => by simpa only [DenL] using hd
  | v :: vs, h, _, hd => by
    simp only [V.efreeL, Bool.and_eq_true] at h
    simp only [DenL] at hd ⊢
    obtain ⟨x, xs', h1, h2, h3⟩ := hd
    exact ⟨x, xs', h1, Den.efree h.1 h2, DenL.efree h.2 h3⟩
end
def KO.efree : KO → Bool
  | .cells l => V.efreeL l
  | _ => true
theorem HoldsO.efree {σ : Sg} {E E' : EH} {W : World} {r : Re} {o : KO} (h : KO.efree o = true) (hh : HoldsO σ E W r o) : HoldsO σ E' W r o := by
  cases o with
  | cells l => obtain ⟨arr, ty, h1, h2⟩ := hh; exact ⟨arr, ty, h1, DenL.efree h h2⟩
  | row ty sz l => exact hh
  | mp kk agg sz l => exact hh
  | dead => trivial

def disjB : List Nat → List Nat → Bool
  | [], _ => true
  | i :: is, o => match memB o i with | true => false | false => disjB is o
theorem disjB_ok : ∀ {is o : List Nat}, disjB is o = true → ∀ i ∈ is, i ∉ o
  | i :: is, o, h, j, hj => by
    simp only [disjB] at h
    split at h
    · cases h
    · rename_i hm
      rcases List.mem_cons.1 hj with rfl | hj
      · intro hin
        obtain ⟨k, hk⟩ := idx_of_mem hin
        simp [memB, hk] at hm
      · exact disjB_ok h j hj

/-- A call to which slices are lent. -/
def specB (S : FSpec) (ss : List Nat) (args : List V) (kb : KB) (K : V → KB → Prop) : Prop :=
  match lendL kb ss args with
  | some (p, args1, is) => p ∧ (match canon 0 args1 kb with
    | some (args', sub, o) => match disjB is o with
      | true => S args' sub (fun r kb2 => match Nat.ble o.length kb2.length, V.ren (backIx o kb.length) r, backKB kb2 o (backIx o kb.length) 0 kb, (V.efree r && kb2.all KO.efree) with
        | true, some r', some kb', true => K r' kb'
        | _, _, _, _ => False)
      | false => False
    | none => False)
  | none => False

theorem specB_ok {P : Program} {f : FuncId} {S : FSpec} (hS : SpecOk P f S) {ss : List Nat} {args : List V} {kb : KB} {K : V → KB → Prop} (h : specB S ss args kb K) {σ : Sg} {E : EH} {W : World} {xs : List Value} (hi : Inv σ E kb W) (hd : DenL σ E args xs) :
    Calls P f xs.toArray W (fun e W' => ∃ v r σ' E' kb', e = .returned v ∧ Step σ E kb W σ' E' kb' W' ∧ Den σ' E' r v ∧ K r kb') := by
  unfold specB at h
  split at h <;> try exact h.elim
  rename_i p args1 is hlend
  obtain ⟨hp, h⟩ := h
  split at h <;> try exact h.elim
  rename_i args' sub o hc
  split at h <;> try exact h.elim
  rename_i hdis
  obtain ⟨hn, _, hra, hsel⟩ := canon_ok hc
  obtain ⟨k1, k2, k3⟩ := hi.sel hn hsel
  obtain ⟨hsl, hget⟩ := selKB_ok hsel
  have hdj := disjB_ok hdis
  have hd1 := lendL_ok hi (js := is) hlend hp (fun i h => h) hd
  have hsubown : ∀ b, Owns (selSg σ o) sub b → ∀ (j : Nat) (r : Re) (ob : KO), j ∉ o → σ[j]? = some r → kb[j]? = some ob → owned r ob b → False := by
    intro b hb j r ob hj h1 h2 h3
    obtain ⟨i, r2, o2, g1, g2, g3, g4⟩ := owns_sel hi.len hsel hb
    exact hi.disj i j r2 r o2 ob b (fun e => by subst e; exact hj g1) g2 g3 h1 h2 g4 h3
  -- what is lent lies in no block of the callee's
  have hrows := lendL_rows hlend
  have k1' : Inv (selSg σ o) (lentE σ is W E) sub W := by
    refine ⟨k1.len, fun i r ob h1 h2 => ?_, k1.disj, fun b x hb => ?_, fun b hb => ?_⟩
    · simpa using (k1.obj i r ob h1 h2).mono (τ := []) (W' := W) (lentE_le σ is W E) (fun _ _ => rfl)
    · simp only [lentE] at hb
      split at hb
      · rename_i x' hx; rw [← hb]; exact k1.imm b x' hx
      · split at hb
        · exact hb
        · cases hb
    · have h0 := k1.sep b hb
      simp only [lentE, h0]
      rw [if_neg]
      rintro ⟨i, hi', r, hr, hc, rfl⟩
      obtain ⟨ty, sz, l, hl⟩ := hrows i hi'
      exact hsubown _ hb i r _ (hdj i hi') hr hl ⟨hc, rfl⟩
  refine (hS args' sub _ h (selSg σ o) (lentE σ is W E) W xs k1' (DenL.ren k3 hra hd1)).mono ?_
  rintro e W' ⟨v, r, σs, E', kb2, rfl, hst, hden, hK⟩
  split at hK <;> try exact hK.elim
  rename_i r' kb' hble hr' hkb' hef
  simp only [Bool.and_eq_true] at hef
  have hle := Nat.le_of_ble_eq_true hble
  obtain ⟨τ, hτ⟩ := hst.pre
  have hsgl : (selSg σ o).length = o.length := by simp [selSg]
  have hl2 : σs.length = kb2.length := hst.inv.len
  obtain ⟨hout, hcase0⟩ := backKB_ok hkb'
  let σ'' := σ ++ σs.drop o.length
  have hβ : ∀ i j r, backIx o kb.length i = some j → σs[i]? = some r → σ''[j]? = some r := by
    intro i j r hb hr
    unfold backIx at hb
    split at hb
    · rename_i q hq
      cases hb
      have hil : i < o.length := (List.getElem?_eq_some_iff.1 hq).1
      rw [hτ, List.getElem?_append_left (by rw [hsgl]; exact hil)] at hr
      simp only [selSg, List.getElem?_map, hq, Option.map_some, Option.some.injEq] at hr
      obtain ⟨ob, _, hob, _, _⟩ := hget i j hq
      have hjl : j < σ.length := by rw [hi.len]; exact (List.getElem?_eq_some_iff.1 hob).1
      rw [List.getElem?_eq_getElem hjl] at hr
      simp only [Option.getD_some] at hr
      show (σ ++ _)[j]? = _
      rw [List.getElem?_append_left hjl, List.getElem?_eq_getElem hjl, hr]
    · rename_i hq
      cases hb
      have hil : o.length ≤ i := by
        rcases Nat.lt_or_ge i o.length with h' | h'
        · rw [List.getElem?_eq_getElem h'] at hq; cases hq
        · exact h'
      show (σ ++ _)[_]? = _
      rw [List.getElem?_append_right (by rw [hi.len]; omega), hi.len, show kb.length + (i - o.length) - kb.length = i - o.length by omega, List.getElem?_drop, show o.length + (i - o.length) = i by omega]
      exact hr
  have hcase : ∀ (i : Nat) (r : Re) (ob : KO), σ''[i]? = some r → kb'[i]? = some ob →
      (∃ k a, backIx o kb.length k = some i ∧ σs[k]? = some r ∧ kb2[k]? = some a ∧ KO.ren (backIx o kb.length) a = some ob) ∨ (i ∉ o ∧ σ[i]? = some r ∧ kb[i]? = some ob) := by
    intro i r ob h1 h2
    rcases hcase0 i ob h2 with ⟨c1, c2, c3⟩ | ⟨c1, k, a, c2, c3, c4⟩ | ⟨c1, a, c2, c3⟩
    · rw [Nat.zero_add] at c2
      have h1' : (σ ++ σs.drop o.length)[i]? = some r := h1
      rw [List.getElem?_append_left (by rw [hi.len]; exact c1)] at h1'
      exact .inr ⟨idx_none c2, h1', c3⟩
    · rw [Nat.zero_add] at c2
      have hk := idx_spec c2
      have hkl : k < σs.length := by rw [hl2]; exact (List.getElem?_eq_some_iff.1 c3).1
      have hb : backIx o kb.length k = some i := by simp [backIx, hk]
      have := hβ k i _ hb (List.getElem?_eq_getElem hkl)
      rw [this] at h1
      exact .inl ⟨k, a, hb, by rw [List.getElem?_eq_getElem hkl]; exact h1, c3, c4⟩
    · have hb : backIx o kb.length (o.length + (i - kb.length)) = some i := by
        have : o[o.length + (i - kb.length)]? = none := List.getElem?_eq_none (by omega)
        simp only [backIx, this]
        congr 1
        omega
      have hkl : o.length + (i - kb.length) < σs.length := by rw [hl2]; exact (List.getElem?_eq_some_iff.1 c2).1
      have := hβ _ i _ hb (List.getElem?_eq_getElem hkl)
      rw [this] at h1
      exact .inl ⟨_, a, hb, by rw [List.getElem?_eq_getElem hkl]; exact h1, c2, c3⟩
  have hother : ∀ (j : Nat) (r : Re) (ob : KO), j ∉ o → σ[j]? = some r → kb[j]? = some ob → ∀ b, owned r ob b → W'.heap[b]? = W.heap[b]? := by
    intro j r ob hj h1 h2 b h3
    exact hst.stp.block b ((hi.obj j r ob h1 h2).lt h3) (fun hb => hsubown b hb j r ob hj h1 h2 h3)
  have hownA : ∀ b (k : Nat) (r : Re) (a : KO), σs[k]? = some r → kb2[k]? = some a → owned r a b → Owns (selSg σ o) sub b ∨ W.heap.size ≤ b := fun b k r a h1 h2 h3 => hst.own b ⟨k, r, a, h1, h2, h3⟩
  have hown : ∀ b, Owns σ'' kb' b → Owns σ kb b ∨ W.heap.size ≤ b := by
    rintro b ⟨i, r, ob, h1, h2, h3⟩
    rcases hcase i r ob h1 h2 with ⟨k, a, _, g2, g3, g4⟩ | ⟨g1, g2, g3⟩
    · rcases hownA b k r a g2 g3 ((owned_ren g4).1 h3) with h4 | h4
      · exact .inl (k2 b h4)
      · exact .inr h4
    · exact .inl ⟨i, r, ob, g2, g3, h3⟩
  have hEle : E.le E' := (lentE_le σ is W E).trans hst.le
  refine ⟨v, r', σ'', E, kb', rfl, ⟨⟨?_, fun i r ob h1 h2 => ?_, fun i j r1 r2 o1 o2 b hij h1 h2 h3 h4 h5 h6 => ?_, fun b x hb => hst.inv.imm b x (hEle b x hb), fun b hb => ?_⟩, ⟨hst.stp.os, hst.stp.tape, hst.stp.output, hst.stp.size, fun b hb hn' => hst.stp.block b hb (fun h => hn' (k2 b h))⟩, ⟨_, rfl⟩, EH.le.refl E, hown, fun b x hb => .inl hb⟩, Den.ren hβ hr' (Den.efree hef.1 hden), hK⟩
  · simp only [σ'', List.length_append, List.length_drop, hout, hi.len, hl2]
  · rcases hcase i r ob h1 h2 with ⟨k, a, _, g2, g3, g4⟩ | ⟨g1, g2, g3⟩
    · exact ((hst.inv.obj k r a g2 g3).efree (List.all_eq_true.1 hef.2 a (List.mem_of_getElem? g3))).ren hβ g4
    · exact (hi.obj i r ob g2 g3).mono (EH.le.refl E) (fun b hb => hother i r ob g1 g2 g3 b hb)
  · rcases hcase i r1 o1 h1 h2 with ⟨k, a, g1, g2, g3, g4⟩ | ⟨g1, g2, g3⟩ <;> rcases hcase j r2 o2 h3 h4 with ⟨m, a', q1, q2, q3, q4⟩ | ⟨q1, q2, q3⟩
    · refine hst.inv.disj k m r1 r2 a a' b (fun e => ?_) g2 g3 q2 q3 ((owned_ren g4).1 h5) ((owned_ren q4).1 h6)
      subst e
      rw [g1] at q1
      cases q1
      exact hij rfl
    · rcases hownA b k r1 a g2 g3 ((owned_ren g4).1 h5) with h7 | h7
      · exact hsubown b h7 j r2 o2 q1 q2 q3 h6
      · have := (hi.obj j r2 o2 q2 q3).lt h6; omega
    · rcases hownA b m r2 a' q2 q3 ((owned_ren q4).1 h6) with h7 | h7
      · exact hsubown b h7 i r1 o1 g1 g2 g3 h5
      · have := (hi.obj i r1 o1 g2 g3).lt h5; omega
    · exact hi.disj i j r1 r2 o1 o2 b hij g2 g3 q2 q3 h5 h6
  · obtain ⟨i, r, ob, h1, h2, h3⟩ := hb
    rcases hcase i r ob h1 h2 with ⟨k, a, _, g2, g3, g4⟩ | ⟨g1, g2, g3⟩
    · cases hE : E b with
      | none => rfl
      | some x =>
        have h0 := hst.inv.sep b ⟨k, r, a, g2, g3, (owned_ren g4).1 h3⟩
        have := hEle b x hE
        rw [h0] at this; cases this
    · exact hi.sep b ⟨i, r, ob, g2, g3, h3⟩

/-! ### Functions by their specifications -/
/-- What is known of a function: how it is called (the sizes of the elements of the slices that are lent to it; 0: not lent), and what it does. -/
structure Known where
  lent : List Nat
  S : FSpec

def callS (P : Program) (Sp : FuncId → Option Known) (T : FuncId → Nat → Option LI) : Nat → CallT
  | 0 => fun _ _ _ _ => False
  | d + 1 => fun f args kb K => match Sp f with
    | some k => match k.lent with
      | [] => specK k.S args kb K
      | ss => specB k.S ss args kb K
    | none => runFn P (callS P Sp T d) (T f) f args kb K

def AllOk (P : Program) (Sp : FuncId → Option Known) : Prop := ∀ f k, Sp f = some k → SpecOk P f k.S

theorem callS_ok {P : Program} (hm : P.follows .mixedOrders = true) {Sp : FuncId → Option Known} (hS : AllOk P Sp) (T : FuncId → Nat → Option LI) : ∀ d, CallOk P (callS P Sp T d)
  | 0 => fun f args kb K h => h.elim
  | d + 1 => fun f args kb K h σ E W xs hi hd => by
    simp only [callS] at h
    split at h
    · rename_i k hk
      split at h
      · exact specK_ok (hS f k hk) h hi hd
      · exact specB_ok (hS f k hk) h hi hd
    · exact runFn_ok (callS_ok hm hS T d) hm h hi hd

/-- What is handed back, in its own numbering. -/
def finC (P : Program) (fn : Func) (n0 : Nat) (K : V → KB → Prop) : Exit → Fr → KB → Prop :=
  fin P fn (fun r kb => match canon n0 [r] kb with
    | some ([r'], kb', _) => K r' kb'
    | _ => False)

/-- The body of a function that has a specification. -/
def runSpec (P : Program) (X : CallT) (T : Nat → Option LI) (f : FuncId) (args : List V) (kb : KB) (K : V → KB → Prop) : Prop :=
  runFn P X T f args kb (fun r kb' => match canon kb.length [r] kb' with
    | some ([r'], kb', _) => K r' kb'
    | _ => False)

theorem runSpec_ok {P : Program} {X : CallT} (hX : CallOk P X) (hm : P.follows .mixedOrders = true) {T : Nat → Option LI} {f : FuncId} {args : List V} {kb : KB} {K : V → KB → Prop} (h : runSpec P X T f args kb K) {σ : Sg} {E : EH} {W : World} {xs : List Value} (hi : Inv σ E kb W)
    (hd : DenL σ E args xs) : Calls P f xs.toArray W (fun e W' => ∃ v r σ' E' kb', e = .returned v ∧ Step σ E kb W σ' E' kb' W' ∧ Den σ' E' r v ∧ K r kb') := by
  refine (runFn_ok hX hm h hi hd).mono ?_
  rintro e W' ⟨v, r, σ', E', kb', rfl, h1, h2, h3⟩
  split at h3 <;> try exact h3.elim
  rename_i r' kb2 o hc
  rw [← hi.len] at hc
  obtain ⟨σ2, h4, h5⟩ := Step.sel (c := ⟨σ, E, kb, W⟩) h1 hc (.cons h2 .nil)
  simp only [DenL] at h5
  obtain ⟨x, xs', he, h6, rfl⟩ := h5
  cases he
  exact ⟨v, r', σ2, E', kb2, rfl, h4, h6, h3⟩

theorem specOk_of {P : Program} {X : CallT} (hX : CallOk P X) (hm : P.follows .mixedOrders = true) (T : Nat → Option LI) {f : FuncId} {S : FSpec} (h : ∀ args kb K, S args kb K → runSpec P X T f args kb K) : SpecOk P f S :=
  fun args kb K hs σ E W xs hi hd => runSpec_ok hX hm (h args kb K hs) hi hd

/-! ### Laws -/
def isT : V → Prop
  | .tt => True
  | .sb b => b = true
  | _ => False
theorem isT_den {v : V} (h : isT v) {σ : Sg} {E : EH} {x : Value} (hd : Den σ E v x) : x = .bool true := by
  cases v <;> simp only [isT] at h
  · subst h; simpa [Den] using hd
  · simpa [Den] using hd

/-- The world's own blocks, all of them immutable. -/
def baseE (W : World) : EH := fun b => W.heap[b]?
theorem inv_base (W : World) : Inv [] (baseE W) [] W :=
  ⟨rfl, fun i r o h => by simp at h, fun i j r r' o o' b _ h => by simp at h, fun b o h => h, fun b ⟨i, r, o, h, _⟩ => by simp at h⟩

theorem law_of {P : Program} {X : CallT} (hX : CallOk P X) {f : FuncId} {args : List V} (h : X f args [] (fun r _ => isT r)) {W : World} {xs : List Value} (hd : DenL [] (baseE W) args xs) :
    Calls P f xs.toArray W (fun e W' => e = .returned (.bool true) ∧ RowKit.Below W.heap.size W W') := by
  refine (hX f args [] _ h [] (baseE W) W xs (inv_base W) hd).mono ?_
  rintro e W' ⟨v, r, σ', E', kb', rfl, h1, h2, h3⟩
  refine ⟨by rw [isT_den h3 h2], ⟨h1.stp.os, h1.stp.tape, h1.stp.output, h1.stp.size, fun k hk => h1.stp.block k hk (fun ⟨i, r, o, h, _⟩ => by simp at h)⟩⟩
end Vc
