/- Values as cells: pieces, data; stores. -/
import Derived.Test.YtnglmhckcfnfaaaVdC
set_option linter.unusedSimpArgs false
set_option linter.unusedVariables false
namespace Vc
open Go

def litD : V → Option D
  | .int k n => some (.val (.int k n))
  | .lit k n => some (.val (.int k n))
  | .sb b => some (.val (.bool b))
  | .tt => some (.val (.bool true))
  | .ff => some (.val (.bool false))
  | .dat d => some d
  | _ => none
theorem litD_ok {v : V} {d : D} (h : litD v = some d) {σ : Sg} {E : EH} {x : Value} (hd : Den σ E v x) : RepD E d x := by
  cases v <;> simp only [litD, Option.some.injEq, reduceCtorEq] at h <;> subst h <;> simp only [Den] at hd <;>
    first | exact hd | (subst hd; simp [RepD, Value.oneCell'])
def pieceD : V → Option (List D)
  | .arr _ cs => some cs
  | v => match litD v with | some d => some [d] | none => none
theorem pieceD_ok {v : V} {ds : List D} (h : pieceD v = some ds) {σ : Sg} {E : EH} {ys : List Value} (hd : DenP1 σ E v ys) : DenD E ds ys := by
  unfold pieceD at h
  split at h
  · cases h
    rcases hd with ⟨y, rfl, _, hy⟩ | ⟨m, cs, e, _, hD⟩
    · simp only [Den] at hy
    · cases e; exact hD
  · rename_i hna
    split at h <;> try (cases h; done)
    rename_i d hl
    cases h
    rcases hd with ⟨y, rfl, _, hy⟩ | ⟨m, cs, e, _, hD⟩
    · exact .cons (litD_ok hl hy) .nil
    · exact (hna _ _ e).elim
/-- n cells, as data, and the rest. -/
def gatherD : List V → Nat → Option (List D × List V)
  | vs, 0 => some ([], vs)
  | [], _ + 1 => none
  | v :: vs, n + 1 => match subN (n + 1) v.w with
    | some 0 => match pieceD v with | some cs => some (cs, vs) | none => none
    | some (k + 1) => match pieceD v, gatherD vs (k + 1) with | some cs, some (ds, r) => some (cs ++ ds, r) | _, _ => none
    | none => none
theorem gatherD_ok : ∀ {vs : List V} {n : Nat} {ds : List D} {r : List V}, gatherD vs n = some (ds, r) → ∀ {σ : Sg} {E : EH} {xs : List Value}, DenC σ E vs xs →
    ∃ ys zs, xs = ys ++ zs ∧ DenD E ds ys ∧ ys.length = n ∧ DenC σ E r zs
  | vs, 0, ds, r, h, σ, E, xs, hd => by simp [gatherD] at h; obtain ⟨rfl, rfl⟩ := h; exact ⟨[], xs, rfl, .nil, rfl, hd⟩
  | [], n + 1, ds, r, h, _, _, _, _ => by simp [gatherD] at h
  | v :: vs, n + 1, ds, r, h, σ, E, xs, hd => by
    obtain ⟨ys, zs, rfl, h1, h2⟩ := hd.uncons
    simp only [gatherD] at h
    split at h
    · rename_i hk
      split at h <;> try (cases h; done)
      rename_i cs hcs
      cases h
      have := subN_ok hk
      exact ⟨ys, zs, rfl, pieceD_ok hcs h1, by rw [h1.len]; omega, h2⟩
    · rename_i k hk
      split at h <;> try (cases h; done)
      rename_i cs es r' hcs hg
      cases h
      have := subN_ok hk
      obtain ⟨us, ws, rfl, h3, h4, h5⟩ := gatherD_ok hg h2
      exact ⟨ys ++ us, ws, by simp, (pieceD_ok hcs h1).append h3, by rw [List.length_append, h1.len, h4]; omega, h5⟩
    · cases h

/-- Cells in the pieces of these kinds. -/
def normC : List CK → List V → Option (List V)
  | [], [] => some []
  | .arr m _ :: ks, vs => match gatherD vs m with
    | some (ds, r) => match normC ks r with | some us => some (.arr m ds :: us) | none => none
    | none => none
  | _ :: ks, v :: vs => match v with
    | .arr _ _ => none
    | _ => match normC ks vs with | some us => some (v :: us) | none => none
  | _, _ => none
theorem normC_ok : ∀ {ks : List CK} {vs us : List V}, normC ks vs = some us → ∀ {σ : Sg} {E : EH} {xs : List Value}, DenC σ E vs xs → DenC σ E us xs ∧ xs.length = wk ks
  | [], [], us, h, σ, E, xs, hd => by simp [normC] at h; subst h; exact ⟨hd, by simp only [DenC] at hd; subst hd; rfl⟩
  | [], _ :: _, us, h, _, _, _, _ => by simp [normC] at h
  | c :: ks, vs, us, h, σ, E, xs, hd => by
    have single : ∀ {v : V} {vs' : List V}, vs = v :: vs' → c.w = 1 → (match v with | .arr _ _ => none | _ => match normC ks vs' with | some us => some (v :: us) | none => none) = some us → DenC σ E us xs ∧ xs.length = wk (c :: ks) := by
      rintro v vs' rfl hw h
      obtain ⟨ys, zs, rfl, h1, h2⟩ := hd.uncons
      split at h
      · cases h
      · rename_i hna
        split at h <;> try (cases h; done)
        rename_i us' hus
        cases h
        obtain ⟨h3, h4⟩ := normC_ok hus h2
        refine ⟨.cons h1 h3, ?_⟩
        rw [List.length_append, h1.len, h4]
        have : v.w = 1 := by cases v <;> first | rfl | exact (hna _ _ rfl).elim
        rw [this]; simp [wk, hw]
    cases c with
    | arr m z =>
      simp only [normC] at h
      split at h <;> try (cases h; done)
      rename_i ds r hg
      split at h <;> try (cases h; done)
      rename_i us' hus
      cases h
      obtain ⟨ys, zs, rfl, h1, h2, h3⟩ := gatherD_ok hg hd
      obtain ⟨h4, h5⟩ := normC_ok hus h3
      exact ⟨.cons (.inr ⟨m, ds, rfl, by rw [← h1.len, h2], h1⟩) h4, by rw [List.length_append, h2, h5]; rfl⟩
    | int k => cases vs with | nil => simp [normC] at h | cons v vs' => exact single rfl rfl (by simpa only [normC] using h)
    | bool => cases vs with | nil => simp [normC] at h | cons v vs' => exact single rfl rfl (by simpa only [normC] using h)
    | sl s => cases vs with | nil => simp [normC] at h | cons v vs' => exact single rfl rfl (by simpa only [normC] using h)
    | other => cases vs with | nil => simp [normC] at h | cons v vs' => exact single rfl rfl (by simpa only [normC] using h)

/-- The cells of a value of type t, in their pieces. -/
def cellsV (P : Program) (t : TypeId) (v : V) : Option (List V) :=
  match tSize P t with
  | some n => match v with
    | .agg vs => match kindsOf P 20 t with
      | some ks => match Nat.beq (wk ks) n with | true => normC ks vs | false => none
      | none => none
    | _ => match Nat.beq n 1, V.one v with | true, true => some [v] | _, _ => none
  | none => none

theorem cellsV_ok {P : Program} {t : TypeId} {v : V} {vs : List V} (h : cellsV P t v = some vs) {σ : Sg} {E : EH} {x : Value} (hd : Den σ E v x) :
    ∃ xs, x.cells = xs.toArray ∧ DenC σ E vs xs ∧ (∀ y ∈ xs, y.oneCell' = true) ∧ tSize P t = some xs.length := by
  unfold cellsV at h
  split at h <;> try (cases h; done)
  rename_i n hn
  split at h
  · split at h <;> try (cases h; done)
    rename_i ks hks
    split at h <;> try (cases h; done)
    rename_i hb
    simp only [Den] at hd
    obtain ⟨xs, rfl, hD⟩ := hd
    obtain ⟨h1, h2⟩ := normC_ok h hD
    exact ⟨xs, rfl, h1, h1.one, by rw [hn, h2, Nat.eq_of_beq_eq_true hb]⟩
  · split at h <;> try (cases h; done)
    rename_i h1 h2
    cases h
    have h3 := one_den h2 hd
    refine ⟨[x], ?_, .cons1 hd h3 .nil, by simpa using h3, by rw [hn, Nat.eq_of_beq_eq_true h1]; rfl⟩
    cases x <;> simp_all [Value.cells, Value.oneCell']

/-! ### Values as data -/
def conv1 (c : CK) (v : V) (kb : KB) (K : D → KB → Prop) : Prop :=
  match v with
  | .int k n => K (.val (.int k n)) kb
  | .lit k n => K (.val (.int k n)) kb
  | .sb b => K (.val (.bool b)) kb
  | .tt => K (.val (.bool true)) kb
  | .ff => K (.val (.bool false)) kb
  | .dat d => K d kb
  | .any v => match c, v with
    | .sl s, .slice none 0 0 => K (.sl s []) kb
    | _, _ => match v.oneCell' with | true => K (.val v) kb | false => False
  | .e0 => match c with | .sl s => K (.sl s []) kb | _ => False
  | .fn f cap => match V.val? (.fn f cap) with | some v => K (.val v) kb | none => False
  | .sl i lo hi => match c, kb[i]? with
    | .sl s, some (.row _ sz l) => match Nat.beq sz s with
      | true => hi ≤ l.length ∧ K (.sl s ((l.take hi).drop lo)) (kb.set i .dead)
      | false => False
    | _, _ => False
  | _ => False

theorem take_drop_flat {sz : Nat} {l : List (List D)} (h : wl sz l) (lo hi : Nat) : ((l.take hi).drop lo).flatten = (l.flatten.drop (lo * sz)).take ((hi - lo) * sz) := by
  rw [flat_drop (h.take hi), flat_take h, List.drop_take, Nat.sub_mul]

/-- Part of a row, seen as data. -/
theorem row_part {E : EH} {r : Re} {sz : Nat} {l : List (List D)} (hsz : r.sz = sz) (hw : wl sz l) {lo hi : Nat} (hlh : lo ≤ hi) (hhl : hi ≤ l.length) (hlc : l.length ≤ r.cap) {a : Option Addr} (ha : lo < r.cap → a = some ⟨r.blk, lo * r.sz, none⟩)
    (hrep : r.cap ≠ 0 → RepC E l.flatten r.blk 0) : RepD E (.sl sz ((l.take hi).drop lo)) (.slice a (hi - lo) (r.cap - lo)) := by
  simp only [RepD]
  have hlen : ((l.take hi).drop lo).length = hi - lo := by simp; omega
  refine ⟨a, r.cap - lo, by rw [hlen], by rw [hlen]; omega, ?_⟩
  by_cases h0 : hi - lo = 0
  · left; rw [hlen]; exact h0
  · right
    refine ⟨r.blk, lo * r.sz, ha (by omega), RepL.of_flat ((hw.take hi).drop lo) ?_⟩
    rw [take_drop_flat hw, hsz]
    have := (hrep (by omega)).sub (lo * sz) ((hi - lo) * sz)
    rwa [Nat.zero_add] at this

theorem conv1_ok {c : CK} {v : V} {kb : KB} {K : D → KB → Prop} (h : conv1 c v kb K) {σ : Sg} {E : EH} {W : World} (hi : Inv σ E kb W) {x : Value} (hd : Den σ E v x) :
    ∃ E' kb' d, Step σ E kb W σ E' kb' W ∧ RepD E' d x ∧ K d kb' := by
  have easy : ∀ {d : D}, K d kb → RepD E d x → ∃ E' kb' d, Step σ E kb W σ E' kb' W ∧ RepD E' d x ∧ K d kb' := fun hK hr => ⟨E, kb, _, Step.refl hi, hr, hK⟩
  unfold conv1 at h
  split at h
  · simp only [Den] at hd; exact easy h (by simp [RepD, hd, Value.oneCell'])
  · simp only [Den] at hd; exact easy h (by simp [RepD, hd, Value.oneCell'])
  · simp only [Den] at hd; exact easy h (by simp [RepD, hd, Value.oneCell'])
  · simp only [Den] at hd; exact easy h (by simp [RepD, hd, Value.oneCell'])
  · simp only [Den] at hd; exact easy h (by simp [RepD, hd, Value.oneCell'])
  · simp only [Den] at hd; exact easy h hd
  · simp only [Den] at hd
    split at h
    · exact easy h (by simp only [RepD]; exact ⟨none, 0, by simpa using hd, by simp, .inl rfl⟩)
    · split at h
      · rename_i h1; exact easy h (by simp only [RepD]; exact ⟨hd, h1⟩)
      · exact h.elim
  · split at h <;> try exact h.elim
    simp only [Den] at hd
    obtain ⟨a, rfl⟩ := hd
    exact easy h (by simp only [RepD]; exact ⟨a, 0, by simp, by simp, .inl rfl⟩)
  · split at h <;> try exact h.elim
    rename_i f cap v hv
    have hx := val?_den hv hd
    subst hx
    exact easy h ⟨rfl, one_den (σ := σ) (E := E) (v := .fn _ _) rfl hd⟩
  · rename_i i lo hi'
    split at h <;> try exact h.elim
    rename_i s ty sz l hl
    split at h <;> try exact h.elim
    rename_i hb
    have hsz := Nat.eq_of_beq_eq_true hb
    subst hsz
    obtain ⟨hle, hK⟩ := h
    simp only [Den] at hd
    obtain ⟨r, a, hr, rfl, g1, g2, g3⟩ := hd
    obtain ⟨k1, k2, k3, k4, k5⟩ := hi.obj i r _ hr hl
    obtain ⟨E', h1, h2⟩ := hi.freeze hr hl
    exact ⟨E', _, _, h1, row_part k1 k2 g1 hle k3 g3 h2, hK⟩
  · exact h.elim

def appD (ds : List D) : List D → List D
  | [] => ds
  | e :: es => ds ++ e :: es
theorem appD_eq (ds es : List D) : appD ds es = ds ++ es := by cases es <;> simp [appD]

def convK : List CK → List V → KB → (List D → KB → Prop) → Prop
  | [], [], kb, K => K [] kb
  | .arr m _ :: ks, vs, kb, K => match gatherD vs m with
    | some (ds, r) => convK ks r kb (fun es kb' => K (appD ds es) kb')
    | none => False
  | c :: ks, v :: vs, kb, K => conv1 c v kb (fun d kb' => convK ks vs kb' (fun es kb'' => K (d :: es) kb''))
  | _, _, _, _ => False

theorem convK_ok : ∀ {ks : List CK} {vs : List V} {kb : KB} {K : List D → KB → Prop}, convK ks vs kb K → ∀ {σ : Sg} {E : EH} {W : World}, Inv σ E kb W → ∀ {xs : List Value}, DenC σ E vs xs →
    ∃ E' kb' ds, Step σ E kb W σ E' kb' W ∧ DenD E' ds xs ∧ xs.length = wk ks ∧ K ds kb'
  | [], [], kb, K, h, σ, E, W, hi, xs, hd => by
    simp only [DenC] at hd; subst hd
    exact ⟨E, kb, [], Step.refl hi, .nil, rfl, h⟩
  | [], _ :: _, kb, K, h, _, _, _, _, _, _ => h.elim
  | c :: ks, vs, kb, K, h, σ, E, W, hi, xs, hd => by
    have single : ∀ {v : V} {vs' : List V}, vs = v :: vs' → c.w = 1 → conv1 c v kb (fun d kb' => convK ks vs' kb' (fun es kb'' => K (d :: es) kb'')) →
        ∃ E' kb' ds, Step σ E kb W σ E' kb' W ∧ DenD E' ds xs ∧ xs.length = wk (c :: ks) ∧ K ds kb' := by
      rintro v vs' rfl hw h
      obtain ⟨ys, zs, rfl, h1, h2⟩ := hd.uncons
      rcases h1 with ⟨y, rfl, _, hy⟩ | ⟨m, cs, rfl, _, _⟩
      · obtain ⟨E1, kb1, d, s1, r1, h⟩ := conv1_ok h hi hy
        obtain ⟨τ, hτ⟩ := s1.pre
        have h2' := DenC.mono (τ := []) s1.le h2
        rw [List.append_nil] at h2'
        obtain ⟨E2, kb2, ds, s2, r2, hl, hK⟩ := convK_ok h s1.inv h2'
        refine ⟨E2, kb2, d :: ds, s1.trans s2, .cons (r1.mono s2.le) r2, ?_, hK⟩
        simp only [List.length_append, List.length_cons, List.length_nil, hl, wk, hw]
      · exact h.elim
    cases c with
    | arr m z =>
      simp only [convK] at h
      split at h <;> try exact h.elim
      rename_i ds r hg
      obtain ⟨ys, zs, rfl, h1, h2, h3⟩ := gatherD_ok hg hd
      obtain ⟨E1, kb1, es, s1, r1, hl, hK⟩ := convK_ok h hi h3
      exact ⟨E1, kb1, ds ++ es, s1, (h1.mono s1.le).append r1, by rw [List.length_append, h2, hl]; rfl, by rw [← appD_eq]; exact hK⟩
    | int k => cases vs with | nil => exact h.elim | cons v vs' => exact single rfl rfl h
    | bool => cases vs with | nil => exact h.elim | cons v vs' => exact single rfl rfl h
    | sl s => cases vs with | nil => exact h.elim | cons v vs' => exact single rfl rfl h
    | other => cases vs with | nil => exact h.elim | cons v vs' => exact single rfl rfl h

/-- The cells of a value of type t, as data. -/
def cellsD (P : Program) (t : TypeId) (v : V) (kb : KB) (K : List D → KB → Prop) : Prop :=
  match tSize P t, kindsOf P 20 t with
  | some n, some ks => match Nat.beq (wk ks) n with
    | true => match v with
      | .agg vs => convK ks vs kb K
      | _ => match ks with
        | [c] => match V.one v, Nat.beq n 1 with | true, true => conv1 c v kb (fun d kb' => K [d] kb') | _, _ => False
        | _ => False
    | false => False
  | _, _ => False
theorem cellsD_ok {P : Program} {t : TypeId} {v : V} {kb : KB} {K : List D → KB → Prop} (h : cellsD P t v kb K) {σ : Sg} {E : EH} {W : World} (hi : Inv σ E kb W) {x : Value} (hd : Den σ E v x) :
    ∃ E' kb' ds xs, Step σ E kb W σ E' kb' W ∧ x.cells = xs.toArray ∧ DenD E' ds xs ∧ K ds kb' ∧ tSize P t = some xs.length := by
  unfold cellsD at h
  split at h <;> try exact h.elim
  rename_i n ks hn hks
  split at h <;> try exact h.elim
  rename_i hb
  have hw := Nat.eq_of_beq_eq_true hb
  split at h
  · simp only [Den] at hd
    obtain ⟨xs, rfl, hD⟩ := hd
    obtain ⟨E1, kb1, ds, s1, r1, hl, hK⟩ := convK_ok h hi hD
    exact ⟨E1, kb1, ds, xs, s1, rfl, r1, hK, by rw [hn, hl, hw]⟩
  · rename_i hna
    split at h <;> try exact h.elim
    rename_i c
    split at h <;> try exact h.elim
    rename_i ho hn1
    obtain ⟨E1, kb1, d, s1, r1, hK⟩ := conv1_ok h hi hd
    have h3 := one_den ho hd
    refine ⟨E1, kb1, [d], [x], s1, ?_, .cons r1 .nil, hK, by rw [hn, Nat.eq_of_beq_eq_true hn1]; rfl⟩
    cases x <;> simp_all [Value.cells, Value.oneCell']

/-! ### Stores -/
theorem run_store_cells {P : Program} {t : TypeId} {x : Value} {xs : List Value} (hx : x.cells = xs.toArray) (hn : tSize P t = some xs.length) (h1 : ∀ y ∈ xs, y.oneCell' = true)
    {W : World} {b o : Nat} {arr : Array Value} {ty : TypeId} (hb : W.heap[b]? = some (.cells arr ty (0, 0))) (hl : o + xs.length ≤ arr.size) :
    (storeVar t ⟨b, o, none⟩ x).run P W = .ok () (W.setRow b (splice arr.toList o xs).toArray) := by
  unfold storeVar
  rw [Sem.run_bind, run_tSize hn, Result.andThen_ok, hx]
  have hs := run_storeCells_at P b o ty xs 0 arr W hb (by simpa using hl) h1
  simp only [Nat.add_zero] at hs
  simp [hs, splice]

theorem setRow_step {σ : Sg} {E : EH} {kb : KB} {W : World} (hi : Inv σ E kb W) {i : Nat} {r : Re} {o o' : KO} (hs : σ[i]? = some r) (hk : kb[i]? = some o) (arr : Array Value)
    (hr : ∀ b, owned r o b ↔ b = r.blk) (hr' : ∀ b, owned r o' b → b = r.blk) (ho : HoldsO σ E (W.setRow r.blk arr) r o') :
    Step σ E kb W σ E (kb.set i o') (W.setRow r.blk arr) :=
  hi.set hs hk rfl rfl rfl (by simp [World.setRow]) (fun b hb => setRow_other W r.blk b arr (fun e => hb ((hr b).2 e))) (fun b hb => (hr b).2 (hr' b hb)) ho

/-- A store of type t at a symbolic address. -/
def storeK (P : Program) (t : TypeId) (addr v : V) (kb : KB) (K : KB → Prop) : Prop :=
  match addr with
  | .ptr i off => match cellsV P t v, kb[i]? with
    | some vs, some (.cells l) => match spliceW l off vs with
      | some l' => K (kb.set i (.cells l'))
      | none => False
    | _, _ => False
  | .pa i base o => match tSize P t with
    | some n => cellsD P t v kb (fun ds kb => match kb[i]? with
      | some (.cells l) => match pieceAt l base with
        | some (.arr m cs) => match spliceW l base [.arr m (splice cs o ds)] with
          | some l' => o + n ≤ m ∧ K (kb.set i (.cells l'))
          | none => False
        | _ => False
      | _ => False)
    | none => False
  | .pe i ix fld => match tSize P t with
    | some n => cellsD P t v kb (fun ds kb => match kb[i]? with
      | some (.row ty sz l) => match Nat.beq n sz with
        | true => match fld with
          | 0 => ix < l.length ∧ K (kb.set i (.row ty sz (l.set ix ds)))
          | _ => False
        | false => ∃ e, l[ix]? = some e ∧ fld + n ≤ sz ∧ K (kb.set i (.row ty sz (l.set ix (splice e fld ds))))
      | _ => False)
    | none => False
  | _ => False

/-- A row in which one element has turned. -/
theorem flat_set {sz : Nat} : ∀ {l : List (List D)}, wl sz l → ∀ {ix : Nat}, ix < l.length → ∀ {e : List D}, e.length = sz →
    (l.set ix e).flatten = splice l.flatten (ix * sz) e
  | [], _, ix, h, _, _ => by simp at h
  | c :: l, hs, ix, h, e, he => by
    have hc : c.length = sz := hs c (by simp)
    cases ix with
    | zero => simp [splice, he, ← hc]
    | succ ix =>
      rw [List.set_cons_succ, List.flatten_cons, flat_set hs.cons (by simpa using h) he]
      have e1 : (ix + 1) * sz = c.length + ix * sz := by rw [Nat.succ_mul, hc]; omega
      unfold splice
      rw [e1, List.flatten_cons, List.take_length_add_append, Nat.add_assoc c.length, List.drop_length_add_append]
      simp only [List.append_assoc]

theorem get_splice {α : Type} {l : List α} {off : Nat} {vs : List α} (h : off ≤ l.length) (j : Nat) : (splice l off vs)[j]? = if j < off then l[j]? else if j < off + vs.length then vs[j - off]? else l[j]? := by
  have hl : (l.take off).length = off := by simp; omega
  unfold splice
  by_cases h1 : j < off
  · rw [if_pos h1, List.append_assoc, List.getElem?_append_left (by omega), List.getElem?_take_of_lt h1]
  · rw [if_neg h1]
    by_cases h2 : j < off + vs.length
    · rw [if_pos h2, List.getElem?_append_left (by rw [List.length_append]; omega), List.getElem?_append_right (by omega), hl]
    · rw [if_neg h2, List.getElem?_append_right (by rw [List.length_append]; omega), List.getElem?_drop, List.length_append, hl]
      congr 1; omega
theorem splice_sub {α : Type} {l xs : List α} {base m o : Nat} (h : base + m ≤ l.length) (k : o + xs.length ≤ m) : splice l base (splice ((l.drop base).take m) o xs) = splice l (base + o) xs := by
  have h1 : ((l.drop base).take m).length = m := by simp; omega
  have h2 : (splice ((l.drop base).take m) o xs).length = m := by rw [splice_len (by omega), h1]
  apply List.ext_getElem?
  intro j
  rw [get_splice (l := l) (off := base) (by omega), get_splice (l := l) (off := base + o) (by omega), h2]
  by_cases c1 : j < base
  · rw [if_pos c1, if_pos (by omega)]
  · rw [if_neg c1]
    by_cases c2 : j < base + m
    · rw [if_pos c2, get_splice (l := (l.drop base).take m) (off := o) (by omega)]
      by_cases c3 : j - base < o
      · rw [if_pos c3, if_pos (by omega), List.getElem?_take_of_lt (by omega), List.getElem?_drop]
        congr 1; omega
      · rw [if_neg c3]
        by_cases c4 : j - base < o + xs.length
        · rw [if_pos c4, if_neg (by omega), if_pos (by omega)]
          congr 1; omega
        · rw [if_neg c4, if_neg (by omega), if_neg (by omega), List.getElem?_take_of_lt (by omega), List.getElem?_drop]
          congr 1; omega
    · rw [if_neg c2, if_neg (by omega), if_neg (by omega)]
theorem splice_take {α : Type} {l : List α} {n off : Nat} {vs : List α} (h : off + vs.length ≤ n) (hn : n ≤ l.length) : (splice l off vs).take n = splice (l.take n) off vs := by
  unfold splice
  rw [List.take_append, List.take_append]
  have e1 : (l.take off).take n = l.take off := by rw [List.take_take, Nat.min_eq_right (by omega)]
  have e2 : vs.take (n - (l.take off).length) = vs := List.take_of_length_le (by simp; omega)
  rw [e1, e2, List.take_take, Nat.min_eq_left (by omega), List.drop_take]
  congr 2
  simp; omega

theorem drop_mid {α : Type} {z : List α} {f sz : Nat} (h : f ≤ sz) : z.drop f = (z.take sz).drop f ++ z.drop sz := by
  have h1 : z.drop f = (z.take sz ++ z.drop sz).drop f := by rw [List.take_append_drop]
  rw [h1, List.drop_append]
  congr 1
  rcases Nat.le_total sz z.length with hz | hz
  · rw [List.length_take, Nat.min_eq_left hz, Nat.sub_eq_zero_of_le h, List.drop_zero]
  · rw [List.drop_eq_nil_of_le hz, List.drop_nil]

/-- One part of one element has turned. -/
theorem flat_set_part {sz : Nat} {l : List (List D)} (hw : wl sz l) {ix fld : Nat} {e xs : List D} (he : l[ix]? = some e) (hf : fld + xs.length ≤ sz) :
    (l.set ix (splice e fld xs)).flatten = splice l.flatten (ix * sz + fld) xs := by
  have hix : ix < l.length := (List.getElem?_eq_some_iff.1 he).1
  have hes := hw e (List.mem_of_getElem? he)
  have hsl : (splice e fld xs).length = sz := by rw [splice_len (by omega), hes]
  rw [flat_set hw hix hsl]
  have e1 := flat_sub hw he
  unfold splice
  have e2 : l.flatten.take (ix * sz + fld) = l.flatten.take (ix * sz) ++ e.take fld := by
    rw [List.take_add, ← e1, List.take_take, Nat.min_eq_left (by omega)]
  have e3 : l.flatten.drop (ix * sz + fld + xs.length) = e.drop (fld + xs.length) ++ l.flatten.drop (ix * sz + (e.take fld ++ xs ++ e.drop (fld + xs.length)).length) := by
    have e4 : (e.take fld ++ xs ++ e.drop (fld + xs.length)).length = sz := hsl
    rw [e4, Nat.add_assoc, ← List.drop_drop, drop_mid hf, e1, List.drop_drop]
  rw [e2, e3]
  simp only [List.append_assoc]

/-- Cells of a row of ours turn. -/
theorem row_splice {σ : Sg} {E : EH} {kb : KB} {W : World} (hi : Inv σ E kb W) {i : Nat} {r : Re} {ty : TypeId} {sz : Nat} {l l' : List (List D)} (hs : σ[i]? = some r) (hk : kb[i]? = some (.row ty sz l))
    {o : Nat} {ds : List D} {xs : List Value} (hd : DenD E ds xs) (hl : l'.length = l.length) (hw : wl sz l') (hfl : l'.flatten = splice l.flatten o ds) (hb : o + ds.length ≤ l.length * sz) (hpos : 0 < l.length) :
    ∃ arr, W.heap[r.blk]? = some (.cells arr ty (0, 0)) ∧ o + xs.length ≤ arr.size ∧
      Step σ E kb W σ E (kb.set i (.row ty sz l')) (W.setRow r.blk (splice arr.toList o xs).toArray) := by
  obtain ⟨rfl, g1, g2, g3, g4⟩ := hi.obj i r _ hs hk
  rcases g4 with g4 | ⟨arr, g4, g5, g6⟩
  · omega
  have hxl := hd.len
  have hm2 : l.length * r.sz ≤ r.cap * r.sz := Nat.mul_le_mul_right _ g2
  have hcap : r.cap ≠ 0 := by omega
  refine ⟨arr, g4, by omega, setRow_step hi hs hk _ (fun b => ⟨fun h => h.2, fun h => ⟨hcap, h⟩⟩) (fun b h => h.2) ⟨rfl, hw, by omega, g3, .inr ⟨_, setRow_heap W r.blk arr _ ty (0, 0) g4, ?_, ?_⟩⟩⟩
  · simp only [List.size_toArray]
    rw [splice_len (by simp; omega)]
    simpa using g5
  · simp only [hl]
    rw [splice_take (by omega) (by simp; omega), hfl]
    exact g6.splice hd o

theorem storeK_ok {P : Program} {t : TypeId} {addr v : V} {kb : KB} {K : KB → Prop} (h : storeK P t addr v kb K) {σ : Sg} {E : EH} {W : World} (hi : Inv σ E kb W) {a x : Value}
    (hd : Den σ E addr a) (hx : Den σ E v x) : ∃ E' kb' W', (Instr.storeAt t a x).run P W = .ok () W' ∧ Step σ E kb W σ E' kb' W' ∧ K kb' := by
  unfold storeK at h
  split at h
  · rename_i i off
    split at h <;> try exact h.elim
    rename_i vs l hvs hl
    split at h <;> try exact h.elim
    rename_i l' hl'
    obtain ⟨xs, hc, hD, h1, hn⟩ := cellsV_ok hvs hx
    simp only [Den] at hd
    obtain ⟨r, hr, rfl⟩ := hd
    obtain ⟨arr, ty, g1, g2⟩ := hi.obj i r _ hr hl
    obtain ⟨g3, g4⟩ := spliceW_ok hl' g2 hD
    have hst : Step σ E kb W σ E (kb.set i (.cells l')) (W.setRow r.blk (splice arr.toList off xs).toArray) :=
      setRow_step hi hr hl _ (fun b => Iff.rfl) (fun b hb => hb) ⟨_, ty, setRow_heap W r.blk arr _ ty (0, 0) g1, by simpa using g3⟩
    exact ⟨_, _, _, by simpa [Instr.storeAt, Instr.sureAddr] using run_store_cells hc hn h1 g1 (by simpa using g4), hst, h⟩
  · rename_i i base o
    split at h <;> try exact h.elim
    rename_i n hn
    obtain ⟨E1, kb1, ds, xs, s1, hc, hD, h, hxn⟩ := cellsD_ok h hi hx
    simp only [Den] at hd
    obtain ⟨r, hr, rfl⟩ := hd
    split at h <;> try exact h.elim
    rename_i l hl
    split at h <;> try exact h.elim
    rename_i m cs hp
    split at h <;> try exact h.elim
    rename_i l' hl'
    obtain ⟨hle, hK⟩ := h
    have hnx : n = xs.length := by rw [hn] at hxn; exact Option.some.inj hxn
    obtain ⟨arr, ty, g1, g2⟩ := s1.inv.obj i r _ hr hl
    obtain ⟨ys, p1, p2, p3, p4⟩ := pieceAt_arr hp g2
    have hdl := hD.len
    have hyl := p1.len
    have hsl : (splice cs o ds).length = m := by rw [splice_len (by omega), p2]
    obtain ⟨g3, g4⟩ := spliceW_ok hl' g2 (.cons (.inr ⟨m, _, rfl, hsl, p1.splice hD o⟩) .nil)
    have he : splice arr.toList base (splice ys o xs ++ []) = splice arr.toList (base + o) xs := by
      rw [List.append_nil, ← p4]
      exact splice_sub p3 (by omega)
    rw [he] at g3
    have hst : Step σ E1 kb1 W σ E1 (kb1.set i (.cells l')) (W.setRow r.blk (splice arr.toList (base + o) xs).toArray) :=
      setRow_step s1.inv hr hl _ (fun b => Iff.rfl) (fun b hb => hb) ⟨_, ty, setRow_heap W r.blk arr _ ty (0, 0) g1, by simpa using g3⟩
    simp only [Array.length_toList] at p3
    exact ⟨_, _, _, by simpa [Instr.storeAt, Instr.sureAddr] using run_store_cells hc hxn hD.one g1 (by omega), s1.trans hst, hK⟩
  · rename_i i ix fld
    split at h <;> try exact h.elim
    rename_i n hn
    obtain ⟨E1, kb1, ds, xs, s1, hc, hD, h, hxn⟩ := cellsD_ok h hi hx
    simp only [Den] at hd
    obtain ⟨r, hr, rfl⟩ := hd
    split at h <;> try exact h.elim
    rename_i ty sz l hl
    have hnx : n = xs.length := by rw [hn] at hxn; exact Option.some.inj hxn
    have hdl := hD.len
    obtain ⟨hsz, hw, _⟩ := s1.inv.obj i r _ hr hl
    split at h
    · rename_i hb
      have hb := Nat.eq_of_beq_eq_true hb
      split at h <;> try exact h.elim
      obtain ⟨hix, hK⟩ := h
      have hm : (ix + 1) * sz ≤ l.length * sz := Nat.mul_le_mul_right _ hix
      rw [Nat.succ_mul] at hm
      obtain ⟨arr, g1, g2, g3⟩ := row_splice s1.inv hr hl (o := ix * sz) hD (by simp) (hw.set ix (e := ds) (by omega)) (flat_set hw hix (by omega)) (by omega) (by omega)
      rw [← hsz] at g2 g3
      exact ⟨_, _, _, by simpa [Instr.storeAt, Instr.sureAddr] using run_store_cells hc hxn hD.one g1 g2, s1.trans (by rw [hsz] at g3 ⊢; exact g3), hK⟩
    · obtain ⟨e, he, hle, hK⟩ := h
      have hix : ix < l.length := (List.getElem?_eq_some_iff.1 he).1
      have hm : (ix + 1) * sz ≤ l.length * sz := Nat.mul_le_mul_right _ hix
      rw [Nat.succ_mul] at hm
      have hes := hw e (List.mem_of_getElem? he)
      obtain ⟨arr, g1, g2, g3⟩ := row_splice s1.inv hr hl (o := ix * sz + fld) hD (by simp) (hw.set ix (e := splice e fld ds) (by rw [splice_len (by omega), hes])) (flat_set_part hw he (by omega)) (by omega) (by omega)
      rw [← hsz] at g2 g3
      exact ⟨_, _, _, by simpa [Instr.storeAt, Instr.sureAddr] using run_store_cells hc hxn hD.one g1 g2, s1.trans (by rw [hsz] at g3 ⊢; exact g3), hK⟩
  · exact h.elim
end Vc
