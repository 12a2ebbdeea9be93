/- Code, loops, functions. -/
import Derived.Test.YtkodjbegpheomaaVdK
import Derived.Test.YtkodjbegpheomaaVdY
import Derived.Deep.LoopGhost
import Derived.Scope
set_option linter.unusedSimpArgs false
set_option linter.unusedVariables false
namespace Vc
open Go

/-- What holds at a loop's head: which slots live, what they and our blocks are, by a number of the prover's own; and a measure. -/
inductive NilD where
  | slot (k : Nat) (ty : TypeId) (sz : Nat)
  | cell (i off : Nat) (ty : TypeId) (sz : Nat)
  /-- a field of the value at place k -/
  | fld (k off : Nat) (ty : TypeId) (sz : Nat)
  /-- nil is to be immutable data without elements: the value at place k, a field of it -/
  | slotD (k : Nat) (sz : Nat)
  | fldD (k off : Nat) (sz : Nat)
  | cellD (i off : Nat) (sz : Nat)
  /-- the row of the slice in this cell gets a new number, the latest -/
  | mv (i off : Nat)
  /-- likewise of the slice at place k -/
  | mvS (k : Nat)
  /-- the cells that the pointer at place k leads to are immutable from now on -/
  | ice (k : Nat)
  /-- block i is of no use any more -/
  | kill (i : Nat)
  /-- the map or block that this cell leads to gets a new number, the latest -/
  | mvP (i off : Nat)
/-- What leads to a block. -/
def reptr (n : Nat) : V → Option (Nat × V)
  | .mp j => some (j, .mp n)
  | .ptr j o => some (j, .ptr n o)
  | _ => none
structure LI where
  α : Type
  live : List Nat
  /-- where nil is to be an empty row -/
  nils : List NilD := []
  st : α → List V × KB
  μ : α → Nat
  /-- 'for all', case by case -/
  all : (α → Prop) → Prop := fun Q => ∀ i, Q i
  all_ok : ∀ Q, all Q → ∀ i, Q i := by exact fun _ h => h
  /-- the loops within, as they stand in this round -/
  sub : α → Nat → Option LI := fun _ _ => none
/-- The loops that a round's body sees. -/
def subT (li : LI) (i : li.α) (T : Nat → Option LI) : Nat → Option LI := fun r => match li.sub i r with
  | some l => some l
  | none => T r

def firstReg : Code → Option Nat
  | .region id _ _ => some id
  | .seq a b => match firstReg a with | some i => some i | none => firstReg b
  | .block _ b => firstReg b
  | .loop b => firstReg b
  | .scope b => firstReg b
  | .cond _ a b => match firstReg a with | some i => some i | none => firstReg b
  | _ => none

def liveVals (fr : Fr) : List Nat → Option (List V)
  | [] => some []
  | t :: ts => match look fr t with
    | some v => match liveVals fr ts with | some vs => some (v :: vs) | none => none
    | none => none

/-- Cells as data. -/
def iceL : List V → Option (List D)
  | [] => some []
  | .int k n :: vs => match iceL vs with | some ds => some (.val (.int k n) :: ds) | none => none
  | .lit k n :: vs => match iceL vs with | some ds => some (.val (.int k n) :: ds) | none => none
  | .sb b :: vs => match iceL vs with | some ds => some (.val (.bool b) :: ds) | none => none
  | .dat d :: vs => match iceL vs with | some ds => some (d :: ds) | none => none
  | _ :: _ => none
theorem iceL_ok : ∀ {vs : List V} {ds : List D}, iceL vs = some ds → ∀ {σ : Sg} {E : EH} {xs : List Value}, DenC σ E vs xs → DenD E ds xs
  | [], ds, h, σ, E, xs, hd => by
    simp only [iceL, Option.some.injEq] at h
    subst h
    simp only [DenC] at hd
    subst hd
    exact DenD.nil
  | v :: vs, ds, h, σ, E, xs, hd => by
    obtain ⟨ys, zs, rfl, h1, h2⟩ := hd.uncons
    cases v <;> simp only [iceL, reduceCtorEq] at h
    all_goals
      split at h <;> try (cases h; done)
      rename_i ds' hds
      simp only [Option.some.injEq] at h
      subst h
      rcases h1 with ⟨y, rfl, h3, h4⟩ | ⟨m, cs, e, _, _⟩
      · refine DenD.cons ?_ (iceL_ok hds h2)
        simp only [Den] at h4
        first
        | exact h4
        | (subst h4; simp [RepD, Value.oneCell'])
      · cases e
/-- Cells of ours become immutable. -/
theorem Inv.freezeC {σ : Sg} {E : EH} {kb : KB} {W : World} (h : Inv σ E kb W) {i : Nat} {r : Re} {l : List V} {ds : List D} (hs : σ[i]? = some r) (hk : kb[i]? = some (.cells l)) (hc : iceL l = some ds) :
    ∃ E', Step σ E kb W σ E' (kb.set i .dead) W ∧ RepC E' ds r.blk 0 := by
  have hi : i < kb.length := (List.getElem?_eq_some_iff.1 hk).1
  have ho := h.obj i r _ hs hk
  let E' : EH := fun b => if b = r.blk then W.heap[b]? else E b
  have hle : E.le E' := fun b x hb => by
    show (if b = r.blk then W.heap[b]? else E b) = some x
    by_cases hc : b = r.blk
    · have := h.sep b ⟨i, r, _, hs, hk, hc⟩
      rw [this] at hb; cases hb
    · rw [if_neg hc]; exact hb
  have hget : ∀ (j : Nat) (x : KO), (kb.set i .dead)[j]? = some x → (j = i ∧ x = .dead) ∨ (j ≠ i ∧ kb[j]? = some x) := by
    intro j x hj
    by_cases hji : j = i
    · subst hji
      rw [List.getElem?_set_self hi] at hj
      exact .inl ⟨rfl, (Option.some.inj hj).symm⟩
    · rw [List.getElem?_set_ne (Ne.symm hji)] at hj
      exact .inr ⟨hji, hj⟩
  have hown : ∀ b, Owns σ (kb.set i .dead) b → Owns σ kb b ∧ ¬ b = r.blk := by
    rintro b ⟨j, r', x, h1, h2, h3⟩
    rcases hget j x h2 with ⟨rfl, rfl⟩ | ⟨hji, h4⟩
    · exact h3.elim
    · exact ⟨⟨j, r', x, h1, h4, h3⟩, fun hc => h.disj i j r r' _ x b (Ne.symm hji) hs hk h1 h4 hc h3⟩
  refine ⟨E', ⟨⟨by simp [h.len], fun j r' x h1 h2 => ?_, fun a c r1 r2 o1 o2 b hac h1 h2 h3 h4 h5 h6 => ?_, fun b x hb => ?_, fun b hb => ?_⟩, Stp.refl _ W, ⟨[], by simp⟩, hle, fun b hb => .inl (hown b hb).1, fun b x hb => ?_⟩, ?_⟩
  · rcases hget j x h2 with ⟨rfl, rfl⟩ | ⟨hji, h4⟩
    · trivial
    · have := (h.obj j r' x h1 h4).mono (τ := []) (W' := W) hle (fun b hb => rfl)
      simpa using this
  · rcases hget a o1 h2 with ⟨rfl, rfl⟩ | ⟨_, k2⟩
    · exact h5.elim
    rcases hget c o2 h4 with ⟨rfl, rfl⟩ | ⟨_, k4⟩
    · exact h6.elim
    exact h.disj a c r1 r2 o1 o2 b hac h1 k2 h3 k4 h5 h6
  · by_cases hc : b = r.blk
    · simp only [E', if_pos hc] at hb; exact hb
    · simp only [E', if_neg hc] at hb; exact h.imm b x hb
  · obtain ⟨h1, h2⟩ := hown b hb
    show (if b = r.blk then W.heap[b]? else E b) = none
    rw [if_neg h2]
    exact h.sep b h1
  · by_cases hc : b = r.blk
    · exact .inr (.inl ⟨i, r, _, hs, hk, hc⟩)
    · simp only [E', if_neg hc] at hb; exact .inl hb
  · obtain ⟨arr, ty, k1, k2⟩ := ho
    have k3 := iceL_ok hc k2
    refine (k3.mono hle).rep fun j x hj => ?_
    have e : E' r.blk = some (.cells arr ty (0, 0)) := by simp only [E', if_pos, k1]
    unfold EH.cell
    rw [e]
    simpa using hj
/-- A nil slice is an empty row of no room. -/
def nil1 : NilD → List V × KB → List V × KB
  | .slot k ty sz, (vs, kb) => match vs[k]? with
    | some (.any (.slice none 0 0)) => (vs.set k (.sl kb.length 0 0), kb ++ [KO.row ty sz []])
    | _ => (vs, kb)
  | .cell i off ty sz, (vs, kb) => match kb[i]? with
    | some (.cells l) => match pieceAt l off with
      | some (.any (.slice none 0 0)) => match spliceW l off [.sl kb.length 0 0] with
        | some l' => (vs, (kb ++ [KO.row ty sz []]).set i (KO.cells l'))
        | none => (vs, kb)
      | _ => (vs, kb)
    | _ => (vs, kb)
  | .fld k off ty sz, (vs, kb) => match vs[k]? with
    | some (.agg l) => match pieceAt l off with
      | some (.any (.slice none 0 0)) => match spliceW l off [.sl kb.length 0 0] with
        | some l' => (vs.set k (.agg l'), kb ++ [KO.row ty sz []])
        | none => (vs, kb)
      | _ => (vs, kb)
    | _ => (vs, kb)
  | .slotD k sz, (vs, kb) => match vs[k]? with
    | some (.any (.slice none 0 0)) => (vs.set k (.dat (.sl sz [])), kb)
    | _ => (vs, kb)
  | .fldD k off sz, (vs, kb) => match vs[k]? with
    | some (.agg l) => match pieceAt l off with
      | some (.any (.slice none 0 0)) => match spliceW l off [.dat (.sl sz [])] with
        | some l' => (vs.set k (.agg l'), kb)
        | none => (vs, kb)
      | _ => (vs, kb)
    | _ => (vs, kb)
  | .cellD i off sz, (vs, kb) => match kb[i]? with
    | some (.cells l) => match pieceAt l off with
      | some (.any (.slice none 0 0)) => match spliceW l off [.dat (.sl sz [])] with
        | some l' => (vs, kb.set i (KO.cells l'))
        | none => (vs, kb)
      | _ => (vs, kb)
    | _ => (vs, kb)
  | .mv i off, (vs, kb) => match kb[i]? with
    | some (.cells l) => match pieceAt l off with
      | some (.sl j lo hi) => match kb[j]? with
        | some (.row ty sz L) => match spliceW l off [.sl kb.length lo hi] with
          | some l' => (vs, (kb.set j .dead ++ [KO.row ty sz L]).set i (KO.cells l'))
          | none => (vs, kb)
        | _ => (vs, kb)
      | _ => (vs, kb)
    | _ => (vs, kb)
  | .mvS k, (vs, kb) => match vs[k]? with
    | some (.sl j lo hi) => match kb[j]? with
      | some (.row ty sz L) => (vs.set k (.sl kb.length lo hi), kb.set j .dead ++ [KO.row ty sz L])
      | _ => (vs, kb)
    | _ => (vs, kb)
  | .ice k, (vs, kb) => match vs[k]? with
    | some (.ptr i 0) => match kb[i]? with
      | some (.cells l) => match iceL l with
        | some ds => (vs.set k (.ipe ds 0), kb.set i .dead)
        | none => (vs, kb)
      | _ => (vs, kb)
    | _ => (vs, kb)
  | .kill i, (vs, kb) => match kb[i]? with
    | some _ => (vs, kb.set i .dead)
    | none => (vs, kb)
  | .mvP i off, (vs, kb) => match kb[i]? with
    | some (.cells l) => match pieceAt l off with
      | some v => match reptr kb.length v with
        | some (j, u) => match kb[j]? with
          | some o => match spliceW l off [u] with
            | some l' => if i = j then (vs, kb) else (vs, (kb.set j .dead ++ [o]).set i (KO.cells l'))
            | none => (vs, kb)
          | none => (vs, kb)
        | none => (vs, kb)
      | none => (vs, kb)
    | _ => (vs, kb)
def nilsK : List NilD → List V × KB → List V × KB
  | [], s => s
  | d :: ds, s => nilsK ds (nil1 d s)

theorem Inv.addNil {σ : Sg} {E : EH} {kb : KB} {W : World} (hi : Inv σ E kb W) (ty : TypeId) (sz : Nat) : Step σ E kb W (σ ++ [⟨0, 0, sz⟩]) E (kb ++ [.row ty sz []]) W :=
  hi.grow ⟨0, 0, sz⟩ (.row ty sz []) rfl rfl rfl (Nat.le_refl _) (fun _ _ => rfl) (fun b hb => absurd rfl hb.1) ⟨rfl, fun e he => (by cases he), Nat.le_refl _, Nat.zero_le _, .inl rfl⟩
theorem den_nil {σ : Sg} {E : EH} {kb : KB} (hl : σ.length = kb.length) (sz : Nat) : Den (σ ++ [⟨0, 0, sz⟩]) E (.sl kb.length 0 0) (.slice none 0 0) := by
  simp only [Den]
  exact ⟨⟨0, 0, sz⟩, none, by rw [← hl]; simp, rfl, Nat.le_refl _, Nat.le_refl _, fun h => absurd h (Nat.lt_irrefl _)⟩
theorem denL_turn {σ : Sg} {E : EH} {vs : List V} {xs : List Value} (h : DenL σ E vs xs) {k : Nat} {v u : V} {x : Value} (hv : vs[k]? = some v) (hx : ∀ y, Den σ E v y → y = x) (hu : Den σ E u x) : DenL σ E (vs.set k u) xs := by
  obtain ⟨y, h1, h2⟩ := h.get hv
  have := hx y h2
  subst this
  clear hx
  induction vs generalizing k xs with
  | nil => simp at hv
  | cons w vs ih =>
    simp only [DenL] at h
    obtain ⟨z, zs, rfl, h3, h4⟩ := h
    cases k with
    | zero =>
      simp at h1
      subst h1
      exact .cons hu h4
    | succ k => exact .cons h3 (ih h4 (by simpa using hv) (by simpa using h1))
theorem pieceAt_one {σ : Sg} {E : EH} {l : List V} {off : Nat} {v : V} (h : pieceAt l off = some v) (hna : ∀ m cs, v ≠ .arr m cs) {xs : List Value} (hd : DenC σ E l xs) : ∃ y, xs[off]? = some y ∧ y.oneCell' = true ∧ Den σ E v y := by
  unfold pieceAt at h
  split at h <;> try (cases h; done)
  rename_i v' r hr
  cases h
  obtain ⟨h1, h2⟩ := dropW_ok hr hd
  obtain ⟨ys, zs, e, h3, h4⟩ := h1.uncons
  rcases h3 with ⟨y, rfl, h5, hy⟩ | ⟨m, cs, e', _, _⟩
  · refine ⟨y, ?_, h5, hy⟩
    have := congrArg (fun z => z[0]?) e
    simpa using this
  · exact (hna _ _ e').elim
theorem denC_turn {σ : Sg} {E : EH} {l l' : List V} {xs : List Value} (h : DenC σ E l xs) {off : Nat} {v u : V} {x : Value} (hv : pieceAt l off = some v) (hna : ∀ m cs, v ≠ .arr m cs) (hx : ∀ y, Den σ E v y → y = x) (hu : Den σ E u x) (hl : spliceW l off [u] = some l') : DenC σ E l' xs := by
  obtain ⟨y, h1, h2, h3⟩ := pieceAt_one hv hna h
  have := hx y h3
  subst this
  obtain ⟨h4, h5⟩ := spliceW_ok hl h (.cons1 hu h2 .nil)
  have : splice xs off [y] = xs := by
    apply List.ext_getElem?
    intro j
    rw [get_splice (by omega)]
    split
    · rfl
    · split
      · rename_i c1 c2
        have : j = off := by simp at c2; omega
        subst this
        simp [h1]
      · rfl
  rwa [this] at h4

theorem denC_turnE {σ : Sg} {E : EH} {l l' : List V} {xs : List Value} (h : DenC σ E l xs) {off : Nat} {v u : V} (hv : pieceAt l off = some v) (hna : ∀ m cs, v ≠ .arr m cs) (hu : ∀ y, Den σ E v y → Den σ E u y) (hl : spliceW l off [u] = some l') : DenC σ E l' xs := by
  obtain ⟨y, h1, h2, h3⟩ := pieceAt_one hv hna h
  obtain ⟨h4, h5⟩ := spliceW_ok hl h (.cons1 (hu y h3) h2 .nil)
  have : splice xs off [y] = xs := by
    apply List.ext_getElem?
    intro j
    rw [get_splice (by omega)]
    split
    · rfl
    · split
      · rename_i c1 c2
        have : j = off := by simp at c2; omega
        subst this
        simp [h1]
      · rfl
  rwa [this] at h4

/-- A row gets a new number. -/
theorem Inv.moved {σ : Sg} {E : EH} {kb : KB} {W : World} (hi : Inv σ E kb W) {j : Nat} {ty : TypeId} {sz : Nat} {L : List (List D)} (hk : kb[j]? = some (.row ty sz L)) :
    ∃ r, σ[j]? = some r ∧ Step σ E kb W (σ ++ [r]) E (kb.set j .dead ++ [KO.row ty sz L]) W := by
  obtain ⟨r, hr⟩ : ∃ r, σ[j]? = some r := ⟨_, List.getElem?_eq_getElem (by rw [hi.len]; exact (List.getElem?_eq_some_iff.1 hk).1)⟩
  exact ⟨r, hr, hi.renew (W' := W) (r' := r) (o' := .row ty sz L) hr hk rfl rfl rfl (Nat.le_refl _) (fun _ _ _ => rfl) (fun b hb => .inl hb) ((hi.obj j r _ hr hk).mono (EH.le.refl E) (fun _ _ => rfl))⟩
theorem den_moved {σ : Sg} {E : EH} {kb : KB} (hl : σ.length = kb.length) {j lo hi : Nat} {r : Re} (hr : σ[j]? = some r) {y : Value} (hy : Den (σ ++ [r]) E (.sl j lo hi) y) : Den (σ ++ [r]) E (.sl kb.length lo hi) y := by
  simp only [Den] at hy ⊢
  obtain ⟨r', a, h1, h2⟩ := hy
  rw [sg_ext hr] at h1
  cases h1
  exact ⟨r, a, by rw [← hl]; simp, h2⟩

theorem Inv.movedO {σ : Sg} {E : EH} {kb : KB} {W : World} (hi : Inv σ E kb W) {j : Nat} {o : KO} (hk : kb[j]? = some o) :
    ∃ r, σ[j]? = some r ∧ Step σ E kb W (σ ++ [r]) E (kb.set j .dead ++ [o]) W := by
  obtain ⟨r, hr⟩ : ∃ r, σ[j]? = some r := ⟨_, List.getElem?_eq_getElem (by rw [hi.len]; exact (List.getElem?_eq_some_iff.1 hk).1)⟩
  exact ⟨r, hr, hi.renew (W' := W) (r' := r) (o' := o) hr hk rfl rfl rfl (Nat.le_refl _) (fun _ _ _ => rfl) (fun b hb => .inl hb) ((hi.obj j r _ hr hk).mono (EH.le.refl E) (fun _ _ => rfl))⟩
theorem reptr_ok {σ : Sg} {E : EH} {kb : KB} (hl : σ.length = kb.length) {j : Nat} {v u : V} (hv : reptr kb.length v = some (j, u)) {r : Re} (hr : σ[j]? = some r) {y : Value} (hy : Den (σ ++ [r]) E v y) : Den (σ ++ [r]) E u y := by
  have hn : (σ ++ [r])[kb.length]? = some r := by rw [← hl]; simp
  cases v <;> simp only [reptr, reduceCtorEq, Option.some.injEq, Prod.mk.injEq] at hv
  all_goals
    obtain ⟨rfl, rfl⟩ := hv
    simp only [Den] at hy ⊢
    obtain ⟨r', h1, h2⟩ := hy
    rw [sg_ext hr] at h1
    cases h1
    exact ⟨r, hn, h2⟩
theorem denL_turnE {σ : Sg} {E : EH} {vs : List V} {xs : List Value} (h : DenL σ E vs xs) {k : Nat} {v u : V} (hv : vs[k]? = some v) (hu : ∀ y, Den σ E v y → Den σ E u y) : DenL σ E (vs.set k u) xs := by
  obtain ⟨y, h1, h2⟩ := h.get hv
  have h3 := hu y h2
  clear hu h2
  induction vs generalizing k xs with
  | nil => simp at hv
  | cons w vs ih =>
    simp only [DenL] at h
    obtain ⟨z, zs, rfl, h4, h5⟩ := h
    cases k with
    | zero =>
      simp at h1
      subst h1
      exact .cons h3 h5
    | succ k => exact .cons h4 (ih h5 (by simpa using hv) (by simpa using h1))
theorem nil1_ok0 {c : Cx} {E : EH} {W : World} : ∀ (d : NilD) (_ : ∀ k, d ≠ .ice k) {σ : Sg} {vs : List V} {kb : KB} {xs : List Value}, Step c.σ c.E c.kb c.W σ E kb W → DenL σ E vs xs → ∃ σ', Step c.σ c.E c.kb c.W σ' E (nil1 d (vs, kb)).2 W ∧ DenL σ' E (nil1 d (vs, kb)).1 xs
  | .slot k ty sz, _, σ, vs, kb, xs, hs, hd => by
    simp only [nil1]
    split
    · rename_i hk
      have hst := hs.inv.addNil ty sz
      exact ⟨_, hs.trans hst, denL_turn (DenL.mono (EH.le.refl E) hd) hk (fun y hy => by simpa only [Den] using hy) (den_nil hs.inv.len sz)⟩
    · exact ⟨σ, hs, hd⟩
  | .cell i off ty sz, _, σ, vs, kb, xs, hs, hd => by
    simp only [nil1]
    split
    · rename_i l hl
      split
      · rename_i hk
        split
        · rename_i l' hl'
          have hst := hs.inv.addNil ty sz
          have hi2 := hst.inv
          have hlt : i < kb.length := (List.getElem?_eq_some_iff.1 hl).1
          have hkb : (kb ++ [KO.row ty sz []])[i]? = some (.cells l) := by rw [List.getElem?_append_left hlt]; exact hl
          obtain ⟨r, hr⟩ : ∃ r, (σ ++ [⟨0, 0, sz⟩])[i]? = some r := ⟨_, List.getElem?_eq_getElem (by rw [hi2.len]; simp; omega)⟩
          obtain ⟨arr, ty', h1, h2⟩ := hi2.obj i r _ hr hkb
          have hset := hi2.set (o' := .cells l') hr hkb rfl rfl rfl rfl (fun _ _ => rfl) (fun b hb => hb) ⟨arr, ty', h1, denC_turn h2 hk (fun _ _ h => by cases h) (fun y hy => by simpa only [Den] using hy) (den_nil hs.inv.len sz) hl'⟩
          exact ⟨_, hs.trans (hst.trans hset), DenL.mono (EH.le.refl E) hd⟩
        · exact ⟨σ, hs, hd⟩
      · exact ⟨σ, hs, hd⟩
    · exact ⟨σ, hs, hd⟩
  | .fld k off ty sz, _, σ, vs, kb, xs, hs, hd => by
    simp only [nil1]
    split
    · rename_i l hk
      split
      · rename_i hp
        split
        · rename_i l' hl'
          have hst := hs.inv.addNil ty sz
          refine ⟨_, hs.trans hst, denL_turnE (DenL.mono (EH.le.refl E) hd) hk fun y hy => ?_⟩
          simp only [Den] at hy ⊢
          obtain ⟨zs, rfl, hz⟩ := hy
          exact ⟨zs, rfl, denC_turn hz hp (fun _ _ h => by cases h) (fun y hy => by simpa only [Den] using hy) (den_nil hs.inv.len sz) hl'⟩
        · exact ⟨σ, hs, hd⟩
      · exact ⟨σ, hs, hd⟩
    · exact ⟨σ, hs, hd⟩
  | .slotD k sz, _, σ, vs, kb, xs, hs, hd => by
    simp only [nil1]
    split
    · rename_i hk
      exact ⟨_, hs, denL_turn hd hk (fun y hy => by simpa only [Den] using hy) (by simp only [Den]; exact ⟨none, 0, rfl, Nat.le_refl _, .inl rfl⟩)⟩
    · exact ⟨σ, hs, hd⟩
  | .fldD k off sz, _, σ, vs, kb, xs, hs, hd => by
    simp only [nil1]
    split
    · rename_i l hk
      split
      · rename_i hp
        split
        · rename_i l' hl'
          refine ⟨_, hs, denL_turnE hd hk fun y hy => ?_⟩
          simp only [Den] at hy ⊢
          obtain ⟨zs, rfl, hz⟩ := hy
          exact ⟨zs, rfl, denC_turn hz hp (fun _ _ h => by cases h) (fun y hy => by simpa only [Den] using hy) (by simp only [Den]; exact ⟨none, 0, rfl, Nat.le_refl _, .inl rfl⟩) hl'⟩
        · exact ⟨σ, hs, hd⟩
      · exact ⟨σ, hs, hd⟩
    · exact ⟨σ, hs, hd⟩
  | .cellD i off sz, _, σ, vs, kb, xs, hs, hd => by
    simp only [nil1]
    split
    · rename_i l hl
      split
      · rename_i hk
        split
        · rename_i l' hl'
          have hi2 := hs.inv
          obtain ⟨r, hr⟩ : ∃ r, σ[i]? = some r := ⟨_, List.getElem?_eq_getElem (by rw [hi2.len]; exact (List.getElem?_eq_some_iff.1 hl).1)⟩
          obtain ⟨arr, ty', h1, h2⟩ := hi2.obj i r _ hr hl
          have hset := hi2.set (o' := .cells l') hr hl rfl rfl rfl rfl (fun _ _ => rfl) (fun b hb => hb) ⟨arr, ty', h1, denC_turn h2 hk (fun _ _ h => by cases h) (fun y hy => by simpa only [Den] using hy) (by simp only [Den]; exact ⟨none, 0, rfl, Nat.le_refl _, .inl rfl⟩) hl'⟩
          exact ⟨_, hs.trans hset, hd⟩
        · exact ⟨σ, hs, hd⟩
      · exact ⟨σ, hs, hd⟩
    · exact ⟨σ, hs, hd⟩
  | .mv i off, _, σ, vs, kb, xs, hs, hd => by
    simp only [nil1]
    split
    · rename_i l hl
      split
      · rename_i j lo hi hk
        split
        · rename_i ty sz L hj
          split
          · rename_i l' hl'
            obtain ⟨r, hr, hst⟩ := hs.inv.moved hj
            have hi2 := hst.inv
            have hne : i ≠ j := fun e => by subst e; rw [hl] at hj; cases hj
            have hlt : i < kb.length := (List.getElem?_eq_some_iff.1 hl).1
            have hkb : (kb.set j .dead ++ [KO.row ty sz L])[i]? = some (.cells l) := by
              rw [List.getElem?_append_left (by simpa using hlt), List.getElem?_set_ne (Ne.symm hne)]; exact hl
            obtain ⟨ri, hri⟩ : ∃ ri, (σ ++ [r])[i]? = some ri := ⟨_, List.getElem?_eq_getElem (by rw [hi2.len]; simp; omega)⟩
            obtain ⟨arr, ty', h1, h2⟩ := hi2.obj i ri _ hri hkb
            have hset := hi2.set (o' := .cells l') hri hkb rfl rfl rfl rfl (fun _ _ => rfl) (fun b hb => hb) ⟨arr, ty', h1, denC_turnE h2 hk (fun _ _ h => by cases h) (fun y hy => den_moved hs.inv.len hr hy) hl'⟩
            exact ⟨_, hs.trans (hst.trans hset), DenL.mono (EH.le.refl E) hd⟩
          · exact ⟨σ, hs, hd⟩
        · exact ⟨σ, hs, hd⟩
      · exact ⟨σ, hs, hd⟩
    · exact ⟨σ, hs, hd⟩
  | .mvS k, _, σ, vs, kb, xs, hs, hd => by
    simp only [nil1]
    split
    · rename_i j lo hi hk
      split
      · rename_i ty sz L hj
        obtain ⟨r, hr, hst⟩ := hs.inv.moved hj
        exact ⟨_, hs.trans hst, denL_turnE (DenL.mono (EH.le.refl E) hd) hk (fun y hy => den_moved hs.inv.len hr hy)⟩
      · exact ⟨σ, hs, hd⟩
    · exact ⟨σ, hs, hd⟩
  | .mvP i off, _, σ, vs, kb, xs, hs, hd => by
    simp only [nil1]
    split
    · rename_i l hl
      split
      · rename_i v hk
        split
        · rename_i j u hu
          split
          · rename_i o hj
            split
            · rename_i l' hl'
              split
              · exact ⟨σ, hs, hd⟩
              · rename_i hne
                obtain ⟨r, hr, hst⟩ := hs.inv.movedO hj
                have hi2 := hst.inv
                have hlt : i < kb.length := (List.getElem?_eq_some_iff.1 hl).1
                have hkb : (kb.set j .dead ++ [o])[i]? = some (.cells l) := by
                  rw [List.getElem?_append_left (by simpa using hlt), List.getElem?_set_ne (Ne.symm hne)]; exact hl
                obtain ⟨ri, hri⟩ : ∃ ri, (σ ++ [r])[i]? = some ri := ⟨_, List.getElem?_eq_getElem (by rw [hi2.len]; simp; omega)⟩
                obtain ⟨arr, ty', h1, h2⟩ := hi2.obj i ri _ hri hkb
                have hna : ∀ m cs, v ≠ .arr m cs := fun m cs e => by subst e; simp [reptr] at hu
                have hset := hi2.set (o' := .cells l') hri hkb rfl rfl rfl rfl (fun _ _ => rfl) (fun b hb => hb) ⟨arr, ty', h1, denC_turnE h2 hk hna (fun y hy => reptr_ok hs.inv.len hu hr hy) hl'⟩
                exact ⟨_, hs.trans (hst.trans hset), DenL.mono (EH.le.refl E) hd⟩
            · exact ⟨σ, hs, hd⟩
          · exact ⟨σ, hs, hd⟩
        · exact ⟨σ, hs, hd⟩
      · exact ⟨σ, hs, hd⟩
    · exact ⟨σ, hs, hd⟩
  | .ice k, hno, _, _, _, _, _, _ => absurd rfl (hno k)
  | .kill i, _, σ, vs, kb, xs, hs, hd => by
    simp only [nil1]
    split
    · rename_i o ho
      have hi2 := hs.inv
      obtain ⟨r, hr⟩ : ∃ r, σ[i]? = some r := ⟨_, List.getElem?_eq_getElem (by rw [hi2.len]; exact (List.getElem?_eq_some_iff.1 ho).1)⟩
      have hset := hi2.set (o' := .dead) hr ho rfl rfl rfl rfl (fun _ _ => rfl) (fun b hb => hb.elim) trivial
      exact ⟨_, hs.trans hset, hd⟩
    · exact ⟨σ, hs, hd⟩
theorem nil1_ok {c : Cx} {E : EH} {W : World} : ∀ (d : NilD) {σ : Sg} {vs : List V} {kb : KB} {xs : List Value}, Step c.σ c.E c.kb c.W σ E kb W → DenL σ E vs xs → ∃ σ' E', Step c.σ c.E c.kb c.W σ' E' (nil1 d (vs, kb)).2 W ∧ DenL σ' E' (nil1 d (vs, kb)).1 xs ∧ E.le E' := fun d σ vs kb xs hs hd => by
  by_cases hd0 : ∃ k, d = .ice k
  · obtain ⟨k, rfl⟩ := hd0
    simp only [nil1]
    split
    · rename_i i hk
      split
      · rename_i l hl
        split
        · rename_i ds hds
          have hi2 := hs.inv
          obtain ⟨r, hr⟩ : ∃ r, σ[i]? = some r := ⟨_, List.getElem?_eq_getElem (by rw [hi2.len]; exact (List.getElem?_eq_some_iff.1 hl).1)⟩
          obtain ⟨E', hst, hrep⟩ := hi2.freezeC hr hl hds
          have hd' := DenL.mono (τ := []) hst.le hd
          rw [List.append_nil] at hd'
          refine ⟨σ, E', hs.trans hst, denL_turnE hd' hk (fun y hy => ?_), hst.le⟩
          simp only [Den] at hy ⊢
          obtain ⟨r', h1, rfl⟩ := hy
          rw [hr] at h1; cases h1
          exact ⟨r.blk, 0, rfl, hrep⟩
        · exact ⟨σ, E, hs, hd, EH.le.refl E⟩
      · exact ⟨σ, E, hs, hd, EH.le.refl E⟩
    · exact ⟨σ, E, hs, hd, EH.le.refl E⟩
  · obtain ⟨σ', h1, h2⟩ := nil1_ok0 d (fun k e => hd0 ⟨k, e⟩) hs hd
    exact ⟨σ', E, h1, h2, EH.le.refl E⟩
theorem nilsK_ok {c : Cx} {W : World} : ∀ (ds : List NilD) {E : EH} {σ : Sg} {s : List V × KB} {xs : List Value}, Step c.σ c.E c.kb c.W σ E s.2 W → DenL σ E s.1 xs → ∃ σ' E', Step c.σ c.E c.kb c.W σ' E' (nilsK ds s).2 W ∧ DenL σ' E' (nilsK ds s).1 xs ∧ E.le E'
  | [], E, σ, s, xs, hs, hd => ⟨σ, E, hs, hd, EH.le.refl E⟩
  | d :: ds, E, σ, s, xs, hs, hd => by
    obtain ⟨σ', E', h1, h2, h3⟩ := nil1_ok d hs hd
    obtain ⟨σ2, E2, h4, h5, h6⟩ := nilsK_ok ds h1 h2
    exact ⟨σ2, E2, h4, h5, h3.trans h6⟩

/-- A state is one of a loop's. -/
structure At (li : LI) (s : List V × KB) : Prop where
  has : ∃ i, s = li.st i
/-- A state is one of a loop's, of a smaller measure. -/
structure Nx (li : LI) (i : li.α) (s : List V × KB) : Prop where
  has : ∃ j, s = li.st j ∧ li.μ j < li.μ i
theorem At.mk' {li : LI} {s : List V × KB} (i : li.α) (h : s = li.st i) : At li s := ⟨i, h⟩
theorem Nx.mk' {li : LI} {i : li.α} {s : List V × KB} (j : li.α) (h : s = li.st j) (k : li.μ j < li.μ i) : Nx li i s := ⟨j, h, k⟩
/-- The state is that of a loop's head. -/
def atHead (n0 : Nat) (nils : List NilD) (live : List Nat) (fr : Fr) (kb : KB) (R : List V × KB → Prop) : Prop :=
  match liveVals fr live with
  | some vals => match canon n0 vals kb with
    | some (vs, kb', _) => match nils with
      | [] => R (vs, kb')
      | d :: ds => match canon n0 (nilsK (d :: ds) (vs, kb')).1 (nilsK (d :: ds) (vs, kb')).2 with
        | some (vs2, kb2, _) => R (vs2, kb2)
        | none => False
    | none => False
  | none => False

/-- A loop, round by round. -/
def iter (R : (Exit → Fr → KB → Prop) → Fr → KB → Prop) (Q : Exit → Fr → KB → Prop) : Nat → Fr → KB → Prop
  | 0, _, _ => False
  | m + 1, fr, kb => R (fun e fr kb => match e with | .normal => iter R Q m fr kb | e => Q e fr kb) fr kb

def runCode (P : Program) (X : CallT) : (Nat → Option LI) → Nat → Nat → Code → (Exit → Fr → KB → Prop) → Fr → KB → Prop
  | T, n0, n, .skip, Q, fr, kb => Q .normal fr kb
  | T, n0, n, .label _, Q, fr, kb => Q .normal fr kb
  | T, n0, n, .region _ ops false, Q, fr, kb => match Region.noSelect ops with
    | true => seqK P X n ops ops.toList (Q .normal) fr kb
    | false => seqXK P X n ops ops.toList (Q .normal) fr kb
  | T, n0, n, .region _ ops true, Q, fr, kb => match Region.noSelect ops, edgesB ops with
    | true, true => drawK P X n ops (planOf P ops 0 ops.size) ops.size 0 [] (Q .normal) fr kb
    | _, _ => False
  | T, n0, n, .seq x y, Q, fr, kb => match (firstReg y).bind (fun r => T (1000 + r)) with
    | some li => runCode P X T n0 n x (fun e fr kb => match e with | .normal => atHead n0 li.nils li.live fr kb (fun s => At li s) | e => Q e fr kb) fr kb ∧
        li.all (fun i => runCode P X (subT li i T) n0 n y Q (li.live.zip (li.st i).1) (li.st i).2)
    | none => runCode P X T n0 n x (fun e fr kb => match e with | .normal => runCode P X T n0 n y Q fr kb | e => Q e fr kb) fr kb
  | T, n0, n, .cond c x y, Q, fr, kb => match ev fr c with
    | some .tt => runCode P X T n0 n x Q fr kb
    | some .ff => runCode P X T n0 n y Q fr kb
    | some (.sb b) => (b = true → runCode P X T n0 n x Q fr kb) ∧ (b = false → runCode P X T n0 n y Q fr kb)
    | _ => False
  | T, n0, n, .block id x, Q, fr, kb => runCode P X T n0 n x (fun e fr kb => match e with
    | .exit i => match Nat.beq i id with | true => Q .normal fr kb | false => Q (.exit i) fr kb
    | e => Q e fr kb) fr kb
  | T, n0, n, .loop x, Q, fr, kb => match (firstReg x).bind T with
    | some li => atHead n0 li.nils li.live fr kb (fun s => At li s ∧
        li.all (fun i => runCode P X (subT li i T) n0 n x (fun e fr kb => match e with
          | .normal => atHead n0 li.nils li.live fr kb (fun s => Nx li i s)
          | e => Q e fr kb) (li.live.zip (li.st i).1) (li.st i).2))
    | none => iter (fun Q fr kb => runCode P X T n0 n x Q fr kb) Q 600 fr kb
  | T, n0, n, .scope x, Q, fr, kb => runCode P X T n0 n x (fun e fr kb => match e with | .goto _ => False | e => Q e fr kb) fr kb
  | T, n0, n, .rangeFunc g _ _ _, Q, fr, kb => match ev fr g with
    | some (.fn f cap) => match hasBody P f with
      | true => ∀ l, X f (.any (.func (.yield l) #[] #[]) :: cap) kb (fun _ kb' => Q .normal fr kb')
      | false => False
    | _ => False
  | T, n0, n, .exit id, Q, fr, kb => Q (.exit id) fr kb
  | T, n0, n, .ret, Q, fr, kb => Q .ret fr kb
  | _, _, _, _, _, _, _ => False

structure QOk (c : Cx) (n : Nat) (Q : Exit → Fr → KB → Prop) (Q' : Exit → Act → World → Prop) : Prop where
  hat : ∀ e a W, Hat c n (Q e) a W → Q' e a W
  pan : ∀ ch a a' w, Q' (.panic ch) a w → Q' (.panic ch) a' w

theorem liveVals_ok {σ : Sg} {E : EH} {fr : Fr} {n : Nat} {a : Act} (h : FrOk σ E fr n a) : ∀ {live : List Nat} {vals : List V}, liveVals fr live = some vals → ∃ xs : List Value, DenL σ E vals xs ∧ xs.length = live.length ∧ ∀ (k t : Nat) (x : Value), live[k]? = some t → xs[k]? = some x → a.tmps[t]? = some x
  | [], vals, hv => by simp only [liveVals, Option.some.injEq] at hv; subst hv; exact ⟨[], .nil, rfl, by simp⟩
  | t :: ts, vals, hv => by
    simp only [liveVals] at hv
    split at hv <;> try (cases hv; done)
    rename_i v hl
    split at hv <;> try (cases hv; done)
    rename_i vs hvs
    cases hv
    obtain ⟨x, h1, h2⟩ := h.get t v hl
    obtain ⟨xs, h3, h4, h5⟩ := liveVals_ok h hvs
    refine ⟨x :: xs, .cons h2 h3, by simp [h4], fun k u y hk hy => ?_⟩
    cases k with
    | zero => simp at hk hy; subst hk; subst hy; exact h1
    | succ k => exact h5 k u y (by simpa using hk) (by simpa using hy)

theorem look_zip {σ : Sg} {E : EH} : ∀ {live : List Nat} {vs : List V} {xs : List Value}, DenL σ E vs xs → ∀ {t : Nat} {v : V}, look (live.zip vs) t = some v → ∃ (k : Nat) (x : Value), live[k]? = some t ∧ xs[k]? = some x ∧ Den σ E v x
  | [], _, _, _, t, v, h => by simp [look] at h
  | u :: live, [], _, _, t, v, h => by simp [look] at h
  | u :: live, w :: vs, xs, hd, t, v, h => by
    simp only [DenL] at hd
    obtain ⟨x, xs', rfl, h1, h2⟩ := hd
    simp only [List.zip_cons_cons, look] at h
    split at h
    · rename_i hb
      have := Nat.eq_of_beq_eq_true hb
      subst this
      cases h
      exact ⟨0, x, rfl, rfl, h1⟩
    · obtain ⟨k, y, k1, k2, k3⟩ := look_zip h2 h
      exact ⟨k + 1, y, by simpa using k1, by simpa using k2, k3⟩

theorem atHead_ok {c : Cx} {nils : List NilD} {live : List Nat} {fr : Fr} {kb : KB} {R : List V × KB → Prop} (h : atHead c.σ.length nils live fr kb R) {σ : Sg} {E : EH} {n : Nat} {a : Act} {W : World} (hs : Step c.σ c.E c.kb c.W σ E kb W) (hf : FrOk σ E fr n a) :
    ∃ s, R s ∧ Hat c n (fun fr' kb' => fr' = live.zip s.1 ∧ kb' = s.2) a W := by
  unfold atHead at h
  split at h <;> try exact h.elim
  rename_i vals hvals
  split at h <;> try exact h.elim
  rename_i vs kb' o hc
  obtain ⟨xs, h1, h2, h3⟩ := liveVals_ok hf hvals
  obtain ⟨σ', h4, h5⟩ := hs.sel hc h1
  split at h
  · refine ⟨(vs, kb'), h, σ', E, live.zip vs, kb', h4, ⟨hf.size, hf.defers, fun t v hv => ?_⟩, rfl, rfl⟩
    obtain ⟨k, x, k1, k2, k3⟩ := look_zip h5 hv
    exact ⟨x, h3 k t x k1 k2, k3⟩
  · rename_i d ds
    split at h <;> try exact h.elim
    rename_i vs2 kb2 o2 hc2
    obtain ⟨σ2, E2, h6, h7, hE2⟩ := nilsK_ok (c := c) (d :: ds) (s := (vs, kb')) h4 h5
    obtain ⟨σ3, h8, h9⟩ := h6.sel hc2 h7
    refine ⟨(vs2, kb2), h, σ3, E2, live.zip vs2, kb2, h8, ⟨hf.size, hf.defers.mono hE2, fun t v hv => ?_⟩, rfl, rfl⟩
    obtain ⟨k, x, k1, k2, k3⟩ := look_zip h9 hv
    exact ⟨x, h3 k t x k1 k2, k3⟩

theorem runCode_ok {P : Program} {X : CallT} (hX : CallOk P X) (hm : P.follows .mixedOrders = true) {c : Cx} {n : Nat} : ∀ (code : Code) {T : Nat → Option LI} {Q : Exit → Fr → KB → Prop} {Q' : Exit → Act → World → Prop}, QOk c n Q Q' → ∀ {a : Act} {W : World},
    Hat c n (runCode P X T c.σ.length n code Q) a W → code.wp P Q' a W
  | .skip, T, Q, Q', hQ, a, W, h => wp_skip (hQ.hat _ _ _ h)
  | .label _, T, Q, Q', hQ, a, W, h => wp_label (hQ.hat _ _ _ h)
  | .exit id, T, Q, Q', hQ, a, W, h => wp_exit (hQ.hat _ _ _ h)
  | .ret, T, Q, Q', hQ, a, W, h => wp_ret (hQ.hat _ _ _ h)
  | .region id ops false, T, Q, Q', hQ, a, W, h => by
    cases hns : Region.noSelect ops with
    | true =>
      simp only [runCode, hns] at h
      exact wp_region_list (seqK_ok hX (fun a W h => hQ.hat _ _ _ h) h)
    | false =>
      simp only [runCode, hns] at h
      exact regionX_ok hX (fun a W h => hQ.hat _ _ _ h) h
  | .region id ops true, T, Q, Q', hQ, a, W, h => by
    obtain ⟨σ, E, fr, kb, hs, hf, h⟩ := h
    simp only [runCode] at h
    split at h <;> try exact h.elim
    rename_i hns hed
    refine wp_region_any hm ?_
    have hd := (hs.trans (Inv.drew hs.inv))
    exact (drawK_ok hX hns hed (Q := Q') (K := Q .normal) (fun a W h => hQ.hat _ _ _ h) hQ.pan ops.size 0 _ [] fr kb a _ σ E [] ⟨by simp, fun i hi => by simp [hi]⟩ Closed.empty hd hf (fun r hr => by cases hr) h).any
  | .seq x y, T, Q, Q', hQ, a, W, h => by
    cases hcut : (firstReg y).bind (fun r => T (1000 + r)) with
    | some li =>
      obtain ⟨σ, E, fr, kb, hs, hf, h⟩ := h
      simp only [runCode, hcut] at h
      obtain ⟨hx, hy⟩ := h
      refine wp_seq (runCode_ok hX hm x (Q' := Exit.then (y.wp P Q') Q') (Q := fun e fr kb => match e with | .normal => atHead c.σ.length li.nils li.live fr kb (fun s => At li s) | e => Q e fr kb) ⟨fun e a W h => ?_, fun ch a a' w h => hQ.pan ch a a' w h⟩ ⟨σ, E, fr, kb, hs, hf, hx⟩)
      cases e with
      | normal =>
        obtain ⟨σ2, E2, fr2, kb2, hs2, hf2, h2⟩ := h
        obtain ⟨s, ⟨⟨i, rfl⟩⟩, hh⟩ := atHead_ok h2 hs2 hf2
        refine runCode_ok (T := subT li i T) hX hm y hQ ?_
        obtain ⟨σ3, E3, fr3, kb3, k1, k2, rfl, rfl⟩ := hh
        exact ⟨σ3, E3, _, _, k1, k2, li.all_ok _ hy i⟩
      | exit id => exact hQ.hat _ _ _ h
      | goto l => exact hQ.hat _ _ _ h
      | ret => exact hQ.hat _ _ _ h
      | panic ch => exact hQ.hat _ _ _ h
      | outgrown => exact hQ.hat _ _ _ h
    | none =>
    replace h : Hat c n (runCode P X T c.σ.length n x (fun e fr kb => match e with | .normal => runCode P X T c.σ.length n y Q fr kb | e => Q e fr kb)) a W := by
      obtain ⟨σ, E, fr, kb, hs, hf, h⟩ := h
      simp only [runCode, hcut] at h
      exact ⟨σ, E, fr, kb, hs, hf, h⟩
    refine wp_seq (runCode_ok hX hm x (Q' := Exit.then (y.wp P Q') Q') (Q := fun e fr kb => match e with | .normal => runCode P X T c.σ.length n y Q fr kb | e => Q e fr kb) ⟨fun e a W h => ?_, fun ch a a' w h => hQ.pan ch a a' w h⟩ h)
    cases e with
    | normal => exact runCode_ok hX hm y hQ h
    | exit id => exact hQ.hat _ _ _ h
    | goto l => exact hQ.hat _ _ _ h
    | ret => exact hQ.hat _ _ _ h
    | panic ch => exact hQ.hat _ _ _ h
    | outgrown => exact hQ.hat _ _ _ h
  | .cond o x y, T, Q, Q', hQ, a, W, h => by
    obtain ⟨σ, E, fr, kb, hs, hf, h⟩ := h
    simp only [runCode] at h
    split at h
    · rename_i hc
      have := ev_ok hf hc
      simp only [Den] at this
      exact wp_cond_true this (runCode_ok hX hm x hQ ⟨σ, E, fr, kb, hs, hf, h⟩)
    · rename_i hc
      have := ev_ok hf hc
      simp only [Den] at this
      exact wp_cond_false this (runCode_ok hX hm y hQ ⟨σ, E, fr, kb, hs, hf, h⟩)
    · rename_i b hc
      have := ev_ok hf hc
      simp only [Den] at this
      exact wp_cond_split this (fun hb => runCode_ok hX hm x hQ ⟨σ, E, fr, kb, hs, hf, h.1 hb⟩) (fun hb => runCode_ok hX hm y hQ ⟨σ, E, fr, kb, hs, hf, h.2 hb⟩)
    · exact h.elim
  | .block id x, T, Q, Q', hQ, a, W, h => by
    refine wp_block (runCode_ok hX hm x (Q' := Exit.inBlock id Q') (Q := fun e fr kb => match e with
      | .exit i => match Nat.beq i id with | true => Q .normal fr kb | false => Q (.exit i) fr kb
      | e => Q e fr kb) ⟨fun e a W h => ?_, fun ch a a' w h => hQ.pan ch a a' w h⟩ h)
    cases e with
    | normal => exact hQ.hat _ _ _ h
    | exit i =>
      simp only [Exit.inBlock]
      simp only at h
      cases hb : Nat.beq i id with
      | true =>
        rw [if_pos (Nat.eq_of_beq_eq_true hb)]
        simp only [hb] at h
        exact hQ.hat _ _ _ h
      | false =>
        rw [if_neg (fun e => by subst e; simp at hb)]
        simp only [hb] at h
        exact hQ.hat _ _ _ h
    | goto l => exact hQ.hat _ _ _ h
    | ret => exact hQ.hat _ _ _ h
    | panic ch => exact hQ.hat _ _ _ h
    | outgrown => exact hQ.hat _ _ _ h
  | .loop x, T, Q, Q', hQ, a, W, h => by
    obtain ⟨σ, E, fr, kb, hs, hf, h⟩ := h
    simp only [runCode] at h
    split at h
    case h_2 =>
      refine wp_loop_ghost (fun k a w => Hat c n (iter (fun Q fr kb => runCode P X T c.σ.length n x Q fr kb) Q k) a w) 600 ⟨σ, E, fr, kb, hs, hf, h⟩ ?_
      intro k a' w' hk
      cases k with
      | zero => obtain ⟨_, _, _, _, _, _, h⟩ := hk; exact h.elim
      | succ k =>
        refine runCode_ok hX hm x (Q' := Exit.then (fun a' w' => ∃ n', n' < k + 1 ∧ Hat c n (iter (fun Q fr kb => runCode P X T c.σ.length n x Q fr kb) Q n') a' w') Q')
          (Q := fun e fr kb => match e with | .normal => iter (fun Q fr kb => runCode P X T c.σ.length n x Q fr kb) Q k fr kb | e => Q e fr kb) ⟨fun e a W h => ?_, fun ch a a' w h => hQ.pan ch a a' w h⟩ hk
        cases e with
        | normal => exact ⟨k, by omega, h⟩
        | exit id => exact hQ.hat _ _ _ h
        | goto l => exact hQ.hat _ _ _ h
        | ret => exact hQ.hat _ _ _ h
        | panic ch => exact hQ.hat _ _ _ h
        | outgrown => exact hQ.hat _ _ _ h
    rename_i li hli
    obtain ⟨s, ⟨⟨⟨i, rfl⟩⟩, hall0⟩, hh⟩ := atHead_ok h hs hf
    refine wp_loop_ghost (fun k a w => ∃ i, li.μ i = k ∧ Hat c n (fun fr' kb' => fr' = li.live.zip (li.st i).1 ∧ kb' = (li.st i).2) a w) (li.μ i) ⟨i, rfl, hh⟩ ?_
    rintro k a' w' ⟨j, rfl, σ', E', fr', kb', hs', hf', rfl, rfl⟩
    refine runCode_ok hX hm x (T := subT li j T) (Q' := Exit.then (fun a' w' => ∃ n', n' < li.μ j ∧ ∃ i, li.μ i = n' ∧ Hat c n (fun fr' kb' => fr' = li.live.zip (li.st i).1 ∧ kb' = (li.st i).2) a' w') Q') (Q := fun e fr kb => match e with
          | .normal => atHead c.σ.length li.nils li.live fr kb (fun s => Nx li j s)
          | e => Q e fr kb) ⟨fun e a W h => ?_, fun ch a a' w h => hQ.pan ch a a' w h⟩ ⟨σ', E', _, _, hs', hf', li.all_ok _ hall0 j⟩
    cases e with
    | normal =>
      obtain ⟨σ2, E2, fr2, kb2, hs2, hf2, h2⟩ := h
      obtain ⟨s, ⟨⟨j', rfl, hlt⟩⟩, hh⟩ := atHead_ok h2 hs2 hf2
      exact ⟨_, hlt, j', rfl, hh⟩
    | exit id => exact hQ.hat _ _ _ h
    | goto l => exact hQ.hat _ _ _ h
    | ret => exact hQ.hat _ _ _ h
    | panic ch => exact hQ.hat _ _ _ h
    | outgrown => exact hQ.hat _ _ _ h
  | .rangeFunc g ps assign body, T, Q, Q', hQ, a, W, h => by
    obtain ⟨σ, E, fr, kb, hs, hf, h⟩ := h
    simp only [runCode] at h
    split at h <;> try exact h.elim
    rename_i f cap hg
    split at h <;> try exact h.elim
    rename_i hb
    unfold hasBody at hb
    split at hb <;> try (cases hb; done)
    rename_i fn hfn
    simp only [Bool.and_eq_true, Bool.not_eq_true', beq_eq_false_iff_ne, ne_eq] at hb
    obtain ⟨fbody, hbody⟩ := Option.isSome_iff_exists.1 hb.1
    have hfv := ev_ok hf hg
    simp only [Den] at hfv
    obtain ⟨cs, hfe, hcs⟩ := hfv
    refine wpIn_wide.1 (wpIn_rangeFunc (F := Fence.wide) (n := 0) fun fnid _ => ?_)
    let r : Loop := { state := .ready, pending := none, fn := fnid, tmps := a.tmps, params := ps, assign, body, defers := W.heap.size }
    obtain ⟨E1, hst, hE1, hE1n, hl⟩ := Step.entered hs.inv r
    have hres : ∀ w, (resolve a.eval (rangeCall g (W.heap.size + 1)) 0).run P w = .ok { target := .fn (.func f) cs.toArray, args := #[.func (.yield (W.heap.size + 1)) #[] #[]] } w := by
      intro w
      have hc : a.eval (.const (.func (.yield (W.heap.size + 1)) #[] #[])) = .func (.yield (W.heap.size + 1)) #[] #[] := rfl
      simp [resolve, rangeCall, Deferred.ofValue, hfe, hc]
    have hinv : ∀ w, (invoke (.fn (.func f) cs.toArray) #[.func (.yield (W.heap.size + 1)) #[] #[]]).run P w = .ok (.enter f (#[.func (.yield (W.heap.size + 1)) #[] #[]] ++ cs.toArray)) w := by
      intro w
      simp [invoke, callFunc, hfn, hb.2, hbody]
    refine ⟨W.heap.size + 1, [{ target := .collected W.heap.size, args := #[] }], _, _, _, f, _, _, run_enterLoop_outer fnid a.tmps ps assign body, hres _, fun _ _ => trivial, hinv _, by simp [Fence.wide], ?_⟩
    refine callsIn_wide.2 ?_
    have hcs' := DenL.mono (τ := []) hst.le hcs
    rw [List.append_nil] at hcs'
    have hcall := hX f _ kb _ (h (W.heap.size + 1)) σ E1 _ _ hst.inv (DenL.cons (x := .func (.yield (W.heap.size + 1)) #[] #[]) (by simp [Den]) hcs')
    have earg : (#[.func (.yield (W.heap.size + 1)) #[] #[]] ++ cs.toArray : Array Value) = ((Value.func (.yield (W.heap.size + 1)) #[] #[]) :: cs).toArray := by apply Array.ext'; simp
    rw [earg]
    refine hcall.mono ?_
    rintro e W3 ⟨v, rv, σ', E', kb', rfl, h1, h2, h3⟩
    have hno : ¬ Owns σ kb (W.heap.size + 1) := fun ho => by have := hs.inv.lt ho; omega
    have hsz : W.heap.size + 1 < ((W.alloc (.deferred (some []))).alloc (.loop r)).heap.size := by simp
    have hl3 : W3.heap[W.heap.size + 1]? = some (.loop r) := by
      rw [h1.stp.block _ hsz hno]; exact hl
    refine ⟨none, _, run_endLoop hl3 (by simp [r]), ?_⟩
    have hE3 : E' (W.heap.size + 1) = none := by
      cases hE : E' (W.heap.size + 1) with
      | none => rfl
      | some x =>
        rcases h1.new _ x hE with k | k | k
        · rw [hE1n] at k; cases k
        · exact (hno k).elim
        · omega
    have hno3 : ¬ Owns σ' kb' (W.heap.size + 1) := fun ho => by
      rcases h1.own _ ho with k | k
      · exact hno k
      · omega
    have hall := (hst.trans h1).other (l := W.heap.size + 1) (by omega) hno3 hE3 (.loop { r with state := .exhausted })
    obtain ⟨τ, rfl⟩ := h1.pre
    refine hQ.hat _ _ _ ⟨σ ++ τ, E', fr, kb', hs.trans hall, ?_, h3⟩
    have hf' := hf.mono (τ := τ) (hst.le.trans h1.le)
    refine ⟨hf'.size, ⟨fun d hd => ?_, ?_⟩, hf'.get⟩
    · simp only [List.singleton_append, List.mem_cons] at hd
      rcases hd with rfl | hd
      · exact ⟨_, rfl, h1.le _ _ hE1⟩
      · exact hf'.defers.all d hd
    · simp only [List.singleton_append]
      refine List.pairwise_cons.2 ⟨fun d hd e => ?_, hf.defers.nodup⟩
      subst e
      obtain ⟨b, e1, e2⟩ := hf.defers.all _ hd
      cases e1
      have := (Array.getElem?_eq_some_iff.1 (hs.inv.imm _ _ e2)).1
      omega
  | .scope x, T, Q, Q', hQ, a, W, h => by
    refine wp_scope_straight (runCode_ok hX hm x (Q' := Exit.noGoto Q') (Q := fun e fr kb => match e with | .goto _ => False | e => Q e fr kb) ⟨fun e a W h => ?_, fun ch a a' w h => hQ.pan ch a a' w h⟩ h)
    cases e with
    | normal => exact hQ.hat _ _ _ h
    | exit id => exact hQ.hat _ _ _ h
    | goto l => obtain ⟨_, _, _, _, _, _, h⟩ := h; exact h.elim
    | ret => exact hQ.hat _ _ _ h
    | panic ch => exact hQ.hat _ _ _ h
    | outgrown => exact hQ.hat _ _ _ h
  | .goto _, _, _, _, _, _, _, h => by obtain ⟨_, _, _, _, _, _, h⟩ := h; exact h.elim
  | .refuse _, _, _, _, _, _, _, h => by obtain ⟨_, _, _, _, _, _, h⟩ := h; exact h.elim

/-! ### Functions -/
def resK (P : Program) (fr : Fr) (kb : KB) : List ResultVar → (List V → Prop) → Prop
  | [], K => K []
  | .tmp t :: rs, K => match look fr t with | some v => resK P fr kb rs (fun vs => K (v :: vs)) | none => False
  | .cell t ty :: rs, K => match look fr t with | some ad => loadK P ty ad kb (fun v => resK P fr kb rs (fun vs => K (v :: vs))) | none => False

def retV : List V → V
  | [v] => v
  | vs => .tup vs

def fin (P : Program) (fn : Func) (K : V → KB → Prop) : Exit → Fr → KB → Prop
  | .normal, fr, kb => resK P fr kb fn.results.toList (fun vs => K (retV vs) kb)
  | .ret, fr, kb => resK P fr kb fn.results.toList (fun vs => K (retV vs) kb)
  | _, _, _ => False

theorem resK_ok {P : Program} {fr : Fr} {kb : KB} {σ : Sg} {E : EH} {n : Nat} {a : Act} (hf : FrOk σ E fr n a) {W : World} (hi : Inv σ E kb W) : ∀ {rs : List ResultVar} {K : List V → Prop}, resK P fr kb rs K →
    ∃ vs xs, K vs ∧ DenL σ E vs xs ∧ (rs.mapM (m := Sem) fun | .tmp t => pure (a.tmps.getD t undef) | .cell t ty => do loadVar ty (← asAddr (a.tmps.getD t undef))).run P W = .ok xs W
  | [], K, h => ⟨[], [], h, .nil, by simp⟩
  | .tmp t :: rs, K, h => by
    simp only [resK] at h
    split at h <;> try exact h.elim
    rename_i v hv
    obtain ⟨x, h1, h2⟩ := hf.get t v hv
    obtain ⟨vs, xs, h3, h4, h5⟩ := resK_ok hf hi h
    refine ⟨_, x :: xs, h3, .cons h2 h4, ?_⟩
    rw [List.mapM_cons, Sem.run_bind, Sem.run_pure, Result.andThen_ok, Sem.run_bind, h5, Result.andThen_ok]
    simp [Array.getD_eq_getD_getElem?, h1]
  | .cell t ty :: rs, K, h => by
    simp only [resK] at h
    split at h <;> try exact h.elim
    rename_i ad had
    obtain ⟨x, h1, h2⟩ := hf.get t ad had
    obtain ⟨v, y, h6, h7, h8⟩ := loadK_ok h hi h2
    obtain ⟨vs, xs, h3, h4, h5⟩ := resK_ok hf hi h8
    refine ⟨_, y :: xs, h3, .cons h7 h4, ?_⟩
    have hx : a.tmps.getD t undef = x := by simp [Array.getD_eq_getD_getElem?, h1]
    have hload : (do loadVar ty (← asAddr x) : Sem Value).run P W = .ok y W := by
      unfold Instr.loadAt at h6
      cases x with
      | pointer p => cases p with
        | some p => simpa [Instr.sureAddr, asAddr] using h6
        | none => simp [Instr.sureAddr] at h6
      | _ => simp [Instr.sureAddr] at h6
    rw [List.mapM_cons, Sem.run_bind]
    simp only [hx]
    rw [hload, Result.andThen_ok, Sem.run_bind, h5, Result.andThen_ok]
    simp

def argFr : Nat → List V → Fr
  | _, [] => []
  | k, v :: vs => (k, v) :: argFr (k + 1) vs

theorem look_arg {σ : Sg} {E : EH} : ∀ {vs : List V} {xs : List Value} (k : Nat), DenL σ E vs xs → ∀ {t : Nat} {v : V}, look (argFr k vs) t = some v → ∃ x, k ≤ t ∧ xs[t - k]? = some x ∧ Den σ E v x
  | [], _, k, _, t, v, h => by simp [argFr, look] at h
  | w :: vs, xs, k, hd, t, v, h => by
    simp only [DenL] at hd
    obtain ⟨x, xs', rfl, h1, h2⟩ := hd
    simp only [argFr, look] at h
    split at h
    · rename_i hb
      have := Nat.eq_of_beq_eq_true hb
      subst this
      cases h
      exact ⟨x, Nat.le_refl _, by simp, h1⟩
    · obtain ⟨y, h3, h4, h5⟩ := look_arg (k + 1) h2 h
      exact ⟨y, by omega, by rw [show t - k = (t - (k + 1)) + 1 by omega]; simpa using h4, h5⟩

/-- A function, walked through. -/
def runFn (P : Program) (X : CallT) (T : Nat → Option LI) (f : FuncId) (args : List V) (kb : KB) (K : V → KB → Prop) : Prop :=
  match P.funcs[f]? with
  | some fn => match fn.body, Nat.ble args.length fn.ntmps with
    | some code, true => runCode P X T kb.length fn.ntmps code (fin P fn K) (argFr 0 args) kb
    | _, _ => False
  | none => False

theorem fin_results {P : Program} {fn : Func} {fr : Fr} {kb : KB} {K : V → KB → Prop} {σ : Sg} {E : EH} {n : Nat} {a : Act} {W : World} (hf : FrOk σ E fr n a) (hi : Inv σ E kb W) (h : resK P fr kb fn.results.toList (fun vs => K (retV vs) kb)) :
    ∃ v r, (results fn a.tmps).run P W = .ok v W ∧ Den σ E r v ∧ K r kb := by
  obtain ⟨vs, ys, h1, h2, h3⟩ := resK_ok hf hi h
  have hrun : (results fn a.tmps).run P W = .ok (if h : ys.toArray.size = 1 then ys.toArray[0] else .tuple ys.toArray) W := by
    unfold results
    rw [Sem.run_bind, Array.mapM_eq_mapM_toList]
    simp only [Sem.run_map]
    exact (congrArg (fun z => Result.andThen (Result.andThen z (fun (a : List Value) w' => Result.ok a.toArray w')) (fun (a : Array Value) w' => Sem.run P (pure (if h : a.size = 1 then a[0] else Value.tuple a)) w')) h3).trans rfl
  refine ⟨_, retV vs, hrun, ?_, h1⟩
  match vs, ys, h2 with
  | [v], ys, h2 =>
    simp only [DenL] at h2
    obtain ⟨x, xs', rfl, h4, rfl⟩ := h2
    exact h4
  | [], ys, h2 =>
    simp only [DenL] at h2
    subst h2
    simp [retV, Den, DenL]
  | v :: w :: vs, ys, h2 =>
    have hl := h2.len
    have : ¬ ys.toArray.size = 1 := by simp [hl]
    rw [dif_neg this]
    simp only [retV, Den]
    exact ⟨ys, rfl, h2⟩

theorem runFn_ok {P : Program} {X : CallT} (hX : CallOk P X) (hm : P.follows .mixedOrders = true) {T : Nat → Option LI} {f : FuncId} {args : List V} {kb : KB} {K : V → KB → Prop} (h : runFn P X T f args kb K) {σ : Sg} {E : EH} {W : World} {xs : List Value} (hi : Inv σ E kb W)
    (hd : DenL σ E args xs) : Calls P f xs.toArray W (fun e W' => ∃ v r σ' E' kb', e = .returned v ∧ Step σ E kb W σ' E' kb' W' ∧ Den σ' E' r v ∧ K r kb') := by
  unfold runFn at h
  split at h <;> try exact h.elim
  rename_i fn hfn
  split at h <;> try exact h.elim
  rename_i code hcode hb
  have hle := Nat.le_of_ble_eq_true hb
  rw [← hd.len] at hle
  rw [← hi.len] at h
  have hi0 := hi.strip
  have hd0 : DenL σ E.strip args xs := by
    have := DenL.cmono (τ := []) E.strip_cle hd
    rwa [List.append_nil] at this
  refine callsIn_wide.1 (callsIn_of_wp_marks (n := 0) hfn hcode trivial (wpIn_wide.2 (wp_mono (Q := fun e a w => match e with | .panic _ => False | e => bodyPostM Fence.wide 0 P fn (fun e W' => ∃ v r σ' E' kb', e = .returned v ∧ Step σ E kb W σ' E' kb' W' ∧ Den σ' E' r v ∧ K r kb') e a w) (runCode_ok hX hm (T := T) (c := ⟨σ, E.strip, kb, W⟩) (n := fn.ntmps) code (Q := fin P fn K) ⟨fun e a' W' hh => ?_, fun ch a a' w hp => ?_⟩ ?_) (fun e a w hq => ?_))))
  · obtain ⟨σ', E', fr', kb', hs, hf, hK⟩ := hh
    have key : resK P fr' kb' fn.results.toList (fun vs => K (retV vs) kb') → LeavesInM Fence.wide 0 P fn a'.tmps (fun e W' => ∃ v r σ' E' kb', e = .returned v ∧ Step σ E kb W σ' E' kb' W' ∧ Den σ' E' r v ∧ K r kb') a'.defers .returning W' := by
      intro hK
      refine leaves_marks a'.defers W' hf.defers.nodup (fun d hd => ?_) (fun W2 e1 e2 e3 e4 e5 => ?_)
      · obtain ⟨b, h1, h2⟩ := hf.defers.all d hd
        exact ⟨b, h1, hs.inv.imm b _ h2⟩
      · obtain ⟨E2, h1, h2⟩ := Step.unmark hi hs e1 e2 e3 e4 (M := fun b => { target := .collected b, args := #[] } ∈ a'.defers) (fun b hb => by
          obtain ⟨b', k1, k2⟩ := hf.defers.all _ hb
          cases k1; exact k2) (fun b hb => e5 b (fun d hd e => hb (e ▸ hd)))
        have hf2 : FrOk σ' E2 fr' fn.ntmps { a' with defers := [] } := ⟨hf.size, MkOk.nil _, fun t v hv => by
          obtain ⟨x, k1, k2⟩ := hf.get t v hv
          refine ⟨x, k1, ?_⟩
          have := Den.cmono (τ := []) h2 k2
          rwa [List.append_nil] at this⟩
        obtain ⟨v, r, k1, k2, k3⟩ := fin_results hf2 h1.inv hK
        exact ⟨v, k1, v, r, σ', E2, kb', rfl, h1, k2, k3⟩
    cases e with
    | normal => exact key hK
    | ret => exact key hK
    | exit id => exact hK.elim
    | goto l => exact hK.elim
    | panic ch => exact hK.elim
    | outgrown => exact hK.elim
  · exact hp
  rotate_left
  · cases e <;> first | exact hq | exact hq.elim
  · refine ⟨σ, E.strip, argFr 0 args, kb, Step.refl hi0, ⟨by simp; omega, MkOk.nil _, fun t v hv => ?_⟩, h⟩
    obtain ⟨x, _, h2, h3⟩ := look_arg 0 hd0 hv
    refine ⟨x, ?_, h3⟩
    have hlt : t < xs.length := by
      have := (List.getElem?_eq_some_iff.1 h2).1
      simpa using this
    rw [Array.getElem?_append_left (by simpa using hlt)]
    simpa using h2

/-- Calls, each walked through in its place, to a depth. -/
def callFn (P : Program) (T : FuncId → Nat → Option LI) : Nat → CallT
  | 0 => fun _ _ _ _ => False
  | d + 1 => fun f args kb K => runFn P (callFn P T d) (T f) f args kb K

theorem callFn_ok {P : Program} (hm : P.follows .mixedOrders = true) (T : FuncId → Nat → Option LI) : ∀ d, CallOk P (callFn P T d)
  | 0 => fun f args kb K h => h.elim
  | d + 1 => fun f args kb K h σ E W xs hi hd => runFn_ok (callFn_ok hm T d) hm h hi hd
end Vc
