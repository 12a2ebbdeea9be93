/- Loops' heads, results; rounds of a range over a function. -/
import Derived.Test.YtnglmhckcfnfaaaVdK
import Derived.Test.YtnglmhckcfnfaaaVdY
import Derived.Deep.LoopGhost
import Derived.Scope
import Derived.RangeFuncIn
import Derived.RangeFuncSeq
import Derived.OrdersIn
import Derived.TacticsIn
set_option linter.unusedSimpArgs false
set_option linter.unusedVariables false
namespace Vc
open Go

/-- What holds at a loop's head: which slots live, what they and our blocks are, by a number of the prover's own; and a measure. -/
inductive NilD where
  | slot (k : Nat) (ty : TypeId) (sz : Nat)
  | cell (i off : Nat) (ty : TypeId) (sz : Nat)
  /-- a field of the value at place k -/
  | fld (k off : Nat) (ty : TypeId) (sz : Nat)
  /-- nil is to be immutable data without elements: the value at place k, a field of it -/
  | slotD (k : Nat) (sz : Nat)
  | fldD (k off : Nat) (sz : Nat)
  | cellD (i off : Nat) (sz : Nat)
  /-- the row of the slice in this cell gets a new number, the latest -/
  | mv (i off : Nat)
  /-- likewise of the slice at place k -/
  | mvS (k : Nat)
  /-- the cells that the pointer at place k leads to are immutable from now on -/
  | ice (k : Nat)
  /-- block i is of no use any more -/
  | kill (i : Nat)
  /-- the map or block that this cell leads to gets a new number, the latest -/
  | mvP (i off : Nat)
/-- What leads to a block. -/
def reptr (n : Nat) : V → Option (Nat × V)
  | .mp j => some (j, .mp n)
  | .ptr j o => some (j, .ptr n o)
  | _ => none
structure LI where
  α : Type
  live : List Nat
  /-- where nil is to be an empty row -/
  nils : List NilD := []
  st : α → List V × KB
  μ : α → Nat
  /-- 'for all', case by case -/
  all : (α → Prop) → Prop := fun Q => ∀ i, Q i
  all_ok : ∀ Q, all Q → ∀ i, Q i := by exact fun _ h => h
  /-- the loops within, as they stand in this round -/
  sub : α → Nat → Option LI := fun _ _ => none
  /-- of a range over a function: the function's own loop, by the number of the range's record -/
  itl : Nat → Option LI := fun _ => none
/-- The loops that a round's body sees. -/
def subT (li : LI) (i : li.α) (T : Nat → Option LI) : Nat → Option LI := fun r => match li.sub i r with
  | some l => some l
  | none => T r

def firstReg : Code → Option Nat
  | .region id _ _ => some id
  | .seq a b => match firstReg a with | some i => some i | none => firstReg b
  | .block _ b => firstReg b
  | .loop b => firstReg b
  | .scope b => firstReg b
  | .cond _ a b => match firstReg a with | some i => some i | none => firstReg b
  | _ => none

def liveVals (fr : Fr) : List Nat → Option (List V)
  | [] => some []
  | t :: ts => match look fr t with
    | some v => match liveVals fr ts with | some vs => some (v :: vs) | none => none
    | none => none

/-- Cells as data. -/
def iceL : List V → Option (List D)
  | [] => some []
  | .int k n :: vs => match iceL vs with | some ds => some (.val (.int k n) :: ds) | none => none
  | .lit k n :: vs => match iceL vs with | some ds => some (.val (.int k n) :: ds) | none => none
  | .sb b :: vs => match iceL vs with | some ds => some (.val (.bool b) :: ds) | none => none
  | .dat d :: vs => match iceL vs with | some ds => some (d :: ds) | none => none
  | _ :: _ => none
theorem iceL_ok : ∀ {vs : List V} {ds : List D}, iceL vs = some ds → ∀ {σ : Sg} {E : EH} {xs : List Value}, DenC σ E vs xs → DenD E ds xs
  | [], ds, h, σ, E, xs, hd => by
    simp only [iceL, Option.some.injEq] at h
    subst h
    simp only [DenC] at hd
    subst hd
    exact DenD.nil
  | v :: vs, ds, h, σ, E, xs, hd => by
    obtain ⟨ys, zs, rfl, h1, h2⟩ := hd.uncons
    cases v <;> simp only [iceL, reduceCtorEq] at h
    all_goals
      split at h <;> try (cases h; done)
      rename_i ds' hds
      simp only [Option.some.injEq] at h
      subst h
      rcases h1 with ⟨y, rfl, h3, h4⟩ | ⟨m, cs, e, _, _⟩
      · refine DenD.cons ?_ (iceL_ok hds h2)
        simp only [Den] at h4
        first
        | exact h4
        | (subst h4; simp [RepD, Value.oneCell'])
      · cases e
/-- Cells of ours become immutable. -/
theorem Inv.freezeC {σ : Sg} {E : EH} {kb : KB} {W : World} (h : Inv σ E kb W) {i : Nat} {r : Re} {l : List V} {ds : List D} (hs : σ[i]? = some r) (hk : kb[i]? = some (.cells l)) (hc : iceL l = some ds) :
    ∃ E', Step σ E kb W σ E' (kb.set i .dead) W ∧ RepC E' ds r.blk 0 := by
  have hi : i < kb.length := (List.getElem?_eq_some_iff.1 hk).1
  have ho := h.obj i r _ hs hk
  let E' : EH := fun b => if b = r.blk then W.heap[b]? else E b
  have hle : E.le E' := fun b x hb => by
    show (if b = r.blk then W.heap[b]? else E b) = some x
    by_cases hc : b = r.blk
    · have := h.sep b ⟨i, r, _, hs, hk, hc⟩
      rw [this] at hb; cases hb
    · rw [if_neg hc]; exact hb
  have hget : ∀ (j : Nat) (x : KO), (kb.set i .dead)[j]? = some x → (j = i ∧ x = .dead) ∨ (j ≠ i ∧ kb[j]? = some x) := by
    intro j x hj
    by_cases hji : j = i
    · subst hji
      rw [List.getElem?_set_self hi] at hj
      exact .inl ⟨rfl, (Option.some.inj hj).symm⟩
    · rw [List.getElem?_set_ne (Ne.symm hji)] at hj
      exact .inr ⟨hji, hj⟩
  have hown : ∀ b, Owns σ (kb.set i .dead) b → Owns σ kb b ∧ ¬ b = r.blk := by
    rintro b ⟨j, r', x, h1, h2, h3⟩
    rcases hget j x h2 with ⟨rfl, rfl⟩ | ⟨hji, h4⟩
    · exact h3.elim
    · exact ⟨⟨j, r', x, h1, h4, h3⟩, fun hc => h.disj i j r r' _ x b (Ne.symm hji) hs hk h1 h4 hc h3⟩
  refine ⟨E', ⟨⟨by simp [h.len], fun j r' x h1 h2 => ?_, fun a c r1 r2 o1 o2 b hac h1 h2 h3 h4 h5 h6 => ?_, fun b x hb => ?_, fun b hb => ?_⟩, Stp.refl _ W, ⟨[], by simp⟩, hle, fun b hb => .inl (hown b hb).1, fun b x hb => ?_⟩, ?_⟩
  · rcases hget j x h2 with ⟨rfl, rfl⟩ | ⟨hji, h4⟩
    · trivial
    · have := (h.obj j r' x h1 h4).mono (τ := []) (W' := W) hle (fun b hb => rfl)
      simpa using this
  · rcases hget a o1 h2 with ⟨rfl, rfl⟩ | ⟨_, k2⟩
    · exact h5.elim
    rcases hget c o2 h4 with ⟨rfl, rfl⟩ | ⟨_, k4⟩
    · exact h6.elim
    exact h.disj a c r1 r2 o1 o2 b hac h1 k2 h3 k4 h5 h6
  · by_cases hc : b = r.blk
    · simp only [E', if_pos hc] at hb; exact hb
    · simp only [E', if_neg hc] at hb; exact h.imm b x hb
  · obtain ⟨h1, h2⟩ := hown b hb
    show (if b = r.blk then W.heap[b]? else E b) = none
    rw [if_neg h2]
    exact h.sep b h1
  · by_cases hc : b = r.blk
    · exact .inr (.inl ⟨i, r, _, hs, hk, hc⟩)
    · simp only [E', if_neg hc] at hb; exact .inl hb
  · obtain ⟨arr, ty, k1, k2⟩ := ho
    have k3 := iceL_ok hc k2
    refine (k3.mono hle).rep fun j x hj => ?_
    have e : E' r.blk = some (.cells arr ty (0, 0)) := by simp only [E', if_pos, k1]
    unfold EH.cell
    rw [e]
    simpa using hj
/-- A nil slice is an empty row of no room. -/
def nil1 : NilD → List V × KB → List V × KB
  | .slot k ty sz, (vs, kb) => match vs[k]? with
    | some (.any (.slice none 0 0)) => (vs.set k (.sl kb.length 0 0), kb ++ [KO.row ty sz []])
    | _ => (vs, kb)
  | .cell i off ty sz, (vs, kb) => match kb[i]? with
    | some (.cells l) => match pieceAt l off with
      | some (.any (.slice none 0 0)) => match spliceW l off [.sl kb.length 0 0] with
        | some l' => (vs, (kb ++ [KO.row ty sz []]).set i (KO.cells l'))
        | none => (vs, kb)
      | _ => (vs, kb)
    | _ => (vs, kb)
  | .fld k off ty sz, (vs, kb) => match vs[k]? with
    | some (.agg l) => match pieceAt l off with
      | some (.any (.slice none 0 0)) => match spliceW l off [.sl kb.length 0 0] with
        | some l' => (vs.set k (.agg l'), kb ++ [KO.row ty sz []])
        | none => (vs, kb)
      | _ => (vs, kb)
    | _ => (vs, kb)
  | .slotD k sz, (vs, kb) => match vs[k]? with
    | some (.any (.slice none 0 0)) => (vs.set k (.dat (.sl sz [])), kb)
    | _ => (vs, kb)
  | .fldD k off sz, (vs, kb) => match vs[k]? with
    | some (.agg l) => match pieceAt l off with
      | some (.any (.slice none 0 0)) => match spliceW l off [.dat (.sl sz [])] with
        | some l' => (vs.set k (.agg l'), kb)
        | none => (vs, kb)
      | _ => (vs, kb)
    | _ => (vs, kb)
  | .cellD i off sz, (vs, kb) => match kb[i]? with
    | some (.cells l) => match pieceAt l off with
      | some (.any (.slice none 0 0)) => match spliceW l off [.dat (.sl sz [])] with
        | some l' => (vs, kb.set i (KO.cells l'))
        | none => (vs, kb)
      | _ => (vs, kb)
    | _ => (vs, kb)
  | .mv i off, (vs, kb) => match kb[i]? with
    | some (.cells l) => match pieceAt l off with
      | some (.sl j lo hi) => match kb[j]? with
        | some (.row ty sz L) => match spliceW l off [.sl kb.length lo hi] with
          | some l' => (vs, (kb.set j .dead ++ [KO.row ty sz L]).set i (KO.cells l'))
          | none => (vs, kb)
        | _ => (vs, kb)
      | _ => (vs, kb)
    | _ => (vs, kb)
  | .mvS k, (vs, kb) => match vs[k]? with
    | some (.sl j lo hi) => match kb[j]? with
      | some (.row ty sz L) => (vs.set k (.sl kb.length lo hi), kb.set j .dead ++ [KO.row ty sz L])
      | _ => (vs, kb)
    | _ => (vs, kb)
  | .ice k, (vs, kb) => match vs[k]? with
    | some (.ptr i 0) => match kb[i]? with
      | some (.cells l) => match iceL l with
        | some ds => (vs.set k (.ipe ds 0), kb.set i .dead)
        | none => (vs, kb)
      | _ => (vs, kb)
    | _ => (vs, kb)
  | .kill i, (vs, kb) => match kb[i]? with
    | some _ => (vs, kb.set i .dead)
    | none => (vs, kb)
  | .mvP i off, (vs, kb) => match kb[i]? with
    | some (.cells l) => match pieceAt l off with
      | some v => match reptr kb.length v with
        | some (j, u) => match kb[j]? with
          | some o => match spliceW l off [u] with
            | some l' => if i = j then (vs, kb) else (vs, (kb.set j .dead ++ [o]).set i (KO.cells l'))
            | none => (vs, kb)
          | none => (vs, kb)
        | none => (vs, kb)
      | none => (vs, kb)
    | _ => (vs, kb)
def nilsK : List NilD → List V × KB → List V × KB
  | [], s => s
  | d :: ds, s => nilsK ds (nil1 d s)

theorem Inv.addNil {σ : Sg} {E : EH} {kb : KB} {W : World} (hi : Inv σ E kb W) (ty : TypeId) (sz : Nat) : Step σ E kb W (σ ++ [⟨0, 0, sz⟩]) E (kb ++ [.row ty sz []]) W :=
  hi.grow ⟨0, 0, sz⟩ (.row ty sz []) rfl rfl rfl (Nat.le_refl _) (fun _ _ => rfl) (fun b hb => absurd rfl hb.1) ⟨rfl, fun e he => (by cases he), Nat.le_refl _, Nat.zero_le _, .inl rfl⟩
theorem den_nil {σ : Sg} {E : EH} {kb : KB} (hl : σ.length = kb.length) (sz : Nat) : Den (σ ++ [⟨0, 0, sz⟩]) E (.sl kb.length 0 0) (.slice none 0 0) := by
  simp only [Den]
  exact ⟨⟨0, 0, sz⟩, none, by rw [← hl]; simp, rfl, Nat.le_refl _, Nat.le_refl _, fun h => absurd h (Nat.lt_irrefl _)⟩
theorem denL_turn {σ : Sg} {E : EH} {vs : List V} {xs : List Value} (h : DenL σ E vs xs) {k : Nat} {v u : V} {x : Value} (hv : vs[k]? = some v) (hx : ∀ y, Den σ E v y → y = x) (hu : Den σ E u x) : DenL σ E (vs.set k u) xs := by
  obtain ⟨y, h1, h2⟩ := h.get hv
  have := hx y h2
  subst this
  clear hx
  induction vs generalizing k xs with
  | nil => simp at hv
  | cons w vs ih =>
    simp only [DenL] at h
    obtain ⟨z, zs, rfl, h3, h4⟩ := h
    cases k with
    | zero =>
      simp at h1
      subst h1
      exact .cons hu h4
    | succ k => exact .cons h3 (ih h4 (by simpa using hv) (by simpa using h1))
theorem pieceAt_one {σ : Sg} {E : EH} {l : List V} {off : Nat} {v : V} (h : pieceAt l off = some v) (hna : ∀ m cs, v ≠ .arr m cs) {xs : List Value} (hd : DenC σ E l xs) : ∃ y, xs[off]? = some y ∧ y.oneCell' = true ∧ Den σ E v y := by
  unfold pieceAt at h
  split at h <;> try (cases h; done)
  rename_i v' r hr
  cases h
  obtain ⟨h1, h2⟩ := dropW_ok hr hd
  obtain ⟨ys, zs, e, h3, h4⟩ := h1.uncons
  rcases h3 with ⟨y, rfl, h5, hy⟩ | ⟨m, cs, e', _, _⟩
  · refine ⟨y, ?_, h5, hy⟩
    have := congrArg (fun z => z[0]?) e
    simpa using this
  · exact (hna _ _ e').elim
theorem denC_turn {σ : Sg} {E : EH} {l l' : List V} {xs : List Value} (h : DenC σ E l xs) {off : Nat} {v u : V} {x : Value} (hv : pieceAt l off = some v) (hna : ∀ m cs, v ≠ .arr m cs) (hx : ∀ y, Den σ E v y → y = x) (hu : Den σ E u x) (hl : spliceW l off [u] = some l') : DenC σ E l' xs := by
  obtain ⟨y, h1, h2, h3⟩ := pieceAt_one hv hna h
  have := hx y h3
  subst this
  obtain ⟨h4, h5⟩ := spliceW_ok hl h (.cons1 hu h2 .nil)
  have : splice xs off [y] = xs := by
    apply List.ext_getElem?
    intro j
    rw [get_splice (by omega)]
    split
    · rfl
    · split
      · rename_i c1 c2
        have : j = off := by simp at c2; omega
        subst this
        simp [h1]
      · rfl
  rwa [this] at h4

theorem denC_turnE {σ : Sg} {E : EH} {l l' : List V} {xs : List Value} (h : DenC σ E l xs) {off : Nat} {v u : V} (hv : pieceAt l off = some v) (hna : ∀ m cs, v ≠ .arr m cs) (hu : ∀ y, Den σ E v y → Den σ E u y) (hl : spliceW l off [u] = some l') : DenC σ E l' xs := by
  obtain ⟨y, h1, h2, h3⟩ := pieceAt_one hv hna h
  obtain ⟨h4, h5⟩ := spliceW_ok hl h (.cons1 (hu y h3) h2 .nil)
  have : splice xs off [y] = xs := by
    apply List.ext_getElem?
    intro j
    rw [get_splice (by omega)]
    split
    · rfl
    · split
      · rename_i c1 c2
        have : j = off := by simp at c2; omega
        subst this
        simp [h1]
      · rfl
  rwa [this] at h4

/-- A row gets a new number. -/
theorem Inv.moved {σ : Sg} {E : EH} {kb : KB} {W : World} (hi : Inv σ E kb W) {j : Nat} {ty : TypeId} {sz : Nat} {L : List (List D)} (hk : kb[j]? = some (.row ty sz L)) :
    ∃ r, σ[j]? = some r ∧ Step σ E kb W (σ ++ [r]) E (kb.set j .dead ++ [KO.row ty sz L]) W := by
  obtain ⟨r, hr⟩ : ∃ r, σ[j]? = some r := ⟨_, List.getElem?_eq_getElem (by rw [hi.len]; exact (List.getElem?_eq_some_iff.1 hk).1)⟩
  exact ⟨r, hr, hi.renew (W' := W) (r' := r) (o' := .row ty sz L) hr hk rfl rfl rfl (Nat.le_refl _) (fun _ _ _ => rfl) (fun b hb => .inl hb) ((hi.obj j r _ hr hk).mono (EH.le.refl E) (fun _ _ => rfl))⟩
theorem den_moved {σ : Sg} {E : EH} {kb : KB} (hl : σ.length = kb.length) {j lo hi : Nat} {r : Re} (hr : σ[j]? = some r) {y : Value} (hy : Den (σ ++ [r]) E (.sl j lo hi) y) : Den (σ ++ [r]) E (.sl kb.length lo hi) y := by
  simp only [Den] at hy ⊢
  obtain ⟨r', a, h1, h2⟩ := hy
  rw [sg_ext hr] at h1
  cases h1
  exact ⟨r, a, by rw [← hl]; simp, h2⟩

theorem Inv.movedO {σ : Sg} {E : EH} {kb : KB} {W : World} (hi : Inv σ E kb W) {j : Nat} {o : KO} (hk : kb[j]? = some o) :
    ∃ r, σ[j]? = some r ∧ Step σ E kb W (σ ++ [r]) E (kb.set j .dead ++ [o]) W := by
  obtain ⟨r, hr⟩ : ∃ r, σ[j]? = some r := ⟨_, List.getElem?_eq_getElem (by rw [hi.len]; exact (List.getElem?_eq_some_iff.1 hk).1)⟩
  exact ⟨r, hr, hi.renew (W' := W) (r' := r) (o' := o) hr hk rfl rfl rfl (Nat.le_refl _) (fun _ _ _ => rfl) (fun b hb => .inl hb) ((hi.obj j r _ hr hk).mono (EH.le.refl E) (fun _ _ => rfl))⟩
theorem reptr_ok {σ : Sg} {E : EH} {kb : KB} (hl : σ.length = kb.length) {j : Nat} {v u : V} (hv : reptr kb.length v = some (j, u)) {r : Re} (hr : σ[j]? = some r) {y : Value} (hy : Den (σ ++ [r]) E v y) : Den (σ ++ [r]) E u y := by
  have hn : (σ ++ [r])[kb.length]? = some r := by rw [← hl]; simp
  cases v <;> simp only [reptr, reduceCtorEq, Option.some.injEq, Prod.mk.injEq] at hv
  all_goals
    obtain ⟨rfl, rfl⟩ := hv
    simp only [Den] at hy ⊢
    obtain ⟨r', h1, h2⟩ := hy
    rw [sg_ext hr] at h1
    cases h1
    exact ⟨r, hn, h2⟩
theorem denL_turnE {σ : Sg} {E : EH} {vs : List V} {xs : List Value} (h : DenL σ E vs xs) {k : Nat} {v u : V} (hv : vs[k]? = some v) (hu : ∀ y, Den σ E v y → Den σ E u y) : DenL σ E (vs.set k u) xs := by
  obtain ⟨y, h1, h2⟩ := h.get hv
  have h3 := hu y h2
  clear hu h2
  induction vs generalizing k xs with
  | nil => simp at hv
  | cons w vs ih =>
    simp only [DenL] at h
    obtain ⟨z, zs, rfl, h4, h5⟩ := h
    cases k with
    | zero =>
      simp at h1
      subst h1
      exact .cons h3 h5
    | succ k => exact .cons h4 (ih h5 (by simpa using hv) (by simpa using h1))
theorem nil1_ok0 {c : Cx} {E : EH} {W : World} : ∀ (d : NilD) (_ : ∀ k, d ≠ .ice k) {σ : Sg} {vs : List V} {kb : KB} {xs : List Value}, Step c.σ c.E c.kb c.W σ E kb W → DenL σ E vs xs → ∃ σ', Step c.σ c.E c.kb c.W σ' E (nil1 d (vs, kb)).2 W ∧ DenL σ' E (nil1 d (vs, kb)).1 xs
  | .slot k ty sz, _, σ, vs, kb, xs, hs, hd => by
    simp only [nil1]
    split
    · rename_i hk
      have hst := hs.inv.addNil ty sz
      exact ⟨_, hs.trans hst, denL_turn (DenL.mono (EH.le.refl E) hd) hk (fun y hy => by simpa only [Den] using hy) (den_nil hs.inv.len sz)⟩
    · exact ⟨σ, hs, hd⟩
  | .cell i off ty sz, _, σ, vs, kb, xs, hs, hd => by
    simp only [nil1]
    split
    · rename_i l hl
      split
      · rename_i hk
        split
        · rename_i l' hl'
          have hst := hs.inv.addNil ty sz
          have hi2 := hst.inv
          have hlt : i < kb.length := (List.getElem?_eq_some_iff.1 hl).1
          have hkb : (kb ++ [KO.row ty sz []])[i]? = some (.cells l) := by rw [List.getElem?_append_left hlt]; exact hl
          obtain ⟨r, hr⟩ : ∃ r, (σ ++ [⟨0, 0, sz⟩])[i]? = some r := ⟨_, List.getElem?_eq_getElem (by rw [hi2.len]; simp; omega)⟩
          obtain ⟨arr, ty', h1, h2⟩ := hi2.obj i r _ hr hkb
          have hset := hi2.set (o' := .cells l') hr hkb rfl rfl rfl rfl (fun _ _ => rfl) (fun b hb => hb) ⟨arr, ty', h1, denC_turn h2 hk (fun _ _ h => by cases h) (fun y hy => by simpa only [Den] using hy) (den_nil hs.inv.len sz) hl'⟩
          exact ⟨_, hs.trans (hst.trans hset), DenL.mono (EH.le.refl E) hd⟩
        · exact ⟨σ, hs, hd⟩
      · exact ⟨σ, hs, hd⟩
    · exact ⟨σ, hs, hd⟩
  | .fld k off ty sz, _, σ, vs, kb, xs, hs, hd => by
    simp only [nil1]
    split
    · rename_i l hk
      split
      · rename_i hp
        split
        · rename_i l' hl'
          have hst := hs.inv.addNil ty sz
          refine ⟨_, hs.trans hst, denL_turnE (DenL.mono (EH.le.refl E) hd) hk fun y hy => ?_⟩
          simp only [Den] at hy ⊢
          obtain ⟨zs, rfl, hz⟩ := hy
          exact ⟨zs, rfl, denC_turn hz hp (fun _ _ h => by cases h) (fun y hy => by simpa only [Den] using hy) (den_nil hs.inv.len sz) hl'⟩
        · exact ⟨σ, hs, hd⟩
      · exact ⟨σ, hs, hd⟩
    · exact ⟨σ, hs, hd⟩
  | .slotD k sz, _, σ, vs, kb, xs, hs, hd => by
    simp only [nil1]
    split
    · rename_i hk
      exact ⟨_, hs, denL_turn hd hk (fun y hy => by simpa only [Den] using hy) (by simp only [Den]; exact ⟨none, 0, rfl, Nat.le_refl _, .inl rfl⟩)⟩
    · exact ⟨σ, hs, hd⟩
  | .fldD k off sz, _, σ, vs, kb, xs, hs, hd => by
    simp only [nil1]
    split
    · rename_i l hk
      split
      · rename_i hp
        split
        · rename_i l' hl'
          refine ⟨_, hs, denL_turnE hd hk fun y hy => ?_⟩
          simp only [Den] at hy ⊢
          obtain ⟨zs, rfl, hz⟩ := hy
          exact ⟨zs, rfl, denC_turn hz hp (fun _ _ h => by cases h) (fun y hy => by simpa only [Den] using hy) (by simp only [Den]; exact ⟨none, 0, rfl, Nat.le_refl _, .inl rfl⟩) hl'⟩
        · exact ⟨σ, hs, hd⟩
      · exact ⟨σ, hs, hd⟩
    · exact ⟨σ, hs, hd⟩
  | .cellD i off sz, _, σ, vs, kb, xs, hs, hd => by
    simp only [nil1]
    split
    · rename_i l hl
      split
      · rename_i hk
        split
        · rename_i l' hl'
          have hi2 := hs.inv
          obtain ⟨r, hr⟩ : ∃ r, σ[i]? = some r := ⟨_, List.getElem?_eq_getElem (by rw [hi2.len]; exact (List.getElem?_eq_some_iff.1 hl).1)⟩
          obtain ⟨arr, ty', h1, h2⟩ := hi2.obj i r _ hr hl
          have hset := hi2.set (o' := .cells l') hr hl rfl rfl rfl rfl (fun _ _ => rfl) (fun b hb => hb) ⟨arr, ty', h1, denC_turn h2 hk (fun _ _ h => by cases h) (fun y hy => by simpa only [Den] using hy) (by simp only [Den]; exact ⟨none, 0, rfl, Nat.le_refl _, .inl rfl⟩) hl'⟩
          exact ⟨_, hs.trans hset, hd⟩
        · exact ⟨σ, hs, hd⟩
      · exact ⟨σ, hs, hd⟩
    · exact ⟨σ, hs, hd⟩
  | .mv i off, _, σ, vs, kb, xs, hs, hd => by
    simp only [nil1]
    split
    · rename_i l hl
      split
      · rename_i j lo hi hk
        split
        · rename_i ty sz L hj
          split
          · rename_i l' hl'
            obtain ⟨r, hr, hst⟩ := hs.inv.moved hj
            have hi2 := hst.inv
            have hne : i ≠ j := fun e => by subst e; rw [hl] at hj; cases hj
            have hlt : i < kb.length := (List.getElem?_eq_some_iff.1 hl).1
            have hkb : (kb.set j .dead ++ [KO.row ty sz L])[i]? = some (.cells l) := by
              rw [List.getElem?_append_left (by simpa using hlt), List.getElem?_set_ne (Ne.symm hne)]; exact hl
            obtain ⟨ri, hri⟩ : ∃ ri, (σ ++ [r])[i]? = some ri := ⟨_, List.getElem?_eq_getElem (by rw [hi2.len]; simp; omega)⟩
            obtain ⟨arr, ty', h1, h2⟩ := hi2.obj i ri _ hri hkb
            have hset := hi2.set (o' := .cells l') hri hkb rfl rfl rfl rfl (fun _ _ => rfl) (fun b hb => hb) ⟨arr, ty', h1, denC_turnE h2 hk (fun _ _ h => by cases h) (fun y hy => den_moved hs.inv.len hr hy) hl'⟩
            exact ⟨_, hs.trans (hst.trans hset), DenL.mono (EH.le.refl E) hd⟩
          · exact ⟨σ, hs, hd⟩
        · exact ⟨σ, hs, hd⟩
      · exact ⟨σ, hs, hd⟩
    · exact ⟨σ, hs, hd⟩
  | .mvS k, _, σ, vs, kb, xs, hs, hd => by
    simp only [nil1]
    split
    · rename_i j lo hi hk
      split
      · rename_i ty sz L hj
        obtain ⟨r, hr, hst⟩ := hs.inv.moved hj
        exact ⟨_, hs.trans hst, denL_turnE (DenL.mono (EH.le.refl E) hd) hk (fun y hy => den_moved hs.inv.len hr hy)⟩
      · exact ⟨σ, hs, hd⟩
    · exact ⟨σ, hs, hd⟩
  | .mvP i off, _, σ, vs, kb, xs, hs, hd => by
    simp only [nil1]
    split
    · rename_i l hl
      split
      · rename_i v hk
        split
        · rename_i j u hu
          split
          · rename_i o hj
            split
            · rename_i l' hl'
              split
              · exact ⟨σ, hs, hd⟩
              · rename_i hne
                obtain ⟨r, hr, hst⟩ := hs.inv.movedO hj
                have hi2 := hst.inv
                have hlt : i < kb.length := (List.getElem?_eq_some_iff.1 hl).1
                have hkb : (kb.set j .dead ++ [o])[i]? = some (.cells l) := by
                  rw [List.getElem?_append_left (by simpa using hlt), List.getElem?_set_ne (Ne.symm hne)]; exact hl
                obtain ⟨ri, hri⟩ : ∃ ri, (σ ++ [r])[i]? = some ri := ⟨_, List.getElem?_eq_getElem (by rw [hi2.len]; simp; omega)⟩
                obtain ⟨arr, ty', h1, h2⟩ := hi2.obj i ri _ hri hkb
                have hna : ∀ m cs, v ≠ .arr m cs := fun m cs e => by subst e; simp [reptr] at hu
                have hset := hi2.set (o' := .cells l') hri hkb rfl rfl rfl rfl (fun _ _ => rfl) (fun b hb => hb) ⟨arr, ty', h1, denC_turnE h2 hk hna (fun y hy => reptr_ok hs.inv.len hu hr hy) hl'⟩
                exact ⟨_, hs.trans (hst.trans hset), DenL.mono (EH.le.refl E) hd⟩
            · exact ⟨σ, hs, hd⟩
          · exact ⟨σ, hs, hd⟩
        · exact ⟨σ, hs, hd⟩
      · exact ⟨σ, hs, hd⟩
    · exact ⟨σ, hs, hd⟩
  | .ice k, hno, _, _, _, _, _, _ => absurd rfl (hno k)
  | .kill i, _, σ, vs, kb, xs, hs, hd => by
    simp only [nil1]
    split
    · rename_i o ho
      have hi2 := hs.inv
      obtain ⟨r, hr⟩ : ∃ r, σ[i]? = some r := ⟨_, List.getElem?_eq_getElem (by rw [hi2.len]; exact (List.getElem?_eq_some_iff.1 ho).1)⟩
      have hset := hi2.set (o' := .dead) hr ho rfl rfl rfl rfl (fun _ _ => rfl) (fun b hb => hb.elim) trivial
      exact ⟨_, hs.trans hset, hd⟩
    · exact ⟨σ, hs, hd⟩
theorem nil1_ok {c : Cx} {E : EH} {W : World} : ∀ (d : NilD) {σ : Sg} {vs : List V} {kb : KB} {xs : List Value}, Step c.σ c.E c.kb c.W σ E kb W → DenL σ E vs xs → ∃ σ' E', Step c.σ c.E c.kb c.W σ' E' (nil1 d (vs, kb)).2 W ∧ DenL σ' E' (nil1 d (vs, kb)).1 xs ∧ E.le E' := fun d σ vs kb xs hs hd => by
  by_cases hd0 : ∃ k, d = .ice k
  · obtain ⟨k, rfl⟩ := hd0
    simp only [nil1]
    split
    · rename_i i hk
      split
      · rename_i l hl
        split
        · rename_i ds hds
          have hi2 := hs.inv
          obtain ⟨r, hr⟩ : ∃ r, σ[i]? = some r := ⟨_, List.getElem?_eq_getElem (by rw [hi2.len]; exact (List.getElem?_eq_some_iff.1 hl).1)⟩
          obtain ⟨E', hst, hrep⟩ := hi2.freezeC hr hl hds
          have hd' := DenL.mono (τ := []) hst.le hd
          rw [List.append_nil] at hd'
          refine ⟨σ, E', hs.trans hst, denL_turnE hd' hk (fun y hy => ?_), hst.le⟩
          simp only [Den] at hy ⊢
          obtain ⟨r', h1, rfl⟩ := hy
          rw [hr] at h1; cases h1
          exact ⟨r.blk, 0, rfl, hrep⟩
        · exact ⟨σ, E, hs, hd, EH.le.refl E⟩
      · exact ⟨σ, E, hs, hd, EH.le.refl E⟩
    · exact ⟨σ, E, hs, hd, EH.le.refl E⟩
  · obtain ⟨σ', h1, h2⟩ := nil1_ok0 d (fun k e => hd0 ⟨k, e⟩) hs hd
    exact ⟨σ', E, h1, h2, EH.le.refl E⟩
theorem nilsK_ok {c : Cx} {W : World} : ∀ (ds : List NilD) {E : EH} {σ : Sg} {s : List V × KB} {xs : List Value}, Step c.σ c.E c.kb c.W σ E s.2 W → DenL σ E s.1 xs → ∃ σ' E', Step c.σ c.E c.kb c.W σ' E' (nilsK ds s).2 W ∧ DenL σ' E' (nilsK ds s).1 xs ∧ E.le E'
  | [], E, σ, s, xs, hs, hd => ⟨σ, E, hs, hd, EH.le.refl E⟩
  | d :: ds, E, σ, s, xs, hs, hd => by
    obtain ⟨σ', E', h1, h2, h3⟩ := nil1_ok d hs hd
    obtain ⟨σ2, E2, h4, h5, h6⟩ := nilsK_ok ds h1 h2
    exact ⟨σ2, E2, h4, h5, h3.trans h6⟩

/-- A state is one of a loop's. -/
structure At (li : LI) (s : List V × KB) : Prop where
  has : ∃ i, s = li.st i
/-- A state is one of a loop's, of a smaller measure. -/
structure Nx (li : LI) (i : li.α) (s : List V × KB) : Prop where
  has : ∃ j, s = li.st j ∧ li.μ j < li.μ i
theorem At.mk' {li : LI} {s : List V × KB} (i : li.α) (h : s = li.st i) : At li s := ⟨i, h⟩
theorem Nx.mk' {li : LI} {i : li.α} {s : List V × KB} (j : li.α) (h : s = li.st j) (k : li.μ j < li.μ i) : Nx li i s := ⟨j, h, k⟩
/-- The state is that of a loop's head. -/
def atHead (n0 : Nat) (nils : List NilD) (live : List Nat) (fr : Fr) (kb : KB) (R : List V × KB → Prop) : Prop :=
  match liveVals fr live with
  | some vals => match canon n0 vals kb with
    | some (vs, kb', _) => match nils with
      | [] => R (vs, kb')
      | d :: ds => match canon n0 (nilsK (d :: ds) (vs, kb')).1 (nilsK (d :: ds) (vs, kb')).2 with
        | some (vs2, kb2, _) => R (vs2, kb2)
        | none => False
    | none => False
  | none => False

/-- A loop, round by round. -/
def iter (R : (Exit → Fr → KB → Prop) → Fr → KB → Prop) (Q : Exit → Fr → KB → Prop) : Nat → Fr → KB → Prop
  | 0, _, _ => False
  | m + 1, fr, kb => R (fun e fr kb => match e with | .normal => iter R Q m fr kb | e => Q e fr kb) fr kb

structure QOk (c : Cx) (n : Nat) (Q : Exit → Fr → KB → Prop) (Q' : Exit → Act → World → Prop) : Prop where
  hat : ∀ e a W, Hat c n (Q e) a W → Q' e a W
  pan : ∀ ch a a' w, Q' (.panic ch) a w → Q' (.panic ch) a' w

theorem liveVals_ok {σ : Sg} {E : EH} {fr : Fr} {n : Nat} {a : Act} (h : FrOk σ E fr n a) : ∀ {live : List Nat} {vals : List V}, liveVals fr live = some vals → ∃ xs : List Value, DenL σ E vals xs ∧ xs.length = live.length ∧ ∀ (k t : Nat) (x : Value), live[k]? = some t → xs[k]? = some x → a.tmps[t]? = some x
  | [], vals, hv => by simp only [liveVals, Option.some.injEq] at hv; subst hv; exact ⟨[], .nil, rfl, by simp⟩
  | t :: ts, vals, hv => by
    simp only [liveVals] at hv
    split at hv <;> try (cases hv; done)
    rename_i v hl
    split at hv <;> try (cases hv; done)
    rename_i vs hvs
    cases hv
    obtain ⟨x, h1, h2⟩ := h.get t v hl
    obtain ⟨xs, h3, h4, h5⟩ := liveVals_ok h hvs
    refine ⟨x :: xs, .cons h2 h3, by simp [h4], fun k u y hk hy => ?_⟩
    cases k with
    | zero => simp at hk hy; subst hk; subst hy; exact h1
    | succ k => exact h5 k u y (by simpa using hk) (by simpa using hy)

theorem look_zip {σ : Sg} {E : EH} : ∀ {live : List Nat} {vs : List V} {xs : List Value}, DenL σ E vs xs → ∀ {t : Nat} {v : V}, look (live.zip vs) t = some v → ∃ (k : Nat) (x : Value), live[k]? = some t ∧ xs[k]? = some x ∧ Den σ E v x
  | [], _, _, _, t, v, h => by simp [look] at h
  | u :: live, [], _, _, t, v, h => by simp [look] at h
  | u :: live, w :: vs, xs, hd, t, v, h => by
    simp only [DenL] at hd
    obtain ⟨x, xs', rfl, h1, h2⟩ := hd
    simp only [List.zip_cons_cons, look] at h
    split at h
    · rename_i hb
      have := Nat.eq_of_beq_eq_true hb
      subst this
      cases h
      exact ⟨0, x, rfl, rfl, h1⟩
    · obtain ⟨k, y, k1, k2, k3⟩ := look_zip h2 h
      exact ⟨k + 1, y, by simpa using k1, by simpa using k2, k3⟩

theorem atHead_ok {c : Cx} {nils : List NilD} {live : List Nat} {fr : Fr} {kb : KB} {R : List V × KB → Prop} (h : atHead c.σ.length nils live fr kb R) {σ : Sg} {E : EH} {n : Nat} {a : Act} {W : World} (hs : Step c.σ c.E c.kb c.W σ E kb W) (hf : FrOk σ E fr n a) :
    ∃ s, R s ∧ Hat c n (fun fr' kb' => fr' = live.zip s.1 ∧ kb' = s.2) a W := by
  unfold atHead at h
  split at h <;> try exact h.elim
  rename_i vals hvals
  split at h <;> try exact h.elim
  rename_i vs kb' o hc
  obtain ⟨xs, h1, h2, h3⟩ := liveVals_ok hf hvals
  obtain ⟨σ', h4, h5⟩ := hs.sel hc h1
  split at h
  · refine ⟨(vs, kb'), h, σ', E, live.zip vs, kb', h4, ⟨hf.size, hf.defers, fun t v hv => ?_⟩, rfl, rfl⟩
    obtain ⟨k, x, k1, k2, k3⟩ := look_zip h5 hv
    exact ⟨x, h3 k t x k1 k2, k3⟩
  · rename_i d ds
    split at h <;> try exact h.elim
    rename_i vs2 kb2 o2 hc2
    obtain ⟨σ2, E2, h6, h7, hE2⟩ := nilsK_ok (c := c) (d :: ds) (s := (vs, kb')) h4 h5
    obtain ⟨σ3, h8, h9⟩ := h6.sel hc2 h7
    refine ⟨(vs2, kb2), h, σ3, E2, live.zip vs2, kb2, h8, ⟨hf.size, hf.defers.mono hE2, fun t v hv => ?_⟩, rfl, rfl⟩
    obtain ⟨k, x, k1, k2, k3⟩ := look_zip h9 hv
    exact ⟨x, h3 k t x k1 k2, k3⟩

/-- The wide fence, in a round or in none. -/
abbrev FW (r : Option Nat) : Fence := { Fence.wide with round := r }
theorem calls_in {r : Option Nat} {n : Nat} {P : Program} {f : FuncId} {args : Array Value} {w : World} {R : Ending → World → Prop} (h : Calls P f args w R) : CallsIn (FW r) n P f args w R :=
  (callsIn_wide (n := n)).2 h
theorem rows_in {r : Option Nat} {n : Nat} {P : Program} {row : String} {args : Array Value} {w : World} {R : Value → World → Prop} (h : Rows P row args w R) : RowsIn (FW r) n P row args w R :=
  fun c cs _ => let ⟨v, w', q, s⟩ := h c cs; ⟨v, w', q, (stepsIn_wide (P := P)).2 s⟩
theorem op_in {r : Option Nat} {n : Nat} {P : Program} {o : Oper} {a : Act} {w : World} {next : Act → World → Prop} {Q : Exit → Act → World → Prop} (hnd : ∀ c, o.op ≠ .defer c) (h : o.wp P a w next Q) : o.wpIn (FW r) n P a w next Q := by
  refine ⟨fun _ _ => trivial, ?_⟩
  show o.uponIn (FW r) n P a next Q ((o.semAt r a.eval).run P w)
  rw [Oper.semAt_eq r a.eval o hnd]
  unfold Oper.wp at h
  generalize (execOp a.eval o).run P w = res at h
  cases res with
  | ok x w' =>
    cases x with
    | value v => exact h
    | skip => exact h
    | defer d => exact h
    | enter f args => exact ⟨fun q => (by cases q), calls_in h⟩
    | row row args => exact ⟨fun q => (by cases q), rows_in h⟩
    | round l f tmps assign body => exact h.elim
    | _ => exact h.elim
  | halt x w' =>
    cases x with
    | panic v => exact h
    | _ => exact h.elim
def noDefer (ops : Array Oper) : Bool := ops.toList.all fun o => match o.op with | .defer _ => false | _ => true
theorem noDefer_ok {ops : Array Oper} (h : noDefer ops = true) : ∀ o ∈ ops.toList, ∀ c, o.op ≠ .defer c := fun o ho c e => by
  have := List.all_eq_true.1 h o ho
  rw [e] at this
  cases this
theorem list_in {r : Option Nat} {n : Nat} {P : Program} {ops : Array Oper} {Q : Exit → Act → World → Prop} (hout : ¬ LetsOut Q) : ∀ {l : List Oper}, (∀ o ∈ l, ∀ c, o.op ≠ .defer c) → ∀ {a : Act} {w : World}, wpList P ops Q l a w → wpListIn (FW r) n P ops Q l a w
  | [], _, a, w, h => h
  | o :: l, hl, a, w, h => by
    have ih : ∀ a w, wpList P ops Q l a w → wpListIn (FW r) n P ops Q l a w := fun a w => list_in hout (fun o ho => hl o (List.mem_cons_of_mem _ ho))
    simp only [wpList] at h
    simp only [wpListIn]
    split
    · rename_i hw
      rw [if_pos hw] at h
      rcases h with h | ⟨_, h⟩
      · exact Oper.wpIn_mono ih (op_in (hl o List.mem_cons_self) h)
      · exact absurd h hout
    · rename_i hw
      rw [if_neg hw] at h
      exact ⟨fun _ _ => trivial, ih _ _ h⟩
theorem opI_in {r : Option Nat} {n : Nat} {P : Program} {ops : Array Oper} {Q : Exit → Act → World → Prop} (hout : ¬ LetsOut Q) (hd : ∀ o ∈ ops.toList, ∀ c, o.op ≠ .defer c) {i : Nat} {K K' : Act → World → Prop} (hK : ∀ a w, K a w → K' a w) {a : Act} {w : World} (h : wpOp P ops Q i K a w) : wpOpIn (FW r) n P ops Q i K' a w := by
  unfold wpOp at h
  unfold wpOpIn
  split at h
  · rename_i ho; rw [ho]; exact hK _ _ h
  · rename_i o ho
    rw [ho]
    have hm : o ∈ ops.toList := by
      obtain ⟨hlt, rfl⟩ := Array.getElem?_eq_some_iff.1 ho
      simp
    simp only
    split
    · rename_i hw
      rw [if_pos hw] at h
      rcases h with h | ⟨_, h⟩
      · exact Oper.wpIn_mono hK (op_in (hd o hm) h)
      · exact absurd h hout
    · rename_i hw
      rw [if_neg hw] at h
      exact ⟨fun _ _ => trivial, hK _ _ h⟩
theorem any_in {r : Option Nat} {n : Nat} {P : Program} {md : Region.Mode} {ops : Array Oper} {Q : Exit → Act → World → Prop} (hout : ¬ LetsOut Q) (hd : ∀ o ∈ ops.toList, ∀ c, o.op ≠ .defer c) : ∀ {fuel : Nat} {listed : Array Bool} {a : Act} {w : World}, wpAny P md ops Q fuel listed a w → wpAnyIn (FW r) n P md ops Q fuel listed a w
  | 0, listed, a, w, h => h
  | fuel + 1, listed, a, w, h => ⟨h.1, fun i hi => opI_in hout hd (fun a w h => any_in hout hd h) (h.2 i hi)⟩

/-! ### Functions -/
def resK (P : Program) (fr : Fr) (kb : KB) : List ResultVar → (List V → Prop) → Prop
  | [], K => K []
  | .tmp t :: rs, K => match look fr t with | some v => resK P fr kb rs (fun vs => K (v :: vs)) | none => False
  | .cell t ty :: rs, K => match look fr t with | some ad => loadK P ty ad kb (fun v => resK P fr kb rs (fun vs => K (v :: vs))) | none => False

def retV : List V → V
  | [v] => v
  | vs => .tup vs

def fin (P : Program) (fn : Func) (K : V → KB → Prop) : Exit → Fr → KB → Prop
  | .normal, fr, kb => resK P fr kb fn.results.toList (fun vs => K (retV vs) kb)
  | .ret, fr, kb => resK P fr kb fn.results.toList (fun vs => K (retV vs) kb)
  | _, _, _ => False

theorem resK_ok {P : Program} {fr : Fr} {kb : KB} {σ : Sg} {E : EH} {n : Nat} {a : Act} (hf : FrOk σ E fr n a) {W : World} (hi : Inv σ E kb W) : ∀ {rs : List ResultVar} {K : List V → Prop}, resK P fr kb rs K →
    ∃ vs xs, K vs ∧ DenL σ E vs xs ∧ (rs.mapM (m := Sem) fun | .tmp t => pure (a.tmps.getD t undef) | .cell t ty => do loadVar ty (← asAddr (a.tmps.getD t undef))).run P W = .ok xs W
  | [], K, h => ⟨[], [], h, .nil, by simp⟩
  | .tmp t :: rs, K, h => by
    simp only [resK] at h
    split at h <;> try exact h.elim
    rename_i v hv
    obtain ⟨x, h1, h2⟩ := hf.get t v hv
    obtain ⟨vs, xs, h3, h4, h5⟩ := resK_ok hf hi h
    refine ⟨_, x :: xs, h3, .cons h2 h4, ?_⟩
    rw [List.mapM_cons, Sem.run_bind, Sem.run_pure, Result.andThen_ok, Sem.run_bind, h5, Result.andThen_ok]
    simp [Array.getD_eq_getD_getElem?, h1]
  | .cell t ty :: rs, K, h => by
    simp only [resK] at h
    split at h <;> try exact h.elim
    rename_i ad had
    obtain ⟨x, h1, h2⟩ := hf.get t ad had
    obtain ⟨v, y, h6, h7, h8⟩ := loadK_ok h hi h2
    obtain ⟨vs, xs, h3, h4, h5⟩ := resK_ok hf hi h8
    refine ⟨_, y :: xs, h3, .cons h7 h4, ?_⟩
    have hx : a.tmps.getD t undef = x := by simp [Array.getD_eq_getD_getElem?, h1]
    have hload : (do loadVar ty (← asAddr x) : Sem Value).run P W = .ok y W := by
      unfold Instr.loadAt at h6
      cases x with
      | pointer p => cases p with
        | some p => simpa [Instr.sureAddr, asAddr] using h6
        | none => simp [Instr.sureAddr] at h6
      | _ => simp [Instr.sureAddr] at h6
    rw [List.mapM_cons, Sem.run_bind]
    simp only [hx]
    rw [hload, Result.andThen_ok, Sem.run_bind, h5, Result.andThen_ok]
    simp

def argFr : Nat → List V → Fr
  | _, [] => []
  | k, v :: vs => (k, v) :: argFr (k + 1) vs

theorem look_arg {σ : Sg} {E : EH} : ∀ {vs : List V} {xs : List Value} (k : Nat), DenL σ E vs xs → ∀ {t : Nat} {v : V}, look (argFr k vs) t = some v → ∃ x, k ≤ t ∧ xs[t - k]? = some x ∧ Den σ E v x
  | [], _, k, _, t, v, h => by simp [argFr, look] at h
  | w :: vs, xs, k, hd, t, v, h => by
    simp only [DenL] at hd
    obtain ⟨x, xs', rfl, h1, h2⟩ := hd
    simp only [argFr, look] at h
    split at h
    · rename_i hb
      have := Nat.eq_of_beq_eq_true hb
      subst this
      cases h
      exact ⟨x, Nat.le_refl _, by simp, h1⟩
    · obtain ⟨y, h3, h4, h5⟩ := look_arg (k + 1) h2 h
      exact ⟨y, by omega, by rw [show t - k = (t - (k + 1)) + 1 by omega]; simpa using h4, h5⟩

/-- A function, walked through. -/
theorem fin_results {P : Program} {fn : Func} {fr : Fr} {kb : KB} {K : V → KB → Prop} {σ : Sg} {E : EH} {n : Nat} {a : Act} {W : World} (hf : FrOk σ E fr n a) (hi : Inv σ E kb W) (h : resK P fr kb fn.results.toList (fun vs => K (retV vs) kb)) :
    ∃ v r, (results fn a.tmps).run P W = .ok v W ∧ Den σ E r v ∧ K r kb := by
  obtain ⟨vs, ys, h1, h2, h3⟩ := resK_ok hf hi h
  have hrun : (results fn a.tmps).run P W = .ok (if h : ys.toArray.size = 1 then ys.toArray[0] else .tuple ys.toArray) W := by
    unfold results
    rw [Sem.run_bind, Array.mapM_eq_mapM_toList]
    simp only [Sem.run_map]
    exact (congrArg (fun z => Result.andThen (Result.andThen z (fun (a : List Value) w' => Result.ok a.toArray w')) (fun (a : Array Value) w' => Sem.run P (pure (if h : a.size = 1 then a[0] else Value.tuple a)) w')) h3).trans rfl
  refine ⟨_, retV vs, hrun, ?_, h1⟩
  match vs, ys, h2 with
  | [v], ys, h2 =>
    simp only [DenL] at h2
    obtain ⟨x, xs', rfl, h4, rfl⟩ := h2
    exact h4
  | [], ys, h2 =>
    simp only [DenL] at h2
    subst h2
    simp [retV, Den, DenL]
  | v :: w :: vs, ys, h2 =>
    have hl := h2.len
    have : ¬ ys.toArray.size = 1 := by simp [hl]
    rw [dif_neg this]
    simp only [retV, Den]
    exact ⟨ys, rfl, h2⟩
/-! ### Rounds -/
theorem exec_yield {P : Program} {o : Oper} {g : Operand} {args : Array Operand} {ats : Array TypeId} (ho : o.op = .call { callee := .value g, args := args, argTypes := ats }) {a : Act} {W : World} {l : Nat} (hg : a.eval g = .func (.yield l) #[] #[]) :
    (execOp a.eval o).run P W = (Instr.yield l (args.map a.eval)).run P W := by
  have e : execOp a.eval o = (do let d ← resolve a.eval { callee := .value g, args := args, argTypes := ats } o.type; invoke d.target d.args) := by unfold execOp; rw [ho]
  have r : resolve a.eval { callee := .value g, args := args, argTypes := ats } o.type = pure { target := .fn (.yield l) #[], args := args.map a.eval } := by
    unfold resolve
    simp only [hg, Deferred.ofValue, Array.empty_append]
  rw [e, r, Sem.run_bind]
  simp [invoke, Result.andThen]
/-- Code that stands in a round. -/
def runCodeR (P : Program) (X : CallT) (n : Nat) : Code → (Exit → Fr → KB → Prop) → Fr → KB → Prop
  | .skip, Q, fr, kb => Q .normal fr kb
  | .label _, Q, fr, kb => Q .normal fr kb
  | .region _ ops false, Q, fr, kb => match Region.noSelect ops, noDefer ops with
    | true, true => seqK P X n ops ops.toList (Q .normal) fr kb
    | _, _ => False
  | .region _ ops true, Q, fr, kb => match Region.noSelect ops, edgesB ops, noDefer ops with
    | true, true, true => drawK P X n ops (planOf P ops 0 ops.size) ops.size 0 [] (Q .normal) fr kb
    | _, _, _ => False
  | .seq x y, Q, fr, kb => runCodeR P X n x (fun e fr kb => match e with | .normal => runCodeR P X n y Q fr kb | e => Q e fr kb) fr kb
  | .cond c x y, Q, fr, kb => match ev fr c with
    | some .tt => runCodeR P X n x Q fr kb
    | some .ff => runCodeR P X n y Q fr kb
    | some (.sb b) => (b = true → runCodeR P X n x Q fr kb) ∧ (b = false → runCodeR P X n y Q fr kb)
    | _ => False
  | .block id x, Q, fr, kb => runCodeR P X n x (fun e fr kb => match e with
    | .exit i => match Nat.beq i id with | true => Q .normal fr kb | false => Q (.exit i) fr kb
    | e => Q e fr kb) fr kb
  | .exit id, Q, fr, kb => Q (.exit id) fr kb
  | _, _, _, _ => False
theorem runCodeR_ok {P : Program} {X : CallT} (hX : CallOk P X) (hm : P.follows .mixedOrders = true) {c : Cx} {n : Nat} {r : Option Nat} : ∀ (code : Code) {Q : Exit → Fr → KB → Prop} {Q' : Exit → Act → World → Prop}, QOk c n Q Q' → ¬ LetsOut Q' → ∀ {a : Act} {W : World},
    Hat c n (runCodeR P X n code Q) a W → code.wpIn (FW r) 0 P Q' a W
  | .skip, Q, Q', hQ, ho, a, W, h => wpIn_skip (hQ.hat _ _ _ h)
  | .label _, Q, Q', hQ, ho, a, W, h => wpIn_label (hQ.hat _ _ _ h)
  | .region id ops false, Q, Q', hQ, ho, a, W, h => by
    obtain ⟨σ, E, fr, kb, hs, hf, h⟩ := h
    simp only [runCodeR] at h
    split at h <;> try exact h.elim
    rename_i hns hnd
    exact wpIn_region_list (list_in ho (noDefer_ok hnd) (seqK_ok hX (fun a W h => hQ.hat _ _ _ h) ⟨σ, E, fr, kb, hs, hf, h⟩))
  | .region id ops true, Q, Q', hQ, ho, a, W, h => by
    obtain ⟨σ, E, fr, kb, hs, hf, h⟩ := h
    simp only [runCodeR] at h
    split at h <;> try exact h.elim
    rename_i hns hed hnd
    refine wpIn_region_any hm (any_in ho (noDefer_ok hnd) ?_)
    have hd := (hs.trans (Inv.drew hs.inv))
    exact (drawK_ok hX hns hed (Q := Q') (K := Q .normal) (fun a W h => hQ.hat _ _ _ h) hQ.pan ops.size 0 _ [] fr kb a _ σ E [] ⟨by simp, fun i hi => by simp [hi]⟩ Closed.empty hd hf (fun r hr => by cases hr) h).any
  | .seq x y, Q, Q', hQ, ho, a, W, h => by
    refine wpIn_seq (runCodeR_ok hX hm x (Q' := Exit.then (y.wpIn (FW r) 0 P Q') Q') (Q := fun e fr kb => match e with | .normal => runCodeR P X n y Q fr kb | e => Q e fr kb) ⟨fun e a W h => ?_, fun ch a a' w h => hQ.pan ch a a' w h⟩ ho (by
      obtain ⟨σ, E, fr, kb, hs, hf, h⟩ := h
      simp only [runCodeR] at h
      exact ⟨σ, E, fr, kb, hs, hf, h⟩))
    cases e with
    | normal => exact runCodeR_ok hX hm y hQ ho h
    | exit id => exact hQ.hat _ _ _ h
    | goto l => exact hQ.hat _ _ _ h
    | ret => exact hQ.hat _ _ _ h
    | panic ch => exact hQ.hat _ _ _ h
    | outgrown => exact hQ.hat _ _ _ h
  | .cond o x y, Q, Q', hQ, ho, a, W, h => by
    obtain ⟨σ, E, fr, kb, hs, hf, h⟩ := h
    simp only [runCodeR] at h
    split at h
    · rename_i hc
      have := ev_ok hf hc
      simp only [Den] at this
      exact wpIn_cond_true this (runCodeR_ok hX hm x hQ ho ⟨σ, E, fr, kb, hs, hf, h⟩)
    · rename_i hc
      have := ev_ok hf hc
      simp only [Den] at this
      exact wpIn_cond_false this (runCodeR_ok hX hm y hQ ho ⟨σ, E, fr, kb, hs, hf, h⟩)
    · rename_i b hc
      have := ev_ok hf hc
      simp only [Den] at this
      exact wpIn_cond_split this (fun hb => runCodeR_ok hX hm x hQ ho ⟨σ, E, fr, kb, hs, hf, h.1 hb⟩) (fun hb => runCodeR_ok hX hm y hQ ho ⟨σ, E, fr, kb, hs, hf, h.2 hb⟩)
    · exact h.elim
  | .block id x, Q, Q', hQ, ho, a, W, h => by
    refine wpIn_block (runCodeR_ok hX hm x (Q' := Exit.inBlock id Q') (Q := fun e fr kb => match e with
      | .exit i => match Nat.beq i id with | true => Q .normal fr kb | false => Q (.exit i) fr kb
      | e => Q e fr kb) ⟨fun e a W h => ?_, fun ch a a' w h => hQ.pan ch a a' w h⟩ ho (by
      obtain ⟨σ, E, fr, kb, hs, hf, h⟩ := h
      simp only [runCodeR] at h
      exact ⟨σ, E, fr, kb, hs, hf, h⟩))
    cases e with
    | normal => exact hQ.hat _ _ _ h
    | exit i =>
      simp only [Exit.inBlock]
      simp only at h
      cases hb : Nat.beq i id with
      | true =>
        rw [if_pos (Nat.eq_of_beq_eq_true hb)]
        simp only [hb] at h
        exact hQ.hat _ _ _ h
      | false =>
        rw [if_neg (fun e => by subst e; simp at hb)]
        simp only [hb] at h
        exact hQ.hat _ _ _ h
    | goto l => exact hQ.hat _ _ _ h
    | ret => exact hQ.hat _ _ _ h
    | panic ch => exact hQ.hat _ _ _ h
    | outgrown => exact hQ.hat _ _ _ h
  | .loop .., Q, Q', hQ, ho, a, W, h => by obtain ⟨_, _, _, _, _, _, h⟩ := h; exact h.elim
  | .scope .., Q, Q', hQ, ho, a, W, h => by obtain ⟨_, _, _, _, _, _, h⟩ := h; exact h.elim
  | .exit _, Q, Q', hQ, ho, a, W, h => wpIn_exit (hQ.hat _ _ _ h)
  | .ret, Q, Q', hQ, ho, a, W, h => by obtain ⟨_, _, _, _, _, _, h⟩ := h; exact h.elim
  | .goto .., Q, Q', hQ, ho, a, W, h => by obtain ⟨_, _, _, _, _, _, h⟩ := h; exact h.elim
  | .refuse .., Q, Q', hQ, ho, a, W, h => by obtain ⟨_, _, _, _, _, _, h⟩ := h; exact h.elim
  | .rangeFunc .., Q, Q', hQ, ho, a, W, h => by obtain ⟨_, _, _, _, _, _, h⟩ := h; exact h.elim
/-! ### The function that is ranged over -/
abbrev YieldT := List V → KB → (V → KB → Prop) → Prop
def opYK (P : Program) (X : CallT) (yv : Value) (Y : YieldT) (o : Oper) (fr : Fr) (kb : KB) (K : V → KB → Prop) : Prop :=
  match o.op with
  | .call { callee := .value g, args := args, argTypes := _ } => match ev fr g with
    | some (.any v) => v = yv ∧ match evs fr args.toList with
      | some vs => Y vs kb K
      | none => False
    | _ => opK P X o fr kb K
  | .defer _ => False
  | _ => opK P X o fr kb K
/-- What a call of yield does, wherever the walk stands. -/
def YieldOk (P : Program) (c : Cx) (l : Nat) (Y : YieldT) : Prop :=
  ∀ vs kb K σ E W xs, Y vs kb K → Step c.σ c.E c.kb c.W σ E kb W → DenL σ E vs xs → YieldAt Fence.wide 0 P l xs.toArray W (fun e W' => ∃ v x σ' E' kb', e = .returned x ∧ Step σ E kb W σ' E' kb' W' ∧ Den σ' E' v x ∧ K v kb')
theorem opYK_ok {P : Program} {X : CallT} (hX : CallOk P X) {c : Cx} {l : Nat} {Y : YieldT} (hY : YieldOk P c l Y) {o : Oper} {fr : Fr} {kb : KB} {K : V → KB → Prop} (h : opYK P X (.func (.yield l) #[] #[]) Y o fr kb K) {σ : Sg} {E : EH} {n : Nat} {a : Act} (hf : FrOk σ E fr n a) {W : World} (hs : Step c.σ c.E c.kb c.W σ E kb W) (Q : Exit → Act → World → Prop) :
    o.wpIn Fence.wide 0 P a W (After σ E kb W a o K) Q := by
  unfold opYK at h
  split at h
  · rename_i g args ats ho
    have hnd : ∀ c, o.op ≠ .defer c := fun c e => by rw [ho] at e; cases e
    split at h
    · rename_i v hv
      obtain ⟨rfl, h⟩ := h
      split at h <;> try exact h.elim
      rename_i vs hvs
      have hg := ev_ok hf hv
      simp only [Den] at hg
      have hd := evs_ok hf hvs
      obtain ⟨fnid, tmps, assign, body, hrun, hround⟩ := hY vs kb K σ E W _ h hs hd
      refine ⟨fun _ _ => trivial, ?_⟩
      show o.uponIn Fence.wide 0 P a _ Q ((o.semAt none a.eval).run P W)
      rw [Oper.semAt_none, exec_yield ho hg]
      have ea : args.map a.eval = (args.toList.map a.eval).toArray := by apply Array.ext'; simp
      rw [ea, hrun]
      refine ⟨fun q => (by cases q), hround.mono ?_⟩
      rintro e W' ⟨v, x, σ', E', kb', rfl, h1, h2, h3⟩
      exact ⟨σ', E', kb', v, x, h1, h2, rfl, h3⟩
    · exact op_in (r := none) hnd (opK_ok hX h hf hs.inv Q)
  · exact h.elim
  · rename_i hnc hnd
    exact op_in (r := none) (fun c e => hnd c e) (opK_ok hX h hf hs.inv Q)
def seqYK (P : Program) (X : CallT) (yv : Value) (Y : YieldT) (n : Nat) (ops : Array Oper) : List Oper → (Fr → KB → Prop) → Fr → KB → Prop
  | [], K, fr, kb => K fr kb
  | o :: rest, K, fr, kb => guardK ops o fr (fun fr => opYK P X yv Y o fr kb (fun v kb' => putK n o.dst v fr (fun fr' => seqYK P X yv Y n ops rest K fr' kb')))
      (fun fr => putK n o.dst (.any undef) fr (fun fr' => seqYK P X yv Y n ops rest K fr' kb))
theorem seqYK_ok {P : Program} {X : CallT} (hX : CallOk P X) {c : Cx} {l : Nat} {Y : YieldT} (hY : YieldOk P c l Y) {n : Nat} {ops : Array Oper} {Q : Exit → Act → World → Prop} {K : Fr → KB → Prop} (hQ : ∀ a W, Hat c n K a W → Q .normal a W) :
    ∀ {os : List Oper} {a : Act} {W : World}, Hat c n (seqYK P X (.func (.yield l) #[] #[]) Y n ops os K) a W → wpListIn Fence.wide 0 P ops Q os a W
  | [], a, W, h => hQ a W h
  | o :: rest, a, W, h => by
    obtain ⟨σ, E, fr, kb, hs, hf, h⟩ := h
    simp only [seqYK] at h
    obtain ⟨fr', hf', h | h⟩ := guardK_ok h hf
    · unfold wpListIn
      rw [if_pos h.1]
      exact Oper.wpIn_mono (fun a' W' ha => seqYK_ok hX hY hQ (ha.hat hs hf')) (opYK_ok hX hY h.2 hf' hs Q)
    · unfold wpListIn
      rw [if_neg (by simp [h.1])]
      obtain ⟨fr2, h1, h2⟩ := putK_ok h.2 hf' (σ := σ) (E := E) (x := undef) (by simp [Den])
      exact ⟨fun _ _ => trivial, seqYK_ok hX hY hQ ⟨σ, E, fr2, kb, hs, h1, h2⟩⟩

def runCodeY (P : Program) (X : CallT) (yv : Value) (Y : YieldT) (oli : Option LI) (n0 n : Nat) : Code → (Exit → Fr → KB → Prop) → Fr → KB → Prop
  | .skip, Q, fr, kb => Q .normal fr kb
  | .label _, Q, fr, kb => Q .normal fr kb
  | .region _ ops false, Q, fr, kb => seqYK P X yv Y n ops ops.toList (Q .normal) fr kb
  | .seq x y, Q, fr, kb => runCodeY P X yv Y oli n0 n x (fun e fr kb => match e with | .normal => runCodeY P X yv Y oli n0 n y Q fr kb | e => Q e fr kb) fr kb
  | .cond c x y, Q, fr, kb => match ev fr c with
    | some .tt => runCodeY P X yv Y oli n0 n x Q fr kb
    | some .ff => runCodeY P X yv Y oli n0 n y Q fr kb
    | some (.sb b) => (b = true → runCodeY P X yv Y oli n0 n x Q fr kb) ∧ (b = false → runCodeY P X yv Y oli n0 n y Q fr kb)
    | _ => False
  | .block id x, Q, fr, kb => runCodeY P X yv Y oli n0 n x (fun e fr kb => match e with
    | .exit i => match Nat.beq i id with | true => Q .normal fr kb | false => Q (.exit i) fr kb
    | e => Q e fr kb) fr kb
  | .loop x, Q, fr, kb => match oli with
    | some li => atHead n0 li.nils li.live fr kb (fun s => At li s ∧
        li.all (fun i => runCodeY P X yv Y oli n0 n x (fun e fr kb => match e with
          | .normal => atHead n0 li.nils li.live fr kb (fun s => Nx li i s)
          | e => Q e fr kb) (li.live.zip (li.st i).1) (li.st i).2))
    | none => False
  | .exit id, Q, fr, kb => Q (.exit id) fr kb
  | .ret, Q, fr, kb => Q .ret fr kb
  | _, _, _, _ => False
theorem runCodeY_ok {P : Program} {X : CallT} (hX : CallOk P X) {c : Cx} {l : Nat} {Y : YieldT} (hY : YieldOk P c l Y) {oli : Option LI} {n : Nat} : ∀ (code : Code) {Q : Exit → Fr → KB → Prop} {Q' : Exit → Act → World → Prop}, QOk c n Q Q' → ∀ {a : Act} {W : World},
    Hat c n (runCodeY P X (.func (.yield l) #[] #[]) Y oli c.σ.length n code Q) a W → code.wp P Q' a W
  | .skip, Q, Q', hQ, a, W, h => wp_skip (hQ.hat _ _ _ h)
  | .label _, Q, Q', hQ, a, W, h => wp_label (hQ.hat _ _ _ h)
  | .exit id, Q, Q', hQ, a, W, h => wp_exit (hQ.hat _ _ _ h)
  | .ret, Q, Q', hQ, a, W, h => wp_ret (hQ.hat _ _ _ h)
  | .region id ops false, Q, Q', hQ, a, W, h => wpIn_wide.1 (wpIn_region_list (seqYK_ok hX hY (fun a W h => hQ.hat _ _ _ h) h))
  | .seq x y, Q, Q', hQ, a, W, h => by
    refine wp_seq (runCodeY_ok hX hY x (Q' := Exit.then (y.wp P Q') Q') (Q := fun e fr kb => match e with | .normal => runCodeY P X (.func (.yield l) #[] #[]) Y oli c.σ.length n y Q fr kb | e => Q e fr kb) ⟨fun e a W h => ?_, fun ch a a' w h => hQ.pan ch a a' w h⟩ h)
    cases e with
    | normal => exact runCodeY_ok hX hY y hQ h
    | exit id => exact hQ.hat _ _ _ h
    | goto l => exact hQ.hat _ _ _ h
    | ret => exact hQ.hat _ _ _ h
    | panic ch => exact hQ.hat _ _ _ h
    | outgrown => exact hQ.hat _ _ _ h
  | .cond o x y, Q, Q', hQ, a, W, h => by
    obtain ⟨σ, E, fr, kb, hs, hf, h⟩ := h
    simp only [runCodeY] at h
    split at h
    · rename_i hc
      have := ev_ok hf hc
      simp only [Den] at this
      exact wp_cond_true this (runCodeY_ok hX hY x hQ ⟨σ, E, fr, kb, hs, hf, h⟩)
    · rename_i hc
      have := ev_ok hf hc
      simp only [Den] at this
      exact wp_cond_false this (runCodeY_ok hX hY y hQ ⟨σ, E, fr, kb, hs, hf, h⟩)
    · rename_i b hc
      have := ev_ok hf hc
      simp only [Den] at this
      exact wp_cond_split this (fun hb => runCodeY_ok hX hY x hQ ⟨σ, E, fr, kb, hs, hf, h.1 hb⟩) (fun hb => runCodeY_ok hX hY y hQ ⟨σ, E, fr, kb, hs, hf, h.2 hb⟩)
    · exact h.elim
  | .block id x, Q, Q', hQ, a, W, h => by
    refine wp_block (runCodeY_ok hX hY x (Q' := Exit.inBlock id Q') (Q := fun e fr kb => match e with
      | .exit i => match Nat.beq i id with | true => Q .normal fr kb | false => Q (.exit i) fr kb
      | e => Q e fr kb) ⟨fun e a W h => ?_, fun ch a a' w h => hQ.pan ch a a' w h⟩ h)
    cases e with
    | normal => exact hQ.hat _ _ _ h
    | exit i =>
      simp only [Exit.inBlock]
      simp only at h
      cases hb : Nat.beq i id with
      | true =>
        rw [if_pos (Nat.eq_of_beq_eq_true hb)]
        simp only [hb] at h
        exact hQ.hat _ _ _ h
      | false =>
        rw [if_neg (fun e => by subst e; simp at hb)]
        simp only [hb] at h
        exact hQ.hat _ _ _ h
    | goto l => exact hQ.hat _ _ _ h
    | ret => exact hQ.hat _ _ _ h
    | panic ch => exact hQ.hat _ _ _ h
    | outgrown => exact hQ.hat _ _ _ h
  | .loop x, Q, Q', hQ, a, W, h => by
    obtain ⟨σ, E, fr, kb, hs, hf, h⟩ := h
    simp only [runCodeY] at h
    split at h <;> try exact h.elim
    rename_i li
    obtain ⟨s, ⟨⟨⟨i, rfl⟩⟩, hall0⟩, hh⟩ := atHead_ok h hs hf
    refine wp_loop_ghost (fun k a w => ∃ i, li.μ i = k ∧ Hat c n (fun fr' kb' => fr' = li.live.zip (li.st i).1 ∧ kb' = (li.st i).2) a w) (li.μ i) ⟨i, rfl, hh⟩ ?_
    rintro k a' w' ⟨j, rfl, σ', E', fr', kb', hs', hf', rfl, rfl⟩
    refine runCodeY_ok hX hY x (Q' := Exit.then (fun a' w' => ∃ n', n' < li.μ j ∧ ∃ i, li.μ i = n' ∧ Hat c n (fun fr' kb' => fr' = li.live.zip (li.st i).1 ∧ kb' = (li.st i).2) a' w') Q') (Q := fun e fr kb => match e with
          | .normal => atHead c.σ.length li.nils li.live fr kb (fun s => Nx li j s)
          | e => Q e fr kb) ⟨fun e a W h => ?_, fun ch a a' w h => hQ.pan ch a a' w h⟩ ⟨σ', E', _, _, hs', hf', li.all_ok _ hall0 j⟩
    cases e with
    | normal =>
      obtain ⟨σ2, E2, fr2, kb2, hs2, hf2, h2⟩ := h
      obtain ⟨s, ⟨⟨j', rfl, hlt⟩⟩, hh⟩ := atHead_ok h2 hs2 hf2
      exact ⟨_, hlt, j', rfl, hh⟩
    | exit id => exact hQ.hat _ _ _ h
    | goto l => exact hQ.hat _ _ _ h
    | ret => exact hQ.hat _ _ _ h
    | panic ch => exact hQ.hat _ _ _ h
    | outgrown => exact hQ.hat _ _ _ h
  | .region id ops true, Q, Q', hQ, a, W, h => by obtain ⟨_, _, _, _, _, _, h⟩ := h; exact h.elim
  | .scope .., Q, Q', hQ, a, W, h => by obtain ⟨_, _, _, _, _, _, h⟩ := h; exact h.elim
  | .goto .., Q, Q', hQ, a, W, h => by obtain ⟨_, _, _, _, _, _, h⟩ := h; exact h.elim
  | .refuse .., Q, Q', hQ, a, W, h => by obtain ⟨_, _, _, _, _, _, h⟩ := h; exact h.elim
  | .rangeFunc .., Q, Q', hQ, a, W, h => by obtain ⟨_, _, _, _, _, _, h⟩ := h; exact h.elim
def runFnY (P : Program) (X : CallT) (yv : Value) (Y : YieldT) (oli : Option LI) (f : FuncId) (args : List V) (kb : KB) (K : V → KB → Prop) : Prop :=
  match P.funcs[f]? with
  | some fn => match fn.body, Nat.ble args.length fn.ntmps with
    | some code, true => runCodeY P X yv Y oli kb.length fn.ntmps code (fin P fn K) (argFr 0 args) kb
    | _, _ => False
  | none => False
theorem runFnY_ok {P : Program} {X : CallT} (hX : CallOk P X) {l : Nat} {Y : YieldT} {oli : Option LI} {f : FuncId} {args : List V} {kb : KB} {K : V → KB → Prop} (h : runFnY P X (.func (.yield l) #[] #[]) Y oli f args kb K) {σ : Sg} {E : EH} {W : World} {xs : List Value} (hi : Inv σ E kb W)
    (hd : DenL σ E args xs) (hY : YieldOk P ⟨σ, E.strip, kb, W⟩ l Y) : Calls P f xs.toArray W (fun e W' => ∃ v r σ' E' kb', e = .returned v ∧ Step σ E kb W σ' E' kb' W' ∧ Den σ' E' r v ∧ K r kb') := by
  unfold runFnY at h
  split at h <;> try exact h.elim
  rename_i fn hfn
  split at h <;> try exact h.elim
  rename_i code hcode hb
  have hle := Nat.le_of_ble_eq_true hb
  rw [← hd.len] at hle
  rw [← hi.len] at h
  have hi0 := hi.strip
  have hd0 : DenL σ E.strip args xs := by
    have := DenL.cmono (τ := []) E.strip_cle hd
    rwa [List.append_nil] at this
  refine callsIn_wide.1 (callsIn_of_wp_marks (n := 0) hfn hcode trivial (wpIn_wide.2 (wp_mono (Q := fun e a w => match e with | .panic _ => False | e => bodyPostM Fence.wide 0 P fn (fun e W' => ∃ v r σ' E' kb', e = .returned v ∧ Step σ E kb W σ' E' kb' W' ∧ Den σ' E' r v ∧ K r kb') e a w) (runCodeY_ok hX (c := ⟨σ, E.strip, kb, W⟩) hY (oli := oli) (n := fn.ntmps) code (Q := fin P fn K) ⟨fun e a' W' hh => ?_, fun ch a a' w hp => ?_⟩ ?_) (fun e a w hq => ?_))))
  · obtain ⟨σ', E', fr', kb', hs, hf, hK⟩ := hh
    have key : resK P fr' kb' fn.results.toList (fun vs => K (retV vs) kb') → LeavesInM Fence.wide 0 P fn a'.tmps (fun e W' => ∃ v r σ' E' kb', e = .returned v ∧ Step σ E kb W σ' E' kb' W' ∧ Den σ' E' r v ∧ K r kb') a'.defers .returning W' := by
      intro hK
      refine leaves_marks a'.defers W' hf.defers.nodup (fun d hd => ?_) (fun W2 e1 e2 e3 e4 e5 => ?_)
      · obtain ⟨b, h1, h2⟩ := hf.defers.all d hd
        exact ⟨b, h1, hs.inv.imm b _ h2⟩
      · obtain ⟨E2, h1, h2⟩ := Step.unmark hi hs e1 e2 e3 e4 (M := fun b => { target := .collected b, args := #[] } ∈ a'.defers) (fun b hb => by
          obtain ⟨b', k1, k2⟩ := hf.defers.all _ hb
          cases k1; exact k2) (fun b hb => e5 b (fun d hd e => hb (e ▸ hd)))
        have hf2 : FrOk σ' E2 fr' fn.ntmps { a' with defers := [] } := ⟨hf.size, MkOk.nil _, fun t v hv => by
          obtain ⟨x, k1, k2⟩ := hf.get t v hv
          refine ⟨x, k1, ?_⟩
          have := Den.cmono (τ := []) h2 k2
          rwa [List.append_nil] at this⟩
        obtain ⟨v, r, k1, k2, k3⟩ := fin_results hf2 h1.inv hK
        exact ⟨v, k1, v, r, σ', E2, kb', rfl, h1, k2, k3⟩
    cases e with
    | normal => exact key hK
    | ret => exact key hK
    | exit id => exact hK.elim
    | goto l => exact hK.elim
    | panic ch => exact hK.elim
    | outgrown => exact hK.elim
  · exact hp
  rotate_left
  · cases e <;> first | exact hq | exact hq.elim
  · refine ⟨σ, E.strip, argFr 0 args, kb, Step.refl hi0, ⟨by simp; omega, MkOk.nil _, fun t v hv => ?_⟩, h⟩
    obtain ⟨x, _, h2, h3⟩ := look_arg 0 hd0 hv
    refine ⟨x, ?_, h3⟩
    have hlt : t < xs.length := by
      have := (List.getElem?_eq_some_iff.1 h2).1
      simpa using this
    rw [Array.getElem?_append_left (by simpa using hlt)]
    simpa using h2


/-! ### A round -/
def bindFr (n : Nat) : List Nat → List V → Fr → Option Fr
  | [], [], fr => some fr
  | t :: ts, v :: vs, fr => match Nat.blt t n with
    | true => bindFr n ts vs ((t, v) :: fr)
    | false => none
  | _, _, _ => none
theorem bindFr_ok {σ : Sg} {E : EH} {n : Nat} : ∀ {ts : List Nat} {vs : List V} {fr fr1 : Fr} {xs : List Value} {tmps : Array Value} {ds : List Deferred}, bindFr n ts vs fr = some fr1 → DenL σ E vs xs → FrOk σ E fr n { tmps := tmps, defers := ds } →
    ts.length = xs.length ∧ FrOk σ E fr1 n { tmps := (ts.zip xs).foldl (fun tmps p => tmps.setIfInBounds p.1 p.2) tmps, defers := ds }
  | [], [], fr, fr1, xs, tmps, ds, h, hd, hf => by
    simp only [bindFr, Option.some.injEq] at h
    subst h
    simp only [DenL] at hd
    subst hd
    exact ⟨rfl, hf⟩
  | t :: ts, v :: vs, fr, fr1, xs, tmps, ds, h, hd, hf => by
    simp only [DenL] at hd
    obtain ⟨x, xs', rfl, h1, h2⟩ := hd
    simp only [bindFr] at h
    split at h <;> try (cases h; done)
    rename_i hb
    have hf' : FrOk σ E ((t, v) :: fr) n { tmps := tmps.setIfInBounds t x, defers := ds } := hf.put (of_decide_eq_true (by simpa [Nat.blt_eq] using hb)) h1
    obtain ⟨k1, k2⟩ := bindFr_ok h h2 hf'
    exact ⟨by simp [k1], k2⟩
  | [], _ :: _, _, _, _, _, _, h, _, _ => by simp [bindFr] at h
  | _ :: _, [], _, _, _, _, _, h, _, _ => by simp [bindFr] at h
def roundY (P : Program) (X : CallT) (n : Nat) (ps : Array Tmp) (assign body : Code) (fr : Fr) : YieldT := fun vs kb K => match bindFr n ps.toList vs fr with
  | some fr1 => runCodeR P X n assign (fun e fr2 kb2 => match e with
      | .normal => runCodeR P X n body (fun e _ kb3 => match e with | .normal => K .tt kb3 | _ => False) fr2 kb2
      | _ => False) fr1 kb
  | none => False
theorem Inv.putOther {σ : Sg} {E : EH} {kb : KB} {W : World} (h : Inv σ E kb W) {l : Nat} (hno : ¬ Owns σ kb l) (hE : E l = none) (o : Obj) : Inv σ E kb (W.putObj l o) :=
  ⟨h.len, fun i r x h1 h2 => by
    have := (h.obj i r x h1 h2).mono (τ := []) (W' := W.putObj l o) (EH.le.refl E) (fun b hb => World.putObj_heap_other (fun e => by subst e; exact hno ⟨i, r, x, h1, h2, hb⟩))
    simpa using this, h.disj, fun b x hb => by
    rw [World.putObj_heap_other (fun e => by subst e; rw [hE] at hb; cases hb)]
    exact h.imm b x hb, h.sep⟩
/-- A block that is nobody's has turned, and has turned back. -/
theorem Step.toggle {σ2 : Sg} {E2 : EH} {kb2 : KB} {W2 : World} {σ3 : Sg} {E3 : EH} {kb3 : KB} {W3 : World} {σ4 : Sg} {E4 : EH} {kb4 : KB} {W4 : World} {l : Nat} {o o1 : Obj}
    (SA : Step σ2 E2 kb2 W2 σ3 E3 kb3 W3) (SB : Step σ3 E3 kb3 (W3.putObj l o1) σ4 E4 kb4 W4) (hl : W2.heap[l]? = some o) (hno : ¬ Owns σ4 kb4 l) (hE : E4 l = none) : Step σ2 E2 kb2 W2 σ4 E4 kb4 (W4.putObj l o) := by
  have hlt : l < W2.heap.size := (Array.getElem?_eq_some_iff.1 hl).1
  have h1 := SA.stp.size
  have h2 := SB.stp.size
  rw [World.putObj_size] at h2
  refine ⟨SB.inv.putOther hno hE o, ⟨?_, ?_, ?_, by rw [World.putObj_size]; omega, fun k hk hn => ?_⟩, ?_, SA.le.trans SB.le, fun b hb => ?_, fun b x hb => ?_⟩
  · exact SB.stp.os.trans SA.stp.os
  · exact SB.stp.tape.trans SA.stp.tape
  · exact SB.stp.output.trans SA.stp.output
  · by_cases hkl : k = l
    · subst hkl
      rw [World.putObj_heap_same (by omega), hl]
    · rw [World.putObj_heap_other hkl, SB.stp.block k (by rw [World.putObj_size]; omega) (fun ho => (SA.own k ho).elim hn (fun q => by omega)), World.putObj_heap_other hkl]
      exact SA.stp.block k hk hn
  · obtain ⟨τ, rfl⟩ := SA.pre
    obtain ⟨τ', rfl⟩ := SB.pre
    exact ⟨τ ++ τ', by rw [List.append_assoc]⟩
  · rcases SB.own b hb with q | q
    · exact SA.own b q
    · rw [World.putObj_size] at q; exact .inr (by omega)
  · rcases SB.new b x hb with q | q | q
    · exact SA.new b x q
    · rcases SA.own b q with q | q
      · exact .inr (.inl q)
      · exact .inr (.inr q)
    · rw [World.putObj_size] at q; exact .inr (.inr (by omega))
theorem roundY_ok {P : Program} {X : CallT} (hX : CallOk P X) (hm : P.follows .mixedOrders = true) {c : Cx} {l n : Nat} {r : Loop} (hl : c.W.heap[l]? = some (.loop r)) (hno : ¬ Owns c.σ c.kb l) (hE : c.E l = none) (hr : r.state = .ready) (hp : r.pending = none) {fr : Fr} {ds : List Deferred}
    (hf : FrOk c.σ c.E fr n { tmps := r.tmps, defers := ds }) : YieldOk P c l (roundY P X n r.params r.assign r.body fr) := by
  intro vs kb2 K σ2 E2 W2 xs hy hs2 hd
  have hlt : l < c.W.heap.size := (Array.getElem?_eq_some_iff.1 hl).1
  have hl2 : W2.heap[l]? = some (.loop r) := by rw [hs2.stp.block l hlt hno]; exact hl
  have hno2 : ¬ Owns σ2 kb2 l := fun h => (hs2.own l h).elim hno (fun q => by omega)
  have hE2 : E2 l = none := by
    cases h : E2 l with
    | none => rfl
    | some x =>
      rcases hs2.new l x h with k | k | k
      · rw [hE] at k; cases k
      · exact (hno k).elim
      · omega
  have hlt2 : l < W2.heap.size := (Array.getElem?_eq_some_iff.1 hl2).1
  unfold roundY at hy
  split at hy <;> try exact hy.elim
  rename_i fr1 hb
  have hf2 : FrOk σ2 E2 fr n { tmps := r.tmps, defers := [] } := by
    obtain ⟨τ, rfl⟩ := hs2.pre
    have := hf.mono (τ := τ) hs2.le
    exact ⟨this.size, MkOk.nil _, this.get⟩
  obtain ⟨hlen, hfr⟩ := bindFr_ok hb hd hf2
  have etm : (r.params.zip xs.toArray).foldl (fun tmps (x : Tmp × Value) => tmps.setIfInBounds x.1 x.2) r.tmps = (r.params.toList.zip xs).foldl (fun tmps p => tmps.setIfInBounds p.1 p.2) r.tmps := by
    rw [← Array.foldl_toList]
    simp
  refine ⟨r.fn, _, r.assign, r.body, run_yield hl2 (by simpa using hlen.symm), roundIn_of_wpIn (F := Fence.wide) trivial ?_⟩
  refine runCodeR_ok hX hm (c := ⟨σ2, E2, kb2, W2⟩) (n := n) (r := some l) r.assign (Q := fun e fr2 kb2 => match e with
      | .normal => runCodeR P X n r.body (fun e _ kb3 => match e with | .normal => K .tt kb3 | _ => False) fr2 kb2
      | _ => False) ⟨fun e a' W3 hh => ?_, fun ch a a' w h => h⟩ (fun ⟨_, _, h⟩ => h) ⟨σ2, E2, fr1, kb2, Step.refl hs2.inv, ?_, hy⟩
  rotate_left
  · have := hfr
    rw [← etm] at this
    exact this
  cases e with
  | normal =>
    obtain ⟨σ3, E3, fr2, kb3, hs3, hf3, hh⟩ := hh
    have hl3 : W3.heap[l]? = some (.loop r) := by rw [hs3.stp.block l hlt2 hno2]; exact hl2
    have hno3 : ¬ Owns σ3 kb3 l := fun h => (hs3.own l h).elim hno2 (fun q => by dsimp only at q; omega)
    have hE3 : E3 l = none := by
      cases h : E3 l with
      | none => rfl
      | some x =>
        rcases hs3.new l x h with k | k | k
        · dsimp only at k; rw [hE2] at k; cases k
        · exact (hno2 k).elim
        · dsimp only at k; omega
    have hlt3 : l < W3.heap.size := (Array.getElem?_eq_some_iff.1 hl3).1
    refine ⟨_, run_beginRound hl3 hr, ?_⟩
    have hi3 := hs3.inv.putOther hno3 hE3 (.loop { r with state := .busy })
    refine runCodeR_ok hX hm (c := ⟨σ3, E3, kb3, W3.putObj l (.loop { r with state := .busy })⟩) (n := n) (r := some l) r.body (Q := fun e _ kb3 => match e with | .normal => K .tt kb3 | _ => False) ⟨fun e a5 W4 hh => ?_, fun ch a a' w h => h⟩ (fun ⟨_, _, h⟩ => h) ⟨σ3, E3, fr2, kb3, Step.refl hi3, hf3, hh⟩
    cases e with
    | normal =>
      obtain ⟨σ4, E4, fr4, kb4, hs4, hf4, hK⟩ := hh
      have hsz : l < (W3.putObj l (.loop { r with state := .busy })).heap.size := by rw [World.putObj_size]; exact hlt3
      have hl4 : W4.heap[l]? = some (.loop { r with state := .busy }) := by
        rw [hs4.stp.block l hsz hno3]; exact World.putObj_heap_same hlt3
      have hno4 : ¬ Owns σ4 kb4 l := fun h => (hs4.own l h).elim hno3 (fun q => by dsimp only at q; omega)
      have hE4 : E4 l = none := by
        cases h : E4 l with
        | none => rfl
        | some x =>
          rcases hs4.new l x h with k | k | k
          · dsimp only at k; rw [hE3] at k; cases k
          · exact (hno3 k).elim
          · dsimp only at k; omega
      have er : ({ r with state := .ready, pending := none } : Loop) = r := by cases r; simp only at hr hp; subst hr; subst hp; rfl
      refine ⟨_, _, run_endRound none hl4, .tt, .bool true, σ4, E4, kb4, rfl, ?_, by simp only [Den], hK⟩
      show Step σ2 E2 kb2 W2 σ4 E4 kb4 (W4.putObj l (.loop { r with state := .ready, pending := none }))
      rw [er]
      exact Step.toggle hs3 hs4 hl2 hno4 hE4
    | exit id => obtain ⟨_, _, _, _, _, _, h⟩ := hh; exact h.elim
    | goto l => obtain ⟨_, _, _, _, _, _, h⟩ := hh; exact h.elim
    | ret => obtain ⟨_, _, _, _, _, _, h⟩ := hh; exact h.elim
    | panic ch => obtain ⟨_, _, _, _, _, _, h⟩ := hh; exact h.elim
    | outgrown => obtain ⟨_, _, _, _, _, _, h⟩ := hh; exact h.elim
  | exit id => obtain ⟨_, _, _, _, _, _, h⟩ := hh; exact h.elim
  | goto l => obtain ⟨_, _, _, _, _, _, h⟩ := hh; exact h.elim
  | ret => obtain ⟨_, _, _, _, _, _, h⟩ := hh; exact h.elim
  | panic ch => obtain ⟨_, _, _, _, _, _, h⟩ := hh; exact h.elim
  | outgrown => obtain ⟨_, _, _, _, _, _, h⟩ := hh; exact h.elim
end Vc
