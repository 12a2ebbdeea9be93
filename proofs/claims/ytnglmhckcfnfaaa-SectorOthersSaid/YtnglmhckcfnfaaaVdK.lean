/- Our blocks in another numbering: those that are reached, in the order in which they are met. -/
import Derived.Test.YtnglmhckcfnfaaaVdJ
set_option linter.unusedSimpArgs false
set_option linter.unusedVariables false
namespace Vc
open Go

mutual
def V.ren (ρ : Nat → Option Nat) : V → Option V
  | .ptr i off => match ρ i with | some j => some (.ptr j off) | none => none
  | .mp i => match ρ i with | some j => some (.mp j) | none => none
  | .ch i => match ρ i with | some j => some (.ch j) | none => none
  | .pa i base o => match ρ i with | some j => some (.pa j base o) | none => none
  | .pw i ix => match ρ i with | some j => some (.pw j ix) | none => none
  | .sa i base o s n c => match ρ i with | some j => some (.sa j base o s n c) | none => none
  | .se i ix o s n c => match ρ i with | some j => some (.se j ix o s n c) | none => none
  | .sl i lo hi => match ρ i with | some j => some (.sl j lo hi) | none => none
  | .pe i ix fld => match ρ i with | some j => some (.pe j ix fld) | none => none
  | .agg l => match V.rens ρ l with | some l' => some (.agg l') | none => none
  | .tup l => match V.rens ρ l with | some l' => some (.tup l') | none => none
  | .fn f l => match V.rens ρ l with | some l' => some (.fn f l') | none => none
  | .tt => some (.sb true)
  | .ff => some (.sb false)
  | .lit k n => some (.int k n)
  | v => some v
def V.rens (ρ : Nat → Option Nat) : List V → Option (List V)
  | [] => some []
  | v :: vs => match V.ren ρ v with
    | some v' => match V.rens ρ vs with | some vs' => some (v' :: vs') | none => none
    | none => none
end

mutual
theorem Den.ren {ρ : Nat → Option Nat} {σ σ' : Sg} {E : EH} (hρ : ∀ i j r, ρ i = some j → σ[i]? = some r → σ'[j]? = some r) : ∀ {v v' : V} {x : Value}, V.ren ρ v = some v' → Den σ E v x → Den σ' E v' x
  | .any _, _, _, h, hd | .int .., _, _, h, hd | .lit .., _, _, h, hd | .sb _, _, _, h, hd | .tt, _, _, h, hd | .ff, _, _, h, hd | .e0, _, _, h, hd | .ipe .., _, _, h, hd | .dat _, _, _, h, hd => by
    simp only [V.ren, Option.some.injEq] at h; subst h; simpa only [Den] using hd
  | .arr .., _, _, h, hd => by simp only [Den] at hd
  | .ptr i off, v', x, h, hd => by
    simp only [V.ren] at h
    split at h
    · rename_i j hj; cases h
      simp only [Den] at hd ⊢
      obtain ⟨r, h1, h2⟩ := hd
      exact ⟨r, hρ i j r hj h1, h2⟩
    · cases h
  | .pa i base o, v', x, h, hd => by
    simp only [V.ren] at h
    split at h
    · rename_i j hj; cases h
      simp only [Den] at hd ⊢
      obtain ⟨r, h1, h2⟩ := hd
      exact ⟨r, hρ i j r hj h1, h2⟩
    · cases h
  | .pe i ix fld, v', x, h, hd => by
    simp only [V.ren] at h
    split at h
    · rename_i j hj; cases h
      simp only [Den] at hd ⊢
      obtain ⟨r, h1, h2⟩ := hd
      exact ⟨r, hρ i j r hj h1, h2⟩
    · cases h
  | .pw i ix, v', x, h, hd => by
    simp only [V.ren] at h
    split at h
    · rename_i j hj; cases h
      simp only [Den] at hd ⊢
      obtain ⟨r, h1, h2⟩ := hd
      exact ⟨r, hρ i j r hj h1, h2⟩
    · cases h
  | .mp i, v', x, h, hd => by
    simp only [V.ren] at h
    split at h
    · rename_i j hj; cases h
      simp only [Den] at hd ⊢
      obtain ⟨r, h1, h2⟩ := hd
      exact ⟨r, hρ i j r hj h1, h2⟩
    · cases h
  | .ch i, v', x, h, hd => by
    simp only [V.ren] at h
    split at h
    · rename_i j hj; cases h
      simp only [Den] at hd ⊢
      obtain ⟨r, h1, h2⟩ := hd
      exact ⟨r, hρ i j r hj h1, h2⟩
    · cases h
  | .sl i lo hi, v', x, h, hd => by
    simp only [V.ren] at h
    split at h
    · rename_i j hj; cases h
      simp only [Den] at hd ⊢
      obtain ⟨r, a, h1, h2⟩ := hd
      exact ⟨r, a, hρ i j r hj h1, h2⟩
    · cases h
  | .sa i base o s n c, v', x, h, hd => by
    simp only [V.ren] at h
    split at h
    · rename_i j hj; cases h
      simp only [Den] at hd ⊢
      obtain ⟨r, a, h1, h2⟩ := hd
      exact ⟨r, a, hρ i j r hj h1, h2⟩
    · cases h
  | .se i ix o s n c, v', x, h, hd => by
    simp only [V.ren] at h
    split at h
    · rename_i j hj; cases h
      simp only [Den] at hd ⊢
      obtain ⟨r, a, h1, h2⟩ := hd
      exact ⟨r, a, hρ i j r hj h1, h2⟩
    · cases h
  | .agg l, v', x, h, hd => by
    simp only [V.ren] at h
    split at h
    · rename_i l' hl; cases h
      simp only [Den] at hd ⊢
      obtain ⟨vs, h1, h2⟩ := hd
      exact ⟨vs, h1, DenC.ren hρ hl h2⟩
    · cases h
  | .tup l, v', x, h, hd => by
    simp only [V.ren] at h
    split at h
    · rename_i l' hl; cases h
      simp only [Den] at hd ⊢
      obtain ⟨vs, h1, h2⟩ := hd
      exact ⟨vs, h1, DenL.ren hρ hl h2⟩
    · cases h
  | .fn f l, v', x, h, hd => by
    simp only [V.ren] at h
    split at h
    · rename_i l' hl; cases h
      simp only [Den] at hd ⊢
      obtain ⟨vs, h1, h2⟩ := hd
      exact ⟨vs, h1, DenL.ren hρ hl h2⟩
    · cases h
theorem DenL.ren {ρ : Nat → Option Nat} {σ σ' : Sg} {E : EH} (hρ : ∀ i j r, ρ i = some j → σ[i]? = some r → σ'[j]? = some r) : ∀ {vs vs' : List V} {xs : List Value}, V.rens ρ vs = some vs' → DenL σ E vs xs → DenL σ' E vs' xs
  | [], _, _, h, hd => by simp only [V.rens, Option.some.injEq] at h; subst h; simpa only [DenL] using hd
  | v :: vs, _, _, h, hd => by
    simp only [V.rens] at h
    split at h
    · rename_i v' hv
      split at h
      · rename_i us hus; cases h
        simp only [DenL] at hd ⊢
        obtain ⟨x, xs', h1, h2, h3⟩ := hd
        exact ⟨x, xs', h1, Den.ren hρ hv h2, DenL.ren hρ hus h3⟩
      · cases h
    · cases h
theorem DenC.ren {ρ : Nat → Option Nat} {σ σ' : Sg} {E : EH} (hρ : ∀ i j r, ρ i = some j → σ[i]? = some r → σ'[j]? = some r) : ∀ {vs vs' : List V} {xs : List Value}, V.rens ρ vs = some vs' → DenC σ E vs xs → DenC σ' E vs' xs
  | [], _, _, h, hd => by simp only [V.rens, Option.some.injEq] at h; subst h; simpa only [DenC] using hd
  | v :: vs, _, _, h, hd => by
    simp only [V.rens] at h
    split at h
    · rename_i v' hv
      split at h
      · rename_i us hus; cases h
        simp only [DenC] at hd ⊢
        obtain ⟨ys, zs, h1, h2, h3⟩ := hd
        refine ⟨ys, zs, h1, ?_, DenC.ren hρ hus h3⟩
        rcases h2 with ⟨y, e, o, hy⟩ | ⟨m, cs, e, hl, hD⟩
        · exact .inl ⟨y, e, o, Den.ren hρ hv hy⟩
        · subst e
          simp only [V.ren, Option.some.injEq] at hv
          subst hv
          exact .inr ⟨m, cs, rfl, hl, hD⟩
      · cases h
    · cases h
end

def KO.ren (ρ : Nat → Option Nat) : KO → Option KO
  | .cells l => match V.rens ρ l with | some l' => some (.cells l') | none => none
  | .row ty sz l => some (.row ty sz l)
  | .mp kks kagg agg sz l => some (.mp kks kagg agg sz l)
  | .ch agg sz cap l => some (.ch agg sz cap l)
  | .dead => some .dead

theorem HoldsO.ren {ρ : Nat → Option Nat} {σ σ' : Sg} {E : EH} {W : World} (hρ : ∀ i j r, ρ i = some j → σ[i]? = some r → σ'[j]? = some r) {o o' : KO} {r : Re} (h : KO.ren ρ o = some o') (hh : HoldsO σ E W r o) : HoldsO σ' E W r o' := by
  cases o with
  | cells l =>
    simp only [KO.ren] at h
    split at h
    · rename_i l' hl; cases h
      obtain ⟨arr, ty, h1, h2⟩ := hh
      exact ⟨arr, ty, h1, DenC.ren hρ hl h2⟩
    · cases h
  | row ty sz l => simp only [KO.ren, Option.some.injEq] at h; subst h; exact hh
  | mp kks kagg agg sz l => simp only [KO.ren, Option.some.injEq] at h; subst h; exact hh
  | ch agg sz cap l => simp only [KO.ren, Option.some.injEq] at h; subst h; exact hh
  | dead => simp only [KO.ren, Option.some.injEq] at h; subst h; trivial

theorem owned_ren {ρ : Nat → Option Nat} {o o' : KO} {r : Re} (h : KO.ren ρ o = some o') {b : Nat} : owned r o' b ↔ owned r o b := by
  cases o with
  | cells l =>
    simp only [KO.ren] at h
    split at h
    · cases h; exact Iff.rfl
    · cases h
  | row ty sz l => simp only [KO.ren, Option.some.injEq] at h; subst h; exact Iff.rfl
  | mp kks kagg agg sz l => simp only [KO.ren, Option.some.injEq] at h; subst h; exact Iff.rfl
  | ch agg sz cap l => simp only [KO.ren, Option.some.injEq] at h; subst h; exact Iff.rfl
  | dead => simp only [KO.ren, Option.some.injEq] at h; subst h; exact Iff.rfl

/-- The place of a number in a list. -/
def idx : List Nat → Nat → Option Nat
  | [], _ => none
  | a :: l, i => match Nat.beq a i with
    | true => some 0
    | false => match idx l i with | some k => some (k + 1) | none => none
theorem idx_spec : ∀ {l : List Nat} {i k : Nat}, idx l i = some k → l[k]? = some i
  | [], _, _, h => by simp [idx] at h
  | a :: l, i, k, h => by
    simp only [idx] at h
    split at h
    · rename_i hb
      cases h
      simp [Nat.eq_of_beq_eq_true hb]
    · split at h
      · rename_i j hj
        cases h
        simpa using idx_spec hj
      · cases h

def memB (l : List Nat) (i : Nat) : Bool := match idx l i with | some _ => true | none => false
def nodupB : List Nat → Bool
  | [] => true
  | a :: l => match memB l a with | true => false | false => nodupB l
theorem idx_of_mem : ∀ {l : List Nat} {i : Nat}, i ∈ l → ∃ k, idx l i = some k
  | a :: l, i, h => by
    simp only [idx]
    split
    · exact ⟨0, rfl⟩
    · rename_i hb
      rcases List.mem_cons.1 h with rfl | h
      · simp at hb
      · obtain ⟨k, hk⟩ := idx_of_mem h
        exact ⟨k + 1, by rw [hk]⟩
theorem nodupB_ok : ∀ {l : List Nat}, nodupB l = true → l.Nodup
  | [], _ => List.nodup_nil
  | a :: l, h => by
    simp only [nodupB] at h
    split at h
    · cases h
    · rename_i hm
      refine List.nodup_cons.2 ⟨fun hin => ?_, nodupB_ok h⟩
      obtain ⟨k, hk⟩ := idx_of_mem hin
      simp [memB, hk] at hm

/-- The objects of an order of ours, in another numbering. -/
def selKB (ρ : Nat → Option Nat) (kb : KB) : List Nat → Option KB
  | [] => some []
  | i :: is => match kb[i]? with
    | some o => match KO.ren ρ o with
      | some o' => match selKB ρ kb is with | some r => some (o' :: r) | none => none
      | none => none
    | none => none

theorem selKB_ok {ρ : Nat → Option Nat} {kb : KB} : ∀ {order : List Nat} {r : KB}, selKB ρ kb order = some r → r.length = order.length ∧ ∀ (k i : Nat), order[k]? = some i → ∃ (o o' : KO), kb[i]? = some o ∧ KO.ren ρ o = some o' ∧ r[k]? = some o'
  | [], r, h => by simp only [selKB, Option.some.injEq] at h; subst h; simp
  | i :: is, r, h => by
    simp only [selKB] at h
    split at h <;> try (cases h; done)
    rename_i o ho
    split at h <;> try (cases h; done)
    rename_i o' ho'
    split at h <;> try (cases h; done)
    rename_i r' hr'
    cases h
    obtain ⟨h1, h2⟩ := selKB_ok hr'
    refine ⟨by simp [h1], fun k j hk => ?_⟩
    cases k with
    | zero => simp at hk; subst hk; exact ⟨o, o', ho, ho', rfl⟩
    | succ k => simpa using h2 k j (by simpa using hk)

def re0 : Re := ⟨0, 0, 0⟩
def selSg (σ : Sg) (order : List Nat) : Sg := order.map fun i => (σ[i]?).getD re0

theorem Inv.sel {σ : Sg} {E : EH} {kb : KB} {W : World} (h : Inv σ E kb W) {order : List Nat} {kb' : KB} (hn : nodupB order = true) (hs : selKB (idx order) kb order = some kb') :
    Inv (selSg σ order) E kb' W ∧ (∀ b, Owns (selSg σ order) kb' b → Owns σ kb b) ∧ (∀ i j r, idx order i = some j → σ[i]? = some r → (selSg σ order)[j]? = some r) := by
  obtain ⟨hl, hget⟩ := selKB_ok hs
  have hnd := nodupB_ok hn
  have hρ : ∀ i j r, idx order i = some j → σ[i]? = some r → (selSg σ order)[j]? = some r := fun i j r hi hr => by
    simp [selSg, idx_spec hi, hr]
  have hback : ∀ (k : Nat) (r : Re) (o' : KO), (selSg σ order)[k]? = some r → kb'[k]? = some o' → ∃ i o, order[k]? = some i ∧ σ[i]? = some r ∧ kb[i]? = some o ∧ KO.ren (idx order) o = some o' := by
    intro k r o' h1 h2
    simp only [selSg, List.getElem?_map, Option.map_eq_some_iff] at h1
    obtain ⟨i, hi, hr⟩ := h1
    obtain ⟨o, o2, ho, ho2, hk⟩ := hget k i hi
    rw [h2] at hk; cases hk
    have hlt : i < σ.length := by
      rw [h.len]
      exact (List.getElem?_eq_some_iff.1 ho).1
    rw [List.getElem?_eq_getElem hlt] at hr
    simp at hr
    exact ⟨i, o, hi, by rw [List.getElem?_eq_getElem hlt, hr], ho, ho2⟩
  have hown : ∀ b, Owns (selSg σ order) kb' b → Owns σ kb b := by
    rintro b ⟨k, r, o', h1, h2, h3⟩
    obtain ⟨i, o, _, hr, ho, ho2⟩ := hback k r o' h1 h2
    exact ⟨i, r, o, hr, ho, (owned_ren ho2).1 h3⟩
  refine ⟨⟨by simp [selSg, hl], fun k r o' h1 h2 => ?_, fun k m r1 r2 o1 o2 b hkm h1 h2 h3 h4 h5 h6 => ?_, h.imm, fun b hb => h.sep b (hown b hb)⟩, hown, hρ⟩
  · obtain ⟨i, o, _, hr, ho, ho2⟩ := hback k r o' h1 h2
    exact (h.obj i r o hr ho).ren hρ ho2
  · obtain ⟨i, o, hi, hr, ho, ho2⟩ := hback k r1 o1 h1 h2
    obtain ⟨j, p, hj, hr', hp, hp2⟩ := hback m r2 o2 h3 h4
    have hij : i ≠ j := fun e => by
      subst e
      have hk := (List.getElem?_eq_some_iff.1 hi).1
      have hm := (List.getElem?_eq_some_iff.1 hj).1
      rw [List.getElem?_eq_getElem hk] at hi
      rw [List.getElem?_eq_getElem hm] at hj
      simp at hi hj
      exact hkm ((List.getElem_inj hnd).1 (hi.trans hj.symm))
    exact h.disj i j r1 r2 o p b hij hr ho hr' hp ((owned_ren ho2).1 h5) ((owned_ren hp2).1 h6)

/-! ### What is reached -/
mutual
def V.refs : V → List Nat
  | .ptr i _ => [i]
  | .sl i _ _ => [i]
  | .pe i _ _ => [i]
  | .pa i _ _ => [i]
  | .pw i _ => [i]
  | .sa i _ _ _ _ _ => [i]
  | .se i _ _ _ _ _ => [i]
  | .mp i => [i]
  | .ch i => [i]
  | .agg l => V.refsL l
  | .tup l => V.refsL l
  | .fn _ l => V.refsL l
  | _ => []
def V.refsL : List V → List Nat
  | [] => []
  | v :: vs => V.refs v ++ V.refsL vs
end
def KO.refs : KO → List Nat
  | .cells l => V.refsL l
  | _ => []
def addAll : List Nat → List Nat → List Nat
  | o, [] => o
  | o, i :: is => match memB o i with | true => addAll o is | false => addAll (o ++ [i]) is
def reach (kb : KB) : Nat → List Nat → Nat → List Nat
  | 0, o, _ => o
  | f + 1, o, p => match o[p]? with
    | none => o
    | some i => match kb[i]? with
      | some x => reach kb f (addAll o x.refs) (p + 1)
      | none => o

def natsEq : List Nat → List Nat → Bool
  | [], [] => true
  | a :: l, b :: m => match Nat.beq a b with | true => natsEq l m | false => false
  | _, _ => false
theorem natsEq_ok : ∀ {l m : List Nat}, natsEq l m = true → l = m
  | [], [], _ => rfl
  | a :: l, b :: m, h => by
    simp only [natsEq] at h
    split at h
    · rename_i hb; rw [Nat.eq_of_beq_eq_true hb, natsEq_ok h]
    · cases h
  | [], _ :: _, h => by simp [natsEq] at h
  | _ :: _, [], h => by simp [natsEq] at h

/-- Values and memory, in their own numbering: the first n0 blocks as they are, the others as they are met. -/
def canon (n0 : Nat) (vals : List V) (kb : KB) : Option (List V × KB × List Nat) :=
  let o1 := reach kb (kb.length + 1) (List.range n0) 0
  let o2 := reach kb (kb.length + 1) (addAll o1 (V.refsL vals)) o1.length
  match nodupB o2, natsEq (o2.take n0) (List.range n0) with
  | true, true => match V.rens (idx o2) vals, selKB (idx o2) kb o2 with
    | some vs, some kb' => some (vs, kb', o2)
    | _, _ => none
  | _, _ => none

theorem canon_ok {n0 : Nat} {vals : List V} {kb : KB} {vs : List V} {kb' : KB} {o : List Nat} (h : canon n0 vals kb = some (vs, kb', o)) :
    nodupB o = true ∧ o.take n0 = List.range n0 ∧ V.rens (idx o) vals = some vs ∧ selKB (idx o) kb o = some kb' := by
  unfold canon at h
  simp only at h
  split at h
  · rename_i h1 h2
    split at h
    · rename_i vs' kb'' h3 h4
      simp only [Option.some.injEq, Prod.mk.injEq] at h
      obtain ⟨rfl, rfl, rfl⟩ := h
      exact ⟨h1, natsEq_ok h2, h3, h4⟩
    · cases h
  · cases h

/-- Only what is reached is kept. -/
theorem Step.sel {c : Cx} {σ : Sg} {E : EH} {kb : KB} {W : World} (h : Step c.σ c.E c.kb c.W σ E kb W) {vals : List V} {vs : List V} {kb' : KB} {o : List Nat} (hc : canon c.σ.length vals kb = some (vs, kb', o)) {xs : List Value} (hd : DenL σ E vals xs) :
    ∃ σ', Step c.σ c.E c.kb c.W σ' E kb' W ∧ DenL σ' E vs xs := by
  obtain ⟨h1, h2, h3, h4⟩ := canon_ok hc
  obtain ⟨k1, k2, k3⟩ := h.inv.sel h1 h4
  refine ⟨selSg σ o, ⟨k1, h.stp, ?_, h.le, fun b hb => h.own b (k2 b hb), h.new⟩, DenL.ren k3 h3 hd⟩
  obtain ⟨τ, hτ⟩ := h.pre
  refine ⟨(selSg σ o).drop c.σ.length, ?_⟩
  have e : (selSg σ o).take c.σ.length = c.σ := by
    unfold selSg
    rw [← List.map_take, h2, hτ]
    apply List.ext_getElem?
    intro i
    rcases Nat.lt_or_ge i c.σ.length with hi | hi
    · rw [List.getElem?_map, List.getElem?_range hi]
      simp [List.getElem?_append_left hi, List.getElem?_eq_getElem hi]
    · rw [List.getElem?_eq_none (by simp; exact hi), List.getElem?_eq_none hi]
  conv => lhs; rw [← List.take_append_drop c.σ.length (selSg σ o), e]
end Vc
