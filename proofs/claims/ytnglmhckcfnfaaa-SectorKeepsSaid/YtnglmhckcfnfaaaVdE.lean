/- New variables, addresses of fields and elements. -/
import Derived.Test.YtnglmhckcfnfaaaVdD
set_option linter.unusedSimpArgs false
set_option linter.unusedVariables false
namespace Vc
open Go

def eqv : Value → Value → Bool
  | .int .i64 a, .int .i64 b | .int .u8 a, .int .u8 b | .int .u16 a, .int .u16 b | .int .u32 a, .int .u32 b | .int .u64 a, .int .u64 b => decide (a = b)
  | .bool a, .bool b => a == b
  | _, _ => false
theorem eqv_ok {a b : Value} (h : eqv a b = true) : a = b := by
  unfold eqv at h
  split at h <;> simp_all
/-- Is the list n times this value, and then the rest? -/
def repB (z : Value) : Nat → List Value → Option (List Value)
  | 0, l => some l
  | n + 1, a :: l => match eqv a z with | true => repB z n l | false => none
  | _ + 1, [] => none
theorem repB_ok {z : Value} : ∀ {n : Nat} {l r : List Value}, repB z n l = some r → l = List.replicate n z ++ r
  | 0, l, r, h => by simp [repB] at h; subst h; simp
  | n + 1, [], r, h => by simp [repB] at h
  | n + 1, a :: l, r, h => by
    simp only [repB] at h
    split at h
    · rename_i e; rw [eqv_ok e, repB_ok h]; simp [List.replicate_succ]
    · cases h

/-- The cells of a zero value, in their pieces. -/
def zeroC : List CK → List Value → Option (List V)
  | [], [] => some []
  | .arr m z :: ks, cs => match repB z m cs, z.oneCell' with
    | some r, true => match zeroC ks r with | some us => some (.arr m (List.replicate m (.val z)) :: us) | none => none
    | _, _ => none
  | _ :: ks, c :: cs => match c.oneCell' with
    | true => match zeroC ks cs with | some us => some (cvc1 c :: us) | none => none
    | false => none
  | _, _ => none
theorem zeroC_ok (σ : Sg) (E : EH) : ∀ {ks : List CK} {cs : List Value} {us : List V}, zeroC ks cs = some us → DenC σ E us cs
  | [], [], us, h => by simp [zeroC] at h; subst h; exact .nil
  | [], _ :: _, us, h => by simp [zeroC] at h
  | c :: ks, cs, us, h => by
    have single : ∀ {x : Value} {cs' : List Value}, cs = x :: cs' → (match x.oneCell' with | true => (match zeroC ks cs' with | some us => some (cvc1 x :: us) | none => none) | false => none) = some us → DenC σ E us cs := by
      rintro x cs' rfl h
      split at h <;> try (cases h; done)
      rename_i h1
      split at h <;> try (cases h; done)
      rename_i us' hus
      cases h
      exact .cons1 (cvc1_den σ E x) h1 (zeroC_ok σ E hus)
    cases c with
    | arr m z =>
      simp only [zeroC] at h
      split at h <;> try (cases h; done)
      rename_i r hr h1
      split at h <;> try (cases h; done)
      rename_i us' hus
      cases h
      rw [repB_ok hr]
      exact .cons (.inr ⟨m, _, rfl, by simp, DenD.replicate (show RepD E (.val z) z from ⟨rfl, h1⟩) m⟩) (zeroC_ok σ E hus)
    | int k => cases cs with | nil => simp [zeroC] at h | cons v vs' => exact single rfl (by simpa only [zeroC] using h)
    | bool => cases cs with | nil => simp [zeroC] at h | cons v vs' => exact single rfl (by simpa only [zeroC] using h)
    | sl s => cases cs with | nil => simp [zeroC] at h | cons v vs' => exact single rfl (by simpa only [zeroC] using h)
    | other => cases cs with | nil => simp [zeroC] at h | cons v vs' => exact single rfl (by simpa only [zeroC] using h)

/-- A new block of cells of ours. -/
theorem alloc_cells {σ : Sg} {E : EH} {kb : KB} {W : World} (hi : Inv σ E kb W) {vs : List V} {xs : List Value} (hd : DenC σ E vs xs) (ty : TypeId) :
    ∃ σ', Step σ E kb W σ' E (kb ++ [.cells vs]) (W.alloc (.cells xs.toArray ty)) ∧ Den σ' E (.ptr kb.length 0) (.pointer (some ⟨W.heap.size, 0, none⟩)) := by
  have ho : HoldsO (σ ++ [⟨W.heap.size, 0, 0⟩]) E (W.alloc (.cells xs.toArray ty)) ⟨W.heap.size, 0, 0⟩ (.cells vs) := by
    refine ⟨xs.toArray, ty, ?_, ?_⟩
    · show (W.heap.push _)[W.heap.size]? = _
      simp
    · exact DenC.mono (EH.le.refl E) hd
  refine ⟨σ ++ [⟨W.heap.size, 0, 0⟩], hi.alloc _ ⟨W.heap.size, 0, 0⟩ (.cells vs) (fun b hb => hb) ho, ?_⟩
  · simp only [Den]
    exact ⟨⟨W.heap.size, 0, 0⟩, by rw [← hi.len]; simp, rfl⟩

/-- A new row of ours. -/
theorem alloc_row {σ : Sg} {E : EH} {kb : KB} {W : World} (hi : Inv σ E kb W) {ty : TypeId} {sz cap : Nat} {l : List (List D)} {arr : Array Value} (h1 : wl sz l) (h2 : l.length ≤ cap)
    (h3 : cap ≤ maxLen) (h4 : arr.size = cap * sz) (h5 : DenD E l.flatten (arr.toList.take (l.length * sz))) :
    Step σ E kb W (σ ++ [⟨W.heap.size, cap, sz⟩]) E (kb ++ [.row ty sz l]) (W.alloc (.cells arr ty)) := by
  refine hi.alloc _ _ _ (fun b hb => hb.2) ⟨rfl, h1, h2, h3, .inr ⟨arr, ?_, h4, h5⟩⟩
  show (W.heap.push _)[W.heap.size]? = _
  simp

/-- A zero value of type t, in its pieces. -/
def zeroV (P : Program) (t : TypeId) : Option (List V) :=
  match (P.info? t).bind (·.zero), kindsOf P 20 t with
  | some z, some ks => zeroC ks z.cells.toList
  | _, _ => none
def allocK (P : Program) (t : TypeId) (kb : KB) (K : V → KB → Prop) : Prop :=
  match zeroV P t with
  | some vs => K (.ptr kb.length 0) (kb ++ [.cells vs])
  | none => False

theorem run_alloc {P : Program} {t : TypeId} {z : Value} (h : (P.info? t).bind (·.zero) = some z) (W : World) :
    (Instr.alloc t true (.tuple #[])).run P W = .ok (.pointer (some ⟨W.heap.size, 0, none⟩)) (W.alloc (.cells z.cells t)) := by
  obtain ⟨i, hi, hz⟩ := Option.bind_eq_some_iff.1 h
  simp [Instr.alloc, zeroValue, typeInfo, hi, hz, newVar, newRow]

theorem allocK_ok {P : Program} {t : TypeId} {kb : KB} {K : V → KB → Prop} (h : allocK P t kb K) {σ : Sg} {E : EH} {W : World} (hi : Inv σ E kb W) :
    ∃ v x σ' kb' W', (Instr.alloc t true (.tuple #[])).run P W = .ok x W' ∧ Step σ E kb W σ' E kb' W' ∧ Den σ' E v x ∧ K v kb' := by
  unfold allocK zeroV at h
  split at h <;> try exact h.elim
  rename_i vs hvs
  split at hvs <;> try (cases hvs; done)
  rename_i z ks hz hks
  obtain ⟨σ', h1, h2⟩ := alloc_cells hi (zeroC_ok σ E hvs) t
  exact ⟨_, _, σ', _, _, run_alloc hz W, by simpa using h1, h2, h⟩

def boxK (P : Program) (t : TypeId) (v : V) (kb : KB) (K : V → KB → Prop) : Prop :=
  match cellsV P t v with
  | some vs => K (.ptr kb.length 0) (kb ++ [.cells vs])
  | none => False

theorem boxK_ok {P : Program} {t : TypeId} {v : V} {kb : KB} {K : V → KB → Prop} (h : boxK P t v kb K) {σ : Sg} {E : EH} {W : World} (hi : Inv σ E kb W) {y : Value} (hy : Den σ E v y) :
    ∃ u x σ' kb' W', (Instr.box t y).run P W = .ok x W' ∧ Step σ E kb W σ' E kb' W' ∧ Den σ' E u x ∧ K u kb' := by
  unfold boxK at h
  split at h
  · rename_i vs hvs
    obtain ⟨xs, hc, hD, _, _⟩ := cellsV_ok hvs hy
    obtain ⟨σ', h1, h2⟩ := alloc_cells hi hD t
    exact ⟨_, _, σ', _, _, by simp [Instr.box, newVar, newRow, hc], h1, h2, h⟩
  · exact h.elim

/-! ### Addresses -/
def fieldK (P : Program) (s : TypeId) (addr : V) (n : Nat) (K : V → Prop) : Prop :=
  match P.underlying s with
  | some (.struct fs) =>
    match fs[n]? with
    | some f =>
      match tSize P f.type with
      | some (_ + 1) =>
        match addr with
        | .ptr i off => K (.ptr i (off + f.offset))
        | .pe i ix fld => K (.pe i ix (fld + f.offset))
        | .ipe e fld => K (.ipe e (fld + f.offset))
        | _ => False
      | _ => False
    | none => False
  | _ => False

theorem run_fieldAt {P : Program} {s : TypeId} {fs : Array Field} {n : Nat} {f : Field} {m : Nat} (hs : P.underlying s = some (.struct fs)) (hf : fs[n]? = some f) (hm : tSize P f.type = some (m + 1)) (b o : Nat) (W : World) :
    (Instr.fieldAt s (.pointer (some ⟨b, o, none⟩)) n).run P W = .ok (.pointer (some ⟨b, o + f.offset, none⟩)) W := by
  simp [Instr.fieldAt, run_underlying hs, hf, Instr.sureAddr, fieldPlace, run_tSize hm, Addr.add_lit]

theorem fieldK_ok {P : Program} {s : TypeId} {addr : V} {n : Nat} {K : V → Prop} (h : fieldK P s addr n K) {σ : Sg} {E : EH} {a : Value} (hd : Den σ E addr a) :
    ∃ v x, (∀ W, (Instr.fieldAt s a n).run P W = .ok x W) ∧ Den σ E v x ∧ K v := by
  unfold fieldK at h
  split at h <;> try exact h.elim
  rename_i fs hs
  split at h <;> try exact h.elim
  rename_i f hf
  split at h <;> try exact h.elim
  rename_i m hm
  split at h <;> try exact h.elim
  · simp only [Den] at hd
    obtain ⟨r, hr, rfl⟩ := hd
    exact ⟨_, _, fun W => run_fieldAt hs hf hm _ _ W, by simp only [Den]; exact ⟨r, hr, rfl⟩, h⟩
  · simp only [Den] at hd
    obtain ⟨r, hr, rfl⟩ := hd
    exact ⟨_, _, fun W => run_fieldAt hs hf hm _ _ W, by simp only [Den]; exact ⟨r, hr, by rw [Nat.add_assoc]⟩, h⟩
  · simp only [Den] at hd
    obtain ⟨b, off, rfl, hr⟩ := hd
    exact ⟨_, _, fun W => run_fieldAt hs hf hm _ _ W, by simp only [Den]; exact ⟨b, off, by rw [Nat.add_assoc], hr⟩, h⟩

/-- An index that is within. -/
def InB (n : Int) (m : Nat) : Prop := 0 ≤ n ∧ n < (m : Int)
def NonN (n : Int) : Prop := 0 ≤ n
/-- Case by case. -/
def casesI : Nat → Nat → (Nat → Prop) → Prop
  | 0, _, _ => True
  | 1, j, p => p j
  | k + 2, j, p => p j ∧ casesI (k + 1) (j + 1) p
theorem casesI_at : ∀ {k j : Nat} {p : Nat → Prop}, casesI k j p → ∀ i, j ≤ i → i < j + k → p i
  | 0, j, p, _, i, h1, h2 => by omega
  | 1, j, p, h, i, h1, h2 => by have : i = j := by omega
                                subst this; exact h
  | k + 2, j, p, h, i, h1, h2 => by
    by_cases e : i = j
    · subst e; exact h.1
    · exact casesI_at h.2 i (by omega) (by omega)

def numOf : V → Option Int
  | .int _ n => some n
  | .lit _ n => some n
  | _ => none
theorem numOf_den {v : V} {n : Int} (h : numOf v = some n) {σ : Sg} {E : EH} {x : Value} (hd : Den σ E v x) : ∃ k, x = .int k n := by
  cases v <;> simp only [numOf, Option.some.injEq, reduceCtorEq] at h <;> subst h <;> exact ⟨_, by simpa only [Den] using hd⟩
def isL : V → Bool
  | .lit _ _ => true
  | _ => false

def indexK (P : Program) (t : TypeId) (x ix : V) (kb : KB) (K : V → Prop) : Prop :=
  match P.underlying t, numOf ix with
  | some (.slice elem), some n =>
    match tSize P elem with
    | some (s + 1) => match x with
      | .sl i lo hi => match kb[i]? with
        | some (.row _ sz _) => match Nat.beq sz (s + 1) with
          | true => InB n (hi - lo) ∧ K (.pe i (lo + n.toNat) 0)
          | false => False
        | _ => False
      | .dat (.sl sz l) => match Nat.beq sz (s + 1) with
        | true => NonN n ∧ ∃ e, l[n.toNat]? = some e ∧ K (.ipe e 0)
        | false => False
      | .sa i base o s' m c => match Nat.beq s' (s + 1) with
        | true => InB n m ∧ K (.pa i base (o + n.toNat * s'))
        | false => False
      | .se i j o s' m c => match Nat.beq s' (s + 1) with
        | true => InB n m ∧ K (.pe i j (o + n.toNat * s'))
        | false => False
      | _ => False
    | _ => False
  | some (.array m elem), some n =>
    match tSize P elem with
    | some s => match x with
      | .ptr i off => match kb[i]? with
        | some (.cells l) => match pieceAt l off with
          | some (.arr _ _) => InB n m ∧ K (.pa i off (n.toNat * s))
          | _ => match isL ix with
            | true => InB n m ∧ K (.ptr i (off + n.toNat * s))
            | false => InB n m ∧ casesI m 0 (fun j => n = (j : Int) → K (.ptr i (off + j * s)))
        | _ => False
      | .pa i base o => InB n m ∧ K (.pa i base (o + n.toNat * s))
      | .pe i j fld => InB n m ∧ K (.pe i j (fld + n.toNat * s))
      | .ipe e fld => InB n m ∧ K (.ipe e (fld + n.toNat * s))
      | _ => False
    | none => False
  | _, _ => False

theorem run_index_slice {P : Program} {t elem : TypeId} {s : Nat} (ht : P.underlying t = some (.slice elem)) (hs : tSize P elem = some s) {b o len cap : Nat} {k : IntKind} {n : Int} (h0 : 0 ≤ n) (h1 : n < (len : Int)) (W : World) :
    (Instr.indexAt t (.slice (some ⟨b, o, none⟩) len cap) (.int k n)).run P W = .ok (.pointer (some ⟨b, o + n.toNat * s, none⟩)) W := by
  simp [Instr.indexAt, asIntOf, run_underlying ht, h0, h1, run_tSize hs, Addr.add_lit]

theorem run_index_array {P : Program} {t elem : TypeId} {m s : Nat} (ht : P.underlying t = some (.array m elem)) (hs : tSize P elem = some s) {b o : Nat} {k : IntKind} {n : Int} (h0 : 0 ≤ n) (h1 : n < (m : Int)) (W : World) :
    (Instr.indexAt t (.pointer (some ⟨b, o, none⟩)) (.int k n)).run P W = .ok (.pointer (some ⟨b, o + n.toNat * s, none⟩)) W := by
  simp [Instr.indexAt, asIntOf, run_underlying ht, h0, h1, run_tSize hs, Addr.add_lit, Instr.sureAddr]

theorem RepL.at {E : EH} {sz : Nat} {l : List (List D)} {b off : Nat} (h : RepL E sz l b off) {ix : Nat} {e : List D} (he : l[ix]? = some e) : RepC E e b (off + ix * sz) := by
  have := h.flat.sub (ix * sz) sz
  rwa [flat_sub h.wl he] at this

theorem indexK_ok {P : Program} {t : TypeId} {x ix : V} {kb : KB} {K : V → Prop} (h : indexK P t x ix kb K) {σ : Sg} {E : EH} {W : World} (hi : Inv σ E kb W) {a y : Value} (hd : Den σ E x a) (hy : Den σ E ix y) :
    ∃ v z, (∀ W, (Instr.indexAt t a y).run P W = .ok z W) ∧ Den σ E v z ∧ K v := by
  unfold indexK at h
  split at h <;> try exact h.elim
  · rename_i elem n ht hn
    obtain ⟨k, rfl⟩ := numOf_den hn hy
    split at h <;> try exact h.elim
    rename_i s hs
    split at h <;> try exact h.elim
    · rename_i i lo hi'
      split at h <;> try exact h.elim
      rename_i ty sz l hl
      split at h <;> try exact h.elim
      rename_i hb
      have hsz := Nat.eq_of_beq_eq_true hb
      obtain ⟨⟨h0, h1⟩, hK⟩ := h
      simp only [Den] at hd
      obtain ⟨r, ad, hr, rfl, hlo, hhi, had⟩ := hd
      have hrs := (hi.obj i r _ hr hl).1
      rw [had (by omega)]
      exact ⟨_, _, fun W => run_index_slice ht hs h0 h1 W, by simp only [Den]; exact ⟨r, hr, by simp [hrs, hsz, Nat.add_mul]⟩, hK⟩
    · rename_i sz l
      split at h <;> try exact h.elim
      rename_i hb
      have hsz := Nat.eq_of_beq_eq_true hb
      obtain ⟨h0, e, he, hK⟩ := h
      unfold NonN at h0
      simp only [Den, RepD] at hd
      obtain ⟨ad, cap, rfl, hcap, hrep⟩ := hd
      have hn' : n.toNat < l.length := (List.getElem?_eq_some_iff.1 he).1
      rcases hrep with hrep | ⟨b, off, rfl, hrep⟩
      · omega
      · refine ⟨_, _, fun W => run_index_slice ht hs h0 (by omega) W, ?_, hK⟩
        simp only [Den]
        exact ⟨b, off + n.toNat * (s + 1), by simp, by rw [← hsz]; exact hrep.at he⟩
    · rename_i i base o s' m c
      split at h <;> try exact h.elim
      rename_i hb
      have hsz := Nat.eq_of_beq_eq_true hb
      obtain ⟨⟨h0, h1⟩, hK⟩ := h
      simp only [Den] at hd
      obtain ⟨r, ad, hr, rfl, hmc, had⟩ := hd
      rw [had (by omega)]
      exact ⟨_, _, fun W => run_index_slice ht hs h0 h1 W, by simp only [Den]; exact ⟨r, hr, by rw [hsz, Nat.add_assoc]⟩, hK⟩
    · rename_i i j o s' m c
      split at h <;> try exact h.elim
      rename_i hb
      have hsz := Nat.eq_of_beq_eq_true hb
      obtain ⟨⟨h0, h1⟩, hK⟩ := h
      simp only [Den] at hd
      obtain ⟨r, ad, hr, rfl, hmc, had⟩ := hd
      rw [had (by omega)]
      exact ⟨_, _, fun W => run_index_slice ht hs h0 h1 W, by simp only [Den]; exact ⟨r, hr, by rw [hsz, Nat.add_assoc]⟩, hK⟩
  · rename_i m elem n ht hn
    obtain ⟨k, rfl⟩ := numOf_den hn hy
    split at h <;> try exact h.elim
    rename_i s hs
    split at h <;> try exact h.elim
    · rename_i i off
      simp only [Den] at hd
      obtain ⟨r, hr, rfl⟩ := hd
      split at h <;> try exact h.elim
      rename_i l hl
      split at h
      · obtain ⟨⟨h0, h1⟩, hK⟩ := h
        exact ⟨_, _, fun W => run_index_array ht hs h0 h1 W, by simp only [Den]; exact ⟨r, hr, rfl⟩, hK⟩
      · split at h
        · obtain ⟨⟨h0, h1⟩, hK⟩ := h
          exact ⟨_, _, fun W => run_index_array ht hs h0 h1 W, by simp only [Den]; exact ⟨r, hr, rfl⟩, hK⟩
        · obtain ⟨⟨h0, h1⟩, hK⟩ := h
          have := casesI_at hK n.toNat (Nat.zero_le _) (by omega) (by omega)
          exact ⟨_, _, fun W => run_index_array ht hs h0 h1 W, by simp only [Den]; exact ⟨r, hr, rfl⟩, this⟩
    · rename_i i base o
      simp only [Den] at hd
      obtain ⟨r, hr, rfl⟩ := hd
      obtain ⟨⟨h0, h1⟩, hK⟩ := h
      exact ⟨_, _, fun W => run_index_array ht hs h0 h1 W, by simp only [Den]; exact ⟨r, hr, by rw [Nat.add_assoc]⟩, hK⟩
    · rename_i i j fld
      simp only [Den] at hd
      obtain ⟨r, hr, rfl⟩ := hd
      obtain ⟨⟨h0, h1⟩, hK⟩ := h
      exact ⟨_, _, fun W => run_index_array ht hs h0 h1 W, by simp only [Den]; exact ⟨r, hr, by rw [Nat.add_assoc]⟩, hK⟩
    · rename_i e fld
      simp only [Den] at hd
      obtain ⟨b, off, rfl, hr⟩ := hd
      obtain ⟨⟨h0, h1⟩, hK⟩ := h
      exact ⟨_, _, fun W => run_index_array ht hs h0 h1 W, by simp only [Den]; exact ⟨b, off, by rw [Nat.add_assoc], hr⟩, hK⟩
end Vc
