/- What comes in: arguments that can be read as data, of numbers and bools, as symbolic values. -/
import Derived.Test.YtgadaeodoapgiaaVcN
import Derived.ProofKit
import Derived.OpenShut
import Derived.Carry
set_option linter.unusedVariables false
namespace Vc
open Go

def ConfC : CK → Value → Prop
  | .int k, v => ∃ n, v = .int k n ∧ (Lit.int k n).wf = true
  | .bool, v => ∃ b, v = .bool b
  | .other, _ => False
def Conf : List CK → List Value → Prop
  | [], vs => vs = []
  | k :: ks, vs => ∃ v vs', vs = v :: vs' ∧ ConfC k v ∧ Conf ks vs'
theorem Conf.len : ∀ {ks : List CK} {vs : List Value}, Conf ks vs → vs.length = ks.length
  | [], _, h => by simp only [Conf] at h; simp [h]
  | k :: ks, _, h => by simp only [Conf] at h; obtain ⟨v, vs', rfl, _, h2⟩ := h; simp [h2.len]
theorem Conf.append : ∀ {ks : List CK} {vs : List Value}, Conf ks vs → ∀ {ls : List CK} {us : List Value}, Conf ls us → Conf (ks ++ ls) (vs ++ us)
  | [], _, h, _, _, k => by simp only [Conf] at h; subst h; simpa using k
  | k :: ks, _, h, _, _, k' => by
    simp only [Conf] at h
    obtain ⟨v, vs', rfl, h1, h2⟩ := h
    exact ⟨v, _, rfl, h1, h2.append k'⟩
theorem Conf.one : ∀ {ks : List CK} {vs : List Value}, Conf ks vs → ∀ c ∈ vs, c.oneCell' = true
  | [], _, h, c, hc => by simp only [Conf] at h; subst h; cases hc
  | k :: ks, _, h, c, hc => by
    simp only [Conf] at h
    obtain ⟨v, vs', rfl, h1, h2⟩ := h
    rcases List.mem_cons.1 hc with rfl | hc
    · cases k with
      | int k => obtain ⟨n, rfl, _⟩ := h1; rfl
      | bool => obtain ⟨b, rfl⟩ := h1; rfl
      | other => exact h1.elim
    · exact h2.one c hc

/-- The kinds of the cells of a type of numbers and bools. -/
def shapeT (P : Program) : Nat → TypeId → Option (List CK)
  | 0, _ => none
  | n + 1, t =>
    match P.underlying t with
    | some .bool => some [.bool]
    | some (.int k) => some [.int k]
    | some (.struct fs) => fs.toList.foldl (fun acc f => match acc, shapeT P n f.type with
      | some ks, some l => match Nat.beq ks.length f.offset, Nat.beq l.length (P.cellsOf f.type) with
        | true, true => some (ks ++ l)
        | _, _ => none
      | _, _ => none) (some [])
    | some (.array m e) => match shapeT P n e with
      | some l => match Nat.beq l.length (P.cellsOf e) with
        | true => some (List.replicate m l).flatten
        | false => none
      | none => none
    | _ => none

theorem mapM_get {α β : Type} {f : α → Option β} : ∀ {l : List α} {r : List β}, l.mapM f = some r → r.length = l.length ∧ ∀ (i : Nat) (a : α), l[i]? = some a → ∃ b, f a = some b ∧ r[i]? = some b
  | [], r, h => by simp at h; subst h; simp
  | a :: l, r, h => by
    simp only [List.mapM_cons, Option.bind_eq_bind, Option.bind_eq_some_iff, Option.pure_def, Option.some.injEq] at h
    obtain ⟨b, hb, rs, hrs, rfl⟩ := h
    obtain ⟨h1, h2⟩ := mapM_get hrs
    refine ⟨by simp [h1], fun i x hx => ?_⟩
    cases i with
    | zero => simp at hx; subst hx; exact ⟨b, hb, rfl⟩
    | succ i => simpa using h2 i x (by simpa using hx)

section
variable {H : Type} {enc : TypeId × Value → H} {P : Program} {w : World} {base : Nat} {spare : Nat → Bool} {held : Bool}

theorem trod_conf : ∀ (m fuel : Nat) (t : TypeId) (cs : List Value) (ks : List CK) (x : DataW H × List MemPlace), shapeT P m t = some ks → DataW.trod enc P w base spare held fuel t cs = some x → Conf ks (cs.take ks.length)
  | 0, _, _, _, _, _, h, _ => by simp [shapeT] at h
  | m + 1, 0, _, _, _, _, _, h => by simp [DataW.trod] at h
  | m + 1, fuel + 1, t, cs, ks, x, hs, hx => by
    simp only [shapeT] at hs
    unfold DataW.trod at hx
    split at hs
    · rename_i ht
      cases hs
      simp only [ht] at hx
      split at hx <;> try (simp at hx; done)
      all_goals rename_i heq; simp at heq
      exact ⟨_, [], rfl, ⟨_, rfl⟩, rfl⟩
    · rename_i k ht
      cases hs
      simp only [ht] at hx
      split at hx <;> try (simp at hx; done)
      all_goals rename_i heq; simp at heq
      subst heq
      split at hx
      · rename_i hc
        obtain ⟨rfl, hw⟩ := hc
        exact ⟨_, [], rfl, ⟨_, rfl, hw⟩, rfl⟩
      · cases hx
    · rename_i fs ht
      simp only [ht] at hx
      split at hx
      · simp only [Option.map_eq_some_iff] at hx
        obtain ⟨xs, hxs, _⟩ := hx
        obtain ⟨_, hget⟩ := mapM_get hxs
        have key : ∀ (l : List Field) (acc ks : List CK), (∀ f ∈ l, ∃ y, DataW.trod enc P w base spare held fuel f.type ((cs.drop f.offset).take (P.cellsOf f.type)) = some y) → Conf acc (cs.take acc.length) →
            l.foldl (fun acc f => match acc, shapeT P m f.type with
              | some ks, some l => match Nat.beq ks.length f.offset, Nat.beq l.length (P.cellsOf f.type) with
                | true, true => some (ks ++ l)
                | _, _ => none
              | _, _ => none) (some acc) = some ks → Conf ks (cs.take ks.length) := by
          intro l
          induction l with
          | nil => intro acc ks _ hacc hf; simp only [List.foldl_nil, Option.some.injEq] at hf; subst hf; exact hacc
          | cons f l ih =>
            intro acc ks hall hacc hf
            simp only [List.foldl_cons] at hf
            have hnone : ∀ l : List Field, l.foldl (fun acc f => match acc, shapeT P m f.type with
              | some ks, some l => match Nat.beq ks.length f.offset, Nat.beq l.length (P.cellsOf f.type) with
                | true, true => some (ks ++ l)
                | _, _ => none
              | _, _ => none) (none : Option (List CK)) = none := by
              intro l; induction l with
              | nil => rfl
              | cons a l ih => exact ih
            cases hsf : shapeT P m f.type with
            | none => rw [hsf] at hf; exact absurd (hf.symm.trans (hnone l)) (by simp)
            | some sl =>
              rw [hsf] at hf
              simp only [] at hf
              cases hb1 : Nat.beq acc.length f.offset with
              | false => simp only [hb1] at hf; exact absurd (hf.symm.trans (hnone l)) (by simp)
              | true =>
              cases hb2 : Nat.beq sl.length (P.cellsOf f.type) with
              | false => simp only [hb1, hb2] at hf; exact absurd (hf.symm.trans (hnone l)) (by simp)
              | true =>
                simp only [hb1, hb2] at hf
                have e1 := Nat.eq_of_beq_eq_true hb1
                have e2 := Nat.eq_of_beq_eq_true hb2
                obtain ⟨y, hy⟩ := hall f List.mem_cons_self
                have hc := trod_conf m fuel f.type _ sl y hsf hy
                rw [← e2, List.take_take, Nat.min_self, ← e1] at hc
                refine ih (acc ++ sl) ks (fun g hg => hall g (List.mem_cons_of_mem _ hg)) ?_ hf
                rw [List.length_append, List.take_add]
                exact hacc.append hc
        refine key fs.toList [] ks (fun f hf => ?_) (by simp [Conf]) hs
        obtain ⟨i, hi⟩ := List.getElem?_of_mem hf
        obtain ⟨b, hb, _⟩ := hget i f hi
        exact ⟨b, hb⟩
      · cases hx
    · rename_i n e ht
      simp only [ht] at hx
      split at hx
      · simp only [Option.map_eq_some_iff] at hx
        obtain ⟨xs, hxs, _⟩ := hx
        obtain ⟨_, hget⟩ := mapM_get hxs
        split at hs <;> try (cases hs; done)
        rename_i l hl
        split at hs <;> try (cases hs; done)
        rename_i hb
        cases hs
        have e2 := Nat.eq_of_beq_eq_true hb
        have key : ∀ k, k ≤ n → Conf (List.replicate k l).flatten (cs.take (List.replicate k l).flatten.length) := by
          intro k
          induction k with
          | zero => intro _; simp [Conf]
          | succ k ih =>
            intro hk
            obtain ⟨y, hy, _⟩ := hget k k (List.getElem?_range (by omega))
            have hc := trod_conf m fuel e _ l y hl hy
            rw [← e2, List.take_take, Nat.min_self] at hc
            have hlen : (List.replicate k l).flatten.length = k * l.length := by simp
            rw [List.replicate_succ', List.flatten_append, List.length_append, List.take_add, hlen]
            simp only [List.flatten_cons, List.flatten_nil, List.append_nil]
            rw [← hlen]
            refine (ih (by omega)).append ?_
            rw [hlen]
            exact hc
        exact key n (Nat.le_refl _)
      · cases hx
    · cases hs

/-- A value of a type of several cells. -/
theorem open_cells {t : TypeId} {ks : List CK} (hs : shapeT P 20 t = some ks) (ha : tAgg P t = some true) (hc : P.cellsOf t = ks.length) {r : Reach} {b0 : Nat} {v : Value} (hv : Value.okWide P w r b0 t v) {d : DataW H} {p : List MemPlace} (h : DataW.Trod enc P w base spare held t v d p) :
    ∃ cs, v = .agg cs.toArray ∧ Conf ks cs := by
  have : ∃ cs : Array Value, v = .agg cs ∧ cs.size = P.cellsOf t := by
    unfold tAgg at ha
    unfold Value.okWide at hv
    split at ha <;> try (cases ha; done)
    · rename_i fs hu; simp only [hu] at hv; obtain ⟨cs, h1, h2, _⟩ := hv; exact ⟨cs, h1, h2⟩
    · rename_i n e hu; simp only [hu] at hv; obtain ⟨cs, h1, h2, _⟩ := hv; exact ⟨cs, h1, h2⟩
  obtain ⟨cs, rfl, hsz⟩ := this
  obtain ⟨fuel, hf⟩ := h
  have := trod_conf 20 fuel t _ ks _ hs hf
  rw [Value.cells, List.take_of_length_le (by simp; omega)] at this
  exact ⟨cs.toList, by simp, this⟩

theorem cells?_at {a : Addr} {n : Nat} {cs : List Value} (h : w.cells? base a n = some cs) : cs.length = n ∧ ∀ (j : Nat) (x : Value), cs[j]? = some x → w.cell? (a.add j) = some x := by
  unfold World.cells? at h
  split at h
  · obtain ⟨h1, h2⟩ := mapM_get h
    refine ⟨by simpa using h1, fun j x hj => ?_⟩
    have hlt : j < n := by
      have := (List.getElem?_eq_some_iff.1 hj).1
      rw [h1] at this
      simpa using this
    obtain ⟨b, hb, hb2⟩ := h2 j j (by simp [hlt])
    rw [hj] at hb2; cases hb2
    exact hb
  · cases h

/-- A slice of elements of numbers and bools. -/
theorem open_slice' {t e : TypeId} {ks : List CK} (ht : P.underlying t = some (.slice e)) (hs : shapeT P 20 e = some ks) (hc : P.cellsOf e = ks.length) (hk : 0 < ks.length) {v : Value} (hv : ∃ a len cap, v = .slice a len cap) {d : DataW H} {p : List MemPlace} (h : DataW.Trod enc P w base spare held t v d p) :
    ∃ l : List (List Value), (∀ x ∈ l, Conf ks x) ∧ Den [] (baseE w) (.isl ks.length l) v ∧ l.length ≤ maxLen := by
  obtain ⟨a, len, cap, rfl⟩ := hv
  obtain ⟨fuel, hf⟩ := h
  cases fuel with
  | zero => simp [DataW.trod] at hf
  | succ fuel =>
    unfold DataW.trod at hf
    simp only [ht, Value.cells] at hf
    cases a with
    | none =>
      have : len = 0 ∧ cap = 0 := by
        cases len <;> cases cap <;> simp_all
      obtain ⟨rfl, rfl⟩ := this
      refine ⟨[], fun x hx => (by cases hx), ?_, by simp⟩
      simp only [Den, RepD]
      exact ⟨fun e he => (by cases he), none, 0, 0, rfl, by simp, Nat.le_refl _, .inl rfl⟩
    | some a =>
      simp only at hf
      split at hf
      · rename_i hcnd
        obtain ⟨hb, hlc, hcm⟩ := hcnd
        simp only [Option.bind_eq_some_iff] at hf
        obtain ⟨elems, hel, hrest⟩ := hf
        obtain ⟨hell, hget⟩ := mapM_get hel
        have hex : ∀ i, i < len → ∃ cs, w.cells? base (a.add (i * P.cellsOf e)) (P.cellsOf e) = some cs ∧ Conf ks cs := by
          intro i hi
          obtain ⟨b, hb, _⟩ := hget i i (by simp [hi])
          simp only [Option.bind_eq_some_iff] at hb
          obtain ⟨cs, h1, h2⟩ := hb
          have h3 := trod_conf 20 fuel e cs ks _ hs h2
          rw [List.take_of_length_le (by rw [(cells?_at h1).1]; omega)] at h3
          exact ⟨cs, h1, h3⟩
        have hl : ∃ l : List (List Value), l.length = len ∧ ∀ i c, l[i]? = some c → w.cells? base (a.add (i * P.cellsOf e)) (P.cellsOf e) = some c ∧ Conf ks c := by
          clear hell hget hel hcm hlc hrest
          induction len with
          | zero => exact ⟨[], rfl, by simp⟩
          | succ len ih =>
            obtain ⟨l, h1, h2⟩ := ih (fun i hi => hex i (by omega))
            obtain ⟨c, h3, h4⟩ := hex len (by omega)
            refine ⟨l ++ [c], by simp [h1], fun i c' hc' => ?_⟩
            rcases Nat.lt_trichotomy i l.length with hi | hi | hi
            · rw [List.getElem?_append_left hi] at hc'
              exact h2 i c' hc'
            · subst hi
              simp at hc'
              subst hc'
              rw [h1]
              exact ⟨h3, h4⟩
            · rw [List.getElem?_eq_none (by simp; omega)] at hc'; cases hc'
        obtain ⟨l, hll, hl⟩ := hl
        have hconf : ∀ x ∈ l, Conf ks x := fun x hx => by
          obtain ⟨i, hi⟩ := List.getElem?_of_mem hx
          exact (hl i x hi).2
        refine ⟨l, hconf, ?_, by omega⟩
        simp only [Den, RepD]
        have hw : wellE ks.length l := fun x hx => ⟨(hconf x hx).len, (hconf x hx).one⟩
        refine ⟨hw, some a, len, cap, rfl, by rw [List.length_map, flatten_length hw.len, hll], hlc, ?_⟩
        by_cases h0 : len = 0
        · left
          have : l = [] := List.eq_nil_of_length_eq_zero (by omega)
          subst this; rfl
        · right
          obtain ⟨c0, k1, k2⟩ := hex 0 (by omega)
          have hcl := k2.len
          obtain ⟨x0, hx0⟩ : ∃ x, c0[0]? = some x := ⟨c0[0], List.getElem?_eq_getElem (by omega)⟩
          have hcell := (cells?_at k1).2 0 x0 hx0
          simp only [Nat.zero_mul] at hcell
          have ha0 : (a.add 0).add 0 = a := by simp [Addr.add]
          rw [ha0] at hcell
          have hspot := World.cell?_spot hcell
          obtain ⟨ab, ao, as⟩ := a
          simp only at hspot
          subst hspot
          refine ⟨ab, ao, rfl, RepDs_of_cells (fun j x hj => ?_)⟩
          have hcellj : w.cell? ⟨ab, ao + j, none⟩ = some x := by
            have hjl : j < l.flatten.length := (List.getElem?_eq_some_iff.1 hj).1
            rw [flatten_length hw.len] at hjl
            have hq : j / ks.length < l.length := Nat.div_lt_of_lt_mul (by rw [Nat.mul_comm]; exact hjl)
            have hmod : j % ks.length < ks.length := Nat.mod_lt _ hk
            have hdm : j / ks.length * ks.length + j % ks.length = j := Nat.div_add_mod' j ks.length
            obtain ⟨q1, q2⟩ := hl (j / ks.length) _ (List.getElem?_eq_getElem hq)
            have q3 := q2.len
            have hx2 := flatten_at hw.len (List.getElem?_eq_getElem hq) (List.getElem?_eq_getElem (l := l[j / ks.length]) (i := j % ks.length) (by omega))
            rw [hdm, hj] at hx2
            have := (cells?_at q1).2 (j % ks.length) x (by rw [List.getElem?_eq_getElem (by omega)]; exact hx2.symm)
            rw [Addr.add_lit, Addr.add_lit, hc, Nat.add_assoc, hdm] at this
            exact this
          show EH.cell (baseE w) ab (ao + j) = some x
          rw [← hcellj]
          unfold EH.cell baseE World.cell?
          cases w.heap[ab]? <;> rfl
      · cases hf
end
end Vc
