/- What comes in: arguments that can be read as data, as symbolic values. -/
import Derived.Test.YtnglmhckcfnfaaaVdN
import Derived.ProofKit
import Derived.OpenShut
import Derived.Carry
set_option linter.unusedSimpArgs false
set_option linter.unusedVariables false
namespace Vc
open Go

/-- Shapes of cells of data. -/
inductive SH where
  | int (k : IntKind)
  | bool
  | sl (es : List SH)
mutual
def ConfD : SH → D → Prop
  | .int k, d => ∃ n, d = .val (.int k n) ∧ (Lit.int k n).wf = true
  | .bool, d => ∃ b, d = .val (.bool b)
  | .sl es, d => ∃ l, d = .sl es.length l ∧ l.length ≤ maxLen ∧ ∀ e ∈ l, Conf es e
def Conf : List SH → List D → Prop
  | [], ds => ds = []
  | s :: ss, ds => ∃ d ds', ds = d :: ds' ∧ ConfD s d ∧ Conf ss ds'
end
theorem Conf.len : ∀ {ks : List SH} {vs : List D}, Conf ks vs → vs.length = ks.length
  | [], _, h => by simp only [Conf] at h; simp [h]
  | k :: ks, _, h => by simp only [Conf] at h; obtain ⟨v, vs', rfl, _, h2⟩ := h; simp [Conf.len h2]
theorem Conf.append : ∀ {ks : List SH} {vs : List D}, Conf ks vs → ∀ {ls : List SH} {us : List D}, Conf ls us → Conf (ks ++ ls) (vs ++ us)
  | [], _, h, _, _, k => by simp only [Conf] at h; subst h; simpa using k
  | k :: ks, _, h, _, _, k' => by
    simp only [Conf] at h
    obtain ⟨v, vs', rfl, h1, h2⟩ := h
    simp only [List.cons_append, Conf]
    exact ⟨v, _, rfl, h1, h2.append k'⟩

/-- The shapes of the cells of a type. -/
def shapeT (P : Program) : Nat → TypeId → Option (List SH)
  | 0, _ => none
  | n + 1, t =>
    match P.underlying t with
    | some .bool => some [.bool]
    | some (.int k) => some [.int k]
    | some (.slice e) => match shapeT P n e with
      | some (s :: ss) => match Nat.beq (s :: ss).length (P.cellsOf e) with
        | true => some [.sl (s :: ss)]
        | false => none
      | _ => none
    | some (.struct fs) => fs.toList.foldl (fun acc f => match acc, shapeT P n f.type with
      | some ks, some l => match Nat.beq ks.length f.offset, Nat.beq l.length (P.cellsOf f.type) with
        | true, true => some (ks ++ l)
        | _, _ => none
      | _, _ => none) (some [])
    | some (.array m e) => match shapeT P n e with
      | some l => match Nat.beq l.length (P.cellsOf e) with
        | true => some (List.replicate m l).flatten
        | false => none
      | none => none
    | _ => none

theorem mapM_get {α β : Type} {f : α → Option β} : ∀ {l : List α} {r : List β}, l.mapM f = some r → r.length = l.length ∧ ∀ (i : Nat) (a : α), l[i]? = some a → ∃ b, f a = some b ∧ r[i]? = some b
  | [], r, h => by simp at h; subst h; simp
  | a :: l, r, h => by
    simp only [List.mapM_cons, Option.bind_eq_bind, Option.bind_eq_some_iff, Option.pure_def, Option.some.injEq] at h
    obtain ⟨b, hb, rs, hrs, rfl⟩ := h
    obtain ⟨h1, h2⟩ := mapM_get hrs
    refine ⟨by simp [h1], fun i x hx => ?_⟩
    cases i with
    | zero => simp at hx; subst hx; exact ⟨b, hb, rfl⟩
    | succ i => simpa using h2 i x (by simpa using hx)

section
variable {H : Type} {enc : TypeId × Value → H} {P : Program} {w : World} {base : Nat} {spare : Nat → Bool} {held : Bool}

theorem cells?_at {a : Addr} {n : Nat} {cs : List Value} (h : w.cells? base a n = some cs) : cs.length = n ∧ ∀ (j : Nat) (x : Value), cs[j]? = some x → w.cell? (a.add j) = some x := by
  unfold World.cells? at h
  split at h
  · obtain ⟨h1, h2⟩ := mapM_get h
    refine ⟨by simpa using h1, fun j x hj => ?_⟩
    have hlt : j < n := by
      have := (List.getElem?_eq_some_iff.1 hj).1
      rw [h1] at this
      simpa using this
    obtain ⟨b, hb, hb2⟩ := h2 j j (by simp [hlt])
    rw [hj] at hb2; cases hb2
    exact hb
  · cases h


/-- Cells, and the data that they stand for. -/
def OpenD (w : World) (ks : List SH) (cs : List Value) : Prop := ∃ ds, DenD (baseE w) ds cs ∧ Conf ks ds
theorem OpenD.append {ks ls : List SH} {cs es : List Value} (h : OpenD w ks cs) (k : OpenD w ls es) : OpenD w (ks ++ ls) (cs ++ es) := by
  obtain ⟨ds, h1, h2⟩ := h
  obtain ⟨us, k1, k2⟩ := k
  exact ⟨ds ++ us, h1.append k1, h2.append k2⟩
theorem OpenD.nil : OpenD w [] [] := ⟨[], .nil, by simp [Conf]⟩
theorem OpenD.len {ks : List SH} {cs : List Value} (h : OpenD w ks cs) : cs.length = ks.length := by
  obtain ⟨ds, h1, h2⟩ := h
  rw [h1.len, h2.len]

theorem trod_conf : ∀ (m fuel : Nat) (t : TypeId) (cs : List Value) (ks : List SH) (x : DataW H × List MemPlace), shapeT P m t = some ks → DataW.trod enc P w base spare held fuel t cs = some x → OpenD w ks (cs.take ks.length)
  | 0, _, _, _, _, _, h, _ => by simp [shapeT] at h
  | m + 1, 0, _, _, _, _, _, h => by simp [DataW.trod] at h
  | m + 1, fuel + 1, t, cs, ks, x, hs, hx => by
    simp only [shapeT] at hs
    unfold DataW.trod at hx
    split at hs
    · rename_i ht
      cases hs
      simp only [ht] at hx
      split at hx <;> try (simp at hx; done)
      all_goals rename_i heq; simp at heq
      exact ⟨[.val _], .cons (show RepD _ (.val _) _ from ⟨rfl, rfl⟩) .nil, by simp only [Conf, ConfD]; exact ⟨_, [], rfl, ⟨_, rfl⟩, rfl⟩⟩
    · rename_i k ht
      cases hs
      simp only [ht] at hx
      split at hx <;> try (simp at hx; done)
      all_goals rename_i heq; simp at heq
      subst heq
      split at hx
      · rename_i hc
        obtain ⟨rfl, hw⟩ := hc
        exact ⟨[.val _], .cons (show RepD _ (.val _) _ from ⟨rfl, rfl⟩) .nil, by simp only [Conf, ConfD]; exact ⟨_, [], rfl, ⟨_, rfl, hw⟩, rfl⟩⟩
      · cases hx
    · rename_i e ht
      split at hs <;> try (cases hs; done)
      rename_i s0 ss0 hes
      split at hs <;> try (cases hs; done)
      rename_i hb
      cases hs
      have hc := (Nat.eq_of_beq_eq_true hb).symm
      obtain ⟨es, hes0⟩ : ∃ es, es = s0 :: ss0 := ⟨_, rfl⟩
      rw [← hes0] at hes hc ⊢
      have hk : 0 < es.length := by rw [hes0]; simp
      simp only [ht] at hx
      have wrap : ∀ {v : Value} {l : List (List D)}, RepD (baseE w) (.sl es.length l) v → l.length ≤ maxLen → (∀ e ∈ l, Conf es e) → OpenD w [.sl es] [v] := fun h1 h2 h3 =>
        ⟨[.sl es.length _], .cons h1 .nil, by simp only [Conf, ConfD]; exact ⟨_, [], rfl, ⟨_, rfl, h2, h3⟩, rfl⟩⟩
      split at hx <;> try (simp at hx; done)
      all_goals try (rename_i heq; simp at heq; done)
      · exact wrap (l := []) (by simp only [RepD]; exact ⟨none, 0, rfl, Nat.le_refl _, .inl rfl⟩) (by simp) (fun e he => by cases he)
      · rename_i a len cap heq
        simp only [Option.some.injEq, TypeDesc.slice.injEq] at heq
        subst heq
        simp only [List.length_cons, List.length_nil, List.take_succ_cons, List.take_zero]
        split at hx
        · rename_i hcnd
          obtain ⟨hb, hlc, hcm⟩ := hcnd
          simp only [Option.bind_eq_some_iff] at hx
          obtain ⟨elems, hel, hrest⟩ := hx
          obtain ⟨hell, hget⟩ := mapM_get hel
          have hex : ∀ i, i < len → ∃ cs ds, w.cells? base (a.add (i * P.cellsOf e)) (P.cellsOf e) = some cs ∧ DenD (baseE w) ds cs ∧ Conf es ds := by
            intro i hi
            obtain ⟨b, hb, _⟩ := hget i i (by simp [hi])
            simp only [Option.bind_eq_some_iff] at hb
            obtain ⟨cs, h1, h2⟩ := hb
            have h3 := trod_conf m fuel e cs es _ hes h2
            rw [List.take_of_length_le (by rw [(cells?_at h1).1]; omega)] at h3
            obtain ⟨ds, h4, h5⟩ := h3
            exact ⟨cs, ds, h1, h4, h5⟩
          have hl : ∃ l : List (List D), l.length = len ∧ ∀ i d, l[i]? = some d → ∃ c, w.cells? base (a.add (i * P.cellsOf e)) (P.cellsOf e) = some c ∧ DenD (baseE w) d c ∧ Conf es d := by
            clear hell hget hel hcm hlc hrest
            induction len with
            | zero => exact ⟨[], rfl, by simp⟩
            | succ len ih =>
              obtain ⟨l, h1, h2⟩ := ih (fun i hi => hex i (by omega))
              obtain ⟨c, d, h3, h4, h5⟩ := hex len (by omega)
              refine ⟨l ++ [d], by simp [h1], fun i d' hd' => ?_⟩
              rcases Nat.lt_trichotomy i l.length with hi | hi | hi
              · rw [List.getElem?_append_left hi] at hd'
                exact h2 i d' hd'
              · subst hi
                simp at hd'
                subst hd'
                rw [h1]
                exact ⟨c, h3, h4, h5⟩
              · rw [List.getElem?_eq_none (by simp; omega)] at hd'; cases hd'
          obtain ⟨l, hll, hl⟩ := hl
          have hconf : ∀ x ∈ l, Conf es x := fun x hx => by
            obtain ⟨i, hi⟩ := List.getElem?_of_mem hx
            obtain ⟨_, _, _, h⟩ := hl i x hi
            exact h
          have hw : wl es.length l := fun x hx => (hconf x hx).len
          refine wrap (l := l) ?_ (by omega) hconf
          simp only [RepD]
          refine ⟨some a, cap, by rw [hll], by omega, ?_⟩
          by_cases h0 : len = 0
          · left; omega
          · right
            obtain ⟨c0, d0, k1, k2, k3⟩ := hex 0 (by omega)
            have hcl := k2.len
            have hdl := k3.len
            obtain ⟨x0, hx0⟩ : ∃ x, c0[0]? = some x := ⟨c0[0], List.getElem?_eq_getElem (by omega)⟩
            have hcell := (cells?_at k1).2 0 x0 hx0
            simp only [Nat.zero_mul] at hcell
            have ha0 : (a.add 0).add 0 = a := by simp [Addr.add]
            rw [ha0] at hcell
            have hspot := World.cell?_spot hcell
            obtain ⟨ab, ao, as⟩ := a
            simp only at hspot
            subst hspot
            refine ⟨ab, ao, rfl, RepL.of_flat hw (RepC.of_at fun j d hj => ?_)⟩
            have hjl : j < l.flatten.length := (List.getElem?_eq_some_iff.1 hj).1
            rw [flat_len hw] at hjl
            have hq : j / es.length < l.length := Nat.div_lt_of_lt_mul (by rw [Nat.mul_comm]; exact hjl)
            have hmod : j % es.length < es.length := Nat.mod_lt _ hk
            have hdm : j / es.length * es.length + j % es.length = j := Nat.div_add_mod' j es.length
            obtain ⟨c, q1, q2, q3⟩ := hl (j / es.length) _ (List.getElem?_eq_getElem hq)
            have q4 := q3.len
            have hd2 := flat_at hw (List.getElem?_eq_getElem hq) (List.getElem?_eq_getElem (l := l[j / es.length]) (i := j % es.length) (by omega))
            rw [hdm, hj] at hd2
            obtain ⟨y, hy1, hy2⟩ := q2.get (List.getElem?_eq_getElem (l := l[j / es.length]) (i := j % es.length) (by omega))
            rw [← Option.some.inj hd2] at hy2
            refine ⟨y, ?_, hy2⟩
            have := (cells?_at q1).2 (j % es.length) y hy1
            rw [Addr.add_lit, Addr.add_lit, hc, Nat.add_assoc, hdm] at this
            show EH.cell (baseE w) ab (ao + j) = some y
            rw [← this]
            unfold EH.cell baseE World.cell?
            cases w.heap[ab]? <;> rfl
        · cases hx
    · rename_i fs ht
      simp only [ht] at hx
      split at hx
      · simp only [Option.map_eq_some_iff] at hx
        obtain ⟨xs, hxs, _⟩ := hx
        obtain ⟨_, hget⟩ := mapM_get hxs
        have key : ∀ (l : List Field) (acc ks : List SH), (∀ f ∈ l, ∃ y, DataW.trod enc P w base spare held fuel f.type ((cs.drop f.offset).take (P.cellsOf f.type)) = some y) → OpenD w acc (cs.take acc.length) →
            l.foldl (fun acc f => match acc, shapeT P m f.type with
              | some ks, some l => match Nat.beq ks.length f.offset, Nat.beq l.length (P.cellsOf f.type) with
                | true, true => some (ks ++ l)
                | _, _ => none
              | _, _ => none) (some acc) = some ks → OpenD w ks (cs.take ks.length) := by
          intro l
          induction l with
          | nil => intro acc ks _ hacc hf; simp only [List.foldl_nil, Option.some.injEq] at hf; subst hf; exact hacc
          | cons f l ih =>
            intro acc ks hall hacc hf
            simp only [List.foldl_cons] at hf
            have hnone : ∀ l : List Field, l.foldl (fun acc f => match acc, shapeT P m f.type with
              | some ks, some l => match Nat.beq ks.length f.offset, Nat.beq l.length (P.cellsOf f.type) with
                | true, true => some (ks ++ l)
                | _, _ => none
              | _, _ => none) (none : Option (List SH)) = none := by
              intro l; induction l with
              | nil => rfl
              | cons a l ih => exact ih
            cases hsf : shapeT P m f.type with
            | none => rw [hsf] at hf; exact absurd (hf.symm.trans (hnone l)) (by simp)
            | some sl =>
              rw [hsf] at hf
              simp only [] at hf
              cases hb1 : Nat.beq acc.length f.offset with
              | false => simp only [hb1] at hf; exact absurd (hf.symm.trans (hnone l)) (by simp)
              | true =>
              cases hb2 : Nat.beq sl.length (P.cellsOf f.type) with
              | false => simp only [hb1, hb2] at hf; exact absurd (hf.symm.trans (hnone l)) (by simp)
              | true =>
                simp only [hb1, hb2] at hf
                have e1 := Nat.eq_of_beq_eq_true hb1
                have e2 := Nat.eq_of_beq_eq_true hb2
                obtain ⟨y, hy⟩ := hall f List.mem_cons_self
                have hc := trod_conf m fuel f.type _ sl y hsf hy
                rw [← e2, List.take_take, Nat.min_self, ← e1] at hc
                refine ih (acc ++ sl) ks (fun g hg => hall g (List.mem_cons_of_mem _ hg)) ?_ hf
                rw [List.length_append, List.take_add]
                exact hacc.append hc
        refine key fs.toList [] ks (fun f hf => ?_) (by simpa using OpenD.nil) hs
        obtain ⟨i, hi⟩ := List.getElem?_of_mem hf
        obtain ⟨b, hb, _⟩ := hget i f hi
        exact ⟨b, hb⟩
      · cases hx
    · rename_i n e ht
      simp only [ht] at hx
      split at hx
      · simp only [Option.map_eq_some_iff] at hx
        obtain ⟨xs, hxs, _⟩ := hx
        obtain ⟨_, hget⟩ := mapM_get hxs
        split at hs <;> try (cases hs; done)
        rename_i l hl
        split at hs <;> try (cases hs; done)
        rename_i hb
        cases hs
        have e2 := Nat.eq_of_beq_eq_true hb
        have key : ∀ k, k ≤ n → OpenD w (List.replicate k l).flatten (cs.take (List.replicate k l).flatten.length) := by
          intro k
          induction k with
          | zero => intro _; simpa using OpenD.nil
          | succ k ih =>
            intro hk
            obtain ⟨y, hy, _⟩ := hget k k (List.getElem?_range (by omega))
            have hc := trod_conf m fuel e _ l y hl hy
            rw [← e2, List.take_take, Nat.min_self] at hc
            have hlen : (List.replicate k l).flatten.length = k * l.length := by simp
            rw [List.replicate_succ', List.flatten_append, List.length_append, List.take_add, hlen]
            simp only [List.flatten_cons, List.flatten_nil, List.append_nil]
            rw [← hlen]
            refine (ih (by omega)).append ?_
            rw [hlen]
            exact hc
        exact key n (Nat.le_refl _)
      · cases hx
    · cases hs

/-- A value of one cell. -/
theorem open_one {t : TypeId} {k : SH} (hs : shapeT P 20 t = some [k]) {v : Value} (hone : v.cells = #[v]) {d : DataW H} {p : List MemPlace} (h : DataW.Trod enc P w base spare held t v d p) :
    ∃ x, RepD (baseE w) x v ∧ ConfD k x := by
  obtain ⟨fuel, hf⟩ := h
  have := trod_conf 20 fuel t _ _ _ hs hf
  rw [hone] at this
  obtain ⟨ds, h1, h2⟩ := this
  simp only [List.length_cons, List.length_nil, List.take_succ_cons, List.take_zero] at h1
  simp only [Conf] at h2
  obtain ⟨d, ds', rfl, h3, rfl⟩ := h2
  simp only [DenD] at h1
  obtain ⟨x, xs', e, h4, rfl⟩ := h1
  cases e
  exact ⟨d, h4, h3⟩

/-- A value of a type of several cells. -/
theorem open_cells {t : TypeId} {ks : List SH} (hs : shapeT P 20 t = some ks) (ha : tAgg P t = some true) (hc : P.cellsOf t = ks.length) {r : Reach} {b0 : Nat} {v : Value} (hv : Value.okWide P w r b0 t v) {d : DataW H} {p : List MemPlace} (h : DataW.Trod enc P w base spare held t v d p) :
    ∃ cs ds, v = .agg cs.toArray ∧ DenD (baseE w) ds cs ∧ Conf ks ds := by
  have : ∃ cs : Array Value, v = .agg cs ∧ cs.size = P.cellsOf t := by
    unfold tAgg at ha
    unfold Value.okWide at hv
    split at ha <;> try (cases ha; done)
    · rename_i fs hu; simp only [hu] at hv; obtain ⟨cs, h1, h2, _⟩ := hv; exact ⟨cs, h1, h2⟩
    · rename_i n e hu; simp only [hu] at hv; obtain ⟨cs, h1, h2, _⟩ := hv; exact ⟨cs, h1, h2⟩
  obtain ⟨cs, rfl, hsz⟩ := this
  obtain ⟨fuel, hf⟩ := h
  have := trod_conf 20 fuel t _ ks _ hs hf
  rw [Value.cells, List.take_of_length_le (by simp; omega)] at this
  obtain ⟨ds, h1, h2⟩ := this
  exact ⟨cs.toList, ds, by simp, h1, h2⟩

/-- A slice. -/
theorem open_sl {t : TypeId} {es : List SH} (hs : shapeT P 20 t = some [.sl es]) {v : Value} (hv : ∃ a len cap, v = .slice a len cap) {d : DataW H} {p : List MemPlace} (h : DataW.Trod enc P w base spare held t v d p) :
    ∃ l, Den [] (baseE w) (.dat (.sl es.length l)) v ∧ l.length ≤ maxLen ∧ ∀ e ∈ l, Conf es e := by
  obtain ⟨a, len, cap, rfl⟩ := hv
  obtain ⟨x, h1, h2⟩ := open_one hs rfl h
  simp only [ConfD] at h2
  obtain ⟨l, rfl, h3, h4⟩ := h2
  exact ⟨l, by simpa only [Den] using h1, h3, h4⟩
end
end Vc
