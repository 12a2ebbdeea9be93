/- The ground of a symbolic walk: symbolic values, symbolic memory, and what they stand for in a world. -/
import Derived.WalkKit
import Derived.Orders
namespace Vc
open Go

/-- Deep immutable data, a cell each: a value without an address of ours; or a slice over immutable cells. -/
inductive D where
  | val (v : Value)
  | sl (sz : Nat) (cs : List D)
  deriving Inhabited

/-- An immutable part of the heap. -/
abbrev EH := Nat → Option Obj
def EH.cell (E : EH) (b o : Nat) : Option Value :=
  match E b with
  | some (.cells c _ _) => c[o]?
  | _ => none
def EH.le (E E' : EH) : Prop := ∀ b o, E b = some o → E' b = some o
theorem EH.le.refl (E : EH) : E.le E := fun _ _ h => h
theorem EH.le.trans {A B C : EH} (h : A.le B) (k : B.le C) : A.le C := fun b o x => k b o (h b o x)
theorem EH.le.cell {E E' : EH} (h : E.le E') {b o : Nat} {v : Value} (hc : E.cell b o = some v) : E'.cell b o = some v := by
  unfold EH.cell at *
  cases hb : E b with
  | none => simp [hb] at hc
  | some x => rw [h b x hb]; rw [hb] at hc; exact hc

mutual
/-- A value that stands for immutable data. -/
def RepD (E : EH) : D → Value → Prop
  | .val v, x => x = v
  | .sl sz cs, x => ∃ a len cap, x = .slice a len cap ∧ len * sz = cs.length ∧ len ≤ cap ∧
      (cs = [] ∨ ∃ b off, a = some ⟨b, off, none⟩ ∧ RepDs E cs b off)
def RepDs (E : EH) : List D → Nat → Nat → Prop
  | [], _, _ => True
  | c :: cs, b, off => (∃ v, E.cell b off = some v ∧ RepD E c v) ∧ RepDs E cs b (off + 1)
end

mutual
theorem RepD.mono {E E' : EH} (h : E.le E') : ∀ {d : D} {v : Value}, RepD E d v → RepD E' d v
  | .val _, _, hr => by simpa [RepD] using hr
  | .sl sz cs, x, hr => by
    simp only [RepD] at hr ⊢
    obtain ⟨a, len, cap, h1, h2, h3, h4⟩ := hr
    exact ⟨a, len, cap, h1, h2, h3, h4.imp id (fun ⟨b, off, e, r⟩ => ⟨b, off, e, RepDs.mono h r⟩)⟩
theorem RepDs.mono {E E' : EH} (h : E.le E') : ∀ {cs : List D} {b off : Nat}, RepDs E cs b off → RepDs E' cs b off
  | [], _, _, _ => by simp [RepDs]
  | c :: cs, b, off, hr => by
    simp only [RepDs] at hr ⊢
    obtain ⟨⟨v, h1, h2⟩, h3⟩ := hr
    exact ⟨⟨v, h.cell h1, RepD.mono h h2⟩, RepDs.mono h h3⟩
end

theorem RepDs.at {E : EH} : ∀ {cs : List D} {b off : Nat}, RepDs E cs b off → ∀ {j : Nat} {d : D}, cs[j]? = some d → ∃ v, E.cell b (off + j) = some v ∧ RepD E d v
  | [], _, _, _, _, _, h => by simp at h
  | c :: cs, b, off, hr, j, d, h => by
    simp only [RepDs] at hr
    cases j with
    | zero => simp at h; subst h; exact hr.1
    | succ j =>
      obtain ⟨v, h1, h2⟩ := RepDs.at hr.2 (j := j) (by simpa using h)
      exact ⟨v, by rw [show off + (j + 1) = off + 1 + j by omega]; exact h1, h2⟩

/-- Elements of sz cells each, each cell of one value. -/
def wellE (sz : Nat) (l : List (List Value)) : Prop := ∀ e ∈ l, e.length = sz ∧ ∀ c ∈ e, c.oneCell' = true
theorem wellE.len {sz : Nat} {l : List (List Value)} (h : wellE sz l) : ∀ e ∈ l, e.length = sz := fun e he => (h e he).1
theorem wellE.one {sz : Nat} {l : List (List Value)} (h : wellE sz l) : ∀ c ∈ l.flatten, c.oneCell' = true := fun c hc => by
  obtain ⟨e, he, hce⟩ := List.mem_flatten.1 hc
  exact (h e he).2 c hce
theorem wellE.append {sz : Nat} {l m : List (List Value)} (h : wellE sz l) (k : wellE sz m) : wellE sz (l ++ m) := fun e he => by
  rcases List.mem_append.1 he with h1 | h1
  · exact h e h1
  · exact k e h1
theorem wellE.take {sz : Nat} {l : List (List Value)} (h : wellE sz l) (n : Nat) : wellE sz (l.take n) := fun e he => h e (List.mem_of_mem_take he)
theorem wellE.drop {sz : Nat} {l : List (List Value)} (h : wellE sz l) (n : Nat) : wellE sz (l.drop n) := fun e he => h e (List.mem_of_mem_drop he)
theorem wellE.set {sz : Nat} {l : List (List Value)} (h : wellE sz l) (n : Nat) {e : List Value} (he : e.length = sz) (h1 : ∀ c ∈ e, c.oneCell' = true) : wellE sz (l.set n e) := fun x hx => by
  rcases List.mem_or_eq_of_mem_set hx with h2 | h2
  · exact h x h2
  · rw [h2]; exact ⟨he, h1⟩

/-- Symbolic values. -/
inductive V where
  /-- this very value -/
  | any (v : Value)
  | int (k : IntKind) (n : Int)
  /-- a number that is written out -/
  | lit (k : IntKind) (n : Int)
  /-- a bool that is not known -/
  | sb (b : Bool)
  | tt
  | ff
  /-- the address of a cell of our block i -/
  | ptr (i off : Nat)
  /-- elements lo to hi of our row i -/
  | sl (i lo hi : Nat)
  /-- the address of cell fld of element ix of our row i -/
  | pe (i ix fld : Nat)
  /-- an immutable slice of plain elements, of sz cells each -/
  | isl (sz : Nat) (l : List (List Value))
  /-- the address of cell fld of an element e of an immutable slice -/
  | ipe (e : List Value) (fld : Nat)
  /-- immutable data -/
  | dat (d : D)
  | agg (l : List V)
  | tup (l : List V)
  | fn (f : FuncId) (cap : List V)
  /-- a map of ours -/
  | mp (i : Nat)
  deriving Inhabited

/-- What a block of ours is. -/
inductive KO where
  /-- a block of cells: a variable, a struct -/
  | cells (l : List V)
  /-- a slice's array (or a variable that is an array), its cells' type ty, elements of sz cells each: the elements that are in use; whatever lies behind them is spare -/
  | row (ty : TypeId) (sz : Nat) (l : List (List Value))
  /-- a map: its keys' kind; is a value of several cells, and how many; its entries -/
  | mp (kk : IntKind) (agg : Bool) (sz : Nat) (l : List (Int × List Value))
  | dead
  deriving Inhabited

abbrev KB := List KO

/-- Where a block of ours really lies. -/
structure Re where
  blk : Nat
  cap : Nat
  sz : Nat

abbrev Sg := List Re

mutual
def Den (σ : Sg) (E : EH) : V → Value → Prop
  | .any v, x => x = v
  | .int k n, x => x = .int k n
  | .lit k n, x => x = .int k n
  | .sb b, x => x = .bool b
  | .tt, x => x = .bool true
  | .ff, x => x = .bool false
  | .ptr i off, x => ∃ r, σ[i]? = some r ∧ x = .pointer (some ⟨r.blk, off, none⟩)
  | .sl i lo hi, x => ∃ r a, σ[i]? = some r ∧ x = .slice a (hi - lo) (r.cap - lo) ∧ lo ≤ hi ∧ hi ≤ r.cap ∧ (lo < r.cap → a = some ⟨r.blk, lo * r.sz, none⟩)
  | .pe i ix fld, x => ∃ r, σ[i]? = some r ∧ x = .pointer (some ⟨r.blk, ix * r.sz + fld, none⟩)
  | .isl sz l, x => wellE sz l ∧ RepD E (.sl sz (l.flatten.map .val)) x
  | .ipe e fld, x => ∃ b off, x = .pointer (some ⟨b, off + fld, none⟩) ∧ RepDs E (e.map .val) b off
  | .dat d, x => RepD E d x
  | .agg l, x => ∃ vs, x = .agg vs.toArray ∧ DenL σ E l vs
  | .tup l, x => ∃ vs, x = .tuple vs.toArray ∧ DenL σ E l vs
  | .fn f cap, x => ∃ vs, x = .func (.func f) #[] vs.toArray ∧ DenL σ E cap vs
  | .mp i, x => ∃ r, σ[i]? = some r ∧ x = .map (some r.blk)
def DenL (σ : Sg) (E : EH) : List V → List Value → Prop
  | [], xs => xs = []
  | v :: vs, xs => ∃ x xs', xs = x :: xs' ∧ Den σ E v x ∧ DenL σ E vs xs'
end

theorem sg_ext {σ τ : Sg} {i : Nat} {r : Re} (h : σ[i]? = some r) : (σ ++ τ)[i]? = some r := by
  have hi : i < σ.length := by
    rcases Nat.lt_or_ge i σ.length with h' | h'
    · exact h'
    · simp [List.getElem?_eq_none h'] at h
  rw [List.getElem?_append_left hi]; exact h

mutual
theorem Den.mono {σ τ : Sg} {E E' : EH} (h : E.le E') : ∀ {v : V} {x : Value}, Den σ E v x → Den (σ ++ τ) E' v x
  | .any _, _, hd | .int .., _, hd | .lit .., _, hd | .sb _, _, hd | .tt, _, hd | .ff, _, hd => by simpa [Den] using hd
  | .ptr i off, _, hd => by simp only [Den] at hd ⊢; obtain ⟨r, h1, h2⟩ := hd; exact ⟨r, sg_ext h1, h2⟩
  | .mp i, _, hd => by simp only [Den] at hd ⊢; obtain ⟨r, h1, h2⟩ := hd; exact ⟨r, sg_ext h1, h2⟩
  | .sl i lo hi, _, hd => by simp only [Den] at hd ⊢; obtain ⟨r, a, h1, h2⟩ := hd; exact ⟨r, a, sg_ext h1, h2⟩
  | .pe i ix fld, _, hd => by simp only [Den] at hd ⊢; obtain ⟨r, h1, h2⟩ := hd; exact ⟨r, sg_ext h1, h2⟩
  | .isl sz cs, _, hd => by simp only [Den] at hd ⊢; exact ⟨hd.1, RepD.mono h hd.2⟩
  | .ipe e fld, _, hd => by simp only [Den] at hd ⊢; obtain ⟨b, off, h1, h2⟩ := hd; exact ⟨b, off, h1, RepDs.mono h h2⟩
  | .dat d, _, hd => by simp only [Den] at hd ⊢; exact RepD.mono h hd
  | .agg l, _, hd => by simp only [Den] at hd ⊢; obtain ⟨vs, h1, h2⟩ := hd; exact ⟨vs, h1, DenL.mono h h2⟩
  | .tup l, _, hd => by simp only [Den] at hd ⊢; obtain ⟨vs, h1, h2⟩ := hd; exact ⟨vs, h1, DenL.mono h h2⟩
  | .fn f cap, _, hd => by simp only [Den] at hd ⊢; obtain ⟨vs, h1, h2⟩ := hd; exact ⟨vs, h1, DenL.mono h h2⟩
theorem DenL.mono {σ τ : Sg} {E E' : EH} (h : E.le E') : ∀ {vs : List V} {xs : List Value}, DenL σ E vs xs → DenL (σ ++ τ) E' vs xs
  | [], _, hd => by simpa [DenL] using hd
  | v :: vs, _, hd => by
    simp only [DenL] at hd ⊢
    obtain ⟨x, xs', h1, h2, h3⟩ := hd
    exact ⟨x, xs', h1, Den.mono h h2, DenL.mono h h3⟩
end

theorem DenL.len {σ : Sg} {E : EH} : ∀ {vs : List V} {xs : List Value}, DenL σ E vs xs → xs.length = vs.length
  | [], _, h => by simp only [DenL] at h; simp [h]
  | v :: vs, _, h => by
    simp only [DenL] at h
    obtain ⟨x, xs', rfl, _, h2⟩ := h
    simp [DenL.len h2]

theorem DenL.get {σ : Sg} {E : EH} : ∀ {vs : List V} {xs : List Value}, DenL σ E vs xs → ∀ {i : Nat} {v : V}, vs[i]? = some v → ∃ x, xs[i]? = some x ∧ Den σ E v x
  | [], _, _, _, _, hv => by simp at hv
  | v :: vs, _, h, i, u, hv => by
    simp only [DenL] at h
    obtain ⟨x, xs', rfl, h1, h2⟩ := h
    cases i with
    | zero => simp at hv; subst hv; exact ⟨x, rfl, h1⟩
    | succ i => simpa using DenL.get h2 (i := i) (by simpa using hv)

theorem DenL.get' {σ : Sg} {E : EH} {vs : List V} {xs : List Value} (h : DenL σ E vs xs) {i : Nat} {x : Value} (hx : xs[i]? = some x) : ∃ v, vs[i]? = some v ∧ Den σ E v x := by
  have hi : i < xs.length := by
    rcases Nat.lt_or_ge i xs.length with h' | h'
    · exact h'
    · simp [List.getElem?_eq_none h'] at hx
  rw [h.len] at hi
  obtain ⟨y, hy, hd⟩ := h.get (List.getElem?_eq_getElem hi)
  rw [hx] at hy
  cases hy
  exact ⟨_, List.getElem?_eq_getElem hi, hd⟩

theorem DenL.set {σ : Sg} {E : EH} : ∀ {vs : List V} {xs : List Value}, DenL σ E vs xs → ∀ (i : Nat) {v : V} {x : Value}, Den σ E v x → DenL σ E (vs.set i v) (xs.set i x)
  | [], _, h, i, v, x, _ => by simp only [DenL] at h; simp [h, DenL]
  | v :: vs, _, h, i, u, y, hu => by
    simp only [DenL] at h
    obtain ⟨x, xs', rfl, h1, h2⟩ := h
    cases i with
    | zero => simp only [List.set_cons_zero, DenL]; exact ⟨y, xs', rfl, hu, h2⟩
    | succ i => simp only [List.set_cons_succ, DenL]; exact ⟨x, xs'.set i y, rfl, h1, h2.set i hu⟩

theorem DenL.append {σ : Sg} {E : EH} : ∀ {vs : List V} {xs : List Value}, DenL σ E vs xs → ∀ {us : List V} {ys : List Value}, DenL σ E us ys → DenL σ E (vs ++ us) (xs ++ ys)
  | [], _, h, _, _, hu => by simp only [DenL] at h; simpa [h] using hu
  | v :: vs, _, h, _, _, hu => by
    simp only [DenL] at h
    obtain ⟨x, xs', rfl, h1, h2⟩ := h
    simp only [List.cons_append, DenL]
    exact ⟨x, xs' ++ _, rfl, h1, h2.append hu⟩

theorem DenL.replicate {σ : Sg} {E : EH} {v : V} {x : Value} (h : Den σ E v x) : ∀ n, DenL σ E (List.replicate n v) (List.replicate n x)
  | 0 => by simp [DenL]
  | n + 1 => by simp only [List.replicate_succ, DenL]; exact ⟨x, _, rfl, h, DenL.replicate h n⟩

theorem DenL.drop {σ : Sg} {E : EH} : ∀ {vs : List V} {xs : List Value}, DenL σ E vs xs → ∀ n, DenL σ E (vs.drop n) (xs.drop n)
  | vs, _, h, 0 => by simpa using h
  | [], _, h, n + 1 => by simp only [DenL] at h; simp [h, DenL]
  | v :: vs, _, h, n + 1 => by
    simp only [DenL] at h
    obtain ⟨x, xs', rfl, _, h2⟩ := h
    simpa using DenL.drop h2 n

theorem DenL.take {σ : Sg} {E : EH} : ∀ {vs : List V} {xs : List Value}, DenL σ E vs xs → ∀ n, DenL σ E (vs.take n) (xs.take n)
  | vs, _, _, 0 => by simp [DenL]
  | [], _, h, n + 1 => by simp only [DenL] at h; simp [h, DenL]
  | v :: vs, _, h, n + 1 => by
    simp only [DenL] at h
    obtain ⟨x, xs', rfl, h1, h2⟩ := h
    simp only [List.take_succ_cons, DenL]
    exact ⟨x, _, rfl, h1, DenL.take h2 n⟩

theorem DenL.nil {σ : Sg} {E : EH} : DenL σ E [] [] := by simp [DenL]
theorem DenL.cons {σ : Sg} {E : EH} {v : V} {x : Value} {vs : List V} {xs : List Value} (h : Den σ E v x) (k : DenL σ E vs xs) : DenL σ E (v :: vs) (x :: xs) := by
  simp only [DenL]; exact ⟨x, xs, rfl, h, k⟩

end Vc
