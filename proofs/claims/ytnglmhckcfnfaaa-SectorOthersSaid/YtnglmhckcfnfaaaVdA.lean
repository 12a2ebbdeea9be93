/- The ground of a symbolic walk: symbolic values, deep immutable data, and what they stand for in a world. -/
import Derived.WalkKit
import Derived.Orders
set_option linter.unusedSimpArgs false
set_option linter.unusedVariables false
namespace Vc
open Go

/-- Deep immutable data, one cell: a value of one cell; or a slice over immutable cells, of elements of sz cells each. -/
inductive D where
  | val (v : Value)
  | sl (sz : Nat) (l : List (List D))
  deriving Inhabited

/-- An immutable part of the heap. -/
abbrev EH := Nat → Option Obj
def EH.cell (E : EH) (b o : Nat) : Option Value :=
  match E b with
  | some (.cells c _ _) => c[o]?
  | _ => none
def EH.le (E E' : EH) : Prop := ∀ b o, E b = some o → E' b = some o
theorem EH.le.refl (E : EH) : E.le E := fun _ _ h => h
theorem EH.le.trans {A B C : EH} (h : A.le B) (k : B.le C) : A.le C := fun b o x => k b o (h b o x)
theorem EH.le.cell {E E' : EH} (h : E.le E') {b o : Nat} {v : Value} (hc : E.cell b o = some v) : E'.cell b o = some v := by
  unfold EH.cell at *
  cases hb : E b with
  | none => simp [hb] at hc
  | some x => rw [h b x hb]; rw [hb] at hc; exact hc

mutual
/-- A value that stands for immutable data. -/
def RepD (E : EH) : D → Value → Prop
  | .val v, x => x = v ∧ v.oneCell' = true
  | .sl sz l, x => ∃ a cap, x = .slice a l.length cap ∧ l.length ≤ cap ∧ (l.length = 0 ∨ ∃ b off, a = some ⟨b, off, none⟩ ∧ RepL E sz l b off)
/-- Cells from (b, off) on. -/
def RepC (E : EH) : List D → Nat → Nat → Prop
  | [], _, _ => True
  | c :: cs, b, off => (∃ v, E.cell b off = some v ∧ RepD E c v) ∧ RepC E cs b (off + 1)
/-- Elements of sz cells each. -/
def RepL (E : EH) (sz : Nat) : List (List D) → Nat → Nat → Prop
  | [], _, _ => True
  | e :: l, b, off => (e.length = sz ∧ RepC E e b off) ∧ RepL E sz l b (off + sz)
end

mutual
theorem RepD.mono {E E' : EH} (h : E.le E') : ∀ {d : D} {v : Value}, RepD E d v → RepD E' d v
  | .val _, _, hr => by simpa [RepD] using hr
  | .sl sz l, x, hr => by
    simp only [RepD] at hr ⊢
    obtain ⟨a, cap, h1, h2, h3⟩ := hr
    exact ⟨a, cap, h1, h2, h3.elim .inl (fun ⟨b, off, e, r⟩ => .inr ⟨b, off, e, RepL.mono h r⟩)⟩
theorem RepC.mono {E E' : EH} (h : E.le E') : ∀ {cs : List D} {b off : Nat}, RepC E cs b off → RepC E' cs b off
  | [], _, _, _ => by simp [RepC]
  | c :: cs, b, off, hr => by
    simp only [RepC] at hr ⊢
    obtain ⟨⟨v, h1, h2⟩, h3⟩ := hr
    exact ⟨⟨v, h.cell h1, RepD.mono h h2⟩, RepC.mono h h3⟩
theorem RepL.mono {E E' : EH} (h : E.le E') : ∀ {sz : Nat} {l : List (List D)} {b off : Nat}, RepL E sz l b off → RepL E' sz l b off
  | _, [], _, _, _ => by simp [RepL]
  | sz, e :: l, b, off, hr => by
    simp only [RepL] at hr ⊢
    exact ⟨⟨hr.1.1, RepC.mono h hr.1.2⟩, RepL.mono h hr.2⟩
end

theorem RepD.one {E : EH} {d : D} {v : Value} (h : RepD E d v) : v.oneCell' = true := by
  cases d with
  | val w => simp only [RepD] at h; rw [h.1]; exact h.2
  | sl sz l => simp only [RepD] at h; obtain ⟨a, cap, rfl, _⟩ := h; rfl

theorem RepC.at {E : EH} : ∀ {cs : List D} {b off : Nat}, RepC E cs b off → ∀ {j : Nat} {d : D}, cs[j]? = some d → ∃ v, E.cell b (off + j) = some v ∧ RepD E d v
  | [], _, _, _, _, _, h => by simp at h
  | c :: cs, b, off, hr, j, d, h => by
    simp only [RepC] at hr
    cases j with
    | zero => simp at h; subst h; exact hr.1
    | succ j =>
      obtain ⟨v, h1, h2⟩ := RepC.at hr.2 (j := j) (by simpa using h)
      exact ⟨v, by rw [show off + (j + 1) = off + 1 + j by omega]; exact h1, h2⟩

theorem RepC.of_at {E : EH} : ∀ {cs : List D} {b off : Nat}, (∀ (j : Nat) (d : D), cs[j]? = some d → ∃ v, E.cell b (off + j) = some v ∧ RepD E d v) → RepC E cs b off
  | [], _, _, _ => by simp [RepC]
  | c :: cs, b, off, h => by
    simp only [RepC]
    refine ⟨by simpa using h 0 c rfl, RepC.of_at fun j d hj => ?_⟩
    have := h (j + 1) d (by simpa using hj)
    rwa [show off + 1 + j = off + (j + 1) by omega]

theorem RepC.sub {E : EH} {cs : List D} {b off : Nat} (h : RepC E cs b off) (k m : Nat) : RepC E ((cs.drop k).take m) b (off + k) :=
  RepC.of_at fun j d hj => by
    have hj' : cs[k + j]? = some d := by
      rw [← List.getElem?_drop]
      have hlt : j < m := by
        have := (List.getElem?_eq_some_iff.1 hj).1
        simp only [List.length_take] at this
        omega
      rwa [List.getElem?_take_of_lt hlt] at hj
    have := h.at hj'
    rwa [Nat.add_assoc]

theorem RepC.append {E : EH} {cs ds : List D} {b off : Nat} (h : RepC E cs b off) (k : RepC E ds b (off + cs.length)) : RepC E (cs ++ ds) b off :=
  RepC.of_at fun j d hj => by
    rcases Nat.lt_or_ge j cs.length with hl | hl
    · rw [List.getElem?_append_left hl] at hj; exact h.at hj
    · rw [List.getElem?_append_right hl] at hj
      have := k.at hj
      rwa [show off + cs.length + (j - cs.length) = off + j by omega] at this

/-- Elements of sz cells each. -/
def wl (sz : Nat) (l : List (List D)) : Prop := ∀ e ∈ l, e.length = sz
theorem wl.append {sz : Nat} {l m : List (List D)} (h : wl sz l) (k : wl sz m) : wl sz (l ++ m) := fun e he => by
  rcases List.mem_append.1 he with h1 | h1
  · exact h e h1
  · exact k e h1
theorem wl.take {sz : Nat} {l : List (List D)} (h : wl sz l) (n : Nat) : wl sz (l.take n) := fun e he => h e (List.mem_of_mem_take he)
theorem wl.drop {sz : Nat} {l : List (List D)} (h : wl sz l) (n : Nat) : wl sz (l.drop n) := fun e he => h e (List.mem_of_mem_drop he)
theorem wl.nil {sz : Nat} : wl sz [] := fun e he => by cases he
theorem wl.set {sz : Nat} {l : List (List D)} (h : wl sz l) (n : Nat) {e : List D} (he : e.length = sz) : wl sz (l.set n e) := fun x hx => by
  rcases List.mem_or_eq_of_mem_set hx with h2 | h2
  · exact h x h2
  · rw [h2]; exact he
theorem wl.cons {sz : Nat} {e : List D} {l : List (List D)} (h : wl sz (e :: l)) : wl sz l := fun x hx => h x (List.mem_cons_of_mem _ hx)

theorem flat_len {α : Type} {sz : Nat} : ∀ {l : List (List α)}, (∀ e ∈ l, e.length = sz) → l.flatten.length = l.length * sz
  | [], _ => by simp
  | e :: l, h => by
    rw [List.flatten_cons, List.length_append, flat_len (fun x hx => h x (List.mem_cons_of_mem _ hx)), h e (by simp), List.length_cons, Nat.succ_mul]; omega
theorem flat_at {α : Type} {sz : Nat} : ∀ {l : List (List α)}, (∀ e ∈ l, e.length = sz) → ∀ {i j : Nat} {e : List α} {c : α}, l[i]? = some e → e[j]? = some c → l.flatten[i * sz + j]? = some c
  | [], _, _, _, _, _, h, _ => by simp at h
  | a :: l, hs, 0, j, e, c, h, k => by
    simp at h; subst h
    rw [List.flatten_cons, Nat.zero_mul, Nat.zero_add, List.getElem?_append_left (List.getElem?_eq_some_iff.1 k).1]; exact k
  | a :: l, hs, i + 1, j, e, c, h, k => by
    have ha := hs a (by simp)
    rw [List.flatten_cons, show (i + 1) * sz + j = a.length + (i * sz + j) by rw [Nat.succ_mul, ha]; omega, List.getElem?_append_right (by omega), Nat.add_sub_cancel_left]
    exact flat_at (fun x hx => hs x (List.mem_cons_of_mem _ hx)) (by simpa using h) k
theorem flat_drop {α : Type} {sz : Nat} : ∀ {l : List (List α)}, (∀ e ∈ l, e.length = sz) → ∀ n, (l.drop n).flatten = l.flatten.drop (n * sz)
  | _, _, 0 => by simp
  | [], _, n + 1 => by simp
  | c :: l, hs, n + 1 => by
    have hc : c.length = sz := hs c (by simp)
    rw [List.drop_succ_cons, List.flatten_cons, show (n + 1) * sz = c.length + n * sz by rw [Nat.succ_mul, hc]; omega, List.drop_length_add_append]
    exact flat_drop (fun e he => hs e (List.mem_cons_of_mem _ he)) n
theorem flat_take {α : Type} {sz : Nat} : ∀ {l : List (List α)}, (∀ e ∈ l, e.length = sz) → ∀ n, (l.take n).flatten = l.flatten.take (n * sz)
  | _, _, 0 => by simp
  | [], _, n + 1 => by simp
  | c :: l, hs, n + 1 => by
    have hc : c.length = sz := hs c (by simp)
    rw [List.take_succ_cons, List.flatten_cons, List.flatten_cons, show (n + 1) * sz = c.length + n * sz by rw [Nat.succ_mul, hc]; omega, List.take_length_add_append]
    rw [flat_take (fun e he => hs e (List.mem_cons_of_mem _ he)) n]
theorem flat_sub {α : Type} {sz : Nat} : ∀ {l : List (List α)}, (∀ e ∈ l, e.length = sz) → ∀ {ix : Nat} {e : List α}, l[ix]? = some e → (l.flatten.drop (ix * sz)).take sz = e
  | [], _, _, _, h => by simp at h
  | c :: l, hs, 0, e, h => by
    have hc : c.length = sz := hs c (by simp)
    simp at h; subst h
    simp [← hc]
  | c :: l, hs, ix + 1, e, h => by
    have hc : c.length = sz := hs c (by simp)
    rw [List.flatten_cons, show (ix + 1) * sz = c.length + ix * sz by rw [Nat.succ_mul, hc]; omega, List.drop_length_add_append]
    exact flat_sub (fun e he => hs e (List.mem_cons_of_mem _ he)) (by simpa using h)

theorem RepL.wl {E : EH} : ∀ {sz : Nat} {l : List (List D)} {b off : Nat}, RepL E sz l b off → Vc.wl sz l
  | _, [], _, _, _ => wl.nil
  | sz, e :: l, b, off, h => by
    simp only [RepL] at h
    intro x hx
    rcases List.mem_cons.1 hx with rfl | hx
    · exact h.1.1
    · exact RepL.wl h.2 x hx
theorem RepL.flat {E : EH} : ∀ {sz : Nat} {l : List (List D)} {b off : Nat}, RepL E sz l b off → RepC E l.flatten b off
  | _, [], _, _, _ => by simp [RepC]
  | sz, e :: l, b, off, h => by
    simp only [RepL] at h
    rw [List.flatten_cons]
    exact h.1.2.append (by rw [h.1.1]; exact RepL.flat h.2)
theorem RepL.of_flat {E : EH} : ∀ {sz : Nat} {l : List (List D)} {b off : Nat}, Vc.wl sz l → RepC E l.flatten b off → RepL E sz l b off
  | _, [], _, _, _, _ => by simp [RepL]
  | sz, e :: l, b, off, hw, h => by
    simp only [RepL]
    have he := hw e (by simp)
    rw [List.flatten_cons] at h
    refine ⟨⟨he, ?_⟩, RepL.of_flat hw.cons ?_⟩
    · have := h.sub 0 e.length
      rw [List.drop_zero, List.take_left] at this
      exact this
    · have := h.sub e.length l.flatten.length
      rw [List.drop_left, List.take_length, he] at this
      exact this

/-- Values that stand for cells of data. -/
def DenD (E : EH) : List D → List Value → Prop
  | [], xs => xs = []
  | d :: ds, xs => ∃ x xs', xs = x :: xs' ∧ RepD E d x ∧ DenD E ds xs'
theorem DenD.len {E : EH} : ∀ {ds : List D} {xs : List Value}, DenD E ds xs → xs.length = ds.length
  | [], _, h => by simp only [DenD] at h; simp [h]
  | d :: ds, _, h => by simp only [DenD] at h; obtain ⟨x, xs', rfl, _, h2⟩ := h; simp [DenD.len h2]
theorem DenD.mono {E E' : EH} (hE : E.le E') : ∀ {ds : List D} {xs : List Value}, DenD E ds xs → DenD E' ds xs
  | [], _, h => by simpa only [DenD] using h
  | d :: ds, _, h => by simp only [DenD] at h ⊢; obtain ⟨x, xs', h0, h1, h2⟩ := h; exact ⟨x, xs', h0, h1.mono hE, h2.mono hE⟩
theorem DenD.nil {E : EH} : DenD E [] [] := by simp [DenD]
theorem DenD.cons {E : EH} {d : D} {x : Value} {ds : List D} {xs : List Value} (h : RepD E d x) (k : DenD E ds xs) : DenD E (d :: ds) (x :: xs) := by
  simp only [DenD]; exact ⟨x, xs, rfl, h, k⟩
theorem DenD.get {E : EH} : ∀ {ds : List D} {xs : List Value}, DenD E ds xs → ∀ {i : Nat} {d : D}, ds[i]? = some d → ∃ x, xs[i]? = some x ∧ RepD E d x
  | [], _, _, _, _, hv => by simp at hv
  | c :: ds, _, h, i, d, hv => by
    simp only [DenD] at h
    obtain ⟨x, xs', rfl, h1, h2⟩ := h
    cases i with
    | zero => simp at hv; subst hv; exact ⟨x, rfl, h1⟩
    | succ i => simpa using DenD.get h2 (i := i) (by simpa using hv)
theorem DenD.get' {E : EH} {ds : List D} {xs : List Value} (h : DenD E ds xs) {i : Nat} {x : Value} (hx : xs[i]? = some x) : ∃ d, ds[i]? = some d ∧ RepD E d x := by
  have hi := (List.getElem?_eq_some_iff.1 hx).1
  rw [h.len] at hi
  obtain ⟨y, hy, hd⟩ := h.get (List.getElem?_eq_getElem hi)
  rw [hx] at hy; cases hy
  exact ⟨_, List.getElem?_eq_getElem hi, hd⟩
theorem DenD.one {E : EH} {ds : List D} {xs : List Value} (h : DenD E ds xs) : ∀ c ∈ xs, c.oneCell' = true := fun c hc => by
  obtain ⟨i, hi⟩ := List.getElem?_of_mem hc
  obtain ⟨d, _, hd⟩ := h.get' hi
  exact hd.one
theorem DenD.append {E : EH} : ∀ {ds : List D} {xs : List Value}, DenD E ds xs → ∀ {es : List D} {ys : List Value}, DenD E es ys → DenD E (ds ++ es) (xs ++ ys)
  | [], _, h, _, _, k => by simp only [DenD] at h; simpa [h] using k
  | d :: ds, _, h, _, _, k => by
    simp only [DenD] at h
    obtain ⟨x, xs', rfl, h1, h2⟩ := h
    exact .cons h1 (h2.append k)
theorem DenD.drop {E : EH} : ∀ {ds : List D} {xs : List Value}, DenD E ds xs → ∀ n, DenD E (ds.drop n) (xs.drop n)
  | _, _, h, 0 => by simpa using h
  | [], _, h, n + 1 => by simp only [DenD] at h; simp [h, DenD]
  | d :: ds, _, h, n + 1 => by
    simp only [DenD] at h
    obtain ⟨x, xs', rfl, _, h2⟩ := h
    simpa using h2.drop n
theorem DenD.take {E : EH} : ∀ {ds : List D} {xs : List Value}, DenD E ds xs → ∀ n, DenD E (ds.take n) (xs.take n)
  | _, _, _, 0 => by simp [DenD]
  | [], _, h, n + 1 => by simp only [DenD] at h; simp [h, DenD]
  | d :: ds, _, h, n + 1 => by
    simp only [DenD] at h
    obtain ⟨x, xs', rfl, h1, h2⟩ := h
    simp only [List.take_succ_cons]
    exact .cons h1 (h2.take n)
theorem DenD.split {E : EH} {ds es : List D} {xs : List Value} (h : DenD E (ds ++ es) xs) : ∃ ys zs, xs = ys ++ zs ∧ DenD E ds ys ∧ DenD E es zs := by
  refine ⟨xs.take ds.length, xs.drop ds.length, (List.take_append_drop _ _).symm, ?_, ?_⟩
  · have := h.take ds.length
    rwa [List.take_left] at this
  · have := h.drop ds.length
    rwa [List.drop_left] at this
theorem DenD.rep {E : EH} {ds : List D} {xs : List Value} (h : DenD E ds xs) {b off : Nat} (hc : ∀ (j : Nat) (x : Value), xs[j]? = some x → E.cell b (off + j) = some x) : RepC E ds b off :=
  RepC.of_at fun j d hj => by
    obtain ⟨x, h1, h2⟩ := h.get hj
    exact ⟨x, hc j x h1, h2⟩
theorem RepC.denD {E : EH} : ∀ {ds : List D} {b off : Nat}, RepC E ds b off → ∃ xs, DenD E ds xs ∧ ∀ (j : Nat) (x : Value), xs[j]? = some x → E.cell b (off + j) = some x
  | [], b, off, _ => ⟨[], .nil, by simp⟩
  | d :: ds, b, off, h => by
    simp only [RepC] at h
    obtain ⟨⟨v, h1, h2⟩, h3⟩ := h
    obtain ⟨xs, h4, h5⟩ := h3.denD
    refine ⟨v :: xs, .cons h2 h4, fun j x hj => ?_⟩
    cases j with
    | zero => simp at hj; subst hj; exact h1
    | succ j => rw [show off + (j + 1) = off + 1 + j by omega]; exact h5 j x (by simpa using hj)
theorem DenD.replicate {E : EH} {d : D} {x : Value} (h : RepD E d x) : ∀ n, DenD E (List.replicate n d) (List.replicate n x)
  | 0 => .nil
  | n + 1 => by rw [List.replicate_succ, List.replicate_succ]; exact .cons h (DenD.replicate h n)

/-- l with the cells from off on turned to vs. -/
def splice {α : Type} (l : List α) (off : Nat) (vs : List α) : List α := l.take off ++ vs ++ l.drop (off + vs.length)
theorem splice_len {α : Type} {l : List α} {off : Nat} {vs : List α} (h : off + vs.length ≤ l.length) : (splice l off vs).length = l.length := by
  simp [splice]; omega
theorem DenD.splice {E : EH} {ds es : List D} {xs ys : List Value} (h : DenD E ds xs) (k : DenD E es ys) (off : Nat) : DenD E (Vc.splice ds off es) (Vc.splice xs off ys) := by
  unfold Vc.splice
  rw [k.len]
  exact ((h.take off).append k).append (h.drop _)

/-- Symbolic values. -/
inductive V where
  /-- this very value -/
  | any (v : Value)
  | int (k : IntKind) (n : Int)
  /-- a number that is written out -/
  | lit (k : IntKind) (n : Int)
  /-- a bool that is not known -/
  | sb (b : Bool)
  | tt
  | ff
  /-- the address of cell off of our block i -/
  | ptr (i off : Nat)
  /-- the address of cell o of the array that begins at cell base of our block i -/
  | pa (i base o : Nat)
  /-- elements lo to hi of our row i -/
  | sl (i lo hi : Nat)
  /-- the address of cell fld of element ix of our row i -/
  | pe (i ix fld : Nat)
  /-- the address of elements ix on of our row i, as an array -/
  | pw (i ix : Nat)
  /-- a slice without elements and room -/
  | e0
  /-- n elements of s cells of the array that begins at cell base of our block i, from its cell o on, with room for c -/
  | sa (i base o s n c : Nat)
  /-- likewise within element ix of our row i -/
  | se (i ix o s n c : Nat)
  /-- immutable data -/
  | dat (d : D)
  /-- the address of cell fld of these immutable cells -/
  | ipe (e : List D) (fld : Nat)
  | agg (l : List V)
  | tup (l : List V)
  | fn (f : FuncId) (cap : List V)
  /-- a map of ours -/
  | mp (i : Nat)
  /-- a channel of ours -/
  | ch (i : Nat)
  /-- m cells within a block, or within an agg -/
  | arr (m : Nat) (cs : List D)
  deriving Inhabited

/-- What a block of ours is. -/
inductive KO where
  /-- a block of cells: a variable, a struct -/
  | cells (l : List V)
  /-- a slice's array, its cells' type ty, elements of sz cells each: the elements that are in use; whatever lies behind them is spare -/
  | row (ty : TypeId) (sz : Nat) (l : List (List D))
  /-- a map whose keys are numbers: their kinds; is a key an agg, is a value, and of how many cells; its entries -/
  | mp (kks : List IntKind) (kagg : Bool) (agg : Bool) (sz : Nat) (l : List (List Int × List D))
  /-- a channel that is open: is what it carries an agg, and of how many cells; its room; what lies in it -/
  | ch (agg : Bool) (sz cap : Nat) (l : List (List D))
  | dead
  deriving Inhabited

abbrev KB := List KO

/-- Where a block of ours really lies. -/
structure Re where
  blk : Nat
  cap : Nat
  sz : Nat

abbrev Sg := List Re

mutual
def Den (σ : Sg) (E : EH) : V → Value → Prop
  | .any v, x => x = v
  | .int k n, x => x = .int k n
  | .lit k n, x => x = .int k n
  | .sb b, x => x = .bool b
  | .tt, x => x = .bool true
  | .ff, x => x = .bool false
  | .ptr i off, x => ∃ r, σ[i]? = some r ∧ x = .pointer (some ⟨r.blk, off, none⟩)
  | .pa i base o, x => ∃ r, σ[i]? = some r ∧ x = .pointer (some ⟨r.blk, base + o, none⟩)
  | .sl i lo hi, x => ∃ r a, σ[i]? = some r ∧ x = .slice a (hi - lo) (r.cap - lo) ∧ lo ≤ hi ∧ hi ≤ r.cap ∧ (lo < r.cap → a = some ⟨r.blk, lo * r.sz, none⟩)
  | .pe i ix fld, x => ∃ r, σ[i]? = some r ∧ x = .pointer (some ⟨r.blk, ix * r.sz + fld, none⟩)
  | .pw i ix, x => ∃ r, σ[i]? = some r ∧ x = .pointer (some ⟨r.blk, ix * r.sz, none⟩)
  | .e0, x => ∃ a, x = .slice a 0 0
  | .sa i base o s n c, x => ∃ r a, σ[i]? = some r ∧ x = .slice a n c ∧ n ≤ c ∧ (0 < c → a = some ⟨r.blk, base + o, none⟩)
  | .se i ix o s n c, x => ∃ r a, σ[i]? = some r ∧ x = .slice a n c ∧ n ≤ c ∧ (0 < c → a = some ⟨r.blk, ix * r.sz + o, none⟩)
  | .dat d, x => RepD E d x
  | .ipe e fld, x => ∃ b off, x = .pointer (some ⟨b, off + fld, none⟩) ∧ RepC E e b off
  | .agg l, x => ∃ vs, x = .agg vs.toArray ∧ DenC σ E l vs
  | .tup l, x => ∃ vs, x = .tuple vs.toArray ∧ DenL σ E l vs
  | .fn f cap, x => ∃ vs, x = .func (.func f) #[] vs.toArray ∧ DenL σ E cap vs
  | .mp i, x => ∃ r, σ[i]? = some r ∧ x = .map (some r.blk)
  | .ch i, x => ∃ r, σ[i]? = some r ∧ x = .chan (some r.blk)
  | .arr _ _, _ => False
def DenL (σ : Sg) (E : EH) : List V → List Value → Prop
  | [], xs => xs = []
  | v :: vs, xs => ∃ x xs', xs = x :: xs' ∧ Den σ E v x ∧ DenL σ E vs xs'
/-- Cells. -/
def DenC (σ : Sg) (E : EH) : List V → List Value → Prop
  | [], xs => xs = []
  | v :: vs, xs => ∃ ys zs, xs = ys ++ zs ∧ ((∃ y, ys = [y] ∧ y.oneCell' = true ∧ Den σ E v y) ∨ (∃ m cs, v = .arr m cs ∧ cs.length = m ∧ DenD E cs ys)) ∧ DenC σ E vs zs
end

/-- What one piece of cells is. -/
def DenP1 (σ : Sg) (E : EH) (v : V) (ys : List Value) : Prop := (∃ y, ys = [y] ∧ y.oneCell' = true ∧ Den σ E v y) ∨ (∃ m cs, v = .arr m cs ∧ cs.length = m ∧ DenD E cs ys)

theorem sg_ext {σ τ : Sg} {i : Nat} {r : Re} (h : σ[i]? = some r) : (σ ++ τ)[i]? = some r := by
  have hi : i < σ.length := by
    rcases Nat.lt_or_ge i σ.length with h' | h'
    · exact h'
    · simp [List.getElem?_eq_none h'] at h
  rw [List.getElem?_append_left hi]; exact h

mutual
theorem Den.mono {σ τ : Sg} {E E' : EH} (h : E.le E') : ∀ {v : V} {x : Value}, Den σ E v x → Den (σ ++ τ) E' v x
  | .any _, _, hd | .int .., _, hd | .lit .., _, hd | .sb _, _, hd | .tt, _, hd | .ff, _, hd | .e0, _, hd => by simpa [Den] using hd
  | .arr .., _, hd => by simp only [Den] at hd
  | .ptr i off, _, hd => by simp only [Den] at hd ⊢; obtain ⟨r, h1, h2⟩ := hd; exact ⟨r, sg_ext h1, h2⟩
  | .pa i base o, _, hd => by simp only [Den] at hd ⊢; obtain ⟨r, h1, h2⟩ := hd; exact ⟨r, sg_ext h1, h2⟩
  | .mp i, _, hd => by simp only [Den] at hd ⊢; obtain ⟨r, h1, h2⟩ := hd; exact ⟨r, sg_ext h1, h2⟩
  | .ch i, _, hd => by simp only [Den] at hd ⊢; obtain ⟨r, h1, h2⟩ := hd; exact ⟨r, sg_ext h1, h2⟩
  | .sl i lo hi, _, hd => by simp only [Den] at hd ⊢; obtain ⟨r, a, h1, h2⟩ := hd; exact ⟨r, a, sg_ext h1, h2⟩
  | .sa .., _, hd => by simp only [Den] at hd ⊢; obtain ⟨r, a, h1, h2⟩ := hd; exact ⟨r, a, sg_ext h1, h2⟩
  | .se .., _, hd => by simp only [Den] at hd ⊢; obtain ⟨r, a, h1, h2⟩ := hd; exact ⟨r, a, sg_ext h1, h2⟩
  | .pe i ix fld, _, hd => by simp only [Den] at hd ⊢; obtain ⟨r, h1, h2⟩ := hd; exact ⟨r, sg_ext h1, h2⟩
  | .pw i ix, _, hd => by simp only [Den] at hd ⊢; obtain ⟨r, h1, h2⟩ := hd; exact ⟨r, sg_ext h1, h2⟩
  | .ipe e fld, _, hd => by simp only [Den] at hd ⊢; obtain ⟨b, off, h1, h2⟩ := hd; exact ⟨b, off, h1, RepC.mono h h2⟩
  | .dat d, _, hd => by simp only [Den] at hd ⊢; exact RepD.mono h hd
  | .agg l, _, hd => by simp only [Den] at hd ⊢; obtain ⟨vs, h1, h2⟩ := hd; exact ⟨vs, h1, DenC.mono h h2⟩
  | .tup l, _, hd => by simp only [Den] at hd ⊢; obtain ⟨vs, h1, h2⟩ := hd; exact ⟨vs, h1, DenL.mono h h2⟩
  | .fn f cap, _, hd => by simp only [Den] at hd ⊢; obtain ⟨vs, h1, h2⟩ := hd; exact ⟨vs, h1, DenL.mono h h2⟩
theorem DenL.mono {σ τ : Sg} {E E' : EH} (h : E.le E') : ∀ {vs : List V} {xs : List Value}, DenL σ E vs xs → DenL (σ ++ τ) E' vs xs
  | [], _, hd => by simpa [DenL] using hd
  | v :: vs, _, hd => by
    simp only [DenL] at hd ⊢
    obtain ⟨x, xs', h1, h2, h3⟩ := hd
    exact ⟨x, xs', h1, Den.mono h h2, DenL.mono h h3⟩
theorem DenC.mono {σ τ : Sg} {E E' : EH} (h : E.le E') : ∀ {vs : List V} {xs : List Value}, DenC σ E vs xs → DenC (σ ++ τ) E' vs xs
  | [], _, hd => by simpa [DenC] using hd
  | v :: vs, _, hd => by
    simp only [DenC] at hd ⊢
    obtain ⟨ys, zs, h1, h2, h3⟩ := hd
    refine ⟨ys, zs, h1, ?_, DenC.mono h h3⟩
    rcases h2 with ⟨y, e, o, hy⟩ | ⟨m, cs, e, hl, hd⟩
    · exact .inl ⟨y, e, o, Den.mono h hy⟩
    · exact .inr ⟨m, cs, e, hl, hd.mono h⟩
end

theorem DenL.len {σ : Sg} {E : EH} : ∀ {vs : List V} {xs : List Value}, DenL σ E vs xs → xs.length = vs.length
  | [], _, h => by simp only [DenL] at h; simp [h]
  | v :: vs, _, h => by
    simp only [DenL] at h
    obtain ⟨x, xs', rfl, _, h2⟩ := h
    simp [DenL.len h2]

theorem DenL.get {σ : Sg} {E : EH} : ∀ {vs : List V} {xs : List Value}, DenL σ E vs xs → ∀ {i : Nat} {v : V}, vs[i]? = some v → ∃ x, xs[i]? = some x ∧ Den σ E v x
  | [], _, _, _, _, hv => by simp at hv
  | v :: vs, _, h, i, u, hv => by
    simp only [DenL] at h
    obtain ⟨x, xs', rfl, h1, h2⟩ := h
    cases i with
    | zero => simp at hv; subst hv; exact ⟨x, rfl, h1⟩
    | succ i => simpa using DenL.get h2 (i := i) (by simpa using hv)

theorem DenL.append {σ : Sg} {E : EH} : ∀ {vs : List V} {xs : List Value}, DenL σ E vs xs → ∀ {us : List V} {ys : List Value}, DenL σ E us ys → DenL σ E (vs ++ us) (xs ++ ys)
  | [], _, h, _, _, hu => by simp only [DenL] at h; simpa [h] using hu
  | v :: vs, _, h, _, _, hu => by
    simp only [DenL] at h
    obtain ⟨x, xs', rfl, h1, h2⟩ := h
    simp only [List.cons_append, DenL]
    exact ⟨x, xs' ++ _, rfl, h1, h2.append hu⟩

theorem DenL.nil {σ : Sg} {E : EH} : DenL σ E [] [] := by simp [DenL]
theorem DenL.cons {σ : Sg} {E : EH} {v : V} {x : Value} {vs : List V} {xs : List Value} (h : Den σ E v x) (k : DenL σ E vs xs) : DenL σ E (v :: vs) (x :: xs) := by
  simp only [DenL]; exact ⟨x, xs, rfl, h, k⟩

theorem DenC.nil {σ : Sg} {E : EH} : DenC σ E [] [] := by simp [DenC]
theorem DenC.cons {σ : Sg} {E : EH} {v : V} {ys : List Value} {vs : List V} {xs : List Value} (h : DenP1 σ E v ys) (k : DenC σ E vs xs) : DenC σ E (v :: vs) (ys ++ xs) := by
  simp only [DenC]; exact ⟨ys, xs, rfl, h, k⟩
theorem DenC.cons1 {σ : Sg} {E : EH} {v : V} {y : Value} {vs : List V} {xs : List Value} (h : Den σ E v y) (h1 : y.oneCell' = true) (k : DenC σ E vs xs) : DenC σ E (v :: vs) (y :: xs) :=
  DenC.cons (ys := [y]) (.inl ⟨y, rfl, h1, h⟩) k
theorem DenC.uncons {σ : Sg} {E : EH} {v : V} {vs : List V} {xs : List Value} (h : DenC σ E (v :: vs) xs) : ∃ ys zs, xs = ys ++ zs ∧ DenP1 σ E v ys ∧ DenC σ E vs zs := by
  simp only [DenC] at h; exact h
theorem DenC.append {σ : Sg} {E : EH} : ∀ {vs : List V} {xs : List Value}, DenC σ E vs xs → ∀ {us : List V} {ys : List Value}, DenC σ E us ys → DenC σ E (vs ++ us) (xs ++ ys)
  | [], _, h, _, _, hu => by simp only [DenC] at h; simpa [h] using hu
  | v :: vs, _, h, _, _, hu => by
    obtain ⟨ys, zs, rfl, h1, h2⟩ := h.uncons
    rw [List.append_assoc]
    exact DenC.cons h1 (h2.append hu)

/-- How many cells a piece has. -/
def V.w : V → Nat
  | .arr m _ => m
  | _ => 1
theorem DenP1.len {σ : Sg} {E : EH} {v : V} {ys : List Value} (h : DenP1 σ E v ys) : ys.length = v.w := by
  rcases h with ⟨y, rfl, _, hy⟩ | ⟨m, cs, rfl, hl, hd⟩
  · cases v <;> first | rfl | (simp only [Den] at hy)
  · rw [hd.len, hl]; rfl
theorem DenP1.one {σ : Sg} {E : EH} {v : V} {ys : List Value} (h : DenP1 σ E v ys) : ∀ c ∈ ys, c.oneCell' = true := by
  rcases h with ⟨y, rfl, h1, hy⟩ | ⟨m, cs, rfl, hl, hd⟩
  · intro c hc; simp at hc; subst hc; exact h1
  · exact hd.one
def wid : List V → Nat
  | [] => 0
  | v :: vs => v.w + wid vs
theorem DenC.len {σ : Sg} {E : EH} : ∀ {vs : List V} {xs : List Value}, DenC σ E vs xs → xs.length = wid vs
  | [], _, h => by simp only [DenC] at h; simp [h, wid]
  | v :: vs, _, h => by
    obtain ⟨ys, zs, rfl, h1, h2⟩ := h.uncons
    rw [List.length_append, h1.len, h2.len]; rfl
theorem DenC.one {σ : Sg} {E : EH} : ∀ {vs : List V} {xs : List Value}, DenC σ E vs xs → ∀ c ∈ xs, c.oneCell' = true
  | [], _, h, c, hc => by simp only [DenC] at h; subst h; cases hc
  | v :: vs, _, h, c, hc => by
    obtain ⟨ys, zs, rfl, h1, h2⟩ := h.uncons
    rcases List.mem_append.1 hc with hc | hc
    · exact h1.one c hc
    · exact h2.one c hc

/-- n less w, if that goes. -/
def subN : Nat → Nat → Option Nat
  | n, 0 => some n
  | 0, _ + 1 => none
  | n + 1, w + 1 => subN n w
theorem subN_ok : ∀ {n w k : Nat}, subN n w = some k → n = w + k
  | n, 0, k, h => by simp [subN] at h; omega
  | 0, w + 1, k, h => by simp [subN] at h
  | n + 1, w + 1, k, h => by have := subN_ok (n := n) (w := w) (by simpa [subN] using h); omega
/-- Without the first n cells. -/
def dropW : List V → Nat → Option (List V)
  | l, 0 => some l
  | [], _ + 1 => none
  | v :: l, n + 1 => match subN (n + 1) v.w with | some k => dropW l k | none => none
/-- The first n cells. -/
def takeW : List V → Nat → Option (List V)
  | _, 0 => some []
  | [], _ + 1 => none
  | v :: l, n + 1 => match subN (n + 1) v.w with
    | some k => match takeW l k with | some r => some (v :: r) | none => none
    | none => none
theorem dropW_ok {σ : Sg} {E : EH} : ∀ {l : List V} {n : Nat} {r : List V}, dropW l n = some r → ∀ {xs : List Value}, DenC σ E l xs → DenC σ E r (xs.drop n) ∧ n ≤ xs.length
  | l, 0, r, h, xs, hd => by simp [dropW] at h; subst h; exact ⟨by simpa using hd, Nat.zero_le _⟩
  | [], n + 1, r, h, xs, hd => by simp [dropW] at h
  | v :: l, n + 1, r, h, xs, hd => by
    simp only [dropW] at h
    split at h
    · rename_i k hk
      have e := subN_ok hk
      obtain ⟨ys, zs, rfl, h1, h2⟩ := hd.uncons
      obtain ⟨h3, h4⟩ := dropW_ok h h2
      have hl := h1.len
      rw [e, ← hl, List.drop_length_add_append]
      exact ⟨h3, by simp; omega⟩
    · cases h
theorem takeW_ok {σ : Sg} {E : EH} : ∀ {l : List V} {n : Nat} {r : List V}, takeW l n = some r → ∀ {xs : List Value}, DenC σ E l xs → DenC σ E r (xs.take n) ∧ n ≤ xs.length
  | l, 0, r, h, xs, hd => by simp [takeW] at h; subst h; exact ⟨by simp [DenC], Nat.zero_le _⟩
  | [], n + 1, r, h, xs, hd => by simp [takeW] at h
  | v :: l, n + 1, r, h, xs, hd => by
    simp only [takeW] at h
    split at h <;> try (cases h; done)
    rename_i k hk
    split at h <;> try (cases h; done)
    rename_i r' hr
    cases h
    have e := subN_ok hk
    obtain ⟨ys, zs, rfl, h1, h2⟩ := hd.uncons
    obtain ⟨h3, h4⟩ := takeW_ok hr h2
    have hl := h1.len
    rw [e, ← hl, List.take_length_add_append]
    exact ⟨DenC.cons h1 h3, by simp; omega⟩
/-- The cells from off on turned to vs. -/
def spliceW : List V → Nat → List V → Option (List V)
  | l, 0, vs => match dropW l (wid vs) with | some r => some (vs ++ r) | none => none
  | [], _ + 1, _ => none
  | v :: l, n + 1, vs => match subN (n + 1) v.w with
    | some k => match spliceW l k vs with | some r => some (v :: r) | none => none
    | none => none
theorem spliceW_ok {σ : Sg} {E : EH} : ∀ {l : List V} {n : Nat} {vs r : List V}, spliceW l n vs = some r → ∀ {xs : List Value}, DenC σ E l xs → ∀ {ys : List Value}, DenC σ E vs ys → DenC σ E r (splice xs n ys) ∧ n + ys.length ≤ xs.length
  | l, 0, vs, r, h, xs, hd, ys, hv => by
    simp only [spliceW] at h
    split at h <;> try (cases h; done)
    rename_i t ht
    cases h
    obtain ⟨h1, h2⟩ := dropW_ok ht hd
    rw [← hv.len] at h1 h2
    refine ⟨?_, by omega⟩
    unfold splice
    simpa using hv.append h1
  | [], n + 1, vs, r, h, xs, hd, ys, hv => by simp [spliceW] at h
  | v :: l, n + 1, vs, r, h, xs, hd, ys, hv => by
    simp only [spliceW] at h
    split at h <;> try (cases h; done)
    rename_i k hk
    split at h <;> try (cases h; done)
    rename_i r' hr
    cases h
    have e := subN_ok hk
    obtain ⟨us, zs, rfl, h1, h2⟩ := hd.uncons
    obtain ⟨h3, h4⟩ := spliceW_ok hr h2 hv
    have hl := h1.len
    refine ⟨?_, by simp; omega⟩
    have : splice (us ++ zs) (n + 1) ys = us ++ splice zs k ys := by
      unfold splice
      rw [e, ← hl, List.take_length_add_append, Nat.add_assoc, List.drop_length_add_append]
      simp
    rw [this]
    exact DenC.cons h1 h3

/-- The piece that begins at a cell. -/
def pieceAt (l : List V) (base : Nat) : Option V := match dropW l base with | some (v :: _) => some v | _ => none
theorem pieceAt_arr {σ : Sg} {E : EH} {l : List V} {base m : Nat} {cs : List D} (h : pieceAt l base = some (.arr m cs)) {xs : List Value} (hd : DenC σ E l xs) :
    ∃ ys, DenD E cs ys ∧ cs.length = m ∧ base + m ≤ xs.length ∧ (xs.drop base).take m = ys := by
  unfold pieceAt at h
  split at h <;> try (cases h; done)
  rename_i v r hr
  cases h
  obtain ⟨h1, h2⟩ := dropW_ok hr hd
  obtain ⟨ys, zs, e, h3, h4⟩ := h1.uncons
  rcases h3 with ⟨y, _, _, hy⟩ | ⟨m', cs', e', hl, hdd⟩
  · simp only [Den] at hy
  · cases e'
    have hyl := hdd.len
    refine ⟨ys, hdd, hl, ?_, ?_⟩
    · have := congrArg List.length e
      simp at this
      omega
    · rw [e, ← hl, ← hyl, List.take_left]
end Vc
