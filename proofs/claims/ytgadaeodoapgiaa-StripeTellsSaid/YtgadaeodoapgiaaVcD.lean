/- Stores, new variables, addresses of fields and elements. -/
import Derived.Test.YtgadaeodoapgiaaVcC
namespace Vc
open Go

/-- The cells of a value of type t. -/
def cellsV (P : Program) (t : TypeId) (v : V) : Option (List V) :=
  match tSize P t, v with
  | some n, .agg vs => match Nat.beq vs.length n, vs.all V.one with | true, true => some vs | _, _ => none
  | some n, v => match Nat.beq n 1, V.one v with | true, true => some [v] | _, _ => none
  | _, _ => none

theorem cellsV_ok {P : Program} {t : TypeId} {v : V} {vs : List V} (h : cellsV P t v = some vs) {σ : Sg} {E : EH} {x : Value} (hd : Den σ E v x) :
    ∃ xs, x.cells = xs.toArray ∧ DenL σ E vs xs ∧ (∀ y ∈ xs, y.oneCell' = true) ∧ tSize P t = some xs.length := by
  unfold cellsV at h
  have hall : ∀ {vs : List V} {xs : List Value}, vs.all V.one = true → DenL σ E vs xs → ∀ y ∈ xs, y.oneCell' = true := by
    intro vs xs ha hD y hy
    obtain ⟨i, hi⟩ := List.getElem?_of_mem hy
    obtain ⟨u, hu, hu2⟩ := hD.get' hi
    exact one_den (List.all_eq_true.1 ha u (List.mem_of_getElem? hu)) hu2
  split at h
  · rename_i n l hn
    split at h
    · rename_i h1 h2
      cases h
      simp only [Den] at hd
      obtain ⟨xs, rfl, hD⟩ := hd
      exact ⟨xs, rfl, hD, hall h2 hD, by rw [hD.len, Nat.eq_of_beq_eq_true h1]; exact hn⟩
    · cases h
  · rename_i n v hv hn
    split at h
    · rename_i h1 h2
      cases h
      have h3 := one_den h2 hd
      refine ⟨[x], ?_, .cons hd .nil, by simpa using h3, by rw [hv, Nat.eq_of_beq_eq_true h1]; rfl⟩
      cases x <;> simp_all [Value.cells, Value.oneCell']
    · cases h
  · cases h

/-- l with the cells from off on turned to vs. -/
def splice {α : Type} (l : List α) (off : Nat) (vs : List α) : List α := l.take off ++ vs ++ l.drop (off + vs.length)

theorem splice_len {α : Type} {l : List α} {off : Nat} {vs : List α} (h : off + vs.length ≤ l.length) : (splice l off vs).length = l.length := by
  simp [splice]; omega

theorem run_store_cells {P : Program} {t : TypeId} {x : Value} {xs : List Value} (hx : x.cells = xs.toArray) (hn : tSize P t = some xs.length) (h1 : ∀ y ∈ xs, y.oneCell' = true)
    {W : World} {b o : Nat} {arr : Array Value} {ty : TypeId} (hb : W.heap[b]? = some (.cells arr ty (0, 0))) (hl : o + xs.length ≤ arr.size) :
    (storeVar t ⟨b, o, none⟩ x).run P W = .ok () (W.setRow b (splice arr.toList o xs).toArray) := by
  unfold storeVar
  rw [Sem.run_bind, run_tSize hn, Result.andThen_ok, hx]
  have hs := run_storeCells_at P b o ty xs 0 arr W hb (by simpa using hl) h1
  simp only [Nat.add_zero] at hs
  simp [hs, splice]

theorem setRow_step {σ : Sg} {E : EH} {kb : KB} {W : World} (hi : Inv σ E kb W) {i : Nat} {r : Re} {o o' : KO} (hs : σ[i]? = some r) (hk : kb[i]? = some o) (arr : Array Value)
    (hr : ∀ b, owned r o b ↔ b = r.blk) (hr' : ∀ b, owned r o' b → b = r.blk) (ho : HoldsO σ E (W.setRow r.blk arr) r o') :
    Step σ E kb W σ E (kb.set i o') (W.setRow r.blk arr) :=
  hi.set hs hk rfl rfl rfl (by simp [World.setRow]) (fun b hb => setRow_other W r.blk b arr (fun e => hb ((hr b).2 e))) (fun b hb => (hr b).2 (hr' b hb)) ho

/-- A store of type t at a symbolic address. -/
def storeK (P : Program) (t : TypeId) (addr v : V) (kb : KB) (K : KB → Prop) : Prop :=
  match cellsV P t v with
  | some vs =>
    match addr with
    | .ptr i off =>
      match kb[i]? with
      | some (.cells l) => match Nat.ble (off + vs.length) l.length with
        | true => K (kb.set i (.cells (splice l off vs)))
        | false => False
      | _ => False
    | .pe i ix fld =>
      match kb[i]? with
      | some (.row ty sz l) =>
        match V.vals? vs, Nat.beq fld 0, Nat.beq vs.length sz, Nat.ble (fld + vs.length) sz with
        | some xs, true, true, _ => ix < l.length ∧ K (kb.set i (.row ty sz (l.set ix xs)))
        | some xs, _, _, true => ∃ e, l[ix]? = some e ∧ K (kb.set i (.row ty sz (l.set ix (splice e fld xs))))
        | _, _, _, _ => False
      | _ => False
    | _ => False
  | none => False

theorem denL_splice {σ : Sg} {E : EH} {l : List V} {xs : List Value} (h : DenL σ E l xs) {vs : List V} {ys : List Value} (k : DenL σ E vs ys) (off : Nat) :
    DenL σ E (splice l off vs) (splice xs off ys) := by
  unfold splice
  rw [k.len]
  exact ((h.take off).append k).append (h.drop _)

/-- A row in which one element has turned. -/
theorem flatten_set {sz : Nat} : ∀ {l : List (List Value)}, (∀ e ∈ l, e.length = sz) → ∀ {ix : Nat}, ix < l.length → ∀ {e : List Value}, e.length = sz →
    (l.set ix e).flatten = splice l.flatten (ix * sz) e
  | [], _, ix, h, _, _ => by simp at h
  | c :: l, hs, ix, h, e, he => by
    have hc : c.length = sz := hs c (by simp)
    cases ix with
    | zero => simp [splice, he, ← hc]
    | succ ix =>
      rw [List.set_cons_succ, List.flatten_cons, flatten_set (fun e he => hs e (List.mem_cons_of_mem _ he)) (by simpa using h) he]
      have e1 : (ix + 1) * sz = c.length + ix * sz := by rw [Nat.succ_mul, hc]; omega
      unfold splice
      rw [e1, List.flatten_cons, List.take_length_add_append, Nat.add_assoc c.length, List.drop_length_add_append]
      simp only [List.append_assoc]
  
theorem splice_take {α : Type} {l : List α} {n off : Nat} {vs : List α} (h : off + vs.length ≤ n) (hn : n ≤ l.length) : (splice l off vs).take n = splice (l.take n) off vs := by
  unfold splice
  rw [List.take_append, List.take_append]
  have e1 : (l.take off).take n = l.take off := by rw [List.take_take, Nat.min_eq_right (by omega)]
  have e2 : vs.take (n - (l.take off).length) = vs := List.take_of_length_le (by simp; omega)
  rw [e1, e2, List.take_take, Nat.min_eq_left (by omega), List.drop_take]
  congr 2
  simp; omega

theorem drop_mid {α : Type} {z : List α} {f sz : Nat} (h : f ≤ sz) : z.drop f = (z.take sz).drop f ++ z.drop sz := by
  have h1 : z.drop f = (z.take sz ++ z.drop sz).drop f := by rw [List.take_append_drop]
  rw [h1, List.drop_append]
  congr 1
  rcases Nat.le_total sz z.length with hz | hz
  · rw [List.length_take, Nat.min_eq_left hz, Nat.sub_eq_zero_of_le h, List.drop_zero]
  · rw [List.drop_eq_nil_of_le hz, List.drop_nil]

theorem row_store {σ : Sg} {E : EH} {kb : KB} {W : World} (hi : Inv σ E kb W) {i : Nat} {r : Re} {ty : TypeId} {sz : Nat} {l : List (List Value)} (hs : σ[i]? = some r) (hk : kb[i]? = some (.row ty sz l))
    {ix fld : Nat} {e xs : List Value} (he : l[ix]? = some e) (hf : fld + xs.length ≤ sz) (h1 : ∀ y ∈ xs, y.oneCell' = true) :
    ∃ arr, W.heap[r.blk]? = some (.cells arr ty (0, 0)) ∧ ix * r.sz + fld + xs.length ≤ arr.size ∧
      Step σ E kb W σ E (kb.set i (.row ty sz (l.set ix (splice e fld xs)))) (W.setRow r.blk (splice arr.toList (ix * r.sz + fld) xs).toArray) := by
  have ho := hi.obj i r _ hs hk
  obtain ⟨rfl, g1, g2, g3, g4⟩ := ho
  have hix : ix < l.length := (List.getElem?_eq_some_iff.1 he).1
  have hes := g1.len e (List.mem_of_getElem? he)
  rcases g4 with g4 | ⟨arr, g4, g5, g6⟩
  · omega
  have hm : (ix + 1) * r.sz ≤ l.length * r.sz := Nat.mul_le_mul_right _ hix
  have hm2 : l.length * r.sz ≤ r.cap * r.sz := Nat.mul_le_mul_right _ g2
  rw [Nat.succ_mul] at hm
  have hsl : (splice e fld xs).length = r.sz := by rw [splice_len (by omega), hes]
  have hcap : r.cap ≠ 0 := by omega
  refine ⟨arr, g4, by omega, setRow_step hi hs hk _ (fun b => ⟨fun h => h.2, fun h => ⟨hcap, h⟩⟩) (fun b h => h.2) ⟨rfl, g1.set ix hsl (fun c hc => ?_), by simpa using g2, g3, .inr ⟨_, setRow_heap W r.blk arr _ ty (0, 0) g4, ?_, ?_⟩⟩⟩
  · have h2 := (g1 e (List.mem_of_getElem? he)).2
    simp only [splice, List.mem_append] at hc
    rcases hc with (hc | hc) | hc
    · exact h2 c (List.mem_of_mem_take hc)
    · exact h1 c hc
    · exact h2 c (List.mem_of_mem_drop hc)
  · simp only [List.size_toArray]
    rw [splice_len (by simp; omega)]
    simpa using g5
  · simp only [List.length_set]
    rw [splice_take (by omega) (by simp; omega), g6, flatten_set g1.len hix hsl]
    unfold splice
    have el : l.flatten.length = l.length * r.sz := flatten_length g1.len
    have e1 : (l.flatten.drop (ix * r.sz)).take r.sz = e := by
      apply List.ext_getElem?
      intro j
      rcases Nat.lt_or_ge j r.sz with hj | hj
      · rw [List.getElem?_take_of_lt hj, List.getElem?_drop]
        have : j < e.length := by omega
        rw [List.getElem?_eq_getElem this]
        exact flatten_at g1.len he (List.getElem?_eq_getElem this)
      · rw [List.getElem?_eq_none (by simp; omega), List.getElem?_eq_none (by omega)]
    have e2 : l.flatten.take (ix * r.sz + fld) = l.flatten.take (ix * r.sz) ++ e.take fld := by
      rw [List.take_add, ← e1, List.take_take, Nat.min_eq_left (by omega)]
    have e3 : l.flatten.drop (ix * r.sz + fld + xs.length) = e.drop (fld + xs.length) ++ l.flatten.drop (ix * r.sz + (e.take fld ++ xs ++ e.drop (fld + xs.length)).length) := by
      have e4 : (e.take fld ++ xs ++ e.drop (fld + xs.length)).length = r.sz := hsl
      rw [e4, Nat.add_assoc, ← List.drop_drop, drop_mid hf, e1, List.drop_drop]
    rw [e2, e3]
    simp only [List.append_assoc]

theorem splice_all {α : Type} {e xs : List α} (h : e.length = xs.length) : splice e 0 xs = xs := by
  simp [splice, ← h]

theorem storeK_ok {P : Program} {t : TypeId} {addr v : V} {kb : KB} {K : KB → Prop} (h : storeK P t addr v kb K) {σ : Sg} {E : EH} {W : World} (hi : Inv σ E kb W) {a x : Value}
    (hd : Den σ E addr a) (hx : Den σ E v x) : ∃ kb' W', (Instr.storeAt t a x).run P W = .ok () W' ∧ Step σ E kb W σ E kb' W' ∧ K kb' := by
  unfold storeK at h
  split at h
  case h_2 => exact h.elim
  rename_i vs hvs
  obtain ⟨xs, hc, hD, h1, hn⟩ := cellsV_ok hvs hx
  split at h
  · rename_i i off
    simp only [Den] at hd
    obtain ⟨r, hr, rfl⟩ := hd
    split at h
    case h_2 => exact h.elim
    rename_i l hl
    split at h
    case h_2 => exact h.elim
    rename_i hb
    have hle := Nat.le_of_ble_eq_true hb
    obtain ⟨arr, ty, g1, g2⟩ := hi.obj i r _ hr hl
    have hlen : off + xs.length ≤ arr.size := by
      have := g2.len
      simp only [Array.length_toList] at this
      rw [this, hD.len]; exact hle
    have hst : Step σ E kb W σ E (kb.set i (.cells (splice l off vs))) (W.setRow r.blk (splice arr.toList off xs).toArray) :=
      setRow_step hi hr hl _ (fun b => Iff.rfl) (fun b hb => hb) ⟨_, ty, setRow_heap W r.blk arr _ ty (0, 0) g1, by simpa using denL_splice g2 hD off⟩
    exact ⟨_, _, by simpa [Instr.storeAt, Instr.sureAddr] using run_store_cells hc hn h1 g1 hlen, hst, h⟩
  · rename_i i ix fld
    simp only [Den] at hd
    obtain ⟨r, hr, rfl⟩ := hd
    split at h
    case h_2 => exact h.elim
    rename_i ty sz l hl
    split at h
    · rename_i ys hys hf hsz
      have he := (vals?_den hys).1 hD
      subst he
      obtain ⟨hix, hK⟩ := h
      have hfld := Nat.eq_of_beq_eq_true hf
      have hlen := Nat.eq_of_beq_eq_true hsz
      rw [← hD.len] at hlen
      subst hfld
      obtain ⟨arr, g1, g2, g3⟩ := row_store hi hr hl (List.getElem?_eq_getElem hix) (fld := 0) (xs := xs) (by omega) h1
      rw [splice_all (by have := ((hi.obj i r _ hr hl).2.1 _ (List.getElem_mem hix)).1; omega)] at g3
      exact ⟨_, _, by simpa [Instr.storeAt, Instr.sureAddr] using run_store_cells hc hn h1 g1 g2, g3, hK⟩
    · rename_i ys hys hf _
      have he := (vals?_den hys).1 hD
      subst he
      obtain ⟨e, he, hK⟩ := h
      have hle := Nat.le_of_ble_eq_true hf
      rw [← hD.len] at hle
      obtain ⟨arr, g1, g2, g3⟩ := row_store hi hr hl he hle h1
      exact ⟨_, _, by simpa [Instr.storeAt, Instr.sureAddr] using run_store_cells hc hn h1 g1 g2, g3, hK⟩
    · exact h.elim
  · exact h.elim
end Vc
