/- New variables, literals, addresses of fields and elements, slices of slices, lengths. -/
import Derived.Test.YtgadaeodoapgiaaVcD
namespace Vc
open Go

def eqv : Value → Value → Bool
  | .int .i64 a, .int .i64 b | .int .u8 a, .int .u8 b | .int .u32 a, .int .u32 b | .int .u64 a, .int .u64 b => decide (a = b)
  | .bool a, .bool b => a == b
  | .slice none 0 0, .slice none 0 0 => true
  | _, _ => false
theorem eqv_ok {a b : Value} (h : eqv a b = true) : a = b := by
  unfold eqv at h
  split at h <;> simp_all
def eqvL : List Value → List Value → Bool
  | [], [] => true
  | a :: l, b :: m => eqv a b && eqvL l m
  | _, _ => false
theorem eqvL_ok : ∀ {l m : List Value}, eqvL l m = true → l = m
  | [], [], _ => rfl
  | a :: l, b :: m, h => by
    simp only [eqvL, Bool.and_eq_true] at h
    rw [eqv_ok h.1, eqvL_ok h.2]
  | [], _ :: _, h => by simp [eqvL] at h
  | _ :: _, [], h => by simp [eqvL] at h

/-- A new block of cells of ours. -/
theorem alloc_cells {σ : Sg} {E : EH} {kb : KB} {W : World} (hi : Inv σ E kb W) {vs : List V} {xs : List Value} (hd : DenL σ E vs xs) (ty : TypeId) :
    ∃ σ', Step σ E kb W σ' E (kb ++ [.cells vs]) (W.alloc (.cells xs.toArray ty)) ∧ Den σ' E (.ptr kb.length 0) (.pointer (some ⟨W.heap.size, 0, none⟩)) := by
  have ho : HoldsO (σ ++ [⟨W.heap.size, 0, 0⟩]) E (W.alloc (.cells xs.toArray ty)) ⟨W.heap.size, 0, 0⟩ (.cells vs) := by
    refine ⟨xs.toArray, ty, ?_, ?_⟩
    · show (W.heap.push _)[W.heap.size]? = _
      simp
    · exact DenL.mono (EH.le.refl E) hd
  refine ⟨σ ++ [⟨W.heap.size, 0, 0⟩], hi.alloc _ ⟨W.heap.size, 0, 0⟩ (.cells vs) (fun b hb => hb) ho, ?_⟩
  · simp only [Den]
    exact ⟨⟨W.heap.size, 0, 0⟩, by rw [← hi.len]; simp, rfl⟩

/-- A new row of ours. -/
theorem alloc_row {σ : Sg} {E : EH} {kb : KB} {W : World} (hi : Inv σ E kb W) {ty : TypeId} {sz cap : Nat} {l : List (List Value)} {arr : Array Value} (h1 : wellE sz l) (h2 : l.length ≤ cap)
    (h3 : cap ≤ maxLen) (h4 : arr.size = cap * sz) (h5 : arr.toList.take (l.length * sz) = l.flatten) :
    Step σ E kb W (σ ++ [⟨W.heap.size, cap, sz⟩]) E (kb ++ [.row ty sz l]) (W.alloc (.cells arr ty)) := by
  refine hi.alloc _ _ _ (fun b hb => hb.2) ⟨rfl, h1, h2, h3, .inr ⟨arr, ?_, h4, h5⟩⟩
  show (W.heap.push _)[W.heap.size]? = _
  simp

def allocK (P : Program) (t : TypeId) (kb : KB) (K : V → KB → Prop) : Prop :=
  match (P.info? t).bind (·.zero), P.underlying t with
  | some z, some (.array m e) =>
    match Nat.ble 9 m with
    | true =>
      match (P.info? e).bind (·.zero) with
      | some ze =>
        match eqvL z.cells.toList (List.replicate m ze.cells.toList).flatten, Nat.ble m 1000000, ze.cells.toList.all Value.oneCell' with
        | true, true, true => K (.ptr kb.length 0) (kb ++ [.row t ze.cells.toList.length (List.replicate m ze.cells.toList)])
        | _, _, _ => False
      | none => False
    | false => K (.ptr kb.length 0) (kb ++ [.cells (z.cells.toList.map cvc1)])
  | some z, some _ => K (.ptr kb.length 0) (kb ++ [.cells (z.cells.toList.map cvc1)])
  | _, _ => False

theorem run_alloc {P : Program} {t : TypeId} {z : Value} (h : (P.info? t).bind (·.zero) = some z) (W : World) :
    (Instr.alloc t true (.tuple #[])).run P W = .ok (.pointer (some ⟨W.heap.size, 0, none⟩)) (W.alloc (.cells z.cells t)) := by
  obtain ⟨i, hi, hz⟩ := Option.bind_eq_some_iff.1 h
  simp [Instr.alloc, zeroValue, typeInfo, hi, hz, newVar, newRow]

theorem allocK_ok {P : Program} {t : TypeId} {kb : KB} {K : V → KB → Prop} (h : allocK P t kb K) {σ : Sg} {E : EH} {W : World} (hi : Inv σ E kb W) :
    ∃ v x σ' kb' W', (Instr.alloc t true (.tuple #[])).run P W = .ok x W' ∧ Step σ E kb W σ' E kb' W' ∧ Den σ' E v x ∧ K v kb' := by
  have plain : ∀ z, (P.info? t).bind (·.zero) = some z → K (.ptr kb.length 0) (kb ++ [.cells (z.cells.toList.map cvc1)]) →
      ∃ v x σ' kb' W', (Instr.alloc t true (.tuple #[])).run P W = .ok x W' ∧ Step σ E kb W σ' E kb' W' ∧ Den σ' E v x ∧ K v kb' := by
    intro z hz hK
    obtain ⟨σ', h1, h2⟩ := alloc_cells hi (denL_cvc1 σ E z.cells.toList) t
    exact ⟨_, _, σ', _, _, run_alloc hz W, by simpa using h1, h2, hK⟩
  unfold allocK at h
  split at h
  · rename_i z m e hz _
    split at h
    · split at h
      · rename_i ze hze
        split at h
        · rename_i h1 h2 h3
          have e1 := eqvL_ok h1
          have e2 := Nat.le_of_ble_eq_true h2
          have hst : Step σ E kb W (σ ++ [⟨W.heap.size, m, ze.cells.toList.length⟩]) E (kb ++ [.row t ze.cells.toList.length (List.replicate m ze.cells.toList)]) (W.alloc (.cells z.cells t)) := by
            refine alloc_row hi (fun c hc => ?_) (by simp) (by simp only [maxLen]; omega) ?_ ?_
            · rw [List.eq_of_mem_replicate hc]; exact ⟨rfl, fun c hc => List.all_eq_true.1 h3 c hc⟩
            · have := congrArg List.length e1
              rw [flatten_length (sz := ze.cells.toList.length) (fun c hc => by rw [List.eq_of_mem_replicate hc])] at this
              simpa using this
            · rw [e1, List.take_of_length_le]
              rw [flatten_length (sz := ze.cells.toList.length) (fun c hc => by rw [List.eq_of_mem_replicate hc])]
              exact Nat.le_refl _
          exact ⟨_, _, _, _, _, run_alloc hz W, hst, by simp only [Den]; exact ⟨⟨W.heap.size, m, ze.cells.toList.length⟩, by rw [← hi.len]; simp, rfl⟩, h⟩
        · exact h.elim
      · exact h.elim
    · exact plain z hz h
  · rename_i z _ _ hz _
    exact plain z hz h
  · exact h.elim

def boxK (P : Program) (t : TypeId) (v : V) (kb : KB) (K : V → KB → Prop) : Prop :=
  match cellsV P t v with
  | some vs => K (.ptr kb.length 0) (kb ++ [.cells vs])
  | none => False

theorem boxK_ok {P : Program} {t : TypeId} {v : V} {kb : KB} {K : V → KB → Prop} (h : boxK P t v kb K) {σ : Sg} {E : EH} {W : World} (hi : Inv σ E kb W) {y : Value} (hy : Den σ E v y) :
    ∃ u x σ' kb' W', (Instr.box t y).run P W = .ok x W' ∧ Step σ E kb W σ' E kb' W' ∧ Den σ' E u x ∧ K u kb' := by
  unfold boxK at h
  split at h
  · rename_i vs hvs
    obtain ⟨xs, hc, hD, _, _⟩ := cellsV_ok hvs hy
    obtain ⟨σ', h1, h2⟩ := alloc_cells hi hD t
    exact ⟨_, _, σ', _, _, by simp [Instr.box, newVar, newRow, hc], h1, h2, h⟩
  · exact h.elim

/-! ### Addresses -/
def fieldK (P : Program) (s : TypeId) (addr : V) (n : Nat) (K : V → Prop) : Prop :=
  match P.underlying s with
  | some (.struct fs) =>
    match fs[n]? with
    | some f =>
      match tSize P f.type with
      | some (_ + 1) =>
        match addr with
        | .ptr i off => K (.ptr i (off + f.offset))
        | .pe i ix fld => K (.pe i ix (fld + f.offset))
        | .ipe e fld => K (.ipe e (fld + f.offset))
        | _ => False
      | _ => False
    | none => False
  | _ => False

theorem run_fieldAt {P : Program} {s : TypeId} {fs : Array Field} {n : Nat} {f : Field} {m : Nat} (hs : P.underlying s = some (.struct fs)) (hf : fs[n]? = some f) (hm : tSize P f.type = some (m + 1)) (b o : Nat) (W : World) :
    (Instr.fieldAt s (.pointer (some ⟨b, o, none⟩)) n).run P W = .ok (.pointer (some ⟨b, o + f.offset, none⟩)) W := by
  simp [Instr.fieldAt, run_underlying hs, hf, Instr.sureAddr, fieldPlace, run_tSize hm, Addr.add_lit]

theorem fieldK_ok {P : Program} {s : TypeId} {addr : V} {n : Nat} {K : V → Prop} (h : fieldK P s addr n K) {σ : Sg} {E : EH} {a : Value} (hd : Den σ E addr a) :
    ∃ v x, (∀ W, (Instr.fieldAt s a n).run P W = .ok x W) ∧ Den σ E v x ∧ K v := by
  unfold fieldK at h
  split at h <;> try exact h.elim
  rename_i fs hs
  split at h <;> try exact h.elim
  rename_i f hf
  split at h <;> try exact h.elim
  rename_i m hm
  split at h <;> try exact h.elim
  · simp only [Den] at hd
    obtain ⟨r, hr, rfl⟩ := hd
    exact ⟨_, _, fun W => run_fieldAt hs hf hm _ _ W, by simp only [Den]; exact ⟨r, hr, rfl⟩, h⟩
  · simp only [Den] at hd
    obtain ⟨r, hr, rfl⟩ := hd
    exact ⟨_, _, fun W => run_fieldAt hs hf hm _ _ W, by simp only [Den]; exact ⟨r, hr, by rw [Nat.add_assoc]⟩, h⟩
  · simp only [Den] at hd
    obtain ⟨b, off, rfl, hr⟩ := hd
    exact ⟨_, _, fun W => run_fieldAt hs hf hm _ _ W, by simp only [Den]; exact ⟨b, off, by rw [Nat.add_assoc], hr⟩, h⟩

theorem RepDs.sub {E : EH} : ∀ {cs : List D} {b off : Nat}, RepDs E cs b off → ∀ (k m : Nat), RepDs E ((cs.drop k).take m) b (off + k)
  | [], _, _, _, k, m => by simp [RepDs]
  | c :: cs, b, off, h, 0, m => by
    cases m with
    | zero => simp [RepDs]
    | succ m =>
      simp only [RepDs] at h
      simp only [List.drop_zero, List.take_succ_cons, RepDs, Nat.add_zero]
      exact ⟨h.1, by simpa using h.2.sub 0 m⟩
  | c :: cs, b, off, h, k + 1, m => by
    simp only [RepDs] at h
    rw [List.drop_succ_cons, show off + (k + 1) = off + 1 + k by omega]
    exact h.2.sub k m

/-- Element ix of a row of elements of sz cells. -/
theorem flatten_sub {sz : Nat} : ∀ {l : List (List Value)}, (∀ e ∈ l, e.length = sz) → ∀ {ix : Nat} {e : List Value}, l[ix]? = some e → (l.flatten.drop (ix * sz)).take sz = e
  | [], _, _, _, h => by simp at h
  | c :: l, hs, 0, e, h => by
    have hc : c.length = sz := hs c (by simp)
    simp at h; subst h
    simp [← hc]
  | c :: l, hs, ix + 1, e, h => by
    have hc : c.length = sz := hs c (by simp)
    rw [List.flatten_cons, show (ix + 1) * sz = c.length + ix * sz by rw [Nat.succ_mul, hc]; omega, List.drop_length_add_append]
    exact flatten_sub (fun e he => hs e (List.mem_cons_of_mem _ he)) (by simpa using h)

/-- An index that is within. -/
def InB (n : Int) (m : Nat) : Prop := 0 ≤ n ∧ n < (m : Int)
def NonN (n : Int) : Prop := 0 ≤ n
def indexK (P : Program) (t : TypeId) (x ix : V) (kb : KB) (K : V → Prop) : Prop :=
  match P.underlying t, ix with
  | some (.slice elem), .int _ n =>
    match tSize P elem, x with
    | some (s + 1), .sl i lo hi =>
      match kb[i]? with
      | some (.row _ sz _) => match Nat.beq sz (s + 1) with
        | true => InB n (hi - lo) ∧ K (.pe i (lo + n.toNat) 0)
        | false => False
      | _ => False
    | some (s + 1), .isl sz l => match Nat.beq sz (s + 1) with
      | true => NonN n ∧ ∃ e, l[n.toNat]? = some e ∧ K (.ipe e 0)
      | false => False
    | _, _ => False
  | some (.array m elem), .int _ n =>
    match tSize P elem, x with
    | some s, .ptr i off =>
      match kb[i]? with
      | some (.row _ sz _) => match Nat.beq sz s, Nat.beq off 0 with
        | true, true => InB n m ∧ K (.pe i n.toNat 0)
        | _, _ => False
      | some (.cells _) => InB n m ∧ K (.ptr i (off + n.toNat * s))
      | _ => False
    | some s, .pe i ix fld => InB n m ∧ K (.pe i ix (fld + n.toNat * s))
    | some s, .ipe e fld => InB n m ∧ K (.ipe e (fld + n.toNat * s))
    | _, _ => False
  | _, _ => False

theorem run_index_slice {P : Program} {t elem : TypeId} {s : Nat} (ht : P.underlying t = some (.slice elem)) (hs : tSize P elem = some s) {b o len cap : Nat} {k : IntKind} {n : Int} (h0 : 0 ≤ n) (h1 : n < (len : Int)) (W : World) :
    (Instr.indexAt t (.slice (some ⟨b, o, none⟩) len cap) (.int k n)).run P W = .ok (.pointer (some ⟨b, o + n.toNat * s, none⟩)) W := by
  simp [Instr.indexAt, asIntOf, run_underlying ht, h0, h1, run_tSize hs, Addr.add_lit]

theorem run_index_array {P : Program} {t elem : TypeId} {m s : Nat} (ht : P.underlying t = some (.array m elem)) (hs : tSize P elem = some s) {b o : Nat} {k : IntKind} {n : Int} (h0 : 0 ≤ n) (h1 : n < (m : Int)) (W : World) :
    (Instr.indexAt t (.pointer (some ⟨b, o, none⟩)) (.int k n)).run P W = .ok (.pointer (some ⟨b, o + n.toNat * s, none⟩)) W := by
  simp [Instr.indexAt, asIntOf, run_underlying ht, h0, h1, run_tSize hs, Addr.add_lit, Instr.sureAddr]

theorem indexK_ok {P : Program} {t : TypeId} {x ix : V} {kb : KB} {K : V → Prop} (h : indexK P t x ix kb K) {σ : Sg} {E : EH} {W : World} (hi : Inv σ E kb W) {a y : Value} (hd : Den σ E x a) (hy : Den σ E ix y) :
    ∃ v z, (∀ W, (Instr.indexAt t a y).run P W = .ok z W) ∧ Den σ E v z ∧ K v := by
  unfold indexK at h
  split at h <;> try exact h.elim
  · rename_i elem k n ht
    simp only [Den] at hy
    subst hy
    split at h <;> try exact h.elim
    · rename_i s i lo hi' hs
      split at h <;> try exact h.elim
      rename_i ty sz l hl
      split at h <;> try exact h.elim
      rename_i hb
      have hsz := Nat.eq_of_beq_eq_true hb
      obtain ⟨⟨h0, h1⟩, hK⟩ := h
      simp only [Den] at hd
      obtain ⟨r, ad, hr, rfl, hlo, hhi, had⟩ := hd
      have hrs := (hi.obj i r _ hr hl).1
      rw [had (by omega)]
      exact ⟨_, _, fun W => run_index_slice ht hs h0 h1 W, by simp only [Den]; exact ⟨r, hr, by simp [hrs, hsz, Nat.add_mul]⟩, hK⟩
    · rename_i s sz l hs
      split at h <;> try exact h.elim
      rename_i hb
      have hsz := Nat.eq_of_beq_eq_true hb
      obtain ⟨h0, e, he, hK⟩ := h
      unfold NonN at h0
      simp only [Den, RepD] at hd
      obtain ⟨hall, ad, len, cap, rfl, hlen, _, hrep⟩ := hd
      rw [List.length_map, flatten_length hall.len, hsz] at hlen
      have hll : len = l.length := Nat.eq_of_mul_eq_mul_right (Nat.succ_pos s) hlen
      have hn : n.toNat < l.length := (List.getElem?_eq_some_iff.1 he).1
      have hes := hall.len e (List.mem_of_getElem? he)
      rcases hrep with hrep | ⟨b, off, rfl, hrep⟩
      · have h2 := congrArg List.length hrep
        rw [List.length_map, flatten_length hall.len, hsz] at h2
        simp only [List.length_nil, Nat.mul_eq_zero] at h2
        omega
      · refine ⟨_, _, fun W => run_index_slice ht hs h0 (by omega) W, ?_, hK⟩
        simp only [Den]
        refine ⟨b, off + n.toNat * (s + 1), by simp, ?_⟩
        have := hrep.sub (n.toNat * sz) sz
        rw [← List.map_drop, ← List.map_take, flatten_sub hall.len he, hsz] at this
        exact this
  · rename_i m elem k n ht
    simp only [Den] at hy
    subst hy
    split at h <;> try exact h.elim
    · rename_i s i off hs
      simp only [Den] at hd
      obtain ⟨r, hr, rfl⟩ := hd
      split at h <;> try exact h.elim
      · rename_i ty sz l hl
        split at h <;> try exact h.elim
        rename_i hb ho
        have hsz := Nat.eq_of_beq_eq_true hb
        have hoff := Nat.eq_of_beq_eq_true ho
        obtain ⟨⟨h0, h1⟩, hK⟩ := h
        have hrs := (hi.obj i r _ hr hl).1
        exact ⟨_, _, fun W => run_index_array ht hs h0 h1 W, by simp only [Den]; exact ⟨r, hr, by rw [hrs, hsz, hoff, Nat.zero_add, Nat.add_zero]⟩, hK⟩
      · obtain ⟨⟨h0, h1⟩, hK⟩ := h
        exact ⟨_, _, fun W => run_index_array ht hs h0 h1 W, by simp only [Den]; exact ⟨r, hr, rfl⟩, hK⟩
    · rename_i s i ix fld hs
      simp only [Den] at hd
      obtain ⟨r, hr, rfl⟩ := hd
      obtain ⟨⟨h0, h1⟩, hK⟩ := h
      exact ⟨_, _, fun W => run_index_array ht hs h0 h1 W, by simp only [Den]; exact ⟨r, hr, by rw [Nat.add_assoc]⟩, hK⟩
    · rename_i s e fld hs
      simp only [Den] at hd
      obtain ⟨b, off, rfl, hr⟩ := hd
      obtain ⟨⟨h0, h1⟩, hK⟩ := h
      exact ⟨_, _, fun W => run_index_array ht hs h0 h1 W, by simp only [Den]; exact ⟨b, off, by rw [Nat.add_assoc], hr⟩, hK⟩
end Vc
