/- Operations on symbolic values: what a load, a store, a new variable, an address comes to, and that it comes to that in the model. -/
import Derived.Test.YtgadaeodoapgiaaVcB
namespace Vc
open Go

/-- A computation that touches no memory, run. -/
def calm {α : Type} (P : Program) : Sem α → Option α
  | .pure a => some a
  | .program k => calm P (k P)
  | .mark _ k => calm P k
  | _ => none

theorem calm_run {α : Type} {P : Program} : ∀ {s : Sem α} {a : α}, calm P s = some a → ∀ w, s.run P w = .ok a w
  | .pure _, _, h, _ => by simp [calm] at h; subst h; rfl
  | .program k, a, h, w => by
    simp only [calm] at h
    show (k P).run P w = _
    exact calm_run h w
  | .mark _ k, a, h, w => by
    simp only [calm] at h
    show k.run P w = _
    exact calm_run h w
  | .load .., _, h, _ | .store .., _, h, _ | .new .., _, h, _ | .shape .., _, h, _ | .freeze .., _, h, _ | .frozen .., _, h, _ | .getObj .., _, h, _ | .setObj .., _, h, _
  | .choose .., _, h, _ | .sys .., _, h, _ | .halt .., _, h, _ => by simp [calm] at h

/-! ### Values that are known, and back -/
def cv0 : Value → V
  | .int k n => .int k n
  | .bool b => .sb b
  | v => .any v
theorem cv0_den (σ : Sg) (E : EH) (v : Value) : Den σ E (cv0 v) v := by
  cases v <;> simp [cv0, Den]

theorem denL_cv0 (σ : Sg) (E : EH) : ∀ (l : List Value), DenL σ E (l.map cv0) l
  | [] => .nil
  | v :: l => .cons (cv0_den σ E v) (denL_cv0 σ E l)

def cv : Value → V
  | .agg cs => .agg (cs.toList.map cv0)
  | .tuple cs => .tup (cs.toList.map cv0)
  | .int k n => .int k n
  | .bool b => .sb b
  | v => .any v
theorem cv_den (σ : Sg) (E : EH) (v : Value) : Den σ E (cv v) v := by
  cases v with
  | agg cs => simp only [cv, Den]; exact ⟨cs.toList, by simp, denL_cv0 σ E _⟩
  | tuple cs => simp only [cv, Den]; exact ⟨cs.toList, by simp, denL_cv0 σ E _⟩
  | _ => simp [cv, Den]

/-- A constant of the text. -/
def cvc1 : Value → V
  | .bool true => .tt
  | .bool false => .ff
  | .int k n => .lit k n
  | v => .any v
theorem cvc1_den (σ : Sg) (E : EH) (v : Value) : Den σ E (cvc1 v) v := by
  cases v with
  | bool b => cases b <;> simp [cvc1, Den]
  | _ => simp [cvc1, Den]
theorem denL_cvc1 (σ : Sg) (E : EH) : ∀ (l : List Value), DenL σ E (l.map cvc1) l
  | [] => .nil
  | v :: l => .cons (cvc1_den σ E v) (denL_cvc1 σ E l)
def cvc : Value → V
  | .agg cs => .agg (cs.toList.map cvc1)
  | .tuple cs => .tup (cs.toList.map cvc1)
  | v => cvc1 v
theorem cvc_den (σ : Sg) (E : EH) (v : Value) : Den σ E (cvc v) v := by
  cases v with
  | agg cs => simp only [cvc, Den]; exact ⟨cs.toList, by simp, denL_cvc1 σ E _⟩
  | tuple cs => simp only [cvc, Den]; exact ⟨cs.toList, by simp, denL_cvc1 σ E _⟩
  | bool b => simp only [cvc]; exact cvc1_den σ E _
  | _ => simp [cvc, cvc1, Den]

mutual
/-- The very value, where nothing of ours is in it. -/
def V.val? : V → Option Value
  | .any v => some v
  | .int k n => some (.int k n)
  | .lit k n => some (.int k n)
  | .sb b => some (.bool b)
  | .tt => some (.bool true)
  | .ff => some (.bool false)
  | .agg l => match V.vals? l with | some vs => some (.agg vs.toArray) | none => none
  | .tup l => match V.vals? l with | some vs => some (.tuple vs.toArray) | none => none
  | .fn f cap => match V.vals? cap with | some vs => some (.func (.func f) #[] vs.toArray) | none => none
  | _ => none
def V.vals? : List V → Option (List Value)
  | [] => some []
  | v :: vs => match V.val? v with
    | some x => match V.vals? vs with | some xs => some (x :: xs) | none => none
    | none => none
end

mutual
theorem val?_den {σ : Sg} {E : EH} : ∀ {v : V} {x : Value}, V.val? v = some x → ∀ {y : Value}, Den σ E v y ↔ y = x
  | .any _, _, h, _ | .int .., _, h, _ | .lit .., _, h, _ | .sb _, _, h, _ | .tt, _, h, _ | .ff, _, h, _ => by simp [V.val?] at h; subst h; simp [Den]
  | .agg l, x, h, y => by
    simp only [V.val?] at h
    cases hl : V.vals? l with
    | none => simp [hl] at h
    | some vs =>
      simp [hl] at h; subst h
      simp only [Den]
      constructor
      · rintro ⟨xs, rfl, hd⟩; rw [(vals?_den hl).1 hd]
      · rintro rfl; exact ⟨vs, rfl, (vals?_den hl).2 rfl⟩
  | .tup l, x, h, y => by
    simp only [V.val?] at h
    cases hl : V.vals? l with
    | none => simp [hl] at h
    | some vs =>
      simp [hl] at h; subst h
      simp only [Den]
      constructor
      · rintro ⟨xs, rfl, hd⟩; rw [(vals?_den hl).1 hd]
      · rintro rfl; exact ⟨vs, rfl, (vals?_den hl).2 rfl⟩
  | .fn f l, x, h, y => by
    simp only [V.val?] at h
    cases hl : V.vals? l with
    | none => simp [hl] at h
    | some vs =>
      simp [hl] at h; subst h
      simp only [Den]
      constructor
      · rintro ⟨xs, rfl, hd⟩; rw [(vals?_den hl).1 hd]
      · rintro rfl; exact ⟨vs, rfl, (vals?_den hl).2 rfl⟩
  | .ptr .., _, h, _ | .sl .., _, h, _ | .pe .., _, h, _ | .isl .., _, h, _ | .ipe .., _, h, _ | .dat _, _, h, _ => by simp [V.val?] at h
theorem vals?_den {σ : Sg} {E : EH} : ∀ {vs : List V} {xs : List Value}, V.vals? vs = some xs → ∀ {ys : List Value}, DenL σ E vs ys ↔ ys = xs
  | [], _, h, _ => by simp [V.vals?] at h; subst h; simp [DenL]
  | v :: vs, xs, h, ys => by
    simp only [V.vals?] at h
    cases h1 : V.val? v with
    | none => simp [h1] at h
    | some x =>
      cases h2 : V.vals? vs with
      | none => simp [h1, h2] at h
      | some xs' =>
        simp [h1, h2] at h; subst h
        simp only [DenL]
        constructor
        · rintro ⟨y, ys', rfl, hy, hys⟩; rw [(val?_den h1).1 hy, (vals?_den h2).1 hys]
        · rintro rfl; exact ⟨x, xs', rfl, (val?_den h1).2 rfl, (vals?_den h2).2 rfl⟩
end

mutual
/-- Does it stand for one value? -/
def V.det : V → Bool
  | .any _ | .int .. | .lit .. | .sb _ | .tt | .ff | .ptr .. | .pe .. | .mp _ => true
  | .agg l => V.detL l
  | .tup l => V.detL l
  | _ => false
def V.detL : List V → Bool
  | [] => true
  | v :: vs => match V.det v with | true => V.detL vs | false => false
end
mutual
theorem det_den {σ τ : Sg} {E E' : EH} : ∀ {v : V}, V.det v = true → ∀ {x y : Value}, Den σ E v x → Den (σ ++ τ) E' v y → x = y
  | .any _, _, _, _, h, k | .int .., _, _, _, h, k | .lit .., _, _, _, h, k | .sb _, _, _, _, h, k | .tt, _, _, _, h, k | .ff, _, _, _, h, k => by simp only [Den] at h k; rw [h, k]
  | .ptr i off, _, _, _, h, k => by
    simp only [Den] at h k
    obtain ⟨r, h1, rfl⟩ := h
    obtain ⟨r', h2, rfl⟩ := k
    rw [sg_ext h1] at h2; cases h2; rfl
  | .pe i ix fld, _, _, _, h, k => by
    simp only [Den] at h k
    obtain ⟨r, h1, rfl⟩ := h
    obtain ⟨r', h2, rfl⟩ := k
    rw [sg_ext h1] at h2; cases h2; rfl
  | .mp i, _, _, _, h, k => by
    simp only [Den] at h k
    obtain ⟨r, h1, rfl⟩ := h
    obtain ⟨r', h2, rfl⟩ := k
    rw [sg_ext h1] at h2; cases h2; rfl
  | .agg l, hd, _, _, h, k => by
    simp only [V.det] at hd
    simp only [Den] at h k
    obtain ⟨xs, rfl, h1⟩ := h
    obtain ⟨ys, rfl, h2⟩ := k
    rw [detL_den hd h1 h2]
  | .tup l, hd, _, _, h, k => by
    simp only [V.det] at hd
    simp only [Den] at h k
    obtain ⟨xs, rfl, h1⟩ := h
    obtain ⟨ys, rfl, h2⟩ := k
    rw [detL_den hd h1 h2]
  | .sl .., h, _, _, _, _ | .isl .., h, _, _, _, _ | .ipe .., h, _, _, _, _ | .dat _, h, _, _, _, _ | .fn .., h, _, _, _, _ => by simp [V.det] at h
theorem detL_den {σ τ : Sg} {E E' : EH} : ∀ {vs : List V}, V.detL vs = true → ∀ {xs ys : List Value}, DenL σ E vs xs → DenL (σ ++ τ) E' vs ys → xs = ys
  | [], _, _, _, h, k => by simp only [DenL] at h k; rw [h, k]
  | v :: vs, hd, _, _, h, k => by
    simp only [V.detL] at hd
    split at hd
    · rename_i h0
      simp only [DenL] at h k
      obtain ⟨x, xs, rfl, h1, h2⟩ := h
      obtain ⟨y, ys, rfl, k1, k2⟩ := k
      rw [det_den h0 h1 k1, detL_den hd h2 k2]
    · cases hd
end

/-- A value of one cell? -/
def V.one : V → Bool
  | .any v => v.oneCell'
  | .agg _ | .tup _ => false
  | .dat (.val v) => v.oneCell'
  | _ => true
theorem one_den {σ : Sg} {E : EH} {v : V} {x : Value} (h : V.one v = true) (hd : Den σ E v x) : x.oneCell' = true := by
  cases v <;> (try simp only [V.one, Bool.false_eq_true] at h) <;> simp only [Den] at hd
  case any v => subst hd; exact h
  case int => subst hd; rfl
  case mp => obtain ⟨r, _, rfl⟩ := hd; rfl
  case lit => subst hd; rfl
  case sb => subst hd; rfl
  case tt => subst hd; rfl
  case ff => subst hd; rfl
  case ptr => obtain ⟨r, _, rfl⟩ := hd; rfl
  case sl => obtain ⟨r, a, _, rfl, _⟩ := hd; rfl
  case pe => obtain ⟨r, _, rfl⟩ := hd; rfl
  case isl => obtain ⟨_, hd⟩ := hd; simp only [RepD] at hd; obtain ⟨a, len, cap, rfl, _⟩ := hd; rfl
  case ipe => obtain ⟨b, off, rfl, _⟩ := hd; rfl
  case dat d =>
    cases d with
    | val v => simp only [RepD] at hd; subst hd; simpa [V.one] using h
    | sl sz cs => simp only [RepD] at hd; obtain ⟨a, len, cap, rfl, _⟩ := hd; rfl
  case fn => obtain ⟨vs, rfl, _⟩ := hd; rfl

/-! ### Types -/
def tInfo (P : Program) (t : TypeId) : Option TypeInfo := P.info? t
def tSize (P : Program) (t : TypeId) : Option Nat := (P.info? t).map (·.size)
/-- Is it of a struct's or an array's make? -/
def tAgg (P : Program) (t : TypeId) : Option Bool :=
  match P.underlying t with
  | some (.struct _) => some true
  | some (.array _ _) => some true
  | some _ => some false
  | none => none

theorem run_tSize {P : Program} {t : TypeId} {n : Nat} (h : tSize P t = some n) (w : World) : (Go.sizeOf t).run P w = .ok n w := by
  simp only [tSize, Option.map_eq_some_iff] at h
  obtain ⟨i, hi, rfl⟩ := h
  simp [Go.sizeOf, typeInfo, hi]

theorem run_tAgg {P : Program} {t : TypeId} {b : Bool} (h : tAgg P t = some b) (w : World) : (isAgg t).run P w = .ok b w := by
  unfold tAgg at h
  cases hu : P.underlying t with
  | none => simp [hu] at h
  | some d =>
    unfold isAgg
    rw [Sem.run_bind, run_underlying hu, Result.andThen_ok]
    simp only [hu] at h
    cases d <;> simp at h <;> subst h <;> rfl

/-- Kinds of cells. -/
inductive CK where
  | int (k : IntKind)
  | bool
  | other
  deriving Inhabited

def kindsOf (P : Program) : Nat → TypeId → Option (List CK)
  | 0, _ => none
  | n + 1, t =>
    match P.underlying t with
    | some (.struct fs) => fs.toList.foldr (fun f acc => match kindsOf P n f.type, acc with | some a, some b => some (a ++ b) | _, _ => none) (some [])
    | some (.array m e) => match kindsOf P n e with | some l => some (List.replicate m l).flatten | none => none
    | some (.int k) => some [.int k]
    | some .bool => some [.bool]
    | some _ => some [.other]
    | none => none

/-! ### Loads -/
/-- The cells of an element from fld on, of these kinds. -/
def loadE (e : List Value) : Nat → List CK → (List V → Prop) → Prop
  | _, [], K => K []
  | fld, .int k :: ks, K => ∃ n, e[fld]? = some (.int k n) ∧ loadE e (fld + 1) ks (fun r => K (.int k n :: r))
  | fld, .bool :: ks, K => ∃ b, e[fld]? = some (.bool b) ∧ loadE e (fld + 1) ks (fun r => K (.sb b :: r))
  | fld, .other :: ks, K => ∃ v, e[fld]? = some v ∧ loadE e (fld + 1) ks (fun r => K (.any v :: r))

theorem loadE_ok {σ : Sg} {E : EH} {e : List Value} : ∀ {ks : List CK} {fld : Nat} {K : List V → Prop}, loadE e fld ks K →
    ∃ vs xs, K vs ∧ DenL σ E vs xs ∧ xs.length = ks.length ∧ ∀ (j : Nat) (x : Value), xs[j]? = some x → e[fld + j]? = some x
  | [], _, K, h => ⟨[], [], h, .nil, rfl, by simp⟩
  | .int k :: ks, fld, K, h => by
    obtain ⟨n, h1, h2⟩ := h
    obtain ⟨vs, xs, hK, hd, hl, hx⟩ := loadE_ok (σ := σ) (E := E) h2
    refine ⟨_, .int k n :: xs, hK, .cons (by simp [Den]) hd, by simp [hl], fun j x hj => ?_⟩
    cases j with
    | zero => simp at hj; subst hj; exact h1
    | succ j => rw [show fld + (j + 1) = fld + 1 + j by omega]; exact hx j x (by simpa using hj)
  | .bool :: ks, fld, K, h => by
    obtain ⟨n, h1, h2⟩ := h
    obtain ⟨vs, xs, hK, hd, hl, hx⟩ := loadE_ok (σ := σ) (E := E) h2
    refine ⟨_, .bool n :: xs, hK, .cons (by simp [Den]) hd, by simp [hl], fun j x hj => ?_⟩
    cases j with
    | zero => simp at hj; subst hj; exact h1
    | succ j => rw [show fld + (j + 1) = fld + 1 + j by omega]; exact hx j x (by simpa using hj)
  | .other :: ks, fld, K, h => by
    obtain ⟨n, h1, h2⟩ := h
    obtain ⟨vs, xs, hK, hd, hl, hx⟩ := loadE_ok (σ := σ) (E := E) h2
    refine ⟨_, n :: xs, hK, .cons (by simp [Den]) hd, by simp [hl], fun j x hj => ?_⟩
    cases j with
    | zero => simp at hj; subst hj; exact h1
    | succ j => rw [show fld + (j + 1) = fld + 1 + j by omega]; exact hx j x (by simpa using hj)

/-- Cells of a block, read as a value of type t. -/
theorem run_load_cells {P : Program} {t : TypeId} {n : Nat} {agg : Bool} (hn : tSize P t = some n) (ha : tAgg P t = some agg) {W : World} {b o : Nat} {xs : List Value}
    (hl : xs.length = if agg then n else 1) (hx : ∀ (j : Nat) (x : Value), xs[j]? = some x → W.cell? ⟨b, o + j, none⟩ = some x) :
    (loadVar t ⟨b, o, none⟩).run P W = .ok (if agg then .agg xs.toArray else xs.getD 0 undef) W := by
  unfold loadVar
  rw [Sem.run_bind, run_tAgg ha, Result.andThen_ok]
  cases agg with
  | true =>
    simp only [if_true] at hl ⊢
    have hc := run_loadCells_list (P := P) W ⟨b, o, none⟩ xs (fun j v hj => by rw [Addr.add_lit]; exact hx j v hj)
    rw [hl] at hc
    simp [run_tSize hn, hc]
  | false =>
    simp only [Bool.false_eq_true, if_false] at hl ⊢
    match xs, hl with
    | [x], _ =>
      have := hx 0 x rfl
      simp at this
      simp [run_load, this]

/-- Like the value of these cells. -/
def wrapV (agg : Bool) (vs : List V) : V := match agg with | true => .agg vs | false => vs.headD (.any undef)

/-- How many cells a load of a type of n cells takes. -/
def cellsN : Bool → Nat → Nat
  | true, n => n
  | false, _ => 1
theorem cellsN_eq (agg : Bool) (n : Nat) : cellsN agg n = if agg then n else 1 := by cases agg <;> rfl

/-- A load of type t at a symbolic address. -/
def loadK (P : Program) (t : TypeId) (addr : V) (kb : KB) (K : V → Prop) : Prop :=
  match tSize P t, tAgg P t with
  | some n, some agg =>
    let m := cellsN agg n
    match addr with
    | .ptr i off =>
      match kb[i]? with
      | some (.cells l) =>
        let vs := (l.drop off).take m
        match Nat.beq vs.length m with
        | true => K (wrapV agg vs)
        | false => False
      | _ => False
    | .pe i ix fld =>
      match kb[i]? with
      | some (.row _ sz l) =>
        match kindsOf P 20 t with
        | some ks => match Nat.beq ks.length m, Nat.ble (fld + m) sz with
          | true, true => ∃ e, l[ix]? = some e ∧ loadE e fld ks (fun vs => K (wrapV agg vs))
          | _, _ => False
        | none => False
      | _ => False
    | .ipe e fld =>
      match kindsOf P 20 t with
      | some ks => match Nat.beq ks.length m with
        | true => loadE e fld ks (fun vs => K (wrapV agg vs))
        | false => False
      | none => False
    | _ => False
  | _, _ => False

theorem cell_of_heap {W : World} {b o : Nat} {arr : Array Value} {ty : TypeId} {fr : Nat × Nat} (h : W.heap[b]? = some (.cells arr ty fr)) : W.cell? ⟨b, o, none⟩ = arr[o]? := by
  simp [World.cell?, h]

theorem wrapV_den {σ : Sg} {E : EH} {agg : Bool} {vs : List V} {xs : List Value} (h : DenL σ E vs xs) (hl : agg = false → xs.length = 1) :
    Den σ E (wrapV agg vs) (if agg then .agg xs.toArray else xs.getD 0 undef) := by
  cases agg with
  | true => simp only [wrapV, if_true, Den]; exact ⟨xs, rfl, h⟩
  | false =>
    have := hl rfl
    match vs, xs, this, h with
    | [], [x], _, h => simp [DenL] at h
    | v :: vs, [x], _, h =>
      simp only [DenL] at h
      obtain ⟨y, ys, e, h1, h2⟩ := h
      cases e
      simpa [wrapV] using h1

/-- The element ix of a row of elements of sz cells lies at ix * sz. -/
theorem flatten_at {sz : Nat} : ∀ {l : List (List Value)}, (∀ e ∈ l, e.length = sz) → ∀ {ix : Nat} {e : List Value}, l[ix]? = some e → ∀ {j : Nat} {x : Value}, e[j]? = some x → l.flatten[ix * sz + j]? = some x
  | [], _, _, _, h, _, _, _ => by simp at h
  | c :: l, hs, ix, e, h, j, x, hj => by
    have hc : c.length = sz := hs c (by simp)
    cases ix with
    | zero =>
      simp at h; subst h
      have : j < c.length := (List.getElem?_eq_some_iff.1 hj).1
      rw [List.flatten_cons, List.getElem?_append_left (by omega)]
      simpa using hj
    | succ ix =>
      have := flatten_at (fun e he => hs e (List.mem_cons_of_mem _ he)) (ix := ix) (by simpa using h) hj
      rw [List.flatten_cons, List.getElem?_append_right (by rw [hc, Nat.succ_mul]; omega), hc, show (ix + 1) * sz + j - sz = ix * sz + j by rw [Nat.succ_mul]; omega]
      exact this

theorem flatten_length {sz : Nat} : ∀ {l : List (List Value)}, (∀ e ∈ l, e.length = sz) → l.flatten.length = l.length * sz
  | [], _ => by simp
  | c :: l, hs => by
    rw [List.flatten_cons, List.length_append, hs c (by simp), flatten_length (fun e he => hs e (List.mem_cons_of_mem _ he)), List.length_cons, Nat.succ_mul]; omega

/-- A cell of a row of ours. -/
theorem row_cell {σ : Sg} {E : EH} {W : World} {r : Re} {ty : TypeId} {sz : Nat} {l : List (List Value)} (h : HoldsO σ E W r (.row ty sz l)) {ix j : Nat} {e : List Value} {x : Value}
    (he : l[ix]? = some e) (hj : e[j]? = some x) : W.cell? ⟨r.blk, ix * r.sz + j, none⟩ = some x := by
  obtain ⟨rfl, h1, h2, h3, h4⟩ := h
  have hix : ix < l.length := (List.getElem?_eq_some_iff.1 he).1
  have hjs : j < e.length := (List.getElem?_eq_some_iff.1 hj).1
  have hes := h1.len e (List.mem_of_getElem? he)
  rcases h4 with h4 | ⟨arr, h4, h5, h6⟩
  · omega
  · rw [cell_of_heap h4]
    have hf := flatten_at h1.len he hj
    rw [← h6] at hf
    have : ix * r.sz + j < l.length * r.sz := by
      have : (ix + 1) * r.sz ≤ l.length * r.sz := Nat.mul_le_mul_right _ hix
      rw [Nat.succ_mul] at this
      omega
    rw [List.getElem?_take_of_lt this] at hf
    simpa using hf

theorem ipe_cell {E : EH} {W : World} (hi : ∀ b o, E b = some o → W.heap[b]? = some o) {e : List Value} {b off : Nat} (h : RepDs E (e.map .val) b off) {j : Nat} {x : Value} (hj : e[j]? = some x) :
    W.cell? ⟨b, off + j, none⟩ = some x := by
  obtain ⟨v, h1, h2⟩ := h.at (j := j) (d := .val x) (by simp [hj])
  simp only [RepD] at h2
  subst h2
  unfold EH.cell at h1
  cases hb : E b with
  | none => simp [hb] at h1
  | some o =>
    have := hi b o hb
    rw [hb] at h1
    cases o <;> simp at h1
    rw [cell_of_heap this]
    exact h1

theorem loadK_ok {P : Program} {t : TypeId} {addr : V} {kb : KB} {K : V → Prop} (h : loadK P t addr kb K) {σ : Sg} {E : EH} {W : World} (hi : Inv σ E kb W) {a : Value} (hd : Den σ E addr a) :
    ∃ v x, (Instr.loadAt t a).run P W = .ok x W ∧ Den σ E v x ∧ K v := by
  unfold loadK at h
  cases hn : tSize P t with
  | none => simp [hn] at h
  | some n =>
    cases ha : tAgg P t with
    | none => simp [hn, ha] at h
    | some agg =>
      simp only [hn, ha] at h
      simp only [cellsN_eq] at h
      cases addr <;> simp only at h <;> try exact h.elim
      case ptr i off =>
        simp only [Den] at hd
        obtain ⟨r, hr, rfl⟩ := hd
        split at h
        · rename_i l hl
          split at h
          · rename_i hb
            have hlen := Nat.eq_of_beq_eq_true hb
            obtain ⟨arr, ty, hh, hD⟩ := hi.obj i r _ hr hl
            have hx : ∃ xs, DenL σ E ((l.drop off).take (if agg then n else 1)) xs ∧ ∀ (j : Nat) (x : Value), xs[j]? = some x → W.cell? ⟨r.blk, off + j, none⟩ = some x := by
              refine ⟨(arr.toList.drop off).take (if agg then n else 1), ?_, fun j x hj => ?_⟩
              · exact (hD.drop off).take _
              · rw [cell_of_heap hh]
                have hlt : j < (if agg then n else 1) := by
                  have := (List.getElem?_eq_some_iff.1 hj).1
                  simp only [List.length_take] at this
                  omega
                rw [List.getElem?_take_of_lt hlt] at hj
                simpa using hj
            obtain ⟨xs, hxs, hc⟩ := hx
            have hl' : xs.length = if agg then n else 1 := by rw [hxs.len, hlen]
            exact ⟨_, _, by simpa [Instr.loadAt, Instr.sureAddr] using run_load_cells hn ha hl' hc, wrapV_den hxs (fun hf => by simp [hl', hf]), h⟩
          · exact h.elim
        · exact h.elim
      case pe i ix fld =>
        simp only [Den] at hd
        obtain ⟨r, hr, rfl⟩ := hd
        split at h
        · rename_i ty sz l hl
          split at h
          · rename_i ks hks
            split at h
            · rename_i hb _
              have hlen := Nat.eq_of_beq_eq_true hb
              obtain ⟨e, he, h⟩ := h
              obtain ⟨vs, xs, hK, hD, hxl, hx⟩ := loadE_ok (σ := σ) (E := E) h
              have hl' : xs.length = if agg then n else 1 := by rw [hxl, hlen]
              have hc : ∀ (j : Nat) (x : Value), xs[j]? = some x → W.cell? ⟨r.blk, ix * r.sz + fld + j, none⟩ = some x := fun j x hj => by
                rw [Nat.add_assoc]
                exact row_cell (hi.obj i r _ hr hl) he (hx j x hj)
              exact ⟨_, _, by simpa [Instr.loadAt, Instr.sureAddr] using run_load_cells hn ha hl' hc, wrapV_den hD (fun hf => by simp [hl', hf]), hK⟩
            · exact h.elim
          · exact h.elim
        · exact h.elim
      case ipe e fld =>
        simp only [Den] at hd
        obtain ⟨b, off, rfl, hrep⟩ := hd
        split at h
        · rename_i ks hks
          split at h
          · rename_i hb
            have hlen := Nat.eq_of_beq_eq_true hb
            obtain ⟨vs, xs, hK, hD, hxl, hx⟩ := loadE_ok (σ := σ) (E := E) h
            have hl' : xs.length = if agg then n else 1 := by rw [hxl, hlen]
            have hc : ∀ (j : Nat) (x : Value), xs[j]? = some x → W.cell? ⟨b, off + fld + j, none⟩ = some x := fun j x hj => by
              rw [Nat.add_assoc]
              exact ipe_cell hi.imm hrep (hx j x hj)
            exact ⟨_, _, by simpa [Instr.loadAt, Instr.sureAddr] using run_load_cells hn ha hl' hc, wrapV_den hD (fun hf => by simp [hl', hf]), hK⟩
          · exact h.elim
        · exact h.elim
end Vc
