/- Operations on symbolic values: what a load, a store, a new variable, an address comes to, and that it comes to that in the model. -/
import Derived.Test.YtnglmhckcfnfaaaVdB
set_option linter.unusedSimpArgs false
set_option linter.unusedVariables false
namespace Vc
open Go

/-- A computation that touches no memory, run. -/
def calm {α : Type} (P : Program) : Sem α → Option α
  | .pure a => some a
  | .program k => calm P (k P)
  | .mark _ k => calm P k
  | _ => none

theorem calm_run {α : Type} {P : Program} : ∀ {s : Sem α} {a : α}, calm P s = some a → ∀ w, s.run P w = .ok a w
  | .pure _, _, h, _ => by simp [calm] at h; subst h; rfl
  | .program k, a, h, w => by
    simp only [calm] at h
    show (k P).run P w = _
    exact calm_run h w
  | .mark _ k, a, h, w => by
    simp only [calm] at h
    show k.run P w = _
    exact calm_run h w
  | .load .., _, h, _ | .store .., _, h, _ | .new .., _, h, _ | .shape .., _, h, _ | .freeze .., _, h, _ | .frozen .., _, h, _ | .getObj .., _, h, _ | .setObj .., _, h, _
  | .choose .., _, h, _ | .sys .., _, h, _ | .halt .., _, h, _ => by simp [calm] at h

/-! ### Values that are known, and back -/
def one? : Value → Bool := Value.oneCell'
def cv0 : Value → V
  | .int k n => .int k n
  | .bool b => .sb b
  | v => .any v
theorem cv0_den (σ : Sg) (E : EH) (v : Value) : Den σ E (cv0 v) v := by
  cases v <;> simp [cv0, Den]
theorem denL_cv0 (σ : Sg) (E : EH) : ∀ (l : List Value), DenL σ E (l.map cv0) l
  | [] => .nil
  | v :: l => .cons (cv0_den σ E v) (denL_cv0 σ E l)
theorem denC_cv0 (σ : Sg) (E : EH) : ∀ (l : List Value), l.all Value.oneCell' = true → DenC σ E (l.map cv0) l
  | [], _ => .nil
  | v :: l, h => by
    simp only [List.all_cons, Bool.and_eq_true] at h
    exact .cons1 (cv0_den σ E v) h.1 (denC_cv0 σ E l h.2)

def cv : Value → V
  | .agg cs => match cs.toList.all Value.oneCell' with | true => .agg (cs.toList.map cv0) | false => .any (.agg cs)
  | .tuple cs => .tup (cs.toList.map cv0)
  | .int k n => .int k n
  | .bool b => .sb b
  | v => .any v
theorem cv_den (σ : Sg) (E : EH) (v : Value) : Den σ E (cv v) v := by
  cases v with
  | agg cs =>
    simp only [cv]
    split
    · rename_i h; simp only [Den]; exact ⟨cs.toList, by simp, denC_cv0 σ E _ h⟩
    · simp [Den]
  | tuple cs => simp only [cv, Den]; exact ⟨cs.toList, by simp, denL_cv0 σ E _⟩
  | _ => simp [cv, Den]

/-- A constant of the text. -/
def cvc1 : Value → V
  | .bool true => .tt
  | .bool false => .ff
  | .int k n => .lit k n
  | v => .any v
theorem cvc1_den (σ : Sg) (E : EH) (v : Value) : Den σ E (cvc1 v) v := by
  cases v with
  | bool b => cases b <;> simp [cvc1, Den]
  | _ => simp [cvc1, Den]
theorem denL_cvc1 (σ : Sg) (E : EH) : ∀ (l : List Value), DenL σ E (l.map cvc1) l
  | [] => .nil
  | v :: l => .cons (cvc1_den σ E v) (denL_cvc1 σ E l)
theorem denC_cvc1 (σ : Sg) (E : EH) : ∀ (l : List Value), l.all Value.oneCell' = true → DenC σ E (l.map cvc1) l
  | [], _ => .nil
  | v :: l, h => by
    simp only [List.all_cons, Bool.and_eq_true] at h
    exact .cons1 (cvc1_den σ E v) h.1 (denC_cvc1 σ E l h.2)
def cvc : Value → V
  | .agg cs => match cs.toList.all Value.oneCell' with | true => .agg (cs.toList.map cvc1) | false => .any (.agg cs)
  | .tuple cs => .tup (cs.toList.map cvc1)
  | v => cvc1 v
theorem cvc_den (σ : Sg) (E : EH) (v : Value) : Den σ E (cvc v) v := by
  cases v with
  | agg cs =>
    simp only [cvc]
    split
    · rename_i h; simp only [Den]; exact ⟨cs.toList, by simp, denC_cvc1 σ E _ h⟩
    · simp [Den]
  | tuple cs => simp only [cvc, Den]; exact ⟨cs.toList, by simp, denL_cvc1 σ E _⟩
  | bool b => simp only [cvc]; exact cvc1_den σ E _
  | _ => simp [cvc, cvc1, Den]

mutual
/-- The very value, where nothing of ours is in it. -/
def V.val? : V → Option Value
  | .any v => some v
  | .int k n => some (.int k n)
  | .lit k n => some (.int k n)
  | .sb b => some (.bool b)
  | .tt => some (.bool true)
  | .ff => some (.bool false)
  | .dat (.val v) => some v
  | .agg l => match V.vals? l with | some vs => some (.agg vs.toArray) | none => none
  | .tup l => match V.vals? l with | some vs => some (.tuple vs.toArray) | none => none
  | .fn f cap => match V.vals? cap with | some vs => some (.func (.func f) #[] vs.toArray) | none => none
  | _ => none
def V.vals? : List V → Option (List Value)
  | [] => some []
  | v :: vs => match V.val? v with
    | some x => match V.vals? vs with | some xs => some (x :: xs) | none => none
    | none => none
end

mutual
theorem val?_den {σ : Sg} {E : EH} : ∀ {v : V} {x : Value}, V.val? v = some x → ∀ {y : Value}, Den σ E v y → y = x
  | .any _, _, h, _, hd | .int .., _, h, _, hd | .lit .., _, h, _, hd | .sb _, _, h, _, hd | .tt, _, h, _, hd | .ff, _, h, _, hd => by
    simp [V.val?] at h; subst h; simpa [Den] using hd
  | .dat d, x, h, y, hd => by
    cases d with
    | val v => simp [V.val?] at h; subst h; simp only [Den, RepD] at hd; exact hd.1
    | sl _ _ => simp [V.val?] at h
  | .agg l, x, h, y, hd => by
    simp only [V.val?] at h
    cases hl : V.vals? l with
    | none => simp [hl] at h
    | some vs =>
      simp [hl] at h; subst h
      simp only [Den] at hd
      obtain ⟨xs, rfl, hd⟩ := hd
      rw [valsC?_den hl hd]
  | .tup l, x, h, y, hd => by
    simp only [V.val?] at h
    cases hl : V.vals? l with
    | none => simp [hl] at h
    | some vs =>
      simp [hl] at h; subst h
      simp only [Den] at hd
      obtain ⟨xs, rfl, hd⟩ := hd
      rw [vals?_den hl hd]
  | .fn f l, x, h, y, hd => by
    simp only [V.val?] at h
    cases hl : V.vals? l with
    | none => simp [hl] at h
    | some vs =>
      simp [hl] at h; subst h
      simp only [Den] at hd
      obtain ⟨xs, rfl, hd⟩ := hd
      rw [vals?_den hl hd]
  | .ptr .., _, h, _, _ | .pa .., _, h, _, _ | .sl .., _, h, _, _ | .pe .., _, h, _, _ | .pw .., _, h, _, _ | .e0, _, h, _, _ | .sa .., _, h, _, _ | .se .., _, h, _, _ | .ipe .., _, h, _, _ | .mp _, _, h, _, _ | .ch _, _, h, _, _ | .arr .., _, h, _, _ => by simp [V.val?] at h
theorem vals?_den {σ : Sg} {E : EH} : ∀ {vs : List V} {xs : List Value}, V.vals? vs = some xs → ∀ {ys : List Value}, DenL σ E vs ys → ys = xs
  | [], _, h, _, hd => by simp [V.vals?] at h; subst h; simpa [DenL] using hd
  | v :: vs, xs, h, ys, hd => by
    simp only [V.vals?] at h
    cases h1 : V.val? v with
    | none => simp [h1] at h
    | some x =>
      cases h2 : V.vals? vs with
      | none => simp [h1, h2] at h
      | some xs' =>
        simp [h1, h2] at h; subst h
        simp only [DenL] at hd
        obtain ⟨y, ys', rfl, hy, hys⟩ := hd
        rw [val?_den h1 hy, vals?_den h2 hys]
theorem valsC?_den {σ : Sg} {E : EH} : ∀ {vs : List V} {xs : List Value}, V.vals? vs = some xs → ∀ {ys : List Value}, DenC σ E vs ys → ys = xs
  | [], _, h, _, hd => by simp [V.vals?] at h; subst h; simpa [DenC] using hd
  | v :: vs, xs, h, ys, hd => by
    simp only [V.vals?] at h
    cases h1 : V.val? v with
    | none => simp [h1] at h
    | some x =>
      cases h2 : V.vals? vs with
      | none => simp [h1, h2] at h
      | some xs' =>
        simp [h1, h2] at h; subst h
        simp only [DenC] at hd
        obtain ⟨us, zs, rfl, hp, hys⟩ := hd
        rcases hp with ⟨y, rfl, _, hy⟩ | ⟨m, cs, rfl, _, _⟩
        · rw [val?_den h1 hy, valsC?_den h2 hys]; rfl
        · simp [V.val?] at h1
end

mutual
/-- Does it stand for one value? -/
def V.det : V → Bool
  | .any _ | .int .. | .lit .. | .sb _ | .tt | .ff | .ptr .. | .pa .. | .pe .. | .pw .. | .mp _ | .ch _ => true
  | .dat (.val _) => true
  | .agg l => V.detL l
  | .tup l => V.detL l
  | _ => false
def V.detL : List V → Bool
  | [] => true
  | v :: vs => match V.det v with | true => V.detL vs | false => false
end
mutual
theorem det_den {σ τ : Sg} {E E' : EH} : ∀ {v : V}, V.det v = true → ∀ {x y : Value}, Den σ E v x → Den (σ ++ τ) E' v y → x = y
  | .any _, _, _, _, h, k | .int .., _, _, _, h, k | .lit .., _, _, _, h, k | .sb _, _, _, _, h, k | .tt, _, _, _, h, k | .ff, _, _, _, h, k => by simp only [Den] at h k; rw [h, k]
  | .ptr i off, _, _, _, h, k => by
    simp only [Den] at h k
    obtain ⟨r, h1, rfl⟩ := h
    obtain ⟨r', h2, rfl⟩ := k
    rw [sg_ext h1] at h2; cases h2; rfl
  | .pa i base o, _, _, _, h, k => by
    simp only [Den] at h k
    obtain ⟨r, h1, rfl⟩ := h
    obtain ⟨r', h2, rfl⟩ := k
    rw [sg_ext h1] at h2; cases h2; rfl
  | .pe i ix fld, _, _, _, h, k => by
    simp only [Den] at h k
    obtain ⟨r, h1, rfl⟩ := h
    obtain ⟨r', h2, rfl⟩ := k
    rw [sg_ext h1] at h2; cases h2; rfl
  | .pw i ix, _, _, _, h, k => by
    simp only [Den] at h k
    obtain ⟨r, h1, rfl⟩ := h
    obtain ⟨r', h2, rfl⟩ := k
    rw [sg_ext h1] at h2; cases h2; rfl
  | .mp i, _, _, _, h, k => by
    simp only [Den] at h k
    obtain ⟨r, h1, rfl⟩ := h
    obtain ⟨r', h2, rfl⟩ := k
    rw [sg_ext h1] at h2; cases h2; rfl
  | .ch i, _, _, _, h, k => by
    simp only [Den] at h k
    obtain ⟨r, h1, rfl⟩ := h
    obtain ⟨r', h2, rfl⟩ := k
    rw [sg_ext h1] at h2; cases h2; rfl
  | .dat d, hd, _, _, h, k => by
    cases d with
    | val v => simp only [Den, RepD] at h k; rw [h.1, k.1]
    | sl _ _ => simp [V.det] at hd
  | .agg l, hd, _, _, h, k => by
    simp only [V.det] at hd
    simp only [Den] at h k
    obtain ⟨xs, rfl, h1⟩ := h
    obtain ⟨ys, rfl, h2⟩ := k
    rw [detC_den hd h1 h2]
  | .tup l, hd, _, _, h, k => by
    simp only [V.det] at hd
    simp only [Den] at h k
    obtain ⟨xs, rfl, h1⟩ := h
    obtain ⟨ys, rfl, h2⟩ := k
    rw [detL_den hd h1 h2]
  | .sl .., h, _, _, _, _ | .e0, h, _, _, _, _ | .sa .., h, _, _, _, _ | .se .., h, _, _, _, _ | .ipe .., h, _, _, _, _ | .fn .., h, _, _, _, _ | .arr .., h, _, _, _, _ => by simp [V.det] at h
theorem detL_den {σ τ : Sg} {E E' : EH} : ∀ {vs : List V}, V.detL vs = true → ∀ {xs ys : List Value}, DenL σ E vs xs → DenL (σ ++ τ) E' vs ys → xs = ys
  | [], _, _, _, h, k => by simp only [DenL] at h k; rw [h, k]
  | v :: vs, hd, _, _, h, k => by
    simp only [V.detL] at hd
    split at hd
    · rename_i h0
      simp only [DenL] at h k
      obtain ⟨x, xs, rfl, h1, h2⟩ := h
      obtain ⟨y, ys, rfl, k1, k2⟩ := k
      rw [det_den h0 h1 k1, detL_den hd h2 k2]
    · cases hd
theorem detC_den {σ τ : Sg} {E E' : EH} : ∀ {vs : List V}, V.detL vs = true → ∀ {xs ys : List Value}, DenC σ E vs xs → DenC (σ ++ τ) E' vs ys → xs = ys
  | [], _, _, _, h, k => by simp only [DenC] at h k; rw [h, k]
  | v :: vs, hd, _, _, h, k => by
    simp only [V.detL] at hd
    split at hd
    · rename_i h0
      simp only [DenC] at h k
      obtain ⟨xs, xs', rfl, h1, h2⟩ := h
      obtain ⟨ys, ys', rfl, k1, k2⟩ := k
      rcases h1 with ⟨x, rfl, _, h1⟩ | ⟨m, cs, rfl, _, _⟩
      · rcases k1 with ⟨y, rfl, _, k1⟩ | ⟨m, cs, rfl, _, _⟩
        · rw [det_den h0 h1 k1, detC_den hd h2 k2]
        · simp [V.det] at h0
      · simp [V.det] at h0
    · cases hd
end

/-- A value of one cell? -/
def V.one : V → Bool
  | .any v => v.oneCell'
  | .agg _ | .tup _ | .arr .. => false
  | _ => true
theorem one_den {σ : Sg} {E : EH} {v : V} {x : Value} (h : V.one v = true) (hd : Den σ E v x) : x.oneCell' = true := by
  cases v <;> (try simp only [V.one, Bool.false_eq_true] at h) <;> simp only [Den] at hd
  case any v => subst hd; exact h
  case int => subst hd; rfl
  case mp => obtain ⟨r, _, rfl⟩ := hd; rfl
  case ch => obtain ⟨r, _, rfl⟩ := hd; rfl
  case lit => subst hd; rfl
  case sb => subst hd; rfl
  case tt => subst hd; rfl
  case ff => subst hd; rfl
  case ptr => obtain ⟨r, _, rfl⟩ := hd; rfl
  case pa => obtain ⟨r, _, rfl⟩ := hd; rfl
  case sl => obtain ⟨r, a, _, rfl, _⟩ := hd; rfl
  case pe => obtain ⟨r, _, rfl⟩ := hd; rfl
  case pw => obtain ⟨r, _, rfl⟩ := hd; rfl
  case e0 => obtain ⟨a, rfl⟩ := hd; rfl
  case sa => obtain ⟨r, a, _, rfl, _⟩ := hd; rfl
  case se => obtain ⟨r, a, _, rfl, _⟩ := hd; rfl
  case ipe => obtain ⟨b, off, rfl, _⟩ := hd; rfl
  case dat d => exact hd.one
  case fn => obtain ⟨vs, rfl, _⟩ := hd; rfl

/-! ### Types -/
def tInfo (P : Program) (t : TypeId) : Option TypeInfo := P.info? t
def tSize (P : Program) (t : TypeId) : Option Nat := (P.info? t).map (·.size)
/-- Is it of a struct's or an array's make? -/
def tAgg (P : Program) (t : TypeId) : Option Bool :=
  match P.underlying t with
  | some (.struct _) => some true
  | some (.array _ _) => some true
  | some _ => some false
  | none => none

theorem run_tSize {P : Program} {t : TypeId} {n : Nat} (h : tSize P t = some n) (w : World) : (Go.sizeOf t).run P w = .ok n w := by
  simp only [tSize, Option.map_eq_some_iff] at h
  obtain ⟨i, hi, rfl⟩ := h
  simp [Go.sizeOf, typeInfo, hi]

theorem run_tAgg {P : Program} {t : TypeId} {b : Bool} (h : tAgg P t = some b) (w : World) : (isAgg t).run P w = .ok b w := by
  unfold tAgg at h
  cases hu : P.underlying t with
  | none => simp [hu] at h
  | some d =>
    unfold isAgg
    rw [Sem.run_bind, run_underlying hu, Result.andThen_ok]
    simp only [hu] at h
    cases d <;> simp at h <;> subst h <;> rfl

/-- Kinds of cells: a number, a bool, a slice of elements of s cells, another thing; an array of m cells of numbers or bools, and what they are at first. -/
inductive CK where
  | int (k : IntKind)
  | bool
  | sl (s : Nat)
  | other
  | arr (m : Nat) (z : Value)
  deriving Inhabited
def CK.w : CK → Nat
  | .arr m _ => m
  | _ => 1
def wk : List CK → Nat
  | [] => 0
  | k :: ks => k.w + wk ks

def kindsOf (P : Program) : Nat → TypeId → Option (List CK)
  | 0, _ => none
  | n + 1, t =>
    match P.underlying t with
    | some (.struct fs) => fs.toList.foldr (fun f acc => match kindsOf P n f.type, acc with | some a, some b => some (a ++ b) | _, _ => none) (some [])
    | some (.array m e) => match kindsOf P n e with
      | some [.int k] => some [.arr m (.int k 0)]
      | some [.bool] => some [.arr m (.bool false)]
      | some [.arr q z] => some [.arr (m * q) z]
      | some l => some (List.replicate m l).flatten
      | none => none
    | some (.int k) => some [.int k]
    | some .bool => some [.bool]
    | some (.slice e) => match tSize P e with | some s => some [.sl s] | none => none
    | some _ => some [.other]
    | none => none

/-! ### Loads -/
/-- The cells of e from fld on, of these kinds. -/
def loadE (e : List D) : Nat → List CK → (List V → Prop) → Prop
  | _, [], K => K []
  | fld, .int k :: ks, K => ∃ n, e[fld]? = some (.val (.int k n)) ∧ loadE e (fld + 1) ks (fun r => K (.int k n :: r))
  | fld, .bool :: ks, K => ∃ b, e[fld]? = some (.val (.bool b)) ∧ loadE e (fld + 1) ks (fun r => K (.sb b :: r))
  | fld, .sl s :: ks, K => ∃ l, e[fld]? = some (.sl s l) ∧ loadE e (fld + 1) ks (fun r => K (.dat (.sl s l) :: r))
  | fld, .other :: ks, K => ∃ d, e[fld]? = some d ∧ loadE e (fld + 1) ks (fun r => K (.dat d :: r))
  | fld, .arr m _ :: ks, K => fld + m ≤ e.length ∧ loadE e (fld + m) ks (fun r => K (.arr m ((e.drop fld).take m) :: r))

theorem loadE_ok {σ : Sg} {E : EH} {e : List D} {zs : List Value} (hz : DenD E e zs) : ∀ {ks : List CK} {fld : Nat} {K : List V → Prop}, loadE e fld ks K →
    ∃ vs xs, K vs ∧ DenC σ E vs xs ∧ xs.length = wk ks ∧ ∀ (j : Nat) (x : Value), xs[j]? = some x → zs[fld + j]? = some x
  | [], _, K, h => ⟨[], [], h, .nil, rfl, by simp⟩
  | ck :: ks, fld, K, h => by
    have cons1 : ∀ {d : D} {v : V}, e[fld]? = some d → (∀ x, RepD E d x → Den σ E v x) → loadE e (fld + 1) ks (fun r => K (v :: r)) → ck.w = 1 →
        ∃ vs xs, K vs ∧ DenC σ E vs xs ∧ xs.length = wk (ck :: ks) ∧ ∀ (j : Nat) (x : Value), xs[j]? = some x → zs[fld + j]? = some x := by
      intro d v h1 hv h2 hw
      obtain ⟨y, hy, hd⟩ := hz.get h1
      obtain ⟨vs, xs, hK, hD, hl, hx⟩ := loadE_ok hz h2
      refine ⟨_, y :: xs, hK, .cons1 (hv y hd) hd.one hD, by simp [hl, wk, hw]; omega, fun j x hj => ?_⟩
      cases j with
      | zero => simp at hj; subst hj; exact hy
      | succ j => rw [show fld + (j + 1) = fld + 1 + j by omega]; exact hx j x (by simpa using hj)
    cases ck with
    | int k => obtain ⟨n, h1, h2⟩ := h; exact cons1 h1 (fun x hx => by simp only [RepD] at hx; simp [Den, hx.1]) h2 rfl
    | bool => obtain ⟨n, h1, h2⟩ := h; exact cons1 h1 (fun x hx => by simp only [RepD] at hx; simp [Den, hx.1]) h2 rfl
    | sl s => obtain ⟨l, h1, h2⟩ := h; exact cons1 h1 (fun x hx => by simpa only [Den] using hx) h2 rfl
    | other => obtain ⟨d, h1, h2⟩ := h; exact cons1 h1 (fun x hx => by simpa only [Den] using hx) h2 rfl
    | arr m z =>
      obtain ⟨h1, h2⟩ := h
      obtain ⟨vs, xs, hK, hD, hl, hx⟩ := loadE_ok hz h2
      have hzl := hz.len
      have hlen : ((zs.drop fld).take m).length = m := by simp; omega
      refine ⟨_, (zs.drop fld).take m ++ xs, hK, .cons (.inr ⟨m, _, rfl, by simp; omega, (hz.drop fld).take m⟩) hD, by rw [List.length_append, hlen, hl]; rfl, fun j x hj => ?_⟩
      rcases Nat.lt_or_ge j m with hjm | hjm
      · rw [List.getElem?_append_left (by omega), List.getElem?_take_of_lt hjm, List.getElem?_drop] at hj
        exact hj
      · rw [List.getElem?_append_right (by omega), hlen] at hj
        have := hx _ x hj
        rwa [show fld + m + (j - m) = fld + j by omega] at this

/-- Cells of a block, read as a value of type t. -/
theorem run_load_cells {P : Program} {t : TypeId} {n : Nat} {agg : Bool} (hn : tSize P t = some n) (ha : tAgg P t = some agg) {W : World} {b o : Nat} {xs : List Value}
    (hl : xs.length = if agg then n else 1) (hx : ∀ (j : Nat) (x : Value), xs[j]? = some x → W.cell? ⟨b, o + j, none⟩ = some x) :
    (loadVar t ⟨b, o, none⟩).run P W = .ok (if agg then .agg xs.toArray else xs.getD 0 undef) W := by
  unfold loadVar
  rw [Sem.run_bind, run_tAgg ha, Result.andThen_ok]
  cases agg with
  | true =>
    simp only [if_true] at hl ⊢
    have hc := run_loadCells_list (P := P) W ⟨b, o, none⟩ xs (fun j v hj => by rw [Addr.add_lit]; exact hx j v hj)
    rw [hl] at hc
    simp [run_tSize hn, hc]
  | false =>
    simp only [Bool.false_eq_true, if_false] at hl ⊢
    match xs, hl with
    | [x], _ =>
      have := hx 0 x rfl
      simp at this
      simp [run_load, this]

/-- Like the value of these cells. -/
def wrapK (agg : Bool) (vs : List V) (K : V → Prop) : Prop :=
  match agg with
  | true => K (.agg vs)
  | false => match vs with
    | [.arr _ _] => False
    | [v] => K v
    | _ => False
theorem wrapK_ok {agg : Bool} {vs : List V} {K : V → Prop} (h : wrapK agg vs K) {σ : Sg} {E : EH} {xs : List Value} (hd : DenC σ E vs xs) :
    ∃ v, K v ∧ Den σ E v (if agg then .agg xs.toArray else xs.getD 0 undef) ∧ (agg = false → xs.length = 1) := by
  unfold wrapK at h
  split at h
  · exact ⟨_, h, by simp only [if_true, Den]; exact ⟨xs, rfl, hd⟩, fun h => by cases h⟩
  · split at h
    · exact h.elim
    · rename_i v hv
      obtain ⟨ys, zs, rfl, h1, h2⟩ := hd.uncons
      simp only [DenC] at h2
      subst h2
      rcases h1 with ⟨y, rfl, _, hy⟩ | ⟨m, cs, rfl, _, _⟩
      · exact ⟨v, h, by simpa using hy, fun _ => rfl⟩
      · exact (hv _ _ rfl).elim
    · exact h.elim

/-- How many cells a load of a type of n cells takes. -/
def cellsN : Bool → Nat → Nat
  | true, n => n
  | false, _ => 1
theorem cellsN_eq (agg : Bool) (n : Nat) : cellsN agg n = if agg then n else 1 := by cases agg <;> rfl

/-- A load of type t at a symbolic address. -/
def loadK (P : Program) (t : TypeId) (addr : V) (kb : KB) (K : V → Prop) : Prop :=
  match tSize P t, tAgg P t with
  | some n, some agg =>
    match addr with
    | .ptr i off =>
      match kb[i]? with
      | some (.cells l) =>
        match dropW l off with
        | some r => match takeW r (cellsN agg n) with
          | some vs => wrapK agg vs K
          | none => False
        | none => False
      | _ => False
    | _ => match kindsOf P 20 t with
      | some ks => match Nat.beq (wk ks) (cellsN agg n) with
        | true => match addr with
          | .pa i base o => match kb[i]? with
            | some (.cells l) => match pieceAt l base with
              | some (.arr m cs) => loadE cs o ks (fun vs => wrapK agg vs K)
              | _ => False
            | _ => False
          | .pe i ix fld => match kb[i]? with
            | some (.row _ sz l) => ∃ e, l[ix]? = some e ∧ loadE e fld ks (fun vs => wrapK agg vs K)
            | _ => False
          | .pw i ix => match kb[i]? with
            | some (.row _ sz l) => loadE (l.drop ix).flatten 0 ks (fun vs => wrapK agg vs K)
            | _ => False
          | .ipe e fld => loadE e fld ks (fun vs => wrapK agg vs K)
          | _ => False
        | false => False
      | none => False
  | _, _ => False

theorem cell_of_heap {W : World} {b o : Nat} {arr : Array Value} {ty : TypeId} {fr : Nat × Nat} (h : W.heap[b]? = some (.cells arr ty fr)) : W.cell? ⟨b, o, none⟩ = arr[o]? := by
  simp [World.cell?, h]

/-- The cells of a row of ours, from element ix on. -/
theorem row_cells {σ : Sg} {E : EH} {W : World} {r : Re} {ty : TypeId} {sz : Nat} {l : List (List D)} (h : HoldsO σ E W r (.row ty sz l)) (ix : Nat) :
    ∃ zs, DenD E (l.drop ix).flatten zs ∧ ∀ (j : Nat) (x : Value), zs[j]? = some x → W.cell? ⟨r.blk, ix * r.sz + j, none⟩ = some x := by
  obtain ⟨rfl, h1, h2, h3, h4⟩ := h
  rcases h4 with h4 | ⟨arr, h4, h5, h6⟩
  · have : l = [] := List.eq_nil_of_length_eq_zero (by omega)
    subst this
    exact ⟨[], by simpa using DenD.nil, by simp⟩
  · refine ⟨_, by rw [flat_drop h1]; exact h6.drop (ix * r.sz), fun j x hj => ?_⟩
    rw [cell_of_heap h4]
    rw [List.getElem?_drop] at hj
    have hlt : ix * r.sz + j < l.length * r.sz := by
      have := (List.getElem?_eq_some_iff.1 hj).1
      simp only [List.length_take] at this
      omega
    rw [List.getElem?_take_of_lt hlt] at hj
    simpa using hj
/-- The cells of element ix of a row of ours. -/
theorem row_elem {σ : Sg} {E : EH} {W : World} {r : Re} {ty : TypeId} {sz : Nat} {l : List (List D)} (h : HoldsO σ E W r (.row ty sz l)) {ix : Nat} {e : List D} (he : l[ix]? = some e) :
    ∃ zs, DenD E e zs ∧ ∀ (j : Nat) (x : Value), zs[j]? = some x → W.cell? ⟨r.blk, ix * r.sz + j, none⟩ = some x := by
  obtain ⟨zs, h1, h2⟩ := row_cells h ix
  have hx : ix < l.length := (List.getElem?_eq_some_iff.1 he).1
  have hd : l.drop ix = e :: l.drop (ix + 1) := by
    rw [List.drop_eq_getElem_cons hx]
    congr 1
    rw [List.getElem?_eq_getElem hx] at he
    exact Option.some.inj he
  rw [hd, List.flatten_cons] at h1
  obtain ⟨ys, us, rfl, h3, h4⟩ := h1.split
  exact ⟨ys, h3, fun j x hj => h2 j x (by rw [List.getElem?_append_left (List.getElem?_eq_some_iff.1 hj).1]; exact hj)⟩
/-- The cells of an array within a block of ours. -/
theorem piece_cells {σ : Sg} {E : EH} {W : World} {r : Re} {l : List V} (h : HoldsO σ E W r (.cells l)) {base m : Nat} {cs : List D} (hp : pieceAt l base = some (.arr m cs)) :
    ∃ zs, DenD E cs zs ∧ ∀ (j : Nat) (x : Value), zs[j]? = some x → W.cell? ⟨r.blk, base + j, none⟩ = some x := by
  obtain ⟨arr, ty, h1, h2⟩ := h
  obtain ⟨ys, h3, h4, h5, h6⟩ := pieceAt_arr hp h2
  refine ⟨ys, h3, fun j x hj => ?_⟩
  rw [cell_of_heap h1]
  have hlt : j < m := by
    have := (List.getElem?_eq_some_iff.1 hj).1
    rw [h3.len] at this; omega
  rw [← h6, List.getElem?_take_of_lt hlt, List.getElem?_drop] at hj
  simpa using hj
theorem imm_cell {E : EH} {W : World} (hi : ∀ b o, E b = some o → W.heap[b]? = some o) {b o : Nat} {x : Value} (h : E.cell b o = some x) : W.cell? ⟨b, o, none⟩ = some x := by
  unfold EH.cell at h
  split at h
  · rename_i c ty fr hb
    rw [cell_of_heap (hi b _ hb)]; exact h
  · cases h

theorem loadK_ok {P : Program} {t : TypeId} {addr : V} {kb : KB} {K : V → Prop} (h : loadK P t addr kb K) {σ : Sg} {E : EH} {W : World} (hi : Inv σ E kb W) {a : Value} (hd : Den σ E addr a) :
    ∃ v x, (Instr.loadAt t a).run P W = .ok x W ∧ Den σ E v x ∧ K v := by
  unfold loadK at h
  split at h <;> try exact h.elim
  rename_i n agg hn ha
  have fin : ∀ {b o : Nat} {vs : List V} {xs : List Value}, a = .pointer (some ⟨b, o, none⟩) → wrapK agg vs K → DenC σ E vs xs → xs.length = cellsN agg n → (∀ (j : Nat) (x : Value), xs[j]? = some x → W.cell? ⟨b, o + j, none⟩ = some x) →
      ∃ v x, (Instr.loadAt t a).run P W = .ok x W ∧ Den σ E v x ∧ K v := by
    rintro b o vs xs rfl hK hD hl hc
    obtain ⟨v, h1, h2, h3⟩ := wrapK_ok hK hD
    rw [cellsN_eq] at hl
    exact ⟨v, _, by simpa [Instr.loadAt, Instr.sureAddr] using run_load_cells hn ha hl hc, h2, h1⟩
  split at h
  · rename_i i off
    simp only [Den] at hd
    obtain ⟨r, hr, rfl⟩ := hd
    split at h <;> try exact h.elim
    rename_i l hl
    split at h <;> try exact h.elim
    rename_i l1 hl1
    split at h <;> try exact h.elim
    rename_i vs hvs
    obtain ⟨arr, ty, hh, hD⟩ := hi.obj i r _ hr hl
    obtain ⟨d1, _⟩ := dropW_ok hl1 hD
    obtain ⟨d2, d3⟩ := takeW_ok hvs d1
    refine fin rfl h d2 (by rw [List.length_take]; omega) (fun j x hj => ?_)
    rw [cell_of_heap hh]
    have hlt : j < cellsN agg n := by
      have := (List.getElem?_eq_some_iff.1 hj).1
      simp only [List.length_take] at this
      omega
    rw [List.getElem?_take_of_lt hlt, List.getElem?_drop] at hj
    simpa using hj
  · split at h <;> try exact h.elim
    rename_i ks hks
    split at h <;> try exact h.elim
    rename_i hb
    have hw := Nat.eq_of_beq_eq_true hb
    split at h <;> try exact h.elim
    · rename_i i base o _
      simp only [Den] at hd
      obtain ⟨r, hr, rfl⟩ := hd
      split at h <;> try exact h.elim
      rename_i l hl
      split at h <;> try exact h.elim
      rename_i m cs hp
      obtain ⟨zs, h1, h2⟩ := piece_cells (hi.obj i r _ hr hl) hp
      obtain ⟨vs, xs, hK, hD, hxl, hx⟩ := loadE_ok (σ := σ) h1 h
      exact fin rfl hK hD (hxl.trans hw) (fun j x hj => by rw [Nat.add_assoc]; exact h2 _ _ (hx j x hj))
    · rename_i i ix fld _
      simp only [Den] at hd
      obtain ⟨r, hr, rfl⟩ := hd
      split at h <;> try exact h.elim
      rename_i ty sz l hl
      obtain ⟨e, he, h⟩ := h
      obtain ⟨zs, h1, h2⟩ := row_elem (hi.obj i r _ hr hl) he
      obtain ⟨vs, xs, hK, hD, hxl, hx⟩ := loadE_ok (σ := σ) h1 h
      exact fin rfl hK hD (hxl.trans hw) (fun j x hj => by rw [Nat.add_assoc]; exact h2 _ _ (hx j x hj))
    · rename_i i ix _
      simp only [Den] at hd
      obtain ⟨r, hr, rfl⟩ := hd
      split at h <;> try exact h.elim
      rename_i ty sz l hl
      obtain ⟨zs, h1, h2⟩ := row_cells (hi.obj i r _ hr hl) ix
      obtain ⟨vs, xs, hK, hD, hxl, hx⟩ := loadE_ok (σ := σ) h1 h
      exact fin rfl hK hD (hxl.trans hw) (fun j x hj => by have := h2 _ _ (hx j x hj); rwa [Nat.zero_add] at this)
    · rename_i e fld _
      simp only [Den] at hd
      obtain ⟨b, off, rfl, hrep⟩ := hd
      obtain ⟨zs, h1, h2⟩ := hrep.denD
      obtain ⟨vs, xs, hK, hD, hxl, hx⟩ := loadE_ok (σ := σ) h1 h
      exact fin rfl hK hD (hxl.trans hw) (fun j x hj => by rw [Nat.add_assoc]; exact imm_cell hi.imm (h2 _ _ (hx j x hj)))
/-- A load of immutable data gives the same value in each world that has them. -/
theorem load_imm {P : Program} {t : TypeId} {e : List D} {fld : Nat} {kb : KB} {K : V → Prop} (h : loadK P t (.ipe e fld) kb K) {σ : Sg} {E : EH} {a : Value} (hd : Den σ E (.ipe e fld) a) :
    ∃ x, ∀ {W : World}, (∀ b o, E b = some o → W.heap[b]? = some o) → (Instr.loadAt t a).run P W = .ok x W := by
  unfold loadK at h
  split at h <;> try exact h.elim
  rename_i n agg hn ha
  simp only at h
  split at h <;> try exact h.elim
  rename_i ks hks
  split at h <;> try exact h.elim
  rename_i hb
  have hw := Nat.eq_of_beq_eq_true hb
  simp only [Den] at hd
  obtain ⟨b, off, rfl, hrep⟩ := hd
  obtain ⟨zs, h1, h2⟩ := hrep.denD
  obtain ⟨vs, xs, hK, hD, hxl, hx⟩ := loadE_ok (σ := σ) h1 h
  have hl := hxl.trans hw
  rw [cellsN_eq] at hl
  exact ⟨_, fun {W} hi => by simpa [Instr.loadAt, Instr.sureAddr] using run_load_cells hn ha hl (fun j x hj => by rw [Nat.add_assoc]; exact imm_cell hi (h2 _ _ (hx j x hj)))⟩
end Vc
