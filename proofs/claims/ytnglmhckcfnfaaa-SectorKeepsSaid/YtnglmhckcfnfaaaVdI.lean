/- Frames, and single operations over them. -/
import Derived.Test.YtnglmhckcfnfaaaVdR
import Derived.Test.YtnglmhckcfnfaaaVdV
set_option linter.unusedSimpArgs false
set_option linter.unusedVariables false
namespace Vc
open Go

/-- What is known of the slots of a frame, the latest first. -/
abbrev Fr := List (Nat × V)
def look : Fr → Nat → Option V
  | [], _ => none
  | (d, v) :: r, t => match Nat.beq d t with | true => some v | false => look r t

structure FrOk (σ : Sg) (E : EH) (fr : Fr) (n : Nat) (a : Act) : Prop where
  size : a.tmps.size = n
  defers : MkOk E a.defers
  get : ∀ t v, look fr t = some v → ∃ x, a.tmps[t]? = some x ∧ Den σ E v x

theorem FrOk.mono {σ τ : Sg} {E E' : EH} {fr : Fr} {n : Nat} {a : Act} (h : FrOk σ E fr n a) (hE : E.le E') : FrOk (σ ++ τ) E' fr n a :=
  ⟨h.size, h.defers.mono hE, fun t v hv => let ⟨x, h1, h2⟩ := h.get t v hv; ⟨x, h1, Den.mono hE h2⟩⟩

theorem FrOk.put {σ : Sg} {E : EH} {fr : Fr} {n : Nat} {a : Act} (h : FrOk σ E fr n a) {d : Nat} (hd : d < n) {v : V} {x : Value} (hv : Den σ E v x) : FrOk σ E ((d, v) :: fr) n (a.put (some d) x) := by
  refine ⟨by simp [Act.put, h.size], h.defers, fun t u hu => ?_⟩
  simp only [look] at hu
  split at hu
  · rename_i hb
    have := Nat.eq_of_beq_eq_true hb
    subst this
    cases hu
    exact ⟨x, by simp [Act.put, h.size, hd], hv⟩
  · rename_i hb
    have hne : d ≠ t := fun e => by subst e; simp at hb
    obtain ⟨y, h1, h2⟩ := h.get t u hu
    exact ⟨y, by simp only [Act.put]; rw [Array.getElem?_setIfInBounds_ne hne]; exact h1, h2⟩

/-- A slot is written: what it holds is now this. -/
def putK (n : Nat) (dst : Option Nat) (v : V) (fr : Fr) (K : Fr → Prop) : Prop :=
  match dst with
  | some d => match Nat.blt d n with
    | true => K ((d, v) :: fr)
    | false => False
  | none => K fr

theorem putK_ok {n : Nat} {dst : Option Nat} {v : V} {fr : Fr} {K : Fr → Prop} (h : putK n dst v fr K) {σ : Sg} {E : EH} {a : Act} (hf : FrOk σ E fr n a) {x : Value} (hv : Den σ E v x) :
    ∃ fr', FrOk σ E fr' n (a.put dst x) ∧ K fr' := by
  unfold putK at h
  split at h
  · rename_i d
    split at h
    · rename_i hb
      exact ⟨_, hf.put (Nat.lt_of_succ_le (Nat.le_of_ble_eq_true hb)) hv, h⟩
    · exact h.elim
  · exact ⟨fr, hf, h⟩

/-- An operand, numbers that are written out kept apart. -/
def evR (fr : Fr) : Operand → Option V
  | .tmp t => look fr t
  | .const v => some (cvc v)
  | .global g => some (.any (.pointer (some ⟨g, 0, none⟩)))
  | .func f => some (.fn f [])

theorem evR_ok {σ : Sg} {E : EH} {fr : Fr} {n : Nat} {a : Act} (h : FrOk σ E fr n a) {x : Operand} {v : V} (hv : evR fr x = some v) : Den σ E v (a.eval x) := by
  cases x with
  | tmp t =>
    obtain ⟨y, h1, h2⟩ := h.get t v hv
    simp only [Act.eval]
    rw [Array.getD_eq_getD_getElem?, h1]
    exact h2
  | const c => simp only [evR, Option.some.injEq] at hv; subst hv; exact cvc_den σ E c
  | global g => simp only [evR, Option.some.injEq] at hv; subst hv; simp [Den, Act.eval]
  | func f => simp only [evR, Option.some.injEq] at hv; subst hv; simp [Den, DenL, Act.eval]

def ev (fr : Fr) (x : Operand) : Option V := match evR fr x with | some v => some (delit v) | none => none
theorem ev_ok {σ : Sg} {E : EH} {fr : Fr} {n : Nat} {a : Act} (h : FrOk σ E fr n a) {x : Operand} {v : V} (hv : ev fr x = some v) : Den σ E v (a.eval x) := by
  unfold ev at hv
  split at hv
  · rename_i u hu; cases hv; exact delit_den (evR_ok h hu)
  · cases hv

def evs (fr : Fr) : List Operand → Option (List V)
  | [] => some []
  | x :: xs => match evR fr x, evs fr xs with
    | some v, some vs => some (v :: vs)
    | _, _ => none
theorem evs_ok {σ : Sg} {E : EH} {fr : Fr} {n : Nat} {a : Act} (h : FrOk σ E fr n a) : ∀ {xs : List Operand} {vs : List V}, evs fr xs = some vs → DenL σ E vs (xs.map a.eval)
  | [], vs, hv => by simp [evs] at hv; subst hv; exact .nil
  | x :: xs, vs, hv => by
    simp only [evs] at hv
    split at hv
    · rename_i v us h1 h2
      cases hv
      exact .cons (evR_ok h h1) (evs_ok h h2)
    · cases hv
def evP (fr : Fr) : List (Nat × Operand) → Option (List (Nat × V))
  | [] => some []
  | (i, x) :: xs => match evR fr x, evP fr xs with
    | some v, some vs => some ((i, v) :: vs)
    | _, _ => none
theorem evP_ok {σ : Sg} {E : EH} {fr : Fr} {n : Nat} {a : Act} (h : FrOk σ E fr n a) : ∀ {xs : List (Nat × Operand)} {vs : List (Nat × V)}, evP fr xs = some vs → DenP σ E vs (xs.map fun (i, x) => (i, a.eval x))
  | [], vs, hv => by simp [evP] at hv; subst hv; simp [DenP]
  | (i, x) :: xs, vs, hv => by
    simp only [evP] at hv
    split at hv
    · rename_i v us h1 h2
      cases hv
      simp only [List.map_cons, DenP]
      exact ⟨_, _, rfl, evR_ok h h1, evP_ok h h2⟩
    · cases hv
def evO (fr : Fr) : Option Operand → Option (Option V)
  | none => some none
  | some x => match ev fr x with | some v => some (some v) | none => none
theorem evO_ok {σ : Sg} {E : EH} {fr : Fr} {n : Nat} {a : Act} (h : FrOk σ E fr n a) {x : Option Operand} {v : Option V} (hv : evO fr x = some v) : OD σ E v (x.map a.eval) := by
  cases x with
  | none => simp [evO] at hv; subst hv; trivial
  | some x =>
    simp only [evO] at hv
    split at hv
    · rename_i u hu; cases hv; exact ev_ok h hu
    · cases hv

/-! ### Operations that touch no memory -/
def exacts (fr : Fr) (l : List Operand) : Bool := l.all fun x => ((ev fr x).bind V.val?).isSome
def rho (fr : Fr) (x : Operand) : Value := ((ev fr x).bind V.val?).getD undef

/-- A number, reckoned out. -/
def forceN (n : Nat) (K : Nat → V) : V := match n with
  | 0 => K 0
  | m + 1 => K (m + 1)
def cvL : Value → V
  | .int k n => match n with
    | .ofNat m => forceN m (fun m => .lit k (.ofNat m))
    | .negSucc m => forceN m (fun m => .lit k (.negSucc m))
  | .bool b => match b with | true => .tt | false => .ff
  | v => cv v
theorem cvL_den (σ : Sg) (E : EH) (v : Value) : Den σ E (cvL v) v := by
  cases v with
  | int k n =>
    cases n with
    | ofNat m => cases m <;> simp [cvL, forceN, Den]
    | negSucc m => cases m <;> simp [cvL, forceN, Den]
  | bool b => cases b <;> simp [cvL, Den]
  | _ => simp only [cvL]; exact cv_den σ E _
/-- Are all operands written out? -/
def isLit : V → Bool
  | .lit .. | .tt | .ff => true
  | .any (.string _) => true
  | .any (.map none) => true
  | .any (.pointer none) => true
  | .any .nilFunc => true
  | _ => false
/-- A bool, reckoned out where it may be. -/
def litB : Bool → Bool → V
  | true, b => match b with | true => .tt | false => .ff
  | false, b => .sb b
theorem litB_den (σ : Sg) (E : EH) (l b : Bool) : Den σ E (litB l b) (.bool b) := by
  cases l <;> cases b <;> simp [litB, Den]
def lits (fr : Fr) (l : List Operand) : Bool := l.all fun x => match evR fr x with | some v => isLit v | none => false

def calmV (P : Program) (fr : Fr) (o : Oper) : Option V :=
  match o.op with
  | .select .. => none
  | _ => match exacts fr o.op.operands.toList with
    | true => match calm P (execOp (rho fr) o) with
      | some (.value v) => match lits fr o.op.operands.toList with
        | true => some (cvL v)
        | false => some (cv v)
      | _ => none
    | false => none

theorem calmV_ok {P : Program} {fr : Fr} {o : Oper} {v : V} (h : calmV P fr o = some v) {σ : Sg} {E : EH} {n : Nat} {a : Act} (hf : FrOk σ E fr n a) :
    ∃ x, (∀ W, (execOp a.eval o).run P W = .ok (.value x) W) ∧ Den σ E v x := by
  unfold calmV at h
  split at h
  · cases h
  · rename_i hsel
    split at h
    · rename_i hex
      split at h
      · rename_i x hc
        have hden : Den σ E v x := by
          split at h
          · cases h; exact cvL_den σ E x
          · cases h; exact cv_den σ E x
        refine ⟨x, fun W => ?_, hden⟩
        rw [execOp_congr (ρ := a.eval) (ρ' := rho fr) o (fun cs b e => hsel cs b e) (fun y hy => ?_)]
        · exact calm_run hc W
        · have := List.all_eq_true.1 hex y (by simpa using hy)
          obtain ⟨z, hz⟩ := Option.isSome_iff_exists.1 this
          obtain ⟨u, hu, hu2⟩ := Option.bind_eq_some_iff.1 hz
          rw [val?_den hu2 (ev_ok hf hu)]
          simp [rho, hz]
      · cases h
    · cases h

def pickV (c : Bool) : V → V → Option V
  | .int k m, .int k' n => match decide (k = k') with | true => some (.int k (bif c then m else n)) | false => none
  | .sb a, .sb b => some (.sb (bif c then a else b))
  | .sb a, .tt => some (.sb (bif c then a else true))
  | .sb a, .ff => some (.sb (bif c then a else false))
  | .tt, .sb b => some (.sb (bif c then true else b))
  | .ff, .sb b => some (.sb (bif c then false else b))
  | .tt, .ff => some (.sb c)
  | .ff, .tt => some (.sb !c)
  | .tt, .tt => some .tt
  | .ff, .ff => some .ff
  | _, _ => none
theorem pickV_ok {c : Bool} {u v w : V} (h : pickV c u v = some w) {σ : Sg} {E : EH} {x y : Value} (hx : Den σ E u x) (hy : Den σ E v y) : Den σ E w (if c then x else y) := by
  unfold pickV at h
  split at h <;> (try cases h) <;> (try simp only [Den] at hx hy ⊢) <;> (try subst hx) <;> (try subst hy) <;> (try (cases c <;> simp))
  · split at h
    · rename_i hk
      have hk' := of_decide_eq_true hk
      subst hk'
      cases h
      simp [Den]
    · cases h
  · split at h
    · rename_i hk
      have hk' := of_decide_eq_true hk
      subst hk'
      cases h
      simp [Den]
    · cases h

/-- Is an operation of a make that touches no memory? -/
def isPure (P : Program) : Op → Bool
  | .move _ | .assign _ | .pick .. | .nilCheck _ | .fieldAddr .. | .indexAddr .. | .slice .. | .field .. | .extract .. | .build .. | .makeFunc .. | .binOp .. | .unOp .. | .index .. | .makeInterface .. | .sliceToArrayPointer .. => true
  | .convert src dst _ => match P.underlying src, P.underlying dst with
    | some .string, some (.slice _) => false
    | some (.slice _), some .string => false
    | some (.slice _), some (.slice _) => false
    | _, _ => true
  | .call c => match c.callee with
    | .builtin .len => match c.argTypes.toList with
      | [t] => match P.underlying t with
        | some (.map _ _) => false
        | some (.chan _ _) => false
        | _ => true
      | _ => true
    | .builtin .min | .builtin .max => true
    | _ => false
  | _ => false

def isPtrT (P : Program) (t : TypeId) : Bool := match P.underlying t with | some (.pointer _) => true | _ => false
def isFuncT (P : Program) (t : TypeId) : Bool := match P.underlying t with | some (.func ..) => true | _ => false
/-- Is it surely not nil, and this nil? -/
def someNil (P : Program) (t : TypeId) : V → V → Bool
  | .mp _, .any (.map none) => isMapT P t
  | .ptr _ _, .any (.pointer none) => isPtrT P t
  | .pa .., .any (.pointer none) => isPtrT P t
  | .pe .., .any (.pointer none) => isPtrT P t
  | .ipe .., .any (.pointer none) => isPtrT P t
  | .fn .., .any .nilFunc => isFuncT P t
  | .dat (.val (.func ..)), .any .nilFunc => isFuncT P t
  | _, _ => false

def slT (P : Program) (t : TypeId) : Bool := match P.underlying t with | some (.slice _) => true | _ => false
def nilLen : V → Option Nat
  | .sl _ lo hi => some (hi - lo)
  | .dat (.sl _ l) => some l.length
  | .e0 => some 0
  | .sa _ _ _ _ n _ => some n
  | .se _ _ _ _ n _ => some n
  | _ => none
def intOf : V → Option (IntKind × Int)
  | .int k n => some (k, n)
  | .lit k n => some (k, n)
  | _ => none
/-- A number by which one may divide. -/
def NZ (n : Int) : Prop := n ≠ 0
/-- Shifts by a number that we know only by a name. -/
def shlI (k : IntKind) (a b : Int) : Int := k.wrap (a * 2 ^ (min b.toNat k.bits))
def shrI (k : IntKind) (a b : Int) : Int := a.fdiv (2 ^ (min b.toNat k.bits))
/-- A shift's count. -/
def ShC (n : Int) : Prop := ¬ n < 0
/-- Is a slice nil? Division by a number that we know only by a name. -/
def moreK (P : Program) (o : Oper) (fr : Fr) (K : V → Prop) : Prop :=
  match o.op with
  | .binOp .eql t x y _ => match ev fr x, ev fr y with
    | some v, some (.any (.slice none 0 0)) => match slT P t, nilLen v with
      | true, some n => ∀ b : Bool, (b = true → n = 0) → K (.sb b)
      | _, _ => False
    | _, _ => False
  | .binOp .neq t x y _ => match ev fr x, ev fr y with
    | some v, some (.any (.slice none 0 0)) => match slT P t, nilLen v with
      | true, some n => ∀ b : Bool, (b = false → n = 0) → K (.sb b)
      | _, _ => False
    | _, _ => False
  | .binOp .quo t x y _ => match (ev fr x).bind intOf, (ev fr y).bind intOf with
    | some (k, a), some (k', b) => match decide (k = k') with
      | true => NZ b ∧ K (.int k (k.wrap (a.tdiv b)))
      | false => False
    | _, _ => False
  | .binOp .rem t x y _ => match (ev fr x).bind intOf, (ev fr y).bind intOf with
    | some (k, a), some (k', b) => match decide (k = k') with
      | true => NZ b ∧ K (.int k (a.tmod b))
      | false => False
    | _, _ => False
  | .binOp .shl t x y _ => match (ev fr x).bind intOf, (ev fr y).bind intOf with
    | some (k, a), some (_, b) => ShC b ∧ K (.int k (shlI k a b))
    | _, _ => False
  | .binOp .shr t x y _ => match (ev fr x).bind intOf, (ev fr y).bind intOf with
    | some (k, a), some (_, b) => ShC b ∧ K (.int k (shrI k a b))
    | _, _ => False
  | _ => False
theorem nilLen_ok {σ : Sg} {E : EH} {v : V} {n : Nat} (h : nilLen v = some n) {x : Value} (hx : Den σ E v x) : ∃ a cap, x = .slice a n cap ∧ (a = none → n = 0) := by
  unfold nilLen at h
  split at h <;> first | (cases h; done) | skip
  · rename_i lo hi
    cases h
    simp only [Den] at hx
    obtain ⟨r, a, _, rfl, h1, h2, h3⟩ := hx
    refine ⟨a, _, rfl, fun e => ?_⟩
    subst e
    rcases Nat.lt_or_ge lo r.cap with hlt | hlt
    · exact absurd (h3 hlt) (by simp)
    · omega
  · cases h
    simp only [Den, RepD] at hx
    obtain ⟨a, cap, rfl, h1, h2⟩ := hx
    refine ⟨a, cap, rfl, fun e => ?_⟩
    rcases h2 with h2 | ⟨b, off, h2, _⟩
    · exact h2
    · rw [e] at h2; cases h2
  · cases h
    simp only [Den] at hx
    obtain ⟨a, rfl⟩ := hx
    exact ⟨a, 0, rfl, fun _ => rfl⟩
  · rename_i c
    cases h
    simp only [Den] at hx
    obtain ⟨r, a, _, rfl, h1, h2⟩ := hx
    refine ⟨a, _, rfl, fun e => ?_⟩
    subst e
    rcases Nat.eq_zero_or_pos c with hlt | hlt
    · omega
    · exact absurd (h2 hlt) (by simp)
  · rename_i c
    cases h
    simp only [Den] at hx
    obtain ⟨r, a, _, rfl, h1, h2⟩ := hx
    refine ⟨a, _, rfl, fun e => ?_⟩
    subst e
    rcases Nat.eq_zero_or_pos c with hlt | hlt
    · omega
    · exact absurd (h2 hlt) (by simp)
theorem run_sl_nil {P : Program} {t : TypeId} (ht : slT P t = true) {a : Option Addr} {n cap : Nat} (W : World) : (Op.equal t (.slice a n cap) (.slice none 0 0)).run P W = .ok a.isNone W := by
  unfold slT at ht
  split at ht <;> try (cases ht; done)
  rename_i e hu
  unfold Op.equal
  show (Op.equalIn (9999 + 1) t _ _).run P W = _
  unfold Op.equalIn
  rw [Sem.run_bind, run_underlying hu, Result.andThen_ok]
  cases a <;> rfl
theorem intOf_ok {v : V} {k : IntKind} {n : Int} (h : intOf v = some (k, n)) {σ : Sg} {E : EH} {x : Value} (hx : Den σ E v x) : x = .int k n := by
  unfold intOf at h
  split at h <;> first | (cases h; done) | skip
  · cases h; simpa only [Den] using hx
  · cases h; simpa only [Den] using hx
theorem moreK_ok {P : Program} {o : Oper} {fr : Fr} {K : V → Prop} (h : moreK P o fr K) {σ : Sg} {E : EH} {n : Nat} {a : Act} (hf : FrOk σ E fr n a) :
    ∃ v x, (∀ W, (execOp a.eval o).run P W = .ok (.value x) W) ∧ Den σ E v x ∧ K v := by
  obtain ⟨dst, op, ty, pos, after, guard⟩ := o
  unfold moreK at h
  simp only at h
  split at h
  · rename_i t x y _
    split at h <;> try exact h.elim
    rename_i v hx hy
    split at h <;> try exact h.elim
    rename_i m ht hm
    obtain ⟨ad, cap, e1, e2⟩ := nilLen_ok hm (ev_ok hf hx)
    have e3 := ev_ok hf hy
    simp only [Den] at e3
    refine ⟨.sb ad.isNone, .bool ad.isNone, fun W => ?_, by simp only [Den], h _ (fun hb => e2 (by simpa using hb))⟩
    simp only [execOp, e1, e3, eqGuard, Sem.run_bind, binOp]
    simp [run_sl_nil ht]
  · rename_i t x y _
    split at h <;> try exact h.elim
    rename_i v hx hy
    split at h <;> try exact h.elim
    rename_i m ht hm
    obtain ⟨ad, cap, e1, e2⟩ := nilLen_ok hm (ev_ok hf hx)
    have e3 := ev_ok hf hy
    simp only [Den] at e3
    refine ⟨.sb (!ad.isNone), .bool (!ad.isNone), fun W => ?_, by simp only [Den], h _ (fun hb => e2 (by simpa using hb))⟩
    simp only [execOp, e1, e3, eqGuard, Sem.run_bind, binOp]
    simp [run_sl_nil ht]
  · rename_i t x y _
    split at h <;> try exact h.elim
    rename_i k p k' q hx hy
    split at h <;> try exact h.elim
    rename_i hk
    have hk := of_decide_eq_true hk
    subst hk
    obtain ⟨u, hu, hu2⟩ := Option.bind_eq_some_iff.1 hx
    obtain ⟨v, hv, hv2⟩ := Option.bind_eq_some_iff.1 hy
    have e1 := intOf_ok hu2 (ev_ok hf hu)
    have e2 := intOf_ok hv2 (ev_ok hf hv)
    refine ⟨_, .int k (k.wrap (p.tdiv q)), fun W => ?_, by simp only [Den], h.2⟩
    simp [execOp, e1, e2, eqGuard, binOp, Op.intDiv, show q ≠ 0 from h.1]
  · rename_i t x y _
    split at h <;> try exact h.elim
    rename_i k p k' q hx hy
    split at h <;> try exact h.elim
    rename_i hk
    have hk := of_decide_eq_true hk
    subst hk
    obtain ⟨u, hu, hu2⟩ := Option.bind_eq_some_iff.1 hx
    obtain ⟨v, hv, hv2⟩ := Option.bind_eq_some_iff.1 hy
    have e1 := intOf_ok hu2 (ev_ok hf hu)
    have e2 := intOf_ok hv2 (ev_ok hf hv)
    refine ⟨_, .int k (p.tmod q), fun W => ?_, by simp only [Den], h.2⟩
    simp [execOp, e1, e2, eqGuard, binOp, Op.intDiv, show q ≠ 0 from h.1]
  · rename_i t x y _
    split at h <;> try exact h.elim
    rename_i k p k' q hx hy
    obtain ⟨u, hu, hu2⟩ := Option.bind_eq_some_iff.1 hx
    obtain ⟨v, hv, hv2⟩ := Option.bind_eq_some_iff.1 hy
    have e1 := intOf_ok hu2 (ev_ok hf hu)
    have e2 := intOf_ok hv2 (ev_ok hf hv)
    refine ⟨_, .int k (shlI k p q), fun W => ?_, by simp only [Den], h.2⟩
    simp [execOp, e1, e2, eqGuard, binOp, Op.shift, show ¬ q < 0 from h.1, shlI]
  · rename_i t x y _
    split at h <;> try exact h.elim
    rename_i k p k' q hx hy
    obtain ⟨u, hu, hu2⟩ := Option.bind_eq_some_iff.1 hx
    obtain ⟨v, hv, hv2⟩ := Option.bind_eq_some_iff.1 hy
    have e1 := intOf_ok hu2 (ev_ok hf hu)
    have e2 := intOf_ok hv2 (ev_ok hf hv)
    refine ⟨_, .int k (shrI k p q), fun W => ?_, by simp only [Den], h.2⟩
    simp [execOp, e1, e2, eqGuard, binOp, Op.shift, show ¬ q < 0 from h.1, shrI]
  · exact h.elim

def pureK (P : Program) (o : Oper) (fr : Fr) (kb : KB) (K : V → Prop) : Prop :=
  match o.op with
  | .move x | .assign x => match evR fr x with | some v => K v | none => False
  | .pick c x y => match ev fr c with
    | some .tt => match evR fr x with | some v => K v | none => False
    | some .ff => match evR fr y with | some v => K v | none => False
    | some (.sb b) => match ev fr x, ev fr y with
      | some u, some v => match pickV b u v with | some w => K w | none => False
      | _, _ => False
    | _ => False
  | .nilCheck x => match ev fr x with
    | some (.ptr i off) => K (.ptr i off)
    | some (.pa i base o) => K (.pa i base o)
    | some (.pe i ix fld) => K (.pe i ix fld)
    | some (.pw i ix) => K (.pw i ix)
    | some (.ipe e fld) => K (.ipe e fld)
    | some (.fn f cap) => K (.fn f cap)
    | some (.dat (.val (.func (.func f) first cap))) => K (.dat (.val (.func (.func f) first cap)))
    | some (.any (.func (.func f) first cap)) => K (.any (.func (.func f) first cap))
    | _ => False
  | .fieldAddr s x m => match ev fr x with | some v => fieldK P s v m K | none => False
  | .indexAddr t x i => match ev fr x, evR fr i with | some v, some u => indexK P t v u kb K | _, _ => False
  | .slice t x lo hi none => match ev fr x, evO fr lo, evO fr hi with | some v, some l, some h => sliceK P t v l h kb K | _, _, _ => False
  | .slice t x lo hi (some m) => match ev fr x, evO fr lo, evO fr hi, evO fr (some m) with | some v, some l, some h, some m => slice00K P t v l h m K | _, _, _, _ => False
  | .sliceToArrayPointer t x => match ev fr x with | some v => arrAtK P t v kb K | none => False
  | .field t x m => match (ev fr x).bind (fun v => fieldV P t v m) with | some u => K u | none => False
  | .index t x i => match ev fr x, evR fr i with
    | some (.agg l), some u => elemK P t (.agg l) u K
    | _, _ => match calmV P fr o with | some v => K v | none => False
  | .extract x m => match ev fr x with
    | some (.tup l) => match l[m]? with | some v => K v | none => False
    | _ => False
  | .build t parts => match evP fr parts.toList with
    | some ps => match buildV P t ps with | some l => K (.agg l) | none => False
    | none => False
  | .makeFunc (.func f) first cap => match first.toList, evs fr cap.toList with | [], some vs => K (.fn f vs) | _, _ => False
  | .call c => match c.callee, c.args.toList, c.argTypes.toList with
    | .builtin .len, [x], [t] => match ev fr x with
      | some v => match lenV v with
        | some _ => lenK P t v K
        | none => match v with
          | .agg l => lenK P t (.agg l) K
          | .ptr i off => lenK P t (.ptr i off) K
          | _ => match calmV P fr o with | some v => K v | none => False
      | none => False
    | _, _, _ => match calmV P fr o with | some v => K v | none => False
  | .binOp .eql t x y _ => match ev fr x, ev fr y with
    | some u, some v => match someNil P t u v, u, v with
      | true, _, _ => K .ff
      | false, .agg xs, .agg ys => match P.eqGuardType P.depth t, eqT P 20 t (.agg xs) (.agg ys) with
        | false, some b => K (litB (xs.all isLit && ys.all isLit) b)
        | _, _ => False
      | _, _, _ => match calmV P fr o with | some v => K v | none => moreK P o fr K
    | _, _ => False
  | .binOp .neq t x y _ => match ev fr x, ev fr y with
    | some u, some v => match someNil P t u v, u, v with
      | true, _, _ => K .tt
      | false, .agg xs, .agg ys => match P.eqGuardType P.depth t, eqT P 20 t (.agg xs) (.agg ys) with
        | false, some b => K (litB (xs.all isLit && ys.all isLit) (!b))
        | _, _ => False
      | _, _, _ => match calmV P fr o with | some v => K v | none => moreK P o fr K
    | _, _ => False
  | .binOp .quo _ _ y _ => match y, ev fr y with
    | .tmp _, some (.int _ _) => moreK P o fr K
    | _, _ => match calmV P fr o with | some v => K v | none => False
  | .binOp .rem _ _ y _ => match y, ev fr y with
    | .tmp _, some (.int _ _) => moreK P o fr K
    | _, _ => match calmV P fr o with | some v => K v | none => False
  | .binOp .shl _ _ y _ => match y, ev fr y with
    | .tmp _, some (.int _ _) => moreK P o fr K
    | _, _ => match calmV P fr o with | some v => K v | none => False
  | .binOp .shr _ _ y _ => match y, ev fr y with
    | .tmp _, some (.int _ _) => moreK P o fr K
    | _, _ => match calmV P fr o with | some v => K v | none => False
  | _ => match calmV P fr o with | some v => K v | none => False

theorem run_eq_agg {P : Program} {t : TypeId} (hg : P.eqGuardType P.depth t = false) {b : Bool} {xs ys : List V} (he : eqT P 20 t (.agg xs) (.agg ys) = some b) {σ : Sg} {E : EH} {x y : Operand} {u v : Value} (hx : Den σ E (.agg xs) u) (hy : Den σ E (.agg ys) v)
    (op : BinOp) (hop : op = .eql ∨ op = .neq) (W : World) : (do eqGuard op t x y u v; binOp op t u v : Sem Value).run P W = .ok (.bool (if op = .eql then b else !b)) W := by
  have hr := eqT_ok 20 t _ _ b he u v hx hy Op.maxDepth (by decide) W
  simp only [Den] at hx hy
  obtain ⟨us, rfl, _⟩ := hx
  obtain ⟨vs, rfl, _⟩ := hy
  rcases hop with rfl | rfl
  · have h1 : (eqGuard .eql t x y (.agg us.toArray) (.agg vs.toArray)).run P W = .ok () W := by simp [eqGuard, hg]
    rw [Sem.run_bind, h1, Result.andThen_ok]
    simp [binOp, Op.equal, hr]
  · have h1 : (eqGuard .neq t x y (.agg us.toArray) (.agg vs.toArray)).run P W = .ok () W := by simp [eqGuard, hg]
    rw [Sem.run_bind, h1, Result.andThen_ok]
    simp [binOp, Op.equal, hr]

theorem run_some_nil {P : Program} {t : TypeId} {p q : V} (ht : someNil P t p q = true) {σ : Sg} {E : EH} {x y : Operand} {u v : Value} (hx : Den σ E p u) (hy : Den σ E q v)
    (op : BinOp) (hop : op = .eql ∨ op = .neq) (W : World) : (do eqGuard op t x y u v; binOp op t u v : Sem Value).run P W = .ok (.bool (if op = .eql then false else true)) W := by
  have fin : ((binOp .eql t u v).run P W = .ok (.bool false) W) → ((binOp .neq t u v).run P W = .ok (.bool true) W) → (∀ op, (op = BinOp.eql ∨ op = BinOp.neq) → ∀ W, (eqGuard op t x y u v).run P W = .ok () W) → (do eqGuard op t x y u v; binOp op t u v : Sem Value).run P W = .ok (.bool (if op = .eql then false else true)) W := by
    intro hb1 hb2 h1
    rcases hop with rfl | rfl
    · rw [Sem.run_bind, h1 _ (.inl rfl), Result.andThen_ok, hb1]
      rfl
    · rw [Sem.run_bind, h1 _ (.inr rfl), Result.andThen_ok, hb2]
      rfl
  have ptr : ∀ {b o : Nat}, u = .pointer (some ⟨b, o, none⟩) → v = .pointer none → isPtrT P t = true → (do eqGuard op t x y u v; binOp op t u v : Sem Value).run P W = .ok (.bool (if op = .eql then false else true)) W := by
    rintro b o rfl rfl hp
    unfold isPtrT at hp
    split at hp <;> try (cases hp; done)
    rename_i e hu
    have hr : (Op.equal t (.pointer (some ⟨b, o, none⟩)) (.pointer none)).run P W = .ok false W := by
      unfold Op.equal
      show (Op.equalIn (9999 + 1) t _ _).run P W = _
      unfold Op.equalIn
      rw [Sem.run_bind, run_underlying hu, Result.andThen_ok]
      simp
    refine fin (by simp [binOp, hr]) (by simp [binOp, hr]) (fun op hop W => ?_)
    · rcases hop with rfl | rfl <;> simp [eqGuard]
  unfold someNil at ht
  split at ht
  · simp only [Den] at hx hy
    obtain ⟨r, _, rfl⟩ := hx
    subst hy
    unfold isMapT at ht
    split at ht <;> try (cases ht; done)
    rename_i kt et hu
    have hr : (Op.equal t (.map (some r.blk)) (.map none)).run P W = .ok false W := by
      unfold Op.equal
      show (Op.equalIn (9999 + 1) t _ _).run P W = _
      unfold Op.equalIn
      rw [Sem.run_bind, run_underlying hu, Result.andThen_ok]
      rfl
    refine fin (by simp [binOp, hr]) (by simp [binOp, hr]) (fun op hop W => ?_)
    · rcases hop with rfl | rfl <;> simp [eqGuard]
  · simp only [Den] at hx hy; obtain ⟨r, _, rfl⟩ := hx; exact ptr rfl hy ht
  · simp only [Den] at hx hy; obtain ⟨r, _, rfl⟩ := hx; exact ptr rfl hy ht
  · simp only [Den] at hx hy; obtain ⟨r, _, rfl⟩ := hx; exact ptr rfl hy ht
  · simp only [Den] at hx hy; obtain ⟨b, off, rfl, _⟩ := hx; exact ptr rfl hy ht
  · simp only [Den] at hx hy
    obtain ⟨vs, rfl, _⟩ := hx
    subst hy
    unfold isFuncT at ht
    split at ht <;> try (cases ht; done)
    rename_i hu
    have hr : ∀ g c1 c2, (Op.equal t (.func g c1 c2) .nilFunc).run P W = .ok false W := by
      intro g c1 c2
      unfold Op.equal
      show (Op.equalIn (9999 + 1) t _ _).run P W = _
      unfold Op.equalIn
      rw [Sem.run_bind, run_underlying hu, Result.andThen_ok]
      rfl
    refine fin (by simp [binOp, hr]) (by simp [binOp, hr]) (fun op hop W => ?_)
    · rcases hop with rfl | rfl <;> simp [eqGuard]
  · simp only [Den, RepD] at hx hy
    obtain ⟨rfl, _⟩ := hx
    subst hy
    unfold isFuncT at ht
    split at ht <;> try (cases ht; done)
    rename_i hu
    have hr : ∀ g c1 c2, (Op.equal t (.func g c1 c2) .nilFunc).run P W = .ok false W := by
      intro g c1 c2
      unfold Op.equal
      show (Op.equalIn (9999 + 1) t _ _).run P W = _
      unfold Op.equalIn
      rw [Sem.run_bind, run_underlying hu, Result.andThen_ok]
      rfl
    refine fin (by simp [binOp, hr]) (by simp [binOp, hr]) (fun op hop W => ?_)
    · rcases hop with rfl | rfl <;> simp [eqGuard]
  · cases ht

theorem pureK_ok {P : Program} {o : Oper} {fr : Fr} {kb : KB} {K : V → Prop} (h : pureK P o fr kb K) {σ : Sg} {E : EH} {n : Nat} {a : Act} (hf : FrOk σ E fr n a) {W0 : World} (hi : Inv σ E kb W0) :
    ∃ v x, (∀ W, (execOp a.eval o).run P W = .ok (.value x) W) ∧ Den σ E v x ∧ K v := by
  have calmCase : (match calmV P fr o with | some v => K v | none => False) → ∃ v x, (∀ W, (execOp a.eval o).run P W = .ok (.value x) W) ∧ Den σ E v x ∧ K v := by
    intro h
    split at h
    · rename_i v hv
      obtain ⟨x, h1, h2⟩ := calmV_ok hv hf
      exact ⟨v, x, h1, h2, h⟩
    · exact h.elim
  have calmMore : (match calmV P fr o with | some v => K v | none => moreK P o fr K) → ∃ v x, (∀ W, (execOp a.eval o).run P W = .ok (.value x) W) ∧ Den σ E v x ∧ K v := by
    intro h
    split at h
    · rename_i v hv
      obtain ⟨x, h1, h2⟩ := calmV_ok hv hf
      exact ⟨v, x, h1, h2, h⟩
    · exact moreK_ok h hf
  obtain ⟨dst, op, ty, pos, after, guard⟩ := o
  unfold pureK at h
  simp only at h
  split at h
  · split at h
    · rename_i x v hv; exact ⟨v, _, fun W => rfl, evR_ok hf hv, h⟩
    · exact h.elim
  · split at h
    · rename_i x v hv; exact ⟨v, _, fun W => rfl, evR_ok hf hv, h⟩
    · exact h.elim
  · rename_i c x y
    split at h
    · rename_i hc
      have hc' := ev_ok hf hc
      simp only [Den] at hc'
      split at h
      · rename_i v hv; exact ⟨v, _, fun W => by simp [execOp, hc', asBool], evR_ok hf hv, h⟩
      · exact h.elim
    · rename_i hc
      have hc' := ev_ok hf hc
      simp only [Den] at hc'
      split at h
      · rename_i v hv; exact ⟨v, _, fun W => by simp [execOp, hc', asBool], evR_ok hf hv, h⟩
      · exact h.elim
    · rename_i b hc
      have hc' := ev_ok hf hc
      simp only [Den] at hc'
      split at h
      · rename_i u v hu hv
        split at h
        · rename_i w hw
          exact ⟨w, _, fun W => by simp [execOp, hc', asBool], pickV_ok hw (ev_ok hf hu) (ev_ok hf hv), h⟩
        · exact h.elim
      · exact h.elim
    · exact h.elim
  · rename_i x
    have same : ∀ {v : V}, ev fr x = some v → K v → (∀ y, Den σ E v y → (∃ b o, y = .pointer (some ⟨b, o, none⟩)) ∨ (∃ f first cap, y = .func (.func f) first cap)) →
        ∃ v y, (∀ W, (execOp a.eval { dst, op := .nilCheck x, type := ty, pos, after, guard }).run P W = .ok (.value y) W) ∧ Den σ E v y ∧ K v := by
      intro v hv hK hs
      have hx' := ev_ok hf hv
      rcases hs _ hx' with ⟨b, o, e⟩ | ⟨f, first, cap, e⟩
      · exact ⟨v, a.eval x, fun W => by simp [execOp, e], hx', hK⟩
      · exact ⟨v, a.eval x, fun W => by simp [execOp, e], hx', hK⟩
    split at h
    · rename_i hx; exact same hx h (fun y hy => by simp only [Den] at hy; obtain ⟨r, _, rfl⟩ := hy; exact .inl ⟨_, _, rfl⟩)
    · rename_i hx; exact same hx h (fun y hy => by simp only [Den] at hy; obtain ⟨r, _, rfl⟩ := hy; exact .inl ⟨_, _, rfl⟩)
    · rename_i hx; exact same hx h (fun y hy => by simp only [Den] at hy; obtain ⟨r, _, rfl⟩ := hy; exact .inl ⟨_, _, rfl⟩)
    · rename_i hx; exact same hx h (fun y hy => by simp only [Den] at hy; obtain ⟨r, _, rfl⟩ := hy; exact .inl ⟨_, _, rfl⟩)
    · rename_i hx; exact same hx h (fun y hy => by simp only [Den] at hy; obtain ⟨b, off, rfl, _⟩ := hy; exact .inl ⟨_, _, rfl⟩)
    · rename_i hx; exact same hx h (fun y hy => by simp only [Den] at hy; obtain ⟨vs, rfl, _⟩ := hy; exact .inr ⟨_, _, _, rfl⟩)
    · rename_i hx; exact same hx h (fun y hy => by simp only [Den, RepD] at hy; exact .inr ⟨_, _, _, hy.1⟩)
    · rename_i hx; exact same hx h (fun y hy => by simp only [Den] at hy; exact .inr ⟨_, _, _, hy⟩)
    · exact h.elim
  · split at h
    · rename_i s x m v hv
      obtain ⟨u, z, h1, h2, h3⟩ := fieldK_ok h (ev_ok hf hv)
      exact ⟨u, z, fun W => by simp [execOp, h1], h2, h3⟩
    · exact h.elim
  · split at h
    · rename_i t x i v u hv hu
      obtain ⟨w, z, h1, h2, h3⟩ := indexK_ok h hi (ev_ok hf hv) (evR_ok hf hu)
      exact ⟨w, z, fun W => by simp [execOp, h1], h2, h3⟩
    · exact h.elim
  · split at h
    · rename_i t x lo hi' v l hh hv hl hh'
      obtain ⟨w, z, h1, h2, h3⟩ := sliceK_ok h hi (ev_ok hf hv) (evO_ok hf hl) (evO_ok hf hh')
      exact ⟨w, z, fun W => by simp [execOp, h1], h2, h3⟩
    · exact h.elim
  · split at h
    · rename_i t x lo hi' m v l hh mm hv hl hh' hm
      obtain ⟨w, z, h1, h2, h3⟩ := slice00K_ok h (ev_ok hf hv) (evO_ok hf hl) (evO_ok hf hh') (evO_ok hf hm)
      exact ⟨w, z, fun W => by have := h1 W; simp only [Option.map_some] at this; simp [execOp, this], h2, h3⟩
    · exact h.elim
  · split at h
    · rename_i t x v hv
      obtain ⟨w, z, h1, h2, h3⟩ := arrAtK_ok h (ev_ok hf hv)
      exact ⟨w, z, fun W => by simp [execOp, h1], h2, h3⟩
    · exact h.elim
  · split at h
    · rename_i t x m u hu
      obtain ⟨v, hv, hu⟩ := Option.bind_eq_some_iff.1 hu
      obtain ⟨z, h1, h2⟩ := fieldV_ok hu (ev_ok hf hv)
      exact ⟨u, z, fun W => by simp [execOp, h1], h2, h⟩
    · exact h.elim
  · split at h
    · rename_i t x i l u hv hu
      obtain ⟨w, z, h1, h2, h3⟩ := elemK_ok h (ev_ok hf hv) (evR_ok hf hu)
      exact ⟨w, z, fun W => by simp [execOp, h1], h2, h3⟩
    · exact calmCase h
  · split at h
    · rename_i x m l hv
      split at h
      · rename_i v hm
        have hx := ev_ok hf hv
        simp only [Den] at hx
        obtain ⟨vs, hx, hD⟩ := hx
        obtain ⟨y, hy, hy2⟩ := hD.get hm
        exact ⟨v, y, fun W => by simp [execOp, hx, Instr.extract, hy], hy2, h⟩
      · exact h.elim
    · exact h.elim
  · split at h
    · rename_i t parts x1 ps hps
      split at h
      · rename_i l hl
        obtain ⟨z, h1, h2⟩ := buildV_ok hl (evP_ok hf hps)
        refine ⟨_, z, fun W => ?_, h2, h⟩
        have e : (parts.toList.map fun x => (x.1, a.eval x.2)).toArray = parts.map fun x => (x.1, a.eval x.2) := by
          apply Array.ext'; simp
        have := h1 W
        rw [show (parts.toList.map fun (i, x) => (i, a.eval x)) = parts.toList.map (fun x => (x.1, a.eval x.2)) from rfl, e] at this
        simp [execOp, this]
      · exact h.elim
    · exact h.elim
  · split at h
    · rename_i f first cap x1 x2 vs hfirst hvs
      have hD := evs_ok hf hvs
      have hfirst' : first = #[] := by apply Array.ext'; simpa using hfirst
      subst hfirst'
      refine ⟨_, _, fun W => by simp [execOp, Instr.makeFunc]; rfl, ?_, h⟩
      simp only [Den]
      exact ⟨_, by congr 1; apply Array.ext'; simp, hD⟩
    · exact h.elim
  · rename_i c
    split at h
    case h_2 => exact calmCase h
    rename_i x t hcal hargs hats
    obtain ⟨callee, args, argTypes⟩ := c
    simp only at hcal hargs hats
    subst hcal
    have hargs' : args = #[x] := by apply Array.ext'; simpa using hargs
    have hats' : argTypes = #[t] := by apply Array.ext'; simpa using hats
    subst hargs'; subst hats'
    have lenCase : ∀ {v : V}, ev fr x = some v → lenK P t v K → ∃ v y, (∀ W, (execOp a.eval { dst, op := .call ⟨.builtin .len, #[x], #[t]⟩, type := ty, pos, after, guard }).run P W = .ok (.value y) W) ∧ Den σ E v y ∧ K v := by
      intro v hv h
      obtain ⟨w, z, h1, h2, h3⟩ := lenK_ok h (ev_ok hf hv) ty
      exact ⟨w, z, fun W => by simp [execOp, resolve, invoke, builtin, h1], h2, h3⟩
    split at h <;> try exact h.elim
    rename_i v hv
    split at h
    · exact lenCase hv h
    · split at h
      · exact lenCase hv h
      · exact lenCase hv h
      · exact calmCase h
  · rename_i t x y _
    split at h <;> try exact h.elim
    rename_i u v hx hy
    split at h
    · rename_i hsn
      exact ⟨_, _, fun W => by
        have := run_some_nil (x := x) (y := y) hsn (ev_ok hf hx) (ev_ok hf hy) .eql (.inl rfl) W
        simp only [execOp]
        rw [Sem.run_bind, this, Result.andThen_ok]
        rfl, by simp [Den], h⟩
    · rename_i xs ys _
      split at h <;> try exact h.elim
      rename_i b hg he
      exact ⟨_, _, fun W => by
        have := run_eq_agg (x := x) (y := y) hg he (ev_ok hf hx) (ev_ok hf hy) .eql (.inl rfl) W
        simp only [execOp]
        rw [Sem.run_bind, this, Result.andThen_ok]
        rfl, litB_den _ _ _ _, h⟩
    · exact calmMore h
  · rename_i t x y _
    split at h <;> try exact h.elim
    rename_i u v hx hy
    split at h
    · rename_i hsn
      exact ⟨_, _, fun W => by
        have := run_some_nil (x := x) (y := y) hsn (ev_ok hf hx) (ev_ok hf hy) .neq (.inr rfl) W
        simp only [execOp]
        rw [Sem.run_bind, this, Result.andThen_ok]
        rfl, by simp [Den], h⟩
    · rename_i xs ys _
      split at h <;> try exact h.elim
      rename_i b hg he
      exact ⟨_, _, fun W => by
        have := run_eq_agg (x := x) (y := y) hg he (ev_ok hf hx) (ev_ok hf hy) .neq (.inr rfl) W
        simp only [execOp]
        rw [Sem.run_bind, this, Result.andThen_ok]
        rfl, litB_den _ _ _ _, h⟩
    · exact calmMore h
  · split at h
    · exact moreK_ok h hf
    · exact calmCase h
  · split at h
    · exact moreK_ok h hf
    · exact calmCase h
  · split at h
    · exact moreK_ok h hf
    · exact calmCase h
  · split at h
    · exact moreK_ok h hf
    · exact calmCase h
  · exact calmCase h
end Vc
