/- Calls, guards, regions: those in the order of the text, and those that draw their order. -/
import Derived.Test.YtnglmhckcfnfaaaVdI
import Derived.Test.YtnglmhckcfnfaaaVdX
set_option linter.unusedSimpArgs false
set_option linter.unusedVariables false
namespace Vc
open Go

abbrev CallT := FuncId → List V → KB → (V → KB → Prop) → Prop

/-- What a call that is met by callK comes to. -/
def CallOk (P : Program) (X : CallT) : Prop := ∀ f args kb K, X f args kb K → ∀ σ E W xs, Inv σ E kb W → DenL σ E args xs →
  Calls P f xs.toArray W (fun e W' => ∃ v r σ' E' kb', e = .returned v ∧ Step σ E kb W σ' E' kb' W' ∧ Den σ' E' r v ∧ K r kb')

def hasBody (P : Program) (f : FuncId) : Bool :=
  match P.funcs[f]? with
  | some fn => fn.body.isSome && !(fn.name == "runtime.NumGoroutine")
  | none => false

def effK (P : Program) (X : CallT) (o : Oper) (fr : Fr) (kb : KB) (K : V → KB → Prop) : Prop :=
  match o.op with
  | .load t x => match ev fr x with | some ad => loadK P t ad kb (fun v => K v kb) | none => False
  | .store t x y => match ev fr x, evR fr y with | some ad, some v => storeK P t ad v kb (fun kb' => K (.any undef) kb') | _, _ => False
  | .alloc t => allocK P t kb K
  | .lookup t x k ok => match ev fr x, ev fr k with | some m, some u => lookupK P t m u ok kb (fun v => K v kb) | _, _ => False
  | .mapUpdate t x k y => match ev fr x, ev fr k, evR fr y with | some m, some u, some v => updateK P t m u v kb (fun kb' => K (.any undef) kb') | _, _, _ => False
  | .insert t x k y => match ev fr x, ev fr k, evR fr y with | some m, some u, some v => updateK P t m u v kb (fun kb' => K (.any undef) kb') | _, _, _ => False
  | .makeMap t none => makeMapK P t kb K
  | .makeChan t x => match ev fr x with | some n => makeChanK P t n kb K | none => False
  | .makeSlice t l c => match ev fr l, ev fr c with | some n, some m => makeSliceK P t n m kb K | _, _ => False
  | .box t x => match evR fr x with | some v => boxK P t v kb K | none => False
  | .buildSlice t len parts => match evP fr parts.toList with | some ps => buildSliceK P t len ps kb K | none => False
  | .convert src dst x => match ev fr x with | some v => strK P src dst v kb K | none => False
  | .call c => match c.callee with
    | .builtin .append => match c.args.toList, c.argTypes.toList with
      | [x, y], [t, u] => match ev fr x, ev fr y with | some d, some s => appendK P t u d s kb K | _, _ => False
      | _, _ => False
    | .builtin .copy => match c.args.toList, c.argTypes.toList with
      | [x, y], [t, u] => match ev fr x, ev fr y with | some d, some s => copyK P t d s kb K | _, _ => False
      | _, _ => False
    | .builtin .delete => match c.args.toList, c.argTypes.toList with
      | [x, y], [t, u] => match ev fr x, ev fr y with | some d, some s => deleteK P t d s kb (fun kb' => K (.tup []) kb') | _, _ => False
      | _, _ => False
    | .builtin .clear => match c.args.toList, c.argTypes.toList with
      | [x], [t] => match ev fr x with | some d => clearK P t d kb (fun kb' => K (.tup []) kb') | _ => False
      | _, _ => False
    | .builtin .len => match c.args.toList, c.argTypes.toList with
      | [x], [t] => match ev fr x with | some d => lenMC P t d kb (fun v => K v kb) | _ => False
      | _, _ => False
    | .value f => match ev fr f, evs fr c.args.toList with
      | some (.fn g cap), some vs => match hasBody P g with | true => X g (vs ++ cap) kb K | false => False
      | _, _ => False
    | _ => False
  | _ => False

def opK (P : Program) (X : CallT) (o : Oper) (fr : Fr) (kb : KB) (K : V → KB → Prop) : Prop :=
  match isPure P o.op with
  | true => pureK P o fr kb (fun v => K v kb)
  | false => effK P X o fr kb K

/-- What stands behind an operation. -/
def After (σ : Sg) (E : EH) (kb : KB) (W : World) (a : Act) (o : Oper) (K : V → KB → Prop) (a' : Act) (W' : World) : Prop :=
  ∃ σ' E' kb' v x, Step σ E kb W σ' E' kb' W' ∧ Den σ' E' v x ∧ a' = a.put o.dst x ∧ K v kb'

theorem wp_of_run {P : Program} {o : Oper} {a : Act} {W : World} {next : Act → World → Prop} {Q : Exit → Act → World → Prop} {x : Value} {W' : World} (h : (execOp a.eval o).run P W = .ok (.value x) W') (k : next (a.put o.dst x) W') : o.wp P a W next Q := by
  unfold Oper.wp; rw [h]; exact k

theorem opK_ok {P : Program} {X : CallT} (hX : CallOk P X) {o : Oper} {fr : Fr} {kb : KB} {K : V → KB → Prop} (h : opK P X o fr kb K) {σ : Sg} {E : EH} {n : Nat} {a : Act} (hf : FrOk σ E fr n a) {W : World} (hi : Inv σ E kb W) (Q : Exit → Act → World → Prop) :
    o.wp P a W (After σ E kb W a o K) Q := by
  unfold opK at h
  split at h
  · obtain ⟨v, x, h1, h2, h3⟩ := pureK_ok h hf hi
    exact wp_of_run (h1 W) ⟨σ, E, kb, v, x, Step.refl hi, h2, rfl, h3⟩
  · rename_i hpure
    clear hpure
    obtain ⟨dst, op, ty, pos, after, guard⟩ := o
    unfold effK at h
    simp only at h
    split at h
    · split at h
      · rename_i t x ad had
        obtain ⟨v, y, h1, h2, h3⟩ := loadK_ok h hi (ev_ok hf had)
        exact wp_of_run (by simp [execOp, h1]) ⟨σ, E, kb, v, y, Step.refl hi, h2, rfl, h3⟩
      · exact h.elim
    · split at h
      · rename_i t x y x1 x2 ad v had hv
        obtain ⟨E', kb', W', h1, h2, h3⟩ := storeK_ok h hi (ev_ok hf had) (evR_ok hf hv)
        unfold Oper.wp
        rw [show (execOp a.eval { dst, op := .store t x y, type := ty, pos, after, guard }).run P W = .ok .skip W' by simp [execOp, h1]]
        exact ⟨σ, E', kb', .any undef, undef, h2, by simp [Den], rfl, h3⟩
      · exact h.elim
    · rename_i t
      obtain ⟨v, x, σ', kb', W', h1, h2, h3, h4⟩ := allocK_ok h hi
      exact wp_of_run (by simp [execOp, h1]) ⟨σ', E, kb', v, x, h2, h3, rfl, h4⟩
    · split at h
      · rename_i t x k ok x1 x2 m u hm hu
        obtain ⟨v, y, h1, h2, h3⟩ := lookupK_ok h hi (ev_ok hf hm) (ev_ok hf hu)
        exact wp_of_run (by simp [execOp, h1]) ⟨σ, E, kb, v, y, Step.refl hi, h2, rfl, h3⟩
      · exact h.elim
    · split at h
      · rename_i t x k y x1 x2 x3 m u v hm hu hv
        obtain ⟨E', kb', W', h1, h2, h3⟩ := updateK_ok h hi (ev_ok hf hm) (ev_ok hf hu) (evR_ok hf hv)
        unfold Oper.wp
        rw [show (execOp a.eval { dst, op := .mapUpdate t x k y, type := ty, pos, after, guard }).run P W = .ok .skip W' by simp [execOp, h1]]
        exact ⟨σ, E', kb', .any undef, undef, h2, by simp [Den], rfl, h3⟩
      · exact h.elim
    · split at h
      · rename_i t x k y x1 x2 x3 m u v hm hu hv
        obtain ⟨E', kb', W', h1, h2, h3⟩ := updateK_ok h hi (ev_ok hf hm) (ev_ok hf hu) (evR_ok hf hv)
        unfold Oper.wp
        rw [show (execOp a.eval { dst, op := .insert t x k y, type := ty, pos, after, guard }).run P W = .ok .skip W' by simp [execOp, h1]]
        exact ⟨σ, E', kb', .any undef, undef, h2, by simp [Den], rfl, h3⟩
      · exact h.elim
    · rename_i t
      obtain ⟨v, x, σ', kb', W', h1, h2, h3, h4⟩ := makeMapK_ok h hi
      exact wp_of_run (by simp [execOp, h1]) ⟨σ', E, kb', v, x, h2, h3, rfl, h4⟩
    · split at h
      · rename_i t x0 m hm
        obtain ⟨v, x, σ', kb', W', h1, h2, h3, h4⟩ := makeChanK_ok h hi (ev_ok hf hm)
        exact wp_of_run (by simp [execOp, h1]) ⟨σ', E, kb', v, x, h2, h3, rfl, h4⟩
      · exact h.elim
    · split at h
      · rename_i t l c x1 x2 n m hn hm
        obtain ⟨v, x, σ', kb', W', h1, h2, h3, h4⟩ := makeSliceK_ok h hi (ev_ok hf hn) (ev_ok hf hm)
        exact wp_of_run (by simp [execOp, h1]) ⟨σ', E, kb', v, x, h2, h3, rfl, h4⟩
      · exact h.elim
    · split at h
      · rename_i t x v hv
        obtain ⟨u, y, σ', kb', W', h1, h2, h3, h4⟩ := boxK_ok h hi (evR_ok hf hv)
        exact wp_of_run (by simp [execOp, h1]) ⟨σ', E, kb', u, y, h2, h3, rfl, h4⟩
      · exact h.elim
    · split at h
      · rename_i t len parts x1 ps hps
        obtain ⟨u, y, σ', E', kb', W', h1, h2, h3, h4⟩ := buildSliceK_ok h hi (evP_ok hf hps)
        have e : (parts.toList.map fun x => (x.1, a.eval x.2)).toArray = parts.map fun x => (x.1, a.eval x.2) := by
          apply Array.ext'; simp
        rw [show (parts.toList.map fun (i, x) => (i, a.eval x)) = parts.toList.map (fun x => (x.1, a.eval x.2)) from rfl, e] at h1
        exact wp_of_run (by simp [execOp, h1]) ⟨σ', E', kb', u, y, h2, h3, rfl, h4⟩
      · exact h.elim
    · split at h
      · rename_i src dst' x v hv
        obtain ⟨u, y, E', kb', W', h1, h2, h3, h4⟩ := strK_ok h hi (ev_ok hf hv)
        exact wp_of_run (by simp [execOp, h1]) ⟨σ, E', kb', u, y, h2, h3, rfl, h4⟩
      · exact h.elim
    · rename_i c
      split at h
      · rename_i hcal
        split at h
        · rename_i x y t u hargs hats
          split at h
          · rename_i d s hd hs
            obtain ⟨callee, args, argTypes⟩ := c
            simp only at hcal hargs hats
            subst hcal
            have hargs' : args = #[x, y] := by apply Array.ext'; simpa using hargs
            have hats' : argTypes = #[t, u] := by apply Array.ext'; simpa using hats
            subst hargs'; subst hats'
            obtain ⟨v, z, σ', kb', W', h1, h2, h3, h4⟩ := appendK_ok h hi (ev_ok hf hd) (ev_ok hf hs) ty
            exact wp_of_run (by simp [execOp, resolve, invoke, builtin, h1]) ⟨σ', E, kb', v, z, h2, h3, rfl, h4⟩
          · exact h.elim
        · exact h.elim
      · rename_i hcal
        split at h
        · rename_i x y t u hargs hats
          split at h
          · rename_i d s hd hs
            obtain ⟨callee, args, argTypes⟩ := c
            simp only at hcal hargs hats
            subst hcal
            have hargs' : args = #[x, y] := by apply Array.ext'; simpa using hargs
            have hats' : argTypes = #[t, u] := by apply Array.ext'; simpa using hats
            subst hargs'; subst hats'
            obtain ⟨v, z, kb', W', h1, h2, h3, h4⟩ := copyK_ok h hi (ev_ok hf hd) (ev_ok hf hs) u ty
            exact wp_of_run (by simp [execOp, resolve, invoke, builtin, h1]) ⟨σ, E, kb', v, z, h2, h3, rfl, h4⟩
          · exact h.elim
        · exact h.elim
      · rename_i hcal
        split at h
        · rename_i x y t u hargs hats
          split at h
          · rename_i d s hd hs
            obtain ⟨callee, args, argTypes⟩ := c
            simp only at hcal hargs hats
            subst hcal
            have hargs' : args = #[x, y] := by apply Array.ext'; simpa using hargs
            have hats' : argTypes = #[t, u] := by apply Array.ext'; simpa using hats
            subst hargs'; subst hats'
            obtain ⟨kb', W', h1, h2, h3⟩ := deleteK_ok h hi (ev_ok hf hd) (ev_ok hf hs) u ty
            exact wp_of_run (by simp [execOp, resolve, invoke, builtin, h1]) ⟨σ, E, kb', .tup [], .tuple #[], h2, by simp [Den, DenL], rfl, h3⟩
          · exact h.elim
        · exact h.elim
      · rename_i hcal
        split at h
        · rename_i x t hargs hats
          split at h
          · rename_i d hd
            obtain ⟨callee, args, argTypes⟩ := c
            simp only at hcal hargs hats
            subst hcal
            have hargs' : args = #[x] := by apply Array.ext'; simpa using hargs
            have hats' : argTypes = #[t] := by apply Array.ext'; simpa using hats
            subst hargs'; subst hats'
            obtain ⟨kb', W', h1, h2, h3⟩ := clearK_ok h hi (ev_ok hf hd) ty
            exact wp_of_run (by simp [execOp, resolve, invoke, builtin, h1]) ⟨σ, E, kb', .tup [], .tuple #[], h2, by simp [Den, DenL], rfl, h3⟩
          · exact h.elim
        · exact h.elim
      · rename_i hcal
        split at h
        · rename_i x t hargs hats
          split at h
          · rename_i d hd
            obtain ⟨callee, args, argTypes⟩ := c
            simp only at hcal hargs hats
            subst hcal
            have hargs' : args = #[x] := by apply Array.ext'; simpa using hargs
            have hats' : argTypes = #[t] := by apply Array.ext'; simpa using hats
            subst hargs'; subst hats'
            obtain ⟨v, z, h1, h2, h3⟩ := lenMC_ok h hi (ev_ok hf hd) ty
            exact wp_of_run (by simp [execOp, resolve, invoke, builtin, h1]) ⟨σ, E, kb, v, z, Step.refl hi, h2, rfl, h3⟩
          · exact h.elim
        · exact h.elim
      · rename_i fo hcal
        split at h
        · rename_i g cap vs hg hvs
          split at h
          · rename_i hb
            obtain ⟨callee, args, argTypes⟩ := c
            simp only at hcal hvs
            subst hcal
            have hfv := ev_ok hf hg
            simp only [Den] at hfv
            obtain ⟨cs, hfe, hcs⟩ := hfv
            have hD := evs_ok hf hvs
            have hcall := hX g _ kb K h σ E W _ hi (hD.append hcs)
            unfold hasBody at hb
            split at hb
            · rename_i fn hfn
              simp only [Bool.and_eq_true, Bool.not_eq_true', beq_eq_false_iff_ne, ne_eq] at hb
              unfold Oper.wp
              have hrun : (execOp a.eval { dst, op := .call ⟨.value fo, args, argTypes⟩, type := ty, pos, after, guard }).run P W = .ok (.enter g (args.toList.map a.eval ++ cs).toArray) W := by
                have e : (args.toList.map a.eval ++ cs).toArray = args.map a.eval ++ cs.toArray := by apply Array.ext'; simp
                obtain ⟨body, hbody⟩ := Option.isSome_iff_exists.1 hb.1
                rw [e]
                simp [execOp, resolve, Deferred.ofValue, hfe, invoke, callFunc, hfn, hb.2, hbody]
              rw [hrun]
              refine hcall.mono ?_
              rintro e W' ⟨v, r, σ', E', kb', rfl, h1, h2, h3⟩
              exact ⟨σ', E', kb', r, v, h1, h2, rfl, h3⟩
            · cases hb
          · exact h.elim
        · exact h.elim
      · exact h.elim
    · exact h.elim

/-! ### Guards -/
def guardK (ops : Array Oper) (o : Oper) (fr : Fr) (yes no : Fr → Prop) : Prop :=
  match o.guard with
  | none => yes fr
  | some (j, want) => match (ops[j]?).bind (·.dst) with
    | some d => match look fr d with
      | some .tt => match want with | true => yes fr | false => no fr
      | some .ff => match want with | true => no fr | false => yes fr
      | some (.sb b) => (b = true → match want with | true => yes ((d, .tt) :: fr) | false => no ((d, .tt) :: fr)) ∧
          (b = false → match want with | true => no ((d, .ff) :: fr) | false => yes ((d, .ff) :: fr))
      | some (.any (.tuple _)) => no fr
      | _ => False
    | none => no fr

theorem FrOk.turn {σ : Sg} {E : EH} {fr : Fr} {n : Nat} {a : Act} (h : FrOk σ E fr n a) {d : Nat} {v u : V} (hv : look fr d = some v) (hu : ∀ x, Den σ E v x → Den σ E u x) : FrOk σ E ((d, u) :: fr) n a := by
  refine ⟨h.size, h.defers, fun t w hw => ?_⟩
  simp only [look] at hw
  split at hw
  · rename_i hb
    have := Nat.eq_of_beq_eq_true hb
    subst this
    cases hw
    obtain ⟨x, h1, h2⟩ := h.get _ _ hv
    exact ⟨x, h1, hu x h2⟩
  · exact h.get t w hw

theorem guardK_ok {ops : Array Oper} {o : Oper} {fr : Fr} {yes no : Fr → Prop} (h : guardK ops o fr yes no) {σ : Sg} {E : EH} {n : Nat} {a : Act} (hf : FrOk σ E fr n a) :
    ∃ fr', FrOk σ E fr' n a ∧ ((Region.wanted o (yielded ops a.tmps) = true ∧ yes fr') ∨ (Region.wanted o (yielded ops a.tmps) = false ∧ no fr')) := by
  unfold guardK at h
  split at h
  · rename_i hg
    exact ⟨fr, hf, .inl ⟨by simp [Region.wanted, hg], h⟩⟩
  · rename_i j want hg
    split at h
    · rename_i d hd
      have key : ∀ b, a.tmps[d]? = some (.bool b) → Region.wanted o (yielded ops a.tmps) = (b == want) := by
        intro b hb
        simp [Region.wanted, hg, yielded, hd, hb]
      split at h
      · rename_i hl
        obtain ⟨x, h1, h2⟩ := hf.get _ _ hl
        simp only [Den] at h2; subst h2
        cases want
        · exact ⟨fr, hf, .inr ⟨by rw [key _ h1]; rfl, h⟩⟩
        · exact ⟨fr, hf, .inl ⟨by rw [key _ h1]; rfl, h⟩⟩
      · rename_i hl
        obtain ⟨x, h1, h2⟩ := hf.get _ _ hl
        simp only [Den] at h2; subst h2
        cases want
        · exact ⟨fr, hf, .inl ⟨by rw [key _ h1]; rfl, h⟩⟩
        · exact ⟨fr, hf, .inr ⟨by rw [key _ h1]; rfl, h⟩⟩
      · rename_i b hl
        obtain ⟨x, h1, h2⟩ := hf.get _ _ hl
        simp only [Den] at h2; subst h2
        cases b
        · have hf' : FrOk σ E ((d, .ff) :: fr) n a := hf.turn hl (fun x hx => by simpa [Den] using hx)
          have h' := h.2 rfl
          cases want
          · exact ⟨_, hf', .inl ⟨by rw [key _ h1]; rfl, h'⟩⟩
          · exact ⟨_, hf', .inr ⟨by rw [key _ h1]; rfl, h'⟩⟩
        · have hf' : FrOk σ E ((d, .tt) :: fr) n a := hf.turn hl (fun x hx => by simpa [Den] using hx)
          have h' := h.1 rfl
          cases want
          · exact ⟨_, hf', .inr ⟨by rw [key _ h1]; rfl, h'⟩⟩
          · exact ⟨_, hf', .inl ⟨by rw [key _ h1]; rfl, h'⟩⟩
      · rename_i vs hl
        obtain ⟨x, h1, h2⟩ := hf.get _ _ hl
        simp only [Den] at h2; subst h2
        exact ⟨fr, hf, .inr ⟨by simp [Region.wanted, hg, yielded, hd, h1], h⟩⟩
      · exact h.elim
    · rename_i hd
      exact ⟨fr, hf, .inr ⟨by simp [Region.wanted, hg, yielded, hd], h⟩⟩

/-! ### In the order of the text -/
def seqK (P : Program) (X : CallT) (n : Nat) (ops : Array Oper) : List Oper → (Fr → KB → Prop) → Fr → KB → Prop
  | [], K, fr, kb => K fr kb
  | o :: rest, K, fr, kb => guardK ops o fr (fun fr => opK P X o fr kb (fun v kb' => putK n o.dst v fr (fun fr' => seqK P X n ops rest K fr' kb')))
      (fun fr => putK n o.dst (.any undef) fr (fun fr' => seqK P X n ops rest K fr' kb))

/-- Where a walk began. -/
structure Cx where
  σ : Sg
  E : EH
  kb : KB
  W : World

def Hat (c : Cx) (n : Nat) (K : Fr → KB → Prop) (a : Act) (W : World) : Prop :=
  ∃ σ E fr kb, Step c.σ c.E c.kb c.W σ E kb W ∧ FrOk σ E fr n a ∧ K fr kb

theorem After.hat {c : Cx} {n : Nat} {σ : Sg} {E : EH} {kb : KB} {W : World} (hs : Step c.σ c.E c.kb c.W σ E kb W) {a : Act} {fr : Fr} (hf : FrOk σ E fr n a) {o : Oper} {K : Fr → KB → Prop} {a' : Act} {W' : World}
    (h : After σ E kb W a o (fun v kb' => putK n o.dst v fr (fun fr' => K fr' kb')) a' W') : Hat c n K a' W' := by
  obtain ⟨σ', E', kb', v, x, h1, h2, rfl, h3⟩ := h
  obtain ⟨τ, rfl⟩ := h1.pre
  obtain ⟨fr', h4, h5⟩ := putK_ok h3 (hf.mono h1.le) h2
  exact ⟨_, E', fr', kb', hs.trans h1, h4, h5⟩

theorem seqK_ok {P : Program} {X : CallT} (hX : CallOk P X) {c : Cx} {n : Nat} {ops : Array Oper} {Q : Exit → Act → World → Prop} {K : Fr → KB → Prop} (hQ : ∀ a W, Hat c n K a W → Q .normal a W) :
    ∀ {l : List Oper} {a : Act} {W : World}, Hat c n (seqK P X n ops l K) a W → wpList P ops Q l a W
  | [], a, W, h => hQ a W h
  | o :: rest, a, W, h => by
    obtain ⟨σ, E, fr, kb, hs, hf, h⟩ := h
    simp only [seqK] at h
    obtain ⟨fr', hf', h | h⟩ := guardK_ok h hf
    · unfold wpList
      rw [if_pos h.1]
      refine .inl ?_
      exact Oper.wp_mono (fun a' W' ha => seqK_ok hX hQ (ha.hat hs hf')) (opK_ok hX h.2 hf' hs.inv Q)
    · unfold wpList
      rw [if_neg (by simp [h.1])]
      obtain ⟨fr2, h1, h2⟩ := putK_ok h.2 hf' (σ := σ) (E := E) (x := undef) (by simp [Den])
      exact seqK_ok hX hQ ⟨σ, E, fr2, kb, hs, h1, h2⟩

/-! ### Regions that draw their order -/
/-- Whatever order is picked, each step being of a kind G. -/
def wpAnyG (P : Program) (ops : Array Oper) (Q : Exit → Act → World → Prop) (G : Array Bool → Nat → World → World → Prop) : Nat → Array Bool → Act → World → Prop
  | 0, listed, a, w => Region.ready .any ops listed = [] ∧ Q .normal a w
  | fuel + 1, listed, a, w =>
    (Region.ready .any ops listed = [] → Q .normal a w) ∧
    ∀ i ∈ Region.ready .any ops listed, wpOp P ops Q i (fun a' w' => G listed i w w' ∧ wpAnyG P ops Q G fuel (listed.setIfInBounds i true) a' w') a w

theorem wpAnyG.any {P : Program} {ops : Array Oper} {Q : Exit → Act → World → Prop} {G : Array Bool → Nat → World → World → Prop} : ∀ {fuel : Nat} {listed : Array Bool} {a : Act} {w : World}, wpAnyG P ops Q G fuel listed a w → wpAny P .any ops Q fuel listed a w
  | 0, _, _, _, h => h
  | fuel + 1, _, _, _, h => ⟨h.1, fun i hi => wpOp_mono (fun a' w' h' => h'.2.any) (h.2 i hi)⟩

theorem wpAnyG.weaken {P : Program} {ops : Array Oper} {Q : Exit → Act → World → Prop} {G G' : Array Bool → Nat → World → World → Prop} (hG : ∀ l i w w', G l i w w' → G' l i w w') : ∀ {fuel : Nat} {listed : Array Bool} {a : Act} {w : World}, wpAnyG P ops Q G fuel listed a w → wpAnyG P ops Q G' fuel listed a w
  | 0, _, _, _, h => h
  | fuel + 1, _, _, _, h => ⟨h.1, fun i hi => wpOp_mono (fun a' w' h' => ⟨hG _ _ _ _ h'.1, h'.2.weaken hG⟩) (h.2 i hi)⟩

/-- May an operation be taken as soon as it may come up? -/
def eagerB (P : Program) (ops : Array Oper) (i : Nat) : Bool :=
  match ops[i]? with
  | some o => isPure P o.op || (match o.op with | .load .. => true | .lookup .. => true | _ => false)
  | none => false

def maskOf (l : List Nat) : Nat := l.foldr (fun i s => Nat.lor s (2 ^ i)) 0
theorem maskOf_bit : ∀ (l : List Nat) (i : Nat), (maskOf l).testBit i = decide (i ∈ l)
  | [], i => by simp [maskOf]
  | a :: l, i => by
    have ih := maskOf_bit l i
    simp only [maskOf, List.foldr_cons] at ih ⊢
    show (List.foldr (fun i s => Nat.lor s (2 ^ i)) 0 l ||| 2 ^ a).testBit i = _
    rw [Nat.testBit_or, ih, Nat.testBit_two_pow]
    by_cases h : a = i
    · subst h; simp
    · have h' : ¬ i = a := fun e => h e.symm
      simp [h, h']
structure OpI where
  am : Nat
  rd : Nat
  wr : Nat
  eag : Bool

def amL (o : Oper) : List Nat := (o.after.toList.filter (Region.binds .any)).map (·.on)
def opI (P : Program) (ops : Array Oper) (i : Nat) : OpI :=
  match ops[i]? with
  | some o => ⟨maskOf (amL o), maskOf (o.looksAt ops), match o.dst with | some d => 2 ^ d | none => 0, eagerB P ops i⟩
  | none => ⟨0, 0, 0, false⟩
def planOf (P : Program) (ops : Array Oper) : Nat → Nat → List OpI
  | _, 0 => []
  | i, n + 1 => opI P ops i :: planOf P ops (i + 1) n

def orAll : List OpI → Nat → Nat → Nat → Nat
  | [], _, _, acc => acc
  | o :: r, k, m, acc => match Nat.testBit m k with
    | true => orAll r (k + 1) m (Nat.lor acc o.am)
    | false => orAll r (k + 1) m acc
def cloM (plan : List OpI) : Nat → Nat → Nat
  | 0, m => m
  | f + 1, m => cloM plan f (orAll plan 0 m m)
/-- Does operation j wait for operation i by an edge of its own? -/
def direct (ops : Array Oper) (j i : Nat) : Bool :=
  match ops[j]? with
  | some o => o.after.any fun e => Region.binds .any e && e.on == i
  | none => false
theorem am_direct {P : Program} {ops : Array Oper} {j i : Nat} : (opI P ops j).am.testBit i = direct ops j i := by
  unfold opI direct
  split
  · rename_i o ho
    rw [maskOf_bit, Bool.eq_iff_iff, decide_eq_true_eq, Array.any_eq_true']
    simp only [amL, List.mem_map, List.mem_filter, Array.mem_toList_iff, Bool.and_eq_true, beq_iff_eq]
    constructor
    · rintro ⟨e, ⟨h1, h2⟩, h3⟩; exact ⟨e, h1, h2, h3⟩
    · rintro ⟨e, h1, h2, h3⟩; exact ⟨e, ⟨h1, h2⟩, h3⟩
  · simp
/-- Does operation j wait for operation i, by edges one after the other? -/
def waits (P : Program) (ops : Array Oper) (j i : Nat) : Bool := Nat.testBit (cloM (planOf P ops 0 ops.size) 12 (opI P ops j).am) i
theorem planOf_at {P : Program} {ops : Array Oper} : ∀ {n k q : Nat} {o : OpI}, (planOf P ops k n)[q]? = some o → o = opI P ops (k + q)
  | 0, k, q, o, h => by simp [planOf] at h
  | n + 1, k, 0, o, h => by simp [planOf] at h; simpa using h.symm
  | n + 1, k, q + 1, o, h => by
    have := planOf_at (n := n) (k := k + 1) (q := q) (o := o) (by simpa [planOf] using h)
    rw [this]; congr 1; omega
theorem orAll_sub {S : Nat → Prop} : ∀ {l : List OpI} {k m acc : Nat}, (∀ i, acc.testBit i = true → S i) → (∀ q o, l[q]? = some o → m.testBit (k + q) = true → ∀ i, o.am.testBit i = true → S i) → ∀ i, (orAll l k m acc).testBit i = true → S i
  | [], k, m, acc, h1, h2, i, hi => h1 i (by simpa [orAll] using hi)
  | o :: r, k, m, acc, h1, h2, i, hi => by
    have hr : ∀ q o', r[q]? = some o' → m.testBit (k + 1 + q) = true → ∀ i, o'.am.testBit i = true → S i := fun q o' hq hm => h2 (q + 1) o' (by simpa using hq) (by rw [show k + (q + 1) = k + 1 + q by omega]; exact hm)
    simp only [orAll] at hi
    split at hi
    · rename_i hm
      refine orAll_sub (acc := Nat.lor acc o.am) (fun i hi => ?_) hr i hi
      have hi' : (acc ||| o.am).testBit i = true := hi
      rw [Nat.testBit_or, Bool.or_eq_true] at hi'
      rcases hi' with hi' | hi'
      · exact h1 i hi'
      · exact h2 0 o rfl hm i hi'
    · exact orAll_sub h1 hr i hi
theorem cloM_sub {S : Nat → Prop} {plan : List OpI} (hc : ∀ q o, plan[q]? = some o → S q → ∀ i, o.am.testBit i = true → S i) : ∀ {f m : Nat}, (∀ i, m.testBit i = true → S i) → ∀ i, (cloM plan f m).testBit i = true → S i
  | 0, m, h, i, hi => h i (by simpa [cloM] using hi)
  | f + 1, m, h, i, hi => cloM_sub hc (f := f) (m := orAll plan 0 m m) (orAll_sub h (fun q o hq hm => hc q o hq (h q (by simpa using hm)))) i (by simpa [cloM] using hi)
theorem orAll_nil {plan : List OpI} : ∀ {k acc : Nat}, orAll plan k 0 acc = acc := by
  induction plan with
  | nil => intro k acc; rfl
  | cons o r ih => intro k acc; simp [orAll, ih]
theorem cloM_zero {plan : List OpI} : ∀ {f : Nat}, cloM plan f 0 = 0
  | 0 => rfl
  | f + 1 => by simp only [cloM, orAll_nil]; exact cloM_zero
/-- What is listed has all listed for which it waits. -/
def Closed (ops : Array Oper) (listed : Array Bool) : Prop := ∀ k i, listed.getD k false = true → direct ops k i = true → listed.getD i false = true
theorem ready_listed {ops : Array Oper} {listed : Array Bool} {j : Nat} (hj : j ∈ Region.ready .any ops listed) : ∀ i, direct ops j i = true → listed.getD i false = true := by
  obtain ⟨_, o, ho, hall⟩ := mem_ready.1 hj
  intro i h
  unfold direct at h
  rw [ho] at h
  obtain ⟨e, he, hb⟩ := Array.any_eq_true'.1 h
  simp only [Bool.and_eq_true, beq_iff_eq] at hb
  rw [← hb.2]
  exact hall e he hb.1
theorem ready_not {ops : Array Oper} {listed : Array Bool} {j : Nat} (hj : j ∈ Region.ready .any ops listed) : listed.getD j false = false := by
  have h0 := (mem_ready.1 hj).1
  rcases Nat.lt_or_ge j listed.size with h' | h'
  · simp [h'] at h0 ⊢; exact h0
  · simp [Array.getElem?_eq_none h']
theorem waits_listed {P : Program} {ops : Array Oper} {listed : Array Bool} (hc : Closed ops listed) {j : Nat} (hj : ∀ i, direct ops j i = true → listed.getD i false = true) {i : Nat} (h : waits P ops j i = true) : listed.getD i false = true :=
  cloM_sub (S := fun i => listed.getD i false = true) (fun q o hq hS i hi => by
    have := planOf_at hq
    rw [this, am_direct, Nat.zero_add] at hi
    exact hc q i hS hi) (fun i hi => hj i (by rw [am_direct] at hi; exact hi)) i h
theorem Closed.empty {ops : Array Oper} {n : Nat} : Closed ops (Array.replicate n false) := fun k i h => by
  simp only [Array.getD_eq_getD_getElem?, Array.getElem?_replicate] at h
  split at h <;> simp at h
theorem Closed.set {ops : Array Oper} {listed : Array Bool} (hc : Closed ops listed) {j : Nat} (hj : j ∈ Region.ready .any ops listed) : Closed ops (listed.setIfInBounds j true) := by
  have up : ∀ i, listed.getD i false = true → (listed.setIfInBounds j true).getD i false = true := fun i hi => by
    by_cases hji : j = i
    · subst hji; rw [ready_not hj] at hi; cases hi
    · rw [getD_set_ne false hji]; exact hi
  intro k i hk hd
  by_cases hjk : j = k
  · subst hjk; exact up i (ready_listed hj i hd)
  · rw [getD_set_ne false hjk] at hk
    exact up i (hc k i hk hd)
theorem not_waits {P : Program} {ops : Array Oper} {listed : Array Bool} (hc : Closed ops listed) {i j : Nat} (hj : j ∈ Region.ready .any ops listed) (hi : i ∈ Region.ready .any ops listed) : waits P ops j i = false := by
  rw [Bool.eq_false_iff]
  intro h
  have := waits_listed hc (ready_listed hj) h
  rw [ready_not hi] at this; cases this

/-- No operation that may write and waits for i is listed. -/
def noWaiter (P : Program) (ops : Array Oper) (listed : Array Bool) (i : Nat) : Bool := (List.range ops.size).all fun k => !(waits P ops k i) || (eagerB P ops k || !(listed.getD k false))

theorem waits_lt {P : Program} {ops : Array Oper} {k i : Nat} (h : waits P ops k i = true) : k < ops.size := by
  rcases Nat.lt_or_ge k ops.size with h' | h'
  · exact h'
  · unfold waits opI at h
    rw [Array.getElem?_eq_none h'] at h
    simp only [cloM_zero] at h
    simp at h

theorem noWaiter_spec {P : Program} {ops : Array Oper} {listed : Array Bool} {i : Nat} : noWaiter P ops listed i = true ↔ ∀ k, waits P ops k i = true → eagerB P ops k = false → listed.getD k false = false := by
  unfold noWaiter
  simp only [List.all_eq_true, List.mem_range, Bool.or_eq_true, Bool.not_eq_true']
  constructor
  · intro h k hk he
    rcases h k (waits_lt hk) with h1 | h1 | h1
    · rw [hk] at h1; cases h1
    · rw [he] at h1; cases h1
    · exact h1
  · intro h k _
    cases hk : waits P ops k i
    · exact .inl rfl
    · cases he : eagerB P ops k
      · exact .inr (.inr (h k hk he))
      · exact .inr (.inl rfl)

theorem getD_set_false {listed : Array Bool} {j k : Nat} (h : (listed.setIfInBounds j true).getD k false = false) : listed.getD k false = false := by
  by_cases hjk : j = k
  · subst hjk
    rcases Nat.lt_or_ge j listed.size with h' | h'
    · simp [h'] at h
    · simp [Array.getElem?_eq_none h']
  · rw [getD_set_ne false hjk] at h; exact h

theorem noWaiter_set {P : Program} {ops : Array Oper} {listed : Array Bool} {i j : Nat} (h : noWaiter P ops listed i = true) (hw : waits P ops j i = false ∨ eagerB P ops j = true) : noWaiter P ops (listed.setIfInBounds j true) i = true := by
  rw [noWaiter_spec] at h ⊢
  intro k hk he
  have hjk : j ≠ k := fun e => by
    subst e
    rcases hw with hw | hw
    · rw [hk] at hw; cases hw
    · rw [he] at hw; cases hw
  rw [getD_set_ne false hjk]
  exact h k hk he

theorem noWaiter_unset {P : Program} {ops : Array Oper} {listed : Array Bool} {i j : Nat} (h : noWaiter P ops (listed.setIfInBounds j true) i = true) : noWaiter P ops listed i = true := by
  rw [noWaiter_spec] at h ⊢
  exact fun k hk he => getD_set_false (h k hk he)

theorem noWaiter_waits {P : Program} {ops : Array Oper} {listed : Array Bool} {i j : Nat} (hj : j < listed.size) (he : eagerB P ops j = false) (h : noWaiter P ops (listed.setIfInBounds j true) i = true) : waits P ops j i = false := by
  rw [noWaiter_spec] at h
  cases hw : waits P ops j i
  · rfl
  · have := h j hw he
    simp [hj] at this

/-- In each world of C the operation yields v. -/
def YC (P : Program) (ops : Array Oper) (C : World → Prop) (o : Oper) (v : Value) (a : Act) : Prop :=
  (Region.wanted o (yielded ops a.tmps) = true ∧ ∀ w, C w → (execOp a.eval o).run P w = .ok (.value v) w) ∨
  (Region.wanted o (yielded ops a.tmps) = false ∧ v = undef)

theorem YC.of_same {P : Program} {ops : Array Oper} {C : World → Prop} {o : Oper} {v : Value} {a a' : Act} (hy : YC P ops C o v a) (he : execOp a'.eval o = execOp a.eval o)
    (hw : Region.wanted o (yielded ops a'.tmps) = Region.wanted o (yielded ops a.tmps)) : YC P ops C o v a' := by
  unfold YC at *
  rw [he, hw]
  exact hy

theorem YC.wpOp {P : Program} {ops : Array Oper} {Q : Exit → Act → World → Prop} {C : World → Prop} {i : Nat} {o : Oper} {v : Value} {a : Act} (hi : ops[i]? = some o) (hy : YC P ops C o v a)
    {K : Act → World → Prop} {w : World} (hC : C w) (h : K (a.put o.dst v) w) : wpOp P ops Q i K a w := by
  unfold Go.wpOp
  simp only [hi]
  rcases hy with ⟨hw, hv⟩ | ⟨hw, rfl⟩
  · simp only [hw, if_true, Oper.wp, hv w hC, Oper.upon]; exact .inl h
  · simp only [hw, Bool.false_eq_true, if_false]; exact h

theorem wpOp_putC {P : Program} {ops : Array Oper} {Q : Exit → Act → World → Prop} {C : World → Prop} {j : Nat} {oi oj : Oper} {v : Value} (hj : ops[j]? = some oj) (hap : oi.apart ops oj = true)
    (hsi : ∀ cs b, oi.op ≠ .select cs b) (hsj : ∀ cs b, oj.op ≠ .select cs b)
    (hQ : ∀ c a w, Q (.panic c) (a.put oi.dst v) w → Q (.panic c) a w) {K : Act → World → Prop} {a : Act} {w : World}
    (hy : YC P ops C oi v a) (h : wpOp P ops Q j K (a.put oi.dst v) w) :
    wpOp P ops Q j (fun a' w' => YC P ops C oi v a' ∧ K (a'.put oi.dst v) w') a w := by
  obtain ⟨h1, h2, h3⟩ := Oper.apart_spec hap
  have keep : ∀ (a : Act), YC P ops C oi v a → ∀ u, YC P ops C oi v (a.put oj.dst u) := fun a hy u =>
    hy.of_same (execOp_put oi hsi a oj.dst u h3) (wanted_put oi a oj.dst u h3)
  have keepD : ∀ d, YC P ops C oi v { a with defers := d :: a.defers } := fun d => hy.of_same rfl rfl
  unfold wpOp at *
  simp only [hj] at *
  rw [wanted_put oj a oi.dst v h1] at h
  split
  · rename_i hw
    simp only [hw, if_true] at h
    rcases h with h | ⟨hasks, hlets⟩
    case inr => exact .inr ⟨by unfold Oper.asks at *; rw [execOp_put oj hsj a oi.dst v h1] at hasks; exact hasks, hlets⟩
    refine .inl ?_
    unfold Oper.wp at *
    rw [execOp_put oj hsj a oi.dst v h1] at h
    generalize (execOp a.eval oj).run P w = r at *
    cases r with
    | ok n w' =>
      cases n <;> simp only [Oper.upon] at h ⊢
      case value u => exact ⟨keep a hy u, by rw [← Act.put_comm a v u h2]; exact h⟩
      case skip => exact ⟨keep a hy _, by rw [← Act.put_comm a v undef h2]; exact h⟩
      case defer d =>
        refine ⟨keep _ (keepD d) _, ?_⟩
        rw [← Act.put_comm _ v undef h2, ← Act.put_defers]
        exact h
      case enter f args =>
        refine Calls.mono h fun e w'' he => ?_
        cases e with
        | returned u => exact ⟨keep a hy u, by rw [← Act.put_comm a v u h2]; exact he⟩
        | panicked c => exact hQ _ _ _ he
        | outgrown => exact he
      case row row args => exact Rows.mono h fun u w'' he => ⟨keep a hy u, by rw [← Act.put_comm a v u h2]; exact he⟩
    | halt x w' =>
      cases x <;> simp only [Oper.upon] at h ⊢
      case panic u => exact hQ _ _ _ h
  · rename_i hw
    simp only [hw] at h
    exact ⟨keep a hy _, by rw [← Act.put_comm a v undef h2]; exact h⟩

/-- An operation that may come up now may be taken first, if it yields its value in each world of C, and no other one that may come up before it leads out of C. -/
theorem firstG {P : Program} {ops : Array Oper} {Q : Exit → Act → World → Prop} {G : Array Bool → Nat → World → World → Prop} {C : World → Prop} {i : Nat} {oi : Oper} {v : Value} (hi : ops[i]? = some oi)
    (hsel : ∀ (j : Nat) (o : Oper) cs b, ops[j]? = some o → o.op ≠ .select cs b) (hQ : ∀ c a w, Q (.panic c) (a.put oi.dst v) w → Q (.panic c) a w)
    (hG : ∀ l j w w', noWaiter P ops l i = true → waits P ops j i = false → G l j w w' → C w → C w') (hrefl : ∀ l w, G l i w w)
    (hset : ∀ l j w w', j ≠ i → G (l.setIfInBounds i true) j w w' → G l j w w') :
    ∀ (fuel : Nat) (listed : Array Bool) (a : Act) (w : World),
      (∀ j oj, ops[j]? = some oj → j ≠ i → listed.getD j true = false → (∀ e ∈ oj.after, Region.binds .any e = true → e.on ≠ i) → oi.apart ops oj = true) →
      Closed ops listed → i ∈ Region.ready .any ops listed → YC P ops C oi v a → C w → noWaiter P ops listed i = true → waits P ops i i = false →
      wpAnyG P ops Q G fuel (listed.setIfInBounds i true) (a.put oi.dst v) w → wpAnyG P ops Q G (fuel + 1) listed a w := by
  intro fuel
  induction fuel with
  | zero =>
    intro listed a w _ hcl hr hy hC hnw hii H
    refine ⟨fun h => (by rw [h] at hr; cases hr), fun j hj => ?_⟩
    by_cases hji : j = i
    · subst hji; exact hy.wpOp hi hC ⟨hrefl _ w, H⟩
    · have := ready_mono hj hji
      rw [H.1] at this
      cases this
  | succ fuel ih =>
    intro listed a w hfree hcl hr hy hC hnw hii H
    refine ⟨fun h => (by rw [h] at hr; cases hr), fun j hj => ?_⟩
    by_cases hji : j = i
    · subst hji; exact hy.wpOp hi hC ⟨hrefl _ w, H⟩
    · have h1 := H.2 j (ready_mono hj hji)
      obtain ⟨hjun, oj, hoj, hall⟩ := mem_ready.1 hj
      have hnot : ∀ e ∈ oj.after, Region.binds .any e = true → e.on ≠ i := fun e he hb heq => by
        have h1 := hall e he hb
        have h0 := (mem_ready.1 hr).1
        rw [heq] at h1
        rcases Nat.lt_or_ge i listed.size with h' | h'
        · simp [h'] at h0 h1; rw [h0] at h1; cases h1
        · simp [Array.getElem?_eq_none h'] at h1
      have hw := not_waits (P := P) hcl hj hr
      have h2 := wpOp_putC hoj (hfree j oj hoj hji hjun hnot) (fun cs b => hsel i oi cs b hi) (fun cs b => hsel j oj cs b hoj) hQ hy h1
      have hfree' : ∀ k ok, ops[k]? = some ok → k ≠ i → (listed.setIfInBounds j true).getD k true = false →
          (∀ e ∈ ok.after, Region.binds .any e = true → e.on ≠ i) → oi.apart ops ok = true := fun k ok hk hki hun hno => by
        refine hfree k ok hk hki ?_ hno
        by_cases hjk : j = k
        · subst hjk; exact hjun
        · rw [getD_set_ne true hjk] at hun; exact hun
      refine wpOp_mono (fun a' w' h3 => ⟨hset _ _ _ _ hji h3.2.1, ih (listed.setIfInBounds j true) a' w' hfree' (hcl.set hj) (ready_mono hr (Ne.symm hji)) h3.1 (hG _ j w w' (noWaiter_set hnw (.inl hii)) hw h3.2.1 hC) (noWaiter_set hnw (.inl hw)) hii ?_⟩) h2
      rw [Array.setIfInBounds_comm _ _ hji]
      exact h3.2.2

/-- Operations that only read. -/
inductive Rd where
  | load (t : TypeId)
  | look (t : TypeId) (ok : Bool)
def rdOf (o : Oper) : Option (Rd × List Operand) :=
  match o.op with
  | .load t x => some (.load t, [x])
  | .lookup t x k ok => some (.look t ok, [x, k])
  | _ => none
def rdRun : Rd → List Value → Sem Value
  | .load t, [a] => Instr.loadAt t a
  | .look t ok, [m, k] => Instr.lookup t m k ok
  | _, _ => stuck ""
def rdK (P : Program) (r : Rd) (ads : List V) (kb : KB) (K : V → Prop) : Prop :=
  match r, ads with
  | .load t, [ad] => loadK P t ad kb K
  | .look t ok, [m, k] => lookupK P t m k ok kb K
  | _, _ => False
theorem rdK_ok {P : Program} {r : Rd} {ads : List V} {kb : KB} {K : V → Prop} (h : rdK P r ads kb K) {σ : Sg} {E : EH} {W : World} (hi : Inv σ E kb W) {as : List Value} (hd : DenL σ E ads as) :
    ∃ v x, (rdRun r as).run P W = .ok x W ∧ Den σ E v x ∧ K v := by
  unfold rdK at h
  split at h <;> try exact h.elim
  · simp only [DenL] at hd
    obtain ⟨x, xs, rfl, h1, rfl⟩ := hd
    exact loadK_ok h hi h1
  · simp only [DenL] at hd
    obtain ⟨x, xs, rfl, h1, y, ys, rfl, h2, rfl⟩ := hd
    exact lookupK_ok h hi h1 h2
theorem rdOf_exec {o : Oper} {r : Rd} {xs : List Operand} (h : rdOf o = some (r, xs)) (ρ : Operand → Value) : execOp ρ o = (do pure (.value (← rdRun r (xs.map ρ)))) := by
  unfold rdOf at h
  split at h <;> try (cases h; done)
  · rename_i hop; cases h; unfold execOp; rw [hop]; rfl
  · rename_i hop; cases h; unfold execOp; rw [hop]; rfl
def evsD (fr : Fr) : List Operand → Option (List V)
  | [] => some []
  | x :: xs => match ev fr x, evsD fr xs with
    | some v, some vs => some (v :: vs)
    | _, _ => none
theorem evsD_ok {σ : Sg} {E : EH} {fr : Fr} {n : Nat} {a : Act} (h : FrOk σ E fr n a) : ∀ {xs : List Operand} {vs : List V}, evsD fr xs = some vs → DenL σ E vs (xs.map a.eval)
  | [], vs, hv => by simp [evsD] at hv; subst hv; exact .nil
  | x :: xs, vs, hv => by
    simp only [evsD] at hv
    split at hv
    · rename_i v us h1 h2
      cases hv
      exact .cons (ev_ok h h1) (evsD_ok h h2)
    · cases hv

/-- A read that was taken early: the operation's number, what it is, of what, what was read. -/
structure Lock where
  i : Nat
  r : Rd
  ads : List V
  v : V

structure EqI (a b : Int) : Prop where
  h : a = b
mutual
/-- The same value, part by part. -/
def veq : V → V → Prop
  | .int k n, .int k' m => match decide (k = k') with | true => EqI n m | false => False
  | .lit k n, .lit k' m => match decide (k = k') with | true => EqI n m | false => False
  | .sb a, .sb b => a = b
  | .tt, .tt => True
  | .ff, .ff => True
  | .agg l, .agg m => veqL l m
  | .any (.slice none 0 0), .any (.slice none 0 0) => True
  | a, b => a = b
def veqL : List V → List V → Prop
  | [], [] => True
  | [a], [b] => veq a b
  | a :: l, b :: m => veq a b ∧ veqL l m
  | _, _ => False
end
mutual
theorem veq_ok : ∀ {a b : V}, veq a b → a = b
  | .int k n, b, h => by
    cases b <;> simp only [veq, reduceCtorEq] at h
    split at h
    · rename_i hk; rw [of_decide_eq_true hk, h.h]
    · exact h.elim
  | .lit k n, b, h => by
    cases b <;> simp only [veq, reduceCtorEq] at h
    split at h
    · rename_i hk; rw [of_decide_eq_true hk, h.h]
    · exact h.elim
  | .sb a, b, h => by cases b <;> simp only [veq, reduceCtorEq] at h; rw [h]
  | .tt, b, h => by cases b <;> simp only [veq, reduceCtorEq] at h; rfl
  | .ff, b, h => by cases b <;> simp only [veq, reduceCtorEq] at h; rfl
  | .agg l, b, h => by
    cases b <;> simp only [veq, reduceCtorEq] at h
    rw [veqL_ok h]
  | .any u, b, h => by
    unfold veq at h
    split at h
    all_goals first
      | exact h
      | assumption
      | (rename_i e; cases e; done)
  | .ptr .., b, h | .pa .., b, h | .sl .., b, h | .pe .., b, h | .pw .., b, h | .e0, b, h | .sa .., b, h | .se .., b, h | .ipe .., b, h | .dat _, b, h | .tup _, b, h | .fn .., b, h | .mp _, b, h | .ch _, b, h | .arr .., b, h => by simpa only [veq] using h
theorem veqL_ok : ∀ {l m : List V}, veqL l m → l = m
  | [], m, h => by cases m <;> simp only [veqL] at h; rfl
  | [a], m, h => by
    match m with
    | [] => simp only [veqL] at h
    | [b] => simp only [veqL] at h; rw [veq_ok h]
    | b :: c :: m => simp only [veqL] at h; exact h.2.elim
  | a :: a' :: l, m, h => by
    match m with
    | [] => simp only [veqL] at h
    | [b] => simp only [veqL] at h; exact h.2.elim
    | b :: c :: m => simp only [veqL] at h; rw [veq_ok h.1, veqL_ok h.2]
end

/-- Data that are values. -/
structure PlainD (cs : List D) : Prop where
  h : ∀ d ∈ cs, ∃ v, d = .val v
def conjD : List (List D) → Prop
  | [] => True
  | [p] => PlainD p
  | p :: ps => PlainD p ∧ conjD ps
theorem conjD_mem : ∀ {ps : List (List D)}, conjD ps → ∀ p ∈ ps, PlainD p
  | [p], h, q, hq => by rw [List.mem_singleton] at hq; subst hq; exact h
  | p :: r :: ps, h, q, hq => by
    rcases List.mem_cons.1 hq with rfl | hq
    · exact h.1
    · exact conjD_mem h.2 q hq
def detAL : List V → Option (List (List D))
  | [] => some []
  | v :: vs => match detAL vs with
    | some ps => match v with
      | .arr _ cs => some (cs :: ps)
      | v => match V.det v with | true => some ps | false => none
    | none => none
/-- Does it stand for one value, where these data are values? -/
def V.detA : V → Option (List (List D))
  | .agg l => detAL l
  | _ => none
theorem plainD_den {E E' : EH} : ∀ {cs : List D}, (∀ d ∈ cs, ∃ v, d = .val v) → ∀ {xs ys : List Value}, DenD E cs xs → DenD E' cs ys → xs = ys
  | [], _, xs, ys, h, k => by simp only [DenD] at h k; rw [h, k]
  | d :: cs, hp, xs, ys, h, k => by
    simp only [DenD] at h k
    obtain ⟨x, xs', rfl, h1, h2⟩ := h
    obtain ⟨y, ys', rfl, k1, k2⟩ := k
    obtain ⟨v, rfl⟩ := hp d List.mem_cons_self
    simp only [RepD] at h1 k1
    rw [h1.1, k1.1, plainD_den (fun d hd => hp d (List.mem_cons_of_mem _ hd)) h2 k2]
def DetV (v : V) : Prop := ∀ (σ τ : Sg) (E E' : EH) (x y : Value), Den σ E v x → Den (σ ++ τ) E' v y → x = y
theorem detAL_den {σ τ : Sg} {E E' : EH} : ∀ {vs : List V} {ps : List (List D)}, detAL vs = some ps → (∀ p ∈ ps, PlainD p) → ∀ {xs ys : List Value}, DenC σ E vs xs → DenC (σ ++ τ) E' vs ys → xs = ys
  | [], _, _, _, xs, ys, h, k => by simp only [DenC] at h k; rw [h, k]
  | v :: vs, ps, hd, hp, xs, ys, h, k => by
    simp only [detAL] at hd
    split at hd <;> try (cases hd; done)
    rename_i qs hqs
    simp only [DenC] at h k
    obtain ⟨x1, x2, rfl, h1, h2⟩ := h
    obtain ⟨y1, y2, rfl, k1, k2⟩ := k
    split at hd
    · rename_i m cs
      simp only [Option.some.injEq] at hd
      subst hd
      rw [detAL_den hqs (fun p hq => hp p (List.mem_cons_of_mem _ hq)) h2 k2]
      rcases h1 with ⟨x, rfl, _, h1⟩ | ⟨m', cs', e, _, h1⟩
      · simp only [Den] at h1
      rcases k1 with ⟨y, rfl, _, k1⟩ | ⟨m'', cs'', e2, _, k1⟩
      · simp only [Den] at k1
      cases e
      cases e2
      rw [plainD_den (hp _ List.mem_cons_self).h h1 k1]
    · split at hd <;> try (cases hd; done)
      rename_i hne _ hdet
      simp only [Option.some.injEq] at hd
      subst hd
      rw [detAL_den hqs hp h2 k2]
      rcases h1 with ⟨x, rfl, _, h1⟩ | ⟨m', cs', e, _, _⟩
      · rcases k1 with ⟨y, rfl, _, k1⟩ | ⟨m', cs', e, _, _⟩
        · rw [det_den hdet h1 k1]
        · exact absurd e (hne m' cs')
      · exact absurd e (hne m' cs')
theorem detA_den {v : V} {ps : List (List D)} (h : V.detA v = some ps) (hp : conjD ps) : DetV v := fun σ τ E E' x y h1 h2 => by
  unfold V.detA at h
  split at h <;> try (cases h; done)
  simp only [Den] at h1 h2
  obtain ⟨xs, rfl, h1⟩ := h1
  obtain ⟨ys, rfl, h2⟩ := h2
  rw [detAL_den h (conjD_mem hp) h1 h2]
/-- What was read early would be read now. -/
def immRd : Rd → List V → Bool
  | .load _, [.ipe _ _] => true
  | _, _ => false
def locksK (P : Program) (ops : Array Oper) (j : Nat) (kb : KB) : List Lock → Prop → Prop
  | [], K => K
  | ⟨i, r, ads, u⟩ :: ls, K => match waits P ops j i with
    | true => locksK P ops j kb ls K
    | false => match V.det u with
      | true => rdK P r ads kb (fun v => veq v u) ∧ locksK P ops j kb ls K
      | false => match V.detA u with
        | some ps => (conjD ps ∧ rdK P r ads kb (fun v => veq v u)) ∧ locksK P ops j kb ls K
        | none => match immRd r ads with
          | true => rdK P r ads kb (fun _ => True) ∧ locksK P ops j kb ls K
          | false => False

def conj : List Nat → (Nat → Prop) → Prop
  | [], _ => True
  | [i], p => p i
  | i :: is, p => p i ∧ conj is p
theorem conj_mem : ∀ {l : List Nat} {p : Nat → Prop}, conj l p → ∀ i ∈ l, p i
  | [], _, _, i, hi => by cases hi
  | [j], p, h, i, hi => by simp at hi; subst hi; exact h
  | j :: k :: l, p, h, i, hi => by
    rcases List.mem_cons.1 hi with rfl | hi
    · exact h.1
    · exact conj_mem (l := k :: l) h.2 i hi

/-! #### Sets of operations, as numbers -/
def subB (a m : Nat) : Bool := Nat.beq (Nat.land a m) a
def apartB (a m : Nat) : Bool := Nat.beq (Nat.land a m) 0
theorem subB_ok {l : List Nat} {m : Nat} : subB (maskOf l) m = true ↔ ∀ i ∈ l, m.testBit i = true := by
  unfold subB
  constructor
  · intro h i hi
    have h := Nat.eq_of_beq_eq_true h
    have h1 : (maskOf l &&& m).testBit i = (maskOf l).testBit i := congrArg (fun z => z.testBit i) h
    rw [Nat.testBit_and, maskOf_bit, decide_eq_true hi] at h1
    simpa using h1
  · intro h
    have : Nat.land (maskOf l) m = maskOf l := by
      apply Nat.eq_of_testBit_eq
      intro i
      show (maskOf l &&& m).testBit i = _
      rw [Nat.testBit_and, maskOf_bit]
      by_cases hi : i ∈ l
      · simp [hi, h i hi]
      · simp [hi]
    rw [this]; exact Nat.beq_refl _
theorem apartB_ok {l : List Nat} {m : Nat} (h : apartB (maskOf l) m = true) : ∀ i ∈ l, m.testBit i = false := by
  intro i hi
  have h := Nat.eq_of_beq_eq_true h
  have h1 : (maskOf l &&& m).testBit i = (0 : Nat).testBit i := congrArg (fun z => z.testBit i) h
  rw [Nat.testBit_and, maskOf_bit, decide_eq_true hi] at h1
  simpa using h1

def apM (x y : OpI) : Bool := apartB x.wr (Nat.lor y.rd y.wr) && apartB y.wr x.rd
/-- May operation i be taken ahead of all others that are not listed? -/
def freeB (x : OpI) (i m : Nat) : List OpI → Nat → Bool
  | [], _ => true
  | y :: ys, j => match Nat.testBit m j with
    | true => match Nat.testBit y.am i, y.eag with
      | true, false => false
      | _, _ => freeB x i m ys (j + 1)
    | false => match Nat.beq j i with
      | true => match Nat.testBit y.am i with
        | true => false
        | false => freeB x i m ys (j + 1)
      | false => match Nat.testBit y.am i with
        | true => freeB x i m ys (j + 1)
        | false => match apM x y with
          | true => freeB x i m ys (j + 1)
          | false => false

def findE (all : List OpI) : List OpI → Nat → Nat → Option Nat
  | [], _, _ => none
  | p :: ps, i, m => match p.eag, Nat.testBit m i with
    | true, false => match subB p.am m with
      | true => match freeB p i m all 0 with
        | true => some i
        | false => findE all ps (i + 1) m
      | false => findE all ps (i + 1) m
    | _, _ => findE all ps (i + 1) m
def readyL : List OpI → Nat → Nat → List Nat
  | [], _, _ => []
  | p :: ps, i, m => match Nat.testBit m i with
    | true => readyL ps (i + 1) m
    | false => match subB p.am m with
      | true => i :: readyL ps (i + 1) m
      | false => readyL ps (i + 1) m

structure MaskOk (ops : Array Oper) (listed : Array Bool) (m : Nat) : Prop where
  size : listed.size = ops.size
  bit : ∀ i, i < ops.size → m.testBit i = listed.getD i false

theorem MaskOk.set {ops : Array Oper} {listed : Array Bool} {m : Nat} (h : MaskOk ops listed m) (i : Nat) : MaskOk ops (listed.setIfInBounds i true) (Nat.lor m (2 ^ i)) := by
  refine ⟨by simp [h.size], fun k hk => ?_⟩
  show (m ||| 2 ^ i).testBit k = _
  rw [Nat.testBit_or, Nat.testBit_two_pow, h.bit k hk]
  by_cases hik : i = k
  · subst hik
    have : i < listed.size := by rw [h.size]; exact hk
    simp [this]
  · rw [getD_set_ne false hik]
    simp [hik]

theorem MaskOk.ready {P : Program} {ops : Array Oper} {listed : Array Bool} {m : Nat} (h : MaskOk ops listed m) (hlt : ∀ o ∈ ops, ∀ e ∈ o.after, e.on < ops.size) {i : Nat} {o : Oper} (ho : ops[i]? = some o) : i ∈ Region.ready .any ops listed ↔ m.testBit i = false ∧ subB (opI P ops i).am m = true := by
  have hi : i < ops.size := (Array.getElem?_eq_some_iff.1 ho).1
  have hil : i < listed.size := by rw [h.size]; exact hi
  rw [mem_ready]
  simp only [opI, ho, subB_ok]
  have e1 : (listed.getD i true = false) ↔ m.testBit i = false := by
    rw [h.bit i hi]
    simp [hil]
  rw [e1]
  constructor
  · rintro ⟨h1, o', ho', hall⟩
    cases ho'
    refine ⟨h1, fun k hk => ?_⟩
    simp only [amL, List.mem_map, List.mem_filter] at hk
    obtain ⟨e, ⟨he, hb⟩, rfl⟩ := hk
    rw [h.bit e.on (hlt o (Array.mem_of_getElem? ho) e (by simpa using he))]
    exact hall e (by simpa using he) hb
  · rintro ⟨h1, hall⟩
    refine ⟨h1, o, rfl, fun e he hb => ?_⟩
    have := hall e.on (List.mem_map.2 ⟨e, List.mem_filter.2 ⟨by simpa using he, hb⟩, rfl⟩)
    rwa [h.bit e.on (hlt o (Array.mem_of_getElem? ho) e he)] at this

theorem opI_eag {P : Program} {ops : Array Oper} {j : Nat} : (opI P ops j).eag = eagerB P ops j := by
  unfold opI
  split
  · rfl
  · rename_i h; simp [eagerB, h]

theorem apartB_two {d m : Nat} (h : apartB (2 ^ d) m = true) : m.testBit d = false := by
  have h := Nat.eq_of_beq_eq_true h
  have h1 : (2 ^ d &&& m).testBit d = (0 : Nat).testBit d := congrArg (fun z => z.testBit d) h
  rw [Nat.testBit_and, Nat.testBit_two_pow] at h1
  simpa using h1

theorem apM_ok {P : Program} {ops : Array Oper} {i j : Nat} {oi oj : Oper} (hi : ops[i]? = some oi) (hj : ops[j]? = some oj) (h : apM (opI P ops i) (opI P ops j) = true) : oi.apart ops oj = true := by
  simp only [apM, opI, hi, hj, Bool.and_eq_true] at h
  obtain ⟨h1, h2⟩ := h
  unfold Oper.apart
  rw [Bool.and_eq_true]
  constructor
  · split
    · rename_i d hd
      rw [hd] at h1
      have h3 := apartB_two h1
      have h4 : (maskOf (oj.looksAt ops) ||| (match oj.dst with | some d => 2 ^ d | none => 0)).testBit d = false := h3
      rw [Nat.testBit_or, Bool.or_eq_false_iff, maskOf_bit] at h4
      simp only [decide_eq_false_iff_not] at h4
      simp only [Bool.and_eq_true, Bool.not_eq_true', List.contains_eq_mem, decide_eq_false_iff_not, bne_iff_ne, ne_eq]
      refine ⟨h4.1, fun e => ?_⟩
      rw [e] at h4
      simp at h4
    · rfl
  · split
    · rename_i d hd
      rw [hd] at h2
      have h3 := apartB_two h2
      rw [maskOf_bit] at h3
      simp only [decide_eq_false_iff_not] at h3
      simp [h3]
    · rfl

theorem freeB_ok {P : Program} {ops : Array Oper} {i m : Nat} : ∀ {n k : Nat}, freeB (opI P ops i) i m (planOf P ops k n) k = true → ∀ j, k ≤ j → j < k + n →
    (m.testBit j = true → direct ops j i = true → eagerB P ops j = true) ∧ (m.testBit j = false → (j = i ∧ direct ops i i = false) ∨ (j ≠ i ∧ (direct ops j i = true ∨ apM (opI P ops i) (opI P ops j) = true)))
  | 0, k, _, j, h1, h2 => by omega
  | n + 1, k, h, j, h1, h2 => by
    simp only [planOf, freeB] at h
    have rest : freeB (opI P ops i) i m (planOf P ops (k + 1) n) (k + 1) = true → k ≠ j → (m.testBit j = true → direct ops j i = true → eagerB P ops j = true) ∧ (m.testBit j = false → (j = i ∧ direct ops i i = false) ∨ (j ≠ i ∧ (direct ops j i = true ∨ apM (opI P ops i) (opI P ops j) = true))) :=
      fun hr hkj => freeB_ok hr j (by omega) (by omega)
    split at h
    · rename_i hb
      split at h
      · cases h
      · rename_i hne
        by_cases hkj : k = j
        · subst hkj
          refine ⟨fun _ hw => ?_, fun hf => by rw [hb] at hf; cases hf⟩
          cases he : eagerB P ops k
          · exact (hne (by rw [am_direct]; exact hw) (by rw [opI_eag]; exact he)).elim
          · rfl
        · exact rest h hkj
    · rename_i hb
      split at h
      · rename_i hki
        have hki' := Nat.eq_of_beq_eq_true hki
        split at h
        · cases h
        · rename_i hw
          rw [am_direct] at hw
          by_cases hkj : k = j
          · subst hkj
            exact ⟨fun ht => (by rw [hb] at ht; cases ht), fun _ => .inl ⟨hki', by rw [← hki'] at hw ⊢; exact hw⟩⟩
          · exact rest h hkj
      · rename_i hki
        have hne : ∀ {x : Nat}, k = x → x ≠ i := fun e e' => by subst e; subst e'; simp at hki
        split at h
        · rename_i hw
          rw [am_direct] at hw
          by_cases hkj : k = j
          · exact ⟨fun ht => (by rw [← hkj, hb] at ht; cases ht), fun _ => .inr ⟨hne hkj, .inl (by rw [← hkj]; exact hw)⟩⟩
          · exact rest h hkj
        · split at h
          · rename_i hap
            by_cases hkj : k = j
            · exact ⟨fun ht => (by rw [← hkj, hb] at ht; cases ht), fun _ => .inr ⟨hne hkj, .inr (by rw [← hkj]; exact hap)⟩⟩
            · exact rest h hkj
          · cases h

theorem findE_ok {P : Program} {ops : Array Oper} {m : Nat} {all : List OpI} : ∀ {n i k : Nat}, findE all (planOf P ops i n) i m = some k → k < i + n ∧ (opI P ops k).eag = true ∧ m.testBit k = false ∧ subB (opI P ops k).am m = true ∧ freeB (opI P ops k) k m all 0 = true
  | 0, i, k, h => by simp [planOf, findE] at h
  | n + 1, i, k, h => by
    simp only [planOf, findE] at h
    have rest : findE all (planOf P ops (i + 1) n) (i + 1) m = some k → k < i + (n + 1) ∧ (opI P ops k).eag = true ∧ m.testBit k = false ∧ subB (opI P ops k).am m = true ∧ freeB (opI P ops k) k m all 0 = true := fun h => by
      obtain ⟨a, b⟩ := findE_ok h
      exact ⟨by omega, b⟩
    split at h
    · rename_i h1 h2
      split at h
      · rename_i h3
        split at h
        · rename_i h4
          cases h
          exact ⟨by omega, h1, h2, h3, h4⟩
        · exact rest h
      · exact rest h
    · exact rest h

theorem readyL_ok {P : Program} {ops : Array Oper} {m : Nat} : ∀ {n i k : Nat}, i ≤ k → k < i + n → m.testBit k = false → subB (opI P ops k).am m = true → k ∈ readyL (planOf P ops i n) i m
  | 0, i, k, h1, h2, _, _ => by omega
  | n + 1, i, k, h1, h2, h3, h4 => by
    simp only [planOf, readyL]
    by_cases hik : i = k
    · subst hik
      rw [h3, h4]
      simp
    · have := readyL_ok (n := n) (i := i + 1) (by omega) (by omega) h3 h4
      split
      · exact this
      · split
        · exact List.mem_cons_of_mem _ this
        · exact this

theorem readyL_mem {P : Program} {ops : Array Oper} {m : Nat} : ∀ {n i k : Nat}, k ∈ readyL (planOf P ops i n) i m → i ≤ k ∧ k < i + n ∧ m.testBit k = false ∧ subB (opI P ops k).am m = true
  | 0, i, k, h => by simp [planOf, readyL] at h
  | n + 1, i, k, h => by
    simp only [planOf, readyL] at h
    have rest : k ∈ readyL (planOf P ops (i + 1) n) (i + 1) m → i ≤ k ∧ k < i + (n + 1) ∧ m.testBit k = false ∧ subB (opI P ops k).am m = true := fun h => by
      obtain ⟨a, b, c, d⟩ := readyL_mem h
      exact ⟨by omega, by omega, c, d⟩
    split at h
    · exact rest h
    · rename_i h1
      split at h
      · rename_i h2
        rcases List.mem_cons.1 h with rfl | h
        · exact ⟨Nat.le_refl _, by omega, h1, h2⟩
        · exact rest h
      · exact rest h

theorem MaskOk.free {P : Program} {ops : Array Oper} {listed : Array Bool} {m : Nat} (h : MaskOk ops listed m) {i : Nat} {oi : Oper} (ho : ops[i]? = some oi) (hc : freeB (opI P ops i) i m (planOf P ops 0 ops.size) 0 = true) :
    (∀ j oj, ops[j]? = some oj → j ≠ i → listed.getD j true = false → (∀ e ∈ oj.after, Region.binds .any e = true → e.on ≠ i) → oi.apart ops oj = true) := by
  intro j oj hj hji hun hno
  have hjl : j < ops.size := (Array.getElem?_eq_some_iff.1 hj).1
  have hjl' : j < listed.size := by rw [h.size]; exact hjl
  have hw : direct ops j i = false := by
    unfold direct
    rw [hj]
    rw [Bool.eq_false_iff]
    intro hw
    obtain ⟨e, he, hb⟩ := Array.any_eq_true'.1 hw
    simp only [Bool.and_eq_true, beq_iff_eq] at hb
    exact hno e he hb.1 hb.2
  have hbit : m.testBit j = false := by
    rw [h.bit j hjl]
    simp [hjl'] at hun ⊢
    exact hun
  rcases (freeB_ok hc j (Nat.zero_le j) (by omega)).2 hbit with ⟨h1, _⟩ | ⟨_, h2 | h2⟩
  · exact absurd h1 hji
  · rw [hw] at h2; cases h2
  · exact apM_ok ho hj h2

theorem Closed.noWaiter {P : Program} {ops : Array Oper} {listed : Array Bool} (hc : Closed ops listed) {i : Nat} (hi : i ∈ Region.ready .any ops listed) : noWaiter P ops listed i = true ∧ waits P ops i i = false := by
  constructor
  · rw [noWaiter_spec]
    intro k hk he
    cases hb : listed.getD k false
    · rfl
    · have := waits_listed hc (fun q hq => hc k q hb hq) hk
      rw [ready_not hi] at this; cases this
  · exact not_waits hc hi hi

def edgesB (ops : Array Oper) : Bool := ops.all fun o => o.after.all fun e => Nat.blt e.on ops.size
theorem edgesB_ok {ops : Array Oper} (h : edgesB ops = true) : ∀ o ∈ ops, ∀ e ∈ o.after, e.on < ops.size := by
  intro o ho e he
  have h1 := Array.all_eq_true_iff_forall_mem.1 h o ho
  have h2 := Array.all_eq_true_iff_forall_mem.1 h1 e he
  exact Nat.lt_of_succ_le (Nat.le_of_ble_eq_true h2)

/-- Is it a load from a block of ours of what may be one of several values? Such a load is not taken early. -/
def deferB (ops : Array Oper) (i : Nat) (fr : Fr) (kb : KB) : Bool :=
  match ops[i]? with
  | some o => match rdOf o with
    | some (.load _, xs) => match evsD fr xs with
      | some [.ptr b off] => match kb[b]? with
        | some (.cells l) => match pieceAt l off with
          | some v => !(V.det v)
          | none => false
        | _ => false
      | _ => false
    | _ => false
  | none => false
/-- Is an operation left that isn't to be taken early, and that doesn't wait for operation i? -/
def moving (plan : List OpI) (m i : Nat) : List OpI → Nat → Bool
  | [], _ => false
  | o :: r, k => match Nat.testBit m k, o.eag with
    | false, false => match Nat.testBit (cloM plan 12 o.am) i with
      | false => true
      | true => moving plan m i r (k + 1)
    | _, _ => moving plan m i r (k + 1)
def pickE (plan : List OpI) (ops : Array Oper) (m : Nat) (fr : Fr) (kb : KB) : Option Nat :=
  match findE plan plan 0 m with
  | some i => match deferB ops i fr kb with
    | true => match moving plan m i plan 0 with
      | true => none
      | false => some i
    | false => some i
  | none => none
theorem pickE_some {plan : List OpI} {ops : Array Oper} {m : Nat} {fr : Fr} {kb : KB} {i : Nat} (h : pickE plan ops m fr kb = some i) : findE plan plan 0 m = some i := by
  unfold pickE at h
  split at h
  · rename_i k hk
    split at h
    · split at h
      · cases h
      · cases h; exact hk
    · cases h; exact hk
  · cases h
def drawK (P : Program) (X : CallT) (n : Nat) (ops : Array Oper) (plan : List OpI) : Nat → Nat → List Lock → (Fr → KB → Prop) → Fr → KB → Prop
  | 0, m, _, K, fr, kb => match readyL plan 0 m with | [] => K fr kb | _ => False
  | fuel + 1, m, locks, K, fr, kb =>
    match pickE plan ops m fr kb with
    | some i => match ops[i]? with
      | some o => guardK ops o fr
          (fun fr => match rdOf o with
            | some (r, xs) => match evsD fr xs with
              | some ads => rdK P r ads kb (fun v => putK n o.dst v fr (fun fr' => drawK P X n ops plan fuel (Nat.lor m (2 ^ i)) (⟨i, r, ads, v⟩ :: locks) K fr' kb))
              | none => False
            | none => match isPure P o.op with
              | true => pureK P o fr kb (fun v => putK n o.dst v fr (fun fr' => drawK P X n ops plan fuel (Nat.lor m (2 ^ i)) locks K fr' kb))
              | false => False)
          (fun fr => putK n o.dst (.any undef) fr (fun fr' => drawK P X n ops plan fuel (Nat.lor m (2 ^ i)) locks K fr' kb))
      | none => False
    | none => match readyL plan 0 m with
      | [] => K fr kb
      | r :: rs => conj (r :: rs) (fun j => match ops[j]?, eagerB P ops j with
        | some o, false => guardK ops o fr
            (fun fr => opK P X o fr kb (fun v kb' => locksK P ops j kb' locks (putK n o.dst v fr (fun fr' => drawK P X n ops plan fuel (Nat.lor m (2 ^ j)) (locks.filter fun l => !(waits P ops j l.i)) K fr' kb'))))
            (fun fr => putK n o.dst (.any undef) fr (fun fr' => drawK P X n ops plan fuel (Nat.lor m (2 ^ j)) (locks.filter fun l => !(waits P ops j l.i)) K fr' kb))
        | some o, true => guardK ops o fr
            (fun fr => match rdOf o with
              | some (r, xs) => match evsD fr xs with
                | some ads => rdK P r ads kb (fun v => putK n o.dst v fr (fun fr' => drawK P X n ops plan fuel (Nat.lor m (2 ^ j)) locks K fr' kb))
                | none => False
              | none => match isPure P o.op with
                | true => pureK P o fr kb (fun v => putK n o.dst v fr (fun fr' => drawK P X n ops plan fuel (Nat.lor m (2 ^ j)) locks K fr' kb))
                | false => False)
            (fun fr => putK n o.dst (.any undef) fr (fun fr' => drawK P X n ops plan fuel (Nat.lor m (2 ^ j)) locks K fr' kb))
        | none, _ => False)

/-- What stands in a run for a load that was taken early. -/
structure RLock where
  i : Nat
  s : Sem Next
  x : Value

def GL (P : Program) (ops : Array Oper) (L : List RLock) (listed : Array Bool) (j : Nat) (w w' : World) : Prop :=
  ∀ l ∈ L, noWaiter P ops listed l.i = true → waits P ops j l.i = false → l.s.run P w = .ok (.value l.x) w → l.s.run P w' = .ok (.value l.x) w'

def LockOk (P : Program) (σ : Sg) (E : EH) (W : World) (l : Lock) (r : RLock) : Prop :=
  r.i = l.i ∧ r.s.run P W = .ok (.value r.x) W ∧ Den σ E l.v r.x ∧ ∃ as, DenL σ E l.ads as ∧ r.s = (do pure (.value (← rdRun l.r as)))
def LocksOk (P : Program) (ops : Array Oper) (listed : Array Bool) (σ : Sg) (E : EH) (W : World) (ls : List Lock) (L : List RLock) : Prop :=
  ∀ r ∈ L, noWaiter P ops listed r.i = true → ∃ l ∈ ls, LockOk P σ E W l r

def KeepOk (P : Program) (kb : KB) (l : Lock) : Prop := (DetV l.v ∧ rdK P l.r l.ads kb (fun v => veq v l.v)) ∨ (immRd l.r l.ads = true ∧ rdK P l.r l.ads kb (fun _ => True))
theorem locksK_ok {P : Program} {ops : Array Oper} {j : Nat} {kb : KB} : ∀ {ls : List Lock} {R : Prop}, locksK P ops j kb ls R → R ∧ ∀ l ∈ ls, waits P ops j l.i = false → KeepOk P kb l
  | [], R, h => ⟨h, fun l hl => by cases hl⟩
  | l :: ls, R, h => by
    simp only [locksK] at h
    split at h
    · rename_i hw
      obtain ⟨h1, h2⟩ := locksK_ok h
      refine ⟨h1, fun l' hl' hw' => ?_⟩
      rcases List.mem_cons.1 hl' with rfl | hl'
      · rw [hw] at hw'; cases hw'
      · exact h2 l' hl' hw'
    · split at h
      · rename_i hx
        obtain ⟨h1, h2⟩ := locksK_ok h.2
        refine ⟨h1, fun l' hl' hw' => ?_⟩
        rcases List.mem_cons.1 hl' with rfl | hl'
        · exact .inl ⟨fun _ _ _ _ _ _ h k => det_den hx h k, h.1⟩
        · exact h2 l' hl' hw'
      · split at h
        · rename_i ps hps
          obtain ⟨h1, h2⟩ := locksK_ok h.2
          refine ⟨h1, fun l' hl' hw' => ?_⟩
          rcases List.mem_cons.1 hl' with rfl | hl'
          · exact .inl ⟨detA_den hps h.1.1, h.1.2⟩
          · exact h2 l' hl' hw'
        · split at h
          · rename_i hx
            obtain ⟨h1, h2⟩ := locksK_ok h.2
            refine ⟨h1, fun l' hl' hw' => ?_⟩
            rcases List.mem_cons.1 hl' with rfl | hl'
            · exact .inr ⟨hx, h.1⟩
            · exact h2 l' hl' hw'
          · exact h.elim

/-- What an early load read is read in the new world, too. -/
theorem LockOk.step {P : Program} {σ τ : Sg} {E E' : EH} {W W' : World} {l : Lock} {r : RLock} (h : LockOk P σ E W l r) (hE : E.le E') {kb' : KB} (hi0 : ∀ b o, E b = some o → W.heap[b]? = some o) (hi : Inv (σ ++ τ) E' kb' W') (hk : KeepOk P kb' l) : LockOk P (σ ++ τ) E' W' l r := by
  obtain ⟨h1, h2, h3, a, h4, h5⟩ := h
  rcases hk with ⟨hv, hl⟩ | ⟨hm, hl⟩
  case inr =>
    obtain ⟨li, lr, lads, lv⟩ := l
    simp only at h1 h3 h4 h5 hm hl
    unfold immRd at hm
    split at hm
    case h_2 => cases hm
    rename_i t e fld
    simp only [DenL] at h4
    obtain ⟨y, ys, rfl, h6, rfl⟩ := h4
    simp only [rdK] at hl
    obtain ⟨x, hx⟩ := load_imm hl h6
    have e1 := hx hi0
    have e2 := hx (W := W') (fun b o hb => hi.imm b o (hE b o hb))
    have e3 : r.x = x := by
      rw [h5] at h2
      simp [rdRun, e1] at h2
      exact h2.symm
    refine ⟨h1, ?_, Den.mono hE h3, [y], DenL.mono hE (by simp only [DenL]; exact ⟨y, [], rfl, h6, rfl⟩), h5⟩
    rw [h5, e3]
    simp [rdRun, e2]
  obtain ⟨v, x, k1, k2, k3⟩ := rdK_ok hl hi (DenL.mono hE h4)
  replace k3 := veq_ok k3
  subst k3
  have e1 := hv _ _ _ _ _ _ h3 k2
  refine ⟨h1, ?_, Den.mono hE h3, a, DenL.mono hE h4, h5⟩
  rw [h5, e1]
  simp [k1]

theorem drawK_ok {P : Program} {X : CallT} (hX : CallOk P X) {c : Cx} {n : Nat} {ops : Array Oper} (hns : Region.noSelect ops = true) (hed : edgesB ops = true) {Q : Exit → Act → World → Prop} {K : Fr → KB → Prop} (hQ : ∀ a W, Hat c n K a W → Q .normal a W)
    (hQp : ∀ ch a a' w, Q (.panic ch) a w → Q (.panic ch) a' w) : ∀ (fuel : Nat) (m : Nat) (listed : Array Bool) (locks : List Lock) (fr : Fr) (kb : KB) (a : Act) (W : World) (σ : Sg) (E : EH) (L : List RLock), MaskOk ops listed m → Closed ops listed →
      Step c.σ c.E c.kb c.W σ E kb W → FrOk σ E fr n a → LocksOk P ops listed σ E W locks L → drawK P X n ops (planOf P ops 0 ops.size) fuel m locks K fr kb → wpAnyG P ops Q (GL P ops L) fuel listed a W := by
  have hlt := edgesB_ok hed
  have hempty : ∀ {m : Nat} {listed : Array Bool}, MaskOk ops listed m → readyL (planOf P ops 0 ops.size) 0 m = [] → Region.ready .any ops listed = [] := by
    intro m listed hm h0
    apply List.eq_nil_iff_forall_not_mem.2
    intro k hk
    obtain ⟨_, o, ho, _⟩ := mem_ready.1 hk
    obtain ⟨h1, h2⟩ := (hm.ready hlt ho).1 hk
    have := readyL_ok (ops := ops) (n := ops.size) (i := 0) (Nat.zero_le k) (by have := (Array.getElem?_eq_some_iff.1 ho).1; omega) h1 h2
    rw [h0] at this; cases this
  intro fuel
  induction fuel with
  | zero =>
    intro m listed locks fr kb a W σ E L hm hcl hs hf hL h
    simp only [drawK] at h
    split at h
    · rename_i hr; exact ⟨hempty hm hr, hQ a W ⟨σ, E, fr, kb, hs, hf, h⟩⟩
    · exact h.elim
  | succ fuel ih =>
    intro m listed locks fr kb a W σ E L hm hcl hs hf hL h
    simp only [drawK] at h
    have hsel := Region.noSelect_spec hns
    split at h
    · rename_i i hfind
      obtain ⟨hil, heag, hbit, hsub, hcm⟩ := findE_ok (pickE_some hfind)
      split at h
      case h_2 => exact h.elim
      rename_i o ho
      have hmem := (hm.ready hlt ho).2 ⟨hbit, hsub⟩
      have hfree := hm.free ho hcm
      obtain ⟨hnw, hii⟩ := hcl.noWaiter (P := P) hmem
      have heag' : eagerB P ops i = true := by rw [← opI_eag]; exact heag
      have hset : ∀ (L : List RLock) l j w w', j ≠ i → GL P ops L (l.setIfInBounds i true) j w w' → GL P ops L l j w w' := by
        intro L l j w w' _ hg r hr hn hw hrun
        exact hg r hr (noWaiter_set hn (.inr heag')) hw hrun
      have hkeep : ∀ {ls : List Lock}, LocksOk P ops listed σ E W ls L → LocksOk P ops (listed.setIfInBounds i true) σ E W ls L := fun hl r hr hn => hl r hr (noWaiter_unset hn)
      obtain ⟨fr', hf', ⟨hw, h⟩ | ⟨hw, h⟩⟩ := guardK_ok h hf
      · split at h
        · rename_i rr xs hrd
          split at h
          case h_2 => exact h.elim
          rename_i ads had
          obtain ⟨v, y, h1, h2, h3⟩ := rdK_ok h hs.inv (evsD_ok hf' had)
          obtain ⟨fr2, hf2, h4⟩ := putK_ok h3 hf' h2
          have hse := rdOf_exec hrd a.eval
          have hW : (execOp a.eval o).run P W = .ok (.value y) W := by rw [hse]; simp [h1]
          have ih1 := ih (Nat.lor m (2 ^ i)) (listed.setIfInBounds i true) (⟨i, rr, ads, v⟩ :: locks) fr2 kb (a.put o.dst y) W σ E (⟨i, execOp a.eval o, y⟩ :: L) (hm.set i) (hcl.set hmem) hs hf2 (fun r hr hn => by
            rcases List.mem_cons.1 hr with rfl | hr
            · exact ⟨_, List.mem_cons_self, rfl, hW, h2, _, evsD_ok hf' had, hse⟩
            · obtain ⟨l, hl, hl2⟩ := hkeep hL r hr hn
              exact ⟨l, List.mem_cons_of_mem _ hl, hl2⟩) h4
          exact wpAnyG.weaken (fun l j w w' hg r hr => hg r (List.mem_cons_of_mem _ hr)) (firstG (C := fun w => (execOp a.eval o).run P w = .ok (.value y) w) ho hsel (fun ch a w => hQp ch _ a w)
            (fun l j w w' hn hwt hg hC => hg ⟨i, execOp a.eval o, y⟩ List.mem_cons_self hn hwt hC) (fun l w r hr hn hw hrun => hrun) (hset _) fuel listed a W hfree hcl hmem (.inl ⟨hw, fun w hC => hC⟩) hW hnw hii ih1)
        · split at h
          case h_2 => exact h.elim
          obtain ⟨v, y, h1, h2, h3⟩ := pureK_ok h hf' hs.inv
          obtain ⟨fr2, hf2, h4⟩ := putK_ok h3 hf' h2
          have ih1 := ih (Nat.lor m (2 ^ i)) (listed.setIfInBounds i true) locks fr2 kb (a.put o.dst y) W σ E L (hm.set i) (hcl.set hmem) hs hf2 (hkeep hL) h4
          exact firstG (C := fun _ => True) ho hsel (fun ch a w => hQp ch _ a w) (fun _ _ _ _ _ _ _ _ => trivial) (fun l w r hr hn hw hrun => hrun) (hset _) fuel listed a W hfree hcl hmem (.inl ⟨hw, fun w _ => h1 w⟩) trivial hnw hii ih1
      · obtain ⟨fr2, hf2, h4⟩ := putK_ok h hf' (σ := σ) (E := E) (x := undef) (by simp [Den])
        have ih1 := ih (Nat.lor m (2 ^ i)) (listed.setIfInBounds i true) locks fr2 kb (a.put o.dst undef) W σ E L (hm.set i) (hcl.set hmem) hs hf2 (hkeep hL) h4
        exact firstG (C := fun _ => True) ho hsel (fun ch a w => hQp ch _ a w) (fun _ _ _ _ _ _ _ _ => trivial) (fun l w r hr hn hw hrun => hrun) (hset _) fuel listed a W hfree hcl hmem (.inr ⟨hw, rfl⟩) trivial hnw hii ih1
    · split at h
      · rename_i hr
        have hr' := hempty hm hr
        exact ⟨fun _ => hQ a W ⟨σ, E, fr, kb, hs, hf, h⟩, by rw [hr']; simp⟩
      · rename_i r rs hr
        refine ⟨fun h0 => ?_, fun j hj => ?_⟩
        · obtain ⟨_, g2, g3, g4⟩ := readyL_mem (ops := ops) (m := m) (n := ops.size) (i := 0) (k := r) (by rw [hr]; exact List.mem_cons_self)
          have hrl : r < ops.size := by omega
          have := (hm.ready hlt (Array.getElem?_eq_getElem hrl)).2 ⟨g3, g4⟩
          rw [h0] at this; cases this
        have hltj : j < listed.size := by
          obtain ⟨h0, _⟩ := mem_ready.1 hj
          rcases Nat.lt_or_ge j listed.size with h' | h'
          · exact h'
          · simp [Array.getElem?_eq_none h'] at h0
        have hjr : j ∈ r :: rs := by
          obtain ⟨_, o, ho, _⟩ := mem_ready.1 hj
          obtain ⟨h1, h2⟩ := (hm.ready hlt ho).1 hj
          rw [← hr]
          exact readyL_ok (ops := ops) (n := ops.size) (i := 0) (Nat.zero_le j) (by rw [← hm.size]; omega) h1 h2
        have h := conj_mem h j hjr
        split at h
        case h_3 => exact h.elim
        case h_2 =>
          rename_i o ho heag
          unfold wpOp
          simp only [ho]
          have hkeep2 : LocksOk P ops (listed.setIfInBounds j true) σ E W locks L := fun r hr hn => hL r hr (noWaiter_unset hn)
          obtain ⟨fr', hf', ⟨hw, h⟩ | ⟨hw, h⟩⟩ := guardK_ok h hf
          · rw [if_pos hw]
            split at h
            · rename_i rr xs hrd
              split at h
              case h_2 => exact h.elim
              rename_i ads had
              obtain ⟨v, y, h1, h2, h3⟩ := rdK_ok h hs.inv (evsD_ok hf' had)
              obtain ⟨fr2, hf2, h4⟩ := putK_ok h3 hf' h2
              have hse := rdOf_exec hrd a.eval
              have hW : (execOp a.eval o).run P W = .ok (.value y) W := by rw [hse]; simp [h1]
              exact .inl (wp_of_run hW ⟨fun r hr hn hwt hrun => hrun, ih (Nat.lor m (2 ^ j)) (listed.setIfInBounds j true) locks fr2 kb _ W σ E L (hm.set j) (hcl.set hj) hs hf2 hkeep2 h4⟩)
            · split at h
              case h_2 => exact h.elim
              obtain ⟨v, y, h1, h2, h3⟩ := pureK_ok h hf' hs.inv
              obtain ⟨fr2, hf2, h4⟩ := putK_ok h3 hf' h2
              exact .inl (wp_of_run (h1 W) ⟨fun r hr hn hwt hrun => hrun, ih (Nat.lor m (2 ^ j)) (listed.setIfInBounds j true) locks fr2 kb _ W σ E L (hm.set j) (hcl.set hj) hs hf2 hkeep2 h4⟩)
          · rw [if_neg (by simp [hw])]
            obtain ⟨fr2, hf2, h4⟩ := putK_ok h hf' (σ := σ) (E := E) (x := undef) (by simp [Den])
            exact ⟨fun r hr hn hwt hrun => hrun, ih (Nat.lor m (2 ^ j)) (listed.setIfInBounds j true) locks fr2 kb _ W σ E L (hm.set j) (hcl.set hj) hs hf2 hkeep2 h4⟩
        rename_i o ho heag
        unfold wpOp
        simp only [ho]
        obtain ⟨fr', hf', ⟨hw, h⟩ | ⟨hw, h⟩⟩ := guardK_ok h hf
        · rw [if_pos hw]
          refine .inl (Oper.wp_mono (fun a' W' ha => ?_) (opK_ok hX h hf' hs.inv Q))
          obtain ⟨σ', E', kb', v, x, k1, k2, rfl, k3⟩ := ha
          obtain ⟨k4, k5⟩ := locksK_ok k3
          obtain ⟨τ, rfl⟩ := k1.pre
          obtain ⟨fr2, hf2, h4⟩ := putK_ok k4 (hf'.mono k1.le) k2
          refine ⟨fun r hr hn hwt hrun => ?_, ih (Nat.lor m (2 ^ j)) (listed.setIfInBounds j true) _ fr2 kb' _ W' _ E' L (hm.set j) (hcl.set hj) (hs.trans k1) hf2 (fun r hr hn => ?_) h4⟩
          · obtain ⟨l, hl, hlo⟩ := hL r hr hn
            have hwl : waits P ops j l.i = false := by rw [← hlo.1]; exact hwt
            exact ((hlo.step k1.le hs.inv.imm k1.inv (k5 l hl hwl)).2.1)
          · obtain ⟨l, hl, hlo⟩ := hL r hr (noWaiter_unset hn)
            have hwl : waits P ops j l.i = false := by rw [← hlo.1]; exact noWaiter_waits hltj heag hn
            exact ⟨l, List.mem_filter.2 ⟨hl, by simp [hwl]⟩, hlo.step k1.le hs.inv.imm k1.inv (k5 l hl hwl)⟩
        · rw [if_neg (by simp [hw])]
          obtain ⟨fr2, hf2, h4⟩ := putK_ok h hf' (σ := σ) (E := E) (x := undef) (by simp [Den])
          exact ⟨fun r hr hn hwt hrun => hrun, ih (Nat.lor m (2 ^ j)) (listed.setIfInBounds j true) _ fr2 kb _ W σ E L (hm.set j) (hcl.set hj) hs hf2 (fun r hr hn => by
            obtain ⟨l, hl, hlo⟩ := hL r hr (noWaiter_unset hn)
            have hwl : waits P ops j l.i = false := by rw [← hlo.1]; exact noWaiter_waits hltj heag hn
            exact ⟨l, List.mem_filter.2 ⟨hl, by simp [hwl]⟩, hlo⟩) h4⟩
end Vc
