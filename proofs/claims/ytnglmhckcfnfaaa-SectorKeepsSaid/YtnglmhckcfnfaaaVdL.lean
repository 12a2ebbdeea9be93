/- Code, loops, functions. -/
import Derived.Test.YtnglmhckcfnfaaaVd1
set_option linter.unusedSimpArgs false
set_option linter.unusedVariables false
namespace Vc
open Go

def runCode (P : Program) (X : CallT) : (Nat → Option LI) → Nat → Nat → Code → (Exit → Fr → KB → Prop) → Fr → KB → Prop
  | T, n0, n, .skip, Q, fr, kb => Q .normal fr kb
  | T, n0, n, .label _, Q, fr, kb => Q .normal fr kb
  | T, n0, n, .region _ ops false, Q, fr, kb => match Region.noSelect ops with
    | true => seqK P X n ops ops.toList (Q .normal) fr kb
    | false => seqXK P X n ops ops.toList (Q .normal) fr kb
  | T, n0, n, .region _ ops true, Q, fr, kb => match Region.noSelect ops, edgesB ops with
    | true, true => drawK P X n ops (planOf P ops 0 ops.size) ops.size 0 [] (Q .normal) fr kb
    | _, _ => False
  | T, n0, n, .seq x y, Q, fr, kb => match (firstReg y).bind (fun r => T (1000 + r)) with
    | some li => runCode P X T n0 n x (fun e fr kb => match e with | .normal => atHead n0 li.nils li.live fr kb (fun s => At li s) | e => Q e fr kb) fr kb ∧
        li.all (fun i => runCode P X (subT li i T) n0 n y Q (li.live.zip (li.st i).1) (li.st i).2)
    | none => runCode P X T n0 n x (fun e fr kb => match e with | .normal => runCode P X T n0 n y Q fr kb | e => Q e fr kb) fr kb
  | T, n0, n, .cond c x y, Q, fr, kb => match ev fr c with
    | some .tt => runCode P X T n0 n x Q fr kb
    | some .ff => runCode P X T n0 n y Q fr kb
    | some (.sb b) => (b = true → runCode P X T n0 n x Q fr kb) ∧ (b = false → runCode P X T n0 n y Q fr kb)
    | _ => False
  | T, n0, n, .block id x, Q, fr, kb => runCode P X T n0 n x (fun e fr kb => match e with
    | .exit i => match Nat.beq i id with | true => Q .normal fr kb | false => Q (.exit i) fr kb
    | e => Q e fr kb) fr kb
  | T, n0, n, .loop x, Q, fr, kb => match (firstReg x).bind T with
    | some li => atHead n0 li.nils li.live fr kb (fun s => At li s ∧
        li.all (fun i => runCode P X (subT li i T) n0 n x (fun e fr kb => match e with
          | .normal => atHead n0 li.nils li.live fr kb (fun s => Nx li i s)
          | e => Q e fr kb) (li.live.zip (li.st i).1) (li.st i).2))
    | none => iter (fun Q fr kb => runCode P X T n0 n x Q fr kb) Q 600 fr kb
  | T, n0, n, .scope x, Q, fr, kb => runCode P X T n0 n x (fun e fr kb => match e with | .goto _ => False | e => Q e fr kb) fr kb
  | T, n0, n, .rangeFunc g ps assign body, Q, fr, kb => match ev fr g with
    | some (.fn f cap) => match hasBody P f with
      | true => match (firstReg body).bind (fun r => T (2000 + r)) with
        | none => ∀ l, X f (.any (.func (.yield l) #[] #[]) :: cap) kb (fun _ kb' => Q .normal fr kb')
        | some lo => ∀ l, runFnY P X (.func (.yield l) #[] #[]) (roundY P X n ps assign body fr) (lo.itl l) f (.any (.func (.yield l) #[] #[]) :: cap) kb (fun _ kb' => Q .normal fr kb')
      | false => False
    | _ => False
  | T, n0, n, .exit id, Q, fr, kb => Q (.exit id) fr kb
  | T, n0, n, .ret, Q, fr, kb => Q .ret fr kb
  | _, _, _, _, _, _, _ => False

theorem runCode_ok {P : Program} {X : CallT} (hX : CallOk P X) (hm : P.follows .mixedOrders = true) {c : Cx} {n : Nat} : ∀ (code : Code) {T : Nat → Option LI} {Q : Exit → Fr → KB → Prop} {Q' : Exit → Act → World → Prop}, QOk c n Q Q' → ∀ {a : Act} {W : World},
    Hat c n (runCode P X T c.σ.length n code Q) a W → code.wp P Q' a W
  | .skip, T, Q, Q', hQ, a, W, h => wp_skip (hQ.hat _ _ _ h)
  | .label _, T, Q, Q', hQ, a, W, h => wp_label (hQ.hat _ _ _ h)
  | .exit id, T, Q, Q', hQ, a, W, h => wp_exit (hQ.hat _ _ _ h)
  | .ret, T, Q, Q', hQ, a, W, h => wp_ret (hQ.hat _ _ _ h)
  | .region id ops false, T, Q, Q', hQ, a, W, h => by
    cases hns : Region.noSelect ops with
    | true =>
      simp only [runCode, hns] at h
      exact wp_region_list (seqK_ok hX (fun a W h => hQ.hat _ _ _ h) h)
    | false =>
      simp only [runCode, hns] at h
      exact regionX_ok hX (fun a W h => hQ.hat _ _ _ h) h
  | .region id ops true, T, Q, Q', hQ, a, W, h => by
    obtain ⟨σ, E, fr, kb, hs, hf, h⟩ := h
    simp only [runCode] at h
    split at h <;> try exact h.elim
    rename_i hns hed
    refine wp_region_any hm ?_
    have hd := (hs.trans (Inv.drew hs.inv))
    exact (drawK_ok hX hns hed (Q := Q') (K := Q .normal) (fun a W h => hQ.hat _ _ _ h) hQ.pan ops.size 0 _ [] fr kb a _ σ E [] ⟨by simp, fun i hi => by simp [hi]⟩ Closed.empty hd hf (fun r hr => by cases hr) h).any
  | .seq x y, T, Q, Q', hQ, a, W, h => by
    cases hcut : (firstReg y).bind (fun r => T (1000 + r)) with
    | some li =>
      obtain ⟨σ, E, fr, kb, hs, hf, h⟩ := h
      simp only [runCode, hcut] at h
      obtain ⟨hx, hy⟩ := h
      refine wp_seq (runCode_ok hX hm x (Q' := Exit.then (y.wp P Q') Q') (Q := fun e fr kb => match e with | .normal => atHead c.σ.length li.nils li.live fr kb (fun s => At li s) | e => Q e fr kb) ⟨fun e a W h => ?_, fun ch a a' w h => hQ.pan ch a a' w h⟩ ⟨σ, E, fr, kb, hs, hf, hx⟩)
      cases e with
      | normal =>
        obtain ⟨σ2, E2, fr2, kb2, hs2, hf2, h2⟩ := h
        obtain ⟨s, ⟨⟨i, rfl⟩⟩, hh⟩ := atHead_ok h2 hs2 hf2
        refine runCode_ok (T := subT li i T) hX hm y hQ ?_
        obtain ⟨σ3, E3, fr3, kb3, k1, k2, rfl, rfl⟩ := hh
        exact ⟨σ3, E3, _, _, k1, k2, li.all_ok _ hy i⟩
      | exit id => exact hQ.hat _ _ _ h
      | goto l => exact hQ.hat _ _ _ h
      | ret => exact hQ.hat _ _ _ h
      | panic ch => exact hQ.hat _ _ _ h
      | outgrown => exact hQ.hat _ _ _ h
    | none =>
    replace h : Hat c n (runCode P X T c.σ.length n x (fun e fr kb => match e with | .normal => runCode P X T c.σ.length n y Q fr kb | e => Q e fr kb)) a W := by
      obtain ⟨σ, E, fr, kb, hs, hf, h⟩ := h
      simp only [runCode, hcut] at h
      exact ⟨σ, E, fr, kb, hs, hf, h⟩
    refine wp_seq (runCode_ok hX hm x (Q' := Exit.then (y.wp P Q') Q') (Q := fun e fr kb => match e with | .normal => runCode P X T c.σ.length n y Q fr kb | e => Q e fr kb) ⟨fun e a W h => ?_, fun ch a a' w h => hQ.pan ch a a' w h⟩ h)
    cases e with
    | normal => exact runCode_ok hX hm y hQ h
    | exit id => exact hQ.hat _ _ _ h
    | goto l => exact hQ.hat _ _ _ h
    | ret => exact hQ.hat _ _ _ h
    | panic ch => exact hQ.hat _ _ _ h
    | outgrown => exact hQ.hat _ _ _ h
  | .cond o x y, T, Q, Q', hQ, a, W, h => by
    obtain ⟨σ, E, fr, kb, hs, hf, h⟩ := h
    simp only [runCode] at h
    split at h
    · rename_i hc
      have := ev_ok hf hc
      simp only [Den] at this
      exact wp_cond_true this (runCode_ok hX hm x hQ ⟨σ, E, fr, kb, hs, hf, h⟩)
    · rename_i hc
      have := ev_ok hf hc
      simp only [Den] at this
      exact wp_cond_false this (runCode_ok hX hm y hQ ⟨σ, E, fr, kb, hs, hf, h⟩)
    · rename_i b hc
      have := ev_ok hf hc
      simp only [Den] at this
      exact wp_cond_split this (fun hb => runCode_ok hX hm x hQ ⟨σ, E, fr, kb, hs, hf, h.1 hb⟩) (fun hb => runCode_ok hX hm y hQ ⟨σ, E, fr, kb, hs, hf, h.2 hb⟩)
    · exact h.elim
  | .block id x, T, Q, Q', hQ, a, W, h => by
    refine wp_block (runCode_ok hX hm x (Q' := Exit.inBlock id Q') (Q := fun e fr kb => match e with
      | .exit i => match Nat.beq i id with | true => Q .normal fr kb | false => Q (.exit i) fr kb
      | e => Q e fr kb) ⟨fun e a W h => ?_, fun ch a a' w h => hQ.pan ch a a' w h⟩ h)
    cases e with
    | normal => exact hQ.hat _ _ _ h
    | exit i =>
      simp only [Exit.inBlock]
      simp only at h
      cases hb : Nat.beq i id with
      | true =>
        rw [if_pos (Nat.eq_of_beq_eq_true hb)]
        simp only [hb] at h
        exact hQ.hat _ _ _ h
      | false =>
        rw [if_neg (fun e => by subst e; simp at hb)]
        simp only [hb] at h
        exact hQ.hat _ _ _ h
    | goto l => exact hQ.hat _ _ _ h
    | ret => exact hQ.hat _ _ _ h
    | panic ch => exact hQ.hat _ _ _ h
    | outgrown => exact hQ.hat _ _ _ h
  | .loop x, T, Q, Q', hQ, a, W, h => by
    obtain ⟨σ, E, fr, kb, hs, hf, h⟩ := h
    simp only [runCode] at h
    split at h
    case h_2 =>
      refine wp_loop_ghost (fun k a w => Hat c n (iter (fun Q fr kb => runCode P X T c.σ.length n x Q fr kb) Q k) a w) 600 ⟨σ, E, fr, kb, hs, hf, h⟩ ?_
      intro k a' w' hk
      cases k with
      | zero => obtain ⟨_, _, _, _, _, _, h⟩ := hk; exact h.elim
      | succ k =>
        refine runCode_ok hX hm x (Q' := Exit.then (fun a' w' => ∃ n', n' < k + 1 ∧ Hat c n (iter (fun Q fr kb => runCode P X T c.σ.length n x Q fr kb) Q n') a' w') Q')
          (Q := fun e fr kb => match e with | .normal => iter (fun Q fr kb => runCode P X T c.σ.length n x Q fr kb) Q k fr kb | e => Q e fr kb) ⟨fun e a W h => ?_, fun ch a a' w h => hQ.pan ch a a' w h⟩ hk
        cases e with
        | normal => exact ⟨k, by omega, h⟩
        | exit id => exact hQ.hat _ _ _ h
        | goto l => exact hQ.hat _ _ _ h
        | ret => exact hQ.hat _ _ _ h
        | panic ch => exact hQ.hat _ _ _ h
        | outgrown => exact hQ.hat _ _ _ h
    rename_i li hli
    obtain ⟨s, ⟨⟨⟨i, rfl⟩⟩, hall0⟩, hh⟩ := atHead_ok h hs hf
    refine wp_loop_ghost (fun k a w => ∃ i, li.μ i = k ∧ Hat c n (fun fr' kb' => fr' = li.live.zip (li.st i).1 ∧ kb' = (li.st i).2) a w) (li.μ i) ⟨i, rfl, hh⟩ ?_
    rintro k a' w' ⟨j, rfl, σ', E', fr', kb', hs', hf', rfl, rfl⟩
    refine runCode_ok hX hm x (T := subT li j T) (Q' := Exit.then (fun a' w' => ∃ n', n' < li.μ j ∧ ∃ i, li.μ i = n' ∧ Hat c n (fun fr' kb' => fr' = li.live.zip (li.st i).1 ∧ kb' = (li.st i).2) a' w') Q') (Q := fun e fr kb => match e with
          | .normal => atHead c.σ.length li.nils li.live fr kb (fun s => Nx li j s)
          | e => Q e fr kb) ⟨fun e a W h => ?_, fun ch a a' w h => hQ.pan ch a a' w h⟩ ⟨σ', E', _, _, hs', hf', li.all_ok _ hall0 j⟩
    cases e with
    | normal =>
      obtain ⟨σ2, E2, fr2, kb2, hs2, hf2, h2⟩ := h
      obtain ⟨s, ⟨⟨j', rfl, hlt⟩⟩, hh⟩ := atHead_ok h2 hs2 hf2
      exact ⟨_, hlt, j', rfl, hh⟩
    | exit id => exact hQ.hat _ _ _ h
    | goto l => exact hQ.hat _ _ _ h
    | ret => exact hQ.hat _ _ _ h
    | panic ch => exact hQ.hat _ _ _ h
    | outgrown => exact hQ.hat _ _ _ h
  | .rangeFunc g ps assign body, T, Q, Q', hQ, a, W, h => by
    obtain ⟨σ, E, fr, kb, hs, hf, h⟩ := h
    simp only [runCode] at h
    split at h <;> try exact h.elim
    rename_i f cap hg
    split at h <;> try exact h.elim
    rename_i hb
    unfold hasBody at hb
    split at hb <;> try (cases hb; done)
    rename_i fn hfn
    simp only [Bool.and_eq_true, Bool.not_eq_true', beq_eq_false_iff_ne, ne_eq] at hb
    obtain ⟨fbody, hbody⟩ := Option.isSome_iff_exists.1 hb.1
    have hfv := ev_ok hf hg
    simp only [Den] at hfv
    obtain ⟨cs, hfe, hcs⟩ := hfv
    refine wpIn_wide.1 (wpIn_rangeFunc (F := Fence.wide) (n := 0) fun fnid _ => ?_)
    let r : Loop := { state := .ready, pending := none, fn := fnid, tmps := a.tmps, params := ps, assign, body, defers := W.heap.size }
    obtain ⟨E1, hst, hE1, hE1n, hl⟩ := Step.entered hs.inv r
    have hres : ∀ w, (resolve a.eval (rangeCall g (W.heap.size + 1)) 0).run P w = .ok { target := .fn (.func f) cs.toArray, args := #[.func (.yield (W.heap.size + 1)) #[] #[]] } w := by
      intro w
      have hc : a.eval (.const (.func (.yield (W.heap.size + 1)) #[] #[])) = .func (.yield (W.heap.size + 1)) #[] #[] := rfl
      simp [resolve, rangeCall, Deferred.ofValue, hfe, hc]
    have hinv : ∀ w, (invoke (.fn (.func f) cs.toArray) #[.func (.yield (W.heap.size + 1)) #[] #[]]).run P w = .ok (.enter f (#[.func (.yield (W.heap.size + 1)) #[] #[]] ++ cs.toArray)) w := by
      intro w
      simp [invoke, callFunc, hfn, hb.2, hbody]
    refine ⟨W.heap.size + 1, [{ target := .collected W.heap.size, args := #[] }], _, _, _, f, _, _, run_enterLoop_outer fnid a.tmps ps assign body, hres _, fun _ _ => trivial, hinv _, by simp [Fence.wide], ?_⟩
    refine callsIn_wide.2 ?_
    have hcs' := DenL.mono (τ := []) hst.le hcs
    rw [List.append_nil] at hcs'
    have hno : ¬ Owns σ kb (W.heap.size + 1) := fun ho => by have := hs.inv.lt ho; omega
    have hdl : DenL σ E1 (V.any (.func (.yield (W.heap.size + 1)) #[] #[]) :: cap) (.func (.yield (W.heap.size + 1)) #[] #[] :: cs) := DenL.cons (by simp [Den]) hcs'
    have hcall : Calls P f (Value.func (.yield (W.heap.size + 1)) #[] #[] :: cs).toArray ((W.alloc (.deferred (some []))).alloc (.loop r)) (fun e W' => ∃ v rv σ' E' kb', e = .returned v ∧ Step σ E1 kb ((W.alloc (.deferred (some []))).alloc (.loop r)) σ' E' kb' W' ∧ Den σ' E' rv v ∧ Q .normal fr kb') := by
      split at h
      · exact hX f _ kb _ (h (W.heap.size + 1)) σ E1 _ _ hst.inv hdl
      · rename_i lo _
        refine runFnY_ok hX (h (W.heap.size + 1)) hst.inv hdl ?_
        refine roundY_ok hX hm (c := ⟨σ, E1.strip, kb, (W.alloc (.deferred (some []))).alloc (.loop r)⟩) (r := r) (ds := []) hl hno (by simp only [EH.strip, hE1n]) rfl rfl ?_
        refine ⟨hf.size, MkOk.nil _, fun t v hv => ?_⟩
        obtain ⟨x, k1, k2⟩ := hf.get t v hv
        have k3 := Den.mono (τ := []) hst.le k2
        have k4 := Den.cmono (τ := []) E1.strip_cle k3
        rw [List.append_nil, List.append_nil] at k4
        exact ⟨x, k1, k4⟩
    have earg : (#[.func (.yield (W.heap.size + 1)) #[] #[]] ++ cs.toArray : Array Value) = ((Value.func (.yield (W.heap.size + 1)) #[] #[]) :: cs).toArray := by apply Array.ext'; simp
    rw [earg]
    refine hcall.mono ?_
    rintro e W3 ⟨v, rv, σ', E', kb', rfl, h1, h2, h3⟩
    have hsz : W.heap.size + 1 < ((W.alloc (.deferred (some []))).alloc (.loop r)).heap.size := by simp
    have hl3 : W3.heap[W.heap.size + 1]? = some (.loop r) := by
      rw [h1.stp.block _ hsz hno]; exact hl
    refine ⟨none, _, run_endLoop hl3 (by simp [r]), ?_⟩
    have hE3 : E' (W.heap.size + 1) = none := by
      cases hE : E' (W.heap.size + 1) with
      | none => rfl
      | some x =>
        rcases h1.new _ x hE with k | k | k
        · rw [hE1n] at k; cases k
        · exact (hno k).elim
        · omega
    have hno3 : ¬ Owns σ' kb' (W.heap.size + 1) := fun ho => by
      rcases h1.own _ ho with k | k
      · exact hno k
      · omega
    have hall := (hst.trans h1).other (l := W.heap.size + 1) (by omega) hno3 hE3 (.loop { r with state := .exhausted })
    obtain ⟨τ, rfl⟩ := h1.pre
    refine hQ.hat _ _ _ ⟨σ ++ τ, E', fr, kb', hs.trans hall, ?_, h3⟩
    have hf' := hf.mono (τ := τ) (hst.le.trans h1.le)
    refine ⟨hf'.size, ⟨fun d hd => ?_, ?_⟩, hf'.get⟩
    · simp only [List.singleton_append, List.mem_cons] at hd
      rcases hd with rfl | hd
      · exact ⟨_, rfl, h1.le _ _ hE1⟩
      · exact hf'.defers.all d hd
    · simp only [List.singleton_append]
      refine List.pairwise_cons.2 ⟨fun d hd e => ?_, hf.defers.nodup⟩
      subst e
      obtain ⟨b, e1, e2⟩ := hf.defers.all _ hd
      cases e1
      have := (Array.getElem?_eq_some_iff.1 (hs.inv.imm _ _ e2)).1
      omega
  | .scope x, T, Q, Q', hQ, a, W, h => by
    refine wp_scope_straight (runCode_ok hX hm x (Q' := Exit.noGoto Q') (Q := fun e fr kb => match e with | .goto _ => False | e => Q e fr kb) ⟨fun e a W h => ?_, fun ch a a' w h => hQ.pan ch a a' w h⟩ h)
    cases e with
    | normal => exact hQ.hat _ _ _ h
    | exit id => exact hQ.hat _ _ _ h
    | goto l => obtain ⟨_, _, _, _, _, _, h⟩ := h; exact h.elim
    | ret => exact hQ.hat _ _ _ h
    | panic ch => exact hQ.hat _ _ _ h
    | outgrown => exact hQ.hat _ _ _ h
  | .goto _, _, _, _, _, _, _, h => by obtain ⟨_, _, _, _, _, _, h⟩ := h; exact h.elim
  | .refuse _, _, _, _, _, _, _, h => by obtain ⟨_, _, _, _, _, _, h⟩ := h; exact h.elim

def runFn (P : Program) (X : CallT) (T : Nat → Option LI) (f : FuncId) (args : List V) (kb : KB) (K : V → KB → Prop) : Prop :=
  match P.funcs[f]? with
  | some fn => match fn.body, Nat.ble args.length fn.ntmps with
    | some code, true => runCode P X T kb.length fn.ntmps code (fin P fn K) (argFr 0 args) kb
    | _, _ => False
  | none => False

theorem runFn_ok {P : Program} {X : CallT} (hX : CallOk P X) (hm : P.follows .mixedOrders = true) {T : Nat → Option LI} {f : FuncId} {args : List V} {kb : KB} {K : V → KB → Prop} (h : runFn P X T f args kb K) {σ : Sg} {E : EH} {W : World} {xs : List Value} (hi : Inv σ E kb W)
    (hd : DenL σ E args xs) : Calls P f xs.toArray W (fun e W' => ∃ v r σ' E' kb', e = .returned v ∧ Step σ E kb W σ' E' kb' W' ∧ Den σ' E' r v ∧ K r kb') := by
  unfold runFn at h
  split at h <;> try exact h.elim
  rename_i fn hfn
  split at h <;> try exact h.elim
  rename_i code hcode hb
  have hle := Nat.le_of_ble_eq_true hb
  rw [← hd.len] at hle
  rw [← hi.len] at h
  have hi0 := hi.strip
  have hd0 : DenL σ E.strip args xs := by
    have := DenL.cmono (τ := []) E.strip_cle hd
    rwa [List.append_nil] at this
  refine callsIn_wide.1 (callsIn_of_wp_marks (n := 0) hfn hcode trivial (wpIn_wide.2 (wp_mono (Q := fun e a w => match e with | .panic _ => False | e => bodyPostM Fence.wide 0 P fn (fun e W' => ∃ v r σ' E' kb', e = .returned v ∧ Step σ E kb W σ' E' kb' W' ∧ Den σ' E' r v ∧ K r kb') e a w) (runCode_ok hX hm (T := T) (c := ⟨σ, E.strip, kb, W⟩) (n := fn.ntmps) code (Q := fin P fn K) ⟨fun e a' W' hh => ?_, fun ch a a' w hp => ?_⟩ ?_) (fun e a w hq => ?_))))
  · obtain ⟨σ', E', fr', kb', hs, hf, hK⟩ := hh
    have key : resK P fr' kb' fn.results.toList (fun vs => K (retV vs) kb') → LeavesInM Fence.wide 0 P fn a'.tmps (fun e W' => ∃ v r σ' E' kb', e = .returned v ∧ Step σ E kb W σ' E' kb' W' ∧ Den σ' E' r v ∧ K r kb') a'.defers .returning W' := by
      intro hK
      refine leaves_marks a'.defers W' hf.defers.nodup (fun d hd => ?_) (fun W2 e1 e2 e3 e4 e5 => ?_)
      · obtain ⟨b, h1, h2⟩ := hf.defers.all d hd
        exact ⟨b, h1, hs.inv.imm b _ h2⟩
      · obtain ⟨E2, h1, h2⟩ := Step.unmark hi hs e1 e2 e3 e4 (M := fun b => { target := .collected b, args := #[] } ∈ a'.defers) (fun b hb => by
          obtain ⟨b', k1, k2⟩ := hf.defers.all _ hb
          cases k1; exact k2) (fun b hb => e5 b (fun d hd e => hb (e ▸ hd)))
        have hf2 : FrOk σ' E2 fr' fn.ntmps { a' with defers := [] } := ⟨hf.size, MkOk.nil _, fun t v hv => by
          obtain ⟨x, k1, k2⟩ := hf.get t v hv
          refine ⟨x, k1, ?_⟩
          have := Den.cmono (τ := []) h2 k2
          rwa [List.append_nil] at this⟩
        obtain ⟨v, r, k1, k2, k3⟩ := fin_results hf2 h1.inv hK
        exact ⟨v, k1, v, r, σ', E2, kb', rfl, h1, k2, k3⟩
    cases e with
    | normal => exact key hK
    | ret => exact key hK
    | exit id => exact hK.elim
    | goto l => exact hK.elim
    | panic ch => exact hK.elim
    | outgrown => exact hK.elim
  · exact hp
  rotate_left
  · cases e <;> first | exact hq | exact hq.elim
  · refine ⟨σ, E.strip, argFr 0 args, kb, Step.refl hi0, ⟨by simp; omega, MkOk.nil _, fun t v hv => ?_⟩, h⟩
    obtain ⟨x, _, h2, h3⟩ := look_arg 0 hd0 hv
    refine ⟨x, ?_, h3⟩
    have hlt : t < xs.length := by
      have := (List.getElem?_eq_some_iff.1 h2).1
      simpa using this
    rw [Array.getElem?_append_left (by simpa using hlt)]
    simpa using h2

/-- Calls, each walked through in its place, to a depth. -/
def callFn (P : Program) (T : FuncId → Nat → Option LI) : Nat → CallT
  | 0 => fun _ _ _ _ => False
  | d + 1 => fun f args kb K => runFn P (callFn P T d) (T f) f args kb K

theorem callFn_ok {P : Program} (hm : P.follows .mixedOrders = true) (T : FuncId → Nat → Option LI) : ∀ d, CallOk P (callFn P T d)
  | 0 => fun f args kb K h => h.elim
  | d + 1 => fun f args kb K h σ E W xs hi hd => runFn_ok (callFn_ok hm T d) hm h hi hd
end Vc
