import Derived.Test.YtffbeiaokmopgaaRef
namespace Go.Proofs.Ytffbeiaokmopgaa
open Vc Go
set_option linter.unusedVariables false
set_option linter.unusedSimpArgs false
/-- No maps as yet: nothing was done. -/
def TkN (l : List Ev) : Prop := ∀ e ∈ l, e.2 = 0
/-- A tracker behind these events. -/
structure Tk (l : List Ev) (d r : Int) (own told : PL) : Prop where
  d : d = tot l false
  r : r = tot l true
  oD : ∀ s, pD own s = tot l false - els l s false
  oR : ∀ s, pR own s = tot l true - els l s true
  tD : ∀ s, pD told s = els l s false - rB l s false
  tR : ∀ s, pR told s = els l s true - rB l s true
theorem els_nn {b : Bool} {s : Int} (l : List Ev) : 0 ≤ els l s b ∧ els l s b ≤ tot l b := by
  have h1 : l.countP (fun e : Ev => (e.1 != s) && cntB e.2 b) ≤ l.countP (fun e : Ev => cntB e.2 b) := List.countP_mono_left (fun e _ h => by simp at h; exact h.2)
  unfold els tot; omega
theorem rBr_els {s : Int} {b : Bool} : ∀ l : List Ev, rBr s b l ≤ (l.countP fun e => (e.1 != s) && cntB e.2 b : Nat)
  | [] => by simp [rBr]
  | e :: l => by
    have h := rBr_els (s := s) (b := b) l
    simp only [rBr, List.countP_cons]
    split
    · omega
    · split <;> simp <;> omega
theorem rB_els {s : Int} {b : Bool} (l : List Ev) : rB l s b ≤ els l s b := by
  have := rBr_els (s := s) (b := b) l.reverse
  rw [List.countP_reverse] at this
  exact this
theorem rBr_res {s : Int} : ∀ l : List Ev, rBr s true l ≤ rBr s false l
  | [] => by simp [rBr]
  | e :: l => by
    have h := rBr_res (s := s) l
    simp only [rBr, cntB]
    grind
theorem rB_res {s : Int} (l : List Ev) : rB l s true ≤ rB l s false := rBr_res l.reverse
theorem tot_res (l : List Ev) : tot l true ≤ tot l false := by
  have : l.countP (fun e : Ev => cntB e.2 true) ≤ l.countP (fun e : Ev => cntB e.2 false) := List.countP_mono_left (fun e _ h => by simp [cntB] at h ⊢; omega)
  unfold tot; omega
theorem TkN.zero {l : List Ev} (h : TkN l) : (∀ b, tot l b = 0) ∧ (∀ s b, els l s b = 0) ∧ ∀ s b, rB l s b = 0 := by
  have h1 : ∀ b, tot l b = 0 := fun b => by
    unfold tot
    rw [List.countP_eq_zero.2 (fun e he => by simp [cntB, h e he])]
    rfl
  have h2 : ∀ s b, els l s b = 0 := fun s b => by have := els_nn (b := b) (s := s) l; rw [h1] at this; omega
  exact ⟨h1, h2, fun s b => by have := rB_els (b := b) (s := s) l; rw [h2] at this; have := (rB_nn (s := s) (b := b) l).1; omega⟩
theorem TkN.snoc {l : List Ev} (h : TkN l) {s : Int} : TkN (l ++ [(s, 0)]) := fun e he => by
  rcases List.mem_append.1 he with he | he
  · exact h e he
  · simp at he; rw [he]
theorem up_eq {x p : Int} (h : -9223372036854775808 ≤ x ∧ x < 9223372036854775807) : upD x p = x + (if cntB p false then 1 else 0) ∧ upR x p = x + (if cntB p true then 1 else 0) := by
  have w := w64 (n := x + 1) (by omega) (by omega)
  unfold upD upR cntB
  rw [w]
  constructor
  · by_cases h1 : p = 1 <;> by_cases h2 : p = 2 <;> simp_all
  · by_cases h1 : p = 1 <;> by_cases h2 : p = 2 <;> simp_all
theorem Tk.done {l : List Ev} {d r : Int} {own told : PL} (h : Tk l d r own told) (hl : l.length ≤ 1000) {s p : Int} (hp : p ≠ 0) : Tk (l ++ [(s, p)]) (upD d p) (upR r p) (pset own s (upD (pD own s) p) (upR (pR own s) p)) told := by
  have b1 := fun b => tot_nn (b := b) l
  have b2 := fun s b => els_nn (b := b) (s := s) l
  have c1 := b1 false
  have c2 := b1 true
  have c3 := b2 s false
  have c4 := b2 s true
  have e1 := (up_eq (x := d) (p := p) (by rw [h.d]; omega)).1
  have e2 := (up_eq (x := r) (p := p) (by rw [h.r]; omega)).2
  have e3 := (up_eq (x := pD own s) (p := p) (by rw [h.oD]; omega)).1
  have e4 := (up_eq (x := pR own s) (p := p) (by rw [h.oR]; omega)).2
  refine ⟨by rw [e1, h.d, tot_snoc], by rw [e2, h.r, tot_snoc], fun j => ?_, fun j => ?_, fun j => ?_, fun j => ?_⟩
  · rw [pD_set, e3, h.oD, h.oD, tot_snoc, els_snoc]
    by_cases hj : j = s
    · subst hj; simp; omega
    · have hj' : ((s, p).1 != j) = true := by simpa using fun e => hj e.symm
      rw [hj', if_neg hj]; simp; omega
  · rw [pR_set, e4, h.oR, h.oR, tot_snoc, els_snoc]
    by_cases hj : j = s
    · subst hj; simp; omega
    · have hj' : ((s, p).1 != j) = true := by simpa using fun e => hj e.symm
      rw [hj', if_neg hj]; simp; omega
  · rw [h.tD, els_snoc, rB_snoc, if_neg (show ¬ ((s, p).2 = 0 ∧ (s, p).1 = j) from fun e => hp e.1)]; omega
  · rw [h.tR, els_snoc, rB_snoc, if_neg (show ¬ ((s, p).2 = 0 ∧ (s, p).1 = j) from fun e => hp e.1)]; omega
theorem Tk.first {l : List Ev} (h : TkN l) {s p : Int} (hp : p ≠ 0) : Tk (l ++ [(s, p)]) (upD 0 p) (upR 0 p) [(s, upD 0 p, upR 0 p)] [] := by
  obtain ⟨h1, h2, h3⟩ := h.zero
  have e1 := (up_eq (x := 0) (p := p) (by omega)).1
  have e2 := (up_eq (x := 0) (p := p) (by omega)).2
  refine ⟨by rw [e1, tot_snoc, h1], by rw [e2, tot_snoc, h1], fun j => ?_, fun j => ?_, fun j => ?_, fun j => ?_⟩
  · rw [e1, tot_snoc, els_snoc, h1, h2]
    by_cases hj : j = s
    · subst hj; simp [pD, pfind]
    · have hj' : ((s, p).1 != j) = true := by simpa using fun e => hj e.symm
      rw [hj']; simp [pD, pfind, hj]
  · rw [e2, tot_snoc, els_snoc, h1, h2]
    by_cases hj : j = s
    · subst hj; simp [pR, pfind]
    · have hj' : ((s, p).1 != j) = true := by simpa using fun e => hj e.symm
      rw [hj']; simp [pR, pfind, hj]
  · rw [els_snoc, rB_snoc, h2, h3, if_neg (show ¬ ((s, p).2 = 0 ∧ (s, p).1 = j) from fun e => hp e.1)]; simp [pD, pfind]
  · rw [els_snoc, rB_snoc, h2, h3, if_neg (show ¬ ((s, p).2 = 0 ∧ (s, p).1 = j) from fun e => hp e.1)]; simp [pR, pfind]
theorem Tk.now {l : List Ev} {d r : Int} {own told : PL} (h : Tk l d r own told) (hl : l.length ≤ 1000) (s : Int) :
    IntKind.i64.wrap (d - pD own s) = els l s false ∧ IntKind.i64.wrap (r - pR own s) = els l s true ∧ IntKind.i64.wrap (IntKind.i64.wrap (d - pD own s) - pD told s) = rB l s false ∧ IntKind.i64.wrap (IntKind.i64.wrap (r - pR own s) - pR told s) = rB l s true := by
  have c1 := tot_nn (b := false) l
  have c2 := tot_nn (b := true) l
  have c3 := els_nn (b := false) (s := s) l
  have c4 := els_nn (b := true) (s := s) l
  have c5 := rB_nn (b := false) (s := s) l
  have c6 := rB_nn (b := true) (s := s) l
  have e1 : d - pD own s = els l s false := by rw [h.d, h.oD]; omega
  have e2 : r - pR own s = els l s true := by rw [h.r, h.oR]; omega
  have w1 := w64 (n := els l s false) (by omega) (by omega)
  have w2 := w64 (n := els l s true) (by omega) (by omega)
  have e3 : els l s false - pD told s = rB l s false := by rw [h.tD]; omega
  have e4 : els l s true - pR told s = rB l s true := by rw [h.tR]; omega
  rw [e1, e2, w1, w2, e3, e4]
  exact ⟨rfl, rfl, w64 (by omega) (by omega), w64 (by omega) (by omega)⟩
theorem Tk.begun {l : List Ev} {d r : Int} {own told : PL} (h : Tk l d r own told) (hl : l.length ≤ 1000) (s : Int) :
    Tk (l ++ [(s, 0)]) d r own (pset told s (els l s false) (els l s true)) := by
  have z : ∀ b, cntB 0 b = false := fun b => by cases b <;> rfl
  have t : ∀ b, tot (l ++ [(s, 0)]) b = tot l b := fun b => by rw [tot_snoc]; simp [z]
  have e : ∀ j b, els (l ++ [(s, 0)]) j b = els l j b := fun j b => by rw [els_snoc]; simp [z]
  refine ⟨by rw [h.d, t], by rw [h.r, t], fun j => by rw [h.oD, t, e], fun j => by rw [h.oR, t, e], fun j => ?_, fun j => ?_⟩
  · rw [pD_set, e, rB_snoc]
    by_cases hj : j = s
    · subst hj; simp
    · have : ¬ s = j := fun e => hj e.symm
      rw [if_neg hj, h.tD]; simp [this, z]
  · rw [pR_set, e, rB_snoc]
    by_cases hj : j = s
    · subst hj; simp
    · have : ¬ s = j := fun e => hj e.symm
      rw [if_neg hj, h.tR]; simp [this, z]
theorem prs_inj {a b : PL} : prs a = prs b ↔ a = b := by
  constructor
  · intro h
    induction a generalizing b with
    | nil => cases b with | nil => rfl | cons x b => simp [prs] at h
    | cons x a ih =>
      cases b with
      | nil => simp [prs] at h
      | cons y b =>
        obtain ⟨x1, x2, x3⟩ := x
        obtain ⟨y1, y2, y3⟩ := y
        simp only [prs, List.map_cons, List.cons.injEq, Prod.mk.injEq, dn, D.val.injEq, Value.int.injEq, true_and, and_true] at h
        obtain ⟨⟨rfl, rfl, rfl⟩, h⟩ := h
        rw [ih h]
  · rintro rfl; rfl
theorem ok7 : SpecOk Try.prog 7 S7 := specOk_of XR_ok mixed (noT 7) (fun args kb K h => by
  unfold S7 at h; split at h <;> try exact h.elim
  refine vc7 K ?_
  have w1 := w64 (n := 1) (by omega) (by omega)
  have w0 := w64 (n := 0) (by omega) (by omega)
  simp [prs_inj, pD, pR, pfind, pset, w1, w0]
  exact h)
def lawS : FuncId → Option Known
  | 7 => some ⟨[], S7⟩
  | 8 => some ⟨[], S8⟩
  | 9 => some ⟨[], S9⟩
  | 10 => some ⟨[], S10⟩
  | 11 => some ⟨[], S11⟩
  | 12 => some ⟨[], S12⟩
  | _ => none
theorem lawS_ok : AllOk Try.prog lawS := fun f k h => by
  unfold lawS at h
  split at h <;> first | (cases h; first | exact ok7 | exact ok8 | exact ok9 | exact ok10 | exact ok11 | exact ok12) | cases h
theorem conf_evR : ∀ x, Conf [.int .i64, .int .i64] x → ∃ a : Ev, x = evR a ∧ (Lit.int .i64 a.1).wf = true ∧ (Lit.int .i64 a.2).wf = true := fun x h => by
  simp only [Conf, ConfD] at h
  obtain ⟨_, _, rfl, ⟨a, rfl, wa⟩, _, _, rfl, ⟨b, rfl, wb⟩, rfl⟩ := h
  exact ⟨(a, b), rfl, wa, wb⟩
end Go.Proofs.Ytffbeiaokmopgaa
