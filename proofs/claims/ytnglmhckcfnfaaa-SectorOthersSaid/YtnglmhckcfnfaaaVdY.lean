/- Regions in which a select of one case with a default stands, in one goroutine. -/
import Derived.Test.YtnglmhckcfnfaaaVdJ
import Derived.Test.YtnglmhckcfnfaaaVdX
set_option linter.unusedSimpArgs false
set_option linter.unusedVariables false
namespace Vc
open Go Go.Conc

def selK (P : Program) (cases : Array SelectCase) (fr : Fr) (kb : KB) (K : V → KB → Prop) : Prop :=
  match cases.toList with
  | [s] => match ev fr s.chan with
    | some (.ch i) => match s.send with
      | some y => match evR fr y with | some v => sendK P s.elem i v kb K | none => False
      | none => recvK P s.elem i kb K
    | _ => False
  | _ => False

/-- Regions with selects, in the order of the text. -/
def seqXK (P : Program) (X : CallT) (n : Nat) (ops : Array Oper) : List Oper → (Fr → KB → Prop) → Fr → KB → Prop
  | [], K, fr, kb => K fr kb
  | o :: rest, K, fr, kb => match o.op with
    | .select cases false => match o.guard with
      | none => selK P cases fr kb (fun v kb' => putK n o.dst v fr (fun fr' => seqXK P X n ops rest K fr' kb'))
      | some _ => False
    | _ => guardK ops o fr (fun fr => opK P X o fr kb (fun v kb' => putK n o.dst v fr (fun fr' => seqXK P X n ops rest K fr' kb')))
      (fun fr => putK n o.dst (.any undef) fr (fun fr' => seqXK P X n ops rest K fr' kb))

/-- The machine of one goes on to what is behind an operation. -/
theorem op_goes {P : Program} {ops : Array Oper} {i : Nat} {rest : List Nat} {o : Oper} {a : Act} {w : World} {K : Act → World → Prop} (ho : ops[i]? = some o) (hw : Region.wanted o (yielded ops a.tmps) = true)
    (h : o.wp P a w K (fun _ _ _ => False)) (b : Frame) (k : List Item) (cs : List Frame) :
    ∃ a' w', K a' w' ∧ Steps P (lone (b.at a (.inRegion ops (i :: rest) :: k)) cs w) (lone (b.at a' (.inRegion ops rest :: k)) cs w') := by
  have hg := stepG_op (P := P) (b := b) (k := k) (cs := cs) (w := w) (rest := rest) ho hw
  have hfin : ∀ (a : Act) (v : Value), (b.at a (.inRegion ops (i :: rest) :: k)).finish v = b.at (a.put o.dst v) (.inRegion ops rest :: k) := fun a v => by
    rw [Frame.finish_at, ho]; rfl
  unfold Oper.wp at h
  generalize hr : (execOp a.eval o).run P w = r at h
  cases r with
  | halt x w' => cases x <;> exact h.elim
  | ok x w' =>
    cases x with
    | value v =>
      exact ⟨_, w', h, .one (step_lone_go (by rw [hg, ← hfin]; simp [stepG.apply, hr]))⟩
    | skip =>
      exact ⟨_, w', h, .one (step_lone_go (by rw [hg, ← hfin]; simp [stepG.apply, hr]))⟩
    | defer d =>
      refine ⟨_, w', h, .one (step_lone_go ?_)⟩
      have e := hfin { a with defers := d :: a.defers } undef
      rw [hg, ← e]
      simp only [stepG.apply, Sem.runT_eq, hr, GStep.bare_after]
      rfl
    | enter f args =>
      simp only [Oper.upon] at h
      obtain ⟨e, w2, fr, hR, hsteps, _, hleave⟩ := h (b.at a (.inRegion ops (i :: rest) :: k) :: cs)
      have henter : step P (lone (b.at a (.inRegion ops (i :: rest) :: k)) cs w) = .next (lone (Frame.enter P f args .normal) (b.at a (.inRegion ops (i :: rest) :: k) :: cs) w') :=
        step_lone_go (by rw [hg]; simp [stepG.apply, hr, Frame.at])
      cases e with
      | returned v =>
        refine ⟨_, w2, hR, .head henter (hsteps.trans (.one ?_))⟩
        rw [← hfin]; exact step_leave_returned hleave
      | panicked ch => exact hR.elim
      | outgrown => obtain ⟨_, _, hq⟩ := hR; exact hq.elim
    | row r args =>
      simp only [Oper.upon] at h
      obtain ⟨v, w2, hR, hsteps⟩ := h (b.at a (.inRegion ops (i :: rest) :: k)) cs
      have henter : step P (lone (b.at a (.inRegion ops (i :: rest) :: k)) cs w) = .next (lone (Frame.ofRow P r args .normal) (b.at a (.inRegion ops (i :: rest) :: k) :: cs) w') :=
        step_lone_go (by rw [hg]; simp [stepG.apply, hr, Frame.at])
      refine ⟨_, w2, hR, .head henter ?_⟩
      rw [← hfin]; exact hsteps
    | _ => exact h.elim

def wpX (P : Program) (ops : Array Oper) (Q : Act → World → Prop) : List Nat → Act → World → Prop
  | [], a, w => Q a w
  | i :: rest, a, w => ∀ (b : Frame) (k : List Item) (cs : List Frame), ∃ a' w', wpX P ops Q rest a' w' ∧
      Steps P (lone (b.at a (.inRegion ops (i :: rest) :: k)) cs w) (lone (b.at a' (.inRegion ops rest :: k)) cs w')
theorem wpX_goes {P : Program} {ops : Array Oper} {Q : Act → World → Prop} (b : Frame) (k : List Item) (cs : List Frame) : ∀ {l : List Nat} {a : Act} {w : World}, wpX P ops Q l a w →
    ∃ a' w', Q a' w' ∧ Steps P (lone (b.at a (.inRegion ops l :: k)) cs w) (lone (b.at a' k) cs w')
  | [], a, w, h => ⟨a, w, h, .one step_region_end⟩
  | i :: rest, a, w, h => by
    obtain ⟨a1, w1, h1, s1⟩ := h b k cs
    obtain ⟨a2, w2, h2, s2⟩ := wpX_goes b k cs h1
    exact ⟨a2, w2, h2, s1.trans s2⟩
theorem wp_regionX {P : Program} {id : Nat} {ops : Array Oper} {Q : Exit → Act → World → Prop} {a : Act} {w : World} (h : wpX P ops (Q .normal) (List.range ops.size) a w) : (Code.region id ops false).wp P Q a w := fun b k cs => by
  obtain ⟨a', w', hq, hs⟩ := wpX_goes b k cs h
  exact ⟨.normal, a', w', hq, .head step_region hs⟩

theorem stepG_commE {P : Program} {b : Frame} {a : Act} {k : List Item} {cs : List Frame} {w : World} {ops : Array Oper} {i : Nat} {rest : List Nat} {o : Oper} {cases : Array CommCase} {blocking : Bool} {shape : CommShape} {w' : World} (ho : ops[i]? = some o) (hw : Region.wanted o (yielded ops a.tmps) = true)
    (hr : (execOp a.eval o).run P w = .ok (.comm cases blocking shape) w') :
    ∃ es, stepG P true (G (b.at a (.inRegion ops (i :: rest) :: k)) cs) w = .comm (G (b.at a (.inRegion ops (i :: rest) :: k)) cs) cases blocking shape w' es := by
  rw [stepG_oper ho hw]
  simp only [stepG.apply, Sem.runT_eq, hr, if_true, G]
  exact ⟨_, rfl⟩

theorem selK_ok {P : Program} {cases : Array SelectCase} {fr : Fr} {kb : KB} {K : V → KB → Prop} (h : selK P cases fr kb K) {σ : Sg} {E : EH} {n : Nat} {a : Act} (hf : FrOk σ E fr n a) {W : World} (hi : Inv σ E kb W)
    {o : Oper} (hop : o.op = .select cases false) {ops : Array Oper} {i : Nat} {rest : List Nat} (ho : ops[i]? = some o) (hw : Region.wanted o (yielded ops a.tmps) = true) (b : Frame) (k : List Item) (cs : List Frame) :
    ∃ a' W', After σ E kb W a o K a' W' ∧ Steps P (lone (b.at a (.inRegion ops (i :: rest) :: k)) cs W) (lone (b.at a' (.inRegion ops rest :: k)) cs W') := by
  have hfin : ∀ (v : Value), (b.at a (.inRegion ops (i :: rest) :: k)).finish v = b.at (a.put o.dst v) (.inRegion ops rest :: k) := fun v => by
    rw [Frame.finish_at, ho]; rfl
  unfold selK at h
  split at h <;> try exact h.elim
  rename_i s hs
  have hcs : cases = #[s] := by
    have := congrArg List.toArray hs
    simpa using this
  subst hcs
  split at h <;> try exact h.elim
  rename_i ci hch
  have hc := ev_ok hf hch
  simp only [Den] at hc
  obtain ⟨r, hr, hc⟩ := hc
  split at h
  · rename_i y hy
    split at h <;> try exact h.elim
    rename_i v hv
    have hx := evR_ok hf hv
    obtain ⟨cap, buf, sn, rr, z, g1, g2, g3, g4⟩ := sendK_ok h hi hr hx
    have hrun : (execOp a.eval o).run P W = .ok (.comm #[scase r.blk (a.eval y) z] false .select) W := by
      simp [execOp, hop, hc, hy, g2, scase]
    obtain ⟨es, hG⟩ := stepG_commE (b := b) (k := k) (cs := cs) (rest := rest) ho hw hrun
    by_cases hroom : buf.size < cap
    · obtain ⟨E', kb', s1, hK⟩ := g3 hroom
      have hstep := step_lone_select_send_room hG g1 hroom
      rw [hfin] at hstep
      refine ⟨_, _, ⟨σ, E', kb', _, _, s1, ?_, rfl, hK⟩, .one hstep⟩
      simp only [Den]
      exact ⟨[goInt 0, .bool false], rfl, .cons (by simp [Den, goInt]) (.cons (by simp [Den]) .nil)⟩
    · obtain ⟨E', kb', s1, hK⟩ := g4 hroom
      have hstep := step_lone_select_send_full hG g1 (by omega)
      rw [hfin] at hstep
      refine ⟨_, _, ⟨σ, E', kb', _, _, s1, ?_, rfl, hK⟩, .one hstep⟩
      simp only [Den]
      exact ⟨[goInt (-1), .bool false], rfl, .cons (by simp [Den, goInt]) (.cons (by simp [Den]) .nil)⟩
  · rename_i hy
    obtain ⟨cap, buf, sn, rr, z, g1, g2, g3, g4⟩ := recvK_ok h hi hr
    have hrun : (execOp a.eval o).run P W = .ok (.comm #[rcase r.blk z] false .select) W := by
      simp [execOp, hop, hc, hy, g2, rcase]
    obtain ⟨es, hG⟩ := stepG_commE (b := b) (k := k) (cs := cs) (rest := rest) ho hw hrun
    by_cases hsome : 0 < buf.size
    · obtain ⟨u, kb', s1, hu, hK⟩ := g3 hsome
      have hstep := step_lone_select_recv_buf hG g1 hsome
      rw [hfin] at hstep
      refine ⟨_, _, ⟨σ, E, kb', _, _, s1, ?_, rfl, hK⟩, .one hstep⟩
      simp only [Den]
      exact ⟨[goInt 0, .bool true, buf.getD 0 undef], rfl, .cons (by simp [Den, goInt]) (.cons (by simp [Den]) (.cons hu .nil))⟩
    · have hb : buf = #[] := Array.size_eq_zero_iff.1 (by omega)
      obtain ⟨u, hu, hK⟩ := g4 hb
      subst hb
      have hstep := step_lone_select_default hG g1
      rw [hfin] at hstep
      refine ⟨_, _, ⟨σ, E, kb, _, _, Step.refl hi, ?_, rfl, hK⟩, .one hstep⟩
      simp only [Den]
      exact ⟨[goInt (-1), .bool false, z], rfl, .cons (by simp [Den, goInt]) (.cons (by simp [Den]) (.cons hu .nil))⟩

theorem seqXK_ok {P : Program} {X : CallT} (hX : CallOk P X) {c : Cx} {n : Nat} {ops : Array Oper} {Q : Act → World → Prop} {K : Fr → KB → Prop} (hQ : ∀ a W, Hat c n K a W → Q a W) :
    ∀ {l : List Oper} {j : Nat} {a : Act} {W : World}, (∀ m, l[m]? = ops[j + m]?) → Hat c n (seqXK P X n ops l K) a W → wpX P ops Q (List.range' j l.length) a W
  | [], j, a, W, hl, h => hQ a W h
  | o :: rest, j, a, W, hl, h => by
    have ho : ops[j]? = some o := by have := hl 0; simpa using this.symm
    have hrest : ∀ m, rest[m]? = ops[j + 1 + m]? := fun m => by
      have := hl (m + 1)
      rw [show j + 1 + m = j + (m + 1) by omega]
      simpa using this
    obtain ⟨σ, E, fr, kb, hs, hf, h⟩ := h
    rw [List.length_cons, List.range'_succ]
    unfold wpX
    intro b k cs
    unfold seqXK at h
    split at h
    · rename_i cases hop
      split at h <;> try exact h.elim
      rename_i hgu
      obtain ⟨a', W', hA, hst⟩ := selK_ok h hf hs.inv hop ho (by simp [Region.wanted, hgu]) b k cs (rest := List.range' (j + 1) rest.length)
      exact ⟨a', W', seqXK_ok hX hQ hrest (hA.hat hs hf), hst⟩
    · obtain ⟨fr', hf', h | h⟩ := guardK_ok h hf
      · obtain ⟨a', W', hA, hst⟩ := op_goes ho h.1 (opK_ok hX h.2 hf' hs.inv _) b k cs (rest := List.range' (j + 1) rest.length)
        exact ⟨a', W', seqXK_ok hX hQ hrest (hA.hat hs hf'), hst⟩
      · obtain ⟨fr2, h1, h2⟩ := putK_ok h.2 hf' (σ := σ) (E := E) (x := undef) (by simp [Den])
        have hst := step_op_skip (P := P) (b := b) (a := a) (k := k) (cs := cs) (w := W) (ops := ops) (i := j) (rest := List.range' (j + 1) rest.length) (by simp [ho, h.1])
        simp only [ho, Option.bind_some] at hst
        exact ⟨_, W, seqXK_ok hX hQ hrest ⟨σ, E, fr2, kb, hs, h1, h2⟩, .one hst⟩
theorem regionX_ok {P : Program} {X : CallT} (hX : CallOk P X) {c : Cx} {n : Nat} {id : Nat} {ops : Array Oper} {Q : Exit → Act → World → Prop} {K : Fr → KB → Prop} (hQ : ∀ a W, Hat c n K a W → Q .normal a W) {a : Act} {W : World}
    (h : Hat c n (seqXK P X n ops ops.toList K) a W) : (Code.region id ops false).wp P Q a W :=
  wp_regionX (by
    have := seqXK_ok hX (Q := Q .normal) hQ (l := ops.toList) (j := 0) (by simp) h
    rw [List.range_eq_range', ← Array.length_toList]
    exact this)
end Vc
