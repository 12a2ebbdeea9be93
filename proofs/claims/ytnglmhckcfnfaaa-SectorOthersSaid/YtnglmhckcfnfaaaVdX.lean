/- Channels of ours, in one goroutine: made, asked for their length, sent to and received from by a select of one case with a default. -/
import Derived.Test.YtnglmhckcfnfaaaVdQ
import Derived.Conc.LoneSelect
set_option linter.unusedSimpArgs false
set_option linter.unusedVariables false
namespace Vc
open Go

/-- A channel's room. -/
structure ChN (n : Int) : Prop where
  lo : 0 ≤ n
  hi : n ≤ 65536
def chanT (P : Program) (t : TypeId) : Option TypeId :=
  match P.underlying t with
  | some (.chan _ e) => some e
  | _ => none
theorem chanT_ok {P : Program} {t e : TypeId} (h : chanT P t = some e) : ∃ d, P.underlying t = some (.chan d e) := by
  unfold chanT at h
  split at h
  · rename_i d e' h1
    cases h; exact ⟨d, h1⟩
  · cases h
def makeChanK (P : Program) (t : TypeId) (n : V) (kb : KB) (K : V → KB → Prop) : Prop :=
  match chanT P t with
  | some e => match tAgg P e, kindsOf P 20 e, P.info? e, n with
    | some agg, some cks, some inf, .int .i64 m => match Nat.ble inf.bytes 65536 with
      | true => ChN m ∧ K (.ch kb.length) (kb ++ [.ch agg (wk cks) m.toNat []])
      | false => False
    | _, _, _, _ => False
  | none => False
theorem makeChanK_ok {P : Program} {t : TypeId} {n : V} {kb : KB} {K : V → KB → Prop} (h : makeChanK P t n kb K) {σ : Sg} {E : EH} {W : World} (hi : Inv σ E kb W) {x : Value} (hx : Den σ E n x) :
    ∃ v y σ' kb' W', (Instr.makeChan t x).run P W = .ok y W' ∧ Step σ E kb W σ' E kb' W' ∧ Den σ' E v y ∧ K v kb' := by
  unfold makeChanK at h
  split at h <;> try exact h.elim
  rename_i e he
  obtain ⟨d, hu⟩ := chanT_ok he
  split at h <;> try exact h.elim
  rename_i agg cks inf m ha hk hinf
  split at h <;> try exact h.elim
  rename_i hb
  obtain ⟨⟨hlo, hhi⟩, h⟩ := h
  have hb := Nat.le_of_ble_eq_true hb
  simp only [Den] at hx
  subst hx
  have hmul : (inf.bytes : Int) * m ≤ 65536 * 65536 := Int.mul_le_mul (by omega) hhi hlo (by omega)
  have hmul0 : ¬ (m < 0 ∨ m > IntKind.i64.max ∨ (inf.bytes : Int) * m > 2 ^ 48 - 112) := by
    have : IntKind.i64.max = 9223372036854775807 := by decide
    rw [this]; omega
  refine ⟨_, .chan (some W.heap.size), _, _, W.alloc (.chan m.toNat #[] false 0 0 false), ?_, hi.alloc (.chan m.toNat #[] false 0 0 false) ⟨W.heap.size, 0, 0⟩ (.ch agg (wk cks) m.toNat []) (fun b hb => hb) ⟨wl.nil, Nat.zero_le _, #[], 0, 0, ?_, by simp [BufL]⟩, ?_, h⟩
  · unfold Instr.makeChan
    have hc1 : ¬ (m < 0 ∨ 9223372036854775807 < m ∨ 281474976710544 < (inf.bytes : Int) * m) := by omega
    simp [asInt, asIntOf, run_underlying hu, typeInfo, hinf, hc1]
  · show (W.heap.push _)[W.heap.size]? = _
    simp
  · simp only [Den]
    exact ⟨⟨W.heap.size, 0, 0⟩, by rw [← hi.len]; simp, rfl⟩

def chanLenK (P : Program) (t : TypeId) (m : V) (kb : KB) (K : V → Prop) : Prop :=
  match chanT P t with
  | some _ => match m with
    | .ch i => match kb[i]? with
      | some (.ch _ _ _ l) => K (.int .i64 (l.length : Int))
      | _ => False
    | _ => False
  | none => False
theorem chanLenK_ok {P : Program} {t : TypeId} {m : V} {kb : KB} {K : V → Prop} (h : chanLenK P t m kb K) {σ : Sg} {E : EH} {W : World} (hi : Inv σ E kb W) {x : Value} (hx : Den σ E m x) (ty : TypeId) :
    ∃ v z, (Builtin.len_ #[t] ty #[x]).run P W = .ok z W ∧ Den σ E v z ∧ K v := by
  unfold chanLenK at h
  split at h <;> try exact h.elim
  rename_i q ht
  obtain ⟨d, hu⟩ := chanT_ok ht
  split at h <;> try exact h.elim
  rename_i i
  split at h <;> try exact h.elim
  rename_i agg sz cap l hl
  simp only [Den] at hx
  obtain ⟨r, hr, rfl⟩ := hx
  obtain ⟨_, _, bf, s, rr, g1, g2⟩ := hi.obj i r _ hr hl
  have hgo : (getObj r.blk).run P W = .ok (.chan cap bf false s rr false) W := by simp [getObj, Sem.run, g1]
  have := g2.len
  exact ⟨_, _, by simp [Builtin.len_, run_underlying hu, hgo]; rfl, by simp only [Den, goInt]; rw [show bf.size = l.length by simpa using this], h⟩
/-- len of a map or of a channel. -/
def lenMC (P : Program) (t : TypeId) (m : V) (kb : KB) (K : V → Prop) : Prop :=
  match chanT P t with
  | some _ => chanLenK P t m kb K
  | none => mapLenK P t m kb K
theorem lenMC_ok {P : Program} {t : TypeId} {m : V} {kb : KB} {K : V → Prop} (h : lenMC P t m kb K) {σ : Sg} {E : EH} {W : World} (hi : Inv σ E kb W) {x : Value} (hx : Den σ E m x) (ty : TypeId) :
    ∃ v z, (Builtin.len_ #[t] ty #[x]).run P W = .ok z W ∧ Den σ E v z ∧ K v := by
  unfold lenMC at h
  split at h
  · exact chanLenK_ok h hi hx ty
  · exact mapLenK_ok h hi hx ty

/-- A send to the channel i, or not, of the value v of type e. -/
def sendK (P : Program) (e : TypeId) (i : Nat) (v : V) (kb : KB) (K : V → KB → Prop) : Prop :=
  match tAgg P e, tSize P e, (P.info? e).bind (·.zero) with
  | some agg, some n, some _ => match (match v with | .agg _ => agg | _ => !agg) with
    | true => cellsD P e v kb (fun ds kb => match kb[i]? with
      | some (.ch agg2 sz cap l) => match (agg == agg2), Nat.beq n sz with
        | true, true => (l.length < cap → K (.tup [.lit .i64 0, .ff]) (kb.set i (.ch agg2 sz cap (l ++ [ds])))) ∧ (¬ l.length < cap → K (.tup [.lit .i64 (-1), .ff]) kb)
        | _, _ => False
      | _ => False)
    | false => False
  | _, _, _ => False
/-- A receive from the channel i, or not, of type e. -/
def recvK (P : Program) (e : TypeId) (i : Nat) (kb : KB) (K : V → KB → Prop) : Prop :=
  match tAgg P e, kindsOf P 20 e, (P.info? e).bind (·.zero) with
  | some agg, some cks, some _ => match kb[i]? with
    | some (.ch agg2 sz cap l) => match (agg == agg2), Nat.beq (wk cks) sz with
      | true, true => (∀ c l', l = c :: l' → loadE c 0 cks (fun vs => wrapK agg vs (fun v => K (.tup [.lit .i64 0, .tt, v]) (kb.set i (.ch agg2 sz cap l'))))) ∧ (l = [] → zeroT P e agg (fun v => K (.tup [.lit .i64 (-1), .ff, v]) kb))
      | _, _ => False
    | _ => False
  | _, _, _ => False

theorem BufL.cons_inv {E : EH} {agg : Bool} {buf : Array Value} {c : List D} {l : List (List D)} (h : BufL E agg buf.toList (c :: l)) : 0 < buf.size ∧ (∃ ys, buf.getD 0 undef = cellV agg ys ∧ DenD E c ys) ∧ BufL E agg (buf.extract 1 buf.size).toList l := by
  obtain ⟨bl⟩ := buf
  cases bl with
  | nil => simp only [BufL] at h; cases h
  | cons v vs =>
    simp only [BufL] at h
    obtain ⟨c', l', h0, h1, h2⟩ := h
    cases h0
    refine ⟨by simp, ?_, ?_⟩
    · obtain ⟨ys, e1, e2⟩ := h1
      exact ⟨ys, by simp [e1], e2⟩
    · simpa [List.extract] using h2

theorem zero_run {P : Program} {e : TypeId} {z : Value} (h : (P.info? e).bind (·.zero) = some z) (W : World) : (zeroValue e).run P W = .ok z W := by
  obtain ⟨it, hit, hzz⟩ := Option.bind_eq_some_iff.1 h
  simp [zeroValue, typeInfo, hit, hzz]
/-- What a select of one send does, where it is taken. -/
theorem sendK_ok {P : Program} {e : TypeId} {i : Nat} {v : V} {kb : KB} {K : V → KB → Prop} (h : sendK P e i v kb K) {σ : Sg} {E : EH} {W : World} (hi : Inv σ E kb W) {r : Re} (hr : σ[i]? = some r) {x : Value} (hx : Den σ E v x) :
    ∃ cap buf s rr z, W.heap[r.blk]? = some (.chan cap buf false s rr false) ∧ (zeroValue e).run P W = .ok z W ∧
      (buf.size < cap → ∃ E' kb', Step σ E kb W σ E' kb' (W.setChan r.blk cap (buf.push x) false (s + 1) rr false) ∧ K (.tup [.lit .i64 0, .ff]) kb') ∧
      (¬ buf.size < cap → ∃ E' kb', Step σ E kb W σ E' kb' W ∧ K (.tup [.lit .i64 (-1), .ff]) kb') := by
  unfold sendK at h
  split at h <;> try exact h.elim
  rename_i agg n z ha hn hz
  split at h <;> try exact h.elim
  rename_i hagg
  have h0 := h
  obtain ⟨E1, kb1, ds, xs, s1, hc, hD, h, hxn⟩ := cellsD_ok h hi hx
  split at h <;> try exact h.elim
  rename_i agg2 sz cap l hl
  split at h <;> try exact h.elim
  rename_i c1 c2
  have e1 : agg = agg2 := by simpa using c1
  have e2 := Nat.eq_of_beq_eq_true c2
  subst e1; subst e2
  obtain ⟨hw, hlen, bf, s, rr, g1, g2⟩ := s1.inv.obj i r _ hr hl
  have hbl := g2.len
  have hbl : bf.size = l.length := by simpa using hbl
  rw [hn] at hxn
  have hxn := Option.some.inj hxn
  have hval : x = cellV agg xs := by
    by_cases hv : ∃ vs, v = .agg vs
    · obtain ⟨vs, rfl⟩ := hv
      simp only at hagg
      subst hagg
      simp only [Den] at hx
      obtain ⟨us, rfl, _⟩ := hx
      simp only [Value.cells] at hc
      simp [cellV, hc]
    · have hagg : agg = false := by
        cases v <;> first | (exact absurd ⟨_, rfl⟩ hv) | simpa using hagg
      subst hagg
      have hone : x.oneCell' = true := one_den (cellsD_one h0 (fun vs q => hv ⟨vs, q⟩)) hx
      have hxz : xs = [x] := by
        have hzz : x.cells = #[x] := by cases x <;> simp_all [Value.cells, Value.oneCell']
        rw [hzz] at hc
        have := congrArg Array.toList hc
        simpa using this.symm
      simp [cellV, hxz]
  have hlt : r.blk < W.heap.size := (Array.getElem?_eq_some_iff.1 g1).1
  refine ⟨cap, bf, s, rr, z, g1, zero_run hz W, fun hroom => ?_, fun hfull => ⟨E1, kb1, s1, h.2 (by omega)⟩⟩
  refine ⟨E1, _, s1.trans (s1.inv.set (o' := .ch agg n cap (l ++ [ds])) hr hl rfl rfl rfl (by simp [World.setChan]) (fun b hb => ?_) (fun b hb => hb) ⟨?_, ?_, bf.push x, s + 1, rr, ?_, ?_⟩), h.1 (by omega)⟩
  · simp only [owned] at hb
    show (W.heap.setIfInBounds r.blk _)[b]? = _
    rw [Array.getElem?_setIfInBounds_ne (fun e => hb e.symm)]
  · exact hw.append (fun y hy => by simp at hy; subst hy; rw [← hD.len]; omega)
  · simp; omega
  · show (W.heap.setIfInBounds r.blk _)[r.blk]? = _
    simp [hlt]
  · rw [Array.toList_push]
    exact g2.snoc ⟨xs, hval, hD⟩
theorem recvK_ok {P : Program} {e : TypeId} {i : Nat} {kb : KB} {K : V → KB → Prop} (h : recvK P e i kb K) {σ : Sg} {E : EH} {W : World} (hi : Inv σ E kb W) {r : Re} (hr : σ[i]? = some r) :
    ∃ cap buf s rr z, W.heap[r.blk]? = some (.chan cap buf false s rr false) ∧ (zeroValue e).run P W = .ok z W ∧
      (0 < buf.size → ∃ u kb', Step σ E kb W σ E kb' (W.setChan r.blk cap (buf.extract 1 buf.size) false s (rr + 1) false) ∧ Den σ E u (buf.getD 0 undef) ∧ K (.tup [.lit .i64 0, .tt, u]) kb') ∧
      (buf = #[] → ∃ u, Den σ E u z ∧ K (.tup [.lit .i64 (-1), .ff, u]) kb) := by
  unfold recvK at h
  split at h <;> try exact h.elim
  rename_i agg cks z ha hcks hz
  split at h <;> try exact h.elim
  rename_i agg2 sz cap l hl
  split at h <;> try exact h.elim
  rename_i c1 c2
  have e1 : agg = agg2 := by simpa using c1
  have e2 := Nat.eq_of_beq_eq_true c2
  subst e1; subst e2
  obtain ⟨hw, hlen, bf, s, rr, g1, g2⟩ := hi.obj i r _ hr hl
  have hlt : r.blk < W.heap.size := (Array.getElem?_eq_some_iff.1 g1).1
  refine ⟨cap, bf, s, rr, z, g1, zero_run hz W, fun hsome => ?_, fun hnone => ?_⟩
  · cases l with
    | nil =>
      have := g2.len
      simp at this
      subst this
      simp at hsome
    | cons c l' =>
      obtain ⟨_, ⟨ys, hv, hD⟩, hrest⟩ := g2.cons_inv
      obtain ⟨vs, xs, hK, hDC, hln, hxs⟩ := loadE_ok (σ := σ) hD (h.1 c l' rfl)
      obtain ⟨u, k1, k2, k3⟩ := wrapK_ok hK hDC
      have hyl : ys.length = wk cks := by rw [hD.len]; exact hw c (by simp)
      have hceq : ys = xs := by
        apply List.ext_getElem?
        intro q
        rcases Nat.lt_or_ge q xs.length with hq | hq
        · rw [List.getElem?_eq_getElem hq]
          have := hxs q _ (List.getElem?_eq_getElem hq)
          simpa using this
        · rw [List.getElem?_eq_none hq, List.getElem?_eq_none (by omega)]
      subst hceq
      refine ⟨u, _, hi.set (o' := .ch agg (wk cks) cap l') hr hl rfl rfl rfl (by simp [World.setChan]) (fun b hb => ?_) (fun b hb => hb) ⟨hw.cons, ?_, bf.extract 1 bf.size, s, rr + 1, ?_, hrest⟩, ?_, k1⟩
      · simp only [owned] at hb
        show (W.heap.setIfInBounds r.blk _)[b]? = _
        rw [Array.getElem?_setIfInBounds_ne (fun e => hb e.symm)]
      · simp at hlen; omega
      · show (W.heap.setIfInBounds r.blk _)[r.blk]? = _
        simp [hlt]
      · rw [hv]; exact k2
  · subst hnone
    simp only [BufL] at g2
    subst g2
    obtain ⟨v, z', z1, z2, z3⟩ := zeroT_ok (h.2 rfl) σ E W
    rw [zero_run hz W] at z1
    cases z1
    exact ⟨v, z2, z3⟩
end Vc
