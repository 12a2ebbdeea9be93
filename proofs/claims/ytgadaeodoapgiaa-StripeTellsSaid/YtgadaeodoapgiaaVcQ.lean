/- Maps whose keys are numbers, and whose values have no addresses in them. -/
import Derived.Test.YtgadaeodoapgiaaVcH
import Derived.MapKept
set_option linter.unusedVariables false
namespace Vc
open Go

abbrev ML := List (Int × List Value)
def mget : ML → Int → Option (List Value)
  | [], _ => none
  | (a, c) :: l, n => if n = a then some c else mget l n
def mset : ML → Int → List Value → ML
  | [], n, v => [(n, v)]
  | (a, c) :: l, n, v => if n = a then (a, v) :: l else (a, c) :: mset l n v
def mix : ML → Int → Option Nat
  | [], _ => none
  | (a, c) :: l, n => if n = a then some 0 else (mix l n).map (· + 1)

theorem mix_none : ∀ {l : ML} {n : Int}, mix l n = none → mget l n = none ∧ ∀ v, mset l n v = l ++ [(n, v)]
  | [], n, _ => ⟨rfl, fun v => rfl⟩
  | (a, c) :: l, n, h => by
    simp only [mix] at h
    split at h
    · cases h
    · rename_i hne
      simp only [Option.map_eq_none_iff] at h
      obtain ⟨h1, h2⟩ := mix_none h
      exact ⟨by simp [mget, hne, h1], fun v => by simp [mset, hne, h2 v]⟩
theorem mix_some : ∀ {l : ML} {n : Int} {j : Nat}, mix l n = some j → ∃ c, l[j]? = some (n, c) ∧ mget l n = some c ∧ ∀ v, mset l n v = l.set j (n, v)
  | [], n, j, h => by cases h
  | (a, c) :: l, n, j, h => by
    simp only [mix] at h
    split at h
    · rename_i he
      cases h
      exact ⟨c, by simp [he], by simp [mget, he], fun v => by simp [mset, he]⟩
    · rename_i hne
      simp only [Option.map_eq_some_iff] at h
      obtain ⟨k, hk, rfl⟩ := h
      obtain ⟨d, h1, h2, h3⟩ := mix_some hk
      exact ⟨d, by simpa using h1, by simp [mget, hne, h2], fun v => by simp [mset, hne, h3 v]⟩

def entOf (kk : IntKind) (agg : Bool) (p : Int × List Value) : Value × Value := (.int kk p.1, cellV agg p.2)

theorem findNow_ok {kk kt : IntKind} {agg : Bool} {n : Int} : ∀ {l : ML} {es : List MapEntry}, es.map (fun e => (e.key, e.val)) = l.map (entOf kk agg) → ∀ i,
    (mix l n = none ∧ Instr.findNow (.int kt) (.int kk n) es i = some none) ∨ ∃ j c, mix l n = some j ∧ l[j]? = some (n, c) ∧ Instr.findNow (.int kt) (.int kk n) es i = some (some (i + j, cellV agg c))
  | [], es, h, i => by
    have : es = [] := by simpa using h
    subst this
    exact .inl ⟨rfl, rfl⟩
  | (a, c) :: l, [], h, i => by simp at h
  | (a, c) :: l, e :: es, h, i => by
    simp only [List.map_cons, List.cons.injEq, entOf, Prod.mk.injEq] at h
    obtain ⟨⟨h1, h2⟩, h3⟩ := h
    by_cases he : n = a
    · right
      refine ⟨0, c, by simp [mix, he], by simp [he], ?_⟩
      simp [Instr.findNow, Instr.sameNow, h1, he, h2]
    · have hb : (n == a) = false := by simpa using he
      have := findNow_ok (n := n) (kt := kt) h3 (i + 1)
      rcases this with ⟨k1, k2⟩ | ⟨j, d, k1, k2, k3⟩
      · exact .inl ⟨by simp [mix, he, k1], by simp [Instr.findNow, Instr.sameNow, h1, hb, k2]⟩
      · exact .inr ⟨j + 1, d, by simp [mix, he, k1], by simpa using k2, by simp [Instr.findNow, Instr.sameNow, h1, hb, k3]; omega⟩

/-- The kind of keys, and the values, of a map's type. -/
def mapT (P : Program) (t : TypeId) : Option (TypeId × IntKind × TypeId) :=
  match P.underlying t with
  | some (.map kt et) => match P.underlying kt with
    | some (.int k) => some (kt, k, et)
    | _ => none
  | _ => none
theorem mapT_ok {P : Program} {t kt et : TypeId} {k : IntKind} (h : mapT P t = some (kt, k, et)) : P.underlying t = some (.map kt et) ∧ P.underlying kt = some (.int k) := by
  unfold mapT at h
  split at h
  · rename_i kt' et' h1
    split at h
    · rename_i k' h2; cases h; exact ⟨h1, h2⟩
    · cases h
  · cases h

theorem run_checkKey {P : Program} {kt : TypeId} {k kk : IntKind} {n : Int} (h : P.underlying kt = some (.int k)) (b : Bool) (W : World) : (Instr.checkKey b 10000 kt (.int kk n)).run P W = .ok () W := by
  show (Instr.checkKey b (9999 + 1) kt (.int kk n)).run P W = .ok () W
  unfold Instr.checkKey
  rw [Sem.run_bind, run_underlying h, Result.andThen_ok]
  rfl

def okV (ok : Bool) (v : V) (b : Bool) : V := match ok with | true => .tup [v, match b with | true => .tt | false => .ff] | false => v

def lookupK (P : Program) (t : TypeId) (m k : V) (ok : Bool) (kb : KB) (K : V → Prop) : Prop :=
  match mapT P t, k with
  | some (_, _, et), .int kk n =>
    match (P.info? et).bind (·.zero), tAgg P et, kindsOf P 20 et with
    | some z, some agg, some ks =>
      match m with
      | .mp i => match kb[i]? with
        | some (.mp kk2 agg2 sz l) =>
          match decide (kk = kk2), (agg == agg2), Nat.beq ks.length sz, (agg || Nat.beq ks.length 1) with
          | true, true, true, true => (∀ cs, mget l n = some cs → loadE cs 0 ks (fun vs => K (okV ok (wrapV agg vs) true))) ∧ (mget l n = none → K (okV ok (cvc z) false))
          | _, _, _, _ => False
        | _ => False
      | .any (.map none) => K (okV ok (cvc z) false)
      | _ => False
    | _, _, _ => False
  | _, _ => False

theorem okV_den {σ : Sg} {E : EH} {v : V} {x : Value} (h : Den σ E v x) (ok b : Bool) : Den σ E (okV ok v b) (if ok then .tuple #[x, .bool b] else x) := by
  cases ok with
  | false => exact h
  | true =>
    simp only [okV, Den, if_true]
    refine ⟨[x, .bool b], rfl, .cons h (.cons ?_ .nil)⟩
    cases b <;> simp [Den]

theorem lookupK_ok {P : Program} {t : TypeId} {m k : V} {ok : Bool} {kb : KB} {K : V → Prop} (h : lookupK P t m k ok kb K) {σ : Sg} {E : EH} {W : World} (hi : Inv σ E kb W) {x y : Value} (hx : Den σ E m x) (hy : Den σ E k y) :
    ∃ v z, (Instr.lookup t x y ok).run P W = .ok z W ∧ Den σ E v z ∧ K v := by
  unfold lookupK at h
  split at h <;> try exact h.elim
  rename_i kt kk0 et kk n ht
  obtain ⟨h1, h2⟩ := mapT_ok ht
  simp only [Den] at hy
  subst hy
  split at h <;> try exact h.elim
  rename_i z agg ks hz ha hks
  obtain ⟨it, hit, hzz⟩ := Option.bind_eq_some_iff.1 hz
  have hzero : (zeroValue et).run P W = .ok z W := by simp [zeroValue, typeInfo, hit, hzz]
  split at h <;> try exact h.elim
  · rename_i i
    split at h <;> try exact h.elim
    rename_i kk2 agg2 sz l hl
    split at h <;> try exact h.elim
    rename_i c1 c2 c3 c4
    have e1 : kk = kk2 := of_decide_eq_true c1
    have e2 : agg = agg2 := by simpa using c2
    have e3 := Nat.eq_of_beq_eq_true c3
    subst e1; subst e2
    simp only [Den] at hx
    obtain ⟨r, hr, rfl⟩ := hx
    obtain ⟨hw, es, ck, g1, g2⟩ := hi.obj i r _ hr hl
    have hgo : (getObj r.blk).run P W = .ok (.map es ck) W := by simp [getObj, Sem.run, g1]
    rcases findNow_ok (kt := kk0) (n := n) g2 0 with ⟨q1, q2⟩ | ⟨j, c, q1, q2, q3⟩
    · refine ⟨_, _, ?_, okV_den (by simpa using cvc_den σ E z) ok false, h.2 (mix_none q1).1⟩
      unfold Instr.lookup
      simp [run_underlying h1, hgo, run_checkKey h2, Instr.findKey, run_underlying h2, q2, hzero]
    · obtain ⟨c', p1, p2, _⟩ := mix_some q1
      rw [q2] at p1; cases p1
      obtain ⟨vs, xs, hK, hD, hlen, hxs⟩ := loadE_ok (σ := σ) (E := E) (h.1 c p2)
      have hcl : c.length = sz := by
        have := List.mem_of_getElem? q2
        exact hw.len c (List.mem_map.2 ⟨_, this, rfl⟩)
      have hceq : c = xs := by
        apply List.ext_getElem?
        intro q
        rcases Nat.lt_or_ge q xs.length with hq | hq
        · rw [List.getElem?_eq_getElem hq]
          have := hxs q _ (List.getElem?_eq_getElem hq)
          simpa using this
        · rw [List.getElem?_eq_none hq, List.getElem?_eq_none (by omega)]
      subst hceq
      refine ⟨_, _, ?_, okV_den (wrapV_den hD (fun ha => by subst ha; simp at c4; omega)) ok true, hK⟩
      unfold Instr.lookup
      simp [run_underlying h1, hgo, run_checkKey h2, Instr.findKey, run_underlying h2, q3, cellV]
  · simp only [Den] at hx
    subst hx
    refine ⟨_, _, ?_, okV_den (by simpa using cvc_den σ E z) ok false, h⟩
    unfold Instr.lookup
    simp [run_underlying h1, run_checkKey h2, Instr.findKey, run_underlying h2, Instr.findNow, hzero]

/-! ### m[k] = v -/
def updateK (P : Program) (t : TypeId) (m k v : V) (kb : KB) (K : KB → Prop) : Prop :=
  match mapT P t, k with
  | some (_, _, et), .int kk n =>
    match cellsV P et v, tAgg P et, m with
    | some vs, some agg, .mp i => match kb[i]? with
      | some (.mp kk2 agg2 sz l) =>
        match V.vals? vs, decide (kk = kk2), (agg == agg2), Nat.beq vs.length sz, v with
        | some xs, true, true, true, .agg _ => match agg with
          | true => K (kb.set i (.mp kk agg sz (mset l n xs)))
          | false => False
        | some xs, true, true, true, _ => match agg with
          | true => False
          | false => K (kb.set i (.mp kk agg sz (mset l n xs)))
        | _, _, _, _, _ => False
      | _ => False
    | _, _, _ => False
  | _, _ => False

theorem wellE_mset {sz : Nat} {l : ML} (h : wellE sz (l.map (·.2))) {n : Int} {xs : List Value} (h1 : xs.length = sz) (h2 : ∀ y ∈ xs, y.oneCell' = true) : wellE sz ((mset l n xs).map (·.2)) := by
  induction l with
  | nil => intro e he; simp [mset] at he; subst he; exact ⟨h1, h2⟩
  | cons p l ih =>
    obtain ⟨a, c⟩ := p
    have ht : wellE sz (l.map (·.2)) := fun e he => h e (List.mem_cons_of_mem _ he)
    intro e he
    simp only [mset] at he
    split at he
    · simp only [List.map_cons, List.mem_cons] at he
      rcases he with rfl | he
      · exact ⟨h1, h2⟩
      · exact ht e he
    · simp only [List.map_cons, List.mem_cons] at he
      rcases he with rfl | he
      · exact h _ (by simp)
      · exact ih ht e he

theorem run_mapUpdate {P : Program} {t kt et : TypeId} {k0 kk : IntKind} (h1 : P.underlying t = some (.map kt et)) (h2 : P.underlying kt = some (.int k0)) {W : World} {b : Nat} {es : Array MapEntry} {ck : Nat} {agg : Bool} {l : ML}
    (g1 : W.heap[b]? = some (.map es ck)) (g2 : es.toList.map (fun e => (e.key, e.val)) = l.map (entOf kk agg)) (n : Int) {x : Value} {xs : List Value} (hx : x = cellV agg xs) :
    ∃ es' ck', (Instr.mapUpdate t (.map (some b)) (.int kk n) x).run P W = .ok () { W with heap := W.heap.setIfInBounds b (.map es' ck') } ∧ es'.toList.map (fun e => (e.key, e.val)) = (mset l n xs).map (entOf kk agg) := by
  have hgo : (getObj b).run P W = .ok (.map es ck) W := by simp [getObj, Sem.run, g1]
  have hso : ∀ o, (setObj b o).run P W = .ok () { W with heap := W.heap.setIfInBounds b o } := fun o => by simp [setObj, Sem.run, g1]
  have hlt : b < W.heap.size := (Array.getElem?_eq_some_iff.1 g1).1
  rcases findNow_ok (kt := k0) (n := n) g2 0 with ⟨q1, q2⟩ | ⟨j, c, q1, q2, q3⟩
  · refine ⟨es.push { key := .int kk n, val := x, born := ck }, ck + 1, ?_, ?_⟩
    · unfold Instr.mapUpdate
      simp [run_underlying h1, hgo, run_checkKey h2, Instr.findKey, run_underlying h2, q2, hso]
    · rw [(mix_none q1).2]
      simp [g2, entOf, hx]
  · obtain ⟨c', p1, p2, p3⟩ := mix_some q1
    rw [q2] at p1; cases p1
    have hj : j < es.size := by
      have := congrArg List.length g2
      simp only [List.length_map, Array.length_toList] at this
      have := (List.getElem?_eq_some_iff.1 q2).1
      omega
    have hej : es[j]? = some es[j] := Array.getElem?_eq_getElem hj
    have hkey : es[j].key = .int kk n := by
      have := congrArg (fun z => z[j]?) g2
      simp [q2, entOf, hj] at this
      exact this.1
    refine ⟨es.modify j fun e => { e with key := .int kk n, val := x }, ck, ?_, ?_⟩
    · unfold Instr.mapUpdate
      simp [run_underlying h1, hgo, run_checkKey h2, Instr.findKey, run_underlying h2, q3, hso, hej, hkey, Instr.keyThatStays, Instr.sameBits]
    · rw [p3]
      apply List.ext_getElem?
      intro q
      have hq := congrArg (fun z => z[q]?) g2
      simp only [List.getElem?_map] at hq ⊢
      by_cases hjq : q = j
      · subst hjq
        have hl : q < l.length := (List.getElem?_eq_some_iff.1 q2).1
        simp [hj, hl, entOf, hx]
      · rw [List.getElem?_set_ne (fun h => hjq h.symm)]
        simp only [Array.getElem?_toList] at hq ⊢
        rw [Array.getElem?_modify, if_neg (fun h => hjq h.symm)]
        exact hq

theorem updateK_ok {P : Program} {t : TypeId} {m k v : V} {kb : KB} {K : KB → Prop} (h : updateK P t m k v kb K) {σ : Sg} {E : EH} {W : World} (hi : Inv σ E kb W) {x y z : Value} (hx : Den σ E m x) (hy : Den σ E k y) (hz : Den σ E v z) :
    ∃ kb' W', (Instr.mapUpdate t x y z).run P W = .ok () W' ∧ Step σ E kb W σ E kb' W' ∧ K kb' := by
  unfold updateK at h
  split at h <;> try exact h.elim
  rename_i kt kk0 et kk n ht
  obtain ⟨h1, h2⟩ := mapT_ok ht
  simp only [Den] at hy
  subst hy
  split at h <;> try exact h.elim
  rename_i vs agg i hvs ha
  obtain ⟨ys, hc, hD, hone, _⟩ := cellsV_ok hvs hz
  split at h <;> try exact h.elim
  rename_i kk2 agg2 sz l hl
  have main : ∀ xs, V.vals? vs = some xs → kk = kk2 → agg = agg2 → vs.length = sz → z = cellV agg xs → K (kb.set i (.mp kk agg sz (mset l n xs))) →
      ∃ kb' W', (Instr.mapUpdate t x (.int kk n) z).run P W = .ok () W' ∧ Step σ E kb W σ E kb' W' ∧ K kb' := by
    rintro xs hxs rfl rfl hsz hzc hK
    simp only [Den] at hx
    obtain ⟨r, hr, rfl⟩ := hx
    obtain ⟨hw, es, ck, g1, g2⟩ := hi.obj i r _ hr hl
    obtain ⟨es', ck', q1, q2⟩ := run_mapUpdate h1 h2 g1 g2 n hzc
    have hlt : r.blk < W.heap.size := (Array.getElem?_eq_some_iff.1 g1).1
    have e1 := (vals?_den hxs).1 hD
    subst e1
    refine ⟨_, _, q1, hi.set (o' := .mp kk agg sz (mset l n ys)) hr hl rfl rfl rfl (by simp) (fun b hb => ?_) (fun b hb => hb) ⟨wellE_mset hw (by have := hD.len; omega) hone, es', ck', ?_, q2⟩, hK⟩
    · simp only [owned] at hb
      show (W.heap.setIfInBounds r.blk _)[b]? = _
      rw [Array.getElem?_setIfInBounds_ne (fun e => hb e.symm)]
    · show (W.heap.setIfInBounds r.blk _)[r.blk]? = _
      simp [hlt]
  split at h <;> try exact h.elim
  · rename_i xs lv hxs c1 c2 c3
    split at h <;> try exact h.elim
    simp only [Den] at hz
    obtain ⟨us, rfl, _⟩ := hz
    have e1 := (vals?_den hxs).1 hD
    subst e1
    refine main _ hxs (of_decide_eq_true c1) (by simpa using c2) (Nat.eq_of_beq_eq_true c3) ?_ h
    simp only [Value.cells] at hc
    simp [cellV, hc]
  · rename_i xs hxs c1 c2 c3 hna
    split at h <;> try exact h.elim
    have e1 := (vals?_den hxs).1 hD
    subst e1
    refine main _ hxs (of_decide_eq_true c1) (by simpa using c2) (Nat.eq_of_beq_eq_true c3) ?_ h
    unfold cellsV at hvs
    split at hvs
    · rename_i lv _; exact (hna _ rfl).elim
    · split at hvs
      · rename_i o1 o2
        cases hvs
        have := one_den o2 hz
        simp only [DenL] at hD
        obtain ⟨w, ws, rfl, hw1, rfl⟩ := hD
        have hzz : z.cells = #[z] := by cases z <;> simp_all [Value.cells, Value.oneCell']
        rw [hzz] at hc
        have : w = z := by
          have := congrArg Array.toList hc
          simpa using this.symm
        simp [cellV, this]
      · cases hvs
    · cases hvs

def makeMapK (P : Program) (t : TypeId) (kb : KB) (K : V → KB → Prop) : Prop :=
  match mapT P t with
  | some (_, kk, et) => match tSize P et, tAgg P et with
    | some n, some agg => K (.mp kb.length) (kb ++ [.mp kk agg (cellsN agg n) []])
    | _, _ => False
  | none => False
theorem makeMapK_ok {P : Program} {t : TypeId} {kb : KB} {K : V → KB → Prop} (h : makeMapK P t kb K) {σ : Sg} {E : EH} {W : World} (hi : Inv σ E kb W) :
    ∃ v x σ' kb' W', (Instr.makeMap t none).run P W = .ok x W' ∧ Step σ E kb W σ' E kb' W' ∧ Den σ' E v x ∧ K v kb' := by
  unfold makeMapK at h
  split at h <;> try exact h.elim
  split at h <;> try exact h.elim
  rename_i n agg _ _
  refine ⟨_, _, _, _, _, rfl, hi.alloc (.map #[] 0) ⟨W.heap.size, 0, 0⟩ (.mp _ agg (cellsN agg n) []) (fun b hb => hb) ⟨fun e he => (by cases he), #[], 0, ?_, rfl⟩, ?_, h⟩
  · show (W.heap.push _)[W.heap.size]? = _
    simp
  · simp only [Den]
    exact ⟨⟨W.heap.size, 0, 0⟩, by rw [← hi.len]; simp, rfl⟩

def isMapT (P : Program) (t : TypeId) : Bool := match P.underlying t with | some (.map _ _) => true | _ => false
end Vc
