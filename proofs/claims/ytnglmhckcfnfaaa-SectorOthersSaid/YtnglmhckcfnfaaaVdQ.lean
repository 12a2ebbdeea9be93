/- Maps whose keys are numbers, or structs of numbers. -/
import Derived.Test.YtnglmhckcfnfaaaVdH
import Derived.MapKept
set_option linter.unusedSimpArgs false
set_option linter.unusedVariables false
namespace Vc
open Go

abbrev ML := List (List Int × List D)
def mget : ML → List Int → Option (List D)
  | [], _ => none
  | (a, c) :: l, n => if n = a then some c else mget l n
def mset : ML → List Int → List D → ML
  | [], n, v => [(n, v)]
  | (a, c) :: l, n, v => if n = a then (a, v) :: l else (a, c) :: mset l n v
def mdel : ML → List Int → ML
  | [], _ => []
  | (a, c) :: l, n => if n = a then l else (a, c) :: mdel l n
def mix : ML → List Int → Option Nat
  | [], _ => none
  | (a, c) :: l, n => if n = a then some 0 else (mix l n).map (· + 1)

theorem mix_none : ∀ {l : ML} {n : List Int}, mix l n = none → mget l n = none ∧ (∀ v, mset l n v = l ++ [(n, v)]) ∧ mdel l n = l
  | [], n, _ => ⟨rfl, fun v => rfl, rfl⟩
  | (a, c) :: l, n, h => by
    simp only [mix] at h
    split at h
    · cases h
    · rename_i hne
      simp only [Option.map_eq_none_iff] at h
      obtain ⟨h1, h2, h3⟩ := mix_none h
      exact ⟨by simp [mget, hne, h1], fun v => by simp [mset, hne, h2 v], by simp [mdel, hne, h3]⟩
theorem mix_some : ∀ {l : ML} {n : List Int} {j : Nat}, mix l n = some j → ∃ c, l[j]? = some (n, c) ∧ mget l n = some c ∧ (∀ v, mset l n v = l.set j (n, v)) ∧ mdel l n = l.eraseIdx j
  | [], n, j, h => by cases h
  | (a, c) :: l, n, j, h => by
    simp only [mix] at h
    split at h
    · rename_i he
      cases h
      exact ⟨c, by simp [he], by simp [mget, he], fun v => by simp [mset, he], by simp [mdel, he]⟩
    · rename_i hne
      simp only [Option.map_eq_some_iff] at h
      obtain ⟨k, hk, rfl⟩ := h
      obtain ⟨d, h1, h2, h3, h4⟩ := mix_some hk
      exact ⟨d, by simpa using h1, by simp [mget, hne, h2], fun v => by simp [mset, hne, h3 v], by simp [mdel, hne, h4]⟩

/-- Fields that are numbers of these kinds, one behind the other from o on. -/
def fieldsB (P : Program) : Nat → List Field → List IntKind → Bool
  | _, [], [] => true
  | o, f :: fs, k :: ks => match f.name == "_", Nat.beq f.offset o, P.underlying f.type, tAgg P f.type with
    | false, true, some (.int _), some false => fieldsB P (o + 1) fs ks
    | _, _, _, _ => false
  | _, _, _ => false
/-- Are a map's keys, of this type, numbers of these kinds? -/
def keyB (P : Program) (kt : TypeId) (kks : List IntKind) : Bool → Bool
  | false => match P.underlying kt, kks with | some (.int _), [_] => true | _, _ => false
  | true => match P.underlying kt with
    | some (.struct fs) => match P.stoodInHeld kt with | false => fieldsB P 0 fs.toList kks | true => false
    | _ => false

theorem fieldsB_eq {P : Program} {d : Nat} (W : World) : ∀ {fs : List Field} {kks : List IntKind} {o : Nat}, fieldsB P o fs kks = true → ∀ {k k' : List Int}, k.length = kks.length → k'.length = kks.length → ∀ {pre pre' : List Value}, pre.length = o → pre'.length = o →
    (Op.eqFields (d + 1) (pre ++ keyC kks k).toArray (pre' ++ keyC kks k').toArray fs).run P W = .ok (decide (k = k')) W
  | [], [], o, h, k, k', hk, hk', pre, pre', hp, hp' => by
    have h1 : k = [] := List.eq_nil_of_length_eq_zero hk
    have h2 : k' = [] := List.eq_nil_of_length_eq_zero hk'
    subst h1; subst h2
    simp [Op.eqFields]
  | [], _ :: _, o, h, _, _, _, _, _, _, _, _ => by simp [fieldsB] at h
  | _ :: _, [], o, h, _, _, _, _, _, _, _, _ => by simp [fieldsB] at h
  | f :: fs, kk :: kks, o, h, k, k', hk, hk', pre, pre', hp, hp' => by
    simp only [fieldsB] at h
    split at h <;> try (cases h; done)
    rename_i q hn ho hu ha
    have ho := Nat.eq_of_beq_eq_true ho
    have hn' : ¬ f.name = "_" := by simpa using hn
    match k, k', hk, hk' with
    | a :: k, b :: k', hk, hk' =>
      have e1 : (pre ++ keyC (kk :: kks) (a :: k)) = (pre ++ [.int kk a]) ++ keyC kks k := by simp [keyC]
      have e2 : (pre' ++ keyC (kk :: kks) (b :: k')) = (pre' ++ [.int kk b]) ++ keyC kks k' := by simp [keyC]
      have ih := fieldsB_eq (d := d) W h (k := k) (k' := k') (by simpa using hk) (by simpa using hk') (pre := pre ++ [.int kk a]) (pre' := pre' ++ [.int kk b]) (by simp [hp]) (by simp [hp'])
      have p1 : (part f.type (pre ++ keyC (kk :: kks) (a :: k)).toArray f.offset).run P W = .ok (.int kk a) W := by
        simp [part, run_tAgg ha, ho, ← hp, keyC]
      have p2 : (part f.type (pre' ++ keyC (kk :: kks) (b :: k')).toArray f.offset).run P W = .ok (.int kk b) W := by
        simp [part, run_tAgg ha, ho, ← hp', keyC]
      have heq := run_equalIn_int W d f.type kk q a b hu
      simp only [Op.eqFields, ne_eq, hn', not_false_eq_true, if_true, Sem.run_bind, p1, p2, heq, Result.andThen_ok]
      by_cases hab : a = b
      · subst hab
        rw [e1, e2]
        simpa using ih
      · have hb : (a == b) = false := by simpa using hab
        simp [hb, hab]

theorem keyB_eq {P : Program} {kt : TypeId} {kks : List IntKind} (h : keyB P kt kks true = true) {k k' : List Int} (hk : k.length = kks.length) (hk' : k'.length = kks.length) (W : World) :
    (Op.equal kt (cellV true (keyC kks k)) (cellV true (keyC kks k'))).run P W = .ok (decide (k = k')) W := by
  simp only [keyB] at h
  split at h <;> try (cases h; done)
  rename_i fs hu
  split at h <;> try (cases h; done)
  rename_i hst
  have hf : P.fieldsOf kt = fs := by simp [Program.fieldsOf, hu]
  show (Op.equalIn (9998 + 1 + 1) kt _ _).run P W = _
  simp only [cellV, if_true]
  rw [run_equalIn_struct W (9998 + 1) kt _ _ (by rw [hf]; exact hu) hst, hf]
  exact fieldsB_eq (d := 9998) W h hk hk' (pre := []) (pre' := []) rfl rfl

theorem fieldsB_check {P : Program} {b : Bool} {d : Nat} (W : World) {kks0 : List IntKind} {k0 : List Int} : ∀ {fs : List Field} {kks : List IntKind} {o : Nat}, fieldsB P o fs kks = true → ∀ {k : List Int}, k.length = kks.length → ∀ {pre : List Value}, pre.length = o → keyC kks0 k0 = pre ++ keyC kks k →
    (forIn (m := Sem) fs PUnit.unit fun f r => do
      if f.name ≠ "_" then do
        Instr.checkKey b (d + 1) f.type (← part f.type (keyC kks0 k0).toArray f.offset)
        pure (.yield PUnit.unit)
      else pure (.yield PUnit.unit)).run P W = .ok PUnit.unit W
  | [], kks, o, h, k, hk, pre, hp, he => by simp
  | _ :: _, [], o, h, _, _, _, _, _ => by simp [fieldsB] at h
  | f :: fs, kk :: kks, o, h, k, hk, pre, hp, he => by
    simp only [fieldsB] at h
    split at h <;> try (cases h; done)
    rename_i q hn ho hu ha
    have ho := Nat.eq_of_beq_eq_true ho
    have hn' : ¬ f.name = "_" := by simpa using hn
    match k, hk with
    | a :: k, hk =>
      have p1 : (part f.type (keyC kks0 k0).toArray f.offset).run P W = .ok (.int kk a) W := by
        rw [he]; simp [part, run_tAgg ha, ho, ← hp, keyC]
      have hc : (Instr.checkKey b (d + 1) f.type (.int kk a)).run P W = .ok () W := by
        unfold Instr.checkKey
        rw [Sem.run_bind, run_underlying hu, Result.andThen_ok]
        rfl
      have ih := fieldsB_check (b := b) (d := d) W h (k := k) (by simpa using hk) (pre := pre ++ [.int kk a]) (by simp [hp]) (by rw [he]; simp [keyC])
      simp only [List.forIn_cons, ne_eq, hn', not_false_eq_true, if_true, Sem.run_bind, p1, hc, Result.andThen_ok, Sem.run_pure]
      simpa using ih

theorem run_checkKey {P : Program} {kt : TypeId} {kks : List IntKind} {kagg : Bool} (h : keyB P kt kks kagg = true) {k : List Int} (hk : k.length = kks.length) (b : Bool) (W : World) : (Instr.checkKey b 10000 kt (cellV kagg (keyC kks k))).run P W = .ok () W := by
  show (Instr.checkKey b (9998 + 1 + 1) kt _).run P W = .ok () W
  cases kagg with
  | false =>
    simp only [keyB] at h
    split at h <;> try (cases h; done)
    rename_i q kk hu
    match k, hk with
    | [a], _ =>
      unfold Instr.checkKey
      rw [Sem.run_bind, run_underlying hu, Result.andThen_ok]
      rfl
  | true =>
    simp only [keyB] at h
    split at h <;> try (cases h; done)
    rename_i fs hu
    split at h <;> try (cases h; done)
    unfold Instr.checkKey
    rw [Sem.run_bind, run_underlying hu, Result.andThen_ok]
    simp only [cellV, if_true]
    have := fieldsB_check (b := b) (d := 9998) W h hk (pre := []) rfl rfl
    rw [Sem.run_bind, ← Array.forIn_toList, this]
    rfl

theorem findNow_ok {E : EH} {kk kt : IntKind} {agg : Bool} {n : Int} : ∀ {l : ML} {es : List MapEntry}, EntL E [kk] false agg es l → ∀ i,
    (mix l [n] = none ∧ Instr.findNow (.int kt) (.int kk n) es i = some none) ∨ ∃ j c e, mix l [n] = some j ∧ l[j]? = some ([n], c) ∧ es[j]? = some e ∧ Instr.findNow (.int kt) (.int kk n) es i = some (some (i + j, e.val))
  | l, [], h, i => by
    simp only [EntL] at h
    subst h
    exact .inl ⟨rfl, rfl⟩
  | l, e :: es, h, i => by
    simp only [EntL] at h
    obtain ⟨k, c, l', rfl, ⟨hkl, hk, _⟩, h3⟩ := h
    match k, hkl with
    | [a], _ =>
    have h1 : e.key = .int kk a := by simpa [cellV, keyC] using hk
    by_cases he : n = a
    · right
      refine ⟨0, c, e, by simp [mix, he], by simp [he], rfl, ?_⟩
      simp [Instr.findNow, Instr.sameNow, h1, he]
    · have hb : (n == a) = false := by simpa using he
      have := findNow_ok (n := n) (kt := kt) h3 (i + 1)
      rcases this with ⟨k1, k2⟩ | ⟨j, d, e', k1, k2, k3, k4⟩
      · exact .inl ⟨by simp [mix, he, k1], by simp [Instr.findNow, Instr.sameNow, h1, hb, k2]⟩
      · exact .inr ⟨j + 1, d, e', by simp [mix, he, k1], by simpa using k2, by simpa using k3, by simp [Instr.findNow, Instr.sameNow, h1, hb, k4]; omega⟩

theorem findAsk_ok {P : Program} {E : EH} {kt : TypeId} {kks : List IntKind} {agg : Bool} (hkb : keyB P kt kks true = true) {n : List Int} (hn : n.length = kks.length) (W : World) : ∀ {l : ML} {es : List MapEntry}, EntL E kks true agg es l → ∀ i,
    (mix l n = none ∧ (Instr.findAsking kt (cellV true (keyC kks n)) es i).run P W = .ok none W) ∨ ∃ j c e, mix l n = some j ∧ l[j]? = some (n, c) ∧ es[j]? = some e ∧ (Instr.findAsking kt (cellV true (keyC kks n)) es i).run P W = .ok (some (i + j, e.val)) W
  | l, [], h, i => by
    simp only [EntL] at h
    subst h
    exact .inl ⟨rfl, rfl⟩
  | l, e :: es, h, i => by
    simp only [EntL] at h
    obtain ⟨k, c, l', rfl, ⟨hkl, hk, _⟩, h3⟩ := h
    have heq := keyB_eq hkb hn hkl W
    rw [← hk] at heq
    by_cases he : n = k
    · right
      refine ⟨0, c, e, by simp [mix, he], by simp [he], rfl, ?_⟩
      simp only [Instr.findAsking, Sem.run_bind, heq, Result.andThen_ok]
      simp [he]
    · have := findAsk_ok hkb hn W h3 (i + 1)
      rcases this with ⟨k1, k2⟩ | ⟨j, d, e', k1, k2, k3, k4⟩
      · refine .inl ⟨by simp [mix, he, k1], ?_⟩
        simp only [Instr.findAsking, Sem.run_bind, heq, Result.andThen_ok]
        simpa [he] using k2
      · refine .inr ⟨j + 1, d, e', by simp [mix, he, k1], by simpa using k2, by simpa using k3, ?_⟩
        simp only [Instr.findAsking, Sem.run_bind, heq, Result.andThen_ok]
        rw [show i + (j + 1) = i + 1 + j by omega]
        simpa [he] using k4

theorem findKey_ok {P : Program} {E : EH} {kt : TypeId} {kks : List IntKind} {kagg agg : Bool} (hkb : keyB P kt kks kagg = true) {n : List Int} (hn : n.length = kks.length) (W : World) {l : ML} {es : List MapEntry} (h : EntL E kks kagg agg es l) :
    (mix l n = none ∧ (Instr.findKey kt (cellV kagg (keyC kks n)) es).run P W = .ok none W) ∨ ∃ j c e, mix l n = some j ∧ l[j]? = some (n, c) ∧ es[j]? = some e ∧ (Instr.findKey kt (cellV kagg (keyC kks n)) es).run P W = .ok (some (j, e.val)) W := by
  cases kagg with
  | false =>
    have hkb' := hkb
    simp only [keyB] at hkb'
    split at hkb' <;> try (cases hkb'; done)
    rename_i q kk hu
    match n, hn with
    | [a], _ =>
      have e0 : cellV false (keyC [kk] [a]) = .int kk a := rfl
      rw [e0]
      rcases findNow_ok (kt := q) (n := a) h 0 with ⟨q1, q2⟩ | ⟨j, c, e, q1, q2, q3, q4⟩
      · exact .inl ⟨q1, by simp [Instr.findKey, run_underlying hu, q2]⟩
      · exact .inr ⟨j, c, e, q1, q2, q3, by simp [Instr.findKey, run_underlying hu, q4]⟩
  | true =>
    have hkb' := hkb
    simp only [keyB] at hkb'
    split at hkb' <;> try (cases hkb'; done)
    rename_i fs hu
    cases es with
    | nil =>
      simp only [EntL] at h
      subst h
      exact .inl ⟨rfl, by simp [Instr.findKey, run_underlying hu, Instr.findNow]⟩
    | cons e es =>
      have hnone : Instr.findNow (.struct fs) (cellV true (keyC kks n)) (e :: es) 0 = none := by
        simp only [EntL] at h
        obtain ⟨k, c, l', rfl, ⟨_, hk, _⟩, _⟩ := h
        simp [Instr.findNow, Instr.sameNow]
      rcases findAsk_ok hkb hn W h 0 with ⟨q1, q2⟩ | ⟨j, c, e', q1, q2, q3, q4⟩
      · exact .inl ⟨q1, by simp [Instr.findKey, run_underlying hu, hnone, q2]⟩
      · exact .inr ⟨j, c, e', q1, q2, q3, by simp [Instr.findKey, run_underlying hu, hnone, q4]⟩

/-! ### Keys -/
def intsOf : List V → Option (List IntKind × List Int)
  | [] => some ([], [])
  | .int k n :: vs => match intsOf vs with | some (ks, ns) => some (k :: ks, n :: ns) | none => none
  | .lit k n :: vs => match intsOf vs with | some (ks, ns) => some (k :: ks, n :: ns) | none => none
  | _ => none
theorem intsOf_ok : ∀ {vs : List V} {ks : List IntKind} {ns : List Int}, intsOf vs = some (ks, ns) → ∀ {σ : Sg} {E : EH} {xs : List Value}, DenC σ E vs xs → ns.length = ks.length ∧ xs = keyC ks ns
  | [], ks, ns, h, σ, E, xs, hd => by
    simp [intsOf] at h
    obtain ⟨rfl, rfl⟩ := h
    simp only [DenC] at hd
    exact ⟨rfl, hd⟩
  | v :: vs, ks, ns, h, σ, E, xs, hd => by
    obtain ⟨ys, zs, rfl, h1, h2⟩ := hd.uncons
    have main : ∀ {k : IntKind} {n : Int}, (∀ y, Den σ E v y → y = .int k n) → (∀ m cs, v ≠ .arr m cs) → (match intsOf vs with | some (ks, ns) => some (k :: ks, n :: ns) | none => none) = some (ks, ns) → ns.length = ks.length ∧ ys ++ zs = keyC ks ns := by
      intro k n hv hna h
      split at h <;> try (cases h; done)
      rename_i ks' ns' hi
      simp only [Option.some.injEq, Prod.mk.injEq] at h
      obtain ⟨rfl, rfl⟩ := h
      obtain ⟨h3, rfl⟩ := intsOf_ok hi h2
      rcases h1 with ⟨y, rfl, _, hy⟩ | ⟨m, cs, e, _, _⟩
      · rw [hv y hy]; exact ⟨by simp [h3], rfl⟩
      · exact (hna m cs e).elim
    cases v with
    | int k n => exact main (fun y hy => by simpa only [Den] using hy) (fun _ _ h => by cases h) (by simpa only [intsOf] using h)
    | lit k n => exact main (fun y hy => by simpa only [Den] using hy) (fun _ _ h => by cases h) (by simpa only [intsOf] using h)
    | _ => simp [intsOf] at h
/-- A key: is it an agg, its kinds, its numbers. -/
def keyV : V → Option (Bool × List IntKind × List Int)
  | .int k n => some (false, [k], [n])
  | .lit k n => some (false, [k], [n])
  | .agg l => match intsOf l with | some (ks, ns) => some (true, ks, ns) | none => none
  | _ => none
theorem keyV_ok {v : V} {b : Bool} {ks : List IntKind} {ns : List Int} (h : keyV v = some (b, ks, ns)) {σ : Sg} {E : EH} {x : Value} (hd : Den σ E v x) : ns.length = ks.length ∧ x = cellV b (keyC ks ns) := by
  unfold keyV at h
  split at h
  · simp only [Option.some.injEq, Prod.mk.injEq] at h
    obtain ⟨rfl, rfl, rfl⟩ := h
    exact ⟨rfl, by simpa [Den, cellV, keyC] using hd⟩
  · simp only [Option.some.injEq, Prod.mk.injEq] at h
    obtain ⟨rfl, rfl, rfl⟩ := h
    exact ⟨rfl, by simpa [Den, cellV, keyC] using hd⟩
  · split at h <;> try (cases h; done)
    rename_i l ks' ns' hi
    simp only [Option.some.injEq, Prod.mk.injEq] at h
    obtain ⟨rfl, rfl, rfl⟩ := h
    simp only [Den] at hd
    obtain ⟨xs, rfl, hD⟩ := hd
    obtain ⟨h1, rfl⟩ := intsOf_ok hi hD
    exact ⟨h1, by simp [cellV]⟩
  · cases h
def kksEq : List IntKind → List IntKind → Bool
  | [], [] => true
  | a :: l, b :: m => match decide (a = b) with | true => kksEq l m | false => false
  | _, _ => false
theorem kksEq_ok : ∀ {l m : List IntKind}, kksEq l m = true → l = m
  | [], [], _ => rfl
  | a :: l, b :: m, h => by
    simp only [kksEq] at h
    split at h
    · rename_i e; rw [of_decide_eq_true e, kksEq_ok h]
    · cases h
  | [], _ :: _, h => by simp [kksEq] at h
  | _ :: _, [], h => by simp [kksEq] at h

/-- The key's and the value's type. -/
def mapT (P : Program) (t : TypeId) : Option (TypeId × TypeId) :=
  match P.underlying t with
  | some (.map kt et) => some (kt, et)
  | _ => none
theorem mapT_ok {P : Program} {t kt et : TypeId} (h : mapT P t = some (kt, et)) : P.underlying t = some (.map kt et) := by
  unfold mapT at h
  split at h
  · rename_i kt' et' h1
    cases h; exact h1
  · cases h

def okV (ok : Bool) (v : V) (b : Bool) : V := match ok with | true => .tup [v, match b with | true => .tt | false => .ff] | false => v
theorem okV_den {σ : Sg} {E : EH} {v : V} {x : Value} (h : Den σ E v x) (ok b : Bool) : Den σ E (okV ok v b) (if ok then .tuple #[x, .bool b] else x) := by
  cases ok with
  | false => exact h
  | true =>
    simp only [okV, Den, if_true]
    refine ⟨[x, .bool b], rfl, .cons h (.cons ?_ .nil)⟩
    cases b <;> simp [Den]

/-- What a missing entry gives. -/
def zeroT (P : Program) (et : TypeId) (agg : Bool) (K : V → Prop) : Prop :=
  match (P.info? et).bind (·.zero), kindsOf P 20 et with
  | some z, some ks => match agg, z with
    | true, .agg cs => match zeroC ks cs.toList with | some vs => K (.agg vs) | none => False
    | false, _ => K (cvc z)
    | _, _ => False
  | _, _ => False
theorem zeroT_ok {P : Program} {et : TypeId} {agg : Bool} {K : V → Prop} (h : zeroT P et agg K) (σ : Sg) (E : EH) (W : World) : ∃ v z, (zeroValue et).run P W = .ok z W ∧ Den σ E v z ∧ K v := by
  unfold zeroT at h
  split at h <;> try exact h.elim
  rename_i z ks hz hks
  obtain ⟨it, hit, hzz⟩ := Option.bind_eq_some_iff.1 hz
  have hzero : (zeroValue et).run P W = .ok z W := by simp [zeroValue, typeInfo, hit, hzz]
  split at h
  · split at h <;> try exact h.elim
    rename_i vs hvs
    exact ⟨_, _, hzero, by simp only [Den]; exact ⟨_, by simp, zeroC_ok σ E hvs⟩, h⟩
  · exact ⟨_, _, hzero, cvc_den σ E _, h⟩
  · exact h.elim

/-! #### What an entry of numbers, bools and slices gives, without a case -/
def iv : D → Int
  | .val (.int _ n) => n
  | _ => 0
def bv : D → Bool
  | .val (.bool b) => b
  | _ => false
def sv : D → List (List D)
  | .sl _ l => l
  | _ => []
/-- Cell j of the entry at n, as a number; 0: there is none. -/
def mgetI (l : ML) (n : List Int) (j : Nat) : Int := match mget l n with | some cs => iv (cs[j]?.getD (.val (.bool false))) | none => 0
def mgetB (l : ML) (n : List Int) (j : Nat) : Bool := match mget l n with | some cs => bv (cs[j]?.getD (.val (.int .i64 0))) | none => false
def mgetS (l : ML) (n : List Int) (j : Nat) : List (List D) := match mget l n with | some cs => sv (cs[j]?.getD (.val (.int .i64 0))) | none => []
def mhas (l : ML) (n : List Int) : Bool := match mget l n with | some _ => true | none => false
/-- Is an entry of these kinds? -/
def ConfK : List CK → List D → Prop
  | [], ds => ds = []
  | .int k :: ks, ds => ∃ n ds', ds = .val (.int k n) :: ds' ∧ ConfK ks ds'
  | .bool :: ks, ds => ∃ b ds', ds = .val (.bool b) :: ds' ∧ ConfK ks ds'
  | .sl s :: ks, ds => ∃ l ds', ds = .sl s l :: ds' ∧ ConfK ks ds'
  | _ :: _, _ => False
def simpleK : List CK → Bool
  | [] => true
  | .int _ :: ks => simpleK ks
  | .bool :: ks => simpleK ks
  | .sl _ :: ks => simpleK ks
  | _ :: _ => false
def vsOf (l : ML) (n : List Int) : Nat → List CK → List V
  | _, [] => []
  | j, .int k :: ks => .int k (mgetI l n j) :: vsOf l n (j + 1) ks
  | j, .bool :: ks => .sb (mgetB l n j) :: vsOf l n (j + 1) ks
  | j, .sl s :: ks => .dat (.sl s (mgetS l n j)) :: vsOf l n (j + 1) ks
  | j, _ :: ks => vsOf l n (j + 1) ks
def zeroB : List CK → List Value → Bool
  | [], [] => true
  | .int k :: ks, .int k' n :: cs => decide (k = k') && decide (n = 0) && zeroB ks cs
  | .bool :: ks, .bool b :: cs => !b && zeroB ks cs
  | .sl _ :: ks, .slice none 0 0 :: cs => zeroB ks cs
  | _, _ => false
theorem vsOf_some (σ : Sg) {E : EH} {l : ML} {n : List Int} {cs0 : List D} (hm : mget l n = some cs0) : ∀ {ks : List CK} {cs : List D} {j : Nat}, (∀ i, cs[i]? = cs0[j + i]?) → ConfK ks cs → ∀ {ys : List Value}, DenD E cs ys → DenC σ E (vsOf l n j ks) ys
  | [], cs, j, hj, hc, ys, hd => by
    simp only [ConfK] at hc
    subst hc
    simp only [DenD] at hd
    subst hd
    exact .nil
  | k :: ks, cs, j, hj, hc, ys, hd => by
    have next : ∀ {d : D} {ds' : List D} {v : V}, cs = d :: ds' → ConfK ks ds' → (∀ x, RepD E d x → Den σ E v x) → vsOf l n j (k :: ks) = v :: vsOf l n (j + 1) ks → DenC σ E (vsOf l n j (k :: ks)) ys := by
      rintro d ds' v rfl hc' hv he
      simp only [DenD] at hd
      obtain ⟨x, xs, rfl, h1, h2⟩ := hd
      rw [he]
      exact .cons1 (hv x h1) h1.one (vsOf_some σ hm (fun i => by have := hj (i + 1); rw [show j + 1 + i = j + (i + 1) by omega, ← this]; simp) hc' h2)
    have h0 := hj 0
    simp only [Nat.add_zero] at h0
    cases k with
    | int kk =>
      simp only [ConfK] at hc
      obtain ⟨m, ds', rfl, hc'⟩ := hc
      refine next rfl hc' (fun x hx => ?_) rfl
      simp only [RepD] at hx
      simp only [Den, hx.1, mgetI, hm, ← h0]
      rfl
    | bool =>
      simp only [ConfK] at hc
      obtain ⟨m, ds', rfl, hc'⟩ := hc
      refine next rfl hc' (fun x hx => ?_) rfl
      simp only [RepD] at hx
      simp only [Den, hx.1, mgetB, hm, ← h0]
      rfl
    | sl s =>
      simp only [ConfK] at hc
      obtain ⟨m, ds', rfl, hc'⟩ := hc
      refine next rfl hc' (fun x hx => ?_) rfl
      simp only [Den, mgetS, hm, ← h0]
      exact hx
    | other => exact hc.elim
    | arr m z => exact hc.elim
theorem vsOf_none (σ : Sg) (E : EH) {l : ML} {n : List Int} (hm : mget l n = none) : ∀ {ks : List CK} {cs : List Value} {j : Nat}, zeroB ks cs = true → DenC σ E (vsOf l n j ks) cs
  | [], [], j, _ => .nil
  | [], _ :: _, j, h => by simp [zeroB] at h
  | .int kk :: ks, [], j, h => by simp [zeroB] at h
  | .bool :: ks, [], j, h => by simp [zeroB] at h
  | .sl s :: ks, [], j, h => by simp [zeroB] at h
  | .other :: ks, cs, j, h => by simp [zeroB] at h
  | .arr m z :: ks, cs, j, h => by simp [zeroB] at h
  | .int kk :: ks, c :: cs, j, h => by
    cases c <;> simp only [zeroB, Bool.and_eq_true, decide_eq_true_eq, Bool.false_eq_true] at h
    obtain ⟨⟨rfl, rfl⟩, h⟩ := h
    exact .cons1 (by simp [Den, mgetI, hm]) rfl (vsOf_none σ E hm h)
  | .bool :: ks, c :: cs, j, h => by
    cases c <;> simp only [zeroB, Bool.and_eq_true, Bool.not_eq_true', Bool.false_eq_true] at h
    obtain ⟨rfl, h⟩ := h
    exact .cons1 (by simp [Den, mgetB, hm]) rfl (vsOf_none σ E hm h)
  | .sl s :: ks, c :: cs, j, h => by
    unfold zeroB at h
    split at h
    · rename_i e _; cases e
    · rename_i e _; cases e
    · rename_i e _; cases e
    · rename_i e1 e2
      cases e1; cases e2
      exact .cons1 (by simp only [Den, mgetS, hm, RepD]; exact ⟨none, 0, rfl, Nat.le_refl _, .inl rfl⟩) rfl (vsOf_none σ E hm h)
    · cases h

def okX (ok : Bool) (v b : V) : V := match ok with | true => .tup [v, b] | false => v
theorem okX_den {σ : Sg} {E : EH} {v u : V} {x : Value} {b : Bool} (h : Den σ E v x) (hb : Den σ E u (.bool b)) (ok : Bool) : Den σ E (okX ok v u) (if ok then .tuple #[x, .bool b] else x) := by
  cases ok with
  | false => exact h
  | true =>
    simp only [okX, Den, if_true]
    exact ⟨[x, .bool b], rfl, .cons h (.cons hb .nil)⟩

def lookupK (P : Program) (t : TypeId) (m k : V) (ok : Bool) (kb : KB) (K : V → Prop) : Prop :=
  match mapT P t, keyV k with
  | some (kt, et), some (ka, ks, ns) =>
    match tAgg P et, kindsOf P 20 et, keyB P kt ks ka with
    | some agg, some cks, true =>
      match m with
      | .mp i => match kb[i]? with
        | some (.mp kks kagg agg2 sz l) =>
          match kksEq ks kks, (ka == kagg), (agg == agg2), Nat.beq (wk cks) sz with
          | true, true, true, true => match simpleK cks, (P.info? et).bind (·.zero) with
            | true, some z => match zeroB cks z.cells.toList, (match z with | .agg _ => agg | _ => !agg) with
              | true, true => (∀ cs, mget l ns = some cs → ConfK cks cs) ∧ wrapK agg (vsOf l ns 0 cks) (fun v => K (okX ok v (.sb (mhas l ns))))
              | _, _ => False
            | _, _ => (∀ cs, mget l ns = some cs → loadE cs 0 cks (fun vs => wrapK agg vs (fun v => K (okV ok v true)))) ∧ (mget l ns = none → zeroT P et agg (fun v => K (okV ok v false)))
          | _, _, _, _ => False
        | _ => False
      | .any (.map none) => zeroT P et agg (fun v => K (okV ok v false))
      | _ => False
    | _, _, _ => False
  | _, _ => False

theorem EntL.at {E : EH} {kks : List IntKind} {kagg agg : Bool} : ∀ {es : List MapEntry} {l : ML}, EntL E kks kagg agg es l → ∀ {j : Nat} {p : List Int × List D}, l[j]? = some p → ∃ e, es[j]? = some e ∧ p.1.length = kks.length ∧ e.key = cellV kagg (keyC kks p.1) ∧ ∃ ys, e.val = cellV agg ys ∧ DenD E p.2 ys
  | [], l, h, j, p, hj => by simp only [EntL] at h; subst h; simp at hj
  | e :: es, l, h, j, p, hj => by
    simp only [EntL] at h
    obtain ⟨k, c, l', rfl, h1, h2⟩ := h
    cases j with
    | zero => simp at hj; subst hj; exact ⟨e, rfl, h1⟩
    | succ j => simpa using h2.at (j := j) (by simpa using hj)

theorem lookupK_ok {P : Program} {t : TypeId} {m k : V} {ok : Bool} {kb : KB} {K : V → Prop} (h : lookupK P t m k ok kb K) {σ : Sg} {E : EH} {W : World} (hi : Inv σ E kb W) {x y : Value} (hx : Den σ E m x) (hy : Den σ E k y) :
    ∃ v z, (Instr.lookup t x y ok).run P W = .ok z W ∧ Den σ E v z ∧ K v := by
  unfold lookupK at h
  split at h <;> try exact h.elim
  rename_i kt et ka ks ns ht hk
  have h1 := mapT_ok ht
  obtain ⟨hnl, rfl⟩ := keyV_ok hk hy
  split at h <;> try exact h.elim
  rename_i agg cks ha hcks hkb
  split at h <;> try exact h.elim
  · rename_i i
    split at h <;> try exact h.elim
    rename_i kks kagg agg2 sz l hl
    split at h <;> try exact h.elim
    rename_i c1 c2 c3 c4
    have e1 := kksEq_ok c1
    have e2 : ka = kagg := by simpa using c2
    have e3 : agg = agg2 := by simpa using c3
    have e4 := Nat.eq_of_beq_eq_true c4
    subst e1; subst e2; subst e3
    simp only [Den] at hx
    obtain ⟨r, hr, rfl⟩ := hx
    obtain ⟨hw, es, ck, g1, g2, _⟩ := hi.obj i r _ hr hl
    have hgo : (getObj r.blk).run P W = .ok (.map es ck) W := by simp [getObj, Sem.run, g1]
    have found : ∀ {j : Nat} {c : List D} {e : MapEntry}, mix l ns = some j → l[j]? = some (ns, c) → es.toList[j]? = some e → ∃ ys, mget l ns = some c ∧ (if agg = true then Value.agg ys.toArray else ys.getD 0 undef) = e.val ∧ DenD E c ys ∧ ys.length = sz := by
      intro j c e q1 q2 q3
      obtain ⟨c', p1, p2, _, _⟩ := mix_some q1
      rw [q2] at p1; cases p1
      obtain ⟨e', he', _, _, ys, hv, hD⟩ := g2.at q2
      rw [q3] at he'; cases he'
      exact ⟨ys, p2, hv.symm, hD, by rw [hD.len]; exact hw c (List.mem_map.2 ⟨_, List.mem_of_getElem? q2, rfl⟩)⟩
    split at h
    · rename_i z hsim hz
      split at h <;> try exact h.elim
      rename_i hzb hza
      obtain ⟨hconf, h⟩ := h
      obtain ⟨it, hit, hzz⟩ := Option.bind_eq_some_iff.1 hz
      have hzero : (zeroValue et).run P W = .ok z W := by simp [zeroValue, typeInfo, hit, hzz]
      rcases findKey_ok hkb hnl W g2 with ⟨q1, q2⟩ | ⟨j, c, e, q1, q2, q3, q4⟩
      · have hm := (mix_none q1).1
        have hh : mhas l ns = false := by simp [mhas, hm]
        obtain ⟨v, k1, k2, k3⟩ := wrapK_ok h (vsOf_none σ E hm hzb)
        have hze : (if agg = true then Value.agg z.cells.toList.toArray else z.cells.toList.getD 0 undef) = z := by
          cases z <;> cases agg <;> simp_all [Value.cells]
        rw [hze] at k2
        refine ⟨_, _, ?_, okX_den (b := false) k2 (by simp [Den, hh]) ok, k1⟩
        unfold Instr.lookup
        simp [run_underlying h1, hgo, run_checkKey hkb hnl, q2, hzero]
      · obtain ⟨ys, p2, hv, hD, hyl⟩ := found q1 q2 q3
        have hh : mhas l ns = true := by simp [mhas, p2]
        obtain ⟨v, k1, k2, k3⟩ := wrapK_ok h (vsOf_some σ p2 (cs := c) (j := 0) (fun i => by rw [Nat.zero_add]) (hconf c p2) hD)
        rw [hv] at k2
        refine ⟨_, _, ?_, okX_den (b := true) k2 (by simp [Den, hh]) ok, k1⟩
        unfold Instr.lookup
        simp [run_underlying h1, hgo, run_checkKey hkb hnl, q4]
    rcases findKey_ok hkb hnl W g2 with ⟨q1, q2⟩ | ⟨j, c, e, q1, q2, q3, q4⟩
    · obtain ⟨v, z, z1, z2, z3⟩ := zeroT_ok (h.2 (mix_none q1).1) σ E W
      refine ⟨_, _, ?_, okV_den z2 ok false, z3⟩
      unfold Instr.lookup
      simp [run_underlying h1, hgo, run_checkKey hkb hnl, q2, z1]
    · obtain ⟨ys, p2, hv, hD, hyl⟩ := found q1 q2 q3
      obtain ⟨vs, xs, hK, hDC, hlen, hxs⟩ := loadE_ok (σ := σ) hD (h.1 c p2)
      obtain ⟨v, k1, k2, k3⟩ := wrapK_ok hK hDC
      have hceq : ys = xs := by
        apply List.ext_getElem?
        intro q
        rcases Nat.lt_or_ge q xs.length with hq | hq
        · rw [List.getElem?_eq_getElem hq]
          have := hxs q _ (List.getElem?_eq_getElem hq)
          simpa using this
        · rw [List.getElem?_eq_none hq, List.getElem?_eq_none (by omega)]
      subst hceq
      refine ⟨_, _, ?_, okV_den k2 ok true, k1⟩
      rw [hv]
      unfold Instr.lookup
      simp [run_underlying h1, hgo, run_checkKey hkb hnl, q4]
  · simp only [Den] at hx
    subst hx
    obtain ⟨v, z, z1, z2, z3⟩ := zeroT_ok h σ E W
    refine ⟨_, _, ?_, okV_den z2 ok false, z3⟩
    have q2 : (Instr.findKey kt (cellV ka (keyC ks ns)) []).run P W = .ok none W := by
      have hkb' := hkb
      cases ka <;> simp only [keyB] at hkb' <;> split at hkb' <;> (try (cases hkb'; done)) <;> (rename_i hu; simp [Instr.findKey, run_underlying hu, Instr.findNow])
    unfold Instr.lookup
    simp [run_underlying h1, run_checkKey hkb hnl, q2, z1]

/-! ### m[k] = v -/
def updateK (P : Program) (t : TypeId) (m k v : V) (kb : KB) (K : KB → Prop) : Prop :=
  match mapT P t, keyV k, m with
  | some (kt, et), some (ka, ks, ns), .mp i =>
    match tAgg P et, tSize P et, keyB P kt ks ka with
    | some agg, some n, true => match agg, v with
      | true, .agg _ => cellsD P et v kb (fun ds kb => match kb[i]? with
        | some (.mp kks kagg agg2 sz l) => match kksEq ks kks, (ka == kagg), agg2, Nat.beq n sz with
          | true, true, true, true => K (kb.set i (.mp kks kagg agg2 sz (mset l ns ds)))
          | _, _, _, _ => False
        | _ => False)
      | false, .agg _ => False
      | false, _ => cellsD P et v kb (fun ds kb => match kb[i]? with
        | some (.mp kks kagg agg2 sz l) => match kksEq ks kks, (ka == kagg), agg2, Nat.beq n sz with
          | true, true, false, true => K (kb.set i (.mp kks kagg agg2 sz (mset l ns ds)))
          | _, _, _, _ => False
        | _ => False)
      | _, _ => False
    | _, _, _ => False
  | _, _, _ => False

theorem wl_mset {sz : Nat} {l : ML} (h : wl sz (l.map (·.2))) {n : List Int} {xs : List D} (h1 : xs.length = sz) : wl sz ((mset l n xs).map (·.2)) := by
  induction l with
  | nil => intro e he; simp [mset] at he; subst he; exact h1
  | cons p l ih =>
    obtain ⟨a, c⟩ := p
    have ht : wl sz (l.map (·.2)) := fun e he => h e (List.mem_cons_of_mem _ he)
    intro e he
    simp only [mset] at he
    split at he
    · simp only [List.map_cons, List.mem_cons] at he
      rcases he with rfl | he
      · exact h1
      · exact ht e he
    · simp only [List.map_cons, List.mem_cons] at he
      rcases he with rfl | he
      · exact h _ (by simp)
      · exact ih ht e he

theorem EntL.push {E : EH} {kks : List IntKind} {kagg agg : Bool} : ∀ {es : List MapEntry} {l : ML}, EntL E kks kagg agg es l → ∀ {e : MapEntry} {k : List Int} {c : List D}, (k.length = kks.length ∧ e.key = cellV kagg (keyC kks k) ∧ ∃ ys, e.val = cellV agg ys ∧ DenD E c ys) → EntL E kks kagg agg (es ++ [e]) (l ++ [(k, c)])
  | [], l, h, e, k, c, he => by
    simp only [EntL] at h; subst h
    simp only [List.nil_append, EntL]
    exact ⟨k, c, [], rfl, he, rfl⟩
  | e' :: es, l, h, e, k, c, he => by
    simp only [EntL] at h
    obtain ⟨k', c', l', rfl, h1, h2⟩ := h
    simp only [List.cons_append, EntL]
    exact ⟨k', c', _, rfl, h1, h2.push he⟩
theorem EntL.set {E : EH} {kks : List IntKind} {kagg agg : Bool} : ∀ {es : List MapEntry} {l : ML}, EntL E kks kagg agg es l → ∀ (j : Nat) {e : MapEntry} {k : List Int} {c : List D}, (k.length = kks.length ∧ e.key = cellV kagg (keyC kks k) ∧ ∃ ys, e.val = cellV agg ys ∧ DenD E c ys) → EntL E kks kagg agg (es.set j e) (l.set j (k, c))
  | [], l, h, j, e, k, c, he => by simp only [EntL] at h; subst h; simp [EntL]
  | e' :: es, l, h, j, e, k, c, he => by
    simp only [EntL] at h
    obtain ⟨k', c', l', rfl, h1, h2⟩ := h
    cases j with
    | zero => simp only [List.set_cons_zero, EntL]; exact ⟨k, c, l', rfl, he, h2⟩
    | succ j => simp only [List.set_cons_succ, EntL]; exact ⟨k', c', _, rfl, h1, h2.set j he⟩
theorem EntL.erase {E : EH} {kks : List IntKind} {kagg agg : Bool} : ∀ {es : List MapEntry} {l : ML}, EntL E kks kagg agg es l → ∀ (j : Nat), EntL E kks kagg agg (es.eraseIdx j) (l.eraseIdx j)
  | [], l, h, j => by simp only [EntL] at h; subst h; simp [EntL]
  | e' :: es, l, h, j => by
    simp only [EntL] at h
    obtain ⟨k', c', l', rfl, h1, h2⟩ := h
    cases j with
    | zero => simpa using h2
    | succ j => simp only [List.eraseIdx_cons_succ, EntL]; exact ⟨k', c', _, rfl, h1, h2.erase j⟩

theorem sameBits_key (kagg : Bool) (kks : List IntKind) (k : List Int) (h : k.length = kks.length) (hc : kagg = false → kks.length = 1) : Instr.sameBits 10000 (cellV kagg (keyC kks k)) (cellV kagg (keyC kks k)) = true := by
  cases kagg with
  | false =>
    match kks, k, hc rfl, h with
    | [kk], [a], _, _ => simp [cellV, keyC, Instr.sameBits]
  | true =>
    simp only [cellV, if_true]
    show Instr.sameBits (9999 + 1) _ _ = true
    simp only [Instr.sameBits, beq_self_eq_true, Bool.true_and]
    clear hc
    unfold keyC
    induction kks generalizing k with
    | nil => simp
    | cons kk kks ih =>
      match k, h with
      | a :: k, h =>
        have := ih k (by simpa using h)
        simp only [List.zipWith_cons_cons, List.zip_cons_cons, List.all_cons]
        rw [Bool.and_eq_true]
        refine ⟨?_, this⟩
        show Instr.sameBits (9998 + 1) _ _ = true
        simp [Instr.sameBits]

theorem run_mapUpdate {P : Program} {t kt et : TypeId} {kks : List IntKind} {kagg : Bool} (h1 : P.underlying t = some (.map kt et)) (hkb : keyB P kt kks kagg = true) {E : EH} {W : World} {b : Nat} {es : Array MapEntry} {ck : Nat} {agg : Bool} {l : ML}
    (g1 : W.heap[b]? = some (.map es ck)) (g2 : EntL E kks kagg agg es.toList l) (g3 : BornOk es.toList ck) {n : List Int} (hn : n.length = kks.length) {x : Value} {ds : List D} {ys : List Value} (hx : x = cellV agg ys) (hD : DenD E ds ys) :
    ∃ es' ck', (Instr.mapUpdate t (.map (some b)) (cellV kagg (keyC kks n)) x).run P W = .ok () { W with heap := W.heap.setIfInBounds b (.map es' ck') } ∧ EntL E kks kagg agg es'.toList (mset l n ds) ∧ BornOk es'.toList ck' := by
  have hgo : (getObj b).run P W = .ok (.map es ck) W := by simp [getObj, Sem.run, g1]
  have hso : ∀ o, (setObj b o).run P W = .ok () { W with heap := W.heap.setIfInBounds b o } := fun o => by simp [setObj, Sem.run, g1]
  rcases findKey_ok hkb hn W g2 with ⟨q1, q2⟩ | ⟨j, c, e, q1, q2, q3, q4⟩
  · refine ⟨es.push { key := cellV kagg (keyC kks n), val := x, born := ck }, ck + 1, ?_, ?_, ?_⟩
    · unfold Instr.mapUpdate
      simp [run_underlying h1, hgo, run_checkKey hkb hn, q2, hso]
    · rw [(mix_none q1).2.1]
      simp only [Array.toList_push]
      exact g2.push ⟨hn, rfl, ys, hx, hD⟩
    · simp only [Array.toList_push]
      constructor
      · rw [List.map_append]
        simp only [List.map_cons, List.map_nil]
        rw [List.nodup_append]
        refine ⟨g3.1, by simp, fun a ha b hb => ?_⟩
        simp at hb
        obtain ⟨e', he', rfl⟩ := List.mem_map.1 ha
        have := g3.2 e' he'
        omega
      · intro e' he'
        rcases List.mem_append.1 he' with h | h
        · have := g3.2 e' h; omega
        · simp at h; subst h; simp
  · obtain ⟨c', p1, p2, p3, _⟩ := mix_some q1
    rw [q2] at p1; cases p1
    obtain ⟨e', he', _, hkey, _⟩ := g2.at q2
    rw [q3] at he'; cases he'
    have hj : j < es.size := by
      have := (List.getElem?_eq_some_iff.1 q3).1
      simpa using this
    have hej : es[j] = e := by
      have := q3
      rw [Array.getElem?_toList, Array.getElem?_eq_getElem hj] at this
      exact Option.some.inj this
    have hsame := sameBits_key kagg kks n hn (fun hf => by
      subst hf
      have hkb' := hkb
      simp only [keyB] at hkb'
      split at hkb' <;> try (cases hkb'; done)
      rfl)
    refine ⟨es.modify j fun e => { e with key := cellV kagg (keyC kks n), val := x }, ck, ?_, ?_, ?_⟩
    · unfold Instr.mapUpdate
      simp [run_underlying h1, hgo, run_checkKey hkb hn, q4, hso, hj, hej, hkey, Instr.keyThatStays, hsame]
    · rw [p3]
      have : (es.modify j fun e => { e with key := cellV kagg (keyC kks n), val := x }).toList = es.toList.set j { e with key := cellV kagg (keyC kks n), val := x } := by
        apply List.ext_getElem?
        intro q
        simp only [Array.getElem?_toList, Array.getElem?_modify, List.getElem?_set]
        by_cases hjq : j = q
        · subst hjq
          simp [hj, hej]
        · simp [hjq]
      rw [this]
      exact g2.set j ⟨hn, rfl, ys, hx, hD⟩
    · have hb : (es.modify j fun e => { e with key := cellV kagg (keyC kks n), val := x }).toList.map (·.born) = es.toList.map (·.born) := by
        apply List.ext_getElem?
        intro q
        simp only [List.getElem?_map, Array.getElem?_toList, Array.getElem?_modify]
        by_cases hjq : j = q
        · subst hjq; simp [hj]
        · simp [hjq]
      refine ⟨by rw [hb]; exact g3.1, fun e' he' => ?_⟩
      have : e'.born ∈ es.toList.map (·.born) := by rw [← hb]; exact List.mem_map.2 ⟨e', he', rfl⟩
      obtain ⟨e2, h2, h3⟩ := List.mem_map.1 this
      rw [← h3]; exact g3.2 e2 h2

theorem cellsD_one {P : Program} {t : TypeId} {v : V} {kb : KB} {K : List D → KB → Prop} (h : cellsD P t v kb K) (hna : ∀ vs, v ≠ .agg vs) : V.one v = true := by
  unfold cellsD at h
  split at h <;> try exact h.elim
  split at h <;> try exact h.elim
  split at h
  · exact (hna _ rfl).elim
  · split at h <;> try exact h.elim
    split at h <;> try exact h.elim
    rename_i h1 _
    exact h1

theorem updateK_ok {P : Program} {t : TypeId} {m k v : V} {kb : KB} {K : KB → Prop} (h : updateK P t m k v kb K) {σ : Sg} {E : EH} {W : World} (hi : Inv σ E kb W) {x y z : Value} (hx : Den σ E m x) (hy : Den σ E k y) (hz : Den σ E v z) :
    ∃ E' kb' W', (Instr.mapUpdate t x y z).run P W = .ok () W' ∧ Step σ E kb W σ E' kb' W' ∧ K kb' := by
  unfold updateK at h
  split at h <;> try exact h.elim
  rename_i kt et ka ks ns i ht hk
  have h1 := mapT_ok ht
  obtain ⟨hnl, rfl⟩ := keyV_ok hk hy
  split at h <;> try exact h.elim
  rename_i agg n ha hn hkb
  simp only [Den] at hx
  obtain ⟨r, hr, rfl⟩ := hx
  have main : ∀ {E1 : EH} {kb1 : KB} {ds : List D} {xs : List Value} {kks : List IntKind} {kagg : Bool} {sz : Nat} {l : ML}, Step σ E kb W σ E1 kb1 W → DenD E1 ds xs → tSize P et = some xs.length → kb1[i]? = some (.mp kks kagg agg sz l) →
      kksEq ks kks = true → (ka == kagg) = true → Nat.beq n sz = true → z = cellV agg xs → K (kb1.set i (.mp kks kagg agg sz (mset l ns ds))) →
      ∃ E' kb' W', (Instr.mapUpdate t (.map (some r.blk)) (cellV ka (keyC ks ns)) z).run P W = .ok () W' ∧ Step σ E kb W σ E' kb' W' ∧ K kb' := by
    intro E1 kb1 ds xs kks kagg sz l s1 hD hxn hl c1 c2 c3 hzc hK
    have e1 := kksEq_ok c1
    have e2 : ka = kagg := by simpa using c2
    have e3 := Nat.eq_of_beq_eq_true c3
    subst e1; subst e2; subst e3
    obtain ⟨hw, es, ck, g1, g2, g3⟩ := s1.inv.obj i r _ hr hl
    obtain ⟨es', ck', q1, q2, q3⟩ := run_mapUpdate h1 hkb g1 g2 g3 hnl hzc hD
    have hlt : r.blk < W.heap.size := (Array.getElem?_eq_some_iff.1 g1).1
    rw [hn] at hxn
    have hxn := Option.some.inj hxn
    refine ⟨_, _, _, q1, s1.trans (s1.inv.set (o' := .mp ks ka agg n (mset l ns ds)) hr hl rfl rfl rfl (by simp) (fun b hb => ?_) (fun b hb => hb) ⟨wl_mset hw (by have := hD.len; omega), es', ck', ?_, q2, q3⟩), hK⟩
    · simp only [owned] at hb
      show (W.heap.setIfInBounds r.blk _)[b]? = _
      rw [Array.getElem?_setIfInBounds_ne (fun e => hb e.symm)]
    · show (W.heap.setIfInBounds r.blk _)[r.blk]? = _
      simp [hlt]
  split at h <;> try exact h.elim
  · obtain ⟨E1, kb1, ds, xs, s1, hc, hD, h, hxn⟩ := cellsD_ok h hi hz
    split at h <;> try exact h.elim
    rename_i kks kagg agg2 sz l hl
    split at h <;> try exact h.elim
    rename_i c1 c2 c3
    simp only [Den] at hz
    obtain ⟨us, rfl, _⟩ := hz
    simp only [Value.cells] at hc
    exact main s1 hD hxn hl c1 c2 c3 (by simp [cellV, hc]) h
  · rename_i hna
    have h0 := h
    obtain ⟨E1, kb1, ds, xs, s1, hc, hD, h, hxn⟩ := cellsD_ok h hi hz
    split at h <;> try exact h.elim
    rename_i kks kagg agg2 sz l hl
    split at h <;> try exact h.elim
    rename_i c1 c2 c3
    have hone : z.oneCell' = true := one_den (cellsD_one h0 hna) hz
    have hxz : xs = [z] := by
      have hzz : z.cells = #[z] := by cases z <;> simp_all [Value.cells, Value.oneCell']
      rw [hzz] at hc
      have := congrArg Array.toList hc
      simpa using this.symm
    exact main s1 hD hxn hl c1 c2 c3 (by simp [cellV, hxz]) h

/-! ### delete, len, new maps -/
def deleteK (P : Program) (t : TypeId) (m k : V) (kb : KB) (K : KB → Prop) : Prop :=
  match mapT P t, keyV k, m with
  | some (kt, et), some (ka, ks, ns), .mp i => match keyB P kt ks ka, kb[i]? with
    | true, some (.mp kks kagg agg sz l) => match kksEq ks kks, (ka == kagg) with
      | true, true => K (kb.set i (.mp kks kagg agg sz (mdel l ns)))
      | _, _ => False
    | _, _ => False
  | _, _, _ => False
theorem wl_mdel {sz : Nat} {l : ML} (h : wl sz (l.map (·.2))) {n : List Int} : wl sz ((mdel l n).map (·.2)) := by
  induction l with
  | nil => exact h
  | cons p l ih =>
    obtain ⟨a, c⟩ := p
    have ht : wl sz (l.map (·.2)) := fun e he => h e (List.mem_cons_of_mem _ he)
    simp only [mdel]
    split
    · exact ht
    · intro e he
      simp only [List.map_cons, List.mem_cons] at he
      rcases he with rfl | he
      · exact h _ (by simp)
      · exact ih ht e he
theorem deleteK_ok {P : Program} {t : TypeId} {m k : V} {kb : KB} {K : KB → Prop} (h : deleteK P t m k kb K) {σ : Sg} {E : EH} {W : World} (hi : Inv σ E kb W) {x y : Value} (hx : Den σ E m x) (hy : Den σ E k y) (u ty : TypeId) :
    ∃ kb' W', (Builtin.delete_ #[t, u] ty #[x, y]).run P W = .ok (.tuple #[]) W' ∧ Step σ E kb W σ E kb' W' ∧ K kb' := by
  unfold deleteK at h
  split at h <;> try exact h.elim
  rename_i kt et ka ks ns i ht hk
  have h1 := mapT_ok ht
  obtain ⟨hnl, rfl⟩ := keyV_ok hk hy
  split at h <;> try exact h.elim
  rename_i kks kagg agg sz l hkb hl
  split at h <;> try exact h.elim
  rename_i c1 c2
  have e1 := kksEq_ok c1
  have e2 : ka = kagg := by simpa using c2
  subst e1; subst e2
  simp only [Den] at hx
  obtain ⟨r, hr, rfl⟩ := hx
  obtain ⟨hw, es, ck, g1, g2, g3⟩ := hi.obj i r _ hr hl
  have hgo : (getObj r.blk).run P W = .ok (.map es ck) W := by simp [getObj, Sem.run, g1]
  have hso : ∀ o, (setObj r.blk o).run P W = .ok () { W with heap := W.heap.setIfInBounds r.blk o } := fun o => by simp [setObj, Sem.run, g1]
  have hlt : r.blk < W.heap.size := (Array.getElem?_eq_some_iff.1 g1).1
  have hst : ∀ {es' : Array MapEntry}, EntL E ks ka agg es'.toList (mdel l ns) → BornOk es'.toList ck → Step σ E kb W σ E (kb.set i (.mp ks ka agg sz (mdel l ns))) { W with heap := W.heap.setIfInBounds r.blk (.map es' ck) } := by
    intro es' q2 q3
    refine hi.set (o' := .mp ks ka agg sz (mdel l ns)) hr hl rfl rfl rfl (by simp) (fun b hb => ?_) (fun b hb => hb) ⟨wl_mdel hw, es', ck, ?_, q2, q3⟩
    · simp only [owned] at hb
      show (W.heap.setIfInBounds r.blk _)[b]? = _
      rw [Array.getElem?_setIfInBounds_ne (fun e => hb e.symm)]
    · show (W.heap.setIfInBounds r.blk _)[r.blk]? = _
      simp [hlt]
  rcases findKey_ok hkb hnl W g2 with ⟨q1, q2⟩ | ⟨j, c, e, q1, q2, q3, q4⟩
  · refine ⟨_, _, ?_, hst (es' := es) (by rw [(mix_none q1).2.2]; exact g2) g3, h⟩
    simp [Builtin.delete_, run_underlying h1, hgo, run_checkKey hkb hnl, q2, hso]
  · obtain ⟨c', p1, p2, _, p4⟩ := mix_some q1
    have hj : j < es.size := by
      have := (List.getElem?_eq_some_iff.1 q3).1
      simpa using this
    have he : (es.eraseIdxIfInBounds j).toList = es.toList.eraseIdx j := by
      simp [Array.eraseIdxIfInBounds, hj]
    refine ⟨_, _, ?_, hst (es' := es.eraseIdxIfInBounds j) (by rw [he, p4]; exact g2.erase j) ?_, h⟩
    · simp [Builtin.delete_, run_underlying h1, hgo, run_checkKey hkb hnl, q4, hso]
    · rw [he]
      refine ⟨?_, fun e' he' => g3.2 e' (List.mem_of_mem_eraseIdx he')⟩
      exact List.Nodup.sublist (List.Sublist.map _ (List.eraseIdx_sublist _ _)) g3.1

def mapLenK (P : Program) (t : TypeId) (m : V) (kb : KB) (K : V → Prop) : Prop :=
  match mapT P t with
  | some _ => match m with
    | .mp i => match kb[i]? with
      | some (.mp _ _ _ _ l) => K (.int .i64 (l.length : Int))
      | _ => False
    | .any (.map none) => K (.lit .i64 0)
    | _ => False
  | none => False
theorem mapLenK_ok {P : Program} {t : TypeId} {m : V} {kb : KB} {K : V → Prop} (h : mapLenK P t m kb K) {σ : Sg} {E : EH} {W : World} (hi : Inv σ E kb W) {x : Value} (hx : Den σ E m x) (ty : TypeId) :
    ∃ v z, (Builtin.len_ #[t] ty #[x]).run P W = .ok z W ∧ Den σ E v z ∧ K v := by
  unfold mapLenK at h
  split at h <;> try exact h.elim
  rename_i q ht
  obtain ⟨kt, et⟩ := q
  have h1 := mapT_ok ht
  split at h <;> try exact h.elim
  · rename_i i
    split at h <;> try exact h.elim
    rename_i kks kagg agg sz l hl
    simp only [Den] at hx
    obtain ⟨r, hr, rfl⟩ := hx
    obtain ⟨hw, es, ck, g1, g2, _⟩ := hi.obj i r _ hr hl
    have hgo : (getObj r.blk).run P W = .ok (.map es ck) W := by simp [getObj, Sem.run, g1]
    have := g2.len
    exact ⟨_, _, by simp [Builtin.len_, run_underlying h1, hgo]; rfl, by simp only [Den, goInt]; rw [show es.size = l.length by simpa using this], h⟩
  · simp only [Den] at hx
    subst hx
    exact ⟨_, _, by simp [Builtin.len_, run_underlying h1]; rfl, by simp [Den, goInt], h⟩

def allKinds : List CK → Option (List IntKind)
  | [] => some []
  | .int k :: ks => match allKinds ks with | some r => some (k :: r) | none => none
  | _ => none
def makeMapK (P : Program) (t : TypeId) (kb : KB) (K : V → KB → Prop) : Prop :=
  match mapT P t with
  | some (kt, et) => match (kindsOf P 20 kt).bind allKinds, tAgg P kt, tAgg P et, (kindsOf P 20 et) with
    | some ks, some ka, some agg, some cks => K (.mp kb.length) (kb ++ [.mp ks ka agg (wk cks) []])
    | _, _, _, _ => False
  | none => False
theorem makeMapK_ok {P : Program} {t : TypeId} {kb : KB} {K : V → KB → Prop} (h : makeMapK P t kb K) {σ : Sg} {E : EH} {W : World} (hi : Inv σ E kb W) :
    ∃ v x σ' kb' W', (Instr.makeMap t none).run P W = .ok x W' ∧ Step σ E kb W σ' E kb' W' ∧ Den σ' E v x ∧ K v kb' := by
  unfold makeMapK at h
  split at h <;> try exact h.elim
  rename_i kt et ht
  split at h <;> try exact h.elim
  rename_i ks ka agg cks _ _ _ _
  refine ⟨_, .map (some W.heap.size), _, _, W.alloc (.map #[] 0), by simp [Instr.makeMap], hi.alloc (.map #[] 0) ⟨W.heap.size, 0, 0⟩ (.mp ks ka agg (wk cks) []) (fun b hb => hb) ⟨wl.nil, #[], 0, ?_, by simp [EntL], ⟨by simp, by simp⟩⟩, ?_, h⟩
  · show (W.heap.push _)[W.heap.size]? = _
    simp
  · simp only [Den]
    exact ⟨⟨W.heap.size, 0, 0⟩, by rw [← hi.len]; simp, rfl⟩

def isMapT (P : Program) (t : TypeId) : Bool := match P.underlying t with | some (.map _ _) => true | _ => false
end Vc
