/- Fields of values, literals, equality of structs and arrays. -/
import Derived.Test.YtnglmhckcfnfaaaVdG
import Derived.Laws.StructEq
import Derived.Laws.Tables
set_option linter.unusedSimpArgs false
set_option linter.unusedVariables false
namespace Vc
open Go

/-- The part of these cells that is a value of type t. -/
def partV (P : Program) (t : TypeId) (l : List V) (off : Nat) : Option V :=
  match tAgg P t, tSize P t, dropW l off with
  | some true, some n, some r => match takeW r n with | some vs => some (.agg vs) | none => none
  | some false, some _, some (v :: _) => match v with | .arr _ _ => none | _ => some v
  | _, _, _ => none

theorem partV_ok {P : Program} {t : TypeId} {l : List V} {off : Nat} {v : V} (h : partV P t l off = some v) {σ : Sg} {E : EH} {xs : List Value} (hd : DenC σ E l xs) :
    ∃ x, (∀ W, (part t xs.toArray off).run P W = .ok x W) ∧ Den σ E v x := by
  unfold partV at h
  split at h
  · rename_i n r ha hn hr
    split at h <;> try (cases h; done)
    rename_i vs hvs
    cases h
    obtain ⟨h1, _⟩ := dropW_ok hr hd
    obtain ⟨h2, h3⟩ := takeW_ok hvs h1
    refine ⟨_, fun W => by simp [part, run_tAgg ha, run_tSize hn]; rfl, ?_⟩
    simp only [Den]
    exact ⟨(xs.drop off).take n, rfl, h2⟩
  · rename_i n u r ha hn hr
    split at h <;> try (cases h; done)
    rename_i hna
    cases h
    obtain ⟨h1, _⟩ := dropW_ok hr hd
    obtain ⟨ys, zs, e, h2, _⟩ := h1.uncons
    rcases h2 with ⟨y, rfl, _, hy⟩ | ⟨m, cs, e', _, _⟩
    · have hx : xs[off]? = some y := by
        have := congrArg (fun z => z[0]?) e
        simpa using this
      exact ⟨y, fun W => by simp [part, run_tAgg ha, hx], hy⟩
    · exact (hna _ _ e').elim
  · cases h

def fieldV (P : Program) (t : TypeId) (v : V) (n : Nat) : Option V :=
  match P.underlying t, v with
  | some (.struct fs), .agg l => match fs[n]? with
    | some f => partV P f.type l f.offset
    | none => none
  | _, _ => none

theorem fieldV_ok {P : Program} {t : TypeId} {v u : V} {n : Nat} (h : fieldV P t v n = some u) {σ : Sg} {E : EH} {x : Value} (hd : Den σ E v x) :
    ∃ y, (∀ W, (Instr.field t x n).run P W = .ok y W) ∧ Den σ E u y := by
  unfold fieldV at h
  split at h
  · rename_i fs l ht
    split at h
    · rename_i f hf
      simp only [Den] at hd
      obtain ⟨xs, rfl, hD⟩ := hd
      obtain ⟨y, h1, h2⟩ := partV_ok h hD
      exact ⟨y, fun W => by simp [Instr.field, run_underlying ht, hf, asAgg, h1], h2⟩
    · cases h
  · cases h

/-- An element of an array's value. -/
def elemK (P : Program) (t : TypeId) (v ix : V) (K : V → Prop) : Prop :=
  match P.underlying t, v, numOf ix with
  | some (.array m elem), .agg l, some n => match tSize P elem, tAgg P elem, kindsOf P 20 elem with
    | some s, some agg, some ks => match l with
      | [.arr _ cs] => match Nat.beq (wk ks) (cellsN agg s) with
        | true => InB n m ∧ loadE cs (n.toNat * s) ks (fun vs => wrapK agg vs K)
        | false => False
      | _ => match isL ix with
        | true => match partV P elem l (n.toNat * s) with | some u => InB n m ∧ K u | none => False
        | false => False
    | _, _, _ => False
  | _, _, _ => False
theorem elemK_ok {P : Program} {t : TypeId} {v ix : V} {K : V → Prop} (h : elemK P t v ix K) {σ : Sg} {E : EH} {x y : Value} (hd : Den σ E v x) (hy : Den σ E ix y) :
    ∃ u z, (∀ W, (Instr.index t x y).run P W = .ok z W) ∧ Den σ E u z ∧ K u := by
  unfold elemK at h
  split at h <;> try exact h.elim
  rename_i m elem l n ht hn
  obtain ⟨k, rfl⟩ := numOf_den hn hy
  simp only [Den] at hd
  obtain ⟨xs, rfl, hD⟩ := hd
  split at h <;> try exact h.elim
  rename_i s agg ks hs ha hks
  have run : ∀ {z : Value}, 0 ≤ n → n < (m : Int) → (∀ W, (part elem xs.toArray (n.toNat * s)).run P W = .ok z W) → ∀ W, (Instr.index t (.agg xs.toArray) (.int k n)).run P W = .ok z W := fun h0 h1 hz W => by
    simp [Instr.index, asIntOf, run_underlying ht, h0, h1, run_tSize hs, hz W]
  split at h
  · rename_i m' cs
    split at h <;> try exact h.elim
    rename_i hb
    have hw := Nat.eq_of_beq_eq_true hb
    obtain ⟨⟨h0, h1⟩, h⟩ := h
    obtain ⟨ys, zs, rfl, hp, hz⟩ := hD.uncons
    simp only [DenC] at hz
    subst hz
    rcases hp with ⟨y, rfl, _, hy'⟩ | ⟨m2, cs2, e, hl, hDD⟩
    · simp only [Den] at hy'
    cases e
    obtain ⟨vs, us, hK, hD2, hxl, hx⟩ := loadE_ok (σ := σ) hDD h
    obtain ⟨u, hKu, hu, hone⟩ := wrapK_ok hK hD2
    refine ⟨u, _, run h0 h1 (fun W => ?_), hu, hKu⟩
    rw [hw, cellsN_eq] at hxl
    have hget : ∀ j x, us[j]? = some x → (ys ++ [])[n.toNat * s + j]? = some x := fun j x hj => by simpa using hx j x hj
    cases agg with
    | true =>
      simp only [if_true] at hxl ⊢
      have : ((ys ++ []).toArray.extract (n.toNat * s) (n.toNat * s + s)) = us.toArray := by
        apply Array.ext'
        simp only [Array.toList_extract, List.extract_eq_take_drop]
        apply List.ext_getElem?
        intro j
        rcases Nat.lt_or_ge j s with hj | hj
        · rw [List.getElem?_take_of_lt (by omega), List.getElem?_drop]
          have := hget j _ (List.getElem?_eq_getElem (by omega))
          rw [this]; simp [show j < us.length by omega]
        · rw [List.getElem?_eq_none (by simp; omega), List.getElem?_eq_none (by omega)]
      simp [part, run_tAgg ha, run_tSize hs]
      simpa using this
    | false =>
      simp only [Bool.false_eq_true, if_false] at hxl ⊢
      match us, hxl with
      | [z], _ =>
        have := hget 0 z rfl
        simp only [Nat.add_zero] at this
        simp [part, run_tAgg ha]
        simp at this
        simp [this]
  · split at h <;> try exact h.elim
    split at h <;> try exact h.elim
    rename_i u hu
    obtain ⟨⟨h0, h1⟩, hK⟩ := h
    obtain ⟨z, hz1, hz2⟩ := partV_ok hu hD
    exact ⟨u, z, run h0 h1 hz1, hz2, hK⟩

/-! ### Equality -/
def eqFs (P : Program) (eq : TypeId → V → V → Option Bool) (xs ys : List V) : List Field → Option Bool
  | [] => some true
  | f :: fs =>
    match f.name == "_" with
    | true => eqFs P eq xs ys fs
    | false => match partV P f.type xs f.offset, partV P f.type ys f.offset with
      | some a, some b => match eq f.type a b, eqFs P eq xs ys fs with
        | some r, some s => some (r && s)
        | _, _ => none
      | _, _ => none

def eqEs (P : Program) (eq : TypeId → V → V → Option Bool) (elem : TypeId) (n : Nat) (xs ys : List V) : Nat → Nat → Option Bool
  | _, 0 => some true
  | i, m + 1 => match partV P elem xs (i * n), partV P elem ys (i * n) with
    | some a, some b => match eq elem a b, eqEs P eq elem n xs ys (i + 1) m with
      | some r, some s => some (r && s)
      | _, _ => none
    | _, _ => none

def delit : V → V
  | .lit k n => .int k n
  | v => v
theorem delit_den {σ : Sg} {E : EH} {v : V} {x : Value} (h : Den σ E v x) : Den σ E (delit v) x := by
  cases v <;> simp only [delit] <;> first | exact h | simpa [Den] using h

def boolOf : V → Option Bool
  | .sb b => some b
  | .tt => some true
  | .ff => some false
  | _ => none

/-- Are two values of type t the same? -/
def eqT (P : Program) : Nat → TypeId → V → V → Option Bool
  | 0, _, _, _ => none
  | d + 1, t, x, y =>
    match P.underlying t with
    | some (.int _) => match delit x, delit y with
      | .int k a, .int k' b => match decide (k = k') with | true => some (a == b) | false => none
      | _, _ => none
    | some .bool => match boolOf x, boolOf y with
      | some a, some b => some (a == b)
      | _, _ => none
    | some .string => match x, y with
      | .any (.string a), .any (.string b) => some (a.toList == b.toList)
      | _, _ => none
    | some (.struct fs) => match P.stoodInHeld t, x, y with
      | false, .agg xs, .agg ys => eqFs P (eqT P d) xs ys fs.toList
      | _, _, _ => none
    | some (.array len elem) => match tSize P elem, x, y with
      | some n, .agg xs, .agg ys => eqEs P (eqT P d) elem n xs ys 0 len
      | _, _, _ => none
    | _ => none

theorem boolOf_den {v : V} {b : Bool} (h : boolOf v = some b) {σ : Sg} {E : EH} {x : Value} (hd : Den σ E v x) : x = .bool b := by
  cases v <;> simp only [boolOf, Option.some.injEq, reduceCtorEq] at h <;> subst h <;> simpa [Den] using hd

theorem eqFs_ok {P : Program} {eq : TypeId → V → V → Option Bool} {d : Nat} {σ : Sg} {E : EH}
    (heq : ∀ t x y r, eq t x y = some r → ∀ a b, Den σ E x a → Den σ E y b → ∀ W, (Op.equalIn d t a b).run P W = .ok r W) {xs ys : List V} {as bs : List Value} (hx : DenC σ E xs as) (hy : DenC σ E ys bs) (W : World) :
    ∀ {fs : List Field} {r : Bool}, eqFs P eq xs ys fs = some r → (Op.eqFields d as.toArray bs.toArray fs).run P W = .ok r W
  | [], r, h => by simp [eqFs] at h; subst h; simp [Op.eqFields]
  | f :: fs, r, h => by
    simp only [eqFs] at h
    split at h
    · rename_i hn
      have hn' : f.name = "_" := by simpa using hn
      simp only [Op.eqFields, hn']
      simpa using eqFs_ok heq hx hy W h
    · rename_i hn
      have hn' : ¬ f.name = "_" := by simpa using hn
      split at h
      · rename_i a b ha hb
        split at h
        · rename_i r1 s1 h1 h2
          cases h
          obtain ⟨x, hx1, hx2⟩ := partV_ok ha hx
          obtain ⟨y, hy1, hy2⟩ := partV_ok hb hy
          have hr := heq _ _ _ _ h1 x y hx2 hy2 W
          have ih := eqFs_ok heq hx hy W h2
          simp only [Op.eqFields, ne_eq, hn', not_false_eq_true, if_true, Sem.run_bind, hx1, hy1, hr, Result.andThen_ok]
          cases r1
          · simp
          · simpa using ih
        · cases h
      · cases h

theorem eqT_ok {P : Program} {σ : Sg} {E : EH} : ∀ (d : Nat) (t : TypeId) (x y : V) (r : Bool), eqT P d t x y = some r → ∀ a b, Den σ E x a → Den σ E y b → ∀ (m : Nat), d ≤ m → ∀ W, (Op.equalIn m t a b).run P W = .ok r W
  | 0, _, _, _, _, h, _, _, _, _, _, _, _ => by simp [eqT] at h
  | d + 1, t, x, y, r, h, a, b, ha, hb, 0, hm, W => by omega
  | d + 1, t, x, y, r, h, a, b, ha, hb, m + 1, hm, W => by
    have ih := eqT_ok (P := P) (σ := σ) (E := E) d
    simp only [eqT] at h
    split at h
    · rename_i k0 ht
      split at h
      · rename_i k p k' q hxe hye
        split at h
        · rename_i hk
          have hk' : k = k' := by simpa using hk
          subst hk'
          cases h
          replace ha := delit_den ha
          replace hb := delit_den hb
          rw [hxe] at ha
          rw [hye] at hb
          simp only [Den] at ha hb
          subst ha; subst hb
          exact run_equalIn_int W m t k k0 p q ht
        · cases h
      · cases h
    · rename_i ht
      split at h
      · rename_i p q hp hq
        cases h
        rw [boolOf_den hp ha, boolOf_den hq hb]
        exact run_equalIn_bool' W m t p q ht
      · cases h
    · rename_i ht
      split at h
      · cases h
        simp only [Den] at ha hb
        subst ha; subst hb
        exact run_equalIn_string W m t _ _ ht
      · cases h
    · rename_i fs ht
      split at h
      · rename_i xs ys hst
        simp only [Den] at ha hb
        obtain ⟨as, rfl, hx⟩ := ha
        obtain ⟨bs, rfl, hy⟩ := hb
        have hf : P.fieldsOf t = fs := by simp [Program.fieldsOf, ht]
        rw [run_equalIn_struct W m t as.toArray bs.toArray (by rw [hf]; exact ht) hst, hf]
        exact eqFs_ok (d := m) (fun t x y r h a b ha hb W => ih t x y r h a b ha hb m (by omega) W) hx hy W h
      · cases h
    · rename_i len elem ht
      split at h
      · rename_i n xs ys hn
        simp only [Den] at ha hb
        obtain ⟨as, rfl, hx⟩ := ha
        obtain ⟨bs, rfl, hy⟩ := hb
        simp only [Op.equalIn, Sem.run_bind, run_underlying ht, Result.andThen_ok, run_tSize hn]
        rw [Std.Legacy.Range.forIn_eq_forIn_range']
        simp only [Std.Legacy.Range.size, Nat.sub_zero, Nat.add_sub_cancel, Nat.div_one]
        clear ht
        generalize 0 = i at h ⊢
        induction len generalizing i r with
        | zero => simp only [eqEs] at h; cases h; simp
        | succ len ihl =>
          simp only [eqEs] at h
          split at h
          · rename_i p q hp hq
            split at h
            · rename_i r1 s1 h1 h2
              cases h
              obtain ⟨u, hu1, hu2⟩ := partV_ok hp hx
              obtain ⟨v, hv1, hv2⟩ := partV_ok hq hy
              have hr := ih _ _ _ _ h1 u v hu2 hv2 m (by omega) W
              have := ihl s1 (i + 1) h2
              simp only [List.range'_succ, List.forIn_cons, Sem.run_bind, hu1, hv1, hr, Result.andThen_ok]
              cases r1
              · simp
              · simpa using this
            · cases h
          · cases h
      · cases h
    · cases h

/-! ### Literals -/
def cellsL : V → Option (List V)
  | .agg vs => some vs
  | v => match V.one v with | true => some [v] | false => none

theorem cellsL_ok {v : V} {vs : List V} (h : cellsL v = some vs) {σ : Sg} {E : EH} {x : Value} (hd : Den σ E v x) : ∃ xs, x.cells = xs.toArray ∧ DenC σ E vs xs := by
  unfold cellsL at h
  split at h
  · cases h
    simp only [Den] at hd
    obtain ⟨xs, rfl, hD⟩ := hd
    exact ⟨xs, rfl, hD⟩
  · split at h
    · rename_i h1
      cases h
      have h2 := one_den h1 hd
      refine ⟨[x], ?_, .cons1 hd h2 .nil⟩
      cases x <;> simp_all [Value.cells, Value.oneCell']
    · cases h

def fillV (place : Nat → Option (Nat × Nat)) (l : List V) : List (Nat × V) → Option (List V)
  | [] => some l
  | (i, v) :: rest => match place i, cellsL v with
    | some (off, size), some vs => match Nat.beq (wid vs) size with
      | true => match spliceW l off vs with
        | some l' => fillV place l' rest
        | none => none
      | false => none
    | _, _ => none

theorem splice_cons {α : Type} (c : α) (l : List α) (n : Nat) (vs : List α) : splice (c :: l) (n + 1) vs = c :: splice l n vs := by
  simp only [splice, List.take_succ_cons, List.cons_append]
  rw [show n + 1 + vs.length = (n + vs.length) + 1 by omega, List.drop_succ_cons]

theorem splice_set {α : Type} : ∀ (l : List α) (n : Nat) (v : α) (vs : List α), n + 1 + vs.length ≤ l.length → splice (l.set n v) (n + 1) vs = splice l n (v :: vs)
  | [], n, v, vs, h => by simp at h
  | c :: l, 0, v, vs, h => by
    rw [List.set_cons_zero, splice_cons]
    simp [splice]
  | c :: l, n + 1, v, vs, h => by
    rw [List.set_cons_succ, splice_cons, splice_cons, splice_set l n v vs (by simp at h; omega)]

theorem foldl_zip (off : Nat) : ∀ (vs : List Value) (k : Nat) (cs : Array Value), off + k + vs.length ≤ cs.size →
    ((vs.zipIdx k).foldl (fun cs (c, j) => cs.setIfInBounds (off + j) c) cs).toList = splice cs.toList (off + k) vs
  | [], k, cs, _ => by simp [splice]
  | v :: vs, k, cs, h => by
    simp only [List.length_cons] at h
    simp only [List.zipIdx_cons, List.foldl_cons]
    rw [foldl_zip off vs (k + 1) _ (by simp; omega), Array.toList_setIfInBounds]
    exact splice_set cs.toList (off + k) v vs (by simp; omega)

def DenP (σ : Sg) (E : EH) : List (Nat × V) → List (Nat × Value) → Prop
  | [], xs => xs = []
  | (i, v) :: vs, xs => ∃ x xs', xs = (i, x) :: xs' ∧ Den σ E v x ∧ DenP σ E vs xs'

theorem fillV_ok {place : Nat → Option (Nat × Nat)} {σ : Sg} {E : EH} : ∀ {parts : List (Nat × V)} {l r : List V}, fillV place l parts = some r → ∀ {xs : List Value}, DenC σ E l xs → ∀ {ps : List (Nat × Value)}, DenP σ E parts ps →
    ∃ ys, Instr.fill place xs.toArray ps = some ys.toArray ∧ DenC σ E r ys
  | [], l, r, h, xs, hd, ps, hp => by
    simp only [fillV] at h; cases h
    simp only [DenP] at hp; subst hp
    exact ⟨xs, rfl, hd⟩
  | (i, v) :: rest, l, r, h, xs, hd, ps, hp => by
    simp only [DenP] at hp
    obtain ⟨x, xs', rfl, hv, hp⟩ := hp
    simp only [fillV] at h
    split at h
    · rename_i off size vs hpl hc
      split at h <;> try (cases h; done)
      rename_i hb1
      split at h <;> try (cases h; done)
      rename_i l' hl'
      obtain ⟨ys, h1, h2⟩ := cellsL_ok hc hv
      have hs := Nat.eq_of_beq_eq_true hb1
      rw [← h2.len] at hs
      obtain ⟨h5, hle⟩ := spliceW_ok hl' hd h2
      obtain ⟨zs, h3, h4⟩ := fillV_ok h h5 hp
      refine ⟨zs, ?_, h4⟩
      simp only [Instr.fill, hpl, h1, List.size_toArray]
      rw [if_neg (by simp; omega)]
      have hz := foldl_zip off ys 0 xs.toArray (by simpa using hle)
      simp only [Nat.add_zero] at hz
      rw [← h3]
      congr 1
      apply Array.ext'
      rw [← Array.foldl_toList, Array.toList_zipIdx]
      exact hz
    · cases h

def buildV (P : Program) (t : TypeId) (parts : List (Nat × V)) : Option (List V) :=
  match P.info? t, P.underlying t with
  | some it, some (.array _ e) =>
    match it.zero, P.info? e with
    | some z, some ie => match z.cells.toList.all Value.oneCell' with
      | true => fillV (fun i => some (i * ie.size, ie.size)) (z.cells.toList.map cvc1) parts
      | false => none
    | _, _ => none
  | some it, some (.struct fields) =>
    match it.zero, fields.toList.mapM (fun f => (P.info? f.type).map fun i => (f.offset, i.size)), kindsOf P 20 t with
    | some z, some places, some ks => match zeroC ks z.cells.toList with
      | some l => fillV (places.toArray[·]?) l parts
      | none => none
    | _, _, _ => none
  | _, _ => none

theorem buildV_ok {P : Program} {t : TypeId} {parts : List (Nat × V)} {r : List V} (h : buildV P t parts = some r) {σ : Sg} {E : EH} {ps : List (Nat × Value)} (hp : DenP σ E parts ps) :
    ∃ x, (∀ W, (Instr.build t ps.toArray).run P W = .ok x W) ∧ Den σ E (.agg r) x := by
  unfold buildV at h
  split at h
  · rename_i it m e hi hu
    split at h <;> try (cases h; done)
    rename_i z ie hz hie
    split at h <;> try (cases h; done)
    rename_i hall
    obtain ⟨ys, h1, h2⟩ := fillV_ok h (denC_cvc1 σ E z.cells.toList hall) hp
    exact ⟨_, fun W => run_build W t ps.toArray ys.toArray (by simp only [Program.built, hi, hu, hz, hie]; simpa using h1), by simp only [Den]; exact ⟨ys, rfl, h2⟩⟩
  · rename_i it fields hi hu
    split at h <;> try (cases h; done)
    rename_i z places ks hz hpl hks
    split at h <;> try (cases h; done)
    rename_i l hl
    obtain ⟨ys, h1, h2⟩ := fillV_ok h (zeroC_ok σ E hl) hp
    exact ⟨_, fun W => run_build W t ps.toArray ys.toArray (by simp only [Program.built, hi, hu, hz, hpl]; simpa using h1), by simp only [Den]; exact ⟨ys, rfl, h2⟩⟩
  · cases h

/-! ### Literals of slices -/
/-- The parts, each in its place, as data. -/
def partsK (P : Program) (e : TypeId) : Nat → List (Nat × V) → KB → (List (List D) → KB → Prop) → Prop
  | _, [], kb, K => K [] kb
  | k, (i, v) :: rest, kb, K => match Nat.beq i k with
    | true => cellsD P e v kb (fun ds kb' => partsK P e (k + 1) rest kb' (fun es kb'' => K (ds :: es) kb''))
    | false => False

theorem splice_next {α : Type} {l xs ys : List α} {o : Nat} (h : o + xs.length + ys.length ≤ l.length) : splice (splice l o xs) (o + xs.length) ys = splice l o (xs ++ ys) := by
  unfold splice
  have h1 : (l.take o).length = o := by simp; omega
  have e1 : (l.take o ++ xs ++ l.drop (o + xs.length)).take (o + xs.length) = l.take o ++ xs := by
    rw [show o + xs.length = (l.take o ++ xs).length by simp [h1], List.take_left]
  rw [e1]
  have e2 : (l.take o ++ xs ++ l.drop (o + xs.length)).drop (o + xs.length + ys.length) = l.drop (o + xs.length + ys.length) := by
    rw [show o + xs.length + ys.length = (l.take o ++ xs).length + ys.length by simp [h1], List.drop_length_add_append, List.drop_drop]
    simp [h1]
  rw [e2, List.length_append, Nat.add_assoc]
  simp

theorem DenP.mono {σ τ : Sg} {E E' : EH} (hE : E.le E') : ∀ {vs : List (Nat × V)} {xs : List (Nat × Value)}, DenP σ E vs xs → DenP (σ ++ τ) E' vs xs
  | [], _, h => by simpa only [DenP] using h
  | (i, v) :: vs, _, h => by
    simp only [DenP] at h ⊢
    obtain ⟨x, xs', h0, h1, h2⟩ := h
    exact ⟨x, xs', h0, Den.mono hE h1, h2.mono hE⟩

theorem partsK_ok {P : Program} {e : TypeId} {s : Nat} (hs : tSize P e = some s) : ∀ {parts : List (Nat × V)} {k : Nat} {kb : KB} {K : List (List D) → KB → Prop}, partsK P e k parts kb K → ∀ {σ : Sg} {E : EH} {W : World}, Inv σ E kb W → ∀ {ps : List (Nat × Value)}, DenP σ E parts ps →
    ∃ E' kb' l ys, Step σ E kb W σ E' kb' W ∧ wl s l ∧ l.length = parts.length ∧ DenD E' l.flatten ys ∧ K l kb' ∧
      ∀ (cs : Array Value), k * s + ys.length ≤ cs.size → Instr.fill (fun j => some (j * s, s)) cs ps = some (splice cs.toList (k * s) ys).toArray
  | [], k, kb, K, h, σ, E, W, hi, ps, hp => by
    simp only [DenP] at hp; subst hp
    exact ⟨E, kb, [], [], Step.refl hi, wl.nil, rfl, .nil, h, fun cs hc => by simp [Instr.fill, splice]⟩
  | (i, v) :: rest, k, kb, K, h, σ, E, W, hi, ps, hp => by
    simp only [DenP] at hp
    obtain ⟨x, xs', rfl, hv, hp⟩ := hp
    simp only [partsK] at h
    split at h <;> try exact h.elim
    rename_i hb
    have hik := Nat.eq_of_beq_eq_true hb
    subst hik
    obtain ⟨E1, kb1, ds, xs, s1, hc, hD, h, hn⟩ := cellsD_ok h hi hv
    rw [hs] at hn
    have hn := Option.some.inj hn
    have hp' := hp.mono (τ := []) s1.le
    rw [List.append_nil] at hp'
    obtain ⟨E2, kb2, l, ys, s2, hw, hl, hD2, hK, hf⟩ := partsK_ok hs h s1.inv hp'
    have hdl := hD.len
    refine ⟨E2, kb2, ds :: l, xs ++ ys, s1.trans s2, fun e he => ?_, by simp [hl], ?_, hK, fun cs hcs => ?_⟩
    · rcases List.mem_cons.1 he with rfl | he
      · omega
      · exact hw e he
    · rw [List.flatten_cons]; exact (hD.mono s2.le).append hD2
    · simp only [List.length_append] at hcs
      simp only [Instr.fill, hc, List.size_toArray]
      rw [if_neg (by simp; omega)]
      have hz := foldl_zip (i * s) xs 0 cs (by omega)
      simp only [Nat.add_zero] at hz
      have ez : (Array.foldl (fun cs x => cs.setIfInBounds (i * s + x.2) x.1) cs (Array.zipIdx xs.toArray)) = (splice cs.toList (i * s) xs).toArray := by
        apply Array.ext'
        rw [← Array.foldl_toList, Array.toList_zipIdx]
        exact hz
      have hsl : (splice cs.toList (i * s) xs).length = cs.size := by rw [splice_len (by simp; omega)]; simp
      have hf' := hf (splice cs.toList (i * s) xs).toArray (by rw [List.size_toArray, hsl, Nat.succ_mul]; omega)
      have e1 : (i + 1) * s = i * s + xs.length := by rw [Nat.succ_mul]; omega
      rw [e1, List.toList_toArray, splice_next (by simp; omega)] at hf'
      rw [← hf']
      congr 1

def buildSliceK (P : Program) (t : TypeId) (len : Nat) (parts : List (Nat × V)) (kb : KB) (K : V → KB → Prop) : Prop :=
  match P.underlying t with
  | some (.slice elem) =>
    match P.info? elem with
    | some i =>
      match i.zero, i.size with
      | some z, s + 1 =>
        match Nat.ble (len * (s + 1)) 16777216, Nat.beq z.cells.size (s + 1), Nat.beq parts.length len with
        | true, true, true => partsK P elem 0 parts kb (fun l kb' => K (.sl kb'.length 0 len) (kb' ++ [.row elem (s + 1) l]))
        | _, _, _ => False
      | _, _ => False
    | none => False
  | _ => False

theorem buildSliceK_ok {P : Program} {t : TypeId} {len : Nat} {parts : List (Nat × V)} {kb : KB} {K : V → KB → Prop} (h : buildSliceK P t len parts kb K) {σ : Sg} {E : EH} {W : World} (hi : Inv σ E kb W) {ps : List (Nat × Value)}
    (hp : DenP σ E parts ps) : ∃ v x σ' E' kb' W', (Instr.buildSlice t len ps.toArray).run P W = .ok x W' ∧ Step σ E kb W σ' E' kb' W' ∧ Den σ' E' v x ∧ K v kb' := by
  unfold buildSliceK at h
  split at h <;> try exact h.elim
  rename_i elem ht
  split at h <;> try exact h.elim
  rename_i i hinf
  split at h <;> try exact h.elim
  rename_i z s hz hs
  split at h <;> try exact h.elim
  rename_i hb1 hb2 hb3
  have hle := Nat.le_of_ble_eq_true hb1
  have hcl := Nat.eq_of_beq_eq_true hb2
  have hpl := Nat.eq_of_beq_eq_true hb3
  have hts : tSize P elem = some (s + 1) := by simp [tSize, hinf, hs]
  obtain ⟨E1, kb1, l, ys, s1, hw, hl, hD, hK, hf⟩ := partsK_ok hts h hi hp
  have hyl : ys.length = len * (s + 1) := by rw [hD.len, flat_len hw, hl, hpl]
  have hl1 : len ≤ len * (s + 1) := Nat.le_mul_of_pos_right _ (Nat.succ_pos s)
  have hrun : (Instr.buildSlice t len ps.toArray).run P W = .ok (.slice (some ⟨W.heap.size, 0, none⟩) len len) (W.alloc (.cells ys.toArray elem)) := by
    have hfill : Instr.fill (fun j => some (j * (s + 1), s + 1)) ((Array.range (len * (s + 1))).map (z.cells[· % z.cells.size]!)) ps = some ys.toArray := by
      rw [hf _ (by simp; omega)]
      simp only [Nat.zero_mul, splice, List.take_zero, List.nil_append]
      rw [List.drop_eq_nil_of_le (by simp; omega), List.append_nil]
    by_cases hl0 : len * (s + 1) = 0
    · have e0 : ((Array.range (len * (s + 1))).map (fun (x : Nat) => (#[] : Array Value)[x % (#[] : Array Value).size]!)) = ((Array.range (len * (s + 1))).map (z.cells[· % z.cells.size]!)) := by rw [hl0]; apply Array.ext'; simp
      have hn : ¬ len * (s + 1) > 2 ^ 24 := by omega
      unfold Instr.buildSlice
      rw [Sem.run_bind, run_underlying ht, Result.andThen_ok]
      simp only []
      rw [Sem.run_bind, show (Go.sizeOf elem).run P W = .ok (s + 1) W by simp [Go.sizeOf, typeInfo, hinf, hs], Result.andThen_ok]
      simp only [hn, if_false]
      rw [if_pos hl0, Sem.run_bind, Sem.run_pure, Result.andThen_ok]
      simp only [e0, hfill]
      simp [newRow]
    · have hn : ¬ len * (s + 1) > 2 ^ 24 := by omega
      unfold Instr.buildSlice
      rw [Sem.run_bind, run_underlying ht, Result.andThen_ok]
      simp only []
      rw [Sem.run_bind, show (Go.sizeOf elem).run P W = .ok (s + 1) W by simp [Go.sizeOf, typeInfo, hinf, hs], Result.andThen_ok]
      simp only [hn, if_false]
      rw [if_neg hl0, Sem.run_bind, show (zeroValue elem).run P W = .ok z W by simp [zeroValue, typeInfo, hinf, hz], Result.andThen_ok, Sem.run_bind, Sem.run_pure, Result.andThen_ok]
      simp only [hfill]
      simp [newRow]
  have hst : Step σ E1 kb1 W (σ ++ [⟨W.heap.size, len, s + 1⟩]) E1 (kb1 ++ [.row elem (s + 1) l]) (W.alloc (.cells ys.toArray elem)) :=
    alloc_row s1.inv hw (by omega) (by simp only [maxLen]; omega) (by simpa using hyl) (by rw [List.take_of_length_le (by rw [hl, hpl]; simp; omega)]; exact hD)
  exact ⟨_, _, _, _, _, _, hrun, s1.trans hst, by simp only [Den]; exact ⟨⟨W.heap.size, len, s + 1⟩, _, by rw [← s1.inv.len]; simp, rfl, by simp, by simp, by simp⟩, hK⟩
end Vc
