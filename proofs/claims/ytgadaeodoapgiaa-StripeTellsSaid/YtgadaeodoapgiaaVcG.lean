/- Fields of values, literals, equality of structs and arrays. -/
import Derived.Test.YtgadaeodoapgiaaVcF
import Derived.Laws.StructEq
set_option linter.unusedVariables false
namespace Vc
open Go

/-- The part of these cells that is a value of type t. -/
def partV (P : Program) (t : TypeId) (l : List V) (off : Nat) : Option V :=
  match tAgg P t, tSize P t with
  | some true, some n => match Nat.ble (off + n) l.length with | true => some (.agg ((l.drop off).take n)) | false => none
  | some false, some _ => l[off]?
  | _, _ => none

theorem partV_ok {P : Program} {t : TypeId} {l : List V} {off : Nat} {v : V} (h : partV P t l off = some v) {σ : Sg} {E : EH} {xs : List Value} (hd : DenL σ E l xs) :
    ∃ x, (∀ W, (part t xs.toArray off).run P W = .ok x W) ∧ Den σ E v x := by
  unfold partV at h
  split at h
  · rename_i n ha hn
    split at h
    · rename_i hb
      have hle := Nat.le_of_ble_eq_true hb
      cases h
      refine ⟨_, fun W => by simp [part, run_tAgg ha, run_tSize hn]; rfl, ?_⟩
      simp only [Den]
      exact ⟨(xs.drop off).take n, rfl, (hd.drop off).take n⟩
    · cases h
  · rename_i n ha hn
    obtain ⟨x, hx, hv⟩ := hd.get h
    exact ⟨x, fun W => by simp [part, run_tAgg ha, hx], hv⟩
  · cases h

def fieldV (P : Program) (t : TypeId) (v : V) (n : Nat) : Option V :=
  match P.underlying t, v with
  | some (.struct fs), .agg l => match fs[n]? with
    | some f => partV P f.type l f.offset
    | none => none
  | _, _ => none

theorem fieldV_ok {P : Program} {t : TypeId} {v u : V} {n : Nat} (h : fieldV P t v n = some u) {σ : Sg} {E : EH} {x : Value} (hd : Den σ E v x) :
    ∃ y, (∀ W, (Instr.field t x n).run P W = .ok y W) ∧ Den σ E u y := by
  unfold fieldV at h
  split at h
  · rename_i fs l ht
    split at h
    · rename_i f hf
      simp only [Den] at hd
      obtain ⟨xs, rfl, hD⟩ := hd
      obtain ⟨y, h1, h2⟩ := partV_ok h hD
      exact ⟨y, fun W => by simp [Instr.field, run_underlying ht, hf, asAgg, h1], h2⟩
    · cases h
  · cases h

/-! ### Equality -/
def eqFs (P : Program) (eq : TypeId → V → V → Option Bool) (xs ys : List V) : List Field → Option Bool
  | [] => some true
  | f :: fs =>
    match f.name == "_" with
    | true => eqFs P eq xs ys fs
    | false => match partV P f.type xs f.offset, partV P f.type ys f.offset with
      | some a, some b => match eq f.type a b, eqFs P eq xs ys fs with
        | some r, some s => some (r && s)
        | _, _ => none
      | _, _ => none

def eqEs (P : Program) (eq : TypeId → V → V → Option Bool) (elem : TypeId) (n : Nat) (xs ys : List V) : Nat → Nat → Option Bool
  | _, 0 => some true
  | i, m + 1 => match partV P elem xs (i * n), partV P elem ys (i * n) with
    | some a, some b => match eq elem a b, eqEs P eq elem n xs ys (i + 1) m with
      | some r, some s => some (r && s)
      | _, _ => none
    | _, _ => none

def delit : V → V
  | .lit k n => .int k n
  | v => v
theorem delit_den {σ : Sg} {E : EH} {v : V} {x : Value} (h : Den σ E v x) : Den σ E (delit v) x := by
  cases v <;> simp only [delit] <;> first | exact h | simpa [Den] using h

def boolOf : V → Option Bool
  | .sb b => some b
  | .tt => some true
  | .ff => some false
  | _ => none

/-- Are two values of type t the same? -/
def eqT (P : Program) : Nat → TypeId → V → V → Option Bool
  | 0, _, _, _ => none
  | d + 1, t, x, y =>
    match P.underlying t with
    | some (.int _) => match delit x, delit y with
      | .int k a, .int k' b => match decide (k = k') with | true => some (a == b) | false => none
      | _, _ => none
    | some .bool => match boolOf x, boolOf y with
      | some a, some b => some (a == b)
      | _, _ => none
    | some .string => match x, y with
      | .any (.string a), .any (.string b) => some (a.toList == b.toList)
      | _, _ => none
    | some (.struct fs) => match P.stoodInHeld t, x, y with
      | false, .agg xs, .agg ys => eqFs P (eqT P d) xs ys fs.toList
      | _, _, _ => none
    | some (.array len elem) => match tSize P elem, x, y with
      | some n, .agg xs, .agg ys => eqEs P (eqT P d) elem n xs ys 0 len
      | _, _, _ => none
    | _ => none

theorem boolOf_den {v : V} {b : Bool} (h : boolOf v = some b) {σ : Sg} {E : EH} {x : Value} (hd : Den σ E v x) : x = .bool b := by
  cases v <;> simp only [boolOf, Option.some.injEq, reduceCtorEq] at h <;> subst h <;> simpa [Den] using hd

theorem eqFs_ok {P : Program} {eq : TypeId → V → V → Option Bool} {d : Nat} {σ : Sg} {E : EH}
    (heq : ∀ t x y r, eq t x y = some r → ∀ a b, Den σ E x a → Den σ E y b → ∀ W, (Op.equalIn d t a b).run P W = .ok r W) {xs ys : List V} {as bs : List Value} (hx : DenL σ E xs as) (hy : DenL σ E ys bs) (W : World) :
    ∀ {fs : List Field} {r : Bool}, eqFs P eq xs ys fs = some r → (Op.eqFields d as.toArray bs.toArray fs).run P W = .ok r W
  | [], r, h => by simp [eqFs] at h; subst h; simp [Op.eqFields]
  | f :: fs, r, h => by
    simp only [eqFs] at h
    split at h
    · rename_i hn
      have hn' : f.name = "_" := by simpa using hn
      simp only [Op.eqFields, hn']
      simpa using eqFs_ok heq hx hy W h
    · rename_i hn
      have hn' : ¬ f.name = "_" := by simpa using hn
      split at h
      · rename_i a b ha hb
        split at h
        · rename_i r1 s1 h1 h2
          cases h
          obtain ⟨x, hx1, hx2⟩ := partV_ok ha hx
          obtain ⟨y, hy1, hy2⟩ := partV_ok hb hy
          have hr := heq _ _ _ _ h1 x y hx2 hy2 W
          have ih := eqFs_ok heq hx hy W h2
          simp only [Op.eqFields, ne_eq, hn', not_false_eq_true, if_true, Sem.run_bind, hx1, hy1, hr, Result.andThen_ok]
          cases r1
          · simp
          · simpa using ih
        · cases h
      · cases h

theorem eqT_ok {P : Program} {σ : Sg} {E : EH} : ∀ (d : Nat) (t : TypeId) (x y : V) (r : Bool), eqT P d t x y = some r → ∀ a b, Den σ E x a → Den σ E y b → ∀ (m : Nat), d ≤ m → ∀ W, (Op.equalIn m t a b).run P W = .ok r W
  | 0, _, _, _, _, h, _, _, _, _, _, _, _ => by simp [eqT] at h
  | d + 1, t, x, y, r, h, a, b, ha, hb, 0, hm, W => by omega
  | d + 1, t, x, y, r, h, a, b, ha, hb, m + 1, hm, W => by
    have ih := eqT_ok (P := P) (σ := σ) (E := E) d
    simp only [eqT] at h
    split at h
    · rename_i k0 ht
      split at h
      · rename_i k p k' q hxe hye
        split at h
        · rename_i hk
          have hk' : k = k' := by simpa using hk
          subst hk'
          cases h
          replace ha := delit_den ha
          replace hb := delit_den hb
          rw [hxe] at ha
          rw [hye] at hb
          simp only [Den] at ha hb
          subst ha; subst hb
          exact run_equalIn_int W m t k k0 p q ht
        · cases h
      · cases h
    · rename_i ht
      split at h
      · rename_i p q hp hq
        cases h
        rw [boolOf_den hp ha, boolOf_den hq hb]
        exact run_equalIn_bool' W m t p q ht
      · cases h
    · rename_i ht
      split at h
      · cases h
        simp only [Den] at ha hb
        subst ha; subst hb
        exact run_equalIn_string W m t _ _ ht
      · cases h
    · rename_i fs ht
      split at h
      · rename_i xs ys hst
        simp only [Den] at ha hb
        obtain ⟨as, rfl, hx⟩ := ha
        obtain ⟨bs, rfl, hy⟩ := hb
        have hf : P.fieldsOf t = fs := by simp [Program.fieldsOf, ht]
        rw [run_equalIn_struct W m t as.toArray bs.toArray (by rw [hf]; exact ht) hst, hf]
        exact eqFs_ok (d := m) (fun t x y r h a b ha hb W => ih t x y r h a b ha hb m (by omega) W) hx hy W h
      · cases h
    · rename_i len elem ht
      split at h
      · rename_i n xs ys hn
        simp only [Den] at ha hb
        obtain ⟨as, rfl, hx⟩ := ha
        obtain ⟨bs, rfl, hy⟩ := hb
        simp only [Op.equalIn, Sem.run_bind, run_underlying ht, Result.andThen_ok, run_tSize hn]
        rw [Std.Legacy.Range.forIn_eq_forIn_range']
        simp only [Std.Legacy.Range.size, Nat.sub_zero, Nat.add_sub_cancel, Nat.div_one]
        clear ht
        generalize 0 = i at h ⊢
        induction len generalizing i r with
        | zero => simp only [eqEs] at h; cases h; simp
        | succ len ihl =>
          simp only [eqEs] at h
          split at h
          · rename_i p q hp hq
            split at h
            · rename_i r1 s1 h1 h2
              cases h
              obtain ⟨u, hu1, hu2⟩ := partV_ok hp hx
              obtain ⟨v, hv1, hv2⟩ := partV_ok hq hy
              have hr := ih _ _ _ _ h1 u v hu2 hv2 m (by omega) W
              have := ihl s1 (i + 1) h2
              simp only [List.range'_succ, List.forIn_cons, Sem.run_bind, hu1, hv1, hr, Result.andThen_ok]
              cases r1
              · simp
              · simpa using this
            · cases h
          · cases h
      · cases h
    · cases h
end Vc
