/- Slices of slices, lengths, append, copy, new slices. -/
import Derived.Test.YtnglmhckcfnfaaaVdE
import Derived.Deep.AppendSrc
set_option linter.unusedSimpArgs false
set_option linter.unusedVariables false
namespace Vc
open Go

/-! ### s[lo:hi] -/
def BndOk : Option Value → Nat → Nat → Prop
  | none, d, r => r = d
  | some v, _, r => ∃ k n, v = .int k n ∧ 0 ≤ n ∧ r = n.toNat

theorem run_sliceBound {P : Program} {W : World} (k : IntKind) (n : Int) (y : Nat) (c : BoundsCode) (hn : 0 ≤ n) (hy : n.toNat ≤ y) : (Instr.sliceBound (.int k n) y c).run P W = .ok n.toNat W := by
  have : n ≤ (y : Int) := by omega
  simp [Instr.sliceBound, asIntOf, hn, this]

theorem run_sliceBounds {P : Program} (W : World) (b : Bool) {len cap : Nat} {lo hi : Option Value} {l h : Nat} (hl : BndOk lo 0 l) (hh : BndOk hi len h) (h1 : l ≤ h) (h2 : h ≤ cap) :
    (Instr.sliceBounds b len cap lo hi none).run P W = .ok (l, h, cap) W := by
  cases lo with
  | none =>
    cases hi with
    | none =>
      simp only [BndOk] at hl hh
      subst hl; subst hh
      simp [Instr.sliceBounds]
    | some v =>
      simp only [BndOk] at hl hh
      obtain ⟨k, n, rfl, hn, rfl⟩ := hh
      subst hl
      simp [Instr.sliceBounds, run_sliceBound k n cap _ hn h2]
  | some u =>
    simp only [BndOk] at hl
    obtain ⟨k', n', rfl, hn', rfl⟩ := hl
    cases hi with
    | none =>
      simp only [BndOk] at hh
      subst hh
      simp [Instr.sliceBounds, run_sliceBound k' n' h _ hn' h1]
    | some v =>
      simp only [BndOk] at hh
      obtain ⟨k, n, rfl, hn, rfl⟩ := hh
      simp [Instr.sliceBounds, run_sliceBound k n cap _ hn h2, run_sliceBound k' n' n.toNat _ hn' h1]

theorem run_sliceAt {P : Program} {t elem : TypeId} {s : Nat} (ht : P.underlying t = some (.slice elem)) (hs : tSize P elem = some s) (W : World) {a : Option Addr} {len cap : Nat} {lo hi : Option Value} {l h : Nat}
    (hl : BndOk lo 0 l) (hh : BndOk hi len h) (h1 : l ≤ h) (h2 : h ≤ cap) :
    (Instr.sliceAt t (.slice a len cap) lo hi none).run P W = .ok (.slice (if cap = l then a else a.map (·.add (l * s))) (h - l) (cap - l)) W := by
  simp [Instr.sliceAt, Instr.slice, run_underlying ht, run_sliceBounds W true hl hh h1 h2, run_tSize hs]

theorem run_sliceArr {P : Program} {t arr elem : TypeId} {n s : Nat} (ht : P.underlying t = some (.pointer arr)) (ha : P.underlying arr = some (.array n elem)) (hs : tSize P elem = some s) (W : World) {b o : Nat} {lo hi : Option Value} {l h : Nat}
    (hl : BndOk lo 0 l) (hh : BndOk hi n h) (h1 : l ≤ h) (h2 : h ≤ n) :
    (Instr.sliceAt t (.pointer (some ⟨b, o, none⟩)) lo hi none).run P W = .ok (.slice (some (if n = l then ⟨b, o, none⟩ else ⟨b, o + l * s, none⟩)) (h - l) (n - l)) W := by
  simp [Instr.sliceAt, Instr.sureAddr, Instr.slice, run_underlying ht, run_underlying ha, run_sliceBounds W false hl hh h1 h2, run_tSize hs, asAddr, Addr.add_lit]

/-- The array behind a type that is sliced. -/
def arrT (P : Program) (t : TypeId) : Option (Nat × TypeId) :=
  match P.underlying t with
  | some (.array n elem) => some (n, elem)
  | some (.pointer arr) => match P.underlying arr with
    | some (.array n elem) => some (n, elem)
    | _ => none
  | _ => none
theorem run_sliceArr' {P : Program} {t elem : TypeId} {n s : Nat} (ha : arrT P t = some (n, elem)) (hs : tSize P elem = some s) (W : World) {b o : Nat} {lo hi : Option Value} {l h : Nat}
    (hl : BndOk lo 0 l) (hh : BndOk hi n h) (h1 : l ≤ h) (h2 : h ≤ n) :
    (Instr.sliceAt t (.pointer (some ⟨b, o, none⟩)) lo hi none).run P W = .ok (.slice (some (if n = l then ⟨b, o, none⟩ else ⟨b, o + l * s, none⟩)) (h - l) (n - l)) W := by
  unfold arrT at ha
  split at ha
  · rename_i n' e' ht
    cases ha
    simp [Instr.sliceAt, Instr.sureAddr, run_underlying ht, run_sliceBounds W false hl hh h1 h2, run_tSize hs, Addr.add_lit]
  · rename_i arr ht
    split at ha <;> try (cases ha; done)
    rename_i n' e' ha'
    cases ha
    exact run_sliceArr ht ha' hs W hl hh h1 h2
  · cases ha

/-- s[:0:0]. -/
theorem run_slice00 {P : Program} {t elem : TypeId} {s : Nat} (ht : P.underlying t = some (.slice elem)) (hs : tSize P elem = some s) (W : World) {a : Option Addr} {len cap : Nat} {lo : Option Value} {k k' : IntKind} (hl : BndOk lo 0 0) :
    (Instr.sliceAt t (.slice a len cap) lo (some (.int k 0)) (some (.int k' 0))).run P W = .ok (.slice a 0 0) W := by
  have b0 : ∀ (k : IntKind) (y : Nat) (c : BoundsCode), (Instr.sliceBound (.int k 0) y c).run P W = .ok 0 W := fun k y c => by simpa using run_sliceBound (P := P) (W := W) k 0 y c (by omega) (by simp)
  cases lo with
  | none => simp [Instr.sliceAt, Instr.slice, run_underlying ht, Instr.sliceBounds, b0, run_tSize hs]
  | some v =>
    obtain ⟨k2, n, rfl, hn, hn2⟩ := hl
    have : n = 0 := by omega
    subst this
    simp [Instr.sliceAt, Instr.slice, run_underlying ht, Instr.sliceBounds, b0, run_tSize hs]

/-- A bound, and what it must meet. -/
def bndV : Option V → Nat → Option (Prop × Nat)
  | none, d => some (True, d)
  | some v, _ => match numOf v with | some n => some (NonN n, n.toNat) | none => none

def OD (σ : Sg) (E : EH) : Option V → Option Value → Prop
  | none, none => True
  | some v, some x => Den σ E v x
  | _, _ => False

theorem bndV_ok {o : Option V} {d : Nat} {p : Prop} {n : Nat} (h : bndV o d = some (p, n)) (hp : p) {σ : Sg} {E : EH} {ov : Option Value}
    (hd : OD σ E o ov) : BndOk ov d n := by
  match o, ov with
  | none, none => simp only [bndV, Option.some.injEq, Prod.mk.injEq] at h; exact h.2.symm
  | some v, some x =>
    simp only [bndV] at h
    split at h <;> try (cases h; done)
    rename_i n' hn
    simp only [Option.some.injEq, Prod.mk.injEq] at h
    obtain ⟨rfl, rfl⟩ := h
    obtain ⟨k, rfl⟩ := numOf_den hn hd
    exact ⟨k, _, rfl, hp, rfl⟩
  | none, some x => exact hd.elim
  | some v, none => exact hd.elim

/-- Is it a slice? -/
def isSl : V → Bool
  | .sl .. | .e0 | .sa .. | .se .. | .dat (.sl ..) | .any (.slice ..) => true
  | _ => false
theorem isSl_den {v : V} (h : isSl v = true) {σ : Sg} {E : EH} {x : Value} (hd : Den σ E v x) : ∃ a len cap, x = .slice a len cap := by
  unfold isSl at h
  split at h <;> (try simp only [Den, RepD] at hd)
  · obtain ⟨r, a, _, rfl, _⟩ := hd; exact ⟨_, _, _, rfl⟩
  · obtain ⟨a, rfl⟩ := hd; exact ⟨_, _, _, rfl⟩
  · obtain ⟨r, a, _, rfl, _⟩ := hd; exact ⟨_, _, _, rfl⟩
  · obtain ⟨r, a, _, rfl, _⟩ := hd; exact ⟨_, _, _, rfl⟩
  · obtain ⟨a, cap, rfl, _⟩ := hd; exact ⟨_, _, _, rfl⟩
  · subst hd; exact ⟨_, _, _, rfl⟩
  · cases h

def zeroN : Option V → Bool
  | none => true
  | some v => match numOf v with | some (.ofNat 0) => true | _ => false
theorem zeroN_ok {o : Option V} (h : zeroN o = true) {σ : Sg} {E : EH} {ov : Option Value} (hd : OD σ E o ov) : BndOk ov 0 0 := by
  match o, ov with
  | none, none => rfl
  | some v, some x =>
    simp only [zeroN] at h
    split at h <;> try (cases h; done)
    rename_i hn
    obtain ⟨k, rfl⟩ := numOf_den hn hd
    exact ⟨k, 0, rfl, by omega, by simp⟩
  | none, some x => exact hd.elim
  | some v, none => exact hd.elim

def sliceK (P : Program) (t : TypeId) (x : V) (lo hi : Option V) (kb : KB) (K : V → Prop) : Prop :=
  match P.underlying t with
  | some (.slice elem) =>
    match tSize P elem with
    | some s =>
      match x with
      | .sl i a b =>
        match kb[i]?, bndV lo 0, bndV hi (b - a) with
        | some (.row _ sz _), some (p, l), some (q, h) => match Nat.beq sz s with
          | true => p ∧ q ∧ l ≤ h ∧ h ≤ b - a ∧ K (.sl i (a + l) (a + h))
          | false => False
        | _, _, _ => False
      | .dat (.sl sz ls) =>
        match bndV lo 0, bndV hi ls.length with
        | some (p, l), some (q, h) => match Nat.beq sz s with
          | true => p ∧ q ∧ l ≤ h ∧ h ≤ ls.length ∧ K (.dat (.sl sz ((ls.take h).drop l)))
          | false => False
        | _, _ => False
      | .sa i base o s' n c =>
        match bndV lo 0, bndV hi n with
        | some (p, l), some (q, h) => match Nat.beq s' s with
          | true => p ∧ q ∧ l ≤ h ∧ h ≤ c ∧ K (.sa i base (o + l * s') s' (h - l) (c - l))
          | false => False
        | _, _ => False
      | .se i j o s' n c =>
        match bndV lo 0, bndV hi n with
        | some (p, l), some (q, h) => match Nat.beq s' s with
          | true => p ∧ q ∧ l ≤ h ∧ h ≤ c ∧ K (.se i j (o + l * s') s' (h - l) (c - l))
          | false => False
        | _, _ => False
      | .any (.slice none 0 0) => match zeroN lo, zeroN hi with | true, true => K (.any (.slice none 0 0)) | _, _ => False
      | .e0 => match zeroN lo, zeroN hi with | true, true => K .e0 | _, _ => False
      | _ => False
    | none => False
  | _ =>
    match arrT P t with
    | some (n, elem) =>
      match tSize P elem, bndV lo 0, bndV hi n with
      | some s, some (p, l), some (q, h) => match x with
        | .ptr i off => match kb[i]? with
          | some (.cells cs) => match pieceAt cs off with
            | some (.arr _ _) => p ∧ q ∧ l ≤ h ∧ h ≤ n ∧ K (.sa i off (l * s) s (h - l) (n - l))
            | _ => False
          | _ => False
        | .pa i base o => p ∧ q ∧ l ≤ h ∧ h ≤ n ∧ K (.sa i base (o + l * s) s (h - l) (n - l))
        | .pe i j fld => p ∧ q ∧ l ≤ h ∧ h ≤ n ∧ K (.se i j (fld + l * s) s (h - l) (n - l))
        | .ipe e fld => match Nat.beq s 1 with
          | true => p ∧ q ∧ l ≤ h ∧ h ≤ n ∧ fld + h ≤ e.length ∧ K (.dat (.sl 1 (((e.drop (fld + l)).take (h - l)).map fun d => [d])))
          | false => False
        | _ => False
      | _, _, _ => False
    | none => False

theorem wl_single (ds : List D) : wl 1 (ds.map fun d => [d]) := fun e he => by
  obtain ⟨d, _, rfl⟩ := List.mem_map.1 he; rfl
theorem flat_single {α : Type} (ds : List α) : (ds.map fun d => [d]).flatten = ds := by
  induction ds with
  | nil => rfl
  | cons d ds ih => simp [ih]

theorem sliceK_ok {P : Program} {t : TypeId} {x : V} {lo hi : Option V} {kb : KB} {K : V → Prop} (h : sliceK P t x lo hi kb K) {σ : Sg} {E : EH} {W : World} (hi' : Inv σ E kb W) {a : Value} (hd : Den σ E x a) {lov hiv : Option Value}
    (hlo : OD σ E lo lov) (hhi : OD σ E hi hiv) :
    ∃ v z, (∀ W, (Instr.sliceAt t a lov hiv none).run P W = .ok z W) ∧ Den σ E v z ∧ K v := by
  unfold sliceK at h
  split at h <;> try exact h.elim
  · rename_i elem ht
    split at h <;> try exact h.elim
    rename_i s hs
    split at h <;> try exact h.elim
    · rename_i j a' b
      split at h <;> try exact h.elim
      rename_i ty sz ls p l q hh hk hb1 hb2
      split at h <;> try exact h.elim
      rename_i hb
      have hsz := Nat.eq_of_beq_eq_true hb
      obtain ⟨hp, hq, h1, h2, hK⟩ := h
      simp only [Den] at hd
      obtain ⟨r, ad, hr, rfl, g1, g2, g3⟩ := hd
      have hrs := (hi'.obj j r _ hr hk).1
      refine ⟨_, _, fun W => run_sliceAt ht hs W (bndV_ok hb1 hp hlo) (bndV_ok hb2 hq hhi) h1 (by omega), ?_, hK⟩
      simp only [Den]
      refine ⟨r, (if r.cap - a' = l then ad else ad.map (·.add (l * s))), hr, ?_, by omega, by omega, fun hlt => ?_⟩
      · rw [show hh - l = a' + hh - (a' + l) by omega, show r.cap - a' - l = r.cap - (a' + l) by omega]
      · rw [if_neg (by omega), g3 (by omega)]
        simp [Addr.add_lit, Nat.add_mul, hrs, hsz]
    · rename_i sz ls
      split at h <;> try exact h.elim
      rename_i p l q hh hb1 hb2
      split at h <;> try exact h.elim
      rename_i hb
      have hsz := Nat.eq_of_beq_eq_true hb
      subst hsz
      obtain ⟨hp, hq, h1, h2, hK⟩ := h
      simp only [Den, RepD] at hd
      obtain ⟨ad, cap, rfl, hcap, hrep⟩ := hd
      refine ⟨_, _, fun W => run_sliceAt ht hs W (bndV_ok hb1 hp hlo) (bndV_ok hb2 hq hhi) h1 (by omega), ?_, hK⟩
      simp only [Den, RepD]
      have hlen : ((ls.take hh).drop l).length = hh - l := by simp; omega
      refine ⟨_, _, by rw [hlen], by rw [hlen]; omega, ?_⟩
      by_cases h0 : hh - l = 0
      · left; rw [hlen]; exact h0
      · right
        rcases hrep with hrep | ⟨b, off, rfl, hrep⟩
        · omega
        rw [if_neg (by omega)]
        refine ⟨b, off + l * sz, by simp [Addr.add_lit], RepL.of_flat ((hrep.wl.take hh).drop l) ?_⟩
        rw [take_drop_flat hrep.wl]
        exact hrep.flat.sub _ _
    · rename_i i base o s' n c
      split at h <;> try exact h.elim
      rename_i p l q hh hb1 hb2
      split at h <;> try exact h.elim
      rename_i hb
      have hsz := Nat.eq_of_beq_eq_true hb
      subst hsz
      obtain ⟨hp, hq, h1, h2, hK⟩ := h
      simp only [Den] at hd
      obtain ⟨r, ad, hr, rfl, hnc, had⟩ := hd
      refine ⟨_, _, fun W => run_sliceAt ht hs W (bndV_ok hb1 hp hlo) (bndV_ok hb2 hq hhi) h1 h2, ?_, hK⟩
      simp only [Den]
      refine ⟨r, _, hr, rfl, by omega, fun hlt => ?_⟩
      rw [if_neg (by omega), had (by omega)]
      simp [Addr.add_lit, Nat.add_assoc]
    · rename_i i j o s' n c
      split at h <;> try exact h.elim
      rename_i p l q hh hb1 hb2
      split at h <;> try exact h.elim
      rename_i hb
      have hsz := Nat.eq_of_beq_eq_true hb
      subst hsz
      obtain ⟨hp, hq, h1, h2, hK⟩ := h
      simp only [Den] at hd
      obtain ⟨r, ad, hr, rfl, hnc, had⟩ := hd
      refine ⟨_, _, fun W => run_sliceAt ht hs W (bndV_ok hb1 hp hlo) (bndV_ok hb2 hq hhi) h1 h2, ?_, hK⟩
      simp only [Den]
      refine ⟨r, _, hr, rfl, by omega, fun hlt => ?_⟩
      rw [if_neg (by omega), had (by omega)]
      simp [Addr.add_lit, Nat.add_assoc]
    · split at h <;> try exact h.elim
      rename_i z1 z2
      simp only [Den] at hd
      subst hd
      exact ⟨_, _, fun W => by simpa using run_sliceAt ht hs W (a := none) (len := 0) (cap := 0) (zeroN_ok z1 hlo) (zeroN_ok z2 hhi) (Nat.le_refl _) (Nat.le_refl _), by simp [Den], h⟩
    · split at h <;> try exact h.elim
      rename_i z1 z2
      simp only [Den] at hd
      obtain ⟨ad, rfl⟩ := hd
      exact ⟨_, _, fun W => by simpa using run_sliceAt ht hs W (a := ad) (len := 0) (cap := 0) (zeroN_ok z1 hlo) (zeroN_ok z2 hhi) (Nat.le_refl _) (Nat.le_refl _), by simp only [Den]; exact ⟨_, rfl⟩, h⟩
  · split at h <;> try exact h.elim
    rename_i n elem ha
    split at h <;> try exact h.elim
    rename_i s p l q hh hs hb1 hb2
    split at h <;> try exact h.elim
    · rename_i i off
      split at h <;> try exact h.elim
      rename_i cs hcs
      split at h <;> try exact h.elim
      obtain ⟨hp, hq, h1, h2, hK⟩ := h
      simp only [Den] at hd
      obtain ⟨r, hr, rfl⟩ := hd
      refine ⟨_, _, fun W => run_sliceArr' ha hs W (bndV_ok hb1 hp hlo) (bndV_ok hb2 hq hhi) h1 h2, ?_, hK⟩
      simp only [Den]
      exact ⟨r, _, hr, rfl, by omega, fun hlt => by rw [if_neg (by omega)]⟩
    · rename_i i base o
      obtain ⟨hp, hq, h1, h2, hK⟩ := h
      simp only [Den] at hd
      obtain ⟨r, hr, rfl⟩ := hd
      refine ⟨_, _, fun W => run_sliceArr' ha hs W (bndV_ok hb1 hp hlo) (bndV_ok hb2 hq hhi) h1 h2, ?_, hK⟩
      simp only [Den]
      exact ⟨r, _, hr, rfl, by omega, fun hlt => by rw [if_neg (by omega), Nat.add_assoc]⟩
    · rename_i i j fld
      obtain ⟨hp, hq, h1, h2, hK⟩ := h
      simp only [Den] at hd
      obtain ⟨r, hr, rfl⟩ := hd
      refine ⟨_, _, fun W => run_sliceArr' ha hs W (bndV_ok hb1 hp hlo) (bndV_ok hb2 hq hhi) h1 h2, ?_, hK⟩
      simp only [Den]
      exact ⟨r, _, hr, rfl, by omega, fun hlt => by rw [if_neg (by omega), Nat.add_assoc]⟩
    · rename_i e fld
      split at h <;> try exact h.elim
      rename_i hb
      have hs1 := Nat.eq_of_beq_eq_true hb
      subst hs1
      obtain ⟨hp, hq, h1, h2, h3, hK⟩ := h
      simp only [Den] at hd
      obtain ⟨b, off, rfl, hrep⟩ := hd
      refine ⟨_, _, fun W => run_sliceArr' ha hs W (bndV_ok hb1 hp hlo) (bndV_ok hb2 hq hhi) h1 h2, ?_, hK⟩
      simp only [Den, RepD]
      have hlen : (((e.drop (fld + l)).take (hh - l)).map fun d => [d]).length = hh - l := by simp; omega
      refine ⟨_, _, by rw [hlen], by rw [hlen]; omega, ?_⟩
      by_cases h0 : hh - l = 0
      · left; rw [hlen]; exact h0
      · right
        rw [if_neg (by omega)]
        refine ⟨b, off + (fld + l), by simp [Nat.add_assoc], RepL.of_flat (wl_single _) ?_⟩
        rw [flat_single]
        exact hrep.sub _ _

def slice00K (P : Program) (t : TypeId) (x : V) (lo hi mx : Option V) (K : V → Prop) : Prop :=
  match P.underlying t with
  | some (.slice elem) => match tSize P elem, isSl x, zeroN lo, hi, mx with
    | some _, true, true, some h, some m => match zeroN (some h), zeroN (some m) with
      | true, true => K .e0
      | _, _ => False
    | _, _, _, _, _ => False
  | _ => False
theorem slice00K_ok {P : Program} {t : TypeId} {x : V} {lo hi mx : Option V} {K : V → Prop} (h : slice00K P t x lo hi mx K) {σ : Sg} {E : EH} {a : Value} (hd : Den σ E x a) {lov hiv mxv : Option Value}
    (hlo : OD σ E lo lov) (hhi : OD σ E hi hiv) (hmx : OD σ E mx mxv) :
    ∃ v z, (∀ W, (Instr.sliceAt t a lov hiv mxv).run P W = .ok z W) ∧ Den σ E v z ∧ K v := by
  unfold slice00K at h
  split at h <;> try exact h.elim
  rename_i elem ht
  split at h <;> try exact h.elim
  rename_i s hv mv hs hx z1
  split at h <;> try exact h.elim
  rename_i z2 z3
  obtain ⟨ad, len, cap, rfl⟩ := isSl_den hx hd
  obtain ⟨b1, b2, b3⟩ : BndOk lov 0 0 ∧ (∃ k, hiv = some (.int k 0)) ∧ (∃ k, mxv = some (.int k 0)) := by
    refine ⟨zeroN_ok z1 hlo, ?_, ?_⟩
    · have := zeroN_ok z2 hhi
      match hiv, hhi with
      | some v, _ => obtain ⟨k, n, rfl, hn, hn2⟩ := this; exact ⟨k, by rw [show n = 0 by omega]⟩
      | none, hhi => exact hhi.elim
    · have := zeroN_ok z3 hmx
      match mxv, hmx with
      | some v, _ => obtain ⟨k, n, rfl, hn, hn2⟩ := this; exact ⟨k, by rw [show n = 0 by omega]⟩
      | none, hmx => exact hmx.elim
  obtain ⟨k, rfl⟩ := b2
  obtain ⟨k', rfl⟩ := b3
  exact ⟨_, _, fun W => run_slice00 ht hs W b1, by simp only [Den]; exact ⟨_, rfl⟩, h⟩

/-! ### len -/
def lenV : V → Option Nat
  | .sl _ lo hi => some (hi - lo)
  | .dat (.sl _ l) => some l.length
  | .sa _ _ _ _ n _ => some n
  | .se _ _ _ _ n _ => some n
  | .e0 => some 0
  | _ => none
theorem lenV_ok {v : V} {n : Nat} (h : lenV v = some n) {σ : Sg} {E : EH} {x : Value} (hd : Den σ E v x) : ∃ a cap, x = .slice a n cap := by
  unfold lenV at h
  split at h <;> (try cases h) <;> simp only [Den, RepD] at hd
  · obtain ⟨r, a, _, rfl, _⟩ := hd; exact ⟨_, _, rfl⟩
  · obtain ⟨a, cap, rfl, _⟩ := hd; exact ⟨_, _, rfl⟩
  · obtain ⟨r, a, _, rfl, _⟩ := hd; exact ⟨_, _, rfl⟩
  · obtain ⟨r, a, _, rfl, _⟩ := hd; exact ⟨_, _, rfl⟩
  · obtain ⟨a, rfl⟩ := hd; exact ⟨_, _, rfl⟩
def lenK (P : Program) (t : TypeId) (x : V) (K : V → Prop) : Prop :=
  match P.underlying t with
  | some (.slice _) => match lenV x with
    | some n => K (.int .i64 (n : Int))
    | none => False
  | some (.array n _) => K (.int .i64 (n : Int))
  | _ => False

theorem lenK_ok {P : Program} {t : TypeId} {x : V} {K : V → Prop} (h : lenK P t x K) {σ : Sg} {E : EH} {a : Value} (hd : Den σ E x a) (ty : TypeId) :
    ∃ v z, (∀ W, (Builtin.len_ #[t] ty #[a]).run P W = .ok z W) ∧ Den σ E v z ∧ K v := by
  unfold lenK at h
  split at h <;> try exact h.elim
  · rename_i e ht
    split at h <;> try exact h.elim
    rename_i n hn
    obtain ⟨ad, cap, rfl⟩ := lenV_ok hn hd
    exact ⟨_, _, fun W => by simp [Builtin.len_, run_underlying ht]; rfl, by simp [Den, goInt], h⟩
  · rename_i n e ht
    exact ⟨_, _, fun W => by simp [Builtin.len_, run_underlying ht]; rfl, by simp [Den, goInt], h⟩
end Vc
