/- Slices of slices, lengths, append, literals. -/
import Derived.Test.YtgadaeodoapgiaaVcE
import Derived.Deep.AppendSrc
set_option linter.unusedVariables false
namespace Vc
open Go

/-! ### s[lo:hi] -/
def BndOk : Option Value → Nat → Nat → Prop
  | none, d, r => r = d
  | some v, _, r => ∃ k n, v = .int k n ∧ 0 ≤ n ∧ r = n.toNat

theorem run_sliceBounds {P : Program} (W : World) {len cap : Nat} {lo hi : Option Value} {l h : Nat} (hl : BndOk lo 0 l) (hh : BndOk hi len h) (h1 : l ≤ h) (h2 : h ≤ cap) :
    (Instr.sliceBounds true len cap lo hi none).run P W = .ok (l, h, cap) W := by
  have bound : ∀ (k : IntKind) (n : Int) (y : Nat) (c : BoundsCode), 0 ≤ n → n.toNat ≤ y → (Instr.sliceBound (.int k n) y c).run P W = .ok n.toNat W := by
    intro k n y c hn hy
    have : n ≤ (y : Int) := by omega
    simp [Instr.sliceBound, asIntOf, hn, this]
  cases lo with
  | none =>
    cases hi with
    | none =>
      simp only [BndOk] at hl hh
      subst hl; subst hh
      simp [Instr.sliceBounds]
    | some v =>
      simp only [BndOk] at hl hh
      obtain ⟨k, n, rfl, hn, rfl⟩ := hh
      subst hl
      simp [Instr.sliceBounds, bound k n cap _ hn h2]
  | some u =>
    simp only [BndOk] at hl
    obtain ⟨k', n', rfl, hn', rfl⟩ := hl
    cases hi with
    | none =>
      simp only [BndOk] at hh
      subst hh
      simp [Instr.sliceBounds, bound k' n' h _ hn' h1]
    | some v =>
      simp only [BndOk] at hh
      obtain ⟨k, n, rfl, hn, rfl⟩ := hh
      simp [Instr.sliceBounds, bound k n cap _ hn h2, bound k' n' n.toNat _ hn' h1]

theorem run_sliceAt {P : Program} {t elem : TypeId} {s : Nat} (ht : P.underlying t = some (.slice elem)) (hs : tSize P elem = some s) (W : World) {a : Option Addr} {len cap : Nat} {lo hi : Option Value} {l h : Nat}
    (hl : BndOk lo 0 l) (hh : BndOk hi len h) (h1 : l ≤ h) (h2 : h ≤ cap) :
    (Instr.sliceAt t (.slice a len cap) lo hi none).run P W = .ok (.slice (if cap = l then a else a.map (·.add (l * s))) (h - l) (cap - l)) W := by
  simp [Instr.sliceAt, Instr.slice, run_underlying ht, run_sliceBounds W hl hh h1 h2, run_tSize hs]

/-- A bound, and what it must meet. -/
def bndV : Option V → Nat → Option (Prop × Nat)
  | none, d => some (True, d)
  | some (.int _ n), _ => some (NonN n, n.toNat)
  | _, _ => none

def sliceK (P : Program) (t : TypeId) (x : V) (lo hi : Option V) (kb : KB) (K : V → Prop) : Prop :=
  match P.underlying t with
  | some (.slice elem) =>
    match tSize P elem with
    | some s =>
      match x with
      | .sl i a b =>
        match kb[i]?, bndV lo 0, bndV hi (b - a) with
        | some (.row _ sz _), some (p, l), some (q, h) => match Nat.beq sz s with
          | true => p ∧ q ∧ l ≤ h ∧ h ≤ b - a ∧ K (.sl i (a + l) (a + h))
          | false => False
        | _, _, _ => False
      | .isl sz ls =>
        match bndV lo 0, bndV hi ls.length with
        | some (p, l), some (q, h) => match Nat.beq sz s, Nat.ble 1 s with
          | true, true => p ∧ q ∧ l ≤ h ∧ h ≤ ls.length ∧ K (.isl sz ((ls.take h).drop l))
          | _, _ => False
        | _, _ => False
      | _ => False
    | none => False
  | _ => False

def OD (σ : Sg) (E : EH) : Option V → Option Value → Prop
  | none, none => True
  | some v, some x => Den σ E v x
  | _, _ => False

theorem bndV_ok {o : Option V} {d : Nat} {p : Prop} {n : Nat} (h : bndV o d = some (p, n)) (hp : p) {σ : Sg} {E : EH} {ov : Option Value}
    (hd : OD σ E o ov) : BndOk ov d n := by
  match o, ov with
  | none, none => simp only [bndV, Option.some.injEq, Prod.mk.injEq] at h; exact h.2.symm
  | some v, some x =>
    cases v <;> simp only [bndV, Option.some.injEq, Prod.mk.injEq, reduceCtorEq] at h
    obtain ⟨rfl, rfl⟩ := h
    simp only [OD, Den] at hd
    exact ⟨_, _, hd, hp, rfl⟩
  | none, some x => exact hd.elim
  | some v, none => exact hd.elim

theorem flatten_drop {sz : Nat} : ∀ {l : List (List Value)}, (∀ e ∈ l, e.length = sz) → ∀ n, (l.drop n).flatten = l.flatten.drop (n * sz)
  | _, _, 0 => by simp
  | [], _, n + 1 => by simp
  | c :: l, hs, n + 1 => by
    have hc : c.length = sz := hs c (by simp)
    rw [List.drop_succ_cons, List.flatten_cons, show (n + 1) * sz = c.length + n * sz by rw [Nat.succ_mul, hc]; omega, List.drop_length_add_append]
    exact flatten_drop (fun e he => hs e (List.mem_cons_of_mem _ he)) n
theorem flatten_take {sz : Nat} : ∀ {l : List (List Value)}, (∀ e ∈ l, e.length = sz) → ∀ n, (l.take n).flatten = l.flatten.take (n * sz)
  | _, _, 0 => by simp
  | [], _, n + 1 => by simp
  | c :: l, hs, n + 1 => by
    have hc : c.length = sz := hs c (by simp)
    rw [List.take_succ_cons, List.flatten_cons, List.flatten_cons, show (n + 1) * sz = c.length + n * sz by rw [Nat.succ_mul, hc]; omega, List.take_length_add_append]
    rw [flatten_take (fun e he => hs e (List.mem_cons_of_mem _ he)) n]

theorem sliceK_ok {P : Program} {t : TypeId} {x : V} {lo hi : Option V} {kb : KB} {K : V → Prop} (h : sliceK P t x lo hi kb K) {σ : Sg} {E : EH} {W : World} (hi' : Inv σ E kb W) {a : Value} (hd : Den σ E x a) {lov hiv : Option Value}
    (hlo : OD σ E lo lov) (hhi : OD σ E hi hiv) :
    ∃ v z, (∀ W, (Instr.sliceAt t a lov hiv none).run P W = .ok z W) ∧ Den σ E v z ∧ K v := by
  unfold sliceK at h
  split at h <;> try exact h.elim
  rename_i elem ht
  split at h <;> try exact h.elim
  rename_i s hs
  split at h <;> try exact h.elim
  · rename_i j a' b
    split at h <;> try exact h.elim
    rename_i ty sz ls p l q hh hk hb1 hb2
    split at h <;> try exact h.elim
    rename_i hb
    have hsz := Nat.eq_of_beq_eq_true hb
    obtain ⟨hp, hq, h1, h2, hK⟩ := h
    simp only [Den] at hd
    obtain ⟨r, ad, hr, rfl, g1, g2, g3⟩ := hd
    have hrs := (hi'.obj j r _ hr hk).1
    refine ⟨_, _, fun W => run_sliceAt ht hs W (bndV_ok hb1 hp hlo) (bndV_ok hb2 hq hhi) h1 (by omega), ?_, hK⟩
    simp only [Den]
    refine ⟨r, (if r.cap - a' = l then ad else ad.map (·.add (l * s))), hr, ?_, by omega, by omega, fun hlt => ?_⟩
    · rw [show hh - l = a' + hh - (a' + l) by omega, show r.cap - a' - l = r.cap - (a' + l) by omega]
    · rw [if_neg (by omega), g3 (by omega)]
      simp [Addr.add_lit, Nat.add_mul, hrs, hsz]
  · rename_i sz ls
    split at h <;> try exact h.elim
    rename_i p l q hh hb1 hb2
    split at h <;> try exact h.elim
    rename_i hb hb3
    have hsz := Nat.eq_of_beq_eq_true hb
    have hs1 := Nat.le_of_ble_eq_true hb3
    subst hsz
    obtain ⟨hp, hq, h1, h2, hK⟩ := h
    simp only [Den, RepD] at hd
    obtain ⟨hall, ad, len, cap, rfl, hlen, hcap, hrep⟩ := hd
    rw [List.length_map, flatten_length hall.len] at hlen
    have hll : len = ls.length := Nat.eq_of_mul_eq_mul_right hs1 hlen
    subst hll
    refine ⟨_, _, fun W => run_sliceAt ht hs W (bndV_ok hb1 hp hlo) (bndV_ok hb2 hq hhi) h1 (by omega), ?_, hK⟩
    simp only [Den, RepD]
    have hw := (hall.take hh).drop l
    have hfl : ((ls.take hh).drop l).flatten = (ls.flatten.drop (l * sz)).take ((hh - l) * sz) := by
      rw [flatten_drop (hall.take hh).len, flatten_take hall.len, List.drop_take, Nat.sub_mul]
    refine ⟨hw, _, _, _, rfl, ?_, by omega, ?_⟩
    · rw [List.length_map, flatten_length hw.len]
      simp only [List.length_drop, List.length_take]
      congr 1
      omega
    · rcases hrep with hrep | ⟨b, off, rfl, hrep⟩
      · left
        rw [hfl]
        have : ls.flatten = [] := by simpa using hrep
        simp [this]
      · by_cases hcl : cap = l
        · left
          rw [hfl, show hh - l = 0 by omega]
          simp
        · right
          rw [if_neg hcl]
          refine ⟨b, off + l * sz, by simp [Addr.add_lit], ?_⟩
          rw [hfl, List.map_take, List.map_drop]
          exact hrep.sub (l * sz) ((hh - l) * sz)

/-! ### len -/
def lenK (P : Program) (t : TypeId) (x : V) (K : V → Prop) : Prop :=
  match P.underlying t, x with
  | some (.slice _), .sl _ lo hi => K (.int .i64 ((hi - lo : Nat) : Int))
  | some (.slice elem), .isl sz l => match tSize P elem with
    | some (s + 1) => match Nat.beq sz (s + 1) with
      | true => K (.int .i64 (l.length : Int))
      | false => False
    | _ => False
  | _, _ => False

theorem isl_len {σ : Sg} {E : EH} {sz : Nat} {l : List (List Value)} (hs : 0 < sz) {x : Value} (h : Den σ E (.isl sz l) x) : ∃ a cap, x = .slice a l.length cap ∧ l.length ≤ cap := by
  simp only [Den, RepD] at h
  obtain ⟨hall, ad, len, cap, rfl, hlen, hcap, _⟩ := h
  rw [List.length_map, flatten_length hall.len] at hlen
  have hll : len = l.length := Nat.eq_of_mul_eq_mul_right hs hlen
  subst hll
  exact ⟨ad, cap, rfl, hcap⟩

theorem lenK_ok {P : Program} {t : TypeId} {x : V} {K : V → Prop} (h : lenK P t x K) {σ : Sg} {E : EH} {a : Value} (hd : Den σ E x a) (ty : TypeId) :
    ∃ v z, (∀ W, (Builtin.len_ #[t] ty #[a]).run P W = .ok z W) ∧ Den σ E v z ∧ K v := by
  unfold lenK at h
  split at h <;> try exact h.elim
  · rename_i e i lo hi ht
    simp only [Den] at hd
    obtain ⟨r, ad, hr, rfl, g1, g2, g3⟩ := hd
    exact ⟨_, _, fun W => by simp [Builtin.len_, run_underlying ht]; rfl, by simp [Den, goInt], h⟩
  · rename_i e sz l ht
    split at h <;> try exact h.elim
    rename_i s hs
    split at h <;> try exact h.elim
    rename_i hb
    have hsz := Nat.eq_of_beq_eq_true hb
    obtain ⟨ad, cap, rfl, _⟩ := isl_len (by omega) hd
    exact ⟨_, _, fun W => by simp [Builtin.len_, run_underlying ht]; rfl, by simp [Den, goInt], h⟩

/-! ### append -/
/-- One block of ours goes, another one comes: the same block, or a new one. -/
theorem Inv.renew {σ : Sg} {E : EH} {kb : KB} {W W' : World} (h : Inv σ E kb W) {i : Nat} {r r' : Re} {o o' : KO} (hs : σ[i]? = some r) (hk : kb[i]? = some o)
    (hos : W'.os = W.os) (htp : W'.tape = W.tape) (hout : W'.output = W.output) (hsz : W.heap.size ≤ W'.heap.size)
    (hbl : ∀ b, b < W.heap.size → ¬ owned r o b → W'.heap[b]? = W.heap[b]?) (hr : ∀ b, owned r' o' b → owned r o b ∨ W.heap.size ≤ b) (ho : HoldsO (σ ++ [r']) E W' r' o') :
    Step σ E kb W (σ ++ [r']) E (kb.set i .dead ++ [o']) W' := by
  have hi : i < kb.length := by
    rcases Nat.lt_or_ge i kb.length with h' | h'
    · exact h'
    · simp [List.getElem?_eq_none h'] at hk
  have hcase : ∀ (j : Nat) (r1 : Re) (x : KO), (σ ++ [r'])[j]? = some r1 → (kb.set i .dead ++ [o'])[j]? = some x →
      (j = σ.length ∧ r1 = r' ∧ x = o') ∨ (j < σ.length ∧ j = i ∧ x = .dead) ∨ (j < σ.length ∧ j ≠ i ∧ σ[j]? = some r1 ∧ kb[j]? = some x) := by
    intro j r1 x h1 h2
    rcases Nat.lt_trichotomy j σ.length with hj | hj | hj
    · rw [List.getElem?_append_left hj] at h1
      rw [List.getElem?_append_left (by rw [List.length_set, ← h.len]; exact hj)] at h2
      by_cases hji : j = i
      · subst hji
        rw [List.getElem?_set_self hi] at h2
        exact .inr (.inl ⟨hj, rfl, (Option.some.inj h2).symm⟩)
      · rw [List.getElem?_set_ne (Ne.symm hji)] at h2
        exact .inr (.inr ⟨hj, hji, h1, h2⟩)
    · subst hj
      rw [List.getElem?_append_right (Nat.le_refl _)] at h1
      rw [List.getElem?_append_right (by rw [List.length_set, ← h.len]; exact Nat.le_refl _)] at h2
      simp [h.len] at h1 h2
      exact .inl ⟨rfl, h1.symm, h2.symm⟩
    · rw [List.getElem?_eq_none (by simp; omega)] at h1; cases h1
  have hown : ∀ b, Owns (σ ++ [r']) (kb.set i .dead ++ [o']) b → Owns σ kb b ∨ W.heap.size ≤ b := by
    rintro b ⟨j, r1, x, h1, h2, h3⟩
    rcases hcase j r1 x h1 h2 with ⟨_, rfl, rfl⟩ | ⟨_, _, rfl⟩ | ⟨_, _, h4, h5⟩
    · rcases hr b h3 with h6 | h6
      · exact .inl ⟨i, r, o, hs, hk, h6⟩
      · exact .inr h6
    · exact h3.elim
    · exact .inl ⟨j, r1, x, h4, h5, h3⟩
  refine ⟨⟨by simp [h.len], fun j r1 x h1 h2 => ?_, fun a c r1 r2 o1 o2 b hac h1 h2 h3 h4 h5 h6 => ?_, fun b x hb => ?_, fun b hb => ?_⟩, ⟨hos, htp, hout, hsz, fun b hb hn => hbl b hb (fun ho' => hn ⟨i, r, o, hs, hk, ho'⟩)⟩, ⟨[r'], rfl⟩, EH.le.refl E, hown, fun b x hb => .inl hb⟩
  · rcases hcase j r1 x h1 h2 with ⟨_, rfl, rfl⟩ | ⟨_, _, rfl⟩ | ⟨_, hji, h4, h5⟩
    · exact ho
    · trivial
    · exact (h.obj j r1 x h4 h5).mono (EH.le.refl E) (fun b hb => hbl b ((h.obj j r1 x h4 h5).lt hb) (fun hb' => h.disj i j r r1 o x b (Ne.symm hji) hs hk h4 h5 hb' hb))
  · rcases hcase a r1 o1 h1 h2 with ⟨ha, rfl, rfl⟩ | ⟨_, _, rfl⟩ | ⟨ha, hai, a4, a5⟩
    · rcases hcase c r2 o2 h3 h4 with ⟨hc, _, _⟩ | ⟨_, _, rfl⟩ | ⟨hc, hci, c4, c5⟩
      · omega
      · exact h6.elim
      · rcases hr b h5 with h7 | h7
        · exact h.disj i c r r2 o o2 b (Ne.symm hci) hs hk c4 c5 h7 h6
        · have := (h.obj c r2 o2 c4 c5).lt h6; omega
    · exact h5.elim
    · rcases hcase c r2 o2 h3 h4 with ⟨hc, rfl, rfl⟩ | ⟨_, _, rfl⟩ | ⟨hc, hci, c4, c5⟩
      · rcases hr b h6 with h7 | h7
        · exact h.disj i a r r1 o o1 b (Ne.symm hai) hs hk a4 a5 h7 h5
        · have := (h.obj a r1 o1 a4 a5).lt h5; omega
      · exact h6.elim
      · exact h.disj a c r1 r2 o1 o2 b hac a4 a5 c4 c5 h5 h6
  · have h1 := h.imm b x hb
    rw [hbl b (Array.getElem?_eq_some_iff.1 h1).1 (fun hb' => ?_)]
    · exact h1
    · have := h.sep b ⟨i, r, o, hs, hk, hb'⟩
      rw [this] at hb; cases hb
  · rcases hown b hb with h1 | h1
    · exact h.sep b h1
    · cases hE : E b with
      | none => rfl
      | some x =>
        have := (Array.getElem?_eq_some_iff.1 (h.imm b x hE)).1
        omega

/-- The elements that a source of an append has. -/
def srcV (kb : KB) : V → Option (Option Nat × Prop × List (List Value))
  | .sl j lo hi => match kb[j]? with
    | some (.row _ sz l) => some (some sz, hi ≤ l.length, (l.take hi).drop lo)
    | _ => none
  | .isl sz l => some (some sz, True, l)
  | .any (.slice none 0 0) => some (none, True, [])
  | _ => none
def szFits (s : Nat) : Option Nat → Bool
  | some sz => Nat.beq sz s
  | none => true

/-- append(d, x...): d from its array's beginning on. -/
def appendK (P : Program) (t u : TypeId) (d x : V) (kb : KB) (K : V → KB → Prop) : Prop :=
  match P.underlying t, P.underlying u, srcV kb x with
  | some (.slice elem), some (.slice _), some (sz, p, xs) =>
    match P.info? elem with
    | some i =>
      match i.zero, Nat.ble 1 i.size, Nat.ble 1 i.bytes, szFits i.size sz with
      | some z, true, true, true =>
        match Nat.beq z.cells.size i.size with
        | true =>
          match d with
          | .any (.slice none 0 0) => p ∧ xs.length * i.bytes ≤ 140737488355328 ∧ K (.sl kb.length 0 xs.length) (kb ++ [.row elem i.size xs])
          | .sl j 0 hi =>
            match kb[j]? with
            | some (.row ty sz' l) => match Nat.beq ty elem, Nat.beq sz' i.size with
              | true, true => p ∧ hi ≤ l.length ∧ (hi + xs.length) * i.bytes ≤ 140737488355328 ∧ K (.sl kb.length 0 (hi + xs.length)) (kb.set j .dead ++ [.row elem i.size (l.take hi ++ xs)])
              | _, _ => False
            | _ => False
          | _ => False
        | false => False
      | _, _, _, _ => False
    | none => False
  | _, _, _ => False

theorem srcV_ok {P : Program} {u e' : TypeId} (hu : P.underlying u = some (.slice e')) {kb : KB} {x : V} {sz : Option Nat} {p : Prop} {xs : List (List Value)} (h : srcV kb x = some (sz, p, xs)) (hp : p)
    {σ : Sg} {E : EH} {W : World} (hi : Inv σ E kb W) {y : Value} (hy : Den σ E x y) {s : Nat} (hs : 1 ≤ s) (hsz : szFits s sz = true) :
    wellE s xs ∧ Src P s u y xs.length xs.flatten W := by
  unfold srcV at h
  split at h
  · rename_i j lo hi'
    split at h
    · rename_i ty sz' l hl
      simp only [Option.some.injEq, Prod.mk.injEq] at h
      obtain ⟨rfl, rfl, rfl⟩ := h
      have hszs : sz' = s := Nat.eq_of_beq_eq_true hsz
      subst hszs
      simp only [Den] at hy
      obtain ⟨r, ad, hr, rfl, g1, g2, g3⟩ := hy
      have ho := hi.obj j r _ hr hl
      obtain ⟨k1, k2, k3, k4, k5⟩ := ho
      have hw0 := (k2.take hi').drop lo
      have hxl : ((l.take hi').drop lo).length = hi' - lo := by simp; omega
      by_cases hz : hi' - lo = 0
      · have hnil : (l.take hi').drop lo = [] := List.eq_nil_of_length_eq_zero (by omega)
        rw [hnil]
        refine ⟨fun e he => (by cases he), ?_⟩
        rw [show hi' - lo = 0 from hz]
        cases ad with
        | none => exact Src.ofNil W hu _
        | some ad => exact Src.ofSlice W hu ad 0 _ [] (by simp) (by simp) (by simp)
      · have hlc : lo < r.cap := by omega
        refine ⟨hw0, ?_⟩
        rw [g3 hlc, ← hxl]
        refine Src.ofSlice W hu _ _ _ _ (flatten_length hw0.len) (fun j' v hv => ?_) hw0.one
        rw [Addr.add_lit]
        rcases k5 with k5 | ⟨arr, k5, k6, k7⟩
        · omega
        · rw [cell_of_heap k5, k1]
          rw [flatten_drop (k2.take hi').len, flatten_take k2.len, ← k7, List.take_take, List.getElem?_drop] at hv
          have hlt : lo * sz' + j' < min (hi' * sz') (l.length * sz') := by
            have := (List.getElem?_eq_some_iff.1 hv).1
            simp only [List.length_take] at this
            omega
          rw [List.getElem?_take_of_lt hlt] at hv
          simpa using hv
    · cases h
  · rename_i sz' l
    simp only [Option.some.injEq, Prod.mk.injEq] at h
    obtain ⟨rfl, rfl, rfl⟩ := h
    have hszs : sz' = s := Nat.eq_of_beq_eq_true hsz
    subst hszs
    have hy' := hy
    simp only [Den, RepD] at hy
    obtain ⟨hall, ad, len, cap, rfl, hlen, hcap, hrep⟩ := hy
    rw [List.length_map, flatten_length hall.len] at hlen
    have hll : len = l.length := Nat.eq_of_mul_eq_mul_right hs hlen
    subst hll
    refine ⟨hall, ?_⟩
    rcases hrep with hrep | ⟨b, off, rfl, hrep⟩
    · have hnil : l.flatten = [] := by simpa using hrep
      have hl0 : l.length = 0 := by
        have := flatten_length hall.len
        rw [hnil, List.length_nil] at this
        rcases Nat.mul_eq_zero.1 this.symm with h1 | h1
        · exact h1
        · omega
      rw [hnil, hl0]
      cases ad with
      | none => exact Src.ofNil W hu _
      | some ad => exact Src.ofSlice W hu ad 0 _ [] (by simp) (by simp) (by simp)
    · refine Src.ofSlice W hu _ _ _ _ (flatten_length hall.len) (fun j v hv => ?_) hall.one
      rw [Addr.add_lit]
      exact ipe_cell hi.imm hrep hv
  · simp only [Option.some.injEq, Prod.mk.injEq] at h
    obtain ⟨rfl, rfl, rfl⟩ := h
    simp only [Den] at hy
    subst hy
    exact ⟨fun e he => (by cases he), Src.ofNil W hu 0⟩
  · cases h

/-- An append to a slice that is empty and has no room. -/
theorem run_append_new {P : Program} {t u elem e' : TypeId} {i : TypeInfo} {z : Value} (ht : P.underlying t = some (.slice elem)) (hu : P.underlying u = some (.slice e')) (hi : P.info? elem = some i) (hz : i.zero = some z)
    (h1 : 1 ≤ i.size) (h2 : 1 ≤ i.bytes) (hzs : z.cells.size = i.size) (W : World) {base : Option Addr} {sLen sCap : Nat} {olds : List Value}
    (hold : (Builtin.firstCells i.size sLen (.slice base sLen sCap)).run P W.drew = .ok olds.toArray W.drew) (hol : olds.length = sLen * i.size) {y : Value} {n : Nat} {news : List Value} (hs : Src P i.size u y n news W) (hg : sCap < sLen + n)
    (hb : (sLen + n) * i.bytes ≤ 140737488355328) (ty : TypeId) :
    ∃ cap arr, (Builtin.append_ #[t, u] ty #[.slice base sLen sCap, y]).run P W = .ok (.slice (some ⟨W.heap.size, 0, none⟩) (sLen + n) cap) (W.drew.alloc (.cells arr elem)) ∧ sLen + n ≤ cap ∧ cap ≤ maxLen ∧
      arr.size = cap * i.size ∧ arr.toList.take ((sLen + n) * i.size) = olds ++ news := by
  have hsm : sLen + n ≤ 140737488355328 := Nat.le_trans (Nat.le_mul_of_pos_right _ h2) hb
  have hge := grownCap_ge W (sLen + n) sCap elem
  have hle := grownCap_le_maxLen W (sLen + n) sCap elem (by simp only [maxLen]; omega)
  have hr := run_append_grow_src W t u ty elem i z ht hi hz base sLen sCap olds hold y n news hs hg (by omega) (growslice_fits hg hb)
  refine ⟨_, _, hr, hge, hle, ?_, ?_⟩
  · have : (olds ++ news).length = (sLen + n) * i.size := by rw [List.length_append, hol, hs.newsLen, Nat.add_mul]
    simp only [Array.size_append, List.size_toArray, this, size_zeroCells, hzs]
    rw [← Nat.add_mul]
    congr 1
    omega
  · have : (olds ++ news).length = (sLen + n) * i.size := by rw [List.length_append, hol, hs.newsLen, Nat.add_mul]
    rw [Array.toList_append, ← this]
    exact List.take_left

theorem run_append_room_src' {P : Program} {t u elem e' : TypeId} {i : TypeInfo} (ht : P.underlying t = some (.slice elem)) (hu : P.underlying u = some (.slice e')) (hi : P.info? elem = some i) (W : World) {b sLen sCap : Nat} {cur : Array Value}
    (hg : W.heap[b]? = some (.cells cur elem (0, 0))) (hc : cur.size = sCap * i.size) {y : Value} {n : Nat} {news : List Value} (hs : Src P i.size u y n news W) (hroom : sLen + n ≤ sCap) (ty : TypeId) :
    (Builtin.append_ #[t, u] ty #[.slice (some ⟨b, 0, none⟩) sLen sCap, y]).run P W = .ok (.slice (some ⟨b, 0, none⟩) (sLen + n) sCap) (W.setRow b (splice cur.toList (sLen * i.size) news).toArray) := by
  have hfit : sLen * i.size + news.length ≤ cur.size := by
    rw [hs.newsLen, hc, ← Nat.add_mul]; exact Nat.mul_le_mul_right _ hroom
  have hst := run_storeCells_at P b (sLen * i.size) elem news 0 cur W hg (by simpa using hfit) hs.one
  simp only [Nat.add_zero] at hst
  simp [Builtin.append_, run_underlying ht, run_underlying hu, Go.sizeOf, typeInfo, hi, hs.len, hroom, hs.cells, Addr.add_lit, hst, splice]

theorem appendK_ok {P : Program} {t u : TypeId} {d x : V} {kb : KB} {K : V → KB → Prop} (h : appendK P t u d x kb K) {σ : Sg} {E : EH} {W : World} (hi : Inv σ E kb W) {a y : Value} (hd : Den σ E d a) (hy : Den σ E x y) (ty : TypeId) :
    ∃ v z σ' kb' W', (Builtin.append_ #[t, u] ty #[a, y]).run P W = .ok z W' ∧ Step σ E kb W σ' E kb' W' ∧ Den σ' E v z ∧ K v kb' := by
  unfold appendK at h
  split at h <;> try exact h.elim
  rename_i elem e' sz p xs ht hu hsrc
  split at h <;> try exact h.elim
  rename_i i hinf
  split at h <;> try exact h.elim
  rename_i z hz hb1 hb2 hfit
  split at h <;> try exact h.elim
  rename_i hbz
  have h1 := Nat.le_of_ble_eq_true hb1
  have h2 := Nat.le_of_ble_eq_true hb2
  have hzs := Nat.eq_of_beq_eq_true hbz
  have hnew : ∀ {cap : Nat} {arr : Array Value} {l : List (List Value)}, wellE i.size l → l.length ≤ cap → cap ≤ maxLen → arr.size = cap * i.size → arr.toList.take (l.length * i.size) = l.flatten →
      HoldsO (σ ++ [⟨W.heap.size, cap, i.size⟩]) E (W.drew.alloc (.cells arr elem)) ⟨W.heap.size, cap, i.size⟩ (.row elem i.size l) := by
    intro cap arr l q1 q2 q3 q4 q5
    refine ⟨rfl, q1, q2, q3, .inr ⟨arr, ?_, q4, q5⟩⟩
    show (W.heap.push _)[W.heap.size]? = _
    simp
  split at h <;> try exact h.elim
  · obtain ⟨hp, hb, hK⟩ := h
    simp only [Den] at hd
    subst hd
    obtain ⟨hw, hs⟩ := srcV_ok hu hsrc hp hi hy h1 hfit
    by_cases hx : xs.length = 0
    · have hnil : xs = [] := List.eq_nil_of_length_eq_zero hx
      subst hnil
      have hrun : (Builtin.append_ #[t, u] ty #[.slice none 0 0, y]).run P W = .ok (.slice none 0 0) W := by
        have hlen := hs.len
        have hcl := hs.cells
        simp at hlen hcl
        simp [Builtin.append_, run_underlying ht, run_underlying hu, Go.sizeOf, typeInfo, hinf, hlen, hcl]
      have hst : Step σ E kb W (σ ++ [⟨0, 0, i.size⟩]) E (kb ++ [.row elem i.size []]) W :=
        hi.grow _ _ rfl rfl rfl (Nat.le_refl _) (fun _ _ => rfl) (fun b hb => absurd rfl hb.1) ⟨rfl, fun e he => (by cases he), Nat.le_refl _, Nat.zero_le _, .inl rfl⟩
      exact ⟨_, _, _, _, _, hrun, hst, by simp only [Den]; exact ⟨⟨0, 0, i.size⟩, none, by rw [← hi.len]; simp, by simp, by simp, by simp, by simp⟩, hK⟩
    · obtain ⟨cap, arr, hrun, c1, c2, c3, c4⟩ := run_append_new (base := none) (sLen := 0) (sCap := 0) (olds := []) ht hu hinf hz h1 h2 hzs W (run_firstCells_none W.drew i.size 0 0 0) (by simp) hs (by omega) (by simpa using hb) ty
      simp only [Nat.zero_add, List.nil_append] at hrun c1 c4
      have hst := (Inv.drew hi).trans ((Inv.drew hi).inv.alloc (.cells arr elem) ⟨W.heap.size, cap, i.size⟩ (.row elem i.size xs) (fun b hb => hb.2) (hnew hw c1 c2 c3 c4))
      exact ⟨_, _, _, _, _, hrun, hst, by simp only [Den]; exact ⟨⟨W.heap.size, cap, i.size⟩, _, by rw [← hi.len]; simp, rfl, by simp, c1, by simp⟩, hK⟩
  · rename_i j hi'
    split at h <;> try exact h.elim
    rename_i ty' sz' l hl
    split at h <;> try exact h.elim
    rename_i hbt hbs
    have hty := Nat.eq_of_beq_eq_true hbt
    have hsz := Nat.eq_of_beq_eq_true hbs
    subst hty; subst hsz
    obtain ⟨hp, hle, hb, hK⟩ := h
    obtain ⟨hw, hs⟩ := srcV_ok hu hsrc hp hi hy h1 hfit
    simp only [Den] at hd
    obtain ⟨r, ad, hr, rfl, _, g2, g3⟩ := hd
    simp only [Nat.sub_zero, Nat.zero_mul] at *
    obtain ⟨k1, k2, k3, k4, k5⟩ := hi.obj j r _ hr hl
    have hwt := (k2.take hi').append hw
    have hlen : (l.take hi' ++ xs).length = hi' + xs.length := by simp; omega
    by_cases hroom : hi' + xs.length ≤ r.cap
    · by_cases hc0 : r.cap = 0
      · have hx0 : xs.length = 0 := by omega
        have hnil : xs = [] := List.eq_nil_of_length_eq_zero hx0
        have hh0 : hi' = 0 := by omega
        subst hnil; subst hh0
        have hrun : (Builtin.append_ #[t, u] ty #[.slice ad 0 r.cap, y]).run P W = .ok (.slice ad 0 r.cap) W := by
          have hlen := hs.len
          have hcl := hs.cells
          simp at hlen hcl
          cases ad <;> simp [Builtin.append_, run_underlying ht, run_underlying hu, Go.sizeOf, typeInfo, hinf, hlen, hcl, storeCells]
        have hst := hi.renew (W' := W) (r' := ⟨0, 0, i.size⟩) (o' := .row ty' i.size (l.take 0 ++ [])) hr hl rfl rfl rfl (Nat.le_refl _) (fun _ _ _ => rfl) (fun b hb => absurd rfl hb.1)
          ⟨rfl, hwt, by simp, Nat.zero_le _, .inl rfl⟩
        exact ⟨_, _, _, _, _, hrun, hst, by simp only [Den]; exact ⟨⟨0, 0, i.size⟩, ad, by rw [List.getElem?_append_right (by rw [hi.len]; exact Nat.le_refl _)]; simp [hi.len], by simp [hc0], by simp, by simp, by simp⟩, hK⟩
      · rcases k5 with k5 | ⟨arr, k5, k6, k7⟩
        · exact absurd k5 hc0
        rw [g3 (by omega)]
        have hrun := run_append_room_src' ht hu hinf W k5 k6 hs hroom ty
        have hfl : arr.toList.take (hi' * i.size) = (l.take hi').flatten := by
          rw [flatten_take k2.len, ← k7, List.take_take, Nat.min_eq_left (Nat.mul_le_mul_right _ hle)]
        have hsp : hi' * i.size + xs.flatten.length ≤ arr.toList.length := by
          have hal : arr.toList.length = r.cap * i.size := by simpa using k6
          rw [flatten_length hw.len, hal, ← Nat.add_mul]; exact Nat.mul_le_mul_right _ hroom
        have hst := hi.renew (W' := W.setRow r.blk (splice arr.toList (hi' * i.size) xs.flatten).toArray) (r' := ⟨r.blk, r.cap, i.size⟩) (o' := .row ty' i.size (l.take hi' ++ xs)) hr hl rfl rfl rfl (by simp [World.setRow])
          (fun b _ hb => setRow_other W r.blk b _ (fun e => hb ⟨hc0, e⟩)) (fun b hb => .inl ⟨hc0, hb.2⟩)
          ⟨rfl, hwt, by rw [hlen]; exact hroom, k4, .inr ⟨_, setRow_heap W r.blk arr _ ty' (0, 0) k5, by simp only [List.size_toArray]; rw [splice_len hsp]; simpa using k6, by
            rw [hlen, List.flatten_append, ← hfl]
            simp only [splice]
            have e1 : (hi' + xs.length) * i.size = (arr.toList.take (hi' * i.size) ++ xs.flatten).length := by
              rw [List.length_append, hfl, flatten_length (k2.take hi').len, flatten_length hw.len, Nat.add_mul]
              congr 2
              simp; omega
            rw [e1, List.take_left]⟩⟩
        exact ⟨_, _, _, _, _, hrun, hst, by simp only [Den]; exact ⟨⟨r.blk, r.cap, i.size⟩, _, by rw [List.getElem?_append_right (by rw [hi.len]; exact Nat.le_refl _)]; simp [hi.len], rfl, by simp, hroom, by simp⟩, hK⟩
    · have hold : ∃ olds : List Value, (Builtin.firstCells i.size hi' (.slice ad hi' r.cap)).run P W.drew = .ok olds.toArray W.drew ∧ olds = (l.take hi').flatten := by
        refine ⟨_, ?_, rfl⟩
        have hol : (l.take hi').flatten.length = hi' * i.size := by
          rw [flatten_length (k2.take hi').len]; congr 1; simp; omega
        by_cases hh0 : hi' = 0
        · subst hh0
          cases ad with
          | none => simpa using run_firstCells_none (P := P) W.drew i.size 0 0 r.cap
          | some ad => simpa using run_firstCells_some (P := P) W.drew i.size 0 ad 0 r.cap [] (by simp) (by simp)
        · have hc0 : r.cap ≠ 0 := by omega
          rcases k5 with k5 | ⟨arr, k5, k6, k7⟩
          · exact absurd k5 hc0
          rw [g3 (by omega)]
          refine run_firstCells_some (P := P) W.drew i.size hi' _ hi' r.cap _ hol (fun j' v hv => ?_)
          rw [Addr.add_lit, Nat.zero_add, World.cell?_drew, cell_of_heap k5]
          rw [flatten_take k2.len, ← k7, List.take_take, Nat.min_eq_left (Nat.mul_le_mul_right _ hle)] at hv
          have hlt : j' < hi' * i.size := by
            have := (List.getElem?_eq_some_iff.1 hv).1
            simp only [List.length_take] at this
            omega
          rw [List.getElem?_take_of_lt hlt] at hv
          simpa using hv
      obtain ⟨olds, hold, rfl⟩ := hold
      have hol : (l.take hi').flatten.length = hi' * i.size := by
        rw [flatten_length (k2.take hi').len]; congr 1; simp; omega
      obtain ⟨cap, arr, hrun, c1, c2, c3, c4⟩ := run_append_new ht hu hinf hz h1 h2 hzs W hold hol hs (by omega) hb ty
      have hst := (Inv.drew hi).trans ((Inv.drew hi).inv.renew (W' := W.drew.alloc (.cells arr ty')) (r' := ⟨W.heap.size, cap, i.size⟩) (o' := .row ty' i.size (l.take hi' ++ xs)) hr hl rfl rfl rfl (by simp)
        (fun b hb _ => by show (W.heap.push _)[b]? = _; rw [Array.getElem?_push, if_neg (by have : b < W.heap.size := hb; omega)]; rfl) (fun b hb => .inr (by rw [hb.2]; exact Nat.le_refl _)) (hnew hwt (by rw [hlen]; exact c1) c2 c3 (by rw [hlen, List.flatten_append]; exact c4)))
      exact ⟨_, _, _, _, _, hrun, hst, by simp only [Den]; exact ⟨⟨W.heap.size, cap, i.size⟩, _, by rw [List.getElem?_append_right (by rw [hi.len]; exact Nat.le_refl _)]; simp [hi.len], rfl, by simp, c1, by simp⟩, hK⟩
end Vc
