/- copy, new slices, clear, the bytes of a string, slices as arrays. -/
import Derived.Test.YtnglmhckcfnfaaaVdQ
set_option linter.unusedSimpArgs false
set_option linter.unusedVariables false
namespace Vc
open Go

theorem flat_splice {sz : Nat} {l xs : List (List D)} (hl : wl sz l) (hx : wl sz xs) {lo : Nat} (h : lo + xs.length ≤ l.length) : (splice l lo xs).flatten = splice l.flatten (lo * sz) xs.flatten := by
  unfold splice
  rw [List.flatten_append, List.flatten_append, flat_take hl, flat_drop hl, flat_len hx, Nat.add_mul]
theorem wl_splice {sz : Nat} {l xs : List (List D)} (hl : wl sz l) (hx : wl sz xs) (lo : Nat) : wl sz (splice l lo xs) := ((hl.take lo).append hx).append (hl.drop _)

/-! ### copy -/
def copyK (P : Program) (t : TypeId) (d x : V) (kb : KB) (K : V → KB → Prop) : Prop :=
  match P.underlying t, srcV kb x with
  | some (.slice elem), some (sz, p, xs) => match tSize P elem with
    | some s => match szFits s sz with
      | true => match d with
        | .sl i lo hi => match kb[i]? with
          | some (.row ty sz' l) => match Nat.beq sz' s with
            | true => p ∧ hi ≤ l.length ∧ K (.int .i64 ((min xs.length (hi - lo) : Nat) : Int)) (kb.set i (.row ty sz' (splice l lo (xs.take (hi - lo)))))
            | false => False
          | _ => False
        | .sa i base o s' n c => match kb[i]?, Nat.beq s 1 with
          | some (.cells l), true => match pieceAt l base with
            | some (.arr m cs) => match spliceW l base [.arr m (splice cs o (xs.take n).flatten)] with
              | some l' => p ∧ o + n ≤ m ∧ K (.int .i64 ((min xs.length n : Nat) : Int)) (kb.set i (.cells l'))
              | none => False
            | _ => False
          | _, _ => False
        | .se i ix o s' n c => match kb[i]?, Nat.beq s 1 with
          | some (.row ty sz' l), true => p ∧ ∃ e, l[ix]? = some e ∧ o + n ≤ sz' ∧ K (.int .i64 ((min xs.length n : Nat) : Int)) (kb.set i (.row ty sz' (l.set ix (splice e o (xs.take n).flatten))))
          | _, _ => False
        | _ => False
      | false => False
    | none => False
  | _, _ => False

theorem run_storeCells {P : Program} {xs : List Value} (h1 : ∀ y ∈ xs, y.oneCell' = true) {W : World} {b o : Nat} {arr : Array Value} {ty : TypeId} (hb : W.heap[b]? = some (.cells arr ty (0, 0))) (hl : o + xs.length ≤ arr.size) :
    (storeCells ⟨b, o, none⟩ xs).run P W = .ok () (W.setRow b (splice arr.toList o xs).toArray) := by
  have hs := run_storeCells_at P b o ty xs 0 arr W hb (by simpa using hl) h1
  simp only [Nat.add_zero] at hs
  simpa [splice] using hs

theorem storeCells_nil {P : Program} {W : World} (a : Addr) : (storeCells a []).run P W = .ok () W := rfl

/-- Cells of an array within a block of ours turn. -/
theorem piece_splice {σ : Sg} {E : EH} {kb : KB} {W : World} (hi : Inv σ E kb W) {i : Nat} {r : Re} {l l' : List V} (hr : σ[i]? = some r) (hl : kb[i]? = some (.cells l)) {base m o : Nat} {cs ds : List D} (hp : pieceAt l base = some (.arr m cs))
    {xs : List Value} (hD : DenD E ds xs) (hle : o + ds.length ≤ m) (hl' : spliceW l base [.arr m (splice cs o ds)] = some l') :
    ∃ arr ty, W.heap[r.blk]? = some (.cells arr ty (0, 0)) ∧ base + o + xs.length ≤ arr.size ∧ Step σ E kb W σ E (kb.set i (.cells l')) (W.setRow r.blk (splice arr.toList (base + o) xs).toArray) := by
  obtain ⟨arr, ty, g1, g2⟩ := hi.obj i r _ hr hl
  obtain ⟨ys, p1, p2, p3, p4⟩ := pieceAt_arr hp g2
  have hdl := hD.len
  have hyl := p1.len
  have hsl : (splice cs o ds).length = m := by rw [splice_len (by omega), p2]
  obtain ⟨g3, g4⟩ := spliceW_ok hl' g2 (.cons (.inr ⟨m, _, rfl, hsl, p1.splice hD o⟩) .nil)
  have he : splice arr.toList base (splice ys o xs ++ []) = splice arr.toList (base + o) xs := by
    rw [List.append_nil, ← p4]
    exact splice_sub p3 (by omega)
  rw [he] at g3
  have hst : Step σ E kb W σ E (kb.set i (.cells l')) (W.setRow r.blk (splice arr.toList (base + o) xs).toArray) :=
    setRow_step hi hr hl _ (fun b => Iff.rfl) (fun b hb => hb) ⟨_, ty, setRow_heap W r.blk arr _ ty (0, 0) g1, by simpa using g3⟩
  simp only [Array.length_toList] at p3
  exact ⟨arr, ty, g1, by omega, hst⟩

theorem copyK_ok {P : Program} {t : TypeId} {d x : V} {kb : KB} {K : V → KB → Prop} (h : copyK P t d x kb K) {σ : Sg} {E : EH} {W : World} (hi : Inv σ E kb W) {a y : Value} (hd : Den σ E d a) (hy : Den σ E x y) (u ty : TypeId) :
    ∃ v z kb' W', (Builtin.copy_ #[t, u] ty #[a, y]).run P W = .ok z W' ∧ Step σ E kb W σ E kb' W' ∧ Den σ E v z ∧ K v kb' := by
  unfold copyK at h
  split at h <;> try exact h.elim
  rename_i elem sz p xs ht hsrc
  split at h <;> try exact h.elim
  rename_i s hs
  split at h <;> try exact h.elim
  rename_i hfit
  split at h <;> try exact h.elim
  · rename_i i lo hi'
    split at h <;> try exact h.elim
    rename_i ty' sz' l hl
    split at h <;> try exact h.elim
    rename_i hb
    have hsz := Nat.eq_of_beq_eq_true hb
    subst hsz
    obtain ⟨hp, hle, hK⟩ := h
    have hE := srcV_ok hsrc hp hi hy hfit
    simp only [Den] at hd
    obtain ⟨r, ad, hr, rfl, g1, g2, g3⟩ := hd
    obtain ⟨ys, c1, _, c3⟩ := hE.first (P := P) (min xs.length (hi' - lo)) (Nat.min_le_left _ _)
    have e0 : xs.take (min xs.length (hi' - lo)) = xs.take (hi' - lo) := by
      rw [Nat.min_comm]
      exact List.take_eq_take_min.symm
    rw [e0] at c3
    obtain ⟨k1, k2, k3, k4, k5⟩ := hi.obj i r _ hr hl
    have hxw : wl sz' (xs.take (hi' - lo)) := hE.1.take _
    have hxl : (xs.take (hi' - lo)).length ≤ hi' - lo := by simp; omega
    have hlen := hE.lenOf (P := P) W
    have hn : Nat.min xs.length (hi' - lo) = min xs.length (hi' - lo) := rfl
    by_cases hz : min xs.length (hi' - lo) = 0
    · have hnil : xs.take (hi' - lo) = [] := by
        apply List.eq_nil_of_length_eq_zero
        rw [List.length_take]; omega
      rw [hnil] at c3 hK
      simp only [List.flatten_nil, DenD] at c3
      subst c3
      have hs0 : splice l lo ([] : List (List D)) = l := by simp [splice]
      rw [hs0] at hK
      have hset : kb.set i (.row ty' sz' l) = kb := by
        apply List.ext_getElem?
        intro j
        by_cases hij : i = j
        · subst hij
          rw [List.getElem?_set_self (List.getElem?_eq_some_iff.1 hl).1, hl]
        · rw [List.getElem?_set_ne hij]
      rw [hset] at hK
      refine ⟨_, goInt ((min xs.length (hi' - lo) : Nat) : Int), kb, W, ?_, Step.refl hi, ?_, hK⟩
      · unfold Builtin.copy_
        cases ad <;> simp [run_underlying ht, hlen, run_tSize hs, hn, c1, storeCells]
      · simp [Den, goInt]
    · have hlc : lo < r.cap := by omega
      rw [g3 hlc]
      have hfl : (splice l lo (xs.take (hi' - lo))).flatten = splice l.flatten (lo * sz') (xs.take (hi' - lo)).flatten := flat_splice k2 hxw (by omega)
      have hb1 : lo * sz' + (xs.take (hi' - lo)).flatten.length ≤ l.length * sz' := by
        rw [flat_len hxw, ← Nat.add_mul]
        exact Nat.mul_le_mul_right _ (by omega)
      obtain ⟨arr, q1, q2, q3⟩ := row_splice hi hr hl (o := lo * sz') c3 (l' := splice l lo (xs.take (hi' - lo))) (splice_len (by omega)) (wl_splice k2 hxw lo) hfl hb1 (by omega)
      refine ⟨_, goInt ((min xs.length (hi' - lo) : Nat) : Int), _, _, ?_, q3, ?_, hK⟩
      · unfold Builtin.copy_
        rw [k1]
        simp [run_underlying ht, hlen, run_tSize hs, hn, c1, run_storeCells c3.one q1 q2]
      · simp [Den, goInt]
  · rename_i i base o s' n c
    split at h <;> try exact h.elim
    rename_i l hl hb
    have hs1 := Nat.eq_of_beq_eq_true hb
    subst hs1
    split at h <;> try exact h.elim
    rename_i m cs hpc
    split at h <;> try exact h.elim
    rename_i l' hl'
    obtain ⟨hp, hle, hK⟩ := h
    have hE := srcV_ok hsrc hp hi hy hfit
    simp only [Den] at hd
    obtain ⟨r, ad, hr, rfl, g1, g3⟩ := hd
    obtain ⟨ys, c1, _, c3⟩ := hE.first (P := P) (min xs.length n) (Nat.min_le_left _ _)
    have e0 : xs.take (min xs.length n) = xs.take n := by
      rw [Nat.min_comm]
      exact List.take_eq_take_min.symm
    rw [e0] at c3
    have hfl := flat_len (hE.1.take n)
    have hxl : (xs.take n).length = min n xs.length := by simp
    have hlen := hE.lenOf (P := P) W
    have hn : Nat.min xs.length n = min xs.length n := rfl
    obtain ⟨arr, ty2, q1, q2, q3⟩ := piece_splice hi hr hl hpc c3 (by omega) hl'
    refine ⟨_, goInt ((min xs.length n : Nat) : Int), _, _, ?_, q3, ?_, hK⟩
    · by_cases hc : 0 < c
      · rw [g3 hc]
        unfold Builtin.copy_
        simp [run_underlying ht, hlen, run_tSize hs, hn, c1, run_storeCells c3.one q1 q2]
      · have hys : ys = [] := List.eq_nil_of_length_eq_zero (by rw [c3.len, hfl, hxl]; omega)
        subst hys
        have hset : W.setRow r.blk (splice arr.toList (base + o) ([] : List Value)).toArray = W := by
          have : splice arr.toList (base + o) ([] : List Value) = arr.toList := by simp [splice]
          rw [this]
          unfold World.setRow
          have hlt := (Array.getElem?_eq_some_iff.1 q1).1
          simp only [Array.toArray_toList]
          congr 1
          apply Array.ext (by simp)
          intro j h1 h2
          simp only [Array.getElem_modify]
          split
          · rename_i e; subst e
            have := (Array.getElem?_eq_some_iff.1 q1).2
            rw [this]
          · rfl
        rw [hset]
        unfold Builtin.copy_
        cases ad <;> simp [run_underlying ht, hlen, run_tSize hs, hn, c1, storeCells]
    · simp [Den, goInt]
  · rename_i i ix o s' n c
    split at h <;> try exact h.elim
    rename_i ty' sz' l hl hb
    have hs1 := Nat.eq_of_beq_eq_true hb
    subst hs1
    obtain ⟨hp, e, he, hle, hK⟩ := h
    have hE := srcV_ok hsrc hp hi hy hfit
    simp only [Den] at hd
    obtain ⟨r, ad, hr, rfl, g1, g3⟩ := hd
    obtain ⟨ys, c1, _, c3⟩ := hE.first (P := P) (min xs.length n) (Nat.min_le_left _ _)
    have e0 : xs.take (min xs.length n) = xs.take n := by
      rw [Nat.min_comm]
      exact List.take_eq_take_min.symm
    rw [e0] at c3
    have hfl := flat_len (hE.1.take n)
    have hxl : (xs.take n).length = min n xs.length := by simp
    have hlen := hE.lenOf (P := P) W
    have hn : Nat.min xs.length n = min xs.length n := rfl
    obtain ⟨k1, k2, k3, k4, k5⟩ := hi.obj i r _ hr hl
    have hix : ix < l.length := (List.getElem?_eq_some_iff.1 he).1
    have hm : (ix + 1) * sz' ≤ l.length * sz' := Nat.mul_le_mul_right _ hix
    rw [Nat.succ_mul] at hm
    have hes := k2 e (List.mem_of_getElem? he)
    obtain ⟨arr, q1, q2, q3⟩ := row_splice hi hr hl (o := ix * sz' + o) c3 (l' := l.set ix (splice e o (xs.take n).flatten)) (by simp) (k2.set ix (by rw [splice_len (by omega), hes])) (flat_set_part k2 he (by omega)) (by omega) (by omega)
    refine ⟨_, goInt ((min xs.length n : Nat) : Int), _, _, ?_, q3, ?_, hK⟩
    · by_cases hc : 0 < c
      · rw [g3 hc, k1]
        unfold Builtin.copy_
        simp [run_underlying ht, hlen, run_tSize hs, hn, c1, run_storeCells c3.one q1 q2]
      · have hys : ys = [] := List.eq_nil_of_length_eq_zero (by rw [c3.len, hfl, hxl]; omega)
        subst hys
        have hset : W.setRow r.blk (splice arr.toList (ix * sz' + o) ([] : List Value)).toArray = W := by
          have : splice arr.toList (ix * sz' + o) ([] : List Value) = arr.toList := by simp [splice]
          rw [this]
          unfold World.setRow
          simp only [Array.toArray_toList]
          congr 1
          apply Array.ext (by simp)
          intro j h1 h2
          simp only [Array.getElem_modify]
          split
          · rename_i e; subst e
            have := (Array.getElem?_eq_some_iff.1 q1).2
            rw [this]
          · rfl
        rw [hset]
        unfold Builtin.copy_
        cases ad <;> simp [run_underlying ht, hlen, run_tSize hs, hn, c1, storeCells]
    · simp [Den, goInt]

/-! ### new slices -/
def zeroD : List CK → List Value → Option (List D)
  | [], [] => some []
  | .arr m z :: ks, cs => match repB z m cs, z.oneCell' with
    | some r, true => match zeroD ks r with | some us => some (appD (List.replicate m (.val z)) us) | none => none
    | _, _ => none
  | .sl s :: ks, c :: cs => match c with
    | .slice none 0 0 => match zeroD ks cs with | some us => some (.sl s [] :: us) | none => none
    | _ => none
  | _ :: ks, c :: cs => match c.oneCell' with
    | true => match zeroD ks cs with | some us => some (.val c :: us) | none => none
    | false => none
  | _, _ => none
theorem zeroD_ok (E : EH) : ∀ {ks : List CK} {cs : List Value} {us : List D}, zeroD ks cs = some us → DenD E us cs
  | [], [], us, h => by simp [zeroD] at h; subst h; exact .nil
  | [], _ :: _, us, h => by simp [zeroD] at h
  | c :: ks, cs, us, h => by
    have single : ∀ {x : Value} {cs' : List Value}, cs = x :: cs' → (match x.oneCell' with | true => (match zeroD ks cs' with | some us => some (.val x :: us) | none => none) | false => none) = some us → DenD E us cs := by
      rintro x cs' rfl h
      split at h <;> try (cases h; done)
      rename_i h1
      split at h <;> try (cases h; done)
      rename_i us' hus
      cases h
      exact .cons (show RepD E (.val x) x from ⟨rfl, h1⟩) (zeroD_ok E hus)
    cases c with
    | arr m z =>
      simp only [zeroD] at h
      split at h <;> try (cases h; done)
      rename_i r hr h1
      split at h <;> try (cases h; done)
      rename_i us' hus
      cases h
      rw [repB_ok hr, appD_eq]
      exact (DenD.replicate (show RepD E (.val z) z from ⟨rfl, h1⟩) m).append (zeroD_ok E hus)
    | int k => cases cs with | nil => simp [zeroD] at h | cons v vs' => exact single rfl (by simpa only [zeroD] using h)
    | bool => cases cs with | nil => simp [zeroD] at h | cons v vs' => exact single rfl (by simpa only [zeroD] using h)
    | other => cases cs with | nil => simp [zeroD] at h | cons v vs' => exact single rfl (by simpa only [zeroD] using h)
    | sl s =>
      cases cs with
      | nil => simp [zeroD] at h
      | cons v vs' =>
        simp only [zeroD] at h
        split at h <;> try (cases h; done)
        split at h <;> try (cases h; done)
        rename_i us' hus
        cases h
        exact .cons (by simp only [RepD]; exact ⟨none, 0, rfl, Nat.le_refl _, .inl rfl⟩) (zeroD_ok E hus)

/-- A zero element, as data. -/
def zeroE (P : Program) (e : TypeId) : Option (List D) :=
  match (P.info? e).bind (·.zero), kindsOf P 20 e with
  | some z, some ks => zeroD ks z.cells.toList
  | _, _ => none

theorem cyc_flat (z : Array Value) (hz : 0 < z.size) : ∀ n, ((Array.range (n * z.size)).map (z[· % z.size]!)).toList = (List.replicate n z.toList).flatten
  | 0 => by simp
  | n + 1 => by
    rw [List.replicate_succ', List.flatten_append, ← cyc_flat z hz n]
    apply List.ext_getElem?
    intro j
    simp only [Array.toList_map, Array.toList_range, List.getElem?_append, List.getElem?_map, List.length_map, List.length_range, List.flatten_cons, List.flatten_nil, List.append_nil]
    rcases Nat.lt_or_ge j (n * z.size) with h1 | h1
    · rw [if_pos h1, List.getElem?_range (by rw [Nat.succ_mul]; omega), List.getElem?_range h1]
    · rw [if_neg (by omega)]
      rcases Nat.lt_or_ge j ((n + 1) * z.size) with h2 | h2
      · rw [List.getElem?_range h2]
        rw [Nat.succ_mul] at h2
        have e : j % z.size = j - n * z.size := by
          have : j = (j - n * z.size) + n * z.size := by omega
          rw [this, Nat.add_mul_mod_self_right, Nat.mod_eq_of_lt (by omega)]
          omega
        simp only [Option.map_some]
        rw [e, Array.getElem?_toList, getElem!_pos z _ (by omega), Array.getElem?_eq_getElem (by omega)]
      · rw [List.getElem?_eq_none (by simpa using h2)]
        rw [Nat.succ_mul] at h2
        rw [List.getElem?_eq_none (by simp; omega)]
        rfl

structure Room (n c : Int) (b : Nat) : Prop where
  le : n ≤ c
  bytes : c * b ≤ 140737488355328
  cap : c ≤ 140737488355328
def makeSliceK (P : Program) (t : TypeId) (len cap : V) (kb : KB) (K : V → KB → Prop) : Prop :=
  match P.underlying t, numOf len, numOf cap with
  | some (.slice elem), some n, some c => match P.info? elem, zeroE P elem with
    | some i, some ds => match Nat.beq ds.length i.size, Nat.ble 1 i.size with
      | true, true => NonN n ∧ Room n c i.bytes ∧ K (.sl kb.length 0 n.toNat) (kb ++ [.row elem i.size (List.replicate n.toNat ds)])
      | _, _ => False
    | _, _ => False
  | _, _, _ => False

theorem wl_rep {ds : List D} {s : Nat} (h : ds.length = s) (n : Nat) : wl s (List.replicate n ds) := fun e he => by rw [List.eq_of_mem_replicate he]; exact h
theorem rep_flat {α : Type} (l : List α) {n c : Nat} (h : n ≤ c) : ((List.replicate c l).flatten).take (n * l.length) = (List.replicate n l).flatten := by
  have e : c = n + (c - n) := by omega
  rw [e, ← List.replicate_append_replicate, List.flatten_append]
  have : (List.replicate n l).flatten.length = n * l.length := by simp
  rw [← this, List.take_left]
theorem DenD.reps {E : EH} {ds : List D} {xs : List Value} (h : DenD E ds xs) : ∀ n, DenD E (List.replicate n ds).flatten (List.replicate n xs).flatten
  | 0 => .nil
  | n + 1 => by rw [List.replicate_succ, List.replicate_succ, List.flatten_cons, List.flatten_cons]; exact h.append (h.reps n)

theorem makeSliceK_ok {P : Program} {t : TypeId} {len cap : V} {kb : KB} {K : V → KB → Prop} (h : makeSliceK P t len cap kb K) {σ : Sg} {E : EH} {W : World} (hi : Inv σ E kb W) {x y : Value} (hx : Den σ E len x) (hy : Den σ E cap y) :
    ∃ v z σ' kb' W', (Instr.makeSlice t x y).run P W = .ok z W' ∧ Step σ E kb W σ' E kb' W' ∧ Den σ' E v z ∧ K v kb' := by
  unfold makeSliceK at h
  split at h <;> try exact h.elim
  rename_i elem n c ht hn hc
  obtain ⟨k1, rfl⟩ := numOf_den hn hx
  obtain ⟨k2, rfl⟩ := numOf_den hc hy
  split at h <;> try exact h.elim
  rename_i i ds hinf hz
  split at h <;> try exact h.elim
  rename_i hb1 hb2
  have hdl := Nat.eq_of_beq_eq_true hb1
  have hs1 := Nat.le_of_ble_eq_true hb2
  obtain ⟨h0, ⟨h1, h2, h3⟩, hK⟩ := h
  unfold NonN at h0
  unfold zeroE at hz
  split at hz <;> try (cases hz; done)
  rename_i z ks hz0 hks
  obtain ⟨it, hit, hzz⟩ := Option.bind_eq_some_iff.1 hz0
  rw [hinf] at hit; cases hit
  have hD := zeroD_ok E hz
  have hzl : z.cells.size = i.size := by
    have := hD.len
    simp only [Array.length_toList] at this
    omega
  have w1 : IntKind.i64.wrap n = n := IntWalk.i64_in n (by omega)
  have w2 : IntKind.i64.wrap c = c := IntWalk.i64_in c (by omega)
  have hb0 : (0 : Int) ≤ i.bytes := by omega
  have hmul : (i.bytes : Int) * c = ((c.toNat * i.bytes : Nat) : Int) := by
    have : c = (c.toNat : Int) := by omega
    rw [this, Int.mul_comm]
    simp
  have hmn : c.toNat * i.bytes ≤ 140737488355328 := by
    have : ((c.toNat * i.bytes : Nat) : Int) ≤ 140737488355328 := by rw [← hmul, Int.mul_comm]; exact h2
    omega
  have hcells : (if c.toNat * i.size = 0 then (#[] : Array Value) else z.cells) = (if c.toNat * i.size = 0 then #[] else z.cells) := rfl
  have harr : ∀ (zz : Array Value), (zz = if c.toNat * i.size = 0 then #[] else z.cells) → ((Array.range (c.toNat * i.size)).map (zz[· % zz.size]!)) = ((Array.range (c.toNat * i.size)).map (z.cells[· % z.cells.size]!)) := by
    rintro zz rfl
    by_cases hz : c.toNat * i.size = 0
    · rw [hz]; apply Array.ext'; simp
    · rw [if_neg hz]
  have hrun : (Instr.makeSlice t (.int k1 n) (.int k2 c)).run P W = .ok (.slice (some ⟨W.heap.size, 0, none⟩) n.toNat c.toNat) (W.alloc (.cells ((Array.range (c.toNat * i.size)).map (z.cells[· % z.cells.size]!)) elem)) := by
    have t1 : ¬ (c < 0) := by omega
    have t2 : ¬ ((i.bytes : Int) * c > 2 ^ 48) := by rw [hmul]; omega
    have t3 : ¬ (n < 0) := by omega
    have t4 : ¬ (n > c) := by omega
    have hroom : (askRoom (c.toNat * i.bytes)).run P W = .ok () W := by
      unfold askRoom roomBytes
      rw [if_neg (by omega)]
      rfl
    have hai : ∀ (k : IntKind) (m : Int), (asInt (.int k m)).run P W = .ok m W := fun k m => rfl
    have hti : (typeInfo elem).run P W = .ok i W := by simp [typeInfo, hinf]
    have hso : (Go.sizeOf elem).run P W = .ok i.size W := by simp [Go.sizeOf, typeInfo, hinf]
    have hzv : (zeroValue elem).run P W = .ok z W := by simp [zeroValue, typeInfo, hinf, hzz]
    have hnr : ∀ arr, (newRow elem arr).run P W = .ok ⟨W.heap.size, 0, none⟩ (W.alloc (.cells arr elem)) := fun arr => by simp [newRow]
    unfold Instr.makeSlice
    rw [Sem.run_bind, run_underlying ht, Result.andThen_ok]
    simp only []
    rw [Sem.run_bind, hai, Result.andThen_ok, Sem.run_bind, hai, Result.andThen_ok, Sem.run_bind, hti, Result.andThen_ok]
    simp only [w1, w2]
    rw [if_neg (by simp only [t1, t2, t3, t4, decide_false, Bool.or_self, Bool.false_eq_true, not_false_eq_true]), Sem.run_bind, hroom, Result.andThen_ok, Sem.run_bind, hso, Result.andThen_ok]
    by_cases hz : c.toNat * i.size = 0
    · simp only [hz, if_true]
      rw [Sem.run_bind, Sem.run_pure, Result.andThen_ok, Sem.run_bind, hnr, Result.andThen_ok]
      have := harr #[] (by rw [if_pos hz])
      rw [hz] at this
      simp only [this]
      rfl
    · simp only [hz, if_false]
      have := harr z.cells (by rw [if_neg hz])
      rw [Sem.run_bind, hzv, Result.andThen_ok, Sem.run_bind, Sem.run_pure, Result.andThen_ok, Sem.run_bind, hnr, Result.andThen_ok]
      rfl
  have hcm : c.toNat ≤ maxLen := by unfold maxLen; omega
  have hfl := cyc_flat z.cells (by omega) c.toNat
  rw [hzl] at hfl
  refine ⟨_, _, _, _, _, hrun, alloc_row hi (l := List.replicate n.toNat ds) (cap := c.toNat) (wl_rep hdl _) (by simp; omega) hcm (by simp) ?_, ?_, hK⟩
  · rw [hzl, hfl, List.length_replicate]
    have hzl' : z.cells.toList.length = i.size := by simpa using hzl
    rw [← hzl', rep_flat _ (by omega)]
    exact hD.reps _
  · simp only [Den]
    exact ⟨⟨W.heap.size, c.toNat, i.size⟩, _, by rw [← hi.len]; simp, rfl, by simp, by show n.toNat ≤ c.toNat; omega, by simp⟩

/-! ### clear -/
def clearK (P : Program) (t : TypeId) (x : V) (kb : KB) (K : KB → Prop) : Prop :=
  match P.underlying t with
  | some (.slice elem) => match x with
    | .sl i lo hi => match kb[i]?, zeroE P elem with
      | some (.row ty sz l), some ds => match Nat.beq ds.length sz with
        | true => hi ≤ l.length ∧ K (kb.set i (.row ty sz (splice l lo (List.replicate (hi - lo) ds))))
        | false => False
      | _, _ => False
    | _ => False
  | some (.map _ _) => match x with
    | .mp i => match kb[i]? with
      | some (.mp kks kagg agg sz l) => K (kb.set i (.mp kks kagg agg sz []))
      | _ => False
    | _ => False
  | _ => False

theorem kb_same {kb : KB} {i : Nat} {o : KO} (h : kb[i]? = some o) : kb.set i o = kb := by
  apply List.ext_getElem?
  intro j
  by_cases hij : i = j
  · subst hij
    rw [List.getElem?_set_self (List.getElem?_eq_some_iff.1 h).1, h]
  · rw [List.getElem?_set_ne hij]

theorem clearK_ok {P : Program} {t : TypeId} {x : V} {kb : KB} {K : KB → Prop} (h : clearK P t x kb K) {σ : Sg} {E : EH} {W : World} (hi : Inv σ E kb W) {a : Value} (hd : Den σ E x a) (ty : TypeId) :
    ∃ kb' W', (Builtin.clear_ #[t] ty #[a]).run P W = .ok (.tuple #[]) W' ∧ Step σ E kb W σ E kb' W' ∧ K kb' := by
  unfold clearK at h
  split at h <;> try exact h.elim
  · rename_i elem ht
    split at h <;> try exact h.elim
    rename_i i lo hi'
    split at h <;> try exact h.elim
    rename_i ty' sz l ds hl hz
    split at h <;> try exact h.elim
    rename_i hb
    have hdl := Nat.eq_of_beq_eq_true hb
    obtain ⟨hle, hK⟩ := h
    unfold zeroE at hz
    split at hz <;> try (cases hz; done)
    rename_i z ks hz0 hks
    obtain ⟨it, hit, hzz⟩ := Option.bind_eq_some_iff.1 hz0
    have hzv : (zeroValue elem).run P W = .ok z W := by simp [zeroValue, typeInfo, hit, hzz]
    have hD := zeroD_ok E hz
    simp only [Den] at hd
    obtain ⟨r, ad, hr, rfl, g1, g2, g3⟩ := hd
    obtain ⟨k1, k2, k3, k4, k5⟩ := hi.obj i r _ hr hl
    by_cases h0 : hi' - lo = 0
    · have hs0 : splice l lo (List.replicate (hi' - lo) ds) = l := by rw [h0]; simp [splice]
      rw [hs0, kb_same hl] at hK
      refine ⟨kb, W, ?_, Step.refl hi, hK⟩
      unfold Builtin.clear_
      cases ad <;> simp [run_underlying ht, h0]
    · have hD2 := hD.reps (hi' - lo)
      have hzl : z.cells.size = sz := by
        have := hD.len
        simp only [Array.length_toList] at this
        omega
      by_cases hsz : sz = 0
      · have hds : ds = [] := List.eq_nil_of_length_eq_zero (by omega)
        have hzc : z.cells = #[] := Array.eq_empty_of_size_eq_zero (by omega)
        subst hds
        have hall : ∀ e ∈ l, e = [] := fun e he => List.eq_nil_of_length_eq_zero (by rw [k2 e he]; omega)
        have hs0 : splice l lo (List.replicate (hi' - lo) []) = l := by
          apply List.ext_getElem?
          intro j
          rw [get_splice (by omega)]
          split
          · rfl
          · split
            · rename_i c1 c2
              simp only [List.length_replicate] at c2
              have hj : j < l.length := by omega
              rw [List.getElem?_eq_getElem hj, hall _ (List.getElem_mem hj)]
              rw [List.getElem?_replicate, if_pos (by omega)]
            · rfl
        rw [hs0, kb_same hl] at hK
        refine ⟨kb, W, ?_, Step.refl hi, hK⟩
        unfold Builtin.clear_
        obtain ⟨n, hn⟩ : ∃ n, hi' - lo = n + 1 := ⟨hi' - lo - 1, by omega⟩
        rw [hn]
        cases ad <;> simp [run_underlying ht, hzv, hzc, Builtin.zeroCells, storeCells]
      have hrw : wl sz (List.replicate (hi' - lo) ds) := wl_rep hdl _
      have hfl : (splice l lo (List.replicate (hi' - lo) ds)).flatten = splice l.flatten (lo * sz) (List.replicate (hi' - lo) ds).flatten := flat_splice k2 hrw (by simp; omega)
      obtain ⟨arr, q1, q2, q3⟩ := row_splice hi hr hl (o := lo * sz) hD2 (l' := splice l lo (List.replicate (hi' - lo) ds)) (splice_len (by simp; omega)) (wl_splice k2 hrw lo) hfl (by rw [flat_len hrw, ← Nat.add_mul]; exact Nat.mul_le_mul_right _ (by simp; omega)) (by omega)
      refine ⟨_, _, ?_, q3, hK⟩
      have hcyc := cyc_flat z.cells (by omega) (hi' - lo)
      have hst := run_storeCells (P := P) hD2.one q1 q2
      rw [g3 (by omega), k1]
      unfold Builtin.clear_
      obtain ⟨n, hn⟩ : ∃ n, hi' - lo = n + 1 := ⟨hi' - lo - 1, by omega⟩
      rw [hn] at hcyc hst ⊢
      have hzc : (Builtin.zeroCells z.cells (n + 1)).toList = (List.replicate (n + 1) z.cells.toList).flatten := hcyc
      simp [run_underlying ht, hzv, hzc, hst]
  · rename_i kt et ht
    split at h <;> try exact h.elim
    rename_i i
    split at h <;> try exact h.elim
    rename_i kks kagg agg sz l hl
    simp only [Den] at hd
    obtain ⟨r, hr, rfl⟩ := hd
    obtain ⟨hw, es, ck, g1, g2, g3⟩ := hi.obj i r _ hr hl
    have hgo : (getObj r.blk).run P W = .ok (.map es ck) W := by simp [getObj, Sem.run, g1]
    have hso : ∀ o, (setObj r.blk o).run P W = .ok () { W with heap := W.heap.setIfInBounds r.blk o } := fun o => by simp [setObj, Sem.run, g1]
    have hlt : r.blk < W.heap.size := (Array.getElem?_eq_some_iff.1 g1).1
    refine ⟨_, { W with heap := W.heap.setIfInBounds r.blk (.map #[] ck) }, ?_, hi.set (o' := .mp kks kagg agg sz []) hr hl rfl rfl rfl (by simp) (fun b hb => ?_) (fun b hb => hb) ⟨wl.nil, #[], ck, ?_, by simp [EntL], ⟨by simp, by simp⟩⟩, h⟩
    · unfold Builtin.clear_
      simp [run_underlying ht, hgo, hso]
    · simp only [owned] at hb
      show (W.heap.setIfInBounds r.blk _)[b]? = _
      rw [Array.getElem?_setIfInBounds_ne (fun e => hb e.symm)]
    · show (W.heap.setIfInBounds r.blk _)[r.blk]? = _
      simp [hlt]

/-! ### []byte("..") -/
def bytesD (s : ByteArray) : List (List D) := s.data.toList.map fun b => [.val (.int .u8 b.toNat)]
def strK (P : Program) (src dst : TypeId) (x : V) (kb : KB) (K : V → KB → Prop) : Prop :=
  match P.underlying src, P.underlying dst, x with
  | some .string, some (.slice elem), .any (.string s) => match P.underlying elem with
    | some (.int .u8) => K (.dat (.sl 1 (bytesD s))) kb
    | _ => False
  | some (.slice _), some (.slice elem), .sl i lo hi => match Nat.beq src dst, P.underlying elem, kb[i]? with
    | true, some (.int .u8), some (.row _ 1 l) => lo < hi ∧ hi ≤ l.length ∧ K (.dat (.sl 1 ((l.take hi).drop lo))) (kb.set i .dead)
    | _, _, _ => False
  | _, _, _ => False

theorem denD_bytes (E : EH) : ∀ (l : List UInt8), DenD E (l.map fun b => [D.val (.int .u8 b.toNat)]).flatten (l.map fun b => Value.int .u8 b.toNat)
  | [] => .nil
  | b :: l => by
    rw [List.map_cons, List.flatten_cons, List.map_cons, List.singleton_append]
    exact .cons (show RepD E (.val _) _ from ⟨rfl, rfl⟩) (denD_bytes E l)

theorem strK_ok {P : Program} {src dst : TypeId} {x : V} {kb : KB} {K : V → KB → Prop} (h : strK P src dst x kb K) {σ : Sg} {E : EH} {W : World} (hi : Inv σ E kb W) {y : Value} (hd : Den σ E x y) :
    ∃ v z E' kb' W', (convert src dst y).run P W = .ok z W' ∧ Step σ E kb W σ E' kb' W' ∧ Den σ E' v z ∧ K v kb' := by
  unfold strK at h
  split at h <;> try exact h.elim
  rotate_left
  · rename_i e1 elem i lo hi' h1 h2
    split at h <;> try exact h.elim
    rename_i ty l hb h3 hk
    obtain ⟨hlt, hle, hK⟩ := h
    have hsd := Nat.eq_of_beq_eq_true hb
    subst hsd
    simp only [Den] at hd
    obtain ⟨r, a, hr, rfl, g1, g2, g3⟩ := hd
    have hc : r.cap ≠ 0 := by omega
    have ha := g3 (by omega)
    subst ha
    obtain ⟨E', arr, k1, k2, k3⟩ := hi.freezeM hr hk hc
    have hwl := (hi.obj i r _ hr hk).2.1
    have hsz := (hi.obj i r _ hr hk).1
    have hm : (markStringish ⟨r.blk, lo * r.sz, none⟩).run P W = .ok () (W.freeze ⟨r.blk, arr.size, none⟩ 1) := by
      have hsh : W.shape? r.blk = some (ty, arr.size) := by unfold World.shape?; rw [k1]
      unfold markStringish
      rw [Sem.run_bind, show (shape r.blk).run P W = .ok (some (ty, arr.size)) W by rw [← hsh]; rfl, Result.andThen_ok]
      rfl
    have hb1 : r.blk < W.heap.size := (Array.getElem?_eq_some_iff.1 k1).1
    have hb2 : W.heap[r.blk] = Obj.cells arr ty (0, 0) := (Array.getElem?_eq_some_iff.1 k1).2
    refine ⟨_, .slice (some ⟨r.blk, lo * r.sz, none⟩) (hi' - lo) (r.cap - lo), E', _, W.freeze ⟨r.blk, arr.size, none⟩ 1, ?_, k2 _ rfl rfl rfl (by simp [World.freeze]) ?_ (fun k hkne => ?_), ?_, hK⟩
    · unfold convert
      rw [Sem.run_bind, run_underlying h1, Result.andThen_ok, Sem.run_bind, run_underlying h2, Result.andThen_ok]
      simp only []
      rw [Sem.run_bind, run_underlying h3, Result.andThen_ok]
      simp only [beq_self_eq_true]
      rw [Sem.run_bind, hm, Result.andThen_ok]
      rfl
    · simp [World.freeze, Array.getElem?_modify, k1]
    · simp [World.freeze, Array.getElem?_modify, show ¬ r.blk = k from fun e => hkne e.symm]
    · simp only [Den]
      exact row_part hsz hwl (by omega) hle (hi.obj i r _ hr hk).2.2.1 (fun _ => rfl) (fun _ => k3)
  rename_i elem s h1 h2
  split at h <;> try exact h.elim
  rename_i h3
  simp only [Den] at hd
  subst hd
  have hge := grownCap_ge W s.size 0 elem
  obtain ⟨cap, hcap⟩ : ∃ cap, grownCap W s.size 0 elem = cap := ⟨_, rfl⟩
  rw [hcap] at hge
  let arr : Array Value := (s.data.map fun b => Value.int .u8 b.toNat) ++ Array.replicate (cap - s.size) (.int .u8 0)
  have hchoose : (choose (.appendCap s.size 0 elem)).run P W = .ok cap W.drew := by
    rw [← hcap]
    rfl
  have hW : ((W.drew.alloc (.cells arr elem)).freeze ⟨W.heap.size, arr.size, none⟩ 1) = W.drew.alloc (.cells arr elem (arr.size, arr.size + 1)) := by
    unfold World.freeze World.alloc
    simp only [Nat.one_ne_zero, if_false]
    congr 1
    show (W.heap.push (Obj.cells arr elem)).modify W.heap.size _ = W.heap.push _
    apply Array.ext (by simp)
    intro j h1 h2
    simp only [Array.getElem_modify, Array.getElem_push]
    by_cases hj : j < W.heap.size
    · simp [hj, show ¬ W.heap.size = j by omega]
    · have : W.heap.size = j := by simp at h1; omega
      simp [this]
  have hrun : (convert src dst (.string s)).run P W = .ok (.slice (some ⟨W.heap.size, 0, none⟩) s.size cap) (W.drew.alloc (.cells arr elem (arr.size, arr.size + 1))) := by
    unfold convert
    rw [Sem.run_bind, run_underlying h1, Result.andThen_ok, Sem.run_bind, run_underlying h2, Result.andThen_ok]
    simp only []
    rw [Sem.run_bind, run_underlying h3, Result.andThen_ok]
    simp only []
    unfold Conv.stringToBytes
    rw [Sem.run_bind, hchoose, Result.andThen_ok]
    simp only []
    rw [Sem.run_bind, show (newRow elem ((s.data.map fun b => Value.int .u8 b.toNat) ++ Array.replicate (cap - s.size) (.int .u8 0))).run P W.drew = .ok ⟨W.heap.size, 0, none⟩ (W.drew.alloc (.cells arr elem)) by simp [newRow]; rfl, Result.andThen_ok]
    have hsh : (W.drew.alloc (.cells arr elem)).shape? W.heap.size = some (elem, arr.size) := by
      unfold World.shape?
      have : (W.drew.alloc (.cells arr elem)).heap[W.heap.size]? = some (.cells arr elem) := by
        show (W.heap.push _)[W.heap.size]? = _
        simp
      rw [this]
    have hm : (markStringish ⟨W.heap.size, 0, none⟩).run P (W.drew.alloc (.cells arr elem)) = .ok () (W.drew.alloc (.cells arr elem (arr.size, arr.size + 1))) := by
      rw [← hW]
      unfold markStringish
      rw [Sem.run_bind, show (shape W.heap.size).run P (W.drew.alloc (.cells arr elem)) = .ok (some (elem, arr.size)) (W.drew.alloc (.cells arr elem)) by rw [← hsh]; rfl, Result.andThen_ok]
      rfl
    rw [Sem.run_bind, hm, Result.andThen_ok]
    rfl
  have hst := (Inv.drew hi).trans ((Inv.drew hi).inv.growE (.cells arr elem (arr.size, arr.size + 1)))
  refine ⟨_, _, _, _, _, hrun, hst, ?_, h⟩
  simp only [Den, RepD]
  have hl : (bytesD s).length = s.size := by simp [bytesD]
  refine ⟨_, cap, by rw [hl], by rw [hl]; exact hge, .inr ⟨W.heap.size, 0, rfl, RepL.of_flat (fun e he => ?_) ?_⟩⟩
  · obtain ⟨b, _, rfl⟩ := List.mem_map.1 he; rfl
  · refine (denD_bytes _ s.data.toList).rep fun j v hj => ?_
    unfold EH.cell
    simp only [show W.drew.heap.size = W.heap.size from rfl, if_true, Nat.zero_add]
    show arr[j]? = some v
    have hlt := (List.getElem?_eq_some_iff.1 hj).1
    simp only [List.length_map, Array.length_toList] at hlt
    simp only [arr]
    rw [Array.getElem?_append_left (by simpa using hlt)]
    simpa using hj

/-! ### A slice as an array -/
def arrAtK (P : Program) (t : TypeId) (x : V) (kb : KB) (K : V → Prop) : Prop :=
  match P.underlying t with
  | some (.array (n + 1) elem) => match x with
    | .sl i lo hi => n + 1 ≤ hi - lo ∧ K (.pw i lo)
    | .dat (.sl _ l) => n + 1 ≤ l.length ∧ K (.ipe l.flatten 0)
    | .sa i base o _ m _ => n + 1 ≤ m ∧ K (.pa i base o)
    | .se i ix o _ m _ => n + 1 ≤ m ∧ K (.pe i ix o)
    | _ => False
  | _ => False
theorem arrAtK_ok {P : Program} {t : TypeId} {x : V} {kb : KB} {K : V → Prop} (h : arrAtK P t x kb K) {σ : Sg} {E : EH} {a : Value} (hd : Den σ E x a) :
    ∃ v z, (∀ W, (Instr.arrayAt t a).run P W = .ok z W) ∧ Den σ E v z ∧ K v := by
  unfold arrAtK at h
  split at h <;> try exact h.elim
  rename_i n elem ht
  have run : ∀ {ad : Option Addr} {len cap : Nat}, n + 1 ≤ len → ∀ W, (Instr.arrayAt t (.slice ad len cap)).run P W = .ok (.pointer ad) W := fun hl W => by
    unfold Instr.arrayAt
    rw [Sem.run_bind, run_underlying ht, Result.andThen_ok]
    simp only []
    rw [if_neg (by omega)]
    rfl
  split at h <;> try exact h.elim
  · obtain ⟨hle, hK⟩ := h
    simp only [Den] at hd
    obtain ⟨r, ad, hr, rfl, g1, g2, g3⟩ := hd
    exact ⟨_, _, run hle, by simp only [Den]; exact ⟨r, hr, by rw [g3 (by omega)]⟩, hK⟩
  · rename_i sz l
    obtain ⟨hle, hK⟩ := h
    simp only [Den, RepD] at hd
    obtain ⟨ad, cap, rfl, hcap, hrep⟩ := hd
    rcases hrep with hrep | ⟨b, off, rfl, hrep⟩
    · omega
    exact ⟨_, _, run hle, by simp only [Den]; exact ⟨b, off, rfl, hrep.flat⟩, hK⟩
  · obtain ⟨hle, hK⟩ := h
    simp only [Den] at hd
    obtain ⟨r, ad, hr, rfl, g1, g3⟩ := hd
    exact ⟨_, _, run hle, by simp only [Den]; exact ⟨r, hr, by rw [g3 (by omega)]⟩, hK⟩
  · obtain ⟨hle, hK⟩ := h
    simp only [Den] at hd
    obtain ⟨r, ad, hr, rfl, g1, g3⟩ := hd
    exact ⟨_, _, run hle, by simp only [Den]; exact ⟨r, hr, by rw [g3 (by omega)]⟩, hK⟩
end Vc
