/- Sources; append, copy, new slices, bytes of strings. -/
import Derived.Test.YtnglmhckcfnfaaaVdF
set_option linter.unusedSimpArgs false
set_option linter.unusedVariables false
namespace Vc
open Go

/-- One block of ours goes, another one comes: the same block, or a new one. -/
theorem Inv.renew {σ : Sg} {E : EH} {kb : KB} {W W' : World} (h : Inv σ E kb W) {i : Nat} {r r' : Re} {o o' : KO} (hs : σ[i]? = some r) (hk : kb[i]? = some o)
    (hos : W'.os = W.os) (htp : W'.tape = W.tape) (hout : W'.output = W.output) (hsz : W.heap.size ≤ W'.heap.size)
    (hbl : ∀ b, b < W.heap.size → ¬ owned r o b → W'.heap[b]? = W.heap[b]?) (hr : ∀ b, owned r' o' b → owned r o b ∨ W.heap.size ≤ b) (ho : HoldsO (σ ++ [r']) E W' r' o') :
    Step σ E kb W (σ ++ [r']) E (kb.set i .dead ++ [o']) W' := by
  have hi : i < kb.length := by
    rcases Nat.lt_or_ge i kb.length with h' | h'
    · exact h'
    · simp [List.getElem?_eq_none h'] at hk
  have hcase : ∀ (j : Nat) (r1 : Re) (x : KO), (σ ++ [r'])[j]? = some r1 → (kb.set i .dead ++ [o'])[j]? = some x →
      (j = σ.length ∧ r1 = r' ∧ x = o') ∨ (j < σ.length ∧ j = i ∧ x = .dead) ∨ (j < σ.length ∧ j ≠ i ∧ σ[j]? = some r1 ∧ kb[j]? = some x) := by
    intro j r1 x h1 h2
    rcases Nat.lt_trichotomy j σ.length with hj | hj | hj
    · rw [List.getElem?_append_left hj] at h1
      rw [List.getElem?_append_left (by rw [List.length_set, ← h.len]; exact hj)] at h2
      by_cases hji : j = i
      · subst hji
        rw [List.getElem?_set_self hi] at h2
        exact .inr (.inl ⟨hj, rfl, (Option.some.inj h2).symm⟩)
      · rw [List.getElem?_set_ne (Ne.symm hji)] at h2
        exact .inr (.inr ⟨hj, hji, h1, h2⟩)
    · subst hj
      rw [List.getElem?_append_right (Nat.le_refl _)] at h1
      rw [List.getElem?_append_right (by rw [List.length_set, ← h.len]; exact Nat.le_refl _)] at h2
      simp [h.len] at h1 h2
      exact .inl ⟨rfl, h1.symm, h2.symm⟩
    · rw [List.getElem?_eq_none (by simp; omega)] at h1; cases h1
  have hown : ∀ b, Owns (σ ++ [r']) (kb.set i .dead ++ [o']) b → Owns σ kb b ∨ W.heap.size ≤ b := by
    rintro b ⟨j, r1, x, h1, h2, h3⟩
    rcases hcase j r1 x h1 h2 with ⟨_, rfl, rfl⟩ | ⟨_, _, rfl⟩ | ⟨_, _, h4, h5⟩
    · rcases hr b h3 with h6 | h6
      · exact .inl ⟨i, r, o, hs, hk, h6⟩
      · exact .inr h6
    · exact h3.elim
    · exact .inl ⟨j, r1, x, h4, h5, h3⟩
  refine ⟨⟨by simp [h.len], fun j r1 x h1 h2 => ?_, fun a c r1 r2 o1 o2 b hac h1 h2 h3 h4 h5 h6 => ?_, fun b x hb => ?_, fun b hb => ?_⟩, ⟨hos, htp, hout, hsz, fun b hb hn => hbl b hb (fun ho' => hn ⟨i, r, o, hs, hk, ho'⟩)⟩, ⟨[r'], rfl⟩, EH.le.refl E, hown, fun b x hb => .inl hb⟩
  · rcases hcase j r1 x h1 h2 with ⟨_, rfl, rfl⟩ | ⟨_, _, rfl⟩ | ⟨_, hji, h4, h5⟩
    · exact ho
    · trivial
    · exact (h.obj j r1 x h4 h5).mono (EH.le.refl E) (fun b hb => hbl b ((h.obj j r1 x h4 h5).lt hb) (fun hb' => h.disj i j r r1 o x b (Ne.symm hji) hs hk h4 h5 hb' hb))
  · rcases hcase a r1 o1 h1 h2 with ⟨ha, rfl, rfl⟩ | ⟨_, _, rfl⟩ | ⟨ha, hai, a4, a5⟩
    · rcases hcase c r2 o2 h3 h4 with ⟨hc, _, _⟩ | ⟨_, _, rfl⟩ | ⟨hc, hci, c4, c5⟩
      · omega
      · exact h6.elim
      · rcases hr b h5 with h7 | h7
        · exact h.disj i c r r2 o o2 b (Ne.symm hci) hs hk c4 c5 h7 h6
        · have := (h.obj c r2 o2 c4 c5).lt h6; omega
    · exact h5.elim
    · rcases hcase c r2 o2 h3 h4 with ⟨hc, rfl, rfl⟩ | ⟨_, _, rfl⟩ | ⟨hc, hci, c4, c5⟩
      · rcases hr b h6 with h7 | h7
        · exact h.disj i a r r1 o o1 b (Ne.symm hai) hs hk a4 a5 h7 h5
        · have := (h.obj a r1 o1 a4 a5).lt h5; omega
      · exact h6.elim
      · exact h.disj a c r1 r2 o1 o2 b hac a4 a5 c4 c5 h5 h6
  · have h1 := h.imm b x hb
    rw [hbl b (Array.getElem?_eq_some_iff.1 h1).1 (fun hb' => ?_)]
    · exact h1
    · have := h.sep b ⟨i, r, o, hs, hk, hb'⟩
      rw [this] at hb; cases hb
  · rcases hown b hb with h1 | h1
    · exact h.sep b h1
    · cases hE : E b with
      | none => rfl
      | some x =>
        have := (Array.getElem?_eq_some_iff.1 (h.imm b x hE)).1
        omega

/-! ### What stands in a slice -/
/-- Data, each cell an element. -/
def ones (ds : List D) : List (List D) := ds.map fun d => [d]
theorem ones_len (ds : List D) : (ones ds).length = ds.length := by simp [ones]
/-- The elements of a slice. -/
def srcV (kb : KB) : V → Option (Option Nat × Prop × List (List D))
  | .sl j lo hi => match kb[j]? with
    | some (.row _ sz l) => some (some sz, hi ≤ l.length, (l.take hi).drop lo)
    | _ => none
  | .dat (.sl sz l) => some (some sz, True, l)
  | .any (.slice none 0 0) => some (none, True, [])
  | .e0 => some (none, True, [])
  | .sa i base o s n c => match kb[i]?, Nat.beq s 1 with
    | some (.cells l), true => match pieceAt l base with
      | some (.arr m cs) => some (some 1, o + n ≤ m, ones ((cs.drop o).take n))
      | _ => none
    | _, _ => none
  | .se i ix o s n c => match kb[i]?, Nat.beq s 1 with
    | some (.row _ sz l), true => some (some 1, ix < l.length ∧ o + n ≤ sz, ones ((((l[ix]?).getD []).drop o).take n))
    | _, _ => none
  | _ => none
def szFits (s : Nat) : Option Nat → Bool
  | some sz => Nat.beq sz s
  | none => true

/-- A slice's value and its elements. -/
def Elems (E : EH) (W : World) (s : Nat) (y : Value) (xs : List (List D)) : Prop :=
  wl s xs ∧ ∃ a cap ys, y = .slice a xs.length cap ∧ xs.length ≤ cap ∧ DenD E xs.flatten ys ∧ (xs.length = 0 ∨ ∃ b o, a = some ⟨b, o, none⟩ ∧ ∀ (j : Nat) (v : Value), ys[j]? = some v → W.cell? ⟨b, o + j, none⟩ = some v)

theorem srcV_ok {kb : KB} {x : V} {sz : Option Nat} {p : Prop} {xs : List (List D)} (h : srcV kb x = some (sz, p, xs)) (hp : p)
    {σ : Sg} {E : EH} {W : World} (hi : Inv σ E kb W) {y : Value} (hy : Den σ E x y) {s : Nat} (hsz : szFits s sz = true) : Elems E W s y xs := by
  unfold srcV at h
  split at h
  · rename_i j lo hi'
    split at h <;> try (cases h; done)
    rename_i ty sz' l hl
    simp only [Option.some.injEq, Prod.mk.injEq] at h
    obtain ⟨rfl, rfl, rfl⟩ := h
    have hszs : sz' = s := Nat.eq_of_beq_eq_true hsz
    subst hszs
    simp only [Den] at hy
    obtain ⟨r, ad, hr, rfl, g1, g2, g3⟩ := hy
    have ho := hi.obj j r _ hr hl
    obtain ⟨zs, z1, z2⟩ := row_cells ho lo
    obtain ⟨k1, k2, k3, k4, k5⟩ := ho
    have hxl : ((l.take hi').drop lo).length = hi' - lo := by simp; omega
    have e1 : ((l.take hi').drop lo).flatten = (l.drop lo).flatten.take ((hi' - lo) * sz') := by
      rw [take_drop_flat k2, flat_drop k2]
    refine ⟨(k2.take hi').drop lo, ad, _, zs.take ((hi' - lo) * sz'), by rw [hxl], by rw [hxl]; omega, by rw [e1]; exact z1.take _, ?_⟩
    by_cases h0 : hi' - lo = 0
    · left; rw [hxl]; exact h0
    · right
      refine ⟨_, _, g3 (by omega), fun q v hv => z2 q v ?_⟩
      have hlt : q < (hi' - lo) * sz' := by
        have := (List.getElem?_eq_some_iff.1 hv).1
        simp only [List.length_take] at this
        omega
      rwa [List.getElem?_take_of_lt hlt] at hv
  · rename_i sz' l
    simp only [Option.some.injEq, Prod.mk.injEq] at h
    obtain ⟨rfl, rfl, rfl⟩ := h
    have hszs : sz' = s := Nat.eq_of_beq_eq_true hsz
    subst hszs
    simp only [Den, RepD] at hy
    obtain ⟨ad, cap, rfl, hcap, hrep⟩ := hy
    rcases hrep with hrep | ⟨b, off, rfl, hrep⟩
    · have : l = [] := List.eq_nil_of_length_eq_zero hrep
      subst this
      exact ⟨wl.nil, ad, cap, [], rfl, hcap, .nil, .inl rfl⟩
    · obtain ⟨zs, z1, z2⟩ := hrep.flat.denD
      exact ⟨hrep.wl, _, cap, zs, rfl, hcap, z1, .inr ⟨b, off, rfl, fun q v hv => imm_cell hi.imm (z2 q v hv)⟩⟩
  · simp only [Option.some.injEq, Prod.mk.injEq] at h
    obtain ⟨rfl, rfl, rfl⟩ := h
    simp only [Den] at hy
    subst hy
    exact ⟨wl.nil, none, 0, [], rfl, Nat.le_refl _, .nil, .inl rfl⟩
  · simp only [Option.some.injEq, Prod.mk.injEq] at h
    obtain ⟨rfl, rfl, rfl⟩ := h
    simp only [Den] at hy
    obtain ⟨a, rfl⟩ := hy
    exact ⟨wl.nil, a, 0, [], rfl, Nat.le_refl _, .nil, .inl rfl⟩
  · rename_i i base o s' n c
    split at h <;> try (cases h; done)
    rename_i l hl hb
    split at h <;> try (cases h; done)
    rename_i m cs hp'
    simp only [Option.some.injEq, Prod.mk.injEq] at h
    obtain ⟨rfl, rfl, rfl⟩ := h
    have hszs : 1 = s := Nat.eq_of_beq_eq_true hsz
    subst hszs
    simp only [Den] at hy
    obtain ⟨r, ad, hr, rfl, g1, g2⟩ := hy
    have ho := hi.obj i r _ hr hl
    obtain ⟨zs, z1, z2⟩ := piece_cells ho hp'
    obtain ⟨arr, ty, _, hD⟩ := ho
    obtain ⟨_, _, hcm, _, _⟩ := pieceAt_arr hp' hD
    have hlen : (ones ((cs.drop o).take n)).length = n := by rw [ones_len]; simp; omega
    refine ⟨wl_single _, ad, c, (zs.drop o).take n, by rw [hlen], by rw [hlen]; exact g1, by unfold ones; rw [flat_single]; exact (z1.drop o).take n, ?_⟩
    by_cases h0 : n = 0
    · left; rw [hlen]; exact h0
    · right
      refine ⟨_, _, g2 (by omega), fun q v hv => ?_⟩
      have hlt : q < n := by
        have := (List.getElem?_eq_some_iff.1 hv).1
        simp only [List.length_take] at this
        omega
      rw [List.getElem?_take_of_lt hlt, List.getElem?_drop] at hv
      rw [Nat.add_assoc]
      exact z2 _ v hv
  · rename_i i ix o s' n c
    split at h <;> try (cases h; done)
    rename_i ty sz' l hl hb
    simp only [Option.some.injEq, Prod.mk.injEq] at h
    obtain ⟨rfl, rfl, rfl⟩ := h
    have hszs : 1 = s := Nat.eq_of_beq_eq_true hsz
    subst hszs
    obtain ⟨hix, hon⟩ := hp
    simp only [Den] at hy
    obtain ⟨r, ad, hr, rfl, g1, g2⟩ := hy
    have ho := hi.obj i r _ hr hl
    have he : l[ix]? = some l[ix] := List.getElem?_eq_getElem hix
    obtain ⟨zs, z1, z2⟩ := row_elem ho he
    have hel := ho.2.1 _ (List.getElem_mem hix)
    rw [he, Option.getD_some]
    have hlen : (ones ((l[ix].drop o).take n)).length = n := by rw [ones_len]; simp; omega
    refine ⟨wl_single _, ad, c, (zs.drop o).take n, by rw [hlen], by rw [hlen]; exact g1, by unfold ones; rw [flat_single]; exact (z1.drop o).take n, ?_⟩
    by_cases h0 : n = 0
    · left; rw [hlen]; exact h0
    · right
      refine ⟨_, _, g2 (by omega), fun q v hv => ?_⟩
      have hlt : q < n := by
        have := (List.getElem?_eq_some_iff.1 hv).1
        simp only [List.length_take] at this
        omega
      rw [List.getElem?_take_of_lt hlt, List.getElem?_drop] at hv
      rw [Nat.add_assoc]
      exact z2 _ v hv
  · cases h

/-- The first k elements, read. -/
theorem Elems.first {E : EH} {W : World} {s : Nat} {y : Value} {xs : List (List D)} (h : Elems E W s y xs) {P : Program} (k : Nat) (hk : k ≤ xs.length) :
    ∃ ys, (Builtin.firstCells s k y).run P W = .ok ys.toArray W ∧ (Builtin.firstCells s k y).run P W.drew = .ok ys.toArray W.drew ∧ DenD E (xs.take k).flatten ys := by
  obtain ⟨hw, a, cap, ys, rfl, hc, hD, ha⟩ := h
  have hyl := hD.len
  rw [flat_len hw] at hyl
  by_cases h0 : k = 0
  · subst h0
    refine ⟨[], ?_, ?_, by simp [DenD]⟩
    · cases a with
      | none => simpa using run_firstCells_none (P := P) W s 0 _ cap
      | some a => simpa using run_firstCells_some (P := P) W s 0 a _ cap [] (by simp) (by simp)
    · cases a with
      | none => simpa using run_firstCells_none (P := P) W.drew s 0 _ cap
      | some a => simpa using run_firstCells_some (P := P) W.drew s 0 a _ cap [] (by simp) (by simp)
  · rcases ha with ha | ⟨b, o, rfl, ha⟩
    · omega
    have hkl : k * s ≤ xs.length * s := Nat.mul_le_mul_right _ hk
    have hl : (ys.take (k * s)).length = k * s := by simp; omega
    have hcell : ∀ (j : Nat) (u : Value), (ys.take (k * s))[j]? = some u → W.cell? (Addr.add ⟨b, o, none⟩ j) = some u := fun j u hj => by
      have hlt : j < k * s := by
        have := (List.getElem?_eq_some_iff.1 hj).1
        omega
      rw [List.getElem?_take_of_lt hlt] at hj
      rw [Addr.add_lit]
      exact ha j u hj
    exact ⟨ys.take (k * s), run_firstCells_some (P := P) W s k _ _ cap _ hl hcell, run_firstCells_some (P := P) W.drew s k _ _ cap _ hl (by simpa using hcell), by rw [flat_take hw]; exact hD.take _⟩
theorem Elems.lenOf {E : EH} {W : World} {s : Nat} {y : Value} {xs : List (List D)} (h : Elems E W s y xs) {P : Program} (w : World) : (Builtin.lenOf y).run P w = .ok xs.length w := by
  obtain ⟨_, a, cap, _, rfl, _⟩ := h
  rfl
theorem Elems.src {E : EH} {W : World} {s : Nat} {y : Value} {xs : List (List D)} (h : Elems E W s y xs) {P : Program} {u e' : TypeId} (hu : P.underlying u = some (.slice e')) :
    ∃ ys, Src P s u y xs.length ys W ∧ DenD E xs.flatten ys := by
  obtain ⟨ys, h1, h2, h3⟩ := h.first (P := P) xs.length (Nat.le_refl _)
  rw [List.take_length] at h3
  exact ⟨ys, ⟨.inl ⟨e', hu⟩, fun w => h.lenOf w, h1, h2, by rw [h3.len, flat_len h.1], h3.one⟩, h3⟩

/-! ### append -/
/-- append(d, x...): d from its array's beginning on. -/
def appendK (P : Program) (t u : TypeId) (d x : V) (kb : KB) (K : V → KB → Prop) : Prop :=
  match P.underlying t, P.underlying u, srcV kb x with
  | some (.slice elem), some (.slice _), some (sz, p, xs) =>
    match P.info? elem with
    | some i =>
      match i.zero, Nat.ble 1 i.size, Nat.ble 1 i.bytes, szFits i.size sz with
      | some z, true, true, true =>
        match Nat.beq z.cells.size i.size with
        | true =>
          match d with
          | .any (.slice none 0 0) => p ∧ xs.length * i.bytes ≤ 140737488355328 ∧ K (.sl kb.length 0 xs.length) (kb ++ [.row elem i.size xs])
          | .e0 => p ∧ xs.length * i.bytes ≤ 140737488355328 ∧ K (.sl kb.length 0 xs.length) (kb ++ [.row elem i.size xs])
          | .sl j 0 hi =>
            match kb[j]? with
            | some (.row ty sz' l) => match Nat.beq ty elem, Nat.beq sz' i.size with
              | true, true => p ∧ hi ≤ l.length ∧ (hi + xs.length) * i.bytes ≤ 140737488355328 ∧ K (.sl kb.length 0 (hi + xs.length)) (kb.set j .dead ++ [.row elem i.size (l.take hi ++ xs)])
              | _, _ => False
            | _ => False
          | _ => False
        | false => False
      | _, _, _, _ => False
    | none => False
  | _, _, _ => False

/-- An append to a slice that is empty and has no room. -/
theorem run_append_new {P : Program} {t u elem e' : TypeId} {i : TypeInfo} {z : Value} (ht : P.underlying t = some (.slice elem)) (hu : P.underlying u = some (.slice e')) (hi : P.info? elem = some i) (hz : i.zero = some z)
    (h1 : 1 ≤ i.size) (h2 : 1 ≤ i.bytes) (hzs : z.cells.size = i.size) (W : World) {base : Option Addr} {sLen sCap : Nat} {olds : List Value}
    (hold : (Builtin.firstCells i.size sLen (.slice base sLen sCap)).run P W.drew = .ok olds.toArray W.drew) (hol : olds.length = sLen * i.size) {y : Value} {n : Nat} {news : List Value} (hs : Src P i.size u y n news W) (hg : sCap < sLen + n)
    (hb : (sLen + n) * i.bytes ≤ 140737488355328) (ty : TypeId) :
    ∃ cap arr, (Builtin.append_ #[t, u] ty #[.slice base sLen sCap, y]).run P W = .ok (.slice (some ⟨W.heap.size, 0, none⟩) (sLen + n) cap) (W.drew.alloc (.cells arr elem)) ∧ sLen + n ≤ cap ∧ cap ≤ maxLen ∧
      arr.size = cap * i.size ∧ arr.toList.take ((sLen + n) * i.size) = olds ++ news := by
  have hsm : sLen + n ≤ 140737488355328 := Nat.le_trans (Nat.le_mul_of_pos_right _ h2) hb
  have hge := grownCap_ge W (sLen + n) sCap elem
  have hle := grownCap_le_maxLen W (sLen + n) sCap elem (by simp only [maxLen]; omega)
  have hr := run_append_grow_src W t u ty elem i z ht hi hz base sLen sCap olds hold y n news hs hg (by omega) (growslice_fits hg hb)
  refine ⟨_, _, hr, hge, hle, ?_, ?_⟩
  · have : (olds ++ news).length = (sLen + n) * i.size := by rw [List.length_append, hol, hs.newsLen, Nat.add_mul]
    simp only [Array.size_append, List.size_toArray, this, size_zeroCells, hzs]
    rw [← Nat.add_mul]
    congr 1
    omega
  · have : (olds ++ news).length = (sLen + n) * i.size := by rw [List.length_append, hol, hs.newsLen, Nat.add_mul]
    rw [Array.toList_append, ← this]
    exact List.take_left

theorem run_append_room_src' {P : Program} {t u elem e' : TypeId} {i : TypeInfo} (ht : P.underlying t = some (.slice elem)) (hu : P.underlying u = some (.slice e')) (hi : P.info? elem = some i) (W : World) {b sLen sCap : Nat} {cur : Array Value}
    (hg : W.heap[b]? = some (.cells cur elem (0, 0))) (hc : cur.size = sCap * i.size) {y : Value} {n : Nat} {news : List Value} (hs : Src P i.size u y n news W) (hroom : sLen + n ≤ sCap) (ty : TypeId) :
    (Builtin.append_ #[t, u] ty #[.slice (some ⟨b, 0, none⟩) sLen sCap, y]).run P W = .ok (.slice (some ⟨b, 0, none⟩) (sLen + n) sCap) (W.setRow b (splice cur.toList (sLen * i.size) news).toArray) := by
  have hfit : sLen * i.size + news.length ≤ cur.size := by
    rw [hs.newsLen, hc, ← Nat.add_mul]; exact Nat.mul_le_mul_right _ hroom
  have hst := run_storeCells_at P b (sLen * i.size) elem news 0 cur W hg (by simpa using hfit) hs.one
  simp only [Nat.add_zero] at hst
  simp [Builtin.append_, run_underlying ht, run_underlying hu, Go.sizeOf, typeInfo, hi, hs.len, hroom, hs.cells, Addr.add_lit, hst, splice]


theorem appendK_ok {P : Program} {t u : TypeId} {d x : V} {kb : KB} {K : V → KB → Prop} (h : appendK P t u d x kb K) {σ : Sg} {E : EH} {W : World} (hi : Inv σ E kb W) {a y : Value} (hd : Den σ E d a) (hy : Den σ E x y) (ty : TypeId) :
    ∃ v z σ' kb' W', (Builtin.append_ #[t, u] ty #[a, y]).run P W = .ok z W' ∧ Step σ E kb W σ' E kb' W' ∧ Den σ' E v z ∧ K v kb' := by
  unfold appendK at h
  split at h <;> try exact h.elim
  rename_i elem e' sz p xs ht hu hsrc
  split at h <;> try exact h.elim
  rename_i i hinf
  split at h <;> try exact h.elim
  rename_i z hz hb1 hb2 hfit
  split at h <;> try exact h.elim
  rename_i hbz
  have h1 := Nat.le_of_ble_eq_true hb1
  have h2 := Nat.le_of_ble_eq_true hb2
  have hzs := Nat.eq_of_beq_eq_true hbz
  have hnew : ∀ {cap : Nat} {arr : Array Value} {l : List (List D)} {ys : List Value}, wl i.size l → l.length ≤ cap → cap ≤ maxLen → arr.size = cap * i.size → arr.toList.take (l.length * i.size) = ys → DenD E l.flatten ys →
      HoldsO (σ ++ [⟨W.heap.size, cap, i.size⟩]) E (W.drew.alloc (.cells arr elem)) ⟨W.heap.size, cap, i.size⟩ (.row elem i.size l) := by
    intro cap arr l ys q1 q2 q3 q4 q5 q6
    refine ⟨rfl, q1, q2, q3, .inr ⟨arr, ?_, q4, by rw [q5]; exact q6⟩⟩
    show (W.heap.push _)[W.heap.size]? = _
    simp
  have fresh : ∀ {base : Option Addr}, a = .slice base 0 0 → p ∧ xs.length * i.bytes ≤ 140737488355328 ∧ K (.sl kb.length 0 xs.length) (kb ++ [.row elem i.size xs]) →
      ∃ v z σ' kb' W', (Builtin.append_ #[t, u] ty #[a, y]).run P W = .ok z W' ∧ Step σ E kb W σ' E kb' W' ∧ Den σ' E v z ∧ K v kb' := by
    rintro base rfl ⟨hp, hb, hK⟩
    have hE := srcV_ok hsrc hp hi hy hfit
    obtain ⟨ys, hs, hD⟩ := hE.src hu
    have hw := hE.1
    by_cases hx : xs.length = 0
    · have hnil : xs = [] := List.eq_nil_of_length_eq_zero hx
      subst hnil
      have hrun : (Builtin.append_ #[t, u] ty #[.slice base 0 0, y]).run P W = .ok (.slice base 0 0) W := by
        have hlen := hs.len
        have hcl := hs.cells
        have hyl := hs.newsLen
        simp at hlen hcl hyl
        subst hyl
        cases base <;> simp [Builtin.append_, run_underlying ht, run_underlying hu, Go.sizeOf, typeInfo, hinf, hlen, hcl, storeCells]
      have hst : Step σ E kb W (σ ++ [⟨0, 0, i.size⟩]) E (kb ++ [.row elem i.size []]) W :=
        hi.grow _ _ rfl rfl rfl (Nat.le_refl _) (fun _ _ => rfl) (fun b hb => absurd rfl hb.1) ⟨rfl, wl.nil, Nat.le_refl _, Nat.zero_le _, .inl rfl⟩
      exact ⟨_, _, _, _, _, hrun, hst, by simp only [Den]; exact ⟨⟨0, 0, i.size⟩, base, by rw [← hi.len]; simp, by simp, by simp, by simp, by simp⟩, hK⟩
    · have hold : (Builtin.firstCells i.size 0 (.slice base 0 0)).run P W.drew = .ok ([] : List Value).toArray W.drew := by
        cases base with
        | none => simpa using run_firstCells_none (P := P) W.drew i.size 0 0 0
        | some ad => simpa using run_firstCells_some (P := P) W.drew i.size 0 ad 0 0 [] (by simp) (by simp)
      obtain ⟨cap, arr, hrun, c1, c2, c3, c4⟩ := run_append_new (base := base) (sLen := 0) (sCap := 0) (olds := []) ht hu hinf hz h1 h2 hzs W hold (by simp) hs (by omega) (by simpa using hb) ty
      simp only [Nat.zero_add, List.nil_append] at hrun c1 c4
      have hst := (Inv.drew hi).trans ((Inv.drew hi).inv.alloc (.cells arr elem) ⟨W.heap.size, cap, i.size⟩ (.row elem i.size xs) (fun b hb => hb.2) (hnew hw c1 c2 c3 c4 hD))
      exact ⟨_, _, _, _, _, hrun, hst, by simp only [Den]; exact ⟨⟨W.heap.size, cap, i.size⟩, _, by rw [← hi.len]; simp, rfl, by simp, c1, by simp⟩, hK⟩
  split at h <;> try exact h.elim
  · simp only [Den] at hd
    exact fresh hd h
  · simp only [Den] at hd
    obtain ⟨base, rfl⟩ := hd
    exact fresh rfl h
  · rename_i j hi'
    split at h <;> try exact h.elim
    rename_i ty' sz' l hl
    split at h <;> try exact h.elim
    rename_i hbt hbs
    have hty := Nat.eq_of_beq_eq_true hbt
    have hsz := Nat.eq_of_beq_eq_true hbs
    subst hty; subst hsz
    obtain ⟨hp, hle, hb, hK⟩ := h
    have hE := srcV_ok hsrc hp hi hy hfit
    obtain ⟨ys, hs, hD⟩ := hE.src hu
    have hw := hE.1
    simp only [Den] at hd
    obtain ⟨r, ad, hr, rfl, _, g2, g3⟩ := hd
    simp only [Nat.sub_zero, Nat.zero_mul] at *
    obtain ⟨k1, k2, k3, k4, k5⟩ := hi.obj j r _ hr hl
    have hwt := (k2.take hi').append hw
    have hlen : (l.take hi' ++ xs).length = hi' + xs.length := by simp; omega
    by_cases hroom : hi' + xs.length ≤ r.cap
    · by_cases hc0 : r.cap = 0
      · have hx0 : xs.length = 0 := by omega
        have hnil : xs = [] := List.eq_nil_of_length_eq_zero hx0
        have hh0 : hi' = 0 := by omega
        subst hnil; subst hh0
        have hrun : (Builtin.append_ #[t, u] ty #[.slice ad 0 r.cap, y]).run P W = .ok (.slice ad 0 r.cap) W := by
          have hlen := hs.len
          have hcl := hs.cells
          have hyl := hs.newsLen
          simp at hlen hcl hyl
          subst hyl
          cases ad <;> simp [Builtin.append_, run_underlying ht, run_underlying hu, Go.sizeOf, typeInfo, hinf, hlen, hcl, storeCells]
        have hst := hi.renew (W' := W) (r' := ⟨0, 0, i.size⟩) (o' := .row ty' i.size (l.take 0 ++ [])) hr hl rfl rfl rfl (Nat.le_refl _) (fun _ _ _ => rfl) (fun b hb => absurd rfl hb.1)
          ⟨rfl, hwt, by simp, Nat.zero_le _, .inl rfl⟩
        exact ⟨_, _, _, _, _, hrun, hst, by simp only [Den]; exact ⟨⟨0, 0, i.size⟩, ad, by rw [List.getElem?_append_right (by rw [hi.len]; exact Nat.le_refl _)]; simp [hi.len], by simp [hc0], by simp, by simp, by simp⟩, hK⟩
      · rcases k5 with k5 | ⟨arr, k5, k6, k7⟩
        · exact absurd k5 hc0
        rw [g3 (by omega)]
        have hrun := run_append_room_src' ht hu hinf W k5 k6 hs hroom ty
        have hfl : DenD E (l.take hi').flatten (arr.toList.take (hi' * i.size)) := by
          rw [flat_take k2]
          have := k7.take (hi' * i.size)
          rwa [List.take_take, Nat.min_eq_left (Nat.mul_le_mul_right _ hle)] at this
        have hyl := hs.newsLen
        have hsp : hi' * i.size + ys.length ≤ arr.toList.length := by
          have hal : arr.toList.length = r.cap * i.size := by simpa using k6
          rw [hyl, hal, ← Nat.add_mul]; exact Nat.mul_le_mul_right _ hroom
        have hst := hi.renew (W' := W.setRow r.blk (splice arr.toList (hi' * i.size) ys).toArray) (r' := ⟨r.blk, r.cap, i.size⟩) (o' := .row ty' i.size (l.take hi' ++ xs)) hr hl rfl rfl rfl (by simp [World.setRow])
          (fun b _ hb => setRow_other W r.blk b _ (fun e => hb ⟨hc0, e⟩)) (fun b hb => .inl ⟨hc0, hb.2⟩)
          ⟨rfl, hwt, by rw [hlen]; exact hroom, k4, .inr ⟨_, setRow_heap W r.blk arr _ ty' (0, 0) k5, by simp only [List.size_toArray]; rw [splice_len hsp]; simpa using k6, by
            rw [hlen, List.flatten_append]
            simp only [splice]
            have e0 : (arr.toList.take (hi' * i.size)).length = hi' * i.size := by rw [List.length_take]; omega
            have e1 : (hi' + xs.length) * i.size = (arr.toList.take (hi' * i.size) ++ ys).length := by
              rw [List.length_append, e0, hyl, Nat.add_mul]
            rw [e1, List.take_left]
            exact hfl.append hD⟩⟩
        exact ⟨_, _, _, _, _, hrun, hst, by simp only [Den]; exact ⟨⟨r.blk, r.cap, i.size⟩, _, by rw [List.getElem?_append_right (by rw [hi.len]; exact Nat.le_refl _)]; simp [hi.len], rfl, by simp, hroom, by simp⟩, hK⟩
    · have hEd : Elems E W i.size (.slice ad hi' r.cap) (l.take hi') := by
        have := srcV_ok (kb := kb) (x := .sl j 0 hi') (sz := some i.size) (p := hi' ≤ l.length) (xs := (l.take hi').drop 0) (by simp only [srcV, hl]) hle hi (y := .slice ad hi' r.cap)
          (by simp only [Den]; exact ⟨r, ad, hr, by simp, Nat.zero_le _, g2, fun h => by rw [g3 h, Nat.zero_mul]⟩) (s := i.size) (by simp [szFits])
        simpa using this
      obtain ⟨olds, _, hold, hDo⟩ := hEd.first (P := P) (l.take hi').length (Nat.le_refl _)
      rw [List.take_length] at hDo
      have hthl : (l.take hi').length = hi' := by simp; omega
      rw [hthl] at hold
      have hol : olds.length = hi' * i.size := by rw [hDo.len, flat_len (k2.take hi'), hthl]
      obtain ⟨cap, arr, hrun, c1, c2, c3, c4⟩ := run_append_new ht hu hinf hz h1 h2 hzs W hold hol hs (by omega) hb ty
      have hst := (Inv.drew hi).trans ((Inv.drew hi).inv.renew (W' := W.drew.alloc (.cells arr ty')) (r' := ⟨W.heap.size, cap, i.size⟩) (o' := .row ty' i.size (l.take hi' ++ xs)) hr hl rfl rfl rfl (by simp)
        (fun b hb _ => by show (W.heap.push _)[b]? = _; rw [Array.getElem?_push, if_neg (by have : b < W.heap.size := hb; omega)]; rfl) (fun b hb => .inr (by rw [hb.2]; exact Nat.le_refl _)) (hnew (ys := olds ++ ys) hwt (by rw [hlen]; exact c1) c2 c3 (by rw [hlen]; exact c4) (by rw [List.flatten_append]; exact hDo.append hD)))
      exact ⟨_, _, _, _, _, hrun, hst, by simp only [Den]; exact ⟨⟨W.heap.size, cap, i.size⟩, _, by rw [List.getElem?_append_right (by rw [hi.len]; exact Nat.le_refl _)]; simp [hi.len], rfl, by simp, c1, by simp⟩, hK⟩
end Vc
