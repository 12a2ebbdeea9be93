import Derived.Test.YtkodjbegpheomaaJh
namespace Go.Proofs.Ytkodjbegpheomaa
open Vc Go
set_option linter.unusedVariables false
set_option linter.unusedSimpArgs false
set_option maxRecDepth 100000
theorem formJ_some {gen n : Int} {b : List Int} (h : (formJ gen n b).2 = 0) : NumJ gen ∧ NumJ n ∧ szJ (bodyJ gen n b) ≤ 16 ∧ (formJ gen n b).1 = rawJ (bodyJ gen n b) := by
  unfold formJ at h ⊢
  split at h
  · exact absurd h (by decide)
  · rename_i h0
    split at h
    · exact absurd h (by decide)
    · rename_i h1
      rw [if_neg h0, if_neg h1]
      exact ⟨Decidable.byContradiction fun q => h0 (.inl q), Decidable.byContradiction fun q => h0 (.inr q), by omega, rfl⟩
theorem formJ_sz {gen n : Int} {b : List Int} (h : (formJ gen n b).2 = 0) : (formJ gen n b).1.length / 64 = szJ (bodyJ gen n b) ∧ (formJ gen n b).1.length = 64 * szJ (bodyJ gen n b) ∧ 1 ≤ szJ (bodyJ gen n b) := by
  rw [(formJ_some h).2.2.2, rawJ_len]
  refine ⟨by omega, rfl, ?_⟩
  unfold szJ; omega
theorem bodyJ_byt {gen n : Int} {b : List Int} (hg : gen ≤ 9223372036854775807) (hn : n ≤ 9223372036854775807) (hb : Byt b) (hl : (b.length : Int) ≤ 9223372036854775807) : Byt (bodyJ gen n b) := by
  refine sealI_byt fun c hc => ?_
  rcases List.mem_append.1 hc with hc | hc
  · rcases List.mem_append.1 hc with hc | hc
    · exact numW_byt hg c hc
    · exact numW_byt hn c hc
  · exact textW_byt hb hl c hc
theorem rawJ_byt {r : List Int} (h : Byt r) (hl : r.length ≤ 65535) : Byt (rawJ r) := by
  intro c hc
  unfold rawJ at hc
  simp only [List.mem_cons, List.mem_append] at hc
  rcases hc with rfl | rfl | rfl | hc | hc
  · omega
  · omega
  · omega
  · exact h c hc
  · rw [List.eq_of_mem_replicate hc]; omega
theorem szJ_len {r : List Int} (h : szJ r ≤ 16) : r.length ≤ 1021 := by unfold szJ at h; omega
theorem formJ_byt {gen n : Int} {b : List Int} (h : (formJ gen n b).2 = 0) (hb : Byt b) : Byt (formJ gen n b).1 := by
  obtain ⟨h1, h2, h3, h4⟩ := formJ_some h
  have := szJ_len h3
  have h5 : b.length ≤ 1021 := by
    have : (bodyJ gen n b).length = (numW gen ++ numW n ++ textW b).length + 4 := bodyJ_len gen n b
    have : b.length ≤ (textW b).length := by unfold textW; rw [List.length_append]; omega
    simp only [List.length_append] at *
    omega
  rw [h4]
  exact rawJ_byt (bodyJ_byt (by have := h1.hi; omega) (by have := h2.hi; omega) hb (by omega)) (by omega)
theorem formJ_text {gen n : Int} {b : List Int} (h : (formJ gen n b).2 = 0) : b.length ≤ 1021 := by
  obtain ⟨h1, h2, h3, h4⟩ := formJ_some h
  have := szJ_len h3
  have : (bodyJ gen n b).length = (numW gen ++ numW n ++ textW b).length + 4 := bodyJ_len gen n b
  have : b.length ≤ (textW b).length := by unfold textW; rw [List.length_append]; omega
  simp only [List.length_append] at *
  omega
/-- A form at the beginning of bytes. -/
theorem raw_CA {r rest : List Int} (h : szJ r ≤ 16) : CA (rawJ r ++ rest) (szJ r) r.length ∧ ((rawJ r ++ rest).drop 3).take r.length = r ∧ isAll (tailJ (rawJ r ++ rest)) = true := by
  have hl := szJ_len h
  have e0 : rawJ r ++ rest = 1 :: ((r.length % 256 : Nat) : Int) :: ((r.length / 256 : Nat) : Int) :: (r ++ (List.replicate (64 * szJ r - 3 - r.length) 0 ++ rest)) := by
    unfold rawJ; simp only [List.cons_append, List.append_assoc]
  have ej : jlong (rawJ r ++ rest) = r.length := by
    unfold jlong
    rw [e0]
    simp only [List.getD_cons_succ, List.getD_cons_zero]
    omega
  have es : jsize (rawJ r ++ rest) = szJ r := by unfold jsize szJ; rw [ej]
  have hlen : (rawJ r ++ rest).length = 64 * szJ r + rest.length := by rw [List.length_append, rawJ_len]
  have hfit : 3 + r.length ≤ 64 * szJ r := by unfold szJ; omega
  refine ⟨⟨by omega, by rw [e0]; rfl, es.symm, ej.symm, h, by omega⟩, ?_, ?_⟩
  · rw [e0]
    show List.take r.length (r ++ _) = r
    rw [List.take_left]
  · rw [allZ]
    unfold tailJ
    rw [es, ej]
    intro c hc
    have : List.drop (3 + r.length) (List.take (szJ r * 64) (rawJ r ++ rest)) = List.replicate (64 * szJ r - 3 - r.length) 0 := by
      rw [List.take_append_of_le_length (by rw [rawJ_len]; omega), List.take_of_length_le (by rw [rawJ_len]; omega)]
      unfold rawJ
      rw [show 3 + r.length = r.length + 3 by omega]
      simp only [List.drop_succ_cons]
      rw [List.drop_left]
    rw [this] at hc
    exact List.eq_of_mem_replicate hc
theorem finJ_body {gen n gen' n' : Int} {b : List Int} {s : Nat} (hg : NumJ gen) (hn : NumJ n) (hb : b.length ≤ 1021) : finJ (numW gen ++ numW n ++ textW b) gen' n' s = if gen = gen' ∧ n = n' then some (b, s) else none := by
  have g1 := hg.lo; have g2 := hg.hi; have n1 := hn.lo; have n2 := hn.hi
  have r1 : rNum (numW gen ++ numW n ++ textW b) 0 1099511627776 = (gen, (numW gen).length, 0) := by
    rw [List.append_assoc]; exact rNum_app (by omega) (by omega) (by omega) _
  have d1 : List.drop (numW gen).length (numW gen ++ numW n ++ textW b) = numW n ++ textW b := by rw [List.append_assoc, List.drop_left]
  have r2 : rNum (numW n ++ textW b) 0 1099511627776 = (n, (numW n).length, 0) := rNum_app (by omega) (by omega) (by omega) _
  have d2 : List.drop (numW n).length (numW n ++ textW b) = textW b := List.drop_left ..
  have r3 : rText (textW b) 0 ((numW gen ++ numW n ++ textW b).length : Int) = (b, (textW b).length, 0) := by
    have := rText_app (b := b) (most := ((numW gen ++ numW n ++ textW b).length : Int)) (by simp only [List.length_append, textW]; omega) (by omega) []
    rwa [List.append_nil] at this
  have d3 : List.drop ((numW gen).length + (numW n).length + (textW b).length) (numW gen ++ numW n ++ textW b) = [] := List.drop_eq_nil_of_le (by simp only [List.length_append]; omega)
  unfold finJ
  simp only [r1, d1, r2, d2, r3, d3]
  by_cases h : gen = gen' ∧ n = n'
  · rw [if_pos h, if_pos ⟨by simp [rEnd], h⟩]
  · rw [if_neg h, if_neg (fun q => h q.2)]
theorem readJ_form {gen n gen' n' : Int} {b : List Int} (h : (formJ gen n b).2 = 0) (rest : List Int) : readJ ((formJ gen n b).1 ++ rest) gen' n' = if gen = gen' ∧ n = n' then some (b, (formJ gen n b).1.length / 64) else none := by
  obtain ⟨h1, h2, h3, h4⟩ := formJ_some h
  obtain ⟨c1, c2, c3⟩ := raw_CA (rest := rest) h3
  rw [(formJ_sz h).1, h4, c1.read gen' n', c2]
  have : openI (bodyJ gen n b) = some (numW gen ++ numW n ++ textW b) := openI_seal
  rw [this]
  simp only [c3, if_true]
  exact finJ_body h1 h2 (formJ_text h)
theorem readJ_zero {m : Nat} {gen n : Int} : readJ (List.replicate m 0) gen n = none := by
  refine readJ_no ?_
  cases m with
  | zero => exact .inl (by simp)
  | succ m => exact .inr (.inl (by simp [List.replicate_succ]))
/-- The forms of records, one behind the other. -/
def catJ (gen : Int) : Nat → List (List Int) → List Int
  | _, [] => []
  | n, t :: ts => (formJ gen n t).1 ++ catJ gen (n + 1) ts
def catN (gen : Int) : Nat → List (List Int) → Nat
  | _, [] => 0
  | n, t :: ts => (formJ gen n t).1.length / 64 + catN gen (n + 1) ts
def RecOk (gen : Int) : Nat → List (List Int) → Prop
  | _, [] => True
  | n, t :: ts => ((formJ gen n t).2 = 0 ∧ Byt t) ∧ RecOk gen (n + 1) ts
theorem catJ_snoc (gen : Int) (t : List Int) : ∀ (n : Nat) (ts : List (List Int)), catJ gen n (ts ++ [t]) = catJ gen n ts ++ (formJ gen ((n + ts.length : Nat) : Int) t).1
  | n, [] => by simp [catJ]
  | n, a :: ts => by
    rw [List.cons_append]
    unfold catJ
    rw [catJ_snoc gen t (n + 1) ts, List.append_assoc, List.length_cons, show n + 1 + ts.length = n + (ts.length + 1) by omega]
theorem catN_snoc (gen : Int) (t : List Int) : ∀ (n : Nat) (ts : List (List Int)), catN gen n (ts ++ [t]) = catN gen n ts + (formJ gen ((n + ts.length : Nat) : Int) t).1.length / 64
  | n, [] => by simp [catN]
  | n, a :: ts => by
    rw [List.cons_append]
    unfold catN
    rw [catN_snoc gen t (n + 1) ts, List.length_cons, show n + 1 + ts.length = n + (ts.length + 1) by omega]; omega
theorem recOk_snoc {gen : Int} {t : List Int} : ∀ {n : Nat} {ts : List (List Int)}, RecOk gen n ts → (formJ gen ((n + ts.length : Nat) : Int) t).2 = 0 → Byt t → RecOk gen n (ts ++ [t])
  | n, [], _, h, hb => ⟨⟨by simpa using h, hb⟩, trivial⟩
  | n, a :: ts, hr, h, hb => by
    rw [List.cons_append]
    exact ⟨hr.1, recOk_snoc hr.2 (by rw [show n + 1 + ts.length = n + (a :: ts).length by rw [List.length_cons]; omega]; exact h) hb⟩
theorem catJ_len {gen : Int} : ∀ {n : Nat} {ts : List (List Int)}, RecOk gen n ts → (catJ gen n ts).length = 64 * catN gen n ts
  | n, [], _ => rfl
  | n, a :: ts, h => by
    unfold catJ catN
    have h1 := formJ_sz h.1.1
    rw [List.length_append, catJ_len h.2, h1.1, h1.2.1]; omega
theorem catN_ge {gen : Int} : ∀ {n : Nat} {ts : List (List Int)}, RecOk gen n ts → ts.length ≤ catN gen n ts
  | n, [], _ => Nat.zero_le _
  | n, a :: ts, h => by
    unfold catN
    have h1 := formJ_sz h.1.1
    have := catN_ge h.2
    rw [List.length_cons, h1.1]; omega
theorem scan_cat {gen : Int} {m : Nat} : ∀ (k n : Nat) (ts : List (List Int)), RecOk gen n ts → ts.length < k → scanF k (catJ gen n ts ++ List.replicate m 0) gen n = (ts, catN gen n ts)
  | 0, _, _, _, h => by omega
  | k + 1, n, [], _, _ => by
    unfold scanF
    rw [show catJ gen n [] = [] from rfl, List.nil_append, readJ_zero]; rfl
  | k + 1, n, t :: ts, h, hk => by
    unfold scanF
    unfold catJ
    rw [List.append_assoc, readJ_form h.1.1, if_pos ⟨rfl, rfl⟩]
    simp only
    have hd : List.drop (64 * ((formJ gen n t).1.length / 64)) ((formJ gen n t).1 ++ (catJ gen (n + 1) ts ++ List.replicate m 0)) = catJ gen (n + 1) ts ++ List.replicate m 0 := by
      have h1 := formJ_sz h.1.1
      rw [h1.1, ← h1.2.1, List.drop_left]
    rw [hd, scan_cat k (n + 1) ts h.2 (by rw [List.length_cons] at hk; omega)]
    rfl
theorem scan_other {gen gen' : Int} {m k n : Nat} {ts : List (List Int)} (h : RecOk gen n ts) (hne : gen ≠ gen') : scanF k (catJ gen n ts ++ List.replicate m 0) gen' n = ([], 0) := by
  cases k with
  | zero => rfl
  | succ k =>
    unfold scanF
    have : readJ (catJ gen n ts ++ List.replicate m 0) gen' n = none := by
      cases ts with
      | nil => rw [show catJ gen n [] = [] from rfl, List.nil_append]; exact readJ_zero
      | cons t ts =>
        unfold catJ
        rw [List.append_assoc, readJ_form h.1.1, if_neg (fun q => hne q.1)]
    rw [this]
/-- Bytes as sectors. -/
def chks (l : List Int) (n : Nat) : List (List Int) := (List.range n).map (chk l)
theorem chks_len (l : List Int) (n : Nat) : (chks l n).length = n := by unfold chks; rw [List.length_map, List.length_range]
theorem chks_succ (l : List Int) (n : Nat) : chks l (n + 1) = chks l n ++ [chk l n] := by unfold chks; rw [List.range_succ, List.map_append]; rfl
theorem chks_flat (l : List Int) : ∀ n, (chks l n).flatten = l.take (64 * n)
  | 0 => by simp [chks]
  | n + 1 => by
    rw [chks_succ, List.flatten_append, chks_flat l n, List.flatten_cons, List.flatten_nil, List.append_nil, Nat.mul_add, Nat.mul_one, List.take_add]
    unfold chk; rfl
theorem chks_head (a : Int) (r : List Int) (n : Nat) : chks (a :: r) (n + 1) = (a :: r.take 63) :: (List.range n).map (fun i => (r.drop (64 * i + 63)).take 64) := by
  unfold chks
  rw [List.range_succ_eq_map, List.map_cons, List.map_map]
  congr 1
theorem putJ_app (Q post : List (List Int)) (l : List Int) (m : Nat) : ∀ i, i ≤ m → putJ (Q ++ (zer m ++ post)) Q.length l i = Q ++ (chks l i ++ (zer (m - i) ++ post))
  | 0, _ => by simp [putJ, chks]
  | i + 1, hi => by
    unfold putJ
    rw [putJ_app Q post l m i (by omega), List.set_append_right _ _ (by omega), Nat.add_sub_cancel_left, List.set_append_right _ _ (by rw [chks_len]; omega), chks_len, Nat.sub_self]
    have e : zer (m - i) = List.replicate 64 0 :: zer (m - (i + 1)) := by unfold zer; rw [show m - i = m - (i + 1) + 1 by omega, List.replicate_succ]
    rw [e, List.cons_append, List.set_cons_zero, chks_succ, List.append_assoc]; rfl
/-- A part in which records stand, the first sectors of some of them being marked as not whole as yet. -/
structure Lay (pre post : List (List Int)) (k : Nat) (gen : Int) (ts : List (List Int)) (x : List (List Int)) (g : List Bg) (A B : List (List Int)) : Prop where
  x : x = pre ++ (A ++ (zer (k - catN gen 0 ts) ++ post))
  la : A.length = catN gen 0 ts
  lb : B.length = catN gen 0 ts
  fls : ∀ z, flsJ (pre ++ (A ++ z)) g = pre ++ (B ++ z)
  flat : B.flatten = catJ gen 0 ts
  b64 : ∀ b ∈ B, b.length = 64 ∧ Byt b
  a64 : ∀ b ∈ A, b.length = 64 ∧ Byt b
  fit : catN gen 0 ts ≤ k
  rec' : RecOk gen 0 ts
  gs : ∀ p ∈ g, 0 ≤ p.1 ∧ p.1 < pre.length + catN gen 0 ts ∧ p.2.length = 64
  few : g.length ≤ ts.length
theorem lay_nil (pre post : List (List Int)) (k : Nat) (gen : Int) : Lay pre post k gen [] (pre ++ (zer k ++ post)) [] [] [] :=
  ⟨by simp [catN], rfl, rfl, fun z => rfl, rfl, fun b hb => (by cases hb), fun b hb => (by cases hb), Nat.zero_le _, trivial, fun p hp => (by cases hp), Nat.le_refl _⟩
theorem zer_flat (n : Nat) : (zer n).flatten = List.replicate (64 * n) 0 := by
  induction n with
  | zero => rfl
  | succ n ih =>
    rw [zer_succ, List.flatten_append, ih, List.flatten_cons, List.flatten_nil, List.append_nil, List.replicate_append_replicate, Nat.mul_add]
theorem chks_ok {l : List Int} {n : Nat} (h : l.length = 64 * n) (hb : Byt l) : ∀ b ∈ chks l n, b.length = 64 ∧ Byt b := fun b hbm => by
  obtain ⟨i, hi, rfl⟩ := List.mem_map.1 hbm
  exact ⟨chk_len h (List.mem_range.1 hi), fun c hc => hb c (List.mem_of_mem_drop (List.mem_of_mem_take hc))⟩
theorem Lay.add {pre post : List (List Int)} {k : Nat} {gen : Int} {ts x : List (List Int)} {g : List Bg} {A B : List (List Int)} (h : Lay pre post k gen ts x g A B) {t : List Int} (hf : (formJ gen ts.length t).2 = 0) (hb : Byt t)
    (hk : catN gen 0 ts + (formJ gen ts.length t).1.length / 64 ≤ k) :
    ∃ A' B', Lay pre post k gen (ts ++ [t]) (putJ x (pre.length + catN gen 0 ts) (0 :: (formJ gen ts.length t).1.tail) ((formJ gen ts.length t).1.length / 64)) (g ++ [(((pre.length + catN gen 0 ts : Nat) : Int), (formJ gen ts.length t).1.take 64)]) A' B' := by
  obtain ⟨r, s, e1, e2, e3, e4⟩ := formJ_ok hf
  have hs : (formJ gen ts.length t).1.length / 64 = s := by rw [e1, e2]; omega
  have hcn : catN gen 0 (ts ++ [t]) = catN gen 0 ts + s := by rw [catN_snoc, Nat.zero_add, hs]
  have hbyt := formJ_byt hf hb
  rw [hs] at hk ⊢
  rw [e1] at hbyt ⊢
  have hr : (0 :: r : List Int).length = 64 * s := by rw [← e2]; rfl
  have hb0 : Byt (0 :: r) := fun c hc => by
    rcases List.mem_cons.1 hc with rfl | hc
    · omega
    · exact hbyt c (List.mem_cons_of_mem _ hc)
  obtain ⟨s', rfl⟩ : ∃ s', s = s' + 1 := ⟨s - 1, by omega⟩
  have ex : putJ x (pre.length + catN gen 0 ts) (0 :: r) (s' + 1) = pre ++ ((A ++ chks (0 :: r) (s' + 1)) ++ (zer (k - (catN gen 0 ts + (s' + 1))) ++ post)) := by
    have := putJ_app (pre ++ A) post (0 :: r) (k - catN gen 0 ts) (s' + 1) (by omega)
    rw [List.length_append, h.la] at this
    rw [h.x, ← List.append_assoc pre A, this, Nat.sub_sub, List.append_assoc, List.append_assoc]
  refine ⟨A ++ chks (0 :: r) (s' + 1), B ++ chks (1 :: r) (s' + 1), ⟨?_, ?_, ?_, fun z => ?_, ?_, ?_, ?_, ?_, ?_, ?_, ?_⟩⟩
  · rw [hcn]; exact ex
  · rw [List.length_append, h.la, chks_len, hcn]
  · rw [List.length_append, h.lb, chks_len, hcn]
  · rw [flsJ_snoc, List.append_assoc, h.fls, Int.toNat_natCast, List.set_append_right _ _ (by omega), Nat.add_sub_cancel_left, List.set_append_right _ _ (by rw [h.lb]; omega), h.lb, Nat.sub_self, chks_head, chks_head, List.append_assoc]
    show pre ++ (B ++ (List.take 64 (1 :: r) :: _)) = _
    rfl
  · rw [List.flatten_append, h.flat, chks_flat, catJ_snoc, Nat.zero_add, e1, List.take_of_length_le (by rw [e2]; omega)]
  · intro b hbm
    rcases List.mem_append.1 hbm with q | q
    · exact h.b64 b q
    · exact chks_ok e2 hbyt b q
  · intro b hbm
    rcases List.mem_append.1 hbm with q | q
    · exact h.a64 b q
    · exact chks_ok hr hb0 b q
  · rw [hcn]; exact hk
  · exact recOk_snoc h.rec' (by rw [Nat.zero_add]; exact hf) hb
  · intro p hp
    rw [hcn]
    rcases List.mem_append.1 hp with q | q
    · have := h.gs p q
      exact ⟨this.1, by omega, this.2.2⟩
    · simp only [List.mem_singleton] at q
      subst q
      exact ⟨by omega, by omega, by rw [List.length_take, e2]; omega⟩
  · have := h.few
    rw [List.length_append, List.length_append]; simp only [List.length_singleton]; omega
theorem Lay.flush {pre post : List (List Int)} {k : Nat} {gen : Int} {ts x : List (List Int)} {g : List Bg} {A B : List (List Int)} (h : Lay pre post k gen ts x g A B) : Lay pre post k gen ts (flsJ x g) [] B B :=
  ⟨by rw [h.x]; exact h.fls _, h.lb, h.lb, fun z => rfl, h.flat, h.b64, h.b64, h.fit, h.rec', fun p hp => (by cases hp), Nat.zero_le _⟩
theorem Lay.fl {pre post : List (List Int)} {k : Nat} {gen : Int} {ts x : List (List Int)} {B : List (List Int)} (h : Lay pre post k gen ts x [] B B) : flJ x pre.length k = catJ gen 0 ts ++ List.replicate (64 * (k - catN gen 0 ts)) 0 := by
  unfold flJ
  have hl : (B ++ zer (k - catN gen 0 ts)).length = k := by rw [List.length_append, h.lb, zer_len]; have := h.fit; omega
  rw [h.x, List.drop_left, ← List.append_assoc, List.take_left' hl, List.flatten_append, h.flat, zer_flat]
theorem Lay.sec {pre post : List (List Int)} {k : Nat} {gen : Int} {ts x : List (List Int)} {g : List Bg} {A B : List (List Int)} (h : Lay pre post k gen ts x g A B) (hp : ∀ b ∈ pre, b.length = 64) (hq : ∀ b ∈ post, b.length = 64) (hl : pre.length + k + post.length ≤ 4096) : Prt x pre.length k := by
  have hlen : x.length = pre.length + k + post.length := by
    rw [h.x, List.length_append, List.length_append, List.length_append, h.la, zer_len]; have := h.fit; omega
  refine ⟨⟨by omega, fun b hb => ?_⟩, by omega⟩
  rw [h.x] at hb
  rcases List.mem_append.1 hb with hb | hb
  · exact hp b hb
  · rcases List.mem_append.1 hb with hb | hb
    · exact (h.a64 b hb).1
    · rcases List.mem_append.1 hb with hb | hb
      · unfold zer at hb; rw [List.eq_of_mem_replicate hb, List.length_replicate]
      · exact hq b hb
theorem Lay.byt {pre post : List (List Int)} {k : Nat} {gen : Int} {ts x : List (List Int)} {g : List Bg} {A B : List (List Int)} (h : Lay pre post k gen ts x g A B) (hp : ∀ b ∈ pre, Byt b) (hq : ∀ b ∈ post, Byt b) : ∀ b ∈ x, Byt b := by
  intro b hb
  rw [h.x] at hb
  rcases List.mem_append.1 hb with hb | hb
  · exact hp b hb
  · rcases List.mem_append.1 hb with hb | hb
    · exact (h.a64 b hb).2
    · rcases List.mem_append.1 hb with hb | hb
      · unfold zer at hb; rw [List.eq_of_mem_replicate hb]
        intro c hc; rw [List.eq_of_mem_replicate hc]; omega
      · exact hq b hb
theorem Lay.scan {pre post : List (List Int)} {k : Nat} {gen : Int} {ts x : List (List Int)} {B : List (List Int)} (h : Lay pre post k gen ts x [] B B) : scanJ (flJ x pre.length k) gen = (ts, catN gen 0 ts) := by
  rw [h.fl]
  unfold scanJ
  exact scan_cat _ 0 ts h.rec' (by
    rw [List.length_append, catJ_len h.rec', List.length_replicate]
    have := catN_ge h.rec'
    omega)
theorem Lay.scanO {pre post : List (List Int)} {k : Nat} {gen gen' : Int} {ts x : List (List Int)} {B : List (List Int)} (h : Lay pre post k gen ts x [] B B) (hne : gen ≠ gen') : scanJ (flJ x pre.length k) gen' = ([], 0) := by
  rw [h.fl]
  exact scan_other h.rec' hne
end Go.Proofs.Ytkodjbegpheomaa
