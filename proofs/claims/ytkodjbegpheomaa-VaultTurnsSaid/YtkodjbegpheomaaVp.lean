import Derived.Test.YtkodjbegpheomaaJp
import Derived.Test.YtkodjbegpheomaaMp
namespace Go.Proofs.Ytkodjbegpheomaa
open Vc Go
set_option linter.unusedVariables false
set_option linter.unusedSimpArgs false
set_option maxRecDepth 100000
/-! Values by their keys. -/
abbrev P2 := Int × List Int
def ent2 (p : P2) : List Int × List D := ([p.1], [.sl 1 (ints .u8 p.2)])
def lo2 (x : List P2) (k : Int) : List P2 := x.filter (fun p => decide (p.1 < k))
def hi2 (x : List P2) (k : Int) : List P2 := x.filter (fun p => decide (k < p.1))
def putL (x : List P2) (k : Int) (b : List Int) : List P2 := lo2 x k ++ (k, b) :: hi2 x k
def outL (x : List P2) (k : Int) : List P2 := x.filter (fun p => decide (p.1 ≠ k))
def getP (x : List P2) (k : Int) : Option (List Int) := (x.find? (fun p => decide (p.1 = k))).map (·.2)
structure OkL (x : List P2) : Prop where
  inc : x.Pairwise (fun a b => a.1 < b.1)
  rg : ∀ p ∈ x, NumJ p.1 ∧ Byt p.2 ∧ p.2.length ≤ 900
structure Tab (M : ML) (x : List P2) : Prop extends OkL x where
  perm : M.Perm (x.map ent2)
  len : x.length ≤ 100000
/-- A change: a key, and its value or none. -/
abbrev Chg := Int × Option (List Int)
def chgW (c : Chg) : List Int := match c.2 with | some b => numW c.1 ++ numW 1 ++ textW b | none => numW c.1 ++ numW 0
def chgL (x : List P2) (c : Chg) : List P2 := match c.2 with | some b => putL x c.1 b | none => outL x c.1
structure ChgOk (c : Chg) : Prop where
  k : NumJ c.1
  b : ∀ b, c.2 = some b → Byt b ∧ b.length ≤ 900
def recP (p : P2) : List Int := numW p.1 ++ textW p.2
def recW (x : List P2) : List (List Int) := numW (x.length : Int) :: x.map recP
theorem mget_mem' : ∀ {M : ML} {k : List Int} {v : List D}, (M.map (·.1)).Nodup → (k, v) ∈ M → mget M k = some v
  | (a, c) :: M, k, v, hn, h => by
    simp only [List.map_cons, List.nodup_cons] at hn
    simp only [mget]
    rcases List.mem_cons.1 h with h | h
    · cases h; rw [if_pos rfl]
    · have hne : k ≠ a := fun e => hn.1 (List.mem_map.2 ⟨_, h, e⟩)
      rw [if_neg hne]
      exact mget_mem' hn.2 h
theorem mget_non : ∀ {M : ML} {k : List Int}, (∀ e ∈ M, e.1 ≠ k) → mget M k = none
  | [], _, _ => rfl
  | (a, c) :: M, k, h => by
    simp only [mget]
    rw [if_neg (fun e => h _ List.mem_cons_self e.symm)]
    exact mget_non fun e he => h e (List.mem_cons_of_mem _ he)
theorem mset_perm : ∀ {M : ML} {k : List Int} {v : List D}, (M.map (·.1)).Nodup → (mset M k v).Perm ((k, v) :: M.filter (fun e => decide (e.1 ≠ k)))
  | [], k, v, _ => by simp [mset]
  | (a, c) :: M, k, v, hn => by
    simp only [List.map_cons, List.nodup_cons] at hn
    simp only [mset]
    by_cases h : k = a
    · subst h
      rw [if_pos rfl]
      have : M.filter (fun e => decide (e.1 ≠ k)) = M := by
        rw [List.filter_eq_self]
        intro e he
        simp only [decide_eq_true_eq]
        exact fun e1 => hn.1 (List.mem_map.2 ⟨e, he, e1⟩)
      rw [List.filter_cons_of_neg (by simp), this]
    · rw [if_neg h, List.filter_cons_of_pos (by simpa using Ne.symm h)]
      exact ((mset_perm hn.2).cons (a, c)).trans (List.Perm.swap _ _ _)
theorem mdel_eq : ∀ {M : ML} {k : List Int}, (M.map (·.1)).Nodup → mdel M k = M.filter (fun e => decide (e.1 ≠ k))
  | [], k, _ => rfl
  | (a, c) :: M, k, hn => by
    simp only [List.map_cons, List.nodup_cons] at hn
    simp only [mdel]
    by_cases h : k = a
    · subst h
      rw [if_pos rfl, List.filter_cons_of_neg (by simp)]
      symm
      rw [List.filter_eq_self]
      intro e he
      simp only [decide_eq_true_eq]
      exact fun e1 => hn.1 (List.mem_map.2 ⟨e, he, e1⟩)
    · rw [if_neg h, List.filter_cons_of_pos (by simpa using Ne.symm h), mdel_eq hn.2]
theorem filt_ent {x : List P2} {k : Int} : (x.map ent2).filter (fun q => decide (q.1 ≠ [k])) = (outL x k).map ent2 := by
  unfold outL
  rw [List.filter_map]
  congr 1
  apply List.filter_congr
  intro p _
  simp [ent2]
theorem putL_perm {x : List P2} {k : Int} {b : List Int} : (putL x k b).Perm ((k, b) :: outL x k) := by
  have h1 := List.filter_append_perm (fun p : P2 => decide (p.1 < k)) (outL x k)
  have e1 : (outL x k).filter (fun p : P2 => decide (p.1 < k)) = lo2 x k := by
    unfold outL lo2
    rw [List.filter_filter]
    apply List.filter_congr
    intro p _
    by_cases h : p.1 < k
    · have : p.1 ≠ k := by omega
      simp [h, this]
    · simp [h]
  have e2 : (outL x k).filter (fun p : P2 => !decide (p.1 < k)) = hi2 x k := by
    unfold outL hi2
    rw [List.filter_filter]
    apply List.filter_congr
    intro p _
    by_cases h : k < p.1
    · have h1 : p.1 ≠ k := by omega
      have h2 : ¬ p.1 < k := by omega
      simp [h, h1, h2]
    · by_cases h2 : p.1 = k
      · simp [h2]
      · have h3 : p.1 < k := by omega
        simp [h, h3]
  rw [e1, e2] at h1
  unfold putL
  exact (List.perm_middle).trans (h1.cons _)
theorem putL_inc {x : List P2} {k : Int} {b : List Int} (h : x.Pairwise (fun a b => a.1 < b.1)) : (putL x k b).Pairwise (fun a b => a.1 < b.1) := by
  unfold putL
  refine List.pairwise_append.2 ⟨h.filter _, List.pairwise_cons.2 ⟨fun q hq => ?_, h.filter _⟩, fun a ha b hb => ?_⟩
  · have := (List.mem_filter.1 hq).2
    simp only [decide_eq_true_eq] at this
    exact this
  · have h1 := (List.mem_filter.1 ha).2
    simp only [decide_eq_true_eq] at h1
    rcases List.mem_cons.1 hb with rfl | hb
    · exact h1
    · have h2 := (List.mem_filter.1 hb).2
      simp only [decide_eq_true_eq] at h2
      omega
theorem outL_len {x : List P2} {k : Int} : (outL x k).length ≤ x.length := List.length_filter_le ..
theorem putL_len {x : List P2} {k : Int} {b : List Int} : (putL x k b).length ≤ x.length + 1 := by
  rw [putL_perm.length_eq, List.length_cons]; have := outL_len (x := x) (k := k); omega
theorem OkL.put {x : List P2} {k : Int} {b : List Int} (h : OkL x) (hk : NumJ k) (hb : Byt b ∧ b.length ≤ 900) : OkL (putL x k b) :=
  ⟨putL_inc h.inc, fun p hp => by
    rcases List.mem_cons.1 (putL_perm.mem_iff.1 hp) with rfl | hp
    · exact ⟨hk, hb⟩
    · exact h.rg p (List.mem_filter.1 hp).1⟩
theorem OkL.out {x : List P2} {k : Int} (h : OkL x) : OkL (outL x k) := ⟨h.inc.filter _, fun p hp => h.rg p (List.mem_filter.1 hp).1⟩
theorem okL_nil : OkL [] := ⟨List.Pairwise.nil, fun p hp => (by cases hp)⟩
theorem OkL.chg {x : List P2} {c : Chg} (h : OkL x) (hc : ChgOk c) : OkL (chgL x c) := by
  obtain ⟨k, _ | b⟩ := c
  · exact h.out
  · exact h.put hc.k (hc.b b rfl)
theorem chgL_len {x : List P2} {c : Chg} : (chgL x c).length ≤ x.length + 1 := by
  obtain ⟨k, _ | b⟩ := c
  · have := outL_len (x := x) (k := k); show (outL x k).length ≤ _; omega
  · exact putL_len
theorem tab_nil : Tab [] [] := ⟨okL_nil, List.Perm.refl _, by simp⟩
theorem tab_nd {M : ML} {x : List P2} (h : Tab M x) : (M.map (·.1)).Nodup := by
  have h1 : (M.map (·.1)).Perm ((x.map ent2).map (·.1)) := h.perm.map _
  refine h1.nodup_iff.2 ?_
  rw [List.map_map]
  exact List.pairwise_map.2 (h.inc.imp fun hlt e => by simp [ent2] at e; omega)
theorem getP_some {x : List P2} {k : Int} {b : List Int} (h : getP x k = some b) : (k, b) ∈ x := by
  unfold getP at h
  simp only [Option.map_eq_some_iff] at h
  obtain ⟨p, hp, rfl⟩ := h
  have h1 := List.find?_some hp
  simp only [decide_eq_true_eq] at h1
  rw [← h1]
  exact List.mem_of_find?_eq_some hp
theorem getP_none {x : List P2} {k : Int} (h : getP x k = none) : ∀ p ∈ x, p.1 ≠ k := fun p hp => by
  unfold getP at h
  simp only [Option.map_eq_none_iff, List.find?_eq_none, decide_eq_true_eq] at h
  exact h p hp
theorem getP_of {x : List P2} (h : x.Pairwise (fun a b => a.1 < b.1)) {p : P2} (hp : p ∈ x) : getP x p.1 = some p.2 := by
  cases hg : getP x p.1 with
  | none => exact absurd rfl (getP_none hg p hp)
  | some b =>
    have h1 := getP_some hg
    have : (p.1, b) = p := by
      induction h with
      | nil => cases hp
      | cons ha _ ih =>
        rcases List.mem_cons.1 h1 with h2 | h2 <;> rcases List.mem_cons.1 hp with h3 | h3
        · rw [h2, ← h3]
        · have := ha p h3; rw [← h2] at this; simp only at this; omega
        · have := ha _ h2; rw [← h3] at this; simp only at this; omega
        · unfold getP at hg ih
          rw [List.find?_cons] at hg
          split at hg
          · rename_i ht
            simp only [decide_eq_true_eq] at ht
            have := ha p h3; omega
          · exact ih h3 hg h2
    rw [← this]
theorem tbl_get {M : ML} {x : List P2} (h : Tab M x) (k : Int) : mget M [k] = (getP x k).map fun b => [.sl 1 (ints .u8 b)] := by
  cases hc : getP x k with
  | none =>
    refine mget_non fun e he e1 => ?_
    obtain ⟨p, hp, rfl⟩ := List.mem_map.1 (h.perm.mem_iff.1 he)
    simp only [ent2, List.cons.injEq, and_true] at e1
    exact getP_none hc p hp e1
  | some b => exact mget_mem' (tab_nd h) (h.perm.mem_iff.2 (List.mem_map.2 ⟨(k, b), getP_some hc, rfl⟩))
theorem tab_keys {M : ML} {x : List P2} (h : Tab M x) : KeysOk M ∧ sortI (Vc.keysM M) = x.map (·.1) ∧ M.length = x.length := by
  have hl : M.length = x.length := by rw [h.perm.length_eq, List.length_map]
  refine ⟨⟨fun e he => ?_, tab_nd h, by have := h.len; omega⟩, ?_, hl⟩
  · obtain ⟨p, hp, rfl⟩ := List.mem_map.1 (h.perm.mem_iff.1 he)
    have := (h.rg p hp).1
    exact ⟨p.1, rfl, by have := this.lo; omega, by have := this.hi; omega⟩
  · have h1 : (Vc.keysM M).Perm (x.map (·.1)) := by
      unfold Vc.keysM
      have := h.perm.map (fun e : List Int × List D => e.1.headD 0)
      rw [List.map_map] at this
      exact this
    rw [sortI_perm h1]
    unfold sortI
    exact List.mergeSort_of_pairwise (List.pairwise_map.2 (h.inc.imp fun hlt => by simp only [decide_eq_true_eq]; omega))
theorem tab_put {M : ML} {x : List P2} {k : Int} {b : List Int} (h : Tab M x) (hk : NumJ k) (hb : Byt b ∧ b.length ≤ 900) (hl : x.length < 100000) : Tab (mset M [k] [.sl 1 (ints .u8 b)]) (putL x k b) := by
  refine ⟨h.toOkL.put hk hb, ?_, by have := putL_len (x := x) (k := k) (b := b); omega⟩
  have h1 := mset_perm (M := M) (k := [k]) (v := [.sl 1 (ints .u8 b)]) (tab_nd h)
  have h2 : (M.filter (fun q => decide (q.1 ≠ [k]))).Perm ((x.map ent2).filter (fun q => decide (q.1 ≠ [k]))) := h.perm.filter _
  rw [filt_ent] at h2
  exact (h1.trans (h2.cons _)).trans (putL_perm.map ent2).symm
theorem tab_out {M : ML} {x : List P2} {k : Int} (h : Tab M x) : Tab (mdel M [k]) (outL x k) := by
  refine ⟨h.toOkL.out, ?_, by have := outL_len (x := x) (k := k); have := h.len; omega⟩
  rw [mdel_eq (tab_nd h), ← filt_ent]
  exact h.perm.filter _
theorem tab_has {M : ML} {x : List P2} (h : Tab M x) (k : Int) : mhas M [k] = (getP x k).isSome ∧ mgetS M [k] 0 = ints .u8 ((getP x k).getD []) := by
  unfold mhas mgetS
  rw [tbl_get h]
  cases getP x k <;> exact ⟨rfl, rfl⟩
/-! Records. -/
theorem form_ok {gen n : Int} {b : List Int} (hg : NumJ gen) (hn : NumJ n) (hb : b.length ≤ 980) : (formJ gen n b).2 = 0 := by
  unfold formJ
  rw [if_neg (by rintro (q | q); exact q hg; exact q hn), if_neg (by
    have := bodyJ_le gen n b; have := bodyJ_len gen n b; unfold szJ; omega)]
theorem recOk_all {gen : Int} (hg : NumJ gen) : ∀ {n : Nat} {ts : List (List Int)}, (∀ t ∈ ts, Byt t ∧ t.length ≤ 980) → n + ts.length ≤ 1000000 → RecOk gen n ts
  | _, [], _, _ => trivial
  | n, t :: ts, h, hn => by
    rw [List.length_cons] at hn
    exact ⟨⟨form_ok hg ⟨by omega, by omega⟩ (h t List.mem_cons_self).2, (h t List.mem_cons_self).1⟩, recOk_all hg (fun t ht => h t (List.mem_cons_of_mem _ ht)) (by omega)⟩
theorem recP_ok {p : P2} (h : NumJ p.1 ∧ Byt p.2 ∧ p.2.length ≤ 900) : Byt (recP p) ∧ (recP p).length ≤ 980 := by
  have h1 := (numW_len p.1).2
  have h2 := (textW_len p.2).2
  have h3 := h.1.hi
  refine ⟨fun c hc => ?_, by unfold recP; rw [List.length_append]; omega⟩
  rcases List.mem_append.1 hc with q | q
  · exact numW_byt (by omega) c q
  · exact textW_byt h.2.1 (by omega) c q
theorem recW_all {x : List P2} (h : OkL x) (hl : x.length ≤ 100000) : ∀ t ∈ recW x, Byt t ∧ t.length ≤ 980 := fun t ht => by
  rcases List.mem_cons.1 ht with rfl | ht
  · exact ⟨numW_byt (by omega), by have := (numW_len (x.length : Int)).2; omega⟩
  · obtain ⟨p, hp, rfl⟩ := List.mem_map.1 ht
    exact recP_ok (h.rg p hp)
theorem chgW_ok {c : Chg} (h : ChgOk c) : Byt (chgW c) ∧ (chgW c).length ≤ 980 := by
  obtain ⟨k, b⟩ := c
  have h1 := (numW_len k).2
  have h3 := h.k.hi
  cases b with
  | none =>
    have h2 := (numW_len 0).2
    refine ⟨fun c hc => ?_, by unfold chgW; simp only [List.length_append]; omega⟩
    rcases List.mem_append.1 hc with q | q
    · exact numW_byt (by omega) c q
    · exact numW_byt (by omega) c q
  | some b =>
    have h2 := (numW_len 1).2
    have h4 := (textW_len b).2
    obtain ⟨h5, h6⟩ := h.b b rfl
    refine ⟨fun c hc => ?_, by unfold chgW; simp only [List.length_append]; omega⟩
    rcases List.mem_append.1 hc with q | q
    · rcases List.mem_append.1 q with q | q
      · exact numW_byt (by omega) c q
      · exact numW_byt (by omega) c q
    · exact textW_byt h5 (by omega) c q
/-! The place of a checkpoint: a generation, and values; 0: none. -/
structure Pl (n : Nat) (g : Nat) (l : List P2) (P : List (List Int)) : Prop where
  n1 : 1 ≤ n
  len : P.length = n
  sec : ∀ b ∈ P, b.length = 64 ∧ Byt b
  okl : OkL l
  ll : l.length ≤ n
  gb : g ≤ 100000
  gen : (rNum ((P.headD []).drop 3) 0 1099511627776).1 = g
  scan : 1 ≤ g → (scanJ P.flatten g).1 = recW l
  z : g = 0 → l = []
theorem zer_sec {n : Nat} : ∀ b ∈ zer n, b.length = 64 ∧ Byt b := fun b hb => by
  unfold zer at hb
  rw [List.eq_of_mem_replicate hb]
  refine ⟨List.length_replicate, fun c hc => ?_⟩
  rw [List.eq_of_mem_replicate hc]; omega
theorem pl_zer {n : Nat} (h : 1 ≤ n) : Pl n 0 [] (zer n) := by
  refine ⟨h, zer_len, zer_sec, okL_nil, Nat.zero_le _, Nat.zero_le _, ?_, fun q => by omega, fun _ => rfl⟩
  obtain ⟨m, rfl⟩ : ∃ m, n = m + 1 := ⟨n - 1, by omega⟩
  unfold zer
  rw [List.replicate_succ]
  rfl
theorem headB {B : List (List Int)} {l : List Int} (hB : ∀ b ∈ B, b.length = 64) (h : B.flatten = l) (hl : 64 ≤ l.length) (z : List (List Int)) : (B ++ z).headD [] = l.take 64 := by
  cases B with
  | nil => simp at h; subst h; simp at hl
  | cons b B =>
    have := hB b List.mem_cons_self
    rw [← h, List.flatten_cons, List.take_append_of_le_length (by omega), List.take_of_length_le (by omega)]
    rfl
theorem pl_lay {pre post : List (List Int)} {n g : Nat} {l : List P2} {x B : List (List Int)} (h : Lay pre post n g (recW l) x [] B B) (hn : 1 ≤ n) (hl : OkL l) (hg1 : 1 ≤ g) (hg : g ≤ 100000) : Pl n g l (B ++ zer (n - catN g 0 (recW l))) := by
  have hge := catN_ge h.rec'
  have hfit := h.fit
  have hrl : (recW l).length = l.length + 1 := by unfold recW; rw [List.length_cons, List.length_map]
  refine ⟨hn, by rw [List.length_append, h.lb, zer_len]; omega, fun b hb => ?_, hl, by omega, hg, ?_, fun _ => ?_, fun q => by omega⟩
  · rcases List.mem_append.1 hb with q | q
    · exact h.b64 b q
    · exact zer_sec b q
  · have hr0 := h.rec'
    unfold recW at hr0
    obtain ⟨r1, r2, r3, r4⟩ := formJ_some hr0.1.1
    have hsz := formJ_sz hr0.1.1
    have hflat := h.flat
    have hcat : catJ g 0 (recW l) = (formJ g ((0 : Nat) : Int) (numW (l.length : Int))).1 ++ catJ g (0 + 1) (l.map recP) := rfl
    rw [headB (fun b hb => (h.b64 b hb).1) hflat (by rw [hcat, List.length_append]; omega), hcat, List.take_append_of_le_length (by omega), r4]
    have e : ∃ r, bodyJ g ((0 : Nat) : Int) (numW (l.length : Int)) = numW (g : Int) ++ r := ⟨_, by unfold bodyJ sealI; rw [List.append_assoc, List.append_assoc]⟩
    obtain ⟨r, hr⟩ := e
    have h9 := (numW_len (g : Int)).2
    unfold rawJ
    rw [hr, List.append_assoc]
    show (rNum (List.take 61 (numW (g : Int) ++ _)) 0 1099511627776).1 = g
    rw [List.take_append, List.take_of_length_le (by omega), rNum_app (by omega) (by omega) (by omega)]
  · have := h.scan
    rw [h.fl] at this
    have e : (B ++ zer (n - catN g 0 (recW l))).flatten = catJ g 0 (recW l) ++ List.replicate (64 * (n - catN g 0 (recW l))) 0 := by rw [List.flatten_append, h.flat, zer_flat]
    rw [e, this]
/-! A vault on a device. -/
structure VJ (N gen : Nat) (l : List P2) (u m : Nat) (x P0 P1 B : List (List Int)) (g0 g1 : Nat) (l0 l1 : List P2) (cs : List Chg) : Prop where
  N8 : 8 ≤ N
  N4 : N ≤ 4096
  p0 : Pl (N / 4) g0 l0 P0
  p1 : Pl (N / 4) g1 l1 P1
  jl : Lay (P0 ++ P1) [] (N - 2 * (N / 4)) gen (cs.map chgW) x [] B B
  cok : ∀ c ∈ cs, ChgOk c
  sel : (gen = 0 ∧ g0 = 0 ∧ g1 = 0) ∨ (gen % 2 = 1 ∧ g0 = gen ∧ g1 < gen) ∨ (gen % 2 = 0 ∧ g1 = gen ∧ g0 < gen)
  hl : l = cs.foldl chgL (if gen % 2 = 1 then l0 else l1)
  hm : m = cs.length
  hu : u = catN gen 0 (cs.map chgW)
  hg : gen ≤ 1000
def VI (N gen : Nat) (l : List P2) (u m : Nat) (x : List (List Int)) : Prop := ∃ P0 P1 B g0 g1 l0 l1 cs, VJ N gen l u m x P0 P1 B g0 g1 l0 l1 cs
theorem foldl_chg {l : List P2} (h : OkL l) : ∀ {cs : List Chg}, (∀ c ∈ cs, ChgOk c) → OkL (cs.foldl chgL l) ∧ (cs.foldl chgL l).length ≤ l.length + cs.length := by
  intro cs
  induction cs generalizing l with
  | nil => intro _; exact ⟨h, Nat.le_refl _⟩
  | cons c cs ih =>
    intro hc
    obtain ⟨h1, h2⟩ := ih (h.chg (hc c List.mem_cons_self)) (fun d hd => hc d (List.mem_cons_of_mem _ hd))
    refine ⟨h1, ?_⟩
    have := chgL_len (x := l) (c := c)
    rw [List.foldl_cons, List.length_cons]; omega
theorem VJ.base {N gen : Nat} {l : List P2} {u m : Nat} {x P0 P1 B : List (List Int)} {g0 g1 : Nat} {l0 l1 : List P2} {cs : List Chg} (h : VJ N gen l u m x P0 P1 B g0 g1 l0 l1 cs) : OkL (if gen % 2 = 1 then l0 else l1) ∧ (if gen % 2 = 1 then l0 else l1).length ≤ N := by
  have h0 := h.p0.ll
  have h1 := h.p1.ll
  split
  · exact ⟨h.p0.okl, by omega⟩
  · exact ⟨h.p1.okl, by omega⟩
structure VB (N gen : Nat) (l : List P2) (u m : Nat) (x : List (List Int)) : Prop where
  N8 : 8 ≤ N
  N4 : N ≤ 4096
  xl : x.length = N
  sec : Sec64 x
  byt : ∀ b ∈ x, Byt b
  okl : OkL l
  ll : l.length ≤ 9000
  um : m ≤ u
  uk : u ≤ N - 2 * (N / 4)
  hg : gen ≤ 1000
theorem VJ.b {N gen : Nat} {l : List P2} {u m : Nat} {x P0 P1 B : List (List Int)} {g0 g1 : Nat} {l0 l1 : List P2} {cs : List Chg} (h : VJ N gen l u m x P0 P1 B g0 g1 l0 l1 cs) : VB N gen l u m x := by
  have h4 := h.N4
  have h0 := h.p0.len
  have h1 := h.p1.len
  have hge := catN_ge h.jl.rec'
  have hfit := h.jl.fit
  rw [List.length_map] at hge
  obtain ⟨b1, b2⟩ := h.base
  obtain ⟨f1, f2⟩ := foldl_chg b1 h.cok
  have hpre : ∀ b ∈ P0 ++ P1, b.length = 64 ∧ Byt b := fun b hb => (List.mem_append.1 hb).elim (h.p0.sec b) (h.p1.sec b)
  have hs := h.jl.sec (fun b hb => (hpre b hb).1) (fun b hb => (by cases hb)) (by rw [List.length_append, List.length_nil]; omega)
  have hlx : x.length = N := by
    rw [h.jl.x, List.length_append, List.length_append, List.length_append, List.length_append, h.jl.lb, zer_len, List.length_nil]
    omega
  have e1 := h.hm
  have e2 := h.hu
  exact ⟨h.N8, h4, hlx, hs.toSec64, h.jl.byt (fun b hb => (hpre b hb).2) (fun b hb => (by cases hb)), by rw [h.hl]; exact f1, by rw [h.hl]; omega, by omega, by omega, h.hg⟩
theorem VI.b {N gen : Nat} {l : List P2} {u m : Nat} {x : List (List Int)} (h : VI N gen l u m x) : VB N gen l u m x := by
  obtain ⟨_, _, _, _, _, _, _, _, h⟩ := h
  exact h.b
theorem zer_app (a b : Nat) : zer a ++ zer b = zer (a + b) := by unfold zer; rw [List.replicate_append_replicate]
theorem vi_new {N : Nat} (h8 : 8 ≤ N) (h4 : N ≤ 4096) : VI N 0 [] 0 0 (zer N) := by
  refine ⟨zer (N / 4), zer (N / 4), [], 0, 0, [], [], [], h8, h4, pl_zer (by omega), pl_zer (by omega), ?_, fun c hc => (by cases hc), .inl ⟨rfl, rfl, rfl⟩, rfl, rfl, rfl, by omega⟩
  have := lay_nil (zer (N / 4) ++ zer (N / 4)) [] (N - 2 * (N / 4)) ((0 : Nat) : Int)
  rw [List.append_nil, zer_app, zer_app, show N / 4 + N / 4 + (N - 2 * (N / 4)) = N by omega] at this
  rw [zer_app]
  exact this
/-- How many sectors a change has. -/
def szc (gen m : Nat) (c : Chg) : Nat := (formJ gen m (chgW c)).1.length / 64
def addX (x : List (List Int)) (a : Nat) (gen m : Nat) (c : Chg) : List (List Int) := putJ x a (0 :: (formJ gen m (chgW c)).1.tail) (szc gen m c)
def addG (a : Nat) (gen m : Nat) (c : Chg) : List Bg := [((a : Nat), (formJ gen m (chgW c)).1.take 64)]
theorem VI.add {N gen : Nat} {l : List P2} {u m : Nat} {x : List (List Int)} {c : Chg} (h : VI N gen l u m x) (hc : ChgOk c) (hu : u + szc gen m c ≤ N - 2 * (N / 4)) :
    Sec64 (addX x (2 * (N / 4) + u) gen m c) ∧ (addX x (2 * (N / 4) + u) gen m c).length = N ∧ BgOk (addX x (2 * (N / 4) + u) gen m c) (addG (2 * (N / 4) + u) gen m c) ∧ VI N gen (chgL l c) (u + szc gen m c) (m + 1) (flsJ (addX x (2 * (N / 4) + u) gen m c) (addG (2 * (N / 4) + u) gen m c)) := by
  obtain ⟨P0, P1, B, g0, g1, l0, l1, cs, h⟩ := h
  have hb := h.b
  have h4 := h.N4
  have h0 := h.p0.len
  have h1 := h.p1.len
  have e1 : m = (cs.map chgW).length := by rw [List.length_map]; exact h.hm
  have e2 := h.hu
  have hgn : gen ≤ 1000 := h.hg
  have hum := hb.um
  have huk := hb.uk
  have hpl : (P0 ++ P1).length = 2 * (N / 4) := by rw [List.length_append]; omega
  obtain ⟨c1, c2⟩ := chgW_ok hc
  have hf : (formJ gen (cs.map chgW).length (chgW c)).2 = 0 := form_ok ⟨by omega, by omega⟩ ⟨by omega, by omega⟩ c2
  unfold szc at hu
  rw [e1, e2] at hu
  obtain ⟨A', B', hL⟩ := h.jl.add hf c1 hu
  rw [hpl, ← e2, ← e1] at hL
  have hxl : (addX x (2 * (N / 4) + u) gen m c).length = N := by unfold addX; rw [putJ_len]; exact hb.xl
  have hpre : ∀ b ∈ P0 ++ P1, b.length = 64 ∧ Byt b := fun b hb => (List.mem_append.1 hb).elim (h.p0.sec b) (h.p1.sec b)
  have hs : Prt (addX x (2 * (N / 4) + u) gen m c) _ _ := hL.sec (fun b hb => (hpre b hb).1) (fun b hb => (by cases hb)) (by rw [hpl, List.length_nil]; omega)
  refine ⟨hs.toSec64, hxl, ⟨fun p hp => ?_, by unfold addG; simp⟩, P0, P1, B', g0, g1, l0, l1, cs ++ [c], h.N8, h4, h.p0, h.p1, ?_, ?_, h.sel, ?_, ?_, ?_, h.hg⟩
  · have h7 := hL.gs p (by rw [List.nil_append]; exact hp)
    have h8 := hL.fit
    rw [hxl]
    exact ⟨h7.1, by rw [hpl] at h7; omega, h7.2.2⟩
  · rw [List.map_append]
    exact hL.flush
  · intro d hd
    rcases List.mem_append.1 hd with q | q
    · exact h.cok d q
    · rw [List.mem_singleton] at q; rw [q]; exact hc
  · rw [List.foldl_append, ← h.hl]; rfl
  · rw [List.length_append, List.length_singleton, h.hm]
  · rw [List.map_append, List.map_singleton, catN_snoc, ← e2, Nat.zero_add, ← e1]; rfl
/-! The turn. -/
def placeA (N gen : Nat) : Nat := gen % 2 * (N / 4)
theorem VI.cut {N gen : Nat} {l : List P2} {u m : Nat} {x : List (List Int)} (h : VI N gen l u m x) : ∃ pre P post, x = pre ++ (P ++ post) ∧ pre.length = placeA N gen ∧ P.length = N / 4 ∧ (∀ b ∈ pre, b.length = 64 ∧ Byt b) ∧ (∀ b ∈ post, b.length = 64 ∧ Byt b) ∧
    ∀ x' B' l', Lay pre post (N / 4) ((gen + 1 : Nat) : Int) (recW l') x' [] B' B' → OkL l' → gen < 1000 → Sec64 x' ∧ x'.length = N ∧ (∀ b ∈ x', Byt b) ∧ scanJ (flJ x' (2 * (N / 4)) (N - 2 * (N / 4))) ((gen + 1 : Nat) : Int) = ([], 0) ∧ VI N (gen + 1) l' 0 0 (swX x' (2 * (N / 4) + 0) (N - 2 * (N / 4) - 0)) := by
  obtain ⟨P0, P1, B, g0, g1, l0, l1, cs, h⟩ := h
  have hb := h.b
  have h4 := h.N4
  have h8 := h.N8
  have h0 := h.p0.len
  have h1 := h.p1.len
  have hpl : (P0 ++ P1).length = 2 * (N / 4) := by rw [List.length_append]; omega
  have hfit := h.jl.fit
  have hjs : ∀ b ∈ B ++ zer (N - 2 * (N / 4) - catN gen 0 (cs.map chgW)), b.length = 64 ∧ Byt b := fun b hb => (List.mem_append.1 hb).elim (h.jl.b64 b) (zer_sec b)
  have hjlen : (B ++ zer (N - 2 * (N / 4) - catN gen 0 (cs.map chgW))).length = N - 2 * (N / 4) := by rw [List.length_append, h.jl.lb, zer_len]; omega
  have hscan := h.jl.scanO (gen' := ((gen + 1 : Nat) : Int)) (by omega)
  rw [h.jl.fl] at hscan
  have hx := h.jl.x
  rw [List.append_nil] at hx
  have hfl : (B ++ zer (N - 2 * (N / 4) - catN gen 0 (cs.map chgW))).flatten = catJ gen 0 (cs.map chgW) ++ List.replicate (64 * (N - 2 * (N / 4) - catN gen 0 (cs.map chgW))) 0 := by rw [List.flatten_append, h.jl.flat, zer_flat]
  generalize hJ : B ++ zer (N - 2 * (N / 4) - catN gen 0 (cs.map chgW)) = J at *
  rw [← hfl] at hscan
  have key : ∀ (Q0 Q1 x' : List (List Int)) (h0 h1 : Nat) (m0 m1 : List P2), x' = (Q0 ++ Q1) ++ J → Pl (N / 4) h0 m0 Q0 → Pl (N / 4) h1 m1 Q1 → gen < 1000 → ((gen + 1) % 2 = 1 ∧ h0 = gen + 1 ∧ h1 < gen + 1) ∨ ((gen + 1) % 2 = 0 ∧ h1 = gen + 1 ∧ h0 < gen + 1) →
      Sec64 x' ∧ x'.length = N ∧ (∀ b ∈ x', Byt b) ∧ scanJ (flJ x' (2 * (N / 4)) (N - 2 * (N / 4))) ((gen + 1 : Nat) : Int) = ([], 0) ∧ VI N (gen + 1) (if (gen + 1) % 2 = 1 then m0 else m1) 0 0 (swX x' (2 * (N / 4) + 0) (N - 2 * (N / 4) - 0)) := by
    intro Q0 Q1 x' k0 k1 m0 m1 ex hq0 hq1 hg hsel
    have hql : (Q0 ++ Q1).length = 2 * (N / 4) := by rw [List.length_append, hq0.len, hq1.len]; omega
    have hxl : x'.length = N := by rw [ex, List.length_append, hql, hjlen]; omega
    have hall : ∀ b ∈ x', b.length = 64 ∧ Byt b := fun b hb => by
      rw [ex] at hb
      rcases List.mem_append.1 hb with q | q
      · exact (List.mem_append.1 q).elim (hq0.sec b) (hq1.sec b)
      · exact hjs b q
    refine ⟨⟨by omega, fun b hb => (hall b hb).1⟩, hxl, fun b hb => (hall b hb).2, ?_, Q0, Q1, [], k0, k1, m0, m1, [], h8, h4, hq0, hq1, ?_, fun c hc => (by cases hc), ?_, rfl, rfl, rfl, by omega⟩
    · unfold flJ
      rw [ex, ← hql, List.drop_left, List.take_of_length_le (by rw [hql]; omega)]
      exact hscan
    · have e : swX x' (2 * (N / 4) + 0) (N - 2 * (N / 4) - 0) = (Q0 ++ Q1) ++ (zer (N - 2 * (N / 4)) ++ []) := by
        unfold swX
        rw [Nat.add_zero, Nat.sub_zero, List.drop_eq_nil_of_le (by omega), ex, ← hql, List.take_left, List.append_nil, List.append_nil]
      rw [e]
      exact lay_nil _ _ _ _
    · rcases hsel with q | q
      · exact .inr (.inl q)
      · exact .inr (.inr q)
  by_cases hp : gen % 2 = 0
  · refine ⟨[], P0, P1 ++ J, by rw [hx, List.nil_append, List.append_assoc], by unfold placeA; rw [hp]; simp, h0, fun b hb => (by cases hb), fun b hb => (List.mem_append.1 hb).elim (h.p1.sec b) (hjs b), fun x' B' l' hL hl' hg => ?_⟩
    have hpl' := pl_lay hL h.p0.n1 hl' (by omega) (by omega)
    have ex := hL.x
    rw [List.nil_append, ← List.append_assoc, ← List.append_assoc] at ex
    have := key _ P1 x' (gen + 1) g1 l' l1 ex hpl' h.p1 hg (.inl ⟨by omega, rfl, by rcases h.sel with q | q | q <;> omega⟩)
    rw [if_pos (by omega)] at this
    exact this
  · refine ⟨P0, P1, J, by rw [hx, List.append_assoc], by unfold placeA; rw [show gen % 2 = 1 by omega]; omega, h1, h.p0.sec, hjs, fun x' B' l' hL hl' hg => ?_⟩
    have hpl' := pl_lay hL h.p1.n1 hl' (by omega) (by omega)
    have ex := hL.x
    rw [← List.append_assoc B', ← List.append_assoc] at ex
    have := key P0 _ x' g0 (gen + 1) l0 l' ex h.p0 hpl' hg (.inr ⟨by omega, rfl, by rcases h.sel with q | q | q <;> omega⟩)
    rw [if_neg (by omega)] at this
    exact this
end Go.Proofs.Ytkodjbegpheomaa
