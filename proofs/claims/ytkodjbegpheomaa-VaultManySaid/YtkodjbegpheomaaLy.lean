import Derived.Test.YtkodjbegpheomaaLb
namespace Go.Proofs.Ytkodjbegpheomaa
open Vc Go
set_option linter.unusedVariables false
set_option linter.unusedSimpArgs false
set_option maxRecDepth 100000
theorem XP_ok (N : Nat) (l : List A5) : CallOk Try.prog (XP N l) := callS_ok mixed lawS_ok _ 10
theorem keepF_cases (N : Nat) (s : VSt) (c : Chg) : ((keepF N s c).1 = 0 ∧ (keepF N s c).2.l = chgL s.l c ∧ (keepF N s c).2.gen ≤ s.gen + 1) ∨ (keepF N s c = (6, s) ∧ N / 4 < catN ((s.gen + 1 : Nat) : Int) 0 (recW (chgL s.l c))) := by
  unfold keepF
  split
  · exact .inl ⟨rfl, rfl, Nat.le_succ _⟩
  · split
    · exact .inl ⟨rfl, rfl, Nat.le_refl _⟩
    · exact .inr ⟨rfl, by omega⟩
structure AcP (N : Nat) (s : VSt) (r : AcR) : Prop where
  a1 : r.want = 0 → (r.e = 0 ∧ r.s.l = r.next) ∨ (r.e = 6 ∧ r.s = s ∧ OkL r.next ∧ r.next.length ≤ 10000 ∧ N / 4 < secL r.next)
  a2 : r.want ≠ 0 → r.e = r.want ∧ r.s.l = s.l
  a3 : r.s.gen ≤ s.gen + 1
  a4 : r.next.length ≤ 10000
theorem keep_ac {N : Nat} {s : VSt} {c : Chg} (hs : OkL s.l) (hl : s.l.length ≤ 9000) (hg : s.gen < 127) (hc : ChgOk c) : AcP N s ⟨0, (keepF N s c).1, chgL s.l c, (keepF N s c).2⟩ := by
  have hlen := chgL_len (x := s.l) (c := c)
  have hok := hs.chg hc
  rcases keepF_cases N s c with ⟨h1, h2, h3⟩ | ⟨h1, h2⟩
  · exact ⟨fun _ => .inl ⟨h1, h2⟩, fun q => absurd rfl q, h3, by show (chgL s.l c).length ≤ _; omega⟩
  · rw [secL_cat (by omega) hok (by omega)] at h2
    rw [h1]
    exact ⟨fun _ => .inr ⟨rfl, rfl, hok, by show (chgL s.l c).length ≤ _; omega, h2⟩, fun q => absurd rfl q, Nat.le_succ _, by show (chgL s.l c).length ≤ _; omega⟩
theorem actF_ac {N : Nat} {s : VSt} {a : A5} (hs : OkL s.l) (hl : s.l.length ≤ 9000) (hg : s.gen < 127) (hb : Byt a.b) : AcP N s (actF N s a) := by
  have hp := putL_len (x := s.l) (k := a.k) (b := a.b)
  have ho := outL_len (x := s.l) (k := a.k)
  unfold actF
  split
  · by_cases hk : NumJ a.k
    · rw [if_neg (fun h => h hk)]
      by_cases h9 : 900 < a.b.length
      · rw [if_pos h9]
        have e : putF N s a.k a.b = (15, s) := by unfold putF; rw [if_neg (fun h => h hk), if_pos h9]
        rw [e]
        exact ⟨fun q => (by cases q), fun _ => ⟨rfl, rfl⟩, Nat.le_succ _, by show (putL s.l a.k a.b).length ≤ _; omega⟩
      · rw [if_neg h9]
        have e : putF N s a.k a.b = keepF N s (a.k, some a.b) := by unfold putF; rw [if_neg (fun h => h hk), if_neg h9]
        rw [e]
        exact keep_ac (c := (a.k, some a.b)) hs hl hg ⟨hk, fun b' hb' => by cases hb'; exact ⟨hb, by omega⟩⟩
    · rw [if_pos hk]
      have e : putF N s a.k a.b = (5, s) := if_pos hk
      rw [e]
      exact ⟨fun q => (by cases q), fun _ => ⟨rfl, rfl⟩, Nat.le_succ _, by show (putL s.l a.k a.b).length ≤ _; omega⟩
  · split
    · by_cases hg2 : getP s.l a.k = none
      · have e : dropF N s a.k = (7, s) := if_pos hg2
        rw [if_pos hg2, e]
        exact ⟨fun q => (by cases q), fun _ => ⟨rfl, rfl⟩, Nat.le_succ _, by show (outL s.l a.k).length ≤ _; omega⟩
      · have e : dropF N s a.k = keepF N s (a.k, none) := if_neg hg2
        rw [if_neg hg2, e]
        refine keep_ac (c := (a.k, none)) hs hl hg ⟨?_, fun b' hb' => (by cases hb')⟩
        cases h : getP s.l a.k with
        | none => exact absurd h hg2
        | some b => exact (hs.rg _ (getP_some h)).1
    · exact ⟨fun _ => .inl ⟨rfl, rfl⟩, fun q => absurd rfl q, Nat.le_succ _, by show s.l.length ≤ _; omega⟩
theorem atC {N : Nat} {l : List A5} {q : PQ} (r : AcR) (hr : actF N q.s (gA l q.i) = r) {M' : ML} {x' : List (List Int)} (hv : VIs N r.s x') (hT : Tab M' r.s.l) :
    At (plC N l q) ([.dat (.sl 4 (l.map acD)), .int .i64 (N : Int), .ptr 0 0, .ptr 1 0, .int .i64 r.e, .dat (prs q.s.l), .int .i64 (q.i : Int), .dat (prs r.next), .int .i64 r.want], vauD N r.s M' x') := by
  subst hr
  exact At.mk' (⟨⟨0, M', x'⟩, ⟨hv, hT⟩⟩ : {c : VQ // PcI N (actF N q.s (gA l q.i)).s c}) rfl
theorem gA_get {l : List A5} {i : Nat} (h : i < l.length) : l[i]? = some (gA l i) := by
  unfold gA; rw [List.getD_eq_getElem?_getD, List.getElem?_eq_getElem h]; rfl
theorem conf_act {x : List D} (h : Conf [.int .i64, .int .i64, .sl [.int .u8], .sl [.int .i64]] x) : ∃ a : A5, x = acD a ∧ Byt a.b := by
  simp only [Conf, ConfD] at h
  obtain ⟨_, _, rfl, ⟨a, rfl, _⟩, _, _, rfl, ⟨b, rfl, _⟩, _, _, rfl, ⟨c, rfl, _, hc⟩, _, _, rfl, ⟨d, rfl, _, hd⟩, rfl⟩ := h
  obtain ⟨zs, rfl, hz⟩ := conf_ints hc
  obtain ⟨ws, rfl, hw⟩ := conf_ints hd
  exact ⟨⟨a, b, zs, ws⟩, rfl, fun c hc => by have := bounds_u8 (hz c hc); omega⟩
theorem byt_wf {l : List Int} (h : ∀ n ∈ l, (Lit.int .u8 n).wf = true) : Byt l := fun c hc => by have := bounds_u8 (h c hc); omega
theorem lawPlays (sc : Int) (l : List A5) (hs : 0 ≤ sc ∧ sc < 256) (hl : ∀ a ∈ l, Byt a.b) : XP (8 + sc.toNat % 57) l 5 [.int .u8 sc, .dat (.sl 4 (l.map acD))] [] KT := by
  have wN : IntKind.i64.wrap (8 + (IntKind.i64.wrap sc).tmod 57) = ((8 + sc.toNat % 57 : Nat) : Int) := by
    have e : (IntKind.i64.wrap sc).tmod 57 = ((sc.toNat % 57 : Nat) : Int) := by
      rw [w64 (n := sc) (by omega) (by omega), Int.tmod_eq_emod_of_nonneg (by omega)]; omega
    rw [e, w64 (by omega) (by omega)]; omega
  apply vcPlays sc (8 + sc.toNat % 57) l
  rw [wN]
  have hN1 : 8 ≤ 8 + sc.toNat % 57 := by omega
  have hN2 : 8 + sc.toNat % 57 < 65 := by omega
  generalize 8 + sc.toNat % 57 = N at *
  rw [Int.toNat_natCast, List.length_map]
  have hv0 : VIs N s0 (zer N) := vi_new (by omega) (by omega)
  refine ⟨fun _ => (by first | exact trivial | exact rfl), fun q1 => ⟨fun q => q ⟨by omega, by omega⟩, fun _ => ⟨N, s0, zer N, rfl, zer_len.symm, ⟨rfl, rfl⟩, hv0, fun M hM => ⟨fun q => (by cases q), fun _ => ⟨?_, ?_⟩⟩⟩⟩⟩
  · exact At.mk' (⟨⟨0, s0, M, zer N⟩, ⟨Nat.zero_le _, hv0, hM, Nat.le_refl _⟩⟩ : {q : PQ // PlI N l.length q}) rfl
  have hl60 : l.length ≤ 60 := by simp only [gt_iff_lt, decide_eq_false_iff_not] at q1; omega
  rintro ⟨⟨i, s, M1, x1⟩, hi, hv, hT, hgi⟩
  dsimp only at hi hv hT hgi ⊢
  simp only [decide_eq_true_eq, decide_eq_false_iff_not]
  refine ⟨fun hc => ?_, fun hc => (by first | exact trivial | exact rfl)⟩
  have hi2 : i < l.length := by omega
  have hbd := VI.b hv
  have hok := hbd.okl
  have hll := hbd.ll
  have hbB : Byt (gA l i).b := hl _ (List.mem_of_getElem? (gA_get hi2))
  have hac := actF_ac (N := N) hok hll (show s.gen < 127 by omega) hbB
  have hge : (l.map acD)[((i : Nat) : Int).toNat]? = some (acD (gA l i)) := by rw [Int.toNat_natCast, List.getElem?_map, gA_get hi2]; rfl
  refine ⟨nonNat i, acD (gA l i), hge, (gA l i).d, rfl, (gA l i).k, rfl, ints .u8 (gA l i).b, rfl, ints .i64 (gA l i).w, rfl, fun _ => (by first | exact trivial | exact rfl), fun q95 => ⟨fun _ => (by first | exact trivial | exact rfl), fun _ => ⟨⟨fun qd => ?_, fun qd => ⟨fun qd1 => ?_, fun qd1 => ⟨fun qd2 => ?_, fun qd2 => ?_⟩⟩⟩, ?_⟩⟩⟩
  · have hd : (gA l i).d = 0 := by simpa using qd
    have hb9 : (gA l i).b.length ≤ 950 := by rw [ints_len] at q95; omega
    have hm : s.l.length ≤ 100000 := by omega
    have put : ∀ w, (if ¬ NumJ (gA l i).k then (5 : Int) else if 900 < (gA l i).b.length then 15 else 0) = w → ∀ M' x', Tab M' (putF N s (gA l i).k (gA l i).b).2.l → VIs N (putF N s (gA l i).k (gA l i).b).2 x' → At (plC N l ⟨i, s, M1, x1⟩) ([.dat (.sl 4 (l.map acD)), .int .i64 (N : Int), .ptr 0 0, .ptr 1 0, .int .i64 (putF N s (gA l i).k (gA l i).b).1, .dat (prs s.l), .int .i64 (i : Int), .dat (prs (putL s.l (gA l i).k (gA l i).b)), .int .i64 w], vauD N (putF N s (gA l i).k (gA l i).b).2 M' x') := fun w hw M' x' t1 t2 =>
      atC (q := ⟨i, s, M1, x1⟩) ⟨w, (putF N s (gA l i).k (gA l i).b).1, putL s.l (gA l i).k (gA l i).b, (putF N s (gA l i).k (gA l i).b).2⟩ (by dsimp only; unfold actF; rw [if_pos hd, hw]) t2 t1
    rw [ints_len]
    have hw5 : (gA l i).k < 0 ∨ 1099511627776 < (gA l i).k → (if ¬ NumJ (gA l i).k then (5 : Int) else if 900 < (gA l i).b.length then 15 else 0) = 5 := fun h => if_pos (fun hk => by have := hk.lo; have := hk.hi; omega)
    have hw15 : ¬ (gA l i).k < 0 → ¬ 1099511627776 < (gA l i).k → 900 < (gA l i).b.length → (if ¬ NumJ (gA l i).k then (5 : Int) else if 900 < (gA l i).b.length then 15 else 0) = 15 := fun h1 h2 h3 => by rw [if_neg (fun h => h ⟨by omega, by omega⟩), if_pos h3]
    have hw0 : ¬ (gA l i).k < 0 → ¬ 1099511627776 < (gA l i).k → ¬ 900 < (gA l i).b.length → (if ¬ NumJ (gA l i).k then (5 : Int) else if 900 < (gA l i).b.length then 15 else 0) = 0 := fun h1 h2 h3 => by rw [if_neg (fun h => h ⟨by omega, by omega⟩), if_neg h3]
    refine ⟨s.l, (gA l i).b, rfl, rfl, hm, hok.inc, fun h9 => ⟨fun hk => ?_, fun hk => ⟨fun hk2 => ?_, fun hk2 => ?_⟩⟩, fun h9 => ⟨fun hk => ?_, fun hk => ⟨fun hk2 => ?_, fun hk2 => ?_⟩⟩⟩
    · exact ⟨N, s, x1, (gA l i).b, vin hv hT, rfl, hbB, by omega, by omega, put 5 (hw5 (.inl hk))⟩
    · exact ⟨N, s, x1, (gA l i).b, vin hv hT, rfl, hbB, by omega, by omega, put 5 (hw5 (.inr hk2))⟩
    · exact ⟨N, s, x1, (gA l i).b, vin hv hT, rfl, hbB, by omega, by omega, put 15 (hw15 (by omega) (by omega) (by omega))⟩
    · exact ⟨N, s, x1, (gA l i).b, vin hv hT, rfl, hbB, by omega, by omega, put 5 (hw5 (.inl hk))⟩
    · exact ⟨N, s, x1, (gA l i).b, vin hv hT, rfl, hbB, by omega, by omega, put 5 (hw5 (.inr hk2))⟩
    · exact ⟨N, s, x1, (gA l i).b, vin hv hT, rfl, hbB, by omega, by omega, put 0 (hw0 (by omega) (by omega) (by omega))⟩
  · have hd0 : ¬ (gA l i).d = 0 := by simpa using qd
    have hd : (gA l i).d = 1 := by simpa using qd1
    have hm : s.l.length ≤ 100000 := by omega
    have drop : ∀ w, (if getP s.l (gA l i).k = none then (7 : Int) else 0) = w → ∀ M' x', Tab M' (dropF N s (gA l i).k).2.l → VIs N (dropF N s (gA l i).k).2 x' → At (plC N l ⟨i, s, M1, x1⟩) ([.dat (.sl 4 (l.map acD)), .int .i64 (N : Int), .ptr 0 0, .ptr 1 0, .int .i64 (dropF N s (gA l i).k).1, .dat (prs s.l), .int .i64 (i : Int), .dat (prs (outL s.l (gA l i).k)), .int .i64 w], vauD N (dropF N s (gA l i).k).2 M' x') := fun w hw M' x' t1 t2 =>
      atC (q := ⟨i, s, M1, x1⟩) ⟨w, (dropF N s (gA l i).k).1, outL s.l (gA l i).k, (dropF N s (gA l i).k).2⟩ (by dsimp only; unfold actF; rw [if_neg hd0, if_pos hd, hw]) t2 t1
    refine ⟨s.l, rfl, hm, s.l, rfl, hm, fun hne => ⟨fun _ => ?_, fun q => (by cases q)⟩, fun j hj hjk => ⟨fun q => ?_, fun _ => ?_⟩⟩
    · have hn : getP s.l (gA l i).k = none := by
        cases h : getP s.l (gA l i).k with
        | none => rfl
        | some b => exact absurd rfl (hne _ (getP_some h))
      exact ⟨N, s, x1, vin hv hT, by omega, drop 7 (if_pos hn)⟩
    · omega
    · have hn : ¬ getP s.l (gA l i).k = none := fun h => getP_none h _ (gP_mem hj) hjk
      exact ⟨N, s, x1, vin hv hT, by omega, drop 0 (if_neg hn)⟩
  · have hd0 : ¬ (gA l i).d = 0 := by simpa using qd
    have hd1 : ¬ (gA l i).d = 1 := by simpa using qd1
    have he : actF N s (gA l i) = ⟨0, 0, s.l, s⟩ := by unfold actF; rw [if_neg hd0, if_neg hd1]
    exact ⟨x1, rfl, rfl, ⟨rfl, rfl⟩, N, s, x1, rfl, rfl, ⟨rfl, rfl⟩, hv, fun M2 hM2 => atC (q := ⟨i, s, M1, x1⟩) ⟨0, 0, s.l, s⟩ he hv hM2⟩
  · have hd0 : ¬ (gA l i).d = 0 := by simpa using qd
    have hd1 : ¬ (gA l i).d = 1 := by simpa using qd1
    have he : actF N s (gA l i) = ⟨0, 0, s.l, s⟩ := by unfold actF; rw [if_neg hd0, if_neg hd1]
    exact atC (q := ⟨i, s, M1, x1⟩) ⟨0, 0, s.l, s⟩ he hv hT
  · rintro ⟨⟨j, M2, x2⟩, hv2, hT2⟩
    dsimp only at hv2 hT2 ⊢
    generalize actF N s (gA l i) = r at *
    obtain ⟨a1, a2, a3, a4⟩ := hac
    have hbd2 := VI.b hv2
    have hok2 := hbd2.okl
    have hll2 := hbd2.ll
    have b8 : ∀ y : List P2, OkL y → ∀ p ∈ y, p.2.length ≤ 800000 := fun y hy p hp => by have := (hy.rg p hp).2.2; omega
    rw [w64 (n := (i : Int) + 1) (by omega) (by omega)]
    have wq : IntKind.i64.wrap ((N : Int).tdiv 4) = ((N / 4 : Nat) : Int) := by
      rw [Int.tdiv_eq_ediv_of_nonneg (by omega), w64 (by omega) (by omega)]; omega
    rw [wq]
    have nx : ∀ y, r.s.l = y → Nx (plLI N l) ⟨⟨i, s, M1, x1⟩, ⟨hi, hv, hT, hgi⟩⟩ ([.dat (.sl 4 (l.map acD)), .int .i64 (N : Int), .ptr 0 0, .ptr 1 0, .dat (prs y), .int .i64 ((i : Int) + 1)], vauD N r.s M2 x2) := fun y hy => by
      subst hy
      exact Nx.mk' (⟨⟨i + 1, r.s, M2, x2⟩, ⟨by dsimp only; omega, hv2, hT2, by dsimp only; omega⟩⟩ : {q : PQ // PlI N l.length q}) rfl (by dsimp only; omega)
    have hne : ∀ y z : List P2, y = z → ¬ ((!decide (y = z)) = true) := fun y z h => by rw [decide_eq_true h]; simp
    refine ⟨fun h0 => ⟨fun h6 => ?_, fun h6 => ?_⟩, fun h0 => ?_⟩
    · have w0 : r.want = 0 := by simpa using h0
      have e6 : r.e = 6 := by simpa using h6
      rcases a1 w0 with ⟨c1, _⟩ | ⟨c1, c2, c3, c4, c5⟩
      · omega
      · exact ⟨r.next, rfl, c3, c4, fun _ => nx s.l (by rw [c2]), fun q => by simp only [gt_iff_lt] at q; omega⟩
    · have w0 : r.want = 0 := by simpa using h0
      have e6 : ¬ r.e = 6 := by simpa using h6
      rcases a1 w0 with ⟨c1, c2⟩ | ⟨c1, _⟩
      · have hon : OkL r.next := by rw [← c2]; exact hok2
        exact ⟨fun q => (by rw [c1, w0] at q; cases q), fun _ => ⟨fun _ => ⟨N, r.s, x2, vin hv2 hT2, r.s.l, r.next, rfl, rfl, by omega, by omega, b8 _ hok2, b8 _ hon, fun q => hne _ _ c2 q, fun _ => nx _ c2⟩, fun q => (by rw [w0] at q; cases q)⟩⟩
      · exact absurd c1 e6
    · have w0 : ¬ r.want = 0 := by simpa using h0
      obtain ⟨c1, c2⟩ := a2 w0
      exact ⟨fun q => (by rw [c1] at q; simp at q), fun _ => ⟨fun q => absurd (by simpa using q) w0, fun _ => ⟨N, r.s, x2, vin hv2 hT2, r.s.l, s.l, rfl, rfl, by omega, by omega, b8 _ hok2, b8 _ hok, fun q => hne _ _ c2 q, fun _ => nx _ c2⟩⟩⟩
end Go.Proofs.Ytkodjbegpheomaa
